/- a loop over a function, and functions with such loops, against the interpreter's -/
import Derived.Test.YticlihmbikcohaaVaRg
namespace Go.Proofs.Yticlihmbikcohaa.Va
open Go Go.RowKit
set_option linter.unusedVariables false
set_option linter.unusedSimpArgs false
/-- The marks among the deferred calls: each names a block of its own that holds no call. -/
def Marks (c : Cx) (n0 : Nat) : List Deferred → Prop
  | [] => True
  | d :: D => ∃ B, d.target = .collected B ∧ n0 ≤ B ∧ c.G B = some (.deferred (some [])) ∧ (∀ e ∈ D, e.target ≠ .collected B) ∧ Marks c n0 D
theorem Marks.keep {c c' : Cx} {n0 : Nat} : ∀ {D : List Deferred}, Marks c n0 D → (∀ B o, c.G B = some o → (∃ d ∈ D, d.target = .collected B) → c'.G B = c.G B) → Marks c' n0 D
  | [], _, _ => trivial
  | d :: D, ⟨B, h1, h2, h3, h4, h5⟩, h => ⟨B, h1, h2, (h B _ h3 ⟨d, by simp, h1⟩).trans h3, h4, h5.keep fun B' o hB' ⟨e, he, ht⟩ => h B' o hB' ⟨e, by simp [he], ht⟩⟩
theorem Marks.at {c : Cx} {n0 : Nat} : ∀ {D : List Deferred}, Marks c n0 D → ∀ d ∈ D, ∃ B, d.target = .collected B ∧ n0 ≤ B ∧ c.G B = some (.deferred (some []))
  | d :: D, ⟨B, h1, h2, h3, h4, h5⟩, e, he => by
    rcases List.mem_cons.1 he with rfl | he
    · exact ⟨B, h1, h2, h3⟩
    · exact h5.at e he
def PostR {R : Type} (C : Cfg) (base : Nat) (c0 : Cx) (w0 : World) (N : Nat) (k : Ex → Env → St → Option R) (r : R) : Exit → Act → World → Prop :=
  fun e a w => ∃ e' ρ σ c D, exOf e' = e ∧ k e' ρ σ = some r ∧ Rel C base c0 w0 N D c ρ σ a w ∧ Marks c w0.heap.size D
section
variable {P : Program} {C : Cfg} {call : Caller} {base : Nat} {c0 c cL : Cx} {w0 w : World} {N NI : Nat} {D : List Deferred} {R : Type} {r : R} {σ : St} {ρ ρL : Env} {a aL : Act} {l : Nat} {r0 : Loop}
theorem code_postR (hT : TabOk P C.T) (hC : CallOk P C call) {f : FuncId} (hD : ∀ (base : Nat) (c0 : Cx) (w0 : World) (D : List Deferred), GlobOk C.T c0 → DrawOk P C call f base c0 w0 N D r) {x : Code} {k : Ex → Env → St → Option R} (hd : dstOk N x = true) (h : evalCode C call f x ρ σ k = some r) (hR : Rel C base c0 w0 N D c ρ σ a w) (hM : Marks c w0.heap.size D) :
    x.wp P (PostR C base c0 w0 N k r) a w := by
  refine wp_mono (code_sound hT hC (hD _ c w D hR.env.2) x k hd h hR.root) fun e a' w' ⟨e', ρ', σ', c', he, hk, hR'⟩ => ⟨e', ρ', σ', c', D, he, hk, ⟨hR'.env, hR'.inv, hR.fwd.trans hR'.fwd, hR'.defers, hR'.size⟩, hM.keep fun B o hB _ => hR'.fwd.G B (lt_of_some (hR.inv.G B o hB).heap)⟩
theorem range_sound (hT : TabOk P C.T) (hC : CallOk P C call) {f : FuncId} (hD : ∀ (base : Nat) (c0 : Cx) (w0 : World) (D : List Deferred), GlobOk C.T c0 → DrawOk P C call f base c0 w0 N D r) {g : Operand} {ps : Array Tmp} {assign body : Code} {k : Ex → Env → St → Option R} (hb0 : base ≤ w0.heap.size) (hd : dstOk N (.rangeFunc g ps assign body) = true)
    (h : evalR P C call f (.rangeFunc g ps assign body) ρ σ k = some r) (hR : Rel C base c0 w0 N D c ρ σ a w) (hM : Marks c w0.heap.size D) : (Code.rangeFunc g ps assign body).wp P (PostR C base c0 w0 N k r) a w := by
  simp only [evalR] at h
  split at h
  rotate_left
  · cases h
  rename_i gf caps hv
  split at h
  rotate_left
  · cases h
  rename_i fn fb hfn
  split at h
  rotate_left
  · cases h
  rename_i hok
  simp only [Bool.and_eq_true, decide_eq_true_eq, bne_iff_ne, ne_eq, List.isEmpty_iff, Array.isEmpty_iff] at hok
  obtain ⟨⟨⟨⟨⟨hdf, hcl⟩, hnm⟩, hres⟩, hpa⟩, hpb⟩ := hok
  unfold iterFn at hfn
  split at hfn
  rotate_left
  · cases hfn
  rename_i fn' hf
  split at hfn
  rotate_left
  · cases hfn
  rename_i b' hb
  simp only [Option.some.injEq, Prod.mk.injEq] at hfn
  obtain ⟨rfl, rfl⟩ := hfn
  simp only [dstOk, Bool.and_eq_true] at hd
  obtain ⟨⟨hps, hda⟩, hdb⟩ := hd
  have hgv := hR.env.val g
  rw [hv] at hgv
  obtain ⟨ws, hws, hcap⟩ := rep_func hgv
  refine (wpIn_wide (n := 0)).1 (wpIn_rangeFunc fun fid _ => ?_)
  let r0 : Loop := { state := .ready, pending := none, fn := fid, tmps := a.tmps, params := ps, assign, body, defers := w.heap.size }
  have s1 : (w.alloc (.deferred (some []))).heap.size = w.heap.size + 1 := World.size_alloc _ _
  have hI1 := hR.inv.newG (.deferred (some []))
  have hI2 := hI1.newG (.loop r0)
  have hF1 := hR.fwd.newG hb0 (.deferred (some []))
  have hF2 := hF1.newG hb0 (.loop r0)
  rw [s1] at hI2 hF2
  generalize hc2 : (c.setG w.heap.size (.deferred (some []))).setG (w.heap.size + 1) (.loop r0) = c2 at hI2 hF2
  have hx2 : Ext c c2 := by subst hc2; exact (Ext.setG _ _ _).trans (.setG _ _ _)
  have hE2 : RepEnv C.T c2 ρ { tmps := a.tmps, defers := [] } := hR.env.ext hx2
  have hg2 : c2.G (w.heap.size + 1) = some (.loop r0) := by subst hc2; exact setG_at _ _ _
  have hg1 : c2.G w.heap.size = some (.deferred (some [])) := by subst hc2; rw [setG_ne _ _ (by omega)]; exact setG_at _ _ _
  have hgo : ∀ b, b < w.heap.size → c2.G b = c.G b := fun b hb => by subst hc2; rw [setG_ne _ _ (by omega), setG_ne _ _ (by omega)]
  have hle := hR.fwd.below.size
  refine ⟨w.heap.size + 1, [{ target := .collected w.heap.size, args := #[] }], (w.alloc (.deferred (some []))).alloc (.loop r0), { target := .fn (.func gf) ws.toArray, args := #[.func (.yield (w.heap.size + 1)) #[] #[]] }, (w.alloc (.deferred (some []))).alloc (.loop r0), gf, #[.func (.yield (w.heap.size + 1)) #[] #[]] ++ ws.toArray, (w.alloc (.deferred (some []))).alloc (.loop r0), run_enterLoop_outer fid a.tmps ps assign body, ?_, fun _ _ => trivial, ?_, fun h => by simp [Fence.wide] at h, ?_⟩
  · have hws : a.eval g = .func (.func gf) #[] ws.toArray := hws
    simp only [resolve, hws, Deferred.ofValue, Sem.run_pure, List.map_toArray, List.map_cons, List.map_nil]
    simp [Act.eval]
  · simp [invoke, callFunc, hf, hb, hnm]
  · refine callsIn_wide.2 (calls_of_wp hf hb ?_)
    have hlen : ws.length = caps.length := hcap.toA.1
    have hRY : RelY C base c0 w0 fn'.ntmps (w.heap.size + 1) r0 c2 [0] c2 (entryEnv (.undef :: caps)) σ none { tmps := (#[Value.func (.yield (w.heap.size + 1)) #[] #[]] ++ ws.toArray) ++ Array.replicate (fn'.ntmps - (#[Value.func (.yield (w.heap.size + 1)) #[] #[]] ++ ws.toArray).size) undef, defers := [] } ((w.alloc (.deferred (some []))).alloc (.loop r0)) := by
      refine ⟨⟨⟨fun i => ?_, hE2.2⟩, hI2, hF2, rfl, by simp; omega⟩, fun s hs => ?_, hg2, .refl _, fun _ _ => rfl⟩
      · cases i with
        | zero => trivial
        | succ i =>
          simp only [entryEnv, List.getElem?_cons_succ, Array.getD_eq_getD_getElem?]
          by_cases hi : i < caps.length
          · have e1 : ((#[Value.func (.yield (w.heap.size + 1)) #[] #[]] ++ ws.toArray) ++ Array.replicate (fn'.ntmps - (#[Value.func (.yield (w.heap.size + 1)) #[] #[]] ++ ws.toArray).size) undef)[i + 1]? = ws[i]? := by
              rw [Array.getElem?_append_left (by simp; omega), Array.getElem?_append_right (by simp)]
              simp
            rw [e1]
            obtain ⟨_, hget⟩ := (RepC.toA hcap)
            rw [List.getElem?_eq_getElem hi, List.getElem?_eq_getElem (by omega)]
            exact (hget i _ _ (List.getElem?_eq_getElem hi) (List.getElem?_eq_getElem (by omega))).ext hx2
          · have e1 : ((#[Value.func (.yield (w.heap.size + 1)) #[] #[]] ++ ws.toArray) ++ Array.replicate (fn'.ntmps - (#[Value.func (.yield (w.heap.size + 1)) #[] #[]] ++ ws.toArray).size) undef)[i + 1]?.getD undef = undef := by
              rw [Array.getElem?_append_right (by simp; omega), Array.getElem?_replicate]
              split <;> rfl
            rw [e1, List.getElem?_eq_none (by omega)]
            exact mk_unit
      · rcases List.mem_singleton.1 hs with rfl
        show Array.getD ((#[Value.func (.yield (w.heap.size + 1)) #[] #[]] ++ ws.toArray) ++ _) 0 undef = _
        rw [Array.getD_eq_getD_getElem?, Array.getElem?_append_left (by simp), Array.getElem?_append_left (by simp)]
        rfl
    refine wp_mono (codeY_sound (r0 := r0) (aL := a) hT hC hD hpa hpb hda hdb (fun d hd => by simpa using List.all_eq_true.1 hps d hd) hb0 (by omega) rfl rfl rfl rfl rfl rfl hE2 hR.size b' _ hdf h hRY) fun e a' w' ⟨e', ρ', σ', p', c', he, hk, hR'⟩ => ?_
    have hx' : Ext c c' := hx2.trans hR'.x
    have hl' := (hR'.rel.inv.G _ _ hR'.g)
    have hRb : ∀ c3 w3, Inv C.T base c3 σ' w3 → Ext c c3 → Fwd base c0 c3 w0 w3 → Rel C base c0 w0 N ([{ target := .collected w.heap.size, args := #[] }] ++ D) c3 ρ σ' { a with defers := [{ target := .collected w.heap.size, args := #[] }] ++ a.defers } w3 := fun c3 w3 g1 g2 g3 =>
      ⟨hR.env.ext g2, g1, g3, by rw [← hR.defers], hR.size⟩
    have key : nextK k ρ σ' p' = some r → a'.defers = [] ∧ ∃ v, (results fn' a'.tmps).run P w' = .ok v w' ∧ rangePost Fence.wide 0 P (w.heap.size + 1) (PostR C base c0 w0 N k r) { a with defers := [{ target := .collected w.heap.size, args := #[] }] ++ a.defers } (.returned v) w' := by
      intro hq
      have hrun : (results fn' a'.tmps).run P w' = .ok (.tuple #[]) w' := by simp [results, hres]
      refine ⟨hR'.rel.defers, _, hrun, ?_⟩
      have hend := run_endLoop (P := P) hl'.heap (by cases p' with | none => exact (by decide : LoopState.ready ≠ .busy) | some _ => exact (by decide : LoopState.done ≠ .busy))
      refine ⟨_, _, hend, ?_⟩
      have hfin : Rel C base c0 w0 N ([{ target := .collected w.heap.size, args := #[] }] ++ D) (c'.setG (w.heap.size + 1) (.loop { recP r0 p' with state := .exhausted })) ρ σ' { a with defers := [{ target := .collected w.heap.size, args := #[] }] ++ a.defers } (w'.putObj (w.heap.size + 1) (.loop { recP r0 p' with state := .exhausted })) :=
        hRb _ _ (hR'.rel.inv.setG hR'.g _) (hx'.trans (.setG _ _ _)) (hR'.rel.fwd.setG hb0 (by omega) _)
      have hmk : Marks (c'.setG (w.heap.size + 1) (.loop { recP r0 p' with state := .exhausted })) w0.heap.size ([{ target := .collected w.heap.size, args := #[] }] ++ D) := by
        refine ⟨w.heap.size, rfl, hle, ?_, fun e he ht => ?_, hM.keep fun B o hB _ => ?_⟩
        · rw [setG_ne _ _ (by omega), hR'.gk _ (by omega)]; exact hg1
        · obtain ⟨B, h1, _, h3⟩ := hM.at e he
          rw [h1] at ht
          have := lt_of_some (hR.inv.G B _ h3).heap
          simp only [Target.collected.injEq] at ht
          omega
        · have := lt_of_some (hR.inv.G B o hB).heap
          rw [setG_ne _ _ (by omega), hR'.gk _ (by omega), hgo B this]
      cases p' with
      | none => exact ⟨.normal, ρ, σ', _, _, rfl, hq, hfin, hmk⟩
      | some ex =>
        cases ex with
        | normal => exact wpIn_skip ⟨.normal, ρ, σ', _, _, rfl, hq, hfin, hmk⟩
        | exit i => exact wpIn_exit ⟨.exit i, ρ, σ', _, _, rfl, hq, hfin, hmk⟩
        | ret => exact wpIn_ret ⟨.ret, ρ, σ', _, _, rfl, hq, hfin, hmk⟩
    subst he
    cases e' with
    | normal => exact key hk
    | ret => exact key hk
    | exit i => cases hk
theorem loopR_sound {x : Code} {B : Env → St → (Ex → Env → St → Option R) → Option R} {k : Ex → Env → St → Option R}
    (hx : ∀ (k : Ex → Env → St → Option R) {D : List Deferred} {c : Cx} {ρ : Env} {σ : St} {a : Act} {w : World}, B ρ σ k = some r → Rel C base c0 w0 N D c ρ σ a w → Marks c w0.heap.size D → x.wp P (PostR C base c0 w0 N k r) a w) :
    ∀ (n : Nat) {D : List Deferred} {c : Cx} {ρ : Env} {σ : St} {a : Act} {w : World}, iterK B n ρ σ k = some r → Rel C base c0 w0 N D c ρ σ a w → Marks c w0.heap.size D →
      ∀ (b : Frame) (kk : List Item) (cs : List Frame), ∃ e a' w', PostR C base c0 w0 N k r e a' w' ∧ Arrives P (lone (b.at a (.code x :: .inLoop x :: kk)) cs w) b kk cs e a' w'
  | 0, D, c, ρ, σ, a, w, h, _, _ => by cases h
  | n + 1, D, c, ρ, σ, a, w, h, hR, hM => by
    intro b kk cs
    simp only [iterK] at h
    obtain ⟨e, a₁, w₁, ⟨e', ρ', σ', c', D', he, hk, hR', hM'⟩, harr⟩ := hx _ h hR hM b (.inLoop x :: kk) cs
    subst he
    cases e' with
    | normal =>
      have hk : iterK B n ρ' σ' k = some r := hk
      obtain ⟨e₂, a₂, w₂, hq₂, harr₂⟩ := loopR_sound hx n hk hR' hM' b kk cs
      exact ⟨e₂, a₂, w₂, hq₂, .of_steps (Steps.trans harr (.one step_inLoop)) harr₂⟩
    | exit id => exact ⟨_, a₁, w₁, ⟨_, ρ', σ', c', D', rfl, hk, hR', hM'⟩, .pass (x := .inLoop x) rfl (fun _ _ => .inl (by simp [exOf])) harr⟩
    | ret => exact ⟨_, a₁, w₁, ⟨_, ρ', σ', c', D', rfl, hk, hR', hM'⟩, .pass (x := .inLoop x) rfl (fun _ _ => .inl (by simp [exOf])) harr⟩
theorem codeR_sound (hT : TabOk P C.T) (hC : CallOk P C call) {f : FuncId} (hD : ∀ (base : Nat) (c0 : Cx) (w0 : World) (D : List Deferred), GlobOk C.T c0 → DrawOk P C call f base c0 w0 N D r) (hb0 : base ≤ w0.heap.size) :
    ∀ (x : Code) (k : Ex → Env → St → Option R) {D : List Deferred} {c : Cx} {ρ : Env} {σ : St} {a : Act} {w : World}, dstOk N x = true → evalR P C call f x ρ σ k = some r → Rel C base c0 w0 N D c ρ σ a w → Marks c w0.heap.size D →
    x.wp P (PostR C base c0 w0 N k r) a w
  | .seq x y, k, D, c, ρ, σ, a, w, hd, h, hR, hM => by
    simp only [dstOk, Bool.and_eq_true] at hd
    simp only [evalR] at h
    refine wp_seq (wp_mono (codeR_sound hT hC hD hb0 x _ hd.1 h hR hM) fun e a' w' ⟨e', ρ', σ', c', D', he, hk, hR', hM'⟩ => ?_)
    subst he
    cases e' with
    | normal => exact codeR_sound hT hC hD hb0 y k hd.2 hk hR' hM'
    | exit id => exact ⟨_, ρ', σ', c', D', rfl, hk, hR', hM'⟩
    | ret => exact ⟨_, ρ', σ', c', D', rfl, hk, hR', hM'⟩
  | .cond cd x y, k, D, c, ρ, σ, a, w, hd, h, hR, hM => by
    simp only [dstOk, Bool.and_eq_true] at hd
    simp only [evalR, brV] at h
    split at h
    · rename_i t hv
      have hx := hR.env.val cd
      rw [hv] at hx
      have hx := rep_bool hx
      cases t with
      | true => exact wp_cond hx (codeR_sound hT hC hD hb0 x k hd.1 h hR hM)
      | false => exact wp_cond hx (codeR_sound hT hC hD hb0 y k hd.2 h hR hM)
    · cases h
  | .block id x, k, D, c, ρ, σ, a, w, hd, h, hR, hM => by
    simp only [evalR] at h
    refine wp_block (wp_mono (codeR_sound hT hC hD hb0 x _ hd h hR hM) fun e a' w' ⟨e', ρ', σ', c', D', he, hk, hR', hM'⟩ => ?_)
    subst he
    cases e' with
    | normal => exact ⟨_, ρ', σ', c', D', rfl, hk, hR', hM'⟩
    | exit i =>
      show (if i = id then PostR C base c0 w0 N k r .normal a' w' else PostR C base c0 w0 N k r (.exit i) a' w')
      have hk : k (if i = id then .normal else .exit i) ρ' σ' = some r := hk
      split at hk
      · rename_i hi
        rw [if_pos hi]; exact ⟨.normal, ρ', σ', c', D', rfl, hk, hR', hM'⟩
      · rename_i hi
        rw [if_neg hi]; exact ⟨.exit i, ρ', σ', c', D', rfl, hk, hR', hM'⟩
    | ret => exact ⟨_, ρ', σ', c', D', rfl, hk, hR', hM'⟩
  | .loop x, k, D, c, ρ, σ, a, w, hd, h, hR, hM => by
    simp only [evalR] at h
    intro b kk cs
    obtain ⟨e, a', w', hq, harr⟩ := loopR_sound (x := x) (fun k {D c ρ σ a w} hB hR hM => codeR_sound hT hC hD hb0 x k hd hB hR hM) _ h hR hM b kk cs
    exact ⟨e, a', w', hq, .of_steps (.one step_loop) harr⟩
  | .rangeFunc g ps as1 bd, k, D, c, ρ, σ, a, w, hd, h, hR, hM => range_sound hT hC hD hb0 hd h hR hM
  | .skip, k, D, c, ρ, σ, a, w, hd, h, hR, hM => code_postR hT hC hD hd h hR hM
  | .region id ops draw, k, D, c, ρ, σ, a, w, hd, h, hR, hM => code_postR hT hC hD hd h hR hM
  | .exit id, k, D, c, ρ, σ, a, w, hd, h, hR, hM => code_postR hT hC hD hd h hR hM
  | .ret, k, D, c, ρ, σ, a, w, hd, h, hR, hM => code_postR hT hC hD hd h hR hM
end
end Go.Proofs.Yticlihmbikcohaa.Va
