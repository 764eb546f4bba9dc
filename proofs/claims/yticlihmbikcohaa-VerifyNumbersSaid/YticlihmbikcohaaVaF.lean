/- the machine's calls, against the interpreter's -/
import Derived.Test.YticlihmbikcohaaVaRh
import Derived.RangeFuncLeaves
namespace Go.Proofs.Yticlihmbikcohaa.Va
open Go Go.RowKit
set_option linter.unusedVariables false
set_option linter.unusedSimpArgs false
section
variable {P : Program} {T : Tab} {base : Nat} {c c0 : Cx} {σ : St} {w w0 : World}
/-- What a function of values hands back: the tokens' slice is told first. -/
def Cx.back (c : Cx) (w : World) (ids : List Nat) (n t : Nat) : Cx := { c.frozen w ids with ntok := n, τ := fun _ => c.τ t, G := c.G }
theorem Inv.back (hI : Inv T base c σ w) {ids : List Nat} (hids : ∀ i ∈ ids, ∃ ob, σ.obj i = some ob) {t : Nat} {σ' : St} (h : σ' = St.empty ∨ (σ.live t = true ∧ σ' = ⟨fun _ => none, 0, fun i => i == 0, 1⟩)) : Inv T base (c.back w ids σ'.ntok t) σ' w := by
  have hf := hI.frozen ids
  have hFb : ∀ b o, c.G b = some o → ∀ o', (c.frozen w ids).F b o' = none := fun b o hg o' => (frozen_below hI hids (fun i ob _ hoi e => (hI.G b o hg).obj i ob hoi e) o').trans ((hI.G b o hg).F o')
  rcases h with rfl | ⟨hl, rfl⟩
  · exact ⟨rfl, rfl, hI.le, hf.F, fun id ob ho => (by cases ho), fun i j oi oj hi => (by cases hi), fun t ht => (by cases ht), fun t id ob ht => (by cases ht), fun t t' ht => (by cases ht), fun b o hg => ⟨(hI.G b o hg).heap, hFb b o hg, fun id ob ho => (by cases ho), fun t ht => (by cases ht)⟩⟩
  · refine ⟨rfl, rfl, hI.le, hf.F, fun id ob ho => (by cases ho), fun i j oi oj hi => (by cases hi), fun t' ht' => ?_, fun t id ob ht ho => (by cases ho), fun t' t'' h1 h2 hne => ?_, fun b o hg => ⟨(hI.G b o hg).heap, hFb b o hg, fun id ob ho => (by cases ho), fun t' ht' => ?_⟩⟩
    · obtain ⟨g1, g2⟩ := hI.tok t hl
      have ht0 : t' = 0 := by simpa using ht'
      exact ⟨by show t' < 1; omega, g2.keep (c' := c.back w ids 1 t) (fun _ _ => rfl) (fun b hb o => frozen_below hI hids (fun i ob hi ho e => hI.tokObj t i ob hl ho (by rw [hb, e])) o)⟩
    · have a1 : t' = 0 := by simpa using h1
      have a2 : t'' = 0 := by simpa using h2
      omega
    · exact (hI.G b o hg).tok t hl
theorem valSt1_freeze {v u : AV} (h : freeze σ v = some u) : valSt1 u = St.empty := by
  cases v <;> simp only [freeze] at h <;> try (first | (cases h; done) | (simp only [Option.some.injEq] at h; subst h; rfl))
  · rename_i t vs
    cases hf : freezeL σ vs with
    | none => rw [hf] at h; cases h
    | some us => rw [hf] at h; simp only [Option.map_some, Option.some.injEq] at h; subst h; rfl
  · rename_i e n xs tok
    simp only [Option.some.injEq] at h; subst h
    match tok with
    | none => rfl
    | some 0 => rfl
    | some (t + 1) => rfl
  · obtain ⟨xs, _, h⟩ := Option.bind_eq_some_iff.1 h
    split at h
    · simp only [Option.some.injEq] at h; subst h; rfl
    · cases h
theorem back_rep {ids : List Nat} {n t : Nat} {v : AV} {x : Value} (h : Rep1 T (c.frozen w ids) v x) : Rep1 T (c.back w ids n t) v x :=
  h.ext ⟨Nat.le_refl _, Nat.zero_le _, fun i hi => absurd hi (Nat.not_lt_zero _), fun i hi => absurd hi (Nat.not_lt_zero _), fun i hi => absurd hi (Nat.not_lt_zero _), fun _ _ _ h => h⟩
/-- the first result, and the state that it leaves -/
theorem retV1_sound (hT : TabOk P T) (hI : Inv T base c σ w) {v u : AV} {x : Value} (h : retV1 σ v = some u) (hr : RepT T c v x) :
    ∃ t, (valSt1 u = St.empty ∨ (σ.live t = true ∧ valSt1 u = ⟨fun _ => none, 0, fun i => i == 0, 1⟩)) ∧ (∀ i ∈ viewIds v, ∃ ob, σ.obj i = some ob) ∧ ∀ ids, (∀ i, i ∈ viewIds v → i ∈ ids) → Rep1 T (c.back w ids (valSt1 u).ntok t) u x := by
  have gen : ∀ {v u : AV}, freeze σ v = some u → RepT T c v x → ∃ t, (valSt1 u = St.empty ∨ (σ.live t = true ∧ valSt1 u = ⟨fun _ => none, 0, fun i => i == 0, 1⟩)) ∧ (∀ i ∈ viewIds v, ∃ ob, σ.obj i = some ob) ∧ ∀ ids, (∀ i, i ∈ viewIds v → i ∈ ids) → Rep1 T (c.back w ids (valSt1 u).ntok t) u x :=
    fun hf hr => ⟨0, .inl (valSt1_freeze hf), freeze_obj hf, fun ids hv => back_rep (freeze1 hT hI (fun _ _ h => h) hf hv (hr.one (freeze_one hf)))⟩
  unfold retV1 at h
  split at h
  · rename_i e n xs t
    simp only [Option.some.injEq] at h
    subst h
    cases hl : σ.live t with
    | true =>
      rw [if_pos rfl]
      refine ⟨t, .inr ⟨hl, rfl⟩, fun i hi => by simp [viewIds] at hi, fun ids _ => ?_⟩
      have hk : ∀ {a : Option Addr} {len cap : Nat}, TokOk c (some (t + 1)) a len cap e → TokOk (c.back w ids 1 t) (some 1) a len cap e := fun h => ⟨Nat.zero_lt_one, h.2⟩
      rcases rep_list hr with ⟨rfl, a, cap, rfl, ha, hk'⟩ | ⟨hne, rfl, cs, g, o, cap, rfl, hL, hF, hcap, hk'⟩
      · exact ⟨_, .list0 _ e n a cap _ ha (hk hk'), rfl⟩
      · exact ⟨_, .list _ e xs cs g o cap _ (hL.ext ⟨Nat.le_refl _, Nat.le_refl _, fun i hi => absurd hi (Nat.not_lt_zero _), fun i hi => absurd hi (Nat.not_lt_zero _), fun i hi => absurd hi (Nat.not_lt_zero _), fun _ _ _ h => frozen_F hI h⟩) (fun j v hj => frozen_F hI (hF j v hj)) hne hcap (hk hk'), rfl⟩
    | false =>
      rw [if_neg (by simp)]
      refine ⟨0, .inl rfl, fun i hi => by simp [viewIds] at hi, fun ids hv => back_rep ?_⟩
      exact freeze1 hT hI (σr := σ) (fun _ _ h => h) (v := .list e n xs (some (t + 1))) (by simp [freeze, fullT]) hv hr
  · exact gen h hr
theorem retV_sound (hT : TabOk P T) (h0 : Fwd base c0 c w0 w) (hn : c0.next = 0) (ht : c0.ntok = 0) (hI : Inv T base c σ w) {r r' : AV} {y : Value} (hr : RepT T c r y) (h : retV σ r = some r') :
    ∃ c', Fwd base c0 c' w0 w ∧ Inv T base c' (valSt r') w ∧ RepT T c' r' y := by
  have fin : ∀ (ids : List Nat) (n t : Nat), (∀ i ∈ ids, ∃ ob, σ.obj i = some ob) → Fwd base c0 (c.back w ids n t) w0 w := fun ids n t hids =>
    ⟨⟨by rw [hn]; exact Nat.zero_le _, by rw [ht]; exact Nat.zero_le _, fun i hi => by omega, fun i hi => by omega, fun i hi => by omega, fun b o v hv => frozen_F hI (h0.ext.F b o v hv)⟩, h0.below,
      fun b hb o => (frozen_below hI hids (fun i ob _ ho e => by have := (hI.obj i ob ho).2.1; omega) o).trans (h0.F b hb o), h0.G⟩
  unfold retV at h
  split at h
  · rename_i v vs
    split at h
    · rename_i u us h1 h2
      simp only [Option.some.injEq] at h
      subst h
      obtain ⟨ws, rfl, hwl, hws⟩ := rep_tup hr
      have hw0 : ∃ x, ws[0]? = some x := ⟨_, List.getElem?_eq_getElem (by rw [hwl]; simp)⟩
      obtain ⟨x0, hx0⟩ := hw0
      obtain ⟨t, g1, g2, g3⟩ := retV1_sound hT hI h1 (hws 0 v x0 rfl hx0).toT
      have hids : ∀ i ∈ viewIds v ++ viewIdsL vs, ∃ ob, σ.obj i = some ob := fun i hi => by
        rcases List.mem_append.1 hi with hi | hi
        · exact g2 i hi
        · exact freezeL_obj h2 i hi
      refine ⟨c.back w (viewIds v ++ viewIdsL vs) (valSt1 u).ntok t, fin _ _ _ hids, hI.back hids g1, ?_⟩
      obtain ⟨f1, f2⟩ := freezeL_get h2
      refine ⟨ws, rfl, by simp [hwl, f1], fun i a b ha hb => ?_⟩
      cases i with
      | zero =>
        simp only [List.getElem?_cons_zero, Option.some.injEq] at ha
        subst ha
        rw [hx0] at hb
        cases hb
        exact g3 _ (fun i hi => List.mem_append_left _ hi)
      | succ i =>
        simp only [List.getElem?_cons_succ] at ha
        have hlt : i < vs.length := by rw [← f1]; exact (List.getElem?_eq_some_iff.1 ha).1
        have hv : vs[i]? = some vs[i] := List.getElem?_eq_getElem hlt
        exact back_rep (freeze1 hT hI (fun _ _ h => h) (f2 i _ a hv ha) (fun k hk => List.mem_append_right _ (viewIdsL_mem hv k hk)) (hws (i + 1) _ b (by simp [hv]) hb))
    · cases h
  · simp only [Option.some.injEq] at h
    subst h
    obtain ⟨ws, rfl, hwl, hws⟩ := rep_tup hr
    exact ⟨c.back w [] 0 0, fin [] 0 0 (fun i hi => by cases hi), hI.back (σ' := St.empty) (fun i hi => by cases hi) (.inl rfl), ⟨ws, rfl, hwl, fun i v w hv => by simp at hv⟩⟩
  · rename_i v h3 h4
    obtain ⟨t, g1, g2, g3⟩ := retV1_sound hT hI h hr
    have hv : valSt r' = valSt1 r' := by
      cases r' with
      | tup vs =>
        exfalso
        have hh := g3 _ (fun i hi => hi)
        obtain ⟨d, hd, _⟩ := hh
        generalize y.cells.toList = cs at hd
        cases hd
      | _ => rfl
    rw [hv]
    exact ⟨_, fin _ _ _ g2, hI.back g2 g1, (g3 _ (fun i hi => hi)).toT⟩
theorem compV_spec {v u : AV} (h : compV v = some u) : u = v ∧ v ≠ .undef ∧ ∀ vs, v ≠ .tup vs := by
  cases v <;> simp only [compV, Option.some.injEq] at h <;> first | (cases h; done) | (subst h; exact ⟨rfl, by simp, by simp⟩)
def resRun (a : Act) : ResultVar → Sem Value
  | .tmp t => pure (a.tmps.getD t undef)
  | .cell x t => do loadVar t (← asAddr (a.tmps.getD x undef))
theorem result_run (hT : TabOk P T) (hI : Inv T base c σ w) {ρ : Env} {a : Act} (hE : RepEnv T c ρ a) {rv : ResultVar} {v : AV} (h : aResult T ρ σ rv = some v) :
    ∃ y, (resRun a rv).run P w = .ok y w ∧ Rep1 T c v y := by
  cases rv with
  | tmp t =>
    obtain ⟨rfl, h1⟩ := compV_spec h
    exact ⟨_, rfl, (hE.1 t).one h1⟩
  | cell x t =>
    obtain ⟨u, hu, h⟩ := Option.bind_eq_some_iff.1 h
    obtain ⟨rfl, h1⟩ := compV_spec h
    obtain ⟨y, hy, hr⟩ := sd_load hT hI hu (hE.1 x)
    refine ⟨y, ?_, hr⟩
    have hp : ∃ ad, a.tmps.getD x undef = .pointer (some ad) := by
      have hx := hE.1 x
      unfold aLoad at hu
      split at hu
      · rename_i hv; rw [hv] at hx; obtain ⟨b, o, d, cs, e, _⟩ := rep_fptr hx; exact ⟨_, e⟩
      · rename_i hv; rw [hv] at hx; obtain ⟨o, e, _⟩ := rep_ptr hx; exact ⟨_, e⟩
      · cases hu
    obtain ⟨ad, had⟩ := hp
    show (do loadVar t (← asAddr (a.tmps.getD x undef)) : Sem Value).run P w = .ok y w
    rw [had] at hy ⊢
    simpa [Instr.loadAt, Instr.sureAddr, asAddr, Sem.run_bind] using hy
theorem results_run (hT : TabOk P T) (hI : Inv T base c σ w) {ρ : Env} {a : Act} (hE : RepEnv T c ρ a) : ∀ {rs : List ResultVar} {vs : List AV}, rs.mapM (aResult T ρ σ) = some vs →
    ∃ ys, (rs.mapM (resRun a)).run P w = .ok ys w ∧ ys.length = vs.length ∧ ∀ (i : Nat) v y, vs[i]? = some v → ys[i]? = some y → Rep1 T c v y
  | [], vs, h => by
    simp only [List.mapM_nil, Option.pure_def, Option.some.injEq] at h
    subst h
    exact ⟨[], by simp, rfl, fun i v y hv => by simp at hv⟩
  | rv :: rs, vs, h => by
    simp only [List.mapM_cons, Option.bind_eq_bind, Option.pure_def] at h
    obtain ⟨v, hv, h⟩ := Option.bind_eq_some_iff.1 h
    obtain ⟨us, hu, h⟩ := Option.bind_eq_some_iff.1 h
    simp only [Option.some.injEq] at h
    subst h
    obtain ⟨y, hy, hr⟩ := result_run hT hI hE hv
    obtain ⟨ys, hys, hl, hrs⟩ := results_run hT hI hE hu
    refine ⟨y :: ys, ?_, by simp [hl], fun i v' y' hv' hy' => ?_⟩
    · rw [List.mapM_cons, Sem.run_bind, hy]
      simp only [Result.andThen_ok, Sem.run_bind, hys, Sem.run_pure]
    · cases i with
      | zero => simp only [List.getElem?_cons_zero, Option.some.injEq] at hv' hy'; subst hv' hy'; exact hr
      | succ i => exact hrs i v' y' (by simpa using hv') (by simpa using hy')
theorem rets_run (hT : TabOk P T) (hI : Inv T base c σ w) {ρ : Env} {a : Act} (hE : RepEnv T c ρ a) {fn : Func} {v : AV} (h : aResults T ρ σ fn.results.toList = some v) : ∃ y, (results fn a.tmps).run P w = .ok y w ∧ RepT T c v y := by
  unfold aResults at h
  cases hm : fn.results.toList.mapM (aResult T ρ σ) with
  | none => rw [hm] at h; cases h
  | some vs =>
    rw [hm] at h
    simp only [Option.map_some, Option.some.injEq] at h
    obtain ⟨ys, hys, hl, hr⟩ := results_run hT hI hE hm
    have hrun : (results fn a.tmps).run P w = .ok (if h : ys.toArray.size = 1 then ys.toArray[0] else .tuple ys.toArray) w := by
      have e : results fn a.tmps = (do let vs ← fn.results.mapM (resRun a); pure (if h : vs.size = 1 then vs[0] else .tuple vs)) := by
        unfold results
        congr 1
      rw [e, Sem.run_bind, Array.mapM_eq_mapM_toList, Sem.run_map, hys]
      simp
    refine ⟨_, hrun, ?_⟩
    subst h
    clear hrun hys hm
    match vs, ys, hl, hr with
    | [v], [y], _, hr => exact (hr 0 v y rfl rfl).toT
    | [], [], hl, hr => exact ⟨[], rfl, rfl, hr⟩
    | v1 :: v2 :: vs, y1 :: y2 :: ys, hl, hr =>
      rw [dif_neg (by simp)]
      exact ⟨_, rfl, hl, hr⟩
end
section
variable {P : Program} {C : Cfg}
def ExtOk (P : Program) (C : Cfg) : Prop :=
  ∀ ⦃base : Nat⦄ ⦃c : Cx⦄ ⦃σ : St⦄ ⦃w : World⦄ (f : FuncId) (g : List AV → St → Option (AV × St)) (args : List AV) (vs : Array Value) (v : AV) (σ' : St), C.ext f = some g → Inv C.T base c σ w → g args σ = some (v, σ') → RepA C.T c args vs.toList →
    Goes P (f % 1000000) vs w fun y w' => ∃ c', Fwd base c c' w w' ∧ Inv C.T base c' σ' w' ∧ RepT C.T c' v y
theorem trim_obj {σ : St} {n i : Nat} {ob : AObj} (h : (σ.trim n).obj i = some ob) : σ.obj i = some ob := by
  simp only [St.trim] at h
  split at h
  · exact h
  · cases h
theorem ret_key (hT : TabOk P C.T) {base : Nat} {c c' : Cx} {w w' : World} {N : Nat} {D : List Deferred} {ρ' : Env} {σ σ1 σ' : St} {a' : Act} {f : FuncId} {fn : Func} {v : AV} (hI : Inv C.T base c σ w) (hv : C.isVal f = true → σ = St.empty) (hR' : Rel C base c w N D c' ρ' σ1 a' w')
    (hq : retR C f fn.results.toList σ ρ' σ1 = some (v, σ')) : ∃ y, (results fn a'.tmps).run P w' = .ok y w' ∧ ∃ y', Ending.returned y = .returned y' ∧ ∃ c'', Fwd base c c'' w w' ∧ Inv C.T base c'' σ' w' ∧ RepT C.T c'' v y' := by
  unfold retR at hq
  cases hr : aResults C.T ρ' σ1 fn.results.toList with
  | none => rw [hr] at hq; cases hq
  | some r =>
    rw [hr, bnd_some] at hq
    obtain ⟨y, hy, hry⟩ := rets_run hT hR'.inv hR'.env hr
    refine ⟨y, hy, y, rfl, ?_⟩
    cases hval : C.isVal f with
    | true =>
      rw [hval, br_true] at hq
      have hσ := hv hval
      subst hσ
      cases hr' : retV σ1 r with
      | none => rw [hr'] at hq; cases hq
      | some r' =>
        rw [hr', bnd_some] at hq
        simp only [Option.some.injEq, Prod.mk.injEq] at hq
        obtain ⟨rfl, rfl⟩ := hq
        exact retV_sound hT hR'.fwd hI.next hI.ntok hR'.inv hry hr'
    | false =>
      rw [hval, br_false] at hq
      simp only [Option.some.injEq, Prod.mk.injEq] at hq
      obtain ⟨rfl, rfl⟩ := hq
      refine ⟨c', hR'.fwd, ?_, hry⟩
      split
      · exact hR'.inv
      · exact hR'.inv.weak rfl rfl (fun i ob ho => trim_obj ho) (fun _ h => h)
theorem leave_marks {base : Nat} {c : Cx} {w : World} {N n : Nat} {ρ' : Env} {σ1 : St} {fn : Func} {R : Ending → World → Prop} (hb0 : base ≤ w.heap.size) : ∀ {D : List Deferred} {c' : Cx} {w' : World} {a' : Act}, Rel C base c w N D c' ρ' σ1 a' w' → Marks c' w.heap.size D →
    (∀ c'' w'' a'', a''.tmps = a'.tmps → Rel C base c w N [] c'' ρ' σ1 a'' w'' → ∃ v, (results fn a'.tmps).run P w'' = .ok v w'' ∧ R (.returned v) w'') → LeavesInM Fence.wide n P fn a'.tmps R D .returning w'
  | [], c', w', a', hR, _, h => h c' w' a' rfl hR
  | d :: D, c', w', a', hR, ⟨B, h1, h2, h3, h4, h5⟩, h => by
    have hh := (hR.inv.G B _ h3).heap
    refine ⟨by simp, .inl ⟨B, _, h1, run_takeDeferred hh, ?_⟩⟩
    have hR2 := hR.setG h3 (.deferred none) hb0 h2
    exact leave_marks (a' := { a' with defers := D }) hb0 ⟨hR2.env, hR2.inv, hR2.fwd, rfl, hR2.size⟩ (h5.keep fun B' o hB' ⟨e, he, ht⟩ => setG_ne _ _ (fun e' => h4 e he (by rw [ht, e']))) (fun c'' w'' a'' ha hr => h c'' w'' a'' ha hr)
theorem evalF_sound (hT : TabOk P C.T) (hX : ExtOk P C) (hP : ∀ f, C.peek f = true → stillF P C f = true) (hD : ∀ (call : Caller) (f : FuncId) (base : Nat) (c0 : Cx) (w0 : World) (N : Nat) (D : List Deferred) (r : AV × St), CallOk P C call → GlobOk C.T c0 → DrawOk P C call f base c0 w0 N D r) : ∀ d, CallOk P C (evalF P C d)
  | 0 => ⟨still_0 P, fun _ _ _ _ f args vs v σ' _ _ _ h _ => by cases h⟩
  | d + 1 => by
    have ih := evalF_sound hT hX hP hD d
    refine ⟨still_F hP d ih.still, ?_⟩
    intro base c σ w f args vs v σ' hG hI hv h hA
    unfold evalF at h
    split at h
    · rename_i g hg
      exact hX f g args vs v σ' hg hI h hA
    · split at h
      · rename_i fn hf
        split at h
        · rename_i body hb
          split at h
          · rename_i hok
            simp only [Bool.and_eq_true, decide_eq_true_eq, bne_iff_ne, ne_eq] at hok
            obtain ⟨⟨hd, hlen⟩, hnm⟩ := hok
            have hent : (callFunc (f % 1000000) vs).run P w = .ok (.enter (f % 1000000) vs) w := by simp [callFunc, hf, hb, hnm]
            have hvl : vs.size = args.length := by have := hA.1; simpa using this
            have hR : Rel C base c w fn.ntmps [] c (entryEnv args) σ { tmps := vs ++ Array.replicate (fn.ntmps - vs.size) undef, defers := [] } w := by
              refine ⟨⟨fun i => ?_, hG⟩, hI, .refl _ _ _, rfl, by simp; omega⟩
              simp only [entryEnv, Array.getD_eq_getD_getElem?]
              by_cases hi : i < args.length
              · rw [Array.getElem?_append_left (by omega), List.getElem?_eq_getElem hi, Array.getElem?_eq_getElem (by omega)]
                show RepT C.T c args[i] vs[i]
                exact hA.2 i _ _ (List.getElem?_eq_getElem hi) (by rw [Array.getElem?_toList, Array.getElem?_eq_getElem (by omega)])
              · rw [Array.getElem?_append_right (by omega), List.getElem?_eq_none (by omega)]
                have : ((Array.replicate (fn.ntmps - vs.size) undef)[i - vs.size]?).getD undef = undef := by
                  rw [Array.getElem?_replicate]; split <;> rfl
                rw [this]; exact mk_unit
            split at h
            · refine .inl ⟨hent, callsIn_wide.1 (callsIn_of_wp_marks (n := 0) hf hb trivial (wpIn_wide.2 ?_) rfl)⟩
              refine wp_mono (codeR_sound hT ih (fun base c0 w0 D hG => hD _ f base c0 w0 fn.ntmps D _ ih hG) hI.le body _ hd h hR trivial) fun e a' w' ⟨e', ρ', σ1, c', D', he, hk, hR', hM'⟩ => ?_
              have key : retR C f fn.results.toList σ ρ' σ1 = some (v, σ') → LeavesInM Fence.wide 0 P fn a'.tmps (fun e w' => ∃ y, e = .returned y ∧ ∃ c', Fwd base c c' w w' ∧ Inv C.T base c' σ' w' ∧ RepT C.T c' v y) a'.defers .returning w' := fun hq => by
                rw [hR'.defers]
                refine leave_marks hI.le hR' hM' fun c'' w'' a'' ha hr => ?_
                obtain ⟨y, h1, y', h2, h3⟩ := ret_key hT hI hv hr hq
                cases h2
                rw [ha] at h1
                exact ⟨y, h1, y, rfl, h3⟩
              subst he
              cases e' with
              | normal => exact key hk
              | ret => exact key hk
              | exit i => cases hk
            · refine .inl ⟨hent, calls_of_wp hf hb ?_⟩
              refine wp_mono (code_sound hT ih (hD _ f base c w fn.ntmps [] _ ih hG) body _ hd h hR) fun e a' w' ⟨e', ρ', σ1, c', he, hk, hR'⟩ => ?_
              have key : retR C f fn.results.toList σ ρ' σ1 = some (v, σ') → a'.defers = [] ∧ ∃ y, (results fn a'.tmps).run P w' = .ok y w' ∧ ∃ y', Ending.returned y = .returned y' ∧ ∃ c'', Fwd base c c'' w w' ∧ Inv C.T base c'' σ' w' ∧ RepT C.T c'' v y' := fun hq => ⟨hR'.defers, ret_key hT hI hv hR' hq⟩
              subst he
              cases e' with
              | normal => exact key hk
              | ret => exact key hk
              | exit i => cases hk
          · cases h
        · cases h
      · cases h
end
end Go.Proofs.Yticlihmbikcohaa.Va
