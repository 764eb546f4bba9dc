/- loops over functions, against the interpreter's -/
import Derived.Test.YticlihmbikcohaaVaZ
import Derived.RangeFuncRecord
import Derived.RangeFuncCalls
import Derived.TacticsIn
import Derived.OrdersIn
namespace Go.Proofs.Yticlihmbikcohaa.Va
open Go Go.RowKit
set_option linter.unusedVariables false
set_option linter.unusedSimpArgs false
/-- The fence that lets all in; a round's. -/
abbrev Rf (l : Nat) : Fence := Fence.wide.inRound l
section
variable {P : Program} {C : Cfg} {call : Caller} {base : Nat} {c0 c : Cx} {w0 w : World} {N : Nat} {D : List Deferred} {R : Type} {r : R} {σ : St} {ρ : Env} {a : Act}
theorem no_depth {n : Nat} (l : Nat) : (Rf l).depth.isSome = true → 1 ≤ n := fun h => by simp [Fence.wide] at h
theorem rowsIn_wide {n : Nat} {l : Nat} {row : String} {args : Array Value} {R : Value → World → Prop} (h : Rows P row args w R) : RowsIn (Rf l) n P row args w R :=
  fun b cs _ => let ⟨v, w', h1, h2⟩ := h b cs; ⟨v, w', h1, stepsIn_wide.2 h2⟩
/-- An operation goes on in a round as anywhere. -/
theorem opIn {l n : Nat} {o : Oper} {next : Act → World → Prop} {Q : Exit → Act → World → Prop} (hd : ∀ d, o.op ≠ .defer d) (h : o.wp P a w next Q) : o.wpIn (Rf l) n P a w next Q := by
  refine ⟨fun _ _ => trivial, ?_⟩
  have e : (Oper.semAt (Rf l).round a.eval o) = execOp a.eval o := Oper.semAt_some l _ _ hd
  rw [e]
  unfold Oper.wp at h
  generalize hr : (execOp a.eval o).run P w = q at h
  cases q with
  | ok v w' =>
    cases v <;> first | exact h | exact h.elim | skip
    · exact ⟨no_depth l, (callsIn_wide.2 h).inRound l⟩
    · exact ⟨no_depth l, rowsIn_wide h⟩
  | halt x w' => cases x <;> first | exact h | exact h.elim
theorem listIn {l n : Nat} {ops : Array Oper} {Q : Exit → Act → World → Prop} (hQ : ¬ LetsOut Q) : ∀ {os : List Oper} {a : Act} {w : World}, (∀ o ∈ os, ∀ d, o.op ≠ .defer d) → wpList P ops Q os a w → wpListIn (Rf l) n P ops Q os a w
  | [], a, w, _, h => h
  | o :: os, a, w, hd, h => by
    have hd1 : ∀ o ∈ os, ∀ d, o.op ≠ .defer d := fun o' ho' => hd o' (by simp [ho'])
    refine wpListIn_step fun K hK => ?_
    unfold wpList at h
    split at h
    · rename_i hw
      rw [if_pos hw]
      rcases h with h | ⟨_, h⟩
      · refine opIn (hd o (by simp)) (Oper.wp_mono (fun a2 w2 h2 => hK _ _ (listIn hQ hd1 h2)) h)
      · exact absurd h hQ
    · rename_i hw
      rw [if_neg hw]
      exact ⟨fun _ _ => trivial, hK _ _ (listIn hQ hd1 h)⟩
theorem post_in {k : Ex → Env → St → Option R} : ¬ LetsOut (Post C base c0 w0 N D k r) := by
  rintro ⟨a, w, e', ρ, σ, c, he, _⟩
  cases e' <;> cases he
theorem opAnyIn {l n : Nat} {ops : Array Oper} {Q : Exit → Act → World → Prop} (hQ : ¬ LetsOut Q) (hdf : ∀ o ∈ ops.toList, ∀ d, o.op ≠ .defer d) {i : Nat} {K K' : Act → World → Prop} (hK : ∀ a w, K a w → K' a w) {a : Act} {w : World} (h : wpOp P ops Q i K a w) : wpOpIn (Rf l) n P ops Q i K' a w := by
  unfold wpOp at h
  unfold wpOpIn
  split
  · rename_i ho
    rw [ho] at h
    exact hK _ _ h
  · rename_i o ho
    rw [ho] at h
    simp only at h
    split at h
    · rename_i hw
      rw [if_pos hw]
      rcases h with h | ⟨_, h⟩
      · exact opIn (hdf o (by rw [List.mem_iff_getElem?]; exact ⟨i, by rw [Array.getElem?_toList]; exact ho⟩)) (Oper.wp_mono hK h)
      · exact absurd h hQ
    · rename_i hw
      rw [if_neg hw]
      exact ⟨fun _ _ => trivial, hK _ _ h⟩
theorem anyIn {l n : Nat} {ops : Array Oper} {Q : Exit → Act → World → Prop} (hQ : ¬ LetsOut Q) (hdf : ∀ o ∈ ops.toList, ∀ d, o.op ≠ .defer d) : ∀ (fuel : Nat) (listed : Array Bool) (a : Act) (w : World), wpAny P .any ops Q fuel listed a w → wpAnyIn (Rf l) n P .any ops Q fuel listed a w
  | 0, listed, a, w, h => h
  | fuel + 1, listed, a, w, h => ⟨h.1, fun i hi => opAnyIn hQ hdf (fun a' w' h' => anyIn hQ hdf fuel _ a' w' h') (h.2 i hi)⟩
theorem codeIn (hT : TabOk P C.T) (hC : CallOk P C call) {f : FuncId} (hD : DrawOk P C call f base c0 w0 N D r) {l n : Nat} : ∀ (x : Code) (k : Ex → Env → St → Option R) {c : Cx} {ρ : Env} {σ : St} {a : Act} {w : World}, plainR x = true → dstOk N x = true → evalCode C call f x ρ σ k = some r → Rel C base c0 w0 N D c ρ σ a w →
    x.wpIn (Rf l) n P (Post C base c0 w0 N D k r) a w
  | .skip, k, c, ρ, σ, a, w, _, _, h, hR => wpIn_skip ⟨.normal, ρ, σ, c, rfl, h, hR⟩
  | .region id ops draw, k, c, ρ, σ, a, w, hp, hd, h, hR => by
    have hd' : dstsOk N ops.toList := fun o ho d hdo => by
      have := List.all_eq_true.1 hd o ho
      rw [hdo] at this
      simpa using this
    simp only [plainR] at hp
    have hdf : ∀ o ∈ ops.toList, ∀ d, o.op ≠ .defer d := fun o ho d e => by
      have := List.all_eq_true.1 hp o ho
      rw [e] at this
      cases this
    cases draw with
    | false =>
      have h : evalOps C call f ops ops.toList ρ σ (k .normal) = some r := h
      exact wpIn_region_list (listIn post_in hdf (ops_sound hT hC _ hd' h hR))
    | true =>
      have h : (if drawOk C f ops = true then evalQ C call f ops σ ops.toList ρ σ (k .normal) else if drawOkA C f ops = true then evalQ C call f ops σ ops.toList ρ σ (fun ρ' σ' => @br R (aliasOk (aliasPairs ops) ρ') ⟨k .normal ρ' σ'⟩ ⟨none⟩) else if drawOkF C f ops = true then evalQ C call f ops σ ops.toList ρ σ (k .normal) else none) = some r := h
      have fin := fun hok => hD id ops k c ρ σ a w hd' hok hR
      split at h
      · rename_i hok
        have hx := fin (.inl ⟨hok, h⟩)
        exact wpIn_region_any hx.1 (anyIn post_in hdf _ _ _ _ hx.2)
      · split at h
        · rename_i hok
          have hx := fin (.inr (.inl ⟨hok, h⟩))
          exact wpIn_region_any hx.1 (anyIn post_in hdf _ _ _ _ hx.2)
        · split at h
          · rename_i hok
            have hx := fin (.inr (.inr ⟨hok, h⟩))
            exact wpIn_region_any hx.1 (anyIn post_in hdf _ _ _ _ hx.2)
          · cases h
  | .seq x y, k, c, ρ, σ, a, w, hp, hd, h, hR => by
    simp only [dstOk, Bool.and_eq_true] at hd
    simp only [plainR, Bool.and_eq_true] at hp
    simp only [evalCode] at h
    refine wpIn_seq (wpIn_mono (codeIn hT hC hD x _ hp.1 hd.1 h hR) fun e a' w' ⟨e', ρ', σ', c', he, hk, hR'⟩ => ?_)
    subst he
    cases e' with
    | normal => exact codeIn hT hC hD y k hp.2 hd.2 hk hR'
    | exit id => exact ⟨_, ρ', σ', c', rfl, hk, hR'⟩
    | ret => exact ⟨_, ρ', σ', c', rfl, hk, hR'⟩
  | .cond cd x y, k, c, ρ, σ, a, w, hp, hd, h, hR => by
    simp only [dstOk, Bool.and_eq_true] at hd
    simp only [plainR, Bool.and_eq_true] at hp
    simp only [evalCode, brV] at h
    split at h
    · rename_i t hv
      have hx := hR.env.val cd
      rw [hv] at hx
      have hx := rep_bool hx
      cases t with
      | true => exact wpIn_cond_true hx (codeIn hT hC hD x k hp.1 hd.1 h hR)
      | false => exact wpIn_cond_false hx (codeIn hT hC hD y k hp.2 hd.2 h hR)
    · cases h
  | .block id x, k, c, ρ, σ, a, w, hp, hd, h, hR => by
    simp only [evalCode] at h
    refine wpIn_block (wpIn_mono (codeIn hT hC hD x _ hp hd h hR) fun e a' w' ⟨e', ρ', σ', c', he, hk, hR'⟩ => ?_)
    subst he
    cases e' with
    | normal => exact ⟨_, ρ', σ', c', rfl, hk, hR'⟩
    | exit i =>
      show (if i = id then Post C base c0 w0 N D k r .normal a' w' else Post C base c0 w0 N D k r (.exit i) a' w')
      have hk : k (if i = id then .normal else .exit i) ρ' σ' = some r := hk
      split at hk
      · rename_i hi
        rw [if_pos hi]; exact ⟨.normal, ρ', σ', c', rfl, hk, hR'⟩
      · rename_i hi
        rw [if_neg hi]; exact ⟨.exit i, ρ', σ', c', rfl, hk, hR'⟩
    | ret => exact ⟨_, ρ', σ', c', rfl, hk, hR'⟩
  | .exit id, k, c, ρ, σ, a, w, _, _, h, hR => wpIn_exit ⟨.exit id, ρ, σ, c, rfl, h, hR⟩
  | .ret, k, c, ρ, σ, a, w, _, _, h, hR => wpIn_ret ⟨.ret, ρ, σ, c, rfl, h, hR⟩
/- a record turns -/
def Cx.setG (c : Cx) (l : Nat) (o : Obj) : Cx := { c with G := fun b => if b = l then some o else c.G b }
theorem Ext.setG (c : Cx) (l : Nat) (o : Obj) : Ext c (c.setG l o) := ⟨Nat.le_refl _, Nat.le_refl _, fun _ _ => rfl, fun _ _ => rfl, fun _ _ => rfl, fun _ _ _ h => h⟩
theorem setG_at (c : Cx) (l : Nat) (o : Obj) : (c.setG l o).G l = some o := if_pos rfl
theorem setG_ne (c : Cx) {l b : Nat} (o : Obj) (h : b ≠ l) : (c.setG l o).G b = c.G b := if_neg h
theorem Inv.setG {T : Tab} (h : Inv T base c σ w) {l : Nat} {o : Obj} (hl : c.G l = some o) (o' : Obj) : Inv T base (c.setG l o') σ (w.putObj l o') := by
  have q := h.G l o hl
  have hlt := lt_of_some q.heap
  have hx := Ext.setG c l o'
  have keep : ∀ b, b ≠ l → (w.putObj l o').heap[b]? = w.heap[b]? := fun b hb => World.putObj_heap_other hb
  refine ⟨h.next, h.ntok, by rw [World.putObj_size]; exact h.le, fun b o1 v hv => ?_, fun id ob hob => ?_, h.inj, fun t ht => ?_, h.tokObj, h.tokTok, fun b x hb => ?_⟩
  · have : b ≠ l := by
      rintro rfl
      have h1 : c.F b o1 = some v := hv
      rw [q.F o1] at h1; cases h1
    rw [cell_same (keep b this)]; exact h.F b o1 v hv
  · obtain ⟨h1, h2, h3, h4⟩ := h.obj id ob hob
    exact ⟨h1, h2, h3, by show ObjRep T _ id ob (w.putObj l o').heap[c.μ id]?; rw [keep _ (q.obj id ob hob)]; exact h4.ext hx (by rw [h.next]; exact h1)⟩
  · obtain ⟨h1, h2⟩ := h.tok t ht
    exact ⟨h1, h2.keep (c' := c.setG l o') (fun b hb => keep b (fun e => q.tok t ht (by rw [hb, e]))) (fun b hb o' => rfl)⟩
  · by_cases hb' : b = l
    · subst hb'
      rw [setG_at] at hb
      cases hb
      exact ⟨World.putObj_heap_same hlt, q.F, q.obj, q.tok⟩
    · rw [setG_ne c o' hb'] at hb
      have q' := h.G b x hb
      exact ⟨(keep b hb').trans q'.heap, q'.F, q'.obj, q'.tok⟩
theorem Inv.newG {T : Tab} (h : Inv T base c σ w) (o : Obj) : Inv T base (c.setG w.heap.size o) σ (w.alloc o) := by
  have hx := Ext.setG c w.heap.size o
  have hold : ∀ {b}, b < w.heap.size → (w.alloc o).heap[b]? = w.heap[b]? := fun hb => heap_alloc_old w o hb
  refine ⟨h.next, h.ntok, by have := h.le; show base ≤ (w.heap.push o).size; simp; omega, fun b o1 v hv => ?_, fun id ob hob => ?_, h.inj, fun t ht => ?_, h.tokObj, h.tokTok, fun b x hb => ?_⟩
  · rw [cell_same (hold (lt_of_cell (h.F b o1 v hv)))]; exact h.F b o1 v hv
  · obtain ⟨h1, h2, h3, h4⟩ := h.obj id ob hob
    exact ⟨h1, h2, h3, by show ObjRep T _ id ob (w.alloc o).heap[c.μ id]?; rw [hold h4.lt]; exact h4.ext hx (by rw [h.next]; exact h1)⟩
  · obtain ⟨h1, h2⟩ := h.tok t ht
    exact ⟨h1, h2.keep (c' := c.setG w.heap.size o) (fun b hb => hold (h2.lt hb).1) (fun b hb o' => rfl)⟩
  · by_cases hb' : b = w.heap.size
    · subst hb'
      rw [setG_at] at hb
      cases hb
      refine ⟨heap_alloc_new w _, fun o' => ?_, fun id ob hob => ?_, fun t ht hbk => ?_⟩
      · show c.F w.heap.size o' = none
        cases hf : c.F w.heap.size o' with
        | none => rfl
        | some v => exact absurd (lt_of_cell (h.F _ _ _ hf)) (Nat.lt_irrefl _)
      · exact Nat.ne_of_lt (h.obj id ob hob).2.2.2.lt
      · exact absurd ((h.tok t ht).2.lt hbk).1 (Nat.lt_irrefl _)
    · rw [setG_ne c o hb'] at hb
      have q' := h.G b x hb
      exact ⟨by rw [hold (lt_of_some q'.heap)]; exact q'.heap, q'.F, q'.obj, q'.tok⟩
theorem Fwd.setG (h : Fwd base c0 c w0 w) {l : Nat} (hb : base ≤ w0.heap.size) (hl : w0.heap.size ≤ l) (o : Obj) : Fwd base c0 (c.setG l o) w0 (w.putObj l o) :=
  ⟨h.ext.trans (.setG c l o), ⟨h.below.1, h.below.2, h.below.3, by rw [World.putObj_size]; exact h.below.size, fun k hk => (World.putObj_heap_other (by omega)).trans (h.below.block k hk)⟩, h.F, fun b hb' => (setG_ne c o (by omega)).trans (h.G b hb')⟩
theorem Fwd.newG (h : Fwd base c0 c w0 w) (hb : base ≤ w0.heap.size) (o : Obj) : Fwd base c0 (c.setG w.heap.size o) w0 (w.alloc o) :=
  ⟨h.ext.trans (.setG c _ o), h.below.alloc (Nat.le_trans hb h.below.size) _, h.F, fun b hb' => (setG_ne c o (by have := h.below.size; omega)).trans (h.G b hb')⟩
theorem RepEnv.setG {T : Tab} (h : RepEnv T c ρ a) (l : Nat) (o : Obj) : RepEnv T (c.setG l o) ρ a := ⟨fun t => (h.1 t).ext (.setG c l o), h.2.ext (.setG c l o)⟩
theorem RepEnv.ext {T : Tab} {c' : Cx} (h : RepEnv T c ρ a) (hx : Ext c c') : RepEnv T c' ρ a := ⟨fun t => (h.1 t).ext hx, h.2.ext hx⟩
theorem Rel.setG (h : Rel C base c0 w0 N D c ρ σ a w) {l : Nat} {o : Obj} (hl : c.G l = some o) (o' : Obj) (hb : base ≤ w0.heap.size) (hl0 : w0.heap.size ≤ l) : Rel C base c0 w0 N D (c.setG l o') ρ σ a (w.putObj l o') :=
  ⟨h.env.setG l o', h.inv.setG hl o', h.fwd.setG hb hl0 o', h.defers, h.size⟩
theorem Rel.root (h : Rel C base c0 w0 N D c ρ σ a w) : Rel C base c w N D c ρ σ a w := ⟨h.env, h.inv, .refl _ _ _, h.defers, h.size⟩
end
end Go.Proofs.Yticlihmbikcohaa.Va
