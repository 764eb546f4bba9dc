/- regions that draw and make two variables -/
import Derived.Test.YticlihmbikcohaaVaE
import Derived.Test.YticlihmbikcohaaVaRf
namespace Go.Proofs.Yticlihmbikcohaa.Va
open Go Go.RowKit
set_option linter.unusedVariables false
set_option linter.unusedSimpArgs false
section
variable {P : Program} {C : Cfg} {call : Caller} {f : FuncId} {R : Type} {r : R} {ops : Array Oper} {base N : Nat} {D : List Deferred} {c0 : Cx} {w0 : World}
/-- Where a region stands that makes two variables. -/
structure FInv (C : Cfg) (ops : Array Oper) (base : Nat) (c0 : Cx) (w0 : World) (N : Nat) (D : List Deferred) (da : Tmp) (ea : TypeId) (va : AV) (db : Tmp) (eb : TypeId) (vb : AV) (n0 : Nat) (ρ : Env) (σ : St) (vs : Nat → AV) (listed : Array Bool) (c : Cx) (a : Act) (w : World) : Prop where
  size : listed.size = ops.size
  closed : ∀ k o, ops[k]? = some o → listed.getD k false = true → ∀ e ∈ o.after.toList, Region.binds .any e = true → listed.getD e.on false = true
  env1 : ∀ j o d, j < ops.size - 4 → ops[j]? = some o → listed.getD j false = true → o.dst = some d → RepT C.T c (vs j) (a.tmps.getD d undef)
  env2 : ∀ t, (∀ j o, ops[j]? = some o → listed.getD j false = true → o.dst ≠ some t) → RepT C.T c (ρ t) (a.tmps.getD t undef)
  inv : Inv C.T base c σ w
  fwd : Fwd base c0 c w0 w
  nle : n0 ≤ w.heap.size
  defers : a.defers = D
  tmps : a.tmps.size = N
  A : listed.getD (ops.size - 4) false = true → ∃ B cs, a.tmps.getD da undef = .pointer (some ⟨B, 0, none⟩) ∧ n0 ≤ B ∧ c.G B = some (.cells cs.toArray ea (0, 0)) ∧ cs.length = C.T.size ea ∧ (listed.getD (ops.size - 4 + 2) false = true → RepL C.T c [ea] [va] cs)
  B : listed.getD (ops.size - 4 + 1) false = true → ∃ B cs, a.tmps.getD db undef = .pointer (some ⟨B, 0, none⟩) ∧ n0 ≤ B ∧ c.G B = some (.cells cs.toArray eb (0, 0)) ∧ cs.length = C.T.size eb ∧ (listed.getD (ops.size - 4 + 3) false = true → RepL C.T c [eb] [vb] cs)
  ne : listed.getD (ops.size - 4) false = true → listed.getD (ops.size - 4 + 1) false = true → a.tmps.getD da undef ≠ a.tmps.getD db undef
theorem all_listed {listed : Array Bool} (hs : listed.size = ops.size) (hedge : ∀ (i : Nat) (o : Oper), ops[i]? = some o → ∀ e ∈ o.after.toList, e.on < i ∨ Region.binds .any e = false) (hr : Region.ready .any ops listed = []) : ∀ i, i < ops.size → listed.getD i false = true := by
  intro i
  induction i using Nat.strongRecOn with
  | _ i ih =>
    intro hi
    cases hl : listed.getD i false with
    | true => rfl
    | false =>
      exfalso
      have ho : ops[i]? = some ops[i] := Array.getElem?_eq_getElem hi
      have hm : i ∈ Region.ready .any ops listed := by
        unfold Region.ready
        refine List.mem_filter.2 ⟨List.mem_range.2 hi, ?_⟩
        simp only [Bool.and_eq_true]
        refine ⟨?_, ?_⟩
        · have : listed.getD i true = listed.getD i false := by
            simp only [Array.getD_eq_getD_getElem?]
            rw [Array.getElem?_eq_getElem (by rw [hs]; exact hi)]; rfl
          rw [this, hl]; rfl
        · rw [ho]
          simp only [Option.map_some, Option.getD_some, Array.all_eq_true_iff_forall_mem]
          intro e he
          rcases hedge i _ ho e (by simpa using he) with h | h
          · rw [ih e.on h (by omega)]; simp
          · rw [h]; rfl
      rw [hr] at hm
      cases hm
/-- What is left of a region. -/
theorem any_run {Q : Exit → Act → World → Prop} {J : Array Bool → Act → World → Prop} (hsz : ∀ listed a w, J listed a w → listed.size = ops.size) (hfin : ∀ listed a w, J listed a w → Region.ready .any ops listed = [] → Q .normal a w)
    (hstep : ∀ (listed : Array Bool) (a : Act) (w : World) (i : Nat) (K : Act → World → Prop), J listed a w → i ∈ Region.ready .any ops listed → (∀ a' w', J (listed.setIfInBounds i true) a' w' → K a' w') → wpOp P ops Q i K a w) :
    ∀ (fuel : Nat) (listed : Array Bool) (a : Act) (w : World), listed.toList.count false ≤ fuel → J listed a w → wpAny P .any ops Q fuel listed a w := by
  intro fuel
  induction fuel with
  | zero =>
    intro listed a w hcnt hI
    have hr : Region.ready .any ops listed = [] := by
      cases hr : Region.ready .any ops listed with
      | nil => rfl
      | cons i l =>
        exfalso
        have hi : i ∈ Region.ready .any ops listed := by rw [hr]; simp
        unfold Region.ready at hi
        obtain ⟨hi1, hi2⟩ := List.mem_filter.1 hi
        have hlt : i < listed.size := by rw [hsz _ _ _ hI]; exact List.mem_range.1 hi1
        simp only [Bool.and_eq_true, Bool.not_eq_true'] at hi2
        have : listed[i] = false := by
          have := hi2.1
          rw [Array.getD_eq_getD_getElem?, Array.getElem?_eq_getElem hlt] at this
          exact this
        have hmem : false ∈ listed.toList := by rw [← this]; exact Array.getElem_mem_toList hlt
        have := List.count_pos_iff.2 hmem
        omega
    exact ⟨hr, hfin _ _ _ hI hr⟩
  | succ fuel ih =>
    intro listed a w hcnt hI
    refine ⟨hfin _ _ _ hI, fun i hi => hstep listed a w i _ hI hi fun a' w' hI' => ih _ a' w' ?_ hI'⟩
    unfold Region.ready at hi
    obtain ⟨hi1, hi2⟩ := List.mem_filter.1 hi
    have hlt : i < listed.size := by rw [hsz _ _ _ hI]; exact List.mem_range.1 hi1
    simp only [Bool.and_eq_true, Bool.not_eq_true'] at hi2
    have hf : listed[i] = false := by
      have := hi2.1
      rw [Array.getD_eq_getD_getElem?, Array.getElem?_eq_getElem hlt] at this
      exact this
    have hl : i < listed.toList.length := by simpa using hlt
    rw [Array.toList_setIfInBounds, List.count_set hl]
    have hmem : false ∈ listed.toList := by rw [← hf]; exact Array.getElem_mem_toList hlt
    have := List.count_pos_iff.2 hmem
    have hx : listed.toList[i] = false := by simpa using hf
    rw [hx, if_pos (by rfl : ((false == false) = true)), if_neg (by simp)]
    omega
theorem Inv.setH {T : Tab} {c : Cx} {σ : St} {w w' : World} (h : Inv T base c σ w) {l : Nat} {o : Obj} (hl : c.G l = some o) (o' : Obj) (hw : ∀ b, b ≠ l → w'.heap[b]? = w.heap[b]?) (ho : w'.heap[l]? = some o') : Inv T base (c.setG l o') σ w' := by
  have h1 := h.setG hl o'
  refine h1.heap ?_
  apply Array.ext_getElem?
  intro i
  by_cases hi : i = l
  · subst hi
    rw [ho, World.putObj_heap_same (lt_of_some (h.G _ _ hl).heap)]
  · rw [hw i hi, World.putObj_heap_other hi]
/-- A block that is held becomes an object. -/
def Cx.adopt (c : Cx) (e : TypeId) (b : Nat) : Cx := { c.newObj e b with G := fun x => if x = b then none else c.G x }
theorem Ext.adopt (c : Cx) (e : TypeId) (b : Nat) : Ext c (c.adopt e b) :=
  ⟨Nat.le_succ _, Nat.le_refl _, fun i hi => if_neg (by omega), fun i hi => if_neg (by omega), fun _ _ => rfl, fun _ _ _ h => h⟩
theorem Inv.adopt {T : Tab} {c : Cx} {σ : St} {w : World} (h : Inv T base c σ w) {b : Nat} {e : TypeId} {v : AV} {cs : List Value} (hb : base ≤ b) (hg : c.G b = some (.cells cs.toArray e (0, 0))) (he : ∃ d, T.ty e = some d) (hr : RepL T c [e] [v] cs) : Inv T base (c.adopt e b) (σ.new (.cells e [v])) w := by
  have q := h.G b _ hg
  have hx := Ext.adopt c e b
  have hμ : ∀ i, i < c.next → (c.adopt e b).μ i = c.μ i := hx.μ
  have hn : (c.adopt e b).μ c.next = b := if_pos rfl
  refine ⟨by show c.next + 1 = σ.next + 1; rw [h.next], h.ntok, h.le, h.F, ?_, ?_, ?_, ?_, h.tokTok, ?_⟩
  · intro id ob' hob
    simp only [St.new] at hob
    by_cases hi : id = σ.next
    · subst hi
      rw [if_pos rfl] at hob
      cases hob
      rw [← h.next, hn]
      exact ⟨by show c.next < σ.next + 1; rw [h.next]; omega, hb, q.F, if_pos rfl, he, cs, [], by rw [q.heap, List.append_nil], hr.ext hx⟩
    · rw [if_neg hi] at hob
      obtain ⟨h1, h2, h3, h4⟩ := h.obj id ob' hob
      rw [hμ id (by rw [h.next]; exact h1)]
      exact ⟨by show id < σ.next + 1; omega, h2, h3, h4.ext hx (by rw [h.next]; exact h1)⟩
  · intro i j oi oj hi hj he'
    simp only [St.new] at hi hj
    by_cases ci : i = σ.next <;> by_cases cj : j = σ.next
    · omega
    · rw [if_neg cj] at hj
      rw [hμ j (by rw [h.next]; exact (h.obj j oj hj).1), ci, ← h.next, hn] at he'
      exact absurd he'.symm (q.obj j oj hj)
    · rw [if_neg ci] at hi
      rw [hμ i (by rw [h.next]; exact (h.obj i oi hi).1), cj, ← h.next, hn] at he'
      exact absurd he' (q.obj i oi hi)
    · rw [if_neg ci] at hi
      rw [if_neg cj] at hj
      rw [hμ i (by rw [h.next]; exact (h.obj i oi hi).1), hμ j (by rw [h.next]; exact (h.obj j oj hj).1)] at he'
      exact h.inj i j oi oj hi hj he'
  · intro t ht
    obtain ⟨h1, h2⟩ := h.tok t ht
    exact ⟨h1, h2.keep (c' := c.adopt e b) (fun _ _ => rfl) (fun _ _ _ => rfl)⟩
  · intro t id ob' ht hob
    simp only [St.new] at hob
    by_cases hi : id = σ.next
    · rw [hi, ← h.next, hn]; exact q.tok t ht
    · rw [if_neg hi] at hob
      rw [hμ id (by rw [h.next]; exact (h.obj id ob' hob).1)]
      exact h.tokObj t id ob' ht hob
  · intro x o hx'
    have hxb : x ≠ b := fun e' => by subst e'; rw [show (c.adopt e x).G x = none from if_pos rfl] at hx'; cases hx'
    rw [show (c.adopt e b).G x = c.G x from if_neg hxb] at hx'
    have q' := h.G x o hx'
    refine ⟨q'.heap, q'.F, fun id ob' hob => ?_, q'.tok⟩
    simp only [St.new] at hob
    by_cases hi : id = σ.next
    · rw [hi, ← h.next, hn]; exact fun e' => hxb e'.symm
    · rw [if_neg hi] at hob
      rw [hμ id (by rw [h.next]; exact (h.obj id ob' hob).1)]
      exact q'.obj id ob' hob
theorem Fwd.adopt {c : Cx} {w : World} (h : Fwd base c0 c w0 w) {b : Nat} (hb : w0.heap.size ≤ b) (e : TypeId) : Fwd base c0 (c.adopt e b) w0 w :=
  ⟨h.ext.trans (.adopt c e b), h.below, h.F, fun x hx => (show (if x = b then none else c.G x) = c0.G x by rw [if_neg (by omega)]; exact h.G x hx)⟩
/-- A store into a variable that is held. -/
theorem storeH {T : Tab} {c : Cx} {w : World} (hT : TabOk P T) {B : Nat} {e : TypeId} {cs : List Value} {v : AV} {y : Value} (hh : w.heap[B]? = some (.cells cs.toArray e (0, 0))) (hl : cs.length = T.size e) (hr : RepT T c v y) (hf : fits T e v = true) :
    ∃ cs' : List Value, (Instr.storeAt e (.pointer (some ⟨B, 0, none⟩)) y).run P w = .ok () (w.setRow B cs'.toArray) ∧ RepL T c [e] [v] cs' ∧ cs'.length = T.size e ∧ (w.setRow B cs'.toArray).heap[B]? = some (.cells cs'.toArray e (0, 0)) := by
  obtain ⟨d, hd, hy, hya⟩ := hr.fit hf
  have hlen : y.cells.toList.length = T.size e := by rw [hy.len hT.sz, ← hT.sz e d hd]
  have hc : y.cells.size = cs.length := by rw [hl, ← hlen]; simp
  have hst := run_storeCells_at P B 0 e y.cells.toList 0 cs.toArray w hh (by simp; omega) hy.one
  have hq : (List.take (0 + 0) cs.toArray.toList ++ y.cells.toList ++ List.drop (0 + 0 + y.cells.toList.length) cs.toArray.toList) = y.cells.toList := by
    simp; omega
  rw [hq] at hst
  refine ⟨y.cells.toList, ?_, ?_, hlen, setRow_heap w _ _ _ _ _ hh⟩
  · have hsz := run_size hT w hd
    simp only [Instr.storeAt, Instr.sureAddr, Sem.run_bind, Sem.run_pure, Result.andThen_ok, storeVar, hsz]
    rw [if_neg (by simp at hlen ⊢; omega)]
    exact hst
  · have := RepL.cons _ e d [] v [] _ [] hd hy (.nil _)
    simpa using this
theorem freshF_spec {da db : Tmp} {ea eb : TypeId} {va vb : Operand} (h : freshF ops = some (da, ea, va, db, eb, vb)) :
    ∃ oa ob sa sb : Oper, ops[ops.size - 4]? = some oa ∧ ops[ops.size - 4 + 1]? = some ob ∧ ops[ops.size - 4 + 2]? = some sa ∧ ops[ops.size - 4 + 3]? = some sb ∧
      (oa.op = .alloc ea ∧ oa.dst = some da ∧ oa.guard = none) ∧ (ob.op = .alloc eb ∧ ob.dst = some db ∧ ob.guard = none) ∧ (sa.op = .store ea (.tmp da) va ∧ sa.dst = none ∧ sa.guard = none) ∧ (sb.op = .store eb (.tmp db) vb ∧ sb.dst = none ∧ sb.guard = none) ∧
      da ≠ db ∧ tmpOf va ≠ some da ∧ tmpOf va ≠ some db ∧ tmpOf vb ≠ some da ∧ tmpOf vb ≠ some db := by
  unfold freshF at h
  simp only at h
  split at h
  · rename_i oa ob sa sb h1 h2 h3 h4
    split at h
    · rename_i ea' eb' ta xa va' tb xb vb' da' db' g1 g2 g3 g4 g5 g6
      split at h
      · rename_i hc
        simp only [Option.some.injEq, Prod.mk.injEq] at h
        obtain ⟨rfl, rfl, rfl, rfl, rfl, rfl⟩ := h
        simp only [Bool.and_eq_true, beq_iff_eq, bne_iff_ne, ne_eq, Option.isNone_iff_eq_none] at hc
        obtain ⟨⟨⟨⟨⟨⟨⟨⟨⟨⟨⟨⟨⟨⟨rfl, rfl⟩, rfl⟩, rfl⟩, c5⟩, c6⟩, c7⟩, c8⟩, c9⟩, c10⟩, c11⟩, c12⟩, c13⟩, c14⟩, c15⟩ := hc
        exact ⟨oa, ob, sa, sb, h1, h2, h3, h4, ⟨g1, g5, c6⟩, ⟨g2, g6, c7⟩, ⟨g3, c10, c8⟩, ⟨g4, c11, c9⟩, c5, c12, c13, c14, c15⟩
      · cases h
    · cases h
  · cases h
theorem env_dst {ρ : Env} {ρs : Nat → Env} {vs : Nat → AV} (hdst : ∀ (i j : Nat) (o o' : Oper) (d : Tmp), ops[i]? = some o → ops[j]? = some o' → o.dst = some d → o'.dst = some d → i = j) (e0 : ρs 0 = ρ) (hst : ∀ i o, ops.toList[i]? = some o → ρs (i + 1) = putA (ρs i) o.dst (vs i)) :
    ∀ (i : Nat) (t : Nat), i ≤ ops.size → (∀ j o, ops[j]? = some o → o.dst = some t → j < i → ρs i t = vs j) ∧ ((∀ j o, ops[j]? = some o → j < i → o.dst ≠ some t) → ρs i t = ρ t)
  | 0, t, _ => ⟨fun j o _ _ hj => absurd hj (Nat.not_lt_zero _), fun _ => by rw [e0]⟩
  | i + 1, t, hle => by
    obtain ⟨ih1, ih2⟩ := env_dst hdst e0 hst i t (by omega)
    have ho : ops[i]? = some ops[i] := Array.getElem?_eq_getElem (by omega)
    have h2 := hst i _ (by rw [Array.getElem?_toList]; exact ho)
    have hput : ∀ t, ρs (i + 1) t = if ops[i].dst = some t then vs i else ρs i t := fun t => by
      rw [h2]
      cases hd : ops[i].dst with
      | none => simp [putA]
      | some d =>
        simp only [putA, upd, Option.some.injEq]
        by_cases ht : t = d
        · rw [if_pos ht, if_pos ht.symm]
        · rw [if_neg ht, if_neg (fun e => ht e.symm)]
    refine ⟨fun j o hj hd hlt => ?_, fun hn => ?_⟩
    · rw [hput]
      by_cases hij : j = i
      · subst hij
        rw [ho] at hj
        cases hj
        rw [if_pos hd]
      · rw [if_neg (fun hd' => hij (hdst j i o _ t hj ho hd hd'))]
        exact ih1 j o hj hd (by omega)
    · rw [hput, if_neg (hn i _ ho (by omega))]
      exact ih2 fun j o hj hlt => hn j o hj (by omega)
end
end Go.Proofs.Yticlihmbikcohaa.Va
