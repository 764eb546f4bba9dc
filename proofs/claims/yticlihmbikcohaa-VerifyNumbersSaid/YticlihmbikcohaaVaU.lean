/- the machine's operations that make or turn memory, against the interpreter's: variables, stores, rows -/
import Derived.Test.YticlihmbikcohaaVaT
namespace Go.Proofs.Yticlihmbikcohaa.Va
open Go Go.RowKit
set_option linter.unusedVariables false
set_option linter.unusedSimpArgs false

structure Fwd (base : Nat) (c c' : Cx) (w w' : World) : Prop where
  ext : Ext c c'
  below : Below base w w'
  F : ∀ b, b < base → ∀ o, c'.F b o = c.F b o
  G : ∀ b, b < w.heap.size → c'.G b = c.G b
theorem Fwd.refl (base : Nat) (c : Cx) (w : World) : Fwd base c c w w := ⟨.refl c, .refl _ _, fun _ _ _ => rfl, fun _ _ => rfl⟩
theorem Fwd.trans {base : Nat} {a b c : Cx} {u v w : World} (h : Fwd base a b u v) (g : Fwd base b c v w) : Fwd base a c u w :=
  ⟨h.ext.trans g.ext, h.below.trans g.below, fun i hi o => (g.F i hi o).trans (h.F i hi o), fun b hb => (g.G b (Nat.lt_of_lt_of_le hb h.below.size)).trans (h.G b hb)⟩
section
variable {P : Program} {T : Tab} {base : Nat} {c : Cx} {σ : St} {w : World}
theorem RepT.fit {e : TypeId} {v : AV} {x : Value} (hr : RepT T c v x) (hf : fits T e v = true) : ∃ d, T.ty e = some d ∧ RepV T c d v x.cells.toList ∧ vAgg x = aggA v := by
  have h1 : Rep1 T c v x := by
    cases v with
    | undef => simp [fits] at hf
    | tup vs => simp [fits] at hf
    | _ => exact hr
  obtain ⟨d, h, ha⟩ := h1
  obtain ⟨d', h1, h2⟩ := h.fit hf
  exact ⟨d', h1, h2, ha⟩
theorem sd_new (hI : Inv T base c σ w) {e : TypeId} {v : AV} {x : Value} (hr : RepT T c v x) (hf : fits T e v = true) :
    Fwd base c (c.newObj e w.heap.size) w (w.alloc (.cells x.cells e)) ∧ Inv T base (c.newObj e w.heap.size) (σ.new (.cells e [v])) (w.alloc (.cells x.cells e)) ∧
    RepT T (c.newObj e w.heap.size) (.ptr e σ.next [0]) (.pointer (some ⟨w.heap.size, 0, none⟩)) := by
  obtain ⟨d, hd, hv, ha⟩ := hr.fit hf
  have hx := Ext.newObj c e w.heap.size
  refine ⟨⟨hx, (Below.refl _ _).alloc hI.le _, fun _ _ _ => rfl, fun _ _ => rfl⟩, hI.new _ e _ ?_, ?_⟩
  · refine ⟨if_pos rfl, ⟨d, hd⟩, x.cells.toList, [], by simp, ?_⟩
    have := RepL.cons _ e d [] v [] _ [] hd (hv.ext hx) (.nil _)
    simpa using this
  · refine ⟨.ptr, ?_, rfl⟩
    have hm : (c.newObj e w.heap.size).μ σ.next = w.heap.size := by rw [← hI.next]; exact if_pos rfl
    have := RepV.ptr (T := T) (c.newObj e w.heap.size) e σ.next [0] 0 (by rw [← hI.next]; exact Nat.lt_succ_self _) (by rw [← hI.next, show (c.newObj e w.heap.size).ε c.next = e from if_pos rfl]; simp [Tab.loc, Tab.sub])
    rw [hm] at this
    exact this
theorem run_newVar (e : TypeId) (x : Value) : (newVar e x).run P w = .ok ⟨w.heap.size, 0, none⟩ (w.alloc (.cells x.cells e)) := by
  simp [newVar, newRow]
theorem sd_box (hI : Inv T base c σ w) {e : TypeId} {v : AV} {x : Value} (hr : RepT T c v x) (hf : fits T e v = true) :
    ∃ c' y w', (Instr.box e x).run P w = .ok y w' ∧ Fwd base c c' w w' ∧ Inv T base c' (σ.new (.cells e [v])) w' ∧ RepT T c' (.ptr e σ.next [0]) y := by
  obtain ⟨h1, h2, h3⟩ := sd_new hI hr hf
  exact ⟨_, _, _, by simp only [Instr.box, Sem.run_bind, run_newVar, Result.andThen_ok, Sem.run_pure], h1, h2, h3⟩
theorem zero_rep (hT : TabOk P T) {e : TypeId} {d : Ty} (he : T.ty e = some d) : ∃ z, (zeroValue e).run P w = .ok z w ∧ RepT T c (T.zero e) z := by
  obtain ⟨i, z, h1, h2, h3, h4, h5, h6, h7⟩ := hT.info e d he
  exact ⟨z, by simp [zeroValue, typeInfo, h1, h5], Rep1.toT ⟨d, h6 c, h7⟩⟩
theorem sd_alloc (hT : TabOk P T) (hI : Inv T base c σ w) {e : TypeId} (hf : fits T e (T.zero e) = true) :
    ∃ c' y w', (Instr.alloc e true (.tuple #[])).run P w = .ok y w' ∧ Fwd base c c' w w' ∧ Inv T base c' (σ.new (.cells e [T.zero e])) w' ∧ RepT T c' (.ptr e σ.next [0]) y := by
  obtain ⟨d, hd⟩ : ∃ d, T.ty e = some d := by
    cases hh : T.ty e with
    | none => rw [hT.no e hh] at hf; simp [fits] at hf
    | some d => exact ⟨d, rfl⟩
  obtain ⟨z, hz, hr⟩ := zero_rep (c := c) (w := w) hT hd
  obtain ⟨h1, h2, h3⟩ := sd_new hI hr hf
  exact ⟨_, _, _, by simp only [Instr.alloc, Sem.run_bind, hz, run_newVar, Result.andThen_ok, Sem.run_pure], h1, h2, h3⟩
theorem put_at : ∀ (p : List Nat) {v u v' : AV}, v.put p u = some v' → ∃ u0, v.at p = some u0
  | [], v, u, v', h => ⟨v, by cases v <;> rfl⟩
  | i :: p, v, u, v', h => by
    cases v with
    | agg t vs =>
      simp only [AV.put] at h
      cases hi : vs[i]? with
      | none => rw [hi] at h; cases h
      | some x =>
        rw [hi] at h
        cases hp : x.put p u with
        | none => simp only [hp, Option.map_none] at h; cases h
        | some x' =>
          obtain ⟨u0, h0⟩ := put_at p hp
          exact ⟨u0, by simp only [AV.at, hi]; exact h0⟩
    | _ => simp [AV.put] at h
theorem rowPut_at {vs us : List AV} {p : List Nat} {u : AV} (h : rowPut vs p u = some us) : ∃ u0, rowAt vs p = some u0 := by
  cases p with
  | nil => simp [rowPut] at h
  | cons i p =>
    simp only [rowPut] at h
    cases hi : vs[i]? with
    | none => rw [hi] at h; cases h
    | some x =>
      rw [hi] at h
      cases hp : x.put p u with
      | none => simp only [hp, Option.map_none] at h; cases h
      | some x' =>
        obtain ⟨u0, h0⟩ := put_at p hp
        exact ⟨u0, by simp only [rowAt, hi]; exact h0⟩
theorem setRow_other (w : World) {g b : Nat} (cs : Array Value) (h : b ≠ g) : (w.setRow g cs).heap[b]? = w.heap[b]? := by
  simp only [World.setRow, Array.getElem?_modify]
  rw [if_neg (fun e => h e.symm)]
theorem Below.row {B : Nat} {g : Nat} (h : B ≤ g) (cs : Array Value) : Below B w (w.setRow g cs) :=
  ⟨rfl, rfl, rfl, by simp [World.setRow], fun k hk => setRow_other w cs (by omega)⟩
theorem Spl.row {cs us cs' : List Value} {o : Nat} (h : Spl cs o us cs') (tail : List Value) : (cs ++ tail).take o ++ us ++ (cs ++ tail).drop (o + us.length) = cs' ++ tail := by
  have hr := h.room
  have hl := h.len
  have e1 : (cs ++ tail).take o = cs.take o := by rw [List.take_append_of_le_length (by omega)]
  have e2 : (cs ++ tail).drop (o + us.length) = cs.drop (o + us.length) ++ tail := by rw [List.drop_append_of_le_length (by omega)]
  rw [e1, e2, ← List.append_assoc]
  congr 1
  apply List.ext_getElem?
  intro j
  rw [h.get j, List.append_assoc]
  have hlt : (cs.take o).length = o := by simp; omega
  by_cases c1 : j < o
  · rw [if_neg (by omega), List.getElem?_append_left (by omega), List.getElem?_take, if_pos c1]
  · rw [List.getElem?_append_right (by omega), hlt]
    by_cases c2 : j < o + us.length
    · rw [if_pos (by omega), List.getElem?_append_left (by omega)]
    · rw [if_neg (by omega), List.getElem?_append_right (by omega), List.getElem?_drop]
      congr 1; omega
theorem sd_store (hT : TabOk P T) (hI : Inv T base c σ w) {t : TypeId} {p v : AV} {x y : Value} {σ' : St} (h : @aStore T ⟨σ⟩ t p v = some σ') (hp : RepT T c p x) (hv : RepT T c v y) :
    ∃ w', (Instr.storeAt t x y).run P w = .ok () w' ∧ Fwd base c c w w' ∧ Inv T base c σ' w' := by
  cases p with
  | ptr s id path =>
    simp only [aStore] at h
    split at h
    · rename_i hs
      simp only [Bool.and_eq_true] at hs
      split at h
      · rename_i e vs ho
        have ho : σ.obj id = some (.cells e vs) := ho
        cases hu : rowPut vs path v with
        | none => rw [hu] at h; cases h
        | some us =>
          rw [hu] at h
          simp only [Option.map_some, Option.some.injEq] at h
          subst h
          obtain ⟨o, rfl, hid, hl⟩ := rep_ptr hp
          obtain ⟨i1, i2, i3, he, ⟨de, hde⟩, cs, tail, hh, hcs⟩ := hI.obj id _ ho
          obtain ⟨u0, hu0⟩ := rowPut_at hu
          obtain ⟨o', t', d', us0, k1, k2, k3, k4, k5⟩ := hcs.part hT.sz hu0
          rw [he, k1] at hl
          cases hl
          obtain ⟨d, hd, hy, hya⟩ := hv.fit hs.2
          rw [k2] at hd
          cases hd
          obtain ⟨vs', cs', m1, m2, m3, m4⟩ := k5 _ _ hy
          rw [hu] at m1
          cases m1
          have hlen : y.cells.toList.length = T.size t := by
            rw [hy.len hT.sz, ← hT.sz t d' ((same_ty hs.1).symm.trans k2)]
          have hb : o + y.cells.toList.length ≤ cs.length := m4.room
          have hst := run_storeCells_at P (c.μ id) o e y.cells.toList 0 (cs ++ tail).toArray w hh (by simp at hb ⊢; omega) hy.one
          have hq : (List.take (o + 0) (cs ++ tail).toArray.toList ++ y.cells.toList ++ List.drop (o + 0 + y.cells.toList.length) (cs ++ tail).toArray.toList) = cs' ++ tail := by
            rw [← m4.row tail]; simp
          rw [hq] at hst
          refine ⟨w.setRow (c.μ id) (cs' ++ tail).toArray, ?_, ⟨.refl c, Below.row i2 _, fun _ _ _ => rfl, fun _ _ => rfl⟩, hI.set ho (fun b hb => setRow_other w _ hb) (by simp [World.setRow]) (setRow_heap w _ _ _ _ _ hh) ?_⟩
          · have hsz := run_size hT w ((same_ty hs.1).symm.trans k2)
            simp only [Instr.storeAt, Instr.sureAddr, Sem.run_bind, Sem.run_pure, Result.andThen_ok, storeVar, hsz]
            rw [if_neg (by simp at hlen ⊢; omega)]
            exact hst
          · exact ⟨he, ⟨de, hde⟩, cs', tail, rfl, by rw [m2]; exact m3⟩
      · cases h
    · cases h
  | _ => simp [aStore] at h
end
end Go.Proofs.Yticlihmbikcohaa.Va
