/- package grace: one contract for each call, whatever is asked; a list told onto another one -/
import Derived.Test.YtddheambeefhpaaGrShown
namespace Go.Proofs.Ytddheambeefhpaa.Gr
open Go.RowKit Go.Proofs.Ytddheambeefhpaa.Own
set_option linter.unusedVariables false
set_option linter.unusedSimpArgs false

def enterS (os : Nat → Int) (last who : Int) : (Nat → Int) × Int × Int :=
  if who < 0 ∨ 8 ≤ who then (os, last, 1) else if os who.toNat ≠ 0 then (os, last, 9) else ((fun i => if i = who.toNat then last + 1 else os i), last + 1, 0)
def leaveS (os : Nat → Int) (who : Int) : (Nat → Int) × Int :=
  if who < 0 ∨ 8 ≤ who then (os, 1) else if os who.toNat = 0 then (os, 9) else ((fun i => if i = who.toNat then 0 else os i), 0)
def openS (os : Nat → Int) (who : Int) : Bool := if who < 0 ∨ 8 ≤ who then false else os who.toNat != 0
theorem enterS_last (os : Nat → Int) (last who : Int) : last ≤ (enterS os last who).2.1 ∧ (enterS os last who).2.1 ≤ last + 1 := by
  unfold enterS; split
  · simp; omega
  · split <;> simp <;> omega
theorem enter_all {B b : Nat} {os : Nat → Int} {last : Int} {items : List Item} (who : Int) (w : World) (hr : GRep B w b os last items) (hl : 0 ≤ last) (hm : last < 1000000) :
    Calls Try.prog 10 #[.pointer (some ⟨b, 0, none⟩), .int .i64 who] w fun e w' => e = .returned (.int .i64 (enterS os last who).2.2) ∧ GRep B w' b (enterS os last who).1 (enterS os last who).2.1 items ∧ TFr B gT w w' := by
  unfold enterS
  by_cases h1 : who < 0 ∨ 8 ≤ who
  · rw [if_pos h1]
    refine (enter_arg b who w h1).mono ?_
    rintro e w' ⟨rfl, rfl⟩
    exact ⟨rfl, hr, TFr.refl _ _ _⟩
  · rw [if_neg h1]
    by_cases h2 : os who.toNat ≠ 0
    · rw [if_pos h2]
      refine (enter_lock who w hr (by omega) (by omega) h2).mono ?_
      rintro e w' ⟨rfl, rfl⟩
      exact ⟨rfl, hr, TFr.refl _ _ _⟩
    · rw [if_neg h2]
      exact enter_ok who w hr (by omega) (by omega) (Classical.byContradiction h2) hl hm
theorem leave_all {B b : Nat} {os : Nat → Int} {last : Int} {items : List Item} (who : Int) (w : World) (hr : GRep B w b os last items) :
    Calls Try.prog 11 #[.pointer (some ⟨b, 0, none⟩), .int .i64 who] w fun e w' => e = .returned (.int .i64 (leaveS os who).2) ∧ GRep B w' b (leaveS os who).1 last items ∧ TFr B gT w w' := by
  unfold leaveS
  by_cases h1 : who < 0 ∨ 8 ≤ who
  · rw [if_pos h1]
    refine (leave_arg b who w h1).mono ?_
    rintro e w' ⟨rfl, rfl⟩
    exact ⟨rfl, hr, TFr.refl _ _ _⟩
  · rw [if_neg h1]
    by_cases h2 : os who.toNat = 0
    · rw [if_pos h2]
      refine (leave_lock who w hr (by omega) (by omega) h2).mono ?_
      rintro e w' ⟨rfl, rfl⟩
      exact ⟨rfl, hr, TFr.refl _ _ _⟩
    · rw [if_neg h2]
      exact leave_ok who w hr (by omega) (by omega) h2
theorem open_all {B b : Nat} {os : Nat → Int} {last : Int} {items : List Item} (who : Int) (w : World) (hr : GRep B w b os last items) :
    Calls Try.prog 12 #[.pointer (some ⟨b, 0, none⟩), .int .i64 who] w fun e w' => e = .returned (.bool (openS os who)) ∧ w = w' := by
  unfold openS
  by_cases h1 : who < 0 ∨ 8 ≤ who
  · rw [if_pos h1]; exact open_arg b who w h1
  · rw [if_neg h1]; exact open_at who w hr (by omega) (by omega)

/-- append of one row of the call's own onto another one -/
theorem run_append_own_own {P : Program} (w : World) (base base' : Nat) (t ty e : TypeId) (i : TypeInfo) (z : Value) (size bytes : Nat) (ht : P.underlying t = some (.slice e)) (hi : P.info? e = some i) (hz : i.zero = some z)
    (hsize : i.size = size) (hby : i.bytes = bytes) (hzs : z.cells.size = size) (hsz : 0 < size) (v : Value) (n : Nat) (xs : List Value) (hown : w.ownsRow base e size v n xs) (u : Value) (m : Nat) (ys : List Value) (hsrc : w.ownsRow base' e size u m ys) (h1 : ∀ x ∈ ys, x.oneCell' = true)
    (h63 : n + m ≤ maxLen) (hbytes : (n + m) * bytes ≤ 140737488355328) (hbase : base ≤ w.heap.size) :
    ∃ v' w', (Builtin.append_ #[t, t] ty #[v, u]).run P w = .ok v' w' ∧ w'.ownsRow base e size v' (n + m) (xs ++ ys) ∧ w.grownBy w' v.ownBlock := by
  obtain ⟨hl, hs⟩ := hsrc
  rcases hs with ⟨rfl, rfl⟩ | ⟨g', cap', cur', rfl, _, hh, _, _, _, htk⟩
  · obtain rfl : ys = [] := List.eq_nil_of_length_eq_zero (by simpa using hl)
    refine ⟨v, w, ?_, by simpa using hown, World.grownBy.refl w _⟩
    rcases hown.2 with ⟨rfl, rfl⟩ | ⟨g, cap, cur, rfl, _, _, hnc, _⟩
    · simp [Builtin.append_, run_underlying ht, sizeOf, typeInfo, hi, Builtin.lenOf, Builtin.firstCells]
    · simp [Builtin.append_, run_underlying ht, sizeOf, typeInfo, hi, Builtin.lenOf, Builtin.firstCells, hnc, storeCells]
  · have hcells : ∀ j x, ys[j]? = some x → w.cell? ((⟨g', 0, none⟩ : Addr).add j) = some x := fun j x hx => by
      rw [add_zero_off, Blk.cell (t := e) (cs := cur') hh, ← hx, ← htk]
      have hj : j < ys.length := by
        rcases Nat.lt_or_ge j ys.length with h | h
        · exact h
        · rw [List.getElem?_eq_none h] at hx; cases hx
      rw [List.getElem?_take_of_lt (by omega)]
      simp
    obtain ⟨v', w', hrun, h2, h3, _⟩ := run_append_own_at (P := P) w base t ty e i z size bytes ht hi hz hsize hby hzs hsz v n xs hown ⟨g', 0, none⟩ m cap' ys hl hcells h1 h63 hbytes hbase
    exact ⟨v', w', hrun, h2, h3⟩
end Go.Proofs.Ytddheambeefhpaa.Gr
