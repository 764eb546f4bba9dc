/- how a law's arguments are read: words for the rows -/
import Derived.Test.YticlihmbikcohaaRows
import Derived.WalkKit
import Derived.ProofKit
import Derived.OpenShut
import Derived.ShutString
import Derived.ChangeOld
import Derived.Below
import Derived.SizedLaws
import Derived.ChangeSlices
import Derived.Deep.Slices
import Derived.Deep.Fields
import Derived.ChangeSame
namespace Go.Proofs.Yticlihmbikcohaa.RowKit2
open Go.ChangeShapes Go.WideShapes Go.Deep
set_option linter.unusedVariables false

/-- A slice of whole numbers. -/
def IntRow (k : IntKind) (w : World) (a : Option Addr) (len cap : Nat) : Prop :=
  (a = none ∧ len = 0 ∧ cap = 0) ∨ ∃ x, a = some x ∧ len ≤ cap ∧ cap ≤ maxLen ∧ ∀ i, i < len → ∃ n, w.cell? (x.add i) = some (.int k n) ∧ (Lit.int k n).wf = true
/-- A slice of structs of m fields, each a whole number. -/
def FldRow (m : Nat) (w : World) (a : Option Addr) (len cap : Nat) : Prop :=
  (a = none ∧ len = 0 ∧ cap = 0) ∨ ∃ x, a = some x ∧ len ≤ cap ∧ cap ≤ maxLen ∧ ∀ i, i < len → ∀ j, j < m → ∃ n, w.cell? (x.add (i * m + j)) = some (.int .i64 n) ∧ (Lit.int .i64 n).wf = true
section
variable {H : Type} {enc : TypeId × Value → H} {P : Program} {w : World} {base : Nat} {spare : Nat → Bool} {held : Bool}
theorem lt_of_cell {w : World} {a : Addr} {v : Value} (h : w.cell? a = some v) : a.block < w.heap.size := by
  rcases Nat.lt_or_ge a.block w.heap.size with hlt | hge
  · exact hlt
  · simp [World.cell?, Array.getElem?_eq_none hge] at h
theorem choose2 {Q : Nat → Nat → Int → Prop} {len m : Nat} (h : ∀ i, i < len → ∀ j, j < m → ∃ n, Q i j n) : ∃ f : Nat → Nat → Int, ∀ i, i < len → ∀ j, j < m → Q i j (f i j) := by
  classical
  refine ⟨fun i j => if hh : i < len ∧ j < m then Classical.choose (h i hh.1 j hh.2) else 0, fun i hi j hj => ?_⟩
  simp only [hi, hj, and_self, dite_true]
  exact Classical.choose_spec (h i hi j hj)
theorem FldRow.open {m : Nat} {w : World} {a : Option Addr} {len cap : Nat} (h : FldRow m w a len cap) (hm : 0 < m) (hl : 0 < len) : ∃ (xb xo : Nat) (f : Nat → Nat → Int), a = some ⟨xb, xo, none⟩ ∧ len ≤ cap ∧ cap ≤ maxLen ∧ xb < w.heap.size ∧
    ∀ i, i < len → ∀ j, j < m → w.cell? ⟨xb, xo + i * m + j, none⟩ = some (.int .i64 (f i j)) ∧ (Lit.int .i64 (f i j)).wf = true := by
  rcases h with ⟨_, h0, _⟩ | ⟨⟨xb, xo, sp⟩, rfl, hlc, hcm, hx⟩
  · omega
  · obtain ⟨f, hf⟩ := choose2 hx
    have h00 := (hf 0 hl 0 hm).1
    cases sp with
    | some s =>
      exfalso
      have e0 : (⟨xb, xo, some s⟩ : Addr).add (0 * m + 0) = ⟨xb, xo, some s⟩ := by simp [Addr.add]
      rw [e0] at h00
      unfold World.cell? at h00
      split at h00 <;> simp at h00
    | none =>
      have hadd : ∀ n, (⟨xb, xo, none⟩ : Addr).add n = ⟨xb, xo + n, none⟩ := fun n => by unfold Addr.add; split <;> simp_all
      have hb := lt_of_cell h00
      rw [hadd] at hb
      refine ⟨xb, xo, f, rfl, hlc, hcm, hb, fun i hi j hj => ?_⟩
      have := hf i hi j hj
      rw [hadd] at this
      rw [Nat.add_assoc]
      exact this
theorem FldRow.any {m : Nat} {w : World} {a : Option Addr} {len cap : Nat} (h : FldRow m w a len cap) (hm : 0 < m) : ∃ (xb xo : Nat) (f : Nat → Nat → Int), len ≤ cap ∧ (0 < len → a = some ⟨xb, xo, none⟩ ∧ xb < w.heap.size) ∧
    ∀ i, i < len → ∀ j, j < m → w.cell? ⟨xb, xo + i * m + j, none⟩ = some (.int .i64 (f i j)) ∧ (Lit.int .i64 (f i j)).wf = true := by
  by_cases h0 : 0 < len
  · obtain ⟨xb, xo, f, e, h1, _, h3, h4⟩ := h.open hm h0
    exact ⟨xb, xo, f, h1, fun _ => ⟨e, h3⟩, h4⟩
  · exact ⟨0, 0, fun _ _ => 0, by omega, fun h => absurd h h0, fun i hi => absurd hi (by omega)⟩
end
end Go.Proofs.Yticlihmbikcohaa.RowKit2
