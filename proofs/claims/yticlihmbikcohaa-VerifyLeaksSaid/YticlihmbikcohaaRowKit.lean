/- how a law's arguments are read: words for the rows -/
import Derived.Test.YticlihmbikcohaaRows
import Derived.WalkKit
import Derived.ProofKit
import Derived.OpenShut
import Derived.ShutString
import Derived.ChangeOld
import Derived.Below
import Derived.SizedLaws
import Derived.ChangeSlices
import Derived.Deep.Slices
import Derived.Deep.Fields
import Derived.ChangeSame
namespace Go.Proofs.Yticlihmbikcohaa.RowKit2
open Go.ChangeShapes Go.WideShapes Go.Deep
set_option linter.unusedVariables false

/-- A slice of whole numbers. -/
def IntRow (k : IntKind) (w : World) (a : Option Addr) (len cap : Nat) : Prop :=
  (a = none ∧ len = 0 ∧ cap = 0) ∨ ∃ x, a = some x ∧ len ≤ cap ∧ cap ≤ maxLen ∧ ∀ i, i < len → ∃ n, w.cell? (x.add i) = some (.int k n) ∧ (Lit.int k n).wf = true
/-- A slice of structs of m fields, each a whole number. -/
def FldRow (m : Nat) (w : World) (a : Option Addr) (len cap : Nat) : Prop :=
  (a = none ∧ len = 0 ∧ cap = 0) ∨ ∃ x, a = some x ∧ len ≤ cap ∧ cap ≤ maxLen ∧ ∀ i, i < len → ∀ j, j < m → ∃ n, w.cell? (x.add (i * m + j)) = some (.int .i64 n) ∧ (Lit.int .i64 n).wf = true
section
variable {H : Type} {enc : TypeId × Value → H} {P : Program} {w : World} {base : Nat} {spare : Nat → Bool} {held : Bool}
theorem slice_sized {t e : TypeId} {a : Option Addr} {len cap : Nat} {d : DataW H} {ps : List MemPlace} {ts : List TypeId} {ds : List (DataW H)} {j : Nat}
    (hsz : (DataW.weightsEach P ts ds).all (· ≤ reachBytes) = true) (ht : ts[j]? = some t) (hd : ds[j]? = some d) (hu : P.underlying t = some (.slice e)) {B : Nat} (hB : P.bytesOf e = B)
    (h : DataW.Trod enc P w base spare held t (.slice a len cap) d ps) : len * B ≤ 140737488351232 := by
  obtain ⟨fuel, hf⟩ := h
  rcases DataW.trod_slice hu hf with h0 | ⟨a', len', cap', elems, rest, n, _, hcs, hx, hb, hl, hm, hlen, hel, hsp, hns⟩
  · have := h0.1
    simp [Value.cells] at this
    obtain ⟨_, rfl, _⟩ := this
    simp
  · simp [Value.cells] at hcs
    obtain ⟨rfl, rfl, rfl⟩ := hcs
    have e1 := congrArg Prod.fst hx
    simp only at e1
    subst e1
    have z := sized_slice hsz ht hd hu
    rw [hB] at z
    simp only [List.length_map] at z
    exact Nat.le_trans (Nat.mul_le_mul_right _ (by omega)) z
theorem open_int_row {t e : TypeId} {k : IntKind} {a : Option Addr} {len cap : Nat} {d : DataW H} {ps : List MemPlace} (ht : P.underlying t = some (.slice e)) (he : P.underlying e = some (.int k)) (hc : P.cellsOf e = 1)
    (h : DataW.Trod enc P w base spare held t (.slice a len cap) d ps) : IntRow k w a len cap := by
  have h' := h
  obtain ⟨fuel, hf⟩ := h
  rcases open_ints ht he hc hf with ⟨hcs, _⟩ | ⟨x, l, c, zs, hcs, _, hl, hm, hz, hx, hcell, hwz⟩
  · simp [Value.cells] at hcs
    obtain ⟨rfl, rfl, rfl⟩ := hcs
    exact .inl ⟨rfl, rfl, rfl⟩
  · simp [Value.cells] at hcs
    obtain ⟨rfl, rfl, rfl⟩ := hcs
    have hzl : len ≤ zs.length := by rw [hz]; split; exact hl; exact Nat.le_refl _
    exact .inr ⟨x, rfl, hl, hm, fun i hi => ⟨zs.getD i 0, hcell i (by omega), hwz _ (by rw [List.getD_eq_getElem?_getD, List.getElem?_eq_getElem (by omega)]; exact List.getElem_mem _)⟩⟩
theorem open_slice_flds {t e : TypeId} {fs : Array Field} {fuel : Nat} {cs : List Value} {x : DataW H × List MemPlace} (ht : P.underlying t = some (.slice e)) (he : P.underlying e = some (.struct fs))
    (hone : oneCellFields P fs = true) (hC : P.cellsOf e = fs.size) (h : DataW.trod enc P w base spare held fuel t cs = some x) :
    (cs = [.slice none 0 0]) ∨
    ∃ (a : Addr) (len cap : Nat), cs = [.slice (some a) len cap] ∧ len ≤ cap ∧ cap ≤ maxLen ∧
      ∀ i, i < len → ∀ (j : Nat) (f : Field), fs[j]? = some f → ∃ (v : Value) (y : DataW H × List MemPlace) (n : Nat), w.cell? (a.add (i * fs.size + j)) = some v ∧ DataW.trod enc P w base spare held n f.type [v] = some y := by
  rcases open_slice ht h with h0 | ⟨a, len, cap, m, n, D, Pl, hcs, hb, hl, hm, hmm, hx, hi⟩
  · exact .inl h0.1
  · refine .inr ⟨a, len, cap, hcs, hl, hm, fun i hi' => ?_⟩
    have him : i < m := by rw [hmm]; split <;> omega
    obtain ⟨cs', hc, ht'⟩ := hi i him
    rw [hC] at hc
    obtain ⟨ys, n', hn', hy, hlen, hyl, hf⟩ := DataW.trod_struct he ht'
    obtain ⟨_, hcl, hat⟩ := World.cells?_some hc
    intro j f hj
    obtain ⟨ho, hk⟩ := hone_of hone j f hj
    have hjl : j < fs.size := (Array.getElem?_eq_some_iff.1 hj).1
    have hcell := hat j hjl
    have hv : cs'[j]? = some (cs'[j]'(by omega)) := List.getElem?_eq_getElem (by omega)
    have h1 := hf j f hj
    rw [ho, hk] at h1
    have hone' : (cs'.drop j).take 1 = [cs'[j]'(by omega)] := by
      rw [List.drop_eq_getElem_cons (by omega)]
      rfl
    rw [hone'] at h1
    have hys : ys[j]? = some (ys[j]'(by omega)) := List.getElem?_eq_getElem (by omega)
    refine ⟨_, _, _, ?_, h1.trans hys⟩
    rw [← Go.Deep.add_add, hcell, hv]
theorem open_fld_row {t e : TypeId} {fs : Array Field} {a : Option Addr} {len cap m : Nat} {d : DataW H} {ps : List MemPlace} (ht : P.underlying t = some (.slice e)) (he : P.underlying e = some (.struct fs))
    (hone : oneCellFields P fs = true) (hC : P.cellsOf e = fs.size) (hm : fs.size = m) (hint : ∀ j, j < m → ∃ f, fs[j]? = some f ∧ P.underlying f.type = some (.int .i64))
    (h : DataW.Trod enc P w base spare held t (.slice a len cap) d ps) : FldRow m w a len cap := by
  obtain ⟨fuel, hf⟩ := h
  rcases open_slice_flds ht he hone hC hf with hcs | ⟨x, l, c, hcs, hl, hmx, hi⟩
  · simp [Value.cells] at hcs
    obtain ⟨rfl, rfl, rfl⟩ := hcs
    exact .inl ⟨rfl, rfl, rfl⟩
  · simp [Value.cells] at hcs
    obtain ⟨rfl, rfl, rfl⟩ := hcs
    refine .inr ⟨x, rfl, hl, hmx, fun i hi' j hj => ?_⟩
    obtain ⟨f, hfj, hfi⟩ := hint j hj
    obtain ⟨v, y, n, hc, hy⟩ := hi i hi' j f hfj
    rw [hm] at hc
    obtain ⟨z, hz, _, hw⟩ := DataW.trod_int hfi hy
    simp only [List.cons.injEq, and_true] at hz
    subst hz
    exact ⟨z, hc, hw⟩
theorem lt_of_cell {w : World} {a : Addr} {v : Value} (h : w.cell? a = some v) : a.block < w.heap.size := by
  rcases Nat.lt_or_ge a.block w.heap.size with hlt | hge
  · exact hlt
  · simp [World.cell?, Array.getElem?_eq_none hge] at h
theorem choose2 {Q : Nat → Nat → Int → Prop} {len m : Nat} (h : ∀ i, i < len → ∀ j, j < m → ∃ n, Q i j n) : ∃ f : Nat → Nat → Int, ∀ i, i < len → ∀ j, j < m → Q i j (f i j) := by
  classical
  refine ⟨fun i j => if hh : i < len ∧ j < m then Classical.choose (h i hh.1 j hh.2) else 0, fun i hi j hj => ?_⟩
  simp only [hi, hj, and_self, dite_true]
  exact Classical.choose_spec (h i hi j hj)
theorem FldRow.open {m : Nat} {w : World} {a : Option Addr} {len cap : Nat} (h : FldRow m w a len cap) (hm : 0 < m) (hl : 0 < len) : ∃ (xb xo : Nat) (f : Nat → Nat → Int), a = some ⟨xb, xo, none⟩ ∧ len ≤ cap ∧ cap ≤ maxLen ∧ xb < w.heap.size ∧
    ∀ i, i < len → ∀ j, j < m → w.cell? ⟨xb, xo + i * m + j, none⟩ = some (.int .i64 (f i j)) ∧ (Lit.int .i64 (f i j)).wf = true := by
  rcases h with ⟨_, h0, _⟩ | ⟨⟨xb, xo, sp⟩, rfl, hlc, hcm, hx⟩
  · omega
  · obtain ⟨f, hf⟩ := choose2 hx
    have h00 := (hf 0 hl 0 hm).1
    cases sp with
    | some s =>
      exfalso
      have e0 : (⟨xb, xo, some s⟩ : Addr).add (0 * m + 0) = ⟨xb, xo, some s⟩ := by simp [Addr.add]
      rw [e0] at h00
      unfold World.cell? at h00
      split at h00 <;> simp at h00
    | none =>
      have hadd : ∀ n, (⟨xb, xo, none⟩ : Addr).add n = ⟨xb, xo + n, none⟩ := fun n => by unfold Addr.add; split <;> simp_all
      have hb := lt_of_cell h00
      rw [hadd] at hb
      refine ⟨xb, xo, f, rfl, hlc, hcm, hb, fun i hi j hj => ?_⟩
      have := hf i hi j hj
      rw [hadd] at this
      rw [Nat.add_assoc]
      exact this
theorem FldRow.any {m : Nat} {w : World} {a : Option Addr} {len cap : Nat} (h : FldRow m w a len cap) (hm : 0 < m) : ∃ (xb xo : Nat) (f : Nat → Nat → Int), len ≤ cap ∧ (0 < len → a = some ⟨xb, xo, none⟩ ∧ xb < w.heap.size) ∧
    ∀ i, i < len → ∀ j, j < m → w.cell? ⟨xb, xo + i * m + j, none⟩ = some (.int .i64 (f i j)) ∧ (Lit.int .i64 (f i j)).wf = true := by
  by_cases h0 : 0 < len
  · obtain ⟨xb, xo, f, e, h1, _, h3, h4⟩ := h.open hm h0
    exact ⟨xb, xo, f, h1, fun _ => ⟨e, h3⟩, h4⟩
  · exact ⟨0, 0, fun _ _ => 0, by omega, fun h => absurd h h0, fun i hi => absurd hi (by omega)⟩
end
end Go.Proofs.Yticlihmbikcohaa.RowKit2
