/- how long a slice of whole numbers may be that an argument is -/
import Derived.Test.YtjembadjfiohpaaVaN
import Derived.SizedLaws
import Derived.ChangeSlices
namespace Go.Proofs.Ytjembadjfiohpaa.Va
open Go Go.ChangeShapes Go.WideShapes
set_option linter.unusedVariables false
theorem sized_row {H : Type} {enc : TypeId × Value → H} {P : Program} {W : World} {base : Nat} {spare : Nat → Bool} {held : Bool} {t e : TypeId} {k : IntKind} {a : Option Addr} {len cap : Nat} {d : DataW H} {ps : List MemPlace} {ts : List TypeId} {ds : List (DataW H)} {j : Nat}
    (hsz : (DataW.weightsEach P ts ds).all (· ≤ reachBytes) = true) (ht : ts[j]? = some t) (hd : ds[j]? = some d) (hu : P.underlying t = some (.slice e)) (he : P.underlying e = some (.int k)) (hc : P.cellsOf e = 1) (hB : P.bytesOf e = 1)
    (h : DataW.Trod enc P W base spare held t (.slice a len cap) d ps) : len ≤ 140737488351232 := by
  obtain ⟨fuel, hf⟩ := h
  rcases open_ints hu he hc hf with ⟨hcs, _⟩ | ⟨x, l, c, zs, hcs, _, hl, _, hz, hx, _, _⟩
  · simp [Value.cells] at hcs
    obtain ⟨rfl, rfl, rfl⟩ := hcs
    simp
  · simp [Value.cells] at hcs
    obtain ⟨rfl, rfl, rfl⟩ := hcs
    obtain ⟨hx, _⟩ := Prod.mk.inj hx
    subst hx
    have z := sized_slice hsz ht hd hu
    rw [hB] at z
    have hl2 : len ≤ zs.length := by
      rw [hz]
      split
      · exact hl
      · exact Nat.le_refl _
    have h1 : (lits (H := H) k (zs.take len)).length + (lits (H := H) k (zs.drop len)).length = zs.length := by
      simp [lits]
      omega
    rw [h1] at z
    have z2 : zs.length * 1 ≤ 140737488351232 := z
    omega
theorem list_len {T : Tab} {c : Cx} {ad : Option Addr} {len cap : Nat} {e : TypeId} {n : Bool} {xs : List AV} {tok : Option Nat} (r : RepT T c (.list e n xs tok) (.slice ad len cap)) : xs.length ≤ len := by
  obtain ⟨d, h, _⟩ := r
  generalize hcs : (Value.slice ad len cap).cells.toList = cs at h
  cases h with
  | list0 => exact Nat.zero_le _
  | list _ _ _ cs b o cap' _ h hF hne hcap hk =>
    simp [Value.cells] at hcs
    omega
end Go.Proofs.Ytjembadjfiohpaa.Va
