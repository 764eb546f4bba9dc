/- the doors: what the program's own variables read as -/
import Derived.Test.YtlkmhmiicagfmaaDoorDooX
import Derived.Test.YtlkmhmiicagfmaaDoorVaN
import Derived.Test.YtlkmhmiicagfmaaDoorTie
import Derived.LaidMore
import Derived.OpenShut
import Derived.Stop.Joined
namespace Go.Proofs.YtlkmhmiicagfmaaDoor.Va
open Go
set_option linter.unusedVariables false
set_option maxRecDepth 100000
def debr : List Int := [0, 1, 56, 2, 57, 49, 28, 3, 61, 58, 42, 50, 38, 29, 17, 4, 62, 47, 59, 36, 45, 43, 51, 22, 53, 39, 33, 30, 24, 18, 12, 5, 63, 55, 48, 27, 60, 41, 37, 16, 46, 35, 44, 21, 52, 32, 23, 11, 54, 26, 40, 15, 34, 20, 31, 10, 25, 14, 19, 9, 13, 8, 7, 6]
def laidL : List (String × DataW Unit) := [("math/bits.deBruijn64tab", Rows.laid_math_bits_deBruijn64tab)]
theorem debr_laid : (Rows.laid_math_bits_deBruijn64tab : DataW Unit) = .agg (debr.map fun z => .lit (.int .u8 z)) := by kernel_rfl
theorem debr_glob : globAV 0 = .fptr 174 (.agg 174 (debr.map (.int .u8))) := by kernel_rfl
section
variable {H : Type} {enc : TypeId × Value → H} {P : Program} {w : World} {base : Nat} {spare : Nat → Bool} {held : Bool} {fuel : Nat}
/-- An array of whole numbers, read. -/
theorem trod_ints {t e : TypeId} {n : Nat} {k : IntKind} {cs : List Value} {ks : List Int} {p : List MemPlace} (hu : P.underlying t = some (.array n e)) (he : P.underlying e = some (.int k)) (c1 : P.cellsOf e = 1) (ct : P.cellsOf t = n) (h : DataW.trod enc P w base spare held fuel t cs = some (.agg (ks.map fun z => .lit (.int k z)), p)) : cs = ks.map (.int k) := by
  obtain ⟨xs, m, _, hx, hlen, hxl, hel⟩ := DataW.trod_array hu h
  simp only [Prod.mk.injEq, DataW.agg.injEq] at hx
  have hkl : ks.length = n := by have := congrArg List.length hx.1; simpa [hxl] using this
  refine List.ext_getElem? fun i => ?_
  rcases Nat.lt_or_ge i n with hi | hi
  · have h1 := hel i hi
    obtain ⟨x, hxi⟩ : ∃ x, xs[i]? = some x := ⟨xs[i]'(by omega), List.getElem?_eq_getElem (by omega)⟩
    rw [hxi] at h1
    obtain ⟨z, h2, h3, _⟩ := DataW.trod_int he h1
    have h4 := congrArg (·[i]?) hx.1
    simp only [List.getElem?_map, hxi, Option.map_some] at h4
    obtain ⟨k', hk⟩ : ∃ z, ks[i]? = some z := ⟨ks[i]'(by omega), List.getElem?_eq_getElem (by omega)⟩
    rw [hk, h3] at h4
    simp only [Option.map_some, Option.some.injEq, DataW.lit.injEq, Lit.int.injEq, true_and] at h4
    subst h4
    rw [c1, Nat.mul_one] at h2
    have h5 := congrArg (·[0]?) h2
    simp only [List.getElem?_take, List.getElem?_drop, List.getElem?_cons_zero] at h5
    rw [List.getElem?_map, hk]
    simpa using h5
  · rw [List.getElem?_eq_none (by omega), List.getElem?_eq_none (by simp; omega)]
end
theorem repL_ints {T : Tab} {c : Cx} {e : TypeId} {k : IntKind} (he : T.ty e = some (.int k)) : ∀ ks : List Int, RepL T c (List.replicate ks.length e) (ks.map (.int k)) (ks.map (.int k))
  | [] => .nil c
  | x :: r => .cons c e _ _ _ _ [.int k x] _ he (.int c k x) (repL_ints he r)
/-- The door's own heap meets the condition. -/
theorem door_met (os : Os) (args : Array Value) : laidMetH Tryd.prog laidL ((World.doorLaid Tryd.prog 400 os).forCall (fun _ _ => 0) ⟨#[], args, []⟩).memory :=
  laidMetH_of_parts3 (fuel := 8) (laidMet_of_run' 8 (by kernel_rfl) (by kernel_rfl)) (by kernel_rfl) (by kernel_rfl)
theorem gDebr : Tryd.prog.globalNamed "math/bits.deBruijn64tab" = some 0 := by kernel_rfl
theorem tDebr : (Tryd.prog.globals[0]?).map (·.type) = some 174 := by kernel_rfl
theorem glob_ok {W : World} (h : laidMetH Tryd.prog laidL W) : GlobOk CC.T (cxW W) := by
  rw [MakeChecks.laidMetH_plain _ _ _ (by kernel_rfl)] at h
  obtain ⟨ps, ⟨g0, t0, cs0, f0, p0, q0, hg0, ht0, hv0, hd0, _, _⟩, _, _⟩ := h
  obtain rfl := Option.some.inj (gDebr.symm.trans hg0)
  obtain rfl := Option.some.inj (tDebr.symm.trans ht0)
  rw [debr_laid] at hd0
  have hcs := trod_ints Tryd.underlying174 Tryd.underlying5 (by kernel_rfl) (by kernel_rfl) hd0
  intro g
  by_cases hg : g = 0
  · subst hg
    rw [debr_glob]
    refine ⟨_, .fptr _ _ _ _ _ _ _ (by rfl) (.agg _ _ _ _ _ _ (by rfl) (by rfl) (repL_ints (e := 5) (k := .u8) (by rfl) debr)) (fun j u hj => ?_), rfl⟩
    show W.cell? ⟨0, 0 + j, none⟩ = some u
    rw [Nat.zero_add, World.var?_cell hg0 hv0 j, ← Array.getElem?_toList, hcs]
    exact hj
  · have : globAV g = .undef := by
      match g, hg with
      | g + 1, _ => rfl
    rw [this]
    trivial
end Go.Proofs.YtlkmhmiicagfmaaDoor.Va
