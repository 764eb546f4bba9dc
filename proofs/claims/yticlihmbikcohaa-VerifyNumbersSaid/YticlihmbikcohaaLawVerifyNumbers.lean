/- VerifyNumbers: the row, out of the walk of its text by the interpreter -/
import Derived.Test.YticlihmbikcohaaRowKit
import Derived.Test.YticlihmbikcohaaVaN
import Derived.Test.YticlihmbikcohaaMg3
namespace Go.Proofs.Yticlihmbikcohaa.verifyNumbers
open Go.ChangeShapes Go.WideShapes Go.ChangeAt Go.RowKit
open Go.ChangeMaps (open_string shut_string)
set_option linter.unusedVariables false
theorem ownKnob_none : ownKnob Try.prog.godebug = none := by kernel_rfl
theorem laidOut : laidOutB Try.prog = true := by kernel_rfl
set_option maxRecDepth 100000 in
theorem lifted (os : Os) (started : os.Started) (H : Type) (enc : TypeId × Value → H) :
    ReturnsInHanded {} Try.checked os 3 .any (Rows.verifyNumbersSpec.pre6 enc Try.prog Try.f3 Rows.verifyNumbersRow.domain false) (Rows.verifyNumbersSpec.post enc Try.prog Try.f3 false true false false) := by
  refine returnsInHanded_of_change_sized (C := Try.checked) ownKnob_none started (by kernel_rfl) Try.func3
    (ChangeSpec.witness6 (enc := enc) (C := Try.checked) false ⟨#[], #[.slice none 0 0, .slice none 0 0, .int .u64 0], []⟩ 8 (by kernel_rfl) (by kernel_rfl) (by kernel_rfl) (by kernel_rfl)) ?_
  intro W base args ds gs before hval0 hW hcnd hsz0 _
  have hval : ∀ (j : Nat) t v, Try.f3.params[j]? = some t → args[j]? = some v → Value.okWide Try.prog W .any base t v := hval0
  have hW' := hW
  obtain ⟨p, q, hA0, hV, rfl, hfz, hnd⟩ := hW
  have hA : DataW.TrodAll enc Try.prog W 0 (fun _ => true) true Try.f3.params.toList args.toList ds p := hA0
  have hsz : (DataW.weightsEach Try.prog (Try.f3.params.toList ++ Rows.verifyNumbersSpec.plain.varTypes Try.prog) (ds ++ gs)).all (· ≤ reachBytes) = true := hsz0
  rw [Try.params3] at hA hval hsz
  obtain ⟨v0, vs0, d0, ds0, p0, q0, hargs, rfl, rfl, h0, r0⟩ := trodAll_cons hA
  obtain ⟨v1, vs1, d1, ds1, p1, q1, rfl, rfl, rfl, h1, r1⟩ := trodAll_cons r0
  obtain ⟨v2, vs2, d2, ds2, p2, q2, rfl, rfl, rfl, h2, r2⟩ := trodAll_cons r1
  obtain ⟨rfl, rfl, rfl⟩ := trodAll_nil r2
  obtain rfl : args = #[v0, v1, v2] := by cases args; simp_all
  obtain ⟨rfl, rfl⟩ := trodVars_none hV
  obtain ⟨a0, g0, e0⟩ := Va.arg_of (n := 20) Va.tabOk (by kernel_rfl) (hval 0 22 v0 rfl rfl) h0 (Va.sized_arg hsz (j := 0) (t := 22) rfl rfl)
  have lt0 : ∀ x ∈ p0, x.block < W.heap.size := by obtain ⟨m, hm⟩ := h0; exact DataW.trod_lt m _ _ _ hm
  obtain ⟨a1, g1, e1⟩ := Va.arg_of (n := 20) Va.tabOk (by kernel_rfl) (hval 1 23 v1 rfl rfl) h1 (Va.sized_arg hsz (j := 1) (t := 23) rfl rfl)
  have lt1 : ∀ x ∈ p1, x.block < W.heap.size := by obtain ⟨m, hm⟩ := h1; exact DataW.trod_lt m _ _ _ hm
  obtain ⟨a2, g2, e2⟩ := Va.arg_of (n := 20) Va.tabOk (by kernel_rfl) (hval 2 24 v2 rfl rfl) h2 (Va.sized_arg hsz (j := 2) (t := 24) rfl rfl)
  have lt2 : ∀ x ∈ p2, x.block < W.heap.size := by obtain ⟨m, hm⟩ := h2; exact DataW.trod_lt m _ _ _ hm
  clear hA0 hval0 hsz0
  obtain ⟨σ', hl⟩ := Va.numbers_law 0 a0 a1 a2 g0 g1 g2
  refine (Va.law_calls (vs := #[v0, v1, v2]) (Va.calls_ok Try.checked.mixed _) hl (Va.repA_cons e0 (Va.repA_cons e1 (Va.repA_cons e2 Va.repA0))) (Va.enters Try.func3 Va.body_3 Va.name_3 _ _)).mono fun e W' ⟨he, bel⟩ => ?_
  subst he
  exact ⟨_, rfl, _, _, _, [], _, [], hW', trodAll_mk1 (shut_bool Try.underlying4 _), (trodAll_cons_mk (Below.trod laidOut (by kernel_rfl) (of_decide_eq_true (by kernel_rfl)) h0 bel lt0) (trodAll_cons_mk (Below.trod laidOut (by kernel_rfl) (of_decide_eq_true (by kernel_rfl)) h1 bel lt1) (trodAll_cons_mk (Below.trod laidOut (by kernel_rfl) (of_decide_eq_true (by kernel_rfl)) h2 bel lt2) trodAll_mk0))), rfl, bel.frame _, fun h => by cases h⟩
theorem over : Rows.verifyNumbersRow.holds Try.pinned (OpenSpec.ofChange Rows.verifyNumbersSpec) :=
  OpenClaim.holds_of_wide 3 Try.f3 rfl rfl rfl rfl rfl rfl rfl ⟨rfl, rfl, rfl, rfl, rfl⟩ rfl rfl rfl rfl rfl (by kernel_rfl) Try.func3 (by kernel_rfl)
    (of_decide_eq_true (by kernel_rfl)) (by unfold Func.isWrapper; first | (rw [if_pos (by decide +kernel)]; kernel_rfl) | (rw [if_neg (by decide +kernel)]; exact ⟨rfl, rfl⟩))
    (fun os started H enc _ => lifted os started H enc)
theorem proved : Rows.VerifyNumbersSaid := over
#print axioms proved
end Go.Proofs.Yticlihmbikcohaa.verifyNumbers
namespace Go.Proofs.Yticlihmbikcohaa
/-- The row, under a short name, for the claim. -/
theorem verifyNumbers_holds : Rows.VerifyNumbersSaid := verifyNumbers.proved
end Go.Proofs.Yticlihmbikcohaa
