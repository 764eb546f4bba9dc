/- chapter 5: TypesBytes, the law -/
import Derived.Test.YtjembadjfiohpaaFivBz
namespace Go.Proofs.Ytjembadjfiohpaa.Va
open Go
set_option linter.unusedVariables false
set_option linter.unusedSimpArgs false
set_option maxRecDepth 100000
def bsOf (xs : List Int) : ByteArray := ⟨(xs.map fun n => UInt8.ofNat n.toNat).toArray⟩
theorem mapM_byte : ∀ (xs : List Int), (bytesI xs).mapM unbyte = some (xs.map fun n => UInt8.ofNat n.toNat)
  | [] => rfl
  | x :: xs => by
    have ih := mapM_byte xs
    unfold bytesI at ih ⊢
    rw [List.map_cons, List.mapM_cons, ih]
    rfl
/-- A row of bytes, as a text. -/
theorem list_str {xs : List Int} {b : Bool} {tt : Option Nat} {m : Mem} : @aConvert T m 43 9 (.list 5 b (bytesI xs) tt) = some (.str (bsOf xs)) := by
  simp only [aConvert, ty_9, ty_43, ty_5, elemIs, sliceOf, BEq.rfl, and_self, if_true, Option.bind_some, mapM_byte, Option.map_some, bsOf]
theorem gw_str {xs : List Int} {σ : St} {m : Mem} {v : AV} {kk : Option Nat} (hg : Gw 5 (bytesI xs) σ v kk) : @aConvert T m 43 9 v = some (.str (bsOf xs)) := by
  rcases hg with ⟨h, rfl, _⟩ | ⟨_, t, rfl, rfl, _⟩
  · have : xs = [] := by simpa [bytesI] using h
    subst this
    simp only [aConvert, ty_9, ty_43, ty_5, elemIs, sliceOf, BEq.rfl, and_self, if_true, Option.bind_some]
    rfl
  · exact list_str
theorem law8_nil (b : Bool) : evalF Try.prog CC 70 8 [.list 32 b [] none] St.empty = some (.bool true, St.empty) := by
  cases b <;> kernel_rfl
theorem law8 (bl : Bool) (l : List Typ) (hl : l.length ≤ 9223372036854775807) (hnm : ∀ t ∈ l, t.name.size ≤ 9223372036854775807) (hne : l ≠ []) : evalF Try.prog CC 70 8 [encTs bl l] St.empty = some (.bool true, St.empty) := by
  have hs := fun d => shown_c d
  refine wp_eq ?_
  rw [run_8 _ _ _ (by simp)]; unfold Try.f8; simp only [Option.getD_some]
  simp only [encTs]
  simp only [go_sem, ↓reduceIte, Nat.reduceEqDiff, Nat.reduceAdd, reduceCtorEq, CCT, CCv, CCr, CCk, Nat.reduceBNe, Nat.reduceLeDiff, Nat.reduceLT, beqI, bneI, List.length_map, decide_true, decide_false, Int.reduceEq, Int.reduceLT, Int.reduceLE, Int.reduceGE, Int.reduceGT, not_true_eq_false, not_false_eq_true, Bool.and_true, Bool.true_and, Bool.and_false, Bool.false_and, and_true, true_and, and_self, Bool.not_not, *]
  refine W.call_gw_tup (Bytes_c 9 bl l hl) rfl rfl ?_
  intro v1 σ1 k1 hg1 hσ1
  simp only [go_sem, ↓reduceIte, Nat.reduceEqDiff, Nat.reduceAdd, reduceCtorEq, CCT, CCv, CCr, CCk, Nat.reduceBNe, Nat.reduceLeDiff, Nat.reduceLT, beqI, bneI, List.length_map, decide_true, decide_false, Int.reduceEq, Int.reduceLT, Int.reduceLE, Int.reduceGE, Int.reduceGT, not_true_eq_false, not_false_eq_true, Bool.and_true, Bool.true_and, Bool.and_false, Bool.false_and, and_true, true_and, and_self, Bool.not_not, *]
  refine W.call_gw_tup (refBytes_c 9 bl l hl hnm hne) rfl rfl ?_
  intro v2 σ2 k2 hg2 hσ2
  have e1 := fun m => gw_str (m := m) hg1
  have e2 := fun m => gw_str (m := m) hg2
  simp only [go_sem, ↓reduceIte, Nat.reduceEqDiff, Nat.reduceAdd, reduceCtorEq, CCT, CCv, CCr, CCk, Nat.reduceBNe, Nat.reduceLeDiff, Nat.reduceLT, beqI, bneI, List.length_map, decide_true, decide_false, Int.reduceEq, Int.reduceLT, Int.reduceLE, Int.reduceGE, Int.reduceGT, not_true_eq_false, not_false_eq_true, Bool.and_true, Bool.true_and, Bool.and_false, Bool.false_and, and_true, true_and, and_self, Bool.not_not, e1, e2]
  rfl
theorem bytes_law (_d : Nat) (a : AV) (h : Arg T 22 a) : ∃ σ', evalF Try.prog CC 70 8 [a] St.empty = some (.bool true, σ') := by
  obtain ⟨b, l, rfl, h1, h2, _⟩ := arg_typs h
  by_cases hl : l = []
  · subst hl
    exact ⟨_, law8_nil b⟩
  · exact ⟨_, law8 b l h1 h2 hl⟩
end Go.Proofs.Ytjembadjfiohpaa.Va
