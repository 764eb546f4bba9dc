/- chapter 5: field -/
import Derived.Test.YtjembadjfiohpaaFivM
namespace Go.Proofs.Ytjembadjfiohpaa.Va
open Go
set_option linter.unusedVariables false
set_option linter.unusedSimpArgs false
set_option maxRecDepth 100000
instance : Inhabited Fld := ⟨⟨0, 0, 0, 0, 0⟩⟩
structure Typ where
  name : ByteArray
  value : Bool
  refs : Bool
  nil : Bool
  fields : List Fld
instance : Inhabited Typ := ⟨⟨ByteArray.empty, false, false, true, []⟩⟩
def encTy (t : Typ) : AV := .agg 32 [.str t.name, .bool t.value, .bool t.refs, .list 41 t.nil (t.fields.map encF) none]
attribute [go_sem] encTy encF
theorem encTy_T (t : Typ) : encTy t = encT t.name t.value t.refs t.nil t.fields := nr rfl
def kindT (fs : List Fld) (i : Int) : Int := if 0 ≤ i ∧ i < fs.length then (at0 fs i).kind else 0
theorem kindT_eq (fs : List Fld) (i : Int) : (if h : 0 ≤ i ∧ i < fs.length then (fs[i.toNat]'(by omega)).kind else 0) = kindT fs i := by
  unfold kindT
  by_cases h : 0 ≤ i ∧ i < fs.length
  · have : i.toNat < fs.length := by omega
    simp [h, at0, this]
  · simp [h]
theorem kind_t (d : Nat) (t : Typ) (i : Int) : evalF Try.prog CC (d + 5) 48 [encTy t, .int .i64 i] St.empty = some (.int .i64 (kindT t.fields i), St.empty) := by
  rw [encTy_T, kind_c, kindT_eq]
theorem Kind_t (d : Nat) (t : Typ) (i : Int) : evalF Try.prog CC (d + 5) 49 [encTy t, .int .i64 i] St.empty = some (.int .i64 (kindT t.fields i), St.empty) := by
  rw [encTy_T, Kind_c, kindT_eq]
def toS (l : List Typ) (i : Int) : Int := if 0 ≤ i ∧ i < l.length then (if (at0 l i).value = true then 7 else 0) else 4
def fieldS (l : List Typ) (tv : Bool) (f : Fld) : Int :=
  if f.kind = 1 then (if f.type = 0 ∧ f.link = 0 ∧ f.key = 0 then (if sizeS f = 0 then 4 else 0) else 7)
  else if f.kind = 2 then (if f.len = 0 ∧ f.link = 0 ∧ f.key = 0 then toS l f.type else 7)
  else if f.kind = 3 ∨ f.kind = 4 then (if f.len = 0 ∧ f.type = 0 ∧ f.link = 0 ∧ f.key = 0 ∧ tv = false then 0 else 7)
  else if f.kind = 5 then (if f.len = 0 ∧ f.key = 0 ∧ tv = true then (if toS l f.type ≠ 0 then toS l f.type else if kindT (at0 l f.type).fields f.link = 3 then 0 else 7) else 7)
  else if f.kind = 6 then (if f.len = 0 ∧ tv = true then (if toS l f.type ≠ 0 then toS l f.type else if (at0 l f.type).refs = false ∧ kindT (at0 l f.type).fields f.link = 4 ∧ kindT (at0 l f.type).fields f.key = 1 then 0 else 7) else 7)
  else if f.kind = 7 then (if f.len = 0 ∧ f.type = 0 ∧ f.link = 0 ∧ f.key = 0 ∧ tv = true then 0 else 7)
  else 7
def encTs (b : Bool) (l : List Typ) : AV := .list 32 b (l.map encTy) none
theorem beqI' (a b : Int) : (a == b) = decide (a = b) := beqI a b
theorem all1 (a : Int) : [a].all (· == 0) = decide (a = 0) := by by_cases h : a = 0 <;> simp [h]
theorem all2 (a b : Int) : [a, b].all (· == 0) = decide (a = 0 ∧ b = 0) := by by_cases h : a = 0 <;> by_cases h2 : b = 0 <;> simp [h, h2]
theorem all3 (a b c : Int) : [a, b, c].all (· == 0) = decide (a = 0 ∧ b = 0 ∧ c = 0) := by by_cases h : a = 0 <;> by_cases h2 : b = 0 <;> by_cases h3 : c = 0 <;> simp [h, h2, h3]
theorem all4 (a b c d : Int) : [a, b, c, d].all (· == 0) = decide (a = 0 ∧ b = 0 ∧ c = 0 ∧ d = 0) := by by_cases h : a = 0 <;> by_cases h2 : b = 0 <;> by_cases h3 : c = 0 <;> by_cases h4 : d = 0 <;> simp [h, h2, h3, h4]
set_option maxHeartbeats 4000000 in
theorem field_c (d : Nat) (bl : Bool) (l : List Typ) (t : Typ) (f : Fld) : evalF Try.prog CC (d + 9) 39 [encTs bl l, encTy t, encF f] St.empty = some (.int .i64 (fieldS l t.value f), St.empty) := by
  have n1 := fun d a => none_c d false none [a] (by simp)
  have n2 := fun d a b => none_c d false none [a, b] (by simp)
  have n3 := fun d a b c => none_c d false none [a, b, c] (by simp)
  have n4 := fun d a b c e => none_c d false none [a, b, c, e] (by simp)
  simp only [intsA, List.map_cons, List.map_nil, all1, all2, all3, all4] at n1 n2 n3 n4
  have hk := fun d name v r b fs i => (kind_c d name v r b fs i).trans (by rw [kindT_eq])
  have hs := fun d k n t l e => size_c d ⟨k, n, t, l, e⟩
  have r46 := fun d a b σ => run_46 d [a, b] σ (by simp)
  unfold Try.f46 at r46
  simp only [Option.getD_some] at r46
  obtain ⟨k, n, ty, li, ke⟩ := f
  obtain ⟨name, tv, tr, tn, fs⟩ := t
  simp only [encT, encF] at hk hs
  rw [run_39 _ _ _ (by simp)]; unfold Try.f39; simp only [Option.getD_some]
  simp only [encTs, encTy, encF]
  simp only [go_sem, ↓reduceIte, Nat.reduceEqDiff, Nat.reduceAdd, reduceCtorEq, CCT, CCv, CCr, CCk, Nat.reduceBNe, Nat.reduceLeDiff, Nat.reduceLT, beqI, bneI, List.length_map, decide_true, decide_false, Int.reduceEq, Int.reduceLT, Int.reduceLE, Int.reduceGE, Int.reduceGT, not_true_eq_false, not_false_eq_true, Bool.and_true, Bool.true_and, Bool.and_false, Bool.false_and, and_true, true_and, and_self, Bool.not_not, *]
  repeat' (first | with_reducible rfl | refine idx_at (by omega) (by omega) ?_; simp only [go_sem, ↓reduceIte, Nat.reduceEqDiff, Nat.reduceAdd, reduceCtorEq, CCT, CCv, CCr, CCk, Nat.reduceBNe, Nat.reduceLeDiff, Nat.reduceLT, beqI, bneI, List.length_map, decide_true, decide_false, Int.reduceEq, Int.reduceLT, Int.reduceLE, Int.reduceGE, Int.reduceGT, not_true_eq_false, not_false_eq_true, Bool.and_true, Bool.true_and, Bool.and_false, Bool.false_and, and_true, true_and, and_self, Bool.not_not, *] | refine br_idx (by omega) (by omega) ?_; try simp only [go_sem, ↓reduceIte, Nat.reduceEqDiff, Nat.reduceAdd, reduceCtorEq, CCT, CCv, CCr, CCk, Nat.reduceBNe, Nat.reduceLeDiff, Nat.reduceLT, beqI, bneI, List.length_map, decide_true, decide_false, Int.reduceEq, Int.reduceLT, Int.reduceLE, Int.reduceGE, Int.reduceGT, not_true_eq_false, not_false_eq_true, Bool.and_true, Bool.true_and, Bool.and_false, Bool.false_and, and_true, true_and, and_self, Bool.not_not, *] | refine bnd_at (by omega) (by omega) ?_; simp only [go_sem, ↓reduceIte, Nat.reduceEqDiff, Nat.reduceAdd, reduceCtorEq, CCT, CCv, CCr, CCk, Nat.reduceBNe, Nat.reduceLeDiff, Nat.reduceLT, beqI, bneI, List.length_map, decide_true, decide_false, Int.reduceEq, Int.reduceLT, Int.reduceLE, Int.reduceGE, Int.reduceGT, not_true_eq_false, not_false_eq_true, Bool.and_true, Bool.true_and, Bool.and_false, Bool.false_and, and_true, true_and, and_self, Bool.not_not, *] | refine br_dec (fun h => ?_) (fun h => ?_) <;> simp only [go_sem, ↓reduceIte, Nat.reduceEqDiff, Nat.reduceAdd, reduceCtorEq, CCT, CCv, CCr, CCk, Nat.reduceBNe, Nat.reduceLeDiff, Nat.reduceLT, beqI, bneI, List.length_map, decide_true, decide_false, Int.reduceEq, Int.reduceLT, Int.reduceLE, Int.reduceGE, Int.reduceGT, not_true_eq_false, not_false_eq_true, Bool.and_true, Bool.true_and, Bool.and_false, Bool.false_and, and_true, true_and, and_self, Bool.not_not, *] | refine want_dect (fun h => ?_) (fun h => ?_) <;> simp only [go_sem, ↓reduceIte, Nat.reduceEqDiff, Nat.reduceAdd, reduceCtorEq, CCT, CCv, CCr, CCk, Nat.reduceBNe, Nat.reduceLeDiff, Nat.reduceLT, beqI, bneI, List.length_map, decide_true, decide_false, Int.reduceEq, Int.reduceLT, Int.reduceLE, Int.reduceGE, Int.reduceGT, not_true_eq_false, not_false_eq_true, Bool.and_true, Bool.true_and, Bool.and_false, Bool.false_and, and_true, true_and, and_self, Bool.not_not, *] | refine want_decf (fun h => ?_) (fun h => ?_) <;> simp only [go_sem, ↓reduceIte, Nat.reduceEqDiff, Nat.reduceAdd, reduceCtorEq, CCT, CCv, CCr, CCk, Nat.reduceBNe, Nat.reduceLeDiff, Nat.reduceLT, beqI, bneI, List.length_map, decide_true, decide_false, Int.reduceEq, Int.reduceLT, Int.reduceLE, Int.reduceGE, Int.reduceGT, not_true_eq_false, not_false_eq_true, Bool.and_true, Bool.true_and, Bool.and_false, Bool.false_and, and_true, true_and, and_self, Bool.not_not, *] | refine br_ndec (fun h => ?_) (fun h => ?_) <;> simp only [go_sem, ↓reduceIte, Nat.reduceEqDiff, Nat.reduceAdd, reduceCtorEq, CCT, CCv, CCr, CCk, Nat.reduceBNe, Nat.reduceLeDiff, Nat.reduceLT, beqI, bneI, List.length_map, decide_true, decide_false, Int.reduceEq, Int.reduceLT, Int.reduceLE, Int.reduceGE, Int.reduceGT, not_true_eq_false, not_false_eq_true, Bool.and_true, Bool.true_and, Bool.and_false, Bool.false_and, and_true, true_and, and_self, Bool.not_not, *] | refine want_ndect (fun h => ?_) (fun h => ?_) <;> simp only [go_sem, ↓reduceIte, Nat.reduceEqDiff, Nat.reduceAdd, reduceCtorEq, CCT, CCv, CCr, CCk, Nat.reduceBNe, Nat.reduceLeDiff, Nat.reduceLT, beqI, bneI, List.length_map, decide_true, decide_false, Int.reduceEq, Int.reduceLT, Int.reduceLE, Int.reduceGE, Int.reduceGT, not_true_eq_false, not_false_eq_true, Bool.and_true, Bool.true_and, Bool.and_false, Bool.false_and, and_true, true_and, and_self, Bool.not_not, *] | refine want_ndecf (fun h => ?_) (fun h => ?_) <;> simp only [go_sem, ↓reduceIte, Nat.reduceEqDiff, Nat.reduceAdd, reduceCtorEq, CCT, CCv, CCr, CCk, Nat.reduceBNe, Nat.reduceLeDiff, Nat.reduceLT, beqI, bneI, List.length_map, decide_true, decide_false, Int.reduceEq, Int.reduceLT, Int.reduceLE, Int.reduceGE, Int.reduceGT, not_true_eq_false, not_false_eq_true, Bool.and_true, Bool.true_and, Bool.and_false, Bool.false_and, and_true, true_and, and_self, Bool.not_not, *] | refine br_split (fun h => ?_) (fun h => ?_) <;> simp only [go_sem, ↓reduceIte, Nat.reduceEqDiff, Nat.reduceAdd, reduceCtorEq, CCT, CCv, CCr, CCk, Nat.reduceBNe, Nat.reduceLeDiff, Nat.reduceLT, beqI, bneI, List.length_map, decide_true, decide_false, Int.reduceEq, Int.reduceLT, Int.reduceLE, Int.reduceGE, Int.reduceGT, not_true_eq_false, not_false_eq_true, Bool.and_true, Bool.true_and, Bool.and_false, Bool.false_and, and_true, true_and, and_self, Bool.not_not, *] | refine want_split (fun h => ?_) (fun h => ?_) <;> simp only [go_sem, ↓reduceIte, Nat.reduceEqDiff, Nat.reduceAdd, reduceCtorEq, CCT, CCv, CCr, CCk, Nat.reduceBNe, Nat.reduceLeDiff, Nat.reduceLT, beqI, bneI, List.length_map, decide_true, decide_false, Int.reduceEq, Int.reduceLT, Int.reduceLE, Int.reduceGE, Int.reduceGT, not_true_eq_false, not_false_eq_true, Bool.and_true, Bool.true_and, Bool.and_false, Bool.false_and, and_true, true_and, and_self, Bool.not_not, *])
  all_goals clear n1 n2 n3 n4 hk hs r46
  all_goals first | (simp_all [fieldS, toS]; done) | (simp_all [fieldS, toS]; omega) | trace_state
end Go.Proofs.Ytjembadjfiohpaa.Va
