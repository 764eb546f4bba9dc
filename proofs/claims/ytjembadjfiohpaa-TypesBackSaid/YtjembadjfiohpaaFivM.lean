/- chapter 5: none, kind -/
import Derived.Test.YtjembadjfiohpaaFivB
namespace Go.Proofs.Ytjembadjfiohpaa.Va
open Go
set_option linter.unusedVariables false
set_option linter.unusedSimpArgs false
set_option maxRecDepth 100000
theorem none_c (d : Nat) (b : Bool) (k : Option Nat) (l : List Int) (hlen : l.length ≤ 1000) : evalF Try.prog CC (d + 5) 47 [.list 3 b (intsA l) k] St.empty = some (.bool (l.all (· == 0)), St.empty) := by
  rw [run_47 _ _ _ (by simp)]
  unfold Try.f47
  simp only [Option.getD_some]
  simp only [go_sem, ↓reduceIte, Nat.reduceEqDiff, Nat.reduceAdd, reduceCtorEq, CCT, CCv, CCr, CCk, Nat.reduceBNe, Nat.reduceLeDiff, *]
  have hll : (intsA l).length = l.length := by simp [intsA]
  refine iter_rule (fun i ρ σ => ρ 5 = .list 3 b (intsA l) k ∧ ρ 6 = .int .i64 l.length ∧ ρ 7 = .int .i64 i ∧ (l.take i).all (· == 0) = true) l.length ?_ ?_ _ 0 _ _ (Nat.zero_le _) ?_ ?_
  · intro i ρ σ hi ⟨h5, h6, h7, hp⟩ K hK hx hr
    have hlt : decide ((i : Int) < (l.length : Int)) = true := by simp; omega
    have hwrap : IntKind.i64.wrap ((i : Int) + 1) = ((i + 1 : Nat) : Int) := by rw [IntKind.wrap_i64]; omega
    have hi1 : idxOk (i : Int) l.length = true := by simp [idxOk]; omega
    have hg1 : (intsA l)[(i : Int).toNat]? = some (.int .i64 l[i]) := by simp [intsA, hi]
    simp only [go_sem, ↓reduceIte, Nat.reduceEqDiff, Nat.reduceAdd, reduceCtorEq, CCT, CCv, CCr, CCk, Nat.reduceBNe, Nat.reduceLeDiff, *]
    refine br_split (fun hd => ?_) (fun hd => ?_) <;> simp only [go_sem, ↓reduceIte, Nat.reduceEqDiff, Nat.reduceAdd, reduceCtorEq, CCT, CCv, CCr, CCk, Nat.reduceBNe, Nat.reduceLeDiff, *]
    · have hne : l.all (· == 0) = false := by
        rw [List.all_eq_false]
        exact ⟨l[i], List.getElem_mem hi, by simpa using hd⟩
      rw [hne]
    · refine hK _ _ ⟨by simp only [go_sem, ↓reduceIte, Nat.reduceEqDiff, *], by simp only [go_sem, ↓reduceIte, Nat.reduceEqDiff, *], by simp only [go_sem, ↓reduceIte, Nat.reduceEqDiff, *], ?_⟩
      have hq : l[i] = 0 := by simpa using hd
      rw [List.take_succ_eq_append_getElem hi, List.all_append, hp, hq]
      rfl
  · intro ρ σ ⟨h5, h6, h7, hp⟩ K hx hr
    have hlt : decide ((l.length : Int) < (l.length : Int)) = false := by simp
    rw [List.take_length] at hp
    simp only [go_sem, ↓reduceIte, Nat.reduceEqDiff, Nat.reduceAdd, reduceCtorEq, CCT, CCv, CCr, CCk, Nat.reduceBNe, Nat.reduceLeDiff, *]
  · show l.length < 0 + 9223372036854775900
    omega
  · simp only [go_sem, ↓reduceIte, Nat.reduceEqDiff, Nat.reduceAdd, reduceCtorEq, CCT, CCv, CCr, CCk, Nat.reduceBNe, Nat.reduceLeDiff, *]
    exact ⟨trivial, trivial, rfl, rfl⟩
theorem kind_c (d : Nat) (name : ByteArray) (v r b : Bool) (fs : List Fld) (i : Int) : evalF Try.prog CC (d + 5) 48 [encT name v r b fs, .int .i64 i] St.empty = some (.int .i64 (if h : 0 ≤ i ∧ i < fs.length then (fs[i.toNat]'(by omega)).kind else 0), St.empty) := by
  rw [run_48 _ _ _ (by simp)]
  unfold Try.f48 encT
  simp only [Option.getD_some]
  simp only [go_sem, ↓reduceIte, Nat.reduceEqDiff, Nat.reduceAdd, reduceCtorEq, CCT, CCv, CCr, CCk, Nat.reduceBNe, Nat.reduceLeDiff, *]
  have hll : (fs.map encF).length = fs.length := by simp
  by_cases h0 : 0 ≤ i
  · by_cases h1 : i < fs.length
    · have d0 : decide (i < 0) = false := by simp; omega
      have d1 : decide (i ≥ (fs.length : Int)) = false := by simp; omega
      have hlt : i.toNat < fs.length := by omega
      have hi1 : idxOk i fs.length = true := by simp [idxOk, h0, h1]
      have hg1 : (fs.map encF)[i.toNat]? = some (encF (fs[i.toNat]'hlt)) := by simp [hlt]
      have hg1 : (fs.map encF)[i.toNat]? = some (.agg 41 [.int .i64 (fs[i.toNat]'hlt).kind, .int .i64 (fs[i.toNat]'hlt).len, .int .i64 (fs[i.toNat]'hlt).type, .int .i64 (fs[i.toNat]'hlt).link, .int .i64 (fs[i.toNat]'hlt).key]) := hg1
      rw [dif_pos ⟨h0, h1⟩]
      simp only [go_sem, ↓reduceIte, Nat.reduceEqDiff, Nat.reduceAdd, reduceCtorEq, CCT, CCv, CCr, CCk, Nat.reduceBNe, Nat.reduceLeDiff, hll, d0, d1, hi1, hg1]
    · have d0 : decide (i < 0) = false := by simp; omega
      have d1 : decide (i ≥ (fs.length : Int)) = true := by simp; omega
      rw [dif_neg (by omega)]
      simp only [go_sem, ↓reduceIte, Nat.reduceEqDiff, Nat.reduceAdd, reduceCtorEq, CCT, CCv, CCr, CCk, Nat.reduceBNe, Nat.reduceLeDiff, hll, d0, d1]
  · have d0 : decide (i < 0) = true := by simp; omega
    rw [dif_neg (by omega)]
    simp only [go_sem, ↓reduceIte, Nat.reduceEqDiff, Nat.reduceAdd, reduceCtorEq, CCT, CCv, CCr, CCk, Nat.reduceBNe, Nat.reduceLeDiff, hll, d0]
theorem Kind_c (d : Nat) (name : ByteArray) (v r b : Bool) (fs : List Fld) (i : Int) : evalF Try.prog CC (d + 5) 49 [encT name v r b fs, .int .i64 i] St.empty = some (.int .i64 (if h : 0 ≤ i ∧ i < fs.length then (fs[i.toNat]'(by omega)).kind else 0), St.empty) := by
  rw [run_49 _ _ _ (by simp)]
  unfold Try.f49 encT
  simp only [Option.getD_some]
  simp only [go_sem, ↓reduceIte, Nat.reduceEqDiff, Nat.reduceAdd, reduceCtorEq, CCT, CCv, CCr, CCk, Nat.reduceBNe, Nat.reduceLeDiff, *]
  have hll : (fs.map encF).length = fs.length := by simp
  by_cases h0 : 0 ≤ i
  · by_cases h1 : i < fs.length
    · have d0 : decide (i ≥ 0) = true := by simp; omega
      have d1 : decide (i < (fs.length : Int)) = true := by simp; omega
      have hlt : i.toNat < fs.length := by omega
      have hi1 : idxOk i fs.length = true := by simp [idxOk, h0, h1]
      have hg1 : (fs.map encF)[i.toNat]? = some (encF (fs[i.toNat]'hlt)) := by simp [hlt]
      have hg1 : (fs.map encF)[i.toNat]? = some (.agg 41 [.int .i64 (fs[i.toNat]'hlt).kind, .int .i64 (fs[i.toNat]'hlt).len, .int .i64 (fs[i.toNat]'hlt).type, .int .i64 (fs[i.toNat]'hlt).link, .int .i64 (fs[i.toNat]'hlt).key]) := hg1
      rw [dif_pos ⟨h0, h1⟩]
      simp only [go_sem, ↓reduceIte, Nat.reduceEqDiff, Nat.reduceAdd, reduceCtorEq, CCT, CCv, CCr, CCk, Nat.reduceBNe, Nat.reduceLeDiff, hll, d0, d1, hi1, hg1]
    · have d0 : decide (i ≥ 0) = true := by simp; omega
      have d1 : decide (i < (fs.length : Int)) = false := by simp; omega
      rw [dif_neg (by omega)]
      simp only [go_sem, ↓reduceIte, Nat.reduceEqDiff, Nat.reduceAdd, reduceCtorEq, CCT, CCv, CCr, CCk, Nat.reduceBNe, Nat.reduceLeDiff, hll, d0, d1]
  · have d0 : decide (i ≥ 0) = false := by simp; omega
    rw [dif_neg (by omega)]
    simp only [go_sem, ↓reduceIte, Nat.reduceEqDiff, Nat.reduceAdd, reduceCtorEq, CCT, CCv, CCr, CCk, Nat.reduceBNe, Nat.reduceLeDiff, hll, d0]
end Go.Proofs.Ytjembadjfiohpaa.Va
