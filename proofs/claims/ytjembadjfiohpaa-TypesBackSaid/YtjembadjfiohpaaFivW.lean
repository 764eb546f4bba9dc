/- chapter 4: numbers and texts, laid down -/
import Derived.Test.YtjembadjfiohpaaFivN
import Derived.Test.YtjembadjfiohpaaVaGr
import Derived.Laws.BitsAllLaws
import Derived.Laws.Bits64
namespace Go.Proofs.Ytjembadjfiohpaa.Va
open Go
set_option linter.unusedVariables false
set_option linter.unusedSimpArgs false
set_option maxRecDepth 100000
def bytesI (l : List Int) : List AV := l.map (.int .u8)
def numL (n : Nat) : List Int := if h : n < 128 then [(n : Int)] else (((n % 128 : Nat) : Int) + 128) :: numL (n / 128)
termination_by n
decreasing_by omega
theorem numL_lt {n : Nat} (h : n < 128) : numL n = [(n : Int)] := by rw [numL, dif_pos h]
theorem numL_ge {n : Nat} (h : ¬ n < 128) : numL n = (((n % 128 : Nat) : Int) + 128) :: numL (n / 128) := by rw [numL, dif_neg h]
theorem numL_ne (n : Nat) : numL n ≠ [] := by rw [numL]; split <;> simp
theorem numL_len : ∀ (k n : Nat), n < 128 ^ (k + 1) → (numL n).length ≤ k + 1
  | 0, n, h => by rw [numL_lt (by simpa using h)]; simp
  | k + 1, n, h => by
    by_cases hn : n < 128
    · rw [numL_lt hn]; simp
    · rw [numL_ge hn]
      have := numL_len k (n / 128) (by rw [Nat.div_lt_iff_lt_mul (by decide)]; rwa [Nat.pow_succ] at h)
      simp; omega
theorem Number_c (d n : Nat) (hn : n < 2 ^ 64) : evalF Try.prog CC (d + 1) 28 [.int .u64 n] St.empty = some (growR 5 (bytesI (numL n)), valSt (growR 5 (bytesI (numL n)))) := by
  have hlen : (numL n).length ≤ 10 := numL_len 9 n (by omega)
  generalize hX : (some (growR 5 (bytesI (numL n)), valSt (growR 5 (bytesI (numL n)))) : Option (AV × St)) = X
  rw [run_28 _ _ _ (by simp)]; unfold Try.f28; simp only [Option.getD_some]
  simp only [go_sem, ↓reduceIte, Nat.reduceEqDiff, Nat.reduceAdd, reduceCtorEq, CCT, CCv, CCr, CCk, Nat.reduceBNe, Nat.reduceLeDiff, Nat.reduceLT, beqI, bneI, List.length_map, decide_true, decide_false, Int.reduceEq, Int.reduceLT, Int.reduceLE, Int.reduceGE, Int.reduceGT, not_true_eq_false, not_false_eq_true, Bool.and_true, Bool.true_and, Bool.and_false, Bool.false_and, and_true, true_and, and_self, Bool.not_not, *]
  refine iter_fall (fun m ρ σ => ∃ (n' : Nat) (xs : List Int) (kk : Option Nat), ρ 0 = .int .u64 n' ∧ Gw 5 (bytesI xs) σ (ρ 3) kk ∧ xs ++ numL n' = numL n ∧ m = (numL n').length ∧ n' < 2 ^ 64) ?_ _ (numL n).length _ _ (by show _ < 9223372036854775900; omega) ?_
  · rintro m ρ σ ⟨n', xs, kk, h0, hg, hl, rfl, hlt⟩ K hK hx hr
    have hb : xs.length + (numL n').length ≤ 10 := by rw [← List.length_append, hl]; exact hlen
    simp only [go_sem, ↓reduceIte, Nat.reduceEqDiff, Nat.reduceAdd, reduceCtorEq, CCT, CCv, CCr, CCk, Nat.reduceBNe, Nat.reduceLeDiff, Nat.reduceLT, beqI, bneI, List.length_map, decide_true, decide_false, Int.reduceEq, Int.reduceLT, Int.reduceLE, Int.reduceGE, Int.reduceGT, not_true_eq_false, not_false_eq_true, Bool.and_true, Bool.true_and, Bool.and_false, Bool.false_and, and_true, true_and, and_self, Bool.not_not, *]
    refine br_dec (fun h => ?_) (fun h => ?_) <;> simp only [go_sem, ↓reduceIte, Nat.reduceEqDiff, Nat.reduceAdd, reduceCtorEq, CCT, CCv, CCr, CCk, Nat.reduceBNe, Nat.reduceLeDiff, Nat.reduceLT, beqI, bneI, List.length_map, decide_true, decide_false, Int.reduceEq, Int.reduceLT, Int.reduceLE, Int.reduceGE, Int.reduceGT, not_true_eq_false, not_false_eq_true, Bool.and_true, Bool.true_and, Bool.and_false, Bool.false_and, and_true, true_and, and_self, Bool.not_not, *]
    · have hn' : ¬ n' < 128 := by omega
      have e1 : IntKind.u8.wrap (IntKind.u8.wrap ((n' : Int).tmod 128) + 128) = ((n' % 128 : Nat) : Int) + 128 := by rw [IntKind.wrap_u8, IntKind.wrap_u8, Int.tmod_eq_emod_of_nonneg (by omega)]; omega
      have e2 : IntKind.u64.wrap ((n' : Int).tdiv 128) = ((n' / 128 : Nat) : Int) := by rw [IntKind.wrap_u64, Int.tdiv_eq_ediv_of_nonneg (by omega)]; omega
      have hq := numL_ge hn'
      refine gw_app (T := T) (t := 43) hg (ys := [.int .u8 (((n' % 128 : Nat) : Int) + 128)]) (by simp) rfl ?_ ?_ ?_
      · simp only [go_sem, ↓reduceIte, Nat.reduceEqDiff, Nat.reduceAdd, reduceCtorEq, CCT, CCv, CCr, CCk, Nat.reduceBNe, Nat.reduceLeDiff, Nat.reduceLT, beqI, bneI, List.length_map, decide_true, decide_false, Int.reduceEq, Int.reduceLT, Int.reduceLE, Int.reduceGE, Int.reduceGT, not_true_eq_false, not_false_eq_true, Bool.and_true, Bool.true_and, Bool.and_false, Bool.false_and, and_true, true_and, and_self, Bool.not_not, *]
      · exact roomy_of (by simp [bytesI]; omega) (by decide)
      simp only [go_sem, ↓reduceIte, Nat.reduceEqDiff, Nat.reduceAdd, reduceCtorEq, CCT, CCv, CCr, CCk, Nat.reduceBNe, Nat.reduceLeDiff, Nat.reduceLT, beqI, bneI, List.length_map, decide_true, decide_false, Int.reduceEq, Int.reduceLT, Int.reduceLE, Int.reduceGE, Int.reduceGT, not_true_eq_false, not_false_eq_true, Bool.and_true, Bool.true_and, Bool.and_false, Bool.false_and, and_true, true_and, and_self, Bool.not_not, *]
      refine hK (numL (n' / 128)).length _ _ (by rw [hq]; simp) ⟨n' / 128, xs ++ [((n' % 128 : Nat) : Int) + 128], some σ.ntok, by simp only [go_sem, ↓reduceIte, Nat.reduceEqDiff, Nat.reduceAdd, reduceCtorEq, CCT, CCv, CCr, CCk, Nat.reduceBNe, Nat.reduceLeDiff, Nat.reduceLT, beqI, bneI, List.length_map, decide_true, decide_false, Int.reduceEq, Int.reduceLT, Int.reduceLE, Int.reduceGE, Int.reduceGT, not_true_eq_false, not_false_eq_true, Bool.and_true, Bool.true_and, Bool.and_false, Bool.false_and, and_true, true_and, and_self, Bool.not_not, *], ?_, by rw [← hl, hq]; simp, rfl, by omega⟩
      simp only [go_sem, ↓reduceIte, Nat.reduceEqDiff, Nat.reduceAdd, reduceCtorEq, CCT, CCv, CCr, CCk, Nat.reduceBNe, Nat.reduceLeDiff, Nat.reduceLT, beqI, bneI, List.length_map, decide_true, decide_false, Int.reduceEq, Int.reduceLT, Int.reduceLE, Int.reduceGE, Int.reduceGT, not_true_eq_false, not_false_eq_true, Bool.and_true, Bool.true_and, Bool.and_false, Bool.false_and, and_true, true_and, and_self, Bool.not_not, *]
      rw [show bytesI xs ++ [.int .u8 (((n' % 128 : Nat) : Int) + 128)] = bytesI (xs ++ [((n' % 128 : Nat) : Int) + 128]) by simp [bytesI]]
      exact .new (by simp [bytesI])
    · have hn' : n' < 128 := by omega
      have e1 : IntKind.u8.wrap (n' : Int) = n' := by rw [IntKind.wrap_u8]; omega
      refine gw_app (T := T) (t := 43) hg (ys := [.int .u8 (n' : Int)]) (by simp) rfl ?_ ?_ ?_
      · simp only [go_sem, ↓reduceIte, Nat.reduceEqDiff, Nat.reduceAdd, reduceCtorEq, CCT, CCv, CCr, CCk, Nat.reduceBNe, Nat.reduceLeDiff, Nat.reduceLT, beqI, bneI, List.length_map, decide_true, decide_false, Int.reduceEq, Int.reduceLT, Int.reduceLE, Int.reduceGE, Int.reduceGT, not_true_eq_false, not_false_eq_true, Bool.and_true, Bool.true_and, Bool.and_false, Bool.false_and, and_true, true_and, and_self, Bool.not_not, *]
      · exact roomy_of (by simp [bytesI]; omega) (by decide)
      simp only [go_sem, ↓reduceIte, Nat.reduceEqDiff, Nat.reduceAdd, reduceCtorEq, CCT, CCv, CCr, CCk, Nat.reduceBNe, Nat.reduceLeDiff, Nat.reduceLT, beqI, bneI, List.length_map, decide_true, decide_false, Int.reduceEq, Int.reduceLT, Int.reduceLE, Int.reduceGE, Int.reduceGT, not_true_eq_false, not_false_eq_true, Bool.and_true, Bool.true_and, Bool.and_false, Bool.false_and, and_true, true_and, and_self, Bool.not_not, *]
      rw [← hX, ← hl, numL_lt hn']
      simp [growR, bytesI, valSt, valSt1]
  · exact ⟨n, [], none, by simp only [go_sem, ↓reduceIte, Nat.reduceEqDiff, Nat.reduceAdd, reduceCtorEq, CCT, CCv, CCr, CCk, Nat.reduceBNe, Nat.reduceLeDiff, Nat.reduceLT, beqI, bneI, List.length_map, decide_true, decide_false, Int.reduceEq, Int.reduceLT, Int.reduceLE, Int.reduceGE, Int.reduceGT, not_true_eq_false, not_false_eq_true, Bool.and_true, Bool.true_and, Bool.and_false, Bool.false_and, and_true, true_and, and_self, Bool.not_not, *], by simp only [go_sem, ↓reduceIte, Nat.reduceEqDiff, Nat.reduceAdd, reduceCtorEq, CCT, CCv, CCr, CCk, Nat.reduceBNe, Nat.reduceLeDiff, Nat.reduceLT, beqI, bneI, List.length_map, decide_true, decide_false, Int.reduceEq, Int.reduceLT, Int.reduceLE, Int.reduceGE, Int.reduceGT, not_true_eq_false, not_false_eq_true, Bool.and_true, Bool.true_and, Bool.and_false, Bool.false_and, and_true, true_and, and_self, Bool.not_not, *]; exact .nil 5 _, by simp, rfl, hn⟩
theorem refNumber_lt (d n : Nat) (hn : n < 128) : evalF Try.prog CC (d + 1) 31 [.int .u64 n] St.empty = some (.list 5 false (bytesI (numL n)) (some 0), St.empty) := by
  have h : (n : Int) < 128 := by omega
  have e1 : IntKind.u8.wrap (n : Int) = n := by rw [IntKind.wrap_u8]; omega
  rw [numL_lt hn]
  rw [run_31 _ _ _ (by simp)]; unfold Try.f31; simp only [Option.getD_some]
  simp only [go_sem, ↓reduceIte, Nat.reduceEqDiff, Nat.reduceAdd, reduceCtorEq, CCT, CCv, CCr, CCk, Nat.reduceBNe, Nat.reduceLeDiff, Nat.reduceLT, beqI, bneI, List.length_map, decide_true, decide_false, Int.reduceEq, Int.reduceLT, Int.reduceLE, Int.reduceGE, Int.reduceGT, not_true_eq_false, not_false_eq_true, Bool.and_true, Bool.true_and, Bool.and_false, Bool.false_and, and_true, true_and, and_self, Bool.not_not, *]
  simp [bytesI]
theorem refNumber_ge : ∀ (k d n : Nat), n < 128 ^ (k + 2) → n < 2 ^ 64 → ¬ n < 128 → evalF Try.prog CC (d + 2 + k) 31 [.int .u64 n] St.empty = some (.list 5 false (bytesI (numL n)) (some 1), ⟨fun _ => none, 0, fun i => i == 0, 1⟩)
  | k, d, n, hk, hn, hlt => by
    have h : ¬ (n : Int) < 128 := by omega
    have e1 : IntKind.u8.wrap (IntKind.u64.wrap (128 + (n : Int).tmod 128)) = ((n % 128 : Nat) : Int) + 128 := by rw [IntKind.wrap_u8, IntKind.wrap_u64, Int.tmod_eq_emod_of_nonneg (by omega)]; omega
    have e2 : IntKind.u64.wrap ((n : Int).tdiv 128) = ((n / 128 : Nat) : Int) := by rw [IntKind.wrap_u64, Int.tdiv_eq_ediv_of_nonneg (by omega)]; omega
    have hlen : (numL (n / 128)).length ≤ 10 := numL_len 9 _ (by omega)
    have hrm : roomy T 5 (1 + (bytesI (numL (n / 128))).length) = true := roomy_of (by simp [bytesI]; omega) (by decide)
    rw [show d + 2 + k = (d + 1 + k) + 1 by omega]
    rw [numL_ge hlt]
    rw [run_31 _ _ _ (by simp)]; unfold Try.f31; simp only [Option.getD_some]
    by_cases h2 : n / 128 < 128
    · have hc := refNumber_lt (d + k) (n / 128) h2
      rw [show d + k + 1 = d + 1 + k by omega] at hc
      simp only [go_sem, ↓reduceIte, Nat.reduceEqDiff, Nat.reduceAdd, reduceCtorEq, CCT, CCv, CCr, CCk, Nat.reduceBNe, Nat.reduceLeDiff, Nat.reduceLT, beqI, bneI, List.length_map, decide_true, decide_false, Int.reduceEq, Int.reduceLT, Int.reduceLE, Int.reduceGE, Int.reduceGT, not_true_eq_false, not_false_eq_true, Bool.and_true, Bool.true_and, Bool.and_false, Bool.false_and, and_true, true_and, and_self, Bool.not_not, *]
      simp [bytesI]
    · match k, hk with
      | 0, hk => omega
      | k + 1, hk =>
        have hc := refNumber_ge k d (n / 128) (by rw [Nat.div_lt_iff_lt_mul (by decide)]; rwa [Nat.pow_succ] at hk) (by omega) h2
        rw [show d + 2 + k = d + 1 + (k + 1) by omega] at hc
        simp only [go_sem, ↓reduceIte, Nat.reduceEqDiff, Nat.reduceAdd, reduceCtorEq, CCT, CCv, CCr, CCk, Nat.reduceBNe, Nat.reduceLeDiff, Nat.reduceLT, beqI, bneI, List.length_map, decide_true, decide_false, Int.reduceEq, Int.reduceLT, Int.reduceLE, Int.reduceGE, Int.reduceGT, not_true_eq_false, not_false_eq_true, Bool.and_true, Bool.true_and, Bool.and_false, Bool.false_and, and_true, true_and, and_self, Bool.not_not, *]
        simp [bytesI]
end Go.Proofs.Ytjembadjfiohpaa.Va
