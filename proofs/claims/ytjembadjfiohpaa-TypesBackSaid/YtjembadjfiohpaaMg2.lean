/- chapter 4: a number, taken by the reference -/
import Derived.Test.YtjembadjfiohpaaMg1

namespace Go.Proofs.Ytjembadjfiohpaa.Va
open Go
set_option linter.unusedVariables false
set_option linter.unusedSimpArgs false
set_option maxRecDepth 100000
theorem lead_get : ∀ {l : List Int} {i : Nat} (h : i < lead l), ∃ h' : i < l.length, 128 ≤ l[i]
  | [], i, h => by simp [lead] at h
  | c :: l, i, h => by
    simp only [lead] at h
    split at h
    · rename_i hc
      cases i with
      | zero => exact ⟨by simp, hc⟩
      | succ i =>
        obtain ⟨h1, h2⟩ := lead_get (l := l) (i := i) (by omega)
        exact ⟨by simp; omega, by simpa using h2⟩
    · omega
theorem lead_end : ∀ {l : List Int} (h : lead l < l.length), l[lead l] < 128
  | [], h => by simp [lead] at h
  | c :: l, h => by
    by_cases hc : 128 ≤ c
    · have e : lead (c :: l) = lead l + 1 := by simp [lead, hc]
      have h2 : lead l < l.length := by rw [e] at h; simpa using h
      have := lead_end h2
      simp only [e, List.getElem_cons_succ]
      exact this
    · have e : lead (c :: l) = 0 := by simp [lead, hc]
      simp only [e, List.getElem_cons_zero]
      omega
theorem hor_pos : ∀ (l : List Int), 0 ≤ hor l
  | [] => by simp [hor]
  | c :: l => by
    have := hor_pos l
    simp only [hor]
    omega
theorem hor_drop : ∀ (l : List Int) (n : Nat), hor (l.drop n) ≤ hor l
  | [], n => by simp
  | c :: l, 0 => by simp
  | c :: l, n + 1 => by
    have h1 := hor_drop l n
    have h2 := hor_pos l
    simp only [List.drop_succ_cons, hor]
    omega
theorem hor_lt : ∀ (l : List Int), hor l < 128 ^ l.length
  | [] => by simp [hor]
  | c :: l => by
    have h1 := hor_lt l
    simp only [hor, List.length_cons, Int.pow_succ]
    omega
theorem hor_snoc : ∀ (l : List Int) (c : Int), hor (l ++ [c]) = hor l + 128 ^ l.length * (c % 128)
  | [], c => by simp [hor]
  | x :: l, c => by
    simp only [List.cons_append, hor, hor_snoc l c, List.length_cons, Int.pow_succ, Int.mul_add, Int.mul_assoc, Int.add_assoc]
    rw [← Int.mul_assoc 128 (128 ^ l.length), Int.mul_comm 128 (128 ^ l.length), Int.mul_assoc]
theorem hor_bound {l : List Int} {r : Nat} (hr : r < l.length) (h9 : r ≤ 9) (hb : r = 9 → 0 ≤ l[r] ∧ l[r] ≤ 1) : hor (l.take (r + 1)) < 18446744073709551616 := by
  have hlen : (l.take r).length = r := by rw [List.length_take]; omega
  have h1 := hor_lt (l.take r)
  rw [hlen] at h1
  rw [List.take_succ_eq_append_getElem hr, hor_snoc, hlen]
  generalize l[r] = c at hb
  have hm : 0 ≤ c % 128 ∧ c % 128 < 128 := by omega
  rcases Nat.lt_or_ge r 9 with h | h
  · have hp : (128 : Int) ^ r ≤ 128 ^ 8 := by
      have : (128 : Nat) ^ r ≤ 128 ^ 8 := Nat.pow_le_pow_right (by decide) (by omega)
      exact_mod_cast this
    have hp0 : (0 : Int) ≤ 128 ^ r := Int.pow_nonneg (by decide)
    have : (128 : Int) ^ r * (c % 128) ≤ 128 ^ r * 127 := Int.mul_le_mul_of_nonneg_left (by omega) hp0
    omega
  · have hr9 : r = 9 := by omega
    subst hr9
    have hb := hb rfl
    have : c % 128 ≤ 1 := by omega
    have : (128 : Int) ^ 9 * (c % 128) ≤ 128 ^ 9 * 1 := Int.mul_le_mul_of_nonneg_left this (by decide)
    omega
theorem refTakeNumber_c (d : Nat) (b : Bool) (l : List Int) (hb : ∀ x ∈ l, 0 ≤ x ∧ x < 256) (hl : l.length ≤ 9223372036854775807) : evalF Try.prog CC (d + 1) 36 [.list 5 b (bytesI l) none] St.empty = some (encN (takeN l), St.empty) := by
  rw [takeN, tk_scan l 0 0 (by omega) hb]
  generalize hX : some (encN (tkR 0 0 l), St.empty) = X
  unfold tkR at hX
  simp only [Nat.zero_add, Int.pow_zero, Int.one_mul, Int.zero_add] at hX
  have hil : (bytesI l).length = l.length := by simp [bytesI]
  have hll := lead_le l
  refine wp_eq ?_
  rw [run_36 _ _ _ (by simp)]; unfold Try.f36; simp only [Option.getD_some]
  simp only [go_sem, ↓reduceIte, Nat.reduceEqDiff, Nat.reduceAdd, reduceCtorEq, CCT, CCv, CCr, CCk, Nat.reduceBNe, Nat.reduceLeDiff, Nat.reduceLT, beqI, bneI, List.length_map, decide_true, decide_false, Int.reduceEq, Int.reduceLT, Int.reduceLE, Int.reduceGE, Int.reduceGT, not_true_eq_false, not_false_eq_true, Bool.and_true, Bool.true_and, Bool.and_false, Bool.false_and, and_true, true_and, and_self, Bool.not_not, hil]
  refine W.iter_rule (fun i ρ σ => ρ 0 = .list 5 b (bytesI l) none ∧ ρ 5 = .int .i64 i) (min (lead l) 10) ?_ ?_ _ 0 _ _ (Nat.zero_le _) ?_ ?_
  · rintro i ρ σ hi ⟨h0, h5⟩ K hK hx hr
    obtain ⟨hi2, hc⟩ := lead_get (l := l) (i := i) (by omega)
    have hlt : (i : Int) < (l.length : Int) := by omega
    have hlt10 : (i : Int) < 10 := by omega
    have hwrap : IntKind.i64.wrap ((i : Int) + 1) = ((i + 1 : Nat) : Int) := by rw [IntKind.wrap_i64]; omega
    have hidx : idxOk (i : Int) l.length = true := by simp [idxOk]; omega
    have hget : (bytesI l)[((i : Nat) : Int).toNat]? = some (.int .u8 l[i]) := by simp [bytesI, hi2]
    simp only [go_sem, ↓reduceIte, Nat.reduceEqDiff, Nat.reduceAdd, reduceCtorEq, CCT, CCv, CCr, CCk, Nat.reduceBNe, Nat.reduceLeDiff, Nat.reduceLT, beqI, bneI, List.length_map, decide_true, decide_false, Int.reduceEq, Int.reduceLT, Int.reduceLE, Int.reduceGE, Int.reduceGT, not_true_eq_false, not_false_eq_true, Bool.and_true, Bool.true_and, Bool.and_false, Bool.false_and, and_true, true_and, and_self, Bool.not_not, h0, h5, hlt, hlt10, hil, hidx, hget, show l[i] ≥ 128 by omega, hwrap]
    refine hK _ _ ?_
    exact ⟨by (try simp only [go_sem, ↓reduceIte, Nat.reduceEqDiff, Nat.reduceAdd, reduceCtorEq, CCT, CCv, CCr, CCk, Nat.reduceBNe, Nat.reduceLeDiff, Nat.reduceLT, beqI, bneI, List.length_map, decide_true, decide_false, Int.reduceEq, Int.reduceLT, Int.reduceLE, Int.reduceGE, Int.reduceGT, not_true_eq_false, not_false_eq_true, Bool.and_true, Bool.true_and, Bool.and_false, Bool.false_and, and_true, true_and, and_self, Bool.not_not, Int.toNat_natCast, List.length_take, *]) <;> (first | done | rfl | omega | (simp; done) | (simp; omega)), by (try simp only [go_sem, ↓reduceIte, Nat.reduceEqDiff, Nat.reduceAdd, reduceCtorEq, CCT, CCv, CCr, CCk, Nat.reduceBNe, Nat.reduceLeDiff, Nat.reduceLT, beqI, bneI, List.length_map, decide_true, decide_false, Int.reduceEq, Int.reduceLT, Int.reduceLE, Int.reduceGE, Int.reduceGT, not_true_eq_false, not_false_eq_true, Bool.and_true, Bool.true_and, Bool.and_false, Bool.false_and, and_true, true_and, and_self, Bool.not_not, Int.toNat_natCast, List.length_take, *]) <;> (first | done | rfl | omega | (simp; done) | (simp; omega))⟩
  · rintro ρ σ ⟨h0, h5⟩ K hx hr
    by_cases h10 : 10 ≤ lead l
    · rw [if_pos h10] at hX
      rw [show min (lead l) 10 = 10 by omega] at h5
      have e10 : ((10 : Nat) : Int) = 10 := rfl
      rw [e10] at h5
      by_cases hlt : (10 : Int) < (l.length : Int)
      · simp only [go_sem, ↓reduceIte, Nat.reduceEqDiff, Nat.reduceAdd, reduceCtorEq, CCT, CCv, CCr, CCk, Nat.reduceBNe, Nat.reduceLeDiff, Nat.reduceLT, beqI, bneI, List.length_map, decide_true, decide_false, Int.reduceEq, Int.reduceLT, Int.reduceLE, Int.reduceGE, Int.reduceGT, not_true_eq_false, not_false_eq_true, Bool.and_true, Bool.true_and, Bool.and_false, Bool.false_and, and_true, true_and, and_self, Bool.not_not, hx, h0, h5, hlt, hil]
        exact hX
      · simp only [go_sem, ↓reduceIte, Nat.reduceEqDiff, Nat.reduceAdd, reduceCtorEq, CCT, CCv, CCr, CCk, Nat.reduceBNe, Nat.reduceLeDiff, Nat.reduceLT, beqI, bneI, List.length_map, decide_true, decide_false, Int.reduceEq, Int.reduceLT, Int.reduceLE, Int.reduceGE, Int.reduceGT, not_true_eq_false, not_false_eq_true, Bool.and_true, Bool.true_and, Bool.and_false, Bool.false_and, and_true, true_and, and_self, Bool.not_not, hx, h0, h5, hlt, hil]
        exact hX
    rw [if_neg h10] at hX
    rw [show min (lead l) 10 = lead l by omega] at h5
    by_cases hend : lead l = l.length
    · rw [if_pos hend] at hX
      rw [hend] at h5
      have hlt : ¬ (l.length : Int) < (l.length : Int) := by omega
      simp only [go_sem, ↓reduceIte, Nat.reduceEqDiff, Nat.reduceAdd, reduceCtorEq, CCT, CCv, CCr, CCk, Nat.reduceBNe, Nat.reduceLeDiff, Nat.reduceLT, beqI, bneI, List.length_map, decide_true, decide_false, Int.reduceEq, Int.reduceLT, Int.reduceLE, Int.reduceGE, Int.reduceGT, not_true_eq_false, not_false_eq_true, Bool.and_true, Bool.true_and, Bool.and_false, Bool.false_and, and_true, true_and, and_self, Bool.not_not, hx, h0, h5, hlt, hil, show ¬ (l.length : Int) = 10 by omega]
      exact hX
    rw [if_neg hend] at hX
    have hr2 : lead l < l.length := by omega
    have hc := lead_end hr2
    have hat := at0_nat hr2
    rw [hat] at hX
    obtain ⟨c0, c1⟩ := hb _ (List.getElem_mem hr2)
    have hbd := fun h => hor_bound hr2 (by omega) h
    generalize hrr : lead l = r at *
    have hget : (bytesI l)[((r : Nat) : Int).toNat]? = some (.int .u8 l[r]) := by simp [bytesI, hr2]
    have hlt : (r : Int) < (l.length : Int) := by omega
    have hlt10 : (r : Int) < 10 := by omega
    have hidx : idxOk (r : Int) l.length = true := by simp [idxOk]; omega
    have hn10 : ¬ (r : Int) = 10 := by omega
    have hnl : ¬ (r : Int) = (l.length : Int) := by omega
    generalize hcc : l[r] = c at hc hX c0 c1 hbd hget
    have hc1 : ¬ c ≥ 128 := by omega
    by_cases hz : c = 0 ∧ 0 < r
    · rw [if_pos hz] at hX
      have hz2 : (r : Int) > 0 := by omega
      simp only [go_sem, ↓reduceIte, Nat.reduceEqDiff, Nat.reduceAdd, reduceCtorEq, CCT, CCv, CCr, CCk, Nat.reduceBNe, Nat.reduceLeDiff, Nat.reduceLT, beqI, bneI, List.length_map, decide_true, decide_false, Int.reduceEq, Int.reduceLT, Int.reduceLE, Int.reduceGE, Int.reduceGT, not_true_eq_false, not_false_eq_true, Bool.and_true, Bool.true_and, Bool.and_false, Bool.false_and, and_true, true_and, and_self, Bool.not_not, hx, h0, h5, hlt, hlt10, hil, hidx, hget, hc1, hn10, hnl, hz.1, hz2]
      exact hX
    rw [if_neg hz] at hX
    by_cases hz9 : r = 9 ∧ 1 < c
    · rw [if_pos hz9] at hX
      have hz2 : (r : Int) > 0 := by omega
      have hz3 := eq_true (show (r : Int) = 9 by omega)
      simp only [go_sem, ↓reduceIte, Nat.reduceEqDiff, Nat.reduceAdd, reduceCtorEq, CCT, CCv, CCr, CCk, Nat.reduceBNe, Nat.reduceLeDiff, Nat.reduceLT, beqI, bneI, List.length_map, decide_true, decide_false, Int.reduceEq, Int.reduceLT, Int.reduceLE, Int.reduceGE, Int.reduceGT, not_true_eq_false, not_false_eq_true, Bool.and_true, Bool.true_and, Bool.and_false, Bool.false_and, and_true, true_and, and_self, Bool.not_not, hx, h0, h5, hlt, hlt10, hil, hidx, hget, hc1, hn10, hnl, show ¬ c = 0 by omega, hz2, hz3, show c > 1 by omega]
      exact hX
    rw [if_neg hz9] at hX
    have hbd := hbd (fun h => by omega)
    have hwr : IntKind.i64.wrap ((r : Int) + 1) = (r : Int) + 1 := by rw [IntKind.wrap_i64]; omega
    have hgo : c = 0 → ¬ (r : Int) > 0 := by omega
    by_cases hc0 : c = 0
    case' pos =>
      have hr0 := hgo hc0
      have hr9 := eq_false (show ¬ (r : Int) = 9 by omega)
      simp only [go_sem, ↓reduceIte, Nat.reduceEqDiff, Nat.reduceAdd, reduceCtorEq, CCT, CCv, CCr, CCk, Nat.reduceBNe, Nat.reduceLeDiff, Nat.reduceLT, beqI, bneI, List.length_map, decide_true, decide_false, Int.reduceEq, Int.reduceLT, Int.reduceLE, Int.reduceGE, Int.reduceGT, not_true_eq_false, not_false_eq_true, Bool.and_true, Bool.true_and, Bool.and_false, Bool.false_and, and_true, true_and, and_self, Bool.not_not, hx, h0, h5, hlt, hlt10, hil, hidx, hget, hc1, hn10, hnl, hc0, hr0, hr9]
    case' neg =>
      by_cases h9 : r = 9
      case' pos =>
        have hr9 := eq_true (show (r : Int) = 9 by omega)
        simp only [go_sem, ↓reduceIte, Nat.reduceEqDiff, Nat.reduceAdd, reduceCtorEq, CCT, CCv, CCr, CCk, Nat.reduceBNe, Nat.reduceLeDiff, Nat.reduceLT, beqI, bneI, List.length_map, decide_true, decide_false, Int.reduceEq, Int.reduceLT, Int.reduceLE, Int.reduceGE, Int.reduceGT, not_true_eq_false, not_false_eq_true, Bool.and_true, Bool.true_and, Bool.and_false, Bool.false_and, and_true, true_and, and_self, Bool.not_not, hx, h0, h5, hlt, hlt10, hil, hidx, hget, hc1, hn10, hnl, hc0, hr9, show ¬ c > 1 by omega]
      case' neg =>
        have hr9 := eq_false (show ¬ (r : Int) = 9 by omega)
        simp only [go_sem, ↓reduceIte, Nat.reduceEqDiff, Nat.reduceAdd, reduceCtorEq, CCT, CCv, CCr, CCk, Nat.reduceBNe, Nat.reduceLeDiff, Nat.reduceLT, beqI, bneI, List.length_map, decide_true, decide_false, Int.reduceEq, Int.reduceLT, Int.reduceLE, Int.reduceGE, Int.reduceGT, not_true_eq_false, not_false_eq_true, Bool.and_true, Bool.true_and, Bool.and_false, Bool.false_and, and_true, true_and, and_self, Bool.not_not, hx, h0, h5, hlt, hlt10, hil, hidx, hget, hc1, hn10, hnl, hc0, hr9]
    all_goals
      refine W.iter_rule (fun k ρ σ => ρ 0 = .list 5 b (bytesI l) none ∧ ρ 5 = .int .i64 r ∧ ρ 6 = .int .u64 (hor ((l.take (r + 1)).drop (r + 1 - k))) ∧ ρ 7 = .int .i64 ((r : Int) - k)) (r + 1) ?_ ?_ _ 0 _ _ (Nat.zero_le _) ?_ ?_
      · clear hx hr
        rintro k ρ σ hk ⟨h0, h5, h6, h7⟩ K2 hK2 hx hr
        have hj : r - k < l.length := by omega
        have hjj : (r : Int) - k = ((r - k : Nat) : Int) := by omega
        have hge : (r : Int) - k ≥ 0 := by omega
        have hidx2 : idxOk ((r : Int) - k) l.length = true := by rw [hjj]; simp [idxOk]; omega
        have hget2 : (bytesI l)[((r : Int) - k).toNat]? = some (.int .u8 l[r - k]) := by rw [hjj, Int.toNat_natCast]; simp [bytesI, hj]
        obtain ⟨b0, b1⟩ := hb _ (List.getElem_mem hj)
        have hdr : (l.take (r + 1)).drop (r + 1 - (k + 1)) = l[r - k] :: (l.take (r + 1)).drop (r + 1 - k) := by
          rw [show r + 1 - (k + 1) = r - k by omega, List.drop_eq_getElem_cons (by rw [List.length_take]; omega), List.getElem_take]
          rw [show r - k + 1 = r + 1 - k by omega]
        have hle := hor_drop (l.take (r + 1)) (r + 1 - (k + 1))
        have hp := hor_pos ((l.take (r + 1)).drop (r + 1 - k))
        rw [hdr, hor] at hle
        generalize l[r - k] = x at b0 b1 hget2 hdr hle
        generalize hh : hor ((l.take (r + 1)).drop (r + 1 - k)) = h at h6 hle hp
        have hfin : hor ((l.take (r + 1)).drop (r + 1 - (k + 1))) = x % 128 + 128 * h := by rw [hdr, hor, hh]
        clear hh hdr
        have e1 : x.tmod 128 = x % 128 := Int.tmod_eq_emod_of_nonneg b0
        have e2 : IntKind.u64.wrap (x % 128) = x % 128 := by rw [IntKind.wrap_u64]; omega
        have e3 : IntKind.u64.wrap (h * 128) = h * 128 := by rw [IntKind.wrap_u64]; omega
        have e4 : IntKind.u64.wrap (h * 128 + x % 128) = x % 128 + 128 * h := by rw [IntKind.wrap_u64]; omega
        have e5 : IntKind.i64.wrap ((r : Int) - k - 1) = (r : Int) - ((k + 1 : Nat) : Int) := by rw [IntKind.wrap_i64]; omega
        simp only [go_sem, ↓reduceIte, Nat.reduceEqDiff, Nat.reduceAdd, reduceCtorEq, CCT, CCv, CCr, CCk, Nat.reduceBNe, Nat.reduceLeDiff, Nat.reduceLT, beqI, bneI, List.length_map, decide_true, decide_false, Int.reduceEq, Int.reduceLT, Int.reduceLE, Int.reduceGE, Int.reduceGT, not_true_eq_false, not_false_eq_true, Bool.and_true, Bool.true_and, Bool.and_false, Bool.false_and, and_true, true_and, and_self, Bool.not_not, h0, h5, h6, h7, hge, hil, hidx2, hget2, e1, e2, e3, e4, e5]
        refine hK2 _ _ ?_
        refine ⟨by (try simp only [go_sem, ↓reduceIte, Nat.reduceEqDiff, Nat.reduceAdd, reduceCtorEq, CCT, CCv, CCr, CCk, Nat.reduceBNe, Nat.reduceLeDiff, Nat.reduceLT, beqI, bneI, List.length_map, decide_true, decide_false, Int.reduceEq, Int.reduceLT, Int.reduceLE, Int.reduceGE, Int.reduceGT, not_true_eq_false, not_false_eq_true, Bool.and_true, Bool.true_and, Bool.and_false, Bool.false_and, and_true, true_and, and_self, Bool.not_not, Int.toNat_natCast, List.length_take, *]) <;> (first | done | rfl | omega | (simp; done) | (simp; omega)), by (try simp only [go_sem, ↓reduceIte, Nat.reduceEqDiff, Nat.reduceAdd, reduceCtorEq, CCT, CCv, CCr, CCk, Nat.reduceBNe, Nat.reduceLeDiff, Nat.reduceLT, beqI, bneI, List.length_map, decide_true, decide_false, Int.reduceEq, Int.reduceLT, Int.reduceLE, Int.reduceGE, Int.reduceGT, not_true_eq_false, not_false_eq_true, Bool.and_true, Bool.true_and, Bool.and_false, Bool.false_and, and_true, true_and, and_self, Bool.not_not, Int.toNat_natCast, List.length_take, *]) <;> (first | done | rfl | omega | (simp; done) | (simp; omega)), ?_, by (try simp only [go_sem, ↓reduceIte, Nat.reduceEqDiff, Nat.reduceAdd, reduceCtorEq, CCT, CCv, CCr, CCk, Nat.reduceBNe, Nat.reduceLeDiff, Nat.reduceLT, beqI, bneI, List.length_map, decide_true, decide_false, Int.reduceEq, Int.reduceLT, Int.reduceLE, Int.reduceGE, Int.reduceGT, not_true_eq_false, not_false_eq_true, Bool.and_true, Bool.true_and, Bool.and_false, Bool.false_and, and_true, true_and, and_self, Bool.not_not, Int.toNat_natCast, List.length_take, *]) <;> (first | done | rfl | omega | (simp; done) | (simp; omega))⟩
        rw [hfin]
        simp only [go_sem, ↓reduceIte, Nat.reduceEqDiff, Nat.reduceAdd, reduceCtorEq, CCT, CCv, CCr, CCk, Nat.reduceBNe, Nat.reduceLeDiff, Nat.reduceLT, beqI, bneI, List.length_map, decide_true, decide_false, Int.reduceEq, Int.reduceLT, Int.reduceLE, Int.reduceGE, Int.reduceGT, not_true_eq_false, not_false_eq_true, Bool.and_true, Bool.true_and, Bool.and_false, Bool.false_and, and_true, true_and, and_self, Bool.not_not, h0]
      · clear hx hr
        rintro ρ σ ⟨h0, h5, h6, h7⟩ K2 hx hr
        have hneg : ¬ (r : Int) - ((r + 1 : Nat) : Int) ≥ 0 := by omega
        rw [Nat.sub_self, List.drop_zero] at h6
        simp only [go_sem, ↓reduceIte, Nat.reduceEqDiff, Nat.reduceAdd, reduceCtorEq, CCT, CCv, CCr, CCk, Nat.reduceBNe, Nat.reduceLeDiff, Nat.reduceLT, beqI, bneI, List.length_map, decide_true, decide_false, Int.reduceEq, Int.reduceLT, Int.reduceLE, Int.reduceGE, Int.reduceGT, not_true_eq_false, not_false_eq_true, Bool.and_true, Bool.true_and, Bool.and_false, Bool.false_and, and_true, true_and, and_self, Bool.not_not, hx, h0, h5, h6, h7, hneg, hwr]
        exact hX
      · show r + 1 < 0 + 9223372036854775900
        omega
      · have hz : (l.take (r + 1)).drop (r + 1 - 0) = [] := by
          rw [Nat.sub_zero, List.drop_eq_nil_iff, List.length_take]; omega
        refine ⟨by (try simp only [go_sem, ↓reduceIte, Nat.reduceEqDiff, Nat.reduceAdd, reduceCtorEq, CCT, CCv, CCr, CCk, Nat.reduceBNe, Nat.reduceLeDiff, Nat.reduceLT, beqI, bneI, List.length_map, decide_true, decide_false, Int.reduceEq, Int.reduceLT, Int.reduceLE, Int.reduceGE, Int.reduceGT, not_true_eq_false, not_false_eq_true, Bool.and_true, Bool.true_and, Bool.and_false, Bool.false_and, and_true, true_and, and_self, Bool.not_not, Int.toNat_natCast, List.length_take, *]) <;> (first | done | rfl | omega | (simp; done) | (simp; omega)), by (try simp only [go_sem, ↓reduceIte, Nat.reduceEqDiff, Nat.reduceAdd, reduceCtorEq, CCT, CCv, CCr, CCk, Nat.reduceBNe, Nat.reduceLeDiff, Nat.reduceLT, beqI, bneI, List.length_map, decide_true, decide_false, Int.reduceEq, Int.reduceLT, Int.reduceLE, Int.reduceGE, Int.reduceGT, not_true_eq_false, not_false_eq_true, Bool.and_true, Bool.true_and, Bool.and_false, Bool.false_and, and_true, true_and, and_self, Bool.not_not, Int.toNat_natCast, List.length_take, *]) <;> (first | done | rfl | omega | (simp; done) | (simp; omega)), ?_, by (try simp only [go_sem, ↓reduceIte, Nat.reduceEqDiff, Nat.reduceAdd, reduceCtorEq, CCT, CCv, CCr, CCk, Nat.reduceBNe, Nat.reduceLeDiff, Nat.reduceLT, beqI, bneI, List.length_map, decide_true, decide_false, Int.reduceEq, Int.reduceLT, Int.reduceLE, Int.reduceGE, Int.reduceGT, not_true_eq_false, not_false_eq_true, Bool.and_true, Bool.true_and, Bool.and_false, Bool.false_and, and_true, true_and, and_self, Bool.not_not, Int.toNat_natCast, List.length_take, *]) <;> (first | done | rfl | omega | (simp; done) | (simp; omega))⟩
        rw [hz]
        simp only [go_sem, ↓reduceIte, Nat.reduceEqDiff, Nat.reduceAdd, reduceCtorEq, CCT, CCv, CCr, CCk, Nat.reduceBNe, Nat.reduceLeDiff, Nat.reduceLT, beqI, bneI, List.length_map, decide_true, decide_false, Int.reduceEq, Int.reduceLT, Int.reduceLE, Int.reduceGE, Int.reduceGT, not_true_eq_false, not_false_eq_true, Bool.and_true, Bool.true_and, Bool.and_false, Bool.false_and, and_true, true_and, and_self, Bool.not_not, *]
        rfl
  · show min (lead l) 10 < 0 + 9223372036854775900
    omega
  · exact ⟨by (try simp only [go_sem, ↓reduceIte, Nat.reduceEqDiff, Nat.reduceAdd, reduceCtorEq, CCT, CCv, CCr, CCk, Nat.reduceBNe, Nat.reduceLeDiff, Nat.reduceLT, beqI, bneI, List.length_map, decide_true, decide_false, Int.reduceEq, Int.reduceLT, Int.reduceLE, Int.reduceGE, Int.reduceGT, not_true_eq_false, not_false_eq_true, Bool.and_true, Bool.true_and, Bool.and_false, Bool.false_and, and_true, true_and, and_self, Bool.not_not, Int.toNat_natCast, List.length_take, *]) <;> (first | done | rfl | omega | (simp; done) | (simp; omega)), by (try simp only [go_sem, ↓reduceIte, Nat.reduceEqDiff, Nat.reduceAdd, reduceCtorEq, CCT, CCv, CCr, CCk, Nat.reduceBNe, Nat.reduceLeDiff, Nat.reduceLT, beqI, bneI, List.length_map, decide_true, decide_false, Int.reduceEq, Int.reduceLT, Int.reduceLE, Int.reduceGE, Int.reduceGT, not_true_eq_false, not_false_eq_true, Bool.and_true, Bool.true_and, Bool.and_false, Bool.false_and, and_true, true_and, and_self, Bool.not_not, Int.toNat_natCast, List.length_take, *]) <;> (first | done | rfl | omega | (simp; done) | (simp; omega))⟩
end Go.Proofs.Ytjembadjfiohpaa.Va

/- chapter 4: a text, taken -/
namespace Go.Proofs.Ytjembadjfiohpaa.Va
open Go
set_option linter.unusedVariables false
set_option linter.unusedSimpArgs false
set_option maxRecDepth 100000
def Bytes (l : List Int) : Prop := ∀ x ∈ l, 0 ≤ x ∧ x < 256
theorem Bytes.drop {l : List Int} (h : Bytes l) (n : Nat) : Bytes (l.drop n) := fun x hx => h x (List.mem_of_mem_drop hx)
theorem takeN_ok {l : List Int} (hb : Bytes l) (he : (takeN l).2.2 = 0) : 0 ≤ (takeN l).1 ∧ (takeN l).1 < 18446744073709551616 ∧ ∃ n : Nat, (takeN l).2.1 = n ∧ 1 ≤ n ∧ n ≤ l.length ∧ n ≤ 10 := by
  rw [takeN, tk_scan l 0 0 (by omega) hb] at he ⊢
  unfold tkR at he ⊢
  simp only [Nat.zero_add, Int.pow_zero, Int.one_mul, Int.zero_add] at he ⊢
  have hll := lead_le l
  by_cases h1 : 10 ≤ lead l
  · rw [if_pos h1] at he; cases he
  rw [if_neg h1] at he ⊢
  by_cases h2 : lead l = l.length
  · rw [if_pos h2] at he; cases he
  rw [if_neg h2] at he ⊢
  have hr : lead l < l.length := by omega
  rw [at0_nat hr] at he ⊢
  obtain ⟨c0, c1⟩ := hb _ (List.getElem_mem hr)
  by_cases h3 : l[lead l] = 0 ∧ 0 < lead l
  · rw [if_pos h3] at he; cases he
  rw [if_neg h3] at he ⊢
  by_cases h4 : lead l = 9 ∧ 1 < l[lead l]
  · rw [if_pos h4] at he; cases he
  rw [if_neg h4] at he ⊢
  refine ⟨hor_pos _, hor_bound hr (by omega) (fun h => ⟨c0, by omega⟩), lead l + 1, by simp, by omega, by omega, by omega⟩
theorem map_str (xs : List Int) (b : Bool) (tt : Option Nat) (m : Mem) : @aConvert T m 43 9 (.list 5 b (List.map (AV.int .u8) xs) tt) = some (.str (bsOf xs)) := list_str
def takeT (l : List Int) : ByteArray × Int × Int :=
  let p := takeN l
  if p.2.2 = 0 then
    if p.1 < 1 ∨ p.1 > 16 then (ByteArray.empty, 0, 3)
    else if (l.length : Int) < p.2.1 + p.1 then (ByteArray.empty, 0, 2)
    else if nameB (bsOf ((l.take (p.2.1 + p.1).toNat).drop p.2.1.toNat)) = true then (bsOf ((l.take (p.2.1 + p.1).toNat).drop p.2.1.toNat), p.2.1 + p.1, 0) else (ByteArray.empty, 0, 3)
  else (ByteArray.empty, 0, p.2.2)
def encTk (p : ByteArray × Int × Int) : AV := .tup [.str p.1, .int .i64 p.2.1, .int .i64 p.2.2]
theorem TakeText_c (d : Nat) (b : Bool) (l : List Int) (hb : Bytes l) (hl : l.length ≤ 9223372036854775807) : evalF Try.prog CC (d + 2) 44 [.list 5 b (bytesI l) none] St.empty = some (encTk (takeT l), St.empty) := by
  generalize hX : some (encTk (takeT l), St.empty) = X
  have hil : (bytesI l).length = l.length := by simp [bytesI]
  have hn := fun d => TakeNumber_c d b l hb hl
  have hnm := fun d s σ => name_c d s σ
  have hok := takeN_ok hb
  unfold takeT at hX
  simp only at hX
  generalize takeN l = p at hn hX hok
  obtain ⟨v, n, e⟩ := p
  simp only [encN] at hn hX hok
  refine wp_eq ?_
  rw [run_44 _ _ _ (by simp)]; unfold Try.f44; simp only [Option.getD_some]
  simp only [go_sem, ↓reduceIte, Nat.reduceEqDiff, Nat.reduceAdd, reduceCtorEq, CCT, CCv, CCr, CCk, Nat.reduceBNe, Nat.reduceLeDiff, Nat.reduceLT, beqI, bneI, List.length_map, decide_true, decide_false, Int.reduceEq, Int.reduceLT, Int.reduceLE, Int.reduceGE, Int.reduceGT, not_true_eq_false, not_false_eq_true, Bool.and_true, Bool.true_and, Bool.and_false, Bool.false_and, and_true, true_and, and_self, Bool.not_not, hn, hil]
  by_cases he : e = 0
  case neg =>
    rw [if_neg he] at hX
    simp only [go_sem, ↓reduceIte, Nat.reduceEqDiff, Nat.reduceAdd, reduceCtorEq, CCT, CCv, CCr, CCk, Nat.reduceBNe, Nat.reduceLeDiff, Nat.reduceLT, beqI, bneI, List.length_map, decide_true, decide_false, Int.reduceEq, Int.reduceLT, Int.reduceLE, Int.reduceGE, Int.reduceGT, not_true_eq_false, not_false_eq_true, Bool.and_true, Bool.true_and, Bool.and_false, Bool.false_and, and_true, true_and, and_self, Bool.not_not, hn, hil, he]
    exact hX
  subst he
  obtain ⟨hv0, hv1, m, rfl, hm1, hm2, hm3⟩ := hok rfl
  rw [if_pos rfl] at hX
  by_cases h1 : v < 1
  · rw [if_pos (.inl h1)] at hX
    simp only [go_sem, ↓reduceIte, Nat.reduceEqDiff, Nat.reduceAdd, reduceCtorEq, CCT, CCv, CCr, CCk, Nat.reduceBNe, Nat.reduceLeDiff, Nat.reduceLT, beqI, bneI, List.length_map, decide_true, decide_false, Int.reduceEq, Int.reduceLT, Int.reduceLE, Int.reduceGE, Int.reduceGT, not_true_eq_false, not_false_eq_true, Bool.and_true, Bool.true_and, Bool.and_false, Bool.false_and, and_true, true_and, and_self, Bool.not_not, hn, hil, h1]
    exact hX
  by_cases h16 : v > 16
  · rw [if_pos (.inr h16)] at hX
    simp only [go_sem, ↓reduceIte, Nat.reduceEqDiff, Nat.reduceAdd, reduceCtorEq, CCT, CCv, CCr, CCk, Nat.reduceBNe, Nat.reduceLeDiff, Nat.reduceLT, beqI, bneI, List.length_map, decide_true, decide_false, Int.reduceEq, Int.reduceLT, Int.reduceLE, Int.reduceGE, Int.reduceGT, not_true_eq_false, not_false_eq_true, Bool.and_true, Bool.true_and, Bool.and_false, Bool.false_and, and_true, true_and, and_self, Bool.not_not, hn, hil, h1, h16]
    exact hX
  rw [if_neg (by omega)] at hX
  have e1 : IntKind.i64.wrap v = v := by rw [IntKind.wrap_i64]; omega
  have e2 : IntKind.i64.wrap ((l.length : Int) - m) = (l.length : Int) - m := by rw [IntKind.wrap_i64]; omega
  have e3 : IntKind.i64.wrap ((m : Int) + v) = (m : Int) + v := by rw [IntKind.wrap_i64]; omega
  by_cases h2 : (l.length : Int) < (m : Int) + v
  · rw [if_pos h2] at hX
    have h2' : (l.length : Int) - m < v := by omega
    simp only [go_sem, ↓reduceIte, Nat.reduceEqDiff, Nat.reduceAdd, reduceCtorEq, CCT, CCv, CCr, CCk, Nat.reduceBNe, Nat.reduceLeDiff, Nat.reduceLT, beqI, bneI, List.length_map, decide_true, decide_false, Int.reduceEq, Int.reduceLT, Int.reduceLE, Int.reduceGE, Int.reduceGT, not_true_eq_false, not_false_eq_true, Bool.and_true, Bool.true_and, Bool.and_false, Bool.false_and, and_true, true_and, and_self, Bool.not_not, hn, hil, h1, h16, e1, e2, h2']
    exact hX
  rw [if_neg h2] at hX
  have h2' : ¬ (l.length : Int) - m < v := by omega
  simp only [go_sem, ↓reduceIte, Nat.reduceEqDiff, Nat.reduceAdd, reduceCtorEq, CCT, CCv, CCr, CCk, Nat.reduceBNe, Nat.reduceLeDiff, Nat.reduceLT, beqI, bneI, List.length_map, decide_true, decide_false, Int.reduceEq, Int.reduceLT, Int.reduceLE, Int.reduceGE, Int.reduceGT, not_true_eq_false, not_false_eq_true, Bool.and_true, Bool.true_and, Bool.and_false, Bool.false_and, and_true, true_and, and_self, Bool.not_not, hn, hil, h1, h16, e1, e2, e3, h2']
  refine W.slice_lh (l := l) (g := AV.int .u8) (e := 5) ty_43 (by omega) (by omega) (by omega) ?_
  generalize hs : bsOf ((l.take ((m : Int) + v).toNat).drop (m : Int).toNat) = s at hX
  simp only [go_sem, ↓reduceIte, Nat.reduceEqDiff, Nat.reduceAdd, reduceCtorEq, CCT, CCv, CCr, CCk, Nat.reduceBNe, Nat.reduceLeDiff, Nat.reduceLT, beqI, bneI, List.length_map, decide_true, decide_false, Int.reduceEq, Int.reduceLT, Int.reduceLE, Int.reduceGE, Int.reduceGT, not_true_eq_false, not_false_eq_true, Bool.and_true, Bool.true_and, Bool.and_false, Bool.false_and, and_true, true_and, and_self, Bool.not_not, hn, hil, h1, h16, e1, e2, e3, h2', map_str, hs]
  cases hq : nameB s
  · rw [if_neg (by simp [hq])] at hX
    simp only [go_sem, ↓reduceIte, Nat.reduceEqDiff, Nat.reduceAdd, reduceCtorEq, CCT, CCv, CCr, CCk, Nat.reduceBNe, Nat.reduceLeDiff, Nat.reduceLT, beqI, bneI, List.length_map, decide_true, decide_false, Int.reduceEq, Int.reduceLT, Int.reduceLE, Int.reduceGE, Int.reduceGT, not_true_eq_false, not_false_eq_true, Bool.and_true, Bool.true_and, Bool.and_false, Bool.false_and, and_true, true_and, and_self, Bool.not_not, hn, hil, hq, hnm]
    exact hX
  · rw [if_pos hq] at hX
    simp only [go_sem, ↓reduceIte, Nat.reduceEqDiff, Nat.reduceAdd, reduceCtorEq, CCT, CCv, CCr, CCk, Nat.reduceBNe, Nat.reduceLeDiff, Nat.reduceLT, beqI, bneI, List.length_map, decide_true, decide_false, Int.reduceEq, Int.reduceLT, Int.reduceLE, Int.reduceGE, Int.reduceGT, not_true_eq_false, not_false_eq_true, Bool.and_true, Bool.true_and, Bool.and_false, Bool.false_and, and_true, true_and, and_self, Bool.not_not, hn, hil, hq, hnm, e1, e3]
    exact hX
theorem bsOf_size (xs : List Int) : (bsOf xs).size = xs.length := by simp [bsOf, ByteArray.size]
theorem refTakeText_c (d : Nat) (b : Bool) (l : List Int) (hb : Bytes l) (hl : l.length ≤ 9223372036854775807) : evalF Try.prog CC (d + 2) 37 [.list 5 b (bytesI l) none] St.empty = some (encTk (takeT l), St.empty) := by
  generalize hX : some (encTk (takeT l), St.empty) = X
  have hil : (bytesI l).length = l.length := by simp [bytesI]
  have hn := fun d => refTakeNumber_c d b l hb hl
  have hok := takeN_ok hb
  unfold takeT at hX
  simp only at hX
  generalize takeN l = p at hn hX hok
  obtain ⟨v, n, e⟩ := p
  simp only [encN] at hn hX hok
  refine wp_eq ?_
  rw [run_37 _ _ _ (by simp)]; unfold Try.f37; simp only [Option.getD_some]
  simp only [go_sem, ↓reduceIte, Nat.reduceEqDiff, Nat.reduceAdd, reduceCtorEq, CCT, CCv, CCr, CCk, Nat.reduceBNe, Nat.reduceLeDiff, Nat.reduceLT, beqI, bneI, List.length_map, decide_true, decide_false, Int.reduceEq, Int.reduceLT, Int.reduceLE, Int.reduceGE, Int.reduceGT, not_true_eq_false, not_false_eq_true, Bool.and_true, Bool.true_and, Bool.and_false, Bool.false_and, and_true, true_and, and_self, Bool.not_not, hn, hil]
  by_cases he : e = 0
  case neg =>
    rw [if_neg he] at hX
    simp only [go_sem, ↓reduceIte, Nat.reduceEqDiff, Nat.reduceAdd, reduceCtorEq, CCT, CCv, CCr, CCk, Nat.reduceBNe, Nat.reduceLeDiff, Nat.reduceLT, beqI, bneI, List.length_map, decide_true, decide_false, Int.reduceEq, Int.reduceLT, Int.reduceLE, Int.reduceGE, Int.reduceGT, not_true_eq_false, not_false_eq_true, Bool.and_true, Bool.true_and, Bool.and_false, Bool.false_and, and_true, true_and, and_self, Bool.not_not, hn, hil, he]
    exact hX
  subst he
  obtain ⟨hv0, hv1, m, rfl, hm1, hm2, hm3⟩ := hok rfl
  rw [if_pos rfl] at hX
  by_cases h1 : v < 1
  · rw [if_pos (.inl h1)] at hX
    simp only [go_sem, ↓reduceIte, Nat.reduceEqDiff, Nat.reduceAdd, reduceCtorEq, CCT, CCv, CCr, CCk, Nat.reduceBNe, Nat.reduceLeDiff, Nat.reduceLT, beqI, bneI, List.length_map, decide_true, decide_false, Int.reduceEq, Int.reduceLT, Int.reduceLE, Int.reduceGE, Int.reduceGT, not_true_eq_false, not_false_eq_true, Bool.and_true, Bool.true_and, Bool.and_false, Bool.false_and, and_true, true_and, and_self, Bool.not_not, hn, hil, h1]
    exact hX
  by_cases h16 : v > 16
  · rw [if_pos (.inr h16)] at hX
    simp only [go_sem, ↓reduceIte, Nat.reduceEqDiff, Nat.reduceAdd, reduceCtorEq, CCT, CCv, CCr, CCk, Nat.reduceBNe, Nat.reduceLeDiff, Nat.reduceLT, beqI, bneI, List.length_map, decide_true, decide_false, Int.reduceEq, Int.reduceLT, Int.reduceLE, Int.reduceGE, Int.reduceGT, not_true_eq_false, not_false_eq_true, Bool.and_true, Bool.true_and, Bool.and_false, Bool.false_and, and_true, true_and, and_self, Bool.not_not, hn, hil, h1, h16]
    exact hX
  rw [if_neg (by omega)] at hX
  have e1 : IntKind.i64.wrap v = v := by rw [IntKind.wrap_i64]; omega
  have e3 : IntKind.i64.wrap ((m : Int) + v) = (m : Int) + v := by rw [IntKind.wrap_i64]; omega
  by_cases h2 : (l.length : Int) < (m : Int) + v
  · rw [if_pos h2] at hX
    have h2' : (m : Int) + v > (l.length : Int) := by omega
    simp only [go_sem, ↓reduceIte, Nat.reduceEqDiff, Nat.reduceAdd, reduceCtorEq, CCT, CCv, CCr, CCk, Nat.reduceBNe, Nat.reduceLeDiff, Nat.reduceLT, beqI, bneI, List.length_map, decide_true, decide_false, Int.reduceEq, Int.reduceLT, Int.reduceLE, Int.reduceGE, Int.reduceGT, not_true_eq_false, not_false_eq_true, Bool.and_true, Bool.true_and, Bool.and_false, Bool.false_and, and_true, true_and, and_self, Bool.not_not, hn, hil, h1, h16, e1, e3, h2']
    exact hX
  rw [if_neg h2] at hX
  have h2' : ¬ (m : Int) + v > (l.length : Int) := by omega
  simp only [go_sem, ↓reduceIte, Nat.reduceEqDiff, Nat.reduceAdd, reduceCtorEq, CCT, CCv, CCr, CCk, Nat.reduceBNe, Nat.reduceLeDiff, Nat.reduceLT, beqI, bneI, List.length_map, decide_true, decide_false, Int.reduceEq, Int.reduceLT, Int.reduceLE, Int.reduceGE, Int.reduceGT, not_true_eq_false, not_false_eq_true, Bool.and_true, Bool.true_and, Bool.and_false, Bool.false_and, and_true, true_and, and_self, Bool.not_not, hn, hil, h1, h16, e1, e3, h2']
  refine W.slice_lh (l := l) (g := AV.int .u8) (e := 5) ty_43 (by omega) (by omega) (by omega) ?_
  have hsz : (bsOf ((l.take ((m : Int) + v).toNat).drop (m : Int).toNat)).size ≤ 9223372036854775807 := by
    rw [bsOf_size, List.length_drop, List.length_take]
    omega
  generalize hs : bsOf ((l.take ((m : Int) + v).toNat).drop (m : Int).toNat) = s at hX hsz
  have hnm := fun d => Name_c d s hsz
  simp only [go_sem, ↓reduceIte, Nat.reduceEqDiff, Nat.reduceAdd, reduceCtorEq, CCT, CCv, CCr, CCk, Nat.reduceBNe, Nat.reduceLeDiff, Nat.reduceLT, beqI, bneI, List.length_map, decide_true, decide_false, Int.reduceEq, Int.reduceLT, Int.reduceLE, Int.reduceGE, Int.reduceGT, not_true_eq_false, not_false_eq_true, Bool.and_true, Bool.true_and, Bool.and_false, Bool.false_and, and_true, true_and, and_self, Bool.not_not, hn, hil, h1, h16, e1, e3, h2', map_str, hs]
  cases hq : nameB s
  · rw [if_neg (by simp [hq])] at hX
    simp only [go_sem, ↓reduceIte, Nat.reduceEqDiff, Nat.reduceAdd, reduceCtorEq, CCT, CCv, CCr, CCk, Nat.reduceBNe, Nat.reduceLeDiff, Nat.reduceLT, beqI, bneI, List.length_map, decide_true, decide_false, Int.reduceEq, Int.reduceLT, Int.reduceLE, Int.reduceGE, Int.reduceGT, not_true_eq_false, not_false_eq_true, Bool.and_true, Bool.true_and, Bool.and_false, Bool.false_and, and_true, true_and, and_self, Bool.not_not, hn, hil, hq, hnm]
    exact hX
  · rw [if_pos hq] at hX
    simp only [go_sem, ↓reduceIte, Nat.reduceEqDiff, Nat.reduceAdd, reduceCtorEq, CCT, CCv, CCr, CCk, Nat.reduceBNe, Nat.reduceLeDiff, Nat.reduceLT, beqI, bneI, List.length_map, decide_true, decide_false, Int.reduceEq, Int.reduceLT, Int.reduceLE, Int.reduceGE, Int.reduceGT, not_true_eq_false, not_false_eq_true, Bool.and_true, Bool.true_and, Bool.and_false, Bool.false_and, and_true, true_and, and_self, Bool.not_not, hn, hil, hq, hnm, e1, e3]
    exact hX
end Go.Proofs.Ytjembadjfiohpaa.Va

/- chapter 4: a row of numbers, taken -/
namespace Go.Proofs.Ytjembadjfiohpaa.Va
open Go
set_option linter.unusedVariables false
set_option linter.unusedSimpArgs false
set_option maxRecDepth 100000
def tI : Nat → List Int → Int → List Int → List Int × Int × Int
  | 0, _, at', acc => (acc, at', 0)
  | m + 1, l, at', acc =>
    let p := takeN l
    if p.2.2 = 0 then (if p.1 > 2147483647 then ([], 0, 4) else tI m (l.drop p.2.1.toNat) (at' + p.2.1) (acc ++ [p.1])) else ([], 0, p.2.2)
def takeI (l : List Int) : List Int × Int × Int :=
  let p := takeN l
  if p.2.2 = 0 then (if p.1 > 1000 then ([], 0, 11) else tI p.1.toNat (l.drop p.2.1.toNat) p.2.1 []) else ([], 0, p.2.2)
def encI (p : List Int × Int × Int) : AV × St := (.tup [growR 3 (intsA p.1), .int .i64 p.2.1, .int .i64 p.2.2], valSt (growR 3 (intsA p.1)))
theorem valSt_grow2 {e : TypeId} {xs : List AV} {k k' : IntKind} {n n' : Int} : valSt (.tup [growR e xs, .int k n, .int k' n']) = valSt (growR e xs) := by unfold growR; split <;> rfl
theorem TakeInts_c (d : Nat) (b : Bool) (l : List Int) (hb : Bytes l) (hl : l.length ≤ 9223372036854775807) : evalF Try.prog CC (d + 2) 45 [.list 5 b (bytesI l) none] St.empty = some (encI (takeI l)) := by
  generalize hX : some (encI (takeI l)) = X
  have hil : (bytesI l).length = l.length := by simp [bytesI]
  have hn := fun d => TakeNumber_c d b l hb hl
  have hok := takeN_ok hb
  unfold takeI at hX
  simp only at hX
  generalize takeN l = p at hn hX hok
  obtain ⟨v, n, e⟩ := p
  simp only [encN] at hn hX hok
  refine wp_eq ?_
  rw [run_45 _ _ _ (by simp)]; unfold Try.f45; simp only [Option.getD_some]
  simp only [go_sem, ↓reduceIte, Nat.reduceEqDiff, Nat.reduceAdd, reduceCtorEq, CCT, CCv, CCr, CCk, Nat.reduceBNe, Nat.reduceLeDiff, Nat.reduceLT, beqI, bneI, List.length_map, decide_true, decide_false, Int.reduceEq, Int.reduceLT, Int.reduceLE, Int.reduceGE, Int.reduceGT, not_true_eq_false, not_false_eq_true, Bool.and_true, Bool.true_and, Bool.and_false, Bool.false_and, and_true, true_and, and_self, Bool.not_not, hn, hil]
  by_cases he : e = 0
  case neg =>
    rw [if_neg he] at hX
    simp only [go_sem, ↓reduceIte, Nat.reduceEqDiff, Nat.reduceAdd, reduceCtorEq, CCT, CCv, CCr, CCk, Nat.reduceBNe, Nat.reduceLeDiff, Nat.reduceLT, beqI, bneI, List.length_map, decide_true, decide_false, Int.reduceEq, Int.reduceLT, Int.reduceLE, Int.reduceGE, Int.reduceGT, not_true_eq_false, not_false_eq_true, Bool.and_true, Bool.true_and, Bool.and_false, Bool.false_and, and_true, true_and, and_self, Bool.not_not, hn, hil, he]
    exact hX
  subst he
  obtain ⟨hv0, hv1, m, rfl, hm1, hm2, hm3⟩ := hok rfl
  rw [if_pos rfl] at hX
  by_cases h1000 : v > 1000
  · rw [if_pos h1000] at hX
    simp only [go_sem, ↓reduceIte, Nat.reduceEqDiff, Nat.reduceAdd, reduceCtorEq, CCT, CCv, CCr, CCk, Nat.reduceBNe, Nat.reduceLeDiff, Nat.reduceLT, beqI, bneI, List.length_map, decide_true, decide_false, Int.reduceEq, Int.reduceLT, Int.reduceLE, Int.reduceGE, Int.reduceGT, not_true_eq_false, not_false_eq_true, Bool.and_true, Bool.true_and, Bool.and_false, Bool.false_and, and_true, true_and, and_self, Bool.not_not, hn, hil, h1000]
    exact hX
  rw [if_neg h1000] at hX
  obtain ⟨w, rfl⟩ : ∃ w : Nat, v = w := ⟨v.toNat, by omega⟩
  rw [Int.toNat_natCast, Int.toNat_natCast] at hX
  simp only [go_sem, ↓reduceIte, Nat.reduceEqDiff, Nat.reduceAdd, reduceCtorEq, CCT, CCv, CCr, CCk, Nat.reduceBNe, Nat.reduceLeDiff, Nat.reduceLT, beqI, bneI, List.length_map, decide_true, decide_false, Int.reduceEq, Int.reduceLT, Int.reduceLE, Int.reduceGE, Int.reduceGT, not_true_eq_false, not_false_eq_true, Bool.and_true, Bool.true_and, Bool.and_false, Bool.false_and, and_true, true_and, and_self, Bool.not_not, hn, hil, h1000]
  clear hn hok
  refine W.iter_rule (fun k ρ σ => ρ 0 = .list 5 b (bytesI l) none ∧ ρ 25 = .int .u64 w ∧ ρ 26 = .int .u64 k ∧ ∃ (a : Nat) (acc : List Int) (kk : Option Nat), ρ 6 = .int .i64 a ∧ a ≤ l.length ∧ Gw 3 (intsA acc) σ (ρ 8) kk ∧ acc.length = k ∧ some (encI (tI (w - k) (l.drop a) a acc)) = X) w ?_ ?_ _ 0 _ _ (Nat.zero_le _) ?_ ?_
  · rintro k ρ σ hk ⟨h0, h25, h26, a, acc, kk, h6, ha, hg, hacc, hX⟩ K hK hx hr
    have hlt : (k : Int) < (w : Int) := by omega
    have hwrap : IntKind.u64.wrap ((k : Int) + 1) = ((k + 1 : Nat) : Int) := by rw [IntKind.wrap_u64]; omega
    have hdl : (l.drop a).length = l.length - a := List.length_drop
    have hn := fun d => TakeNumber_c d b (l.drop a) (hb.drop a) (by omega)
    have hok := takeN_ok (hb.drop a)
    rw [show w - k = (w - (k + 1)) + 1 by omega, tI] at hX
    try simp only at hX
    generalize takeN (l.drop a) = p at hn hX hok
    obtain ⟨v, n, e⟩ := p
    simp only [encN, bytesI] at hn hX hok
    simp only [go_sem, ↓reduceIte, Nat.reduceEqDiff, Nat.reduceAdd, reduceCtorEq, CCT, CCv, CCr, CCk, Nat.reduceBNe, Nat.reduceLeDiff, Nat.reduceLT, beqI, bneI, List.length_map, decide_true, decide_false, Int.reduceEq, Int.reduceLT, Int.reduceLE, Int.reduceGE, Int.reduceGT, not_true_eq_false, not_false_eq_true, Bool.and_true, Bool.true_and, Bool.and_false, Bool.false_and, and_true, true_and, and_self, Bool.not_not, h0, h25, h26, h6, hlt, hil]
    refine W.slice_lo (l := l) (g := AV.int .u8) (e := 5) ty_43 (by omega) (by omega) ?_
    rw [Int.toNat_natCast]
    simp only [go_sem, ↓reduceIte, Nat.reduceEqDiff, Nat.reduceAdd, reduceCtorEq, CCT, CCv, CCr, CCk, Nat.reduceBNe, Nat.reduceLeDiff, Nat.reduceLT, beqI, bneI, List.length_map, decide_true, decide_false, Int.reduceEq, Int.reduceLT, Int.reduceLE, Int.reduceGE, Int.reduceGT, not_true_eq_false, not_false_eq_true, Bool.and_true, Bool.true_and, Bool.and_false, Bool.false_and, and_true, true_and, and_self, Bool.not_not, h0, h25, h26, h6, hn]
    by_cases he : e = 0
    case neg =>
      rw [if_neg he] at hX
      simp only [go_sem, ↓reduceIte, Nat.reduceEqDiff, Nat.reduceAdd, reduceCtorEq, CCT, CCv, CCr, CCk, Nat.reduceBNe, Nat.reduceLeDiff, Nat.reduceLT, beqI, bneI, List.length_map, decide_true, decide_false, Int.reduceEq, Int.reduceLT, Int.reduceLE, Int.reduceGE, Int.reduceGT, not_true_eq_false, not_false_eq_true, Bool.and_true, Bool.true_and, Bool.and_false, Bool.false_and, and_true, true_and, and_self, Bool.not_not, h0, h25, h26, h6, he, hr]
      exact hX
    subst he
    obtain ⟨hv0, hv1, m2, rfl, hm1, hm2, hm3⟩ := hok rfl
    rw [if_pos rfl] at hX
    by_cases hbig : v > 2147483647
    · rw [if_pos hbig] at hX
      simp only [go_sem, ↓reduceIte, Nat.reduceEqDiff, Nat.reduceAdd, reduceCtorEq, CCT, CCv, CCr, CCk, Nat.reduceBNe, Nat.reduceLeDiff, Nat.reduceLT, beqI, bneI, List.length_map, decide_true, decide_false, Int.reduceEq, Int.reduceLT, Int.reduceLE, Int.reduceGE, Int.reduceGT, not_true_eq_false, not_false_eq_true, Bool.and_true, Bool.true_and, Bool.and_false, Bool.false_and, and_true, true_and, and_self, Bool.not_not, h0, h25, h26, h6, hbig, hr]
      exact hX
    rw [if_neg hbig, Int.toNat_natCast, List.drop_drop] at hX
    have e1 : IntKind.i64.wrap v = v := by rw [IntKind.wrap_i64]; omega
    have e2 : IntKind.i64.wrap ((a : Int) + m2) = ((a + m2 : Nat) : Int) := by rw [IntKind.wrap_i64]; omega
    simp only [go_sem, ↓reduceIte, Nat.reduceEqDiff, Nat.reduceAdd, reduceCtorEq, CCT, CCv, CCr, CCk, Nat.reduceBNe, Nat.reduceLeDiff, Nat.reduceLT, beqI, bneI, List.length_map, decide_true, decide_false, Int.reduceEq, Int.reduceLT, Int.reduceLE, Int.reduceGE, Int.reduceGT, not_true_eq_false, not_false_eq_true, Bool.and_true, Bool.true_and, Bool.and_false, Bool.false_and, and_true, true_and, and_self, Bool.not_not, h0, h25, h26, h6, hbig, e1]
    refine W.gw_app (T := T) (t := 33) hg (ys := intsA [v]) (by simp [intsA]) rfl ?_ ?_ ?_
    · rfl
    · refine roomy_of ?_ (by decide)
      simp only [intsA, List.length_map, List.length_singleton]
      omega
    simp only [go_sem, ↓reduceIte, Nat.reduceEqDiff, Nat.reduceAdd, reduceCtorEq, CCT, CCv, CCr, CCk, Nat.reduceBNe, Nat.reduceLeDiff, Nat.reduceLT, beqI, bneI, List.length_map, decide_true, decide_false, Int.reduceEq, Int.reduceLT, Int.reduceLE, Int.reduceGE, Int.reduceGT, not_true_eq_false, not_false_eq_true, Bool.and_true, Bool.true_and, Bool.and_false, Bool.false_and, and_true, true_and, and_self, Bool.not_not, h0, h25, h26, h6, e2, hwrap]
    refine hK _ _ ?_
    refine ⟨by (try simp only [go_sem, ↓reduceIte, Nat.reduceEqDiff, Nat.reduceAdd, reduceCtorEq, CCT, CCv, CCr, CCk, Nat.reduceBNe, Nat.reduceLeDiff, Nat.reduceLT, beqI, bneI, List.length_map, decide_true, decide_false, Int.reduceEq, Int.reduceLT, Int.reduceLE, Int.reduceGE, Int.reduceGT, not_true_eq_false, not_false_eq_true, Bool.and_true, Bool.true_and, Bool.and_false, Bool.false_and, and_true, true_and, and_self, Bool.not_not, Int.toNat_natCast, List.length_take, *]) <;> (first | done | rfl | omega | (simp; done) | (simp; omega)), by (try simp only [go_sem, ↓reduceIte, Nat.reduceEqDiff, Nat.reduceAdd, reduceCtorEq, CCT, CCv, CCr, CCk, Nat.reduceBNe, Nat.reduceLeDiff, Nat.reduceLT, beqI, bneI, List.length_map, decide_true, decide_false, Int.reduceEq, Int.reduceLT, Int.reduceLE, Int.reduceGE, Int.reduceGT, not_true_eq_false, not_false_eq_true, Bool.and_true, Bool.true_and, Bool.and_false, Bool.false_and, and_true, true_and, and_self, Bool.not_not, Int.toNat_natCast, List.length_take, *]) <;> (first | done | rfl | omega | (simp; done) | (simp; omega)), by (try simp only [go_sem, ↓reduceIte, Nat.reduceEqDiff, Nat.reduceAdd, reduceCtorEq, CCT, CCv, CCr, CCk, Nat.reduceBNe, Nat.reduceLeDiff, Nat.reduceLT, beqI, bneI, List.length_map, decide_true, decide_false, Int.reduceEq, Int.reduceLT, Int.reduceLE, Int.reduceGE, Int.reduceGT, not_true_eq_false, not_false_eq_true, Bool.and_true, Bool.true_and, Bool.and_false, Bool.false_and, and_true, true_and, and_self, Bool.not_not, Int.toNat_natCast, List.length_take, *]) <;> (first | done | rfl | omega | (simp; done) | (simp; omega)), a + m2, acc ++ [v], some σ.ntok, by (try simp only [go_sem, ↓reduceIte, Nat.reduceEqDiff, Nat.reduceAdd, reduceCtorEq, CCT, CCv, CCr, CCk, Nat.reduceBNe, Nat.reduceLeDiff, Nat.reduceLT, beqI, bneI, List.length_map, decide_true, decide_false, Int.reduceEq, Int.reduceLT, Int.reduceLE, Int.reduceGE, Int.reduceGT, not_true_eq_false, not_false_eq_true, Bool.and_true, Bool.true_and, Bool.and_false, Bool.false_and, and_true, true_and, and_self, Bool.not_not, Int.toNat_natCast, List.length_take, *]) <;> (first | done | rfl | omega | (simp; done) | (simp; omega)), by omega, ?_, by simp [hacc], ?_⟩
    · simp only [go_sem, ↓reduceIte, Nat.reduceEqDiff, Nat.reduceAdd, reduceCtorEq, CCT, CCv, CCr, CCk, Nat.reduceBNe, Nat.reduceLeDiff, Nat.reduceLT, beqI, bneI, List.length_map, decide_true, decide_false, Int.reduceEq, Int.reduceLT, Int.reduceLE, Int.reduceGE, Int.reduceGT, not_true_eq_false, not_false_eq_true, Bool.and_true, Bool.true_and, Bool.and_false, Bool.false_and, and_true, true_and, and_self, Bool.not_not, *]
      rw [show intsA (acc ++ [v]) = intsA acc ++ intsA [v] by simp [intsA]]
      exact .new (by simp [intsA])
    · rw [← hX]
      push_cast
      rfl
  · rintro ρ σ ⟨h0, h25, h26, a, acc, kk, h6, ha, hg, hacc, hX⟩ K hx hr
    have hlt : ¬ (w : Int) < (w : Int) := by omega
    rw [Nat.sub_self, tI] at hX
    simp only [go_sem, ↓reduceIte, Nat.reduceEqDiff, Nat.reduceAdd, reduceCtorEq, CCT, CCv, CCr, CCk, Nat.reduceBNe, Nat.reduceLeDiff, Nat.reduceLT, beqI, bneI, List.length_map, decide_true, decide_false, Int.reduceEq, Int.reduceLT, Int.reduceLE, Int.reduceGE, Int.reduceGT, not_true_eq_false, not_false_eq_true, Bool.and_true, Bool.true_and, Bool.and_false, Bool.false_and, and_true, true_and, and_self, Bool.not_not, hx, h0, h25, h26, h6, hlt, gw_comp hg]
    refine W.gw_ret_tup (vs := [.int .i64 a, .int .i64 0]) (us := [.int .i64 a, .int .i64 0]) hg rfl ?_
    rw [valSt_grow2]
    exact hX
  · show w < 0 + 9223372036854775900
    omega
  · refine ⟨by (try simp only [go_sem, ↓reduceIte, Nat.reduceEqDiff, Nat.reduceAdd, reduceCtorEq, CCT, CCv, CCr, CCk, Nat.reduceBNe, Nat.reduceLeDiff, Nat.reduceLT, beqI, bneI, List.length_map, decide_true, decide_false, Int.reduceEq, Int.reduceLT, Int.reduceLE, Int.reduceGE, Int.reduceGT, not_true_eq_false, not_false_eq_true, Bool.and_true, Bool.true_and, Bool.and_false, Bool.false_and, and_true, true_and, and_self, Bool.not_not, Int.toNat_natCast, List.length_take, *]) <;> (first | done | rfl | omega | (simp; done) | (simp; omega)), by (try simp only [go_sem, ↓reduceIte, Nat.reduceEqDiff, Nat.reduceAdd, reduceCtorEq, CCT, CCv, CCr, CCk, Nat.reduceBNe, Nat.reduceLeDiff, Nat.reduceLT, beqI, bneI, List.length_map, decide_true, decide_false, Int.reduceEq, Int.reduceLT, Int.reduceLE, Int.reduceGE, Int.reduceGT, not_true_eq_false, not_false_eq_true, Bool.and_true, Bool.true_and, Bool.and_false, Bool.false_and, and_true, true_and, and_self, Bool.not_not, Int.toNat_natCast, List.length_take, *]) <;> (first | done | rfl | omega | (simp; done) | (simp; omega)), by (try simp only [go_sem, ↓reduceIte, Nat.reduceEqDiff, Nat.reduceAdd, reduceCtorEq, CCT, CCv, CCr, CCk, Nat.reduceBNe, Nat.reduceLeDiff, Nat.reduceLT, beqI, bneI, List.length_map, decide_true, decide_false, Int.reduceEq, Int.reduceLT, Int.reduceLE, Int.reduceGE, Int.reduceGT, not_true_eq_false, not_false_eq_true, Bool.and_true, Bool.true_and, Bool.and_false, Bool.false_and, and_true, true_and, and_self, Bool.not_not, Int.toNat_natCast, List.length_take, *]) <;> (first | done | rfl | omega | (simp; done) | (simp; omega)), m, [], none, by (try simp only [go_sem, ↓reduceIte, Nat.reduceEqDiff, Nat.reduceAdd, reduceCtorEq, CCT, CCv, CCr, CCk, Nat.reduceBNe, Nat.reduceLeDiff, Nat.reduceLT, beqI, bneI, List.length_map, decide_true, decide_false, Int.reduceEq, Int.reduceLT, Int.reduceLE, Int.reduceGE, Int.reduceGT, not_true_eq_false, not_false_eq_true, Bool.and_true, Bool.true_and, Bool.and_false, Bool.false_and, and_true, true_and, and_self, Bool.not_not, Int.toNat_natCast, List.length_take, *]) <;> (first | done | rfl | omega | (simp; done) | (simp; omega)), hm2, ?_, rfl, hX⟩
    simp only [go_sem, ↓reduceIte, Nat.reduceEqDiff, Nat.reduceAdd, reduceCtorEq, CCT, CCv, CCr, CCk, Nat.reduceBNe, Nat.reduceLeDiff, Nat.reduceLT, beqI, bneI, List.length_map, decide_true, decide_false, Int.reduceEq, Int.reduceLT, Int.reduceLE, Int.reduceGE, Int.reduceGT, not_true_eq_false, not_false_eq_true, Bool.and_true, Bool.true_and, Bool.and_false, Bool.false_and, and_true, true_and, and_self, Bool.not_not, *]
    exact .nil 3 _
theorem refTakeInts_c (d : Nat) (b : Bool) (l : List Int) (hb : Bytes l) (hl : l.length ≤ 9223372036854775807) : evalF Try.prog CC (d + 2) 38 [.list 5 b (bytesI l) none] St.empty = some (encI (takeI l)) := by
  generalize hX : some (encI (takeI l)) = X
  have hil : (bytesI l).length = l.length := by simp [bytesI]
  have hn := fun d => refTakeNumber_c d b l hb hl
  have hok := takeN_ok hb
  unfold takeI at hX
  simp only at hX
  generalize takeN l = p at hn hX hok
  obtain ⟨v, n, e⟩ := p
  simp only [encN] at hn hX hok
  refine wp_eq ?_
  rw [run_38 _ _ _ (by simp)]; unfold Try.f38; simp only [Option.getD_some]
  simp only [go_sem, ↓reduceIte, Nat.reduceEqDiff, Nat.reduceAdd, reduceCtorEq, CCT, CCv, CCr, CCk, Nat.reduceBNe, Nat.reduceLeDiff, Nat.reduceLT, beqI, bneI, List.length_map, decide_true, decide_false, Int.reduceEq, Int.reduceLT, Int.reduceLE, Int.reduceGE, Int.reduceGT, not_true_eq_false, not_false_eq_true, Bool.and_true, Bool.true_and, Bool.and_false, Bool.false_and, and_true, true_and, and_self, Bool.not_not, hn, hil]
  by_cases he : e = 0
  case neg =>
    rw [if_neg he] at hX
    simp only [go_sem, ↓reduceIte, Nat.reduceEqDiff, Nat.reduceAdd, reduceCtorEq, CCT, CCv, CCr, CCk, Nat.reduceBNe, Nat.reduceLeDiff, Nat.reduceLT, beqI, bneI, List.length_map, decide_true, decide_false, Int.reduceEq, Int.reduceLT, Int.reduceLE, Int.reduceGE, Int.reduceGT, not_true_eq_false, not_false_eq_true, Bool.and_true, Bool.true_and, Bool.and_false, Bool.false_and, and_true, true_and, and_self, Bool.not_not, hn, hil, he]
    exact hX
  subst he
  obtain ⟨hv0, hv1, m, rfl, hm1, hm2, hm3⟩ := hok rfl
  rw [if_pos rfl] at hX
  by_cases h1000 : v > 1000
  · rw [if_pos h1000] at hX
    simp only [go_sem, ↓reduceIte, Nat.reduceEqDiff, Nat.reduceAdd, reduceCtorEq, CCT, CCv, CCr, CCk, Nat.reduceBNe, Nat.reduceLeDiff, Nat.reduceLT, beqI, bneI, List.length_map, decide_true, decide_false, Int.reduceEq, Int.reduceLT, Int.reduceLE, Int.reduceGE, Int.reduceGT, not_true_eq_false, not_false_eq_true, Bool.and_true, Bool.true_and, Bool.and_false, Bool.false_and, and_true, true_and, and_self, Bool.not_not, hn, hil, h1000]
    exact hX
  rw [if_neg h1000] at hX
  obtain ⟨w, rfl⟩ : ∃ w : Nat, v = w := ⟨v.toNat, by omega⟩
  rw [Int.toNat_natCast, Int.toNat_natCast] at hX
  simp only [go_sem, ↓reduceIte, Nat.reduceEqDiff, Nat.reduceAdd, reduceCtorEq, CCT, CCv, CCr, CCk, Nat.reduceBNe, Nat.reduceLeDiff, Nat.reduceLT, beqI, bneI, List.length_map, decide_true, decide_false, Int.reduceEq, Int.reduceLT, Int.reduceLE, Int.reduceGE, Int.reduceGT, not_true_eq_false, not_false_eq_true, Bool.and_true, Bool.true_and, Bool.and_false, Bool.false_and, and_true, true_and, and_self, Bool.not_not, hn, hil, h1000]
  clear hn hok
  refine W.iter_rule (fun k ρ σ => ρ 0 = .list 5 b (bytesI l) none ∧ ρ 5 = .int .u64 w ∧ ρ 9 = .int .i64 k ∧ ∃ (a : Nat) (acc : List Int) (kk : Option Nat), ρ 6 = .int .i64 a ∧ a ≤ l.length ∧ Gw 3 (intsA acc) σ (ρ 8) kk ∧ acc.length = k ∧ some (encI (tI (w - k) (l.drop a) a acc)) = X) w ?_ ?_ _ 0 _ _ (Nat.zero_le _) ?_ ?_
  · rintro k ρ σ hk ⟨h0, h5, h9, a, acc, kk, h6, ha, hg, hacc, hX⟩ K hK hx hr
    have hlt : (k : Int) < (w : Int) := by omega
    have hwrap : IntKind.i64.wrap ((k : Int) + 1) = ((k + 1 : Nat) : Int) := by rw [IntKind.wrap_i64]; omega
    have hww : IntKind.i64.wrap (w : Int) = w := by rw [IntKind.wrap_i64]; omega
    have hdl : (l.drop a).length = l.length - a := List.length_drop
    have hn := fun d => refTakeNumber_c d b (l.drop a) (hb.drop a) (by omega)
    have hok := takeN_ok (hb.drop a)
    rw [show w - k = (w - (k + 1)) + 1 by omega, tI] at hX
    try simp only at hX
    generalize takeN (l.drop a) = p at hn hX hok
    obtain ⟨v, n, e⟩ := p
    simp only [encN, bytesI] at hn hX hok
    simp only [go_sem, ↓reduceIte, Nat.reduceEqDiff, Nat.reduceAdd, reduceCtorEq, CCT, CCv, CCr, CCk, Nat.reduceBNe, Nat.reduceLeDiff, Nat.reduceLT, beqI, bneI, List.length_map, decide_true, decide_false, Int.reduceEq, Int.reduceLT, Int.reduceLE, Int.reduceGE, Int.reduceGT, not_true_eq_false, not_false_eq_true, Bool.and_true, Bool.true_and, Bool.and_false, Bool.false_and, and_true, true_and, and_self, Bool.not_not, h0, h5, h9, h6, hlt, hil, hww]
    refine W.slice_lo (l := l) (g := AV.int .u8) (e := 5) ty_43 (by omega) (by omega) ?_
    rw [Int.toNat_natCast]
    simp only [go_sem, ↓reduceIte, Nat.reduceEqDiff, Nat.reduceAdd, reduceCtorEq, CCT, CCv, CCr, CCk, Nat.reduceBNe, Nat.reduceLeDiff, Nat.reduceLT, beqI, bneI, List.length_map, decide_true, decide_false, Int.reduceEq, Int.reduceLT, Int.reduceLE, Int.reduceGE, Int.reduceGT, not_true_eq_false, not_false_eq_true, Bool.and_true, Bool.true_and, Bool.and_false, Bool.false_and, and_true, true_and, and_self, Bool.not_not, h0, h5, h9, h6, hn]
    by_cases he : e = 0
    case neg =>
      rw [if_neg he] at hX
      simp only [go_sem, ↓reduceIte, Nat.reduceEqDiff, Nat.reduceAdd, reduceCtorEq, CCT, CCv, CCr, CCk, Nat.reduceBNe, Nat.reduceLeDiff, Nat.reduceLT, beqI, bneI, List.length_map, decide_true, decide_false, Int.reduceEq, Int.reduceLT, Int.reduceLE, Int.reduceGE, Int.reduceGT, not_true_eq_false, not_false_eq_true, Bool.and_true, Bool.true_and, Bool.and_false, Bool.false_and, and_true, true_and, and_self, Bool.not_not, h0, h5, h9, h6, he, hr]
      exact hX
    subst he
    obtain ⟨hv0, hv1, m2, rfl, hm1, hm2, hm3⟩ := hok rfl
    rw [if_pos rfl] at hX
    by_cases hbig : v > 2147483647
    · rw [if_pos hbig] at hX
      simp only [go_sem, ↓reduceIte, Nat.reduceEqDiff, Nat.reduceAdd, reduceCtorEq, CCT, CCv, CCr, CCk, Nat.reduceBNe, Nat.reduceLeDiff, Nat.reduceLT, beqI, bneI, List.length_map, decide_true, decide_false, Int.reduceEq, Int.reduceLT, Int.reduceLE, Int.reduceGE, Int.reduceGT, not_true_eq_false, not_false_eq_true, Bool.and_true, Bool.true_and, Bool.and_false, Bool.false_and, and_true, true_and, and_self, Bool.not_not, h0, h5, h9, h6, hbig, hr]
      exact hX
    rw [if_neg hbig, Int.toNat_natCast, List.drop_drop] at hX
    have e1 : IntKind.i64.wrap v = v := by rw [IntKind.wrap_i64]; omega
    have e2 : IntKind.i64.wrap ((a : Int) + m2) = ((a + m2 : Nat) : Int) := by rw [IntKind.wrap_i64]; omega
    simp only [go_sem, ↓reduceIte, Nat.reduceEqDiff, Nat.reduceAdd, reduceCtorEq, CCT, CCv, CCr, CCk, Nat.reduceBNe, Nat.reduceLeDiff, Nat.reduceLT, beqI, bneI, List.length_map, decide_true, decide_false, Int.reduceEq, Int.reduceLT, Int.reduceLE, Int.reduceGE, Int.reduceGT, not_true_eq_false, not_false_eq_true, Bool.and_true, Bool.true_and, Bool.and_false, Bool.false_and, and_true, true_and, and_self, Bool.not_not, h0, h5, h9, h6, hbig, e1]
    refine W.gw_app (T := T) (t := 33) hg (ys := intsA [v]) (by simp [intsA]) rfl ?_ ?_ ?_
    · rfl
    · refine roomy_of ?_ (by decide)
      simp only [intsA, List.length_map, List.length_singleton]
      omega
    simp only [go_sem, ↓reduceIte, Nat.reduceEqDiff, Nat.reduceAdd, reduceCtorEq, CCT, CCv, CCr, CCk, Nat.reduceBNe, Nat.reduceLeDiff, Nat.reduceLT, beqI, bneI, List.length_map, decide_true, decide_false, Int.reduceEq, Int.reduceLT, Int.reduceLE, Int.reduceGE, Int.reduceGT, not_true_eq_false, not_false_eq_true, Bool.and_true, Bool.true_and, Bool.and_false, Bool.false_and, and_true, true_and, and_self, Bool.not_not, h0, h5, h9, h6, e2, hwrap]
    refine hK _ _ ?_
    refine ⟨by (try simp only [go_sem, ↓reduceIte, Nat.reduceEqDiff, Nat.reduceAdd, reduceCtorEq, CCT, CCv, CCr, CCk, Nat.reduceBNe, Nat.reduceLeDiff, Nat.reduceLT, beqI, bneI, List.length_map, decide_true, decide_false, Int.reduceEq, Int.reduceLT, Int.reduceLE, Int.reduceGE, Int.reduceGT, not_true_eq_false, not_false_eq_true, Bool.and_true, Bool.true_and, Bool.and_false, Bool.false_and, and_true, true_and, and_self, Bool.not_not, Int.toNat_natCast, List.length_take, *]) <;> (first | done | rfl | omega | (simp; done) | (simp; omega)), by (try simp only [go_sem, ↓reduceIte, Nat.reduceEqDiff, Nat.reduceAdd, reduceCtorEq, CCT, CCv, CCr, CCk, Nat.reduceBNe, Nat.reduceLeDiff, Nat.reduceLT, beqI, bneI, List.length_map, decide_true, decide_false, Int.reduceEq, Int.reduceLT, Int.reduceLE, Int.reduceGE, Int.reduceGT, not_true_eq_false, not_false_eq_true, Bool.and_true, Bool.true_and, Bool.and_false, Bool.false_and, and_true, true_and, and_self, Bool.not_not, Int.toNat_natCast, List.length_take, *]) <;> (first | done | rfl | omega | (simp; done) | (simp; omega)), by (try simp only [go_sem, ↓reduceIte, Nat.reduceEqDiff, Nat.reduceAdd, reduceCtorEq, CCT, CCv, CCr, CCk, Nat.reduceBNe, Nat.reduceLeDiff, Nat.reduceLT, beqI, bneI, List.length_map, decide_true, decide_false, Int.reduceEq, Int.reduceLT, Int.reduceLE, Int.reduceGE, Int.reduceGT, not_true_eq_false, not_false_eq_true, Bool.and_true, Bool.true_and, Bool.and_false, Bool.false_and, and_true, true_and, and_self, Bool.not_not, Int.toNat_natCast, List.length_take, *]) <;> (first | done | rfl | omega | (simp; done) | (simp; omega)), a + m2, acc ++ [v], some σ.ntok, by (try simp only [go_sem, ↓reduceIte, Nat.reduceEqDiff, Nat.reduceAdd, reduceCtorEq, CCT, CCv, CCr, CCk, Nat.reduceBNe, Nat.reduceLeDiff, Nat.reduceLT, beqI, bneI, List.length_map, decide_true, decide_false, Int.reduceEq, Int.reduceLT, Int.reduceLE, Int.reduceGE, Int.reduceGT, not_true_eq_false, not_false_eq_true, Bool.and_true, Bool.true_and, Bool.and_false, Bool.false_and, and_true, true_and, and_self, Bool.not_not, Int.toNat_natCast, List.length_take, *]) <;> (first | done | rfl | omega | (simp; done) | (simp; omega)), by omega, ?_, by simp [hacc], ?_⟩
    · simp only [go_sem, ↓reduceIte, Nat.reduceEqDiff, Nat.reduceAdd, reduceCtorEq, CCT, CCv, CCr, CCk, Nat.reduceBNe, Nat.reduceLeDiff, Nat.reduceLT, beqI, bneI, List.length_map, decide_true, decide_false, Int.reduceEq, Int.reduceLT, Int.reduceLE, Int.reduceGE, Int.reduceGT, not_true_eq_false, not_false_eq_true, Bool.and_true, Bool.true_and, Bool.and_false, Bool.false_and, and_true, true_and, and_self, Bool.not_not, *]
      rw [show intsA (acc ++ [v]) = intsA acc ++ intsA [v] by simp [intsA]]
      exact .new (by simp [intsA])
    · rw [← hX]
      push_cast
      rfl
  · rintro ρ σ ⟨h0, h5, h9, a, acc, kk, h6, ha, hg, hacc, hX⟩ K hx hr
    have hlt : ¬ (w : Int) < (w : Int) := by omega
    rw [Nat.sub_self, tI] at hX
    have hww : IntKind.i64.wrap (w : Int) = w := by rw [IntKind.wrap_i64]; omega
    simp only [go_sem, ↓reduceIte, Nat.reduceEqDiff, Nat.reduceAdd, reduceCtorEq, CCT, CCv, CCr, CCk, Nat.reduceBNe, Nat.reduceLeDiff, Nat.reduceLT, beqI, bneI, List.length_map, decide_true, decide_false, Int.reduceEq, Int.reduceLT, Int.reduceLE, Int.reduceGE, Int.reduceGT, not_true_eq_false, not_false_eq_true, Bool.and_true, Bool.true_and, Bool.and_false, Bool.false_and, and_true, true_and, and_self, Bool.not_not, hx, h0, h5, h9, h6, hlt, hww, gw_comp hg]
    refine W.gw_ret_tup (vs := [.int .i64 a, .int .i64 0]) (us := [.int .i64 a, .int .i64 0]) hg rfl ?_
    rw [valSt_grow2]
    exact hX
  · show w < 0 + 9223372036854775900
    omega
  · refine ⟨by (try simp only [go_sem, ↓reduceIte, Nat.reduceEqDiff, Nat.reduceAdd, reduceCtorEq, CCT, CCv, CCr, CCk, Nat.reduceBNe, Nat.reduceLeDiff, Nat.reduceLT, beqI, bneI, List.length_map, decide_true, decide_false, Int.reduceEq, Int.reduceLT, Int.reduceLE, Int.reduceGE, Int.reduceGT, not_true_eq_false, not_false_eq_true, Bool.and_true, Bool.true_and, Bool.and_false, Bool.false_and, and_true, true_and, and_self, Bool.not_not, Int.toNat_natCast, List.length_take, *]) <;> (first | done | rfl | omega | (simp; done) | (simp; omega)), by (try simp only [go_sem, ↓reduceIte, Nat.reduceEqDiff, Nat.reduceAdd, reduceCtorEq, CCT, CCv, CCr, CCk, Nat.reduceBNe, Nat.reduceLeDiff, Nat.reduceLT, beqI, bneI, List.length_map, decide_true, decide_false, Int.reduceEq, Int.reduceLT, Int.reduceLE, Int.reduceGE, Int.reduceGT, not_true_eq_false, not_false_eq_true, Bool.and_true, Bool.true_and, Bool.and_false, Bool.false_and, and_true, true_and, and_self, Bool.not_not, Int.toNat_natCast, List.length_take, *]) <;> (first | done | rfl | omega | (simp; done) | (simp; omega)), by (try simp only [go_sem, ↓reduceIte, Nat.reduceEqDiff, Nat.reduceAdd, reduceCtorEq, CCT, CCv, CCr, CCk, Nat.reduceBNe, Nat.reduceLeDiff, Nat.reduceLT, beqI, bneI, List.length_map, decide_true, decide_false, Int.reduceEq, Int.reduceLT, Int.reduceLE, Int.reduceGE, Int.reduceGT, not_true_eq_false, not_false_eq_true, Bool.and_true, Bool.true_and, Bool.and_false, Bool.false_and, and_true, true_and, and_self, Bool.not_not, Int.toNat_natCast, List.length_take, *]) <;> (first | done | rfl | omega | (simp; done) | (simp; omega)), m, [], none, by (try simp only [go_sem, ↓reduceIte, Nat.reduceEqDiff, Nat.reduceAdd, reduceCtorEq, CCT, CCv, CCr, CCk, Nat.reduceBNe, Nat.reduceLeDiff, Nat.reduceLT, beqI, bneI, List.length_map, decide_true, decide_false, Int.reduceEq, Int.reduceLT, Int.reduceLE, Int.reduceGE, Int.reduceGT, not_true_eq_false, not_false_eq_true, Bool.and_true, Bool.true_and, Bool.and_false, Bool.false_and, and_true, true_and, and_self, Bool.not_not, Int.toNat_natCast, List.length_take, *]) <;> (first | done | rfl | omega | (simp; done) | (simp; omega)), hm2, ?_, rfl, hX⟩
    simp only [go_sem, ↓reduceIte, Nat.reduceEqDiff, Nat.reduceAdd, reduceCtorEq, CCT, CCv, CCr, CCk, Nat.reduceBNe, Nat.reduceLeDiff, Nat.reduceLT, beqI, bneI, List.length_map, decide_true, decide_false, Int.reduceEq, Int.reduceLT, Int.reduceLE, Int.reduceGE, Int.reduceGT, not_true_eq_false, not_false_eq_true, Bool.and_true, Bool.true_and, Bool.and_false, Bool.false_and, and_true, true_and, and_self, Bool.not_not, *]
    exact .nil 3 _
end Go.Proofs.Ytjembadjfiohpaa.Va

/- chapter 5: a type, taken -/
namespace Go.Proofs.Ytjembadjfiohpaa.Va
open Go
set_option linter.unusedVariables false
set_option linter.unusedSimpArgs false
set_option maxRecDepth 100000
theorem tI_ok : ∀ (m : Nat) (l : List Int) (a : Int) (acc : List Int), Bytes l → (tI m l a acc).2.2 = 0 → (tI m l a acc).1.length = acc.length + m ∧ ∃ k : Nat, (tI m l a acc).2.1 = a + k ∧ k ≤ l.length ∧ ∀ x ∈ (tI m l a acc).1, x ∈ acc ∨ 0 ≤ x ∧ x ≤ 2147483647
  | 0, l, a, acc, hb, h => ⟨rfl, 0, by simp [tI], Nat.zero_le _, fun x hx => .inl hx⟩
  | m + 1, l, a, acc, hb, h => by
    have hok := takeN_ok hb
    simp only [tI] at h ⊢
    by_cases he : (takeN l).2.2 = 0
    · obtain ⟨h0, h1, n, hn, hn1, hn2, _⟩ := hok he
      rw [if_pos he] at h ⊢
      by_cases hv : (takeN l).1 > 2147483647
      · rw [if_pos hv] at h; cases h
      · rw [if_neg hv, hn, Int.toNat_natCast] at h ⊢
        obtain ⟨g1, k, g2, g3, g4⟩ := tI_ok m (l.drop n) (a + n) (acc ++ [(takeN l).1]) (hb.drop n) h
        rw [List.length_drop] at g3
        refine ⟨by rw [g1]; simp; omega, n + k, by rw [g2]; push_cast; omega, by omega, fun x hx => ?_⟩
        rcases g4 x hx with g | g
        · rcases List.mem_append.1 g with g | g
          · exact .inl g
          · simp only [List.mem_singleton] at g; subst g; exact .inr ⟨h0, by omega⟩
        · exact .inr g
    · rw [if_neg he] at h; exact absurd h he
theorem takeI_ok {l : List Int} (hb : Bytes l) (h : (takeI l).2.2 = 0) : (takeI l).1.length ≤ 1000 ∧ (∃ k : Nat, (takeI l).2.1 = k ∧ k ≤ l.length) ∧ ∀ x ∈ (takeI l).1, 0 ≤ x ∧ x ≤ 2147483647 := by
  have hok := takeN_ok hb
  simp only [takeI] at h ⊢
  by_cases he : (takeN l).2.2 = 0
  · obtain ⟨h0, h1, n, hn, hn1, hn2, _⟩ := hok he
    rw [if_pos he] at h ⊢
    by_cases hv : (takeN l).1 > 1000
    · rw [if_pos hv] at h; cases h
    · rw [if_neg hv, hn, Int.toNat_natCast] at h ⊢
      obtain ⟨g1, k, g2, g3, g4⟩ := tI_ok _ _ _ _ (hb.drop n) h
      rw [List.length_drop] at g3
      refine ⟨by rw [g1]; simp; omega, ⟨n + k, by rw [g2]; push_cast; rfl, by omega⟩, fun x hx => ?_⟩
      rcases g4 x hx with g | g
      · cases g
      · exact g
  · rw [if_neg he] at h; exact absurd h he
theorem takeT_ok {l : List Int} (hb : Bytes l) (h : (takeT l).2.2 = 0) : ∃ k : Nat, (takeT l).2.1 = k ∧ k ≤ l.length ∧ nameB (takeT l).1 = true := by
  have hok := takeN_ok hb
  simp only [takeT] at h ⊢
  by_cases he : (takeN l).2.2 = 0
  · obtain ⟨h0, h1, n, hn, hn1, hn2, _⟩ := hok he
    rw [if_pos he] at h ⊢
    by_cases h16 : (takeN l).1 < 1 ∨ (takeN l).1 > 16
    · rw [if_pos h16] at h; cases h
    rw [if_neg h16] at h ⊢
    by_cases h2 : (l.length : Int) < (takeN l).2.1 + (takeN l).1
    · rw [if_pos h2] at h; cases h
    rw [if_neg h2] at h ⊢
    split at h
    · rename_i hnm
      rw [if_pos hnm]
      refine ⟨n + (takeN l).1.toNat, ?_, by omega, hnm⟩
      rw [hn]; push_cast; omega
    · cases h
  · rw [if_neg he] at h; exact absurd h he
def chunk : List Int → List Fld
  | a :: b :: c :: d :: e :: r => ⟨a, b, c, d, e⟩ :: chunk r
  | _ => []
def fieldsV (fs : List Fld) : AV := if fs = [] then .mt true else .list 41 false (fs.map encF) none
def encP (t : ByteArray × Bool × Bool × List Fld) : AV := .agg 32 [.str t.1, .bool t.2.1, .bool t.2.2.1, fieldsV t.2.2.2]
def noT : ByteArray × Bool × Bool × List Fld := (ByteArray.empty, false, false, [])
def oneS (l : List Int) : (ByteArray × Bool × Bool × List Fld) × Int × Int :=
  let p := takeT l
  if p.2.2 = 0 then
    let q := takeI (l.drop p.2.1.toNat)
    if q.2.2 = 0 then
      if q.1.length % 5 ≠ 1 ∨ 3 < at0 q.1 0 then (noT, 0, 3)
      else ((p.1, decide (at0 q.1 0 % 2 = 1), decide (1 < at0 q.1 0), chunk q.1.tail), p.2.1 + q.2.1, 0)
    else (noT, 0, q.2.2)
  else (noT, 0, p.2.2)
theorem and1 {x : Int} (h0 : 0 ≤ x) (h3 : x ≤ 3) : aBin T .and 3 (.int .i64 x) (.int .i64 1) = some (.int .i64 (x % 2)) := by
  have : x = 0 ∨ x = 1 ∨ x = 2 ∨ x = 3 := by omega
  rcases this with rfl | rfl | rfl | rfl
  all_goals
    clear h0 h3
    show _ = _
    kernel_rfl
theorem and2 {x : Int} (h0 : 0 ≤ x) (h3 : x ≤ 3) : aBin T .and 3 (.int .i64 x) (.int .i64 2) = some (.int .i64 (if 1 < x then 2 else 0)) := by
  have : x = 0 ∨ x = 1 ∨ x = 2 ∨ x = 3 := by omega
  rcases this with rfl | rfl | rfl | rfl
  all_goals
    clear h0 h3
    show _ = _
    kernel_rfl
theorem one_c (d : Nat) (b : Bool) (l : List Int) (hb : Bytes l) (hl : l.length ≤ 9223372036854775807) : evalF Try.prog CC (d + 4) 35 [.list 5 b (bytesI l) none] St.empty = some (.tup [encP (oneS l).1, .int .i64 (oneS l).2.1, .int .i64 (oneS l).2.2], St.empty) := by
  generalize hX : some ((.tup [encP (oneS l).1, .int .i64 (oneS l).2.1, .int .i64 (oneS l).2.2], St.empty) : AV × St) = X
  have hil : (bytesI l).length = l.length := by simp [bytesI]
  have hn := fun d => TakeText_c d b l hb hl
  have hok := takeT_ok hb
  unfold oneS at hX
  simp only at hX
  generalize takeT l = p at hn hX hok
  obtain ⟨s, n, e⟩ := p
  simp only [encTk] at hn hX hok
  refine wp_eq ?_
  rw [run_35 _ _ _ (by simp)]; unfold Try.f35; simp only [Option.getD_some]
  simp only [go_sem, ↓reduceIte, Nat.reduceEqDiff, Nat.reduceAdd, reduceCtorEq, CCT, CCv, CCr, CCk, Nat.reduceBNe, Nat.reduceLeDiff, Nat.reduceLT, beqI, bneI, List.length_map, decide_true, decide_false, Int.reduceEq, Int.reduceLT, Int.reduceLE, Int.reduceGE, Int.reduceGT, not_true_eq_false, not_false_eq_true, Bool.and_true, Bool.true_and, Bool.and_false, Bool.false_and, and_true, true_and, and_self, Bool.not_not, hn, hil]
  by_cases he : e = 0
  case neg =>
    rw [if_neg he] at hX
    simp only [go_sem, ↓reduceIte, Nat.reduceEqDiff, Nat.reduceAdd, reduceCtorEq, CCT, CCv, CCr, CCk, Nat.reduceBNe, Nat.reduceLeDiff, Nat.reduceLT, beqI, bneI, List.length_map, decide_true, decide_false, Int.reduceEq, Int.reduceLT, Int.reduceLE, Int.reduceGE, Int.reduceGT, not_true_eq_false, not_false_eq_true, Bool.and_true, Bool.true_and, Bool.and_false, Bool.false_and, and_true, true_and, and_self, Bool.not_not, hn, hil, he]
    exact hX
  subst he
  obtain ⟨m, rfl, hm, hnm⟩ := hok rfl
  rw [if_pos rfl, Int.toNat_natCast] at hX
  simp only [go_sem, ↓reduceIte, Nat.reduceEqDiff, Nat.reduceAdd, reduceCtorEq, CCT, CCv, CCr, CCk, Nat.reduceBNe, Nat.reduceLeDiff, Nat.reduceLT, beqI, bneI, List.length_map, decide_true, decide_false, Int.reduceEq, Int.reduceLT, Int.reduceLE, Int.reduceGE, Int.reduceGT, not_true_eq_false, not_false_eq_true, Bool.and_true, Bool.true_and, Bool.and_false, Bool.false_and, and_true, true_and, and_self, Bool.not_not, hn, hil]
  refine W.slice_lo (l := l) (g := AV.int .u8) (e := 5) ty_43 (by omega) (by omega) ?_
  rw [Int.toNat_natCast]
  have hn2 := TakeInts_c (d + 1) b (l.drop m) (hb.drop m) (by rw [List.length_drop]; omega)
  have hok2 := takeI_ok (hb.drop m)
  generalize takeI (l.drop m) = q at hn2 hX hok2
  obtain ⟨xs, n2, e2⟩ := q
  simp only [bytesI, encI] at hn2
  simp only at hX hok2
  rw [List.length_drop] at hok2
  simp only [go_sem, ↓reduceIte, Nat.reduceEqDiff, Nat.reduceAdd, reduceCtorEq, CCT, CCv, CCr, CCk, Nat.reduceBNe, Nat.reduceLeDiff, Nat.reduceLT, beqI, bneI, List.length_map, decide_true, decide_false, Int.reduceEq, Int.reduceLT, Int.reduceLE, Int.reduceGE, Int.reduceGT, not_true_eq_false, not_false_eq_true, Bool.and_true, Bool.true_and, Bool.and_false, Bool.false_and, and_true, true_and, and_self, Bool.not_not, hil]
  refine W.call_gw_tup (xs := intsA xs) (vs := [.int .i64 n2, .int .i64 e2]) hn2 rfl rfl ?_
  intro v σ kk hg hσ
  have hob0 : σ.obj 0 = some (.cells 32 [.agg 32 [.str ByteArray.empty, .bool false, .bool false, .mt true]]) := by
    rcases hσ with ⟨rfl, _⟩ | ⟨rfl, _⟩ <;> rfl
  have hnx : σ.next = 1 := by
    rcases hσ with ⟨rfl, _⟩ | ⟨rfl, _⟩ <;> rfl
  clear hσ
  simp only [go_sem, ↓reduceIte, Nat.reduceEqDiff, Nat.reduceAdd, reduceCtorEq, CCT, CCv, CCr, CCk, Nat.reduceBNe, Nat.reduceLeDiff, Nat.reduceLT, beqI, bneI, List.length_map, decide_true, decide_false, Int.reduceEq, Int.reduceLT, Int.reduceLE, Int.reduceGE, Int.reduceGT, not_true_eq_false, not_false_eq_true, Bool.and_true, Bool.true_and, Bool.and_false, Bool.false_and, and_true, true_and, and_self, Bool.not_not, hil, hob0]
  by_cases he2 : e2 = 0
  case neg =>
    rw [if_neg he2] at hX
    simp only [go_sem, ↓reduceIte, Nat.reduceEqDiff, Nat.reduceAdd, reduceCtorEq, CCT, CCv, CCr, CCk, Nat.reduceBNe, Nat.reduceLeDiff, Nat.reduceLT, beqI, bneI, List.length_map, decide_true, decide_false, Int.reduceEq, Int.reduceLT, Int.reduceLE, Int.reduceGE, Int.reduceGT, not_true_eq_false, not_false_eq_true, Bool.and_true, Bool.true_and, Bool.and_false, Bool.false_and, and_true, true_and, and_self, Bool.not_not, hil, he2, hob0]
    exact hX
  subst he2
  obtain ⟨hl1000, ⟨m2, rfl, hm2⟩, hall⟩ := hok2 rfl
  rw [if_pos rfl] at hX
  simp only [go_sem, ↓reduceIte, Nat.reduceEqDiff, Nat.reduceAdd, reduceCtorEq, CCT, CCv, CCr, CCk, Nat.reduceBNe, Nat.reduceLeDiff, Nat.reduceLT, beqI, bneI, List.length_map, decide_true, decide_false, Int.reduceEq, Int.reduceLT, Int.reduceLE, Int.reduceGE, Int.reduceGT, not_true_eq_false, not_false_eq_true, Bool.and_true, Bool.true_and, Bool.and_false, Bool.false_and, and_true, true_and, and_self, Bool.not_not, hil, hob0]
  refine W.gw_len hg ty_33 ?_
  have hil2 : (intsA xs).length = xs.length := by simp [intsA]
  have hrem : (xs.length : Int).tmod 5 = ((xs.length % 5 : Nat) : Int) := by rw [Int.tmod_eq_emod_of_nonneg (by omega)]; omega
  by_cases h5 : xs.length % 5 = 1
  case neg =>
    rw [if_pos (.inl h5)] at hX
    have h5' := eq_false (show ¬ ((xs.length % 5 : Nat) : Int) = 1 by omega)
    simp only [go_sem, ↓reduceIte, Nat.reduceEqDiff, Nat.reduceAdd, reduceCtorEq, CCT, CCv, CCr, CCk, Nat.reduceBNe, Nat.reduceLeDiff, Nat.reduceLT, beqI, bneI, List.length_map, decide_true, decide_false, Int.reduceEq, Int.reduceLT, Int.reduceLE, Int.reduceGE, Int.reduceGT, not_true_eq_false, not_false_eq_true, Bool.and_true, Bool.true_and, Bool.and_false, Bool.false_and, and_true, true_and, and_self, Bool.not_not, hil, hob0, hil2, hrem, h5']
    exact hX
  have h5' := eq_true (show ((xs.length % 5 : Nat) : Int) = 1 by omega)
  have hx0 : 0 < xs.length := by omega
  have hget : (intsA xs)[(0 : Int).toNat]? = some (.int .i64 (at0 xs 0)) := by
    rw [show (0 : Int) = ((0 : Nat) : Int) from rfl, at0_nat hx0]; simp [intsA, hx0]
  obtain ⟨x0, x1⟩ := hall _ (List.getElem_mem hx0)
  rw [← at0_nat hx0] at x0 x1
  rw [show ((0 : Nat) : Int) = 0 from rfl] at x0 x1
  generalize at0 xs 0 = x at hget x0 x1 hX
  simp only [go_sem, ↓reduceIte, Nat.reduceEqDiff, Nat.reduceAdd, reduceCtorEq, CCT, CCv, CCr, CCk, Nat.reduceBNe, Nat.reduceLeDiff, Nat.reduceLT, beqI, bneI, List.length_map, decide_true, decide_false, Int.reduceEq, Int.reduceLT, Int.reduceLE, Int.reduceGE, Int.reduceGT, not_true_eq_false, not_false_eq_true, Bool.and_true, Bool.true_and, Bool.and_false, Bool.false_and, and_true, true_and, and_self, Bool.not_not, hil, hob0, hil2, hrem, h5']
  refine W.gw_idx hg ty_33 (by omega) hget ?_
  by_cases hx3 : x > 3
  · rw [if_pos (.inr hx3)] at hX
    simp only [go_sem, ↓reduceIte, Nat.reduceEqDiff, Nat.reduceAdd, reduceCtorEq, CCT, CCv, CCr, CCk, Nat.reduceBNe, Nat.reduceLeDiff, Nat.reduceLT, beqI, bneI, List.length_map, decide_true, decide_false, Int.reduceEq, Int.reduceLT, Int.reduceLE, Int.reduceGE, Int.reduceGT, not_true_eq_false, not_false_eq_true, Bool.and_true, Bool.true_and, Bool.and_false, Bool.false_and, and_true, true_and, and_self, Bool.not_not, hil, hob0, hx3]
    exact hX
  rw [if_neg (by omega)] at hX
  have ha1 := and1 x0 (by omega)
  have ha2 := and2 x0 (by omega)
  simp only [go_sem, ↓reduceIte, Nat.reduceEqDiff, Nat.reduceAdd, reduceCtorEq, CCT, CCv, CCr, CCk, Nat.reduceBNe, Nat.reduceLeDiff, Nat.reduceLT, beqI, bneI, List.length_map, decide_true, decide_false, Int.reduceEq, Int.reduceLT, Int.reduceLE, Int.reduceGE, Int.reduceGT, not_true_eq_false, not_false_eq_true, Bool.and_true, Bool.true_and, Bool.and_false, Bool.false_and, and_true, true_and, and_self, Bool.not_not, hil, hob0, hx3]
  refine W.br_ok (by kernel_rfl) ?_
  simp only [go_sem, ↓reduceIte, Nat.reduceEqDiff, Nat.reduceAdd, reduceCtorEq, CCT, CCv, CCr, CCk, Nat.reduceBNe, Nat.reduceLeDiff, Nat.reduceLT, beqI, bneI, List.length_map, decide_true, decide_false, Int.reduceEq, Int.reduceLT, Int.reduceLE, Int.reduceGE, Int.reduceGT, not_true_eq_false, not_false_eq_true, Bool.and_true, Bool.true_and, Bool.and_false, Bool.false_and, and_true, true_and, and_self, Bool.not_not, hil, hob0, hx3]
  refine W.gw_idx hg ty_33 (by omega) hget ?_
  simp only [go_sem, ↓reduceIte, Nat.reduceEqDiff, Nat.reduceAdd, reduceCtorEq, CCT, CCv, CCr, CCk, Nat.reduceBNe, Nat.reduceLeDiff, Nat.reduceLT, beqI, bneI, List.length_map, decide_true, decide_false, Int.reduceEq, Int.reduceLT, Int.reduceLE, Int.reduceGE, Int.reduceGT, not_true_eq_false, not_false_eq_true, Bool.and_true, Bool.true_and, Bool.and_false, Bool.false_and, and_true, true_and, and_self, Bool.not_not, hil, hob0, hx3, ha1]
  refine W.gw_idx hg ty_33 (by omega) hget ?_
  simp only [go_sem, ↓reduceIte, Nat.reduceEqDiff, Nat.reduceAdd, reduceCtorEq, CCT, CCv, CCr, CCk, Nat.reduceBNe, Nat.reduceLeDiff, Nat.reduceLT, beqI, bneI, List.length_map, decide_true, decide_false, Int.reduceEq, Int.reduceLT, Int.reduceLE, Int.reduceGE, Int.reduceGT, not_true_eq_false, not_false_eq_true, Bool.and_true, Bool.true_and, Bool.and_false, Bool.false_and, and_true, true_and, and_self, Bool.not_not, hil, hob0, hx3, ha1, ha2, hnx]
  obtain ⟨tt, hv⟩ := Gf.list (.inl hg) (by intro h; have := congrArg List.length h; simp only [intsA, List.length_map, List.length_nil] at this; omega)
  subst hv
  refine W.slice_lo (l := xs) (g := AV.int .i64) (e := 3) ty_33 (by omega) (by omega) ?_
  simp only [go_sem, ↓reduceIte, Nat.reduceEqDiff, Nat.reduceAdd, reduceCtorEq, CCT, CCv, CCr, CCk, Nat.reduceBNe, Nat.reduceLeDiff, Nat.reduceLT, beqI, bneI, List.length_map, decide_true, decide_false, Int.reduceEq, Int.reduceLT, Int.reduceLE, Int.reduceGE, Int.reduceGT, not_true_eq_false, not_false_eq_true, Bool.and_true, Bool.true_and, Bool.and_false, Bool.false_and, and_true, true_and, and_self, Bool.not_not, hil, hob0, hx3, ha1, ha2, hnx]
  have hbv : decide (x % 2 = 1) = !decide (x % 2 = 0) := by
    by_cases h : x % 2 = 0
    · simp [h]
    · simp [h]; omega
  have hbr : decide (1 < x) = !decide ((if 1 < x then (2 : Int) else 0) = 0) := by
    by_cases h : 1 < x <;> simp [h]
  rw [hbv, hbr] at hX
  generalize (!decide (x % 2 = 0)) = bv at hX ⊢
  generalize (!decide ((if 1 < x then (2 : Int) else 0) = 0)) = br' at hX ⊢
  obtain ⟨N, hN⟩ : ∃ N, xs.length = 5 * N + 1 := ⟨xs.length / 5, by omega⟩
  have htail : xs.drop (Int.toNat 1) = xs.tail := by cases xs <;> rfl
  rw [htail]
  have htl : xs.tail.length = 5 * N := by rw [List.length_tail]; omega
  refine W.iter_rule (fun k ρ s' => ρ 2 = .ptr 32 0 [0] ∧ ρ 6 = .int .i64 m ∧ ρ 9 = .int .i64 m2 ∧ ρ 10 = .ptr 32 1 [0] ∧ (∃ u, s'.obj 0 = some (.cells 32 [u])) ∧ ∃ (rest : List Int) (acc : List Fld) (F : AV) (kk : Option Nat), ρ 8 = .list 3 false (rest.map (AV.int .i64)) none ∧ rest.length = 5 * (N - k) ∧ acc.length = k ∧ acc ++ chunk rest = chunk xs.tail ∧ s'.obj 1 = some (.cells 32 [.agg 32 [.str s, .bool bv, .bool br', F]]) ∧ Gw 41 (acc.map encF) s' F kk) N ?_ ?_ _ 0 _ _ (Nat.zero_le _) ?_ ?_
  · rintro k ρ s' hk ⟨h2, h6, h9, h10, ⟨u, hob0⟩, rest, acc, F, kk, h8, hrl, hal, hch, hob1, hg⟩ K hK hx hr
    obtain ⟨a, b', c, d', e, r, rfl⟩ : ∃ a b' c d' e r, rest = a :: b' :: c :: d' :: e :: r := by
      match rest, hrl with
      | a :: b' :: c :: d' :: e :: r, _ => exact ⟨a, b', c, d', e, r, rfl⟩
      | [], h => simp at h; omega
      | [_], h => simp at h; omega
      | [_, _], h => simp at h; omega
      | [_, _, _], h => simp at h; omega
      | [_, _, _, _], h => simp at h; omega
    have hrl2 : r.length + 5 = 5 * (N - k) := by simpa using hrl
    have hgt : (((a :: b' :: c :: d' :: e :: r).length : Nat) : Int) > 0 := by simp; omega
    have hix : ∀ j : Int, 0 ≤ j → j < 5 → idxOk j (a :: b' :: c :: d' :: e :: r).length = true := fun j hj hj2 => by simp [idxOk]; omega
    have i0 := hix 0 (by decide) (by decide)
    have i1 := hix 1 (by decide) (by decide)
    have i2 := hix 2 (by decide) (by decide)
    have i3 := hix 3 (by decide) (by decide)
    have i4 := hix 4 (by decide) (by decide)
    have g0 : ((a :: b' :: c :: d' :: e :: r).map (AV.int .i64))[Int.toNat 0]? = some (.int .i64 a) := rfl
    have g1 : ((a :: b' :: c :: d' :: e :: r).map (AV.int .i64))[Int.toNat 1]? = some (.int .i64 b') := rfl
    have g2 : ((a :: b' :: c :: d' :: e :: r).map (AV.int .i64))[Int.toNat 2]? = some (.int .i64 c) := rfl
    have g3 : ((a :: b' :: c :: d' :: e :: r).map (AV.int .i64))[Int.toNat 3]? = some (.int .i64 d') := rfl
    have g4 : ((a :: b' :: c :: d' :: e :: r).map (AV.int .i64))[Int.toNat 4]? = some (.int .i64 e) := rfl
    have hdrop : (a :: b' :: c :: d' :: e :: r).drop (Int.toNat 5) = r := rfl
    have hchr : chunk (a :: b' :: c :: d' :: e :: r) = ⟨a, b', c, d', e⟩ :: chunk r := by rw [chunk]
    rw [hchr] at hch
    generalize hrest : a :: b' :: c :: d' :: e :: r = rest at *
    simp only [go_sem, ↓reduceIte, Nat.reduceEqDiff, Nat.reduceAdd, reduceCtorEq, CCT, CCv, CCr, CCk, Nat.reduceBNe, Nat.reduceLeDiff, Nat.reduceLT, beqI, bneI, List.length_map, decide_true, decide_false, Int.reduceEq, Int.reduceLT, Int.reduceLE, Int.reduceGE, Int.reduceGT, not_true_eq_false, not_false_eq_true, Bool.and_true, Bool.true_and, Bool.and_false, Bool.false_and, and_true, true_and, and_self, Bool.not_not, h2, h6, h9, h10, h8, hgt]
    refine W.br_ok (by kernel_rfl) ?_
    simp only [go_sem, ↓reduceIte, Nat.reduceEqDiff, Nat.reduceAdd, reduceCtorEq, CCT, CCv, CCr, CCk, Nat.reduceBNe, Nat.reduceLeDiff, Nat.reduceLT, beqI, bneI, List.length_map, decide_true, decide_false, Int.reduceEq, Int.reduceLT, Int.reduceLE, Int.reduceGE, Int.reduceGT, not_true_eq_false, not_false_eq_true, Bool.and_true, Bool.true_and, Bool.and_false, Bool.false_and, and_true, true_and, and_self, Bool.not_not, h2, h6, h9, h10, h8, hob1, i0, i1, i2, i3, i4, g0, g1, g2, g3, g4]
    refine W.gw_app (T := T) (t := 30) hg (ys := [encF ⟨a, b', c, d', e⟩]) (by simp) rfl ?_ ?_ ?_
    · simp only [go_sem, ↓reduceIte, Nat.reduceEqDiff, Nat.reduceAdd, reduceCtorEq, CCT, CCv, CCr, CCk, Nat.reduceBNe, Nat.reduceLeDiff, Nat.reduceLT, beqI, bneI, List.length_map, decide_true, decide_false, Int.reduceEq, Int.reduceLT, Int.reduceLE, Int.reduceGE, Int.reduceGT, not_true_eq_false, not_false_eq_true, Bool.and_true, Bool.true_and, Bool.and_false, Bool.false_and, and_true, true_and, and_self, Bool.not_not, h2, h6, h9, h10, h8, hob1, i0, i1, i2, i3, i4, g0, g1, g2, g3, g4, encF]
    · refine roomy_of ?_ (by decide)
      simp only [List.length_map, List.length_singleton]
      omega
    simp only [go_sem, ↓reduceIte, Nat.reduceEqDiff, Nat.reduceAdd, reduceCtorEq, CCT, CCv, CCr, CCk, Nat.reduceBNe, Nat.reduceLeDiff, Nat.reduceLT, beqI, bneI, List.length_map, decide_true, decide_false, Int.reduceEq, Int.reduceLT, Int.reduceLE, Int.reduceGE, Int.reduceGT, not_true_eq_false, not_false_eq_true, Bool.and_true, Bool.true_and, Bool.and_false, Bool.false_and, and_true, true_and, and_self, Bool.not_not, h2, h6, h9, h10, h8, hob1]
    refine W.slice_lo (l := rest) (g := AV.int .i64) (e := 3) ty_33 (by omega) (by omega) ?_
    rw [hdrop]
    simp only [go_sem, ↓reduceIte, Nat.reduceEqDiff, Nat.reduceAdd, reduceCtorEq, CCT, CCv, CCr, CCk, Nat.reduceBNe, Nat.reduceLeDiff, Nat.reduceLT, beqI, bneI, List.length_map, decide_true, decide_false, Int.reduceEq, Int.reduceLT, Int.reduceLE, Int.reduceGE, Int.reduceGT, not_true_eq_false, not_false_eq_true, Bool.and_true, Bool.true_and, Bool.and_false, Bool.false_and, and_true, true_and, and_self, Bool.not_not, h2, h6, h9, h10, h8, hob1]
    refine hK _ _ ?_
    refine ⟨by (try simp only [go_sem, ↓reduceIte, Nat.reduceEqDiff, Nat.reduceAdd, reduceCtorEq, CCT, CCv, CCr, CCk, Nat.reduceBNe, Nat.reduceLeDiff, Nat.reduceLT, beqI, bneI, List.length_map, decide_true, decide_false, Int.reduceEq, Int.reduceLT, Int.reduceLE, Int.reduceGE, Int.reduceGT, not_true_eq_false, not_false_eq_true, Bool.and_true, Bool.true_and, Bool.and_false, Bool.false_and, and_true, true_and, and_self, Bool.not_not, Int.toNat_natCast, List.length_take, *]) <;> (first | done | rfl | omega | (simp; done) | (simp; omega)), by (try simp only [go_sem, ↓reduceIte, Nat.reduceEqDiff, Nat.reduceAdd, reduceCtorEq, CCT, CCv, CCr, CCk, Nat.reduceBNe, Nat.reduceLeDiff, Nat.reduceLT, beqI, bneI, List.length_map, decide_true, decide_false, Int.reduceEq, Int.reduceLT, Int.reduceLE, Int.reduceGE, Int.reduceGT, not_true_eq_false, not_false_eq_true, Bool.and_true, Bool.true_and, Bool.and_false, Bool.false_and, and_true, true_and, and_self, Bool.not_not, Int.toNat_natCast, List.length_take, *]) <;> (first | done | rfl | omega | (simp; done) | (simp; omega)), by (try simp only [go_sem, ↓reduceIte, Nat.reduceEqDiff, Nat.reduceAdd, reduceCtorEq, CCT, CCv, CCr, CCk, Nat.reduceBNe, Nat.reduceLeDiff, Nat.reduceLT, beqI, bneI, List.length_map, decide_true, decide_false, Int.reduceEq, Int.reduceLT, Int.reduceLE, Int.reduceGE, Int.reduceGT, not_true_eq_false, not_false_eq_true, Bool.and_true, Bool.true_and, Bool.and_false, Bool.false_and, and_true, true_and, and_self, Bool.not_not, Int.toNat_natCast, List.length_take, *]) <;> (first | done | rfl | omega | (simp; done) | (simp; omega)), by (try simp only [go_sem, ↓reduceIte, Nat.reduceEqDiff, Nat.reduceAdd, reduceCtorEq, CCT, CCv, CCr, CCk, Nat.reduceBNe, Nat.reduceLeDiff, Nat.reduceLT, beqI, bneI, List.length_map, decide_true, decide_false, Int.reduceEq, Int.reduceLT, Int.reduceLE, Int.reduceGE, Int.reduceGT, not_true_eq_false, not_false_eq_true, Bool.and_true, Bool.true_and, Bool.and_false, Bool.false_and, and_true, true_and, and_self, Bool.not_not, Int.toNat_natCast, List.length_take, *]) <;> (first | done | rfl | omega | (simp; done) | (simp; omega)), ⟨u, by (try simp only [go_sem, ↓reduceIte, Nat.reduceEqDiff, Nat.reduceAdd, reduceCtorEq, CCT, CCv, CCr, CCk, Nat.reduceBNe, Nat.reduceLeDiff, Nat.reduceLT, beqI, bneI, List.length_map, decide_true, decide_false, Int.reduceEq, Int.reduceLT, Int.reduceLE, Int.reduceGE, Int.reduceGT, not_true_eq_false, not_false_eq_true, Bool.and_true, Bool.true_and, Bool.and_false, Bool.false_and, and_true, true_and, and_self, Bool.not_not, Int.toNat_natCast, List.length_take, *]) <;> (first | done | rfl | omega | (simp; done) | (simp; omega))⟩, r, acc ++ [⟨a, b', c, d', e⟩], .list 41 false (acc.map encF ++ [encF ⟨a, b', c, d', e⟩]) (some (s'.ntok + 1)), some s'.ntok, by (try simp only [go_sem, ↓reduceIte, Nat.reduceEqDiff, Nat.reduceAdd, reduceCtorEq, CCT, CCv, CCr, CCk, Nat.reduceBNe, Nat.reduceLeDiff, Nat.reduceLT, beqI, bneI, List.length_map, decide_true, decide_false, Int.reduceEq, Int.reduceLT, Int.reduceLE, Int.reduceGE, Int.reduceGT, not_true_eq_false, not_false_eq_true, Bool.and_true, Bool.true_and, Bool.and_false, Bool.false_and, and_true, true_and, and_self, Bool.not_not, Int.toNat_natCast, List.length_take, *]) <;> (first | done | rfl | omega | (simp; done) | (simp; omega)), by omega, by simp [hal], by rw [List.append_assoc]; exact hch, by (try simp only [go_sem, ↓reduceIte, Nat.reduceEqDiff, Nat.reduceAdd, reduceCtorEq, CCT, CCv, CCr, CCk, Nat.reduceBNe, Nat.reduceLeDiff, Nat.reduceLT, beqI, bneI, List.length_map, decide_true, decide_false, Int.reduceEq, Int.reduceLT, Int.reduceLE, Int.reduceGE, Int.reduceGT, not_true_eq_false, not_false_eq_true, Bool.and_true, Bool.true_and, Bool.and_false, Bool.false_and, and_true, true_and, and_self, Bool.not_not, Int.toNat_natCast, List.length_take, *]) <;> (first | done | rfl | omega | (simp; done) | (simp; omega)), ?_⟩
    rw [List.map_append]
    exact Gw.same (.new (by simp)) (fun _ => rfl) rfl
  · rintro ρ s' ⟨h2, h6, h9, h10, ⟨u, hob0⟩, rest, acc, F, kk, h8, hrl, hal, hch, hob1, hg⟩ K hx hr
    rw [Nat.sub_self, Nat.mul_zero] at hrl
    have hr0 : rest = [] := List.length_eq_zero_iff.1 hrl
    subst hr0
    have hch : acc = chunk xs.tail := by simpa [chunk] using hch
    subst hch
    have e3 : IntKind.i64.wrap ((m : Int) + m2) = (m : Int) + m2 := by rw [IntKind.wrap_i64]; omega
    simp only [go_sem, ↓reduceIte, Nat.reduceEqDiff, Nat.reduceAdd, reduceCtorEq, CCT, CCv, CCr, CCk, Nat.reduceBNe, Nat.reduceLeDiff, Nat.reduceLT, beqI, bneI, List.length_map, decide_true, decide_false, Int.reduceEq, Int.reduceLT, Int.reduceLE, Int.reduceGE, Int.reduceGT, not_true_eq_false, not_false_eq_true, Bool.and_true, Bool.true_and, Bool.and_false, Bool.false_and, and_true, true_and, and_self, Bool.not_not, hx, h2, h6, h9, h10, h8, hob1, hob0, e3, List.map_nil, List.length_nil, show ¬ ((0 : Nat) : Int) > 0 by decide]
    rw [gw_freeze (σ := s'.set 0 (AObj.cells 32 [AV.agg 32 [AV.str s, AV.bool bv, AV.bool br', F]])) (Gw.same hg (fun _ => rfl) rfl)]
    have hfz : frz 41 ((chunk xs.tail).map encF) = fieldsV (chunk xs.tail) := by
      unfold frz fieldsV
      simp only [List.map_eq_nil_iff]
    rw [hfz]
    simp only [Option.map_some, bnd_some]
    exact hX
  · show N < 0 + 9223372036854775900
    omega
  · refine ⟨by (try simp only [go_sem, ↓reduceIte, Nat.reduceEqDiff, Nat.reduceAdd, reduceCtorEq, CCT, CCv, CCr, CCk, Nat.reduceBNe, Nat.reduceLeDiff, Nat.reduceLT, beqI, bneI, List.length_map, decide_true, decide_false, Int.reduceEq, Int.reduceLT, Int.reduceLE, Int.reduceGE, Int.reduceGT, not_true_eq_false, not_false_eq_true, Bool.and_true, Bool.true_and, Bool.and_false, Bool.false_and, and_true, true_and, and_self, Bool.not_not, Int.toNat_natCast, List.length_take, *]) <;> (first | done | rfl | omega | (simp; done) | (simp; omega)), by (try simp only [go_sem, ↓reduceIte, Nat.reduceEqDiff, Nat.reduceAdd, reduceCtorEq, CCT, CCv, CCr, CCk, Nat.reduceBNe, Nat.reduceLeDiff, Nat.reduceLT, beqI, bneI, List.length_map, decide_true, decide_false, Int.reduceEq, Int.reduceLT, Int.reduceLE, Int.reduceGE, Int.reduceGT, not_true_eq_false, not_false_eq_true, Bool.and_true, Bool.true_and, Bool.and_false, Bool.false_and, and_true, true_and, and_self, Bool.not_not, Int.toNat_natCast, List.length_take, *]) <;> (first | done | rfl | omega | (simp; done) | (simp; omega)), by (try simp only [go_sem, ↓reduceIte, Nat.reduceEqDiff, Nat.reduceAdd, reduceCtorEq, CCT, CCv, CCr, CCk, Nat.reduceBNe, Nat.reduceLeDiff, Nat.reduceLT, beqI, bneI, List.length_map, decide_true, decide_false, Int.reduceEq, Int.reduceLT, Int.reduceLE, Int.reduceGE, Int.reduceGT, not_true_eq_false, not_false_eq_true, Bool.and_true, Bool.true_and, Bool.and_false, Bool.false_and, and_true, true_and, and_self, Bool.not_not, Int.toNat_natCast, List.length_take, *]) <;> (first | done | rfl | omega | (simp; done) | (simp; omega)), by (try simp only [go_sem, ↓reduceIte, Nat.reduceEqDiff, Nat.reduceAdd, reduceCtorEq, CCT, CCv, CCr, CCk, Nat.reduceBNe, Nat.reduceLeDiff, Nat.reduceLT, beqI, bneI, List.length_map, decide_true, decide_false, Int.reduceEq, Int.reduceLT, Int.reduceLE, Int.reduceGE, Int.reduceGT, not_true_eq_false, not_false_eq_true, Bool.and_true, Bool.true_and, Bool.and_false, Bool.false_and, and_true, true_and, and_self, Bool.not_not, Int.toNat_natCast, List.length_take, *]) <;> (first | done | rfl | omega | (simp; done) | (simp; omega)), ⟨.agg 32 [.str ByteArray.empty, .bool false, .bool false, .mt true], ?_⟩, xs.tail, [], .mt true, none, by (try simp only [go_sem, ↓reduceIte, Nat.reduceEqDiff, Nat.reduceAdd, reduceCtorEq, CCT, CCv, CCr, CCk, Nat.reduceBNe, Nat.reduceLeDiff, Nat.reduceLT, beqI, bneI, List.length_map, decide_true, decide_false, Int.reduceEq, Int.reduceLT, Int.reduceLE, Int.reduceGE, Int.reduceGT, not_true_eq_false, not_false_eq_true, Bool.and_true, Bool.true_and, Bool.and_false, Bool.false_and, and_true, true_and, and_self, Bool.not_not, Int.toNat_natCast, List.length_take, *]) <;> (first | done | rfl | omega | (simp; done) | (simp; omega)), by rw [htl]; omega, rfl, rfl, ?_, ?_⟩
    · simp only [go_sem, ↓reduceIte, Nat.reduceEqDiff, Nat.reduceAdd, reduceCtorEq, CCT, CCv, CCr, CCk, Nat.reduceBNe, Nat.reduceLeDiff, Nat.reduceLT, beqI, bneI, List.length_map, decide_true, decide_false, Int.reduceEq, Int.reduceLT, Int.reduceLE, Int.reduceGE, Int.reduceGT, not_true_eq_false, not_false_eq_true, Bool.and_true, Bool.true_and, Bool.and_false, Bool.false_and, and_true, true_and, and_self, Bool.not_not, hnx, hob0]
    · simp only [go_sem, ↓reduceIte, Nat.reduceEqDiff, Nat.reduceAdd, reduceCtorEq, CCT, CCv, CCr, CCk, Nat.reduceBNe, Nat.reduceLeDiff, Nat.reduceLT, beqI, bneI, List.length_map, decide_true, decide_false, Int.reduceEq, Int.reduceLT, Int.reduceLE, Int.reduceGE, Int.reduceGT, not_true_eq_false, not_false_eq_true, Bool.and_true, Bool.true_and, Bool.and_false, Bool.false_and, and_true, true_and, and_self, Bool.not_not, hnx]
    · exact .nil 41 _
end Go.Proofs.Ytjembadjfiohpaa.Va

/- chapter 5: types.Parse -/
namespace Go.Proofs.Ytjembadjfiohpaa.Va
open Go
set_option linter.unusedVariables false
set_option linter.unusedSimpArgs false
set_option maxRecDepth 100000
def toTyp (t : ByteArray × Bool × Bool × List Fld) : Typ := ⟨t.1, t.2.1, t.2.2.1, decide (t.2.2.2 = []), t.2.2.2⟩
theorem norm_typ (t : ByteArray × Bool × Bool × List Fld) : normT T 32 (encP t) = encTy (toTyp t) := by
  obtain ⟨s, v, r, fs⟩ := t
  cases fs with
  | nil => simp [encP, fieldsV, normT, normL, ty_32, ty_9, ty_4, ty_30, Tab.comps, encTy, toTyp]
  | cons f fs => simp [encP, fieldsV, normT, normL, ty_32, ty_9, ty_4, ty_30, Tab.comps, encTy, toTyp, fullT]
def pT : Nat → List Int → Int → List Typ → List Typ × Int × Int
  | 0, _, at', acc => (acc, at', 0)
  | m + 1, l, at', acc =>
    let p := oneS l
    if p.2.2 = 0 then pT m (l.drop p.2.1.toNat) (at' + p.2.1) (acc ++ [toTyp p.1]) else ([], 0, p.2.2)
noncomputable def parseS (l : List Int) : List Typ × Int × Int :=
  let p := takeN l
  if p.2.2 = 0 then
    if p.1 > 32 then ([], 0, 11)
    else
      let q := pT p.1.toNat (l.drop p.2.1.toNat) p.2.1 []
      if q.2.2 = 0 then (if (checkAll q.1).2 = 0 then q else ([], 0, (checkAll q.1).2)) else q
  else ([], 0, p.2.2)
def encPs (p : List Typ × Int × Int) : AV × St := (.tup [growR 32 (p.1.map encTy), .int .i64 p.2.1, .int .i64 p.2.2], valSt (growR 32 (p.1.map encTy)))
theorem oneS_ok {l : List Int} (hb : Bytes l) (h : (oneS l).2.2 = 0) : ∃ k : Nat, (oneS l).2.1 = k ∧ k ≤ l.length := by
  have hok := takeT_ok hb
  simp only [oneS] at h ⊢
  by_cases he : (takeT l).2.2 = 0
  · obtain ⟨m, hm, hm2, _⟩ := hok he
    have hok2 := takeI_ok (hb.drop m)
    rw [if_pos he, hm, Int.toNat_natCast] at h ⊢
    by_cases he2 : (takeI (l.drop m)).2.2 = 0
    · obtain ⟨_, ⟨k, hk, hk2⟩, _⟩ := hok2 he2
      rw [if_pos he2] at h ⊢
      split at h
      · cases h
      · rename_i hc
        rw [if_neg hc, hk]
        rw [List.length_drop] at hk2
        exact ⟨m + k, by push_cast; rfl, by omega⟩
    · rw [if_neg he2] at h; exact absurd h he2
  · rw [if_neg he] at h; exact absurd h he
theorem pure_fields (fs : List Fld) : pure1 (fieldsV fs) = true := by
  cases fs with
  | nil => rfl
  | cons f fs => simp [fieldsV, pure1, fullT]
theorem call_agg {R : Type} {P : Option R → Prop} {X : Option (AV × St)} {σ s : St} {ids : List Nat} {t : TypeId} {us vs : List AV} {k : AV → St → Option R} (hc : X = some (.tup (.agg t us :: vs), s)) (hp : pure1 (.agg t us) = true) (hvs : pureL vs = true) (hids : ids = []) (h : Wp P (k (.tup (.agg t us :: vs)) σ)) :
    Wp P (@bnd2 R X ⟨fun v s => @br R (noMem v) ⟨k v σ⟩ ⟨@br R false ⟨none⟩ ⟨@bnd2 R (retok s (killAll σ ids) v) ⟨k⟩⟩⟩⟩) := by
  subst hc
  subst hids
  have hr : retok s (killAll σ []) (.tup (.agg t us :: vs)) = some (.tup (.agg t us :: vs), σ) := by
    simp only [retok, hvs, if_true, retok1, hp, Option.map_some, kill_nil]
  show Wp P (@br R (noMem (.tup (.agg t us :: vs))) ⟨k (.tup (.agg t us :: vs)) σ⟩ ⟨@br R false ⟨none⟩ ⟨@bnd2 R (retok s (killAll σ []) (.tup (.agg t us :: vs))) ⟨k⟩⟩⟩)
  rw [hr]
  cases noMem (.tup (.agg t us :: vs))
  · exact h
  · exact h
theorem Check_mt (d : Nat) : evalF Try.prog CC (d + 50) 12 [.mt true] St.empty = some (resC (0, 0)) := by
  show evalF Try.prog CC (d + 50) 12 [.mt true] St.empty = _
  kernel_rfl
theorem pT_len : ∀ (m : Nat) (l : List Int) (a : Int) (acc : List Typ), (pT m l a acc).1.length ≤ acc.length + m
  | 0, l, a, acc => Nat.le_refl _
  | m + 1, l, a, acc => by
    simp only [pT]
    split
    · have := pT_len m (l.drop (oneS l).2.1.toNat) (a + (oneS l).2.1) (acc ++ [toTyp (oneS l).1])
      simp only [List.length_append, List.length_singleton] at this
      omega
    · simp
theorem Parse_c (d : Nat) (b : Bool) (l : List Int) (hb : Bytes l) (hl : l.length ≤ 9223372036854775807) : evalF Try.prog CC (d + 60) 19 [.list 5 b (bytesI l) none] St.empty = some (encPs (parseS l)) := by
  generalize hX : some (encPs (parseS l)) = X
  have hil : (bytesI l).length = l.length := by simp [bytesI]
  have hn := fun d => TakeNumber_c d b l hb hl
  have hok := takeN_ok hb
  unfold parseS at hX
  simp only at hX
  generalize takeN l = p at hn hX hok
  obtain ⟨v, n, e⟩ := p
  simp only [encN] at hn hX hok
  refine wp_eq ?_
  rw [run_19 _ _ _ (by simp)]; unfold Try.f19; simp only [Option.getD_some]
  simp only [go_sem, ↓reduceIte, Nat.reduceEqDiff, Nat.reduceAdd, reduceCtorEq, CCT, CCv, CCr, CCk, Nat.reduceBNe, Nat.reduceLeDiff, Nat.reduceLT, beqI, bneI, List.length_map, decide_true, decide_false, Int.reduceEq, Int.reduceLT, Int.reduceLE, Int.reduceGE, Int.reduceGT, not_true_eq_false, not_false_eq_true, Bool.and_true, Bool.true_and, Bool.and_false, Bool.false_and, and_true, true_and, and_self, Bool.not_not, hn, hil]
  by_cases he : e = 0
  case neg =>
    rw [if_neg he] at hX
    simp only [go_sem, ↓reduceIte, Nat.reduceEqDiff, Nat.reduceAdd, reduceCtorEq, CCT, CCv, CCr, CCk, Nat.reduceBNe, Nat.reduceLeDiff, Nat.reduceLT, beqI, bneI, List.length_map, decide_true, decide_false, Int.reduceEq, Int.reduceLT, Int.reduceLE, Int.reduceGE, Int.reduceGT, not_true_eq_false, not_false_eq_true, Bool.and_true, Bool.true_and, Bool.and_false, Bool.false_and, and_true, true_and, and_self, Bool.not_not, hn, hil, he]
    exact hX
  subst he
  obtain ⟨hv0, hv1, m, rfl, hm1, hm2, hm3⟩ := hok rfl
  rw [if_pos rfl] at hX
  by_cases h32 : v > 32
  · rw [if_pos h32] at hX
    simp only [go_sem, ↓reduceIte, Nat.reduceEqDiff, Nat.reduceAdd, reduceCtorEq, CCT, CCv, CCr, CCk, Nat.reduceBNe, Nat.reduceLeDiff, Nat.reduceLT, beqI, bneI, List.length_map, decide_true, decide_false, Int.reduceEq, Int.reduceLT, Int.reduceLE, Int.reduceGE, Int.reduceGT, not_true_eq_false, not_false_eq_true, Bool.and_true, Bool.true_and, Bool.and_false, Bool.false_and, and_true, true_and, and_self, Bool.not_not, hn, hil, h32]
    exact hX
  rw [if_neg h32] at hX
  obtain ⟨w, rfl⟩ : ∃ w : Nat, v = w := ⟨v.toNat, by omega⟩
  rw [Int.toNat_natCast, Int.toNat_natCast] at hX
  simp only [go_sem, ↓reduceIte, Nat.reduceEqDiff, Nat.reduceAdd, reduceCtorEq, CCT, CCv, CCr, CCk, Nat.reduceBNe, Nat.reduceLeDiff, Nat.reduceLT, beqI, bneI, List.length_map, decide_true, decide_false, Int.reduceEq, Int.reduceLT, Int.reduceLE, Int.reduceGE, Int.reduceGT, not_true_eq_false, not_false_eq_true, Bool.and_true, Bool.true_and, Bool.and_false, Bool.false_and, and_true, true_and, and_self, Bool.not_not, hn, hil, h32]
  clear hn hok
  refine W.iter_rule (fun k ρ σ => ρ 0 = .list 5 b (bytesI l) none ∧ ρ 27 = .int .u64 w ∧ ρ 28 = .int .u64 k ∧ ∃ (a : Nat) (acc : List Typ) (kk : Option Nat), ρ 6 = .int .i64 a ∧ a ≤ l.length ∧ Gw 32 (acc.map encTy) σ (ρ 8) kk ∧ acc.length = k ∧ pT (w - k) (l.drop a) a acc = pT w (l.drop m) m []) w ?_ ?_ _ 0 _ _ (Nat.zero_le _) ?_ ?_
  · rintro k ρ σ hk ⟨h0, h27, h28, a, acc, kk, h6, ha, hg, hacc, hpt⟩ K hK hx hr
    have hlt : (k : Int) < (w : Int) := by omega
    have hwrap : IntKind.u64.wrap ((k : Int) + 1) = ((k + 1 : Nat) : Int) := by rw [IntKind.wrap_u64]; omega
    have hdl : (l.drop a).length = l.length - a := List.length_drop
    have hn := fun d => one_c d b (l.drop a) (hb.drop a) (by omega)
    have hok := oneS_ok (hb.drop a)
    rw [show w - k = (w - (k + 1)) + 1 by omega, pT] at hpt
    try simp only at hpt
    generalize oneS (l.drop a) = p at hn hpt hok
    obtain ⟨t, n, e⟩ := p
    simp only [bytesI, encP] at hn
    simp only at hpt hok
    simp only [go_sem, ↓reduceIte, Nat.reduceEqDiff, Nat.reduceAdd, reduceCtorEq, CCT, CCv, CCr, CCk, Nat.reduceBNe, Nat.reduceLeDiff, Nat.reduceLT, beqI, bneI, List.length_map, decide_true, decide_false, Int.reduceEq, Int.reduceLT, Int.reduceLE, Int.reduceGE, Int.reduceGT, not_true_eq_false, not_false_eq_true, Bool.and_true, Bool.true_and, Bool.and_false, Bool.false_and, and_true, true_and, and_self, Bool.not_not, h0, h27, h28, h6, hlt, hil]
    refine W.slice_lo (l := l) (g := AV.int .u8) (e := 5) ty_43 (by omega) (by omega) ?_
    rw [Int.toNat_natCast]
    have hpf := pure_fields t.2.2.2
    simp only [go_sem, ↓reduceIte, Nat.reduceEqDiff, Nat.reduceAdd, reduceCtorEq, CCT, CCv, CCr, CCk, Nat.reduceBNe, Nat.reduceLeDiff, Nat.reduceLT, beqI, bneI, List.length_map, decide_true, decide_false, Int.reduceEq, Int.reduceLT, Int.reduceLE, Int.reduceGE, Int.reduceGT, not_true_eq_false, not_false_eq_true, Bool.and_true, Bool.true_and, Bool.and_false, Bool.false_and, and_true, true_and, and_self, Bool.not_not, h0, h27, h28, h6]
    refine call_agg (hn (d + 55)) ?_ rfl rfl ?_
    · simp [pure1, pureL, hpf]
    simp only [go_sem, ↓reduceIte, Nat.reduceEqDiff, Nat.reduceAdd, reduceCtorEq, CCT, CCv, CCr, CCk, Nat.reduceBNe, Nat.reduceLeDiff, Nat.reduceLT, beqI, bneI, List.length_map, decide_true, decide_false, Int.reduceEq, Int.reduceLT, Int.reduceLE, Int.reduceGE, Int.reduceGT, not_true_eq_false, not_false_eq_true, Bool.and_true, Bool.true_and, Bool.and_false, Bool.false_and, and_true, true_and, and_self, Bool.not_not, h0, h27, h28, h6]
    by_cases he : e = 0
    case neg =>
      rw [if_neg he] at hpt
      rw [← hpt, if_neg he] at hX
      simp only [go_sem, ↓reduceIte, Nat.reduceEqDiff, Nat.reduceAdd, reduceCtorEq, CCT, CCv, CCr, CCk, Nat.reduceBNe, Nat.reduceLeDiff, Nat.reduceLT, beqI, bneI, List.length_map, decide_true, decide_false, Int.reduceEq, Int.reduceLT, Int.reduceLE, Int.reduceGE, Int.reduceGT, not_true_eq_false, not_false_eq_true, Bool.and_true, Bool.true_and, Bool.and_false, Bool.false_and, and_true, true_and, and_self, Bool.not_not, h0, h27, h28, h6, he, hr]
      exact hX
    subst he
    obtain ⟨m2, rfl, hm2⟩ := hok rfl
    rw [if_pos rfl, Int.toNat_natCast, List.drop_drop] at hpt
    have e2 : IntKind.i64.wrap ((a : Int) + m2) = ((a + m2 : Nat) : Int) := by rw [IntKind.wrap_i64]; omega
    have hnt := norm_typ t
    simp only [encP] at hnt
    simp only [go_sem, ↓reduceIte, Nat.reduceEqDiff, Nat.reduceAdd, reduceCtorEq, CCT, CCv, CCr, CCk, Nat.reduceBNe, Nat.reduceLeDiff, Nat.reduceLT, beqI, bneI, List.length_map, decide_true, decide_false, Int.reduceEq, Int.reduceLT, Int.reduceLE, Int.reduceGE, Int.reduceGT, not_true_eq_false, not_false_eq_true, Bool.and_true, Bool.true_and, Bool.and_false, Bool.false_and, and_true, true_and, and_self, Bool.not_not, h0, h27, h28, h6, hnt]
    refine W.gw_app (T := T) (t := 22) hg (ys := [encTy (toTyp t)]) (by simp) rfl ?_ ?_ ?_
    · rfl
    · refine roomy_of ?_ (by decide)
      simp only [List.length_map, List.length_singleton]
      omega
    simp only [go_sem, ↓reduceIte, Nat.reduceEqDiff, Nat.reduceAdd, reduceCtorEq, CCT, CCv, CCr, CCk, Nat.reduceBNe, Nat.reduceLeDiff, Nat.reduceLT, beqI, bneI, List.length_map, decide_true, decide_false, Int.reduceEq, Int.reduceLT, Int.reduceLE, Int.reduceGE, Int.reduceGT, not_true_eq_false, not_false_eq_true, Bool.and_true, Bool.true_and, Bool.and_false, Bool.false_and, and_true, true_and, and_self, Bool.not_not, h0, h27, h28, h6, e2, hwrap]
    refine hK _ _ ?_
    refine ⟨by (try simp only [go_sem, ↓reduceIte, Nat.reduceEqDiff, Nat.reduceAdd, reduceCtorEq, CCT, CCv, CCr, CCk, Nat.reduceBNe, Nat.reduceLeDiff, Nat.reduceLT, beqI, bneI, List.length_map, decide_true, decide_false, Int.reduceEq, Int.reduceLT, Int.reduceLE, Int.reduceGE, Int.reduceGT, not_true_eq_false, not_false_eq_true, Bool.and_true, Bool.true_and, Bool.and_false, Bool.false_and, and_true, true_and, and_self, Bool.not_not, Int.toNat_natCast, List.length_take, *]) <;> (first | done | rfl | omega | (simp; done) | (simp; omega)), by (try simp only [go_sem, ↓reduceIte, Nat.reduceEqDiff, Nat.reduceAdd, reduceCtorEq, CCT, CCv, CCr, CCk, Nat.reduceBNe, Nat.reduceLeDiff, Nat.reduceLT, beqI, bneI, List.length_map, decide_true, decide_false, Int.reduceEq, Int.reduceLT, Int.reduceLE, Int.reduceGE, Int.reduceGT, not_true_eq_false, not_false_eq_true, Bool.and_true, Bool.true_and, Bool.and_false, Bool.false_and, and_true, true_and, and_self, Bool.not_not, Int.toNat_natCast, List.length_take, *]) <;> (first | done | rfl | omega | (simp; done) | (simp; omega)), by (try simp only [go_sem, ↓reduceIte, Nat.reduceEqDiff, Nat.reduceAdd, reduceCtorEq, CCT, CCv, CCr, CCk, Nat.reduceBNe, Nat.reduceLeDiff, Nat.reduceLT, beqI, bneI, List.length_map, decide_true, decide_false, Int.reduceEq, Int.reduceLT, Int.reduceLE, Int.reduceGE, Int.reduceGT, not_true_eq_false, not_false_eq_true, Bool.and_true, Bool.true_and, Bool.and_false, Bool.false_and, and_true, true_and, and_self, Bool.not_not, Int.toNat_natCast, List.length_take, *]) <;> (first | done | rfl | omega | (simp; done) | (simp; omega)), a + m2, acc ++ [toTyp t], some σ.ntok, by (try simp only [go_sem, ↓reduceIte, Nat.reduceEqDiff, Nat.reduceAdd, reduceCtorEq, CCT, CCv, CCr, CCk, Nat.reduceBNe, Nat.reduceLeDiff, Nat.reduceLT, beqI, bneI, List.length_map, decide_true, decide_false, Int.reduceEq, Int.reduceLT, Int.reduceLE, Int.reduceGE, Int.reduceGT, not_true_eq_false, not_false_eq_true, Bool.and_true, Bool.true_and, Bool.and_false, Bool.false_and, and_true, true_and, and_self, Bool.not_not, Int.toNat_natCast, List.length_take, *]) <;> (first | done | rfl | omega | (simp; done) | (simp; omega)), by omega, ?_, by simp [hacc], ?_⟩
    · simp only [go_sem, ↓reduceIte, Nat.reduceEqDiff, Nat.reduceAdd, reduceCtorEq, CCT, CCv, CCr, CCk, Nat.reduceBNe, Nat.reduceLeDiff, Nat.reduceLT, beqI, bneI, List.length_map, decide_true, decide_false, Int.reduceEq, Int.reduceLT, Int.reduceLE, Int.reduceGE, Int.reduceGT, not_true_eq_false, not_false_eq_true, Bool.and_true, Bool.true_and, Bool.and_false, Bool.false_and, and_true, true_and, and_self, Bool.not_not, *]
      rw [List.map_append]
      exact Gw.same (.new (by simp)) (fun _ => rfl) rfl
    · rw [← hpt]
      push_cast
      rfl
  · rintro ρ σ ⟨h0, h27, h28, a, acc, kk, h6, ha, hg, hacc, hpt⟩ K hx hr
    have hlt : ¬ (w : Int) < (w : Int) := by omega
    rw [Nat.sub_self, pT] at hpt
    rw [← hpt] at hX
    rw [if_pos rfl] at hX
    have hcl := pT_len w (l.drop m) m []
    rw [← hpt] at hcl
    simp only [List.length_nil, Nat.zero_add] at hcl
    by_cases ha0 : acc = []
    · subst ha0
      have hv : ρ 8 = .mt true := by
        rcases hg with ⟨_, h, _⟩ | ⟨h, _⟩
        · exact h
        · exact absurd rfl h
      have hc := fun d => Check_mt d
      simp only [resC] at hc
      rw [if_pos (show (checkAll ([] : List Typ)).2 = 0 by simp [checkAll, firstS])] at hX
      simp only [go_sem, ↓reduceIte, Nat.reduceEqDiff, Nat.reduceAdd, reduceCtorEq, CCT, CCv, CCr, CCk, Nat.reduceBNe, Nat.reduceLeDiff, Nat.reduceLT, beqI, bneI, List.length_map, decide_true, decide_false, Int.reduceEq, Int.reduceLT, Int.reduceLE, Int.reduceGE, Int.reduceGT, not_true_eq_false, not_false_eq_true, Bool.and_true, Bool.true_and, Bool.and_false, Bool.false_and, and_true, true_and, and_self, Bool.not_not, hx, h0, h27, h28, h6, hlt, hv, hc]
      exact hX
    · obtain ⟨tt, hv⟩ := Gf.list (.inl hg) (by simpa using ha0)
      have hc := fun d => Check_c d false acc (by omega)
      simp only [encTs, resC] at hc
      simp only [go_sem, ↓reduceIte, Nat.reduceEqDiff, Nat.reduceAdd, reduceCtorEq, CCT, CCv, CCr, CCk, Nat.reduceBNe, Nat.reduceLeDiff, Nat.reduceLT, beqI, bneI, List.length_map, decide_true, decide_false, Int.reduceEq, Int.reduceLT, Int.reduceLE, Int.reduceGE, Int.reduceGT, not_true_eq_false, not_false_eq_true, Bool.and_true, Bool.true_and, Bool.and_false, Bool.false_and, and_true, true_and, and_self, Bool.not_not, hx, h0, h27, h28, h6, hlt, hv, hc]
      refine W.br_ndec (fun h0' => ?_) (fun h0' => ?_)
      · rw [if_neg h0'] at hX
        simp only [go_sem, ↓reduceIte, Nat.reduceEqDiff, Nat.reduceAdd, reduceCtorEq, CCT, CCv, CCr, CCk, Nat.reduceBNe, Nat.reduceLeDiff, Nat.reduceLT, beqI, bneI, List.length_map, decide_true, decide_false, Int.reduceEq, Int.reduceLT, Int.reduceLE, Int.reduceGE, Int.reduceGT, not_true_eq_false, not_false_eq_true, Bool.and_true, Bool.true_and, Bool.and_false, Bool.false_and, and_true, true_and, and_self, Bool.not_not, hx, h0, h27, h28, h6, hlt, hv, hc, h0']
        exact hX
      · rw [if_pos h0'] at hX
        rw [hv] at hg
        simp only [go_sem, ↓reduceIte, Nat.reduceEqDiff, Nat.reduceAdd, reduceCtorEq, CCT, CCv, CCr, CCk, Nat.reduceBNe, Nat.reduceLeDiff, Nat.reduceLT, beqI, bneI, List.length_map, decide_true, decide_false, Int.reduceEq, Int.reduceLT, Int.reduceLE, Int.reduceGE, Int.reduceGT, not_true_eq_false, not_false_eq_true, Bool.and_true, Bool.true_and, Bool.and_false, Bool.false_and, and_true, true_and, and_self, Bool.not_not, hx, h0, h27, h28, h6, hlt, hv, hc, h0']
        have hg2 : ∀ (k : AV → Option (AV × St)), Wp (fun x => x = X) (k (.tup [growR 32 (acc.map encTy), .int .i64 a, .int .i64 0])) → Wp (fun x => x = X) (@bnd _ _ (retV σ (.tup [.list 32 false (acc.map encTy) (some tt), .int .i64 a, .int .i64 0])) ⟨k⟩) := fun k h => W.gw_ret_tup (vs := [.int .i64 a, .int .i64 0]) (us := [.int .i64 a, .int .i64 0]) hg rfl h
        refine hg2 _ ?_
        rw [valSt_grow2]
        exact hX
  · show w < 0 + 9223372036854775900
    omega
  · refine ⟨by (try simp only [go_sem, ↓reduceIte, Nat.reduceEqDiff, Nat.reduceAdd, reduceCtorEq, CCT, CCv, CCr, CCk, Nat.reduceBNe, Nat.reduceLeDiff, Nat.reduceLT, beqI, bneI, List.length_map, decide_true, decide_false, Int.reduceEq, Int.reduceLT, Int.reduceLE, Int.reduceGE, Int.reduceGT, not_true_eq_false, not_false_eq_true, Bool.and_true, Bool.true_and, Bool.and_false, Bool.false_and, and_true, true_and, and_self, Bool.not_not, Int.toNat_natCast, List.length_take, *]) <;> (first | done | rfl | omega | (simp; done) | (simp; omega)), by (try simp only [go_sem, ↓reduceIte, Nat.reduceEqDiff, Nat.reduceAdd, reduceCtorEq, CCT, CCv, CCr, CCk, Nat.reduceBNe, Nat.reduceLeDiff, Nat.reduceLT, beqI, bneI, List.length_map, decide_true, decide_false, Int.reduceEq, Int.reduceLT, Int.reduceLE, Int.reduceGE, Int.reduceGT, not_true_eq_false, not_false_eq_true, Bool.and_true, Bool.true_and, Bool.and_false, Bool.false_and, and_true, true_and, and_self, Bool.not_not, Int.toNat_natCast, List.length_take, *]) <;> (first | done | rfl | omega | (simp; done) | (simp; omega)), by (try simp only [go_sem, ↓reduceIte, Nat.reduceEqDiff, Nat.reduceAdd, reduceCtorEq, CCT, CCv, CCr, CCk, Nat.reduceBNe, Nat.reduceLeDiff, Nat.reduceLT, beqI, bneI, List.length_map, decide_true, decide_false, Int.reduceEq, Int.reduceLT, Int.reduceLE, Int.reduceGE, Int.reduceGT, not_true_eq_false, not_false_eq_true, Bool.and_true, Bool.true_and, Bool.and_false, Bool.false_and, and_true, true_and, and_self, Bool.not_not, Int.toNat_natCast, List.length_take, *]) <;> (first | done | rfl | omega | (simp; done) | (simp; omega)), m, [], none, by (try simp only [go_sem, ↓reduceIte, Nat.reduceEqDiff, Nat.reduceAdd, reduceCtorEq, CCT, CCv, CCr, CCk, Nat.reduceBNe, Nat.reduceLeDiff, Nat.reduceLT, beqI, bneI, List.length_map, decide_true, decide_false, Int.reduceEq, Int.reduceLT, Int.reduceLE, Int.reduceGE, Int.reduceGT, not_true_eq_false, not_false_eq_true, Bool.and_true, Bool.true_and, Bool.and_false, Bool.false_and, and_true, true_and, and_self, Bool.not_not, Int.toNat_natCast, List.length_take, *]) <;> (first | done | rfl | omega | (simp; done) | (simp; omega)), hm2, ?_, rfl, rfl⟩
    simp only [go_sem, ↓reduceIte, Nat.reduceEqDiff, Nat.reduceAdd, reduceCtorEq, CCT, CCv, CCr, CCk, Nat.reduceBNe, Nat.reduceLeDiff, Nat.reduceLT, beqI, bneI, List.length_map, decide_true, decide_false, Int.reduceEq, Int.reduceLT, Int.reduceLE, Int.reduceGE, Int.reduceGT, not_true_eq_false, not_false_eq_true, Bool.and_true, Bool.true_and, Bool.and_false, Bool.false_and, and_true, true_and, and_self, Bool.not_not, *]
    exact .nil 32 _
end Go.Proofs.Ytjembadjfiohpaa.Va

/- chapter 5: what was laid down is taken again: numbers, names, rows, types (plain) -/
namespace Go.Proofs.Ytjembadjfiohpaa.Va
open Go
set_option linter.unusedVariables false
set_option linter.unusedSimpArgs false
set_option maxRecDepth 100000
theorem tk_num : ∀ (i v : Nat) (acc : Int) (r : List Int), i ≤ 9 → v * 128 ^ i < 2 ^ 64 → (0 < i → 0 < v) → tk i acc (numL v ++ r) = (acc + (v : Int) * 128 ^ i, ((i + (numL v).length : Nat) : Int), 0) := by
  intro i v
  induction v using Nat.strongRecOn generalizing i with
  | _ v ih =>
    intro acc r hi hv hp
    by_cases h : v < 128
    · rw [numL_lt h]
      simp only [List.singleton_append, tk]
      have h9 : i = 9 → v ≤ 1 := by
        rintro rfl
        have : (128 : Nat) ^ 9 = 2 ^ 63 := by decide
        rw [this] at hv
        omega
      rw [if_neg, if_neg, if_pos (by omega), if_neg]
      · simp
      · rintro ⟨h0, h1⟩
        have := hp h1
        omega
      · rintro ⟨h0, h1⟩
        have := h9 h0
        omega
      · rintro ⟨h0, h1⟩
        have := h9 h0
        have := hp (by omega)
        omega
    · have hi9 : i < 9 := by
        rcases Nat.lt_or_ge i 9 with h0 | h0
        · exact h0
        · have : i = 9 := by omega
          subst this
          have : (128 : Nat) ^ 9 = 2 ^ 63 := by decide
          rw [this] at hv
          omega
      rw [numL_ge h]
      simp only [List.cons_append, tk]
      rw [if_neg (by omega), if_neg (by omega), if_neg (by omega)]
      have hd : 128 * (v / 128) ≤ v := Nat.mul_div_le v 128
      rw [ih (v / 128) (by omega) (i + 1) _ r (by omega) ?_ (fun _ => by omega)]
      · have e1 : ((((v % 128 : Nat) : Int) + 128) % 128) = ((v % 128 : Nat) : Int) := by omega
        rw [e1]
        have e2 : (v : Int) = ((v % 128 : Nat) : Int) + 128 * ((v / 128 : Nat) : Int) := by omega
        have e3 : (128 : Int) ^ (i + 1) = 128 * 128 ^ i := by rw [Int.pow_succ]; omega
        simp only [Prod.mk.injEq, and_true]
        constructor
        · rw [e3]
          conv => rhs; rw [e2]
          rw [Int.add_mul, Int.add_assoc]
          congr 2
          rw [Int.mul_comm 128 ((v / 128 : Nat) : Int), Int.mul_assoc]
        · simp only [List.length_cons]
          omega
      · calc v / 128 * 128 ^ (i + 1) = (128 * (v / 128)) * 128 ^ i := by rw [Nat.pow_succ, Nat.mul_comm 128 (v / 128), Nat.mul_assoc, Nat.mul_comm (128 ^ i) 128]
          _ ≤ v * 128 ^ i := Nat.mul_le_mul_right _ hd
          _ < 2 ^ 64 := hv
theorem takeN_num {v : Nat} (hv : v < 18446744073709551616) (r : List Int) : takeN (numL v ++ r) = ((v : Int), ((numL v).length : Int), 0) := by
  rw [takeN, tk_num 0 v 0 r (by omega) (by simpa using hv) (by omega)]
  simp
theorem tk_back : ∀ (l : List Int) (i : Nat) (acc : Int), i ≤ 9 → Bytes l → (tk i acc l).2.2 = 0 → ∃ v k : Nat, tk i acc l = (acc + (v : Int) * 128 ^ i, ((i + k : Nat) : Int), 0) ∧ k ≤ l.length ∧ numL v = l.take k ∧ (0 < i → 0 < v)
  | [], i, acc, hi, hb, h => by simp [tk] at h
  | c :: l, i, acc, hi, hb, h => by
    obtain ⟨c0, c1⟩ := hb c (by simp)
    simp only [tk] at h ⊢
    by_cases h1 : i = 9 ∧ (128 ≤ c ∨ c = 0)
    · rw [if_pos h1] at h; cases h
    rw [if_neg h1] at h ⊢
    by_cases h2 : i = 9 ∧ 1 < c
    · rw [if_pos h2] at h; cases h
    rw [if_neg h2] at h ⊢
    by_cases h3 : c < 128
    · rw [if_pos h3] at h ⊢
      by_cases h4 : c = 0 ∧ 0 < i
      · rw [if_pos h4] at h; cases h
      rw [if_neg h4]
      refine ⟨c.toNat, 1, ?_, by simp, ?_, by omega⟩
      · have : ((c.toNat : Nat) : Int) = c := by omega
        rw [this]
        simp
      · rw [numL_lt (by omega)]
        simp; omega
    · rw [if_neg h3] at h ⊢
      obtain ⟨v, k, e, hk, hn, hp⟩ := tk_back l (i + 1) _ (by omega) (fun x hx => hb x (List.mem_cons_of_mem _ hx)) h
      have hv := hp (by omega)
      refine ⟨(c % 128).toNat + 128 * v, k + 1, ?_, by simp; omega, ?_, by omega⟩
      · rw [e]
        have e3 : (128 : Int) ^ (i + 1) = 128 * 128 ^ i := by rw [Int.pow_succ]; omega
        have e2 : (((c % 128).toNat + 128 * v : Nat) : Int) = c % 128 + 128 * (v : Int) := by omega
        simp only [Prod.mk.injEq, and_true]
        constructor
        · rw [e3, e2, Int.add_mul, Int.add_assoc, Int.mul_comm 128 (v : Int), Int.mul_assoc]
        · omega
      · rw [numL_ge (by omega)]
        have e1 : ((c % 128).toNat + 128 * v) / 128 = v := by omega
        rw [e1, hn, List.take_succ_cons]
        congr 1
        omega
theorem takeN_back {l : List Int} (hb : Bytes l) (h : (takeN l).2.2 = 0) : ∃ v k : Nat, takeN l = ((v : Int), (k : Int), 0) ∧ k ≤ l.length ∧ numL v = l.take k := by
  obtain ⟨v, k, e, hk, hn, _⟩ := tk_back l 0 0 (by omega) hb h
  refine ⟨v, k, ?_, hk, hn⟩
  rw [takeN, e]
  simp
theorem strI_bs {xs : List Int} (hb : Bytes xs) : strI (bsOf xs) = xs := by
  unfold strI bsOf
  simp only [List.map_map]
  conv => rhs; rw [← List.map_id xs]
  refine List.map_congr_left fun x hx => ?_
  obtain ⟨h0, h1⟩ := hb x hx
  simp only [Function.comp_apply, UInt8.toNat_ofNat', id]
  omega
theorem bs_strI (s : ByteArray) : bsOf (strI s) = s := by
  unfold strI bsOf
  rw [List.map_map]
  have : ((fun n : Int => UInt8.ofNat n.toNat) ∘ fun b : UInt8 => (b.toNat : Int)) = id := by
    funext b
    simp
  rw [this, List.map_id]
theorem nameB_size {s : ByteArray} (h : nameB s = true) : 0 < s.size ∧ s.size ≤ 16 := by
  simp only [nameB, Bool.and_eq_true, decide_eq_true_eq] at h
  omega
theorem takeT_text {s : ByteArray} (h : nameB s = true) (r : List Int) : takeT (textL s ++ r) = (s, ((textL s).length : Int), 0) := by
  obtain ⟨h1, h2⟩ := nameB_size h
  have hl : (numL s.size).length = 1 := by rw [numL_lt (by omega)]; rfl
  unfold takeT textL
  rw [List.append_assoc, takeN_num (by omega)]
  simp only [hl]
  rw [if_pos trivial, if_neg (by omega), if_neg (by simp only [List.length_append, hl, strI_len]; push_cast; omega)]
  have e1 : (((numL s.size ++ (strI s ++ r)).take (((1 : Nat) : Int) + (s.size : Int)).toNat).drop (((1 : Nat) : Int)).toNat) = strI s := by
    rw [numL_lt (by omega)]
    have e2 : (((1 : Nat) : Int) + (s.size : Int)).toNat = s.size + 1 := by omega
    rw [e2, List.singleton_append, List.take_succ_cons]
    show (strI s ++ r).take s.size = _
    rw [← strI_len, List.take_left']
    rfl
  rw [e1, bs_strI, if_pos h]
  simp only [List.length_append, hl, strI_len]
  push_cast
  rfl
theorem takeT_back {l : List Int} (hb : Bytes l) (h : (takeT l).2.2 = 0) : ∃ k : Nat, (takeT l).2.1 = k ∧ k ≤ l.length ∧ nameB (takeT l).1 = true ∧ textL (takeT l).1 = l.take k := by
  have hok := takeN_back hb
  simp only [takeT] at h ⊢
  by_cases he : (takeN l).2.2 = 0
  · obtain ⟨v, k, e, hk, hn⟩ := hok he
    rw [if_pos he] at h ⊢
    rw [e] at h ⊢
    simp only at h ⊢
    by_cases h16 : (v : Int) < 1 ∨ (v : Int) > 16
    · rw [if_pos h16] at h; cases h
    rw [if_neg h16] at h ⊢
    by_cases h2 : (l.length : Int) < (k : Int) + (v : Int)
    · rw [if_pos h2] at h; cases h
    rw [if_neg h2] at h ⊢
    split at h
    · rename_i hnm
      rw [if_pos hnm]
      refine ⟨k + v, by push_cast; rfl, by omega, hnm, ?_⟩
      have e1 : ((k : Int) + (v : Int)).toNat = k + v := by omega
      have hb2 : Bytes ((l.take (k + v)).drop k) := fun x hx => hb x (List.mem_of_mem_take (List.mem_of_mem_drop hx))
      have hlen : ((l.take (k + v)).drop k).length = v := by simp; omega
      simp only [e1, Int.toNat_natCast, textL]
      rw [strI_bs hb2, bsOf_size, hlen, hn]
      conv => rhs; rw [← List.take_append_drop k (l.take (k + v))]
      rw [List.take_take]
      congr 2
      omega
    · cases h
  · rw [if_neg he] at h; exact absurd h he
def intOkP (n : Int) : Prop := 0 ≤ n ∧ n ≤ 2147483647
theorem tI_ints : ∀ (xs r : List Int) (a : Int) (acc : List Int), (∀ x ∈ xs, intOkP x) → tI xs.length (intsB xs ++ r) a acc = (acc ++ xs, a + ((intsB xs).length : Int), 0)
  | [], r, a, acc, h => by simp [tI, intsB]
  | x :: xs, r, a, acc, h => by
    obtain ⟨x0, x1⟩ := h x (by simp)
    have e : intsB (x :: xs) = numL x.toNat ++ intsB xs := by simp [intsB]
    rw [e, List.append_assoc]
    simp only [List.length_cons, tI]
    rw [takeN_num (by omega)]
    simp only
    rw [if_pos trivial, if_neg (by omega), Int.toNat_natCast, List.drop_left' rfl, tI_ints xs r _ _ (fun y hy => h y (List.mem_cons_of_mem _ hy))]
    have : ((x.toNat : Nat) : Int) = x := by omega
    rw [this]
    simp only [List.append_assoc, List.singleton_append, List.length_append, Prod.mk.injEq, true_and, and_true]
    push_cast
    omega
theorem takeI_ints {xs : List Int} (hl : xs.length ≤ 1000) (h : ∀ x ∈ xs, intOkP x) (r : List Int) : takeI ((numL xs.length ++ intsB xs) ++ r) = (xs, ((numL xs.length ++ intsB xs).length : Int), 0) := by
  unfold takeI
  rw [List.append_assoc, takeN_num (by omega)]
  simp only
  rw [if_pos trivial, if_neg (by omega), Int.toNat_natCast, Int.toNat_natCast, List.drop_left' rfl, tI_ints _ _ _ _ h]
  simp
theorem tI_back : ∀ (m : Nat) (l : List Int) (a : Int) (acc : List Int), Bytes l → (tI m l a acc).2.2 = 0 → ∃ (xs : List Int) (k : Nat), tI m l a acc = (acc ++ xs, a + (k : Int), 0) ∧ xs.length = m ∧ k ≤ l.length ∧ intsB xs = l.take k ∧ ∀ x ∈ xs, intOkP x
  | 0, l, a, acc, hb, h => ⟨[], 0, by simp [tI], rfl, Nat.zero_le _, by simp [intsB], fun x hx => by cases hx⟩
  | m + 1, l, a, acc, hb, h => by
    have hok := takeN_back hb
    simp only [tI] at h ⊢
    by_cases he : (takeN l).2.2 = 0
    · obtain ⟨v, k, e, hk, hn⟩ := hok he
      rw [if_pos he] at h ⊢
      rw [e] at h ⊢
      simp only at h ⊢
      by_cases hv : (v : Int) > 2147483647
      · rw [if_pos hv] at h; cases h
      · rw [if_neg hv, Int.toNat_natCast] at h ⊢
        obtain ⟨xs, k2, e2, hl, hk2, hn2, hall⟩ := tI_back m (l.drop k) (a + k) (acc ++ [(v : Int)]) (hb.drop k) h
        rw [List.length_drop] at hk2
        refine ⟨(v : Int) :: xs, k + k2, ?_, by simp [hl], by omega, ?_, fun x hx => ?_⟩
        · rw [e2]
          simp only [List.append_assoc, List.singleton_append, Prod.mk.injEq, true_and, and_true]
          push_cast
          omega
        · have e3 : intsB ((v : Int) :: xs) = numL v ++ intsB xs := by simp [intsB]
          rw [e3, hn, hn2, List.take_add]
        · rcases List.mem_cons.1 hx with rfl | hx
          · exact ⟨by omega, by omega⟩
          · exact hall x hx
    · rw [if_neg he] at h; exact absurd h he
theorem takeI_back {l : List Int} (hb : Bytes l) (h : (takeI l).2.2 = 0) : ∃ k : Nat, (takeI l).2.1 = k ∧ k ≤ l.length ∧ (takeI l).1.length ≤ 1000 ∧ numL (takeI l).1.length ++ intsB (takeI l).1 = l.take k ∧ ∀ x ∈ (takeI l).1, intOkP x := by
  have hok := takeN_back hb
  simp only [takeI] at h ⊢
  by_cases he : (takeN l).2.2 = 0
  · obtain ⟨v, k, e, hk, hn⟩ := hok he
    rw [if_pos he] at h ⊢
    rw [e] at h ⊢
    simp only at h ⊢
    by_cases hv : (v : Int) > 1000
    · rw [if_pos hv] at h; cases h
    · rw [if_neg hv, Int.toNat_natCast, Int.toNat_natCast] at h ⊢
      obtain ⟨xs, k2, e2, hl, hk2, hn2, hall⟩ := tI_back _ _ _ _ (hb.drop k) h
      rw [List.length_drop] at hk2
      rw [e2]
      simp only [List.nil_append]
      exact ⟨k + k2, by push_cast; rfl, by omega, by omega, by rw [hl, hn, hn2, List.take_add], hall⟩
  · rw [if_neg he] at h; exact absurd h he
theorem chunk_fld : ∀ (fs : List Fld), chunk (fs.flatMap fldI) = fs
  | [] => by simp [chunk]
  | f :: fs => by
    rw [List.flatMap_cons]
    simp only [fldI, List.cons_append, List.nil_append, chunk]
    rw [chunk_fld fs]
theorem fld_chunk : ∀ (N : Nat) (l : List Int), l.length = 5 * N → (chunk l).flatMap fldI = l
  | 0, l, h => by
    have : l = [] := List.length_eq_zero_iff.1 (by omega)
    subst this
    simp [chunk]
  | N + 1, l, h => by
    match l, h with
    | a :: b :: c :: d :: e :: r, h =>
      simp only [chunk, List.flatMap_cons, fldI, List.cons_append, List.nil_append]
      rw [fld_chunk N r (by simp only [List.length_cons] at h; omega)]
    | [], h => simp at h
    | [_], h => simp at h; omega
    | [_, _], h => simp at h; omega
    | [_, _, _], h => simp at h; omega
    | [_, _, _, _], h => simp at h; omega
theorem typeI_len (t : Typ) : (typeI t).length = 5 * t.fields.length + 1 := by simp only [typeI, List.length_cons, fldI_len]
theorem at0_hd (x : Int) (xs : List Int) : at0 (x :: xs) 0 = x := rfl
theorem flag_ok (v r : Bool) : 0 ≤ flagI v r ∧ flagI v r ≤ 3 ∧ decide (flagI v r % 2 = 1) = v ∧ decide (1 < flagI v r) = r := by cases v <;> cases r <;> decide
theorem intsR_ok {xs : List Int} (hl : xs.length ≤ 1000) (h : ∀ x ∈ xs, intOkP x) : intsR xs = (numL xs.length ++ intsB xs, 0) := by
  unfold intsR
  rw [if_neg (by omega), if_pos]
  rw [List.all_eq_true]
  intro x hx
  obtain ⟨h0, h1⟩ := h x hx
  simp [intOk, h0, h1]
/-- A type that can be laid down. -/
structure Lays (t : Typ) : Prop where
  name : nameB t.name = true
  len : (typeI t).length ≤ 1000
  ints : ∀ x ∈ typeI t, intOkP x
theorem Lays.eq {t : Typ} (h : Lays t) : typeB t = textL t.name ++ (numL (typeI t).length ++ intsB (typeI t)) := by
  unfold typeB
  rw [intsR_ok h.len h.ints, textR, if_pos h.name]
def nrm (t : Typ) : Typ := { t with nil := decide (t.fields = []) }
theorem one_back {t : Typ} (h : Lays t) (r : List Int) : oneS (typeB t ++ r) = ((t.name, t.value, t.refs, t.fields), ((typeB t).length : Int), 0) := by
  rw [h.eq, List.append_assoc]
  unfold oneS
  rw [takeT_text h.name]
  simp only
  rw [if_pos trivial, Int.toNat_natCast, List.drop_left' rfl, takeI_ints h.len h.ints]
  simp only
  obtain ⟨f0, f1, f2, f3⟩ := flag_ok t.value t.refs
  have e0 : at0 (typeI t) 0 = flagI t.value t.refs := rfl
  rw [if_pos trivial, if_neg (by rw [typeI_len, e0]; omega), e0, f2, f3]
  have e1 : (typeI t).tail = t.fields.flatMap fldI := rfl
  rw [e1, chunk_fld]
  simp only [List.length_append, Prod.mk.injEq, true_and, and_true]
  push_cast
  rfl
theorem one_fwd {l : List Int} (hb : Bytes l) (h : (oneS l).2.2 = 0) : ∃ k : Nat, (oneS l).2.1 = k ∧ k ≤ l.length ∧ Lays (toTyp (oneS l).1) ∧ typeB (toTyp (oneS l).1) = l.take k := by
  have hok := takeT_back hb
  simp only [oneS] at h ⊢
  by_cases he : (takeT l).2.2 = 0
  · obtain ⟨m, hm, hm2, hnm, htx⟩ := hok he
    have hok2 := takeI_back (hb.drop m)
    rw [if_pos he, hm, Int.toNat_natCast] at h ⊢
    by_cases he2 : (takeI (l.drop m)).2.2 = 0
    · obtain ⟨k, hk, hk2, hl, hx, hall⟩ := hok2 he2
      rw [if_pos he2] at h ⊢
      generalize (takeI (l.drop m)).1 = xs at *
      split at h
      · cases h
      · rename_i hc
        rw [if_neg hc, hk]
        rw [List.length_drop] at hk2
        have hlen : xs.length % 5 = 1 := by omega
        have h3 : at0 xs 0 ≤ 3 := by omega
        have hti : typeI (toTyp ((takeT l).1, decide (at0 xs 0 % 2 = 1), decide (1 < at0 xs 0), chunk xs.tail)) = xs := by
          match xs, hlen, h3, hall with
          | x :: xs, hlen, h3, hall =>
            obtain ⟨x0, x1⟩ := hall x (by simp)
            rw [at0_hd] at h3
            simp only [at0_hd, typeI, toTyp, List.tail_cons]
            rw [fld_chunk (xs.length / 5) xs (by rw [List.length_cons] at hlen; omega)]
            congr 1
            have : x = 0 ∨ x = 1 ∨ x = 2 ∨ x = 3 := by omega
            rcases this with rfl | rfl | rfl | rfl <;> rfl
          | [], hlen, _, _ => simp at hlen
        have hL : Lays (toTyp ((takeT l).1, decide (at0 xs 0 % 2 = 1), decide (1 < at0 xs 0), chunk xs.tail)) := ⟨hnm, by rw [hti]; exact hl, by rw [hti]; exact hall⟩
        refine ⟨m + k, by push_cast; rfl, by omega, hL, ?_⟩
        rw [hL.eq, hti, hx]
        show textL (takeT l).1 ++ _ = _
        rw [htx, List.take_add]
    · rw [if_neg he2] at h; exact absurd h he2
  · rw [if_neg he] at h; exact absurd h he
theorem pT_back : ∀ (ts : List Typ) (r : List Int) (a : Int) (acc : List Typ), (∀ t ∈ ts, Lays t) → pT ts.length (ts.flatMap typeB ++ r) a acc = (acc ++ ts.map nrm, a + ((ts.flatMap typeB).length : Int), 0)
  | [], r, a, acc, h => by simp [pT]
  | t :: ts, r, a, acc, h => by
    rw [List.flatMap_cons, List.append_assoc]
    simp only [List.length_cons, pT]
    rw [one_back (h t (by simp))]
    simp only
    rw [if_pos trivial, Int.toNat_natCast, List.drop_left' rfl, pT_back ts r _ _ (fun u hu => h u (List.mem_cons_of_mem _ hu))]
    simp only [List.append_assoc, List.length_append, List.map_cons, List.singleton_append, Prod.mk.injEq, and_true]
    refine ⟨rfl, ?_⟩
    push_cast
    omega
theorem pT_fwd : ∀ (m : Nat) (l : List Int) (a : Int) (acc : List Typ), Bytes l → (pT m l a acc).2.2 = 0 → ∃ (ts : List Typ) (k : Nat), pT m l a acc = (acc ++ ts, a + (k : Int), 0) ∧ ts.length = m ∧ k ≤ l.length ∧ ts.flatMap typeB = l.take k ∧ ∀ t ∈ ts, Lays t
  | 0, l, a, acc, hb, h => ⟨[], 0, by simp [pT], rfl, Nat.zero_le _, by simp, fun x hx => by cases hx⟩
  | m + 1, l, a, acc, hb, h => by
    have hok := one_fwd hb
    simp only [pT] at h ⊢
    by_cases he : (oneS l).2.2 = 0
    · obtain ⟨k, hk, hk1, hL, hn⟩ := hok he
      rw [if_pos he] at h ⊢
      rw [hk, Int.toNat_natCast] at h ⊢
      obtain ⟨ts, k2, e2, hl, hk2, hn2, hall⟩ := pT_fwd m (l.drop k) (a + k) (acc ++ [toTyp (oneS l).1]) (hb.drop k) h
      rw [List.length_drop] at hk2
      refine ⟨toTyp (oneS l).1 :: ts, k + k2, ?_, by simp [hl], by omega, ?_, fun x hx => ?_⟩
      · rw [e2]
        simp only [List.append_assoc, List.singleton_append, Prod.mk.injEq, true_and, and_true]
        push_cast
        omega
      · rw [List.flatMap_cons, hn, hn2, List.take_add]
      · rcases List.mem_cons.1 hx with rfl | hx
        · exact hL
        · exact hall x hx
    · rw [if_neg he] at h; exact absurd h he
end Go.Proofs.Ytjembadjfiohpaa.Va

/- chapter 5: the reference's Same, of equal lists -/
namespace Go.Proofs.Ytjembadjfiohpaa.Va
open Go
set_option linter.unusedVariables false
set_option linter.unusedSimpArgs false
set_option maxRecDepth 100000
theorem fld_neq (f : Fld) : aBin T .neq 41 (encF f) (encF f) = some (.bool false) := by
  have h : aEqT T 20 41 (encF f) (encF f) = some true := by
    have h41 : T.eqT 41 = true := by kernel_rfl
    simp [encF, aEqT, eqL, h41, ty_41, ty_3, Tab.same]
  simp only [encF] at h ⊢
  rw [bin_agg, h]
  rfl
theorem Same_eq (d : Nat) (b b' : Bool) (l : List Typ) (hl : l.length ≤ 9223372036854775807) (hf : ∀ t ∈ l, t.fields.length ≤ 9223372036854775807) : evalF Try.prog CC (d + 20) 21 [.list 32 b (l.map encTy) none, .list 32 b' (l.map encTy) none] St.empty = some (.bool true, St.empty) := by
  refine wp_eq ?_
  rw [run_21 _ _ _ (by simp)]; unfold Try.f21; simp only [Option.getD_some]
  simp only [go_sem, ↓reduceIte, Nat.reduceEqDiff, Nat.reduceAdd, reduceCtorEq, CCT, CCv, CCr, CCk, Nat.reduceBNe, Nat.reduceLeDiff, Nat.reduceLT, beqI, bneI, List.length_map, decide_true, decide_false, Int.reduceEq, Int.reduceLT, Int.reduceLE, Int.reduceGE, Int.reduceGT, not_true_eq_false, not_false_eq_true, Bool.and_true, Bool.true_and, Bool.and_false, Bool.false_and, and_true, true_and, and_self, Bool.not_not, List.length_map]
  refine W.iter_rule (fun i ρ s => ρ 0 = .list 32 b (l.map encTy) none ∧ ρ 1 = .list 32 b' (l.map encTy) none ∧ ρ 5 = .int .i64 i) l.length ?_ ?_ _ 0 _ _ (Nat.zero_le _) ?_ ?_
  · rintro i ρ s hi ⟨h0, h1, h5⟩ K hK hx hr
    have hlt : (i : Int) < (l.length : Int) := by omega
    have hwrap : IntKind.i64.wrap ((i : Int) + 1) = ((i + 1 : Nat) : Int) := by rw [IntKind.wrap_i64]; omega
    have hidx : idxOk (i : Int) l.length = true := by simp [idxOk]; omega
    have hget : (l.map encTy)[((i : Nat) : Int).toNat]? = some (encTy l[i]) := by simp [hi]
    have hfl := hf l[i] (List.getElem_mem hi)
    generalize l[i] = t at hget hfl
    simp only [encTy] at hget
    simp only [go_sem, ↓reduceIte, Nat.reduceEqDiff, Nat.reduceAdd, reduceCtorEq, CCT, CCv, CCr, CCk, Nat.reduceBNe, Nat.reduceLeDiff, Nat.reduceLT, beqI, bneI, List.length_map, decide_true, decide_false, Int.reduceEq, Int.reduceLT, Int.reduceLE, Int.reduceGE, Int.reduceGT, not_true_eq_false, not_false_eq_true, Bool.and_true, Bool.true_and, Bool.and_false, Bool.false_and, and_true, true_and, and_self, Bool.not_not, h0, h1, h5, hlt]
    refine W.br_ok (by kernel_rfl) ?_
    simp only [go_sem, ↓reduceIte, Nat.reduceEqDiff, Nat.reduceAdd, reduceCtorEq, CCT, CCv, CCr, CCk, Nat.reduceBNe, Nat.reduceLeDiff, Nat.reduceLT, beqI, bneI, List.length_map, decide_true, decide_false, Int.reduceEq, Int.reduceLT, Int.reduceLE, Int.reduceGE, Int.reduceGT, not_true_eq_false, not_false_eq_true, Bool.and_true, Bool.true_and, Bool.and_false, Bool.false_and, and_true, true_and, and_self, Bool.not_not, h0, h1, h5, hlt, hidx, hget, beq_self_eq_true]
    refine W.iter_rule (fun j ρ s => ρ 0 = .list 32 b (l.map encTy) none ∧ ρ 1 = .list 32 b' (l.map encTy) none ∧ ρ 5 = .int .i64 i ∧ ρ 6 = .int .i64 j) t.fields.length ?_ ?_ _ 0 _ _ (Nat.zero_le _) ?_ ?_
    · clear hx hr
      rintro j ρ s hj ⟨h0, h1, h5, h6⟩ K2 hK2 hx hr
      have hlt2 : (j : Int) < (t.fields.length : Int) := by omega
      have hwrap2 : IntKind.i64.wrap ((j : Int) + 1) = ((j + 1 : Nat) : Int) := by rw [IntKind.wrap_i64]; omega
      have hidx2 : idxOk (j : Int) t.fields.length = true := by simp [idxOk]; omega
      have hget2 : (t.fields.map encF)[((j : Nat) : Int).toNat]? = some (encF t.fields[j]) := by simp [hj]
      have hq := fld_neq t.fields[j]
      generalize t.fields[j] = f at hget2 hq
      simp only [encF] at hget2 hq
      simp only [go_sem, ↓reduceIte, Nat.reduceEqDiff, Nat.reduceAdd, reduceCtorEq, CCT, CCv, CCr, CCk, Nat.reduceBNe, Nat.reduceLeDiff, Nat.reduceLT, beqI, bneI, List.length_map, decide_true, decide_false, Int.reduceEq, Int.reduceLT, Int.reduceLE, Int.reduceGE, Int.reduceGT, not_true_eq_false, not_false_eq_true, Bool.and_true, Bool.true_and, Bool.and_false, Bool.false_and, and_true, true_and, and_self, Bool.not_not, h0, h1, h5, h6, hidx, hget, hlt2]
      refine W.br_ok (by kernel_rfl) ?_
      simp only [go_sem, ↓reduceIte, Nat.reduceEqDiff, Nat.reduceAdd, reduceCtorEq, CCT, CCv, CCr, CCk, Nat.reduceBNe, Nat.reduceLeDiff, Nat.reduceLT, beqI, bneI, List.length_map, decide_true, decide_false, Int.reduceEq, Int.reduceLT, Int.reduceLE, Int.reduceGE, Int.reduceGT, not_true_eq_false, not_false_eq_true, Bool.and_true, Bool.true_and, Bool.and_false, Bool.false_and, and_true, true_and, and_self, Bool.not_not, h0, h1, h5, h6, hidx, hget, hidx2, hget2, ↓hq, hwrap2]
      refine hK2 _ _ ?_
      exact ⟨by (try simp only [go_sem, ↓reduceIte, Nat.reduceEqDiff, Nat.reduceAdd, reduceCtorEq, CCT, CCv, CCr, CCk, Nat.reduceBNe, Nat.reduceLeDiff, Nat.reduceLT, beqI, bneI, List.length_map, decide_true, decide_false, Int.reduceEq, Int.reduceLT, Int.reduceLE, Int.reduceGE, Int.reduceGT, not_true_eq_false, not_false_eq_true, Bool.and_true, Bool.true_and, Bool.and_false, Bool.false_and, and_true, true_and, and_self, Bool.not_not, Int.toNat_natCast, List.length_take, *]) <;> (first | done | rfl | omega | (simp; done) | (simp; omega)), by (try simp only [go_sem, ↓reduceIte, Nat.reduceEqDiff, Nat.reduceAdd, reduceCtorEq, CCT, CCv, CCr, CCk, Nat.reduceBNe, Nat.reduceLeDiff, Nat.reduceLT, beqI, bneI, List.length_map, decide_true, decide_false, Int.reduceEq, Int.reduceLT, Int.reduceLE, Int.reduceGE, Int.reduceGT, not_true_eq_false, not_false_eq_true, Bool.and_true, Bool.true_and, Bool.and_false, Bool.false_and, and_true, true_and, and_self, Bool.not_not, Int.toNat_natCast, List.length_take, *]) <;> (first | done | rfl | omega | (simp; done) | (simp; omega)), by (try simp only [go_sem, ↓reduceIte, Nat.reduceEqDiff, Nat.reduceAdd, reduceCtorEq, CCT, CCv, CCr, CCk, Nat.reduceBNe, Nat.reduceLeDiff, Nat.reduceLT, beqI, bneI, List.length_map, decide_true, decide_false, Int.reduceEq, Int.reduceLT, Int.reduceLE, Int.reduceGE, Int.reduceGT, not_true_eq_false, not_false_eq_true, Bool.and_true, Bool.true_and, Bool.and_false, Bool.false_and, and_true, true_and, and_self, Bool.not_not, Int.toNat_natCast, List.length_take, *]) <;> (first | done | rfl | omega | (simp; done) | (simp; omega)), by (try simp only [go_sem, ↓reduceIte, Nat.reduceEqDiff, Nat.reduceAdd, reduceCtorEq, CCT, CCv, CCr, CCk, Nat.reduceBNe, Nat.reduceLeDiff, Nat.reduceLT, beqI, bneI, List.length_map, decide_true, decide_false, Int.reduceEq, Int.reduceLT, Int.reduceLE, Int.reduceGE, Int.reduceGT, not_true_eq_false, not_false_eq_true, Bool.and_true, Bool.true_and, Bool.and_false, Bool.false_and, and_true, true_and, and_self, Bool.not_not, Int.toNat_natCast, List.length_take, *]) <;> (first | done | rfl | omega | (simp; done) | (simp; omega))⟩
    · clear hx hr
      rintro ρ s ⟨h0, h1, h5, h6⟩ K2 hx hr
      have hlt2 : ¬ (t.fields.length : Int) < (t.fields.length : Int) := by omega
      simp only [go_sem, ↓reduceIte, Nat.reduceEqDiff, Nat.reduceAdd, reduceCtorEq, CCT, CCv, CCr, CCk, Nat.reduceBNe, Nat.reduceLeDiff, Nat.reduceLT, beqI, bneI, List.length_map, decide_true, decide_false, Int.reduceEq, Int.reduceLT, Int.reduceLE, Int.reduceGE, Int.reduceGT, not_true_eq_false, not_false_eq_true, Bool.and_true, Bool.true_and, Bool.and_false, Bool.false_and, and_true, true_and, and_self, Bool.not_not, hx, h0, h1, h5, h6, hidx, hget, hlt2, hwrap]
      refine hK _ _ ?_
      exact ⟨by (try simp only [go_sem, ↓reduceIte, Nat.reduceEqDiff, Nat.reduceAdd, reduceCtorEq, CCT, CCv, CCr, CCk, Nat.reduceBNe, Nat.reduceLeDiff, Nat.reduceLT, beqI, bneI, List.length_map, decide_true, decide_false, Int.reduceEq, Int.reduceLT, Int.reduceLE, Int.reduceGE, Int.reduceGT, not_true_eq_false, not_false_eq_true, Bool.and_true, Bool.true_and, Bool.and_false, Bool.false_and, and_true, true_and, and_self, Bool.not_not, Int.toNat_natCast, List.length_take, *]) <;> (first | done | rfl | omega | (simp; done) | (simp; omega)), by (try simp only [go_sem, ↓reduceIte, Nat.reduceEqDiff, Nat.reduceAdd, reduceCtorEq, CCT, CCv, CCr, CCk, Nat.reduceBNe, Nat.reduceLeDiff, Nat.reduceLT, beqI, bneI, List.length_map, decide_true, decide_false, Int.reduceEq, Int.reduceLT, Int.reduceLE, Int.reduceGE, Int.reduceGT, not_true_eq_false, not_false_eq_true, Bool.and_true, Bool.true_and, Bool.and_false, Bool.false_and, and_true, true_and, and_self, Bool.not_not, Int.toNat_natCast, List.length_take, *]) <;> (first | done | rfl | omega | (simp; done) | (simp; omega)), by (try simp only [go_sem, ↓reduceIte, Nat.reduceEqDiff, Nat.reduceAdd, reduceCtorEq, CCT, CCv, CCr, CCk, Nat.reduceBNe, Nat.reduceLeDiff, Nat.reduceLT, beqI, bneI, List.length_map, decide_true, decide_false, Int.reduceEq, Int.reduceLT, Int.reduceLE, Int.reduceGE, Int.reduceGT, not_true_eq_false, not_false_eq_true, Bool.and_true, Bool.true_and, Bool.and_false, Bool.false_and, and_true, true_and, and_self, Bool.not_not, Int.toNat_natCast, List.length_take, *]) <;> (first | done | rfl | omega | (simp; done) | (simp; omega))⟩
    · show t.fields.length < 0 + 9223372036854775900
      omega
    · exact ⟨by (try simp only [go_sem, ↓reduceIte, Nat.reduceEqDiff, Nat.reduceAdd, reduceCtorEq, CCT, CCv, CCr, CCk, Nat.reduceBNe, Nat.reduceLeDiff, Nat.reduceLT, beqI, bneI, List.length_map, decide_true, decide_false, Int.reduceEq, Int.reduceLT, Int.reduceLE, Int.reduceGE, Int.reduceGT, not_true_eq_false, not_false_eq_true, Bool.and_true, Bool.true_and, Bool.and_false, Bool.false_and, and_true, true_and, and_self, Bool.not_not, Int.toNat_natCast, List.length_take, *]) <;> (first | done | rfl | omega | (simp; done) | (simp; omega)), by (try simp only [go_sem, ↓reduceIte, Nat.reduceEqDiff, Nat.reduceAdd, reduceCtorEq, CCT, CCv, CCr, CCk, Nat.reduceBNe, Nat.reduceLeDiff, Nat.reduceLT, beqI, bneI, List.length_map, decide_true, decide_false, Int.reduceEq, Int.reduceLT, Int.reduceLE, Int.reduceGE, Int.reduceGT, not_true_eq_false, not_false_eq_true, Bool.and_true, Bool.true_and, Bool.and_false, Bool.false_and, and_true, true_and, and_self, Bool.not_not, Int.toNat_natCast, List.length_take, *]) <;> (first | done | rfl | omega | (simp; done) | (simp; omega)), by (try simp only [go_sem, ↓reduceIte, Nat.reduceEqDiff, Nat.reduceAdd, reduceCtorEq, CCT, CCv, CCr, CCk, Nat.reduceBNe, Nat.reduceLeDiff, Nat.reduceLT, beqI, bneI, List.length_map, decide_true, decide_false, Int.reduceEq, Int.reduceLT, Int.reduceLE, Int.reduceGE, Int.reduceGT, not_true_eq_false, not_false_eq_true, Bool.and_true, Bool.true_and, Bool.and_false, Bool.false_and, and_true, true_and, and_self, Bool.not_not, Int.toNat_natCast, List.length_take, *]) <;> (first | done | rfl | omega | (simp; done) | (simp; omega)), by (try simp only [go_sem, ↓reduceIte, Nat.reduceEqDiff, Nat.reduceAdd, reduceCtorEq, CCT, CCv, CCr, CCk, Nat.reduceBNe, Nat.reduceLeDiff, Nat.reduceLT, beqI, bneI, List.length_map, decide_true, decide_false, Int.reduceEq, Int.reduceLT, Int.reduceLE, Int.reduceGE, Int.reduceGT, not_true_eq_false, not_false_eq_true, Bool.and_true, Bool.true_and, Bool.and_false, Bool.false_and, and_true, true_and, and_self, Bool.not_not, Int.toNat_natCast, List.length_take, *]) <;> (first | done | rfl | omega | (simp; done) | (simp; omega))⟩
  · rintro ρ s ⟨h0, h1, h5⟩ K hx hr
    have hlt : ¬ (l.length : Int) < (l.length : Int) := by omega
    simp only [go_sem, ↓reduceIte, Nat.reduceEqDiff, Nat.reduceAdd, reduceCtorEq, CCT, CCv, CCr, CCk, Nat.reduceBNe, Nat.reduceLeDiff, Nat.reduceLT, beqI, bneI, List.length_map, decide_true, decide_false, Int.reduceEq, Int.reduceLT, Int.reduceLE, Int.reduceGE, Int.reduceGT, not_true_eq_false, not_false_eq_true, Bool.and_true, Bool.true_and, Bool.and_false, Bool.false_and, and_true, true_and, and_self, Bool.not_not, hx, h0, h1, h5, hlt]
    rfl
  · show l.length < 0 + 9223372036854775900
    omega
  · exact ⟨by (try simp only [go_sem, ↓reduceIte, Nat.reduceEqDiff, Nat.reduceAdd, reduceCtorEq, CCT, CCv, CCr, CCk, Nat.reduceBNe, Nat.reduceLeDiff, Nat.reduceLT, beqI, bneI, List.length_map, decide_true, decide_false, Int.reduceEq, Int.reduceLT, Int.reduceLE, Int.reduceGE, Int.reduceGT, not_true_eq_false, not_false_eq_true, Bool.and_true, Bool.true_and, Bool.and_false, Bool.false_and, and_true, true_and, and_self, Bool.not_not, Int.toNat_natCast, List.length_take, *]) <;> (first | done | rfl | omega | (simp; done) | (simp; omega)), by (try simp only [go_sem, ↓reduceIte, Nat.reduceEqDiff, Nat.reduceAdd, reduceCtorEq, CCT, CCv, CCr, CCk, Nat.reduceBNe, Nat.reduceLeDiff, Nat.reduceLT, beqI, bneI, List.length_map, decide_true, decide_false, Int.reduceEq, Int.reduceLT, Int.reduceLE, Int.reduceGE, Int.reduceGT, not_true_eq_false, not_false_eq_true, Bool.and_true, Bool.true_and, Bool.and_false, Bool.false_and, and_true, true_and, and_self, Bool.not_not, Int.toNat_natCast, List.length_take, *]) <;> (first | done | rfl | omega | (simp; done) | (simp; omega)), by (try simp only [go_sem, ↓reduceIte, Nat.reduceEqDiff, Nat.reduceAdd, reduceCtorEq, CCT, CCv, CCr, CCk, Nat.reduceBNe, Nat.reduceLeDiff, Nat.reduceLT, beqI, bneI, List.length_map, decide_true, decide_false, Int.reduceEq, Int.reduceLT, Int.reduceLE, Int.reduceGE, Int.reduceGT, not_true_eq_false, not_false_eq_true, Bool.and_true, Bool.true_and, Bool.and_false, Bool.false_and, and_true, true_and, and_self, Bool.not_not, Int.toNat_natCast, List.length_take, *]) <;> (first | done | rfl | omega | (simp; done) | (simp; omega))⟩
end Go.Proofs.Ytjembadjfiohpaa.Va
