/- chapter 5: the reference's Parse -/
import Derived.Test.YtjembadjfiohpaaFivC
import Derived.Test.YtjembadjfiohpaaVaE
import Derived.Test.YtjembadjfiohpaaMg2

namespace Go.Proofs.Ytjembadjfiohpaa.Va
open Go
set_option linter.unusedVariables false
set_option linter.unusedSimpArgs false
set_option maxRecDepth 100000
theorem refCheck_mt (d : Nat) : evalF Try.prog CC (d + 50) 13 [.mt true] St.empty = some (resC (0, 0)) := by
  show evalF Try.prog CC (d + 50) 13 [.mt true] St.empty = _
  kernel_rfl
theorem norm_gwF {fs : List Fld} {σ : St} {F : AV} {k : Option Nat} (h : Gw 41 (fs.map encF) σ F k) : normT T 30 F = .list 41 (decide (fs = [])) (fs.map encF) none := by
  rcases h with ⟨h0, rfl, _⟩ | ⟨h0, t, rfl, rfl, _⟩
  · have : fs = [] := by simpa using h0
    subst this
    simp [normT, ty_30]
  · have : fs ≠ [] := by simpa using h0
    simp [normT, ty_30, fullT, this]
theorem norm_gw {s : ByteArray} {v r : Bool} {fs : List Fld} {σ : St} {F : AV} {k : Option Nat} (h : Gw 41 (fs.map encF) σ F k) : normT T 32 (.agg 32 [.str s, .bool v, .bool r, F]) = encTy (toTyp (s, v, r, fs)) := by
  rcases h with ⟨h0, rfl, _⟩ | ⟨h0, t, rfl, rfl, _⟩
  · have : fs = [] := by simpa using h0
    subst this
    simp [normT, normL, ty_32, ty_9, ty_4, ty_30, Tab.comps, encTy, toTyp]
  · have : fs ≠ [] := by simpa using h0
    simp [normT, normL, ty_32, ty_9, ty_4, ty_30, Tab.comps, encTy, toTyp, fullT, this]
theorem refParse_c (d : Nat) (b : Bool) (l : List Int) (hb : Bytes l) (hl : l.length ≤ 9223372036854775807) : evalF Try.prog CC (d + 60) 20 [.list 5 b (bytesI l) none] St.empty = some (encPs (parseS l)) := by
  generalize hX : some (encPs (parseS l)) = X
  have hil : (bytesI l).length = l.length := by simp [bytesI]
  have hn := fun d => refTakeNumber_c d b l hb hl
  have hok := takeN_ok hb
  unfold parseS at hX
  simp only at hX
  generalize takeN l = p at hn hX hok
  obtain ⟨v, n, e⟩ := p
  simp only [encN] at hn hX hok
  refine wp_eq ?_
  rw [run_20 _ _ _ (by simp)]; unfold Try.f20; simp only [Option.getD_some]
  simp only [go_sem, ↓reduceIte, Nat.reduceEqDiff, Nat.reduceAdd, reduceCtorEq, CCT, CCv, CCr, CCk, Nat.reduceBNe, Nat.reduceLeDiff, Nat.reduceLT, beqI, bneI, List.length_map, decide_true, decide_false, Int.reduceEq, Int.reduceLT, Int.reduceLE, Int.reduceGE, Int.reduceGT, not_true_eq_false, not_false_eq_true, Bool.and_true, Bool.true_and, Bool.and_false, Bool.false_and, and_true, true_and, and_self, Bool.not_not, hn, hil]
  by_cases he : e = 0
  case neg =>
    rw [if_neg he] at hX
    simp only [go_sem, ↓reduceIte, Nat.reduceEqDiff, Nat.reduceAdd, reduceCtorEq, CCT, CCv, CCr, CCk, Nat.reduceBNe, Nat.reduceLeDiff, Nat.reduceLT, beqI, bneI, List.length_map, decide_true, decide_false, Int.reduceEq, Int.reduceLT, Int.reduceLE, Int.reduceGE, Int.reduceGT, not_true_eq_false, not_false_eq_true, Bool.and_true, Bool.true_and, Bool.and_false, Bool.false_and, and_true, true_and, and_self, Bool.not_not, hn, hil, he]
    exact hX
  subst he
  obtain ⟨hv0, hv1, m, rfl, hm1, hm2, hm3⟩ := hok rfl
  rw [if_pos rfl] at hX
  by_cases h32 : v > 32
  · rw [if_pos h32] at hX
    simp only [go_sem, ↓reduceIte, Nat.reduceEqDiff, Nat.reduceAdd, reduceCtorEq, CCT, CCv, CCr, CCk, Nat.reduceBNe, Nat.reduceLeDiff, Nat.reduceLT, beqI, bneI, List.length_map, decide_true, decide_false, Int.reduceEq, Int.reduceLT, Int.reduceLE, Int.reduceGE, Int.reduceGT, not_true_eq_false, not_false_eq_true, Bool.and_true, Bool.true_and, Bool.and_false, Bool.false_and, and_true, true_and, and_self, Bool.not_not, hn, hil, h32]
    exact hX
  rw [if_neg h32] at hX
  obtain ⟨w, rfl⟩ : ∃ w : Nat, v = w := ⟨v.toNat, by omega⟩
  rw [Int.toNat_natCast, Int.toNat_natCast] at hX
  have hww : IntKind.i64.wrap (w : Int) = w := by rw [IntKind.wrap_i64]; omega
  simp only [go_sem, ↓reduceIte, Nat.reduceEqDiff, Nat.reduceAdd, reduceCtorEq, CCT, CCv, CCr, CCk, Nat.reduceBNe, Nat.reduceLeDiff, Nat.reduceLT, beqI, bneI, List.length_map, decide_true, decide_false, Int.reduceEq, Int.reduceLT, Int.reduceLE, Int.reduceGE, Int.reduceGT, not_true_eq_false, not_false_eq_true, Bool.and_true, Bool.true_and, Bool.and_false, Bool.false_and, and_true, true_and, and_self, Bool.not_not, hn, hil, h32]
  clear hn hok
  refine W.iter_rule (fun k ρ σ => ρ 0 = .list 5 b (bytesI l) none ∧ ρ 5 = .int .u64 w ∧ ρ 9 = .int .i64 k ∧ ∃ (a : Nat) (acc : List Typ) (kk : Option Nat), ρ 6 = .int .i64 a ∧ a ≤ l.length ∧ Gw 32 (acc.map encTy) σ (ρ 8) kk ∧ acc.length = k ∧ pT (w - k) (l.drop a) a acc = pT w (l.drop m) m [] ∧ ∀ t ∈ acc, t.name.size ≤ 16) w ?_ ?_ _ 0 _ _ (Nat.zero_le _) ?_ ?_
  · rintro k ρ σ hk ⟨h0, h5, h9, a, acc, kk, h6, ha, hg, hacc, hpt, hnms⟩ K hK hx hr
    have hlt : (k : Int) < (w : Int) := by omega
    have hwrap : IntKind.i64.wrap ((k : Int) + 1) = ((k + 1 : Nat) : Int) := by rw [IntKind.wrap_i64]; omega
    have hdl : (l.drop a).length = l.length - a := List.length_drop
    have hn := fun d => refTakeText_c d b (l.drop a) (hb.drop a) (by omega)
    have hok := takeT_ok (hb.drop a)
    rw [show w - k = (w - (k + 1)) + 1 by omega, pT] at hpt
    try simp only at hpt
    unfold oneS at hpt
    try simp only at hpt
    generalize takeT (l.drop a) = p at hn hpt hok
    obtain ⟨s, n, e⟩ := p
    simp only [bytesI, encTk] at hn
    simp only at hpt hok
    simp only [go_sem, ↓reduceIte, Nat.reduceEqDiff, Nat.reduceAdd, reduceCtorEq, CCT, CCv, CCr, CCk, Nat.reduceBNe, Nat.reduceLeDiff, Nat.reduceLT, beqI, bneI, List.length_map, decide_true, decide_false, Int.reduceEq, Int.reduceLT, Int.reduceLE, Int.reduceGE, Int.reduceGT, not_true_eq_false, not_false_eq_true, Bool.and_true, Bool.true_and, Bool.and_false, Bool.false_and, and_true, true_and, and_self, Bool.not_not, h0, h5, h9, h6, hlt, hil, hww]
    refine W.slice_lo (l := l) (g := AV.int .u8) (e := 5) ty_43 (by omega) (by omega) ?_
    rw [Int.toNat_natCast]
    simp only [go_sem, ↓reduceIte, Nat.reduceEqDiff, Nat.reduceAdd, reduceCtorEq, CCT, CCv, CCr, CCk, Nat.reduceBNe, Nat.reduceLeDiff, Nat.reduceLT, beqI, bneI, List.length_map, decide_true, decide_false, Int.reduceEq, Int.reduceLT, Int.reduceLE, Int.reduceGE, Int.reduceGT, not_true_eq_false, not_false_eq_true, Bool.and_true, Bool.true_and, Bool.and_false, Bool.false_and, and_true, true_and, and_self, Bool.not_not, h0, h5, h9, h6, hn]
    by_cases he : e = 0
    case neg =>
      rw [if_neg he] at hpt
      simp only [if_neg he] at hpt
      rw [← hpt, if_neg he] at hX
      simp only [go_sem, ↓reduceIte, Nat.reduceEqDiff, Nat.reduceAdd, reduceCtorEq, CCT, CCv, CCr, CCk, Nat.reduceBNe, Nat.reduceLeDiff, Nat.reduceLT, beqI, bneI, List.length_map, decide_true, decide_false, Int.reduceEq, Int.reduceLT, Int.reduceLE, Int.reduceGE, Int.reduceGT, not_true_eq_false, not_false_eq_true, Bool.and_true, Bool.true_and, Bool.and_false, Bool.false_and, and_true, true_and, and_self, Bool.not_not, h0, h5, h9, h6, he, hr]
      exact hX
    subst he
    obtain ⟨m2, rfl, hm2, hnm2⟩ := hok rfl
    rw [if_pos rfl, Int.toNat_natCast, List.drop_drop] at hpt
    have e2 : IntKind.i64.wrap ((a : Int) + m2) = ((a + m2 : Nat) : Int) := by rw [IntKind.wrap_i64]; omega
    simp only [go_sem, ↓reduceIte, Nat.reduceEqDiff, Nat.reduceAdd, reduceCtorEq, CCT, CCv, CCr, CCk, Nat.reduceBNe, Nat.reduceLeDiff, Nat.reduceLT, beqI, bneI, List.length_map, decide_true, decide_false, Int.reduceEq, Int.reduceLT, Int.reduceLE, Int.reduceGE, Int.reduceGT, not_true_eq_false, not_false_eq_true, Bool.and_true, Bool.true_and, Bool.and_false, Bool.false_and, and_true, true_and, and_self, Bool.not_not, h0, h5, h9, h6, hn, e2]
    rw [List.length_drop] at hm2
    refine W.slice_lo (l := l) (g := AV.int .u8) (e := 5) ty_43 (by omega) (by omega) ?_
    rw [Int.toNat_natCast]
    have hn2 := refTakeInts_c (d + 57) b (l.drop (a + m2)) (hb.drop _) (by rw [List.length_drop]; omega)
    have hok2 := takeI_ok (hb.drop (a + m2))
    generalize takeI (l.drop (a + m2)) = q at hn2 hpt hok2
    obtain ⟨xs, n2, e2'⟩ := q
    simp only [bytesI, encI] at hn2
    simp only at hpt hok2
    rw [List.length_drop] at hok2
    simp only [go_sem, ↓reduceIte, Nat.reduceEqDiff, Nat.reduceAdd, reduceCtorEq, CCT, CCv, CCr, CCk, Nat.reduceBNe, Nat.reduceLeDiff, Nat.reduceLT, beqI, bneI, List.length_map, decide_true, decide_false, Int.reduceEq, Int.reduceLT, Int.reduceLE, Int.reduceGE, Int.reduceGT, not_true_eq_false, not_false_eq_true, Bool.and_true, Bool.true_and, Bool.and_false, Bool.false_and, and_true, true_and, and_self, Bool.not_not, h0, h5, h9, h6, e2]
    generalize hv8 : ρ 8 = v8 at hg
    refine W.call_gw_tup (xs := intsA xs) (vs := [.int .i64 n2, .int .i64 e2']) hn2 rfl rfl ?_
    intro v1 σ1 k1 hg1 hσ1
    have hg8 := Gw.call hg hσ1
    clear hσ1
    simp only [go_sem, ↓reduceIte, Nat.reduceEqDiff, Nat.reduceAdd, reduceCtorEq, CCT, CCv, CCr, CCk, Nat.reduceBNe, Nat.reduceLeDiff, Nat.reduceLT, beqI, bneI, List.length_map, decide_true, decide_false, Int.reduceEq, Int.reduceLT, Int.reduceLE, Int.reduceGE, Int.reduceGT, not_true_eq_false, not_false_eq_true, Bool.and_true, Bool.true_and, Bool.and_false, Bool.false_and, and_true, true_and, and_self, Bool.not_not, h0, h5, h9, h6, hv8]
    by_cases he2 : e2' = 0
    case neg =>
      rw [if_neg he2] at hpt
      simp only [if_neg he2] at hpt
      rw [← hpt, if_neg he2] at hX
      simp only [go_sem, ↓reduceIte, Nat.reduceEqDiff, Nat.reduceAdd, reduceCtorEq, CCT, CCv, CCr, CCk, Nat.reduceBNe, Nat.reduceLeDiff, Nat.reduceLT, beqI, bneI, List.length_map, decide_true, decide_false, Int.reduceEq, Int.reduceLT, Int.reduceLE, Int.reduceGE, Int.reduceGT, not_true_eq_false, not_false_eq_true, Bool.and_true, Bool.true_and, Bool.and_false, Bool.false_and, and_true, true_and, and_self, Bool.not_not, h0, h5, h9, h6, he2, hr]
      exact hX
    subst he2
    obtain ⟨hl1000, ⟨m3, rfl, hm3'⟩, hall⟩ := hok2 rfl
    rw [if_pos rfl] at hpt
    have e4 : IntKind.i64.wrap (((a + m2 : Nat) : Int) + m3) = ((a + m2 + m3 : Nat) : Int) := by rw [IntKind.wrap_i64]; omega
    simp only [go_sem, ↓reduceIte, Nat.reduceEqDiff, Nat.reduceAdd, reduceCtorEq, CCT, CCv, CCr, CCk, Nat.reduceBNe, Nat.reduceLeDiff, Nat.reduceLT, beqI, bneI, List.length_map, decide_true, decide_false, Int.reduceEq, Int.reduceLT, Int.reduceLE, Int.reduceGE, Int.reduceGT, not_true_eq_false, not_false_eq_true, Bool.and_true, Bool.true_and, Bool.and_false, Bool.false_and, and_true, true_and, and_self, Bool.not_not, h0, h5, h9, h6, hv8, e4]
    refine W.gw_len hg1 ty_33 ?_
    have hil2 : (intsA xs).length = xs.length := by simp [intsA]
    have hrem : (xs.length : Int).tmod 5 = ((xs.length % 5 : Nat) : Int) := by rw [Int.tmod_eq_emod_of_nonneg (by omega)]; omega
    by_cases h5x : xs.length % 5 = 1
    case neg =>
      rw [if_pos (show xs.length % 5 ≠ 1 ∨ 3 < at0 xs 0 from .inl h5x)] at hpt
      dsimp only at hpt
      rw [if_neg (show ¬ (3 : Int) = 0 by decide)] at hpt
      rw [← hpt, if_neg (by decide)] at hX
      have h5' := eq_false (show ¬ ((xs.length % 5 : Nat) : Int) = 1 by omega)
      simp only [go_sem, ↓reduceIte, Nat.reduceEqDiff, Nat.reduceAdd, reduceCtorEq, CCT, CCv, CCr, CCk, Nat.reduceBNe, Nat.reduceLeDiff, Nat.reduceLT, beqI, bneI, List.length_map, decide_true, decide_false, Int.reduceEq, Int.reduceLT, Int.reduceLE, Int.reduceGE, Int.reduceGT, not_true_eq_false, not_false_eq_true, Bool.and_true, Bool.true_and, Bool.and_false, Bool.false_and, and_true, true_and, and_self, Bool.not_not, h0, h5, h9, h6, hv8, hil2, hrem, h5', hr]
      exact hX
    have h5' := eq_true (show ((xs.length % 5 : Nat) : Int) = 1 by omega)
    have hx0 : 0 < xs.length := by omega
    have hget : (intsA xs)[(0 : Int).toNat]? = some (.int .i64 (at0 xs 0)) := by
      rw [show (0 : Int) = ((0 : Nat) : Int) from rfl, at0_nat hx0]; simp [intsA, hx0]
    obtain ⟨x0, x1⟩ := hall _ (List.getElem_mem hx0)
    rw [← at0_nat hx0] at x0 x1
    rw [show ((0 : Nat) : Int) = 0 from rfl] at x0 x1
    generalize at0 xs 0 = x at hget x0 x1 hpt
    simp only [go_sem, ↓reduceIte, Nat.reduceEqDiff, Nat.reduceAdd, reduceCtorEq, CCT, CCv, CCr, CCk, Nat.reduceBNe, Nat.reduceLeDiff, Nat.reduceLT, beqI, bneI, List.length_map, decide_true, decide_false, Int.reduceEq, Int.reduceLT, Int.reduceLE, Int.reduceGE, Int.reduceGT, not_true_eq_false, not_false_eq_true, Bool.and_true, Bool.true_and, Bool.and_false, Bool.false_and, and_true, true_and, and_self, Bool.not_not, h0, h5, h9, h6, hv8, hil2, hrem, h5']
    refine W.gw_idx hg1 ty_33 (by omega) hget ?_
    by_cases hx3 : x > 3
    · rw [if_pos (show xs.length % 5 ≠ 1 ∨ 3 < x from .inr hx3)] at hpt
      dsimp only at hpt
      rw [if_neg (show ¬ (3 : Int) = 0 by decide)] at hpt
      rw [← hpt, if_neg (by decide)] at hX
      simp only [go_sem, ↓reduceIte, Nat.reduceEqDiff, Nat.reduceAdd, reduceCtorEq, CCT, CCv, CCr, CCk, Nat.reduceBNe, Nat.reduceLeDiff, Nat.reduceLT, beqI, bneI, List.length_map, decide_true, decide_false, Int.reduceEq, Int.reduceLT, Int.reduceLE, Int.reduceGE, Int.reduceGT, not_true_eq_false, not_false_eq_true, Bool.and_true, Bool.true_and, Bool.and_false, Bool.false_and, and_true, true_and, and_self, Bool.not_not, h0, h5, h9, h6, hv8, hx3, hr]
      exact hX
    rw [if_neg (show ¬ (xs.length % 5 ≠ 1 ∨ 3 < x) by omega)] at hpt
    dsimp only at hpt
    rw [if_pos rfl] at hpt
    simp only [go_sem, ↓reduceIte, Nat.reduceEqDiff, Nat.reduceAdd, reduceCtorEq, CCT, CCv, CCr, CCk, Nat.reduceBNe, Nat.reduceLeDiff, Nat.reduceLT, beqI, bneI, List.length_map, decide_true, decide_false, Int.reduceEq, Int.reduceLT, Int.reduceLE, Int.reduceGE, Int.reduceGT, not_true_eq_false, not_false_eq_true, Bool.and_true, Bool.true_and, Bool.and_false, Bool.false_and, and_true, true_and, and_self, Bool.not_not, h0, h5, h9, h6, hv8, hx3]
    have hm5 : x.tmod 2 = x % 2 := Int.tmod_eq_emod_of_nonneg x0
    refine W.br_ok (by kernel_rfl) ?_
    simp only [go_sem, ↓reduceIte, Nat.reduceEqDiff, Nat.reduceAdd, reduceCtorEq, CCT, CCv, CCr, CCk, Nat.reduceBNe, Nat.reduceLeDiff, Nat.reduceLT, beqI, bneI, List.length_map, decide_true, decide_false, Int.reduceEq, Int.reduceLT, Int.reduceLE, Int.reduceGE, Int.reduceGT, not_true_eq_false, not_false_eq_true, Bool.and_true, Bool.true_and, Bool.and_false, Bool.false_and, and_true, true_and, and_self, Bool.not_not, h0, h5, h9, h6, hv8, hx3]
    refine W.gw_idx hg1 ty_33 (by omega) hget ?_
    simp only [go_sem, ↓reduceIte, Nat.reduceEqDiff, Nat.reduceAdd, reduceCtorEq, CCT, CCv, CCr, CCk, Nat.reduceBNe, Nat.reduceLeDiff, Nat.reduceLT, beqI, bneI, List.length_map, decide_true, decide_false, Int.reduceEq, Int.reduceLT, Int.reduceLE, Int.reduceGE, Int.reduceGT, not_true_eq_false, not_false_eq_true, Bool.and_true, Bool.true_and, Bool.and_false, Bool.false_and, and_true, true_and, and_self, Bool.not_not, h0, h5, h9, h6, hv8, hx3, hm5]
    refine W.gw_idx hg1 ty_33 (by omega) hget ?_
    obtain ⟨tt, hv⟩ := Gf.list (.inl hg1) (by intro h; have := congrArg List.length h; simp only [intsA, List.length_map, List.length_nil] at this; omega)
    subst hv
    simp only [go_sem, ↓reduceIte, Nat.reduceEqDiff, Nat.reduceAdd, reduceCtorEq, CCT, CCv, CCr, CCk, Nat.reduceBNe, Nat.reduceLeDiff, Nat.reduceLT, beqI, bneI, List.length_map, decide_true, decide_false, Int.reduceEq, Int.reduceLT, Int.reduceLE, Int.reduceGE, Int.reduceGT, not_true_eq_false, not_false_eq_true, Bool.and_true, Bool.true_and, Bool.and_false, Bool.false_and, and_true, true_and, and_self, Bool.not_not, h0, h5, h9, h6, hv8, hx3, hm5]
    obtain ⟨N, hN⟩ : ∃ N, xs.length = 5 * N + 1 := ⟨xs.length / 5, by omega⟩
    generalize (decide (x % 2 = 1)) = bv at hpt ⊢
    have hbr : decide (1 < x) = decide (x > 1) := rfl
    rw [hbr] at hpt
    generalize (decide (x > 1)) = br' at hpt ⊢
    have hid : σ1.next = σ1.next := rfl
    generalize hnx : σ1.next = id1 at hid
    refine W.iter_rule (fun j ρ s' => ρ 0 = .list 5 b (bytesI l) none ∧ ρ 5 = .int .u64 w ∧ ρ 9 = .int .i64 k ∧ ρ 6 = .int .i64 ((a + m2 + m3 : Nat) : Int) ∧ ρ 8 = v8 ∧ ρ 13 = .list 3 false (intsA xs) (some tt) ∧ ρ 16 = .ptr 32 id1 [0] ∧ ρ 17 = .int .i64 ((1 + 5 * j : Nat) : Int) ∧ Gw 32 (acc.map encTy) s' v8 kk ∧ ∃ (fs : List Fld) (F : AV) (k3 : Option Nat), fs.length = j ∧ fs ++ chunk (xs.drop (1 + 5 * j)) = chunk xs.tail ∧ s'.obj id1 = some (.cells 32 [.agg 32 [.str s, .bool bv, .bool br', F]]) ∧ Gw 41 (fs.map encF) s' F k3 ∧ (k3 = none ∨ k3 ≠ kk)) N ?_ ?_ _ 0 _ _ (Nat.zero_le _) ?_ ?_
    · clear hx hr hg hg8
      rintro j ρ s' hj ⟨h0, h5, h9, h6, h8, h13, h16, h17, hg8, fs, F, k3, hfl, hch, hob, hgF, hk3⟩ K2 hK2 hx hr
      have hlt3 : ((1 + 5 * j : Nat) : Int) < (xs.length : Int) := by omega
      have w1 : IntKind.i64.wrap (((1 + 5 * j : Nat) : Int) + 1) = ((1 + 5 * j + 1 : Nat) : Int) := by rw [IntKind.wrap_i64]; omega
      have w2 : IntKind.i64.wrap (((1 + 5 * j : Nat) : Int) + 2) = ((1 + 5 * j + 2 : Nat) : Int) := by rw [IntKind.wrap_i64]; omega
      have w3 : IntKind.i64.wrap (((1 + 5 * j : Nat) : Int) + 3) = ((1 + 5 * j + 3 : Nat) : Int) := by rw [IntKind.wrap_i64]; omega
      have w4 : IntKind.i64.wrap (((1 + 5 * j : Nat) : Int) + 4) = ((1 + 5 * j + 4 : Nat) : Int) := by rw [IntKind.wrap_i64]; omega
      have w5 : IntKind.i64.wrap (((1 + 5 * j : Nat) : Int) + 5) = ((1 + 5 * (j + 1) : Nat) : Int) := by rw [IntKind.wrap_i64]; omega
      have hix : ∀ q, q < 5 → idxOk ((1 + 5 * j + q : Nat) : Int) xs.length = true := fun q hq => by simp [idxOk]; omega
      have hgt : ∀ q (hq : q < 5), (intsA xs)[((1 + 5 * j + q : Nat) : Int).toNat]? = some (.int .i64 (xs[1 + 5 * j + q]'(by omega))) := fun q hq => by rw [Int.toNat_natCast]; simp only [intsA, List.getElem?_map]; rw [List.getElem?_eq_getElem (by omega)]; rfl
      have hch2 : xs.drop (1 + 5 * j) = xs[1 + 5 * j + 0]'(by omega) :: xs[1 + 5 * j + 1]'(by omega) :: xs[1 + 5 * j + 2]'(by omega) :: xs[1 + 5 * j + 3]'(by omega) :: xs[1 + 5 * j + 4]'(by omega) :: xs.drop (1 + 5 * (j + 1)) := by
        rw [List.drop_eq_getElem_cons (i := 1 + 5 * j) (by omega), List.drop_eq_getElem_cons (i := 1 + 5 * j + 1) (by omega), List.drop_eq_getElem_cons (i := 1 + 5 * j + 1 + 1) (by omega), List.drop_eq_getElem_cons (i := 1 + 5 * j + 1 + 1 + 1) (by omega), List.drop_eq_getElem_cons (i := 1 + 5 * j + 1 + 1 + 1 + 1) (by omega)]
        rfl
      have i0 := hix 0 (by decide)
      have i1 := hix 1 (by decide)
      have i2 := hix 2 (by decide)
      have i3 := hix 3 (by decide)
      have i4 := hix 4 (by decide)
      have g0 := hgt 0 (by decide)
      have g1 := hgt 1 (by decide)
      have g2 := hgt 2 (by decide)
      have g3 := hgt 3 (by decide)
      have g4 := hgt 4 (by decide)
      clear hix hgt
      generalize xs[1 + 5 * j + 0]'(by omega) = a0 at g0 hch2
      generalize xs[1 + 5 * j + 1]'(by omega) = a1 at g1 hch2
      generalize xs[1 + 5 * j + 2]'(by omega) = a2 at g2 hch2
      generalize xs[1 + 5 * j + 3]'(by omega) = a3 at g3 hch2
      generalize xs[1 + 5 * j + 4]'(by omega) = a4 at g4 hch2
      rw [hch2, chunk] at hch
      rw [Nat.add_zero] at g0 i0
      simp only [go_sem, ↓reduceIte, Nat.reduceEqDiff, Nat.reduceAdd, reduceCtorEq, CCT, CCv, CCr, CCk, Nat.reduceBNe, Nat.reduceLeDiff, Nat.reduceLT, beqI, bneI, List.length_map, decide_true, decide_false, Int.reduceEq, Int.reduceLT, Int.reduceLE, Int.reduceGE, Int.reduceGT, not_true_eq_false, not_false_eq_true, Bool.and_true, Bool.true_and, Bool.and_false, Bool.false_and, and_true, true_and, and_self, Bool.not_not, h0, h5, h9, h6, h8, h13, h16, h17, hlt3, hil2]
      refine W.br_ok (by kernel_rfl) ?_
      simp only [go_sem, ↓reduceIte, Nat.reduceEqDiff, Nat.reduceAdd, reduceCtorEq, CCT, CCv, CCr, CCk, Nat.reduceBNe, Nat.reduceLeDiff, Nat.reduceLT, beqI, bneI, List.length_map, decide_true, decide_false, Int.reduceEq, Int.reduceLT, Int.reduceLE, Int.reduceGE, Int.reduceGT, not_true_eq_false, not_false_eq_true, Bool.and_true, Bool.true_and, Bool.and_false, Bool.false_and, and_true, true_and, and_self, Bool.not_not, h0, h5, h9, h6, h8, h13, h16, h17, hob, hil2, w1, w2, w3, w4, i0, i1, i2, i3, i4, g0, g1, g2, g3, g4]
      refine W.gw_app (T := T) (t := 30) hgF (ys := [encF ⟨a0, a1, a2, a3, a4⟩]) (by simp) rfl ?_ ?_ ?_
      · simp only [go_sem, ↓reduceIte, Nat.reduceEqDiff, Nat.reduceAdd, reduceCtorEq, CCT, CCv, CCr, CCk, Nat.reduceBNe, Nat.reduceLeDiff, Nat.reduceLT, beqI, bneI, List.length_map, decide_true, decide_false, Int.reduceEq, Int.reduceLT, Int.reduceLE, Int.reduceGE, Int.reduceGT, not_true_eq_false, not_false_eq_true, Bool.and_true, Bool.true_and, Bool.and_false, Bool.false_and, and_true, true_and, and_self, Bool.not_not, h0, h5, h9, h6, h8, h13, h16, h17, hob, hil2, w1, w2, w3, w4, i0, i1, i2, i3, i4, g0, g1, g2, g3, g4, encF]
      · refine roomy_of ?_ (by decide)
        simp only [List.length_map, List.length_singleton]
        omega
      simp only [go_sem, ↓reduceIte, Nat.reduceEqDiff, Nat.reduceAdd, reduceCtorEq, CCT, CCv, CCr, CCk, Nat.reduceBNe, Nat.reduceLeDiff, Nat.reduceLT, beqI, bneI, List.length_map, decide_true, decide_false, Int.reduceEq, Int.reduceLT, Int.reduceLE, Int.reduceGE, Int.reduceGT, not_true_eq_false, not_false_eq_true, Bool.and_true, Bool.true_and, Bool.and_false, Bool.false_and, and_true, true_and, and_self, Bool.not_not, h0, h5, h9, h6, h8, h13, h16, h17, hob, w5]
      refine hK2 _ _ ?_
      have hg8' : Gw 32 (acc.map encTy) (s'.tokNew k3) v8 kk := by
        refine Gw.tokNew hg8 ?_
        rcases hk3 with rfl | h
        · exact tok_or
        · exact .inr h
      refine ⟨by (try simp only [go_sem, ↓reduceIte, Nat.reduceEqDiff, Nat.reduceAdd, reduceCtorEq, CCT, CCv, CCr, CCk, Nat.reduceBNe, Nat.reduceLeDiff, Nat.reduceLT, beqI, bneI, List.length_map, decide_true, decide_false, Int.reduceEq, Int.reduceLT, Int.reduceLE, Int.reduceGE, Int.reduceGT, not_true_eq_false, not_false_eq_true, Bool.and_true, Bool.true_and, Bool.and_false, Bool.false_and, and_true, true_and, and_self, Bool.not_not, Int.toNat_natCast, List.length_take, *]) <;> (first | done | rfl | omega | (simp; done) | (simp; omega)), by (try simp only [go_sem, ↓reduceIte, Nat.reduceEqDiff, Nat.reduceAdd, reduceCtorEq, CCT, CCv, CCr, CCk, Nat.reduceBNe, Nat.reduceLeDiff, Nat.reduceLT, beqI, bneI, List.length_map, decide_true, decide_false, Int.reduceEq, Int.reduceLT, Int.reduceLE, Int.reduceGE, Int.reduceGT, not_true_eq_false, not_false_eq_true, Bool.and_true, Bool.true_and, Bool.and_false, Bool.false_and, and_true, true_and, and_self, Bool.not_not, Int.toNat_natCast, List.length_take, *]) <;> (first | done | rfl | omega | (simp; done) | (simp; omega)), by (try simp only [go_sem, ↓reduceIte, Nat.reduceEqDiff, Nat.reduceAdd, reduceCtorEq, CCT, CCv, CCr, CCk, Nat.reduceBNe, Nat.reduceLeDiff, Nat.reduceLT, beqI, bneI, List.length_map, decide_true, decide_false, Int.reduceEq, Int.reduceLT, Int.reduceLE, Int.reduceGE, Int.reduceGT, not_true_eq_false, not_false_eq_true, Bool.and_true, Bool.true_and, Bool.and_false, Bool.false_and, and_true, true_and, and_self, Bool.not_not, Int.toNat_natCast, List.length_take, *]) <;> (first | done | rfl | omega | (simp; done) | (simp; omega)), by (try simp only [go_sem, ↓reduceIte, Nat.reduceEqDiff, Nat.reduceAdd, reduceCtorEq, CCT, CCv, CCr, CCk, Nat.reduceBNe, Nat.reduceLeDiff, Nat.reduceLT, beqI, bneI, List.length_map, decide_true, decide_false, Int.reduceEq, Int.reduceLT, Int.reduceLE, Int.reduceGE, Int.reduceGT, not_true_eq_false, not_false_eq_true, Bool.and_true, Bool.true_and, Bool.and_false, Bool.false_and, and_true, true_and, and_self, Bool.not_not, Int.toNat_natCast, List.length_take, *]) <;> (first | done | rfl | omega | (simp; done) | (simp; omega)), by (try simp only [go_sem, ↓reduceIte, Nat.reduceEqDiff, Nat.reduceAdd, reduceCtorEq, CCT, CCv, CCr, CCk, Nat.reduceBNe, Nat.reduceLeDiff, Nat.reduceLT, beqI, bneI, List.length_map, decide_true, decide_false, Int.reduceEq, Int.reduceLT, Int.reduceLE, Int.reduceGE, Int.reduceGT, not_true_eq_false, not_false_eq_true, Bool.and_true, Bool.true_and, Bool.and_false, Bool.false_and, and_true, true_and, and_self, Bool.not_not, Int.toNat_natCast, List.length_take, *]) <;> (first | done | rfl | omega | (simp; done) | (simp; omega)), by (try simp only [go_sem, ↓reduceIte, Nat.reduceEqDiff, Nat.reduceAdd, reduceCtorEq, CCT, CCv, CCr, CCk, Nat.reduceBNe, Nat.reduceLeDiff, Nat.reduceLT, beqI, bneI, List.length_map, decide_true, decide_false, Int.reduceEq, Int.reduceLT, Int.reduceLE, Int.reduceGE, Int.reduceGT, not_true_eq_false, not_false_eq_true, Bool.and_true, Bool.true_and, Bool.and_false, Bool.false_and, and_true, true_and, and_self, Bool.not_not, Int.toNat_natCast, List.length_take, *]) <;> (first | done | rfl | omega | (simp; done) | (simp; omega)), by (try simp only [go_sem, ↓reduceIte, Nat.reduceEqDiff, Nat.reduceAdd, reduceCtorEq, CCT, CCv, CCr, CCk, Nat.reduceBNe, Nat.reduceLeDiff, Nat.reduceLT, beqI, bneI, List.length_map, decide_true, decide_false, Int.reduceEq, Int.reduceLT, Int.reduceLE, Int.reduceGE, Int.reduceGT, not_true_eq_false, not_false_eq_true, Bool.and_true, Bool.true_and, Bool.and_false, Bool.false_and, and_true, true_and, and_self, Bool.not_not, Int.toNat_natCast, List.length_take, *]) <;> (first | done | rfl | omega | (simp; done) | (simp; omega)), by (try simp only [go_sem, ↓reduceIte, Nat.reduceEqDiff, Nat.reduceAdd, reduceCtorEq, CCT, CCv, CCr, CCk, Nat.reduceBNe, Nat.reduceLeDiff, Nat.reduceLT, beqI, bneI, List.length_map, decide_true, decide_false, Int.reduceEq, Int.reduceLT, Int.reduceLE, Int.reduceGE, Int.reduceGT, not_true_eq_false, not_false_eq_true, Bool.and_true, Bool.true_and, Bool.and_false, Bool.false_and, and_true, true_and, and_self, Bool.not_not, Int.toNat_natCast, List.length_take, *]) <;> (first | done | rfl | omega | (simp; done) | (simp; omega)), Gw.same hg8' (fun _ => rfl) rfl, fs ++ [⟨a0, a1, a2, a3, a4⟩], .list 41 false (fs.map encF ++ [encF ⟨a0, a1, a2, a3, a4⟩]) (some (s'.ntok + 1)), some s'.ntok, by simp [hfl], by rw [List.append_assoc]; exact hch, by (try simp only [go_sem, ↓reduceIte, Nat.reduceEqDiff, Nat.reduceAdd, reduceCtorEq, CCT, CCv, CCr, CCk, Nat.reduceBNe, Nat.reduceLeDiff, Nat.reduceLT, beqI, bneI, List.length_map, decide_true, decide_false, Int.reduceEq, Int.reduceLT, Int.reduceLE, Int.reduceGE, Int.reduceGT, not_true_eq_false, not_false_eq_true, Bool.and_true, Bool.true_and, Bool.and_false, Bool.false_and, and_true, true_and, and_self, Bool.not_not, Int.toNat_natCast, List.length_take, *]) <;> (first | done | rfl | omega | (simp; done) | (simp; omega)), ?_, ?_⟩
      · rw [List.map_append]
        exact Gw.same (.new (by simp)) (fun _ => rfl) rfl
      · right
        intro h
        subst h
        exact absurd (Gw.lt hg8) (Nat.lt_irrefl _)
    · clear hx hr hg hg8
      rintro ρ s' ⟨h0, h5, h9, h6, h8, h13, h16, h17, hg8, fs, F, k3, hfl, hch, hob, hgF, hk3⟩ K2 hx hr
      have hlt3 : ¬ ((1 + 5 * N : Nat) : Int) < (xs.length : Int) := by omega
      rw [List.drop_eq_nil_of_le (by omega)] at hch
      have hch : fs = chunk xs.tail := by simpa [chunk] using hch
      subst hch
      have hnt := norm_gwF hgF
      simp only [go_sem, ↓reduceIte, Nat.reduceEqDiff, Nat.reduceAdd, reduceCtorEq, CCT, CCv, CCr, CCk, Nat.reduceBNe, Nat.reduceLeDiff, Nat.reduceLT, beqI, bneI, List.length_map, decide_true, decide_false, Int.reduceEq, Int.reduceLT, Int.reduceLE, Int.reduceGE, Int.reduceGT, not_true_eq_false, not_false_eq_true, Bool.and_true, Bool.true_and, Bool.and_false, Bool.false_and, and_true, true_and, and_self, Bool.not_not, hx, h0, h5, h9, h6, h8, h13, h16, h17, hlt3, hil2, hob, hnt]
      refine W.gw_app (T := T) (t := 22) hg8 (ys := [encTy (toTyp (s, bv, br', chunk xs.tail))]) (by simp) rfl ?_ ?_ ?_
      · simp only [go_sem, ↓reduceIte, Nat.reduceEqDiff, Nat.reduceAdd, reduceCtorEq, CCT, CCv, CCr, CCk, Nat.reduceBNe, Nat.reduceLeDiff, Nat.reduceLT, beqI, bneI, List.length_map, decide_true, decide_false, Int.reduceEq, Int.reduceLT, Int.reduceLE, Int.reduceGE, Int.reduceGT, not_true_eq_false, not_false_eq_true, Bool.and_true, Bool.true_and, Bool.and_false, Bool.false_and, and_true, true_and, and_self, Bool.not_not, hx, h0, h5, h9, h6, h8, h13, h16, h17, hnt, toTyp]
      · refine roomy_of ?_ (by decide)
        simp only [List.length_map, List.length_singleton]
        omega
      simp only [go_sem, ↓reduceIte, Nat.reduceEqDiff, Nat.reduceAdd, reduceCtorEq, CCT, CCv, CCr, CCk, Nat.reduceBNe, Nat.reduceLeDiff, Nat.reduceLT, beqI, bneI, List.length_map, decide_true, decide_false, Int.reduceEq, Int.reduceLT, Int.reduceLE, Int.reduceGE, Int.reduceGT, not_true_eq_false, not_false_eq_true, Bool.and_true, Bool.true_and, Bool.and_false, Bool.false_and, and_true, true_and, and_self, Bool.not_not, h0, h5, h9, h6, h8, hwrap]
      refine hK _ _ ?_
      refine ⟨by (try simp only [go_sem, ↓reduceIte, Nat.reduceEqDiff, Nat.reduceAdd, reduceCtorEq, CCT, CCv, CCr, CCk, Nat.reduceBNe, Nat.reduceLeDiff, Nat.reduceLT, beqI, bneI, List.length_map, decide_true, decide_false, Int.reduceEq, Int.reduceLT, Int.reduceLE, Int.reduceGE, Int.reduceGT, not_true_eq_false, not_false_eq_true, Bool.and_true, Bool.true_and, Bool.and_false, Bool.false_and, and_true, true_and, and_self, Bool.not_not, Int.toNat_natCast, List.length_take, *]) <;> (first | done | rfl | omega | (simp; done) | (simp; omega)), by (try simp only [go_sem, ↓reduceIte, Nat.reduceEqDiff, Nat.reduceAdd, reduceCtorEq, CCT, CCv, CCr, CCk, Nat.reduceBNe, Nat.reduceLeDiff, Nat.reduceLT, beqI, bneI, List.length_map, decide_true, decide_false, Int.reduceEq, Int.reduceLT, Int.reduceLE, Int.reduceGE, Int.reduceGT, not_true_eq_false, not_false_eq_true, Bool.and_true, Bool.true_and, Bool.and_false, Bool.false_and, and_true, true_and, and_self, Bool.not_not, Int.toNat_natCast, List.length_take, *]) <;> (first | done | rfl | omega | (simp; done) | (simp; omega)), by (try simp only [go_sem, ↓reduceIte, Nat.reduceEqDiff, Nat.reduceAdd, reduceCtorEq, CCT, CCv, CCr, CCk, Nat.reduceBNe, Nat.reduceLeDiff, Nat.reduceLT, beqI, bneI, List.length_map, decide_true, decide_false, Int.reduceEq, Int.reduceLT, Int.reduceLE, Int.reduceGE, Int.reduceGT, not_true_eq_false, not_false_eq_true, Bool.and_true, Bool.true_and, Bool.and_false, Bool.false_and, and_true, true_and, and_self, Bool.not_not, Int.toNat_natCast, List.length_take, *]) <;> (first | done | rfl | omega | (simp; done) | (simp; omega)), a + m2 + m3, acc ++ [toTyp (s, bv, br', chunk xs.tail)], some s'.ntok, by (try simp only [go_sem, ↓reduceIte, Nat.reduceEqDiff, Nat.reduceAdd, reduceCtorEq, CCT, CCv, CCr, CCk, Nat.reduceBNe, Nat.reduceLeDiff, Nat.reduceLT, beqI, bneI, List.length_map, decide_true, decide_false, Int.reduceEq, Int.reduceLT, Int.reduceLE, Int.reduceGE, Int.reduceGT, not_true_eq_false, not_false_eq_true, Bool.and_true, Bool.true_and, Bool.and_false, Bool.false_and, and_true, true_and, and_self, Bool.not_not, Int.toNat_natCast, List.length_take, *]) <;> (first | done | rfl | omega | (simp; done) | (simp; omega)), by omega, ?_, by simp [hacc], ?_, ?_⟩
      · simp only [go_sem, ↓reduceIte, Nat.reduceEqDiff, Nat.reduceAdd, reduceCtorEq, CCT, CCv, CCr, CCk, Nat.reduceBNe, Nat.reduceLeDiff, Nat.reduceLT, beqI, bneI, List.length_map, decide_true, decide_false, Int.reduceEq, Int.reduceLT, Int.reduceLE, Int.reduceGE, Int.reduceGT, not_true_eq_false, not_false_eq_true, Bool.and_true, Bool.true_and, Bool.and_false, Bool.false_and, and_true, true_and, and_self, Bool.not_not, *]
        rw [List.map_append]
        exact Gw.same (.new (by simp)) (fun _ => rfl) rfl
      · rw [← hpt]
        have e1 : ((m2 : Int) + (m3 : Int)).toNat = m2 + m3 := by omega
        rw [e1, List.drop_drop, Nat.add_assoc]
        push_cast
        rfl
      · intro t ht
        rcases List.mem_append.1 ht with ht | ht
        · exact hnms t ht
        · simp only [List.mem_singleton] at ht
          subst ht
          have := hnm2
          simp only [nameB, Bool.and_eq_true, decide_eq_true_eq] at this
          exact this.2
    · show N < 0 + 9223372036854775900
      omega
    · refine ⟨by (try simp only [go_sem, ↓reduceIte, Nat.reduceEqDiff, Nat.reduceAdd, reduceCtorEq, CCT, CCv, CCr, CCk, Nat.reduceBNe, Nat.reduceLeDiff, Nat.reduceLT, beqI, bneI, List.length_map, decide_true, decide_false, Int.reduceEq, Int.reduceLT, Int.reduceLE, Int.reduceGE, Int.reduceGT, not_true_eq_false, not_false_eq_true, Bool.and_true, Bool.true_and, Bool.and_false, Bool.false_and, and_true, true_and, and_self, Bool.not_not, Int.toNat_natCast, List.length_take, *]) <;> (first | done | rfl | omega | (simp; done) | (simp; omega)), by (try simp only [go_sem, ↓reduceIte, Nat.reduceEqDiff, Nat.reduceAdd, reduceCtorEq, CCT, CCv, CCr, CCk, Nat.reduceBNe, Nat.reduceLeDiff, Nat.reduceLT, beqI, bneI, List.length_map, decide_true, decide_false, Int.reduceEq, Int.reduceLT, Int.reduceLE, Int.reduceGE, Int.reduceGT, not_true_eq_false, not_false_eq_true, Bool.and_true, Bool.true_and, Bool.and_false, Bool.false_and, and_true, true_and, and_self, Bool.not_not, Int.toNat_natCast, List.length_take, *]) <;> (first | done | rfl | omega | (simp; done) | (simp; omega)), by (try simp only [go_sem, ↓reduceIte, Nat.reduceEqDiff, Nat.reduceAdd, reduceCtorEq, CCT, CCv, CCr, CCk, Nat.reduceBNe, Nat.reduceLeDiff, Nat.reduceLT, beqI, bneI, List.length_map, decide_true, decide_false, Int.reduceEq, Int.reduceLT, Int.reduceLE, Int.reduceGE, Int.reduceGT, not_true_eq_false, not_false_eq_true, Bool.and_true, Bool.true_and, Bool.and_false, Bool.false_and, and_true, true_and, and_self, Bool.not_not, Int.toNat_natCast, List.length_take, *]) <;> (first | done | rfl | omega | (simp; done) | (simp; omega)), by (try simp only [go_sem, ↓reduceIte, Nat.reduceEqDiff, Nat.reduceAdd, reduceCtorEq, CCT, CCv, CCr, CCk, Nat.reduceBNe, Nat.reduceLeDiff, Nat.reduceLT, beqI, bneI, List.length_map, decide_true, decide_false, Int.reduceEq, Int.reduceLT, Int.reduceLE, Int.reduceGE, Int.reduceGT, not_true_eq_false, not_false_eq_true, Bool.and_true, Bool.true_and, Bool.and_false, Bool.false_and, and_true, true_and, and_self, Bool.not_not, Int.toNat_natCast, List.length_take, *]) <;> (first | done | rfl | omega | (simp; done) | (simp; omega)), by (try simp only [go_sem, ↓reduceIte, Nat.reduceEqDiff, Nat.reduceAdd, reduceCtorEq, CCT, CCv, CCr, CCk, Nat.reduceBNe, Nat.reduceLeDiff, Nat.reduceLT, beqI, bneI, List.length_map, decide_true, decide_false, Int.reduceEq, Int.reduceLT, Int.reduceLE, Int.reduceGE, Int.reduceGT, not_true_eq_false, not_false_eq_true, Bool.and_true, Bool.true_and, Bool.and_false, Bool.false_and, and_true, true_and, and_self, Bool.not_not, Int.toNat_natCast, List.length_take, *]) <;> (first | done | rfl | omega | (simp; done) | (simp; omega)), by (try simp only [go_sem, ↓reduceIte, Nat.reduceEqDiff, Nat.reduceAdd, reduceCtorEq, CCT, CCv, CCr, CCk, Nat.reduceBNe, Nat.reduceLeDiff, Nat.reduceLT, beqI, bneI, List.length_map, decide_true, decide_false, Int.reduceEq, Int.reduceLT, Int.reduceLE, Int.reduceGE, Int.reduceGT, not_true_eq_false, not_false_eq_true, Bool.and_true, Bool.true_and, Bool.and_false, Bool.false_and, and_true, true_and, and_self, Bool.not_not, Int.toNat_natCast, List.length_take, *]) <;> (first | done | rfl | omega | (simp; done) | (simp; omega)), by (try simp only [go_sem, ↓reduceIte, Nat.reduceEqDiff, Nat.reduceAdd, reduceCtorEq, CCT, CCv, CCr, CCk, Nat.reduceBNe, Nat.reduceLeDiff, Nat.reduceLT, beqI, bneI, List.length_map, decide_true, decide_false, Int.reduceEq, Int.reduceLT, Int.reduceLE, Int.reduceGE, Int.reduceGT, not_true_eq_false, not_false_eq_true, Bool.and_true, Bool.true_and, Bool.and_false, Bool.false_and, and_true, true_and, and_self, Bool.not_not, Int.toNat_natCast, List.length_take, *]) <;> (first | done | rfl | omega | (simp; done) | (simp; omega)), by (try simp only [go_sem, ↓reduceIte, Nat.reduceEqDiff, Nat.reduceAdd, reduceCtorEq, CCT, CCv, CCr, CCk, Nat.reduceBNe, Nat.reduceLeDiff, Nat.reduceLT, beqI, bneI, List.length_map, decide_true, decide_false, Int.reduceEq, Int.reduceLT, Int.reduceLE, Int.reduceGE, Int.reduceGT, not_true_eq_false, not_false_eq_true, Bool.and_true, Bool.true_and, Bool.and_false, Bool.false_and, and_true, true_and, and_self, Bool.not_not, Int.toNat_natCast, List.length_take, *]) <;> (first | done | rfl | omega | (simp; done) | (simp; omega)), Gw.same hg8 (fun _ => rfl) rfl, [], .mt true, none, rfl, by cases xs <;> rfl, ?_, .nil 41 _, .inl rfl⟩
      simp only [go_sem, ↓reduceIte, Nat.reduceEqDiff, Nat.reduceAdd, reduceCtorEq, CCT, CCv, CCr, CCk, Nat.reduceBNe, Nat.reduceLeDiff, Nat.reduceLT, beqI, bneI, List.length_map, decide_true, decide_false, Int.reduceEq, Int.reduceLT, Int.reduceLE, Int.reduceGE, Int.reduceGT, not_true_eq_false, not_false_eq_true, Bool.and_true, Bool.true_and, Bool.and_false, Bool.false_and, and_true, true_and, and_self, Bool.not_not, hnx]
  · rintro ρ σ ⟨h0, h5, h9, a, acc, kk, h6, ha, hg, hacc, hpt, hnms⟩ K hx hr
    have hlt : ¬ (w : Int) < (w : Int) := by omega
    rw [Nat.sub_self, pT] at hpt
    rw [← hpt] at hX
    rw [if_pos rfl] at hX
    have hcl := pT_len w (l.drop m) m []
    rw [← hpt] at hcl
    simp only [List.length_nil, Nat.zero_add] at hcl
    by_cases ha0 : acc = []
    · subst ha0
      have hv : ρ 8 = .mt true := by
        rcases hg with ⟨_, h, _⟩ | ⟨h, _⟩
        · exact h
        · exact absurd rfl h
      have hc := fun d => refCheck_mt d
      simp only [resC] at hc
      rw [if_pos (show (checkAll ([] : List Typ)).2 = 0 by simp [checkAll, firstS])] at hX
      simp only [go_sem, ↓reduceIte, Nat.reduceEqDiff, Nat.reduceAdd, reduceCtorEq, CCT, CCv, CCr, CCk, Nat.reduceBNe, Nat.reduceLeDiff, Nat.reduceLT, beqI, bneI, List.length_map, decide_true, decide_false, Int.reduceEq, Int.reduceLT, Int.reduceLE, Int.reduceGE, Int.reduceGT, not_true_eq_false, not_false_eq_true, Bool.and_true, Bool.true_and, Bool.and_false, Bool.false_and, and_true, true_and, and_self, Bool.not_not, hx, h0, h5, h9, h6, hlt, hww, hv, hc]
      exact hX
    · obtain ⟨tt, hv⟩ := Gf.list (.inl hg) (by simpa using ha0)
      have hc := fun d => refCheck_c d false acc (by omega) (fun t ht => Nat.le_trans (hnms t ht) (by decide))
      simp only [encTs, resC] at hc
      simp only [go_sem, ↓reduceIte, Nat.reduceEqDiff, Nat.reduceAdd, reduceCtorEq, CCT, CCv, CCr, CCk, Nat.reduceBNe, Nat.reduceLeDiff, Nat.reduceLT, beqI, bneI, List.length_map, decide_true, decide_false, Int.reduceEq, Int.reduceLT, Int.reduceLE, Int.reduceGE, Int.reduceGT, not_true_eq_false, not_false_eq_true, Bool.and_true, Bool.true_and, Bool.and_false, Bool.false_and, and_true, true_and, and_self, Bool.not_not, hx, h0, h5, h9, h6, hlt, hww, hv, hc]
      refine W.br_ndec (fun h0' => ?_) (fun h0' => ?_)
      · rw [if_neg h0'] at hX
        simp only [go_sem, ↓reduceIte, Nat.reduceEqDiff, Nat.reduceAdd, reduceCtorEq, CCT, CCv, CCr, CCk, Nat.reduceBNe, Nat.reduceLeDiff, Nat.reduceLT, beqI, bneI, List.length_map, decide_true, decide_false, Int.reduceEq, Int.reduceLT, Int.reduceLE, Int.reduceGE, Int.reduceGT, not_true_eq_false, not_false_eq_true, Bool.and_true, Bool.true_and, Bool.and_false, Bool.false_and, and_true, true_and, and_self, Bool.not_not, hx, h0, h5, h9, h6, hlt, hww, hv, hc, h0']
        exact hX
      · rw [if_pos h0'] at hX
        rw [hv] at hg
        simp only [go_sem, ↓reduceIte, Nat.reduceEqDiff, Nat.reduceAdd, reduceCtorEq, CCT, CCv, CCr, CCk, Nat.reduceBNe, Nat.reduceLeDiff, Nat.reduceLT, beqI, bneI, List.length_map, decide_true, decide_false, Int.reduceEq, Int.reduceLT, Int.reduceLE, Int.reduceGE, Int.reduceGT, not_true_eq_false, not_false_eq_true, Bool.and_true, Bool.true_and, Bool.and_false, Bool.false_and, and_true, true_and, and_self, Bool.not_not, hx, h0, h5, h9, h6, hlt, hww, hv, hc, h0']
        have hg2 : ∀ (k : AV → Option (AV × St)), Wp (fun x => x = X) (k (.tup [growR 32 (acc.map encTy), .int .i64 a, .int .i64 0])) → Wp (fun x => x = X) (@bnd _ _ (retV σ (.tup [.list 32 false (acc.map encTy) (some tt), .int .i64 a, .int .i64 0])) ⟨k⟩) := fun k h => W.gw_ret_tup (vs := [.int .i64 a, .int .i64 0]) (us := [.int .i64 a, .int .i64 0]) hg rfl h
        refine hg2 _ ?_
        rw [valSt_grow2]
        exact hX
  · show w < 0 + 9223372036854775900
    omega
  · refine ⟨by (try simp only [go_sem, ↓reduceIte, Nat.reduceEqDiff, Nat.reduceAdd, reduceCtorEq, CCT, CCv, CCr, CCk, Nat.reduceBNe, Nat.reduceLeDiff, Nat.reduceLT, beqI, bneI, List.length_map, decide_true, decide_false, Int.reduceEq, Int.reduceLT, Int.reduceLE, Int.reduceGE, Int.reduceGT, not_true_eq_false, not_false_eq_true, Bool.and_true, Bool.true_and, Bool.and_false, Bool.false_and, and_true, true_and, and_self, Bool.not_not, Int.toNat_natCast, List.length_take, *]) <;> (first | done | rfl | omega | (simp; done) | (simp; omega)), by (try simp only [go_sem, ↓reduceIte, Nat.reduceEqDiff, Nat.reduceAdd, reduceCtorEq, CCT, CCv, CCr, CCk, Nat.reduceBNe, Nat.reduceLeDiff, Nat.reduceLT, beqI, bneI, List.length_map, decide_true, decide_false, Int.reduceEq, Int.reduceLT, Int.reduceLE, Int.reduceGE, Int.reduceGT, not_true_eq_false, not_false_eq_true, Bool.and_true, Bool.true_and, Bool.and_false, Bool.false_and, and_true, true_and, and_self, Bool.not_not, Int.toNat_natCast, List.length_take, *]) <;> (first | done | rfl | omega | (simp; done) | (simp; omega)), by (try simp only [go_sem, ↓reduceIte, Nat.reduceEqDiff, Nat.reduceAdd, reduceCtorEq, CCT, CCv, CCr, CCk, Nat.reduceBNe, Nat.reduceLeDiff, Nat.reduceLT, beqI, bneI, List.length_map, decide_true, decide_false, Int.reduceEq, Int.reduceLT, Int.reduceLE, Int.reduceGE, Int.reduceGT, not_true_eq_false, not_false_eq_true, Bool.and_true, Bool.true_and, Bool.and_false, Bool.false_and, and_true, true_and, and_self, Bool.not_not, Int.toNat_natCast, List.length_take, *]) <;> (first | done | rfl | omega | (simp; done) | (simp; omega)), m, [], none, by (try simp only [go_sem, ↓reduceIte, Nat.reduceEqDiff, Nat.reduceAdd, reduceCtorEq, CCT, CCv, CCr, CCk, Nat.reduceBNe, Nat.reduceLeDiff, Nat.reduceLT, beqI, bneI, List.length_map, decide_true, decide_false, Int.reduceEq, Int.reduceLT, Int.reduceLE, Int.reduceGE, Int.reduceGT, not_true_eq_false, not_false_eq_true, Bool.and_true, Bool.true_and, Bool.and_false, Bool.false_and, and_true, true_and, and_self, Bool.not_not, Int.toNat_natCast, List.length_take, *]) <;> (first | done | rfl | omega | (simp; done) | (simp; omega)), hm2, ?_, rfl, rfl, fun t ht => by cases ht⟩
    simp only [go_sem, ↓reduceIte, Nat.reduceEqDiff, Nat.reduceAdd, reduceCtorEq, CCT, CCv, CCr, CCk, Nat.reduceBNe, Nat.reduceLeDiff, Nat.reduceLT, beqI, bneI, List.length_map, decide_true, decide_false, Int.reduceEq, Int.reduceLT, Int.reduceLE, Int.reduceGE, Int.reduceGT, not_true_eq_false, not_false_eq_true, Bool.and_true, Bool.true_and, Bool.and_false, Bool.false_and, and_true, true_and, and_self, Bool.not_not, *]
    exact .nil 32 _
end Go.Proofs.Ytjembadjfiohpaa.Va

/- chapter 5: TypesScalars -/
namespace Go.Proofs.Ytjembadjfiohpaa.Va
open Go
set_option linter.unusedVariables false
set_option linter.unusedSimpArgs false
set_option maxRecDepth 100000
def scalF (x : Int) : Fld := ⟨1, 1 + x % 16, 0, 0, 0⟩
def szL : List Int → Int
  | [] => 0
  | x :: xs => 8 * (1 + x % 16) + szL xs
theorem szL_snoc (x : Int) : ∀ (l : List Int), szL (l ++ [x]) = szL l + 8 * (1 + x % 16)
  | [] => by simp [szL]
  | y :: l => by simp only [List.cons_append, szL, szL_snoc x l]; omega
theorem szL_le : ∀ (l : List Int), 0 ≤ szL l ∧ szL l ≤ 128 * (l.length : Int)
  | [] => by simp [szL]
  | x :: l => by
    have := szL_le l
    simp only [szL, List.length_cons]
    push_cast
    omega
theorem scal_size (x : Int) : sizeS (scalF x) = 8 * (1 + x % 16) := by
  unfold sizeS scalF
  simp only [if_true]
  rw [if_neg (by omega), IntKind.wrap_i64]; omega
theorem scal_ok (l : List Typ) (tv : Bool) (x : Int) : fieldS l tv (scalF x) = 0 := by
  have := scal_size x
  unfold fieldS
  rw [if_pos (show (scalF x).kind = 1 from rfl), if_pos (show (scalF x).type = 0 ∧ (scalF x).link = 0 ∧ (scalF x).key = 0 from ⟨rfl, rfl, rfl⟩), if_neg (by omega)]
theorem scal_fields (l : List Typ) (tv : Bool) (xs : List Int) : ∀ (a : Int), 0 ≤ a → a ≤ 1000000 - 128 * (xs.length : Int) → fieldsS l tv (xs.map scalF) a 0 0 = if a + szL xs > 256 then 11 else 0 := by
  induction xs with
  | nil => intro a _ _; simp [fieldsS, szL]
  | cons x xs ih =>
    intro a h0 h1
    simp only [List.length_cons] at h1
    push_cast at h1
    simp only [List.map_cons, fieldsS, scal_ok, ne_eq, not_true_eq_false, if_false, scal_size]
    have hw : IntKind.i64.wrap (a + 8 * (1 + x % 16)) = a + 8 * (1 + x % 16) := by rw [IntKind.wrap_i64]; omega
    rw [hw, show (scalF x).kind = 1 from rfl, if_neg (by decide), if_neg (by decide), ih _ (by omega) (by omega)]
    show _ = if a + (8 * (1 + x % 16) + szL xs) > 256 then 11 else 0
    rw [← Int.add_assoc]
theorem scal_lay (xs : List Int) : ∀ (a : Int) (ys : List Int), 0 ≤ a → a ≤ 1000000 - 128 * (xs.length : Int) → ∃ zs, layS (xs.map scalF) a ys = some (ys ++ zs, a + szL xs) ∧ zs.length = xs.length := by
  induction xs with
  | nil => intro a ys _ _; exact ⟨[], by simp [layS, szL], rfl⟩
  | cons x xs ih =>
    intro a ys h0 h1
    simp only [List.length_cons] at h1
    push_cast at h1
    have hw : IntKind.i64.wrap (a + 8 * (1 + x % 16)) = a + 8 * (1 + x % 16) := by rw [IntKind.wrap_i64]; omega
    obtain ⟨zs, e, hz⟩ := ih (a + 8 * (1 + x % 16)) (ys ++ [a]) (by omega) (by omega)
    refine ⟨a :: zs, ?_, by simp [hz]⟩
    rw [List.map_cons, layS, scal_size, if_neg (by omega), hw, e]
    simp only [szL, List.append_assoc, List.singleton_append, Int.add_assoc]
def nmT : ByteArray := ⟨#[116]⟩
theorem scal_check (v r n : Bool) (hvr : ¬ (v = true ∧ r = true)) (xs : List Int) (hx : xs.length ≤ 12) : checkAll [⟨nmT, v, r, n, xs.map scalF⟩] = (0, if 8 + szL xs > 256 then 11 else 0) := by
  have hc : checkS [⟨nmT, v, r, n, xs.map scalF⟩] 0 = if 8 + szL xs > 256 then 11 else 0 := by
    unfold checkS
    simp only [at0_nat (l := [(⟨nmT, v, r, n, xs.map scalF⟩ : Typ)]) (i := 0) (by simp), List.getElem_cons_zero]
    rw [if_neg (by
      have : nameB nmT = true := by kernel_rfl
      rw [this]; simp), if_neg (by simp; omega), if_neg hvr]
    exact scal_fields _ _ xs 8 (by decide) (by omega)
  have hring : ringS [⟨nmT, v, r, n, xs.map scalF⟩] 0 = 0 := by
    unfold ringS
    rw [if_neg]
    rintro ⟨_, hr⟩
    have he : ∀ y, ¬ Edge [⟨nmT, v, r, n, xs.map scalF⟩] ((0 : Nat) : Int) y := by
      rintro y ⟨f, hf, hk, _⟩
      rw [at0_nat (by simp)] at hf
      simp only [List.getElem_cons_zero, List.mem_map] at hf
      obtain ⟨x, _, rfl⟩ := hf
      cases hk
    cases hr with
    | one h => exact he _ h
    | more h _ => exact he _ h
  unfold checkAll
  rw [if_neg (by simp)]
  simp only [List.length_singleton, firstS, hc, hring, ne_eq, not_true_eq_false, if_false]
  by_cases hs : 8 + szL xs > 256
  · simp [hs]
  · simp [hs]
theorem law7_nil (b v r : Bool) : evalF Try.prog CC 60 7 [.list 5 b [] none, .bool v, .bool r] St.empty = some (.bool true, St.empty) := by
  cases b <;> cases v <;> cases r <;> kernel_rfl
theorem law7 (b v r : Bool) (l : List Int) (hl : l.length ≤ 9223372036854775807) (hb : ∀ x ∈ l, 0 ≤ x ∧ x < 256) (hne : l ≠ []) : evalF Try.prog CC 60 7 [.list 5 b (bytesI l) none, .bool v, .bool r] St.empty = some (.bool true, St.empty) := by
  have hs := fun d => shown_c d
  have hil : (bytesI l).length = l.length := by simp [bytesI]
  refine wp_eq ?_
  rw [run_7 _ _ _ (by simp)]; unfold Try.f7; simp only [Option.getD_some]
  obtain ⟨r', hr', hvr⟩ : ∃ r', r' = (r && !v) ∧ ¬ (v = true ∧ r' = true) := ⟨_, rfl, by cases v <;> simp⟩
  obtain ⟨m, hm, hm0, hm1, hm2⟩ : ∃ m, m = min l.length 12 ∧ 0 < m ∧ m ≤ 12 ∧ m ≤ l.length := ⟨_, rfl, by have := List.length_pos_iff.2 hne; omega, by omega, by omega⟩
  have hfin : ∀ kk, kk = m → (l.take kk).length ≤ 12 := fun kk h => by rw [List.length_take]; omega
  have hc := fun d => Check_c d false [⟨nmT, v, r', false, (l.take m).map scalF⟩] (by simp)
  rw [scal_check _ _ _ hvr _ (hfin m rfl)] at hc
  obtain ⟨zs, hlay, hzl⟩ := scal_lay (l.take m) 8 [] (by decide) (by have := hfin m rfl; omega)
  have hly := fun d => Layout_c d nmT v r' false ((l.take m).map scalF)
  simp only [layR, List.length_map, if_neg (show ¬ 12 < (l.take m).length by have := hfin m rfl; omega), hlay] at hly
  simp only [encTs, encTy, List.map_cons, List.map_nil, resC] at hc
  simp only [encT] at hly
  cases r
  case' false =>
    simp only [Bool.false_and] at hr'
    simp only [go_sem, ↓reduceIte, Nat.reduceEqDiff, Nat.reduceAdd, reduceCtorEq, CCT, CCv, CCr, CCk, Nat.reduceBNe, Nat.reduceLeDiff, Nat.reduceLT, beqI, bneI, List.length_map, decide_true, decide_false, Int.reduceEq, Int.reduceLT, Int.reduceLE, Int.reduceGE, Int.reduceGT, not_true_eq_false, not_false_eq_true, Bool.and_true, Bool.true_and, Bool.and_false, Bool.false_and, and_true, true_and, and_self, Bool.not_not, hs, hil]
  case' true =>
    simp only [Bool.true_and] at hr'
    simp only [go_sem, ↓reduceIte, Nat.reduceEqDiff, Nat.reduceAdd, reduceCtorEq, CCT, CCv, CCr, CCk, Nat.reduceBNe, Nat.reduceLeDiff, Nat.reduceLT, beqI, bneI, List.length_map, decide_true, decide_false, Int.reduceEq, Int.reduceLT, Int.reduceLE, Int.reduceGE, Int.reduceGT, not_true_eq_false, not_false_eq_true, Bool.and_true, Bool.true_and, Bool.and_false, Bool.false_and, and_true, true_and, and_self, Bool.not_not, hs, hil, ← hr']
  all_goals
    refine W.iter_rule (fun k ρ σ => ρ 0 = .list 5 b (bytesI l) none ∧ ρ 7 = .bool true ∧ ρ 8 = .ptr 32 0 [0] ∧ ρ 9 = .int .i64 (8 + szL (l.take k)) ∧ ρ 10 = .int .i64 k ∧ 0 < σ.next ∧ ∃ F kk, σ.obj 0 = some (.cells 32 [.agg 32 [.str nmT, .bool v, .bool r', F]]) ∧ Gw 41 (((l.take k).map scalF).map encF) σ F kk) m ?_ ?_ _ 0 _ _ (Nat.zero_le _) ?_ ?_
    · rintro k ρ σ hk ⟨h0, h7, h8, h9, h10, hnx, F, kk, hob, hg⟩ K hK hx hr
      have hkl : k < l.length := by omega
      have hlt : (k : Int) < (l.length : Int) := by omega
      have hlt12 : (k : Int) < 12 := by omega
      have hwrap : IntKind.i64.wrap ((k : Int) + 1) = ((k + 1 : Nat) : Int) := by rw [IntKind.wrap_i64]; omega
      have hz : ¬ 0 = σ.next := by omega
      have hat : at0 l (k : Int) = l[k] := at0_nat hkl
      obtain ⟨x0, x1⟩ := hb l[k] (List.getElem_mem hkl)
      have hsn : l.take (k + 1) = l.take k ++ [l[k]] := List.take_succ_eq_append_getElem hkl
      have hsz := szL_le (l.take k)
      rw [List.length_take] at hsz
      have hidx : idxOk (k : Int) l.length = true := by simp [idxOk]; omega
      have hget : (bytesI l)[((k : Nat) : Int).toNat]? = some (.int .u8 l[k]) := by simp [bytesI, hkl]
      generalize l[k] = x at hat x0 x1 hsn hget
      have e1 : IntKind.i64.wrap (x.tmod 16) = x % 16 := by rw [Int.tmod_eq_emod_of_nonneg x0, IntKind.wrap_i64]; omega
      have e2 : IntKind.i64.wrap (1 + x % 16) = 1 + x % 16 := by rw [IntKind.wrap_i64]; omega
      have e3 : IntKind.i64.wrap (8 * (1 + x % 16)) = 8 * (1 + x % 16) := by rw [IntKind.wrap_i64]; omega
      have e4 : IntKind.i64.wrap (8 + szL (l.take k) + 8 * (1 + x % 16)) = 8 + szL (l.take (k + 1)) := by rw [IntKind.wrap_i64, hsn, szL_snoc]; omega
      have e5 : ((16 : Int) = 0) = False := by simp
      have hfl : (((l.take k).map scalF).map encF).length = k := by simp; omega
      simp only [go_sem, ↓reduceIte, Nat.reduceEqDiff, Nat.reduceAdd, reduceCtorEq, CCT, CCv, CCr, CCk, Nat.reduceBNe, Nat.reduceLeDiff, Nat.reduceLT, beqI, bneI, List.length_map, decide_true, decide_false, Int.reduceEq, Int.reduceLT, Int.reduceLE, Int.reduceGE, Int.reduceGT, not_true_eq_false, not_false_eq_true, Bool.and_true, Bool.true_and, Bool.and_false, Bool.false_and, and_true, true_and, and_self, Bool.not_not, h0, h7, h8, h9, h10, hil, hlt, hlt12, hidx, hget, hob, hz, e1, e2, e5]
      refine W.gw_app (T := T) (t := 30) hg (ys := [encF (scalF x)]) (by simp) rfl ?_ ?_ ?_
      · simp only [go_sem, ↓reduceIte, Nat.reduceEqDiff, Nat.reduceAdd, reduceCtorEq, CCT, CCv, CCr, CCk, Nat.reduceBNe, Nat.reduceLeDiff, Nat.reduceLT, beqI, bneI, List.length_map, decide_true, decide_false, Int.reduceEq, Int.reduceLT, Int.reduceLE, Int.reduceGE, Int.reduceGT, not_true_eq_false, not_false_eq_true, Bool.and_true, Bool.true_and, Bool.and_false, Bool.false_and, and_true, true_and, and_self, Bool.not_not, scalF, encF]
      · exact roomy_of (by rw [hfl]; show k + 1 ≤ _; omega) (by decide)
      simp only [go_sem, ↓reduceIte, Nat.reduceEqDiff, Nat.reduceAdd, reduceCtorEq, CCT, CCv, CCr, CCk, Nat.reduceBNe, Nat.reduceLeDiff, Nat.reduceLT, beqI, bneI, List.length_map, decide_true, decide_false, Int.reduceEq, Int.reduceLT, Int.reduceLE, Int.reduceGE, Int.reduceGT, not_true_eq_false, not_false_eq_true, Bool.and_true, Bool.true_and, Bool.and_false, Bool.false_and, and_true, true_and, and_self, Bool.not_not, h0, h7, h8, h9, h10, hob, hz, e3, e4, hwrap]
      refine hK _ _ ?_
      refine ⟨by (try simp only [go_sem, ↓reduceIte, Nat.reduceEqDiff, Nat.reduceAdd, reduceCtorEq, CCT, CCv, CCr, CCk, Nat.reduceBNe, Nat.reduceLeDiff, Nat.reduceLT, beqI, bneI, List.length_map, decide_true, decide_false, Int.reduceEq, Int.reduceLT, Int.reduceLE, Int.reduceGE, Int.reduceGT, not_true_eq_false, not_false_eq_true, Bool.and_true, Bool.true_and, Bool.and_false, Bool.false_and, and_true, true_and, and_self, Bool.not_not, Int.toNat_natCast, List.length_take, *]) <;> (first | done | rfl | omega | (simp; done) | (simp; omega)), by (try simp only [go_sem, ↓reduceIte, Nat.reduceEqDiff, Nat.reduceAdd, reduceCtorEq, CCT, CCv, CCr, CCk, Nat.reduceBNe, Nat.reduceLeDiff, Nat.reduceLT, beqI, bneI, List.length_map, decide_true, decide_false, Int.reduceEq, Int.reduceLT, Int.reduceLE, Int.reduceGE, Int.reduceGT, not_true_eq_false, not_false_eq_true, Bool.and_true, Bool.true_and, Bool.and_false, Bool.false_and, and_true, true_and, and_self, Bool.not_not, Int.toNat_natCast, List.length_take, *]) <;> (first | done | rfl | omega | (simp; done) | (simp; omega)), by (try simp only [go_sem, ↓reduceIte, Nat.reduceEqDiff, Nat.reduceAdd, reduceCtorEq, CCT, CCv, CCr, CCk, Nat.reduceBNe, Nat.reduceLeDiff, Nat.reduceLT, beqI, bneI, List.length_map, decide_true, decide_false, Int.reduceEq, Int.reduceLT, Int.reduceLE, Int.reduceGE, Int.reduceGT, not_true_eq_false, not_false_eq_true, Bool.and_true, Bool.true_and, Bool.and_false, Bool.false_and, and_true, true_and, and_self, Bool.not_not, Int.toNat_natCast, List.length_take, *]) <;> (first | done | rfl | omega | (simp; done) | (simp; omega)), by (try simp only [go_sem, ↓reduceIte, Nat.reduceEqDiff, Nat.reduceAdd, reduceCtorEq, CCT, CCv, CCr, CCk, Nat.reduceBNe, Nat.reduceLeDiff, Nat.reduceLT, beqI, bneI, List.length_map, decide_true, decide_false, Int.reduceEq, Int.reduceLT, Int.reduceLE, Int.reduceGE, Int.reduceGT, not_true_eq_false, not_false_eq_true, Bool.and_true, Bool.true_and, Bool.and_false, Bool.false_and, and_true, true_and, and_self, Bool.not_not, Int.toNat_natCast, List.length_take, *]) <;> (first | done | rfl | omega | (simp; done) | (simp; omega)), by (try simp only [go_sem, ↓reduceIte, Nat.reduceEqDiff, Nat.reduceAdd, reduceCtorEq, CCT, CCv, CCr, CCk, Nat.reduceBNe, Nat.reduceLeDiff, Nat.reduceLT, beqI, bneI, List.length_map, decide_true, decide_false, Int.reduceEq, Int.reduceLT, Int.reduceLE, Int.reduceGE, Int.reduceGT, not_true_eq_false, not_false_eq_true, Bool.and_true, Bool.true_and, Bool.and_false, Bool.false_and, and_true, true_and, and_self, Bool.not_not, Int.toNat_natCast, List.length_take, *]) <;> (first | done | rfl | omega | (simp; done) | (simp; omega)), by (try simp only [go_sem, ↓reduceIte, Nat.reduceEqDiff, Nat.reduceAdd, reduceCtorEq, CCT, CCv, CCr, CCk, Nat.reduceBNe, Nat.reduceLeDiff, Nat.reduceLT, beqI, bneI, List.length_map, decide_true, decide_false, Int.reduceEq, Int.reduceLT, Int.reduceLE, Int.reduceGE, Int.reduceGT, not_true_eq_false, not_false_eq_true, Bool.and_true, Bool.true_and, Bool.and_false, Bool.false_and, and_true, true_and, and_self, Bool.not_not, Int.toNat_natCast, List.length_take, *]) <;> (first | done | rfl | omega | (simp; done) | (simp; omega)), .list 41 false (((l.take k).map scalF).map encF ++ [encF (scalF x)]) (some (σ.ntok + 1)), some σ.ntok, ?_, ?_⟩
      · simp only [go_sem, ↓reduceIte, Nat.reduceEqDiff, Nat.reduceAdd, reduceCtorEq, CCT, CCv, CCr, CCk, Nat.reduceBNe, Nat.reduceLeDiff, Nat.reduceLT, beqI, bneI, List.length_map, decide_true, decide_false, Int.reduceEq, Int.reduceLT, Int.reduceLE, Int.reduceGE, Int.reduceGT, not_true_eq_false, not_false_eq_true, Bool.and_true, Bool.true_and, Bool.and_false, Bool.false_and, and_true, true_and, and_self, Bool.not_not, hob, hz]
      · rw [hsn, List.map_append, List.map_append]
        refine Gw.same (σ := σ.tokNew kk) (.new (by simp)) (fun t => ?_) ?_
        · simp only [go_sem, ↓reduceIte, Nat.reduceEqDiff, Nat.reduceAdd, reduceCtorEq, CCT, CCv, CCr, CCk, Nat.reduceBNe, Nat.reduceLeDiff, Nat.reduceLT, beqI, bneI, List.length_map, decide_true, decide_false, Int.reduceEq, Int.reduceLT, Int.reduceLE, Int.reduceGE, Int.reduceGT, not_true_eq_false, not_false_eq_true, Bool.and_true, Bool.true_and, Bool.and_false, Bool.false_and, and_true, true_and, and_self, Bool.not_not, hob, hz]
        · simp only [go_sem, ↓reduceIte, Nat.reduceEqDiff, Nat.reduceAdd, reduceCtorEq, CCT, CCv, CCr, CCk, Nat.reduceBNe, Nat.reduceLeDiff, Nat.reduceLT, beqI, bneI, List.length_map, decide_true, decide_false, Int.reduceEq, Int.reduceLT, Int.reduceLE, Int.reduceGE, Int.reduceGT, not_true_eq_false, not_false_eq_true, Bool.and_true, Bool.true_and, Bool.and_false, Bool.false_and, and_true, true_and, and_self, Bool.not_not, hob, hz]
    · rintro ρ σ ⟨h0, h7, h8, h9, h10, hnx, F, kk, hob, hg⟩ K hx hr
      have hz : ¬ 0 = σ.next := by omega
      have hsz := szL_le (l.take m)
      rw [List.length_take] at hsz
      have hml : ((l.take m).map scalF).map encF ≠ [] := by
        intro h
        have := congrArg List.length h
        simp only [List.length_map, List.length_take, List.length_nil] at this
        omega
      have hml2 : (l.take m).length = m := by rw [List.length_take]; omega
      have hzs : ([] : List Int) ++ zs ≠ [] := by
        intro h
        have := congrArg List.length h
        simp only [List.nil_append, List.length_nil, hzl, hml2] at this
        omega
      rcases hg with ⟨h, _⟩ | ⟨_, t, rfl, rfl, hlv, _⟩
      · exact absurd h hml
      simp only [if_neg hzs] at hly
      have hcond : (m : Int) < (l.length : Int) → ¬ (m : Int) < 12 := by omega
      simp only [go_sem, ↓reduceIte, Nat.reduceEqDiff, Nat.reduceAdd, reduceCtorEq, CCT, CCv, CCr, CCk, Nat.reduceBNe, Nat.reduceLeDiff, Nat.reduceLT, beqI, bneI, List.length_map, decide_true, decide_false, Int.reduceEq, Int.reduceLT, Int.reduceLE, Int.reduceGE, Int.reduceGT, not_true_eq_false, not_false_eq_true, Bool.and_true, Bool.true_and, Bool.and_false, Bool.false_and, and_true, true_and, and_self, Bool.not_not, h0, h7, h8, h9, h10, hil]
      by_cases hmL : (m : Int) < (l.length : Int)
      · have h12 := hcond hmL
        simp only [go_sem, ↓reduceIte, Nat.reduceEqDiff, Nat.reduceAdd, reduceCtorEq, CCT, CCv, CCr, CCk, Nat.reduceBNe, Nat.reduceLeDiff, Nat.reduceLT, beqI, bneI, List.length_map, decide_true, decide_false, Int.reduceEq, Int.reduceLT, Int.reduceLE, Int.reduceGE, Int.reduceGT, not_true_eq_false, not_false_eq_true, Bool.and_true, Bool.true_and, Bool.and_false, Bool.false_and, and_true, true_and, and_self, Bool.not_not, hmL, h12, hx, h0, h7, h8, h9, h10, hob, hz, hc, hly, List.append_nil]
        by_cases hs : 8 + szL (l.take m) > 256
        · simp only [go_sem, ↓reduceIte, Nat.reduceEqDiff, Nat.reduceAdd, reduceCtorEq, CCT, CCv, CCr, CCk, Nat.reduceBNe, Nat.reduceLeDiff, Nat.reduceLT, beqI, bneI, List.length_map, decide_true, decide_false, Int.reduceEq, Int.reduceLT, Int.reduceLE, Int.reduceGE, Int.reduceGT, not_true_eq_false, not_false_eq_true, Bool.and_true, Bool.true_and, Bool.and_false, Bool.false_and, and_true, true_and, and_self, Bool.not_not, if_pos hs, hs, hx, h0, h7, h8, h9, h10, hob, hz, hc, hly, List.append_nil]
          rfl
        · simp only [go_sem, ↓reduceIte, Nat.reduceEqDiff, Nat.reduceAdd, reduceCtorEq, CCT, CCv, CCr, CCk, Nat.reduceBNe, Nat.reduceLeDiff, Nat.reduceLT, beqI, bneI, List.length_map, decide_true, decide_false, Int.reduceEq, Int.reduceLT, Int.reduceLE, Int.reduceGE, Int.reduceGT, not_true_eq_false, not_false_eq_true, Bool.and_true, Bool.true_and, Bool.and_false, Bool.false_and, and_true, true_and, and_self, Bool.not_not, if_neg hs, hs, hx, h0, h7, h8, h9, h10, hob, hz, hc, hly, List.append_nil]
          rfl
      · simp only [go_sem, ↓reduceIte, Nat.reduceEqDiff, Nat.reduceAdd, reduceCtorEq, CCT, CCv, CCr, CCk, Nat.reduceBNe, Nat.reduceLeDiff, Nat.reduceLT, beqI, bneI, List.length_map, decide_true, decide_false, Int.reduceEq, Int.reduceLT, Int.reduceLE, Int.reduceGE, Int.reduceGT, not_true_eq_false, not_false_eq_true, Bool.and_true, Bool.true_and, Bool.and_false, Bool.false_and, and_true, true_and, and_self, Bool.not_not, hmL, hx, h0, h7, h8, h9, h10, hob, hz, hc, hly, List.append_nil]
        by_cases hs : 8 + szL (l.take m) > 256
        · simp only [go_sem, ↓reduceIte, Nat.reduceEqDiff, Nat.reduceAdd, reduceCtorEq, CCT, CCv, CCr, CCk, Nat.reduceBNe, Nat.reduceLeDiff, Nat.reduceLT, beqI, bneI, List.length_map, decide_true, decide_false, Int.reduceEq, Int.reduceLT, Int.reduceLE, Int.reduceGE, Int.reduceGT, not_true_eq_false, not_false_eq_true, Bool.and_true, Bool.true_and, Bool.and_false, Bool.false_and, and_true, true_and, and_self, Bool.not_not, if_pos hs, hs, hx, h0, h7, h8, h9, h10, hob, hz, hc, hly, List.append_nil]
          rfl
        · simp only [go_sem, ↓reduceIte, Nat.reduceEqDiff, Nat.reduceAdd, reduceCtorEq, CCT, CCv, CCr, CCk, Nat.reduceBNe, Nat.reduceLeDiff, Nat.reduceLT, beqI, bneI, List.length_map, decide_true, decide_false, Int.reduceEq, Int.reduceLT, Int.reduceLE, Int.reduceGE, Int.reduceGT, not_true_eq_false, not_false_eq_true, Bool.and_true, Bool.true_and, Bool.and_false, Bool.false_and, and_true, true_and, and_self, Bool.not_not, if_neg hs, hs, hx, h0, h7, h8, h9, h10, hob, hz, hc, hly, List.append_nil]
          rfl
    · show m < 0 + 9223372036854775900
      omega
    · refine ⟨by (try simp only [go_sem, ↓reduceIte, Nat.reduceEqDiff, Nat.reduceAdd, reduceCtorEq, CCT, CCv, CCr, CCk, Nat.reduceBNe, Nat.reduceLeDiff, Nat.reduceLT, beqI, bneI, List.length_map, decide_true, decide_false, Int.reduceEq, Int.reduceLT, Int.reduceLE, Int.reduceGE, Int.reduceGT, not_true_eq_false, not_false_eq_true, Bool.and_true, Bool.true_and, Bool.and_false, Bool.false_and, and_true, true_and, and_self, Bool.not_not, Int.toNat_natCast, List.length_take, *]) <;> (first | done | rfl | omega | (simp; done) | (simp; omega)), by (try simp only [go_sem, ↓reduceIte, Nat.reduceEqDiff, Nat.reduceAdd, reduceCtorEq, CCT, CCv, CCr, CCk, Nat.reduceBNe, Nat.reduceLeDiff, Nat.reduceLT, beqI, bneI, List.length_map, decide_true, decide_false, Int.reduceEq, Int.reduceLT, Int.reduceLE, Int.reduceGE, Int.reduceGT, not_true_eq_false, not_false_eq_true, Bool.and_true, Bool.true_and, Bool.and_false, Bool.false_and, and_true, true_and, and_self, Bool.not_not, Int.toNat_natCast, List.length_take, *]) <;> (first | done | rfl | omega | (simp; done) | (simp; omega)), by (try simp only [go_sem, ↓reduceIte, Nat.reduceEqDiff, Nat.reduceAdd, reduceCtorEq, CCT, CCv, CCr, CCk, Nat.reduceBNe, Nat.reduceLeDiff, Nat.reduceLT, beqI, bneI, List.length_map, decide_true, decide_false, Int.reduceEq, Int.reduceLT, Int.reduceLE, Int.reduceGE, Int.reduceGT, not_true_eq_false, not_false_eq_true, Bool.and_true, Bool.true_and, Bool.and_false, Bool.false_and, and_true, true_and, and_self, Bool.not_not, Int.toNat_natCast, List.length_take, *]) <;> (first | done | rfl | omega | (simp; done) | (simp; omega)), by (try simp only [go_sem, ↓reduceIte, Nat.reduceEqDiff, Nat.reduceAdd, reduceCtorEq, CCT, CCv, CCr, CCk, Nat.reduceBNe, Nat.reduceLeDiff, Nat.reduceLT, beqI, bneI, List.length_map, decide_true, decide_false, Int.reduceEq, Int.reduceLT, Int.reduceLE, Int.reduceGE, Int.reduceGT, not_true_eq_false, not_false_eq_true, Bool.and_true, Bool.true_and, Bool.and_false, Bool.false_and, and_true, true_and, and_self, Bool.not_not, Int.toNat_natCast, List.length_take, *]) <;> (first | done | rfl | omega | (simp; done) | (simp; omega)), by (try simp only [go_sem, ↓reduceIte, Nat.reduceEqDiff, Nat.reduceAdd, reduceCtorEq, CCT, CCv, CCr, CCk, Nat.reduceBNe, Nat.reduceLeDiff, Nat.reduceLT, beqI, bneI, List.length_map, decide_true, decide_false, Int.reduceEq, Int.reduceLT, Int.reduceLE, Int.reduceGE, Int.reduceGT, not_true_eq_false, not_false_eq_true, Bool.and_true, Bool.true_and, Bool.and_false, Bool.false_and, and_true, true_and, and_self, Bool.not_not, Int.toNat_natCast, List.length_take, *]) <;> (first | done | rfl | omega | (simp; done) | (simp; omega)), by (try simp only [go_sem, ↓reduceIte, Nat.reduceEqDiff, Nat.reduceAdd, reduceCtorEq, CCT, CCv, CCr, CCk, Nat.reduceBNe, Nat.reduceLeDiff, Nat.reduceLT, beqI, bneI, List.length_map, decide_true, decide_false, Int.reduceEq, Int.reduceLT, Int.reduceLE, Int.reduceGE, Int.reduceGT, not_true_eq_false, not_false_eq_true, Bool.and_true, Bool.true_and, Bool.and_false, Bool.false_and, and_true, true_and, and_self, Bool.not_not, Int.toNat_natCast, List.length_take, *]) <;> (first | done | rfl | omega | (simp; done) | (simp; omega)), .mt true, none, ?_, ?_⟩
      · simp only [go_sem, ↓reduceIte, Nat.reduceEqDiff, Nat.reduceAdd, reduceCtorEq, CCT, CCv, CCr, CCk, Nat.reduceBNe, Nat.reduceLeDiff, Nat.reduceLT, beqI, bneI, List.length_map, decide_true, decide_false, Int.reduceEq, Int.reduceLT, Int.reduceLE, Int.reduceGE, Int.reduceGT, not_true_eq_false, not_false_eq_true, Bool.and_true, Bool.true_and, Bool.and_false, Bool.false_and, and_true, true_and, and_self, Bool.not_not, *]
        rfl
      · exact .nil 41 _
theorem arg_bytes {v : AV} (h : Arg T 43 v) : ∃ b l, v = .list 5 b (bytesI l) none ∧ l.length ≤ 9223372036854775807 ∧ (∀ x ∈ l, 0 ≤ x ∧ x < 256) := by
  have hmx : maxLen ≤ 9223372036854775807 := by decide
  obtain ⟨b, xs, rfl, hx, hb, hl⟩ := arg_slice h ty_43
  have : ∃ l : List Int, xs = bytesI l ∧ ∀ x ∈ l, 0 ≤ x ∧ x < 256 := by
    clear hb hl h
    induction xs with
    | nil => exact ⟨[], rfl, by simp⟩
    | cons x xs ih =>
      obtain ⟨n, rfl, hw⟩ := arg_int (hx x (by simp)) ty_5
      obtain ⟨l, rfl, h2⟩ := ih (fun y hy => hx y (by simp [hy]))
      refine ⟨n :: l, rfl, fun u hu => ?_⟩
      rcases List.mem_cons.1 hu with rfl | hu
      · simp only [Lit.wf, Bool.and_eq_true, decide_eq_true_eq] at hw
        have : IntKind.u8.min = 0 := by decide
        have : IntKind.u8.max = 255 := by decide
        omega
      · exact h2 u hu
  obtain ⟨l, rfl, h2⟩ := this
  exact ⟨b, l, rfl, Nat.le_trans (by simpa [bytesI] using hl) hmx, h2⟩
theorem scalars_law (_d : Nat) (a b c : AV) (h : Arg T 43 a) (hb : Arg T 4 b) (hc : Arg T 4 c) : ∃ σ', evalF Try.prog CC 60 7 [a, b, c] St.empty = some (.bool true, σ') := by
  obtain ⟨bl, l, rfl, h1, h2⟩ := arg_bytes h
  obtain ⟨v, rfl⟩ := arg_bool hb ty_4
  obtain ⟨r, rfl⟩ := arg_bool hc ty_4
  by_cases hl : l = []
  · subst hl
    exact ⟨_, law7_nil bl v r⟩
  · exact ⟨_, law7 bl v r l h1 h2 hl⟩
end Go.Proofs.Ytjembadjfiohpaa.Va

/- chapter 5: TypesParses, the law -/
namespace Go.Proofs.Ytjembadjfiohpaa.Va
open Go
set_option linter.unusedVariables false
set_option linter.unusedSimpArgs false
set_option maxRecDepth 100000
theorem SameP_mt (d : Nat) : evalF Try.prog CC (d + 20) 21 [.mt true, .mt true] St.empty = some (.bool true, St.empty) := by
  show evalF Try.prog CC (d + 20) 21 [.mt true, .mt true] St.empty = _
  kernel_rfl
theorem toTyp_len {l : List Int} (hb : Bytes l) : (toTyp (oneS l).1).fields.length ≤ 1000 := by
  have hok := takeT_ok hb
  simp only [oneS, toTyp]
  by_cases he : (takeT l).2.2 = 0
  · obtain ⟨m, hm, _⟩ := hok he
    have hok2 := takeI_ok (hb.drop m)
    rw [if_pos he, hm, Int.toNat_natCast]
    by_cases he2 : (takeI (l.drop m)).2.2 = 0
    · obtain ⟨h1, _⟩ := hok2 he2
      rw [if_pos he2]
      split
      · simp [noT]
      · have : ∀ (n : Nat) (xs : List Int), xs.length ≤ n → (chunk xs).length ≤ n := by
          intro n
          induction n using Nat.strongRecOn with
          | _ n ih =>
            intro xs hx
            unfold chunk
            split
            · rename_i a b c d e r
              simp only [List.length_cons] at hx ⊢
              have := ih (n - 5) (by omega) r (by omega)
              omega
            · simp
        refine this 1000 _ ?_
        rw [List.length_tail]
        omega
    · rw [if_neg he2]; simp [noT]
  · rw [if_neg he]; simp [noT]
theorem pT_flds : ∀ (m : Nat) (l : List Int) (a : Int) (acc : List Typ), Bytes l → (∀ t ∈ acc, t.fields.length ≤ 1000) → ∀ t ∈ (pT m l a acc).1, t.fields.length ≤ 1000
  | 0, l, a, acc, hb, h => h
  | m + 1, l, a, acc, hb, h => by
    simp only [pT]
    split
    · refine pT_flds m _ _ _ (hb.drop _) ?_
      intro t ht
      rcases List.mem_append.1 ht with ht | ht
      · exact h t ht
      · simp only [List.mem_singleton] at ht
        subst ht
        exact toTyp_len hb
    · intro t ht; cases ht
theorem parse_ok {l : List Int} (hb : Bytes l) : (parseS l).1.length ≤ 32 ∧ ∀ t ∈ (parseS l).1, t.fields.length ≤ 1000 := by
  have hok := takeN_ok hb
  unfold parseS
  simp only
  by_cases he : (takeN l).2.2 = 0
  · obtain ⟨h0, h1, n, hn, _⟩ := hok he
    rw [if_pos he, hn, Int.toNat_natCast]
    by_cases h32 : (takeN l).1 > 32
    · rw [if_pos h32]; exact ⟨by simp, fun t ht => by cases ht⟩
    · rw [if_neg h32]
      have e1 := pT_len (takeN l).1.toNat (l.drop n) (n : Int) []
      have e2 := pT_flds (takeN l).1.toNat (l.drop n) (n : Int) [] (hb.drop n) (fun t ht => by cases ht)
      generalize pT (takeN l).1.toNat (l.drop n) (n : Int) [] = q at e1 e2
      simp only [List.length_nil, Nat.zero_add] at e1
      split
      · split
        · exact ⟨by omega, e2⟩
        · exact ⟨by simp, fun t ht => by cases ht⟩
      · exact ⟨by omega, e2⟩
  · rw [if_neg he]; exact ⟨by simp, fun t ht => by cases ht⟩
theorem law9 (b : Bool) (l : List Int) (hb : Bytes l) (hl : l.length ≤ 9223372036854775807) : evalF Try.prog CC 70 9 [.list 5 b (bytesI l) none] St.empty = some (.bool true, St.empty) := by
  have hs := fun d => shown_c d
  have h1 := Parse_c 9 b l hb hl
  have h2 := refParse_c 9 b l hb hl
  obtain ⟨hp1, hp2⟩ := parse_ok hb
  simp only [encPs] at h1 h2
  generalize parseS l = p at h1 h2 hp1 hp2
  obtain ⟨m, n, e⟩ := p
  simp only at h1 h2 hp1 hp2
  refine wp_eq ?_
  rw [run_9 _ _ _ (by simp)]; unfold Try.f9; simp only [Option.getD_some]
  simp only [go_sem, ↓reduceIte, Nat.reduceEqDiff, Nat.reduceAdd, reduceCtorEq, CCT, CCv, CCr, CCk, Nat.reduceBNe, Nat.reduceLeDiff, Nat.reduceLT, beqI, bneI, List.length_map, decide_true, decide_false, Int.reduceEq, Int.reduceLT, Int.reduceLE, Int.reduceGE, Int.reduceGT, not_true_eq_false, not_false_eq_true, Bool.and_true, Bool.true_and, Bool.and_false, Bool.false_and, and_true, true_and, and_self, Bool.not_not, hs]
  refine W.call_gw_tup (xs := m.map encTy) (vs := [.int .i64 n, .int .i64 e]) h1 rfl rfl ?_
  intro v1 σ1 k1 hg1 hσ1
  simp only [go_sem, ↓reduceIte, Nat.reduceEqDiff, Nat.reduceAdd, reduceCtorEq, CCT, CCv, CCr, CCk, Nat.reduceBNe, Nat.reduceLeDiff, Nat.reduceLT, beqI, bneI, List.length_map, decide_true, decide_false, Int.reduceEq, Int.reduceLT, Int.reduceLE, Int.reduceGE, Int.reduceGT, not_true_eq_false, not_false_eq_true, Bool.and_true, Bool.true_and, Bool.and_false, Bool.false_and, and_true, true_and, and_self, Bool.not_not, hs]
  refine W.call_gw_tup (xs := m.map encTy) (vs := [.int .i64 n, .int .i64 e]) h2 rfl rfl ?_
  intro v2 σ2 k2 hg2 hσ2
  have hg1 := Gw.call hg1 hσ2
  by_cases hm : m = []
  · subst hm
    have hv1 : v1 = .mt true := by
      rcases hg1 with ⟨_, h, _⟩ | ⟨h, _⟩
      · exact h
      · exact absurd rfl h
    have hv2 : v2 = .mt true := by
      rcases hg2 with ⟨_, h, _⟩ | ⟨h, _⟩
      · exact h
      · exact absurd rfl h
    subst hv1 hv2
    have hsm := fun d => SameP_mt d
    simp only [go_sem, ↓reduceIte, Nat.reduceEqDiff, Nat.reduceAdd, reduceCtorEq, CCT, CCv, CCr, CCk, Nat.reduceBNe, Nat.reduceLeDiff, Nat.reduceLT, beqI, bneI, List.length_map, decide_true, decide_false, Int.reduceEq, Int.reduceLT, Int.reduceLE, Int.reduceGE, Int.reduceGT, not_true_eq_false, not_false_eq_true, Bool.and_true, Bool.true_and, Bool.and_false, Bool.false_and, and_true, true_and, and_self, Bool.not_not, hsm]
    rfl
  · obtain ⟨t1, hv1⟩ := Gf.list (.inl hg1) (by simpa using hm)
    obtain ⟨t2, hv2⟩ := Gf.list (.inl hg2) (by simpa using hm)
    subst hv1 hv2
    have hse := fun d => Same_eq d false false m (by omega) (fun t ht => Nat.le_trans (hp2 t ht) (by decide))
    simp only [go_sem, ↓reduceIte, Nat.reduceEqDiff, Nat.reduceAdd, reduceCtorEq, CCT, CCv, CCr, CCk, Nat.reduceBNe, Nat.reduceLeDiff, Nat.reduceLT, beqI, bneI, List.length_map, decide_true, decide_false, Int.reduceEq, Int.reduceLT, Int.reduceLE, Int.reduceGE, Int.reduceGT, not_true_eq_false, not_false_eq_true, Bool.and_true, Bool.true_and, Bool.and_false, Bool.false_and, and_true, true_and, and_self, Bool.not_not, hse]
    rfl
theorem parses_law (_d : Nat) (a : AV) (h : Arg T 43 a) : ∃ σ', evalF Try.prog CC 70 9 [a] St.empty = some (.bool true, σ') := by
  obtain ⟨b, l, rfl, h1, h2⟩ := arg_bytes h
  exact ⟨_, law9 b l h2 h1⟩
end Go.Proofs.Ytjembadjfiohpaa.Va

/- chapter 5: types that were laid down are parsed again, what was parsed is laid down again (plain) -/
namespace Go.Proofs.Ytjembadjfiohpaa.Va
open Go
set_option linter.unusedVariables false
set_option linter.unusedSimpArgs false
set_option maxRecDepth 100000
theorem at0_nrm (l : List Typ) (i : Int) : at0 (l.map nrm) i = nrm (at0 l i) := by
  simp only [at0, List.getElem?_map]
  cases l[i.toNat]? with
  | none => rfl
  | some t => rfl
theorem nrm_fields (t : Typ) : (nrm t).fields = t.fields := rfl
theorem nrm_name (t : Typ) : (nrm t).name = t.name := rfl
theorem nrm_value (t : Typ) : (nrm t).value = t.value := rfl
theorem nrm_refs (t : Typ) : (nrm t).refs = t.refs := rfl
theorem toS_nrm (l : List Typ) (i : Int) : toS (l.map nrm) i = toS l i := by
  simp only [toS, at0_nrm, nrm_value, List.length_map]
theorem fieldS_nrm (l : List Typ) (tv : Bool) (f : Fld) : fieldS (l.map nrm) tv f = fieldS l tv f := by
  simp only [fieldS, toS_nrm, at0_nrm, nrm_fields, nrm_refs]
theorem fieldsS_nrm (l : List Typ) (tv : Bool) : ∀ (fs : List Fld) (s : Int) (a b : Nat), fieldsS (l.map nrm) tv fs s a b = fieldsS l tv fs s a b
  | [], s, a, b => rfl
  | f :: fs, s, a, b => by simp only [fieldsS, fieldS_nrm, fieldsS_nrm l tv fs]
theorem checkS_nrm (l : List Typ) : checkS (l.map nrm) = checkS l := by
  funext i
  have e : (∃ u ∈ (l.map nrm).take i, u.name.toList = (at0 (l.map nrm) (i : Int)).name.toList) ↔ ∃ u ∈ l.take i, u.name.toList = (at0 l (i : Int)).name.toList := by
    rw [← List.map_take, at0_nrm]
    constructor
    · rintro ⟨u, hu, h⟩
      obtain ⟨v, hv, rfl⟩ := List.mem_map.1 hu
      exact ⟨v, hv, h⟩
    · rintro ⟨u, hu, h⟩
      exact ⟨nrm u, List.mem_map.2 ⟨u, hu, rfl⟩, h⟩
  simp only [checkS, e]
  simp only [at0_nrm, nrm_fields, nrm_name, nrm_value, nrm_refs, fieldsS_nrm]
theorem edge_nrm (l : List Typ) (a y : Int) : Edge (l.map nrm) a y ↔ Edge l a y := by
  simp only [Edge, at0_nrm, nrm_fields]
theorem rch_nrm {l : List Typ} {a b : Int} : Rch (l.map nrm) a b ↔ Rch l a b := by
  constructor
  · intro h
    induction h with
    | one h => exact .one ((edge_nrm ..).1 h)
    | more h _ ih => exact .more ((edge_nrm ..).1 h) ih
  · intro h
    induction h with
    | one h => exact .one ((edge_nrm ..).2 h)
    | more h _ ih => exact .more ((edge_nrm ..).2 h) ih
theorem ringS_nrm (l : List Typ) : ringS (l.map nrm) = ringS l := by
  funext i
  have e : ((at0 (l.map nrm) (i : Int)).refs = true ∧ Rch (l.map nrm) i i) ↔ ((at0 l (i : Int)).refs = true ∧ Rch l i i) := by
    rw [at0_nrm, rch_nrm, nrm_refs]
  unfold ringS
  by_cases h : (at0 l (i : Int)).refs = true ∧ Rch l i i
  · rw [if_pos h, if_pos (e.2 h)]
  · rw [if_neg h, if_neg (fun g => h (e.1 g))]
theorem check_nrm (l : List Typ) : checkAll (l.map nrm) = checkAll l := by
  unfold checkAll
  rw [checkS_nrm, ringS_nrm, List.length_map]
theorem check_zero {l : List Typ} (h : (checkAll l).2 = 0) : l.length ≤ 32 ∧ ∀ i, i < l.length → checkS l i = 0 := by
  unfold checkAll at h
  split at h
  · cases h
  · rename_i h32
    refine ⟨by omega, ?_⟩
    split at h
    · rename_i i e he
      have : ∀ (p : Nat → Int) (m i j : Nat) (e : Int), firstS p m i = some (j, e) → e ≠ 0 := by
        intro p m
        induction m with
        | zero => intro i j e h; cases h
        | succ m ih =>
          intro i j e h
          simp only [firstS] at h
          split at h
          · rename_i h0; cases h; exact h0
          · exact ih _ _ _ h
      exact absurd h (this _ _ _ _ _ he)
    · rename_i he
      intro i hi
      exact firstS_none he i (Nat.zero_le _) (by omega)
theorem checkS_zero {l : List Typ} {i : Nat} (h : checkS l i = 0) : nameB (at0 l (i : Int)).name = true ∧ (at0 l (i : Int)).fields.length ≤ 12 ∧ ∀ f ∈ (at0 l (i : Int)).fields, fieldS l (at0 l (i : Int)).value f = 0 := by
  simp only [checkS] at h
  split at h
  · cases h
  · rename_i h1
    split at h
    · cases h
    · split at h
      · cases h
      · refine ⟨?_, by omega, fieldsS_all h⟩
        cases hn : nameB (at0 l (i : Int)).name
        · exact absurd (.inl hn) h1
        · rfl
theorem kindT_lt {fs : List Fld} {i k : Int} (h : kindT fs i = k) (hk : k ≠ 0) : 0 ≤ i ∧ i < fs.length := by
  unfold kindT at h
  split at h
  · assumption
  · exact absurd h.symm hk
theorem toS_lt {l : List Typ} {i : Int} (h : toS l i = 0) : 0 ≤ i ∧ i < l.length := by
  unfold toS at h
  split at h
  · assumption
  · cases h
theorem sizeS_len {f : Fld} (hk : f.kind = 1) (h : sizeS f ≠ 0) : 1 ≤ f.len ∧ f.len ≤ 16 := by
  unfold sizeS at h
  rw [if_pos hk] at h
  split at h
  · exact absurd rfl h
  · omega
theorem fieldS_ints {l : List Typ} (hl : l.length ≤ 32) (hf : ∀ i : Int, 0 ≤ i → i < (l.length : Int) → (at0 l i).fields.length ≤ 12) {tv : Bool} {f : Fld} (h : fieldS l tv f = 0) : ∀ x ∈ fldI f, intOkP x := by
  have key : intOkP f.kind ∧ intOkP f.len ∧ intOkP f.type ∧ intOkP f.link ∧ intOkP f.key := by
    unfold intOkP
    unfold fieldS at h
    split at h
    · split at h
      · split at h
        · cases h
        · rename_i h1 h2 h3
          have := sizeS_len h1 h3
          omega
      · cases h
    split at h
    · split at h
      · have := toS_lt h
        omega
      · cases h
    split at h
    · split at h
      · omega
      · cases h
    split at h
    · split at h
      · split at h
        · rename_i h1 h2 h3 h4 h5 h6; exact absurd h h6
        · split at h
          · rename_i h1 h2 h3 h4 h5 h6 h7
            have g := toS_lt (Decidable.of_not_not h6)
            have := kindT_lt h7 (by decide)
            have := hf _ g.1 g.2
            omega
          · cases h
      · cases h
    split at h
    · split at h
      · split at h
        · rename_i h6; exact absurd h h6
        · split at h
          · rename_i h6 h7
            have g := toS_lt (Decidable.of_not_not h6)
            have := kindT_lt h7.2.1 (by decide)
            have := kindT_lt h7.2.2 (by decide)
            have := hf _ g.1 g.2
            omega
          · cases h
      · cases h
    split at h
    · split at h
      · omega
      · cases h
    · cases h
  obtain ⟨h1, h2, h3, h4, h5⟩ := key
  intro x hx
  simp only [fldI, List.mem_cons, List.not_mem_nil, or_false] at hx
  rcases hx with rfl | rfl | rfl | rfl | rfl <;> assumption
theorem check_lays {l : List Typ} (h : (checkAll l).2 = 0) : ∀ t ∈ l, Lays t := by
  obtain ⟨hl, hc⟩ := check_zero h
  intro t ht
  obtain ⟨i, hi, rfl⟩ := List.mem_iff_getElem.1 ht
  obtain ⟨h1, h2, h3⟩ := checkS_zero (hc i hi)
  rw [at0_nat hi] at h1 h2 h3
  refine ⟨h1, by rw [typeI_len]; omega, ?_⟩
  have hf : ∀ i : Int, 0 ≤ i → i < l.length → (at0 l i).fields.length ≤ 12 := by
    intro i h0 h1
    obtain ⟨k, rfl⟩ : ∃ k : Nat, i = k := ⟨i.toNat, by omega⟩
    exact (checkS_zero (hc k (by omega))).2.1
  intro x hx
  simp only [typeI, List.mem_cons, List.mem_flatMap] at hx
  rcases hx with rfl | ⟨f, hf', hx⟩
  · obtain ⟨f0, f1, _⟩ := flag_ok l[i].value l[i].refs
    exact ⟨f0, by omega⟩
  · exact fieldS_ints hl hf (h3 f hf') x hx
theorem parse_back {l : List Typ} (h : (checkAll l).2 = 0) (r : List Int) : parseS ((bytesS l).1 ++ r) = (l.map nrm, ((bytesS l).1.length : Int), 0) := by
  obtain ⟨hl, _⟩ := check_zero h
  have hL := check_lays h
  unfold parseS bytesS
  rw [if_pos h, List.append_assoc, takeN_num (by omega)]
  simp only
  rw [if_pos trivial, if_neg (by omega), Int.toNat_natCast, Int.toNat_natCast, List.drop_left' rfl, pT_back l r _ _ hL]
  simp only [List.nil_append]
  rw [if_pos trivial, check_nrm, if_pos h]
  simp
theorem parse_fwd {b : List Int} (hb : Bytes b) (h : (parseS b).2.2 = 0) : ∃ k : Nat, (parseS b).2.1 = k ∧ k ≤ b.length ∧ bytesS (parseS b).1 = (b.take k, 0) := by
  have hok := takeN_back hb
  unfold parseS at h ⊢
  simp only at h ⊢
  by_cases he : (takeN b).2.2 = 0
  · obtain ⟨v, k, e, hk, hn⟩ := hok he
    rw [if_pos he] at h ⊢
    rw [e] at h ⊢
    simp only at h ⊢
    by_cases hv : (v : Int) > 32
    · rw [if_pos hv] at h; cases h
    · rw [if_neg hv] at h ⊢
      rw [Int.toNat_natCast, Int.toNat_natCast] at h ⊢
      by_cases hq : (pT v (b.drop k) (k : Int) []).2.2 = 0
      · obtain ⟨ts, k2, e2, hl, hk2, hn2, hall⟩ := pT_fwd v (b.drop k) k [] (hb.drop k) hq
        rw [List.length_drop] at hk2
        rw [if_pos hq] at h ⊢
        rw [e2] at h ⊢
        simp only [List.nil_append] at h ⊢
        by_cases hc : (checkAll ts).2 = 0
        · rw [if_pos hc]
          refine ⟨k + k2, by push_cast; rfl, by omega, ?_⟩
          unfold bytesS
          rw [if_pos hc, hl, hn, hn2, List.take_add]
        · rw [if_neg hc] at h; exact absurd h hc
      · rw [if_neg hq] at h; exact absurd h hq
  · rw [if_neg he] at h; exact absurd h he
theorem pT_err : ∀ (m : Nat) (l : List Int) (a : Int) (acc : List Typ), (pT m l a acc).2.2 ≠ 0 → (pT m l a acc).1 = [] ∧ (pT m l a acc).2.1 = 0
  | 0, l, a, acc, h => absurd rfl h
  | m + 1, l, a, acc, h => by
    simp only [pT] at h ⊢
    split at h
    · rename_i h0
      rw [if_pos h0]
      exact pT_err m _ _ _ h
    · rename_i h0
      rw [if_neg h0]
      exact ⟨rfl, rfl⟩
theorem parse_err {b : List Int} (h : (parseS b).2.2 ≠ 0) : (parseS b).1 = [] ∧ (parseS b).2.1 = 0 := by
  unfold parseS at h ⊢
  simp only at h ⊢
  by_cases he : (takeN b).2.2 = 0
  · rw [if_pos he] at h ⊢
    by_cases hv : (takeN b).1 > 32
    · rw [if_pos hv]; exact ⟨rfl, rfl⟩
    · rw [if_neg hv] at h ⊢
      have hq := pT_err (takeN b).1.toNat (b.drop (takeN b).2.1.toNat) (takeN b).2.1 []
      generalize pT (takeN b).1.toNat (b.drop (takeN b).2.1.toNat) (takeN b).2.1 [] = q at h hq ⊢
      by_cases hq0 : q.2.2 = 0
      · rw [if_pos hq0] at h ⊢
        by_cases hc : (checkAll q.1).2 = 0
        · rw [if_pos hc] at h; exact absurd hq0 h
        · rw [if_neg hc]; exact ⟨rfl, rfl⟩
      · rw [if_neg hq0]
        exact hq hq0
  · rw [if_neg he]; exact ⟨rfl, rfl⟩
theorem num_bytes (n : Nat) : Bytes (numL n) := by
  induction n using Nat.strongRecOn with
  | _ n ih =>
    by_cases h : n < 128
    · rw [numL_lt h]
      intro x hx
      simp only [List.mem_singleton] at hx
      omega
    · rw [numL_ge h]
      intro x hx
      rcases List.mem_cons.1 hx with rfl | hx
      · omega
      · exact ih _ (by omega) x hx
theorem Bytes.append {a b : List Int} (ha : Bytes a) (hb : Bytes b) : Bytes (a ++ b) := fun x hx => (List.mem_append.1 hx).elim (ha x) (hb x)
theorem str_bytes (s : ByteArray) : Bytes (strI s) := by
  intro x hx
  simp only [strI, List.mem_map] at hx
  obtain ⟨b, _, rfl⟩ := hx
  have := b.toNat_lt
  omega
theorem type_bytes {t : Typ} (h : Lays t) : Bytes (typeB t) := by
  rw [h.eq]
  refine (Bytes.append (num_bytes _) (str_bytes _)).append ((num_bytes _).append ?_)
  intro x hx
  simp only [intsB, List.mem_flatMap] at hx
  obtain ⟨y, _, hx⟩ := hx
  exact num_bytes _ x hx
theorem bytesS_bytes (l : List Typ) : Bytes (bytesS l).1 := by
  unfold bytesS
  by_cases h : (checkAll l).2 = 0
  · rw [if_pos h]
    refine (num_bytes _).append ?_
    intro x hx
    simp only [List.mem_flatMap] at hx
    obtain ⟨t, ht, hx⟩ := hx
    exact type_bytes (check_lays h t ht) x hx
  · rw [if_neg h]
    intro x hx; cases hx
theorem bytesS_err (l : List Typ) : (bytesS l).2 = (checkAll l).2 := by
  unfold bytesS
  by_cases h : (checkAll l).2 = 0
  · rw [if_pos h, h]
  · rw [if_neg h]
theorem type_len {t : Typ} (h : Lays t) : (typeB t).length ≤ 20000 := by
  obtain ⟨h1, h2⟩ := nameB_size h.name
  have e1 := numL_len 9 t.name.size (by omega)
  have e2 := numL_len 9 (typeI t).length (by have := h.len; omega)
  have e3 : ∀ xs : List Int, (∀ x ∈ xs, intOkP x) → (intsB xs).length ≤ 10 * xs.length := by
    intro xs
    induction xs with
    | nil => intro _; simp [intsB]
    | cons x xs ih =>
      intro hx
      have h1 := ih (fun y hy => hx y (List.mem_cons_of_mem _ hy))
      obtain ⟨x0, x1⟩ := hx x (by simp)
      have h2 := numL_len 9 x.toNat (by omega)
      have h3 : intsB (x :: xs) = numL x.toNat ++ intsB xs := by simp [intsB]
      rw [h3, List.length_append, List.length_cons]
      omega
  have e4 := e3 _ h.ints
  have e5 := h.len
  rw [h.eq]
  simp only [textL, List.length_append, strI_len]
  omega
theorem bytesS_len (l : List Typ) : (bytesS l).1.length ≤ 1000000 := by
  unfold bytesS
  by_cases h : (checkAll l).2 = 0
  · rw [if_pos h]
    obtain ⟨hl, _⟩ := check_zero h
    have hL := check_lays h
    have e1 := numL_len 9 l.length (by omega)
    have e2 : ∀ xs : List Typ, (∀ x ∈ xs, Lays x) → (xs.flatMap typeB).length ≤ 20000 * xs.length := by
      intro xs
      induction xs with
      | nil => intro _; simp
      | cons x xs ih =>
        intro hx
        have h1 := ih (fun y hy => hx y (List.mem_cons_of_mem _ hy))
        have h2 := type_len (hx x (by simp))
        rw [List.flatMap_cons, List.length_append, List.length_cons]
        omega
    have e3 := e2 _ hL
    simp only [List.length_append]
    omega
  · rw [if_neg h]; simp
theorem bytesS_ne {l : List Typ} (h : (checkAll l).2 = 0) : (bytesS l).1 ≠ [] := by
  unfold bytesS
  rw [if_pos h]
  simp [numL_ne]
end Go.Proofs.Ytjembadjfiohpaa.Va

/- chapter 5: TypesBack, the law -/
namespace Go.Proofs.Ytjembadjfiohpaa.Va
open Go
set_option linter.unusedVariables false
set_option linter.unusedSimpArgs false
set_option maxRecDepth 100000
theorem Same_nrm (d : Nat) (b b' : Bool) (l : List Typ) (hl : l.length ≤ 9223372036854775807) (hf : ∀ t ∈ l, t.fields.length ≤ 9223372036854775807) : evalF Try.prog CC (d + 20) 21 [.list 32 b ((l.map nrm).map encTy) none, .list 32 b' (l.map encTy) none] St.empty = some (.bool true, St.empty) := by
  refine wp_eq ?_
  rw [run_21 _ _ _ (by simp)]; unfold Try.f21; simp only [Option.getD_some]
  simp only [go_sem, ↓reduceIte, Nat.reduceEqDiff, Nat.reduceAdd, reduceCtorEq, CCT, CCv, CCr, CCk, Nat.reduceBNe, Nat.reduceLeDiff, Nat.reduceLT, beqI, bneI, List.length_map, decide_true, decide_false, Int.reduceEq, Int.reduceLT, Int.reduceLE, Int.reduceGE, Int.reduceGT, not_true_eq_false, not_false_eq_true, Bool.and_true, Bool.true_and, Bool.and_false, Bool.false_and, and_true, true_and, and_self, Bool.not_not, List.length_map]
  refine W.iter_rule (fun i ρ s => ρ 0 = .list 32 b ((l.map nrm).map encTy) none ∧ ρ 1 = .list 32 b' (l.map encTy) none ∧ ρ 5 = .int .i64 i) l.length ?_ ?_ _ 0 _ _ (Nat.zero_le _) ?_ ?_
  · rintro i ρ s hi ⟨h0, h1, h5⟩ K hK hx hr
    have hlt : (i : Int) < (l.length : Int) := by omega
    have hwrap : IntKind.i64.wrap ((i : Int) + 1) = ((i + 1 : Nat) : Int) := by rw [IntKind.wrap_i64]; omega
    have hidx : idxOk (i : Int) l.length = true := by simp [idxOk]; omega
    have hget : (l.map encTy)[((i : Nat) : Int).toNat]? = some (encTy l[i]) := by simp [hi]
    have hget' : ((l.map nrm).map encTy)[((i : Nat) : Int).toNat]? = some (encTy (nrm l[i])) := by simp [hi]
    have hfl := hf l[i] (List.getElem_mem hi)
    generalize l[i] = t at hget hget' hfl
    simp only [encTy, nrm] at hget hget'
    generalize decide (t.fields = []) = bn at hget'
    simp only [go_sem, ↓reduceIte, Nat.reduceEqDiff, Nat.reduceAdd, reduceCtorEq, CCT, CCv, CCr, CCk, Nat.reduceBNe, Nat.reduceLeDiff, Nat.reduceLT, beqI, bneI, List.length_map, decide_true, decide_false, Int.reduceEq, Int.reduceLT, Int.reduceLE, Int.reduceGE, Int.reduceGT, not_true_eq_false, not_false_eq_true, Bool.and_true, Bool.true_and, Bool.and_false, Bool.false_and, and_true, true_and, and_self, Bool.not_not, h0, h1, h5, hlt]
    refine W.br_ok (by kernel_rfl) ?_
    simp only [go_sem, ↓reduceIte, Nat.reduceEqDiff, Nat.reduceAdd, reduceCtorEq, CCT, CCv, CCr, CCk, Nat.reduceBNe, Nat.reduceLeDiff, Nat.reduceLT, beqI, bneI, List.length_map, decide_true, decide_false, Int.reduceEq, Int.reduceLT, Int.reduceLE, Int.reduceGE, Int.reduceGT, not_true_eq_false, not_false_eq_true, Bool.and_true, Bool.true_and, Bool.and_false, Bool.false_and, and_true, true_and, and_self, Bool.not_not, h0, h1, h5, hlt, hidx, hget, hget', beq_self_eq_true]
    refine W.iter_rule (fun j ρ s => ρ 0 = .list 32 b ((l.map nrm).map encTy) none ∧ ρ 1 = .list 32 b' (l.map encTy) none ∧ ρ 5 = .int .i64 i ∧ ρ 6 = .int .i64 j) t.fields.length ?_ ?_ _ 0 _ _ (Nat.zero_le _) ?_ ?_
    · clear hx hr
      rintro j ρ s hj ⟨h0, h1, h5, h6⟩ K2 hK2 hx hr
      have hlt2 : (j : Int) < (t.fields.length : Int) := by omega
      have hwrap2 : IntKind.i64.wrap ((j : Int) + 1) = ((j + 1 : Nat) : Int) := by rw [IntKind.wrap_i64]; omega
      have hidx2 : idxOk (j : Int) t.fields.length = true := by simp [idxOk]; omega
      have hget2 : (t.fields.map encF)[((j : Nat) : Int).toNat]? = some (encF t.fields[j]) := by simp [hj]
      have hq := fld_neq t.fields[j]
      generalize t.fields[j] = f at hget2 hq
      simp only [encF] at hget2 hq
      simp only [go_sem, ↓reduceIte, Nat.reduceEqDiff, Nat.reduceAdd, reduceCtorEq, CCT, CCv, CCr, CCk, Nat.reduceBNe, Nat.reduceLeDiff, Nat.reduceLT, beqI, bneI, List.length_map, decide_true, decide_false, Int.reduceEq, Int.reduceLT, Int.reduceLE, Int.reduceGE, Int.reduceGT, not_true_eq_false, not_false_eq_true, Bool.and_true, Bool.true_and, Bool.and_false, Bool.false_and, and_true, true_and, and_self, Bool.not_not, h0, h1, h5, h6, hidx, hget, hget', hlt2]
      refine W.br_ok (by kernel_rfl) ?_
      simp only [go_sem, ↓reduceIte, Nat.reduceEqDiff, Nat.reduceAdd, reduceCtorEq, CCT, CCv, CCr, CCk, Nat.reduceBNe, Nat.reduceLeDiff, Nat.reduceLT, beqI, bneI, List.length_map, decide_true, decide_false, Int.reduceEq, Int.reduceLT, Int.reduceLE, Int.reduceGE, Int.reduceGT, not_true_eq_false, not_false_eq_true, Bool.and_true, Bool.true_and, Bool.and_false, Bool.false_and, and_true, true_and, and_self, Bool.not_not, h0, h1, h5, h6, hidx, hget, hget', hidx2, hget2, ↓hq, hwrap2]
      refine hK2 _ _ ?_
      exact ⟨by (try simp only [go_sem, ↓reduceIte, Nat.reduceEqDiff, Nat.reduceAdd, reduceCtorEq, CCT, CCv, CCr, CCk, Nat.reduceBNe, Nat.reduceLeDiff, Nat.reduceLT, beqI, bneI, List.length_map, decide_true, decide_false, Int.reduceEq, Int.reduceLT, Int.reduceLE, Int.reduceGE, Int.reduceGT, not_true_eq_false, not_false_eq_true, Bool.and_true, Bool.true_and, Bool.and_false, Bool.false_and, and_true, true_and, and_self, Bool.not_not, Int.toNat_natCast, List.length_take, *]) <;> (first | done | rfl | omega | (simp; done) | (simp; omega)), by (try simp only [go_sem, ↓reduceIte, Nat.reduceEqDiff, Nat.reduceAdd, reduceCtorEq, CCT, CCv, CCr, CCk, Nat.reduceBNe, Nat.reduceLeDiff, Nat.reduceLT, beqI, bneI, List.length_map, decide_true, decide_false, Int.reduceEq, Int.reduceLT, Int.reduceLE, Int.reduceGE, Int.reduceGT, not_true_eq_false, not_false_eq_true, Bool.and_true, Bool.true_and, Bool.and_false, Bool.false_and, and_true, true_and, and_self, Bool.not_not, Int.toNat_natCast, List.length_take, *]) <;> (first | done | rfl | omega | (simp; done) | (simp; omega)), by (try simp only [go_sem, ↓reduceIte, Nat.reduceEqDiff, Nat.reduceAdd, reduceCtorEq, CCT, CCv, CCr, CCk, Nat.reduceBNe, Nat.reduceLeDiff, Nat.reduceLT, beqI, bneI, List.length_map, decide_true, decide_false, Int.reduceEq, Int.reduceLT, Int.reduceLE, Int.reduceGE, Int.reduceGT, not_true_eq_false, not_false_eq_true, Bool.and_true, Bool.true_and, Bool.and_false, Bool.false_and, and_true, true_and, and_self, Bool.not_not, Int.toNat_natCast, List.length_take, *]) <;> (first | done | rfl | omega | (simp; done) | (simp; omega)), by (try simp only [go_sem, ↓reduceIte, Nat.reduceEqDiff, Nat.reduceAdd, reduceCtorEq, CCT, CCv, CCr, CCk, Nat.reduceBNe, Nat.reduceLeDiff, Nat.reduceLT, beqI, bneI, List.length_map, decide_true, decide_false, Int.reduceEq, Int.reduceLT, Int.reduceLE, Int.reduceGE, Int.reduceGT, not_true_eq_false, not_false_eq_true, Bool.and_true, Bool.true_and, Bool.and_false, Bool.false_and, and_true, true_and, and_self, Bool.not_not, Int.toNat_natCast, List.length_take, *]) <;> (first | done | rfl | omega | (simp; done) | (simp; omega))⟩
    · clear hx hr
      rintro ρ s ⟨h0, h1, h5, h6⟩ K2 hx hr
      have hlt2 : ¬ (t.fields.length : Int) < (t.fields.length : Int) := by omega
      simp only [go_sem, ↓reduceIte, Nat.reduceEqDiff, Nat.reduceAdd, reduceCtorEq, CCT, CCv, CCr, CCk, Nat.reduceBNe, Nat.reduceLeDiff, Nat.reduceLT, beqI, bneI, List.length_map, decide_true, decide_false, Int.reduceEq, Int.reduceLT, Int.reduceLE, Int.reduceGE, Int.reduceGT, not_true_eq_false, not_false_eq_true, Bool.and_true, Bool.true_and, Bool.and_false, Bool.false_and, and_true, true_and, and_self, Bool.not_not, hx, h0, h1, h5, h6, hidx, hget, hget', hlt2, hwrap]
      refine hK _ _ ?_
      exact ⟨by (try simp only [go_sem, ↓reduceIte, Nat.reduceEqDiff, Nat.reduceAdd, reduceCtorEq, CCT, CCv, CCr, CCk, Nat.reduceBNe, Nat.reduceLeDiff, Nat.reduceLT, beqI, bneI, List.length_map, decide_true, decide_false, Int.reduceEq, Int.reduceLT, Int.reduceLE, Int.reduceGE, Int.reduceGT, not_true_eq_false, not_false_eq_true, Bool.and_true, Bool.true_and, Bool.and_false, Bool.false_and, and_true, true_and, and_self, Bool.not_not, Int.toNat_natCast, List.length_take, *]) <;> (first | done | rfl | omega | (simp; done) | (simp; omega)), by (try simp only [go_sem, ↓reduceIte, Nat.reduceEqDiff, Nat.reduceAdd, reduceCtorEq, CCT, CCv, CCr, CCk, Nat.reduceBNe, Nat.reduceLeDiff, Nat.reduceLT, beqI, bneI, List.length_map, decide_true, decide_false, Int.reduceEq, Int.reduceLT, Int.reduceLE, Int.reduceGE, Int.reduceGT, not_true_eq_false, not_false_eq_true, Bool.and_true, Bool.true_and, Bool.and_false, Bool.false_and, and_true, true_and, and_self, Bool.not_not, Int.toNat_natCast, List.length_take, *]) <;> (first | done | rfl | omega | (simp; done) | (simp; omega)), by (try simp only [go_sem, ↓reduceIte, Nat.reduceEqDiff, Nat.reduceAdd, reduceCtorEq, CCT, CCv, CCr, CCk, Nat.reduceBNe, Nat.reduceLeDiff, Nat.reduceLT, beqI, bneI, List.length_map, decide_true, decide_false, Int.reduceEq, Int.reduceLT, Int.reduceLE, Int.reduceGE, Int.reduceGT, not_true_eq_false, not_false_eq_true, Bool.and_true, Bool.true_and, Bool.and_false, Bool.false_and, and_true, true_and, and_self, Bool.not_not, Int.toNat_natCast, List.length_take, *]) <;> (first | done | rfl | omega | (simp; done) | (simp; omega))⟩
    · show t.fields.length < 0 + 9223372036854775900
      omega
    · exact ⟨by (try simp only [go_sem, ↓reduceIte, Nat.reduceEqDiff, Nat.reduceAdd, reduceCtorEq, CCT, CCv, CCr, CCk, Nat.reduceBNe, Nat.reduceLeDiff, Nat.reduceLT, beqI, bneI, List.length_map, decide_true, decide_false, Int.reduceEq, Int.reduceLT, Int.reduceLE, Int.reduceGE, Int.reduceGT, not_true_eq_false, not_false_eq_true, Bool.and_true, Bool.true_and, Bool.and_false, Bool.false_and, and_true, true_and, and_self, Bool.not_not, Int.toNat_natCast, List.length_take, *]) <;> (first | done | rfl | omega | (simp; done) | (simp; omega)), by (try simp only [go_sem, ↓reduceIte, Nat.reduceEqDiff, Nat.reduceAdd, reduceCtorEq, CCT, CCv, CCr, CCk, Nat.reduceBNe, Nat.reduceLeDiff, Nat.reduceLT, beqI, bneI, List.length_map, decide_true, decide_false, Int.reduceEq, Int.reduceLT, Int.reduceLE, Int.reduceGE, Int.reduceGT, not_true_eq_false, not_false_eq_true, Bool.and_true, Bool.true_and, Bool.and_false, Bool.false_and, and_true, true_and, and_self, Bool.not_not, Int.toNat_natCast, List.length_take, *]) <;> (first | done | rfl | omega | (simp; done) | (simp; omega)), by (try simp only [go_sem, ↓reduceIte, Nat.reduceEqDiff, Nat.reduceAdd, reduceCtorEq, CCT, CCv, CCr, CCk, Nat.reduceBNe, Nat.reduceLeDiff, Nat.reduceLT, beqI, bneI, List.length_map, decide_true, decide_false, Int.reduceEq, Int.reduceLT, Int.reduceLE, Int.reduceGE, Int.reduceGT, not_true_eq_false, not_false_eq_true, Bool.and_true, Bool.true_and, Bool.and_false, Bool.false_and, and_true, true_and, and_self, Bool.not_not, Int.toNat_natCast, List.length_take, *]) <;> (first | done | rfl | omega | (simp; done) | (simp; omega)), by (try simp only [go_sem, ↓reduceIte, Nat.reduceEqDiff, Nat.reduceAdd, reduceCtorEq, CCT, CCv, CCr, CCk, Nat.reduceBNe, Nat.reduceLeDiff, Nat.reduceLT, beqI, bneI, List.length_map, decide_true, decide_false, Int.reduceEq, Int.reduceLT, Int.reduceLE, Int.reduceGE, Int.reduceGT, not_true_eq_false, not_false_eq_true, Bool.and_true, Bool.true_and, Bool.and_false, Bool.false_and, and_true, true_and, and_self, Bool.not_not, Int.toNat_natCast, List.length_take, *]) <;> (first | done | rfl | omega | (simp; done) | (simp; omega))⟩
  · rintro ρ s ⟨h0, h1, h5⟩ K hx hr
    have hlt : ¬ (l.length : Int) < (l.length : Int) := by omega
    simp only [go_sem, ↓reduceIte, Nat.reduceEqDiff, Nat.reduceAdd, reduceCtorEq, CCT, CCv, CCr, CCk, Nat.reduceBNe, Nat.reduceLeDiff, Nat.reduceLT, beqI, bneI, List.length_map, decide_true, decide_false, Int.reduceEq, Int.reduceLT, Int.reduceLE, Int.reduceGE, Int.reduceGT, not_true_eq_false, not_false_eq_true, Bool.and_true, Bool.true_and, Bool.and_false, Bool.false_and, and_true, true_and, and_self, Bool.not_not, hx, h0, h1, h5, hlt]
    rfl
  · show l.length < 0 + 9223372036854775900
    omega
  · exact ⟨by (try simp only [go_sem, ↓reduceIte, Nat.reduceEqDiff, Nat.reduceAdd, reduceCtorEq, CCT, CCv, CCr, CCk, Nat.reduceBNe, Nat.reduceLeDiff, Nat.reduceLT, beqI, bneI, List.length_map, decide_true, decide_false, Int.reduceEq, Int.reduceLT, Int.reduceLE, Int.reduceGE, Int.reduceGT, not_true_eq_false, not_false_eq_true, Bool.and_true, Bool.true_and, Bool.and_false, Bool.false_and, and_true, true_and, and_self, Bool.not_not, Int.toNat_natCast, List.length_take, *]) <;> (first | done | rfl | omega | (simp; done) | (simp; omega)), by (try simp only [go_sem, ↓reduceIte, Nat.reduceEqDiff, Nat.reduceAdd, reduceCtorEq, CCT, CCv, CCr, CCk, Nat.reduceBNe, Nat.reduceLeDiff, Nat.reduceLT, beqI, bneI, List.length_map, decide_true, decide_false, Int.reduceEq, Int.reduceLT, Int.reduceLE, Int.reduceGE, Int.reduceGT, not_true_eq_false, not_false_eq_true, Bool.and_true, Bool.true_and, Bool.and_false, Bool.false_and, and_true, true_and, and_self, Bool.not_not, Int.toNat_natCast, List.length_take, *]) <;> (first | done | rfl | omega | (simp; done) | (simp; omega)), by (try simp only [go_sem, ↓reduceIte, Nat.reduceEqDiff, Nat.reduceAdd, reduceCtorEq, CCT, CCv, CCr, CCk, Nat.reduceBNe, Nat.reduceLeDiff, Nat.reduceLT, beqI, bneI, List.length_map, decide_true, decide_false, Int.reduceEq, Int.reduceLT, Int.reduceLE, Int.reduceGE, Int.reduceGT, not_true_eq_false, not_false_eq_true, Bool.and_true, Bool.true_and, Bool.and_false, Bool.false_and, and_true, true_and, and_self, Bool.not_not, Int.toNat_natCast, List.length_take, *]) <;> (first | done | rfl | omega | (simp; done) | (simp; omega))⟩
theorem SameN_mt (d : Nat) (b' : Bool) : evalF Try.prog CC (d + 20) 21 [.mt true, .list 32 b' [] none] St.empty = some (.bool true, St.empty) := by
  cases b'
  · show evalF Try.prog CC (d + 20) 21 [.mt true, .list 32 false [] none] St.empty = _
    kernel_rfl
  · show evalF Try.prog CC (d + 20) 21 [.mt true, .list 32 true [] none] St.empty = _
    kernel_rfl
theorem roomy5 {n : Nat} (h : n ≤ 150000000000000) : roomy T 5 n = true := by
  have hb : T.bytes 5 = 1 := by kernel_rfl
  have h1 : n ≤ most := Nat.le_trans h (by decide)
  unfold roomy
  rw [hb, Nat.mul_one]
  simp [h1]
theorem bytesS_nil : bytesS [] = ([0], 0) := by
  have h : (checkAll ([] : List Typ)).2 = 0 := by simp [checkAll, firstS]
  unfold bytesS
  rw [if_pos h]
  simp [numL_lt]
theorem Bytes_mt (d : Nat) : evalF Try.prog CC (d + 60) 17 [.mt true] St.empty = some (.tup [growR 5 (bytesI [0]), .int .i64 0], valSt (growR 5 (bytesI [0]))) := by
  show evalF Try.prog CC (d + 60) 17 [.mt true] St.empty = _
  kernel_rfl
set_option maxHeartbeats 4000000 in
theorem law10 (bl : Bool) (l : List Typ) (b1 : Bool) (r : List Int) (b2 : Bool) (b : List Int) (hl : l.length ≤ 9223372036854775807) (hfl : ∀ t ∈ l, t.fields.length ≤ 9223372036854775807) (hr : Bytes r) (hrl : r.length ≤ 140737488351232) (hb : Bytes b) (hbl : b.length ≤ 9223372036854775807) :
    ∃ σ', evalF Try.prog CC 70 10 [encTs bl l, .list 5 b1 (bytesI r) none, .list 5 b2 (bytesI b) none] St.empty = some (.bool true, σ') := by
  have hs := fun d => shown_c d
  have h1 := Bytes_c 9 bl l hl
  rw [bytesS_err] at h1
  have hc := fun d => Check_c d bl l hl
  have hlen := bytesS_len l
  have hbb := bytesS_bytes l
  simp only [encTs, resC] at h1 hc
  refine (show Wp (fun x => ∃ σ', x = some (AV.bool true, σ')) _ from ?_)
  rw [run_10 _ _ _ (by simp)]; unfold Try.f10; simp only [Option.getD_some]
  simp only [encTs]
  simp only [go_sem, ↓reduceIte, Nat.reduceEqDiff, Nat.reduceAdd, reduceCtorEq, CCT, CCv, CCr, CCk, Nat.reduceBNe, Nat.reduceLeDiff, Nat.reduceLT, beqI, bneI, List.length_map, decide_true, decide_false, Int.reduceEq, Int.reduceLT, Int.reduceLE, Int.reduceGE, Int.reduceGT, not_true_eq_false, not_false_eq_true, Bool.and_true, Bool.true_and, Bool.and_false, Bool.false_and, and_true, true_and, and_self, Bool.not_not, hs]
  refine W.call_gw_tup (xs := bytesI (bytesS l).1) (vs := [.int .i64 (checkAll l).2]) h1 rfl rfl ?_
  intro v1 σ1 k1 hg1 hσ1
  have hp := Parse_c 9 b2 b hb hbl
  simp only [encPs] at hp
  have hl2 : (bytesI r).length = r.length := by simp [bytesI]
  have hl1 : (bytesI (bytesS l).1).length = (bytesS l).1.length := by simp [bytesI]
  have hl3 : (bytesI b).length = b.length := by simp [bytesI]
  simp only [go_sem, ↓reduceIte, Nat.reduceEqDiff, Nat.reduceAdd, reduceCtorEq, CCT, CCv, CCr, CCk, Nat.reduceBNe, Nat.reduceLeDiff, Nat.reduceLT, beqI, bneI, List.length_map, decide_true, decide_false, Int.reduceEq, Int.reduceLT, Int.reduceLE, Int.reduceGE, Int.reduceGT, not_true_eq_false, not_false_eq_true, Bool.and_true, Bool.true_and, Bool.and_false, Bool.false_and, and_true, true_and, and_self, Bool.not_not, hc]
  refine W.br_dec (fun h0 => ?_) (fun h0 => ?_)
  · have hpb := parse_back h0 r
    have hp0 := Parse_c 9 false ((bytesS l).1 ++ r) (hbb.append hr) (by rw [List.length_append]; omega)
    rw [hpb] at hp0
    have hap : bytesI ((bytesS l).1 ++ r) = bytesI (bytesS l).1 ++ bytesI r := by simp [bytesI]
    rw [hap] at hp0
    simp only [encPs] at hp0
    have hnews := fun (m : Mem) row => gw_news (T := T) (m := m) (row := row) hg1
    have hne := bytesS_ne h0
    obtain ⟨t1, hv1⟩ := Gf.list (.inl hg1) (by simpa [bytesI] using hne)
    subst hv1
    simp only [go_sem, ↓reduceIte, Nat.reduceEqDiff, Nat.reduceAdd, reduceCtorEq, CCT, CCv, CCr, CCk, Nat.reduceBNe, Nat.reduceLeDiff, Nat.reduceLT, beqI, bneI, List.length_map, decide_true, decide_false, Int.reduceEq, Int.reduceLT, Int.reduceLE, Int.reduceGE, Int.reduceGT, not_true_eq_false, not_false_eq_true, Bool.and_true, Bool.true_and, Bool.and_false, Bool.false_and, and_true, true_and, and_self, Bool.not_not, hnews]
    refine W.br_ok (roomy5 (by rw [hl1]; omega)) ?_
    simp only [go_sem, ↓reduceIte, Nat.reduceEqDiff, Nat.reduceAdd, reduceCtorEq, CCT, CCv, CCr, CCk, Nat.reduceBNe, Nat.reduceLeDiff, Nat.reduceLT, beqI, bneI, List.length_map, decide_true, decide_false, Int.reduceEq, Int.reduceLT, Int.reduceLE, Int.reduceGE, Int.reduceGT, not_true_eq_false, not_false_eq_true, Bool.and_true, Bool.true_and, Bool.and_false, Bool.false_and, and_true, true_and, and_self, Bool.not_not, hnews]
    refine W.br_ok (roomy5 (by simp only [List.length_append, List.length_nil, hl1, hl2]; omega)) ?_
    simp only [go_sem, ↓reduceIte, Nat.reduceEqDiff, Nat.reduceAdd, reduceCtorEq, CCT, CCv, CCr, CCk, Nat.reduceBNe, Nat.reduceLeDiff, Nat.reduceLT, beqI, bneI, List.length_map, decide_true, decide_false, Int.reduceEq, Int.reduceLT, Int.reduceLE, Int.reduceGE, Int.reduceGT, not_true_eq_false, not_false_eq_true, Bool.and_true, Bool.true_and, Bool.and_false, Bool.false_and, and_true, true_and, and_self, Bool.not_not, hnews, List.nil_append]
    refine W.call_gw_tup (xs := (l.map nrm).map encTy) (vs := [.int .i64 ((bytesS l).1.length : Int), .int .i64 0]) hp0 rfl rfl ?_
    intro v2 σ2 k2 hg2 hσ2
    by_cases hl0 : l = []
    · subst hl0
      have hv2 : v2 = .mt true := by
        rcases hg2 with ⟨_, h, _⟩ | ⟨h, _⟩
        · exact h
        · exact absurd rfl h
      subst hv2
      have hsm := fun d => SameN_mt d bl
      simp only [go_sem, ↓reduceIte, Nat.reduceEqDiff, Nat.reduceAdd, reduceCtorEq, CCT, CCv, CCr, CCk, Nat.reduceBNe, Nat.reduceLeDiff, Nat.reduceLT, beqI, bneI, List.length_map, decide_true, decide_false, Int.reduceEq, Int.reduceLT, Int.reduceLE, Int.reduceGE, Int.reduceGT, not_true_eq_false, not_false_eq_true, Bool.and_true, Bool.true_and, Bool.and_false, Bool.false_and, and_true, true_and, and_self, Bool.not_not, h0, hsm, List.map_nil, hl1]
      refine W.call_gw_tup (xs := (parseS b).1.map encTy) (vs := [.int .i64 (parseS b).2.1, .int .i64 (parseS b).2.2]) hp rfl rfl ?_
      intro v3 σ3 k3 hg3 hσ3
      simp only [go_sem, ↓reduceIte, Nat.reduceEqDiff, Nat.reduceAdd, reduceCtorEq, CCT, CCv, CCr, CCk, Nat.reduceBNe, Nat.reduceLeDiff, Nat.reduceLT, beqI, bneI, List.length_map, decide_true, decide_false, Int.reduceEq, Int.reduceLT, Int.reduceLE, Int.reduceGE, Int.reduceGT, not_true_eq_false, not_false_eq_true, Bool.and_true, Bool.true_and, Bool.and_false, Bool.false_and, and_true, true_and, and_self, Bool.not_not, *]
      refine W.br_ndec (fun hz => ?_) (fun hz => ?_)
      · obtain ⟨z1, z2⟩ := parse_err hz
        have hv3 : v3 = .mt true := by
          rcases hg3 with ⟨_, h, _⟩ | ⟨h, _⟩
          · exact h
          · exact absurd (by rw [z1]; rfl) h
        subst hv3
        simp only [go_sem, ↓reduceIte, Nat.reduceEqDiff, Nat.reduceAdd, reduceCtorEq, CCT, CCv, CCr, CCk, Nat.reduceBNe, Nat.reduceLeDiff, Nat.reduceLT, beqI, bneI, List.length_map, decide_true, decide_false, Int.reduceEq, Int.reduceLT, Int.reduceLE, Int.reduceGE, Int.reduceGT, not_true_eq_false, not_false_eq_true, Bool.and_true, Bool.true_and, Bool.and_false, Bool.false_and, and_true, true_and, and_self, Bool.not_not, hz, z2]
        exact ⟨_, rfl⟩
      · obtain ⟨k, y1, y2, y3⟩ := parse_fwd hb hz
        obtain ⟨y4, y5⟩ := parse_ok hb
        generalize parseS b = q at *
        have hst : ∀ (tt : Option Nat) (m : Mem), @aConvert T m 43 9 (.list 5 b2 (bytesI (b.take k)) tt) = some (.str (bsOf (b.take k))) := fun tt m => list_str
        have y6 : q.2.1 ≥ 0 := by omega
        have y7 : q.2.1 ≤ (b.length : Int) := by omega
        have y8 : ((k : Nat) : Int) ≥ 0 := by omega
        have y9 : ((k : Nat) : Int) ≤ (b.length : Int) := by omega
        by_cases hm : q.1 = []
        · have hv3 : v3 = .mt true := by
            rcases hg3 with ⟨_, h, _⟩ | ⟨h, _⟩
            · exact h
            · exact absurd (by rw [hm]; rfl) h
          subst hv3
          rw [hm] at y3
          have hbm := Bytes_mt 9
          rw [bytesS_nil] at y3
          obtain ⟨y3, -⟩ := Prod.mk.inj y3
          rw [y3] at hbm
          simp only [go_sem, ↓reduceIte, Nat.reduceEqDiff, Nat.reduceAdd, reduceCtorEq, CCT, CCv, CCr, CCk, Nat.reduceBNe, Nat.reduceLeDiff, Nat.reduceLT, beqI, bneI, List.length_map, decide_true, decide_false, Int.reduceEq, Int.reduceLT, Int.reduceLE, Int.reduceGE, Int.reduceGT, not_true_eq_false, not_false_eq_true, Bool.and_true, Bool.true_and, Bool.and_false, Bool.false_and, and_true, true_and, and_self, Bool.not_not, hz, y1]
          refine W.call_gw_tup (xs := bytesI (b.take k)) (vs := [.int .i64 0]) hbm rfl rfl ?_
          intro v4 σ4 k4 hg4 hσ4
          have e4 := fun m => gw_str (m := m) hg4
          simp only [go_sem, ↓reduceIte, Nat.reduceEqDiff, Nat.reduceAdd, reduceCtorEq, CCT, CCv, CCr, CCk, Nat.reduceBNe, Nat.reduceLeDiff, Nat.reduceLT, beqI, bneI, List.length_map, decide_true, decide_false, Int.reduceEq, Int.reduceLT, Int.reduceLE, Int.reduceGE, Int.reduceGT, not_true_eq_false, not_false_eq_true, Bool.and_true, Bool.true_and, Bool.and_false, Bool.false_and, and_true, true_and, and_self, Bool.not_not, e4, y8, y9, hl3]
          refine W.br_ok (by kernel_rfl) ?_
          simp only [go_sem, ↓reduceIte, Nat.reduceEqDiff, Nat.reduceAdd, reduceCtorEq, CCT, CCv, CCr, CCk, Nat.reduceBNe, Nat.reduceLeDiff, Nat.reduceLT, beqI, bneI, List.length_map, decide_true, decide_false, Int.reduceEq, Int.reduceLT, Int.reduceLE, Int.reduceGE, Int.reduceGT, not_true_eq_false, not_false_eq_true, Bool.and_true, Bool.true_and, Bool.and_false, Bool.false_and, and_true, true_and, and_self, Bool.not_not, e4, y8, y9, hl3]
          refine W.slice_hi (l := b) (g := AV.int .u8) (e := 5) ty_43 (by omega) (by omega) ?_
          rw [Int.toNat_natCast]
          simp only [go_sem, ↓reduceIte, Nat.reduceEqDiff, Nat.reduceAdd, reduceCtorEq, CCT, CCv, CCr, CCk, Nat.reduceBNe, Nat.reduceLeDiff, Nat.reduceLT, beqI, bneI, List.length_map, decide_true, decide_false, Int.reduceEq, Int.reduceLT, Int.reduceLE, Int.reduceGE, Int.reduceGT, not_true_eq_false, not_false_eq_true, Bool.and_true, Bool.true_and, Bool.and_false, Bool.false_and, and_true, true_and, and_self, Bool.not_not, map_str, beq_self_eq_true]
          exact ⟨_, rfl⟩
        · obtain ⟨tt, hv3⟩ := Gf.list (.inl hg3) (by simpa using hm)
          subst hv3
          have hbm := Bytes_c 9 false q.1 (by omega)
          rw [y3] at hbm
          simp only [encTs] at hbm
          simp only [go_sem, ↓reduceIte, Nat.reduceEqDiff, Nat.reduceAdd, reduceCtorEq, CCT, CCv, CCr, CCk, Nat.reduceBNe, Nat.reduceLeDiff, Nat.reduceLT, beqI, bneI, List.length_map, decide_true, decide_false, Int.reduceEq, Int.reduceLT, Int.reduceLE, Int.reduceGE, Int.reduceGT, not_true_eq_false, not_false_eq_true, Bool.and_true, Bool.true_and, Bool.and_false, Bool.false_and, and_true, true_and, and_self, Bool.not_not, hz, y1]
          refine W.call_gw_tup (xs := bytesI (b.take k)) (vs := [.int .i64 0]) hbm rfl rfl ?_
          intro v4 σ4 k4 hg4 hσ4
          have e4 := fun m => gw_str (m := m) hg4
          simp only [go_sem, ↓reduceIte, Nat.reduceEqDiff, Nat.reduceAdd, reduceCtorEq, CCT, CCv, CCr, CCk, Nat.reduceBNe, Nat.reduceLeDiff, Nat.reduceLT, beqI, bneI, List.length_map, decide_true, decide_false, Int.reduceEq, Int.reduceLT, Int.reduceLE, Int.reduceGE, Int.reduceGT, not_true_eq_false, not_false_eq_true, Bool.and_true, Bool.true_and, Bool.and_false, Bool.false_and, and_true, true_and, and_self, Bool.not_not, e4, y8, y9, hl3]
          refine W.br_ok (by kernel_rfl) ?_
          simp only [go_sem, ↓reduceIte, Nat.reduceEqDiff, Nat.reduceAdd, reduceCtorEq, CCT, CCv, CCr, CCk, Nat.reduceBNe, Nat.reduceLeDiff, Nat.reduceLT, beqI, bneI, List.length_map, decide_true, decide_false, Int.reduceEq, Int.reduceLT, Int.reduceLE, Int.reduceGE, Int.reduceGT, not_true_eq_false, not_false_eq_true, Bool.and_true, Bool.true_and, Bool.and_false, Bool.false_and, and_true, true_and, and_self, Bool.not_not, e4, y8, y9, hl3]
          refine W.slice_hi (l := b) (g := AV.int .u8) (e := 5) ty_43 (by omega) (by omega) ?_
          rw [Int.toNat_natCast]
          simp only [go_sem, ↓reduceIte, Nat.reduceEqDiff, Nat.reduceAdd, reduceCtorEq, CCT, CCv, CCr, CCk, Nat.reduceBNe, Nat.reduceLeDiff, Nat.reduceLT, beqI, bneI, List.length_map, decide_true, decide_false, Int.reduceEq, Int.reduceLT, Int.reduceLE, Int.reduceGE, Int.reduceGT, not_true_eq_false, not_false_eq_true, Bool.and_true, Bool.true_and, Bool.and_false, Bool.false_and, and_true, true_and, and_self, Bool.not_not, map_str, beq_self_eq_true]
          exact ⟨_, rfl⟩
    · obtain ⟨t2, hv2⟩ := Gf.list (.inl hg2) (by simpa using hl0)
      subst hv2
      have hse := fun d => Same_nrm d false bl l hl hfl
      simp only [go_sem, ↓reduceIte, Nat.reduceEqDiff, Nat.reduceAdd, reduceCtorEq, CCT, CCv, CCr, CCk, Nat.reduceBNe, Nat.reduceLeDiff, Nat.reduceLT, beqI, bneI, List.length_map, decide_true, decide_false, Int.reduceEq, Int.reduceLT, Int.reduceLE, Int.reduceGE, Int.reduceGT, not_true_eq_false, not_false_eq_true, Bool.and_true, Bool.true_and, Bool.and_false, Bool.false_and, and_true, true_and, and_self, Bool.not_not, h0, hse, hl1]
      refine W.call_gw_tup (xs := (parseS b).1.map encTy) (vs := [.int .i64 (parseS b).2.1, .int .i64 (parseS b).2.2]) hp rfl rfl ?_
      intro v3 σ3 k3 hg3 hσ3
      simp only [go_sem, ↓reduceIte, Nat.reduceEqDiff, Nat.reduceAdd, reduceCtorEq, CCT, CCv, CCr, CCk, Nat.reduceBNe, Nat.reduceLeDiff, Nat.reduceLT, beqI, bneI, List.length_map, decide_true, decide_false, Int.reduceEq, Int.reduceLT, Int.reduceLE, Int.reduceGE, Int.reduceGT, not_true_eq_false, not_false_eq_true, Bool.and_true, Bool.true_and, Bool.and_false, Bool.false_and, and_true, true_and, and_self, Bool.not_not, *]
      refine W.br_ndec (fun hz => ?_) (fun hz => ?_)
      · obtain ⟨z1, z2⟩ := parse_err hz
        have hv3 : v3 = .mt true := by
          rcases hg3 with ⟨_, h, _⟩ | ⟨h, _⟩
          · exact h
          · exact absurd (by rw [z1]; rfl) h
        subst hv3
        simp only [go_sem, ↓reduceIte, Nat.reduceEqDiff, Nat.reduceAdd, reduceCtorEq, CCT, CCv, CCr, CCk, Nat.reduceBNe, Nat.reduceLeDiff, Nat.reduceLT, beqI, bneI, List.length_map, decide_true, decide_false, Int.reduceEq, Int.reduceLT, Int.reduceLE, Int.reduceGE, Int.reduceGT, not_true_eq_false, not_false_eq_true, Bool.and_true, Bool.true_and, Bool.and_false, Bool.false_and, and_true, true_and, and_self, Bool.not_not, hz, z2]
        exact ⟨_, rfl⟩
      · obtain ⟨k, y1, y2, y3⟩ := parse_fwd hb hz
        obtain ⟨y4, y5⟩ := parse_ok hb
        generalize parseS b = q at *
        have hst : ∀ (tt : Option Nat) (m : Mem), @aConvert T m 43 9 (.list 5 b2 (bytesI (b.take k)) tt) = some (.str (bsOf (b.take k))) := fun tt m => list_str
        have y6 : q.2.1 ≥ 0 := by omega
        have y7 : q.2.1 ≤ (b.length : Int) := by omega
        have y8 : ((k : Nat) : Int) ≥ 0 := by omega
        have y9 : ((k : Nat) : Int) ≤ (b.length : Int) := by omega
        by_cases hm : q.1 = []
        · have hv3 : v3 = .mt true := by
            rcases hg3 with ⟨_, h, _⟩ | ⟨h, _⟩
            · exact h
            · exact absurd (by rw [hm]; rfl) h
          subst hv3
          rw [hm] at y3
          have hbm := Bytes_mt 9
          rw [bytesS_nil] at y3
          obtain ⟨y3, -⟩ := Prod.mk.inj y3
          rw [y3] at hbm
          simp only [go_sem, ↓reduceIte, Nat.reduceEqDiff, Nat.reduceAdd, reduceCtorEq, CCT, CCv, CCr, CCk, Nat.reduceBNe, Nat.reduceLeDiff, Nat.reduceLT, beqI, bneI, List.length_map, decide_true, decide_false, Int.reduceEq, Int.reduceLT, Int.reduceLE, Int.reduceGE, Int.reduceGT, not_true_eq_false, not_false_eq_true, Bool.and_true, Bool.true_and, Bool.and_false, Bool.false_and, and_true, true_and, and_self, Bool.not_not, hz, y1]
          refine W.call_gw_tup (xs := bytesI (b.take k)) (vs := [.int .i64 0]) hbm rfl rfl ?_
          intro v4 σ4 k4 hg4 hσ4
          have e4 := fun m => gw_str (m := m) hg4
          simp only [go_sem, ↓reduceIte, Nat.reduceEqDiff, Nat.reduceAdd, reduceCtorEq, CCT, CCv, CCr, CCk, Nat.reduceBNe, Nat.reduceLeDiff, Nat.reduceLT, beqI, bneI, List.length_map, decide_true, decide_false, Int.reduceEq, Int.reduceLT, Int.reduceLE, Int.reduceGE, Int.reduceGT, not_true_eq_false, not_false_eq_true, Bool.and_true, Bool.true_and, Bool.and_false, Bool.false_and, and_true, true_and, and_self, Bool.not_not, e4, y8, y9, hl3]
          refine W.br_ok (by kernel_rfl) ?_
          simp only [go_sem, ↓reduceIte, Nat.reduceEqDiff, Nat.reduceAdd, reduceCtorEq, CCT, CCv, CCr, CCk, Nat.reduceBNe, Nat.reduceLeDiff, Nat.reduceLT, beqI, bneI, List.length_map, decide_true, decide_false, Int.reduceEq, Int.reduceLT, Int.reduceLE, Int.reduceGE, Int.reduceGT, not_true_eq_false, not_false_eq_true, Bool.and_true, Bool.true_and, Bool.and_false, Bool.false_and, and_true, true_and, and_self, Bool.not_not, e4, y8, y9, hl3]
          refine W.slice_hi (l := b) (g := AV.int .u8) (e := 5) ty_43 (by omega) (by omega) ?_
          rw [Int.toNat_natCast]
          simp only [go_sem, ↓reduceIte, Nat.reduceEqDiff, Nat.reduceAdd, reduceCtorEq, CCT, CCv, CCr, CCk, Nat.reduceBNe, Nat.reduceLeDiff, Nat.reduceLT, beqI, bneI, List.length_map, decide_true, decide_false, Int.reduceEq, Int.reduceLT, Int.reduceLE, Int.reduceGE, Int.reduceGT, not_true_eq_false, not_false_eq_true, Bool.and_true, Bool.true_and, Bool.and_false, Bool.false_and, and_true, true_and, and_self, Bool.not_not, map_str, beq_self_eq_true]
          exact ⟨_, rfl⟩
        · obtain ⟨tt, hv3⟩ := Gf.list (.inl hg3) (by simpa using hm)
          subst hv3
          have hbm := Bytes_c 9 false q.1 (by omega)
          rw [y3] at hbm
          simp only [encTs] at hbm
          simp only [go_sem, ↓reduceIte, Nat.reduceEqDiff, Nat.reduceAdd, reduceCtorEq, CCT, CCv, CCr, CCk, Nat.reduceBNe, Nat.reduceLeDiff, Nat.reduceLT, beqI, bneI, List.length_map, decide_true, decide_false, Int.reduceEq, Int.reduceLT, Int.reduceLE, Int.reduceGE, Int.reduceGT, not_true_eq_false, not_false_eq_true, Bool.and_true, Bool.true_and, Bool.and_false, Bool.false_and, and_true, true_and, and_self, Bool.not_not, hz, y1]
          refine W.call_gw_tup (xs := bytesI (b.take k)) (vs := [.int .i64 0]) hbm rfl rfl ?_
          intro v4 σ4 k4 hg4 hσ4
          have e4 := fun m => gw_str (m := m) hg4
          simp only [go_sem, ↓reduceIte, Nat.reduceEqDiff, Nat.reduceAdd, reduceCtorEq, CCT, CCv, CCr, CCk, Nat.reduceBNe, Nat.reduceLeDiff, Nat.reduceLT, beqI, bneI, List.length_map, decide_true, decide_false, Int.reduceEq, Int.reduceLT, Int.reduceLE, Int.reduceGE, Int.reduceGT, not_true_eq_false, not_false_eq_true, Bool.and_true, Bool.true_and, Bool.and_false, Bool.false_and, and_true, true_and, and_self, Bool.not_not, e4, y8, y9, hl3]
          refine W.br_ok (by kernel_rfl) ?_
          simp only [go_sem, ↓reduceIte, Nat.reduceEqDiff, Nat.reduceAdd, reduceCtorEq, CCT, CCv, CCr, CCk, Nat.reduceBNe, Nat.reduceLeDiff, Nat.reduceLT, beqI, bneI, List.length_map, decide_true, decide_false, Int.reduceEq, Int.reduceLT, Int.reduceLE, Int.reduceGE, Int.reduceGT, not_true_eq_false, not_false_eq_true, Bool.and_true, Bool.true_and, Bool.and_false, Bool.false_and, and_true, true_and, and_self, Bool.not_not, e4, y8, y9, hl3]
          refine W.slice_hi (l := b) (g := AV.int .u8) (e := 5) ty_43 (by omega) (by omega) ?_
          rw [Int.toNat_natCast]
          simp only [go_sem, ↓reduceIte, Nat.reduceEqDiff, Nat.reduceAdd, reduceCtorEq, CCT, CCv, CCr, CCk, Nat.reduceBNe, Nat.reduceLeDiff, Nat.reduceLT, beqI, bneI, List.length_map, decide_true, decide_false, Int.reduceEq, Int.reduceLT, Int.reduceLE, Int.reduceGE, Int.reduceGT, not_true_eq_false, not_false_eq_true, Bool.and_true, Bool.true_and, Bool.and_false, Bool.false_and, and_true, true_and, and_self, Bool.not_not, map_str, beq_self_eq_true]
          exact ⟨_, rfl⟩
  · simp only [go_sem, ↓reduceIte, Nat.reduceEqDiff, Nat.reduceAdd, reduceCtorEq, CCT, CCv, CCr, CCk, Nat.reduceBNe, Nat.reduceLeDiff, Nat.reduceLT, beqI, bneI, List.length_map, decide_true, decide_false, Int.reduceEq, Int.reduceLT, Int.reduceLE, Int.reduceGE, Int.reduceGT, not_true_eq_false, not_false_eq_true, Bool.and_true, Bool.true_and, Bool.and_false, Bool.false_and, and_true, true_and, and_self, Bool.not_not, h0]
    refine W.call_gw_tup (xs := (parseS b).1.map encTy) (vs := [.int .i64 (parseS b).2.1, .int .i64 (parseS b).2.2]) hp rfl rfl ?_
    intro v3 σ3 k3 hg3 hσ3
    simp only [go_sem, ↓reduceIte, Nat.reduceEqDiff, Nat.reduceAdd, reduceCtorEq, CCT, CCv, CCr, CCk, Nat.reduceBNe, Nat.reduceLeDiff, Nat.reduceLT, beqI, bneI, List.length_map, decide_true, decide_false, Int.reduceEq, Int.reduceLT, Int.reduceLE, Int.reduceGE, Int.reduceGT, not_true_eq_false, not_false_eq_true, Bool.and_true, Bool.true_and, Bool.and_false, Bool.false_and, and_true, true_and, and_self, Bool.not_not, *]
    refine W.br_ndec (fun hz => ?_) (fun hz => ?_)
    · obtain ⟨z1, z2⟩ := parse_err hz
      have hv3 : v3 = .mt true := by
        rcases hg3 with ⟨_, h, _⟩ | ⟨h, _⟩
        · exact h
        · exact absurd (by rw [z1]; rfl) h
      subst hv3
      simp only [go_sem, ↓reduceIte, Nat.reduceEqDiff, Nat.reduceAdd, reduceCtorEq, CCT, CCv, CCr, CCk, Nat.reduceBNe, Nat.reduceLeDiff, Nat.reduceLT, beqI, bneI, List.length_map, decide_true, decide_false, Int.reduceEq, Int.reduceLT, Int.reduceLE, Int.reduceGE, Int.reduceGT, not_true_eq_false, not_false_eq_true, Bool.and_true, Bool.true_and, Bool.and_false, Bool.false_and, and_true, true_and, and_self, Bool.not_not, hz, z2]
      exact ⟨_, rfl⟩
    · obtain ⟨k, y1, y2, y3⟩ := parse_fwd hb hz
      obtain ⟨y4, y5⟩ := parse_ok hb
      generalize parseS b = q at *
      have hst : ∀ (tt : Option Nat) (m : Mem), @aConvert T m 43 9 (.list 5 b2 (bytesI (b.take k)) tt) = some (.str (bsOf (b.take k))) := fun tt m => list_str
      have y6 : q.2.1 ≥ 0 := by omega
      have y7 : q.2.1 ≤ (b.length : Int) := by omega
      have y8 : ((k : Nat) : Int) ≥ 0 := by omega
      have y9 : ((k : Nat) : Int) ≤ (b.length : Int) := by omega
      by_cases hm : q.1 = []
      · have hv3 : v3 = .mt true := by
          rcases hg3 with ⟨_, h, _⟩ | ⟨h, _⟩
          · exact h
          · exact absurd (by rw [hm]; rfl) h
        subst hv3
        rw [hm] at y3
        have hbm := Bytes_mt 9
        rw [bytesS_nil] at y3
        obtain ⟨y3, -⟩ := Prod.mk.inj y3
        rw [y3] at hbm
        simp only [go_sem, ↓reduceIte, Nat.reduceEqDiff, Nat.reduceAdd, reduceCtorEq, CCT, CCv, CCr, CCk, Nat.reduceBNe, Nat.reduceLeDiff, Nat.reduceLT, beqI, bneI, List.length_map, decide_true, decide_false, Int.reduceEq, Int.reduceLT, Int.reduceLE, Int.reduceGE, Int.reduceGT, not_true_eq_false, not_false_eq_true, Bool.and_true, Bool.true_and, Bool.and_false, Bool.false_and, and_true, true_and, and_self, Bool.not_not, hz, y1]
        refine W.call_gw_tup (xs := bytesI (b.take k)) (vs := [.int .i64 0]) hbm rfl rfl ?_
        intro v4 σ4 k4 hg4 hσ4
        have e4 := fun m => gw_str (m := m) hg4
        simp only [go_sem, ↓reduceIte, Nat.reduceEqDiff, Nat.reduceAdd, reduceCtorEq, CCT, CCv, CCr, CCk, Nat.reduceBNe, Nat.reduceLeDiff, Nat.reduceLT, beqI, bneI, List.length_map, decide_true, decide_false, Int.reduceEq, Int.reduceLT, Int.reduceLE, Int.reduceGE, Int.reduceGT, not_true_eq_false, not_false_eq_true, Bool.and_true, Bool.true_and, Bool.and_false, Bool.false_and, and_true, true_and, and_self, Bool.not_not, e4, y8, y9, hl3]
        refine W.br_ok (by kernel_rfl) ?_
        simp only [go_sem, ↓reduceIte, Nat.reduceEqDiff, Nat.reduceAdd, reduceCtorEq, CCT, CCv, CCr, CCk, Nat.reduceBNe, Nat.reduceLeDiff, Nat.reduceLT, beqI, bneI, List.length_map, decide_true, decide_false, Int.reduceEq, Int.reduceLT, Int.reduceLE, Int.reduceGE, Int.reduceGT, not_true_eq_false, not_false_eq_true, Bool.and_true, Bool.true_and, Bool.and_false, Bool.false_and, and_true, true_and, and_self, Bool.not_not, e4, y8, y9, hl3]
        refine W.slice_hi (l := b) (g := AV.int .u8) (e := 5) ty_43 (by omega) (by omega) ?_
        rw [Int.toNat_natCast]
        simp only [go_sem, ↓reduceIte, Nat.reduceEqDiff, Nat.reduceAdd, reduceCtorEq, CCT, CCv, CCr, CCk, Nat.reduceBNe, Nat.reduceLeDiff, Nat.reduceLT, beqI, bneI, List.length_map, decide_true, decide_false, Int.reduceEq, Int.reduceLT, Int.reduceLE, Int.reduceGE, Int.reduceGT, not_true_eq_false, not_false_eq_true, Bool.and_true, Bool.true_and, Bool.and_false, Bool.false_and, and_true, true_and, and_self, Bool.not_not, map_str, beq_self_eq_true]
        exact ⟨_, rfl⟩
      · obtain ⟨tt, hv3⟩ := Gf.list (.inl hg3) (by simpa using hm)
        subst hv3
        have hbm := Bytes_c 9 false q.1 (by omega)
        rw [y3] at hbm
        simp only [encTs] at hbm
        simp only [go_sem, ↓reduceIte, Nat.reduceEqDiff, Nat.reduceAdd, reduceCtorEq, CCT, CCv, CCr, CCk, Nat.reduceBNe, Nat.reduceLeDiff, Nat.reduceLT, beqI, bneI, List.length_map, decide_true, decide_false, Int.reduceEq, Int.reduceLT, Int.reduceLE, Int.reduceGE, Int.reduceGT, not_true_eq_false, not_false_eq_true, Bool.and_true, Bool.true_and, Bool.and_false, Bool.false_and, and_true, true_and, and_self, Bool.not_not, hz, y1]
        refine W.call_gw_tup (xs := bytesI (b.take k)) (vs := [.int .i64 0]) hbm rfl rfl ?_
        intro v4 σ4 k4 hg4 hσ4
        have e4 := fun m => gw_str (m := m) hg4
        simp only [go_sem, ↓reduceIte, Nat.reduceEqDiff, Nat.reduceAdd, reduceCtorEq, CCT, CCv, CCr, CCk, Nat.reduceBNe, Nat.reduceLeDiff, Nat.reduceLT, beqI, bneI, List.length_map, decide_true, decide_false, Int.reduceEq, Int.reduceLT, Int.reduceLE, Int.reduceGE, Int.reduceGT, not_true_eq_false, not_false_eq_true, Bool.and_true, Bool.true_and, Bool.and_false, Bool.false_and, and_true, true_and, and_self, Bool.not_not, e4, y8, y9, hl3]
        refine W.br_ok (by kernel_rfl) ?_
        simp only [go_sem, ↓reduceIte, Nat.reduceEqDiff, Nat.reduceAdd, reduceCtorEq, CCT, CCv, CCr, CCk, Nat.reduceBNe, Nat.reduceLeDiff, Nat.reduceLT, beqI, bneI, List.length_map, decide_true, decide_false, Int.reduceEq, Int.reduceLT, Int.reduceLE, Int.reduceGE, Int.reduceGT, not_true_eq_false, not_false_eq_true, Bool.and_true, Bool.true_and, Bool.and_false, Bool.false_and, and_true, true_and, and_self, Bool.not_not, e4, y8, y9, hl3]
        refine W.slice_hi (l := b) (g := AV.int .u8) (e := 5) ty_43 (by omega) (by omega) ?_
        rw [Int.toNat_natCast]
        simp only [go_sem, ↓reduceIte, Nat.reduceEqDiff, Nat.reduceAdd, reduceCtorEq, CCT, CCv, CCr, CCk, Nat.reduceBNe, Nat.reduceLeDiff, Nat.reduceLT, beqI, bneI, List.length_map, decide_true, decide_false, Int.reduceEq, Int.reduceLT, Int.reduceLE, Int.reduceGE, Int.reduceGT, not_true_eq_false, not_false_eq_true, Bool.and_true, Bool.true_and, Bool.and_false, Bool.false_and, and_true, true_and, and_self, Bool.not_not, map_str, beq_self_eq_true]
        exact ⟨_, rfl⟩
theorem back_law (_d : Nat) (a c b : AV) (h : Arg T 22 a) (hc : Arg T 43 c) (hb : Arg T 43 b) (hs : ∀ e n xs tok, c = .list e n xs tok → xs.length ≤ 140737488351232) : ∃ σ', evalF Try.prog CC 70 10 [a, c, b] St.empty = some (.bool true, σ') := by
  have hmx : maxLen ≤ 9223372036854775807 := by decide
  obtain ⟨bl, l, rfl, h1, _, h3, _⟩ := arg_typs h
  obtain ⟨b1, r, rfl, h4, h5⟩ := arg_bytes hc
  obtain ⟨b2, m, rfl, h6, h7⟩ := arg_bytes hb
  have := hs _ _ _ _ rfl
  simp only [bytesI, List.length_map] at this
  exact law10 bl l b1 r b2 m h1 (fun t ht => Nat.le_trans (h3 t ht) hmx) h5 this h7 h6
end Go.Proofs.Ytjembadjfiohpaa.Va

/- chapter 5: what is told from outside holds -/
namespace Go.Proofs.Ytjembadjfiohpaa.Va
open Go Go.RowKit
set_option linter.unusedVariables false
theorem told_nameB (s : ByteArray) : HWireName.Told s (nameB s) := by
  have hget : ∀ i (h : i < s.size), s[i]'h = s.data.toList[i]'(by rw [Array.length_toList]; exact h) := fun i h => rfl
  refine ⟨fun h => ?_, fun h => ?_⟩
  · simp only [nameB, Bool.and_eq_true, decide_eq_true_eq] at h
    refine ⟨fun i hi _ => ?_, h.1.2, h.2⟩
    rw [hget i hi]
    exact List.all_eq_true.1 h.1.1 _ (List.getElem_mem _)
  · by_cases h1 : s.data.toList.all (fun b => HWireName.okB (b.toNat : Int)) = true
    · by_cases h2 : 0 < s.size
      · refine .inr (.inr ?_)
        have h3 : ¬ s.size ≤ 16 := by
          intro h3
          simp [nameB, h1, h2, h3] at h
        omega
      · exact .inr (.inl (by omega))
    · refine .inl ?_
      have : ∃ b ∈ s.data.toList, ¬ HWireName.okB (b.toNat : Int) = true := by
        rw [List.all_eq_true] at h1
        exact Classical.not_forall.1 h1 |>.imp fun b hb => by simpa using hb
      obtain ⟨b, hb, hk⟩ := this
      obtain ⟨i, hi, rfl⟩ := List.mem_iff_getElem.1 hb
      exact ⟨i, by rw [Array.length_toList] at hi; exact hi, by rw [hget]; simpa using hk⟩
theorem enters {P : Program} {f : FuncId} {fn : Func} {b : Code} (hf : P.funcs[f]? = some fn) (hb : fn.body = some b) (hn : (fn.name != "runtime.NumGoroutine") = true) (vs : Array Value) (w : World) : (callFunc f vs).run P w = .ok (.enter f vs) w := by
  have hn : ¬ fn.name = "runtime.NumGoroutine" := by simpa using hn
  simp [callFunc, hf, hb, hn]
theorem ext_ok : ExtOk Try.prog CC := by
  intro base c σ w f g args vs v σ' hg hI h hA
  have hg : ext5 f = some g := hg
  unfold ext5 at hg
  split at hg
  · simp only [Option.some.injEq] at hg
    subst hg
    dsimp only at h
    split at h
    · rename_i s
      simp only [Option.some.injEq, Prod.mk.injEq] at h
      obtain ⟨rfl, rfl⟩ := h
      obtain ⟨hl, hv⟩ := hA
      obtain ⟨vl⟩ := vs
      match vl, hl with
      | [x], _ =>
        obtain rfl := rep_str (hv 0 _ _ rfl rfl)
        refine .inl ⟨enters Try.func43 (b := Try.f43.body.getD .skip) rfl (by kernel_rfl) _ _, (HWireName.walk s w).mono fun e w' ⟨b, he, ht, hb⟩ => ⟨.bool b, he, c, ⟨.refl c, hb.mono hI.le, fun _ _ _ => rfl⟩, hI.far hb, ?_⟩⟩
        rw [HWireName.Told.one ht (told_nameB s)]
        exact mk_bool _
    · cases h
  · cases hg
theorem calls_ok (hm : Try.prog.follows .mixedOrders = true) (d : Nat) : CallOk Try.prog CC (evalF Try.prog CC d) :=
  evalF_sound tabOk ext_ok (fun call f b c0 w0 N r hC hG => draw_sound tabOk hm hC hG) d
end Go.Proofs.Ytjembadjfiohpaa.Va
