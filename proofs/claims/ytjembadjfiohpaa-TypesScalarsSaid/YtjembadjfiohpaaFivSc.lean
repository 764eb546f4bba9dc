/- chapter 5: TypesScalars -/
import Derived.Test.YtjembadjfiohpaaFivAp
namespace Go.Proofs.Ytjembadjfiohpaa.Va
open Go
set_option linter.unusedVariables false
set_option linter.unusedSimpArgs false
set_option maxRecDepth 100000
def scalF (x : Int) : Fld := ⟨1, 1 + x % 16, 0, 0, 0⟩
def szL : List Int → Int
  | [] => 0
  | x :: xs => 8 * (1 + x % 16) + szL xs
theorem szL_snoc (x : Int) : ∀ (l : List Int), szL (l ++ [x]) = szL l + 8 * (1 + x % 16)
  | [] => by simp [szL]
  | y :: l => by simp only [List.cons_append, szL, szL_snoc x l]; omega
theorem szL_le : ∀ (l : List Int), 0 ≤ szL l ∧ szL l ≤ 128 * (l.length : Int)
  | [] => by simp [szL]
  | x :: l => by
    have := szL_le l
    simp only [szL, List.length_cons]
    push_cast
    omega
theorem scal_size (x : Int) : sizeS (scalF x) = 8 * (1 + x % 16) := by
  unfold sizeS scalF
  simp only [if_true]
  rw [if_neg (by omega), IntKind.wrap_i64]; omega
theorem scal_ok (l : List Typ) (tv : Bool) (x : Int) : fieldS l tv (scalF x) = 0 := by
  have := scal_size x
  unfold fieldS
  rw [if_pos (show (scalF x).kind = 1 from rfl), if_pos (show (scalF x).type = 0 ∧ (scalF x).link = 0 ∧ (scalF x).key = 0 from ⟨rfl, rfl, rfl⟩), if_neg (by omega)]
theorem scal_fields (l : List Typ) (tv : Bool) (xs : List Int) : ∀ (a : Int), 0 ≤ a → a ≤ 1000000 - 128 * (xs.length : Int) → fieldsS l tv (xs.map scalF) a 0 0 = if a + szL xs > 256 then 11 else 0 := by
  induction xs with
  | nil => intro a _ _; simp [fieldsS, szL]
  | cons x xs ih =>
    intro a h0 h1
    simp only [List.length_cons] at h1
    push_cast at h1
    simp only [List.map_cons, fieldsS, scal_ok, ne_eq, not_true_eq_false, if_false, scal_size]
    have hw : IntKind.i64.wrap (a + 8 * (1 + x % 16)) = a + 8 * (1 + x % 16) := by rw [IntKind.wrap_i64]; omega
    rw [hw, show (scalF x).kind = 1 from rfl, if_neg (by decide), if_neg (by decide), ih _ (by omega) (by omega)]
    show _ = if a + (8 * (1 + x % 16) + szL xs) > 256 then 11 else 0
    rw [← Int.add_assoc]
theorem scal_lay (xs : List Int) : ∀ (a : Int) (ys : List Int), 0 ≤ a → a ≤ 1000000 - 128 * (xs.length : Int) → ∃ zs, layS (xs.map scalF) a ys = some (ys ++ zs, a + szL xs) ∧ zs.length = xs.length := by
  induction xs with
  | nil => intro a ys _ _; exact ⟨[], by simp [layS, szL], rfl⟩
  | cons x xs ih =>
    intro a ys h0 h1
    simp only [List.length_cons] at h1
    push_cast at h1
    have hw : IntKind.i64.wrap (a + 8 * (1 + x % 16)) = a + 8 * (1 + x % 16) := by rw [IntKind.wrap_i64]; omega
    obtain ⟨zs, e, hz⟩ := ih (a + 8 * (1 + x % 16)) (ys ++ [a]) (by omega) (by omega)
    refine ⟨a :: zs, ?_, by simp [hz]⟩
    rw [List.map_cons, layS, scal_size, if_neg (by omega), hw, e]
    simp only [szL, List.append_assoc, List.singleton_append, Int.add_assoc]
def nmT : ByteArray := ⟨#[116]⟩
theorem scal_check (v r n : Bool) (hvr : ¬ (v = true ∧ r = true)) (xs : List Int) (hx : xs.length ≤ 12) : checkAll [⟨nmT, v, r, n, xs.map scalF⟩] = (0, if 8 + szL xs > 256 then 11 else 0) := by
  have hc : checkS [⟨nmT, v, r, n, xs.map scalF⟩] 0 = if 8 + szL xs > 256 then 11 else 0 := by
    unfold checkS
    simp only [at0_nat (l := [(⟨nmT, v, r, n, xs.map scalF⟩ : Typ)]) (i := 0) (by simp), List.getElem_cons_zero]
    rw [if_neg (by
      have : nameB nmT = true := by kernel_rfl
      rw [this]; simp), if_neg (by simp; omega), if_neg hvr]
    exact scal_fields _ _ xs 8 (by decide) (by omega)
  have hring : ringS [⟨nmT, v, r, n, xs.map scalF⟩] 0 = 0 := by
    unfold ringS
    rw [if_neg]
    rintro ⟨_, hr⟩
    have he : ∀ y, ¬ Edge [⟨nmT, v, r, n, xs.map scalF⟩] ((0 : Nat) : Int) y := by
      rintro y ⟨f, hf, hk, _⟩
      rw [at0_nat (by simp)] at hf
      simp only [List.getElem_cons_zero, List.mem_map] at hf
      obtain ⟨x, _, rfl⟩ := hf
      cases hk
    cases hr with
    | one h => exact he _ h
    | more h _ => exact he _ h
  unfold checkAll
  rw [if_neg (by simp)]
  simp only [List.length_singleton, firstS, hc, hring, ne_eq, not_true_eq_false, if_false]
  by_cases hs : 8 + szL xs > 256
  · simp [hs]
  · simp [hs]
theorem law7_nil (b v r : Bool) : evalF Try.prog CC 60 7 [.list 5 b [] none, .bool v, .bool r] St.empty = some (.bool true, St.empty) := by
  cases b <;> cases v <;> cases r <;> kernel_rfl
theorem law7 (b v r : Bool) (l : List Int) (hl : l.length ≤ 9223372036854775807) (hb : ∀ x ∈ l, 0 ≤ x ∧ x < 256) (hne : l ≠ []) : evalF Try.prog CC 60 7 [.list 5 b (bytesI l) none, .bool v, .bool r] St.empty = some (.bool true, St.empty) := by
  have hs := fun d => shown_c d
  have hil : (bytesI l).length = l.length := by simp [bytesI]
  refine wp_eq ?_
  rw [run_7 _ _ _ (by simp)]; unfold Try.f7; simp only [Option.getD_some]
  obtain ⟨r', hr', hvr⟩ : ∃ r', r' = (r && !v) ∧ ¬ (v = true ∧ r' = true) := ⟨_, rfl, by cases v <;> simp⟩
  obtain ⟨m, hm, hm0, hm1, hm2⟩ : ∃ m, m = min l.length 12 ∧ 0 < m ∧ m ≤ 12 ∧ m ≤ l.length := ⟨_, rfl, by have := List.length_pos_iff.2 hne; omega, by omega, by omega⟩
  have hfin : ∀ kk, kk = m → (l.take kk).length ≤ 12 := fun kk h => by rw [List.length_take]; omega
  have hc := fun d => Check_c d false [⟨nmT, v, r', false, (l.take m).map scalF⟩] (by simp)
  rw [scal_check _ _ _ hvr _ (hfin m rfl)] at hc
  obtain ⟨zs, hlay, hzl⟩ := scal_lay (l.take m) 8 [] (by decide) (by have := hfin m rfl; omega)
  have hly := fun d => Layout_c d nmT v r' false ((l.take m).map scalF)
  simp only [layR, List.length_map, if_neg (show ¬ 12 < (l.take m).length by have := hfin m rfl; omega), hlay] at hly
  simp only [encTs, encTy, List.map_cons, List.map_nil, resC] at hc
  simp only [encT] at hly
  cases r
  case' false =>
    simp only [Bool.false_and] at hr'
    simp only [go_sem, ↓reduceIte, Nat.reduceEqDiff, Nat.reduceAdd, reduceCtorEq, CCT, CCv, CCr, CCk, Nat.reduceBNe, Nat.reduceLeDiff, Nat.reduceLT, beqI, bneI, List.length_map, decide_true, decide_false, Int.reduceEq, Int.reduceLT, Int.reduceLE, Int.reduceGE, Int.reduceGT, not_true_eq_false, not_false_eq_true, Bool.and_true, Bool.true_and, Bool.and_false, Bool.false_and, and_true, true_and, and_self, Bool.not_not, hs, hil]
  case' true =>
    simp only [Bool.true_and] at hr'
    simp only [go_sem, ↓reduceIte, Nat.reduceEqDiff, Nat.reduceAdd, reduceCtorEq, CCT, CCv, CCr, CCk, Nat.reduceBNe, Nat.reduceLeDiff, Nat.reduceLT, beqI, bneI, List.length_map, decide_true, decide_false, Int.reduceEq, Int.reduceLT, Int.reduceLE, Int.reduceGE, Int.reduceGT, not_true_eq_false, not_false_eq_true, Bool.and_true, Bool.true_and, Bool.and_false, Bool.false_and, and_true, true_and, and_self, Bool.not_not, hs, hil, ← hr']
  all_goals
    refine W.iter_rule (fun k ρ σ => ρ 0 = .list 5 b (bytesI l) none ∧ ρ 7 = .bool true ∧ ρ 8 = .ptr 32 0 [0] ∧ ρ 9 = .int .i64 (8 + szL (l.take k)) ∧ ρ 10 = .int .i64 k ∧ 0 < σ.next ∧ ∃ F kk, σ.obj 0 = some (.cells 32 [.agg 32 [.str nmT, .bool v, .bool r', F]]) ∧ Gw 41 (((l.take k).map scalF).map encF) σ F kk) m ?_ ?_ _ 0 _ _ (Nat.zero_le _) ?_ ?_
    · rintro k ρ σ hk ⟨h0, h7, h8, h9, h10, hnx, F, kk, hob, hg⟩ K hK hx hr
      have hkl : k < l.length := by omega
      have hlt : (k : Int) < (l.length : Int) := by omega
      have hlt12 : (k : Int) < 12 := by omega
      have hwrap : IntKind.i64.wrap ((k : Int) + 1) = ((k + 1 : Nat) : Int) := by rw [IntKind.wrap_i64]; omega
      have hz : ¬ 0 = σ.next := by omega
      have hat : at0 l (k : Int) = l[k] := at0_nat hkl
      obtain ⟨x0, x1⟩ := hb l[k] (List.getElem_mem hkl)
      have hsn : l.take (k + 1) = l.take k ++ [l[k]] := List.take_succ_eq_append_getElem hkl
      have hsz := szL_le (l.take k)
      rw [List.length_take] at hsz
      have hidx : idxOk (k : Int) l.length = true := by simp [idxOk]; omega
      have hget : (bytesI l)[((k : Nat) : Int).toNat]? = some (.int .u8 l[k]) := by simp [bytesI, hkl]
      generalize l[k] = x at hat x0 x1 hsn hget
      have e1 : IntKind.i64.wrap (x.tmod 16) = x % 16 := by rw [Int.tmod_eq_emod_of_nonneg x0, IntKind.wrap_i64]; omega
      have e2 : IntKind.i64.wrap (1 + x % 16) = 1 + x % 16 := by rw [IntKind.wrap_i64]; omega
      have e3 : IntKind.i64.wrap (8 * (1 + x % 16)) = 8 * (1 + x % 16) := by rw [IntKind.wrap_i64]; omega
      have e4 : IntKind.i64.wrap (8 + szL (l.take k) + 8 * (1 + x % 16)) = 8 + szL (l.take (k + 1)) := by rw [IntKind.wrap_i64, hsn, szL_snoc]; omega
      have e5 : ((16 : Int) = 0) = False := by simp
      have hfl : (((l.take k).map scalF).map encF).length = k := by simp; omega
      simp only [go_sem, ↓reduceIte, Nat.reduceEqDiff, Nat.reduceAdd, reduceCtorEq, CCT, CCv, CCr, CCk, Nat.reduceBNe, Nat.reduceLeDiff, Nat.reduceLT, beqI, bneI, List.length_map, decide_true, decide_false, Int.reduceEq, Int.reduceLT, Int.reduceLE, Int.reduceGE, Int.reduceGT, not_true_eq_false, not_false_eq_true, Bool.and_true, Bool.true_and, Bool.and_false, Bool.false_and, and_true, true_and, and_self, Bool.not_not, h0, h7, h8, h9, h10, hil, hlt, hlt12, hidx, hget, hob, hz, e1, e2, e5]
      refine W.gw_app (T := T) (t := 30) hg (ys := [encF (scalF x)]) (by simp) rfl ?_ ?_ ?_
      · simp only [go_sem, ↓reduceIte, Nat.reduceEqDiff, Nat.reduceAdd, reduceCtorEq, CCT, CCv, CCr, CCk, Nat.reduceBNe, Nat.reduceLeDiff, Nat.reduceLT, beqI, bneI, List.length_map, decide_true, decide_false, Int.reduceEq, Int.reduceLT, Int.reduceLE, Int.reduceGE, Int.reduceGT, not_true_eq_false, not_false_eq_true, Bool.and_true, Bool.true_and, Bool.and_false, Bool.false_and, and_true, true_and, and_self, Bool.not_not, scalF, encF]
      · exact roomy_of (by rw [hfl]; show k + 1 ≤ _; omega) (by decide)
      simp only [go_sem, ↓reduceIte, Nat.reduceEqDiff, Nat.reduceAdd, reduceCtorEq, CCT, CCv, CCr, CCk, Nat.reduceBNe, Nat.reduceLeDiff, Nat.reduceLT, beqI, bneI, List.length_map, decide_true, decide_false, Int.reduceEq, Int.reduceLT, Int.reduceLE, Int.reduceGE, Int.reduceGT, not_true_eq_false, not_false_eq_true, Bool.and_true, Bool.true_and, Bool.and_false, Bool.false_and, and_true, true_and, and_self, Bool.not_not, h0, h7, h8, h9, h10, hob, hz, e3, e4, hwrap]
      refine hK _ _ ?_
      refine ⟨by (try simp only [go_sem, ↓reduceIte, Nat.reduceEqDiff, Nat.reduceAdd, reduceCtorEq, CCT, CCv, CCr, CCk, Nat.reduceBNe, Nat.reduceLeDiff, Nat.reduceLT, beqI, bneI, List.length_map, decide_true, decide_false, Int.reduceEq, Int.reduceLT, Int.reduceLE, Int.reduceGE, Int.reduceGT, not_true_eq_false, not_false_eq_true, Bool.and_true, Bool.true_and, Bool.and_false, Bool.false_and, and_true, true_and, and_self, Bool.not_not, Int.toNat_natCast, List.length_take, *]) <;> (first | done | rfl | omega | (simp; done) | (simp; omega)), by (try simp only [go_sem, ↓reduceIte, Nat.reduceEqDiff, Nat.reduceAdd, reduceCtorEq, CCT, CCv, CCr, CCk, Nat.reduceBNe, Nat.reduceLeDiff, Nat.reduceLT, beqI, bneI, List.length_map, decide_true, decide_false, Int.reduceEq, Int.reduceLT, Int.reduceLE, Int.reduceGE, Int.reduceGT, not_true_eq_false, not_false_eq_true, Bool.and_true, Bool.true_and, Bool.and_false, Bool.false_and, and_true, true_and, and_self, Bool.not_not, Int.toNat_natCast, List.length_take, *]) <;> (first | done | rfl | omega | (simp; done) | (simp; omega)), by (try simp only [go_sem, ↓reduceIte, Nat.reduceEqDiff, Nat.reduceAdd, reduceCtorEq, CCT, CCv, CCr, CCk, Nat.reduceBNe, Nat.reduceLeDiff, Nat.reduceLT, beqI, bneI, List.length_map, decide_true, decide_false, Int.reduceEq, Int.reduceLT, Int.reduceLE, Int.reduceGE, Int.reduceGT, not_true_eq_false, not_false_eq_true, Bool.and_true, Bool.true_and, Bool.and_false, Bool.false_and, and_true, true_and, and_self, Bool.not_not, Int.toNat_natCast, List.length_take, *]) <;> (first | done | rfl | omega | (simp; done) | (simp; omega)), by (try simp only [go_sem, ↓reduceIte, Nat.reduceEqDiff, Nat.reduceAdd, reduceCtorEq, CCT, CCv, CCr, CCk, Nat.reduceBNe, Nat.reduceLeDiff, Nat.reduceLT, beqI, bneI, List.length_map, decide_true, decide_false, Int.reduceEq, Int.reduceLT, Int.reduceLE, Int.reduceGE, Int.reduceGT, not_true_eq_false, not_false_eq_true, Bool.and_true, Bool.true_and, Bool.and_false, Bool.false_and, and_true, true_and, and_self, Bool.not_not, Int.toNat_natCast, List.length_take, *]) <;> (first | done | rfl | omega | (simp; done) | (simp; omega)), by (try simp only [go_sem, ↓reduceIte, Nat.reduceEqDiff, Nat.reduceAdd, reduceCtorEq, CCT, CCv, CCr, CCk, Nat.reduceBNe, Nat.reduceLeDiff, Nat.reduceLT, beqI, bneI, List.length_map, decide_true, decide_false, Int.reduceEq, Int.reduceLT, Int.reduceLE, Int.reduceGE, Int.reduceGT, not_true_eq_false, not_false_eq_true, Bool.and_true, Bool.true_and, Bool.and_false, Bool.false_and, and_true, true_and, and_self, Bool.not_not, Int.toNat_natCast, List.length_take, *]) <;> (first | done | rfl | omega | (simp; done) | (simp; omega)), by (try simp only [go_sem, ↓reduceIte, Nat.reduceEqDiff, Nat.reduceAdd, reduceCtorEq, CCT, CCv, CCr, CCk, Nat.reduceBNe, Nat.reduceLeDiff, Nat.reduceLT, beqI, bneI, List.length_map, decide_true, decide_false, Int.reduceEq, Int.reduceLT, Int.reduceLE, Int.reduceGE, Int.reduceGT, not_true_eq_false, not_false_eq_true, Bool.and_true, Bool.true_and, Bool.and_false, Bool.false_and, and_true, true_and, and_self, Bool.not_not, Int.toNat_natCast, List.length_take, *]) <;> (first | done | rfl | omega | (simp; done) | (simp; omega)), .list 41 false (((l.take k).map scalF).map encF ++ [encF (scalF x)]) (some (σ.ntok + 1)), some σ.ntok, ?_, ?_⟩
      · simp only [go_sem, ↓reduceIte, Nat.reduceEqDiff, Nat.reduceAdd, reduceCtorEq, CCT, CCv, CCr, CCk, Nat.reduceBNe, Nat.reduceLeDiff, Nat.reduceLT, beqI, bneI, List.length_map, decide_true, decide_false, Int.reduceEq, Int.reduceLT, Int.reduceLE, Int.reduceGE, Int.reduceGT, not_true_eq_false, not_false_eq_true, Bool.and_true, Bool.true_and, Bool.and_false, Bool.false_and, and_true, true_and, and_self, Bool.not_not, hob, hz]
      · rw [hsn, List.map_append, List.map_append]
        refine Gw.same (σ := σ.tokNew kk) (.new (by simp)) (fun t => ?_) ?_
        · simp only [go_sem, ↓reduceIte, Nat.reduceEqDiff, Nat.reduceAdd, reduceCtorEq, CCT, CCv, CCr, CCk, Nat.reduceBNe, Nat.reduceLeDiff, Nat.reduceLT, beqI, bneI, List.length_map, decide_true, decide_false, Int.reduceEq, Int.reduceLT, Int.reduceLE, Int.reduceGE, Int.reduceGT, not_true_eq_false, not_false_eq_true, Bool.and_true, Bool.true_and, Bool.and_false, Bool.false_and, and_true, true_and, and_self, Bool.not_not, hob, hz]
        · simp only [go_sem, ↓reduceIte, Nat.reduceEqDiff, Nat.reduceAdd, reduceCtorEq, CCT, CCv, CCr, CCk, Nat.reduceBNe, Nat.reduceLeDiff, Nat.reduceLT, beqI, bneI, List.length_map, decide_true, decide_false, Int.reduceEq, Int.reduceLT, Int.reduceLE, Int.reduceGE, Int.reduceGT, not_true_eq_false, not_false_eq_true, Bool.and_true, Bool.true_and, Bool.and_false, Bool.false_and, and_true, true_and, and_self, Bool.not_not, hob, hz]
    · rintro ρ σ ⟨h0, h7, h8, h9, h10, hnx, F, kk, hob, hg⟩ K hx hr
      have hz : ¬ 0 = σ.next := by omega
      have hsz := szL_le (l.take m)
      rw [List.length_take] at hsz
      have hml : ((l.take m).map scalF).map encF ≠ [] := by
        intro h
        have := congrArg List.length h
        simp only [List.length_map, List.length_take, List.length_nil] at this
        omega
      have hml2 : (l.take m).length = m := by rw [List.length_take]; omega
      have hzs : ([] : List Int) ++ zs ≠ [] := by
        intro h
        have := congrArg List.length h
        simp only [List.nil_append, List.length_nil, hzl, hml2] at this
        omega
      rcases hg with ⟨h, _⟩ | ⟨_, t, rfl, rfl, hlv, _⟩
      · exact absurd h hml
      simp only [if_neg hzs] at hly
      have hcond : (m : Int) < (l.length : Int) → ¬ (m : Int) < 12 := by omega
      simp only [go_sem, ↓reduceIte, Nat.reduceEqDiff, Nat.reduceAdd, reduceCtorEq, CCT, CCv, CCr, CCk, Nat.reduceBNe, Nat.reduceLeDiff, Nat.reduceLT, beqI, bneI, List.length_map, decide_true, decide_false, Int.reduceEq, Int.reduceLT, Int.reduceLE, Int.reduceGE, Int.reduceGT, not_true_eq_false, not_false_eq_true, Bool.and_true, Bool.true_and, Bool.and_false, Bool.false_and, and_true, true_and, and_self, Bool.not_not, h0, h7, h8, h9, h10, hil]
      by_cases hmL : (m : Int) < (l.length : Int)
      · have h12 := hcond hmL
        simp only [go_sem, ↓reduceIte, Nat.reduceEqDiff, Nat.reduceAdd, reduceCtorEq, CCT, CCv, CCr, CCk, Nat.reduceBNe, Nat.reduceLeDiff, Nat.reduceLT, beqI, bneI, List.length_map, decide_true, decide_false, Int.reduceEq, Int.reduceLT, Int.reduceLE, Int.reduceGE, Int.reduceGT, not_true_eq_false, not_false_eq_true, Bool.and_true, Bool.true_and, Bool.and_false, Bool.false_and, and_true, true_and, and_self, Bool.not_not, hmL, h12, hx, h0, h7, h8, h9, h10, hob, hz, hc, hly, List.append_nil]
        by_cases hs : 8 + szL (l.take m) > 256
        · simp only [go_sem, ↓reduceIte, Nat.reduceEqDiff, Nat.reduceAdd, reduceCtorEq, CCT, CCv, CCr, CCk, Nat.reduceBNe, Nat.reduceLeDiff, Nat.reduceLT, beqI, bneI, List.length_map, decide_true, decide_false, Int.reduceEq, Int.reduceLT, Int.reduceLE, Int.reduceGE, Int.reduceGT, not_true_eq_false, not_false_eq_true, Bool.and_true, Bool.true_and, Bool.and_false, Bool.false_and, and_true, true_and, and_self, Bool.not_not, if_pos hs, hs, hx, h0, h7, h8, h9, h10, hob, hz, hc, hly, List.append_nil]
          rfl
        · simp only [go_sem, ↓reduceIte, Nat.reduceEqDiff, Nat.reduceAdd, reduceCtorEq, CCT, CCv, CCr, CCk, Nat.reduceBNe, Nat.reduceLeDiff, Nat.reduceLT, beqI, bneI, List.length_map, decide_true, decide_false, Int.reduceEq, Int.reduceLT, Int.reduceLE, Int.reduceGE, Int.reduceGT, not_true_eq_false, not_false_eq_true, Bool.and_true, Bool.true_and, Bool.and_false, Bool.false_and, and_true, true_and, and_self, Bool.not_not, if_neg hs, hs, hx, h0, h7, h8, h9, h10, hob, hz, hc, hly, List.append_nil]
          rfl
      · simp only [go_sem, ↓reduceIte, Nat.reduceEqDiff, Nat.reduceAdd, reduceCtorEq, CCT, CCv, CCr, CCk, Nat.reduceBNe, Nat.reduceLeDiff, Nat.reduceLT, beqI, bneI, List.length_map, decide_true, decide_false, Int.reduceEq, Int.reduceLT, Int.reduceLE, Int.reduceGE, Int.reduceGT, not_true_eq_false, not_false_eq_true, Bool.and_true, Bool.true_and, Bool.and_false, Bool.false_and, and_true, true_and, and_self, Bool.not_not, hmL, hx, h0, h7, h8, h9, h10, hob, hz, hc, hly, List.append_nil]
        by_cases hs : 8 + szL (l.take m) > 256
        · simp only [go_sem, ↓reduceIte, Nat.reduceEqDiff, Nat.reduceAdd, reduceCtorEq, CCT, CCv, CCr, CCk, Nat.reduceBNe, Nat.reduceLeDiff, Nat.reduceLT, beqI, bneI, List.length_map, decide_true, decide_false, Int.reduceEq, Int.reduceLT, Int.reduceLE, Int.reduceGE, Int.reduceGT, not_true_eq_false, not_false_eq_true, Bool.and_true, Bool.true_and, Bool.and_false, Bool.false_and, and_true, true_and, and_self, Bool.not_not, if_pos hs, hs, hx, h0, h7, h8, h9, h10, hob, hz, hc, hly, List.append_nil]
          rfl
        · simp only [go_sem, ↓reduceIte, Nat.reduceEqDiff, Nat.reduceAdd, reduceCtorEq, CCT, CCv, CCr, CCk, Nat.reduceBNe, Nat.reduceLeDiff, Nat.reduceLT, beqI, bneI, List.length_map, decide_true, decide_false, Int.reduceEq, Int.reduceLT, Int.reduceLE, Int.reduceGE, Int.reduceGT, not_true_eq_false, not_false_eq_true, Bool.and_true, Bool.true_and, Bool.and_false, Bool.false_and, and_true, true_and, and_self, Bool.not_not, if_neg hs, hs, hx, h0, h7, h8, h9, h10, hob, hz, hc, hly, List.append_nil]
          rfl
    · show m < 0 + 9223372036854775900
      omega
    · refine ⟨by (try simp only [go_sem, ↓reduceIte, Nat.reduceEqDiff, Nat.reduceAdd, reduceCtorEq, CCT, CCv, CCr, CCk, Nat.reduceBNe, Nat.reduceLeDiff, Nat.reduceLT, beqI, bneI, List.length_map, decide_true, decide_false, Int.reduceEq, Int.reduceLT, Int.reduceLE, Int.reduceGE, Int.reduceGT, not_true_eq_false, not_false_eq_true, Bool.and_true, Bool.true_and, Bool.and_false, Bool.false_and, and_true, true_and, and_self, Bool.not_not, Int.toNat_natCast, List.length_take, *]) <;> (first | done | rfl | omega | (simp; done) | (simp; omega)), by (try simp only [go_sem, ↓reduceIte, Nat.reduceEqDiff, Nat.reduceAdd, reduceCtorEq, CCT, CCv, CCr, CCk, Nat.reduceBNe, Nat.reduceLeDiff, Nat.reduceLT, beqI, bneI, List.length_map, decide_true, decide_false, Int.reduceEq, Int.reduceLT, Int.reduceLE, Int.reduceGE, Int.reduceGT, not_true_eq_false, not_false_eq_true, Bool.and_true, Bool.true_and, Bool.and_false, Bool.false_and, and_true, true_and, and_self, Bool.not_not, Int.toNat_natCast, List.length_take, *]) <;> (first | done | rfl | omega | (simp; done) | (simp; omega)), by (try simp only [go_sem, ↓reduceIte, Nat.reduceEqDiff, Nat.reduceAdd, reduceCtorEq, CCT, CCv, CCr, CCk, Nat.reduceBNe, Nat.reduceLeDiff, Nat.reduceLT, beqI, bneI, List.length_map, decide_true, decide_false, Int.reduceEq, Int.reduceLT, Int.reduceLE, Int.reduceGE, Int.reduceGT, not_true_eq_false, not_false_eq_true, Bool.and_true, Bool.true_and, Bool.and_false, Bool.false_and, and_true, true_and, and_self, Bool.not_not, Int.toNat_natCast, List.length_take, *]) <;> (first | done | rfl | omega | (simp; done) | (simp; omega)), by (try simp only [go_sem, ↓reduceIte, Nat.reduceEqDiff, Nat.reduceAdd, reduceCtorEq, CCT, CCv, CCr, CCk, Nat.reduceBNe, Nat.reduceLeDiff, Nat.reduceLT, beqI, bneI, List.length_map, decide_true, decide_false, Int.reduceEq, Int.reduceLT, Int.reduceLE, Int.reduceGE, Int.reduceGT, not_true_eq_false, not_false_eq_true, Bool.and_true, Bool.true_and, Bool.and_false, Bool.false_and, and_true, true_and, and_self, Bool.not_not, Int.toNat_natCast, List.length_take, *]) <;> (first | done | rfl | omega | (simp; done) | (simp; omega)), by (try simp only [go_sem, ↓reduceIte, Nat.reduceEqDiff, Nat.reduceAdd, reduceCtorEq, CCT, CCv, CCr, CCk, Nat.reduceBNe, Nat.reduceLeDiff, Nat.reduceLT, beqI, bneI, List.length_map, decide_true, decide_false, Int.reduceEq, Int.reduceLT, Int.reduceLE, Int.reduceGE, Int.reduceGT, not_true_eq_false, not_false_eq_true, Bool.and_true, Bool.true_and, Bool.and_false, Bool.false_and, and_true, true_and, and_self, Bool.not_not, Int.toNat_natCast, List.length_take, *]) <;> (first | done | rfl | omega | (simp; done) | (simp; omega)), by (try simp only [go_sem, ↓reduceIte, Nat.reduceEqDiff, Nat.reduceAdd, reduceCtorEq, CCT, CCv, CCr, CCk, Nat.reduceBNe, Nat.reduceLeDiff, Nat.reduceLT, beqI, bneI, List.length_map, decide_true, decide_false, Int.reduceEq, Int.reduceLT, Int.reduceLE, Int.reduceGE, Int.reduceGT, not_true_eq_false, not_false_eq_true, Bool.and_true, Bool.true_and, Bool.and_false, Bool.false_and, and_true, true_and, and_self, Bool.not_not, Int.toNat_natCast, List.length_take, *]) <;> (first | done | rfl | omega | (simp; done) | (simp; omega)), .mt true, none, ?_, ?_⟩
      · simp only [go_sem, ↓reduceIte, Nat.reduceEqDiff, Nat.reduceAdd, reduceCtorEq, CCT, CCv, CCr, CCk, Nat.reduceBNe, Nat.reduceLeDiff, Nat.reduceLT, beqI, bneI, List.length_map, decide_true, decide_false, Int.reduceEq, Int.reduceLT, Int.reduceLE, Int.reduceGE, Int.reduceGT, not_true_eq_false, not_false_eq_true, Bool.and_true, Bool.true_and, Bool.and_false, Bool.false_and, and_true, true_and, and_self, Bool.not_not, *]
        rfl
      · exact .nil 41 _
theorem arg_bytes {v : AV} (h : Arg T 43 v) : ∃ b l, v = .list 5 b (bytesI l) none ∧ l.length ≤ 9223372036854775807 ∧ (∀ x ∈ l, 0 ≤ x ∧ x < 256) := by
  have hmx : maxLen ≤ 9223372036854775807 := by decide
  obtain ⟨b, xs, rfl, hx, hb, hl⟩ := arg_slice h ty_43
  have : ∃ l : List Int, xs = bytesI l ∧ ∀ x ∈ l, 0 ≤ x ∧ x < 256 := by
    clear hb hl h
    induction xs with
    | nil => exact ⟨[], rfl, by simp⟩
    | cons x xs ih =>
      obtain ⟨n, rfl, hw⟩ := arg_int (hx x (by simp)) ty_5
      obtain ⟨l, rfl, h2⟩ := ih (fun y hy => hx y (by simp [hy]))
      refine ⟨n :: l, rfl, fun u hu => ?_⟩
      rcases List.mem_cons.1 hu with rfl | hu
      · simp only [Lit.wf, Bool.and_eq_true, decide_eq_true_eq] at hw
        have : IntKind.u8.min = 0 := by decide
        have : IntKind.u8.max = 255 := by decide
        omega
      · exact h2 u hu
  obtain ⟨l, rfl, h2⟩ := this
  exact ⟨b, l, rfl, Nat.le_trans (by simpa [bytesI] using hl) hmx, h2⟩
theorem scalars_law (_d : Nat) (a b c : AV) (h : Arg T 43 a) (hb : Arg T 4 b) (hc : Arg T 4 c) : ∃ σ', evalF Try.prog CC 60 7 [a, b, c] St.empty = some (.bool true, σ') := by
  obtain ⟨bl, l, rfl, h1, h2⟩ := arg_bytes h
  obtain ⟨v, rfl⟩ := arg_bool hb ty_4
  obtain ⟨r, rfl⟩ := arg_bool hc ty_4
  by_cases hl : l = []
  · subst hl
    exact ⟨_, law7_nil bl v r⟩
  · exact ⟨_, law7 bl v r l h1 h2 hl⟩
end Go.Proofs.Ytjembadjfiohpaa.Va
