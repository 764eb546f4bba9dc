/- chapter 18: Forget, references taken and given up -/
import Derived.Test.YtdbpnkemlmagoaaEigB
namespace Go.Proofs.Ytdbpnkemlmagoaa.Va
open Go
set_option linter.unusedVariables false
set_option linter.unusedSimpArgs false
set_option maxRecDepth 100000
def fgS (s : Sta) (k i : Int) : Sta := { s with regs := s.regs.map (fgW k i), slots := s.slots.map (fgW k i) }
/-- a row of numbers, as an argument -/
def RefP (r : AV) (xs : List Int) : Prop := (xs = [] ∧ ∃ b, r = .mt b) ∨ ∃ b, r = .list 3 b (intsA xs) none ∧ (b = true → xs = [])
theorem RefP.refA {r : AV} {xs : List Int} (h : RefP r xs) : RefA r xs := h.imp id (fun ⟨b, h, hb⟩ => ⟨b, none, h, hb⟩)
theorem RefP.fz {r : AV} {xs : List Int} (h : RefP r xs) (σ : St) : freeze σ r = some r := by
  rcases h with ⟨_, b, rfl⟩ | ⟨b, rfl, _⟩
  · simp only [freeze]
  · simp [freeze, fullT]
theorem RefA.strip {r : AV} {xs : List Int} (h : RefA r xs) : RefP (Va.strip r) xs := by
  rcases h with ⟨rfl, b, rfl⟩ | ⟨b, tok, rfl, hb⟩
  · exact .inl ⟨rfl, b, by simp only [Va.strip]⟩
  · exact .inr ⟨b, by simp only [Va.strip], hb⟩
theorem sl_regs (id : Nat) : aSlice T 29 (.ptr 29 id [0, 0]) none none none = some (.view 28 id [0, 0] 0 10) := by
  simp [aSlice, ty_29, bound, Tab.same]
theorem sl_slots (id : Nat) : aSlice T 30 (.ptr 30 id [0, 1]) none none none = some (.view 28 id [0, 1] 0 8) := by
  simp [aSlice, ty_30, bound, Tab.same]
structure SOk (s : Sta) : Prop where
  regs : s.regs.length = 10
  slots : s.slots.length = 8
theorem Forget_c (d : Nat) (s : Sta) (r : AV) (hr : RefP r s.refs) (hs : SOk s) (k i : Int) : evalF Try.prog CC (d + 2) 35 [encS s r, .int .i64 k, .int .i64 i] St.empty = some (encS (fgS s k i) r, St.empty) := by
  refine wp_eq ?_
  rw [run_35 _ _ _ (by simp)]; unfold Try.f35; simp only [Option.getD_some]
  simp only [go_sem, ↓reduceIte, Nat.reduceEqDiff, Nat.reduceAdd, reduceCtorEq, CCT, CCv, CCr, CCk, CCx, List.isEmpty_nil, Nat.reduceBNe, Nat.reduceBEq, Bool.or_false, Bool.false_or, Bool.or_true, Bool.true_or, Nat.reduceLeDiff, Nat.reduceLT, beqI, bneI, List.length_map, decide_true, decide_false, Int.reduceEq, Int.reduceLT, Int.reduceLE, Int.reduceGE, Int.reduceGT, not_true_eq_false, not_false_eq_true, Bool.and_true, Bool.true_and, Bool.and_false, Bool.false_and, and_true, true_and, and_self, Bool.not_not, sl_regs, sl_slots]
  refine W.call (forgetA _ (v := 0) (A := s.regs) (k := k) (i := i) (show 0 < 4 by decide) (show 1 < 4 by decide) (show 2 < 4 by decide) (by decide) (by decide) hs.regs (by decide) rfl rfl rfl) ?_
  rintro v1 s1 ⟨h1, h2, h3, h4⟩
  simp only at h1 h2 h3 h4
  have g1 := h4 1 (show 1 < 4 by decide) (by decide)
  have g2 := h4 2 (show 2 < 4 by decide) (by decide)
  have g3 := h4 3 (show 3 < 4 by decide) (by decide)
  have n4 : 4 ≤ s1.next := h3
  simp only [go_sem, ↓reduceIte, Nat.reduceEqDiff, Nat.reduceAdd, reduceCtorEq, CCT, CCv, CCr, CCk, CCx, List.isEmpty_nil, Nat.reduceBNe, Nat.reduceBEq, Bool.or_false, Bool.false_or, Bool.or_true, Bool.true_or, Nat.reduceLeDiff, Nat.reduceLT, beqI, bneI, List.length_map, decide_true, decide_false, Int.reduceEq, Int.reduceLT, Int.reduceLE, Int.reduceGE, Int.reduceGT, not_true_eq_false, not_false_eq_true, Bool.and_true, Bool.true_and, Bool.and_false, Bool.false_and, and_true, true_and, and_self, Bool.not_not, sl_regs, sl_slots]
  refine W.call (forgetB _ (v := 0) (A := s.slots) (k := k) (i := i) (by omega) (by omega) (by omega) (by decide) (by decide) hs.slots (by decide) h2 g1 g2) ?_
  rintro v2 s2 ⟨k1, k2, k3, k4⟩
  simp only at k1 k2 k3 k4
  have g5 := (k4 3 (by omega) (by decide)).trans g3
  simp only [go_sem, ↓reduceIte, Nat.reduceEqDiff, Nat.reduceAdd, reduceCtorEq, CCT, CCv, CCr, CCk, CCx, List.isEmpty_nil, Nat.reduceBNe, Nat.reduceBEq, Bool.or_false, Bool.false_or, Bool.or_true, Bool.true_or, Nat.reduceLeDiff, Nat.reduceLT, beqI, bneI, List.length_map, decide_true, decide_false, Int.reduceEq, Int.reduceLT, Int.reduceLE, Int.reduceGE, Int.reduceGT, not_true_eq_false, not_false_eq_true, Bool.and_true, Bool.true_and, Bool.and_false, Bool.false_and, and_true, true_and, and_self, Bool.not_not, k2, g5]
  have hz := fun σ => hr.fz σ
  simp only [go_sem, ↓reduceIte, Nat.reduceEqDiff, Nat.reduceAdd, reduceCtorEq, CCT, CCv, CCr, CCk, CCx, List.isEmpty_nil, Nat.reduceBNe, Nat.reduceBEq, Bool.or_false, Bool.false_or, Bool.or_true, Bool.true_or, Nat.reduceLeDiff, Nat.reduceLT, beqI, bneI, List.length_map, decide_true, decide_false, Int.reduceEq, Int.reduceLT, Int.reduceLE, Int.reduceGE, Int.reduceGT, not_true_eq_false, not_false_eq_true, Bool.and_true, Bool.true_and, Bool.and_false, Bool.false_and, and_true, true_and, and_self, Bool.not_not, frz_W, hz]
  rfl
theorem roomy3 {n : Nat} (h : n ≤ 17592186044417) : roomy T 3 n = true := by
  have hb : T.bytes 3 = 8 := by kernel_rfl
  have h1 : n ≤ most := Nat.le_trans h (by decide)
  have h2 : n * 8 ≤ most := Nat.le_trans (Nat.mul_le_mul_right 8 h) (by decide)
  unfold roomy
  rw [hb]
  simp [h1, h2]
/-- a copy -/
def cloneV (r : AV) (xs : List Int) : AV := match r with | .mt true | .list _ true _ _ => .mt true | _ => .list 3 false (intsA xs) (some 1)
theorem Clone_c (d : Nat) (r : AV) (xs : List Int) (hr : RefP r xs) (hx : xs.length ≤ 17592186044416) : evalF Try.prog CC (d + 1) 44 [r] St.empty = some (cloneV r xs, valSt (cloneV r xs)) := by
  have hil : (intsA xs).length = xs.length := by simp [intsA]
  refine wp_eq ?_
  rcases hr with ⟨rfl, b, rfl⟩ | ⟨b, rfl, hb⟩
  · cases b
    · rw [run_44 _ _ _ (by simp)]; unfold Try.f44; simp only [Option.getD_some]
      simp only [go_sem, ↓reduceIte, Nat.reduceEqDiff, Nat.reduceAdd, reduceCtorEq, CCT, CCv, CCr, CCk, CCx, List.isEmpty_nil, Nat.reduceBNe, Nat.reduceBEq, Bool.or_false, Bool.false_or, Bool.or_true, Bool.true_or, Nat.reduceLeDiff, Nat.reduceLT, beqI, bneI, List.length_map, decide_true, decide_false, Int.reduceEq, Int.reduceLT, Int.reduceLE, Int.reduceGE, Int.reduceGT, not_true_eq_false, not_false_eq_true, Bool.and_true, Bool.true_and, Bool.and_false, Bool.false_and, and_true, true_and, and_self, Bool.not_not, *]
      refine W.br_ok (roomy3 (by simp)) ?_
      simp only [go_sem, ↓reduceIte, Nat.reduceEqDiff, Nat.reduceAdd, reduceCtorEq, CCT, CCv, CCr, CCk, CCx, List.isEmpty_nil, Nat.reduceBNe, Nat.reduceBEq, Bool.or_false, Bool.false_or, Bool.or_true, Bool.true_or, Nat.reduceLeDiff, Nat.reduceLT, beqI, bneI, List.length_map, decide_true, decide_false, Int.reduceEq, Int.reduceLT, Int.reduceLE, Int.reduceGE, Int.reduceGT, not_true_eq_false, not_false_eq_true, Bool.and_true, Bool.true_and, Bool.and_false, Bool.false_and, and_true, true_and, and_self, Bool.not_not, *]
      rfl
    · rw [run_44 _ _ _ (by simp)]; unfold Try.f44; simp only [Option.getD_some]
      simp only [go_sem, ↓reduceIte, Nat.reduceEqDiff, Nat.reduceAdd, reduceCtorEq, CCT, CCv, CCr, CCk, CCx, List.isEmpty_nil, Nat.reduceBNe, Nat.reduceBEq, Bool.or_false, Bool.false_or, Bool.or_true, Bool.true_or, Nat.reduceLeDiff, Nat.reduceLT, beqI, bneI, List.length_map, decide_true, decide_false, Int.reduceEq, Int.reduceLT, Int.reduceLE, Int.reduceGE, Int.reduceGT, not_true_eq_false, not_false_eq_true, Bool.and_true, Bool.true_and, Bool.and_false, Bool.false_and, and_true, true_and, and_self, Bool.not_not, *]
      rfl
  · cases b
    · rw [run_44 _ _ _ (by simp)]; unfold Try.f44; simp only [Option.getD_some]
      simp only [go_sem, ↓reduceIte, Nat.reduceEqDiff, Nat.reduceAdd, reduceCtorEq, CCT, CCv, CCr, CCk, CCx, List.isEmpty_nil, Nat.reduceBNe, Nat.reduceBEq, Bool.or_false, Bool.false_or, Bool.or_true, Bool.true_or, Nat.reduceLeDiff, Nat.reduceLT, beqI, bneI, List.length_map, decide_true, decide_false, Int.reduceEq, Int.reduceLT, Int.reduceLE, Int.reduceGE, Int.reduceGT, not_true_eq_false, not_false_eq_true, Bool.and_true, Bool.true_and, Bool.and_false, Bool.false_and, and_true, true_and, and_self, Bool.not_not, *]
      refine W.br_ok (roomy3 (by omega)) ?_
      simp only [go_sem, ↓reduceIte, Nat.reduceEqDiff, Nat.reduceAdd, reduceCtorEq, CCT, CCv, CCr, CCk, CCx, List.isEmpty_nil, Nat.reduceBNe, Nat.reduceBEq, Bool.or_false, Bool.false_or, Bool.or_true, Bool.true_or, Nat.reduceLeDiff, Nat.reduceLT, beqI, bneI, List.length_map, decide_true, decide_false, Int.reduceEq, Int.reduceLT, Int.reduceLE, Int.reduceGE, Int.reduceGT, not_true_eq_false, not_false_eq_true, Bool.and_true, Bool.true_and, Bool.and_false, Bool.false_and, and_true, true_and, and_self, Bool.not_not, *]
      rfl
    · rw [run_44 _ _ _ (by simp)]; unfold Try.f44; simp only [Option.getD_some]
      simp only [go_sem, ↓reduceIte, Nat.reduceEqDiff, Nat.reduceAdd, reduceCtorEq, CCT, CCv, CCr, CCk, CCx, List.isEmpty_nil, Nat.reduceBNe, Nat.reduceBEq, Bool.or_false, Bool.false_or, Bool.or_true, Bool.true_or, Nat.reduceLeDiff, Nat.reduceLT, beqI, bneI, List.length_map, decide_true, decide_false, Int.reduceEq, Int.reduceLT, Int.reduceLE, Int.reduceGE, Int.reduceGT, not_true_eq_false, not_false_eq_true, Bool.and_true, Bool.true_and, Bool.and_false, Bool.false_and, and_true, true_and, and_self, Bool.not_not, *]
      rfl
/-- a copy that is written -/
def Cp (σ : St) (xs : List Int) (v : AV) (σ' : St) : Prop := Keeps σ σ' σ.next ∧ ((xs = [] ∧ (v = .mt true ∨ ∃ tok, v = .list 3 false [] tok)) ∨ (xs ≠ [] ∧ v = .view 3 σ.next [] 0 xs.length ∧ σ.next < σ'.next ∧ σ'.obj σ.next = some (.cells 3 (intsA xs))))
theorem CloneRow_c (d : Nat) (r : AV) (xs : List Int) (hr : RefA r xs) (hx : xs.length ≤ 17592186044416) (σ : St) : Sat (fun p => Cp σ xs p.1 p.2) (evalF Try.prog CC (d + 1) 1000044 [r] σ) := by
  have hil : (intsA xs).length = xs.length := by simp [intsA]
  refine Sat.go ?_
  rcases hr with ⟨rfl, b, rfl⟩ | ⟨b, tok, rfl, hb⟩
  · cases b
    · rw [run_1000044 _ _ _ (by simp)]; unfold Try.f44; simp only [Option.getD_some]
      simp only [go_sem, ↓reduceIte, Nat.reduceEqDiff, Nat.reduceAdd, reduceCtorEq, CCT, CCv, CCr, CCk, CCx, List.isEmpty_nil, Nat.reduceBNe, Nat.reduceBEq, Bool.or_false, Bool.false_or, Bool.or_true, Bool.true_or, Nat.reduceLeDiff, Nat.reduceLT, beqI, bneI, List.length_map, decide_true, decide_false, Int.reduceEq, Int.reduceLT, Int.reduceLE, Int.reduceGE, Int.reduceGT, not_true_eq_false, not_false_eq_true, Bool.and_true, Bool.true_and, Bool.and_false, Bool.false_and, and_true, true_and, and_self, Bool.not_not, *]
      refine W.br_ok (roomy3 (by decide)) ?_
      simp only [go_sem, ↓reduceIte, Nat.reduceEqDiff, Nat.reduceAdd, reduceCtorEq, CCT, CCv, CCr, CCk, CCx, List.isEmpty_nil, Nat.reduceBNe, Nat.reduceBEq, Bool.or_false, Bool.false_or, Bool.or_true, Bool.true_or, Nat.reduceLeDiff, Nat.reduceLT, beqI, bneI, List.length_map, decide_true, decide_false, Int.reduceEq, Int.reduceLT, Int.reduceLE, Int.reduceGE, Int.reduceGT, not_true_eq_false, not_false_eq_true, Bool.and_true, Bool.true_and, Bool.and_false, Bool.false_and, and_true, true_and, and_self, Bool.not_not, *]
      exact wp_some ⟨(Keeps.refl _ _).tok _, .inl ⟨rfl, .inr ⟨_, rfl⟩⟩⟩
    · rw [run_1000044 _ _ _ (by simp)]; unfold Try.f44; simp only [Option.getD_some]
      simp only [go_sem, ↓reduceIte, Nat.reduceEqDiff, Nat.reduceAdd, reduceCtorEq, CCT, CCv, CCr, CCk, CCx, List.isEmpty_nil, Nat.reduceBNe, Nat.reduceBEq, Bool.or_false, Bool.false_or, Bool.or_true, Bool.true_or, Nat.reduceLeDiff, Nat.reduceLT, beqI, bneI, List.length_map, decide_true, decide_false, Int.reduceEq, Int.reduceLT, Int.reduceLE, Int.reduceGE, Int.reduceGT, not_true_eq_false, not_false_eq_true, Bool.and_true, Bool.true_and, Bool.and_false, Bool.false_and, and_true, true_and, and_self, Bool.not_not, *]
      exact wp_some ⟨Keeps.refl _ _, .inl ⟨rfl, .inl rfl⟩⟩
  · cases b
    · rw [run_1000044 _ _ _ (by simp)]; unfold Try.f44; simp only [Option.getD_some]
      simp only [go_sem, ↓reduceIte, Nat.reduceEqDiff, Nat.reduceAdd, reduceCtorEq, CCT, CCv, CCr, CCk, CCx, List.isEmpty_nil, Nat.reduceBNe, Nat.reduceBEq, Bool.or_false, Bool.false_or, Bool.or_true, Bool.true_or, Nat.reduceLeDiff, Nat.reduceLT, beqI, bneI, List.length_map, decide_true, decide_false, Int.reduceEq, Int.reduceLT, Int.reduceLE, Int.reduceGE, Int.reduceGT, not_true_eq_false, not_false_eq_true, Bool.and_true, Bool.true_and, Bool.and_false, Bool.false_and, and_true, true_and, and_self, Bool.not_not, *]
      refine W.br_ok (roomy3 (by omega)) ?_
      by_cases hx0 : xs = []
      · subst hx0
        have he : (intsA []).isEmpty = true := rfl
        simp only [go_sem, ↓reduceIte, Nat.reduceEqDiff, Nat.reduceAdd, reduceCtorEq, CCT, CCv, CCr, CCk, CCx, List.isEmpty_nil, Nat.reduceBNe, Nat.reduceBEq, Bool.or_false, Bool.false_or, Bool.or_true, Bool.true_or, Nat.reduceLeDiff, Nat.reduceLT, beqI, bneI, List.length_map, decide_true, decide_false, Int.reduceEq, Int.reduceLT, Int.reduceLE, Int.reduceGE, Int.reduceGT, not_true_eq_false, not_false_eq_true, Bool.and_true, Bool.true_and, Bool.and_false, Bool.false_and, and_true, true_and, and_self, Bool.not_not, he]
        exact wp_some ⟨(Keeps.refl _ _).tok _, .inl ⟨rfl, .inr ⟨_, rfl⟩⟩⟩
      · have he : (intsA xs).isEmpty = false := by cases xs with | nil => exact absurd rfl hx0 | cons => rfl
        simp only [go_sem, ↓reduceIte, Nat.reduceEqDiff, Nat.reduceAdd, reduceCtorEq, CCT, CCv, CCr, CCk, CCx, List.isEmpty_nil, Nat.reduceBNe, Nat.reduceBEq, Bool.or_false, Bool.false_or, Bool.or_true, Bool.true_or, Nat.reduceLeDiff, Nat.reduceLT, beqI, bneI, List.length_map, decide_true, decide_false, Int.reduceEq, Int.reduceLT, Int.reduceLE, Int.reduceGE, Int.reduceGT, not_true_eq_false, not_false_eq_true, Bool.and_true, Bool.true_and, Bool.and_false, Bool.false_and, and_true, true_and, and_self, Bool.not_not, he, hil]
        exact wp_some ⟨(Keeps.refl _ _).new _, .inr ⟨hx0, rfl, Nat.lt_succ_self _, if_pos rfl⟩⟩
    · have h0 := hb rfl
      subst h0
      rw [run_1000044 _ _ _ (by simp)]; unfold Try.f44; simp only [Option.getD_some]
      simp only [go_sem, ↓reduceIte, Nat.reduceEqDiff, Nat.reduceAdd, reduceCtorEq, CCT, CCv, CCr, CCk, CCx, List.isEmpty_nil, Nat.reduceBNe, Nat.reduceBEq, Bool.or_false, Bool.false_or, Bool.or_true, Bool.true_or, Nat.reduceLeDiff, Nat.reduceLT, beqI, bneI, List.length_map, decide_true, decide_false, Int.reduceEq, Int.reduceLT, Int.reduceLE, Int.reduceGE, Int.reduceGT, not_true_eq_false, not_false_eq_true, Bool.and_true, Bool.true_and, Bool.and_false, Bool.false_and, and_true, true_and, and_self, Bool.not_not, *]
      exact wp_some ⟨Keeps.refl _ _, .inl ⟨rfl, .inl rfl⟩⟩
/-- the closure: is it the number? -/
theorem is_c (d : Nat) {σ : St} {iw : Nat} {w : Wht} (ho : σ.obj iw = some (.cells 28 [encW w])) (x : Int) :
    evalF Try.prog CC (d + 1) 47 [.int .i64 x, .ptr 28 iw [0]] σ = some (.bool (decide (x = w.id)), σ.trim σ.next) := by
  refine wp_eq ?_
  rw [run_47 _ _ _ (by simp)]; unfold Try.f47; simp only [Option.getD_some]
  simp only [go_sem, ↓reduceIte, Nat.reduceEqDiff, Nat.reduceAdd, reduceCtorEq, CCT, CCv, CCr, CCk, CCx, List.isEmpty_nil, Nat.reduceBNe, Nat.reduceBEq, Bool.or_false, Bool.false_or, Bool.or_true, Bool.true_or, Nat.reduceLeDiff, Nat.reduceLT, beqI, bneI, List.length_map, decide_true, decide_false, Int.reduceEq, Int.reduceLT, Int.reduceLE, Int.reduceGE, Int.reduceGT, not_true_eq_false, not_false_eq_true, Bool.and_true, Bool.true_and, Bool.and_false, Bool.false_and, and_true, true_and, and_self, Bool.not_not, ho]
  rfl
/-- the first place of the number -/
theorem IndexFunc_c (d : Nat) {σ : St} {v iw : Nat} {w : Wht} {xs : List Int} (hv : v < σ.next) (hw : iw < σ.next) (hl : xs.length ≤ 17592186044416) (hov : σ.obj v = some (.cells 3 (intsA xs))) (ho : σ.obj iw = some (.cells 28 [encW w])) :
    Sat (fun p => Keeps σ p.2 σ.next ∧ ((p.1 = .int .i64 (-1) ∧ ∀ x ∈ xs, x ≠ w.id) ∨ ∃ i : Nat, p.1 = .int .i64 i ∧ i < xs.length ∧ (∀ x ∈ xs.take i, x ≠ w.id) ∧ xs[i]? = some w.id)) (evalF Try.prog CC (d + 2) 55 [.view 3 v [] 0 xs.length, .func 47 [.ptr 28 iw [0]]] σ) := by
  have hil : (intsA xs).length = xs.length := by simp [intsA]
  refine Sat.go ?_
  rw [run_55 _ _ _ (by simp)]; unfold Try.f55; simp only [Option.getD_some]
  simp only [go_sem, ↓reduceIte, Nat.reduceEqDiff, Nat.reduceAdd, reduceCtorEq, CCT, CCv, CCr, CCk, CCx, List.isEmpty_nil, Nat.reduceBNe, Nat.reduceBEq, Bool.or_false, Bool.false_or, Bool.or_true, Bool.true_or, Nat.reduceLeDiff, Nat.reduceLT, beqI, bneI, List.length_map, decide_true, decide_false, Int.reduceEq, Int.reduceLT, Int.reduceLE, Int.reduceGE, Int.reduceGT, not_true_eq_false, not_false_eq_true, Bool.and_true, Bool.true_and, Bool.and_false, Bool.false_and, and_true, true_and, and_self, Bool.not_not, *]
  refine W.iter_rule (fun j ρ s => ρ 0 = .view 3 v [] 0 xs.length ∧ ρ 1 = .func 47 [.ptr 28 iw [0]] ∧ ρ 7 = .int .i64 xs.length ∧ ρ 8 = .int .i64 j ∧ Keeps σ s σ.next ∧ ∀ x ∈ xs.take j, x ≠ w.id) xs.length ?_ ?_ _ 0 _ _ (Nat.zero_le _) ?_ ?_
  · rintro j ρ s hj ⟨h0, h1, h7, h8, hk, hm⟩ K hK hx hr
    have hlt : (j : Int) < (xs.length : Int) := by omega
    have hwrap : IntKind.i64.wrap ((j : Int) + 1) = ((j + 1 : Nat) : Int) := by rw [IntKind.wrap_i64]; omega
    have hia : aIndexAddr T 31 (.view 3 v [] 0 xs.length) (.int .i64 (j : Nat)) = some (.ptr 3 v [j]) := by
      simp only [aIndexAddr, ty_31]
      rw [if_pos ⟨trivial, by omega, by exact_mod_cast hj⟩]
      simp
    have hov' := (hk.2 v hv (by omega)).trans hov
    have how' := (hk.2 iw hw (by omega)).trans ho
    have hget : (intsA xs)[j]? = some (.int .i64 xs[j]) := by simp [intsA, hj]
    have hsn : xs.take (j + 1) = xs.take j ++ [xs[j]] := List.take_succ_eq_append_getElem hj
    have hxj : xs[j]? = some xs[j] := List.getElem?_eq_getElem hj
    generalize xs[j] = q at hget hsn hxj
    have hcl := fun d => is_c d how' q
    simp only [go_sem, ↓reduceIte, Nat.reduceEqDiff, Nat.reduceAdd, reduceCtorEq, CCT, CCv, CCr, CCk, CCx, List.isEmpty_nil, Nat.reduceBNe, Nat.reduceBEq, Bool.or_false, Bool.false_or, Bool.or_true, Bool.true_or, Nat.reduceLeDiff, Nat.reduceLT, beqI, bneI, List.length_map, decide_true, decide_false, Int.reduceEq, Int.reduceLT, Int.reduceLE, Int.reduceGE, Int.reduceGT, not_true_eq_false, not_false_eq_true, Bool.and_true, Bool.true_and, Bool.and_false, Bool.false_and, and_true, true_and, and_self, Bool.not_not, h0, h1, h7, h8, hlt, hia, hov', hget, hcl, at_nil, rowAt, AV.at]
    have hkt : Keeps σ (s.trim s.next) σ.next := ⟨hk.1, fun i hi hn => by
      show (if i < s.next then s.obj i else none) = _
      rw [if_pos (by have := hk.1; omega)]; exact hk.2 i hi hn⟩
    refine W.br_dec (fun hq => ?_) (fun hq => ?_)
    · simp only [go_sem, ↓reduceIte, Nat.reduceEqDiff, Nat.reduceAdd, reduceCtorEq, CCT, CCv, CCr, CCk, CCx, List.isEmpty_nil, Nat.reduceBNe, Nat.reduceBEq, Bool.or_false, Bool.false_or, Bool.or_true, Bool.true_or, Nat.reduceLeDiff, Nat.reduceLT, beqI, bneI, List.length_map, decide_true, decide_false, Int.reduceEq, Int.reduceLT, Int.reduceLE, Int.reduceGE, Int.reduceGT, not_true_eq_false, not_false_eq_true, Bool.and_true, Bool.true_and, Bool.and_false, Bool.false_and, and_true, true_and, and_self, Bool.not_not, h0, h1, h7, h8, hr, hq]
      exact wp_some ⟨hkt.trim, .inr ⟨j, rfl, hj, hm, by rw [hxj, hq]⟩⟩
    · simp only [go_sem, ↓reduceIte, Nat.reduceEqDiff, Nat.reduceAdd, reduceCtorEq, CCT, CCv, CCr, CCk, CCx, List.isEmpty_nil, Nat.reduceBNe, Nat.reduceBEq, Bool.or_false, Bool.false_or, Bool.or_true, Bool.true_or, Nat.reduceLeDiff, Nat.reduceLT, beqI, bneI, List.length_map, decide_true, decide_false, Int.reduceEq, Int.reduceLT, Int.reduceLE, Int.reduceGE, Int.reduceGT, not_true_eq_false, not_false_eq_true, Bool.and_true, Bool.true_and, Bool.and_false, Bool.false_and, and_true, true_and, and_self, Bool.not_not, h0, h1, h7, h8, hwrap]
      refine hK _ _ ?_
      refine ⟨by (try simp only [go_sem, ↓reduceIte, Nat.reduceEqDiff, Nat.reduceAdd, reduceCtorEq, CCT, CCv, CCr, CCk, CCx, List.isEmpty_nil, Nat.reduceBNe, Nat.reduceBEq, Bool.or_false, Bool.false_or, Bool.or_true, Bool.true_or, Nat.reduceLeDiff, Nat.reduceLT, beqI, bneI, List.length_map, decide_true, decide_false, Int.reduceEq, Int.reduceLT, Int.reduceLE, Int.reduceGE, Int.reduceGT, not_true_eq_false, not_false_eq_true, Bool.and_true, Bool.true_and, Bool.and_false, Bool.false_and, and_true, true_and, and_self, Bool.not_not, Int.toNat_natCast, List.length_take, *]) <;> (first | done | rfl | omega | (simp; done) | (simp; omega)), by (try simp only [go_sem, ↓reduceIte, Nat.reduceEqDiff, Nat.reduceAdd, reduceCtorEq, CCT, CCv, CCr, CCk, CCx, List.isEmpty_nil, Nat.reduceBNe, Nat.reduceBEq, Bool.or_false, Bool.false_or, Bool.or_true, Bool.true_or, Nat.reduceLeDiff, Nat.reduceLT, beqI, bneI, List.length_map, decide_true, decide_false, Int.reduceEq, Int.reduceLT, Int.reduceLE, Int.reduceGE, Int.reduceGT, not_true_eq_false, not_false_eq_true, Bool.and_true, Bool.true_and, Bool.and_false, Bool.false_and, and_true, true_and, and_self, Bool.not_not, Int.toNat_natCast, List.length_take, *]) <;> (first | done | rfl | omega | (simp; done) | (simp; omega)), by (try simp only [go_sem, ↓reduceIte, Nat.reduceEqDiff, Nat.reduceAdd, reduceCtorEq, CCT, CCv, CCr, CCk, CCx, List.isEmpty_nil, Nat.reduceBNe, Nat.reduceBEq, Bool.or_false, Bool.false_or, Bool.or_true, Bool.true_or, Nat.reduceLeDiff, Nat.reduceLT, beqI, bneI, List.length_map, decide_true, decide_false, Int.reduceEq, Int.reduceLT, Int.reduceLE, Int.reduceGE, Int.reduceGT, not_true_eq_false, not_false_eq_true, Bool.and_true, Bool.true_and, Bool.and_false, Bool.false_and, and_true, true_and, and_self, Bool.not_not, Int.toNat_natCast, List.length_take, *]) <;> (first | done | rfl | omega | (simp; done) | (simp; omega)), by (try simp only [go_sem, ↓reduceIte, Nat.reduceEqDiff, Nat.reduceAdd, reduceCtorEq, CCT, CCv, CCr, CCk, CCx, List.isEmpty_nil, Nat.reduceBNe, Nat.reduceBEq, Bool.or_false, Bool.false_or, Bool.or_true, Bool.true_or, Nat.reduceLeDiff, Nat.reduceLT, beqI, bneI, List.length_map, decide_true, decide_false, Int.reduceEq, Int.reduceLT, Int.reduceLE, Int.reduceGE, Int.reduceGT, not_true_eq_false, not_false_eq_true, Bool.and_true, Bool.true_and, Bool.and_false, Bool.false_and, and_true, true_and, and_self, Bool.not_not, Int.toNat_natCast, List.length_take, *]) <;> (first | done | rfl | omega | (simp; done) | (simp; omega)), hkt, ?_⟩
      intro x hx
      rw [hsn, List.mem_append, List.mem_singleton] at hx
      rcases hx with hx | rfl
      · exact hm x hx
      · exact hq
  · rintro ρ s ⟨h0, h1, h7, h8, hk, hm⟩ K hx hr
    have hlt : ¬ (xs.length : Int) < (xs.length : Int) := by omega
    rw [List.take_length] at hm
    simp only [go_sem, ↓reduceIte, Nat.reduceEqDiff, Nat.reduceAdd, reduceCtorEq, CCT, CCv, CCr, CCk, CCx, List.isEmpty_nil, Nat.reduceBNe, Nat.reduceBEq, Bool.or_false, Bool.false_or, Bool.or_true, Bool.true_or, Nat.reduceLeDiff, Nat.reduceLT, beqI, bneI, List.length_map, decide_true, decide_false, Int.reduceEq, Int.reduceLT, Int.reduceLE, Int.reduceGE, Int.reduceGT, not_true_eq_false, not_false_eq_true, Bool.and_true, Bool.true_and, Bool.and_false, Bool.false_and, and_true, true_and, and_self, Bool.not_not, hx, h0, h1, h7, h8, hlt]
    exact wp_some ⟨hk.trim, .inl ⟨rfl, hm⟩⟩
  · show xs.length < 0 + 9223372036854775900
    omega
  · exact ⟨by (try simp only [go_sem, ↓reduceIte, Nat.reduceEqDiff, Nat.reduceAdd, reduceCtorEq, CCT, CCv, CCr, CCk, CCx, List.isEmpty_nil, Nat.reduceBNe, Nat.reduceBEq, Bool.or_false, Bool.false_or, Bool.or_true, Bool.true_or, Nat.reduceLeDiff, Nat.reduceLT, beqI, bneI, List.length_map, decide_true, decide_false, Int.reduceEq, Int.reduceLT, Int.reduceLE, Int.reduceGE, Int.reduceGT, not_true_eq_false, not_false_eq_true, Bool.and_true, Bool.true_and, Bool.and_false, Bool.false_and, and_true, true_and, and_self, Bool.not_not, Int.toNat_natCast, List.length_take, *]) <;> (first | done | rfl | omega | (simp; done) | (simp; omega)), by (try simp only [go_sem, ↓reduceIte, Nat.reduceEqDiff, Nat.reduceAdd, reduceCtorEq, CCT, CCv, CCr, CCk, CCx, List.isEmpty_nil, Nat.reduceBNe, Nat.reduceBEq, Bool.or_false, Bool.false_or, Bool.or_true, Bool.true_or, Nat.reduceLeDiff, Nat.reduceLT, beqI, bneI, List.length_map, decide_true, decide_false, Int.reduceEq, Int.reduceLT, Int.reduceLE, Int.reduceGE, Int.reduceGT, not_true_eq_false, not_false_eq_true, Bool.and_true, Bool.true_and, Bool.and_false, Bool.false_and, and_true, true_and, and_self, Bool.not_not, Int.toNat_natCast, List.length_take, *]) <;> (first | done | rfl | omega | (simp; done) | (simp; omega)), by (try simp only [go_sem, ↓reduceIte, Nat.reduceEqDiff, Nat.reduceAdd, reduceCtorEq, CCT, CCv, CCr, CCk, CCx, List.isEmpty_nil, Nat.reduceBNe, Nat.reduceBEq, Bool.or_false, Bool.false_or, Bool.or_true, Bool.true_or, Nat.reduceLeDiff, Nat.reduceLT, beqI, bneI, List.length_map, decide_true, decide_false, Int.reduceEq, Int.reduceLT, Int.reduceLE, Int.reduceGE, Int.reduceGT, not_true_eq_false, not_false_eq_true, Bool.and_true, Bool.true_and, Bool.and_false, Bool.false_and, and_true, true_and, and_self, Bool.not_not, Int.toNat_natCast, List.length_take, *]) <;> (first | done | rfl | omega | (simp; done) | (simp; omega)), by (try simp only [go_sem, ↓reduceIte, Nat.reduceEqDiff, Nat.reduceAdd, reduceCtorEq, CCT, CCv, CCr, CCk, CCx, List.isEmpty_nil, Nat.reduceBNe, Nat.reduceBEq, Bool.or_false, Bool.false_or, Bool.or_true, Bool.true_or, Nat.reduceLeDiff, Nat.reduceLT, beqI, bneI, List.length_map, decide_true, decide_false, Int.reduceEq, Int.reduceLT, Int.reduceLE, Int.reduceGE, Int.reduceGT, not_true_eq_false, not_false_eq_true, Bool.and_true, Bool.true_and, Bool.and_false, Bool.false_and, and_true, true_and, and_self, Bool.not_not, Int.toNat_natCast, List.length_take, *]) <;> (first | done | rfl | omega | (simp; done) | (simp; omega)), Keeps.refl _ _, by simp⟩
def no (i : Int) (xs : List Int) : List Int := xs.filter (fun x => !decide (x = i))
theorem no_all {i : Int} {xs : List Int} (h : ∀ x ∈ xs, x ≠ i) : no i xs = xs := by
  unfold no
  rw [List.filter_eq_self]
  intro x hx
  simp [h x hx]
theorem DeleteFunc_c (d : Nat) {σ : St} {v iw : Nat} {w : Wht} {xs : List Int} (hv : v < σ.next) (hw : iw < σ.next) (hvw : iw ≠ v) (hne : xs ≠ []) (hl : xs.length ≤ 17592186044416) (hov : σ.obj v = some (.cells 3 (intsA xs))) (ho : σ.obj iw = some (.cells 28 [encW w])) :
    Sat (fun p => Keeps σ p.2 v ∧ ∃ ys : List Int, p.1 = .view 3 v [] 0 (no w.id xs).length ∧ p.2.obj v = some (.cells 3 (intsA ys)) ∧ ys.length = xs.length ∧ ys.take (no w.id xs).length = no w.id xs) (evalF Try.prog CC (d + 3) 46 [.view 3 v [] 0 xs.length, .func 47 [.ptr 28 iw [0]]] σ) := by
  have hil : ∀ ys : List Int, (intsA ys).length = ys.length := fun ys => by simp [intsA]
  refine Sat.go ?_
  rw [run_46 _ _ _ (by simp)]; unfold Try.f46; simp only [Option.getD_some]
  simp only [go_sem, ↓reduceIte, Nat.reduceEqDiff, Nat.reduceAdd, reduceCtorEq, CCT, CCv, CCr, CCk, CCx, List.isEmpty_nil, Nat.reduceBNe, Nat.reduceBEq, Bool.or_false, Bool.false_or, Bool.or_true, Bool.true_or, Nat.reduceLeDiff, Nat.reduceLT, beqI, bneI, List.length_map, decide_true, decide_false, Int.reduceEq, Int.reduceLT, Int.reduceLE, Int.reduceGE, Int.reduceGT, not_true_eq_false, not_false_eq_true, Bool.and_true, Bool.true_and, Bool.and_false, Bool.false_and, and_true, true_and, and_self, Bool.not_not, *]
  refine W.call (IndexFunc_c _ hv hw hl hov ho) ?_
  rintro v1 s1 ⟨hk1, hres⟩
  simp only at hk1 hres
  have hov1 := (hk1.2 v hv (by omega)).trans hov
  have how1 := (hk1.2 iw hw (by omega)).trans ho
  rcases hres with ⟨rfl, hno⟩ | ⟨i, rfl, hi, hpre, hit⟩
  · simp only [go_sem, ↓reduceIte, Nat.reduceEqDiff, Nat.reduceAdd, reduceCtorEq, CCT, CCv, CCr, CCk, CCx, List.isEmpty_nil, Nat.reduceBNe, Nat.reduceBEq, Bool.or_false, Bool.false_or, Bool.or_true, Bool.true_or, Nat.reduceLeDiff, Nat.reduceLT, beqI, bneI, List.length_map, decide_true, decide_false, Int.reduceEq, Int.reduceLT, Int.reduceLE, Int.reduceGE, Int.reduceGT, not_true_eq_false, not_false_eq_true, Bool.and_true, Bool.true_and, Bool.and_false, Bool.false_and, and_true, true_and, and_self, Bool.not_not, hov1]
    rw [no_all hno]
    have hkv : Keeps σ (s1.trim σ.next) v := ⟨hk1.1, fun j hj hn => by
      show (if j < σ.next then s1.obj j else none) = _
      rw [if_pos hj]; exact hk1.2 j hj (by omega)⟩
    exact wp_some ⟨hkv, xs, rfl, by show (if v < σ.next then s1.obj v else none) = _; rw [if_pos hv, hov1], rfl, List.take_length⟩
  have hi1 := eq_false (show ¬ (i : Int) = -1 by omega)
  have hwi : IntKind.i64.wrap ((i : Int) + 1) = ((i + 1 : Nat) : Int) := by rw [IntKind.wrap_i64]; omega
  simp only [go_sem, ↓reduceIte, Nat.reduceEqDiff, Nat.reduceAdd, reduceCtorEq, CCT, CCv, CCr, CCk, CCx, List.isEmpty_nil, Nat.reduceBNe, Nat.reduceBEq, Bool.or_false, Bool.false_or, Bool.or_true, Bool.true_or, Nat.reduceLeDiff, Nat.reduceLT, beqI, bneI, List.length_map, decide_true, decide_false, Int.reduceEq, Int.reduceLT, Int.reduceLE, Int.reduceGE, Int.reduceGT, not_true_eq_false, not_false_eq_true, Bool.and_true, Bool.true_and, Bool.and_false, Bool.false_and, and_true, true_and, and_self, Bool.not_not, hov1, hi1, hwi]
  refine W.iter_rule (fun q ρ s => ρ 0 = .view 3 v [] 0 xs.length ∧ ρ 1 = .func 47 [.ptr 28 iw [0]] ∧ ρ 6 = .int .i64 ((i + 1 + q : Nat) : Int) ∧ Keeps σ s v ∧ ∃ ys : List Int, s.obj v = some (.cells 3 (intsA ys)) ∧ ys.length = xs.length ∧ ρ 5 = .int .i64 ((no w.id (xs.take (i + 1 + q))).length : Nat) ∧ (no w.id (xs.take (i + 1 + q))).length < i + 1 + q ∧ ys.take (no w.id (xs.take (i + 1 + q))).length = no w.id (xs.take (i + 1 + q)) ∧ ys.drop (i + 1 + q) = xs.drop (i + 1 + q)) (xs.length - (i + 1)) ?_ ?_ _ 0 _ _ (Nat.zero_le _) ?_ ?_
  · rintro q ρ s hq ⟨h0, h1, h6, hk, ys, hy, hyl, h5, hlt5, htk, hdr⟩ K hK hx hr
    have hj : i + 1 + q < xs.length := by omega
    have hlt : ((i + 1 + q : Nat) : Int) < (xs.length : Int) := by omega
    have hia : ∀ k : Nat, k < xs.length → aIndexAddr T 31 (.view 3 v [] 0 xs.length) (.int .i64 (k : Nat)) = some (.ptr 3 v [k]) := by
      intro k hk
      simp only [aIndexAddr, ty_31]
      rw [if_pos ⟨trivial, by omega, by exact_mod_cast hk⟩]
      simp
    have hia1 := hia _ hj
    have hm : (no w.id (xs.take (i + 1 + q))).length < xs.length := by omega
    have hia2 := hia _ hm
    clear hia
    have how' := (hk.2 iw hw hvw).trans ho
    have hget : (intsA ys)[i + 1 + q]? = some (.int .i64 xs[i + 1 + q]) := by
      have h1 : ys[i + 1 + q]? = some xs[i + 1 + q] := by
        have := congrArg (fun l => l[0]?) hdr
        simp only [List.getElem?_drop, Nat.add_zero] at this
        rw [this, List.getElem?_eq_getElem hj]
      simp [intsA, h1]
    have hsn : xs.take (i + 1 + (q + 1)) = xs.take (i + 1 + q) ++ [xs[i + 1 + q]] := List.take_succ_eq_append_getElem hj
    have hwj : IntKind.i64.wrap (((i + 1 + q : Nat) : Int) + 1) = ((i + 1 + (q + 1) : Nat) : Int) := by rw [IntKind.wrap_i64]; omega
    have hdn : ys.drop (i + 1 + (q + 1)) = xs.drop (i + 1 + (q + 1)) := by
      have := congrArg (fun l => l.drop 1) hdr
      simpa [List.drop_drop, Nat.add_assoc] using this
    generalize xs[i + 1 + q] = u at hget hsn
    have hcl := fun d => is_c d how' u
    have hsnn := congrArg (no w.id) hsn
    unfold no at hsnn
    rw [List.filter_append] at hsnn
    have hkt : Keeps σ (s.trim s.next) v := ⟨hk.1, fun i hi hn => by
      show (if i < s.next then s.obj i else none) = _
      rw [if_pos (by have := hk.1; omega)]; exact hk.2 i hi hn⟩
    have hyt : (s.trim s.next).obj v = some (.cells 3 (intsA ys)) := by
      show (if v < s.next then s.obj v else none) = _
      rw [if_pos (by have := hk.1; omega), hy]
    simp only [go_sem, ↓reduceIte, Nat.reduceEqDiff, Nat.reduceAdd, reduceCtorEq, CCT, CCv, CCr, CCk, CCx, List.isEmpty_nil, Nat.reduceBNe, Nat.reduceBEq, Bool.or_false, Bool.false_or, Bool.or_true, Bool.true_or, Nat.reduceLeDiff, Nat.reduceLT, beqI, bneI, List.length_map, decide_true, decide_false, Int.reduceEq, Int.reduceLT, Int.reduceLE, Int.reduceGE, Int.reduceGT, not_true_eq_false, not_false_eq_true, Bool.and_true, Bool.true_and, Bool.and_false, Bool.false_and, and_true, true_and, and_self, Bool.not_not, h0, h1, h6, hlt, hia1, hy, hget, hcl, at_nil, rowAt, AV.at]
    by_cases hu : u = w.id
    · have hu' := eq_true hu
      have e1 : no w.id (xs.take (i + 1 + (q + 1))) = no w.id (xs.take (i + 1 + q)) := by
        show List.filter _ _ = _
        rw [hsnn]; simp [hu, no]
      simp only [go_sem, ↓reduceIte, Nat.reduceEqDiff, Nat.reduceAdd, reduceCtorEq, CCT, CCv, CCr, CCk, CCx, List.isEmpty_nil, Nat.reduceBNe, Nat.reduceBEq, Bool.or_false, Bool.false_or, Bool.or_true, Bool.true_or, Nat.reduceLeDiff, Nat.reduceLT, beqI, bneI, List.length_map, decide_true, decide_false, Int.reduceEq, Int.reduceLT, Int.reduceLE, Int.reduceGE, Int.reduceGT, not_true_eq_false, not_false_eq_true, Bool.and_true, Bool.true_and, Bool.and_false, Bool.false_and, and_true, true_and, and_self, Bool.not_not, h0, h1, h6, hu', hwj]
      refine hK _ _ ?_
      refine ⟨by (try simp only [go_sem, ↓reduceIte, Nat.reduceEqDiff, Nat.reduceAdd, reduceCtorEq, CCT, CCv, CCr, CCk, CCx, List.isEmpty_nil, Nat.reduceBNe, Nat.reduceBEq, Bool.or_false, Bool.false_or, Bool.or_true, Bool.true_or, Nat.reduceLeDiff, Nat.reduceLT, beqI, bneI, List.length_map, decide_true, decide_false, Int.reduceEq, Int.reduceLT, Int.reduceLE, Int.reduceGE, Int.reduceGT, not_true_eq_false, not_false_eq_true, Bool.and_true, Bool.true_and, Bool.and_false, Bool.false_and, and_true, true_and, and_self, Bool.not_not, Int.toNat_natCast, List.length_take, *]) <;> (first | done | rfl | omega | (simp; done) | (simp; omega)), by (try simp only [go_sem, ↓reduceIte, Nat.reduceEqDiff, Nat.reduceAdd, reduceCtorEq, CCT, CCv, CCr, CCk, CCx, List.isEmpty_nil, Nat.reduceBNe, Nat.reduceBEq, Bool.or_false, Bool.false_or, Bool.or_true, Bool.true_or, Nat.reduceLeDiff, Nat.reduceLT, beqI, bneI, List.length_map, decide_true, decide_false, Int.reduceEq, Int.reduceLT, Int.reduceLE, Int.reduceGE, Int.reduceGT, not_true_eq_false, not_false_eq_true, Bool.and_true, Bool.true_and, Bool.and_false, Bool.false_and, and_true, true_and, and_self, Bool.not_not, Int.toNat_natCast, List.length_take, *]) <;> (first | done | rfl | omega | (simp; done) | (simp; omega)), by (try simp only [go_sem, ↓reduceIte, Nat.reduceEqDiff, Nat.reduceAdd, reduceCtorEq, CCT, CCv, CCr, CCk, CCx, List.isEmpty_nil, Nat.reduceBNe, Nat.reduceBEq, Bool.or_false, Bool.false_or, Bool.or_true, Bool.true_or, Nat.reduceLeDiff, Nat.reduceLT, beqI, bneI, List.length_map, decide_true, decide_false, Int.reduceEq, Int.reduceLT, Int.reduceLE, Int.reduceGE, Int.reduceGT, not_true_eq_false, not_false_eq_true, Bool.and_true, Bool.true_and, Bool.and_false, Bool.false_and, and_true, true_and, and_self, Bool.not_not, Int.toNat_natCast, List.length_take, *]) <;> (first | done | rfl | omega | (simp; done) | (simp; omega)), hkt, ys, hyt, hyl, ?_, ?_, ?_, hdn⟩
      · rw [e1]; simp only [go_sem, ↓reduceIte, Nat.reduceEqDiff, Nat.reduceAdd, reduceCtorEq, CCT, CCv, CCr, CCk, CCx, List.isEmpty_nil, Nat.reduceBNe, Nat.reduceBEq, Bool.or_false, Bool.false_or, Bool.or_true, Bool.true_or, Nat.reduceLeDiff, Nat.reduceLT, beqI, bneI, List.length_map, decide_true, decide_false, Int.reduceEq, Int.reduceLT, Int.reduceLE, Int.reduceGE, Int.reduceGT, not_true_eq_false, not_false_eq_true, Bool.and_true, Bool.true_and, Bool.and_false, Bool.false_and, and_true, true_and, and_self, Bool.not_not, h5]
      · rw [e1]; omega
      · rw [e1]; exact htk
    · have hu' := eq_false hu
      have e1 : no w.id (xs.take (i + 1 + (q + 1))) = no w.id (xs.take (i + 1 + q)) ++ [u] := by
        show List.filter _ _ = _
        rw [hsnn]; simp [hu, no]
      have e2 : IntKind.i64.wrap (((no w.id (xs.take (i + 1 + q))).length : Int) + 1) = (((no w.id (xs.take (i + 1 + q))).length + 1 : Nat) : Int) := by rw [IntKind.wrap_i64]; omega
      have hput : rowPut (intsA ys) [(no w.id (xs.take (i + 1 + q))).length] (.int .i64 u) = some (intsA (ys.set (no w.id (xs.take (i + 1 + q))).length u)) := by
        obtain ⟨z, hz⟩ : ∃ z, (intsA ys)[(no w.id (xs.take (i + 1 + q))).length]? = some (.int .i64 z) := ⟨ys[(no w.id (xs.take (i + 1 + q))).length]'(by omega), by
          simp only [intsA, List.getElem?_map]
          rw [List.getElem?_eq_getElem (by omega)]; rfl⟩
        simp only [rowPut, hz, AV.put, Option.map_some]
        simp [intsA, List.map_set]
      have hvn := eq_true (show v < s.next by have := hk.1; omega)
      simp only [go_sem, ↓reduceIte, Nat.reduceEqDiff, Nat.reduceAdd, reduceCtorEq, CCT, CCv, CCr, CCk, CCx, List.isEmpty_nil, Nat.reduceBNe, Nat.reduceBEq, Bool.or_false, Bool.false_or, Bool.or_true, Bool.true_or, Nat.reduceLeDiff, Nat.reduceLT, beqI, bneI, List.length_map, decide_true, decide_false, Int.reduceEq, Int.reduceLT, Int.reduceLE, Int.reduceGE, Int.reduceGT, not_true_eq_false, not_false_eq_true, Bool.and_true, Bool.true_and, Bool.and_false, Bool.false_and, and_true, true_and, and_self, Bool.not_not, h0, h1, h5, h6, hu', hwj, hia2, hvn, hy, e2, hput]
      refine hK _ _ ?_
      refine ⟨by (try simp only [go_sem, ↓reduceIte, Nat.reduceEqDiff, Nat.reduceAdd, reduceCtorEq, CCT, CCv, CCr, CCk, CCx, List.isEmpty_nil, Nat.reduceBNe, Nat.reduceBEq, Bool.or_false, Bool.false_or, Bool.or_true, Bool.true_or, Nat.reduceLeDiff, Nat.reduceLT, beqI, bneI, List.length_map, decide_true, decide_false, Int.reduceEq, Int.reduceLT, Int.reduceLE, Int.reduceGE, Int.reduceGT, not_true_eq_false, not_false_eq_true, Bool.and_true, Bool.true_and, Bool.and_false, Bool.false_and, and_true, true_and, and_self, Bool.not_not, Int.toNat_natCast, List.length_take, *]) <;> (first | done | rfl | omega | (simp; done) | (simp; omega)), by (try simp only [go_sem, ↓reduceIte, Nat.reduceEqDiff, Nat.reduceAdd, reduceCtorEq, CCT, CCv, CCr, CCk, CCx, List.isEmpty_nil, Nat.reduceBNe, Nat.reduceBEq, Bool.or_false, Bool.false_or, Bool.or_true, Bool.true_or, Nat.reduceLeDiff, Nat.reduceLT, beqI, bneI, List.length_map, decide_true, decide_false, Int.reduceEq, Int.reduceLT, Int.reduceLE, Int.reduceGE, Int.reduceGT, not_true_eq_false, not_false_eq_true, Bool.and_true, Bool.true_and, Bool.and_false, Bool.false_and, and_true, true_and, and_self, Bool.not_not, Int.toNat_natCast, List.length_take, *]) <;> (first | done | rfl | omega | (simp; done) | (simp; omega)), by (try simp only [go_sem, ↓reduceIte, Nat.reduceEqDiff, Nat.reduceAdd, reduceCtorEq, CCT, CCv, CCr, CCk, CCx, List.isEmpty_nil, Nat.reduceBNe, Nat.reduceBEq, Bool.or_false, Bool.false_or, Bool.or_true, Bool.true_or, Nat.reduceLeDiff, Nat.reduceLT, beqI, bneI, List.length_map, decide_true, decide_false, Int.reduceEq, Int.reduceLT, Int.reduceLE, Int.reduceGE, Int.reduceGT, not_true_eq_false, not_false_eq_true, Bool.and_true, Bool.true_and, Bool.and_false, Bool.false_and, and_true, true_and, and_self, Bool.not_not, Int.toNat_natCast, List.length_take, *]) <;> (first | done | rfl | omega | (simp; done) | (simp; omega)), hkt.set _, ys.set (no w.id (xs.take (i + 1 + q))).length u, if_pos rfl, by rw [List.length_set]; exact hyl, ?_, ?_, ?_, ?_⟩
      · rw [e1, List.length_append]
        simp only [go_sem, ↓reduceIte, Nat.reduceEqDiff, Nat.reduceAdd, reduceCtorEq, CCT, CCv, CCr, CCk, CCx, List.isEmpty_nil, Nat.reduceBNe, Nat.reduceBEq, Bool.or_false, Bool.false_or, Bool.or_true, Bool.true_or, Nat.reduceLeDiff, Nat.reduceLT, beqI, bneI, List.length_map, decide_true, decide_false, Int.reduceEq, Int.reduceLT, Int.reduceLE, Int.reduceGE, Int.reduceGT, not_true_eq_false, not_false_eq_true, Bool.and_true, Bool.true_and, Bool.and_false, Bool.false_and, and_true, true_and, and_self, Bool.not_not, List.length_singleton]
      · rw [e1, List.length_append, List.length_singleton]; omega
      · rw [e1, List.length_append, List.length_singleton, List.take_set, List.take_succ_eq_append_getElem (by omega), htk, List.set_append_right _ _ (Nat.le_refl _), Nat.sub_self]
        rfl
      · rw [List.drop_set_of_lt (by omega), hdn]
  · rintro ρ s ⟨h0, h1, h6, hk, ys, hy, hyl, h5, hlt5, htk, hdr⟩ K hx hr
    have hN : i + 1 + (xs.length - (i + 1)) = xs.length := by omega
    rw [hN] at h6 h5 hlt5 htk hdr
    rw [List.take_length] at h5 hlt5 htk
    have hlt : ¬ (xs.length : Int) < (xs.length : Int) := by omega
    have hs1 : aSlice T 31 (.view 3 v [] 0 xs.length) (some (.int .i64 ((no w.id xs).length : Nat))) none none = some (.view 3 v [] (no w.id xs).length (xs.length - (no w.id xs).length)) := by
      simp only [aSlice, ty_31, bound, Option.bind_some]
      rw [if_pos (by omega)]
      simp only [Option.bind_some, Int.toNat_natCast]
      rw [if_pos ⟨by omega, Nat.le_refl _, by omega, trivial⟩, Nat.zero_add]
    have hs2 : aSlice T 31 (.view 3 v [] 0 xs.length) none (some (.int .i64 ((no w.id xs).length : Nat))) none = some (.view 3 v [] 0 (no w.id xs).length) := by
      simp only [aSlice, ty_31, bound, Option.bind_some]
      rw [if_pos (by omega)]
      simp only [Option.bind_some, Int.toNat_natCast]
      rw [if_pos ⟨by omega, by omega, by omega, trivial⟩]
      rfl
    have hz : T.zero 3 = .int .i64 0 := by kernel_rfl
    have hcr : @aClearRow T ⟨s⟩ 31 3 v [] (no w.id xs).length (xs.length - (no w.id xs).length) = some (s.set v (.cells 3 (intsA (ys.take (no w.id xs).length ++ List.replicate (xs.length - (no w.id xs).length) 0)))) := by
      simp only [aClearRow, ty_31, ty_3, hz, hy]
      rw [if_pos ⟨trivial, trivial, by omega, by rw [hil]; omega⟩]
      congr 3
      simp only [intsA, List.map_append, List.map_take, List.map_replicate]
      rw [List.drop_eq_nil_of_le (by rw [List.length_map]; omega), List.append_nil]
    simp only [go_sem, ↓reduceIte, Nat.reduceEqDiff, Nat.reduceAdd, reduceCtorEq, CCT, CCv, CCr, CCk, CCx, List.isEmpty_nil, Nat.reduceBNe, Nat.reduceBEq, Bool.or_false, Bool.false_or, Bool.or_true, Bool.true_or, Nat.reduceLeDiff, Nat.reduceLT, beqI, bneI, List.length_map, decide_true, decide_false, Int.reduceEq, Int.reduceLT, Int.reduceLE, Int.reduceGE, Int.reduceGT, not_true_eq_false, not_false_eq_true, Bool.and_true, Bool.true_and, Bool.and_false, Bool.false_and, and_true, true_and, and_self, Bool.not_not, hx, h0, h1, h6, h5, hlt, hs1, hs2, hcr]
    refine wp_some ⟨(hk.set _).trim, ys.take (no w.id xs).length ++ List.replicate (xs.length - (no w.id xs).length) 0, rfl, ?_, ?_, ?_⟩
    · show (if v < σ.next then (if v = v then _ else _) else none) = _
      rw [if_pos hv, if_pos rfl]
    · rw [List.length_append, List.length_take, List.length_replicate]; omega
    · rw [List.take_append_of_le_length (by rw [List.length_take]; omega), List.take_take, Nat.min_self, htk]
  · show xs.length - (i + 1) < 0 + 9223372036854775900
    omega
  · refine ⟨by (try simp only [go_sem, ↓reduceIte, Nat.reduceEqDiff, Nat.reduceAdd, reduceCtorEq, CCT, CCv, CCr, CCk, CCx, List.isEmpty_nil, Nat.reduceBNe, Nat.reduceBEq, Bool.or_false, Bool.false_or, Bool.or_true, Bool.true_or, Nat.reduceLeDiff, Nat.reduceLT, beqI, bneI, List.length_map, decide_true, decide_false, Int.reduceEq, Int.reduceLT, Int.reduceLE, Int.reduceGE, Int.reduceGT, not_true_eq_false, not_false_eq_true, Bool.and_true, Bool.true_and, Bool.and_false, Bool.false_and, and_true, true_and, and_self, Bool.not_not, Int.toNat_natCast, List.length_take, *]) <;> (first | done | rfl | omega | (simp; done) | (simp; omega)), by (try simp only [go_sem, ↓reduceIte, Nat.reduceEqDiff, Nat.reduceAdd, reduceCtorEq, CCT, CCv, CCr, CCk, CCx, List.isEmpty_nil, Nat.reduceBNe, Nat.reduceBEq, Bool.or_false, Bool.false_or, Bool.or_true, Bool.true_or, Nat.reduceLeDiff, Nat.reduceLT, beqI, bneI, List.length_map, decide_true, decide_false, Int.reduceEq, Int.reduceLT, Int.reduceLE, Int.reduceGE, Int.reduceGT, not_true_eq_false, not_false_eq_true, Bool.and_true, Bool.true_and, Bool.and_false, Bool.false_and, and_true, true_and, and_self, Bool.not_not, Int.toNat_natCast, List.length_take, *]) <;> (first | done | rfl | omega | (simp; done) | (simp; omega)), by (try simp only [go_sem, ↓reduceIte, Nat.reduceEqDiff, Nat.reduceAdd, reduceCtorEq, CCT, CCv, CCr, CCk, CCx, List.isEmpty_nil, Nat.reduceBNe, Nat.reduceBEq, Bool.or_false, Bool.false_or, Bool.or_true, Bool.true_or, Nat.reduceLeDiff, Nat.reduceLT, beqI, bneI, List.length_map, decide_true, decide_false, Int.reduceEq, Int.reduceLT, Int.reduceLE, Int.reduceGE, Int.reduceGT, not_true_eq_false, not_false_eq_true, Bool.and_true, Bool.true_and, Bool.and_false, Bool.false_and, and_true, true_and, and_self, Bool.not_not, Int.toNat_natCast, List.length_take, *]) <;> (first | done | rfl | omega | (simp; done) | (simp; omega)), ⟨hk1.1, fun j hj hn => hk1.2 j hj (by omega)⟩, xs, hov1, rfl, ?_⟩
    have e0 : no w.id (xs.take (i + 1 + 0)) = xs.take i := by
      rw [Nat.add_zero, List.take_succ_eq_append_getElem hi]
      unfold no
      rw [List.filter_append]
      have : xs[i] = w.id := by rw [List.getElem?_eq_getElem hi] at hit; exact Option.some.inj hit
      have h2 := no_all hpre
      unfold no at h2
      rw [h2]
      simp [this]
    rw [e0, List.length_take, Nat.min_eq_left (by omega)]
    exact ⟨by (try simp only [go_sem, ↓reduceIte, Nat.reduceEqDiff, Nat.reduceAdd, reduceCtorEq, CCT, CCv, CCr, CCk, CCx, List.isEmpty_nil, Nat.reduceBNe, Nat.reduceBEq, Bool.or_false, Bool.false_or, Bool.or_true, Bool.true_or, Nat.reduceLeDiff, Nat.reduceLT, beqI, bneI, List.length_map, decide_true, decide_false, Int.reduceEq, Int.reduceLT, Int.reduceLE, Int.reduceGE, Int.reduceGT, not_true_eq_false, not_false_eq_true, Bool.and_true, Bool.true_and, Bool.and_false, Bool.false_and, and_true, true_and, and_self, Bool.not_not, Int.toNat_natCast, List.length_take, *]) <;> (first | done | rfl | omega | (simp; done) | (simp; omega)), by omega, rfl, rfl⟩
end Go.Proofs.Ytdbpnkemlmagoaa.Va
