/- chapter 18: objects, maps, lists -/
import Derived.Test.YtdbpnkemlmagoaaEigE
namespace Go.Proofs.Ytdbpnkemlmagoaa.Va
open Go
set_option linter.unusedVariables false
set_option linter.unusedSimpArgs false
set_option maxRecDepth 100000
/-- what a call's state must be -/
structure COk (c : Cal) : Prop where
  s : SOk c.st
  refs : c.st.refs.length ≤ 17592186044415
theorem COk.want {c : Cal} (h : COk c) (b : Bool) (e : Int) : COk (wantS c b e) := ⟨by rw [wst]; exact h.1, by rw [wst]; exact h.2⟩
theorem SOk.fg {s : Sta} (h : SOk s) (k i : Int) : SOk (fgS s k i) := ⟨by simp [fgS, h.regs], by simp [fgS, h.slots]⟩
theorem COk.spend {c : Cal} (h : COk c) (w : Wht) : COk (spendS c w) := ⟨(show SOk { c.st with refs := no w.id c.st.refs } from ⟨h.1.regs, h.1.slots⟩).fg _ _, Nat.le_trans (List.length_filter_le _ _) h.2⟩
theorem COk.loosen {c : Cal} (h : COk c) : COk (loosenS c) := ⟨h.1.fg _ _, h.2⟩
theorem COk.lock {K : Kx} {c : Cal} (h : COk c) (k : Int) : COk (lockS K c k) := (h.want _ _).want _ _
theorem okS_iff {c : Cal} : okS c = true ↔ c.err = 0 := by simp [okS]
theorem lkx (K : Kx) (c : Cal) (k : Int) : (lockS K c k).x = c.x := by simp only [lockS, wx]
theorem lky (K : Kx) (c : Cal) (k : Int) : (lockS K c k).y = c.y := by simp only [lockS, wy]
theorem lkn (K : Kx) (c : Cal) (k : Int) : (lockS K c k).n = c.n := by simp only [lockS, wn]
theorem lkst (K : Kx) (c : Cal) (k : Int) : (lockS K c k).st = c.st := by simp only [lockS, wst]
theorem lktells (K : Kx) (c : Cal) (k : Int) : (lockS K c k).tells = c.tells := by simp only [lockS, wtells]
def thenS (c : Cal) (f : Cal → Cal) : Cal := if okS c = true then f c else c
def cF (K : Kx) (c : Cal) : Fld := fldS K.l c.x.type c.n
def intoS (K : Kx) (c : Cal) (k : Int) : Cal :=
  thenS (wantS (wantS (lockS K c k) (handS c.y [3]) 8) (decide (c.y.type = (cF K c).type)) 7) fun c1 => bitS (spendS c1 c.y)
theorem into_c (d : Nat) {K : Kx} {σ : St} {id : Nat} {c : Cal} (h : At K σ id c) (hc : COk c) (k : Int) :
    Sat (fun p => p.1 = .tup [] ∧ At K p.2 id (intoS K c k) ∧ Keeps σ p.2 id) (evalF Try.prog CC (d + 6) 36 [.ptr 58 id [0], .int .i64 k] σ) := by
  have hid := h.1
  have hh := fun d => hand1 d c.y 3
  simp only [encW] at hh
  refine Sat.go ?_
  rw [run_36 _ _ _ (by simp)]; unfold Try.f36; simp only [Option.getD_some]
  simp only [go_sem, ↓reduceIte, Nat.reduceEqDiff, Nat.reduceAdd, reduceCtorEq, CCT, CCv, CCr, CCk, CCx, List.isEmpty_nil, Nat.reduceBNe, Nat.reduceBEq, Bool.or_false, Bool.false_or, Bool.or_true, Bool.true_or, Nat.reduceLeDiff, Nat.reduceLT, beqI, bneI, List.length_map, decide_true, decide_false, Int.reduceEq, Int.reduceLT, Int.reduceLE, Int.reduceGE, Int.reduceGT, not_true_eq_false, not_false_eq_true, Bool.and_true, Bool.true_and, Bool.and_false, Bool.false_and, and_true, true_and, and_self, Bool.not_not, *]
  refine W.call (locked_c _ h k) ?_
  rintro v s ⟨h1, hA, hk⟩
  obtain rfl : v = _ := h1
  have hA := hA
  obtain ⟨g1, r, g2, g3⟩ := hA
  have g3' := g3
  simp only [encC, lkst, lkx, lky, lkn, lktells] at g3
  have n1 := eq_false (show ¬ id = s.next from Nat.ne_of_lt g1)
  simp only [go_sem, ↓reduceIte, Nat.reduceEqDiff, Nat.reduceAdd, reduceCtorEq, CCT, CCv, CCr, CCk, CCx, List.isEmpty_nil, Nat.reduceBNe, Nat.reduceBEq, Bool.or_false, Bool.false_or, Bool.or_true, Bool.true_or, Nat.reduceLeDiff, Nat.reduceLT, beqI, bneI, List.length_map, decide_true, decide_false, Int.reduceEq, Int.reduceLT, Int.reduceLE, Int.reduceGE, Int.reduceGT, not_true_eq_false, not_false_eq_true, Bool.and_true, Bool.true_and, Bool.and_false, Bool.false_and, and_true, true_and, and_self, Bool.not_not, g3, n1, hh]
  have hid2 : s.next < s.next + 1 := Nat.lt_succ_self _
  refine W.call (want_c _ (K := K) (id := id) (c := lockS K c k) ⟨Nat.lt_succ_of_lt g1, r, g2, keepN g1 g3'⟩ _ 8) ?_
  rintro v2 s2 ⟨h2, hA2, hk2⟩
  obtain rfl : v2 = _ := h2
  have hf2 : s2.obj s.next = some (.cells 46 [encF (fldS K.l c.x.type c.n)]) := (hk2.2 s.next hid2 (Nat.ne_of_gt g1)).trans (if_pos rfl)
  have hA2' := hA2
  obtain ⟨q1, r2, q2, q3⟩ := hA2
  simp only [encC, lkst, lkx, lky, lkn, lktells, wst, wx, wy, wn, wtells] at q3
  simp only [encF] at hf2
  simp only [go_sem, ↓reduceIte, Nat.reduceEqDiff, Nat.reduceAdd, reduceCtorEq, CCT, CCv, CCr, CCk, CCx, List.isEmpty_nil, Nat.reduceBNe, Nat.reduceBEq, Bool.or_false, Bool.false_or, Bool.or_true, Bool.true_or, Nat.reduceLeDiff, Nat.reduceLT, beqI, bneI, List.length_map, decide_true, decide_false, Int.reduceEq, Int.reduceLT, Int.reduceLE, Int.reduceGE, Int.reduceGT, not_true_eq_false, not_false_eq_true, Bool.and_true, Bool.true_and, Bool.and_false, Bool.false_and, and_true, true_and, and_self, Bool.not_not, q3, hf2]
  refine W.br_ok (by kernel_rfl) ?_
  simp only [go_sem, ↓reduceIte, Nat.reduceEqDiff, Nat.reduceAdd, reduceCtorEq, CCT, CCv, CCr, CCk, CCx, List.isEmpty_nil, Nat.reduceBNe, Nat.reduceBEq, Bool.or_false, Bool.false_or, Bool.or_true, Bool.true_or, Nat.reduceLeDiff, Nat.reduceLT, beqI, bneI, List.length_map, decide_true, decide_false, Int.reduceEq, Int.reduceLT, Int.reduceLE, Int.reduceGE, Int.reduceGT, not_true_eq_false, not_false_eq_true, Bool.and_true, Bool.true_and, Bool.and_false, Bool.false_and, and_true, true_and, and_self, Bool.not_not, q3, hf2]
  refine W.call (want_c _ hA2' _ 7) ?_
  rintro v3 s3 ⟨h3, hA3, hk3⟩
  obtain rfl : v3 = _ := h3
  have hkk : Keeps σ s3 id := (hk.trans ((Keeps.refl s id).new _ |>.other _ (Nat.le_refl _))).trans (hk2.trans hk3)
  unfold intoS cF thenS
  simp only [go_sem, ↓reduceIte, Nat.reduceEqDiff, Nat.reduceAdd, reduceCtorEq, CCT, CCv, CCr, CCk, CCx, List.isEmpty_nil, Nat.reduceBNe, Nat.reduceBEq, Bool.or_false, Bool.false_or, Bool.or_true, Bool.true_or, Nat.reduceLeDiff, Nat.reduceLT, beqI, bneI, List.length_map, decide_true, decide_false, Int.reduceEq, Int.reduceLT, Int.reduceLE, Int.reduceGE, Int.reduceGT, not_true_eq_false, not_false_eq_true, Bool.and_true, Bool.true_and, Bool.and_false, Bool.false_and, and_true, true_and, and_self, Bool.not_not, *]
  refine W.br_split (fun hb => ?_) (fun hb => ?_)
  · rw [if_pos hb]
    obtain ⟨p1, r3, p2, p3⟩ := hA3
    have hA3 : At K s3 id _ := ⟨p1, r3, p2, p3⟩
    simp only [encC, lkst, lkx, lky, lkn, lktells, wst, wx, wy, wn, wtells] at p3
    simp only [go_sem, ↓reduceIte, Nat.reduceEqDiff, Nat.reduceAdd, reduceCtorEq, CCT, CCv, CCr, CCk, CCx, List.isEmpty_nil, Nat.reduceBNe, Nat.reduceBEq, Bool.or_false, Bool.false_or, Bool.or_true, Bool.true_or, Nat.reduceLeDiff, Nat.reduceLT, beqI, bneI, List.length_map, decide_true, decide_false, Int.reduceEq, Int.reduceLT, Int.reduceLE, Int.reduceGE, Int.reduceGT, not_true_eq_false, not_false_eq_true, Bool.and_true, Bool.true_and, Bool.and_false, Bool.false_and, and_true, true_and, and_self, Bool.not_not, p3]
    have hc3 := ((hc.lock (K := K) k).want (handS c.y [3]) 8).want (decide (c.y.type = (fldS K.l c.x.type c.n).type)) 7
    refine W.call (spend_c _ hA3 hc3.1 (Nat.le_succ_of_le hc3.2) c.y) ?_
    rintro v4 s4 ⟨h4, hA4, hk4⟩
    obtain rfl : v4 = _ := h4
    simp only [go_sem, ↓reduceIte, Nat.reduceEqDiff, Nat.reduceAdd, reduceCtorEq, CCT, CCv, CCr, CCk, CCx, List.isEmpty_nil, Nat.reduceBNe, Nat.reduceBEq, Bool.or_false, Bool.false_or, Bool.or_true, Bool.true_or, Nat.reduceLeDiff, Nat.reduceLT, beqI, bneI, List.length_map, decide_true, decide_false, Int.reduceEq, Int.reduceLT, Int.reduceLE, Int.reduceGE, Int.reduceGT, not_true_eq_false, not_false_eq_true, Bool.and_true, Bool.true_and, Bool.and_false, Bool.false_and, and_true, true_and, and_self, Bool.not_not, *]
    refine W.call (bit_c _ hA4) ?_
    rintro v5 s5 ⟨h5, hA5, hk5⟩
    obtain rfl : v5 = _ := h5
    simp only [go_sem, ↓reduceIte, Nat.reduceEqDiff, Nat.reduceAdd, reduceCtorEq, CCT, CCv, CCr, CCk, CCx, List.isEmpty_nil, Nat.reduceBNe, Nat.reduceBEq, Bool.or_false, Bool.false_or, Bool.or_true, Bool.true_or, Nat.reduceLeDiff, Nat.reduceLT, beqI, bneI, List.length_map, decide_true, decide_false, Int.reduceEq, Int.reduceLT, Int.reduceLE, Int.reduceGE, Int.reduceGT, not_true_eq_false, not_false_eq_true, Bool.and_true, Bool.true_and, Bool.and_false, Bool.false_and, and_true, true_and, and_self, Bool.not_not, *]
    exact fin_c hid hA5 (hkk.trans (hk4.trans hk5)) rfl
  · rw [if_neg (by rw [hb]; simp)]
    simp only [go_sem, ↓reduceIte, Nat.reduceEqDiff, Nat.reduceAdd, reduceCtorEq, CCT, CCv, CCr, CCk, CCx, List.isEmpty_nil, Nat.reduceBNe, Nat.reduceBEq, Bool.or_false, Bool.false_or, Bool.or_true, Bool.true_or, Nat.reduceLeDiff, Nat.reduceLT, beqI, bneI, List.length_map, decide_true, decide_false, Int.reduceEq, Int.reduceLT, Int.reduceLE, Int.reduceGE, Int.reduceGT, not_true_eq_false, not_false_eq_true, Bool.and_true, Bool.true_and, Bool.and_false, Bool.false_and, and_true, true_and, and_self, Bool.not_not, *]
    exact fin_c hid hA3 hkk rfl
end Go.Proofs.Ytdbpnkemlmagoaa.Va
