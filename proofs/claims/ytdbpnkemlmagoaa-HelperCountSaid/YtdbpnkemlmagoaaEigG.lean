/- chapter 18: objects, maps, lists -/
import Derived.Test.YtdbpnkemlmagoaaEigF
namespace Go.Proofs.Ytdbpnkemlmagoaa.Va
open Go
set_option linter.unusedVariables false
set_option linter.unusedSimpArgs false
set_option maxRecDepth 100000
def valueS (l : List Typ) (t : Int) : Bool := if 0 ≤ t ∧ t < l.length then (at0 l t).value else false
def refsS (l : List Typ) (t : Int) : Bool := if 0 ≤ t ∧ t < l.length then (at0 l t).refs else false
theorem typV_eq (l : List Typ) (t : Int) : ∃ nm fl, typV l t = .agg 49 [.str nm, .bool (valueS l t), .bool (refsS l t), fl] := by
  unfold typV valueS refsS
  by_cases h : 0 ≤ t ∧ t < l.length
  · rw [if_pos h, if_pos h, if_pos h]; exact ⟨_, _, rfl⟩
  · rw [if_neg h, if_neg h, if_neg h]; exact ⟨_, _, rfl⟩
def objectS (K : Kx) (c : Cal) (what : Int) : Cal :=
  if what = 1 then thenS (wantS c (okT K.l c.n && !valueS K.l c.n) 7) fun c1 => ownS c1 c1.n true
  else if what = 2 then thenS (wantS c (handS c.x [3]) 8) fun c1 => spendS c1 c1.x
  else thenS (wantS (wantS c (handS c.x [3, 4]) 8) (refsS K.l c.x.type) 7) fun c1 => ownS c1 c1.x.type false
theorem object_c (d : Nat) {K : Kx} {σ : St} {id : Nat} {c : Cal} (h : At K σ id c) (hc : COk c) (what : Int) :
    Sat (fun p => p.1 = .tup [] ∧ At K p.2 id (objectS K c what) ∧ Keeps σ p.2 id) (evalF Try.prog CC (d + 6) 15 [.ptr 58 id [0], .int .u8 what] σ) := by
  have hid := h.1
  have hh1 := fun d => hand1 d c.x 3
  have hh2 := fun d => hand2 d c.x 3 4
  simp only [encW] at hh1 hh2
  obtain ⟨g1, r, g2, g3⟩ := And.intro h.1 h.2
  simp only [encC] at g3
  unfold objectS
  refine Sat.go ?_
  rw [run_15 _ _ _ (by simp)]; unfold Try.f15; simp only [Option.getD_some]
  simp only [go_sem, ↓reduceIte, Nat.reduceEqDiff, Nat.reduceAdd, reduceCtorEq, CCT, CCv, CCr, CCk, CCx, List.isEmpty_nil, Nat.reduceBNe, Nat.reduceBEq, Bool.or_false, Bool.false_or, Bool.or_true, Bool.true_or, Nat.reduceLeDiff, Nat.reduceLT, beqI, bneI, List.length_map, decide_true, decide_false, Int.reduceEq, Int.reduceLT, Int.reduceLE, Int.reduceGE, Int.reduceGT, not_true_eq_false, not_false_eq_true, Bool.and_true, Bool.true_and, Bool.and_false, Bool.false_and, and_true, true_and, and_self, Bool.not_not, g3]
  by_cases w1 : what = 1
  · subst w1
    rw [if_pos rfl]
    simp only [go_sem, ↓reduceIte, Nat.reduceEqDiff, Nat.reduceAdd, reduceCtorEq, CCT, CCv, CCr, CCk, CCx, List.isEmpty_nil, Nat.reduceBNe, Nat.reduceBEq, Bool.or_false, Bool.false_or, Bool.or_true, Bool.true_or, Nat.reduceLeDiff, Nat.reduceLT, beqI, bneI, List.length_map, decide_true, decide_false, Int.reduceEq, Int.reduceLT, Int.reduceLE, Int.reduceGE, Int.reduceGT, not_true_eq_false, not_false_eq_true, Bool.and_true, Bool.true_and, Bool.and_false, Bool.false_and, and_true, true_and, and_self, Bool.not_not, g3]
    refine W.call (typ_p _ h c.n) ?_
    rintro v s ⟨h1, hA, hk⟩
    obtain rfl : v = _ := h1
    obtain ⟨nm, fl, ht⟩ := typV_eq K.l c.n
    rw [ht]
    obtain ⟨q1, r2, q2, q3⟩ := And.intro hA.1 hA.2
    have n1 := eq_false (show ¬ id = s.next from Nat.ne_of_lt q1)
    have q3' := q3
    simp only [encC] at q3
    have hkn : ∀ o o', Keeps σ ((s.new o).set s.next o') id := fun o o' => hk.trans ((Keeps.refl s id).new _ |>.other _ (Nat.le_refl _))
    obtain ⟨b1, hb1⟩ : ∃ b, okT K.l c.n = b := ⟨_, rfl⟩
    obtain ⟨b2, hb2⟩ : ∃ b, valueS K.l c.n = b := ⟨_, rfl⟩
    rw [hb1, hb2]
    cases b1 <;> cases b2
    all_goals
      try simp only [Bool.and_false, Bool.and_true, Bool.false_and, Bool.true_and, Bool.not_true, Bool.not_false, Bool.and_self]
      simp only [go_sem, ↓reduceIte, Nat.reduceEqDiff, Nat.reduceAdd, reduceCtorEq, CCT, CCv, CCr, CCk, CCx, List.isEmpty_nil, Nat.reduceBNe, Nat.reduceBEq, Bool.or_false, Bool.false_or, Bool.or_true, Bool.true_or, Nat.reduceLeDiff, Nat.reduceLT, beqI, bneI, List.length_map, decide_true, decide_false, Int.reduceEq, Int.reduceLT, Int.reduceLE, Int.reduceGE, Int.reduceGT, not_true_eq_false, not_false_eq_true, Bool.and_true, Bool.true_and, Bool.and_false, Bool.false_and, and_true, true_and, and_self, Bool.not_not, n1, q3]
      refine W.call (want_c _ (K := K) (id := id) (c := c) ⟨Nat.lt_succ_of_lt q1, r2, q2, keepN q1 q3'⟩ _ 7) ?_
      rintro v2 s2 ⟨h2, hA2, hk2⟩
      obtain rfl : v2 = _ := h2
      unfold thenS
      refine W.br_split (fun hb => ?_) (fun hb => ?_)
      · rw [if_pos hb]
        obtain ⟨p1, r3, p2, p3⟩ := And.intro hA2.1 hA2.2
        simp only [encC, wst, wx, wy, wn, wtells] at p3
        simp only [go_sem, ↓reduceIte, Nat.reduceEqDiff, Nat.reduceAdd, reduceCtorEq, CCT, CCv, CCr, CCk, CCx, List.isEmpty_nil, Nat.reduceBNe, Nat.reduceBEq, Bool.or_false, Bool.false_or, Bool.or_true, Bool.true_or, Nat.reduceLeDiff, Nat.reduceLT, beqI, bneI, List.length_map, decide_true, decide_false, Int.reduceEq, Int.reduceLT, Int.reduceLE, Int.reduceGE, Int.reduceGT, not_true_eq_false, not_false_eq_true, Bool.and_true, Bool.true_and, Bool.and_false, Bool.false_and, and_true, true_and, and_self, Bool.not_not, p3]
        refine W.call (own_c _ hA2 (by rw [wst]; exact Nat.le_succ_of_le hc.2) c.n true) ?_
        rintro v3 s3 ⟨h3, hA3, hk3⟩
        obtain rfl : v3 = _ := h3
        simp only [go_sem, ↓reduceIte, Nat.reduceEqDiff, Nat.reduceAdd, reduceCtorEq, CCT, CCv, CCr, CCk, CCx, List.isEmpty_nil, Nat.reduceBNe, Nat.reduceBEq, Bool.or_false, Bool.false_or, Bool.or_true, Bool.true_or, Nat.reduceLeDiff, Nat.reduceLT, beqI, bneI, List.length_map, decide_true, decide_false, Int.reduceEq, Int.reduceLT, Int.reduceLE, Int.reduceGE, Int.reduceGT, not_true_eq_false, not_false_eq_true, Bool.and_true, Bool.true_and, Bool.and_false, Bool.false_and, and_true, true_and, and_self, Bool.not_not, *]
        exact fin_c hid (by rw [wn]; exact hA3) ((hkn _ _).trans (hk2.trans hk3)) rfl
      · rw [if_neg (by rw [hb]; simp)]
        simp only [go_sem, ↓reduceIte, Nat.reduceEqDiff, Nat.reduceAdd, reduceCtorEq, CCT, CCv, CCr, CCk, CCx, List.isEmpty_nil, Nat.reduceBNe, Nat.reduceBEq, Bool.or_false, Bool.false_or, Bool.or_true, Bool.true_or, Nat.reduceLeDiff, Nat.reduceLT, beqI, bneI, List.length_map, decide_true, decide_false, Int.reduceEq, Int.reduceLT, Int.reduceLE, Int.reduceGE, Int.reduceGT, not_true_eq_false, not_false_eq_true, Bool.and_true, Bool.true_and, Bool.and_false, Bool.false_and, and_true, true_and, and_self, Bool.not_not, *]
        exact fin_c hid hA2 ((hkn _ _).trans hk2) rfl
  rw [if_neg w1]
  have w1' := eq_false w1
  by_cases w2 : what = 2
  · subst w2
    rw [if_pos rfl]
    simp only [go_sem, ↓reduceIte, Nat.reduceEqDiff, Nat.reduceAdd, reduceCtorEq, CCT, CCv, CCr, CCk, CCx, List.isEmpty_nil, Nat.reduceBNe, Nat.reduceBEq, Bool.or_false, Bool.false_or, Bool.or_true, Bool.true_or, Nat.reduceLeDiff, Nat.reduceLT, beqI, bneI, List.length_map, decide_true, decide_false, Int.reduceEq, Int.reduceLT, Int.reduceLE, Int.reduceGE, Int.reduceGT, not_true_eq_false, not_false_eq_true, Bool.and_true, Bool.true_and, Bool.and_false, Bool.false_and, and_true, true_and, and_self, Bool.not_not, g3, w1', hh1]
    refine W.call (want_c _ h _ 8) ?_
    rintro v s ⟨h1, hA, hk⟩
    obtain rfl : v = _ := h1
    unfold thenS
    refine W.br_split (fun hb => ?_) (fun hb => ?_)
    · rw [if_pos hb]
      obtain ⟨q1, r2, q2, q3⟩ := And.intro hA.1 hA.2
      simp only [encC, wst, wx, wy, wn, wtells] at q3
      simp only [go_sem, ↓reduceIte, Nat.reduceEqDiff, Nat.reduceAdd, reduceCtorEq, CCT, CCv, CCr, CCk, CCx, List.isEmpty_nil, Nat.reduceBNe, Nat.reduceBEq, Bool.or_false, Bool.false_or, Bool.or_true, Bool.true_or, Nat.reduceLeDiff, Nat.reduceLT, beqI, bneI, List.length_map, decide_true, decide_false, Int.reduceEq, Int.reduceLT, Int.reduceLE, Int.reduceGE, Int.reduceGT, not_true_eq_false, not_false_eq_true, Bool.and_true, Bool.true_and, Bool.and_false, Bool.false_and, and_true, true_and, and_self, Bool.not_not, q3]
      have hc2 := hc.want (handS c.x [3]) 8
      refine W.call (spend_c _ hA hc2.1 (Nat.le_succ_of_le hc2.2) c.x) ?_
      rintro v4 s4 ⟨h4, hA4, hk4⟩
      obtain rfl : v4 = _ := h4
      simp only [go_sem, ↓reduceIte, Nat.reduceEqDiff, Nat.reduceAdd, reduceCtorEq, CCT, CCv, CCr, CCk, CCx, List.isEmpty_nil, Nat.reduceBNe, Nat.reduceBEq, Bool.or_false, Bool.false_or, Bool.or_true, Bool.true_or, Nat.reduceLeDiff, Nat.reduceLT, beqI, bneI, List.length_map, decide_true, decide_false, Int.reduceEq, Int.reduceLT, Int.reduceLE, Int.reduceGE, Int.reduceGT, not_true_eq_false, not_false_eq_true, Bool.and_true, Bool.true_and, Bool.and_false, Bool.false_and, and_true, true_and, and_self, Bool.not_not, *]
      exact fin_c hid (by rw [wx]; exact hA4) (hk.trans hk4) rfl
    · rw [if_neg (by rw [hb]; simp)]
      simp only [go_sem, ↓reduceIte, Nat.reduceEqDiff, Nat.reduceAdd, reduceCtorEq, CCT, CCv, CCr, CCk, CCx, List.isEmpty_nil, Nat.reduceBNe, Nat.reduceBEq, Bool.or_false, Bool.false_or, Bool.or_true, Bool.true_or, Nat.reduceLeDiff, Nat.reduceLT, beqI, bneI, List.length_map, decide_true, decide_false, Int.reduceEq, Int.reduceLT, Int.reduceLE, Int.reduceGE, Int.reduceGT, not_true_eq_false, not_false_eq_true, Bool.and_true, Bool.true_and, Bool.and_false, Bool.false_and, and_true, true_and, and_self, Bool.not_not, *]
      exact fin_c hid hA hk rfl
  rw [if_neg w2]
  have w2' := eq_false w2
  simp only [go_sem, ↓reduceIte, Nat.reduceEqDiff, Nat.reduceAdd, reduceCtorEq, CCT, CCv, CCr, CCk, CCx, List.isEmpty_nil, Nat.reduceBNe, Nat.reduceBEq, Bool.or_false, Bool.false_or, Bool.or_true, Bool.true_or, Nat.reduceLeDiff, Nat.reduceLT, beqI, bneI, List.length_map, decide_true, decide_false, Int.reduceEq, Int.reduceLT, Int.reduceLE, Int.reduceGE, Int.reduceGT, not_true_eq_false, not_false_eq_true, Bool.and_true, Bool.true_and, Bool.and_false, Bool.false_and, and_true, true_and, and_self, Bool.not_not, g3, w1', w2']
  refine W.call (typ_p _ h c.x.type) ?_
  rintro v s ⟨h1, hA, hk⟩
  obtain rfl : v = _ := h1
  obtain ⟨nm, fl, ht⟩ := typV_eq K.l c.x.type
  rw [ht]
  obtain ⟨q1, r2, q2, q3⟩ := And.intro hA.1 hA.2
  have n1 := eq_false (show ¬ id = s.next from Nat.ne_of_lt q1)
  have q3' := q3
  simp only [encC] at q3
  have hkn : ∀ o o', Keeps σ ((s.new o).set s.next o') id := fun o o' => hk.trans ((Keeps.refl s id).new _ |>.other _ (Nat.le_refl _))
  simp only [go_sem, ↓reduceIte, Nat.reduceEqDiff, Nat.reduceAdd, reduceCtorEq, CCT, CCv, CCr, CCk, CCx, List.isEmpty_nil, Nat.reduceBNe, Nat.reduceBEq, Bool.or_false, Bool.false_or, Bool.or_true, Bool.true_or, Nat.reduceLeDiff, Nat.reduceLT, beqI, bneI, List.length_map, decide_true, decide_false, Int.reduceEq, Int.reduceLT, Int.reduceLE, Int.reduceGE, Int.reduceGT, not_true_eq_false, not_false_eq_true, Bool.and_true, Bool.true_and, Bool.and_false, Bool.false_and, and_true, true_and, and_self, Bool.not_not, n1, q3, hh2]
  refine W.call (want_c _ (K := K) (id := id) (c := c) ⟨Nat.lt_succ_of_lt q1, r2, q2, keepN q1 q3'⟩ _ 8) ?_
  rintro v2 s2 ⟨h2, hA2, hk2⟩
  obtain rfl : v2 = _ := h2
  have hf2 : s2.obj s.next = some (.cells 49 [.agg 49 [.str nm, .bool (valueS K.l c.x.type), .bool (refsS K.l c.x.type), fl]]) := (hk2.2 s.next (Nat.lt_succ_self _) (Nat.ne_of_gt q1)).trans (if_pos rfl)
  simp only [go_sem, ↓reduceIte, Nat.reduceEqDiff, Nat.reduceAdd, reduceCtorEq, CCT, CCv, CCr, CCk, CCx, List.isEmpty_nil, Nat.reduceBNe, Nat.reduceBEq, Bool.or_false, Bool.false_or, Bool.or_true, Bool.true_or, Nat.reduceLeDiff, Nat.reduceLT, beqI, bneI, List.length_map, decide_true, decide_false, Int.reduceEq, Int.reduceLT, Int.reduceLE, Int.reduceGE, Int.reduceGT, not_true_eq_false, not_false_eq_true, Bool.and_true, Bool.true_and, Bool.and_false, Bool.false_and, and_true, true_and, and_self, Bool.not_not, hf2]
  refine W.call (want_c _ hA2 _ 7) ?_
  rintro v3 s3 ⟨h3, hA3, hk3⟩
  obtain rfl : v3 = _ := h3
  unfold thenS
  refine W.br_split (fun hb => ?_) (fun hb => ?_)
  · rw [if_pos hb]
    obtain ⟨p1, r3, p2, p3⟩ := And.intro hA3.1 hA3.2
    simp only [encC, wst, wx, wy, wn, wtells] at p3
    simp only [go_sem, ↓reduceIte, Nat.reduceEqDiff, Nat.reduceAdd, reduceCtorEq, CCT, CCv, CCr, CCk, CCx, List.isEmpty_nil, Nat.reduceBNe, Nat.reduceBEq, Bool.or_false, Bool.false_or, Bool.or_true, Bool.true_or, Nat.reduceLeDiff, Nat.reduceLT, beqI, bneI, List.length_map, decide_true, decide_false, Int.reduceEq, Int.reduceLT, Int.reduceLE, Int.reduceGE, Int.reduceGT, not_true_eq_false, not_false_eq_true, Bool.and_true, Bool.true_and, Bool.and_false, Bool.false_and, and_true, true_and, and_self, Bool.not_not, p3]
    refine W.call (own_c _ hA3 (by rw [wst, wst]; exact Nat.le_succ_of_le hc.2) c.x.type false) ?_
    rintro v4 s4 ⟨h4, hA4, hk4⟩
    obtain rfl : v4 = _ := h4
    simp only [go_sem, ↓reduceIte, Nat.reduceEqDiff, Nat.reduceAdd, reduceCtorEq, CCT, CCv, CCr, CCk, CCx, List.isEmpty_nil, Nat.reduceBNe, Nat.reduceBEq, Bool.or_false, Bool.false_or, Bool.or_true, Bool.true_or, Nat.reduceLeDiff, Nat.reduceLT, beqI, bneI, List.length_map, decide_true, decide_false, Int.reduceEq, Int.reduceLT, Int.reduceLE, Int.reduceGE, Int.reduceGT, not_true_eq_false, not_false_eq_true, Bool.and_true, Bool.true_and, Bool.and_false, Bool.false_and, and_true, true_and, and_self, Bool.not_not, *]
    exact fin_c hid (by rw [wx, wx]; exact hA4) ((hkn _ _).trans (hk2.trans (hk3.trans hk4))) rfl
  · rw [if_neg (by rw [hb]; simp)]
    simp only [go_sem, ↓reduceIte, Nat.reduceEqDiff, Nat.reduceAdd, reduceCtorEq, CCT, CCv, CCr, CCk, CCx, List.isEmpty_nil, Nat.reduceBNe, Nat.reduceBEq, Bool.or_false, Bool.false_or, Bool.or_true, Bool.true_or, Nat.reduceLeDiff, Nat.reduceLT, beqI, bneI, List.length_map, decide_true, decide_false, Int.reduceEq, Int.reduceLT, Int.reduceLE, Int.reduceGE, Int.reduceGT, not_true_eq_false, not_false_eq_true, Bool.and_true, Bool.true_and, Bool.and_false, Bool.false_and, and_true, true_and, and_self, Bool.not_not, *]
    exact fin_c hid hA3 ((hkn _ _).trans (hk2.trans hk3)) rfl
def listS (K : Kx) (c : Cal) (what : Int) : Cal :=
  if what = 9 ∨ what = 10 then intoS K c 5
  else if what = 13 then looseS (lockS K c 5) (cF K c)
  else ownS (loosenS (lockS K c 5)) (cF K c).type true
theorem list_c (d : Nat) {K : Kx} {σ : St} {id : Nat} {c : Cal} (h : At K σ id c) (hc : COk c) (what : Int) :
    Sat (fun p => p.1 = .tup [] ∧ At K p.2 id (listS K c what) ∧ Keeps σ p.2 id) (evalF Try.prog CC (d + 7) 18 [.ptr 58 id [0], .int .u8 what] σ) := by
  have hid := h.1
  unfold listS
  refine Sat.go ?_
  rw [run_18 _ _ _ (by simp)]; unfold Try.f18; simp only [Option.getD_some]
  simp only [go_sem, ↓reduceIte, Nat.reduceEqDiff, Nat.reduceAdd, reduceCtorEq, CCT, CCv, CCr, CCk, CCx, List.isEmpty_nil, Nat.reduceBNe, Nat.reduceBEq, Bool.or_false, Bool.false_or, Bool.or_true, Bool.true_or, Nat.reduceLeDiff, Nat.reduceLT, beqI, bneI, List.length_map, decide_true, decide_false, Int.reduceEq, Int.reduceLT, Int.reduceLE, Int.reduceGE, Int.reduceGT, not_true_eq_false, not_false_eq_true, Bool.and_true, Bool.true_and, Bool.and_false, Bool.false_and, and_true, true_and, and_self, Bool.not_not, *]
  by_cases w1 : what = 9
  · have w1' := eq_true w1
    rw [if_pos (.inl w1)]
    simp only [go_sem, ↓reduceIte, Nat.reduceEqDiff, Nat.reduceAdd, reduceCtorEq, CCT, CCv, CCr, CCk, CCx, List.isEmpty_nil, Nat.reduceBNe, Nat.reduceBEq, Bool.or_false, Bool.false_or, Bool.or_true, Bool.true_or, Nat.reduceLeDiff, Nat.reduceLT, beqI, bneI, List.length_map, decide_true, decide_false, Int.reduceEq, Int.reduceLT, Int.reduceLE, Int.reduceGE, Int.reduceGT, not_true_eq_false, not_false_eq_true, Bool.and_true, Bool.true_and, Bool.and_false, Bool.false_and, and_true, true_and, and_self, Bool.not_not, w1']
    refine W.call (into_c _ h hc 5) ?_
    rintro v s ⟨h1, hA, hk⟩
    obtain rfl : v = _ := h1
    simp only [go_sem, ↓reduceIte, Nat.reduceEqDiff, Nat.reduceAdd, reduceCtorEq, CCT, CCv, CCr, CCk, CCx, List.isEmpty_nil, Nat.reduceBNe, Nat.reduceBEq, Bool.or_false, Bool.false_or, Bool.or_true, Bool.true_or, Nat.reduceLeDiff, Nat.reduceLT, beqI, bneI, List.length_map, decide_true, decide_false, Int.reduceEq, Int.reduceLT, Int.reduceLE, Int.reduceGE, Int.reduceGT, not_true_eq_false, not_false_eq_true, Bool.and_true, Bool.true_and, Bool.and_false, Bool.false_and, and_true, true_and, and_self, Bool.not_not, *]
    exact fin_c hid hA hk rfl
  have w1' := eq_false w1
  by_cases w2 : what = 10
  · have w2' := eq_true w2
    rw [if_pos (.inr w2)]
    simp only [go_sem, ↓reduceIte, Nat.reduceEqDiff, Nat.reduceAdd, reduceCtorEq, CCT, CCv, CCr, CCk, CCx, List.isEmpty_nil, Nat.reduceBNe, Nat.reduceBEq, Bool.or_false, Bool.false_or, Bool.or_true, Bool.true_or, Nat.reduceLeDiff, Nat.reduceLT, beqI, bneI, List.length_map, decide_true, decide_false, Int.reduceEq, Int.reduceLT, Int.reduceLE, Int.reduceGE, Int.reduceGT, not_true_eq_false, not_false_eq_true, Bool.and_true, Bool.true_and, Bool.and_false, Bool.false_and, and_true, true_and, and_self, Bool.not_not, w1', w2']
    refine W.call (into_c _ h hc 5) ?_
    rintro v s ⟨h1, hA, hk⟩
    obtain rfl : v = _ := h1
    simp only [go_sem, ↓reduceIte, Nat.reduceEqDiff, Nat.reduceAdd, reduceCtorEq, CCT, CCv, CCr, CCk, CCx, List.isEmpty_nil, Nat.reduceBNe, Nat.reduceBEq, Bool.or_false, Bool.false_or, Bool.or_true, Bool.true_or, Nat.reduceLeDiff, Nat.reduceLT, beqI, bneI, List.length_map, decide_true, decide_false, Int.reduceEq, Int.reduceLT, Int.reduceLE, Int.reduceGE, Int.reduceGT, not_true_eq_false, not_false_eq_true, Bool.and_true, Bool.true_and, Bool.and_false, Bool.false_and, and_true, true_and, and_self, Bool.not_not, *]
    exact fin_c hid hA hk rfl
  have w2' := eq_false w2
  rw [if_neg (by rintro (h | h); exact w1 h; exact w2 h)]
  by_cases w3 : what = 13
  · have w3' := eq_true w3
    rw [if_pos w3]
    simp only [go_sem, ↓reduceIte, Nat.reduceEqDiff, Nat.reduceAdd, reduceCtorEq, CCT, CCv, CCr, CCk, CCx, List.isEmpty_nil, Nat.reduceBNe, Nat.reduceBEq, Bool.or_false, Bool.false_or, Bool.or_true, Bool.true_or, Nat.reduceLeDiff, Nat.reduceLT, beqI, bneI, List.length_map, decide_true, decide_false, Int.reduceEq, Int.reduceLT, Int.reduceLE, Int.reduceGE, Int.reduceGT, not_true_eq_false, not_false_eq_true, Bool.and_true, Bool.true_and, Bool.and_false, Bool.false_and, and_true, true_and, and_self, Bool.not_not, w1', w2', w3']
    refine W.call (locked_c _ h 5) ?_
    rintro v s ⟨h1, hA, hk⟩
    obtain rfl : v = _ := h1
    simp only [go_sem, ↓reduceIte, Nat.reduceEqDiff, Nat.reduceAdd, reduceCtorEq, CCT, CCv, CCr, CCk, CCx, List.isEmpty_nil, Nat.reduceBNe, Nat.reduceBEq, Bool.or_false, Bool.false_or, Bool.or_true, Bool.true_or, Nat.reduceLeDiff, Nat.reduceLT, beqI, bneI, List.length_map, decide_true, decide_false, Int.reduceEq, Int.reduceLT, Int.reduceLE, Int.reduceGE, Int.reduceGT, not_true_eq_false, not_false_eq_true, Bool.and_true, Bool.true_and, Bool.and_false, Bool.false_and, and_true, true_and, and_self, Bool.not_not, *]
    refine W.call (loose_c _ hA _) ?_
    rintro v2 s2 ⟨h2, hA2, hk2⟩
    obtain rfl : v2 = _ := h2
    simp only [go_sem, ↓reduceIte, Nat.reduceEqDiff, Nat.reduceAdd, reduceCtorEq, CCT, CCv, CCr, CCk, CCx, List.isEmpty_nil, Nat.reduceBNe, Nat.reduceBEq, Bool.or_false, Bool.false_or, Bool.or_true, Bool.true_or, Nat.reduceLeDiff, Nat.reduceLT, beqI, bneI, List.length_map, decide_true, decide_false, Int.reduceEq, Int.reduceLT, Int.reduceLE, Int.reduceGE, Int.reduceGT, not_true_eq_false, not_false_eq_true, Bool.and_true, Bool.true_and, Bool.and_false, Bool.false_and, and_true, true_and, and_self, Bool.not_not, *]
    exact fin_c hid hA2 (hk.trans hk2) rfl
  have w3' := eq_false w3
  rw [if_neg w3]
  simp only [go_sem, ↓reduceIte, Nat.reduceEqDiff, Nat.reduceAdd, reduceCtorEq, CCT, CCv, CCr, CCk, CCx, List.isEmpty_nil, Nat.reduceBNe, Nat.reduceBEq, Bool.or_false, Bool.false_or, Bool.or_true, Bool.true_or, Nat.reduceLeDiff, Nat.reduceLT, beqI, bneI, List.length_map, decide_true, decide_false, Int.reduceEq, Int.reduceLT, Int.reduceLE, Int.reduceGE, Int.reduceGT, not_true_eq_false, not_false_eq_true, Bool.and_true, Bool.true_and, Bool.and_false, Bool.false_and, and_true, true_and, and_self, Bool.not_not, w1', w2', w3']
  refine W.call (locked_c _ h 5) ?_
  rintro v s ⟨h1, hA, hk⟩
  obtain rfl : v = _ := h1
  have hnn := eq_false (show ¬ id = s.next from Nat.ne_of_lt hA.1)
  obtain ⟨q1, r2, q2, q3⟩ := And.intro hA.1 hA.2
  simp only [go_sem, ↓reduceIte, Nat.reduceEqDiff, Nat.reduceAdd, reduceCtorEq, CCT, CCv, CCr, CCk, CCx, List.isEmpty_nil, Nat.reduceBNe, Nat.reduceBEq, Bool.or_false, Bool.false_or, Bool.or_true, Bool.true_or, Nat.reduceLeDiff, Nat.reduceLT, beqI, bneI, List.length_map, decide_true, decide_false, Int.reduceEq, Int.reduceLT, Int.reduceLE, Int.reduceGE, Int.reduceGT, not_true_eq_false, not_false_eq_true, Bool.and_true, Bool.true_and, Bool.and_false, Bool.false_and, and_true, true_and, and_self, Bool.not_not, *]
  refine W.call (loosen_c _ (K := K) (id := id) (c := lockS K c 5) ⟨Nat.lt_succ_of_lt q1, r2, q2, keepN q1 q3⟩ (by rw [lkst]; exact hc.1)) ?_
  rintro v2 s2 ⟨h2, hA2, hk2⟩
  obtain rfl : v2 = _ := h2
  have hf2 : s2.obj s.next = some (.cells 46 [encF (cF K c)]) := (hk2.2 s.next (Nat.lt_succ_self _) (Nat.ne_of_gt q1)).trans (if_pos rfl)
  simp only [encF] at hf2
  simp only [go_sem, ↓reduceIte, Nat.reduceEqDiff, Nat.reduceAdd, reduceCtorEq, CCT, CCv, CCr, CCk, CCx, List.isEmpty_nil, Nat.reduceBNe, Nat.reduceBEq, Bool.or_false, Bool.false_or, Bool.or_true, Bool.true_or, Nat.reduceLeDiff, Nat.reduceLT, beqI, bneI, List.length_map, decide_true, decide_false, Int.reduceEq, Int.reduceLT, Int.reduceLE, Int.reduceGE, Int.reduceGT, not_true_eq_false, not_false_eq_true, Bool.and_true, Bool.true_and, Bool.and_false, Bool.false_and, and_true, true_and, and_self, Bool.not_not, hf2]
  refine W.call (own_c _ hA2 (by show (lockS K c 5).st.refs.length ≤ _; rw [lkst]; exact Nat.le_succ_of_le hc.2) (cF K c).type true) ?_
  rintro v3 s3 ⟨h3, hA3, hk3⟩
  obtain rfl : v3 = _ := h3
  simp only [go_sem, ↓reduceIte, Nat.reduceEqDiff, Nat.reduceAdd, reduceCtorEq, CCT, CCv, CCr, CCk, CCx, List.isEmpty_nil, Nat.reduceBNe, Nat.reduceBEq, Bool.or_false, Bool.false_or, Bool.or_true, Bool.true_or, Nat.reduceLeDiff, Nat.reduceLT, beqI, bneI, List.length_map, decide_true, decide_false, Int.reduceEq, Int.reduceLT, Int.reduceLE, Int.reduceGE, Int.reduceGT, not_true_eq_false, not_false_eq_true, Bool.and_true, Bool.true_and, Bool.and_false, Bool.false_and, and_true, true_and, and_self, Bool.not_not, *]
  exact fin_c hid hA3 ((hk.trans ((Keeps.refl s id).new _ |>.other _ (Nat.le_refl _))).trans (hk2.trans hk3)) rfl
/-- what is done with maps -/
def tableS (K : Kx) (c : Cal) (what : Int) : Cal :=
  let c1 := wantS c (decide (c.n < (K.ms.length : Int))) 1
  if okS c1 = true then
    if what = 4 then thenS (wantS (wantS c1 (decide (c.x.kind = 1)) 7) c.st.sec 9) fun c2 => freshS c2 5 (at0 K.ms c.n).type true
    else bitS (wantS c1 ((at0 K.ms c.n).hash && decide (c.x.kind = 1)) 7)
  else c1
theorem table_c (d : Nat) {K : Kx} {σ : St} {id : Nat} {c : Cal} (h : At K σ id c) (hc : COk c) (hn0 : 0 ≤ c.n) (what : Int) :
    Sat (fun p => p.1 = .tup [] ∧ At K p.2 id (tableS K c what) ∧ Keeps σ p.2 id) (evalF Try.prog CC (d + 7) 16 [.ptr 58 id [0], .int .u8 what] σ) := by
  have hid := h.1
  obtain ⟨g1, r, g2, g3⟩ := And.intro h.1 h.2
  simp only [encC] at g3
  simp only [tableS]
  refine Sat.go ?_
  rw [run_16 _ _ _ (by simp)]; unfold Try.f16; simp only [Option.getD_some]
  simp only [go_sem, ↓reduceIte, Nat.reduceEqDiff, Nat.reduceAdd, reduceCtorEq, CCT, CCv, CCr, CCk, CCx, List.isEmpty_nil, Nat.reduceBNe, Nat.reduceBEq, Bool.or_false, Bool.false_or, Bool.or_true, Bool.true_or, Nat.reduceLeDiff, Nat.reduceLT, beqI, bneI, List.length_map, decide_true, decide_false, Int.reduceEq, Int.reduceLT, Int.reduceLE, Int.reduceGE, Int.reduceGT, not_true_eq_false, not_false_eq_true, Bool.and_true, Bool.true_and, Bool.and_false, Bool.false_and, and_true, true_and, and_self, Bool.not_not, *]
  refine W.br_ok (by kernel_rfl) ?_
  simp only [go_sem, ↓reduceIte, Nat.reduceEqDiff, Nat.reduceAdd, reduceCtorEq, CCT, CCv, CCr, CCk, CCx, List.isEmpty_nil, Nat.reduceBNe, Nat.reduceBEq, Bool.or_false, Bool.false_or, Bool.or_true, Bool.true_or, Nat.reduceLeDiff, Nat.reduceLT, beqI, bneI, List.length_map, decide_true, decide_false, Int.reduceEq, Int.reduceLT, Int.reduceLE, Int.reduceGE, Int.reduceGT, not_true_eq_false, not_false_eq_true, Bool.and_true, Bool.true_and, Bool.and_false, Bool.false_and, and_true, true_and, and_self, Bool.not_not, g3]
  refine W.call (want_c _ h _ 1) ?_
  rintro v s ⟨h1, hA, hk⟩
  obtain rfl : v = _ := h1
  obtain ⟨q1, r2, q2, q3⟩ := And.intro hA.1 hA.2
  simp only [encC, wst, wx, wy, wn, wtells] at q3
  simp only [go_sem, ↓reduceIte, Nat.reduceEqDiff, Nat.reduceAdd, reduceCtorEq, CCT, CCv, CCr, CCk, CCx, List.isEmpty_nil, Nat.reduceBNe, Nat.reduceBEq, Bool.or_false, Bool.false_or, Bool.or_true, Bool.true_or, Nat.reduceLeDiff, Nat.reduceLT, beqI, bneI, List.length_map, decide_true, decide_false, Int.reduceEq, Int.reduceLT, Int.reduceLE, Int.reduceGE, Int.reduceGT, not_true_eq_false, not_false_eq_true, Bool.and_true, Bool.true_and, Bool.and_false, Bool.false_and, and_true, true_and, and_self, Bool.not_not, *]
  obtain ⟨b, hb⟩ : ∃ b, okS (wantS c (decide (c.n < (K.ms.length : Int))) 1) = b := ⟨_, rfl⟩
  rw [hb]
  cases b
  · rw [if_neg (by simp)]
    simp only [go_sem, ↓reduceIte, Nat.reduceEqDiff, Nat.reduceAdd, reduceCtorEq, CCT, CCv, CCr, CCk, CCx, List.isEmpty_nil, Nat.reduceBNe, Nat.reduceBEq, Bool.or_false, Bool.false_or, Bool.or_true, Bool.true_or, Nat.reduceLeDiff, Nat.reduceLT, beqI, bneI, List.length_map, decide_true, decide_false, Int.reduceEq, Int.reduceLT, Int.reduceLE, Int.reduceGE, Int.reduceGT, not_true_eq_false, not_false_eq_true, Bool.and_true, Bool.true_and, Bool.and_false, Bool.false_and, and_true, true_and, and_self, Bool.not_not, *]
    exact fin_c hid hA hk rfl
  rw [if_pos rfl]
  have hlt : c.n < (K.ms.length : Int) := by
    have h2 := okS_iff.1 hb
    unfold wantS at h2
    split at h2
    · cases h2
    · rename_i h3
      have : ¬ decide (c.n < (K.ms.length : Int)) = false := fun h4 => h3 ⟨h2, h4⟩
      simpa using this
  have hdt : decide (c.n < (K.ms.length : Int)) = true := by simpa using hlt
  simp only [hdt] at hA ⊢
  have hidx : idxOk c.n K.ms.length = true := by simp [idxOk]; omega
  have hget : (K.ms.map encM)[c.n.toNat]? = some (encM (at0 K.ms c.n)) := by
    rw [List.getElem?_map, at0_get hn0 hlt]; rfl
  generalize at0 K.ms c.n = m at hget ⊢
  simp only [encM] at hget
  have n1 := eq_false (show ¬ id = s.next from Nat.ne_of_lt q1)
  have hA' : ∀ o o', At K ((s.new o).set s.next o') id (wantS c true 1) := fun o o' => by
    obtain ⟨q1, r2, q2, q3⟩ := And.intro hA.1 hA.2
    exact ⟨Nat.lt_succ_of_lt q1, r2, q2, keepN q1 q3⟩
  have hkn : ∀ o o', Keeps σ ((s.new o).set s.next o') id := fun o o' => hk.trans ((Keeps.refl s id).new _ |>.other _ (Nat.le_refl _))
  simp only [go_sem, ↓reduceIte, Nat.reduceEqDiff, Nat.reduceAdd, reduceCtorEq, CCT, CCv, CCr, CCk, CCx, List.isEmpty_nil, Nat.reduceBNe, Nat.reduceBEq, Bool.or_false, Bool.false_or, Bool.or_true, Bool.true_or, Nat.reduceLeDiff, Nat.reduceLT, beqI, bneI, List.length_map, decide_true, decide_false, Int.reduceEq, Int.reduceLT, Int.reduceLE, Int.reduceGE, Int.reduceGT, not_true_eq_false, not_false_eq_true, Bool.and_true, Bool.true_and, Bool.and_false, Bool.false_and, and_true, true_and, and_self, Bool.not_not, q3, hidx, hget]
  refine W.br_ok (by kernel_rfl) ?_
  simp only [go_sem, ↓reduceIte, Nat.reduceEqDiff, Nat.reduceAdd, reduceCtorEq, CCT, CCv, CCr, CCk, CCx, List.isEmpty_nil, Nat.reduceBNe, Nat.reduceBEq, Bool.or_false, Bool.false_or, Bool.or_true, Bool.true_or, Nat.reduceLeDiff, Nat.reduceLT, beqI, bneI, List.length_map, decide_true, decide_false, Int.reduceEq, Int.reduceLT, Int.reduceLE, Int.reduceGE, Int.reduceGT, not_true_eq_false, not_false_eq_true, Bool.and_true, Bool.true_and, Bool.and_false, Bool.false_and, and_true, true_and, and_self, Bool.not_not, q3, hidx, hget, n1]
  by_cases w4 : what = 4
  · have w4' := eq_true w4
    rw [if_pos w4]
    simp only [go_sem, ↓reduceIte, Nat.reduceEqDiff, Nat.reduceAdd, reduceCtorEq, CCT, CCv, CCr, CCk, CCx, List.isEmpty_nil, Nat.reduceBNe, Nat.reduceBEq, Bool.or_false, Bool.false_or, Bool.or_true, Bool.true_or, Nat.reduceLeDiff, Nat.reduceLT, beqI, bneI, List.length_map, decide_true, decide_false, Int.reduceEq, Int.reduceLT, Int.reduceLE, Int.reduceGE, Int.reduceGT, not_true_eq_false, not_false_eq_true, Bool.and_true, Bool.true_and, Bool.and_false, Bool.false_and, and_true, true_and, and_self, Bool.not_not, q3, n1, w4']
    refine W.call (want_c _ (hA' _ _) _ 7) ?_
    rintro v2 s2 ⟨h2, hA2, hk2⟩
    obtain rfl : v2 = _ := h2
    have hf2 : s2.obj s.next = some (.cells 54 [.agg 54 [.bool m.hash, .int .i64 m.len, .int .i64 m.type]]) := (hk2.2 s.next (Nat.lt_succ_self _) (Nat.ne_of_gt q1)).trans (if_pos rfl)
    obtain ⟨p1, r3, p2, p3⟩ := And.intro hA2.1 hA2.2
    simp only [encC, wst, wx, wy, wn, wtells] at p3
    simp only [go_sem, ↓reduceIte, Nat.reduceEqDiff, Nat.reduceAdd, reduceCtorEq, CCT, CCv, CCr, CCk, CCx, List.isEmpty_nil, Nat.reduceBNe, Nat.reduceBEq, Bool.or_false, Bool.false_or, Bool.or_true, Bool.true_or, Nat.reduceLeDiff, Nat.reduceLT, beqI, bneI, List.length_map, decide_true, decide_false, Int.reduceEq, Int.reduceLT, Int.reduceLE, Int.reduceGE, Int.reduceGT, not_true_eq_false, not_false_eq_true, Bool.and_true, Bool.true_and, Bool.and_false, Bool.false_and, and_true, true_and, and_self, Bool.not_not, p3]
    refine W.call (want_c _ hA2 _ 9) ?_
    rintro v3 s3 ⟨h3, hA3, hk3⟩
    obtain rfl : v3 = _ := h3
    have hf3 : s3.obj s.next = some (.cells 54 [.agg 54 [.bool m.hash, .int .i64 m.len, .int .i64 m.type]]) := (hk3.2 s.next (Nat.lt_of_lt_of_le (Nat.lt_succ_self _) hk2.1) (Nat.ne_of_gt q1)).trans hf2
    unfold thenS
    refine W.br_split (fun hb => ?_) (fun hb => ?_)
    · rw [if_pos hb]
      simp only [go_sem, ↓reduceIte, Nat.reduceEqDiff, Nat.reduceAdd, reduceCtorEq, CCT, CCv, CCr, CCk, CCx, List.isEmpty_nil, Nat.reduceBNe, Nat.reduceBEq, Bool.or_false, Bool.false_or, Bool.or_true, Bool.true_or, Nat.reduceLeDiff, Nat.reduceLT, beqI, bneI, List.length_map, decide_true, decide_false, Int.reduceEq, Int.reduceLT, Int.reduceLE, Int.reduceGE, Int.reduceGT, not_true_eq_false, not_false_eq_true, Bool.and_true, Bool.true_and, Bool.and_false, Bool.false_and, and_true, true_and, and_self, Bool.not_not, hf3]
      refine W.call (fresh_c _ hA3 5 m.type true) ?_
      rintro v4 s4 ⟨h4, hA4, hk4⟩
      obtain rfl : v4 = _ := h4
      simp only [go_sem, ↓reduceIte, Nat.reduceEqDiff, Nat.reduceAdd, reduceCtorEq, CCT, CCv, CCr, CCk, CCx, List.isEmpty_nil, Nat.reduceBNe, Nat.reduceBEq, Bool.or_false, Bool.false_or, Bool.or_true, Bool.true_or, Nat.reduceLeDiff, Nat.reduceLT, beqI, bneI, List.length_map, decide_true, decide_false, Int.reduceEq, Int.reduceLT, Int.reduceLE, Int.reduceGE, Int.reduceGT, not_true_eq_false, not_false_eq_true, Bool.and_true, Bool.true_and, Bool.and_false, Bool.false_and, and_true, true_and, and_self, Bool.not_not, *]
      exact fin_c hid hA4 ((hkn _ _).trans (hk2.trans (hk3.trans hk4))) rfl
    · rw [if_neg (by rw [hb]; simp)]
      simp only [go_sem, ↓reduceIte, Nat.reduceEqDiff, Nat.reduceAdd, reduceCtorEq, CCT, CCv, CCr, CCk, CCx, List.isEmpty_nil, Nat.reduceBNe, Nat.reduceBEq, Bool.or_false, Bool.false_or, Bool.or_true, Bool.true_or, Nat.reduceLeDiff, Nat.reduceLT, beqI, bneI, List.length_map, decide_true, decide_false, Int.reduceEq, Int.reduceLT, Int.reduceLE, Int.reduceGE, Int.reduceGT, not_true_eq_false, not_false_eq_true, Bool.and_true, Bool.true_and, Bool.and_false, Bool.false_and, and_true, true_and, and_self, Bool.not_not, *]
      exact fin_c hid hA3 ((hkn _ _).trans (hk2.trans hk3)) rfl
  · have w4' := eq_false w4
    rw [if_neg w4]
    obtain ⟨b1, hb1⟩ : ∃ b, m.hash = b := ⟨_, rfl⟩
    obtain ⟨b2, hb2⟩ : ∃ b, decide (c.x.kind = 1) = b := ⟨_, rfl⟩
    rw [hb1, hb2]
    cases b1 <;> cases b2
    all_goals
      try simp only [Bool.and_false, Bool.and_true, Bool.false_and, Bool.true_and, Bool.not_true, Bool.not_false, Bool.and_self]
      simp only [go_sem, ↓reduceIte, Nat.reduceEqDiff, Nat.reduceAdd, reduceCtorEq, CCT, CCv, CCr, CCk, CCx, List.isEmpty_nil, Nat.reduceBNe, Nat.reduceBEq, Bool.or_false, Bool.false_or, Bool.or_true, Bool.true_or, Nat.reduceLeDiff, Nat.reduceLT, beqI, bneI, List.length_map, decide_true, decide_false, Int.reduceEq, Int.reduceLT, Int.reduceLE, Int.reduceGE, Int.reduceGT, not_true_eq_false, not_false_eq_true, Bool.and_true, Bool.true_and, Bool.and_false, Bool.false_and, and_true, true_and, and_self, Bool.not_not, q3, n1, w4', hb1, hb2]
      refine W.call (want_c _ (hA' _ _) _ 7) ?_
      rintro v2 s2 ⟨h2, hA2, hk2⟩
      obtain rfl : v2 = _ := h2
      simp only [go_sem, ↓reduceIte, Nat.reduceEqDiff, Nat.reduceAdd, reduceCtorEq, CCT, CCv, CCr, CCk, CCx, List.isEmpty_nil, Nat.reduceBNe, Nat.reduceBEq, Bool.or_false, Bool.false_or, Bool.or_true, Bool.true_or, Nat.reduceLeDiff, Nat.reduceLT, beqI, bneI, List.length_map, decide_true, decide_false, Int.reduceEq, Int.reduceLT, Int.reduceLE, Int.reduceGE, Int.reduceGT, not_true_eq_false, not_false_eq_true, Bool.and_true, Bool.true_and, Bool.and_false, Bool.false_and, and_true, true_and, and_self, Bool.not_not, *]
      refine W.call (bit_c _ hA2) ?_
      rintro v3 s3 ⟨h3, hA3, hk3⟩
      obtain rfl : v3 = _ := h3
      simp only [go_sem, ↓reduceIte, Nat.reduceEqDiff, Nat.reduceAdd, reduceCtorEq, CCT, CCv, CCr, CCk, CCx, List.isEmpty_nil, Nat.reduceBNe, Nat.reduceBEq, Bool.or_false, Bool.false_or, Bool.or_true, Bool.true_or, Nat.reduceLeDiff, Nat.reduceLT, beqI, bneI, List.length_map, decide_true, decide_false, Int.reduceEq, Int.reduceLT, Int.reduceLE, Int.reduceGE, Int.reduceGT, not_true_eq_false, not_false_eq_true, Bool.and_true, Bool.true_and, Bool.and_false, Bool.false_and, and_true, true_and, and_self, Bool.not_not, *]
      exact fin_c hid hA3 ((hkn _ _).trans (hk2.trans hk3)) rfl
end Go.Proofs.Ytdbpnkemlmagoaa.Va
