/- chapter 18: trees, pointers -/
import Derived.Test.YtdbpnkemlmagoaaEigH
namespace Go.Proofs.Ytdbpnkemlmagoaa.Va
open Go
set_option linter.unusedVariables false
set_option linter.unusedSimpArgs false
set_option maxRecDepth 100000
def lkC (c : Cal) : Int := IntKind.i64.wrap (IntKind.i64.wrap (16 * c.x.type) + c.n)
def lnF (K : Kx) (c : Cal) : Fld := fldS K.l (IntKind.i64.wrap (c.x.link.tdiv 16)) (c.x.link.tmod 16)
def mbC (c : Cal) : Cal := { c with tells := { c.x with maybe := true } }
def treeS (K : Kx) (c : Cal) (what : Int) : Cal :=
  if what = 14 then intoS K c 6
  else if what = 15 then looseS (lockS K c 6) (cF K c)
  else if what = 18 then thenS (wantS (lockS K c 6) (handS c.y [4] && decide (c.y.id = c.x.id) && decide (c.y.link = lkC c)) 8) fun c1 => ownS (loosenS c1) (cF K c).type false
  else mbC (wantS (wantS (wantS c (handS c.x [4]) 8) (decide ((lnF K c).kind = 6)) 7) (decide (c.n = (lnF K c).link)) 1)
theorem tree_c (d : Nat) {K : Kx} {σ : St} {id : Nat} {c : Cal} (h : At K σ id c) (hc : COk c) (what : Int) :
    Sat (fun p => p.1 = .tup [] ∧ At K p.2 id (treeS K c what) ∧ Keeps σ p.2 id) (evalF Try.prog CC (d + 7) 19 [.ptr 58 id [0], .int .u8 what] σ) := by
  have hid := h.1
  have hhy := fun d => hand1 d c.y 4
  have hhx := fun d => hand1 d c.x 4
  simp only [encW] at hhy hhx
  obtain ⟨g1, r, g2, g3⟩ := And.intro h.1 h.2
  simp only [encC] at g3
  unfold treeS
  refine Sat.go ?_
  rw [run_19 _ _ _ (by simp)]; unfold Try.f19; simp only [Option.getD_some]
  simp only [go_sem, ↓reduceIte, Nat.reduceEqDiff, Nat.reduceAdd, reduceCtorEq, CCT, CCv, CCr, CCk, CCx, List.isEmpty_nil, Nat.reduceBNe, Nat.reduceBEq, Bool.or_false, Bool.false_or, Bool.or_true, Bool.true_or, Nat.reduceLeDiff, Nat.reduceLT, beqI, bneI, List.length_map, decide_true, decide_false, Int.reduceEq, Int.reduceLT, Int.reduceLE, Int.reduceGE, Int.reduceGT, not_true_eq_false, not_false_eq_true, Bool.and_true, Bool.true_and, Bool.and_false, Bool.false_and, and_true, true_and, and_self, Bool.not_not, *]
  by_cases w1 : what = 14
  · subst w1
    rw [if_pos rfl]
    simp only [go_sem, ↓reduceIte, Nat.reduceEqDiff, Nat.reduceAdd, reduceCtorEq, CCT, CCv, CCr, CCk, CCx, List.isEmpty_nil, Nat.reduceBNe, Nat.reduceBEq, Bool.or_false, Bool.false_or, Bool.or_true, Bool.true_or, Nat.reduceLeDiff, Nat.reduceLT, beqI, bneI, List.length_map, decide_true, decide_false, Int.reduceEq, Int.reduceLT, Int.reduceLE, Int.reduceGE, Int.reduceGT, not_true_eq_false, not_false_eq_true, Bool.and_true, Bool.true_and, Bool.and_false, Bool.false_and, and_true, true_and, and_self, Bool.not_not, *]
    refine W.call (into_c _ h hc 6) ?_
    rintro v s ⟨h1, hA, hk⟩
    obtain rfl : v = _ := h1
    simp only [go_sem, ↓reduceIte, Nat.reduceEqDiff, Nat.reduceAdd, reduceCtorEq, CCT, CCv, CCr, CCk, CCx, List.isEmpty_nil, Nat.reduceBNe, Nat.reduceBEq, Bool.or_false, Bool.false_or, Bool.or_true, Bool.true_or, Nat.reduceLeDiff, Nat.reduceLT, beqI, bneI, List.length_map, decide_true, decide_false, Int.reduceEq, Int.reduceLT, Int.reduceLE, Int.reduceGE, Int.reduceGT, not_true_eq_false, not_false_eq_true, Bool.and_true, Bool.true_and, Bool.and_false, Bool.false_and, and_true, true_and, and_self, Bool.not_not, *]
    exact fin_c hid hA hk rfl
  rw [if_neg w1]
  have w1' := eq_false w1
  by_cases w2 : what = 15
  · subst w2
    rw [if_pos rfl]
    simp only [go_sem, ↓reduceIte, Nat.reduceEqDiff, Nat.reduceAdd, reduceCtorEq, CCT, CCv, CCr, CCk, CCx, List.isEmpty_nil, Nat.reduceBNe, Nat.reduceBEq, Bool.or_false, Bool.false_or, Bool.or_true, Bool.true_or, Nat.reduceLeDiff, Nat.reduceLT, beqI, bneI, List.length_map, decide_true, decide_false, Int.reduceEq, Int.reduceLT, Int.reduceLE, Int.reduceGE, Int.reduceGT, not_true_eq_false, not_false_eq_true, Bool.and_true, Bool.true_and, Bool.and_false, Bool.false_and, and_true, true_and, and_self, Bool.not_not, *]
    refine W.call (locked_c _ h 6) ?_
    rintro v s ⟨h1, hA, hk⟩
    obtain rfl : v = _ := h1
    simp only [go_sem, ↓reduceIte, Nat.reduceEqDiff, Nat.reduceAdd, reduceCtorEq, CCT, CCv, CCr, CCk, CCx, List.isEmpty_nil, Nat.reduceBNe, Nat.reduceBEq, Bool.or_false, Bool.false_or, Bool.or_true, Bool.true_or, Nat.reduceLeDiff, Nat.reduceLT, beqI, bneI, List.length_map, decide_true, decide_false, Int.reduceEq, Int.reduceLT, Int.reduceLE, Int.reduceGE, Int.reduceGT, not_true_eq_false, not_false_eq_true, Bool.and_true, Bool.true_and, Bool.and_false, Bool.false_and, and_true, true_and, and_self, Bool.not_not, *]
    refine W.call (loose_c _ hA _) ?_
    rintro v2 s2 ⟨h2, hA2, hk2⟩
    obtain rfl : v2 = _ := h2
    simp only [go_sem, ↓reduceIte, Nat.reduceEqDiff, Nat.reduceAdd, reduceCtorEq, CCT, CCv, CCr, CCk, CCx, List.isEmpty_nil, Nat.reduceBNe, Nat.reduceBEq, Bool.or_false, Bool.false_or, Bool.or_true, Bool.true_or, Nat.reduceLeDiff, Nat.reduceLT, beqI, bneI, List.length_map, decide_true, decide_false, Int.reduceEq, Int.reduceLT, Int.reduceLE, Int.reduceGE, Int.reduceGT, not_true_eq_false, not_false_eq_true, Bool.and_true, Bool.true_and, Bool.and_false, Bool.false_and, and_true, true_and, and_self, Bool.not_not, *]
    exact fin_c hid hA2 (hk.trans hk2) rfl
  rw [if_neg w2]
  have w2' := eq_false w2
  by_cases w3 : what = 18
  · subst w3
    rw [if_pos rfl]
    simp only [go_sem, ↓reduceIte, Nat.reduceEqDiff, Nat.reduceAdd, reduceCtorEq, CCT, CCv, CCr, CCk, CCx, List.isEmpty_nil, Nat.reduceBNe, Nat.reduceBEq, Bool.or_false, Bool.false_or, Bool.or_true, Bool.true_or, Nat.reduceLeDiff, Nat.reduceLT, beqI, bneI, List.length_map, decide_true, decide_false, Int.reduceEq, Int.reduceLT, Int.reduceLE, Int.reduceGE, Int.reduceGT, not_true_eq_false, not_false_eq_true, Bool.and_true, Bool.true_and, Bool.and_false, Bool.false_and, and_true, true_and, and_self, Bool.not_not, w1', w2']
    refine W.call (locked_c _ h 6) ?_
    rintro v s ⟨h1, hA, hk⟩
    obtain rfl : v = _ := h1
    obtain ⟨q1, r2, q2, q3⟩ := And.intro hA.1 hA.2
    have hA1 : ∀ o o', At K ((s.new o).set s.next o') id (lockS K c 6) := fun o o' => ⟨Nat.lt_succ_of_lt q1, r2, q2, keepN q1 q3⟩
    have q3 : s.obj id = _ := q3
    simp only [encC, lkst, lkx, lky, lkn, lktells] at q3
    have n1 := eq_false (show ¬ id = s.next from Nat.ne_of_lt q1)
    have hkn : ∀ o o', Keeps σ ((s.new o).set s.next o') id := fun o o' => hk.trans ((Keeps.refl s id).new _ |>.other _ (Nat.le_refl _))
    obtain ⟨b1, hb1⟩ : ∃ b, handS c.y [4] = b := ⟨_, rfl⟩
    obtain ⟨b2, hb2⟩ : ∃ b, decide (c.y.id = c.x.id) = b := ⟨_, rfl⟩
    obtain ⟨b3, hb3⟩ : ∃ b, decide (c.y.link = lkC c) = b := ⟨_, rfl⟩
    rw [hb1, hb2, hb3]
    unfold lkC at hb3
    cases b1 <;> cases b2 <;> cases b3
    all_goals
      try simp only [Bool.and_false, Bool.and_true, Bool.false_and, Bool.true_and, Bool.not_true, Bool.not_false, Bool.and_self]
      simp only [go_sem, ↓reduceIte, Nat.reduceEqDiff, Nat.reduceAdd, reduceCtorEq, CCT, CCv, CCr, CCk, CCx, List.isEmpty_nil, Nat.reduceBNe, Nat.reduceBEq, Bool.or_false, Bool.false_or, Bool.or_true, Bool.true_or, Nat.reduceLeDiff, Nat.reduceLT, beqI, bneI, List.length_map, decide_true, decide_false, Int.reduceEq, Int.reduceLT, Int.reduceLE, Int.reduceGE, Int.reduceGT, not_true_eq_false, not_false_eq_true, Bool.and_true, Bool.true_and, Bool.and_false, Bool.false_and, and_true, true_and, and_self, Bool.not_not, q3, n1]
      refine W.br_ok (by kernel_rfl) ?_
      simp only [go_sem, ↓reduceIte, Nat.reduceEqDiff, Nat.reduceAdd, reduceCtorEq, CCT, CCv, CCr, CCk, CCx, List.isEmpty_nil, Nat.reduceBNe, Nat.reduceBEq, Bool.or_false, Bool.false_or, Bool.or_true, Bool.true_or, Nat.reduceLeDiff, Nat.reduceLT, beqI, bneI, List.length_map, decide_true, decide_false, Int.reduceEq, Int.reduceLT, Int.reduceLE, Int.reduceGE, Int.reduceGT, not_true_eq_false, not_false_eq_true, Bool.and_true, Bool.true_and, Bool.and_false, Bool.false_and, and_true, true_and, and_self, Bool.not_not, q3, n1, hhy, hb1, hb2, hb3]
      refine W.call (want_c _ (hA1 _ _) _ 8) ?_
      rintro v2 s2 ⟨h2, hA2, hk2⟩
      obtain rfl : v2 = _ := h2
      unfold thenS
      simp only [go_sem, ↓reduceIte, Nat.reduceEqDiff, Nat.reduceAdd, reduceCtorEq, CCT, CCv, CCr, CCk, CCx, List.isEmpty_nil, Nat.reduceBNe, Nat.reduceBEq, Bool.or_false, Bool.false_or, Bool.or_true, Bool.true_or, Nat.reduceLeDiff, Nat.reduceLT, beqI, bneI, List.length_map, decide_true, decide_false, Int.reduceEq, Int.reduceLT, Int.reduceLE, Int.reduceGE, Int.reduceGT, not_true_eq_false, not_false_eq_true, Bool.and_true, Bool.true_and, Bool.and_false, Bool.false_and, and_true, true_and, and_self, Bool.not_not, *]
      refine W.br_split (fun hb => ?_) (fun hb => ?_)
      · rw [if_pos hb]
        have hf2 : s2.obj s.next = some (.cells 46 [encF (cF K c)]) := (hk2.2 s.next (Nat.lt_succ_self _) (Nat.ne_of_gt q1)).trans (if_pos rfl)
        simp only [go_sem, ↓reduceIte, Nat.reduceEqDiff, Nat.reduceAdd, reduceCtorEq, CCT, CCv, CCr, CCk, CCx, List.isEmpty_nil, Nat.reduceBNe, Nat.reduceBEq, Bool.or_false, Bool.false_or, Bool.or_true, Bool.true_or, Nat.reduceLeDiff, Nat.reduceLT, beqI, bneI, List.length_map, decide_true, decide_false, Int.reduceEq, Int.reduceLT, Int.reduceLE, Int.reduceGE, Int.reduceGT, not_true_eq_false, not_false_eq_true, Bool.and_true, Bool.true_and, Bool.and_false, Bool.false_and, and_true, true_and, and_self, Bool.not_not, *]
        refine W.call (loosen_c _ hA2 ⟨by rw [wst, lkst]; exact hc.1.1, by rw [wst, lkst]; exact hc.1.2⟩) ?_
        rintro v3 s3 ⟨h3, hA3, hk3⟩
        obtain rfl : v3 = _ := h3
        have hf3 : s3.obj s.next = some (.cells 46 [encF (cF K c)]) := (hk3.2 s.next (Nat.lt_of_lt_of_le (Nat.lt_succ_self _) hk2.1) (Nat.ne_of_gt q1)).trans hf2
        simp only [encF] at hf3
        simp only [go_sem, ↓reduceIte, Nat.reduceEqDiff, Nat.reduceAdd, reduceCtorEq, CCT, CCv, CCr, CCk, CCx, List.isEmpty_nil, Nat.reduceBNe, Nat.reduceBEq, Bool.or_false, Bool.false_or, Bool.or_true, Bool.true_or, Nat.reduceLeDiff, Nat.reduceLT, beqI, bneI, List.length_map, decide_true, decide_false, Int.reduceEq, Int.reduceLT, Int.reduceLE, Int.reduceGE, Int.reduceGT, not_true_eq_false, not_false_eq_true, Bool.and_true, Bool.true_and, Bool.and_false, Bool.false_and, and_true, true_and, and_self, Bool.not_not, hf3]
        refine W.call (own_c _ hA3 (by show (wantS _ _ _).st.refs.length ≤ _; rw [wst, lkst]; exact Nat.le_succ_of_le hc.2) (cF K c).type false) ?_
        rintro v4 s4 ⟨h4, hA4, hk4⟩
        obtain rfl : v4 = _ := h4
        simp only [go_sem, ↓reduceIte, Nat.reduceEqDiff, Nat.reduceAdd, reduceCtorEq, CCT, CCv, CCr, CCk, CCx, List.isEmpty_nil, Nat.reduceBNe, Nat.reduceBEq, Bool.or_false, Bool.false_or, Bool.or_true, Bool.true_or, Nat.reduceLeDiff, Nat.reduceLT, beqI, bneI, List.length_map, decide_true, decide_false, Int.reduceEq, Int.reduceLT, Int.reduceLE, Int.reduceGE, Int.reduceGT, not_true_eq_false, not_false_eq_true, Bool.and_true, Bool.true_and, Bool.and_false, Bool.false_and, and_true, true_and, and_self, Bool.not_not, *]
        exact fin_c hid hA4 ((hkn _ _).trans (hk2.trans (hk3.trans hk4))) rfl
      · rw [if_neg (by rw [hb]; simp)]
        simp only [go_sem, ↓reduceIte, Nat.reduceEqDiff, Nat.reduceAdd, reduceCtorEq, CCT, CCv, CCr, CCk, CCx, List.isEmpty_nil, Nat.reduceBNe, Nat.reduceBEq, Bool.or_false, Bool.false_or, Bool.or_true, Bool.true_or, Nat.reduceLeDiff, Nat.reduceLT, beqI, bneI, List.length_map, decide_true, decide_false, Int.reduceEq, Int.reduceLT, Int.reduceLE, Int.reduceGE, Int.reduceGT, not_true_eq_false, not_false_eq_true, Bool.and_true, Bool.true_and, Bool.and_false, Bool.false_and, and_true, true_and, and_self, Bool.not_not, *]
        exact fin_c hid hA2 ((hkn _ _).trans hk2) rfl
  rw [if_neg w3]
  have w3' := eq_false w3
  have e16 : IntKind.i64.wrap (c.x.link.tdiv 16) = IntKind.i64.wrap (c.x.link.tdiv 16) := rfl
  simp only [go_sem, ↓reduceIte, Nat.reduceEqDiff, Nat.reduceAdd, reduceCtorEq, CCT, CCv, CCr, CCk, CCx, List.isEmpty_nil, Nat.reduceBNe, Nat.reduceBEq, Bool.or_false, Bool.false_or, Bool.or_true, Bool.true_or, Nat.reduceLeDiff, Nat.reduceLT, beqI, bneI, List.length_map, decide_true, decide_false, Int.reduceEq, Int.reduceLT, Int.reduceLE, Int.reduceGE, Int.reduceGT, not_true_eq_false, not_false_eq_true, Bool.and_true, Bool.true_and, Bool.and_false, Bool.false_and, and_true, true_and, and_self, Bool.not_not, w1', w2', w3', g3, hhx]
  refine W.call (want_c _ h _ 8) ?_
  rintro v s ⟨h1, hA, hk⟩
  obtain rfl : v = _ := h1
  obtain ⟨q1, r2, q2, q3⟩ := And.intro hA.1 hA.2
  have hA1 : ∀ o o', At K ((s.new o).set s.next o') id (wantS c (handS c.x [4]) 8) := fun o o' => ⟨Nat.lt_succ_of_lt q1, r2, q2, keepN q1 q3⟩
  have q3 : s.obj id = _ := q3
  obtain ⟨r3, hr3, hfz, _, _⟩ := q2.frz
  simp only [encC, wst, wx, wy, wn, wtells] at q3
  have hfd := fun d i t => fld_c d K (wantS c (handS c.x [4]) 8) r3 t i
  simp only [encC, encS, encW, encF, wst, wx, wy, wn, wtells] at hfd
  have n1 := eq_false (show ¬ id = s.next from Nat.ne_of_lt q1)
  have hkn : ∀ o o', Keeps σ ((s.new o).set s.next o') id := fun o o' => hk.trans ((Keeps.refl s id).new _ |>.other _ (Nat.le_refl _))
  simp only [go_sem, ↓reduceIte, Nat.reduceEqDiff, Nat.reduceAdd, reduceCtorEq, CCT, CCv, CCr, CCk, CCx, List.isEmpty_nil, Nat.reduceBNe, Nat.reduceBEq, Bool.or_false, Bool.false_or, Bool.or_true, Bool.true_or, Nat.reduceLeDiff, Nat.reduceLT, beqI, bneI, List.length_map, decide_true, decide_false, Int.reduceEq, Int.reduceLT, Int.reduceLE, Int.reduceGE, Int.reduceGT, not_true_eq_false, not_false_eq_true, Bool.and_true, Bool.true_and, Bool.and_false, Bool.false_and, and_true, true_and, and_self, Bool.not_not, q3]
  refine W.br_ok (by kernel_rfl) ?_
  simp only [go_sem, ↓reduceIte, Nat.reduceEqDiff, Nat.reduceAdd, reduceCtorEq, CCT, CCv, CCr, CCk, CCx, List.isEmpty_nil, Nat.reduceBNe, Nat.reduceBEq, Bool.or_false, Bool.false_or, Bool.or_true, Bool.true_or, Nat.reduceLeDiff, Nat.reduceLT, beqI, bneI, List.length_map, decide_true, decide_false, Int.reduceEq, Int.reduceLT, Int.reduceLE, Int.reduceGE, Int.reduceGT, not_true_eq_false, not_false_eq_true, Bool.and_true, Bool.true_and, Bool.and_false, Bool.false_and, and_true, true_and, and_self, Bool.not_not, q3, n1, hfz, frz_W, hfd]
  refine W.call (want_c _ (hA1 _ _) _ 7) ?_
  rintro v2 s2 ⟨h2, hA2, hk2⟩
  obtain rfl : v2 = _ := h2
  have hf2 : s2.obj s.next = some (.cells 46 [encF (lnF K c)]) := (hk2.2 s.next (Nat.lt_succ_self _) (Nat.ne_of_gt q1)).trans (if_pos rfl)
  obtain ⟨p1, r4, p2, p3⟩ := And.intro hA2.1 hA2.2
  have p3 : s2.obj id = _ := p3
  simp only [encC, wst, wx, wy, wn, wtells] at p3
  simp only [encF] at hf2
  simp only [go_sem, ↓reduceIte, Nat.reduceEqDiff, Nat.reduceAdd, reduceCtorEq, CCT, CCv, CCr, CCk, CCx, List.isEmpty_nil, Nat.reduceBNe, Nat.reduceBEq, Bool.or_false, Bool.false_or, Bool.or_true, Bool.true_or, Nat.reduceLeDiff, Nat.reduceLT, beqI, bneI, List.length_map, decide_true, decide_false, Int.reduceEq, Int.reduceLT, Int.reduceLE, Int.reduceGE, Int.reduceGT, not_true_eq_false, not_false_eq_true, Bool.and_true, Bool.true_and, Bool.and_false, Bool.false_and, and_true, true_and, and_self, Bool.not_not, p3, hf2]
  refine W.br_ok (by kernel_rfl) ?_
  simp only [go_sem, ↓reduceIte, Nat.reduceEqDiff, Nat.reduceAdd, reduceCtorEq, CCT, CCv, CCr, CCk, CCx, List.isEmpty_nil, Nat.reduceBNe, Nat.reduceBEq, Bool.or_false, Bool.false_or, Bool.or_true, Bool.true_or, Nat.reduceLeDiff, Nat.reduceLT, beqI, bneI, List.length_map, decide_true, decide_false, Int.reduceEq, Int.reduceLT, Int.reduceLE, Int.reduceGE, Int.reduceGT, not_true_eq_false, not_false_eq_true, Bool.and_true, Bool.true_and, Bool.and_false, Bool.false_and, and_true, true_and, and_self, Bool.not_not, p3, hf2]
  refine W.call (want_c _ hA2 _ 1) ?_
  rintro v3 s3 ⟨h3, hA3, hk3⟩
  obtain rfl : v3 = _ := h3
  obtain ⟨u1, r5, u2, u3⟩ := And.intro hA3.1 hA3.2
  have u3 : s3.obj id = _ := u3
  simp only [encC, wst, wx, wy, wn, wtells] at u3
  simp only [go_sem, ↓reduceIte, Nat.reduceEqDiff, Nat.reduceAdd, reduceCtorEq, CCT, CCv, CCr, CCk, CCx, List.isEmpty_nil, Nat.reduceBNe, Nat.reduceBEq, Bool.or_false, Bool.false_or, Bool.or_true, Bool.true_or, Nat.reduceLeDiff, Nat.reduceLT, beqI, bneI, List.length_map, decide_true, decide_false, Int.reduceEq, Int.reduceLT, Int.reduceLE, Int.reduceGE, Int.reduceGT, not_true_eq_false, not_false_eq_true, Bool.and_true, Bool.true_and, Bool.and_false, Bool.false_and, and_true, true_and, and_self, Bool.not_not, u3]
  exact fin_c hid ⟨u1, r5, by simpa only [mbC, wst] using u2, by show (if id = id then _ else _) = _; rw [if_pos rfl]; simp only [encC, encS, encW, mbC, lnF, wst, wx, wy, wn, wtells]; rfl⟩ (((hkn _ _).trans (hk2.trans hk3)).set _ |>.set _) rfl
def seenC (K : Kx) (c : Cal) : Cal := { c with tells := ⟨6, (cF K c).type, 0, 0, true, 0, 0⟩ }
def ownY (c : Cal) : Bool := handS c.y [3]
def fitY (c : Cal) : Bool := (ownY c || decide (c.y.kind = 2)) && !(ownY c && decide (c.x.kind = 3) && decide (c.x.id = c.y.id))
def pointerS (K : Kx) (c : Cal) (what : Int) : Cal :=
  if what = 20 then seenC K (wantS (wantS (wantS c c.st.sec 9) (handS c.x [5, 3, 6]) 8) (decide ((cF K c).kind = 2)) 7)
  else thenS (wantS (wantS (wantS (wantS c (handS c.x [5, 3]) 8) (decide ((cF K c).kind = 2)) 7) (fitY c) 8) (!ownY c || decide (c.y.type = (cF K c).type)) 7) fun c1 => ownS (if ownY c = true then spendS c1 c.y else c1) (cF K c).type true
set_option maxHeartbeats 8000000 in
theorem pointer_c (d : Nat) {K : Kx} {σ : St} {id : Nat} {c : Cal} (h : At K σ id c) (hc : COk c) (what : Int) :
    Sat (fun p => p.1 = .tup [] ∧ At K p.2 id (pointerS K c what) ∧ Keeps σ p.2 id) (evalF Try.prog CC (d + 7) 20 [.ptr 58 id [0], .int .u8 what] σ) := by
  have hid := h.1
  have hhx3 := fun d => hand3 d c.x 5 3 6
  have hhx2 := fun d => hand2 d c.x 5 3
  have hhy := fun d => hand1 d c.y 3
  simp only [encW] at hhy hhx3 hhx2
  obtain ⟨g1, r, g2, g3⟩ := And.intro h.1 h.2
  have hA1 : ∀ o o', At K ((σ.new o).set σ.next o') id c := fun o o' => ⟨Nat.lt_succ_of_lt g1, r, g2, keepN g1 g3⟩
  obtain ⟨r3, hr3, hfz, _, _⟩ := g2.frz
  simp only [encC] at g3
  have hfd := fun d i t => fld_c d K c r3 t i
  simp only [encC, encS, encW, encF] at hfd
  have n1 := eq_false (show ¬ id = σ.next from Nat.ne_of_lt g1)
  have hkn : ∀ o o', Keeps σ ((σ.new o).set σ.next o') id := fun o o' => (Keeps.refl σ id).new _ |>.other _ (Nat.le_refl _)
  unfold pointerS
  refine Sat.go ?_
  rw [run_20 _ _ _ (by simp)]; unfold Try.f20; simp only [Option.getD_some]
  simp only [go_sem, ↓reduceIte, Nat.reduceEqDiff, Nat.reduceAdd, reduceCtorEq, CCT, CCv, CCr, CCk, CCx, List.isEmpty_nil, Nat.reduceBNe, Nat.reduceBEq, Bool.or_false, Bool.false_or, Bool.or_true, Bool.true_or, Nat.reduceLeDiff, Nat.reduceLT, beqI, bneI, List.length_map, decide_true, decide_false, Int.reduceEq, Int.reduceLT, Int.reduceLE, Int.reduceGE, Int.reduceGT, not_true_eq_false, not_false_eq_true, Bool.and_true, Bool.true_and, Bool.and_false, Bool.false_and, and_true, true_and, and_self, Bool.not_not, g3]
  refine W.br_ok (by kernel_rfl) ?_
  simp only [go_sem, ↓reduceIte, Nat.reduceEqDiff, Nat.reduceAdd, reduceCtorEq, CCT, CCv, CCr, CCk, CCx, List.isEmpty_nil, Nat.reduceBNe, Nat.reduceBEq, Bool.or_false, Bool.false_or, Bool.or_true, Bool.true_or, Nat.reduceLeDiff, Nat.reduceLT, beqI, bneI, List.length_map, decide_true, decide_false, Int.reduceEq, Int.reduceLT, Int.reduceLE, Int.reduceGE, Int.reduceGT, not_true_eq_false, not_false_eq_true, Bool.and_true, Bool.true_and, Bool.and_false, Bool.false_and, and_true, true_and, and_self, Bool.not_not, g3, n1, hfz, frz_W, hfd]
  by_cases w1 : what = 20
  · have w1' := eq_true w1
    rw [if_pos w1]
    simp only [go_sem, ↓reduceIte, Nat.reduceEqDiff, Nat.reduceAdd, reduceCtorEq, CCT, CCv, CCr, CCk, CCx, List.isEmpty_nil, Nat.reduceBNe, Nat.reduceBEq, Bool.or_false, Bool.false_or, Bool.or_true, Bool.true_or, Nat.reduceLeDiff, Nat.reduceLT, beqI, bneI, List.length_map, decide_true, decide_false, Int.reduceEq, Int.reduceLT, Int.reduceLE, Int.reduceGE, Int.reduceGT, not_true_eq_false, not_false_eq_true, Bool.and_true, Bool.true_and, Bool.and_false, Bool.false_and, and_true, true_and, and_self, Bool.not_not, g3, n1, w1']
    refine W.call (want_c _ (hA1 _ _) _ 9) ?_
    rintro v s ⟨h1, hA, hk⟩
    obtain rfl : v = _ := h1
    have hf : s.obj σ.next = some (.cells 46 [encF (cF K c)]) := (hk.2 σ.next (Nat.lt_succ_self _) (Nat.ne_of_gt g1)).trans (if_pos rfl)
    obtain ⟨q1, r2, q2, q3⟩ := And.intro hA.1 hA.2
    have q3 : s.obj id = _ := q3
    simp only [encC, wst, wx, wy, wn, wtells] at q3
    simp only [go_sem, ↓reduceIte, Nat.reduceEqDiff, Nat.reduceAdd, reduceCtorEq, CCT, CCv, CCr, CCk, CCx, List.isEmpty_nil, Nat.reduceBNe, Nat.reduceBEq, Bool.or_false, Bool.false_or, Bool.or_true, Bool.true_or, Nat.reduceLeDiff, Nat.reduceLT, beqI, bneI, List.length_map, decide_true, decide_false, Int.reduceEq, Int.reduceLT, Int.reduceLE, Int.reduceGE, Int.reduceGT, not_true_eq_false, not_false_eq_true, Bool.and_true, Bool.true_and, Bool.and_false, Bool.false_and, and_true, true_and, and_self, Bool.not_not, q3, hhx3]
    refine W.call (want_c _ hA _ 8) ?_
    rintro v2 s2 ⟨h2, hA2, hk2⟩
    obtain rfl : v2 = _ := h2
    have hf2 : s2.obj σ.next = some (.cells 46 [encF (cF K c)]) := (hk2.2 σ.next (Nat.lt_of_lt_of_le (Nat.lt_succ_self _) hk.1) (Nat.ne_of_gt g1)).trans hf
    have hf2' := hf2
    simp only [encF] at hf2
    simp only [go_sem, ↓reduceIte, Nat.reduceEqDiff, Nat.reduceAdd, reduceCtorEq, CCT, CCv, CCr, CCk, CCx, List.isEmpty_nil, Nat.reduceBNe, Nat.reduceBEq, Bool.or_false, Bool.false_or, Bool.or_true, Bool.true_or, Nat.reduceLeDiff, Nat.reduceLT, beqI, bneI, List.length_map, decide_true, decide_false, Int.reduceEq, Int.reduceLT, Int.reduceLE, Int.reduceGE, Int.reduceGT, not_true_eq_false, not_false_eq_true, Bool.and_true, Bool.true_and, Bool.and_false, Bool.false_and, and_true, true_and, and_self, Bool.not_not, hf2]
    refine W.call (want_c _ hA2 _ 7) ?_
    rintro v3 s3 ⟨h3, hA3, hk3⟩
    obtain rfl : v3 = _ := h3
    have hf3 : s3.obj σ.next = some (.cells 46 [encF (cF K c)]) := (hk3.2 σ.next (Nat.lt_of_lt_of_le (Nat.lt_succ_self _) (Nat.le_trans hk.1 hk2.1)) (Nat.ne_of_gt g1)).trans hf2'
    obtain ⟨u1, r5, u2, u3⟩ := And.intro hA3.1 hA3.2
    have u3 : s3.obj id = _ := u3
    simp only [encC, wst, wx, wy, wn, wtells] at u3
    simp only [encF] at hf3
    simp only [go_sem, ↓reduceIte, Nat.reduceEqDiff, Nat.reduceAdd, reduceCtorEq, CCT, CCv, CCr, CCk, CCx, List.isEmpty_nil, Nat.reduceBNe, Nat.reduceBEq, Bool.or_false, Bool.false_or, Bool.or_true, Bool.true_or, Nat.reduceLeDiff, Nat.reduceLT, beqI, bneI, List.length_map, decide_true, decide_false, Int.reduceEq, Int.reduceLT, Int.reduceLE, Int.reduceGE, Int.reduceGT, not_true_eq_false, not_false_eq_true, Bool.and_true, Bool.true_and, Bool.and_false, Bool.false_and, and_true, true_and, and_self, Bool.not_not, u3, hf3]
    exact fin_c hid ⟨u1, r5, by simpa only [seenC, wst] using u2, by show (if id = id then _ else _) = _; rw [if_pos rfl]; simp only [encC, encS, encW, seenC, cF, wst, wx, wy, wn, wtells]⟩ (((hkn _ _).trans (hk.trans (hk2.trans hk3))).set _) rfl
  have w1' := eq_false w1
  rw [if_neg w1]
  simp only [go_sem, ↓reduceIte, Nat.reduceEqDiff, Nat.reduceAdd, reduceCtorEq, CCT, CCv, CCr, CCk, CCx, List.isEmpty_nil, Nat.reduceBNe, Nat.reduceBEq, Bool.or_false, Bool.false_or, Bool.or_true, Bool.true_or, Nat.reduceLeDiff, Nat.reduceLT, beqI, bneI, List.length_map, decide_true, decide_false, Int.reduceEq, Int.reduceLT, Int.reduceLE, Int.reduceGE, Int.reduceGT, not_true_eq_false, not_false_eq_true, Bool.and_true, Bool.true_and, Bool.and_false, Bool.false_and, and_true, true_and, and_self, Bool.not_not, g3, n1, w1', hhx2]
  refine W.call (want_c _ (hA1 _ _) _ 8) ?_
  rintro v s ⟨h1, hA, hk⟩
  obtain rfl : v = _ := h1
  have hf : s.obj σ.next = some (.cells 46 [encF (cF K c)]) := (hk.2 σ.next (Nat.lt_succ_self _) (Nat.ne_of_gt g1)).trans (if_pos rfl)
  have hf' := hf
  simp only [encF] at hf
  simp only [go_sem, ↓reduceIte, Nat.reduceEqDiff, Nat.reduceAdd, reduceCtorEq, CCT, CCv, CCr, CCk, CCx, List.isEmpty_nil, Nat.reduceBNe, Nat.reduceBEq, Bool.or_false, Bool.false_or, Bool.or_true, Bool.true_or, Nat.reduceLeDiff, Nat.reduceLT, beqI, bneI, List.length_map, decide_true, decide_false, Int.reduceEq, Int.reduceLT, Int.reduceLE, Int.reduceGE, Int.reduceGT, not_true_eq_false, not_false_eq_true, Bool.and_true, Bool.true_and, Bool.and_false, Bool.false_and, and_true, true_and, and_self, Bool.not_not, hf]
  refine W.call (want_c _ hA _ 7) ?_
  rintro v2 s2 ⟨h2, hA2, hk2⟩
  obtain rfl : v2 = _ := h2
  have hf2 : s2.obj σ.next = some (.cells 46 [encF (cF K c)]) := (hk2.2 σ.next (Nat.lt_of_lt_of_le (Nat.lt_succ_self _) hk.1) (Nat.ne_of_gt g1)).trans hf'
  obtain ⟨q1, r2, q2, q3⟩ := And.intro hA2.1 hA2.2
  have q3 : s2.obj id = _ := q3
  simp only [encC, wst, wx, wy, wn, wtells] at q3
  simp only [go_sem, ↓reduceIte, Nat.reduceEqDiff, Nat.reduceAdd, reduceCtorEq, CCT, CCv, CCr, CCk, CCx, List.isEmpty_nil, Nat.reduceBNe, Nat.reduceBEq, Bool.or_false, Bool.false_or, Bool.or_true, Bool.true_or, Nat.reduceLeDiff, Nat.reduceLT, beqI, bneI, List.length_map, decide_true, decide_false, Int.reduceEq, Int.reduceLT, Int.reduceLE, Int.reduceGE, Int.reduceGT, not_true_eq_false, not_false_eq_true, Bool.and_true, Bool.true_and, Bool.and_false, Bool.false_and, and_true, true_and, and_self, Bool.not_not, q3, hhy]
  refine W.br_ok (by kernel_rfl) ?_
  obtain ⟨b1, hb1⟩ : ∃ b, ownY c = b := ⟨_, rfl⟩
  obtain ⟨b2, hb2⟩ : ∃ b, decide (c.y.kind = 2) = b := ⟨_, rfl⟩
  obtain ⟨b3, hb3⟩ : ∃ b, decide (c.x.kind = 3) = b := ⟨_, rfl⟩
  obtain ⟨b4, hb4⟩ : ∃ b, decide (c.x.id = c.y.id) = b := ⟨_, rfl⟩
  unfold fitY
  rw [hb1, hb2, hb3, hb4]
  have hb1 : handS c.y [3] = b1 := hb1
  cases b1
  · cases b2
    all_goals
      try simp only [Bool.and_false, Bool.and_true, Bool.false_and, Bool.true_and, Bool.not_true, Bool.not_false, Bool.and_self, Bool.or_true, Bool.true_or, Bool.false_or, Bool.or_false, Bool.or_self, Bool.false_eq_true, if_false, if_true]
      simp only [go_sem, ↓reduceIte, Nat.reduceEqDiff, Nat.reduceAdd, reduceCtorEq, CCT, CCv, CCr, CCk, CCx, List.isEmpty_nil, Nat.reduceBNe, Nat.reduceBEq, Bool.or_false, Bool.false_or, Bool.or_true, Bool.true_or, Nat.reduceLeDiff, Nat.reduceLT, beqI, bneI, List.length_map, decide_true, decide_false, Int.reduceEq, Int.reduceLT, Int.reduceLE, Int.reduceGE, Int.reduceGT, not_true_eq_false, not_false_eq_true, Bool.and_true, Bool.true_and, Bool.and_false, Bool.false_and, and_true, true_and, and_self, Bool.not_not, q3, hb1, hb2]
      refine W.call (want_c _ hA2 _ 8) ?_
      rintro v3 s3 ⟨h3, hA3, hk3⟩
      obtain rfl : v3 = _ := h3
      have hf3 : s3.obj σ.next = some (.cells 46 [encF (cF K c)]) := (hk3.2 σ.next (Nat.lt_of_lt_of_le (Nat.lt_succ_self _) (Nat.le_trans hk.1 hk2.1)) (Nat.ne_of_gt g1)).trans hf2
      obtain ⟨u1, r5, u2, u3⟩ := And.intro hA3.1 hA3.2
      have u3 : s3.obj id = _ := u3
      simp only [encC, wst, wx, wy, wn, wtells] at u3
      have hf3' := hf3
      simp only [encF] at hf3
      simp only [go_sem, ↓reduceIte, Nat.reduceEqDiff, Nat.reduceAdd, reduceCtorEq, CCT, CCv, CCr, CCk, CCx, List.isEmpty_nil, Nat.reduceBNe, Nat.reduceBEq, Bool.or_false, Bool.false_or, Bool.or_true, Bool.true_or, Nat.reduceLeDiff, Nat.reduceLT, beqI, bneI, List.length_map, decide_true, decide_false, Int.reduceEq, Int.reduceLT, Int.reduceLE, Int.reduceGE, Int.reduceGT, not_true_eq_false, not_false_eq_true, Bool.and_true, Bool.true_and, Bool.and_false, Bool.false_and, and_true, true_and, and_self, Bool.not_not, u3, hf3]
      refine W.br_ok (by kernel_rfl) ?_
      simp only [go_sem, ↓reduceIte, Nat.reduceEqDiff, Nat.reduceAdd, reduceCtorEq, CCT, CCv, CCr, CCk, CCx, List.isEmpty_nil, Nat.reduceBNe, Nat.reduceBEq, Bool.or_false, Bool.false_or, Bool.or_true, Bool.true_or, Nat.reduceLeDiff, Nat.reduceLT, beqI, bneI, List.length_map, decide_true, decide_false, Int.reduceEq, Int.reduceLT, Int.reduceLE, Int.reduceGE, Int.reduceGT, not_true_eq_false, not_false_eq_true, Bool.and_true, Bool.true_and, Bool.and_false, Bool.false_and, and_true, true_and, and_self, Bool.not_not, u3, hf3, hb1]
      refine W.call (want_c _ hA3 _ 7) ?_
      rintro v4 s4 ⟨h4, hA4, hk4⟩
      obtain rfl : v4 = _ := h4
      have hf4 : s4.obj σ.next = some (.cells 46 [encF (cF K c)]) := (hk4.2 σ.next (Nat.lt_of_lt_of_le (Nat.lt_succ_self _) (Nat.le_trans hk.1 (Nat.le_trans hk2.1 hk3.1))) (Nat.ne_of_gt g1)).trans hf3'
      unfold thenS
      simp only [go_sem, ↓reduceIte, Nat.reduceEqDiff, Nat.reduceAdd, reduceCtorEq, CCT, CCv, CCr, CCk, CCx, List.isEmpty_nil, Nat.reduceBNe, Nat.reduceBEq, Bool.or_false, Bool.false_or, Bool.or_true, Bool.true_or, Nat.reduceLeDiff, Nat.reduceLT, beqI, bneI, List.length_map, decide_true, decide_false, Int.reduceEq, Int.reduceLT, Int.reduceLE, Int.reduceGE, Int.reduceGT, not_true_eq_false, not_false_eq_true, Bool.and_true, Bool.true_and, Bool.and_false, Bool.false_and, and_true, true_and, and_self, Bool.not_not, *]
      have hkk : Keeps σ s4 id := (hkn _ _).trans (hk.trans (hk2.trans (hk3.trans hk4)))
      refine W.br_split (fun hb => ?_) (fun hb => ?_)
      · rw [if_pos hb]
        have hf4' := hf4
        simp only [encF] at hf4
        simp only [go_sem, ↓reduceIte, Nat.reduceEqDiff, Nat.reduceAdd, reduceCtorEq, CCT, CCv, CCr, CCk, CCx, List.isEmpty_nil, Nat.reduceBNe, Nat.reduceBEq, Bool.or_false, Bool.false_or, Bool.or_true, Bool.true_or, Nat.reduceLeDiff, Nat.reduceLT, beqI, bneI, List.length_map, decide_true, decide_false, Int.reduceEq, Int.reduceLT, Int.reduceLE, Int.reduceGE, Int.reduceGT, not_true_eq_false, not_false_eq_true, Bool.and_true, Bool.true_and, Bool.and_false, Bool.false_and, and_true, true_and, and_self, Bool.not_not, hf4]
        refine W.call (own_c _ hA4 (by simp only [wst]; exact Nat.le_succ_of_le hc.2) (cF K c).type true) ?_
        rintro v5 s5 ⟨h5, hA5, hk5⟩
        obtain rfl : v5 = _ := h5
        simp only [go_sem, ↓reduceIte, Nat.reduceEqDiff, Nat.reduceAdd, reduceCtorEq, CCT, CCv, CCr, CCk, CCx, List.isEmpty_nil, Nat.reduceBNe, Nat.reduceBEq, Bool.or_false, Bool.false_or, Bool.or_true, Bool.true_or, Nat.reduceLeDiff, Nat.reduceLT, beqI, bneI, List.length_map, decide_true, decide_false, Int.reduceEq, Int.reduceLT, Int.reduceLE, Int.reduceGE, Int.reduceGT, not_true_eq_false, not_false_eq_true, Bool.and_true, Bool.true_and, Bool.and_false, Bool.false_and, and_true, true_and, and_self, Bool.not_not, *]
        exact fin_c hid hA5 (hkk.trans hk5) rfl
      · rw [if_neg (by rw [hb]; simp)]
        simp only [go_sem, ↓reduceIte, Nat.reduceEqDiff, Nat.reduceAdd, reduceCtorEq, CCT, CCv, CCr, CCk, CCx, List.isEmpty_nil, Nat.reduceBNe, Nat.reduceBEq, Bool.or_false, Bool.false_or, Bool.or_true, Bool.true_or, Nat.reduceLeDiff, Nat.reduceLT, beqI, bneI, List.length_map, decide_true, decide_false, Int.reduceEq, Int.reduceLT, Int.reduceLE, Int.reduceGE, Int.reduceGT, not_true_eq_false, not_false_eq_true, Bool.and_true, Bool.true_and, Bool.and_false, Bool.false_and, and_true, true_and, and_self, Bool.not_not, *]
        exact fin_c hid hA4 hkk rfl
  · cases b3 <;> cases b4
    all_goals
      try simp only [Bool.and_false, Bool.and_true, Bool.false_and, Bool.true_and, Bool.not_true, Bool.not_false, Bool.and_self, Bool.or_true, Bool.true_or, Bool.false_or, Bool.or_false, Bool.or_self, Bool.false_eq_true, if_false, if_true]
      simp only [go_sem, ↓reduceIte, Nat.reduceEqDiff, Nat.reduceAdd, reduceCtorEq, CCT, CCv, CCr, CCk, CCx, List.isEmpty_nil, Nat.reduceBNe, Nat.reduceBEq, Bool.or_false, Bool.false_or, Bool.or_true, Bool.true_or, Nat.reduceLeDiff, Nat.reduceLT, beqI, bneI, List.length_map, decide_true, decide_false, Int.reduceEq, Int.reduceLT, Int.reduceLE, Int.reduceGE, Int.reduceGT, not_true_eq_false, not_false_eq_true, Bool.and_true, Bool.true_and, Bool.and_false, Bool.false_and, and_true, true_and, and_self, Bool.not_not, q3, hb1, hb3, hb4]
      refine W.call (want_c _ hA2 _ 8) ?_
      rintro v3 s3 ⟨h3, hA3, hk3⟩
      obtain rfl : v3 = _ := h3
      have hf3 : s3.obj σ.next = some (.cells 46 [encF (cF K c)]) := (hk3.2 σ.next (Nat.lt_of_lt_of_le (Nat.lt_succ_self _) (Nat.le_trans hk.1 hk2.1)) (Nat.ne_of_gt g1)).trans hf2
      obtain ⟨u1, r5, u2, u3⟩ := And.intro hA3.1 hA3.2
      have u3 : s3.obj id = _ := u3
      simp only [encC, wst, wx, wy, wn, wtells] at u3
      have hf3' := hf3
      simp only [encF] at hf3
      simp only [go_sem, ↓reduceIte, Nat.reduceEqDiff, Nat.reduceAdd, reduceCtorEq, CCT, CCv, CCr, CCk, CCx, List.isEmpty_nil, Nat.reduceBNe, Nat.reduceBEq, Bool.or_false, Bool.false_or, Bool.or_true, Bool.true_or, Nat.reduceLeDiff, Nat.reduceLT, beqI, bneI, List.length_map, decide_true, decide_false, Int.reduceEq, Int.reduceLT, Int.reduceLE, Int.reduceGE, Int.reduceGT, not_true_eq_false, not_false_eq_true, Bool.and_true, Bool.true_and, Bool.and_false, Bool.false_and, and_true, true_and, and_self, Bool.not_not, u3, hf3]
      refine W.br_ok (by kernel_rfl) ?_
      simp only [go_sem, ↓reduceIte, Nat.reduceEqDiff, Nat.reduceAdd, reduceCtorEq, CCT, CCv, CCr, CCk, CCx, List.isEmpty_nil, Nat.reduceBNe, Nat.reduceBEq, Bool.or_false, Bool.false_or, Bool.or_true, Bool.true_or, Nat.reduceLeDiff, Nat.reduceLT, beqI, bneI, List.length_map, decide_true, decide_false, Int.reduceEq, Int.reduceLT, Int.reduceLE, Int.reduceGE, Int.reduceGT, not_true_eq_false, not_false_eq_true, Bool.and_true, Bool.true_and, Bool.and_false, Bool.false_and, and_true, true_and, and_self, Bool.not_not, u3, hf3, hb1]
      refine W.call (want_c _ hA3 _ 7) ?_
      rintro v4 s4 ⟨h4, hA4, hk4⟩
      obtain rfl : v4 = _ := h4
      have hf4 : s4.obj σ.next = some (.cells 46 [encF (cF K c)]) := (hk4.2 σ.next (Nat.lt_of_lt_of_le (Nat.lt_succ_self _) (Nat.le_trans hk.1 (Nat.le_trans hk2.1 hk3.1))) (Nat.ne_of_gt g1)).trans hf3'
      unfold thenS
      simp only [go_sem, ↓reduceIte, Nat.reduceEqDiff, Nat.reduceAdd, reduceCtorEq, CCT, CCv, CCr, CCk, CCx, List.isEmpty_nil, Nat.reduceBNe, Nat.reduceBEq, Bool.or_false, Bool.false_or, Bool.or_true, Bool.true_or, Nat.reduceLeDiff, Nat.reduceLT, beqI, bneI, List.length_map, decide_true, decide_false, Int.reduceEq, Int.reduceLT, Int.reduceLE, Int.reduceGE, Int.reduceGT, not_true_eq_false, not_false_eq_true, Bool.and_true, Bool.true_and, Bool.and_false, Bool.false_and, and_true, true_and, and_self, Bool.not_not, *]
      have hkk : Keeps σ s4 id := (hkn _ _).trans (hk.trans (hk2.trans (hk3.trans hk4)))
      refine W.br_split (fun hb => ?_) (fun hb => ?_)
      · rw [if_pos hb]
        obtain ⟨y1, r6, y2, y3⟩ := And.intro hA4.1 hA4.2
        have y3 : s4.obj id = _ := y3
        simp only [encC, wst, wx, wy, wn, wtells] at y3
        simp only [go_sem, ↓reduceIte, Nat.reduceEqDiff, Nat.reduceAdd, reduceCtorEq, CCT, CCv, CCr, CCk, CCx, List.isEmpty_nil, Nat.reduceBNe, Nat.reduceBEq, Bool.or_false, Bool.false_or, Bool.or_true, Bool.true_or, Nat.reduceLeDiff, Nat.reduceLT, beqI, bneI, List.length_map, decide_true, decide_false, Int.reduceEq, Int.reduceLT, Int.reduceLE, Int.reduceGE, Int.reduceGT, not_true_eq_false, not_false_eq_true, Bool.and_true, Bool.true_and, Bool.and_false, Bool.false_and, and_true, true_and, and_self, Bool.not_not, y3]
        refine W.call (spend_c _ hA4 ⟨by simp only [wst]; exact hc.1.1, by simp only [wst]; exact hc.1.2⟩ (by simp only [wst]; exact Nat.le_succ_of_le hc.2) c.y) ?_
        rintro v5 s5 ⟨h5, hA5, hk5⟩
        obtain rfl : v5 = _ := h5
        have hf5 : s5.obj σ.next = some (.cells 46 [encF (cF K c)]) := (hk5.2 σ.next (Nat.lt_of_lt_of_le (Nat.lt_succ_self _) (Nat.le_trans hk.1 (Nat.le_trans hk2.1 (Nat.le_trans hk3.1 hk4.1)))) (Nat.ne_of_gt g1)).trans hf4
        simp only [encF] at hf5
        simp only [go_sem, ↓reduceIte, Nat.reduceEqDiff, Nat.reduceAdd, reduceCtorEq, CCT, CCv, CCr, CCk, CCx, List.isEmpty_nil, Nat.reduceBNe, Nat.reduceBEq, Bool.or_false, Bool.false_or, Bool.or_true, Bool.true_or, Nat.reduceLeDiff, Nat.reduceLT, beqI, bneI, List.length_map, decide_true, decide_false, Int.reduceEq, Int.reduceLT, Int.reduceLE, Int.reduceGE, Int.reduceGT, not_true_eq_false, not_false_eq_true, Bool.and_true, Bool.true_and, Bool.and_false, Bool.false_and, and_true, true_and, and_self, Bool.not_not, hf5]
        refine W.call (own_c _ hA5 (by
          refine Nat.le_trans (List.length_filter_le _ _) ?_
          simp only [wst]; exact Nat.le_succ_of_le hc.2) (cF K c).type true) ?_
        rintro v6 s6 ⟨h6, hA6, hk6⟩
        obtain rfl : v6 = _ := h6
        simp only [go_sem, ↓reduceIte, Nat.reduceEqDiff, Nat.reduceAdd, reduceCtorEq, CCT, CCv, CCr, CCk, CCx, List.isEmpty_nil, Nat.reduceBNe, Nat.reduceBEq, Bool.or_false, Bool.false_or, Bool.or_true, Bool.true_or, Nat.reduceLeDiff, Nat.reduceLT, beqI, bneI, List.length_map, decide_true, decide_false, Int.reduceEq, Int.reduceLT, Int.reduceLE, Int.reduceGE, Int.reduceGT, not_true_eq_false, not_false_eq_true, Bool.and_true, Bool.true_and, Bool.and_false, Bool.false_and, and_true, true_and, and_self, Bool.not_not, *]
        exact fin_c hid hA6 (hkk.trans (hk5.trans hk6)) rfl
      · rw [if_neg (by rw [hb]; simp)]
        simp only [go_sem, ↓reduceIte, Nat.reduceEqDiff, Nat.reduceAdd, reduceCtorEq, CCT, CCv, CCr, CCk, CCx, List.isEmpty_nil, Nat.reduceBNe, Nat.reduceBEq, Bool.or_false, Bool.false_or, Bool.or_true, Bool.true_or, Nat.reduceLeDiff, Nat.reduceLT, beqI, bneI, List.length_map, decide_true, decide_false, Int.reduceEq, Int.reduceLT, Int.reduceLE, Int.reduceGE, Int.reduceGT, not_true_eq_false, not_false_eq_true, Bool.and_true, Bool.true_and, Bool.and_false, Bool.false_and, and_true, true_and, and_self, Bool.not_not, *]
        exact fin_c hid hA4 hkk rfl
end Go.Proofs.Ytdbpnkemlmagoaa.Va
