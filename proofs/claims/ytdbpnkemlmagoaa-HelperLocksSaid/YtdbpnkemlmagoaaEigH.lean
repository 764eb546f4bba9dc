/- chapter 18: locks and sections, trees, pointers -/
import Derived.Test.YtdbpnkemlmagoaaEigG
namespace Go.Proofs.Ytdbpnkemlmagoaa.Va
open Go
set_option linter.unusedVariables false
set_option linter.unusedSimpArgs false
set_option maxRecDepth 100000
/-- may the value be locked? -/
def lockF (l : List Typ) (t : Int) : Nat → Bool
  | 0 => false
  | n + 1 => lockF l t n || decide ((fldS l t n).kind = 7)
def setL (c : Cal) (x : Int) : Cal := { c with st := { c.st with lock := x } }
def setX (c : Cal) (b : Bool) : Cal := { c with st := { c.st with sec := b } }
def fgC (c : Cal) (k i : Int) : Cal := { c with st := fgS c.st k i }
def heldS (c : Cal) : Bool := handS c.x [5] && decide (c.st.lock = c.x.id) && !decide (c.st.lock = 0)
def regionS (K : Kx) (c : Cal) (what : Int) : Cal :=
  if what = 7 then setL (wantS (wantS (wantS c (handS c.x [5]) 8) (lockF K.l c.x.type 12) 7) (decide (c.st.lock = 0)) 9) c.x.id
  else if what = 8 then loosenS (setL (wantS c (heldS c) 9) 0)
  else if what = 21 then setX (wantS c (!c.st.sec) 9) true
  else fgC (fgC (setX (wantS c (c.st.sec && decide (c.st.lock = 0)) 9) false) 5 0) 6 0
theorem region_c (d : Nat) {K : Kx} {σ : St} {id : Nat} {c : Cal} (h : At K σ id c) (hc : COk c) (what : Int) :
    Sat (fun p => p.1 = .tup [] ∧ At K p.2 id (regionS K c what) ∧ Keeps σ p.2 id) (evalF Try.prog CC (d + 7) 17 [.ptr 58 id [0], .int .u8 what] σ) := by
  have hid := h.1
  have hh := fun d => hand1 d c.x 5
  simp only [encW] at hh
  obtain ⟨g1, r, g2, g3⟩ := And.intro h.1 h.2
  simp only [encC] at g3
  unfold regionS
  refine Sat.go ?_
  rw [run_17 _ _ _ (by simp)]; unfold Try.f17; simp only [Option.getD_some]
  simp only [go_sem, ↓reduceIte, Nat.reduceEqDiff, Nat.reduceAdd, reduceCtorEq, CCT, CCv, CCr, CCk, CCx, List.isEmpty_nil, Nat.reduceBNe, Nat.reduceBEq, Bool.or_false, Bool.false_or, Bool.or_true, Bool.true_or, Nat.reduceLeDiff, Nat.reduceLT, beqI, bneI, List.length_map, decide_true, decide_false, Int.reduceEq, Int.reduceLT, Int.reduceLE, Int.reduceGE, Int.reduceGT, not_true_eq_false, not_false_eq_true, Bool.and_true, Bool.true_and, Bool.and_false, Bool.false_and, and_true, true_and, and_self, Bool.not_not, *]
  by_cases w1 : what = 7
  · subst w1
    rw [if_pos rfl]
    simp only [go_sem, ↓reduceIte, Nat.reduceEqDiff, Nat.reduceAdd, reduceCtorEq, CCT, CCv, CCr, CCk, CCx, List.isEmpty_nil, Nat.reduceBNe, Nat.reduceBEq, Bool.or_false, Bool.false_or, Bool.or_true, Bool.true_or, Nat.reduceLeDiff, Nat.reduceLT, beqI, bneI, List.length_map, decide_true, decide_false, Int.reduceEq, Int.reduceLT, Int.reduceLE, Int.reduceGE, Int.reduceGT, not_true_eq_false, not_false_eq_true, Bool.and_true, Bool.true_and, Bool.and_false, Bool.false_and, and_true, true_and, and_self, Bool.not_not, g3, hh]
    refine W.call (want_c _ h _ 8) ?_
    rintro v s ⟨h1, hA, hk⟩
    obtain rfl : v = _ := h1
    obtain ⟨q1, r2, q2, q3⟩ := And.intro hA.1 hA.2
    obtain ⟨r3, hr3, hfz, _, _⟩ := q2.frz
    have q3 : s.obj id = _ := q3
    simp only [encC, wst, wx, wy, wn, wtells] at q3
    have hfd := fun d i => fld_c d K (wantS c (handS c.x [5]) 8) r3 c.x.type i
    simp only [encC, encS, encW, encF, wst, wx, wy, wn, wtells] at hfd
    simp only [go_sem, ↓reduceIte, Nat.reduceEqDiff, Nat.reduceAdd, reduceCtorEq, CCT, CCv, CCr, CCk, CCx, List.isEmpty_nil, Nat.reduceBNe, Nat.reduceBEq, Bool.or_false, Bool.false_or, Bool.or_true, Bool.true_or, Nat.reduceLeDiff, Nat.reduceLT, beqI, bneI, List.length_map, decide_true, decide_false, Int.reduceEq, Int.reduceLT, Int.reduceLE, Int.reduceGE, Int.reduceGT, not_true_eq_false, not_false_eq_true, Bool.and_true, Bool.true_and, Bool.and_false, Bool.false_and, and_true, true_and, and_self, Bool.not_not, *]
    refine W.iter_rule (fun j ρ s' => ρ 0 = .ptr 58 id [0] ∧ ρ 4 = .bool (lockF K.l c.x.type j) ∧ ρ 52 = .int .i64 j ∧ s' = s) 12 ?_ ?_ _ 0 _ _ (Nat.zero_le _) ?_ ?_
    · rintro j ρ s' hj ⟨h0, h4, h52, rfl⟩ K' hK hx hr
      have hlt : (j : Int) < 12 := by omega
      have hwrap : IntKind.i64.wrap ((j : Int) + 1) = ((j + 1 : Nat) : Int) := by rw [IntKind.wrap_i64]; omega
      have hlk : lockF K.l c.x.type (j + 1) = (lockF K.l c.x.type j || decide ((fldS K.l c.x.type j).kind = 7)) := rfl
      cases hb : lockF K.l c.x.type j
      · rw [hb, Bool.false_or] at hlk
        simp only [go_sem, ↓reduceIte, Nat.reduceEqDiff, Nat.reduceAdd, reduceCtorEq, CCT, CCv, CCr, CCk, CCx, List.isEmpty_nil, Nat.reduceBNe, Nat.reduceBEq, Bool.or_false, Bool.false_or, Bool.or_true, Bool.true_or, Nat.reduceLeDiff, Nat.reduceLT, beqI, bneI, List.length_map, decide_true, decide_false, Int.reduceEq, Int.reduceLT, Int.reduceLE, Int.reduceGE, Int.reduceGT, not_true_eq_false, not_false_eq_true, Bool.and_true, Bool.true_and, Bool.and_false, Bool.false_and, and_true, true_and, and_self, Bool.not_not, h0, h4, h52, hlt, hb, q3, hfz, frz_W, hfd, hwrap]
        refine hK _ _ ?_
        exact ⟨by (try simp only [go_sem, ↓reduceIte, Nat.reduceEqDiff, Nat.reduceAdd, reduceCtorEq, CCT, CCv, CCr, CCk, CCx, List.isEmpty_nil, Nat.reduceBNe, Nat.reduceBEq, Bool.or_false, Bool.false_or, Bool.or_true, Bool.true_or, Nat.reduceLeDiff, Nat.reduceLT, beqI, bneI, List.length_map, decide_true, decide_false, Int.reduceEq, Int.reduceLT, Int.reduceLE, Int.reduceGE, Int.reduceGT, not_true_eq_false, not_false_eq_true, Bool.and_true, Bool.true_and, Bool.and_false, Bool.false_and, and_true, true_and, and_self, Bool.not_not, Int.toNat_natCast, List.length_take, *]) <;> (first | done | rfl | omega | (simp; done) | (simp; omega)), by simp only [go_sem, ↓reduceIte, Nat.reduceEqDiff, Nat.reduceAdd, reduceCtorEq, CCT, CCv, CCr, CCk, CCx, List.isEmpty_nil, Nat.reduceBNe, Nat.reduceBEq, Bool.or_false, Bool.false_or, Bool.or_true, Bool.true_or, Nat.reduceLeDiff, Nat.reduceLT, beqI, bneI, List.length_map, decide_true, decide_false, Int.reduceEq, Int.reduceLT, Int.reduceLE, Int.reduceGE, Int.reduceGT, not_true_eq_false, not_false_eq_true, Bool.and_true, Bool.true_and, Bool.and_false, Bool.false_and, and_true, true_and, and_self, Bool.not_not, hlk], by (try simp only [go_sem, ↓reduceIte, Nat.reduceEqDiff, Nat.reduceAdd, reduceCtorEq, CCT, CCv, CCr, CCk, CCx, List.isEmpty_nil, Nat.reduceBNe, Nat.reduceBEq, Bool.or_false, Bool.false_or, Bool.or_true, Bool.true_or, Nat.reduceLeDiff, Nat.reduceLT, beqI, bneI, List.length_map, decide_true, decide_false, Int.reduceEq, Int.reduceLT, Int.reduceLE, Int.reduceGE, Int.reduceGT, not_true_eq_false, not_false_eq_true, Bool.and_true, Bool.true_and, Bool.and_false, Bool.false_and, and_true, true_and, and_self, Bool.not_not, Int.toNat_natCast, List.length_take, *]) <;> (first | done | rfl | omega | (simp; done) | (simp; omega)), rfl⟩
      · rw [hb, Bool.true_or] at hlk
        simp only [go_sem, ↓reduceIte, Nat.reduceEqDiff, Nat.reduceAdd, reduceCtorEq, CCT, CCv, CCr, CCk, CCx, List.isEmpty_nil, Nat.reduceBNe, Nat.reduceBEq, Bool.or_false, Bool.false_or, Bool.or_true, Bool.true_or, Nat.reduceLeDiff, Nat.reduceLT, beqI, bneI, List.length_map, decide_true, decide_false, Int.reduceEq, Int.reduceLT, Int.reduceLE, Int.reduceGE, Int.reduceGT, not_true_eq_false, not_false_eq_true, Bool.and_true, Bool.true_and, Bool.and_false, Bool.false_and, and_true, true_and, and_self, Bool.not_not, h0, h4, h52, hlt, hb, hwrap]
        refine hK _ _ ?_
        exact ⟨by (try simp only [go_sem, ↓reduceIte, Nat.reduceEqDiff, Nat.reduceAdd, reduceCtorEq, CCT, CCv, CCr, CCk, CCx, List.isEmpty_nil, Nat.reduceBNe, Nat.reduceBEq, Bool.or_false, Bool.false_or, Bool.or_true, Bool.true_or, Nat.reduceLeDiff, Nat.reduceLT, beqI, bneI, List.length_map, decide_true, decide_false, Int.reduceEq, Int.reduceLT, Int.reduceLE, Int.reduceGE, Int.reduceGT, not_true_eq_false, not_false_eq_true, Bool.and_true, Bool.true_and, Bool.and_false, Bool.false_and, and_true, true_and, and_self, Bool.not_not, Int.toNat_natCast, List.length_take, *]) <;> (first | done | rfl | omega | (simp; done) | (simp; omega)), by simp only [go_sem, ↓reduceIte, Nat.reduceEqDiff, Nat.reduceAdd, reduceCtorEq, CCT, CCv, CCr, CCk, CCx, List.isEmpty_nil, Nat.reduceBNe, Nat.reduceBEq, Bool.or_false, Bool.false_or, Bool.or_true, Bool.true_or, Nat.reduceLeDiff, Nat.reduceLT, beqI, bneI, List.length_map, decide_true, decide_false, Int.reduceEq, Int.reduceLT, Int.reduceLE, Int.reduceGE, Int.reduceGT, not_true_eq_false, not_false_eq_true, Bool.and_true, Bool.true_and, Bool.and_false, Bool.false_and, and_true, true_and, and_self, Bool.not_not, hlk], by (try simp only [go_sem, ↓reduceIte, Nat.reduceEqDiff, Nat.reduceAdd, reduceCtorEq, CCT, CCv, CCr, CCk, CCx, List.isEmpty_nil, Nat.reduceBNe, Nat.reduceBEq, Bool.or_false, Bool.false_or, Bool.or_true, Bool.true_or, Nat.reduceLeDiff, Nat.reduceLT, beqI, bneI, List.length_map, decide_true, decide_false, Int.reduceEq, Int.reduceLT, Int.reduceLE, Int.reduceGE, Int.reduceGT, not_true_eq_false, not_false_eq_true, Bool.and_true, Bool.true_and, Bool.and_false, Bool.false_and, and_true, true_and, and_self, Bool.not_not, Int.toNat_natCast, List.length_take, *]) <;> (first | done | rfl | omega | (simp; done) | (simp; omega)), rfl⟩
    · rintro ρ s' ⟨h0, h4, h52, rfl⟩ K' hx hr
      have hlt : ¬ ((12 : Nat) : Int) < 12 := by omega
      generalize lockF K.l c.x.type 12 = lk at h4 ⊢
      simp only [go_sem, ↓reduceIte, Nat.reduceEqDiff, Nat.reduceAdd, reduceCtorEq, CCT, CCv, CCr, CCk, CCx, List.isEmpty_nil, Nat.reduceBNe, Nat.reduceBEq, Bool.or_false, Bool.false_or, Bool.or_true, Bool.true_or, Nat.reduceLeDiff, Nat.reduceLT, beqI, bneI, List.length_map, decide_true, decide_false, Int.reduceEq, Int.reduceLT, Int.reduceLE, Int.reduceGE, Int.reduceGT, not_true_eq_false, not_false_eq_true, Bool.and_true, Bool.true_and, Bool.and_false, Bool.false_and, and_true, true_and, and_self, Bool.not_not, hx, h0, h4, h52, hlt]
      refine W.call (want_c _ hA _ 7) ?_
      rintro v2 s2 ⟨h2, hA2, hk2⟩
      obtain rfl : v2 = _ := h2
      obtain ⟨p1, r4, p2, p3⟩ := And.intro hA2.1 hA2.2
      have p3 : s2.obj id = _ := p3
      simp only [encC, wst, wx, wy, wn, wtells] at p3
      simp only [go_sem, ↓reduceIte, Nat.reduceEqDiff, Nat.reduceAdd, reduceCtorEq, CCT, CCv, CCr, CCk, CCx, List.isEmpty_nil, Nat.reduceBNe, Nat.reduceBEq, Bool.or_false, Bool.false_or, Bool.or_true, Bool.true_or, Nat.reduceLeDiff, Nat.reduceLT, beqI, bneI, List.length_map, decide_true, decide_false, Int.reduceEq, Int.reduceLT, Int.reduceLE, Int.reduceGE, Int.reduceGT, not_true_eq_false, not_false_eq_true, Bool.and_true, Bool.true_and, Bool.and_false, Bool.false_and, and_true, true_and, and_self, Bool.not_not, p3, h0]
      refine W.call (want_c _ hA2 _ 9) ?_
      rintro v3 s3 ⟨h3, hA3, hk3⟩
      obtain rfl : v3 = _ := h3
      obtain ⟨u1, r5, u2, u3⟩ := And.intro hA3.1 hA3.2
      have u3 : s3.obj id = _ := u3
      simp only [encC, wst, wx, wy, wn, wtells] at u3
      simp only [go_sem, ↓reduceIte, Nat.reduceEqDiff, Nat.reduceAdd, reduceCtorEq, CCT, CCv, CCr, CCk, CCx, List.isEmpty_nil, Nat.reduceBNe, Nat.reduceBEq, Bool.or_false, Bool.false_or, Bool.or_true, Bool.true_or, Nat.reduceLeDiff, Nat.reduceLT, beqI, bneI, List.length_map, decide_true, decide_false, Int.reduceEq, Int.reduceLT, Int.reduceLE, Int.reduceGE, Int.reduceGT, not_true_eq_false, not_false_eq_true, Bool.and_true, Bool.true_and, Bool.and_false, Bool.false_and, and_true, true_and, and_self, Bool.not_not, u3, h0]
      exact fin_c hid ⟨u1, r5, by simpa only [setL, setX, wst] using u2, (by show (if id = id then _ else _) = _; rw [if_pos rfl]; simp only [encC, encS, encW, setL, setX, fgC, wst, wx, wy, wn, wtells])⟩ ((hk.trans (hk2.trans hk3)).set _) rfl
    · show 12 < 0 + 9223372036854775900
      omega
    · exact ⟨by (try simp only [go_sem, ↓reduceIte, Nat.reduceEqDiff, Nat.reduceAdd, reduceCtorEq, CCT, CCv, CCr, CCk, CCx, List.isEmpty_nil, Nat.reduceBNe, Nat.reduceBEq, Bool.or_false, Bool.false_or, Bool.or_true, Bool.true_or, Nat.reduceLeDiff, Nat.reduceLT, beqI, bneI, List.length_map, decide_true, decide_false, Int.reduceEq, Int.reduceLT, Int.reduceLE, Int.reduceGE, Int.reduceGT, not_true_eq_false, not_false_eq_true, Bool.and_true, Bool.true_and, Bool.and_false, Bool.false_and, and_true, true_and, and_self, Bool.not_not, Int.toNat_natCast, List.length_take, *]) <;> (first | done | rfl | omega | (simp; done) | (simp; omega)), by (try simp only [go_sem, ↓reduceIte, Nat.reduceEqDiff, Nat.reduceAdd, reduceCtorEq, CCT, CCv, CCr, CCk, CCx, List.isEmpty_nil, Nat.reduceBNe, Nat.reduceBEq, Bool.or_false, Bool.false_or, Bool.or_true, Bool.true_or, Nat.reduceLeDiff, Nat.reduceLT, beqI, bneI, List.length_map, decide_true, decide_false, Int.reduceEq, Int.reduceLT, Int.reduceLE, Int.reduceGE, Int.reduceGT, not_true_eq_false, not_false_eq_true, Bool.and_true, Bool.true_and, Bool.and_false, Bool.false_and, and_true, true_and, and_self, Bool.not_not, Int.toNat_natCast, List.length_take, *]) <;> (first | done | rfl | omega | (simp; done) | (simp; omega)), by (try simp only [go_sem, ↓reduceIte, Nat.reduceEqDiff, Nat.reduceAdd, reduceCtorEq, CCT, CCv, CCr, CCk, CCx, List.isEmpty_nil, Nat.reduceBNe, Nat.reduceBEq, Bool.or_false, Bool.false_or, Bool.or_true, Bool.true_or, Nat.reduceLeDiff, Nat.reduceLT, beqI, bneI, List.length_map, decide_true, decide_false, Int.reduceEq, Int.reduceLT, Int.reduceLE, Int.reduceGE, Int.reduceGT, not_true_eq_false, not_false_eq_true, Bool.and_true, Bool.true_and, Bool.and_false, Bool.false_and, and_true, true_and, and_self, Bool.not_not, Int.toNat_natCast, List.length_take, *]) <;> (first | done | rfl | omega | (simp; done) | (simp; omega)), rfl⟩
  rw [if_neg w1]
  have w1' := eq_false w1
  by_cases w2 : what = 8
  · subst w2
    rw [if_pos rfl]
    unfold heldS
    obtain ⟨b1, hb1⟩ : ∃ b, handS c.x [5] = b := ⟨_, rfl⟩
    obtain ⟨b2, hb2⟩ : ∃ b, decide (c.st.lock = c.x.id) = b := ⟨_, rfl⟩
    obtain ⟨b3, hb3⟩ : ∃ b, decide (c.st.lock = 0) = b := ⟨_, rfl⟩
    rw [hb1, hb2, hb3]
    cases b1 <;> cases b2 <;> cases b3
    all_goals
      try simp only [Bool.and_false, Bool.and_true, Bool.false_and, Bool.true_and, Bool.not_true, Bool.not_false, Bool.and_self]
      simp only [go_sem, ↓reduceIte, Nat.reduceEqDiff, Nat.reduceAdd, reduceCtorEq, CCT, CCv, CCr, CCk, CCx, List.isEmpty_nil, Nat.reduceBNe, Nat.reduceBEq, Bool.or_false, Bool.false_or, Bool.or_true, Bool.true_or, Nat.reduceLeDiff, Nat.reduceLT, beqI, bneI, List.length_map, decide_true, decide_false, Int.reduceEq, Int.reduceLT, Int.reduceLE, Int.reduceGE, Int.reduceGT, not_true_eq_false, not_false_eq_true, Bool.and_true, Bool.true_and, Bool.and_false, Bool.false_and, and_true, true_and, and_self, Bool.not_not, g3, w1']
      refine W.br_ok (by kernel_rfl) ?_
      simp only [go_sem, ↓reduceIte, Nat.reduceEqDiff, Nat.reduceAdd, reduceCtorEq, CCT, CCv, CCr, CCk, CCx, List.isEmpty_nil, Nat.reduceBNe, Nat.reduceBEq, Bool.or_false, Bool.false_or, Bool.or_true, Bool.true_or, Nat.reduceLeDiff, Nat.reduceLT, beqI, bneI, List.length_map, decide_true, decide_false, Int.reduceEq, Int.reduceLT, Int.reduceLE, Int.reduceGE, Int.reduceGT, not_true_eq_false, not_false_eq_true, Bool.and_true, Bool.true_and, Bool.and_false, Bool.false_and, and_true, true_and, and_self, Bool.not_not, g3, hh, hb1, hb2, hb3]
      refine W.call (want_c _ h _ 9) ?_
      rintro v s ⟨h1, hA, hk⟩
      obtain rfl : v = _ := h1
      generalize hcc : wantS c _ 9 = cc at hA ⊢
      have e1 : cc.st = c.st := by rw [← hcc, wst]
      have e2 : cc.x = c.x := by rw [← hcc, wx]
      have e3 : cc.y = c.y := by rw [← hcc, wy]
      have e4 : cc.n = c.n := by rw [← hcc, wn]
      have e5 : cc.tells = c.tells := by rw [← hcc, wtells]
      obtain ⟨q1, r2, q2, q3⟩ := And.intro hA.1 hA.2
      have q3 : s.obj id = _ := q3
      simp only [encC, e1, e2, e3, e4, e5] at q3
      simp only [go_sem, ↓reduceIte, Nat.reduceEqDiff, Nat.reduceAdd, reduceCtorEq, CCT, CCv, CCr, CCk, CCx, List.isEmpty_nil, Nat.reduceBNe, Nat.reduceBEq, Bool.or_false, Bool.false_or, Bool.or_true, Bool.true_or, Nat.reduceLeDiff, Nat.reduceLT, beqI, bneI, List.length_map, decide_true, decide_false, Int.reduceEq, Int.reduceLT, Int.reduceLE, Int.reduceGE, Int.reduceGT, not_true_eq_false, not_false_eq_true, Bool.and_true, Bool.true_and, Bool.and_false, Bool.false_and, and_true, true_and, and_self, Bool.not_not, q3]
      refine W.call (loosen_c _ (K := K) (id := id) (c := setL cc 0) ⟨q1, r2, q2, by show (if id = id then _ else _) = _; rw [if_pos rfl]; simp only [encC, encS, encW, setL, e1, e2, e3, e4, e5]⟩ ⟨by show cc.st.regs.length = 10; rw [e1]; exact hc.1.1, by show cc.st.slots.length = 8; rw [e1]; exact hc.1.2⟩) ?_
      rintro v2 s2 ⟨h2, hA2, hk2⟩
      obtain rfl : v2 = _ := h2
      simp only [go_sem, ↓reduceIte, Nat.reduceEqDiff, Nat.reduceAdd, reduceCtorEq, CCT, CCv, CCr, CCk, CCx, List.isEmpty_nil, Nat.reduceBNe, Nat.reduceBEq, Bool.or_false, Bool.false_or, Bool.or_true, Bool.true_or, Nat.reduceLeDiff, Nat.reduceLT, beqI, bneI, List.length_map, decide_true, decide_false, Int.reduceEq, Int.reduceLT, Int.reduceLE, Int.reduceGE, Int.reduceGT, not_true_eq_false, not_false_eq_true, Bool.and_true, Bool.true_and, Bool.and_false, Bool.false_and, and_true, true_and, and_self, Bool.not_not, *]
      exact fin_c hid hA2 ((hk.set _).trans hk2) rfl
  rw [if_neg w2]
  have w2' := eq_false w2
  by_cases w3 : what = 21
  · subst w3
    rw [if_pos rfl]
    simp only [go_sem, ↓reduceIte, Nat.reduceEqDiff, Nat.reduceAdd, reduceCtorEq, CCT, CCv, CCr, CCk, CCx, List.isEmpty_nil, Nat.reduceBNe, Nat.reduceBEq, Bool.or_false, Bool.false_or, Bool.or_true, Bool.true_or, Nat.reduceLeDiff, Nat.reduceLT, beqI, bneI, List.length_map, decide_true, decide_false, Int.reduceEq, Int.reduceLT, Int.reduceLE, Int.reduceGE, Int.reduceGT, not_true_eq_false, not_false_eq_true, Bool.and_true, Bool.true_and, Bool.and_false, Bool.false_and, and_true, true_and, and_self, Bool.not_not, g3, w1', w2']
    refine W.call (want_c _ h _ 9) ?_
    rintro v s ⟨h1, hA, hk⟩
    obtain rfl : v = _ := h1
    obtain ⟨q1, r2, q2, q3⟩ := And.intro hA.1 hA.2
    simp only [encC, wst, wx, wy, wn, wtells] at q3
    simp only [go_sem, ↓reduceIte, Nat.reduceEqDiff, Nat.reduceAdd, reduceCtorEq, CCT, CCv, CCr, CCk, CCx, List.isEmpty_nil, Nat.reduceBNe, Nat.reduceBEq, Bool.or_false, Bool.false_or, Bool.or_true, Bool.true_or, Nat.reduceLeDiff, Nat.reduceLT, beqI, bneI, List.length_map, decide_true, decide_false, Int.reduceEq, Int.reduceLT, Int.reduceLE, Int.reduceGE, Int.reduceGT, not_true_eq_false, not_false_eq_true, Bool.and_true, Bool.true_and, Bool.and_false, Bool.false_and, and_true, true_and, and_self, Bool.not_not, q3]
    exact fin_c hid ⟨q1, r2, by simpa only [setL, setX, wst] using q2, (by show (if id = id then _ else _) = _; rw [if_pos rfl]; simp only [encC, encS, encW, setL, setX, fgC, wst, wx, wy, wn, wtells])⟩ (hk.set _) rfl
  rw [if_neg w3]
  have w3' := eq_false w3
  obtain ⟨b1, hb1⟩ : ∃ b, c.st.sec = b := ⟨_, rfl⟩
  obtain ⟨b2, hb2⟩ : ∃ b, decide (c.st.lock = 0) = b := ⟨_, rfl⟩
  rw [hb1, hb2]
  cases b1 <;> cases b2
  all_goals
    try simp only [Bool.and_false, Bool.and_true, Bool.false_and, Bool.true_and, Bool.not_true, Bool.not_false, Bool.and_self]
    simp only [go_sem, ↓reduceIte, Nat.reduceEqDiff, Nat.reduceAdd, reduceCtorEq, CCT, CCv, CCr, CCk, CCx, List.isEmpty_nil, Nat.reduceBNe, Nat.reduceBEq, Bool.or_false, Bool.false_or, Bool.or_true, Bool.true_or, Nat.reduceLeDiff, Nat.reduceLT, beqI, bneI, List.length_map, decide_true, decide_false, Int.reduceEq, Int.reduceLT, Int.reduceLE, Int.reduceGE, Int.reduceGT, not_true_eq_false, not_false_eq_true, Bool.and_true, Bool.true_and, Bool.and_false, Bool.false_and, and_true, true_and, and_self, Bool.not_not, g3, w1', w2', w3', hb1, hb2]
    refine W.call (want_c _ h _ 9) ?_
    rintro v s ⟨h1, hA, hk⟩
    obtain rfl : v = _ := h1
    obtain ⟨q1, r2, q2, q3⟩ := And.intro hA.1 hA.2
    simp only [encC, wst, wx, wy, wn, wtells] at q3
    obtain ⟨r3, hr3, hfz, hst, hvi⟩ := q2.frz
    have hrp : RefP (strip r3) c.st.refs := by have := hr3.strip; simpa only [wst] using this
    have hstp : strip (strip r3) = strip r3 := by
      rcases hrp with ⟨_, b, h⟩ | ⟨b, h, _⟩ <;> rw [h] <;> simp only [strip]
    have hfp := fun σ => hrp.fz σ
    have hF1 := fun d => Forget_c d { c.st with sec := false } (strip r3) hrp ⟨hc.1.1, hc.1.2⟩ 5 0
    have hF2 := fun d => Forget_c d (fgS { c.st with sec := false } 5 0) (strip r3) hrp ⟨by simp [fgS, hc.1.1], by simp [fgS, hc.1.2]⟩ 6 0
    simp only [go_sem, ↓reduceIte, Nat.reduceEqDiff, Nat.reduceAdd, reduceCtorEq, CCT, CCv, CCr, CCk, CCx, List.isEmpty_nil, Nat.reduceBNe, Nat.reduceBEq, Bool.or_false, Bool.false_or, Bool.or_true, Bool.true_or, Nat.reduceLeDiff, Nat.reduceLT, beqI, bneI, List.length_map, decide_true, decide_false, Int.reduceEq, Int.reduceLT, Int.reduceLE, Int.reduceGE, Int.reduceGT, not_true_eq_false, not_false_eq_true, Bool.and_true, Bool.true_and, Bool.and_false, Bool.false_and, and_true, true_and, and_self, Bool.not_not, q3, frz_W, hfz, strip_W, view_W, hvi, List.append_nil]
    refine call_state (l := []) (hF1 _) (encS_pure hrp) (by first | rfl | simp [view_W, hvi, viewIdsL, viewIds]) ?_
    intro σ' hn hoj
    have hoj := fun j => hoj j (by simp)
    have ho' := (hoj id).trans (if_pos rfl)
    have hvi2 : viewIds (strip r3) = [] := by
      rcases hrp with ⟨_, b, h⟩ | ⟨b, h, _⟩ <;> rw [h] <;> simp only [viewIds]
    simp only [go_sem, ↓reduceIte, Nat.reduceEqDiff, Nat.reduceAdd, reduceCtorEq, CCT, CCv, CCr, CCk, CCx, List.isEmpty_nil, Nat.reduceBNe, Nat.reduceBEq, Bool.or_false, Bool.false_or, Bool.or_true, Bool.true_or, Nat.reduceLeDiff, Nat.reduceLT, beqI, bneI, List.length_map, decide_true, decide_false, Int.reduceEq, Int.reduceLT, Int.reduceLE, Int.reduceGE, Int.reduceGT, not_true_eq_false, not_false_eq_true, Bool.and_true, Bool.true_and, Bool.and_false, Bool.false_and, and_true, true_and, and_self, Bool.not_not, ho', frz_W, hfp, strip_W, hstp, view_W, hvi2, List.append_nil]
    refine call_state (l := []) (hF2 _) (encS_pure hrp) (by first | rfl | simp [view_W, hvi2, viewIdsL, viewIds]) ?_
    intro σ2 hn2 hoj2
    have hoj2 := fun j => hoj2 j (by simp)
    have ho2 := (hoj2 id).trans (if_pos rfl)
    have hn' : σ'.next = s.next := hn
    have hn2' : σ2.next = s.next := hn2.trans hn'
    simp only [go_sem, ↓reduceIte, Nat.reduceEqDiff, Nat.reduceAdd, reduceCtorEq, CCT, CCv, CCr, CCk, CCx, List.isEmpty_nil, Nat.reduceBNe, Nat.reduceBEq, Bool.or_false, Bool.false_or, Bool.or_true, Bool.true_or, Nat.reduceLeDiff, Nat.reduceLT, beqI, bneI, List.length_map, decide_true, decide_false, Int.reduceEq, Int.reduceLT, Int.reduceLE, Int.reduceGE, Int.reduceGT, not_true_eq_false, not_false_eq_true, Bool.and_true, Bool.true_and, Bool.and_false, Bool.false_and, and_true, true_and, and_self, Bool.not_not, ho2]
    have hk1 : Keeps σ σ' id := (hk.set _).congr hn' (fun j _ _ => hoj j)
    have hk2 : Keeps σ σ2 id := (hk1.set _).congr (hn2'.trans hn'.symm) (fun j _ _ => hoj2 j)
    exact fin_c hid ⟨by show id < σ2.next; rw [hn2']; exact q1, strip r3, by simpa only [fgC, setX, fgS, wst] using hrp.refA, by show (if id = id then _ else _) = _; rw [if_pos rfl]; simp only [encC, encS, encW, setL, setX, fgC, fgS, wst, wx, wy, wn, wtells]⟩ (hk2.set _) rfl
end Go.Proofs.Ytdbpnkemlmagoaa.Va
