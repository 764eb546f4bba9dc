/- chapter 18: Call -/
import Derived.Test.YtdbpnkemlmagoaaEigI
import Derived.Test.YtdbpnkemlmagoaaVaCu
namespace Go.Proofs.Ytdbpnkemlmagoaa.Va
open Go
set_option linter.unusedVariables false
set_option linter.unusedSimpArgs false
set_option maxRecDepth 100000
def zeroW : Wht := ⟨1, 0, 0, 0, false, 0, 0⟩
def begC (s : Sta) (n : Int) : Cal := ⟨s, at0 s.regs 1, at0 s.regs 2, n, zeroW, 0⟩
def doneS (K : Kx) (s : Sta) (what n : Int) : Cal :=
  if what = 1 ∨ what = 2 ∨ what = 3 then objectS K (begC s n) what
  else if what = 4 ∨ what = 5 ∨ what = 6 then tableS K (begC s n) what
  else if what = 7 ∨ what = 8 ∨ what = 21 ∨ what = 22 then regionS K (begC s n) what
  else if what = 9 ∨ what = 10 ∨ what = 11 ∨ what = 12 ∨ what = 13 then listS K (begC s n) what
  else if what = 14 ∨ what = 15 ∨ what = 16 ∨ what = 17 ∨ what = 18 then treeS K (begC s n) what
  else if what = 19 ∨ what = 20 then pointerS K (begC s n) what
  else { begC s n with err := 1 }
def clr (k : Nat) (l : List Wht) : List Wht := l.take 1 ++ (List.replicate k junk ++ l.drop (k + 1))
def endS (c : Cal) : Sta := { c.st with regs := c.tells :: (List.replicate 5 junk ++ c.st.regs.drop 6) }
def noS : Sta := ⟨List.replicate 10 junk, List.replicate 8 junk, [], 0, false, 0⟩
def callS (K : Kx) (s : Sta) (what n : Int) : Sta × Int := if (doneS K s what n).err = 0 then (endS (doneS K s what n), 0) else (noS, (doneS K s what n).err)
theorem Of_c (d : Nat) : evalF Try.prog CC (d + 1) 14 [.int .u64 0] St.empty = some (.agg 26 [.int .u64 0, .int .u64 0], St.empty) := by
  show evalF Try.prog CC (d + 1) 14 [.int .u64 0] St.empty = _
  kernel_rfl
theorem ix_reg (id : Nat) (p : List Nat) (i : Nat) (h : i < 10) : aIndexAddr T 29 (.ptr 29 id p) (.int .i64 (i : Int)) = some (.ptr 28 id (p ++ [i])) := by
  simp only [aIndexAddr, ty_29]
  rw [if_pos ⟨by simp [Tab.same], by omega, by omega⟩]
  rw [Int.toNat_natCast]
theorem clr_set (k : Nat) {l : List Wht} (h : k + 1 < l.length) : (clr k l).set (k + 1) junk = clr (k + 1) l := by
  have h1 : (l.take 1).length = 1 := by rw [List.length_take]; omega
  unfold clr
  rw [List.set_append_right _ _ (by omega), h1, Nat.add_sub_cancel, List.set_append_right _ _ (by simp), List.length_replicate, Nat.sub_self, List.drop_eq_getElem_cons (by omega), List.set_cons_zero, List.replicate_succ', List.append_assoc]
  rfl
theorem clr_len (k : Nat) {l : List Wht} (h : k + 1 ≤ l.length) : (clr k l).length = l.length := by
  unfold clr
  simp only [List.length_append, List.length_take, List.length_replicate, List.length_drop]
  omega
theorem clr0 (l : List Wht) : clr 0 l = l := by cases l <;> simp [clr]
theorem set_ne (σ : St) {i j : Nat} (o : AObj) (h : j ≠ i) : (σ.set i o).obj j = σ.obj j := if_neg h
theorem set_obj (σ : St) (i : Nat) (o : AObj) : (σ.set i o).obj i = some o := if_pos rfl
theorem clr5 {l : List Wht} (h : l.length = 10) (w : Wht) : (clr 5 l).set 0 w = w :: (List.replicate 5 junk ++ l.drop 6) := by
  match l, h with
  | a :: l, _ => rfl
theorem frz_pure {r r' : AV} {xs : List Int} (h : RefA r xs) (hf : ∀ σ, freeze σ r = some r') : pure1 r' = true := by
  have hf := hf St.empty
  rcases h with ⟨_, b, rfl⟩ | ⟨b, tok, rfl, _⟩
  · simp only [freeze, Option.some.injEq] at hf; subst hf; simp only [pure1]
  · simp only [freeze, Option.some.injEq] at hf; subst hf
    simp only [pure1]
    split
    · assumption
    · rfl
theorem fgS_ok {s : Sta} (h : SOk s) (k i : Int) : SOk (fgS s k i) := h.fg k i
theorem want_ok {c : Cal} (h : SOk c.st) (b : Bool) (e : Int) : SOk (wantS c b e).st := by rw [wst]; exact h
theorem lock_ok {K : Kx} {c : Cal} (h : SOk c.st) (k : Int) : SOk (lockS K c k).st := by rw [lkst]; exact h
theorem then_ok {c : Cal} {f : Cal → Cal} (h : SOk c.st) (hf : ∀ c, SOk c.st → SOk (f c).st) : SOk (thenS c f).st := by
  unfold thenS
  split
  · exact hf c h
  · exact h
theorem own_ok {c : Cal} (h : SOk c.st) (t : Int) (m : Bool) : SOk (ownS c t m).st := ⟨h.1, h.2⟩
theorem spend_ok {c : Cal} (h : SOk c.st) (w : Wht) : SOk (spendS c w).st := (show SOk { c.st with refs := no w.id c.st.refs } from ⟨h.1, h.2⟩).fg _ _
theorem loosen_ok {c : Cal} (h : SOk c.st) : SOk (loosenS c).st := h.fg _ _
theorem into_ok {K : Kx} {c : Cal} (h : SOk c.st) (k : Int) : SOk (intoS K c k).st := then_ok (want_ok (want_ok (lock_ok h k) _ _) _ _) fun c hc => spend_ok hc _
theorem done_ok (K : Kx) {s : Sta} (h : SOk s) (what n : Int) : SOk (doneS K s what n).st := by
  have hb : SOk (begC s n).st := h
  unfold doneS
  generalize begC s n = c at hb ⊢
  split
  · unfold objectS
    split
    · exact then_ok (want_ok hb _ _) fun c hc => own_ok hc _ _
    split
    · exact then_ok (want_ok hb _ _) fun c hc => spend_ok hc _
    · exact then_ok (want_ok (want_ok hb _ _) _ _) fun c hc => own_ok hc _ _
  split
  · unfold tableS
    simp only
    split
    · split
      · exact then_ok (want_ok (want_ok (want_ok hb _ _) _ _) _ _) fun c hc => ⟨hc.1, hc.2⟩
      · exact want_ok (want_ok hb _ _) _ _
    · exact want_ok hb _ _
  split
  · unfold regionS
    split
    · have := want_ok (want_ok (want_ok hb (handS c.x [5]) 8) (lockF K.l c.x.type 12) 7) (decide (c.st.lock = 0)) 9
      exact ⟨this.1, this.2⟩
    split
    · have := want_ok hb (heldS c) 9
      exact (show SOk (setL (wantS c (heldS c) 9) 0).st from ⟨this.1, this.2⟩).fg _ _
    split
    · have := want_ok hb (!c.st.sec) 9
      exact ⟨this.1, this.2⟩
    · have := want_ok hb (c.st.sec && decide (c.st.lock = 0)) 9
      exact ((show SOk (setX (wantS c (c.st.sec && decide (c.st.lock = 0)) 9) false).st from ⟨this.1, this.2⟩).fg _ _).fg _ _
  split
  · unfold listS
    split
    · exact into_ok hb _
    split
    · exact lock_ok hb _
    · exact own_ok (loosen_ok (lock_ok hb _)) _ _
  split
  · unfold treeS
    split
    · exact into_ok hb _
    split
    · exact lock_ok hb _
    split
    · exact then_ok (want_ok (lock_ok hb _) _ _) fun c hc => own_ok (loosen_ok hc) _ _
    · exact want_ok (want_ok (want_ok hb _ _) _ _) _ _
  split
  · unfold pointerS
    split
    · exact want_ok (want_ok (want_ok hb _ _) _ _) _ _
    · exact then_ok (want_ok (want_ok (want_ok (want_ok hb _ _) _ _) _ _) _ _) fun c hc => own_ok (by split; exact spend_ok hc _; exact hc) _ _
  · exact hb
set_option maxHeartbeats 8000000 in
theorem call_tail (d : Nat) (K : Kx) (c1 : Cal) (r2 : AV) (q2 : RefA r2 c1.st.refs) (hok : SOk c1.st) (ρ : Env) (s2 : St) (h10 : ρ 10 = .ptr 33 1 [0]) (h12 : ρ 12 = .ptr 58 2 [0]) (q3 : s2.obj 2 = some (.cells 58 [encC K c1 r2])) (o1 : s2.obj 1 = some (.cells 33 [.agg 33 [.agg 29 ((List.replicate 10 junk).map encW), .agg 30 ((List.replicate 8 junk).map encW), .mt true, .int .i64 0, .bool false, .int .i64 0]])) {X : Sta × Int} (hX : (if c1.err = 0 then (endS c1, 0) else (noS, c1.err)) = X) :
    Wp (fun x => ∃ r', RefA r' X.1.refs ∧ pure1 r' = true ∧ x = some ((AV.tup [encS X.1 r', AV.int .i64 X.2], St.empty) : AV × St)) (evalCode CC (evalF Try.prog CC d) 9 (tl 3 (Try.f9.body.getD .skip)) ρ s2 (retK CC 9 Try.f9 St.empty)) := by
  subst hX
  obtain ⟨ρ0, rfl⟩ : ∃ ρ0, ρ = upd (upd ρ0 10 (.ptr 33 1 [0])) 12 (.ptr 58 2 [0]) := ⟨ρ, by
    funext i
    by_cases h1 : i = 12
    · subst h1; simp [upd, h12]
    · by_cases h2 : i = 10
      · subst h2; simp [upd, h10]
      · simp [upd, h1, h2]⟩
  clear h10 h12
  have q3' := q3
  simp only [encC] at q3
  unfold Try.f9
  simp only [Option.getD_some, tl]
  by_cases he : c1.err = 0
  · rw [if_pos he]
    simp only [go_sem, ↓reduceIte, Nat.reduceEqDiff, Nat.reduceAdd, reduceCtorEq, CCT, CCv, CCr, CCk, CCx, List.isEmpty_nil, Nat.reduceBNe, Nat.reduceBEq, Bool.or_false, Bool.false_or, Bool.or_true, Bool.true_or, Nat.reduceLeDiff, Nat.reduceLT, beqI, bneI, List.length_map, decide_true, decide_false, Int.reduceEq, Int.reduceLT, Int.reduceLE, Int.reduceGE, Int.reduceGT, not_true_eq_false, not_false_eq_true, Bool.and_true, Bool.true_and, Bool.and_false, Bool.false_and, and_true, true_and, and_self, Bool.not_not, q3, he]
    obtain ⟨r3, hr3, hfz, hst, hvi⟩ := q2.frz
    refine W.iter_rule (fun j ρ s' => ρ 10 = .ptr 33 1 [0] ∧ ρ 12 = .ptr 58 2 [0] ∧ ρ 13 = .int .i64 ((j + 1 : Nat) : Int) ∧ s'.obj 2 = some (.cells 58 [encC K { c1 with st := { c1.st with regs := clr j c1.st.regs } } r2]) ∧ s'.obj 1 = s2.obj 1) 5 ?_ ?_ _ 0 _ _ (Nat.zero_le _) ?_ ?_
    · rintro j ρ s' hj ⟨h10, h12, h13, h2, h1⟩ K' hK hx hr
      have hlt : ((j + 1 : Nat) : Int) ≤ 5 := by omega
      have hwrap : IntKind.i64.wrap (((j + 1 : Nat) : Int) + 1) = ((j + 1 + 1 : Nat) : Int) := by rw [IntKind.wrap_i64]; omega
      have hix := ix_reg 2 [0, 2, 0] (j + 1) (by omega)
      simp only [List.cons_append, List.nil_append] at hix
      have hgl : ((clr j c1.st.regs).map encW)[j + 1]? = some (encW ((clr j c1.st.regs)[j + 1]'(by rw [clr_len j (by rw [hok.1]; omega), hok.1]; omega))) := by
        rw [List.getElem?_map, List.getElem?_eq_getElem]; rfl
      have hsl : ((clr j c1.st.regs).map encW).set (j + 1) (encW junk) = (clr (j + 1) c1.st.regs).map encW := by
        rw [← clr_set j (by rw [hok.1]; omega), List.map_set]
      simp only [encC] at h2
      simp only [encW, junk] at hgl hsl
      have hn12 : ¬ (1 : Nat) = 2 := by decide
      simp only [go_sem, ↓reduceIte, Nat.reduceEqDiff, Nat.reduceAdd, reduceCtorEq, CCT, CCv, CCr, CCk, CCx, List.isEmpty_nil, Nat.reduceBNe, Nat.reduceBEq, Bool.or_false, Bool.false_or, Bool.or_true, Bool.true_or, Nat.reduceLeDiff, Nat.reduceLT, beqI, bneI, List.length_map, decide_true, decide_false, Int.reduceEq, Int.reduceLT, Int.reduceLE, Int.reduceGE, Int.reduceGT, not_true_eq_false, not_false_eq_true, Bool.and_true, Bool.true_and, Bool.and_false, Bool.false_and, and_true, true_and, and_self, Bool.not_not, h10, h12, h13, hlt, h2, hix, hgl, hsl, hwrap]
      skip
      refine hK _ _ ?_
      exact ⟨by (try simp only [go_sem, ↓reduceIte, Nat.reduceEqDiff, Nat.reduceAdd, reduceCtorEq, CCT, CCv, CCr, CCk, CCx, List.isEmpty_nil, Nat.reduceBNe, Nat.reduceBEq, Bool.or_false, Bool.false_or, Bool.or_true, Bool.true_or, Nat.reduceLeDiff, Nat.reduceLT, beqI, bneI, List.length_map, decide_true, decide_false, Int.reduceEq, Int.reduceLT, Int.reduceLE, Int.reduceGE, Int.reduceGT, not_true_eq_false, not_false_eq_true, Bool.and_true, Bool.true_and, Bool.and_false, Bool.false_and, and_true, true_and, and_self, Bool.not_not, Int.toNat_natCast, List.length_take, *]) <;> (first | done | rfl | omega | (simp; done) | (simp; omega)), by (try simp only [go_sem, ↓reduceIte, Nat.reduceEqDiff, Nat.reduceAdd, reduceCtorEq, CCT, CCv, CCr, CCk, CCx, List.isEmpty_nil, Nat.reduceBNe, Nat.reduceBEq, Bool.or_false, Bool.false_or, Bool.or_true, Bool.true_or, Nat.reduceLeDiff, Nat.reduceLT, beqI, bneI, List.length_map, decide_true, decide_false, Int.reduceEq, Int.reduceLT, Int.reduceLE, Int.reduceGE, Int.reduceGT, not_true_eq_false, not_false_eq_true, Bool.and_true, Bool.true_and, Bool.and_false, Bool.false_and, and_true, true_and, and_self, Bool.not_not, Int.toNat_natCast, List.length_take, *]) <;> (first | done | rfl | omega | (simp; done) | (simp; omega)), by (try simp only [go_sem, ↓reduceIte, Nat.reduceEqDiff, Nat.reduceAdd, reduceCtorEq, CCT, CCv, CCr, CCk, CCx, List.isEmpty_nil, Nat.reduceBNe, Nat.reduceBEq, Bool.or_false, Bool.false_or, Bool.or_true, Bool.true_or, Nat.reduceLeDiff, Nat.reduceLT, beqI, bneI, List.length_map, decide_true, decide_false, Int.reduceEq, Int.reduceLT, Int.reduceLE, Int.reduceGE, Int.reduceGT, not_true_eq_false, not_false_eq_true, Bool.and_true, Bool.true_and, Bool.and_false, Bool.false_and, and_true, true_and, and_self, Bool.not_not, Int.toNat_natCast, List.length_take, *]) <;> (first | done | rfl | omega | (simp; done) | (simp; omega)), by rw [set_obj]; rfl, (set_ne _ _ hn12).trans h1⟩
    · rintro ρ s' ⟨h10, h12, h13, h2, h1⟩ K' hx hr
      have hlt : ¬ ((5 + 1 : Nat) : Int) ≤ 5 := by omega
      have hix := ix_reg 2 [0, 2, 0] 0 (by decide)
      simp only [List.cons_append, List.nil_append] at hix
      rw [show ((0 : Nat) : Int) = 0 from rfl] at hix
      have hgl : ((clr 5 c1.st.regs).map encW)[0]? = some (encW ((clr 5 c1.st.regs)[0]'(by rw [clr_len 5 (by rw [hok.1]; omega), hok.1]; omega))) := by
        rw [List.getElem?_map, List.getElem?_eq_getElem]; rfl
      have hsl : ((clr 5 c1.st.regs).map encW).set 0 (encW c1.tells) = (endS c1).regs.map encW := by
        show _ = (c1.tells :: (List.replicate 5 junk ++ c1.st.regs.drop 6)).map encW
        rw [← clr5 hok.1, List.map_set]
      simp only [encC] at h2
      rw [o1] at h1
      simp only [encW, junk, List.replicate] at hgl hsl h1
      simp only [go_sem, ↓reduceIte, Nat.reduceEqDiff, Nat.reduceAdd, reduceCtorEq, CCT, CCv, CCr, CCk, CCx, List.isEmpty_nil, Nat.reduceBNe, Nat.reduceBEq, Bool.or_false, Bool.false_or, Bool.or_true, Bool.true_or, Nat.reduceLeDiff, Nat.reduceLT, beqI, bneI, List.length_map, decide_true, decide_false, Int.reduceEq, Int.reduceLT, Int.reduceLE, Int.reduceGE, Int.reduceGT, not_true_eq_false, not_false_eq_true, Bool.and_true, Bool.true_and, Bool.and_false, Bool.false_and, and_true, true_and, and_self, Bool.not_not, hx, h10, h12, h13, hlt]
      refine W.br_ok (by kernel_rfl) ?_
      simp only [go_sem, ↓reduceIte, Nat.reduceEqDiff, Nat.reduceAdd, reduceCtorEq, CCT, CCv, CCr, CCk, CCx, List.isEmpty_nil, Nat.reduceBNe, Nat.reduceBEq, Bool.or_false, Bool.false_or, Bool.or_true, Bool.true_or, Nat.reduceLeDiff, Nat.reduceLT, beqI, bneI, List.length_map, decide_true, decide_false, Int.reduceEq, Int.reduceLT, Int.reduceLE, Int.reduceGE, Int.reduceGT, not_true_eq_false, not_false_eq_true, Bool.and_true, Bool.true_and, Bool.and_false, Bool.false_and, and_true, true_and, and_self, Bool.not_not, h10, h12, h2, h1, hix, hgl, hsl]
      simp only [go_sem, ↓reduceIte, Nat.reduceEqDiff, Nat.reduceAdd, reduceCtorEq, CCT, CCv, CCr, CCk, CCx, List.isEmpty_nil, Nat.reduceBNe, Nat.reduceBEq, Bool.or_false, Bool.false_or, Bool.or_true, Bool.true_or, Nat.reduceLeDiff, Nat.reduceLT, beqI, bneI, List.length_map, decide_true, decide_false, Int.reduceEq, Int.reduceLT, Int.reduceLE, Int.reduceGE, Int.reduceGT, not_true_eq_false, not_false_eq_true, Bool.and_true, Bool.true_and, Bool.and_false, Bool.false_and, and_true, true_and, and_self, Bool.not_not, frz_W, hfz]
      exact ⟨r3, hr3, frz_pure q2 hfz, rfl⟩

    · show 5 < 0 + 9223372036854775900
      omega
    · exact ⟨by (try simp only [go_sem, ↓reduceIte, Nat.reduceEqDiff, Nat.reduceAdd, reduceCtorEq, CCT, CCv, CCr, CCk, CCx, List.isEmpty_nil, Nat.reduceBNe, Nat.reduceBEq, Bool.or_false, Bool.false_or, Bool.or_true, Bool.true_or, Nat.reduceLeDiff, Nat.reduceLT, beqI, bneI, List.length_map, decide_true, decide_false, Int.reduceEq, Int.reduceLT, Int.reduceLE, Int.reduceGE, Int.reduceGT, not_true_eq_false, not_false_eq_true, Bool.and_true, Bool.true_and, Bool.and_false, Bool.false_and, and_true, true_and, and_self, Bool.not_not, Int.toNat_natCast, List.length_take, *]) <;> (first | done | rfl | omega | (simp; done) | (simp; omega)), by (try simp only [go_sem, ↓reduceIte, Nat.reduceEqDiff, Nat.reduceAdd, reduceCtorEq, CCT, CCv, CCr, CCk, CCx, List.isEmpty_nil, Nat.reduceBNe, Nat.reduceBEq, Bool.or_false, Bool.false_or, Bool.or_true, Bool.true_or, Nat.reduceLeDiff, Nat.reduceLT, beqI, bneI, List.length_map, decide_true, decide_false, Int.reduceEq, Int.reduceLT, Int.reduceLE, Int.reduceGE, Int.reduceGT, not_true_eq_false, not_false_eq_true, Bool.and_true, Bool.true_and, Bool.and_false, Bool.false_and, and_true, true_and, and_self, Bool.not_not, Int.toNat_natCast, List.length_take, *]) <;> (first | done | rfl | omega | (simp; done) | (simp; omega)), by (try simp only [go_sem, ↓reduceIte, Nat.reduceEqDiff, Nat.reduceAdd, reduceCtorEq, CCT, CCv, CCr, CCk, CCx, List.isEmpty_nil, Nat.reduceBNe, Nat.reduceBEq, Bool.or_false, Bool.false_or, Bool.or_true, Bool.true_or, Nat.reduceLeDiff, Nat.reduceLT, beqI, bneI, List.length_map, decide_true, decide_false, Int.reduceEq, Int.reduceLT, Int.reduceLE, Int.reduceGE, Int.reduceGT, not_true_eq_false, not_false_eq_true, Bool.and_true, Bool.true_and, Bool.and_false, Bool.false_and, and_true, true_and, and_self, Bool.not_not, Int.toNat_natCast, List.length_take, *]) <;> (first | done | rfl | omega | (simp; done) | (simp; omega)), by rw [clr0]; exact q3', rfl⟩
  · rw [if_neg he]
    simp only [encW, junk, List.replicate] at o1
    simp only [go_sem, ↓reduceIte, Nat.reduceEqDiff, Nat.reduceAdd, reduceCtorEq, CCT, CCv, CCr, CCk, CCx, List.isEmpty_nil, Nat.reduceBNe, Nat.reduceBEq, Bool.or_false, Bool.false_or, Bool.or_true, Bool.true_or, Nat.reduceLeDiff, Nat.reduceLT, beqI, bneI, List.length_map, decide_true, decide_false, Int.reduceEq, Int.reduceLT, Int.reduceLE, Int.reduceGE, Int.reduceGT, not_true_eq_false, not_false_eq_true, Bool.and_true, Bool.true_and, Bool.and_false, Bool.false_and, and_true, true_and, and_self, Bool.not_not, q3, he]
    refine W.br_no (by kernel_rfl) ?_
    refine W.br_ok (by kernel_rfl) ?_
    simp only [go_sem, ↓reduceIte, Nat.reduceEqDiff, Nat.reduceAdd, reduceCtorEq, CCT, CCv, CCr, CCk, CCx, List.isEmpty_nil, Nat.reduceBNe, Nat.reduceBEq, Bool.or_false, Bool.false_or, Bool.or_true, Bool.true_or, Nat.reduceLeDiff, Nat.reduceLT, beqI, bneI, List.length_map, decide_true, decide_false, Int.reduceEq, Int.reduceLT, Int.reduceLE, Int.reduceGE, Int.reduceGT, not_true_eq_false, not_false_eq_true, Bool.and_true, Bool.true_and, Bool.and_false, Bool.false_and, and_true, true_and, and_self, Bool.not_not, q3, he, o1]
    refine W.br_ok (by kernel_rfl) ?_
    simp only [go_sem, ↓reduceIte, Nat.reduceEqDiff, Nat.reduceAdd, reduceCtorEq, CCT, CCv, CCr, CCk, CCx, List.isEmpty_nil, Nat.reduceBNe, Nat.reduceBEq, Bool.or_false, Bool.false_or, Bool.or_true, Bool.true_or, Nat.reduceLeDiff, Nat.reduceLT, beqI, bneI, List.length_map, decide_true, decide_false, Int.reduceEq, Int.reduceLT, Int.reduceLE, Int.reduceGE, Int.reduceGT, not_true_eq_false, not_false_eq_true, Bool.and_true, Bool.true_and, Bool.and_false, Bool.false_and, and_true, true_and, and_self, Bool.not_not, q3, he, o1]
    exact ⟨.mt true, .inl ⟨rfl, true, rfl⟩, by simp only [pure1], rfl⟩

set_option maxHeartbeats 40000000 in
theorem Call_c (d : Nat) (K : Kx) (s : Sta) (r : AV) (hr : RefP r s.refs) (hs : SOk s) (hl : s.refs.length ≤ 17592186044415) (what n : Int) (hn0 : 0 ≤ n) (hn1 : n < 4294967296) :
    ∃ r', RefA r' (callS K s what n).1.refs ∧ pure1 r' = true ∧ evalF Try.prog CC (d + 9) 9 [.list 49 K.bl (K.l.map encTy) none, .list 54 K.bm (K.ms.map encM) none, encS s r, .int .u8 what, .int .u32 n] St.empty = some (.tup [encS (callS K s what n).1 r', .int .i64 (callS K s what n).2], St.empty) := by
  have hof := fun d => Of_c d
  have hcv : IntKind.i64.wrap n = n := by rw [IntKind.wrap_i64]; omega
  have hi1 := ix_reg 0 [0, 0] 1 (by decide)
  have hi2 := ix_reg 0 [0, 0] 2 (by decide)
  have hg1 : (s.regs.map encW)[1]? = some (encW (at0 s.regs 1)) := by
    rw [List.getElem?_map, show (1 : Nat) = (1 : Int).toNat from rfl, at0_get (by decide) (by rw [hs.regs]; decide)]; rfl
  have hg2 : (s.regs.map encW)[2]? = some (encW (at0 s.regs 2)) := by
    rw [List.getElem?_map, show (2 : Nat) = (2 : Int).toNat from rfl, at0_get (by decide) (by rw [hs.regs]; decide)]; rfl
  simp only [encW] at hg1 hg2
  rw [show ((1 : Nat) : Int) = 1 from rfl] at hi1
  rw [show ((2 : Nat) : Int) = 2 from rfl] at hi2
  refine (show Wp (fun x => ∃ r', RefA r' (callS K s what n).1.refs ∧ pure1 r' = true ∧ x = some ((AV.tup [encS (callS K s what n).1 r', AV.int .i64 (callS K s what n).2], St.empty) : AV × St)) _ from ?_)
  rw [run_9 _ _ _ (by simp), cut 3]
  generalize ht : tl 3 (Try.f9.body.getD .skip) = t
  unfold Try.f9
  simp only [Option.getD_some, spl]
  simp only [go_sem, ↓reduceIte, Nat.reduceEqDiff, Nat.reduceAdd, reduceCtorEq, CCT, CCv, CCr, CCk, CCx, List.isEmpty_nil, Nat.reduceBNe, Nat.reduceBEq, Bool.or_false, Bool.false_or, Bool.or_true, Bool.true_or, Nat.reduceLeDiff, Nat.reduceLT, beqI, bneI, List.length_map, decide_true, decide_false, Int.reduceEq, Int.reduceLT, Int.reduceLE, Int.reduceGE, Int.reduceGT, not_true_eq_false, not_false_eq_true, Bool.and_true, Bool.true_and, Bool.and_false, Bool.false_and, and_true, true_and, and_self, Bool.not_not, *]
  refine W.br_ok (by kernel_rfl) ?_
  simp only [go_sem, ↓reduceIte, Nat.reduceEqDiff, Nat.reduceAdd, reduceCtorEq, CCT, CCv, CCr, CCk, CCx, List.isEmpty_nil, Nat.reduceBNe, Nat.reduceBEq, Bool.or_false, Bool.false_or, Bool.or_true, Bool.true_or, Nat.reduceLeDiff, Nat.reduceLT, beqI, bneI, List.length_map, decide_true, decide_false, Int.reduceEq, Int.reduceLT, Int.reduceLE, Int.reduceGE, Int.reduceGT, not_true_eq_false, not_false_eq_true, Bool.and_true, Bool.true_and, Bool.and_false, Bool.false_and, and_true, true_and, and_self, Bool.not_not, hof, hcv, hi1, hi2, hg1, hg2]
  by_cases w1 : what = 1
  · subst w1
    obtain ⟨c1, hX⟩ : ∃ c1, doneS K s 1 n = c1 := ⟨_, rfl⟩
    have hd : doneS K s 1 n = objectS K (begC s n) 1 := by simp [doneS]
    rw [hd] at hX
    simp only [go_sem, ↓reduceIte, Nat.reduceEqDiff, Nat.reduceAdd, reduceCtorEq, CCT, CCv, CCr, CCk, CCx, List.isEmpty_nil, Nat.reduceBNe, Nat.reduceBEq, Bool.or_false, Bool.false_or, Bool.or_true, Bool.true_or, Nat.reduceLeDiff, Nat.reduceLT, beqI, bneI, List.length_map, decide_true, decide_false, Int.reduceEq, Int.reduceLT, Int.reduceLE, Int.reduceGE, Int.reduceGT, not_true_eq_false, not_false_eq_true, Bool.and_true, Bool.true_and, Bool.and_false, Bool.false_and, and_true, true_and, and_self, Bool.not_not, hof]
    refine W.call (object_c _ (K := K) (id := 2) (c := begC s n) ⟨show 2 < 3 by decide, r, hr.refA, rfl⟩ ⟨hs, hl⟩ 1) ?_
    rintro v s2 ⟨h1, hA, hk⟩
    obtain rfl : v = _ := h1
    rw [hX] at hA
    rw [← hd] at hX
    have hok := done_ok K hs 1 n
    have hcs : callS K s 1 n = if c1.err = 0 then (endS c1, 0) else (noS, c1.err) := by unfold callS; rw [hX]
    rw [hX] at hok
    rw [hcs]
    obtain ⟨q1, r2, q2, q3⟩ := And.intro hA.1 hA.2
    have q3 : s2.obj 2 = _ := q3
    have q3' := q3
    simp only [encC] at q3
    have o1 : s2.obj 1 = some (.cells 33 [.agg 33 [.agg 29 ((List.replicate 10 junk).map encW), .agg 30 ((List.replicate 8 junk).map encW), .mt true, .int .i64 0, .bool false, .int .i64 0]]) := (hk.2 1 (show 1 < 3 by decide) (by decide)).trans rfl
    simp only [go_sem, ↓reduceIte, Nat.reduceEqDiff, Nat.reduceAdd, reduceCtorEq, CCT, CCv, CCr, CCk, CCx, List.isEmpty_nil, Nat.reduceBNe, Nat.reduceBEq, Bool.or_false, Bool.false_or, Bool.or_true, Bool.true_or, Nat.reduceLeDiff, Nat.reduceLT, beqI, bneI, List.length_map, decide_true, decide_false, Int.reduceEq, Int.reduceLT, Int.reduceLE, Int.reduceGE, Int.reduceGT, not_true_eq_false, not_false_eq_true, Bool.and_true, Bool.true_and, Bool.and_false, Bool.false_and, and_true, true_and, and_self, Bool.not_not, q3]
    subst ht
    exact call_tail _ K c1 r2 q2 hok _ _ (by (try simp only [go_sem, ↓reduceIte, Nat.reduceEqDiff, Nat.reduceAdd, reduceCtorEq, CCT, CCv, CCr, CCk, CCx, List.isEmpty_nil, Nat.reduceBNe, Nat.reduceBEq, Bool.or_false, Bool.false_or, Bool.or_true, Bool.true_or, Nat.reduceLeDiff, Nat.reduceLT, beqI, bneI, List.length_map, decide_true, decide_false, Int.reduceEq, Int.reduceLT, Int.reduceLE, Int.reduceGE, Int.reduceGT, not_true_eq_false, not_false_eq_true, Bool.and_true, Bool.true_and, Bool.and_false, Bool.false_and, and_true, true_and, and_self, Bool.not_not, Int.toNat_natCast, List.length_take, *]) <;> (first | done | rfl | omega | (simp; done) | (simp; omega))) (by (try simp only [go_sem, ↓reduceIte, Nat.reduceEqDiff, Nat.reduceAdd, reduceCtorEq, CCT, CCv, CCr, CCk, CCx, List.isEmpty_nil, Nat.reduceBNe, Nat.reduceBEq, Bool.or_false, Bool.false_or, Bool.or_true, Bool.true_or, Nat.reduceLeDiff, Nat.reduceLT, beqI, bneI, List.length_map, decide_true, decide_false, Int.reduceEq, Int.reduceLT, Int.reduceLE, Int.reduceGE, Int.reduceGT, not_true_eq_false, not_false_eq_true, Bool.and_true, Bool.true_and, Bool.and_false, Bool.false_and, and_true, true_and, and_self, Bool.not_not, Int.toNat_natCast, List.length_take, *]) <;> (first | done | rfl | omega | (simp; done) | (simp; omega))) q3' o1 rfl

  have w1' := eq_false w1
  by_cases w2 : what = 2
  · subst w2
    obtain ⟨c1, hX⟩ : ∃ c1, doneS K s 2 n = c1 := ⟨_, rfl⟩
    have hd : doneS K s 2 n = objectS K (begC s n) 2 := by simp [doneS]
    rw [hd] at hX
    simp only [go_sem, ↓reduceIte, Nat.reduceEqDiff, Nat.reduceAdd, reduceCtorEq, CCT, CCv, CCr, CCk, CCx, List.isEmpty_nil, Nat.reduceBNe, Nat.reduceBEq, Bool.or_false, Bool.false_or, Bool.or_true, Bool.true_or, Nat.reduceLeDiff, Nat.reduceLT, beqI, bneI, List.length_map, decide_true, decide_false, Int.reduceEq, Int.reduceLT, Int.reduceLE, Int.reduceGE, Int.reduceGT, not_true_eq_false, not_false_eq_true, Bool.and_true, Bool.true_and, Bool.and_false, Bool.false_and, and_true, true_and, and_self, Bool.not_not, hof]
    refine W.call (object_c _ (K := K) (id := 2) (c := begC s n) ⟨show 2 < 3 by decide, r, hr.refA, rfl⟩ ⟨hs, hl⟩ 2) ?_
    rintro v s2 ⟨h1, hA, hk⟩
    obtain rfl : v = _ := h1
    rw [hX] at hA
    rw [← hd] at hX
    have hok := done_ok K hs 2 n
    have hcs : callS K s 2 n = if c1.err = 0 then (endS c1, 0) else (noS, c1.err) := by unfold callS; rw [hX]
    rw [hX] at hok
    rw [hcs]
    obtain ⟨q1, r2, q2, q3⟩ := And.intro hA.1 hA.2
    have q3 : s2.obj 2 = _ := q3
    have q3' := q3
    simp only [encC] at q3
    have o1 : s2.obj 1 = some (.cells 33 [.agg 33 [.agg 29 ((List.replicate 10 junk).map encW), .agg 30 ((List.replicate 8 junk).map encW), .mt true, .int .i64 0, .bool false, .int .i64 0]]) := (hk.2 1 (show 1 < 3 by decide) (by decide)).trans rfl
    simp only [go_sem, ↓reduceIte, Nat.reduceEqDiff, Nat.reduceAdd, reduceCtorEq, CCT, CCv, CCr, CCk, CCx, List.isEmpty_nil, Nat.reduceBNe, Nat.reduceBEq, Bool.or_false, Bool.false_or, Bool.or_true, Bool.true_or, Nat.reduceLeDiff, Nat.reduceLT, beqI, bneI, List.length_map, decide_true, decide_false, Int.reduceEq, Int.reduceLT, Int.reduceLE, Int.reduceGE, Int.reduceGT, not_true_eq_false, not_false_eq_true, Bool.and_true, Bool.true_and, Bool.and_false, Bool.false_and, and_true, true_and, and_self, Bool.not_not, q3]
    subst ht
    exact call_tail _ K c1 r2 q2 hok _ _ (by (try simp only [go_sem, ↓reduceIte, Nat.reduceEqDiff, Nat.reduceAdd, reduceCtorEq, CCT, CCv, CCr, CCk, CCx, List.isEmpty_nil, Nat.reduceBNe, Nat.reduceBEq, Bool.or_false, Bool.false_or, Bool.or_true, Bool.true_or, Nat.reduceLeDiff, Nat.reduceLT, beqI, bneI, List.length_map, decide_true, decide_false, Int.reduceEq, Int.reduceLT, Int.reduceLE, Int.reduceGE, Int.reduceGT, not_true_eq_false, not_false_eq_true, Bool.and_true, Bool.true_and, Bool.and_false, Bool.false_and, and_true, true_and, and_self, Bool.not_not, Int.toNat_natCast, List.length_take, *]) <;> (first | done | rfl | omega | (simp; done) | (simp; omega))) (by (try simp only [go_sem, ↓reduceIte, Nat.reduceEqDiff, Nat.reduceAdd, reduceCtorEq, CCT, CCv, CCr, CCk, CCx, List.isEmpty_nil, Nat.reduceBNe, Nat.reduceBEq, Bool.or_false, Bool.false_or, Bool.or_true, Bool.true_or, Nat.reduceLeDiff, Nat.reduceLT, beqI, bneI, List.length_map, decide_true, decide_false, Int.reduceEq, Int.reduceLT, Int.reduceLE, Int.reduceGE, Int.reduceGT, not_true_eq_false, not_false_eq_true, Bool.and_true, Bool.true_and, Bool.and_false, Bool.false_and, and_true, true_and, and_self, Bool.not_not, Int.toNat_natCast, List.length_take, *]) <;> (first | done | rfl | omega | (simp; done) | (simp; omega))) q3' o1 rfl

  have w2' := eq_false w2
  by_cases w3 : what = 3
  · subst w3
    obtain ⟨c1, hX⟩ : ∃ c1, doneS K s 3 n = c1 := ⟨_, rfl⟩
    have hd : doneS K s 3 n = objectS K (begC s n) 3 := by simp [doneS]
    rw [hd] at hX
    simp only [go_sem, ↓reduceIte, Nat.reduceEqDiff, Nat.reduceAdd, reduceCtorEq, CCT, CCv, CCr, CCk, CCx, List.isEmpty_nil, Nat.reduceBNe, Nat.reduceBEq, Bool.or_false, Bool.false_or, Bool.or_true, Bool.true_or, Nat.reduceLeDiff, Nat.reduceLT, beqI, bneI, List.length_map, decide_true, decide_false, Int.reduceEq, Int.reduceLT, Int.reduceLE, Int.reduceGE, Int.reduceGT, not_true_eq_false, not_false_eq_true, Bool.and_true, Bool.true_and, Bool.and_false, Bool.false_and, and_true, true_and, and_self, Bool.not_not, hof]
    refine W.call (object_c _ (K := K) (id := 2) (c := begC s n) ⟨show 2 < 3 by decide, r, hr.refA, rfl⟩ ⟨hs, hl⟩ 3) ?_
    rintro v s2 ⟨h1, hA, hk⟩
    obtain rfl : v = _ := h1
    rw [hX] at hA
    rw [← hd] at hX
    have hok := done_ok K hs 3 n
    have hcs : callS K s 3 n = if c1.err = 0 then (endS c1, 0) else (noS, c1.err) := by unfold callS; rw [hX]
    rw [hX] at hok
    rw [hcs]
    obtain ⟨q1, r2, q2, q3⟩ := And.intro hA.1 hA.2
    have q3 : s2.obj 2 = _ := q3
    have q3' := q3
    simp only [encC] at q3
    have o1 : s2.obj 1 = some (.cells 33 [.agg 33 [.agg 29 ((List.replicate 10 junk).map encW), .agg 30 ((List.replicate 8 junk).map encW), .mt true, .int .i64 0, .bool false, .int .i64 0]]) := (hk.2 1 (show 1 < 3 by decide) (by decide)).trans rfl
    simp only [go_sem, ↓reduceIte, Nat.reduceEqDiff, Nat.reduceAdd, reduceCtorEq, CCT, CCv, CCr, CCk, CCx, List.isEmpty_nil, Nat.reduceBNe, Nat.reduceBEq, Bool.or_false, Bool.false_or, Bool.or_true, Bool.true_or, Nat.reduceLeDiff, Nat.reduceLT, beqI, bneI, List.length_map, decide_true, decide_false, Int.reduceEq, Int.reduceLT, Int.reduceLE, Int.reduceGE, Int.reduceGT, not_true_eq_false, not_false_eq_true, Bool.and_true, Bool.true_and, Bool.and_false, Bool.false_and, and_true, true_and, and_self, Bool.not_not, q3]
    subst ht
    exact call_tail _ K c1 r2 q2 hok _ _ (by (try simp only [go_sem, ↓reduceIte, Nat.reduceEqDiff, Nat.reduceAdd, reduceCtorEq, CCT, CCv, CCr, CCk, CCx, List.isEmpty_nil, Nat.reduceBNe, Nat.reduceBEq, Bool.or_false, Bool.false_or, Bool.or_true, Bool.true_or, Nat.reduceLeDiff, Nat.reduceLT, beqI, bneI, List.length_map, decide_true, decide_false, Int.reduceEq, Int.reduceLT, Int.reduceLE, Int.reduceGE, Int.reduceGT, not_true_eq_false, not_false_eq_true, Bool.and_true, Bool.true_and, Bool.and_false, Bool.false_and, and_true, true_and, and_self, Bool.not_not, Int.toNat_natCast, List.length_take, *]) <;> (first | done | rfl | omega | (simp; done) | (simp; omega))) (by (try simp only [go_sem, ↓reduceIte, Nat.reduceEqDiff, Nat.reduceAdd, reduceCtorEq, CCT, CCv, CCr, CCk, CCx, List.isEmpty_nil, Nat.reduceBNe, Nat.reduceBEq, Bool.or_false, Bool.false_or, Bool.or_true, Bool.true_or, Nat.reduceLeDiff, Nat.reduceLT, beqI, bneI, List.length_map, decide_true, decide_false, Int.reduceEq, Int.reduceLT, Int.reduceLE, Int.reduceGE, Int.reduceGT, not_true_eq_false, not_false_eq_true, Bool.and_true, Bool.true_and, Bool.and_false, Bool.false_and, and_true, true_and, and_self, Bool.not_not, Int.toNat_natCast, List.length_take, *]) <;> (first | done | rfl | omega | (simp; done) | (simp; omega))) q3' o1 rfl

  have w3' := eq_false w3
  by_cases w4 : what = 4
  · subst w4
    obtain ⟨c1, hX⟩ : ∃ c1, doneS K s 4 n = c1 := ⟨_, rfl⟩
    have hd : doneS K s 4 n = tableS K (begC s n) 4 := by simp [doneS]
    rw [hd] at hX
    simp only [go_sem, ↓reduceIte, Nat.reduceEqDiff, Nat.reduceAdd, reduceCtorEq, CCT, CCv, CCr, CCk, CCx, List.isEmpty_nil, Nat.reduceBNe, Nat.reduceBEq, Bool.or_false, Bool.false_or, Bool.or_true, Bool.true_or, Nat.reduceLeDiff, Nat.reduceLT, beqI, bneI, List.length_map, decide_true, decide_false, Int.reduceEq, Int.reduceLT, Int.reduceLE, Int.reduceGE, Int.reduceGT, not_true_eq_false, not_false_eq_true, Bool.and_true, Bool.true_and, Bool.and_false, Bool.false_and, and_true, true_and, and_self, Bool.not_not, hof]
    refine W.call (table_c _ (K := K) (id := 2) (c := begC s n) ⟨show 2 < 3 by decide, r, hr.refA, rfl⟩ ⟨hs, hl⟩ hn0 4) ?_
    rintro v s2 ⟨h1, hA, hk⟩
    obtain rfl : v = _ := h1
    rw [hX] at hA
    rw [← hd] at hX
    have hok := done_ok K hs 4 n
    have hcs : callS K s 4 n = if c1.err = 0 then (endS c1, 0) else (noS, c1.err) := by unfold callS; rw [hX]
    rw [hX] at hok
    rw [hcs]
    obtain ⟨q1, r2, q2, q3⟩ := And.intro hA.1 hA.2
    have q3 : s2.obj 2 = _ := q3
    have q3' := q3
    simp only [encC] at q3
    have o1 : s2.obj 1 = some (.cells 33 [.agg 33 [.agg 29 ((List.replicate 10 junk).map encW), .agg 30 ((List.replicate 8 junk).map encW), .mt true, .int .i64 0, .bool false, .int .i64 0]]) := (hk.2 1 (show 1 < 3 by decide) (by decide)).trans rfl
    simp only [go_sem, ↓reduceIte, Nat.reduceEqDiff, Nat.reduceAdd, reduceCtorEq, CCT, CCv, CCr, CCk, CCx, List.isEmpty_nil, Nat.reduceBNe, Nat.reduceBEq, Bool.or_false, Bool.false_or, Bool.or_true, Bool.true_or, Nat.reduceLeDiff, Nat.reduceLT, beqI, bneI, List.length_map, decide_true, decide_false, Int.reduceEq, Int.reduceLT, Int.reduceLE, Int.reduceGE, Int.reduceGT, not_true_eq_false, not_false_eq_true, Bool.and_true, Bool.true_and, Bool.and_false, Bool.false_and, and_true, true_and, and_self, Bool.not_not, q3]
    subst ht
    exact call_tail _ K c1 r2 q2 hok _ _ (by (try simp only [go_sem, ↓reduceIte, Nat.reduceEqDiff, Nat.reduceAdd, reduceCtorEq, CCT, CCv, CCr, CCk, CCx, List.isEmpty_nil, Nat.reduceBNe, Nat.reduceBEq, Bool.or_false, Bool.false_or, Bool.or_true, Bool.true_or, Nat.reduceLeDiff, Nat.reduceLT, beqI, bneI, List.length_map, decide_true, decide_false, Int.reduceEq, Int.reduceLT, Int.reduceLE, Int.reduceGE, Int.reduceGT, not_true_eq_false, not_false_eq_true, Bool.and_true, Bool.true_and, Bool.and_false, Bool.false_and, and_true, true_and, and_self, Bool.not_not, Int.toNat_natCast, List.length_take, *]) <;> (first | done | rfl | omega | (simp; done) | (simp; omega))) (by (try simp only [go_sem, ↓reduceIte, Nat.reduceEqDiff, Nat.reduceAdd, reduceCtorEq, CCT, CCv, CCr, CCk, CCx, List.isEmpty_nil, Nat.reduceBNe, Nat.reduceBEq, Bool.or_false, Bool.false_or, Bool.or_true, Bool.true_or, Nat.reduceLeDiff, Nat.reduceLT, beqI, bneI, List.length_map, decide_true, decide_false, Int.reduceEq, Int.reduceLT, Int.reduceLE, Int.reduceGE, Int.reduceGT, not_true_eq_false, not_false_eq_true, Bool.and_true, Bool.true_and, Bool.and_false, Bool.false_and, and_true, true_and, and_self, Bool.not_not, Int.toNat_natCast, List.length_take, *]) <;> (first | done | rfl | omega | (simp; done) | (simp; omega))) q3' o1 rfl

  have w4' := eq_false w4
  by_cases w5 : what = 5
  · subst w5
    obtain ⟨c1, hX⟩ : ∃ c1, doneS K s 5 n = c1 := ⟨_, rfl⟩
    have hd : doneS K s 5 n = tableS K (begC s n) 5 := by simp [doneS]
    rw [hd] at hX
    simp only [go_sem, ↓reduceIte, Nat.reduceEqDiff, Nat.reduceAdd, reduceCtorEq, CCT, CCv, CCr, CCk, CCx, List.isEmpty_nil, Nat.reduceBNe, Nat.reduceBEq, Bool.or_false, Bool.false_or, Bool.or_true, Bool.true_or, Nat.reduceLeDiff, Nat.reduceLT, beqI, bneI, List.length_map, decide_true, decide_false, Int.reduceEq, Int.reduceLT, Int.reduceLE, Int.reduceGE, Int.reduceGT, not_true_eq_false, not_false_eq_true, Bool.and_true, Bool.true_and, Bool.and_false, Bool.false_and, and_true, true_and, and_self, Bool.not_not, hof]
    refine W.call (table_c _ (K := K) (id := 2) (c := begC s n) ⟨show 2 < 3 by decide, r, hr.refA, rfl⟩ ⟨hs, hl⟩ hn0 5) ?_
    rintro v s2 ⟨h1, hA, hk⟩
    obtain rfl : v = _ := h1
    rw [hX] at hA
    rw [← hd] at hX
    have hok := done_ok K hs 5 n
    have hcs : callS K s 5 n = if c1.err = 0 then (endS c1, 0) else (noS, c1.err) := by unfold callS; rw [hX]
    rw [hX] at hok
    rw [hcs]
    obtain ⟨q1, r2, q2, q3⟩ := And.intro hA.1 hA.2
    have q3 : s2.obj 2 = _ := q3
    have q3' := q3
    simp only [encC] at q3
    have o1 : s2.obj 1 = some (.cells 33 [.agg 33 [.agg 29 ((List.replicate 10 junk).map encW), .agg 30 ((List.replicate 8 junk).map encW), .mt true, .int .i64 0, .bool false, .int .i64 0]]) := (hk.2 1 (show 1 < 3 by decide) (by decide)).trans rfl
    simp only [go_sem, ↓reduceIte, Nat.reduceEqDiff, Nat.reduceAdd, reduceCtorEq, CCT, CCv, CCr, CCk, CCx, List.isEmpty_nil, Nat.reduceBNe, Nat.reduceBEq, Bool.or_false, Bool.false_or, Bool.or_true, Bool.true_or, Nat.reduceLeDiff, Nat.reduceLT, beqI, bneI, List.length_map, decide_true, decide_false, Int.reduceEq, Int.reduceLT, Int.reduceLE, Int.reduceGE, Int.reduceGT, not_true_eq_false, not_false_eq_true, Bool.and_true, Bool.true_and, Bool.and_false, Bool.false_and, and_true, true_and, and_self, Bool.not_not, q3]
    subst ht
    exact call_tail _ K c1 r2 q2 hok _ _ (by (try simp only [go_sem, ↓reduceIte, Nat.reduceEqDiff, Nat.reduceAdd, reduceCtorEq, CCT, CCv, CCr, CCk, CCx, List.isEmpty_nil, Nat.reduceBNe, Nat.reduceBEq, Bool.or_false, Bool.false_or, Bool.or_true, Bool.true_or, Nat.reduceLeDiff, Nat.reduceLT, beqI, bneI, List.length_map, decide_true, decide_false, Int.reduceEq, Int.reduceLT, Int.reduceLE, Int.reduceGE, Int.reduceGT, not_true_eq_false, not_false_eq_true, Bool.and_true, Bool.true_and, Bool.and_false, Bool.false_and, and_true, true_and, and_self, Bool.not_not, Int.toNat_natCast, List.length_take, *]) <;> (first | done | rfl | omega | (simp; done) | (simp; omega))) (by (try simp only [go_sem, ↓reduceIte, Nat.reduceEqDiff, Nat.reduceAdd, reduceCtorEq, CCT, CCv, CCr, CCk, CCx, List.isEmpty_nil, Nat.reduceBNe, Nat.reduceBEq, Bool.or_false, Bool.false_or, Bool.or_true, Bool.true_or, Nat.reduceLeDiff, Nat.reduceLT, beqI, bneI, List.length_map, decide_true, decide_false, Int.reduceEq, Int.reduceLT, Int.reduceLE, Int.reduceGE, Int.reduceGT, not_true_eq_false, not_false_eq_true, Bool.and_true, Bool.true_and, Bool.and_false, Bool.false_and, and_true, true_and, and_self, Bool.not_not, Int.toNat_natCast, List.length_take, *]) <;> (first | done | rfl | omega | (simp; done) | (simp; omega))) q3' o1 rfl

  have w5' := eq_false w5
  by_cases w6 : what = 6
  · subst w6
    obtain ⟨c1, hX⟩ : ∃ c1, doneS K s 6 n = c1 := ⟨_, rfl⟩
    have hd : doneS K s 6 n = tableS K (begC s n) 6 := by simp [doneS]
    rw [hd] at hX
    simp only [go_sem, ↓reduceIte, Nat.reduceEqDiff, Nat.reduceAdd, reduceCtorEq, CCT, CCv, CCr, CCk, CCx, List.isEmpty_nil, Nat.reduceBNe, Nat.reduceBEq, Bool.or_false, Bool.false_or, Bool.or_true, Bool.true_or, Nat.reduceLeDiff, Nat.reduceLT, beqI, bneI, List.length_map, decide_true, decide_false, Int.reduceEq, Int.reduceLT, Int.reduceLE, Int.reduceGE, Int.reduceGT, not_true_eq_false, not_false_eq_true, Bool.and_true, Bool.true_and, Bool.and_false, Bool.false_and, and_true, true_and, and_self, Bool.not_not, hof]
    refine W.call (table_c _ (K := K) (id := 2) (c := begC s n) ⟨show 2 < 3 by decide, r, hr.refA, rfl⟩ ⟨hs, hl⟩ hn0 6) ?_
    rintro v s2 ⟨h1, hA, hk⟩
    obtain rfl : v = _ := h1
    rw [hX] at hA
    rw [← hd] at hX
    have hok := done_ok K hs 6 n
    have hcs : callS K s 6 n = if c1.err = 0 then (endS c1, 0) else (noS, c1.err) := by unfold callS; rw [hX]
    rw [hX] at hok
    rw [hcs]
    obtain ⟨q1, r2, q2, q3⟩ := And.intro hA.1 hA.2
    have q3 : s2.obj 2 = _ := q3
    have q3' := q3
    simp only [encC] at q3
    have o1 : s2.obj 1 = some (.cells 33 [.agg 33 [.agg 29 ((List.replicate 10 junk).map encW), .agg 30 ((List.replicate 8 junk).map encW), .mt true, .int .i64 0, .bool false, .int .i64 0]]) := (hk.2 1 (show 1 < 3 by decide) (by decide)).trans rfl
    simp only [go_sem, ↓reduceIte, Nat.reduceEqDiff, Nat.reduceAdd, reduceCtorEq, CCT, CCv, CCr, CCk, CCx, List.isEmpty_nil, Nat.reduceBNe, Nat.reduceBEq, Bool.or_false, Bool.false_or, Bool.or_true, Bool.true_or, Nat.reduceLeDiff, Nat.reduceLT, beqI, bneI, List.length_map, decide_true, decide_false, Int.reduceEq, Int.reduceLT, Int.reduceLE, Int.reduceGE, Int.reduceGT, not_true_eq_false, not_false_eq_true, Bool.and_true, Bool.true_and, Bool.and_false, Bool.false_and, and_true, true_and, and_self, Bool.not_not, q3]
    subst ht
    exact call_tail _ K c1 r2 q2 hok _ _ (by (try simp only [go_sem, ↓reduceIte, Nat.reduceEqDiff, Nat.reduceAdd, reduceCtorEq, CCT, CCv, CCr, CCk, CCx, List.isEmpty_nil, Nat.reduceBNe, Nat.reduceBEq, Bool.or_false, Bool.false_or, Bool.or_true, Bool.true_or, Nat.reduceLeDiff, Nat.reduceLT, beqI, bneI, List.length_map, decide_true, decide_false, Int.reduceEq, Int.reduceLT, Int.reduceLE, Int.reduceGE, Int.reduceGT, not_true_eq_false, not_false_eq_true, Bool.and_true, Bool.true_and, Bool.and_false, Bool.false_and, and_true, true_and, and_self, Bool.not_not, Int.toNat_natCast, List.length_take, *]) <;> (first | done | rfl | omega | (simp; done) | (simp; omega))) (by (try simp only [go_sem, ↓reduceIte, Nat.reduceEqDiff, Nat.reduceAdd, reduceCtorEq, CCT, CCv, CCr, CCk, CCx, List.isEmpty_nil, Nat.reduceBNe, Nat.reduceBEq, Bool.or_false, Bool.false_or, Bool.or_true, Bool.true_or, Nat.reduceLeDiff, Nat.reduceLT, beqI, bneI, List.length_map, decide_true, decide_false, Int.reduceEq, Int.reduceLT, Int.reduceLE, Int.reduceGE, Int.reduceGT, not_true_eq_false, not_false_eq_true, Bool.and_true, Bool.true_and, Bool.and_false, Bool.false_and, and_true, true_and, and_self, Bool.not_not, Int.toNat_natCast, List.length_take, *]) <;> (first | done | rfl | omega | (simp; done) | (simp; omega))) q3' o1 rfl

  have w6' := eq_false w6
  by_cases w7 : what = 7
  · subst w7
    obtain ⟨c1, hX⟩ : ∃ c1, doneS K s 7 n = c1 := ⟨_, rfl⟩
    have hd : doneS K s 7 n = regionS K (begC s n) 7 := by simp [doneS]
    rw [hd] at hX
    simp only [go_sem, ↓reduceIte, Nat.reduceEqDiff, Nat.reduceAdd, reduceCtorEq, CCT, CCv, CCr, CCk, CCx, List.isEmpty_nil, Nat.reduceBNe, Nat.reduceBEq, Bool.or_false, Bool.false_or, Bool.or_true, Bool.true_or, Nat.reduceLeDiff, Nat.reduceLT, beqI, bneI, List.length_map, decide_true, decide_false, Int.reduceEq, Int.reduceLT, Int.reduceLE, Int.reduceGE, Int.reduceGT, not_true_eq_false, not_false_eq_true, Bool.and_true, Bool.true_and, Bool.and_false, Bool.false_and, and_true, true_and, and_self, Bool.not_not, hof]
    refine W.call (region_c _ (K := K) (id := 2) (c := begC s n) ⟨show 2 < 3 by decide, r, hr.refA, rfl⟩ ⟨hs, hl⟩ 7) ?_
    rintro v s2 ⟨h1, hA, hk⟩
    obtain rfl : v = _ := h1
    rw [hX] at hA
    rw [← hd] at hX
    have hok := done_ok K hs 7 n
    have hcs : callS K s 7 n = if c1.err = 0 then (endS c1, 0) else (noS, c1.err) := by unfold callS; rw [hX]
    rw [hX] at hok
    rw [hcs]
    obtain ⟨q1, r2, q2, q3⟩ := And.intro hA.1 hA.2
    have q3 : s2.obj 2 = _ := q3
    have q3' := q3
    simp only [encC] at q3
    have o1 : s2.obj 1 = some (.cells 33 [.agg 33 [.agg 29 ((List.replicate 10 junk).map encW), .agg 30 ((List.replicate 8 junk).map encW), .mt true, .int .i64 0, .bool false, .int .i64 0]]) := (hk.2 1 (show 1 < 3 by decide) (by decide)).trans rfl
    simp only [go_sem, ↓reduceIte, Nat.reduceEqDiff, Nat.reduceAdd, reduceCtorEq, CCT, CCv, CCr, CCk, CCx, List.isEmpty_nil, Nat.reduceBNe, Nat.reduceBEq, Bool.or_false, Bool.false_or, Bool.or_true, Bool.true_or, Nat.reduceLeDiff, Nat.reduceLT, beqI, bneI, List.length_map, decide_true, decide_false, Int.reduceEq, Int.reduceLT, Int.reduceLE, Int.reduceGE, Int.reduceGT, not_true_eq_false, not_false_eq_true, Bool.and_true, Bool.true_and, Bool.and_false, Bool.false_and, and_true, true_and, and_self, Bool.not_not, q3]
    subst ht
    exact call_tail _ K c1 r2 q2 hok _ _ (by (try simp only [go_sem, ↓reduceIte, Nat.reduceEqDiff, Nat.reduceAdd, reduceCtorEq, CCT, CCv, CCr, CCk, CCx, List.isEmpty_nil, Nat.reduceBNe, Nat.reduceBEq, Bool.or_false, Bool.false_or, Bool.or_true, Bool.true_or, Nat.reduceLeDiff, Nat.reduceLT, beqI, bneI, List.length_map, decide_true, decide_false, Int.reduceEq, Int.reduceLT, Int.reduceLE, Int.reduceGE, Int.reduceGT, not_true_eq_false, not_false_eq_true, Bool.and_true, Bool.true_and, Bool.and_false, Bool.false_and, and_true, true_and, and_self, Bool.not_not, Int.toNat_natCast, List.length_take, *]) <;> (first | done | rfl | omega | (simp; done) | (simp; omega))) (by (try simp only [go_sem, ↓reduceIte, Nat.reduceEqDiff, Nat.reduceAdd, reduceCtorEq, CCT, CCv, CCr, CCk, CCx, List.isEmpty_nil, Nat.reduceBNe, Nat.reduceBEq, Bool.or_false, Bool.false_or, Bool.or_true, Bool.true_or, Nat.reduceLeDiff, Nat.reduceLT, beqI, bneI, List.length_map, decide_true, decide_false, Int.reduceEq, Int.reduceLT, Int.reduceLE, Int.reduceGE, Int.reduceGT, not_true_eq_false, not_false_eq_true, Bool.and_true, Bool.true_and, Bool.and_false, Bool.false_and, and_true, true_and, and_self, Bool.not_not, Int.toNat_natCast, List.length_take, *]) <;> (first | done | rfl | omega | (simp; done) | (simp; omega))) q3' o1 rfl

  have w7' := eq_false w7
  by_cases w8 : what = 8
  · subst w8
    obtain ⟨c1, hX⟩ : ∃ c1, doneS K s 8 n = c1 := ⟨_, rfl⟩
    have hd : doneS K s 8 n = regionS K (begC s n) 8 := by simp [doneS]
    rw [hd] at hX
    simp only [go_sem, ↓reduceIte, Nat.reduceEqDiff, Nat.reduceAdd, reduceCtorEq, CCT, CCv, CCr, CCk, CCx, List.isEmpty_nil, Nat.reduceBNe, Nat.reduceBEq, Bool.or_false, Bool.false_or, Bool.or_true, Bool.true_or, Nat.reduceLeDiff, Nat.reduceLT, beqI, bneI, List.length_map, decide_true, decide_false, Int.reduceEq, Int.reduceLT, Int.reduceLE, Int.reduceGE, Int.reduceGT, not_true_eq_false, not_false_eq_true, Bool.and_true, Bool.true_and, Bool.and_false, Bool.false_and, and_true, true_and, and_self, Bool.not_not, hof]
    refine W.call (region_c _ (K := K) (id := 2) (c := begC s n) ⟨show 2 < 3 by decide, r, hr.refA, rfl⟩ ⟨hs, hl⟩ 8) ?_
    rintro v s2 ⟨h1, hA, hk⟩
    obtain rfl : v = _ := h1
    rw [hX] at hA
    rw [← hd] at hX
    have hok := done_ok K hs 8 n
    have hcs : callS K s 8 n = if c1.err = 0 then (endS c1, 0) else (noS, c1.err) := by unfold callS; rw [hX]
    rw [hX] at hok
    rw [hcs]
    obtain ⟨q1, r2, q2, q3⟩ := And.intro hA.1 hA.2
    have q3 : s2.obj 2 = _ := q3
    have q3' := q3
    simp only [encC] at q3
    have o1 : s2.obj 1 = some (.cells 33 [.agg 33 [.agg 29 ((List.replicate 10 junk).map encW), .agg 30 ((List.replicate 8 junk).map encW), .mt true, .int .i64 0, .bool false, .int .i64 0]]) := (hk.2 1 (show 1 < 3 by decide) (by decide)).trans rfl
    simp only [go_sem, ↓reduceIte, Nat.reduceEqDiff, Nat.reduceAdd, reduceCtorEq, CCT, CCv, CCr, CCk, CCx, List.isEmpty_nil, Nat.reduceBNe, Nat.reduceBEq, Bool.or_false, Bool.false_or, Bool.or_true, Bool.true_or, Nat.reduceLeDiff, Nat.reduceLT, beqI, bneI, List.length_map, decide_true, decide_false, Int.reduceEq, Int.reduceLT, Int.reduceLE, Int.reduceGE, Int.reduceGT, not_true_eq_false, not_false_eq_true, Bool.and_true, Bool.true_and, Bool.and_false, Bool.false_and, and_true, true_and, and_self, Bool.not_not, q3]
    subst ht
    exact call_tail _ K c1 r2 q2 hok _ _ (by (try simp only [go_sem, ↓reduceIte, Nat.reduceEqDiff, Nat.reduceAdd, reduceCtorEq, CCT, CCv, CCr, CCk, CCx, List.isEmpty_nil, Nat.reduceBNe, Nat.reduceBEq, Bool.or_false, Bool.false_or, Bool.or_true, Bool.true_or, Nat.reduceLeDiff, Nat.reduceLT, beqI, bneI, List.length_map, decide_true, decide_false, Int.reduceEq, Int.reduceLT, Int.reduceLE, Int.reduceGE, Int.reduceGT, not_true_eq_false, not_false_eq_true, Bool.and_true, Bool.true_and, Bool.and_false, Bool.false_and, and_true, true_and, and_self, Bool.not_not, Int.toNat_natCast, List.length_take, *]) <;> (first | done | rfl | omega | (simp; done) | (simp; omega))) (by (try simp only [go_sem, ↓reduceIte, Nat.reduceEqDiff, Nat.reduceAdd, reduceCtorEq, CCT, CCv, CCr, CCk, CCx, List.isEmpty_nil, Nat.reduceBNe, Nat.reduceBEq, Bool.or_false, Bool.false_or, Bool.or_true, Bool.true_or, Nat.reduceLeDiff, Nat.reduceLT, beqI, bneI, List.length_map, decide_true, decide_false, Int.reduceEq, Int.reduceLT, Int.reduceLE, Int.reduceGE, Int.reduceGT, not_true_eq_false, not_false_eq_true, Bool.and_true, Bool.true_and, Bool.and_false, Bool.false_and, and_true, true_and, and_self, Bool.not_not, Int.toNat_natCast, List.length_take, *]) <;> (first | done | rfl | omega | (simp; done) | (simp; omega))) q3' o1 rfl

  have w8' := eq_false w8
  by_cases w9 : what = 9
  · subst w9
    obtain ⟨c1, hX⟩ : ∃ c1, doneS K s 9 n = c1 := ⟨_, rfl⟩
    have hd : doneS K s 9 n = listS K (begC s n) 9 := by simp [doneS]
    rw [hd] at hX
    simp only [go_sem, ↓reduceIte, Nat.reduceEqDiff, Nat.reduceAdd, reduceCtorEq, CCT, CCv, CCr, CCk, CCx, List.isEmpty_nil, Nat.reduceBNe, Nat.reduceBEq, Bool.or_false, Bool.false_or, Bool.or_true, Bool.true_or, Nat.reduceLeDiff, Nat.reduceLT, beqI, bneI, List.length_map, decide_true, decide_false, Int.reduceEq, Int.reduceLT, Int.reduceLE, Int.reduceGE, Int.reduceGT, not_true_eq_false, not_false_eq_true, Bool.and_true, Bool.true_and, Bool.and_false, Bool.false_and, and_true, true_and, and_self, Bool.not_not, hof]
    refine W.call (list_c _ (K := K) (id := 2) (c := begC s n) ⟨show 2 < 3 by decide, r, hr.refA, rfl⟩ ⟨hs, hl⟩ 9) ?_
    rintro v s2 ⟨h1, hA, hk⟩
    obtain rfl : v = _ := h1
    rw [hX] at hA
    rw [← hd] at hX
    have hok := done_ok K hs 9 n
    have hcs : callS K s 9 n = if c1.err = 0 then (endS c1, 0) else (noS, c1.err) := by unfold callS; rw [hX]
    rw [hX] at hok
    rw [hcs]
    obtain ⟨q1, r2, q2, q3⟩ := And.intro hA.1 hA.2
    have q3 : s2.obj 2 = _ := q3
    have q3' := q3
    simp only [encC] at q3
    have o1 : s2.obj 1 = some (.cells 33 [.agg 33 [.agg 29 ((List.replicate 10 junk).map encW), .agg 30 ((List.replicate 8 junk).map encW), .mt true, .int .i64 0, .bool false, .int .i64 0]]) := (hk.2 1 (show 1 < 3 by decide) (by decide)).trans rfl
    simp only [go_sem, ↓reduceIte, Nat.reduceEqDiff, Nat.reduceAdd, reduceCtorEq, CCT, CCv, CCr, CCk, CCx, List.isEmpty_nil, Nat.reduceBNe, Nat.reduceBEq, Bool.or_false, Bool.false_or, Bool.or_true, Bool.true_or, Nat.reduceLeDiff, Nat.reduceLT, beqI, bneI, List.length_map, decide_true, decide_false, Int.reduceEq, Int.reduceLT, Int.reduceLE, Int.reduceGE, Int.reduceGT, not_true_eq_false, not_false_eq_true, Bool.and_true, Bool.true_and, Bool.and_false, Bool.false_and, and_true, true_and, and_self, Bool.not_not, q3]
    subst ht
    exact call_tail _ K c1 r2 q2 hok _ _ (by (try simp only [go_sem, ↓reduceIte, Nat.reduceEqDiff, Nat.reduceAdd, reduceCtorEq, CCT, CCv, CCr, CCk, CCx, List.isEmpty_nil, Nat.reduceBNe, Nat.reduceBEq, Bool.or_false, Bool.false_or, Bool.or_true, Bool.true_or, Nat.reduceLeDiff, Nat.reduceLT, beqI, bneI, List.length_map, decide_true, decide_false, Int.reduceEq, Int.reduceLT, Int.reduceLE, Int.reduceGE, Int.reduceGT, not_true_eq_false, not_false_eq_true, Bool.and_true, Bool.true_and, Bool.and_false, Bool.false_and, and_true, true_and, and_self, Bool.not_not, Int.toNat_natCast, List.length_take, *]) <;> (first | done | rfl | omega | (simp; done) | (simp; omega))) (by (try simp only [go_sem, ↓reduceIte, Nat.reduceEqDiff, Nat.reduceAdd, reduceCtorEq, CCT, CCv, CCr, CCk, CCx, List.isEmpty_nil, Nat.reduceBNe, Nat.reduceBEq, Bool.or_false, Bool.false_or, Bool.or_true, Bool.true_or, Nat.reduceLeDiff, Nat.reduceLT, beqI, bneI, List.length_map, decide_true, decide_false, Int.reduceEq, Int.reduceLT, Int.reduceLE, Int.reduceGE, Int.reduceGT, not_true_eq_false, not_false_eq_true, Bool.and_true, Bool.true_and, Bool.and_false, Bool.false_and, and_true, true_and, and_self, Bool.not_not, Int.toNat_natCast, List.length_take, *]) <;> (first | done | rfl | omega | (simp; done) | (simp; omega))) q3' o1 rfl

  have w9' := eq_false w9
  by_cases w10 : what = 10
  · subst w10
    obtain ⟨c1, hX⟩ : ∃ c1, doneS K s 10 n = c1 := ⟨_, rfl⟩
    have hd : doneS K s 10 n = listS K (begC s n) 10 := by simp [doneS]
    rw [hd] at hX
    simp only [go_sem, ↓reduceIte, Nat.reduceEqDiff, Nat.reduceAdd, reduceCtorEq, CCT, CCv, CCr, CCk, CCx, List.isEmpty_nil, Nat.reduceBNe, Nat.reduceBEq, Bool.or_false, Bool.false_or, Bool.or_true, Bool.true_or, Nat.reduceLeDiff, Nat.reduceLT, beqI, bneI, List.length_map, decide_true, decide_false, Int.reduceEq, Int.reduceLT, Int.reduceLE, Int.reduceGE, Int.reduceGT, not_true_eq_false, not_false_eq_true, Bool.and_true, Bool.true_and, Bool.and_false, Bool.false_and, and_true, true_and, and_self, Bool.not_not, hof]
    refine W.call (list_c _ (K := K) (id := 2) (c := begC s n) ⟨show 2 < 3 by decide, r, hr.refA, rfl⟩ ⟨hs, hl⟩ 10) ?_
    rintro v s2 ⟨h1, hA, hk⟩
    obtain rfl : v = _ := h1
    rw [hX] at hA
    rw [← hd] at hX
    have hok := done_ok K hs 10 n
    have hcs : callS K s 10 n = if c1.err = 0 then (endS c1, 0) else (noS, c1.err) := by unfold callS; rw [hX]
    rw [hX] at hok
    rw [hcs]
    obtain ⟨q1, r2, q2, q3⟩ := And.intro hA.1 hA.2
    have q3 : s2.obj 2 = _ := q3
    have q3' := q3
    simp only [encC] at q3
    have o1 : s2.obj 1 = some (.cells 33 [.agg 33 [.agg 29 ((List.replicate 10 junk).map encW), .agg 30 ((List.replicate 8 junk).map encW), .mt true, .int .i64 0, .bool false, .int .i64 0]]) := (hk.2 1 (show 1 < 3 by decide) (by decide)).trans rfl
    simp only [go_sem, ↓reduceIte, Nat.reduceEqDiff, Nat.reduceAdd, reduceCtorEq, CCT, CCv, CCr, CCk, CCx, List.isEmpty_nil, Nat.reduceBNe, Nat.reduceBEq, Bool.or_false, Bool.false_or, Bool.or_true, Bool.true_or, Nat.reduceLeDiff, Nat.reduceLT, beqI, bneI, List.length_map, decide_true, decide_false, Int.reduceEq, Int.reduceLT, Int.reduceLE, Int.reduceGE, Int.reduceGT, not_true_eq_false, not_false_eq_true, Bool.and_true, Bool.true_and, Bool.and_false, Bool.false_and, and_true, true_and, and_self, Bool.not_not, q3]
    subst ht
    exact call_tail _ K c1 r2 q2 hok _ _ (by (try simp only [go_sem, ↓reduceIte, Nat.reduceEqDiff, Nat.reduceAdd, reduceCtorEq, CCT, CCv, CCr, CCk, CCx, List.isEmpty_nil, Nat.reduceBNe, Nat.reduceBEq, Bool.or_false, Bool.false_or, Bool.or_true, Bool.true_or, Nat.reduceLeDiff, Nat.reduceLT, beqI, bneI, List.length_map, decide_true, decide_false, Int.reduceEq, Int.reduceLT, Int.reduceLE, Int.reduceGE, Int.reduceGT, not_true_eq_false, not_false_eq_true, Bool.and_true, Bool.true_and, Bool.and_false, Bool.false_and, and_true, true_and, and_self, Bool.not_not, Int.toNat_natCast, List.length_take, *]) <;> (first | done | rfl | omega | (simp; done) | (simp; omega))) (by (try simp only [go_sem, ↓reduceIte, Nat.reduceEqDiff, Nat.reduceAdd, reduceCtorEq, CCT, CCv, CCr, CCk, CCx, List.isEmpty_nil, Nat.reduceBNe, Nat.reduceBEq, Bool.or_false, Bool.false_or, Bool.or_true, Bool.true_or, Nat.reduceLeDiff, Nat.reduceLT, beqI, bneI, List.length_map, decide_true, decide_false, Int.reduceEq, Int.reduceLT, Int.reduceLE, Int.reduceGE, Int.reduceGT, not_true_eq_false, not_false_eq_true, Bool.and_true, Bool.true_and, Bool.and_false, Bool.false_and, and_true, true_and, and_self, Bool.not_not, Int.toNat_natCast, List.length_take, *]) <;> (first | done | rfl | omega | (simp; done) | (simp; omega))) q3' o1 rfl

  have w10' := eq_false w10
  by_cases w11 : what = 11
  · subst w11
    obtain ⟨c1, hX⟩ : ∃ c1, doneS K s 11 n = c1 := ⟨_, rfl⟩
    have hd : doneS K s 11 n = listS K (begC s n) 11 := by simp [doneS]
    rw [hd] at hX
    simp only [go_sem, ↓reduceIte, Nat.reduceEqDiff, Nat.reduceAdd, reduceCtorEq, CCT, CCv, CCr, CCk, CCx, List.isEmpty_nil, Nat.reduceBNe, Nat.reduceBEq, Bool.or_false, Bool.false_or, Bool.or_true, Bool.true_or, Nat.reduceLeDiff, Nat.reduceLT, beqI, bneI, List.length_map, decide_true, decide_false, Int.reduceEq, Int.reduceLT, Int.reduceLE, Int.reduceGE, Int.reduceGT, not_true_eq_false, not_false_eq_true, Bool.and_true, Bool.true_and, Bool.and_false, Bool.false_and, and_true, true_and, and_self, Bool.not_not, hof]
    refine W.call (list_c _ (K := K) (id := 2) (c := begC s n) ⟨show 2 < 3 by decide, r, hr.refA, rfl⟩ ⟨hs, hl⟩ 11) ?_
    rintro v s2 ⟨h1, hA, hk⟩
    obtain rfl : v = _ := h1
    rw [hX] at hA
    rw [← hd] at hX
    have hok := done_ok K hs 11 n
    have hcs : callS K s 11 n = if c1.err = 0 then (endS c1, 0) else (noS, c1.err) := by unfold callS; rw [hX]
    rw [hX] at hok
    rw [hcs]
    obtain ⟨q1, r2, q2, q3⟩ := And.intro hA.1 hA.2
    have q3 : s2.obj 2 = _ := q3
    have q3' := q3
    simp only [encC] at q3
    have o1 : s2.obj 1 = some (.cells 33 [.agg 33 [.agg 29 ((List.replicate 10 junk).map encW), .agg 30 ((List.replicate 8 junk).map encW), .mt true, .int .i64 0, .bool false, .int .i64 0]]) := (hk.2 1 (show 1 < 3 by decide) (by decide)).trans rfl
    simp only [go_sem, ↓reduceIte, Nat.reduceEqDiff, Nat.reduceAdd, reduceCtorEq, CCT, CCv, CCr, CCk, CCx, List.isEmpty_nil, Nat.reduceBNe, Nat.reduceBEq, Bool.or_false, Bool.false_or, Bool.or_true, Bool.true_or, Nat.reduceLeDiff, Nat.reduceLT, beqI, bneI, List.length_map, decide_true, decide_false, Int.reduceEq, Int.reduceLT, Int.reduceLE, Int.reduceGE, Int.reduceGT, not_true_eq_false, not_false_eq_true, Bool.and_true, Bool.true_and, Bool.and_false, Bool.false_and, and_true, true_and, and_self, Bool.not_not, q3]
    subst ht
    exact call_tail _ K c1 r2 q2 hok _ _ (by (try simp only [go_sem, ↓reduceIte, Nat.reduceEqDiff, Nat.reduceAdd, reduceCtorEq, CCT, CCv, CCr, CCk, CCx, List.isEmpty_nil, Nat.reduceBNe, Nat.reduceBEq, Bool.or_false, Bool.false_or, Bool.or_true, Bool.true_or, Nat.reduceLeDiff, Nat.reduceLT, beqI, bneI, List.length_map, decide_true, decide_false, Int.reduceEq, Int.reduceLT, Int.reduceLE, Int.reduceGE, Int.reduceGT, not_true_eq_false, not_false_eq_true, Bool.and_true, Bool.true_and, Bool.and_false, Bool.false_and, and_true, true_and, and_self, Bool.not_not, Int.toNat_natCast, List.length_take, *]) <;> (first | done | rfl | omega | (simp; done) | (simp; omega))) (by (try simp only [go_sem, ↓reduceIte, Nat.reduceEqDiff, Nat.reduceAdd, reduceCtorEq, CCT, CCv, CCr, CCk, CCx, List.isEmpty_nil, Nat.reduceBNe, Nat.reduceBEq, Bool.or_false, Bool.false_or, Bool.or_true, Bool.true_or, Nat.reduceLeDiff, Nat.reduceLT, beqI, bneI, List.length_map, decide_true, decide_false, Int.reduceEq, Int.reduceLT, Int.reduceLE, Int.reduceGE, Int.reduceGT, not_true_eq_false, not_false_eq_true, Bool.and_true, Bool.true_and, Bool.and_false, Bool.false_and, and_true, true_and, and_self, Bool.not_not, Int.toNat_natCast, List.length_take, *]) <;> (first | done | rfl | omega | (simp; done) | (simp; omega))) q3' o1 rfl

  have w11' := eq_false w11
  by_cases w12 : what = 12
  · subst w12
    obtain ⟨c1, hX⟩ : ∃ c1, doneS K s 12 n = c1 := ⟨_, rfl⟩
    have hd : doneS K s 12 n = listS K (begC s n) 12 := by simp [doneS]
    rw [hd] at hX
    simp only [go_sem, ↓reduceIte, Nat.reduceEqDiff, Nat.reduceAdd, reduceCtorEq, CCT, CCv, CCr, CCk, CCx, List.isEmpty_nil, Nat.reduceBNe, Nat.reduceBEq, Bool.or_false, Bool.false_or, Bool.or_true, Bool.true_or, Nat.reduceLeDiff, Nat.reduceLT, beqI, bneI, List.length_map, decide_true, decide_false, Int.reduceEq, Int.reduceLT, Int.reduceLE, Int.reduceGE, Int.reduceGT, not_true_eq_false, not_false_eq_true, Bool.and_true, Bool.true_and, Bool.and_false, Bool.false_and, and_true, true_and, and_self, Bool.not_not, hof]
    refine W.call (list_c _ (K := K) (id := 2) (c := begC s n) ⟨show 2 < 3 by decide, r, hr.refA, rfl⟩ ⟨hs, hl⟩ 12) ?_
    rintro v s2 ⟨h1, hA, hk⟩
    obtain rfl : v = _ := h1
    rw [hX] at hA
    rw [← hd] at hX
    have hok := done_ok K hs 12 n
    have hcs : callS K s 12 n = if c1.err = 0 then (endS c1, 0) else (noS, c1.err) := by unfold callS; rw [hX]
    rw [hX] at hok
    rw [hcs]
    obtain ⟨q1, r2, q2, q3⟩ := And.intro hA.1 hA.2
    have q3 : s2.obj 2 = _ := q3
    have q3' := q3
    simp only [encC] at q3
    have o1 : s2.obj 1 = some (.cells 33 [.agg 33 [.agg 29 ((List.replicate 10 junk).map encW), .agg 30 ((List.replicate 8 junk).map encW), .mt true, .int .i64 0, .bool false, .int .i64 0]]) := (hk.2 1 (show 1 < 3 by decide) (by decide)).trans rfl
    simp only [go_sem, ↓reduceIte, Nat.reduceEqDiff, Nat.reduceAdd, reduceCtorEq, CCT, CCv, CCr, CCk, CCx, List.isEmpty_nil, Nat.reduceBNe, Nat.reduceBEq, Bool.or_false, Bool.false_or, Bool.or_true, Bool.true_or, Nat.reduceLeDiff, Nat.reduceLT, beqI, bneI, List.length_map, decide_true, decide_false, Int.reduceEq, Int.reduceLT, Int.reduceLE, Int.reduceGE, Int.reduceGT, not_true_eq_false, not_false_eq_true, Bool.and_true, Bool.true_and, Bool.and_false, Bool.false_and, and_true, true_and, and_self, Bool.not_not, q3]
    subst ht
    exact call_tail _ K c1 r2 q2 hok _ _ (by (try simp only [go_sem, ↓reduceIte, Nat.reduceEqDiff, Nat.reduceAdd, reduceCtorEq, CCT, CCv, CCr, CCk, CCx, List.isEmpty_nil, Nat.reduceBNe, Nat.reduceBEq, Bool.or_false, Bool.false_or, Bool.or_true, Bool.true_or, Nat.reduceLeDiff, Nat.reduceLT, beqI, bneI, List.length_map, decide_true, decide_false, Int.reduceEq, Int.reduceLT, Int.reduceLE, Int.reduceGE, Int.reduceGT, not_true_eq_false, not_false_eq_true, Bool.and_true, Bool.true_and, Bool.and_false, Bool.false_and, and_true, true_and, and_self, Bool.not_not, Int.toNat_natCast, List.length_take, *]) <;> (first | done | rfl | omega | (simp; done) | (simp; omega))) (by (try simp only [go_sem, ↓reduceIte, Nat.reduceEqDiff, Nat.reduceAdd, reduceCtorEq, CCT, CCv, CCr, CCk, CCx, List.isEmpty_nil, Nat.reduceBNe, Nat.reduceBEq, Bool.or_false, Bool.false_or, Bool.or_true, Bool.true_or, Nat.reduceLeDiff, Nat.reduceLT, beqI, bneI, List.length_map, decide_true, decide_false, Int.reduceEq, Int.reduceLT, Int.reduceLE, Int.reduceGE, Int.reduceGT, not_true_eq_false, not_false_eq_true, Bool.and_true, Bool.true_and, Bool.and_false, Bool.false_and, and_true, true_and, and_self, Bool.not_not, Int.toNat_natCast, List.length_take, *]) <;> (first | done | rfl | omega | (simp; done) | (simp; omega))) q3' o1 rfl

  have w12' := eq_false w12
  by_cases w13 : what = 13
  · subst w13
    obtain ⟨c1, hX⟩ : ∃ c1, doneS K s 13 n = c1 := ⟨_, rfl⟩
    have hd : doneS K s 13 n = listS K (begC s n) 13 := by simp [doneS]
    rw [hd] at hX
    simp only [go_sem, ↓reduceIte, Nat.reduceEqDiff, Nat.reduceAdd, reduceCtorEq, CCT, CCv, CCr, CCk, CCx, List.isEmpty_nil, Nat.reduceBNe, Nat.reduceBEq, Bool.or_false, Bool.false_or, Bool.or_true, Bool.true_or, Nat.reduceLeDiff, Nat.reduceLT, beqI, bneI, List.length_map, decide_true, decide_false, Int.reduceEq, Int.reduceLT, Int.reduceLE, Int.reduceGE, Int.reduceGT, not_true_eq_false, not_false_eq_true, Bool.and_true, Bool.true_and, Bool.and_false, Bool.false_and, and_true, true_and, and_self, Bool.not_not, hof]
    refine W.call (list_c _ (K := K) (id := 2) (c := begC s n) ⟨show 2 < 3 by decide, r, hr.refA, rfl⟩ ⟨hs, hl⟩ 13) ?_
    rintro v s2 ⟨h1, hA, hk⟩
    obtain rfl : v = _ := h1
    rw [hX] at hA
    rw [← hd] at hX
    have hok := done_ok K hs 13 n
    have hcs : callS K s 13 n = if c1.err = 0 then (endS c1, 0) else (noS, c1.err) := by unfold callS; rw [hX]
    rw [hX] at hok
    rw [hcs]
    obtain ⟨q1, r2, q2, q3⟩ := And.intro hA.1 hA.2
    have q3 : s2.obj 2 = _ := q3
    have q3' := q3
    simp only [encC] at q3
    have o1 : s2.obj 1 = some (.cells 33 [.agg 33 [.agg 29 ((List.replicate 10 junk).map encW), .agg 30 ((List.replicate 8 junk).map encW), .mt true, .int .i64 0, .bool false, .int .i64 0]]) := (hk.2 1 (show 1 < 3 by decide) (by decide)).trans rfl
    simp only [go_sem, ↓reduceIte, Nat.reduceEqDiff, Nat.reduceAdd, reduceCtorEq, CCT, CCv, CCr, CCk, CCx, List.isEmpty_nil, Nat.reduceBNe, Nat.reduceBEq, Bool.or_false, Bool.false_or, Bool.or_true, Bool.true_or, Nat.reduceLeDiff, Nat.reduceLT, beqI, bneI, List.length_map, decide_true, decide_false, Int.reduceEq, Int.reduceLT, Int.reduceLE, Int.reduceGE, Int.reduceGT, not_true_eq_false, not_false_eq_true, Bool.and_true, Bool.true_and, Bool.and_false, Bool.false_and, and_true, true_and, and_self, Bool.not_not, q3]
    subst ht
    exact call_tail _ K c1 r2 q2 hok _ _ (by (try simp only [go_sem, ↓reduceIte, Nat.reduceEqDiff, Nat.reduceAdd, reduceCtorEq, CCT, CCv, CCr, CCk, CCx, List.isEmpty_nil, Nat.reduceBNe, Nat.reduceBEq, Bool.or_false, Bool.false_or, Bool.or_true, Bool.true_or, Nat.reduceLeDiff, Nat.reduceLT, beqI, bneI, List.length_map, decide_true, decide_false, Int.reduceEq, Int.reduceLT, Int.reduceLE, Int.reduceGE, Int.reduceGT, not_true_eq_false, not_false_eq_true, Bool.and_true, Bool.true_and, Bool.and_false, Bool.false_and, and_true, true_and, and_self, Bool.not_not, Int.toNat_natCast, List.length_take, *]) <;> (first | done | rfl | omega | (simp; done) | (simp; omega))) (by (try simp only [go_sem, ↓reduceIte, Nat.reduceEqDiff, Nat.reduceAdd, reduceCtorEq, CCT, CCv, CCr, CCk, CCx, List.isEmpty_nil, Nat.reduceBNe, Nat.reduceBEq, Bool.or_false, Bool.false_or, Bool.or_true, Bool.true_or, Nat.reduceLeDiff, Nat.reduceLT, beqI, bneI, List.length_map, decide_true, decide_false, Int.reduceEq, Int.reduceLT, Int.reduceLE, Int.reduceGE, Int.reduceGT, not_true_eq_false, not_false_eq_true, Bool.and_true, Bool.true_and, Bool.and_false, Bool.false_and, and_true, true_and, and_self, Bool.not_not, Int.toNat_natCast, List.length_take, *]) <;> (first | done | rfl | omega | (simp; done) | (simp; omega))) q3' o1 rfl

  have w13' := eq_false w13
  by_cases w14 : what = 14
  · subst w14
    obtain ⟨c1, hX⟩ : ∃ c1, doneS K s 14 n = c1 := ⟨_, rfl⟩
    have hd : doneS K s 14 n = treeS K (begC s n) 14 := by simp [doneS]
    rw [hd] at hX
    simp only [go_sem, ↓reduceIte, Nat.reduceEqDiff, Nat.reduceAdd, reduceCtorEq, CCT, CCv, CCr, CCk, CCx, List.isEmpty_nil, Nat.reduceBNe, Nat.reduceBEq, Bool.or_false, Bool.false_or, Bool.or_true, Bool.true_or, Nat.reduceLeDiff, Nat.reduceLT, beqI, bneI, List.length_map, decide_true, decide_false, Int.reduceEq, Int.reduceLT, Int.reduceLE, Int.reduceGE, Int.reduceGT, not_true_eq_false, not_false_eq_true, Bool.and_true, Bool.true_and, Bool.and_false, Bool.false_and, and_true, true_and, and_self, Bool.not_not, hof]
    refine W.call (tree_c _ (K := K) (id := 2) (c := begC s n) ⟨show 2 < 3 by decide, r, hr.refA, rfl⟩ ⟨hs, hl⟩ 14) ?_
    rintro v s2 ⟨h1, hA, hk⟩
    obtain rfl : v = _ := h1
    rw [hX] at hA
    rw [← hd] at hX
    have hok := done_ok K hs 14 n
    have hcs : callS K s 14 n = if c1.err = 0 then (endS c1, 0) else (noS, c1.err) := by unfold callS; rw [hX]
    rw [hX] at hok
    rw [hcs]
    obtain ⟨q1, r2, q2, q3⟩ := And.intro hA.1 hA.2
    have q3 : s2.obj 2 = _ := q3
    have q3' := q3
    simp only [encC] at q3
    have o1 : s2.obj 1 = some (.cells 33 [.agg 33 [.agg 29 ((List.replicate 10 junk).map encW), .agg 30 ((List.replicate 8 junk).map encW), .mt true, .int .i64 0, .bool false, .int .i64 0]]) := (hk.2 1 (show 1 < 3 by decide) (by decide)).trans rfl
    simp only [go_sem, ↓reduceIte, Nat.reduceEqDiff, Nat.reduceAdd, reduceCtorEq, CCT, CCv, CCr, CCk, CCx, List.isEmpty_nil, Nat.reduceBNe, Nat.reduceBEq, Bool.or_false, Bool.false_or, Bool.or_true, Bool.true_or, Nat.reduceLeDiff, Nat.reduceLT, beqI, bneI, List.length_map, decide_true, decide_false, Int.reduceEq, Int.reduceLT, Int.reduceLE, Int.reduceGE, Int.reduceGT, not_true_eq_false, not_false_eq_true, Bool.and_true, Bool.true_and, Bool.and_false, Bool.false_and, and_true, true_and, and_self, Bool.not_not, q3]
    subst ht
    exact call_tail _ K c1 r2 q2 hok _ _ (by (try simp only [go_sem, ↓reduceIte, Nat.reduceEqDiff, Nat.reduceAdd, reduceCtorEq, CCT, CCv, CCr, CCk, CCx, List.isEmpty_nil, Nat.reduceBNe, Nat.reduceBEq, Bool.or_false, Bool.false_or, Bool.or_true, Bool.true_or, Nat.reduceLeDiff, Nat.reduceLT, beqI, bneI, List.length_map, decide_true, decide_false, Int.reduceEq, Int.reduceLT, Int.reduceLE, Int.reduceGE, Int.reduceGT, not_true_eq_false, not_false_eq_true, Bool.and_true, Bool.true_and, Bool.and_false, Bool.false_and, and_true, true_and, and_self, Bool.not_not, Int.toNat_natCast, List.length_take, *]) <;> (first | done | rfl | omega | (simp; done) | (simp; omega))) (by (try simp only [go_sem, ↓reduceIte, Nat.reduceEqDiff, Nat.reduceAdd, reduceCtorEq, CCT, CCv, CCr, CCk, CCx, List.isEmpty_nil, Nat.reduceBNe, Nat.reduceBEq, Bool.or_false, Bool.false_or, Bool.or_true, Bool.true_or, Nat.reduceLeDiff, Nat.reduceLT, beqI, bneI, List.length_map, decide_true, decide_false, Int.reduceEq, Int.reduceLT, Int.reduceLE, Int.reduceGE, Int.reduceGT, not_true_eq_false, not_false_eq_true, Bool.and_true, Bool.true_and, Bool.and_false, Bool.false_and, and_true, true_and, and_self, Bool.not_not, Int.toNat_natCast, List.length_take, *]) <;> (first | done | rfl | omega | (simp; done) | (simp; omega))) q3' o1 rfl

  have w14' := eq_false w14
  by_cases w15 : what = 15
  · subst w15
    obtain ⟨c1, hX⟩ : ∃ c1, doneS K s 15 n = c1 := ⟨_, rfl⟩
    have hd : doneS K s 15 n = treeS K (begC s n) 15 := by simp [doneS]
    rw [hd] at hX
    simp only [go_sem, ↓reduceIte, Nat.reduceEqDiff, Nat.reduceAdd, reduceCtorEq, CCT, CCv, CCr, CCk, CCx, List.isEmpty_nil, Nat.reduceBNe, Nat.reduceBEq, Bool.or_false, Bool.false_or, Bool.or_true, Bool.true_or, Nat.reduceLeDiff, Nat.reduceLT, beqI, bneI, List.length_map, decide_true, decide_false, Int.reduceEq, Int.reduceLT, Int.reduceLE, Int.reduceGE, Int.reduceGT, not_true_eq_false, not_false_eq_true, Bool.and_true, Bool.true_and, Bool.and_false, Bool.false_and, and_true, true_and, and_self, Bool.not_not, hof]
    refine W.call (tree_c _ (K := K) (id := 2) (c := begC s n) ⟨show 2 < 3 by decide, r, hr.refA, rfl⟩ ⟨hs, hl⟩ 15) ?_
    rintro v s2 ⟨h1, hA, hk⟩
    obtain rfl : v = _ := h1
    rw [hX] at hA
    rw [← hd] at hX
    have hok := done_ok K hs 15 n
    have hcs : callS K s 15 n = if c1.err = 0 then (endS c1, 0) else (noS, c1.err) := by unfold callS; rw [hX]
    rw [hX] at hok
    rw [hcs]
    obtain ⟨q1, r2, q2, q3⟩ := And.intro hA.1 hA.2
    have q3 : s2.obj 2 = _ := q3
    have q3' := q3
    simp only [encC] at q3
    have o1 : s2.obj 1 = some (.cells 33 [.agg 33 [.agg 29 ((List.replicate 10 junk).map encW), .agg 30 ((List.replicate 8 junk).map encW), .mt true, .int .i64 0, .bool false, .int .i64 0]]) := (hk.2 1 (show 1 < 3 by decide) (by decide)).trans rfl
    simp only [go_sem, ↓reduceIte, Nat.reduceEqDiff, Nat.reduceAdd, reduceCtorEq, CCT, CCv, CCr, CCk, CCx, List.isEmpty_nil, Nat.reduceBNe, Nat.reduceBEq, Bool.or_false, Bool.false_or, Bool.or_true, Bool.true_or, Nat.reduceLeDiff, Nat.reduceLT, beqI, bneI, List.length_map, decide_true, decide_false, Int.reduceEq, Int.reduceLT, Int.reduceLE, Int.reduceGE, Int.reduceGT, not_true_eq_false, not_false_eq_true, Bool.and_true, Bool.true_and, Bool.and_false, Bool.false_and, and_true, true_and, and_self, Bool.not_not, q3]
    subst ht
    exact call_tail _ K c1 r2 q2 hok _ _ (by (try simp only [go_sem, ↓reduceIte, Nat.reduceEqDiff, Nat.reduceAdd, reduceCtorEq, CCT, CCv, CCr, CCk, CCx, List.isEmpty_nil, Nat.reduceBNe, Nat.reduceBEq, Bool.or_false, Bool.false_or, Bool.or_true, Bool.true_or, Nat.reduceLeDiff, Nat.reduceLT, beqI, bneI, List.length_map, decide_true, decide_false, Int.reduceEq, Int.reduceLT, Int.reduceLE, Int.reduceGE, Int.reduceGT, not_true_eq_false, not_false_eq_true, Bool.and_true, Bool.true_and, Bool.and_false, Bool.false_and, and_true, true_and, and_self, Bool.not_not, Int.toNat_natCast, List.length_take, *]) <;> (first | done | rfl | omega | (simp; done) | (simp; omega))) (by (try simp only [go_sem, ↓reduceIte, Nat.reduceEqDiff, Nat.reduceAdd, reduceCtorEq, CCT, CCv, CCr, CCk, CCx, List.isEmpty_nil, Nat.reduceBNe, Nat.reduceBEq, Bool.or_false, Bool.false_or, Bool.or_true, Bool.true_or, Nat.reduceLeDiff, Nat.reduceLT, beqI, bneI, List.length_map, decide_true, decide_false, Int.reduceEq, Int.reduceLT, Int.reduceLE, Int.reduceGE, Int.reduceGT, not_true_eq_false, not_false_eq_true, Bool.and_true, Bool.true_and, Bool.and_false, Bool.false_and, and_true, true_and, and_self, Bool.not_not, Int.toNat_natCast, List.length_take, *]) <;> (first | done | rfl | omega | (simp; done) | (simp; omega))) q3' o1 rfl

  have w15' := eq_false w15
  by_cases w16 : what = 16
  · subst w16
    obtain ⟨c1, hX⟩ : ∃ c1, doneS K s 16 n = c1 := ⟨_, rfl⟩
    have hd : doneS K s 16 n = treeS K (begC s n) 16 := by simp [doneS]
    rw [hd] at hX
    simp only [go_sem, ↓reduceIte, Nat.reduceEqDiff, Nat.reduceAdd, reduceCtorEq, CCT, CCv, CCr, CCk, CCx, List.isEmpty_nil, Nat.reduceBNe, Nat.reduceBEq, Bool.or_false, Bool.false_or, Bool.or_true, Bool.true_or, Nat.reduceLeDiff, Nat.reduceLT, beqI, bneI, List.length_map, decide_true, decide_false, Int.reduceEq, Int.reduceLT, Int.reduceLE, Int.reduceGE, Int.reduceGT, not_true_eq_false, not_false_eq_true, Bool.and_true, Bool.true_and, Bool.and_false, Bool.false_and, and_true, true_and, and_self, Bool.not_not, hof]
    refine W.call (tree_c _ (K := K) (id := 2) (c := begC s n) ⟨show 2 < 3 by decide, r, hr.refA, rfl⟩ ⟨hs, hl⟩ 16) ?_
    rintro v s2 ⟨h1, hA, hk⟩
    obtain rfl : v = _ := h1
    rw [hX] at hA
    rw [← hd] at hX
    have hok := done_ok K hs 16 n
    have hcs : callS K s 16 n = if c1.err = 0 then (endS c1, 0) else (noS, c1.err) := by unfold callS; rw [hX]
    rw [hX] at hok
    rw [hcs]
    obtain ⟨q1, r2, q2, q3⟩ := And.intro hA.1 hA.2
    have q3 : s2.obj 2 = _ := q3
    have q3' := q3
    simp only [encC] at q3
    have o1 : s2.obj 1 = some (.cells 33 [.agg 33 [.agg 29 ((List.replicate 10 junk).map encW), .agg 30 ((List.replicate 8 junk).map encW), .mt true, .int .i64 0, .bool false, .int .i64 0]]) := (hk.2 1 (show 1 < 3 by decide) (by decide)).trans rfl
    simp only [go_sem, ↓reduceIte, Nat.reduceEqDiff, Nat.reduceAdd, reduceCtorEq, CCT, CCv, CCr, CCk, CCx, List.isEmpty_nil, Nat.reduceBNe, Nat.reduceBEq, Bool.or_false, Bool.false_or, Bool.or_true, Bool.true_or, Nat.reduceLeDiff, Nat.reduceLT, beqI, bneI, List.length_map, decide_true, decide_false, Int.reduceEq, Int.reduceLT, Int.reduceLE, Int.reduceGE, Int.reduceGT, not_true_eq_false, not_false_eq_true, Bool.and_true, Bool.true_and, Bool.and_false, Bool.false_and, and_true, true_and, and_self, Bool.not_not, q3]
    subst ht
    exact call_tail _ K c1 r2 q2 hok _ _ (by (try simp only [go_sem, ↓reduceIte, Nat.reduceEqDiff, Nat.reduceAdd, reduceCtorEq, CCT, CCv, CCr, CCk, CCx, List.isEmpty_nil, Nat.reduceBNe, Nat.reduceBEq, Bool.or_false, Bool.false_or, Bool.or_true, Bool.true_or, Nat.reduceLeDiff, Nat.reduceLT, beqI, bneI, List.length_map, decide_true, decide_false, Int.reduceEq, Int.reduceLT, Int.reduceLE, Int.reduceGE, Int.reduceGT, not_true_eq_false, not_false_eq_true, Bool.and_true, Bool.true_and, Bool.and_false, Bool.false_and, and_true, true_and, and_self, Bool.not_not, Int.toNat_natCast, List.length_take, *]) <;> (first | done | rfl | omega | (simp; done) | (simp; omega))) (by (try simp only [go_sem, ↓reduceIte, Nat.reduceEqDiff, Nat.reduceAdd, reduceCtorEq, CCT, CCv, CCr, CCk, CCx, List.isEmpty_nil, Nat.reduceBNe, Nat.reduceBEq, Bool.or_false, Bool.false_or, Bool.or_true, Bool.true_or, Nat.reduceLeDiff, Nat.reduceLT, beqI, bneI, List.length_map, decide_true, decide_false, Int.reduceEq, Int.reduceLT, Int.reduceLE, Int.reduceGE, Int.reduceGT, not_true_eq_false, not_false_eq_true, Bool.and_true, Bool.true_and, Bool.and_false, Bool.false_and, and_true, true_and, and_self, Bool.not_not, Int.toNat_natCast, List.length_take, *]) <;> (first | done | rfl | omega | (simp; done) | (simp; omega))) q3' o1 rfl

  have w16' := eq_false w16
  by_cases w17 : what = 17
  · subst w17
    obtain ⟨c1, hX⟩ : ∃ c1, doneS K s 17 n = c1 := ⟨_, rfl⟩
    have hd : doneS K s 17 n = treeS K (begC s n) 17 := by simp [doneS]
    rw [hd] at hX
    simp only [go_sem, ↓reduceIte, Nat.reduceEqDiff, Nat.reduceAdd, reduceCtorEq, CCT, CCv, CCr, CCk, CCx, List.isEmpty_nil, Nat.reduceBNe, Nat.reduceBEq, Bool.or_false, Bool.false_or, Bool.or_true, Bool.true_or, Nat.reduceLeDiff, Nat.reduceLT, beqI, bneI, List.length_map, decide_true, decide_false, Int.reduceEq, Int.reduceLT, Int.reduceLE, Int.reduceGE, Int.reduceGT, not_true_eq_false, not_false_eq_true, Bool.and_true, Bool.true_and, Bool.and_false, Bool.false_and, and_true, true_and, and_self, Bool.not_not, hof]
    refine W.call (tree_c _ (K := K) (id := 2) (c := begC s n) ⟨show 2 < 3 by decide, r, hr.refA, rfl⟩ ⟨hs, hl⟩ 17) ?_
    rintro v s2 ⟨h1, hA, hk⟩
    obtain rfl : v = _ := h1
    rw [hX] at hA
    rw [← hd] at hX
    have hok := done_ok K hs 17 n
    have hcs : callS K s 17 n = if c1.err = 0 then (endS c1, 0) else (noS, c1.err) := by unfold callS; rw [hX]
    rw [hX] at hok
    rw [hcs]
    obtain ⟨q1, r2, q2, q3⟩ := And.intro hA.1 hA.2
    have q3 : s2.obj 2 = _ := q3
    have q3' := q3
    simp only [encC] at q3
    have o1 : s2.obj 1 = some (.cells 33 [.agg 33 [.agg 29 ((List.replicate 10 junk).map encW), .agg 30 ((List.replicate 8 junk).map encW), .mt true, .int .i64 0, .bool false, .int .i64 0]]) := (hk.2 1 (show 1 < 3 by decide) (by decide)).trans rfl
    simp only [go_sem, ↓reduceIte, Nat.reduceEqDiff, Nat.reduceAdd, reduceCtorEq, CCT, CCv, CCr, CCk, CCx, List.isEmpty_nil, Nat.reduceBNe, Nat.reduceBEq, Bool.or_false, Bool.false_or, Bool.or_true, Bool.true_or, Nat.reduceLeDiff, Nat.reduceLT, beqI, bneI, List.length_map, decide_true, decide_false, Int.reduceEq, Int.reduceLT, Int.reduceLE, Int.reduceGE, Int.reduceGT, not_true_eq_false, not_false_eq_true, Bool.and_true, Bool.true_and, Bool.and_false, Bool.false_and, and_true, true_and, and_self, Bool.not_not, q3]
    subst ht
    exact call_tail _ K c1 r2 q2 hok _ _ (by (try simp only [go_sem, ↓reduceIte, Nat.reduceEqDiff, Nat.reduceAdd, reduceCtorEq, CCT, CCv, CCr, CCk, CCx, List.isEmpty_nil, Nat.reduceBNe, Nat.reduceBEq, Bool.or_false, Bool.false_or, Bool.or_true, Bool.true_or, Nat.reduceLeDiff, Nat.reduceLT, beqI, bneI, List.length_map, decide_true, decide_false, Int.reduceEq, Int.reduceLT, Int.reduceLE, Int.reduceGE, Int.reduceGT, not_true_eq_false, not_false_eq_true, Bool.and_true, Bool.true_and, Bool.and_false, Bool.false_and, and_true, true_and, and_self, Bool.not_not, Int.toNat_natCast, List.length_take, *]) <;> (first | done | rfl | omega | (simp; done) | (simp; omega))) (by (try simp only [go_sem, ↓reduceIte, Nat.reduceEqDiff, Nat.reduceAdd, reduceCtorEq, CCT, CCv, CCr, CCk, CCx, List.isEmpty_nil, Nat.reduceBNe, Nat.reduceBEq, Bool.or_false, Bool.false_or, Bool.or_true, Bool.true_or, Nat.reduceLeDiff, Nat.reduceLT, beqI, bneI, List.length_map, decide_true, decide_false, Int.reduceEq, Int.reduceLT, Int.reduceLE, Int.reduceGE, Int.reduceGT, not_true_eq_false, not_false_eq_true, Bool.and_true, Bool.true_and, Bool.and_false, Bool.false_and, and_true, true_and, and_self, Bool.not_not, Int.toNat_natCast, List.length_take, *]) <;> (first | done | rfl | omega | (simp; done) | (simp; omega))) q3' o1 rfl

  have w17' := eq_false w17
  by_cases w18 : what = 18
  · subst w18
    obtain ⟨c1, hX⟩ : ∃ c1, doneS K s 18 n = c1 := ⟨_, rfl⟩
    have hd : doneS K s 18 n = treeS K (begC s n) 18 := by simp [doneS]
    rw [hd] at hX
    simp only [go_sem, ↓reduceIte, Nat.reduceEqDiff, Nat.reduceAdd, reduceCtorEq, CCT, CCv, CCr, CCk, CCx, List.isEmpty_nil, Nat.reduceBNe, Nat.reduceBEq, Bool.or_false, Bool.false_or, Bool.or_true, Bool.true_or, Nat.reduceLeDiff, Nat.reduceLT, beqI, bneI, List.length_map, decide_true, decide_false, Int.reduceEq, Int.reduceLT, Int.reduceLE, Int.reduceGE, Int.reduceGT, not_true_eq_false, not_false_eq_true, Bool.and_true, Bool.true_and, Bool.and_false, Bool.false_and, and_true, true_and, and_self, Bool.not_not, hof]
    refine W.call (tree_c _ (K := K) (id := 2) (c := begC s n) ⟨show 2 < 3 by decide, r, hr.refA, rfl⟩ ⟨hs, hl⟩ 18) ?_
    rintro v s2 ⟨h1, hA, hk⟩
    obtain rfl : v = _ := h1
    rw [hX] at hA
    rw [← hd] at hX
    have hok := done_ok K hs 18 n
    have hcs : callS K s 18 n = if c1.err = 0 then (endS c1, 0) else (noS, c1.err) := by unfold callS; rw [hX]
    rw [hX] at hok
    rw [hcs]
    obtain ⟨q1, r2, q2, q3⟩ := And.intro hA.1 hA.2
    have q3 : s2.obj 2 = _ := q3
    have q3' := q3
    simp only [encC] at q3
    have o1 : s2.obj 1 = some (.cells 33 [.agg 33 [.agg 29 ((List.replicate 10 junk).map encW), .agg 30 ((List.replicate 8 junk).map encW), .mt true, .int .i64 0, .bool false, .int .i64 0]]) := (hk.2 1 (show 1 < 3 by decide) (by decide)).trans rfl
    simp only [go_sem, ↓reduceIte, Nat.reduceEqDiff, Nat.reduceAdd, reduceCtorEq, CCT, CCv, CCr, CCk, CCx, List.isEmpty_nil, Nat.reduceBNe, Nat.reduceBEq, Bool.or_false, Bool.false_or, Bool.or_true, Bool.true_or, Nat.reduceLeDiff, Nat.reduceLT, beqI, bneI, List.length_map, decide_true, decide_false, Int.reduceEq, Int.reduceLT, Int.reduceLE, Int.reduceGE, Int.reduceGT, not_true_eq_false, not_false_eq_true, Bool.and_true, Bool.true_and, Bool.and_false, Bool.false_and, and_true, true_and, and_self, Bool.not_not, q3]
    subst ht
    exact call_tail _ K c1 r2 q2 hok _ _ (by (try simp only [go_sem, ↓reduceIte, Nat.reduceEqDiff, Nat.reduceAdd, reduceCtorEq, CCT, CCv, CCr, CCk, CCx, List.isEmpty_nil, Nat.reduceBNe, Nat.reduceBEq, Bool.or_false, Bool.false_or, Bool.or_true, Bool.true_or, Nat.reduceLeDiff, Nat.reduceLT, beqI, bneI, List.length_map, decide_true, decide_false, Int.reduceEq, Int.reduceLT, Int.reduceLE, Int.reduceGE, Int.reduceGT, not_true_eq_false, not_false_eq_true, Bool.and_true, Bool.true_and, Bool.and_false, Bool.false_and, and_true, true_and, and_self, Bool.not_not, Int.toNat_natCast, List.length_take, *]) <;> (first | done | rfl | omega | (simp; done) | (simp; omega))) (by (try simp only [go_sem, ↓reduceIte, Nat.reduceEqDiff, Nat.reduceAdd, reduceCtorEq, CCT, CCv, CCr, CCk, CCx, List.isEmpty_nil, Nat.reduceBNe, Nat.reduceBEq, Bool.or_false, Bool.false_or, Bool.or_true, Bool.true_or, Nat.reduceLeDiff, Nat.reduceLT, beqI, bneI, List.length_map, decide_true, decide_false, Int.reduceEq, Int.reduceLT, Int.reduceLE, Int.reduceGE, Int.reduceGT, not_true_eq_false, not_false_eq_true, Bool.and_true, Bool.true_and, Bool.and_false, Bool.false_and, and_true, true_and, and_self, Bool.not_not, Int.toNat_natCast, List.length_take, *]) <;> (first | done | rfl | omega | (simp; done) | (simp; omega))) q3' o1 rfl

  have w18' := eq_false w18
  by_cases w19 : what = 19
  · subst w19
    obtain ⟨c1, hX⟩ : ∃ c1, doneS K s 19 n = c1 := ⟨_, rfl⟩
    have hd : doneS K s 19 n = pointerS K (begC s n) 19 := by simp [doneS]
    rw [hd] at hX
    simp only [go_sem, ↓reduceIte, Nat.reduceEqDiff, Nat.reduceAdd, reduceCtorEq, CCT, CCv, CCr, CCk, CCx, List.isEmpty_nil, Nat.reduceBNe, Nat.reduceBEq, Bool.or_false, Bool.false_or, Bool.or_true, Bool.true_or, Nat.reduceLeDiff, Nat.reduceLT, beqI, bneI, List.length_map, decide_true, decide_false, Int.reduceEq, Int.reduceLT, Int.reduceLE, Int.reduceGE, Int.reduceGT, not_true_eq_false, not_false_eq_true, Bool.and_true, Bool.true_and, Bool.and_false, Bool.false_and, and_true, true_and, and_self, Bool.not_not, hof]
    refine W.call (pointer_c _ (K := K) (id := 2) (c := begC s n) ⟨show 2 < 3 by decide, r, hr.refA, rfl⟩ ⟨hs, hl⟩ 19) ?_
    rintro v s2 ⟨h1, hA, hk⟩
    obtain rfl : v = _ := h1
    rw [hX] at hA
    rw [← hd] at hX
    have hok := done_ok K hs 19 n
    have hcs : callS K s 19 n = if c1.err = 0 then (endS c1, 0) else (noS, c1.err) := by unfold callS; rw [hX]
    rw [hX] at hok
    rw [hcs]
    obtain ⟨q1, r2, q2, q3⟩ := And.intro hA.1 hA.2
    have q3 : s2.obj 2 = _ := q3
    have q3' := q3
    simp only [encC] at q3
    have o1 : s2.obj 1 = some (.cells 33 [.agg 33 [.agg 29 ((List.replicate 10 junk).map encW), .agg 30 ((List.replicate 8 junk).map encW), .mt true, .int .i64 0, .bool false, .int .i64 0]]) := (hk.2 1 (show 1 < 3 by decide) (by decide)).trans rfl
    simp only [go_sem, ↓reduceIte, Nat.reduceEqDiff, Nat.reduceAdd, reduceCtorEq, CCT, CCv, CCr, CCk, CCx, List.isEmpty_nil, Nat.reduceBNe, Nat.reduceBEq, Bool.or_false, Bool.false_or, Bool.or_true, Bool.true_or, Nat.reduceLeDiff, Nat.reduceLT, beqI, bneI, List.length_map, decide_true, decide_false, Int.reduceEq, Int.reduceLT, Int.reduceLE, Int.reduceGE, Int.reduceGT, not_true_eq_false, not_false_eq_true, Bool.and_true, Bool.true_and, Bool.and_false, Bool.false_and, and_true, true_and, and_self, Bool.not_not, q3]
    subst ht
    exact call_tail _ K c1 r2 q2 hok _ _ (by (try simp only [go_sem, ↓reduceIte, Nat.reduceEqDiff, Nat.reduceAdd, reduceCtorEq, CCT, CCv, CCr, CCk, CCx, List.isEmpty_nil, Nat.reduceBNe, Nat.reduceBEq, Bool.or_false, Bool.false_or, Bool.or_true, Bool.true_or, Nat.reduceLeDiff, Nat.reduceLT, beqI, bneI, List.length_map, decide_true, decide_false, Int.reduceEq, Int.reduceLT, Int.reduceLE, Int.reduceGE, Int.reduceGT, not_true_eq_false, not_false_eq_true, Bool.and_true, Bool.true_and, Bool.and_false, Bool.false_and, and_true, true_and, and_self, Bool.not_not, Int.toNat_natCast, List.length_take, *]) <;> (first | done | rfl | omega | (simp; done) | (simp; omega))) (by (try simp only [go_sem, ↓reduceIte, Nat.reduceEqDiff, Nat.reduceAdd, reduceCtorEq, CCT, CCv, CCr, CCk, CCx, List.isEmpty_nil, Nat.reduceBNe, Nat.reduceBEq, Bool.or_false, Bool.false_or, Bool.or_true, Bool.true_or, Nat.reduceLeDiff, Nat.reduceLT, beqI, bneI, List.length_map, decide_true, decide_false, Int.reduceEq, Int.reduceLT, Int.reduceLE, Int.reduceGE, Int.reduceGT, not_true_eq_false, not_false_eq_true, Bool.and_true, Bool.true_and, Bool.and_false, Bool.false_and, and_true, true_and, and_self, Bool.not_not, Int.toNat_natCast, List.length_take, *]) <;> (first | done | rfl | omega | (simp; done) | (simp; omega))) q3' o1 rfl

  have w19' := eq_false w19
  by_cases w20 : what = 20
  · subst w20
    obtain ⟨c1, hX⟩ : ∃ c1, doneS K s 20 n = c1 := ⟨_, rfl⟩
    have hd : doneS K s 20 n = pointerS K (begC s n) 20 := by simp [doneS]
    rw [hd] at hX
    simp only [go_sem, ↓reduceIte, Nat.reduceEqDiff, Nat.reduceAdd, reduceCtorEq, CCT, CCv, CCr, CCk, CCx, List.isEmpty_nil, Nat.reduceBNe, Nat.reduceBEq, Bool.or_false, Bool.false_or, Bool.or_true, Bool.true_or, Nat.reduceLeDiff, Nat.reduceLT, beqI, bneI, List.length_map, decide_true, decide_false, Int.reduceEq, Int.reduceLT, Int.reduceLE, Int.reduceGE, Int.reduceGT, not_true_eq_false, not_false_eq_true, Bool.and_true, Bool.true_and, Bool.and_false, Bool.false_and, and_true, true_and, and_self, Bool.not_not, hof]
    refine W.call (pointer_c _ (K := K) (id := 2) (c := begC s n) ⟨show 2 < 3 by decide, r, hr.refA, rfl⟩ ⟨hs, hl⟩ 20) ?_
    rintro v s2 ⟨h1, hA, hk⟩
    obtain rfl : v = _ := h1
    rw [hX] at hA
    rw [← hd] at hX
    have hok := done_ok K hs 20 n
    have hcs : callS K s 20 n = if c1.err = 0 then (endS c1, 0) else (noS, c1.err) := by unfold callS; rw [hX]
    rw [hX] at hok
    rw [hcs]
    obtain ⟨q1, r2, q2, q3⟩ := And.intro hA.1 hA.2
    have q3 : s2.obj 2 = _ := q3
    have q3' := q3
    simp only [encC] at q3
    have o1 : s2.obj 1 = some (.cells 33 [.agg 33 [.agg 29 ((List.replicate 10 junk).map encW), .agg 30 ((List.replicate 8 junk).map encW), .mt true, .int .i64 0, .bool false, .int .i64 0]]) := (hk.2 1 (show 1 < 3 by decide) (by decide)).trans rfl
    simp only [go_sem, ↓reduceIte, Nat.reduceEqDiff, Nat.reduceAdd, reduceCtorEq, CCT, CCv, CCr, CCk, CCx, List.isEmpty_nil, Nat.reduceBNe, Nat.reduceBEq, Bool.or_false, Bool.false_or, Bool.or_true, Bool.true_or, Nat.reduceLeDiff, Nat.reduceLT, beqI, bneI, List.length_map, decide_true, decide_false, Int.reduceEq, Int.reduceLT, Int.reduceLE, Int.reduceGE, Int.reduceGT, not_true_eq_false, not_false_eq_true, Bool.and_true, Bool.true_and, Bool.and_false, Bool.false_and, and_true, true_and, and_self, Bool.not_not, q3]
    subst ht
    exact call_tail _ K c1 r2 q2 hok _ _ (by (try simp only [go_sem, ↓reduceIte, Nat.reduceEqDiff, Nat.reduceAdd, reduceCtorEq, CCT, CCv, CCr, CCk, CCx, List.isEmpty_nil, Nat.reduceBNe, Nat.reduceBEq, Bool.or_false, Bool.false_or, Bool.or_true, Bool.true_or, Nat.reduceLeDiff, Nat.reduceLT, beqI, bneI, List.length_map, decide_true, decide_false, Int.reduceEq, Int.reduceLT, Int.reduceLE, Int.reduceGE, Int.reduceGT, not_true_eq_false, not_false_eq_true, Bool.and_true, Bool.true_and, Bool.and_false, Bool.false_and, and_true, true_and, and_self, Bool.not_not, Int.toNat_natCast, List.length_take, *]) <;> (first | done | rfl | omega | (simp; done) | (simp; omega))) (by (try simp only [go_sem, ↓reduceIte, Nat.reduceEqDiff, Nat.reduceAdd, reduceCtorEq, CCT, CCv, CCr, CCk, CCx, List.isEmpty_nil, Nat.reduceBNe, Nat.reduceBEq, Bool.or_false, Bool.false_or, Bool.or_true, Bool.true_or, Nat.reduceLeDiff, Nat.reduceLT, beqI, bneI, List.length_map, decide_true, decide_false, Int.reduceEq, Int.reduceLT, Int.reduceLE, Int.reduceGE, Int.reduceGT, not_true_eq_false, not_false_eq_true, Bool.and_true, Bool.true_and, Bool.and_false, Bool.false_and, and_true, true_and, and_self, Bool.not_not, Int.toNat_natCast, List.length_take, *]) <;> (first | done | rfl | omega | (simp; done) | (simp; omega))) q3' o1 rfl

  have w20' := eq_false w20
  by_cases w21 : what = 21
  · subst w21
    obtain ⟨c1, hX⟩ : ∃ c1, doneS K s 21 n = c1 := ⟨_, rfl⟩
    have hd : doneS K s 21 n = regionS K (begC s n) 21 := by simp [doneS]
    rw [hd] at hX
    simp only [go_sem, ↓reduceIte, Nat.reduceEqDiff, Nat.reduceAdd, reduceCtorEq, CCT, CCv, CCr, CCk, CCx, List.isEmpty_nil, Nat.reduceBNe, Nat.reduceBEq, Bool.or_false, Bool.false_or, Bool.or_true, Bool.true_or, Nat.reduceLeDiff, Nat.reduceLT, beqI, bneI, List.length_map, decide_true, decide_false, Int.reduceEq, Int.reduceLT, Int.reduceLE, Int.reduceGE, Int.reduceGT, not_true_eq_false, not_false_eq_true, Bool.and_true, Bool.true_and, Bool.and_false, Bool.false_and, and_true, true_and, and_self, Bool.not_not, hof]
    refine W.call (region_c _ (K := K) (id := 2) (c := begC s n) ⟨show 2 < 3 by decide, r, hr.refA, rfl⟩ ⟨hs, hl⟩ 21) ?_
    rintro v s2 ⟨h1, hA, hk⟩
    obtain rfl : v = _ := h1
    rw [hX] at hA
    rw [← hd] at hX
    have hok := done_ok K hs 21 n
    have hcs : callS K s 21 n = if c1.err = 0 then (endS c1, 0) else (noS, c1.err) := by unfold callS; rw [hX]
    rw [hX] at hok
    rw [hcs]
    obtain ⟨q1, r2, q2, q3⟩ := And.intro hA.1 hA.2
    have q3 : s2.obj 2 = _ := q3
    have q3' := q3
    simp only [encC] at q3
    have o1 : s2.obj 1 = some (.cells 33 [.agg 33 [.agg 29 ((List.replicate 10 junk).map encW), .agg 30 ((List.replicate 8 junk).map encW), .mt true, .int .i64 0, .bool false, .int .i64 0]]) := (hk.2 1 (show 1 < 3 by decide) (by decide)).trans rfl
    simp only [go_sem, ↓reduceIte, Nat.reduceEqDiff, Nat.reduceAdd, reduceCtorEq, CCT, CCv, CCr, CCk, CCx, List.isEmpty_nil, Nat.reduceBNe, Nat.reduceBEq, Bool.or_false, Bool.false_or, Bool.or_true, Bool.true_or, Nat.reduceLeDiff, Nat.reduceLT, beqI, bneI, List.length_map, decide_true, decide_false, Int.reduceEq, Int.reduceLT, Int.reduceLE, Int.reduceGE, Int.reduceGT, not_true_eq_false, not_false_eq_true, Bool.and_true, Bool.true_and, Bool.and_false, Bool.false_and, and_true, true_and, and_self, Bool.not_not, q3]
    subst ht
    exact call_tail _ K c1 r2 q2 hok _ _ (by (try simp only [go_sem, ↓reduceIte, Nat.reduceEqDiff, Nat.reduceAdd, reduceCtorEq, CCT, CCv, CCr, CCk, CCx, List.isEmpty_nil, Nat.reduceBNe, Nat.reduceBEq, Bool.or_false, Bool.false_or, Bool.or_true, Bool.true_or, Nat.reduceLeDiff, Nat.reduceLT, beqI, bneI, List.length_map, decide_true, decide_false, Int.reduceEq, Int.reduceLT, Int.reduceLE, Int.reduceGE, Int.reduceGT, not_true_eq_false, not_false_eq_true, Bool.and_true, Bool.true_and, Bool.and_false, Bool.false_and, and_true, true_and, and_self, Bool.not_not, Int.toNat_natCast, List.length_take, *]) <;> (first | done | rfl | omega | (simp; done) | (simp; omega))) (by (try simp only [go_sem, ↓reduceIte, Nat.reduceEqDiff, Nat.reduceAdd, reduceCtorEq, CCT, CCv, CCr, CCk, CCx, List.isEmpty_nil, Nat.reduceBNe, Nat.reduceBEq, Bool.or_false, Bool.false_or, Bool.or_true, Bool.true_or, Nat.reduceLeDiff, Nat.reduceLT, beqI, bneI, List.length_map, decide_true, decide_false, Int.reduceEq, Int.reduceLT, Int.reduceLE, Int.reduceGE, Int.reduceGT, not_true_eq_false, not_false_eq_true, Bool.and_true, Bool.true_and, Bool.and_false, Bool.false_and, and_true, true_and, and_self, Bool.not_not, Int.toNat_natCast, List.length_take, *]) <;> (first | done | rfl | omega | (simp; done) | (simp; omega))) q3' o1 rfl

  have w21' := eq_false w21
  by_cases w22 : what = 22
  · subst w22
    obtain ⟨c1, hX⟩ : ∃ c1, doneS K s 22 n = c1 := ⟨_, rfl⟩
    have hd : doneS K s 22 n = regionS K (begC s n) 22 := by simp [doneS]
    rw [hd] at hX
    simp only [go_sem, ↓reduceIte, Nat.reduceEqDiff, Nat.reduceAdd, reduceCtorEq, CCT, CCv, CCr, CCk, CCx, List.isEmpty_nil, Nat.reduceBNe, Nat.reduceBEq, Bool.or_false, Bool.false_or, Bool.or_true, Bool.true_or, Nat.reduceLeDiff, Nat.reduceLT, beqI, bneI, List.length_map, decide_true, decide_false, Int.reduceEq, Int.reduceLT, Int.reduceLE, Int.reduceGE, Int.reduceGT, not_true_eq_false, not_false_eq_true, Bool.and_true, Bool.true_and, Bool.and_false, Bool.false_and, and_true, true_and, and_self, Bool.not_not, hof]
    refine W.call (region_c _ (K := K) (id := 2) (c := begC s n) ⟨show 2 < 3 by decide, r, hr.refA, rfl⟩ ⟨hs, hl⟩ 22) ?_
    rintro v s2 ⟨h1, hA, hk⟩
    obtain rfl : v = _ := h1
    rw [hX] at hA
    rw [← hd] at hX
    have hok := done_ok K hs 22 n
    have hcs : callS K s 22 n = if c1.err = 0 then (endS c1, 0) else (noS, c1.err) := by unfold callS; rw [hX]
    rw [hX] at hok
    rw [hcs]
    obtain ⟨q1, r2, q2, q3⟩ := And.intro hA.1 hA.2
    have q3 : s2.obj 2 = _ := q3
    have q3' := q3
    simp only [encC] at q3
    have o1 : s2.obj 1 = some (.cells 33 [.agg 33 [.agg 29 ((List.replicate 10 junk).map encW), .agg 30 ((List.replicate 8 junk).map encW), .mt true, .int .i64 0, .bool false, .int .i64 0]]) := (hk.2 1 (show 1 < 3 by decide) (by decide)).trans rfl
    simp only [go_sem, ↓reduceIte, Nat.reduceEqDiff, Nat.reduceAdd, reduceCtorEq, CCT, CCv, CCr, CCk, CCx, List.isEmpty_nil, Nat.reduceBNe, Nat.reduceBEq, Bool.or_false, Bool.false_or, Bool.or_true, Bool.true_or, Nat.reduceLeDiff, Nat.reduceLT, beqI, bneI, List.length_map, decide_true, decide_false, Int.reduceEq, Int.reduceLT, Int.reduceLE, Int.reduceGE, Int.reduceGT, not_true_eq_false, not_false_eq_true, Bool.and_true, Bool.true_and, Bool.and_false, Bool.false_and, and_true, true_and, and_self, Bool.not_not, q3]
    subst ht
    exact call_tail _ K c1 r2 q2 hok _ _ (by (try simp only [go_sem, ↓reduceIte, Nat.reduceEqDiff, Nat.reduceAdd, reduceCtorEq, CCT, CCv, CCr, CCk, CCx, List.isEmpty_nil, Nat.reduceBNe, Nat.reduceBEq, Bool.or_false, Bool.false_or, Bool.or_true, Bool.true_or, Nat.reduceLeDiff, Nat.reduceLT, beqI, bneI, List.length_map, decide_true, decide_false, Int.reduceEq, Int.reduceLT, Int.reduceLE, Int.reduceGE, Int.reduceGT, not_true_eq_false, not_false_eq_true, Bool.and_true, Bool.true_and, Bool.and_false, Bool.false_and, and_true, true_and, and_self, Bool.not_not, Int.toNat_natCast, List.length_take, *]) <;> (first | done | rfl | omega | (simp; done) | (simp; omega))) (by (try simp only [go_sem, ↓reduceIte, Nat.reduceEqDiff, Nat.reduceAdd, reduceCtorEq, CCT, CCv, CCr, CCk, CCx, List.isEmpty_nil, Nat.reduceBNe, Nat.reduceBEq, Bool.or_false, Bool.false_or, Bool.or_true, Bool.true_or, Nat.reduceLeDiff, Nat.reduceLT, beqI, bneI, List.length_map, decide_true, decide_false, Int.reduceEq, Int.reduceLT, Int.reduceLE, Int.reduceGE, Int.reduceGT, not_true_eq_false, not_false_eq_true, Bool.and_true, Bool.true_and, Bool.and_false, Bool.false_and, and_true, true_and, and_self, Bool.not_not, Int.toNat_natCast, List.length_take, *]) <;> (first | done | rfl | omega | (simp; done) | (simp; omega))) q3' o1 rfl

  have w22' := eq_false w22
  have hd : doneS K s what n = { begC s n with err := 1 } := by simp [doneS, w1, w2, w3, w4, w5, w6, w7, w8, w9, w10, w11, w12, w13, w14, w15, w16, w17, w18, w19, w20, w21, w22]
  have hcs : callS K s what n = (noS, 1) := by unfold callS; rw [hd]; rfl
  rw [hcs]
  simp only [go_sem, ↓reduceIte, Nat.reduceEqDiff, Nat.reduceAdd, reduceCtorEq, CCT, CCv, CCr, CCk, CCx, List.isEmpty_nil, Nat.reduceBNe, Nat.reduceBEq, Bool.or_false, Bool.false_or, Bool.or_true, Bool.true_or, Nat.reduceLeDiff, Nat.reduceLT, beqI, bneI, List.length_map, decide_true, decide_false, Int.reduceEq, Int.reduceLT, Int.reduceLE, Int.reduceGE, Int.reduceGT, not_true_eq_false, not_false_eq_true, Bool.and_true, Bool.true_and, Bool.and_false, Bool.false_and, and_true, true_and, and_self, Bool.not_not, w1', w2', w3', w4', w5', w6', w7', w8', w9', w10', w11', w12', w13', w14', w15', w16', w17', w18', w19', w20', w21', w22']
  subst ht
  refine call_tail (X := (noS, 1)) _ K { begC s n with err := 1 } r hr.refA hs _ _ (by (try simp only [go_sem, ↓reduceIte, Nat.reduceEqDiff, Nat.reduceAdd, reduceCtorEq, CCT, CCv, CCr, CCk, CCx, List.isEmpty_nil, Nat.reduceBNe, Nat.reduceBEq, Bool.or_false, Bool.false_or, Bool.or_true, Bool.true_or, Nat.reduceLeDiff, Nat.reduceLT, beqI, bneI, List.length_map, decide_true, decide_false, Int.reduceEq, Int.reduceLT, Int.reduceLE, Int.reduceGE, Int.reduceGT, not_true_eq_false, not_false_eq_true, Bool.and_true, Bool.true_and, Bool.and_false, Bool.false_and, and_true, true_and, and_self, Bool.not_not, Int.toNat_natCast, List.length_take, *]) <;> (first | done | rfl | omega | (simp; done) | (simp; omega))) (by (try simp only [go_sem, ↓reduceIte, Nat.reduceEqDiff, Nat.reduceAdd, reduceCtorEq, CCT, CCv, CCr, CCk, CCx, List.isEmpty_nil, Nat.reduceBNe, Nat.reduceBEq, Bool.or_false, Bool.false_or, Bool.or_true, Bool.true_or, Nat.reduceLeDiff, Nat.reduceLT, beqI, bneI, List.length_map, decide_true, decide_false, Int.reduceEq, Int.reduceLT, Int.reduceLE, Int.reduceGE, Int.reduceGT, not_true_eq_false, not_false_eq_true, Bool.and_true, Bool.true_and, Bool.and_false, Bool.false_and, and_true, true_and, and_self, Bool.not_not, Int.toNat_natCast, List.length_take, *]) <;> (first | done | rfl | omega | (simp; done) | (simp; omega))) ?_ ?_ (by rw [if_neg (by simp)])
  · rfl
  · rfl
end Go.Proofs.Ytdbpnkemlmagoaa.Va
