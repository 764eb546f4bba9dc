/- chapter 18: HelperLocks, the law -/
import Derived.Test.YtdbpnkemlmagoaaEigR
namespace Go.Proofs.Ytdbpnkemlmagoaa.Va
open Go
set_option linter.unusedVariables false
set_option linter.unusedSimpArgs false
set_option maxRecDepth 100000
def putX (t : Sta) (x : Wht) : Sta := { t with regs := t.regs.set 1 x }
theorem want_no {c : Cal} {e : Int} (h : c.err = 0) (he : e ≠ 0) : (wantS c false e).err = e := by
  unfold wantS
  rw [if_pos ⟨h, rfl⟩]
theorem want_yes {c : Cal} {e : Int} : wantS c true e = c := by
  unfold wantS
  rw [if_neg (by simp)]
theorem locks_plain {K : Kx} {s : Sta} {n : Int} (hS : SoundP s) (hok : SOk s) (he : (doneS K s 7 n).err = 0) :
    (at0 s.regs 1).kind = 5 ∧ (at0 s.regs 1).maybe = false ∧ s.lock = 0 ∧ (doneS K s 7 n).st.lock = (at0 s.regs 1).id ∧
    (callS K (putX (endS (doneS K s 7 n)) (at0 s.regs 1)) 7 n).2 = 9 ∧ (callS K (putX (endS (doneS K s 7 n)) (at0 s.regs 1)) 22 n).2 = 9 ∧
    (callS K (putX (endS (doneS K s 7 n)) (at0 s.regs 1)) 8 n).2 = 0 ∧ (callS K (putX (endS (doneS K s 7 n)) (at0 s.regs 1)) 8 n).1.lock = 0 ∧
    (callS K (putX (endS (doneS K s 7 n)) (at0 s.regs 1)) 8 n).1.sec = s.sec := by
  have hg := (hS.good _ (List.mem_append_left _ (reg_mem hok (i := 1) (by decide) (by decide)))).2
  have hd : ∀ s, doneS K s 7 n = regionS K (begC s n) 7 := fun s => by simp [doneS]
  have hd8 : ∀ s, doneS K s 8 n = regionS K (begC s n) 8 := fun s => by simp [doneS]
  have hd22 : ∀ s, doneS K s 22 n = regionS K (begC s n) 22 := fun s => by simp [doneS]
  have hr7 : ∀ c, regionS K c 7 = setL (wantS (wantS (wantS c (handS c.x [5]) 8) (lockF K.l c.x.type 12) 7) (decide (c.st.lock = 0)) 9) c.x.id := fun c => by unfold regionS; rw [if_pos rfl]
  have hr8 : ∀ c, regionS K c 8 = loosenS (setL (wantS c (heldS c) 9) 0) := fun c => by unfold regionS; rw [if_neg (by decide), if_pos rfl]
  have hr22 : ∀ c, regionS K c 22 = fgC (fgC (setX (wantS c (c.st.sec && decide (c.st.lock = 0)) 9) false) 5 0) 6 0 := fun c => by unfold regionS; rw [if_neg (by decide), if_neg (by decide), if_neg (by decide)]
  rw [hd, hr7] at he ⊢
  generalize hx : at0 s.regs 1 = x at hg ⊢
  have hbx : (begC s n).x = x := hx
  rw [hbx] at he ⊢
  have hbs : (begC s n).st = s := rfl
  rw [hbs] at he ⊢
  obtain ⟨e1, e2⟩ := want_err (c := wantS (wantS (begC s n) (handS x [5]) 8) (lockF K.l x.type 12) 7) he (by decide)
  obtain ⟨e3, e4⟩ := want_err e1 (by decide)
  obtain ⟨e5, e6⟩ := want_err e3 (by decide)
  rw [e2, e4, e6, want_yes, want_yes, want_yes]
  have hl0 : s.lock = 0 := of_decide_eq_true e2
  have hk : x.kind = 5 ∧ x.maybe = false := by
    simp [handS] at e6
    exact ⟨e6.2, e6.1⟩
  have hid := hg (.inr hk.1)
  obtain ⟨t, ht⟩ : ∃ t, putX (endS (setL (begC s n) x.id)) x = t := ⟨_, rfl⟩
  rw [ht]
  have hl : s.regs.length = 10 := hok.regs
  have htx : at0 t.regs 1 = x := by rw [← ht]; rfl
  have htl : t.lock = x.id := by rw [← ht]; rfl
  have hts : t.sec = s.sec := by rw [← ht]; rfl
  have hne : (begC t n).err = 0 := rfl
  have hbtx : (begC t n).x = x := htx
  have hbts : (begC t n).st = t := rfl
  refine ⟨hk.1, hk.2, hl0, rfl, ?_, ?_, ?_⟩
  · have he7 : (doneS K t 7 n).err = 9 := by
      rw [hd, hr7, hbtx, hbts, e6, e4, want_yes, want_yes, htl]
      show (wantS _ _ _).err = 9
      rw [show decide (x.id = 0) = false from decide_eq_false (by omega)]
      exact want_no hne (by decide)
    unfold callS
    rw [if_neg (by rw [he7]; decide)]
    exact he7
  · have he22 : (doneS K t 22 n).err = 9 := by
      rw [hd22, hr22, hbts, htl]
      show (wantS _ _ _).err = 9
      rw [show decide (x.id = 0) = false from decide_eq_false (by omega), Bool.and_false]
      exact want_no hne (by decide)
    unfold callS
    rw [if_neg (by rw [he22]; decide)]
    exact he22
  · have hh : heldS (begC t n) = true := by
      unfold heldS
      rw [hbtx, hbts, htl, e6]
      simp
      omega
    have hd8' : doneS K t 8 n = loosenS (setL (begC t n) 0) := by
      rw [hd8, hr8, hh, want_yes]
    have he8 : (doneS K t 8 n).err = 0 := by
      rw [hd8']; exact hne
    unfold callS
    rw [if_pos he8]
    refine ⟨rfl, ?_, ?_⟩
    · show (doneS K t 8 n).st.lock = 0
      rw [hd8']; rfl
    · show (doneS K t 8 n).st.sec = s.sec
      rw [hd8']; exact hts
theorem RefA.fz {r : AV} {xs : List Int} (h : RefA r xs) : ∃ q r2, (∀ σ, freeze σ r = some q) ∧ Va.strip q = r2 ∧ Va.strip r = r2 ∧ RefP r2 xs ∧ viewIds r = [] ∧ viewIds q = [] := by
  rcases h with ⟨hx, b, rfl⟩ | ⟨b, tok, rfl, hb⟩
  · exact ⟨.mt b, .mt b, fun _ => by simp only [freeze], by simp only [Va.strip], by simp only [Va.strip], .inl ⟨hx, b, rfl⟩, by simp only [viewIds], by simp only [viewIds]⟩
  · exact ⟨.list 3 b (intsA xs) (if fullT tok then tok else none), .list 3 b (intsA xs) none, fun _ => by simp only [freeze], by simp only [Va.strip], by simp only [Va.strip], .inr ⟨b, rfl, hb⟩, by simp only [viewIds], by simp only [viewIds]⟩
theorem put_enc (t : Sta) (x : Wht) : (t.regs.map encW).set 1 (encW x) = (putX t x).regs.map encW := by
  unfold putX; rw [List.map_set]
theorem put_ok {t : Sta} (h : SOk t) (x : Wht) : SOk (putX t x) := ⟨by rw [← h.1]; exact List.length_set, h.2⟩
theorem end_ok {c : Cal} (h : SOk c.st) : SOk (endS c) := ⟨by simp only [endS, List.length_cons, List.length_append, List.length_replicate, List.length_drop, h.1], h.2⟩
set_option maxHeartbeats 8000000 in
theorem law5 (K : Kx) (s : Sta) (r : AV) (ha : Args K s r) (n : Int) (hn0 : 0 ≤ n) (hn1 : n < 4294967296) :
    ∃ σ', evalF Try.prog CC 80 5 [.list 49 K.bl (K.l.map encTy) none, .list 54 K.bm (K.ms.map encM) none, encS s r, .int .u32 n] St.empty = some (.bool true, σ') := by
  have hsh := shown_c 59
  obtain ⟨fb, hfit⟩ := fits_c 19 K ha.l ha.ms
  obtain ⟨sb, hsP, hsnd⟩ := sound_c 75 s r ha.ref ha.ok (Nat.le_succ_of_le ha.len)
  obtain ⟨r', hr', hp', hcall⟩ := Call_c 70 K s r ha.ref ha.ok ha.len 7 n hn0 hn1
  have hz := fun σ => ha.ref.fz σ
  have hst := ha.ref.strip
  have hvi := ha.ref.views
  have hok' := ha.ok
  simp only [encS] at hsnd hcall
  have hsh : evalF Try.prog CC 79 7 [] St.empty = _ := hsh
  have hfit : evalF Try.prog CC 79 8 _ _ = _ := hfit
  have hsnd : evalF Try.prog CC 79 11 _ _ = _ := hsnd
  have hcall : evalF Try.prog CC 79 9 _ _ = _ := hcall
  have hi1 := fun id => ix_reg id [0, 0] 1 (by decide)
  have hg1 : (s.regs.map encW)[1]? = some (encW (at0 s.regs 1)) := by
    rw [List.getElem?_map, show (1 : Nat) = (1 : Int).toNat from rfl, at0_get (by decide) (by rw [ha.ok.regs]; decide)]; rfl
  simp only [List.cons_append, List.nil_append, Int.natCast_one] at hi1
  simp only [encW] at hg1
  refine (show Wp (fun x => ∃ σ', x = some ((AV.bool true, σ') : AV × St)) _ from ?_)
  rw [run_5 _ _ _ (by simp)]; unfold Try.f5; simp only [Option.getD_some]
  cases fb
  · simp only [go_sem, ↓reduceIte, Nat.reduceEqDiff, Nat.reduceAdd, reduceCtorEq, CCT, CCv, CCr, CCk, CCx, List.isEmpty_nil, Nat.reduceBNe, Nat.reduceBEq, Bool.or_false, Bool.false_or, Bool.or_true, Bool.true_or, Nat.reduceLeDiff, Nat.reduceLT, beqI, bneI, List.length_map, decide_true, decide_false, Int.reduceEq, Int.reduceLT, Int.reduceLE, Int.reduceGE, Int.reduceGT, not_true_eq_false, not_false_eq_true, Bool.and_true, Bool.true_and, Bool.and_false, Bool.false_and, and_true, true_and, and_self, Bool.not_not, hsh, hfit]
    exact ⟨_, rfl⟩
  cases sb
  · simp only [go_sem, ↓reduceIte, Nat.reduceEqDiff, Nat.reduceAdd, reduceCtorEq, CCT, CCv, CCr, CCk, CCx, List.isEmpty_nil, Nat.reduceBNe, Nat.reduceBEq, Bool.or_false, Bool.false_or, Bool.or_true, Bool.true_or, Nat.reduceLeDiff, Nat.reduceLT, beqI, bneI, List.length_map, decide_true, decide_false, Int.reduceEq, Int.reduceLT, Int.reduceLE, Int.reduceGE, Int.reduceGT, not_true_eq_false, not_false_eq_true, Bool.and_true, Bool.true_and, Bool.and_false, Bool.false_and, and_true, true_and, and_self, Bool.not_not, hsh, hfit, hsnd, hz, frz_W, strip_W, hst, view_W, hvi, List.append_nil]
    exact ⟨_, rfl⟩
  have hSP := hsP rfl
  simp only [go_sem, ↓reduceIte, Nat.reduceEqDiff, Nat.reduceAdd, reduceCtorEq, CCT, CCv, CCr, CCk, CCx, List.isEmpty_nil, Nat.reduceBNe, Nat.reduceBEq, Bool.or_false, Bool.false_or, Bool.or_true, Bool.true_or, Nat.reduceLeDiff, Nat.reduceLT, beqI, bneI, List.length_map, decide_true, decide_false, Int.reduceEq, Int.reduceLT, Int.reduceLE, Int.reduceGE, Int.reduceGT, not_true_eq_false, not_false_eq_true, Bool.and_true, Bool.true_and, Bool.and_false, Bool.false_and, and_true, true_and, and_self, Bool.not_not, hsh, hfit, hsnd, hz, frz_W, strip_W, hst, view_W, hvi, hi1, hg1, List.append_nil]
  refine call_tupS hcall (by simpa only [encS] using encS_pureA hp') rfl (by first | rfl | simp [view_W, hvi, viewIdsL, viewIds]) ?_
  by_cases he : (callS K s 7 n).2 = 0
  case neg =>
    simp only [go_sem, ↓reduceIte, Nat.reduceEqDiff, Nat.reduceAdd, reduceCtorEq, CCT, CCv, CCr, CCk, CCx, List.isEmpty_nil, Nat.reduceBNe, Nat.reduceBEq, Bool.or_false, Bool.false_or, Bool.or_true, Bool.true_or, Nat.reduceLeDiff, Nat.reduceLT, beqI, bneI, List.length_map, decide_true, decide_false, Int.reduceEq, Int.reduceLT, Int.reduceLE, Int.reduceGE, Int.reduceGT, not_true_eq_false, not_false_eq_true, Bool.and_true, Bool.true_and, Bool.and_false, Bool.false_and, and_true, true_and, and_self, Bool.not_not, he]
    exact ⟨_, rfl⟩
  obtain ⟨hd, h1⟩ := callS_ok he
  obtain ⟨x1, x2, x3, x4, x5, x6, x7, x8, x9⟩ := locks_plain hSP ha.ok hd
  have hcl := count_plain hSP ha.ok hd
  have hokc := done_ok K ha.ok 7 n
  clear hcall hsnd hfit hsh
  simp only [h1]
  rw [h1] at hr'
  generalize doneS K s 7 n = c at hd h1 x4 x5 x6 x7 x8 x9 hr' hokc hcl
  have hcl : c.st.refs.length = s.refs.length := by
    have : moreS s 7 = 0 := rfl
    rw [this] at hcl; omega
  generalize at0 s.regs 1 = x at *
  obtain ⟨q, r2, hq, hqs, hrs, hrp, hv1, hv2⟩ := hr'.fz
  have hokt := put_ok (end_ok hokc) x
  have hlt : (putX (endS c) x).refs.length ≤ 17592186044415 := by show c.st.refs.length ≤ _; rw [hcl]; exact ha.len
  obtain ⟨ra, hra, hpa, hcalla⟩ := Call_c 70 K (putX (endS c) x) r2 hrp hokt hlt 7 n hn0 hn1
  obtain ⟨rb, hrb, hpb, hcallb⟩ := Call_c 70 K (putX (endS c) x) r2 hrp hokt hlt 22 n hn0 hn1
  obtain ⟨rc, hrc, hpc, hcallc⟩ := Call_c 70 K (putX (endS c) x) r2 hrp hokt hlt 8 n hn0 hn1
  simp only [encS] at hcalla hcallb hcallc
  have hcalla : evalF Try.prog CC 79 9 _ _ = _ := hcalla
  have hcallb : evalF Try.prog CC 79 9 _ _ = _ := hcallb
  have hcallc : evalF Try.prog CC 79 9 _ _ = _ := hcallc
  have hpe := put_enc (endS c) x
  have hpl : (endS c).lock = x.id := x4
  simp only [encW, x1, x2] at hpe
  have hgl := end_low c (i := 0) (by decide)
  simp only [Nat.zero_add] at hgl
  have hps : (putX (endS c) x).slots = (endS c).slots := rfl
  have hpk : (putX (endS c) x).lock = x.id := x4
  have hpx : (putX (endS c) x).sec = (endS c).sec := rfl
  have hpn : (putX (endS c) x).next = (endS c).next := rfl
  rw [hps, hpk, hpx, hpn] at hcalla hcallb hcallc
  simp only [go_sem, ↓reduceIte, Nat.reduceEqDiff, Nat.reduceAdd, reduceCtorEq, CCT, CCv, CCr, CCk, CCx, List.isEmpty_nil, Nat.reduceBNe, Nat.reduceBEq, Bool.or_false, Bool.false_or, Bool.or_true, Bool.true_or, Nat.reduceLeDiff, Nat.reduceLT, beqI, bneI, List.length_map, decide_true, decide_false, Int.reduceEq, Int.reduceLT, Int.reduceLE, Int.reduceGE, Int.reduceGT, not_true_eq_false, not_false_eq_true, Bool.and_true, Bool.true_and, Bool.and_false, Bool.false_and, and_true, true_and, and_self, Bool.not_not, hi1, hg1, hpl, x1, x2, x3, hgl, hpe, hq, hqs, hrs, hv1, hv2, frz_W, strip_W, view_W, List.append_nil]
  refine call_tupS hcalla (by simpa only [encS] using encS_pureA hpa) rfl (by first | rfl | simp [view_W, hv1, hv2, viewIdsL, viewIds]) ?_
  simp only [go_sem, ↓reduceIte, Nat.reduceEqDiff, Nat.reduceAdd, reduceCtorEq, CCT, CCv, CCr, CCk, CCx, List.isEmpty_nil, Nat.reduceBNe, Nat.reduceBEq, Bool.or_false, Bool.false_or, Bool.or_true, Bool.true_or, Nat.reduceLeDiff, Nat.reduceLT, beqI, bneI, List.length_map, decide_true, decide_false, Int.reduceEq, Int.reduceLT, Int.reduceLE, Int.reduceGE, Int.reduceGT, not_true_eq_false, not_false_eq_true, Bool.and_true, Bool.true_and, Bool.and_false, Bool.false_and, and_true, true_and, and_self, Bool.not_not, x5, hgl, hpe, hq, hqs, hrs, hv1, hv2, frz_W, strip_W, view_W, List.append_nil]
  refine call_tupS hcallb (by simpa only [encS] using encS_pureA hpb) rfl (by first | rfl | simp [view_W, hv1, hv2, viewIdsL, viewIds]) ?_
  simp only [go_sem, ↓reduceIte, Nat.reduceEqDiff, Nat.reduceAdd, reduceCtorEq, CCT, CCv, CCr, CCk, CCx, List.isEmpty_nil, Nat.reduceBNe, Nat.reduceBEq, Bool.or_false, Bool.false_or, Bool.or_true, Bool.true_or, Nat.reduceLeDiff, Nat.reduceLT, beqI, bneI, List.length_map, decide_true, decide_false, Int.reduceEq, Int.reduceLT, Int.reduceLE, Int.reduceGE, Int.reduceGT, not_true_eq_false, not_false_eq_true, Bool.and_true, Bool.true_and, Bool.and_false, Bool.false_and, and_true, true_and, and_self, Bool.not_not, x6, hgl, hpe, hq, hqs, hrs, hv1, hv2, frz_W, strip_W, view_W, List.append_nil]
  refine call_tupS hcallc (by simpa only [encS] using encS_pureA hpc) rfl (by first | rfl | simp [view_W, hv1, hv2, viewIdsL, viewIds]) ?_
  simp only [go_sem, ↓reduceIte, Nat.reduceEqDiff, Nat.reduceAdd, reduceCtorEq, CCT, CCv, CCr, CCk, CCx, List.isEmpty_nil, Nat.reduceBNe, Nat.reduceBEq, Bool.or_false, Bool.false_or, Bool.or_true, Bool.true_or, Nat.reduceLeDiff, Nat.reduceLT, beqI, bneI, List.length_map, decide_true, decide_false, Int.reduceEq, Int.reduceLT, Int.reduceLE, Int.reduceGE, Int.reduceGT, not_true_eq_false, not_false_eq_true, Bool.and_true, Bool.true_and, Bool.and_false, Bool.false_and, and_true, true_and, and_self, Bool.not_not, x5, x6, x7, x8, x9]
  exact ⟨_, rfl⟩
end Go.Proofs.Ytdbpnkemlmagoaa.Va
