/- chapter 18: references taken and given up -/
import Derived.Test.YtdbpnkemlmagoaaEigD
namespace Go.Proofs.Ytdbpnkemlmagoaa.Va
open Go
set_option linter.unusedVariables false
set_option linter.unusedSimpArgs false
set_option maxRecDepth 100000
theorem DeleteFunc_e (d : Nat) {σ : St} {iw : Nat} (sv : AV) (hsv : sv = .mt true ∨ ∃ tok, sv = .list 3 false [] tok) :
    Sat (fun p => p.1 = sv ∧ Keeps σ p.2 σ.next) (evalF Try.prog CC (d + 3) 46 [sv, .func 47 [.ptr 28 iw [0]]] σ) := by
  have hi : Sat (fun p => p.1 = .int .i64 (-1) ∧ Keeps σ p.2 σ.next) (evalF Try.prog CC (d + 2) 55 [sv, .func 47 [.ptr 28 iw [0]]] σ) := by
    refine Sat.go ?_
    rw [run_55 _ _ _ (by simp)]; unfold Try.f55; simp only [Option.getD_some]
    rcases hsv with rfl | ⟨tok, rfl⟩
    all_goals
      simp only [go_sem, ↓reduceIte, Nat.reduceEqDiff, Nat.reduceAdd, reduceCtorEq, CCT, CCv, CCr, CCk, CCx, List.isEmpty_nil, Nat.reduceBNe, Nat.reduceBEq, Bool.or_false, Bool.false_or, Bool.or_true, Bool.true_or, Nat.reduceLeDiff, Nat.reduceLT, beqI, bneI, List.length_map, decide_true, decide_false, Int.reduceEq, Int.reduceLT, Int.reduceLE, Int.reduceGE, Int.reduceGT, not_true_eq_false, not_false_eq_true, Bool.and_true, Bool.true_and, Bool.and_false, Bool.false_and, and_true, true_and, and_self, Bool.not_not, *]
      refine W.iter_rule (fun j ρ s => ρ 7 = .int .i64 0 ∧ ρ 8 = .int .i64 0 ∧ s = σ) 0 ?_ ?_ _ 0 _ _ (Nat.le_refl _) ?_ ?_
      · intro j ρ s hj; omega
      · rintro ρ s ⟨h7, h8, rfl⟩ K hx hr
        simp only [go_sem, ↓reduceIte, Nat.reduceEqDiff, Nat.reduceAdd, reduceCtorEq, CCT, CCv, CCr, CCk, CCx, List.isEmpty_nil, Nat.reduceBNe, Nat.reduceBEq, Bool.or_false, Bool.false_or, Bool.or_true, Bool.true_or, Nat.reduceLeDiff, Nat.reduceLT, beqI, bneI, List.length_map, decide_true, decide_false, Int.reduceEq, Int.reduceLT, Int.reduceLE, Int.reduceGE, Int.reduceGT, not_true_eq_false, not_false_eq_true, Bool.and_true, Bool.true_and, Bool.and_false, Bool.false_and, and_true, true_and, and_self, Bool.not_not, hx, h7, h8]
        exact wp_some ⟨rfl, (Keeps.refl _ _).trim⟩
      · show 0 < 0 + 9223372036854775900
        omega
      · exact ⟨by (try simp only [go_sem, ↓reduceIte, Nat.reduceEqDiff, Nat.reduceAdd, reduceCtorEq, CCT, CCv, CCr, CCk, CCx, List.isEmpty_nil, Nat.reduceBNe, Nat.reduceBEq, Bool.or_false, Bool.false_or, Bool.or_true, Bool.true_or, Nat.reduceLeDiff, Nat.reduceLT, beqI, bneI, List.length_map, decide_true, decide_false, Int.reduceEq, Int.reduceLT, Int.reduceLE, Int.reduceGE, Int.reduceGT, not_true_eq_false, not_false_eq_true, Bool.and_true, Bool.true_and, Bool.and_false, Bool.false_and, and_true, true_and, and_self, Bool.not_not, Int.toNat_natCast, List.length_take, *]) <;> (first | done | rfl | omega | (simp; done) | (simp; omega)), by (try simp only [go_sem, ↓reduceIte, Nat.reduceEqDiff, Nat.reduceAdd, reduceCtorEq, CCT, CCv, CCr, CCk, CCx, List.isEmpty_nil, Nat.reduceBNe, Nat.reduceBEq, Bool.or_false, Bool.false_or, Bool.or_true, Bool.true_or, Nat.reduceLeDiff, Nat.reduceLT, beqI, bneI, List.length_map, decide_true, decide_false, Int.reduceEq, Int.reduceLT, Int.reduceLE, Int.reduceGE, Int.reduceGT, not_true_eq_false, not_false_eq_true, Bool.and_true, Bool.true_and, Bool.and_false, Bool.false_and, and_true, true_and, and_self, Bool.not_not, Int.toNat_natCast, List.length_take, *]) <;> (first | done | rfl | omega | (simp; done) | (simp; omega)), rfl⟩
  refine Sat.go ?_
  rw [run_46 _ _ _ (by simp)]; unfold Try.f46; simp only [Option.getD_some]
  rcases hsv with rfl | ⟨tok, rfl⟩
  all_goals
    simp only [go_sem, ↓reduceIte, Nat.reduceEqDiff, Nat.reduceAdd, reduceCtorEq, CCT, CCv, CCr, CCk, CCx, List.isEmpty_nil, Nat.reduceBNe, Nat.reduceBEq, Bool.or_false, Bool.false_or, Bool.or_true, Bool.true_or, Nat.reduceLeDiff, Nat.reduceLT, beqI, bneI, List.length_map, decide_true, decide_false, Int.reduceEq, Int.reduceLT, Int.reduceLE, Int.reduceGE, Int.reduceGT, not_true_eq_false, not_false_eq_true, Bool.and_true, Bool.true_and, Bool.and_false, Bool.false_and, and_true, true_and, and_self, Bool.not_not, *]
    refine W.call hi ?_
    rintro v s ⟨rfl, hk⟩
    simp only [go_sem, ↓reduceIte, Nat.reduceEqDiff, Nat.reduceAdd, reduceCtorEq, CCT, CCv, CCr, CCk, CCx, List.isEmpty_nil, Nat.reduceBNe, Nat.reduceBEq, Bool.or_false, Bool.false_or, Bool.or_true, Bool.true_or, Nat.reduceLeDiff, Nat.reduceLT, beqI, bneI, List.length_map, decide_true, decide_false, Int.reduceEq, Int.reduceLT, Int.reduceLE, Int.reduceGE, Int.reduceGT, not_true_eq_false, not_false_eq_true, Bool.and_true, Bool.true_and, Bool.and_false, Bool.false_and, and_true, true_and, and_self, Bool.not_not, *]
    exact wp_some ⟨rfl, hk.trim⟩
theorem noMem_W : ∀ l : List Wht, noMemL (l.map encW) = true
  | [] => by simp only [List.map_nil, noMemL]
  | w :: l => by rw [List.map_cons]; simp only [noMemL, noMem, noMem_W l, encW, Bool.and_self]
theorem pure_W : ∀ l : List Wht, pureL (l.map encW) = true
  | [] => by simp only [List.map_nil, pureL]
  | w :: l => by rw [List.map_cons]; simp only [pureL, pure1, pure_W l, encW, Bool.and_self]
theorem RefP.pure {r : AV} {xs : List Int} (h : RefP r xs) : pure1 r = true := by
  rcases h with ⟨_, b, rfl⟩ | ⟨b, rfl, _⟩
  · simp only [pure1]
  · simp [pure1, fullT]
theorem encS_pure {s : Sta} {r : AV} (h : RefP r s.refs) : pure1 (encS s r) = true := by
  simp only [encS, pure1, pureL, pure_W, h.pure, Bool.and_self]
theorem kill_next : ∀ (ids : List Nat) (σ : St), (killAll σ ids).next = σ.next
  | [], σ => rfl
  | i :: r, σ => kill_next r (σ.kill i)
theorem kill_objs : ∀ (ids : List Nat) (σ : St) (j : Nat), j ∉ ids → (killAll σ ids).obj j = σ.obj j
  | [], σ, j, _ => rfl
  | i :: r, σ, j, h => by
    simp only [killAll]
    rw [kill_objs r (σ.kill i) j (fun h' => h (List.mem_cons_of_mem _ h'))]
    show (if j = i then none else σ.obj j) = _
    rw [if_neg (fun e => h (by rw [e]; simp))]
theorem call_state {R : Type} {P : Option R → Prop} {X : Option (AV × St)} {σ s : St} {ids l : List Nat} {t : TypeId} {us : List AV} {k : AV → St → Option R} (hc : X = some (.agg t us, s)) (hp : pure1 (.agg t us) = true) (hids : ids = l)
    (h : ∀ σ', σ'.next = σ.next → (∀ j, j ∉ l → σ'.obj j = σ.obj j) → Wp P (k (.agg t us) σ')) :
    Wp P (@bnd2 R X ⟨fun v s => @br R (noMem v) ⟨k v σ⟩ ⟨@br R false ⟨none⟩ ⟨@bnd2 R (retok s (killAll σ ids) v) ⟨k⟩⟩⟩⟩) := by
  subst hc
  subst hids
  have hr : retok s (killAll σ ids) (.agg t us) = some (.agg t us, killAll σ ids) := by
    simp only [retok, retok1, hp, if_true]
  show Wp P (@br R (noMem (.agg t us)) ⟨k (.agg t us) σ⟩ ⟨@br R false ⟨none⟩ ⟨@bnd2 R (retok s (killAll σ ids) (.agg t us)) ⟨k⟩⟩⟩)
  rw [hr]
  cases noMem (.agg t us)
  · exact h _ (kill_next ids σ) (kill_objs ids σ)
  · exact h _ rfl (fun _ _ => rfl)
theorem Keeps.congr {σ τ τ' : St} {id : Nat} (h : Keeps σ τ id) (hn : τ'.next = τ.next) (ho : ∀ j, j < σ.next → j ≠ id → τ'.obj j = τ.obj j) : Keeps σ τ' id := ⟨by rw [hn]; exact h.1, fun j hj hne => (ho j hj hne).trans (h.2 j hj hne)⟩
theorem pure_ints : ∀ xs : List Int, pureL (intsA xs) = true
  | [] => by simp only [intsA, List.map_nil, pureL]
  | x :: xs => by
    have := pure_ints xs
    simp only [intsA] at this
    simp only [intsA, List.map_cons, pureL, pure1, this, Bool.and_self]
def spendS (c : Cal) (w : Wht) : Cal := { c with st := fgS { c.st with refs := no w.id c.st.refs } 3 w.id }
def loosenS (c : Cal) : Cal := { c with st := fgS c.st 4 0 }
theorem loosen_c (d : Nat) {K : Kx} {σ : St} {id : Nat} {c : Cal} (h : At K σ id c) (hs : SOk c.st) :
    Sat (fun p => p.1 = .tup [] ∧ At K p.2 id (loosenS c) ∧ Keeps σ p.2 id) (evalF Try.prog CC (d + 3) 34 [.ptr 58 id [0]] σ) := by
  obtain ⟨hid, r, hr, hob⟩ := h
  obtain ⟨r2, hr2, hfz, hst, hvi⟩ := hr.frz
  have hrp := hr2.strip
  have hF := fun d => Forget_c d c.st (strip r2) hrp hs 4 0
  refine Sat.go ?_
  rw [run_34 _ _ _ (by simp)]; unfold Try.f34; simp only [Option.getD_some]
  simp only [go_sem, ↓reduceIte, Nat.reduceEqDiff, Nat.reduceAdd, reduceCtorEq, CCT, CCv, CCr, CCk, CCx, List.isEmpty_nil, Nat.reduceBNe, Nat.reduceBEq, Bool.or_false, Bool.false_or, Bool.or_true, Bool.true_or, Nat.reduceLeDiff, Nat.reduceLT, beqI, bneI, List.length_map, decide_true, decide_false, Int.reduceEq, Int.reduceLT, Int.reduceLE, Int.reduceGE, Int.reduceGT, not_true_eq_false, not_false_eq_true, Bool.and_true, Bool.true_and, Bool.and_false, Bool.false_and, and_true, true_and, and_self, Bool.not_not, hob, frz_W, hfz, strip_W, view_W, hvi, List.append_nil]
  refine call_state (l := []) (hF _) (encS_pure hrp) (by simp [view_W, hvi, viewIdsL, viewIds]) ?_
  intro σ' hn hoj
  have hoj := fun j => hoj j (by simp)
  have ho' := (hoj id).trans hob
  simp only [go_sem, ↓reduceIte, Nat.reduceEqDiff, Nat.reduceAdd, reduceCtorEq, CCT, CCv, CCr, CCk, CCx, List.isEmpty_nil, Nat.reduceBNe, Nat.reduceBEq, Bool.or_false, Bool.false_or, Bool.or_true, Bool.true_or, Nat.reduceLeDiff, Nat.reduceLT, beqI, bneI, List.length_map, decide_true, decide_false, Int.reduceEq, Int.reduceLT, Int.reduceLE, Int.reduceGE, Int.reduceGT, not_true_eq_false, not_false_eq_true, Bool.and_true, Bool.true_and, Bool.and_false, Bool.false_and, and_true, true_and, and_self, Bool.not_not, ho']
  exact fin_c hid ⟨by show id < σ'.next; rw [hn]; exact hid, strip r2, hrp.refA, if_pos rfl⟩ (Keeps.set ⟨Nat.le_of_eq hn.symm, fun j _ _ => hoj j⟩ _) rfl
def ownS (c : Cal) (t : Int) (m : Bool) : Cal := { freshS c 3 t m with st := { (freshS c 3 t m).st with refs := c.st.refs ++ [c.st.next] } }
theorem own_c (d : Nat) {K : Kx} {σ : St} {id : Nat} {c : Cal} (h : At K σ id c) (hl : c.st.refs.length ≤ 17592186044416) (t : Int) (m : Bool) :
    Sat (fun p => p.1 = .tup [] ∧ At K p.2 id (ownS c t m) ∧ Keeps σ p.2 id) (evalF Try.prog CC (d + 2) 28 [.ptr 58 id [0], .int .i64 t, .bool m] σ) := by
  have hid := h.1
  refine Sat.go ?_
  rw [run_28 _ _ _ (by simp)]; unfold Try.f28; simp only [Option.getD_some]
  simp only [go_sem, ↓reduceIte, Nat.reduceEqDiff, Nat.reduceAdd, reduceCtorEq, CCT, CCv, CCr, CCk, CCx, List.isEmpty_nil, Nat.reduceBNe, Nat.reduceBEq, Bool.or_false, Bool.false_or, Bool.or_true, Bool.true_or, Nat.reduceLeDiff, Nat.reduceLT, beqI, bneI, List.length_map, decide_true, decide_false, Int.reduceEq, Int.reduceLT, Int.reduceLE, Int.reduceGE, Int.reduceGT, not_true_eq_false, not_false_eq_true, Bool.and_true, Bool.true_and, Bool.and_false, Bool.false_and, and_true, true_and, and_self, Bool.not_not, *]
  refine W.call (fresh_c _ h 3 t m) ?_
  rintro v s ⟨g1, ⟨g2, r, g3, g4⟩, g5⟩
  simp only at g1 g2 g3 g4 g5
  have hs' : ∀ (o : AObj) (q : Option Nat), Keeps σ ((s.tokNew q).set id o) id := fun o q => (g5.tok q).set o
  have hs'' : ∀ (o : AObj) (q q' : Option Nat), Keeps σ (((s.tokNew q).tokNew q').set id o) id := fun o q q' => ((g5.tok q).tok q').set o
  have hil : (intsA c.st.refs).length = c.st.refs.length := by simp [intsA]
  have hap : intsA c.st.refs ++ [AV.int .i64 c.st.next] = intsA (c.st.refs ++ [c.st.next]) := by simp [intsA]
  simp only [encC, freshS, encS] at g4
  simp only [go_sem, ↓reduceIte, Nat.reduceEqDiff, Nat.reduceAdd, reduceCtorEq, CCT, CCv, CCr, CCk, CCx, List.isEmpty_nil, Nat.reduceBNe, Nat.reduceBEq, Bool.or_false, Bool.false_or, Bool.or_true, Bool.true_or, Nat.reduceLeDiff, Nat.reduceLT, beqI, bneI, List.length_map, decide_true, decide_false, Int.reduceEq, Int.reduceLT, Int.reduceLE, Int.reduceGE, Int.reduceGT, not_true_eq_false, not_false_eq_true, Bool.and_true, Bool.true_and, Bool.and_false, Bool.false_and, and_true, true_and, and_self, Bool.not_not, g4]
  refine W.br_ok (by kernel_rfl) ?_
  have hC := fun d r' hrp => Clone_c d r' c.st.refs hrp hl
  rcases g3 with ⟨hx0, b, rfl⟩ | ⟨b, tok, rfl, hb⟩
  · have hC := fun d => hC d (.mt b) (.inl ⟨hx0, b, rfl⟩)
    have hx0 : c.st.refs = [] := hx0
    cases b
    · simp only [go_sem, ↓reduceIte, Nat.reduceEqDiff, Nat.reduceAdd, reduceCtorEq, CCT, CCv, CCr, CCk, CCx, List.isEmpty_nil, Nat.reduceBNe, Nat.reduceBEq, Bool.or_false, Bool.false_or, Bool.or_true, Bool.true_or, Nat.reduceLeDiff, Nat.reduceLT, beqI, bneI, List.length_map, decide_true, decide_false, Int.reduceEq, Int.reduceLT, Int.reduceLE, Int.reduceGE, Int.reduceGT, not_true_eq_false, not_false_eq_true, Bool.and_true, Bool.true_and, Bool.and_false, Bool.false_and, and_true, true_and, and_self, Bool.not_not, g4, hC, cloneV]
      refine W.br_ok (roomy3 (by rw [hil, hx0]; simp)) ?_
      simp only [go_sem, ↓reduceIte, Nat.reduceEqDiff, Nat.reduceAdd, reduceCtorEq, CCT, CCv, CCr, CCk, CCx, List.isEmpty_nil, Nat.reduceBNe, Nat.reduceBEq, Bool.or_false, Bool.false_or, Bool.or_true, Bool.true_or, Nat.reduceLeDiff, Nat.reduceLT, beqI, bneI, List.length_map, decide_true, decide_false, Int.reduceEq, Int.reduceLT, Int.reduceLE, Int.reduceGE, Int.reduceGT, not_true_eq_false, not_false_eq_true, Bool.and_true, Bool.true_and, Bool.and_false, Bool.false_and, and_true, true_and, and_self, Bool.not_not, g4, hap]
      exact fin_c hid ⟨g2, _, .inr ⟨false, _, rfl, by simp⟩, if_pos rfl⟩ (hs'' _ _ _) rfl
    · simp only [go_sem, ↓reduceIte, Nat.reduceEqDiff, Nat.reduceAdd, reduceCtorEq, CCT, CCv, CCr, CCk, CCx, List.isEmpty_nil, Nat.reduceBNe, Nat.reduceBEq, Bool.or_false, Bool.false_or, Bool.or_true, Bool.true_or, Nat.reduceLeDiff, Nat.reduceLT, beqI, bneI, List.length_map, decide_true, decide_false, Int.reduceEq, Int.reduceLT, Int.reduceLE, Int.reduceGE, Int.reduceGT, not_true_eq_false, not_false_eq_true, Bool.and_true, Bool.true_and, Bool.and_false, Bool.false_and, and_true, true_and, and_self, Bool.not_not, g4, hC, cloneV]
      refine W.br_ok (roomy3 (by simp)) ?_
      simp only [go_sem, ↓reduceIte, Nat.reduceEqDiff, Nat.reduceAdd, reduceCtorEq, CCT, CCv, CCr, CCk, CCx, List.isEmpty_nil, Nat.reduceBNe, Nat.reduceBEq, Bool.or_false, Bool.false_or, Bool.or_true, Bool.true_or, Nat.reduceLeDiff, Nat.reduceLT, beqI, bneI, List.length_map, decide_true, decide_false, Int.reduceEq, Int.reduceLT, Int.reduceLE, Int.reduceGE, Int.reduceGT, not_true_eq_false, not_false_eq_true, Bool.and_true, Bool.true_and, Bool.and_false, Bool.false_and, and_true, true_and, and_self, Bool.not_not, g4]
      exact fin_c hid ⟨g2, _, .inr ⟨false, some (s.ntok + 1), by show AV.list 3 false [AV.int .i64 c.st.next] _ = AV.list 3 false (intsA (c.st.refs ++ [c.st.next])) _; rw [hx0]; rfl, by simp⟩, if_pos rfl⟩ (hs' _ _) rfl
  · have hC := fun d => hC d (.list 3 b (intsA c.st.refs) none) (.inr ⟨b, rfl, hb⟩)
    have hb : b = true → c.st.refs = [] := hb
    cases b
    · simp only [go_sem, ↓reduceIte, Nat.reduceEqDiff, Nat.reduceAdd, reduceCtorEq, CCT, CCv, CCr, CCk, CCx, List.isEmpty_nil, Nat.reduceBNe, Nat.reduceBEq, Bool.or_false, Bool.false_or, Bool.or_true, Bool.true_or, Nat.reduceLeDiff, Nat.reduceLT, beqI, bneI, List.length_map, decide_true, decide_false, Int.reduceEq, Int.reduceLT, Int.reduceLE, Int.reduceGE, Int.reduceGT, not_true_eq_false, not_false_eq_true, Bool.and_true, Bool.true_and, Bool.and_false, Bool.false_and, and_true, true_and, and_self, Bool.not_not, g4, hC, cloneV, freshS]
      refine W.br_ok (roomy3 (by rw [hil]; simp; omega)) ?_
      simp only [go_sem, ↓reduceIte, Nat.reduceEqDiff, Nat.reduceAdd, reduceCtorEq, CCT, CCv, CCr, CCk, CCx, List.isEmpty_nil, Nat.reduceBNe, Nat.reduceBEq, Bool.or_false, Bool.false_or, Bool.or_true, Bool.true_or, Nat.reduceLeDiff, Nat.reduceLT, beqI, bneI, List.length_map, decide_true, decide_false, Int.reduceEq, Int.reduceLT, Int.reduceLE, Int.reduceGE, Int.reduceGT, not_true_eq_false, not_false_eq_true, Bool.and_true, Bool.true_and, Bool.and_false, Bool.false_and, and_true, true_and, and_self, Bool.not_not, g4, hap]
      exact fin_c hid ⟨g2, _, .inr ⟨false, _, rfl, by simp⟩, if_pos rfl⟩ (hs'' _ _ _) rfl
    · have hx0 := hb rfl
      simp only [go_sem, ↓reduceIte, Nat.reduceEqDiff, Nat.reduceAdd, reduceCtorEq, CCT, CCv, CCr, CCk, CCx, List.isEmpty_nil, Nat.reduceBNe, Nat.reduceBEq, Bool.or_false, Bool.false_or, Bool.or_true, Bool.true_or, Nat.reduceLeDiff, Nat.reduceLT, beqI, bneI, List.length_map, decide_true, decide_false, Int.reduceEq, Int.reduceLT, Int.reduceLE, Int.reduceGE, Int.reduceGT, not_true_eq_false, not_false_eq_true, Bool.and_true, Bool.true_and, Bool.and_false, Bool.false_and, and_true, true_and, and_self, Bool.not_not, g4, hC, cloneV, freshS]
      refine W.br_ok (roomy3 (by simp)) ?_
      simp only [go_sem, ↓reduceIte, Nat.reduceEqDiff, Nat.reduceAdd, reduceCtorEq, CCT, CCv, CCr, CCk, CCx, List.isEmpty_nil, Nat.reduceBNe, Nat.reduceBEq, Bool.or_false, Bool.false_or, Bool.or_true, Bool.true_or, Nat.reduceLeDiff, Nat.reduceLT, beqI, bneI, List.length_map, decide_true, decide_false, Int.reduceEq, Int.reduceLT, Int.reduceLE, Int.reduceGE, Int.reduceGT, not_true_eq_false, not_false_eq_true, Bool.and_true, Bool.true_and, Bool.and_false, Bool.false_and, and_true, true_and, and_self, Bool.not_not, g4]
      exact fin_c hid ⟨g2, _, .inr ⟨false, some (s.ntok + 1), by show AV.list 3 false [AV.int .i64 c.st.next] _ = AV.list 3 false (intsA (c.st.refs ++ [c.st.next])) _; rw [hx0]; rfl, by simp⟩, if_pos rfl⟩ (hs' _ _) rfl
def lockT (c : Cal) : Bool := true
theorem spend_c (d : Nat) {K : Kx} {σ : St} {id : Nat} {c : Cal} (h : At K σ id c) (hs : SOk c.st) (hl : c.st.refs.length ≤ 17592186044416) (w : Wht) :
    Sat (fun p => p.1 = .tup [] ∧ At K p.2 id (spendS c w) ∧ Keeps σ p.2 id) (evalF Try.prog CC (d + 4) 30 [.ptr 58 id [0], encW w] σ) := by
  obtain ⟨hid, r, hr, hob⟩ := h
  have hne := eq_false (show ¬ id = σ.next by omega)
  refine Sat.go ?_
  rw [run_30 _ _ _ (by simp)]; unfold Try.f30; simp only [Option.getD_some]
  simp only [go_sem, ↓reduceIte, Nat.reduceEqDiff, Nat.reduceAdd, reduceCtorEq, CCT, CCv, CCr, CCk, CCx, List.isEmpty_nil, Nat.reduceBNe, Nat.reduceBEq, Bool.or_false, Bool.false_or, Bool.or_true, Bool.true_or, Nat.reduceLeDiff, Nat.reduceLT, beqI, bneI, List.length_map, decide_true, decide_false, Int.reduceEq, Int.reduceLT, Int.reduceLE, Int.reduceGE, Int.reduceGT, not_true_eq_false, not_false_eq_true, Bool.and_true, Bool.true_and, Bool.and_false, Bool.false_and, and_true, true_and, and_self, Bool.not_not, hob, hne]
  refine W.call (CloneRow_c _ r c.st.refs hr hl _) ?_
  rintro v s ⟨hk, hcp⟩
  simp only at hk hcp
  have hn1 : σ.next + 1 ≤ s.next := hk.1
  have hos : s.obj id = some (.cells 58 [encC K c r]) := (hk.2 id (Nat.lt_succ_of_lt hid) (show id ≠ σ.next + 1 by omega)).trans ((if_neg (by omega)).trans hob)
  have how : s.obj σ.next = some (.cells 28 [encW w]) := (hk.2 σ.next (Nat.lt_succ_self _) (show σ.next ≠ σ.next + 1 by omega)).trans (if_pos rfl)
  rcases hcp with ⟨hx0, hv⟩ | ⟨hx0, rfl, hv2, hv3⟩
  · have hv' : v = .mt true ∨ ∃ tok, v = .list 3 false [] tok := hv
    simp only [go_sem, ↓reduceIte, Nat.reduceEqDiff, Nat.reduceAdd, reduceCtorEq, CCT, CCv, CCr, CCk, CCx, List.isEmpty_nil, Nat.reduceBNe, Nat.reduceBEq, Bool.or_false, Bool.false_or, Bool.or_true, Bool.true_or, Nat.reduceLeDiff, Nat.reduceLT, beqI, bneI, List.length_map, decide_true, decide_false, Int.reduceEq, Int.reduceLT, Int.reduceLE, Int.reduceGE, Int.reduceGT, not_true_eq_false, not_false_eq_true, Bool.and_true, Bool.true_and, Bool.and_false, Bool.false_and, and_true, true_and, and_self, Bool.not_not, hos]
    refine W.call (DeleteFunc_e _ v hv') ?_
    rintro v2 s2 ⟨rfl, hk2⟩
    simp only at hk2
    have ho2 := (hk2.2 id (by omega) (by omega)).trans hos
    have how2 := (hk2.2 σ.next (by omega) (by omega)).trans how
    have hn2 : s.next ≤ s2.next := hk2.1
    have hno : no w.id c.st.refs = [] := by rw [hx0]; rfl
    have hF := fun d r' hrp => Forget_c d { c.st with refs := no w.id c.st.refs } r' hrp ⟨hs.regs, hs.slots⟩ 3 w.id
    have hne2 := eq_false (show ¬ id = s2.next by omega)
    have hne3 := eq_false (show ¬ σ.next = id by omega)
    have hkk : ∀ o, Keeps σ (s2.set id o) id := fun o => ⟨by show σ.next ≤ s2.next; omega, fun j hj hn => by
      show (if j = id then _ else s2.obj j) = _
      rw [if_neg hn, hk2.2 j (by omega) (by omega), hk.2 j (show j < σ.next + 1 by omega) (show j ≠ σ.next + 1 by omega)]
      exact if_neg (by omega)⟩
    rcases hv' with rfl | ⟨tok, rfl⟩
    · have hF := fun d => hF d (.mt true) (.inl ⟨hno, true, rfl⟩)
      simp only [go_sem, ↓reduceIte, Nat.reduceEqDiff, Nat.reduceAdd, reduceCtorEq, CCT, CCv, CCr, CCk, CCx, List.isEmpty_nil, Nat.reduceBNe, Nat.reduceBEq, Bool.or_false, Bool.false_or, Bool.or_true, Bool.true_or, Nat.reduceLeDiff, Nat.reduceLT, beqI, bneI, List.length_map, decide_true, decide_false, Int.reduceEq, Int.reduceLT, Int.reduceLE, Int.reduceGE, Int.reduceGT, not_true_eq_false, not_false_eq_true, Bool.and_true, Bool.true_and, Bool.and_false, Bool.false_and, and_true, true_and, and_self, Bool.not_not, ho2, how2, hne3]
      refine W.br_ok (by kernel_rfl) ?_
      simp only [go_sem, ↓reduceIte, Nat.reduceEqDiff, Nat.reduceAdd, reduceCtorEq, CCT, CCv, CCr, CCk, CCx, List.isEmpty_nil, Nat.reduceBNe, Nat.reduceBEq, Bool.or_false, Bool.false_or, Bool.or_true, Bool.true_or, Nat.reduceLeDiff, Nat.reduceLT, beqI, bneI, List.length_map, decide_true, decide_false, Int.reduceEq, Int.reduceLT, Int.reduceLE, Int.reduceGE, Int.reduceGT, not_true_eq_false, not_false_eq_true, Bool.and_true, Bool.true_and, Bool.and_false, Bool.false_and, and_true, true_and, and_self, Bool.not_not, ho2, how2, hne3, frz_W, strip_W, view_W]
      refine call_state (l := []) (hF _) (encS_pure (.inl ⟨hno, true, rfl⟩)) (by first | rfl | simp [view_W, viewIdsL, viewIds]) ?_
      intro σ' hn hoj
      have hoj := fun j => hoj j (by simp)
      have ho' := (hoj id).trans (if_pos rfl)
      simp only [go_sem, ↓reduceIte, Nat.reduceEqDiff, Nat.reduceAdd, reduceCtorEq, CCT, CCv, CCr, CCk, CCx, List.isEmpty_nil, Nat.reduceBNe, Nat.reduceBEq, Bool.or_false, Bool.false_or, Bool.or_true, Bool.true_or, Nat.reduceLeDiff, Nat.reduceLT, beqI, bneI, List.length_map, decide_true, decide_false, Int.reduceEq, Int.reduceLT, Int.reduceLE, Int.reduceGE, Int.reduceGT, not_true_eq_false, not_false_eq_true, Bool.and_true, Bool.true_and, Bool.and_false, Bool.false_and, and_true, true_and, and_self, Bool.not_not, ho']
      exact fin_c hid ⟨by show id < σ'.next; rw [hn]; show id < s2.next; omega, .mt true, .inl ⟨hno, true, rfl⟩, if_pos rfl⟩ (((hkk _).congr hn (fun j _ _ => hoj j)).set _) rfl
    · have hF := fun d => hF d (.list 3 false [] none) (.inr ⟨false, by rw [hno]; rfl, by simp⟩)
      simp only [go_sem, ↓reduceIte, Nat.reduceEqDiff, Nat.reduceAdd, reduceCtorEq, CCT, CCv, CCr, CCk, CCx, List.isEmpty_nil, Nat.reduceBNe, Nat.reduceBEq, Bool.or_false, Bool.false_or, Bool.or_true, Bool.true_or, Nat.reduceLeDiff, Nat.reduceLT, beqI, bneI, List.length_map, decide_true, decide_false, Int.reduceEq, Int.reduceLT, Int.reduceLE, Int.reduceGE, Int.reduceGT, not_true_eq_false, not_false_eq_true, Bool.and_true, Bool.true_and, Bool.and_false, Bool.false_and, and_true, true_and, and_self, Bool.not_not, ho2, how2, hne3]
      refine W.br_ok (by kernel_rfl) ?_
      simp only [go_sem, ↓reduceIte, Nat.reduceEqDiff, Nat.reduceAdd, reduceCtorEq, CCT, CCv, CCr, CCk, CCx, List.isEmpty_nil, Nat.reduceBNe, Nat.reduceBEq, Bool.or_false, Bool.false_or, Bool.or_true, Bool.true_or, Nat.reduceLeDiff, Nat.reduceLT, beqI, bneI, List.length_map, decide_true, decide_false, Int.reduceEq, Int.reduceLT, Int.reduceLE, Int.reduceGE, Int.reduceGT, not_true_eq_false, not_false_eq_true, Bool.and_true, Bool.true_and, Bool.and_false, Bool.false_and, and_true, true_and, and_self, Bool.not_not, ho2, how2, hne3, frz_W, strip_W, view_W]
      refine call_state (l := []) (hF _) (encS_pure (.inr ⟨false, by show _ = AV.list 3 false (intsA (no w.id c.st.refs)) none; rw [hno]; rfl, by simp⟩)) (by first | rfl | simp [view_W, viewIdsL, viewIds]) ?_
      intro σ' hn hoj
      have hoj := fun j => hoj j (by simp)
      have ho' := (hoj id).trans (if_pos rfl)
      simp only [go_sem, ↓reduceIte, Nat.reduceEqDiff, Nat.reduceAdd, reduceCtorEq, CCT, CCv, CCr, CCk, CCx, List.isEmpty_nil, Nat.reduceBNe, Nat.reduceBEq, Bool.or_false, Bool.false_or, Bool.or_true, Bool.true_or, Nat.reduceLeDiff, Nat.reduceLT, beqI, bneI, List.length_map, decide_true, decide_false, Int.reduceEq, Int.reduceLT, Int.reduceLE, Int.reduceGE, Int.reduceGT, not_true_eq_false, not_false_eq_true, Bool.and_true, Bool.true_and, Bool.and_false, Bool.false_and, and_true, true_and, and_self, Bool.not_not, ho']
      exact fin_c hid ⟨by show id < σ'.next; rw [hn]; show id < s2.next; omega, .list 3 false [] none, .inr ⟨false, none, by show _ = AV.list 3 false (intsA (no w.id c.st.refs)) none; rw [hno]; rfl, by simp⟩, if_pos rfl⟩ (((hkk _).congr hn (fun j _ _ => hoj j)).set _) rfl
  · simp only [go_sem, ↓reduceIte, Nat.reduceEqDiff, Nat.reduceAdd, reduceCtorEq, CCT, CCv, CCr, CCk, CCx, List.isEmpty_nil, Nat.reduceBNe, Nat.reduceBEq, Bool.or_false, Bool.false_or, Bool.or_true, Bool.true_or, Nat.reduceLeDiff, Nat.reduceLT, beqI, bneI, List.length_map, decide_true, decide_false, Int.reduceEq, Int.reduceLT, Int.reduceLE, Int.reduceGE, Int.reduceGT, not_true_eq_false, not_false_eq_true, Bool.and_true, Bool.true_and, Bool.and_false, Bool.false_and, and_true, true_and, and_self, Bool.not_not, hos]
    refine W.call (DeleteFunc_c _ (v := σ.next + 1) (iw := σ.next) hv2 (by omega) (by omega) hx0 hl hv3 how) ?_
    rintro v2 s2 ⟨hk2, ys, rfl, hy1, hy2, hy3⟩
    simp only at hk2 hy1
    have ho2 := (hk2.2 id (by omega) (by omega)).trans hos
    have how2 := (hk2.2 σ.next (by omega) (by omega)).trans how
    have hn2 : s.next ≤ s2.next := hk2.1
    have hF := fun d => Forget_c d { c.st with refs := no w.id c.st.refs } (.list 3 false (intsA (no w.id c.st.refs)) none) (.inr ⟨false, rfl, by simp⟩) ⟨hs.regs, hs.slots⟩ 3 w.id
    have hne3 := eq_false (show ¬ σ.next = id by omega)
    have hkk : ∀ o, Keeps σ (s2.set id o) id := fun o => ⟨by show σ.next ≤ s2.next; omega, fun j hj hn => by
      show (if j = id then _ else s2.obj j) = _
      rw [if_neg hn, hk2.2 j (by omega) (by omega), hk.2 j (show j < σ.next + 1 by omega) (show j ≠ σ.next + 1 by omega)]
      exact if_neg (by omega)⟩
    have hfv : ∀ o, @sliceOf ⟨s2.set id o⟩ (.view 3 (σ.next + 1) [] 0 (no w.id c.st.refs).length) = some (intsA (no w.id c.st.refs)) := by
      intro o
      have hov : (s2.set id o).obj (σ.next + 1) = some (.cells 3 (intsA ys)) := (if_neg (by omega)).trans hy1
      have hle : (no w.id c.st.refs).length ≤ ys.length := by
        have := congrArg List.length hy3
        rw [List.length_take] at this
        omega
      have e1 : ((intsA ys).drop 0).take (no w.id c.st.refs).length = intsA (no w.id c.st.refs) := by
        rw [List.drop_zero]
        unfold intsA
        rw [← List.map_take, hy3]
      simp only [sliceOf, hov]
      have hil2 : (intsA ys).length = ys.length := List.length_map _
      rw [if_pos (by rw [hil2]; omega), e1]
    simp only [go_sem, ↓reduceIte, Nat.reduceEqDiff, Nat.reduceAdd, reduceCtorEq, CCT, CCv, CCr, CCk, CCx, List.isEmpty_nil, Nat.reduceBNe, Nat.reduceBEq, Bool.or_false, Bool.false_or, Bool.or_true, Bool.true_or, Nat.reduceLeDiff, Nat.reduceLT, beqI, bneI, List.length_map, decide_true, decide_false, Int.reduceEq, Int.reduceLT, Int.reduceLE, Int.reduceGE, Int.reduceGT, not_true_eq_false, not_false_eq_true, Bool.and_true, Bool.true_and, Bool.and_false, Bool.false_and, and_true, true_and, and_self, Bool.not_not, ho2, how2, hne3]
    refine W.br_ok (by kernel_rfl) ?_
    simp only [go_sem, ↓reduceIte, Nat.reduceEqDiff, Nat.reduceAdd, reduceCtorEq, CCT, CCv, CCr, CCk, CCx, List.isEmpty_nil, Nat.reduceBNe, Nat.reduceBEq, Bool.or_false, Bool.false_or, Bool.or_true, Bool.true_or, Nat.reduceLeDiff, Nat.reduceLT, beqI, bneI, List.length_map, decide_true, decide_false, Int.reduceEq, Int.reduceLT, Int.reduceLE, Int.reduceGE, Int.reduceGT, not_true_eq_false, not_false_eq_true, Bool.and_true, Bool.true_and, Bool.and_false, Bool.false_and, and_true, true_and, and_self, Bool.not_not, ho2, how2, hne3]
    refine W.br_ok (by kernel_rfl) ?_
    simp only [go_sem, ↓reduceIte, Nat.reduceEqDiff, Nat.reduceAdd, reduceCtorEq, CCT, CCv, CCr, CCk, CCx, List.isEmpty_nil, Nat.reduceBNe, Nat.reduceBEq, Bool.or_false, Bool.false_or, Bool.or_true, Bool.true_or, Nat.reduceLeDiff, Nat.reduceLT, beqI, bneI, List.length_map, decide_true, decide_false, Int.reduceEq, Int.reduceLT, Int.reduceLE, Int.reduceGE, Int.reduceGT, not_true_eq_false, not_false_eq_true, Bool.and_true, Bool.true_and, Bool.and_false, Bool.false_and, and_true, true_and, and_self, Bool.not_not, ho2, how2, hne3, frz_W, strip_W, view_W, hfv, pure_ints]
    refine call_state (l := [σ.next + 1]) (hF _) (encS_pure (.inr ⟨false, rfl, by simp⟩)) (by first | rfl | simp [view_W, viewIdsL, viewIds]) ?_
    intro σ' hn hoj
    have hoj := fun j (hj : j ≠ σ.next + 1) => hoj j (by simpa using hj)
    have ho' := (hoj id (by omega)).trans (if_pos rfl)
    simp only [go_sem, ↓reduceIte, Nat.reduceEqDiff, Nat.reduceAdd, reduceCtorEq, CCT, CCv, CCr, CCk, CCx, List.isEmpty_nil, Nat.reduceBNe, Nat.reduceBEq, Bool.or_false, Bool.false_or, Bool.or_true, Bool.true_or, Nat.reduceLeDiff, Nat.reduceLT, beqI, bneI, List.length_map, decide_true, decide_false, Int.reduceEq, Int.reduceLT, Int.reduceLE, Int.reduceGE, Int.reduceGT, not_true_eq_false, not_false_eq_true, Bool.and_true, Bool.true_and, Bool.and_false, Bool.false_and, and_true, true_and, and_self, Bool.not_not, ho']
    exact fin_c hid ⟨by show id < σ'.next; rw [hn]; show id < s2.next; omega, _, .inr ⟨false, none, rfl, by simp⟩, if_pos rfl⟩ (((hkk _).congr hn (fun j hj _ => hoj j (by omega))).set _) rfl
end Go.Proofs.Ytdbpnkemlmagoaa.Va
