/- chapter 19: a question whether a pointer is none -/
import Derived.Test.YticlihmbikcohaaVaFun
import Derived.Test.YticlihmbikcohaaVaWp
import Derived.Test.YticlihmbikcohaaVaN
import Derived.Test.YticlihmbikcohaaNinC
import Derived.Test.YticlihmbikcohaaVaDg
import Derived.Laws.Externs
import Derived.Test.YticlihmbikcohaaMg1

namespace Go.Proofs.Yticlihmbikcohaa.Va
open Go
set_option linter.unusedVariables false
set_option linter.unusedSimpArgs false
set_option maxRecDepth 100000
set_option maxHeartbeats 4000000
def nullT (s : Sta) (ia : Int) (a to : Wht) (none : Bool) : Sta :=
  ⟨(s.regs.map (becW a to none)).set ia.toNat to, s.slots.map (becW a to none), if none = true ∧ a.kind = 3 then no a.id s.refs else s.refs, s.lock, s.sec, s.next⟩
def nullOne (pc : Int) (s : Sta) (i : Ins) (a : Wht) (n : Int) (holds : Bool) : List (Int × Sta) :=
  let none := holds == decide (i.c = 1)
  if (splitS a none).2 = true then [(pc + 1 + n * (i.imm - 1), nullT s i.a a (splitS a none).1 none)] else []
def nullPre (pc : Int) (s : Sta) (i : Ins) (a : Wht) : Nat → List (Int × Sta)
  | 0 => []
  | 1 => nullOne pc s i a 0 false
  | _ => nullOne pc s i a 0 false ++ nullOne pc s i a 1 true
def nullS (pc : Int) (s : Sta) (i : Ins) (a : Wht) : List (Int × Sta) × Int :=
  if a.kind = 0 then ([], 7) else if i.c ≠ 1 ∧ i.c ≠ 2 then ([], 7) else if i.b ≠ 0 then ([], 7) else (nullPre pc s i a 2, 0)
theorem addLs_app (L : Int → List Sta) : ∀ (a b : List (Int × Sta)), addLs L (a ++ b) = addLs (addLs L a) b
  | [], b => rfl
  | (k, s) :: a, b => addLs_app (addL L k s) a b
theorem addLs_len : ∀ (l : List (Int × Sta)) (L : Int → List Sta) (k : Int), (addLs L l k).length ≤ (L k).length + l.length
  | [], L, k => Nat.le_refl _
  | (q, s) :: l, L, k => by
    have h := addLs_len l (addL L q s) k
    have : (addL L q s k).length ≤ (L k).length + 1 := by
      unfold addL
      by_cases e : k = q
      · rw [if_pos e, e]; simp
      · rw [if_neg e]; omega
    simp only [addLs, List.length_cons]
    omega
theorem nullOne_len (pc : Int) (s : Sta) (i : Ins) (a : Wht) (n : Int) (h : Bool) : (nullOne pc s i a n h).length ≤ 1 := by
  unfold nullOne
  simp only
  split <;> simp
theorem WK.kill {K : Kx} {bp : Bool} {p : List Ins} {L : Int → List Sta} {τ : St} {w m : Nat} (h : WK K bp p L τ w m) {j : Nat} (h1 : j ≠ w) (h2 : j ≠ m) : WK K bp p L (τ.kill j) w m := by
  obtain ⟨E, hE, hL⟩ := h
  exact ⟨E, ⟨hE.hw, hE.hm, hE.ne, (if_neg (fun e => h1 e.symm)).trans hE.ow, (if_neg (fun e => h2 e.symm)).trans hE.om, hE.live, hE.dist, hE.rows⟩, hL⟩
theorem Keeps.kill {σ τ : St} {id : Nat} (h : Keeps σ τ id) {j : Nat} (hj : σ.next ≤ j) : Keeps σ (τ.kill j) id := ⟨h.1, fun k hk hn => by
  show (if k = j then _ else τ.obj k) = _
  rw [if_neg (by omega)]; exact h.2 k hk hn⟩
theorem null_tail (d : Nat) {K : Kx} {bp : Bool} {p : List Ins} {L : Int → List Sta} {σ s1 : St} {w m : Nat} (hW : WK K bp p L s1 w m) (hKs : Keeps σ s1 m) (hw : w < σ.next) (hm : m < σ.next) (hwm : w ≠ m) (pc : Int) (hpc : 0 ≤ pc ∧ pc < 1000) (s : Sta) (r : AV) (hr : RefA r s.refs) (ho : SOk s) (hrl : s.refs.length ≤ 100000) (i : Ins) (a : Wht)
    (ha : 0 ≤ i.a ∧ i.a < 10) (hi : 0 ≤ i.imm ∧ i.imm < 4294967296) (hl : ∀ k, (L k).length ≤ 10000) (ρ : Env)
    (h0 : ρ 0 = .ptr 65 w [0]) (h1 : ρ 1 = .int .i64 pc) (h7 : ρ 7 = .ptr 43 σ.next [0]) (h8 : ρ 8 = .ptr 28 (σ.next + 1) [0]) (h9 : ρ 9 = .ptr 38 (σ.next + 2) [0])
    (o7 : s1.obj σ.next = some (.cells 43 [encS s r])) (o8 : s1.obj (σ.next + 1) = some (.cells 28 [encI i])) (o9 : s1.obj (σ.next + 2) = some (.cells 38 [encW a])) (hnx : σ.next + 3 ≤ s1.next) :
    Wp (Sat (StepP K bp p L w m σ (nullPre pc s i a 2, 0))) (evalCode CC (evalF Try.prog CC (d + 5)) 54 (tl 2 (Try.f54.body.getD .skip)) ρ s1 (retK CC 54 Try.f54 σ)) := by
  have ia := fun k id q => ix_regI (k := k) id q ha.1 ha.2
  unfold Try.f54
  simp only [Option.getD_some, tl]
  simp only [go_sem, ↓reduceIte, *]
  refine W.iter_rule (fun j ρ s' => ρ 0 = .ptr 65 w [0] ∧ ρ 1 = .int .i64 pc ∧ ρ 7 = .ptr 43 σ.next [0] ∧ ρ 8 = .ptr 28 (σ.next + 1) [0] ∧ ρ 9 = .ptr 38 (σ.next + 2) [0] ∧ ρ 35 = .agg 116 [.bool false, .bool true] ∧ ρ 36 = .int .i64 j ∧ s'.obj σ.next = some (.cells 43 [encS s r]) ∧ s'.obj (σ.next + 1) = some (.cells 28 [encI i]) ∧ s'.obj (σ.next + 2) = some (.cells 38 [encW a]) ∧ σ.next + 3 ≤ s'.next ∧ WK K bp p (addLs L (nullPre pc s i a j)) s' w m ∧ Keeps σ s' m) 2 ?_ ?_ _ 0 _ _ (Nat.zero_le _) ?_ ?_
  · clear h0 h1 h7 h8 h9 o7 o8 o9 hnx hW hKs
    rintro j ρ s1 hj ⟨h0, h1, h7, h8, h9, h35, h36, o7, o8, o9, hnx, hW, hKs⟩ K' hK hx hr'
    have hlt := eq_true (show ((j : Nat) : Int) < 2 by omega)
    have hwrap : IntKind.i64.wrap ((j : Int) + 1) = ((j + 1 : Nat) : Int) := by rw [IntKind.wrap_i64]; omega
    obtain ⟨hd, hg, hpre⟩ : ∃ hd : Bool, aIndex T 116 (.agg 116 [.bool false, .bool true]) (.int .i64 (j : Int)) = some (.bool hd) ∧ nullPre pc s i a (j + 1) = nullPre pc s i a j ++ nullOne pc s i a j hd := by
      rcases (show j = 0 ∨ j = 1 by omega) with rfl | rfl
      · exact ⟨false, by simp [aIndex, ty_116, Tab.same], rfl⟩
      · exact ⟨true, by simp [aIndex, ty_116, Tab.same], rfl⟩
    have hlL : ∀ k, (addLs L (nullPre pc s i a j) k).length ≤ 10001 := by
      intro k
      have g1 := addLs_len (nullPre pc s i a j) L k
      have g2 := hl k
      have g3 : (nullPre pc s i a j).length ≤ 1 := by
        rcases (show j = 0 ∨ j = 1 by omega) with rfl | rfl
        · simp [nullPre]
        · exact nullOne_len ..
      omega
    generalize hL1 : addLs L (nullPre pc s i a j) = L1 at hW hlL
    have hnext : ∀ ls, nullOne pc s i a j hd = ls → addLs L (nullPre pc s i a (j + 1)) = addLs L1 ls := by
      rintro ls rfl
      rw [hpre, addLs_app, hL1]
    clear hpre
    unfold nullOne at hnext
    simp only at hnext
    obtain ⟨nn, hnn⟩ : ∃ nn, (hd == decide (i.c = 1)) = nn := ⟨_, rfl⟩
    rw [hnn] at hnext
    have hspl := fun d => split_c d a nn
    generalize splitS a nn = sp at hspl hnext
    obtain ⟨to, can⟩ := sp
    simp only at hspl hnext
    simp only [encS, encI, encW] at o7 o8 o9 hspl
    simp only [go_sem, ↓reduceIte, h0, h1, h7, h8, h9, h35, h36, o7, o8, o9, hg, hlt, hnn, hspl, Nat.left_eq_add, Nat.add_eq_left, Nat.add_left_cancel_iff, Nat.succ_ne_zero, Nat.add_assoc, Nat.one_ne_zero, Bool.not_false, Bool.not_true]
    cases can
    · have hq := hnext [] (by simp)
      simp only [go_sem, ↓reduceIte, h36, hwrap, Nat.left_eq_add, Nat.add_eq_left, Nat.add_left_cancel_iff, Nat.succ_ne_zero, Nat.add_assoc, Nat.one_ne_zero, Bool.not_false, Bool.not_true]
      refine hK _ _ ?_
      have hKt : Keeps s1 ((s1.new (.cells 38 [T.zero 38])).set s1.next (.cells 38 [encW to])) m := by (repeat' first | exact Keeps.refl _ _ | refine Keeps.new ?_ _ | refine Keeps.other ?_ _ (by omega) | refine Keeps.tok ?_ _)
      refine ⟨by (try simp only [go_sem, ↓reduceIte, Int.toNat_natCast, List.length_take, *]) <;> (first | done | rfl | omega | (simp; done) | (simp; omega)), by (try simp only [go_sem, ↓reduceIte, Int.toNat_natCast, List.length_take, *]) <;> (first | done | rfl | omega | (simp; done) | (simp; omega)), by (try simp only [go_sem, ↓reduceIte, Int.toNat_natCast, List.length_take, *]) <;> (first | done | rfl | omega | (simp; done) | (simp; omega)), by (try simp only [go_sem, ↓reduceIte, Int.toNat_natCast, List.length_take, *]) <;> (first | done | rfl | omega | (simp; done) | (simp; omega)), by (try simp only [go_sem, ↓reduceIte, Int.toNat_natCast, List.length_take, *]) <;> (first | done | rfl | omega | (simp; done) | (simp; omega)), by (try simp only [go_sem, ↓reduceIte, Int.toNat_natCast, List.length_take, *]) <;> (first | done | rfl | omega | (simp; done) | (simp; omega)), by (try simp only [go_sem, ↓reduceIte, Int.toNat_natCast, List.length_take, *]) <;> (first | done | rfl | omega | (simp; done) | (simp; omega)), (hKt.2 _ (by omega) (by omega)).trans o7, (hKt.2 _ (by omega) (by omega)).trans o8, (hKt.2 _ (by omega) (by omega)).trans o9, by show _ ≤ s1.next + 1; omega, ?_, hKs.trans hKt⟩
      rw [hq]
      have := hW.lt
      (repeat' first | exact hW | refine WK.box ?_ _ | refine WK.put ?_ (by omega) (by omega) _ | refine WK.tok ?_)
    have hq := hnext _ (if_pos rfl)
    have q1 := eq_false (show ¬ σ.next = s1.next by omega)
    have q2 := eq_false (show ¬ σ.next + 1 = s1.next by omega)
    have q3 := eq_false (show ¬ σ.next + 2 = s1.next by omega)
    have q4 := eq_false (show ¬ σ.next = s1.next + 1 by omega)
    have q5 := eq_false (show ¬ σ.next + 1 = s1.next + 1 by omega)
    have q6 := eq_false (show ¬ σ.next + 2 = s1.next + 1 by omega)
    have sl1 := fun id => sl_regs id
    have sl2 := fun id => sl_slots id
    simp only [go_sem, ↓reduceIte, h0, h1, h7, h8, h9, h36, o7, o8, o9, q1, q2, q3, q4, q5, q6, sl1, sl2, Nat.left_eq_add, Nat.add_eq_left, Nat.add_left_cancel_iff, Nat.succ_ne_zero, Nat.add_assoc, Nat.one_ne_zero, Bool.not_false, Bool.not_true]
    refine W.br_ok (by kernel_rfl) ?_
    simp only [go_sem, ↓reduceIte, h0, h1, h7, h8, h9, h36, o7, o8, o9, q1, q2, q3, q4, q5, q6, sl1, sl2, Nat.left_eq_add, Nat.add_eq_left, Nat.add_left_cancel_iff, Nat.succ_ne_zero, Nat.add_assoc, Nat.one_ne_zero, Bool.not_false, Bool.not_true]
    refine W.call (becomeA _ (A := s.regs) a to nn (v := s1.next + 1) (N := 10) (by show s1.next + 1 < s1.next + 1 + 1; omega) ho.1 (by omega) (if_pos rfl)) ?_
    rintro v s3 ⟨rfl, b3, hk3, hv3⟩
    simp only at b3 hk3 hv3
    have n3 : s1.next + 2 ≤ s3.next := hk3.1
    have f3 : ∀ j, j < s1.next → s3.obj j = s1.obj j := fun j hj => (hk3.2 j (by show j < s1.next + 1 + 1; omega) (by omega)).trans ((if_neg (by omega)).trans ((if_neg (by show ¬ j = s1.next + 1; omega)).trans ((if_neg (by omega)).trans (if_neg (by omega)))))
    have t3 : s3.obj s1.next = some (.cells 38 [encW to]) := (hk3.2 s1.next (by show s1.next < s1.next + 1 + 1; omega) (by omega)).trans ((if_neg (by omega)).trans ((if_neg (by show ¬ s1.next = s1.next + 1; omega)).trans (if_pos rfl)))
    have l3 : Lv s1 s3 := ⟨hv3.nt, hv3.lv⟩
    clear hk3 hv3
    have p7 := (f3 _ (by omega)).trans o7
    have p8 := (f3 _ (by omega)).trans o8
    have p9 := (f3 _ (by omega)).trans o9
    simp only [encW] at t3
    have r1 := eq_false (show ¬ s1.next + 1 = s3.next by omega)
    simp only [go_sem, ↓reduceIte, h0, h1, h7, h8, h9, h36, p7, p8, p9, b3, t3, sl1, sl2, Nat.left_eq_add, Nat.add_eq_left, Nat.add_left_cancel_iff, Nat.succ_ne_zero, Nat.add_assoc, Nat.one_ne_zero, Bool.not_false, Bool.not_true]
    refine W.br_ok (by kernel_rfl) ?_
    simp only [go_sem, ↓reduceIte, h0, h1, h7, h8, h9, h36, p7, p8, p9, b3, t3, sl1, sl2, Nat.left_eq_add, Nat.add_eq_left, Nat.add_left_cancel_iff, Nat.succ_ne_zero, Nat.add_assoc, Nat.one_ne_zero, Bool.not_false, Bool.not_true]
    refine W.call (becomeB _ (A := s.slots) a to nn (v := s1.next + 1) (N := 8) (by omega) ho.2 (by omega) b3) ?_
    rintro v s4 ⟨rfl, b4, hk4, hv4⟩
    simp only at b4 hk4 hv4
    have n4 : s1.next + 2 ≤ s4.next := Nat.le_trans n3 hk4.1
    have f4 : ∀ j, j < s1.next → s4.obj j = s1.obj j := fun j hj => (hk4.2 j (by omega) (by omega)).trans (f3 j hj)
    have t4 := (hk4.2 s1.next (by omega) (by omega)).trans t3
    have l4 : Lv s1 s4 := l3.trans hv4
    clear hk4 hv4 n3 f3 t3 l3 b3 p7 p8 p9 r1
    have p7 := (f4 _ (by omega)).trans o7
    have p8 := (f4 _ (by omega)).trans o8
    have p9 := (f4 _ (by omega)).trans o9
    have ga : ((s.regs.map (becW a to nn)).map encW)[i.a.toNat]? = some (encW (at0 (s.regs.map (becW a to nn)) i.a)) := get_W ha.1 (by rw [List.length_map, ho.1]; exact ha.2)
    have hset : ((s.regs.map (becW a to nn)).map encW).set i.a.toNat (encW to) = ((s.regs.map (becW a to nn)).set i.a.toNat to).map encW := (List.map_set ..).symm
    simp only [encW] at hset
    generalize at0 (s.regs.map (becW a to nn)) i.a = xx at ga
    have hjm : (j : Int) * (i.imm - 1) = 0 ∨ (j : Int) * (i.imm - 1) = i.imm - 1 := by
      rcases (show j = 0 ∨ j = 1 by omega) with rfl | rfl
      · exact .inl (by simp)
      · exact .inr (by simp)
    have w1 : IntKind.i64.wrap (pc + 1) = pc + 1 := by rw [IntKind.wrap_i64]; omega
    have w2 : IntKind.i64.wrap i.imm = i.imm := by rw [IntKind.wrap_i64]; omega
    have w3 : IntKind.i64.wrap (i.imm - 1) = i.imm - 1 := by rw [IntKind.wrap_i64]; omega
    have w4 : IntKind.i64.wrap ((j : Int) * (i.imm - 1)) = (j : Int) * (i.imm - 1) := by rw [IntKind.wrap_i64]; omega
    have w5 : IntKind.i64.wrap (pc + 1 + (j : Int) * (i.imm - 1)) = pc + 1 + (j : Int) * (i.imm - 1) := by rw [IntKind.wrap_i64]; omega
    obtain ⟨jm, hj0⟩ : ∃ jm, (j : Int) * (i.imm - 1) = jm := ⟨_, rfl⟩
    rw [hj0] at w5 hq hjm
    rw [hj0, ← hj0] at w4
    have w4 := w4.trans hj0
    have hLk := hlL (pc + 1 + jm)
    have hw1 := hW.lt
    have hk4 : Keeps s1 s4 m := ⟨by omega, fun j hj _ => f4 j hj⟩
    have hW4 : WK K bp p L1 s4 w m := hW.same (by omega) f4 l4
    simp only [go_sem, ↓reduceIte, h0, h1, h7, h8, h9, h36, p7, p8, p9, b4, t4, ia, ga, hset, Nat.left_eq_add, Nat.add_eq_left, Nat.add_left_cancel_iff, Nat.succ_ne_zero, Nat.add_assoc, Nat.one_ne_zero, Bool.not_false, Bool.not_true]
    by_cases hdr : nn = true ∧ a.kind = 3
    case neg =>
      obtain ⟨g1, g2, z1, z2, z3, z4, z5, z6, z7, z8⟩ := hr.fq
      have hT : nullT s i.a a to nn = ⟨(s.regs.map (becW a to nn)).set i.a.toNat to, s.slots.map (becW a to nn), s.refs, s.lock, s.sec, s.next⟩ := by unfold nullT; rw [if_neg hdr]
      rw [hT] at hq
      have hcont : ∀ (x : Bool), True := fun _ => trivial
      cases nn
      · simp only [go_sem, ↓reduceIte, h0, h1, h7, h8, h9, h36, p7, p8, p9, q1, q2, q3, q4, q5, q6, w1, w2, w3, w4, w5, frz_W, view_W, z1, z7, Nat.left_eq_add, Nat.add_eq_left, Nat.add_left_cancel_iff, Nat.succ_ne_zero, Nat.add_assoc, Nat.one_ne_zero, Bool.not_false, Bool.not_true]
        refine W.call (leave_c (K := K) (bp := bp) (p := p) (L := L1) (m := m) _ (hW4.put (by omega) (by omega) _) (pc + 1 + jm) (⟨(s.regs.map (becW a to false)).set i.a.toNat to, s.slots.map (becW a to false), s.refs, s.lock, s.sec, s.next⟩) g1 z2 z3 (by omega)) ?_
        rintro v s6 ⟨hW6, hK6⟩
        simp only at hW6 hK6
        have hK7 : Keeps s1 s6 m := Keeps.trans (hk4.other _ (by omega)) hK6
        simp only [go_sem, ↓reduceIte, h36, hwrap, Nat.left_eq_add, Nat.add_eq_left, Nat.add_left_cancel_iff, Nat.succ_ne_zero, Nat.add_assoc, Nat.one_ne_zero, Bool.not_false, Bool.not_true]
        refine hK _ _ ?_
        refine ⟨by (try simp only [go_sem, ↓reduceIte, Int.toNat_natCast, List.length_take, *]) <;> (first | done | rfl | omega | (simp; done) | (simp; omega)), by (try simp only [go_sem, ↓reduceIte, Int.toNat_natCast, List.length_take, *]) <;> (first | done | rfl | omega | (simp; done) | (simp; omega)), by (try simp only [go_sem, ↓reduceIte, Int.toNat_natCast, List.length_take, *]) <;> (first | done | rfl | omega | (simp; done) | (simp; omega)), by (try simp only [go_sem, ↓reduceIte, Int.toNat_natCast, List.length_take, *]) <;> (first | done | rfl | omega | (simp; done) | (simp; omega)), by (try simp only [go_sem, ↓reduceIte, Int.toNat_natCast, List.length_take, *]) <;> (first | done | rfl | omega | (simp; done) | (simp; omega)), by (try simp only [go_sem, ↓reduceIte, Int.toNat_natCast, List.length_take, *]) <;> (first | done | rfl | omega | (simp; done) | (simp; omega)), by (try simp only [go_sem, ↓reduceIte, Int.toNat_natCast, List.length_take, *]) <;> (first | done | rfl | omega | (simp; done) | (simp; omega)), (hK7.2 _ (by omega) (by omega)).trans o7, (hK7.2 _ (by omega) (by omega)).trans o8, (hK7.2 _ (by omega) (by omega)).trans o9, by have := hK7.1; omega, ?_, hKs.trans hK7⟩
        rw [hq]
        exact hW6
      · have a3' := eq_false (fun h => hdr ⟨rfl, h⟩ : ¬ a.kind = 3)
        simp only [go_sem, ↓reduceIte, h0, h1, h7, h8, h9, h36, p7, p8, p9, q1, q2, q3, q4, q5, q6, a3', w1, w2, w3, w4, w5, frz_W, view_W, z1, z7, Nat.left_eq_add, Nat.add_eq_left, Nat.add_left_cancel_iff, Nat.succ_ne_zero, Nat.add_assoc, Nat.one_ne_zero, Bool.not_false, Bool.not_true]
        refine W.call (leave_c (K := K) (bp := bp) (p := p) (L := L1) (m := m) _ (hW4.put (by omega) (by omega) _) (pc + 1 + jm) (⟨(s.regs.map (becW a to true)).set i.a.toNat to, s.slots.map (becW a to true), s.refs, s.lock, s.sec, s.next⟩) g1 z2 z3 (by omega)) ?_
        rintro v s6 ⟨hW6, hK6⟩
        simp only at hW6 hK6
        have hK7 : Keeps s1 s6 m := Keeps.trans (hk4.other _ (by omega)) hK6
        simp only [go_sem, ↓reduceIte, h36, hwrap, Nat.left_eq_add, Nat.add_eq_left, Nat.add_left_cancel_iff, Nat.succ_ne_zero, Nat.add_assoc, Nat.one_ne_zero, Bool.not_false, Bool.not_true]
        refine hK _ _ ?_
        refine ⟨by (try simp only [go_sem, ↓reduceIte, Int.toNat_natCast, List.length_take, *]) <;> (first | done | rfl | omega | (simp; done) | (simp; omega)), by (try simp only [go_sem, ↓reduceIte, Int.toNat_natCast, List.length_take, *]) <;> (first | done | rfl | omega | (simp; done) | (simp; omega)), by (try simp only [go_sem, ↓reduceIte, Int.toNat_natCast, List.length_take, *]) <;> (first | done | rfl | omega | (simp; done) | (simp; omega)), by (try simp only [go_sem, ↓reduceIte, Int.toNat_natCast, List.length_take, *]) <;> (first | done | rfl | omega | (simp; done) | (simp; omega)), by (try simp only [go_sem, ↓reduceIte, Int.toNat_natCast, List.length_take, *]) <;> (first | done | rfl | omega | (simp; done) | (simp; omega)), by (try simp only [go_sem, ↓reduceIte, Int.toNat_natCast, List.length_take, *]) <;> (first | done | rfl | omega | (simp; done) | (simp; omega)), by (try simp only [go_sem, ↓reduceIte, Int.toNat_natCast, List.length_take, *]) <;> (first | done | rfl | omega | (simp; done) | (simp; omega)), (hK7.2 _ (by omega) (by omega)).trans o7, (hK7.2 _ (by omega) (by omega)).trans o8, (hK7.2 _ (by omega) (by omega)).trans o9, by have := hK7.1; omega, ?_, hKs.trans hK7⟩
        rw [hq]
        exact hW6
    obtain ⟨rfl, a3⟩ := hdr
    have a3' := eq_true a3
    simp only [go_sem, ↓reduceIte, h0, h1, h7, h8, h9, h36, p7, p8, p9, q1, q2, q3, q4, q5, q6, a3', w1, w2, w3, w4, w5, Nat.left_eq_add, Nat.add_eq_left, Nat.add_left_cancel_iff, Nat.succ_ne_zero, Nat.add_assoc, Nat.one_ne_zero, Bool.not_false, Bool.not_true]
    have hT : nullT s i.a a to true = ⟨(s.regs.map (becW a to true)).set i.a.toNat to, s.slots.map (becW a to true), no a.id s.refs, s.lock, s.sec, s.next⟩ := by unfold nullT; rw [if_pos ⟨rfl, a3⟩]
    rw [hT] at hq
    have hr0 := hr
    refine W.call (nCloneRow_c _ r s.refs hr (by omega) _) ?_
    rintro v s5 ⟨hv5, hk5, hcp⟩
    simp only at hv5 hk5 hcp
    have n5 : s4.next ≤ s5.next := hk5.1
    have f5 : ∀ j, j < s1.next → s5.obj j = s1.obj j := fun j hj => (hk5.2 j (by show j < s4.next; omega) (by show j ≠ s4.next; omega)).trans ((if_neg (by omega)).trans (f4 j hj))
    have b5 : s5.obj (s1.next + 1) = _ := (hk5.2 (s1.next + 1) (by show s1.next + 1 < s4.next; omega) (by show s1.next + 1 ≠ s4.next; omega)).trans (if_pos rfl)
    have t5 : s5.obj s1.next = _ := (hk5.2 s1.next (by show s1.next < s4.next; omega) (by show s1.next ≠ s4.next; omega)).trans ((if_neg (by omega)).trans t4)
    have l5 : Lv s1 s5 := l4.trans ⟨hv5.nt, hv5.lv⟩
    have p7 := (f5 _ (by omega)).trans o7
    have p8 := (f5 _ (by omega)).trans o8
    have p9 := (f5 _ (by omega)).trans o9
    have hk5 : Keeps s1 s5 m := ⟨by omega, fun j hj _ => f5 j hj⟩
    have hW5 : WK K bp p L1 s5 w m := hW.same (by omega) f5 l5
    rcases hcp with ⟨hx0, hv⟩ | ⟨hx0, rfl, hv2, hv3⟩
    · have hno : no a.id s.refs = [] := by rw [hx0]; rfl
      simp only [go_sem, ↓reduceIte, h0, h1, h7, h8, h9, h36, p7, p8, p9, q1, q2, q3, q4, q5, q6, b5, t5, Nat.left_eq_add, Nat.add_eq_left, Nat.add_left_cancel_iff, Nat.succ_ne_zero, Nat.add_assoc, Nat.one_ne_zero, Bool.not_false, Bool.not_true]
      refine W.call (nDeleteFunc_e _ v hv) ?_
      rintro v2 s6 ⟨rfl, hk6, hv6⟩
      simp only at hk6 hv6
      have n6 : s5.next ≤ s6.next := hk6.1
      have f6 : ∀ j, j < s1.next → s6.obj j = s1.obj j := fun j hj => (hk6.2 j (by omega) (by omega)).trans (f5 j hj)
      have b6 := (hk6.2 (s1.next + 1) (by omega) (by omega)).trans b5
      have t6 := (hk6.2 s1.next (by omega) (by omega)).trans t5
      have l6 : Lv s1 s6 := l5.trans hv6
      have p7 := (f6 _ (by omega)).trans o7
      have p8 := (f6 _ (by omega)).trans o8
      have p9 := (f6 _ (by omega)).trans o9
      have hk6 : Keeps s1 s6 m := ⟨by omega, fun j hj _ => f6 j hj⟩
      have hW6 : WK K bp p L1 s6 w m := hW.same (by omega) f6 l6
      rcases hv with rfl | ⟨tok, rfl⟩
      · simp only [go_sem, ↓reduceIte, h0, h1, h7, h8, h9, h36, p7, p8, p9, q1, q2, q3, q4, q5, q6, b6, t6, w1, w2, w3, w4, w5, frz_W, view_W, Nat.left_eq_add, Nat.add_eq_left, Nat.add_left_cancel_iff, Nat.succ_ne_zero, Nat.add_assoc, Nat.one_ne_zero, Bool.not_false, Bool.not_true]
        refine W.call (leave_c (K := K) (bp := bp) (p := p) (L := L1) (m := m) _ (hW6.put (by omega) (by omega) _) (pc + 1 + jm) (⟨(s.regs.map (becW a to true)).set i.a.toNat to, s.slots.map (becW a to true), no a.id s.refs, s.lock, s.sec, s.next⟩) (.mt true) (.inl ⟨hno, true, rfl⟩) rfl (by omega)) ?_
        rintro v s9 ⟨hW9, hK9⟩
        simp only at hW9 hK9
        have hK7 : Keeps s1 s9 m := Keeps.trans (hk6.other _ (by omega)) hK9
        simp only [go_sem, ↓reduceIte, h36, hwrap, Nat.left_eq_add, Nat.add_eq_left, Nat.add_left_cancel_iff, Nat.succ_ne_zero, Nat.add_assoc, Nat.one_ne_zero, Bool.not_false, Bool.not_true]
        refine hK _ _ ?_
        refine ⟨by (try simp only [go_sem, ↓reduceIte, Int.toNat_natCast, List.length_take, *]) <;> (first | done | rfl | omega | (simp; done) | (simp; omega)), by (try simp only [go_sem, ↓reduceIte, Int.toNat_natCast, List.length_take, *]) <;> (first | done | rfl | omega | (simp; done) | (simp; omega)), by (try simp only [go_sem, ↓reduceIte, Int.toNat_natCast, List.length_take, *]) <;> (first | done | rfl | omega | (simp; done) | (simp; omega)), by (try simp only [go_sem, ↓reduceIte, Int.toNat_natCast, List.length_take, *]) <;> (first | done | rfl | omega | (simp; done) | (simp; omega)), by (try simp only [go_sem, ↓reduceIte, Int.toNat_natCast, List.length_take, *]) <;> (first | done | rfl | omega | (simp; done) | (simp; omega)), by (try simp only [go_sem, ↓reduceIte, Int.toNat_natCast, List.length_take, *]) <;> (first | done | rfl | omega | (simp; done) | (simp; omega)), by (try simp only [go_sem, ↓reduceIte, Int.toNat_natCast, List.length_take, *]) <;> (first | done | rfl | omega | (simp; done) | (simp; omega)), (hK7.2 _ (by omega) (by omega)).trans o7, (hK7.2 _ (by omega) (by omega)).trans o8, (hK7.2 _ (by omega) (by omega)).trans o9, by have := hK7.1; omega, ?_, hKs.trans hK7⟩
        rw [hq]
        exact hW9
      · simp only [go_sem, ↓reduceIte, h0, h1, h7, h8, h9, h36, p7, p8, p9, q1, q2, q3, q4, q5, q6, b6, t6, w1, w2, w3, w4, w5, frz_W, view_W, Nat.left_eq_add, Nat.add_eq_left, Nat.add_left_cancel_iff, Nat.succ_ne_zero, Nat.add_assoc, Nat.one_ne_zero, Bool.not_false, Bool.not_true]
        refine W.call (leave_c (K := K) (bp := bp) (p := p) (L := L1) (m := m) _ (hW6.put (by omega) (by omega) _) (pc + 1 + jm) (⟨(s.regs.map (becW a to true)).set i.a.toNat to, s.slots.map (becW a to true), no a.id s.refs, s.lock, s.sec, s.next⟩) (.list 3 false [] (if fullT tok then tok else none)) (.inr ⟨false, _, by rw [hno]; rfl, by simp⟩) (by simp only [pure1]; split <;> first | assumption | rfl) (by omega)) ?_
        rintro v s9 ⟨hW9, hK9⟩
        simp only at hW9 hK9
        have hK7 : Keeps s1 s9 m := Keeps.trans (hk6.other _ (by omega)) hK9
        simp only [go_sem, ↓reduceIte, h36, hwrap, Nat.left_eq_add, Nat.add_eq_left, Nat.add_left_cancel_iff, Nat.succ_ne_zero, Nat.add_assoc, Nat.one_ne_zero, Bool.not_false, Bool.not_true]
        refine hK _ _ ?_
        refine ⟨by (try simp only [go_sem, ↓reduceIte, Int.toNat_natCast, List.length_take, *]) <;> (first | done | rfl | omega | (simp; done) | (simp; omega)), by (try simp only [go_sem, ↓reduceIte, Int.toNat_natCast, List.length_take, *]) <;> (first | done | rfl | omega | (simp; done) | (simp; omega)), by (try simp only [go_sem, ↓reduceIte, Int.toNat_natCast, List.length_take, *]) <;> (first | done | rfl | omega | (simp; done) | (simp; omega)), by (try simp only [go_sem, ↓reduceIte, Int.toNat_natCast, List.length_take, *]) <;> (first | done | rfl | omega | (simp; done) | (simp; omega)), by (try simp only [go_sem, ↓reduceIte, Int.toNat_natCast, List.length_take, *]) <;> (first | done | rfl | omega | (simp; done) | (simp; omega)), by (try simp only [go_sem, ↓reduceIte, Int.toNat_natCast, List.length_take, *]) <;> (first | done | rfl | omega | (simp; done) | (simp; omega)), by (try simp only [go_sem, ↓reduceIte, Int.toNat_natCast, List.length_take, *]) <;> (first | done | rfl | omega | (simp; done) | (simp; omega)), (hK7.2 _ (by omega) (by omega)).trans o7, (hK7.2 _ (by omega) (by omega)).trans o8, (hK7.2 _ (by omega) (by omega)).trans o9, by have := hK7.1; omega, ?_, hKs.trans hK7⟩
        rw [hq]
        exact hW9
    · have hcp1 : s4.next < s5.next := hv2
      have hv3' : s5.obj s4.next = some (.cells 3 (intsA s.refs)) := hv3
      simp only [go_sem, ↓reduceIte, h0, h1, h7, h8, h9, h36, p7, p8, p9, q1, q2, q3, q4, q5, q6, b5, t5, Nat.left_eq_add, Nat.add_eq_left, Nat.add_left_cancel_iff, Nat.succ_ne_zero, Nat.add_assoc, Nat.one_ne_zero, Bool.not_false, Bool.not_true]
      refine W.call (nDeleteFunc_c _ (v := s4.next) (iw := σ.next + 2) (w := a) hv2 (by omega) (by omega) hx0 (by omega) hv3' p9) ?_
      rintro v2 s6 ⟨hk6, hv6, ys, rfl, hy1, hy2, hy3⟩
      simp only at hk6 hv6 hy1
      have n6 : s5.next ≤ s6.next := hk6.1
      have f6 : ∀ j, j < s1.next → s6.obj j = s1.obj j := fun j hj => (hk6.2 j (by omega) (by omega)).trans (f5 j hj)
      have b6 := (hk6.2 (s1.next + 1) (by omega) (by omega)).trans b5
      have t6 := (hk6.2 s1.next (by omega) (by omega)).trans t5
      have l6 : Lv s1 s6 := l5.trans hv6
      have p7 := (f6 _ (by omega)).trans o7
      have p8 := (f6 _ (by omega)).trans o8
      have p9 := (f6 _ (by omega)).trans o9
      have hk6 : Keeps s1 s6 m := ⟨by omega, fun j hj _ => f6 j hj⟩
      have hW6 : WK K bp p L1 s6 w m := hW.same (by omega) f6 l6
      have hfv : ∀ o, @sliceOf ⟨s6.set (s1.next + 1) o⟩ (.view 3 s4.next [] 0 (no a.id s.refs).length) = some (intsA (no a.id s.refs)) := by
        intro o
        have hov : (s6.set (s1.next + 1) o).obj s4.next = some (.cells 3 (intsA ys)) := (if_neg (by omega)).trans hy1
        have hle : (no a.id s.refs).length ≤ ys.length := by
          have := congrArg List.length hy3
          rw [List.length_take] at this
          omega
        have e1 : ((intsA ys).drop 0).take (no a.id s.refs).length = intsA (no a.id s.refs) := by
          rw [List.drop_zero]
          unfold intsA
          rw [← List.map_take, hy3]
        simp only [sliceOf, hov]
        have hil2 : (intsA ys).length = ys.length := List.length_map _
        rw [if_pos (by rw [hil2]; omega), e1]
      simp only [go_sem, ↓reduceIte, h0, h1, h7, h8, h9, h36, p7, p8, p9, q1, q2, q3, q4, q5, q6, b6, t6, w1, w2, w3, w4, w5, frz_W, view_W, hfv, pure_ints, Nat.left_eq_add, Nat.add_eq_left, Nat.add_left_cancel_iff, Nat.succ_ne_zero, Nat.add_assoc, Nat.one_ne_zero, Bool.not_false, Bool.not_true]
      refine W.br_ok (by kernel_rfl) ?_
      simp only [go_sem, ↓reduceIte, h0, h1, h7, h8, h9, h36, p7, p8, p9, q1, q2, q3, q4, q5, q6, b6, t6, w1, w2, w3, w4, w5, frz_W, view_W, hfv, pure_ints, Nat.left_eq_add, Nat.add_eq_left, Nat.add_left_cancel_iff, Nat.succ_ne_zero, Nat.add_assoc, Nat.one_ne_zero, Bool.not_false, Bool.not_true]
      refine W.call (leave_c (K := K) (bp := bp) (p := p) (L := L1) (m := m) _ ((hW6.put (by omega) (by omega) _).kill (by omega) (by omega)) (pc + 1 + jm) (⟨(s.regs.map (becW a to true)).set i.a.toNat to, s.slots.map (becW a to true), no a.id s.refs, s.lock, s.sec, s.next⟩) (.list 3 false (intsA (no a.id s.refs)) none) (.inr ⟨false, none, rfl, by simp⟩) rfl (by omega)) ?_
      rintro v s9 ⟨hW9, hK9⟩
      simp only at hW9 hK9
      have hK7 : Keeps s1 s9 m := Keeps.trans ((hk6.other _ (by omega)).kill (by omega)) hK9
      simp only [go_sem, ↓reduceIte, h36, hwrap, Nat.left_eq_add, Nat.add_eq_left, Nat.add_left_cancel_iff, Nat.succ_ne_zero, Nat.add_assoc, Nat.one_ne_zero, Bool.not_false, Bool.not_true]
      refine hK _ _ ?_
      refine ⟨by (try simp only [go_sem, ↓reduceIte, Int.toNat_natCast, List.length_take, *]) <;> (first | done | rfl | omega | (simp; done) | (simp; omega)), by (try simp only [go_sem, ↓reduceIte, Int.toNat_natCast, List.length_take, *]) <;> (first | done | rfl | omega | (simp; done) | (simp; omega)), by (try simp only [go_sem, ↓reduceIte, Int.toNat_natCast, List.length_take, *]) <;> (first | done | rfl | omega | (simp; done) | (simp; omega)), by (try simp only [go_sem, ↓reduceIte, Int.toNat_natCast, List.length_take, *]) <;> (first | done | rfl | omega | (simp; done) | (simp; omega)), by (try simp only [go_sem, ↓reduceIte, Int.toNat_natCast, List.length_take, *]) <;> (first | done | rfl | omega | (simp; done) | (simp; omega)), by (try simp only [go_sem, ↓reduceIte, Int.toNat_natCast, List.length_take, *]) <;> (first | done | rfl | omega | (simp; done) | (simp; omega)), by (try simp only [go_sem, ↓reduceIte, Int.toNat_natCast, List.length_take, *]) <;> (first | done | rfl | omega | (simp; done) | (simp; omega)), (hK7.2 _ (by omega) (by omega)).trans o7, (hK7.2 _ (by omega) (by omega)).trans o8, (hK7.2 _ (by omega) (by omega)).trans o9, by have := hK7.1; omega, ?_, hKs.trans hK7⟩
      rw [hq]
      exact hW9
  · rintro ρ s' ⟨h0, h1, h7, h8, h9, h35, h36, o7, o8, o9, hnx, hW, hKs⟩ K' hx hr'
    have hlt := eq_false (show ¬ ((2 : Nat) : Int) < 2 by omega)
    simp only [go_sem, ↓reduceIte, hx, h0, h1, h7, h8, h9, h36, hlt]
    exact wp_some ⟨WK.trim hW hw hm, Keeps.trim hKs, rfl⟩
  · show 2 < 0 + 9223372036854775900
    omega
  · exact ⟨by (try simp only [go_sem, ↓reduceIte, Int.toNat_natCast, List.length_take, *]) <;> (first | done | rfl | omega | (simp; done) | (simp; omega)), by (try simp only [go_sem, ↓reduceIte, Int.toNat_natCast, List.length_take, *]) <;> (first | done | rfl | omega | (simp; done) | (simp; omega)), by (try simp only [go_sem, ↓reduceIte, Int.toNat_natCast, List.length_take, *]) <;> (first | done | rfl | omega | (simp; done) | (simp; omega)), by (try simp only [go_sem, ↓reduceIte, Int.toNat_natCast, List.length_take, *]) <;> (first | done | rfl | omega | (simp; done) | (simp; omega)), by (try simp only [go_sem, ↓reduceIte, Int.toNat_natCast, List.length_take, *]) <;> (first | done | rfl | omega | (simp; done) | (simp; omega)), by (try simp only [go_sem, ↓reduceIte, Int.toNat_natCast, List.length_take, *]) <;> (first | done | rfl | omega | (simp; done) | (simp; omega)), by (try simp only [go_sem, ↓reduceIte, Int.toNat_natCast, List.length_take, *]) <;> (first | done | rfl | omega | (simp; done) | (simp; omega)), o7, o8, o9, hnx, hW, hKs⟩
theorem null_c (d : Nat) {K : Kx} {bp : Bool} {p : List Ins} {L : Int → List Sta} {σ : St} {w m : Nat} (hW : WK K bp p L σ w m) (pc : Int) (hpc : 0 ≤ pc ∧ pc < 1000) (s : Sta) (r : AV) (hr : RefA r s.refs) (ho : SOk s) (hrl : s.refs.length ≤ 100000) (i : Ins) (a : Wht)
    (ha : 0 ≤ i.a ∧ i.a < 10) (hi : 0 ≤ i.imm ∧ i.imm < 4294967296) (hl : ∀ k, (L k).length ≤ 10000) :
    Sat (StepP K bp p L w m σ (nullS pc s i a)) (evalF Try.prog CC (d + 6) 54 [.ptr 65 w [0], .int .i64 pc, encS s r, encI i, encW a] σ) := by
  obtain ⟨hw, hm, hwm⟩ := hW.lt
  have ia := fun k id q => ix_regI (k := k) id q ha.1 ha.2
  refine Sat.go ?_
  rw [run_54 _ _ _ (by simp), cut 2]
  generalize ht : tl 2 (Try.f54.body.getD .skip) = t
  unfold Try.f54
  simp only [Option.getD_some, spl]
  simp only [go_sem, ↓reduceIte, Nat.left_eq_add, Nat.add_eq_left, Nat.add_left_cancel_iff, Nat.succ_ne_zero, Nat.add_assoc, Nat.one_ne_zero, Bool.not_false, Bool.not_true]
  unfold nullS
  by_cases a0 : a.kind = 0
  · have a0' := eq_true a0
    rw [if_pos a0]
    simp only [go_sem, ↓reduceIte, a0', Nat.left_eq_add, Nat.add_eq_left, Nat.add_left_cancel_iff, Nat.succ_ne_zero, Nat.add_assoc, Nat.one_ne_zero, Bool.not_false, Bool.not_true]
    exact wp_some ⟨WK.trim (by (repeat' first | exact hW | refine WK.box ?_ _ | refine WK.put ?_ (by omega) (by omega) _ | refine WK.tok ?_)) hw hm, Keeps.trim (by (repeat' first | exact Keeps.refl _ _ | refine Keeps.new ?_ _ | refine Keeps.other ?_ _ (by omega) | refine Keeps.tok ?_ _)), rfl⟩
  have a0' := eq_false a0
  rw [if_neg a0]
  simp only [go_sem, ↓reduceIte, a0', Nat.left_eq_add, Nat.add_eq_left, Nat.add_left_cancel_iff, Nat.succ_ne_zero, Nat.add_assoc, Nat.one_ne_zero, Bool.not_false, Bool.not_true]
  by_cases c1 : i.c = 1 ∨ i.c = 2
  case neg =>
    have c1' := eq_false (fun h => c1 (.inl h) : ¬ i.c = 1)
    have c2' := eq_false (fun h => c1 (.inr h) : ¬ i.c = 2)
    have hcc : i.c ≠ 1 ∧ i.c ≠ 2 := ⟨fun h => c1 (.inl h), fun h => c1 (.inr h)⟩
    rw [if_pos hcc]
    simp only [go_sem, ↓reduceIte, a0', c1', c2', Nat.left_eq_add, Nat.add_eq_left, Nat.add_left_cancel_iff, Nat.succ_ne_zero, Nat.add_assoc, Nat.one_ne_zero, Bool.not_false, Bool.not_true]
    exact wp_some ⟨WK.trim (by (repeat' first | exact hW | refine WK.box ?_ _ | refine WK.put ?_ (by omega) (by omega) _ | refine WK.tok ?_)) hw hm, Keeps.trim (by (repeat' first | exact Keeps.refl _ _ | refine Keeps.new ?_ _ | refine Keeps.other ?_ _ (by omega) | refine Keeps.tok ?_ _)), rfl⟩
  rw [if_neg (by rintro ⟨h1, h2⟩; exact c1.elim h1 h2)]
  have hfin : ∀ ρ, ρ 0 = .ptr 65 w [0] → ρ 1 = .int .i64 pc → ρ 7 = .ptr 43 σ.next [0] → ρ 8 = .ptr 28 (σ.next + 1) [0] → ρ 9 = .ptr 38 (σ.next + 2) [0] → Wp (Sat (StepP K bp p L w m σ (nullPre pc s i a 2, 0))) (evalCode CC (evalF Try.prog CC (d + 5)) 54 t ρ (((σ.new (.cells 43 [encS s r])).new (.cells 28 [encI i])).new (.cells 38 [encW a])) (retK CC 54 Try.f54 σ)) := by
    intro ρ h0 h1 h7 h8 h9
    subst ht
    refine null_tail d (by (repeat' first | exact hW | refine WK.box ?_ _ | refine WK.put ?_ (by omega) (by omega) _ | refine WK.tok ?_)) (by (repeat' first | exact Keeps.refl _ _ | refine Keeps.new ?_ _ | refine Keeps.other ?_ _ (by omega) | refine Keeps.tok ?_ _)) hw hm hwm pc hpc s r hr ho hrl i a ha hi hl ρ h0 h1 h7 h8 h9 ?_ ?_ ?_ (Nat.le_refl _)
    · show (if σ.next = σ.next + 1 + 1 then _ else if σ.next = σ.next + 1 then _ else if σ.next = σ.next then _ else _) = _
      rw [if_neg (by omega), if_neg (by omega), if_pos rfl]
    · show (if σ.next + 1 = σ.next + 1 + 1 then _ else if σ.next + 1 = σ.next + 1 then _ else _) = _
      rw [if_neg (by omega), if_pos rfl]
    · show (if σ.next + 2 = σ.next + 1 + 1 then _ else _) = _
      rw [if_pos rfl]
  simp only [encS, encI, encW] at hfin
  by_cases e1 : i.c = 1
  · have e1' := eq_true e1
    by_cases b0 : i.b = 0
    · have b0' := eq_true b0
      rw [if_neg (fun h => h b0)]
      simp only [go_sem, ↓reduceIte, a0', e1', b0', Nat.left_eq_add, Nat.add_eq_left, Nat.add_left_cancel_iff, Nat.succ_ne_zero, Nat.add_assoc, Nat.one_ne_zero, Bool.not_false, Bool.not_true]
      refine hfin _ ?_ ?_ ?_ ?_ ?_ <;> simp only [go_sem, ↓reduceIte, *]
    · have b0' := eq_false b0
      rw [if_pos b0]
      simp only [go_sem, ↓reduceIte, a0', e1', b0', Nat.left_eq_add, Nat.add_eq_left, Nat.add_left_cancel_iff, Nat.succ_ne_zero, Nat.add_assoc, Nat.one_ne_zero, Bool.not_false, Bool.not_true]
      exact wp_some ⟨WK.trim (by (repeat' first | exact hW | refine WK.box ?_ _ | refine WK.put ?_ (by omega) (by omega) _ | refine WK.tok ?_)) hw hm, Keeps.trim (by (repeat' first | exact Keeps.refl _ _ | refine Keeps.new ?_ _ | refine Keeps.other ?_ _ (by omega) | refine Keeps.tok ?_ _)), rfl⟩
  · have e1' := eq_false e1
    have e2' := eq_true (c1.resolve_left e1)
    by_cases b0 : i.b = 0
    · have b0' := eq_true b0
      rw [if_neg (fun h => h b0)]
      simp only [go_sem, ↓reduceIte, a0', e1', e2', b0', Nat.left_eq_add, Nat.add_eq_left, Nat.add_left_cancel_iff, Nat.succ_ne_zero, Nat.add_assoc, Nat.one_ne_zero, Bool.not_false, Bool.not_true]
      refine hfin _ ?_ ?_ ?_ ?_ ?_ <;> simp only [go_sem, ↓reduceIte, *]
    · have b0' := eq_false b0
      rw [if_pos b0]
      simp only [go_sem, ↓reduceIte, a0', e1', e2', b0', Nat.left_eq_add, Nat.add_eq_left, Nat.add_left_cancel_iff, Nat.succ_ne_zero, Nat.add_assoc, Nat.one_ne_zero, Bool.not_false, Bool.not_true]
      exact wp_some ⟨WK.trim (by (repeat' first | exact hW | refine WK.box ?_ _ | refine WK.put ?_ (by omega) (by omega) _ | refine WK.tok ?_)) hw hm, Keeps.trim (by (repeat' first | exact Keeps.refl _ _ | refine Keeps.new ?_ _ | refine Keeps.other ?_ _ (by omega) | refine Keeps.tok ?_ _)), rfl⟩
end Go.Proofs.Yticlihmbikcohaa.Va

/- chapter 19: steps that ask nothing of numbers -/
namespace Go.Proofs.Yticlihmbikcohaa.Va
open Go
set_option linter.unusedVariables false
set_option linter.unusedSimpArgs false
set_option maxRecDepth 100000
set_option maxHeartbeats 4000000
structure InsOk (i : Ins) : Prop where
  a : 0 ≤ i.a ∧ i.a < 10
  b : 0 ≤ i.b ∧ i.b < 256
  c : 0 ≤ i.c ∧ i.c < 256
  imm : 0 ≤ i.imm ∧ i.imm < 4294967296
  slot : i.op = 8 ∨ i.op = 9 → i.c < 8
  reg : i.op = 6 → i.b < 10
  idx : i.op = 11 ∨ i.op = 13 → i.imm < 10
instance : Inhabited Ins := ⟨⟨0, 0, 0, 0, 0⟩⟩
theorem jump_null (d : Nat) {K : Kx} {bp : Bool} {p : List Ins} {L : Int → List Sta} {σ : St} {w m : Nat} (hW : WK K bp p L σ w m) (pc : Int) (hpc : 0 ≤ pc ∧ pc < 1000) (s : Sta) (r : AV) (hr : RefA r s.refs) (ho : SOk s) (hrl : s.refs.length ≤ 100000) (i : Ins) (a b : Wht)
    (hi : InsOk i) (hl : ∀ k, (L k).length ≤ 10000) (h7 : i.op = 7) (hk : a.kind ≠ 1) :
    Sat (StepP K bp p L w m σ (nullS pc s i a)) (evalF Try.prog CC (d + 7) 41 [.ptr 65 w [0], .int .i64 pc, encS s r, encI i, encW a, encW b] σ) := by
  obtain ⟨hw, hm, hwm⟩ := hW.lt
  have h7' := eq_true h7
  have hk' := eq_false hk
  refine Sat.go ?_
  rw [run_41 _ _ _ (by simp)]; unfold Try.f41; simp only [Option.getD_some]
  simp only [go_sem, ↓reduceIte, h7', hk', Nat.left_eq_add, Nat.add_eq_left, Nat.add_left_cancel_iff, Nat.succ_ne_zero, Nat.add_assoc, Nat.one_ne_zero, Bool.not_false, Bool.not_true]
  refine W.call (null_c _ (K := K) (bp := bp) (p := p) (L := L) (m := m) (by (repeat' first | exact hW | refine WK.box ?_ _ | refine WK.put ?_ (by omega) (by omega) _ | refine WK.tok ?_)) pc hpc s r hr ho hrl i a hi.a hi.imm hl) ?_
  rintro v τ ⟨hWt, hKt, hv⟩
  simp only at hWt hKt hv
  subst hv
  simp only [go_sem, ↓reduceIte, *]
  exact wp_some ⟨WK.trim hWt hw hm, Keeps.trim (Keeps.trans (by (repeat' first | exact Keeps.refl _ _ | refine Keeps.new ?_ _ | refine Keeps.other ?_ _ (by omega) | refine Keeps.tok ?_ _)) hKt), rfl⟩
def stepN (K : Kx) (pc : Int) (i : Ins) (s : Sta) : List (Int × Sta) × Int :=
  if i.op = 1 ∨ i.op = 8 ∨ i.op = 9 then moveS pc s i (at0 s.regs i.a) (at0 s.regs (min i.b 9))
  else if i.op = 2 then ([(pc + 1, setRg s i.a (numW i.imm i.imm))], 0)
  else if i.op = 7 then nullS pc s i (at0 s.regs i.a)
  else if i.op = 14 then (if (callS K s i.c i.imm).2 = 0 then ([(pc + 1, (callS K s i.c i.imm).1)], 0) else ([], (callS K s i.c i.imm).2))
  else ([], exitS s)
theorem step_n (d : Nat) {K : Kx} {bp : Bool} {p : List Ins} {L : Int → List Sta} {σ : St} {w m : Nat} (hW : WK K bp p L σ w m) (pc : Int) (hpc : 0 ≤ pc ∧ pc < 1000) (hpl : pc < p.length) (s : Sta) (r : AV) (hr : RefA r s.refs) (ho : SOk s) (hrl : s.refs.length ≤ 100000)
    (hi : InsOk (at0 p pc)) (hl : ∀ k, (L k).length ≤ 10000) (hop : (at0 p pc).op = 1 ∨ (at0 p pc).op = 2 ∨ (at0 p pc).op = 7 ∧ (at0 s.regs (at0 p pc).a).kind ≠ 1 ∨ (at0 p pc).op = 14 ∨ (at0 p pc).op = 15) :
    Sat (StepP K bp p L w m σ (stepN K pc (at0 p pc) s)) (evalF Try.prog CC (d + 12) 26 [.ptr 65 w [0], .int .i64 pc, encS s r] σ) := by
  obtain ⟨hw, hm, hwm⟩ := hW.lt
  have ow := hW.ow
  simp only [encP] at ow
  have n0 := eq_false (show ¬ w = σ.next by omega)
  refine Sat.go ?_
  rw [run_26 _ _ _ (by simp)]; unfold Try.f26; simp only [Option.getD_some]
  simp only [go_sem, ↓reduceIte, ow, n0, Nat.left_eq_add, Nat.add_eq_left, Nat.add_left_cancel_iff, Nat.succ_ne_zero, Nat.add_assoc, Nat.one_ne_zero, Bool.not_false, Bool.not_true]
  refine W.idx_at (by omega) (by omega) ?_
  generalize at0 p pc = i at hi hop ⊢
  have ia := fun k id q => ix_regI (k := k) id q hi.a.1 hi.a.2
  have hb9 : 0 ≤ min i.b 9 ∧ min i.b 9 < 10 := ⟨by have := hi.b; omega, by omega⟩
  have ib := fun k id q => ix_regI (k := k) id q hb9.1 hb9.2
  have ga := get_W hi.a.1 (l := s.regs) (by rw [ho.1]; exact hi.a.2)
  have gb := get_W hb9.1 (l := s.regs) (by rw [ho.1]; exact hb9.2)
  have ie : encI i = .agg 28 [.int .u8 i.op, .int .u8 i.a, .int .u8 i.b, .int .u8 i.c, .int .u32 i.imm] := rfl
  have wb : IntKind.i64.wrap i.b = i.b := by rw [IntKind.wrap_i64]; have := hi.b; omega
  unfold stepN
  generalize at0 s.regs i.a = a at hop ga ⊢
  generalize at0 s.regs (min i.b 9) = b at gb ⊢
  simp only [encW] at ga gb
  simp only [go_sem, ↓reduceIte, ow, n0, ie, ia, ib, ga, gb, Nat.left_eq_add, Nat.add_eq_left, Nat.add_left_cancel_iff, Nat.succ_ne_zero, Nat.add_assoc, Nat.one_ne_zero, Bool.not_false, Bool.not_true]
  refine W.br_no (by kernel_rfl) (W.br_no (by kernel_rfl) (W.br_ok (by kernel_rfl) ?_))
  simp only [go_sem, ↓reduceIte, ow, n0, ie, ia, ib, ga, gb, wb, Nat.left_eq_add, Nat.add_eq_left, Nat.add_left_cancel_iff, Nat.succ_ne_zero, Nat.add_assoc, Nat.one_ne_zero, Bool.not_false, Bool.not_true]
  obtain ⟨f1, g1, z1, z2, z3, z4, z5, z6, z7, z8⟩ := hr.fq
  have hwrap : IntKind.i64.wrap (pc + 1) = pc + 1 := by rw [IntKind.wrap_i64]; omega
  have hlk := hl (pc + 1)
  rcases hop with o | o | ⟨o, hk⟩ | o | o
  · have o' := eq_true o
    rw [if_pos (.inl o)]
    simp only [go_sem, ↓reduceIte, o', Nat.left_eq_add, Nat.add_eq_left, Nat.add_left_cancel_iff, Nat.succ_ne_zero, Nat.add_assoc, Nat.one_ne_zero, Bool.not_false, Bool.not_true]
    refine W.call (move_c _ (K := K) (bp := bp) (p := p) (L := L) (m := m) (by (repeat' first | exact hW | refine WK.box ?_ _ | refine WK.put ?_ (by omega) (by omega) _ | refine WK.tok ?_)) pc hpc s r hr ho i a b hi.a (fun h => absurd o h) hl) ?_
    rintro v τ ⟨hWt, hKt, hv⟩
    simp only at hWt hKt hv
    subst hv
    simp only [go_sem, ↓reduceIte, *]
    exact wp_some ⟨WK.trim hWt hw hm, Keeps.trim (Keeps.trans (by (repeat' first | exact Keeps.refl _ _ | refine Keeps.new ?_ _ | refine Keeps.other ?_ _ (by omega) | refine Keeps.tok ?_ _)) hKt), rfl⟩
  · have c1 := eq_false (show ¬ i.op = 1 by omega)
    have c2 := eq_false (show ¬ i.op = 8 by omega)
    have c3 := eq_false (show ¬ i.op = 9 by omega)
    have o' := eq_true o
    have hcc : ¬ (i.op = 1 ∨ i.op = 8 ∨ i.op = 9) := by omega
    rw [if_neg hcc, if_pos o]
    have q1 := fun d n => of_c d n
    have q2 := fun d lo hi => number_c d lo hi
    have hset : (s.regs.map encW).set i.a.toNat (encW (numW i.imm i.imm)) = (setRg s i.a (numW i.imm i.imm)).regs.map encW := (List.map_set ..).symm
    have wi : IntKind.u64.wrap i.imm = i.imm := by rw [IntKind.wrap_u64]; have := hi.imm; omega
    simp only [encW, numW] at q2 hset
    simp only [go_sem, ↓reduceIte, c1, c2, c3, o', Nat.left_eq_add, Nat.add_eq_left, Nat.add_left_cancel_iff, Nat.succ_ne_zero, Nat.add_assoc, Nat.one_ne_zero, Bool.not_false, Bool.not_true]
    refine W.br_ok (by kernel_rfl) ?_
    simp only [go_sem, ↓reduceIte, ia, ga, q1, q2, wi, hset, hwrap, frz_W, view_W, z1, z7, Nat.left_eq_add, Nat.add_eq_left, Nat.add_left_cancel_iff, Nat.succ_ne_zero, Nat.add_assoc, Nat.one_ne_zero, Bool.not_false, Bool.not_true]
    refine W.call (leave_c (K := K) (bp := bp) (p := p) (L := L) (m := m) _ (by (repeat' first | exact hW | refine WK.box ?_ _ | refine WK.put ?_ (by omega) (by omega) _ | refine WK.tok ?_)) (pc + 1) (setRg s i.a (numW i.imm i.imm)) f1 z2 z3 (by omega)) ?_
    rintro v τ ⟨hWt, hKt⟩
    simp only [go_sem, ↓reduceIte, *]
    exact wp_some ⟨WK.trim hWt hw hm, Keeps.trim (Keeps.trans (by (repeat' first | exact Keeps.refl _ _ | refine Keeps.new ?_ _ | refine Keeps.other ?_ _ (by omega) | refine Keeps.tok ?_ _)) hKt), rfl⟩
  · have c1 := eq_false (show ¬ i.op = 1 by omega)
    have c2 := eq_false (show ¬ i.op = 8 by omega)
    have c3 := eq_false (show ¬ i.op = 9 by omega)
    have c4 := eq_false (show ¬ i.op = 2 by omega)
    have c5 := eq_false (show ¬ i.op = 3 by omega)
    have c6 := eq_false (show ¬ i.op = 4 by omega)
    have c7 := eq_false (show ¬ i.op = 5 by omega)
    have c8 := eq_false (show ¬ i.op = 6 by omega)
    have o' := eq_true o
    have hcc : ¬ (i.op = 1 ∨ i.op = 8 ∨ i.op = 9) := by omega
    rw [if_neg hcc, if_neg (by omega), if_pos o]
    simp only [go_sem, ↓reduceIte, c1, c2, c3, c4, c5, c6, c7, c8, o', Nat.left_eq_add, Nat.add_eq_left, Nat.add_left_cancel_iff, Nat.succ_ne_zero, Nat.add_assoc, Nat.one_ne_zero, Bool.not_false, Bool.not_true]
    refine W.call (jump_null _ (K := K) (bp := bp) (p := p) (L := L) (m := m) (by (repeat' first | exact hW | refine WK.box ?_ _ | refine WK.put ?_ (by omega) (by omega) _ | refine WK.tok ?_)) pc hpc s r hr ho hrl i a b hi hl o hk) ?_
    rintro v τ ⟨hWt, hKt, hv⟩
    simp only at hWt hKt hv
    subst hv
    simp only [go_sem, ↓reduceIte, *]
    exact wp_some ⟨WK.trim hWt hw hm, Keeps.trim (Keeps.trans (by (repeat' first | exact Keeps.refl _ _ | refine Keeps.new ?_ _ | refine Keeps.other ?_ _ (by omega) | refine Keeps.tok ?_ _)) hKt), rfl⟩
  · have c1 := eq_false (show ¬ i.op = 1 by omega)
    have c2 := eq_false (show ¬ i.op = 8 by omega)
    have c3 := eq_false (show ¬ i.op = 9 by omega)
    have c4 := eq_false (show ¬ i.op = 2 by omega)
    have c5 := eq_false (show ¬ i.op = 3 by omega)
    have c6 := eq_false (show ¬ i.op = 4 by omega)
    have c7 := eq_false (show ¬ i.op = 5 by omega)
    have c8 := eq_false (show ¬ i.op = 6 by omega)
    have c9 := eq_false (show ¬ i.op = 7 by omega)
    have ca := eq_false (show ¬ i.op = 10 by omega)
    have cb := eq_false (show ¬ i.op = 11 by omega)
    have cc := eq_false (show ¬ i.op = 12 by omega)
    have cd := eq_false (show ¬ i.op = 13 by omega)
    have o' := eq_true o
    have hcc : ¬ (i.op = 1 ∨ i.op = 8 ∨ i.op = 9) := by omega
    rw [if_neg hcc, if_neg (by omega), if_neg (by omega), if_pos o]
    simp only [go_sem, ↓reduceIte, c1, c2, c3, c4, c5, c6, c7, c8, c9, ca, cb, cc, cd, o', Nat.left_eq_add, Nat.add_eq_left, Nat.add_left_cancel_iff, Nat.succ_ne_zero, Nat.add_assoc, Nat.one_ne_zero, Bool.not_false, Bool.not_true]
    refine W.br_ok (by kernel_rfl) ?_
    have hn5 := eq_false (show ¬ w = σ.next by omega)
    have hn6 := eq_false (show ¬ w = σ.next + 1 by omega)
    have hn7 := eq_false (show ¬ w = σ.next + 2 by omega)
    have hn8 := eq_false (show ¬ w = σ.next + 3 by omega)
    obtain ⟨r', hc1, hc2, hc3⟩ := Call_c (d + 2) K s g1 z6 ho (by omega) i.c i.imm hi.imm.1 hi.imm.2
    simp only [go_sem, ↓reduceIte, ow, hn5, hn6, hn7, hn8, frz_W, strip_W, view_W, z1, z4, z5, z7, Nat.left_eq_add, Nat.add_eq_left, Nat.add_left_cancel_iff, Nat.succ_ne_zero, Nat.add_assoc, Nat.one_ne_zero, Bool.not_false, Bool.not_true]
    generalize callS K s i.c i.imm = X at hc1 hc2 hc3 ⊢
    obtain ⟨t, er⟩ := X
    simp only at hc1 hc2 hc3 ⊢
    simp only [encS] at hc3
    simp only [go_sem, ↓reduceIte, hc3, pure_W, hc2, Nat.left_eq_add, Nat.add_eq_left, Nat.add_left_cancel_iff, Nat.succ_ne_zero, Nat.add_assoc, Nat.one_ne_zero, Bool.not_false, Bool.not_true]
    obtain ⟨f2, g2, y1, y2, y3, y4, y5, y6, y7, y8⟩ := hc1.fq
    by_cases he : er = 0
    · have he' := eq_true he
      rw [if_pos he]
      simp only [go_sem, ↓reduceIte, he', hwrap, frz_W, view_W, y1, y7, Nat.left_eq_add, Nat.add_eq_left, Nat.add_left_cancel_iff, Nat.succ_ne_zero, Nat.add_assoc, Nat.one_ne_zero, Bool.not_false, Bool.not_true]
      refine W.call (leave_c (K := K) (bp := bp) (p := p) (L := L) (m := m) _ (by (repeat' first | exact hW | refine WK.box ?_ _ | refine WK.put ?_ (by omega) (by omega) _ | refine WK.tok ?_)) (pc + 1) t f2 y2 y3 (by omega)) ?_
      rintro v τ ⟨hWt, hKt⟩
      simp only [go_sem, ↓reduceIte, *]
      exact wp_some ⟨WK.trim hWt hw hm, Keeps.trim (Keeps.trans (by (repeat' first | exact Keeps.refl _ _ | refine Keeps.new ?_ _ | refine Keeps.other ?_ _ (by omega) | refine Keeps.tok ?_ _)) hKt), rfl⟩
    · have he' := eq_false he
      rw [if_neg he]
      simp only [go_sem, ↓reduceIte, he', Nat.left_eq_add, Nat.add_eq_left, Nat.add_left_cancel_iff, Nat.succ_ne_zero, Nat.add_assoc, Nat.one_ne_zero, Bool.not_false, Bool.not_true]
      exact wp_some ⟨WK.trim (by (repeat' first | exact hW | refine WK.box ?_ _ | refine WK.put ?_ (by omega) (by omega) _ | refine WK.tok ?_)) hw hm, Keeps.trim (by (repeat' first | exact Keeps.refl _ _ | refine Keeps.new ?_ _ | refine Keeps.other ?_ _ (by omega) | refine Keeps.tok ?_ _)), rfl⟩
  · have c1 := eq_false (show ¬ i.op = 1 by omega)
    have c2 := eq_false (show ¬ i.op = 8 by omega)
    have c3 := eq_false (show ¬ i.op = 9 by omega)
    have c4 := eq_false (show ¬ i.op = 2 by omega)
    have c5 := eq_false (show ¬ i.op = 3 by omega)
    have c6 := eq_false (show ¬ i.op = 4 by omega)
    have c7 := eq_false (show ¬ i.op = 5 by omega)
    have c8 := eq_false (show ¬ i.op = 6 by omega)
    have c9 := eq_false (show ¬ i.op = 7 by omega)
    have ca := eq_false (show ¬ i.op = 10 by omega)
    have cb := eq_false (show ¬ i.op = 11 by omega)
    have cc := eq_false (show ¬ i.op = 12 by omega)
    have cd := eq_false (show ¬ i.op = 13 by omega)
    have ce := eq_false (show ¬ i.op = 14 by omega)
    have hcc : ¬ (i.op = 1 ∨ i.op = 8 ∨ i.op = 9) := by omega
    rw [if_neg hcc, if_neg (by omega), if_neg (by omega), if_neg (by omega)]
    have q := fun d => exit_c d s g1 z6 ho
    simp only [encS] at q
    simp only [go_sem, ↓reduceIte, c1, c2, c3, c4, c5, c6, c7, c8, c9, ca, cb, cc, cd, ce, q, frz_W, strip_W, view_W, z1, z4, z5, z7, Nat.left_eq_add, Nat.add_eq_left, Nat.add_left_cancel_iff, Nat.succ_ne_zero, Nat.add_assoc, Nat.one_ne_zero, Bool.not_false, Bool.not_true]
    exact wp_some ⟨WK.trim (by (repeat' first | exact hW | refine WK.box ?_ _ | refine WK.put ?_ (by omega) (by omega) _ | refine WK.tok ?_)) hw hm, Keeps.trim (by (repeat' first | exact Keeps.refl _ _ | refine Keeps.new ?_ _ | refine Keeps.other ?_ _ (by omega) | refine Keeps.tok ?_ _)), rfl⟩
end Go.Proofs.Yticlihmbikcohaa.Va

/- chapter 19: the walk -/
namespace Go.Proofs.Yticlihmbikcohaa.Va
open Go
set_option linter.unusedVariables false
set_option linter.unusedSimpArgs false
set_option maxRecDepth 100000
set_option maxHeartbeats 4000000
abbrev StepF := Int → Ins → Sta → List (Int × Sta) × Int
def roundS (F : StepF) (p : List Ins) (pc : Int) (L : Int → List Sta) : (Int → List Sta) × Int :=
  if (aheadS (L pc)).2.2 = 0 then (if (aheadS (L pc)).2.1 = true then (addLs L (F pc (at0 p pc) (aheadS (L pc)).1).1, (F pc (at0 p pc) (aheadS (L pc)).1).2) else (L, 0)) else (L, (aheadS (L pc)).2.2)
def walkS (F : StepF) (p : List Ins) : Nat → Int → (Int → List Sta) → Int × Int × (Int → List Sta)
  | 0, _, L => (0, 0, L)
  | n + 1, pc, L => if (roundS F p pc L).2 = 0 then walkS F p n (pc + 1) (roundS F p pc L).1 else (pc, (roundS F p pc L).2, (roundS F p pc L).1)
def beginL : Int → List Sta := addL (fun _ => []) 0 startS
def StepOk (D : Nat) (F : StepF) (K : Kx) (bp : Bool) (p : List Ins) (j : Int) (L : Int → List Sta) (s : Sta) : Prop :=
  ∀ σ w m r, WK K bp p L σ w m → RefA r s.refs → pure1 r = true → Sat (StepP K bp p L w m σ (F j (at0 p j) s)) (evalF Try.prog CC D 26 [.ptr 65 w [0], .int .i64 j, encS s r] σ)
structure Jok (D : Nat) (F : StepF) (K : Kx) (bp : Bool) (p : List Ins) (N : Nat) (J : Nat → (Int → List Sta) → Prop) : Prop where
  start : J 0 beginL
  ahead : ∀ j L, j ≤ N → J j L → (∀ s ∈ L j, SOk s ∧ s.refs.length ≤ 100000) ∧ (L j).length ≤ 100000
  step : ∀ j L, j < N → J j L → (aheadS (L j)).2.2 = 0 → (aheadS (L j)).2.1 = true → StepOk D F K bp p j L (aheadS (L j)).1
  next : ∀ j L, j < N → J j L → (roundS F p j L).2 = 0 → J (j + 1) (roundS F p j L).1
def WalkP (K : Kx) (bp : Bool) (p : List Ins) (σ : St) (w : Nat) (x : Int × Int × (Int → List Sta)) (q : AV × St) : Prop :=
  ∃ m, WK K bp p x.2.2 q.2 w m ∧ Keeps σ q.2 w ∧ σ.next ≤ m ∧ q.1 = .tup [.int .i64 x.1, .int .i64 x.2.1]
theorem walk_c (d : Nat) {F : StepF} {K : Kx} {bp : Bool} {p : List Ins} {N : Nat} {J : Nat → (Int → List Sta) → Prop} (hJ : Jok (d + 12) F K bp p N J) (hN : N ≤ 128) {σ : St} {w : Nat} (hw : w < σ.next)
    (ow : σ.obj w = some (.cells 65 [.agg 65 [.list 52 K.bl (K.l.map encTy) none, mapsV K, encP bp p, .nilm]])) :
    Sat (WalkP K bp p σ w (walkS F p N 0 beginL)) (evalF Try.prog CC (d + 13) 17 [.ptr 65 w [0], .int .i64 N] σ) := by
  have q1 := fun d => start_c d
  simp only [encP] at ow
  have n0 := eq_false (show ¬ w = σ.next by omega)
  refine Sat.go ?_
  rw [run_17 _ _ _ (by simp)]; unfold Try.f17; simp only [Option.getD_some]
  simp only [encS] at q1
  simp only [go_sem, ↓reduceIte, ow, n0, q1, frz_W, view_W, Nat.left_eq_add, Nat.add_eq_left, Nat.add_left_cancel_iff, Nat.succ_ne_zero, Nat.add_assoc, Nat.one_ne_zero, Bool.not_false, Bool.not_true]
  refine W.br_ok (by kernel_rfl) ?_
  simp only [go_sem, ↓reduceIte, ow, n0, q1, frz_W, view_W, noMem_W, Nat.left_eq_add, Nat.add_eq_left, Nat.add_left_cancel_iff, Nat.succ_ne_zero, Nat.add_assoc, Nat.one_ne_zero, Bool.not_false, Bool.not_true]
  have hW0 : ∀ o : AObj, ∀ o', o' = AObj.cells 65 [.agg 65 [.list 52 K.bl (K.l.map encTy) none, mapsV K, encP bp p, .map σ.next]] → o = .map 3 82 [] → WK K bp p (fun _ => []) ((σ.new o).set w o') w σ.next := by
    rintro o o' rfl rfl
    refine ⟨[], ⟨by show w < σ.next + 1; omega, Nat.lt_succ_self _, by omega, if_pos rfl, (if_neg (by omega)).trans (if_pos rfl), by simp, .nil, by simp⟩, fun _ => rfl⟩
  refine W.call (leave_c (K := K) (bp := bp) (p := p) (L := fun _ => []) (m := σ.next) _ (hW0 _ _ rfl rfl) 0 startS (.mt true) (.inl ⟨rfl, _, rfl⟩) rfl (by simp)) ?_
  rintro v τ ⟨hWt, hKt⟩
  simp only at hWt hKt
  have hWt : WK K bp p beginL τ w σ.next := hWt
  have hKs : ∀ j, j < σ.next → j ≠ w → τ.obj j = σ.obj j := fun j hj hn => (hKt.2 j (by show j < σ.next + 1; omega) (by omega)).trans ((if_neg hn).trans (if_neg (by omega)))
  have hnt : σ.next + 1 ≤ τ.next := hKt.1
  have hJ0 := hJ.start
  simp only [go_sem, ↓reduceIte, Nat.left_eq_add, Nat.add_eq_left, Nat.add_left_cancel_iff, Nat.succ_ne_zero, Nat.add_assoc, Nat.one_ne_zero, Bool.not_false, Bool.not_true]
  generalize hX : walkS F p N 0 beginL = X
  clear q1 hW0 hKt
  refine W.iter_rule (fun j ρ s => ρ 0 = .ptr 65 w [0] ∧ ρ 1 = .int .i64 N ∧ ρ 6 = .int .i64 j ∧ ∃ L, J j L ∧ WK K bp p L s w σ.next ∧ Keeps σ s w ∧ σ.next + 1 ≤ s.next ∧ walkS F p (N - j) j L = X) N ?_ ?_ _ 0 _ _ (Nat.zero_le _) ?_ ?_
  · clear hWt hKs hnt hJ0 hX
    rintro j ρ s hj ⟨h0, h1, h6, L, hjL, hW, hK0, hnx, hX⟩ K' hK hx hr'
    have hlt := eq_true (show ((j : Nat) : Int) < (N : Nat) by omega)
    have hwrap : IntKind.i64.wrap ((j : Int) + 1) = ((j + 1 : Nat) : Int) := by rw [IntKind.wrap_i64]; omega
    obtain ⟨ha1, ha2⟩ := hJ.ahead j L (by omega) hjL
    have hnj : N - j = (N - (j + 1)) + 1 := by omega
    rw [hnj] at hX
    simp only [walkS] at hX
    have hst := hJ.step j L hj hjL
    have hnext := hJ.next j L hj hjL
    unfold roundS at hX hnext
    simp only [go_sem, ↓reduceIte, h0, h1, h6, hlt, Nat.left_eq_add, Nat.add_eq_left, Nat.add_left_cancel_iff, Nat.succ_ne_zero, Nat.add_assoc, Nat.one_ne_zero, Bool.not_false, Bool.not_true]
    refine W.call (ahead_c _ hW j ha1 ha2) ?_
    rintro v s2 ⟨hW2, hK2, r, hr, hpr, rfl⟩
    simp only at hW2 hK2
    generalize aheadS (L j) = A at hst hnext hX hr ⊢
    obtain ⟨S, is, er⟩ := A
    simp only at hst hnext hX hr ⊢
    have hn2 : s.next ≤ s2.next := hK2.1
    simp only [go_sem, ↓reduceIte, h0, h1, h6, Nat.left_eq_add, Nat.add_eq_left, Nat.add_left_cancel_iff, Nat.succ_ne_zero, Nat.add_assoc, Nat.one_ne_zero, Bool.not_false, Bool.not_true]
    have hK3 : Keeps σ s2 w := ⟨by have := hK0.1; omega, fun i hi hn => (hK2.2 i (by omega) (by omega)).trans (hK0.2 i hi hn)⟩
    by_cases he : er = 0
    case neg =>
      have he' := eq_false he
      rw [if_neg he] at hX
      rw [if_neg he] at hX
      have hW := hW2
      simp only [go_sem, ↓reduceIte, h0, h6, he', hr', Nat.left_eq_add, Nat.add_eq_left, Nat.add_left_cancel_iff, Nat.succ_ne_zero, Nat.add_assoc, Nat.one_ne_zero, Bool.not_false, Bool.not_true]
      rw [← hX]
      have := hW2.lt
      refine wp_some ⟨σ.next, ?_, ?_, Nat.le_refl _, rfl⟩
      · (repeat' first | exact hW | refine WK.box ?_ _ | refine WK.put ?_ (by omega) (by omega) _ | refine WK.tok ?_)
      · exact Keeps.other (hK3.new _) _ (by omega)
    have he' := eq_true he
    rw [if_pos he] at hX hnext
    cases is
    case false =>
      simp only [Bool.false_eq_true, if_false, if_true] at hX hnext
      simp only [go_sem, ↓reduceIte, h0, h1, h6, he', hwrap, Nat.left_eq_add, Nat.add_eq_left, Nat.add_left_cancel_iff, Nat.succ_ne_zero, Nat.add_assoc, Nat.one_ne_zero, Bool.not_false, Bool.not_true]
      have hW := hW2
      have := hW2.lt
      refine hK _ _ ?_
      refine ⟨by (try simp only [go_sem, ↓reduceIte, Int.toNat_natCast, List.length_take, *]) <;> (first | done | rfl | omega | (simp; done) | (simp; omega)), by (try simp only [go_sem, ↓reduceIte, Int.toNat_natCast, List.length_take, *]) <;> (first | done | rfl | omega | (simp; done) | (simp; omega)), by (try simp only [go_sem, ↓reduceIte, Int.toNat_natCast, List.length_take, *]) <;> (first | done | rfl | omega | (simp; done) | (simp; omega)), L, hnext trivial, ?_, ?_, ?_, hX⟩
      · (repeat' first | exact hW | refine WK.box ?_ _ | refine WK.put ?_ (by omega) (by omega) _ | refine WK.tok ?_)
      · exact Keeps.other (hK3.new _) _ (by omega)
      · show σ.next + 1 ≤ s2.next + 1; omega
    simp only [if_true] at hX hnext
    have hst := hst he rfl
    simp only [go_sem, ↓reduceIte, h0, h1, h6, he', hwrap, Nat.left_eq_add, Nat.add_eq_left, Nat.add_left_cancel_iff, Nat.succ_ne_zero, Nat.add_assoc, Nat.one_ne_zero, Bool.not_false, Bool.not_true]
    have hlt2 := hW2.lt
    have hW3 : ∀ o o', WK K bp p L ((s2.new o).set s2.next o') w σ.next := fun o o' => (hW2.box o).put (by omega) (by omega) o'
    refine W.call (hst _ w σ.next r (hW3 _ _) hr hpr) ?_
    rintro v s4 ⟨hW4, hK4, hv⟩
    simp only at hW4 hK4 hv
    subst hv
    generalize F j (at0 p j) S = Y at hW4 hX hnext ⊢
    obtain ⟨ls, e2⟩ := Y
    simp only at hW4 hX hnext ⊢
    have hn4 : s2.next + 1 ≤ s4.next := hK4.1
    have hK5 : Keeps σ s4 w := ⟨by have := hK3.1; omega, fun i hi hn => (hK4.2 i (by show i < s2.next + 1; have := hK3.1; omega) (by omega)).trans ((if_neg (by omega)).trans ((if_neg (by omega)).trans (hK3.2 i hi hn)))⟩
    by_cases he2 : e2 = 0
    · have he2' := eq_true he2
      rw [if_pos he2] at hX
      simp only [go_sem, ↓reduceIte, h0, h1, h6, he2', hwrap, Nat.left_eq_add, Nat.add_eq_left, Nat.add_left_cancel_iff, Nat.succ_ne_zero, Nat.add_assoc, Nat.one_ne_zero, Bool.not_false, Bool.not_true]
      refine hK _ _ ?_
      exact ⟨by (try simp only [go_sem, ↓reduceIte, Int.toNat_natCast, List.length_take, *]) <;> (first | done | rfl | omega | (simp; done) | (simp; omega)), by (try simp only [go_sem, ↓reduceIte, Int.toNat_natCast, List.length_take, *]) <;> (first | done | rfl | omega | (simp; done) | (simp; omega)), by (try simp only [go_sem, ↓reduceIte, Int.toNat_natCast, List.length_take, *]) <;> (first | done | rfl | omega | (simp; done) | (simp; omega)), addLs L ls, hnext he2, hW4, hK5, by omega, hX⟩
    · have he2' := eq_false he2
      rw [if_neg he2] at hX
      simp only [go_sem, ↓reduceIte, h0, h6, he2', hr', Nat.left_eq_add, Nat.add_eq_left, Nat.add_left_cancel_iff, Nat.succ_ne_zero, Nat.add_assoc, Nat.one_ne_zero, Bool.not_false, Bool.not_true]
      rw [← hX]
      exact wp_some ⟨σ.next, hW4, hK5, Nat.le_refl _, rfl⟩
  · rintro ρ s ⟨h0, h1, h6, L, hjL, hW, hK0, hnx, hX⟩ K' hx hr'
    have hlt := eq_false (show ¬ ((N : Nat) : Int) < (N : Nat) by omega)
    rw [Nat.sub_self] at hX
    simp only [walkS] at hX
    simp only [go_sem, ↓reduceIte, hx, h0, h1, h6, hlt, Nat.left_eq_add, Nat.add_eq_left, Nat.add_left_cancel_iff, Nat.succ_ne_zero, Nat.add_assoc, Nat.one_ne_zero, Bool.not_false, Bool.not_true]
    rw [← hX]
    exact wp_some ⟨σ.next, hW, hK0, Nat.le_refl _, rfl⟩
  · show N < 0 + 9223372036854775900
    omega
  · exact ⟨by (try simp only [go_sem, ↓reduceIte, Int.toNat_natCast, List.length_take, *]) <;> (first | done | rfl | omega | (simp; done) | (simp; omega)), by (try simp only [go_sem, ↓reduceIte, Int.toNat_natCast, List.length_take, *]) <;> (first | done | rfl | omega | (simp; done) | (simp; omega)), by (try simp only [go_sem, ↓reduceIte, Int.toNat_natCast, List.length_take, *]) <;> (first | done | rfl | omega | (simp; done) | (simp; omega)), beginL, hJ0, hWt, ⟨by omega, hKs⟩, hnt, by rw [Nat.sub_zero]; exact hX⟩
end Go.Proofs.Yticlihmbikcohaa.Va

/- chapter 19: states stay well formed -/
namespace Go.Proofs.Yticlihmbikcohaa.Va
open Go
set_option linter.unusedVariables false
set_option linter.unusedSimpArgs false
set_option maxRecDepth 100000
set_option maxHeartbeats 4000000
theorem end_ok {c : Cal} (h : SOk c.st) : SOk (endS c) := ⟨by simp only [endS, List.length_cons, List.length_append, List.length_replicate, List.length_drop, h.1], h.2⟩
theorem call_ok (K : Kx) {s : Sta} (h : SOk s) (what n : Int) : SOk (callS K s what n).1 := by
  unfold callS
  split
  · exact end_ok (done_ok K h what n)
  · exact ⟨rfl, rfl⟩
theorem no_le (i : Int) (xs : List Int) : (no i xs).length ≤ xs.length := List.length_filter_le _ _
theorem want_le {m : Nat} {c : Cal} (h : c.st.refs.length ≤ m) (b : Bool) (e : Int) : (wantS c b e).st.refs.length ≤ m := by rw [wst]; exact h
theorem lock_le {m : Nat} {K : Kx} {c : Cal} (h : c.st.refs.length ≤ m) (k : Int) : (lockS K c k).st.refs.length ≤ m := by rw [lkst]; exact h
theorem then_le {m : Nat} {c : Cal} {f : Cal → Cal} (h : c.st.refs.length ≤ m) (hf : ∀ c, c.st.refs.length ≤ m → (f c).st.refs.length ≤ m + 1) : (thenS c f).st.refs.length ≤ m + 1 := by
  unfold thenS
  split
  · exact hf c h
  · exact Nat.le_succ_of_le h
theorem own_le {m : Nat} {c : Cal} (h : c.st.refs.length ≤ m) (t : Int) (b : Bool) : (ownS c t b).st.refs.length ≤ m + 1 := by
  show (c.st.refs ++ [c.st.next]).length ≤ _
  rw [List.length_append]; exact Nat.succ_le_succ h
theorem spend_le {m : Nat} {c : Cal} (h : c.st.refs.length ≤ m) (w : Wht) : (spendS c w).st.refs.length ≤ m := Nat.le_trans (no_le _ _) h
theorem into_le {m : Nat} {K : Kx} {c : Cal} (h : c.st.refs.length ≤ m) (k : Int) : (intoS K c k).st.refs.length ≤ m + 1 := then_le (want_le (want_le (lock_le h k) _ _) _ _) fun c hc => Nat.le_succ_of_le (spend_le hc _)
theorem done_len (K : Kx) (s : Sta) (what n : Int) : (doneS K s what n).st.refs.length ≤ s.refs.length + 1 := by
  have hb : (begC s n).st.refs.length ≤ s.refs.length := Nat.le_refl _
  unfold doneS
  generalize begC s n = c at hb ⊢
  split
  · unfold objectS
    split
    · exact then_le (want_le hb _ _) fun c hc => own_le hc _ _
    split
    · exact then_le (want_le hb _ _) fun c hc => Nat.le_succ_of_le (spend_le hc _)
    · exact then_le (want_le (want_le hb _ _) _ _) fun c hc => own_le hc _ _
  split
  · unfold tableS
    simp only
    split
    · split
      · exact then_le (want_le (want_le (want_le hb _ _) _ _) _ _) fun c hc => Nat.le_succ_of_le hc
      · exact Nat.le_succ_of_le (want_le (want_le hb _ _) _ _)
    · exact Nat.le_succ_of_le (want_le hb _ _)
  split
  · unfold regionS
    split
    · exact Nat.le_succ_of_le (want_le (want_le (want_le hb (handS c.x [5]) 8) (lockF K.l c.x.type 12) 7) (decide (c.st.lock = 0)) 9)
    split
    · exact Nat.le_succ_of_le (want_le hb (heldS c) 9)
    split
    · exact Nat.le_succ_of_le (want_le hb (!c.st.sec) 9)
    · exact Nat.le_succ_of_le (want_le hb (c.st.sec && decide (c.st.lock = 0)) 9)
  split
  · unfold listS
    split
    · exact into_le hb _
    split
    · exact Nat.le_succ_of_le (lock_le hb _)
    · exact own_le (show (loosenS (lockS K c 5)).st.refs.length ≤ _ from lock_le (K := K) hb 5) _ _
  split
  · unfold treeS
    split
    · exact into_le hb _
    split
    · exact Nat.le_succ_of_le (lock_le hb _)
    split
    · exact then_le (want_le (lock_le hb _) _ _) fun c hc => own_le (show (loosenS c).st.refs.length ≤ _ from hc) _ _
    · exact Nat.le_succ_of_le (want_le (want_le (want_le hb _ _) _ _) _ _)
  split
  · unfold pointerS
    split
    · exact Nat.le_succ_of_le (want_le (want_le (want_le hb _ _) _ _) _ _)
    · exact then_le (want_le (want_le (want_le (want_le hb _ _) _ _) _ _) _ _) fun c hc => own_le (by split; exact spend_le hc _; exact hc) _ _
  · exact Nat.le_succ_of_le hb
theorem call_len (K : Kx) (s : Sta) (what n : Int) : (callS K s what n).1.refs.length ≤ s.refs.length + 1 := by
  unfold callS
  split
  · exact done_len K s what n
  · exact Nat.zero_le _
/-- a state that n instructions may have led to -/
structure GSt (n : Nat) (s : Sta) : Prop where
  ok : SOk s
  le : s.refs.length ≤ n
structure Good (n : Nat) (L : Int → List Sta) : Prop where
  st : ∀ k, ∀ s ∈ L k, GSt n s
  len : ∀ k, (L k).length ≤ 1 + 2 * n
theorem GSt.up {n : Nat} {s : Sta} (h : GSt n s) : GSt (n + 1) s := ⟨h.ok, Nat.le_succ_of_le h.le⟩
theorem Good.start : Good 0 beginL := by
  refine ⟨fun k s hs => ?_, fun k => ?_⟩
  · unfold beginL addL at hs
    split at hs
    · obtain rfl : s = startS := by simpa using hs
      exact ⟨⟨rfl, rfl⟩, Nat.le_refl _⟩
    · exact absurd hs (by simp)
  · unfold beginL addL
    split <;> simp
theorem addLs_mem : ∀ (l : List (Int × Sta)) (L : Int → List Sta) (k : Int) (s : Sta), s ∈ addLs L l k → s ∈ L k ∨ (k, s) ∈ l
  | [], L, k, s, h => .inl h
  | (q, t) :: l, L, k, s, h => by
    rcases addLs_mem l (addL L q t) k s h with h | h
    · unfold addL at h
      split at h
      · rename_i e
        subst e
        rw [List.mem_append, List.mem_singleton] at h
        rcases h with h | rfl
        · exact .inl h
        · exact .inr (by simp)
      · exact .inl h
    · exact .inr (by simp [h])
theorem Good.add {n : Nat} {L : Int → List Sta} (h : Good n L) {l : List (Int × Sta)} (hl : l.length ≤ 2) (hs : ∀ q ∈ l, GSt (n + 1) q.2) : Good (n + 1) (addLs L l) :=
  ⟨fun k s hm => (addLs_mem l L k s hm).elim (fun h' => (h.st k s h').up) (fun h' => hs _ h'), fun k => by
    have h1 := addLs_len l L k
    have h2 := h.len k
    omega⟩
theorem Good.up {n : Nat} {L : Int → List Sta} (h : Good n L) : Good (n + 1) L := h.add (l := []) (by simp) (by simp)
theorem mrg_ok {n : Nat} : ∀ (ts : List Sta) (s : Sta), GSt n s → (∀ t ∈ ts, GSt n t) → (mrg s ts).2 = 0 → GSt n (mrg s ts).1
  | [], s, h, _, _ => h
  | t :: ts, s, h, ht, he => by
    unfold mrg at he ⊢
    by_cases e : (mergeS s t).2 = 0
    · rw [if_pos e] at he ⊢
      obtain ⟨h1, h2, _⟩ := merge_sok h.ok (ht t (by simp)).ok e
      exact mrg_ok ts _ ⟨h1, by rw [h2]; exact h.le⟩ (fun u hu => ht u (by simp [hu])) he
    · rw [if_neg e] at he
      exact absurd he e
theorem ahead_ok {n : Nat} {l : List Sta} (h : ∀ s ∈ l, GSt n s) (h0 : (aheadS l).2.2 = 0) (h1 : (aheadS l).2.1 = true) : GSt n (aheadS l).1 := by
  cases l with
  | nil => cases h1
  | cons s ts => exact mrg_ok ts s (h s (by simp)) (fun t ht => h t (by simp [ht])) h0
theorem nullT_ok {n : Nat} {s : Sta} (h : GSt n s) (ia : Int) (a to : Wht) (b : Bool) : GSt n (nullT s ia a to b) :=
  ⟨⟨by simp [nullT, h.ok.1], by simp [nullT, h.ok.2]⟩, by
    unfold nullT
    simp only
    split
    · exact Nat.le_trans (no_le _ _) h.le
    · exact h.le⟩
theorem null_g {n : Nat} {s : Sta} (h : GSt n s) (pc : Int) (i : Ins) (a : Wht) : (nullS pc s i a).1.length ≤ 2 ∧ ∀ q ∈ (nullS pc s i a).1, GSt (n + 1) q.2 := by
  have one : ∀ k b, ∀ q ∈ nullOne pc s i a k b, GSt (n + 1) q.2 := by
    intro k b q hq
    unfold nullOne at hq
    simp only at hq
    split at hq
    · obtain rfl := List.mem_singleton.1 hq
      exact (nullT_ok h _ _ _ _).up
    · cases hq
  unfold nullS
  split
  · exact ⟨by simp, by simp⟩
  split
  · exact ⟨by simp, by simp⟩
  split
  · exact ⟨by simp, by simp⟩
  refine ⟨?_, fun q hq => ?_⟩
  · have h1 := nullOne_len pc s i a 0 false
    have h2 := nullOne_len pc s i a 1 true
    show (nullOne pc s i a 0 false ++ nullOne pc s i a 1 true).length ≤ 2
    rw [List.length_append]; omega
  · rcases List.mem_append.1 (show q ∈ nullOne pc s i a 0 false ++ nullOne pc s i a 1 true from hq) with hq | hq
    · exact one _ _ q hq
    · exact one _ _ q hq
theorem move_g {n : Nat} {s : Sta} (h : GSt n s) (pc : Int) (i : Ins) (a b : Wht) : (moveS pc s i a b).1.length ≤ 2 ∧ ∀ q ∈ (moveS pc s i a b).1, GSt (n + 1) q.2 := by
  have one : ∀ t, GSt n t → ∀ q ∈ [(pc + 1, t)], GSt (n + 1) q.2 := fun t ht q hq => by obtain rfl := List.mem_singleton.1 hq; exact ht.up
  unfold moveS
  repeat' split
  all_goals first
    | exact ⟨by simp, one _ ⟨setRg_ok h.ok _ _, h.le⟩⟩
    | exact ⟨by simp, one _ ⟨setSl_ok h.ok _ _, h.le⟩⟩
    | exact ⟨by simp, by simp⟩
theorem stepN_g {n : Nat} {s : Sta} (h : GSt n s) (K : Kx) (pc : Int) (i : Ins) : (stepN K pc i s).1.length ≤ 2 ∧ ∀ q ∈ (stepN K pc i s).1, GSt (n + 1) q.2 := by
  have one : ∀ t, GSt (n + 1) t → ∀ q ∈ [(pc + 1, t)], GSt (n + 1) q.2 := fun t ht q hq => by obtain rfl := List.mem_singleton.1 hq; exact ht
  unfold stepN
  split
  · exact move_g h _ _ _ _
  split
  · exact ⟨by simp, one _ (GSt.up ⟨setRg_ok h.ok _ _, h.le⟩)⟩
  split
  · exact null_g h _ _ _
  split
  · split
    · refine ⟨by simp, one _ ⟨call_ok K h.ok _ _, ?_⟩⟩
      have h1 := call_len K s i.c i.imm
      have h2 := h.le
      omega
    · exact ⟨by simp, by simp⟩
  · exact ⟨by simp, by simp⟩
theorem round_g {F : StepF} {p : List Ins} {j : Nat} {L : Int → List Sta} (hg : ∀ s, GSt j s → (F j (at0 p j) s).1.length ≤ 2 ∧ ∀ q ∈ (F j (at0 p j) s).1, GSt (j + 1) q.2) (h : Good j L) : Good (j + 1) (roundS F p j L).1 := by
  unfold roundS
  by_cases h0 : (aheadS (L j)).2.2 = 0
  · rw [if_pos h0]
    cases h1 : (aheadS (L j)).2.1
    · rw [if_neg (by simp)]; exact h.up
    · rw [if_pos rfl]
      obtain ⟨g1, g2⟩ := hg _ (ahead_ok (h.st j) h0 h1)
      exact h.add g1 g2
  · rw [if_neg h0]; exact h.up
/-- a walk of steps that are known wherever it leads -/
def levelS (F : StepF) (p : List Ins) : Nat → (Int → List Sta)
  | 0 => beginL
  | n + 1 => (roundS F p n (levelS F p n)).1
theorem jok_of {D : Nat} {F : StepF} {K : Kx} {bp : Bool} {p : List Ins} {N : Nat} (hN : N ≤ 128) (hg : ∀ j : Nat, ∀ s, GSt j s → (F j (at0 p j) s).1.length ≤ 2 ∧ ∀ q ∈ (F j (at0 p j) s).1, GSt (j + 1) q.2)
    (hs : ∀ j : Nat, j < N → Good j (levelS F p j) → (aheadS (levelS F p j j)).2.2 = 0 → (aheadS (levelS F p j j)).2.1 = true → StepOk D F K bp p j (levelS F p j) (aheadS (levelS F p j j)).1) : Jok D F K bp p N (fun j L => L = levelS F p j ∧ Good j L) where
  start := ⟨rfl, .start⟩
  ahead := fun j L hj h => ⟨fun s hs => ⟨(h.2.st j s hs).ok, by have := (h.2.st j s hs).le; omega⟩, by have := h.2.len j; omega⟩
  step := fun j L hj h h0 h1 => by obtain ⟨rfl, h2⟩ := h; exact hs j hj h2 h0 h1
  next := fun j L hj h h0 => by obtain ⟨rfl, h2⟩ := h; exact ⟨rfl, round_g (hg j) h2⟩
end Go.Proofs.Yticlihmbikcohaa.Va

/- chapter 19: verify.Check -/
namespace Go.Proofs.Yticlihmbikcohaa.Va
open Go
set_option linter.unusedVariables false
set_option linter.unusedSimpArgs false
set_option maxRecDepth 100000
set_option maxHeartbeats 4000000
theorem flow_len {p : List Ins} (h : (flowS p).2 = 0) : p ≠ [] ∧ p.length ≤ 128 := by
  unfold flowS at h
  by_cases e : p = [] ∨ p.length > 128
  · rw [if_pos e] at h; simp at h
  · exact ⟨fun h => e (.inl h), by have : ¬ p.length > 128 := fun h => e (.inr h); omega⟩
def vchkS (F : StepF) (p : List Ins) : Int × Int := if (flowS p).2 = 0 then ((walkS F p p.length 0 beginL).1, (walkS F p p.length 0 beginL).2.1) else flowS p
theorem vcheck_c (d : Nat) {K : Kx} {bp : Bool} {p : List Ins} (hb : bp = true → p = []) (hu : ∀ i ∈ p, 0 ≤ i.imm ∧ i.imm < 4294967296) {F : StepF} {J : Nat → (Int → List Sta) → Prop} (hJ : (flowS p).2 = 0 → Jok (d + 12) F K bp p p.length J) :
    evalF Try.prog CC (d + 14) 9 [.list 52 K.bl (K.l.map encTy) none, mapsV K, encP bp p] St.empty = some (.tup [.int .i64 (vchkS F p).1, .int .i64 (vchkS F p).2], St.empty) := by
  have q := fun d => flow_c d bp p hb hu
  simp only [encP] at q
  refine wp_eq ?_
  rw [run_9 _ _ _ (by simp)]; unfold Try.f9; simp only [Option.getD_some]
  simp only [encP]
  simp only [go_sem, ↓reduceIte, q, Nat.left_eq_add, Nat.add_eq_left, Nat.add_left_cancel_iff, Nat.succ_ne_zero, Nat.add_assoc, Nat.one_ne_zero, Bool.not_false, Bool.not_true]
  unfold vchkS
  by_cases hf : (flowS p).2 = 0
  case neg =>
    have hf' := eq_false hf
    rw [if_neg hf]
    simp only [go_sem, ↓reduceIte, hf', Nat.left_eq_add, Nat.add_eq_left, Nat.add_left_cancel_iff, Nat.succ_ne_zero, Nat.add_assoc, Nat.one_ne_zero, Bool.not_false, Bool.not_true]
    rfl
  have hf' := eq_true hf
  obtain ⟨hp0, hp1⟩ := flow_len hf
  rw [if_pos hf]
  simp only [go_sem, ↓reduceIte, hf', Nat.left_eq_add, Nat.add_eq_left, Nat.add_left_cancel_iff, Nat.succ_ne_zero, Nat.add_assoc, Nat.one_ne_zero, Bool.not_false, Bool.not_true]
  refine W.call (walk_c d (hJ hf) hp1 (w := 0) (show 0 < 1 by decide) rfl) ?_
  rintro v τ ⟨m, hW, hK, hm, rfl⟩
  simp only [go_sem, ↓reduceIte, *]
  rfl
theorem fits_c (d : Nat) (K : Kx) (hl : K.l.length ≤ 9223372036854775807) (hm : K.ms.length ≤ 9223372036854775807) : ∃ b, evalF Try.prog CC (d + 60) 12 [.list 52 K.bl (K.l.map encTy) none, mapsV K] St.empty = some (.bool b, St.empty) := by
  have hc := fun d => Check_c d K.bl K.l hl
  simp only [encTs, resC] at hc
  refine (show Wp (fun x => ∃ b, x = some ((AV.bool b, St.empty) : AV × St)) _ from ?_)
  rw [run_12 _ _ _ (by simp)]; unfold Try.f12; simp only [Option.getD_some]
  rcases mapsV_or K with hmv | ⟨hmv, hms⟩
  case inr =>
    rw [hmv]
    simp only [go_sem, ↓reduceIte, hc]
    refine W.iter_rule (fun i ρ s => ρ 0 = .list 52 K.bl (K.l.map encTy) none ∧ ρ 1 = .mt K.bm ∧ ρ 6 = .int .i64 (checkAll K.l).2 ∧ ρ 7 = .int .i64 0) 0 ?_ ?_ _ 0 _ _ (Nat.zero_le _) ?_ ?_
    · intro i ρ s hi; omega
    · rintro ρ s ⟨h0, h1, h6, h7⟩ K' hx hr
      simp only [go_sem, ↓reduceIte, hx, h0, h1, h6, h7]
      exact ⟨_, rfl⟩
    · show 0 < 0 + 9223372036854775900
      omega
    · exact ⟨by (try simp only [go_sem, ↓reduceIte, Int.toNat_natCast, List.length_take, *]) <;> (first | done | rfl | omega | (simp; done) | (simp; omega)), by (try simp only [go_sem, ↓reduceIte, Int.toNat_natCast, List.length_take, *]) <;> (first | done | rfl | omega | (simp; done) | (simp; omega)), by (try simp only [go_sem, ↓reduceIte, Int.toNat_natCast, List.length_take, *]) <;> (first | done | rfl | omega | (simp; done) | (simp; omega)), by (try simp only [go_sem, ↓reduceIte, Int.toNat_natCast, List.length_take, *]) <;> (first | done | rfl | omega | (simp; done) | (simp; omega))⟩
  rw [hmv]
  simp only [go_sem, ↓reduceIte, hc]
  refine W.iter_rule (fun i ρ s => ρ 0 = .list 52 K.bl (K.l.map encTy) none ∧ ρ 1 = .list 71 K.bm (K.ms.map encM) none ∧ ρ 6 = .int .i64 (checkAll K.l).2 ∧ ρ 7 = .int .i64 i) K.ms.length ?_ ?_ _ 0 _ _ (Nat.zero_le _) ?_ ?_
  · rintro i ρ s hi ⟨h0, h1, h6, h7⟩ K' hK hx hr
    have hlt : (i : Int) < (K.ms.length : Int) := by omega
    have hwrap : IntKind.i64.wrap ((i : Int) + 1) = ((i + 1 : Nat) : Int) := by rw [IntKind.wrap_i64]; omega
    have hidx : idxOk (i : Int) K.ms.length = true := by simp [idxOk]; omega
    have hget : (K.ms.map encM)[((i : Nat) : Int).toNat]? = some (encM K.ms[i]) := by simp [hi]
    generalize K.ms[i] = m at hget
    simp only [encM] at hget
    by_cases ha : m.type < 0
    · simp only [go_sem, ↓reduceIte, h0, h1, h6, h7, hlt, hidx, hget, ha, hr]
      exact ⟨_, rfl⟩
    · by_cases hb : m.type ≥ (K.l.length : Int)
      · simp only [go_sem, ↓reduceIte, h0, h1, h6, h7, hlt, hidx, hget, ha, hb, hr]
        exact ⟨_, rfl⟩
      · simp only [go_sem, ↓reduceIte, h0, h1, h6, h7, hlt, hidx, hget, ha, hb, hwrap]
        refine hK _ _ ?_
        exact ⟨by (try simp only [go_sem, ↓reduceIte, Int.toNat_natCast, List.length_take, *]) <;> (first | done | rfl | omega | (simp; done) | (simp; omega)), by (try simp only [go_sem, ↓reduceIte, Int.toNat_natCast, List.length_take, *]) <;> (first | done | rfl | omega | (simp; done) | (simp; omega)), by (try simp only [go_sem, ↓reduceIte, Int.toNat_natCast, List.length_take, *]) <;> (first | done | rfl | omega | (simp; done) | (simp; omega)), by (try simp only [go_sem, ↓reduceIte, Int.toNat_natCast, List.length_take, *]) <;> (first | done | rfl | omega | (simp; done) | (simp; omega))⟩
  · rintro ρ s ⟨h0, h1, h6, h7⟩ K' hx hr
    have hlt : ¬ (K.ms.length : Int) < (K.ms.length : Int) := by omega
    simp only [go_sem, ↓reduceIte, hx, h0, h1, h6, h7, hlt]
    exact ⟨_, rfl⟩
  · show K.ms.length < 0 + 9223372036854775900
    omega
  · exact ⟨by (try simp only [go_sem, ↓reduceIte, Int.toNat_natCast, List.length_take, *]) <;> (first | done | rfl | omega | (simp; done) | (simp; omega)), by (try simp only [go_sem, ↓reduceIte, Int.toNat_natCast, List.length_take, *]) <;> (first | done | rfl | omega | (simp; done) | (simp; omega)), by (try simp only [go_sem, ↓reduceIte, Int.toNat_natCast, List.length_take, *]) <;> (first | done | rfl | omega | (simp; done) | (simp; omega)), by (try simp only [go_sem, ↓reduceIte, Int.toNat_natCast, List.length_take, *]) <;> (first | done | rfl | omega | (simp; done) | (simp; omega))⟩
end Go.Proofs.Yticlihmbikcohaa.Va

/- chapter 19: the examples run -/
namespace Go.Proofs.Yticlihmbikcohaa.Va
open Go
set_option maxRecDepth 100000
theorem shown_c (d : Nat) : evalF Try.prog CC (d + 20) 7 [] St.empty = some (.bool true, St.empty) := by
  show evalF Try.prog CC (d + 20) 7 [] St.empty = _
  kernel_rfl
end Go.Proofs.Yticlihmbikcohaa.Va

/- chapter 19: an object that is made, and not dropped -/
namespace Go.Proofs.Yticlihmbikcohaa.Va
open Go
set_option linter.unusedVariables false
set_option linter.unusedSimpArgs false
set_option maxRecDepth 100000
set_option maxHeartbeats 4000000
def leakP (drop : Bool) (t : Int) : List Ins := [⟨14, 0, 0, 1, t⟩, ⟨7, 0, 0, 1, 3⟩, ⟨1, 1, 0, 0, 0⟩, if drop then ⟨14, 0, 0, 2, 0⟩ else ⟨2, 0, 0, 0, 0⟩, ⟨2, 0, 0, 0, 0⟩, ⟨15, 0, 0, 0, 0⟩]
def lk0 (t : Int) : Sta := ⟨⟨3, t, 1, 0, true, 0, 0⟩ :: List.replicate 9 junk, List.replicate 8 junk, [1], 0, false, 2⟩
def lk1 (t : Int) : Sta := ⟨⟨3, t, 1, 0, false, 0, 0⟩ :: List.replicate 9 junk, List.replicate 8 junk, [1], 0, false, 2⟩
def lk2 : Sta := ⟨nullW :: List.replicate 9 junk, List.replicate 8 junk, [], 0, false, 2⟩
def lk3 (t : Int) : Sta := ⟨⟨3, t, 1, 0, false, 0, 0⟩ :: ⟨3, t, 1, 0, false, 0, 0⟩ :: List.replicate 8 junk, List.replicate 8 junk, [1], 0, false, 2⟩
def lk4 : Sta := ⟨zeroW :: List.replicate 9 junk, List.replicate 8 junk, [], 0, false, 2⟩
def lk5 (t : Int) : Sta := ⟨zeroW :: ⟨3, t, 1, 0, false, 0, 0⟩ :: List.replicate 8 junk, List.replicate 8 junk, [1], 0, false, 2⟩
theorem new_s {K : Kx} {t : Int} (h1 : okT K.l t = true) (h2 : valueS K.l t = false) : callS K startS 1 t = (lk0 t, 0) := by
  have e : doneS K startS 1 t = ownS (begC startS t) t true := by
    simp [doneS, objectS, wantS, thenS, okS, begC, h1, h2]
  unfold callS
  rw [e]
  rfl
theorem drop_s (K : Kx) (t : Int) : callS K (lk3 t) 2 0 = (lk4, 0) := by
  rfl
theorem null_s (t : Int) : nullS 1 (lk0 t) ⟨7, 0, 0, 1, 3⟩ ⟨3, t, 1, 0, true, 0, 0⟩ = ([(2, lk1 t), (4, lk2)], 0) := by
  rfl
theorem mrg_s : mergeS lk2 lk4 = (⟨joinS nullW zeroW :: List.replicate 9 junk, List.replicate 8 junk, [], 0, false, 2⟩, 0) := by
  rfl
theorem mrg_f (t : Int) : mergeS lk2 (lk5 t) = (noS, 8) := by
  rfl
def lkL1 (t : Int) : Int → List Sta := addL beginL 1 (lk0 t)
def lkL2 (t : Int) : Int → List Sta := addL (addL (lkL1 t) 2 (lk1 t)) 4 lk2
def lkL3 (t : Int) : Int → List Sta := addL (lkL2 t) 3 (lk3 t)
def lkL4 (d : Bool) (t : Int) : Int → List Sta := addL (lkL3 t) 4 (if d then lk4 else lk5 t)
def lkM : Sta := ⟨joinS nullW zeroW :: List.replicate 9 junk, List.replicate 8 junk, [], 0, false, 2⟩
def lkL5 (d : Bool) (t : Int) : Int → List Sta := addL (lkL4 d t) 5 (setRg lkM 0 (numW 0 0))
section
variable {K : Kx} {t : Int} {d : Bool}
theorem rd0 (h1 : okT K.l t = true) (h2 : valueS K.l t = false) : roundS (stepN K) (leakP d t) 0 beginL = (lkL1 t, 0) := by
  have e : roundS (stepN K) (leakP d t) 0 beginL = (addLs beginL (stepN K 0 ⟨14, 0, 0, 1, t⟩ startS).1, (stepN K 0 ⟨14, 0, 0, 1, t⟩ startS).2) := rfl
  have e2 : stepN K 0 ⟨14, 0, 0, 1, t⟩ startS = if (callS K startS 1 t).2 = 0 then ([(1, (callS K startS 1 t).1)], 0) else ([], (callS K startS 1 t).2) := rfl
  rw [e, e2, new_s h1 h2]
  rfl
theorem rd1 : roundS (stepN K) (leakP d t) 1 (lkL1 t) = (lkL2 t, 0) := rfl
theorem rd2 : roundS (stepN K) (leakP d t) 2 (lkL2 t) = (lkL3 t, 0) := rfl
theorem rd3 : roundS (stepN K) (leakP d t) 3 (lkL3 t) = (lkL4 d t, 0) := by cases d <;> rfl
theorem rd4 : roundS (stepN K) (leakP true t) 4 (lkL4 true t) = (lkL5 true t, 0) := rfl
theorem rd4f : roundS (stepN K) (leakP false t) 4 (lkL4 false t) = (lkL4 false t, 8) := rfl
theorem rd5 : roundS (stepN K) (leakP true t) 5 (lkL5 true t) = (lkL5 true t, 0) := rfl
theorem lev1 (h1 : okT K.l t = true) (h2 : valueS K.l t = false) : levelS (stepN K) (leakP d t) 1 = lkL1 t := by
  show (roundS (stepN K) (leakP d t) 0 beginL).1 = _
  rw [rd0 h1 h2]
theorem lev2 (h1 : okT K.l t = true) (h2 : valueS K.l t = false) : levelS (stepN K) (leakP d t) 2 = lkL2 t := by
  show (roundS (stepN K) (leakP d t) 1 (levelS (stepN K) (leakP d t) 1)).1 = _
  rw [lev1 h1 h2, rd1]
theorem lev3 (h1 : okT K.l t = true) (h2 : valueS K.l t = false) : levelS (stepN K) (leakP d t) 3 = lkL3 t := by
  show (roundS (stepN K) (leakP d t) 2 (levelS (stepN K) (leakP d t) 2)).1 = _
  rw [lev2 h1 h2, rd2]
theorem lev4 (h1 : okT K.l t = true) (h2 : valueS K.l t = false) : levelS (stepN K) (leakP d t) 4 = lkL4 d t := by
  show (roundS (stepN K) (leakP d t) 3 (levelS (stepN K) (leakP d t) 3)).1 = _
  rw [lev3 h1 h2, rd3]
theorem walk_leak (h1 : okT K.l t = true) (h2 : valueS K.l t = false) : (walkS (stepN K) (leakP d t) 6 0 beginL).1 = (if d then 0 else 4) ∧ (walkS (stepN K) (leakP d t) 6 0 beginL).2.1 = (if d then 0 else 8) := by
  cases d
  · simp only [walkS, rd0 h1 h2, Int.reduceAdd, rd1, rd2, rd3, rd4f, if_true]
    simp
  · simp only [walkS, rd0 h1 h2, Int.reduceAdd, rd1, rd2, rd3, rd4, rd5, if_true]
    simp
theorem flow_leak (ht : 0 ≤ t ∧ t < 4294967296) : (flowS (leakP d t)).2 = 0 := by
  have e : chkS ⟨14, 0, 0, 1, t⟩ = 0 := by
    have h1 : ¬ t > 4294967295 := by omega
    have h2 : ¬ t < 0 := by omega
    simp [chkS, opOk, badS, restS, rowS, tblS, at0, outB, h1, h2, IntKind.wrap_u32]
  have hf : flowS (leakP d t) = flowG 6 (⟨14, 0, 0, 1, t⟩ :: (leakP d t).tail) 0 (true :: List.replicate 127 false) := rfl
  have h0 : ∀ n r pc m, flowG n (⟨14, 0, 0, 1, t⟩ :: r) pc m = if m.getD pc.toNat false = false then (pc, 10) else match marks n (behindI ⟨14, 0, 0, 1, t⟩ pc) m with | none => (pc, 10) | some m' => flowG n r (pc + 1) m' := by
    intro n r pc m
    rw [flowG, e]
    exact if_neg (by simp)
  rw [hf, h0]
  cases d <;> rfl
theorem leak_ins (ht : 0 ≤ t ∧ t < 4294967296) {j : Nat} (hj : j < 6) : InsOk (at0 (leakP d t) (j : Int)) := by
  have mk : ∀ o a b c im : Int, 0 ≤ a ∧ a < 10 → 0 ≤ b ∧ b < 256 → 0 ≤ c ∧ c < 256 → 0 ≤ im ∧ im < 4294967296 → o ≠ 8 ∧ o ≠ 9 ∧ o ≠ 6 ∧ o ≠ 11 ∧ o ≠ 13 → InsOk ⟨o, a, b, c, im⟩ := fun o a b c im h1 h2 h3 h4 h5 =>
    ⟨h1, h2, h3, h4, fun h => by simp only at h; omega, fun h => by simp only at h; omega, fun h => by simp only at h; omega⟩
  rcases (show j = 0 ∨ j = 1 ∨ j = 2 ∨ j = 3 ∨ j = 4 ∨ j = 5 by omega) with rfl | rfl | rfl | rfl | rfl | rfl
  · exact mk 14 0 0 1 t (by omega) (by omega) (by omega) ht (by omega)
  · exact mk 7 0 0 1 3 (by omega) (by omega) (by omega) (by omega) (by omega)
  · exact mk 1 1 0 0 0 (by omega) (by omega) (by omega) (by omega) (by omega)
  · cases d
    · exact mk 2 0 0 0 0 (by omega) (by omega) (by omega) (by omega) (by omega)
    · exact mk 14 0 0 2 0 (by omega) (by omega) (by omega) (by omega) (by omega)
  · exact mk 2 0 0 0 0 (by omega) (by omega) (by omega) (by omega) (by omega)
  · exact mk 15 0 0 0 0 (by omega) (by omega) (by omega) (by omega) (by omega)
theorem leak_jok (D : Nat) (h1 : okT K.l t = true) (h2 : valueS K.l t = false) (ht : 0 ≤ t ∧ t < 4294967296) : Jok (D + 12) (stepN K) K false (leakP d t) 6 (fun j L => L = levelS (stepN K) (leakP d t) j ∧ Good j L) := by
  refine jok_of (by omega) (fun j s h => stepN_g h K j _) (fun j hj hG h0 h1' => ?_)
  have hgs := ahead_ok (hG.st j) h0 h1'
  intro σ w m r hW hr hp
  refine step_n D hW j (by omega) (by show (j : Int) < 6; omega) _ r hr hgs.ok (by have := hgs.le; omega) (leak_ins ht hj) (fun k => by have := hG.len k; omega) ?_
  rcases (show j = 0 ∨ j = 1 ∨ j = 2 ∨ j = 3 ∨ j = 4 ∨ j = 5 by omega) with rfl | rfl | rfl | rfl | rfl | rfl
  · exact .inr (.inr (.inr (.inl rfl)))
  · refine .inr (.inr (.inl ⟨rfl, ?_⟩))
    rw [lev1 h1 h2]
    exact (by decide : (3 : Int) ≠ 1)
  · exact .inl rfl
  · cases d
    · exact .inr (.inl rfl)
    · exact .inr (.inr (.inr (.inl rfl)))
  · exact .inr (.inl rfl)
  · exact .inr (.inr (.inr (.inr rfl)))
theorem leak_check (D : Nat) (h1 : okT K.l t = true) (h2 : valueS K.l t = false) (ht : 0 ≤ t ∧ t < 4294967296) : evalF Try.prog CC (D + 14) 9 [.list 52 K.bl (K.l.map encTy) none, mapsV K, encP false (leakP d t)] St.empty = some (.tup [.int .i64 (if d then 0 else 4), .int .i64 (if d then 0 else 8)], St.empty) := by
  have h := vcheck_c D (K := K) (bp := false) (p := leakP d t) (by simp) (fun i hi => by
    obtain ⟨n, hn, rfl⟩ := List.getElem_of_mem hi
    have hn6 : n < 6 := hn
    have := (leak_ins (d := d) ht hn6).imm
    rw [at0_nat hn] at this
    exact this) (fun _ => leak_jok (d := d) D h1 h2 ht)
  have e : vchkS (stepN K) (leakP d t) = (if d then 0 else 4, if d then 0 else 8) := by
    unfold vchkS
    rw [if_pos (flow_leak ht)]
    obtain ⟨w1, w2⟩ := walk_leak (d := d) h1 h2
    show ((walkS (stepN K) (leakP d t) 6 0 beginL).1, (walkS (stepN K) (leakP d t) 6 0 beginL).2.1) = _
    rw [w1, w2]
  rw [e] at h
  exact h
end
theorem leaks_c (bl : Bool) (l : List Typ) (hl : l.length ≤ 9223372036854775807) (t : Int) (ht0 : 0 ≤ t) (ht1 : t < 256) (drop : Bool) : ∃ σ', evalF Try.prog CC 80 4 [.list 52 bl (l.map encTy) none, .int .u8 t, .bool drop] St.empty = some (.bool true, σ') := by
  have hs := fun d => shown_c d
  obtain ⟨b, hf⟩ := fits_c 19 ⟨bl, l, true, [], true⟩ hl (Nat.zero_le _)
  have hmv : mapsV ⟨bl, l, true, [], true⟩ = .mt true := rfl
  rw [hmv] at hf
  simp only [Nat.reduceAdd] at hf
  refine (show Wp (fun x => ∃ σ', x = some ((AV.bool true, σ') : AV × St)) _ from ?_)
  have hs := hs 59
  simp only [Nat.reduceAdd] at hs
  rw [run_4 _ _ _ (by simp)]; unfold Try.f4; simp only [Option.getD_some]
  simp only [go_sem, ↓reduceIte, hs, hf, Nat.left_eq_add, Nat.add_eq_left, Nat.add_left_cancel_iff, Nat.succ_ne_zero, Nat.add_assoc, Nat.one_ne_zero, Bool.not_false, Bool.not_true]
  cases b
  · simp only [go_sem, ↓reduceIte, Nat.left_eq_add, Nat.add_eq_left, Nat.add_left_cancel_iff, Nat.succ_ne_zero, Nat.add_assoc, Nat.one_ne_zero, Bool.not_false, Bool.not_true]
    exact ⟨_, rfl⟩
  simp only [go_sem, ↓reduceIte, Nat.left_eq_add, Nat.add_eq_left, Nat.add_left_cancel_iff, Nat.succ_ne_zero, Nat.add_assoc, Nat.one_ne_zero, Bool.not_false, Bool.not_true]
  by_cases h0 : (l.length : Int) = 0
  · have h0' := eq_true h0
    simp only [go_sem, ↓reduceIte, h0', Nat.left_eq_add, Nat.add_eq_left, Nat.add_left_cancel_iff, Nat.succ_ne_zero, Nat.add_assoc, Nat.one_ne_zero, Bool.not_false, Bool.not_true]
    exact ⟨_, rfl⟩
  have h0' := eq_false h0
  have w1 : IntKind.i64.wrap t = t := by rw [IntKind.wrap_i64]; omega
  have hn0 : 0 ≤ t.tmod l.length := Int.tmod_nonneg _ ht0
  have hn1 : t.tmod l.length < l.length := Int.tmod_lt_of_pos _ (by omega)
  have hn2 : t.tmod l.length ≤ t := by
    rcases Int.lt_or_le t (l.length : Int) with h | h
    · rw [Int.tmod_eq_emod_of_nonneg ht0, Int.emod_eq_of_lt ht0 h]; exact Int.le_refl _
    · omega
  generalize hn : t.tmod (l.length : Int) = n at hn0 hn1 hn2
  simp only [go_sem, ↓reduceIte, h0', w1, hn, Nat.left_eq_add, Nat.add_eq_left, Nat.add_left_cancel_iff, Nat.succ_ne_zero, Nat.add_assoc, Nat.one_ne_zero, Bool.not_false, Bool.not_true]
  refine W.idx_at (by omega) (by omega) ?_
  have hv : valueS l n = (at0 l n).value := by unfold valueS; rw [if_pos ⟨hn0, hn1⟩]
  have ho : okT l n = true := by unfold okT; simp; omega
  generalize at0 l n = ty at hv
  simp only [go_sem, ↓reduceIte, h0', w1, hn, Nat.left_eq_add, Nat.add_eq_left, Nat.add_left_cancel_iff, Nat.succ_ne_zero, Nat.add_assoc, Nat.one_ne_zero, Bool.not_false, Bool.not_true]
  cases htv : ty.value
  case true =>
    simp only [go_sem, ↓reduceIte, Nat.left_eq_add, Nat.add_eq_left, Nat.add_left_cancel_iff, Nat.succ_ne_zero, Nat.add_assoc, Nat.one_ne_zero, Bool.not_false, Bool.not_true]
    exact ⟨_, rfl⟩
  rw [htv] at hv
  have w2 : IntKind.u32.wrap n = n := by rw [IntKind.wrap_u32]; omega
  have hck := fun d => leak_check (K := ⟨bl, l, true, [], true⟩) (d := d) 65 ho hv ⟨hn0, by omega⟩
  rw [hmv] at hck
  cases drop
  · have hck := hck false
    simp only [encP, leakP, List.map_cons, List.map_nil, encI, Nat.reduceAdd, Bool.false_eq_true, if_false] at hck
    simp only [go_sem, ↓reduceIte, h0', w1, w2, hn, hck, Nat.left_eq_add, Nat.add_eq_left, Nat.add_left_cancel_iff, Nat.succ_ne_zero, Nat.add_assoc, Nat.one_ne_zero, Bool.not_false, Bool.not_true]
    exact ⟨_, rfl⟩
  · have hck := hck true
    simp only [encP, leakP, List.map_cons, List.map_nil, encI, Nat.reduceAdd, if_true] at hck
    simp only [go_sem, ↓reduceIte, h0', w1, w2, hn, hck, Nat.left_eq_add, Nat.add_eq_left, Nat.add_left_cancel_iff, Nat.succ_ne_zero, Nat.add_assoc, Nat.one_ne_zero, Bool.not_false, Bool.not_true]
    exact ⟨_, rfl⟩
end Go.Proofs.Yticlihmbikcohaa.Va

/- printed out of the texts of another seat by port.py -/
namespace Go.Proofs.Yticlihmbikcohaa.Va
open Go
set_option linter.unusedVariables false
set_option linter.unusedSimpArgs false
set_option maxRecDepth 100000
theorem arg_str {t : TypeId} {v : AV} (h : Arg T t v) (ht : T.ty t = some .str) : ∃ s, v = .str s := by
  cases h <;> simp_all
theorem arg_bool {t : TypeId} {v : AV} (h : Arg T t v) (ht : T.ty t = some .bool) : ∃ s, v = .bool s := by
  cases h <;> simp_all
theorem arg_int {t : TypeId} {v : AV} {k : IntKind} (h : Arg T t v) (ht : T.ty t = some (.int k)) : ∃ n, v = .int k n ∧ (Lit.int k n).wf = true := by
  cases h <;> simp_all
theorem arg_slice {t e : TypeId} {v : AV} (h : Arg T t v) (ht : T.ty t = some (.slice e)) : ∃ b xs, v = .list e b xs none ∧ (∀ x ∈ xs, Arg T e x) ∧ (b = true → xs = []) ∧ xs.length ≤ maxLen := by
  cases h with
  | slice _ e' b xs h hx hb hl hz =>
    rw [ht] at h
    cases h
    exact ⟨b, xs, rfl, hx, hb, hl⟩
  | bool _ _ h => rw [ht] at h; cases h
  | int _ _ _ h => rw [ht] at h; cases h
  | str _ _ h => rw [ht] at h; cases h
  | struct _ _ _ h => rw [ht] at h; cases h
  | array _ _ _ _ h => rw [ht] at h; cases h
theorem arg_sized {t e : TypeId} {b : Bool} {xs : List AV} {tok : Option Nat} (h : Arg T t (.list e b xs tok)) : xs.length * T.bytes e ≤ 140737488351232 := by
  cases h with
  | slice _ e' b xs h hx hb hl hz => exact hz
theorem arg_struct {t : TypeId} {fs : List TypeId} {v : AV} (h : Arg T t v) (ht : T.ty t = some (.struct fs)) : ∃ vs, v = .agg t vs ∧ vs.length = fs.length ∧ ∀ (i : Nat) ft v, fs[i]? = some ft → vs[i]? = some v → Arg T ft v := by
  cases h with
  | struct _ fs' vs h hl hv =>
    rw [ht] at h
    cases h
    exact ⟨vs, rfl, hl, hv⟩
  | bool _ _ h => rw [ht] at h; cases h
  | int _ _ _ h => rw [ht] at h; cases h
  | str _ _ h => rw [ht] at h; cases h
  | slice _ _ _ _ h => rw [ht] at h; cases h
  | array _ _ _ _ h => rw [ht] at h; cases h
theorem arg_fld {v : AV} (h : Arg T 61 v) : ∃ f, v = encF f := by
  obtain ⟨vs, rfl, hl, hv⟩ := arg_struct h ty_61
  match vs, hl with
  | [a, b, c, d, e], _ =>
    obtain ⟨k, rfl, _⟩ := arg_int (hv 0 _ _ rfl rfl) ty_3
    obtain ⟨l, rfl, _⟩ := arg_int (hv 1 _ _ rfl rfl) ty_3
    obtain ⟨t, rfl, _⟩ := arg_int (hv 2 _ _ rfl rfl) ty_3
    obtain ⟨m, rfl, _⟩ := arg_int (hv 3 _ _ rfl rfl) ty_3
    obtain ⟨n, rfl, _⟩ := arg_int (hv 4 _ _ rfl rfl) ty_3
    exact ⟨⟨k, l, t, m, n⟩, rfl⟩
theorem map_of {p : AV → Prop} {α : Type} {g : α → AV} : ∀ {xs : List AV}, (∀ x ∈ xs, ∃ a, x = g a) → ∃ l : List α, xs = l.map g
  | [], _ => ⟨[], rfl⟩
  | x :: xs, h => by
    obtain ⟨a, rfl⟩ := h x (by simp)
    obtain ⟨l, rfl⟩ := map_of (p := p) (g := g) (xs := xs) (fun y hy => h y (by simp [hy]))
    exact ⟨a :: l, rfl⟩
theorem arg_typs {v : AV} (h : Arg T 48 v) : ∃ b l, v = encTs b l ∧ l.length ≤ 9223372036854775807 ∧ (∀ t ∈ l, t.name.size ≤ 9223372036854775807) ∧ (∀ t ∈ l, t.fields.length ≤ maxLen) ∧ (b = true → l = []) ∧ ∀ t ∈ l, t.nil = true → t.fields = [] := by
  have hmx : maxLen ≤ 9223372036854775807 := by decide
  obtain ⟨b, xs, rfl, hx, hb, hl⟩ := arg_slice h ty_48
  have hx2 : ∀ x ∈ xs, ∃ t : Typ, x = encTy t ∧ t.name.size ≤ 9223372036854775807 ∧ t.fields.length ≤ maxLen ∧ (t.nil = true → t.fields = []) := by
    intro x hxm
    obtain ⟨vs, rfl, hl, hv⟩ := arg_struct (hx x hxm) ty_52
    match vs, hl with
    | [a, b, c, d], _ =>
      have ha := hv 0 _ _ rfl rfl
      obtain ⟨x, rfl⟩ := arg_bool (hv 1 _ _ rfl rfl) ty_4
      obtain ⟨y, rfl⟩ := arg_bool (hv 2 _ _ rfl rfl) ty_4
      obtain ⟨z, xs, rfl, hx, hz, hlen⟩ := arg_slice (hv 3 _ _ rfl rfl) ty_50
      obtain ⟨fs, rfl⟩ := map_of (p := fun _ => True) (g := encF) (fun x hx' => arg_fld (hx x hx'))
      obtain ⟨s, rfl⟩ := arg_str ha ty_9
      have hs : s.size ≤ maxLen := by cases ha; assumption
      exact ⟨⟨s, x, y, z, fs⟩, rfl, Nat.le_trans hs hmx, by simpa using hlen, fun h => by simpa using hz h⟩
  clear hx
  have : ∃ l : List Typ, xs = l.map encTy ∧ ∀ t ∈ l, t.name.size ≤ 9223372036854775807 ∧ t.fields.length ≤ maxLen ∧ (t.nil = true → t.fields = []) := by
    clear hb hl h
    induction xs with
    | nil => exact ⟨[], rfl, by simp⟩
    | cons x xs ih =>
      obtain ⟨t, rfl, h1⟩ := hx2 x (by simp)
      obtain ⟨l, rfl, h2⟩ := ih (fun y hy => hx2 y (by simp [hy]))
      exact ⟨t :: l, rfl, fun u hu => by
        rcases List.mem_cons.1 hu with rfl | hu
        · exact h1
        · exact h2 u hu⟩
  obtain ⟨l, rfl, h2⟩ := this
  exact ⟨b, l, rfl, Nat.le_trans (by simpa using hl) hmx, fun t ht => (h2 t ht).1, fun t ht => (h2 t ht).2.1, fun h => by simpa using hb h, fun t ht => (h2 t ht).2.2⟩
theorem arg_array {t e : TypeId} {n : Nat} {v : AV} (h : Arg T t v) (ht : T.ty t = some (.array n e)) : ∃ vs, v = .agg t vs ∧ vs.length = n ∧ ∀ v ∈ vs, Arg T e v := by
  cases h with
  | array _ n' e' vs h hl hv =>
    rw [ht] at h
    cases h
    exact ⟨vs, rfl, hl, hv⟩
  | bool _ _ h => rw [ht] at h; cases h
  | int _ _ _ h => rw [ht] at h; cases h
  | str _ _ h => rw [ht] at h; cases h
  | slice _ _ _ _ h => rw [ht] at h; cases h
  | struct _ _ _ h => rw [ht] at h; cases h
theorem arg_W {v : AV} (h : Arg T 38 v) : ∃ w, v = encW w := by
  obtain ⟨vs, rfl, hl, hv⟩ := arg_struct h ty_38
  match vs, hl with
  | [a, b, c, d, e, f], _ =>
    obtain ⟨k, rfl, _⟩ := arg_int (hv 0 _ _ rfl rfl) ty_3
    obtain ⟨t, rfl, _⟩ := arg_int (hv 1 _ _ rfl rfl) ty_3
    obtain ⟨i, rfl, _⟩ := arg_int (hv 2 _ _ rfl rfl) ty_3
    obtain ⟨l, rfl, _⟩ := arg_int (hv 3 _ _ rfl rfl) ty_3
    obtain ⟨m, rfl⟩ := arg_bool (hv 4 _ _ rfl rfl) ty_4
    obtain ⟨us, rfl, hl2, hv2⟩ := arg_struct (hv 5 _ _ rfl rfl) ty_36
    match us, hl2 with
    | [x, y], _ =>
      obtain ⟨p, rfl, _⟩ := arg_int (hv2 0 _ _ rfl rfl) ty_24
      obtain ⟨q, rfl, _⟩ := arg_int (hv2 1 _ _ rfl rfl) ty_24
      exact ⟨⟨k, t, i, l, m, p, q⟩, rfl⟩
theorem arg_sta {v : AV} (h : Arg T 43 v) : ∃ s r, v = encS s r ∧ RefP r s.refs ∧ SOk s ∧ s.refs.length ≤ 17592186044415 := by
  obtain ⟨vs, rfl, hl, hv⟩ := arg_struct h ty_43
  match vs, hl with
  | [a, b, c, d, e, f], _ =>
    obtain ⟨az, rfl, ha, hwa⟩ := arg_array (hv 0 _ _ rfl rfl) ty_39
    obtain ⟨bz, rfl, hb, hwb⟩ := arg_array (hv 1 _ _ rfl rfl) ty_40
    have hv2 := hv 2 _ _ rfl rfl
    obtain ⟨nb, cz, rfl, hc, hnc, hcl⟩ := arg_slice hv2 ty_41
    have hz := arg_sized hv2
    have h3 : T.bytes 3 = 8 := by kernel_rfl
    rw [h3] at hz
    obtain ⟨l, rfl, _⟩ := arg_int (hv 3 _ _ rfl rfl) ty_3
    obtain ⟨x, rfl⟩ := arg_bool (hv 4 _ _ rfl rfl) ty_4
    obtain ⟨n, rfl, _⟩ := arg_int (hv 5 _ _ rfl rfl) ty_3
    obtain ⟨ra, rfl⟩ := map_of (p := fun _ => True) (g := encW) (fun x hx' => arg_W (hwa x hx'))
    obtain ⟨rb, rfl⟩ := map_of (p := fun _ => True) (g := encW) (fun x hx' => arg_W (hwb x hx'))
    obtain ⟨rc, rfl⟩ := map_of (p := fun _ => True) (g := fun n : Int => AV.int .i64 n) (fun x hx' => by obtain ⟨k, h, _⟩ := arg_int (hc x hx') ty_3; exact ⟨k, h⟩)
    exact ⟨⟨ra, rb, rc, l, x, n⟩, _, rfl, .inr ⟨nb, rfl, fun h => by simpa using hnc h⟩, ⟨by simpa using ha, by simpa using hb⟩, by
      simp only [List.length_map] at hz
      show rc.length ≤ _
      omega⟩
theorem arg_maps {v : AV} (h : Arg T 54 v) : ∃ b, ∃ l : List Mp, v = .list 71 b (l.map encM) none ∧ l.length ≤ 9223372036854775807 := by
  have hmx : maxLen ≤ 9223372036854775807 := by decide
  obtain ⟨b, xs, rfl, hx, hb, hl⟩ := arg_slice h ty_54
  obtain ⟨ms, rfl⟩ := map_of (p := fun _ => True) (g := encM) (fun x hx' => by
    obtain ⟨vs, rfl, hl, hv⟩ := arg_struct (hx x hx') ty_71
    match vs, hl with
    | [a, b, c], _ =>
      obtain ⟨m, rfl⟩ := arg_bool (hv 0 _ _ rfl rfl) ty_4
      obtain ⟨k, rfl, _⟩ := arg_int (hv 1 _ _ rfl rfl) ty_3
      obtain ⟨t, rfl, _⟩ := arg_int (hv 2 _ _ rfl rfl) ty_3
      exact ⟨⟨m, k, t⟩, rfl⟩)
  exact ⟨b, ms, rfl, Nat.le_trans (by simpa using hl) hmx⟩
end Go.Proofs.Yticlihmbikcohaa.Va

/- chapter 19: the law of leaks, of arguments -/
namespace Go.Proofs.Yticlihmbikcohaa.Va
open Go
set_option linter.unusedVariables false
theorem arg_u8 {a : AV} (h : Arg T 5 a) : ∃ n, a = .int .u8 n ∧ 0 ≤ n ∧ n < 256 := by
  obtain ⟨n, rfl, hw⟩ := arg_int h ty_5
  refine ⟨n, rfl, ?_⟩
  have e1 : IntKind.u8.min = 0 := by kernel_rfl
  have e2 : IntKind.u8.max = 255 := by kernel_rfl
  simp [Lit.wf, e1, e2] at hw
  omega
theorem leaks_law (d : Nat) (a0 a1 a2 : AV) (g0 : Arg T 48 a0) (g1 : Arg T 5 a1) (g2 : Arg T 4 a2) : ∃ σ', evalF Try.prog CC 80 4 [a0, a1, a2] St.empty = some (.bool true, σ') := by
  obtain ⟨bl, l, rfl, hl, _⟩ := arg_typs g0
  obtain ⟨t, rfl, h0, h1⟩ := arg_u8 g1
  obtain ⟨b, rfl⟩ := arg_bool g2 ty_4
  exact leaks_c bl l hl t h0 h1 b
end Go.Proofs.Yticlihmbikcohaa.Va

/- chapter 19: what is told from outside holds -/
namespace Go.Proofs.Yticlihmbikcohaa.Va
open Go Go.RowKit
set_option linter.unusedVariables false
theorem told_nameB (s : ByteArray) : HWireName.Told s (nameB s) := by
  have hget : ∀ i (h : i < s.size), s[i]'h = s.data.toList[i]'(by rw [Array.length_toList]; exact h) := fun i h => rfl
  refine ⟨fun h => ?_, fun h => ?_⟩
  · simp only [nameB, Bool.and_eq_true, decide_eq_true_eq] at h
    refine ⟨fun i hi _ => ?_, h.1.2, h.2⟩
    rw [hget i hi]
    exact List.all_eq_true.1 h.1.1 _ (List.getElem_mem _)
  · by_cases h1 : s.data.toList.all (fun b => HWireName.okB (b.toNat : Int)) = true
    · by_cases h2 : 0 < s.size
      · refine .inr (.inr ?_)
        have h3 : ¬ s.size ≤ 16 := by
          intro h3
          simp [nameB, h1, h2, h3] at h
        omega
      · exact .inr (.inl (by omega))
    · refine .inl ?_
      have : ∃ b ∈ s.data.toList, ¬ HWireName.okB (b.toNat : Int) = true := by
        rw [List.all_eq_true] at h1
        exact Classical.not_forall.1 h1 |>.imp fun b hb => by simpa using hb
      obtain ⟨b, hb, hk⟩ := this
      obtain ⟨i, hi, rfl⟩ := List.mem_iff_getElem.1 hb
      exact ⟨i, by rw [Array.length_toList] at hi; exact hi, by rw [hget]; simpa using hk⟩
theorem enters {P : Program} {f : FuncId} {fn : Func} {b : Code} (hf : P.funcs[f]? = some fn) (hb : fn.body = some b) (hn : (fn.name != "runtime.NumGoroutine") = true) (vs : Array Value) (w : World) : (callFunc f vs).run P w = .ok (.enter f vs) w := by
  have hn : ¬ fn.name = "runtime.NumGoroutine" := by simpa using hn
  simp [callFunc, hf, hb, hn]
theorem ext_ok : ExtOk Try.prog CC := by
  intro base c σ w f g args vs v σ' hg hI h hA
  have hg : ext5 f = some g := hg
  unfold ext5 at hg
  split at hg
  · simp only [Option.some.injEq] at hg
    subst hg
    dsimp only at h
    split at h
    · rename_i s
      simp only [Option.some.injEq, Prod.mk.injEq] at h
      obtain ⟨rfl, rfl⟩ := h
      obtain ⟨hl, hv⟩ := hA
      obtain ⟨vl⟩ := vs
      match vl, hl with
      | [x], _ =>
        obtain rfl := rep_str (hv 0 _ _ rfl rfl)
        show Goes Try.prog 67 _ _ _
        refine .inl ⟨enters Try.func67 (b := Try.f67.body.getD .skip) rfl (by kernel_rfl) _ _, (HWireName.walk s w).mono fun e w' ⟨b, he, ht, hb⟩ => ⟨.bool b, he, c, ⟨.refl c, hb.mono hI.le, fun _ _ _ => rfl, fun _ _ => rfl⟩, hI.far hb, ?_⟩⟩
        rw [HWireName.Told.one ht (told_nameB s)]
        exact mk_bool _
    · cases h
  · simp only [Option.some.injEq] at hg
    subst hg
    dsimp only at h
    split at h
    · rename_i x y k
      split at h
      · rename_i hc
        simp only [Option.some.injEq, Prod.mk.injEq] at h
        obtain ⟨rfl, rfl⟩ := h
        obtain ⟨hl, hv⟩ := hA
        obtain ⟨vl⟩ := vs
        match vl, hl with
        | [x1, x2, x3], _ =>
          obtain rfl := rep_int (hv 0 _ _ rfl rfl)
          obtain rfl := rep_int (hv 1 _ _ rfl rfl)
          obtain rfl := rep_int (hv 2 _ _ rfl rfl)
          refine .inr ⟨.tuple #[.int .u64 ((x + y + k) % 18446744073709551616), .int .u64 ((x + y + k) / 18446744073709551616)], w, ?_, c, .refl _ _ _, hI, ?_⟩
          · show (callFunc 73 _).run _ _ = _
            rw [run_callFunc_extern Try.func73 (by kernel_rfl) (by kernel_rfl) (by kernel_rfl) (e := add64Entry) (by kernel_rfl), run_add64 x y k hc.1 hc.2.1 hc.2.2.1 hc.2.2.2]
            rfl
          · exact ⟨[_, _], rfl, rfl, fun i a b ha hb => by
              match i with
              | 0 => simp at ha hb; subst ha; subst hb; exact ⟨_, .int _ _ _, rfl⟩
              | 1 => simp at ha hb; subst ha; subst hb; exact ⟨_, .int _ _ _, rfl⟩
              | i + 2 => simp at ha⟩
      · cases h
    · cases h
  · cases hg
theorem peek_ok : ∀ f, CC.peek f = true → stillF Try.prog CC f = true := by
  intro f h
  cases h
theorem calls_ok (hm : Try.prog.follows .mixedOrders = true) (d : Nat) : CallOk Try.prog CC (evalF Try.prog CC d) :=
  evalF_sound tabOk ext_ok peek_ok (fun call f b c0 w0 N D r hC hG => draw_sound tabOk hm hC hG) d
end Go.Proofs.Yticlihmbikcohaa.Va
