/- chapter 19: flow.Check -/
import Derived.Test.YticlihmbikcohaaVaRw
import Derived.Test.YticlihmbikcohaaMg0

namespace Go.Proofs.Yticlihmbikcohaa.Va
open Go
set_option linter.unusedVariables false
set_option linter.unusedSimpArgs false
set_option maxRecDepth 100000
def encP (b : Bool) (l : List Ins) : AV := .list 28 b (l.map encI) none
theorem behind_c (d : Nat) (b : Bool) (xs : List AV) (pc : Int) (σ : St) : evalF Try.prog CC (d + 1) 22 [.list 28 b xs none, .int .i64 pc] σ =
    some (.func 35 [.ptr 3 (σ.next + 1) [0], .ptr 29 σ.next [0]], (σ.new (.cells 29 [.list 28 b xs none])).new (.cells 3 [.int .i64 pc])) := by
  refine wp_eq ?_
  rw [run_22 _ _ _ (by simp)]; unfold Try.f22; simp only [Option.getD_some]
  simp only [go_sem, *]
  rfl
def behindI (i : Ins) (pc : Int) : List Int :=
  if i.op = 15 then []
  else if i.op = 5 then [pc + i.imm]
  else if i.op = 6 ∨ i.op = 7 then (if pc + i.imm ≠ pc + 1 then [pc + 1, pc + i.imm] else [pc + 1])
  else [pc + 1]
def marks (n : Int) : List Int → List Bool → Option (List Bool)
  | [], m => some m
  | on :: l, m => if on ≥ n then none else marks n l (m.set on.toNat true)
def flowG (n : Int) : List Ins → Int → List Bool → Int × Int
  | [], _, _ => (0, 0)
  | i :: r, pc, m =>
    if chkS i ≠ 0 then (pc, chkS i)
    else if m.getD pc.toNat false = false then (pc, 10)
    else match marks n (behindI i pc) m with
      | none => (pc, 10)
      | some m' => flowG n r (pc + 1) m'
def flowS (l : List Ins) : Int × Int := if l = [] ∨ l.length > 128 then (0, 11) else flowG l.length l 0 (true :: List.replicate 127 false)
theorem ix_seen (id : Nat) (p : List Nat) (i : Nat) (hi : i < 128) : aIndexAddr T 73 (.ptr 73 id p) (.int .i64 i) = some (.ptr 4 id (p ++ [i])) := by
  simp only [aIndexAddr, ty_73]
  rw [if_pos ⟨by simp [Tab.same], by omega, by omega⟩]
  rw [Int.toNat_natCast]
theorem flow_c (d : Nat) (b : Bool) (l : List Ins) (hb : b = true → l = []) (hu : ∀ i ∈ l, 0 ≤ i.imm ∧ i.imm < 4294967296) : evalF Try.prog CC (d + 6) 14 [encP b l] St.empty = some (.tup [.int .i64 (flowS l).1, .int .i64 (flowS l).2], St.empty) := by
  have p1 := fun d i => icheck_c d i
  have p2 := fun d b xs pc σ => behind_c d b xs pc σ
  unfold encP
  refine wp_eq ?_
  rw [run_14 _ _ _ (by simp)]; unfold Try.f14; simp only [Option.getD_some]
  by_cases h0 : l.length = 0
  · have h0' := eq_true (show ((l.length : Nat) : Int) = 0 by omega)
    simp only [go_sem, h0']
    rw [show flowS l = (0, 11) from if_pos (.inl (List.length_eq_zero_iff.1 h0))]
    rfl
  have h0' := eq_false (show ¬ ((l.length : Nat) : Int) = 0 by omega)
  by_cases h1 : l.length > 128
  · have h1' := eq_true (show ((l.length : Nat) : Int) > 128 by omega)
    simp only [go_sem, h0', h1']
    rw [show flowS l = (0, 11) from if_pos (.inr h1)]
    rfl
  have h1' := eq_false (show ¬ ((l.length : Nat) : Int) > 128 by omega)
  rw [show flowS l = flowG l.length l 0 (true :: List.replicate 127 false) from if_neg (by simp; exact ⟨fun h => h0 (by simp [h]), by omega⟩)]
  have hix := fun a (i : Nat) hi => ix_seen a [0] i hi
  have hix0 := hix 3 0 (by omega)
  simp only [List.cons_append, List.nil_append, Int.natCast_zero] at hix hix0
  generalize hm0 : (true :: List.replicate 127 false) = m0
  simp only [go_sem, h0', h1', hix0]
  refine W.iter_rule (fun k ρ s => ρ 1 = .ptr 29 0 [0] ∧ ρ 2 = .ptr 3 1 [0] ∧ ρ 3 = .ptr 30 2 [0] ∧ ρ 4 = .ptr 73 3 [0] ∧ ρ 18 = .list 28 b (l.map encI) none ∧ ρ 19 = .int .i64 l.length ∧ ρ 20 = .int .i64 k ∧
      s.obj 0 = some (.cells 29 [.list 28 b (l.map encI) none]) ∧ s.obj 1 = some (.cells 3 [.int .i64 0]) ∧ s.obj 2 = some (.cells 30 [.int .i64 0]) ∧ 3 < s.next ∧
      ∃ m : List Bool, m.length = 128 ∧ s.obj 3 = some (.cells 73 [.agg 73 (m.map .bool)]) ∧ flowG l.length l 0 m0 = flowG l.length (l.drop k) k m) l.length ?_ ?_ _ 0 _ _ (Nat.zero_le _) ?_ ?_
  · rintro k ρ s hk ⟨r1, r2, r3, r4, r18, r19, r20, o0, o1, o2, hn, m, hm, o3, he⟩ K' hK hx' hr'
    have hlt := eq_true (show ((k : Nat) : Int) < (l.length : Nat) by omega)
    have hd : l.drop k = at0 l (k : Int) :: l.drop (k + 1) := by
      rw [List.drop_eq_getElem_cons hk]
      simp [at0, hk]
    have n0 := eq_false (show ¬ (0 : Nat) = s.next by omega)
    have n1 := eq_false (show ¬ (1 : Nat) = s.next by omega)
    have n2 := eq_false (show ¬ (2 : Nat) = s.next by omega)
    have n3 := eq_false (show ¬ (3 : Nat) = s.next by omega)
    have m0' := eq_false (show ¬ (0 : Nat) = s.next + 1 by omega)
    have m1 := eq_false (show ¬ (1 : Nat) = s.next + 1 by omega)
    have m2 := eq_false (show ¬ (2 : Nat) = s.next + 1 by omega)
    have m3 := eq_false (show ¬ (3 : Nat) = s.next + 1 by omega)
    have v2 := eq_false (show ¬ s.next = s.next + 1 + 1 by omega)
    have v3 := eq_false (show ¬ s.next = s.next + 1 + 1 + 1 by omega)
    have v4 := eq_false (show ¬ s.next = s.next + 1 + 1 + 1 + 1 by omega)
    have u2 := eq_false (show ¬ s.next + 1 + 1 = s.next by omega)
    have u3 := eq_false (show ¬ s.next + 1 + 1 + 1 = s.next by omega)
    have u4 := eq_false (show ¬ s.next + 1 + 1 + 1 + 1 = s.next by omega)
    have g0 := eq_false (show ¬ s.next = 0 by omega)
    have g1 := eq_false (show ¬ s.next = 1 by omega)
    have g2 := eq_false (show ¬ s.next = 2 by omega)
    have g3 := eq_false (show ¬ s.next = 3 by omega)
    have ne1 := eq_false (show ¬ s.next = s.next + 1 by omega)
    have hik := hix 3 k (by omega)
    have hmk : (m.map AV.bool)[k]? = some (.bool (m.getD k false)) := by rw [List.getElem?_map, List.getD_eq_getElem?_getD, List.getElem?_eq_getElem (by omega)]; rfl
    clear hx'
    simp only [go_sem, r1, r2, r3, r4, r18, r19, r20, hlt]
    refine W.idx_at (by omega) (by omega) ?_
    simp only [go_sem, r1, r2, r3, r4, r18, r19, r20, Int.toNat_natCast]
    generalize hi : at0 l (k : Int) = i
    rw [hd, hi] at he
    have ne2 := eq_false (show ¬ s.next + 1 = s.next by omega)
    have q1 := fun d => p1 d i
    simp only [encI] at q1
    clear p1 hix0 hb
    simp only [go_sem, r1, r2, r3, r4, r18, r19, r20, Int.toNat_natCast, ne1, ne2, n0, n1, n2, n3, m0', m1, m2, m3, q1, o0, o1, o2, o3]
    by_cases hc : chkS i = 0
    case neg =>
      have hc' := eq_false hc
      simp only [go_sem, hc', r1, r2, r3, r4, ne1, ne2, n0, n1, n2, n3, m0', m1, m2, m3, o0, o1, o2, o3, hr']
      rw [he, show flowG l.length (i :: l.drop (k + 1)) (k : Int) m = ((k : Int), chkS i) by simp [flowG, hc]]
      rfl
    have hc' := eq_true hc
    cases hmg : m.getD k false
    · simp only [go_sem, hc', r1, r2, r3, r4, ne1, ne2, n0, n1, n2, n3, m0', m1, m2, m3, o0, o1, o2, o3, hik, hmk, hmg, hr']
      rw [he, show flowG l.length (i :: l.drop (k + 1)) (k : Int) m = ((k : Int), 10) by rw [flowG, if_neg (fun h => h hc), if_pos (by rw [Int.toNat_natCast]; exact hmg)]]
      rfl
    simp only [go_sem, hc', r1, r2, r3, r4, ne1, ne2, n0, n1, n2, n3, m0', m1, m2, m3, o0, o1, o2, o3, hik, hmk, hmg, p2]
    have hwrap : IntKind.i64.wrap ((k : Int) + 1) = ((k + 1 : Nat) : Int) := by rw [IntKind.wrap_i64]; omega
    have hwrap' : IntKind.i64.wrap ((k : Int) + 1) = (k : Int) + 1 := by rw [IntKind.wrap_i64]; omega
    have hui : 0 ≤ i.imm ∧ i.imm < 4294967296 := by rw [← hi]; exact hu _ (at0_mem (by omega) (by omega))
    obtain ⟨j, hj⟩ : ∃ j : Nat, (k : Int) + i.imm = j := ⟨k + i.imm.toNat, by omega⟩
    have hon : IntKind.i64.wrap ((k : Int) + IntKind.i64.wrap i.imm) = (j : Int) := by rw [IntKind.wrap_i64, IntKind.wrap_i64]; omega
    have hmj : ∀ j, j < 128 → (m.map AV.bool)[j]? = some (.bool (m.getD j false)) := fun j h => by rw [List.getElem?_map, List.getD_eq_getElem?_getD, List.getElem?_eq_getElem (by omega)]; rfl
    have hst : ∀ (m : List Bool) (j : Nat), (m.map AV.bool).set j (.bool true) = (m.set j true).map AV.bool := fun m j => by rw [List.map_set]
    have hfl : flowG l.length (i :: l.drop (k + 1)) (k : Int) m = match marks l.length (behindI i k) m with | none => ((k : Int), 10) | some m' => flowG l.length (l.drop (k + 1)) ((k : Int) + 1) m' := by
      rw [flowG, if_neg (fun h => h hc), if_neg (by rw [Int.toNat_natCast, hmg]; simp)]
    have k0 : decide ((k : Int) < 0) = false := decide_eq_false (by omega)
    have k1 : decide ((k : Int) ≥ (l.length : Int)) = false := decide_eq_false (by omega)
    rw [R_range (gf := 35) (caps := [.ptr 3 (s.next + 1 + 1 + 1) [0], .ptr 29 (s.next + 1 + 1) [0]]) (fn := Try.f35) (fb := Try.f35.body.getD .skip) (by rfl) (by kernel_rfl) (by kernel_rfl)]
    unfold Try.f35
    simp only [Option.getD_some]
    have w1 := eq_false (show ¬ s.next + 1 + 1 = s.next + 1 + 1 + 1 by omega)
    have w2 := eq_false (show ¬ s.next + 1 + 1 + 1 = s.next + 1 + 1 by omega)
    simp only [go_sem, hc', r1, r2, r3, r4, ne1, ne2, n0, n1, n2, n3, m0', m1, m2, m3, o0, o1, o2, o3, hik, hmk, hmg, w1, w2, k0, k1, List.contains_cons, List.contains_nil, Bool.not_false, Bool.not_true]
    refine W.idx_at (by omega) (by omega) ?_
    simp only [go_sem, hc', r1, r2, r3, r4, ne1, ne2, n0, n1, n2, n3, m0', m1, m2, m3, o0, o1, o2, o3, hik, hmk, hmg, w1, w2, k0, k1, List.contains_cons, List.contains_nil, Bool.not_false, Bool.not_true, hi, Int.toNat_natCast, g0, g1, g2, g3, v2, v3, v4, u2, u3, u4, List.size_toArray, List.length_cons, List.length_nil, Nat.zero_add]
    by_cases h15 : i.op = 15
    · have h15' := eq_true h15
      simp only [go_sem, hc', r1, r2, r3, r4, ne1, ne2, n0, n1, n2, n3, m0', m1, m2, m3, o0, o1, o2, o3, hik, hmk, hmg, w1, w2, k0, k1, List.contains_cons, List.contains_nil, Bool.not_false, Bool.not_true, hi, Int.toNat_natCast, g0, g1, g2, g3, v2, v3, v4, u2, u3, u4, List.size_toArray, List.length_cons, List.length_nil, Nat.zero_add, h15']
      simp only [go_sem, r20, hwrap]
      refine hK _ _ ?_
      refine ⟨by (try simp only [go_sem, Int.toNat_natCast, List.length_take, *]) <;> first | done | rfl | omega | (simp <;> omega), by (try simp only [go_sem, Int.toNat_natCast, List.length_take, *]) <;> first | done | rfl | omega | (simp <;> omega), by (try simp only [go_sem, Int.toNat_natCast, List.length_take, *]) <;> first | done | rfl | omega | (simp <;> omega), by (try simp only [go_sem, Int.toNat_natCast, List.length_take, *]) <;> first | done | rfl | omega | (simp <;> omega), by (try simp only [go_sem, Int.toNat_natCast, List.length_take, *]) <;> first | done | rfl | omega | (simp <;> omega), by (try simp only [go_sem, Int.toNat_natCast, List.length_take, *]) <;> first | done | rfl | omega | (simp <;> omega), by (try simp only [go_sem, Int.toNat_natCast, List.length_take, *]) <;> first | done | rfl | omega | (simp <;> omega), by simp only [go_sem, hc', r1, r2, r3, r4, ne1, ne2, n0, n1, n2, n3, m0', m1, m2, m3, o0, o1, o2, o3, hik, hmk, hmg, w1, w2, k0, k1, List.contains_cons, List.contains_nil, Bool.not_false, Bool.not_true, hi, Int.toNat_natCast, g0, g1, g2, g3, v2, v3, v4, u2, u3, u4, List.size_toArray, List.length_cons, List.length_nil, Nat.zero_add], by simp only [go_sem, hc', r1, r2, r3, r4, ne1, ne2, n0, n1, n2, n3, m0', m1, m2, m3, o0, o1, o2, o3, hik, hmk, hmg, w1, w2, k0, k1, List.contains_cons, List.contains_nil, Bool.not_false, Bool.not_true, hi, Int.toNat_natCast, g0, g1, g2, g3, v2, v3, v4, u2, u3, u4, List.size_toArray, List.length_cons, List.length_nil, Nat.zero_add], by simp only [go_sem, hc', r1, r2, r3, r4, ne1, ne2, n0, n1, n2, n3, m0', m1, m2, m3, o0, o1, o2, o3, hik, hmk, hmg, w1, w2, k0, k1, List.contains_cons, List.contains_nil, Bool.not_false, Bool.not_true, hi, Int.toNat_natCast, g0, g1, g2, g3, v2, v3, v4, u2, u3, u4, List.size_toArray, List.length_cons, List.length_nil, Nat.zero_add], by simp only [go_sem, hc', r1, r2, r3, r4, ne1, ne2, n0, n1, n2, n3, m0', m1, m2, m3, o0, o1, o2, o3, hik, hmk, hmg, w1, w2, k0, k1, List.contains_cons, List.contains_nil, Bool.not_false, Bool.not_true, hi, Int.toNat_natCast, g0, g1, g2, g3, v2, v3, v4, u2, u3, u4, List.size_toArray, List.length_cons, List.length_nil, Nat.zero_add]; omega, m, hm, by simp only [go_sem, hc', r1, r2, r3, r4, ne1, ne2, n0, n1, n2, n3, m0', m1, m2, m3, o0, o1, o2, o3, hik, hmk, hmg, w1, w2, k0, k1, List.contains_cons, List.contains_nil, Bool.not_false, Bool.not_true, hi, Int.toNat_natCast, g0, g1, g2, g3, v2, v3, v4, u2, u3, u4, List.size_toArray, List.length_cons, List.length_nil, Nat.zero_add], ?_⟩
      rw [he, hfl, behindI, if_pos h15]
      rfl
    have h15' := eq_false h15
    simp only [go_sem, hc', r1, r2, r3, r4, ne1, ne2, n0, n1, n2, n3, m0', m1, m2, m3, o0, o1, o2, o3, hik, hmk, hmg, w1, w2, k0, k1, List.contains_cons, List.contains_nil, Bool.not_false, Bool.not_true, hi, Int.toNat_natCast, g0, g1, g2, g3, v2, v3, v4, u2, u3, u4, List.size_toArray, List.length_cons, List.length_nil, Nat.zero_add, h15']
    refine W.idx_at (by omega) (by omega) ?_
    simp only [go_sem, hc', r1, r2, r3, r4, ne1, ne2, n0, n1, n2, n3, m0', m1, m2, m3, o0, o1, o2, o3, hik, hmk, hmg, w1, w2, k0, k1, List.contains_cons, List.contains_nil, Bool.not_false, Bool.not_true, hi, Int.toNat_natCast, g0, g1, g2, g3, v2, v3, v4, u2, u3, u4, List.size_toArray, List.length_cons, List.length_nil, Nat.zero_add, h15']
    by_cases h5 : i.op = 5
    · have h5' := eq_true h5
      by_cases hge : (j : Int) ≥ (l.length : Int)
      · have hge' := eq_true hge
        simp only [go_sem, hc', r1, r2, r3, r4, ne1, ne2, n0, n1, n2, n3, m0', m1, m2, m3, o0, o1, o2, o3, hik, hmk, hmg, w1, w2, k0, k1, List.contains_cons, List.contains_nil, Bool.not_false, Bool.not_true, hi, Int.toNat_natCast, g0, g1, g2, g3, v2, v3, v4, u2, u3, u4, List.size_toArray, List.length_cons, List.length_nil, Nat.zero_add, h5', hon, hge', hr']
        rw [he, hfl, behindI, if_neg h15, if_pos h5, hj, marks, if_pos hge]
        rfl
      have hge' := eq_false hge
      have x1 := hix 3 j (by omega)
      have x2 := hmj j (by omega)
      simp only [go_sem, hc', r1, r2, r3, r4, ne1, ne2, n0, n1, n2, n3, m0', m1, m2, m3, o0, o1, o2, o3, hik, hmk, hmg, w1, w2, k0, k1, List.contains_cons, List.contains_nil, Bool.not_false, Bool.not_true, hi, Int.toNat_natCast, g0, g1, g2, g3, v2, v3, v4, u2, u3, u4, List.size_toArray, List.length_cons, List.length_nil, Nat.zero_add, h5', hon, hge', x1, x2]
      simp only [go_sem, r20, hwrap]
      refine hK _ _ ?_
      refine ⟨by (try simp only [go_sem, Int.toNat_natCast, List.length_take, *]) <;> first | done | rfl | omega | (simp <;> omega), by (try simp only [go_sem, Int.toNat_natCast, List.length_take, *]) <;> first | done | rfl | omega | (simp <;> omega), by (try simp only [go_sem, Int.toNat_natCast, List.length_take, *]) <;> first | done | rfl | omega | (simp <;> omega), by (try simp only [go_sem, Int.toNat_natCast, List.length_take, *]) <;> first | done | rfl | omega | (simp <;> omega), by (try simp only [go_sem, Int.toNat_natCast, List.length_take, *]) <;> first | done | rfl | omega | (simp <;> omega), by (try simp only [go_sem, Int.toNat_natCast, List.length_take, *]) <;> first | done | rfl | omega | (simp <;> omega), by (try simp only [go_sem, Int.toNat_natCast, List.length_take, *]) <;> first | done | rfl | omega | (simp <;> omega), by simp only [go_sem, hc', r1, r2, r3, r4, ne1, ne2, n0, n1, n2, n3, m0', m1, m2, m3, o0, o1, o2, o3, hik, hmk, hmg, w1, w2, k0, k1, List.contains_cons, List.contains_nil, Bool.not_false, Bool.not_true, hi, Int.toNat_natCast, g0, g1, g2, g3, v2, v3, v4, u2, u3, u4, List.size_toArray, List.length_cons, List.length_nil, Nat.zero_add], by simp only [go_sem, hc', r1, r2, r3, r4, ne1, ne2, n0, n1, n2, n3, m0', m1, m2, m3, o0, o1, o2, o3, hik, hmk, hmg, w1, w2, k0, k1, List.contains_cons, List.contains_nil, Bool.not_false, Bool.not_true, hi, Int.toNat_natCast, g0, g1, g2, g3, v2, v3, v4, u2, u3, u4, List.size_toArray, List.length_cons, List.length_nil, Nat.zero_add], by simp only [go_sem, hc', r1, r2, r3, r4, ne1, ne2, n0, n1, n2, n3, m0', m1, m2, m3, o0, o1, o2, o3, hik, hmk, hmg, w1, w2, k0, k1, List.contains_cons, List.contains_nil, Bool.not_false, Bool.not_true, hi, Int.toNat_natCast, g0, g1, g2, g3, v2, v3, v4, u2, u3, u4, List.size_toArray, List.length_cons, List.length_nil, Nat.zero_add], by simp only [go_sem, hc', r1, r2, r3, r4, ne1, ne2, n0, n1, n2, n3, m0', m1, m2, m3, o0, o1, o2, o3, hik, hmk, hmg, w1, w2, k0, k1, List.contains_cons, List.contains_nil, Bool.not_false, Bool.not_true, hi, Int.toNat_natCast, g0, g1, g2, g3, v2, v3, v4, u2, u3, u4, List.size_toArray, List.length_cons, List.length_nil, Nat.zero_add]; omega, m.set j true, by simp [hm], by simp only [go_sem, hc', r1, r2, r3, r4, ne1, ne2, n0, n1, n2, n3, m0', m1, m2, m3, o0, o1, o2, o3, hik, hmk, hmg, w1, w2, k0, k1, List.contains_cons, List.contains_nil, Bool.not_false, Bool.not_true, hi, Int.toNat_natCast, g0, g1, g2, g3, v2, v3, v4, u2, u3, u4, List.size_toArray, List.length_cons, List.length_nil, Nat.zero_add, hst], ?_⟩
      rw [he, hfl, behindI, if_neg h15, if_pos h5, hj, marks, if_neg hge, marks, Int.toNat_natCast]
      rfl
    have h5' := eq_false h5
    by_cases h67 : i.op = 6 ∨ i.op = 7
    · by_cases h6 : i.op = 6
      · have h6' := eq_true h6
        by_cases hge : ((k : Int) + 1) ≥ (l.length : Int)
        · have hge' := eq_true hge
          simp only [go_sem, hc', r1, r2, r3, r4, ne1, ne2, n0, n1, n2, n3, m0', m1, m2, m3, o0, o1, o2, o3, hik, hmk, hmg, w1, w2, k0, k1, List.contains_cons, List.contains_nil, Bool.not_false, Bool.not_true, hi, Int.toNat_natCast, g0, g1, g2, g3, v2, v3, v4, u2, u3, u4, List.size_toArray, List.length_cons, List.length_nil, Nat.zero_add, h5', h6', hwrap', hge', hr']
          rw [he, hfl, behindI, if_neg h15, if_neg h5, if_pos h67]
          by_cases hz : (k : Int) + i.imm ≠ (k : Int) + 1
          · rw [if_pos hz, marks, if_pos hge]
            rfl
          · rw [if_neg hz, marks, if_pos hge]
            rfl
        have hge' := eq_false hge
        have x1 := hix 3 (k + 1) (by omega)
        have x2 := hmj (k + 1) (by omega)
        simp only [Int.natCast_add, Int.natCast_one] at x1
        by_cases hje : (j : Int) = (k : Int) + 1
        · have hje' := eq_true hje
          have hjn : ((j : Int) != (k : Int) + 1) = false := by simp [hje]
          simp only [go_sem, hc', r1, r2, r3, r4, ne1, ne2, n0, n1, n2, n3, m0', m1, m2, m3, o0, o1, o2, o3, hik, hmk, hmg, w1, w2, k0, k1, List.contains_cons, List.contains_nil, Bool.not_false, Bool.not_true, hi, Int.toNat_natCast, g0, g1, g2, g3, v2, v3, v4, u2, u3, u4, List.size_toArray, List.length_cons, List.length_nil, Nat.zero_add, h5', h6', hwrap', hge', x1, x2, hon, hje', hjn]
          simp only [go_sem, r20, hwrap]
          refine hK _ _ ?_
          refine ⟨by (try simp only [go_sem, Int.toNat_natCast, List.length_take, *]) <;> first | done | rfl | omega | (simp <;> omega), by (try simp only [go_sem, Int.toNat_natCast, List.length_take, *]) <;> first | done | rfl | omega | (simp <;> omega), by (try simp only [go_sem, Int.toNat_natCast, List.length_take, *]) <;> first | done | rfl | omega | (simp <;> omega), by (try simp only [go_sem, Int.toNat_natCast, List.length_take, *]) <;> first | done | rfl | omega | (simp <;> omega), by (try simp only [go_sem, Int.toNat_natCast, List.length_take, *]) <;> first | done | rfl | omega | (simp <;> omega), by (try simp only [go_sem, Int.toNat_natCast, List.length_take, *]) <;> first | done | rfl | omega | (simp <;> omega), by (try simp only [go_sem, Int.toNat_natCast, List.length_take, *]) <;> first | done | rfl | omega | (simp <;> omega), by simp only [go_sem, hc', r1, r2, r3, r4, ne1, ne2, n0, n1, n2, n3, m0', m1, m2, m3, o0, o1, o2, o3, hik, hmk, hmg, w1, w2, k0, k1, List.contains_cons, List.contains_nil, Bool.not_false, Bool.not_true, hi, Int.toNat_natCast, g0, g1, g2, g3, v2, v3, v4, u2, u3, u4, List.size_toArray, List.length_cons, List.length_nil, Nat.zero_add], by simp only [go_sem, hc', r1, r2, r3, r4, ne1, ne2, n0, n1, n2, n3, m0', m1, m2, m3, o0, o1, o2, o3, hik, hmk, hmg, w1, w2, k0, k1, List.contains_cons, List.contains_nil, Bool.not_false, Bool.not_true, hi, Int.toNat_natCast, g0, g1, g2, g3, v2, v3, v4, u2, u3, u4, List.size_toArray, List.length_cons, List.length_nil, Nat.zero_add], by simp only [go_sem, hc', r1, r2, r3, r4, ne1, ne2, n0, n1, n2, n3, m0', m1, m2, m3, o0, o1, o2, o3, hik, hmk, hmg, w1, w2, k0, k1, List.contains_cons, List.contains_nil, Bool.not_false, Bool.not_true, hi, Int.toNat_natCast, g0, g1, g2, g3, v2, v3, v4, u2, u3, u4, List.size_toArray, List.length_cons, List.length_nil, Nat.zero_add], by simp only [go_sem, hc', r1, r2, r3, r4, ne1, ne2, n0, n1, n2, n3, m0', m1, m2, m3, o0, o1, o2, o3, hik, hmk, hmg, w1, w2, k0, k1, List.contains_cons, List.contains_nil, Bool.not_false, Bool.not_true, hi, Int.toNat_natCast, g0, g1, g2, g3, v2, v3, v4, u2, u3, u4, List.size_toArray, List.length_cons, List.length_nil, Nat.zero_add]; omega, m.set (k + 1) true, by simp [hm], by simp only [go_sem, hc', r1, r2, r3, r4, ne1, ne2, n0, n1, n2, n3, m0', m1, m2, m3, o0, o1, o2, o3, hik, hmk, hmg, w1, w2, k0, k1, List.contains_cons, List.contains_nil, Bool.not_false, Bool.not_true, hi, Int.toNat_natCast, g0, g1, g2, g3, v2, v3, v4, u2, u3, u4, List.size_toArray, List.length_cons, List.length_nil, Nat.zero_add, hst], ?_⟩
          rw [he, hfl, behindI, if_neg h15, if_neg h5, if_pos h67, hj, if_neg (fun h => h hje), marks, if_neg hge, marks]
          rfl
        have hje' := eq_false hje
        have hjn : ((j : Int) != (k : Int) + 1) = true := by simp [hje]
        by_cases hg2 : (j : Int) ≥ (l.length : Int)
        · have hg2' := eq_true hg2
          simp only [go_sem, hc', r1, r2, r3, r4, ne1, ne2, n0, n1, n2, n3, m0', m1, m2, m3, o0, o1, o2, o3, hik, hmk, hmg, w1, w2, k0, k1, List.contains_cons, List.contains_nil, Bool.not_false, Bool.not_true, hi, Int.toNat_natCast, g0, g1, g2, g3, v2, v3, v4, u2, u3, u4, List.size_toArray, List.length_cons, List.length_nil, Nat.zero_add, h5', h6', hwrap', hge', x1, x2, hon, hje', hjn, hg2', hr']
          rw [he, hfl, behindI, if_neg h15, if_neg h5, if_pos h67, hj, if_pos hje, marks, if_neg hge, marks, if_pos hg2]
          rfl
        have hg2' := eq_false hg2
        have x3 := hix 3 j (by omega)
        have x4 : ((m.map AV.bool).set (k + 1) (.bool true))[j]? = some (.bool ((m.set (k + 1) true).getD j false)) := by
          rw [hst, List.getElem?_map, List.getD_eq_getElem?_getD, List.getElem?_eq_getElem (by rw [List.length_set]; omega)]
          rfl
        simp only [go_sem, hc', r1, r2, r3, r4, ne1, ne2, n0, n1, n2, n3, m0', m1, m2, m3, o0, o1, o2, o3, hik, hmk, hmg, w1, w2, k0, k1, List.contains_cons, List.contains_nil, Bool.not_false, Bool.not_true, hi, Int.toNat_natCast, g0, g1, g2, g3, v2, v3, v4, u2, u3, u4, List.size_toArray, List.length_cons, List.length_nil, Nat.zero_add, h5', h6', hwrap', hge', x1, x2, hon, hje', hjn, hg2', x3, x4]
        simp only [go_sem, r20, hwrap]
        refine hK _ _ ?_
        refine ⟨by (try simp only [go_sem, Int.toNat_natCast, List.length_take, *]) <;> first | done | rfl | omega | (simp <;> omega), by (try simp only [go_sem, Int.toNat_natCast, List.length_take, *]) <;> first | done | rfl | omega | (simp <;> omega), by (try simp only [go_sem, Int.toNat_natCast, List.length_take, *]) <;> first | done | rfl | omega | (simp <;> omega), by (try simp only [go_sem, Int.toNat_natCast, List.length_take, *]) <;> first | done | rfl | omega | (simp <;> omega), by (try simp only [go_sem, Int.toNat_natCast, List.length_take, *]) <;> first | done | rfl | omega | (simp <;> omega), by (try simp only [go_sem, Int.toNat_natCast, List.length_take, *]) <;> first | done | rfl | omega | (simp <;> omega), by (try simp only [go_sem, Int.toNat_natCast, List.length_take, *]) <;> first | done | rfl | omega | (simp <;> omega), by simp only [go_sem, hc', r1, r2, r3, r4, ne1, ne2, n0, n1, n2, n3, m0', m1, m2, m3, o0, o1, o2, o3, hik, hmk, hmg, w1, w2, k0, k1, List.contains_cons, List.contains_nil, Bool.not_false, Bool.not_true, hi, Int.toNat_natCast, g0, g1, g2, g3, v2, v3, v4, u2, u3, u4, List.size_toArray, List.length_cons, List.length_nil, Nat.zero_add], by simp only [go_sem, hc', r1, r2, r3, r4, ne1, ne2, n0, n1, n2, n3, m0', m1, m2, m3, o0, o1, o2, o3, hik, hmk, hmg, w1, w2, k0, k1, List.contains_cons, List.contains_nil, Bool.not_false, Bool.not_true, hi, Int.toNat_natCast, g0, g1, g2, g3, v2, v3, v4, u2, u3, u4, List.size_toArray, List.length_cons, List.length_nil, Nat.zero_add], by simp only [go_sem, hc', r1, r2, r3, r4, ne1, ne2, n0, n1, n2, n3, m0', m1, m2, m3, o0, o1, o2, o3, hik, hmk, hmg, w1, w2, k0, k1, List.contains_cons, List.contains_nil, Bool.not_false, Bool.not_true, hi, Int.toNat_natCast, g0, g1, g2, g3, v2, v3, v4, u2, u3, u4, List.size_toArray, List.length_cons, List.length_nil, Nat.zero_add], by simp only [go_sem, hc', r1, r2, r3, r4, ne1, ne2, n0, n1, n2, n3, m0', m1, m2, m3, o0, o1, o2, o3, hik, hmk, hmg, w1, w2, k0, k1, List.contains_cons, List.contains_nil, Bool.not_false, Bool.not_true, hi, Int.toNat_natCast, g0, g1, g2, g3, v2, v3, v4, u2, u3, u4, List.size_toArray, List.length_cons, List.length_nil, Nat.zero_add]; omega, (m.set (k + 1) true).set j true, by simp [hm], by simp only [go_sem, hc', r1, r2, r3, r4, ne1, ne2, n0, n1, n2, n3, m0', m1, m2, m3, o0, o1, o2, o3, hik, hmk, hmg, w1, w2, k0, k1, List.contains_cons, List.contains_nil, Bool.not_false, Bool.not_true, hi, Int.toNat_natCast, g0, g1, g2, g3, v2, v3, v4, u2, u3, u4, List.size_toArray, List.length_cons, List.length_nil, Nat.zero_add, hst], ?_⟩
        rw [he, hfl, behindI, if_neg h15, if_neg h5, if_pos h67, hj, if_pos hje, marks, if_neg hge, marks, if_neg hg2, marks, Int.toNat_natCast]
        rfl
      have h6' := eq_false h6
      have h7' := eq_true (show i.op = 7 by omega)
      by_cases hge : ((k : Int) + 1) ≥ (l.length : Int)
      · have hge' := eq_true hge
        simp only [go_sem, hc', r1, r2, r3, r4, ne1, ne2, n0, n1, n2, n3, m0', m1, m2, m3, o0, o1, o2, o3, hik, hmk, hmg, w1, w2, k0, k1, List.contains_cons, List.contains_nil, Bool.not_false, Bool.not_true, hi, Int.toNat_natCast, g0, g1, g2, g3, v2, v3, v4, u2, u3, u4, List.size_toArray, List.length_cons, List.length_nil, Nat.zero_add, h5', h6', h7', hwrap', hge', hr']
        rw [he, hfl, behindI, if_neg h15, if_neg h5, if_pos h67]
        by_cases hz : (k : Int) + i.imm ≠ (k : Int) + 1
        · rw [if_pos hz, marks, if_pos hge]
          rfl
        · rw [if_neg hz, marks, if_pos hge]
          rfl
      have hge' := eq_false hge
      have x1 := hix 3 (k + 1) (by omega)
      have x2 := hmj (k + 1) (by omega)
      simp only [Int.natCast_add, Int.natCast_one] at x1
      by_cases hje : (j : Int) = (k : Int) + 1
      · have hje' := eq_true hje
        have hjn : ((j : Int) != (k : Int) + 1) = false := by simp [hje]
        simp only [go_sem, hc', r1, r2, r3, r4, ne1, ne2, n0, n1, n2, n3, m0', m1, m2, m3, o0, o1, o2, o3, hik, hmk, hmg, w1, w2, k0, k1, List.contains_cons, List.contains_nil, Bool.not_false, Bool.not_true, hi, Int.toNat_natCast, g0, g1, g2, g3, v2, v3, v4, u2, u3, u4, List.size_toArray, List.length_cons, List.length_nil, Nat.zero_add, h5', h6', h7', hwrap', hge', x1, x2, hon, hje', hjn]
        simp only [go_sem, r20, hwrap]
        refine hK _ _ ?_
        refine ⟨by (try simp only [go_sem, Int.toNat_natCast, List.length_take, *]) <;> first | done | rfl | omega | (simp <;> omega), by (try simp only [go_sem, Int.toNat_natCast, List.length_take, *]) <;> first | done | rfl | omega | (simp <;> omega), by (try simp only [go_sem, Int.toNat_natCast, List.length_take, *]) <;> first | done | rfl | omega | (simp <;> omega), by (try simp only [go_sem, Int.toNat_natCast, List.length_take, *]) <;> first | done | rfl | omega | (simp <;> omega), by (try simp only [go_sem, Int.toNat_natCast, List.length_take, *]) <;> first | done | rfl | omega | (simp <;> omega), by (try simp only [go_sem, Int.toNat_natCast, List.length_take, *]) <;> first | done | rfl | omega | (simp <;> omega), by (try simp only [go_sem, Int.toNat_natCast, List.length_take, *]) <;> first | done | rfl | omega | (simp <;> omega), by simp only [go_sem, hc', r1, r2, r3, r4, ne1, ne2, n0, n1, n2, n3, m0', m1, m2, m3, o0, o1, o2, o3, hik, hmk, hmg, w1, w2, k0, k1, List.contains_cons, List.contains_nil, Bool.not_false, Bool.not_true, hi, Int.toNat_natCast, g0, g1, g2, g3, v2, v3, v4, u2, u3, u4, List.size_toArray, List.length_cons, List.length_nil, Nat.zero_add], by simp only [go_sem, hc', r1, r2, r3, r4, ne1, ne2, n0, n1, n2, n3, m0', m1, m2, m3, o0, o1, o2, o3, hik, hmk, hmg, w1, w2, k0, k1, List.contains_cons, List.contains_nil, Bool.not_false, Bool.not_true, hi, Int.toNat_natCast, g0, g1, g2, g3, v2, v3, v4, u2, u3, u4, List.size_toArray, List.length_cons, List.length_nil, Nat.zero_add], by simp only [go_sem, hc', r1, r2, r3, r4, ne1, ne2, n0, n1, n2, n3, m0', m1, m2, m3, o0, o1, o2, o3, hik, hmk, hmg, w1, w2, k0, k1, List.contains_cons, List.contains_nil, Bool.not_false, Bool.not_true, hi, Int.toNat_natCast, g0, g1, g2, g3, v2, v3, v4, u2, u3, u4, List.size_toArray, List.length_cons, List.length_nil, Nat.zero_add], by simp only [go_sem, hc', r1, r2, r3, r4, ne1, ne2, n0, n1, n2, n3, m0', m1, m2, m3, o0, o1, o2, o3, hik, hmk, hmg, w1, w2, k0, k1, List.contains_cons, List.contains_nil, Bool.not_false, Bool.not_true, hi, Int.toNat_natCast, g0, g1, g2, g3, v2, v3, v4, u2, u3, u4, List.size_toArray, List.length_cons, List.length_nil, Nat.zero_add]; omega, m.set (k + 1) true, by simp [hm], by simp only [go_sem, hc', r1, r2, r3, r4, ne1, ne2, n0, n1, n2, n3, m0', m1, m2, m3, o0, o1, o2, o3, hik, hmk, hmg, w1, w2, k0, k1, List.contains_cons, List.contains_nil, Bool.not_false, Bool.not_true, hi, Int.toNat_natCast, g0, g1, g2, g3, v2, v3, v4, u2, u3, u4, List.size_toArray, List.length_cons, List.length_nil, Nat.zero_add, hst], ?_⟩
        rw [he, hfl, behindI, if_neg h15, if_neg h5, if_pos h67, hj, if_neg (fun h => h hje), marks, if_neg hge, marks]
        rfl
      have hje' := eq_false hje
      have hjn : ((j : Int) != (k : Int) + 1) = true := by simp [hje]
      by_cases hg2 : (j : Int) ≥ (l.length : Int)
      · have hg2' := eq_true hg2
        simp only [go_sem, hc', r1, r2, r3, r4, ne1, ne2, n0, n1, n2, n3, m0', m1, m2, m3, o0, o1, o2, o3, hik, hmk, hmg, w1, w2, k0, k1, List.contains_cons, List.contains_nil, Bool.not_false, Bool.not_true, hi, Int.toNat_natCast, g0, g1, g2, g3, v2, v3, v4, u2, u3, u4, List.size_toArray, List.length_cons, List.length_nil, Nat.zero_add, h5', h6', h7', hwrap', hge', x1, x2, hon, hje', hjn, hg2', hr']
        rw [he, hfl, behindI, if_neg h15, if_neg h5, if_pos h67, hj, if_pos hje, marks, if_neg hge, marks, if_pos hg2]
        rfl
      have hg2' := eq_false hg2
      have x3 := hix 3 j (by omega)
      have x4 : ((m.map AV.bool).set (k + 1) (.bool true))[j]? = some (.bool ((m.set (k + 1) true).getD j false)) := by
        rw [hst, List.getElem?_map, List.getD_eq_getElem?_getD, List.getElem?_eq_getElem (by rw [List.length_set]; omega)]
        rfl
      simp only [go_sem, hc', r1, r2, r3, r4, ne1, ne2, n0, n1, n2, n3, m0', m1, m2, m3, o0, o1, o2, o3, hik, hmk, hmg, w1, w2, k0, k1, List.contains_cons, List.contains_nil, Bool.not_false, Bool.not_true, hi, Int.toNat_natCast, g0, g1, g2, g3, v2, v3, v4, u2, u3, u4, List.size_toArray, List.length_cons, List.length_nil, Nat.zero_add, h5', h6', h7', hwrap', hge', x1, x2, hon, hje', hjn, hg2', x3, x4]
      simp only [go_sem, r20, hwrap]
      refine hK _ _ ?_
      refine ⟨by (try simp only [go_sem, Int.toNat_natCast, List.length_take, *]) <;> first | done | rfl | omega | (simp <;> omega), by (try simp only [go_sem, Int.toNat_natCast, List.length_take, *]) <;> first | done | rfl | omega | (simp <;> omega), by (try simp only [go_sem, Int.toNat_natCast, List.length_take, *]) <;> first | done | rfl | omega | (simp <;> omega), by (try simp only [go_sem, Int.toNat_natCast, List.length_take, *]) <;> first | done | rfl | omega | (simp <;> omega), by (try simp only [go_sem, Int.toNat_natCast, List.length_take, *]) <;> first | done | rfl | omega | (simp <;> omega), by (try simp only [go_sem, Int.toNat_natCast, List.length_take, *]) <;> first | done | rfl | omega | (simp <;> omega), by (try simp only [go_sem, Int.toNat_natCast, List.length_take, *]) <;> first | done | rfl | omega | (simp <;> omega), by simp only [go_sem, hc', r1, r2, r3, r4, ne1, ne2, n0, n1, n2, n3, m0', m1, m2, m3, o0, o1, o2, o3, hik, hmk, hmg, w1, w2, k0, k1, List.contains_cons, List.contains_nil, Bool.not_false, Bool.not_true, hi, Int.toNat_natCast, g0, g1, g2, g3, v2, v3, v4, u2, u3, u4, List.size_toArray, List.length_cons, List.length_nil, Nat.zero_add], by simp only [go_sem, hc', r1, r2, r3, r4, ne1, ne2, n0, n1, n2, n3, m0', m1, m2, m3, o0, o1, o2, o3, hik, hmk, hmg, w1, w2, k0, k1, List.contains_cons, List.contains_nil, Bool.not_false, Bool.not_true, hi, Int.toNat_natCast, g0, g1, g2, g3, v2, v3, v4, u2, u3, u4, List.size_toArray, List.length_cons, List.length_nil, Nat.zero_add], by simp only [go_sem, hc', r1, r2, r3, r4, ne1, ne2, n0, n1, n2, n3, m0', m1, m2, m3, o0, o1, o2, o3, hik, hmk, hmg, w1, w2, k0, k1, List.contains_cons, List.contains_nil, Bool.not_false, Bool.not_true, hi, Int.toNat_natCast, g0, g1, g2, g3, v2, v3, v4, u2, u3, u4, List.size_toArray, List.length_cons, List.length_nil, Nat.zero_add], by simp only [go_sem, hc', r1, r2, r3, r4, ne1, ne2, n0, n1, n2, n3, m0', m1, m2, m3, o0, o1, o2, o3, hik, hmk, hmg, w1, w2, k0, k1, List.contains_cons, List.contains_nil, Bool.not_false, Bool.not_true, hi, Int.toNat_natCast, g0, g1, g2, g3, v2, v3, v4, u2, u3, u4, List.size_toArray, List.length_cons, List.length_nil, Nat.zero_add]; omega, (m.set (k + 1) true).set j true, by simp [hm], by simp only [go_sem, hc', r1, r2, r3, r4, ne1, ne2, n0, n1, n2, n3, m0', m1, m2, m3, o0, o1, o2, o3, hik, hmk, hmg, w1, w2, k0, k1, List.contains_cons, List.contains_nil, Bool.not_false, Bool.not_true, hi, Int.toNat_natCast, g0, g1, g2, g3, v2, v3, v4, u2, u3, u4, List.size_toArray, List.length_cons, List.length_nil, Nat.zero_add, hst], ?_⟩
      rw [he, hfl, behindI, if_neg h15, if_neg h5, if_pos h67, hj, if_pos hje, marks, if_neg hge, marks, if_neg hg2, marks, Int.toNat_natCast]
      rfl
    have h6' := eq_false (show ¬ i.op = 6 by omega)
    have h7' := eq_false (show ¬ i.op = 7 by omega)
    by_cases hge : ((k : Int) + 1) ≥ (l.length : Int)
    · have hge' := eq_true hge
      simp only [go_sem, hc', r1, r2, r3, r4, ne1, ne2, n0, n1, n2, n3, m0', m1, m2, m3, o0, o1, o2, o3, hik, hmk, hmg, w1, w2, k0, k1, List.contains_cons, List.contains_nil, Bool.not_false, Bool.not_true, hi, Int.toNat_natCast, g0, g1, g2, g3, v2, v3, v4, u2, u3, u4, List.size_toArray, List.length_cons, List.length_nil, Nat.zero_add, h5', h6', h7', hwrap', hge', hr']
      rw [he, hfl, behindI, if_neg h15, if_neg h5, if_neg h67, marks, if_pos hge]
      rfl
    have hge' := eq_false hge
    have x1 := hix 3 (k + 1) (by omega)
    have x2 := hmj (k + 1) (by omega)
    simp only [Int.natCast_add, Int.natCast_one] at x1
    simp only [go_sem, hc', r1, r2, r3, r4, ne1, ne2, n0, n1, n2, n3, m0', m1, m2, m3, o0, o1, o2, o3, hik, hmk, hmg, w1, w2, k0, k1, List.contains_cons, List.contains_nil, Bool.not_false, Bool.not_true, hi, Int.toNat_natCast, g0, g1, g2, g3, v2, v3, v4, u2, u3, u4, List.size_toArray, List.length_cons, List.length_nil, Nat.zero_add, h5', h6', h7', hwrap', hge', x1, x2]
    simp only [go_sem, r20, hwrap]
    refine hK _ _ ?_
    refine ⟨by (try simp only [go_sem, Int.toNat_natCast, List.length_take, *]) <;> first | done | rfl | omega | (simp <;> omega), by (try simp only [go_sem, Int.toNat_natCast, List.length_take, *]) <;> first | done | rfl | omega | (simp <;> omega), by (try simp only [go_sem, Int.toNat_natCast, List.length_take, *]) <;> first | done | rfl | omega | (simp <;> omega), by (try simp only [go_sem, Int.toNat_natCast, List.length_take, *]) <;> first | done | rfl | omega | (simp <;> omega), by (try simp only [go_sem, Int.toNat_natCast, List.length_take, *]) <;> first | done | rfl | omega | (simp <;> omega), by (try simp only [go_sem, Int.toNat_natCast, List.length_take, *]) <;> first | done | rfl | omega | (simp <;> omega), by (try simp only [go_sem, Int.toNat_natCast, List.length_take, *]) <;> first | done | rfl | omega | (simp <;> omega), by simp only [go_sem, hc', r1, r2, r3, r4, ne1, ne2, n0, n1, n2, n3, m0', m1, m2, m3, o0, o1, o2, o3, hik, hmk, hmg, w1, w2, k0, k1, List.contains_cons, List.contains_nil, Bool.not_false, Bool.not_true, hi, Int.toNat_natCast, g0, g1, g2, g3, v2, v3, v4, u2, u3, u4, List.size_toArray, List.length_cons, List.length_nil, Nat.zero_add], by simp only [go_sem, hc', r1, r2, r3, r4, ne1, ne2, n0, n1, n2, n3, m0', m1, m2, m3, o0, o1, o2, o3, hik, hmk, hmg, w1, w2, k0, k1, List.contains_cons, List.contains_nil, Bool.not_false, Bool.not_true, hi, Int.toNat_natCast, g0, g1, g2, g3, v2, v3, v4, u2, u3, u4, List.size_toArray, List.length_cons, List.length_nil, Nat.zero_add], by simp only [go_sem, hc', r1, r2, r3, r4, ne1, ne2, n0, n1, n2, n3, m0', m1, m2, m3, o0, o1, o2, o3, hik, hmk, hmg, w1, w2, k0, k1, List.contains_cons, List.contains_nil, Bool.not_false, Bool.not_true, hi, Int.toNat_natCast, g0, g1, g2, g3, v2, v3, v4, u2, u3, u4, List.size_toArray, List.length_cons, List.length_nil, Nat.zero_add], by simp only [go_sem, hc', r1, r2, r3, r4, ne1, ne2, n0, n1, n2, n3, m0', m1, m2, m3, o0, o1, o2, o3, hik, hmk, hmg, w1, w2, k0, k1, List.contains_cons, List.contains_nil, Bool.not_false, Bool.not_true, hi, Int.toNat_natCast, g0, g1, g2, g3, v2, v3, v4, u2, u3, u4, List.size_toArray, List.length_cons, List.length_nil, Nat.zero_add]; omega, m.set (k + 1) true, by simp [hm], by simp only [go_sem, hc', r1, r2, r3, r4, ne1, ne2, n0, n1, n2, n3, m0', m1, m2, m3, o0, o1, o2, o3, hik, hmk, hmg, w1, w2, k0, k1, List.contains_cons, List.contains_nil, Bool.not_false, Bool.not_true, hi, Int.toNat_natCast, g0, g1, g2, g3, v2, v3, v4, u2, u3, u4, List.size_toArray, List.length_cons, List.length_nil, Nat.zero_add, hst], ?_⟩
    rw [he, hfl, behindI, if_neg h15, if_neg h5, if_neg h67, marks, if_neg hge, marks]
    rfl
  · rintro ρ s ⟨r1, r2, r3, r4, r18, r19, r20, o0, o1, o2, hn, m, hm, o3, he⟩ K' hx' hr'
    have hlt := eq_false (show ¬ ((l.length : Nat) : Int) < (l.length : Nat) by omega)
    simp only [go_sem, hx', r1, r2, r3, r4, r18, r19, r20, hlt, o0, o1, o2, o3]
    rw [he, List.drop_length]
    rfl
  · show l.length < 0 + 9223372036854775900
    omega
  · refine ⟨by (try simp only [go_sem, Int.toNat_natCast, List.length_take, *]) <;> first | done | rfl | omega | (simp <;> omega), by (try simp only [go_sem, Int.toNat_natCast, List.length_take, *]) <;> first | done | rfl | omega | (simp <;> omega), by (try simp only [go_sem, Int.toNat_natCast, List.length_take, *]) <;> first | done | rfl | omega | (simp <;> omega), by (try simp only [go_sem, Int.toNat_natCast, List.length_take, *]) <;> first | done | rfl | omega | (simp <;> omega), by (try simp only [go_sem, Int.toNat_natCast, List.length_take, *]) <;> first | done | rfl | omega | (simp <;> omega), by (try simp only [go_sem, Int.toNat_natCast, List.length_take, *]) <;> first | done | rfl | omega | (simp <;> omega), by (try simp only [go_sem, Int.toNat_natCast, List.length_take, *]) <;> first | done | rfl | omega | (simp <;> omega), by rfl, by rfl, by rfl, by show 3 < 4; omega, m0, by rw [← hm0]; rfl, by rw [← hm0]; rfl, by rw [List.drop_zero]; rfl⟩
end Go.Proofs.Yticlihmbikcohaa.Va

/- chapter 19: what the walker asks of what it knows -/
namespace Go.Proofs.Yticlihmbikcohaa.Va
open Go
set_option linter.unusedVariables false
set_option linter.unusedSimpArgs false
set_option maxRecDepth 100000
theorem notNum_c (d : Nat) (w : Wht) : evalF Try.prog CC (d + 1) 51 [encW w] St.empty = some (.bool (!decide (w.kind = 1)), St.empty) := by
  refine wp_eq ?_
  rw [run_51 _ _ _ (by simp)]; unfold Try.f51; simp only [Option.getD_some]
  simp only [go_sem, *]
  rfl
def numB (w : Wht) : Bool := decide (w.kind = 1)
theorem index_c (d : Nat) (b : Bool) (ws : List Wht) (σ : St) (hl : ws.length ≤ 9223372036854775807) : Wp (fun x => ∃ n σ', x = some (.int .i64 n, σ') ∧ decide (n ≥ 0) = !ws.all numB) (evalF Try.prog CC (d + 2) 72 [.list 38 b (ws.map encW) none, .func 51 []] σ) := by
  have p1 := fun d w => notNum_c d w
  simp only [encW] at p1
  rw [run_72 _ _ _ (by simp)]; unfold Try.f72; simp only [Option.getD_some]
  simp only [go_sem, *]
  refine W.iter_rule (fun i ρ s => ρ 0 = .list 38 b (ws.map encW) none ∧ ρ 1 = .func 51 [] ∧ ρ 7 = .int .i64 ws.length ∧ ρ 8 = .int .i64 i ∧ (ws.take i).all numB = true) ws.length ?_ ?_ _ 0 _ _ (Nat.zero_le _) ?_ ?_
  · rintro i ρ s hi ⟨r0, r1, r7, r8, ha⟩ K' hK hx' hr'
    have hlt := eq_true (show ((i : Nat) : Int) < (ws.length : Nat) by omega)
    have hwrap : IntKind.i64.wrap ((i : Int) + 1) = ((i + 1 : Nat) : Int) := by rw [IntKind.wrap_i64]; omega
    have hd : ws.take (i + 1) = ws.take i ++ [at0 ws (i : Int)] := by rw [List.take_add_one, at0_nat hi, List.getElem?_eq_getElem hi]; rfl
    have hm : at0 ws (i : Int) ∈ ws := at0_mem (by omega) (by omega)
    simp only [go_sem, r0, r1, r7, r8, hlt]
    refine W.idx_at (by omega) (by omega) ?_
    simp only [go_sem, r0, r1, r7, r8, Int.toNat_natCast, List.append_nil]
    generalize at0 ws (i : Int) = w at hd hm ⊢
    simp only [go_sem, p1, r0, r1, r7, r8]
    by_cases hk : w.kind = 1
    · have hk' := eq_true hk
      simp only [go_sem, hk', r8, hwrap]
      refine hK _ _ ?_
      exact ⟨by (try simp only [go_sem, Int.toNat_natCast, List.length_take, *]) <;> first | done | rfl | omega | (simp <;> omega), by (try simp only [go_sem, Int.toNat_natCast, List.length_take, *]) <;> first | done | rfl | omega | (simp <;> omega), by (try simp only [go_sem, Int.toNat_natCast, List.length_take, *]) <;> first | done | rfl | omega | (simp <;> omega), by (try simp only [go_sem, Int.toNat_natCast, List.length_take, *]) <;> first | done | rfl | omega | (simp <;> omega), by rw [hd, List.all_append, ha]; simp [numB, hk]⟩
    · have hk' := eq_false hk
      simp only [go_sem, hk', hr', r8]
      refine ⟨_, _, rfl, ?_⟩
      have : ws.all numB = false := List.all_eq_false.2 ⟨w, hm, by simp [numB, hk]⟩
      rw [this]
      simp
  · rintro ρ s ⟨r0, r1, r7, r8, ha⟩ K' hx' hr'
    have hlt := eq_false (show ¬ ((ws.length : Nat) : Int) < (ws.length : Nat) by omega)
    simp only [go_sem, hx', r0, r1, r7, r8, hlt]
    refine ⟨_, _, rfl, ?_⟩
    rw [List.take_length] at ha
    rw [ha]
    rfl
  · show ws.length < 0 + 9223372036854775900
    omega
  · exact ⟨by (try simp only [go_sem, Int.toNat_natCast, List.length_take, *]) <;> first | done | rfl | omega | (simp <;> omega), by (try simp only [go_sem, Int.toNat_natCast, List.length_take, *]) <;> first | done | rfl | omega | (simp <;> omega), by (try simp only [go_sem, Int.toNat_natCast, List.length_take, *]) <;> first | done | rfl | omega | (simp <;> omega), by (try simp only [go_sem, Int.toNat_natCast, List.length_take, *]) <;> first | done | rfl | omega | (simp <;> omega), by rfl⟩
theorem are_c (d : Nat) (b : Bool) (ws : List Wht) (hl : ws.length ≤ 9223372036854775807) : evalF Try.prog CC (d + 4) 39 [.list 38 b (ws.map encW) none] St.empty = some (.bool (ws.all numB), St.empty) := by
  obtain ⟨n, s1, h1, h2⟩ := index_c d b ws St.empty hl
  have q1 : ∃ s2, evalF Try.prog CC (d + 3) 50 [.list 38 b (ws.map encW) none, .func 51 []] St.empty = some (.bool (!ws.all numB), s2) := by
    have : Wp (fun x => ∃ s2, x = some (.bool (!ws.all numB), s2)) (evalF Try.prog CC (d + 3) 50 [.list 38 b (ws.map encW) none, .func 51 []] St.empty) := by
      rw [run_50 _ _ _ (by simp)]; unfold Try.f50; simp only [Option.getD_some]
      simp only [go_sem, h1, h2]
      exact ⟨_, rfl⟩
    exact this
  obtain ⟨s2, q2⟩ := q1
  refine wp_eq ?_
  rw [run_39 _ _ _ (by simp)]; unfold Try.f39; simp only [Option.getD_some]
  simp only [go_sem, q2]
  rfl
def exitS (s : Sta) : Int := if s.refs.length > 0 then 8 else if s.lock ≠ 0 then 9 else if s.sec = true then 9 else if numB (at0 s.regs 0) = true then 0 else 7
theorem exit_c (d : Nat) (s : Sta) (r : AV) (h1 : RefP r s.refs) (o1 : SOk s) : evalF Try.prog CC (d + 6) 44 [encS s r] St.empty = some (.int .i64 (exitS s), St.empty) := by
  have l1 := fun m => h1.len m
  have hix := ix_reg 0 [0, 0] 0 (by omega)
  simp only [List.cons_append, List.nil_append, Int.natCast_zero] at hix
  have g0 : (s.regs.map encW)[0]? = some (encW (at0 s.regs 0)) := by
    rw [List.getElem?_map, List.getElem?_eq_getElem (by rw [o1.1]; omega)]
    simp [at0, o1.1]
  have q := fun d w => are_c d false [w] (by simp)
  simp only [List.map_cons, List.map_nil, encW] at q g0
  refine wp_eq ?_
  rw [run_44 _ _ _ (by simp)]; unfold Try.f44; simp only [Option.getD_some]
  unfold exitS
  by_cases hr : s.refs.length > 0
  · have hr' := eq_true (show ((s.refs.length : Nat) : Int) > 0 by omega)
    rw [if_pos hr]
    simp only [go_sem, l1, hr']
    rfl
  have hr' := eq_false (show ¬ ((s.refs.length : Nat) : Int) > 0 by omega)
  rw [if_neg hr]
  by_cases hk : s.lock = 0
  case neg =>
    have hk' := eq_false hk
    rw [if_pos hk]
    simp only [go_sem, l1, hr', hk']
    rfl
  have hk' := eq_true hk
  rw [if_neg (fun h => h hk)]
  cases hx : s.sec
  case true =>
    rw [if_pos rfl]
    simp only [go_sem, l1, hr', hk', hx]
    rfl
  rw [if_neg (by simp)]
  generalize at0 s.regs 0 = w at g0 ⊢
  cases hn : numB w
  · have hz : [w].all numB = false := by simp [hn]
    rw [if_neg (by simp)]
    simp only [go_sem, l1, hr', hk', hx, hix, g0, q, hz]
    rfl
  · have hz : [w].all numB = true := by simp [hn]
    rw [if_pos rfl]
    simp only [go_sem, l1, hr', hk', hx, hix, g0, q, hz]
    rfl
end Go.Proofs.Yticlihmbikcohaa.Va

/- chapter 19: the walker's fields -/
namespace Go.Proofs.Yticlihmbikcohaa.Va
open Go
set_option linter.unusedVariables false
set_option linter.unusedSimpArgs false
set_option maxRecDepth 100000
def noF : Fld := ⟨0, 0, 0, 0, 0⟩
def fldAt (l : List Typ) (t i : Int) : Fld := if t < 0 then noF else if t ≥ l.length then noF else if i < 0 then noF else if i ≥ (at0 l t).fields.length then noF else at0 (at0 l t).fields i
end Go.Proofs.Yticlihmbikcohaa.Va

/- chapter 19: what is split, what is merged -/
namespace Go.Proofs.Yticlihmbikcohaa.Va
open Go
set_option linter.unusedVariables false
set_option linter.unusedSimpArgs false
set_option maxRecDepth 100000
def nullW : Wht := ⟨2, 0, 0, 0, false, 0, 0⟩
def splitS (w : Wht) (none : Bool) : Wht × Bool :=
  if w.kind = 2 ∧ none = true then (nullW, true)
  else if 3 ≤ w.kind ∧ w.kind ≤ 6 then
    if none = true then (if w.maybe = true then (nullW, true) else (junk, false)) else ({ w with maybe := false }, true)
  else (junk, false)
def allP : Int × Int := (0, 18446744073709551615)
theorem all_c (d : Nat) : evalF Try.prog CC (d + 1) 24 [] St.empty = some (.agg 36 [.int .u64 0, .int .u64 18446744073709551615], St.empty) := by
  refine wp_eq ?_
  rw [run_24 _ _ _ (by simp)]; unfold Try.f24; simp only [Option.getD_some]
  simp only [go_sem, *]
  rfl
theorem of_c (d : Nat) (n : Int) : evalF Try.prog CC (d + 1) 38 [.int .u64 n] St.empty = some (.agg 36 [.int .u64 n, .int .u64 n], St.empty) := by
  refine wp_eq ?_
  rw [run_38 _ _ _ (by simp)]; unfold Try.f38; simp only [Option.getD_some]
  simp only [go_sem, *]
  rfl
def numW (lo hi : Int) : Wht := ⟨1, 0, 0, 0, false, lo, hi⟩
theorem number_c (d : Nat) (lo hi : Int) : evalF Try.prog CC (d + 1) 37 [.agg 36 [.int .u64 lo, .int .u64 hi]] St.empty = some (encW (numW lo hi), St.empty) := by
  refine wp_eq ?_
  rw [run_37 _ _ _ (by simp)]; unfold Try.f37; simp only [Option.getD_some]
  simp only [go_sem, *]
  rfl
def startS : Sta := ⟨[junk, numW 0 18446744073709551615, junk, junk, junk, junk, junk, junk, junk, junk], List.replicate 8 junk, [], 0, false, 1⟩
theorem start_c (d : Nat) : evalF Try.prog CC (d + 2) 16 [] St.empty = some (encS startS (.mt true), St.empty) := by
  show evalF Try.prog CC (d + 2) 16 [] St.empty = _
  kernel_rfl
theorem equal_c (d : Nat) (r1 r2 : AV) (xs ys : List Int) (h1 : RefP r1 xs) (h2 : RefP r2 ys) (hl : xs.length ≤ 17592186044416) : evalF Try.prog CC (d + 1) 45 [r1, r2] St.empty = some (.bool (decide (xs = ys)), St.empty) := by
  have l1 := fun m => h1.len m
  have l2 := fun m => h2.len m
  refine wp_eq ?_
  rw [run_45 _ _ _ (by simp)]; unfold Try.f45; simp only [Option.getD_some]
  by_cases hlen : xs.length = ys.length
  case neg =>
    have hd : decide (xs = ys) = false := by
      rw [decide_eq_false_iff_not]
      intro h
      exact hlen (by rw [h])
    have hlen' : ¬ (xs.length : Int) = (ys.length : Int) := by omega
    rw [hd]
    simp only [go_sem, l1, l2, hlen']
    rfl
  have hlen' : (xs.length : Int) = (ys.length : Int) := by omega
  simp only [go_sem, l1, l2, hlen']
  refine W.iter_rule (fun i ρ s => ρ 0 = r1 ∧ ρ 1 = r2 ∧ ρ 12 = .int .i64 ys.length ∧ ρ 13 = .int .i64 i ∧ xs.take i = ys.take i) ys.length ?_ ?_ _ 0 _ _ (Nat.zero_le _) ?_ ?_
  · rintro i ρ s hi ⟨h0, h1', h12, h13, ht⟩ K' hK hx hr
    have hlt : (i : Int) < (ys.length : Int) := by omega
    have hix : i < xs.length := by omega
    have hwrap : IntKind.i64.wrap ((i : Int) + 1) = ((i + 1 : Nat) : Int) := by rw [IntKind.wrap_i64]; omega
    have i1 := h1.idx hix
    have i2 := h2.idx hi
    have t1 : xs.take (i + 1) = xs.take i ++ [xs[i]] := List.take_succ_eq_append_getElem hix
    have t2 : ys.take (i + 1) = ys.take i ++ [ys[i]] := List.take_succ_eq_append_getElem hi
    have hxy : xs = ys → xs[i] = ys[i] := fun h => by subst h; rfl
    generalize xs[i] = u at i1 t1 hxy
    generalize ys[i] = v at i2 t2 hxy
    simp only [go_sem, h0, h1', h12, h13, hlt]
    refine W.br_ok (by kernel_rfl) ?_
    by_cases huv : u = v
    · subst huv
      simp only [go_sem, h0, h1', h12, h13, hlt, i1, i2, hwrap]
      refine hK _ _ ?_
      exact ⟨by (try simp only [go_sem, Int.toNat_natCast, List.length_take, *]) <;> first | done | rfl | omega | (simp <;> omega), by (try simp only [go_sem, Int.toNat_natCast, List.length_take, *]) <;> first | done | rfl | omega | (simp <;> omega), by (try simp only [go_sem, Int.toNat_natCast, List.length_take, *]) <;> first | done | rfl | omega | (simp <;> omega), by (try simp only [go_sem, Int.toNat_natCast, List.length_take, *]) <;> first | done | rfl | omega | (simp <;> omega), by rw [t1, t2, ht]⟩
    · have hd : decide (xs = ys) = false := by
        rw [decide_eq_false_iff_not]
        exact fun h => huv (hxy h)
      rw [hd]
      simp only [go_sem, h0, h1', h12, h13, hlt, i1, i2, huv, hr]
      rfl
  · rintro ρ s ⟨h0, h1', h12, h13, ht⟩ K' hx hr
    have hlt : ¬ (ys.length : Int) < (ys.length : Int) := by omega
    have hd : decide (xs = ys) = true := by
      rw [decide_eq_true_eq]
      rw [← hlen, List.take_length, hlen, List.take_length] at ht
      exact ht
    rw [hd]
    simp only [go_sem, hx, h0, h1', h12, h13, hlt]
    rfl
  · show ys.length < 0 + 9223372036854775900
    omega
  · exact ⟨by (try simp only [go_sem, Int.toNat_natCast, List.length_take, *]) <;> first | done | rfl | omega | (simp <;> omega), by (try simp only [go_sem, Int.toNat_natCast, List.length_take, *]) <;> first | done | rfl | omega | (simp <;> omega), by (try simp only [go_sem, Int.toNat_natCast, List.length_take, *]) <;> first | done | rfl | omega | (simp <;> omega), by (try simp only [go_sem, Int.toNat_natCast, List.length_take, *]) <;> first | done | rfl | omega | (simp <;> omega), by simp⟩
end Go.Proofs.Yticlihmbikcohaa.Va

/- chapter 19: what is left to instructions -/
namespace Go.Proofs.Yticlihmbikcohaa.Va
open Go
set_option linter.unusedVariables false
set_option linter.unusedSimpArgs false
set_option maxRecDepth 100000
set_option maxHeartbeats 2000000
/-- rows that are appended to stay so -/
structure Lv (σ σ' : St) : Prop where
  nt : σ.ntok ≤ σ'.ntok
  lv : ∀ t, t < σ.ntok → σ.live t = true → σ'.live t = true
theorem Lv.refl (σ : St) : Lv σ σ := ⟨Nat.le_refl _, fun _ _ h => h⟩
theorem Lv.trans {a b c : St} (h : Lv a b) (g : Lv b c) : Lv a c := ⟨Nat.le_trans h.1 g.1, fun t ht hl => g.2 t (Nat.lt_of_lt_of_le ht h.1) (h.2 t ht hl)⟩
/-- states left to an instruction, the last with its row's token -/
structure Ent where
  key : Int
  tok : Nat
  sts : List (Sta × AV)
def encQ (p : Sta × AV) : AV := encS p.1 p.2
instance : Inhabited (Sta × AV) := ⟨(noS, .mt true)⟩
def encE (e : Ent) : Int × AV := (e.key, .list 43 false (e.sts.map encQ) (some (e.tok + 1)))
def leftE (E : List Ent) (k : Int) : List (Sta × AV) := match E.find? (fun e => decide (e.key = k)) with | some e => e.sts | none => []
/-- the walker, and its map -/
structure WKE (K : Kx) (bp : Bool) (p : List Ins) (E : List Ent) (σ : St) (w m : Nat) : Prop where
  hw : w < σ.next
  hm : m < σ.next
  ne : w ≠ m
  ow : σ.obj w = some (.cells 65 [.agg 65 [typesV K, mapsV K, encP bp p, .map m]])
  om : σ.obj m = some (.map 3 82 ((E.map encE).map (entI .i64)))
  live : ∀ e ∈ E, σ.live e.tok = true ∧ e.tok < σ.ntok ∧ e.sts ≠ []
  dist : E.Pairwise (fun a b => a.tok ≠ b.tok)
  rows : ∀ e ∈ E, ∀ q ∈ e.sts, RefA q.2 q.1.refs ∧ pure1 q.2 = true
def WK (K : Kx) (bp : Bool) (p : List Ins) (L : Int → List Sta) (σ : St) (w m : Nat) : Prop := ∃ E, WKE K bp p E σ w m ∧ ∀ k, (leftE E k).map Prod.fst = L k
theorem find_enc (k : Int) : ∀ (E : List Ent) (i : Nat), findI k (E.map encE) i = none ∧ E.find? (fun e => decide (e.key = k)) = none ∨ ∃ j e, findI k (E.map encE) i = some (i + j, (encE e).2) ∧ E.find? (fun e => decide (e.key = k)) = some e ∧ E[j]? = some e ∧ e.key = k
  | [], i => .inl ⟨rfl, rfl⟩
  | a :: E, i => by
    by_cases h : k = a.key
    · refine .inr ⟨0, a, ?_, ?_, rfl, h.symm⟩
      · simp [findI, encE, h]
      · simp [List.find?, h.symm]
    · have h' : ¬ a.key = k := fun e => h e.symm
      rcases find_enc k E (i + 1) with ⟨h1, h2⟩ | ⟨j, e, h1, h2, h3, h4⟩
      · refine .inl ⟨?_, ?_⟩
        · simp only [List.map_cons, findI]
          rw [if_neg (by exact h)]; exact h1
        · simp [List.find?, h', h2]
      · refine .inr ⟨j + 1, e, ?_, ?_, by simpa using h3, h4⟩
        · simp only [List.map_cons, findI]
          rw [if_neg (by exact h), h1]
          congr 2; omega
        · simp [List.find?, h', h2]
def leftV (E : List Ent) (k : Int) : AV := match E.find? (fun e => decide (e.key = k)) with | some e => (encE e).2 | none => .mt true
theorem W.look {R : Type} {P : Option R → Prop} {σ : St} {E : List Ent} {m : Nat} {n : Int} {k : AV → Option R} (ho : σ.obj m = some (.map 3 82 ((E.map encE).map (entI .i64)))) (h : Wp P (k (leftV E n))) : Wp P (@bnd AV R (@aLookup T ⟨σ⟩ 63 (.map m) (.int .i64 n) false) ⟨k⟩) := by
  rw [look_int (kd := .i64) (vt := 82) (kt := 3) (l := E.map encE) ty_63 ty_3 rfl ho n]
  have hz : T.zero 82 = .mt true := by kernel_rfl
  have e : lookRes T 82 false (findI n (E.map encE) 0) = leftV E n := by
    rcases find_enc n E 0 with ⟨h1, h2⟩ | ⟨j, e, h1, h2, _⟩
    · simp [h1, leftV, h2, lookRes, hz]
    · simp [h1, leftV, h2, lookRes]
  rw [e]
  exact h
theorem W.put {R : Type} {P : Option R → Prop} {σ : St} {E : List Ent} {m : Nat} {n : Int} {v : AV} {k : St → Option R} (ho : σ.obj m = some (.map 3 82 ((E.map encE).map (entI .i64)))) (hf : fits T 82 v = true) (h : Wp P (k (σ.set m (.map 3 82 ((putI (E.map encE) n v).map (entI .i64)))))) : Wp P (@bnd St R (@aMapPut T ⟨σ⟩ 63 (.map m) (.int .i64 n) v) ⟨k⟩) := by
  rw [put_int (kd := .i64) (vt := 82) (kt := 3) (l := E.map encE) ty_63 ty_3 ho n hf]
  exact h
theorem normL_W : ∀ (l : List Wht) (n : Nat), normL T (List.replicate n 38) (l.map encW) = l.map encW
  | [], n => by cases n <;> simp [normL]
  | w :: l, 0 => by simp [normL]
  | w :: l, n + 1 => by
    have hw : normT T 38 (encW w) = encW w := by simp [encW, normT, normL, Tab.comps, ty_38, ty_36, ty_3, ty_4, ty_24]
    simp only [List.replicate_succ, List.map_cons, normL, normL_W l n, hw]
theorem norm_ref {r : AV} {xs : List Int} (h : RefA r xs) (hp : pure1 r = true) : RefA (normT T 41 r) xs ∧ pure1 (normT T 41 r) = true := by
  rcases h with ⟨rfl, b, rfl⟩ | ⟨b, tok, rfl, hb⟩
  · refine ⟨.inr ⟨b, none, ?_, fun _ => rfl⟩, ?_⟩
    · simp [normT, ty_41, intsA]
    · simp [normT, ty_41, pure1, fullT]
  · refine ⟨.inr ⟨b, (if fullT tok then tok else none), ?_, hb⟩, ?_⟩
    · simp [normT]
    · simp only [normT, pure1] at hp ⊢
      simp [hp]
def putQ (k : Int) (x : Ent) : List Ent → List Ent
  | [] => [x]
  | a :: E => if a.key = k then x :: E else a :: putQ k x E
theorem putQ_enc {k : Int} {x : Ent} (hx : x.key = k) : ∀ (E : List Ent) (i : Nat), (match findI k (E.map encE) i with | some (q, _) => (E.map encE).set (q - i) (encE x) | none => E.map encE ++ [encE x]) = (putQ k x E).map encE
  | [], i => rfl
  | a :: E, i => by
    by_cases h : k = a.key
    · simp [findI, encE, putQ, h]
    · have h' : ¬ a.key = k := fun e => h e.symm
      have ih := putQ_enc hx E (i + 1)
      simp only [putQ, if_neg h', List.map_cons, findI]
      rw [if_neg (by exact h)]
      cases hf : findI k (E.map encE) (i + 1) with
      | none => rw [hf] at ih; simp only at ih ⊢; rw [← ih]; rfl
      | some q =>
        obtain ⟨q, v⟩ := q
        have hq := (findI_some hf).1
        rw [hf] at ih
        simp only at ih ⊢
        rw [← ih, show q - i = (q - (i + 1)) + 1 by omega]
        rfl
theorem putQ_left {k : Int} {x : Ent} (hx : x.key = k) : ∀ (E : List Ent) (n : Int), leftE (putQ k x E) n = if n = k then x.sts else leftE E n
  | [], n => by
    by_cases h : n = k
    · simp [leftE, putQ, List.find?, hx, h]
    · have h' : ¬ k = n := fun e => h e.symm
      simp [leftE, putQ, List.find?, hx, h, h']
  | a :: E, n => by
    have ih := putQ_left hx E n
    by_cases ha : a.key = k
    · by_cases h : n = k
      · simp [leftE, putQ, List.find?, hx, h, ha]
      · have h' : ¬ k = n := fun e => h e.symm
        simp [leftE, putQ, List.find?, hx, h, h', ha]
    · by_cases h : a.key = n
      · have hn : ¬ n = k := fun e => ha (h.trans e)
        simp [leftE, putQ, List.find?, ha, h, hn]
      · simp only [leftE, putQ, if_neg ha, List.find?, h, decide_false] at ih ⊢
        exact ih
theorem putQ_mem {k : Int} {x : Ent} : ∀ (E : List Ent), E.Pairwise (fun a b => a.tok ≠ b.tok) → ∀ e ∈ putQ k x E, e = x ∨ (e ∈ E ∧ ∀ o, E.find? (fun e => decide (e.key = k)) = some o → e.tok ≠ o.tok)
  | [], _, e, he => .inl (by simpa [putQ] using he)
  | a :: E, hp, e, he => by
    rw [List.pairwise_cons] at hp
    by_cases ha : a.key = k
    · simp only [putQ, if_pos ha, List.mem_cons] at he
      rcases he with rfl | he
      · exact .inl rfl
      · refine .inr ⟨by simp [he], fun o ho => ?_⟩
        simp only [List.find?, ha, decide_true, Option.some.injEq] at ho
        subst ho
        exact fun h => hp.1 e he h.symm
    · simp only [putQ, if_neg ha, List.mem_cons] at he
      rcases he with rfl | he
      · refine .inr ⟨by simp, fun o ho => ?_⟩
        simp only [List.find?, ha, decide_false] at ho
        exact hp.1 o (List.mem_of_find?_eq_some ho)
      · rcases putQ_mem E hp.2 e he with h | ⟨h1, h2⟩
        · exact .inl h
        · refine .inr ⟨by simp [h1], fun o ho => ?_⟩
          simp only [List.find?, ha, decide_false] at ho
          exact h2 o ho
theorem putQ_dist {k : Int} {x : Ent} : ∀ (E : List Ent), E.Pairwise (fun a b => a.tok ≠ b.tok) → (∀ e ∈ E, e.tok ≠ x.tok) → (putQ k x E).Pairwise (fun a b => a.tok ≠ b.tok)
  | [], _, _ => by simp [putQ]
  | a :: E, hp, hx => by
    have hp' := List.pairwise_cons.1 hp
    by_cases ha : a.key = k
    · simp only [putQ, if_pos ha, List.pairwise_cons]
      exact ⟨fun e he h => hx e (by simp [he]) h.symm, hp'.2⟩
    · simp only [putQ, if_neg ha, List.pairwise_cons]
      refine ⟨fun e he => ?_, putQ_dist E hp'.2 (fun e he => hx e (by simp [he]))⟩
      rcases putQ_mem E hp'.2 e he with rfl | ⟨h, _⟩
      · exact hx a (by simp)
      · exact hp'.1 e h
theorem left_gw {K : Kx} {bp : Bool} {p : List Ins} {E : List Ent} {σ : St} {w m : Nat} (hE : WKE K bp p E σ w m) (k : Int) : Gw 43 ((leftE E k).map encQ) σ (leftV E k) ((E.find? (fun e => decide (e.key = k))).map Ent.tok) := by
  unfold leftE leftV
  cases hf : E.find? (fun e => decide (e.key = k)) with
  | none => exact .nil _ _
  | some e =>
    obtain ⟨h1, h2, h3⟩ := hE.live e (List.mem_of_find?_eq_some hf)
    exact .live (by simpa using h3) h1 h2
theorem leave_c (d : Nat) {K : Kx} {bp : Bool} {p : List Ins} {L : Int → List Sta} {σ : St} {w m : Nat} (h : WK K bp p L σ w m) (k : Int) (s : Sta) (r : AV) (hr : RefA r s.refs) (hp : pure1 r = true) (hl : (L k).length ≤ 100000) :
    Sat (fun q => WK K bp p (fun j => if j = k then L k ++ [s] else L j) q.2 w m ∧ Keeps σ q.2 m) (evalF Try.prog CC (d + 1) 25 [.ptr 65 w [0], .int .i64 k, encS s r] σ) := by
  obtain ⟨E, hE, hL⟩ := h
  have n0 := eq_false (show ¬ w = σ.next by have := hE.hw; omega)
  have n1 := eq_false (show ¬ m = σ.next by have := hE.hm; omega)
  have ow := hE.ow
  have om := hE.om
  refine Sat.go ?_
  rw [run_25 _ _ _ (by simp)]; unfold Try.f25; simp only [Option.getD_some]
  simp only [go_sem, ow, om, n0, n1]
  refine W.br_ok (by kernel_rfl) ?_
  simp only [go_sem, ow, om, n0, n1]
  refine W.look (E := E) (by simp only [go_sem, om, n1]) ?_
  have h1 := normL_W s.regs 10
  have h2 := normL_W s.slots 8
  simp only [List.replicate] at h1 h2
  obtain ⟨hr2, hp2⟩ := norm_ref hr hp
  simp only [go_sem, h1, h2, pure_W, hp2]
  have hll : (leftE E k).length = (L k).length := by rw [← hL]; simp
  have hg := left_gw hE k
  generalize hkk : (E.find? (fun e => decide (e.key = k))).map Ent.tok = kk at hg
  refine W.gw_app (T := T) (t := 82) (hg.same (fun _ => rfl) rfl) (ys := [encS s (normT T 41 r)]) (by simp) rfl ?_ ?_ ?_
  · rfl
  · refine roomy_of ?_ (by decide)
    simp only [List.length_map, List.length_singleton]
    omega
  simp only [go_sem, h1, h2]
  refine W.put (E := E) (by simp only [go_sem, om, n1]) rfl ?_
  have hput : putI (E.map encE) k (.list 43 false ((leftE E k).map encQ ++ [encS s (normT T 41 r)]) (some (σ.ntok + 1))) = (putQ k ⟨k, σ.ntok, leftE E k ++ [(s, normT T 41 r)]⟩ E).map encE := by
    rw [← putQ_enc (k := k) (x := ⟨k, σ.ntok, leftE E k ++ [(s, normT T 41 r)]⟩) rfl E 0]
    unfold putI
    cases findI k (E.map encE) 0 <;> simp [encE, encQ]
  simp only [encS] at hput
  simp only [go_sem, h1, h2, hput]
  have hfind : ∀ o, E.find? (fun e => decide (e.key = k)) = some o → kk = some o.tok := fun o ho => by rw [← hkk, ho]; rfl
  refine wp_some ⟨⟨putQ k ⟨k, σ.ntok, leftE E k ++ [(s, normT T 41 r)]⟩ E, ⟨?_, ?_, hE.ne, ?_, ?_, ?_, ?_, ?_⟩, ?_⟩, ?_⟩
  · show w < σ.next + 1
    have := hE.hw; omega
  · show m < σ.next + 1
    have := hE.hm; omega
  · show (if w < σ.next then (if w = m then _ else if w = σ.next then _ else σ.obj w) else none) = _
    rw [if_pos hE.hw, if_neg hE.ne, if_neg (by have := hE.hw; omega)]
    exact ow
  · show (if m < σ.next then (if m = m then _ else _) else none) = _
    rw [if_pos hE.hm, if_pos rfl]
  · intro e he
    rcases putQ_mem E hE.dist e he with rfl | ⟨h1, h2⟩
    · refine ⟨?_, Nat.lt_succ_self _, by simp⟩
      show (if σ.ntok = σ.ntok then true else _) = true
      rw [if_pos rfl]
    · obtain ⟨g1, g2, g3⟩ := hE.live e h1
      refine ⟨?_, Nat.lt_succ_of_lt g2, g3⟩
      show (if e.tok = σ.ntok then true else if kk = some e.tok then false else σ.live e.tok) = true
      rw [if_neg (by omega), if_neg ?_, g1]
      intro hk
      cases hf : E.find? (fun e => decide (e.key = k)) with
      | none => rw [hf] at hkk; rw [← hkk] at hk; cases hk
      | some o =>
        have := hfind o hf
        rw [hk] at this
        exact h2 o hf (Option.some.inj this)
  · exact putQ_dist E hE.dist (fun e he => Nat.ne_of_lt (hE.live e he).2.1)
  · intro e he q hq
    rcases putQ_mem E hE.dist e he with rfl | ⟨h1, _⟩
    · simp only [List.mem_append, List.mem_singleton] at hq
      rcases hq with hq | rfl
      · unfold leftE at hq
        cases hf : E.find? (fun e => decide (e.key = k)) with
        | none => rw [hf] at hq; cases hq
        | some o => rw [hf] at hq; exact hE.rows o (List.mem_of_find?_eq_some hf) q hq
      · exact ⟨hr2, hp2⟩
    · exact hE.rows e h1 q hq
  · intro n
    rw [putQ_left (k := k) (x := ⟨k, σ.ntok, leftE E k ++ [(s, normT T 41 r)]⟩) rfl]
    show _ = if n = k then L k ++ [s] else L n
    by_cases hn : n = k
    · rw [if_pos hn, if_pos hn, ← hL]
      simp
    · rw [if_neg hn, if_neg hn, hL]
  · refine ⟨Nat.le_succ _, fun j hj hn => ?_⟩
    show (if j < σ.next then (if j = m then _ else if j = σ.next then _ else σ.obj j) else none) = _
    rw [if_pos hj, if_neg hn, if_neg (by omega)]
end Go.Proofs.Yticlihmbikcohaa.Va

/- chapter 19: what is merged -/
namespace Go.Proofs.Yticlihmbikcohaa.Va
open Go
set_option linter.unusedVariables false
set_option linter.unusedSimpArgs false
set_option maxRecDepth 100000
def mergeS (s t : Sta) : Sta × Int :=
  if s.refs = t.refs then
    if s.lock = t.lock ∧ s.sec = t.sec then (⟨List.zipWith joinS s.regs t.regs, List.zipWith joinS s.slots t.slots, s.refs, s.lock, s.sec, max s.next t.next⟩, 0)
    else (noS, 9)
  else (noS, 8)
/-- joined up to i -/
def partJ (i : Nat) (a b : List Wht) : List Wht := (List.zipWith joinS a b).take i ++ a.drop i
theorem partJ_get {i : Nat} {a b : List Wht} (h : a.length = b.length) (hi : i < a.length) : (partJ i a b)[i]? = a[i]? := by
  unfold partJ
  rw [List.getElem?_append_right (by simp; omega)]
  simp [h]
  congr 1
  omega
theorem partJ_set {i : Nat} {a b : List Wht} (h : a.length = b.length) (hi : i < a.length) : (partJ i a b).set i (joinS a[i] (b[i]'(by omega))) = partJ (i + 1) a b := by
  unfold partJ
  have hz : (List.zipWith joinS a b).length = a.length := by simp [h]
  apply List.ext_getElem?
  intro j
  rw [List.getElem?_set]
  have hl : (List.take i (List.zipWith joinS a b) ++ List.drop i a).length = a.length := by simp [h]; omega
  rw [hl]
  by_cases hj : i = j
  · subst hj
    rw [if_pos rfl, if_pos hi, List.getElem?_append_left (by simp [h]; omega), List.getElem?_take, if_pos (by omega), List.getElem?_eq_getElem (by rw [hz]; exact hi)]
    simp
  · rw [if_neg hj]
    by_cases hlt : j < i
    · rw [List.getElem?_append_left (by simp [h]; omega), List.getElem?_append_left (by simp [h]; omega), List.getElem?_take, List.getElem?_take, if_pos hlt, if_pos (by omega)]
    · rw [List.getElem?_append_right (by simp [h]; omega), List.getElem?_append_right (by simp [h]; omega), List.getElem?_drop, List.getElem?_drop]
      congr 1
      simp [h]
      omega
theorem partJ_zero (a b : List Wht) : partJ 0 a b = a := by simp [partJ]
theorem partJ_all {a b : List Wht} (h : a.length = b.length) : partJ a.length a b = List.zipWith joinS a b := by
  unfold partJ
  rw [List.drop_length, List.append_nil, List.take_of_length_le (by simp [h])]
theorem merge_c (d : Nat) (s t : Sta) (r1 r2 : AV) (h1 : RefP r1 s.refs) (h2 : RefP r2 t.refs) (o1 : SOk s) (o2 : SOk t) (hl : s.refs.length ≤ 17592186044416) :
    evalF Try.prog CC (d + 4) 27 [encS s r1, encS t r2] St.empty = some (.tup [encS (mergeS s t).1 (if s.refs = t.refs ∧ s.lock = t.lock ∧ s.sec = t.sec then r1 else .mt true), .int .i64 (mergeS s t).2], St.empty) := by
  have heq := fun d => equal_c d r1 r2 s.refs t.refs h1 h2 hl
  have z1 := fun σ => h1.fz σ
  have z2 := fun σ => h2.fz σ
  have s1 := h1.strip
  have s2 := h2.strip
  have v1 := h1.views
  have v2 := h2.views
  have np1 := h1.noPtr
  have jn := fun d v w => join_c d v w
  simp only [encW] at jn
  refine wp_eq ?_
  rw [run_27 _ _ _ (by simp)]; unfold Try.f27; simp only [Option.getD_some]
  unfold mergeS
  simp only [go_sem, z1, z2, s1, s2, v1, v2]
  rw [callVal_go2 _ _ _ _ _ _ _ (np1 _)]
  by_cases hr : s.refs = t.refs
  case neg =>
    have hd : decide (s.refs = t.refs) = false := decide_eq_false hr
    rw [if_neg hr, if_neg (fun h => hr h.1)]
    simp only [go_sem, heq, hd, z1, z2, s1, s2, v1, v2, List.append_nil]
    rfl
  have hd : decide (s.refs = t.refs) = true := decide_eq_true hr
  by_cases hk : s.lock = t.lock
  case neg =>
    rw [if_pos hr, if_neg (fun h => hk h.1), if_neg (fun h => hk h.2.1)]
    simp only [go_sem, heq, hd, z1, z2, s1, s2, v1, v2, List.append_nil, hk]
    rfl
  have hk' := eq_true hk
  by_cases hx : s.sec = t.sec
  case neg =>
    rw [if_pos hr, if_neg (fun h => hx h.2), if_neg (fun h => hx h.2.2)]
    have hx' : (s.sec == t.sec) = false := by simpa using hx
    simp only [go_sem, heq, hd, z1, z2, s1, s2, v1, v2, List.append_nil, hk', hx']
    rfl
  rw [if_pos hr, if_pos ⟨hk, hx⟩, if_pos ⟨hr, hk, hx⟩]
  have hx' : (s.sec == t.sec) = true := by simpa using hx
  simp only [go_sem, heq, hd, z1, z2, s1, s2, v1, v2, List.append_nil, hk', hx']
  refine W.iter_rule (fun i ρ s' => ρ 2 = .ptr 43 0 [0] ∧ ρ 3 = .ptr 43 1 [0] ∧ ρ 4 = .ptr 43 2 [0] ∧ ρ 30 = .int .i64 i ∧
      s'.obj 0 = some (.cells 43 [encS { s with regs := partJ i s.regs t.regs } r1]) ∧ s'.obj 1 = some (.cells 43 [encS t r2]) ∧ s'.obj 2 = some (.cells 43 [encS noS (.mt true)])) 10 ?_ ?_ _ 0 _ _ (Nat.zero_le _) ?_ ?_
  · rintro i ρ s' hi ⟨h2', h3, h4, h5, q0, q1, q2⟩ K' hK hx' hr'
    have hlt : (i : Int) < 10 := by omega
    have hwrap : IntKind.i64.wrap ((i : Int) + 1) = ((i + 1 : Nat) : Int) := by rw [IntKind.wrap_i64]; omega
    have hix := fun a => ix_reg a [0, 0] i hi
    simp only [List.cons_append, List.nil_append] at hix
    have hll : s.regs.length = t.regs.length := by rw [o1.1, o2.1]
    have hi1 : i < s.regs.length := by rw [o1.1]; exact hi
    have hi2 : i < t.regs.length := by rw [o2.1]; exact hi
    have g1 : ((partJ i s.regs t.regs).map encW)[i]? = some (encW s.regs[i]) := by rw [List.getElem?_map, partJ_get hll hi1, List.getElem?_eq_getElem hi1]; rfl
    have g2 : (t.regs.map encW)[i]? = some (encW t.regs[i]) := by rw [List.getElem?_map, List.getElem?_eq_getElem hi2]; rfl
    have g3 : ((partJ i s.regs t.regs).map encW).set i (encW (joinS s.regs[i] t.regs[i])) = (partJ (i + 1) s.regs t.regs).map encW := by rw [← List.map_set, partJ_set hll hi1]
    have q0' := q0
    have q1' := q1
    simp only [encS] at q0' q1'
    have hjn := fun d => jn d s.regs[i] t.regs[i]
    generalize s.regs[i] = a at g1 g3 hjn
    generalize t.regs[i] = b at g2 g3 hjn
    simp only [encW] at g1 g2 g3
    simp only [go_sem, h2', h3, h4, h5, hlt]
    refine W.br_ok (by kernel_rfl) ?_
    simp only [go_sem, h2', h3, h4, h5, q0', q1', hlt, hix, g1, g2, g3, hjn, hwrap]
    refine hK _ _ ?_
    have n1 : ¬ (1 : Nat) = 0 := by decide
    have n2 : ¬ (2 : Nat) = 0 := by decide
    exact ⟨by (try simp only [go_sem, Int.toNat_natCast, List.length_take, *]) <;> first | done | rfl | omega | (simp <;> omega), by (try simp only [go_sem, Int.toNat_natCast, List.length_take, *]) <;> first | done | rfl | omega | (simp <;> omega), by (try simp only [go_sem, Int.toNat_natCast, List.length_take, *]) <;> first | done | rfl | omega | (simp <;> omega), by (try simp only [go_sem, Int.toNat_natCast, List.length_take, *]) <;> first | done | rfl | omega | (simp <;> omega), by rw [set_obj]; rfl, (set_ne _ _ n1).trans q1, (set_ne _ _ n2).trans q2⟩
  · rintro ρ s' ⟨h2', h3, h4, h5, q0, q1, q2⟩ K' hx' hr'
    have hlt : ¬ ((10 : Nat) : Int) < 10 := by omega
    rw [show partJ 10 s.regs t.regs = List.zipWith joinS s.regs t.regs by rw [← o1.1, partJ_all (by rw [o1.1, o2.1])]] at q0
    simp only [go_sem, hx', h2', h3, h4, h5, hlt]
    clear hx' hr' hlt h5
    refine W.iter_rule (fun i ρ s' => ρ 2 = .ptr 43 0 [0] ∧ ρ 3 = .ptr 43 1 [0] ∧ ρ 4 = .ptr 43 2 [0] ∧ ρ 46 = .int .i64 i ∧
        s'.obj 0 = some (.cells 43 [encS { s with regs := List.zipWith joinS s.regs t.regs, slots := partJ i s.slots t.slots } r1]) ∧ s'.obj 1 = some (.cells 43 [encS t r2]) ∧ s'.obj 2 = some (.cells 43 [encS noS (.mt true)])) 8 ?_ ?_ _ 0 _ _ (Nat.zero_le _) ?_ ?_
    · clear q0 q1 q2 h2' h3 h4
      rintro i ρ s' hi ⟨h2', h3, h4, h5, q0, q1, q2⟩ K' hK hx' hr'
      have hlt : (i : Int) < 8 := by omega
      have hwrap : IntKind.i64.wrap ((i : Int) + 1) = ((i + 1 : Nat) : Int) := by rw [IntKind.wrap_i64]; omega
      have hix := fun a => ix_slot a [0, 1] i hi
      simp only [List.cons_append, List.nil_append] at hix
      have hll : s.slots.length = t.slots.length := by rw [o1.2, o2.2]
      have hi1 : i < s.slots.length := by rw [o1.2]; exact hi
      have hi2 : i < t.slots.length := by rw [o2.2]; exact hi
      have g1 : ((partJ i s.slots t.slots).map encW)[i]? = some (encW s.slots[i]) := by rw [List.getElem?_map, partJ_get hll hi1, List.getElem?_eq_getElem hi1]; rfl
      have g2 : (t.slots.map encW)[i]? = some (encW t.slots[i]) := by rw [List.getElem?_map, List.getElem?_eq_getElem hi2]; rfl
      have g3 : ((partJ i s.slots t.slots).map encW).set i (encW (joinS s.slots[i] t.slots[i])) = (partJ (i + 1) s.slots t.slots).map encW := by rw [← List.map_set, partJ_set hll hi1]
      have q0' := q0
      have q1' := q1
      simp only [encS] at q0' q1'
      have hjn := fun d => jn d s.slots[i] t.slots[i]
      generalize s.slots[i] = a at g1 g3 hjn
      generalize t.slots[i] = b at g2 g3 hjn
      simp only [encW] at g1 g2 g3
      simp only [go_sem, h2', h3, h4, h5, hlt]
      refine W.br_ok (by kernel_rfl) ?_
      simp only [go_sem, h2', h3, h4, h5, q0', q1', hlt, hix, g1, g2, g3, hjn, hwrap]
      refine hK _ _ ?_
      have n1 : ¬ (1 : Nat) = 0 := by decide
      have n2 : ¬ (2 : Nat) = 0 := by decide
      exact ⟨by (try simp only [go_sem, Int.toNat_natCast, List.length_take, *]) <;> first | done | rfl | omega | (simp <;> omega), by (try simp only [go_sem, Int.toNat_natCast, List.length_take, *]) <;> first | done | rfl | omega | (simp <;> omega), by (try simp only [go_sem, Int.toNat_natCast, List.length_take, *]) <;> first | done | rfl | omega | (simp <;> omega), by (try simp only [go_sem, Int.toNat_natCast, List.length_take, *]) <;> first | done | rfl | omega | (simp <;> omega), by rw [set_obj]; rfl, (set_ne _ _ n1).trans q1, (set_ne _ _ n2).trans q2⟩
    · clear q0 q1 q2 h2' h3 h4
      rintro ρ s' ⟨h2', h3, h4, h5, q0, q1, q2⟩ K' hx' hr'
      have hlt : ¬ ((8 : Nat) : Int) < 8 := by omega
      rw [show partJ 8 s.slots t.slots = List.zipWith joinS s.slots t.slots by rw [← o1.2, partJ_all (by rw [o1.2, o2.2])]] at q0
      simp only [encS] at q0 q1 q2
      simp only [go_sem, hx', h2', h3, h4, h5, hlt, q0, q1, q2, z1, frz_W]
      rfl
    · show 8 < 0 + 9223372036854775900
      omega
    · exact ⟨by (try simp only [go_sem, Int.toNat_natCast, List.length_take, *]) <;> first | done | rfl | omega | (simp <;> omega), by (try simp only [go_sem, Int.toNat_natCast, List.length_take, *]) <;> first | done | rfl | omega | (simp <;> omega), by (try simp only [go_sem, Int.toNat_natCast, List.length_take, *]) <;> first | done | rfl | omega | (simp <;> omega), by (try simp only [go_sem, Int.toNat_natCast, List.length_take, *]) <;> first | done | rfl | omega | (simp <;> omega), by rw [partJ_zero]; exact q0, q1, q2⟩
  · show 10 < 0 + 9223372036854775900
    omega
  · exact ⟨by (try simp only [go_sem, Int.toNat_natCast, List.length_take, *]) <;> first | done | rfl | omega | (simp <;> omega), by (try simp only [go_sem, Int.toNat_natCast, List.length_take, *]) <;> first | done | rfl | omega | (simp <;> omega), by (try simp only [go_sem, Int.toNat_natCast, List.length_take, *]) <;> first | done | rfl | omega | (simp <;> omega), by (try simp only [go_sem, Int.toNat_natCast, List.length_take, *]) <;> first | done | rfl | omega | (simp <;> omega), by rw [partJ_zero]; rfl, by rfl, by rfl⟩
end Go.Proofs.Yticlihmbikcohaa.Va

/- chapter 19: what is known ahead of an instruction -/
namespace Go.Proofs.Yticlihmbikcohaa.Va
open Go
set_option linter.unusedVariables false
set_option linter.unusedSimpArgs false
set_option maxRecDepth 100000
set_option maxHeartbeats 2000000
theorem RefA.fz {r : AV} {xs : List Int} (h : RefA r xs) : ∃ q r2, (∀ σ, freeze σ r = some q) ∧ Va.strip q = r2 ∧ Va.strip r = r2 ∧ RefP r2 xs ∧ viewIds r = [] ∧ viewIds q = [] := by
  rcases h with ⟨h0, b, rfl⟩ | ⟨b, tok, rfl, hb⟩
  · exact ⟨.mt b, .mt b, fun _ => by simp only [freeze], by simp only [Va.strip], by simp only [Va.strip], .inl ⟨h0, b, rfl⟩, by simp only [viewIds], by simp only [viewIds]⟩
  · exact ⟨.list 3 b (intsA xs) (if fullT tok then tok else none), .list 3 b (intsA xs) none, fun _ => by simp only [freeze], by simp only [Va.strip], by simp only [Va.strip], .inr ⟨b, rfl, hb⟩, by simp only [viewIds], by simp only [viewIds]⟩
theorem WKE.same {K : Kx} {bp : Bool} {p : List Ins} {E : List Ent} {σ σ' : St} {w m : Nat} (h : WKE K bp p E σ w m) (hn : σ.next ≤ σ'.next) (ho : ∀ j, j < σ.next → σ'.obj j = σ.obj j) (hl : Lv σ σ') : WKE K bp p E σ' w m :=
  ⟨Nat.lt_of_lt_of_le h.hw hn, Nat.lt_of_lt_of_le h.hm hn, h.ne, (ho w h.hw).trans h.ow, (ho m h.hm).trans h.om, fun e he => by
    obtain ⟨h1, h2, h3⟩ := h.live e he
    exact ⟨hl.lv _ h2 h1, Nat.lt_of_lt_of_le h2 hl.nt, h3⟩, h.dist, h.rows⟩
theorem WK.same {K : Kx} {bp : Bool} {p : List Ins} {L : Int → List Sta} {σ σ' : St} {w m : Nat} (h : WK K bp p L σ w m) (hn : σ.next ≤ σ'.next) (ho : ∀ j, j < σ.next → σ'.obj j = σ.obj j) (hl : Lv σ σ') : WK K bp p L σ' w m := by
  obtain ⟨E, hE, hL⟩ := h
  exact ⟨E, hE.same hn ho hl, hL⟩
def mrg : Sta → List Sta → Sta × Int
  | s, [] => (s, 0)
  | s, t :: ts => if (mergeS s t).2 = 0 then mrg (mergeS s t).1 ts else (noS, (mergeS s t).2)
def aheadS (l : List Sta) : Sta × Bool × Int := match l with | [] => (noS, false, 0) | s :: ts => ((mrg s ts).1, true, (mrg s ts).2)
theorem merge_sok {s t : Sta} (h1 : SOk s) (h2 : SOk t) (he : (mergeS s t).2 = 0) : SOk (mergeS s t).1 ∧ (mergeS s t).1.refs = s.refs ∧ s.refs = t.refs ∧ s.lock = t.lock ∧ s.sec = t.sec := by
  unfold mergeS at he ⊢
  by_cases h : s.refs = t.refs
  · by_cases g : s.lock = t.lock ∧ s.sec = t.sec
    · rw [if_pos h, if_pos g] at *
      exact ⟨⟨by simp [h1.1, h2.1], by simp [h1.2, h2.2]⟩, rfl, h, g.1, g.2⟩
    · rw [if_pos h, if_neg g] at he; simp at he
  · rw [if_neg h] at he; simp at he
def AheadP (K : Kx) (bp : Bool) (p : List Ins) (L : Int → List Sta) (w m : Nat) (σ : St) (x : Sta × Bool × Int) (q : AV × St) : Prop :=
  WK K bp p L q.2 w m ∧ Keeps σ q.2 σ.next ∧ ∃ r, RefA r x.1.refs ∧ pure1 r = true ∧ q.1 = .tup [encS x.1 r, .bool x.2.1, .int .i64 x.2.2]
theorem ahead_c (d : Nat) {K : Kx} {bp : Bool} {p : List Ins} {L : Int → List Sta} {σ : St} {w m : Nat} (h : WK K bp p L σ w m) (k : Int) (hs : ∀ s ∈ L k, SOk s ∧ s.refs.length ≤ 100000) (hl : (L k).length ≤ 100000) :
    Sat (AheadP K bp p L w m σ (aheadS (L k))) (evalF Try.prog CC (d + 5) 18 [.ptr 65 w [0], .int .i64 k] σ) := by
  have hW := h
  obtain ⟨E, hE, hL⟩ := h
  have n0 := eq_false (show ¬ w = σ.next by have := hE.hw; omega)
  have n1 := eq_false (show ¬ m = σ.next by have := hE.hm; omega)
  have ow := hE.ow
  have om := hE.om
  have hz : (T.zero 43) = encS noS (.mt true) := by kernel_rfl
  refine Sat.go ?_
  rw [run_18 _ _ _ (by simp)]; unfold Try.f18; simp only [Option.getD_some]
  simp only [go_sem, ow, om, n0, n1]
  refine W.look (E := E) (by simp only [go_sem, om, n1]) ?_
  have hg := left_gw hE k
  generalize hkk : (E.find? (fun e => decide (e.key = k))).map Ent.tok = kk at hg
  have hLk := hL k
  have hrows : ∀ q ∈ leftE E k, RefA q.2 q.1.refs ∧ pure1 q.2 = true := by
    intro q hq
    unfold leftE at hq
    cases hf : E.find? (fun e => decide (e.key = k)) with
    | none => rw [hf] at hq; cases hq
    | some o => rw [hf] at hq; exact hE.rows o (List.mem_of_find?_eq_some hf) q hq
  generalize leftE E k = Q at hg hLk hrows
  generalize leftV E k = v at hg
  have hlen : Q.length = (L k).length := by rw [← hLk]; simp
  rcases hg with ⟨hQ, rfl, rfl⟩ | ⟨hQ, t, rfl, rfl, _, _⟩
  · have hQ0 : Q = [] := by simpa using hQ
    subst hQ0
    rw [← hLk]
    simp only [go_sem, n0, n1]
    refine wp_some ⟨hW.same (Nat.le_succ _) (fun j hj => ?_) ⟨Nat.le_refl _, fun _ _ h => h⟩, ⟨Nat.le_succ _, fun j hj _ => ?_⟩, .mt true, .inl ⟨rfl, _, rfl⟩, rfl, rfl⟩
    · show (if j < σ.next then (if j = σ.next then _ else if j = σ.next then _ else σ.obj j) else none) = _
      rw [if_pos hj, if_neg (by omega), if_neg (by omega)]
    · show (if j < σ.next then (if j = σ.next then _ else if j = σ.next then _ else σ.obj j) else none) = _
      rw [if_pos hj, if_neg (by omega), if_neg (by omega)]
  · cases Q with
    | nil => exact absurd rfl hQ
    | cons q0 Q =>
      have hlq := eq_false (show ¬ (((Q.length + 1 : Nat) : Int)) = 0 by omega)
      obtain ⟨r0, p0⟩ := hrows q0 (by simp)
      have hrows := fun q hq => hrows q (List.mem_cons_of_mem _ hq)
      simp only [List.length_cons] at hlen
      rw [List.map_cons] at hLk
      have hs0 := hs q0.1 (by rw [← hLk]; simp)
      have hsQ : ∀ q ∈ Q, SOk q.1 ∧ q.1.refs.length ≤ 100000 := fun q hq => hs q.1 (by rw [← hLk]; exact List.mem_cons_of_mem _ (List.mem_map.2 ⟨q, hq, rfl⟩))
      rw [← hLk]
      clear hs hL hLk hkk hQ
      have hsl : aSlice T 82 (.list 43 false (encQ q0 :: Q.map encQ) (some (t + 1))) (some (.int .i64 1)) none none = some (.list 43 false (Q.map encQ) none) := by
        simp [aSlice, ty_82, bound]
        exact List.take_of_length_le (by simp)
      have q0e : encQ q0 = encS q0.1 q0.2 := rfl
      simp only [encS] at q0e
      rw [q0e] at hsl
      simp only [go_sem, hlq, n0, n1, hsl, q0e]
      refine W.br_idx (by omega) (by omega) ?_
      simp only [go_sem, hlq, n0, n1, hsl, q0e, Int.toNat_zero, List.getElem?_cons_zero]
      refine W.iter_rule (fun i ρ s' => ρ 4 = .ptr 43 σ.next [0] ∧ ρ 8 = .ptr 43 (σ.next + 1) [0] ∧ ρ 26 = .list 43 false (Q.map encQ) none ∧ ρ 27 = .int .i64 Q.length ∧ ρ 28 = .int .i64 i ∧ σ.next + 2 ≤ s'.next ∧ (∀ j, j < σ.next → s'.obj j = σ.obj j) ∧ Lv σ s' ∧ (∃ v, s'.obj σ.next = some (.cells 43 [v])) ∧ ∃ cur r, s'.obj (σ.next + 1) = some (.cells 43 [encS cur r]) ∧ RefA r cur.refs ∧ pure1 r = true ∧ SOk cur ∧ cur.refs.length ≤ 100000 ∧ mrg q0.1 (Q.map Prod.fst) = mrg cur ((Q.drop i).map Prod.fst)) Q.length ?_ ?_ _ 0 _ _ (Nat.zero_le _) ?_ ?_
      · rintro i ρ s' hi ⟨h4, h8, h26, h27, h28, hn, hob, hlv, ⟨v0, hv0⟩, cur, r, hc, hr, hpr, hok, hrl, hmr⟩ K' hK hx hr'
        have hlt := eq_true (show ((i : Nat) : Int) < (Q.length : Nat) by omega)
        have hwrap : IntKind.i64.wrap ((i : Int) + 1) = ((i + 1 : Nat) : Int) := by rw [IntKind.wrap_i64]; omega
        have hm : at0 Q (i : Int) ∈ Q := at0_mem (by omega) (by omega)
        have hd : Q.drop i = at0 Q (i : Int) :: Q.drop (i + 1) := by
          rw [List.drop_eq_getElem_cons hi, at0_nat hi]
        obtain ⟨hqr, hqp⟩ := hrows _ hm
        obtain ⟨hqo, hql⟩ := hsQ _ hm
        simp only [go_sem, h4, h8, h26, h27, h28, hlt]
        refine W.idx_at (by omega) (by omega) ?_
        generalize at0 Q (i : Int) = u at hd hqr hqp hqo hql ⊢
        obtain ⟨u, ru⟩ := u
        simp only at hqr hqp hqo hql
        obtain ⟨f1, g1, z1, z2, z3, z4, z5, z6⟩ := hr.fz
        obtain ⟨f2, g2, y1, y2, y3, y4, y5, y6⟩ := hqr.fz
        have ue : encQ (u, ru) = encS u ru := rfl
        have k1 := eq_false (show ¬ σ.next + 1 = s'.next by omega)
        have k2 := eq_false (show ¬ σ.next = s'.next by omega)
        have hmg := fun d => merge_c d cur u g1 g2 z4 y4 hok hqo (by omega)
        simp only [encS] at ue hc hmg
        simp only [go_sem, h4, h8, h26, h27, h28, hlt, ue, hc, k1, k2, frz_W, strip_W, view_W, z1, z2, z5, y1, y2, y5]
        have hr3 : RefP (if cur.refs = u.refs ∧ cur.lock = u.lock ∧ cur.sec = u.sec then g1 else .mt true) (mergeS cur u).1.refs := by
          unfold mergeS
          by_cases e1 : cur.refs = u.refs
          · by_cases e2 : cur.lock = u.lock ∧ cur.sec = u.sec
            · rw [if_pos ⟨e1, e2.1, e2.2⟩, if_pos e1, if_pos e2]; exact z4
            · rw [if_neg (fun h => e2 ⟨h.2.1, h.2.2⟩), if_pos e1, if_neg e2]; exact .inl ⟨rfl, _, rfl⟩
          · rw [if_neg (fun h => e1 h.1), if_neg e1]; exact .inl ⟨rfl, _, rfl⟩
        generalize (if cur.refs = u.refs ∧ cur.lock = u.lock ∧ cur.sec = u.sec then g1 else .mt true) = g3 at hmg hr3
        have hmz := fun h => merge_sok hok hqo (s := cur) (t := u) h
        have hms : mrg cur (List.map Prod.fst (Q.drop i)) = if (mergeS cur u).2 = 0 then mrg (mergeS cur u).1 ((Q.drop (i + 1)).map Prod.fst) else (noS, (mergeS cur u).2) := by rw [hd]; rfl
        generalize hM : mergeS cur u = M at hmg hr3 hmz hms
        obtain ⟨M, er⟩ := M
        simp only at hmg hr3 hmz hms
        refine call_tupS (hmg _) (encS_pure (s := M) hr3) rfl (by first | rfl | simp [view_W, viewIdsL, viewIds, z5, y5]) ?_
        have hp3 := RefP.pure hr3
        simp only [go_sem, h4, h8, h26, h27, h28, hlt, ue, hc, k1, k2]
        by_cases he : er = 0
        · have he' := eq_true he
          simp only [go_sem, he', h28, hwrap]
          obtain ⟨m1, m2, _⟩ := hmz he
          refine hK _ _ ?_
          refine ⟨by (try simp only [go_sem, Int.toNat_natCast, List.length_take, *]) <;> first | done | rfl | omega | (simp <;> omega), by (try simp only [go_sem, Int.toNat_natCast, List.length_take, *]) <;> first | done | rfl | omega | (simp <;> omega), by (try simp only [go_sem, Int.toNat_natCast, List.length_take, *]) <;> first | done | rfl | omega | (simp <;> omega), by (try simp only [go_sem, Int.toNat_natCast, List.length_take, *]) <;> first | done | rfl | omega | (simp <;> omega), by (try simp only [go_sem, Int.toNat_natCast, List.length_take, *]) <;> first | done | rfl | omega | (simp <;> omega), ?_, fun j hj => ?_, ⟨hlv.nt, hlv.lv⟩, ⟨v0, ?_⟩, M, g3, ?_, hr3.refA, hp3, m1, by rw [m2]; exact hrl, ?_⟩
          · show σ.next + 2 ≤ s'.next + 1
            omega
          · show (if j = σ.next + 1 then _ else if j = s'.next then _ else if j = s'.next then _ else s'.obj j) = _
            rw [if_neg (by omega), if_neg (by omega), if_neg (by omega)]
            exact hob j hj
          · show (if σ.next = σ.next + 1 then _ else if σ.next = s'.next then _ else if σ.next = s'.next then _ else s'.obj σ.next) = _
            rw [if_neg (by omega), if_neg (by omega), if_neg (by omega)]
            exact hv0
          · show (if σ.next + 1 = σ.next + 1 then _ else _) = _
            rw [if_pos rfl]
            rfl
          · rw [hmr, hms, if_pos he]
        · have he' := eq_false he
          have k3 := eq_false (show ¬ σ.next = σ.next + 1 by omega)
          simp only [go_sem, he', h4, hv0, hr', k2, k3]
          have hx2 : aheadS (q0.1 :: List.map Prod.fst Q) = (noS, true, er) := by
            show ((mrg q0.1 _).1, true, (mrg q0.1 _).2) = _
            rw [hmr, hms, if_neg he]
          rw [hx2]
          refine wp_some ⟨hW.same (by show σ.next ≤ s'.next + 1; omega) (fun j hj => ?_) ⟨hlv.nt, hlv.lv⟩, ⟨by show σ.next ≤ s'.next + 1; omega, fun j hj _ => ?_⟩, .mt true, .inl ⟨rfl, _, rfl⟩, rfl, rfl⟩
          · show (if j < σ.next then (if j = σ.next then _ else if j = σ.next + 1 then _ else if j = s'.next then _ else if j = s'.next then _ else s'.obj j) else none) = _
            rw [if_pos hj, if_neg (by omega), if_neg (by omega), if_neg (by omega), if_neg (by omega)]
            exact hob j hj
          · show (if j < σ.next then (if j = σ.next then _ else if j = σ.next + 1 then _ else if j = s'.next then _ else if j = s'.next then _ else s'.obj j) else none) = _
            rw [if_pos hj, if_neg (by omega), if_neg (by omega), if_neg (by omega), if_neg (by omega)]
            exact hob j hj
      · rintro ρ s' ⟨h4, h8, h26, h27, h28, hn, hob, hlv, ⟨v0, hv0⟩, cur, r, hc, hr, hpr, hok, hrl, hmr⟩ K' hx hr'
        have hlt := eq_false (show ¬ ((Q.length : Nat) : Int) < (Q.length : Nat) by omega)
        simp only [encS] at hc
        simp only [go_sem, hx, h4, h8, h26, h27, h28, hlt, hc, hv0]
        have hx2 : aheadS (q0.1 :: List.map Prod.fst Q) = (cur, true, 0) := by
          show ((mrg q0.1 _).1, true, (mrg q0.1 _).2) = _
          rw [hmr, List.drop_length]
          rfl
        rw [hx2]
        refine wp_some ⟨hW.same (by show σ.next ≤ s'.next; omega) (fun j hj => ?_) ⟨hlv.nt, hlv.lv⟩, ⟨by show σ.next ≤ s'.next; omega, fun j hj _ => ?_⟩, r, hr, hpr, rfl⟩
        · show (if j < σ.next then (if j = σ.next then _ else s'.obj j) else none) = _
          rw [if_pos hj, if_neg (by omega)]
          exact hob j hj
        · show (if j < σ.next then (if j = σ.next then _ else s'.obj j) else none) = _
          rw [if_pos hj, if_neg (by omega)]
          exact hob j hj
      · show Q.length < 0 + 9223372036854775900
        omega
      · refine ⟨by (try simp only [go_sem, Int.toNat_natCast, List.length_take, *]) <;> first | done | rfl | omega | (simp <;> omega), by (try simp only [go_sem, Int.toNat_natCast, List.length_take, *]) <;> first | done | rfl | omega | (simp <;> omega), by (try simp only [go_sem, Int.toNat_natCast, List.length_take, *]) <;> first | done | rfl | omega | (simp <;> omega), by (try simp only [go_sem, Int.toNat_natCast, List.length_take, *]) <;> first | done | rfl | omega | (simp <;> omega), by (try simp only [go_sem, Int.toNat_natCast, List.length_take, *]) <;> first | done | rfl | omega | (simp <;> omega), Nat.le_refl _, fun j hj => ?_, ⟨Nat.le_refl _, fun _ _ h => h⟩, ⟨T.zero 43, ?_⟩, q0.1, q0.2, ?_, r0, p0, hs0.1, hs0.2, rfl⟩
        · show (if j = σ.next + 1 then _ else if j = σ.next + 1 then _ else if j = σ.next then _ else σ.obj j) = _
          rw [if_neg (by omega), if_neg (by omega), if_neg (by omega)]
        · show (if σ.next = σ.next + 1 then _ else if σ.next = σ.next + 1 then _ else if σ.next = σ.next then _ else σ.obj σ.next) = _
          rw [if_neg (by omega), if_neg (by omega), if_pos rfl, hz]
          rfl
        · show (if σ.next + 1 = σ.next + 1 then _ else _) = _
          rw [if_pos rfl]
          rfl
end Go.Proofs.Yticlihmbikcohaa.Va

/- chapter 19: what only copies -/
namespace Go.Proofs.Yticlihmbikcohaa.Va
open Go
set_option linter.unusedVariables false
set_option linter.unusedSimpArgs false
set_option maxRecDepth 100000
set_option maxHeartbeats 2000000
theorem RefA.fq {r : AV} {xs : List Int} (h : RefA r xs) : ∃ q r2, (∀ σ, freeze σ r = some q) ∧ RefA q xs ∧ pure1 q = true ∧ Va.strip q = r2 ∧ Va.strip r = r2 ∧ RefP r2 xs ∧ viewIds r = [] ∧ viewIds q = [] := by
  obtain ⟨q, r2, h1, h2, h3, h4, h5, h6⟩ := h.fz
  refine ⟨q, r2, h1, ?_, frz_pure h h1, h2, h3, h4, h5, h6⟩
  obtain ⟨q', g1, g2, _⟩ := h.frz
  have := (h1 St.empty).symm.trans (g2 St.empty)
  cases this
  exact g1
section
variable {K : Kx} {bp : Bool} {p : List Ins} {L : Int → List Sta} {σ τ : St} {w m : Nat}
theorem WK.lt (h : WK K bp p L σ w m) : w < σ.next ∧ m < σ.next ∧ w ≠ m := by obtain ⟨E, hE, _⟩ := h; exact ⟨hE.hw, hE.hm, hE.ne⟩
theorem WK.box (h : WK K bp p L τ w m) (o : AObj) : WK K bp p L (τ.new o) w m := h.same (Nat.le_succ _) (fun j hj => if_neg (by omega)) ⟨Nat.le_refl _, fun _ _ h => h⟩
theorem WK.put (h : WK K bp p L τ w m) {j : Nat} (h1 : j ≠ w) (h2 : j ≠ m) (o : AObj) : WK K bp p L (τ.set j o) w m := by
  obtain ⟨E, hE, hL⟩ := h
  exact ⟨E, ⟨hE.hw, hE.hm, hE.ne, (if_neg (fun e => h1 e.symm)).trans hE.ow, (if_neg (fun e => h2 e.symm)).trans hE.om, hE.live, hE.dist, hE.rows⟩, hL⟩
theorem WK.trim (h : WK K bp p L τ w m) {n : Nat} (h1 : w < n) (h2 : m < n) : WK K bp p L (τ.trim n) w m := by
  obtain ⟨E, hE, hL⟩ := h
  exact ⟨E, ⟨hE.hw, hE.hm, hE.ne, (if_pos h1).trans hE.ow, (if_pos h2).trans hE.om, hE.live, hE.dist, hE.rows⟩, hL⟩
theorem WK.tok (h : WK K bp p L τ w m) : WK K bp p L (τ.tokNew none) w m := h.same (Nat.le_refl _) (fun _ _ => rfl) ⟨Nat.le_succ _, fun t _ h => by show (if _ then _ else _) = _; split; rfl; simpa using h⟩
theorem WK.ow (h : WK K bp p L σ w m) : σ.obj w = some (.cells 65 [.agg 65 [typesV K, mapsV K, encP bp p, .map m]]) := by
  obtain ⟨E, hE, _⟩ := h; exact hE.ow
end
def addL (L : Int → List Sta) (k : Int) (s : Sta) : Int → List Sta := fun j => if j = k then L k ++ [s] else L j
def addLs (L : Int → List Sta) : List (Int × Sta) → (Int → List Sta)
  | [] => L
  | (k, s) :: r => addLs (addL L k s) r
def StepP (K : Kx) (bp : Bool) (p : List Ins) (L : Int → List Sta) (w m : Nat) (σ : St) (x : List (Int × Sta) × Int) (q : AV × St) : Prop :=
  WK K bp p (addLs L x.1) q.2 w m ∧ Keeps σ q.2 m ∧ q.1 = .int .i64 x.2
def setRg (s : Sta) (i : Int) (x : Wht) : Sta := { s with regs := s.regs.set i.toNat x }
def setSl (s : Sta) (i : Int) (x : Wht) : Sta := { s with slots := s.slots.set i.toNat x }
theorem setRg_ok {s : Sta} (h : SOk s) (i : Int) (x : Wht) : SOk (setRg s i x) := ⟨by rw [← h.1]; exact List.length_set, h.2⟩
theorem setSl_ok {s : Sta} (h : SOk s) (i : Int) (x : Wht) : SOk (setSl s i x) := ⟨h.1, by rw [← h.2]; exact List.length_set⟩
theorem ix_regI {k : IntKind} (id : Nat) (q : List Nat) {i : Int} (h0 : 0 ≤ i) (h1 : i < 10) : aIndexAddr T 39 (.ptr 39 id q) (.int k i) = some (.ptr 38 id (q ++ [i.toNat])) := by
  simp only [aIndexAddr, ty_39]
  rw [if_pos ⟨by simp [Tab.same], by omega, by omega⟩]
theorem ix_slotI {k : IntKind} (id : Nat) (q : List Nat) {i : Int} (h0 : 0 ≤ i) (h1 : i < 8) : aIndexAddr T 40 (.ptr 40 id q) (.int k i) = some (.ptr 38 id (q ++ [i.toNat])) := by
  simp only [aIndexAddr, ty_40]
  rw [if_pos ⟨by simp [Tab.same], by omega, by omega⟩]
theorem get_W {l : List Wht} {i : Int} (h0 : 0 ≤ i) (h1 : i < l.length) : (l.map encW)[i.toNat]? = some (encW (at0 l i)) := by
  rw [List.getElem?_map, at0_get h0 h1]; rfl
def moveS (pc : Int) (s : Sta) (i : Ins) (a b : Wht) : List (Int × Sta) × Int :=
  if i.op = 1 then (if b.kind = 0 then ([], 7) else ([(pc + 1, setRg s i.a b)], 0))
  else if i.op = 8 then (if a.kind = 0 then ([], 7) else ([(pc + 1, setSl s i.c a)], 0))
  else if (at0 s.slots i.c).kind = 0 then ([], 7) else ([(pc + 1, setRg s i.a (at0 s.slots i.c))], 0)
theorem move_c (d : Nat) {K : Kx} {bp : Bool} {p : List Ins} {L : Int → List Sta} {σ : St} {w m : Nat} (hW : WK K bp p L σ w m) (pc : Int) (hpc : 0 ≤ pc ∧ pc < 1000) (s : Sta) (r : AV) (hr : RefA r s.refs) (ho : SOk s) (i : Ins) (a b : Wht)
    (ha : 0 ≤ i.a ∧ i.a < 10) (hc : i.op ≠ 1 → 0 ≤ i.c ∧ i.c < 8) (hl : ∀ k, (L k).length ≤ 10000) :
    Sat (StepP K bp p L w m σ (moveS pc s i a b)) (evalF Try.prog CC (d + 2) 36 [.ptr 65 w [0], .int .i64 pc, encS s r, encI i, encW a, encW b] σ) := by
  obtain ⟨hw, hm, hwm⟩ := hW.lt
  obtain ⟨f1, g1, z1, z2, z3, z4, z5, z6, z7, z8⟩ := hr.fq
  have hwrap : IntKind.i64.wrap (pc + 1) = pc + 1 := by rw [IntKind.wrap_i64]; omega
  have ia := fun k id q => ix_regI (k := k) id q ha.1 ha.2
  have ga := get_W ha.1 (l := s.regs) (by rw [ho.1]; exact ha.2)
  generalize hna : i.a.toNat = na at ia ga
  refine Sat.go ?_
  rw [run_36 _ _ _ (by simp)]; unfold Try.f36; simp only [Option.getD_some]
  simp only [go_sem, ia, ga, Nat.left_eq_add, Nat.add_eq_left, Nat.add_left_cancel_iff, Nat.succ_ne_zero, Nat.add_assoc, Nat.one_ne_zero, Bool.not_false, Bool.not_true]
  unfold moveS
  by_cases o1 : i.op = 1
  · have o1' := eq_true o1
    rw [if_pos o1]
    simp only [go_sem, o1', ia, ga, Nat.left_eq_add, Nat.add_eq_left, Nat.add_left_cancel_iff, Nat.succ_ne_zero, Nat.add_assoc, Nat.one_ne_zero, Bool.not_false, Bool.not_true]
    have hset : (s.regs.map encW).set na (encW b) = (setRg s i.a b).regs.map encW := by rw [← hna]; exact (List.map_set ..).symm
    have hso : SOk (setRg s i.a b) := setRg_ok ho i.a b
    simp only [encW] at hset
    by_cases hk : b.kind = 0
    · have hk' := eq_true hk
      rw [if_pos hk]
      simp only [go_sem, hk']
      refine wp_some ⟨WK.trim (by (repeat' first | exact hW | refine WK.box ?_ _ | refine WK.put ?_ (by omega) (by omega) _ | refine WK.tok ?_)) hw hm, Keeps.trim (by (repeat' first | exact Keeps.refl _ _ | refine Keeps.new ?_ _ | refine Keeps.other ?_ _ (by omega) | refine Keeps.tok ?_ _)), rfl⟩
    · have hk' := eq_false hk
      rw [if_neg hk]
      simp only [go_sem, hk', hset, hwrap, frz_W, view_W, z1, z7, Nat.left_eq_add, Nat.add_eq_left, Nat.add_left_cancel_iff, Nat.succ_ne_zero, Nat.add_assoc, Nat.one_ne_zero, Bool.not_false, Bool.not_true]
      refine W.call (leave_c (K := K) (bp := bp) (p := p) (L := L) (m := m) _ (by (repeat' first | exact hW | refine WK.box ?_ _ | refine WK.put ?_ (by omega) (by omega) _ | refine WK.tok ?_)) (pc + 1) (setRg s i.a b) f1 z2 z3 (by have := hl (pc + 1); omega)) ?_
      rintro v τ ⟨hWt, hKt⟩
      simp only [go_sem, *]
      refine wp_some ⟨WK.trim hWt hw hm, Keeps.trim (Keeps.trans (by (repeat' first | exact Keeps.refl _ _ | refine Keeps.new ?_ _ | refine Keeps.other ?_ _ (by omega) | refine Keeps.tok ?_ _)) hKt), rfl⟩
  have o1' := eq_false o1
  rw [if_neg o1]
  obtain ⟨hc0, hc1⟩ := hc o1
  have ic := fun k id q => ix_slotI (k := k) id q hc0 hc1
  have gc := get_W hc0 (l := s.slots) (by rw [ho.2]; exact hc1)
  generalize hnc : i.c.toNat = nc at ic gc
  simp only [go_sem, o1', ia, ga, Nat.left_eq_add, Nat.add_eq_left, Nat.add_left_cancel_iff, Nat.succ_ne_zero, Nat.add_assoc, Nat.one_ne_zero, Bool.not_false, Bool.not_true]
  by_cases o8 : i.op = 8
  · have o8' := eq_true o8
    rw [if_pos o8]
    simp only [go_sem, o8', ic, gc, Nat.left_eq_add, Nat.add_eq_left, Nat.add_left_cancel_iff, Nat.succ_ne_zero, Nat.add_assoc, Nat.one_ne_zero, Bool.not_false, Bool.not_true]
    have hset : (s.slots.map encW).set nc (encW a) = (setSl s i.c a).slots.map encW := by rw [← hnc]; exact (List.map_set ..).symm
    have hso : SOk (setSl s i.c a) := setSl_ok ho i.c a
    simp only [encW] at hset
    by_cases hk : a.kind = 0
    · have hk' := eq_true hk
      rw [if_pos hk]
      simp only [go_sem, hk']
      refine wp_some ⟨WK.trim (by (repeat' first | exact hW | refine WK.box ?_ _ | refine WK.put ?_ (by omega) (by omega) _ | refine WK.tok ?_)) hw hm, Keeps.trim (by (repeat' first | exact Keeps.refl _ _ | refine Keeps.new ?_ _ | refine Keeps.other ?_ _ (by omega) | refine Keeps.tok ?_ _)), rfl⟩
    · have hk' := eq_false hk
      rw [if_neg hk]
      simp only [go_sem, hk', hset, hwrap, frz_W, view_W, z1, z7, Nat.left_eq_add, Nat.add_eq_left, Nat.add_left_cancel_iff, Nat.succ_ne_zero, Nat.add_assoc, Nat.one_ne_zero, Bool.not_false, Bool.not_true]
      refine W.call (leave_c (K := K) (bp := bp) (p := p) (L := L) (m := m) _ (by (repeat' first | exact hW | refine WK.box ?_ _ | refine WK.put ?_ (by omega) (by omega) _ | refine WK.tok ?_)) (pc + 1) (setSl s i.c a) f1 z2 z3 (by have := hl (pc + 1); omega)) ?_
      rintro v τ ⟨hWt, hKt⟩
      simp only [go_sem, *]
      refine wp_some ⟨WK.trim hWt hw hm, Keeps.trim (Keeps.trans (by (repeat' first | exact Keeps.refl _ _ | refine Keeps.new ?_ _ | refine Keeps.other ?_ _ (by omega) | refine Keeps.tok ?_ _)) hKt), rfl⟩
  · have o8' := eq_false o8
    rw [if_neg o8]
    generalize at0 s.slots i.c = x at gc ⊢
    simp only [encW] at gc
    simp only [go_sem, o8', ia, ga, ic, gc, Nat.left_eq_add, Nat.add_eq_left, Nat.add_left_cancel_iff, Nat.succ_ne_zero, Nat.add_assoc, Nat.one_ne_zero, Bool.not_false, Bool.not_true]
    have hset : (s.regs.map encW).set na (encW x) = (setRg s i.a x).regs.map encW := by rw [← hna]; exact (List.map_set ..).symm
    have hso : SOk (setRg s i.a x) := setRg_ok ho i.a x
    simp only [encW] at hset
    by_cases hk : x.kind = 0
    · have hk' := eq_true hk
      rw [if_pos hk]
      simp only [go_sem, hk']
      refine wp_some ⟨WK.trim (by (repeat' first | exact hW | refine WK.box ?_ _ | refine WK.put ?_ (by omega) (by omega) _ | refine WK.tok ?_)) hw hm, Keeps.trim (by (repeat' first | exact Keeps.refl _ _ | refine Keeps.new ?_ _ | refine Keeps.other ?_ _ (by omega) | refine Keeps.tok ?_ _)), rfl⟩
    · have hk' := eq_false hk
      rw [if_neg hk]
      simp only [go_sem, hk', hset, hwrap, frz_W, view_W, z1, z7, Nat.left_eq_add, Nat.add_eq_left, Nat.add_left_cancel_iff, Nat.succ_ne_zero, Nat.add_assoc, Nat.one_ne_zero, Bool.not_false, Bool.not_true]
      refine W.call (leave_c (K := K) (bp := bp) (p := p) (L := L) (m := m) _ (by (repeat' first | exact hW | refine WK.box ?_ _ | refine WK.put ?_ (by omega) (by omega) _ | refine WK.tok ?_)) (pc + 1) (setRg s i.a x) f1 z2 z3 (by have := hl (pc + 1); omega)) ?_
      rintro v τ ⟨hWt, hKt⟩
      simp only [go_sem, *]
      refine wp_some ⟨WK.trim hWt hw hm, Keeps.trim (Keeps.trans (by (repeat' first | exact Keeps.refl _ _ | refine Keeps.new ?_ _ | refine Keeps.other ?_ _ (by omega) | refine Keeps.tok ?_ _)) hKt), rfl⟩
end Go.Proofs.Yticlihmbikcohaa.Va

/- chapter 19: a reference is given up -/
namespace Go.Proofs.Yticlihmbikcohaa.Va
open Go
set_option linter.unusedVariables false
set_option linter.unusedSimpArgs false
set_option maxRecDepth 100000
set_option maxHeartbeats 2000000
/-- the closure: is it the number? -/
theorem nis_c (d : Nat) {σ : St} {iw : Nat} {w : Wht} (ho : σ.obj iw = some (.cells 38 [encW w])) (x : Int) :
    evalF Try.prog CC (d + 1) 82 [.int .i64 x, .ptr 38 iw [0]] σ = some (.bool (decide (x = w.id)), σ.trim σ.next) := by
  refine wp_eq ?_
  rw [run_82 _ _ _ (by simp)]; unfold Try.f82; simp only [Option.getD_some]
  simp only [go_sem, ho]
  rfl
/-- the first place of the number -/
theorem nIndexFunc_c (d : Nat) {σ : St} {v iw : Nat} {w : Wht} {xs : List Int} (hv : v < σ.next) (hw : iw < σ.next) (hl : xs.length ≤ 17592186044416) (hov : σ.obj v = some (.cells 3 (intsA xs))) (ho : σ.obj iw = some (.cells 38 [encW w])) :
    Sat (fun p => Keeps σ p.2 σ.next ∧ Lv σ p.2 ∧ ((p.1 = .int .i64 (-1) ∧ ∀ x ∈ xs, x ≠ w.id) ∨ ∃ i : Nat, p.1 = .int .i64 i ∧ i < xs.length ∧ (∀ x ∈ xs.take i, x ≠ w.id) ∧ xs[i]? = some w.id)) (evalF Try.prog CC (d + 2) 102 [.view 3 v [] 0 xs.length, .func 82 [.ptr 38 iw [0]]] σ) := by
  have hil : (intsA xs).length = xs.length := by simp [intsA]
  refine Sat.go ?_
  rw [run_102 _ _ _ (by simp)]; unfold Try.f102; simp only [Option.getD_some]
  simp only [go_sem, *]
  refine W.iter_rule (fun j ρ s => ρ 0 = .view 3 v [] 0 xs.length ∧ ρ 1 = .func 82 [.ptr 38 iw [0]] ∧ ρ 7 = .int .i64 xs.length ∧ ρ 8 = .int .i64 j ∧ Keeps σ s σ.next ∧ Lv σ s ∧ ∀ x ∈ xs.take j, x ≠ w.id) xs.length ?_ ?_ _ 0 _ _ (Nat.zero_le _) ?_ ?_
  · rintro j ρ s hj ⟨h0, h1, h7, h8, hk, hV, hm⟩ K hK hx hr
    have hlt : (j : Int) < (xs.length : Int) := by omega
    have hwrap : IntKind.i64.wrap ((j : Int) + 1) = ((j + 1 : Nat) : Int) := by rw [IntKind.wrap_i64]; omega
    have hia : aIndexAddr T 41 (.view 3 v [] 0 xs.length) (.int .i64 (j : Nat)) = some (.ptr 3 v [j]) := by
      simp only [aIndexAddr, ty_41]
      rw [if_pos ⟨trivial, by omega, by exact_mod_cast hj⟩]
      simp
    have hov' := (hk.2 v hv (by omega)).trans hov
    have how' := (hk.2 iw hw (by omega)).trans ho
    have hget : (intsA xs)[j]? = some (.int .i64 xs[j]) := by simp [intsA, hj]
    have hsn : xs.take (j + 1) = xs.take j ++ [xs[j]] := List.take_succ_eq_append_getElem hj
    have hxj : xs[j]? = some xs[j] := List.getElem?_eq_getElem hj
    generalize xs[j] = q at hget hsn hxj
    have hcl := fun d => nis_c d how' q
    simp only [go_sem, h0, h1, h7, h8, hlt, hia, hov', hget, hcl, at_nil, rowAt, AV.at]
    have hkt : Keeps σ (s.trim s.next) σ.next := ⟨hk.1, fun i hi hn => by
      show (if i < s.next then s.obj i else none) = _
      rw [if_pos (by have := hk.1; omega)]; exact hk.2 i hi hn⟩
    refine W.br_dec (fun hq => ?_) (fun hq => ?_)
    · simp only [go_sem, h0, h1, h7, h8, hr, hq]
      exact wp_some ⟨hkt.trim, ⟨hV.nt, hV.lv⟩, .inr ⟨j, rfl, hj, hm, by rw [hxj, hq]⟩⟩
    · simp only [go_sem, h0, h1, h7, h8, hwrap]
      refine hK _ _ ?_
      refine ⟨by (try simp only [go_sem, Int.toNat_natCast, List.length_take, *]) <;> first | done | rfl | omega | (simp <;> omega), by (try simp only [go_sem, Int.toNat_natCast, List.length_take, *]) <;> first | done | rfl | omega | (simp <;> omega), by (try simp only [go_sem, Int.toNat_natCast, List.length_take, *]) <;> first | done | rfl | omega | (simp <;> omega), by (try simp only [go_sem, Int.toNat_natCast, List.length_take, *]) <;> first | done | rfl | omega | (simp <;> omega), hkt, ⟨hV.nt, hV.lv⟩, ?_⟩
      intro x hx
      rw [hsn, List.mem_append, List.mem_singleton] at hx
      rcases hx with hx | rfl
      · exact hm x hx
      · exact hq
  · rintro ρ s ⟨h0, h1, h7, h8, hk, hV, hm⟩ K hx hr
    have hlt : ¬ (xs.length : Int) < (xs.length : Int) := by omega
    rw [List.take_length] at hm
    simp only [go_sem, hx, h0, h1, h7, h8, hlt]
    exact wp_some ⟨hk.trim, ⟨hV.nt, hV.lv⟩, .inl ⟨rfl, hm⟩⟩
  · show xs.length < 0 + 9223372036854775900
    omega
  · exact ⟨by (try simp only [go_sem, Int.toNat_natCast, List.length_take, *]) <;> first | done | rfl | omega | (simp <;> omega), by (try simp only [go_sem, Int.toNat_natCast, List.length_take, *]) <;> first | done | rfl | omega | (simp <;> omega), by (try simp only [go_sem, Int.toNat_natCast, List.length_take, *]) <;> first | done | rfl | omega | (simp <;> omega), by (try simp only [go_sem, Int.toNat_natCast, List.length_take, *]) <;> first | done | rfl | omega | (simp <;> omega), Keeps.refl _ _, Lv.refl _, by simp⟩
end Go.Proofs.Yticlihmbikcohaa.Va

/- chapter 19: what is told of all that are the same thing -/
namespace Go.Proofs.Yticlihmbikcohaa.Va
open Go
set_option linter.unusedVariables false
set_option linter.unusedSimpArgs false
set_option maxRecDepth 100000
set_option maxHeartbeats 2000000
def becW (a to : Wht) (none : Bool) (x : Wht) : Wht := if (a.kind = 3 ∨ a.kind = 5) ∧ x.kind = a.kind ∧ x.id = a.id then { (if none then to else x) with maybe := false } else x
end Go.Proofs.Yticlihmbikcohaa.Va

/- chapter 19: a question whether a pointer is none -/
namespace Go.Proofs.Yticlihmbikcohaa.Va
open Go
set_option linter.unusedVariables false
set_option linter.unusedSimpArgs false
set_option maxRecDepth 100000
set_option maxHeartbeats 4000000
def nullT (s : Sta) (ia : Int) (a to : Wht) (none : Bool) : Sta :=
  ⟨(s.regs.map (becW a to none)).set ia.toNat to, s.slots.map (becW a to none), if none = true ∧ a.kind = 3 then no a.id s.refs else s.refs, s.lock, s.sec, s.next⟩
def nullOne (pc : Int) (s : Sta) (i : Ins) (a : Wht) (n : Int) (holds : Bool) : List (Int × Sta) :=
  let none := holds == decide (i.c = 1)
  if (splitS a none).2 = true then [(pc + 1 + n * (i.imm - 1), nullT s i.a a (splitS a none).1 none)] else []
def nullPre (pc : Int) (s : Sta) (i : Ins) (a : Wht) : Nat → List (Int × Sta)
  | 0 => []
  | 1 => nullOne pc s i a 0 false
  | _ => nullOne pc s i a 0 false ++ nullOne pc s i a 1 true
def nullS (pc : Int) (s : Sta) (i : Ins) (a : Wht) : List (Int × Sta) × Int :=
  if a.kind = 0 then ([], 7) else if i.c ≠ 1 ∧ i.c ≠ 2 then ([], 7) else if i.b ≠ 0 then ([], 7) else (nullPre pc s i a 2, 0)
theorem addLs_app (L : Int → List Sta) : ∀ (a b : List (Int × Sta)), addLs L (a ++ b) = addLs (addLs L a) b
  | [], b => rfl
  | (k, s) :: a, b => addLs_app (addL L k s) a b
theorem addLs_len : ∀ (l : List (Int × Sta)) (L : Int → List Sta) (k : Int), (addLs L l k).length ≤ (L k).length + l.length
  | [], L, k => Nat.le_refl _
  | (q, s) :: l, L, k => by
    have h := addLs_len l (addL L q s) k
    have : (addL L q s k).length ≤ (L k).length + 1 := by
      unfold addL
      by_cases e : k = q
      · rw [if_pos e, e]; simp
      · rw [if_neg e]; omega
    simp only [addLs, List.length_cons]
    omega
theorem WK.kill {K : Kx} {bp : Bool} {p : List Ins} {L : Int → List Sta} {τ : St} {w m : Nat} (h : WK K bp p L τ w m) {j : Nat} (h1 : j ≠ w) (h2 : j ≠ m) : WK K bp p L (τ.kill j) w m := by
  obtain ⟨E, hE, hL⟩ := h
  exact ⟨E, ⟨hE.hw, hE.hm, hE.ne, (if_neg (fun e => h1 e.symm)).trans hE.ow, (if_neg (fun e => h2 e.symm)).trans hE.om, hE.live, hE.dist, hE.rows⟩, hL⟩
theorem Keeps.kill {σ τ : St} {id : Nat} (h : Keeps σ τ id) {j : Nat} (hj : σ.next ≤ j) : Keeps σ (τ.kill j) id := ⟨h.1, fun k hk hn => by
  show (if k = j then _ else τ.obj k) = _
  rw [if_neg (by omega)]; exact h.2 k hk hn⟩
end Go.Proofs.Yticlihmbikcohaa.Va

/- chapter 19: steps that ask nothing of numbers -/
namespace Go.Proofs.Yticlihmbikcohaa.Va
open Go
set_option linter.unusedVariables false
set_option linter.unusedSimpArgs false
set_option maxRecDepth 100000
set_option maxHeartbeats 4000000
structure InsOk (i : Ins) : Prop where
  a : 0 ≤ i.a ∧ i.a < 10
  b : 0 ≤ i.b ∧ i.b < 256
  c : 0 ≤ i.c ∧ i.c < 256
  imm : 0 ≤ i.imm ∧ i.imm < 4294967296
  slot : i.op = 8 ∨ i.op = 9 → i.c < 8
  reg : i.op = 6 → i.b < 10
  idx : i.op = 11 ∨ i.op = 13 → i.imm < 10
instance : Inhabited Ins := ⟨⟨0, 0, 0, 0, 0⟩⟩
def stepN (K : Kx) (pc : Int) (i : Ins) (s : Sta) : List (Int × Sta) × Int :=
  if i.op = 1 ∨ i.op = 8 ∨ i.op = 9 then moveS pc s i (at0 s.regs i.a) (at0 s.regs (min i.b 9))
  else if i.op = 2 then ([(pc + 1, setRg s i.a (numW i.imm i.imm))], 0)
  else if i.op = 7 then nullS pc s i (at0 s.regs i.a)
  else if i.op = 14 then (if (callS K s i.c i.imm).2 = 0 then ([(pc + 1, (callS K s i.c i.imm).1)], 0) else ([], (callS K s i.c i.imm).2))
  else ([], exitS s)
end Go.Proofs.Yticlihmbikcohaa.Va
