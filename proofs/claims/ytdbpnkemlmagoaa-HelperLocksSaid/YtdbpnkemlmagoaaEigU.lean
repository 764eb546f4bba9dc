/- chapter 18: HelperOthers, the law -/
import Derived.Test.YtdbpnkemlmagoaaEigT
namespace Go.Proofs.Ytdbpnkemlmagoaa.Va
open Go
set_option linter.unusedVariables false
set_option linter.unusedSimpArgs false
set_option maxRecDepth 100000
theorem RefP.noPtr {r : AV} {xs : List Int} (h : RefP r xs) (l : List AV) : Va.noPtr (r :: l) = true := by
  rcases h with ⟨_, b, rfl⟩ | ⟨b, rfl, _⟩ <;> rfl
theorem Refs_c (d : Nat) (r1 r2 : AV) (xs : List Int) (h1 : RefP r1 xs) (h2 : RefP r2 xs) (hl : xs.length ≤ 17592186044416) : evalF Try.prog CC (d + 1) 21 [r1, r2] St.empty = some (.bool true, St.empty) := by
  have l1 := fun m => h1.len m
  have l2 := fun m => h2.len m
  refine wp_eq ?_
  rw [run_21 _ _ _ (by simp)]; unfold Try.f21; simp only [Option.getD_some]
  simp only [go_sem, ↓reduceIte, Nat.reduceEqDiff, Nat.reduceAdd, reduceCtorEq, CCT, CCv, CCr, CCk, CCx, List.isEmpty_nil, Nat.reduceBNe, Nat.reduceBEq, Bool.or_false, Bool.false_or, Bool.or_true, Bool.true_or, Nat.reduceLeDiff, Nat.reduceLT, beqI, bneI, List.length_map, decide_true, decide_false, Int.reduceEq, Int.reduceLT, Int.reduceLE, Int.reduceGE, Int.reduceGT, not_true_eq_false, not_false_eq_true, Bool.and_true, Bool.true_and, Bool.and_false, Bool.false_and, and_true, true_and, and_self, Bool.not_not, l1, l2]
  refine W.iter_rule (fun i ρ s => ρ 0 = r1 ∧ ρ 1 = r2 ∧ ρ 5 = .int .i64 i) xs.length ?_ ?_ _ 0 _ _ (Nat.zero_le _) ?_ ?_
  · rintro i ρ s hi ⟨h0, h1', h5⟩ K' hK hx hr
    have hlt : (i : Int) < (xs.length : Int) := by omega
    have hwrap : IntKind.i64.wrap ((i : Int) + 1) = ((i + 1 : Nat) : Int) := by rw [IntKind.wrap_i64]; omega
    have i1 := h1.idx hi
    have i2 := h2.idx hi
    generalize xs[i] = u at i1 i2
    simp only [go_sem, ↓reduceIte, Nat.reduceEqDiff, Nat.reduceAdd, reduceCtorEq, CCT, CCv, CCr, CCk, CCx, List.isEmpty_nil, Nat.reduceBNe, Nat.reduceBEq, Bool.or_false, Bool.false_or, Bool.or_true, Bool.true_or, Nat.reduceLeDiff, Nat.reduceLT, beqI, bneI, List.length_map, decide_true, decide_false, Int.reduceEq, Int.reduceLT, Int.reduceLE, Int.reduceGE, Int.reduceGT, not_true_eq_false, not_false_eq_true, Bool.and_true, Bool.true_and, Bool.and_false, Bool.false_and, and_true, true_and, and_self, Bool.not_not, h0, h1', h5, l1, l2, hlt]
    refine W.br_ok (by kernel_rfl) ?_
    simp only [go_sem, ↓reduceIte, Nat.reduceEqDiff, Nat.reduceAdd, reduceCtorEq, CCT, CCv, CCr, CCk, CCx, List.isEmpty_nil, Nat.reduceBNe, Nat.reduceBEq, Bool.or_false, Bool.false_or, Bool.or_true, Bool.true_or, Nat.reduceLeDiff, Nat.reduceLT, beqI, bneI, List.length_map, decide_true, decide_false, Int.reduceEq, Int.reduceLT, Int.reduceLE, Int.reduceGE, Int.reduceGT, not_true_eq_false, not_false_eq_true, Bool.and_true, Bool.true_and, Bool.and_false, Bool.false_and, and_true, true_and, and_self, Bool.not_not, h0, h1', h5, l1, l2, hlt, i1, i2, hwrap]
    refine hK _ _ ?_
    exact ⟨by (try simp only [go_sem, ↓reduceIte, Nat.reduceEqDiff, Nat.reduceAdd, reduceCtorEq, CCT, CCv, CCr, CCk, CCx, List.isEmpty_nil, Nat.reduceBNe, Nat.reduceBEq, Bool.or_false, Bool.false_or, Bool.or_true, Bool.true_or, Nat.reduceLeDiff, Nat.reduceLT, beqI, bneI, List.length_map, decide_true, decide_false, Int.reduceEq, Int.reduceLT, Int.reduceLE, Int.reduceGE, Int.reduceGT, not_true_eq_false, not_false_eq_true, Bool.and_true, Bool.true_and, Bool.and_false, Bool.false_and, and_true, true_and, and_self, Bool.not_not, Int.toNat_natCast, List.length_take, *]) <;> (first | done | rfl | omega | (simp; done) | (simp; omega)), by (try simp only [go_sem, ↓reduceIte, Nat.reduceEqDiff, Nat.reduceAdd, reduceCtorEq, CCT, CCv, CCr, CCk, CCx, List.isEmpty_nil, Nat.reduceBNe, Nat.reduceBEq, Bool.or_false, Bool.false_or, Bool.or_true, Bool.true_or, Nat.reduceLeDiff, Nat.reduceLT, beqI, bneI, List.length_map, decide_true, decide_false, Int.reduceEq, Int.reduceLT, Int.reduceLE, Int.reduceGE, Int.reduceGT, not_true_eq_false, not_false_eq_true, Bool.and_true, Bool.true_and, Bool.and_false, Bool.false_and, and_true, true_and, and_self, Bool.not_not, Int.toNat_natCast, List.length_take, *]) <;> (first | done | rfl | omega | (simp; done) | (simp; omega)), by (try simp only [go_sem, ↓reduceIte, Nat.reduceEqDiff, Nat.reduceAdd, reduceCtorEq, CCT, CCv, CCr, CCk, CCx, List.isEmpty_nil, Nat.reduceBNe, Nat.reduceBEq, Bool.or_false, Bool.false_or, Bool.or_true, Bool.true_or, Nat.reduceLeDiff, Nat.reduceLT, beqI, bneI, List.length_map, decide_true, decide_false, Int.reduceEq, Int.reduceLT, Int.reduceLE, Int.reduceGE, Int.reduceGT, not_true_eq_false, not_false_eq_true, Bool.and_true, Bool.true_and, Bool.and_false, Bool.false_and, and_true, true_and, and_self, Bool.not_not, Int.toNat_natCast, List.length_take, *]) <;> (first | done | rfl | omega | (simp; done) | (simp; omega))⟩
  · rintro ρ s ⟨h0, h1', h5⟩ K' hx hr
    have hlt : ¬ (xs.length : Int) < (xs.length : Int) := by omega
    simp only [go_sem, ↓reduceIte, Nat.reduceEqDiff, Nat.reduceAdd, reduceCtorEq, CCT, CCv, CCr, CCk, CCx, List.isEmpty_nil, Nat.reduceBNe, Nat.reduceBEq, Bool.or_false, Bool.false_or, Bool.or_true, Bool.true_or, Nat.reduceLeDiff, Nat.reduceLT, beqI, bneI, List.length_map, decide_true, decide_false, Int.reduceEq, Int.reduceLT, Int.reduceLE, Int.reduceGE, Int.reduceGT, not_true_eq_false, not_false_eq_true, Bool.and_true, Bool.true_and, Bool.and_false, Bool.false_and, and_true, true_and, and_self, Bool.not_not, hx, h0, h1', h5, l1, l2, hlt]
    rfl
  · show xs.length < 0 + 9223372036854775900
    omega
  · exact ⟨by (try simp only [go_sem, ↓reduceIte, Nat.reduceEqDiff, Nat.reduceAdd, reduceCtorEq, CCT, CCv, CCr, CCk, CCx, List.isEmpty_nil, Nat.reduceBNe, Nat.reduceBEq, Bool.or_false, Bool.false_or, Bool.or_true, Bool.true_or, Nat.reduceLeDiff, Nat.reduceLT, beqI, bneI, List.length_map, decide_true, decide_false, Int.reduceEq, Int.reduceLT, Int.reduceLE, Int.reduceGE, Int.reduceGT, not_true_eq_false, not_false_eq_true, Bool.and_true, Bool.true_and, Bool.and_false, Bool.false_and, and_true, true_and, and_self, Bool.not_not, Int.toNat_natCast, List.length_take, *]) <;> (first | done | rfl | omega | (simp; done) | (simp; omega)), by (try simp only [go_sem, ↓reduceIte, Nat.reduceEqDiff, Nat.reduceAdd, reduceCtorEq, CCT, CCv, CCr, CCk, CCx, List.isEmpty_nil, Nat.reduceBNe, Nat.reduceBEq, Bool.or_false, Bool.false_or, Bool.or_true, Bool.true_or, Nat.reduceLeDiff, Nat.reduceLT, beqI, bneI, List.length_map, decide_true, decide_false, Int.reduceEq, Int.reduceLT, Int.reduceLE, Int.reduceGE, Int.reduceGT, not_true_eq_false, not_false_eq_true, Bool.and_true, Bool.true_and, Bool.and_false, Bool.false_and, and_true, true_and, and_self, Bool.not_not, Int.toNat_natCast, List.length_take, *]) <;> (first | done | rfl | omega | (simp; done) | (simp; omega)), by (try simp only [go_sem, ↓reduceIte, Nat.reduceEqDiff, Nat.reduceAdd, reduceCtorEq, CCT, CCv, CCr, CCk, CCx, List.isEmpty_nil, Nat.reduceBNe, Nat.reduceBEq, Bool.or_false, Bool.false_or, Bool.or_true, Bool.true_or, Nat.reduceLeDiff, Nat.reduceLT, beqI, bneI, List.length_map, decide_true, decide_false, Int.reduceEq, Int.reduceLT, Int.reduceLE, Int.reduceGE, Int.reduceGT, not_true_eq_false, not_false_eq_true, Bool.and_true, Bool.true_and, Bool.and_false, Bool.false_and, and_true, true_and, and_self, Bool.not_not, Int.toNat_natCast, List.length_take, *]) <;> (first | done | rfl | omega | (simp; done) | (simp; omega))⟩
set_option maxHeartbeats 8000000 in
theorem Same_c (d : Nat) (t : Sta) (r1 r2 : AV) (h1 : RefP r1 t.refs) (h2 : RefP r2 t.refs) (ho : SOk t) (hl : t.refs.length ≤ 17592186044416) : evalF Try.prog CC (d + 2) 10 [encS t r1, encS t r2] St.empty = some (.bool true, St.empty) := by
  have hR := fun d => Refs_c d r1 r2 t.refs h1 h2 hl
  have z1 := fun σ => h1.fz σ
  have z2 := fun σ => h2.fz σ
  have s1 := h1.strip
  have s2 := h2.strip
  have v1 := h1.views
  have np := h1.noPtr
  have v2 := h2.views
  refine wp_eq ?_
  rw [run_10 _ _ _ (by simp)]; unfold Try.f10; simp only [Option.getD_some]
  simp only [go_sem, ↓reduceIte, Nat.reduceEqDiff, Nat.reduceAdd, reduceCtorEq, CCT, CCv, CCr, CCk, CCx, List.isEmpty_nil, Nat.reduceBNe, Nat.reduceBEq, Bool.or_false, Bool.false_or, Bool.or_true, Bool.true_or, Nat.reduceLeDiff, Nat.reduceLT, beqI, bneI, List.length_map, decide_true, decide_false, Int.reduceEq, Int.reduceLT, Int.reduceLE, Int.reduceGE, Int.reduceGT, not_true_eq_false, not_false_eq_true, Bool.and_true, Bool.true_and, Bool.and_false, Bool.false_and, and_true, true_and, and_self, Bool.not_not, *]
  refine W.iter_rule (fun i ρ s' => ρ 2 = .ptr 33 0 [0] ∧ ρ 3 = .ptr 33 1 [0] ∧ ρ 5 = .int .i64 i ∧ s'.obj 0 = some (.cells 33 [encS t r1]) ∧ s'.obj 1 = some (.cells 33 [encS t r2])) 10 ?_ ?_ _ 0 _ _ (Nat.zero_le _) ?_ ?_
  · rintro i ρ s hi ⟨h2, h3, h5, o1, o2⟩ K' hK hx hr
    have hlt : (i : Int) < 10 := by omega
    have hwrap : IntKind.i64.wrap ((i : Int) + 1) = ((i + 1 : Nat) : Int) := by rw [IntKind.wrap_i64]; omega
    have hix := fun a => ix_reg a [0, 0] i hi
    simp only [List.cons_append, List.nil_append] at hix
    obtain ⟨w, hw⟩ : ∃ w, t.regs[i]? = some w := ⟨_, List.getElem?_eq_getElem (by rw [ho.1]; exact hi)⟩
    have hg : (t.regs.map encW)[i]? = some (encW w) := by rw [List.getElem?_map, hw]; rfl
    have o1' := o1
    have o2' := o2
    simp only [encS] at o1' o2'
    simp only [encW] at hg
    simp only [go_sem, ↓reduceIte, Nat.reduceEqDiff, Nat.reduceAdd, reduceCtorEq, CCT, CCv, CCr, CCk, CCx, List.isEmpty_nil, Nat.reduceBNe, Nat.reduceBEq, Bool.or_false, Bool.false_or, Bool.or_true, Bool.true_or, Nat.reduceLeDiff, Nat.reduceLT, beqI, bneI, List.length_map, decide_true, decide_false, Int.reduceEq, Int.reduceLT, Int.reduceLE, Int.reduceGE, Int.reduceGT, not_true_eq_false, not_false_eq_true, Bool.and_true, Bool.true_and, Bool.and_false, Bool.false_and, and_true, true_and, and_self, Bool.not_not, h2, h3, h5, o1', o2', hlt]
    refine W.br_ok (by kernel_rfl) ?_
    simp only [go_sem, ↓reduceIte, Nat.reduceEqDiff, Nat.reduceAdd, reduceCtorEq, CCT, CCv, CCr, CCk, CCx, List.isEmpty_nil, Nat.reduceBNe, Nat.reduceBEq, Bool.or_false, Bool.false_or, Bool.or_true, Bool.true_or, Nat.reduceLeDiff, Nat.reduceLT, beqI, bneI, List.length_map, decide_true, decide_false, Int.reduceEq, Int.reduceLT, Int.reduceLE, Int.reduceGE, Int.reduceGT, not_true_eq_false, not_false_eq_true, Bool.and_true, Bool.true_and, Bool.and_false, Bool.false_and, and_true, true_and, and_self, Bool.not_not, h2, h3, h5, o1', o2', hlt, hix, hg, hwrap, beq_self_eq_true]
    refine hK _ _ ?_
    exact ⟨by (try simp only [go_sem, ↓reduceIte, Nat.reduceEqDiff, Nat.reduceAdd, reduceCtorEq, CCT, CCv, CCr, CCk, CCx, List.isEmpty_nil, Nat.reduceBNe, Nat.reduceBEq, Bool.or_false, Bool.false_or, Bool.or_true, Bool.true_or, Nat.reduceLeDiff, Nat.reduceLT, beqI, bneI, List.length_map, decide_true, decide_false, Int.reduceEq, Int.reduceLT, Int.reduceLE, Int.reduceGE, Int.reduceGT, not_true_eq_false, not_false_eq_true, Bool.and_true, Bool.true_and, Bool.and_false, Bool.false_and, and_true, true_and, and_self, Bool.not_not, Int.toNat_natCast, List.length_take, *]) <;> (first | done | rfl | omega | (simp; done) | (simp; omega)), by (try simp only [go_sem, ↓reduceIte, Nat.reduceEqDiff, Nat.reduceAdd, reduceCtorEq, CCT, CCv, CCr, CCk, CCx, List.isEmpty_nil, Nat.reduceBNe, Nat.reduceBEq, Bool.or_false, Bool.false_or, Bool.or_true, Bool.true_or, Nat.reduceLeDiff, Nat.reduceLT, beqI, bneI, List.length_map, decide_true, decide_false, Int.reduceEq, Int.reduceLT, Int.reduceLE, Int.reduceGE, Int.reduceGT, not_true_eq_false, not_false_eq_true, Bool.and_true, Bool.true_and, Bool.and_false, Bool.false_and, and_true, true_and, and_self, Bool.not_not, Int.toNat_natCast, List.length_take, *]) <;> (first | done | rfl | omega | (simp; done) | (simp; omega)), by (try simp only [go_sem, ↓reduceIte, Nat.reduceEqDiff, Nat.reduceAdd, reduceCtorEq, CCT, CCv, CCr, CCk, CCx, List.isEmpty_nil, Nat.reduceBNe, Nat.reduceBEq, Bool.or_false, Bool.false_or, Bool.or_true, Bool.true_or, Nat.reduceLeDiff, Nat.reduceLT, beqI, bneI, List.length_map, decide_true, decide_false, Int.reduceEq, Int.reduceLT, Int.reduceLE, Int.reduceGE, Int.reduceGT, not_true_eq_false, not_false_eq_true, Bool.and_true, Bool.true_and, Bool.and_false, Bool.false_and, and_true, true_and, and_self, Bool.not_not, Int.toNat_natCast, List.length_take, *]) <;> (first | done | rfl | omega | (simp; done) | (simp; omega)), o1, o2⟩
  · rintro ρ s ⟨h2, h3, h5, o1, o2⟩ K' hx hr
    have hlt : ¬ ((10 : Nat) : Int) < 10 := by omega
    simp only [go_sem, ↓reduceIte, Nat.reduceEqDiff, Nat.reduceAdd, reduceCtorEq, CCT, CCv, CCr, CCk, CCx, List.isEmpty_nil, Nat.reduceBNe, Nat.reduceBEq, Bool.or_false, Bool.false_or, Bool.or_true, Bool.true_or, Nat.reduceLeDiff, Nat.reduceLT, beqI, bneI, List.length_map, decide_true, decide_false, Int.reduceEq, Int.reduceLT, Int.reduceLE, Int.reduceGE, Int.reduceGT, not_true_eq_false, not_false_eq_true, Bool.and_true, Bool.true_and, Bool.and_false, Bool.false_and, and_true, true_and, and_self, Bool.not_not, hx, h2, h3, h5, hlt]
    clear hx hr hlt h5
    refine W.iter_rule (fun i ρ s' => ρ 2 = .ptr 33 0 [0] ∧ ρ 3 = .ptr 33 1 [0] ∧ ρ 6 = .int .i64 i ∧ s'.obj 0 = some (.cells 33 [encS t r1]) ∧ s'.obj 1 = some (.cells 33 [encS t r2])) 8 ?_ ?_ _ 0 _ _ (Nat.zero_le _) ?_ ?_
    · clear o1 o2 h2 h3
      rintro i ρ s hi ⟨h2, h3, h5, o1, o2⟩ K' hK hx hr
      have hlt : (i : Int) < 8 := by omega
      have hwrap : IntKind.i64.wrap ((i : Int) + 1) = ((i + 1 : Nat) : Int) := by rw [IntKind.wrap_i64]; omega
      have hix := fun a => ix_slot a [0, 1] i hi
      simp only [List.cons_append, List.nil_append] at hix
      obtain ⟨w, hw⟩ : ∃ w, t.slots[i]? = some w := ⟨_, List.getElem?_eq_getElem (by rw [ho.2]; exact hi)⟩
      have hg : (t.slots.map encW)[i]? = some (encW w) := by rw [List.getElem?_map, hw]; rfl
      have o1' := o1
      have o2' := o2
      simp only [encS] at o1' o2'
      simp only [encW] at hg
      simp only [go_sem, ↓reduceIte, Nat.reduceEqDiff, Nat.reduceAdd, reduceCtorEq, CCT, CCv, CCr, CCk, CCx, List.isEmpty_nil, Nat.reduceBNe, Nat.reduceBEq, Bool.or_false, Bool.false_or, Bool.or_true, Bool.true_or, Nat.reduceLeDiff, Nat.reduceLT, beqI, bneI, List.length_map, decide_true, decide_false, Int.reduceEq, Int.reduceLT, Int.reduceLE, Int.reduceGE, Int.reduceGT, not_true_eq_false, not_false_eq_true, Bool.and_true, Bool.true_and, Bool.and_false, Bool.false_and, and_true, true_and, and_self, Bool.not_not, h2, h3, h5, o1', o2', hlt]
      refine W.br_ok (by kernel_rfl) ?_
      simp only [go_sem, ↓reduceIte, Nat.reduceEqDiff, Nat.reduceAdd, reduceCtorEq, CCT, CCv, CCr, CCk, CCx, List.isEmpty_nil, Nat.reduceBNe, Nat.reduceBEq, Bool.or_false, Bool.false_or, Bool.or_true, Bool.true_or, Nat.reduceLeDiff, Nat.reduceLT, beqI, bneI, List.length_map, decide_true, decide_false, Int.reduceEq, Int.reduceLT, Int.reduceLE, Int.reduceGE, Int.reduceGT, not_true_eq_false, not_false_eq_true, Bool.and_true, Bool.true_and, Bool.and_false, Bool.false_and, and_true, true_and, and_self, Bool.not_not, h2, h3, h5, o1', o2', hlt, hix, hg, hwrap, beq_self_eq_true]
      refine hK _ _ ?_
      exact ⟨by (try simp only [go_sem, ↓reduceIte, Nat.reduceEqDiff, Nat.reduceAdd, reduceCtorEq, CCT, CCv, CCr, CCk, CCx, List.isEmpty_nil, Nat.reduceBNe, Nat.reduceBEq, Bool.or_false, Bool.false_or, Bool.or_true, Bool.true_or, Nat.reduceLeDiff, Nat.reduceLT, beqI, bneI, List.length_map, decide_true, decide_false, Int.reduceEq, Int.reduceLT, Int.reduceLE, Int.reduceGE, Int.reduceGT, not_true_eq_false, not_false_eq_true, Bool.and_true, Bool.true_and, Bool.and_false, Bool.false_and, and_true, true_and, and_self, Bool.not_not, Int.toNat_natCast, List.length_take, *]) <;> (first | done | rfl | omega | (simp; done) | (simp; omega)), by (try simp only [go_sem, ↓reduceIte, Nat.reduceEqDiff, Nat.reduceAdd, reduceCtorEq, CCT, CCv, CCr, CCk, CCx, List.isEmpty_nil, Nat.reduceBNe, Nat.reduceBEq, Bool.or_false, Bool.false_or, Bool.or_true, Bool.true_or, Nat.reduceLeDiff, Nat.reduceLT, beqI, bneI, List.length_map, decide_true, decide_false, Int.reduceEq, Int.reduceLT, Int.reduceLE, Int.reduceGE, Int.reduceGT, not_true_eq_false, not_false_eq_true, Bool.and_true, Bool.true_and, Bool.and_false, Bool.false_and, and_true, true_and, and_self, Bool.not_not, Int.toNat_natCast, List.length_take, *]) <;> (first | done | rfl | omega | (simp; done) | (simp; omega)), by (try simp only [go_sem, ↓reduceIte, Nat.reduceEqDiff, Nat.reduceAdd, reduceCtorEq, CCT, CCv, CCr, CCk, CCx, List.isEmpty_nil, Nat.reduceBNe, Nat.reduceBEq, Bool.or_false, Bool.false_or, Bool.or_true, Bool.true_or, Nat.reduceLeDiff, Nat.reduceLT, beqI, bneI, List.length_map, decide_true, decide_false, Int.reduceEq, Int.reduceLT, Int.reduceLE, Int.reduceGE, Int.reduceGT, not_true_eq_false, not_false_eq_true, Bool.and_true, Bool.true_and, Bool.and_false, Bool.false_and, and_true, true_and, and_self, Bool.not_not, Int.toNat_natCast, List.length_take, *]) <;> (first | done | rfl | omega | (simp; done) | (simp; omega)), o1, o2⟩
    · clear o1 o2 h2 h3
      rintro ρ s ⟨h2, h3, h5, o1, o2⟩ K' hx hr
      have hlt : ¬ ((8 : Nat) : Int) < 8 := by omega
      simp only [encS] at o1 o2
      simp only [go_sem, ↓reduceIte, Nat.reduceEqDiff, Nat.reduceAdd, reduceCtorEq, CCT, CCv, CCr, CCk, CCx, List.isEmpty_nil, Nat.reduceBNe, Nat.reduceBEq, Bool.or_false, Bool.false_or, Bool.or_true, Bool.true_or, Nat.reduceLeDiff, Nat.reduceLT, beqI, bneI, List.length_map, decide_true, decide_false, Int.reduceEq, Int.reduceLT, Int.reduceLE, Int.reduceGE, Int.reduceGT, not_true_eq_false, not_false_eq_true, Bool.and_true, Bool.true_and, Bool.and_false, Bool.false_and, and_true, true_and, and_self, Bool.not_not, hx, h2, h3, h5, hlt, o1, o2, np, z1, z2, s1, s2, v1, v2, hR, List.append_nil, beq_self_eq_true]
      rw [callVal_go2 _ _ _ _ _ _ _ (np _)]
      simp only [go_sem, ↓reduceIte, Nat.reduceEqDiff, Nat.reduceAdd, reduceCtorEq, CCT, CCv, CCr, CCk, CCx, List.isEmpty_nil, Nat.reduceBNe, Nat.reduceBEq, Bool.or_false, Bool.false_or, Bool.or_true, Bool.true_or, Nat.reduceLeDiff, Nat.reduceLT, beqI, bneI, List.length_map, decide_true, decide_false, Int.reduceEq, Int.reduceLT, Int.reduceLE, Int.reduceGE, Int.reduceGT, not_true_eq_false, not_false_eq_true, Bool.and_true, Bool.true_and, Bool.and_false, Bool.false_and, and_true, true_and, and_self, Bool.not_not, hx, h2, h3, h5, hlt, o1, o2, np, z1, z2, s1, s2, v1, v2, hR, List.append_nil, beq_self_eq_true]
      rfl
    · show 8 < 0 + 9223372036854775900
      omega
    · exact ⟨by (try simp only [go_sem, ↓reduceIte, Nat.reduceEqDiff, Nat.reduceAdd, reduceCtorEq, CCT, CCv, CCr, CCk, CCx, List.isEmpty_nil, Nat.reduceBNe, Nat.reduceBEq, Bool.or_false, Bool.false_or, Bool.or_true, Bool.true_or, Nat.reduceLeDiff, Nat.reduceLT, beqI, bneI, List.length_map, decide_true, decide_false, Int.reduceEq, Int.reduceLT, Int.reduceLE, Int.reduceGE, Int.reduceGT, not_true_eq_false, not_false_eq_true, Bool.and_true, Bool.true_and, Bool.and_false, Bool.false_and, and_true, true_and, and_self, Bool.not_not, Int.toNat_natCast, List.length_take, *]) <;> (first | done | rfl | omega | (simp; done) | (simp; omega)), by (try simp only [go_sem, ↓reduceIte, Nat.reduceEqDiff, Nat.reduceAdd, reduceCtorEq, CCT, CCv, CCr, CCk, CCx, List.isEmpty_nil, Nat.reduceBNe, Nat.reduceBEq, Bool.or_false, Bool.false_or, Bool.or_true, Bool.true_or, Nat.reduceLeDiff, Nat.reduceLT, beqI, bneI, List.length_map, decide_true, decide_false, Int.reduceEq, Int.reduceLT, Int.reduceLE, Int.reduceGE, Int.reduceGT, not_true_eq_false, not_false_eq_true, Bool.and_true, Bool.true_and, Bool.and_false, Bool.false_and, and_true, true_and, and_self, Bool.not_not, Int.toNat_natCast, List.length_take, *]) <;> (first | done | rfl | omega | (simp; done) | (simp; omega)), by (try simp only [go_sem, ↓reduceIte, Nat.reduceEqDiff, Nat.reduceAdd, reduceCtorEq, CCT, CCv, CCr, CCk, CCx, List.isEmpty_nil, Nat.reduceBNe, Nat.reduceBEq, Bool.or_false, Bool.false_or, Bool.or_true, Bool.true_or, Nat.reduceLeDiff, Nat.reduceLT, beqI, bneI, List.length_map, decide_true, decide_false, Int.reduceEq, Int.reduceLT, Int.reduceLE, Int.reduceGE, Int.reduceGT, not_true_eq_false, not_false_eq_true, Bool.and_true, Bool.true_and, Bool.and_false, Bool.false_and, and_true, true_and, and_self, Bool.not_not, Int.toNat_natCast, List.length_take, *]) <;> (first | done | rfl | omega | (simp; done) | (simp; omega)), o1, o2⟩
  · show 10 < 0 + 9223372036854775900
    omega
  · exact ⟨by (try simp only [go_sem, ↓reduceIte, Nat.reduceEqDiff, Nat.reduceAdd, reduceCtorEq, CCT, CCv, CCr, CCk, CCx, List.isEmpty_nil, Nat.reduceBNe, Nat.reduceBEq, Bool.or_false, Bool.false_or, Bool.or_true, Bool.true_or, Nat.reduceLeDiff, Nat.reduceLT, beqI, bneI, List.length_map, decide_true, decide_false, Int.reduceEq, Int.reduceLT, Int.reduceLE, Int.reduceGE, Int.reduceGT, not_true_eq_false, not_false_eq_true, Bool.and_true, Bool.true_and, Bool.and_false, Bool.false_and, and_true, true_and, and_self, Bool.not_not, Int.toNat_natCast, List.length_take, *]) <;> (first | done | rfl | omega | (simp; done) | (simp; omega)), by (try simp only [go_sem, ↓reduceIte, Nat.reduceEqDiff, Nat.reduceAdd, reduceCtorEq, CCT, CCv, CCr, CCk, CCx, List.isEmpty_nil, Nat.reduceBNe, Nat.reduceBEq, Bool.or_false, Bool.false_or, Bool.or_true, Bool.true_or, Nat.reduceLeDiff, Nat.reduceLT, beqI, bneI, List.length_map, decide_true, decide_false, Int.reduceEq, Int.reduceLT, Int.reduceLE, Int.reduceGE, Int.reduceGT, not_true_eq_false, not_false_eq_true, Bool.and_true, Bool.true_and, Bool.and_false, Bool.false_and, and_true, true_and, and_self, Bool.not_not, Int.toNat_natCast, List.length_take, *]) <;> (first | done | rfl | omega | (simp; done) | (simp; omega)), by (try simp only [go_sem, ↓reduceIte, Nat.reduceEqDiff, Nat.reduceAdd, reduceCtorEq, CCT, CCv, CCr, CCk, CCx, List.isEmpty_nil, Nat.reduceBNe, Nat.reduceBEq, Bool.or_false, Bool.false_or, Bool.or_true, Bool.true_or, Nat.reduceLeDiff, Nat.reduceLT, beqI, bneI, List.length_map, decide_true, decide_false, Int.reduceEq, Int.reduceLT, Int.reduceLE, Int.reduceGE, Int.reduceGT, not_true_eq_false, not_false_eq_true, Bool.and_true, Bool.true_and, Bool.and_false, Bool.false_and, and_true, true_and, and_self, Bool.not_not, Int.toNat_natCast, List.length_take, *]) <;> (first | done | rfl | omega | (simp; done) | (simp; omega)), by rfl, by rfl⟩
theorem ix_regk (k : IntKind) (id : Nat) (p : List Nat) (i : Nat) (h : i < 10) : aIndexAddr T 29 (.ptr 29 id p) (.int k (i : Int)) = some (.ptr 28 id (p ++ [i])) := by
  simp only [aIndexAddr, ty_29]
  rw [if_pos ⟨by simp [Tab.same], by omega, by omega⟩]
  rw [Int.toNat_natCast]
theorem ix_slotk (k : IntKind) (id : Nat) (p : List Nat) (i : Nat) (h : i < 8) : aIndexAddr T 30 (.ptr 30 id p) (.int k (i : Int)) = some (.ptr 28 id (p ++ [i])) := by
  simp only [aIndexAddr, ty_30]
  rw [if_pos ⟨by simp [Tab.same], by omega, by omega⟩]
  rw [Int.toNat_natCast]
theorem set_rep {α : Type} (n j : Nat) (x : α) : (List.replicate n x).set j x = List.replicate n x := by
  apply List.ext_getElem?
  intro i
  rw [List.getElem?_set]
  split
  · rename_i h
    subst h
    by_cases hn : j < n <;> simp [hn]
  · rfl
theorem as_call' {f g : List Wht → List Wht} (ha : Aside f g) (hn : asS f g noS = noS) {K : Kx} {s : Sta} {what n : Int} : callS K (asS f g s) what n = (asS f g (callS K s what n).1, (callS K s what n).2) := by
  rw [as_call ha]
  unfold callS
  split
  · rfl
  · show _ = (asS f g noS, _)
    rw [hn]
theorem call_ok (K : Kx) {s : Sta} (h : SOk s) (what n : Int) : SOk (callS K s what n).1 := by
  unfold callS
  split
  · exact end_ok (done_ok K h what n)
  · exact ⟨rfl, rfl⟩
theorem reg_set {s : Sta} (h : SOk s) {j : Nat} (hj : j < 10) : (∃ w : Wht, (s.regs.map encW)[j]? = some (.agg 28 [.int .i64 w.kind, .int .i64 w.type, .int .i64 w.id, .int .i64 w.link, .bool w.maybe, .agg 26 [.int .u64 w.lo, .int .u64 w.hi]])) ∧ (s.regs.map encW).set j (.agg 28 [.int .i64 0, .int .i64 0, .int .i64 0, .int .i64 0, .bool false, .agg 26 [.int .u64 0, .int .u64 0]]) = (s.regs.set j junk).map encW := by
  refine ⟨⟨s.regs[j]'(by rw [h.1]; exact hj), ?_⟩, ?_⟩
  · rw [List.getElem?_map, List.getElem?_eq_getElem (by rw [h.1]; exact hj)]; rfl
  · rw [List.map_set]; rfl
theorem slot_set {s : Sta} (h : SOk s) {j : Nat} (hj : j < 8) : (∃ w : Wht, (s.slots.map encW)[j]? = some (.agg 28 [.int .i64 w.kind, .int .i64 w.type, .int .i64 w.id, .int .i64 w.link, .bool w.maybe, .agg 26 [.int .u64 w.lo, .int .u64 w.hi]])) ∧ (s.slots.map encW).set j (.agg 28 [.int .i64 0, .int .i64 0, .int .i64 0, .int .i64 0, .bool false, .agg 26 [.int .u64 0, .int .u64 0]]) = (s.slots.set j junk).map encW := by
  refine ⟨⟨s.slots[j]'(by rw [h.2]; exact hj), ?_⟩, ?_⟩
  · rw [List.getElem?_map, List.getElem?_eq_getElem (by rw [h.2]; exact hj)]; rfl
  · rw [List.map_set]; rfl
theorem no_le (i : Int) (xs : List Int) : (no i xs).length ≤ xs.length := List.length_filter_le _ _
theorem want_le {m : Nat} {c : Cal} (h : c.st.refs.length ≤ m) (b : Bool) (e : Int) : (wantS c b e).st.refs.length ≤ m := by rw [wst]; exact h
theorem lock_le {m : Nat} {K : Kx} {c : Cal} (h : c.st.refs.length ≤ m) (k : Int) : (lockS K c k).st.refs.length ≤ m := by rw [lkst]; exact h
theorem then_le {m : Nat} {c : Cal} {f : Cal → Cal} (h : c.st.refs.length ≤ m) (hf : ∀ c, c.st.refs.length ≤ m → (f c).st.refs.length ≤ m + 1) : (thenS c f).st.refs.length ≤ m + 1 := by
  unfold thenS
  split
  · exact hf c h
  · exact Nat.le_succ_of_le h
theorem own_le {m : Nat} {c : Cal} (h : c.st.refs.length ≤ m) (t : Int) (b : Bool) : (ownS c t b).st.refs.length ≤ m + 1 := by
  show (c.st.refs ++ [c.st.next]).length ≤ _
  rw [List.length_append]; exact Nat.succ_le_succ h
theorem spend_le {m : Nat} {c : Cal} (h : c.st.refs.length ≤ m) (w : Wht) : (spendS c w).st.refs.length ≤ m := Nat.le_trans (no_le _ _) h
theorem into_le {m : Nat} {K : Kx} {c : Cal} (h : c.st.refs.length ≤ m) (k : Int) : (intoS K c k).st.refs.length ≤ m + 1 := then_le (want_le (want_le (lock_le h k) _ _) _ _) fun c hc => Nat.le_succ_of_le (spend_le hc _)
theorem done_len (K : Kx) (s : Sta) (what n : Int) : (doneS K s what n).st.refs.length ≤ s.refs.length + 1 := by
  have hb : (begC s n).st.refs.length ≤ s.refs.length := Nat.le_refl _
  unfold doneS
  generalize begC s n = c at hb ⊢
  split
  · unfold objectS
    split
    · exact then_le (want_le hb _ _) fun c hc => own_le hc _ _
    split
    · exact then_le (want_le hb _ _) fun c hc => Nat.le_succ_of_le (spend_le hc _)
    · exact then_le (want_le (want_le hb _ _) _ _) fun c hc => own_le hc _ _
  split
  · unfold tableS
    simp only
    split
    · split
      · exact then_le (want_le (want_le (want_le hb _ _) _ _) _ _) fun c hc => Nat.le_succ_of_le hc
      · exact Nat.le_succ_of_le (want_le (want_le hb _ _) _ _)
    · exact Nat.le_succ_of_le (want_le hb _ _)
  split
  · unfold regionS
    split
    · exact Nat.le_succ_of_le (want_le (want_le (want_le hb (handS c.x [5]) 8) (lockF K.l c.x.type 12) 7) (decide (c.st.lock = 0)) 9)
    split
    · exact Nat.le_succ_of_le (want_le hb (heldS c) 9)
    split
    · exact Nat.le_succ_of_le (want_le hb (!c.st.sec) 9)
    · exact Nat.le_succ_of_le (want_le hb (c.st.sec && decide (c.st.lock = 0)) 9)
  split
  · unfold listS
    split
    · exact into_le hb _
    split
    · exact Nat.le_succ_of_le (lock_le hb _)
    · exact own_le (show (loosenS (lockS K c 5)).st.refs.length ≤ _ from lock_le (K := K) hb 5) _ _
  split
  · unfold treeS
    split
    · exact into_le hb _
    split
    · exact Nat.le_succ_of_le (lock_le hb _)
    split
    · exact then_le (want_le (lock_le hb _) _ _) fun c hc => own_le (show (loosenS c).st.refs.length ≤ _ from hc) _ _
    · exact Nat.le_succ_of_le (want_le (want_le (want_le hb _ _) _ _) _ _)
  split
  · unfold pointerS
    split
    · exact Nat.le_succ_of_le (want_le (want_le (want_le hb _ _) _ _) _ _)
    · exact then_le (want_le (want_le (want_le (want_le hb _ _) _ _) _ _) _ _) fun c hc => own_le (by split; exact spend_le hc _; exact hc) _ _
  · exact Nat.le_succ_of_le hb
theorem call_len (K : Kx) {s : Sta} (h : s.refs.length ≤ 17592186044415) (what n : Int) : (callS K s what n).1.refs.length ≤ 17592186044416 := by
  unfold callS
  split
  · exact Nat.le_trans (done_len K s what n) (Nat.succ_le_succ h)
  · exact Nat.zero_le _
set_option maxHeartbeats 8000000 in
theorem law3 (K : Kx) (s : Sta) (r : AV) (ha : Args K s r) (what n : Int) (hn0 : 0 ≤ n) (hn1 : n < 4294967296) (which : Int) (hw0 : 0 ≤ which) (hw1 : which < 256) :
    ∃ σ', evalF Try.prog CC 80 3 [.list 49 K.bl (K.l.map encTy) none, .list 54 K.bm (K.ms.map encM) none, encS s r, .int .u8 what, .int .u32 n, .int .u8 which] St.empty = some (.bool true, σ') := by
  have hsh := shown_c 59
  obtain ⟨fb, hfit⟩ := fits_c 19 K ha.l ha.ms
  obtain ⟨r', hr', hp', hcall⟩ := Call_c 70 K s r ha.ref ha.ok ha.len what n hn0 hn1
  have hz := fun σ => ha.ref.fz σ
  have hst := ha.ref.strip
  have hvi := ha.ref.views
  simp only [encS] at hcall
  have hsh : evalF Try.prog CC 79 7 [] St.empty = _ := hsh
  have hfit : evalF Try.prog CC 79 8 _ _ = _ := hfit
  have hcall : evalF Try.prog CC 79 9 _ _ = _ := hcall
  refine (show Wp (fun x => ∃ σ', x = some ((AV.bool true, σ') : AV × St)) _ from ?_)
  rw [run_3 _ _ _ (by simp)]; unfold Try.f3; simp only [Option.getD_some]
  cases fb
  · simp only [go_sem, ↓reduceIte, Nat.reduceEqDiff, Nat.reduceAdd, reduceCtorEq, CCT, CCv, CCr, CCk, CCx, List.isEmpty_nil, Nat.reduceBNe, Nat.reduceBEq, Bool.or_false, Bool.false_or, Bool.or_true, Bool.true_or, Nat.reduceLeDiff, Nat.reduceLT, beqI, bneI, List.length_map, decide_true, decide_false, Int.reduceEq, Int.reduceLT, Int.reduceLE, Int.reduceGE, Int.reduceGT, not_true_eq_false, not_false_eq_true, Bool.and_true, Bool.true_and, Bool.and_false, Bool.false_and, and_true, true_and, and_self, Bool.not_not, hsh, hfit]
    exact ⟨_, rfl⟩
  simp only [go_sem, ↓reduceIte, Nat.reduceEqDiff, Nat.reduceAdd, reduceCtorEq, CCT, CCv, CCr, CCk, CCx, List.isEmpty_nil, Nat.reduceBNe, Nat.reduceBEq, Bool.or_false, Bool.false_or, Bool.or_true, Bool.true_or, Nat.reduceLeDiff, Nat.reduceLT, beqI, bneI, List.length_map, decide_true, decide_false, Int.reduceEq, Int.reduceLT, Int.reduceLE, Int.reduceGE, Int.reduceGT, not_true_eq_false, not_false_eq_true, Bool.and_true, Bool.true_and, Bool.and_false, Bool.false_and, and_true, true_and, and_self, Bool.not_not, hsh, hfit, hz, frz_W, strip_W, hst, view_W, hvi, List.append_nil]
  refine call_tupS hcall (by simpa only [encS] using encS_pureA hp') rfl (by first | rfl | simp [view_W, hvi, viewIdsL, viewIds]) ?_
  clear hcall
  have hm0 : 0 ≤ which.tmod 12 := by rw [Int.tmod_eq_emod_of_nonneg hw0]; omega
  have hm1 : which.tmod 12 < 12 := by rw [Int.tmod_eq_emod_of_nonneg hw0]; omega
  obtain ⟨q, r2, hq, hqs, hrs, hrp, hv1, hv2⟩ := hr'.fz
  by_cases hlt0 : which.tmod 12 < 4
  · simp only [go_sem, ↓reduceIte, Nat.reduceEqDiff, Nat.reduceAdd, reduceCtorEq, CCT, CCv, CCr, CCk, CCx, List.isEmpty_nil, Nat.reduceBNe, Nat.reduceBEq, Bool.or_false, Bool.false_or, Bool.or_true, Bool.true_or, Nat.reduceLeDiff, Nat.reduceLT, beqI, bneI, List.length_map, decide_true, decide_false, Int.reduceEq, Int.reduceLT, Int.reduceLE, Int.reduceGE, Int.reduceGT, not_true_eq_false, not_false_eq_true, Bool.and_true, Bool.true_and, Bool.and_false, Bool.false_and, and_true, true_and, and_self, Bool.not_not, hlt0]
    obtain ⟨j, hj⟩ : ∃ j : Nat, which.tmod 12 = (j : Int) := ⟨(which.tmod 12).toNat, by omega⟩
    have hj1 : j < 4 := by omega
    have hw1 : IntKind.u8.wrap (6 + which.tmod 12) = (6 + j : Nat) := by rw [hj, IntKind.wrap_u8]; omega
    have hix := fun id => ix_regk .u8 id [0, 0] (6 + j) (by omega)
    simp only [List.cons_append, List.nil_append] at hix
    have hA := aside_reg j hj1
    have hnS : asS (fun l => l.set (6 + j) junk) id noS = noS := by
      unfold asS noS
      simp only [id, set_rep]
    have hok2 : SOk (asS (fun l => l.set (6 + j) junk) id s) := ⟨by rw [← ha.ok.1]; exact List.length_set, ha.ok.2⟩
    obtain ⟨rb, hrb, hpb, hcallb⟩ := Call_c 70 K (asS (fun l => l.set (6 + j) junk) id s) r ha.ref hok2 ha.len what n hn0 hn1
    rw [as_call' hA hnS] at hrb hcallb
    have hcallb : evalF Try.prog CC 79 9 _ _ = _ := hcallb
    obtain ⟨q2, r3, hq2, hqs2, hrs2, hrp2, hv3, hv4⟩ := hrb.fz
    have hokt := call_ok K ha.ok what n
    have hlt := call_len K ha.len what n
    obtain ⟨⟨w, h2⟩, hset⟩ := reg_set ha.ok (j := 6 + j) (by omega)
    obtain ⟨⟨w', g2⟩, gset⟩ := reg_set hokt (j := 6 + j) (by omega)
    generalize (callS K s what n).2 = e at hcallb ⊢
    generalize (callS K s what n).1 = t at *
    have hokt2 : SOk (asS (fun l => l.set (6 + j) junk) id t) := ⟨by rw [← hokt.1]; exact List.length_set, hokt.2⟩
    have hsame := Same_c 77 (asS (fun l => l.set (6 + j) junk) id t) r2 r3 hrp hrp2 hokt2 hlt
    simp only [encS, asS, id] at hcallb hsame
    have hsame : evalF Try.prog CC 79 10 _ _ = _ := hsame
    simp only [go_sem, ↓reduceIte, Nat.reduceEqDiff, Nat.reduceAdd, reduceCtorEq, CCT, CCv, CCr, CCk, CCx, List.isEmpty_nil, Nat.reduceBNe, Nat.reduceBEq, Bool.or_false, Bool.false_or, Bool.or_true, Bool.true_or, Nat.reduceLeDiff, Nat.reduceLT, beqI, bneI, List.length_map, decide_true, decide_false, Int.reduceEq, Int.reduceLT, Int.reduceLE, Int.reduceGE, Int.reduceGT, not_true_eq_false, not_false_eq_true, Bool.and_true, Bool.true_and, Bool.and_false, Bool.false_and, and_true, true_and, and_self, Bool.not_not, hw1, hix, h2, hset, hz, frz_W, strip_W, hst, view_W, hvi, List.append_nil]
    refine call_tupS hcallb (by simpa only [encS, asS, id] using encS_pureA (s := asS (fun l => l.set (6 + j) junk) id t) hpb) rfl (by simp only [view_W, hvi, viewIdsL, viewIds, List.append_nil]) ?_
    simp only [go_sem, ↓reduceIte, Nat.reduceEqDiff, Nat.reduceAdd, reduceCtorEq, CCT, CCv, CCr, CCk, CCx, List.isEmpty_nil, Nat.reduceBNe, Nat.reduceBEq, Bool.or_false, Bool.false_or, Bool.or_true, Bool.true_or, Nat.reduceLeDiff, Nat.reduceLT, beqI, bneI, List.length_map, decide_true, decide_false, Int.reduceEq, Int.reduceLT, Int.reduceLE, Int.reduceGE, Int.reduceGT, not_true_eq_false, not_false_eq_true, Bool.and_true, Bool.true_and, Bool.and_false, Bool.false_and, and_true, true_and, and_self, Bool.not_not, hlt0, hw1, hix, g2, gset, hz, hq, hqs, hrs, hv1, hv2, hq2, hqs2, hrs2, hv3, hv4, frz_W, strip_W, view_W, List.append_nil, hsame]
    exact ⟨_, rfl⟩
  · simp only [go_sem, ↓reduceIte, Nat.reduceEqDiff, Nat.reduceAdd, reduceCtorEq, CCT, CCv, CCr, CCk, CCx, List.isEmpty_nil, Nat.reduceBNe, Nat.reduceBEq, Bool.or_false, Bool.false_or, Bool.or_true, Bool.true_or, Nat.reduceLeDiff, Nat.reduceLT, beqI, bneI, List.length_map, decide_true, decide_false, Int.reduceEq, Int.reduceLT, Int.reduceLE, Int.reduceGE, Int.reduceGT, not_true_eq_false, not_false_eq_true, Bool.and_true, Bool.true_and, Bool.and_false, Bool.false_and, and_true, true_and, and_self, Bool.not_not, hlt0]
    obtain ⟨j, hj⟩ : ∃ j : Nat, which.tmod 12 = (j : Int) + 4 := ⟨(which.tmod 12 - 4).toNat, by omega⟩
    have hj1 : j < 8 := by omega
    have hw1 : IntKind.u8.wrap (which.tmod 12 - 4) = (j : Nat) := by rw [hj, IntKind.wrap_u8]; omega
    have hix := fun id => ix_slotk .u8 id [0, 1] (j) (by omega)
    simp only [List.cons_append, List.nil_append] at hix
    have hA := aside_slot j
    have hnS : asS id (fun l => l.set j junk) noS = noS := by
      unfold asS noS
      simp only [id, set_rep]
    have hok2 : SOk (asS id (fun l => l.set j junk) s) := ⟨ha.ok.1, by rw [← ha.ok.2]; exact List.length_set⟩
    obtain ⟨rb, hrb, hpb, hcallb⟩ := Call_c 70 K (asS id (fun l => l.set j junk) s) r ha.ref hok2 ha.len what n hn0 hn1
    rw [as_call' hA hnS] at hrb hcallb
    have hcallb : evalF Try.prog CC 79 9 _ _ = _ := hcallb
    obtain ⟨q2, r3, hq2, hqs2, hrs2, hrp2, hv3, hv4⟩ := hrb.fz
    have hokt := call_ok K ha.ok what n
    have hlt := call_len K ha.len what n
    obtain ⟨⟨w, h2⟩, hset⟩ := slot_set ha.ok (j := j) (by omega)
    obtain ⟨⟨w', g2⟩, gset⟩ := slot_set hokt (j := j) (by omega)
    generalize (callS K s what n).2 = e at hcallb ⊢
    generalize (callS K s what n).1 = t at *
    have hokt2 : SOk (asS id (fun l => l.set j junk) t) := ⟨hokt.1, by rw [← hokt.2]; exact List.length_set⟩
    have hsame := Same_c 77 (asS id (fun l => l.set j junk) t) r2 r3 hrp hrp2 hokt2 hlt
    simp only [encS, asS, id] at hcallb hsame
    have hsame : evalF Try.prog CC 79 10 _ _ = _ := hsame
    simp only [go_sem, ↓reduceIte, Nat.reduceEqDiff, Nat.reduceAdd, reduceCtorEq, CCT, CCv, CCr, CCk, CCx, List.isEmpty_nil, Nat.reduceBNe, Nat.reduceBEq, Bool.or_false, Bool.false_or, Bool.or_true, Bool.true_or, Nat.reduceLeDiff, Nat.reduceLT, beqI, bneI, List.length_map, decide_true, decide_false, Int.reduceEq, Int.reduceLT, Int.reduceLE, Int.reduceGE, Int.reduceGT, not_true_eq_false, not_false_eq_true, Bool.and_true, Bool.true_and, Bool.and_false, Bool.false_and, and_true, true_and, and_self, Bool.not_not, hw1, hix, h2, hset, hz, frz_W, strip_W, hst, view_W, hvi, List.append_nil]
    refine call_tupS hcallb (by simpa only [encS, asS, id] using encS_pureA (s := asS id (fun l => l.set j junk) t) hpb) rfl (by simp only [view_W, hvi, viewIdsL, viewIds, List.append_nil]) ?_
    simp only [go_sem, ↓reduceIte, Nat.reduceEqDiff, Nat.reduceAdd, reduceCtorEq, CCT, CCv, CCr, CCk, CCx, List.isEmpty_nil, Nat.reduceBNe, Nat.reduceBEq, Bool.or_false, Bool.false_or, Bool.or_true, Bool.true_or, Nat.reduceLeDiff, Nat.reduceLT, beqI, bneI, List.length_map, decide_true, decide_false, Int.reduceEq, Int.reduceLT, Int.reduceLE, Int.reduceGE, Int.reduceGT, not_true_eq_false, not_false_eq_true, Bool.and_true, Bool.true_and, Bool.and_false, Bool.false_and, and_true, true_and, and_self, Bool.not_not, hlt0, hw1, hix, g2, gset, hz, hq, hqs, hrs, hv1, hv2, hq2, hqs2, hrs2, hv3, hv4, frz_W, strip_W, view_W, List.append_nil, hsame]
    exact ⟨_, rfl⟩
end Go.Proofs.Ytdbpnkemlmagoaa.Va
