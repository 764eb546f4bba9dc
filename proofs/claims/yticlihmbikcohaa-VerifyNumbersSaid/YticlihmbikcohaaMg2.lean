/- chapter 19: access to fields -/
import Derived.Test.YticlihmbikcohaaVaFun
import Derived.Test.YticlihmbikcohaaVaWp
import Derived.Test.YticlihmbikcohaaMg1

namespace Go.Proofs.Yticlihmbikcohaa.Va
open Go
set_option linter.unusedVariables false
set_option linter.unusedSimpArgs false
set_option maxRecDepth 100000
set_option maxHeartbeats 4000000
def accS (l : List Typ) (i : Ins) (s : Sta) (b : Wht) (ks : List Int) : Int :=
  let f := fldAt l b.type i.c
  let g := fldAt l (IntKind.i64.wrap (b.link.tdiv 16)) (b.link.tmod 16)
  let put := decide (i.op = 12 ∨ i.op = 13)
  if (!b.maybe && ks.contains b.kind) = false then 8
  else if f.kind ≠ 1 then 7
  else if put = true ∧ b.kind = 4 ∧ g.kind = 6 ∧ g.key = i.c then 9
  else if put = true ∧ numB (at0 s.regs i.a) = false then 7
  else if i.op = 11 ∨ i.op = 13 then (if numB (at0 s.regs i.imm) = false then 7 else if (at0 s.regs i.imm).hi ≥ IntKind.u64.wrap f.len then 4 else 0)
  else if i.imm ≥ IntKind.u64.wrap f.len then 4 else 0
end Go.Proofs.Yticlihmbikcohaa.Va

/- chapter 19: alu.Do comes to an end -/
namespace Go.Proofs.Yticlihmbikcohaa.Va
open Go
set_option linter.unusedVariables false
set_option linter.unusedSimpArgs false
set_option maxRecDepth 100000
theorem shl_T {k k2 : IntKind} {t : TypeId} {a n : Int} (hn : ¬ n < 0) : aBin T .shl t (.int k a) (.int k2 n) = some (.int k (k.wrap (a * 2 ^ (min n.toNat k.bits)))) := by
  unfold aBin
  simp [intBin, hn]
theorem shr_T {k k2 : IntKind} {t : TypeId} {a n : Int} (hn : ¬ n < 0) : aBin T .shr t (.int k a) (.int k2 n) = some (.int k (a.fdiv (2 ^ (min n.toNat k.bits)))) := by
  unfold aBin
  simp [intBin, hn]
end Go.Proofs.Yticlihmbikcohaa.Va

/- chapter 19: spans -/
namespace Go.Proofs.Yticlihmbikcohaa.Va
open Go
set_option linter.unusedVariables false
set_option linter.unusedSimpArgs false
set_option maxRecDepth 100000
theorem single_c (d : Nat) (lo hi : Int) : evalF Try.prog CC (d + 2) 52 [.agg 36 [.int .u64 lo, .int .u64 hi]] St.empty = some (.bool (decide (hi = lo)), St.empty) := by
  have q := fun d n => of_c d n
  refine wp_eq ?_
  rw [run_52 _ _ _ (by simp)]; unfold Try.f52; simp only [Option.getD_some]
  simp only [go_sem, *]
  refine W.br_ok (by kernel_rfl) ?_
  simp only [go_sem, q]
  rfl
def spanA (lo hi : Int) : AV := .agg 36 [.int .u64 lo, .int .u64 hi]
end Go.Proofs.Yticlihmbikcohaa.Va

/- chapter 19: what is known of sums, products, shifts -/
namespace Go.Proofs.Yticlihmbikcohaa.Va
open Go
set_option linter.unusedVariables false
set_option linter.unusedSimpArgs false
set_option maxRecDepth 100000
def andI (k : IntKind) (a b : Int) : Int := k.wrap (BitVec.ofInt k.bits a &&& BitVec.ofInt k.bits b).toNat
def orI (k : IntKind) (a b : Int) : Int := k.wrap (BitVec.ofInt k.bits a ||| BitVec.ofInt k.bits b).toNat
theorem and_T {k : IntKind} {t : TypeId} {a b : Int} : aBin T .and t (.int k a) (.int k b) = some (.int k (andI k a b)) := by simp [aBin, intBin, andI]
theorem or_T {k : IntKind} {t : TypeId} {a b : Int} : aBin T .or t (.int k a) (.int k b) = some (.int k (orI k a b)) := by simp [aBin, intBin, orI]
theorem u64_nn (x : Int) : 0 ≤ IntKind.u64.wrap x := by rw [IntKind.wrap_u64]; omega
theorem fdiv_nn {a : Int} (n : Nat) (h : 0 ≤ a) : 0 ≤ a.fdiv (2 ^ n) := Int.fdiv_nonneg h (Int.pow_nonneg (by omega))
def tab8 (s : ByteArray) : Bool := decide (s.size = 256) && (List.range 256).all fun i => match s.data.toList[i]? with | some b => decide (b.toNat ≤ 8) | none => false
theorem W.tab {R : Type} {P : Option R → Prop} {s : ByteArray} {x : Int} {k : AV → Option R} (h : tab8 s = true) (hk : ∀ v : Int, 0 ≤ v → v ≤ 8 → Wp P (k (.int .u8 v))) :
    Wp P (@bnd _ R (aIndex T 9 (.str s) (.int .u8 (IntKind.u8.wrap x))) ⟨k⟩) := by
  have hx : 0 ≤ IntKind.u8.wrap x ∧ IntKind.u8.wrap x < 256 := by rw [IntKind.wrap_u8]; omega
  generalize IntKind.u8.wrap x = y at hx
  simp only [tab8, Bool.and_eq_true, decide_eq_true_eq, List.all_eq_true, List.mem_range] at h
  have h2 := h.2 y.toNat (by omega)
  have ht : T.ty 9 = some .str := nr rfl
  have e : ∃ v : Nat, v ≤ 8 ∧ aIndex T 9 (.str s) (.int .u8 y) = some (.int .u8 v) := by
    unfold aIndex
    simp only [ht, true_and]
    rw [if_pos ⟨hx.1, by rw [h.1]; omega⟩]
    cases hg : s.data.toList[y.toNat]? with
    | none => rw [hg] at h2; simp at h2
    | some b => rw [hg] at h2; simp only [decide_eq_true_eq] at h2; exact ⟨b.toNat, h2, rfl⟩
  obtain ⟨v, hv, he⟩ := e
  rw [he]
  exact hk v (by omega) (by omega)
theorem len_some (d : Nat) (a : Int) : Wp (fun x => ∃ n : Int, (0 ≤ n ∧ n ≤ 64) ∧ x = some (.int .i64 n, St.empty)) (evalF Try.prog CC (d + 1) 108 [.int .u64 a] St.empty) := by
  have e1 := fun a => shr_T (k := .u64) (k2 := .u64) (t := 24) (a := a) (show ¬ (32 : Int) < 0 by omega)
  have e2 := fun a => shr_T (k := .u64) (k2 := .u64) (t := 24) (a := a) (show ¬ (16 : Int) < 0 by omega)
  have e3 := fun a => shr_T (k := .u64) (k2 := .u64) (t := 24) (a := a) (show ¬ (8 : Int) < 0 by omega)
  rw [run_108 _ _ _ (by simp)]; unfold Try.f108; simp only [Option.getD_some]
  simp only [go_sem, e1, e2, e3]
  repeat' (first | refine W.idx_at (by omega) (by omega) ?_; simp only [go_sem, *] | refine W.br_idx (by omega) (by omega) ?_; try simp only [go_sem, *] | refine W.bnd_at (by omega) (by omega) ?_; simp only [go_sem, *] | refine W.br_dec (fun h => ?_) (fun h => ?_) <;> simp only [go_sem, *] | refine W.want_dect (fun h => ?_) (fun h => ?_) <;> simp only [go_sem, *] | refine W.want_decf (fun h => ?_) (fun h => ?_) <;> simp only [go_sem, *] | refine W.br_ndec (fun h => ?_) (fun h => ?_) <;> simp only [go_sem, *] | refine W.want_ndect (fun h => ?_) (fun h => ?_) <;> simp only [go_sem, *] | refine W.want_ndecf (fun h => ?_) (fun h => ?_) <;> simp only [go_sem, *] | refine W.br_split (fun h => ?_) (fun h => ?_) <;> simp only [go_sem, *] | refine W.want_split (fun h => ?_) (fun h => ?_) <;> simp only [go_sem, *])
  all_goals
    refine W.tab (by kernel_rfl) fun v hv0 hv1 => ?_
    simp only [go_sem, *]
    refine ⟨_, ?_, rfl⟩
    simp only [IntKind.wrap_i64]
    omega
theorem lead_some (d : Nat) (a : Int) : Wp (fun x => ∃ n : Int, (0 ≤ n ∧ n ≤ 64) ∧ x = some (.int .i64 n, St.empty)) (evalF Try.prog CC (d + 2) 101 [.int .u64 a] St.empty) := by
  obtain ⟨n, hn, e⟩ := len_some d a
  rw [run_101 _ _ _ (by simp)]; unfold Try.f101; simp only [Option.getD_some]
  simp only [go_sem, e]
  refine ⟨_, ?_, rfl⟩
  simp only [IntKind.wrap_i64]
  omega
theorem filled_some (d : Nat) (a : Int) : Wp (fun x => ∃ n : Int, 0 ≤ n ∧ x = some (.int .u64 n, St.empty)) (evalF Try.prog CC (d + 3) 76 [.int .u64 a] St.empty) := by
  obtain ⟨n, hn, e⟩ := lead_some d a
  have e1 := fun a => shr_T (k := .u64) (k2 := .i64) (t := 24) (a := a) (show ¬ n < 0 by omega)
  rw [run_76 _ _ _ (by simp)]; unfold Try.f76; simp only [Option.getD_some]
  simp only [go_sem, e, e1]
  repeat' (first | refine W.idx_at (by omega) (by omega) ?_; simp only [go_sem, *] | refine W.br_idx (by omega) (by omega) ?_; try simp only [go_sem, *] | refine W.bnd_at (by omega) (by omega) ?_; simp only [go_sem, *] | refine W.br_dec (fun h => ?_) (fun h => ?_) <;> simp only [go_sem, *] | refine W.want_dect (fun h => ?_) (fun h => ?_) <;> simp only [go_sem, *] | refine W.want_decf (fun h => ?_) (fun h => ?_) <;> simp only [go_sem, *] | refine W.br_ndec (fun h => ?_) (fun h => ?_) <;> simp only [go_sem, *] | refine W.want_ndect (fun h => ?_) (fun h => ?_) <;> simp only [go_sem, *] | refine W.want_ndecf (fun h => ?_) (fun h => ?_) <;> simp only [go_sem, *] | refine W.br_split (fun h => ?_) (fun h => ?_) <;> simp only [go_sem, *] | refine W.want_split (fun h => ?_) (fun h => ?_) <;> simp only [go_sem, *])
  all_goals try simp only [go_sem, e, e1]
  all_goals exact ⟨_, by first | omega | exact u64_nn _ | exact fdiv_nn _ (by omega) | (simp only [Int.max_def, Int.min_def]; split <;> omega) | (rw [IntKind.wrap_u64]; omega), rfl⟩
theorem mul_some (d : Nat) (a b : Int) : Wp (fun x => ∃ n m : Int, (0 ≤ n ∧ 0 ≤ m) ∧ x = some (.tup [.int .u64 n, .int .u64 m], St.empty)) (evalF Try.prog CC (d + 1) 74 [.int .u64 a, .int .u64 b] St.empty) := by
  have e1 := fun a => shr_T (k := .u64) (k2 := .u64) (t := 24) (a := a) (show ¬ (32 : Int) < 0 by omega)
  rw [run_74 _ _ _ (by simp)]; unfold Try.f74; simp only [Option.getD_some]
  simp only [go_sem, e1, and_T]
  exact ⟨_, _, ⟨u64_nn _, u64_nn _⟩, rfl⟩
theorem mod_nn (d : Nat) (a b c e : Int) (ha : 0 ≤ a) (hc : 0 ≤ c) : Wp (fun x => ∃ lo hi, 0 ≤ lo ∧ x = some (spanA lo hi, St.empty)) (evalF Try.prog CC (d + 3) 75 [spanA a b, spanA c e] St.empty) := by
  have q := fun d n => of_c d n
  unfold spanA
  rw [run_75 _ _ _ (by simp)]; unfold Try.f75; simp only [Option.getD_some]
  simp only [go_sem, *]
  refine W.br_ok (by kernel_rfl) ?_
  simp only [go_sem, q]
  repeat' (first | refine W.idx_at (by omega) (by omega) ?_; simp only [go_sem, *] | refine W.br_idx (by omega) (by omega) ?_; try simp only [go_sem, *] | refine W.bnd_at (by omega) (by omega) ?_; simp only [go_sem, *] | refine W.br_dec (fun h => ?_) (fun h => ?_) <;> simp only [go_sem, *] | refine W.want_dect (fun h => ?_) (fun h => ?_) <;> simp only [go_sem, *] | refine W.want_decf (fun h => ?_) (fun h => ?_) <;> simp only [go_sem, *] | refine W.br_ndec (fun h => ?_) (fun h => ?_) <;> simp only [go_sem, *] | refine W.want_ndect (fun h => ?_) (fun h => ?_) <;> simp only [go_sem, *] | refine W.want_ndecf (fun h => ?_) (fun h => ?_) <;> simp only [go_sem, *] | refine W.br_split (fun h => ?_) (fun h => ?_) <;> simp only [go_sem, *] | refine W.want_split (fun h => ?_) (fun h => ?_) <;> simp only [go_sem, *])
  all_goals first | exact ⟨_, _, by first | omega | exact u64_nn _ | exact fdiv_nn _ (by omega) | (simp only [Int.max_def, Int.min_def]; split <;> omega) | (rw [IntKind.wrap_u64]; omega), rfl⟩ | trace_state
theorem shift_nn (d : Nat) (op a b c e : Int) (ha : 0 ≤ a) (hc : 0 ≤ c) : Wp (fun x => ∃ lo hi, 0 ≤ lo ∧ x = some (spanA lo hi, St.empty)) (evalF Try.prog CC (d + 4) 77 [.int .i64 op, spanA a b, spanA c e] St.empty) := by
  have q := fun d n => of_c d n
  have q1 := fun d => all_c d
  have q2 := fun d lo hi => single_c d lo hi
  have hn : ¬ c.tmod 64 < 0 := by have := Int.tmod_nonneg 64 hc; omega
  have e1 := fun a => shl_T (k := .u64) (k2 := .u64) (t := 24) (a := a) hn
  have e2 := fun a => shr_T (k := .u64) (k2 := .u64) (t := 24) (a := a) hn
  have e3 := fun a => shr_T (k := .u64) (k2 := .u64) (t := 24) (a := a) (show ¬ (63 : Int) < 0 by omega)
  unfold spanA
  rw [run_77 _ _ _ (by simp)]; unfold Try.f77; simp only [Option.getD_some]
  simp only [go_sem, *]
  repeat' (first | refine W.idx_at (by omega) (by omega) ?_; simp only [go_sem, *] | refine W.br_idx (by omega) (by omega) ?_; try simp only [go_sem, *] | refine W.bnd_at (by omega) (by omega) ?_; simp only [go_sem, *] | refine W.br_dec (fun h => ?_) (fun h => ?_) <;> simp only [go_sem, *] | refine W.want_dect (fun h => ?_) (fun h => ?_) <;> simp only [go_sem, *] | refine W.want_decf (fun h => ?_) (fun h => ?_) <;> simp only [go_sem, *] | refine W.br_ndec (fun h => ?_) (fun h => ?_) <;> simp only [go_sem, *] | refine W.want_ndect (fun h => ?_) (fun h => ?_) <;> simp only [go_sem, *] | refine W.want_ndecf (fun h => ?_) (fun h => ?_) <;> simp only [go_sem, *] | refine W.br_split (fun h => ?_) (fun h => ?_) <;> simp only [go_sem, *] | refine W.want_split (fun h => ?_) (fun h => ?_) <;> simp only [go_sem, *])
  all_goals first | (refine ⟨_, _, ?_, rfl⟩; first | omega | exact u64_nn _ | exact fdiv_nn _ ha) | (trace_state; sorry)
end Go.Proofs.Yticlihmbikcohaa.Va

/- chapter 19: spans are reckoned with -/
namespace Go.Proofs.Yticlihmbikcohaa.Va
open Go
set_option linter.unusedVariables false
set_option linter.unusedSimpArgs false
set_option maxRecDepth 100000
set_option maxHeartbeats 2000000
def xorI (k : IntKind) (a b : Int) : Int := k.wrap (BitVec.ofInt k.bits a ^^^ BitVec.ofInt k.bits b).toNat
theorem xor_T {k : IntKind} {t : TypeId} {a b : Int} : aBin T .xor t (.int k a) (.int k b) = some (.int k (xorI k a b)) := by simp [aBin, intBin, xorI]
theorem add64_c (d : Nat) (σ : St) (x y : Int) (hx : 0 ≤ x) (hy : 0 ≤ y) : evalF Try.prog CC (d + 1) 73 [.int .u64 x, .int .u64 y, .int .u64 0] σ = some (.tup [.int .u64 ((x + y + 0) % 18446744073709551616), .int .u64 ((x + y + 0) / 18446744073709551616)], σ) := by
  show (if 0 ≤ x ∧ 0 ≤ y ∧ (0 : Int) ≤ 0 ∧ (0 : Int) ≤ 1 then _ else _) = _
  rw [if_pos ⟨hx, hy, by omega, by omega⟩]
theorem do_some (d : Nat) (op a b c e : Int) (ha : 0 ≤ a) (hb : a ≤ b) (hc : 0 ≤ c) (he : c ≤ e) : Wp (fun x => ∃ lo hi, 0 ≤ lo ∧ x = some (spanA lo hi, St.empty)) (evalF Try.prog CC (d + 6) 53 [.int .i64 op, spanA a b, spanA c e] St.empty) := by
  have q1 := fun d => all_c d
  have q2 := fun d σ => add64_c d σ b e (by omega) (by omega)
  obtain ⟨n, m, hnm, q3⟩ := mul_some (d + 4) b e
  obtain ⟨lo1, hi1, hn1, q4⟩ := mod_nn (d + 2) a b c e ha hc
  obtain ⟨lo2, hi2, hn2, q5⟩ := shift_nn (d + 1) op a b c e ha hc
  obtain ⟨n3, hn3, q6⟩ := filled_some (d + 2) (orI .u64 b e)
  have z1 := fun k t a b => and_T (k := k) (t := t) (a := a) (b := b)
  have z2 := fun k t a b => or_T (k := k) (t := t) (a := a) (b := b)
  unfold spanA at q4 q5 ⊢
  simp only [Nat.add_assoc, Nat.reduceAdd] at q3 q4 q5 q6
  rw [run_53 _ _ _ (by simp)]; unfold Try.f53; simp only [Option.getD_some]
  simp only [go_sem, *]
  repeat' (first | (first | refine W.idx_at (by omega) (by omega) ?_; simp only [go_sem, *] | refine W.br_idx (by omega) (by omega) ?_; try simp only [go_sem, *] | refine W.bnd_at (by omega) (by omega) ?_; simp only [go_sem, *] | refine W.br_dec (fun h => ?_) (fun h => ?_) <;> simp only [go_sem, *] | refine W.want_dect (fun h => ?_) (fun h => ?_) <;> simp only [go_sem, *] | refine W.want_decf (fun h => ?_) (fun h => ?_) <;> simp only [go_sem, *] | refine W.br_ndec (fun h => ?_) (fun h => ?_) <;> simp only [go_sem, *] | refine W.want_ndect (fun h => ?_) (fun h => ?_) <;> simp only [go_sem, *] | refine W.want_ndecf (fun h => ?_) (fun h => ?_) <;> simp only [go_sem, *] | refine W.br_split (fun h => ?_) (fun h => ?_) <;> simp only [go_sem, *] | refine W.want_split (fun h => ?_) (fun h => ?_) <;> simp only [go_sem, *]) | (refine W.br_ok (by kernel_rfl) ?_; simp only [go_sem, *]))
  all_goals first
    | (refine ⟨_, _, ?_, rfl⟩; first | omega | exact u64_nn _)
    | (have e0 := eq_false (show ¬ e = 0 by omega)
       have c0 := eq_false (show ¬ c = 0 by omega)
       simp only [go_sem, e0, c0]
       exact ⟨_, _, u64_nn _, rfl⟩)
theorem alu_nn (d : Nat) (op a b : Int) (ha : 0 ≤ a) (hb : 0 ≤ b) : Wp (fun x => ∃ n e, 0 ≤ n ∧ x = some (.tup [.int .u64 n, .int .i64 e], St.empty)) (evalF Try.prog CC (d + 3) 8 [.int .i64 op, .int .u64 a, .int .u64 b] St.empty) := by
  have hn : ¬ b.tmod 64 < 0 := by have := Int.tmod_nonneg 64 hb; omega
  have e1 := shl_T (k := .u64) (k2 := .u64) (t := 24) (a := a) hn
  have e2 := shr_T (k := .u64) (k2 := .u64) (t := 24) (a := a) hn
  have e3 := shr_T (k := .i64) (k2 := .u64) (t := 2) (a := IntKind.i64.wrap a) hn
  have z1 := fun k t a b => and_T (k := k) (t := t) (a := a) (b := b)
  have z2 := fun k t a b => or_T (k := k) (t := t) (a := a) (b := b)
  have z3 := fun k t a b => xor_T (k := k) (t := t) (a := a) (b := b)
  rw [run_8 _ _ _ (by simp)]; unfold Try.f8; simp only [Option.getD_some]
  simp only [go_sem, *]
  repeat' (first | refine W.idx_at (by omega) (by omega) ?_; simp only [go_sem, *] | refine W.br_idx (by omega) (by omega) ?_; try simp only [go_sem, *] | refine W.bnd_at (by omega) (by omega) ?_; simp only [go_sem, *] | refine W.br_dec (fun h => ?_) (fun h => ?_) <;> simp only [go_sem, *] | refine W.want_dect (fun h => ?_) (fun h => ?_) <;> simp only [go_sem, *] | refine W.want_decf (fun h => ?_) (fun h => ?_) <;> simp only [go_sem, *] | refine W.br_ndec (fun h => ?_) (fun h => ?_) <;> simp only [go_sem, *] | refine W.want_ndect (fun h => ?_) (fun h => ?_) <;> simp only [go_sem, *] | refine W.want_ndecf (fun h => ?_) (fun h => ?_) <;> simp only [go_sem, *] | refine W.br_split (fun h => ?_) (fun h => ?_) <;> simp only [go_sem, *] | refine W.want_split (fun h => ?_) (fun h => ?_) <;> simp only [go_sem, *])
  all_goals first | (refine ⟨_, _, ?_, rfl⟩; first | omega | exact u64_nn _ | exact fdiv_nn _ ha | exact Int.tmod_nonneg _ ha) | trace_state
end Go.Proofs.Yticlihmbikcohaa.Va

/- chapter 19: span.Do -/
namespace Go.Proofs.Yticlihmbikcohaa.Va
open Go
set_option linter.unusedVariables false
set_option linter.unusedSimpArgs false
set_option maxRecDepth 100000
set_option maxHeartbeats 2000000
theorem spanDo_some (d : Nat) (op a b c e : Int) (ha : 0 ≤ a) (hc : 0 ≤ c) : Wp (fun x => ∃ lo hi er, 0 ≤ lo ∧ x = some (.tup [spanA lo hi, .int .i64 er], St.empty)) (evalF Try.prog CC (d + 7) 40 [.int .i64 op, spanA a b, spanA c e] St.empty) := by
  have m1 := fun d => spanMay_c d a b
  have m2 := fun d => spanMay_c d c e
  have s1 := fun d => single_c d a b
  have s2 := fun d => single_c d c e
  have s3 := fun d n => of_c d n
  obtain ⟨n, er, hn, q1⟩ := alu_nn (d + 3) op a c ha hc
  unfold spanA
  simp only [Nat.add_assoc, Nat.reduceAdd] at q1
  rw [run_40 _ _ _ (by simp)]; unfold Try.f40; simp only [Option.getD_some]
  simp only [go_sem, *]
  by_cases h1 : op < 1
  · simp only [go_sem, h1]
    exact ⟨_, _, _, by omega, rfl⟩
  by_cases h2 : op > 11
  · simp only [go_sem, h1, h2]
    exact ⟨_, _, _, by omega, rfl⟩
  by_cases h3 : a ≤ b
  case neg =>
    simp only [go_sem, h1, h2, m1, h3]
    exact ⟨_, _, _, by omega, rfl⟩
  by_cases h4 : c ≤ e
  case neg =>
    simp only [go_sem, h1, h2, m1, h3, m2, h4]
    exact ⟨_, _, _, by omega, rfl⟩
  obtain ⟨lo2, hi2, hn2, q2⟩ := do_some d op a b c e ha h3 hc h4
  unfold spanA at q2
  simp only [go_sem, h1, h2, m1, h3, m2, h4, s1, s2]
  by_cases h5 : b = a
  case neg =>
    have h5' := eq_false h5
    simp only [go_sem, h5', q2]
    exact ⟨_, _, _, hn2, rfl⟩
  have h5' := eq_true h5
  by_cases h6 : e = c
  case neg =>
    have h6' := eq_false h6
    simp only [go_sem, h5', h6', q2, s2]
    exact ⟨_, _, _, hn2, rfl⟩
  have h6' := eq_true h6
  simp only [go_sem, s2, q1, s3, h5', h6']
  exact ⟨_, _, _, hn, rfl⟩
end Go.Proofs.Yticlihmbikcohaa.Va

/- chapter 19: conditions -/
namespace Go.Proofs.Yticlihmbikcohaa.Va
open Go
set_option linter.unusedVariables false
set_option linter.unusedSimpArgs false
set_option maxRecDepth 100000
set_option maxHeartbeats 20000000
def turnM (i : Nat) : AObj := .map 3 3 ([(AV.int .i64 5, AV.int .i64 3), (AV.int .i64 6, AV.int .i64 4)].take i)
def turnS (n : Int) : Int := if n = 5 then 3 else if n = 6 then 4 else 0
end Go.Proofs.Yticlihmbikcohaa.Va

/- chapter 19: conditions between numbers -/
namespace Go.Proofs.Yticlihmbikcohaa.Va
open Go
set_option linter.unusedVariables false
set_option linter.unusedSimpArgs false
set_option maxRecDepth 100000
set_option maxHeartbeats 4000000
noncomputable def refS (d : Nat) (op : Int) (a b : Wht) (h : Bool) : Wht × Wht × Bool :=
  match evalF Try.prog CC (d + 6) 55 [.int .i64 op, spanA a.lo a.hi, spanA b.lo b.hi, .bool h] St.empty with
  | some (.tup [.agg _ [.int _ lo, .int _ hi], .agg _ [.int _ lo', .int _ hi'], .bool t, _], _) => (numW lo hi, numW lo' hi', t)
  | _ => (junk, junk, false)
noncomputable def jumpT (s : Sta) (i : Ins) (u v : Wht) : Sta := if i.op = 6 then setRg (setRg s i.a u) i.b v else setRg s i.a u
noncomputable def jumpOne (d : Nat) (pc : Int) (s : Sta) (i : Ins) (a b : Wht) (n : Int) (h : Bool) : List (Int × Sta) :=
  if (refS d i.c a b h).2.2 = true then [(pc + 1 + n * (i.imm - 1), jumpT s i (refS d i.c a b h).1 (refS d i.c a b h).2.1)] else []
noncomputable def jumpPre (d : Nat) (pc : Int) (s : Sta) (i : Ins) (a b : Wht) : Nat → List (Int × Sta)
  | 0 => []
  | 1 => jumpOne d pc s i a b 0 false
  | _ => jumpOne d pc s i a b 0 false ++ jumpOne d pc s i a b 1 true
def jumpB (i : Ins) (b : Wht) : Wht := if i.op = 7 then numW i.b i.b else b
noncomputable def jumpS (d : Nat) (pc : Int) (s : Sta) (i : Ins) (a b : Wht) : List (Int × Sta) × Int :=
  if numB a = true ∧ numB (jumpB i b) = true then (jumpPre d pc s i a (jumpB i b) 2, 0) else ([], 7)
end Go.Proofs.Yticlihmbikcohaa.Va

/- chapter 19: any step -/
namespace Go.Proofs.Yticlihmbikcohaa.Va
open Go
set_option linter.unusedVariables false
set_option linter.unusedSimpArgs false
set_option maxRecDepth 100000
set_option maxHeartbeats 4000000
noncomputable def doS (d : Nat) (op : Int) (a b : Wht) : Wht :=
  match evalF Try.prog CC (d + 7) 40 [.int .i64 op, spanA a.lo a.hi, spanA b.lo b.hi] St.empty with
  | some (.tup [.agg _ [.int _ lo, .int _ hi], _], _) => numW lo hi
  | _ => junk
theorem do_c (d : Nat) (op : Int) (a b : Wht) (ha : 0 ≤ a.lo) (hb : 0 ≤ b.lo) : ∃ lo hi er, doS d op a b = numW lo hi ∧ 0 ≤ lo ∧ evalF Try.prog CC (d + 7) 40 [.int .i64 op, .agg 36 [.int .u64 a.lo, .int .u64 a.hi], .agg 36 [.int .u64 b.lo, .int .u64 b.hi]] St.empty = some (.tup [.agg 36 [.int .u64 lo, .int .u64 hi], .int .i64 er], St.empty) := by
  obtain ⟨lo, hi, er, hn, q⟩ := spanDo_some d op a.lo a.hi b.lo b.hi ha hb
  refine ⟨lo, hi, er, ?_, hn, q⟩
  unfold doS
  rw [q]
  rfl
def aluB (i : Ins) (b : Wht) : Wht := if i.op = 4 then numW i.imm i.imm else b
noncomputable def stepF (d : Nat) (K : Kx) (pc : Int) (i : Ins) (s : Sta) : List (Int × Sta) × Int :=
  if i.op = 3 ∨ i.op = 4 then (if numB (at0 s.regs i.a) = true ∧ numB (aluB i (at0 s.regs (min i.b 9))) = true then ([(pc + 1, setRg s i.a (doS d i.c (at0 s.regs i.a) (aluB i (at0 s.regs (min i.b 9)))))], 0) else ([], 7))
  else if i.op = 5 then ([(pc + i.imm, s)], 0)
  else if i.op = 6 ∨ i.op = 7 ∧ (at0 s.regs i.a).kind = 1 then jumpS d pc s i (at0 s.regs i.a) (at0 s.regs (min i.b 9))
  else if i.op = 10 ∨ i.op = 11 then (if accS K.l i s (at0 s.regs (min i.b 9)) [3, 4, 5, 6] = 0 then ([(pc + 1, setRg s i.a (numW 0 18446744073709551615))], 0) else ([], accS K.l i s (at0 s.regs (min i.b 9)) [3, 4, 5, 6]))
  else if i.op = 12 ∨ i.op = 13 then (if accS K.l i s (at0 s.regs (min i.b 9)) [3, 4, 5] = 0 then ([(pc + 1, s)], 0) else ([], accS K.l i s (at0 s.regs (min i.b 9)) [3, 4, 5]))
  else stepN K pc i s
end Go.Proofs.Yticlihmbikcohaa.Va

/- chapter 19: the walk -/
namespace Go.Proofs.Yticlihmbikcohaa.Va
open Go
set_option linter.unusedVariables false
set_option linter.unusedSimpArgs false
set_option maxRecDepth 100000
set_option maxHeartbeats 4000000
abbrev StepF := Int → Ins → Sta → List (Int × Sta) × Int
def roundS (F : StepF) (p : List Ins) (pc : Int) (L : Int → List Sta) : (Int → List Sta) × Int :=
  if (aheadS (L pc)).2.2 = 0 then (if (aheadS (L pc)).2.1 = true then (addLs L (F pc (at0 p pc) (aheadS (L pc)).1).1, (F pc (at0 p pc) (aheadS (L pc)).1).2) else (L, 0)) else (L, (aheadS (L pc)).2.2)
def walkS (F : StepF) (p : List Ins) : Nat → Int → (Int → List Sta) → Int × Int × (Int → List Sta)
  | 0, _, L => (0, 0, L)
  | n + 1, pc, L => if (roundS F p pc L).2 = 0 then walkS F p n (pc + 1) (roundS F p pc L).1 else (pc, (roundS F p pc L).2, (roundS F p pc L).1)
def beginL : Int → List Sta := addL (fun _ => []) 0 startS
def StepOk (D : Nat) (F : StepF) (K : Kx) (bp : Bool) (p : List Ins) (j : Int) (L : Int → List Sta) (s : Sta) : Prop :=
  ∀ σ w m r, WK K bp p L σ w m → RefA r s.refs → pure1 r = true → Sat (StepP K bp p L w m σ (F j (at0 p j) s)) (evalF Try.prog CC D 26 [.ptr 65 w [0], .int .i64 j, encS s r] σ)
structure Jok (D : Nat) (F : StepF) (K : Kx) (bp : Bool) (p : List Ins) (N : Nat) (J : Nat → (Int → List Sta) → Prop) : Prop where
  start : J 0 beginL
  ahead : ∀ j L, j ≤ N → J j L → (∀ s ∈ L j, SOk s ∧ s.refs.length ≤ 100000) ∧ (L j).length ≤ 100000
  step : ∀ j L, j < N → J j L → (aheadS (L j)).2.2 = 0 → (aheadS (L j)).2.1 = true → StepOk D F K bp p j L (aheadS (L j)).1
  next : ∀ j L, j < N → J j L → (roundS F p j L).2 = 0 → J (j + 1) (roundS F p j L).1
def WalkP (K : Kx) (bp : Bool) (p : List Ins) (σ : St) (w : Nat) (x : Int × Int × (Int → List Sta)) (q : AV × St) : Prop :=
  ∃ m, WK K bp p x.2.2 q.2 w m ∧ Keeps σ q.2 w ∧ σ.next ≤ m ∧ q.1 = .tup [.int .i64 x.1, .int .i64 x.2.1]
theorem walk_c (d : Nat) {F : StepF} {K : Kx} {bp : Bool} {p : List Ins} {N : Nat} {J : Nat → (Int → List Sta) → Prop} (hJ : Jok (d + 12) F K bp p N J) (hN : N ≤ 128) {σ : St} {w : Nat} (hw : w < σ.next)
    (ow : σ.obj w = some (.cells 65 [.agg 65 [typesV K, mapsV K, encP bp p, .nilm]])) :
    Sat (WalkP K bp p σ w (walkS F p N 0 beginL)) (evalF Try.prog CC (d + 13) 17 [.ptr 65 w [0], .int .i64 N] σ) := by
  have q1 := fun d => start_c d
  simp only [encP] at ow
  have n0 := eq_false (show ¬ w = σ.next by omega)
  refine Sat.go ?_
  rw [run_17 _ _ _ (by simp)]; unfold Try.f17; simp only [Option.getD_some]
  simp only [encS] at q1
  simp only [go_sem, ow, n0, q1, frz_W, view_W, Nat.left_eq_add, Nat.add_eq_left, Nat.add_left_cancel_iff, Nat.succ_ne_zero, Nat.add_assoc, Nat.one_ne_zero, Bool.not_false, Bool.not_true]
  refine W.br_ok (by kernel_rfl) ?_
  simp only [go_sem, ow, n0, q1, frz_W, view_W, noMem_W, Nat.left_eq_add, Nat.add_eq_left, Nat.add_left_cancel_iff, Nat.succ_ne_zero, Nat.add_assoc, Nat.one_ne_zero, Bool.not_false, Bool.not_true]
  have hW0 : ∀ o : AObj, ∀ o', o' = AObj.cells 65 [.agg 65 [typesV K, mapsV K, encP bp p, .map σ.next]] → o = .map 3 82 [] → WK K bp p (fun _ => []) ((σ.new o).set w o') w σ.next := by
    rintro o o' rfl rfl
    refine ⟨[], ⟨by show w < σ.next + 1; omega, Nat.lt_succ_self _, by omega, if_pos rfl, (if_neg (by omega)).trans (if_pos rfl), by simp, .nil, by simp⟩, fun _ => rfl⟩
  refine W.call (leave_c (K := K) (bp := bp) (p := p) (L := fun _ => []) (m := σ.next) _ (hW0 _ _ rfl rfl) 0 startS (.mt true) (.inl ⟨rfl, _, rfl⟩) rfl (by simp)) ?_
  rintro v τ ⟨hWt, hKt⟩
  simp only at hWt hKt
  have hWt : WK K bp p beginL τ w σ.next := hWt
  have hKs : ∀ j, j < σ.next → j ≠ w → τ.obj j = σ.obj j := fun j hj hn => (hKt.2 j (by show j < σ.next + 1; omega) (by omega)).trans ((if_neg hn).trans (if_neg (by omega)))
  have hnt : σ.next + 1 ≤ τ.next := hKt.1
  have hJ0 := hJ.start
  simp only [go_sem, Nat.left_eq_add, Nat.add_eq_left, Nat.add_left_cancel_iff, Nat.succ_ne_zero, Nat.add_assoc, Nat.one_ne_zero, Bool.not_false, Bool.not_true]
  generalize hX : walkS F p N 0 beginL = X
  clear q1 hW0 hKt
  refine W.iter_rule (fun j ρ s => ρ 0 = .ptr 65 w [0] ∧ ρ 1 = .int .i64 N ∧ ρ 6 = .int .i64 j ∧ ∃ L, J j L ∧ WK K bp p L s w σ.next ∧ Keeps σ s w ∧ σ.next + 1 ≤ s.next ∧ walkS F p (N - j) j L = X) N ?_ ?_ _ 0 _ _ (Nat.zero_le _) ?_ ?_
  · clear hWt hKs hnt hJ0 hX
    rintro j ρ s hj ⟨h0, h1, h6, L, hjL, hW, hK0, hnx, hX⟩ K' hK hx hr'
    have hlt := eq_true (show ((j : Nat) : Int) < (N : Nat) by omega)
    have hwrap : IntKind.i64.wrap ((j : Int) + 1) = ((j + 1 : Nat) : Int) := by rw [IntKind.wrap_i64]; omega
    obtain ⟨ha1, ha2⟩ := hJ.ahead j L (by omega) hjL
    have hnj : N - j = (N - (j + 1)) + 1 := by omega
    rw [hnj] at hX
    simp only [walkS] at hX
    have hst := hJ.step j L hj hjL
    have hnext := hJ.next j L hj hjL
    unfold roundS at hX hnext
    simp only [go_sem, h0, h1, h6, hlt, Nat.left_eq_add, Nat.add_eq_left, Nat.add_left_cancel_iff, Nat.succ_ne_zero, Nat.add_assoc, Nat.one_ne_zero, Bool.not_false, Bool.not_true]
    refine W.call (ahead_c _ hW j ha1 ha2) ?_
    rintro v s2 ⟨hW2, hK2, r, hr, hpr, rfl⟩
    simp only at hW2 hK2
    generalize aheadS (L j) = A at hst hnext hX hr ⊢
    obtain ⟨S, is, er⟩ := A
    simp only at hst hnext hX hr ⊢
    have hn2 : s.next ≤ s2.next := hK2.1
    simp only [go_sem, h0, h1, h6, Nat.left_eq_add, Nat.add_eq_left, Nat.add_left_cancel_iff, Nat.succ_ne_zero, Nat.add_assoc, Nat.one_ne_zero, Bool.not_false, Bool.not_true]
    have hK3 : Keeps σ s2 w := ⟨by have := hK0.1; omega, fun i hi hn => (hK2.2 i (by omega) (by omega)).trans (hK0.2 i hi hn)⟩
    by_cases he : er = 0
    case neg =>
      have he' := eq_false he
      rw [if_neg he] at hX
      rw [if_neg he] at hX
      have hW := hW2
      simp only [go_sem, h0, h6, he', hr', Nat.left_eq_add, Nat.add_eq_left, Nat.add_left_cancel_iff, Nat.succ_ne_zero, Nat.add_assoc, Nat.one_ne_zero, Bool.not_false, Bool.not_true]
      rw [← hX]
      have := hW2.lt
      refine wp_some ⟨σ.next, ?_, ?_, Nat.le_refl _, rfl⟩
      · (repeat' first | exact hW | refine WK.box ?_ _ | refine WK.put ?_ (by omega) (by omega) _ | refine WK.tok ?_)
      · exact Keeps.other (hK3.new _) _ (by omega)
    have he' := eq_true he
    rw [if_pos he] at hX hnext
    cases is
    case false =>
      simp only [Bool.false_eq_true, if_false, if_true] at hX hnext
      simp only [go_sem, h0, h1, h6, he', hwrap, Nat.left_eq_add, Nat.add_eq_left, Nat.add_left_cancel_iff, Nat.succ_ne_zero, Nat.add_assoc, Nat.one_ne_zero, Bool.not_false, Bool.not_true]
      have hW := hW2
      have := hW2.lt
      refine hK _ _ ?_
      refine ⟨by (try simp only [go_sem, Int.toNat_natCast, List.length_take, *]) <;> first | done | rfl | omega | (simp <;> omega), by (try simp only [go_sem, Int.toNat_natCast, List.length_take, *]) <;> first | done | rfl | omega | (simp <;> omega), by (try simp only [go_sem, Int.toNat_natCast, List.length_take, *]) <;> first | done | rfl | omega | (simp <;> omega), L, hnext trivial, ?_, ?_, ?_, hX⟩
      · (repeat' first | exact hW | refine WK.box ?_ _ | refine WK.put ?_ (by omega) (by omega) _ | refine WK.tok ?_)
      · exact Keeps.other (hK3.new _) _ (by omega)
      · show σ.next + 1 ≤ s2.next + 1; omega
    simp only [if_true] at hX hnext
    have hst := hst he rfl
    simp only [go_sem, h0, h1, h6, he', hwrap, Nat.left_eq_add, Nat.add_eq_left, Nat.add_left_cancel_iff, Nat.succ_ne_zero, Nat.add_assoc, Nat.one_ne_zero, Bool.not_false, Bool.not_true]
    have hlt2 := hW2.lt
    have hW3 : ∀ o o', WK K bp p L ((s2.new o).set s2.next o') w σ.next := fun o o' => (hW2.box o).put (by omega) (by omega) o'
    refine W.call (hst _ w σ.next r (hW3 _ _) hr hpr) ?_
    rintro v s4 ⟨hW4, hK4, hv⟩
    simp only at hW4 hK4 hv
    subst hv
    generalize F j (at0 p j) S = Y at hW4 hX hnext ⊢
    obtain ⟨ls, e2⟩ := Y
    simp only at hW4 hX hnext ⊢
    have hn4 : s2.next + 1 ≤ s4.next := hK4.1
    have hK5 : Keeps σ s4 w := ⟨by have := hK3.1; omega, fun i hi hn => (hK4.2 i (by show i < s2.next + 1; have := hK3.1; omega) (by omega)).trans ((if_neg (by omega)).trans ((if_neg (by omega)).trans (hK3.2 i hi hn)))⟩
    by_cases he2 : e2 = 0
    · have he2' := eq_true he2
      rw [if_pos he2] at hX
      simp only [go_sem, h0, h1, h6, he2', hwrap, Nat.left_eq_add, Nat.add_eq_left, Nat.add_left_cancel_iff, Nat.succ_ne_zero, Nat.add_assoc, Nat.one_ne_zero, Bool.not_false, Bool.not_true]
      refine hK _ _ ?_
      exact ⟨by (try simp only [go_sem, Int.toNat_natCast, List.length_take, *]) <;> first | done | rfl | omega | (simp <;> omega), by (try simp only [go_sem, Int.toNat_natCast, List.length_take, *]) <;> first | done | rfl | omega | (simp <;> omega), by (try simp only [go_sem, Int.toNat_natCast, List.length_take, *]) <;> first | done | rfl | omega | (simp <;> omega), addLs L ls, hnext he2, hW4, hK5, by omega, hX⟩
    · have he2' := eq_false he2
      rw [if_neg he2] at hX
      simp only [go_sem, h0, h6, he2', hr', Nat.left_eq_add, Nat.add_eq_left, Nat.add_left_cancel_iff, Nat.succ_ne_zero, Nat.add_assoc, Nat.one_ne_zero, Bool.not_false, Bool.not_true]
      rw [← hX]
      exact wp_some ⟨σ.next, hW4, hK5, Nat.le_refl _, rfl⟩
  · rintro ρ s ⟨h0, h1, h6, L, hjL, hW, hK0, hnx, hX⟩ K' hx hr'
    have hlt := eq_false (show ¬ ((N : Nat) : Int) < (N : Nat) by omega)
    rw [Nat.sub_self] at hX
    simp only [walkS] at hX
    simp only [go_sem, hx, h0, h1, h6, hlt, Nat.left_eq_add, Nat.add_eq_left, Nat.add_left_cancel_iff, Nat.succ_ne_zero, Nat.add_assoc, Nat.one_ne_zero, Bool.not_false, Bool.not_true]
    rw [← hX]
    exact wp_some ⟨σ.next, hW, hK0, Nat.le_refl _, rfl⟩
  · show N < 0 + 9223372036854775900
    omega
  · exact ⟨by (try simp only [go_sem, Int.toNat_natCast, List.length_take, *]) <;> first | done | rfl | omega | (simp <;> omega), by (try simp only [go_sem, Int.toNat_natCast, List.length_take, *]) <;> first | done | rfl | omega | (simp <;> omega), by (try simp only [go_sem, Int.toNat_natCast, List.length_take, *]) <;> first | done | rfl | omega | (simp <;> omega), beginL, hJ0, hWt, ⟨by omega, hKs⟩, hnt, by rw [Nat.sub_zero]; exact hX⟩
end Go.Proofs.Yticlihmbikcohaa.Va

/- chapter 19: states stay well formed -/
namespace Go.Proofs.Yticlihmbikcohaa.Va
open Go
set_option linter.unusedVariables false
set_option linter.unusedSimpArgs false
set_option maxRecDepth 100000
set_option maxHeartbeats 4000000
/-- a state that n instructions may have led to -/
structure GSt (n : Nat) (s : Sta) : Prop where
  ok : SOk s
  le : s.refs.length ≤ n
structure Good (n : Nat) (L : Int → List Sta) : Prop where
  st : ∀ k, ∀ s ∈ L k, GSt n s
  len : ∀ k, (L k).length ≤ 1 + 2 * n
theorem GSt.up {n : Nat} {s : Sta} (h : GSt n s) : GSt (n + 1) s := ⟨h.ok, Nat.le_succ_of_le h.le⟩
theorem Good.start : Good 0 beginL := by
  refine ⟨fun k s hs => ?_, fun k => ?_⟩
  · unfold beginL addL at hs
    split at hs
    · obtain rfl : s = startS := by simpa using hs
      exact ⟨⟨rfl, rfl⟩, Nat.le_refl _⟩
    · exact absurd hs (by simp)
  · unfold beginL addL
    split <;> simp
theorem addLs_mem : ∀ (l : List (Int × Sta)) (L : Int → List Sta) (k : Int) (s : Sta), s ∈ addLs L l k → s ∈ L k ∨ (k, s) ∈ l
  | [], L, k, s, h => .inl h
  | (q, t) :: l, L, k, s, h => by
    rcases addLs_mem l (addL L q t) k s h with h | h
    · unfold addL at h
      split at h
      · rename_i e
        subst e
        rw [List.mem_append, List.mem_singleton] at h
        rcases h with h | rfl
        · exact .inl h
        · exact .inr (by simp)
      · exact .inl h
    · exact .inr (by simp [h])
theorem Good.add {n : Nat} {L : Int → List Sta} (h : Good n L) {l : List (Int × Sta)} (hl : l.length ≤ 2) (hs : ∀ q ∈ l, GSt (n + 1) q.2) : Good (n + 1) (addLs L l) :=
  ⟨fun k s hm => (addLs_mem l L k s hm).elim (fun h' => (h.st k s h').up) (fun h' => hs _ h'), fun k => by
    have h1 := addLs_len l L k
    have h2 := h.len k
    omega⟩
theorem Good.up {n : Nat} {L : Int → List Sta} (h : Good n L) : Good (n + 1) L := h.add (l := []) (by simp) (by simp)
theorem mrg_ok {n : Nat} : ∀ (ts : List Sta) (s : Sta), GSt n s → (∀ t ∈ ts, GSt n t) → (mrg s ts).2 = 0 → GSt n (mrg s ts).1
  | [], s, h, _, _ => h
  | t :: ts, s, h, ht, he => by
    unfold mrg at he ⊢
    by_cases e : (mergeS s t).2 = 0
    · rw [if_pos e] at he ⊢
      obtain ⟨h1, h2, _⟩ := merge_sok h.ok (ht t (by simp)).ok e
      exact mrg_ok ts _ ⟨h1, by rw [h2]; exact h.le⟩ (fun u hu => ht u (by simp [hu])) he
    · rw [if_neg e] at he
      exact absurd he e
/-- a walk of steps that are known wherever it leads -/
def levelS (F : StepF) (p : List Ins) : Nat → (Int → List Sta)
  | 0 => beginL
  | n + 1 => (roundS F p n (levelS F p n)).1
end Go.Proofs.Yticlihmbikcohaa.Va

/- chapter 19: how long a number is, and what it is filled to -/
namespace Go.Proofs.Yticlihmbikcohaa.Va
open Go
set_option linter.unusedVariables false
set_option linter.unusedSimpArgs false
set_option maxRecDepth 100000
set_option maxHeartbeats 4000000
def tab8P (s : ByteArray) : Bool := decide (s.size = 256) && (List.range 256).all fun i => match s.data.toList[i]? with | some b => decide (b.toNat ≤ 8) && decide (i < 2 ^ b.toNat) | none => false
theorem W.tabP {R : Type} {P : Option R → Prop} {s : ByteArray} {x : Int} {k : AV → Option R} (h : tab8P s = true) (h0 : 0 ≤ x) (h1 : x < 256) (hk : ∀ v : Nat, v ≤ 8 → x < 2 ^ v → Wp P (k (.int .u8 v))) :
    Wp P (@bnd _ R (aIndex T 9 (.str s) (.int .u8 (IntKind.u8.wrap x))) ⟨k⟩) := by
  have hw : IntKind.u8.wrap x = x := by rw [IntKind.wrap_u8]; omega
  rw [hw]
  simp only [tab8P, Bool.and_eq_true, decide_eq_true_eq, List.all_eq_true, List.mem_range] at h
  have h2 := h.2 x.toNat (by omega)
  have ht : T.ty 9 = some .str := nr rfl
  have e : ∃ v : Nat, v ≤ 8 ∧ x < 2 ^ v ∧ aIndex T 9 (.str s) (.int .u8 x) = some (.int .u8 v) := by
    unfold aIndex
    simp only [ht, true_and]
    rw [if_pos ⟨h0, by rw [h.1]; omega⟩]
    cases hg : s.data.toList[x.toNat]? with
    | none => rw [hg] at h2; simp at h2
    | some b =>
      rw [hg] at h2
      simp only [Bool.and_eq_true, decide_eq_true_eq] at h2
      refine ⟨b.toNat, h2.1, ?_, rfl⟩
      have h3 : ((x.toNat : Nat) : Int) < ((2 ^ b.toNat : Nat) : Int) := by exact_mod_cast h2.2
      rw [Int.toNat_of_nonneg h0] at h3
      push_cast at h3
      exact h3
  obtain ⟨v, hv, hx, he⟩ := e
  rw [he]
  exact hk v hv hx
theorem fd {a : Int} (n : Nat) (h : 0 ≤ a) : a.fdiv (2 ^ n) = a / 2 ^ n := Int.fdiv_eq_ediv_of_nonneg _ (Int.pow_nonneg (by omega))
theorem len_c (d : Nat) (a : Int) (h0 : 0 ≤ a) (h1 : a < 18446744073709551616) : ∃ n : Nat, n ≤ 64 ∧ a < 2 ^ n ∧ evalF Try.prog CC (d + 1) 108 [.int .u64 a] St.empty = some (.int .i64 n, St.empty) := by
  have e1 := fun a => shr_T (k := .u64) (k2 := .u64) (t := 24) (a := a) (show ¬ (32 : Int) < 0 by omega)
  have e2 := fun a => shr_T (k := .u64) (k2 := .u64) (t := 24) (a := a) (show ¬ (16 : Int) < 0 by omega)
  have e3 := fun a => shr_T (k := .u64) (k2 := .u64) (t := 24) (a := a) (show ¬ (8 : Int) < 0 by omega)
  have p1 : ∀ a : Int, 0 ≤ a → a.fdiv (2 ^ (min (Int.toNat 32) 64)) = a / 4294967296 := fun a h => fd 32 h
  have p2 : ∀ a : Int, 0 ≤ a → a.fdiv (2 ^ (min (Int.toNat 16) 64)) = a / 65536 := fun a h => fd 16 h
  have p3 : ∀ a : Int, 0 ≤ a → a.fdiv (2 ^ (min (Int.toNat 8) 64)) = a / 256 := fun a h => fd 8 h
  have hP : ∀ (c : Nat) (C x : Int) (v : Nat), (2 : Int) ^ c = C → c ≤ 56 → v ≤ 8 → x < 2 ^ v → a < (x + 1) * C → ∀ m : Int, m = ((c + v : Nat) : Int) → ∃ n : Nat, n ≤ 64 ∧ a < 2 ^ n ∧ some ((AV.int .i64 m, St.empty) : AV × St) = some (AV.int .i64 n, St.empty) := by
    rintro c C x v rfl hc hv hx ha m rfl
    refine ⟨c + v, by omega, ?_, rfl⟩
    have h1 : (x + 1) * (2 : Int) ^ c ≤ 2 ^ v * 2 ^ c := Int.mul_le_mul_of_nonneg_right (by omega) (Int.pow_nonneg (by omega))
    rw [← Int.pow_add, Nat.add_comm v c] at h1
    omega
  refine (show Wp (fun r => ∃ n : Nat, n ≤ 64 ∧ a < 2 ^ n ∧ r = some ((AV.int .i64 n, St.empty) : AV × St)) _ from ?_)
  rw [run_108 _ _ _ (by simp)]; unfold Try.f108; simp only [Option.getD_some]
  simp only [go_sem, e1, e2, e3]
  by_cases k32 : a ≥ 4294967296
  · have k32' := eq_true k32
    simp only [go_sem, e1, e2, e3, k32', p1 (a) (by omega)]
    by_cases k16 : a / 4294967296 ≥ 65536
    · have k16' := eq_true k16
      simp only [go_sem, e1, e2, e3, k16', p2 (a / 4294967296) (by omega)]
      by_cases k8 : a / 4294967296 / 65536 ≥ 256
      · have k8' := eq_true k8
        simp only [go_sem, e1, e2, e3, k8', p3 (a / 4294967296 / 65536) (by omega)]
        refine W.tabP (by kernel_rfl) (by omega) (by omega) fun v hv hx => ?_
        simp only [go_sem, *]
        exact hP 56 72057594037927936 _ v rfl (by omega) hv hx (by omega) _ (by simp only [IntKind.wrap_i64]; omega)
      · have k8' := eq_false k8
        simp only [go_sem, e1, e2, e3, k8']
        refine W.tabP (by kernel_rfl) (by omega) (by omega) fun v hv hx => ?_
        simp only [go_sem, *]
        exact hP 48 281474976710656 _ v rfl (by omega) hv hx (by omega) _ (by simp only [IntKind.wrap_i64]; omega)
    · have k16' := eq_false k16
      simp only [go_sem, e1, e2, e3, k16']
      by_cases k8 : a / 4294967296 ≥ 256
      · have k8' := eq_true k8
        simp only [go_sem, e1, e2, e3, k8', p3 (a / 4294967296) (by omega)]
        refine W.tabP (by kernel_rfl) (by omega) (by omega) fun v hv hx => ?_
        simp only [go_sem, *]
        exact hP 40 1099511627776 _ v rfl (by omega) hv hx (by omega) _ (by simp only [IntKind.wrap_i64]; omega)
      · have k8' := eq_false k8
        simp only [go_sem, e1, e2, e3, k8']
        refine W.tabP (by kernel_rfl) (by omega) (by omega) fun v hv hx => ?_
        simp only [go_sem, *]
        exact hP 32 4294967296 _ v rfl (by omega) hv hx (by omega) _ (by simp only [IntKind.wrap_i64]; omega)
  · have k32' := eq_false k32
    simp only [go_sem, e1, e2, e3, k32']
    by_cases k16 : a ≥ 65536
    · have k16' := eq_true k16
      simp only [go_sem, e1, e2, e3, k16', p2 (a) (by omega)]
      by_cases k8 : a / 65536 ≥ 256
      · have k8' := eq_true k8
        simp only [go_sem, e1, e2, e3, k8', p3 (a / 65536) (by omega)]
        refine W.tabP (by kernel_rfl) (by omega) (by omega) fun v hv hx => ?_
        simp only [go_sem, *]
        exact hP 24 16777216 _ v rfl (by omega) hv hx (by omega) _ (by simp only [IntKind.wrap_i64]; omega)
      · have k8' := eq_false k8
        simp only [go_sem, e1, e2, e3, k8']
        refine W.tabP (by kernel_rfl) (by omega) (by omega) fun v hv hx => ?_
        simp only [go_sem, *]
        exact hP 16 65536 _ v rfl (by omega) hv hx (by omega) _ (by simp only [IntKind.wrap_i64]; omega)
    · have k16' := eq_false k16
      simp only [go_sem, e1, e2, e3, k16']
      by_cases k8 : a ≥ 256
      · have k8' := eq_true k8
        simp only [go_sem, e1, e2, e3, k8', p3 (a) (by omega)]
        refine W.tabP (by kernel_rfl) (by omega) (by omega) fun v hv hx => ?_
        simp only [go_sem, *]
        exact hP 8 256 _ v rfl (by omega) hv hx (by omega) _ (by simp only [IntKind.wrap_i64]; omega)
      · have k8' := eq_false k8
        simp only [go_sem, e1, e2, e3, k8']
        refine W.tabP (by kernel_rfl) (by omega) (by omega) fun v hv hx => ?_
        simp only [go_sem, *]
        exact hP 0 1 _ v rfl (by omega) hv hx (by omega) _ (by simp only [IntKind.wrap_i64]; omega)
theorem lead_c (d : Nat) (a : Int) (h0 : 0 ≤ a) (h1 : a < 18446744073709551616) : ∃ n : Nat, n ≤ 64 ∧ a < 2 ^ n ∧ evalF Try.prog CC (d + 2) 101 [.int .u64 a] St.empty = some (.int .i64 (64 - n), St.empty) := by
  obtain ⟨n, hn, ha, e⟩ := len_c d a h0 h1
  refine ⟨n, hn, ha, wp_eq ?_⟩
  rw [run_101 _ _ _ (by simp)]; unfold Try.f101; simp only [Option.getD_some]
  simp only [go_sem, e]
  have hw : IntKind.i64.wrap (64 - (n : Int)) = 64 - n := by rw [IntKind.wrap_i64]; omega
  rw [hw]
  rfl
theorem fill_eq : ∀ n : Nat, n ≤ 64 → (18446744073709551615 : Int) / 2 ^ (64 - n) = 2 ^ n - 1 := by
  intro n hn
  have h : ∀ m : Nat, m < 65 → (18446744073709551615 : Int) / 2 ^ (64 - m) = 2 ^ m - 1 := by decide
  exact h n (by omega)
theorem filled_c (d : Nat) (a : Int) (h0 : 0 ≤ a) (h1 : a < 18446744073709551616) : ∃ n : Nat, n ≤ 64 ∧ a < 2 ^ n ∧ evalF Try.prog CC (d + 3) 76 [.int .u64 a] St.empty = some (.int .u64 (2 ^ n - 1), St.empty) := by
  obtain ⟨n, hn, ha, e⟩ := lead_c d a h0 h1
  have e1 := fun a => shr_T (k := .u64) (k2 := .i64) (t := 24) (a := a) (show ¬ (64 - (n : Int)) < 0 by omega)
  by_cases hz : a = 0
  · refine ⟨0, by omega, by rw [hz]; decide, wp_eq ?_⟩
    have hz' := eq_true hz
    rw [run_76 _ _ _ (by simp)]; unfold Try.f76; simp only [Option.getD_some]
    simp only [go_sem, hz']
    rfl
  · refine ⟨n, hn, ha, wp_eq ?_⟩
    have hz' := eq_false hz
    have hm : min (64 - (n : Int)).toNat 64 = 64 - n := by omega
    have hf : (18446744073709551615 : Int).fdiv (2 ^ (min (64 - (n : Int)).toNat 64)) = 2 ^ n - 1 := by
      rw [hm, fd _ (by omega), fill_eq n hn]
    rw [run_76 _ _ _ (by simp)]; unfold Try.f76; simp only [Option.getD_some]
    simp only [go_sem, hz', e, e1, hf]
    rfl
end Go.Proofs.Yticlihmbikcohaa.Va

/- chapter 19: products, exact enough -/
namespace Go.Proofs.Yticlihmbikcohaa.Va
open Go
set_option linter.unusedVariables false
set_option linter.unusedSimpArgs false
set_option maxRecDepth 100000
set_option maxHeartbeats 4000000
theorem and_low {a : Int} (h0 : 0 ≤ a) (h1 : a < 18446744073709551616) : andI .u64 a 4294967295 = a % 4294967296 := by
  obtain ⟨n, rfl⟩ : ∃ n : Nat, a = n := ⟨a.toNat, by omega⟩
  unfold andI
  have e1 : (BitVec.ofInt (IntKind.u64).bits (n : Int) &&& BitVec.ofInt (IntKind.u64).bits 4294967295).toNat = n % 4294967296 := by
    have h2 : (IntKind.u64).bits = 64 := rfl
    simp only [h2, BitVec.toNat_and, BitVec.toNat_ofInt]
    have h3 : ((n : Int) % ((2 ^ 64 : Nat) : Int)).toNat = n := by
      have : ((2 ^ 64 : Nat) : Int) = 18446744073709551616 := by decide
      rw [this]; omega
    have h4 : ((4294967295 : Int) % ((2 ^ 64 : Nat) : Int)).toNat = 2 ^ 32 - 1 := by decide
    rw [h3, h4, Nat.and_two_pow_sub_one_eq_mod]
  rw [e1, IntKind.wrap_u64]
  omega
theorem mul_c (d : Nat) (a m : Int) (h0 : 0 ≤ a) (h1 : a < 18446744073709551616) (m0 : 0 ≤ m) (m1 : m < 4294967296) : ∃ hi : Int, (hi = 0 → a * m < 18446744073709551616) ∧ evalF Try.prog CC (d + 1) 74 [.int .u64 a, .int .u64 m] St.empty = some (.tup [.int .u64 hi, .int .u64 (IntKind.u64.wrap (a * m))], St.empty) := by
  have e1 := fun a => shr_T (k := .u64) (k2 := .u64) (t := 24) (a := a) (show ¬ (32 : Int) < 0 by omega)
  refine (show Wp (fun r => ∃ hi : Int, (hi = 0 → a * m < 18446744073709551616) ∧ r = some ((AV.tup [.int .u64 hi, .int .u64 (IntKind.u64.wrap (a * m))], St.empty) : AV × St)) _ from ?_)
  have p1 : ∀ a : Int, 0 ≤ a → a.fdiv (2 ^ (min (Int.toNat 32) 64)) = a / 4294967296 := fun a h => fd 32 h
  have p2 : andI .u64 a 4294967295 = a % 4294967296 := and_low h0 h1
  have p3 : andI .u64 m 4294967295 = m := by rw [and_low m0 (by omega)]; omega
  have p4 : m / 4294967296 = 0 := by omega
  rw [run_74 _ _ _ (by simp)]; unfold Try.f74; simp only [Option.getD_some]
  simp only [go_sem, e1, and_T, p2, p3, p1 a h0, p1 m m0, p4]
  have hx1 : 0 ≤ a / 4294967296 ∧ a / 4294967296 ≤ 4294967295 := by omega
  have hx0 : 0 ≤ a % 4294967296 ∧ a % 4294967296 ≤ 4294967295 := by omega
  have ham : a * m = 4294967296 * (a / 4294967296 * m) + a % 4294967296 * m := by
    have h : a = 4294967296 * (a / 4294967296) + a % 4294967296 := by omega
    calc a * m = (4294967296 * (a / 4294967296) + a % 4294967296) * m := by rw [← h]
      _ = _ := by rw [Int.add_mul, Int.mul_assoc]
  have hP : 0 ≤ a / 4294967296 * m ∧ a / 4294967296 * m ≤ 4294967295 * 4294967295 := ⟨Int.mul_nonneg hx1.1 m0, Int.mul_le_mul hx1.2 (by omega) m0 (by omega)⟩
  have hQ : 0 ≤ a % 4294967296 * m ∧ a % 4294967296 * m ≤ 4294967295 * 4294967295 := ⟨Int.mul_nonneg hx0.1 m0, Int.mul_le_mul hx0.2 (by omega) m0 (by omega)⟩
  rw [Int.mul_zero, Int.mul_zero]
  generalize a / 4294967296 * m = P at ham hP ⊢
  generalize a % 4294967296 * m = Q at ham hQ ⊢
  have w0 : IntKind.u64.wrap 0 = 0 := by rw [IntKind.wrap_u64]; omega
  have w1 : IntKind.u64.wrap P = P := by rw [IntKind.wrap_u64]; omega
  have w2 : IntKind.u64.wrap Q = Q := by rw [IntKind.wrap_u64]; omega
  rw [w0, w1, w2, p1 Q hQ.1]
  have w3 : IntKind.u64.wrap (P + Q / 4294967296) = P + Q / 4294967296 := by rw [IntKind.wrap_u64]; omega
  rw [w3, p1 _ (by omega), and_low (by omega) (by omega)]
  have w4 : IntKind.u64.wrap ((P + Q / 4294967296) % 4294967296 + 0) = (P + Q / 4294967296) % 4294967296 := by rw [IntKind.wrap_u64]; omega
  rw [w4, p1 _ (by omega)]
  refine ⟨_, fun h => ?_, rfl⟩
  simp only [IntKind.wrap_u64] at h
  omega
end Go.Proofs.Yticlihmbikcohaa.Va

/- chapter 19: alu.Do, exact; a span has what comes out -/
namespace Go.Proofs.Yticlihmbikcohaa.Va
open Go
set_option linter.unusedVariables false
set_option linter.unusedSimpArgs false
set_option maxRecDepth 100000
set_option maxHeartbeats 4000000
def aluV (op v m : Int) : Int :=
  if op = 1 then IntKind.u64.wrap (v + m)
  else if op = 2 then IntKind.u64.wrap (v - m)
  else if op = 3 then IntKind.u64.wrap (v * m)
  else if op = 4 then (if m = 0 then 0 else v / m)
  else if op = 5 then (if m = 0 then v else v % m)
  else if op = 6 then andI .u64 v m
  else if op = 7 then orI .u64 v m
  else if op = 8 then xorI .u64 v m
  else if op = 9 then IntKind.u64.wrap (v * 2 ^ (m % 64).toNat)
  else if op = 10 then v / 2 ^ (m % 64).toNat
  else IntKind.u64.wrap ((IntKind.i64.wrap v).fdiv (2 ^ (m % 64).toNat))
theorem alu_c (d : Nat) (op v m : Int) (hop : 1 ≤ op ∧ op ≤ 11) (h0 : 0 ≤ v) (h1 : v < 18446744073709551616) (m0 : 0 ≤ m) (m1 : m < 18446744073709551616) : evalF Try.prog CC (d + 3) 8 [.int .i64 op, .int .u64 v, .int .u64 m] St.empty = some (.tup [.int .u64 (aluV op v m), .int .i64 0], St.empty) := by
  have hk : m.tmod 64 = m % 64 := Int.tmod_eq_emod_of_nonneg m0
  have hn : ¬ m % 64 < 0 := by omega
  have hmin : min (m % 64).toNat 64 = (m % 64).toNat := by omega
  have e1 := shl_T (k := .u64) (k2 := .u64) (t := 24) (a := v) hn
  have e2 := shr_T (k := .u64) (k2 := .u64) (t := 24) (a := v) hn
  have e3 := shr_T (k := .i64) (k2 := .u64) (t := 2) (a := IntKind.i64.wrap v) hn
  have b1 : (IntKind.u64).bits = 64 := rfl
  have b2 : (IntKind.i64).bits = 64 := rfl
  rw [b1, hmin] at e1 e2
  rw [b2, hmin] at e3
  have z1 := fun k t a b => and_T (k := k) (t := t) (a := a) (b := b)
  have z2 := fun k t a b => or_T (k := k) (t := t) (a := a) (b := b)
  have z3 := fun k t a b => xor_T (k := k) (t := t) (a := a) (b := b)
  refine wp_eq ?_
  rw [run_8 _ _ _ (by simp)]; unfold Try.f8; simp only [Option.getD_some]
  simp only [go_sem, hk]
  rcases (show op = 1 ∨ op = 2 ∨ op = 3 ∨ op = 4 ∨ op = 5 ∨ op = 6 ∨ op = 7 ∨ op = 8 ∨ op = 9 ∨ op = 10 ∨ op = 11 by omega) with rfl | rfl | rfl | rfl | rfl | rfl | rfl | rfl | rfl | rfl | rfl
  · simp only [go_sem, hk, aluV]
    rfl
  · simp only [go_sem, hk, aluV]
    rfl
  · simp only [go_sem, hk, aluV]
    rfl
  · by_cases hm : m = 0
    · have hm' := eq_true hm
      simp only [go_sem, hk, hm', aluV]
      rfl
    · have hm' := eq_false hm
      have hd : v.tdiv m = v / m := Int.tdiv_eq_ediv_of_nonneg h0
      have hw : IntKind.u64.wrap (v / m) = v / m := by
        have h2 : 0 ≤ v / m := Int.ediv_nonneg h0 m0
        have h3 : v / m ≤ v := Int.ediv_le_self _ h0
        rw [IntKind.wrap_u64]; omega
      simp only [go_sem, hk, hm', hd, hw, aluV]
      rfl
  · by_cases hm : m = 0
    · have hm' := eq_true hm
      simp only [go_sem, hk, hm', aluV]
      rfl
    · have hm' := eq_false hm
      have hd : v.tmod m = v % m := Int.tmod_eq_emod_of_nonneg h0
      simp only [go_sem, hk, hm', hd, aluV]
      rfl
  · simp only [go_sem, hk, z1, aluV]
    rfl
  · simp only [go_sem, hk, z2, aluV]
    rfl
  · simp only [go_sem, hk, z3, aluV]
    rfl
  · simp only [go_sem, hk, e1, aluV]
    rfl
  · have hd := fd (m % 64).toNat h0
    simp only [go_sem, hk, e2, hd, aluV]
    rfl
  · simp only [go_sem, hk, e3, aluV]
    rfl
theorem lift_u {n : Nat} (h : n < 18446744073709551616) : ((n : Int) % ((2 ^ 64 : Nat) : Int)).toNat = n := by
  have : ((2 ^ 64 : Nat) : Int) = 18446744073709551616 := by decide
  rw [this]; omega
theorem and_N {a b : Nat} (ha : a < 18446744073709551616) (hb : b < 18446744073709551616) : andI .u64 a b = ((a &&& b : Nat) : Int) := by
  unfold andI
  have h2 : (IntKind.u64).bits = 64 := rfl
  have h3 : a &&& b ≤ a := Nat.and_le_left
  simp only [h2, BitVec.toNat_and, BitVec.toNat_ofInt, lift_u ha, lift_u hb]
  rw [IntKind.wrap_u64]; omega
theorem or_N {a b : Nat} (ha : a < 18446744073709551616) (hb : b < 18446744073709551616) : orI .u64 a b = ((a ||| b : Nat) : Int) := by
  unfold orI
  have h2 : (IntKind.u64).bits = 64 := rfl
  have h3 : a ||| b < 2 ^ 64 := Nat.or_lt_two_pow ha hb
  simp only [h2, BitVec.toNat_or, BitVec.toNat_ofInt, lift_u ha, lift_u hb]
  rw [IntKind.wrap_u64]; omega
theorem xor_N {a b : Nat} (ha : a < 18446744073709551616) (hb : b < 18446744073709551616) : xorI .u64 a b = ((a ^^^ b : Nat) : Int) := by
  unfold xorI
  have h2 : (IntKind.u64).bits = 64 := rfl
  have h3 : a ^^^ b < 2 ^ 64 := Nat.xor_lt_two_pow ha hb
  simp only [h2, BitVec.toNat_xor, BitVec.toNat_ofInt, lift_u ha, lift_u hb]
  rw [IntKind.wrap_u64]; omega
theorem aluV_rng {op v m : Int} (h0 : 0 ≤ v) (h1 : v < 18446744073709551616) (m0 : 0 ≤ m) (m1 : m < 18446744073709551616) : 0 ≤ aluV op v m ∧ aluV op v m ≤ 18446744073709551615 := by
  have hw : ∀ x, 0 ≤ IntKind.u64.wrap x ∧ IntKind.u64.wrap x ≤ 18446744073709551615 := fun x => by rw [IntKind.wrap_u64]; omega
  unfold aluV
  repeat' split
  all_goals first
    | exact hw _
    | exact ⟨Int.le_refl 0, by omega⟩
    | exact ⟨h0, by omega⟩
    | exact ⟨Int.ediv_nonneg h0 m0, by have := Int.ediv_le_self m h0; omega⟩
    | exact ⟨Int.emod_nonneg _ (by assumption), by have := Int.emod_lt_of_pos v (show 0 < m by omega); omega⟩
    | (refine ⟨Int.ediv_nonneg h0 (Int.pow_nonneg (by omega)), ?_⟩; have := Int.ediv_le_self (2 ^ (m % 64).toNat) h0; omega)
end Go.Proofs.Yticlihmbikcohaa.Va

/- chapter 19: spans of rests and shifts have what comes out -/
namespace Go.Proofs.Yticlihmbikcohaa.Va
open Go
set_option linter.unusedVariables false
set_option linter.unusedSimpArgs false
set_option maxRecDepth 100000
set_option maxHeartbeats 4000000
def HasP (x : Int) (r : Option (AV × St)) : Prop := ∃ lo hi, (lo ≤ x ∧ x ≤ hi ∧ 0 ≤ lo ∧ hi ≤ 18446744073709551615) ∧ r = some (spanA lo hi, St.empty)
theorem mod_has (d : Nat) (a b m v : Int) (h0 : 0 ≤ a) (h1 : a ≤ v) (h2 : v ≤ b) (h3 : b < 18446744073709551616) (m0 : 0 ≤ m) : Wp (HasP (aluV 5 v m)) (evalF Try.prog CC (d + 3) 75 [spanA a b, spanA m m] St.empty) := by
  have q := fun d n => of_c d n
  have hv : aluV 5 v m = if m = 0 then v else v % m := rfl
  rw [hv]
  unfold spanA
  rw [run_75 _ _ _ (by simp)]; unfold Try.f75; simp only [Option.getD_some]
  simp only [go_sem, *]
  refine W.br_ok (by kernel_rfl) ?_
  by_cases c1 : b < m
  · have c1' := eq_true c1
    simp only [go_sem, q, c1']
    rw [if_neg (by omega), Int.emod_eq_of_lt (by omega) (by omega)]
    exact ⟨a, b, ⟨h1, h2, h0, by omega⟩, rfl⟩
  have c1' := eq_false c1
  by_cases hm : m = 0
  · have hm' := eq_true hm
    simp only [go_sem, q, c1', hm']
    exact ⟨a, b, ⟨h1, h2, h0, by omega⟩, rfl⟩
  · have hm' := eq_false hm
    simp only [go_sem, q, c1', hm']
    have hw : IntKind.u64.wrap (m - 1) = m - 1 ∨ 18446744073709551616 ≤ m := by rw [IntKind.wrap_u64]; omega
    have hlt := Int.emod_lt_of_pos v (show 0 < m by omega)
    have hnn := Int.emod_nonneg v hm
    have hle : v % m ≤ v := by
      rcases Int.lt_or_le v m with h | h
      · rw [Int.emod_eq_of_lt (by omega) h]; exact Int.le_refl _
      · omega
    have hw : IntKind.u64.wrap (m - 1) = m - 1 := hw.resolve_right (by omega)
    rw [hw]
    exact ⟨0, min b (m - 1), ⟨hnn, by omega, Int.le_refl 0, by omega⟩, rfl⟩
theorem shift_has (d : Nat) (op a b m v : Int) (hop : op = 9 ∨ op = 10 ∨ op = 11) (h0 : 0 ≤ a) (h1 : a ≤ v) (h2 : v ≤ b) (h3 : b < 18446744073709551616) (m0 : 0 ≤ m) (m1 : m < 18446744073709551616) : Wp (HasP (aluV op v m)) (evalF Try.prog CC (d + 4) 77 [.int .i64 op, spanA a b, spanA m m] St.empty) := by
  have q := fun d n => of_c d n
  have q1 := fun d => all_c d
  have q2 := fun d lo hi => single_c d lo hi
  have hk : m.tmod 64 = m % 64 := Int.tmod_eq_emod_of_nonneg m0
  have hn : ¬ m % 64 < 0 := by omega
  have hmin : min (m % 64).toNat 64 = (m % 64).toNat := by omega
  have b1 : (IntKind.u64).bits = 64 := rfl
  have e1 := fun a => shl_T (k := .u64) (k2 := .u64) (t := 24) (a := a) hn
  have e2 := fun a => shr_T (k := .u64) (k2 := .u64) (t := 24) (a := a) hn
  have e3 := fun a => shr_T (k := .u64) (k2 := .u64) (t := 24) (a := a) (show ¬ (63 : Int) < 0 by omega)
  rw [b1, hmin] at e1 e2
  have hrg := aluV_rng (op := op) (show 0 ≤ v by omega) (show v < 18446744073709551616 by omega) m0 m1
  unfold spanA
  rw [run_77 _ _ _ (by simp)]; unfold Try.f77; simp only [Option.getD_some]
  simp only [go_sem, q, q1, q2, hk, e1, e2, e3]
  rcases hop with rfl | rfl | rfl
  · simp only [go_sem, q, q1, q2, hk, e1, e2, e3]
    have hv : aluV 9 v m = IntKind.u64.wrap (v * 2 ^ (m % 64).toNat) := rfl
    rw [hv] at hrg ⊢
    have hC : (0 : Int) < 2 ^ (m % 64).toNat := Int.pow_pos (by omega)
    generalize (2 : Int) ^ (m % 64).toNat = C at hC hrg e1 ⊢
    have hf : Int.fdiv 18446744073709551615 C = 18446744073709551615 / C := Int.fdiv_eq_ediv_of_nonneg _ (by omega)
    rw [hf]
    by_cases c1 : b ≤ 18446744073709551615 / C
    · have c1' := eq_true c1
      have g3 : b * C ≤ 18446744073709551615 := Int.le_trans (Int.mul_le_mul_of_nonneg_right c1 (by omega)) (Int.ediv_mul_le _ (by omega))
      have g1 : a * C ≤ v * C := Int.mul_le_mul_of_nonneg_right h1 (by omega)
      have g2 : v * C ≤ b * C := Int.mul_le_mul_of_nonneg_right h2 (by omega)
      have g0 : 0 ≤ a * C := Int.mul_nonneg h0 (by omega)
      have w1 : IntKind.u64.wrap (a * C) = a * C := by rw [IntKind.wrap_u64]; omega
      have w2 : IntKind.u64.wrap (v * C) = v * C := by rw [IntKind.wrap_u64]; omega
      have w3 : IntKind.u64.wrap (b * C) = b * C := by rw [IntKind.wrap_u64]; omega
      simp only [go_sem, c1', q, q1, q2, hk, e1, w1, w2, w3]
      exact ⟨a * C, b * C, ⟨g1, g2, g0, g3⟩, rfl⟩
    · have c1' := eq_false c1
      simp only [go_sem, c1', q1]
      exact ⟨0, 18446744073709551615, ⟨hrg.1, hrg.2, by omega, by omega⟩, rfl⟩
  · simp only [go_sem, q, q1, q2, hk, e1, e2, e3]
    have hC : (0 : Int) < 2 ^ (m % 64).toNat := Int.pow_pos (by omega)
    have hv : aluV 10 v m = v / 2 ^ (m % 64).toNat := rfl
    rw [hv, fd _ h0, fd _ (show 0 ≤ b by omega)]
    generalize (2 : Int) ^ (m % 64).toNat = C at hC ⊢
    exact ⟨a / C, b / C, ⟨Int.ediv_le_ediv hC h1, Int.ediv_le_ediv hC h2, Int.ediv_nonneg h0 (by omega), by have := Int.ediv_le_self C (show 0 ≤ b by omega); omega⟩, rfl⟩
  · simp only [go_sem, q, q1, q2, hk, e1, e2, e3]
    have p3 : b.fdiv (2 ^ (min (Int.toNat 63) 64)) = b / 9223372036854775808 := fd 63 (by omega)
    rw [p3]
    by_cases c1 : b / 9223372036854775808 = 1
    · have c1' := eq_true c1
      simp only [go_sem, c1', q1]
      exact ⟨0, 18446744073709551615, ⟨hrg.1, hrg.2, by omega, by omega⟩, rfl⟩
    · have c1' := eq_false c1
      simp only [go_sem, c1', q, q1, q2, hk, e1, e2, e3]
      have hC : (0 : Int) < 2 ^ (m % 64).toNat := Int.pow_pos (by omega)
      have hi : IntKind.i64.wrap v = v := by rw [IntKind.wrap_i64]; omega
      have hv : aluV 11 v m = IntKind.u64.wrap ((IntKind.i64.wrap v).fdiv (2 ^ (m % 64).toNat)) := rfl
      have hq : v / 2 ^ (m % 64).toNat ≤ v := Int.ediv_le_self _ (by omega)
      have hq0 : 0 ≤ v / 2 ^ (m % 64).toNat := Int.ediv_nonneg (by omega) (by omega)
      have hw : IntKind.u64.wrap (v / 2 ^ (m % 64).toNat) = v / 2 ^ (m % 64).toNat := by rw [IntKind.wrap_u64]; omega
      rw [hv, hi, fd _ (show 0 ≤ v by omega), hw, fd _ h0, fd _ (show 0 ≤ b by omega)]
      generalize (2 : Int) ^ (m % 64).toNat = C at hC ⊢
      exact ⟨a / C, b / C, ⟨Int.ediv_le_ediv hC h1, Int.ediv_le_ediv hC h2, Int.ediv_nonneg h0 (by omega), by have := Int.ediv_le_self C (show 0 ≤ b by omega); omega⟩, rfl⟩
end Go.Proofs.Yticlihmbikcohaa.Va

/- chapter 19: span.Do has what comes out -/
namespace Go.Proofs.Yticlihmbikcohaa.Va
open Go
set_option linter.unusedVariables false
set_option linter.unusedSimpArgs false
set_option maxRecDepth 100000
set_option maxHeartbeats 4000000
theorem do_has (d : Nat) (op a b m v : Int) (hop : 1 ≤ op ∧ op ≤ 11) (h0 : 0 ≤ a) (h1 : a ≤ v) (h2 : v ≤ b) (h3 : b < 18446744073709551616) (m0 : 0 ≤ m) (m1 : m < 4294967296) : Wp (HasP (aluV op v m)) (evalF Try.prog CC (d + 6) 53 [.int .i64 op, spanA a b, spanA m m] St.empty) := by
  have q1 := fun d => all_c d
  have q2 := fun d σ => add64_c d σ b m (by omega) (by omega)
  obtain ⟨n, hnm, q3⟩ := mul_c (d + 4) b m (by omega) h3 m0 m1
  have z1 := fun k t a b => and_T (k := k) (t := t) (a := a) (b := b)
  have z2 := fun k t a b => or_T (k := k) (t := t) (a := a) (b := b)
  have hrg := aluV_rng (op := op) (show 0 ≤ v by omega) (show v < 18446744073709551616 by omega) m0 (show m < 18446744073709551616 by omega)
  obtain ⟨bN, hbN⟩ : ∃ n : Nat, b = n := ⟨b.toNat, by omega⟩
  obtain ⟨mN, hmN⟩ : ∃ n : Nat, m = n := ⟨m.toNat, by omega⟩
  obtain ⟨vN, hvN⟩ : ∃ n : Nat, v = n := ⟨v.toNat, by omega⟩
  have hor : orI .u64 b m = ((bN ||| mN : Nat) : Int) := by rw [hbN, hmN]; exact or_N (by omega) (by omega)
  have horlt : bN ||| mN < 2 ^ 64 := Nat.or_lt_two_pow (show bN < 2 ^ 64 by omega) (show mN < 2 ^ 64 by omega)
  obtain ⟨fk, hfk, hfl, q6⟩ := filled_c (d + 2) (orI .u64 b m) (by rw [hor]; omega) (by rw [hor]; omega)
  have hfl' : bN ||| mN < 2 ^ fk := by
    rw [hor] at hfl
    have : ((bN ||| mN : Nat) : Int) < ((2 ^ fk : Nat) : Int) := by push_cast; exact hfl
    exact_mod_cast this
  have hvk : vN < 2 ^ fk := by
    have h4 : bN ≤ bN ||| mN := Nat.left_le_or
    omega
  have hmk : mN < 2 ^ fk := by
    have h4 : mN ≤ bN ||| mN := Nat.right_le_or
    omega
  have hfr : (2 : Int) ^ fk - 1 ≤ 18446744073709551615 := by
    have h4 : 2 ^ fk ≤ 2 ^ 64 := Nat.pow_le_pow_right (by omega) hfk
    have h5 : ((2 ^ fk : Nat) : Int) = (2 : Int) ^ fk := by push_cast; rfl
    omega
  have hcast : ((2 ^ fk : Nat) : Int) = (2 : Int) ^ fk := by push_cast; rfl
  simp only [Nat.add_assoc, Nat.reduceAdd] at q3 q6
  have ec : b + m + 0 = b + m := Int.add_zero _
  rcases (show op = 1 ∨ op = 2 ∨ op = 3 ∨ op = 4 ∨ op = 5 ∨ op = 6 ∨ op = 7 ∨ op = 8 ∨ (op = 9 ∨ op = 10 ∨ op = 11) by omega) with rfl | rfl | rfl | rfl | rfl | rfl | rfl | rfl | h9
  · have hv : aluV 1 v m = IntKind.u64.wrap (v + m) := rfl
    rw [hv] at hrg ⊢
    unfold spanA
    rw [run_53 _ _ _ (by simp)]; unfold Try.f53; simp only [Option.getD_some]
    simp only [go_sem, q1, q2, ec]
    by_cases c1 : (b + m) / 18446744073709551616 = 0
    · have c1' := eq_true c1
      simp only [go_sem, c1', q1]
      refine ⟨_, _, ⟨?_, ?_, ?_, ?_⟩, rfl⟩ <;> (try simp only [IntKind.wrap_u64]) <;> omega
    · have c1' := eq_false c1
      simp only [go_sem, c1', q1]
      exact ⟨_, _, ⟨hrg.1, hrg.2, Int.le_refl 0, Int.le_refl _⟩, rfl⟩
  · have hv : aluV 2 v m = IntKind.u64.wrap (v - m) := rfl
    rw [hv] at hrg ⊢
    unfold spanA
    rw [run_53 _ _ _ (by simp)]; unfold Try.f53; simp only [Option.getD_some]
    simp only [go_sem, q1, q2]
    by_cases c1 : a ≥ m
    · have c1' := eq_true c1
      simp only [go_sem, c1', q1]
      refine ⟨_, _, ⟨?_, ?_, ?_, ?_⟩, rfl⟩ <;> (try simp only [IntKind.wrap_u64]) <;> omega
    · have c1' := eq_false c1
      simp only [go_sem, c1', q1]
      exact ⟨_, _, ⟨hrg.1, hrg.2, Int.le_refl 0, Int.le_refl _⟩, rfl⟩
  · have hv : aluV 3 v m = IntKind.u64.wrap (v * m) := rfl
    rw [hv] at hrg ⊢
    unfold spanA
    rw [run_53 _ _ _ (by simp)]; unfold Try.f53; simp only [Option.getD_some]
    simp only [go_sem, q1, q3]
    by_cases c1 : n = 0
    · have c1' := eq_true c1
      have g := hnm c1
      have g1 : a * m ≤ v * m := Int.mul_le_mul_of_nonneg_right h1 m0
      have g2 : v * m ≤ b * m := Int.mul_le_mul_of_nonneg_right h2 m0
      have g0 : 0 ≤ a * m := Int.mul_nonneg h0 m0
      simp only [go_sem, c1', q1]
      refine ⟨_, _, ⟨?_, ?_, ?_, ?_⟩, rfl⟩ <;> (try simp only [IntKind.wrap_u64]) <;> omega
    · have c1' := eq_false c1
      simp only [go_sem, c1', q1]
      exact ⟨_, _, ⟨hrg.1, hrg.2, Int.le_refl 0, Int.le_refl _⟩, rfl⟩
  · have hv : aluV 4 v m = if m = 0 then 0 else v / m := rfl
    rw [hv] at hrg ⊢
    unfold spanA
    rw [run_53 _ _ _ (by simp)]; unfold Try.f53; simp only [Option.getD_some]
    simp only [go_sem, q1]
    by_cases c1 : m = 0
    · have c1' := eq_true c1
      simp only [go_sem, c1', q1]
      exact ⟨0, b, ⟨Int.le_refl 0, by omega, Int.le_refl 0, by omega⟩, rfl⟩
    · have c1' := eq_false c1
      have da : a.tdiv m = a / m := Int.tdiv_eq_ediv_of_nonneg h0
      have db : b.tdiv m = b / m := Int.tdiv_eq_ediv_of_nonneg (by omega)
      have wa : IntKind.u64.wrap (a / m) = a / m := by
        have := Int.ediv_nonneg h0 m0; have := Int.ediv_le_self m h0
        rw [IntKind.wrap_u64]; omega
      have wb : IntKind.u64.wrap (b / m) = b / m := by
        have := Int.ediv_nonneg (show 0 ≤ b by omega) m0; have := Int.ediv_le_self m (show 0 ≤ b by omega)
        rw [IntKind.wrap_u64]; omega
      simp only [go_sem, c1', q1]
      refine W.br_ok (by kernel_rfl) ?_
      simp only [go_sem, c1', da, db, wa, wb]
      have hm : 0 < m := by omega
      exact ⟨a / m, b / m, ⟨Int.ediv_le_ediv hm h1, Int.ediv_le_ediv hm h2, Int.ediv_nonneg h0 m0, by have := Int.ediv_le_self m (show 0 ≤ b by omega); omega⟩, rfl⟩
  · obtain ⟨lo, hi, hh, q4⟩ := mod_has (d + 2) a b m v h0 h1 h2 h3 m0
    unfold spanA at q4 ⊢
    simp only [Nat.add_assoc, Nat.reduceAdd] at q4
    rw [run_53 _ _ _ (by simp)]; unfold Try.f53; simp only [Option.getD_some]
    simp only [go_sem, q4]
    exact ⟨lo, hi, hh, rfl⟩
  · have hv : aluV 6 v m = andI .u64 v m := rfl
    rw [hv] at hrg ⊢
    have hand : andI .u64 v m = ((vN &&& mN : Nat) : Int) := by rw [hvN, hmN]; exact and_N (by omega) (by omega)
    have g1 : vN &&& mN ≤ vN := Nat.and_le_left
    have g2 : vN &&& mN ≤ mN := Nat.and_le_right
    rw [hand]
    generalize vN &&& mN = oN at g1 g2 ⊢
    unfold spanA
    rw [run_53 _ _ _ (by simp)]; unfold Try.f53; simp only [Option.getD_some]
    simp only [go_sem, q1]
    exact ⟨0, min b m, ⟨by omega, by omega, Int.le_refl 0, by omega⟩, rfl⟩
  · have hv : aluV 7 v m = orI .u64 v m := rfl
    rw [hv] at hrg ⊢
    have hvm : orI .u64 v m = ((vN ||| mN : Nat) : Int) := by rw [hvN, hmN]; exact or_N (by omega) (by omega)
    have g1 : vN ≤ vN ||| mN := Nat.left_le_or
    have g2 : mN ≤ vN ||| mN := Nat.right_le_or
    have g3 : vN ||| mN < 2 ^ fk := Nat.or_lt_two_pow hvk hmk
    rw [hvm]
    generalize vN ||| mN = oN at g1 g2 g3 ⊢
    generalize hpw : 2 ^ fk = pN at g3 hcast
    unfold spanA
    rw [run_53 _ _ _ (by simp)]; unfold Try.f53; simp only [Option.getD_some]
    simp only [go_sem, z2, q6]
    refine W.br_ok (by kernel_rfl) ?_
    simp only [go_sem, z2, q6]
    exact ⟨max a m, 2 ^ fk - 1, ⟨by omega, by omega, by omega, hfr⟩, rfl⟩
  · have hv : aluV 8 v m = xorI .u64 v m := rfl
    rw [hv] at hrg ⊢
    have hvm : xorI .u64 v m = ((vN ^^^ mN : Nat) : Int) := by rw [hvN, hmN]; exact xor_N (by omega) (by omega)
    have g3 : vN ^^^ mN < 2 ^ fk := Nat.xor_lt_two_pow hvk hmk
    rw [hvm]
    generalize vN ^^^ mN = oN at g3 ⊢
    generalize hpw : 2 ^ fk = pN at g3 hcast
    unfold spanA
    rw [run_53 _ _ _ (by simp)]; unfold Try.f53; simp only [Option.getD_some]
    simp only [go_sem, z2, q6]
    exact ⟨0, 2 ^ fk - 1, ⟨by omega, by omega, Int.le_refl 0, hfr⟩, rfl⟩
  · obtain ⟨lo, hi, hh, q5⟩ := shift_has (d + 1) op a b m v h9 h0 h1 h2 h3 m0 (by omega)
    have c1 := eq_false (show ¬ op = 1 by omega)
    have c2 := eq_false (show ¬ op = 2 by omega)
    have c3 := eq_false (show ¬ op = 3 by omega)
    have c4 := eq_false (show ¬ op = 4 by omega)
    have c5 := eq_false (show ¬ op = 5 by omega)
    have c6 := eq_false (show ¬ op = 6 by omega)
    have c7 := eq_false (show ¬ op = 7 by omega)
    have c8 := eq_false (show ¬ op = 8 by omega)
    unfold spanA at q5 ⊢
    simp only [Nat.add_assoc, Nat.reduceAdd] at q5
    rw [run_53 _ _ _ (by simp)]; unfold Try.f53; simp only [Option.getD_some]
    simp only [go_sem, c1, c2, c3, c4, c5, c6, c7, c8, q5]
    exact ⟨lo, hi, hh, rfl⟩
theorem spanDo_has (d : Nat) (op a b m v : Int) (hop : 1 ≤ op ∧ op ≤ 11) (h0 : 0 ≤ a) (h1 : a ≤ v) (h2 : v ≤ b) (h3 : b < 18446744073709551616) (m0 : 0 ≤ m) (m1 : m < 4294967296) : ∃ lo hi er, (lo ≤ aluV op v m ∧ aluV op v m ≤ hi ∧ 0 ≤ lo ∧ hi ≤ 18446744073709551615) ∧ evalF Try.prog CC (d + 7) 40 [.int .i64 op, spanA a b, spanA m m] St.empty = some (.tup [spanA lo hi, .int .i64 er], St.empty) := by
  have m1' := fun d => spanMay_c d a b
  have m2 := fun d => spanMay_c d m m
  have s1 := fun d => single_c d a b
  have s2 := fun d => single_c d m m
  have s3 := fun d n => of_c d n
  have k1 := eq_false (show ¬ op < 1 by omega)
  have k2 := eq_false (show ¬ op > 11 by omega)
  have k3 := eq_true (show a ≤ b by omega)
  have k4 := eq_true (Int.le_refl m)
  have k5 := eq_true (rfl : m = m)
  refine (show Wp (fun r => ∃ lo hi er, (lo ≤ aluV op v m ∧ aluV op v m ≤ hi ∧ 0 ≤ lo ∧ hi ≤ 18446744073709551615) ∧ r = some ((AV.tup [spanA lo hi, .int .i64 er], St.empty) : AV × St)) _ from ?_)
  have hal : evalF Try.prog CC (d + 6) 8 _ _ = _ := alu_c (d + 3) op a m hop h0 (by omega) m0 (by omega)
  obtain ⟨lo2, hi2, hh2, q2⟩ := do_has d op a b m v hop h0 h1 h2 h3 m0 m1
  unfold spanA at q2 ⊢
  rw [run_40 _ _ _ (by simp)]; unfold Try.f40; simp only [Option.getD_some]
  simp only [go_sem, k1, k2, m1', k3, m2, k4, s1, s2]
  by_cases h5 : b = a
  case neg =>
    have h5' := eq_false h5
    simp only [go_sem, h5', q2]
    exact ⟨lo2, hi2, _, hh2, rfl⟩
  have h5' := eq_true h5
  simp only [go_sem, h5', s2, k5, hal, s3]
  have hva : v = a := by omega
  have hrg := aluV_rng (op := op) (show 0 ≤ v by omega) (show v < 18446744073709551616 by omega) m0 (show m < 18446744073709551616 by omega)
  rw [hva] at hrg ⊢
  exact ⟨_, _, _, ⟨Int.le_refl _, Int.le_refl _, hrg.1, hrg.2⟩, rfl⟩
end Go.Proofs.Yticlihmbikcohaa.Va

/- chapter 19: steps of programs of numbers alone -/
namespace Go.Proofs.Yticlihmbikcohaa.Va
open Go
set_option linter.unusedVariables false
set_option linter.unusedSimpArgs false
set_option maxRecDepth 100000
set_option maxHeartbeats 4000000
theorem step_num (d : Nat) {K : Kx} {bp : Bool} {p : List Ins} {L : Int → List Sta} {σ : St} {w m : Nat} (hW : WK K bp p L σ w m) (pc : Int) (hpc : 0 ≤ pc ∧ pc < 1000) (hpl : pc < p.length) (s : Sta) (r : AV) (hr : RefA r s.refs) (ho : SOk s) (hrl : s.refs.length ≤ 100000) (hnn : ∀ i, 0 ≤ (at0 s.regs i).lo)
    (hi : InsOk (at0 p pc)) (hop2 : (at0 p pc).op = 1 ∨ (at0 p pc).op = 4 ∨ (at0 p pc).op = 15) (hl : ∀ k, (L k).length ≤ 10000) :
    Sat (StepP K bp p L w m σ (stepF (d + 4) K pc (at0 p pc) s)) (evalF Try.prog CC (d + 12) 26 [.ptr 65 w [0], .int .i64 pc, encS s r] σ) := by
  obtain ⟨hw, hm, hwm⟩ := hW.lt
  have ow := hW.ow
  simp only [encP] at ow
  have n0 := eq_false (show ¬ w = σ.next by omega)
  refine Sat.go ?_
  rw [run_26 _ _ _ (by simp)]; unfold Try.f26; simp only [Option.getD_some]
  simp only [go_sem, ow, n0, Nat.left_eq_add, Nat.add_eq_left, Nat.add_left_cancel_iff, Nat.succ_ne_zero, Nat.add_assoc, Nat.one_ne_zero, Bool.not_false, Bool.not_true]
  refine W.idx_at (by omega) (by omega) ?_
  generalize at0 p pc = i at hi hop2 ⊢
  have ia := fun k id q => ix_regI (k := k) id q hi.a.1 hi.a.2
  have hb9 : 0 ≤ min i.b 9 ∧ min i.b 9 < 10 := ⟨by have := hi.b; omega, by omega⟩
  have ib := fun k id q => ix_regI (k := k) id q hb9.1 hb9.2
  have ga := get_W hi.a.1 (l := s.regs) (by rw [ho.1]; exact hi.a.2)
  have gb := get_W hb9.1 (l := s.regs) (by rw [ho.1]; exact hb9.2)
  have ie : encI i = .agg 28 [.int .u8 i.op, .int .u8 i.a, .int .u8 i.b, .int .u8 i.c, .int .u32 i.imm] := rfl
  have wb : IntKind.i64.wrap i.b = i.b := by rw [IntKind.wrap_i64]; have := hi.b; omega
  have wc : IntKind.i64.wrap i.c = i.c := by rw [IntKind.wrap_i64]; have := hi.c; omega
  have wi : IntKind.u64.wrap i.imm = i.imm := by rw [IntKind.wrap_u64]; have := hi.imm; omega
  have wj : IntKind.i64.wrap i.imm = i.imm := by rw [IntKind.wrap_i64]; have := hi.imm; omega
  have wp : IntKind.i64.wrap (pc + i.imm) = pc + i.imm := by rw [IntKind.wrap_i64]; have := hi.imm; omega
  have hwrap : IntKind.i64.wrap (pc + 1) = pc + 1 := by rw [IntKind.wrap_i64]; omega
  have hal := hnn i.a
  have hbl := hnn (min i.b 9)
  unfold stepF
  unfold stepN
  generalize at0 s.regs i.a = a at hop2 ga hal ⊢
  generalize at0 s.regs (min i.b 9) = b at gb hbl ⊢
  simp only [encW] at ga gb
  simp only [go_sem, ow, n0, ie, ia, ib, ga, gb, Nat.left_eq_add, Nat.add_eq_left, Nat.add_left_cancel_iff, Nat.succ_ne_zero, Nat.add_assoc, Nat.one_ne_zero, Bool.not_false, Bool.not_true]
  refine W.br_no (by kernel_rfl) (W.br_no (by kernel_rfl) (W.br_ok (by kernel_rfl) ?_))
  simp only [go_sem, ow, n0, ie, ia, ib, ga, gb, wb, Nat.left_eq_add, Nat.add_eq_left, Nat.add_left_cancel_iff, Nat.succ_ne_zero, Nat.add_assoc, Nat.one_ne_zero, Bool.not_false, Bool.not_true]
  obtain ⟨f1, g1, z1, z2, z3, z4, z5, z6, z7, z8⟩ := hr.fq
  have hlk := hl (pc + 1)
  have hlk2 := hl (pc + i.imm)
  have q1 := fun d n => of_c d n
  have q2 := fun d lo hi => number_c d lo hi
  have qa := fun d => all_c d
  have q3 := fun d v w => are_c d false [v, w] (by simp)
  simp only [List.map_cons, List.map_nil, encW] at q3
  simp only [encW, numW] at q2
  rcases hop2 with o | o | o
  · have o' := eq_true o
    rw [if_neg (by omega), if_neg (by omega), if_neg (by omega), if_neg (by omega), if_neg (by omega)]
    rw [if_pos (.inl o)]
    simp only [go_sem, o', Nat.left_eq_add, Nat.add_eq_left, Nat.add_left_cancel_iff, Nat.succ_ne_zero, Nat.add_assoc, Nat.one_ne_zero, Bool.not_false, Bool.not_true]
    refine W.call (move_c _ (K := K) (bp := bp) (p := p) (L := L) (m := m) (by (repeat' first | exact hW | refine WK.box ?_ _ | refine WK.put ?_ (by omega) (by omega) _ | refine WK.tok ?_)) pc hpc s r hr ho i a b hi.a (fun h => absurd o h) hl) ?_
    rintro v τ ⟨hWt, hKt, hv⟩
    simp only at hWt hKt hv
    subst hv
    simp only [go_sem, *]
    exact wp_some ⟨WK.trim hWt hw hm, Keeps.trim (Keeps.trans (by (repeat' first | exact Keeps.refl _ _ | refine Keeps.new ?_ _ | refine Keeps.other ?_ _ (by omega) | refine Keeps.tok ?_ _)) hKt), rfl⟩
  · -- op 4
    have c1 := eq_false (show ¬ i.op = 1 by omega)
    have c2 := eq_false (show ¬ i.op = 8 by omega)
    have c3 := eq_false (show ¬ i.op = 9 by omega)
    have c4 := eq_false (show ¬ i.op = 2 by omega)
    have c5 := eq_false (show ¬ i.op = 3 by omega)
    have c6 := eq_true o
    have c7 := eq_false (show ¬ i.op = 5 by omega)
    have c8 := eq_false (show ¬ i.op = 6 by omega)
    have c9 := eq_false (show ¬ i.op = 7 by omega)
    have ca := eq_false (show ¬ i.op = 10 by omega)
    have cb := eq_false (show ¬ i.op = 11 by omega)
    have cc := eq_false (show ¬ i.op = 12 by omega)
    have cd := eq_false (show ¬ i.op = 13 by omega)
    have ce := eq_false (show ¬ i.op = 14 by omega)
    rw [if_pos (by omega)]
    have hB : aluB i b = numW i.imm i.imm := if_pos o
    rw [hB]
    have q3 := fun d => q3 d a (numW i.imm i.imm)
    obtain ⟨bb, hbb⟩ : ∃ bb, [a, numW i.imm i.imm].all numB = bb := ⟨_, rfl⟩
    have hbb2 : (numB a = true ∧ numB (numW i.imm i.imm) = true) ↔ bb = true := by rw [← hbb]; simp
    rw [hbb] at q3
    simp only [numW] at q3
    obtain ⟨lo, hi', er, hdo, hlo, hdc⟩ := do_c (d + 4) i.c a (numW i.imm i.imm) hal (hi.imm.1)
    rw [hdo]
    have hset : (s.regs.map encW).set i.a.toNat (encW (numW lo hi')) = (setRg s i.a (numW lo hi')).regs.map encW := (List.map_set ..).symm
    simp only [Nat.add_assoc, Nat.reduceAdd, numW] at hdc
    simp only [encW, numW] at hset
    simp only [go_sem, c1, c2, c3, c4, c5, c6, c7, c8, c9, ca, cb, cc, cd, ce, q1, q2, q3, wi, wc, Nat.left_eq_add, Nat.add_eq_left, Nat.add_left_cancel_iff, Nat.succ_ne_zero, Nat.add_assoc, Nat.one_ne_zero, Bool.not_false, Bool.not_true]
    cases bb
    · rw [if_neg (fun h => by have := hbb2.1 h; cases this)]
      simp only [go_sem, Nat.left_eq_add, Nat.add_eq_left, Nat.add_left_cancel_iff, Nat.succ_ne_zero, Nat.add_assoc, Nat.one_ne_zero, Bool.not_false, Bool.not_true]
      exact wp_some ⟨WK.trim (by (repeat' first | exact hW | refine WK.box ?_ _ | refine WK.put ?_ (by omega) (by omega) _ | refine WK.tok ?_)) hw hm, Keeps.trim (by (repeat' first | exact Keeps.refl _ _ | refine Keeps.new ?_ _ | refine Keeps.other ?_ _ (by omega) | refine Keeps.tok ?_ _)), rfl⟩
    rw [if_pos (hbb2.2 rfl)]
    simp only [go_sem, hdc, wc, Nat.left_eq_add, Nat.add_eq_left, Nat.add_left_cancel_iff, Nat.succ_ne_zero, Nat.add_assoc, Nat.one_ne_zero, Bool.not_false, Bool.not_true]
    refine W.br_ok (by kernel_rfl) ?_
    simp only [go_sem, ia, ga, q2, hset, hwrap, frz_W, view_W, z1, z7, Nat.left_eq_add, Nat.add_eq_left, Nat.add_left_cancel_iff, Nat.succ_ne_zero, Nat.add_assoc, Nat.one_ne_zero, Bool.not_false, Bool.not_true]
    refine W.call (leave_c (K := K) (bp := bp) (p := p) (L := L) (m := m) _ (by (repeat' first | exact hW | refine WK.box ?_ _ | refine WK.put ?_ (by omega) (by omega) _ | refine WK.tok ?_)) (pc + 1) (setRg s i.a (numW lo hi')) f1 z2 z3 (by omega)) ?_
    rintro v τ ⟨hWt, hKt⟩
    simp only [go_sem, *]
    exact wp_some ⟨WK.trim hWt hw hm, Keeps.trim (Keeps.trans (by (repeat' first | exact Keeps.refl _ _ | refine Keeps.new ?_ _ | refine Keeps.other ?_ _ (by omega) | refine Keeps.tok ?_ _)) hKt), rfl⟩
  · have c1 := eq_false (show ¬ i.op = 1 by omega)
    have c2 := eq_false (show ¬ i.op = 8 by omega)
    have c3 := eq_false (show ¬ i.op = 9 by omega)
    have c4 := eq_false (show ¬ i.op = 2 by omega)
    have c5 := eq_false (show ¬ i.op = 3 by omega)
    have c6 := eq_false (show ¬ i.op = 4 by omega)
    have c7 := eq_false (show ¬ i.op = 5 by omega)
    have c8 := eq_false (show ¬ i.op = 6 by omega)
    have c9 := eq_false (show ¬ i.op = 7 by omega)
    have ca := eq_false (show ¬ i.op = 10 by omega)
    have cb := eq_false (show ¬ i.op = 11 by omega)
    have cc := eq_false (show ¬ i.op = 12 by omega)
    have cd := eq_false (show ¬ i.op = 13 by omega)
    have ce := eq_false (show ¬ i.op = 14 by omega)
    have hcc : ¬ (i.op = 1 ∨ i.op = 8 ∨ i.op = 9) := by omega
    rw [if_neg (by omega), if_neg (by omega), if_neg (by omega), if_neg (by omega), if_neg (by omega)]
    rw [if_neg hcc, if_neg (by omega), if_neg (by omega), if_neg (by omega)]
    have q := fun d => exit_c d s g1 z6 ho
    simp only [encS] at q
    simp only [go_sem, c1, c2, c3, c4, c5, c6, c7, c8, c9, ca, cb, cc, cd, ce, q, frz_W, strip_W, view_W, z1, z4, z5, z7, Nat.left_eq_add, Nat.add_eq_left, Nat.add_left_cancel_iff, Nat.succ_ne_zero, Nat.add_assoc, Nat.one_ne_zero, Bool.not_false, Bool.not_true]
    exact wp_some ⟨WK.trim (by (repeat' first | exact hW | refine WK.box ?_ _ | refine WK.put ?_ (by omega) (by omega) _ | refine WK.tok ?_)) hw hm, Keeps.trim (by (repeat' first | exact Keeps.refl _ _ | refine Keeps.new ?_ _ | refine Keeps.other ?_ _ (by omega) | refine Keeps.tok ?_ _)), rfl⟩
end Go.Proofs.Yticlihmbikcohaa.Va

/- chapter 19: verify.Check -/
namespace Go.Proofs.Yticlihmbikcohaa.Va
open Go
set_option linter.unusedVariables false
set_option linter.unusedSimpArgs false
set_option maxRecDepth 100000
set_option maxHeartbeats 4000000
theorem flow_len {p : List Ins} (h : (flowS p).2 = 0) : p ≠ [] ∧ p.length ≤ 128 := by
  unfold flowS at h
  by_cases e : p = [] ∨ p.length > 128
  · rw [if_pos e] at h; simp at h
  · exact ⟨fun h => e (.inl h), by have : ¬ p.length > 128 := fun h => e (.inr h); omega⟩
def vchkS (F : StepF) (p : List Ins) : Int × Int := if (flowS p).2 = 0 then ((walkS F p p.length 0 beginL).1, (walkS F p p.length 0 beginL).2.1) else flowS p
theorem vcheck_c (d : Nat) {K : Kx} {bp : Bool} {p : List Ins} (hb : bp = true → p = []) (hu : ∀ i ∈ p, 0 ≤ i.imm ∧ i.imm < 4294967296) {F : StepF} {J : Nat → (Int → List Sta) → Prop} (hJ : (flowS p).2 = 0 → Jok (d + 12) F K bp p p.length J) :
    evalF Try.prog CC (d + 14) 9 [typesV K, mapsV K, encP bp p] St.empty = some (.tup [.int .i64 (vchkS F p).1, .int .i64 (vchkS F p).2], St.empty) := by
  have q := fun d => flow_c d bp p hb hu
  simp only [encP] at q
  refine wp_eq ?_
  rw [run_9 _ _ _ (by simp)]; unfold Try.f9; simp only [Option.getD_some]
  simp only [encP]
  simp only [go_sem, q, Nat.left_eq_add, Nat.add_eq_left, Nat.add_left_cancel_iff, Nat.succ_ne_zero, Nat.add_assoc, Nat.one_ne_zero, Bool.not_false, Bool.not_true]
  unfold vchkS
  by_cases hf : (flowS p).2 = 0
  case neg =>
    have hf' := eq_false hf
    rw [if_neg hf]
    simp only [go_sem, hf', Nat.left_eq_add, Nat.add_eq_left, Nat.add_left_cancel_iff, Nat.succ_ne_zero, Nat.add_assoc, Nat.one_ne_zero, Bool.not_false, Bool.not_true]
    rfl
  have hf' := eq_true hf
  obtain ⟨hp0, hp1⟩ := flow_len hf
  rw [if_pos hf]
  simp only [go_sem, hf', Nat.left_eq_add, Nat.add_eq_left, Nat.add_left_cancel_iff, Nat.succ_ne_zero, Nat.add_assoc, Nat.one_ne_zero, Bool.not_false, Bool.not_true]
  refine W.call (walk_c d (hJ hf) hp1 (w := 0) (show 0 < 1 by decide) rfl) ?_
  rintro v τ ⟨m, hW, hK, hm, rfl⟩
  simp only [go_sem, *]
  rfl
end Go.Proofs.Yticlihmbikcohaa.Va

/- chapter 19: spans stay numbers -/
namespace Go.Proofs.Yticlihmbikcohaa.Va
open Go
set_option linter.unusedVariables false
set_option linter.unusedSimpArgs false
set_option maxRecDepth 100000
set_option maxHeartbeats 4000000
def NN (s : Sta) : Prop := (∀ w ∈ s.regs, 0 ≤ w.lo) ∧ ∀ w ∈ s.slots, 0 ≤ w.lo
theorem NN.reg {s : Sta} (h : NN s) (i : Int) {x : Wht} (hx : 0 ≤ x.lo) : NN (setRg s i x) := ⟨fun w hw => by
  rcases List.mem_or_eq_of_mem_set hw with hw | rfl
  · exact h.1 w hw
  · exact hx, h.2⟩
theorem NN.slot {s : Sta} (h : NN s) (i : Int) {x : Wht} (hx : 0 ≤ x.lo) : NN (setSl s i x) := ⟨h.1, fun w hw => by
  rcases List.mem_or_eq_of_mem_set hw with hw | rfl
  · exact h.2 w hw
  · exact hx⟩
theorem nn_at {l : List Wht} (h : ∀ w ∈ l, 0 ≤ w.lo) (i : Int) : 0 ≤ (at0 l i).lo := by
  unfold at0
  cases hg : l[i.toNat]? with
  | none => exact Int.le_refl 0
  | some w => exact h w (List.mem_of_getElem? hg)
/-- a helper's call -/
structure NC (c : Cal) : Prop where
  st : NN c.st
  x : 0 ≤ c.x.lo
  y : 0 ≤ c.y.lo
  tells : 0 ≤ c.tells.lo
theorem NC.want {c : Cal} (h : NC c) (b : Bool) (e : Int) : NC (wantS c b e) := ⟨by rw [wst]; exact h.st, by rw [wx]; exact h.x, by rw [wy]; exact h.y, by rw [wtells]; exact h.tells⟩
theorem fgW_lo {k i : Int} {w : Wht} (h : 0 ≤ w.lo) : 0 ≤ (fgW k i w).lo := by unfold fgW; split; exact Int.le_refl 0; exact h
theorem NN.fg {s : Sta} (h : NN s) (k i : Int) : NN (fgS s k i) := ⟨fun w hw => by obtain ⟨x, hx, rfl⟩ := List.mem_map.1 hw; exact fgW_lo (h.1 x hx), fun w hw => by obtain ⟨x, hx, rfl⟩ := List.mem_map.1 hw; exact fgW_lo (h.2 x hx)⟩
theorem NC.lock {K : Kx} {c : Cal} (h : NC c) (k : Int) : NC (lockS K c k) := (h.want _ _).want _ _
theorem NC.thn {c : Cal} {f : Cal → Cal} (h : NC c) (hf : ∀ c, NC c → NC (f c)) : NC (thenS c f) := by unfold thenS; split; exact hf c h; exact h
theorem NC.fresh {c : Cal} (h : NC c) (k t : Int) (m : Bool) : NC (freshS c k t m) := ⟨h.st, h.x, h.y, Int.le_refl 0⟩
theorem NC.own {c : Cal} (h : NC c) (t : Int) (m : Bool) : NC (ownS c t m) := ⟨h.st, h.x, h.y, Int.le_refl 0⟩
theorem NC.spend {c : Cal} (h : NC c) (w : Wht) : NC (spendS c w) := ⟨(show NN { c.st with refs := no w.id c.st.refs } from h.st).fg _ _, h.x, h.y, h.tells⟩
theorem NC.loosen {c : Cal} (h : NC c) : NC (loosenS c) := ⟨h.st.fg _ _, h.x, h.y, h.tells⟩
theorem NC.bit {c : Cal} (h : NC c) : NC (bitS c) := ⟨h.st, h.x, h.y, Int.le_refl 0⟩
theorem NC.into {K : Kx} {c : Cal} (h : NC c) (k : Int) : NC (intoS K c k) := (((h.lock k).want _ _).want _ _).thn fun c hc => (hc.spend _).bit
theorem NC.setL {c : Cal} (h : NC c) (x : Int) : NC (setL c x) := ⟨h.st, h.x, h.y, h.tells⟩
theorem NC.setX {c : Cal} (h : NC c) (x : Bool) : NC (setX c x) := ⟨h.st, h.x, h.y, h.tells⟩
theorem NC.fgC {c : Cal} (h : NC c) (k i : Int) : NC (fgC c k i) := ⟨h.st.fg _ _, h.x, h.y, h.tells⟩
theorem NC.seen {K : Kx} {c : Cal} (h : NC c) : NC (seenC K c) := ⟨h.st, h.x, h.y, Int.le_refl 0⟩
theorem joinS_lo {v w : Wht} (hv : 0 ≤ v.lo) (hw : 0 ≤ w.lo) : 0 ≤ (joinS v w).lo := by
  unfold joinS
  repeat' split
  all_goals first
    | exact hv
    | exact hw
    | exact Int.le_refl 0
    | (show 0 ≤ (joinP v.lo v.hi w.lo w.hi).1
       unfold joinP
       split
       · show 0 ≤ min v.lo w.lo; omega
       · exact Int.le_refl 0)
theorem zip_lo : ∀ {a b : List Wht}, (∀ w ∈ a, 0 ≤ w.lo) → (∀ w ∈ b, 0 ≤ w.lo) → ∀ w ∈ List.zipWith joinS a b, 0 ≤ w.lo
  | [], _, _, _, w, hw => by simp at hw
  | _ :: _, [], _, _, w, hw => by simp at hw
  | x :: a, y :: b, ha, hb, w, hw => by
    rw [List.zipWith_cons_cons, List.mem_cons] at hw
    rcases hw with rfl | hw
    · exact joinS_lo (ha x (by simp)) (hb y (by simp))
    · exact zip_lo (fun w h => ha w (by simp [h])) (fun w h => hb w (by simp [h])) w hw
theorem merge_nn {s t : Sta} (h1 : NN s) (h2 : NN t) : NN (mergeS s t).1 := by
  unfold mergeS
  repeat' split
  · exact ⟨zip_lo h1.1 h2.1, zip_lo h1.2 h2.2⟩
  all_goals exact ⟨fun w hw => by rw [List.eq_of_mem_replicate hw]; exact Int.le_refl 0, fun w hw => by rw [List.eq_of_mem_replicate hw]; exact Int.le_refl 0⟩
theorem mrg_nn : ∀ (ts : List Sta) (s : Sta), NN s → (∀ t ∈ ts, NN t) → (mrg s ts).2 = 0 → NN (mrg s ts).1
  | [], s, h, _, _ => h
  | t :: ts, s, h, ht, he => by
    unfold mrg at he ⊢
    by_cases e : (mergeS s t).2 = 0
    · rw [if_pos e] at he ⊢
      exact mrg_nn ts _ (merge_nn h (ht t (by simp))) (fun u hu => ht u (by simp [hu])) he
    · rw [if_neg e] at he
      exact absurd he e
end Go.Proofs.Yticlihmbikcohaa.Va

/- chapter 19: the walk of a program of numbers alone -/
namespace Go.Proofs.Yticlihmbikcohaa.Va
open Go
set_option linter.unusedVariables false
set_option linter.unusedSimpArgs false
set_option maxRecDepth 100000
set_option maxHeartbeats 4000000
theorem doS_has (d : Nat) (op lo hi m v : Int) (hop : 1 ≤ op ∧ op ≤ 11) (h0 : 0 ≤ lo) (h1 : lo ≤ v) (h2 : v ≤ hi) (h3 : hi ≤ 18446744073709551615) (m0 : 0 ≤ m) (m1 : m < 4294967296) : ∃ lo' hi', doS d op (numW lo hi) (numW m m) = numW lo' hi' ∧ lo' ≤ aluV op v m ∧ aluV op v m ≤ hi' ∧ 0 ≤ lo' ∧ hi' ≤ 18446744073709551615 := by
  obtain ⟨lo', hi', er, hh, q⟩ := spanDo_has d op lo hi m v hop h0 h1 h2 (by omega) m0 m1
  refine ⟨lo', hi', ?_, hh⟩
  unfold doS
  show (match evalF Try.prog CC (d + 7) 40 [.int .i64 op, spanA lo hi, spanA m m] St.empty with | some (.tup [.agg _ [.int _ lo, .int _ hi], _], _) => numW lo hi | _ => junk) = _
  rw [q]
  rfl
structure NumSt (v : Int) (s : Sta) : Prop where
  ok : SOk s
  refs : s.refs = []
  lock : s.lock = 0
  sec : s.sec = false
  has : ∃ lo hi, at0 s.regs 0 = numW lo hi ∧ lo ≤ v ∧ v ≤ hi ∧ 0 ≤ lo ∧ hi ≤ 18446744073709551615
  nn : ∀ i, 0 ≤ (at0 s.regs i).lo
theorem at0_set0 {l : List Wht} (h : l.length = 10) (x : Wht) : at0 (l.set 0 x) 0 = x := by
  cases l with
  | nil => simp at h
  | cons a l => rfl
theorem at0_setN {l : List Wht} (x : Wht) (hx : 0 ≤ x.lo) (h : ∀ i, 0 ≤ (at0 l i).lo) (i : Int) : 0 ≤ (at0 (l.set 0 x) i).lo := by
  by_cases e : i.toNat = 0
  · unfold at0
    rw [e]
    cases l with
    | nil => exact Int.le_refl 0
    | cons a l => exact hx
  · have : at0 (l.set 0 x) i = at0 l i := by
      unfold at0
      rw [List.getElem?_set_ne (by omega)]
    rw [this]; exact h i
theorem NumSt.put {v' : Int} {s : Sta} (h1 : SOk s) (h2 : s.refs = []) (h3 : s.lock = 0) (h4 : s.sec = false) (h5 : ∀ i, 0 ≤ (at0 s.regs i).lo) {lo hi : Int} (g1 : lo ≤ v') (g2 : v' ≤ hi) (g3 : 0 ≤ lo) (g4 : hi ≤ 18446744073709551615) : NumSt v' (setRg s 0 (numW lo hi)) :=
  ⟨setRg_ok h1 _ _, h2, h3, h4, ⟨lo, hi, at0_set0 h1.1 _, g1, g2, g3, g4⟩, at0_setN _ g3 h5⟩
def numP (l : List (Int × Int)) : List Ins := ⟨1, 0, 1, 0, 0⟩ :: (l.map (fun x => (⟨4, 0, 0, x.1, x.2⟩ : Ins)) ++ [⟨15, 0, 0, 0, 0⟩])
def valAt (v : Int) (l : List (Int × Int)) (j : Nat) : Int := (l.take j).foldl (fun v x => aluV x.1 v x.2) v
structure NumL (l : List (Int × Int)) : Prop where
  op : ∀ x ∈ l, 1 ≤ x.1 ∧ x.1 ≤ 11
  imm : ∀ x ∈ l, 0 ≤ x.2 ∧ x.2 < 4294967296
  len : l.length ≤ 100
theorem valAt_rng {v : Int} {l : List (Int × Int)} (hl : NumL l) (h0 : 0 ≤ v) (h1 : v ≤ 18446744073709551615) : ∀ j, 0 ≤ valAt v l j ∧ valAt v l j ≤ 18446744073709551615
  | 0 => ⟨h0, h1⟩
  | j + 1 => by
    by_cases hj : j < l.length
    · obtain ⟨g0, g1⟩ := valAt_rng hl h0 h1 j
      have e : valAt v l (j + 1) = aluV l[j].1 (valAt v l j) l[j].2 := by
        unfold valAt
        rw [List.take_succ_eq_append_getElem hj, List.foldl_append]
        rfl
      rw [e]
      have hm := List.getElem_mem hj
      exact aluV_rng g0 (by omega) (hl.imm _ hm).1 (by have := (hl.imm _ hm).2; omega)
    · have e : valAt v l (j + 1) = valAt v l j := by
        unfold valAt
        rw [List.take_of_length_le (by omega), List.take_of_length_le (by omega)]
      rw [e]; exact valAt_rng hl h0 h1 j
theorem valAt_succ {v : Int} {l : List (Int × Int)} {j : Nat} (hj : j < l.length) : valAt v l (j + 1) = aluV l[j].1 (valAt v l j) l[j].2 := by
  unfold valAt
  rw [List.take_succ_eq_append_getElem hj, List.foldl_append]
  rfl
section
variable {l : List (Int × Int)}
theorem numP_len : (numP l).length = l.length + 2 := by simp [numP]
theorem numPj {j : Nat} (hj : j < l.length) : at0 (numP l) ((j + 1 : Nat) : Int) = ⟨4, 0, 0, l[j].1, l[j].2⟩ := by
  rw [at0_nat (by rw [numP_len]; omega)]
  simp [numP, List.getElem_append, hj]
theorem numPe : at0 (numP l) ((l.length + 1 : Nat) : Int) = ⟨15, 0, 0, 0, 0⟩ := by
  rw [at0_nat (by rw [numP_len]; omega)]
  simp [numP]
theorem numIns (hl : NumL l) {j : Nat} (hj : j < l.length + 2) : InsOk (at0 (numP l) (j : Int)) ∧ ((at0 (numP l) (j : Int)).op = 1 ∨ (at0 (numP l) (j : Int)).op = 4 ∨ (at0 (numP l) (j : Int)).op = 15) ∧ chkS (at0 (numP l) (j : Int)) = 0 ∧ (0 ≤ (at0 (numP l) (j : Int)).imm ∧ (at0 (numP l) (j : Int)).imm < 4294967296) := by
  have mk : ∀ o a b c im : Int, 0 ≤ a ∧ a < 10 → 0 ≤ b ∧ b < 256 → 0 ≤ c ∧ c < 256 → 0 ≤ im ∧ im < 4294967296 → o ≠ 8 ∧ o ≠ 9 ∧ o ≠ 6 ∧ o ≠ 11 ∧ o ≠ 13 → InsOk ⟨o, a, b, c, im⟩ := fun o a b c im h1 h2 h3 h4 h5 =>
    ⟨h1, h2, h3, h4, fun h => by simp only at h; omega, fun h => by simp only at h; omega, fun h => by simp only at h; omega⟩
  rcases (show j = 0 ∨ j = l.length + 1 ∨ ∃ i, j = i + 1 ∧ i < l.length from by
    rcases Nat.eq_zero_or_pos j with h | h
    · exact .inl h
    · rcases Nat.lt_or_ge j (l.length + 1) with h2 | h2
      · exact .inr (.inr ⟨j - 1, by omega, by omega⟩)
      · exact .inr (.inl (by omega))) with rfl | rfl | ⟨i, rfl, hi⟩
  · exact ⟨mk 1 0 1 0 0 (by omega) (by omega) (by omega) (by omega) (by omega), .inl rfl, rfl, by show (0 : Int) ≤ 0 ∧ (0 : Int) < 4294967296; omega⟩
  · rw [numPe]
    exact ⟨mk 15 0 0 0 0 (by omega) (by omega) (by omega) (by omega) (by omega), .inr (.inr rfl), rfl, by show (0 : Int) ≤ 0 ∧ (0 : Int) < 4294967296; omega⟩
  · rw [numPj hi]
    have hm := List.getElem_mem hi
    have h1 := hl.op _ hm
    have h2 := hl.imm _ hm
    generalize l[i] = x at h1 h2
    obtain ⟨o, m⟩ := x
    simp only at h1 h2
    refine ⟨mk 4 0 0 o m (by omega) (by omega) (by omega) (by omega) (by omega), .inr (.inl rfl), ?_, h2⟩
    have g1 : ¬ m > 4294967295 := by omega
    have g2 : ¬ m < 0 := by omega
    have g3 : ¬ o > 11 := by omega
    have g4 : ¬ o = 0 := by omega
    have g5 : IntKind.u32.wrap o = o := by rw [IntKind.wrap_u32]; omega
    have g6 : IntKind.u32.wrap 0 = 0 := by rw [IntKind.wrap_u32]; omega
    simp [chkS, opOk, badS, restS, rowS, tblS, at0, outB, g1, g2, g3, g4, g5, g6]
/-- what is left, ahead of instruction j -/
structure NumJ (v : Int) (l : List (Int × Int)) (j : Nat) (L : Int → List Sta) : Prop where
  one : ∀ k, (L k).length ≤ 1
  up : ∀ k, (j : Int) < k → L k = []
  top : j = l.length + 2 → L j = []
  zero : j = 0 → L = beginL
  st : ∀ i, j = i + 1 → i ≤ l.length → ∃ s, L j = [s] ∧ NumSt (valAt v l i) s
theorem round1 {F : StepF} {p : List Ins} {j : Int} {L : Int → List Sta} {s : Sta} (h : L j = [s]) : roundS F p j L = (addLs L (F j (at0 p j) s).1, (F j (at0 p j) s).2) := by
  unfold roundS
  rw [h]
  rfl
theorem add_one {v : Int} {j : Nat} {L : Int → List Sta} (hJ : NumJ v l j L) {s : Sta} (i : Nat) (hi : j = i) (hil : i ≤ l.length) (hs : NumSt (valAt v l i) s) : NumJ v l (j + 1) (addLs L [((j : Int) + 1, s)]) := by
  have hu : L ((j : Int) + 1) = [] := hJ.up _ (by omega)
  have e : addLs L [((j : Int) + 1, s)] = fun k => if k = (j : Int) + 1 then [s] else L k := by
    funext k
    show (if k = (j : Int) + 1 then L ((j : Int) + 1) ++ [s] else L k) = _
    rw [hu]; rfl
  rw [e]
  refine ⟨fun k => ?_, fun k hk => ?_, fun h => ?_, fun h => by omega, fun i' h _ => ⟨s, ?_, ?_⟩⟩
  · show (if k = (j : Int) + 1 then [s] else L k).length ≤ 1
    split
    · simp
    · exact hJ.one k
  · show (if k = (j : Int) + 1 then [s] else L k) = []
    rw [if_neg (by omega)]
    exact hJ.up k (by omega)
  · omega
  · show (if ((j + 1 : Nat) : Int) = (j : Int) + 1 then [s] else _) = _
    rw [if_pos (by omega)]
  · obtain rfl : i' = i := by omega
    exact hs
theorem num_round (d : Nat) {K : Kx} {v : Int} (hl : NumL l) (h0 : 0 ≤ v) (h1 : v ≤ 18446744073709551615) {j : Nat} (hj : j < l.length + 2) {L : Int → List Sta} (hJ : NumJ v l j L) :
    (roundS (stepF d K) (numP l) j L).2 = 0 ∧ NumJ v l (j + 1) (roundS (stepF d K) (numP l) j L).1 := by
  rcases (show j = 0 ∨ j = l.length + 1 ∨ ∃ i, j = i + 1 ∧ i < l.length from by
    rcases Nat.eq_zero_or_pos j with h | h
    · exact .inl h
    · rcases Nat.lt_or_ge j (l.length + 1) with h2 | h2
      · exact .inr (.inr ⟨j - 1, by omega, by omega⟩)
      · exact .inr (.inl (by omega))) with rfl | rfl | ⟨i, rfl, hi⟩
  · have hz := hJ.zero rfl
    have e : roundS (stepF d K) (numP l) ((0 : Nat) : Int) L = (addLs L [(((0 : Nat) : Int) + 1, setRg startS 0 (numW 0 18446744073709551615))], 0) := by
      rw [round1 (s := startS) (by rw [hz]; rfl)]
      rfl
    rw [e]
    refine ⟨rfl, add_one hJ 0 rfl (by omega) ?_⟩
    exact NumSt.put ⟨rfl, rfl⟩ rfl rfl rfl (nn_at (by simp [startS, junk, numW])) h0 h1 (by omega) (by omega)
  · obtain ⟨s, hs, hn⟩ := hJ.st l.length rfl (Nat.le_refl _)
    obtain ⟨lo, hi, ha, _⟩ := hn.has
    have hx : exitS s = 0 := by
      unfold exitS
      rw [hn.refs, hn.lock, hn.sec, ha]
      rfl
    have e : roundS (stepF d K) (numP l) ((l.length + 1 : Nat) : Int) L = (L, 0) := by
      rw [round1 hs, numPe]
      show (addLs L (([] : List (Int × Sta)), exitS s).1, (([] : List (Int × Sta)), exitS s).2) = _
      rw [hx]; rfl
    rw [e]
    exact ⟨rfl, hJ.one, fun k hk => hJ.up k (by omega), fun _ => hJ.up _ (by omega), fun h => by omega, fun i h g => by omega⟩
  · obtain ⟨s, hs, hn⟩ := hJ.st i rfl (by omega)
    obtain ⟨lo, hh, ha, g1, g2, g3, g4⟩ := hn.has
    have hm := List.getElem_mem hi
    obtain ⟨lo', hi', hd, k1, k2, k3, k4⟩ := doS_has d l[i].1 lo hh l[i].2 (valAt v l i) (hl.op _ hm) g3 g1 g2 g4 (hl.imm _ hm).1 (hl.imm _ hm).2
    have e : roundS (stepF d K) (numP l) ((i + 1 : Nat) : Int) L = (addLs L [(((i + 1 : Nat) : Int) + 1, setRg s 0 (numW lo' hi'))], 0) := by
      rw [round1 hs, numPj hi, ← hd]
      have e2 : stepF d K ((i + 1 : Nat) : Int) ⟨4, 0, 0, l[i].1, l[i].2⟩ s = if numB (at0 s.regs 0) = true ∧ numB (numW l[i].2 l[i].2) = true then ([(((i + 1 : Nat) : Int) + 1, setRg s 0 (doS d l[i].1 (at0 s.regs 0) (numW l[i].2 l[i].2)))], 0) else ([], 7) := rfl
      rw [e2, ha, if_pos ⟨rfl, rfl⟩]
    rw [e]
    refine ⟨rfl, add_one hJ (i + 1) rfl (by omega) ?_⟩
    rw [valAt_succ hi]
    exact NumSt.put hn.ok hn.refs hn.lock hn.sec hn.nn k1 k2 k3 k4
theorem num_begin {v : Int} : NumJ v l 0 beginL := by
  refine ⟨fun k => ?_, fun k hk => ?_, fun h => by omega, fun _ => rfl, fun i h => by omega⟩
  · unfold beginL addL; split <;> simp
  · unfold beginL addL; rw [if_neg (by omega)]
theorem num_walk (d : Nat) {K : Kx} {v : Int} (hl : NumL l) (h0 : 0 ≤ v) (h1 : v ≤ 18446744073709551615) : ∀ (n j : Nat) (L : Int → List Sta), n + j ≤ l.length + 2 → NumJ v l j L → (walkS (stepF d K) (numP l) n j L).1 = 0 ∧ (walkS (stepF d K) (numP l) n j L).2.1 = 0 ∧ NumJ v l (n + j) (walkS (stepF d K) (numP l) n j L).2.2
  | 0, j, L, _, h => ⟨rfl, rfl, by rw [Nat.zero_add]; exact h⟩
  | n + 1, j, L, hn, h => by
    obtain ⟨r1, r2⟩ := num_round d (K := K) hl h0 h1 (show j < l.length + 2 by omega) h
    have := num_walk d (K := K) hl h0 h1 n (j + 1) _ (by omega) r2
    unfold walkS
    rw [if_pos r1, show n + 1 + j = n + (j + 1) by omega]
    exact this
theorem num_jok (d : Nat) {K : Kx} {bp : Bool} {v : Int} (hl : NumL l) (h0 : 0 ≤ v) (h1 : v ≤ 18446744073709551615) {N : Nat} (hN : N ≤ l.length + 2) : Jok (d + 12) (stepF (d + 4) K) K bp (numP l) N (NumJ v l) := by
  have hll := hl.len
  refine ⟨num_begin, fun j L hj h => ⟨fun s hs => ?_, by have := h.one j; omega⟩, fun j L hj h e0 e1 => ?_, fun j L hj h e0 => (num_round (d + 4) (K := K) hl h0 h1 (show j < l.length + 2 by omega) h).2⟩
  · rcases Nat.eq_zero_or_pos j with rfl | hp
    · rw [h.zero rfl] at hs
      obtain rfl : s = startS := by simpa [beginL, addL] using hs
      exact ⟨⟨rfl, rfl⟩, Nat.zero_le _⟩
    · rcases Nat.lt_or_ge j (l.length + 2) with h2 | h2
      · obtain ⟨t, ht, hn⟩ := h.st (j - 1) (by omega) (by omega)
        rw [ht] at hs
        obtain rfl := List.mem_singleton.1 hs
        exact ⟨hn.ok, by rw [hn.refs]; exact Nat.zero_le _⟩
      · rw [h.top (by omega)] at hs
        cases hs
  · obtain ⟨i1, i2, _, _⟩ := numIns hl (show j < l.length + 2 by omega)
    have hst : ∃ s, L j = [s] ∧ SOk s ∧ s.refs = [] ∧ ∀ i, 0 ≤ (at0 s.regs i).lo := by
      rcases Nat.eq_zero_or_pos j with rfl | hp
      · exact ⟨startS, by rw [h.zero rfl]; rfl, ⟨rfl, rfl⟩, rfl, nn_at (by simp [startS, junk, numW])⟩
      · obtain ⟨t, ht, hn⟩ := h.st (j - 1) (by omega) (by omega)
        exact ⟨t, ht, hn.ok, hn.refs, hn.nn⟩
    obtain ⟨s, hs, g1, g2, g3⟩ := hst
    have hA : (aheadS (L j)).1 = s := by rw [hs]; rfl
    rw [hA]
    intro σ w m r hW hr hp
    exact step_num d hW j (by omega) (by rw [numP_len]; omega) s r hr g1 (by rw [g2]; exact Nat.zero_le _) g3 i1 i2 (fun k => by have := h.one k; omega)
end
end Go.Proofs.Yticlihmbikcohaa.Va

/- chapter 19: whatever the program, the walk ends -/
namespace Go.Proofs.Yticlihmbikcohaa.Va
open Go
set_option linter.unusedVariables false
set_option linter.unusedSimpArgs false
set_option maxRecDepth 100000
set_option maxHeartbeats 4000000
/-- the fields are what their types can have -/
structure InsT (i : Ins) : Prop where
  op : 0 ≤ i.op ∧ i.op < 256
  a : 0 ≤ i.a ∧ i.a < 256
  b : 0 ≤ i.b ∧ i.b < 256
  c : 0 ≤ i.c ∧ i.c < 256
  imm : 0 ≤ i.imm ∧ i.imm < 4294967296
theorem flowG_chk {n : Int} : ∀ (l : List Ins) (pc : Int) (m : List Bool), (flowG n l pc m).2 = 0 → ∀ i ∈ l, chkS i = 0
  | [], _, _, _, i, hi => by cases hi
  | x :: l, pc, m, h, i, hi => by
    rw [flowG] at h
    split at h
    · rename_i hx; exact absurd h hx
    rename_i hx
    split at h
    · simp at h
    split at h
    · simp at h
    rcases List.mem_cons.1 hi with rfl | hi
    · exact Classical.not_not.1 hx
    · exact flowG_chk l _ _ h i hi
end Go.Proofs.Yticlihmbikcohaa.Va

/- chapter 19: the examples run -/
namespace Go.Proofs.Yticlihmbikcohaa.Va
open Go
set_option maxRecDepth 100000
theorem shown_c (d : Nat) : evalF Try.prog CC (d + 20) 7 [] St.empty = some (.bool true, St.empty) := by
  show evalF Try.prog CC (d + 20) 7 [] St.empty = _
  kernel_rfl
end Go.Proofs.Yticlihmbikcohaa.Va

/- chapter 19: verify.Ahead, and the law that all is well -/
namespace Go.Proofs.Yticlihmbikcohaa.Va
open Go
set_option linter.unusedVariables false
set_option linter.unusedSimpArgs false
set_option maxRecDepth 100000
set_option maxHeartbeats 4000000
/-- what is known ahead of an instruction -/
def aheadV (F : StepF) (p : List Ins) (pc : Int) : Sta × Bool :=
  if (flowS p).2 = 0 ∧ 0 ≤ pc ∧ pc < p.length then
    if (walkS F p pc.toNat 0 beginL).2.1 = 0 then
      if (aheadS ((walkS F p pc.toNat 0 beginL).2.2 pc)).2.2 = 0 ∧ (aheadS ((walkS F p pc.toNat 0 beginL).2.2 pc)).2.1 = true then ((aheadS ((walkS F p pc.toNat 0 beginL).2.2 pc)).1, true)
      else (noS, false)
    else (noS, false)
  else (noS, false)
theorem walkS_J {D : Nat} {F : StepF} {K : Kx} {bp : Bool} {p : List Ins} {N : Nat} {J : Nat → (Int → List Sta) → Prop} (hJ : Jok D F K bp p N J) : ∀ (n j : Nat) (L : Int → List Sta), n + j = N → J j L → (walkS F p n j L).2.1 = 0 → J N (walkS F p n j L).2.2
  | 0, j, L, hn, h, _ => by
    obtain rfl : j = N := by omega
    exact h
  | n + 1, j, L, hn, h, h0 => by
    unfold walkS at h0 ⊢
    by_cases e : (roundS F p j L).2 = 0
    · rw [if_pos e] at h0 ⊢
      exact walkS_J hJ n (j + 1) _ (by omega) (hJ.next j L (by omega) h e) h0
    · rw [if_neg e] at h0
      exact absurd h0 e
theorem Ahead_c (d : Nat) {K : Kx} {bp : Bool} {p : List Ins} (hb : bp = true → p = []) (hu : ∀ i ∈ p, 0 ≤ i.imm ∧ i.imm < 4294967296) {F : StepF} {J : Nat → (Int → List Sta) → Prop} (pc : Int) (hJ : (flowS p).2 = 0 → 0 ≤ pc → pc < p.length → Jok (d + 12) F K bp p pc.toNat J) :
    ∃ r, RefA r (aheadV F p pc).1.refs ∧ pure1 r = true ∧ evalF Try.prog CC (d + 14) 10 [typesV K, mapsV K, encP bp p, .int .i64 pc] St.empty = some (.tup [encS (aheadV F p pc).1 r, .bool (aheadV F p pc).2], St.empty) := by
  have q := fun d => flow_c d bp p hb hu
  simp only [encP] at q
  have hz : (T.zero 43) = encS noS (.mt true) := by kernel_rfl
  refine (show Wp (fun x => ∃ r, RefA r (aheadV F p pc).1.refs ∧ pure1 r = true ∧ x = some ((AV.tup [encS (aheadV F p pc).1 r, .bool (aheadV F p pc).2], St.empty) : AV × St)) _ from ?_)
  have no : aheadV F p pc = (noS, false) → Wp (fun x => ∃ r, RefA r (aheadV F p pc).1.refs ∧ pure1 r = true ∧ x = some ((AV.tup [encS (aheadV F p pc).1 r, .bool (aheadV F p pc).2], St.empty) : AV × St)) (some (AV.tup [encS noS (.mt true), .bool false], St.empty)) := fun h => by
    rw [h]; exact ⟨.mt true, .inl ⟨rfl, _, rfl⟩, rfl, rfl⟩
  obtain ⟨Q, hQ⟩ : ∃ Q : Option (AV × St) → Prop, Q = fun x => ∃ r, RefA r (aheadV F p pc).1.refs ∧ pure1 r = true ∧ x = some ((AV.tup [encS (aheadV F p pc).1 r, .bool (aheadV F p pc).2], St.empty) : AV × St) := ⟨_, rfl⟩
  rw [← hQ] at no ⊢
  rw [run_10 _ _ _ (by simp)]; unfold Try.f10; simp only [Option.getD_some]
  simp only [encP]
  simp only [go_sem, q, Nat.left_eq_add, Nat.add_eq_left, Nat.add_left_cancel_iff, Nat.succ_ne_zero, Nat.add_assoc, Nat.one_ne_zero, Bool.not_false, Bool.not_true]
  by_cases hf : (flowS p).2 = 0
  case neg =>
    have hf' := eq_false hf
    simp only [go_sem, hf', Nat.left_eq_add, Nat.add_eq_left, Nat.add_left_cancel_iff, Nat.succ_ne_zero, Nat.add_assoc, Nat.one_ne_zero, Bool.not_false, Bool.not_true]
    exact no (by unfold aheadV; rw [if_neg (fun h => hf h.1)])
  have hf' := eq_true hf
  by_cases h0 : pc < 0
  · have h0' := eq_true h0
    simp only [go_sem, hf', h0', Nat.left_eq_add, Nat.add_eq_left, Nat.add_left_cancel_iff, Nat.succ_ne_zero, Nat.add_assoc, Nat.one_ne_zero, Bool.not_false, Bool.not_true]
    exact no (by unfold aheadV; rw [if_neg (fun h => by omega)])
  have h0' := eq_false h0
  by_cases h1 : pc ≥ (p.length : Int)
  · have h1' := eq_true h1
    simp only [go_sem, hf', h0', h1', Nat.left_eq_add, Nat.add_eq_left, Nat.add_left_cancel_iff, Nat.succ_ne_zero, Nat.add_assoc, Nat.one_ne_zero, Bool.not_false, Bool.not_true]
    exact no (by unfold aheadV; rw [if_neg (fun h => by omega)])
  have h1' := eq_false h1
  obtain ⟨hp0, hp1⟩ := flow_len hf
  have hJ := hJ hf (by omega) (by omega)
  have hpcn : ((pc.toNat : Nat) : Int) = pc := Int.toNat_of_nonneg (by omega)
  have hwalk : ∀ σ : St, 1 < σ.next → σ.obj 1 = some (.cells 65 [.agg 65 [typesV K, mapsV K, encP bp p, .nilm]]) → Sat (WalkP K bp p σ 1 (walkS F p pc.toNat 0 beginL)) (evalF Try.prog CC (d + 13) 17 [.ptr 65 1 [0], .int .i64 pc] σ) := by
    intro σ g1 g2
    have := walk_c d hJ (by omega) g1 g2
    rwa [hpcn] at this
  have hend := walkS_J hJ pc.toNat 0 beginL (by omega) hJ.start
  have hA : aheadV F p pc = if (walkS F p pc.toNat 0 beginL).2.1 = 0 then (if (aheadS ((walkS F p pc.toNat 0 beginL).2.2 pc)).2.2 = 0 ∧ (aheadS ((walkS F p pc.toNat 0 beginL).2.2 pc)).2.1 = true then ((aheadS ((walkS F p pc.toNat 0 beginL).2.2 pc)).1, true) else (noS, false)) else (noS, false) := by
    unfold aheadV
    rw [if_pos ⟨hf, by omega, by omega⟩]
  simp only [go_sem, hf', h0', h1', Nat.left_eq_add, Nat.add_eq_left, Nat.add_left_cancel_iff, Nat.succ_ne_zero, Nat.add_assoc, Nat.one_ne_zero, Bool.not_false, Bool.not_true]
  refine W.call (hwalk _ (by show 1 < 2; decide) rfl) ?_
  rintro v s1 ⟨m, hW, hK, hm, rfl⟩
  simp only at hW hK
  have hz0 : s1.obj 0 = some (.cells 43 [T.zero 43]) := (hK.2 0 (by show 0 < 2; decide) (by decide)).trans (by rw [hz]; rfl)
  have hn2 : 2 ≤ s1.next := hK.1
  have hend : (walkS F p pc.toNat 0 beginL).2.1 = 0 → J pc.toNat (walkS F p pc.toNat 0 beginL).2.2 := hend
  generalize walkS F p pc.toNat 0 beginL = X at hend hA hW ⊢
  obtain ⟨x1, x2, LX⟩ := X
  simp only at hend hA hW ⊢
  rw [hz] at hz0
  simp only [encS] at hz0
  by_cases e0 : x2 = 0
  case neg =>
    have e0' := eq_false e0
    rw [if_neg e0] at hA
    simp only [go_sem, e0', hz0, Nat.left_eq_add, Nat.add_eq_left, Nat.add_left_cancel_iff, Nat.succ_ne_zero, Nat.add_assoc, Nat.one_ne_zero, Bool.not_false, Bool.not_true]
    exact no hA
  have e0' := eq_true e0
  rw [if_pos e0] at hA
  obtain ⟨a1, a2⟩ := hJ.ahead pc.toNat LX (Nat.le_refl _) (hend e0)
  rw [hpcn] at a1 a2
  simp only [go_sem, e0', hz0, Nat.left_eq_add, Nat.add_eq_left, Nat.add_left_cancel_iff, Nat.succ_ne_zero, Nat.add_assoc, Nat.one_ne_zero, Bool.not_false, Bool.not_true]
  refine W.call (ahead_c _ hW pc a1 a2) ?_
  rintro v s2 ⟨hW2, hK2, r, hr, hpr, rfl⟩
  simp only at hW2 hK2
  have hz2 := (hK2.2 0 (by omega) (by omega)).trans hz0
  have hn3 : s1.next ≤ s2.next := hK2.1
  have k0 := eq_false (show ¬ 0 = s2.next by omega)
  generalize aheadS (LX pc) = A at hA hr ⊢
  obtain ⟨S, is, er⟩ := A
  simp only at hA hr ⊢
  by_cases e1 : er = 0
  case neg =>
    have e1' := eq_false e1
    rw [if_neg (fun h => e1 h.1)] at hA
    simp only [go_sem, e1', hz2, k0, Nat.left_eq_add, Nat.add_eq_left, Nat.add_left_cancel_iff, Nat.succ_ne_zero, Nat.add_assoc, Nat.one_ne_zero, Bool.not_false, Bool.not_true]
    exact no hA
  have e1' := eq_true e1
  cases is
  · rw [if_neg (by simp)] at hA
    simp only [go_sem, e1', hz2, k0, Nat.left_eq_add, Nat.add_eq_left, Nat.add_left_cancel_iff, Nat.succ_ne_zero, Nat.add_assoc, Nat.one_ne_zero, Bool.not_false, Bool.not_true]
    exact no hA
  rw [if_pos ⟨e1, rfl⟩] at hA
  obtain ⟨f1, g1, z1, z2, z3, z4, z5, z6, z7, z8⟩ := hr.fq
  simp only [go_sem, e1', hz2, k0, frz_W, z1, Nat.left_eq_add, Nat.add_eq_left, Nat.add_left_cancel_iff, Nat.succ_ne_zero, Nat.add_assoc, Nat.one_ne_zero, Bool.not_false, Bool.not_true]
  rw [hQ, hA]
  exact ⟨f1, z2, z3, rfl⟩
theorem walkS_pc (F : StepF) (p : List Ins) : ∀ (n j : Nat) (L : Int → List Sta), (walkS F p n j L).1 = 0 ∨ (j : Int) ≤ (walkS F p n j L).1 ∧ (walkS F p n j L).1 < j + n
  | 0, j, L => .inl rfl
  | n + 1, j, L => by
    unfold walkS
    split
    · rcases walkS_pc F p n (j + 1) (roundS F p j L).1 with h | ⟨h1, h2⟩
      · exact .inl h
      · refine .inr ⟨?_, ?_⟩
        · have : ((j + 1 : Nat) : Int) = (j : Int) + 1 := by omega
          rw [this] at h1
          omega
        · have : ((j + 1 : Nat) : Int) = (j : Int) + 1 := by omega
          rw [this] at h2
          omega
    · exact .inr ⟨Int.le_refl _, by show (j : Int) < j + ((n + 1 : Nat) : Int); omega⟩
end Go.Proofs.Yticlihmbikcohaa.Va
