/- chapter 19: verify.Check -/
import Derived.Test.YticlihmbikcohaaVaFun
import Derived.Test.YticlihmbikcohaaVaWp
import Derived.Test.YticlihmbikcohaaVaN
import Derived.Test.YticlihmbikcohaaNinC
import Derived.Test.YticlihmbikcohaaVaDg
import Derived.Laws.Externs
import Derived.Test.YticlihmbikcohaaMg1

namespace Go.Proofs.Yticlihmbikcohaa.Va
open Go
set_option linter.unusedVariables false
set_option linter.unusedSimpArgs false
set_option maxRecDepth 100000
set_option maxHeartbeats 4000000
theorem flow_len {p : List Ins} (h : (flowS p).2 = 0) : p ≠ [] ∧ p.length ≤ 128 := by
  unfold flowS at h
  by_cases e : p = [] ∨ p.length > 128
  · rw [if_pos e] at h; simp at h
  · exact ⟨fun h => e (.inl h), by have : ¬ p.length > 128 := fun h => e (.inr h); omega⟩
def vchkS (F : StepF) (p : List Ins) : Int × Int := if (flowS p).2 = 0 then ((walkS F p p.length 0 beginL).1, (walkS F p p.length 0 beginL).2.1) else flowS p
theorem vcheck_c (d : Nat) {K : Kx} {bp : Bool} {p : List Ins} (hb : bp = true → p = []) (hu : ∀ i ∈ p, 0 ≤ i.imm ∧ i.imm < 4294967296) {F : StepF} {J : Nat → (Int → List Sta) → Prop} (hJ : (flowS p).2 = 0 → Jok (d + 12) F K bp p p.length J) :
    evalF Try.prog CC (d + 14) 9 [.list 52 K.bl (K.l.map encTy) none, mapsV K, encP bp p] St.empty = some (.tup [.int .i64 (vchkS F p).1, .int .i64 (vchkS F p).2], St.empty) := by
  have q := fun d => flow_c d bp p hb hu
  simp only [encP] at q
  refine wp_eq ?_
  rw [run_9 _ _ _ (by simp)]; unfold Try.f9; simp only [Option.getD_some]
  simp only [encP]
  simp only [go_sem, q, Nat.left_eq_add, Nat.add_eq_left, Nat.add_left_cancel_iff, Nat.succ_ne_zero, Nat.add_assoc, Nat.one_ne_zero, Bool.not_false, Bool.not_true]
  unfold vchkS
  by_cases hf : (flowS p).2 = 0
  case neg =>
    have hf' := eq_false hf
    rw [if_neg hf]
    simp only [go_sem, hf', Nat.left_eq_add, Nat.add_eq_left, Nat.add_left_cancel_iff, Nat.succ_ne_zero, Nat.add_assoc, Nat.one_ne_zero, Bool.not_false, Bool.not_true]
    rfl
  have hf' := eq_true hf
  obtain ⟨hp0, hp1⟩ := flow_len hf
  rw [if_pos hf]
  simp only [go_sem, hf', Nat.left_eq_add, Nat.add_eq_left, Nat.add_left_cancel_iff, Nat.succ_ne_zero, Nat.add_assoc, Nat.one_ne_zero, Bool.not_false, Bool.not_true]
  refine W.call (walk_c d (hJ hf) hp1 (w := 0) (show 0 < 1 by decide) rfl) ?_
  rintro v τ ⟨m, hW, hK, hm, rfl⟩
  simp only [go_sem, *]
  rfl
theorem fits_c (d : Nat) (K : Kx) (hl : K.l.length ≤ 9223372036854775807) (hm : K.ms.length ≤ 9223372036854775807) : ∃ b, evalF Try.prog CC (d + 60) 12 [.list 52 K.bl (K.l.map encTy) none, mapsV K] St.empty = some (.bool b, St.empty) := by
  have hc := fun d => Check_c d K.bl K.l hl
  simp only [encTs, resC] at hc
  refine (show Wp (fun x => ∃ b, x = some ((AV.bool b, St.empty) : AV × St)) _ from ?_)
  rw [run_12 _ _ _ (by simp)]; unfold Try.f12; simp only [Option.getD_some]
  rcases mapsV_or K with hmv | ⟨hmv, hms⟩
  case inr =>
    rw [hmv]
    simp only [go_sem, hc]
    refine W.iter_rule (fun i ρ s => ρ 0 = .list 52 K.bl (K.l.map encTy) none ∧ ρ 1 = .mt K.bm ∧ ρ 6 = .int .i64 (checkAll K.l).2 ∧ ρ 7 = .int .i64 0) 0 ?_ ?_ _ 0 _ _ (Nat.zero_le _) ?_ ?_
    · intro i ρ s hi; omega
    · rintro ρ s ⟨h0, h1, h6, h7⟩ K' hx hr
      simp only [go_sem, hx, h0, h1, h6, h7]
      exact ⟨_, rfl⟩
    · show 0 < 0 + 9223372036854775900
      omega
    · exact ⟨by (try simp only [go_sem, Int.toNat_natCast, List.length_take, *]) <;> first | done | rfl | omega | (simp <;> omega), by (try simp only [go_sem, Int.toNat_natCast, List.length_take, *]) <;> first | done | rfl | omega | (simp <;> omega), by (try simp only [go_sem, Int.toNat_natCast, List.length_take, *]) <;> first | done | rfl | omega | (simp <;> omega), by (try simp only [go_sem, Int.toNat_natCast, List.length_take, *]) <;> first | done | rfl | omega | (simp <;> omega)⟩
  rw [hmv]
  simp only [go_sem, hc]
  refine W.iter_rule (fun i ρ s => ρ 0 = .list 52 K.bl (K.l.map encTy) none ∧ ρ 1 = .list 71 K.bm (K.ms.map encM) none ∧ ρ 6 = .int .i64 (checkAll K.l).2 ∧ ρ 7 = .int .i64 i) K.ms.length ?_ ?_ _ 0 _ _ (Nat.zero_le _) ?_ ?_
  · rintro i ρ s hi ⟨h0, h1, h6, h7⟩ K' hK hx hr
    have hlt : (i : Int) < (K.ms.length : Int) := by omega
    have hwrap : IntKind.i64.wrap ((i : Int) + 1) = ((i + 1 : Nat) : Int) := by rw [IntKind.wrap_i64]; omega
    have hidx : idxOk (i : Int) K.ms.length = true := by simp [idxOk]; omega
    have hget : (K.ms.map encM)[((i : Nat) : Int).toNat]? = some (encM K.ms[i]) := by simp [hi]
    generalize K.ms[i] = m at hget
    simp only [encM] at hget
    by_cases ha : m.type < 0
    · simp only [go_sem, h0, h1, h6, h7, hlt, hidx, hget, ha, hr]
      exact ⟨_, rfl⟩
    · by_cases hb : m.type ≥ (K.l.length : Int)
      · simp only [go_sem, h0, h1, h6, h7, hlt, hidx, hget, ha, hb, hr]
        exact ⟨_, rfl⟩
      · simp only [go_sem, h0, h1, h6, h7, hlt, hidx, hget, ha, hb, hwrap]
        refine hK _ _ ?_
        exact ⟨by (try simp only [go_sem, Int.toNat_natCast, List.length_take, *]) <;> first | done | rfl | omega | (simp <;> omega), by (try simp only [go_sem, Int.toNat_natCast, List.length_take, *]) <;> first | done | rfl | omega | (simp <;> omega), by (try simp only [go_sem, Int.toNat_natCast, List.length_take, *]) <;> first | done | rfl | omega | (simp <;> omega), by (try simp only [go_sem, Int.toNat_natCast, List.length_take, *]) <;> first | done | rfl | omega | (simp <;> omega)⟩
  · rintro ρ s ⟨h0, h1, h6, h7⟩ K' hx hr
    have hlt : ¬ (K.ms.length : Int) < (K.ms.length : Int) := by omega
    simp only [go_sem, hx, h0, h1, h6, h7, hlt]
    exact ⟨_, rfl⟩
  · show K.ms.length < 0 + 9223372036854775900
    omega
  · exact ⟨by (try simp only [go_sem, Int.toNat_natCast, List.length_take, *]) <;> first | done | rfl | omega | (simp <;> omega), by (try simp only [go_sem, Int.toNat_natCast, List.length_take, *]) <;> first | done | rfl | omega | (simp <;> omega), by (try simp only [go_sem, Int.toNat_natCast, List.length_take, *]) <;> first | done | rfl | omega | (simp <;> omega), by (try simp only [go_sem, Int.toNat_natCast, List.length_take, *]) <;> first | done | rfl | omega | (simp <;> omega)⟩
end Go.Proofs.Yticlihmbikcohaa.Va

/- chapter 19: the walker's fields -/
namespace Go.Proofs.Yticlihmbikcohaa.Va
open Go
set_option linter.unusedVariables false
set_option linter.unusedSimpArgs false
set_option maxRecDepth 100000
def noF : Fld := ⟨0, 0, 0, 0, 0⟩
def fldAt (l : List Typ) (t i : Int) : Fld := if t < 0 then noF else if t ≥ l.length then noF else if i < 0 then noF else if i ≥ (at0 l t).fields.length then noF else at0 (at0 l t).fields i
theorem keeps_box {σ : St} {A B : AObj} : Keeps σ (((σ.new A).set σ.next B).trim σ.next) σ.next :=
  ⟨Nat.le_succ _, fun j hj hn => by
    show (if j < σ.next then (if j = σ.next then some B else if j = σ.next then some A else σ.obj j) else none) = _
    rw [if_pos hj, if_neg (by omega), if_neg (by omega)]⟩
end Go.Proofs.Yticlihmbikcohaa.Va

/- chapter 19: alu.Do comes to an end -/
namespace Go.Proofs.Yticlihmbikcohaa.Va
open Go
set_option linter.unusedVariables false
set_option linter.unusedSimpArgs false
set_option maxRecDepth 100000
theorem shl_T {k k2 : IntKind} {t : TypeId} {a n : Int} (hn : ¬ n < 0) : aBin T .shl t (.int k a) (.int k2 n) = some (.int k (k.wrap (a * 2 ^ (min n.toNat k.bits)))) := by
  unfold aBin
  simp [intBin, hn]
theorem shr_T {k k2 : IntKind} {t : TypeId} {a n : Int} (hn : ¬ n < 0) : aBin T .shr t (.int k a) (.int k2 n) = some (.int k (a.fdiv (2 ^ (min n.toNat k.bits)))) := by
  unfold aBin
  simp [intBin, hn]
end Go.Proofs.Yticlihmbikcohaa.Va

/- chapter 19: spans -/
namespace Go.Proofs.Yticlihmbikcohaa.Va
open Go
set_option linter.unusedVariables false
set_option linter.unusedSimpArgs false
set_option maxRecDepth 100000
theorem single_c (d : Nat) (lo hi : Int) : evalF Try.prog CC (d + 2) 52 [.agg 36 [.int .u64 lo, .int .u64 hi]] St.empty = some (.bool (decide (hi = lo)), St.empty) := by
  have q := fun d n => of_c d n
  refine wp_eq ?_
  rw [run_52 _ _ _ (by simp)]; unfold Try.f52; simp only [Option.getD_some]
  simp only [go_sem, *]
  refine W.br_ok (by kernel_rfl) ?_
  simp only [go_sem, q]
  rfl
def spanA (lo hi : Int) : AV := .agg 36 [.int .u64 lo, .int .u64 hi]
end Go.Proofs.Yticlihmbikcohaa.Va

/- chapter 19: what is known of sums, products, shifts -/
namespace Go.Proofs.Yticlihmbikcohaa.Va
open Go
set_option linter.unusedVariables false
set_option linter.unusedSimpArgs false
set_option maxRecDepth 100000
def andI (k : IntKind) (a b : Int) : Int := k.wrap (BitVec.ofInt k.bits a &&& BitVec.ofInt k.bits b).toNat
def orI (k : IntKind) (a b : Int) : Int := k.wrap (BitVec.ofInt k.bits a ||| BitVec.ofInt k.bits b).toNat
theorem and_T {k : IntKind} {t : TypeId} {a b : Int} : aBin T .and t (.int k a) (.int k b) = some (.int k (andI k a b)) := by simp [aBin, intBin, andI]
theorem or_T {k : IntKind} {t : TypeId} {a b : Int} : aBin T .or t (.int k a) (.int k b) = some (.int k (orI k a b)) := by simp [aBin, intBin, orI]
theorem u64_nn (x : Int) : 0 ≤ IntKind.u64.wrap x := by rw [IntKind.wrap_u64]; omega
theorem fdiv_nn {a : Int} (n : Nat) (h : 0 ≤ a) : 0 ≤ a.fdiv (2 ^ n) := Int.fdiv_nonneg h (Int.pow_nonneg (by omega))
def tab8 (s : ByteArray) : Bool := decide (s.size = 256) && (List.range 256).all fun i => match s.data.toList[i]? with | some b => decide (b.toNat ≤ 8) | none => false
theorem W.tab {R : Type} {P : Option R → Prop} {s : ByteArray} {x : Int} {k : AV → Option R} (h : tab8 s = true) (hk : ∀ v : Int, 0 ≤ v → v ≤ 8 → Wp P (k (.int .u8 v))) :
    Wp P (@bnd _ R (aIndex T 9 (.str s) (.int .u8 (IntKind.u8.wrap x))) ⟨k⟩) := by
  have hx : 0 ≤ IntKind.u8.wrap x ∧ IntKind.u8.wrap x < 256 := by rw [IntKind.wrap_u8]; omega
  generalize IntKind.u8.wrap x = y at hx
  simp only [tab8, Bool.and_eq_true, decide_eq_true_eq, List.all_eq_true, List.mem_range] at h
  have h2 := h.2 y.toNat (by omega)
  have ht : T.ty 9 = some .str := nr rfl
  have e : ∃ v : Nat, v ≤ 8 ∧ aIndex T 9 (.str s) (.int .u8 y) = some (.int .u8 v) := by
    unfold aIndex
    simp only [ht, true_and]
    rw [if_pos ⟨hx.1, by rw [h.1]; omega⟩]
    cases hg : s.data.toList[y.toNat]? with
    | none => rw [hg] at h2; simp at h2
    | some b => rw [hg] at h2; simp only [decide_eq_true_eq] at h2; exact ⟨b.toNat, h2, rfl⟩
  obtain ⟨v, hv, he⟩ := e
  rw [he]
  exact hk v (by omega) (by omega)
theorem len_some (d : Nat) (a : Int) : Wp (fun x => ∃ n : Int, (0 ≤ n ∧ n ≤ 64) ∧ x = some (.int .i64 n, St.empty)) (evalF Try.prog CC (d + 1) 108 [.int .u64 a] St.empty) := by
  have e1 := fun a => shr_T (k := .u64) (k2 := .u64) (t := 24) (a := a) (show ¬ (32 : Int) < 0 by omega)
  have e2 := fun a => shr_T (k := .u64) (k2 := .u64) (t := 24) (a := a) (show ¬ (16 : Int) < 0 by omega)
  have e3 := fun a => shr_T (k := .u64) (k2 := .u64) (t := 24) (a := a) (show ¬ (8 : Int) < 0 by omega)
  rw [run_108 _ _ _ (by simp)]; unfold Try.f108; simp only [Option.getD_some]
  simp only [go_sem, e1, e2, e3]
  repeat' (first | refine W.idx_at (by omega) (by omega) ?_; simp only [go_sem, *] | refine W.br_idx (by omega) (by omega) ?_; try simp only [go_sem, *] | refine W.bnd_at (by omega) (by omega) ?_; simp only [go_sem, *] | refine W.br_dec (fun h => ?_) (fun h => ?_) <;> simp only [go_sem, *] | refine W.want_dect (fun h => ?_) (fun h => ?_) <;> simp only [go_sem, *] | refine W.want_decf (fun h => ?_) (fun h => ?_) <;> simp only [go_sem, *] | refine W.br_ndec (fun h => ?_) (fun h => ?_) <;> simp only [go_sem, *] | refine W.want_ndect (fun h => ?_) (fun h => ?_) <;> simp only [go_sem, *] | refine W.want_ndecf (fun h => ?_) (fun h => ?_) <;> simp only [go_sem, *] | refine W.br_split (fun h => ?_) (fun h => ?_) <;> simp only [go_sem, *] | refine W.want_split (fun h => ?_) (fun h => ?_) <;> simp only [go_sem, *])
  all_goals
    refine W.tab (by kernel_rfl) fun v hv0 hv1 => ?_
    simp only [go_sem, *]
    refine ⟨_, ?_, rfl⟩
    simp only [IntKind.wrap_i64]
    omega
theorem lead_some (d : Nat) (a : Int) : Wp (fun x => ∃ n : Int, (0 ≤ n ∧ n ≤ 64) ∧ x = some (.int .i64 n, St.empty)) (evalF Try.prog CC (d + 2) 101 [.int .u64 a] St.empty) := by
  obtain ⟨n, hn, e⟩ := len_some d a
  rw [run_101 _ _ _ (by simp)]; unfold Try.f101; simp only [Option.getD_some]
  simp only [go_sem, e]
  refine ⟨_, ?_, rfl⟩
  simp only [IntKind.wrap_i64]
  omega
theorem filled_some (d : Nat) (a : Int) : Wp (fun x => ∃ n : Int, 0 ≤ n ∧ x = some (.int .u64 n, St.empty)) (evalF Try.prog CC (d + 3) 76 [.int .u64 a] St.empty) := by
  obtain ⟨n, hn, e⟩ := lead_some d a
  have e1 := fun a => shr_T (k := .u64) (k2 := .i64) (t := 24) (a := a) (show ¬ n < 0 by omega)
  rw [run_76 _ _ _ (by simp)]; unfold Try.f76; simp only [Option.getD_some]
  simp only [go_sem, e, e1]
  repeat' (first | refine W.idx_at (by omega) (by omega) ?_; simp only [go_sem, *] | refine W.br_idx (by omega) (by omega) ?_; try simp only [go_sem, *] | refine W.bnd_at (by omega) (by omega) ?_; simp only [go_sem, *] | refine W.br_dec (fun h => ?_) (fun h => ?_) <;> simp only [go_sem, *] | refine W.want_dect (fun h => ?_) (fun h => ?_) <;> simp only [go_sem, *] | refine W.want_decf (fun h => ?_) (fun h => ?_) <;> simp only [go_sem, *] | refine W.br_ndec (fun h => ?_) (fun h => ?_) <;> simp only [go_sem, *] | refine W.want_ndect (fun h => ?_) (fun h => ?_) <;> simp only [go_sem, *] | refine W.want_ndecf (fun h => ?_) (fun h => ?_) <;> simp only [go_sem, *] | refine W.br_split (fun h => ?_) (fun h => ?_) <;> simp only [go_sem, *] | refine W.want_split (fun h => ?_) (fun h => ?_) <;> simp only [go_sem, *])
  all_goals try simp only [go_sem, e, e1]
  all_goals exact ⟨_, by first | omega | exact u64_nn _ | exact fdiv_nn _ (by omega) | (simp only [Int.max_def, Int.min_def]; split <;> omega) | (rw [IntKind.wrap_u64]; omega), rfl⟩
theorem mul_some (d : Nat) (a b : Int) : Wp (fun x => ∃ n m : Int, (0 ≤ n ∧ 0 ≤ m) ∧ x = some (.tup [.int .u64 n, .int .u64 m], St.empty)) (evalF Try.prog CC (d + 1) 74 [.int .u64 a, .int .u64 b] St.empty) := by
  have e1 := fun a => shr_T (k := .u64) (k2 := .u64) (t := 24) (a := a) (show ¬ (32 : Int) < 0 by omega)
  rw [run_74 _ _ _ (by simp)]; unfold Try.f74; simp only [Option.getD_some]
  simp only [go_sem, e1, and_T]
  exact ⟨_, _, ⟨u64_nn _, u64_nn _⟩, rfl⟩
theorem mod_nn (d : Nat) (a b c e : Int) (ha : 0 ≤ a) (hc : 0 ≤ c) : Wp (fun x => ∃ lo hi, 0 ≤ lo ∧ x = some (spanA lo hi, St.empty)) (evalF Try.prog CC (d + 3) 75 [spanA a b, spanA c e] St.empty) := by
  have q := fun d n => of_c d n
  unfold spanA
  rw [run_75 _ _ _ (by simp)]; unfold Try.f75; simp only [Option.getD_some]
  simp only [go_sem, *]
  refine W.br_ok (by kernel_rfl) ?_
  simp only [go_sem, q]
  repeat' (first | refine W.idx_at (by omega) (by omega) ?_; simp only [go_sem, *] | refine W.br_idx (by omega) (by omega) ?_; try simp only [go_sem, *] | refine W.bnd_at (by omega) (by omega) ?_; simp only [go_sem, *] | refine W.br_dec (fun h => ?_) (fun h => ?_) <;> simp only [go_sem, *] | refine W.want_dect (fun h => ?_) (fun h => ?_) <;> simp only [go_sem, *] | refine W.want_decf (fun h => ?_) (fun h => ?_) <;> simp only [go_sem, *] | refine W.br_ndec (fun h => ?_) (fun h => ?_) <;> simp only [go_sem, *] | refine W.want_ndect (fun h => ?_) (fun h => ?_) <;> simp only [go_sem, *] | refine W.want_ndecf (fun h => ?_) (fun h => ?_) <;> simp only [go_sem, *] | refine W.br_split (fun h => ?_) (fun h => ?_) <;> simp only [go_sem, *] | refine W.want_split (fun h => ?_) (fun h => ?_) <;> simp only [go_sem, *])
  all_goals first | exact ⟨_, _, by first | omega | exact u64_nn _ | exact fdiv_nn _ (by omega) | (simp only [Int.max_def, Int.min_def]; split <;> omega) | (rw [IntKind.wrap_u64]; omega), rfl⟩ | trace_state
theorem shift_nn (d : Nat) (op a b c e : Int) (ha : 0 ≤ a) (hc : 0 ≤ c) : Wp (fun x => ∃ lo hi, 0 ≤ lo ∧ x = some (spanA lo hi, St.empty)) (evalF Try.prog CC (d + 4) 77 [.int .i64 op, spanA a b, spanA c e] St.empty) := by
  have q := fun d n => of_c d n
  have q1 := fun d => all_c d
  have q2 := fun d lo hi => single_c d lo hi
  have hn : ¬ c.tmod 64 < 0 := by have := Int.tmod_nonneg 64 hc; omega
  have e1 := fun a => shl_T (k := .u64) (k2 := .u64) (t := 24) (a := a) hn
  have e2 := fun a => shr_T (k := .u64) (k2 := .u64) (t := 24) (a := a) hn
  have e3 := fun a => shr_T (k := .u64) (k2 := .u64) (t := 24) (a := a) (show ¬ (63 : Int) < 0 by omega)
  unfold spanA
  rw [run_77 _ _ _ (by simp)]; unfold Try.f77; simp only [Option.getD_some]
  simp only [go_sem, *]
  repeat' (first | refine W.idx_at (by omega) (by omega) ?_; simp only [go_sem, *] | refine W.br_idx (by omega) (by omega) ?_; try simp only [go_sem, *] | refine W.bnd_at (by omega) (by omega) ?_; simp only [go_sem, *] | refine W.br_dec (fun h => ?_) (fun h => ?_) <;> simp only [go_sem, *] | refine W.want_dect (fun h => ?_) (fun h => ?_) <;> simp only [go_sem, *] | refine W.want_decf (fun h => ?_) (fun h => ?_) <;> simp only [go_sem, *] | refine W.br_ndec (fun h => ?_) (fun h => ?_) <;> simp only [go_sem, *] | refine W.want_ndect (fun h => ?_) (fun h => ?_) <;> simp only [go_sem, *] | refine W.want_ndecf (fun h => ?_) (fun h => ?_) <;> simp only [go_sem, *] | refine W.br_split (fun h => ?_) (fun h => ?_) <;> simp only [go_sem, *] | refine W.want_split (fun h => ?_) (fun h => ?_) <;> simp only [go_sem, *])
  all_goals first | (refine ⟨_, _, ?_, rfl⟩; first | omega | exact u64_nn _ | exact fdiv_nn _ ha) | (trace_state; sorry)
end Go.Proofs.Yticlihmbikcohaa.Va

/- chapter 19: spans are reckoned with -/
namespace Go.Proofs.Yticlihmbikcohaa.Va
open Go
set_option linter.unusedVariables false
set_option linter.unusedSimpArgs false
set_option maxRecDepth 100000
set_option maxHeartbeats 2000000
def xorI (k : IntKind) (a b : Int) : Int := k.wrap (BitVec.ofInt k.bits a ^^^ BitVec.ofInt k.bits b).toNat
theorem xor_T {k : IntKind} {t : TypeId} {a b : Int} : aBin T .xor t (.int k a) (.int k b) = some (.int k (xorI k a b)) := by simp [aBin, intBin, xorI]
theorem add64_c (d : Nat) (σ : St) (x y : Int) (hx : 0 ≤ x) (hy : 0 ≤ y) : evalF Try.prog CC (d + 1) 73 [.int .u64 x, .int .u64 y, .int .u64 0] σ = some (.tup [.int .u64 ((x + y + 0) % 18446744073709551616), .int .u64 ((x + y + 0) / 18446744073709551616)], σ) := by
  show (if 0 ≤ x ∧ 0 ≤ y ∧ (0 : Int) ≤ 0 ∧ (0 : Int) ≤ 1 then _ else _) = _
  rw [if_pos ⟨hx, hy, by omega, by omega⟩]
theorem do_some (d : Nat) (op a b c e : Int) (ha : 0 ≤ a) (hb : a ≤ b) (hc : 0 ≤ c) (he : c ≤ e) : Wp (fun x => ∃ lo hi, 0 ≤ lo ∧ x = some (spanA lo hi, St.empty)) (evalF Try.prog CC (d + 6) 53 [.int .i64 op, spanA a b, spanA c e] St.empty) := by
  have q1 := fun d => all_c d
  have q2 := fun d σ => add64_c d σ b e (by omega) (by omega)
  obtain ⟨n, m, hnm, q3⟩ := mul_some (d + 4) b e
  obtain ⟨lo1, hi1, hn1, q4⟩ := mod_nn (d + 2) a b c e ha hc
  obtain ⟨lo2, hi2, hn2, q5⟩ := shift_nn (d + 1) op a b c e ha hc
  obtain ⟨n3, hn3, q6⟩ := filled_some (d + 2) (orI .u64 b e)
  have z1 := fun k t a b => and_T (k := k) (t := t) (a := a) (b := b)
  have z2 := fun k t a b => or_T (k := k) (t := t) (a := a) (b := b)
  unfold spanA at q4 q5 ⊢
  simp only [Nat.add_assoc, Nat.reduceAdd] at q3 q4 q5 q6
  rw [run_53 _ _ _ (by simp)]; unfold Try.f53; simp only [Option.getD_some]
  simp only [go_sem, *]
  repeat' (first | (first | refine W.idx_at (by omega) (by omega) ?_; simp only [go_sem, *] | refine W.br_idx (by omega) (by omega) ?_; try simp only [go_sem, *] | refine W.bnd_at (by omega) (by omega) ?_; simp only [go_sem, *] | refine W.br_dec (fun h => ?_) (fun h => ?_) <;> simp only [go_sem, *] | refine W.want_dect (fun h => ?_) (fun h => ?_) <;> simp only [go_sem, *] | refine W.want_decf (fun h => ?_) (fun h => ?_) <;> simp only [go_sem, *] | refine W.br_ndec (fun h => ?_) (fun h => ?_) <;> simp only [go_sem, *] | refine W.want_ndect (fun h => ?_) (fun h => ?_) <;> simp only [go_sem, *] | refine W.want_ndecf (fun h => ?_) (fun h => ?_) <;> simp only [go_sem, *] | refine W.br_split (fun h => ?_) (fun h => ?_) <;> simp only [go_sem, *] | refine W.want_split (fun h => ?_) (fun h => ?_) <;> simp only [go_sem, *]) | (refine W.br_ok (by kernel_rfl) ?_; simp only [go_sem, *]))
  all_goals first
    | (refine ⟨_, _, ?_, rfl⟩; first | omega | exact u64_nn _)
    | (have e0 := eq_false (show ¬ e = 0 by omega)
       have c0 := eq_false (show ¬ c = 0 by omega)
       simp only [go_sem, e0, c0]
       exact ⟨_, _, u64_nn _, rfl⟩)
theorem alu_nn (d : Nat) (op a b : Int) (ha : 0 ≤ a) (hb : 0 ≤ b) : Wp (fun x => ∃ n e, 0 ≤ n ∧ x = some (.tup [.int .u64 n, .int .i64 e], St.empty)) (evalF Try.prog CC (d + 3) 8 [.int .i64 op, .int .u64 a, .int .u64 b] St.empty) := by
  have hn : ¬ b.tmod 64 < 0 := by have := Int.tmod_nonneg 64 hb; omega
  have e1 := shl_T (k := .u64) (k2 := .u64) (t := 24) (a := a) hn
  have e2 := shr_T (k := .u64) (k2 := .u64) (t := 24) (a := a) hn
  have e3 := shr_T (k := .i64) (k2 := .u64) (t := 2) (a := IntKind.i64.wrap a) hn
  have z1 := fun k t a b => and_T (k := k) (t := t) (a := a) (b := b)
  have z2 := fun k t a b => or_T (k := k) (t := t) (a := a) (b := b)
  have z3 := fun k t a b => xor_T (k := k) (t := t) (a := a) (b := b)
  rw [run_8 _ _ _ (by simp)]; unfold Try.f8; simp only [Option.getD_some]
  simp only [go_sem, *]
  repeat' (first | refine W.idx_at (by omega) (by omega) ?_; simp only [go_sem, *] | refine W.br_idx (by omega) (by omega) ?_; try simp only [go_sem, *] | refine W.bnd_at (by omega) (by omega) ?_; simp only [go_sem, *] | refine W.br_dec (fun h => ?_) (fun h => ?_) <;> simp only [go_sem, *] | refine W.want_dect (fun h => ?_) (fun h => ?_) <;> simp only [go_sem, *] | refine W.want_decf (fun h => ?_) (fun h => ?_) <;> simp only [go_sem, *] | refine W.br_ndec (fun h => ?_) (fun h => ?_) <;> simp only [go_sem, *] | refine W.want_ndect (fun h => ?_) (fun h => ?_) <;> simp only [go_sem, *] | refine W.want_ndecf (fun h => ?_) (fun h => ?_) <;> simp only [go_sem, *] | refine W.br_split (fun h => ?_) (fun h => ?_) <;> simp only [go_sem, *] | refine W.want_split (fun h => ?_) (fun h => ?_) <;> simp only [go_sem, *])
  all_goals first | (refine ⟨_, _, ?_, rfl⟩; first | omega | exact u64_nn _ | exact fdiv_nn _ ha | exact Int.tmod_nonneg _ ha) | trace_state
end Go.Proofs.Yticlihmbikcohaa.Va

/- chapter 19: span.Do -/
namespace Go.Proofs.Yticlihmbikcohaa.Va
open Go
set_option linter.unusedVariables false
set_option linter.unusedSimpArgs false
set_option maxRecDepth 100000
set_option maxHeartbeats 2000000
theorem spanDo_some (d : Nat) (op a b c e : Int) (ha : 0 ≤ a) (hc : 0 ≤ c) : Wp (fun x => ∃ lo hi er, 0 ≤ lo ∧ x = some (.tup [spanA lo hi, .int .i64 er], St.empty)) (evalF Try.prog CC (d + 7) 40 [.int .i64 op, spanA a b, spanA c e] St.empty) := by
  have m1 := fun d => spanMay_c d a b
  have m2 := fun d => spanMay_c d c e
  have s1 := fun d => single_c d a b
  have s2 := fun d => single_c d c e
  have s3 := fun d n => of_c d n
  obtain ⟨n, er, hn, q1⟩ := alu_nn (d + 3) op a c ha hc
  unfold spanA
  simp only [Nat.add_assoc, Nat.reduceAdd] at q1
  rw [run_40 _ _ _ (by simp)]; unfold Try.f40; simp only [Option.getD_some]
  simp only [go_sem, *]
  by_cases h1 : op < 1
  · simp only [go_sem, h1]
    exact ⟨_, _, _, by omega, rfl⟩
  by_cases h2 : op > 11
  · simp only [go_sem, h1, h2]
    exact ⟨_, _, _, by omega, rfl⟩
  by_cases h3 : a ≤ b
  case neg =>
    simp only [go_sem, h1, h2, m1, h3]
    exact ⟨_, _, _, by omega, rfl⟩
  by_cases h4 : c ≤ e
  case neg =>
    simp only [go_sem, h1, h2, m1, h3, m2, h4]
    exact ⟨_, _, _, by omega, rfl⟩
  obtain ⟨lo2, hi2, hn2, q2⟩ := do_some d op a b c e ha h3 hc h4
  unfold spanA at q2
  simp only [go_sem, h1, h2, m1, h3, m2, h4, s1, s2]
  by_cases h5 : b = a
  case neg =>
    have h5' := eq_false h5
    simp only [go_sem, h5', q2]
    exact ⟨_, _, _, hn2, rfl⟩
  have h5' := eq_true h5
  by_cases h6 : e = c
  case neg =>
    have h6' := eq_false h6
    simp only [go_sem, h5', h6', q2, s2]
    exact ⟨_, _, _, hn2, rfl⟩
  have h6' := eq_true h6
  simp only [go_sem, s2, q1, s3, h5', h6']
  exact ⟨_, _, _, hn, rfl⟩
end Go.Proofs.Yticlihmbikcohaa.Va

/- chapter 19: conditions -/
namespace Go.Proofs.Yticlihmbikcohaa.Va
open Go
set_option linter.unusedVariables false
set_option linter.unusedSimpArgs false
set_option maxRecDepth 100000
set_option maxHeartbeats 20000000
theorem bsingle_c (d : Nat) (lo hi : Int) : evalF Try.prog CC (d + 1) 84 [.agg 36 [.int .u64 lo, .int .u64 hi]] St.empty = some (.bool (decide (lo = hi)), St.empty) := by
  refine wp_eq ?_
  rw [run_84 _ _ _ (by simp)]; unfold Try.f84; simp only [Option.getD_some]
  simp only [go_sem, *]
  rfl
theorem holds_some (d : Nat) (op a b : Int) : Wp (fun x => ∃ t e, x = some (.tup [.bool t, .int .i64 e], St.empty)) (evalF Try.prog CC (d + 1) 83 [.int .i64 op, .int .u64 a, .int .u64 b] St.empty) := by
  have z1 := fun k t a b => and_T (k := k) (t := t) (a := a) (b := b)
  rw [run_83 _ _ _ (by simp)]; unfold Try.f83; simp only [Option.getD_some]
  simp only [go_sem, *]
  repeat' (first | refine W.idx_at (by omega) (by omega) ?_; simp only [go_sem, *] | refine W.br_idx (by omega) (by omega) ?_; try simp only [go_sem, *] | refine W.bnd_at (by omega) (by omega) ?_; simp only [go_sem, *] | refine W.br_dec (fun h => ?_) (fun h => ?_) <;> simp only [go_sem, *] | refine W.want_dect (fun h => ?_) (fun h => ?_) <;> simp only [go_sem, *] | refine W.want_decf (fun h => ?_) (fun h => ?_) <;> simp only [go_sem, *] | refine W.br_ndec (fun h => ?_) (fun h => ?_) <;> simp only [go_sem, *] | refine W.want_ndect (fun h => ?_) (fun h => ?_) <;> simp only [go_sem, *] | refine W.want_ndecf (fun h => ?_) (fun h => ?_) <;> simp only [go_sem, *] | refine W.br_split (fun h => ?_) (fun h => ?_) <;> simp only [go_sem, *] | refine W.want_split (fun h => ?_) (fun h => ?_) <;> simp only [go_sem, *])
  all_goals first | exact ⟨_, _, rfl⟩ | trace_state
theorem not_some (d : Nat) (op : Int) : Wp (fun x => ∃ n e, x = some (.tup [.int .i64 n, .int .i64 e], St.empty)) (evalF Try.prog CC (d + 1) 85 [.int .i64 op] St.empty) := by
  rw [run_85 _ _ _ (by simp)]; unfold Try.f85; simp only [Option.getD_some]
  simp only [go_sem, *]
  by_cases h1 : op < 1
  · simp only [go_sem, h1]
    exact ⟨_, _, rfl⟩
  by_cases h2 : op > 8
  · simp only [go_sem, h1, h2]
    exact ⟨_, _, rfl⟩
  obtain ⟨n, rfl⟩ : ∃ n : Nat, op = (n : Int) := ⟨op.toNat, by omega⟩
  have hn : n < 9 := by omega
  have hix : aIndexAddr T 162 (.ptr 162 0 [0]) (.int .i64 (n : Int)) = some (.ptr 3 0 [0, n]) := by
    simp only [aIndexAddr, ty_162]
    rw [if_pos ⟨by simp [Tab.same], by omega, by omega⟩, Int.toNat_natCast]
    rfl
  have hg : ∃ v : Int, [AV.int .i64 0, .int .i64 2, .int .i64 1, .int .i64 6, .int .i64 5, .int .i64 4, .int .i64 3, .int .i64 8, .int .i64 7][n]? = some (.int .i64 v) := by
    rcases (show n = 0 ∨ n = 1 ∨ n = 2 ∨ n = 3 ∨ n = 4 ∨ n = 5 ∨ n = 6 ∨ n = 7 ∨ n = 8 by omega) with rfl | rfl | rfl | rfl | rfl | rfl | rfl | rfl | rfl <;> exact ⟨_, rfl⟩
  obtain ⟨v, hg⟩ := hg
  simp only [go_sem, h1, h2, hix, hg]
  exact ⟨_, _, rfl⟩
theorem without_some (d : Nat) (a b c e : Int) (ha : 0 ≤ a) : Wp (fun x => ∃ lo hi, 0 ≤ lo ∧ x = some (spanA lo hi, St.empty)) (evalF Try.prog CC (d + 2) 104 [spanA a b, spanA c e] St.empty) := by
  have q1 := fun d lo hi => bsingle_c d lo hi
  unfold spanA
  rw [run_104 _ _ _ (by simp)]; unfold Try.f104; simp only [Option.getD_some]
  simp only [go_sem, *]
  repeat' (first | refine W.idx_at (by omega) (by omega) ?_; simp only [go_sem, *] | refine W.br_idx (by omega) (by omega) ?_; try simp only [go_sem, *] | refine W.bnd_at (by omega) (by omega) ?_; simp only [go_sem, *] | refine W.br_dec (fun h => ?_) (fun h => ?_) <;> simp only [go_sem, *] | refine W.want_dect (fun h => ?_) (fun h => ?_) <;> simp only [go_sem, *] | refine W.want_decf (fun h => ?_) (fun h => ?_) <;> simp only [go_sem, *] | refine W.br_ndec (fun h => ?_) (fun h => ?_) <;> simp only [go_sem, *] | refine W.want_ndect (fun h => ?_) (fun h => ?_) <;> simp only [go_sem, *] | refine W.want_ndecf (fun h => ?_) (fun h => ?_) <;> simp only [go_sem, *] | refine W.br_split (fun h => ?_) (fun h => ?_) <;> simp only [go_sem, *] | refine W.want_split (fun h => ?_) (fun h => ?_) <;> simp only [go_sem, *])
  all_goals first | (refine ⟨_, _, ?_, rfl⟩; first | omega | exact u64_nn _) | trace_state
theorem meet_some (d : Nat) (a b c e : Int) (ha : 0 ≤ a) : Wp (fun x => ∃ lo hi er, 0 ≤ lo ∧ x = some (.tup [spanA lo hi, .int .i64 er], St.empty)) (evalF Try.prog CC (d + 2) 103 [spanA a b, spanA c e] St.empty) := by
  have q1 := fun d lo hi => spanMay_c d lo hi
  unfold spanA
  rw [run_103 _ _ _ (by simp)]; unfold Try.f103; simp only [Option.getD_some]
  simp only [go_sem, *]
  repeat' (first | refine W.idx_at (by omega) (by omega) ?_; simp only [go_sem, *] | refine W.br_idx (by omega) (by omega) ?_; try simp only [go_sem, *] | refine W.bnd_at (by omega) (by omega) ?_; simp only [go_sem, *] | refine W.br_dec (fun h => ?_) (fun h => ?_) <;> simp only [go_sem, *] | refine W.want_dect (fun h => ?_) (fun h => ?_) <;> simp only [go_sem, *] | refine W.want_decf (fun h => ?_) (fun h => ?_) <;> simp only [go_sem, *] | refine W.br_ndec (fun h => ?_) (fun h => ?_) <;> simp only [go_sem, *] | refine W.want_ndect (fun h => ?_) (fun h => ?_) <;> simp only [go_sem, *] | refine W.want_ndecf (fun h => ?_) (fun h => ?_) <;> simp only [go_sem, *] | refine W.br_split (fun h => ?_) (fun h => ?_) <;> simp only [go_sem, *] | refine W.want_split (fun h => ?_) (fun h => ?_) <;> simp only [go_sem, *])
  all_goals first | (refine ⟨_, _, _, ?_, rfl⟩; first | omega | exact u64_nn _) | trace_state
def turnM (i : Nat) : AObj := .map 3 3 ([(AV.int .i64 5, AV.int .i64 3), (AV.int .i64 6, AV.int .i64 4)].take i)
theorem W.turn1 {R : Type} {P : Option R → Prop} {σ : St} {k : St → Option R} (ho : σ.obj 4 = some (.map 3 3 [])) (h : Wp P (k (σ.set 4 (turnM 1)))) : Wp P (@bnd St R (@aMapPut T ⟨σ⟩ 163 (.map 4) (.int .i64 5) (.int .i64 3)) ⟨k⟩) := by
  rw [put_int (kd := .i64) (vt := 3) (kt := 3) (l := []) ty_163 ty_3 ho 5 (by simp [fits, ty_3])]
  exact h
theorem W.turn2 {R : Type} {P : Option R → Prop} {σ : St} {k : St → Option R} (ho : σ.obj 4 = some (turnM 1)) (h : Wp P (k (σ.set 4 (turnM 2)))) : Wp P (@bnd St R (@aMapPut T ⟨σ⟩ 163 (.map 4) (.int .i64 6) (.int .i64 4)) ⟨k⟩) := by
  rw [put_int (kd := .i64) (vt := 3) (kt := 3) (l := [(5, .int .i64 3)]) ty_163 ty_3 ho 6 (by simp [fits, ty_3])]
  exact h
def turnS (n : Int) : Int := if n = 5 then 3 else if n = 6 then 4 else 0
theorem W.turn3 {R : Type} {P : Option R → Prop} {σ : St} {n : Int} {k : AV → Option R} (ho : σ.obj 4 = some (turnM 2)) (h : Wp P (k (.int .i64 (turnS n)))) : Wp P (@bnd AV R (@aLookup T ⟨σ⟩ 163 (.map 4) (.int .i64 n) false) ⟨k⟩) := by
  rw [look_int (kd := .i64) (vt := 3) (kt := 3) (l := [(5, .int .i64 3), (6, .int .i64 4)]) ty_163 ty_3 rfl ho n]
  have hz : T.zero 3 = .int .i64 0 := by kernel_rfl
  have e : lookRes T 3 false (findI n [(5, AV.int .i64 3), (6, AV.int .i64 4)] 0) = .int .i64 (turnS n) := by
    unfold turnS findI findI findI
    by_cases h5 : n = 5
    · simp [h5, lookRes]
    · by_cases h6 : n = 6
      · simp [h6, lookRes]
      · simp [h5, h6, lookRes, hz]
  rw [e]
  exact h
theorem where_plain (d : Nat) (op a b c e : Int) (ha : 0 ≤ a) (hc : 0 ≤ c) (h5 : op ≠ 5) (h6 : op ≠ 6) : Wp (fun x => ∃ lo hi lo' hi' t, (0 ≤ lo ∧ 0 ≤ lo') ∧ x = some (.tup [spanA lo hi, spanA lo' hi', .bool t], St.empty)) (evalF Try.prog CC (d + 4) 86 [.int .i64 op, spanA a b, spanA c e] St.empty) := by
  obtain ⟨lo1, hi1, hn1, q1⟩ := without_some (d + 1) a b c e ha
  obtain ⟨lo2, hi2, hn2, q2⟩ := without_some (d + 1) c e a b hc
  obtain ⟨lo3, hi3, er, hn3, q3⟩ := meet_some (d + 1) a b c e ha
  unfold spanA at q1 q2 q3 ⊢
  simp only [Nat.add_assoc, Nat.reduceAdd] at q1 q2 q3
  rw [run_86 _ _ _ (by simp)]; unfold Try.f86; simp only [Option.getD_some]
  simp only [go_sem, *]
  refine W.turn1 (by simp only [go_sem, *]) ?_
  simp only [go_sem, *]
  refine W.turn2 (by simp only [go_sem, *]) ?_
  simp only [go_sem, *]
  refine W.turn3 (by simp only [go_sem, *]) ?_
  have ht : turnS op = 0 := by unfold turnS; rw [if_neg h5, if_neg h6]
  rw [ht]
  simp only [go_sem, *]
  by_cases o1 : op = 1
  · have o1' := eq_true o1
    simp only [go_sem, o1', q1, q2, q3]
    refine W.br_no (by kernel_rfl) (W.br_ok (by kernel_rfl) ?_)
    simp only [go_sem, o1', q1, q2, q3]
    refine W.br_ok (by kernel_rfl) ?_
    try simp only [go_sem, o1', q1, q2, q3]
    exact ⟨_, _, _, _, _, ⟨hn3, hn3⟩, rfl⟩
  have o1' := eq_false o1
  simp only [go_sem, o1', q1, q2, q3]
  by_cases o2 : op = 2
  · have o2' := eq_true o2
    simp only [go_sem, o2', q1, q2, q3]
    refine W.br_ok (by kernel_rfl) ?_
    simp only [go_sem, o1', q1, q2, q3]
    exact ⟨_, _, _, _, _, ⟨hn1, hn2⟩, rfl⟩
  have o2' := eq_false o2
  simp only [go_sem, o2', q1, q2, q3]
  by_cases o3 : op = 3
  · have o3' := eq_true o3
    by_cases g : a ≥ e
    · have g' := eq_true g
      simp only [go_sem, o3', g']
      exact ⟨_, _, _, _, _, ⟨Int.le_refl _, Int.le_refl _⟩, rfl⟩
    · have g' := eq_false g
      simp only [go_sem, o3', g']
      refine W.br_no (by kernel_rfl) (W.br_ok (by kernel_rfl) ?_)
      simp only [go_sem, o3', g']
      refine W.br_ok (by kernel_rfl) ?_
      try simp only [go_sem, o3', g']
      exact ⟨_, _, _, _, _, ⟨ha, Int.le_trans hc (Int.le_max_left _ _)⟩, rfl⟩
  have o3' := eq_false o3
  simp only [go_sem, o3']
  by_cases o4 : op = 4
  · have o4' := eq_true o4
    by_cases g : a > e
    · have g' := eq_true g
      simp only [go_sem, o4', g']
      exact ⟨_, _, _, _, _, ⟨Int.le_refl _, Int.le_refl _⟩, rfl⟩
    · have g' := eq_false g
      simp only [go_sem, o4', g']
      refine W.br_no (by kernel_rfl) (W.br_ok (by kernel_rfl) ?_)
      simp only [go_sem, o4', g']
      refine W.br_ok (by kernel_rfl) ?_
      try simp only [go_sem, o4', g']
      exact ⟨_, _, _, _, _, ⟨ha, Int.le_trans hc (Int.le_max_left _ _)⟩, rfl⟩
  have o4' := eq_false o4
  simp only [go_sem, o4']
  refine W.br_no (by kernel_rfl) (W.br_ok (by kernel_rfl) ?_)
  simp only [go_sem, o4']
  refine W.br_ok (by kernel_rfl) ?_
  try simp only [go_sem, o4']
  exact ⟨_, _, _, _, _, ⟨ha, hc⟩, rfl⟩
theorem where_some (d : Nat) (op a b c e : Int) (ha : 0 ≤ a) (hc : 0 ≤ c) : Wp (fun x => ∃ lo hi lo' hi' t, (0 ≤ lo ∧ 0 ≤ lo') ∧ x = some (.tup [spanA lo hi, spanA lo' hi', .bool t], St.empty)) (evalF Try.prog CC (d + 5) 86 [.int .i64 op, spanA a b, spanA c e] St.empty) := by
  by_cases h5 : op = 5
  case neg =>
    by_cases h6 : op = 6
    case neg => exact where_plain (d + 1) op a b c e ha hc h5 h6
    subst h6
    obtain ⟨lo1, hi1, lo2, hi2, t, hn, q1⟩ := where_plain d 4 c e a b hc ha (by omega) (by omega)
    unfold spanA at q1 ⊢
    have ht : turnS 6 = 4 := rfl
    rw [run_86 _ _ _ (by simp)]; unfold Try.f86; simp only [Option.getD_some]
    simp only [go_sem, *]
    refine W.turn1 (by simp only [go_sem, *]) ?_
    simp only [go_sem, *]
    refine W.turn2 (by simp only [go_sem, *]) ?_
    simp only [go_sem, *]
    refine W.turn3 (by simp only [go_sem, *]) ?_
    rw [ht]
    simp only [go_sem, q1]
    refine W.br_no (by kernel_rfl) (W.br_ok (by kernel_rfl) ?_)
    simp only [go_sem, *]
    refine W.br_ok (by kernel_rfl) ?_
    try simp only [go_sem, *]
    exact ⟨_, _, _, _, _, ⟨hn.2, hn.1⟩, rfl⟩
  subst h5
  obtain ⟨lo1, hi1, lo2, hi2, t, hn, q1⟩ := where_plain d 3 c e a b hc ha (by omega) (by omega)
  unfold spanA at q1 ⊢
  have ht : turnS 5 = 3 := rfl
  rw [run_86 _ _ _ (by simp)]; unfold Try.f86; simp only [Option.getD_some]
  simp only [go_sem, *]
  refine W.turn1 (by simp only [go_sem, *]) ?_
  simp only [go_sem, *]
  refine W.turn2 (by simp only [go_sem, *]) ?_
  simp only [go_sem, *]
  refine W.turn3 (by simp only [go_sem, *]) ?_
  rw [ht]
  simp only [go_sem, q1]
  refine W.br_no (by kernel_rfl) (W.br_ok (by kernel_rfl) ?_)
  simp only [go_sem, *]
  refine W.br_ok (by kernel_rfl) ?_
  try simp only [go_sem, *]
  exact ⟨_, _, _, _, _, ⟨hn.2, hn.1⟩, rfl⟩
theorem refine_some (d : Nat) (op a b c e : Int) (t : Bool) (ha : 0 ≤ a) (hc : 0 ≤ c) : Wp (fun x => ∃ lo hi lo' hi' t er, (0 ≤ lo ∧ 0 ≤ lo') ∧ x = some (.tup [spanA lo hi, spanA lo' hi', .bool t, .int .i64 er], St.empty)) (evalF Try.prog CC (d + 6) 55 [.int .i64 op, spanA a b, spanA c e, .bool t] St.empty) := by
  have m1 := fun d => spanMay_c d a b
  have m2 := fun d => spanMay_c d c e
  have s1 := fun d => bsingle_c d a b
  have s2 := fun d => bsingle_c d c e
  obtain ⟨sa, hsa⟩ : ∃ q, decide (a = b) = q := ⟨_, rfl⟩
  obtain ⟨sb, hsb⟩ : ∃ q, decide (c = e) = q := ⟨_, rfl⟩
  rw [hsa] at s1
  rw [hsb] at s2
  obtain ⟨g, er, q1⟩ := holds_some (d + 4) op a c
  obtain ⟨n, er2, q2⟩ := not_some (d + 4) op
  obtain ⟨lo1, hi1, lo2, hi2, t1, hn, q3⟩ := where_some d op a b c e ha hc
  obtain ⟨lo3, hi3, lo4, hi4, t2, hn2, q4⟩ := where_some d n a b c e ha hc
  unfold spanA at q3 q4 ⊢
  simp only [Nat.add_assoc, Nat.reduceAdd] at q1 q2 q3 q4
  rw [run_55 _ _ _ (by simp)]; unfold Try.f55; simp only [Option.getD_some]
  simp only [go_sem, *]
  cases t
  all_goals
    repeat' (first | (refine W.br_no (by kernel_rfl) (W.br_ok (by kernel_rfl) ?_); simp only [go_sem, *]; refine W.br_ok (by kernel_rfl) ?_; try simp only [go_sem, *]) | (first | refine W.idx_at (by omega) (by omega) ?_; simp only [go_sem, *] | refine W.br_idx (by omega) (by omega) ?_; try simp only [go_sem, *] | refine W.bnd_at (by omega) (by omega) ?_; simp only [go_sem, *] | refine W.br_dec (fun h => ?_) (fun h => ?_) <;> simp only [go_sem, *] | refine W.want_dect (fun h => ?_) (fun h => ?_) <;> simp only [go_sem, *] | refine W.want_decf (fun h => ?_) (fun h => ?_) <;> simp only [go_sem, *] | refine W.br_ndec (fun h => ?_) (fun h => ?_) <;> simp only [go_sem, *] | refine W.want_ndect (fun h => ?_) (fun h => ?_) <;> simp only [go_sem, *] | refine W.want_ndecf (fun h => ?_) (fun h => ?_) <;> simp only [go_sem, *] | refine W.br_split (fun h => ?_) (fun h => ?_) <;> simp only [go_sem, *] | refine W.want_split (fun h => ?_) (fun h => ?_) <;> simp only [go_sem, *]))
  all_goals first | (refine ⟨_, _, _, _, _, _, ⟨?_, ?_⟩, rfl⟩ <;> omega) | trace_state
end Go.Proofs.Yticlihmbikcohaa.Va

/- chapter 19: conditions between numbers -/
namespace Go.Proofs.Yticlihmbikcohaa.Va
open Go
set_option linter.unusedVariables false
set_option linter.unusedSimpArgs false
set_option maxRecDepth 100000
set_option maxHeartbeats 4000000
noncomputable def refS (d : Nat) (op : Int) (a b : Wht) (h : Bool) : Wht × Wht × Bool :=
  match evalF Try.prog CC (d + 6) 55 [.int .i64 op, spanA a.lo a.hi, spanA b.lo b.hi, .bool h] St.empty with
  | some (.tup [.agg _ [.int _ lo, .int _ hi], .agg _ [.int _ lo', .int _ hi'], .bool t, _], _) => (numW lo hi, numW lo' hi', t)
  | _ => (junk, junk, false)
theorem ref_c (d : Nat) (op : Int) (a b : Wht) (h : Bool) (ha : 0 ≤ a.lo) (hb : 0 ≤ b.lo) : ∃ ul uh vl vh t er, refS d op a b h = (numW ul uh, numW vl vh, t) ∧ (0 ≤ ul ∧ 0 ≤ vl) ∧ evalF Try.prog CC (d + 6) 55 [.int .i64 op, .agg 36 [.int .u64 a.lo, .int .u64 a.hi], .agg 36 [.int .u64 b.lo, .int .u64 b.hi], .bool h] St.empty = some (.tup [.agg 36 [.int .u64 ul, .int .u64 uh], .agg 36 [.int .u64 vl, .int .u64 vh], .bool t, .int .i64 er], St.empty) := by
  obtain ⟨lo, hi, lo', hi', t, er, hn, q⟩ := refine_some d op a.lo a.hi b.lo b.hi h ha hb
  refine ⟨lo, hi, lo', hi', t, er, ?_, hn, q⟩
  unfold refS
  rw [q]
  rfl
noncomputable def jumpT (s : Sta) (i : Ins) (u v : Wht) : Sta := if i.op = 6 then setRg (setRg s i.a u) i.b v else setRg s i.a u
noncomputable def jumpOne (d : Nat) (pc : Int) (s : Sta) (i : Ins) (a b : Wht) (n : Int) (h : Bool) : List (Int × Sta) :=
  if (refS d i.c a b h).2.2 = true then [(pc + 1 + n * (i.imm - 1), jumpT s i (refS d i.c a b h).1 (refS d i.c a b h).2.1)] else []
noncomputable def jumpPre (d : Nat) (pc : Int) (s : Sta) (i : Ins) (a b : Wht) : Nat → List (Int × Sta)
  | 0 => []
  | 1 => jumpOne d pc s i a b 0 false
  | _ => jumpOne d pc s i a b 0 false ++ jumpOne d pc s i a b 1 true
theorem jumpOne_len (d : Nat) (pc : Int) (s : Sta) (i : Ins) (a b : Wht) (n : Int) (h : Bool) : (jumpOne d pc s i a b n h).length ≤ 1 := by
  unfold jumpOne
  split <;> simp
theorem jump_tail (d : Nat) {K : Kx} {bp : Bool} {p : List Ins} {L : Int → List Sta} {σ s1 : St} {w m : Nat} (hW : WK K bp p L s1 w m) (hKs : Keeps σ s1 m) (hw : w < σ.next) (hm : m < σ.next) (hwm : w ≠ m) (pc : Int) (hpc : 0 ≤ pc ∧ pc < 1000) (s : Sta) (r : AV) (hr : RefA r s.refs) (ho : SOk s) (i : Ins) (a b : Wht)
    (hi : InsOk i) (hal : 0 ≤ a.lo) (hbl : 0 ≤ b.lo) (hl : ∀ k, (L k).length ≤ 10000) (ρ : Env)
    (h0 : ρ 0 = .ptr 65 w [0]) (h1 : ρ 1 = .int .i64 pc) (h8 : ρ 8 = .ptr 43 σ.next [0]) (h9 : ρ 9 = .ptr 28 (σ.next + 1) [0]) (h10 : ρ 10 = .ptr 38 (σ.next + 2) [0]) (h11 : ρ 11 = .ptr 38 (σ.next + 3) [0])
    (o8 : s1.obj σ.next = some (.cells 43 [encS s r])) (o9 : s1.obj (σ.next + 1) = some (.cells 28 [encI i])) (o10 : s1.obj (σ.next + 2) = some (.cells 38 [encW a])) (o11 : s1.obj (σ.next + 3) = some (.cells 38 [encW b])) (hnx : σ.next + 4 ≤ s1.next) :
    Wp (Sat (StepP K bp p L w m σ (jumpPre d pc s i a b 2, 0))) (evalCode CC (evalF Try.prog CC (d + 6)) 41 (tl 4 (Try.f41.body.getD .skip)) ρ s1 (retK CC 41 Try.f41 σ)) := by
  have ia := fun k id q => ix_regI (k := k) id q hi.a.1 hi.a.2
  have wc : IntKind.i64.wrap i.c = i.c := by rw [IntKind.wrap_i64]; have := hi.c; omega
  unfold Try.f41
  simp only [Option.getD_some, tl]
  simp only [go_sem, *]
  refine W.iter_rule (fun j ρ s' => ρ 0 = .ptr 65 w [0] ∧ ρ 1 = .int .i64 pc ∧ ρ 8 = .ptr 43 σ.next [0] ∧ ρ 9 = .ptr 28 (σ.next + 1) [0] ∧ ρ 10 = .ptr 38 (σ.next + 2) [0] ∧ ρ 11 = .ptr 38 (σ.next + 3) [0] ∧ ρ 47 = .agg 116 [.bool false, .bool true] ∧ ρ 48 = .int .i64 j ∧ s'.obj σ.next = some (.cells 43 [encS s r]) ∧ s'.obj (σ.next + 1) = some (.cells 28 [encI i]) ∧ s'.obj (σ.next + 2) = some (.cells 38 [encW a]) ∧ s'.obj (σ.next + 3) = some (.cells 38 [encW b]) ∧ σ.next + 4 ≤ s'.next ∧ WK K bp p (addLs L (jumpPre d pc s i a b j)) s' w m ∧ Keeps σ s' m) 2 ?_ ?_ _ 0 _ _ (Nat.zero_le _) ?_ ?_
  · clear h0 h1 h8 h9 h10 h11 o8 o9 o10 o11 hnx hW hKs
    rintro j ρ s1 hj ⟨h0, h1, h8, h9, h10, h11, h47, h48, o8, o9, o10, o11, hnx, hW, hKs⟩ K' hK hx hr'
    have hlt := eq_true (show ((j : Nat) : Int) < 2 by omega)
    have hwrap : IntKind.i64.wrap ((j : Int) + 1) = ((j + 1 : Nat) : Int) := by rw [IntKind.wrap_i64]; omega
    obtain ⟨hd, hg, hpre⟩ : ∃ hd : Bool, aIndex T 116 (.agg 116 [.bool false, .bool true]) (.int .i64 (j : Int)) = some (.bool hd) ∧ jumpPre d pc s i a b (j + 1) = jumpPre d pc s i a b j ++ jumpOne d pc s i a b j hd := by
      rcases (show j = 0 ∨ j = 1 by omega) with rfl | rfl
      · exact ⟨false, by simp [aIndex, ty_116, Tab.same], rfl⟩
      · exact ⟨true, by simp [aIndex, ty_116, Tab.same], rfl⟩
    have hlL : ∀ k, (addLs L (jumpPre d pc s i a b j) k).length ≤ 10001 := by
      intro k
      have g1 := addLs_len (jumpPre d pc s i a b j) L k
      have g2 := hl k
      have g3 : (jumpPre d pc s i a b j).length ≤ 1 := by
        rcases (show j = 0 ∨ j = 1 by omega) with rfl | rfl
        · simp [jumpPre]
        · exact jumpOne_len ..
      omega
    generalize hL1 : addLs L (jumpPre d pc s i a b j) = L1 at hW hlL
    have hnext : ∀ ls, jumpOne d pc s i a b j hd = ls → addLs L (jumpPre d pc s i a b (j + 1)) = addLs L1 ls := by
      rintro ls rfl
      rw [hpre, addLs_app, hL1]
    clear hpre
    unfold jumpOne at hnext
    obtain ⟨ul, uh, vl, vh, can, er, hrs, ⟨hul, hvl⟩, hrc⟩ := ref_c d i.c a b hd hal hbl
    rw [hrs] at hnext
    obtain ⟨u, hu⟩ : ∃ u, numW ul uh = u := ⟨_, rfl⟩
    obtain ⟨v, hv⟩ : ∃ v, numW vl vh = v := ⟨_, rfl⟩
    rw [hu, hv] at hnext
    simp only at hnext
    have q1 := fun d lo hi => number_c d lo hi
    have k1 := eq_false (show ¬ σ.next = s1.next by omega)
    have k2 := eq_false (show ¬ σ.next + 1 = s1.next by omega)
    have k3 := eq_false (show ¬ σ.next + 2 = s1.next by omega)
    have k4 := eq_false (show ¬ σ.next + 3 = s1.next by omega)
    have k5 := eq_false (show ¬ σ.next = s1.next + 1 by omega)
    have k6 := eq_false (show ¬ σ.next + 1 = s1.next + 1 by omega)
    have k7 := eq_false (show ¬ σ.next = s1.next + 2 by omega)
    have k8 := eq_false (show ¬ σ.next + 1 = s1.next + 2 by omega)
    simp only [encS, encI, encW] at o8 o9 o10 o11 q1
    simp only [go_sem, h0, h1, h8, h9, h10, h11, h47, h48, o8, o9, o10, o11, hg, hlt, wc, hrc, k1, k2, k3, k4, k5, k6, k7, k8, Nat.left_eq_add, Nat.add_eq_left, Nat.add_left_cancel_iff, Nat.succ_ne_zero, Nat.add_assoc, Nat.one_ne_zero, Bool.not_false, Bool.not_true]
    have hjm : (j : Int) * (i.imm - 1) = 0 ∨ (j : Int) * (i.imm - 1) = i.imm - 1 := by
      rcases (show j = 0 ∨ j = 1 by omega) with rfl | rfl
      · exact .inl (by simp)
      · exact .inr (by simp)
    have himm := hi.imm
    have w1 : IntKind.i64.wrap (pc + 1) = pc + 1 := by rw [IntKind.wrap_i64]; omega
    have w2 : IntKind.i64.wrap i.imm = i.imm := by rw [IntKind.wrap_i64]; omega
    have w3 : IntKind.i64.wrap (i.imm - 1) = i.imm - 1 := by rw [IntKind.wrap_i64]; omega
    have w4 : IntKind.i64.wrap ((j : Int) * (i.imm - 1)) = (j : Int) * (i.imm - 1) := by rw [IntKind.wrap_i64]; omega
    have w5 : IntKind.i64.wrap (pc + 1 + (j : Int) * (i.imm - 1)) = pc + 1 + (j : Int) * (i.imm - 1) := by rw [IntKind.wrap_i64]; omega
    obtain ⟨jm, hj0⟩ : ∃ jm, (j : Int) * (i.imm - 1) = jm := ⟨_, rfl⟩
    rw [hj0] at w5 hnext hjm
    rw [hj0, ← hj0] at w4
    have w4 := w4.trans hj0
    have hLk := hlL (pc + 1 + jm)
    have hw1 := hW.lt
    cases can
    · have hq := hnext [] (by simp)
      simp only [go_sem, h48, hwrap, Nat.left_eq_add, Nat.add_eq_left, Nat.add_left_cancel_iff, Nat.succ_ne_zero, Nat.add_assoc, Nat.one_ne_zero, Bool.not_false, Bool.not_true]
      refine hK _ _ ?_
      have hKt : Keeps s1 ((((s1.new (.cells 36 [T.zero 36])).new (.cells 36 [T.zero 36])).set s1.next (.cells 36 [spanA ul uh])).set (s1.next + 1) (.cells 36 [spanA vl vh])) m := by (repeat' first | exact Keeps.refl _ _ | refine Keeps.new ?_ _ | refine Keeps.other ?_ _ (by omega) | refine Keeps.tok ?_ _)
      refine ⟨by (try simp only [go_sem, Int.toNat_natCast, List.length_take, *]) <;> first | done | rfl | omega | (simp <;> omega), by (try simp only [go_sem, Int.toNat_natCast, List.length_take, *]) <;> first | done | rfl | omega | (simp <;> omega), by (try simp only [go_sem, Int.toNat_natCast, List.length_take, *]) <;> first | done | rfl | omega | (simp <;> omega), by (try simp only [go_sem, Int.toNat_natCast, List.length_take, *]) <;> first | done | rfl | omega | (simp <;> omega), by (try simp only [go_sem, Int.toNat_natCast, List.length_take, *]) <;> first | done | rfl | omega | (simp <;> omega), by (try simp only [go_sem, Int.toNat_natCast, List.length_take, *]) <;> first | done | rfl | omega | (simp <;> omega), by (try simp only [go_sem, Int.toNat_natCast, List.length_take, *]) <;> first | done | rfl | omega | (simp <;> omega), by (try simp only [go_sem, Int.toNat_natCast, List.length_take, *]) <;> first | done | rfl | omega | (simp <;> omega), (hKt.2 _ (by omega) (by omega)).trans o8, (hKt.2 _ (by omega) (by omega)).trans o9, (hKt.2 _ (by omega) (by omega)).trans o10, (hKt.2 _ (by omega) (by omega)).trans o11, by show _ ≤ s1.next + 1 + 1; omega, ?_, hKs.trans hKt⟩
      rw [hq]
      (repeat' first | exact hW | refine WK.box ?_ _ | refine WK.put ?_ (by omega) (by omega) _ | refine WK.tok ?_)
    have hq := hnext _ (if_pos rfl)
    obtain ⟨g1, g2, z1, z2, z3, z4, z5, z6, z7, z8⟩ := hr.fq
    have ga := get_W hi.a.1 (l := s.regs) (by rw [ho.1]; exact hi.a.2)
    have hset : (s.regs.map encW).set i.a.toNat (encW (numW ul uh)) = (setRg s i.a u).regs.map encW := by rw [hu]; exact (List.map_set ..).symm
    simp only [encW, numW] at ga hset q1
    simp only [go_sem, h0, h1, h8, h9, h10, h11, h48, o8, o9, k1, k2, k5, k6, k7, k8, Nat.left_eq_add, Nat.add_eq_left, Nat.add_left_cancel_iff, Nat.succ_ne_zero, Nat.add_assoc, Nat.one_ne_zero, Bool.not_false, Bool.not_true]
    refine W.br_ok (by kernel_rfl) ?_
    simp only [go_sem, h0, h1, h8, h9, h10, h11, h48, o8, o9, k1, k2, k5, k6, k7, k8, q1, ia, ga, hset, Nat.left_eq_add, Nat.add_eq_left, Nat.add_left_cancel_iff, Nat.succ_ne_zero, Nat.add_assoc, Nat.one_ne_zero, Bool.not_false, Bool.not_true]
    by_cases h6 : i.op = 6
    · have h6' := eq_true h6
      have hb10 := hi.reg h6
      have ib := fun k id q => ix_regI (k := k) id q hi.b.1 hb10
      have gb := get_W hi.b.1 (l := (setRg s i.a u).regs) (by rw [(setRg_ok ho i.a u).1]; exact hb10)
      have hset2 : ((setRg s i.a u).regs.map encW).set i.b.toNat (encW (numW vl vh)) = (setRg (setRg s i.a u) i.b v).regs.map encW := by rw [hv]; exact (List.map_set ..).symm
      have hT : jumpT s i u v = setRg (setRg s i.a u) i.b v := if_pos h6
      rw [hT] at hq
      simp only [encW, numW] at gb hset2
      simp only [go_sem, h6', h0, h1, h8, h9, h10, h11, h48, o8, o9, k1, k2, k5, k6, k7, k8, Nat.left_eq_add, Nat.add_eq_left, Nat.add_left_cancel_iff, Nat.succ_ne_zero, Nat.add_assoc, Nat.one_ne_zero, Bool.not_false, Bool.not_true]
      refine W.br_ok (by kernel_rfl) ?_
      simp only [go_sem, h0, h1, h8, h9, h10, h11, h48, o8, o9, k1, k2, k5, k6, k7, k8, q1, ib, gb, hset2, w1, w2, w3, w4, w5, frz_W, view_W, z1, z7, Nat.left_eq_add, Nat.add_eq_left, Nat.add_left_cancel_iff, Nat.succ_ne_zero, Nat.add_assoc, Nat.one_ne_zero, Bool.not_false, Bool.not_true]
      refine W.call (leave_c (K := K) (bp := bp) (p := p) (L := L1) (m := m) _ (by (repeat' first | exact hW | refine WK.box ?_ _ | refine WK.put ?_ (by omega) (by omega) _ | refine WK.tok ?_)) (pc + 1 + jm) (setRg (setRg s i.a u) i.b v) g1 z2 z3 (by omega)) ?_
      rintro v9 s9 ⟨hW9, hK9⟩
      simp only at hW9 hK9
      have hK7 : Keeps s1 s9 m := Keeps.trans (by (repeat' first | exact Keeps.refl _ _ | refine Keeps.new ?_ _ | refine Keeps.other ?_ _ (by omega) | refine Keeps.tok ?_ _)) hK9
      simp only [go_sem, h48, hwrap, Nat.left_eq_add, Nat.add_eq_left, Nat.add_left_cancel_iff, Nat.succ_ne_zero, Nat.add_assoc, Nat.one_ne_zero, Bool.not_false, Bool.not_true]
      refine hK _ _ ?_
      refine ⟨by (try simp only [go_sem, Int.toNat_natCast, List.length_take, *]) <;> first | done | rfl | omega | (simp <;> omega), by (try simp only [go_sem, Int.toNat_natCast, List.length_take, *]) <;> first | done | rfl | omega | (simp <;> omega), by (try simp only [go_sem, Int.toNat_natCast, List.length_take, *]) <;> first | done | rfl | omega | (simp <;> omega), by (try simp only [go_sem, Int.toNat_natCast, List.length_take, *]) <;> first | done | rfl | omega | (simp <;> omega), by (try simp only [go_sem, Int.toNat_natCast, List.length_take, *]) <;> first | done | rfl | omega | (simp <;> omega), by (try simp only [go_sem, Int.toNat_natCast, List.length_take, *]) <;> first | done | rfl | omega | (simp <;> omega), by (try simp only [go_sem, Int.toNat_natCast, List.length_take, *]) <;> first | done | rfl | omega | (simp <;> omega), by (try simp only [go_sem, Int.toNat_natCast, List.length_take, *]) <;> first | done | rfl | omega | (simp <;> omega), (hK7.2 _ (by omega) (by omega)).trans o8, (hK7.2 _ (by omega) (by omega)).trans o9, (hK7.2 _ (by omega) (by omega)).trans o10, (hK7.2 _ (by omega) (by omega)).trans o11, by have := hK7.1; omega, ?_, hKs.trans hK7⟩
      rw [hq]
      exact hW9
    · have h6' := eq_false h6
      have hT : jumpT s i u v = setRg s i.a u := if_neg h6
      rw [hT] at hq
      simp only [go_sem, h6', h0, h1, h8, h9, h10, h11, h48, o8, o9, k1, k2, k5, k6, k7, k8, w1, w2, w3, w4, w5, frz_W, view_W, z1, z7, Nat.left_eq_add, Nat.add_eq_left, Nat.add_left_cancel_iff, Nat.succ_ne_zero, Nat.add_assoc, Nat.one_ne_zero, Bool.not_false, Bool.not_true]
      refine W.call (leave_c (K := K) (bp := bp) (p := p) (L := L1) (m := m) _ (by (repeat' first | exact hW | refine WK.box ?_ _ | refine WK.put ?_ (by omega) (by omega) _ | refine WK.tok ?_)) (pc + 1 + jm) (setRg s i.a u) g1 z2 z3 (by omega)) ?_
      rintro v9 s9 ⟨hW9, hK9⟩
      simp only at hW9 hK9
      have hK7 : Keeps s1 s9 m := Keeps.trans (by (repeat' first | exact Keeps.refl _ _ | refine Keeps.new ?_ _ | refine Keeps.other ?_ _ (by omega) | refine Keeps.tok ?_ _)) hK9
      simp only [go_sem, h48, hwrap, Nat.left_eq_add, Nat.add_eq_left, Nat.add_left_cancel_iff, Nat.succ_ne_zero, Nat.add_assoc, Nat.one_ne_zero, Bool.not_false, Bool.not_true]
      refine hK _ _ ?_
      refine ⟨by (try simp only [go_sem, Int.toNat_natCast, List.length_take, *]) <;> first | done | rfl | omega | (simp <;> omega), by (try simp only [go_sem, Int.toNat_natCast, List.length_take, *]) <;> first | done | rfl | omega | (simp <;> omega), by (try simp only [go_sem, Int.toNat_natCast, List.length_take, *]) <;> first | done | rfl | omega | (simp <;> omega), by (try simp only [go_sem, Int.toNat_natCast, List.length_take, *]) <;> first | done | rfl | omega | (simp <;> omega), by (try simp only [go_sem, Int.toNat_natCast, List.length_take, *]) <;> first | done | rfl | omega | (simp <;> omega), by (try simp only [go_sem, Int.toNat_natCast, List.length_take, *]) <;> first | done | rfl | omega | (simp <;> omega), by (try simp only [go_sem, Int.toNat_natCast, List.length_take, *]) <;> first | done | rfl | omega | (simp <;> omega), by (try simp only [go_sem, Int.toNat_natCast, List.length_take, *]) <;> first | done | rfl | omega | (simp <;> omega), (hK7.2 _ (by omega) (by omega)).trans o8, (hK7.2 _ (by omega) (by omega)).trans o9, (hK7.2 _ (by omega) (by omega)).trans o10, (hK7.2 _ (by omega) (by omega)).trans o11, by have := hK7.1; omega, ?_, hKs.trans hK7⟩
      rw [hq]
      exact hW9
  · rintro ρ s' ⟨h0, h1, h8, h9, h10, h11, h47, h48, o8, o9, o10, o11, hnx, hW, hKs⟩ K' hx hr'
    have hlt := eq_false (show ¬ ((2 : Nat) : Int) < 2 by omega)
    simp only [go_sem, hx, h0, h1, h8, h9, h48, hlt]
    exact wp_some ⟨WK.trim hW hw hm, Keeps.trim hKs, rfl⟩
  · show 2 < 0 + 9223372036854775900
    omega
  · exact ⟨by (try simp only [go_sem, Int.toNat_natCast, List.length_take, *]) <;> first | done | rfl | omega | (simp <;> omega), by (try simp only [go_sem, Int.toNat_natCast, List.length_take, *]) <;> first | done | rfl | omega | (simp <;> omega), by (try simp only [go_sem, Int.toNat_natCast, List.length_take, *]) <;> first | done | rfl | omega | (simp <;> omega), by (try simp only [go_sem, Int.toNat_natCast, List.length_take, *]) <;> first | done | rfl | omega | (simp <;> omega), by (try simp only [go_sem, Int.toNat_natCast, List.length_take, *]) <;> first | done | rfl | omega | (simp <;> omega), by (try simp only [go_sem, Int.toNat_natCast, List.length_take, *]) <;> first | done | rfl | omega | (simp <;> omega), by (try simp only [go_sem, Int.toNat_natCast, List.length_take, *]) <;> first | done | rfl | omega | (simp <;> omega), by (try simp only [go_sem, Int.toNat_natCast, List.length_take, *]) <;> first | done | rfl | omega | (simp <;> omega), o8, o9, o10, o11, hnx, hW, hKs⟩
def jumpB (i : Ins) (b : Wht) : Wht := if i.op = 7 then numW i.b i.b else b
noncomputable def jumpS (d : Nat) (pc : Int) (s : Sta) (i : Ins) (a b : Wht) : List (Int × Sta) × Int :=
  if numB a = true ∧ numB (jumpB i b) = true then (jumpPre d pc s i a (jumpB i b) 2, 0) else ([], 7)
theorem jump_num (d : Nat) {K : Kx} {bp : Bool} {p : List Ins} {L : Int → List Sta} {σ : St} {w m : Nat} (hW : WK K bp p L σ w m) (pc : Int) (hpc : 0 ≤ pc ∧ pc < 1000) (s : Sta) (r : AV) (hr : RefA r s.refs) (ho : SOk s) (i : Ins) (a b : Wht)
    (hi : InsOk i) (hal : 0 ≤ a.lo) (hbl : 0 ≤ b.lo) (hl : ∀ k, (L k).length ≤ 10000) (h67 : i.op = 6 ∨ i.op = 7 ∧ a.kind = 1) :
    Sat (StepP K bp p L w m σ (jumpS d pc s i a b)) (evalF Try.prog CC (d + 7) 41 [.ptr 65 w [0], .int .i64 pc, encS s r, encI i, encW a, encW b] σ) := by
  obtain ⟨hw, hm, hwm⟩ := hW.lt
  have q1 := fun d lo hi => number_c d lo hi
  have q2 := fun d n => of_c d n
  have q3 := fun d v w => are_c d false [v, w] (by simp)
  have wb : IntKind.u64.wrap i.b = i.b := by rw [IntKind.wrap_u64]; have := hi.b; omega
  have hbl2 : 0 ≤ (jumpB i b).lo := by unfold jumpB; split; exact hi.b.1; exact hbl
  refine Sat.go ?_
  rw [run_41 _ _ _ (by simp), cut 4]
  generalize ht : tl 4 (Try.f41.body.getD .skip) = t
  have hfin : ∀ ρ s1, s1.obj σ.next = some (.cells 43 [encS s r]) → s1.obj (σ.next + 1) = some (.cells 28 [encI i]) → s1.obj (σ.next + 2) = some (.cells 38 [encW a]) → s1.obj (σ.next + 3) = some (.cells 38 [encW (jumpB i b)]) → σ.next + 4 ≤ s1.next → WK K bp p L s1 w m → Keeps σ s1 m →
      ρ 0 = .ptr 65 w [0] → ρ 1 = .int .i64 pc → ρ 8 = .ptr 43 σ.next [0] → ρ 9 = .ptr 28 (σ.next + 1) [0] → ρ 10 = .ptr 38 (σ.next + 2) [0] → ρ 11 = .ptr 38 (σ.next + 3) [0] → Wp (Sat (StepP K bp p L w m σ (jumpPre d pc s i a (jumpB i b) 2, 0))) (evalCode CC (evalF Try.prog CC (d + 6)) 41 t ρ s1 (retK CC 41 Try.f41 σ)) := by
    intro ρ s1 e0 e1 e2 e3 e4 e5 e6 h0 h1 h8 h9 h10 h11
    subst ht
    exact jump_tail d e5 e6 hw hm hwm pc hpc s r hr ho i a (jumpB i b) hi hal hbl2 hl ρ h0 h1 h8 h9 h10 h11 e0 e1 e2 e3 e4
  have hne : i.op ≠ 7 ∨ a.kind = 1 := h67.elim (fun h => .inl (by omega)) (fun h => .inr h.2)
  unfold Try.f41
  simp only [Option.getD_some, spl]
  unfold jumpS
  simp only [encS, encI, encW] at hfin
  simp only [List.map_cons, List.map_nil, encW] at q3
  simp only [encW, numW] at q1
  simp only [go_sem, Nat.left_eq_add, Nat.add_eq_left, Nat.add_left_cancel_iff, Nat.succ_ne_zero, Nat.add_assoc, Nat.one_ne_zero, Bool.not_false, Bool.not_true]
  by_cases h7 : i.op = 7
  · have h7' := eq_true h7
    have hk := eq_true (h67.resolve_left (by omega)).2
    have hB : jumpB i b = numW i.b i.b := if_pos h7
    have q3 := fun d => q3 d a (numW i.b i.b)
    rw [hB] at hfin ⊢
    simp only [numW] at hfin
    obtain ⟨bb, hbb⟩ : ∃ bb, [a, numW i.b i.b].all numB = bb := ⟨_, rfl⟩
    have hbb2 : (numB a = true ∧ numB (numW i.b i.b) = true) ↔ bb = true := by rw [← hbb]; simp
    simp only [numW] at q3
    simp only [numW] at hbb
    rw [hbb] at q3
    simp only [go_sem, h7', hk, q1, q2, wb, q3, Nat.left_eq_add, Nat.add_eq_left, Nat.add_left_cancel_iff, Nat.succ_ne_zero, Nat.add_assoc, Nat.one_ne_zero, Bool.not_false, Bool.not_true]
    cases bb
    · rw [if_neg (fun h => by have := hbb2.1 h; cases this)]
      simp only [go_sem, Nat.left_eq_add, Nat.add_eq_left, Nat.add_left_cancel_iff, Nat.succ_ne_zero, Nat.add_assoc, Nat.one_ne_zero, Bool.not_false, Bool.not_true]
      exact wp_some ⟨WK.trim (by (repeat' first | exact hW | refine WK.box ?_ _ | refine WK.put ?_ (by omega) (by omega) _ | refine WK.tok ?_)) hw hm, Keeps.trim (by (repeat' first | exact Keeps.refl _ _ | refine Keeps.new ?_ _ | refine Keeps.other ?_ _ (by omega) | refine Keeps.tok ?_ _)), rfl⟩
    · rw [if_pos (hbb2.2 rfl)]
      simp only [go_sem, Nat.left_eq_add, Nat.add_eq_left, Nat.add_left_cancel_iff, Nat.succ_ne_zero, Nat.add_assoc, Nat.one_ne_zero, Bool.not_false, Bool.not_true]
      refine hfin _ _ ?_ ?_ ?_ ?_ ?_ ?_ ?_ ?_ ?_ ?_ ?_ ?_ ?_
      · simp only [go_sem, Nat.left_eq_add, Nat.add_eq_left, Nat.add_left_cancel_iff, Nat.succ_ne_zero, Nat.add_assoc, Nat.one_ne_zero, Bool.not_false, Bool.not_true]
      · simp only [go_sem, Nat.left_eq_add, Nat.add_eq_left, Nat.add_left_cancel_iff, Nat.succ_ne_zero, Nat.add_assoc, Nat.one_ne_zero, Bool.not_false, Bool.not_true]
      · simp only [go_sem, Nat.left_eq_add, Nat.add_eq_left, Nat.add_left_cancel_iff, Nat.succ_ne_zero, Nat.add_assoc, Nat.one_ne_zero, Bool.not_false, Bool.not_true]
      · simp only [go_sem, Nat.left_eq_add, Nat.add_eq_left, Nat.add_left_cancel_iff, Nat.succ_ne_zero, Nat.add_assoc, Nat.one_ne_zero, Bool.not_false, Bool.not_true]
      · show σ.next + 4 ≤ σ.next + 4; omega
      · (repeat' first | exact hW | refine WK.box ?_ _ | refine WK.put ?_ (by omega) (by omega) _ | refine WK.tok ?_)
      · (repeat' first | exact Keeps.refl _ _ | refine Keeps.new ?_ _ | refine Keeps.other ?_ _ (by omega) | refine Keeps.tok ?_ _)
      all_goals simp only [go_sem, *]
  · have h7' := eq_false h7
    have hB : jumpB i b = b := if_neg h7
    have q3 := fun d => q3 d a b
    rw [hB] at hfin ⊢
    obtain ⟨bb, hbb⟩ : ∃ bb, [a, b].all numB = bb := ⟨_, rfl⟩
    have hbb2 : (numB a = true ∧ numB (b) = true) ↔ bb = true := by rw [← hbb]; simp
    rw [hbb] at q3
    simp only [go_sem, h7', q3, Nat.left_eq_add, Nat.add_eq_left, Nat.add_left_cancel_iff, Nat.succ_ne_zero, Nat.add_assoc, Nat.one_ne_zero, Bool.not_false, Bool.not_true]
    cases bb
    · rw [if_neg (fun h => by have := hbb2.1 h; cases this)]
      simp only [go_sem, Nat.left_eq_add, Nat.add_eq_left, Nat.add_left_cancel_iff, Nat.succ_ne_zero, Nat.add_assoc, Nat.one_ne_zero, Bool.not_false, Bool.not_true]
      exact wp_some ⟨WK.trim (by (repeat' first | exact hW | refine WK.box ?_ _ | refine WK.put ?_ (by omega) (by omega) _ | refine WK.tok ?_)) hw hm, Keeps.trim (by (repeat' first | exact Keeps.refl _ _ | refine Keeps.new ?_ _ | refine Keeps.other ?_ _ (by omega) | refine Keeps.tok ?_ _)), rfl⟩
    · rw [if_pos (hbb2.2 rfl)]
      simp only [go_sem, Nat.left_eq_add, Nat.add_eq_left, Nat.add_left_cancel_iff, Nat.succ_ne_zero, Nat.add_assoc, Nat.one_ne_zero, Bool.not_false, Bool.not_true]
      refine hfin _ _ ?_ ?_ ?_ ?_ ?_ ?_ ?_ ?_ ?_ ?_ ?_ ?_ ?_
      · simp only [go_sem, Nat.left_eq_add, Nat.add_eq_left, Nat.add_left_cancel_iff, Nat.succ_ne_zero, Nat.add_assoc, Nat.one_ne_zero, Bool.not_false, Bool.not_true]
      · simp only [go_sem, Nat.left_eq_add, Nat.add_eq_left, Nat.add_left_cancel_iff, Nat.succ_ne_zero, Nat.add_assoc, Nat.one_ne_zero, Bool.not_false, Bool.not_true]
      · simp only [go_sem, Nat.left_eq_add, Nat.add_eq_left, Nat.add_left_cancel_iff, Nat.succ_ne_zero, Nat.add_assoc, Nat.one_ne_zero, Bool.not_false, Bool.not_true]
      · simp only [go_sem, Nat.left_eq_add, Nat.add_eq_left, Nat.add_left_cancel_iff, Nat.succ_ne_zero, Nat.add_assoc, Nat.one_ne_zero, Bool.not_false, Bool.not_true]
      · show σ.next + 4 ≤ σ.next + 4; omega
      · (repeat' first | exact hW | refine WK.box ?_ _ | refine WK.put ?_ (by omega) (by omega) _ | refine WK.tok ?_)
      · (repeat' first | exact Keeps.refl _ _ | refine Keeps.new ?_ _ | refine Keeps.other ?_ _ (by omega) | refine Keeps.tok ?_ _)
      all_goals simp only [go_sem, *]
end Go.Proofs.Yticlihmbikcohaa.Va

/- chapter 19: spans stay numbers -/
namespace Go.Proofs.Yticlihmbikcohaa.Va
open Go
set_option linter.unusedVariables false
set_option linter.unusedSimpArgs false
set_option maxRecDepth 100000
set_option maxHeartbeats 4000000
def NN (s : Sta) : Prop := (∀ w ∈ s.regs, 0 ≤ w.lo) ∧ ∀ w ∈ s.slots, 0 ≤ w.lo
theorem NN.reg {s : Sta} (h : NN s) (i : Int) {x : Wht} (hx : 0 ≤ x.lo) : NN (setRg s i x) := ⟨fun w hw => by
  rcases List.mem_or_eq_of_mem_set hw with hw | rfl
  · exact h.1 w hw
  · exact hx, h.2⟩
theorem NN.slot {s : Sta} (h : NN s) (i : Int) {x : Wht} (hx : 0 ≤ x.lo) : NN (setSl s i x) := ⟨h.1, fun w hw => by
  rcases List.mem_or_eq_of_mem_set hw with hw | rfl
  · exact h.2 w hw
  · exact hx⟩
theorem nn_at {l : List Wht} (h : ∀ w ∈ l, 0 ≤ w.lo) (i : Int) : 0 ≤ (at0 l i).lo := by
  unfold at0
  cases hg : l[i.toNat]? with
  | none => exact Int.le_refl 0
  | some w => exact h w (List.mem_of_getElem? hg)
theorem becW_lo {a to x : Wht} {b : Bool} (ht : 0 ≤ to.lo) (hx : 0 ≤ x.lo) : 0 ≤ (becW a to b x).lo := by
  unfold becW
  split
  · cases b <;> assumption
  · exact hx
theorem split_lo {a : Wht} (b : Bool) (h : 0 ≤ a.lo) : 0 ≤ (splitS a b).1.lo := by
  unfold splitS
  repeat' split
  all_goals first | exact Int.le_refl 0 | exact h
theorem nullT_nn {s : Sta} (h : NN s) (ia : Int) {a to : Wht} (b : Bool) (ht : 0 ≤ to.lo) : NN (nullT s ia a to b) := by
  refine ⟨fun w hw => ?_, fun w hw => ?_⟩
  · rcases List.mem_or_eq_of_mem_set hw with hw | rfl
    · obtain ⟨x, hx, rfl⟩ := List.mem_map.1 hw
      exact becW_lo ht (h.1 x hx)
    · exact ht
  · obtain ⟨x, hx, rfl⟩ := List.mem_map.1 hw
    exact becW_lo ht (h.2 x hx)
theorem null_nn {s : Sta} (h : NN s) (pc : Int) (i : Ins) (a : Wht) (ha : 0 ≤ a.lo) : ∀ q ∈ (nullS pc s i a).1, NN q.2 := by
  have one : ∀ k b, ∀ q ∈ nullOne pc s i a k b, NN q.2 := by
    intro k b q hq
    unfold nullOne at hq
    simp only at hq
    split at hq
    · obtain rfl := List.mem_singleton.1 hq
      exact nullT_nn h _ _ (split_lo _ ha)
    · cases hq
  unfold nullS
  intro q hq
  split at hq
  · cases hq
  split at hq
  · cases hq
  split at hq
  · cases hq
  rcases List.mem_append.1 (show q ∈ nullOne pc s i a 0 false ++ nullOne pc s i a 1 true from hq) with hq | hq
  · exact one _ _ q hq
  · exact one _ _ q hq
theorem move_nn {s : Sta} (h : NN s) (pc : Int) (i : Ins) (a b : Wht) (ha : 0 ≤ a.lo) (hb : 0 ≤ b.lo) : ∀ q ∈ (moveS pc s i a b).1, NN q.2 := by
  have one : ∀ t, NN t → ∀ q ∈ [(pc + 1, t)], NN q.2 := fun t ht q hq => by obtain rfl := List.mem_singleton.1 hq; exact ht
  have hs := nn_at h.2 i.c
  unfold moveS
  repeat' split
  all_goals first
    | exact one _ (h.reg _ hb)
    | exact one _ (h.slot _ ha)
    | exact one _ (h.reg _ hs)
    | (intro q hq; cases hq)
/-- a helper's call -/
structure NC (c : Cal) : Prop where
  st : NN c.st
  x : 0 ≤ c.x.lo
  y : 0 ≤ c.y.lo
  tells : 0 ≤ c.tells.lo
theorem NC.want {c : Cal} (h : NC c) (b : Bool) (e : Int) : NC (wantS c b e) := ⟨by rw [wst]; exact h.st, by rw [wx]; exact h.x, by rw [wy]; exact h.y, by rw [wtells]; exact h.tells⟩
theorem fgW_lo {k i : Int} {w : Wht} (h : 0 ≤ w.lo) : 0 ≤ (fgW k i w).lo := by unfold fgW; split; exact Int.le_refl 0; exact h
theorem NN.fg {s : Sta} (h : NN s) (k i : Int) : NN (fgS s k i) := ⟨fun w hw => by obtain ⟨x, hx, rfl⟩ := List.mem_map.1 hw; exact fgW_lo (h.1 x hx), fun w hw => by obtain ⟨x, hx, rfl⟩ := List.mem_map.1 hw; exact fgW_lo (h.2 x hx)⟩
theorem NC.lock {K : Kx} {c : Cal} (h : NC c) (k : Int) : NC (lockS K c k) := (h.want _ _).want _ _
theorem NC.thn {c : Cal} {f : Cal → Cal} (h : NC c) (hf : ∀ c, NC c → NC (f c)) : NC (thenS c f) := by unfold thenS; split; exact hf c h; exact h
theorem NC.fresh {c : Cal} (h : NC c) (k t : Int) (m : Bool) : NC (freshS c k t m) := ⟨h.st, h.x, h.y, Int.le_refl 0⟩
theorem NC.own {c : Cal} (h : NC c) (t : Int) (m : Bool) : NC (ownS c t m) := ⟨h.st, h.x, h.y, Int.le_refl 0⟩
theorem NC.spend {c : Cal} (h : NC c) (w : Wht) : NC (spendS c w) := ⟨(show NN { c.st with refs := no w.id c.st.refs } from h.st).fg _ _, h.x, h.y, h.tells⟩
theorem NC.loosen {c : Cal} (h : NC c) : NC (loosenS c) := ⟨h.st.fg _ _, h.x, h.y, h.tells⟩
theorem NC.bit {c : Cal} (h : NC c) : NC (bitS c) := ⟨h.st, h.x, h.y, Int.le_refl 0⟩
theorem NC.into {K : Kx} {c : Cal} (h : NC c) (k : Int) : NC (intoS K c k) := (((h.lock k).want _ _).want _ _).thn fun c hc => (hc.spend _).bit
theorem NC.loose {c : Cal} (h : NC c) (f : Fld) : NC (looseS c f) := ⟨h.st, h.x, h.y, Int.le_refl 0⟩
theorem NC.setL {c : Cal} (h : NC c) (x : Int) : NC (setL c x) := ⟨h.st, h.x, h.y, h.tells⟩
theorem NC.setX {c : Cal} (h : NC c) (x : Bool) : NC (setX c x) := ⟨h.st, h.x, h.y, h.tells⟩
theorem NC.fgC {c : Cal} (h : NC c) (k i : Int) : NC (fgC c k i) := ⟨h.st.fg _ _, h.x, h.y, h.tells⟩
theorem NC.mb {c : Cal} (h : NC c) : NC (mbC c) := ⟨h.st, h.x, h.y, h.x⟩
theorem NC.seen {K : Kx} {c : Cal} (h : NC c) : NC (seenC K c) := ⟨h.st, h.x, h.y, Int.le_refl 0⟩
theorem done_nn (K : Kx) {s : Sta} (h : NN s) (what n : Int) : NC (doneS K s what n) := by
  have hb : NC (begC s n) := ⟨h, nn_at h.1 1, nn_at h.1 2, Int.le_refl 0⟩
  unfold doneS
  generalize begC s n = c at hb ⊢
  split
  · unfold objectS
    repeat' split
    all_goals first
      | exact (hb.want _ _).thn fun c hc => hc.own _ _
      | exact (hb.want _ _).thn fun c hc => hc.spend _
      | exact ((hb.want _ _).want _ _).thn fun c hc => hc.own _ _
  split
  · unfold tableS
    simp only
    repeat' split
    all_goals first
      | exact (((hb.want _ _).want _ _).want _ _).thn fun c hc => hc.fresh _ _ _
      | exact ((hb.want _ _).want _ _).bit
      | exact hb.want _ _
  split
  · unfold regionS
    repeat' split
    all_goals first
      | exact (((hb.want _ _).want _ _).want _ _).setL _
      | exact ((hb.want _ _).setL _).loosen
      | exact (hb.want _ _).setX _
      | exact (((hb.want _ _).setX _).fgC _ _).fgC _ _
  split
  · unfold listS
    repeat' split
    all_goals first
      | exact hb.into _
      | exact (hb.lock _).loose _
      | exact ((hb.lock _).loosen).own _ _
  split
  · unfold treeS
    repeat' split
    all_goals first
      | exact hb.into _
      | exact (hb.lock _).loose _
      | exact ((hb.lock _).want _ _).thn fun c hc => hc.loosen.own _ _
      | exact (((hb.want _ _).want _ _).want _ _).mb
  split
  · unfold pointerS
    split
    · exact (((hb.want _ _).want _ _).want _ _).seen
    · refine ((((hb.want _ _).want _ _).want _ _).want _ _).thn fun c hc => ?_
      split
      · exact (hc.spend _).own _ _
      · exact hc.own _ _
  · exact ⟨hb.st, hb.x, hb.y, hb.tells⟩
theorem call_nn (K : Kx) {s : Sta} (h : NN s) (what n : Int) : NN (callS K s what n).1 := by
  unfold callS
  split
  · have hd := done_nn K h what n
    refine ⟨fun w hw => ?_, hd.st.2⟩
    rcases List.mem_cons.1 hw with rfl | hw
    · exact hd.tells
    · rcases List.mem_append.1 hw with hw | hw
      · rw [List.eq_of_mem_replicate hw]; exact Int.le_refl 0
      · exact hd.st.1 w (List.mem_of_mem_drop hw)
  · exact ⟨fun w hw => by rw [List.eq_of_mem_replicate hw]; exact Int.le_refl 0, fun w hw => by rw [List.eq_of_mem_replicate hw]; exact Int.le_refl 0⟩
theorem joinS_lo {v w : Wht} (hv : 0 ≤ v.lo) (hw : 0 ≤ w.lo) : 0 ≤ (joinS v w).lo := by
  unfold joinS
  repeat' split
  all_goals first
    | exact hv
    | exact hw
    | exact Int.le_refl 0
    | (show 0 ≤ (joinP v.lo v.hi w.lo w.hi).1
       unfold joinP
       split
       · show 0 ≤ min v.lo w.lo; omega
       · exact Int.le_refl 0)
theorem zip_lo : ∀ {a b : List Wht}, (∀ w ∈ a, 0 ≤ w.lo) → (∀ w ∈ b, 0 ≤ w.lo) → ∀ w ∈ List.zipWith joinS a b, 0 ≤ w.lo
  | [], _, _, _, w, hw => by simp at hw
  | _ :: _, [], _, _, w, hw => by simp at hw
  | x :: a, y :: b, ha, hb, w, hw => by
    rw [List.zipWith_cons_cons, List.mem_cons] at hw
    rcases hw with rfl | hw
    · exact joinS_lo (ha x (by simp)) (hb y (by simp))
    · exact zip_lo (fun w h => ha w (by simp [h])) (fun w h => hb w (by simp [h])) w hw
theorem merge_nn {s t : Sta} (h1 : NN s) (h2 : NN t) : NN (mergeS s t).1 := by
  unfold mergeS
  repeat' split
  · exact ⟨zip_lo h1.1 h2.1, zip_lo h1.2 h2.2⟩
  all_goals exact ⟨fun w hw => by rw [List.eq_of_mem_replicate hw]; exact Int.le_refl 0, fun w hw => by rw [List.eq_of_mem_replicate hw]; exact Int.le_refl 0⟩
theorem mrg_nn : ∀ (ts : List Sta) (s : Sta), NN s → (∀ t ∈ ts, NN t) → (mrg s ts).2 = 0 → NN (mrg s ts).1
  | [], s, h, _, _ => h
  | t :: ts, s, h, ht, he => by
    unfold mrg at he ⊢
    by_cases e : (mergeS s t).2 = 0
    · rw [if_pos e] at he ⊢
      exact mrg_nn ts _ (merge_nn h (ht t (by simp))) (fun u hu => ht u (by simp [hu])) he
    · rw [if_neg e] at he
      exact absurd he e
theorem ahead_nn {l : List Sta} (h : ∀ s ∈ l, NN s) (h0 : (aheadS l).2.2 = 0) (h1 : (aheadS l).2.1 = true) : NN (aheadS l).1 := by
  cases l with
  | nil => cases h1
  | cons s ts => exact mrg_nn ts s (h s (by simp)) (fun t ht => h t (by simp [ht])) h0
end Go.Proofs.Yticlihmbikcohaa.Va

/- chapter 19: access to fields -/
namespace Go.Proofs.Yticlihmbikcohaa.Va
open Go
set_option linter.unusedVariables false
set_option linter.unusedSimpArgs false
set_option maxRecDepth 100000
set_option maxHeartbeats 4000000
theorem wfieldL_c (d : Nat) {σ : St} {w : Nat} {b : Bool} {l : List Typ} {M Q L : AV} (hw : w < σ.next) (ho : σ.obj w = some (.cells 65 [.agg 65 [encTs b l, M, Q, L]])) (t i : Int) (hl : l.length ≤ 9223372036854775807) :
    Sat (fun p => Keeps σ p.2 σ.next ∧ Lv σ p.2 ∧ p.1 = encF (fldAt l t i)) (evalF Try.prog CC (d + 1) 56 [.ptr 65 w [0], .int .i64 t, .int .i64 i] σ) := by
  have n0 := eq_false (show ¬ w = σ.next by omega)
  refine Sat.go ?_
  rw [run_56 _ _ _ (by simp)]; unfold Try.f56; simp only [Option.getD_some]
  unfold fldAt
  by_cases h1 : t < 0
  · have h1' := eq_true h1
    rw [if_pos h1]
    simp only [go_sem, h1', ho, n0]
    exact wp_some ⟨keeps_box, ⟨Nat.le_refl _, fun _ _ h => h⟩, rfl⟩
  have h1' := eq_false h1
  rw [if_neg h1]
  by_cases h2 : t ≥ (l.length : Int)
  · have h2' := eq_true h2
    rw [if_pos h2]
    simp only [encTs] at ho
    simp only [go_sem, h1', h2', ho, n0]
    exact wp_some ⟨keeps_box, ⟨Nat.le_refl _, fun _ _ h => h⟩, rfl⟩
  have h2' := eq_false h2
  rw [if_neg h2]
  by_cases h3 : i < 0
  · have h3' := eq_true h3
    rw [if_pos h3]
    simp only [encTs] at ho
    simp only [go_sem, h1', h2', h3', ho, n0]
    exact wp_some ⟨keeps_box, ⟨Nat.le_refl _, fun _ _ h => h⟩, rfl⟩
  have h3' := eq_false h3
  rw [if_neg h3]
  simp only [encTs] at ho
  simp only [go_sem, h1', h2', h3', ho, n0]
  refine W.idx_at (by omega) (by omega) ?_
  simp only [go_sem, h1', h2', h3', ho, n0]
  by_cases h4 : i ≥ ((at0 l t).fields.length : Int)
  · have h4' := eq_true h4
    simp only [go_sem, h4', ho, n0]
    exact wp_some ⟨keeps_box, ⟨Nat.le_refl _, fun _ _ h => h⟩, rfl⟩
  have h4' := eq_false h4
  simp only [go_sem, h4', ho, n0]
  refine W.idx_at (by omega) (by omega) ?_
  simp only [go_sem, h4', ho, n0]
  refine W.idx_at (by omega) (by omega) ?_
  simp only [go_sem, h4', ho, n0]
  exact wp_some ⟨keeps_box, ⟨Nat.le_refl _, fun _ _ h => h⟩, rfl⟩
def accS (l : List Typ) (i : Ins) (s : Sta) (b : Wht) (ks : List Int) : Int :=
  let f := fldAt l b.type i.c
  let g := fldAt l (IntKind.i64.wrap (b.link.tdiv 16)) (b.link.tmod 16)
  let put := decide (i.op = 12 ∨ i.op = 13)
  if (!b.maybe && ks.contains b.kind) = false then 8
  else if f.kind ≠ 1 then 7
  else if put = true ∧ b.kind = 4 ∧ g.kind = 6 ∧ g.key = i.c then 9
  else if put = true ∧ numB (at0 s.regs i.a) = false then 7
  else if i.op = 11 ∨ i.op = 13 then (if numB (at0 s.regs i.imm) = false then 7 else if (at0 s.regs i.imm).hi ≥ IntKind.u64.wrap f.len then 4 else 0)
  else if i.imm ≥ IntKind.u64.wrap f.len then 4 else 0
theorem wfW_c (d : Nat) {K : Kx} {bp : Bool} {p : List Ins} {L : Int → List Sta} {τ : St} {w m : Nat} (hW : WK K bp p L τ w m) (t i : Int) (hl : K.l.length ≤ 9223372036854775807) :
    Sat (fun q => WK K bp p L q.2 w m ∧ (τ.next ≤ q.2.next ∧ ∀ j, j < τ.next → q.2.obj j = τ.obj j) ∧ q.1 = encF (fldAt K.l t i)) (evalF Try.prog CC (d + 1) 56 [.ptr 65 w [0], .int .i64 t, .int .i64 i] τ) := by
  obtain ⟨⟨v, s⟩, he, h1, h2, h3⟩ := wfieldL_c d (l := K.l) (b := K.bl) hW.lt.1 hW.ow t i hl
  have ho : ∀ j, j < τ.next → s.obj j = τ.obj j := fun j hj => h1.2 j hj (by omega)
  exact ⟨(v, s), he, hW.same h1.1 ho h2, ⟨h1.1, ho⟩, h3⟩
theorem access_c (d : Nat) {K : Kx} {bp : Bool} {p : List Ins} {L : Int → List Sta} {σ : St} {w m : Nat} (hW : WK K bp p L σ w m) (s : Sta) (r : AV) (hr : RefA r s.refs) (ho : SOk s) (i : Ins) (hi : InsOk i) (b : Wht) (ks : List Int) (hk : ks.length ≤ 100) (hl : K.l.length ≤ 9223372036854775807) :
    Sat (fun q => WK K bp p L q.2 w m ∧ Keeps σ q.2 m ∧ q.1 = .int .i64 (accS K.l i s b ks)) (evalF Try.prog CC (d + 6) 42 [.ptr 65 w [0], encS s r, encI i, encW b, .list 3 false (intsA ks) (some 0)] σ) := by
  obtain ⟨hw, hm, hwm⟩ := hW.lt
  have ow := hW.ow
  have wc : IntKind.i64.wrap i.c = i.c := by rw [IntKind.wrap_i64]; have := hi.c; omega
  refine Sat.go ?_
  rw [run_42 _ _ _ (by simp)]; unfold Try.f42; simp only [Option.getD_some]
  simp only [go_sem, wc, Nat.left_eq_add, Nat.add_eq_left, Nat.add_left_cancel_iff, Nat.succ_ne_zero, Nat.add_assoc, Nat.one_ne_zero, Bool.not_false, Bool.not_true]
  refine W.call (wfW_c (K := K) (bp := bp) (p := p) (L := L) (m := m) _ (by (repeat' first | exact hW | refine WK.box ?_ _ | refine WK.put ?_ (by omega) (by omega) _ | refine WK.tok ?_)) b.type i.c hl) ?_
  rintro v s1 ⟨hW1, ⟨hn1, ho1⟩, rfl⟩
  simp only at hW1 hn1 ho1
  have hn1 : σ.next + 3 ≤ s1.next := hn1
  have a1 : s1.obj σ.next = some (.cells 43 [encS s r]) := (ho1 σ.next (by show σ.next < σ.next + 1 + 1 + 1; omega)).trans ((if_neg (by show ¬ σ.next = σ.next + 1 + 1; omega)).trans ((if_neg (by show ¬ σ.next = σ.next + 1; omega)).trans (if_pos rfl)))
  have a2 : s1.obj (σ.next + 1) = some (.cells 28 [encI i]) := (ho1 (σ.next + 1) (by show σ.next + 1 < σ.next + 1 + 1 + 1; omega)).trans ((if_neg (by show ¬ σ.next + 1 = σ.next + 1 + 1; omega)).trans (if_pos rfl))
  have a3 : s1.obj (σ.next + 2) = some (.cells 38 [encW b]) := (ho1 (σ.next + 2) (by show σ.next + 2 < σ.next + 1 + 1 + 1; omega)).trans (if_pos rfl)
  have hK1 : Keeps σ s1 m := ⟨by omega, fun j hj _ => (ho1 j (by show j < σ.next + 1 + 1 + 1; omega)).trans ((if_neg (by show ¬ j = σ.next + 1 + 1; omega)).trans ((if_neg (by show ¬ j = σ.next + 1; omega)).trans (if_neg (by omega))))⟩
  clear ho1
  have e1 := eq_false (show ¬ σ.next = s1.next by omega)
  have e2 := eq_false (show ¬ σ.next + 1 = s1.next by omega)
  have e3 := eq_false (show ¬ σ.next + 2 = s1.next by omega)
  have hh := fun d => vhand_c d b false ks (by omega)
  have a1' := a1
  have a2' := a2
  have a3' := a3
  simp only [encS, encI, encW] at a1 a2 a3 hh
  obtain ⟨f, hf⟩ : ∃ f, fldAt K.l b.type i.c = f := ⟨_, rfl⟩
  obtain ⟨g, hg⟩ : ∃ g, fldAt K.l (IntKind.i64.wrap (b.link.tdiv 16)) (b.link.tmod 16) = g := ⟨_, rfl⟩
  rw [hf]
  obtain ⟨hb, hhb⟩ : ∃ q, (!b.maybe && ks.contains b.kind) = q := ⟨_, rfl⟩
  rw [hhb] at hh
  have fe : encF f = .agg 61 [.int .i64 f.kind, .int .i64 f.len, .int .i64 f.type, .int .i64 f.link, .int .i64 f.key] := rfl
  have ge : encF g = .agg 61 [.int .i64 g.kind, .int .i64 g.len, .int .i64 g.type, .int .i64 g.link, .int .i64 g.key] := rfl
  have fin : ∀ (e : Int) (τ : St), accS K.l i s b ks = e → WK K bp p L τ w m → Keeps σ τ m → Wp (Sat fun q => WK K bp p L q.2 w m ∧ Keeps σ q.2 m ∧ q.1 = AV.int .i64 (accS K.l i s b ks)) (some (AV.int .i64 e, τ.trim σ.next)) := by
    rintro e τ he h1 h2
    rw [he]
    exact wp_some ⟨WK.trim h1 hw hm, Keeps.trim h2, rfl⟩
  have lt1 := hW1.lt
  have kee : ∀ o o', Keeps σ ((s1.new o).set s1.next o') m := fun o o' => (hK1.new o).other o' (by omega)
  have wkk : ∀ o o', WK K bp p L ((s1.new o).set s1.next o') w m := fun o o' => (hW1.box o).put (by omega) (by omega) o'
  obtain ⟨op, hop, hpt⟩ : ∃ op : Bool, decide (i.op = 12 ∨ i.op = 13) = op ∧ ((i.op = 12) = True ∧ (i.op = 13) = False ∧ op = true ∨ (i.op = 12) = False ∧ (i.op = 13) = True ∧ op = true ∨ (i.op = 12) = False ∧ (i.op = 13) = False ∧ op = false) := by
    by_cases x12 : i.op = 12
    · exact ⟨true, by simp [x12], .inl ⟨eq_true x12, by simp [x12], rfl⟩⟩
    · by_cases x13 : i.op = 13
      · exact ⟨true, by simp [x13], .inr (.inl ⟨eq_false x12, eq_true x13, rfl⟩)⟩
      · exact ⟨false, by simp [x12, x13], .inr (.inr ⟨eq_false x12, eq_false x13, rfl⟩)⟩
  have aD : accS K.l i s b ks = if hb = false then 8 else if f.kind ≠ 1 then 7 else if op = true ∧ b.kind = 4 ∧ g.kind = 6 ∧ g.key = i.c then 9 else if op = true ∧ numB (at0 s.regs i.a) = false then 7 else if i.op = 11 ∨ i.op = 13 then (if numB (at0 s.regs i.imm) = false then 7 else if (at0 s.regs i.imm).hi ≥ IntKind.u64.wrap f.len then 4 else 0) else if i.imm ≥ IntKind.u64.wrap f.len then 4 else 0 := by
    unfold accS
    simp only [hf, hg, hop, hhb]
  cases hb
  case false =>
    rw [if_pos rfl] at aD
    rcases hpt with ⟨c12, c13, rfl⟩ | ⟨c12, c13, rfl⟩ | ⟨c12, c13, rfl⟩
    all_goals
      simp only [go_sem, fe, a1, a2, a3, e1, e2, e3, hh, c12, c13, Nat.left_eq_add, Nat.add_eq_left, Nat.add_left_cancel_iff, Nat.succ_ne_zero, Nat.add_assoc, Nat.one_ne_zero, Bool.not_false, Bool.not_true]
      exact fin 8 _ aD (wkk _ _) (kee _ _)
  rw [if_neg (by simp)] at aD
  by_cases f1 : f.kind = 1
  case neg =>
    have f1' := eq_false f1
    rw [if_pos f1] at aD
    rcases hpt with ⟨c12, c13, rfl⟩ | ⟨c12, c13, rfl⟩ | ⟨c12, c13, rfl⟩
    all_goals
      simp only [go_sem, fe, a1, a2, a3, e1, e2, e3, hh, c12, c13, f1', Nat.left_eq_add, Nat.add_eq_left, Nat.add_left_cancel_iff, Nat.succ_ne_zero, Nat.add_assoc, Nat.one_ne_zero, Bool.not_false, Bool.not_true]
      exact fin 7 _ aD (wkk _ _) (kee _ _)
  have f1' := eq_true f1
  rw [if_neg (fun h => h f1)] at aD
  rcases hpt with ⟨c12, c13, rfl⟩ | ⟨c12, c13, rfl⟩ | ⟨c12, c13, rfl⟩
  all_goals
    simp only [go_sem, fe, a1, a2, a3, e1, e2, e3, hh, c12, c13, f1', Nat.left_eq_add, Nat.add_eq_left, Nat.add_left_cancel_iff, Nat.succ_ne_zero, Nat.add_assoc, Nat.one_ne_zero, Bool.not_false, Bool.not_true]
    refine W.call (wfW_c (K := K) (bp := bp) (p := p) (L := L) (m := m) _ (wkk _ _) _ _ hl) ?_
    rintro v s2 ⟨hW2, ⟨hn2, ho2⟩, rfl⟩
    simp only at hW2 hn2 ho2
    rw [hg]
    have hn2 : s1.next + 1 ≤ s2.next := hn2
    have f2 : ∀ j, j < s1.next → s2.obj j = s1.obj j := fun j hj => (ho2 j (by show j < s1.next + 1; omega)).trans ((if_neg (by omega)).trans (if_neg (by omega)))
    have b1 := (f2 _ (by omega)).trans a1
    have b2 := (f2 _ (by omega)).trans a2
    have b3 := (f2 _ (by omega)).trans a3
    have b4 := (ho2 s1.next (Nat.lt_succ_self _)).trans (if_pos rfl)
    have d1 := eq_false (show ¬ σ.next = s2.next by omega)
    have d2 := eq_false (show ¬ σ.next + 1 = s2.next by omega)
    have d3 := eq_false (show ¬ σ.next + 2 = s2.next by omega)
    have d4 := eq_false (show ¬ s1.next = s2.next by omega)
    have d5 := eq_false (show ¬ s1.next = s2.next + 1 by omega)
    have d6 := eq_false (show ¬ σ.next = s2.next + 1 by omega)
    have d7 := eq_false (show ¬ σ.next + 1 = s2.next + 1 by omega)
    have d8 := eq_false (show ¬ σ.next + 2 = s2.next + 1 by omega)
    have wi : IntKind.u64.wrap i.imm = i.imm := by rw [IntKind.wrap_u64]; have := hi.imm; omega
    have hK2 : Keeps σ s2 m := ⟨by omega, fun j hj hn => (f2 j (by omega)).trans (hK1.2 j hj hn)⟩
    have lt2 := hW2.lt
  · -- 12
    have c11 := eq_false (show ¬ i.op = 11 by have := of_eq_true c12; omega)
    have aD1 : (true = true ∧ b.kind = 4 ∧ g.kind = 6 ∧ g.key = i.c) ↔ (b.kind = 4 ∧ g.kind = 6 ∧ g.key = i.c) := by simp
    by_cases h9 : b.kind = 4 ∧ g.kind = 6 ∧ g.key = i.c
    · rw [if_pos (aD1.2 h9)] at aD
      have x1 := eq_true h9.1
      have x2 := eq_true h9.2.1
      have x3 := eq_true h9.2.2
      simp only [go_sem, fe, ge, b1, b2, b3, b4, d1, d2, d3, d4, d5, d6, d7, d8, wc, wi, c11, c12, c13, x1, x2, x3, Nat.left_eq_add, Nat.add_eq_left, Nat.add_left_cancel_iff, Nat.succ_ne_zero, Nat.add_assoc, Nat.one_ne_zero, Bool.not_false, Bool.not_true]
      exact fin 9 _ aD (by (repeat' first | exact hW2 | refine WK.box ?_ _ | refine WK.put ?_ (by omega) (by omega) _)) (by (repeat' first | exact hK2 | refine Keeps.new ?_ _ | refine Keeps.other ?_ _ (by omega)))
    rw [if_neg (fun h => h9 (aD1.1 h))] at aD
    have ga := get_W hi.a.1 (l := s.regs) (by rw [ho.1]; exact hi.a.2)
    have ia := fun k id q => ix_regI (k := k) id q hi.a.1 hi.a.2
    generalize at0 s.regs i.a = ra at ga aD
    simp only [encW] at ga
    have hra := fun d => are_c d false [ra] (by simp)
    simp only [List.map_cons, List.map_nil, encW] at hra
    obtain ⟨rn, hrn⟩ : ∃ q, [ra].all numB = q := ⟨_, rfl⟩
    have hrn2 : numB ra = rn := by rw [← hrn]; simp
    rw [hrn] at hra
    rw [hrn2] at aD
    obtain ⟨y1, y2, y3, hy⟩ : ∃ y1 y2 y3 : Prop, ((b.kind = 4) = y1 ∧ (g.kind = 6) = y2 ∧ (g.key = i.c) = y3) ∧ (y1 = False ∨ y1 = True ∧ y2 = False ∨ y1 = True ∧ y2 = True ∧ y3 = False) := by
      by_cases z1 : b.kind = 4
      · by_cases z2 : g.kind = 6
        · exact ⟨_, _, _, ⟨eq_true z1, eq_true z2, eq_false (fun z3 => h9 ⟨z1, z2, z3⟩)⟩, .inr (.inr ⟨rfl, rfl, rfl⟩)⟩
        · exact ⟨_, _, _, ⟨eq_true z1, eq_false z2, rfl⟩, .inr (.inl ⟨rfl, rfl⟩)⟩
      · exact ⟨_, _, _, ⟨eq_false z1, rfl, rfl⟩, .inl rfl⟩
    obtain ⟨⟨u1, u2, u3⟩, hy⟩ := hy
    clear aD1 h9
    rcases hy with rfl | ⟨rfl, rfl⟩ | ⟨rfl, rfl, rfl⟩
    all_goals
      simp only [go_sem, fe, ge, b1, b2, b3, b4, d1, d2, d3, d4, d5, d6, d7, d8, wc, wi, c11, c12, c13, u1, u2, u3, ia, ga, hra, Nat.left_eq_add, Nat.add_eq_left, Nat.add_left_cancel_iff, Nat.succ_ne_zero, Nat.add_assoc, Nat.one_ne_zero, Bool.not_false, Bool.not_true]
      cases rn
      · rw [if_pos ⟨rfl, rfl⟩] at aD
        simp only [go_sem, fe, ge, b1, b2, b3, b4, d1, d2, d3, d4, d5, d6, d7, d8, wc, wi, c11, c12, c13, u1, u2, u3, ia, ga, hra, Nat.left_eq_add, Nat.add_eq_left, Nat.add_left_cancel_iff, Nat.succ_ne_zero, Nat.add_assoc, Nat.one_ne_zero, Bool.not_false, Bool.not_true]
        exact fin 7 _ aD (by (repeat' first | exact hW2 | refine WK.box ?_ _ | refine WK.put ?_ (by omega) (by omega) _)) (by (repeat' first | exact hK2 | refine Keeps.new ?_ _ | refine Keeps.other ?_ _ (by omega)))
      rw [if_neg (by simp)] at aD
      rw [if_neg (by have := of_eq_true c12; omega)] at aD
      simp only [go_sem, fe, ge, b1, b2, b3, b4, d1, d2, d3, d4, d5, d6, d7, d8, wc, wi, c11, c12, c13, u1, u2, u3, ia, ga, hra, Nat.left_eq_add, Nat.add_eq_left, Nat.add_left_cancel_iff, Nat.succ_ne_zero, Nat.add_assoc, Nat.one_ne_zero, Bool.not_false, Bool.not_true]
      by_cases hm : i.imm ≥ IntKind.u64.wrap f.len
      · have hm' := eq_true hm
        rw [if_pos hm] at aD
        simp only [go_sem, fe, ge, b1, b2, b3, b4, d1, d2, d3, d4, d5, d6, d7, d8, wc, wi, c11, c12, c13, u1, u2, u3, ia, ga, hra, hm', Nat.left_eq_add, Nat.add_eq_left, Nat.add_left_cancel_iff, Nat.succ_ne_zero, Nat.add_assoc, Nat.one_ne_zero, Bool.not_false, Bool.not_true]
        exact fin 4 _ aD (by (repeat' first | exact hW2 | refine WK.box ?_ _ | refine WK.put ?_ (by omega) (by omega) _)) (by (repeat' first | exact hK2 | refine Keeps.new ?_ _ | refine Keeps.other ?_ _ (by omega)))
      · have hm' := eq_false hm
        rw [if_neg hm] at aD
        simp only [go_sem, fe, ge, b1, b2, b3, b4, d1, d2, d3, d4, d5, d6, d7, d8, wc, wi, c11, c12, c13, u1, u2, u3, ia, ga, hra, hm', Nat.left_eq_add, Nat.add_eq_left, Nat.add_left_cancel_iff, Nat.succ_ne_zero, Nat.add_assoc, Nat.one_ne_zero, Bool.not_false, Bool.not_true]
        exact fin 0 _ aD (by (repeat' first | exact hW2 | refine WK.box ?_ _ | refine WK.put ?_ (by omega) (by omega) _)) (by (repeat' first | exact hK2 | refine Keeps.new ?_ _ | refine Keeps.other ?_ _ (by omega)))
  · -- 13
    have c11 := eq_false (show ¬ i.op = 11 by have := of_eq_true c13; omega)
    have aD1 : (true = true ∧ b.kind = 4 ∧ g.kind = 6 ∧ g.key = i.c) ↔ (b.kind = 4 ∧ g.kind = 6 ∧ g.key = i.c) := by simp
    by_cases h9 : b.kind = 4 ∧ g.kind = 6 ∧ g.key = i.c
    · rw [if_pos (aD1.2 h9)] at aD
      have x1 := eq_true h9.1
      have x2 := eq_true h9.2.1
      have x3 := eq_true h9.2.2
      simp only [go_sem, fe, ge, b1, b2, b3, b4, d1, d2, d3, d4, d5, d6, d7, d8, wc, wi, c11, c12, c13, x1, x2, x3, Nat.left_eq_add, Nat.add_eq_left, Nat.add_left_cancel_iff, Nat.succ_ne_zero, Nat.add_assoc, Nat.one_ne_zero, Bool.not_false, Bool.not_true]
      exact fin 9 _ aD (by (repeat' first | exact hW2 | refine WK.box ?_ _ | refine WK.put ?_ (by omega) (by omega) _)) (by (repeat' first | exact hK2 | refine Keeps.new ?_ _ | refine Keeps.other ?_ _ (by omega)))
    rw [if_neg (fun h => h9 (aD1.1 h))] at aD
    have ga := get_W hi.a.1 (l := s.regs) (by rw [ho.1]; exact hi.a.2)
    have ia := fun k id q => ix_regI (k := k) id q hi.a.1 hi.a.2
    generalize at0 s.regs i.a = ra at ga aD
    simp only [encW] at ga
    have hra := fun d => are_c d false [ra] (by simp)
    simp only [List.map_cons, List.map_nil, encW] at hra
    obtain ⟨rn, hrn⟩ : ∃ q, [ra].all numB = q := ⟨_, rfl⟩
    have hrn2 : numB ra = rn := by rw [← hrn]; simp
    rw [hrn] at hra
    rw [hrn2] at aD
    obtain ⟨y1, y2, y3, hy⟩ : ∃ y1 y2 y3 : Prop, ((b.kind = 4) = y1 ∧ (g.kind = 6) = y2 ∧ (g.key = i.c) = y3) ∧ (y1 = False ∨ y1 = True ∧ y2 = False ∨ y1 = True ∧ y2 = True ∧ y3 = False) := by
      by_cases z1 : b.kind = 4
      · by_cases z2 : g.kind = 6
        · exact ⟨_, _, _, ⟨eq_true z1, eq_true z2, eq_false (fun z3 => h9 ⟨z1, z2, z3⟩)⟩, .inr (.inr ⟨rfl, rfl, rfl⟩)⟩
        · exact ⟨_, _, _, ⟨eq_true z1, eq_false z2, rfl⟩, .inr (.inl ⟨rfl, rfl⟩)⟩
      · exact ⟨_, _, _, ⟨eq_false z1, rfl, rfl⟩, .inl rfl⟩
    obtain ⟨⟨u1, u2, u3⟩, hy⟩ := hy
    clear aD1 h9
    rcases hy with rfl | ⟨rfl, rfl⟩ | ⟨rfl, rfl, rfl⟩
    all_goals
      simp only [go_sem, fe, ge, b1, b2, b3, b4, d1, d2, d3, d4, d5, d6, d7, d8, wc, wi, c11, c12, c13, u1, u2, u3, ia, ga, hra, Nat.left_eq_add, Nat.add_eq_left, Nat.add_left_cancel_iff, Nat.succ_ne_zero, Nat.add_assoc, Nat.one_ne_zero, Bool.not_false, Bool.not_true]
      cases rn
      · rw [if_pos ⟨rfl, rfl⟩] at aD
        simp only [go_sem, fe, ge, b1, b2, b3, b4, d1, d2, d3, d4, d5, d6, d7, d8, wc, wi, c11, c12, c13, u1, u2, u3, ia, ga, hra, Nat.left_eq_add, Nat.add_eq_left, Nat.add_left_cancel_iff, Nat.succ_ne_zero, Nat.add_assoc, Nat.one_ne_zero, Bool.not_false, Bool.not_true]
        exact fin 7 _ aD (by (repeat' first | exact hW2 | refine WK.box ?_ _ | refine WK.put ?_ (by omega) (by omega) _)) (by (repeat' first | exact hK2 | refine Keeps.new ?_ _ | refine Keeps.other ?_ _ (by omega)))
      rw [if_neg (by simp)] at aD
      rw [if_pos (.inr (of_eq_true c13))] at aD
      simp only [go_sem, fe, ge, b1, b2, b3, b4, d1, d2, d3, d4, d5, d6, d7, d8, wc, wi, c11, c12, c13, u1, u2, u3, ia, ga, hra, Nat.left_eq_add, Nat.add_eq_left, Nat.add_left_cancel_iff, Nat.succ_ne_zero, Nat.add_assoc, Nat.one_ne_zero, Bool.not_false, Bool.not_true]
      have hx10 := hi.idx (.inr (of_eq_true c13))
      have ix := fun k id q => ix_regI (k := k) id q hi.imm.1 hx10
      have gx := get_W hi.imm.1 (l := s.regs) (by rw [ho.1]; exact hx10)
      generalize at0 s.regs i.imm = x at gx aD
      simp only [encW] at gx
      have hxa := fun d => are_c d false [x] (by simp)
      simp only [List.map_cons, List.map_nil, encW] at hxa
      obtain ⟨xn, hxn⟩ : ∃ q, [x].all numB = q := ⟨_, rfl⟩
      have hxn2 : numB x = xn := by rw [← hxn]; simp
      rw [hxn] at hxa
      rw [hxn2] at aD
      simp only [go_sem, fe, ge, b1, b2, b3, b4, d1, d2, d3, d4, d5, d6, d7, d8, wc, wi, c11, c12, c13, u1, u2, u3, ia, ga, hra, ix, gx, hxa, Nat.left_eq_add, Nat.add_eq_left, Nat.add_left_cancel_iff, Nat.succ_ne_zero, Nat.add_assoc, Nat.one_ne_zero, Bool.not_false, Bool.not_true]
      cases xn
      · rw [if_pos rfl] at aD
        simp only [go_sem, fe, ge, b1, b2, b3, b4, d1, d2, d3, d4, d5, d6, d7, d8, wc, wi, c11, c12, c13, u1, u2, u3, ia, ga, hra, ix, gx, hxa, Nat.left_eq_add, Nat.add_eq_left, Nat.add_left_cancel_iff, Nat.succ_ne_zero, Nat.add_assoc, Nat.one_ne_zero, Bool.not_false, Bool.not_true]
        exact fin 7 _ aD (by (repeat' first | exact hW2 | refine WK.box ?_ _ | refine WK.put ?_ (by omega) (by omega) _)) (by (repeat' first | exact hK2 | refine Keeps.new ?_ _ | refine Keeps.other ?_ _ (by omega)))
      rw [if_neg (by simp)] at aD
      by_cases hm : x.hi ≥ IntKind.u64.wrap f.len
      · have hm' := eq_true hm
        rw [if_pos hm] at aD
        simp only [go_sem, fe, ge, b1, b2, b3, b4, d1, d2, d3, d4, d5, d6, d7, d8, wc, wi, c11, c12, c13, u1, u2, u3, ia, ga, hra, ix, gx, hxa, hm', Nat.left_eq_add, Nat.add_eq_left, Nat.add_left_cancel_iff, Nat.succ_ne_zero, Nat.add_assoc, Nat.one_ne_zero, Bool.not_false, Bool.not_true]
        exact fin 4 _ aD (by (repeat' first | exact hW2 | refine WK.box ?_ _ | refine WK.put ?_ (by omega) (by omega) _)) (by (repeat' first | exact hK2 | refine Keeps.new ?_ _ | refine Keeps.other ?_ _ (by omega)))
      · have hm' := eq_false hm
        rw [if_neg hm] at aD
        simp only [go_sem, fe, ge, b1, b2, b3, b4, d1, d2, d3, d4, d5, d6, d7, d8, wc, wi, c11, c12, c13, u1, u2, u3, ia, ga, hra, ix, gx, hxa, hm', Nat.left_eq_add, Nat.add_eq_left, Nat.add_left_cancel_iff, Nat.succ_ne_zero, Nat.add_assoc, Nat.one_ne_zero, Bool.not_false, Bool.not_true]
        exact fin 0 _ aD (by (repeat' first | exact hW2 | refine WK.box ?_ _ | refine WK.put ?_ (by omega) (by omega) _)) (by (repeat' first | exact hK2 | refine Keeps.new ?_ _ | refine Keeps.other ?_ _ (by omega)))
  · -- neither
    rw [if_neg (by simp), if_neg (by simp)] at aD
    by_cases x11 : i.op = 11
    · have c11 := eq_true x11
      rw [if_pos (.inl x11)] at aD
      simp only [go_sem, fe, ge, b1, b2, b3, b4, d1, d2, d3, d4, d5, d6, d7, d8, wc, wi, c11, c12, c13, Nat.left_eq_add, Nat.add_eq_left, Nat.add_left_cancel_iff, Nat.succ_ne_zero, Nat.add_assoc, Nat.one_ne_zero, Bool.not_false, Bool.not_true]
      have hx10 := hi.idx (.inl x11)
      have ix := fun k id q => ix_regI (k := k) id q hi.imm.1 hx10
      have gx := get_W hi.imm.1 (l := s.regs) (by rw [ho.1]; exact hx10)
      generalize at0 s.regs i.imm = x at gx aD
      simp only [encW] at gx
      have hxa := fun d => are_c d false [x] (by simp)
      simp only [List.map_cons, List.map_nil, encW] at hxa
      obtain ⟨xn, hxn⟩ : ∃ q, [x].all numB = q := ⟨_, rfl⟩
      have hxn2 : numB x = xn := by rw [← hxn]; simp
      rw [hxn] at hxa
      rw [hxn2] at aD
      simp only [go_sem, fe, ge, b1, b2, b3, b4, d1, d2, d3, d4, d5, d6, d7, d8, wc, wi, c11, c12, c13, ix, gx, hxa, Nat.left_eq_add, Nat.add_eq_left, Nat.add_left_cancel_iff, Nat.succ_ne_zero, Nat.add_assoc, Nat.one_ne_zero, Bool.not_false, Bool.not_true]
      cases xn
      · rw [if_pos rfl] at aD
        simp only [go_sem, fe, ge, b1, b2, b3, b4, d1, d2, d3, d4, d5, d6, d7, d8, wc, wi, c11, c12, c13, ix, gx, hxa, Nat.left_eq_add, Nat.add_eq_left, Nat.add_left_cancel_iff, Nat.succ_ne_zero, Nat.add_assoc, Nat.one_ne_zero, Bool.not_false, Bool.not_true]
        exact fin 7 _ aD (by (repeat' first | exact hW2 | refine WK.box ?_ _ | refine WK.put ?_ (by omega) (by omega) _)) (by (repeat' first | exact hK2 | refine Keeps.new ?_ _ | refine Keeps.other ?_ _ (by omega)))
      rw [if_neg (by simp)] at aD
      by_cases hm : x.hi ≥ IntKind.u64.wrap f.len
      · have hm' := eq_true hm
        rw [if_pos hm] at aD
        simp only [go_sem, fe, ge, b1, b2, b3, b4, d1, d2, d3, d4, d5, d6, d7, d8, wc, wi, c11, c12, c13, ix, gx, hxa, hm', Nat.left_eq_add, Nat.add_eq_left, Nat.add_left_cancel_iff, Nat.succ_ne_zero, Nat.add_assoc, Nat.one_ne_zero, Bool.not_false, Bool.not_true]
        exact fin 4 _ aD (by (repeat' first | exact hW2 | refine WK.box ?_ _ | refine WK.put ?_ (by omega) (by omega) _)) (by (repeat' first | exact hK2 | refine Keeps.new ?_ _ | refine Keeps.other ?_ _ (by omega)))
      · have hm' := eq_false hm
        rw [if_neg hm] at aD
        simp only [go_sem, fe, ge, b1, b2, b3, b4, d1, d2, d3, d4, d5, d6, d7, d8, wc, wi, c11, c12, c13, ix, gx, hxa, hm', Nat.left_eq_add, Nat.add_eq_left, Nat.add_left_cancel_iff, Nat.succ_ne_zero, Nat.add_assoc, Nat.one_ne_zero, Bool.not_false, Bool.not_true]
        exact fin 0 _ aD (by (repeat' first | exact hW2 | refine WK.box ?_ _ | refine WK.put ?_ (by omega) (by omega) _)) (by (repeat' first | exact hK2 | refine Keeps.new ?_ _ | refine Keeps.other ?_ _ (by omega)))
    · have c11 := eq_false x11
      rw [if_neg (by have := of_eq_false c13; omega)] at aD
      simp only [go_sem, fe, ge, b1, b2, b3, b4, d1, d2, d3, d4, d5, d6, d7, d8, wc, wi, c11, c12, c13, Nat.left_eq_add, Nat.add_eq_left, Nat.add_left_cancel_iff, Nat.succ_ne_zero, Nat.add_assoc, Nat.one_ne_zero, Bool.not_false, Bool.not_true]
      by_cases hm : i.imm ≥ IntKind.u64.wrap f.len
      · have hm' := eq_true hm
        rw [if_pos hm] at aD
        simp only [go_sem, fe, ge, b1, b2, b3, b4, d1, d2, d3, d4, d5, d6, d7, d8, wc, wi, c11, c12, c13, hm', Nat.left_eq_add, Nat.add_eq_left, Nat.add_left_cancel_iff, Nat.succ_ne_zero, Nat.add_assoc, Nat.one_ne_zero, Bool.not_false, Bool.not_true]
        exact fin 4 _ aD (by (repeat' first | exact hW2 | refine WK.box ?_ _ | refine WK.put ?_ (by omega) (by omega) _)) (by (repeat' first | exact hK2 | refine Keeps.new ?_ _ | refine Keeps.other ?_ _ (by omega)))
      · have hm' := eq_false hm
        rw [if_neg hm] at aD
        simp only [go_sem, fe, ge, b1, b2, b3, b4, d1, d2, d3, d4, d5, d6, d7, d8, wc, wi, c11, c12, c13, hm', Nat.left_eq_add, Nat.add_eq_left, Nat.add_left_cancel_iff, Nat.succ_ne_zero, Nat.add_assoc, Nat.one_ne_zero, Bool.not_false, Bool.not_true]
        exact fin 0 _ aD (by (repeat' first | exact hW2 | refine WK.box ?_ _ | refine WK.put ?_ (by omega) (by omega) _)) (by (repeat' first | exact hK2 | refine Keeps.new ?_ _ | refine Keeps.other ?_ _ (by omega)))
end Go.Proofs.Yticlihmbikcohaa.Va

/- chapter 19: any step -/
namespace Go.Proofs.Yticlihmbikcohaa.Va
open Go
set_option linter.unusedVariables false
set_option linter.unusedSimpArgs false
set_option maxRecDepth 100000
set_option maxHeartbeats 4000000
noncomputable def doS (d : Nat) (op : Int) (a b : Wht) : Wht :=
  match evalF Try.prog CC (d + 7) 40 [.int .i64 op, spanA a.lo a.hi, spanA b.lo b.hi] St.empty with
  | some (.tup [.agg _ [.int _ lo, .int _ hi], _], _) => numW lo hi
  | _ => junk
theorem do_c (d : Nat) (op : Int) (a b : Wht) (ha : 0 ≤ a.lo) (hb : 0 ≤ b.lo) : ∃ lo hi er, doS d op a b = numW lo hi ∧ 0 ≤ lo ∧ evalF Try.prog CC (d + 7) 40 [.int .i64 op, .agg 36 [.int .u64 a.lo, .int .u64 a.hi], .agg 36 [.int .u64 b.lo, .int .u64 b.hi]] St.empty = some (.tup [.agg 36 [.int .u64 lo, .int .u64 hi], .int .i64 er], St.empty) := by
  obtain ⟨lo, hi, er, hn, q⟩ := spanDo_some d op a.lo a.hi b.lo b.hi ha hb
  refine ⟨lo, hi, er, ?_, hn, q⟩
  unfold doS
  rw [q]
  rfl
def aluB (i : Ins) (b : Wht) : Wht := if i.op = 4 then numW i.imm i.imm else b
noncomputable def stepF (d : Nat) (K : Kx) (pc : Int) (i : Ins) (s : Sta) : List (Int × Sta) × Int :=
  if i.op = 3 ∨ i.op = 4 then (if numB (at0 s.regs i.a) = true ∧ numB (aluB i (at0 s.regs (min i.b 9))) = true then ([(pc + 1, setRg s i.a (doS d i.c (at0 s.regs i.a) (aluB i (at0 s.regs (min i.b 9)))))], 0) else ([], 7))
  else if i.op = 5 then ([(pc + i.imm, s)], 0)
  else if i.op = 6 ∨ i.op = 7 ∧ (at0 s.regs i.a).kind = 1 then jumpS d pc s i (at0 s.regs i.a) (at0 s.regs (min i.b 9))
  else if i.op = 10 ∨ i.op = 11 then (if accS K.l i s (at0 s.regs (min i.b 9)) [3, 4, 5, 6] = 0 then ([(pc + 1, setRg s i.a (numW 0 18446744073709551615))], 0) else ([], accS K.l i s (at0 s.regs (min i.b 9)) [3, 4, 5, 6]))
  else if i.op = 12 ∨ i.op = 13 then (if accS K.l i s (at0 s.regs (min i.b 9)) [3, 4, 5] = 0 then ([(pc + 1, s)], 0) else ([], accS K.l i s (at0 s.regs (min i.b 9)) [3, 4, 5]))
  else stepN K pc i s
theorem step_f (d : Nat) {K : Kx} {bp : Bool} {p : List Ins} {L : Int → List Sta} {σ : St} {w m : Nat} (hW : WK K bp p L σ w m) (pc : Int) (hpc : 0 ≤ pc ∧ pc < 1000) (hpl : pc < p.length) (s : Sta) (r : AV) (hr : RefA r s.refs) (ho : SOk s) (hrl : s.refs.length ≤ 100000) (hnn : ∀ i, 0 ≤ (at0 s.regs i).lo) (hll : K.l.length ≤ 9223372036854775807)
    (hi : InsOk (at0 p pc)) (hop : 1 ≤ (at0 p pc).op ∧ (at0 p pc).op ≤ 15) (hl : ∀ k, (L k).length ≤ 10000) :
    Sat (StepP K bp p L w m σ (stepF (d + 4) K pc (at0 p pc) s)) (evalF Try.prog CC (d + 12) 26 [.ptr 65 w [0], .int .i64 pc, encS s r] σ) := by
  by_cases hN : (at0 p pc).op = 1 ∨ (at0 p pc).op = 2 ∨ (at0 p pc).op = 7 ∧ (at0 s.regs (at0 p pc).a).kind ≠ 1 ∨ (at0 p pc).op = 14 ∨ (at0 p pc).op = 15
  · have e : stepF (d + 4) K pc (at0 p pc) s = stepN K pc (at0 p pc) s := by
      unfold stepF
      rw [if_neg (by omega), if_neg (by omega), if_neg (by omega), if_neg (by omega), if_neg (by omega)]
    rw [e]
    exact step_n d hW pc hpc hpl s r hr ho hrl hi hl hN
  have hop2 : (at0 p pc).op = 3 ∨ (at0 p pc).op = 4 ∨ (at0 p pc).op = 5 ∨ (at0 p pc).op = 6 ∨ ((at0 p pc).op = 7 ∧ (at0 s.regs (at0 p pc).a).kind = 1) ∨ (at0 p pc).op = 8 ∨ (at0 p pc).op = 9 ∨ (at0 p pc).op = 10 ∨ (at0 p pc).op = 11 ∨ (at0 p pc).op = 12 ∨ (at0 p pc).op = 13 := by omega
  clear hN hop
  obtain ⟨hw, hm, hwm⟩ := hW.lt
  have ow := hW.ow
  simp only [encP] at ow
  have n0 := eq_false (show ¬ w = σ.next by omega)
  refine Sat.go ?_
  rw [run_26 _ _ _ (by simp)]; unfold Try.f26; simp only [Option.getD_some]
  simp only [go_sem, ow, n0, Nat.left_eq_add, Nat.add_eq_left, Nat.add_left_cancel_iff, Nat.succ_ne_zero, Nat.add_assoc, Nat.one_ne_zero, Bool.not_false, Bool.not_true]
  refine W.idx_at (by omega) (by omega) ?_
  generalize at0 p pc = i at hi hop2 ⊢
  have ia := fun k id q => ix_regI (k := k) id q hi.a.1 hi.a.2
  have hb9 : 0 ≤ min i.b 9 ∧ min i.b 9 < 10 := ⟨by have := hi.b; omega, by omega⟩
  have ib := fun k id q => ix_regI (k := k) id q hb9.1 hb9.2
  have ga := get_W hi.a.1 (l := s.regs) (by rw [ho.1]; exact hi.a.2)
  have gb := get_W hb9.1 (l := s.regs) (by rw [ho.1]; exact hb9.2)
  have ie : encI i = .agg 28 [.int .u8 i.op, .int .u8 i.a, .int .u8 i.b, .int .u8 i.c, .int .u32 i.imm] := rfl
  have wb : IntKind.i64.wrap i.b = i.b := by rw [IntKind.wrap_i64]; have := hi.b; omega
  have wc : IntKind.i64.wrap i.c = i.c := by rw [IntKind.wrap_i64]; have := hi.c; omega
  have wi : IntKind.u64.wrap i.imm = i.imm := by rw [IntKind.wrap_u64]; have := hi.imm; omega
  have wj : IntKind.i64.wrap i.imm = i.imm := by rw [IntKind.wrap_i64]; have := hi.imm; omega
  have wp : IntKind.i64.wrap (pc + i.imm) = pc + i.imm := by rw [IntKind.wrap_i64]; have := hi.imm; omega
  have hwrap : IntKind.i64.wrap (pc + 1) = pc + 1 := by rw [IntKind.wrap_i64]; omega
  have hal := hnn i.a
  have hbl := hnn (min i.b 9)
  unfold stepF
  unfold stepN
  generalize at0 s.regs i.a = a at hop2 ga hal ⊢
  generalize at0 s.regs (min i.b 9) = b at gb hbl ⊢
  simp only [encW] at ga gb
  simp only [go_sem, ow, n0, ie, ia, ib, ga, gb, Nat.left_eq_add, Nat.add_eq_left, Nat.add_left_cancel_iff, Nat.succ_ne_zero, Nat.add_assoc, Nat.one_ne_zero, Bool.not_false, Bool.not_true]
  refine W.br_no (by kernel_rfl) (W.br_no (by kernel_rfl) (W.br_ok (by kernel_rfl) ?_))
  simp only [go_sem, ow, n0, ie, ia, ib, ga, gb, wb, Nat.left_eq_add, Nat.add_eq_left, Nat.add_left_cancel_iff, Nat.succ_ne_zero, Nat.add_assoc, Nat.one_ne_zero, Bool.not_false, Bool.not_true]
  obtain ⟨f1, g1, z1, z2, z3, z4, z5, z6, z7, z8⟩ := hr.fq
  have hlk := hl (pc + 1)
  have hlk2 := hl (pc + i.imm)
  have q1 := fun d n => of_c d n
  have q2 := fun d lo hi => number_c d lo hi
  have qa := fun d => all_c d
  have q3 := fun d v w => are_c d false [v, w] (by simp)
  simp only [List.map_cons, List.map_nil, encW] at q3
  simp only [encW, numW] at q2
  rcases hop2 with o | o | o | o | ⟨o, hk⟩ | o | o | o | o | o | o
  · -- op 3
    have c1 := eq_false (show ¬ i.op = 1 by omega)
    have c2 := eq_false (show ¬ i.op = 8 by omega)
    have c3 := eq_false (show ¬ i.op = 9 by omega)
    have c4 := eq_false (show ¬ i.op = 2 by omega)
    have c5 := eq_true o
    have c6 := eq_false (show ¬ i.op = 4 by omega)
    have c7 := eq_false (show ¬ i.op = 5 by omega)
    have c8 := eq_false (show ¬ i.op = 6 by omega)
    have c9 := eq_false (show ¬ i.op = 7 by omega)
    have ca := eq_false (show ¬ i.op = 10 by omega)
    have cb := eq_false (show ¬ i.op = 11 by omega)
    have cc := eq_false (show ¬ i.op = 12 by omega)
    have cd := eq_false (show ¬ i.op = 13 by omega)
    have ce := eq_false (show ¬ i.op = 14 by omega)
    rw [if_pos (by omega)]
    have hB : aluB i b = b := if_neg (by omega)
    rw [hB]
    have q3 := fun d => q3 d a (b)
    obtain ⟨bb, hbb⟩ : ∃ bb, [a, b].all numB = bb := ⟨_, rfl⟩
    have hbb2 : (numB a = true ∧ numB (b) = true) ↔ bb = true := by rw [← hbb]; simp
    rw [hbb] at q3
    obtain ⟨lo, hi', er, hdo, hlo, hdc⟩ := do_c (d + 4) i.c a (b) hal (hbl)
    rw [hdo]
    have hset : (s.regs.map encW).set i.a.toNat (encW (numW lo hi')) = (setRg s i.a (numW lo hi')).regs.map encW := (List.map_set ..).symm
    simp only [Nat.add_assoc, Nat.reduceAdd, numW] at hdc
    simp only [encW, numW] at hset
    simp only [go_sem, c1, c2, c3, c4, c5, c6, c7, c8, c9, ca, cb, cc, cd, ce, q1, q2, q3, wi, wc, Nat.left_eq_add, Nat.add_eq_left, Nat.add_left_cancel_iff, Nat.succ_ne_zero, Nat.add_assoc, Nat.one_ne_zero, Bool.not_false, Bool.not_true]
    cases bb
    · rw [if_neg (fun h => by have := hbb2.1 h; cases this)]
      simp only [go_sem, Nat.left_eq_add, Nat.add_eq_left, Nat.add_left_cancel_iff, Nat.succ_ne_zero, Nat.add_assoc, Nat.one_ne_zero, Bool.not_false, Bool.not_true]
      exact wp_some ⟨WK.trim (by (repeat' first | exact hW | refine WK.box ?_ _ | refine WK.put ?_ (by omega) (by omega) _ | refine WK.tok ?_)) hw hm, Keeps.trim (by (repeat' first | exact Keeps.refl _ _ | refine Keeps.new ?_ _ | refine Keeps.other ?_ _ (by omega) | refine Keeps.tok ?_ _)), rfl⟩
    rw [if_pos (hbb2.2 rfl)]
    simp only [go_sem, hdc, wc, Nat.left_eq_add, Nat.add_eq_left, Nat.add_left_cancel_iff, Nat.succ_ne_zero, Nat.add_assoc, Nat.one_ne_zero, Bool.not_false, Bool.not_true]
    refine W.br_ok (by kernel_rfl) ?_
    simp only [go_sem, ia, ga, q2, hset, hwrap, frz_W, view_W, z1, z7, Nat.left_eq_add, Nat.add_eq_left, Nat.add_left_cancel_iff, Nat.succ_ne_zero, Nat.add_assoc, Nat.one_ne_zero, Bool.not_false, Bool.not_true]
    refine W.call (leave_c (K := K) (bp := bp) (p := p) (L := L) (m := m) _ (by (repeat' first | exact hW | refine WK.box ?_ _ | refine WK.put ?_ (by omega) (by omega) _ | refine WK.tok ?_)) (pc + 1) (setRg s i.a (numW lo hi')) f1 z2 z3 (by omega)) ?_
    rintro v τ ⟨hWt, hKt⟩
    simp only [go_sem, *]
    exact wp_some ⟨WK.trim hWt hw hm, Keeps.trim (Keeps.trans (by (repeat' first | exact Keeps.refl _ _ | refine Keeps.new ?_ _ | refine Keeps.other ?_ _ (by omega) | refine Keeps.tok ?_ _)) hKt), rfl⟩
  · -- op 4
    have c1 := eq_false (show ¬ i.op = 1 by omega)
    have c2 := eq_false (show ¬ i.op = 8 by omega)
    have c3 := eq_false (show ¬ i.op = 9 by omega)
    have c4 := eq_false (show ¬ i.op = 2 by omega)
    have c5 := eq_false (show ¬ i.op = 3 by omega)
    have c6 := eq_true o
    have c7 := eq_false (show ¬ i.op = 5 by omega)
    have c8 := eq_false (show ¬ i.op = 6 by omega)
    have c9 := eq_false (show ¬ i.op = 7 by omega)
    have ca := eq_false (show ¬ i.op = 10 by omega)
    have cb := eq_false (show ¬ i.op = 11 by omega)
    have cc := eq_false (show ¬ i.op = 12 by omega)
    have cd := eq_false (show ¬ i.op = 13 by omega)
    have ce := eq_false (show ¬ i.op = 14 by omega)
    rw [if_pos (by omega)]
    have hB : aluB i b = numW i.imm i.imm := if_pos o
    rw [hB]
    have q3 := fun d => q3 d a (numW i.imm i.imm)
    obtain ⟨bb, hbb⟩ : ∃ bb, [a, numW i.imm i.imm].all numB = bb := ⟨_, rfl⟩
    have hbb2 : (numB a = true ∧ numB (numW i.imm i.imm) = true) ↔ bb = true := by rw [← hbb]; simp
    rw [hbb] at q3
    simp only [numW] at q3
    obtain ⟨lo, hi', er, hdo, hlo, hdc⟩ := do_c (d + 4) i.c a (numW i.imm i.imm) hal (hi.imm.1)
    rw [hdo]
    have hset : (s.regs.map encW).set i.a.toNat (encW (numW lo hi')) = (setRg s i.a (numW lo hi')).regs.map encW := (List.map_set ..).symm
    simp only [Nat.add_assoc, Nat.reduceAdd, numW] at hdc
    simp only [encW, numW] at hset
    simp only [go_sem, c1, c2, c3, c4, c5, c6, c7, c8, c9, ca, cb, cc, cd, ce, q1, q2, q3, wi, wc, Nat.left_eq_add, Nat.add_eq_left, Nat.add_left_cancel_iff, Nat.succ_ne_zero, Nat.add_assoc, Nat.one_ne_zero, Bool.not_false, Bool.not_true]
    cases bb
    · rw [if_neg (fun h => by have := hbb2.1 h; cases this)]
      simp only [go_sem, Nat.left_eq_add, Nat.add_eq_left, Nat.add_left_cancel_iff, Nat.succ_ne_zero, Nat.add_assoc, Nat.one_ne_zero, Bool.not_false, Bool.not_true]
      exact wp_some ⟨WK.trim (by (repeat' first | exact hW | refine WK.box ?_ _ | refine WK.put ?_ (by omega) (by omega) _ | refine WK.tok ?_)) hw hm, Keeps.trim (by (repeat' first | exact Keeps.refl _ _ | refine Keeps.new ?_ _ | refine Keeps.other ?_ _ (by omega) | refine Keeps.tok ?_ _)), rfl⟩
    rw [if_pos (hbb2.2 rfl)]
    simp only [go_sem, hdc, wc, Nat.left_eq_add, Nat.add_eq_left, Nat.add_left_cancel_iff, Nat.succ_ne_zero, Nat.add_assoc, Nat.one_ne_zero, Bool.not_false, Bool.not_true]
    refine W.br_ok (by kernel_rfl) ?_
    simp only [go_sem, ia, ga, q2, hset, hwrap, frz_W, view_W, z1, z7, Nat.left_eq_add, Nat.add_eq_left, Nat.add_left_cancel_iff, Nat.succ_ne_zero, Nat.add_assoc, Nat.one_ne_zero, Bool.not_false, Bool.not_true]
    refine W.call (leave_c (K := K) (bp := bp) (p := p) (L := L) (m := m) _ (by (repeat' first | exact hW | refine WK.box ?_ _ | refine WK.put ?_ (by omega) (by omega) _ | refine WK.tok ?_)) (pc + 1) (setRg s i.a (numW lo hi')) f1 z2 z3 (by omega)) ?_
    rintro v τ ⟨hWt, hKt⟩
    simp only [go_sem, *]
    exact wp_some ⟨WK.trim hWt hw hm, Keeps.trim (Keeps.trans (by (repeat' first | exact Keeps.refl _ _ | refine Keeps.new ?_ _ | refine Keeps.other ?_ _ (by omega) | refine Keeps.tok ?_ _)) hKt), rfl⟩
  · -- op 5
    have c1 := eq_false (show ¬ i.op = 1 by omega)
    have c2 := eq_false (show ¬ i.op = 8 by omega)
    have c3 := eq_false (show ¬ i.op = 9 by omega)
    have c4 := eq_false (show ¬ i.op = 2 by omega)
    have c5 := eq_false (show ¬ i.op = 3 by omega)
    have c6 := eq_false (show ¬ i.op = 4 by omega)
    have c7 := eq_true o
    have c8 := eq_false (show ¬ i.op = 6 by omega)
    have c9 := eq_false (show ¬ i.op = 7 by omega)
    have ca := eq_false (show ¬ i.op = 10 by omega)
    have cb := eq_false (show ¬ i.op = 11 by omega)
    have cc := eq_false (show ¬ i.op = 12 by omega)
    have cd := eq_false (show ¬ i.op = 13 by omega)
    have ce := eq_false (show ¬ i.op = 14 by omega)
    rw [if_neg (by omega), if_pos o]
    simp only [go_sem, c1, c2, c3, c4, c5, c6, c7, c8, c9, ca, cb, cc, cd, ce, wj, wp, frz_W, view_W, z1, z7, Nat.left_eq_add, Nat.add_eq_left, Nat.add_left_cancel_iff, Nat.succ_ne_zero, Nat.add_assoc, Nat.one_ne_zero, Bool.not_false, Bool.not_true]
    refine W.call (leave_c (K := K) (bp := bp) (p := p) (L := L) (m := m) _ (by (repeat' first | exact hW | refine WK.box ?_ _ | refine WK.put ?_ (by omega) (by omega) _ | refine WK.tok ?_)) (pc + i.imm) (s) f1 z2 z3 (by omega)) ?_
    rintro v τ ⟨hWt, hKt⟩
    simp only [go_sem, *]
    exact wp_some ⟨WK.trim hWt hw hm, Keeps.trim (Keeps.trans (by (repeat' first | exact Keeps.refl _ _ | refine Keeps.new ?_ _ | refine Keeps.other ?_ _ (by omega) | refine Keeps.tok ?_ _)) hKt), rfl⟩
  · -- op 6
    have c1 := eq_false (show ¬ i.op = 1 by omega)
    have c2 := eq_false (show ¬ i.op = 8 by omega)
    have c3 := eq_false (show ¬ i.op = 9 by omega)
    have c4 := eq_false (show ¬ i.op = 2 by omega)
    have c5 := eq_false (show ¬ i.op = 3 by omega)
    have c6 := eq_false (show ¬ i.op = 4 by omega)
    have c7 := eq_false (show ¬ i.op = 5 by omega)
    have c8 := eq_true o
    have c9 := eq_false (show ¬ i.op = 7 by omega)
    have ca := eq_false (show ¬ i.op = 10 by omega)
    have cb := eq_false (show ¬ i.op = 11 by omega)
    have cc := eq_false (show ¬ i.op = 12 by omega)
    have cd := eq_false (show ¬ i.op = 13 by omega)
    have ce := eq_false (show ¬ i.op = 14 by omega)
    rw [if_neg (by omega), if_neg (by omega), if_pos (.inl o)]
    simp only [go_sem, c1, c2, c3, c4, c5, c6, c7, c8, c9, ca, cb, cc, cd, ce, Nat.left_eq_add, Nat.add_eq_left, Nat.add_left_cancel_iff, Nat.succ_ne_zero, Nat.add_assoc, Nat.one_ne_zero, Bool.not_false, Bool.not_true]
    refine W.call (jump_num (d + 4) (K := K) (bp := bp) (p := p) (L := L) (m := m) (by (repeat' first | exact hW | refine WK.box ?_ _ | refine WK.put ?_ (by omega) (by omega) _ | refine WK.tok ?_)) pc hpc s r hr ho i a b hi hal hbl hl (.inl o)) ?_
    rintro v τ ⟨hWt, hKt, hv⟩
    simp only at hWt hKt hv
    subst hv
    simp only [go_sem, *]
    exact wp_some ⟨WK.trim hWt hw hm, Keeps.trim (Keeps.trans (by (repeat' first | exact Keeps.refl _ _ | refine Keeps.new ?_ _ | refine Keeps.other ?_ _ (by omega) | refine Keeps.tok ?_ _)) hKt), rfl⟩
  · -- op 7
    have c1 := eq_false (show ¬ i.op = 1 by omega)
    have c2 := eq_false (show ¬ i.op = 8 by omega)
    have c3 := eq_false (show ¬ i.op = 9 by omega)
    have c4 := eq_false (show ¬ i.op = 2 by omega)
    have c5 := eq_false (show ¬ i.op = 3 by omega)
    have c6 := eq_false (show ¬ i.op = 4 by omega)
    have c7 := eq_false (show ¬ i.op = 5 by omega)
    have c8 := eq_false (show ¬ i.op = 6 by omega)
    have c9 := eq_true o
    have ca := eq_false (show ¬ i.op = 10 by omega)
    have cb := eq_false (show ¬ i.op = 11 by omega)
    have cc := eq_false (show ¬ i.op = 12 by omega)
    have cd := eq_false (show ¬ i.op = 13 by omega)
    have ce := eq_false (show ¬ i.op = 14 by omega)
    rw [if_neg (by omega), if_neg (by omega), if_pos (.inr ⟨o, hk⟩)]
    simp only [go_sem, c1, c2, c3, c4, c5, c6, c7, c8, c9, ca, cb, cc, cd, ce, Nat.left_eq_add, Nat.add_eq_left, Nat.add_left_cancel_iff, Nat.succ_ne_zero, Nat.add_assoc, Nat.one_ne_zero, Bool.not_false, Bool.not_true]
    refine W.call (jump_num (d + 4) (K := K) (bp := bp) (p := p) (L := L) (m := m) (by (repeat' first | exact hW | refine WK.box ?_ _ | refine WK.put ?_ (by omega) (by omega) _ | refine WK.tok ?_)) pc hpc s r hr ho i a b hi hal hbl hl (.inr ⟨o, hk⟩)) ?_
    rintro v τ ⟨hWt, hKt, hv⟩
    simp only at hWt hKt hv
    subst hv
    simp only [go_sem, *]
    exact wp_some ⟨WK.trim hWt hw hm, Keeps.trim (Keeps.trans (by (repeat' first | exact Keeps.refl _ _ | refine Keeps.new ?_ _ | refine Keeps.other ?_ _ (by omega) | refine Keeps.tok ?_ _)) hKt), rfl⟩
  · -- op 8
    have c1 := eq_false (show ¬ i.op = 1 by omega)
    have c2 := eq_true o
    have c3 := eq_false (show ¬ i.op = 9 by omega)
    have c4 := eq_false (show ¬ i.op = 2 by omega)
    have c5 := eq_false (show ¬ i.op = 3 by omega)
    have c6 := eq_false (show ¬ i.op = 4 by omega)
    have c7 := eq_false (show ¬ i.op = 5 by omega)
    have c8 := eq_false (show ¬ i.op = 6 by omega)
    have c9 := eq_false (show ¬ i.op = 7 by omega)
    have ca := eq_false (show ¬ i.op = 10 by omega)
    have cb := eq_false (show ¬ i.op = 11 by omega)
    have cc := eq_false (show ¬ i.op = 12 by omega)
    have cd := eq_false (show ¬ i.op = 13 by omega)
    have ce := eq_false (show ¬ i.op = 14 by omega)
    rw [if_neg (by omega), if_neg (by omega), if_neg (by omega), if_neg (by omega), if_neg (by omega), if_pos (by omega)]
    simp only [go_sem, c1, c2, c3, c4, c5, c6, c7, c8, c9, ca, cb, cc, cd, ce, Nat.left_eq_add, Nat.add_eq_left, Nat.add_left_cancel_iff, Nat.succ_ne_zero, Nat.add_assoc, Nat.one_ne_zero, Bool.not_false, Bool.not_true]
    refine W.call (move_c _ (K := K) (bp := bp) (p := p) (L := L) (m := m) (by (repeat' first | exact hW | refine WK.box ?_ _ | refine WK.put ?_ (by omega) (by omega) _ | refine WK.tok ?_)) pc hpc s r hr ho i a b hi.a (fun _ => ⟨hi.c.1, hi.slot (by omega)⟩) hl) ?_
    rintro v τ ⟨hWt, hKt, hv⟩
    simp only at hWt hKt hv
    subst hv
    simp only [go_sem, *]
    exact wp_some ⟨WK.trim hWt hw hm, Keeps.trim (Keeps.trans (by (repeat' first | exact Keeps.refl _ _ | refine Keeps.new ?_ _ | refine Keeps.other ?_ _ (by omega) | refine Keeps.tok ?_ _)) hKt), rfl⟩
  · -- op 9
    have c1 := eq_false (show ¬ i.op = 1 by omega)
    have c2 := eq_false (show ¬ i.op = 8 by omega)
    have c3 := eq_true o
    have c4 := eq_false (show ¬ i.op = 2 by omega)
    have c5 := eq_false (show ¬ i.op = 3 by omega)
    have c6 := eq_false (show ¬ i.op = 4 by omega)
    have c7 := eq_false (show ¬ i.op = 5 by omega)
    have c8 := eq_false (show ¬ i.op = 6 by omega)
    have c9 := eq_false (show ¬ i.op = 7 by omega)
    have ca := eq_false (show ¬ i.op = 10 by omega)
    have cb := eq_false (show ¬ i.op = 11 by omega)
    have cc := eq_false (show ¬ i.op = 12 by omega)
    have cd := eq_false (show ¬ i.op = 13 by omega)
    have ce := eq_false (show ¬ i.op = 14 by omega)
    rw [if_neg (by omega), if_neg (by omega), if_neg (by omega), if_neg (by omega), if_neg (by omega), if_pos (by omega)]
    simp only [go_sem, c1, c2, c3, c4, c5, c6, c7, c8, c9, ca, cb, cc, cd, ce, Nat.left_eq_add, Nat.add_eq_left, Nat.add_left_cancel_iff, Nat.succ_ne_zero, Nat.add_assoc, Nat.one_ne_zero, Bool.not_false, Bool.not_true]
    refine W.call (move_c _ (K := K) (bp := bp) (p := p) (L := L) (m := m) (by (repeat' first | exact hW | refine WK.box ?_ _ | refine WK.put ?_ (by omega) (by omega) _ | refine WK.tok ?_)) pc hpc s r hr ho i a b hi.a (fun _ => ⟨hi.c.1, hi.slot (by omega)⟩) hl) ?_
    rintro v τ ⟨hWt, hKt, hv⟩
    simp only at hWt hKt hv
    subst hv
    simp only [go_sem, *]
    exact wp_some ⟨WK.trim hWt hw hm, Keeps.trim (Keeps.trans (by (repeat' first | exact Keeps.refl _ _ | refine Keeps.new ?_ _ | refine Keeps.other ?_ _ (by omega) | refine Keeps.tok ?_ _)) hKt), rfl⟩
  · -- op 10
    have c1 := eq_false (show ¬ i.op = 1 by omega)
    have c2 := eq_false (show ¬ i.op = 8 by omega)
    have c3 := eq_false (show ¬ i.op = 9 by omega)
    have c4 := eq_false (show ¬ i.op = 2 by omega)
    have c5 := eq_false (show ¬ i.op = 3 by omega)
    have c6 := eq_false (show ¬ i.op = 4 by omega)
    have c7 := eq_false (show ¬ i.op = 5 by omega)
    have c8 := eq_false (show ¬ i.op = 6 by omega)
    have c9 := eq_false (show ¬ i.op = 7 by omega)
    have ca := eq_true o
    have cb := eq_false (show ¬ i.op = 11 by omega)
    have cc := eq_false (show ¬ i.op = 12 by omega)
    have cd := eq_false (show ¬ i.op = 13 by omega)
    have ce := eq_false (show ¬ i.op = 14 by omega)
    rw [if_neg (by omega), if_neg (by omega), if_neg (by omega), if_pos (by omega)]
    simp only [go_sem, c1, c2, c3, c4, c5, c6, c7, c8, c9, ca, cb, cc, cd, ce, Nat.left_eq_add, Nat.add_eq_left, Nat.add_left_cancel_iff, Nat.succ_ne_zero, Nat.add_assoc, Nat.one_ne_zero, Bool.not_false, Bool.not_true]
    refine W.call (access_c (d + 5) (K := K) (bp := bp) (p := p) (L := L) (m := m) (by (repeat' first | exact hW | refine WK.box ?_ _ | refine WK.put ?_ (by omega) (by omega) _ | refine WK.tok ?_)) s r hr ho i hi b [3, 4, 5, 6] (by simp) hll) ?_
    rintro v τ ⟨hWt, hKt, hv⟩
    simp only at hWt hKt hv
    subst hv
    have hn4 : σ.next + 4 ≤ τ.next := hKt.1
    have t5 : τ.obj σ.next = some (.cells 43 [encS s r]) := (hKt.2 σ.next (by show σ.next < σ.next + 1 + 1 + 1 + 1; omega) (by omega)).trans (by simp only [go_sem, Nat.left_eq_add, Nat.add_eq_left, Nat.add_left_cancel_iff, Nat.succ_ne_zero, Nat.add_assoc, Nat.one_ne_zero, Bool.not_false, Bool.not_true])
    have t7 : τ.obj (σ.next + 1) = some (.cells 28 [encI i]) := (hKt.2 (σ.next + 1) (by show σ.next + 1 < σ.next + 1 + 1 + 1 + 1; omega) (by omega)).trans (by simp only [go_sem, ie, Nat.left_eq_add, Nat.add_eq_left, Nat.add_left_cancel_iff, Nat.succ_ne_zero, Nat.add_assoc, Nat.one_ne_zero, Bool.not_false, Bool.not_true])
    have hKt2 : Keeps σ τ m := Keeps.trans (by (repeat' first | exact Keeps.refl _ _ | refine Keeps.new ?_ _ | refine Keeps.other ?_ _ (by omega) | refine Keeps.tok ?_ _)) hKt
    simp only [encS, encI] at t5 t7
    obtain ⟨ac, hac⟩ : ∃ ac, accS K.l i s b [3, 4, 5, 6] = ac := ⟨_, rfl⟩
    rw [hac]
    by_cases h0 : ac = 0
    case neg =>
      have h0' := eq_false h0
      rw [if_neg h0]
      simp only [go_sem, h0', Nat.left_eq_add, Nat.add_eq_left, Nat.add_left_cancel_iff, Nat.succ_ne_zero, Nat.add_assoc, Nat.one_ne_zero, Bool.not_false, Bool.not_true]
      exact wp_some ⟨WK.trim hWt hw hm, Keeps.trim hKt2, rfl⟩
    have h0' := eq_true h0
    rw [if_pos h0]
    have hset : (s.regs.map encW).set i.a.toNat (encW (numW 0 18446744073709551615)) = (setRg s i.a (numW 0 18446744073709551615)).regs.map encW := (List.map_set ..).symm
    simp only [encW, numW] at hset
    simp only [go_sem, h0', Nat.left_eq_add, Nat.add_eq_left, Nat.add_left_cancel_iff, Nat.succ_ne_zero, Nat.add_assoc, Nat.one_ne_zero, Bool.not_false, Bool.not_true]
    refine W.br_ok (by kernel_rfl) ?_
    simp only [go_sem, t5, t7, ia, ga, qa, q2, hset, hwrap, frz_W, view_W, z1, z7, Nat.left_eq_add, Nat.add_eq_left, Nat.add_left_cancel_iff, Nat.succ_ne_zero, Nat.add_assoc, Nat.one_ne_zero, Bool.not_false, Bool.not_true]
    refine W.call (leave_c (K := K) (bp := bp) (p := p) (L := L) (m := m) _ (WK.put hWt (by omega) (by omega) _) (pc + 1) (setRg s i.a (numW 0 18446744073709551615)) f1 z2 z3 (by omega)) ?_
    rintro v τ2 ⟨hWt2, hKt3⟩
    simp only [go_sem, *]
    exact wp_some ⟨WK.trim hWt2 hw hm, Keeps.trim (Keeps.trans (Keeps.other hKt2 _ (by omega)) hKt3), rfl⟩
  · -- op 11
    have c1 := eq_false (show ¬ i.op = 1 by omega)
    have c2 := eq_false (show ¬ i.op = 8 by omega)
    have c3 := eq_false (show ¬ i.op = 9 by omega)
    have c4 := eq_false (show ¬ i.op = 2 by omega)
    have c5 := eq_false (show ¬ i.op = 3 by omega)
    have c6 := eq_false (show ¬ i.op = 4 by omega)
    have c7 := eq_false (show ¬ i.op = 5 by omega)
    have c8 := eq_false (show ¬ i.op = 6 by omega)
    have c9 := eq_false (show ¬ i.op = 7 by omega)
    have ca := eq_false (show ¬ i.op = 10 by omega)
    have cb := eq_true o
    have cc := eq_false (show ¬ i.op = 12 by omega)
    have cd := eq_false (show ¬ i.op = 13 by omega)
    have ce := eq_false (show ¬ i.op = 14 by omega)
    rw [if_neg (by omega), if_neg (by omega), if_neg (by omega), if_pos (by omega)]
    simp only [go_sem, c1, c2, c3, c4, c5, c6, c7, c8, c9, ca, cb, cc, cd, ce, Nat.left_eq_add, Nat.add_eq_left, Nat.add_left_cancel_iff, Nat.succ_ne_zero, Nat.add_assoc, Nat.one_ne_zero, Bool.not_false, Bool.not_true]
    refine W.call (access_c (d + 5) (K := K) (bp := bp) (p := p) (L := L) (m := m) (by (repeat' first | exact hW | refine WK.box ?_ _ | refine WK.put ?_ (by omega) (by omega) _ | refine WK.tok ?_)) s r hr ho i hi b [3, 4, 5, 6] (by simp) hll) ?_
    rintro v τ ⟨hWt, hKt, hv⟩
    simp only at hWt hKt hv
    subst hv
    have hn4 : σ.next + 4 ≤ τ.next := hKt.1
    have t5 : τ.obj σ.next = some (.cells 43 [encS s r]) := (hKt.2 σ.next (by show σ.next < σ.next + 1 + 1 + 1 + 1; omega) (by omega)).trans (by simp only [go_sem, Nat.left_eq_add, Nat.add_eq_left, Nat.add_left_cancel_iff, Nat.succ_ne_zero, Nat.add_assoc, Nat.one_ne_zero, Bool.not_false, Bool.not_true])
    have t7 : τ.obj (σ.next + 1) = some (.cells 28 [encI i]) := (hKt.2 (σ.next + 1) (by show σ.next + 1 < σ.next + 1 + 1 + 1 + 1; omega) (by omega)).trans (by simp only [go_sem, ie, Nat.left_eq_add, Nat.add_eq_left, Nat.add_left_cancel_iff, Nat.succ_ne_zero, Nat.add_assoc, Nat.one_ne_zero, Bool.not_false, Bool.not_true])
    have hKt2 : Keeps σ τ m := Keeps.trans (by (repeat' first | exact Keeps.refl _ _ | refine Keeps.new ?_ _ | refine Keeps.other ?_ _ (by omega) | refine Keeps.tok ?_ _)) hKt
    simp only [encS, encI] at t5 t7
    obtain ⟨ac, hac⟩ : ∃ ac, accS K.l i s b [3, 4, 5, 6] = ac := ⟨_, rfl⟩
    rw [hac]
    by_cases h0 : ac = 0
    case neg =>
      have h0' := eq_false h0
      rw [if_neg h0]
      simp only [go_sem, h0', Nat.left_eq_add, Nat.add_eq_left, Nat.add_left_cancel_iff, Nat.succ_ne_zero, Nat.add_assoc, Nat.one_ne_zero, Bool.not_false, Bool.not_true]
      exact wp_some ⟨WK.trim hWt hw hm, Keeps.trim hKt2, rfl⟩
    have h0' := eq_true h0
    rw [if_pos h0]
    have hset : (s.regs.map encW).set i.a.toNat (encW (numW 0 18446744073709551615)) = (setRg s i.a (numW 0 18446744073709551615)).regs.map encW := (List.map_set ..).symm
    simp only [encW, numW] at hset
    simp only [go_sem, h0', Nat.left_eq_add, Nat.add_eq_left, Nat.add_left_cancel_iff, Nat.succ_ne_zero, Nat.add_assoc, Nat.one_ne_zero, Bool.not_false, Bool.not_true]
    refine W.br_ok (by kernel_rfl) ?_
    simp only [go_sem, t5, t7, ia, ga, qa, q2, hset, hwrap, frz_W, view_W, z1, z7, Nat.left_eq_add, Nat.add_eq_left, Nat.add_left_cancel_iff, Nat.succ_ne_zero, Nat.add_assoc, Nat.one_ne_zero, Bool.not_false, Bool.not_true]
    refine W.call (leave_c (K := K) (bp := bp) (p := p) (L := L) (m := m) _ (WK.put hWt (by omega) (by omega) _) (pc + 1) (setRg s i.a (numW 0 18446744073709551615)) f1 z2 z3 (by omega)) ?_
    rintro v τ2 ⟨hWt2, hKt3⟩
    simp only [go_sem, *]
    exact wp_some ⟨WK.trim hWt2 hw hm, Keeps.trim (Keeps.trans (Keeps.other hKt2 _ (by omega)) hKt3), rfl⟩
  · -- op 12
    have c1 := eq_false (show ¬ i.op = 1 by omega)
    have c2 := eq_false (show ¬ i.op = 8 by omega)
    have c3 := eq_false (show ¬ i.op = 9 by omega)
    have c4 := eq_false (show ¬ i.op = 2 by omega)
    have c5 := eq_false (show ¬ i.op = 3 by omega)
    have c6 := eq_false (show ¬ i.op = 4 by omega)
    have c7 := eq_false (show ¬ i.op = 5 by omega)
    have c8 := eq_false (show ¬ i.op = 6 by omega)
    have c9 := eq_false (show ¬ i.op = 7 by omega)
    have ca := eq_false (show ¬ i.op = 10 by omega)
    have cb := eq_false (show ¬ i.op = 11 by omega)
    have cc := eq_true o
    have cd := eq_false (show ¬ i.op = 13 by omega)
    have ce := eq_false (show ¬ i.op = 14 by omega)
    rw [if_neg (by omega), if_neg (by omega), if_neg (by omega), if_neg (by omega), if_pos (by omega)]
    simp only [go_sem, c1, c2, c3, c4, c5, c6, c7, c8, c9, ca, cb, cc, cd, ce, Nat.left_eq_add, Nat.add_eq_left, Nat.add_left_cancel_iff, Nat.succ_ne_zero, Nat.add_assoc, Nat.one_ne_zero, Bool.not_false, Bool.not_true]
    refine W.call (access_c (d + 5) (K := K) (bp := bp) (p := p) (L := L) (m := m) (by (repeat' first | exact hW | refine WK.box ?_ _ | refine WK.put ?_ (by omega) (by omega) _ | refine WK.tok ?_)) s r hr ho i hi b [3, 4, 5] (by simp) hll) ?_
    rintro v τ ⟨hWt, hKt, hv⟩
    simp only at hWt hKt hv
    subst hv
    have hn4 : σ.next + 4 ≤ τ.next := hKt.1
    have t5 : τ.obj σ.next = some (.cells 43 [encS s r]) := (hKt.2 σ.next (by show σ.next < σ.next + 1 + 1 + 1 + 1; omega) (by omega)).trans (by simp only [go_sem, Nat.left_eq_add, Nat.add_eq_left, Nat.add_left_cancel_iff, Nat.succ_ne_zero, Nat.add_assoc, Nat.one_ne_zero, Bool.not_false, Bool.not_true])
    have t7 : τ.obj (σ.next + 1) = some (.cells 28 [encI i]) := (hKt.2 (σ.next + 1) (by show σ.next + 1 < σ.next + 1 + 1 + 1 + 1; omega) (by omega)).trans (by simp only [go_sem, ie, Nat.left_eq_add, Nat.add_eq_left, Nat.add_left_cancel_iff, Nat.succ_ne_zero, Nat.add_assoc, Nat.one_ne_zero, Bool.not_false, Bool.not_true])
    have hKt2 : Keeps σ τ m := Keeps.trans (by (repeat' first | exact Keeps.refl _ _ | refine Keeps.new ?_ _ | refine Keeps.other ?_ _ (by omega) | refine Keeps.tok ?_ _)) hKt
    simp only [encS, encI] at t5 t7
    obtain ⟨ac, hac⟩ : ∃ ac, accS K.l i s b [3, 4, 5] = ac := ⟨_, rfl⟩
    rw [hac]
    by_cases h0 : ac = 0
    case neg =>
      have h0' := eq_false h0
      rw [if_neg h0]
      simp only [go_sem, h0', Nat.left_eq_add, Nat.add_eq_left, Nat.add_left_cancel_iff, Nat.succ_ne_zero, Nat.add_assoc, Nat.one_ne_zero, Bool.not_false, Bool.not_true]
      exact wp_some ⟨WK.trim hWt hw hm, Keeps.trim hKt2, rfl⟩
    have h0' := eq_true h0
    rw [if_pos h0]
    simp only [go_sem, h0', t5, t7, hwrap, frz_W, view_W, z1, z7, Nat.left_eq_add, Nat.add_eq_left, Nat.add_left_cancel_iff, Nat.succ_ne_zero, Nat.add_assoc, Nat.one_ne_zero, Bool.not_false, Bool.not_true]
    refine W.call (leave_c (K := K) (bp := bp) (p := p) (L := L) (m := m) _ hWt (pc + 1) s f1 z2 z3 (by omega)) ?_
    rintro v τ2 ⟨hWt2, hKt3⟩
    simp only [go_sem, *]
    exact wp_some ⟨WK.trim hWt2 hw hm, Keeps.trim (Keeps.trans hKt2 hKt3), rfl⟩
  · -- op 13
    have c1 := eq_false (show ¬ i.op = 1 by omega)
    have c2 := eq_false (show ¬ i.op = 8 by omega)
    have c3 := eq_false (show ¬ i.op = 9 by omega)
    have c4 := eq_false (show ¬ i.op = 2 by omega)
    have c5 := eq_false (show ¬ i.op = 3 by omega)
    have c6 := eq_false (show ¬ i.op = 4 by omega)
    have c7 := eq_false (show ¬ i.op = 5 by omega)
    have c8 := eq_false (show ¬ i.op = 6 by omega)
    have c9 := eq_false (show ¬ i.op = 7 by omega)
    have ca := eq_false (show ¬ i.op = 10 by omega)
    have cb := eq_false (show ¬ i.op = 11 by omega)
    have cc := eq_false (show ¬ i.op = 12 by omega)
    have cd := eq_true o
    have ce := eq_false (show ¬ i.op = 14 by omega)
    rw [if_neg (by omega), if_neg (by omega), if_neg (by omega), if_neg (by omega), if_pos (by omega)]
    simp only [go_sem, c1, c2, c3, c4, c5, c6, c7, c8, c9, ca, cb, cc, cd, ce, Nat.left_eq_add, Nat.add_eq_left, Nat.add_left_cancel_iff, Nat.succ_ne_zero, Nat.add_assoc, Nat.one_ne_zero, Bool.not_false, Bool.not_true]
    refine W.call (access_c (d + 5) (K := K) (bp := bp) (p := p) (L := L) (m := m) (by (repeat' first | exact hW | refine WK.box ?_ _ | refine WK.put ?_ (by omega) (by omega) _ | refine WK.tok ?_)) s r hr ho i hi b [3, 4, 5] (by simp) hll) ?_
    rintro v τ ⟨hWt, hKt, hv⟩
    simp only at hWt hKt hv
    subst hv
    have hn4 : σ.next + 4 ≤ τ.next := hKt.1
    have t5 : τ.obj σ.next = some (.cells 43 [encS s r]) := (hKt.2 σ.next (by show σ.next < σ.next + 1 + 1 + 1 + 1; omega) (by omega)).trans (by simp only [go_sem, Nat.left_eq_add, Nat.add_eq_left, Nat.add_left_cancel_iff, Nat.succ_ne_zero, Nat.add_assoc, Nat.one_ne_zero, Bool.not_false, Bool.not_true])
    have t7 : τ.obj (σ.next + 1) = some (.cells 28 [encI i]) := (hKt.2 (σ.next + 1) (by show σ.next + 1 < σ.next + 1 + 1 + 1 + 1; omega) (by omega)).trans (by simp only [go_sem, ie, Nat.left_eq_add, Nat.add_eq_left, Nat.add_left_cancel_iff, Nat.succ_ne_zero, Nat.add_assoc, Nat.one_ne_zero, Bool.not_false, Bool.not_true])
    have hKt2 : Keeps σ τ m := Keeps.trans (by (repeat' first | exact Keeps.refl _ _ | refine Keeps.new ?_ _ | refine Keeps.other ?_ _ (by omega) | refine Keeps.tok ?_ _)) hKt
    simp only [encS, encI] at t5 t7
    obtain ⟨ac, hac⟩ : ∃ ac, accS K.l i s b [3, 4, 5] = ac := ⟨_, rfl⟩
    rw [hac]
    by_cases h0 : ac = 0
    case neg =>
      have h0' := eq_false h0
      rw [if_neg h0]
      simp only [go_sem, h0', Nat.left_eq_add, Nat.add_eq_left, Nat.add_left_cancel_iff, Nat.succ_ne_zero, Nat.add_assoc, Nat.one_ne_zero, Bool.not_false, Bool.not_true]
      exact wp_some ⟨WK.trim hWt hw hm, Keeps.trim hKt2, rfl⟩
    have h0' := eq_true h0
    rw [if_pos h0]
    simp only [go_sem, h0', t5, t7, hwrap, frz_W, view_W, z1, z7, Nat.left_eq_add, Nat.add_eq_left, Nat.add_left_cancel_iff, Nat.succ_ne_zero, Nat.add_assoc, Nat.one_ne_zero, Bool.not_false, Bool.not_true]
    refine W.call (leave_c (K := K) (bp := bp) (p := p) (L := L) (m := m) _ hWt (pc + 1) s f1 z2 z3 (by omega)) ?_
    rintro v τ2 ⟨hWt2, hKt3⟩
    simp only [go_sem, *]
    exact wp_some ⟨WK.trim hWt2 hw hm, Keeps.trim (Keeps.trans hKt2 hKt3), rfl⟩
end Go.Proofs.Yticlihmbikcohaa.Va

/- chapter 19: whatever the program, the walk ends -/
namespace Go.Proofs.Yticlihmbikcohaa.Va
open Go
set_option linter.unusedVariables false
set_option linter.unusedSimpArgs false
set_option maxRecDepth 100000
set_option maxHeartbeats 4000000
/-- the fields are what their types can have -/
structure InsT (i : Ins) : Prop where
  op : 0 ≤ i.op ∧ i.op < 256
  a : 0 ≤ i.a ∧ i.a < 256
  b : 0 ≤ i.b ∧ i.b < 256
  c : 0 ≤ i.c ∧ i.c < 256
  imm : 0 ≤ i.imm ∧ i.imm < 4294967296
theorem ins_ok {i : Ins} (h : InsT i) (hc : chkS i = 0) : InsOk i ∧ 1 ≤ i.op ∧ i.op ≤ 15 := by
  obtain ⟨⟨o0, o1⟩, ⟨a0, a1⟩, ⟨b0, b1⟩, ⟨c0, c1⟩, ⟨m0, m1⟩⟩ := h
  obtain ⟨op, a, b, c, imm⟩ := i
  simp only at o0 o1 a0 a1 b0 b1 c0 c1 m0 m1
  unfold chkS at hc
  by_cases h1 : 1 ≤ op ∧ op ≤ 15
  case neg => rw [if_pos (by simp [opOk, h1])] at hc; simp at hc
  rw [if_neg (by simp [opOk, h1])] at hc
  split at hc
  · simp at hc
  rename_i hb
  split at hc
  · simp at hc
  rename_i hr
  have wa : IntKind.u32.wrap a = a := by rw [IntKind.wrap_u32]; omega
  have wb : IntKind.u32.wrap b = b := by rw [IntKind.wrap_u32]; omega
  have wc : IntKind.u32.wrap c = c := by rw [IntKind.wrap_u32]; omega
  simp only [badS, wa, wb, wc] at hb
  simp only [restS] at hr
  rcases (show op = 1 ∨ op = 2 ∨ op = 3 ∨ op = 4 ∨ op = 5 ∨ op = 6 ∨ op = 7 ∨ op = 8 ∨ op = 9 ∨ op = 10 ∨ op = 11 ∨ op = 12 ∨ op = 13 ∨ op = 14 ∨ op = 15 by omega) with rfl | rfl | rfl | rfl | rfl | rfl | rfl | rfl | rfl | rfl | rfl | rfl | rfl | rfl | rfl
  all_goals
    simp [rowS, tblS, at0, outB] at hb hr
    refine ⟨⟨⟨a0, ?_⟩, ⟨b0, b1⟩, ⟨c0, c1⟩, ⟨m0, m1⟩, fun h => ?_, fun h => ?_, fun h => ?_⟩, h1.1, h1.2⟩
    all_goals (simp only at *; omega)
theorem flowG_chk {n : Int} : ∀ (l : List Ins) (pc : Int) (m : List Bool), (flowG n l pc m).2 = 0 → ∀ i ∈ l, chkS i = 0
  | [], _, _, _, i, hi => by cases hi
  | x :: l, pc, m, h, i, hi => by
    rw [flowG] at h
    split at h
    · rename_i hx; exact absurd h hx
    rename_i hx
    split at h
    · simp at h
    split at h
    · simp at h
    rcases List.mem_cons.1 hi with rfl | hi
    · exact Classical.not_not.1 hx
    · exact flowG_chk l _ _ h i hi
theorem flow_chk {p : List Ins} (h : (flowS p).2 = 0) : ∀ i ∈ p, chkS i = 0 := by
  unfold flowS at h
  split at h
  · simp at h
  · exact flowG_chk p _ _ h
theorem stepF_g {n : Nat} {s : Sta} (h : GSt n s) (hn : NN s) (d : Nat) (K : Kx) (pc : Int) (i : Ins) (hi : InsOk i) : (stepF d K pc i s).1.length ≤ 2 ∧ (∀ q ∈ (stepF d K pc i s).1, GSt (n + 1) q.2) ∧ ∀ q ∈ (stepF d K pc i s).1, NN q.2 := by
  have none : ∀ e : Int, (([] : List (Int × Sta)), e).1.length ≤ 2 ∧ (∀ q ∈ (([] : List (Int × Sta)), e).1, GSt (n + 1) q.2) ∧ ∀ q ∈ (([] : List (Int × Sta)), e).1, NN q.2 := fun e => ⟨by simp, by simp, by simp⟩
  have one : ∀ (k : Int) (t : Sta), GSt (n + 1) t → NN t → ([(k, t)], (0 : Int)).1.length ≤ 2 ∧ (∀ q ∈ ([(k, t)], (0 : Int)).1, GSt (n + 1) q.2) ∧ ∀ q ∈ ([(k, t)], (0 : Int)).1, NN q.2 := fun k t h1 h2 => ⟨by simp, fun q hq => by obtain rfl := List.mem_singleton.1 hq; exact h1, fun q hq => by obtain rfl := List.mem_singleton.1 hq; exact h2⟩
  have set : ∀ (k : Int) (x : Wht), 0 ≤ x.lo → ([(k, setRg s i.a x)], (0 : Int)).1.length ≤ 2 ∧ (∀ q ∈ ([(k, setRg s i.a x)], (0 : Int)).1, GSt (n + 1) q.2) ∧ ∀ q ∈ ([(k, setRg s i.a x)], (0 : Int)).1, NN q.2 := fun k x hx => one k _ (GSt.up ⟨setRg_ok h.ok _ _, h.le⟩) (hn.reg _ hx)
  have la := nn_at hn.1 i.a
  have lb := nn_at hn.1 (min i.b 9)
  unfold stepF
  split
  · split
    · refine set _ _ ?_
      obtain ⟨lo, hi', er, e, h0, _⟩ := do_c d i.c (at0 s.regs i.a) (aluB i (at0 s.regs (min i.b 9))) la (by unfold aluB; split; exact hi.imm.1; exact lb)
      rw [e]; exact h0
    · exact none _
  split
  · exact one _ _ h.up hn
  split
  · have lB : 0 ≤ (jumpB i (at0 s.regs (min i.b 9))).lo := by unfold jumpB; split; exact hi.b.1; exact lb
    unfold jumpS
    split
    · have hone : ∀ (k : Int) (b : Bool), (∀ q ∈ jumpOne d pc s i (at0 s.regs i.a) (jumpB i (at0 s.regs (min i.b 9))) k b, GSt (n + 1) q.2) ∧ ∀ q ∈ jumpOne d pc s i (at0 s.regs i.a) (jumpB i (at0 s.regs (min i.b 9))) k b, NN q.2 := by
        intro k b
        obtain ⟨ul, uh, vl, vh, t, er, e, ⟨h1, h2⟩, _⟩ := ref_c d i.c (at0 s.regs i.a) (jumpB i (at0 s.regs (min i.b 9))) b la lB
        unfold jumpOne
        rw [e]
        split
        · refine ⟨fun q hq => ?_, fun q hq => ?_⟩
          · obtain rfl := List.mem_singleton.1 hq
            unfold jumpT
            split
            · exact GSt.up ⟨setRg_ok (setRg_ok h.ok _ _) _ _, h.le⟩
            · exact GSt.up ⟨setRg_ok h.ok _ _, h.le⟩
          · obtain rfl := List.mem_singleton.1 hq
            unfold jumpT
            split
            · exact (hn.reg i.a (x := numW ul uh) h1).reg i.b (x := numW vl vh) h2
            · exact hn.reg i.a (x := numW ul uh) h1
        · exact ⟨by simp, by simp⟩
      have hpre : jumpPre d pc s i (at0 s.regs i.a) (jumpB i (at0 s.regs (min i.b 9))) 2 = jumpOne d pc s i (at0 s.regs i.a) (jumpB i (at0 s.regs (min i.b 9))) 0 false ++ jumpOne d pc s i (at0 s.regs i.a) (jumpB i (at0 s.regs (min i.b 9))) 1 true := rfl
      rw [hpre]
      refine ⟨?_, fun q hq => ?_, fun q hq => ?_⟩
      · have h1 := jumpOne_len d pc s i (at0 s.regs i.a) (jumpB i (at0 s.regs (min i.b 9))) 0 false
        have h2 := jumpOne_len d pc s i (at0 s.regs i.a) (jumpB i (at0 s.regs (min i.b 9))) 1 true
        show List.length (_ ++ _) ≤ 2
        rw [List.length_append]; omega
      · exact (List.mem_append.1 hq).elim ((hone _ _).1 q) ((hone _ _).1 q)
      · exact (List.mem_append.1 hq).elim ((hone _ _).2 q) ((hone _ _).2 q)
    · exact none _
  split
  · split
    · exact set _ _ (Int.le_refl 0)
    · exact none _
  split
  · split
    · exact one _ _ h.up hn
    · exact none _
  obtain ⟨g1, g2⟩ := stepN_g h K pc i
  refine ⟨g1, g2, ?_⟩
  unfold stepN
  split
  · exact move_nn hn _ _ _ _ la lb
  split
  · intro q hq; obtain rfl := List.mem_singleton.1 hq; exact hn.reg _ hi.imm.1
  split
  · exact null_nn hn _ _ _ la
  split
  · split
    · intro q hq; obtain rfl := List.mem_singleton.1 hq; exact call_nn K hn _ _
    · intro q hq; cases hq
  · intro q hq; cases hq
theorem start_nn : ∀ k, ∀ s ∈ beginL k, NN s := by
  intro k s hs
  unfold beginL addL at hs
  split at hs
  · obtain rfl : s = startS := by simpa using hs
    exact ⟨by simp [startS, junk, numW], by simp [startS, junk]⟩
  · exact absurd hs (by simp)
theorem well_jok (d : Nat) {K : Kx} {bp : Bool} {p : List Ins} (hll : K.l.length ≤ 9223372036854775807) (ht : ∀ i ∈ p, InsT i) (hf : (flowS p).2 = 0) {N : Nat} (hN : N ≤ p.length) : Jok (d + 12) (stepF (d + 4) K) K bp p N (fun j L => L = levelS (stepF (d + 4) K) p j ∧ Good j L ∧ ∀ k, ∀ s ∈ L k, NN s) := by
  have hlen := (flow_len hf).2
  have hins : ∀ j : Nat, j < p.length → InsOk (at0 p (j : Int)) ∧ 1 ≤ (at0 p (j : Int)).op ∧ (at0 p (j : Int)).op ≤ 15 := fun j hj => by
    have hm : at0 p (j : Int) ∈ p := at0_mem (by omega) (by omega)
    exact ins_ok (ht _ hm) (flow_chk hf _ hm)
  refine ⟨⟨rfl, .start, start_nn⟩, fun j L hj h => ⟨fun s hs => ⟨(h.2.1.st j s hs).ok, by have := (h.2.1.st j s hs).le; omega⟩, by have := h.2.1.len j; omega⟩, fun j L hj h h0 h1 => ?_, fun j L hj h h0 => ?_⟩
  · obtain ⟨rfl, hG, hn⟩ := h
    have hgs := ahead_ok (hG.st j) h0 h1
    have hns := ahead_nn (hn j) h0 h1
    obtain ⟨i1, i2⟩ := hins j (by omega)
    intro σ w m r hW hr hp
    exact step_f d hW j (by omega) (by omega) _ r hr hgs.ok (by have := hgs.le; omega) (fun i => nn_at hns.1 i) hll i1 i2 (fun k => by have := hG.len k; omega)
  · obtain ⟨rfl, hG, hn⟩ := h
    refine ⟨rfl, ?_, ?_⟩
    · unfold roundS
      by_cases h0 : (aheadS (levelS (stepF (d + 4) K) p j j)).2.2 = 0
      · rw [if_pos h0]
        cases h1 : (aheadS (levelS (stepF (d + 4) K) p j j)).2.1
        · rw [if_neg (by simp)]; exact hG.up
        · rw [if_pos rfl]
          obtain ⟨g1, g2, _⟩ := stepF_g (ahead_ok (hG.st j) h0 h1) (ahead_nn (hn j) h0 h1) (d + 4) K j (at0 p j) (hins j (by omega)).1
          exact hG.add g1 g2
      · rw [if_neg h0]; exact hG.up
    · unfold roundS
      by_cases h0 : (aheadS (levelS (stepF (d + 4) K) p j j)).2.2 = 0
      · rw [if_pos h0]
        cases h1 : (aheadS (levelS (stepF (d + 4) K) p j j)).2.1
        · rw [if_neg (by simp)]; exact hn
        · rw [if_pos rfl]
          obtain ⟨_, _, g3⟩ := stepF_g (ahead_ok (hG.st j) h0 h1) (ahead_nn (hn j) h0 h1) (d + 4) K j (at0 p j) (hins j (by omega)).1
          exact fun k s hs => (addLs_mem _ _ k s hs).elim (fun h => hn k s h) (fun h => g3 _ h)
      · rw [if_neg h0]; exact hn
end Go.Proofs.Yticlihmbikcohaa.Va

/- chapter 19: the examples run -/
namespace Go.Proofs.Yticlihmbikcohaa.Va
open Go
set_option maxRecDepth 100000
theorem shown_c (d : Nat) : evalF Try.prog CC (d + 20) 7 [] St.empty = some (.bool true, St.empty) := by
  show evalF Try.prog CC (d + 20) 7 [] St.empty = _
  kernel_rfl
end Go.Proofs.Yticlihmbikcohaa.Va

/- chapter 19: verify.Ahead, and the law that all is well -/
namespace Go.Proofs.Yticlihmbikcohaa.Va
open Go
set_option linter.unusedVariables false
set_option linter.unusedSimpArgs false
set_option maxRecDepth 100000
set_option maxHeartbeats 4000000
/-- what is known ahead of an instruction -/
def aheadV (F : StepF) (p : List Ins) (pc : Int) : Sta × Bool :=
  if (flowS p).2 = 0 ∧ 0 ≤ pc ∧ pc < p.length then
    if (walkS F p pc.toNat 0 beginL).2.1 = 0 then
      if (aheadS ((walkS F p pc.toNat 0 beginL).2.2 pc)).2.2 = 0 ∧ (aheadS ((walkS F p pc.toNat 0 beginL).2.2 pc)).2.1 = true then ((aheadS ((walkS F p pc.toNat 0 beginL).2.2 pc)).1, true)
      else (noS, false)
    else (noS, false)
  else (noS, false)
theorem walkS_J {D : Nat} {F : StepF} {K : Kx} {bp : Bool} {p : List Ins} {N : Nat} {J : Nat → (Int → List Sta) → Prop} (hJ : Jok D F K bp p N J) : ∀ (n j : Nat) (L : Int → List Sta), n + j = N → J j L → (walkS F p n j L).2.1 = 0 → J N (walkS F p n j L).2.2
  | 0, j, L, hn, h, _ => by
    obtain rfl : j = N := by omega
    exact h
  | n + 1, j, L, hn, h, h0 => by
    unfold walkS at h0 ⊢
    by_cases e : (roundS F p j L).2 = 0
    · rw [if_pos e] at h0 ⊢
      exact walkS_J hJ n (j + 1) _ (by omega) (hJ.next j L (by omega) h e) h0
    · rw [if_neg e] at h0
      exact absurd h0 e
theorem Ahead_c (d : Nat) {K : Kx} {bp : Bool} {p : List Ins} (hb : bp = true → p = []) (hu : ∀ i ∈ p, 0 ≤ i.imm ∧ i.imm < 4294967296) {F : StepF} {J : Nat → (Int → List Sta) → Prop} (pc : Int) (hJ : (flowS p).2 = 0 → 0 ≤ pc → pc < p.length → Jok (d + 12) F K bp p pc.toNat J) :
    ∃ r, RefA r (aheadV F p pc).1.refs ∧ pure1 r = true ∧ evalF Try.prog CC (d + 14) 10 [.list 52 K.bl (K.l.map encTy) none, mapsV K, encP bp p, .int .i64 pc] St.empty = some (.tup [encS (aheadV F p pc).1 r, .bool (aheadV F p pc).2], St.empty) := by
  have q := fun d => flow_c d bp p hb hu
  simp only [encP] at q
  have hz : (T.zero 43) = encS noS (.mt true) := by kernel_rfl
  refine (show Wp (fun x => ∃ r, RefA r (aheadV F p pc).1.refs ∧ pure1 r = true ∧ x = some ((AV.tup [encS (aheadV F p pc).1 r, .bool (aheadV F p pc).2], St.empty) : AV × St)) _ from ?_)
  have no : aheadV F p pc = (noS, false) → Wp (fun x => ∃ r, RefA r (aheadV F p pc).1.refs ∧ pure1 r = true ∧ x = some ((AV.tup [encS (aheadV F p pc).1 r, .bool (aheadV F p pc).2], St.empty) : AV × St)) (some (AV.tup [encS noS (.mt true), .bool false], St.empty)) := fun h => by
    rw [h]; exact ⟨.mt true, .inl ⟨rfl, _, rfl⟩, rfl, rfl⟩
  obtain ⟨Q, hQ⟩ : ∃ Q : Option (AV × St) → Prop, Q = fun x => ∃ r, RefA r (aheadV F p pc).1.refs ∧ pure1 r = true ∧ x = some ((AV.tup [encS (aheadV F p pc).1 r, .bool (aheadV F p pc).2], St.empty) : AV × St) := ⟨_, rfl⟩
  rw [← hQ] at no ⊢
  rw [run_10 _ _ _ (by simp)]; unfold Try.f10; simp only [Option.getD_some]
  simp only [encP]
  simp only [go_sem, q, Nat.left_eq_add, Nat.add_eq_left, Nat.add_left_cancel_iff, Nat.succ_ne_zero, Nat.add_assoc, Nat.one_ne_zero, Bool.not_false, Bool.not_true]
  by_cases hf : (flowS p).2 = 0
  case neg =>
    have hf' := eq_false hf
    simp only [go_sem, hf', Nat.left_eq_add, Nat.add_eq_left, Nat.add_left_cancel_iff, Nat.succ_ne_zero, Nat.add_assoc, Nat.one_ne_zero, Bool.not_false, Bool.not_true]
    exact no (by unfold aheadV; rw [if_neg (fun h => hf h.1)])
  have hf' := eq_true hf
  by_cases h0 : pc < 0
  · have h0' := eq_true h0
    simp only [go_sem, hf', h0', Nat.left_eq_add, Nat.add_eq_left, Nat.add_left_cancel_iff, Nat.succ_ne_zero, Nat.add_assoc, Nat.one_ne_zero, Bool.not_false, Bool.not_true]
    exact no (by unfold aheadV; rw [if_neg (fun h => by omega)])
  have h0' := eq_false h0
  by_cases h1 : pc ≥ (p.length : Int)
  · have h1' := eq_true h1
    simp only [go_sem, hf', h0', h1', Nat.left_eq_add, Nat.add_eq_left, Nat.add_left_cancel_iff, Nat.succ_ne_zero, Nat.add_assoc, Nat.one_ne_zero, Bool.not_false, Bool.not_true]
    exact no (by unfold aheadV; rw [if_neg (fun h => by omega)])
  have h1' := eq_false h1
  obtain ⟨hp0, hp1⟩ := flow_len hf
  have hJ := hJ hf (by omega) (by omega)
  have hpcn : ((pc.toNat : Nat) : Int) = pc := Int.toNat_of_nonneg (by omega)
  have hwalk : ∀ σ : St, 1 < σ.next → σ.obj 1 = some (.cells 65 [.agg 65 [.list 52 K.bl (K.l.map encTy) none, mapsV K, encP bp p, .nilm]]) → Sat (WalkP K bp p σ 1 (walkS F p pc.toNat 0 beginL)) (evalF Try.prog CC (d + 13) 17 [.ptr 65 1 [0], .int .i64 pc] σ) := by
    intro σ g1 g2
    have := walk_c d hJ (by omega) g1 g2
    rwa [hpcn] at this
  have hend := walkS_J hJ pc.toNat 0 beginL (by omega) hJ.start
  have hA : aheadV F p pc = if (walkS F p pc.toNat 0 beginL).2.1 = 0 then (if (aheadS ((walkS F p pc.toNat 0 beginL).2.2 pc)).2.2 = 0 ∧ (aheadS ((walkS F p pc.toNat 0 beginL).2.2 pc)).2.1 = true then ((aheadS ((walkS F p pc.toNat 0 beginL).2.2 pc)).1, true) else (noS, false)) else (noS, false) := by
    unfold aheadV
    rw [if_pos ⟨hf, by omega, by omega⟩]
  simp only [go_sem, hf', h0', h1', Nat.left_eq_add, Nat.add_eq_left, Nat.add_left_cancel_iff, Nat.succ_ne_zero, Nat.add_assoc, Nat.one_ne_zero, Bool.not_false, Bool.not_true]
  refine W.call (hwalk _ (by show 1 < 2; decide) rfl) ?_
  rintro v s1 ⟨m, hW, hK, hm, rfl⟩
  simp only at hW hK
  have hz0 : s1.obj 0 = some (.cells 43 [T.zero 43]) := (hK.2 0 (by show 0 < 2; decide) (by decide)).trans (by rw [hz]; rfl)
  have hn2 : 2 ≤ s1.next := hK.1
  have hend : (walkS F p pc.toNat 0 beginL).2.1 = 0 → J pc.toNat (walkS F p pc.toNat 0 beginL).2.2 := hend
  generalize walkS F p pc.toNat 0 beginL = X at hend hA hW ⊢
  obtain ⟨x1, x2, LX⟩ := X
  simp only at hend hA hW ⊢
  rw [hz] at hz0
  simp only [encS] at hz0
  by_cases e0 : x2 = 0
  case neg =>
    have e0' := eq_false e0
    rw [if_neg e0] at hA
    simp only [go_sem, e0', hz0, Nat.left_eq_add, Nat.add_eq_left, Nat.add_left_cancel_iff, Nat.succ_ne_zero, Nat.add_assoc, Nat.one_ne_zero, Bool.not_false, Bool.not_true]
    exact no hA
  have e0' := eq_true e0
  rw [if_pos e0] at hA
  obtain ⟨a1, a2⟩ := hJ.ahead pc.toNat LX (Nat.le_refl _) (hend e0)
  rw [hpcn] at a1 a2
  simp only [go_sem, e0', hz0, Nat.left_eq_add, Nat.add_eq_left, Nat.add_left_cancel_iff, Nat.succ_ne_zero, Nat.add_assoc, Nat.one_ne_zero, Bool.not_false, Bool.not_true]
  refine W.call (ahead_c _ hW pc a1 a2) ?_
  rintro v s2 ⟨hW2, hK2, r, hr, hpr, rfl⟩
  simp only at hW2 hK2
  have hz2 := (hK2.2 0 (by omega) (by omega)).trans hz0
  have hn3 : s1.next ≤ s2.next := hK2.1
  have k0 := eq_false (show ¬ 0 = s2.next by omega)
  generalize aheadS (LX pc) = A at hA hr ⊢
  obtain ⟨S, is, er⟩ := A
  simp only at hA hr ⊢
  by_cases e1 : er = 0
  case neg =>
    have e1' := eq_false e1
    rw [if_neg (fun h => e1 h.1)] at hA
    simp only [go_sem, e1', hz2, k0, Nat.left_eq_add, Nat.add_eq_left, Nat.add_left_cancel_iff, Nat.succ_ne_zero, Nat.add_assoc, Nat.one_ne_zero, Bool.not_false, Bool.not_true]
    exact no hA
  have e1' := eq_true e1
  cases is
  · rw [if_neg (by simp)] at hA
    simp only [go_sem, e1', hz2, k0, Nat.left_eq_add, Nat.add_eq_left, Nat.add_left_cancel_iff, Nat.succ_ne_zero, Nat.add_assoc, Nat.one_ne_zero, Bool.not_false, Bool.not_true]
    exact no hA
  rw [if_pos ⟨e1, rfl⟩] at hA
  obtain ⟨f1, g1, z1, z2, z3, z4, z5, z6, z7, z8⟩ := hr.fq
  simp only [go_sem, e1', hz2, k0, frz_W, z1, Nat.left_eq_add, Nat.add_eq_left, Nat.add_left_cancel_iff, Nat.succ_ne_zero, Nat.add_assoc, Nat.one_ne_zero, Bool.not_false, Bool.not_true]
  rw [hQ, hA]
  exact ⟨f1, z2, z3, rfl⟩
theorem walkS_pc (F : StepF) (p : List Ins) : ∀ (n j : Nat) (L : Int → List Sta), (walkS F p n j L).1 = 0 ∨ (j : Int) ≤ (walkS F p n j L).1 ∧ (walkS F p n j L).1 < j + n
  | 0, j, L => .inl rfl
  | n + 1, j, L => by
    unfold walkS
    split
    · rcases walkS_pc F p n (j + 1) (roundS F p j L).1 with h | ⟨h1, h2⟩
      · exact .inl h
      · refine .inr ⟨?_, ?_⟩
        · have : ((j + 1 : Nat) : Int) = (j : Int) + 1 := by omega
          rw [this] at h1
          omega
        · have : ((j + 1 : Nat) : Int) = (j : Int) + 1 := by omega
          rw [this] at h2
          omega
    · exact .inr ⟨Int.le_refl _, by show (j : Int) < j + ((n + 1 : Nat) : Int); omega⟩
theorem ahead0 {F : StepF} {p : List Ins} (hf : (flowS p).2 = 0) : aheadV F p 0 = (startS, true) := by
  have hl := (flow_len hf).1
  have h0 : 0 < p.length := List.length_pos_iff.2 hl
  unfold aheadV
  rw [if_pos ⟨hf, by omega, by omega⟩]
  rfl
theorem well_c (K : Kx) (hl : K.l.length ≤ 9223372036854775807) (hm : K.ms.length ≤ 9223372036854775807) (bp : Bool) (p : List Ins) (hb : bp = true → p = []) (ht : ∀ i ∈ p, InsT i) : ∃ σ', evalF Try.prog CC 80 6 [.list 52 K.bl (K.l.map encTy) none, mapsV K, encP bp p] St.empty = some (.bool true, σ') := by
  have hs : evalF Try.prog CC 79 7 [] St.empty = _ := shown_c 59
  obtain ⟨b, hf⟩ := fits_c 19 K hl hm
  simp only [Nat.reduceAdd] at hf
  have hu : ∀ i ∈ p, 0 ≤ i.imm ∧ i.imm < 4294967296 := fun i hi => (ht i hi).imm
  have hfl : evalF Try.prog CC 79 14 _ _ = _ := flow_c 73 bp p hb hu
  have hck : evalF Try.prog CC 79 9 _ _ = _ := vcheck_c 65 (K := K) (F := stepF 69 K) hb hu (fun h => well_jok 65 hl ht h (Nat.le_refl _))
  obtain ⟨r, hr, hpr, hah⟩ := Ahead_c 65 (K := K) (F := stepF 69 K) hb hu 0 (fun h _ _ => well_jok 65 hl ht h (Nat.zero_le _))
  have hah : evalF Try.prog CC 79 10 _ _ = _ := hah
  obtain ⟨f1, g1, z1, z2, z3, z4, z5, z6, z7, z8⟩ := hr.fq
  simp only [encP] at hfl hck hah
  have hst : evalF Try.prog CC 79 16 _ _ = _ := start_c 77
  refine (show Wp (fun x => ∃ σ', x = some ((AV.bool true, σ') : AV × St)) _ from ?_)
  rw [run_6 _ _ _ (by simp)]; unfold Try.f6; simp only [Option.getD_some]
  simp only [encP]
  simp only [go_sem, hs, hf, Nat.left_eq_add, Nat.add_eq_left, Nat.add_left_cancel_iff, Nat.succ_ne_zero, Nat.add_assoc, Nat.one_ne_zero, Bool.not_false, Bool.not_true]
  cases b
  · simp only [go_sem, Nat.left_eq_add, Nat.add_eq_left, Nat.add_left_cancel_iff, Nat.succ_ne_zero, Nat.add_assoc, Nat.one_ne_zero, Bool.not_false, Bool.not_true]
    exact ⟨_, rfl⟩
  simp only [go_sem, hfl, hck, Nat.left_eq_add, Nat.add_eq_left, Nat.add_left_cancel_iff, Nat.succ_ne_zero, Nat.add_assoc, Nat.one_ne_zero, Bool.not_false, Bool.not_true]
  by_cases hfz : (flowS p).2 = 0
  case neg =>
    have hfz' := eq_false hfz
    have e1 : vchkS (stepF 69 K) p = flowS p := if_neg hfz
    have e2 : aheadV (stepF 69 K) p 0 = (noS, false) := if_neg (fun h => hfz h.1)
    rw [e1]
    rw [e2] at hah
    refine call_tupS hah (encS_pureA hpr) rfl (by simp only [go_sem, viewIdsL, viewIds, Nat.left_eq_add, Nat.add_eq_left, Nat.add_left_cancel_iff, Nat.succ_ne_zero, Nat.add_assoc, Nat.one_ne_zero, Bool.not_false, Bool.not_true]) ?_
    simp only [go_sem, hfz', beq_self_eq_true, Nat.left_eq_add, Nat.add_eq_left, Nat.add_left_cancel_iff, Nat.succ_ne_zero, Nat.add_assoc, Nat.one_ne_zero, Bool.not_false, Bool.not_true]

    exact ⟨_, rfl⟩
  have hfz' := eq_true hfz
  rw [ahead0 hfz] at hah z6 z2
  have hlen := (flow_len hfz).1
  have h0 : 0 < p.length := List.length_pos_iff.2 hlen
  refine call_tupS hah (encS_pureA hpr) rfl (by simp only [go_sem, viewIdsL, viewIds, Nat.left_eq_add, Nat.add_eq_left, Nat.add_left_cancel_iff, Nat.succ_ne_zero, Nat.add_assoc, Nat.one_ne_zero, Bool.not_false, Bool.not_true]) ?_
  have hsm : evalF Try.prog CC 79 15 _ _ = _ := Same_c 77 startS g1 (.mt true) z6 (.inl ⟨rfl, _, rfl⟩) ⟨rfl, rfl⟩ (by decide)
  simp only [encS] at hsm hst
  simp only [go_sem, hfz', frz_W, strip_W, view_W, z1, z4, z5, z7, z8, Nat.left_eq_add, Nat.add_eq_left, Nat.add_left_cancel_iff, Nat.succ_ne_zero, Nat.add_assoc, Nat.one_ne_zero, Bool.not_false, Bool.not_true]
  refine W.br_ok (by kernel_rfl) ?_
  simp only [go_sem, hfz', hst, hsm, noMem_W, frz_W, strip_W, view_W, z1, z4, z5, z7, z8, Nat.left_eq_add, Nat.add_eq_left, Nat.add_left_cancel_iff, Nat.succ_ne_zero, Nat.add_assoc, Nat.one_ne_zero, Bool.not_false, Bool.not_true]
  have hv : vchkS (stepF 69 K) p = ((walkS (stepF 69 K) p p.length 0 beginL).1, (walkS (stepF 69 K) p p.length 0 beginL).2.1) := if_pos hfz
  have hpc := walkS_pc (stepF 69 K) p p.length 0 beginL
  rw [hv]
  have hge := eq_true (show (walkS (stepF 69 K) p p.length 0 beginL).1 ≥ 0 by simp only [Int.natCast_zero] at hpc; omega)
  have hlt := eq_true (show (walkS (stepF 69 K) p p.length 0 beginL).1 < (p.length : Int) by simp only [Int.natCast_zero] at hpc; omega)
  simp only [go_sem, hge, hlt, Nat.left_eq_add, Nat.add_eq_left, Nat.add_left_cancel_iff, Nat.succ_ne_zero, Nat.add_assoc, Nat.one_ne_zero, Bool.not_false, Bool.not_true]

  exact ⟨_, rfl⟩
end Go.Proofs.Yticlihmbikcohaa.Va

/- printed out of the texts of another seat by port.py -/
namespace Go.Proofs.Yticlihmbikcohaa.Va
open Go
set_option linter.unusedVariables false
set_option linter.unusedSimpArgs false
set_option maxRecDepth 100000
theorem arg_str {t : TypeId} {v : AV} (h : Arg T t v) (ht : T.ty t = some .str) : ∃ s, v = .str s := by
  cases h <;> simp_all
theorem arg_bool {t : TypeId} {v : AV} (h : Arg T t v) (ht : T.ty t = some .bool) : ∃ s, v = .bool s := by
  cases h <;> simp_all
theorem arg_int {t : TypeId} {v : AV} {k : IntKind} (h : Arg T t v) (ht : T.ty t = some (.int k)) : ∃ n, v = .int k n ∧ (Lit.int k n).wf = true := by
  cases h <;> simp_all
theorem arg_slice {t e : TypeId} {v : AV} (h : Arg T t v) (ht : T.ty t = some (.slice e)) : ∃ b xs, v = .list e b xs none ∧ (∀ x ∈ xs, Arg T e x) ∧ (b = true → xs = []) ∧ xs.length ≤ maxLen := by
  cases h with
  | slice _ e' b xs h hx hb hl hz =>
    rw [ht] at h
    cases h
    exact ⟨b, xs, rfl, hx, hb, hl⟩
  | bool _ _ h => rw [ht] at h; cases h
  | int _ _ _ h => rw [ht] at h; cases h
  | str _ _ h => rw [ht] at h; cases h
  | struct _ _ _ h => rw [ht] at h; cases h
  | array _ _ _ _ h => rw [ht] at h; cases h
theorem arg_struct {t : TypeId} {fs : List TypeId} {v : AV} (h : Arg T t v) (ht : T.ty t = some (.struct fs)) : ∃ vs, v = .agg t vs ∧ vs.length = fs.length ∧ ∀ (i : Nat) ft v, fs[i]? = some ft → vs[i]? = some v → Arg T ft v := by
  cases h with
  | struct _ fs' vs h hl hv =>
    rw [ht] at h
    cases h
    exact ⟨vs, rfl, hl, hv⟩
  | bool _ _ h => rw [ht] at h; cases h
  | int _ _ _ h => rw [ht] at h; cases h
  | str _ _ h => rw [ht] at h; cases h
  | slice _ _ _ _ h => rw [ht] at h; cases h
  | array _ _ _ _ h => rw [ht] at h; cases h
theorem arg_fld {v : AV} (h : Arg T 61 v) : ∃ f, v = encF f := by
  obtain ⟨vs, rfl, hl, hv⟩ := arg_struct h ty_61
  match vs, hl with
  | [a, b, c, d, e], _ =>
    obtain ⟨k, rfl, _⟩ := arg_int (hv 0 _ _ rfl rfl) ty_3
    obtain ⟨l, rfl, _⟩ := arg_int (hv 1 _ _ rfl rfl) ty_3
    obtain ⟨t, rfl, _⟩ := arg_int (hv 2 _ _ rfl rfl) ty_3
    obtain ⟨m, rfl, _⟩ := arg_int (hv 3 _ _ rfl rfl) ty_3
    obtain ⟨n, rfl, _⟩ := arg_int (hv 4 _ _ rfl rfl) ty_3
    exact ⟨⟨k, l, t, m, n⟩, rfl⟩
theorem map_of {p : AV → Prop} {α : Type} {g : α → AV} : ∀ {xs : List AV}, (∀ x ∈ xs, ∃ a, x = g a) → ∃ l : List α, xs = l.map g
  | [], _ => ⟨[], rfl⟩
  | x :: xs, h => by
    obtain ⟨a, rfl⟩ := h x (by simp)
    obtain ⟨l, rfl⟩ := map_of (p := p) (g := g) (xs := xs) (fun y hy => h y (by simp [hy]))
    exact ⟨a :: l, rfl⟩
theorem arg_typs {v : AV} (h : Arg T 48 v) : ∃ b l, v = encTs b l ∧ l.length ≤ 9223372036854775807 ∧ (∀ t ∈ l, t.name.size ≤ 9223372036854775807) ∧ (∀ t ∈ l, t.fields.length ≤ maxLen) ∧ (b = true → l = []) ∧ ∀ t ∈ l, t.nil = true → t.fields = [] := by
  have hmx : maxLen ≤ 9223372036854775807 := by decide
  obtain ⟨b, xs, rfl, hx, hb, hl⟩ := arg_slice h ty_48
  have hx2 : ∀ x ∈ xs, ∃ t : Typ, x = encTy t ∧ t.name.size ≤ 9223372036854775807 ∧ t.fields.length ≤ maxLen ∧ (t.nil = true → t.fields = []) := by
    intro x hxm
    obtain ⟨vs, rfl, hl, hv⟩ := arg_struct (hx x hxm) ty_52
    match vs, hl with
    | [a, b, c, d], _ =>
      have ha := hv 0 _ _ rfl rfl
      obtain ⟨x, rfl⟩ := arg_bool (hv 1 _ _ rfl rfl) ty_4
      obtain ⟨y, rfl⟩ := arg_bool (hv 2 _ _ rfl rfl) ty_4
      obtain ⟨z, xs, rfl, hx, hz, hlen⟩ := arg_slice (hv 3 _ _ rfl rfl) ty_50
      obtain ⟨fs, rfl⟩ := map_of (p := fun _ => True) (g := encF) (fun x hx' => arg_fld (hx x hx'))
      obtain ⟨s, rfl⟩ := arg_str ha ty_9
      have hs : s.size ≤ maxLen := by cases ha; assumption
      exact ⟨⟨s, x, y, z, fs⟩, rfl, Nat.le_trans hs hmx, by simpa using hlen, fun h => by simpa using hz h⟩
  clear hx
  have : ∃ l : List Typ, xs = l.map encTy ∧ ∀ t ∈ l, t.name.size ≤ 9223372036854775807 ∧ t.fields.length ≤ maxLen ∧ (t.nil = true → t.fields = []) := by
    clear hb hl h
    induction xs with
    | nil => exact ⟨[], rfl, by simp⟩
    | cons x xs ih =>
      obtain ⟨t, rfl, h1⟩ := hx2 x (by simp)
      obtain ⟨l, rfl, h2⟩ := ih (fun y hy => hx2 y (by simp [hy]))
      exact ⟨t :: l, rfl, fun u hu => by
        rcases List.mem_cons.1 hu with rfl | hu
        · exact h1
        · exact h2 u hu⟩
  obtain ⟨l, rfl, h2⟩ := this
  exact ⟨b, l, rfl, Nat.le_trans (by simpa using hl) hmx, fun t ht => (h2 t ht).1, fun t ht => (h2 t ht).2.1, fun h => by simpa using hb h, fun t ht => (h2 t ht).2.2⟩
theorem arg_maps {v : AV} (h : Arg T 54 v) : ∃ b, ∃ l : List Mp, v = .list 71 b (l.map encM) none ∧ l.length ≤ 9223372036854775807 := by
  have hmx : maxLen ≤ 9223372036854775807 := by decide
  obtain ⟨b, xs, rfl, hx, hb, hl⟩ := arg_slice h ty_54
  obtain ⟨ms, rfl⟩ := map_of (p := fun _ => True) (g := encM) (fun x hx' => by
    obtain ⟨vs, rfl, hl, hv⟩ := arg_struct (hx x hx') ty_71
    match vs, hl with
    | [a, b, c], _ =>
      obtain ⟨m, rfl⟩ := arg_bool (hv 0 _ _ rfl rfl) ty_4
      obtain ⟨k, rfl, _⟩ := arg_int (hv 1 _ _ rfl rfl) ty_3
      obtain ⟨t, rfl, _⟩ := arg_int (hv 2 _ _ rfl rfl) ty_3
      exact ⟨⟨m, k, t⟩, rfl⟩)
  exact ⟨b, ms, rfl, Nat.le_trans (by simpa using hl) hmx⟩
theorem arg_u8 {a : AV} (h : Arg T 5 a) : ∃ n, a = .int .u8 n ∧ 0 ≤ n ∧ n < 256 := by
  obtain ⟨n, rfl, hw⟩ := arg_int h ty_5
  refine ⟨n, rfl, ?_⟩
  have e1 : IntKind.u8.min = 0 := by kernel_rfl
  have e2 : IntKind.u8.max = 255 := by kernel_rfl
  simp [Lit.wf, e1, e2] at hw
  omega
theorem arg_u32 {a : AV} (h : Arg T 26 a) : ∃ n, a = .int .u32 n ∧ 0 ≤ n ∧ n < 4294967296 := by
  obtain ⟨n, rfl, hw⟩ := arg_int h ty_26
  refine ⟨n, rfl, ?_⟩
  have e1 : IntKind.u32.min = 0 := by kernel_rfl
  have e2 : IntKind.u32.max = 4294967295 := by kernel_rfl
  simp [Lit.wf, e1, e2] at hw
  omega
end Go.Proofs.Yticlihmbikcohaa.Va

/- chapter 19: the law that all is well, of arguments -/
namespace Go.Proofs.Yticlihmbikcohaa.Va
open Go
set_option linter.unusedVariables false
theorem map_ofP {p : AV → Prop} {α : Type} {g : α → AV} {P : α → Prop} : ∀ {xs : List AV}, (∀ x ∈ xs, ∃ a, x = g a ∧ P a) → ∃ l : List α, xs = l.map g ∧ ∀ a ∈ l, P a
  | [], _ => ⟨[], rfl, by simp⟩
  | x :: xs, h => by
    obtain ⟨a, rfl, ha⟩ := h x (by simp)
    obtain ⟨l, rfl, hl⟩ := map_ofP (p := p) (g := g) (P := P) (xs := xs) (fun y hy => h y (by simp [hy]))
    exact ⟨a :: l, rfl, fun b hb => (List.mem_cons.1 hb).elim (fun e => e ▸ ha) (fun e => hl b e)⟩
theorem arg_ins {v : AV} (h : Arg T 28 v) : ∃ i, v = encI i ∧ InsT i := by
  obtain ⟨vs, rfl, hl, hv⟩ := arg_struct h ty_28
  match vs, hl with
  | [a, b, c, d, e], _ =>
    obtain ⟨o, rfl, h1⟩ := arg_u8 (hv 0 _ _ rfl rfl)
    obtain ⟨a, rfl, h2⟩ := arg_u8 (hv 1 _ _ rfl rfl)
    obtain ⟨b, rfl, h3⟩ := arg_u8 (hv 2 _ _ rfl rfl)
    obtain ⟨c, rfl, h4⟩ := arg_u8 (hv 3 _ _ rfl rfl)
    obtain ⟨m, rfl, h5⟩ := arg_u32 (hv 4 _ _ rfl rfl)
    exact ⟨⟨o, a, b, c, m⟩, rfl, ⟨h1, h2, h3, h4, h5⟩⟩
theorem arg_prog {v : AV} (h : Arg T 29 v) : ∃ b l, v = encP b l ∧ (b = true → l = []) ∧ ∀ i ∈ l, InsT i := by
  obtain ⟨b, xs, rfl, hx, hb, hl⟩ := arg_slice h ty_29
  obtain ⟨l, rfl, hP⟩ := map_ofP (p := fun _ => True) (g := encI) (P := InsT) (fun x hx' => arg_ins (hx x hx'))
  exact ⟨b, l, rfl, fun h => by simpa using hb h, hP⟩
theorem well_law (d : Nat) (a0 a1 a2 : AV) (g0 : Arg T 48 a0) (g1 : Arg T 54 a1) (g2 : Arg T 29 a2) : ∃ σ', evalF Try.prog CC 80 6 [a0, a1, a2] St.empty = some (.bool true, σ') := by
  obtain ⟨bl, l, rfl, hl, _⟩ := arg_typs g0
  obtain ⟨bm, ms, rfl, hm⟩ := arg_maps g1
  obtain ⟨bp, p, rfl, hb, ht⟩ := arg_prog g2
  exact well_c ⟨bl, l, bm, ms, false⟩ hl hm bp p hb ht
end Go.Proofs.Yticlihmbikcohaa.Va

/- chapter 19: what is told from outside holds -/
namespace Go.Proofs.Yticlihmbikcohaa.Va
open Go Go.RowKit
set_option linter.unusedVariables false
theorem told_nameB (s : ByteArray) : HWireName.Told s (nameB s) := by
  have hget : ∀ i (h : i < s.size), s[i]'h = s.data.toList[i]'(by rw [Array.length_toList]; exact h) := fun i h => rfl
  refine ⟨fun h => ?_, fun h => ?_⟩
  · simp only [nameB, Bool.and_eq_true, decide_eq_true_eq] at h
    refine ⟨fun i hi _ => ?_, h.1.2, h.2⟩
    rw [hget i hi]
    exact List.all_eq_true.1 h.1.1 _ (List.getElem_mem _)
  · by_cases h1 : s.data.toList.all (fun b => HWireName.okB (b.toNat : Int)) = true
    · by_cases h2 : 0 < s.size
      · refine .inr (.inr ?_)
        have h3 : ¬ s.size ≤ 16 := by
          intro h3
          simp [nameB, h1, h2, h3] at h
        omega
      · exact .inr (.inl (by omega))
    · refine .inl ?_
      have : ∃ b ∈ s.data.toList, ¬ HWireName.okB (b.toNat : Int) = true := by
        rw [List.all_eq_true] at h1
        exact Classical.not_forall.1 h1 |>.imp fun b hb => by simpa using hb
      obtain ⟨b, hb, hk⟩ := this
      obtain ⟨i, hi, rfl⟩ := List.mem_iff_getElem.1 hb
      exact ⟨i, by rw [Array.length_toList] at hi; exact hi, by rw [hget]; simpa using hk⟩
theorem enters {P : Program} {f : FuncId} {fn : Func} {b : Code} (hf : P.funcs[f]? = some fn) (hb : fn.body = some b) (hn : (fn.name != "runtime.NumGoroutine") = true) (vs : Array Value) (w : World) : (callFunc f vs).run P w = .ok (.enter f vs) w := by
  have hn : ¬ fn.name = "runtime.NumGoroutine" := by simpa using hn
  simp [callFunc, hf, hb, hn]
theorem ext_ok : ExtOk Try.prog CC := by
  intro base c σ w f g args vs v σ' hg hI h hA
  have hg : ext5 f = some g := hg
  unfold ext5 at hg
  split at hg
  · simp only [Option.some.injEq] at hg
    subst hg
    dsimp only at h
    split at h
    · rename_i s
      simp only [Option.some.injEq, Prod.mk.injEq] at h
      obtain ⟨rfl, rfl⟩ := h
      obtain ⟨hl, hv⟩ := hA
      obtain ⟨vl⟩ := vs
      match vl, hl with
      | [x], _ =>
        obtain rfl := rep_str (hv 0 _ _ rfl rfl)
        show Goes Try.prog 67 _ _ _
        refine .inl ⟨enters Try.func67 (b := Try.f67.body.getD .skip) rfl (by kernel_rfl) _ _, (HWireName.walk s w).mono fun e w' ⟨b, he, ht, hb⟩ => ⟨.bool b, he, c, ⟨.refl c, hb.mono hI.le, fun _ _ _ => rfl, fun _ _ => rfl⟩, hI.far hb, ?_⟩⟩
        rw [HWireName.Told.one ht (told_nameB s)]
        exact mk_bool _
    · cases h
  · simp only [Option.some.injEq] at hg
    subst hg
    dsimp only at h
    split at h
    · rename_i x y k
      split at h
      · rename_i hc
        simp only [Option.some.injEq, Prod.mk.injEq] at h
        obtain ⟨rfl, rfl⟩ := h
        obtain ⟨hl, hv⟩ := hA
        obtain ⟨vl⟩ := vs
        match vl, hl with
        | [x1, x2, x3], _ =>
          obtain rfl := rep_int (hv 0 _ _ rfl rfl)
          obtain rfl := rep_int (hv 1 _ _ rfl rfl)
          obtain rfl := rep_int (hv 2 _ _ rfl rfl)
          refine .inr ⟨.tuple #[.int .u64 ((x + y + k) % 18446744073709551616), .int .u64 ((x + y + k) / 18446744073709551616)], w, ?_, c, .refl _ _ _, hI, ?_⟩
          · show (callFunc 73 _).run _ _ = _
            rw [run_callFunc_extern Try.func73 (by kernel_rfl) (by kernel_rfl) (by kernel_rfl) (e := add64Entry) (by kernel_rfl), run_add64 x y k hc.1 hc.2.1 hc.2.2.1 hc.2.2.2]
            rfl
          · exact ⟨[_, _], rfl, rfl, fun i a b ha hb => by
              match i with
              | 0 => simp at ha hb; subst ha; subst hb; exact ⟨_, .int _ _ _, rfl⟩
              | 1 => simp at ha hb; subst ha; subst hb; exact ⟨_, .int _ _ _, rfl⟩
              | i + 2 => simp at ha⟩
      · cases h
    · cases h
  · cases hg
theorem peek_ok : ∀ f, CC.peek f = true → stillF Try.prog CC f = true := by
  intro f h
  cases h
theorem calls_ok (hm : Try.prog.follows .mixedOrders = true) (d : Nat) : CallOk Try.prog CC (evalF Try.prog CC d) :=
  evalF_sound tabOk ext_ok peek_ok (fun call f b c0 w0 N D r hC hG => draw_sound tabOk hm hC hG) d
end Go.Proofs.Yticlihmbikcohaa.Va
