/- printed out of the texts of another seat by port.py -/
import Derived.Test.YticlihmbikcohaaVaN
import Derived.Test.YticlihmbikcohaaNinC
import Derived.Test.YticlihmbikcohaaVaDg
import Derived.Laws.Externs
import Derived.Test.YticlihmbikcohaaMg2

namespace Go.Proofs.Yticlihmbikcohaa.Va
open Go
set_option linter.unusedVariables false
set_option linter.unusedSimpArgs false
set_option maxRecDepth 100000
theorem arg_int {t : TypeId} {v : AV} {k : IntKind} (h : Arg T t v) (ht : T.ty t = some (.int k)) : ∃ n, v = .int k n ∧ (Lit.int k n).wf = true := by
  cases h <;> simp_all
theorem arg_slice {t e : TypeId} {v : AV} (h : Arg T t v) (ht : T.ty t = some (.slice e)) : ∃ b xs, v = .list e b xs none ∧ (∀ x ∈ xs, Arg T e x) ∧ (b = true → xs = []) ∧ xs.length ≤ maxLen := by
  cases h with
  | slice _ e' b xs h hx hb hl hz =>
    rw [ht] at h
    cases h
    exact ⟨b, xs, rfl, hx, hb, hl⟩
  | bool _ _ h => rw [ht] at h; cases h
  | int _ _ _ h => rw [ht] at h; cases h
  | str _ _ h => rw [ht] at h; cases h
  | struct _ _ _ h => rw [ht] at h; cases h
  | array _ _ _ _ h => rw [ht] at h; cases h
theorem map_of {p : AV → Prop} {α : Type} {g : α → AV} : ∀ {xs : List AV}, (∀ x ∈ xs, ∃ a, x = g a) → ∃ l : List α, xs = l.map g
  | [], _ => ⟨[], rfl⟩
  | x :: xs, h => by
    obtain ⟨a, rfl⟩ := h x (by simp)
    obtain ⟨l, rfl⟩ := map_of (p := p) (g := g) (xs := xs) (fun y hy => h y (by simp [hy]))
    exact ⟨a :: l, rfl⟩
theorem arg_u8 {a : AV} (h : Arg T 5 a) : ∃ n, a = .int .u8 n ∧ 0 ≤ n ∧ n < 256 := by
  obtain ⟨n, rfl, hw⟩ := arg_int h ty_5
  refine ⟨n, rfl, ?_⟩
  have e1 : IntKind.u8.min = 0 := by kernel_rfl
  have e2 : IntKind.u8.max = 255 := by kernel_rfl
  simp [Lit.wf, e1, e2] at hw
  omega
theorem arg_u32 {a : AV} (h : Arg T 26 a) : ∃ n, a = .int .u32 n ∧ 0 ≤ n ∧ n < 4294967296 := by
  obtain ⟨n, rfl, hw⟩ := arg_int h ty_26
  refine ⟨n, rfl, ?_⟩
  have e1 : IntKind.u32.min = 0 := by kernel_rfl
  have e2 : IntKind.u32.max = 4294967295 := by kernel_rfl
  simp [Lit.wf, e1, e2] at hw
  omega
theorem arg_u64 {a : AV} (h : Arg T 24 a) : ∃ n, a = .int .u64 n ∧ 0 ≤ n ∧ n < 18446744073709551616 := by
  obtain ⟨n, rfl, hw⟩ := arg_int h ty_24
  refine ⟨n, rfl, ?_⟩
  have e1 : IntKind.u64.min = 0 := by kernel_rfl
  have e2 : IntKind.u64.max = 18446744073709551615 := by kernel_rfl
  simp [Lit.wf, e1, e2] at hw
  omega
theorem map_ofP {p : AV → Prop} {α : Type} {g : α → AV} {P : α → Prop} : ∀ {xs : List AV}, (∀ x ∈ xs, ∃ a, x = g a ∧ P a) → ∃ l : List α, xs = l.map g ∧ ∀ a ∈ l, P a
  | [], _ => ⟨[], rfl, by simp⟩
  | x :: xs, h => by
    obtain ⟨a, rfl, ha⟩ := h x (by simp)
    obtain ⟨l, rfl, hl⟩ := map_ofP (p := p) (g := g) (P := P) (xs := xs) (fun y hy => h y (by simp [hy]))
    exact ⟨a :: l, rfl, fun b hb => (List.mem_cons.1 hb).elim (fun e => e ▸ ha) (fun e => hl b e)⟩
end Go.Proofs.Yticlihmbikcohaa.Va

/- chapter 19: the law of numbers -/
namespace Go.Proofs.Yticlihmbikcohaa.Va
open Go
set_option linter.unusedVariables false
set_option linter.unusedSimpArgs false
set_option maxRecDepth 100000
set_option maxHeartbeats 4000000
theorem flow_num (n : Int) : ∀ (r : List Ins) (pc : Nat) (m : List Bool), (∀ i ∈ r, chkS i = 0 ∧ (i.op = 1 ∨ i.op = 4)) → n = pc + r.length + 1 → m.length = 128 → pc + r.length < 128 → m[pc]? = some true → (flowG n (r ++ [⟨15, 0, 0, 0, 0⟩]) pc m).2 = 0
  | [], pc, m, _, hn, hm, hl, hp => by
    have hg : m.getD ((pc : Int)).toNat false = true := by rw [Int.toNat_natCast, List.getD_eq_getElem?_getD, hp]; rfl
    have hc : chkS ⟨15, 0, 0, 0, 0⟩ = 0 := rfl
    show (flowG n [⟨15, 0, 0, 0, 0⟩] pc m).2 = 0
    rw [flowG, hc, if_neg (by simp), hg, if_neg (by simp)]
    rfl
  | i :: r, pc, m, hr, hn, hm, hl, hp => by
    have hg : m.getD ((pc : Int)).toNat false = true := by rw [Int.toNat_natCast, List.getD_eq_getElem?_getD, hp]; rfl
    obtain ⟨hc, ho⟩ := hr i (by simp)
    have hb : behindI i pc = [(pc : Int) + 1] := by
      unfold behindI
      rw [if_neg (by omega), if_neg (by omega), if_neg (by omega)]
    simp only [List.length_cons] at hn hl
    have hmk : marks n [(pc : Int) + 1] m = some (m.set (pc + 1) true) := by
      unfold marks marks
      rw [if_neg (by omega)]
      congr 2
    show (flowG n (i :: (r ++ [⟨15, 0, 0, 0, 0⟩])) pc m).2 = 0
    rw [flowG, hc, if_neg (by simp), hg, if_neg (by simp), hb, hmk]
    have := flow_num n r (pc + 1) (m.set (pc + 1) true) (fun i hi => hr i (by simp [hi])) (by push_cast; omega) (by simpa using hm) (by omega) (by rw [List.getElem?_set_self (by omega)])
    exact this
theorem num_flow {l : List (Int × Int)} (hl : NumL l) : (flowS (numP l)).2 = 0 := by
  have hlen := hl.len
  unfold flowS
  rw [if_neg (by rw [numP_len]; simp [numP]; omega)]
  have h := flow_num ((numP l).length : Int) (⟨1, 0, 1, 0, 0⟩ :: l.map (fun x => (⟨4, 0, 0, x.1, x.2⟩ : Ins))) 0 (true :: List.replicate 127 false) (fun i hi => ?_) (by rw [numP_len]; simp; omega) (by simp) (by simp; omega) rfl
  · exact h
  · rcases List.mem_cons.1 hi with rfl | hi
    · exact ⟨rfl, .inl rfl⟩
    · obtain ⟨x, hx, rfl⟩ := List.mem_map.1 hi
      obtain ⟨k, hk, rfl⟩ := List.getElem_of_mem hx
      have := (numIns hl (show k + 1 < l.length + 2 by omega)).2.2.1
      rw [numPj hk] at this
      exact ⟨this, .inr rfl⟩
theorem num_ahead (d : Nat) {K : Kx} {v : Int} {l : List (Int × Int)} (hl : NumL l) (h0 : 0 ≤ v) (h1 : v ≤ 18446744073709551615) : ∃ s, aheadV (stepF d K) (numP l) ((l.length + 1 : Nat) : Int) = (s, true) ∧ NumSt (valAt v l l.length) s := by
  obtain ⟨w1, w2, w3⟩ := num_walk d (K := K) hl h0 h1 (l.length + 1) 0 beginL (by omega) num_begin
  rw [Nat.add_zero] at w3
  obtain ⟨s, hs, hn⟩ := w3.st l.length rfl (Nat.le_refl _)
  refine ⟨s, ?_, hn⟩
  unfold aheadV
  rw [if_pos ⟨num_flow hl, by omega, by rw [numP_len]; omega⟩, Int.toNat_natCast, if_pos (by exact w2)]
  have hs' : (walkS (stepF d K) (numP l) (l.length + 1) 0 beginL).2.2 ((l.length + 1 : Nat) : Int) = [s] := hs
  rw [hs']
  rfl
theorem has_c (d : Nat) (lo hi v : Int) : evalF Try.prog CC (d + 1) 11 [.agg 36 [.int .u64 lo, .int .u64 hi], .int .u64 v] St.empty = some (.bool (decide (lo ≤ v) && decide (v ≤ hi)), St.empty) := by
  refine wp_eq ?_
  rw [run_11 _ _ _ (by simp)]; unfold Try.f11; simp only [Option.getD_some]
  by_cases c1 : lo ≤ v
  · have c1' := eq_true c1
    simp only [go_sem, c1']
    rfl
  · have c1' := eq_false c1
    simp only [go_sem, c1']
    rfl
def numH (l : List (Int × Int)) (i : Nat) : List Ins := ⟨1, 0, 1, 0, 0⟩ :: (l.take i).map (fun x => (⟨4, 0, 0, x.1, x.2⟩ : Ins))
def numZ (ops imms : List Int) : List (Int × Int) := ((ops.zip imms).take 100).map fun x => (1 + x.1 % 11, x.2)
theorem numZ_ok {ops imms : List Int} (ho : ∀ x ∈ ops, 0 ≤ x ∧ x < 256) (hi : ∀ x ∈ imms, 0 ≤ x ∧ x < 4294967296) : NumL (numZ ops imms) := by
  have hz : ∀ x ∈ numZ ops imms, ∃ o m, x = (1 + o % 11, m) ∧ m ∈ imms := by
    intro x hx
    obtain ⟨y, hy, rfl⟩ := List.mem_map.1 hx
    exact ⟨y.1, y.2, rfl, (List.of_mem_zip (List.mem_of_mem_take hy)).2⟩
  refine ⟨fun x hx => ?_, fun x hx => ?_, ?_⟩
  · obtain ⟨o, m, rfl, _⟩ := hz x hx
    show 1 ≤ 1 + o % 11 ∧ 1 + o % 11 ≤ 11
    omega
  · obtain ⟨o, m, rfl, hm⟩ := hz x hx
    exact hi m hm
  · simp [numZ]; omega
theorem numZ_len (ops imms : List Int) : (numZ ops imms).length = min 100 (min ops.length imms.length) := by simp [numZ]
theorem numZ_get {ops imms : List Int} {i : Nat} (h : i < (numZ ops imms).length) : (numZ ops imms)[i] = (1 + at0 ops (i : Int) % 11, at0 imms (i : Int)) := by
  rw [numZ_len] at h
  rw [at0_nat (by omega), at0_nat (by omega)]
  simp [numZ]
theorem numbers_c (b0 b1 : Bool) (ops imms : List Int) (v : Int) (ho : ∀ x ∈ ops, 0 ≤ x ∧ x < 256) (hi : ∀ x ∈ imms, 0 ≤ x ∧ x < 4294967296) (hol : ops.length ≤ 9223372036854775807) (hil : imms.length ≤ 9223372036854775807) (h0 : 0 ≤ v) (h1 : v ≤ 18446744073709551615) :
    ∃ σ', evalF Try.prog CC 80 3 [.list 5 b0 (ops.map (AV.int .u8)) none, .list 26 b1 (imms.map (AV.int .u32)) none, .int .u64 v] St.empty = some (.bool true, σ') := by
  have hs : evalF Try.prog CC 79 7 [] St.empty = _ := shown_c 59
  have hZ := numZ_ok ho hi
  have hZl := numZ_len ops imms
  have hZg := fun i h => numZ_get (ops := ops) (imms := imms) (i := i) h
  generalize numZ ops imms = l at hZ hZl hZg
  have hll := hZ.len
  refine (show Wp (fun x => ∃ σ', x = some ((AV.bool true, σ') : AV × St)) _ from ?_)
  rw [run_3 _ _ _ (by simp)]; unfold Try.f3; simp only [Option.getD_some]
  simp only [go_sem, hs, Nat.left_eq_add, Nat.add_eq_left, Nat.add_left_cancel_iff, Nat.succ_ne_zero, Nat.add_assoc, Nat.one_ne_zero, Bool.not_false, Bool.not_true]
  refine W.iter_rule (fun i ρ s => ρ 0 = .list 5 b0 (ops.map (AV.int .u8)) none ∧ ρ 1 = .list 26 b1 (imms.map (AV.int .u32)) none ∧ ρ 7 = .bool true ∧ ρ 9 = .int .u64 (valAt v l i) ∧ ρ 10 = .int .i64 i ∧ ∃ v8 kk, ρ 8 = v8 ∧ Gf 28 ((numH l i).map encI) s v8 kk) l.length ?_ ?_ _ 0 _ _ (Nat.zero_le _) ?_ ?_
  · rintro i ρ s hil' ⟨r0, r1, r7, r9, r10, v8, kk, r8, hg⟩ K' hK hx hr'
    have c1 := eq_true (show (i : Int) < (ops.length : Int) by omega)
    have c2 := eq_true (show (i : Int) < (imms.length : Int) by omega)
    have c3 := eq_true (show (i : Int) < 100 by omega)
    have hwrap : IntKind.i64.wrap ((i : Int) + 1) = ((i + 1 : Nat) : Int) := by rw [IntKind.wrap_i64]; omega
    have hzi := hZg i hil'
    have hvs := valAt_succ (v := v) hil'
    have hvr := valAt_rng hZ h0 h1 i
    have hto : l.take (i + 1) = l.take i ++ [l[i]] := List.take_succ_eq_append_getElem hil'
    have hopb := hZ.op _ (List.getElem_mem hil')
    have hob := ho (at0 ops (i : Int)) (at0_mem (by omega) (by omega))
    have him := hi (at0 imms (i : Int)) (at0_mem (by omega) (by omega))
    rw [hzi] at hvs hto hopb
    simp only [go_sem, r0, r1, r7, r8, r9, r10, c1, c2, c3, Nat.left_eq_add, Nat.add_eq_left, Nat.add_left_cancel_iff, Nat.succ_ne_zero, Nat.add_assoc, Nat.one_ne_zero, Bool.not_false, Bool.not_true]
    refine W.idx_at (by omega) (by omega) ?_
    simp only [go_sem, r0, r1, r7, r8, r9, r10, c1, c2, c3, Nat.left_eq_add, Nat.add_eq_left, Nat.add_left_cancel_iff, Nat.succ_ne_zero, Nat.add_assoc, Nat.one_ne_zero, Bool.not_false, Bool.not_true]
    refine W.idx_at (by omega) (by omega) ?_
    generalize at0 ops (i : Int) = o at hvs hto hopb hob ⊢
    generalize hme : at0 imms (i : Int) = m at hvs hto him ⊢
    simp only at hvs hopb
    have e1 : o.tmod 11 = o % 11 := Int.tmod_eq_emod_of_nonneg hob.1
    have e2 : IntKind.u8.wrap (1 + o % 11) = 1 + o % 11 := by rw [IntKind.wrap_u8]; omega
    have e3 : IntKind.i64.wrap (1 + o % 11) = 1 + o % 11 := by rw [IntKind.wrap_i64]; omega
    have e4 : IntKind.u64.wrap m = m := by rw [IntKind.wrap_u64]; omega
    have ha : evalF Try.prog CC 79 8 _ _ = _ := alu_c 76 (1 + o % 11) (valAt v l i) m hopb hvr.1 (by omega) him.1 (by omega)
    have hH : (numH l (i + 1)).map encI = (numH l i).map encI ++ [encI ⟨4, 0, 0, 1 + o % 11, m⟩] := by
      unfold numH
      rw [hto]
      simp
    generalize valAt v l i = w at hvs hvr r9 ha ⊢
    simp only [go_sem, e1, e2, e3, e4, r0, r1, r7, r8, r9, r10, c1, c2, c3, ha, Nat.left_eq_add, Nat.add_eq_left, Nat.add_left_cancel_iff, Nat.succ_ne_zero, Nat.add_assoc, Nat.one_ne_zero, Bool.not_false, Bool.not_true]
    refine W.gf_app (T := T) (t := 29) hg (ys := [encI ⟨4, 0, 0, 1 + o % 11, m⟩]) (by simp) rfl ?_ ?_ ?_
    · rfl
    · refine roomy_of ?_ (by decide)
      simp [numH]
      omega
    simp only [go_sem, e1, e2, e3, e4, r0, r1, r7, r9, r10, Nat.left_eq_add, Nat.add_eq_left, Nat.add_left_cancel_iff, Nat.succ_ne_zero, Nat.add_assoc, Nat.one_ne_zero, Bool.not_false, Bool.not_true]
    refine W.idx_at (by omega) (by omega) ?_
    rw [hme]
    simp only [go_sem, e1, e2, e3, e4, r0, r1, r7, r9, r10, ha, hwrap, Nat.left_eq_add, Nat.add_eq_left, Nat.add_left_cancel_iff, Nat.succ_ne_zero, Nat.add_assoc, Nat.one_ne_zero, Bool.not_false, Bool.not_true]
    refine hK _ _ ?_
    refine ⟨by (try simp only [go_sem, Int.toNat_natCast, List.length_take, *]) <;> first | done | rfl | omega | (simp <;> omega), by (try simp only [go_sem, Int.toNat_natCast, List.length_take, *]) <;> first | done | rfl | omega | (simp <;> omega), by (try simp only [go_sem, Int.toNat_natCast, List.length_take, *]) <;> first | done | rfl | omega | (simp <;> omega), ?_, by (try simp only [go_sem, Int.toNat_natCast, List.length_take, *]) <;> first | done | rfl | omega | (simp <;> omega), _, some s.ntok, rfl, ?_⟩
    · rw [hvs]
      simp only [go_sem, *]
    · rw [hH]
      exact .inl (Gw.new (by simp))
  · rintro ρ s ⟨r0, r1, r7, r9, r10, v8, kk, r8, hg⟩ K' hx hr'
    have hvr := valAt_rng hZ h0 h1 l.length
    obtain ⟨S, hS, hn⟩ := num_ahead 69 (K := ⟨true, [], true, [], true, true⟩) hZ h0 h1
    obtain ⟨lo, hh, hreg, g1, g2, g3, g4⟩ := hn.has
    have hu : ∀ i ∈ numP l, 0 ≤ i.imm ∧ i.imm < 4294967296 := by
      intro i hi
      obtain ⟨n, hn, rfl⟩ := List.getElem_of_mem hi
      have := (numIns hZ (show n < l.length + 2 by rw [← numP_len]; exact hn)).2.2.2
      rw [at0_nat hn] at this
      exact this
    have hck : evalF Try.prog CC 79 9 _ _ = _ := vcheck_c 65 (K := ⟨true, [], true, [], true, true⟩) (bp := false) (p := numP l) (F := stepF 69 ⟨true, [], true, [], true, true⟩) (by simp) hu (fun _ => num_jok 65 hZ h0 h1 (by rw [numP_len]; exact Nat.le_refl _))
    obtain ⟨r, hr, hpr, hah⟩ := Ahead_c 65 (K := ⟨true, [], true, [], true, true⟩) (bp := false) (p := numP l) (F := stepF 69 ⟨true, [], true, [], true, true⟩) (by simp) hu ((l.length + 1 : Nat) : Int) (fun _ _ _ => num_jok 65 hZ h0 h1 (by rw [Int.toNat_natCast]; omega))
    have hah : evalF Try.prog CC 79 10 _ _ = _ := hah
    rw [hS] at hah hr
    have hvc : vchkS (stepF 69 ⟨true, [], true, [], true, true⟩) (numP l) = (0, 0) := by
      obtain ⟨w1, w2, _⟩ := num_walk 69 (K := ⟨true, [], true, [], true, true⟩) hZ h0 h1 (l.length + 2) 0 beginL (by omega) num_begin
      unfold vchkS
      rw [if_pos (num_flow hZ), numP_len]
      exact Prod.ext w1 w2
    rw [hvc] at hck
    have hty : typesV ⟨true, [], true, [], true, true⟩ = .mt true := rfl
    have hmv : mapsV ⟨true, [], true, [], true, true⟩ = .mt true := rfl
    rw [hty, hmv] at hck hah
    have hP : (numP l).map encI = (numH l l.length).map encI ++ [encI ⟨15, 0, 0, 0, 0⟩] := by
      unfold numP numH
      rw [List.take_length]
      simp
    simp only [encP, hP] at hck hah
    have hln : ((numH l l.length).map encI).length = l.length + 1 := by simp [numH]
    have hhs := fun d => has_c d lo hh (valAt v l l.length)
    have k1 := eq_true g1
    have k2 := eq_true g2
    generalize valAt v l l.length = w at hvr r9 g1 g2 hhs k1 k2 hn
    have hrg : (S.regs.map encW)[0]? = some (encW (numW lo hh)) := by
      have := get_W (i := 0) (l := S.regs) (by omega) (by rw [hn.ok.1]; omega)
      rw [hreg] at this
      exact this
    obtain ⟨f1, g1', z1, z2, z3, z4, z5, z6, z7, z8⟩ := hr.fq
    have hgo : Wp (fun x => ∃ σ', x = some ((AV.bool true, σ') : AV × St)) (some (AV.bool true, St.empty)) := ⟨_, rfl⟩
    have hl2 : ((numH l l.length).map encI ++ [encI ⟨15, 0, 0, 0, 0⟩]).length = l.length + 2 := by rw [List.length_append, hln]; rfl
    have hw2 : IntKind.i64.wrap (((l.length + 2 : Nat) : Int) - 1) = ((l.length + 1 : Nat) : Int) := by rw [IntKind.wrap_i64]; omega
    have hix : ∀ id q, aIndexAddr T 39 (.ptr 39 id q) (.int .i64 0) = some (.ptr 38 id (q ++ [0])) := fun id q => ix_regI id q (by omega) (by omega)
    simp only [encW, numW] at hrg
    have ex : encI ⟨15, 0, 0, 0, 0⟩ = .agg 28 [.int .u8 15, .int .u8 0, .int .u8 0, .int .u8 0, .int .u32 0] := rfl
    rw [ex] at hck hah hl2
    obtain ⟨b1', b2', b3', hb, hb'⟩ : ∃ b1 b2 b3 : Prop, (((l.length : Int) < (ops.length : Int)) = b1 ∧ ((l.length : Int) < (imms.length : Int)) = b2 ∧ ((l.length : Int) < 100) = b3) ∧ (b1 = False ∨ b1 = True ∧ b2 = False ∨ b1 = True ∧ b2 = True ∧ b3 = False) := by
      rcases (show ¬ (l.length : Int) < (ops.length : Int) ∨ ((l.length : Int) < (ops.length : Int) ∧ ¬ (l.length : Int) < (imms.length : Int)) ∨ ((l.length : Int) < (ops.length : Int) ∧ (l.length : Int) < (imms.length : Int) ∧ ¬ (l.length : Int) < 100) by omega) with c | ⟨c, c'⟩ | ⟨c, c', c''⟩
      · exact ⟨_, _, _, ⟨eq_false c, rfl, rfl⟩, .inl rfl⟩
      · exact ⟨_, _, _, ⟨eq_true c, eq_false c', rfl⟩, .inr (.inl ⟨rfl, rfl⟩)⟩
      · exact ⟨_, _, _, ⟨eq_true c, eq_true c', eq_false c''⟩, .inr (.inr ⟨rfl, rfl, rfl⟩)⟩
    obtain ⟨c1, c2, c3⟩ := hb
    rcases hb' with rfl | ⟨rfl, rfl⟩ | ⟨rfl, rfl, rfl⟩
    all_goals
      simp only [go_sem, hx, r0, r1, r7, r8, r9, r10, c1, c2, c3, Nat.left_eq_add, Nat.add_eq_left, Nat.add_left_cancel_iff, Nat.succ_ne_zero, Nat.add_assoc, Nat.one_ne_zero, Bool.not_false, Bool.not_true]
      refine W.gf_app (T := T) (t := 29) hg (ys := [encI ⟨15, 0, 0, 0, 0⟩]) (by simp) rfl ?_ ?_ ?_
      · rfl
      · refine roomy_of ?_ (by decide)
        rw [hln]
        simp
        omega
      simp only [go_sem, r0, r1, r7, r9, r10, hck, hl2, hw2, Nat.left_eq_add, Nat.add_eq_left, Nat.add_left_cancel_iff, Nat.succ_ne_zero, Nat.add_assoc, Nat.one_ne_zero, Bool.not_false, Bool.not_true]
      refine call_tupS hah (encS_pureA hpr) rfl (by simp only [go_sem, viewIdsL, viewIds, Nat.left_eq_add, Nat.add_eq_left, Nat.add_left_cancel_iff, Nat.succ_ne_zero, Nat.add_assoc, Nat.one_ne_zero, Bool.not_false, Bool.not_true]) ?_
      simp only [go_sem, r0, r1, r7, r9, r10, hck, hl2, hw2, hix, hrg, hhs, k1, k2, Nat.left_eq_add, Nat.add_eq_left, Nat.add_left_cancel_iff, Nat.succ_ne_zero, Nat.add_assoc, Nat.one_ne_zero, Bool.not_false, Bool.not_true]
    all_goals exact hgo
  · show l.length < 0 + 9223372036854775900
    omega
  · exact ⟨by (try simp only [go_sem, Int.toNat_natCast, List.length_take, *]) <;> first | done | rfl | omega | (simp <;> omega), by (try simp only [go_sem, Int.toNat_natCast, List.length_take, *]) <;> first | done | rfl | omega | (simp <;> omega), by (try simp only [go_sem, Int.toNat_natCast, List.length_take, *]) <;> first | done | rfl | omega | (simp <;> omega), by (try simp only [go_sem, Int.toNat_natCast, List.length_take, *]) <;> first | done | rfl | omega | (simp <;> omega), by (try simp only [go_sem, Int.toNat_natCast, List.length_take, *]) <;> first | done | rfl | omega | (simp <;> omega), _, none, rfl, .inr ⟨rfl, rfl⟩⟩
end Go.Proofs.Yticlihmbikcohaa.Va

/- chapter 19: the law of numbers, of arguments -/
namespace Go.Proofs.Yticlihmbikcohaa.Va
open Go
set_option linter.unusedVariables false
theorem numbers_law (d : Nat) (a0 a1 a2 : AV) (g0 : Arg T 22 a0) (g1 : Arg T 23 a1) (g2 : Arg T 24 a2) : ∃ σ', evalF Try.prog CC 80 3 [a0, a1, a2] St.empty = some (.bool true, σ') := by
  have hmx : maxLen ≤ 9223372036854775807 := by decide
  obtain ⟨b0, xs, rfl, hx, _, hl0⟩ := arg_slice g0 ty_22
  obtain ⟨b1, ys, rfl, hy, _, hl1⟩ := arg_slice g1 ty_23
  obtain ⟨ops, rfl, ho⟩ := map_ofP (p := fun _ => True) (g := AV.int .u8) (P := fun n => 0 ≤ n ∧ n < 256) (fun x hx' => arg_u8 (hx x hx'))
  obtain ⟨imms, rfl, hi⟩ := map_ofP (p := fun _ => True) (g := AV.int .u32) (P := fun n => 0 ≤ n ∧ n < 4294967296) (fun x hx' => arg_u32 (hy x hx'))
  obtain ⟨v, rfl, h0, h1⟩ := arg_u64 g2
  exact numbers_c b0 b1 ops imms v ho hi (Nat.le_trans (by simpa using hl0) hmx) (Nat.le_trans (by simpa using hl1) hmx) h0 (by omega)
end Go.Proofs.Yticlihmbikcohaa.Va

/- chapter 19: what is told from outside holds -/
namespace Go.Proofs.Yticlihmbikcohaa.Va
open Go Go.RowKit
set_option linter.unusedVariables false
theorem told_nameB (s : ByteArray) : HWireName.Told s (nameB s) := by
  have hget : ∀ i (h : i < s.size), s[i]'h = s.data.toList[i]'(by rw [Array.length_toList]; exact h) := fun i h => rfl
  refine ⟨fun h => ?_, fun h => ?_⟩
  · simp only [nameB, Bool.and_eq_true, decide_eq_true_eq] at h
    refine ⟨fun i hi _ => ?_, h.1.2, h.2⟩
    rw [hget i hi]
    exact List.all_eq_true.1 h.1.1 _ (List.getElem_mem _)
  · by_cases h1 : s.data.toList.all (fun b => HWireName.okB (b.toNat : Int)) = true
    · by_cases h2 : 0 < s.size
      · refine .inr (.inr ?_)
        have h3 : ¬ s.size ≤ 16 := by
          intro h3
          simp [nameB, h1, h2, h3] at h
        omega
      · exact .inr (.inl (by omega))
    · refine .inl ?_
      have : ∃ b ∈ s.data.toList, ¬ HWireName.okB (b.toNat : Int) = true := by
        rw [List.all_eq_true] at h1
        exact Classical.not_forall.1 h1 |>.imp fun b hb => by simpa using hb
      obtain ⟨b, hb, hk⟩ := this
      obtain ⟨i, hi, rfl⟩ := List.mem_iff_getElem.1 hb
      exact ⟨i, by rw [Array.length_toList] at hi; exact hi, by rw [hget]; simpa using hk⟩
theorem enters {P : Program} {f : FuncId} {fn : Func} {b : Code} (hf : P.funcs[f]? = some fn) (hb : fn.body = some b) (hn : (fn.name != "runtime.NumGoroutine") = true) (vs : Array Value) (w : World) : (callFunc f vs).run P w = .ok (.enter f vs) w := by
  have hn : ¬ fn.name = "runtime.NumGoroutine" := by simpa using hn
  simp [callFunc, hf, hb, hn]
theorem ext_ok : ExtOk Try.prog CC := by
  intro base c σ w f g args vs v σ' hg hI h hA
  have hg : ext5 f = some g := hg
  unfold ext5 at hg
  split at hg
  · simp only [Option.some.injEq] at hg
    subst hg
    dsimp only at h
    split at h
    · rename_i s
      simp only [Option.some.injEq, Prod.mk.injEq] at h
      obtain ⟨rfl, rfl⟩ := h
      obtain ⟨hl, hv⟩ := hA
      obtain ⟨vl⟩ := vs
      match vl, hl with
      | [x], _ =>
        obtain rfl := rep_str (hv 0 _ _ rfl rfl)
        show Goes Try.prog 67 _ _ _
        refine .inl ⟨enters Try.func67 (b := Try.f67.body.getD .skip) rfl (by kernel_rfl) _ _, (HWireName.walk s w).mono fun e w' ⟨b, he, ht, hb⟩ => ⟨.bool b, he, c, ⟨.refl c, hb.mono hI.le, fun _ _ _ => rfl, fun _ _ => rfl⟩, hI.far hb, ?_⟩⟩
        rw [HWireName.Told.one ht (told_nameB s)]
        exact mk_bool _
    · cases h
  · simp only [Option.some.injEq] at hg
    subst hg
    dsimp only at h
    split at h
    · rename_i x y k
      split at h
      · rename_i hc
        simp only [Option.some.injEq, Prod.mk.injEq] at h
        obtain ⟨rfl, rfl⟩ := h
        obtain ⟨hl, hv⟩ := hA
        obtain ⟨vl⟩ := vs
        match vl, hl with
        | [x1, x2, x3], _ =>
          obtain rfl := rep_int (hv 0 _ _ rfl rfl)
          obtain rfl := rep_int (hv 1 _ _ rfl rfl)
          obtain rfl := rep_int (hv 2 _ _ rfl rfl)
          refine .inr ⟨.tuple #[.int .u64 ((x + y + k) % 18446744073709551616), .int .u64 ((x + y + k) / 18446744073709551616)], w, ?_, c, .refl _ _ _, hI, ?_⟩
          · show (callFunc 73 _).run _ _ = _
            rw [run_callFunc_extern Try.func73 (by kernel_rfl) (by kernel_rfl) (by kernel_rfl) (e := add64Entry) (by kernel_rfl), run_add64 x y k hc.1 hc.2.1 hc.2.2.1 hc.2.2.2]
            rfl
          · exact ⟨[_, _], rfl, rfl, fun i a b ha hb => by
              match i with
              | 0 => simp at ha hb; subst ha; subst hb; exact ⟨_, .int _ _ _, rfl⟩
              | 1 => simp at ha hb; subst ha; subst hb; exact ⟨_, .int _ _ _, rfl⟩
              | i + 2 => simp at ha⟩
      · cases h
    · cases h
  · cases hg
theorem peek_ok : ∀ f, CC.peek f = true → stillF Try.prog CC f = true := by
  intro f h
  cases h
theorem calls_ok (hm : Try.prog.follows .mixedOrders = true) (d : Nat) : CallOk Try.prog CC (evalF Try.prog CC d) :=
  evalF_sound tabOk ext_ok peek_ok (fun call f b c0 w0 N D r hC hG => draw_sound tabOk hm hC hG) d
end Go.Proofs.Yticlihmbikcohaa.Va
