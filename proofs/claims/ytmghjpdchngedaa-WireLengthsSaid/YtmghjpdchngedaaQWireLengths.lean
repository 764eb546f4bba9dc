/- the printed functions of wire, told in plain lists -/
import Derived.Test.YtmghjpdchngedaaPWireLengthsx
import Derived.Test.YtmghjpdchngedaaQBase2
import Derived.Laws.Bits64
import Derived.Laws.Bits64b
namespace Go.Proofs.Ytmghjpdchngedaa.QWireLengths
set_option linter.unusedVariables false
set_option linter.unusedSimpArgs false
open Go.RowKit Go.Proofs.YtmghjpdchngedaaW.PrintWords Go.Proofs.YtmghjpdchngedaaW.PrintLast Go.Proofs.YtmghjpdchngedaaW.PrintMore Go.Proofs.Ytmghjpdchngedaa.PWireLengths Go.Proofs.Ytmghjpdchngedaa.QBase Go.Proofs.Ytmghjpdchngedaa.HWireName

theorem u64_id {n : Int} (h0 : 0 ≤ n) (h : n < 18446744073709551616) : IntKind.u64.wrap n = n := by rw [IntKind.wrap_u64]; omega
theorem wrap_id {n : Int} (h0 : -9223372036854775808 ≤ n) (h : n < 9223372036854775808) : wrap64 n = n := by unfold wrap64; omega
theorem number_ev (n : Nat) : n < 18446744073709551616 → ∀ acc : List Int, acc.length + (num n).length < 140737488355328 → Ev (fun k => wire_Number.l0 k (n : Int) acc) (acc ++ num n) := by
  refine num_induct (P := fun n => n < 18446744073709551616 → ∀ acc : List Int, acc.length + (num n).length < 140737488355328 → Ev (fun k => wire_Number.l0 k (n : Int) acc) (acc ++ num n)) (fun n h hn acc hl => ?_) (fun n h ih hn acc hl => ?_) n
  · rw [num_small h] at hl ⊢
    refine Ev.step (f := fun _ => some (acc ++ [(n : Int)])) (fun k => ?_) (Ev.now _)
    simp only [wire_Number.l0]
    rw [if_neg (by omega), if_pos (by simp at hl; omega)]
    congr 3; omega
  · rw [num_great h] at hl ⊢
    have hd : Int.tdiv (n : Int) 128 = ((n / 128 : Nat) : Int) := by rw [Int.tdiv_eq_ediv_of_nonneg (by omega)]; omega
    have hm : Int.tmod (n : Int) 128 = ((n % 128 : Nat) : Int) := by rw [Int.tmod_eq_emod_of_nonneg (by omega)]; omega
    have h2 := ih (by omega) (acc ++ [((n % 128 + 128 : Nat) : Int)]) (by simp at hl ⊢; omega)
    rw [List.append_assoc] at h2
    refine Ev.step (f := fun k => wire_Number.l0 k ((n / 128 : Nat) : Int) (acc ++ [((n % 128 + 128 : Nat) : Int)])) (fun k => ?_) h2
    simp only [wire_Number.l0]
    rw [if_pos (by omega), if_pos (by simp at hl; omega), hd, hm, u64_id (by omega) (by omega)]
    congr 3; omega
theorem Number_ev {a : Int} (h0 : 0 ≤ a) (hn : a < 18446744073709551616) : Ev (fun k => wire_Number.f k a) (num a.toNat) := by
  have := number_ev a.toNat (by omega) [] (by have := num_len10 a.toNat (by omega); simp; omega)
  rw [Int.toNat_of_nonneg h0] at this
  simpa [wire_Number.f] using this

theorem or_val (a d i : Nat) (ha : a < 128 ^ i) (hd : d < 128) (hi : i ≤ 9) (h9 : i = 9 → d ≤ 1) :
    Go.bits .or .u64 (a : Int) (shl .u64 (IntKind.u64.wrap (Int.tmod (d : Int) 128)) (wrap64 (7 * (i : Int)))) = ((a + 128 ^ i * d : Nat) : Int) := by
  have e : (128 : Nat) ^ i = 2 ^ (7 * i) := by rw [Nat.pow_mul]
  have hm : Int.tmod (d : Int) 128 = (d : Int) := by rw [Int.tmod_eq_emod_of_nonneg (by omega)]; omega
  have hp : (128 : Nat) ^ i ≤ 128 ^ 9 := Nat.pow_le_pow_right (by omega) hi
  have hlt : 128 ^ i * d < 18446744073709551616 := by
    by_cases e9 : i = 9
    · have := h9 e9; subst e9; have : 128 ^ 9 * d ≤ 128 ^ 9 * 1 := Nat.mul_le_mul_left _ this; omega
    · have h8 : (128 : Nat) ^ i ≤ 128 ^ 8 := Nat.pow_le_pow_right (by omega) (by omega)
      have h1 : 128 ^ i * d ≤ 128 ^ 8 * d := Nat.mul_le_mul_right _ h8
      have h2 : 128 ^ 8 * d ≤ 128 ^ 8 * 127 := Nat.mul_le_mul_left _ (by omega)
      omega
  rw [hm, u64_id (by omega) (by omega), wrap_id (by omega) (by omega)]
  unfold shl
  have e2 : min (7 * (i : Int)).toNat IntKind.u64.bits = 7 * i := by
    have : IntKind.u64.bits = 64 := rfl
    rw [this]; omega
  rw [e2]
  have e3 : (d : Int) * 2 ^ (7 * i) = ((128 ^ i * d : Nat) : Int) := by rw [e]; push_cast; exact Int.mul_comm _ _
  rw [e3, u64_id (by omega) (by omega), bits_or_u64_nat _ _ (by omega) hlt]
  have hor := Nat.two_pow_add_eq_or_of_lt (show a < 2 ^ (7 * i) by rw [← e]; exact ha) d
  rw [← e] at hor
  rw [Nat.or_comm, ← hor, Nat.add_comm]

theorem takeNumber_ev (xs : List Int) (hb : Byt xs) (hl : xs.length ≤ 140737488351232) (m : Nat) : ∀ i : Nat, i + m = 9 → i ≤ xs.length → i ≤ kk xs →
    Ev (fun k => wire_TakeNumber.l0 k (vl (xs.take i) : Int) xs (xs.length : Int) (i : Int)) (takeN xs) := by
  induction m with
  | zero =>
    intro i hi h1 h2
    obtain rfl : i = 9 := by omega
    have hk := kk_le xs
    by_cases he : 9 = xs.length
    · have : takeN xs = (0, 0, 2) := by unfold takeN; rw [if_neg (by omega), if_pos (by omega)]
      rw [this]
      refine Ev.step (f := fun _ => some (0, 0, 2)) (fun k => ?_) (Ev.now _)
      simp only [wire_TakeNumber.l0]; rw [if_neg (by omega)]
    · have hr := hb.at_ ((9 : Nat) : Int)
      by_cases h128 : rd xs ((9 : Nat) : Int) ≥ 128
      · have h10 : 10 ≤ kk xs := kk_ge xs 10 (by omega) (fun j hj => by
          by_cases e : j = 9
          · subst e; exact h128
          · exact kk_lt xs j (by omega))
        have : takeN xs = (0, 0, 3) := by unfold takeN; rw [if_pos h10]
        rw [this]
        refine Ev.step (f := fun k => wire_TakeNumber.j1 k (vl (xs.take 9) : Int) ((9 : Nat) : Int) (rd xs ((9 : Nat) : Int)) xs (xs.length : Int) ((9 : Nat) : Int) true) (fun k => ?_) ?_
        · simp only [wire_TakeNumber.l0]; rw [if_pos (by omega), if_pos (by omega), if_pos (by omega), if_pos (by omega), if_pos h128]
        · refine Ev.step (f := fun _ => some (0, 0, 3)) (fun k => ?_) (Ev.now _)
          simp only [wire_TakeNumber.j1]; rw [if_pos trivial]
      · have hkk : kk xs = 9 := kk_eq xs 9 (by omega) (fun j hj => kk_lt xs j (by omega)) (fun _ => by omega)
        refine Ev.step (f := fun k => wire_TakeNumber.j1 k (vl (xs.take 9) : Int) ((9 : Nat) : Int) (rd xs ((9 : Nat) : Int)) xs (xs.length : Int) ((9 : Nat) : Int) (rd xs ((9 : Nat) : Int) == 0)) (fun k => ?_) ?_
        · simp only [wire_TakeNumber.l0]; rw [if_pos (by omega), if_pos (by omega), if_pos (by omega), if_pos (by omega), if_neg h128]
        · unfold takeN
          rw [hkk, if_neg (by omega), if_neg (by omega)]
          by_cases h0 : rd xs ((9 : Nat) : Int) = 0
          · rw [if_pos ⟨h0, by omega⟩]
            refine Ev.step (f := fun _ => some (0, 0, 3)) (fun k => ?_) (Ev.now _)
            simp only [wire_TakeNumber.j1]; rw [h0, if_pos (by decide)]
          · have hf : (rd xs ((9 : Nat) : Int) == 0) = false := beq_eq_false_iff_ne.2 h0
            rw [if_neg (fun h => h0 h.1)]
            by_cases h1' : 1 < rd xs ((9 : Nat) : Int)
            · rw [if_pos ⟨rfl, h1'⟩]
              refine Ev.step (f := fun _ => some (0, 0, 4)) (fun k => ?_) (Ev.now _)
              simp only [wire_TakeNumber.j1]; rw [hf, if_neg (by decide), if_pos (by omega)]
            · rw [if_neg (fun h => h1' h.2)]
              refine Ev.step (f := fun k => wire_TakeNumber.j2 k (vl (xs.take 9) : Int) ((9 : Nat) : Int) (rd xs ((9 : Nat) : Int)) xs (xs.length : Int) ((9 : Nat) : Int)) (fun k => ?_) ?_
              · simp only [wire_TakeNumber.j1]; rw [hf, if_neg (by decide), if_neg (by omega)]
              · have e1 : rd xs ((9 : Nat) : Int) = ((1 : Nat) : Int) := by omega
                have hv := vl_take_succ xs 9 (by omega)
                have ho := or_val (vl (xs.take 9)) 1 9 (by have := vl_lt (xs.take 9); rw [List.length_take, Nat.min_eq_left (by omega)] at this; exact this) (by omega) (by omega) (by omega)
                rw [e1] at hv ⊢
                refine Ev.step (f := fun _ => some ((vl (xs.take (9 + 1)) : Int), ((9 + 1 : Nat) : Int), 0)) (fun k => ?_) (Ev.now _)
                simp only [wire_TakeNumber.j2]
                have e3 : ((1 : Nat) : Int).toNat % 128 = 1 := by decide
                rw [e3] at hv
                rw [if_pos (by rw [wrap_id (by omega) (by omega)]; omega), if_pos (by omega), if_neg (by omega), ho, hv, wrap_id (n := ((9 : Nat) : Int) + 1) (by omega) (by omega)]
                rfl
  | succ m ih =>
    intro i hi h1 h2
    have hk := kk_le xs
    by_cases he : i = xs.length
    · have : takeN xs = (0, 0, 2) := by unfold takeN; rw [if_neg (by omega), if_pos (by omega)]
      rw [this]
      refine Ev.step (f := fun _ => some (0, 0, 2)) (fun k => ?_) (Ev.now _)
      simp only [wire_TakeNumber.l0]; rw [if_neg (by omega)]
    · have hr := hb.at_ (i : Int)
      have hvl := vl_lt (xs.take i)
      rw [List.length_take, Nat.min_eq_left (by omega)] at hvl
      refine Ev.step (f := fun k => wire_TakeNumber.j2 k (vl (xs.take i) : Int) (i : Int) (rd xs (i : Int)) xs (xs.length : Int) (i : Int)) (fun k => ?_) ?_
      · simp only [wire_TakeNumber.l0]; rw [if_pos (by omega), if_pos (by omega), if_pos (by omega), if_neg (by omega)]
      · have hv := vl_take_succ xs i (by omega)
        by_cases h128 : rd xs (i : Int) < 128
        · have hkk : kk xs = i := kk_eq xs i (by omega) (fun j hj => kk_lt xs j (by omega)) (fun _ => h128)
          unfold takeN
          rw [hkk, if_neg (by omega), if_neg (by omega)]
          have ho := or_val (vl (xs.take i)) (rd xs (i : Int)).toNat i hvl (by omega) (by omega) (by omega)
          rw [Int.toNat_of_nonneg hr.1] at ho
          have hvv : ((vl (xs.take i) + 128 ^ i * (rd xs (i : Int)).toNat : Nat) : Int) = (vl (xs.take (i + 1)) : Int) := by rw [hv, Nat.mod_eq_of_lt (by omega)]
          rw [hvv] at ho
          by_cases h0 : rd xs (i : Int) = 0 ∧ 0 < i
          · rw [if_pos h0]
            refine Ev.step (f := fun _ => some (0, 0, 3)) (fun k => ?_) (Ev.now _)
            simp only [wire_TakeNumber.j2]; rw [if_pos (by rw [wrap_id (by omega) (by omega)]; omega), if_pos h128, if_pos h0.1, if_pos (by omega)]
          · rw [if_neg h0, if_neg (by omega)]
            refine Ev.step (f := fun _ => some ((vl (xs.take (i + 1)) : Int), ((i + 1 : Nat) : Int), 0)) (fun k => ?_) (Ev.now _)
            simp only [wire_TakeNumber.j2]
            rw [if_pos (by rw [wrap_id (by omega) (by omega)]; omega), if_pos h128, ho, wrap_id (n := (i : Int) + 1) (by omega) (by omega)]
            by_cases hz : rd xs (i : Int) = 0
            · rw [if_pos hz, if_neg (by omega)]; rfl
            · rw [if_neg hz]; rfl
        · have hk1 : i + 1 ≤ kk xs := kk_ge xs (i + 1) (by omega) (fun j hj => by
            by_cases e : j = i
            · subst e; omega
            · exact kk_lt xs j (by omega))
          have h2' := ih (i + 1) (by omega) (by omega) hk1
          refine Ev.step (f := fun k => wire_TakeNumber.l0 k (vl (xs.take (i + 1)) : Int) xs (xs.length : Int) ((i + 1 : Nat) : Int)) (fun k => ?_) h2'
          have hmod : Int.tmod (rd xs (i : Int)) 128 = Int.tmod (((rd xs (i : Int)).toNat % 128 : Nat) : Int) 128 := by
            rw [Int.tmod_eq_emod_of_nonneg hr.1, Int.tmod_eq_emod_of_nonneg (by omega)]; omega
          have ho := or_val (vl (xs.take i)) ((rd xs (i : Int)).toNat % 128) i hvl (by omega) (by omega) (by omega)
          rw [← hmod, ← hv] at ho
          simp only [wire_TakeNumber.j2]
          rw [if_pos (by rw [wrap_id (by omega) (by omega)]; omega), if_neg h128, ho, wrap_id (n := (i : Int) + 1) (by omega) (by omega)]
          rfl
theorem TakeNumber_ev {xs : List Int} (hb : Byt xs) (hl : xs.length ≤ 140737488351232) : Ev (fun k => wire_TakeNumber.f k xs) (takeN xs) := by
  have := takeNumber_ev xs hb hl 9 0 (by omega) (by omega) (by omega)
  simpa [wire_TakeNumber.f, vl] using this
theorem shown_ev : Ev (fun k => turnbucklelaw04_shown.f k) true := Ev.of (k := 20) turnbucklelaw04_shown.mono (by decide +kernel)
end Go.Proofs.Ytmghjpdchngedaa.QWireLengths
