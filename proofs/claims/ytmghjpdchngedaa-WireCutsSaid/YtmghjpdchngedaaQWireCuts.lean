/- the printed functions of wire, told in plain lists -/
import Derived.Test.YtmghjpdchngedaaPWireCutsx
import Derived.Test.YtmghjpdchngedaaQBase2
import Derived.Laws.Bits64
import Derived.Laws.Bits64b
namespace Go.Proofs.Ytmghjpdchngedaa.QWireCuts
set_option linter.unusedVariables false
set_option linter.unusedSimpArgs false
open Go.RowKit Go.Proofs.YtmghjpdchngedaaW.PrintWords Go.Proofs.YtmghjpdchngedaaW.PrintLast Go.Proofs.YtmghjpdchngedaaW.PrintMore Go.Proofs.Ytmghjpdchngedaa.PWireCuts Go.Proofs.Ytmghjpdchngedaa.QBase Go.Proofs.Ytmghjpdchngedaa.HWireName

theorem u64_id {n : Int} (h0 : 0 ≤ n) (h : n < 18446744073709551616) : IntKind.u64.wrap n = n := by rw [IntKind.wrap_u64]; omega
theorem wrap_id {n : Int} (h0 : -9223372036854775808 ≤ n) (h : n < 9223372036854775808) : wrap64 n = n := by unfold wrap64; omega
theorem number_ev (n : Nat) : n < 18446744073709551616 → ∀ acc : List Int, acc.length + (num n).length < 140737488355328 → Ev (fun k => wire_Number.l0 k (n : Int) acc) (acc ++ num n) := by
  refine num_induct (P := fun n => n < 18446744073709551616 → ∀ acc : List Int, acc.length + (num n).length < 140737488355328 → Ev (fun k => wire_Number.l0 k (n : Int) acc) (acc ++ num n)) (fun n h hn acc hl => ?_) (fun n h ih hn acc hl => ?_) n
  · rw [num_small h] at hl ⊢
    refine Ev.step (f := fun _ => some (acc ++ [(n : Int)])) (fun k => ?_) (Ev.now _)
    simp only [wire_Number.l0]
    rw [if_neg (by omega), if_pos (by simp at hl; omega)]
    congr 3; omega
  · rw [num_great h] at hl ⊢
    have hd : Int.tdiv (n : Int) 128 = ((n / 128 : Nat) : Int) := by rw [Int.tdiv_eq_ediv_of_nonneg (by omega)]; omega
    have hm : Int.tmod (n : Int) 128 = ((n % 128 : Nat) : Int) := by rw [Int.tmod_eq_emod_of_nonneg (by omega)]; omega
    have h2 := ih (by omega) (acc ++ [((n % 128 + 128 : Nat) : Int)]) (by simp at hl ⊢; omega)
    rw [List.append_assoc] at h2
    refine Ev.step (f := fun k => wire_Number.l0 k ((n / 128 : Nat) : Int) (acc ++ [((n % 128 + 128 : Nat) : Int)])) (fun k => ?_) h2
    simp only [wire_Number.l0]
    rw [if_pos (by omega), if_pos (by simp at hl; omega), hd, hm, u64_id (by omega) (by omega)]
    congr 3; omega
theorem Number_ev {a : Int} (h0 : 0 ≤ a) (hn : a < 18446744073709551616) : Ev (fun k => wire_Number.f k a) (num a.toNat) := by
  have := number_ev a.toNat (by omega) [] (by have := num_len10 a.toNat (by omega); simp; omega)
  rw [Int.toNat_of_nonneg h0] at this
  simpa [wire_Number.f] using this

theorem or_val (a d i : Nat) (ha : a < 128 ^ i) (hd : d < 128) (hi : i ≤ 9) (h9 : i = 9 → d ≤ 1) :
    Go.bits .or .u64 (a : Int) (shl .u64 (IntKind.u64.wrap (Int.tmod (d : Int) 128)) (wrap64 (7 * (i : Int)))) = ((a + 128 ^ i * d : Nat) : Int) := by
  have e : (128 : Nat) ^ i = 2 ^ (7 * i) := by rw [Nat.pow_mul]
  have hm : Int.tmod (d : Int) 128 = (d : Int) := by rw [Int.tmod_eq_emod_of_nonneg (by omega)]; omega
  have hp : (128 : Nat) ^ i ≤ 128 ^ 9 := Nat.pow_le_pow_right (by omega) hi
  have hlt : 128 ^ i * d < 18446744073709551616 := by
    by_cases e9 : i = 9
    · have := h9 e9; subst e9; have : 128 ^ 9 * d ≤ 128 ^ 9 * 1 := Nat.mul_le_mul_left _ this; omega
    · have h8 : (128 : Nat) ^ i ≤ 128 ^ 8 := Nat.pow_le_pow_right (by omega) (by omega)
      have h1 : 128 ^ i * d ≤ 128 ^ 8 * d := Nat.mul_le_mul_right _ h8
      have h2 : 128 ^ 8 * d ≤ 128 ^ 8 * 127 := Nat.mul_le_mul_left _ (by omega)
      omega
  rw [hm, u64_id (by omega) (by omega), wrap_id (by omega) (by omega)]
  unfold shl
  have e2 : min (7 * (i : Int)).toNat IntKind.u64.bits = 7 * i := by
    have : IntKind.u64.bits = 64 := rfl
    rw [this]; omega
  rw [e2]
  have e3 : (d : Int) * 2 ^ (7 * i) = ((128 ^ i * d : Nat) : Int) := by rw [e]; push_cast; exact Int.mul_comm _ _
  rw [e3, u64_id (by omega) (by omega), bits_or_u64_nat _ _ (by omega) hlt]
  have hor := Nat.two_pow_add_eq_or_of_lt (show a < 2 ^ (7 * i) by rw [← e]; exact ha) d
  rw [← e] at hor
  rw [Nat.or_comm, ← hor, Nat.add_comm]

theorem takeNumber_ev (xs : List Int) (hb : Byt xs) (hl : xs.length ≤ 140737488351232) (m : Nat) : ∀ i : Nat, i + m = 9 → i ≤ xs.length → i ≤ kk xs →
    Ev (fun k => wire_TakeNumber.l0 k (vl (xs.take i) : Int) xs (xs.length : Int) (i : Int)) (takeN xs) := by
  induction m with
  | zero =>
    intro i hi h1 h2
    obtain rfl : i = 9 := by omega
    have hk := kk_le xs
    by_cases he : 9 = xs.length
    · have : takeN xs = (0, 0, 2) := by unfold takeN; rw [if_neg (by omega), if_pos (by omega)]
      rw [this]
      refine Ev.step (f := fun _ => some (0, 0, 2)) (fun k => ?_) (Ev.now _)
      simp only [wire_TakeNumber.l0]; rw [if_neg (by omega)]
    · have hr := hb.at_ ((9 : Nat) : Int)
      by_cases h128 : rd xs ((9 : Nat) : Int) ≥ 128
      · have h10 : 10 ≤ kk xs := kk_ge xs 10 (by omega) (fun j hj => by
          by_cases e : j = 9
          · subst e; exact h128
          · exact kk_lt xs j (by omega))
        have : takeN xs = (0, 0, 3) := by unfold takeN; rw [if_pos h10]
        rw [this]
        refine Ev.step (f := fun k => wire_TakeNumber.j1 k (vl (xs.take 9) : Int) ((9 : Nat) : Int) (rd xs ((9 : Nat) : Int)) xs (xs.length : Int) ((9 : Nat) : Int) true) (fun k => ?_) ?_
        · simp only [wire_TakeNumber.l0]; rw [if_pos (by omega), if_pos (by omega), if_pos (by omega), if_pos (by omega), if_pos h128]
        · refine Ev.step (f := fun _ => some (0, 0, 3)) (fun k => ?_) (Ev.now _)
          simp only [wire_TakeNumber.j1]; rw [if_pos trivial]
      · have hkk : kk xs = 9 := kk_eq xs 9 (by omega) (fun j hj => kk_lt xs j (by omega)) (fun _ => by omega)
        refine Ev.step (f := fun k => wire_TakeNumber.j1 k (vl (xs.take 9) : Int) ((9 : Nat) : Int) (rd xs ((9 : Nat) : Int)) xs (xs.length : Int) ((9 : Nat) : Int) (rd xs ((9 : Nat) : Int) == 0)) (fun k => ?_) ?_
        · simp only [wire_TakeNumber.l0]; rw [if_pos (by omega), if_pos (by omega), if_pos (by omega), if_pos (by omega), if_neg h128]
        · unfold takeN
          rw [hkk, if_neg (by omega), if_neg (by omega)]
          by_cases h0 : rd xs ((9 : Nat) : Int) = 0
          · rw [if_pos ⟨h0, by omega⟩]
            refine Ev.step (f := fun _ => some (0, 0, 3)) (fun k => ?_) (Ev.now _)
            simp only [wire_TakeNumber.j1]; rw [h0, if_pos (by decide)]
          · have hf : (rd xs ((9 : Nat) : Int) == 0) = false := beq_eq_false_iff_ne.2 h0
            rw [if_neg (fun h => h0 h.1)]
            by_cases h1' : 1 < rd xs ((9 : Nat) : Int)
            · rw [if_pos ⟨rfl, h1'⟩]
              refine Ev.step (f := fun _ => some (0, 0, 4)) (fun k => ?_) (Ev.now _)
              simp only [wire_TakeNumber.j1]; rw [hf, if_neg (by decide), if_pos (by omega)]
            · rw [if_neg (fun h => h1' h.2)]
              refine Ev.step (f := fun k => wire_TakeNumber.j2 k (vl (xs.take 9) : Int) ((9 : Nat) : Int) (rd xs ((9 : Nat) : Int)) xs (xs.length : Int) ((9 : Nat) : Int)) (fun k => ?_) ?_
              · simp only [wire_TakeNumber.j1]; rw [hf, if_neg (by decide), if_neg (by omega)]
              · have e1 : rd xs ((9 : Nat) : Int) = ((1 : Nat) : Int) := by omega
                have hv := vl_take_succ xs 9 (by omega)
                have ho := or_val (vl (xs.take 9)) 1 9 (by have := vl_lt (xs.take 9); rw [List.length_take, Nat.min_eq_left (by omega)] at this; exact this) (by omega) (by omega) (by omega)
                rw [e1] at hv ⊢
                refine Ev.step (f := fun _ => some ((vl (xs.take (9 + 1)) : Int), ((9 + 1 : Nat) : Int), 0)) (fun k => ?_) (Ev.now _)
                simp only [wire_TakeNumber.j2]
                have e3 : ((1 : Nat) : Int).toNat % 128 = 1 := by decide
                rw [e3] at hv
                rw [if_pos (by rw [wrap_id (by omega) (by omega)]; omega), if_pos (by omega), if_neg (by omega), ho, hv, wrap_id (n := ((9 : Nat) : Int) + 1) (by omega) (by omega)]
                rfl
  | succ m ih =>
    intro i hi h1 h2
    have hk := kk_le xs
    by_cases he : i = xs.length
    · have : takeN xs = (0, 0, 2) := by unfold takeN; rw [if_neg (by omega), if_pos (by omega)]
      rw [this]
      refine Ev.step (f := fun _ => some (0, 0, 2)) (fun k => ?_) (Ev.now _)
      simp only [wire_TakeNumber.l0]; rw [if_neg (by omega)]
    · have hr := hb.at_ (i : Int)
      have hvl := vl_lt (xs.take i)
      rw [List.length_take, Nat.min_eq_left (by omega)] at hvl
      refine Ev.step (f := fun k => wire_TakeNumber.j2 k (vl (xs.take i) : Int) (i : Int) (rd xs (i : Int)) xs (xs.length : Int) (i : Int)) (fun k => ?_) ?_
      · simp only [wire_TakeNumber.l0]; rw [if_pos (by omega), if_pos (by omega), if_pos (by omega), if_neg (by omega)]
      · have hv := vl_take_succ xs i (by omega)
        by_cases h128 : rd xs (i : Int) < 128
        · have hkk : kk xs = i := kk_eq xs i (by omega) (fun j hj => kk_lt xs j (by omega)) (fun _ => h128)
          unfold takeN
          rw [hkk, if_neg (by omega), if_neg (by omega)]
          have ho := or_val (vl (xs.take i)) (rd xs (i : Int)).toNat i hvl (by omega) (by omega) (by omega)
          rw [Int.toNat_of_nonneg hr.1] at ho
          have hvv : ((vl (xs.take i) + 128 ^ i * (rd xs (i : Int)).toNat : Nat) : Int) = (vl (xs.take (i + 1)) : Int) := by rw [hv, Nat.mod_eq_of_lt (by omega)]
          rw [hvv] at ho
          by_cases h0 : rd xs (i : Int) = 0 ∧ 0 < i
          · rw [if_pos h0]
            refine Ev.step (f := fun _ => some (0, 0, 3)) (fun k => ?_) (Ev.now _)
            simp only [wire_TakeNumber.j2]; rw [if_pos (by rw [wrap_id (by omega) (by omega)]; omega), if_pos h128, if_pos h0.1, if_pos (by omega)]
          · rw [if_neg h0, if_neg (by omega)]
            refine Ev.step (f := fun _ => some ((vl (xs.take (i + 1)) : Int), ((i + 1 : Nat) : Int), 0)) (fun k => ?_) (Ev.now _)
            simp only [wire_TakeNumber.j2]
            rw [if_pos (by rw [wrap_id (by omega) (by omega)]; omega), if_pos h128, ho, wrap_id (n := (i : Int) + 1) (by omega) (by omega)]
            by_cases hz : rd xs (i : Int) = 0
            · rw [if_pos hz, if_neg (by omega)]; rfl
            · rw [if_neg hz]; rfl
        · have hk1 : i + 1 ≤ kk xs := kk_ge xs (i + 1) (by omega) (fun j hj => by
            by_cases e : j = i
            · subst e; omega
            · exact kk_lt xs j (by omega))
          have h2' := ih (i + 1) (by omega) (by omega) hk1
          refine Ev.step (f := fun k => wire_TakeNumber.l0 k (vl (xs.take (i + 1)) : Int) xs (xs.length : Int) ((i + 1 : Nat) : Int)) (fun k => ?_) h2'
          have hmod : Int.tmod (rd xs (i : Int)) 128 = Int.tmod (((rd xs (i : Int)).toNat % 128 : Nat) : Int) 128 := by
            rw [Int.tmod_eq_emod_of_nonneg hr.1, Int.tmod_eq_emod_of_nonneg (by omega)]; omega
          have ho := or_val (vl (xs.take i)) ((rd xs (i : Int)).toNat % 128) i hvl (by omega) (by omega) (by omega)
          rw [← hmod, ← hv] at ho
          simp only [wire_TakeNumber.j2]
          rw [if_pos (by rw [wrap_id (by omega) (by omega)]; omega), if_neg h128, ho, wrap_id (n := (i : Int) + 1) (by omega) (by omega)]
          rfl
theorem TakeNumber_ev {xs : List Int} (hb : Byt xs) (hl : xs.length ≤ 140737488351232) : Ev (fun k => wire_TakeNumber.f k xs) (takeN xs) := by
  have := takeNumber_ev xs hb hl 9 0 (by omega) (by omega) (by omega)
  simpa [wire_TakeNumber.f, vl] using this
theorem shown_ev : Ev (fun k => turnbucklelaw04_shown.f k) true := Ev.of (k := 20) turnbucklelaw04_shown.mono (by decide +kernel)
theorem wire_name.step (k : Nat) (s : ByteArray) (x : Int) (h0 : 0 ≤ x) (h : x < (s.size : Int)) : wire_name.l0 (k + 1) s x = if okB (bt s x) = true then wire_name.l0 k s (wrap64 (x + 1)) else some false := by
  have hr := bt_range s x
  simp only [wire_name.l0]
  rw [if_pos h, if_pos h0]
  by_cases hk : okB (bt s x) = true
  · rw [if_pos hk]
    simp only [okB, Bool.or_eq_true, Bool.and_eq_true, decide_eq_true_eq] at hk
    repeat' split
    all_goals first
      | rfl
      | (exfalso; omega)
  · rw [if_neg hk]
    simp only [okB, Bool.or_eq_true, Bool.and_eq_true, decide_eq_true_eq] at hk
    repeat' split
    all_goals first
      | rfl
      | (exfalso; omega)
theorem wire_name.l0_ev (s : ByteArray) (hs : s.size ≤ 140737488355328) (d : Nat) : ∀ x : Nat, x + d = s.size → Ev (fun k => wire_name.l0 k s (x : Int)) (((bytesOf s).drop x).all okB && decide (0 < s.size) && decide (s.size ≤ 16)) := by
  have hlen : (bytesOf s).length = s.size := bytesOf_length s
  induction d with
  | zero =>
    intro x hx
    have e : (bytesOf s).drop x = [] := List.drop_eq_nil_of_le (by omega)
    rw [e]
    refine Ev.step (f := fun _ => some (decide (0 < s.size) && decide (s.size ≤ 16))) (fun k => ?_) (Ev.now _)
    simp only [wire_name.l0]
    rw [if_neg (by omega)]
    by_cases h1 : (s.size : Int) ≥ 1
    · rw [if_pos h1, decide_eq_true (show 0 < s.size by omega), Bool.true_and]
      congr 1
      exact decide_eq_decide.2 (by omega)
    · rw [if_neg h1, decide_eq_false (show ¬ 0 < s.size by omega), Bool.false_and]
  | succ d ih =>
    intro x hx
    have hxl : x < (bytesOf s).length := by omega
    have e : (bytesOf s).drop x = bt s (x : Int) :: (bytesOf s).drop (x + 1) := by
      rw [List.drop_eq_getElem_cons hxl, ← rd_bytesOf, rd_nat _ _ hxl]
    rw [e, List.all_cons]
    by_cases hk : okB (bt s (x : Int)) = true
    · rw [hk, Bool.true_and]
      refine Ev.step (f := fun k => wire_name.l0 k s ((x + 1 : Nat) : Int)) (fun k => ?_) (ih (x + 1) (by omega))
      rw [wire_name.step k s x (by omega) (by omega), if_pos hk, wrap_id (by omega) (by omega)]; rfl
    · rw [Bool.eq_false_iff.2 hk, Bool.false_and, Bool.false_and, Bool.false_and]
      refine Ev.step (f := fun _ => some false) (fun k => ?_) (Ev.now _)
      rw [wire_name.step k s x (by omega) (by omega), if_neg hk]
theorem wire_name.ev {s : ByteArray} (hs : s.size ≤ 140737488355328) : Ev (fun k => wire_name.f k s) (nameB s) := by
  have := wire_name.l0_ev s hs s.size 0 (by omega)
  simpa [wire_name.f, nameB] using this
theorem wire_Text.ev {s : ByteArray} (hs : s.size ≤ 140737488351232) : Ev (fun k => wire_Text.f k s) (textOf s) := by
  unfold wire_Text.f textOf
  refine Ev.bind (wire_name.ev (by omega)) ?_
  by_cases h : nameB s = true
  · have h1 := nameB_size h
    rw [if_pos h]
    simp only [h, if_true]
    rw [u64_id (by omega) (by omega)]
    refine Ev.bind (Number_ev (by omega) (by omega)) (Ev.congr (f := fun _ => some (num s.size ++ bytesOf s, 0)) (fun k => ?_) (Ev.now _))
    have := num_len10 s.size (by omega)
    rw [Int.toNat_natCast, if_pos (by omega)]
  · rw [if_neg h]
    exact Ev.congr (f := fun _ => some ([], 1)) (fun k => by rw [if_neg h]) (Ev.now _)
theorem all_take_succ (l : List Int) (i : Nat) (hi : i < l.length) : (l.take (i + 1)).all inI = ((l.take i).all inI && inI (rd l (i : Int))) := by
  rw [List.take_succ_eq_append_getElem hi, List.all_append, rd_nat _ _ hi]; simp
theorem flat_take_succ (l : List Int) (i : Nat) (hi : i < l.length) : flat (l.take (i + 1)) = flat (l.take i) ++ num (rd l (i : Int)).toNat := by
  rw [List.take_succ_eq_append_getElem hi, flat_append, rd_nat _ _ hi]; simp [flat]
theorem wire_Ints.l0_ev (l : List Int) (hl : ¬ 1000 < l.length) (pre : List Int) (hp : pre.length ≤ 10) (d : Nat) : ∀ i : Nat, i + d = l.length → (l.take i).all inI = true →
    Ev (fun k => wire_Ints.l0 k (pre ++ flat (l.take i)) l (l.length : Int) (i : Int)) (if l.all inI = true then (pre ++ flat l, 0) else ([], 1)) := by
  induction d with
  | zero =>
    intro i hi ha
    rw [List.take_of_length_le (by omega)] at ha ⊢
    rw [if_pos ha]
    refine Ev.step (f := fun _ => some (pre ++ flat l, 0)) (fun k => ?_) (Ev.now _)
    simp only [wire_Ints.l0]; rw [if_neg (by omega)]
  | succ d ih =>
    intro i hi ha
    have hin : i < l.length := by omega
    have ht := all_take_succ l i hin
    by_cases hx : inI (rd l (i : Int)) = true
    · rw [hx, ha] at ht
      have hx' := hx
      simp only [inI, Bool.and_eq_true, decide_eq_true_eq] at hx'
      have hfl := flat_len _ ha
      rw [List.length_take] at hfl
      have h5 := num_len5 hx
      have h2 := ih (i + 1) (by omega) (by simpa using ht)
      rw [flat_take_succ l i hin, ← List.append_assoc] at h2
      refine Ev.step (f := fun k => (wire_Number.f k (rd l (i : Int))).bind fun t => if (pre ++ flat (l.take i)).length + t.length < 140737488355328 then wire_Ints.l0 k ((pre ++ flat (l.take i)) ++ t) l (l.length : Int) ((i + 1 : Nat) : Int) else none) (fun k => ?_) (Ev.bind (Number_ev (by omega) (by omega)) ?_)
      · simp only [wire_Ints.l0]
        rw [if_pos (by omega), if_pos (by omega), if_pos (by omega), if_neg (by omega), if_neg (by omega), u64_id (by omega) (by omega), wrap_id (by omega) (by omega)]; rfl
      · refine Ev.congr (fun k => ?_) h2
        exact if_pos (by rw [List.length_append]; omega)
    · have hf : ¬ l.all inI = true := fun h => hx (by
        have := List.all_eq_true.1 h (rd l (i : Int)) (by rw [rd_nat _ _ hin]; exact List.getElem_mem hin)
        exact this)
      rw [if_neg hf]
      have hx' : ¬ (0 ≤ rd l (i : Int) ∧ rd l (i : Int) ≤ 2147483647) := fun h => hx (by simp only [inI, Bool.and_eq_true, decide_eq_true_eq]; exact h)
      refine Ev.step (f := fun _ => some ([], 1)) (fun k => ?_) (Ev.now _)
      simp only [wire_Ints.l0]
      rw [if_pos (by omega), if_pos (by omega), if_pos (by omega)]
      by_cases h0 : rd l (i : Int) < 0
      · rw [if_pos h0]
      · rw [if_neg h0, if_pos (by omega)]
theorem wire_Ints.ev (l : List Int) (hl : l.length ≤ 140737488351232) : Ev (fun k => wire_Ints.f k l) (intsOf l) := by
  unfold wire_Ints.f intsOf
  by_cases h : 1000 < l.length
  · rw [if_pos h]; exact Ev.congr (f := fun _ => some ([], 11)) (fun k => if_pos (by omega)) (Ev.now _)
  · rw [if_neg h]
    have h2 := wire_Ints.l0_ev l h (num l.length) (num_len10 _ (by omega)) l.length 0 (by omega) (by simp)
    have h3 : Ev (fun k => (wire_Number.f k (l.length : Int)).bind fun t => wire_Ints.l0 k t l (l.length : Int) 0) (if l.all inI = true then (num l.length ++ flat l, 0) else ([], 1)) := by
      refine Ev.bind (Number_ev (by omega) (by omega)) ?_
      simpa [flat] using h2
    refine Ev.congr (fun k => ?_) h3
    rw [if_neg (by omega), u64_id (by omega) (by omega)]
theorem wire_TakeText.ev {xs : List Int} (hb : Byt xs) (hl : xs.length ≤ 140737488351232) : Ev (fun k => wire_TakeText.f k xs) (takeText xs) := by
  unfold wire_TakeText.f takeText
  refine Ev.bind (TakeNumber_ev hb hl) ?_
  by_cases he : (takeN xs).2.2 = 0
  · obtain ⟨f0, f1, f2, f3, f4, f5⟩ := takeN_facts hb he
    rw [if_neg (fun h => h he)]
    simp only [he, if_true]
    by_cases hr : (takeN xs).1 < 1 ∨ 16 < (takeN xs).1
    · rw [if_pos hr]
      refine Ev.congr (f := fun k => wire_TakeText.j0 k xs (takeN xs).1 (takeN xs).2.1 true) (fun k => ?_) ?_
      · by_cases h1 : (takeN xs).1 < 1
        · rw [if_pos h1]
        · rw [if_neg h1, decide_eq_true (by omega)]
      · refine Ev.step (f := fun _ => some (⟨#[]⟩, 0, 3)) (fun k => ?_) (Ev.now _)
        simp only [wire_TakeText.j0]; rw [if_pos trivial]
    · rw [if_neg hr]
      refine Ev.congr (f := fun k => wire_TakeText.j0 k xs (takeN xs).1 (takeN xs).2.1 false) (fun k => ?_) ?_
      · rw [if_neg (by omega), decide_eq_false (by omega)]
      · have e1 : wrap64 ((xs.length : Int) - (takeN xs).2.1) = (xs.length : Int) - (takeN xs).2.1 := wrap_id (by omega) (by omega)
        have e2 : wrap64 (takeN xs).1 = (takeN xs).1 := wrap_id (by omega) (by omega)
        have e3 : wrap64 ((takeN xs).2.1 + (takeN xs).1) = (takeN xs).2.1 + (takeN xs).1 := wrap_id (by omega) (by omega)
        by_cases hs : (xs.length : Int) - (takeN xs).2.1 < (takeN xs).1
        · rw [if_pos hs]
          refine Ev.step (f := fun _ => some (⟨#[]⟩, 0, 2)) (fun k => ?_) (Ev.now _)
          simp only [wire_TakeText.j0]; rw [if_neg (by decide), e1, e2, if_pos hs]
        · rw [if_neg hs]
          refine Ev.step (f := fun k => (wire_name.f k (strOfNums ((xs.take ((takeN xs).2.1 + (takeN xs).1).toNat).drop (takeN xs).2.1.toNat))).bind fun t => if t = true then some (strOfNums ((xs.take ((takeN xs).2.1 + (takeN xs).1).toNat).drop (takeN xs).2.1.toNat), (takeN xs).2.1 + (takeN xs).1, 0) else some (⟨#[]⟩, 0, 3)) (fun k => ?_) (Ev.bind (wire_name.ev ?_) ?_)
          · simp only [wire_TakeText.j0]; rw [if_neg (by decide), e1, e2, e3, if_neg hs, if_pos (by omega), if_pos (by omega), if_pos (by omega)]
          · rw [strOfNums_size, List.length_drop, List.length_take]; omega
          · refine Ev.congr (f := fun _ => some _) (fun k => ?_) (Ev.now _)
            split <;> rfl
  · rw [if_pos he]
    exact Ev.congr (f := fun _ => some (⟨#[]⟩, 0, (takeN xs).2.2)) (fun k => if_neg he) (Ev.now _)
theorem wire_TakeInts.l0_ev (xs : List Int) (hb : Byt xs) (hl : xs.length ≤ 140737488351232) (M : Nat) (hM : M ≤ 1000) (m : Nat) : ∀ (i at_ : Nat) (acc : List Int), i + m = M → at_ ≤ xs.length → acc.length ≤ i →
    Ev (fun k => wire_TakeInts.l0 k xs (at_ : Int) acc (M : Int) (i : Int)) (tis xs m at_ acc) := by
  induction m with
  | zero =>
    intro i at_ acc hi hat hacc
    refine Ev.step (f := fun _ => some (acc, (at_ : Int), 0)) (fun k => ?_) (Ev.now _)
    simp only [wire_TakeInts.l0]; rw [if_neg (by omega)]
  | succ m ih =>
    intro i at_ acc hi hat hacc
    have hB := hb.drop at_
    have hev := TakeNumber_ev hB (by rw [List.length_drop]; omega)
    rw [tis]
    refine Ev.step (f := fun k => (wire_TakeNumber.f k (xs.drop at_)).bind fun t => if t.2.2 = 0 then (if t.1 > 2147483647 then some ([], 0, 4) else (if acc.length < 17592186044416 then wire_TakeInts.l0 k xs (wrap64 ((at_ : Int) + t.2.1)) (acc ++ [wrap64 t.1]) (M : Int) (IntKind.u64.wrap ((i : Int) + 1)) else none)) else some ([], 0, t.2.2)) (fun k => ?_) (Ev.bind hev ?_)
    · simp only [wire_TakeInts.l0]; rw [if_pos (by omega), if_pos (by omega), if_pos (by omega), Int.toNat_natCast]
    · by_cases he : (takeN (xs.drop at_)).2.2 = 0
      · obtain ⟨f0, f1, f2, f3, f4, f5⟩ := takeN_facts hB he
        rw [List.length_drop] at f3
        rw [if_neg (fun h => h he)]
        by_cases hr : 2147483647 < (takeN (xs.drop at_)).1
        · rw [if_pos hr]
          exact Ev.congr (f := fun _ => some ([], 0, 4)) (fun k => by rw [if_pos he, if_pos hr]) (Ev.now _)
        · rw [if_neg hr]
          refine Ev.congr (fun k => ?_) (ih (i + 1) (at_ + (takeN (xs.drop at_)).2.1.toNat) (acc ++ [(takeN (xs.drop at_)).1]) (by omega) (by omega) (by simp; omega))
          rw [if_pos he, if_neg hr, if_pos (by omega), wrap_id (n := (at_ : Int) + (takeN (xs.drop at_)).2.1) (by omega) (by omega), wrap_id (n := (takeN (xs.drop at_)).1) (by omega) (by omega), u64_id (by omega) (by omega),
            show (at_ : Int) + (takeN (xs.drop at_)).2.1 = ((at_ + (takeN (xs.drop at_)).2.1.toNat : Nat) : Int) by omega]
          rfl
      · rw [if_pos he]
        exact Ev.congr (f := fun _ => some ([], 0, (takeN (xs.drop at_)).2.2)) (fun k => if_neg he) (Ev.now _)
theorem wire_TakeInts.ev {xs : List Int} (hb : Byt xs) (hl : xs.length ≤ 140737488351232) : Ev (fun k => wire_TakeInts.f k xs) (takeInts xs) := by
  unfold wire_TakeInts.f takeInts
  refine Ev.bind (TakeNumber_ev hb hl) ?_
  by_cases he : (takeN xs).2.2 = 0
  · obtain ⟨f0, f1, f2, f3, f4, f5⟩ := takeN_facts hb he
    rw [if_neg (fun h => h he)]
    by_cases hr : 1000 < (takeN xs).1
    · rw [if_pos hr]
      exact Ev.congr (f := fun _ => some ([], 0, 11)) (fun k => by rw [if_pos he, if_pos hr]) (Ev.now _)
    · rw [if_neg hr]
      have h2 := wire_TakeInts.l0_ev xs hb hl (takeN xs).1.toNat (by omega) (takeN xs).1.toNat 0 (takeN xs).2.1.toNat [] (by omega) (by omega) (by simp)
      rw [Int.toNat_of_nonneg f0, Int.toNat_of_nonneg (by omega)] at h2
      refine Ev.congr (fun k => ?_) h2
      rw [if_pos he, if_neg hr]; rfl
  · rw [if_pos he]
    exact Ev.congr (f := fun _ => some ([], 0, (takeN xs).2.2)) (fun k => if_neg he) (Ev.now _)
end Go.Proofs.Ytmghjpdchngedaa.QWireCuts
