/- wire in plain lists: a number's bytes, and how bytes are read as a number -/
import Derived.Test.YtmghjpdchngedaaWWords
import Derived.Test.YtmghjpdchngedaaWMore
namespace Go.Proofs.Ytmghjpdchngedaa.QBase
open Go.RowKit Go.Proofs.YtmghjpdchngedaaW.PrintWords Go.Proofs.YtmghjpdchngedaaW.PrintMore

def Byt (xs : List Int) : Prop := ∀ x ∈ xs, 0 ≤ x ∧ x < 256
theorem Byt.of_wf {xs : List Int} (h : ∀ x ∈ xs, (Lit.int .u8 x).wf = true) : Byt xs := fun x hx => by
  have := h x hx
  have h0 : IntKind.u8.min = 0 := by decide
  have h1 : IntKind.u8.max = 255 := by decide
  simp [Lit.wf, h0, h1] at this
  omega
theorem u64_of_wf {a : Int} (h : (Lit.int .u64 a).wf = true) : 0 ≤ a ∧ a < 18446744073709551616 := by
  have h0 : IntKind.u64.min = 0 := by decide
  have h1 : IntKind.u64.max = 18446744073709551615 := by decide
  simp only [Lit.wf, h0, h1, Bool.and_eq_true, decide_eq_true_eq] at h
  omega
theorem Byt.cons {c : Int} {xs : List Int} (h : Byt (c :: xs)) : (0 ≤ c ∧ c < 256) ∧ Byt xs := ⟨h c (by simp), fun x hx => h x (by simp [hx])⟩
theorem Byt.drop {xs : List Int} (h : Byt xs) (n : Nat) : Byt (xs.drop n) := fun x hx => h x (List.mem_of_mem_drop hx)
theorem Byt.take {xs : List Int} (h : Byt xs) (n : Nat) : Byt (xs.take n) := fun x hx => h x (List.mem_of_mem_take hx)
theorem Byt.append {xs ys : List Int} (h : Byt xs) (h' : Byt ys) : Byt (xs ++ ys) := fun x hx => by
  rcases List.mem_append.1 hx with h1 | h1
  · exact h x h1
  · exact h' x h1
theorem Byt.at_ {xs : List Int} (h : Byt xs) (i : Int) : 0 ≤ rd xs i ∧ rd xs i < 256 := by
  unfold rd
  rw [List.getD_eq_getElem?_getD]
  rcases hx : xs[i.toNat]? with _ | v
  · simp
  · exact h v (List.mem_of_getElem? hx)
theorem rd_cons_succ (c : Int) (xs : List Int) (i : Nat) : rd (c :: xs) ((i + 1 : Nat) : Int) = rd xs (i : Int) := by
  simp [rd]
theorem rd_cons_zero (c : Int) (xs : List Int) : rd (c :: xs) ((0 : Nat) : Int) = c := by simp [rd]
theorem rd_nat (xs : List Int) (i : Nat) (h : i < xs.length) : rd xs (i : Int) = xs[i] := by
  simp [rd, List.getD_eq_getElem?_getD, List.getElem?_eq_getElem h]

/-- A number's bytes. -/
def num (n : Nat) : List Int := if n < 128 then [(n : Int)] else ((n % 128 + 128 : Nat) : Int) :: num (n / 128)
termination_by n
decreasing_by omega
theorem num_small {n : Nat} (h : n < 128) : num n = [(n : Int)] := by rw [num, if_pos h]
theorem num_great {n : Nat} (h : ¬ n < 128) : num n = ((n % 128 + 128 : Nat) : Int) :: num (n / 128) := by rw [num, if_neg h]
theorem num_induct {P : Nat → Prop} (small : ∀ n, n < 128 → P n) (great : ∀ n, ¬ n < 128 → P (n / 128) → P n) (n : Nat) : P n := by
  induction n using Nat.strongRecOn with
  | _ n ih =>
    by_cases h : n < 128
    · exact small n h
    · exact great n h (ih _ (by omega))
theorem num_byt (n : Nat) : Byt (num n) := by
  refine num_induct (P := fun n => Byt (num n)) (fun n h => ?_) (fun n h ih => ?_) n
  · rw [num_small h]; intro x hx; simp at hx; omega
  · rw [num_great h]; intro x hx
    rcases List.mem_cons.1 hx with rfl | hx
    · omega
    · exact ih x hx
theorem num_pos (n : Nat) : 0 < (num n).length := by
  by_cases h : n < 128
  · rw [num_small h]; simp
  · rw [num_great h]; simp
theorem num_len_le (j n : Nat) (h : n < 128 ^ (j + 1)) : (num n).length ≤ j + 1 := by
  induction j generalizing n with
  | zero => rw [num_small (by simpa using h)]; simp
  | succ j ih =>
    by_cases hs : n < 128
    · rw [num_small hs]; simp
    · rw [num_great hs, List.length_cons]
      have := ih (n / 128) (Nat.div_lt_of_lt_mul (by rw [Nat.pow_succ] at h; rw [Nat.mul_comm]; exact h))
      omega
theorem num_len10 (n : Nat) (h : n < 18446744073709551616) : (num n).length ≤ 10 := num_len_le 9 n (by omega)
theorem num_len_mono (a b : Nat) : a ≤ b → (num a).length ≤ (num b).length := by
  refine num_induct (P := fun b => ∀ a, a ≤ b → (num a).length ≤ (num b).length) (fun b hb a h => ?_) (fun b hb ih a h => ?_) b a
  · rw [num_small hb, num_small (by omega)]; simp
  · by_cases ha : a < 128
    · rw [num_small ha]; have := num_pos b; simp; omega
    · rw [num_great hb, num_great ha, List.length_cons, List.length_cons]
      have := ih (a / 128) (by omega)
      omega
theorem num_bytes (n : Nat) : ∀ i, i < (num n).length → (128 ≤ rd (num n) (i : Int) ↔ i + 1 < (num n).length) := by
  refine num_induct (P := fun n => ∀ i, i < (num n).length → (128 ≤ rd (num n) (i : Int) ↔ i + 1 < (num n).length)) (fun n h i hi => ?_) (fun n h ih i hi => ?_) n
  · rw [num_small h] at hi ⊢
    simp at hi
    subst hi
    rw [rd_cons_zero]; simp; omega
  · rw [num_great h] at hi ⊢
    cases i with
    | zero => rw [rd_cons_zero]; have := num_pos (n / 128); simp only [List.length_cons]; omega
    | succ i => rw [rd_cons_succ]; simp only [List.length_cons] at hi ⊢; have := ih i (by omega); omega

/-- The value of bytes, from the least. -/
def vl : List Int → Nat
  | [] => 0
  | c :: cs => c.toNat % 128 + 128 * vl cs
theorem vl_num (n : Nat) : vl (num n) = n := by
  refine num_induct (P := fun n => vl (num n) = n) (fun n h => ?_) (fun n h ih => ?_) n
  · rw [num_small h]; simp [vl]; omega
  · rw [num_great h]; simp only [vl, ih, Int.toNat_natCast]; omega
theorem num_inj {a b : Nat} (h : num a = num b) : a = b := by rw [← vl_num a, h, vl_num]
theorem vl_append (xs ys : List Int) : vl (xs ++ ys) = vl xs + 128 ^ xs.length * vl ys := by
  induction xs with
  | nil => simp [vl]
  | cons c cs ih => simp only [List.cons_append, vl, ih, List.length_cons, Nat.pow_succ]; rw [Nat.mul_add, Nat.add_assoc, ← Nat.mul_assoc, Nat.mul_comm 128 (128 ^ cs.length)]
theorem vl_lt (xs : List Int) : vl xs < 128 ^ xs.length := by
  induction xs with
  | nil => simp [vl]
  | cons c cs ih => simp only [vl, List.length_cons, Nat.pow_succ]; have := Nat.mod_lt c.toNat (show 0 < 128 by omega); omega
theorem vl_take_succ (xs : List Int) (k : Nat) (h : k < xs.length) : vl (xs.take (k + 1)) = vl (xs.take k) + 128 ^ k * ((rd xs k).toNat % 128) := by
  rw [List.take_succ_eq_append_getElem h, vl_append, List.length_take, Nat.min_eq_left (by omega), rd_nat xs k h]
  simp [vl]

/-- How many bytes lead that are 128 or more. -/
def kk : List Int → Nat
  | [] => 0
  | c :: cs => if 128 ≤ c then kk cs + 1 else 0
theorem kk_le (xs : List Int) : kk xs ≤ xs.length := by
  induction xs with
  | nil => simp [kk]
  | cons c cs ih => simp only [kk]; split <;> simp; omega
theorem kk_lt (xs : List Int) : ∀ i, i < kk xs → 128 ≤ rd xs (i : Int) := by
  induction xs with
  | nil => intro i h; simp [kk] at h
  | cons c cs ih =>
    intro i h
    simp only [kk] at h
    split at h
    · cases i with
      | zero => rw [rd_cons_zero]; assumption
      | succ i => rw [rd_cons_succ]; exact ih i (by omega)
    · omega
theorem kk_at (xs : List Int) : kk xs < xs.length → rd xs (kk xs : Int) < 128 := by
  induction xs with
  | nil => intro h; simp [kk] at h
  | cons c cs ih =>
    intro h
    simp only [kk] at h ⊢
    split
    · rename_i hc
      rw [if_pos hc] at h
      rw [rd_cons_succ]; exact ih (by simpa using h)
    · rw [rd_cons_zero]; omega
theorem kk_eq (xs : List Int) (k : Nat) (hk : k ≤ xs.length) (h : ∀ i, i < k → 128 ≤ rd xs (i : Int)) (h' : k < xs.length → rd xs (k : Int) < 128) : kk xs = k := by
  rcases Nat.lt_trichotomy (kk xs) k with hlt | he | hgt
  · have := h _ hlt; have := kk_at xs (by omega); omega
  · exact he
  · have := kk_lt xs _ hgt; have := kk_le xs; have := h' (by omega); omega
theorem kk_ge (xs : List Int) (k : Nat) (hk : k ≤ xs.length) (h : ∀ i, i < k → 128 ≤ rd xs (i : Int)) : k ≤ kk xs := by
  rcases Nat.lt_or_ge (kk xs) k with hlt | hge
  · have := h _ hlt; have := kk_at xs (by omega); omega
  · exact hge

/-- How bytes are read as a number: the number, how many bytes, the error. -/
def takeN (xs : List Int) : Int × Int × Int :=
  if 10 ≤ kk xs then (0, 0, 3) else if kk xs = xs.length then (0, 0, 2) else if rd xs (kk xs : Int) = 0 ∧ 0 < kk xs then (0, 0, 3)
  else if kk xs = 9 ∧ 1 < rd xs (kk xs : Int) then (0, 0, 4) else ((vl (xs.take (kk xs + 1)) : Int), ((kk xs + 1 : Nat) : Int), 0)

theorem vl_pos_of_last (cs : List Int) (h : kk cs < cs.length) (hb : Byt cs) (hz : rd cs (kk cs : Int) ≠ 0) : 0 < vl (cs.take (kk cs + 1)) := by
  rw [vl_take_succ cs _ h]
  have h1 := kk_at cs h
  have h2 := hb.at_ (kk cs : Int)
  have : 0 < 128 ^ kk cs * ((rd cs (kk cs : Int)).toNat % 128) := Nat.mul_pos (Nat.pow_pos (by omega)) (by omega)
  omega
/-- What was taken is laid down as it was. -/
theorem num_vl (xs : List Int) (hb : Byt xs) (h : kk xs < xs.length) (hz : ¬ (rd xs (kk xs : Int) = 0 ∧ 0 < kk xs)) : num (vl (xs.take (kk xs + 1))) = xs.take (kk xs + 1) := by
  induction xs with
  | nil => simp at h
  | cons c cs ih =>
    obtain ⟨hc, hcs⟩ := hb.cons
    by_cases h1 : 128 ≤ c
    · have e : kk (c :: cs) = kk cs + 1 := by simp [kk, h1]
      rw [e] at h hz ⊢
      rw [rd_cons_succ] at hz
      have hl : kk cs < cs.length := by simpa using h
      have hnz : rd cs (kk cs : Int) ≠ 0 := fun e0 => hz ⟨e0, by omega⟩
      have hp := vl_pos_of_last cs hl hcs hnz
      rw [List.take_succ_cons, vl, num_great (by omega)]
      have e1 : (c.toNat % 128 + 128 * vl (cs.take (kk cs + 1))) / 128 = vl (cs.take (kk cs + 1)) := by omega
      have e2 : ((((c.toNat % 128 + 128 * vl (cs.take (kk cs + 1))) % 128 + 128 : Nat)) : Int) = c := by omega
      rw [e1, e2, ih hcs hl (fun ⟨h0, _⟩ => hnz h0)]
    · have e : kk (c :: cs) = 0 := by simp [kk, h1]
      rw [e, List.take_succ_cons, List.take_zero, vl, vl, num_small (by omega)]
      congr 1; omega
theorem takeN_ok {xs : List Int} {n j : Int} (h : takeN xs = (n, j, 0)) : kk xs < 10 ∧ kk xs < xs.length ∧ ¬ (rd xs (kk xs : Int) = 0 ∧ 0 < kk xs) ∧ ¬ (kk xs = 9 ∧ 1 < rd xs (kk xs : Int)) ∧ n = vl (xs.take (kk xs + 1)) ∧ j = ((kk xs + 1 : Nat) : Int) := by
  have := kk_le xs
  unfold takeN at h
  split at h
  · simp at h
  · split at h
    · simp at h
    · split at h
      · simp at h
      · split at h
        · simp at h
        · simp only [Prod.mk.injEq] at h
          exact ⟨by omega, by omega, by assumption, by assumption, h.1.symm, h.2.1.symm⟩
theorem takeN_again {xs : List Int} {n j : Int} (hb : Byt xs) (h : takeN xs = (n, j, 0)) : num n.toNat = xs.take j.toNat ∧ 1 ≤ j ∧ j ≤ xs.length ∧ j ≤ 10 ∧ 0 ≤ n := by
  obtain ⟨h1, h2, h3, h4, rfl, rfl⟩ := takeN_ok h
  rw [Int.toNat_natCast, Int.toNat_natCast]
  exact ⟨num_vl xs hb h2 h3, by omega, by omega, by omega, by omega⟩
theorem takeN_lt {xs : List Int} {n j : Int} (hb : Byt xs) (h : takeN xs = (n, j, 0)) : n < 18446744073709551616 := by
  obtain ⟨h1, h2, h3, h4, rfl, rfl⟩ := takeN_ok h
  have hr := hb.at_ (kk xs : Int)
  have ha := kk_at xs h2
  rw [vl_take_succ xs _ h2]
  have hv := vl_lt (xs.take (kk xs))
  rw [List.length_take, Nat.min_eq_left (by omega)] at hv
  by_cases h9 : kk xs = 9
  · rw [h9] at hv h4 hr ha ⊢
    have : (rd xs ((9 : Nat) : Int)).toNat % 128 ≤ 1 := by omega
    have : 128 ^ 9 * ((rd xs ((9 : Nat) : Int)).toNat % 128) ≤ 128 ^ 9 * 1 := Nat.mul_le_mul_left _ this
    omega
  · have h8 : kk xs ≤ 8 := by omega
    have : 128 ^ kk xs * ((rd xs (kk xs : Int)).toNat % 128) ≤ 128 ^ kk xs * 127 := Nat.mul_le_mul_left _ (by omega)
    have : 128 ^ kk xs ≤ 128 ^ 8 := Nat.pow_le_pow_right (by omega) h8
    omega

theorem rd_append_left (xs ys : List Int) (i : Nat) (h : i < xs.length) : rd (xs ++ ys) (i : Int) = rd xs (i : Int) := by
  rw [rd_nat _ _ (by simp; omega), rd_nat _ _ h, List.getElem_append_left h]
theorem rd_take (xs : List Int) (m i : Nat) (h : i < m) (h' : i < xs.length) : rd (xs.take m) (i : Int) = rd xs (i : Int) := by
  rw [rd_nat _ _ (by simp; omega), rd_nat _ _ h', List.getElem_take]
theorem num_last (n : Nat) : 0 < n → rd (num n) (((num n).length - 1 : Nat) : Int) ≠ 0 := by
  refine num_induct (P := fun n => 0 < n → rd (num n) (((num n).length - 1 : Nat) : Int) ≠ 0) (fun n h hn => ?_) (fun n h ih hn => ?_) n
  · rw [num_small h]; simp [rd]; omega
  · rw [num_great h]
    have := num_pos (n / 128)
    have e : ((((n % 128 + 128 : Nat) : Int) :: num (n / 128)).length - 1 : Nat) = ((num (n / 128)).length - 1) + 1 := by simp; omega
    rw [e, rd_cons_succ]
    exact ih (by omega)
theorem num_last10 (n : Nat) (hn : n < 18446744073709551616) (h : (num n).length = 10) : rd (num n) ((9 : Nat) : Int) ≤ 1 := by
  have hv := vl_num n
  have ht : (num n).take (9 + 1) = num n := List.take_of_length_le (by omega)
  have h2 := vl_take_succ (num n) 9 (by omega)
  rw [ht, hv] at h2
  have hr := (num_byt n).at_ ((9 : Nat) : Int)
  have hb := num_bytes n 9 (by omega)
  have : (rd (num n) ((9 : Nat) : Int)).toNat % 128 ≤ 1 := by
    rcases Nat.lt_or_ge 1 ((rd (num n) ((9 : Nat) : Int)).toNat % 128) with h3 | h3
    · have : 128 ^ 9 * 2 ≤ 128 ^ 9 * ((rd (num n) ((9 : Nat) : Int)).toNat % 128) := Nat.mul_le_mul_left _ h3
      omega
    · exact h3
  omega
theorem kk_num (n : Nat) (rest : List Int) : kk (num n ++ rest) = (num n).length - 1 := by
  have hp := num_pos n
  refine kk_eq _ _ (by simp; omega) (fun i hi => ?_) (fun _ => ?_)
  · rw [rd_append_left _ _ _ (by omega)]; exact (num_bytes n i (by omega)).2 (by omega)
  · rw [rd_append_left _ _ _ (by omega)]; have := num_bytes n ((num n).length - 1) (by omega); omega
/-- What was laid down is taken again. -/
theorem takeN_num (n : Nat) (hn : n < 18446744073709551616) (rest : List Int) : takeN (num n ++ rest) = ((n : Int), ((num n).length : Int), 0) := by
  have hp := num_pos n
  have h10 := num_len10 n hn
  have hk := kk_num n rest
  have hrd : rd (num n ++ rest) (((num n).length - 1 : Nat) : Int) = rd (num n) (((num n).length - 1 : Nat) : Int) := rd_append_left _ _ _ (by omega)
  have ht : (num n ++ rest).take ((num n).length - 1 + 1) = num n := by
    rw [show (num n).length - 1 + 1 = (num n).length by omega, List.take_left']; rfl
  unfold takeN
  rw [hk, if_neg (by omega), if_neg (by simp; omega), hrd, if_neg, if_neg, ht, vl_num]
  · rw [show (num n).length - 1 + 1 = (num n).length by omega]
  · rintro ⟨h9, h1⟩
    rw [h9] at h1
    have := num_last10 n hn (by omega)
    omega
  · rintro ⟨h0, h1⟩
    by_cases hz : n = 0
    · subst hz; rw [num_small (by omega)] at h1; simp at h1
    · exact num_last n (by omega) h0
/-- A beginning of a number's bytes, but all of them, is too short. -/
theorem takeN_cut (n : Nat) (hn : n < 18446744073709551616) (m : Nat) (hm : m < (num n).length) : takeN ((num n).take m) = (0, 0, 2) := by
  have h10 := num_len10 n hn
  have hl : ((num n).take m).length = m := by simp; omega
  have hk : kk ((num n).take m) = m := by
    refine kk_eq _ _ (by omega) (fun i hi => ?_) (fun h => by omega)
    rw [rd_take _ _ _ hi (by omega)]; exact (num_bytes n i (by omega)).2 (by omega)
  unfold takeN
  rw [hk, if_neg (by omega), if_pos hl.symm]
end Go.Proofs.Ytmghjpdchngedaa.QBase
