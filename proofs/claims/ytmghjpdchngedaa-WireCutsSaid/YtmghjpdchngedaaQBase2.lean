/- wire in plain lists: names, texts, lists of numbers: laid down, taken, taken again, cut -/
import Derived.Test.YtmghjpdchngedaaQBase
import Derived.Test.YtmghjpdchngedaaHWireName
import Derived.WideShapes
namespace Go.Proofs.Ytmghjpdchngedaa.QBase
open Go.RowKit Go.Proofs.YtmghjpdchngedaaW.PrintWords Go.Proofs.YtmghjpdchngedaaW.PrintMore Go.Proofs.Ytmghjpdchngedaa.HWireName
set_option linter.unusedVariables false
set_option linter.unusedSimpArgs false

theorem toList_data (s : ByteArray) : s.toList = s.data.toList := by
  have loop : ∀ (n i : Nat) (r : List UInt8), s.size - i = n → ByteArray.toList.loop s i r = r.reverse ++ s.data.toList.drop i := by
    intro n
    induction n with
    | zero =>
      intro i r h
      rw [ByteArray.toList.loop, if_neg (by omega)]
      have : s.data.toList.length ≤ i := by simp only [Array.length_toList]; exact Nat.sub_eq_zero_iff_le.1 h
      rw [List.drop_eq_nil_of_le this, List.append_nil]
    | succ n ih =>
      intro i r h
      have hi : i < s.size := by omega
      have hd : i < s.data.toList.length := by simp only [Array.length_toList]; exact hi
      rw [ByteArray.toList.loop, if_pos hi, ih (i + 1) _ (by omega), List.drop_eq_getElem_cons hd]
      have : s.get! i = s.data.toList[i] := by
        show s.data[i]! = _
        have : i < s.data.size := hi
        exact getElem!_pos s.data i this
      rw [this]
      simp
  have := loop (s.size - 0) 0 [] rfl
  simpa [ByteArray.toList] using this
theorem strOfNums_data (xs : List Int) : (strOfNums xs).data.toList = xs.map fun n => UInt8.ofNat n.toNat := by simp [strOfNums]
theorem u8_inj {a b : Int} (ha : 0 ≤ a ∧ a < 256) (hb : 0 ≤ b ∧ b < 256) (h : UInt8.ofNat a.toNat = UInt8.ofNat b.toNat) : a = b := by
  have := congrArg UInt8.toNat h
  rw [UInt8.toNat_ofNat', UInt8.toNat_ofNat'] at this
  omega
theorem map_u8_inj : ∀ {xs ys : List Int}, Byt xs → Byt ys → (xs.map fun n => UInt8.ofNat n.toNat) = (ys.map fun n => UInt8.ofNat n.toNat) → xs = ys
  | [], [], _, _, _ => rfl
  | [], _ :: _, _, _, h => by simp at h
  | _ :: _, [], _, _, h => by simp at h
  | x :: xs, y :: ys, hx, hy, h => by
    simp only [List.map_cons, List.cons.injEq] at h
    rw [u8_inj hx.cons.1 hy.cons.1 h.1, map_u8_inj hx.cons.2 hy.cons.2 h.2]
theorem strOfNums_inj {xs ys : List Int} (hx : Byt xs) (hy : Byt ys) (h : (strOfNums xs).toList = (strOfNums ys).toList) : xs = ys := by
  rw [toList_data, toList_data, strOfNums_data, strOfNums_data] at h
  exact map_u8_inj hx hy h
theorem bytesOf_byt (s : ByteArray) : Byt (bytesOf s) := fun x hx => by
  obtain ⟨b, _, rfl⟩ := List.mem_map.1 hx
  have := b.toNat_lt
  omega
theorem strOfNums_bytesOf (s : ByteArray) : strOfNums (bytesOf s) = s := by
  apply Go.WideShapes.bytes_inj
  rw [strOfNums_data, bytesOf, List.map_map]
  have : ((fun n : Int => UInt8.ofNat n.toNat) ∘ fun b : UInt8 => (b.toNat : Int)) = id := by funext b; simp
  rw [this, List.map_id]
theorem bytesOf_strOfNums {xs : List Int} (h : Byt xs) : bytesOf (strOfNums xs) = xs := by
  unfold bytesOf
  rw [strOfNums_data, List.map_map]
  have : ∀ x ∈ xs, ((fun b : UInt8 => (b.toNat : Int)) ∘ fun n : Int => UInt8.ofNat n.toNat) x = x := fun x hx => by
    have := h x hx
    simp only [Function.comp, UInt8.toNat_ofNat']
    omega
  exact (List.map_congr_left this).trans (List.map_id _)
theorem strOfNums_size (xs : List Int) : (strOfNums xs).size = xs.length := by
  show (strOfNums xs).data.size = _
  simp [strOfNums]

/-- Is a text a name? -/
def nameB (s : ByteArray) : Bool := (bytesOf s).all okB && decide (0 < s.size) && decide (s.size ≤ 16)
theorem nameB_size {s : ByteArray} (h : nameB s = true) : 0 < s.size ∧ s.size ≤ 16 := by
  simp only [nameB, Bool.and_eq_true, decide_eq_true_eq] at h
  omega

/-- A name's bytes; its error. -/
def textOf (s : ByteArray) : List Int × Int := if nameB s = true then (num s.size ++ bytesOf s, 0) else ([], 1)
/-- How bytes are read as a name. -/
def takeText (xs : List Int) : ByteArray × Int × Int :=
  if (takeN xs).2.2 ≠ 0 then (⟨#[]⟩, 0, (takeN xs).2.2) else if (takeN xs).1 < 1 ∨ 16 < (takeN xs).1 then (⟨#[]⟩, 0, 3)
  else if (xs.length : Int) - (takeN xs).2.1 < (takeN xs).1 then (⟨#[]⟩, 0, 2)
  else if nameB (strOfNums ((xs.take ((takeN xs).2.1 + (takeN xs).1).toNat).drop (takeN xs).2.1.toNat)) = true then (strOfNums ((xs.take ((takeN xs).2.1 + (takeN xs).1).toNat).drop (takeN xs).2.1.toNat), (takeN xs).2.1 + (takeN xs).1, 0)
  else (⟨#[]⟩, 0, 3)
def inI (x : Int) : Bool := decide (0 ≤ x) && decide (x ≤ 2147483647)
def flat (l : List Int) : List Int := l.flatMap fun x => num x.toNat
/-- Numbers' bytes; their error. -/
def intsOf (l : List Int) : List Int × Int := if 1000 < l.length then ([], 11) else if l.all inI = true then (num l.length ++ flat l, 0) else ([], 1)
/-- How numbers are read, one behind the other. -/
def tis (xs : List Int) : Nat → Nat → List Int → List Int × Int × Int
  | 0, at_, acc => (acc, (at_ : Int), 0)
  | m + 1, at_, acc => if (takeN (xs.drop at_)).2.2 ≠ 0 then ([], 0, (takeN (xs.drop at_)).2.2) else if 2147483647 < (takeN (xs.drop at_)).1 then ([], 0, 4)
      else tis xs m (at_ + (takeN (xs.drop at_)).2.1.toNat) (acc ++ [(takeN (xs.drop at_)).1])
def takeInts (xs : List Int) : List Int × Int × Int :=
  if (takeN xs).2.2 ≠ 0 then ([], 0, (takeN xs).2.2) else if 1000 < (takeN xs).1 then ([], 0, 11) else tis xs (takeN xs).1.toNat (takeN xs).2.1.toNat []

theorem num_len5 {x : Int} (h : inI x = true) : (num x.toNat).length ≤ 5 := by
  simp only [inI, Bool.and_eq_true, decide_eq_true_eq] at h
  exact num_len_le 4 x.toNat (by omega)
theorem flat_cons (x : Int) (l : List Int) : flat (x :: l) = num x.toNat ++ flat l := by simp [flat]
theorem flat_append (a b : List Int) : flat (a ++ b) = flat a ++ flat b := by simp [flat]
theorem flat_len (l : List Int) (h : l.all inI = true) : (flat l).length ≤ 5 * l.length := by
  induction l with
  | nil => simp [flat]
  | cons x l ih =>
    simp only [List.all_cons, Bool.and_eq_true] at h
    have := ih h.2
    have := num_len5 h.1
    rw [flat_cons, List.length_append, List.length_cons]; omega
theorem flat_byt (l : List Int) : Byt (flat l) := fun x hx => by
  obtain ⟨y, _, hy⟩ := List.mem_flatMap.1 hx
  exact num_byt _ x hy
theorem takeN_err (xs : List Int) : (takeN xs).2.2 = 0 ∨ (takeN xs).2.2 = 2 ∨ (takeN xs).2.2 = 3 ∨ (takeN xs).2.2 = 4 := by
  unfold takeN; repeat' split
  all_goals simp
theorem takeN_parts {xs : List Int} (h : (takeN xs).2.2 = 0) : takeN xs = ((takeN xs).1, (takeN xs).2.1, 0) := by rw [← h]
theorem takeN_facts {xs : List Int} (hb : Byt xs) (h : (takeN xs).2.2 = 0) : 0 ≤ (takeN xs).1 ∧ (takeN xs).1 < 18446744073709551616 ∧ 1 ≤ (takeN xs).2.1 ∧ (takeN xs).2.1 ≤ xs.length ∧ (takeN xs).2.1 ≤ 10 ∧ num (takeN xs).1.toNat = xs.take (takeN xs).2.1.toNat := by
  have e := takeN_parts h
  have h1 := takeN_again hb e
  have := takeN_lt hb e
  exact ⟨by omega, by omega, by omega, by omega, by omega, h1.1⟩

/-! taken again -/
theorem takeText_text (s : ByteArray) (h : nameB s = true) (rest : List Int) : takeText ((num s.size ++ bytesOf s) ++ rest) = (s, ((num s.size ++ bytesOf s).length : Int), 0) := by
  obtain ⟨h0, h1⟩ := nameB_size h
  have hn := takeN_num s.size (by omega) (bytesOf s ++ rest)
  rw [← List.append_assoc] at hn
  have hlen : (bytesOf s).length = s.size := bytesOf_length s
  have ht : ((((num s.size ++ bytesOf s) ++ rest).take ((((num s.size).length : Nat) : Int) + ((s.size : Nat) : Int)).toNat).drop (((num s.size).length : Nat) : Int).toNat) = bytesOf s := by
    rw [show ((((num s.size).length : Nat) : Int) + ((s.size : Nat) : Int)).toNat = (num s.size ++ bytesOf s).length by rw [List.length_append, hlen]; omega, List.take_left', Int.toNat_natCast, List.drop_left']
    · rfl
    · rfl
  unfold takeText
  rw [hn]
  simp only [ne_eq, not_true_eq_false, if_false]
  rw [if_neg (by omega), if_neg (by simp only [List.length_append, hlen]; omega), ht, strOfNums_bytesOf, if_pos h]
  simp only [List.length_append, hlen, Prod.mk.injEq, true_and, and_true]
  omega
theorem tis_ints (l : List Int) : l.all inI = true → ∀ (pre rest acc : List Int), tis (pre ++ flat l ++ rest) l.length pre.length acc = (acc ++ l, ((pre ++ flat l).length : Int), 0) := by
  induction l with
  | nil => intro _ pre rest acc; simp [tis, flat]
  | cons x l ih =>
    intro h pre rest acc
    simp only [List.all_cons, Bool.and_eq_true] at h
    have hx := h.1
    simp only [inI, Bool.and_eq_true, decide_eq_true_eq] at hx
    have hd : (pre ++ flat (x :: l) ++ rest).drop pre.length = num x.toNat ++ (flat l ++ rest) := by
      rw [flat_cons, List.append_assoc, List.drop_left', List.append_assoc]; rfl
    have hn := takeN_num x.toNat (by omega) (flat l ++ rest)
    have e := ih h.2 (pre ++ num x.toNat) rest (acc ++ [x])
    rw [List.length_cons, tis, hd, hn]
    simp only [ne_eq, not_true_eq_false, if_false]
    rw [if_neg (by omega), Int.toNat_natCast, show (((x.toNat : Nat) : Int)) = x by omega]
    rw [flat_cons, show pre ++ (num x.toNat ++ flat l) ++ rest = pre ++ num x.toNat ++ flat l ++ rest by simp [List.append_assoc]]
    rw [List.length_append] at e
    rw [e]
    simp [List.append_assoc]
theorem takeInts_ints (l : List Int) (hl : ¬ 1000 < l.length) (h : l.all inI = true) (rest : List Int) : takeInts ((num l.length ++ flat l) ++ rest) = (l, ((num l.length ++ flat l).length : Int), 0) := by
  have hn := takeN_num l.length (by omega) (flat l ++ rest)
  rw [← List.append_assoc] at hn
  unfold takeInts
  rw [hn]
  simp only [ne_eq, not_true_eq_false, if_false]
  rw [if_neg (by omega), Int.toNat_natCast, Int.toNat_natCast, tis_ints l h]
  simp

/-! what was taken is laid down as it was -/
theorem takeText_again {xs : List Int} (hb : Byt xs) {s : ByteArray} {j : Int} (h : takeText xs = (s, j, 0)) : nameB s = true ∧ num s.size ++ bytesOf s = xs.take j.toNat ∧ 0 ≤ j ∧ j ≤ xs.length := by
  unfold takeText at h
  split at h
  · rename_i he; simp only [Prod.mk.injEq] at h; exact absurd h.2.2 he
  · rename_i he
    have he0 : (takeN xs).2.2 = 0 := by simpa using he
    obtain ⟨f0, f1, f2, f3, f4, f5⟩ := takeN_facts hb he0
    split at h
    · simp at h
    · split at h
      · simp at h
      · split at h
        · rename_i hr hlen hnm
          simp only [Prod.mk.injEq, and_true] at h
          obtain ⟨rfl, rfl⟩ := h
          refine ⟨hnm, ?_, by omega, by omega⟩
          have hB : Byt ((xs.take ((takeN xs).2.1 + (takeN xs).1).toNat).drop (takeN xs).2.1.toNat) := (hb.take _).drop _
          rw [strOfNums_size, bytesOf_strOfNums hB]
          have e1 : ((xs.take ((takeN xs).2.1 + (takeN xs).1).toNat).drop (takeN xs).2.1.toNat).length = (takeN xs).1.toNat := by
            rw [List.length_drop, List.length_take]; omega
          rw [e1, f5]
          have e2 : xs.take (takeN xs).2.1.toNat = (xs.take ((takeN xs).2.1 + (takeN xs).1).toNat).take (takeN xs).2.1.toNat := by
            rw [List.take_take, Nat.min_eq_left (by omega)]
          rw [e2, List.take_append_drop]
        · simp at h
theorem tis_again (xs : List Int) (hb : Byt xs) : ∀ (m at_ : Nat) (acc l : List Int) (j : Int), at_ ≤ xs.length → tis xs m at_ acc = (l, j, 0) →
    ∃ l', l = acc ++ l' ∧ l'.length = m ∧ l'.all inI = true ∧ xs.take j.toNat = xs.take at_ ++ flat l' ∧ (at_ : Int) ≤ j ∧ j ≤ xs.length := by
  intro m
  induction m with
  | zero =>
    intro at_ acc l j hat h
    simp only [tis, Prod.mk.injEq, and_true] at h
    obtain ⟨rfl, rfl⟩ := h
    exact ⟨[], by simp, rfl, rfl, by simp [flat], by omega, by omega⟩
  | succ m ih =>
    intro at_ acc l j hat h
    rw [tis] at h
    split at h
    · rename_i he; simp only [Prod.mk.injEq] at h; exact absurd h.2.2 he
    · rename_i he
      have he0 : (takeN (xs.drop at_)).2.2 = 0 := by simpa using he
      obtain ⟨f0, f1, f2, f3, f4, f5⟩ := takeN_facts (hb.drop at_) he0
      rw [List.length_drop] at f3
      split at h
      · simp at h
      · rename_i hr
        obtain ⟨l', rfl, h2, h3, h4, h5, h6⟩ := ih _ _ _ _ (by omega) h
        refine ⟨(takeN (xs.drop at_)).1 :: l', by simp, by simp [h2], ?_, ?_, by omega, h6⟩
        · simp only [List.all_cons, Bool.and_eq_true, h3, and_true]
          simp only [inI, Bool.and_eq_true, decide_eq_true_eq]; omega
        · rw [h4, flat_cons, f5, ← List.append_assoc]
          congr 1
          rw [List.take_add]
theorem takeInts_again {xs : List Int} (hb : Byt xs) {l : List Int} {j : Int} (h : takeInts xs = (l, j, 0)) : ¬ 1000 < l.length ∧ l.all inI = true ∧ num l.length ++ flat l = xs.take j.toNat ∧ 0 ≤ j ∧ j ≤ xs.length := by
  unfold takeInts at h
  split at h
  · rename_i he; simp only [Prod.mk.injEq] at h; exact absurd h.2.2 he
  · rename_i he
    have he0 : (takeN xs).2.2 = 0 := by simpa using he
    obtain ⟨f0, f1, f2, f3, f4, f5⟩ := takeN_facts hb he0
    split at h
    · simp at h
    · obtain ⟨l', hl', h2, h3, h4, h5, h6⟩ := tis_again xs hb _ _ _ _ _ (by omega) h
      rw [List.nil_append] at hl'
      subst hl'
      refine ⟨by omega, h3, ?_, by omega, h6⟩
      rw [h2, f5, h4]

/-! a beginning, but all of it, is too short -/
theorem take_app_lt {a b : List Int} {m : Nat} (h : m < a.length) : (a ++ b).take m = a.take m := by
  rw [List.take_append_of_le_length (by omega)]
theorem takeText_cut (s : ByteArray) (h : nameB s = true) (m : Nat) (hm : m < (num s.size ++ bytesOf s).length) : (takeText ((num s.size ++ bytesOf s).take m)).2.2 = 2 := by
  obtain ⟨h0, h1⟩ := nameB_size h
  have hlen : (bytesOf s).length = s.size := bytesOf_length s
  rcases Nat.lt_or_ge m (num s.size).length with hlt | hge
  · rw [take_app_lt hlt]
    have := takeN_cut s.size (by omega) m hlt
    unfold takeText; rw [this]; simp
  · have e : (num s.size ++ bytesOf s).take m = num s.size ++ (bytesOf s).take (m - (num s.size).length) := by
      rw [List.take_append, List.take_of_length_le hge]
    have hn := takeN_num s.size (by omega) ((bytesOf s).take (m - (num s.size).length))
    rw [List.length_append, hlen] at hm
    rw [e]
    unfold takeText; rw [hn]
    simp only [ne_eq, not_true_eq_false, if_false]
    rw [if_neg (by omega), if_pos (by simp only [List.length_append, List.length_take, hlen]; omega)]
theorem tis_cut (l : List Int) : l.all inI = true → ∀ (pre acc : List Int) (m : Nat), pre.length ≤ m → m < (pre ++ flat l).length → (tis ((pre ++ flat l).take m) l.length pre.length acc).2.2 = 2 := by
  induction l with
  | nil => intro _ pre acc m h1 h2; simp [flat] at h2; omega
  | cons x l ih =>
    intro h pre acc m h1 h2
    simp only [List.all_cons, Bool.and_eq_true] at h
    have hx := h.1
    simp only [inI, Bool.and_eq_true, decide_eq_true_eq] at hx
    have e0 : (pre ++ flat (x :: l)).take m = pre ++ (num x.toNat ++ flat l).take (m - pre.length) := by
      rw [flat_cons, List.take_append, List.take_of_length_le h1]
    have hd : ((pre ++ flat (x :: l)).take m).drop pre.length = (num x.toNat ++ flat l).take (m - pre.length) := by
      rw [e0, List.drop_left']; rfl
    rw [List.length_cons, tis, hd]
    rcases Nat.lt_or_ge (m - pre.length) (num x.toNat).length with hlt | hge
    · rw [take_app_lt hlt, takeN_cut x.toNat (by omega) _ hlt]; simp
    · have e : (num x.toNat ++ flat l).take (m - pre.length) = num x.toNat ++ (flat l).take (m - pre.length - (num x.toNat).length) := by
        rw [List.take_append, List.take_of_length_le hge]
      rw [e, takeN_num x.toNat (by omega)]
      simp only [ne_eq, not_true_eq_false, if_false]
      rw [if_neg (by omega), Int.toNat_natCast, show (((x.toNat : Nat) : Int)) = x by omega]
      have hih := ih h.2 (pre ++ num x.toNat) (acc ++ [x]) m (by rw [List.length_append]; omega) (by rw [flat_cons] at h2; simp only [List.length_append] at h2 ⊢; omega)
      rw [List.length_append] at hih
      rw [flat_cons, ← List.append_assoc]
      exact hih
theorem takeInts_cut (l : List Int) (hl : ¬ 1000 < l.length) (h : l.all inI = true) (m : Nat) (hm : m < (num l.length ++ flat l).length) : (takeInts ((num l.length ++ flat l).take m)).2.2 = 2 := by
  rcases Nat.lt_or_ge m (num l.length).length with hlt | hge
  · rw [take_app_lt hlt]
    have := takeN_cut l.length (by omega) m hlt
    unfold takeInts; rw [this]; simp
  · have e : (num l.length ++ flat l).take m = num l.length ++ (flat l).take (m - (num l.length).length) := by
      rw [List.take_append, List.take_of_length_le hge]
    have hn := takeN_num l.length (by omega) ((flat l).take (m - (num l.length).length))
    unfold takeInts
    rw [e, hn]
    simp only [ne_eq, not_true_eq_false, if_false]
    rw [if_neg (by omega), Int.toNat_natCast, Int.toNat_natCast, ← e]
    exact tis_cut l h (num l.length) [] m hge hm
end Go.Proofs.Ytmghjpdchngedaa.QBase
