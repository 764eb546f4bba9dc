/- What was taken is laid down as the very bytes that it was: in plain lists -/
import Derived.Test.YtmghjpdchngedaaQWireAgain
namespace Go.Proofs.Ytmghjpdchngedaa.Pure
open Go.RowKit Go.Proofs.Ytmghjpdchngedaa.PWireAgain Go.Proofs.Ytmghjpdchngedaa.QWireAgain Go.Proofs.Ytmghjpdchngedaa.QBase Go.Proofs.YtmghjpdchngedaaW.PrintWords Go.Proofs.YtmghjpdchngedaaW.PrintLast
theorem takeN_bound (xs : List Int) (hb : Byt xs) : 0 ≤ (takeN xs).2.1 ∧ (takeN xs).2.1 ≤ xs.length ∧ 0 ≤ (takeN xs).1 ∧ (takeN xs).1 < 18446744073709551616 := by
  by_cases h : (takeN xs).2.2 = 0
  · have := takeN_facts hb h; omega
  · have : takeN xs = (0, 0, (takeN xs).2.2) := by
      unfold takeN at h ⊢
      repeat' split
      all_goals simp_all
    rw [this]; simp
theorem takeText_bound (xs : List Int) (hb : Byt xs) : 0 ≤ (takeText xs).2.1 ∧ (takeText xs).2.1 ≤ xs.length ∧ (takeText xs).1.size ≤ 16 := by
  by_cases h : (takeText xs).2.2 = 0
  · have e : takeText xs = ((takeText xs).1, (takeText xs).2.1, 0) := by rw [← h]
    have h1 := takeText_again hb e
    have h2 := nameB_size h1.1
    exact ⟨h1.2.2.1, h1.2.2.2, h2.2⟩
  · have : (takeText xs).1 = ⟨#[]⟩ ∧ (takeText xs).2.1 = 0 := by
      unfold takeText at h ⊢
      repeat' split
      all_goals simp_all
    rw [this.1, this.2]
    exact ⟨by omega, by omega, by show (#[] : Array UInt8).size ≤ 16; simp⟩
theorem takeInts_bound (xs : List Int) (hb : Byt xs) : 0 ≤ (takeInts xs).2.1 ∧ (takeInts xs).2.1 ≤ xs.length ∧ (takeInts xs).1.length ≤ 1000 := by
  by_cases h : (takeInts xs).2.2 = 0
  · have e : takeInts xs = ((takeInts xs).1, (takeInts xs).2.1, 0) := by rw [← h]
    have h1 := takeInts_again hb e
    exact ⟨h1.2.2.2.1, h1.2.2.2.2, by omega⟩
  · have key : ∀ (m at_ : Nat) (acc : List Int), (tis xs m at_ acc).2.2 ≠ 0 → (tis xs m at_ acc).1 = [] ∧ (tis xs m at_ acc).2.1 = 0 := by
      intro m
      induction m with
      | zero => intro at_ acc h; simp [tis] at h
      | succ m ih =>
        intro at_ acc h
        rw [tis] at h ⊢
        split
        · simp
        · rename_i h1
          rw [if_neg h1] at h
          split
          · simp
          · rename_i h2
            rw [if_neg h2] at h
            exact ih _ _ h
    have : (takeInts xs).1 = [] ∧ (takeInts xs).2.1 = 0 := by
      unfold takeInts at h ⊢
      split
      · simp
      · rename_i h1
        rw [if_neg h1] at h
        split
        · simp
        · rename_i h2
          rw [if_neg h2] at h
          exact key _ _ _ h
    rw [this.1, this.2]
    exact ⟨by omega, by omega, by simp⟩
theorem again_j3 : Ev (fun k => turnbucklelaw04_WireAgain.j3 k true true true true) true := by
  refine Ev.step (f := fun k => turnbucklelaw04_WireAgain.j4 k true) (fun k => ?_) (Ev.step (f := fun _ => some true) (fun k => rfl) (Ev.now _))
  simp only [turnbucklelaw04_WireAgain.j3]; rw [if_pos trivial, if_pos trivial, if_pos trivial]
theorem again_j2 (xs : List Int) (hb : Byt xs) : Ev (fun k => turnbucklelaw04_WireAgain.j2 k xs true (takeInts xs).2.1 (takeInts xs).2.2 (intsOf (takeInts xs).1).1 (intsOf (takeInts xs).1).2 true true) true := by
  have hB := takeInts_bound xs hb
  refine Ev.step (fun k => ?_) again_j3
  simp only [turnbucklelaw04_WireAgain.j2]
  by_cases h : (takeInts xs).2.2 = 0
  · have e : takeInts xs = ((takeInts xs).1, (takeInts xs).2.1, 0) := by rw [← h]
    obtain ⟨h1, h2, h3, h4, h5⟩ := takeInts_again hb e
    have hi : intsOf (takeInts xs).1 = (xs.take (takeInts xs).2.1.toNat, 0) := by unfold intsOf; rw [if_neg h1, if_pos h2, h3]
    rw [if_pos h, hi]
    simp only [if_true]
    rw [if_pos h4, if_pos h5]
    congr 1
    simp
  · rw [if_neg h]
theorem again_j1 (xs : List Int) (hb : Byt xs) : Ev (fun k => turnbucklelaw04_WireAgain.j1 k xs true (takeText xs).2.1 (takeText xs).2.2 (takeInts xs).2.1 (takeInts xs).2.2 (textOf (takeText xs).1).1 (textOf (takeText xs).1).2 (intsOf (takeInts xs).1).1 (intsOf (takeInts xs).1).2 true) true := by
  refine Ev.step (fun k => ?_) (again_j2 xs hb)
  simp only [turnbucklelaw04_WireAgain.j1]
  by_cases h : (takeText xs).2.2 = 0
  · have e : takeText xs = ((takeText xs).1, (takeText xs).2.1, 0) := by rw [← h]
    obtain ⟨h1, h2, h4, h5⟩ := takeText_again hb e
    have hi : textOf (takeText xs).1 = (xs.take (takeText xs).2.1.toNat, 0) := by unfold textOf; rw [if_pos h1, h2]
    rw [if_pos h, hi]
    simp only [if_true]
    rw [if_pos h4, if_pos h5]
    congr 1
    simp
  · rw [if_neg h]
theorem again_j0 (xs : List Int) (hb : Byt xs) : Ev (fun k => turnbucklelaw04_WireAgain.j0 k xs true (takeN xs).1 (takeN xs).2.1 (takeN xs).2.2 (takeText xs).1 (takeText xs).2.1 (takeText xs).2.2 (takeInts xs).1 (takeInts xs).2.1 (takeInts xs).2.2 false) true := by
  have b0 := takeN_bound xs hb
  have b1 := takeText_bound xs hb
  have b2 := takeInts_bound xs hb
  have hj := again_j1 xs hb
  have hbind : Ev (fun k => (wire_Text.f k (takeText xs).1).bind fun bt172 => ((wire_Ints.f k (takeInts xs).1).bind fun bt176 => (if (takeN xs).2.2 = 0 then ((wire_Number.f k (takeN xs).1).bind fun t180 => (if 0 ≤ (takeN xs).2.1 then (if (takeN xs).2.1 ≤ (xs.length : Int) then (turnbucklelaw04_WireAgain.j1 k xs true (takeText xs).2.1 (takeText xs).2.2 (takeInts xs).2.1 (takeInts xs).2.2 bt172.1 bt172.2 bt176.1 bt176.2 ((strOfNums t180).toList == (strOfNums (xs.take (takeN xs).2.1.toNat)).toList)) else (none)) else (none))) else (turnbucklelaw04_WireAgain.j1 k xs true (takeText xs).2.1 (takeText xs).2.2 (takeInts xs).2.1 (takeInts xs).2.2 bt172.1 bt172.2 bt176.1 bt176.2 true)))) true := by
    refine Ev.bind (wire_Text.ev (by omega)) (Ev.bind (wire_Ints.ev _ (by omega)) ?_)
    by_cases h : (takeN xs).2.2 = 0
    · have f := takeN_facts hb h
      simp only [h, if_true]
      refine Ev.bind (Number_ev b0.2.2.1 b0.2.2.2) (Ev.congr (fun k => ?_) hj)
      rw [if_pos b0.1, if_pos b0.2.1, f.2.2.2.2.2]
      congr 1
      simp
    · exact Ev.congr (fun k => if_neg h) hj
  refine Ev.step (fun k => ?_) hbind
  simp only [turnbucklelaw04_WireAgain.j0]; rw [if_neg (by decide)]
theorem WireAgain : turnbucklelaw04_WireAgain.Pure := by
  intro xs hm hl hw
  have hb := Byt.of_wf hw
  have b0 := takeN_bound xs hb
  have b1 := takeText_bound xs hb
  have b2 := takeInts_bound xs hb
  refine Ev.rounds ?_
  unfold turnbucklelaw04_WireAgain.f
  refine Ev.bind shown_ev (Ev.bind (TakeNumber_ev hb (by omega)) (Ev.bind (wire_TakeText.ev hb (by omega)) (Ev.bind (wire_TakeInts.ev hb (by omega)) (Ev.congr (fun k => ?_) (again_j0 xs hb)))))
  rw [if_neg (by omega), if_neg (by omega), if_neg (by omega), if_neg (by omega), if_neg (by omega), decide_eq_false (by omega)]
end Go.Proofs.Ytmghjpdchngedaa.Pure
