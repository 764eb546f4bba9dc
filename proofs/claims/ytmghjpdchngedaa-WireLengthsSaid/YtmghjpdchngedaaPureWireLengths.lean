/- A number has 1 to 10 bytes, not fewer than a lesser one; all but its last byte are 128 or more: for all numbers of 64 bits -/
import Derived.Test.YtmghjpdchngedaaQWireLengths
namespace Go.Proofs.Ytmghjpdchngedaa.Pure
open Go.RowKit Go.Proofs.Ytmghjpdchngedaa.PWireLengths Go.Proofs.Ytmghjpdchngedaa.QWireLengths Go.Proofs.Ytmghjpdchngedaa.QBase Go.Proofs.YtmghjpdchngedaaW.PrintWords Go.Proofs.YtmghjpdchngedaaW.PrintLast
theorem lengths_l0 (a b : Nat) (ha : a < 18446744073709551616) (hb : b < 18446744073709551616) (d : Nat) : ∀ i : Nat, i + d = (num a).length →
    Ev (fun k => turnbucklelaw04_WireLengths.l0 k (a : Int) (b : Int) true (num a) (num b) (i : Int)) true := by
  have h10 := num_len10 a ha
  induction d with
  | zero =>
    intro i hi
    refine Ev.step (f := fun _ => some true) (fun k => ?_) (Ev.now _)
    simp only [turnbucklelaw04_WireLengths.l0]
    rw [if_neg (by omega)]
    simp only [if_true]
    congr 1
    by_cases e : a = b
    · subst e; simp
    · have h1 : ((strOfNums (num a)).toList == (strOfNums (num b)).toList) = false := beq_eq_false_iff_ne.2 (fun h => e (num_inj (strOfNums_inj (num_byt a) (num_byt b) h)))
      have h2 : ((a : Int) == (b : Int)) = false := beq_eq_false_iff_ne.2 (by omega)
      rw [h1, h2]; rfl
  | succ d ih =>
    intro i hi
    have hbt := num_bytes a i (by omega)
    refine Ev.step (f := fun k => turnbucklelaw04_WireLengths.l0 k (a : Int) (b : Int) true (num a) (num b) ((i + 1 : Nat) : Int)) (fun k => ?_) (ih (i + 1) (by omega))
    simp only [turnbucklelaw04_WireLengths.l0]
    rw [if_pos (by omega), if_pos (by omega), wrap_id (n := ((num a).length : Int) - 1) (by omega) (by omega), wrap_id (n := (i : Int) + 1) (by omega) (by omega), if_neg]
    · rfl
    · have : decide (rd (num a) (i : Int) ≥ 128) = decide ((i : Int) < ((num a).length : Int) - 1) := decide_eq_decide.2 ⟨fun h => by have := hbt.1 h; omega, fun h => hbt.2 (by omega)⟩
      rw [this]; simp
theorem WireLengths : turnbucklelaw04_WireLengths.Pure := by
  intro a0 a1 w0 w1
  have h0 := u64_of_wf w0
  have h1 := u64_of_wf w1
  refine Ev.rounds ?_
  unfold turnbucklelaw04_WireLengths.f
  refine Ev.bind shown_ev (Ev.bind (Number_ev h0.1 h0.2) (Ev.bind (Number_ev h1.1 h1.2) ?_))
  have p0 := num_pos a0.toNat
  have q0 := num_len10 a0.toNat (by omega)
  have p1 := num_pos a1.toNat
  have q1 := num_len10 a1.toNat (by omega)
  refine Ev.congr (f := fun k => turnbucklelaw04_WireLengths.j0 k a0 a1 true (num a0.toNat) (num a1.toNat) false) (fun k => ?_) ?_
  · rw [if_neg (by omega), if_neg (by omega), if_neg (by omega), if_neg (by omega)]
    by_cases hle : a0 ≤ a1
    · have := num_len_mono a0.toNat a1.toNat (by omega)
      rw [if_pos hle, decide_eq_false (by omega)]
    · rw [if_neg hle]
  · have := lengths_l0 a0.toNat a1.toNat (by omega) (by omega) (num a0.toNat).length 0 (by omega)
    rw [Int.toNat_of_nonneg h0.1, Int.toNat_of_nonneg h1.1] at this
    refine Ev.step (fun k => ?_) this
    simp only [turnbucklelaw04_WireLengths.j0]
    rw [if_neg (by decide)]; rfl
end Go.Proofs.Ytmghjpdchngedaa.Pure
