/- made by program: the walk of each function's own text, and the Lean function that it computes -/
import Derived.Test.YtmghjpdchngedaaPWireTextsx0
import Derived.Test.YtmghjpdchngedaaPWireTextsx3
namespace Go.Proofs.Ytmghjpdchngedaa.PWireTexts
open Go.RowKit Go.Proofs.YtmghjpdchngedaaW.PrintWords Go.Proofs.YtmghjpdchngedaaW.PrintLast Go.Proofs.YtmghjpdchngedaaW.PrintMore
attribute [local go_sem] max2_int min2_int max_two min_two max_three min_three max_four min_four   -- for this text's walks alone
set_option linter.unusedVariables false
set_option linter.unusedSimpArgs false

/-! ### turnbuckleref04_TakeNumber: function 12 -/
mutual
def turnbuckleref04_TakeNumber.j1 : Nat → List Int → Int → Option (Int × Int × Int)
  | 0, _, _ => none
  | k + 1, x0, x5 => if x5 = 10 then (some (0, 0, 3)) else (if x5 = (x0.length : Int) then (some (0, 0, 2)) else (if 0 ≤ x5 then (if x5 < (x0.length : Int) then (if (rd x0 x5) = 0 then (turnbuckleref04_TakeNumber.j2 k x0 x5 (decide (x5 > 0))) else (turnbuckleref04_TakeNumber.j2 k x0 x5 false)) else (none)) else (none)))
def turnbuckleref04_TakeNumber.j2 : Nat → List Int → Int → Bool → Option (Int × Int × Int)
  | 0, _, _, _ => none
  | k + 1, x0, x5, x39 => if x39 = true then (some (0, 0, 3)) else (if x5 = 9 then (if 0 ≤ x5 then (if x5 < (x0.length : Int) then (turnbuckleref04_TakeNumber.j3 k x0 x5 (decide ((rd x0 x5) > 1))) else (none)) else (none)) else (turnbuckleref04_TakeNumber.j3 k x0 x5 false))
def turnbuckleref04_TakeNumber.j3 : Nat → List Int → Int → Bool → Option (Int × Int × Int)
  | 0, _, _, _ => none
  | k + 1, x0, x5, x48 => if x48 = true then (some (0, 0, 4)) else (turnbuckleref04_TakeNumber.l1 k x0 x5 0 x5)
def turnbuckleref04_TakeNumber.l1 : Nat → List Int → Int → Int → Int → Option (Int × Int × Int)
  | 0, _, _, _, _ => none
  | k + 1, x0, x5, x6, x7 => if x7 ≥ 0 then (if 0 ≤ x7 then (if x7 < (x0.length : Int) then (turnbuckleref04_TakeNumber.l1 k x0 x5 (IntKind.u64.wrap ((IntKind.u64.wrap (x6 * 128)) + (IntKind.u64.wrap (Int.tmod (rd x0 x7) 128)))) (wrap64 (x7 - 1))) else (none)) else (none)) else (some (x6, wrap64 (x5 + 1), 0))
def turnbuckleref04_TakeNumber.l0 : Nat → List Int → Int → Option (Int × Int × Int)
  | 0, _, _ => none
  | k + 1, x0, x5 => if x5 < (x0.length : Int) then (if x5 < 10 then (if 0 ≤ x5 then (if (rd x0 x5) ≥ 128 then (turnbuckleref04_TakeNumber.l0 k x0 (wrap64 (x5 + 1))) else (turnbuckleref04_TakeNumber.j1 k x0 x5)) else (none)) else (turnbuckleref04_TakeNumber.j1 k x0 x5)) else (turnbuckleref04_TakeNumber.j1 k x0 x5)
end
def turnbuckleref04_TakeNumber.f (k : Nat) (l0 : List Int) : Option (Int × Int × Int) := turnbuckleref04_TakeNumber.l0 k l0 0
theorem turnbuckleref04_TakeNumber.mono_l : ∀ k, (∀ y0 y1, LeO (turnbuckleref04_TakeNumber.j1 k y0 y1) (turnbuckleref04_TakeNumber.j1 (k + 1) y0 y1)) ∧ (∀ y0 y1 y2, LeO (turnbuckleref04_TakeNumber.j2 k y0 y1 y2) (turnbuckleref04_TakeNumber.j2 (k + 1) y0 y1 y2)) ∧ (∀ y0 y1 y2, LeO (turnbuckleref04_TakeNumber.j3 k y0 y1 y2) (turnbuckleref04_TakeNumber.j3 (k + 1) y0 y1 y2)) ∧ (∀ y0 y1 y2 y3, LeO (turnbuckleref04_TakeNumber.l1 k y0 y1 y2 y3) (turnbuckleref04_TakeNumber.l1 (k + 1) y0 y1 y2 y3)) ∧ (∀ y0 y1, LeO (turnbuckleref04_TakeNumber.l0 k y0 y1) (turnbuckleref04_TakeNumber.l0 (k + 1) y0 y1))
  | 0 => ⟨fun _ _ r h => by simp [turnbuckleref04_TakeNumber.j1] at h, fun _ _ _ r h => by simp [turnbuckleref04_TakeNumber.j2] at h, fun _ _ _ r h => by simp [turnbuckleref04_TakeNumber.j3] at h, fun _ _ _ _ r h => by simp [turnbuckleref04_TakeNumber.l1] at h, fun _ _ r h => by simp [turnbuckleref04_TakeNumber.l0] at h⟩
  | k + 1 => by
    obtain ⟨ih0, ih1, ih2, ih3, ih4⟩ := turnbuckleref04_TakeNumber.mono_l k
    refine ⟨?_, ?_, ?_, ?_, ?_⟩
    · intro y0 y1
      unfold turnbuckleref04_TakeNumber.j1
      repeat' first
      | (with_reducible exact ih0 _ _)
      | (with_reducible exact ih1 _ _ _)
      | (with_reducible exact ih2 _ _ _)
      | (with_reducible exact ih3 _ _ _ _)
      | (with_reducible exact ih4 _ _)
      | (with_reducible exact LeO.refl _)
      | (with_reducible exact LeO.none _)
      | (with_reducible refine LeO.ite ?_ ?_)
      | (with_reducible refine LeO.bind ?_ (fun _ => ?_))
      | exact ih0 _ _
      | exact ih1 _ _ _
      | exact ih2 _ _ _
      | exact ih3 _ _ _ _
      | exact ih4 _ _
      | exact LeO.none _
      | refine LeO.ite ?_ ?_
      | refine LeO.bind ?_ (fun _ => ?_)
    · intro y0 y1 y2
      unfold turnbuckleref04_TakeNumber.j2
      repeat' first
      | (with_reducible exact ih0 _ _)
      | (with_reducible exact ih1 _ _ _)
      | (with_reducible exact ih2 _ _ _)
      | (with_reducible exact ih3 _ _ _ _)
      | (with_reducible exact ih4 _ _)
      | (with_reducible exact LeO.refl _)
      | (with_reducible exact LeO.none _)
      | (with_reducible refine LeO.ite ?_ ?_)
      | (with_reducible refine LeO.bind ?_ (fun _ => ?_))
      | exact ih0 _ _
      | exact ih1 _ _ _
      | exact ih2 _ _ _
      | exact ih3 _ _ _ _
      | exact ih4 _ _
      | exact LeO.none _
      | refine LeO.ite ?_ ?_
      | refine LeO.bind ?_ (fun _ => ?_)
    · intro y0 y1 y2
      unfold turnbuckleref04_TakeNumber.j3
      repeat' first
      | (with_reducible exact ih0 _ _)
      | (with_reducible exact ih1 _ _ _)
      | (with_reducible exact ih2 _ _ _)
      | (with_reducible exact ih3 _ _ _ _)
      | (with_reducible exact ih4 _ _)
      | (with_reducible exact LeO.refl _)
      | (with_reducible exact LeO.none _)
      | (with_reducible refine LeO.ite ?_ ?_)
      | (with_reducible refine LeO.bind ?_ (fun _ => ?_))
      | exact ih0 _ _
      | exact ih1 _ _ _
      | exact ih2 _ _ _
      | exact ih3 _ _ _ _
      | exact ih4 _ _
      | exact LeO.none _
      | refine LeO.ite ?_ ?_
      | refine LeO.bind ?_ (fun _ => ?_)
    · intro y0 y1 y2 y3
      unfold turnbuckleref04_TakeNumber.l1
      repeat' first
      | (with_reducible exact ih0 _ _)
      | (with_reducible exact ih1 _ _ _)
      | (with_reducible exact ih2 _ _ _)
      | (with_reducible exact ih3 _ _ _ _)
      | (with_reducible exact ih4 _ _)
      | (with_reducible exact LeO.refl _)
      | (with_reducible exact LeO.none _)
      | (with_reducible refine LeO.ite ?_ ?_)
      | (with_reducible refine LeO.bind ?_ (fun _ => ?_))
      | exact ih0 _ _
      | exact ih1 _ _ _
      | exact ih2 _ _ _
      | exact ih3 _ _ _ _
      | exact ih4 _ _
      | exact LeO.none _
      | refine LeO.ite ?_ ?_
      | refine LeO.bind ?_ (fun _ => ?_)
    · intro y0 y1
      unfold turnbuckleref04_TakeNumber.l0
      repeat' first
      | (with_reducible exact ih0 _ _)
      | (with_reducible exact ih1 _ _ _)
      | (with_reducible exact ih2 _ _ _)
      | (with_reducible exact ih3 _ _ _ _)
      | (with_reducible exact ih4 _ _)
      | (with_reducible exact LeO.refl _)
      | (with_reducible exact LeO.none _)
      | (with_reducible refine LeO.ite ?_ ?_)
      | (with_reducible refine LeO.bind ?_ (fun _ => ?_))
      | exact ih0 _ _
      | exact ih1 _ _ _
      | exact ih2 _ _ _
      | exact ih3 _ _ _ _
      | exact ih4 _ _
      | exact LeO.none _
      | refine LeO.ite ?_ ?_
      | refine LeO.bind ?_ (fun _ => ?_)
theorem turnbuckleref04_TakeNumber.mono : ∀ a0 k, LeO (turnbuckleref04_TakeNumber.f k a0) (turnbuckleref04_TakeNumber.f (k + 1) a0) := by
  intro a0 k
  obtain ⟨ih0, ih1, ih2, ih3, ih4⟩ := turnbuckleref04_TakeNumber.mono_l k
  unfold turnbuckleref04_TakeNumber.f
  repeat' first
      | (with_reducible exact ih0 _ _)
      | (with_reducible exact ih1 _ _ _)
      | (with_reducible exact ih2 _ _ _)
      | (with_reducible exact ih3 _ _ _ _)
      | (with_reducible exact ih4 _ _)
      | (with_reducible exact LeO.refl _)
      | (with_reducible exact LeO.none _)
      | (with_reducible refine LeO.ite ?_ ?_)
      | (with_reducible refine LeO.bind ?_ (fun _ => ?_))
      | exact ih0 _ _
      | exact ih1 _ _ _
      | exact ih2 _ _ _
      | exact ih3 _ _ _ _
      | exact ih4 _ _
      | exact LeO.none _
      | refine LeO.ite ?_ ?_
      | refine LeO.bind ?_ (fun _ => ?_)
set_option maxHeartbeats 8000000 in
set_option maxRecDepth 100000 in
theorem turnbuckleref04_TakeNumber.calls (k : Nat) (A0 : Option Addr) (c0 : Nat) (l0 : List Int) (r1 : Int) (r2 : Int) (r3 : Int) (w : World) (hr0 : Kd.C (Kd.int .u8) w A0 l0.length l0) (hc0 : l0.length ≤ c0) (h : turnbuckleref04_TakeNumber.f k l0 = some (r1, r2, r3)) :
    Calls Try.prog 12 #[.slice A0 l0.length c0] w fun e w' => e = .returned (.tuple #[.int .u64 r1, .int .i64 r2, .int .i64 r3]) ∧ Drawn0 w w' := by
  have HR0 := Aside0.mk hr0
  have HC0 := Aside0.mk hc0
  clear hr0 hc0
  have H : (turnbuckleref04_TakeNumber.l0 k l0 0) = some (r1, r2, r3) := h
  clear h
  have HC2 := Aside0.mk H
  clear H
  go_enter Try.func12, Try.ntmps12
  go_upto_block 0 with (fail)
  go_cut [5] (fun v5 wc => ∃ (kq : Nat) (x5_1 : Int), v5 = .int .i64 x5_1 ∧ Aside0 (turnbuckleref04_TakeNumber.j1 kq l0 x5_1 = some (r1, r2, r3)) ∧ Aside0 (kq ≤ k) ∧ Drawn0 w wc)
  case first =>
    have H := HC2.out
    clear HC2
    have H' := Aside0.mk H
    clear H
    go_wp2
    go_loopg [5] k (fun kq v5 w' => ∃ (x5_1 : Int), v5 = .int .i64 x5_1 ∧ Aside0 (turnbuckleref04_TakeNumber.l0 kq l0 x5_1 = some (r1, r2, r3)) ∧ Aside0 (kq ≤ k) ∧ Drawn0 w w')
    case atStart => exact ⟨(0), (by first | rfl | (simp; done) | (simp [*]; done)), H', ⟨Nat.le_refl _⟩, by repeat (first | exact Drawn0.refl _ | apply Drawn0.step)⟩
    case round =>
      clear H'
      try clear c1
      try clear p2
      obtain ⟨x5_1, rfl, HA, HK1, ⟨m1, rfl⟩⟩ := hrel
      cases gk with
      | zero => exact absurd HA.out (by simp [turnbuckleref04_TakeNumber.l0])
      | succ k1 =>
        have H := HA.out
        clear HA
        simp only [turnbuckleref04_TakeNumber.l0] at H
        by_cases c3 : x5_1 < (l0.length : Int)
        · rw [if_pos c3] at H
          have c3b0 : decide (x5_1 < (l0.length : Int)) = true := decide_eq_true c3
          clear c3
          (first | rw [c3b0] | (simp only [i64_w, i32_w]; rw [c3b0]) | skip)
          by_cases c4 : x5_1 < 10
          · rw [if_pos c4] at H
            have c4b0 : decide (x5_1 < 10) = true := decide_eq_true c4
            clear c4
            by_cases c5 : 0 ≤ x5_1
            · rw [if_pos c5] at H
              have c5b0 : decide (0 ≤ x5_1) = true := decide_eq_true c5
              clear c5
              by_cases c6 : (rd l0 x5_1) ≥ 128
              · rw [if_pos c6] at H
                have c6b0 : decide (128 ≤ (rd l0 x5_1)) = true := decide_eq_true c6
                clear c6
                have H' := Aside0.mk H
                clear H
                have p169 : 0 ≤ (x5_1 : Int) := of_decide_eq_true (by first | (with_reducible assumption) | assumption)
                have q169 : x5_1 < (l0.length : Int) := of_decide_eq_true (by first | (with_reducible assumption) | assumption)
                obtain ⟨ad169, e169, hx169_0⟩ := Kd.at_int HR0.out x5_1 p169 q169
                cases e169
                replace p169 := eq_true p169
                replace q169 := eq_true q169
                go_wp2
                go_roundg k1
                case measure => have := HK1.out; omega
                case rel => exact ⟨(wrap64 (x5_1 + 1)), (by first | rfl | (simp; done) | (simp [*]; done)), H', ⟨by have := HK1.out; omega⟩, by repeat (first | exact Drawn0.refl _ | apply Drawn0.step)⟩
              · rw [if_neg c6] at H
                have c6b0 : decide (128 ≤ (rd l0 x5_1)) = false := decide_eq_false c6
                clear c6
                have H' := Aside0.mk H
                clear H
                have p169 : 0 ≤ (x5_1 : Int) := of_decide_eq_true (by first | (with_reducible assumption) | assumption)
                have q169 : x5_1 < (l0.length : Int) := of_decide_eq_true (by first | (with_reducible assumption) | assumption)
                obtain ⟨ad169, e169, hx169_0⟩ := Kd.at_int HR0.out x5_1 p169 q169
                cases e169
                replace p169 := eq_true p169
                replace q169 := eq_true q169
                go_wp2
                go_meet
                case rel => exact ⟨_, (x5_1), (by first | rfl | (simp; done) | (simp [*]; done)), H', ⟨by have := HK1.out; first | omega | exact Nat.le_refl _⟩, by repeat (first | exact Drawn0.refl _ | apply Drawn0.step)⟩
            · rw [if_neg c5] at H
              exact absurd H (by simp)
          · rw [if_neg c4] at H
            have c4b0 : decide (x5_1 < 10) = false := decide_eq_false c4
            clear c4
            have H' := Aside0.mk H
            clear H
            go_wp2
            go_meet
            case rel => exact ⟨_, (x5_1), (by first | rfl | (simp; done) | (simp [*]; done)), H', ⟨by have := HK1.out; first | omega | exact Nat.le_refl _⟩, by repeat (first | exact Drawn0.refl _ | apply Drawn0.step)⟩
        · rw [if_neg c3] at H
          have c3b0 : decide (x5_1 < (l0.length : Int)) = false := decide_eq_false c3
          clear c3
          (first | rw [c3b0] | (simp only [i64_w, i32_w]; rw [c3b0]) | skip)
          have H' := Aside0.mk H
          clear H
          go_wp2
          go_meet
          case rel => exact ⟨_, (x5_1), (by first | rfl | (simp; done) | (simp [*]; done)), H', ⟨by have := HK1.out; first | omega | exact Nat.le_refl _⟩, by repeat (first | exact Drawn0.refl _ | apply Drawn0.step)⟩
  case rest =>
    clear HC2
    try clear c1
    try clear p1
    try clear q1
    try clear hx1
    try clear p2
    try clear c3
    try clear c3b0
    try clear c4
    try clear c4b0
    try clear c5
    try clear c5b0
    try clear c6
    try clear c6b0
    try clear p6
    try clear hx169_0
    try clear p169
    try clear p2
    try clear q169
    obtain ⟨kq, x5_1, rfl, HA, HJ1, ⟨mc1, rfl⟩⟩ := hcut
    cases kq with
    | zero => exact absurd HA.out (by simp [turnbuckleref04_TakeNumber.j1])
    | succ kj1 =>
      have H := HA.out
      clear HA
      simp only [turnbuckleref04_TakeNumber.j1] at H
      by_cases c7 : x5_1 = 10
      · rw [if_pos c7] at H
        have c7b0 : (x5_1 == 10) = true := beq_iff_eq.mpr c7
        have c7b1 : (x5_1 != 10) = false := bne_eq_false_iff_eq.mpr c7
        clear c7
        simp only [Option.some.injEq, Prod.mk.injEq] at H
        obtain ⟨rfl, rfl, rfl⟩ := H
        go_wp2
        go_ret3
        exact ⟨by first | rfl | (simp; done) | (simp [*]; done), by repeat (first | exact Drawn0.refl _ | apply Drawn0.step)⟩
      · rw [if_neg c7] at H
        have c7b0 : (x5_1 == 10) = false := beq_eq_false_iff_ne.mpr c7
        have c7b1 : (x5_1 != 10) = true := bne_iff_ne.mpr c7
        by_cases c8 : x5_1 = (l0.length : Int)
        · rw [if_pos c8] at H
          have c8b0 : (x5_1 == (l0.length : Int)) = true := beq_iff_eq.mpr c8
          have c8b1 : (x5_1 != (l0.length : Int)) = false := bne_eq_false_iff_eq.mpr c8
          clear c8
          simp only [Option.some.injEq, Prod.mk.injEq] at H
          obtain ⟨rfl, rfl, rfl⟩ := H
          go_wp2
          go_ret3
          exact ⟨by first | rfl | (simp; done) | (simp [*]; done), by repeat (first | exact Drawn0.refl _ | apply Drawn0.step)⟩
        · rw [if_neg c8] at H
          have c8b0 : (x5_1 == (l0.length : Int)) = false := beq_eq_false_iff_ne.mpr c8
          have c8b1 : (x5_1 != (l0.length : Int)) = true := bne_iff_ne.mpr c8
          have HC9 := Aside0.mk H
          clear H
          go_upto_region 8 with (fail)
          go_cut [39] (fun v39 wc => ∃ (kq : Nat) (x39_8 : Bool), v39 = .bool x39_8 ∧ Aside0 (turnbuckleref04_TakeNumber.j2 kq l0 x5_1 x39_8 = some (r1, r2, r3)) ∧ Aside0 (kq ≤ kj1) ∧ Drawn0 w wc)
          case first =>
            have H := HC9.out
            clear HC9
            by_cases c10 : 0 ≤ x5_1
            · rw [if_pos c10] at H
              have c10b0 : decide (0 ≤ x5_1) = true := decide_eq_true c10
              clear c10
              (first | rw [c10b0] | (simp only [i64_w, i32_w]; rw [c10b0]) | skip)
              by_cases c11 : x5_1 < (l0.length : Int)
              · rw [if_pos c11] at H
                have c11b0 : decide (x5_1 < (l0.length : Int)) = true := decide_eq_true c11
                clear c11
                by_cases c12 : (rd l0 x5_1) = 0
                · rw [if_pos c12] at H
                  have c12b0 : ((rd l0 x5_1) == 0) = true := beq_iff_eq.mpr c12
                  have c12b1 : ((rd l0 x5_1) != 0) = false := bne_eq_false_iff_eq.mpr c12
                  clear c12
                  have H' := Aside0.mk H
                  clear H
                  have p170 : 0 ≤ (x5_1 : Int) := of_decide_eq_true (by first | (with_reducible assumption) | assumption)
                  have q170 : x5_1 < (l0.length : Int) := of_decide_eq_true (by first | (with_reducible assumption) | assumption)
                  obtain ⟨ad170, e170, hx170_0⟩ := Kd.at_int HR0.out x5_1 p170 q170
                  cases e170
                  replace p170 := eq_true p170
                  replace q170 := eq_true q170
                  go_wp2
                  go_meet
                  case rel => exact ⟨_, (decide (x5_1 > 0)), (by first | rfl | (simp; done) | (simp [*]; done)), H', ⟨by have := HJ1.out; first | omega | exact Nat.le_refl _⟩, by repeat (first | exact Drawn0.refl _ | apply Drawn0.step)⟩
                · rw [if_neg c12] at H
                  have c12b0 : ((rd l0 x5_1) == 0) = false := beq_eq_false_iff_ne.mpr c12
                  have c12b1 : ((rd l0 x5_1) != 0) = true := bne_iff_ne.mpr c12
                  have H' := Aside0.mk H
                  clear H
                  have p170 : 0 ≤ (x5_1 : Int) := of_decide_eq_true (by first | (with_reducible assumption) | assumption)
                  have q170 : x5_1 < (l0.length : Int) := of_decide_eq_true (by first | (with_reducible assumption) | assumption)
                  obtain ⟨ad170, e170, hx170_0⟩ := Kd.at_int HR0.out x5_1 p170 q170
                  cases e170
                  replace p170 := eq_true p170
                  replace q170 := eq_true q170
                  go_wp2
                  go_meet
                  case rel => exact ⟨_, (false), (by first | rfl | (simp; done) | (simp [*]; done)), H', ⟨by have := HJ1.out; first | omega | exact Nat.le_refl _⟩, by repeat (first | exact Drawn0.refl _ | apply Drawn0.step)⟩
              · rw [if_neg c11] at H
                exact absurd H (by simp)
            · rw [if_neg c10] at H
              exact absurd H (by simp)
          case rest =>
            clear HC9
            try clear c1
            try clear p1
            try clear q1
            try clear hx1
            try clear p2
            try clear c3
            try clear c3b0
            try clear c4
            try clear c4b0
            try clear c5
            try clear c5b0
            try clear c6
            try clear c6b0
            try clear p6
            try clear c7
            try clear c7b0
            try clear c7b1
            try clear c8
            try clear c8b0
            try clear c8b1
            try clear c10
            try clear c10b0
            try clear c11
            try clear c11b0
            try clear c12
            try clear c12b0
            try clear c12b1
            try clear hx169_0
            try clear hx170_0
            try clear p1
            try clear p169
            try clear p170
            try clear p2
            try clear p6
            try clear q1
            try clear q169
            try clear q170
            obtain ⟨kq, x39_8, rfl, HA, HJ8, ⟨mc8, rfl⟩⟩ := hcut
            cases kq with
            | zero => exact absurd HA.out (by simp [turnbuckleref04_TakeNumber.j2])
            | succ kj8 =>
              have H := HA.out
              clear HA
              simp only [turnbuckleref04_TakeNumber.j2] at H
              by_cases c13 : x39_8 = true
              · subst c13
                have H1 : (some (0, 0, 3)) = some (r1, r2, r3) := by rw [if_pos rfl] at H; exact H
                clear H
                have H := H1
                clear H1
                simp only [Option.some.injEq, Prod.mk.injEq] at H
                obtain ⟨rfl, rfl, rfl⟩ := H
                go_wp2
                go_ret3
                exact ⟨by first | rfl | (simp; done) | (simp [*]; done), by repeat (first | exact Drawn0.refl _ | apply Drawn0.step)⟩
              · replace c13 := Bool.eq_false_iff.mpr c13
                subst c13
                have H1 : (if x5_1 = 9 then (if 0 ≤ x5_1 then (if x5_1 < (l0.length : Int) then (turnbuckleref04_TakeNumber.j3 kj8 l0 x5_1 (decide ((rd l0 x5_1) > 1))) else (none)) else (none)) else (turnbuckleref04_TakeNumber.j3 kj8 l0 x5_1 false)) = some (r1, r2, r3) := by rw [if_neg (show ¬ (false = true) by decide)] at H; exact H
                clear H
                have H := H1
                clear H1
                have HC14 := Aside0.mk H
                clear H
                go_upto_region 10 with (fail)
                go_cut [48] (fun v48 wc => ∃ (kq : Nat) (x48_13 : Bool), v48 = .bool x48_13 ∧ Aside0 (turnbuckleref04_TakeNumber.j3 kq l0 x5_1 x48_13 = some (r1, r2, r3)) ∧ Aside0 (kq ≤ kj8) ∧ Drawn0 w wc)
                case first =>
                  have H := HC14.out
                  clear HC14
                  by_cases c15 : x5_1 = 9
                  · rw [if_pos c15] at H
                    have c15b0 : (x5_1 == 9) = true := beq_iff_eq.mpr c15
                    have c15b1 : (x5_1 != 9) = false := bne_eq_false_iff_eq.mpr c15
                    clear c15
                    (first | rw [c15b0] | (simp only [i64_w, i32_w]; rw [c15b0]) | skip)
                    by_cases c16 : 0 ≤ x5_1
                    · rw [if_pos c16] at H
                      have c16b0 : decide (0 ≤ x5_1) = true := decide_eq_true c16
                      clear c16
                      by_cases c17 : x5_1 < (l0.length : Int)
                      · rw [if_pos c17] at H
                        have c17b0 : decide (x5_1 < (l0.length : Int)) = true := decide_eq_true c17
                        clear c17
                        have H' := Aside0.mk H
                        clear H
                        have p171 : 0 ≤ (x5_1 : Int) := of_decide_eq_true (by first | (with_reducible assumption) | assumption)
                        have q171 : x5_1 < (l0.length : Int) := of_decide_eq_true (by first | (with_reducible assumption) | assumption)
                        obtain ⟨ad171, e171, hx171_0⟩ := Kd.at_int HR0.out x5_1 p171 q171
                        cases e171
                        replace p171 := eq_true p171
                        replace q171 := eq_true q171
                        go_wp2
                        go_meet
                        case rel => exact ⟨_, (decide ((rd l0 x5_1) > 1)), (by first | rfl | (simp; done) | (simp [*]; done)), H', ⟨by have := HJ1.out; have := HJ8.out; first | omega | exact Nat.le_refl _⟩, by repeat (first | exact Drawn0.refl _ | apply Drawn0.step)⟩
                      · rw [if_neg c17] at H
                        exact absurd H (by simp)
                    · rw [if_neg c16] at H
                      exact absurd H (by simp)
                  · rw [if_neg c15] at H
                    have c15b0 : (x5_1 == 9) = false := beq_eq_false_iff_ne.mpr c15
                    have c15b1 : (x5_1 != 9) = true := bne_iff_ne.mpr c15
                    (first | rw [c15b0] | (simp only [i64_w, i32_w]; rw [c15b0]) | skip)
                    have H' := Aside0.mk H
                    clear H
                    go_wp2
                    go_meet
                    case rel => exact ⟨_, (false), (by first | rfl | (simp; done) | (simp [*]; done)), H', ⟨by have := HJ1.out; have := HJ8.out; first | omega | exact Nat.le_refl _⟩, by repeat (first | exact Drawn0.refl _ | apply Drawn0.step)⟩
                case rest =>
                  clear HC14
                  try clear c1
                  try clear p1
                  try clear q1
                  try clear hx1
                  try clear p2
                  try clear c3
                  try clear c3b0
                  try clear c4
                  try clear c4b0
                  try clear c5
                  try clear c5b0
                  try clear c6
                  try clear c6b0
                  try clear p6
                  try clear c7
                  try clear c7b0
                  try clear c7b1
                  try clear c8
                  try clear c8b0
                  try clear c8b1
                  try clear c10
                  try clear c10b0
                  try clear c11
                  try clear c11b0
                  try clear c12
                  try clear c12b0
                  try clear c12b1
                  try clear c13
                  try clear c15
                  try clear c15b0
                  try clear c15b1
                  try clear c16
                  try clear c16b0
                  try clear p16
                  try clear q16
                  try clear hx16
                  try clear c17
                  try clear c17b0
                  try clear p17
                  try clear q17
                  try clear hx17
                  try clear hx169_0
                  try clear hx170_0
                  try clear hx171_0
                  try clear p1
                  try clear p169
                  try clear p170
                  try clear p171
                  try clear p2
                  try clear p6
                  try clear q1
                  try clear q169
                  try clear q170
                  try clear q171
                  obtain ⟨kq, x48_13, rfl, HA, HJ13, ⟨mc13, rfl⟩⟩ := hcut
                  cases kq with
                  | zero => exact absurd HA.out (by simp [turnbuckleref04_TakeNumber.j3])
                  | succ kj13 =>
                    have H := HA.out
                    clear HA
                    simp only [turnbuckleref04_TakeNumber.j3] at H
                    by_cases c18 : x48_13 = true
                    · subst c18
                      have H1 : (some (0, 0, 4)) = some (r1, r2, r3) := by rw [if_pos rfl] at H; exact H
                      clear H
                      have H := H1
                      clear H1
                      simp only [Option.some.injEq, Prod.mk.injEq] at H
                      obtain ⟨rfl, rfl, rfl⟩ := H
                      go_wp2
                      go_ret3
                      exact ⟨by first | rfl | (simp; done) | (simp [*]; done), by repeat (first | exact Drawn0.refl _ | apply Drawn0.step)⟩
                    · replace c18 := Bool.eq_false_iff.mpr c18
                      subst c18
                      have H1 : (turnbuckleref04_TakeNumber.l1 kj13 l0 x5_1 0 x5_1) = some (r1, r2, r3) := by rw [if_neg (show ¬ (false = true) by decide)] at H; exact H
                      clear H
                      have H := H1
                      clear H1
                      have H' := Aside0.mk H
                      clear H
                      go_wp2
                      go_loopg [6, 7] kj13 (fun kq v6 v7 w' => ∃ (x6_4 : Int) (x7_4 : Int), v6 = .int .u64 x6_4 ∧ v7 = .int .i64 x7_4 ∧ Aside0 (turnbuckleref04_TakeNumber.l1 kq l0 x5_1 x6_4 x7_4 = some (r1, r2, r3)) ∧ Aside0 (kq ≤ kj13) ∧ Drawn0 w w')
                      case atStart => exact ⟨(0), (x5_1), (by first | rfl | (simp; done) | (simp [*]; done)), (by first | rfl | (simp; done) | (simp [*]; done)), H', ⟨Nat.le_refl _⟩, by repeat (first | exact Drawn0.refl _ | apply Drawn0.step)⟩
                      case round =>
                        clear H'
                        try clear c1
                        try clear p1
                        try clear q1
                        try clear hx1
                        try clear p2
                        try clear c3
                        try clear c3b0
                        try clear c4
                        try clear c4b0
                        try clear c5
                        try clear c5b0
                        try clear c6
                        try clear c6b0
                        try clear p6
                        try clear c7
                        try clear c7b0
                        try clear c7b1
                        try clear c8
                        try clear c8b0
                        try clear c8b1
                        try clear c10
                        try clear c10b0
                        try clear c11
                        try clear c11b0
                        try clear c12
                        try clear c12b0
                        try clear c12b1
                        try clear c13
                        try clear c15
                        try clear c15b0
                        try clear c15b1
                        try clear c16
                        try clear c16b0
                        try clear p16
                        try clear q16
                        try clear hx16
                        try clear c17
                        try clear c17b0
                        try clear p17
                        try clear q17
                        try clear hx17
                        try clear c18
                        try clear hx169_0
                        try clear hx170_0
                        try clear hx171_0
                        try clear p1
                        try clear p16
                        try clear p169
                        try clear p17
                        try clear p170
                        try clear p171
                        try clear p2
                        try clear p6
                        try clear q1
                        try clear q16
                        try clear q169
                        try clear q17
                        try clear q170
                        try clear q171
                        obtain ⟨x6_4, x7_4, rfl, rfl, HA, HK4, ⟨m4, rfl⟩⟩ := hrel
                        cases gk with
                        | zero => exact absurd HA.out (by simp [turnbuckleref04_TakeNumber.l1])
                        | succ k4 =>
                          have H := HA.out
                          clear HA
                          simp only [turnbuckleref04_TakeNumber.l1] at H
                          by_cases c19 : x7_4 ≥ 0
                          · rw [if_pos c19] at H
                            have c19b0 : decide (0 ≤ x7_4) = true := decide_eq_true c19
                            clear c19
                            by_cases c20 : 0 ≤ x7_4
                            · rw [if_pos c20] at H
                              have c20b0 : decide (0 ≤ x7_4) = true := decide_eq_true c20
                              clear c20
                              by_cases c21 : x7_4 < (l0.length : Int)
                              · rw [if_pos c21] at H
                                have c21b0 : decide (x7_4 < (l0.length : Int)) = true := decide_eq_true c21
                                clear c21
                                have H' := Aside0.mk H
                                clear H
                                have p172 : 0 ≤ (x7_4 : Int) := of_decide_eq_true (by first | (with_reducible assumption) | assumption)
                                have q172 : x7_4 < (l0.length : Int) := of_decide_eq_true (by first | (with_reducible assumption) | assumption)
                                obtain ⟨ad172, e172, hx172_0⟩ := Kd.at_int HR0.out x7_4 p172 q172
                                cases e172
                                replace p172 := eq_true p172
                                replace q172 := eq_true q172
                                go_wp2
                                go_roundg k4
                                case measure => have := HJ1.out; have := HJ8.out; have := HJ13.out; have := HK4.out; omega
                                case rel => exact ⟨(IntKind.u64.wrap ((IntKind.u64.wrap (x6_4 * 128)) + (IntKind.u64.wrap (Int.tmod (rd l0 x7_4) 128)))), (wrap64 (x7_4 - 1)), (by first | rfl | (simp; done) | (simp [*]; done)), (by first | rfl | (simp; done) | (simp [*]; done)), H', ⟨by have := HJ1.out; have := HJ8.out; have := HJ13.out; have := HK4.out; omega⟩, by repeat (first | exact Drawn0.refl _ | apply Drawn0.step)⟩
                              · rw [if_neg c21] at H
                                exact absurd H (by simp)
                            · rw [if_neg c20] at H
                              exact absurd H (by simp)
                          · rw [if_neg c19] at H
                            have c19b0 : decide (0 ≤ x7_4) = false := decide_eq_false c19
                            clear c19
                            simp only [Option.some.injEq, Prod.mk.injEq] at H
                            obtain ⟨rfl, rfl, rfl⟩ := H
                            go_wp2
                            go_ret3
                            exact ⟨by first | rfl | (simp; done) | (simp [*]; done), by repeat (first | exact Drawn0.refl _ | apply Drawn0.step)⟩

/-! ### turnbuckleref04_TakeText: function 18 -/
def turnbuckleref04_TakeText.j0 : Nat → List Int → Int → Int → Bool → Option (ByteArray × Int × Int)
  | 0, _, _, _, _ => none
  | k + 1, x0, x5, x6, x24 => if x24 = true then (some ((⟨#[]⟩ : ByteArray), 0, 3)) else (if (wrap64 (x6 + (wrap64 (x5)))) > (x0.length : Int) then (some ((⟨#[]⟩ : ByteArray), 0, 2)) else (if 0 ≤ x6 then (if x6 ≤ (wrap64 (x6 + (wrap64 (x5)))) then (if (wrap64 (x6 + (wrap64 (x5)))) ≤ (x0.length : Int) then ((turnbuckleref04_Name.f k (strOfNums ((x0.take ((wrap64 (x6 + (wrap64 (x5)))) : Int).toNat).drop (x6 : Int).toNat))).bind fun t177 => (if t177 = true then (some (strOfNums ((x0.take ((wrap64 (x6 + (wrap64 (x5)))) : Int).toNat).drop (x6 : Int).toNat), wrap64 (x6 + (wrap64 (x5))), 0)) else (some ((⟨#[]⟩ : ByteArray), 0, 3)))) else (none)) else (none)) else (none)))
def turnbuckleref04_TakeText.f (k : Nat) (l0 : List Int) : Option (ByteArray × Int × Int) := (turnbuckleref04_TakeNumber.f k l0).bind fun bt173 => (if bt173.2.2 = 0 then (if bt173.1 < 1 then (turnbuckleref04_TakeText.j0 k l0 bt173.1 bt173.2.1 true) else (turnbuckleref04_TakeText.j0 k l0 bt173.1 bt173.2.1 (decide (bt173.1 > 16)))) else (some ((⟨#[]⟩ : ByteArray), 0, bt173.2.2)))
theorem turnbuckleref04_TakeText.mono_l : ∀ k, (∀ y0 y1 y2 y3, LeO (turnbuckleref04_TakeText.j0 k y0 y1 y2 y3) (turnbuckleref04_TakeText.j0 (k + 1) y0 y1 y2 y3))
  | 0 => fun _ _ _ _ r h => by simp [turnbuckleref04_TakeText.j0] at h
  | k + 1 => by
    have ih0 := turnbuckleref04_TakeText.mono_l k
    · intro y0 y1 y2 y3
      unfold turnbuckleref04_TakeText.j0
      repeat' first
      | (with_reducible exact ih0 _ _ _ _)
      | (with_reducible exact turnbuckleref04_Name.mono _ _)
      | (with_reducible exact turnbuckleref04_TakeNumber.mono _ _)
      | (with_reducible exact LeO.refl _)
      | (with_reducible exact LeO.none _)
      | (with_reducible refine LeO.ite ?_ ?_)
      | (with_reducible refine LeO.bind ?_ (fun _ => ?_))
      | exact ih0 _ _ _ _
      | exact turnbuckleref04_Name.mono _ _
      | exact turnbuckleref04_TakeNumber.mono _ _
      | exact LeO.none _
      | refine LeO.ite ?_ ?_
      | refine LeO.bind ?_ (fun _ => ?_)
theorem turnbuckleref04_TakeText.mono : ∀ a0 k, LeO (turnbuckleref04_TakeText.f k a0) (turnbuckleref04_TakeText.f (k + 1) a0) := by
  intro a0 k
  have ih0 := turnbuckleref04_TakeText.mono_l k
  unfold turnbuckleref04_TakeText.f
  repeat' first
      | (with_reducible exact ih0 _ _ _ _)
      | (with_reducible exact turnbuckleref04_Name.mono _ _)
      | (with_reducible exact turnbuckleref04_TakeNumber.mono _ _)
      | (with_reducible exact LeO.refl _)
      | (with_reducible exact LeO.none _)
      | (with_reducible refine LeO.ite ?_ ?_)
      | (with_reducible refine LeO.bind ?_ (fun _ => ?_))
      | exact ih0 _ _ _ _
      | exact turnbuckleref04_Name.mono _ _
      | exact turnbuckleref04_TakeNumber.mono _ _
      | exact LeO.none _
      | refine LeO.ite ?_ ?_
      | refine LeO.bind ?_ (fun _ => ?_)
set_option maxHeartbeats 8000000 in
set_option maxRecDepth 100000 in
theorem turnbuckleref04_TakeText.calls (k : Nat) (A0 : Option Addr) (c0 : Nat) (l0 : List Int) (r1 : ByteArray) (r2 : Int) (r3 : Int) (w : World) (hr0 : Kd.C (Kd.int .u8) w A0 l0.length l0) (hc0 : l0.length ≤ c0) (h : turnbuckleref04_TakeText.f k l0 = some (r1, r2, r3)) :
    Calls Try.prog 18 #[.slice A0 l0.length c0] w fun e w' => e = .returned (.tuple #[.string r1, .int .i64 r2, .int .i64 r3]) ∧ Drawn0 w w' := by
  have HR0 := Aside0.mk hr0
  have HC0 := Aside0.mk hc0
  clear hr0 hc0
  have H : ((turnbuckleref04_TakeNumber.f k l0).bind fun bt173 => (if bt173.2.2 = 0 then (if bt173.1 < 1 then (turnbuckleref04_TakeText.j0 k l0 bt173.1 bt173.2.1 true) else (turnbuckleref04_TakeText.j0 k l0 bt173.1 bt173.2.1 (decide (bt173.1 > 16)))) else (some ((⟨#[]⟩ : ByteArray), 0, bt173.2.2)))) = some (r1, r2, r3) := h
  clear h
  replace H := Option.bind_eq_some_iff.mp H
  obtain ⟨⟨t173, t174, t175⟩, A20, H⟩ := H
  replace H : (if t175 = 0 then (if t173 < 1 then (turnbuckleref04_TakeText.j0 k l0 t173 t174 true) else (turnbuckleref04_TakeText.j0 k l0 t173 t174 (decide (t173 > 16)))) else (some ((⟨#[]⟩ : ByteArray), 0, t175))) = some (r1, r2, r3) := H
  have A2 := Aside0.mk A20
  clear A20
  by_cases c3 : t175 = 0
  · rw [if_pos c3] at H
    have c3b0 : (t175 == 0) = true := beq_iff_eq.mpr c3
    have c3b1 : (t175 != 0) = false := bne_eq_false_iff_eq.mpr c3
    clear c3
    have HC4 := Aside0.mk H
    clear H
    go_enter Try.func18, Try.ntmps18
    go_upto_region 4 with (first | ((with_reducible refine gate_callee (f := 12) rfl ?_); refine goesL_ (some 12) rfl rfl Try.func12 (by kernel_rfl) rfl #[.slice A0 l0.length c0] rfl (by (try simp only [List.map_toArray, List.map_cons, List.map_nil]); first | done | rfl | (simp only [List.length_drop, List.length_take]; rfl)) ?_; (with_reducible refine (turnbuckleref04_TakeNumber.calls k _ _ l0 t173 t174 t175 _ ?side1 ?side2 A2.out).mono ?_); (case side1 => repeat (first | exact HR0.out | (with_reducible refine Kd.C_alloc ?_ _) | (with_reducible refine Kd.C_drewN ?_ _) | (with_reducible refine Kd.C_drew ?_))); (case side2 => exact HC0.out); rintro e w' ⟨rfl, ⟨nd, rfl⟩⟩; refine ⟨_, rfl, ?_⟩))
    (try simp only [Act.put, List.setIfInBounds_toArray, List.set_cons_zero, List.set_cons_succ])
    go_cut [24] (fun v24 wc => ∃ (kq : Nat) (x24_3 : Bool), v24 = .bool x24_3 ∧ Aside0 (turnbuckleref04_TakeText.j0 kq l0 t173 t174 x24_3 = some (r1, r2, r3)) ∧ Aside0 (kq ≤ k) ∧ Drawn0 w wc)
    case first =>
      have H := HC4.out
      clear HC4
      by_cases c5 : t173 < 1
      · rw [if_pos c5] at H
        have c5b0 : decide (t173 < 1) = true := decide_eq_true c5
        clear c5
        (first | rw [c5b0] | (simp only [i64_w, i32_w]; rw [c5b0]) | skip)
        have H' := Aside0.mk H
        clear H
        go_wp2
        go_meet
        case rel => exact ⟨_, (true), (by first | rfl | (simp; done) | (simp [*]; done)), H', ⟨by first | omega | exact Nat.le_refl _⟩, by repeat (first | exact Drawn0.refl _ | apply Drawn0.step)⟩
      · rw [if_neg c5] at H
        have c5b0 : decide (t173 < 1) = false := decide_eq_false c5
        clear c5
        (first | rw [c5b0] | (simp only [i64_w, i32_w]; rw [c5b0]) | skip)
        have H' := Aside0.mk H
        clear H
        go_wp2
        go_meet
        case rel => exact ⟨_, (decide (t173 > 16)), (by first | rfl | (simp; done) | (simp [*]; done)), H', ⟨by first | omega | exact Nat.le_refl _⟩, by repeat (first | exact Drawn0.refl _ | apply Drawn0.step)⟩
    case rest =>
      clear HC4
      try clear c1
      try clear p2
      try clear c3
      try clear c3b0
      try clear c3b1
      try clear c5
      try clear c5b0
      obtain ⟨kq, x24_3, rfl, HA, HJ3, ⟨mc3, rfl⟩⟩ := hcut
      cases kq with
      | zero => exact absurd HA.out (by simp [turnbuckleref04_TakeText.j0])
      | succ kj3 =>
        have H := HA.out
        clear HA
        simp only [turnbuckleref04_TakeText.j0] at H
        by_cases c6 : x24_3 = true
        · subst c6
          have H1 : (some ((⟨#[]⟩ : ByteArray), 0, 3)) = some (r1, r2, r3) := by rw [if_pos rfl] at H; exact H
          clear H
          have H := H1
          clear H1
          simp only [Option.some.injEq, Prod.mk.injEq] at H
          obtain ⟨rfl, rfl, rfl⟩ := H
          go_wp2
          go_ret3
          exact ⟨by first | rfl | (simp; done) | (simp [*]; done), by repeat (first | exact Drawn0.refl _ | apply Drawn0.step)⟩
        · replace c6 := Bool.eq_false_iff.mpr c6
          subst c6
          have H1 : (if (wrap64 (t174 + (wrap64 (t173)))) > (l0.length : Int) then (some ((⟨#[]⟩ : ByteArray), 0, 2)) else (if 0 ≤ t174 then (if t174 ≤ (wrap64 (t174 + (wrap64 (t173)))) then (if (wrap64 (t174 + (wrap64 (t173)))) ≤ (l0.length : Int) then ((turnbuckleref04_Name.f kj3 (strOfNums ((l0.take ((wrap64 (t174 + (wrap64 (t173)))) : Int).toNat).drop (t174 : Int).toNat))).bind fun t177 => (if t177 = true then (some (strOfNums ((l0.take ((wrap64 (t174 + (wrap64 (t173)))) : Int).toNat).drop (t174 : Int).toNat), wrap64 (t174 + (wrap64 (t173))), 0)) else (some ((⟨#[]⟩ : ByteArray), 0, 3)))) else (none)) else (none)) else (none))) = some (r1, r2, r3) := by rw [if_neg (show ¬ (false = true) by decide)] at H; exact H
          clear H
          have H := H1
          clear H1
          by_cases c7 : (wrap64 (t174 + (wrap64 (t173)))) > (l0.length : Int)
          · rw [if_pos c7] at H
            have c7b0 : decide ((l0.length : Int) < (wrap64 (t174 + (wrap64 (t173))))) = true := decide_eq_true c7
            clear c7
            simp only [Option.some.injEq, Prod.mk.injEq] at H
            obtain ⟨rfl, rfl, rfl⟩ := H
            go_wp2
            go_ret3
            exact ⟨by first | rfl | (simp; done) | (simp [*]; done), by repeat (first | exact Drawn0.refl _ | apply Drawn0.step)⟩
          · rw [if_neg c7] at H
            have c7b0 : decide ((l0.length : Int) < (wrap64 (t174 + (wrap64 (t173))))) = false := decide_eq_false c7
            clear c7
            by_cases c8 : 0 ≤ t174
            · rw [if_pos c8] at H
              have c8b0 := eq_true c8
              have c8b1 : decide (0 ≤ t174) = true := decide_eq_true c8
              clear c8
              by_cases c9 : t174 ≤ (wrap64 (t174 + (wrap64 (t173))))
              · rw [if_pos c9] at H
                have c9b0 := eq_true c9
                have c9b1 : decide (t174 ≤ (wrap64 (t174 + (wrap64 (t173))))) = true := decide_eq_true c9
                by_cases c10 : (wrap64 (t174 + (wrap64 (t173)))) ≤ (l0.length : Int)
                · rw [if_pos c10] at H
                  have c10b0 := eq_true c10
                  have c10b1 : decide ((wrap64 (t174 + (wrap64 (t173)))) ≤ (l0.length : Int)) = true := decide_eq_true c10
                  replace H := Option.bind_eq_some_iff.mp H
                  obtain ⟨t177, A110, H⟩ := H
                  replace H : (if t177 = true then (some (strOfNums ((l0.take ((wrap64 (t174 + (wrap64 (t173)))) : Int).toNat).drop (t174 : Int).toNat), wrap64 (t174 + (wrap64 (t173))), 0)) else (some ((⟨#[]⟩ : ByteArray), 0, 3))) = some (r1, r2, r3) := H
                  have A11 := Aside0.mk A110
                  clear A110
                  by_cases c12 : t177 = true
                  · subst c12
                    have H1 : (some (strOfNums ((l0.take ((wrap64 (t174 + (wrap64 (t173)))) : Int).toNat).drop (t174 : Int).toNat), wrap64 (t174 + (wrap64 (t173))), 0)) = some (r1, r2, r3) := by rw [if_pos rfl] at H; exact H
                    clear H
                    have H := H1
                    clear H1
                    simp only [Option.some.injEq, Prod.mk.injEq] at H
                    obtain ⟨rfl, rfl, rfl⟩ := H
                    obtain ⟨i013, hi013, _, hsz13, _⟩ := info_parts info5
                    obtain ⟨A13, hcut13, hA13, hC13⟩ := print_mid_of (P := Try.prog) (Value.int .u8) 0 23 5 .i64 .i64 Try.underlying23 hi013 hsz13 A0 c0 l0 t174 (wrap64 (t174 + (wrap64 (t173)))) (of_decide_eq_true (by first | (with_reducible assumption) | assumption)) (by first | omega | exact of_decide_eq_true (by first | (with_reducible assumption) | assumption)) (of_decide_eq_true (by first | (with_reducible assumption) | assumption)) HC0.out
                    have HR176 := Aside0.mk (Kd.C_of_reads (h1 := fun _ => rfl) (hA13 _ (Kd.reads_of_C HR0.out)))
                    have HC176 := Aside0.mk hC13
                    clear hA13 hC13 hi013 hsz13
                    have hcv14 := Kd.C_string (P := Try.prog) (A := A13) (c := (c0 - t174.toNat)) Try.underlying23 Try.underlying5 Try.underlying9 HR176.out
                    have hcv14b := hcv14
                    have hcv14mn := Nat.min_eq_left (show ((wrap64 (t174 + (wrap64 (t173)))) : Int).toNat ≤ l0.length by omega)
                    try simp only [List.length_drop, List.length_take, hcv14mn] at hcv14b
                    have hcv14c := fun (m : Nat) => Kd.C_string (P := Try.prog) (A := A13) (c := (c0 - t174.toNat)) Try.underlying23 Try.underlying5 Try.underlying9 (Kd.C_drewN HR176.out m)
                    try simp only [List.length_drop, List.length_take, hcv14mn] at hcv14c
                    clear hcv14mn
                    go_wp2_with (first | ((with_reducible refine gate_callee (f := 25) rfl ?_); refine goesL_ (some 39) rfl rfl Try.func25 (by kernel_rfl) rfl #[.string (strOfNums ((l0.take ((wrap64 (t174 + (wrap64 (t173)))) : Int).toNat).drop (t174 : Int).toNat))] rfl (by (try simp only [List.map_toArray, List.map_cons, List.map_nil]); first | done | rfl | (simp only [List.length_drop, List.length_take]; rfl)) ?_; (with_reducible refine (turnbuckleref04_Name.calls kj3 (strOfNums ((l0.take ((wrap64 (t174 + (wrap64 (t173)))) : Int).toNat).drop (t174 : Int).toNat)) true _ A11.out).mono ?_); rintro e w' ⟨rfl, ⟨nd, rfl⟩⟩; refine ⟨_, rfl, ?_⟩))
                    go_ret3
                    exact ⟨by first | rfl | (simp; done) | (simp [*]; done), by repeat (first | exact Drawn0.refl _ | apply Drawn0.step)⟩
                  · replace c12 := Bool.eq_false_iff.mpr c12
                    subst c12
                    have H1 : (some ((⟨#[]⟩ : ByteArray), 0, 3)) = some (r1, r2, r3) := by rw [if_neg (show ¬ (false = true) by decide)] at H; exact H
                    clear H
                    have H := H1
                    clear H1
                    simp only [Option.some.injEq, Prod.mk.injEq] at H
                    obtain ⟨rfl, rfl, rfl⟩ := H
                    obtain ⟨i015, hi015, _, hsz15, _⟩ := info_parts info5
                    obtain ⟨A15, hcut15, hA15, hC15⟩ := print_mid_of (P := Try.prog) (Value.int .u8) 0 23 5 .i64 .i64 Try.underlying23 hi015 hsz15 A0 c0 l0 t174 (wrap64 (t174 + (wrap64 (t173)))) (of_decide_eq_true (by first | (with_reducible assumption) | assumption)) (by first | omega | exact of_decide_eq_true (by first | (with_reducible assumption) | assumption)) (of_decide_eq_true (by first | (with_reducible assumption) | assumption)) HC0.out
                    have HR176 := Aside0.mk (Kd.C_of_reads (h1 := fun _ => rfl) (hA15 _ (Kd.reads_of_C HR0.out)))
                    have HC176 := Aside0.mk hC15
                    clear hA15 hC15 hi015 hsz15
                    have hcv16 := Kd.C_string (P := Try.prog) (A := A15) (c := (c0 - t174.toNat)) Try.underlying23 Try.underlying5 Try.underlying9 HR176.out
                    have hcv16b := hcv16
                    have hcv16mn := Nat.min_eq_left (show ((wrap64 (t174 + (wrap64 (t173)))) : Int).toNat ≤ l0.length by omega)
                    try simp only [List.length_drop, List.length_take, hcv16mn] at hcv16b
                    have hcv16c := fun (m : Nat) => Kd.C_string (P := Try.prog) (A := A15) (c := (c0 - t174.toNat)) Try.underlying23 Try.underlying5 Try.underlying9 (Kd.C_drewN HR176.out m)
                    try simp only [List.length_drop, List.length_take, hcv16mn] at hcv16c
                    clear hcv16mn
                    go_wp2_with (first | ((with_reducible refine gate_callee (f := 25) rfl ?_); refine goesL_ (some 39) rfl rfl Try.func25 (by kernel_rfl) rfl #[.string (strOfNums ((l0.take ((wrap64 (t174 + (wrap64 (t173)))) : Int).toNat).drop (t174 : Int).toNat))] rfl (by (try simp only [List.map_toArray, List.map_cons, List.map_nil]); first | done | rfl | (simp only [List.length_drop, List.length_take]; rfl)) ?_; (with_reducible refine (turnbuckleref04_Name.calls kj3 (strOfNums ((l0.take ((wrap64 (t174 + (wrap64 (t173)))) : Int).toNat).drop (t174 : Int).toNat)) false _ A11.out).mono ?_); rintro e w' ⟨rfl, ⟨nd, rfl⟩⟩; refine ⟨_, rfl, ?_⟩))
                    go_ret3
                    exact ⟨by first | rfl | (simp; done) | (simp [*]; done), by repeat (first | exact Drawn0.refl _ | apply Drawn0.step)⟩
                · rw [if_neg c10] at H
                  exact absurd H (by simp)
              · rw [if_neg c9] at H
                exact absurd H (by simp)
            · rw [if_neg c8] at H
              exact absurd H (by simp)
  · rw [if_neg c3] at H
    have c3b0 : (t175 == 0) = false := beq_eq_false_iff_ne.mpr c3
    have c3b1 : (t175 != 0) = true := bne_iff_ne.mpr c3
    simp only [Option.some.injEq, Prod.mk.injEq] at H
    obtain ⟨rfl, rfl, rfl⟩ := H
    go_enter Try.func18, Try.ntmps18
    go_wp2_with (first | ((with_reducible refine gate_callee (f := 12) rfl ?_); refine goesL_ (some 12) rfl rfl Try.func12 (by kernel_rfl) rfl #[.slice A0 l0.length c0] rfl (by (try simp only [List.map_toArray, List.map_cons, List.map_nil]); first | done | rfl | (simp only [List.length_drop, List.length_take]; rfl)) ?_; (with_reducible refine (turnbuckleref04_TakeNumber.calls k _ _ l0 t173 t174 t175 _ ?side1 ?side2 A2.out).mono ?_); (case side1 => repeat (first | exact HR0.out | (with_reducible refine Kd.C_alloc ?_ _) | (with_reducible refine Kd.C_drewN ?_ _) | (with_reducible refine Kd.C_drew ?_))); (case side2 => exact HC0.out); rintro e w' ⟨rfl, ⟨nd, rfl⟩⟩; refine ⟨_, rfl, ?_⟩))
    go_ret3
    exact ⟨by first | rfl | (simp; done) | (simp [*]; done), by repeat (first | exact Drawn0.refl _ | apply Drawn0.step)⟩

end Go.Proofs.Ytmghjpdchngedaa.PWireTexts
