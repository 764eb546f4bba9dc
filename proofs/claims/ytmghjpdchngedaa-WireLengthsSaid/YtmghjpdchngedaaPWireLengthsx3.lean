/- made by program: the walk of each function's own text, and the Lean function that it computes -/
import Derived.Test.YtmghjpdchngedaaPWireLengthsx0
import Derived.Test.YtmghjpdchngedaaPWireLengthsx1
import Derived.Test.YtmghjpdchngedaaPWireLengthsx2
namespace Go.Proofs.Ytmghjpdchngedaa.PWireLengths
open Go.RowKit Go.Proofs.YtmghjpdchngedaaW.PrintWords Go.Proofs.YtmghjpdchngedaaW.PrintLast Go.Proofs.YtmghjpdchngedaaW.PrintMore
attribute [local go_sem] max2_int min2_int max_two min_two max_three min_three max_four min_four   -- for this text's walks alone
set_option linter.unusedVariables false
set_option linter.unusedSimpArgs false

/-! ### turnbucklelaw04_WireLengths: function 4 -/
mutual
def turnbucklelaw04_WireLengths.j0 : Nat → Int → Int → Bool → List Int → List Int → Bool → Option (Bool)
  | 0, _, _, _, _, _, _ => none
  | k + 1, x0, x1, x5, x6, x7, x43 => if x43 = true then (some false) else (turnbucklelaw04_WireLengths.l0 k x0 x1 x5 x6 x7 0)
def turnbucklelaw04_WireLengths.l0 : Nat → Int → Int → Bool → List Int → List Int → Int → Option (Bool)
  | 0, _, _, _, _, _, _ => none
  | k + 1, x0, x1, x5, x6, x7, x8 => if x8 < (x6.length : Int) then (if 0 ≤ x8 then (if ((decide ((rd x6 x8) ≥ 128)) != (decide (x8 < (wrap64 ((x6.length : Int) - 1))))) = true then (some false) else (turnbucklelaw04_WireLengths.l0 k x0 x1 x5 x6 x7 (wrap64 (x8 + 1)))) else (none)) else (if x5 = true then (some (((strOfNums x6).toList == (strOfNums x7).toList) == (x0 == x1))) else (some false))
end
def turnbucklelaw04_WireLengths.f (k : Nat) (a0 : Int) (a1 : Int) : Option (Bool) := (turnbucklelaw04_shown.f k).bind fun t145 => ((wire_Number.f k a0).bind fun t146 => ((wire_Number.f k a1).bind fun t149 => (if (t146.length : Int) < 1 then (turnbucklelaw04_WireLengths.j0 k a0 a1 t145 t146 t149 true) else (if (t146.length : Int) > 10 then (turnbucklelaw04_WireLengths.j0 k a0 a1 t145 t146 t149 true) else (if (t149.length : Int) < 1 then (turnbucklelaw04_WireLengths.j0 k a0 a1 t145 t146 t149 true) else (if (t149.length : Int) > 10 then (turnbucklelaw04_WireLengths.j0 k a0 a1 t145 t146 t149 true) else (if a0 ≤ a1 then (turnbucklelaw04_WireLengths.j0 k a0 a1 t145 t146 t149 (decide ((t146.length : Int) > (t149.length : Int)))) else (turnbucklelaw04_WireLengths.j0 k a0 a1 t145 t146 t149 false))))))))
theorem turnbucklelaw04_WireLengths.mono_l : ∀ k, (∀ y0 y1 y2 y3 y4 y5, LeO (turnbucklelaw04_WireLengths.j0 k y0 y1 y2 y3 y4 y5) (turnbucklelaw04_WireLengths.j0 (k + 1) y0 y1 y2 y3 y4 y5)) ∧ (∀ y0 y1 y2 y3 y4 y5, LeO (turnbucklelaw04_WireLengths.l0 k y0 y1 y2 y3 y4 y5) (turnbucklelaw04_WireLengths.l0 (k + 1) y0 y1 y2 y3 y4 y5))
  | 0 => ⟨fun _ _ _ _ _ _ r h => by simp [turnbucklelaw04_WireLengths.j0] at h, fun _ _ _ _ _ _ r h => by simp [turnbucklelaw04_WireLengths.l0] at h⟩
  | k + 1 => by
    obtain ⟨ih0, ih1⟩ := turnbucklelaw04_WireLengths.mono_l k
    refine ⟨?_, ?_⟩
    · intro y0 y1 y2 y3 y4 y5
      unfold turnbucklelaw04_WireLengths.j0
      repeat' first
      | (with_reducible exact ih0 _ _ _ _ _ _)
      | (with_reducible exact ih1 _ _ _ _ _ _)
      | (with_reducible exact turnbucklelaw04_shown.mono _)
      | (with_reducible exact wire_Number.mono _ _)
      | (with_reducible exact LeO.refl _)
      | (with_reducible exact LeO.none _)
      | (with_reducible refine LeO.ite ?_ ?_)
      | (with_reducible refine LeO.bind ?_ (fun _ => ?_))
      | exact ih0 _ _ _ _ _ _
      | exact ih1 _ _ _ _ _ _
      | exact turnbucklelaw04_shown.mono _
      | exact wire_Number.mono _ _
      | exact LeO.none _
      | refine LeO.ite ?_ ?_
      | refine LeO.bind ?_ (fun _ => ?_)
    · intro y0 y1 y2 y3 y4 y5
      unfold turnbucklelaw04_WireLengths.l0
      repeat' first
      | (with_reducible exact ih0 _ _ _ _ _ _)
      | (with_reducible exact ih1 _ _ _ _ _ _)
      | (with_reducible exact turnbucklelaw04_shown.mono _)
      | (with_reducible exact wire_Number.mono _ _)
      | (with_reducible exact LeO.refl _)
      | (with_reducible exact LeO.none _)
      | (with_reducible refine LeO.ite ?_ ?_)
      | (with_reducible refine LeO.bind ?_ (fun _ => ?_))
      | exact ih0 _ _ _ _ _ _
      | exact ih1 _ _ _ _ _ _
      | exact turnbucklelaw04_shown.mono _
      | exact wire_Number.mono _ _
      | exact LeO.none _
      | refine LeO.ite ?_ ?_
      | refine LeO.bind ?_ (fun _ => ?_)
theorem turnbucklelaw04_WireLengths.mono : ∀ a0 a1 k, LeO (turnbucklelaw04_WireLengths.f k a0 a1) (turnbucklelaw04_WireLengths.f (k + 1) a0 a1) := by
  intro a0 a1 k
  obtain ⟨ih0, ih1⟩ := turnbucklelaw04_WireLengths.mono_l k
  unfold turnbucklelaw04_WireLengths.f
  repeat' first
      | (with_reducible exact ih0 _ _ _ _ _ _)
      | (with_reducible exact ih1 _ _ _ _ _ _)
      | (with_reducible exact turnbucklelaw04_shown.mono _)
      | (with_reducible exact wire_Number.mono _ _)
      | (with_reducible exact LeO.refl _)
      | (with_reducible exact LeO.none _)
      | (with_reducible refine LeO.ite ?_ ?_)
      | (with_reducible refine LeO.bind ?_ (fun _ => ?_))
      | exact ih0 _ _ _ _ _ _
      | exact ih1 _ _ _ _ _ _
      | exact turnbucklelaw04_shown.mono _
      | exact wire_Number.mono _ _
      | exact LeO.none _
      | refine LeO.ite ?_ ?_
      | refine LeO.bind ?_ (fun _ => ?_)
set_option maxHeartbeats 8000000 in
set_option maxRecDepth 100000 in
theorem turnbucklelaw04_WireLengths.calls (k : Nat) (a0 : Int) (a1 : Int) (r : Bool) (w : World) (h : turnbucklelaw04_WireLengths.f k a0 a1 = some r) :
    Calls Try.prog 4 #[.int .u64 a0, .int .u64 a1] w fun e w' => e = .returned (.bool r) ∧ Below w.heap.size w w' := by
  have HB := Aside0.mk (Below.refl w.heap.size w)
  have H : ((turnbucklelaw04_shown.f k).bind fun t145 => ((wire_Number.f k a0).bind fun t146 => ((wire_Number.f k a1).bind fun t149 => (if (t146.length : Int) < 1 then (turnbucklelaw04_WireLengths.j0 k a0 a1 t145 t146 t149 true) else (if (t146.length : Int) > 10 then (turnbucklelaw04_WireLengths.j0 k a0 a1 t145 t146 t149 true) else (if (t149.length : Int) < 1 then (turnbucklelaw04_WireLengths.j0 k a0 a1 t145 t146 t149 true) else (if (t149.length : Int) > 10 then (turnbucklelaw04_WireLengths.j0 k a0 a1 t145 t146 t149 true) else (if a0 ≤ a1 then (turnbucklelaw04_WireLengths.j0 k a0 a1 t145 t146 t149 (decide ((t146.length : Int) > (t149.length : Int)))) else (turnbucklelaw04_WireLengths.j0 k a0 a1 t145 t146 t149 false))))))))) = some r := h
  clear h
  replace H := Option.bind_eq_some_iff.mp H
  obtain ⟨t145, A30, H⟩ := H
  replace H : ((wire_Number.f k a0).bind fun t146 => ((wire_Number.f k a1).bind fun t149 => (if (t146.length : Int) < 1 then (turnbucklelaw04_WireLengths.j0 k a0 a1 t145 t146 t149 true) else (if (t146.length : Int) > 10 then (turnbucklelaw04_WireLengths.j0 k a0 a1 t145 t146 t149 true) else (if (t149.length : Int) < 1 then (turnbucklelaw04_WireLengths.j0 k a0 a1 t145 t146 t149 true) else (if (t149.length : Int) > 10 then (turnbucklelaw04_WireLengths.j0 k a0 a1 t145 t146 t149 true) else (if a0 ≤ a1 then (turnbucklelaw04_WireLengths.j0 k a0 a1 t145 t146 t149 (decide ((t146.length : Int) > (t149.length : Int)))) else (turnbucklelaw04_WireLengths.j0 k a0 a1 t145 t146 t149 false)))))))) = some r := H
  have A3 := Aside0.mk A30
  clear A30
  replace H := Option.bind_eq_some_iff.mp H
  obtain ⟨t146, A40, H⟩ := H
  replace H : ((wire_Number.f k a1).bind fun t149 => (if (t146.length : Int) < 1 then (turnbucklelaw04_WireLengths.j0 k a0 a1 t145 t146 t149 true) else (if (t146.length : Int) > 10 then (turnbucklelaw04_WireLengths.j0 k a0 a1 t145 t146 t149 true) else (if (t149.length : Int) < 1 then (turnbucklelaw04_WireLengths.j0 k a0 a1 t145 t146 t149 true) else (if (t149.length : Int) > 10 then (turnbucklelaw04_WireLengths.j0 k a0 a1 t145 t146 t149 true) else (if a0 ≤ a1 then (turnbucklelaw04_WireLengths.j0 k a0 a1 t145 t146 t149 (decide ((t146.length : Int) > (t149.length : Int)))) else (turnbucklelaw04_WireLengths.j0 k a0 a1 t145 t146 t149 false))))))) = some r := H
  have A4 := Aside0.mk A40
  clear A40
  replace H := Option.bind_eq_some_iff.mp H
  obtain ⟨t149, A50, H⟩ := H
  replace H : (if (t146.length : Int) < 1 then (turnbucklelaw04_WireLengths.j0 k a0 a1 t145 t146 t149 true) else (if (t146.length : Int) > 10 then (turnbucklelaw04_WireLengths.j0 k a0 a1 t145 t146 t149 true) else (if (t149.length : Int) < 1 then (turnbucklelaw04_WireLengths.j0 k a0 a1 t145 t146 t149 true) else (if (t149.length : Int) > 10 then (turnbucklelaw04_WireLengths.j0 k a0 a1 t145 t146 t149 true) else (if a0 ≤ a1 then (turnbucklelaw04_WireLengths.j0 k a0 a1 t145 t146 t149 (decide ((t146.length : Int) > (t149.length : Int)))) else (turnbucklelaw04_WireLengths.j0 k a0 a1 t145 t146 t149 false)))))) = some r := H
  have A5 := Aside0.mk A50
  clear A50
  have HC6 := Aside0.mk H
  clear H
  go_enter Try.func4, Try.ntmps4
  go_upto_region 4 with (first | ((with_reducible refine gate_callee (f := 10) rfl ?_); refine goesL_ (some 9) rfl rfl Try.func10 (by kernel_rfl) rfl #[] rfl (by (try simp only [List.map_toArray, List.map_cons, List.map_nil]); first | done | rfl | (simp only [List.length_drop, List.length_take]; rfl)) ?_; (with_reducible refine (turnbucklelaw04_shown.calls k  t145 _ A3.out).mono ?_); rintro e w7 ⟨rfl, hb⟩; refine ⟨_, rfl, ?_⟩; have n0_ := Aside0.mk (below_step (by repeat (first | (with_reducible first | exact HB.out | apply below_alloc | apply pw_below_drewN | apply below_drew1) | exact HB.out)) hb); clear HB; have HB := n0_; clear n0_; (try clear hb); (try clear hb2); (try clear hk); (try clear hi)) | ((with_reducible refine gate_callee (f := 13) rfl ?_); refine goesL_ (some 11) rfl rfl Try.func13 (by kernel_rfl) rfl #[.int .u64 a0] rfl (by (try simp only [List.map_toArray, List.map_cons, List.map_nil]); first | done | rfl | (simp only [List.length_drop, List.length_take]; rfl)) ?_; (with_reducible refine (wire_Number.calls k a0 t146 _ A4.out).mono ?_); rintro e w8 ⟨v147, rfl, ho0, hb⟩; refine ⟨_, rfl, ?_⟩; have n0_ := Aside0.mk (Kd.R_lower ho0 (below_size (by repeat (first | (with_reducible first | exact HB.out | apply below_alloc | apply pw_below_drewN | apply below_drew1) | exact HB.out)))); have n1_ := Aside0.mk (below_step (by repeat (first | (with_reducible first | exact HB.out | apply below_alloc | apply pw_below_drewN | apply below_drew1) | exact HB.out)) hb); clear HB; have HO148 := n0_; have HB := n1_; clear n0_ n1_; (try clear hb); (try clear hb2); (try clear hk); (try clear hi); (try clear ho0)) | ((with_reducible refine gate_callee (f := 13) rfl ?_); refine goesL_ (some 13) rfl rfl Try.func13 (by kernel_rfl) rfl #[.int .u64 a1] rfl (by (try simp only [List.map_toArray, List.map_cons, List.map_nil]); first | done | rfl | (simp only [List.length_drop, List.length_take]; rfl)) ?_; (with_reducible refine (wire_Number.calls k a1 t149 _ A5.out).mono ?_); rintro e w9 ⟨v150, rfl, ho0, hb⟩; refine ⟨_, rfl, ?_⟩; have n0_ := Aside0.mk (Kd.R_elder' (by (with_reducible repeat (first | apply Kd.R_alloc | apply Kd.R_drewN | apply Kd.R_drew)); exact HO148.out) (Kd.R_base ho0) hb); have n1_ := Aside0.mk (Kd.R_lower (Kd.R_new' ho0 (Kd.R_lt (by (with_reducible repeat (first | apply Kd.R_alloc | apply Kd.R_drewN | apply Kd.R_drew)); exact HO148.out))) (below_size (by repeat (first | (with_reducible first | exact HB.out | apply below_alloc | apply pw_below_drewN | apply below_drew1) | exact HB.out)))); have n2_ := Aside0.mk (below_step (by repeat (first | (with_reducible first | exact HB.out | apply below_alloc | apply pw_below_drewN | apply below_drew1) | exact HB.out)) hb); clear HO148; clear HB; have HO148 := n0_; have HO151 := n1_; have HB := n2_; clear n0_ n1_ n2_; (try clear hb); (try clear hb2); (try clear hk); (try clear hi); (try clear ho0)))
  (try simp only [Act.put, List.setIfInBounds_toArray, List.set_cons_zero, List.set_cons_succ])
  go_cut [43] (fun v43 wc => ∃ (kq : Nat) (x43_5 : Bool), v43 = .bool x43_5 ∧ Aside0 (turnbucklelaw04_WireLengths.j0 kq a0 a1 t145 t146 t149 x43_5 = some r) ∧ Aside0 (kq ≤ k) ∧ Aside0 (Kd.R (Kd.int .u8) 5 wc w.heap.size (fun k_ => some k_ ≠ (v150 : Value).ownBlock) v147 t146) ∧ Aside0 (Kd.R (Kd.int .u8) 5 wc w.heap.size (fun k_ => some k_ ≠ (v147 : Value).ownBlock) v150 t149) ∧ Aside0 (Below w.heap.size w wc))
  case first =>
    have H := HC6.out
    clear HC6
    by_cases c10 : (t146.length : Int) < 1
    · rw [if_pos c10] at H
      have c10b0 : decide ((t146.length : Int) < 1) = true := decide_eq_true c10
      have c10b1 : decide (t146.length < 1) = true := decide_eq_true (by omega)
      clear c10
      (first | rw [c10b0] | (simp only [i64_w, i32_w]; rw [c10b0]) | skip)
      have H' := Aside0.mk H
      clear H
      obtain ⟨Ao11, co11, eo11⟩ := Kd.R_slice HO148.out
      subst eo11
      go_wp2
      go_meet
      case rel => exact ⟨_, (true), (by first | rfl | (simp; done) | (simp [*]; done)), H', ⟨by first | omega | exact Nat.le_refl _⟩, ⟨by (with_reducible repeat (first | apply Kd.R_alloc | apply Kd.R_drewN | apply Kd.R_drew)); exact Kd.R_mono HO148.out (fun _ hk => hk.2)⟩, ⟨by (with_reducible repeat (first | apply Kd.R_alloc | apply Kd.R_drewN | apply Kd.R_drew)); exact Kd.R_mono HO151.out (fun _ hk => hk.2)⟩, ⟨by repeat (first | (with_reducible first | exact HB.out | apply below_alloc | apply pw_below_drewN | apply below_drew1) | exact HB.out)⟩⟩
    · rw [if_neg c10] at H
      have c10b0 : decide ((t146.length : Int) < 1) = false := decide_eq_false c10
      have c10b1 : decide (t146.length < 1) = false := decide_eq_false (by omega)
      clear c10
      (first | rw [c10b0] | (simp only [i64_w, i32_w]; rw [c10b0]) | skip)
      by_cases c12 : (t146.length : Int) > 10
      · rw [if_pos c12] at H
        have c12b0 : decide (10 < (t146.length : Int)) = true := decide_eq_true c12
        have c12b1 : decide (10 < t146.length) = true := decide_eq_true (by omega)
        clear c12
        have H' := Aside0.mk H
        clear H
        obtain ⟨Ao13, co13, eo13⟩ := Kd.R_slice HO148.out
        subst eo13
        go_wp2
        go_meet
        case rel => exact ⟨_, (true), (by first | rfl | (simp; done) | (simp [*]; done)), H', ⟨by first | omega | exact Nat.le_refl _⟩, ⟨by (with_reducible repeat (first | apply Kd.R_alloc | apply Kd.R_drewN | apply Kd.R_drew)); exact Kd.R_mono HO148.out (fun _ hk => hk.2)⟩, ⟨by (with_reducible repeat (first | apply Kd.R_alloc | apply Kd.R_drewN | apply Kd.R_drew)); exact Kd.R_mono HO151.out (fun _ hk => hk.2)⟩, ⟨by repeat (first | (with_reducible first | exact HB.out | apply below_alloc | apply pw_below_drewN | apply below_drew1) | exact HB.out)⟩⟩
      · rw [if_neg c12] at H
        have c12b0 : decide (10 < (t146.length : Int)) = false := decide_eq_false c12
        have c12b1 : decide (10 < t146.length) = false := decide_eq_false (by omega)
        clear c12
        by_cases c14 : (t149.length : Int) < 1
        · rw [if_pos c14] at H
          have c14b0 : decide ((t149.length : Int) < 1) = true := decide_eq_true c14
          have c14b1 : decide (t149.length < 1) = true := decide_eq_true (by omega)
          clear c14
          have H' := Aside0.mk H
          clear H
          obtain ⟨Ao15, co15, eo15⟩ := Kd.R_slice HO148.out
          subst eo15
          obtain ⟨Ao16, co16, eo16⟩ := Kd.R_slice HO151.out
          subst eo16
          go_wp2
          go_meet
          case rel => exact ⟨_, (true), (by first | rfl | (simp; done) | (simp [*]; done)), H', ⟨by first | omega | exact Nat.le_refl _⟩, ⟨by (with_reducible repeat (first | apply Kd.R_alloc | apply Kd.R_drewN | apply Kd.R_drew)); exact Kd.R_mono HO148.out (fun _ hk => hk.2)⟩, ⟨by (with_reducible repeat (first | apply Kd.R_alloc | apply Kd.R_drewN | apply Kd.R_drew)); exact Kd.R_mono HO151.out (fun _ hk => hk.2)⟩, ⟨by repeat (first | (with_reducible first | exact HB.out | apply below_alloc | apply pw_below_drewN | apply below_drew1) | exact HB.out)⟩⟩
        · rw [if_neg c14] at H
          have c14b0 : decide ((t149.length : Int) < 1) = false := decide_eq_false c14
          have c14b1 : decide (t149.length < 1) = false := decide_eq_false (by omega)
          clear c14
          by_cases c17 : (t149.length : Int) > 10
          · rw [if_pos c17] at H
            have c17b0 : decide (10 < (t149.length : Int)) = true := decide_eq_true c17
            have c17b1 : decide (10 < t149.length) = true := decide_eq_true (by omega)
            clear c17
            have H' := Aside0.mk H
            clear H
            obtain ⟨Ao18, co18, eo18⟩ := Kd.R_slice HO148.out
            subst eo18
            obtain ⟨Ao19, co19, eo19⟩ := Kd.R_slice HO151.out
            subst eo19
            go_wp2
            go_meet
            case rel => exact ⟨_, (true), (by first | rfl | (simp; done) | (simp [*]; done)), H', ⟨by first | omega | exact Nat.le_refl _⟩, ⟨by (with_reducible repeat (first | apply Kd.R_alloc | apply Kd.R_drewN | apply Kd.R_drew)); exact Kd.R_mono HO148.out (fun _ hk => hk.2)⟩, ⟨by (with_reducible repeat (first | apply Kd.R_alloc | apply Kd.R_drewN | apply Kd.R_drew)); exact Kd.R_mono HO151.out (fun _ hk => hk.2)⟩, ⟨by repeat (first | (with_reducible first | exact HB.out | apply below_alloc | apply pw_below_drewN | apply below_drew1) | exact HB.out)⟩⟩
          · rw [if_neg c17] at H
            have c17b0 : decide (10 < (t149.length : Int)) = false := decide_eq_false c17
            have c17b1 : decide (10 < t149.length) = false := decide_eq_false (by omega)
            clear c17
            by_cases c20 : a0 ≤ a1
            · rw [if_pos c20] at H
              have c20b0 : decide (a0 ≤ a1) = true := decide_eq_true c20
              clear c20
              have H' := Aside0.mk H
              clear H
              obtain ⟨Ao21, co21, eo21⟩ := Kd.R_slice HO148.out
              subst eo21
              obtain ⟨Ao22, co22, eo22⟩ := Kd.R_slice HO151.out
              subst eo22
              go_wp2
              go_meet
              case rel => exact ⟨_, (decide ((t146.length : Int) > (t149.length : Int))), (by first | rfl | (simp; done) | (simp [*]; done)), H', ⟨by first | omega | exact Nat.le_refl _⟩, ⟨by (with_reducible repeat (first | apply Kd.R_alloc | apply Kd.R_drewN | apply Kd.R_drew)); exact Kd.R_mono HO148.out (fun _ hk => hk.2)⟩, ⟨by (with_reducible repeat (first | apply Kd.R_alloc | apply Kd.R_drewN | apply Kd.R_drew)); exact Kd.R_mono HO151.out (fun _ hk => hk.2)⟩, ⟨by repeat (first | (with_reducible first | exact HB.out | apply below_alloc | apply pw_below_drewN | apply below_drew1) | exact HB.out)⟩⟩
            · rw [if_neg c20] at H
              have c20b0 : decide (a0 ≤ a1) = false := decide_eq_false c20
              clear c20
              have H' := Aside0.mk H
              clear H
              obtain ⟨Ao23, co23, eo23⟩ := Kd.R_slice HO148.out
              subst eo23
              obtain ⟨Ao24, co24, eo24⟩ := Kd.R_slice HO151.out
              subst eo24
              go_wp2
              go_meet
              case rel => exact ⟨_, (false), (by first | rfl | (simp; done) | (simp [*]; done)), H', ⟨by first | omega | exact Nat.le_refl _⟩, ⟨by (with_reducible repeat (first | apply Kd.R_alloc | apply Kd.R_drewN | apply Kd.R_drew)); exact Kd.R_mono HO148.out (fun _ hk => hk.2)⟩, ⟨by (with_reducible repeat (first | apply Kd.R_alloc | apply Kd.R_drewN | apply Kd.R_drew)); exact Kd.R_mono HO151.out (fun _ hk => hk.2)⟩, ⟨by repeat (first | (with_reducible first | exact HB.out | apply below_alloc | apply pw_below_drewN | apply below_drew1) | exact HB.out)⟩⟩
  case rest =>
    clear HC6
    try clear c1
    try clear c2
    try clear p2
    try clear c4
    try clear c10
    try clear c10b0
    try clear c10b1
    try clear c12
    try clear c12b0
    try clear c12b1
    try clear c13
    try clear c14
    try clear c14b0
    try clear c14b1
    try clear c17
    try clear c17b0
    try clear c17b1
    try clear c20
    try clear c20b0
    obtain ⟨kq, x43_5, rfl, HA, HJ5, HO_6, HO_7, HB⟩ := hcut
    cases kq with
    | zero => exact absurd HA.out (by simp [turnbucklelaw04_WireLengths.j0])
    | succ kj5 =>
      have H := HA.out
      clear HA
      simp only [turnbucklelaw04_WireLengths.j0] at H
      by_cases c25 : x43_5 = true
      · subst c25
        have H1 : (some false) = some r := by rw [if_pos rfl] at H; exact H
        clear H
        have H := H1
        clear H1
        obtain rfl := Option.some.inj H
        go_wp2
        go_ret
        exact ⟨by first | rfl | (simp [errW_none, errW_some] <;> rfl) | (simp [*, errW_none, errW_some] <;> rfl), by repeat (first | (with_reducible first | exact HB.out | apply below_alloc | apply pw_below_drewN | apply below_drew1) | exact HB.out)⟩
      · replace c25 := Bool.eq_false_iff.mpr c25
        subst c25
        have H1 : (turnbucklelaw04_WireLengths.l0 kj5 a0 a1 t145 t146 t149 0) = some r := by rw [if_neg (show ¬ (false = true) by decide)] at H; exact H
        clear H
        have H := H1
        clear H1
        have H' := Aside0.mk H
        clear H
        go_wp2
        go_loopg [8] kj5 (fun kq v8 w' => ∃ (x8_2 : Int), v8 = .int .i64 x8_2 ∧ Aside0 (turnbucklelaw04_WireLengths.l0 kq a0 a1 t145 t146 t149 x8_2 = some r) ∧ Aside0 (kq ≤ kj5) ∧ Aside0 (Kd.R (Kd.int .u8) 5 w' w.heap.size (fun k_ => some k_ ≠ (v150 : Value).ownBlock) v147 t146) ∧ Aside0 (Kd.R (Kd.int .u8) 5 w' w.heap.size (fun k_ => some k_ ≠ (v147 : Value).ownBlock) v150 t149) ∧ Aside0 (Below w.heap.size w w'))
        case atStart => exact ⟨(0), (by first | rfl | (simp; done) | (simp [*]; done)), H', ⟨Nat.le_refl _⟩, ⟨by (with_reducible repeat (first | apply Kd.R_alloc | apply Kd.R_drewN | apply Kd.R_drew)); exact HO_6.out⟩, ⟨by (with_reducible repeat (first | apply Kd.R_alloc | apply Kd.R_drewN | apply Kd.R_drew)); exact HO_7.out⟩, ⟨by repeat (first | (with_reducible first | exact HB.out | apply below_alloc | apply pw_below_drewN | apply below_drew1) | exact HB.out)⟩⟩
        case round =>
          clear H'
          try clear c1
          try clear c2
          try clear p2
          try clear c4
          try clear c10
          try clear c10b0
          try clear c10b1
          try clear c12
          try clear c12b0
          try clear c12b1
          try clear c13
          try clear c14
          try clear c14b0
          try clear c14b1
          try clear c17
          try clear c17b0
          try clear c17b1
          try clear c20
          try clear c20b0
          try clear c25
          try clear p2
          obtain ⟨x8_2, rfl, HA, HK2, HO_6, HO_7, HB⟩ := hrel
          cases gk with
          | zero => exact absurd HA.out (by simp [turnbucklelaw04_WireLengths.l0])
          | succ k2 =>
            have H := HA.out
            clear HA
            simp only [turnbucklelaw04_WireLengths.l0] at H
            by_cases c26 : x8_2 < (t146.length : Int)
            · rw [if_pos c26] at H
              have c26b0 : decide (x8_2 < (t146.length : Int)) = true := decide_eq_true c26
              clear c26
              by_cases c27 : 0 ≤ x8_2
              · rw [if_pos c27] at H
                have c27b0 : decide (0 ≤ x8_2) = true := decide_eq_true c27
                clear c27
                by_cases c28 : ((decide ((rd t146 x8_2) ≥ 128)) != (decide (x8_2 < (wrap64 ((t146.length : Int) - 1))))) = true
                · rw [if_pos c28] at H
                  have c28b0 : ((decide ((rd t146 x8_2) ≥ 128)) != (decide (x8_2 < (wrap64 ((t146.length : Int) - 1))))) = true := c28
                  (try (have c28b1 : decide ((decide ((rd t146 x8_2) ≥ 128)) = (decide (x8_2 < (wrap64 ((t146.length : Int) - 1))))) = false := by simpa using c28))
                  (try (have c28b2 : ((decide ((rd t146 x8_2) ≥ 128)) == (decide (x8_2 < (wrap64 ((t146.length : Int) - 1))))) = false := by simpa using c28))
                  (try (have c28b3 : ¬ ((decide ((rd t146 x8_2) ≥ 128)) = (decide (x8_2 < (wrap64 ((t146.length : Int) - 1))))) := by simpa using c28))
                  clear c28
                  obtain rfl := Option.some.inj H
                  obtain ⟨Ao29, co29, eo29⟩ := Kd.R_slice HO_6.out
                  subst eo29
                  have p152 : 0 ≤ (x8_2 : Int) := of_decide_eq_true (by first | (with_reducible assumption) | assumption)
                  have q152 : x8_2 < (t146.length : Int) := of_decide_eq_true (by first | (with_reducible assumption) | assumption)
                  obtain ⟨ad152, e152, hx152_0⟩ := Kd.at_int (Kd.R_reads' HO_6.out).2.2 x8_2 p152 q152
                  cases e152
                  replace p152 := eq_true p152
                  replace q152 := eq_true q152
                  go_wp2
                  go_ret
                  exact ⟨by first | rfl | (simp [errW_none, errW_some] <;> rfl) | (simp [*, errW_none, errW_some] <;> rfl), by repeat (first | (with_reducible first | exact HB.out | apply below_alloc | apply pw_below_drewN | apply below_drew1) | exact HB.out)⟩
                · rw [if_neg c28] at H
                  have c28b0 : ((decide ((rd t146 x8_2) ≥ 128)) != (decide (x8_2 < (wrap64 ((t146.length : Int) - 1))))) = false := by simpa using c28
                  (try (have c28b1 : decide ((decide ((rd t146 x8_2) ≥ 128)) = (decide (x8_2 < (wrap64 ((t146.length : Int) - 1))))) = true := by simpa using c28))
                  (try (have c28b2 : ((decide ((rd t146 x8_2) ≥ 128)) == (decide (x8_2 < (wrap64 ((t146.length : Int) - 1))))) = true := by simpa using c28))
                  clear c28
                  have H' := Aside0.mk H
                  clear H
                  obtain ⟨Ao30, co30, eo30⟩ := Kd.R_slice HO_6.out
                  subst eo30
                  have p152 : 0 ≤ (x8_2 : Int) := of_decide_eq_true (by first | (with_reducible assumption) | assumption)
                  have q152 : x8_2 < (t146.length : Int) := of_decide_eq_true (by first | (with_reducible assumption) | assumption)
                  obtain ⟨ad152, e152, hx152_0⟩ := Kd.at_int (Kd.R_reads' HO_6.out).2.2 x8_2 p152 q152
                  cases e152
                  replace p152 := eq_true p152
                  replace q152 := eq_true q152
                  go_wp2
                  go_roundg k2
                  case measure => have := HJ5.out; have := HK2.out; omega
                  case rel => exact ⟨(wrap64 (x8_2 + 1)), (by first | rfl | (simp; done) | (simp [*]; done)), H', ⟨by have := HJ5.out; have := HK2.out; omega⟩, ⟨by (with_reducible repeat (first | apply Kd.R_alloc | apply Kd.R_drewN | apply Kd.R_drew)); exact HO_6.out⟩, ⟨by (with_reducible repeat (first | apply Kd.R_alloc | apply Kd.R_drewN | apply Kd.R_drew)); exact HO_7.out⟩, ⟨by repeat (first | (with_reducible first | exact HB.out | apply below_alloc | apply pw_below_drewN | apply below_drew1) | exact HB.out)⟩⟩
              · rw [if_neg c27] at H
                exact absurd H (by simp)
            · rw [if_neg c26] at H
              have c26b0 : decide (x8_2 < (t146.length : Int)) = false := decide_eq_false c26
              clear c26
              by_cases c31 : t145 = true
              · subst c31
                have H1 : (some (((strOfNums t146).toList == (strOfNums t149).toList) == (a0 == a1))) = some r := by rw [if_pos rfl] at H; exact H
                clear H
                have H := H1
                clear H1
                obtain rfl := Option.some.inj H
                obtain ⟨Ao32, co32, eo32⟩ := Kd.R_slice HO_6.out
                subst eo32
                have hcv33 := own_string (P := Try.prog) Try.underlying23 Try.underlying5 Try.underlying9 (Kd.own_of_R HO_6.out)
                have hcv34 := own_string (P := Try.prog) Try.underlying23 Try.underlying5 Try.underlying9 (Kd.own_of_R HO_7.out)
                go_wp2
                go_ret
                exact ⟨by first | rfl | (simp [errW_none, errW_some] <;> rfl) | (simp [*, errW_none, errW_some] <;> rfl), by repeat (first | (with_reducible first | exact HB.out | apply below_alloc | apply pw_below_drewN | apply below_drew1) | exact HB.out)⟩
              · replace c31 := Bool.eq_false_iff.mpr c31
                subst c31
                have H1 : (some false) = some r := by rw [if_neg (show ¬ (false = true) by decide)] at H; exact H
                clear H
                have H := H1
                clear H1
                obtain rfl := Option.some.inj H
                obtain ⟨Ao35, co35, eo35⟩ := Kd.R_slice HO_6.out
                subst eo35
                go_wp2
                go_ret
                exact ⟨by first | rfl | (simp [errW_none, errW_some] <;> rfl) | (simp [*, errW_none, errW_some] <;> rfl), by repeat (first | (with_reducible first | exact HB.out | apply below_alloc | apply pw_below_drewN | apply below_drew1) | exact HB.out)⟩

/-- THE ONE PURE STATEMENT of turnbucklelaw04_WireLengths: yours. -/
def turnbucklelaw04_WireLengths.Pure : Prop := ∀ (a0 : Int) (a1 : Int), (Lit.int .u64 a0).wf = true → (Lit.int .u64 a1).wf = true → ∃ k, turnbucklelaw04_WireLengths.f k a0 a1 = some true
theorem turnbucklelaw04_WireLengths.walk (P : turnbucklelaw04_WireLengths.Pure) (a0 : Int) (a1 : Int) (w : World) (w0 : (Lit.int .u64 a0).wf = true) (w1 : (Lit.int .u64 a1).wf = true) :
    Calls Try.prog 4 #[.int .u64 a0, .int .u64 a1] w fun e w' => e = .returned (.bool true) ∧ Below w.heap.size w w' := by
  obtain ⟨k, h⟩ := P a0 a1 w0 w1
  refine (turnbucklelaw04_WireLengths.calls k a0 a1 true w h).mono ?_
  rintro e w' ⟨rfl, hd⟩
  exact ⟨rfl, hd⟩

end Go.Proofs.Ytmghjpdchngedaa.PWireLengths
