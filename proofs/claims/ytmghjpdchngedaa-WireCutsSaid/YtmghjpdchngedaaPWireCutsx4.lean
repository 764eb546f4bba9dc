/- made by program: the walk of each function's own text, and the Lean function that it computes -/
import Derived.Test.YtmghjpdchngedaaPWireCutsx0
import Derived.Test.YtmghjpdchngedaaPWireCutsx1
import Derived.Test.YtmghjpdchngedaaPWireCutsx2
import Derived.Test.YtmghjpdchngedaaPWireCutsx3
namespace Go.Proofs.Ytmghjpdchngedaa.PWireCuts
open Go.RowKit Go.Proofs.YtmghjpdchngedaaW.PrintWords Go.Proofs.YtmghjpdchngedaaW.PrintLast Go.Proofs.YtmghjpdchngedaaW.PrintMore
attribute [local go_sem] max2_int min2_int max_two min_two max_three min_three max_four min_four   -- for this text's walks alone
set_option linter.unusedVariables false
set_option linter.unusedSimpArgs false

/-! ### turnbucklelaw04_WireCuts: function 9 -/
mutual
def turnbucklelaw04_WireCuts.j0 : Nat → List Int → Int → Bool → List Int → Bool → Option (Bool)
  | 0, _, _, _, _, _ => none
  | k + 1, x2, x3, x9, x14, x55 => if x55 = true then (if (x14.length : Int) = 0 then (none) else (if 0 ≤ (Int.tmod (wrap64 (x3)) (x14.length : Int)) then (if (Int.tmod (wrap64 (x3)) (x14.length : Int)) ≤ (x14.length : Int) then ((wire_TakeText.f k (x14.take ((Int.tmod (wrap64 (x3)) (x14.length : Int)) : Int).toNat)).bind fun bt179 => (if bt179.2.2 = 2 then (turnbucklelaw04_WireCuts.j1 k x2 x3 x9) else (some false))) else (none)) else (none))) else (turnbucklelaw04_WireCuts.j1 k x2 x3 x9)
def turnbucklelaw04_WireCuts.j1 : Nat → List Int → Int → Bool → Option (Bool)
  | 0, _, _, _ => none
  | k + 1, x2, x3, x9 => (wire_Ints.f k x2).bind fun bt182 => (if bt182.2 = 0 then (if (bt182.1.length : Int) = 0 then (if x9 = true then (some (bt182.2 != 0)) else (some false)) else (if 0 ≤ (Int.tmod (wrap64 (x3)) (bt182.1.length : Int)) then (if (Int.tmod (wrap64 (x3)) (bt182.1.length : Int)) ≤ (bt182.1.length : Int) then ((wire_TakeInts.f k (bt182.1.take ((Int.tmod (wrap64 (x3)) (bt182.1.length : Int)) : Int).toNat)).bind fun bt190 => (if x9 = true then (some (bt190.2.2 == 2)) else (some false))) else (none)) else (none))) else (if x9 = true then (some (bt182.2 != 0)) else (some false)))
end
def turnbucklelaw04_WireCuts.f (k : Nat) (a0 : Int) (a1 : ByteArray) (l2 : List Int) (a3 : Int) : Option (Bool) := (turnbucklelaw04_shown.f k).bind fun t160 => ((wire_Number.f k a0).bind fun t161 => (if (t161.length : Int) = 0 then (some false) else (if 0 ≤ (Int.tmod (wrap64 (a3)) (t161.length : Int)) then (if (Int.tmod (wrap64 (a3)) (t161.length : Int)) ≤ (t161.length : Int) then ((wire_TakeNumber.f k (t161.take ((Int.tmod (wrap64 (a3)) (t161.length : Int)) : Int).toNat)).bind fun bt168 => (if bt168.2.2 = 2 then ((wire_Text.f k a1).bind fun bt171 => (if bt171.2 = 0 then (turnbucklelaw04_WireCuts.j0 k l2 a3 t160 bt171.1 (decide ((bt171.1.length : Int) > 0))) else (turnbucklelaw04_WireCuts.j0 k l2 a3 t160 bt171.1 false))) else (some false))) else (none)) else (none))))
theorem turnbucklelaw04_WireCuts.mono_l : ∀ k, (∀ y0 y1 y2 y3 y4, LeO (turnbucklelaw04_WireCuts.j0 k y0 y1 y2 y3 y4) (turnbucklelaw04_WireCuts.j0 (k + 1) y0 y1 y2 y3 y4)) ∧ (∀ y0 y1 y2, LeO (turnbucklelaw04_WireCuts.j1 k y0 y1 y2) (turnbucklelaw04_WireCuts.j1 (k + 1) y0 y1 y2))
  | 0 => ⟨fun _ _ _ _ _ r h => by simp [turnbucklelaw04_WireCuts.j0] at h, fun _ _ _ r h => by simp [turnbucklelaw04_WireCuts.j1] at h⟩
  | k + 1 => by
    obtain ⟨ih0, ih1⟩ := turnbucklelaw04_WireCuts.mono_l k
    refine ⟨?_, ?_⟩
    · intro y0 y1 y2 y3 y4
      unfold turnbucklelaw04_WireCuts.j0
      repeat' first
      | (with_reducible exact ih0 _ _ _ _ _)
      | (with_reducible exact ih1 _ _ _)
      | (with_reducible exact turnbucklelaw04_shown.mono _)
      | (with_reducible exact wire_Ints.mono _ _)
      | (with_reducible exact wire_Number.mono _ _)
      | (with_reducible exact wire_TakeInts.mono _ _)
      | (with_reducible exact wire_TakeNumber.mono _ _)
      | (with_reducible exact wire_TakeText.mono _ _)
      | (with_reducible exact wire_Text.mono _ _)
      | (with_reducible exact LeO.refl _)
      | (with_reducible exact LeO.none _)
      | (with_reducible refine LeO.ite ?_ ?_)
      | (with_reducible refine LeO.bind ?_ (fun _ => ?_))
      | exact ih0 _ _ _ _ _
      | exact ih1 _ _ _
      | exact turnbucklelaw04_shown.mono _
      | exact wire_Ints.mono _ _
      | exact wire_Number.mono _ _
      | exact wire_TakeInts.mono _ _
      | exact wire_TakeNumber.mono _ _
      | exact wire_TakeText.mono _ _
      | exact wire_Text.mono _ _
      | exact LeO.none _
      | refine LeO.ite ?_ ?_
      | refine LeO.bind ?_ (fun _ => ?_)
    · intro y0 y1 y2
      unfold turnbucklelaw04_WireCuts.j1
      repeat' first
      | (with_reducible exact ih0 _ _ _ _ _)
      | (with_reducible exact ih1 _ _ _)
      | (with_reducible exact turnbucklelaw04_shown.mono _)
      | (with_reducible exact wire_Ints.mono _ _)
      | (with_reducible exact wire_Number.mono _ _)
      | (with_reducible exact wire_TakeInts.mono _ _)
      | (with_reducible exact wire_TakeNumber.mono _ _)
      | (with_reducible exact wire_TakeText.mono _ _)
      | (with_reducible exact wire_Text.mono _ _)
      | (with_reducible exact LeO.refl _)
      | (with_reducible exact LeO.none _)
      | (with_reducible refine LeO.ite ?_ ?_)
      | (with_reducible refine LeO.bind ?_ (fun _ => ?_))
      | exact ih0 _ _ _ _ _
      | exact ih1 _ _ _
      | exact turnbucklelaw04_shown.mono _
      | exact wire_Ints.mono _ _
      | exact wire_Number.mono _ _
      | exact wire_TakeInts.mono _ _
      | exact wire_TakeNumber.mono _ _
      | exact wire_TakeText.mono _ _
      | exact wire_Text.mono _ _
      | exact LeO.none _
      | refine LeO.ite ?_ ?_
      | refine LeO.bind ?_ (fun _ => ?_)
theorem turnbucklelaw04_WireCuts.mono : ∀ a0 a1 a2 a3 k, LeO (turnbucklelaw04_WireCuts.f k a0 a1 a2 a3) (turnbucklelaw04_WireCuts.f (k + 1) a0 a1 a2 a3) := by
  intro a0 a1 a2 a3 k
  obtain ⟨ih0, ih1⟩ := turnbucklelaw04_WireCuts.mono_l k
  unfold turnbucklelaw04_WireCuts.f
  repeat' first
      | (with_reducible exact ih0 _ _ _ _ _)
      | (with_reducible exact ih1 _ _ _)
      | (with_reducible exact turnbucklelaw04_shown.mono _)
      | (with_reducible exact wire_Ints.mono _ _)
      | (with_reducible exact wire_Number.mono _ _)
      | (with_reducible exact wire_TakeInts.mono _ _)
      | (with_reducible exact wire_TakeNumber.mono _ _)
      | (with_reducible exact wire_TakeText.mono _ _)
      | (with_reducible exact wire_Text.mono _ _)
      | (with_reducible exact LeO.refl _)
      | (with_reducible exact LeO.none _)
      | (with_reducible refine LeO.ite ?_ ?_)
      | (with_reducible refine LeO.bind ?_ (fun _ => ?_))
      | exact ih0 _ _ _ _ _
      | exact ih1 _ _ _
      | exact turnbucklelaw04_shown.mono _
      | exact wire_Ints.mono _ _
      | exact wire_Number.mono _ _
      | exact wire_TakeInts.mono _ _
      | exact wire_TakeNumber.mono _ _
      | exact wire_TakeText.mono _ _
      | exact wire_Text.mono _ _
      | exact LeO.none _
      | refine LeO.ite ?_ ?_
      | refine LeO.bind ?_ (fun _ => ?_)
set_option maxHeartbeats 8000000 in
set_option maxRecDepth 100000 in
theorem turnbucklelaw04_WireCuts.calls (k : Nat) (a0 : Int) (a1 : ByteArray) (A2 : Option Addr) (c2 : Nat) (l2 : List Int) (a3 : Int) (r : Bool) (w : World) (hr2 : Kd.C (Kd.int .i64) w A2 l2.length l2) (hc2 : l2.length ≤ c2) (h : turnbucklelaw04_WireCuts.f k a0 a1 l2 a3 = some r) :
    Calls Try.prog 9 #[.int .u64 a0, .string a1, .slice A2 l2.length c2, .int .u16 a3] w fun e w' => e = .returned (.bool r) ∧ Below w.heap.size w w' := by
  have HR2 := Aside0.mk hr2
  have HC2 := Aside0.mk hc2
  clear hr2 hc2
  have HB := Aside0.mk (Below.refl w.heap.size w)
  have H : ((turnbucklelaw04_shown.f k).bind fun t160 => ((wire_Number.f k a0).bind fun t161 => (if (t161.length : Int) = 0 then (some false) else (if 0 ≤ (Int.tmod (wrap64 (a3)) (t161.length : Int)) then (if (Int.tmod (wrap64 (a3)) (t161.length : Int)) ≤ (t161.length : Int) then ((wire_TakeNumber.f k (t161.take ((Int.tmod (wrap64 (a3)) (t161.length : Int)) : Int).toNat)).bind fun bt168 => (if bt168.2.2 = 2 then ((wire_Text.f k a1).bind fun bt171 => (if bt171.2 = 0 then (turnbucklelaw04_WireCuts.j0 k l2 a3 t160 bt171.1 (decide ((bt171.1.length : Int) > 0))) else (turnbucklelaw04_WireCuts.j0 k l2 a3 t160 bt171.1 false))) else (some false))) else (none)) else (none))))) = some r := h
  clear h
  replace H := Option.bind_eq_some_iff.mp H
  obtain ⟨t160, A50, H⟩ := H
  replace H : ((wire_Number.f k a0).bind fun t161 => (if (t161.length : Int) = 0 then (some false) else (if 0 ≤ (Int.tmod (wrap64 (a3)) (t161.length : Int)) then (if (Int.tmod (wrap64 (a3)) (t161.length : Int)) ≤ (t161.length : Int) then ((wire_TakeNumber.f k (t161.take ((Int.tmod (wrap64 (a3)) (t161.length : Int)) : Int).toNat)).bind fun bt168 => (if bt168.2.2 = 2 then ((wire_Text.f k a1).bind fun bt171 => (if bt171.2 = 0 then (turnbucklelaw04_WireCuts.j0 k l2 a3 t160 bt171.1 (decide ((bt171.1.length : Int) > 0))) else (turnbucklelaw04_WireCuts.j0 k l2 a3 t160 bt171.1 false))) else (some false))) else (none)) else (none)))) = some r := H
  have A5 := Aside0.mk A50
  clear A50
  replace H := Option.bind_eq_some_iff.mp H
  obtain ⟨t161, A60, H⟩ := H
  replace H : (if (t161.length : Int) = 0 then (some false) else (if 0 ≤ (Int.tmod (wrap64 (a3)) (t161.length : Int)) then (if (Int.tmod (wrap64 (a3)) (t161.length : Int)) ≤ (t161.length : Int) then ((wire_TakeNumber.f k (t161.take ((Int.tmod (wrap64 (a3)) (t161.length : Int)) : Int).toNat)).bind fun bt168 => (if bt168.2.2 = 2 then ((wire_Text.f k a1).bind fun bt171 => (if bt171.2 = 0 then (turnbucklelaw04_WireCuts.j0 k l2 a3 t160 bt171.1 (decide ((bt171.1.length : Int) > 0))) else (turnbucklelaw04_WireCuts.j0 k l2 a3 t160 bt171.1 false))) else (some false))) else (none)) else (none))) = some r := H
  have A6 := Aside0.mk A60
  clear A60
  by_cases c7 : (t161.length : Int) = 0
  · rw [if_pos c7] at H
    have c7b0 : ((t161.length : Int) == 0) = true := beq_iff_eq.mpr c7
    have c7b1 : ((t161.length : Int) != 0) = false := bne_eq_false_iff_eq.mpr c7
    clear c7
    obtain rfl := Option.some.inj H
    go_enter Try.func9, Try.ntmps9
    go_wp2_with (first | ((with_reducible refine gate_callee (f := 10) rfl ?_); refine goesL_ (some 24) rfl rfl Try.func10 (by kernel_rfl) rfl #[] rfl (by (try simp only [List.map_toArray, List.map_cons, List.map_nil]); first | done | rfl | (simp only [List.length_drop, List.length_take]; rfl)) ?_; (with_reducible refine (turnbucklelaw04_shown.calls k  t160 _ A5.out).mono ?_); rintro e w8 ⟨rfl, hb⟩; refine ⟨_, rfl, ?_⟩; have n0_ := Aside0.mk (below_step (by repeat (first | (with_reducible first | exact HB.out | apply below_alloc | apply pw_below_drewN | apply below_drew1) | exact HB.out)) hb); clear HB; have HB := n0_; clear n0_; (try clear hb); (try clear hb2); (try clear hk); (try clear hi)) | ((with_reducible refine gate_callee (f := 13) rfl ?_); refine goesL_ (some 26) rfl rfl Try.func13 (by kernel_rfl) rfl #[.int .u64 a0] rfl (by (try simp only [List.map_toArray, List.map_cons, List.map_nil]); first | done | rfl | (simp only [List.length_drop, List.length_take]; rfl)) ?_; (with_reducible refine (wire_Number.calls k a0 t161 _ A6.out).mono ?_); rintro e w9 ⟨v162, rfl, ho0, hb⟩; refine ⟨_, rfl, ?_⟩; have n0_ := Aside0.mk (Kd.R_lower ho0 (below_size (by repeat (first | (with_reducible first | exact HB.out | apply below_alloc | apply pw_below_drewN | apply below_drew1) | exact HB.out)))); have n1_ := Aside0.mk (below_step (by repeat (first | (with_reducible first | exact HB.out | apply below_alloc | apply pw_below_drewN | apply below_drew1) | exact HB.out)) hb); clear HB; have HO163 := n0_; have HB := n1_; clear n0_ n1_; (try clear hb); (try clear hb2); (try clear hk); (try clear hi); (try clear ho0); obtain ⟨Ao10, co10, eo10⟩ := Kd.R_slice HO163.out; subst eo10))
    go_ret
    exact ⟨by first | rfl | (simp [errW_none, errW_some] <;> rfl) | (simp [*, errW_none, errW_some] <;> rfl), by repeat (first | (with_reducible first | exact HB.out | apply below_alloc | apply pw_below_drewN | apply below_drew1) | exact HB.out)⟩
  · rw [if_neg c7] at H
    have c7b0 : ((t161.length : Int) == 0) = false := beq_eq_false_iff_ne.mpr c7
    have c7b1 : ((t161.length : Int) != 0) = true := bne_iff_ne.mpr c7
    have c7b2 : ¬ (t161 = []) := fun h_ => c7 (by rw [h_]; rfl)
    obtain ⟨ji11, hji11⟩ : ∃ j_ : Int, (Int.tmod (wrap64 (a3)) (t161.length : Int)) = j_ := ⟨_, rfl⟩
    replace H : (if 0 ≤ (ji11) then (if (ji11) ≤ (t161.length : Int) then ((wire_TakeNumber.f k (t161.take ((ji11) : Int).toNat)).bind fun bt168 => (if bt168.2.2 = 2 then ((wire_Text.f k a1).bind fun bt171 => (if bt171.2 = 0 then (turnbucklelaw04_WireCuts.j0 k l2 a3 t160 bt171.1 (decide ((bt171.1.length : Int) > 0))) else (turnbucklelaw04_WireCuts.j0 k l2 a3 t160 bt171.1 false))) else (some false))) else (none)) else (none)) = some r := by first | (rw [hji11] at H; exact H) | (simp only [hji11] at H ⊢; exact H)
    (try rw [hji11] at A5)
    (try rw [hji11] at A6)
    by_cases c12 : 0 ≤ (ji11)
    · rw [if_pos c12] at H
      have c12b0 := eq_true c12
      have c12b1 : decide (0 ≤ (ji11)) = true := decide_eq_true c12
      clear c12
      by_cases c13 : (ji11) ≤ (t161.length : Int)
      · rw [if_pos c13] at H
        have c13b0 := eq_true c13
        have c13b1 : decide ((ji11) ≤ (t161.length : Int)) = true := decide_eq_true c13
        clear c13
        obtain ⟨y164, hy164⟩ : ∃ y_ : List Int, y_ = (t161.take ((ji11) : Int).toNat) := ⟨_, rfl⟩
        replace H : ((wire_TakeNumber.f k y164).bind fun bt168 => (if bt168.2.2 = 2 then ((wire_Text.f k a1).bind fun bt171 => (if bt171.2 = 0 then (turnbucklelaw04_WireCuts.j0 k l2 a3 t160 bt171.1 (decide ((bt171.1.length : Int) > 0))) else (turnbucklelaw04_WireCuts.j0 k l2 a3 t160 bt171.1 false))) else (some false))) = some r := by first | (rw [hy164]; with_reducible exact H) | (have H2_ := (Option.bind_some _ _).symm.trans H; rw [hy164]; with_reducible exact H2_) | (have H2_ := (Option.bind_some _ _).symm.trans H; with_reducible exact H2_) | with_reducible exact H | (rw [hy164]; exact H) | exact H
        have Ny164 := Aside0.mk hy164
        clear hy164
        replace H := Option.bind_eq_some_iff.mp H
        obtain ⟨⟨t168, t169, t170⟩, A140, H⟩ := H
        replace H : (if t170 = 2 then ((wire_Text.f k a1).bind fun bt171 => (if bt171.2 = 0 then (turnbucklelaw04_WireCuts.j0 k l2 a3 t160 bt171.1 (decide ((bt171.1.length : Int) > 0))) else (turnbucklelaw04_WireCuts.j0 k l2 a3 t160 bt171.1 false))) else (some false)) = some r := H
        have A14 := Aside0.mk A140
        clear A140
        by_cases c15 : t170 = 2
        · rw [if_pos c15] at H
          have c15b0 : (t170 == 2) = true := beq_iff_eq.mpr c15
          have c15b1 : (t170 != 2) = false := bne_eq_false_iff_eq.mpr c15
          clear c15
          replace H := Option.bind_eq_some_iff.mp H
          obtain ⟨⟨t171, t172⟩, A160, H⟩ := H
          replace H : (if t172 = 0 then (turnbucklelaw04_WireCuts.j0 k l2 a3 t160 t171 (decide ((t171.length : Int) > 0))) else (turnbucklelaw04_WireCuts.j0 k l2 a3 t160 t171 false)) = some r := H
          have A16 := Aside0.mk A160
          clear A160
          have HC17 := Aside0.mk H
          clear H
          go_enter Try.func9, Try.ntmps9
          go_upto_region 9 with (first | ((with_reducible refine gate_callee (f := 10) rfl ?_); refine goesL_ (some 24) rfl rfl Try.func10 (by kernel_rfl) rfl #[] rfl (by (try simp only [List.map_toArray, List.map_cons, List.map_nil]); first | done | rfl | (simp only [List.length_drop, List.length_take]; rfl)) ?_; (with_reducible refine (turnbucklelaw04_shown.calls k  t160 _ A5.out).mono ?_); rintro e w18 ⟨rfl, hb⟩; refine ⟨_, rfl, ?_⟩; have n0_ := Aside0.mk (below_step (by repeat (first | (with_reducible first | exact HB.out | apply below_alloc | apply pw_below_drewN | apply below_drew1) | exact HB.out)) hb); clear HB; have HB := n0_; clear n0_; (try clear hb); (try clear hb2); (try clear hk); (try clear hi)) | ((with_reducible refine gate_callee (f := 13) rfl ?_); refine goesL_ (some 26) rfl rfl Try.func13 (by kernel_rfl) rfl #[.int .u64 a0] rfl (by (try simp only [List.map_toArray, List.map_cons, List.map_nil]); first | done | rfl | (simp only [List.length_drop, List.length_take]; rfl)) ?_; (with_reducible refine (wire_Number.calls k a0 t161 _ A6.out).mono ?_); rintro e w19 ⟨v162, rfl, ho0, hb⟩; refine ⟨_, rfl, ?_⟩; have n0_ := Aside0.mk (Kd.R_lower ho0 (below_size (by repeat (first | (with_reducible first | exact HB.out | apply below_alloc | apply pw_below_drewN | apply below_drew1) | exact HB.out)))); have n1_ := Aside0.mk (below_step (by repeat (first | (with_reducible first | exact HB.out | apply below_alloc | apply pw_below_drewN | apply below_drew1) | exact HB.out)) hb); clear HB; have HO163 := n0_; have HB := n1_; clear n0_ n1_; (try clear hb); (try clear hb2); (try clear hk); (try clear hi); (try clear ho0); obtain ⟨Ao20, co20, eo20⟩ := Kd.R_slice HO163.out; subst eo20; have q21 : ((ji11) : Int) ≤ ((t161.length : Int) : Int) := of_decide_eq_true (by first | (with_reducible assumption) | assumption); obtain ⟨i021, hi021, _, hsz21, _⟩ := info_parts info5; have hroom21 : t161.length ≤ co20 := (Kd.R_reads' HO163.out).2.1; have hC21 : Kd.C (Kd.int .u8) _ Ao20 t161.length t161 := (Kd.R_reads' HO163.out).2.2; have hcut21 := cut_to (P := Try.prog) 23 5 .i64 Try.underlying23 hi021 Ao20 t161.length co20 (ji11) (of_decide_eq_true (by first | (with_reducible assumption) | assumption)) q21 hroom21; have hr21 := Kd.C_take (m := ((ji11) : Int).toNat) hC21 (by omega); have hy21 : y164.length = ((ji11) : Int).toNat := (by rw [Ny164.out, List.length_take]; omega); rw [← Ny164.out] at hr21; rw [← hy21] at hcut21; have HR167 := Aside0.mk hr21; have HC167 := Aside0.mk (show y164.length ≤ co20 from by omega); clear hr21 hC21 hroom21 hi021 hsz21; have KY21 := Aside0.mk hy21; clear hy21; have KL21 := Aside0.mk (show ((ji11) : Int).toNat ≤ t161.length from by omega); replace q21 := eq_true q21) | ((with_reducible refine gate_callee (f := 11) rfl ?_); refine goesL_ (some 38) rfl rfl Try.func11 (by kernel_rfl) rfl #[.slice Ao20 y164.length co20] rfl (by (try simp only [List.map_toArray, List.map_cons, List.map_nil]); first | done | rfl | (simp only [List.length_drop, List.length_take]; rfl)) ?_; (with_reducible refine (wire_TakeNumber.calls k _ _ y164 t168 t169 t170 _ ?side1 ?side2 A14.out).mono ?_); (case side1 => repeat (first | exact (by repeat (first | (with_reducible exact HR167.out) | (with_reducible refine Kd.C_alloc ?_ _) | (with_reducible refine Kd.C_drewN ?_ _) | (with_reducible refine Kd.C_drew ?_) | exact HR167.out)) | (with_reducible refine Kd.C_alloc ?_ _) | (with_reducible refine Kd.C_drewN ?_ _) | (with_reducible refine Kd.C_drew ?_))); (case side2 => exact HC167.out); rintro e w' ⟨rfl, ⟨nd, rfl⟩⟩; refine ⟨_, rfl, ?_⟩) | ((with_reducible refine gate_callee (f := 15) rfl ?_); refine goesL_ (some 46) rfl rfl Try.func15 (by kernel_rfl) rfl #[.string a1] rfl (by (try simp only [List.map_toArray, List.map_cons, List.map_nil]); first | done | rfl | (simp only [List.length_drop, List.length_take]; rfl)) ?_; (with_reducible refine (wire_Text.calls k a1 t171 t172 _ A16.out).mono ?_); rintro e w22 ⟨v173, rfl, ho0, hb⟩; refine ⟨_, rfl, ?_⟩; have n0_ := Aside0.mk (Kd.R_elder' (by (with_reducible repeat (first | apply Kd.R_alloc | apply Kd.R_drewN | apply Kd.R_drew)); exact HO163.out) (Kd.R_base ho0) hb); have n1_ := Aside0.mk (Kd.R_lower (Kd.R_new' ho0 (Kd.R_lt (by (with_reducible repeat (first | apply Kd.R_alloc | apply Kd.R_drewN | apply Kd.R_drew)); exact HO163.out))) (below_size (by repeat (first | (with_reducible first | exact HB.out | apply below_alloc | apply pw_below_drewN | apply below_drew1) | exact HB.out)))); have n2_ := Aside0.mk (Kd.C_below (by repeat (first | (with_reducible exact HR167.out) | (with_reducible refine Kd.C_alloc ?_ _) | (with_reducible refine Kd.C_drewN ?_ _) | (with_reducible refine Kd.C_drew ?_) | exact HR167.out)) hb); have n3_ := Aside0.mk (below_step (by repeat (first | (with_reducible first | exact HB.out | apply below_alloc | apply pw_below_drewN | apply below_drew1) | exact HB.out)) hb); clear HO163; clear HR167; clear HB; have HO163 := n0_; have HO174 := n1_; have HR167 := n2_; have HB := n3_; clear n0_ n1_ n2_ n3_; (try clear hb); (try clear hb2); (try clear hk); (try clear hi); (try clear ho0)))
          (try simp only [Act.put, List.setIfInBounds_toArray, List.set_cons_zero, List.set_cons_succ])
          go_cut [55] (fun v55 wc => ∃ (kq : Nat) (x55_16 : Bool), v55 = .bool x55_16 ∧ Aside0 (turnbucklelaw04_WireCuts.j0 kq l2 a3 t160 t171 x55_16 = some r) ∧ Aside0 (kq ≤ k) ∧ Aside0 (Kd.R (Kd.int .u8) 5 wc w.heap.size (fun _ => True) v173 t171) ∧ Aside0 (Kd.C (Kd.int .u8) wc Ao20 y164.length y164) ∧ Aside0 (Below w.heap.size w wc))
          case first =>
            have H := HC17.out
            clear HC17
            by_cases c23 : t172 = 0
            · rw [if_pos c23] at H
              have c23b0 : (t172 == 0) = true := beq_iff_eq.mpr c23
              have c23b1 : (t172 != 0) = false := bne_eq_false_iff_eq.mpr c23
              clear c23
              (first | rw [c23b0] | (simp only [i64_w, i32_w]; rw [c23b0]) | skip)
              have H' := Aside0.mk H
              clear H
              obtain ⟨Ao24, co24, eo24⟩ := Kd.R_slice HO174.out
              subst eo24
              go_wp2
              go_meet
              case rel => exact ⟨_, (decide ((t171.length : Int) > 0)), (by first | rfl | (simp; done) | (simp [*]; done)), H', ⟨by first | omega | exact Nat.le_refl _⟩, ⟨by (with_reducible repeat (first | apply Kd.R_alloc | apply Kd.R_drewN | apply Kd.R_drew)); exact Kd.R_mono HO174.out (fun _ hk => trivial)⟩, ⟨by repeat (first | (with_reducible exact HR167.out) | (with_reducible refine Kd.C_alloc ?_ _) | (with_reducible refine Kd.C_drewN ?_ _) | (with_reducible refine Kd.C_drew ?_) | exact HR167.out)⟩, ⟨by repeat (first | (with_reducible first | exact HB.out | apply below_alloc | apply pw_below_drewN | apply below_drew1) | exact HB.out)⟩⟩
            · rw [if_neg c23] at H
              have c23b0 : (t172 == 0) = false := beq_eq_false_iff_ne.mpr c23
              have c23b1 : (t172 != 0) = true := bne_iff_ne.mpr c23
              (first | rw [c23b0] | (simp only [i64_w, i32_w]; rw [c23b0]) | skip)
              have H' := Aside0.mk H
              clear H
              go_wp2
              go_meet
              case rel => exact ⟨_, (false), (by first | rfl | (simp; done) | (simp [*]; done)), H', ⟨by first | omega | exact Nat.le_refl _⟩, ⟨by (with_reducible repeat (first | apply Kd.R_alloc | apply Kd.R_drewN | apply Kd.R_drew)); exact Kd.R_mono HO174.out (fun _ hk => trivial)⟩, ⟨by repeat (first | (with_reducible exact HR167.out) | (with_reducible refine Kd.C_alloc ?_ _) | (with_reducible refine Kd.C_drewN ?_ _) | (with_reducible refine Kd.C_drew ?_) | exact HR167.out)⟩, ⟨by repeat (first | (with_reducible first | exact HB.out | apply below_alloc | apply pw_below_drewN | apply below_drew1) | exact HB.out)⟩⟩
          case rest =>
            clear HC17
            try clear c1
            try clear c2
            try clear p2
            try clear q2
            try clear p6
            try clear c7
            try clear c7b0
            try clear c7b1
            try clear c7b2
            try clear c9
            try clear c10
            try clear c11
            try clear c12
            try clear c12b0
            try clear c12b1
            try clear c13
            try clear c13b0
            try clear c13b1
            try clear c15
            try clear c15b0
            try clear c15b1
            try clear q21
            try clear c23
            try clear c23b0
            try clear c23b1
            try clear q21
            obtain ⟨kq, x55_16, rfl, HA, HJ16, HO_14, HR167, HB⟩ := hcut
            cases kq with
            | zero => exact absurd HA.out (by simp [turnbucklelaw04_WireCuts.j0])
            | succ kj16 =>
              have H := HA.out
              clear HA
              simp only [turnbucklelaw04_WireCuts.j0] at H
              have HC25 := Aside0.mk H
              clear H
              go_upto_if 55 with (fail)
              go_cut [] (fun wc => ∃ (kq : Nat), Aside0 (turnbucklelaw04_WireCuts.j1 kq l2 a3 t160 = some r) ∧ Aside0 (kq ≤ kj16) ∧ Aside0 (Kd.C (Kd.int .u8) wc Ao20 y164.length y164) ∧ Aside0 (Below w.heap.size w wc))
              case first =>
                have H := HC25.out
                clear HC25
                by_cases c26 : x55_16 = true
                · subst c26
                  have H1 : (if (t171.length : Int) = 0 then (none) else (if 0 ≤ (Int.tmod (wrap64 (a3)) (t171.length : Int)) then (if (Int.tmod (wrap64 (a3)) (t171.length : Int)) ≤ (t171.length : Int) then ((wire_TakeText.f kj16 (t171.take ((Int.tmod (wrap64 (a3)) (t171.length : Int)) : Int).toNat)).bind fun bt179 => (if bt179.2.2 = 2 then (turnbucklelaw04_WireCuts.j1 kj16 l2 a3 t160) else (some false))) else (none)) else (none))) = some r := by rw [if_pos rfl] at H; exact H
                  clear H
                  have H := H1
                  clear H1
                  by_cases c27 : (t171.length : Int) = 0
                  · rw [if_pos c27] at H
                    exact absurd H (by simp)
                  · rw [if_neg c27] at H
                    have c27b0 : ((t171.length : Int) == 0) = false := beq_eq_false_iff_ne.mpr c27
                    have c27b1 : ((t171.length : Int) != 0) = true := bne_iff_ne.mpr c27
                    have c27b2 : ¬ (t171 = []) := fun h_ => c27 (by rw [h_]; rfl)
                    (first | rw [c27b0] | (simp only [i64_w, i32_w]; rw [c27b0]) | skip)
                    obtain ⟨ji28, hji28⟩ : ∃ j_ : Int, (Int.tmod (wrap64 (a3)) (t171.length : Int)) = j_ := ⟨_, rfl⟩
                    replace H : (if 0 ≤ (ji28) then (if (ji28) ≤ (t171.length : Int) then ((wire_TakeText.f kj16 (t171.take ((ji28) : Int).toNat)).bind fun bt179 => (if bt179.2.2 = 2 then (turnbucklelaw04_WireCuts.j1 kj16 l2 a3 t160) else (some false))) else (none)) else (none)) = some r := by first | (rw [hji28] at H; exact H) | (simp only [hji28] at H ⊢; exact H)
                    by_cases c29 : 0 ≤ (ji28)
                    · rw [if_pos c29] at H
                      have c29b0 := eq_true c29
                      have c29b1 : decide (0 ≤ (ji28)) = true := decide_eq_true c29
                      clear c29
                      by_cases c30 : (ji28) ≤ (t171.length : Int)
                      · rw [if_pos c30] at H
                        have c30b0 := eq_true c30
                        have c30b1 : decide ((ji28) ≤ (t171.length : Int)) = true := decide_eq_true c30
                        clear c30
                        obtain ⟨y175, hy175⟩ : ∃ y_ : List Int, y_ = (t171.take ((ji28) : Int).toNat) := ⟨_, rfl⟩
                        replace H : ((wire_TakeText.f kj16 y175).bind fun bt179 => (if bt179.2.2 = 2 then (turnbucklelaw04_WireCuts.j1 kj16 l2 a3 t160) else (some false))) = some r := by first | (rw [hy175]; with_reducible exact H) | (have H2_ := (Option.bind_some _ _).symm.trans H; rw [hy175]; with_reducible exact H2_) | (have H2_ := (Option.bind_some _ _).symm.trans H; with_reducible exact H2_) | with_reducible exact H | (rw [hy175]; exact H) | exact H
                        have Ny175 := Aside0.mk hy175
                        clear hy175
                        replace H := Option.bind_eq_some_iff.mp H
                        obtain ⟨⟨t179, t180, t181⟩, A310, H⟩ := H
                        replace H : (if t181 = 2 then (turnbucklelaw04_WireCuts.j1 kj16 l2 a3 t160) else (some false)) = some r := H
                        have A31 := Aside0.mk A310
                        clear A310
                        by_cases c32 : t181 = 2
                        · rw [if_pos c32] at H
                          have c32b0 : (t181 == 2) = true := beq_iff_eq.mpr c32
                          have c32b1 : (t181 != 2) = false := bne_eq_false_iff_eq.mpr c32
                          clear c32
                          have H' := Aside0.mk H
                          clear H
                          obtain ⟨Ao33, co33, eo33⟩ := Kd.R_slice HO_14.out
                          subst eo33
                          have q34 : ((ji28) : Int) ≤ ((t171.length : Int) : Int) := of_decide_eq_true (by first | (with_reducible assumption) | assumption)
                          obtain ⟨i034, hi034, _, hsz34, _⟩ := info_parts info5
                          have hroom34 : t171.length ≤ co33 := (Kd.R_reads' HO_14.out).2.1
                          have hC34 : Kd.C (Kd.int .u8) _ Ao33 t171.length t171 := (Kd.R_reads' HO_14.out).2.2
                          have hcut34 := cut_to (P := Try.prog) 23 5 .i64 Try.underlying23 hi034 Ao33 t171.length co33 (ji28) (of_decide_eq_true (by first | (with_reducible assumption) | assumption)) q34 hroom34
                          have hr34 := Kd.C_take (m := ((ji28) : Int).toNat) hC34 (by omega)
                          have hy34 : y175.length = ((ji28) : Int).toNat := (by rw [Ny175.out, List.length_take]; omega)
                          rw [← Ny175.out] at hr34
                          rw [← hy34] at hcut34
                          have HR178 := Aside0.mk hr34
                          have HC178 := Aside0.mk (show y175.length ≤ co33 from by omega)
                          clear hr34 hC34 hroom34 hi034 hsz34
                          have KY34 := Aside0.mk hy34
                          clear hy34
                          have KL34 := Aside0.mk (show ((ji28) : Int).toNat ≤ t171.length from by omega)
                          replace q34 := eq_true q34
                          go_wp2_with (first | ((with_reducible refine gate_callee (f := 17) rfl ?_); refine goesL_ (some 64) rfl rfl Try.func17 (by kernel_rfl) rfl #[.slice Ao33 y175.length co33] rfl (by (try simp only [List.map_toArray, List.map_cons, List.map_nil]); first | done | rfl | (simp only [List.length_drop, List.length_take]; rfl)) ?_; (with_reducible refine (wire_TakeText.calls kj16 _ _ y175 t179 t180 t181 _ ?side1 ?side2 A31.out).mono ?_); (case side1 => repeat (first | exact (by repeat (first | (with_reducible exact HR178.out) | (with_reducible refine Kd.C_alloc ?_ _) | (with_reducible refine Kd.C_drewN ?_ _) | (with_reducible refine Kd.C_drew ?_) | exact HR178.out)) | (with_reducible refine Kd.C_alloc ?_ _) | (with_reducible refine Kd.C_drewN ?_ _) | (with_reducible refine Kd.C_drew ?_))); (case side2 => exact HC178.out); rintro e w35 ⟨rfl, hb⟩; refine ⟨_, rfl, ?_⟩; have n0_ := Aside0.mk (Kd.R_below (by (with_reducible repeat (first | apply Kd.R_alloc | apply Kd.R_drewN | apply Kd.R_drew)); exact HO_14.out) hb); have n1_ := Aside0.mk (Kd.C_below (by repeat (first | (with_reducible exact HR167.out) | (with_reducible refine Kd.C_alloc ?_ _) | (with_reducible refine Kd.C_drewN ?_ _) | (with_reducible refine Kd.C_drew ?_) | exact HR167.out)) hb); have n2_ := Aside0.mk (Kd.C_below (by repeat (first | (with_reducible exact HR178.out) | (with_reducible refine Kd.C_alloc ?_ _) | (with_reducible refine Kd.C_drewN ?_ _) | (with_reducible refine Kd.C_drew ?_) | exact HR178.out)) hb); have n3_ := Aside0.mk (below_step (by repeat (first | (with_reducible first | exact HB.out | apply below_alloc | apply pw_below_drewN | apply below_drew1) | exact HB.out)) hb); clear HO_14; clear HR167; clear HR178; clear HB; have HO_14 := n0_; have HR167 := n1_; have HR178 := n2_; have HB := n3_; clear n0_ n1_ n2_ n3_; (try clear hb); (try clear hb2); (try clear hk); (try clear hi)))
                          go_meet
                          case rel => exact ⟨_, H', ⟨by have := HJ16.out; first | omega | exact Nat.le_refl _⟩, ⟨by repeat (first | (with_reducible exact HR167.out) | (with_reducible refine Kd.C_alloc ?_ _) | (with_reducible refine Kd.C_drewN ?_ _) | (with_reducible refine Kd.C_drew ?_) | exact HR167.out)⟩, ⟨by repeat (first | (with_reducible first | exact HB.out | apply below_alloc | apply pw_below_drewN | apply below_drew1) | exact HB.out)⟩⟩
                        · rw [if_neg c32] at H
                          have c32b0 : (t181 == 2) = false := beq_eq_false_iff_ne.mpr c32
                          have c32b1 : (t181 != 2) = true := bne_iff_ne.mpr c32
                          obtain rfl := Option.some.inj H
                          obtain ⟨Ao36, co36, eo36⟩ := Kd.R_slice HO_14.out
                          subst eo36
                          have q37 : ((ji28) : Int) ≤ ((t171.length : Int) : Int) := of_decide_eq_true (by first | (with_reducible assumption) | assumption)
                          obtain ⟨i037, hi037, _, hsz37, _⟩ := info_parts info5
                          have hroom37 : t171.length ≤ co36 := (Kd.R_reads' HO_14.out).2.1
                          have hC37 : Kd.C (Kd.int .u8) _ Ao36 t171.length t171 := (Kd.R_reads' HO_14.out).2.2
                          have hcut37 := cut_to (P := Try.prog) 23 5 .i64 Try.underlying23 hi037 Ao36 t171.length co36 (ji28) (of_decide_eq_true (by first | (with_reducible assumption) | assumption)) q37 hroom37
                          have hr37 := Kd.C_take (m := ((ji28) : Int).toNat) hC37 (by omega)
                          have hy37 : y175.length = ((ji28) : Int).toNat := (by rw [Ny175.out, List.length_take]; omega)
                          rw [← Ny175.out] at hr37
                          rw [← hy37] at hcut37
                          have HR178 := Aside0.mk hr37
                          have HC178 := Aside0.mk (show y175.length ≤ co36 from by omega)
                          clear hr37 hC37 hroom37 hi037 hsz37
                          have KY37 := Aside0.mk hy37
                          clear hy37
                          have KL37 := Aside0.mk (show ((ji28) : Int).toNat ≤ t171.length from by omega)
                          replace q37 := eq_true q37
                          go_wp2_with (first | ((with_reducible refine gate_callee (f := 17) rfl ?_); refine goesL_ (some 64) rfl rfl Try.func17 (by kernel_rfl) rfl #[.slice Ao36 y175.length co36] rfl (by (try simp only [List.map_toArray, List.map_cons, List.map_nil]); first | done | rfl | (simp only [List.length_drop, List.length_take]; rfl)) ?_; (with_reducible refine (wire_TakeText.calls kj16 _ _ y175 t179 t180 t181 _ ?side1 ?side2 A31.out).mono ?_); (case side1 => repeat (first | exact (by repeat (first | (with_reducible exact HR178.out) | (with_reducible refine Kd.C_alloc ?_ _) | (with_reducible refine Kd.C_drewN ?_ _) | (with_reducible refine Kd.C_drew ?_) | exact HR178.out)) | (with_reducible refine Kd.C_alloc ?_ _) | (with_reducible refine Kd.C_drewN ?_ _) | (with_reducible refine Kd.C_drew ?_))); (case side2 => exact HC178.out); rintro e w38 ⟨rfl, hb⟩; refine ⟨_, rfl, ?_⟩; have n0_ := Aside0.mk (Kd.R_below (by (with_reducible repeat (first | apply Kd.R_alloc | apply Kd.R_drewN | apply Kd.R_drew)); exact HO_14.out) hb); have n1_ := Aside0.mk (Kd.C_below (by repeat (first | (with_reducible exact HR167.out) | (with_reducible refine Kd.C_alloc ?_ _) | (with_reducible refine Kd.C_drewN ?_ _) | (with_reducible refine Kd.C_drew ?_) | exact HR167.out)) hb); have n2_ := Aside0.mk (Kd.C_below (by repeat (first | (with_reducible exact HR178.out) | (with_reducible refine Kd.C_alloc ?_ _) | (with_reducible refine Kd.C_drewN ?_ _) | (with_reducible refine Kd.C_drew ?_) | exact HR178.out)) hb); have n3_ := Aside0.mk (below_step (by repeat (first | (with_reducible first | exact HB.out | apply below_alloc | apply pw_below_drewN | apply below_drew1) | exact HB.out)) hb); clear HO_14; clear HR167; clear HR178; clear HB; have HO_14 := n0_; have HR167 := n1_; have HR178 := n2_; have HB := n3_; clear n0_ n1_ n2_ n3_; (try clear hb); (try clear hb2); (try clear hk); (try clear hi)))
                          go_ret
                          exact ⟨by first | rfl | (simp [errW_none, errW_some] <;> rfl) | (simp only [← hji11, ← hji28]; first | rfl | (simp [errW_none, errW_some] <;> rfl)) | (simp [*, errW_none, errW_some] <;> rfl), by repeat (first | (with_reducible first | exact HB.out | apply below_alloc | apply pw_below_drewN | apply below_drew1) | exact HB.out)⟩
                      · rw [if_neg c30] at H
                        exact absurd H (by simp)
                    · rw [if_neg c29] at H
                      exact absurd H (by simp)
                · replace c26 := Bool.eq_false_iff.mpr c26
                  subst c26
                  have H1 : (turnbucklelaw04_WireCuts.j1 kj16 l2 a3 t160) = some r := by rw [if_neg (show ¬ (false = true) by decide)] at H; exact H
                  clear H
                  have H := H1
                  clear H1
                  have H' := Aside0.mk H
                  clear H
                  go_wp2
                  go_meet
                  case rel => exact ⟨_, H', ⟨by have := HJ16.out; first | omega | exact Nat.le_refl _⟩, ⟨by repeat (first | (with_reducible exact HR167.out) | (with_reducible refine Kd.C_alloc ?_ _) | (with_reducible refine Kd.C_drewN ?_ _) | (with_reducible refine Kd.C_drew ?_) | exact HR167.out)⟩, ⟨by repeat (first | (with_reducible first | exact HB.out | apply below_alloc | apply pw_below_drewN | apply below_drew1) | exact HB.out)⟩⟩
              case rest =>
                clear HC25
                try clear c1
                try clear c2
                try clear p2
                try clear q2
                try clear c3
                try clear q3
                try clear p6
                try clear c7
                try clear c7b0
                try clear c7b1
                try clear c7b2
                try clear c9
                try clear c10
                try clear c11
                try clear c12
                try clear c12b0
                try clear c12b1
                try clear c13
                try clear c13b0
                try clear c13b1
                try clear c15
                try clear c15b0
                try clear c15b1
                try clear c17
                try clear q21
                try clear c23
                try clear c23b0
                try clear c23b1
                try clear c26
                try clear c27
                try clear c27b0
                try clear c27b1
                try clear c27b2
                try clear c29
                try clear c29b0
                try clear c29b1
                try clear c30
                try clear c30b0
                try clear c30b1
                try clear c32
                try clear c32b0
                try clear c32b1
                try clear q34
                try clear q37
                try clear p2
                try clear p6
                try clear q2
                try clear q21
                try clear q34
                try clear q37
                obtain ⟨kq, HA, HJ24, HR167, HB⟩ := hcut
                cases kq with
                | zero => exact absurd HA.out (by simp [turnbucklelaw04_WireCuts.j1])
                | succ kj24 =>
                  have H := HA.out
                  clear HA
                  simp only [turnbucklelaw04_WireCuts.j1] at H
                  replace H := Option.bind_eq_some_iff.mp H
                  obtain ⟨⟨t182, t183⟩, A390, H⟩ := H
                  replace H : (if t183 = 0 then (if (t182.length : Int) = 0 then (if t160 = true then (some (t183 != 0)) else (some false)) else (if 0 ≤ (Int.tmod (wrap64 (a3)) (t182.length : Int)) then (if (Int.tmod (wrap64 (a3)) (t182.length : Int)) ≤ (t182.length : Int) then ((wire_TakeInts.f kj24 (t182.take ((Int.tmod (wrap64 (a3)) (t182.length : Int)) : Int).toNat)).bind fun bt190 => (if t160 = true then (some (bt190.2.2 == 2)) else (some false))) else (none)) else (none))) else (if t160 = true then (some (t183 != 0)) else (some false))) = some r := H
                  have A39 := Aside0.mk A390
                  clear A390
                  by_cases c40 : t183 = 0
                  · rw [if_pos c40] at H
                    have c40b0 : (t183 == 0) = true := beq_iff_eq.mpr c40
                    have c40b1 : (t183 != 0) = false := bne_eq_false_iff_eq.mpr c40
                    clear c40
                    by_cases c41 : (t182.length : Int) = 0
                    · rw [if_pos c41] at H
                      have c41b0 : ((t182.length : Int) == 0) = true := beq_iff_eq.mpr c41
                      have c41b1 : ((t182.length : Int) != 0) = false := bne_eq_false_iff_eq.mpr c41
                      clear c41
                      by_cases c42 : t160 = true
                      · subst c42
                        have H1 : (some (t183 != 0)) = some r := by rw [if_pos rfl] at H; exact H
                        clear H
                        have H := H1
                        clear H1
                        obtain rfl := Option.some.inj H
                        go_wp2_with (first | ((with_reducible refine gate_callee (f := 19) rfl ?_); refine goesL_ (some 72) rfl rfl Try.func19 (by kernel_rfl) rfl #[.slice A2 l2.length c2] rfl (by (try simp only [List.map_toArray, List.map_cons, List.map_nil]); first | done | rfl | (simp only [List.length_drop, List.length_take]; rfl)) ?_; (with_reducible refine (wire_Ints.calls kj24 _ _ l2 t182 t183 _ ?side1 ?side2 A39.out).mono ?_); (case side1 => repeat (first | exact (Kd.C_below HR2.out HB.out) | (with_reducible refine Kd.C_alloc ?_ _) | (with_reducible refine Kd.C_drewN ?_ _) | (with_reducible refine Kd.C_drew ?_))); (case side2 => exact HC2.out); rintro e w43 ⟨v184, rfl, ho0, hb⟩; refine ⟨_, rfl, ?_⟩; have n0_ := Aside0.mk (Kd.R_lower ho0 (below_size (by repeat (first | (with_reducible first | exact HB.out | apply below_alloc | apply pw_below_drewN | apply below_drew1) | exact HB.out)))); have n1_ := Aside0.mk (Kd.C_below (by repeat (first | (with_reducible exact HR167.out) | (with_reducible refine Kd.C_alloc ?_ _) | (with_reducible refine Kd.C_drewN ?_ _) | (with_reducible refine Kd.C_drew ?_) | exact HR167.out)) hb); have n2_ := Aside0.mk (below_step (by repeat (first | (with_reducible first | exact HB.out | apply below_alloc | apply pw_below_drewN | apply below_drew1) | exact HB.out)) hb); clear HR167; clear HB; have HO185 := n0_; have HR167 := n1_; have HB := n2_; clear n0_ n1_ n2_; (try clear hb); (try clear hb2); (try clear hk); (try clear hi); (try clear ho0); obtain ⟨Ao44, co44, eo44⟩ := Kd.R_slice HO185.out; subst eo44))
                        go_ret
                        exact ⟨by first | rfl | (simp [errW_none, errW_some] <;> rfl) | (simp only [← hji11]; first | rfl | (simp [errW_none, errW_some] <;> rfl)) | (simp [*, errW_none, errW_some] <;> rfl), by repeat (first | (with_reducible first | exact HB.out | apply below_alloc | apply pw_below_drewN | apply below_drew1) | exact HB.out)⟩
                      · replace c42 := Bool.eq_false_iff.mpr c42
                        subst c42
                        have H1 : (some false) = some r := by rw [if_neg (show ¬ (false = true) by decide)] at H; exact H
                        clear H
                        have H := H1
                        clear H1
                        obtain rfl := Option.some.inj H
                        go_wp2_with (first | ((with_reducible refine gate_callee (f := 19) rfl ?_); refine goesL_ (some 72) rfl rfl Try.func19 (by kernel_rfl) rfl #[.slice A2 l2.length c2] rfl (by (try simp only [List.map_toArray, List.map_cons, List.map_nil]); first | done | rfl | (simp only [List.length_drop, List.length_take]; rfl)) ?_; (with_reducible refine (wire_Ints.calls kj24 _ _ l2 t182 t183 _ ?side1 ?side2 A39.out).mono ?_); (case side1 => repeat (first | exact (Kd.C_below HR2.out HB.out) | (with_reducible refine Kd.C_alloc ?_ _) | (with_reducible refine Kd.C_drewN ?_ _) | (with_reducible refine Kd.C_drew ?_))); (case side2 => exact HC2.out); rintro e w45 ⟨v184, rfl, ho0, hb⟩; refine ⟨_, rfl, ?_⟩; have n0_ := Aside0.mk (Kd.R_lower ho0 (below_size (by repeat (first | (with_reducible first | exact HB.out | apply below_alloc | apply pw_below_drewN | apply below_drew1) | exact HB.out)))); have n1_ := Aside0.mk (Kd.C_below (by repeat (first | (with_reducible exact HR167.out) | (with_reducible refine Kd.C_alloc ?_ _) | (with_reducible refine Kd.C_drewN ?_ _) | (with_reducible refine Kd.C_drew ?_) | exact HR167.out)) hb); have n2_ := Aside0.mk (below_step (by repeat (first | (with_reducible first | exact HB.out | apply below_alloc | apply pw_below_drewN | apply below_drew1) | exact HB.out)) hb); clear HR167; clear HB; have HO185 := n0_; have HR167 := n1_; have HB := n2_; clear n0_ n1_ n2_; (try clear hb); (try clear hb2); (try clear hk); (try clear hi); (try clear ho0); obtain ⟨Ao46, co46, eo46⟩ := Kd.R_slice HO185.out; subst eo46))
                        go_ret
                        exact ⟨by first | rfl | (simp [errW_none, errW_some] <;> rfl) | (simp only [← hji11]; first | rfl | (simp [errW_none, errW_some] <;> rfl)) | (simp [*, errW_none, errW_some] <;> rfl), by repeat (first | (with_reducible first | exact HB.out | apply below_alloc | apply pw_below_drewN | apply below_drew1) | exact HB.out)⟩
                    · rw [if_neg c41] at H
                      have c41b0 : ((t182.length : Int) == 0) = false := beq_eq_false_iff_ne.mpr c41
                      have c41b1 : ((t182.length : Int) != 0) = true := bne_iff_ne.mpr c41
                      have c41b2 : ¬ (t182 = []) := fun h_ => c41 (by rw [h_]; rfl)
                      obtain ⟨ji47, hji47⟩ : ∃ j_ : Int, (Int.tmod (wrap64 (a3)) (t182.length : Int)) = j_ := ⟨_, rfl⟩
                      replace H : (if 0 ≤ (ji47) then (if (ji47) ≤ (t182.length : Int) then ((wire_TakeInts.f kj24 (t182.take ((ji47) : Int).toNat)).bind fun bt190 => (if t160 = true then (some (bt190.2.2 == 2)) else (some false))) else (none)) else (none)) = some r := by first | (rw [hji47] at H; exact H) | (simp only [hji47] at H ⊢; exact H)
                      (try rw [hji47] at A39)
                      by_cases c48 : 0 ≤ (ji47)
                      · rw [if_pos c48] at H
                        have c48b0 := eq_true c48
                        have c48b1 : decide (0 ≤ (ji47)) = true := decide_eq_true c48
                        clear c48
                        by_cases c49 : (ji47) ≤ (t182.length : Int)
                        · rw [if_pos c49] at H
                          have c49b0 := eq_true c49
                          have c49b1 : decide ((ji47) ≤ (t182.length : Int)) = true := decide_eq_true c49
                          clear c49
                          obtain ⟨y186, hy186⟩ : ∃ y_ : List Int, y_ = (t182.take ((ji47) : Int).toNat) := ⟨_, rfl⟩
                          replace H : ((wire_TakeInts.f kj24 y186).bind fun bt190 => (if t160 = true then (some (bt190.2.2 == 2)) else (some false))) = some r := by first | (rw [hy186]; with_reducible exact H) | (have H2_ := (Option.bind_some _ _).symm.trans H; rw [hy186]; with_reducible exact H2_) | (have H2_ := (Option.bind_some _ _).symm.trans H; with_reducible exact H2_) | with_reducible exact H | (rw [hy186]; exact H) | exact H
                          have Ny186 := Aside0.mk hy186
                          clear hy186
                          replace H := Option.bind_eq_some_iff.mp H
                          obtain ⟨⟨t190, t191, t192⟩, A500, H⟩ := H
                          replace H : (if t160 = true then (some (t192 == 2)) else (some false)) = some r := H
                          have A50 := Aside0.mk A500
                          clear A500
                          by_cases c51 : t160 = true
                          · subst c51
                            have H1 : (some (t192 == 2)) = some r := by rw [if_pos rfl] at H; exact H
                            clear H
                            have H := H1
                            clear H1
                            obtain rfl := Option.some.inj H
                            go_wp2_with (first | ((with_reducible refine gate_callee (f := 19) rfl ?_); refine goesL_ (some 72) rfl rfl Try.func19 (by kernel_rfl) rfl #[.slice A2 l2.length c2] rfl (by (try simp only [List.map_toArray, List.map_cons, List.map_nil]); first | done | rfl | (simp only [List.length_drop, List.length_take]; rfl)) ?_; (with_reducible refine (wire_Ints.calls kj24 _ _ l2 t182 t183 _ ?side1 ?side2 A39.out).mono ?_); (case side1 => repeat (first | exact (Kd.C_below HR2.out HB.out) | (with_reducible refine Kd.C_alloc ?_ _) | (with_reducible refine Kd.C_drewN ?_ _) | (with_reducible refine Kd.C_drew ?_))); (case side2 => exact HC2.out); rintro e w52 ⟨v184, rfl, ho0, hb⟩; refine ⟨_, rfl, ?_⟩; have n0_ := Aside0.mk (Kd.R_lower ho0 (below_size (by repeat (first | (with_reducible first | exact HB.out | apply below_alloc | apply pw_below_drewN | apply below_drew1) | exact HB.out)))); have n1_ := Aside0.mk (Kd.C_below (by repeat (first | (with_reducible exact HR167.out) | (with_reducible refine Kd.C_alloc ?_ _) | (with_reducible refine Kd.C_drewN ?_ _) | (with_reducible refine Kd.C_drew ?_) | exact HR167.out)) hb); have n2_ := Aside0.mk (below_step (by repeat (first | (with_reducible first | exact HB.out | apply below_alloc | apply pw_below_drewN | apply below_drew1) | exact HB.out)) hb); clear HR167; clear HB; have HO185 := n0_; have HR167 := n1_; have HB := n2_; clear n0_ n1_ n2_; (try clear hb); (try clear hb2); (try clear hk); (try clear hi); (try clear ho0); obtain ⟨Ao53, co53, eo53⟩ := Kd.R_slice HO185.out; subst eo53; have q54 : ((ji47) : Int) ≤ ((t182.length : Int) : Int) := of_decide_eq_true (by first | (with_reducible assumption) | assumption); obtain ⟨i054, hi054, _, hsz54, _⟩ := info_parts info5; have hroom54 : t182.length ≤ co53 := (Kd.R_reads' HO185.out).2.1; have hC54 : Kd.C (Kd.int .u8) _ Ao53 t182.length t182 := (Kd.R_reads' HO185.out).2.2; have hcut54 := cut_to (P := Try.prog) 23 5 .i64 Try.underlying23 hi054 Ao53 t182.length co53 (ji47) (of_decide_eq_true (by first | (with_reducible assumption) | assumption)) q54 hroom54; have hr54 := Kd.C_take (m := ((ji47) : Int).toNat) hC54 (by omega); have hy54 : y186.length = ((ji47) : Int).toNat := (by rw [Ny186.out, List.length_take]; omega); rw [← Ny186.out] at hr54; rw [← hy54] at hcut54; have HR189 := Aside0.mk hr54; have HC189 := Aside0.mk (show y186.length ≤ co53 from by omega); clear hr54 hC54 hroom54 hi054 hsz54; have KY54 := Aside0.mk hy54; clear hy54; have KL54 := Aside0.mk (show ((ji47) : Int).toNat ≤ t182.length from by omega); replace q54 := eq_true q54) | ((with_reducible refine gate_callee (f := 21) rfl ?_); refine goesL_ (some 95) rfl rfl Try.func21 (by kernel_rfl) rfl #[.slice Ao53 y186.length co53] rfl (by (try simp only [List.map_toArray, List.map_cons, List.map_nil]); first | done | rfl | (simp only [List.length_drop, List.length_take]; rfl)) ?_; (with_reducible refine (wire_TakeInts.calls kj24 _ _ y186 t190 t191 t192 _ ?side1 ?side2 A50.out).mono ?_); (case side1 => repeat (first | exact (by repeat (first | (with_reducible exact HR189.out) | (with_reducible refine Kd.C_alloc ?_ _) | (with_reducible refine Kd.C_drewN ?_ _) | (with_reducible refine Kd.C_drew ?_) | exact HR189.out)) | (with_reducible refine Kd.C_alloc ?_ _) | (with_reducible refine Kd.C_drewN ?_ _) | (with_reducible refine Kd.C_drew ?_))); (case side2 => exact HC189.out); rintro e w55 ⟨v193, rfl, ho0, hb⟩; refine ⟨_, rfl, ?_⟩; have n0_ := Aside0.mk (Kd.R_below (by (with_reducible repeat (first | apply Kd.R_alloc | apply Kd.R_drewN | apply Kd.R_drew)); exact HO185.out) hb); have n1_ := Aside0.mk (Kd.R_lower ho0 (below_size (by repeat (first | (with_reducible first | exact HB.out | apply below_alloc | apply pw_below_drewN | apply below_drew1) | exact HB.out)))); have n2_ := Aside0.mk (Kd.C_below (by repeat (first | (with_reducible exact HR167.out) | (with_reducible refine Kd.C_alloc ?_ _) | (with_reducible refine Kd.C_drewN ?_ _) | (with_reducible refine Kd.C_drew ?_) | exact HR167.out)) hb); have n3_ := Aside0.mk (Kd.C_below (by repeat (first | (with_reducible exact HR189.out) | (with_reducible refine Kd.C_alloc ?_ _) | (with_reducible refine Kd.C_drewN ?_ _) | (with_reducible refine Kd.C_drew ?_) | exact HR189.out)) hb); have n4_ := Aside0.mk (below_step (by repeat (first | (with_reducible first | exact HB.out | apply below_alloc | apply pw_below_drewN | apply below_drew1) | exact HB.out)) hb); clear HO185; clear HR167; clear HR189; clear HB; have HO185 := n0_; have HO194 := n1_; have HR167 := n2_; have HR189 := n3_; have HB := n4_; clear n0_ n1_ n2_ n3_ n4_; (try clear hb); (try clear hb2); (try clear hk); (try clear hi); (try clear ho0)))
                            go_ret
                            exact ⟨by first | rfl | (simp [errW_none, errW_some] <;> rfl) | (simp only [← hji11, ← hji47]; first | rfl | (simp [errW_none, errW_some] <;> rfl)) | (simp [*, errW_none, errW_some] <;> rfl), by repeat (first | (with_reducible first | exact HB.out | apply below_alloc | apply pw_below_drewN | apply below_drew1) | exact HB.out)⟩
                          · replace c51 := Bool.eq_false_iff.mpr c51
                            subst c51
                            have H1 : (some false) = some r := by rw [if_neg (show ¬ (false = true) by decide)] at H; exact H
                            clear H
                            have H := H1
                            clear H1
                            obtain rfl := Option.some.inj H
                            go_wp2_with (first | ((with_reducible refine gate_callee (f := 19) rfl ?_); refine goesL_ (some 72) rfl rfl Try.func19 (by kernel_rfl) rfl #[.slice A2 l2.length c2] rfl (by (try simp only [List.map_toArray, List.map_cons, List.map_nil]); first | done | rfl | (simp only [List.length_drop, List.length_take]; rfl)) ?_; (with_reducible refine (wire_Ints.calls kj24 _ _ l2 t182 t183 _ ?side1 ?side2 A39.out).mono ?_); (case side1 => repeat (first | exact (Kd.C_below HR2.out HB.out) | (with_reducible refine Kd.C_alloc ?_ _) | (with_reducible refine Kd.C_drewN ?_ _) | (with_reducible refine Kd.C_drew ?_))); (case side2 => exact HC2.out); rintro e w56 ⟨v184, rfl, ho0, hb⟩; refine ⟨_, rfl, ?_⟩; have n0_ := Aside0.mk (Kd.R_lower ho0 (below_size (by repeat (first | (with_reducible first | exact HB.out | apply below_alloc | apply pw_below_drewN | apply below_drew1) | exact HB.out)))); have n1_ := Aside0.mk (Kd.C_below (by repeat (first | (with_reducible exact HR167.out) | (with_reducible refine Kd.C_alloc ?_ _) | (with_reducible refine Kd.C_drewN ?_ _) | (with_reducible refine Kd.C_drew ?_) | exact HR167.out)) hb); have n2_ := Aside0.mk (below_step (by repeat (first | (with_reducible first | exact HB.out | apply below_alloc | apply pw_below_drewN | apply below_drew1) | exact HB.out)) hb); clear HR167; clear HB; have HO185 := n0_; have HR167 := n1_; have HB := n2_; clear n0_ n1_ n2_; (try clear hb); (try clear hb2); (try clear hk); (try clear hi); (try clear ho0); obtain ⟨Ao57, co57, eo57⟩ := Kd.R_slice HO185.out; subst eo57; have q58 : ((ji47) : Int) ≤ ((t182.length : Int) : Int) := of_decide_eq_true (by first | (with_reducible assumption) | assumption); obtain ⟨i058, hi058, _, hsz58, _⟩ := info_parts info5; have hroom58 : t182.length ≤ co57 := (Kd.R_reads' HO185.out).2.1; have hC58 : Kd.C (Kd.int .u8) _ Ao57 t182.length t182 := (Kd.R_reads' HO185.out).2.2; have hcut58 := cut_to (P := Try.prog) 23 5 .i64 Try.underlying23 hi058 Ao57 t182.length co57 (ji47) (of_decide_eq_true (by first | (with_reducible assumption) | assumption)) q58 hroom58; have hr58 := Kd.C_take (m := ((ji47) : Int).toNat) hC58 (by omega); have hy58 : y186.length = ((ji47) : Int).toNat := (by rw [Ny186.out, List.length_take]; omega); rw [← Ny186.out] at hr58; rw [← hy58] at hcut58; have HR189 := Aside0.mk hr58; have HC189 := Aside0.mk (show y186.length ≤ co57 from by omega); clear hr58 hC58 hroom58 hi058 hsz58; have KY58 := Aside0.mk hy58; clear hy58; have KL58 := Aside0.mk (show ((ji47) : Int).toNat ≤ t182.length from by omega); replace q58 := eq_true q58) | ((with_reducible refine gate_callee (f := 21) rfl ?_); refine goesL_ (some 95) rfl rfl Try.func21 (by kernel_rfl) rfl #[.slice Ao57 y186.length co57] rfl (by (try simp only [List.map_toArray, List.map_cons, List.map_nil]); first | done | rfl | (simp only [List.length_drop, List.length_take]; rfl)) ?_; (with_reducible refine (wire_TakeInts.calls kj24 _ _ y186 t190 t191 t192 _ ?side1 ?side2 A50.out).mono ?_); (case side1 => repeat (first | exact (by repeat (first | (with_reducible exact HR189.out) | (with_reducible refine Kd.C_alloc ?_ _) | (with_reducible refine Kd.C_drewN ?_ _) | (with_reducible refine Kd.C_drew ?_) | exact HR189.out)) | (with_reducible refine Kd.C_alloc ?_ _) | (with_reducible refine Kd.C_drewN ?_ _) | (with_reducible refine Kd.C_drew ?_))); (case side2 => exact HC189.out); rintro e w59 ⟨v193, rfl, ho0, hb⟩; refine ⟨_, rfl, ?_⟩; have n0_ := Aside0.mk (Kd.R_below (by (with_reducible repeat (first | apply Kd.R_alloc | apply Kd.R_drewN | apply Kd.R_drew)); exact HO185.out) hb); have n1_ := Aside0.mk (Kd.R_lower ho0 (below_size (by repeat (first | (with_reducible first | exact HB.out | apply below_alloc | apply pw_below_drewN | apply below_drew1) | exact HB.out)))); have n2_ := Aside0.mk (Kd.C_below (by repeat (first | (with_reducible exact HR167.out) | (with_reducible refine Kd.C_alloc ?_ _) | (with_reducible refine Kd.C_drewN ?_ _) | (with_reducible refine Kd.C_drew ?_) | exact HR167.out)) hb); have n3_ := Aside0.mk (Kd.C_below (by repeat (first | (with_reducible exact HR189.out) | (with_reducible refine Kd.C_alloc ?_ _) | (with_reducible refine Kd.C_drewN ?_ _) | (with_reducible refine Kd.C_drew ?_) | exact HR189.out)) hb); have n4_ := Aside0.mk (below_step (by repeat (first | (with_reducible first | exact HB.out | apply below_alloc | apply pw_below_drewN | apply below_drew1) | exact HB.out)) hb); clear HO185; clear HR167; clear HR189; clear HB; have HO185 := n0_; have HO194 := n1_; have HR167 := n2_; have HR189 := n3_; have HB := n4_; clear n0_ n1_ n2_ n3_ n4_; (try clear hb); (try clear hb2); (try clear hk); (try clear hi); (try clear ho0)))
                            go_ret
                            exact ⟨by first | rfl | (simp [errW_none, errW_some] <;> rfl) | (simp only [← hji11, ← hji47]; first | rfl | (simp [errW_none, errW_some] <;> rfl)) | (simp [*, errW_none, errW_some] <;> rfl), by repeat (first | (with_reducible first | exact HB.out | apply below_alloc | apply pw_below_drewN | apply below_drew1) | exact HB.out)⟩
                        · rw [if_neg c49] at H
                          exact absurd H (by simp)
                      · rw [if_neg c48] at H
                        exact absurd H (by simp)
                  · rw [if_neg c40] at H
                    have c40b0 : (t183 == 0) = false := beq_eq_false_iff_ne.mpr c40
                    have c40b1 : (t183 != 0) = true := bne_iff_ne.mpr c40
                    by_cases c60 : t160 = true
                    · subst c60
                      have H1 : (some (t183 != 0)) = some r := by rw [if_pos rfl] at H; exact H
                      clear H
                      have H := H1
                      clear H1
                      obtain rfl := Option.some.inj H
                      go_wp2_with (first | ((with_reducible refine gate_callee (f := 19) rfl ?_); refine goesL_ (some 72) rfl rfl Try.func19 (by kernel_rfl) rfl #[.slice A2 l2.length c2] rfl (by (try simp only [List.map_toArray, List.map_cons, List.map_nil]); first | done | rfl | (simp only [List.length_drop, List.length_take]; rfl)) ?_; (with_reducible refine (wire_Ints.calls kj24 _ _ l2 t182 t183 _ ?side1 ?side2 A39.out).mono ?_); (case side1 => repeat (first | exact (Kd.C_below HR2.out HB.out) | (with_reducible refine Kd.C_alloc ?_ _) | (with_reducible refine Kd.C_drewN ?_ _) | (with_reducible refine Kd.C_drew ?_))); (case side2 => exact HC2.out); rintro e w61 ⟨v184, rfl, ho0, hb⟩; refine ⟨_, rfl, ?_⟩; have n0_ := Aside0.mk (Kd.R_lower ho0 (below_size (by repeat (first | (with_reducible first | exact HB.out | apply below_alloc | apply pw_below_drewN | apply below_drew1) | exact HB.out)))); have n1_ := Aside0.mk (Kd.C_below (by repeat (first | (with_reducible exact HR167.out) | (with_reducible refine Kd.C_alloc ?_ _) | (with_reducible refine Kd.C_drewN ?_ _) | (with_reducible refine Kd.C_drew ?_) | exact HR167.out)) hb); have n2_ := Aside0.mk (below_step (by repeat (first | (with_reducible first | exact HB.out | apply below_alloc | apply pw_below_drewN | apply below_drew1) | exact HB.out)) hb); clear HR167; clear HB; have HO185 := n0_; have HR167 := n1_; have HB := n2_; clear n0_ n1_ n2_; (try clear hb); (try clear hb2); (try clear hk); (try clear hi); (try clear ho0)))
                      go_ret
                      exact ⟨by first | rfl | (simp [errW_none, errW_some] <;> rfl) | (simp only [← hji11]; first | rfl | (simp [errW_none, errW_some] <;> rfl)) | (simp [*, errW_none, errW_some] <;> rfl), by repeat (first | (with_reducible first | exact HB.out | apply below_alloc | apply pw_below_drewN | apply below_drew1) | exact HB.out)⟩
                    · replace c60 := Bool.eq_false_iff.mpr c60
                      subst c60
                      have H1 : (some false) = some r := by rw [if_neg (show ¬ (false = true) by decide)] at H; exact H
                      clear H
                      have H := H1
                      clear H1
                      obtain rfl := Option.some.inj H
                      go_wp2_with (first | ((with_reducible refine gate_callee (f := 19) rfl ?_); refine goesL_ (some 72) rfl rfl Try.func19 (by kernel_rfl) rfl #[.slice A2 l2.length c2] rfl (by (try simp only [List.map_toArray, List.map_cons, List.map_nil]); first | done | rfl | (simp only [List.length_drop, List.length_take]; rfl)) ?_; (with_reducible refine (wire_Ints.calls kj24 _ _ l2 t182 t183 _ ?side1 ?side2 A39.out).mono ?_); (case side1 => repeat (first | exact (Kd.C_below HR2.out HB.out) | (with_reducible refine Kd.C_alloc ?_ _) | (with_reducible refine Kd.C_drewN ?_ _) | (with_reducible refine Kd.C_drew ?_))); (case side2 => exact HC2.out); rintro e w62 ⟨v184, rfl, ho0, hb⟩; refine ⟨_, rfl, ?_⟩; have n0_ := Aside0.mk (Kd.R_lower ho0 (below_size (by repeat (first | (with_reducible first | exact HB.out | apply below_alloc | apply pw_below_drewN | apply below_drew1) | exact HB.out)))); have n1_ := Aside0.mk (Kd.C_below (by repeat (first | (with_reducible exact HR167.out) | (with_reducible refine Kd.C_alloc ?_ _) | (with_reducible refine Kd.C_drewN ?_ _) | (with_reducible refine Kd.C_drew ?_) | exact HR167.out)) hb); have n2_ := Aside0.mk (below_step (by repeat (first | (with_reducible first | exact HB.out | apply below_alloc | apply pw_below_drewN | apply below_drew1) | exact HB.out)) hb); clear HR167; clear HB; have HO185 := n0_; have HR167 := n1_; have HB := n2_; clear n0_ n1_ n2_; (try clear hb); (try clear hb2); (try clear hk); (try clear hi); (try clear ho0)))
                      go_ret
                      exact ⟨by first | rfl | (simp [errW_none, errW_some] <;> rfl) | (simp only [← hji11]; first | rfl | (simp [errW_none, errW_some] <;> rfl)) | (simp [*, errW_none, errW_some] <;> rfl), by repeat (first | (with_reducible first | exact HB.out | apply below_alloc | apply pw_below_drewN | apply below_drew1) | exact HB.out)⟩
        · rw [if_neg c15] at H
          have c15b0 : (t170 == 2) = false := beq_eq_false_iff_ne.mpr c15
          have c15b1 : (t170 != 2) = true := bne_iff_ne.mpr c15
          obtain rfl := Option.some.inj H
          go_enter Try.func9, Try.ntmps9
          go_wp2_with (first | ((with_reducible refine gate_callee (f := 10) rfl ?_); refine goesL_ (some 24) rfl rfl Try.func10 (by kernel_rfl) rfl #[] rfl (by (try simp only [List.map_toArray, List.map_cons, List.map_nil]); first | done | rfl | (simp only [List.length_drop, List.length_take]; rfl)) ?_; (with_reducible refine (turnbucklelaw04_shown.calls k  t160 _ A5.out).mono ?_); rintro e w63 ⟨rfl, hb⟩; refine ⟨_, rfl, ?_⟩; have n0_ := Aside0.mk (below_step (by repeat (first | (with_reducible first | exact HB.out | apply below_alloc | apply pw_below_drewN | apply below_drew1) | exact HB.out)) hb); clear HB; have HB := n0_; clear n0_; (try clear hb); (try clear hb2); (try clear hk); (try clear hi)) | ((with_reducible refine gate_callee (f := 13) rfl ?_); refine goesL_ (some 26) rfl rfl Try.func13 (by kernel_rfl) rfl #[.int .u64 a0] rfl (by (try simp only [List.map_toArray, List.map_cons, List.map_nil]); first | done | rfl | (simp only [List.length_drop, List.length_take]; rfl)) ?_; (with_reducible refine (wire_Number.calls k a0 t161 _ A6.out).mono ?_); rintro e w64 ⟨v162, rfl, ho0, hb⟩; refine ⟨_, rfl, ?_⟩; have n0_ := Aside0.mk (Kd.R_lower ho0 (below_size (by repeat (first | (with_reducible first | exact HB.out | apply below_alloc | apply pw_below_drewN | apply below_drew1) | exact HB.out)))); have n1_ := Aside0.mk (below_step (by repeat (first | (with_reducible first | exact HB.out | apply below_alloc | apply pw_below_drewN | apply below_drew1) | exact HB.out)) hb); clear HB; have HO163 := n0_; have HB := n1_; clear n0_ n1_; (try clear hb); (try clear hb2); (try clear hk); (try clear hi); (try clear ho0); obtain ⟨Ao65, co65, eo65⟩ := Kd.R_slice HO163.out; subst eo65; have q66 : ((ji11) : Int) ≤ ((t161.length : Int) : Int) := of_decide_eq_true (by first | (with_reducible assumption) | assumption); obtain ⟨i066, hi066, _, hsz66, _⟩ := info_parts info5; have hroom66 : t161.length ≤ co65 := (Kd.R_reads' HO163.out).2.1; have hC66 : Kd.C (Kd.int .u8) _ Ao65 t161.length t161 := (Kd.R_reads' HO163.out).2.2; have hcut66 := cut_to (P := Try.prog) 23 5 .i64 Try.underlying23 hi066 Ao65 t161.length co65 (ji11) (of_decide_eq_true (by first | (with_reducible assumption) | assumption)) q66 hroom66; have hr66 := Kd.C_take (m := ((ji11) : Int).toNat) hC66 (by omega); have hy66 : y164.length = ((ji11) : Int).toNat := (by rw [Ny164.out, List.length_take]; omega); rw [← Ny164.out] at hr66; rw [← hy66] at hcut66; have HR167 := Aside0.mk hr66; have HC167 := Aside0.mk (show y164.length ≤ co65 from by omega); clear hr66 hC66 hroom66 hi066 hsz66; have KY66 := Aside0.mk hy66; clear hy66; have KL66 := Aside0.mk (show ((ji11) : Int).toNat ≤ t161.length from by omega); replace q66 := eq_true q66) | ((with_reducible refine gate_callee (f := 11) rfl ?_); refine goesL_ (some 38) rfl rfl Try.func11 (by kernel_rfl) rfl #[.slice Ao65 y164.length co65] rfl (by (try simp only [List.map_toArray, List.map_cons, List.map_nil]); first | done | rfl | (simp only [List.length_drop, List.length_take]; rfl)) ?_; (with_reducible refine (wire_TakeNumber.calls k _ _ y164 t168 t169 t170 _ ?side1 ?side2 A14.out).mono ?_); (case side1 => repeat (first | exact (by repeat (first | (with_reducible exact HR167.out) | (with_reducible refine Kd.C_alloc ?_ _) | (with_reducible refine Kd.C_drewN ?_ _) | (with_reducible refine Kd.C_drew ?_) | exact HR167.out)) | (with_reducible refine Kd.C_alloc ?_ _) | (with_reducible refine Kd.C_drewN ?_ _) | (with_reducible refine Kd.C_drew ?_))); (case side2 => exact HC167.out); rintro e w' ⟨rfl, ⟨nd, rfl⟩⟩; refine ⟨_, rfl, ?_⟩))
          go_ret
          exact ⟨by first | rfl | (simp [errW_none, errW_some] <;> rfl) | (simp only [← hji11]; first | rfl | (simp [errW_none, errW_some] <;> rfl)) | (simp [*, errW_none, errW_some] <;> rfl), by repeat (first | (with_reducible first | exact HB.out | apply below_alloc | apply pw_below_drewN | apply below_drew1) | exact HB.out)⟩
      · rw [if_neg c13] at H
        exact absurd H (by simp)
    · rw [if_neg c12] at H
      exact absurd H (by simp)

/-- THE ONE PURE STATEMENT of turnbucklelaw04_WireCuts: yours. -/
def turnbucklelaw04_WireCuts.Pure : Prop := ∀ (a0 : Int) (a1 : ByteArray) (l2 : List Int) (a3 : Int), (Lit.int .u64 a0).wf = true → a1.size ≤ 140737488351232 → l2.length ≤ maxLen → l2.length * 8 ≤ 140737488351232 → (∀ x ∈ l2, (Lit.int .i64 x).wf = true) → (Lit.int .u16 a3).wf = true → ∃ k, turnbucklelaw04_WireCuts.f k a0 a1 l2 a3 = some true
theorem turnbucklelaw04_WireCuts.walk (P : turnbucklelaw04_WireCuts.Pure) (a0 : Int) (a1 : ByteArray) (a2 : Option Addr) (len2 cap2 : Nat) (z2 : List Int) (a3 : Int) (w : World) (w0 : (Lit.int .u64 a0).wf = true) (w1 : a1.size ≤ 140737488351232) (w2 : (a2 = none ∧ len2 = 0 ∧ cap2 = 0 ∧ z2 = []) ∨ ∃ x, a2 = some x ∧ len2 ≤ cap2 ∧ cap2 ≤ maxLen ∧ z2.length = cap2 ∧ (∀ i, i < z2.length → w.cell? (x.add i) = some (.int .i64 (z2.getD i 0))) ∧ ∀ n ∈ z2, (Lit.int .i64 n).wf = true) (y2 : len2 * 8 ≤ 140737488351232) (w3 : (Lit.int .u16 a3).wf = true) :
    Calls Try.prog 9 #[.int .u64 a0, .string a1, .slice a2 len2 cap2, .int .u16 a3] w fun e w' => e = .returned (.bool true) ∧ Below w.heap.size w w' := by
  obtain ⟨l2, rfl, hr2, hm2, hw2, hc2⟩ := ReadsInt.ofRowC w2
  obtain ⟨k, h⟩ := P a0 a1 l2 a3 w0 w1 hm2 y2 hw2 w3
  refine (turnbucklelaw04_WireCuts.calls k a0 a1 _ _ l2 a3 true w (Kd.C_of_reads (d := (0 : Int)) (h1 := fun _ => rfl) hr2) hc2 h).mono ?_
  rintro e w' ⟨rfl, hd⟩
  exact ⟨rfl, hd⟩

end Go.Proofs.Ytmghjpdchngedaa.PWireCuts
