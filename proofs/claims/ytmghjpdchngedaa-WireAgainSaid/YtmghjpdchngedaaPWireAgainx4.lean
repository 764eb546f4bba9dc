/- made by program: the walk of each function's own text, and the Lean function that it computes -/
import Derived.Test.YtmghjpdchngedaaPWireAgainx0
import Derived.Test.YtmghjpdchngedaaPWireAgainx1
import Derived.Test.YtmghjpdchngedaaPWireAgainx2
import Derived.Test.YtmghjpdchngedaaPWireAgainx3
namespace Go.Proofs.Ytmghjpdchngedaa.PWireAgain
open Go.RowKit Go.Proofs.YtmghjpdchngedaaW.PrintWords Go.Proofs.YtmghjpdchngedaaW.PrintLast Go.Proofs.YtmghjpdchngedaaW.PrintMore
attribute [local go_sem] max2_int min2_int max_two min_two max_three min_three max_four min_four   -- for this text's walks alone
set_option linter.unusedVariables false
set_option linter.unusedSimpArgs false

/-! ### turnbucklelaw04_WireAgain: function 8 -/
mutual
def turnbucklelaw04_WireAgain.j0 : Nat → List Int → Bool → Int → Int → Int → ByteArray → Int → Int → List Int → Int → Int → Bool → Option (Bool)
  | 0, _, _, _, _, _, _, _, _, _, _, _, _ => none
  | k + 1, x0, x3, x4, x5, x6, x7, x8, x9, x10, x11, x12, x66 => if x66 = true then (some false) else ((wire_Text.f k x7).bind fun bt172 => ((wire_Ints.f k x10).bind fun bt176 => (if x6 = 0 then ((wire_Number.f k x4).bind fun t180 => (if 0 ≤ x5 then (if x5 ≤ (x0.length : Int) then (turnbucklelaw04_WireAgain.j1 k x0 x3 x8 x9 x11 x12 bt172.1 bt172.2 bt176.1 bt176.2 ((strOfNums t180).toList == (strOfNums (x0.take (x5 : Int).toNat)).toList)) else (none)) else (none))) else (turnbucklelaw04_WireAgain.j1 k x0 x3 x8 x9 x11 x12 bt172.1 bt172.2 bt176.1 bt176.2 true))))
def turnbucklelaw04_WireAgain.j1 : Nat → List Int → Bool → Int → Int → Int → Int → List Int → Int → List Int → Int → Bool → Option (Bool)
  | 0, _, _, _, _, _, _, _, _, _, _, _ => none
  | k + 1, x0, x3, x8, x9, x11, x12, x13, x14, x15, x16, x17 => if x9 = 0 then (if x14 = 0 then (if 0 ≤ x8 then (if x8 ≤ (x0.length : Int) then (turnbucklelaw04_WireAgain.j2 k x0 x3 x11 x12 x15 x16 x17 ((strOfNums x13).toList == (strOfNums (x0.take (x8 : Int).toNat)).toList)) else (none)) else (none)) else (turnbucklelaw04_WireAgain.j2 k x0 x3 x11 x12 x15 x16 x17 false)) else (turnbucklelaw04_WireAgain.j2 k x0 x3 x11 x12 x15 x16 x17 true)
def turnbucklelaw04_WireAgain.j2 : Nat → List Int → Bool → Int → Int → List Int → Int → Bool → Bool → Option (Bool)
  | 0, _, _, _, _, _, _, _, _ => none
  | k + 1, x0, x3, x11, x12, x15, x16, x17, x18 => if x12 = 0 then (if x16 = 0 then (if 0 ≤ x11 then (if x11 ≤ (x0.length : Int) then (turnbucklelaw04_WireAgain.j3 k x3 x17 x18 ((strOfNums x15).toList == (strOfNums (x0.take (x11 : Int).toNat)).toList)) else (none)) else (none)) else (turnbucklelaw04_WireAgain.j3 k x3 x17 x18 false)) else (turnbucklelaw04_WireAgain.j3 k x3 x17 x18 true)
def turnbucklelaw04_WireAgain.j3 : Nat → Bool → Bool → Bool → Bool → Option (Bool)
  | 0, _, _, _, _ => none
  | k + 1, x3, x17, x18, x19 => if x3 = true then (if x17 = true then (if x18 = true then (turnbucklelaw04_WireAgain.j4 k x19) else (turnbucklelaw04_WireAgain.j4 k false)) else (turnbucklelaw04_WireAgain.j4 k false)) else (turnbucklelaw04_WireAgain.j4 k false)
def turnbucklelaw04_WireAgain.j4 : Nat → Bool → Option (Bool)
  | 0, _ => none
  | k + 1, x2 => some x2
end
def turnbucklelaw04_WireAgain.f (k : Nat) (l0 : List Int) : Option (Bool) := (turnbucklelaw04_shown.f k).bind fun t160 => ((wire_TakeNumber.f k l0).bind fun bt161 => ((wire_TakeText.f k l0).bind fun bt164 => ((wire_TakeInts.f k l0).bind fun bt167 => (if bt161.2.1 < 0 then (turnbucklelaw04_WireAgain.j0 k l0 t160 bt161.1 bt161.2.1 bt161.2.2 bt164.1 bt164.2.1 bt164.2.2 bt167.1 bt167.2.1 bt167.2.2 true) else (if bt161.2.1 > (l0.length : Int) then (turnbucklelaw04_WireAgain.j0 k l0 t160 bt161.1 bt161.2.1 bt161.2.2 bt164.1 bt164.2.1 bt164.2.2 bt167.1 bt167.2.1 bt167.2.2 true) else (if bt164.2.1 < 0 then (turnbucklelaw04_WireAgain.j0 k l0 t160 bt161.1 bt161.2.1 bt161.2.2 bt164.1 bt164.2.1 bt164.2.2 bt167.1 bt167.2.1 bt167.2.2 true) else (if bt164.2.1 > (l0.length : Int) then (turnbucklelaw04_WireAgain.j0 k l0 t160 bt161.1 bt161.2.1 bt161.2.2 bt164.1 bt164.2.1 bt164.2.2 bt167.1 bt167.2.1 bt167.2.2 true) else (if bt167.2.1 < 0 then (turnbucklelaw04_WireAgain.j0 k l0 t160 bt161.1 bt161.2.1 bt161.2.2 bt164.1 bt164.2.1 bt164.2.2 bt167.1 bt167.2.1 bt167.2.2 true) else (turnbucklelaw04_WireAgain.j0 k l0 t160 bt161.1 bt161.2.1 bt161.2.2 bt164.1 bt164.2.1 bt164.2.2 bt167.1 bt167.2.1 bt167.2.2 (decide (bt167.2.1 > (l0.length : Int))))))))))))
theorem turnbucklelaw04_WireAgain.mono_l : ∀ k, (∀ y0 y1 y2 y3 y4 y5 y6 y7 y8 y9 y10 y11, LeO (turnbucklelaw04_WireAgain.j0 k y0 y1 y2 y3 y4 y5 y6 y7 y8 y9 y10 y11) (turnbucklelaw04_WireAgain.j0 (k + 1) y0 y1 y2 y3 y4 y5 y6 y7 y8 y9 y10 y11)) ∧ (∀ y0 y1 y2 y3 y4 y5 y6 y7 y8 y9 y10, LeO (turnbucklelaw04_WireAgain.j1 k y0 y1 y2 y3 y4 y5 y6 y7 y8 y9 y10) (turnbucklelaw04_WireAgain.j1 (k + 1) y0 y1 y2 y3 y4 y5 y6 y7 y8 y9 y10)) ∧ (∀ y0 y1 y2 y3 y4 y5 y6 y7, LeO (turnbucklelaw04_WireAgain.j2 k y0 y1 y2 y3 y4 y5 y6 y7) (turnbucklelaw04_WireAgain.j2 (k + 1) y0 y1 y2 y3 y4 y5 y6 y7)) ∧ (∀ y0 y1 y2 y3, LeO (turnbucklelaw04_WireAgain.j3 k y0 y1 y2 y3) (turnbucklelaw04_WireAgain.j3 (k + 1) y0 y1 y2 y3)) ∧ (∀ y0, LeO (turnbucklelaw04_WireAgain.j4 k y0) (turnbucklelaw04_WireAgain.j4 (k + 1) y0))
  | 0 => ⟨fun _ _ _ _ _ _ _ _ _ _ _ _ r h => by simp [turnbucklelaw04_WireAgain.j0] at h, fun _ _ _ _ _ _ _ _ _ _ _ r h => by simp [turnbucklelaw04_WireAgain.j1] at h, fun _ _ _ _ _ _ _ _ r h => by simp [turnbucklelaw04_WireAgain.j2] at h, fun _ _ _ _ r h => by simp [turnbucklelaw04_WireAgain.j3] at h, fun _ r h => by simp [turnbucklelaw04_WireAgain.j4] at h⟩
  | k + 1 => by
    obtain ⟨ih0, ih1, ih2, ih3, ih4⟩ := turnbucklelaw04_WireAgain.mono_l k
    refine ⟨?_, ?_, ?_, ?_, ?_⟩
    · intro y0 y1 y2 y3 y4 y5 y6 y7 y8 y9 y10 y11
      unfold turnbucklelaw04_WireAgain.j0
      repeat' first
      | (with_reducible exact ih0 _ _ _ _ _ _ _ _ _ _ _ _)
      | (with_reducible exact ih1 _ _ _ _ _ _ _ _ _ _ _)
      | (with_reducible exact ih2 _ _ _ _ _ _ _ _)
      | (with_reducible exact ih3 _ _ _ _)
      | (with_reducible exact ih4 _)
      | (with_reducible exact turnbucklelaw04_shown.mono _)
      | (with_reducible exact wire_Ints.mono _ _)
      | (with_reducible exact wire_Number.mono _ _)
      | (with_reducible exact wire_TakeInts.mono _ _)
      | (with_reducible exact wire_TakeNumber.mono _ _)
      | (with_reducible exact wire_TakeText.mono _ _)
      | (with_reducible exact wire_Text.mono _ _)
      | (with_reducible exact LeO.refl _)
      | (with_reducible exact LeO.none _)
      | (with_reducible refine LeO.ite ?_ ?_)
      | (with_reducible refine LeO.bind ?_ (fun _ => ?_))
      | exact ih0 _ _ _ _ _ _ _ _ _ _ _ _
      | exact ih1 _ _ _ _ _ _ _ _ _ _ _
      | exact ih2 _ _ _ _ _ _ _ _
      | exact ih3 _ _ _ _
      | exact ih4 _
      | exact turnbucklelaw04_shown.mono _
      | exact wire_Ints.mono _ _
      | exact wire_Number.mono _ _
      | exact wire_TakeInts.mono _ _
      | exact wire_TakeNumber.mono _ _
      | exact wire_TakeText.mono _ _
      | exact wire_Text.mono _ _
      | exact LeO.none _
      | refine LeO.ite ?_ ?_
      | refine LeO.bind ?_ (fun _ => ?_)
    · intro y0 y1 y2 y3 y4 y5 y6 y7 y8 y9 y10
      unfold turnbucklelaw04_WireAgain.j1
      repeat' first
      | (with_reducible exact ih0 _ _ _ _ _ _ _ _ _ _ _ _)
      | (with_reducible exact ih1 _ _ _ _ _ _ _ _ _ _ _)
      | (with_reducible exact ih2 _ _ _ _ _ _ _ _)
      | (with_reducible exact ih3 _ _ _ _)
      | (with_reducible exact ih4 _)
      | (with_reducible exact turnbucklelaw04_shown.mono _)
      | (with_reducible exact wire_Ints.mono _ _)
      | (with_reducible exact wire_Number.mono _ _)
      | (with_reducible exact wire_TakeInts.mono _ _)
      | (with_reducible exact wire_TakeNumber.mono _ _)
      | (with_reducible exact wire_TakeText.mono _ _)
      | (with_reducible exact wire_Text.mono _ _)
      | (with_reducible exact LeO.refl _)
      | (with_reducible exact LeO.none _)
      | (with_reducible refine LeO.ite ?_ ?_)
      | (with_reducible refine LeO.bind ?_ (fun _ => ?_))
      | exact ih0 _ _ _ _ _ _ _ _ _ _ _ _
      | exact ih1 _ _ _ _ _ _ _ _ _ _ _
      | exact ih2 _ _ _ _ _ _ _ _
      | exact ih3 _ _ _ _
      | exact ih4 _
      | exact turnbucklelaw04_shown.mono _
      | exact wire_Ints.mono _ _
      | exact wire_Number.mono _ _
      | exact wire_TakeInts.mono _ _
      | exact wire_TakeNumber.mono _ _
      | exact wire_TakeText.mono _ _
      | exact wire_Text.mono _ _
      | exact LeO.none _
      | refine LeO.ite ?_ ?_
      | refine LeO.bind ?_ (fun _ => ?_)
    · intro y0 y1 y2 y3 y4 y5 y6 y7
      unfold turnbucklelaw04_WireAgain.j2
      repeat' first
      | (with_reducible exact ih0 _ _ _ _ _ _ _ _ _ _ _ _)
      | (with_reducible exact ih1 _ _ _ _ _ _ _ _ _ _ _)
      | (with_reducible exact ih2 _ _ _ _ _ _ _ _)
      | (with_reducible exact ih3 _ _ _ _)
      | (with_reducible exact ih4 _)
      | (with_reducible exact turnbucklelaw04_shown.mono _)
      | (with_reducible exact wire_Ints.mono _ _)
      | (with_reducible exact wire_Number.mono _ _)
      | (with_reducible exact wire_TakeInts.mono _ _)
      | (with_reducible exact wire_TakeNumber.mono _ _)
      | (with_reducible exact wire_TakeText.mono _ _)
      | (with_reducible exact wire_Text.mono _ _)
      | (with_reducible exact LeO.refl _)
      | (with_reducible exact LeO.none _)
      | (with_reducible refine LeO.ite ?_ ?_)
      | (with_reducible refine LeO.bind ?_ (fun _ => ?_))
      | exact ih0 _ _ _ _ _ _ _ _ _ _ _ _
      | exact ih1 _ _ _ _ _ _ _ _ _ _ _
      | exact ih2 _ _ _ _ _ _ _ _
      | exact ih3 _ _ _ _
      | exact ih4 _
      | exact turnbucklelaw04_shown.mono _
      | exact wire_Ints.mono _ _
      | exact wire_Number.mono _ _
      | exact wire_TakeInts.mono _ _
      | exact wire_TakeNumber.mono _ _
      | exact wire_TakeText.mono _ _
      | exact wire_Text.mono _ _
      | exact LeO.none _
      | refine LeO.ite ?_ ?_
      | refine LeO.bind ?_ (fun _ => ?_)
    · intro y0 y1 y2 y3
      unfold turnbucklelaw04_WireAgain.j3
      repeat' first
      | (with_reducible exact ih0 _ _ _ _ _ _ _ _ _ _ _ _)
      | (with_reducible exact ih1 _ _ _ _ _ _ _ _ _ _ _)
      | (with_reducible exact ih2 _ _ _ _ _ _ _ _)
      | (with_reducible exact ih3 _ _ _ _)
      | (with_reducible exact ih4 _)
      | (with_reducible exact turnbucklelaw04_shown.mono _)
      | (with_reducible exact wire_Ints.mono _ _)
      | (with_reducible exact wire_Number.mono _ _)
      | (with_reducible exact wire_TakeInts.mono _ _)
      | (with_reducible exact wire_TakeNumber.mono _ _)
      | (with_reducible exact wire_TakeText.mono _ _)
      | (with_reducible exact wire_Text.mono _ _)
      | (with_reducible exact LeO.refl _)
      | (with_reducible exact LeO.none _)
      | (with_reducible refine LeO.ite ?_ ?_)
      | (with_reducible refine LeO.bind ?_ (fun _ => ?_))
      | exact ih0 _ _ _ _ _ _ _ _ _ _ _ _
      | exact ih1 _ _ _ _ _ _ _ _ _ _ _
      | exact ih2 _ _ _ _ _ _ _ _
      | exact ih3 _ _ _ _
      | exact ih4 _
      | exact turnbucklelaw04_shown.mono _
      | exact wire_Ints.mono _ _
      | exact wire_Number.mono _ _
      | exact wire_TakeInts.mono _ _
      | exact wire_TakeNumber.mono _ _
      | exact wire_TakeText.mono _ _
      | exact wire_Text.mono _ _
      | exact LeO.none _
      | refine LeO.ite ?_ ?_
      | refine LeO.bind ?_ (fun _ => ?_)
    · intro y0
      unfold turnbucklelaw04_WireAgain.j4
      repeat' first
      | (with_reducible exact ih0 _ _ _ _ _ _ _ _ _ _ _ _)
      | (with_reducible exact ih1 _ _ _ _ _ _ _ _ _ _ _)
      | (with_reducible exact ih2 _ _ _ _ _ _ _ _)
      | (with_reducible exact ih3 _ _ _ _)
      | (with_reducible exact ih4 _)
      | (with_reducible exact turnbucklelaw04_shown.mono _)
      | (with_reducible exact wire_Ints.mono _ _)
      | (with_reducible exact wire_Number.mono _ _)
      | (with_reducible exact wire_TakeInts.mono _ _)
      | (with_reducible exact wire_TakeNumber.mono _ _)
      | (with_reducible exact wire_TakeText.mono _ _)
      | (with_reducible exact wire_Text.mono _ _)
      | (with_reducible exact LeO.refl _)
      | (with_reducible exact LeO.none _)
      | (with_reducible refine LeO.ite ?_ ?_)
      | (with_reducible refine LeO.bind ?_ (fun _ => ?_))
      | exact ih0 _ _ _ _ _ _ _ _ _ _ _ _
      | exact ih1 _ _ _ _ _ _ _ _ _ _ _
      | exact ih2 _ _ _ _ _ _ _ _
      | exact ih3 _ _ _ _
      | exact ih4 _
      | exact turnbucklelaw04_shown.mono _
      | exact wire_Ints.mono _ _
      | exact wire_Number.mono _ _
      | exact wire_TakeInts.mono _ _
      | exact wire_TakeNumber.mono _ _
      | exact wire_TakeText.mono _ _
      | exact wire_Text.mono _ _
      | exact LeO.none _
      | refine LeO.ite ?_ ?_
      | refine LeO.bind ?_ (fun _ => ?_)
theorem turnbucklelaw04_WireAgain.mono : ∀ a0 k, LeO (turnbucklelaw04_WireAgain.f k a0) (turnbucklelaw04_WireAgain.f (k + 1) a0) := by
  intro a0 k
  obtain ⟨ih0, ih1, ih2, ih3, ih4⟩ := turnbucklelaw04_WireAgain.mono_l k
  unfold turnbucklelaw04_WireAgain.f
  repeat' first
      | (with_reducible exact ih0 _ _ _ _ _ _ _ _ _ _ _ _)
      | (with_reducible exact ih1 _ _ _ _ _ _ _ _ _ _ _)
      | (with_reducible exact ih2 _ _ _ _ _ _ _ _)
      | (with_reducible exact ih3 _ _ _ _)
      | (with_reducible exact ih4 _)
      | (with_reducible exact turnbucklelaw04_shown.mono _)
      | (with_reducible exact wire_Ints.mono _ _)
      | (with_reducible exact wire_Number.mono _ _)
      | (with_reducible exact wire_TakeInts.mono _ _)
      | (with_reducible exact wire_TakeNumber.mono _ _)
      | (with_reducible exact wire_TakeText.mono _ _)
      | (with_reducible exact wire_Text.mono _ _)
      | (with_reducible exact LeO.refl _)
      | (with_reducible exact LeO.none _)
      | (with_reducible refine LeO.ite ?_ ?_)
      | (with_reducible refine LeO.bind ?_ (fun _ => ?_))
      | exact ih0 _ _ _ _ _ _ _ _ _ _ _ _
      | exact ih1 _ _ _ _ _ _ _ _ _ _ _
      | exact ih2 _ _ _ _ _ _ _ _
      | exact ih3 _ _ _ _
      | exact ih4 _
      | exact turnbucklelaw04_shown.mono _
      | exact wire_Ints.mono _ _
      | exact wire_Number.mono _ _
      | exact wire_TakeInts.mono _ _
      | exact wire_TakeNumber.mono _ _
      | exact wire_TakeText.mono _ _
      | exact wire_Text.mono _ _
      | exact LeO.none _
      | refine LeO.ite ?_ ?_
      | refine LeO.bind ?_ (fun _ => ?_)
def turnbucklelaw04_WireAgain.T9 : Bool × List (List Nat × List Nat) := (true, [([], []), ([0], [0]), ([1], [1]), ([2], [2]), ([3, 2, 2], [2, 3]), ([4, 2], [2, 4]), ([2], [2]), ([2], [2]), ([6, 7, 2], [2, 6, 7]), ([8, 2], [2, 8]), ([5, 9, 2], [2, 5, 9]), ([2, 10], [2, 10]), ([11, 4, 0, 1, 2, 3, 4, 5, 6, 7, 8, 9, 10, 11], [11])])
def turnbucklelaw04_WireAgain.B9 : List Nat := [0, 1, 3, 7, 15, 31, 7, 7, 199, 455, 1023, 2047, 4095]
theorem turnbucklelaw04_WireAgain.tab9 : rtab .any (opsOf Try.f8 9) = turnbucklelaw04_WireAgain.T9 := by kernel_rfl
theorem turnbucklelaw04_WireAgain.bits9 : waitsOk turnbucklelaw04_WireAgain.T9.2 turnbucklelaw04_WireAgain.B9 = true := by kernel_rfl
def turnbucklelaw04_WireAgain.T10 : Bool × List (List Nat × List Nat) := (true, [([], []), ([0], [0]), ([1], [1]), ([2], [2]), ([3, 2], [2, 3]), ([4, 2, 2], [2, 4]), ([5], [5]), ([6, 5], [5, 6]), ([5], [5]), ([5], [5]), ([8, 9, 5], [5, 8, 9]), ([10, 5], [5, 10]), ([7, 11, 5], [5, 7, 11]), ([5, 12, 2], [2, 5, 12]), ([2, 13], [2, 13]), ([14, 5, 0, 1, 2, 3, 4, 5, 6, 7, 8, 9, 10, 11, 12, 13, 14], [14])])
def turnbucklelaw04_WireAgain.B10 : List Nat := [0, 1, 3, 7, 15, 31, 63, 127, 63, 63, 831, 1855, 4095, 8191, 16383, 32767]
theorem turnbucklelaw04_WireAgain.tab10 : rtab .any (opsOf Try.f8 10) = turnbucklelaw04_WireAgain.T10 := by kernel_rfl
theorem turnbucklelaw04_WireAgain.bits10 : waitsOk turnbucklelaw04_WireAgain.T10.2 turnbucklelaw04_WireAgain.B10 = true := by kernel_rfl
def turnbucklelaw04_WireAgain.T11 : Bool × List (List Nat × List Nat) := (true, [([], []), ([0], [0]), ([1], [1]), ([2], [2]), ([3, 2], [2, 3]), ([4, 2, 2], [2, 4]), ([5], [5]), ([6, 5], [5, 6]), ([5], [5]), ([5], [5]), ([8, 9, 5], [5, 8, 9]), ([10, 5], [5, 10]), ([7, 11, 5], [5, 7, 11]), ([5, 12, 2], [2, 5, 12]), ([2, 13], [2, 13]), ([14, 5, 0, 1, 2, 3, 4, 5, 6, 7, 8, 9, 10, 11, 12, 13, 14], [14])])
def turnbucklelaw04_WireAgain.B11 : List Nat := [0, 1, 3, 7, 15, 31, 63, 127, 63, 63, 831, 1855, 4095, 8191, 16383, 32767]
theorem turnbucklelaw04_WireAgain.tab11 : rtab .any (opsOf Try.f8 11) = turnbucklelaw04_WireAgain.T11 := by kernel_rfl
theorem turnbucklelaw04_WireAgain.bits11 : waitsOk turnbucklelaw04_WireAgain.T11.2 turnbucklelaw04_WireAgain.B11 = true := by kernel_rfl
set_option maxHeartbeats 8000000 in
set_option maxRecDepth 100000 in
theorem turnbucklelaw04_WireAgain.calls (k : Nat) (A0 : Option Addr) (c0 : Nat) (l0 : List Int) (r : Bool) (w : World) (hr0 : Kd.C (Kd.int .u8) w A0 l0.length l0) (hc0 : l0.length ≤ c0) (h : turnbucklelaw04_WireAgain.f k l0 = some r) :
    Calls Try.prog 8 #[.slice A0 l0.length c0] w fun e w' => e = .returned (.bool r) ∧ Below w.heap.size w w' := by
  have HR0 := Aside0.mk hr0
  have HC0 := Aside0.mk hc0
  clear hr0 hc0
  have HB := Aside0.mk (Below.refl w.heap.size w)
  have H : ((turnbucklelaw04_shown.f k).bind fun t160 => ((wire_TakeNumber.f k l0).bind fun bt161 => ((wire_TakeText.f k l0).bind fun bt164 => ((wire_TakeInts.f k l0).bind fun bt167 => (if bt161.2.1 < 0 then (turnbucklelaw04_WireAgain.j0 k l0 t160 bt161.1 bt161.2.1 bt161.2.2 bt164.1 bt164.2.1 bt164.2.2 bt167.1 bt167.2.1 bt167.2.2 true) else (if bt161.2.1 > (l0.length : Int) then (turnbucklelaw04_WireAgain.j0 k l0 t160 bt161.1 bt161.2.1 bt161.2.2 bt164.1 bt164.2.1 bt164.2.2 bt167.1 bt167.2.1 bt167.2.2 true) else (if bt164.2.1 < 0 then (turnbucklelaw04_WireAgain.j0 k l0 t160 bt161.1 bt161.2.1 bt161.2.2 bt164.1 bt164.2.1 bt164.2.2 bt167.1 bt167.2.1 bt167.2.2 true) else (if bt164.2.1 > (l0.length : Int) then (turnbucklelaw04_WireAgain.j0 k l0 t160 bt161.1 bt161.2.1 bt161.2.2 bt164.1 bt164.2.1 bt164.2.2 bt167.1 bt167.2.1 bt167.2.2 true) else (if bt167.2.1 < 0 then (turnbucklelaw04_WireAgain.j0 k l0 t160 bt161.1 bt161.2.1 bt161.2.2 bt164.1 bt164.2.1 bt164.2.2 bt167.1 bt167.2.1 bt167.2.2 true) else (turnbucklelaw04_WireAgain.j0 k l0 t160 bt161.1 bt161.2.1 bt161.2.2 bt164.1 bt164.2.1 bt164.2.2 bt167.1 bt167.2.1 bt167.2.2 (decide (bt167.2.1 > (l0.length : Int))))))))))))) = some r := h
  clear h
  replace H := Option.bind_eq_some_iff.mp H
  obtain ⟨t160, A20, H⟩ := H
  replace H : ((wire_TakeNumber.f k l0).bind fun bt161 => ((wire_TakeText.f k l0).bind fun bt164 => ((wire_TakeInts.f k l0).bind fun bt167 => (if bt161.2.1 < 0 then (turnbucklelaw04_WireAgain.j0 k l0 t160 bt161.1 bt161.2.1 bt161.2.2 bt164.1 bt164.2.1 bt164.2.2 bt167.1 bt167.2.1 bt167.2.2 true) else (if bt161.2.1 > (l0.length : Int) then (turnbucklelaw04_WireAgain.j0 k l0 t160 bt161.1 bt161.2.1 bt161.2.2 bt164.1 bt164.2.1 bt164.2.2 bt167.1 bt167.2.1 bt167.2.2 true) else (if bt164.2.1 < 0 then (turnbucklelaw04_WireAgain.j0 k l0 t160 bt161.1 bt161.2.1 bt161.2.2 bt164.1 bt164.2.1 bt164.2.2 bt167.1 bt167.2.1 bt167.2.2 true) else (if bt164.2.1 > (l0.length : Int) then (turnbucklelaw04_WireAgain.j0 k l0 t160 bt161.1 bt161.2.1 bt161.2.2 bt164.1 bt164.2.1 bt164.2.2 bt167.1 bt167.2.1 bt167.2.2 true) else (if bt167.2.1 < 0 then (turnbucklelaw04_WireAgain.j0 k l0 t160 bt161.1 bt161.2.1 bt161.2.2 bt164.1 bt164.2.1 bt164.2.2 bt167.1 bt167.2.1 bt167.2.2 true) else (turnbucklelaw04_WireAgain.j0 k l0 t160 bt161.1 bt161.2.1 bt161.2.2 bt164.1 bt164.2.1 bt164.2.2 bt167.1 bt167.2.1 bt167.2.2 (decide (bt167.2.1 > (l0.length : Int)))))))))))) = some r := H
  have A2 := Aside0.mk A20
  clear A20
  replace H := Option.bind_eq_some_iff.mp H
  obtain ⟨⟨t161, t162, t163⟩, A30, H⟩ := H
  replace H : ((wire_TakeText.f k l0).bind fun bt164 => ((wire_TakeInts.f k l0).bind fun bt167 => (if t162 < 0 then (turnbucklelaw04_WireAgain.j0 k l0 t160 t161 t162 t163 bt164.1 bt164.2.1 bt164.2.2 bt167.1 bt167.2.1 bt167.2.2 true) else (if t162 > (l0.length : Int) then (turnbucklelaw04_WireAgain.j0 k l0 t160 t161 t162 t163 bt164.1 bt164.2.1 bt164.2.2 bt167.1 bt167.2.1 bt167.2.2 true) else (if bt164.2.1 < 0 then (turnbucklelaw04_WireAgain.j0 k l0 t160 t161 t162 t163 bt164.1 bt164.2.1 bt164.2.2 bt167.1 bt167.2.1 bt167.2.2 true) else (if bt164.2.1 > (l0.length : Int) then (turnbucklelaw04_WireAgain.j0 k l0 t160 t161 t162 t163 bt164.1 bt164.2.1 bt164.2.2 bt167.1 bt167.2.1 bt167.2.2 true) else (if bt167.2.1 < 0 then (turnbucklelaw04_WireAgain.j0 k l0 t160 t161 t162 t163 bt164.1 bt164.2.1 bt164.2.2 bt167.1 bt167.2.1 bt167.2.2 true) else (turnbucklelaw04_WireAgain.j0 k l0 t160 t161 t162 t163 bt164.1 bt164.2.1 bt164.2.2 bt167.1 bt167.2.1 bt167.2.2 (decide (bt167.2.1 > (l0.length : Int))))))))))) = some r := H
  have A3 := Aside0.mk A30
  clear A30
  replace H := Option.bind_eq_some_iff.mp H
  obtain ⟨⟨t164, t165, t166⟩, A40, H⟩ := H
  replace H : ((wire_TakeInts.f k l0).bind fun bt167 => (if t162 < 0 then (turnbucklelaw04_WireAgain.j0 k l0 t160 t161 t162 t163 t164 t165 t166 bt167.1 bt167.2.1 bt167.2.2 true) else (if t162 > (l0.length : Int) then (turnbucklelaw04_WireAgain.j0 k l0 t160 t161 t162 t163 t164 t165 t166 bt167.1 bt167.2.1 bt167.2.2 true) else (if t165 < 0 then (turnbucklelaw04_WireAgain.j0 k l0 t160 t161 t162 t163 t164 t165 t166 bt167.1 bt167.2.1 bt167.2.2 true) else (if t165 > (l0.length : Int) then (turnbucklelaw04_WireAgain.j0 k l0 t160 t161 t162 t163 t164 t165 t166 bt167.1 bt167.2.1 bt167.2.2 true) else (if bt167.2.1 < 0 then (turnbucklelaw04_WireAgain.j0 k l0 t160 t161 t162 t163 t164 t165 t166 bt167.1 bt167.2.1 bt167.2.2 true) else (turnbucklelaw04_WireAgain.j0 k l0 t160 t161 t162 t163 t164 t165 t166 bt167.1 bt167.2.1 bt167.2.2 (decide (bt167.2.1 > (l0.length : Int)))))))))) = some r := H
  have A4 := Aside0.mk A40
  clear A40
  replace H := Option.bind_eq_some_iff.mp H
  obtain ⟨⟨t167, t168, t169⟩, A50, H⟩ := H
  replace H : (if t162 < 0 then (turnbucklelaw04_WireAgain.j0 k l0 t160 t161 t162 t163 t164 t165 t166 t167 t168 t169 true) else (if t162 > (l0.length : Int) then (turnbucklelaw04_WireAgain.j0 k l0 t160 t161 t162 t163 t164 t165 t166 t167 t168 t169 true) else (if t165 < 0 then (turnbucklelaw04_WireAgain.j0 k l0 t160 t161 t162 t163 t164 t165 t166 t167 t168 t169 true) else (if t165 > (l0.length : Int) then (turnbucklelaw04_WireAgain.j0 k l0 t160 t161 t162 t163 t164 t165 t166 t167 t168 t169 true) else (if t168 < 0 then (turnbucklelaw04_WireAgain.j0 k l0 t160 t161 t162 t163 t164 t165 t166 t167 t168 t169 true) else (turnbucklelaw04_WireAgain.j0 k l0 t160 t161 t162 t163 t164 t165 t166 t167 t168 t169 (decide (t168 > (l0.length : Int))))))))) = some r := H
  have A5 := Aside0.mk A50
  clear A50
  have HC6 := Aside0.mk H
  clear H
  go_enter Try.func8, Try.ntmps8
  go_upto_region 5 with (first | ((with_reducible refine gate_callee (f := 10) rfl ?_); refine goesL_ (some 20) rfl rfl Try.func10 (by kernel_rfl) rfl #[] rfl (by (try simp only [List.map_toArray, List.map_cons, List.map_nil]); first | done | rfl | (simp only [List.length_drop, List.length_take]; rfl)) ?_; (with_reducible refine (turnbucklelaw04_shown.calls k  t160 _ A2.out).mono ?_); rintro e w7 ⟨rfl, hb⟩; refine ⟨_, rfl, ?_⟩; have n0_ := Aside0.mk (below_step (by repeat (first | (with_reducible first | exact HB.out | apply below_alloc | apply pw_below_drewN | apply below_drew1) | exact HB.out)) hb); clear HB; have HB := n0_; clear n0_; (try clear hb); (try clear hb2); (try clear hk); (try clear hi)) | ((with_reducible refine gate_callee (f := 11) rfl ?_); refine goesL_ (some 23) rfl rfl Try.func11 (by kernel_rfl) rfl #[.slice A0 l0.length c0] rfl (by (try simp only [List.map_toArray, List.map_cons, List.map_nil]); first | done | rfl | (simp only [List.length_drop, List.length_take]; rfl)) ?_; (with_reducible refine (wire_TakeNumber.calls k _ _ l0 t161 t162 t163 _ ?side1 ?side2 A3.out).mono ?_); (case side1 => repeat (first | exact (Kd.C_below HR0.out HB.out) | (with_reducible refine Kd.C_alloc ?_ _) | (with_reducible refine Kd.C_drewN ?_ _) | (with_reducible refine Kd.C_drew ?_))); (case side2 => exact HC0.out); rintro e w' ⟨rfl, ⟨nd, rfl⟩⟩; refine ⟨_, rfl, ?_⟩) | ((with_reducible refine gate_callee (f := 17) rfl ?_); refine goesL_ (some 29) rfl rfl Try.func17 (by kernel_rfl) rfl #[.slice A0 l0.length c0] rfl (by (try simp only [List.map_toArray, List.map_cons, List.map_nil]); first | done | rfl | (simp only [List.length_drop, List.length_take]; rfl)) ?_; (with_reducible refine (wire_TakeText.calls k _ _ l0 t164 t165 t166 _ ?side1 ?side2 A4.out).mono ?_); (case side1 => repeat (first | exact (Kd.C_below HR0.out (by repeat (first | (with_reducible first | exact HB.out | apply below_alloc | apply pw_below_drewN | apply below_drew1) | exact HB.out))) | (with_reducible refine Kd.C_alloc ?_ _) | (with_reducible refine Kd.C_drewN ?_ _) | (with_reducible refine Kd.C_drew ?_))); (case side2 => exact HC0.out); rintro e w8 ⟨rfl, hb⟩; refine ⟨_, rfl, ?_⟩; have n0_ := Aside0.mk (below_step (by repeat (first | (with_reducible first | exact HB.out | apply below_alloc | apply pw_below_drewN | apply below_drew1) | exact HB.out)) hb); clear HB; have HB := n0_; clear n0_; (try clear hb); (try clear hb2); (try clear hk); (try clear hi)) | ((with_reducible refine gate_callee (f := 21) rfl ?_); refine goesL_ (some 35) rfl rfl Try.func21 (by kernel_rfl) rfl #[.slice A0 l0.length c0] rfl (by (try simp only [List.map_toArray, List.map_cons, List.map_nil]); first | done | rfl | (simp only [List.length_drop, List.length_take]; rfl)) ?_; (with_reducible refine (wire_TakeInts.calls k _ _ l0 t167 t168 t169 _ ?side1 ?side2 A5.out).mono ?_); (case side1 => repeat (first | exact (Kd.C_below HR0.out HB.out) | (with_reducible refine Kd.C_alloc ?_ _) | (with_reducible refine Kd.C_drewN ?_ _) | (with_reducible refine Kd.C_drew ?_))); (case side2 => exact HC0.out); rintro e w9 ⟨v170, rfl, ho0, hb⟩; refine ⟨_, rfl, ?_⟩; have n0_ := Aside0.mk (Kd.R_lower ho0 (below_size (by repeat (first | (with_reducible first | exact HB.out | apply below_alloc | apply pw_below_drewN | apply below_drew1) | exact HB.out)))); have n1_ := Aside0.mk (below_step (by repeat (first | (with_reducible first | exact HB.out | apply below_alloc | apply pw_below_drewN | apply below_drew1) | exact HB.out)) hb); clear HB; have HO171 := n0_; have HB := n1_; clear n0_ n1_; (try clear hb); (try clear hb2); (try clear hk); (try clear hi); (try clear ho0)))
  (try simp only [Act.put, List.setIfInBounds_toArray, List.set_cons_zero, List.set_cons_succ])
  go_cut [66] (fun v66 wc => ∃ (kq : Nat) (x66_5 : Bool), v66 = .bool x66_5 ∧ Aside0 (turnbucklelaw04_WireAgain.j0 kq l0 t160 t161 t162 t163 t164 t165 t166 t167 t168 t169 x66_5 = some r) ∧ Aside0 (kq ≤ k) ∧ Aside0 (Kd.R (Kd.int .i64) 3 wc w.heap.size (fun _ => True) v170 t167) ∧ Aside0 (Below w.heap.size w wc))
  case first =>
    have H := HC6.out
    clear HC6
    by_cases c10 : t162 < 0
    · rw [if_pos c10] at H
      have c10b0 : decide (t162 < 0) = true := decide_eq_true c10
      clear c10
      (first | rw [c10b0] | (simp only [i64_w, i32_w]; rw [c10b0]) | skip)
      have H' := Aside0.mk H
      clear H
      go_wp2
      go_meet
      case rel => exact ⟨_, (true), (by first | rfl | (simp; done) | (simp [*]; done)), H', ⟨by first | omega | exact Nat.le_refl _⟩, ⟨by (with_reducible repeat (first | apply Kd.R_alloc | apply Kd.R_drewN | apply Kd.R_drew)); exact HO171.out⟩, ⟨by repeat (first | (with_reducible first | exact HB.out | apply below_alloc | apply pw_below_drewN | apply below_drew1) | exact HB.out)⟩⟩
    · rw [if_neg c10] at H
      have c10b0 : decide (t162 < 0) = false := decide_eq_false c10
      clear c10
      (first | rw [c10b0] | (simp only [i64_w, i32_w]; rw [c10b0]) | skip)
      by_cases c11 : t162 > (l0.length : Int)
      · rw [if_pos c11] at H
        have c11b0 : decide ((l0.length : Int) < t162) = true := decide_eq_true c11
        clear c11
        have H' := Aside0.mk H
        clear H
        go_wp2
        go_meet
        case rel => exact ⟨_, (true), (by first | rfl | (simp; done) | (simp [*]; done)), H', ⟨by first | omega | exact Nat.le_refl _⟩, ⟨by (with_reducible repeat (first | apply Kd.R_alloc | apply Kd.R_drewN | apply Kd.R_drew)); exact HO171.out⟩, ⟨by repeat (first | (with_reducible first | exact HB.out | apply below_alloc | apply pw_below_drewN | apply below_drew1) | exact HB.out)⟩⟩
      · rw [if_neg c11] at H
        have c11b0 : decide ((l0.length : Int) < t162) = false := decide_eq_false c11
        clear c11
        by_cases c12 : t165 < 0
        · rw [if_pos c12] at H
          have c12b0 : decide (t165 < 0) = true := decide_eq_true c12
          clear c12
          have H' := Aside0.mk H
          clear H
          go_wp2
          go_meet
          case rel => exact ⟨_, (true), (by first | rfl | (simp; done) | (simp [*]; done)), H', ⟨by first | omega | exact Nat.le_refl _⟩, ⟨by (with_reducible repeat (first | apply Kd.R_alloc | apply Kd.R_drewN | apply Kd.R_drew)); exact HO171.out⟩, ⟨by repeat (first | (with_reducible first | exact HB.out | apply below_alloc | apply pw_below_drewN | apply below_drew1) | exact HB.out)⟩⟩
        · rw [if_neg c12] at H
          have c12b0 : decide (t165 < 0) = false := decide_eq_false c12
          clear c12
          by_cases c13 : t165 > (l0.length : Int)
          · rw [if_pos c13] at H
            have c13b0 : decide ((l0.length : Int) < t165) = true := decide_eq_true c13
            clear c13
            have H' := Aside0.mk H
            clear H
            go_wp2
            go_meet
            case rel => exact ⟨_, (true), (by first | rfl | (simp; done) | (simp [*]; done)), H', ⟨by first | omega | exact Nat.le_refl _⟩, ⟨by (with_reducible repeat (first | apply Kd.R_alloc | apply Kd.R_drewN | apply Kd.R_drew)); exact HO171.out⟩, ⟨by repeat (first | (with_reducible first | exact HB.out | apply below_alloc | apply pw_below_drewN | apply below_drew1) | exact HB.out)⟩⟩
          · rw [if_neg c13] at H
            have c13b0 : decide ((l0.length : Int) < t165) = false := decide_eq_false c13
            clear c13
            by_cases c14 : t168 < 0
            · rw [if_pos c14] at H
              have c14b0 : decide (t168 < 0) = true := decide_eq_true c14
              clear c14
              have H' := Aside0.mk H
              clear H
              go_wp2
              go_meet
              case rel => exact ⟨_, (true), (by first | rfl | (simp; done) | (simp [*]; done)), H', ⟨by first | omega | exact Nat.le_refl _⟩, ⟨by (with_reducible repeat (first | apply Kd.R_alloc | apply Kd.R_drewN | apply Kd.R_drew)); exact HO171.out⟩, ⟨by repeat (first | (with_reducible first | exact HB.out | apply below_alloc | apply pw_below_drewN | apply below_drew1) | exact HB.out)⟩⟩
            · rw [if_neg c14] at H
              have c14b0 : decide (t168 < 0) = false := decide_eq_false c14
              clear c14
              have H' := Aside0.mk H
              clear H
              go_wp2
              go_meet
              case rel => exact ⟨_, (decide (t168 > (l0.length : Int))), (by first | rfl | (simp; done) | (simp [*]; done)), H', ⟨by first | omega | exact Nat.le_refl _⟩, ⟨by (with_reducible repeat (first | apply Kd.R_alloc | apply Kd.R_drewN | apply Kd.R_drew)); exact HO171.out⟩, ⟨by repeat (first | (with_reducible first | exact HB.out | apply below_alloc | apply pw_below_drewN | apply below_drew1) | exact HB.out)⟩⟩
  case rest =>
    clear HC6
    try clear c1
    try clear c2
    try clear p2
    try clear c8
    try clear c10
    try clear c10b0
    try clear c11
    try clear c11b0
    try clear c12
    try clear c12b0
    try clear c13
    try clear c13b0
    try clear c14
    try clear c14b0
    obtain ⟨kq, x66_5, rfl, HA, HJ5, HO_10, HB⟩ := hcut
    cases kq with
    | zero => exact absurd HA.out (by simp [turnbucklelaw04_WireAgain.j0])
    | succ kj5 =>
      have H := HA.out
      clear HA
      simp only [turnbucklelaw04_WireAgain.j0] at H
      by_cases c15 : x66_5 = true
      · subst c15
        have H1 : (some false) = some r := by rw [if_pos rfl] at H; exact H
        clear H
        have H := H1
        clear H1
        obtain rfl := Option.some.inj H
        go_wp2
        go_ret
        exact ⟨by first | rfl | (simp [errW_none, errW_some] <;> rfl) | (simp [*, errW_none, errW_some] <;> rfl), by repeat (first | (with_reducible first | exact HB.out | apply below_alloc | apply pw_below_drewN | apply below_drew1) | exact HB.out)⟩
      · replace c15 := Bool.eq_false_iff.mpr c15
        subst c15
        have H1 : ((wire_Text.f kj5 t164).bind fun bt172 => ((wire_Ints.f kj5 t167).bind fun bt176 => (if t163 = 0 then ((wire_Number.f kj5 t161).bind fun t180 => (if 0 ≤ t162 then (if t162 ≤ (l0.length : Int) then (turnbucklelaw04_WireAgain.j1 kj5 l0 t160 t165 t166 t168 t169 bt172.1 bt172.2 bt176.1 bt176.2 ((strOfNums t180).toList == (strOfNums (l0.take (t162 : Int).toNat)).toList)) else (none)) else (none))) else (turnbucklelaw04_WireAgain.j1 kj5 l0 t160 t165 t166 t168 t169 bt172.1 bt172.2 bt176.1 bt176.2 true)))) = some r := by rw [if_neg (show ¬ (false = true) by decide)] at H; exact H
        clear H
        have H := H1
        clear H1
        replace H := Option.bind_eq_some_iff.mp H
        obtain ⟨⟨t172, t173⟩, A160, H⟩ := H
        replace H : ((wire_Ints.f kj5 t167).bind fun bt176 => (if t163 = 0 then ((wire_Number.f kj5 t161).bind fun t180 => (if 0 ≤ t162 then (if t162 ≤ (l0.length : Int) then (turnbucklelaw04_WireAgain.j1 kj5 l0 t160 t165 t166 t168 t169 t172 t173 bt176.1 bt176.2 ((strOfNums t180).toList == (strOfNums (l0.take (t162 : Int).toNat)).toList)) else (none)) else (none))) else (turnbucklelaw04_WireAgain.j1 kj5 l0 t160 t165 t166 t168 t169 t172 t173 bt176.1 bt176.2 true))) = some r := H
        have A16 := Aside0.mk A160
        clear A160
        replace H := Option.bind_eq_some_iff.mp H
        obtain ⟨⟨t176, t177⟩, A170, H⟩ := H
        replace H : (if t163 = 0 then ((wire_Number.f kj5 t161).bind fun t180 => (if 0 ≤ t162 then (if t162 ≤ (l0.length : Int) then (turnbucklelaw04_WireAgain.j1 kj5 l0 t160 t165 t166 t168 t169 t172 t173 t176 t177 ((strOfNums t180).toList == (strOfNums (l0.take (t162 : Int).toNat)).toList)) else (none)) else (none))) else (turnbucklelaw04_WireAgain.j1 kj5 l0 t160 t165 t166 t168 t169 t172 t173 t176 t177 true)) = some r := H
        have A17 := Aside0.mk A170
        clear A170
        have HC18 := Aside0.mk H
        clear H
        go_upto_region 9 with (first | ((with_reducible refine gate_callee (f := 15) rfl ?_); refine goesL_ (some 69) rfl rfl Try.func15 (by kernel_rfl) rfl #[.string t164] rfl (by (try simp only [List.map_toArray, List.map_cons, List.map_nil]); first | done | rfl | (simp only [List.length_drop, List.length_take]; rfl)) ?_; (with_reducible refine (wire_Text.calls kj5 t164 t172 t173 _ A16.out).mono ?_); rintro e w19 ⟨v174, rfl, ho0, hb⟩; refine ⟨_, rfl, ?_⟩; have n0_ := Aside0.mk (Kd.R_below (by (with_reducible repeat (first | apply Kd.R_alloc | apply Kd.R_drewN | apply Kd.R_drew)); exact HO_10.out) hb); have n1_ := Aside0.mk (Kd.R_lower ho0 (below_size (by repeat (first | (with_reducible first | exact HB.out | apply below_alloc | apply pw_below_drewN | apply below_drew1) | exact HB.out)))); have n2_ := Aside0.mk (below_step (by repeat (first | (with_reducible first | exact HB.out | apply below_alloc | apply pw_below_drewN | apply below_drew1) | exact HB.out)) hb); clear HO_10; clear HB; have HO_10 := n0_; have HO175 := n1_; have HB := n2_; clear n0_ n1_ n2_; (try clear hb); (try clear hb2); (try clear hk); (try clear hi); (try clear ho0); obtain ⟨Ao20, co20, eo20⟩ := Kd.R_slice HO_10.out; subst eo20) | ((with_reducible refine gate_callee (f := 19) rfl ?_); refine goesL_ (some 74) rfl rfl Try.func19 (by kernel_rfl) rfl #[.slice Ao20 t167.length co20] rfl (by (try simp only [List.map_toArray, List.map_cons, List.map_nil]); first | done | rfl | (simp only [List.length_drop, List.length_take]; rfl)) ?_; (with_reducible refine (wire_Ints.calls kj5 _ _ t167 t176 t177 _ ?side1 ?side2 A17.out).mono ?_); (case side1 => repeat (first | exact (Kd.R_reads' HO_10.out).2.2 | (with_reducible refine Kd.C_alloc ?_ _) | (with_reducible refine Kd.C_drewN ?_ _) | (with_reducible refine Kd.C_drew ?_))); (case side2 => exact (Kd.R_reads' HO_10.out).2.1); rintro e w21 ⟨v178, rfl, ho0, hb⟩; refine ⟨_, rfl, ?_⟩; have n0_ := Aside0.mk (Kd.R_below (by (with_reducible repeat (first | apply Kd.R_alloc | apply Kd.R_drewN | apply Kd.R_drew)); exact HO_10.out) hb); have n1_ := Aside0.mk (Kd.R_elder' (by (with_reducible repeat (first | apply Kd.R_alloc | apply Kd.R_drewN | apply Kd.R_drew)); exact HO175.out) (Kd.R_base ho0) hb); have n2_ := Aside0.mk (Kd.R_lower (Kd.R_new' ho0 (Kd.R_lt (by (with_reducible repeat (first | apply Kd.R_alloc | apply Kd.R_drewN | apply Kd.R_drew)); exact HO175.out))) (below_size (by repeat (first | (with_reducible first | exact HB.out | apply below_alloc | apply pw_below_drewN | apply below_drew1) | exact HB.out)))); have n3_ := Aside0.mk (below_step (by repeat (first | (with_reducible first | exact HB.out | apply below_alloc | apply pw_below_drewN | apply below_drew1) | exact HB.out)) hb); clear HO_10; clear HO175; clear HB; have HO_10 := n0_; have HO175 := n1_; have HO179 := n2_; have HB := n3_; clear n0_ n1_ n2_ n3_; (try clear hb); (try clear hb2); (try clear hk); (try clear hi); (try clear ho0)))
        (try simp only [Act.put, List.setIfInBounds_toArray, List.set_cons_zero, List.set_cons_succ])
        go_cut [17] (fun v17 wc => ∃ (kq : Nat) (x17_17 : Bool), v17 = .bool x17_17 ∧ Aside0 (turnbucklelaw04_WireAgain.j1 kq l0 t160 t165 t166 t168 t169 t172 t173 t176 t177 x17_17 = some r) ∧ Aside0 (kq ≤ kj5) ∧ Aside0 (Kd.R (Kd.int .u8) 5 wc w.heap.size (fun k_ => some k_ ≠ (v178 : Value).ownBlock) v174 t172) ∧ Aside0 (Kd.R (Kd.int .u8) 5 wc w.heap.size (fun k_ => some k_ ≠ (v174 : Value).ownBlock) v178 t176) ∧ Aside0 (Below w.heap.size w wc))
        case first =>
          have H := HC18.out
          clear HC18
          by_cases c22 : t163 = 0
          · rw [if_pos c22] at H
            have c22b0 : (t163 == 0) = true := beq_iff_eq.mpr c22
            have c22b1 : (t163 != 0) = false := bne_eq_false_iff_eq.mpr c22
            clear c22
            (first | rw [c22b0] | (simp only [i64_w, i32_w]; rw [c22b0]) | skip)
            replace H := Option.bind_eq_some_iff.mp H
            obtain ⟨t180, A230, H⟩ := H
            replace H : (if 0 ≤ t162 then (if t162 ≤ (l0.length : Int) then (turnbucklelaw04_WireAgain.j1 kj5 l0 t160 t165 t166 t168 t169 t172 t173 t176 t177 ((strOfNums t180).toList == (strOfNums (l0.take (t162 : Int).toNat)).toList)) else (none)) else (none)) = some r := H
            have A23 := Aside0.mk A230
            clear A230
            by_cases c24 : 0 ≤ t162
            · rw [if_pos c24] at H
              have c24b0 := eq_true c24
              have c24b1 : decide (0 ≤ t162) = true := decide_eq_true c24
              clear c24
              by_cases c25 : t162 ≤ (l0.length : Int)
              · rw [if_pos c25] at H
                have c25b0 := eq_true c25
                have c25b1 : decide (t162 ≤ (l0.length : Int)) = true := decide_eq_true c25
                clear c25
                have H' := Aside0.mk H
                clear H
                try go_wp2
                have n0_ := Aside0.mk (Kd.R_drew HO_10.out)
                have n1_ := Aside0.mk (Kd.R_drew HO175.out)
                have n2_ := Aside0.mk (Kd.R_drew HO179.out)
                have n3_ := Aside0.mk (below_drew1 HB.out)
                clear HO_10
                clear HO175
                clear HO179
                clear HB
                have HO_10 := n0_
                have HO175 := n1_
                have HO179 := n2_
                have HB := n3_
                clear n0_ n1_ n2_ n3_
                obtain ⟨i027, hi027, _, hsz27, _⟩ := info_parts info5
                obtain ⟨hcut27, hA27, hC27⟩ := print_take_of (P := Try.prog) (Value.int .u8) 0 23 5 .i64 Try.underlying23 hi027 hsz27 A0 c0 l0 t162 (of_decide_eq_true (by first | (with_reducible assumption) | assumption)) (of_decide_eq_true (by first | (with_reducible assumption) | assumption)) HC0.out
                have HR183 := Aside0.mk (Kd.C_of_reads (h1 := fun _ => rfl) (hA27 _ (Kd.reads_of_C HR0.out)))
                have HC183 := Aside0.mk hC27
                clear hA27 hC27 hi027 hsz27
                refine start_ (n := 13) (S := fun w' => Below (w21.drew).heap.size (w21.drew) w') (ds := []) #[false, false, false, false, false, false, false, false, false, false, false, false, false] (by kernel_rfl) rfl rfl (Below.refl _ _) (fun hHeld => ?_); refine with_tabW turnbucklelaw04_WireAgain.tab9 turnbucklelaw04_WireAgain.bits9 (fun HT_ HW_ => ?_)
                generalize w21.drew = w26 at HO_10 HO175 HO179 HB HR183 hHeld ⊢
                refine pure_ (i := 0) (N := some 77) (v := ?_) (a' := ?_) #[true, false, false, false, false, false, false, false, false, false, false, false, false] rfl rfl (any_of HT_.out (by kernel_rfl)) (fun _ _ _ h => h) (Or.inl ⟨by rfl, ?_⟩) ?_ ?_
                rotate_left
                · intro w'
                  go_simp
                  with_reducible rfl
                rotate_left
                · simp only [Act.put, List.setIfInBounds_toArray, List.set_cons_zero, List.set_cons_succ, i64_w, i32_w]
                  rfl
                refine pure_ (i := 1) (N := some 78) (v := ?_) (a' := ?_) #[true, true, false, false, false, false, false, false, false, false, false, false, false] rfl rfl (any_of HT_.out (by kernel_rfl)) (fun _ _ _ h => h) (Or.inl ⟨by rfl, ?_⟩) ?_ ?_
                rotate_left
                · intro w'
                  go_simp
                  with_reducible rfl
                rotate_left
                · simp only [Act.put, List.setIfInBounds_toArray, List.set_cons_zero, List.set_cons_succ, i64_w, i32_w]
                  rfl
                refine pure_ (i := 2) (N := some 79) (v := ?_) (a' := ?_) #[true, true, true, false, false, false, false, false, false, false, false, false, false] rfl rfl (any_of HT_.out (by kernel_rfl)) (fun _ _ _ h => h) (Or.inl ⟨by rfl, ?_⟩) ?_ ?_
                rotate_left
                · intro w'
                  go_simp
                  with_reducible rfl
                rotate_left
                · simp only [Act.put, List.setIfInBounds_toArray, List.set_cons_zero, List.set_cons_succ, i64_w, i32_w]
                  rfl
                refine pure_ (i := 3) (N := some 80) (v := ?_) (a' := ?_) #[true, true, true, true, false, false, false, false, false, false, false, false, false] rfl rfl (any_of HT_.out (by kernel_rfl)) (fun _ _ _ h => h) (Or.inl ⟨by rfl, ?_⟩) ?_ ?_
                rotate_left
                · intro w'
                  go_simp
                  with_reducible rfl
                rotate_left
                · simp only [Act.put, List.setIfInBounds_toArray, List.set_cons_zero, List.set_cons_succ, i64_w, i32_w]
                  rfl
                refine pure_ (i := 6) (N := some 83) (v := ?_) (a' := ?_) #[true, true, true, true, false, false, true, false, false, false, false, false, false] rfl rfl (any_of HT_.out (by kernel_rfl)) (fun _ _ _ h => h) (Or.inl ⟨by rfl, ?_⟩) ?_ ?_
                rotate_left
                · intro w'
                  go_simp
                  with_reducible rfl
                rotate_left
                · simp only [Act.put, List.setIfInBounds_toArray, List.set_cons_zero, List.set_cons_succ, i64_w, i32_w]
                  rfl
                refine pure_ (i := 7) (N := some 84) (v := ?_) (a' := ?_) #[true, true, true, true, false, false, true, true, false, false, false, false, false] rfl rfl (any_of HT_.out (by kernel_rfl)) (fun _ _ _ h => h) (Or.inl ⟨by rfl, ?_⟩) ?_ ?_
                rotate_left
                · intro w'
                  go_simp
                  with_reducible rfl
                rotate_left
                · simp only [Act.put, List.setIfInBounds_toArray, List.set_cons_zero, List.set_cons_succ, i64_w, i32_w]
                  rfl
                refine pure_ (i := 8) (N := some 85) (v := ?_) (a' := ?_) #[true, true, true, true, false, false, true, true, true, false, false, false, false] rfl rfl (any_of HT_.out (by kernel_rfl)) (fun _ _ _ h => h) (Or.inl ⟨by rfl, ?_⟩) ?_ ?_
                rotate_left
                · intro w'
                  go_simp
                  with_reducible rfl
                rotate_left
                · simp only [Act.put, List.setIfInBounds_toArray, List.set_cons_zero, List.set_cons_succ, i64_w, i32_w]
                  rfl
                refine take_ (i := 9) (N := some 86) (v := ?_) (a' := ?_) #[true, true, true, true, false, false, true, true, true, true, false, false, false] rfl rfl (take_of HT_.out (by kernel_rfl)) (fun _ _ _ h => h) (Or.inl ⟨by rfl, ?_⟩) hHeld ?_ ?_
                rotate_left
                · intro w' hS_
                  have hcvS := Kd.C_string (P := Try.prog) (A := A0) (c := c0) Try.underlying23 Try.underlying5 Try.underlying9 (Kd.C_below HR183.out (below_step HB.out hS_))
                  have hmn := Nat.min_eq_left (show (t162 : Int).toNat ≤ l0.length by have h1 : t162 ≤ (l0.length : Int) := of_decide_eq_true (by assumption); omega)
                  simp only [List.length_take, hmn] at hcvS
                  clear hmn
                  go_simp
                  with_reducible rfl
                rotate_left
                · simp only [Act.put, List.setIfInBounds_toArray, List.set_cons_zero, List.set_cons_succ, i64_w, i32_w]
                  rfl
                refine one_ (i := 4) (N := some 81) #[true, true, true, true, true, false, true, true, true, true, false, false, false] rfl rfl (one_of HT_.out (by kernel_rfl)) (by decide) (fun K hK => ?_)
                refine goes_ Try.func13 (by kernel_rfl) rfl #[.int .u64 t161] (by rfl) rfl rfl (by (try simp only [List.map_toArray, List.map_cons, List.map_nil]); first | done | rfl | (simp only [List.length_drop, List.length_take]; rfl)) ?_
                with_reducible refine (wire_Number.calls kj5 t161 t180 _ A23.out).mono ?_
                rintro e w28 ⟨v181, rfl, ho0, hb⟩
                refine ⟨_, rfl, ?_⟩
                have n0_ := Aside0.mk (Kd.R_below (by (with_reducible repeat (first | apply Kd.R_alloc | apply Kd.R_drewN | apply Kd.R_drew)); exact HO_10.out) hb)
                have n1_ := Aside0.mk (Kd.R_elder' (by (with_reducible repeat (first | apply Kd.R_alloc | apply Kd.R_drewN | apply Kd.R_drew)); exact HO175.out) (Kd.R_base ho0) hb)
                have n2_ := Aside0.mk (Kd.R_elder' (by (with_reducible repeat (first | apply Kd.R_alloc | apply Kd.R_drewN | apply Kd.R_drew)); exact HO179.out) (Kd.R_base ho0) hb)
                have n3_ := Aside0.mk (Kd.R_lower (Kd.R_new' (Kd.R_new' ho0 (Kd.R_lt (by (with_reducible repeat (first | apply Kd.R_alloc | apply Kd.R_drewN | apply Kd.R_drew)); exact HO175.out))) (Kd.R_lt (by (with_reducible repeat (first | apply Kd.R_alloc | apply Kd.R_drewN | apply Kd.R_drew)); exact HO179.out))) (below_size (by repeat (first | (with_reducible first | exact HB.out | apply below_alloc | apply pw_below_drewN | apply below_drew1) | exact HB.out))))
                have n4_ := Aside0.mk (below_step (by repeat (first | (with_reducible first | exact HB.out | apply below_alloc | apply pw_below_drewN | apply below_drew1) | exact HB.out)) hb)
                clear HO_10
                clear HO175
                clear HO179
                clear HB
                have HO_10 := n0_
                have HO175 := n1_
                have HO179 := n2_
                have HO182 := n3_
                have HB := n4_
                clear n0_ n1_ n2_ n3_ n4_
                have HS_ := Aside0.mk hb; (try clear hb)
                (try clear hb2)
                (try clear hk)
                (try clear hi)
                (try clear ho0)
                have hcv30 := Kd.C_string (P := Try.prog) (A := A0) (c := c0) Try.underlying23 Try.underlying5 Try.underlying9 (Kd.C_below HR183.out HB.out)
                refine hK.out _ _ HS_.out (fun hHeld => ?_)
                clear hK K
                refine norm_ (a' := ?_) ?_ ?_
                rotate_left
                · show Act.put _ (some 81) _ = _
                  simp only [Act.put, List.setIfInBounds_toArray, List.set_cons_zero, List.set_cons_succ, i64_w, i32_w]
                  rfl
                refine one_ (i := 5) (N := some 82) #[true, true, true, true, true, true, true, true, true, true, false, false, false] rfl rfl (one_of HT_.out (by kernel_rfl)) (by decide) (fun K hK => ?_)
                have hcv29 := own_string (P := Try.prog) Try.underlying23 Try.underlying5 Try.underlying9 (Kd.own_of_R HO182.out)
                refine value_ (w1 := ?_) (v := ?_) (by rfl) rfl ?_ ?_
                rotate_left 2
                · go_simp
                  constructor
                  · rfl
                  · rfl
                clear hcv29
                refine hK.out _ _ HS_.out (fun hHeld => ?_)
                clear hK K
                refine norm_ (a' := ?_) ?_ ?_
                rotate_left
                · show Act.put _ (some 82) _ = _
                  simp only [Act.put, List.setIfInBounds_toArray, List.set_cons_zero, List.set_cons_succ, i64_w, i32_w]
                  rfl
                refine pure_ (i := 10) (N := some 87) (v := ?_) (a' := ?_) #[true, true, true, true, true, true, true, true, true, true, true, false, false] rfl rfl (any_of HT_.out (by kernel_rfl)) (fun _ _ _ h => h) (Or.inl ⟨by rfl, ?_⟩) ?_ ?_
                rotate_left
                · intro w'
                  go_simp
                  with_reducible rfl
                rotate_left
                · simp only [Act.put, List.setIfInBounds_toArray, List.set_cons_zero, List.set_cons_succ, i64_w, i32_w]
                  rfl
                refine pure_ (i := 11) (N := some 88) (v := ?_) (a' := ?_) #[true, true, true, true, true, true, true, true, true, true, true, true, false] rfl rfl (any_of HT_.out (by kernel_rfl)) (fun _ _ _ h => h) (Or.inl ⟨by rfl, ?_⟩) ?_ ?_
                rotate_left
                · intro w'
                  go_simp
                  with_reducible rfl
                rotate_left
                · simp only [Act.put, List.setIfInBounds_toArray, List.set_cons_zero, List.set_cons_succ, i64_w, i32_w]
                  rfl
                refine pure_ (i := 12) (N := some 17) (v := ?_) (a' := ?_) #[true, true, true, true, true, true, true, true, true, true, true, true, true] rfl rfl (any_of HT_.out (by kernel_rfl)) (fun _ _ _ h => h) (Or.inl ⟨by rfl, ?_⟩) ?_ ?_
                rotate_left
                · intro w'
                  go_simp
                  with_reducible rfl
                rotate_left
                · simp only [Act.put, List.setIfInBounds_toArray, List.set_cons_zero, List.set_cons_succ, i64_w, i32_w]
                  rfl
                refine done_ (done_of HT_.out (by kernel_rfl)) ?_
                try go_wp2
                go_meet
                case rel => exact ⟨_, (((strOfNums t180).toList == (strOfNums (l0.take (t162 : Int).toNat)).toList)), (by first | rfl | (simp; done) | (simp [*]; done)), H', ⟨by have := HJ5.out; first | omega | exact Nat.le_refl _⟩, ⟨by (with_reducible repeat (first | apply Kd.R_alloc | apply Kd.R_drewN | apply Kd.R_drew)); exact Kd.R_mono HO175.out (fun _ hk => by first | exact hk.1 | exact hk.1.2 | exact hk.2)⟩, ⟨by (with_reducible repeat (first | apply Kd.R_alloc | apply Kd.R_drewN | apply Kd.R_drew)); exact Kd.R_mono HO179.out (fun _ hk => by first | exact hk.1 | exact hk.1.2 | exact hk.2)⟩, ⟨by repeat (first | (with_reducible first | exact HB.out | apply below_alloc | apply pw_below_drewN | apply below_drew1) | exact HB.out)⟩⟩
              · rw [if_neg c25] at H
                exact absurd H (by simp)
            · rw [if_neg c24] at H
              exact absurd H (by simp)
          · rw [if_neg c22] at H
            have c22b0 : (t163 == 0) = false := beq_eq_false_iff_ne.mpr c22
            have c22b1 : (t163 != 0) = true := bne_iff_ne.mpr c22
            (first | rw [c22b0] | (simp only [i64_w, i32_w]; rw [c22b0]) | skip)
            have H' := Aside0.mk H
            clear H
            try go_wp2
            go_quiet (fail)
            try go_wp2
            go_meet
            case rel => exact ⟨_, (true), (by first | rfl | (simp; done) | (simp [*]; done)), H', ⟨by have := HJ5.out; first | omega | exact Nat.le_refl _⟩, ⟨by (with_reducible repeat (first | apply Kd.R_alloc | apply Kd.R_drewN | apply Kd.R_drew)); exact Kd.R_mono HO175.out (fun _ hk => hk.2)⟩, ⟨by (with_reducible repeat (first | apply Kd.R_alloc | apply Kd.R_drewN | apply Kd.R_drew)); exact Kd.R_mono HO179.out (fun _ hk => hk.2)⟩, ⟨by repeat (first | (with_reducible first | exact HB.out | apply below_alloc | apply pw_below_drewN | apply below_drew1) | exact HB.out)⟩⟩
        case rest =>
          clear HC18
          try clear c1
          try clear c2
          try clear p2
          try clear hcv2
          try clear hcv3
          try clear c8
          try clear c10
          try clear c10b0
          try clear c11
          try clear c11b0
          try clear c12
          try clear c12b0
          try clear c13
          try clear c13b0
          try clear c14
          try clear c14b0
          try clear c15
          try clear c17
          try clear c19
          try clear c21
          try clear c22
          try clear c22b0
          try clear c22b1
          try clear c24
          try clear c24b0
          try clear c24b1
          try clear c25
          try clear c25b0
          try clear c25b1
          try clear hcv29
          try clear hcv30
          try clear p2
          obtain ⟨kq, x17_17, rfl, HA, HJ17, HO_13, HO_15, HB⟩ := hcut
          cases kq with
          | zero => exact absurd HA.out (by simp [turnbucklelaw04_WireAgain.j1])
          | succ kj17 =>
            have H := HA.out
            clear HA
            simp only [turnbucklelaw04_WireAgain.j1] at H
            have HC33 := Aside0.mk H
            clear H
            go_upto_region 10 with (fail)
            go_cut [18] (fun v18 wc => ∃ (kq : Nat) (x18_32 : Bool), v18 = .bool x18_32 ∧ Aside0 (turnbucklelaw04_WireAgain.j2 kq l0 t160 t168 t169 t176 t177 x17_17 x18_32 = some r) ∧ Aside0 (kq ≤ kj17) ∧ Aside0 (Kd.R (Kd.int .u8) 5 wc w.heap.size (fun _ => True) v178 t176) ∧ Aside0 (Below w.heap.size w wc))
            case first =>
              have H := HC33.out
              clear HC33
              by_cases c34 : t166 = 0
              · rw [if_pos c34] at H
                have c34b0 : (t166 == 0) = true := beq_iff_eq.mpr c34
                have c34b1 : (t166 != 0) = false := bne_eq_false_iff_eq.mpr c34
                clear c34
                (first | rw [c34b0] | (simp only [i64_w, i32_w]; rw [c34b0]) | skip)
                by_cases c35 : t173 = 0
                · rw [if_pos c35] at H
                  have c35b0 : (t173 == 0) = true := beq_iff_eq.mpr c35
                  have c35b1 : (t173 != 0) = false := bne_eq_false_iff_eq.mpr c35
                  clear c35
                  by_cases c36 : 0 ≤ t165
                  · rw [if_pos c36] at H
                    have c36b0 := eq_true c36
                    have c36b1 : decide (0 ≤ t165) = true := decide_eq_true c36
                    clear c36
                    by_cases c37 : t165 ≤ (l0.length : Int)
                    · rw [if_pos c37] at H
                      have c37b0 := eq_true c37
                      have c37b1 : decide (t165 ≤ (l0.length : Int)) = true := decide_eq_true c37
                      clear c37
                      have H' := Aside0.mk H
                      clear H
                      try go_wp2
                      obtain ⟨i039, hi039, _, hsz39, _⟩ := info_parts info5
                      obtain ⟨hcut39, hA39, hC39⟩ := print_take_of (P := Try.prog) (Value.int .u8) 0 23 5 .i64 Try.underlying23 hi039 hsz39 A0 c0 l0 t165 (of_decide_eq_true (by first | (with_reducible assumption) | assumption)) (of_decide_eq_true (by first | (with_reducible assumption) | assumption)) HC0.out
                      have HR184 := Aside0.mk (Kd.C_of_reads (h1 := fun _ => rfl) (hA39 _ (Kd.reads_of_C HR0.out)))
                      have HC184 := Aside0.mk hC39
                      clear hA39 hC39 hi039 hsz39
                      have hcv40 := own_string (P := Try.prog) Try.underlying23 Try.underlying5 Try.underlying9 (Kd.own_of_R HO_13.out)
                      have hcv41 := Kd.C_string (P := Try.prog) (A := A0) (c := c0) Try.underlying23 Try.underlying5 Try.underlying9 (Kd.C_below HR184.out HB.out)
                      have hcv40c := fun (m : Nat) => own_string (P := Try.prog) Try.underlying23 Try.underlying5 Try.underlying9 (Kd.own_of_R (Kd.R_drewN HO_13.out m))
                      have hmn := Nat.min_eq_left (show (t165 : Int).toNat ≤ l0.length by have h1 : t165 ≤ (l0.length : Int) := of_decide_eq_true (by assumption); omega)
                      have hcv41c := fun (m : Nat) => Kd.C_string (P := Try.prog) (A := A0) (c := c0) Try.underlying23 Try.underlying5 Try.underlying9 (Kd.C_drewN (Kd.C_below HR184.out HB.out) m)
                      simp only [List.length_take, hmn] at hcv41c
                      clear hmn
                      go_quiet (fail)
                      try go_wp2
                      go_meet
                      case rel => exact ⟨_, (((strOfNums t172).toList == (strOfNums (l0.take (t165 : Int).toNat)).toList)), (by first | rfl | (simp; done) | (simp [*]; done)), H', ⟨by have := HJ5.out; have := HJ17.out; first | omega | exact Nat.le_refl _⟩, ⟨by (with_reducible repeat (first | apply Kd.R_alloc | apply Kd.R_drewN | apply Kd.R_drew)); exact Kd.R_mono HO_15.out (fun _ hk => trivial)⟩, ⟨by repeat (first | (with_reducible first | exact HB.out | apply below_alloc | apply pw_below_drewN | apply below_drew1) | exact HB.out)⟩⟩
                    · rw [if_neg c37] at H
                      exact absurd H (by simp)
                  · rw [if_neg c36] at H
                    exact absurd H (by simp)
                · rw [if_neg c35] at H
                  have c35b0 : (t173 == 0) = false := beq_eq_false_iff_ne.mpr c35
                  have c35b1 : (t173 != 0) = true := bne_iff_ne.mpr c35
                  have H' := Aside0.mk H
                  clear H
                  try go_wp2
                  go_quiet (fail)
                  try go_wp2
                  go_meet
                  case rel => exact ⟨_, (false), (by first | rfl | (simp; done) | (simp [*]; done)), H', ⟨by have := HJ5.out; have := HJ17.out; first | omega | exact Nat.le_refl _⟩, ⟨by (with_reducible repeat (first | apply Kd.R_alloc | apply Kd.R_drewN | apply Kd.R_drew)); exact Kd.R_mono HO_15.out (fun _ hk => trivial)⟩, ⟨by repeat (first | (with_reducible first | exact HB.out | apply below_alloc | apply pw_below_drewN | apply below_drew1) | exact HB.out)⟩⟩
              · rw [if_neg c34] at H
                have c34b0 : (t166 == 0) = false := beq_eq_false_iff_ne.mpr c34
                have c34b1 : (t166 != 0) = true := bne_iff_ne.mpr c34
                (first | rw [c34b0] | (simp only [i64_w, i32_w]; rw [c34b0]) | skip)
                have H' := Aside0.mk H
                clear H
                try go_wp2
                go_quiet (fail)
                try go_wp2
                go_meet
                case rel => exact ⟨_, (true), (by first | rfl | (simp; done) | (simp [*]; done)), H', ⟨by have := HJ5.out; have := HJ17.out; first | omega | exact Nat.le_refl _⟩, ⟨by (with_reducible repeat (first | apply Kd.R_alloc | apply Kd.R_drewN | apply Kd.R_drew)); exact Kd.R_mono HO_15.out (fun _ hk => trivial)⟩, ⟨by repeat (first | (with_reducible first | exact HB.out | apply below_alloc | apply pw_below_drewN | apply below_drew1) | exact HB.out)⟩⟩
            case rest =>
              clear HC33
              try clear c1
              try clear c2
              try clear p2
              try clear hcv2
              try clear c3
              try clear hcv3
              try clear hcv4
              try clear c8
              try clear c10
              try clear c10b0
              try clear c11
              try clear c11b0
              try clear c12
              try clear c12b0
              try clear c13
              try clear c13b0
              try clear c14
              try clear c14b0
              try clear c15
              try clear c17
              try clear c19
              try clear c21
              try clear c22
              try clear c22b0
              try clear c22b1
              try clear c24
              try clear c24b0
              try clear c24b1
              try clear c25
              try clear c25b0
              try clear c25b1
              try clear hcv29
              try clear hcv30
              try clear c34
              try clear c34b0
              try clear c34b1
              try clear c35
              try clear c35b0
              try clear c35b1
              try clear c36
              try clear c36b0
              try clear c36b1
              try clear c37
              try clear c37b0
              try clear c37b1
              try clear hcv40
              try clear hcv41
              try clear p2
              obtain ⟨kq, x18_32, rfl, HA, HJ32, HO_15, HB⟩ := hcut
              cases kq with
              | zero => exact absurd HA.out (by simp [turnbucklelaw04_WireAgain.j2])
              | succ kj32 =>
                have H := HA.out
                clear HA
                simp only [turnbucklelaw04_WireAgain.j2] at H
                have HC45 := Aside0.mk H
                clear H
                go_upto_region 11 with (fail)
                go_cut [19] (fun v19 wc => ∃ (kq : Nat) (x19_44 : Bool), v19 = .bool x19_44 ∧ Aside0 (turnbucklelaw04_WireAgain.j3 kq t160 x17_17 x18_32 x19_44 = some r) ∧ Aside0 (kq ≤ kj32) ∧ Aside0 (Below w.heap.size w wc))
                case first =>
                  have H := HC45.out
                  clear HC45
                  by_cases c46 : t169 = 0
                  · rw [if_pos c46] at H
                    have c46b0 : (t169 == 0) = true := beq_iff_eq.mpr c46
                    have c46b1 : (t169 != 0) = false := bne_eq_false_iff_eq.mpr c46
                    clear c46
                    (first | rw [c46b0] | (simp only [i64_w, i32_w]; rw [c46b0]) | skip)
                    by_cases c47 : t177 = 0
                    · rw [if_pos c47] at H
                      have c47b0 : (t177 == 0) = true := beq_iff_eq.mpr c47
                      have c47b1 : (t177 != 0) = false := bne_eq_false_iff_eq.mpr c47
                      clear c47
                      by_cases c48 : 0 ≤ t168
                      · rw [if_pos c48] at H
                        have c48b0 := eq_true c48
                        have c48b1 : decide (0 ≤ t168) = true := decide_eq_true c48
                        clear c48
                        by_cases c49 : t168 ≤ (l0.length : Int)
                        · rw [if_pos c49] at H
                          have c49b0 := eq_true c49
                          have c49b1 : decide (t168 ≤ (l0.length : Int)) = true := decide_eq_true c49
                          clear c49
                          have H' := Aside0.mk H
                          clear H
                          try go_wp2
                          obtain ⟨i051, hi051, _, hsz51, _⟩ := info_parts info5
                          obtain ⟨hcut51, hA51, hC51⟩ := print_take_of (P := Try.prog) (Value.int .u8) 0 23 5 .i64 Try.underlying23 hi051 hsz51 A0 c0 l0 t168 (of_decide_eq_true (by first | (with_reducible assumption) | assumption)) (of_decide_eq_true (by first | (with_reducible assumption) | assumption)) HC0.out
                          have HR185 := Aside0.mk (Kd.C_of_reads (h1 := fun _ => rfl) (hA51 _ (Kd.reads_of_C HR0.out)))
                          have HC185 := Aside0.mk hC51
                          clear hA51 hC51 hi051 hsz51
                          have hcv52 := own_string (P := Try.prog) Try.underlying23 Try.underlying5 Try.underlying9 (Kd.own_of_R HO_15.out)
                          have hcv53 := Kd.C_string (P := Try.prog) (A := A0) (c := c0) Try.underlying23 Try.underlying5 Try.underlying9 (Kd.C_below HR185.out HB.out)
                          have hcv52c := fun (m : Nat) => own_string (P := Try.prog) Try.underlying23 Try.underlying5 Try.underlying9 (Kd.own_of_R (Kd.R_drewN HO_15.out m))
                          have hmn := Nat.min_eq_left (show (t168 : Int).toNat ≤ l0.length by have h1 : t168 ≤ (l0.length : Int) := of_decide_eq_true (by assumption); omega)
                          have hcv53c := fun (m : Nat) => Kd.C_string (P := Try.prog) (A := A0) (c := c0) Try.underlying23 Try.underlying5 Try.underlying9 (Kd.C_drewN (Kd.C_below HR185.out HB.out) m)
                          simp only [List.length_take, hmn] at hcv53c
                          clear hmn
                          go_quiet (fail)
                          try go_wp2
                          go_meet
                          case rel => exact ⟨_, (((strOfNums t176).toList == (strOfNums (l0.take (t168 : Int).toNat)).toList)), (by first | rfl | (simp; done) | (simp [*]; done)), H', ⟨by have := HJ5.out; have := HJ17.out; have := HJ32.out; first | omega | exact Nat.le_refl _⟩, ⟨by repeat (first | (with_reducible first | exact HB.out | apply below_alloc | apply pw_below_drewN | apply below_drew1) | exact HB.out)⟩⟩
                        · rw [if_neg c49] at H
                          exact absurd H (by simp)
                      · rw [if_neg c48] at H
                        exact absurd H (by simp)
                    · rw [if_neg c47] at H
                      have c47b0 : (t177 == 0) = false := beq_eq_false_iff_ne.mpr c47
                      have c47b1 : (t177 != 0) = true := bne_iff_ne.mpr c47
                      have H' := Aside0.mk H
                      clear H
                      try go_wp2
                      go_quiet (fail)
                      try go_wp2
                      go_meet
                      case rel => exact ⟨_, (false), (by first | rfl | (simp; done) | (simp [*]; done)), H', ⟨by have := HJ5.out; have := HJ17.out; have := HJ32.out; first | omega | exact Nat.le_refl _⟩, ⟨by repeat (first | (with_reducible first | exact HB.out | apply below_alloc | apply pw_below_drewN | apply below_drew1) | exact HB.out)⟩⟩
                  · rw [if_neg c46] at H
                    have c46b0 : (t169 == 0) = false := beq_eq_false_iff_ne.mpr c46
                    have c46b1 : (t169 != 0) = true := bne_iff_ne.mpr c46
                    (first | rw [c46b0] | (simp only [i64_w, i32_w]; rw [c46b0]) | skip)
                    have H' := Aside0.mk H
                    clear H
                    try go_wp2
                    go_quiet (fail)
                    try go_wp2
                    go_meet
                    case rel => exact ⟨_, (true), (by first | rfl | (simp; done) | (simp [*]; done)), H', ⟨by have := HJ5.out; have := HJ17.out; have := HJ32.out; first | omega | exact Nat.le_refl _⟩, ⟨by repeat (first | (with_reducible first | exact HB.out | apply below_alloc | apply pw_below_drewN | apply below_drew1) | exact HB.out)⟩⟩
                case rest =>
                  clear HC45
                  try clear c1
                  try clear c2
                  try clear p2
                  try clear hcv2
                  try clear c3
                  try clear hcv3
                  try clear c4
                  try clear hcv4
                  try clear hcv5
                  try clear c8
                  try clear c10
                  try clear c10b0
                  try clear c11
                  try clear c11b0
                  try clear c12
                  try clear c12b0
                  try clear c13
                  try clear c13b0
                  try clear c14
                  try clear c14b0
                  try clear c15
                  try clear c17
                  try clear c19
                  try clear c21
                  try clear c22
                  try clear c22b0
                  try clear c22b1
                  try clear c24
                  try clear c24b0
                  try clear c24b1
                  try clear c25
                  try clear c25b0
                  try clear c25b1
                  try clear hcv29
                  try clear hcv30
                  try clear c34
                  try clear c34b0
                  try clear c34b1
                  try clear c35
                  try clear c35b0
                  try clear c35b1
                  try clear c36
                  try clear c36b0
                  try clear c36b1
                  try clear c37
                  try clear c37b0
                  try clear c37b1
                  try clear hcv40
                  try clear hcv41
                  try clear c46
                  try clear c46b0
                  try clear c46b1
                  try clear c47
                  try clear c47b0
                  try clear c47b1
                  try clear c48
                  try clear c48b0
                  try clear c48b1
                  try clear c49
                  try clear c49b0
                  try clear c49b1
                  try clear hcv52
                  try clear hcv53
                  try clear p2
                  obtain ⟨kq, x19_44, rfl, HA, HJ44, HB⟩ := hcut
                  cases kq with
                  | zero => exact absurd HA.out (by simp [turnbucklelaw04_WireAgain.j3])
                  | succ kj44 =>
                    have H := HA.out
                    clear HA
                    simp only [turnbucklelaw04_WireAgain.j3] at H
                    have HC57 := Aside0.mk H
                    clear H
                    go_upto_region 12 with (fail)
                    go_cut [2] (fun v2 wc => ∃ (kq : Nat) (x2_56 : Bool), v2 = .bool x2_56 ∧ Aside0 (turnbucklelaw04_WireAgain.j4 kq x2_56 = some r) ∧ Aside0 (kq ≤ kj44) ∧ Aside0 (Below w.heap.size w wc))
                    case first =>
                      have H := HC57.out
                      clear HC57
                      by_cases c58 : t160 = true
                      · subst c58
                        have H1 : (if x17_17 = true then (if x18_32 = true then (turnbucklelaw04_WireAgain.j4 kj44 x19_44) else (turnbucklelaw04_WireAgain.j4 kj44 false)) else (turnbucklelaw04_WireAgain.j4 kj44 false)) = some r := by rw [if_pos rfl] at H; exact H
                        clear H
                        have H := H1
                        clear H1
                        by_cases c59 : x17_17 = true
                        · subst c59
                          have H1 : (if x18_32 = true then (turnbucklelaw04_WireAgain.j4 kj44 x19_44) else (turnbucklelaw04_WireAgain.j4 kj44 false)) = some r := by rw [if_pos rfl] at H; exact H
                          clear H
                          have H := H1
                          clear H1
                          by_cases c60 : x18_32 = true
                          · subst c60
                            have H1 : (turnbucklelaw04_WireAgain.j4 kj44 x19_44) = some r := by rw [if_pos rfl] at H; exact H
                            clear H
                            have H := H1
                            clear H1
                            have H' := Aside0.mk H
                            clear H
                            go_wp2
                            go_meet
                            case rel => exact ⟨_, (x19_44), (by first | rfl | (simp; done) | (simp [*]; done)), H', ⟨by have := HJ5.out; have := HJ17.out; have := HJ32.out; have := HJ44.out; first | omega | exact Nat.le_refl _⟩, ⟨by repeat (first | (with_reducible first | exact HB.out | apply below_alloc | apply pw_below_drewN | apply below_drew1) | exact HB.out)⟩⟩
                          · replace c60 := Bool.eq_false_iff.mpr c60
                            subst c60
                            have H1 : (turnbucklelaw04_WireAgain.j4 kj44 false) = some r := by rw [if_neg (show ¬ (false = true) by decide)] at H; exact H
                            clear H
                            have H := H1
                            clear H1
                            have H' := Aside0.mk H
                            clear H
                            go_wp2
                            go_meet
                            case rel => exact ⟨_, (false), (by first | rfl | (simp; done) | (simp [*]; done)), H', ⟨by have := HJ5.out; have := HJ17.out; have := HJ32.out; have := HJ44.out; first | omega | exact Nat.le_refl _⟩, ⟨by repeat (first | (with_reducible first | exact HB.out | apply below_alloc | apply pw_below_drewN | apply below_drew1) | exact HB.out)⟩⟩
                        · replace c59 := Bool.eq_false_iff.mpr c59
                          subst c59
                          have H1 : (turnbucklelaw04_WireAgain.j4 kj44 false) = some r := by rw [if_neg (show ¬ (false = true) by decide)] at H; exact H
                          clear H
                          have H := H1
                          clear H1
                          have H' := Aside0.mk H
                          clear H
                          go_wp2
                          go_meet
                          case rel => exact ⟨_, (false), (by first | rfl | (simp; done) | (simp [*]; done)), H', ⟨by have := HJ5.out; have := HJ17.out; have := HJ32.out; have := HJ44.out; first | omega | exact Nat.le_refl _⟩, ⟨by repeat (first | (with_reducible first | exact HB.out | apply below_alloc | apply pw_below_drewN | apply below_drew1) | exact HB.out)⟩⟩
                      · replace c58 := Bool.eq_false_iff.mpr c58
                        subst c58
                        have H1 : (turnbucklelaw04_WireAgain.j4 kj44 false) = some r := by rw [if_neg (show ¬ (false = true) by decide)] at H; exact H
                        clear H
                        have H := H1
                        clear H1
                        have H' := Aside0.mk H
                        clear H
                        go_wp2
                        go_meet
                        case rel => exact ⟨_, (false), (by first | rfl | (simp; done) | (simp [*]; done)), H', ⟨by have := HJ5.out; have := HJ17.out; have := HJ32.out; have := HJ44.out; first | omega | exact Nat.le_refl _⟩, ⟨by repeat (first | (with_reducible first | exact HB.out | apply below_alloc | apply pw_below_drewN | apply below_drew1) | exact HB.out)⟩⟩
                    case rest =>
                      clear HC57
                      try clear c1
                      try clear c2
                      try clear p2
                      try clear hcv2
                      try clear c3
                      try clear hcv3
                      try clear c4
                      try clear hcv4
                      try clear c5
                      try clear hcv5
                      try clear c6
                      try clear c8
                      try clear c10
                      try clear c10b0
                      try clear c11
                      try clear c11b0
                      try clear c12
                      try clear c12b0
                      try clear c13
                      try clear c13b0
                      try clear c14
                      try clear c14b0
                      try clear c15
                      try clear c17
                      try clear c19
                      try clear c21
                      try clear c22
                      try clear c22b0
                      try clear c22b1
                      try clear c24
                      try clear c24b0
                      try clear c24b1
                      try clear c25
                      try clear c25b0
                      try clear c25b1
                      try clear hcv29
                      try clear hcv30
                      try clear c34
                      try clear c34b0
                      try clear c34b1
                      try clear c35
                      try clear c35b0
                      try clear c35b1
                      try clear c36
                      try clear c36b0
                      try clear c36b1
                      try clear c37
                      try clear c37b0
                      try clear c37b1
                      try clear hcv40
                      try clear hcv41
                      try clear c46
                      try clear c46b0
                      try clear c46b1
                      try clear c47
                      try clear c47b0
                      try clear c47b1
                      try clear c48
                      try clear c48b0
                      try clear c48b1
                      try clear c49
                      try clear c49b0
                      try clear c49b1
                      try clear hcv52
                      try clear hcv53
                      try clear c58
                      try clear c59
                      try clear c60
                      try clear p2
                      obtain ⟨kq, x2_56, rfl, HA, HJ56, HB⟩ := hcut
                      cases kq with
                      | zero => exact absurd HA.out (by simp [turnbucklelaw04_WireAgain.j4])
                      | succ kj56 =>
                        have H := HA.out
                        clear HA
                        simp only [turnbucklelaw04_WireAgain.j4] at H
                        obtain rfl := Option.some.inj H
                        go_wp2
                        go_ret
                        exact ⟨by first | rfl | (simp [errW_none, errW_some] <;> rfl) | (simp [*, errW_none, errW_some] <;> rfl), by repeat (first | (with_reducible first | exact HB.out | apply below_alloc | apply pw_below_drewN | apply below_drew1) | exact HB.out)⟩

/-- THE ONE PURE STATEMENT of turnbucklelaw04_WireAgain: yours. -/
def turnbucklelaw04_WireAgain.Pure : Prop := ∀ (l0 : List Int), l0.length ≤ maxLen → l0.length * 1 ≤ 140737488351232 → (∀ x ∈ l0, (Lit.int .u8 x).wf = true) → ∃ k, turnbucklelaw04_WireAgain.f k l0 = some true
theorem turnbucklelaw04_WireAgain.walk (P : turnbucklelaw04_WireAgain.Pure) (a0 : Option Addr) (len0 cap0 : Nat) (z0 : List Int) (w : World) (w0 : (a0 = none ∧ len0 = 0 ∧ cap0 = 0 ∧ z0 = []) ∨ ∃ x, a0 = some x ∧ len0 ≤ cap0 ∧ cap0 ≤ maxLen ∧ z0.length = cap0 ∧ (∀ i, i < z0.length → w.cell? (x.add i) = some (.int .u8 (z0.getD i 0))) ∧ ∀ n ∈ z0, (Lit.int .u8 n).wf = true) (y0 : len0 * 1 ≤ 140737488351232) :
    Calls Try.prog 8 #[.slice a0 len0 cap0] w fun e w' => e = .returned (.bool true) ∧ Below w.heap.size w w' := by
  obtain ⟨l0, rfl, hr0, hm0, hw0, hc0⟩ := ReadsInt.ofRowC w0
  obtain ⟨k, h⟩ := P l0 hm0 y0 hw0
  refine (turnbucklelaw04_WireAgain.calls k _ _ l0 true w (Kd.C_of_reads (d := (0 : Int)) (h1 := fun _ => rfl) hr0) hc0 h).mono ?_
  rintro e w' ⟨rfl, hd⟩
  exact ⟨rfl, hd⟩

end Go.Proofs.Ytmghjpdchngedaa.PWireAgain
