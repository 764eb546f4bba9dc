/- the example at each statement's head; a Grace that is nil -/
import Derived.Test.YtddheambeefhpaaGr
namespace Go.Proofs.Ytddheambeefhpaa.Gr
open Go.RowKit Go.Proofs.Ytddheambeefhpaa.Own
set_option linter.unusedVariables false
set_option linter.unusedSimpArgs false

set_option maxRecDepth 100000 in
set_option maxHeartbeats 1000000 in
theorem shown_calls (w : World) : Calls Try.prog 8 #[] w fun e w' => e = .returned (.bool true) ∧ Below w.heap.size w w' := by
  go_enter Try.func8, Try.ntmps8
  go_wp2_with fail
  refine (new_calls w.heap.size w (Nat.le_refl _)).mono ?_
  rintro e w1 ⟨rfl, hg, hf⟩
  have G1 := hide hg; have F1 := hide (hf.mono (T := gT) (fun _ h => by cases h)); clear hg hf
  go_wp2_with fail
  refine (enter_ok 1 w1 (unhide G1) (by omega) (by omega) rfl (by omega) (by omega)).mono ?_
  rintro e w2 ⟨rfl, hg, hf⟩
  have G2 := hide hg; have F2 := hide ((unhide F1).trans hf (fun _ h => h)); clear hg hf
  go_wp2_with fail
  refine (defer_ok 7 w2 (unhide G2) (by simp) (unhide F2).size).mono ?_
  rintro e w3 ⟨rfl, hg, hf⟩
  have G3 := hide hg; have F3 := hide ((unhide F2).trans hf (fun _ h => h)); clear hg hf
  go_wp2_with fail
  refine (leave_ok 1 w3 (unhide G3) (by omega) (by omega) (by decide)).mono ?_
  rintro e w4 ⟨rfl, hg, hf⟩
  have G4 := hide hg; have F4 := hide ((unhide F3).trans hf (fun _ h => h)); clear hg hf
  go_wp2_with fail
  refine (enter_ok 1 w4 (unhide G4) (by omega) (by omega) (by decide) (by omega) (by omega)).mono ?_
  rintro e w5 ⟨rfl, hg, hf⟩
  have G5 := hide hg; have F5 := hide ((unhide F4).trans hf (fun _ h => h)); clear hg hf
  go_wp2_with fail
  refine (defer_ok 8 w5 (unhide G5) (by simp) (unhide F5).size).mono ?_
  rintro e w6 ⟨rfl, hg, hf⟩
  have G6 := hide hg; have F6 := hide ((unhide F5).trans hf (fun _ h => h)); clear hg hf
  go_wp2_with fail
  refine (tick_calls w6 (unhide G6) (by simp) (unhide F6).size).mono ?_
  rintro e w7 ⟨va, rfl, ho, hg, hf⟩
  have oa : w7.ownsRow w6.heap.size 3 1 va 1 [.int .i64 7] := ho
  have G7 := hide hg; have F7 := hide ((unhide F6).trans hf (fun _ h => h)); have OA := hide oa; clear hg hf ho oa
  go_wp2_with fail
  refine (leave_ok 1 w7 (unhide G7) (by omega) (by omega) (by decide)).mono ?_
  rintro e w8 ⟨rfl, hg, hf⟩
  have OA8 := hide (own_tfr (unhide OA) hf (by decide)); have G8 := hide hg; have F8 := hide ((unhide F7).trans hf (fun _ h => h)); clear hg hf
  go_wp2_with fail
  refine (tick_calls w8 (unhide G8) (Nat.le_trans (List.length_filter_le _ _) (by simp)) (unhide F8).size).mono ?_
  rintro e w9 ⟨vb, rfl, ho, hg, hf⟩
  have ob : w9.ownsRow w8.heap.size 3 1 vb 1 [.int .i64 8] := ho
  have oa := own_tfr (unhide OA8) hf (by decide)
  have F9 := hide ((unhide F8).trans hf (fun _ h => h)); clear hg hf ho
  obtain ⟨ga, ca, rfl, _, ha⟩ := own_shape oa (by omega)
  obtain ⟨gb, cb, rfl, _, hb⟩ := own_shape ob (by omega)
  have ha0 : w9.cell? ⟨ga, 0, none⟩ = some (.int .i64 7) := ha 0 (by omega)
  have hb0 : w9.cell? ⟨gb, 0, none⟩ = some (.int .i64 8) := hb 0 (by omega)
  clear oa ob ha hb
  go_wp2
  go_ret
  exact ⟨rfl, (unhide F9).below (Nat.le_refl _)⟩

set_option maxRecDepth 100000 in
set_option maxHeartbeats 1000000 in
theorem nobody_calls (who : Int) (w : World) : Calls Try.prog 7 #[.int .i64 who] w fun e w' => e = .returned (.bool true) ∧ Below w.heap.size w w' := by
  go_enter Try.func7, Try.ntmps7
  go_wp2_with fail
  refine (shown_calls w).mono ?_
  rintro e w1 ⟨rfl, hb⟩
  have HB := hide hb; clear hb
  go_wp2_with (first
    | (go_at_call 10; refine (enter_nil _ _).mono ?_; rintro e w' ⟨rfl, rfl⟩)
    | (go_at_call 11; refine (leave_nil _ _).mono ?_; rintro e w' ⟨rfl, rfl⟩)
    | (go_at_call 12; refine (open_nil _ _).mono ?_; rintro e w' ⟨rfl, rfl⟩)
    | (go_at_call 14; refine (defer_nil _ _).mono ?_; rintro e w' ⟨rfl, rfl⟩)
    | (go_at_call 13; refine (tick_nil _).mono ?_; rintro e w' ⟨rfl, rfl⟩)
    | (go_at_call 15; refine (waiting_nil _).mono ?_; rintro e w' ⟨rfl, rfl⟩))
  go_ret
  exact ⟨rfl, unhide HB⟩
theorem nobody_row (who : Int) (W : World) (h : (Lit.int .i64 who).wf = true) : Calls Try.prog 7 #[.int .i64 who] W fun e W' => e = .returned (.bool true) ∧ Below W.heap.size W W' := nobody_calls who W
end Go.Proofs.Ytddheambeefhpaa.Gr
