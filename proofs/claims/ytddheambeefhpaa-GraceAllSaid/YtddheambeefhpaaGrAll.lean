/- GraceAll: the walk of its text: when all sections are over, one Tick tells all that wait -/
import Derived.Test.YtddheambeefhpaaGrShown
namespace Go.Proofs.Ytddheambeefhpaa.Gr
open Go.RowKit Go.Proofs.Ytddheambeefhpaa.Own
set_option linter.unusedVariables false
set_option linter.unusedSimpArgs false

def bitB (a : Int) (k : Nat) : Bool := bits .and .u8 (a / 2 ^ k) 1 == 1
theorem bit_some : ∀ a : Fin 256, a.val = 0 ∨ ∃ k : Fin 8, bitB (a.val : Int) k.val = true := by decide +kernel
/-- Just the ones below k whose bit is set have a section open. -/
def OsIs (a : Int) (k : Nat) (os : Nat → Int) : Prop := ∀ i, i < 8 → (i < k ∧ bitB a i = true ↔ os i ≠ 0)
theorem OsIs.some {a : Int} {os : Nat → Int} (h : OsIs a 8 os) (h0 : 0 ≤ a ∧ a < 256) (hne : a ≠ 0) : overB os os = false := by
  obtain ⟨n, rfl⟩ := Int.eq_ofNat_of_zero_le h0.1
  rcases bit_some ⟨n, by omega⟩ with h1 | ⟨k, hk⟩
  · exact absurd (by simpa using h1) hne
  · refine Bool.eq_false_iff.2 fun hov => ?_
    have h2 := (overB_upto os os).1 hov k.val k.isLt
    have h3 := (h k.val k.isLt).1 ⟨k.isLt, hk⟩
    rcases h2 with h2 | h2
    · exact h3 h2
    · exact h2 rfl
def waits (os : Nat → Int) (n : Nat) : List Item := (List.range n).map fun j : Nat => ((j : Int), os)
theorem waits_len (os : Nat → Int) (n : Nat) : (waits os n).length = n := by simp [waits]
theorem waits_succ (os : Nat → Int) (n : Nat) : waits os (n + 1) = waits os n ++ [((n : Int), os)] := by simp [waits, List.range_succ]
theorem told_waits (os sf : Nat → Int) (n : Nat) (h : overB os sf = true) : told os (waits sf n) = (List.range n).map fun j : Nat => (j : Int) := by
  unfold told waits
  rw [List.filter_map]
  have : List.filter ((fun x : Item => overB os x.2) ∘ fun j : Nat => ((j : Int), sf)) (List.range n) = List.range n := List.filter_eq_self.2 fun j _ => h
  rw [this, List.map_map]
  rfl
theorem kept_waits_over (os sf : Nat → Int) (n : Nat) (h : overB os sf = true) : kept os (waits sf n) = [] := by
  unfold kept waits
  rw [List.filter_map]
  have : List.filter ((fun x : Item => !overB os x.2) ∘ fun j : Nat => ((j : Int), sf)) (List.range n) = [] := List.filter_eq_nil_iff.2 fun j _ => by simp [h]
  rw [this]; rfl
theorem told_waits_no (os sf : Nat → Int) (n : Nat) (h : overB os sf = false) : told os (waits sf n) = [] := by
  unfold told waits
  rw [List.filter_map]
  have : List.filter ((fun x : Item => overB os x.2) ∘ fun j : Nat => ((j : Int), sf)) (List.range n) = [] := List.filter_eq_nil_iff.2 fun j _ => by simp [h]
  rw [this]; rfl
theorem kept_waits_no (os sf : Nat → Int) (n : Nat) (h : overB os sf = false) : kept os (waits sf n) = waits sf n := by
  unfold kept
  exact List.filter_eq_self.2 fun x hx => by
    obtain ⟨j, _, rfl⟩ := List.mem_map.1 hx
    simp [h]

/-- When all sections are over: what waits is told in order, and nothing waits. -/
def AllPost (w : World) (e : Ending) (w' : World) : Prop := e = .returned (.bool true) ∧ Below w.heap.size w w'
set_option maxRecDepth 100000 in
set_option maxHeartbeats 4000000 in
theorem all_pos (a0 : Int) (many : Nat) (w : World) (h0 : 0 ≤ a0 ∧ a0 < 256) (hp : 0 < many) (hm : (many : Int) < 256) : Calls Try.prog 4 #[.int .u8 a0, .int .u8 (many : Int)] w (AllPost w) := by
  go_enter Try.func4, Try.ntmps4
  go_wp2_with fail
  refine (shown_calls w).mono ?_
  rintro e w1 ⟨rfl, hb⟩
  have F1 := hide (TFr.of_below (B := w.heap.size) (T := gT) hb); clear hb
  go_wp2_with fail
  refine (new_calls w.heap.size w1 (unhide F1).size).mono ?_
  rintro e w2 ⟨rfl, hg, hf⟩
  have G2 := hide hg; have F2 := hide ((unhide F1).trans hf (fun _ h => by cases h)); clear hg hf
  generalize w1.heap.size = b at *
  go_wp2_with fail
  go_loopw [7] (fun x wr => ∃ k : Nat, k ≤ 8 ∧ x = .int .i64 k ∧ Hid (∃ os last, GRep w.heap.size wr b os last [] ∧ 0 ≤ last ∧ last ≤ k ∧ OsIs a0 k os) ∧ Hid (TFr w.heap.size gT w wr)) (fun x _ => 8 - (intOf x).toNat)
  case atStart => exact ⟨0, by omega, rfl, ⟨_, _, unhide G2, by omega, by omega, fun i _ => ⟨fun h => absurd h.1 (by omega), fun h => absurd rfl h⟩⟩, F2⟩
  case round =>
    obtain ⟨k, hk, rfl, HG, HF⟩ := hrel
    by_cases hlt : k < 8
    · obtain ⟨os, last, hg, hl0, hlk, hos⟩ := HG.out
      have G3 := hide hg; have OS := hide hos; clear hg hos
      by_cases hbit : bitB a0 k = true
      · have hb1 : (bits .and .u8 (a0 / 2 ^ k) 1 == 1) = true := hbit
        have HBIT := hide hbit; clear hbit
        have hz : os k = 0 := Classical.byContradiction fun h => absurd ((unhide OS k hlt).2 h).1 (by omega)
        have HZ := hide hz; clear hz
        go_wp2_with fail
        refine (enter_ok k wr (unhide G3) (by omega) (by omega) (by rw [Int.toNat_natCast]; exact HZ.out) hl0 (by omega)).mono ?_
        rintro e w4 ⟨rfl, hg, hf⟩
        have G4 := hide hg; have F4 := hide ((unhide HF).trans hf (fun _ h => h)); clear hg hf hb1
        go_wp2
        go_roundw
        case rel =>
          refine ⟨k + 1, by omega, by go_num, ⟨_, _, unhide G4, by omega, by omega, fun i hi => ?_⟩, F4⟩
          show _ ↔ (if i = (k : Int).toNat then last + 1 else os i) ≠ 0
          rw [Int.toNat_natCast]
          by_cases e : i = k
          · subst e; rw [if_pos rfl]; exact ⟨fun _ => by omega, fun _ => ⟨by omega, HBIT.out⟩⟩
          · rw [if_neg e]
            have := unhide OS i hi
            constructor
            · intro h; exact this.1 ⟨by omega, h.2⟩
            · intro h; have h' := this.2 h; exact ⟨by omega, h'.2⟩
        case measure => simp [intOf]; omega
      · have hb1 : (bits .and .u8 (a0 / 2 ^ k) 1 == 1) = false := Bool.eq_false_iff.2 hbit
        have HBIT := hide hbit; clear hbit
        go_wp2
        go_roundw
        case rel =>
          refine ⟨k + 1, by omega, by go_num, ⟨_, _, unhide G3, by omega, by omega, fun i hi => ?_⟩, HF⟩
          have := unhide OS i hi
          constructor
          · intro h
            by_cases e : i = k
            · subst e; exact absurd h.2 HBIT.out
            · exact this.1 ⟨by omega, h.2⟩
          · intro h; have h' := this.2 h; exact ⟨by omega, h'.2⟩
        case measure => simp [intOf]; omega
    · have h8 : k = 8 := by omega
      obtain ⟨os, last, hg, hl0, hlk, hos⟩ := HG.out
      rw [h8] at hos
      clear h8
      have G3 := hide hg; have OS := hide hos; clear hg hos HG
      go_wp2_with fail
      go_loopw [8] (fun x wr => ∃ k : Nat, k ≤ many ∧ x = .int .i64 k ∧ Hid (GRep w.heap.size wr b os last (waits os k)) ∧ Hid (TFr w.heap.size gT w wr)) (fun x _ => many - (intOf x).toNat)
      case atStart => exact ⟨0, by omega, rfl, G3, HF⟩
      case round =>
        obtain ⟨k, hk, rfl, HG, HF2⟩ := hrel
        by_cases hlt : k < many
        · go_wp2_with fail
          refine (defer_ok k _ (unhide HG) (by rw [waits_len]; omega) (unhide HF2).size).mono ?_
          rintro e w4 ⟨rfl, hg, hf⟩
          have G4 := hide hg; have F4 := hide ((unhide HF2).trans hf (fun _ h => h)); clear hg hf
          go_wp2
          go_roundw
          case rel => exact ⟨k + 1, by omega, by go_num, by rw [waits_succ]; exact G4, F4⟩
          case measure => simp [intOf]; omega
        · obtain rfl : many = k := by omega
          rcases Classical.em (a0 = 0) with hz | hz
          have hb1 : (a0 != 0) = false := bne_eq_false_iff_eq.2 hz
          clear hz
          have G5 := HG; have F5 := HF2
          go_wp2_with fail
          rotate_left
          have hb1 : (a0 != 0) = true := bne_iff_ne.2 hz
          have hno := (unhide OS).some h0 hz
          have HNO := hide hno
          clear hz hno
          go_wp2_with fail
          refine (tick_calls _ (unhide HG) (by rw [waits_len]; omega) (unhide HF2).size).mono ?_
          rintro e w5 ⟨va, rfl, ho, hg, hf⟩
          rw [kept_waits_no _ _ _ HNO.out] at hg
          rw [told_waits_no _ _ _ HNO.out] at ho
          obtain ⟨A, c, rfl⟩ := own_slice ho
          have G5 := hide hg; have F5 := hide ((unhide HF2).trans hf (fun _ h => h)); clear hg hf ho
          go_wp2_with fail
          rotate_left
          all_goals
            clear HF2 HG HF G3 G2 F2 F1 hb1
            try clear HNO
            go_loopw [9] (fun x wr => ∃ k : Nat, k ≤ 8 ∧ x = .int .i64 k ∧ Hid (∃ os', GRep w.heap.size wr b os' last (waits os many) ∧ ∀ i, i < 8 → (i < k → os' i = 0) ∧ (k ≤ i → os' i = os i)) ∧ Hid (TFr w.heap.size gT w wr)) (fun x _ => 8 - (intOf x).toNat)
            case atStart => exact ⟨0, by omega, rfl, ⟨os, unhide G5, fun i hi => ⟨fun h => absurd h (by omega), fun _ => rfl⟩⟩, F5⟩
            case round =>
              clear G5 F5
              obtain ⟨k, hk, rfl, HG, HF⟩ := hrel
              obtain ⟨os', hg, hos'⟩ := HG.out
              have G6 := hide hg; have OS' := hide hos'; clear hg hos' HG
              by_cases hlt : k < 8
              · by_cases hbit : bitB a0 k = true
                · have hb1 : (bits .and .u8 (a0 / 2 ^ k) 1 == 1) = true := hbit
                  have hz : os' k ≠ 0 := by rw [(unhide OS' k hlt).2 (Nat.le_refl _)]; exact (unhide OS k hlt).1 ⟨hlt, hbit⟩
                  have HZ := hide hz; clear hz hbit
                  go_wp2_with fail
                  refine (leave_ok k _ (unhide G6) (by omega) (by omega) (by rw [Int.toNat_natCast]; exact HZ.out)).mono ?_
                  rintro e w6 ⟨rfl, hg, hf⟩
                  have G7 := hide hg; have F7 := hide ((unhide HF).trans hf (fun _ h => h)); clear hg hf hb1
                  go_wp2
                  go_roundw
                  case rel =>
                    refine ⟨k + 1, by omega, by go_num, ⟨_, unhide G7, fun i hi => ?_⟩, F7⟩
                    show (_ → (if i = (k : Int).toNat then 0 else os' i) = 0) ∧ (_ → (if i = (k : Int).toNat then 0 else os' i) = os i)
                    rw [Int.toNat_natCast]
                    have := unhide OS' i hi
                    by_cases e : i = k
                    · subst e; rw [if_pos rfl]; exact ⟨fun _ => rfl, fun h => absurd h (by omega)⟩
                    · rw [if_neg e]; exact ⟨fun h => this.1 (by omega), fun h => this.2 (by omega)⟩
                  case measure => simp [intOf]; omega
                · have hb1 : (bits .and .u8 (a0 / 2 ^ k) 1 == 1) = false := Bool.eq_false_iff.2 hbit
                  have hz : os' k = 0 := by rw [(unhide OS' k hlt).2 (Nat.le_refl _)]; exact Classical.byContradiction fun h => hbit ((unhide OS k hlt).2 h).2
                  have HZ := hide hz; clear hz hbit
                  go_wp2
                  go_roundw
                  case rel =>
                    refine ⟨k + 1, by omega, by go_num, ⟨_, unhide G6, fun i hi => ?_⟩, HF⟩
                    have := unhide OS' i hi
                    by_cases e : i = k
                    · subst e; exact ⟨fun _ => HZ.out, fun h => absurd h (by omega)⟩
                    · exact ⟨fun h => this.1 (by omega), fun h => this.2 (by omega)⟩
                  case measure => simp [intOf]; omega
              · have hov : overB os' os = true := (overB_upto os' os).2 fun i hi => by
                  have h1 := (unhide OS' i hi).1 (by omega)
                  by_cases h2 : os i = 0
                  · exact .inl h2
                  · exact .inr (by rw [h1]; exact fun h => h2 h.symm)
                have HOV := hide hov; clear hov
                have hwl := waits_len os many
                have HWL := hide hwl; clear hwl
                go_wp2_with (go_at_call 15; refine (waiting_at _ (unhide G6)).mono ?_; rintro e w' ⟨rfl, rfl⟩; rw [HWL.out])
                refine (tick_calls _ (unhide G6) (by rw [waits_len]; omega) (unhide HF).size).mono ?_
                rintro e w7 ⟨vl, rfl, ho, hg, hf⟩
                rw [kept_waits_over _ _ _ HOV.out] at hg
                rw [told_waits _ _ _ HOV.out] at ho
                have hl : (List.map (fun j : Nat => (j : Int)) (List.range many)).length = many := by simp
                rw [hl] at ho
                obtain ⟨A, c, rfl⟩ := own_slice ho
                have G7 := hide hg; have F7 := hide ((unhide HF).trans hf (fun _ h => h)); have O7 := hide ho; clear hg hf ho hl
                go_wp2_with fail
                go_loop [11] (fun x => ∃ k : Nat, k ≤ many ∧ x = .int .i64 k) (fun x => many - (intOf x).toNat)
                case atStart => exact ⟨0, by omega, rfl⟩
                case round =>
                  obtain ⟨j, hj, rfl⟩ := hrel
                  by_cases hlt2 : j < many
                  · obtain ⟨gl, cl, he, _, hcl⟩ := own_shape (unhide O7) (by omega)
                    simp only [Value.slice.injEq, true_and] at he
                    obtain ⟨rfl, rfl⟩ := he
                    have hcj := hcl j hlt2
                    have hcj2 : w7.cell? ⟨gl, j, none⟩ = some (.int .i64 (j : Int)) := by rw [hcj]; simp [hlt2]
                    clear hcl hcj
                    go_wp2
                    go_round
                    case rel => exact ⟨j + 1, by omega, by go_num⟩
                    case measure => simp [intOf]; omega
                  · obtain rfl : many = j := by omega
                    go_wp2_with (first
                      | (go_at_call 15; refine (waiting_at _ (unhide G7)).mono ?_; rintro e w' ⟨rfl, rfl⟩)
                      | (go_at_call 13; refine (tick_calls _ (unhide G7) (by simp) (unhide F7).size).mono ?_; rintro e w8 ⟨vm, rfl, ho, hg, hf⟩; obtain ⟨A2, c2, rfl⟩ := own_slice ho; have F8 := hide ((unhide F7).trans hf (fun _ h => h)); clear hg hf ho))
                    go_ret
                    exact ⟨rfl, (unhide F8).below (Nat.le_refl _)⟩
set_option maxRecDepth 100000 in
set_option maxHeartbeats 4000000 in
theorem all_zero (a0 : Int) (w : World) (h0 : 0 ≤ a0 ∧ a0 < 256) : Calls Try.prog 4 #[.int .u8 a0, .int .u8 0] w (AllPost w) := by
  go_enter Try.func4, Try.ntmps4
  go_wp2_with fail
  refine (shown_calls w).mono ?_
  rintro e w1 ⟨rfl, hb⟩
  have F1 := hide (TFr.of_below (B := w.heap.size) (T := gT) hb); clear hb
  go_wp2_with fail
  refine (new_calls w.heap.size w1 (unhide F1).size).mono ?_
  rintro e w2 ⟨rfl, hg, hf⟩
  have G2 := hide hg; have F2 := hide ((unhide F1).trans hf (fun _ h => by cases h)); clear hg hf
  generalize w1.heap.size = b at *
  go_wp2_with fail
  go_loopw [7] (fun x wr => ∃ k : Nat, k ≤ 8 ∧ x = .int .i64 k ∧ Hid (∃ os last, GRep w.heap.size wr b os last [] ∧ 0 ≤ last ∧ last ≤ k ∧ OsIs a0 k os) ∧ Hid (TFr w.heap.size gT w wr)) (fun x _ => 8 - (intOf x).toNat)
  case atStart => exact ⟨0, by omega, rfl, ⟨_, _, unhide G2, by omega, by omega, fun i _ => ⟨fun h => absurd h.1 (by omega), fun h => absurd rfl h⟩⟩, F2⟩
  case round =>
    obtain ⟨k, hk, rfl, HG, HF⟩ := hrel
    by_cases hlt : k < 8
    · obtain ⟨os, last, hg, hl0, hlk, hos⟩ := HG.out
      have G3 := hide hg; have OS := hide hos; clear hg hos
      by_cases hbit : bitB a0 k = true
      · have hb1 : (bits .and .u8 (a0 / 2 ^ k) 1 == 1) = true := hbit
        have HBIT := hide hbit; clear hbit
        have hz : os k = 0 := Classical.byContradiction fun h => absurd ((unhide OS k hlt).2 h).1 (by omega)
        have HZ := hide hz; clear hz
        go_wp2_with fail
        refine (enter_ok k wr (unhide G3) (by omega) (by omega) (by rw [Int.toNat_natCast]; exact HZ.out) hl0 (by omega)).mono ?_
        rintro e w4 ⟨rfl, hg, hf⟩
        have G4 := hide hg; have F4 := hide ((unhide HF).trans hf (fun _ h => h)); clear hg hf hb1
        go_wp2
        go_roundw
        case rel =>
          refine ⟨k + 1, by omega, by go_num, ⟨_, _, unhide G4, by omega, by omega, fun i hi => ?_⟩, F4⟩
          show _ ↔ (if i = (k : Int).toNat then last + 1 else os i) ≠ 0
          rw [Int.toNat_natCast]
          by_cases e : i = k
          · subst e; rw [if_pos rfl]; exact ⟨fun _ => by omega, fun _ => ⟨by omega, HBIT.out⟩⟩
          · rw [if_neg e]
            have := unhide OS i hi
            constructor
            · intro h; exact this.1 ⟨by omega, h.2⟩
            · intro h; have h' := this.2 h; exact ⟨by omega, h'.2⟩
        case measure => simp [intOf]; omega
      · have hb1 : (bits .and .u8 (a0 / 2 ^ k) 1 == 1) = false := Bool.eq_false_iff.2 hbit
        have HBIT := hide hbit; clear hbit
        go_wp2
        go_roundw
        case rel =>
          refine ⟨k + 1, by omega, by go_num, ⟨_, _, unhide G3, by omega, by omega, fun i hi => ?_⟩, HF⟩
          have := unhide OS i hi
          constructor
          · intro h
            by_cases e : i = k
            · subst e; exact absurd h.2 HBIT.out
            · exact this.1 ⟨by omega, h.2⟩
          · intro h; have h' := this.2 h; exact ⟨by omega, h'.2⟩
        case measure => simp [intOf]; omega
    · have h8 : k = 8 := by omega
      obtain ⟨os, last, hg, hl0, hlk, hos⟩ := HG.out
      rw [h8] at hos
      clear h8
      have G3 := hide hg; have OS := hide hos; clear hg hos HG
      go_wp2_with fail
      go_loopw [8] (fun x wr => x = .int .i64 0 ∧ Hid (GRep w.heap.size wr b os last (waits os 0)) ∧ Hid (TFr w.heap.size gT w wr)) (fun x _ => 0)
      case atStart => exact ⟨rfl, G3, HF⟩
      case round =>
        obtain ⟨rfl, HG, HF2⟩ := hrel
        rcases Classical.em (a0 = 0) with hz | hz
        have hb1 : (a0 != 0) = false := bne_eq_false_iff_eq.2 hz
        clear hz
        have G5 := HG; have F5 := HF2
        go_wp2_with fail
        rotate_left
        have hb1 : (a0 != 0) = true := bne_iff_ne.2 hz
        clear hz
        have G5 := HG; have F5 := HF2
        go_wp2_with fail
        rotate_left
        all_goals
          clear HF2 HG HF G3 G2 F2 F1 hb1
          go_loopw [9] (fun x wr => ∃ k : Nat, k ≤ 8 ∧ x = .int .i64 k ∧ Hid (∃ os', GRep w.heap.size wr b os' last (waits os 0) ∧ ∀ i, i < 8 → (i < k → os' i = 0) ∧ (k ≤ i → os' i = os i)) ∧ Hid (TFr w.heap.size gT w wr)) (fun x _ => 8 - (intOf x).toNat)
          case atStart => exact ⟨0, by omega, rfl, ⟨os, unhide G5, fun i hi => ⟨fun h => absurd h (by omega), fun _ => rfl⟩⟩, F5⟩
          case round =>
            clear G5 F5
            obtain ⟨k, hk, rfl, HG, HF⟩ := hrel
            obtain ⟨os', hg, hos'⟩ := HG.out
            have G6 := hide hg; have OS' := hide hos'; clear hg hos' HG
            by_cases hlt : k < 8
            · by_cases hbit : bitB a0 k = true
              · have hb1 : (bits .and .u8 (a0 / 2 ^ k) 1 == 1) = true := hbit
                have hz : os' k ≠ 0 := by rw [(unhide OS' k hlt).2 (Nat.le_refl _)]; exact (unhide OS k hlt).1 ⟨hlt, hbit⟩
                have HZ := hide hz; clear hz hbit
                go_wp2_with fail
                refine (leave_ok k _ (unhide G6) (by omega) (by omega) (by rw [Int.toNat_natCast]; exact HZ.out)).mono ?_
                rintro e w6 ⟨rfl, hg, hf⟩
                have G7 := hide hg; have F7 := hide ((unhide HF).trans hf (fun _ h => h)); clear hg hf hb1
                go_wp2
                go_roundw
                case rel =>
                  refine ⟨k + 1, by omega, by go_num, ⟨_, unhide G7, fun i hi => ?_⟩, F7⟩
                  show (_ → (if i = (k : Int).toNat then 0 else os' i) = 0) ∧ (_ → (if i = (k : Int).toNat then 0 else os' i) = os i)
                  rw [Int.toNat_natCast]
                  have := unhide OS' i hi
                  by_cases e : i = k
                  · subst e; rw [if_pos rfl]; exact ⟨fun _ => rfl, fun h => absurd h (by omega)⟩
                  · rw [if_neg e]; exact ⟨fun h => this.1 (by omega), fun h => this.2 (by omega)⟩
                case measure => simp [intOf]; omega
              · have hb1 : (bits .and .u8 (a0 / 2 ^ k) 1 == 1) = false := Bool.eq_false_iff.2 hbit
                have hz : os' k = 0 := by rw [(unhide OS' k hlt).2 (Nat.le_refl _)]; exact Classical.byContradiction fun h => hbit ((unhide OS k hlt).2 h).2
                have HZ := hide hz; clear hz hbit
                go_wp2
                go_roundw
                case rel =>
                  refine ⟨k + 1, by omega, by go_num, ⟨_, unhide G6, fun i hi => ?_⟩, HF⟩
                  have := unhide OS' i hi
                  by_cases e : i = k
                  · subst e; exact ⟨fun _ => HZ.out, fun h => absurd h (by omega)⟩
                  · exact ⟨fun h => this.1 (by omega), fun h => this.2 (by omega)⟩
                case measure => simp [intOf]; omega
            · have hov : overB os' os = true := (overB_upto os' os).2 fun i hi => by
                have h1 := (unhide OS' i hi).1 (by omega)
                by_cases h2 : os i = 0
                · exact .inl h2
                · exact .inr (by rw [h1]; exact fun h => h2 h.symm)
              have HOV := hide hov; clear hov
              have hwl := waits_len os 0
              have HWL := hide hwl; clear hwl
              go_wp2_with (go_at_call 15; refine (waiting_at _ (unhide G6)).mono ?_; rintro e w' ⟨rfl, rfl⟩; rw [HWL.out])
              refine (tick_calls _ (unhide G6) (by rw [waits_len]; omega) (unhide HF).size).mono ?_
              rintro e w7 ⟨vl, rfl, ho, hg, hf⟩
              rw [kept_waits_over _ _ _ HOV.out] at hg
              rw [told_waits _ _ _ HOV.out] at ho
              have hl : (List.map (fun j : Nat => (j : Int)) (List.range 0)).length = 0 := by simp
              rw [hl] at ho
              obtain ⟨A, c, rfl⟩ := own_slice ho
              have G7 := hide hg; have F7 := hide ((unhide HF).trans hf (fun _ h => h)); have O7 := hide ho; clear hg hf ho hl
              go_wp2_with fail
              go_loop [11] (fun x => x = .int .i64 0) (fun x => 0)
              case atStart => exact rfl
              case round =>
                obtain rfl := hrel
                go_wp2_with (first
                  | (go_at_call 15; refine (waiting_at _ (unhide G7)).mono ?_; rintro e w' ⟨rfl, rfl⟩)
                  | (go_at_call 13; refine (tick_calls _ (unhide G7) (by simp) (unhide F7).size).mono ?_; rintro e w8 ⟨vm, rfl, ho, hg, hf⟩; obtain ⟨A2, c2, rfl⟩ := own_slice ho; have F8 := hide ((unhide F7).trans hf (fun _ h => h)); clear hg hf ho))
                go_ret
                exact ⟨rfl, (unhide F8).below (Nat.le_refl _)⟩
theorem all_row (a0 a1 : Int) (W : World) (w0 : (Lit.int .u8 a0).wf = true) (w1 : (Lit.int .u8 a1).wf = true) : Calls Try.prog 4 #[.int .u8 a0, .int .u8 a1] W fun e W' => e = .returned (.bool true) ∧ Below W.heap.size W W' := by
  have m0 : IntKind.u8.min = 0 := by decide
  have m1 : IntKind.u8.max = 255 := by decide
  simp only [Lit.wf, m0, m1, Bool.and_eq_true, decide_eq_true_eq] at w0 w1
  obtain ⟨many, rfl⟩ := Int.eq_ofNat_of_zero_le w1.1
  rcases Nat.eq_zero_or_pos many with rfl | hp
  · exact all_zero a0 W (by omega)
  · exact all_pos a0 many W (by omega) hp (by omega)
end Go.Proofs.Ytddheambeefhpaa.Gr
