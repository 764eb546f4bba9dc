/- GraceSafe: the walk of its text: what was put aside is told with the first Tick behind the end of all sections that were open then, and not ahead -/
import Derived.Test.YtddheambeefhpaaGrMore
import Derived.Test.YtddheambeefhpaaRowKit
namespace Go.Proofs.Ytddheambeefhpaa.Gr
open Go.RowKit Go.Proofs.Ytddheambeefhpaa.Own
set_option linter.unusedVariables false
set_option linter.unusedSimpArgs false

/-- How many of the eight wait. -/
def cnt (wt : Nat → Bool) : Nat := (wt 0).toNat + (wt 1).toNat + (wt 2).toNat + (wt 3).toNat + (wt 4).toNat + (wt 5).toNat + (wt 6).toNat + (wt 7).toNat
theorem cnt_zero (wt : Nat → Bool) : cnt wt = 0 ↔ ∀ j, j < 8 → wt j = false := by
  constructor
  · intro h j hj
    unfold cnt at h
    have hb : ∀ b : Bool, b.toNat = 0 → b = false := by decide
    match j, hj with
    | 0, _ => exact hb _ (by omega)
    | 1, _ => exact hb _ (by omega)
    | 2, _ => exact hb _ (by omega)
    | 3, _ => exact hb _ (by omega)
    | 4, _ => exact hb _ (by omega)
    | 5, _ => exact hb _ (by omega)
    | 6, _ => exact hb _ (by omega)
    | 7, _ => exact hb _ (by omega)
  · intro h
    unfold cnt
    simp [h 0, h 1, h 2, h 3, h 4, h 5, h 6, h 7]
theorem cnt_off (wt : Nat → Bool) (n : Nat) (hn : n < 8) (h : wt n = true) : cnt (fun i => if i = n then false else wt i) + 1 = cnt wt := by
  unfold cnt
  match n, hn with
  | 0, _ | 1, _ | 2, _ | 3, _ | 4, _ | 5, _ | 6, _ | 7, _ => simp [h] <;> omega
theorem cnt_next (p : Nat → Bool) (n : Nat) (hn : n < 8) : cnt (fun i => decide (i < n + 1) && p i) = cnt (fun i => decide (i < n) && p i) + (p n).toNat := by
  unfold cnt
  match n, hn with
  | 0, _ | 1, _ | 2, _ | 3, _ | 4, _ | 5, _ | 6, _ | 7, _ => simp
theorem cnt_le (wt : Nat → Bool) : cnt wt ≤ 8 := by
  have hb : ∀ b : Bool, b.toNat ≤ 1 := by decide
  unfold cnt
  have := hb (wt 0); have := hb (wt 1); have := hb (wt 2); have := hb (wt 3); have := hb (wt 4); have := hb (wt 5); have := hb (wt 6); have := hb (wt 7)
  omega
/-- What stands in the midst of what comes between. -/
structure Safe (B : Nat) (b : Nat) (k : Nat) (sf : Nat → Int) (os : Nat → Int) (last : Int) (rest : List Item) (wt : Nat → Bool) (w : World) : Prop where
  rep : GRep B w b os last ((-5, sf) :: rest)
  lo : 0 ≤ last
  hi : last ≤ 60 + k
  below : ∀ j, j < 8 → sf j ≤ last
  pos : ∀ x ∈ rest, 0 ≤ x.1
  len : rest.length ≤ k
  waits : ∀ j, j < 8 → (wt j = true ↔ sf j ≠ 0 ∧ os j = sf j)
theorem Safe.over {B b k : Nat} {sf os : Nat → Int} {last : Int} {rest : List Item} {wt : Nat → Bool} {w : World} (h : Safe B b k sf os last rest wt w) : overB os sf = true ↔ cnt wt = 0 := by
  rw [overB_upto, cnt_zero]
  constructor
  · intro ho j hj
    refine Bool.eq_false_iff.2 fun hw => ?_
    have := (h.waits j hj).1 hw
    rcases ho j hj with h1 | h1
    · exact this.1 h1
    · exact h1 this.2
  · intro hw j hj
    by_cases h1 : sf j = 0
    · exact .inl h1
    · refine .inr fun h2 => ?_
      have := (h.waits j hj).2 ⟨h1, h2⟩
      rw [hw j hj] at this
      cases this
/-- The cells of an array of eight. -/
def WArr (wt : Nat → Bool) (cs : Array Value) : Prop := cs.size = 8 ∧ ∀ i, i < 8 → cs[i]? = some (.bool (wt i))
theorem WArr.set_ {wt : Nat → Bool} {cs : Array Value} (h : WArr wt cs) (n : Nat) (hn : n < 8) (v : Bool) : WArr (fun i => if i = n then v else wt i) (cs.setIfInBounds n (.bool v)) := by
  refine ⟨by simp [h.1], fun i hi => ?_⟩
  rw [Array.getElem?_setIfInBounds]
  by_cases e : n = i
  · subst e; simp [h.1]; omega
  · rw [if_neg e]
    show _ = some (Value.bool (if i = n then v else wt i))
    rw [if_neg (Ne.symm e)]; exact h.2 i hi
theorem GRep.far {B : Nat} {w : World} {b : Nat} {os : Nat → Int} {last : Int} {items : List Item} (h : GRep B w b os last items) {p : Addr} {t : TypeId} {cs : Array Value} (hb : Blk w p.block t cs) (h1 : 52 ≠ t) (h2 : 54 ≠ t) (u : Value) : GRep B (w.setCell p u) b os last items := by
  obtain ⟨cs', v, hb', hg, ho, hle⟩ := h
  exact ⟨cs', v, hb'.far (Blk.ne_ hb' hb h1) _, hg, own_set ho hb h2 _, hle⟩
def SafePost (w : World) (e : Ending) (w' : World) : Prop := e = .returned (.bool true) ∧ Below w.heap.size w w'

set_option maxRecDepth 100000 in
set_option maxHeartbeats 4000000 in
theorem safe_any (A : Option Addr) (xb xo len cap : Nat) (f : Nat → Nat → Int) (A2 : Option Addr) (yb yo len2 cap2 : Nat) (f2 : Nat → Nat → Int) (w : World) (hlm : len ≤ 100000000000000) (hlm2 : len2 ≤ 100000000000000)
    (hA : 0 < len → A = some ⟨xb, xo, none⟩ ∧ xb < w.heap.size) (hx : ∀ i, i < len → ∀ j, j < 2 → w.cell? ⟨xb, xo + i * 2 + j, none⟩ = some (.int .i64 (f i j)))
    (hA2 : 0 < len2 → A2 = some ⟨yb, yo, none⟩ ∧ yb < w.heap.size) (hx2 : ∀ i, i < len2 → ∀ j, j < 2 → w.cell? ⟨yb, yo + i * 2 + j, none⟩ = some (.int .i64 (f2 i j))) :
    Calls Try.prog 3 #[.slice A len cap, .slice A2 len2 cap2] w (SafePost w) := by
  have HX := hide hx; have HA := hide hA; have HX2 := hide hx2; have HA2 := hide hA2
  clear hx hA hx2 hA2
  go_enter Try.func3, Try.ntmps3
  go_wp2_with fail
  refine (shown_calls w).mono ?_
  rintro e w1 ⟨rfl, hb⟩
  have F1 := hide (TFr.of_below (B := w.heap.size) (T := gT) hb); clear hb
  go_wp2_with fail
  refine (new_calls w.heap.size w1 (unhide F1).size).mono ?_
  rintro e w2 ⟨rfl, hg, hf⟩
  have G2 := hide hg; have F2 := hide ((unhide F1).trans hf (fun _ h => by cases h)); clear hg hf
  generalize w1.heap.size = b at *
  go_wp2_with fail
  go_loopw [7] (fun x wr => ∃ k : Nat, k ≤ len ∧ k ≤ 60 ∧ x = .int .i64 k ∧ Hid (∃ os last, GRep w.heap.size wr b os last [] ∧ 0 ≤ last ∧ last ≤ k ∧ ∀ j, j < 8 → os j ≤ last) ∧ Hid (TFr w.heap.size gT w wr)) (fun x _ => len - (intOf x).toNat)
  case atStart => exact ⟨0, by omega, by omega, rfl, ⟨_, _, unhide G2, by omega, by omega, fun _ _ => Int.le_refl _⟩, F2⟩
  case round =>
    clear G2 F2 F1
    obtain ⟨k, hk, hk2, rfl, HG, F3⟩ := hrel
    obtain ⟨os, last, hg, hl0, hlk, hle⟩ := HG.out
    have G3 := hide hg; have LE := hide hle; clear hg hle HG
    by_cases hlt : k < len ∧ k < 60
    · obtain ⟨hlt, hlt2⟩ := hlt
      obtain ⟨rfl, hxb⟩ := HA.out (by omega)
      clear HA
      have q0 : _ = some (Value.int .i64 (f k 0)) := ((unhide F3).low_cell ⟨xb, xo + k * 2, none⟩ hxb (Nat.le_refl _)).trans (HX.out k hlt 0 (by omega))
      have q1 : _ = some (Value.int .i64 (f k 1)) := ((unhide F3).low_cell ⟨xb, xo + k * 2 + 1, none⟩ hxb (Nat.le_refl _)).trans (HX.out k hlt 1 (by omega))
      generalize f k 0 = kd at *
      generalize f k 1 = who at *
      rcases Classical.em (kd = 0) with rfl | h0
      · go_wp2_with (go_at_call 10; refine (enter_all who _ (unhide G3) hl0 (by omega)).mono ?_; rintro e w5 ⟨rfl, hg, hf⟩; have G5 := hide hg; have F5 := hide ((unhide F3).trans hf (fun _ h => h)); clear hg hf)
        go_roundw
        case rel =>
          have := enterS_last os last who
          refine ⟨k + 1, by omega, by omega, by go_num, ⟨_, _, unhide G5, by omega, by omega, fun j hj => ?_⟩, F5⟩
          have hj2 := LE.out j hj
          unfold enterS
          split
          · exact hj2
          · split
            · exact hj2
            · show (if j = who.toNat then last + 1 else os j) ≤ last + 1
              split <;> omega
        case measure => simp [intOf]; omega
      · have hb0 : (kd == 0) = false := beq_eq_false_iff_ne.2 h0
        clear h0
        go_wp2_with (go_at_call 11; refine (leave_all who _ (unhide G3)).mono ?_; rintro e w5 ⟨rfl, hg, hf⟩; have G5 := hide hg; have F5 := hide ((unhide F3).trans hf (fun _ h => h)); clear hg hf)
        go_roundw
        case rel =>
          refine ⟨k + 1, by omega, by omega, by go_num, ⟨_, _, unhide G5, hl0, by omega, fun j hj => ?_⟩, F5⟩
          have hj2 := LE.out j hj
          unfold leaveS
          split
          · exact hj2
          · split
            · exact hj2
            · show (if j = who.toNat then 0 else os j) ≤ last
              split <;> omega
        case measure => simp [intOf]; omega
    · clear HX HA
      rcases Classical.em (k < len) with hkl | hkl
      have h60 : (60 : Int) ≤ (k : Int) := by omega
      clear hlt
      go_wp2_with fail
      rotate_left
      clear hlt
      go_wp2_with fail
      rotate_left
      all_goals
        have G4 := hide ((unhide G3).tfr (T := []) ((TFr.refl w.heap.size [] wr).alloc (.cells #[.bool false, .bool false, .bool false, .bool false, .bool false, .bool false, .bool false, .bool false] 30)) (by simp) (by simp))
        have F4 := hide ((unhide F3).alloc (.cells #[.bool false, .bool false, .bool false, .bool false, .bool false, .bool false, .bool false, .bool false] 30))
        have B4 := hide (Blk.new wr 30 #[.bool false, .bool false, .bool false, .bool false, .bool false, .bool false, .bool false, .bool false])
        have L4 := (unhide F3).size
        clear G3 F3
        generalize wr.alloc (.cells #[.bool false, .bool false, .bool false, .bool false, .bool false, .bool false, .bool false, .bool false] 30) = w4 at G4 F4 B4 ⊢
        generalize wr.heap.size = wb at *
        go_loopw [9, 10] (fun y x wr => ∃ j : Nat, j ≤ 8 ∧ x = .int .i64 j ∧ y = .int .i64 (cnt (fun i => decide (i < j) && os i != 0) : Nat) ∧ Hid (∃ cs, Blk wr wb 30 cs ∧ WArr (fun i => decide (i < j) && os i != 0) cs) ∧ Hid (GRep w.heap.size wr b os last []) ∧ Hid (TFr w.heap.size gT w wr)) (fun _ x _ => 8 - (intOf x).toNat)
        case atStart =>
          exact ⟨0, by omega, rfl, rfl, ⟨_, unhide B4, rfl, fun i hi => by match i, hi with | 0, _ | 1, _ | 2, _ | 3, _ | 4, _ | 5, _ | 6, _ | 7, _ => rfl⟩, G4, F4⟩
        case round =>
          clear G4 F4 B4
          obtain ⟨j, hj, rfl, rfl, HC, G5, F5⟩ := hrel
          obtain ⟨cs, hcb, hca⟩ := HC.out
          by_cases hlt : j < 8
          · have hc := hcb.cell j
            rw [hca.2 j hlt] at hc
            have hf := hcb.frozen j
            have HCB := hide hcb; have HCA := hide hca
            have hcn := cnt_next (fun i => os i != 0) j hlt
            have hc8 := cnt_le (fun i => decide (i < j) && os i != 0)
            have HCN := hide hcn
            clear hcb hca HC hcn
            rcases Classical.em (os j = 0) with hz | hz
            have hz1 : (os j != 0) = false := bne_eq_false_iff_eq.2 hz
            have HZ := hide hz1
            clear hz
            go_wp2_with (go_at_call 12; refine (open_at j _ (unhide G5) (by omega) (by omega)).mono ?_; rintro e w' ⟨rfl, rfl⟩; rw [Int.toNat_natCast, HZ.out])
            rotate_left
            have hz1 : (os j != 0) = true := bne_iff_ne.2 hz
            have HZ := hide hz1
            clear hz
            go_wp2_with (go_at_call 12; refine (open_at j _ (unhide G5) (by omega) (by omega)).mono ?_; rintro e w' ⟨rfl, rfl⟩; rw [Int.toNat_natCast, HZ.out])
            rotate_left
            all_goals
              go_roundw
              case rel =>
                rw [HZ.out] at HCN
                refine ⟨j + 1, by omega, by go_num, by rw [HCN.out]; first | rfl | go_num, ⟨_, (unhide HCB).set_ j _, ?_⟩, (unhide G5).far (p := ⟨wb, j, none⟩) (unhide HCB) (by decide) (by decide) _, TFr.setNew (unhide F5) (p := ⟨wb, j, none⟩) L4 _⟩
                refine ⟨by simp [(unhide HCA).1], fun i hi => ?_⟩
                have := ((unhide HCA).set_ j hlt (os j != 0)).2 i hi
                rw [HZ.out] at this
                rw [this]
                congr 2
                dsimp only
                by_cases e : i = j
                · subst e; rw [if_pos rfl, HZ.out]; simp
                · rw [if_neg e]
                  congr 1
                  exact decide_eq_decide.2 (by omega)
              case measure => simp [intOf]; omega
          · obtain ⟨wt, hwt⟩ : ∃ wt : Nat → Bool, wt = (fun i => decide (i < j) && os i != 0) := ⟨_, rfl⟩
            rw [← hwt] at hca ⊢
            have hw8 : ∀ i, i < 8 → (wt i = true ↔ os i ≠ 0) := fun i hi => by
              rw [hwt]
              have : decide (i < j) = true := decide_eq_true (by omega)
              simp [this]
            have hc8 := cnt_le wt
            have HW := hide hw8; have HCB := hide hcb; have HCA := hide hca
            clear hwt hw8 hcb hca HC
            go_wp2_with fail
            refine (tick_calls _ (unhide G5) (by simp) (unhide F5).size).mono ?_
            rintro e w6 ⟨vt, rfl, ho, hg, hf⟩
            have hk0 : kept os [] = [] := rfl
            rw [hk0] at hg
            have G6 := hide hg; have F6 := hide ((unhide F5).trans hf (fun _ h => h)); have C6 := hide ((unhide HCB).tfr hf (by decide)); clear hg hf ho hk0
            go_wp2_with fail
            refine (defer_ok (-5) _ (unhide G6) (by simp) (unhide F6).size).mono ?_
            rintro e w7 ⟨rfl, hg, hf⟩
            have F7 := hide ((unhide F6).trans hf (fun _ h => h)); have C7 := hide ((unhide C6).tfr hf (by decide))
            have S7 : Hid (Safe w.heap.size b 0 os os last [] wt w7) := ⟨hg, hl0, by omega, LE.out, (fun x hx => by cases hx), by simp, fun j hj => by rw [HW.out j hj]; simp⟩
            clear hg hf G6 F6 C6 G5 F5 HCB HW LE
            generalize hcn : cnt wt = c at *
            have HCN := hide hcn; clear hcn
            go_wp2_with fail
            go_loopw [9, 11] (fun y x wr => ∃ i c : Nat, i ≤ len2 ∧ i ≤ 100 ∧ c ≤ 8 ∧ x = .int .i64 i ∧ y = .int .i64 c ∧ Hid (∃ os' last' rest wt', Safe w.heap.size b i os os' last' rest wt' wr ∧ cnt wt' = c ∧ ∃ cs, Blk wr wb 30 cs ∧ WArr wt' cs) ∧ Hid (TFr w.heap.size gT w wr)) (fun _ x _ => len2 - (intOf x).toNat)
            case atStart => exact ⟨0, c, by omega, by omega, hc8, rfl, rfl, ⟨os, last, [], wt, unhide S7, HCN.out, cs, unhide C7, unhide HCA⟩, F7⟩
            case round =>
              clear S7 C7 F7 HCA HCN hc8
              obtain ⟨i, c, hi, hi2, hc8, rfl, rfl, HS, F8⟩ := hrel
              obtain ⟨os', last', rest, wt', hs, hcn, cs', hcb, hca⟩ := HS.out
              have hlo := hs.lo
              have hhi := hs.hi
              have hlen := hs.len
              have S8 := hide hs; have C8 := hide hcb; have A8 := hide hca; have N8 := hide hcn
              clear hs hcb hca HS hcn
              by_cases hlt3 : i < len2 ∧ i < 100
              · obtain ⟨hlt3, hlt4⟩ := hlt3
                obtain ⟨rfl, hyb⟩ := HA2.out (by omega)
                clear HA2
                have q0 : _ = some (Value.int .i64 (f2 i 0)) := ((unhide F8).low_cell ⟨yb, yo + i * 2, none⟩ hyb (Nat.le_refl _)).trans (HX2.out i hlt3 0 (by omega))
                have q1 : _ = some (Value.int .i64 (f2 i 1)) := ((unhide F8).low_cell ⟨yb, yo + i * 2 + 1, none⟩ hyb (Nat.le_refl _)).trans (HX2.out i hlt3 1 (by omega))
                have hkind : f2 i 0 = 0 ∨ f2 i 0 = 1 ∨ f2 i 0 = 2 ∨ (f2 i 0 ≠ 0 ∧ f2 i 0 ≠ 1 ∧ f2 i 0 ≠ 2) := by omega
                generalize f2 i 0 = kd at *
                generalize f2 i 1 = who at *
                rcases hkind with rfl | rfl | rfl | ⟨n0, n1, n2⟩
                · go_wp2_with (go_at_call 10; refine (enter_all who _ (unhide S8).rep hlo (by omega)).mono ?_; rintro e w9 ⟨rfl, hg, hf⟩; have G9 := hide hg; have F9 := hide ((unhide F8).trans hf (fun _ h => h)); have C9 := hide ((unhide C8).tfr hf (by decide)); clear hg hf)
                  go_roundw
                  case rel =>
                    have he := enterS_last os' last' who
                    refine ⟨i + 1, c, by omega, by omega, hc8, by go_num, rfl, ⟨_, _, rest, wt', ⟨unhide G9, by omega, by omega, fun j hj => by have := (unhide S8).below j hj; omega, (unhide S8).pos, by omega, fun j hj => ?_⟩, N8.out, cs', unhide C9, unhide A8⟩, F9⟩
                    have hw := (unhide S8).waits j hj
                    have hb := (unhide S8).below j hj
                    unfold enterS
                    split
                    · exact hw
                    · split
                      · exact hw
                      · rename_i hz
                        show _ ↔ os j ≠ 0 ∧ (if j = who.toNat then last' + 1 else os' j) = os j
                        by_cases e : j = who.toNat
                        · rw [if_pos e]
                          constructor
                          · intro h
                            have h2 := hw.1 h
                            have h3 : os' j = 0 := by rw [e]; exact Classical.byContradiction hz
                            exact absurd (h2.2.symm.trans h3) h2.1
                          · intro h; have := h.2; omega
                        · rw [if_neg e]; exact hw
                  case measure => simp [intOf]; omega
                · rcases Classical.em (who < 0 ∨ 8 ≤ who) with hw | hw
                  · go_wp2_with (go_at_call 11; refine (leave_arg b who _ hw).mono ?_; rintro e w9 ⟨rfl, rfl⟩)
                    go_roundw
                    case rel => exact ⟨i + 1, c, by omega, by omega, hc8, by go_num, rfl, ⟨os', last', rest, wt', ⟨(unhide S8).rep, hlo, by omega, (unhide S8).below, (unhide S8).pos, by omega, (unhide S8).waits⟩, N8.out, cs', unhide C8, unhide A8⟩, F8⟩
                    case measure => simp [intOf]; omega
                  · have hw0 : 0 ≤ who := by omega
                    have hw8 : who < 8 := by omega
                    clear hw
                    rcases Classical.em (os' who.toNat = 0) with hz | hz
                    · have HZ := hide hz; clear hz
                      go_wp2_with (go_at_call 11; refine (leave_lock who _ (unhide S8).rep hw0 hw8 HZ.out).mono ?_; rintro e w9 ⟨rfl, rfl⟩)
                      go_roundw
                      case rel => exact ⟨i + 1, c, by omega, by omega, hc8, by go_num, rfl, ⟨os', last', rest, wt', ⟨(unhide S8).rep, hlo, by omega, (unhide S8).below, (unhide S8).pos, by omega, (unhide S8).waits⟩, N8.out, cs', unhide C8, unhide A8⟩, F8⟩
                      case measure => simp [intOf]; omega
                    · have HZ := hide hz; clear hz
                      have hcl := (unhide A8).2 who.toNat (by omega)
                      rcases hwt : wt' who.toNat with _ | _
                      · rw [hwt] at hcl
                        have HWT := hide hwt; have HCL := hide hcl; clear hwt hcl
                        go_wp2_with (go_at_call 11; refine (leave_ok who _ (unhide S8).rep hw0 hw8 HZ.out).mono ?_; rintro e w9 ⟨rfl, hg, hf⟩; have G9 := hide hg; have F9 := hide ((unhide F8).trans hf (fun _ h => h)); have C9 := hide ((unhide C8).tfr hf (by decide)); have hcell := ((unhide C9).cell who.toNat).trans HCL.out; clear hg hf)
                        go_roundw
                        case rel =>
                          refine ⟨i + 1, c, by omega, by omega, hc8, by go_num, rfl, ⟨_, last', rest, wt', ⟨unhide G9, hlo, by omega, (unhide S8).below, (unhide S8).pos, by omega, fun j hj => ?_⟩, N8.out, cs', unhide C9, unhide A8⟩, F9⟩
                          have hw := (unhide S8).waits j hj
                          show _ ↔ os j ≠ 0 ∧ (if j = who.toNat then 0 else os' j) = os j
                          by_cases e : j = who.toNat
                          · rw [if_pos e]
                            constructor
                            · intro h; rw [e, HWT.out] at h; cases h
                            · intro h; exact absurd h.2.symm h.1
                          · rw [if_neg e]; exact hw
                        case measure => simp [intOf]; omega
                      · rw [hwt] at hcl
                        have hoff := cnt_off wt' who.toNat (by omega) hwt
                        rw [N8.out] at hoff
                        obtain ⟨c', rfl⟩ : ∃ c', c = c' + 1 := ⟨_, hoff.symm⟩
                        have HWT := hide hwt; have HCL := hide hcl; have HOFF := hide hoff; clear hwt hcl hoff
                        go_wp2_with (go_at_call 11; refine (leave_ok who _ (unhide S8).rep hw0 hw8 HZ.out).mono ?_; rintro e w9 ⟨rfl, hg, hf⟩; have G9 := hide hg; have F9 := hide ((unhide F8).trans hf (fun _ h => h)); have C9 := hide ((unhide C8).tfr hf (by decide)); have hcell := ((unhide C9).cell who.toNat).trans HCL.out; have hfr := (unhide C9).frozen who.toNat; clear hg hf)
                        go_roundw
                        case rel =>
                          refine ⟨i + 1, c', by omega, by omega, by omega, by go_num, by go_num, ⟨_, last', rest, _, ⟨(unhide G9).far (p := ⟨wb, who.toNat, none⟩) (unhide C9) (by decide) (by decide) _, hlo, by omega, (unhide S8).below, (unhide S8).pos, by omega, fun j hj => ?_⟩, by have := HOFF.out; omega, _, (unhide C9).set_ who.toNat (.bool false), (unhide A8).set_ who.toNat (by omega) false⟩, TFr.setNew (unhide F9) (p := ⟨wb, who.toNat, none⟩) L4 _⟩
                          have hw := (unhide S8).waits j hj
                          show (if j = who.toNat then false else wt' j) = true ↔ os j ≠ 0 ∧ (if j = who.toNat then 0 else os' j) = os j
                          by_cases e : j = who.toNat
                          · rw [if_pos e, if_pos e]
                            constructor
                            · intro h; cases h
                            · intro h; exact absurd h.2.symm h.1
                          · rw [if_neg e, if_neg e]; exact hw
                        case measure => simp [intOf]; omega
                · go_wp2_with (go_at_call 14; refine (defer_ok i _ (unhide S8).rep (by simp; omega) (unhide F8).size).mono ?_; rintro e w9 ⟨rfl, hg, hf⟩; have G9 := hide hg; have F9 := hide ((unhide F8).trans hf (fun _ h => h)); have C9 := hide ((unhide C8).tfr hf (by decide)); clear hg hf)
                  go_roundw
                  case rel =>
                    refine ⟨i + 1, c, by omega, by omega, hc8, by go_num, rfl, ⟨os', last', rest ++ [((i : Int), os')], wt', ⟨unhide G9, hlo, by omega, (unhide S8).below, fun x hx => ?_, by simp; omega, (unhide S8).waits⟩, N8.out, cs', unhide C9, unhide A8⟩, F9⟩
                    rcases List.mem_append.1 hx with h | h
                    · exact (unhide S8).pos x h
                    · simp at h; rw [h]; simp
                  case measure => simp [intOf]; omega
                · have c0 : (kd == 0) = false := beq_eq_false_iff_ne.2 n0
                  have c1 : (kd == 1) = false := beq_eq_false_iff_ne.2 n1
                  have c2 : (kd == 2) = false := beq_eq_false_iff_ne.2 n2
                  clear n0 n1 n2
                  have hov := (unhide S8).over
                  rw [N8.out] at hov
                  rcases hb : overB os' os with _ | _
                  · have hcz : c ≠ 0 := fun h => by rw [hov.2 h] at hb; cases hb
                    have hcz1 : (((c : Nat) : Int) == 0) = false := beq_eq_false_iff_ne.2 (by omega)
                    have ht : told os' ((-5, os) :: rest) = told os' rest := by unfold told; rw [List.filter_cons_of_neg (by simp [hb])]
                    have hk : kept os' ((-5, os) :: rest) = (-5, os) :: kept os' rest := by unfold kept; rw [List.filter_cons_of_pos (by simp [hb])]
                    have hkl : (kept os' rest).length ≤ rest.length := by unfold kept; exact List.length_filter_le _ _
                    have hpos : ∀ x ∈ told os' rest, 0 ≤ x := fun x hx => by
                      unfold told at hx
                      obtain ⟨y, hy, rfl⟩ := List.mem_map.1 hx
                      exact (unhide S8).pos y (List.mem_filter.1 hy).1
                    have htl : (told os' rest).length ≤ 1000 := Nat.le_trans (by unfold told; rw [List.length_map]; exact List.length_filter_le _ _) (show rest.length ≤ 1000 by omega)
                    have HT := hide ht; have HK := hide hk; have HP := hide hpos
                    clear hov hb hcz ht hk hpos
                    go_wp2_with fail
                    refine (tick_calls _ (unhide S8).rep (by simp; omega) (unhide F8).size).mono ?_
                    rintro e w9 ⟨vt, rfl, ho, hg, hf⟩
                    rw [HT.out] at ho
                    rw [HK.out] at hg
                    generalize told os' rest = TL at ho HP htl
                    have G9 := hide hg; have F9 := hide ((unhide F8).trans hf (fun _ h => h)); have C9 := hide ((unhide C8).tfr hf (by decide)); have O9 := hide ho
                    obtain ⟨A9, c9, rfl⟩ := own_slice ho
                    clear hg hf ho HT HK
                    go_wp2_with fail
                    go_loop [13, 15] (fun y x => ∃ j : Nat, j ≤ TL.length ∧ x = .int .i64 j ∧ y = .bool false) (fun _ x => TL.length - (intOf x).toNat)
                    case atStart => exact ⟨0, by omega, rfl, rfl⟩
                    case round =>
                      obtain ⟨j, hj, rfl, rfl⟩ := hrel
                      by_cases hlt5 : j < TL.length
                      · obtain ⟨g9, d9, hsl, _, hcell⟩ := own_shape (unhide O9) (by omega)
                        simp only [Value.slice.injEq, true_and] at hsl
                        obtain ⟨rfl, rfl⟩ := hsl
                        have hc5 := hcell j hlt5
                        rw [List.getElem?_map, List.getElem?_eq_getElem hlt5] at hc5
                        have hp5 := HP.out TL[j] (List.getElem_mem hlt5)
                        generalize TL[j] = x5 at hc5 hp5
                        have hc6 : _ = some (Value.int .i64 x5) := hc5
                        have hne : (x5 == -5) = false := beq_eq_false_iff_ne.2 (by omega)
                        clear hcell hc5
                        go_wp2
                        go_round
                        case rel => exact ⟨j + 1, by omega, by go_num, rfl⟩
                        case measure => simp [intOf]; omega
                      · go_wp2
                        go_roundw
                        case rel => exact ⟨i + 1, c, by omega, by omega, hc8, by go_num, rfl, ⟨os', last', kept os' rest, wt', ⟨unhide G9, hlo, by omega, (unhide S8).below, fun x hx => (unhide S8).pos x (by unfold kept at hx; exact (List.mem_filter.1 hx).1), by omega, (unhide S8).waits⟩, N8.out, cs', unhide C9, unhide A8⟩, F9⟩
                        case measure => simp [intOf]; omega
                  · obtain rfl : c = 0 := hov.1 hb
                    have ht : told os' ((-5, os) :: rest) = -5 :: told os' rest := by unfold told; rw [List.filter_cons_of_pos (by simp [hb])]; rfl
                    have htl : (told os' rest).length ≤ 1000 := Nat.le_trans (by unfold told; rw [List.length_map]; exact List.length_filter_le _ _) (show rest.length ≤ 1000 by omega)
                    have HT := hide ht
                    clear hov hb ht
                    go_wp2_with fail
                    refine (tick_calls _ (unhide S8).rep (by simp; omega) (unhide F8).size).mono ?_
                    rintro e w9 ⟨vt, rfl, ho, hg, hf⟩
                    rw [HT.out] at ho
                    generalize told os' rest = TL at ho htl
                    have F9 := hide ((unhide F8).trans hf (fun _ h => h)); have O9 := hide ho
                    obtain ⟨A9, c9, rfl⟩ := own_slice ho
                    clear hg hf ho HT
                    go_wp2_with fail
                    go_loop [13, 15] (fun y x => ∃ j : Nat, j ≤ TL.length + 1 ∧ x = .int .i64 j ∧ y = .bool (decide (0 < j))) (fun _ x => TL.length + 1 - (intOf x).toNat)
                    case atStart => exact ⟨0, by omega, rfl, rfl⟩
                    case round =>
                      obtain ⟨j, hj, rfl, rfl⟩ := hrel
                      by_cases hlt5 : j < TL.length + 1
                      · rcases Nat.eq_zero_or_pos j with rfl | hj0
                        · obtain ⟨g9, d9, hsl, _, hcell⟩ := own_shape (unhide O9) (by simp)
                          simp only [List.length_cons, Value.slice.injEq, true_and] at hsl
                          obtain ⟨rfl, rfl⟩ := hsl
                          have hc6 : w9.cell? ⟨g9, 0, none⟩ = some (Value.int .i64 (-5)) := hcell 0 (by simp)
                          clear hcell
                          go_wp2
                          go_round
                          case rel => exact ⟨1, by omega, by go_num, rfl⟩
                          case measure => simp [intOf] <;> omega
                        · have hd : decide (0 < j) = true := decide_eq_true hj0
                          have HD := hide hd; clear hd
                          rw [HD.out]
                          go_wp2
                          go_round
                          case rel => exact ⟨j + 1, by omega, by go_num, by rw [decide_eq_true (show 0 < j + 1 by omega)]⟩
                          case measure => simp [intOf]; omega
                      · have hd : decide (0 < j) = true := decide_eq_true (by omega)
                        have HD := hide hd; clear hd
                        rw [HD.out]
                        go_wp2
                        go_ret
                        exact ⟨rfl, (unhide F9).below (Nat.le_refl _)⟩
              · rcases Classical.em (i < len2) with hkl2 | hkl2
                have h100 : (100 : Int) ≤ (i : Int) := by omega
                clear hlt3
                go_wp2
                rotate_left
                clear hlt3
                go_wp2
                rotate_left
                all_goals
                  go_ret
                  exact ⟨rfl, (unhide F8).below (Nat.le_refl _)⟩
theorem safe_row (a0 : Option Addr) (len0 cap0 : Nat) (a1 : Option Addr) (len1 cap1 : Nat) (W : World) (w0 : RowKit2.FldRow 2 W a0 len0 cap0) (y0 : len0 * 16 ≤ 140737488351232) (w1 : RowKit2.FldRow 2 W a1 len1 cap1) (y1 : len1 * 16 ≤ 140737488351232) :
    Calls Try.prog 3 #[.slice a0 len0 cap0, .slice a1 len1 cap1] W fun e W' => e = .returned (.bool true) ∧ Below W.heap.size W W' := by
  obtain ⟨xb, xo, f, _, hA, hx⟩ := w0.any (by omega)
  obtain ⟨yb, yo, f2, _, hA2, hx2⟩ := w1.any (by omega)
  exact safe_any a0 xb xo len0 cap0 f a1 yb yo len1 cap1 f2 W (by omega) (by omega) hA (fun i hi j hj => (hx i hi j hj).1) hA2 (fun i hi j hj => (hx2 i hi j hj).1)
end Go.Proofs.Ytddheambeefhpaa.Gr
