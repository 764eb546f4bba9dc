/- GraceOrder: the walk of its text: what is told by ticks is all that was put aside, each once -/
import Derived.Test.YtddheambeefhpaaGrMore
import Derived.Test.YtddheambeefhpaaRowKit
namespace Go.Proofs.Ytddheambeefhpaa.Gr
open Go.RowKit Go.Proofs.Ytddheambeefhpaa.Own
set_option linter.unusedVariables false
set_option linter.unusedSimpArgs false

theorem infoBool : (Try.prog.info? 4).map (fun i => (i.zero, i.size, i.bytes)) = some (some (.bool false), 1, 1) := by kernel_rfl
/-- What grace may change, and rows of numbers. -/
abbrev gT2 : List TypeId := [3, 52, 54]
theorem gT_in : ∀ t ∈ gT, t ∈ gT2 := by decide
def nums (n : Nat) : List Int := (List.range n).map fun j : Nat => (j : Int)
theorem nums_succ (n : Nat) : nums (n + 1) = nums n ++ [(n : Int)] := by simp [nums, List.range_succ]
theorem nums_len (n : Nat) : (nums n).length = n := by simp [nums]
theorem nums_mem {n : Nat} {x : Int} (h : x ∈ nums n) : 0 ≤ x ∧ x < n := by
  obtain ⟨j, hj, rfl⟩ := List.mem_map.1 h
  have := List.mem_range.1 hj
  omega
theorem nums_nodup (n : Nat) : (nums n).Nodup := by
  unfold nums
  refine List.Pairwise.map _ (fun a b h => ?_) (List.nodup_range (n := n))
  omega
theorem told_kept (os : Nat → Int) (items : List Item) : (told os items ++ (kept os items).map (·.1)).Perm (items.map (·.1)) := by
  unfold told kept
  rw [← List.map_append]
  exact (List.filter_append_perm (fun x : Item => overB os x.2) items).map _
theorem told_le (os : Nat → Int) (items : List Item) : (told os items).length ≤ items.length := by
  unfold told; rw [List.length_map]; exact List.length_filter_le _ _
theorem int_one {l : List Int} {u : Value} (hu : u ∈ l.map (Value.int .i64)) : u.oneCell' = true := by
  obtain ⟨x, _, rfl⟩ := List.mem_map.1 hu; rfl
theorem not_ahead {T : List Int} (h : T.Nodup) (i : Nat) (hi : i < T.length) : T[i] ∉ T.take i := by
  intro hm
  have h2 := h
  rw [← List.take_append_drop i T, List.drop_eq_getElem_cons hi] at h2
  exact (List.nodup_append.1 h2).2.2 T[i] hm T[i] List.mem_cons_self rfl
/-- The state in the midst of the deeds. -/
structure Ord (B : Nat) (w0 : World) (b : Nat) (k m : Nat) (tl : List Int) (vo : Value) (w : World) : Prop where
  rep : ∃ os last items, GRep B w b os last items ∧ 0 ≤ last ∧ last ≤ k ∧ (tl ++ items.map (·.1)).Perm (nums m)
  own : w.ownsRow B 3 1 vo tl.length (tl.map (Value.int .i64))
  fr : TFr B gT2 w0 w
theorem Ord.len {B : Nat} {b k m : Nat} {tl : List Int} {items : List Item} (h : (tl ++ items.map (·.1)).Perm (nums m)) : tl.length + items.length = m := by
  have := h.length_eq
  rw [nums_len, List.length_append, List.length_map] at this
  exact this
def OrdPost (w : World) (e : Ending) (w' : World) : Prop := e = .returned (.bool true) ∧ Below w.heap.size w w'
set_option maxRecDepth 100000 in
set_option maxHeartbeats 4000000 in
theorem order_any (A : Option Addr) (xb xo len cap : Nat) (f : Nat → Nat → Int) (w : World) (hlc : len ≤ cap) (hlm : len ≤ 100000000000000) (hA : 0 < len → A = some ⟨xb, xo, none⟩ ∧ xb < w.heap.size) (hx : ∀ i, i < len → ∀ j, j < 2 → w.cell? ⟨xb, xo + i * 2 + j, none⟩ = some (.int .i64 (f i j))) :
    Calls Try.prog 5 #[.slice A len cap] w (OrdPost w) := by
  obtain ⟨i0, hi0, hz0, hz1, hz2⟩ := info_parts infoInt
  have HX := hide hx; have HA := hide hA; clear hx hA
  go_enter Try.func5, Try.ntmps5
  go_wp2_with fail
  refine (shown_calls w).mono ?_
  rintro e w1 ⟨rfl, hb⟩
  have F1 := hide (TFr.of_below (B := w.heap.size) (T := gT2) hb); clear hb
  go_wp2_with fail
  refine (new_calls w.heap.size w1 (unhide F1).size).mono ?_
  rintro e w2 ⟨rfl, hg, hf⟩
  have G2 := hide hg; have F2 := hide ((unhide F1).trans hf (fun _ h => by cases h)); clear hg hf
  generalize w1.heap.size = b at *
  go_wp2_with fail
  go_loopw [5, 6, 7] (fun y vo x wr => ∃ (k m : Nat) (tl : List Int), k ≤ len ∧ k ≤ 200 ∧ m ≤ k ∧ y = .int .i64 m ∧ x = .int .i64 k ∧ Hid (Ord w.heap.size w b k m tl vo wr)) (fun _ _ x _ => len - (intOf x).toNat)
  case atStart => exact ⟨0, 0, [], by omega, by omega, by omega, rfl, rfl, ⟨⟨_, _, _, unhide G2, by omega, by omega, List.Perm.refl _⟩, World.ownsRow_nil _ _ _ _, unhide F2⟩⟩
  case round =>
    clear G2 F2 F1
    obtain ⟨k, m, tl, hk, hk2, hmk, rfl, rfl, HO⟩ := hrel
    obtain ⟨⟨os, last, items, hg, hl0, hlk, hperm⟩, hown, hfr⟩ := HO.out
    have hlen := Ord.len (B := 0) (b := 0) (k := 0) hperm
    have G3 := hide hg; have O3 := hide hown; have F3 := hide hfr; have P3 := hide hperm; have HL := hide hlen
    have hil : items.length ≤ 200 := by omega
    have htl : tl.length ≤ 200 := by omega
    clear hg hown hfr hperm hlen HO
    by_cases hlt : k < len ∧ k < 200
    · obtain ⟨hlt, hlt2⟩ := hlt
      obtain ⟨rfl, hxb⟩ := HA.out (by omega)
      clear HA
      have q0 : _ = some (Value.int .i64 (f k 0)) := ((unhide F3).low_cell ⟨xb, xo + k * 2, none⟩ hxb (Nat.le_refl _)).trans (HX.out k hlt 0 (by omega))
      have q1 : _ = some (Value.int .i64 (f k 1)) := ((unhide F3).low_cell ⟨xb, xo + k * 2 + 1, none⟩ hxb (Nat.le_refl _)).trans (HX.out k hlt 1 (by omega))
      have hkk : (k : Int) < (len : Int) := by omega
      have hkind : f k 0 = 0 ∨ f k 0 = 1 ∨ f k 0 = 2 ∨ (f k 0 ≠ 0 ∧ f k 0 ≠ 1 ∧ f k 0 ≠ 2) := by omega
      generalize f k 0 = kd at *
      generalize f k 1 = who at *
      rcases hkind with rfl | rfl | rfl | ⟨n0, n1, n2⟩
      · go_wp2_with (go_at_call 10; refine (enter_all who _ (unhide G3) hl0 (by omega)).mono ?_; rintro e w5 ⟨rfl, hg, hf⟩; have G5 := hide hg; have F5 := hide ((unhide F3).trans hf gT_in); have O5 := hide (own_tfr (unhide O3) hf (by decide)); clear hg hf)
        go_roundw
        case rel =>
          have := enterS_last os last who
          exact ⟨k + 1, m, tl, by omega, by omega, by omega, rfl, by go_num, ⟨⟨_, _, items, unhide G5, by omega, by omega, unhide P3⟩, unhide O5, unhide F5⟩⟩
        case measure => simp [intOf]; omega
      · go_wp2_with (go_at_call 11; refine (leave_all who _ (unhide G3)).mono ?_; rintro e w5 ⟨rfl, hg, hf⟩; have G5 := hide hg; have F5 := hide ((unhide F3).trans hf gT_in); have O5 := hide (own_tfr (unhide O3) hf (by decide)); clear hg hf)
        go_roundw
        case rel => exact ⟨k + 1, m, tl, by omega, by omega, by omega, rfl, by go_num, ⟨⟨_, _, items, unhide G5, by omega, by omega, unhide P3⟩, unhide O5, unhide F5⟩⟩
        case measure => simp [intOf]; omega
      · go_wp2_with (go_at_call 14; refine (defer_ok m _ (unhide G3) (by omega) (unhide F3).size).mono ?_; rintro e w5 ⟨rfl, hg, hf⟩; have G5 := hide hg; have F5 := hide ((unhide F3).trans hf gT_in); have O5 := hide (own_tfr (unhide O3) hf (by decide)); clear hg hf)
        go_roundw
        case rel =>
          refine ⟨k + 1, m + 1, tl, by omega, by omega, by omega, by go_num, by go_num, ⟨⟨_, _, _, unhide G5, by omega, by omega, ?_⟩, unhide O5, unhide F5⟩⟩
          rw [List.map_append, nums_succ, ← List.append_assoc]
          exact (unhide P3).append_right _
        case measure => simp [intOf]; omega
      · have c0 : (kd == 0) = false := beq_eq_false_iff_ne.2 n0
        have c1 : (kd == 1) = false := beq_eq_false_iff_ne.2 n1
        have c2 : (kd == 2) = false := beq_eq_false_iff_ne.2 n2
        clear n0 n1 n2
        go_wp2_with (first
          | (go_at_call 13; refine (tick_calls _ (unhide G3) (by omega) (unhide F3).size).mono ?_; rintro e w5 ⟨vt, rfl, ho, hg, hf⟩; have G5 := hide hg; have F5 := hide ((unhide F3).trans hf gT_in); have O5 := hide (own_tfr (unhide O3) hf (by decide)); have T5 := hide ho; clear hg hf ho)
          | (at_builtin; obtain ⟨v2, w2, hrun, hown2, hg2⟩ := run_append_own_own _ w.heap.size _ 32 32 3 i0 (.int .i64 0) 1 8 Try.underlying32 hi0 hz0 hz1 hz2 rfl (by decide) _ _ _ (unhide O5) _ _ _ (unhide T5) (fun u hu => int_one hu) (by simp only [maxLen]; have := told_le os items; omega) (by have := told_le os items; omega) (unhide F5).size
             refine wpList_append_run rfl (.tmp 30) (.tmp 32) 32 32 rfl hrun ?_; have O6 := hide hown2; have H6 := hide hg2; clear hown2 hg2 hrun))
        go_roundw
        case rel =>
          refine ⟨k + 1, m, tl ++ told os items, by omega, by omega, by omega, rfl, by go_num, ⟨⟨os, last, kept os items, ?_, by omega, by omega, ?_⟩, ?_, ?_⟩⟩
          · obtain ⟨cs, v, hb, hg, ho, hle⟩ := unhide G5
            exact ⟨cs, v, blk_grown (unhide O5) hb (unhide H6) (by decide), hg, own_grown ho (unhide O5) (unhide H6) (by decide), hle⟩
          · refine List.Perm.trans ?_ (unhide P3)
            rw [List.append_assoc]
            exact (told_kept os items).append_left _
          · rw [List.length_append, List.map_append]; exact unhide O6
          · exact TFr.grown (unhide F5) (unhide O5) (unhide H6) (by decide)
        case measure => simp [intOf]; omega
    · rcases Classical.em (k < len) with hkl | hkl
      have h200 : (200 : Int) ≤ (k : Int) := by omega
      clear hlt
      go_wp2_with fail
      rotate_left
      clear hlt
      go_wp2_with fail
      rotate_left
      all_goals
        go_loopw [8] (fun x wr => ∃ j : Nat, j ≤ 8 ∧ x = .int .i64 j ∧ Hid (∃ os', GRep w.heap.size wr b os' last items ∧ ∀ i, i < j → os' i = 0) ∧ Hid (wr.ownsRow w.heap.size 3 1 u6 tl.length (tl.map (Value.int .i64))) ∧ Hid (TFr w.heap.size gT2 w wr)) (fun x _ => 8 - (intOf x).toNat)
        case atStart => exact ⟨0, by omega, rfl, ⟨os, unhide G3, fun i hi => by omega⟩, O3, F3⟩
        case round =>
          clear G3 O3 F3
          obtain ⟨j, hj, rfl, HG, O4, F4⟩ := hrel
          obtain ⟨os', hg, hos'⟩ := HG.out
          have G4 := hide hg; have OS' := hide hos'; clear hg hos' HG
          by_cases hlt : j < 8
          · go_wp2_with (go_at_call 11; refine (leave_all j _ (unhide G4)).mono ?_; rintro e w5 ⟨rfl, hg, hf⟩; have G5 := hide hg; have F5 := hide ((unhide F4).trans hf gT_in); have O5 := hide (own_tfr (unhide O4) hf (by decide)); clear hg hf)
            go_roundw
            case rel =>
              refine ⟨j + 1, by omega, by go_num, ⟨_, unhide G5, fun i hi => ?_⟩, O5, F5⟩
              unfold leaveS
              rw [if_neg (by omega), Int.toNat_natCast]
              by_cases e : i = j
              · subst e
                by_cases hz : os' i = 0
                · rw [if_pos hz]; exact hz
                · rw [if_neg hz]; simp
              · have := OS'.out i (by omega)
                by_cases hz : os' j = 0
                · rw [if_pos hz]; exact this
                · rw [if_neg hz]; simp [e, this]
            case measure => simp [intOf]; omega
          · have hov : ∀ sf, overB os' sf = true := fun sf => (overB_upto os' sf).2 fun i hi => by
              have h1 := OS'.out i (by omega)
              by_cases h2 : sf i = 0
              · exact .inl h2
              · exact .inr (by rw [h1]; exact fun h => h2 h.symm)
            have ht : told os' items = items.map (·.1) := by
              unfold told
              rw [List.filter_eq_self.2 fun x _ => hov x.2]
            have hkp : kept os' items = [] := by
              unfold kept
              exact List.filter_eq_nil_iff.2 fun x _ => by simp [hov x.2]
            have HT := hide ht; have HK := hide hkp; clear ht hkp hov
            go_wp2_with fail
            refine (tick_calls _ (unhide G4) (by omega) (unhide F4).size).mono ?_
            rintro e w5 ⟨vt, rfl, ho, hg, hf⟩
            rw [HK.out] at hg
            rw [HT.out, List.length_map] at ho
            have G5 := hide hg; have F5 := hide ((unhide F4).trans hf gT_in); have O5 := hide (own_tfr (unhide O4) hf (by decide)); have T5 := hide ho; clear hg hf ho
            obtain ⟨v2, w6, hrun, hown2, hg2⟩ := run_append_own_own _ w.heap.size _ 32 32 3 i0 (.int .i64 0) 1 8 Try.underlying32 hi0 hz0 hz1 hz2 rfl (by decide) _ _ _ (unhide O5) _ _ _ (unhide T5) (fun u hu => int_one hu) (by simp only [maxLen]; omega) (by omega) (unhide F5).size
            have G6 : Hid (GRep w.heap.size w6 b os' last []) := by
              obtain ⟨cs, v, hb, hg, ho, hle⟩ := unhide G5
              exact ⟨cs, v, blk_grown (unhide O5) hb hg2 (by decide), hg, own_grown ho (unhide O5) hg2 (by decide), hle⟩
            have F6 := hide (TFr.grown (unhide F5) (unhide O5) hg2 (by decide))
            rw [HL.out, ← List.map_append] at hown2
            have HR := hide hrun
            have O6 := hide hown2
            have hperm := unhide P3
            have hnd : (tl ++ items.map (·.1)).Nodup := hperm.nodup_iff.2 (nums_nodup m)
            have hrg : ∀ x ∈ tl ++ items.map (·.1), 0 ≤ x ∧ x < m := fun x hx => nums_mem (hperm.mem_iff.1 hx)
            have hTl : (tl ++ items.map (·.1)).length = m := by rw [List.length_append, List.length_map]; exact HL.out
            generalize (tl ++ items.map (·.1)) = T at hnd hrg O6 hTl
            have ND := hide hnd; have RG := hide hrg; have TL := hide hTl
            obtain ⟨A6, c6, rfl⟩ := own_slice (unhide O6)
            clear hrun hown2 hg2 hperm hnd hrg hTl G5 F5 O5 T5 G4 F4 O4 OS'
            obtain ⟨i1, hi1, hy0, hy1, hy2⟩ := info_parts infoBool
            have hmk := fun W => run_make_rep (P := Try.prog) 37 4 i1 (.bool false) Try.underlying37 hi1 hy0 hy1 rfl m (by rw [hy2]; omega) (by omega) W
            go_wp2_with (at_builtin; refine wpList_append_run rfl (.tmp 67) (.tmp 69) 32 32 rfl HR.out ?_)
            clear hmk hy0 hy1 hy2 hi1 HR
            have O7 := hide (World.ownsRow.alloc (unhide O6) (.cells (Array.replicate m (.bool false)) 4))
            have G7 := hide ((unhide G6).tfr (T := []) ((TFr.refl w.heap.size [] w6).alloc (.cells (Array.replicate m (.bool false)) 4)) (by simp) (by simp))
            have F7 := hide ((unhide F6).alloc (.cells (Array.replicate m (.bool false)) 4))
            have B7 := hide (Blk.new w6 4 (Array.replicate m (.bool false)))
            have L7 := (unhide F6).size
            clear O6 G6 F6
            generalize w6.alloc (.cells (Array.replicate m (.bool false)) 4) = w7 at O7 G7 F7 B7 ⊢
            go_loopw [10] (fun x wr => ∃ i : Nat, i ≤ m ∧ x = .int .i64 i ∧ Hid (∃ cs : Array Value, Blk wr w6.heap.size 4 cs ∧ cs.size = m ∧ ∀ j : Nat, j < m → cs[j]? = some (.bool (decide ((j : Int) ∈ T.take i)))) ∧
              Hid (wr.ownsRow w.heap.size 3 1 (.slice A6 m c6) m (T.map (Value.int .i64))) ∧ Hid (GRep w.heap.size wr b os' last []) ∧ Hid (TFr w.heap.size gT2 w wr)) (fun x _ => m - (intOf x).toNat)
            case atStart =>
              exact ⟨0, by omega, rfl, ⟨_, unhide B7, by simp, fun j hj => by simp [hj]⟩, O7, G7, F7⟩
            case round =>
              clear O7 G7 F7 B7
              obtain ⟨i, hi, rfl, HC, O8, G8, F8⟩ := hrel
              by_cases hlt : i < m
              · obtain ⟨cs, hcb, hcs, hcv⟩ := HC.out
                obtain ⟨gt, ct, hsl, _, hcell⟩ := own_shape (unhide O8) (by omega)
                simp only [Value.slice.injEq, true_and] at hsl
                obtain ⟨rfl, rfl⟩ := hsl
                have hTi : i < T.length := by rw [TL.out]; exact hlt
                have hci := hcell i hlt
                rw [List.getElem?_map, List.getElem?_eq_getElem hTi] at hci
                have hxr := RG.out T[i] (List.getElem_mem hTi)
                have hnot : T[i] ∉ T.take i := not_ahead (unhide ND) i hTi
                have htake : T.take (i + 1) = T.take i ++ [T[i]] := List.take_succ_eq_append_getElem hTi
                generalize T[i] = x at hci hxr hnot htake
                have hci' : _ = some (Value.int .i64 x) := hci
                have hsc := hcb.cell x.toNat
                rw [hcv x.toNat (by omega), Int.toNat_of_nonneg hxr.1, decide_eq_false hnot] at hsc
                have hsf := hcb.frozen x.toNat
                have hx0 := hxr.1
                have hx1 := hxr.2
                have d1 : decide (x < 0) = false := decide_eq_false (by omega)
                have d2 : decide ((m : Int) ≤ x) = false := decide_eq_false (by omega)
                have HCB := hide hcb; have HCV := hide hcv; have HCS := hide hcs; have HTK := hide htake
                clear hcb hcv hcs htake hcell hci hnot hxr HC
                go_wp2
                go_roundw
                case rel =>
                  refine ⟨i + 1, by omega, by go_num, ⟨_, (unhide HCB).set_ x.toNat (.bool true), by simp [HCS.out], fun j hj => ?_⟩, own_set (p := ⟨w6.heap.size, x.toNat, none⟩) (unhide O8) (unhide HCB) (by decide) _, ?_, TFr.setNew (unhide F8) (p := ⟨w6.heap.size, x.toNat, none⟩) L7 _⟩
                  · rw [HTK.out, Array.getElem?_setIfInBounds]
                    by_cases e : x.toNat = j
                    · rw [if_pos e, if_pos (by rw [HCS.out]; omega), decide_eq_true]
                      rw [← e, Int.toNat_of_nonneg hx0]; simp
                    · rw [if_neg e, HCV.out j hj]
                      congr 2
                      refine decide_eq_decide.2 ?_
                      have : (j : Int) ≠ x := fun h => e (by omega)
                      simp [this]
                  · obtain ⟨cs', v, hb, hg, ho, hle⟩ := unhide G8
                    exact ⟨cs', v, hb.far (p := ⟨w6.heap.size, x.toNat, none⟩) (Blk.ne_ hb (unhide HCB) (by decide)) _, hg, own_set (p := ⟨w6.heap.size, x.toNat, none⟩) ho (unhide HCB) (by decide) _, hle⟩
                case measure => simp [intOf]; omega
              · obtain rfl : m = i := by omega
                go_wp2_with (go_at_call 15; refine (waiting_at _ (unhide G8)).mono ?_; rintro e w' ⟨rfl, rfl⟩)
                go_ret
                exact ⟨rfl, (unhide F8).below (Nat.le_refl _)⟩
theorem order_row (a0 : Option Addr) (len0 cap0 : Nat) (W : World) (w0 : RowKit2.FldRow 2 W a0 len0 cap0) (y0 : len0 * 16 ≤ 140737488351232) : Calls Try.prog 5 #[.slice a0 len0 cap0] W fun e W' => e = .returned (.bool true) ∧ Below W.heap.size W W' := by
  obtain ⟨xb, xo, f, hlc, hA, hx⟩ := w0.any (by omega)
  exact order_any a0 xb xo len0 cap0 f W hlc (by omega) hA (fun i hi j hj => (hx i hi j hj).1)
end Go.Proofs.Ytddheambeefhpaa.Gr
