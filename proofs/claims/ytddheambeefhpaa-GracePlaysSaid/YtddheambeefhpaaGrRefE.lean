/- the document's answer for grace, 5: Leave -/
import Derived.Test.YtddheambeefhpaaGrRefC
import Derived.Deep.RegionHeld3
namespace Go.Proofs.Ytddheambeefhpaa.Gr
open Go.RowKit Go.Proofs.Ytddheambeefhpaa.Own
set_option linter.unusedVariables false
set_option linter.unusedSimpArgs false

abbrev rWith (n : Int) (items : List RItem) : List RItem := items.map fun x => (x.1, x.2.filter (· != n))
def rLeave (o : List Int) (items : List RItem) (n : Int) : List Int × List RItem × Int := if n < 0 ∨ 7 < n then (o, items, 1) else if n ∈ o then (o.filter (· != n), rWith n items, 0) else (o, items, 9)
def LeavePost (w : World) (o : List Int) (items : List RItem) (n : Int) (e : Ending) (w' : World) : Prop := ∃ vo vi, e = .returned (.tuple #[.agg #[vo, vi], .int .i64 (rLeave o items n).2.2]) ∧ IRow w' vo (rLeave o items n).1 ∧ JOwn 0 w' vi (rLeave o items n).2.1 ∧ TFr 0 [] w w'
structure LMid (w : World) (o : List Int) (A : Option Addr) (n c : Nat) (A1 : Option Addr) (n1 c1 : Nat) (who : Int) (items : List RItem) (k : Nat) (vl : Value) (wr : World) : Prop where
  box : Blk wr w.heap.size 41 #[.slice A n c, .slice A1 n1 c1]
  res : Blk wr (w.heap.size + 1) 41 #[.slice none 0 0, .slice none 0 0]
  opn : IRow wr (.slice A n c) o
  left : JOwn w.heap.size wr vl (rWith who (items.take k))
  fr : TFr 0 [] w wr
theorem JOwn.grownJ {base : Nat} {w w' : World} {v : Value} {l : List Int} {n : Nat} {xs : List Value} {u : Value} (h : IRow w v l) (ho : w.ownsRow base 59 2 u n xs) (hg : w.grownBy w' u.ownBlock) : IRow w' v l := own_grown h ho hg (by decide)
theorem IRow.set_ {w : World} {v : Value} {l : List Int} (h : IRow w v l) {p : Addr} {t : TypeId} {cs : Array Value} (hb : Blk w p.block t cs) (hne : (3 : TypeId) ≠ t) (u : Value) : IRow (w.setCell p u) v l := own_set h hb hne u
theorem JOwn.set_ {base : Nat} {w : World} {v : Value} {items : List RItem} (h : JOwn base w v items) {p : Addr} {cs : Array Value} (hb : Blk w p.block 41 cs) (u : Value) : JOwn base (w.setCell p u) v items := by
  obtain ⟨ys, h1, h2, h3⟩ := h
  exact ⟨ys, h1, own_set h2 hb (by decide) u, fun x hx => (h3 x hx).set_ hb (by decide) u⟩
theorem keep_alloc {w : World} {p : Addr} {v : Value} (h : w.cell? p = some v) (o : Obj) : (w.alloc o).cell? p = some v := keep0 ((TFr.refl 0 [] w).alloc o) h
theorem rwith_snoc (n : Int) (items : List RItem) (k : Nat) (hk : k < items.length) : rWith n (items.take (k + 1)) = rWith n (items.take k) ++ [(items[k].1, items[k].2.filter (· != n))] := by
  rw [rWith, List.take_succ_eq_append_getElem hk, List.map_append]; rfl
set_option maxRecDepth 100000 in
set_option maxHeartbeats 4000000 in
theorem rleave_calls (o : List Int) (items : List RItem) (vo vi : Value) (n : Int) (w : World) (h : IRow w vo o) (hj : JOwn 0 w vi items) (hl : o.length ≤ 100000) (hm : items.length < 10000) (hsh : ∀ x ∈ items, x.2.length ≤ 100000) : Calls Try.prog 17 #[.agg #[vo, vi], .int .i64 n] w (LeavePost w o items n) := by
  obtain ⟨A, c, rfl⟩ := h.slice
  obtain ⟨A1, c1, rfl⟩ := hj.slice
  obtain ⟨i0, hi0, hz0, hz1, hz2⟩ := info_parts infoR
  have HO := hide h; have HJ := hide hj; have HSH := hide hsh; clear h hj hsh
  unfold LeavePost rLeave
  by_cases h1 : n < 0 ∨ 7 < n
  · rw [if_pos h1]
    go_enter Try.func17, Try.ntmps17
    go_wp2
    all_goals
      refine bodyPost_ret (results_ct rfl _ _ _ 41 _ _ rfl (Blk.at _ _ (by simp)) Try.underlying41 rfl (by kernel_rfl)) rfl ?_
      exact ⟨_, _, rfl, (unhide HO).tfr (((TFr.refl 0 [] w).alloc _).alloc _) (by decide), (unhide HJ).tfr (((TFr.refl 0 [] w).alloc _).alloc _) (by decide) (by decide), ((TFr.refl _ _ _).alloc _).alloc _⟩
  · rw [if_neg h1]
    by_cases h2 : n ∈ o
    · rw [if_pos h2]
      have hd : decide (n ∈ o) = true := decide_eq_true h2
      clear h2
      have hfl : (o.filter (· != n)).length ≤ o.length := List.length_filter_le _ _
      obtain ⟨o2, ho2⟩ : ∃ o2, o.filter (· != n) = o2 := ⟨_, rfl⟩
      rw [ho2] at hfl ⊢
      have HO2 := hide ho2; clear ho2
      go_enter Try.func17, Try.ntmps17
      go_wp2_with (first
        | (go_at_call 24; refine (in_calls o _ n _ ((unhide HO).tfr (((TFr.refl 0 [] w).alloc _).alloc _) (by decide)) (by omega)).mono ?_; rintro e w' ⟨rfl, rfl⟩; rw [hd])
        | (go_at_call 25; refine (without_calls o _ n _ ((unhide HO).tfr (((TFr.refl 0 [] w).alloc _).alloc _) (by decide)) (by omega)).mono ?_; rintro e w2 ⟨v2, rfl, hr2, hf2⟩; rw [HO2.out] at hr2; obtain ⟨A2, c2, rfl⟩ := hr2.slice; have hB0 := (Blk.alloc (Blk.at (w := w) 41 #[.slice A o.length c, .slice A1 items.length c1] rfl) _).tfr hf2 (by simp); have hB1 := (Blk.at (w := w.alloc _) (g := w.heap.size + 1) 41 #[.slice none 0 0, .slice none 0 0] (by simp)).tfr hf2 (by simp); have ca : w2.cell? ⟨w.heap.size, 0, none⟩ = some (.slice A o.length c) := hB0.cell 0; have fa := hB0.frozen 0; have HB0 := hide hB0; have HB1 := hide hB1; have HR2 := hide hr2; have HF2 := hide hf2; clear hB0 hB1 hr2 hf2))
      have hM : LMid w o2 A2 o2.length c2 A1 items.length c1 n items 0 (.slice none 0 0) (w2.setCell ⟨w.heap.size, 0, none⟩ (.slice A2 o2.length c2)) :=
        ⟨(unhide HB0).put 0 _ rfl, (unhide HB1).far (p := ⟨w.heap.size, 0, none⟩) (by simp) _, (unhide HR2).set_ (p := ⟨w.heap.size, 0, none⟩) (unhide HB0) (by decide) _, JOwn.nil _ _, ((((TFr.refl 0 [] w).alloc _).alloc _).trans (unhide HF2) (fun _ h => h)).setNew (p := ⟨w.heap.size, 0, none⟩) (Nat.le_refl _) _⟩
      have HM := hide hM
      clear hM ca fa HB0 HB1 HR2 HF2
      go_loopw [6, 7] (fun vl x wr => ∃ k : Nat, k ≤ items.length ∧ x = .int .i64 k ∧ Hid (LMid w o2 A2 o2.length c2 A1 items.length c1 n items k vl wr)) (fun _ x _ => items.length - (intOf x).toNat)
      case atStart => exact ⟨0, by omega, rfl, HM⟩
      case round =>
        obtain ⟨k, hk, rfl, HK⟩ := hrel
        obtain ⟨hbox, hres, hopn, hleft, hfr⟩ := HK.out
        have ca : wr.cell? ⟨w.heap.size, 0, none⟩ = some (.slice A2 o2.length c2) := hbox.cell 0
        have cb : wr.cell? ⟨w.heap.size, 1, none⟩ = some (.slice A1 items.length c1) := hbox.cell 1
        have fb := hbox.frozen 1
        have HBOX := hide hbox; have HRES := hide hres; have HOPN := hide hopn; have HLEFT := hide hleft; have HFR := hide hfr
        clear hbox hres hopn hleft hfr
        by_cases hlt : k < items.length
        · obtain ⟨g, A3, c3, rfl, hc0, hc1, hrow⟩ := JOwn.at (unhide HJ) hlt
          have W0 := hide hc0; have W1 := hide hc1
          have q0 := keep0 (unhide HFR) hc0
          have q1 := keep0 (unhide HFR) hc1
          have hrow := hrow.tfr (unhide HFR) (by decide)
          have hsn := rwith_snoc n items k hlt
          have hsl := HSH.out items[k] (List.getElem_mem hlt)
          generalize items[k] = it at *
          obtain ⟨wt, fl⟩ := it
          have q0 : wr.cell? ⟨g, k * 2, none⟩ = some (.int .i64 wt) := q0
          have q1 : wr.cell? ⟨g, k * 2 + 1, none⟩ = some (.slice A3 fl.length c3) := q1
          have HSN := hide hsn; have HROW := hide hrow; have HSL := hide hsl
          clear hsn hrow hc0 hc1 hsl
          obtain ⟨xs, hxs, hxo, hxi⟩ := HLEFT.out
          have hxl : xs.length = k := by
            have := congrArg List.length hxs
            rw [List.length_map, List.length_map, List.length_take] at this
            omega
          have HXS := hide hxs; have HXO := hide hxo; have HXI := hide hxi
          clear hxs hxo hxi
          go_wp2
          go_region_held3 (fun w' => w'.cell? ⟨w.heap.size, 1, none⟩ = some (.slice (some ⟨g, 0, none⟩) items.length c1) ∧ w'.cell? ⟨g, k * 2, none⟩ = some (.int .i64 wt) ∧ w'.cell? ⟨g, k * 2 + 1, none⟩ = some (.slice A3 fl.length c3)) (first | exact ⟨cb3, q30, q31⟩ | exact ⟨cb9, q90, q91⟩ | exact ⟨keep_alloc cb9 _, keep_alloc q90 _, keep_alloc q91 _⟩ | go_keep) (first
            | (refine step_append_own rfl (.tmp 33) (.tmp 49) 39 rfl w.heap.size 59 i0 _ 2 32 Try.underlying39 hi0 hz0 hz1 hz2 rfl (by decide) u6 xs.length (xs.flatMap jc) (by simp [Act.eval, Act.put]) (World.ownsRow.alloc (unhide HXO9) _) ⟨_, 0, none⟩ 1 1 [.int .i64 wt, .slice A9 f9.length c9] (by simp [Act.eval, Act.put]) rfl (fun j u h => new_cell j u h) (fun u hu => by simp at hu; rcases hu with rfl | rfl <;> rfl) (by simp only [maxLen]; omega) (by omega) (alloc_size _ (Nat.le_trans (unhide HFR).size (unhide HF9).size)) ?_; intro v2 w3 hown3 hg3; obtain ⟨A4, c4, rfl⟩ := own_slice hown3; have hf3 := TFr.grown_new (((unhide HFR).trans (unhide HF9) (fun _ h => h)).alloc _) (World.ownsRow.alloc (unhide HXO9) _) hg3 (Nat.le_refl _); have q30 := keep0 hf3 W0.out; have q31 := keep0 hf3 W1.out; have hb3 := blk_grown (World.ownsRow.alloc (unhide HXO9) _) (Blk.alloc ((unhide HBOX).tfr (unhide HF9) (by simp)) _) hg3 (by decide); have cb3 : w3.cell? ⟨w.heap.size, 1, none⟩ = some (.slice (some ⟨g, 0, none⟩) items.length c1) := hb3.cell 1; have HB3 := hide hb3; have HF3 := hide hf3; have HOWN3 := hide hown3; have HG3 := hide hg3; clear hown3 hg3 hb3 hf3)
            | (go_at_call 25; refine (without_calls fl _ n _ (World.ownsRow.drew (unhide HROW)) (Nat.le_trans HSL.out (by omega))).mono ?_; rintro e w9 ⟨v9, rfl, hr9, hf9⟩; have hf9 := (TFr.refl 0 [] wr).drew.trans hf9 (fun _ h => h); obtain ⟨A9, c9, rfl⟩ := hr9.slice; obtain ⟨f9, hf99⟩ : ∃ f9, fl.filter (· != n) = f9 := ⟨_, rfl⟩; rw [hf99] at hr9 ⊢; have q90 := keep0 hf9 q0; have q91 := keep0 hf9 q1; have ca9 := keep0 hf9 ca; have cb9 := keep0 hf9 cb; have HXO9 := hide (own_tfr (unhide HXO) hf9 (by decide)); have HR9 := hide hr9; have HF9 := hide hf9; have HF99 := hide hf99; clear hr9 hf9 hf99))
          all_goals go_wp2
          go_roundw
          case rel =>
            have hown1 := World.ownsRow.alloc (unhide HXO9) (.cells #[.int .i64 wt, .slice A9 f9.length c9] 59)
            have mv : ∀ {v : Value} {l : List Int}, IRow w9 v l → IRow w3 v l := fun h => JOwn.grownJ (World.ownsRow.alloc h _) hown1 (unhide HG3)
            refine ⟨k + 1, by omega, by go_num, unhide HB3, blk_grown hown1 (((unhide HRES).tfr (unhide HF9) (by simp)).alloc _) (unhide HG3) (by decide), mv ((unhide HOPN).tfr (unhide HF9) (by simp)), ?_, unhide HF3⟩
            rw [HSN.out, HF99.out, ← HXS.out]
            exact JOwn.snoc (by have h := unhide HOWN3; rw [hxl] at h ⊢; exact h) (fun x hx => mv ((unhide HXI x hx).tfr (unhide HF9) (by simp))) (mv (unhide HR9))
          case measure => simp [intOf]; omega
        · have cc : wr.cell? ⟨w.heap.size + 1, 0, none⟩ = some (.slice none 0 0) := (unhide HRES).cell 0
          have cd : wr.cell? ⟨w.heap.size + 1, 1, none⟩ = some (.slice none 0 0) := (unhide HRES).cell 1
          have fc := (unhide HRES).frozen 0; have fd := (unhide HRES).frozen 1
          have hleft := unhide HLEFT
          obtain rfl : k = items.length := by omega
          rw [List.take_length] at hleft
          obtain ⟨A5, c5, rfl⟩ := hleft.slice
          rw [List.length_map] at hleft
          clear HLEFT
          have HLEFT := hide hleft
          clear hleft
          rw [List.length_map]
          go_wp2
          have hb1 := (unhide HRES).far (p := ⟨w.heap.size, 1, none⟩) (by simp) (.slice A5 items.length c5)
          have hb2 := hb1.put 0 (.slice A2 o2.length c2) (cs' := #[.slice A2 o2.length c2, .slice none 0 0]) rfl
          have hb3 := hb2.put 1 (.slice A5 items.length c5) (cs' := #[.slice A2 o2.length c2, .slice A5 items.length c5]) rfl
          refine bodyPost_ret (results_ct rfl _ _ _ 41 _ _ rfl hb3 Try.underlying41 rfl (by kernel_rfl)) rfl ?_
          have hl := ((((unhide HLEFT).set_ (p := ⟨w.heap.size, 1, none⟩) (unhide HBOX) (.slice A5 items.length c5)).set_ (p := ⟨w.heap.size + 1, 0, none⟩) hb1 (.slice A2 o2.length c2)).set_ (p := ⟨w.heap.size + 1, 1, none⟩) hb2 (.slice A5 items.length c5))
          have ho := ((((unhide HOPN).set_ (p := ⟨w.heap.size, 1, none⟩) (unhide HBOX) (by decide) (.slice A5 items.length c5)).set_ (p := ⟨w.heap.size + 1, 0, none⟩) hb1 (by decide) (.slice A2 o2.length c2)).set_ (p := ⟨w.heap.size + 1, 1, none⟩) hb2 (by decide) (.slice A5 items.length c5))
          have hf := ((((unhide HFR).setNew (p := ⟨w.heap.size, 1, none⟩) (Nat.le_refl _) (.slice A5 items.length c5)).setNew (p := ⟨w.heap.size + 1, 0, none⟩) (by simp) (.slice A2 o2.length c2)).setNew (p := ⟨w.heap.size + 1, 1, none⟩) (by simp) (.slice A5 items.length c5))
          exact ⟨_, _, rfl, ho, hl.mono, hf⟩
    · rw [if_neg h2]
      have hd : decide (n ∈ o) = false := decide_eq_false h2
      clear h2
      go_enter Try.func17, Try.ntmps17
      go_wp2_with (go_at_call 24; refine (in_calls o _ n _ ((unhide HO).tfr (((TFr.refl 0 [] w).alloc _).alloc _) (by decide)) (by omega)).mono ?_; rintro e w' ⟨rfl, rfl⟩; rw [hd])
      refine bodyPost_ret (results_ct rfl _ _ _ 41 _ _ rfl (Blk.at _ _ (by simp)) Try.underlying41 rfl (by kernel_rfl)) rfl ?_
      exact ⟨_, _, rfl, (unhide HO).tfr (((TFr.refl 0 [] w).alloc _).alloc _) (by decide), (unhide HJ).tfr (((TFr.refl 0 [] w).alloc _).alloc _) (by decide) (by decide), ((TFr.refl _ _ _).alloc _).alloc _⟩
end Go.Proofs.Ytddheambeefhpaa.Gr
