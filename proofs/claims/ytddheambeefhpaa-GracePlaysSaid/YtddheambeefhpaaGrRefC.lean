/- the document's answer for grace, 3: Tick, Leave -/
import Derived.Test.YtddheambeefhpaaGrRefB
namespace Go.Proofs.Ytddheambeefhpaa.Gr
open Go.RowKit Go.Proofs.Ytddheambeefhpaa.Own
set_option linter.unusedVariables false
set_option linter.unusedSimpArgs false

def rTick (items : List RItem) : List RItem × List Int := (items.filter (fun x => !x.2.isEmpty), (items.filter (fun x => x.2.isEmpty)).map (·.1))
theorem rtick_snoc (items : List RItem) (k : Nat) (hk : k < items.length) : rTick (items.take (k + 1)) = if items[k].2.length = 0 then ((rTick (items.take k)).1, (rTick (items.take k)).2 ++ [items[k].1]) else ((rTick (items.take k)).1 ++ [items[k]], (rTick (items.take k)).2) := by
  unfold rTick
  rw [List.take_succ_eq_append_getElem hk, List.filter_append, List.filter_append, List.map_append]
  by_cases h : items[k].2.length = 0
  · have he : items[k].2.isEmpty = true := by simpa [List.isEmpty_iff, List.length_eq_zero_iff] using h
    simp [he, h]
  · have he : items[k].2.isEmpty = false := by
      cases hq : items[k].2 with
      | nil => rw [hq] at h; simp at h
      | cons a l => rfl
    simp [he, h]
def RTickPost (w : World) (vo : Value) (items : List RItem) (e : Ending) (w' : World) : Prop := ∃ vi vt, e = .returned (.tuple #[.agg #[vo, vi], vt]) ∧ JOwn 0 w' vi (rTick items).1 ∧ IRow w' vt (rTick items).2 ∧ TFr 0 [] w w'
theorem keep0 {w wr : World} (hf : TFr 0 [] w wr) {p : Addr} {v : Value} (h : w.cell? p = some v) : wr.cell? p = some v := by
  have hp : p.block < w.heap.size := by
    rcases Nat.lt_or_ge p.block w.heap.size with hlt | hge
    · exact hlt
    · simp [World.cell?, Array.getElem?_eq_none hge] at h
  rw [World.cell?_of_block (hf.block p.block hp (.inr fun _ _ _ _ => by simp))]; exact h
/-- A list of items whose lists are those of an elder world. -/
def JAt (w0 : World) (base : Nat) (w : World) (v : Value) (items : List RItem) : Prop := ∃ xs : List Entry, xs.map je = items ∧ w.ownsRow base 59 2 v xs.length (xs.flatMap jc) ∧ ∀ x ∈ xs, IRow w0 x.2.2 x.2.1
theorem JAt.to {w0 w : World} {base : Nat} {v : Value} {items : List RItem} (h : JAt w0 base w v items) (hf : TFr 0 [] w0 w) : JOwn 0 w v items := by
  obtain ⟨xs, h1, h2, h3⟩ := h
  exact ⟨xs, h1, World.ownsRow.mono h2 (Nat.zero_le _), fun x hx => (h3 x hx).tfr hf (by decide)⟩
theorem JAt.grown {w0 w w' : World} {base base' : Nat} {v u : Value} {items : List RItem} {n : Nat} {xs : List Value} (h : JAt w0 base w v items) (ho : w.ownsRow base' 3 1 u n xs) (hg : w.grownBy w' u.ownBlock) : JAt w0 base w' v items := by
  obtain ⟨ys, h1, h2, h3⟩ := h
  exact ⟨ys, h1, own_grown h2 ho hg (by decide), h3⟩
theorem JAt.slice {w0 w : World} {base : Nat} {v : Value} {items : List RItem} (h : JAt w0 base w v items) : ∃ A c, v = .slice A items.length c := by
  obtain ⟨xs, rfl, h2, _⟩ := h
  rw [List.length_map]
  exact own_slice h2
theorem JAt.set_ {w0 w : World} {base : Nat} {v : Value} {items : List RItem} (h : JAt w0 base w v items) {p : Addr} {t : TypeId} {cs : Array Value} (hb : Blk w p.block t cs) (hne : (59 : TypeId) ≠ t) (u : Value) : JAt w0 base (w.setCell p u) v items := by
  obtain ⟨ys, h1, h2, h3⟩ := h
  exact ⟨ys, h1, own_set h2 hb hne u, h3⟩
theorem JAt.alloc {w0 w : World} {base : Nat} {v : Value} {items : List RItem} (h : JAt w0 base w v items) (o : Obj) : JAt w0 base (w.alloc o) v items := by
  obtain ⟨ys, h1, h2, h3⟩ := h
  exact ⟨ys, h1, World.ownsRow.alloc h2 _, h3⟩
structure RMid (w : World) (A : Option Addr) (n c : Nat) (A1 : Option Addr) (n1 c1 : Nat) (items : List RItem) (k : Nat) (vt vl : Value) (wr : World) : Prop where
  box : Blk wr w.heap.size 41 #[.slice A n c, .slice A1 n1 c1]
  res : Blk wr (w.heap.size + 1) 41 #[.slice none 0 0, .slice none 0 0]
  told : wr.ownsRow w.heap.size 3 1 vt (rTick (items.take k)).2.length (ints (rTick (items.take k)).2)
  left : JAt w w.heap.size wr vl (rTick (items.take k)).1
  fr : TFr 0 [] w wr
theorem rtick_le (items : List RItem) (k : Nat) : (rTick (items.take k)).1.length ≤ k ∧ (rTick (items.take k)).2.length ≤ k := by
  unfold rTick
  refine ⟨Nat.le_trans (List.length_filter_le _ _) (List.length_take_le _ _), ?_⟩
  rw [List.length_map]
  exact Nat.le_trans (List.length_filter_le _ _) (List.length_take_le _ _)
set_option maxRecDepth 100000 in
set_option maxHeartbeats 1000000 in
theorem rtick_calls (items : List RItem) (A : Option Addr) (n c : Nat) (vi : Value) (w : World) (hj : JOwn 0 w vi items) (hm : items.length < 10000) : Calls Try.prog 19 #[.agg #[.slice A n c, vi]] w (RTickPost w (.slice A n c) items) := by
  obtain ⟨A1, c1, rfl⟩ := hj.slice
  obtain ⟨i0, hi0, hz0, hz1, hz2⟩ := info_parts infoR
  obtain ⟨i1, hi1, hy0, hy1, hy2⟩ := info_parts infoInt
  have HJ := hide hj; clear hj
  have hM : RMid w A n c A1 items.length c1 items 0 (.slice none 0 0) (.slice none 0 0) ((w.alloc (.cells #[.slice A n c, .slice A1 items.length c1] 41)).alloc (.cells #[.slice none 0 0, .slice none 0 0] 41)) :=
    ⟨Blk.alloc (Blk.at _ _ rfl) _, Blk.at _ _ (by simp), World.ownsRow_nil _ _ _ _, ⟨[], rfl, World.ownsRow_nil _ _ _ _, fun x hx => by cases hx⟩, ((TFr.refl 0 [] w).alloc _).alloc _⟩
  have HM := hide hM; clear hM
  go_enter Try.func19, Try.ntmps19
  go_wp2
  go_loopw [4, 5, 6] (fun vt vl x wr => ∃ k : Nat, k ≤ items.length ∧ x = .int .i64 k ∧ Hid (RMid w A n c A1 items.length c1 items k vt vl wr)) (fun _ _ x _ => items.length - (intOf x).toNat)
  case atStart => exact ⟨0, by omega, rfl, HM⟩
  case round =>
    obtain ⟨k, hk, rfl, HK⟩ := hrel
    obtain ⟨hbox, hres, htold, hleft, hfr⟩ := HK.out
    have ca : wr.cell? ⟨w.heap.size, 0, none⟩ = some (.slice A n c) := hbox.cell 0
    have cb : wr.cell? ⟨w.heap.size, 1, none⟩ = some (.slice A1 items.length c1) := hbox.cell 1
    have fb := hbox.frozen 1
    have HBOX := hide hbox; have HRES := hide hres; have HTOLD := hide htold; have HLEFT := hide hleft; have HFR := hide hfr
    clear hbox hres htold hleft hfr
    by_cases hlt : k < items.length
    · obtain ⟨g, A2, c2, rfl, hc0, hc1, hrow⟩ := JOwn.at (unhide HJ) hlt
      have hc0 := keep0 (unhide HFR) hc0; have hc1 := keep0 (unhide HFR) hc1
      have hsn := rtick_snoc items k hlt
      have hle := rtick_le items k
      generalize items[k] = it at *
      obtain ⟨wt, fl⟩ := it
      have q0 : wr.cell? ⟨g, k * 2, none⟩ = some (.int .i64 wt) := hc0
      have q1 : wr.cell? ⟨g, k * 2 + 1, none⟩ = some (.slice A2 fl.length c2) := hc1
      have HSN := hide hsn; have HROW := hide hrow
      clear hsn hrow hc0 hc1
      rcases Classical.em (fl.length = 0) with he | he
      · have hd : decide (fl.length = 0) = true := decide_eq_true he
        have hd2 : ((fl.length : Int) == 0) = true := beq_iff_eq.2 (by omega)
        have HE := hide he; clear he
        go_wp2_with (at_builtin; refine wpList_append_own _ rfl (.tmp 22) (.tmp 29) 32 rfl w.heap.size 3 i1 (.int .i64 0) 1 8 Try.underlying32 hi1 hy0 hy1 hy2 rfl (by decide) _ (rTick (items.take k)).2.length (ints (rTick (items.take k)).2) rfl (World.ownsRow.alloc (unhide HTOLD) _) ⟨_, 0, none⟩ 1 1 [.int .i64 wt] rfl rfl (fun j u h => new_cell j u h) (fun u hu => by simp at hu; subst hu; rfl) (by simp only [maxLen]; omega) (by omega) ?c5 ?_; (case c5 => exact alloc_size _ (unhide HFR).size); intro v2 w2 hown2 hg2 _; have HOWN2 := hide hown2; have HG2 := hide hg2; clear hown2 hg2)
        go_roundw
        case rel =>
          have hown1 := World.ownsRow.alloc (unhide HTOLD) (.cells #[.int .i64 wt] 3)
          refine ⟨k + 1, by omega, by go_num, blk_grown hown1 ((unhide HBOX).alloc _) (unhide HG2) (by decide), blk_grown hown1 ((unhide HRES).alloc _) (unhide HG2) (by decide), ?_, ?_, TFr.grown_new ((unhide HFR).alloc _) hown1 (unhide HG2) (Nat.le_refl _)⟩
          · rw [HSN.out, if_pos HE.out, List.length_append, ints, List.map_append]; exact HOWN2.out
          · rw [HSN.out, if_pos HE.out]; exact ((unhide HLEFT).alloc _).grown hown1 (unhide HG2)
        case measure => simp [intOf]; omega
      · have hd : decide (fl.length = 0) = false := decide_eq_false he
        have hd2 : ((fl.length : Int) == 0) = false := beq_eq_false_iff_ne.2 (by omega)
        have HE := hide he; clear he
        obtain ⟨xs, hxs, hxo, hxi⟩ := HLEFT.out
        have hxl : xs.length = (rTick (items.take k)).1.length := by rw [← hxs, List.length_map]
        have HXS := hide hxs; have HXO := hide hxo; have HXI := hide hxi
        clear hxs hxo hxi
        go_wp2_with (at_builtin; refine wpList_append_own _ rfl (.tmp 31) (.tmp 37) 39 rfl w.heap.size 59 i0 _ 2 32 Try.underlying39 hi0 hz0 hz1 hz2 rfl (by decide) _ xs.length (xs.flatMap jc) rfl (World.ownsRow.alloc (unhide HXO) _) ⟨_, 0, none⟩ 1 1 [.int .i64 wt, .slice A2 fl.length c2] rfl rfl (fun j u h => new_cell j u h) (fun u hu => by simp at hu; rcases hu with rfl | rfl <;> rfl) (by simp only [maxLen]; omega) (by omega) ?c5 ?_; (case c5 => exact alloc_size _ (unhide HFR).size); intro v2 w2 hown2 hg2 _; have HOWN2 := hide hown2; have HG2 := hide hg2; clear hown2 hg2)
        go_roundw
        case rel =>
          have hown1 := World.ownsRow.alloc (unhide HXO) (.cells #[.int .i64 wt, .slice A2 fl.length c2] 59)
          refine ⟨k + 1, by omega, by go_num, blk_grown hown1 ((unhide HBOX).alloc _) (unhide HG2) (by decide), blk_grown hown1 ((unhide HRES).alloc _) (unhide HG2) (by decide), ?_, ?_, TFr.grown_new ((unhide HFR).alloc _) hown1 (unhide HG2) (Nat.le_refl _)⟩
          · rw [HSN.out, if_neg HE.out]; exact own_grown (World.ownsRow.alloc (unhide HTOLD) _) hown1 (unhide HG2) (by decide)
          · rw [HSN.out, if_neg HE.out, ← HXS.out]
            refine ⟨xs ++ [(wt, fl, .slice A2 fl.length c2)], by simp, by simpa [jc] using HOWN2.out, fun y hy => ?_⟩
            rcases List.mem_append.1 hy with hy | hy
            · exact HXI.out y hy
            · simp at hy; subst hy; exact HROW.out
        case measure => simp [intOf]; omega
    · have cc : wr.cell? ⟨w.heap.size + 1, 0, none⟩ = some (.slice none 0 0) := (unhide HRES).cell 0
      have cd : wr.cell? ⟨w.heap.size + 1, 1, none⟩ = some (.slice none 0 0) := (unhide HRES).cell 1
      have fc := (unhide HRES).frozen 0; have fd := (unhide HRES).frozen 1
      have htold := unhide HTOLD; have hleft := unhide HLEFT
      obtain rfl : k = items.length := by omega
      rw [List.take_length] at htold hleft
      obtain ⟨A5, c5, rfl⟩ := hleft.slice
      obtain ⟨A4, c4, rfl⟩ := own_slice htold
      clear HTOLD HLEFT
      have HTOLD := hide htold; have HLEFT := hide hleft
      clear htold hleft
      generalize (rTick items).1.length = n5 at *
      generalize (rTick items).2.length = n4 at *
      go_wp2
      have hb1 := (unhide HRES).far (p := ⟨w.heap.size, 1, none⟩) (by simp) (.slice A5 n5 c5)
      have hb2 := hb1.put 0 (.slice A n c) (cs' := #[.slice A n c, .slice none 0 0]) rfl
      have hb3 := hb2.put 1 (.slice A5 n5 c5) (cs' := #[.slice A n c, .slice A5 n5 c5]) rfl
      refine bodyPost_ret (results_ct rfl _ _ _ 41 _ _ rfl hb3 Try.underlying41 rfl (by kernel_rfl)) rfl ?_
      have hl := ((((unhide HLEFT).set_ (p := ⟨w.heap.size, 1, none⟩) (unhide HBOX) (by decide) (.slice A5 n5 c5)).set_ (p := ⟨w.heap.size + 1, 0, none⟩) hb1 (by decide) (.slice A n c)).set_ (p := ⟨w.heap.size + 1, 1, none⟩) hb2 (by decide) (.slice A5 n5 c5))
      have ho := own_set (p := ⟨w.heap.size + 1, 1, none⟩) (own_set (p := ⟨w.heap.size + 1, 0, none⟩) (own_set (p := ⟨w.heap.size, 1, none⟩) (unhide HTOLD) (unhide HBOX) (by decide) (.slice A5 n5 c5)) hb1 (by decide) (.slice A n c)) hb2 (by decide) (.slice A5 n5 c5)
      have hf := ((((unhide HFR).setNew (p := ⟨w.heap.size, 1, none⟩) (Nat.le_refl _) (.slice A5 n5 c5)).setNew (p := ⟨w.heap.size + 1, 0, none⟩) (by simp) (.slice A n c)).setNew (p := ⟨w.heap.size + 1, 1, none⟩) (by simp) (.slice A5 n5 c5))
      have hlen := ho.1
      exact ⟨_, _, rfl, hl.to hf, IRow.of ho (by simpa [ints] using hlen.symm) rfl, hf⟩
end Go.Proofs.Ytddheambeefhpaa.Gr
