/- GracePlays: the walk -/
import Derived.Test.YtddheambeefhpaaGrSim
import Derived.Test.YtddheambeefhpaaGrRefD
import Derived.Test.YtddheambeefhpaaRowKit
import Derived.Deep.RegionHeld3
namespace Go.Proofs.Ytddheambeefhpaa.Gr
open Go.RowKit Go.Proofs.Ytddheambeefhpaa.Own
set_option linter.unusedVariables false
set_option linter.unusedSimpArgs false

abbrev gT3 : List TypeId := [41, 52, 54]
theorem gT_in3 : ∀ t ∈ gT, t ∈ gT3 := by decide
theorem renter_len (o : List Int) (who : Int) : (rEnter o who).1.length ≤ o.length + 1 := by
  unfold rEnter
  split
  · simp
  · split <;> simp
theorem any0 {B : Nat} {T : List TypeId} {a w : World} (h : TFr 0 [] a w) : TFr B T a w := ⟨h.os, h.tape, h.output, h.size, fun i hi _ => h.block i hi (.inr fun _ _ _ _ => by simp)⟩
/-- What is known ahead of each deed, and behind it. -/
structure PSt (w : World) (b rb : Nat) (k : Nat) (os : Nat → Int) (last : Int) (ps : List (Item × RItem)) (o : List Int) (vo vi : Value) (wr : World) : Prop where
  rep : GRep w.heap.size wr b os last (its ps)
  sim : Sim os last ps o
  box : Blk wr rb 41 #[vo, vi]
  opn : IRow wr vo o
  items : JOwn 0 wr vi (rits ps)
  fr : TFr w.heap.size gT3 w wr
  lastk : last ≤ k
  ok : o.length ≤ k
  psk : ps.length ≤ k
theorem GRep.setFar {B : Nat} {w : World} {b : Nat} {os : Nat → Int} {last : Int} {items : List Item} (h : GRep B w b os last items) {p : Addr} {cs : Array Value} (hb : Blk w p.block 41 cs) (u : Value) : GRep B (w.setCell p u) b os last items := by
  obtain ⟨ds, v, hk, hg, ho, hl⟩ := h
  exact ⟨ds, v, hk.far (Blk.ne_ hk hb (by decide)) u, hg, own_set ho hb (by decide) u, hl⟩
theorem PSt.put {w : World} {b rb : Nat} {k : Nat} {os : Nat → Int} {last : Int} {ps : List (Item × RItem)} {o : List Int} {v0 v1 : Value} (vo vi : Value) {w6 : World} (hg : GRep w.heap.size w6 b os last (its ps)) (hs : Sim os last ps o) (hb : Blk w6 rb 41 #[v0, v1]) (ho : IRow w6 vo o) (hj : JOwn 0 w6 vi (rits ps))
    (hf : TFr w.heap.size gT3 w w6) (hr : w.heap.size ≤ rb) (h1 : last ≤ k) (h2 : o.length ≤ k) (h3 : ps.length ≤ k) : PSt w b rb k os last ps o vo vi ((w6.setCell ⟨rb, 0, none⟩ vo).setCell ⟨rb, 1, none⟩ vi) := by
  have hb1 := hb.put 0 vo (cs' := #[vo, v1]) rfl
  exact ⟨(hg.setFar (p := ⟨rb, 0, none⟩) hb vo).setFar (p := ⟨rb, 1, none⟩) hb1 vi, hs, hb1.put 1 vi rfl, (ho.set_ (p := ⟨rb, 0, none⟩) hb (by decide) vo).set_ (p := ⟨rb, 1, none⟩) hb1 (by decide) vi, (hj.set_ (p := ⟨rb, 0, none⟩) hb vo).set_ (p := ⟨rb, 1, none⟩) hb1 vi,
    (hf.setCell (p := ⟨rb, 0, none⟩) hb (by decide) hr vo).setCell (p := ⟨rb, 1, none⟩) hb1 (by decide) hr vi, h1, h2, h3⟩
theorem PSt.mono {w : World} {b rb : Nat} {k k' : Nat} {os : Nat → Int} {last : Int} {ps : List (Item × RItem)} {o : List Int} {vo vi : Value} {wr : World} (h : PSt w b rb k os last ps o vo vi wr) (hk : k ≤ k') : PSt w b rb k' os last ps o vo vi wr :=
  ⟨h.rep, h.sim, h.box, h.opn, h.items, h.fr, by have := h.lastk; omega, by have := h.ok; omega, by have := h.psk; omega⟩
theorem short_of {os : Nat → Int} {last : Int} {ps : List (Item × RItem)} {o : List Int} (h : Sim os last ps o) : ∀ x ∈ rits ps, x.2.length ≤ 100000 := by
  intro x hx
  obtain ⟨p, hp, rfl⟩ := List.mem_map.1 hx
  have := (h.each p hp).short
  omega
theorem rleave_len (o : List Int) (items : List RItem) (who : Int) : (rLeave o items who).1.length ≤ o.length := by
  unfold rLeave
  split
  · simp
  · split
    · exact List.length_filter_le _ _
    · simp
theorem leaveP_len (who : Int) (o : List Int) (ps : List (Item × RItem)) : (leaveP who o ps).length = ps.length := by
  unfold leaveP
  split
  · rfl
  · split <;> simp
theorem PSt.tfr0 {w : World} {b rb : Nat} {k : Nat} {os : Nat → Int} {last : Int} {ps : List (Item × RItem)} {o : List Int} {vo vi : Value} {wr wr' : World} (h : PSt w b rb k os last ps o vo vi wr) (hf : TFr 0 [] wr wr') : PSt w b rb k os last ps o vo vi wr' :=
  ⟨h.rep.tfr (T := []) (any0 hf) (by simp) (by simp), h.sim, h.box.tfr hf (by simp), h.opn.tfr hf (by simp), h.items.tfr hf (by simp) (by simp), h.fr.trans (any0 (T := []) hf) (by simp), h.lastk, h.ok, h.psk⟩
set_option maxRecDepth 100000 in
set_option maxHeartbeats 16000000 in
theorem plays_any (A : Option Addr) (xb xo len cap : Nat) (f : Nat → Nat → Int) (w : World) (hlen : len ≤ 100000000000000) (hA : 0 < len → A = some ⟨xb, xo, none⟩ ∧ xb < w.heap.size) (hx : ∀ i, i < len → ∀ j, j < 2 → w.cell? ⟨xb, xo + i * 2 + j, none⟩ = some (.int .i64 (f i j))) :
    Calls Try.prog 6 #[.slice A len cap] w fun e w' => e = .returned (.bool true) ∧ Below w.heap.size w w' := by
  have HX := hide hx; have HA := hide hA
  clear hx hA
  go_enter Try.func6, Try.ntmps6
  go_wp2_with fail
  refine (shown_calls w).mono ?_
  rintro e w1 ⟨rfl, hb⟩
  have F1 := hide (TFr.of_below (B := w.heap.size) (T := gT3) hb); clear hb
  go_wp2_with fail
  refine (new_calls w.heap.size w1 (unhide F1).size).mono ?_
  rintro e w2 ⟨rfl, hg, hf⟩
  have G2 := hide hg; have F2 := hide ((unhide F1).trans hf (fun _ h => by cases h)); clear hg hf
  generalize w1.heap.size = b at *
  go_wp2_with fail
  have hS : PSt w b w2.heap.size 0 (fun _ => 0) 0 [] [] (.slice none 0 0) (.slice none 0 0) (w2.alloc (.cells #[.slice none 0 0, .slice none 0 0] 41)) :=
    ⟨(unhide G2).tfr (T := []) ((TFr.refl _ _ _).alloc _) (by simp) (by simp), Sim.start, Blk.at _ _ rfl, IRow.nil _, JOwn.nil _ _, (unhide F2).alloc _, by omega, by simp, by simp⟩
  have HS := hide hS; clear hS
  have L2 := (unhide F2).size
  clear F1 F2 G2
  generalize w2.alloc (.cells #[.slice none 0 0, .slice none 0 0] 41) = w3 at *
  generalize w2.heap.size = rb at *
  go_loopw [6] (fun x wr => ∃ k : Nat, k ≤ len ∧ k ≤ 150 ∧ x = .int .i64 k ∧ Hid (∃ os last ps o vo vi, PSt w b rb k os last ps o vo vi wr)) (fun x _ => len - (intOf x).toNat)
  case atStart => exact ⟨0, by omega, by omega, rfl, ⟨_, _, _, _, _, _, unhide HS⟩⟩
  case round =>
    clear HS
    obtain ⟨k, hk, hk2, rfl, HO⟩ := hrel
    obtain ⟨os, last, ps, o, vo, vi, hps⟩ := HO.out
    obtain ⟨hg, hs, hbx, ho, hj, hfr, hlk, hok, hpk⟩ := hps
    obtain ⟨A0, c0, rfl⟩ := ho.slice
    obtain ⟨A1, c1, rfl⟩ := hj.slice
    have hrl : (rits ps).length = ps.length := List.length_map _
    have hil : (its ps).length = ps.length := List.length_map _
    rw [hrl] at hbx hj
    have hl0 := hs.pos
    have G3 := hide hg; have S3 := hide hs; have B3 := hide hbx; have I3 := hide ho; have J3 := hide hj; have F3 := hide hfr; have RL := hide hrl; have IL := hide hil
    clear hg hs hbx ho hj hfr HO hrl hil
    by_cases hlt : k < len ∧ k < 150
    · obtain ⟨hlt, hlt2⟩ := hlt
      obtain ⟨rfl, hxb⟩ := HA.out (by omega)
      clear HA
      have q0 : _ = some (Value.int .i64 (f k 0)) := ((unhide F3).low_cell ⟨xb, xo + k * 2, none⟩ hxb (Nat.le_refl _)).trans (HX.out k hlt 0 (by omega))
      have q1 : _ = some (Value.int .i64 (f k 1)) := ((unhide F3).low_cell ⟨xb, xo + k * 2 + 1, none⟩ hxb (Nat.le_refl _)).trans (HX.out k hlt 1 (by omega))
      have hkk : (k : Int) < (len : Int) := by omega
      have hkind : f k 0 = 0 ∨ f k 0 = 1 ∨ f k 0 = 2 ∨ (f k 0 ≠ 0 ∧ f k 0 ≠ 1 ∧ f k 0 ≠ 2) := by omega
      generalize f k 0 = kd at *
      generalize f k 1 = who at *
      rcases hkind with rfl | rfl | rfl | ⟨n0, n1, n2⟩
      · go_wp2_with (first
          | (go_at_call 10; refine (enter_all who _ (unhide G3) hl0 (by omega)).mono ?_; rintro e w5 ⟨rfl, hg, hf⟩; have hb5 := (unhide B3).tfr hf (by decide); have ca : w5.cell? ⟨rb, 0, none⟩ = some (.slice A0 o.length c0) := hb5.cell 0; have cb : w5.cell? ⟨rb, 1, none⟩ = some (.slice A1 ps.length c1) := hb5.cell 1; have G5 := hide hg; have F5 := hide ((unhide F3).trans hf gT_in3); have I5 := hide ((unhide I3).tfr hf (by decide)); have J5 := hide ((unhide J3).tfr hf (by decide) (by decide)); have B5 := hide hb5; clear hg hf hb5)
          | (go_at_call 16; refine (renter_calls o _ A1 ps.length c1 who _ (unhide I5) (by omega)).mono ?_; rintro e w6 ⟨v6, rfl, ho, hf⟩; obtain ⟨A6, c6, rfl⟩ := ho.slice; have hg6 := (unhide G5).tfr (T := []) (any0 hf) (by simp) (by simp); have hb6 := (unhide B5).tfr hf (by simp); have ca6 : w6.cell? ⟨rb, 0, none⟩ = some (.slice A0 o.length c0) := hb6.cell 0; have cb6 : w6.cell? ⟨rb, 1, none⟩ = some (.slice A1 ps.length c1) := hb6.cell 1; have fa6 := hb6.frozen 0; have fb6 := hb6.frozen 1; have F6 := hide ((unhide F5).trans (any0 (T := []) hf) (by simp)); have G6 := hide hg6; have B6 := hide hb6; have J6 := hide ((unhide J5).tfr hf (by simp) (by simp)); have I6 := hide ho; clear ho hf hg6 hb6))
        clear ca cb ca6 cb6 fa6 fb6
        obtain ⟨hcode, hsim⟩ := Sim.enter (unhide S3) who
        have hle := enterS_last os last who
        have hre := renter_len o who
        rw [hcode]
        obtain ⟨os7, last7, ps7, o7, vo7, vi7, hP7⟩ : ∃ os7 last7 ps7 o7 vo7 vi7, PSt w b rb (k + 1) os7 last7 ps7 o7 vo7 vi7 ((w6.setCell ⟨rb, 0, none⟩ (.slice A6 (rEnter o who).1.length c6)).setCell ⟨rb, 1, none⟩ (.slice A1 ps.length c1)) :=
          ⟨_, _, _, _, _, _, PSt.put _ _ (unhide G6) hsim (unhide B6) (unhide I6) (unhide J6) (unhide F6) L2 (by omega) (by omega) (by omega)⟩
        have P7 := hide hP7
        clear hcode hle hre
        generalize (rEnter o who).2 = er at *
        have hne : (er != er) = false := by simp
        clear hP7 hsim G3 S3 B3 I3 J3 F3 RL IL G5 F5 I5 J5 B5 G6 F6 I6 J6 B6
        generalize (w6.setCell ⟨rb, 0, none⟩ (.slice A6 (rEnter o who).1.length c6)).setCell ⟨rb, 1, none⟩ (.slice A1 ps.length c1) = w7 at *
        obtain ⟨hg, hs, hbx, ho, hj, hfr, hlk7, hok7, hpk7⟩ := P7.out
        obtain ⟨A7, c7, rfl⟩ := ho.slice
        obtain ⟨D7, e7, rfl⟩ := hj.slice
        have hrl : (rits ps7).length = ps7.length := List.length_map _
        have hil : (its ps7).length = ps7.length := List.length_map _
        have hso := hs.open_ who
        rw [hrl] at hbx
        have ca : w7.cell? ⟨rb, 0, none⟩ = some (.slice A7 o7.length c7) := hbx.cell 0
        have cb : w7.cell? ⟨rb, 1, none⟩ = some (.slice D7 ps7.length e7) := hbx.cell 1
        have G7 := hide (hg.tfr (T := []) ((TFr.refl _ _ w7).drew) (by simp) (by simp))
        have I7 := hide (ho.tfr (B := 0) (T := []) ((TFr.refl _ _ w7).drew) (by simp))
        have SO := hide hso; have IL := hide hil; have RL := hide hrl
        have hll : ((ps7.length : Int) != (ps7.length : Int)) = false := by simp
        clear hg hs hbx ho hj hfr hso hil hrl
        obtain ⟨dq, hdq⟩ : ∃ dq, decide (who ∈ o7) = dq := ⟨_, rfl⟩
        have HD := hide hdq
        clear hdq
        cases dq
        all_goals go_region_held3 (fun w' => w'.cell? ⟨rb, 0, none⟩ = some (.slice A7 o7.length c7) ∧ w'.cell? ⟨rb, 1, none⟩ = some (.slice D7 ps7.length e7)) (first | exact ⟨ca8, cb8⟩ | exact ⟨ca, cb⟩ | go_keep) (first
          | (go_at_call 12; refine (open_all who _ (unhide G7)).mono ?_; rintro e w9 ⟨rfl, rfl⟩; rw [SO.out, HD.out])
          | (go_at_call 21; refine (risopen_calls o7 _ _ who _ (unhide I7) (by omega)).mono ?_; rintro e w8 ⟨rfl, hf8⟩; rw [HD.out]; have ca8 := keep0 hf8 ca; have cb8 := keep0 hf8 cb; have G8 := hide ((unhide G7).tfr (T := []) (any0 hf8) (by simp) (by simp)); have F8 := hide hf8; clear hf8)
          | (go_at_call 15; refine (waiting_at _ (unhide G8)).mono ?_; rintro e w9 ⟨rfl, rfl⟩; rw [IL.out]))
        all_goals go_wp2
        all_goals
          go_roundw
          case rel => exact ⟨k + 1, by omega, by omega, by go_num, ⟨_, _, _, _, _, _, (unhide P7).tfr0 (((TFr.refl 0 [] w7).drew).trans (unhide F8) (fun _ h => h))⟩⟩
          case measure => simp [intOf]; omega
      · go_wp2_with (first
          | (go_at_call 11; refine (leave_all who _ (unhide G3)).mono ?_; rintro e w5 ⟨rfl, hg, hf⟩; have hb5 := (unhide B3).tfr hf (by decide); have ca : w5.cell? ⟨rb, 0, none⟩ = some (.slice A0 o.length c0) := hb5.cell 0; have cb : w5.cell? ⟨rb, 1, none⟩ = some (.slice A1 ps.length c1) := hb5.cell 1; have G5 := hide hg; have F5 := hide ((unhide F3).trans hf gT_in3); have I5 := hide ((unhide I3).tfr hf (by decide)); have J5 := hide ((unhide J3).tfr hf (by decide) (by decide)); have B5 := hide hb5; clear hg hf hb5)
          | (go_at_call 17; refine (rleave_calls o (rits ps) _ _ who _ (unhide I5) (unhide J5) (by omega) (by rw [RL.out]; omega) (short_of (unhide S3))).mono ?_; rintro e w6 ⟨v6, u6, rfl, ho, hj, hf⟩; obtain ⟨A6, c6, rfl⟩ := ho.slice; obtain ⟨D6, e6, rfl⟩ := hj.slice; have hg6 := (unhide G5).tfr (T := []) (any0 hf) (by simp) (by simp); have hb6 := (unhide B5).tfr hf (by simp); have ca6 : w6.cell? ⟨rb, 0, none⟩ = some (.slice A0 o.length c0) := hb6.cell 0; have cb6 : w6.cell? ⟨rb, 1, none⟩ = some (.slice A1 ps.length c1) := hb6.cell 1; have fa6 := hb6.frozen 0; have fb6 := hb6.frozen 1; have F6 := hide ((unhide F5).trans (any0 (T := []) hf) (by simp)); have G6 := hide hg6; have B6 := hide hb6; have J6 := hide hj; have I6 := hide ho; clear ho hj hf hg6 hb6))
        clear ca cb ca6 cb6 fa6 fb6
        obtain ⟨hcode, hsim, hits, hrits⟩ := Sim.leave (unhide S3) who
        have hre := rleave_len o (rits ps) who
        have hpl := leaveP_len who o ps
        rw [hcode]
        have hg6 := unhide G6
        rw [← hits] at hg6
        have hj6 := unhide J6
        rw [← hrits] at hj6
        obtain ⟨os7, last7, ps7, o7, vo7, vi7, hP7⟩ : ∃ os7 last7 ps7 o7 vo7 vi7, PSt w b rb (k + 1) os7 last7 ps7 o7 vo7 vi7 ((w6.setCell ⟨rb, 0, none⟩ (.slice A6 (rLeave o (rits ps) who).1.length c6)).setCell ⟨rb, 1, none⟩ (.slice D6 (rLeave o (rits ps) who).2.1.length e6)) :=
          ⟨_, _, _, _, _, _, PSt.put _ _ hg6 hsim (unhide B6) (unhide I6) (by have h := hj6; rw [hrits] at h ⊢; exact h) (unhide F6) L2 (by omega) (by omega) (by omega)⟩
        have P7 := hide hP7
        clear hcode hre hpl hits hrits hg6 hj6
        generalize (rLeave o (rits ps) who).2.2 = er at *
        have hne : (er != er) = false := by simp
        clear hP7 hsim G3 S3 B3 I3 J3 F3 RL IL G5 F5 I5 J5 B5 G6 F6 I6 J6 B6
        generalize (w6.setCell ⟨rb, 0, none⟩ (.slice A6 (rLeave o (rits ps) who).1.length c6)).setCell ⟨rb, 1, none⟩ (.slice D6 (rLeave o (rits ps) who).2.1.length e6) = w7 at *
        obtain ⟨hg, hs, hbx, ho, hj, hfr, hlk7, hok7, hpk7⟩ := P7.out
        obtain ⟨A7, c7, rfl⟩ := ho.slice
        obtain ⟨D7, e7, rfl⟩ := hj.slice
        have hrl : (rits ps7).length = ps7.length := List.length_map _
        have hil : (its ps7).length = ps7.length := List.length_map _
        have hso := hs.open_ who
        rw [hrl] at hbx
        have ca : w7.cell? ⟨rb, 0, none⟩ = some (.slice A7 o7.length c7) := hbx.cell 0
        have cb : w7.cell? ⟨rb, 1, none⟩ = some (.slice D7 ps7.length e7) := hbx.cell 1
        have G7 := hide (hg.tfr (T := []) ((TFr.refl _ _ w7).drew) (by simp) (by simp))
        have I7 := hide (ho.tfr (B := 0) (T := []) ((TFr.refl _ _ w7).drew) (by simp))
        have SO := hide hso; have IL := hide hil; have RL := hide hrl
        have hll : ((ps7.length : Int) != (ps7.length : Int)) = false := by simp
        clear hg hs hbx ho hj hfr hso hil hrl
        obtain ⟨dq, hdq⟩ : ∃ dq, decide (who ∈ o7) = dq := ⟨_, rfl⟩
        have HD := hide hdq
        clear hdq
        cases dq
        all_goals go_region_held3 (fun w' => w'.cell? ⟨rb, 0, none⟩ = some (.slice A7 o7.length c7) ∧ w'.cell? ⟨rb, 1, none⟩ = some (.slice D7 ps7.length e7)) (first | exact ⟨ca8, cb8⟩ | exact ⟨ca, cb⟩ | go_keep) (first
          | (go_at_call 12; refine (open_all who _ (unhide G7)).mono ?_; rintro e w9 ⟨rfl, rfl⟩; rw [SO.out, HD.out])
          | (go_at_call 21; refine (risopen_calls o7 _ _ who _ (unhide I7) (by omega)).mono ?_; rintro e w8 ⟨rfl, hf8⟩; rw [HD.out]; have ca8 := keep0 hf8 ca; have cb8 := keep0 hf8 cb; have G8 := hide ((unhide G7).tfr (T := []) (any0 hf8) (by simp) (by simp)); have F8 := hide hf8; clear hf8)
          | (go_at_call 15; refine (waiting_at _ (unhide G8)).mono ?_; rintro e w9 ⟨rfl, rfl⟩; rw [IL.out]))
        all_goals go_wp2
        all_goals
          go_roundw
          case rel => exact ⟨k + 1, by omega, by omega, by go_num, ⟨_, _, _, _, _, _, (unhide P7).tfr0 (((TFr.refl 0 [] w7).drew).trans (unhide F8) (fun _ h => h))⟩⟩
          case measure => simp [intOf]; omega
      · go_wp2_with (first
          | (go_at_call 14; refine (defer_ok who _ (unhide G3) (by rw [IL.out]; omega) (unhide F3).size).mono ?_; rintro e w5 ⟨rfl, hg, hf⟩; have hb5 := (unhide B3).tfr hf (by decide); have ca : w5.cell? ⟨rb, 0, none⟩ = some (.slice A0 o.length c0) := hb5.cell 0; have cb : w5.cell? ⟨rb, 1, none⟩ = some (.slice A1 ps.length c1) := hb5.cell 1; have G5 := hide hg; have F5 := hide ((unhide F3).trans hf gT_in3); have I5 := hide ((unhide I3).tfr hf (by decide)); have J5 := hide ((unhide J3).tfr hf (by decide) (by decide)); have B5 := hide hb5; clear hg hf hb5)
          | (go_at_call 18; refine (rdefer_calls o (rits ps) _ _ who _ (unhide I5) (unhide J5) (by omega) (by rw [RL.out]; omega)).mono ?_; rintro e w6 ⟨u6, rfl, hj, hf⟩; obtain ⟨D6, e6, rfl⟩ := hj.slice; have hg6 := (unhide G5).tfr (T := []) (any0 hf) (by simp) (by simp); have hb6 := (unhide B5).tfr hf (by simp); have ca6 : w6.cell? ⟨rb, 0, none⟩ = some (.slice A0 o.length c0) := hb6.cell 0; have cb6 : w6.cell? ⟨rb, 1, none⟩ = some (.slice A1 ps.length c1) := hb6.cell 1; have fa6 := hb6.frozen 0; have fb6 := hb6.frozen 1; have F6 := hide ((unhide F5).trans (any0 (T := []) hf) (by simp)); have G6 := hide hg6; have B6 := hide hb6; have J6 := hide hj; have I6 := hide ((unhide I5).tfr hf (by simp)); clear hj hf hg6 hb6))
        clear ca cb ca6 cb6 fa6 fb6
        have hsim := Sim.defer (unhide S3) who (by omega)
        have hpl : (ps ++ [((who, os), (who, o))]).length = ps.length + 1 := by simp
        obtain ⟨os7, last7, ps7, o7, vo7, vi7, hP7⟩ : ∃ os7 last7 ps7 o7 vo7 vi7, PSt w b rb (k + 1) os7 last7 ps7 o7 vo7 vi7 ((w6.setCell ⟨rb, 0, none⟩ (.slice A0 o.length c0)).setCell ⟨rb, 1, none⟩ (.slice D6 (ps.length + 1) e6)) :=
          ⟨_, _, _, _, _, _, PSt.put _ _ (by have h := unhide G6; simpa [its] using h) hsim (unhide B6) (unhide I6) (by have h := unhide J6; simpa [rits] using h) (unhide F6) L2 (by omega) (by omega) (by omega)⟩
        have P7 := hide hP7
        clear hpl
        clear hP7 hsim G3 S3 B3 I3 J3 F3 RL IL G5 F5 I5 J5 B5 G6 F6 I6 J6 B6
        generalize (w6.setCell ⟨rb, 0, none⟩ (.slice A0 o.length c0)).setCell ⟨rb, 1, none⟩ (.slice D6 (ps.length + 1) e6) = w7 at *
        obtain ⟨hg, hs, hbx, ho, hj, hfr, hlk7, hok7, hpk7⟩ := P7.out
        obtain ⟨A7, c7, rfl⟩ := ho.slice
        obtain ⟨D7, e7, rfl⟩ := hj.slice
        have hrl : (rits ps7).length = ps7.length := List.length_map _
        have hil : (its ps7).length = ps7.length := List.length_map _
        have hso := hs.open_ who
        rw [hrl] at hbx
        have ca : w7.cell? ⟨rb, 0, none⟩ = some (.slice A7 o7.length c7) := hbx.cell 0
        have cb : w7.cell? ⟨rb, 1, none⟩ = some (.slice D7 ps7.length e7) := hbx.cell 1
        have G7 := hide (hg.tfr (T := []) ((TFr.refl _ _ w7).drew) (by simp) (by simp))
        have I7 := hide (ho.tfr (B := 0) (T := []) ((TFr.refl _ _ w7).drew) (by simp))
        have SO := hide hso; have IL := hide hil; have RL := hide hrl
        have hll : ((ps7.length : Int) != (ps7.length : Int)) = false := by simp
        clear hg hs hbx ho hj hfr hso hil hrl
        obtain ⟨dq, hdq⟩ : ∃ dq, decide (who ∈ o7) = dq := ⟨_, rfl⟩
        have HD := hide hdq
        clear hdq
        cases dq
        all_goals go_region_held3 (fun w' => w'.cell? ⟨rb, 0, none⟩ = some (.slice A7 o7.length c7) ∧ w'.cell? ⟨rb, 1, none⟩ = some (.slice D7 ps7.length e7)) (first | exact ⟨ca8, cb8⟩ | exact ⟨ca, cb⟩ | go_keep) (first
          | (go_at_call 12; refine (open_all who _ (unhide G7)).mono ?_; rintro e w9 ⟨rfl, rfl⟩; rw [SO.out, HD.out])
          | (go_at_call 21; refine (risopen_calls o7 _ _ who _ (unhide I7) (by omega)).mono ?_; rintro e w8 ⟨rfl, hf8⟩; rw [HD.out]; have ca8 := keep0 hf8 ca; have cb8 := keep0 hf8 cb; have G8 := hide ((unhide G7).tfr (T := []) (any0 hf8) (by simp) (by simp)); have F8 := hide hf8; clear hf8)
          | (go_at_call 15; refine (waiting_at _ (unhide G8)).mono ?_; rintro e w9 ⟨rfl, rfl⟩; rw [IL.out]))
        all_goals go_wp2
        all_goals
          go_roundw
          case rel => exact ⟨k + 1, by omega, by omega, by go_num, ⟨_, _, _, _, _, _, (unhide P7).tfr0 (((TFr.refl 0 [] w7).drew).trans (unhide F8) (fun _ h => h))⟩⟩
          case measure => simp [intOf]; omega
      · have c0_ : (kd == 0) = false := beq_eq_false_iff_ne.2 n0
        have c1_ : (kd == 1) = false := beq_eq_false_iff_ne.2 n1
        have c2_ : (kd == 2) = false := beq_eq_false_iff_ne.2 n2
        clear n0 n1 n2
        obtain ⟨hsim, hkept, hrt, htold⟩ := Sim.tick (unhide S3)
        have HSM := hide hsim; have HKP := hide hkept; have HRT := hide hrt; have HTD := hide htold
        have hpl : (tickP os ps).length ≤ ps.length := List.length_filter_le _ _
        clear hsim hkept hrt htold
        go_wp2_with (first
          | (go_at_call 13; refine (tick_calls _ (unhide G3) (by rw [IL.out]; omega) (unhide F3).size).mono ?_; rintro e w5 ⟨vt, rfl, hot, hg, hf⟩; obtain ⟨At, ct, rfl⟩ := own_slice hot; have T5 := hide (IRow.of hot rfl rfl); clear hot; have hb5 := (unhide B3).tfr hf (by decide); have ca : w5.cell? ⟨rb, 0, none⟩ = some (.slice A0 o.length c0) := hb5.cell 0; have cb : w5.cell? ⟨rb, 1, none⟩ = some (.slice A1 ps.length c1) := hb5.cell 1; have G5 := hide hg; have F5 := hide ((unhide F3).trans hf gT_in3); have I5 := hide ((unhide I3).tfr hf (by decide)); have J5 := hide ((unhide J3).tfr hf (by decide) (by decide)); have B5 := hide hb5; clear hg hf hb5)
          | (go_at_call 19; refine (rtick_calls (rits ps) A0 o.length c0 _ _ (unhide J5) (by rw [RL.out]; omega)).mono ?_; rintro e w6 ⟨u6, x6, rfl, hj, hx, hf⟩; obtain ⟨D6, e6, rfl⟩ := hj.slice; obtain ⟨X6, y6, rfl⟩ := hx.slice; have hg6 := (unhide G5).tfr (T := []) (any0 hf) (by simp) (by simp); have hb6 := (unhide B5).tfr hf (by simp); have ca6 : w6.cell? ⟨rb, 0, none⟩ = some (.slice A0 o.length c0) := hb6.cell 0; have cb6 : w6.cell? ⟨rb, 1, none⟩ = some (.slice A1 ps.length c1) := hb6.cell 1; have fa6 := hb6.frozen 0; have fb6 := hb6.frozen 1; have F6 := hide ((unhide F5).trans (any0 (T := []) hf) (by simp)); have G6 := hide hg6; have B6 := hide hb6; have ca7 : ∀ o', (w6.alloc o').cell? ⟨rb, 0, none⟩ = some (.slice A0 o.length c0) := fun o' => keep_alloc ca6 o'; have cb7 : ∀ o', (w6.alloc o').cell? ⟨rb, 1, none⟩ = some (.slice A1 ps.length c1) := fun o' => keep_alloc cb6 o'; have fa7 : ∀ o', (w6.alloc o').frozen? ⟨rb, 0, none⟩ = false := fun o' => (Blk.alloc hb6 o').frozen 0; have fb7 : ∀ o', (w6.alloc o').frozen? ⟨rb, 1, none⟩ = false := fun o' => (Blk.alloc hb6 o').frozen 1; have J6 := hide hj; have HX6 := hide hx; have T6 := hide ((unhide T5).tfr hf (by simp)); have I6 := hide ((unhide I5).tfr hf (by simp)); clear hj hx hf hg6 hb6))
        clear ca cb ca6 cb6 fa6 fb6 ca7 cb7 fa7 fb7
        have hba := Blk.alloc (unhide B6) (.cells #[.slice A0 o.length c0, .slice D6 (rTick (rits ps)).1.length e6] 41)
        have hbb := hba.put 0 (.slice A0 o.length c0) (cs' := #[.slice A0 o.length c0, .slice A1 ps.length c1]) rfl
        have mva : TFr 0 [] w6 (w6.alloc (.cells #[.slice A0 o.length c0, .slice D6 (rTick (rits ps)).1.length e6] 41)) := (TFr.refl 0 [] w6).alloc _
        have mv : ∀ {v : Value} {l : List Int}, IRow w6 v l → IRow (((w6.alloc (.cells #[.slice A0 o.length c0, .slice D6 (rTick (rits ps)).1.length e6] 41)).setCell ⟨rb, 0, none⟩ (.slice A0 o.length c0)).setCell ⟨rb, 1, none⟩ (.slice D6 (rTick (rits ps)).1.length e6)) v l := fun h => ((h.tfr mva (by simp)).set_ (p := ⟨rb, 0, none⟩) hba (by decide) _).set_ (p := ⟨rb, 1, none⟩) hbb (by decide) _
        have hPP : ∃ os7 last7 ps7 o7 vo7 vi7, PSt w b rb (k + 1) os7 last7 ps7 o7 vo7 vi7 (((w6.alloc (.cells #[.slice A0 o.length c0, .slice D6 (rTick (rits ps)).1.length e6] 41)).setCell ⟨rb, 0, none⟩ (.slice A0 o.length c0)).setCell ⟨rb, 1, none⟩ (.slice D6 (rTick (rits ps)).1.length e6)) :=
          ⟨_, _, _, _, _, _, PSt.put _ _ (by rw [← HKP.out]; exact (unhide G6).tfr (T := []) (any0 mva) (by simp) (by simp)) (unhide HSM) hba ((unhide I6).tfr mva (by simp)) (by rw [← HRT.out]; exact (unhide J6).tfr mva (by simp) (by simp)) ((unhide F6).trans (any0 (T := []) mva) (by simp)) L2 (by omega) (by omega) (by omega)⟩
        refine (same_calls _ _ _ _ _ (mv (unhide T6)) (mv (unhide HX6)) HTD.out (Nat.le_trans (by unfold told; rw [List.length_map]; exact List.length_filter_le _ _) (show (its ps).length ≤ 1000000 by rw [IL.out]; omega))).mono ?_
        rintro e w7 ⟨rfl, hf7⟩
        obtain ⟨os7, last7, ps7, o7, vo7, vi7, hP7⟩ := hPP
        have P7 := hide (hP7.tfr0 hf7)
        clear hP7 hf7 mv mva hba hbb G3 S3 B3 I3 J3 F3 RL IL G5 F5 I5 J5 B5 G6 F6 I6 J6 B6 HSM HKP HRT HTD T5 T6 HX6
        generalize ((w6.alloc (.cells #[.slice A0 o.length c0, .slice D6 (rTick (rits ps)).1.length e6] 41)).setCell ⟨rb, 0, none⟩ (.slice A0 o.length c0)).setCell ⟨rb, 1, none⟩ (.slice D6 (rTick (rits ps)).1.length e6) = wx at *
        go_wp2
        obtain ⟨hg, hs, hbx, ho, hj, hfr, hlk7, hok7, hpk7⟩ := P7.out
        obtain ⟨A7, c7, rfl⟩ := ho.slice
        obtain ⟨D7, e7, rfl⟩ := hj.slice
        have hrl : (rits ps7).length = ps7.length := List.length_map _
        have hil : (its ps7).length = ps7.length := List.length_map _
        have hso := hs.open_ who
        rw [hrl] at hbx
        have ca : w7.cell? ⟨rb, 0, none⟩ = some (.slice A7 o7.length c7) := hbx.cell 0
        have cb : w7.cell? ⟨rb, 1, none⟩ = some (.slice D7 ps7.length e7) := hbx.cell 1
        have G7 := hide (hg.tfr (T := []) ((TFr.refl _ _ w7).drew) (by simp) (by simp))
        have I7 := hide (ho.tfr (B := 0) (T := []) ((TFr.refl _ _ w7).drew) (by simp))
        have SO := hide hso; have IL := hide hil; have RL := hide hrl
        have hll : ((ps7.length : Int) != (ps7.length : Int)) = false := by simp
        clear hg hs hbx ho hj hfr hso hil hrl
        obtain ⟨dq, hdq⟩ : ∃ dq, decide (who ∈ o7) = dq := ⟨_, rfl⟩
        have HD := hide hdq
        clear hdq
        cases dq
        all_goals go_region_held3 (fun w' => w'.cell? ⟨rb, 0, none⟩ = some (.slice A7 o7.length c7) ∧ w'.cell? ⟨rb, 1, none⟩ = some (.slice D7 ps7.length e7)) (first | exact ⟨ca8, cb8⟩ | exact ⟨ca, cb⟩ | go_keep) (first
          | (go_at_call 12; refine (open_all who _ (unhide G7)).mono ?_; rintro e w9 ⟨rfl, rfl⟩; rw [SO.out, HD.out])
          | (go_at_call 21; refine (risopen_calls o7 _ _ who _ (unhide I7) (by omega)).mono ?_; rintro e w8 ⟨rfl, hf8⟩; rw [HD.out]; have ca8 := keep0 hf8 ca; have cb8 := keep0 hf8 cb; have G8 := hide ((unhide G7).tfr (T := []) (any0 hf8) (by simp) (by simp)); have F8 := hide hf8; clear hf8)
          | (go_at_call 15; refine (waiting_at _ (unhide G8)).mono ?_; rintro e w9 ⟨rfl, rfl⟩; rw [IL.out]))
        all_goals go_wp2
        all_goals
          go_roundw
          case rel => exact ⟨k + 1, by omega, by omega, by go_num, ⟨_, _, _, _, _, _, (unhide P7).tfr0 (((TFr.refl 0 [] w7).drew).trans (unhide F8) (fun _ h => h))⟩⟩
          case measure => simp [intOf]; omega
    · rcases Classical.em (k < len) with hkl | hkl
      have h150 : (150 : Int) ≤ (k : Int) := by omega
      clear hlt
      go_wp2
      rotate_left
      clear hlt
      go_wp2
      rotate_left
      all_goals
        go_ret
        exact ⟨rfl, (unhide F3).below (Nat.le_refl _)⟩
theorem plays_row (a0 : Option Addr) (len0 cap0 : Nat) (W : World) (w0 : RowKit2.FldRow 2 W a0 len0 cap0) (y0 : len0 * 16 ≤ 140737488351232) :
    Calls Try.prog 6 #[.slice a0 len0 cap0] W fun e W' => e = .returned (.bool true) ∧ Below W.heap.size W W' := by
  obtain ⟨xb, xo, f, _, hA, hx⟩ := w0.any (by omega)
  exact plays_any a0 xb xo len0 cap0 f W (by omega) hA (fun i hi j hj => (hx i hi j hj).1)
end Go.Proofs.Ytddheambeefhpaa.Gr
