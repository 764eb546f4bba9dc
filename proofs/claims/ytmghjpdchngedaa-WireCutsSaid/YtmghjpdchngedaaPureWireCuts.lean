/- A beginning of what was laid down, but all of it, is told to be too short: in plain lists -/
import Derived.Test.YtmghjpdchngedaaQWireCuts
namespace Go.Proofs.Ytmghjpdchngedaa.Pure
open Go.RowKit Go.Proofs.Ytmghjpdchngedaa.PWireCuts Go.Proofs.Ytmghjpdchngedaa.QWireCuts Go.Proofs.Ytmghjpdchngedaa.QBase Go.Proofs.YtmghjpdchngedaaW.PrintWords Go.Proofs.YtmghjpdchngedaaW.PrintLast
theorem cut_at {c : Int} (hc : 0 ≤ c ∧ c < 65536) {n : Nat} (hn : 0 < n) : 0 ≤ Int.tmod (wrap64 c) (n : Int) ∧ Int.tmod (wrap64 c) (n : Int) ≤ (n : Int) ∧ (Int.tmod (wrap64 c) (n : Int)).toNat < n := by
  rw [wrap_id (by omega) (by omega), Int.tmod_eq_emod_of_nonneg hc.1]
  have h1 := Int.emod_nonneg c (show (n : Int) ≠ 0 by omega)
  have h2 := Int.emod_lt_of_pos c (show (0 : Int) < (n : Int) by omega)
  omega
theorem cuts_j1 (l : List Int) (hl : l.length ≤ 140737488351232) (c : Int) (hc : 0 ≤ c ∧ c < 65536) : Ev (fun k => turnbucklelaw04_WireCuts.j1 k l c true) true := by
  refine Ev.step (fun k => rfl) (Ev.bind (wire_Ints.ev l hl) ?_)
  unfold intsOf
  by_cases h : 1000 < l.length
  · rw [if_pos h]; exact Ev.congr (f := fun _ => some true) (fun k => by simp) (Ev.now _)
  · rw [if_neg h]
    by_cases ha : l.all inI = true
    · rw [if_pos ha]
      have hfl := flat_len l ha
      have hnl := num_len10 l.length (by omega)
      have hnp := num_pos l.length
      have hpos : 0 < (num l.length ++ flat l).length := by rw [List.length_append]; omega
      obtain ⟨c1, c2, c3⟩ := cut_at hc hpos
      have hB : Byt ((num l.length ++ flat l).take (Int.tmod (wrap64 c) ((num l.length ++ flat l).length : Int)).toNat) := ((num_byt _).append (flat_byt _)).take _
      have hev := wire_TakeInts.ev hB (by simp only [List.length_take, List.length_append]; omega)
      have hcut := takeInts_cut l h ha _ c3
      simp only [if_true]
      refine Ev.congr (f := fun k => (wire_TakeInts.f k ((num l.length ++ flat l).take (Int.tmod (wrap64 c) ((num l.length ++ flat l).length : Int)).toNat)).bind fun r => some (r.2.2 == 2)) (fun k => ?_) (Ev.bind hev (Ev.congr (f := fun _ => some true) (fun k => ?_) (Ev.now _)))
      · rw [if_neg (by omega), if_pos c1, if_pos c2]
      · simp only [hcut]; rfl
    · rw [if_neg ha]; exact Ev.congr (f := fun _ => some true) (fun k => by simp) (Ev.now _)
theorem cuts_j0 (s : ByteArray) (hs : nameB s = true) (l : List Int) (hl : l.length ≤ 140737488351232) (c : Int) (hc : 0 ≤ c ∧ c < 65536) : Ev (fun k => turnbucklelaw04_WireCuts.j0 k l c true (num s.size ++ bytesOf s) true) true := by
  have h16 := nameB_size hs
  have hnl := num_len10 s.size (by omega)
  have hlen : (bytesOf s).length = s.size := bytesOf_length s
  have hpos : 0 < (num s.size ++ bytesOf s).length := by rw [List.length_append]; omega
  obtain ⟨c1, c2, c3⟩ := cut_at hc hpos
  have hB : Byt ((num s.size ++ bytesOf s).take (Int.tmod (wrap64 c) ((num s.size ++ bytesOf s).length : Int)).toNat) := ((num_byt _).append (bytesOf_byt _)).take _
  have hev := wire_TakeText.ev hB (by simp only [List.length_take, List.length_append]; omega)
  have hcut := takeText_cut s hs _ c3
  refine Ev.step (f := fun k => (wire_TakeText.f k ((num s.size ++ bytesOf s).take (Int.tmod (wrap64 c) ((num s.size ++ bytesOf s).length : Int)).toNat)).bind fun bt => if bt.2.2 = 2 then turnbucklelaw04_WireCuts.j1 k l c true else some false) (fun k => ?_) (Ev.bind hev (Ev.congr (fun k => if_pos hcut) (cuts_j1 l hl c hc)))
  simp only [turnbucklelaw04_WireCuts.j0]
  rw [if_pos trivial, if_neg (by omega), if_pos c1, if_pos c2]
theorem cuts_no (l : List Int) (hl : l.length ≤ 140737488351232) (c : Int) (hc : 0 ≤ c ∧ c < 65536) (x : List Int) : Ev (fun k => turnbucklelaw04_WireCuts.j0 k l c true x false) true := by
  refine Ev.step (fun k => ?_) (cuts_j1 l hl c hc)
  simp only [turnbucklelaw04_WireCuts.j0]; rw [if_neg (by decide)]
theorem WireCuts : turnbucklelaw04_WireCuts.Pure := by
  intro a0 s l c w0 hs hm hl hw w3
  have h0 := u64_of_wf w0
  have hc : 0 ≤ c ∧ c < 65536 := by
    have e0 : IntKind.u16.min = 0 := by decide
    have e1 : IntKind.u16.max = 65535 := by decide
    simp only [Lit.wf, e0, e1, Bool.and_eq_true, decide_eq_true_eq] at w3
    omega
  refine Ev.rounds ?_
  unfold turnbucklelaw04_WireCuts.f
  have hp := num_pos a0.toNat
  have hnl := num_len10 a0.toNat (by omega)
  obtain ⟨c1, c2, c3⟩ := cut_at hc hp
  have hB : Byt ((num a0.toNat).take (Int.tmod (wrap64 c) ((num a0.toNat).length : Int)).toNat) := (num_byt _).take _
  have hev := TakeNumber_ev hB (by simp only [List.length_take]; omega)
  have hcut := takeN_cut a0.toNat (by omega) _ c3
  rw [hcut] at hev
  have htext : Ev (fun k => (wire_Text.f k s).bind fun bt171 => (if bt171.2 = 0 then (turnbucklelaw04_WireCuts.j0 k l c true bt171.1 (decide ((bt171.1.length : Int) > 0))) else (turnbucklelaw04_WireCuts.j0 k l c true bt171.1 false))) true := by
    refine Ev.bind (wire_Text.ev hs) ?_
    unfold textOf
    by_cases h : nameB s = true
    · rw [if_pos h]
      have h16 := nameB_size h
      have hpos : 0 < (num s.size ++ bytesOf s).length := by rw [List.length_append, bytesOf_length]; omega
      refine Ev.congr (fun k => ?_) (cuts_j0 s h l (by omega) c hc)
      simp only [if_true]
      rw [decide_eq_true (by omega)]
    · rw [if_neg h]
      exact Ev.congr (fun k => if_neg (by decide)) (cuts_no l (by omega) c hc [])
  refine Ev.bind shown_ev (Ev.bind (Number_ev h0.1 h0.2) (Ev.congr (f := fun k => (wire_TakeNumber.f k ((num a0.toNat).take (Int.tmod (wrap64 c) ((num a0.toNat).length : Int)).toNat)).bind fun r => if r.2.2 = 2 then (wire_Text.f k s).bind fun bt171 => (if bt171.2 = 0 then (turnbucklelaw04_WireCuts.j0 k l c true bt171.1 (decide ((bt171.1.length : Int) > 0))) else (turnbucklelaw04_WireCuts.j0 k l c true bt171.1 false)) else some false) (fun k => ?_) (Ev.bind hev (Ev.congr (fun k => ?_) htext))))
  · rw [if_neg (by omega), if_pos c1, if_pos c2]
  · rfl
end Go.Proofs.Ytmghjpdchngedaa.Pure
