/- Numbers, names and lists that were laid down are taken again, all of their bytes, whatever stands behind: in plain lists -/
import Derived.Test.YtmghjpdchngedaaQWireBack
namespace Go.Proofs.Ytmghjpdchngedaa.Pure
open Go.RowKit Go.Proofs.Ytmghjpdchngedaa.PWireBack Go.Proofs.Ytmghjpdchngedaa.QWireBack Go.Proofs.Ytmghjpdchngedaa.QBase Go.Proofs.YtmghjpdchngedaaW.PrintWords Go.Proofs.YtmghjpdchngedaaW.PrintLast
theorem back_j1 (l : List Int) (hl : l.length ≤ 1048576) (rest : List Int) (hr : rest.length ≤ 1048576) (hb : Byt rest) : Ev (fun k => turnbucklelaw04_WireBack.j1 k l rest true) true := by
  refine Ev.step (fun k => rfl) (Ev.bind (wire_Ints.ev l (by omega)) ?_)
  unfold intsOf
  by_cases h : 1000 < l.length
  · rw [if_pos h]; exact Ev.congr (f := fun _ => some true) (fun k => by simp) (Ev.now _)
  · rw [if_neg h]
    by_cases ha : l.all inI = true
    · rw [if_pos ha]
      have hfl := flat_len l ha
      have hnl := num_len10 l.length (by omega)
      have hB : Byt ((num l.length ++ flat l) ++ rest) := ((num_byt _).append (flat_byt _)).append hb
      have hev := wire_TakeInts.ev hB (by simp only [List.length_append]; omega)
      rw [takeInts_ints l h ha rest] at hev
      simp only [if_true]
      refine Ev.bind (Ev.now _) (Ev.congr (fun k => if_pos (by simp only [List.length_append, List.length_nil]; omega)) (Ev.bind (Ev.now _) (Ev.congr (fun k => if_pos (by simp only [List.nil_append, List.length_append]; omega)) ?_)))
      rw [List.nil_append]
      exact Ev.bind hev (Ev.bind (Same_ev (l := l) (by omega)) (Ev.congr (f := fun _ => some true) (fun k => by simp) (Ev.now _)))
    · rw [if_neg ha]; exact Ev.congr (f := fun _ => some true) (fun k => by simp) (Ev.now _)
theorem back_j0 (s : ByteArray) (hs : s.size ≤ 1048576) (l : List Int) (hl : l.length ≤ 1048576) (rest : List Int) (hr : rest.length ≤ 1048576) (hb : Byt rest) : Ev (fun k => turnbucklelaw04_WireBack.j0 k s l rest true false) true := by
  refine Ev.step (f := fun k => (wire_Text.f k s).bind fun bt178 => (if bt178.2 = 0 then ((some (([] : List Int) : List Int)).bind fun y182 => (if y182.length + bt178.1.length < 140737488355328 then ((some (y182 ++ bt178.1 : List Int)).bind fun y185 => (if y185.length + rest.length < 140737488355328 then ((wire_TakeText.f k (y185 ++ rest)).bind fun bt191 => (if bt191.1.toList = s.toList then (if bt191.2.1 = (bt178.1.length : Int) then (if bt191.2.2 = 0 then (turnbucklelaw04_WireBack.j1 k l rest true) else (some false)) else (some false)) else (some false))) else (none))) else (none))) else (turnbucklelaw04_WireBack.j1 k l rest true))) (fun k => ?_) (Ev.bind (wire_Text.ev (by omega)) ?_)
  · simp only [turnbucklelaw04_WireBack.j0]; rw [if_neg (by decide)]
  · have hj := back_j1 l hl rest hr hb
    unfold textOf
    by_cases hn : nameB s = true
    · rw [if_pos hn]
      have h16 := nameB_size hn
      have hnl := num_len10 s.size (by omega)
      have hlen : (bytesOf s).length = s.size := bytesOf_length s
      have hB : Byt ((num s.size ++ bytesOf s) ++ rest) := ((num_byt _).append (bytesOf_byt _)).append hb
      have hev := wire_TakeText.ev hB (by simp only [List.length_append]; omega)
      rw [takeText_text s hn rest] at hev
      simp only [if_true]
      refine Ev.bind (Ev.now _) (Ev.congr (fun k => if_pos (by simp only [List.length_append, List.length_nil]; omega)) (Ev.bind (Ev.now _) (Ev.congr (fun k => if_pos (by simp only [List.nil_append, List.length_append]; omega)) ?_)))
      rw [List.nil_append]
      exact Ev.bind hev (Ev.congr (fun k => by simp only [if_true]) hj)
    · rw [if_neg hn]
      exact Ev.congr (fun k => if_neg (by decide)) hj
theorem WireBack (a0 : Int) (s : ByteArray) (l rest : List Int) (w0 : (Lit.int .u64 a0).wf = true) (hs : s.size ≤ 1048576) (hl : l.length ≤ 1048576) (hr : rest.length ≤ 1048576) (hb : ∀ x ∈ rest, (Lit.int .u8 x).wf = true) :
    ∃ k, turnbucklelaw04_WireBack.f k a0 s l rest = some true := by
  have h0 := u64_of_wf w0
  have hB := Byt.of_wf hb
  refine Ev.rounds ?_
  unfold turnbucklelaw04_WireBack.f
  have hnl := num_len10 a0.toNat (by omega)
  have hB2 : Byt (num a0.toNat ++ rest) := (num_byt _).append hB
  have hev := TakeNumber_ev hB2 (by simp only [List.length_append]; omega)
  rw [takeN_num a0.toNat (by omega) rest, Int.toNat_of_nonneg h0.1] at hev
  refine Ev.bind shown_ev (Ev.bind (Number_ev h0.1 h0.2) (Ev.bind (Ev.now _) (Ev.congr (fun k => if_pos (by simp only [List.length_nil]; omega)) (Ev.bind (Ev.now _) (Ev.congr (fun k => if_pos (by simp only [List.nil_append]; omega)) ?_)))))
  rw [List.nil_append]
  exact Ev.bind hev (Ev.congr (fun k => by simp only [if_true]; rfl) (back_j0 s hs l hl rest hr hB))
end Go.Proofs.Ytmghjpdchngedaa.Pure
