/- Any numbers are laid down, or refused, and any bytes are read as numbers, or refused, by the program as by the document: in plain lists -/
import Derived.Test.YtmghjpdchngedaaQWireInts
namespace Go.Proofs.Ytmghjpdchngedaa.Pure
open Go.RowKit Go.Proofs.Ytmghjpdchngedaa.PWireInts Go.Proofs.Ytmghjpdchngedaa.QWireInts Go.Proofs.Ytmghjpdchngedaa.QBase Go.Proofs.YtmghjpdchngedaaW.PrintWords Go.Proofs.YtmghjpdchngedaaW.PrintLast
theorem tis_len (xs : List Int) : ∀ (m at_ : Nat) (acc : List Int), (tis xs m at_ acc).1.length ≤ acc.length + m := by
  intro m
  induction m with
  | zero => intro at_ acc; simp [tis]
  | succ m ih =>
    intro at_ acc
    rw [tis]
    split
    · simp
    · split
      · simp
      · have := ih (at_ + (takeN (xs.drop at_)).2.1.toNat) (acc ++ [(takeN (xs.drop at_)).1])
        simp only [List.length_append, List.length_singleton] at this
        omega
theorem takeInts_len {xs : List Int} : (takeInts xs).1.length ≤ 1000 := by
  unfold takeInts
  split
  · simp
  · split
    · simp
    · have := tis_len xs (takeN xs).1.toNat (takeN xs).2.1.toNat []
      simp only [List.length_nil] at this
      omega
theorem WireInts : turnbucklelaw04_WireInts.Pure := by
  intro l0 l1 hm0 hl0 hw0 hm1 hl1 hb
  have hB := Byt.of_wf hb
  refine Ev.rounds ?_
  unfold turnbucklelaw04_WireInts.f
  have h1000 := takeInts_len (xs := l1)
  refine Ev.bind shown_ev (Ev.bind (wire_Ints.ev l0 (by omega)) (Ev.bind (turnbuckleref04_Ints.ev l0 (by omega)) (Ev.bind (wire_TakeInts.ev hB (by omega)) (Ev.bind (turnbuckleref04_TakeInts.ev hB (by omega)) (Ev.bind (Same_ev (l := (takeInts l1).1) (by omega)) (Ev.congr (fun k => ?_) (Ev.now true)))))))
  simp
end Go.Proofs.Ytmghjpdchngedaa.Pure
