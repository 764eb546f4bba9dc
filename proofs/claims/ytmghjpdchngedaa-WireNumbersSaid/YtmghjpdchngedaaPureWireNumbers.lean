/- Any number's bytes, and how any bytes are read as a number: the program's and the document's are the same; for bytes of any length below the form's reach -/
import Derived.Test.YtmghjpdchngedaaQWireNumbers
namespace Go.Proofs.Ytmghjpdchngedaa.Pure
open Go.RowKit Go.Proofs.Ytmghjpdchngedaa.PWireNumbers Go.Proofs.Ytmghjpdchngedaa.QWireNumbers Go.Proofs.Ytmghjpdchngedaa.QBase Go.Proofs.YtmghjpdchngedaaW.PrintWords Go.Proofs.YtmghjpdchngedaaW.PrintLast
theorem WireNumbers : turnbucklelaw04_WireNumbers.Pure := by
  intro a0 l1 ha hm hl hb
  have hB := Byt.of_wf hb
  have h0 : 0 ≤ a0 ∧ a0 < 18446744073709551616 := u64_of_wf ha
  refine Ev.rounds ?_
  unfold turnbucklelaw04_WireNumbers.f
  refine Ev.bind shown_ev (Ev.bind (TakeNumber_ev hB (by omega)) (Ev.bind (RefTakeNumber_ev hB (by omega)) ?_))
  simp only [if_true]
  exact Ev.bind (Number_ev h0.1 h0.2) (Ev.bind (RefNumber_ev h0.1 h0.2) (Ev.congr (fun k => by simp) (Ev.now true)))
end Go.Proofs.Ytmghjpdchngedaa.Pure
