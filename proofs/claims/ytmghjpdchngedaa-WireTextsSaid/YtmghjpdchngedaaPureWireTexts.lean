/- Any text is laid down, or refused, and any bytes are read as a name, or refused, by the program as by the document: in plain lists -/
import Derived.Test.YtmghjpdchngedaaQWireTexts
namespace Go.Proofs.Ytmghjpdchngedaa.Pure
open Go.RowKit Go.Proofs.Ytmghjpdchngedaa.PWireTexts Go.Proofs.Ytmghjpdchngedaa.QWireTexts Go.Proofs.Ytmghjpdchngedaa.QBase Go.Proofs.YtmghjpdchngedaaW.PrintWords Go.Proofs.YtmghjpdchngedaaW.PrintLast
theorem WireTexts : turnbucklelaw04_WireTexts.Pure := by
  intro a0 l1 ha hm hl hb
  have hB := Byt.of_wf hb
  refine Ev.rounds ?_
  unfold turnbucklelaw04_WireTexts.f
  refine Ev.bind shown_ev (Ev.bind (wire_Text.ev ha) (Ev.bind (turnbuckleref04_Text.ev ha) (Ev.bind (wire_TakeText.ev hB (by omega)) (Ev.bind (turnbuckleref04_TakeText.ev hB (by omega)) (Ev.congr (fun k => ?_) (Ev.now true))))))
  simp
end Go.Proofs.Ytmghjpdchngedaa.Pure
