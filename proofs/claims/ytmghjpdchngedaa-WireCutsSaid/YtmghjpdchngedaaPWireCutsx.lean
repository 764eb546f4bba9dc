/- made by program: the walk of each function's own text, and the Lean function that it computes -/
import Derived.Test.YtmghjpdchngedaaPWireCutsx0
import Derived.Test.YtmghjpdchngedaaPWireCutsx1
import Derived.Test.YtmghjpdchngedaaPWireCutsx2
import Derived.Test.YtmghjpdchngedaaPWireCutsx3
import Derived.Test.YtmghjpdchngedaaPWireCutsx4
namespace Go.Proofs.Ytmghjpdchngedaa.PWireCuts
open Go.RowKit Go.Proofs.YtmghjpdchngedaaW.PrintWords Go.Proofs.YtmghjpdchngedaaW.PrintLast Go.Proofs.YtmghjpdchngedaaW.PrintMore
attribute [local go_sem] max2_int min2_int max_two min_two max_three min_three max_four min_four   -- for this text's walks alone
set_option linter.unusedVariables false
set_option linter.unusedSimpArgs false

end Go.Proofs.Ytmghjpdchngedaa.PWireCuts
