/- made by program: the walk of each function's own text, and the Lean function that it computes -/
import Derived.Test.YtmghjpdchngedaaPWireIntsx0
import Derived.Test.YtmghjpdchngedaaPWireIntsx1
import Derived.Test.YtmghjpdchngedaaPWireIntsx2
import Derived.Test.YtmghjpdchngedaaPWireIntsx3
import Derived.Test.YtmghjpdchngedaaPWireIntsx4
import Derived.Test.YtmghjpdchngedaaPWireIntsx5
namespace Go.Proofs.Ytmghjpdchngedaa.PWireInts
open Go.RowKit Go.Proofs.YtmghjpdchngedaaW.PrintWords Go.Proofs.YtmghjpdchngedaaW.PrintLast Go.Proofs.YtmghjpdchngedaaW.PrintMore
attribute [local go_sem] max2_int min2_int max_two min_two max_three min_three max_four min_four   -- for this text's walks alone
set_option linter.unusedVariables false
set_option linter.unusedSimpArgs false

end Go.Proofs.Ytmghjpdchngedaa.PWireInts
