/- Printed for this seat by a program of this session (over the kit's print), with contracts of its own laid in. -/
import Derived.Test.YtfgfjgjabcmheaaRx0
import Derived.Test.YtfgfjgjabcmheaaRx1
import Derived.Test.YtfgfjgjabcmheaaRx2
import Derived.Test.YtfgfjgjabcmheaaRx3
namespace Go.Proofs.Ytfgfjgjabcmheaa.R
open Go.RowKit Go.Proofs.YtfgfjgjabcmheaaW.PrintWords Go.Proofs.YtfgfjgjabcmheaaW.PrintLast Go.Proofs.YtfgfjgjabcmheaaW.PrintMore
attribute [local go_sem] max2_int min2_int max_two min_two max_three min_three max_four min_four   -- for this text's walks alone
set_option linter.unusedVariables false
set_option linter.unusedSimpArgs false

end Go.Proofs.Ytfgfjgjabcmheaa.R
