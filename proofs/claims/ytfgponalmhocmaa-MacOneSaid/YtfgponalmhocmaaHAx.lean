/- What calls of these Go functions come to, as plain Lean functions, each with its proof; printed for this claim by a program of this session. -/
import Derived.Test.YtfgponalmhocmaaHAx0
import Derived.Test.YtfgponalmhocmaaHAx1
import Derived.Test.YtfgponalmhocmaaHAx2
import Derived.Test.YtfgponalmhocmaaHAx3
namespace Go.Proofs.Ytfgponalmhocmaa.HA
open Go.RowKit Go.Proofs.YtfgponalmhocmaaW.PrintWords Go.Proofs.YtfgponalmhocmaaW.PrintLast Go.Proofs.YtfgponalmhocmaaW.PrintMore
attribute [local go_sem] max2_int min2_int max_two min_two max_three min_three max_four min_four   -- for this text's walks alone
set_option linter.unusedVariables false
set_option linter.unusedSimpArgs false

end Go.Proofs.Ytfgponalmhocmaa.HA
