/- What calls of these Go functions come to, as plain Lean functions, each with its proof; printed for this claim by a program of this session. -/
import Derived.Test.YtngkbmlmlfofdaaDoorHBx0
import Derived.Test.YtngkbmlmlfofdaaDoorHBx1
namespace Go.Proofs.YtngkbmlmlfofdaaDoor.HB
open Go.Proofs.YtngkbmlmlfofdaaDoor.HA
open Go.RowKit Go.Proofs.YtngkbmlmlfofdaaDoorW.PrintWords Go.Proofs.YtngkbmlmlfofdaaDoorW.PrintLast Go.Proofs.YtngkbmlmlfofdaaDoorW.PrintMore
attribute [local go_sem] max2_int min2_int max_two min_two max_three min_three max_four min_four   -- for this text's walks alone
set_option linter.unusedVariables false
set_option linter.unusedSimpArgs false

end Go.Proofs.YtngkbmlmlfofdaaDoor.HB
