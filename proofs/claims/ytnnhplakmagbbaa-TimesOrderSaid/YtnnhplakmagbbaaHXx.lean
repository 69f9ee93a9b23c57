/- What calls of these Go functions come to, as plain Lean functions, each with its proof; printed for this claim by a program of this session. -/
import Derived.Test.YtnnhplakmagbbaaHXx0
import Derived.Test.YtnnhplakmagbbaaHXx1
namespace Go.Proofs.Ytnnhplakmagbbaa.HX
open Go.Proofs.Ytnnhplakmagbbaa.HA
open Go.Proofs.Ytnnhplakmagbbaa.HB
open Go.RowKit Go.Proofs.YtnnhplakmagbbaaW.PrintWords Go.Proofs.YtnnhplakmagbbaaW.PrintLast Go.Proofs.YtnnhplakmagbbaaW.PrintMore
attribute [local go_sem] max2_int min2_int max_two min_two max_three min_three max_four min_four   -- for this text's walks alone
set_option linter.unusedVariables false
set_option linter.unusedSimpArgs false

end Go.Proofs.Ytnnhplakmagbbaa.HX
