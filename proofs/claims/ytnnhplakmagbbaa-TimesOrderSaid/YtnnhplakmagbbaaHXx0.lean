/- What calls of these Go functions come to, as plain Lean functions, each with its proof; printed for this claim by a program of this session. -/
import Derived.Test.YtnnhplakmagbbaaProg
import Derived.Test.YtnnhplakmagbbaaHAx
import Derived.Test.YtnnhplakmagbbaaHf
import Derived.Below
import Derived.Deep.Draws
import Derived.Deep.AppendLies
import Derived.Maps.AppendAt
import Derived.OwnWalk
import Derived.Laws.BytesArg
import Derived.Laws.MakeOwn
import Derived.Laws.OwnMore
import Derived.Deep.OwnRows
import Derived.Tactics
import Derived.Lib.ConvBytes
import Derived.Laws.Slices
import Derived.WalkKit
import Derived.KernelRfl
import Derived.RowKit3
import Derived.Deep.LoopGhost
import Derived.Deep.QuietTactic
import Derived.BigQuiet
import Derived.WideLaws
import Derived.Deep.DeepCutAuto
import Derived.Deep.CutBlock
import Derived.Deep.RegionHeld3
import Derived.Laws.Rows
import Derived.Lib.AppendStr
import Derived.ArgAppend
import Derived.Laws.IdiomCopy
import Derived.OrdersHeld
import Derived.Laws.BitsLemmas
import Derived.RowKit
import Derived.Test.YtnnhplakmagbbaaWWords
import Derived.Test.YtnnhplakmagbbaaWLast
import Derived.Test.YtnnhplakmagbbaaWTab
import Derived.Test.YtnnhplakmagbbaaWFour
import Derived.Test.YtnnhplakmagbbaaWQPut
import Derived.Test.YtnnhplakmagbbaaWApart
import Derived.Test.YtnnhplakmagbbaaWArr
import Derived.Test.YtnnhplakmagbbaaWZeros
import Derived.Test.YtnnhplakmagbbaaWFoot
import Derived.Test.YtnnhplakmagbbaaWKept
import Derived.Test.YtnnhplakmagbbaaWShare
import Derived.Test.YtnnhplakmagbbaaWN
import Derived.Test.YtnnhplakmagbbaaWFootNe
import Derived.Test.YtnnhplakmagbbaaWAt
import Derived.Test.YtnnhplakmagbbaaWEqStruct
import Derived.Test.YtnnhplakmagbbaaWRepsOne
import Derived.Test.YtnnhplakmagbbaaWInv
import Derived.Test.YtnnhplakmagbbaaWInvWords
import Derived.Test.YtnnhplakmagbbaaWGuard
import Derived.Test.YtnnhplakmagbbaaWNEv
import Derived.Test.YtnnhplakmagbbaaWMore
namespace Go.Proofs.Ytnnhplakmagbbaa.HX
open Go.Proofs.Ytnnhplakmagbbaa.HA
open Go.Proofs.Ytnnhplakmagbbaa.HB
open Go.RowKit Go.Proofs.YtnnhplakmagbbaaW.PrintWords Go.Proofs.YtnnhplakmagbbaaW.PrintLast Go.Proofs.YtnnhplakmagbbaaW.PrintMore
attribute [local go_sem] max2_int min2_int max_two min_two max_three min_three max_four min_four   -- for this text's walks alone
set_option linter.unusedVariables false
set_option linter.unusedSimpArgs false



def errW : Option Int → Value
  | none => .nilIface
  | some c => .iface 0 (.int .i64 c)
theorem errW_none : errW none = .nilIface := rfl
theorem errW_some (c : Int) : errW (some c) = .iface 0 (.int .i64 c) := rfl

-- the values' own types

end Go.Proofs.Ytnnhplakmagbbaa.HX
