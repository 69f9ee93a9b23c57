/- What calls of these Go functions come to, as plain Lean functions, each with its proof; printed for this claim by a program of this session. -/
import Derived.Test.YtngkbmlmlfofdaaDoorProg
import Derived.Test.YtngkbmlmlfofdaaDoorHCx
import Derived.Test.YtngkbmlmlfofdaaDoorFd
import Derived.Below
import Derived.Deep.Draws
import Derived.Deep.AppendLies
import Derived.Maps.AppendAt
import Derived.OwnWalk
import Derived.Laws.BytesArg
import Derived.Laws.MakeOwn
import Derived.Laws.OwnMore
import Derived.Deep.OwnRows
import Derived.Tactics
import Derived.Lib.ConvBytes
import Derived.Laws.Slices
import Derived.WalkKit
import Derived.KernelRfl
import Derived.RowKit3
import Derived.Deep.LoopGhost
import Derived.Deep.QuietTactic
import Derived.BigQuiet
import Derived.WideLaws
import Derived.Deep.DeepCutAuto
import Derived.Deep.CutBlock
import Derived.Deep.RegionHeld3
import Derived.Laws.Rows
import Derived.Lib.AppendStr
import Derived.ArgAppend
import Derived.Laws.IdiomCopy
import Derived.OrdersHeld
import Derived.Laws.BitsLemmas
import Derived.RowKit
import Derived.Test.YtngkbmlmlfofdaaDoorWWords
import Derived.Test.YtngkbmlmlfofdaaDoorWLast
import Derived.Test.YtngkbmlmlfofdaaDoorWTab
import Derived.Test.YtngkbmlmlfofdaaDoorWFour
import Derived.Test.YtngkbmlmlfofdaaDoorWQPut
import Derived.Test.YtngkbmlmlfofdaaDoorWApart
import Derived.Test.YtngkbmlmlfofdaaDoorWArr
import Derived.Test.YtngkbmlmlfofdaaDoorWZeros
import Derived.Test.YtngkbmlmlfofdaaDoorWFoot
import Derived.Test.YtngkbmlmlfofdaaDoorWKept
import Derived.Test.YtngkbmlmlfofdaaDoorWShare
import Derived.Test.YtngkbmlmlfofdaaDoorWN
import Derived.Test.YtngkbmlmlfofdaaDoorWFootNe
import Derived.Test.YtngkbmlmlfofdaaDoorWAt
import Derived.Test.YtngkbmlmlfofdaaDoorWEqStruct
import Derived.Test.YtngkbmlmlfofdaaDoorWRepsOne
import Derived.Test.YtngkbmlmlfofdaaDoorWInv
import Derived.Test.YtngkbmlmlfofdaaDoorWInvWords
import Derived.Test.YtngkbmlmlfofdaaDoorWGuard
import Derived.Test.YtngkbmlmlfofdaaDoorWNEv
import Derived.Test.YtngkbmlmlfofdaaDoorWMore
namespace Go.Proofs.YtngkbmlmlfofdaaDoor.HD
open Go.Proofs.YtngkbmlmlfofdaaDoor.HA
open Go.Proofs.YtngkbmlmlfofdaaDoor.HB
open Go.Proofs.YtngkbmlmlfofdaaDoor.HC
open Go.Proofs.YtngkbmlmlfofdaaDoor.G
open Go.RowKit Go.Proofs.YtngkbmlmlfofdaaDoorW.PrintWords Go.Proofs.YtngkbmlmlfofdaaDoorW.PrintLast Go.Proofs.YtngkbmlmlfofdaaDoorW.PrintMore
attribute [local go_sem] max2_int min2_int max_two min_two max_three min_three max_four min_four   -- for this text's walks alone
set_option linter.unusedVariables false
set_option linter.unusedSimpArgs false



def errW : Option Int → Value
  | none => .nilIface
  | some c => .iface 0 (.int .i64 c)
theorem errW_none : errW none = .nilIface := rfl
theorem errW_some (c : Int) : errW (some c) = .iface 0 (.int .i64 c) := rfl

theorem info5 : (Tryd.prog.info? 5).map (fun i => (i.zero, i.size, i.bytes)) = some (some (.int .u8 0), 1, 1) := by kernel_rfl
-- the values' own types

end Go.Proofs.YtngkbmlmlfofdaaDoor.HD
