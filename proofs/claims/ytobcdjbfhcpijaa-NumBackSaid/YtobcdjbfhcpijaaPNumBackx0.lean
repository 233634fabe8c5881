-- Written by a program of this session (wip/print/setup.py turns the kit's print tool)
import Derived.Test.YtobcdjbfhcpijaaProg
import Derived.Below
import Derived.Deep.Draws
import Derived.Deep.AppendLies
import Derived.Maps.AppendAt
import Derived.OwnWalk
import Derived.Laws.BytesArg
import Derived.Laws.MakeOwn
import Derived.Laws.OwnMore
import Derived.Deep.OwnRows
import Derived.Tactics
import Derived.Lib.ConvBytes
import Derived.Laws.Slices
import Derived.WalkKit
import Derived.KernelRfl
import Derived.RowKit3
import Derived.Deep.LoopGhost
import Derived.Deep.QuietTactic
import Derived.BigQuiet
import Derived.WideLaws
import Derived.Deep.DeepCutAuto
import Derived.Deep.CutBlock
import Derived.Deep.RegionHeld3
import Derived.Laws.Rows
import Derived.Lib.AppendStr
import Derived.ArgAppend
import Derived.Laws.IdiomCopy
import Derived.OrdersHeld
import Derived.Laws.BitsLemmas
import Derived.RowKit
import Derived.Test.YtobcdjbfhcpijaaWWords
import Derived.Test.YtobcdjbfhcpijaaWLast
import Derived.Test.YtobcdjbfhcpijaaWTab
import Derived.Test.YtobcdjbfhcpijaaWFour
import Derived.Test.YtobcdjbfhcpijaaWQPut
import Derived.Test.YtobcdjbfhcpijaaWApart
import Derived.Test.YtobcdjbfhcpijaaWArr
import Derived.Test.YtobcdjbfhcpijaaWZeros
import Derived.Test.YtobcdjbfhcpijaaWFoot
import Derived.Test.YtobcdjbfhcpijaaWKept
import Derived.Test.YtobcdjbfhcpijaaWShare
import Derived.Test.YtobcdjbfhcpijaaWN
import Derived.Test.YtobcdjbfhcpijaaWFootNe
import Derived.Test.YtobcdjbfhcpijaaWAt
import Derived.Test.YtobcdjbfhcpijaaWEqStruct
import Derived.Test.YtobcdjbfhcpijaaWRepsOne
import Derived.Test.YtobcdjbfhcpijaaWInv
import Derived.Test.YtobcdjbfhcpijaaWInvWords
import Derived.Test.YtobcdjbfhcpijaaWGuard
import Derived.Test.YtobcdjbfhcpijaaWNEv
import Derived.Test.YtobcdjbfhcpijaaWMore
namespace Go.Proofs.Ytobcdjbfhcpijaa.PNumBack
open Go.RowKit Go.Proofs.YtobcdjbfhcpijaaW.PrintWords Go.Proofs.YtobcdjbfhcpijaaW.PrintLast Go.Proofs.YtobcdjbfhcpijaaW.PrintMore
attribute [local go_sem] max2_int min2_int max_two min_two max_three min_three max_four min_four   -- for this text's walks alone
set_option linter.unusedVariables false
set_option linter.unusedSimpArgs false



def errW : Option Int → Value
  | none => .nilIface
  | some c => .iface 0 (.int .i64 c)
theorem errW_none : errW none = .nilIface := rfl
theorem errW_some (c : Int) : errW (some c) = .iface 0 (.int .i64 c) := rfl

theorem info3 : (Try.prog.info? 3).map (fun i => (i.zero, i.size, i.bytes)) = some (some (.int .i64 0), 1, 8) := by kernel_rfl
-- the values' own types

end Go.Proofs.Ytobcdjbfhcpijaa.PNumBack
