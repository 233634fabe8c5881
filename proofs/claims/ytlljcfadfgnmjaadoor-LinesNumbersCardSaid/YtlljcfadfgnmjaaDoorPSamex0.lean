-- Written by a program of this session (wip/print/setup.py turns the kit's print tool)
import Derived.Test.YtlljcfadfgnmjaaDoorProg
import Derived.Below
import Derived.Deep.Draws
import Derived.Deep.AppendLies
import Derived.Maps.AppendAt
import Derived.OwnWalk
import Derived.Laws.BytesArg
import Derived.Laws.MakeOwn
import Derived.Laws.OwnMore
import Derived.Deep.OwnRows
import Derived.Tactics
import Derived.Lib.ConvBytes
import Derived.Laws.Slices
import Derived.WalkKit
import Derived.KernelRfl
import Derived.RowKit3
import Derived.Deep.LoopGhost
import Derived.Deep.QuietTactic
import Derived.BigQuiet
import Derived.WideLaws
import Derived.Deep.DeepCutAuto
import Derived.Deep.CutBlock
import Derived.Deep.RegionHeld3
import Derived.Laws.Rows
import Derived.Lib.AppendStr
import Derived.ArgAppend
import Derived.Laws.IdiomCopy
import Derived.OrdersHeld
import Derived.Laws.BitsLemmas
import Derived.RowKit
import Derived.Test.YtlljcfadfgnmjaaDoorWWords
import Derived.Test.YtlljcfadfgnmjaaDoorWLast
import Derived.Test.YtlljcfadfgnmjaaDoorWTab
import Derived.Test.YtlljcfadfgnmjaaDoorWFour
import Derived.Test.YtlljcfadfgnmjaaDoorWQPut
import Derived.Test.YtlljcfadfgnmjaaDoorWApart
import Derived.Test.YtlljcfadfgnmjaaDoorWArr
import Derived.Test.YtlljcfadfgnmjaaDoorWZeros
import Derived.Test.YtlljcfadfgnmjaaDoorWFoot
import Derived.Test.YtlljcfadfgnmjaaDoorWKept
import Derived.Test.YtlljcfadfgnmjaaDoorWShare
import Derived.Test.YtlljcfadfgnmjaaDoorWN
import Derived.Test.YtlljcfadfgnmjaaDoorWFootNe
import Derived.Test.YtlljcfadfgnmjaaDoorWAt
import Derived.Test.YtlljcfadfgnmjaaDoorWEqStruct
import Derived.Test.YtlljcfadfgnmjaaDoorWRepsOne
import Derived.Test.YtlljcfadfgnmjaaDoorWInv
import Derived.Test.YtlljcfadfgnmjaaDoorWInvWords
import Derived.Test.YtlljcfadfgnmjaaDoorWGuard
import Derived.Test.YtlljcfadfgnmjaaDoorWNEv
import Derived.Test.YtlljcfadfgnmjaaDoorWMore
namespace Go.Proofs.YtlljcfadfgnmjaaDoor.PSame
open Go.RowKit Go.Proofs.YtlljcfadfgnmjaaDoorW.PrintWords Go.Proofs.YtlljcfadfgnmjaaDoorW.PrintLast Go.Proofs.YtlljcfadfgnmjaaDoorW.PrintMore
attribute [local go_sem] max2_int min2_int max_two min_two max_three min_three max_four min_four   -- for this text's walks alone
set_option linter.unusedVariables false
set_option linter.unusedSimpArgs false



def errW : Option Int → Value
  | none => .nilIface
  | some c => .iface 0 (.int .i64 c)
theorem errW_none : errW none = .nilIface := rfl
theorem errW_some (c : Int) : errW (some c) = .iface 0 (.int .i64 c) := rfl

-- the values' own types

end Go.Proofs.YtlljcfadfgnmjaaDoor.PSame
