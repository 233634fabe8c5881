-- Written by a program of this session (wip/print/setup.py turns the kit's print tool)
import Derived.Test.YtahknjlhlfooeaaProg
import Derived.Below
import Derived.Deep.Draws
import Derived.Deep.AppendLies
import Derived.Maps.AppendAt
import Derived.OwnWalk
import Derived.Laws.BytesArg
import Derived.Laws.MakeOwn
import Derived.Laws.OwnMore
import Derived.Deep.OwnRows
import Derived.Tactics
import Derived.Lib.ConvBytes
import Derived.Laws.Slices
import Derived.WalkKit
import Derived.KernelRfl
import Derived.RowKit3
import Derived.Deep.LoopGhost
import Derived.Deep.QuietTactic
import Derived.BigQuiet
import Derived.WideLaws
import Derived.Deep.DeepCutAuto
import Derived.Deep.CutBlock
import Derived.Deep.RegionHeld3
import Derived.Laws.Rows
import Derived.Lib.AppendStr
import Derived.ArgAppend
import Derived.Laws.IdiomCopy
import Derived.OrdersHeld
import Derived.Laws.BitsLemmas
import Derived.RowKit
import Derived.Test.YtahknjlhlfooeaaWWords
import Derived.Test.YtahknjlhlfooeaaWLast
import Derived.Test.YtahknjlhlfooeaaWTab
import Derived.Test.YtahknjlhlfooeaaWFour
import Derived.Test.YtahknjlhlfooeaaWQPut
import Derived.Test.YtahknjlhlfooeaaWApart
import Derived.Test.YtahknjlhlfooeaaWArr
import Derived.Test.YtahknjlhlfooeaaWZeros
import Derived.Test.YtahknjlhlfooeaaWFoot
import Derived.Test.YtahknjlhlfooeaaWKept
import Derived.Test.YtahknjlhlfooeaaWShare
import Derived.Test.YtahknjlhlfooeaaWN
import Derived.Test.YtahknjlhlfooeaaWFootNe
import Derived.Test.YtahknjlhlfooeaaWAt
import Derived.Test.YtahknjlhlfooeaaWEqStruct
import Derived.Test.YtahknjlhlfooeaaWRepsOne
import Derived.Test.YtahknjlhlfooeaaWInv
import Derived.Test.YtahknjlhlfooeaaWInvWords
import Derived.Test.YtahknjlhlfooeaaWGuard
import Derived.Test.YtahknjlhlfooeaaWNEv
import Derived.Test.YtahknjlhlfooeaaWMore
namespace Go.Proofs.Ytahknjlhlfooeaa.Pgood
open Go.RowKit Go.Proofs.YtahknjlhlfooeaaW.PrintWords Go.Proofs.YtahknjlhlfooeaaW.PrintLast Go.Proofs.YtahknjlhlfooeaaW.PrintMore
attribute [local go_sem] max2_int min2_int max_two min_two max_three min_three max_four min_four   -- for this text's walks alone
set_option linter.unusedVariables false
set_option linter.unusedSimpArgs false



def errW : Option Int → Value
  | none => .nilIface
  | some c => .iface 0 (.int .i64 c)
theorem errW_none : errW none = .nilIface := rfl
theorem errW_some (c : Int) : errW (some c) = .iface 0 (.int .i64 c) := rfl

-- the values' own types

end Go.Proofs.Ytahknjlhlfooeaa.Pgood
