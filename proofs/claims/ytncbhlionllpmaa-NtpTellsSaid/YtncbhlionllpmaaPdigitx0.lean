-- Written by a program of this session (wip/print/setup.py turns the kit's print tool)
import Derived.Test.YtncbhlionllpmaaProg
import Derived.Below
import Derived.Deep.Draws
import Derived.Deep.AppendLies
import Derived.Maps.AppendAt
import Derived.OwnWalk
import Derived.Laws.BytesArg
import Derived.Laws.MakeOwn
import Derived.Laws.OwnMore
import Derived.Deep.OwnRows
import Derived.Tactics
import Derived.Lib.ConvBytes
import Derived.Laws.Slices
import Derived.WalkKit
import Derived.KernelRfl
import Derived.RowKit3
import Derived.Deep.LoopGhost
import Derived.Deep.QuietTactic
import Derived.BigQuiet
import Derived.WideLaws
import Derived.Deep.DeepCutAuto
import Derived.Deep.CutBlock
import Derived.Deep.RegionHeld3
import Derived.Laws.Rows
import Derived.Lib.AppendStr
import Derived.ArgAppend
import Derived.Laws.IdiomCopy
import Derived.OrdersHeld
import Derived.Laws.BitsLemmas
import Derived.RowKit
import Derived.Test.YtncbhlionllpmaaWWords
import Derived.Test.YtncbhlionllpmaaWLast
import Derived.Test.YtncbhlionllpmaaWTab
import Derived.Test.YtncbhlionllpmaaWFour
import Derived.Test.YtncbhlionllpmaaWQPut
import Derived.Test.YtncbhlionllpmaaWApart
import Derived.Test.YtncbhlionllpmaaWArr
import Derived.Test.YtncbhlionllpmaaWZeros
import Derived.Test.YtncbhlionllpmaaWFoot
import Derived.Test.YtncbhlionllpmaaWKept
import Derived.Test.YtncbhlionllpmaaWShare
import Derived.Test.YtncbhlionllpmaaWN
import Derived.Test.YtncbhlionllpmaaWFootNe
import Derived.Test.YtncbhlionllpmaaWAt
import Derived.Test.YtncbhlionllpmaaWEqStruct
import Derived.Test.YtncbhlionllpmaaWRepsOne
import Derived.Test.YtncbhlionllpmaaWInv
import Derived.Test.YtncbhlionllpmaaWInvWords
import Derived.Test.YtncbhlionllpmaaWGuard
import Derived.Test.YtncbhlionllpmaaWNEv
import Derived.Test.YtncbhlionllpmaaWMore
namespace Go.Proofs.Ytncbhlionllpmaa.Pdigit
open Go.RowKit Go.Proofs.YtncbhlionllpmaaW.PrintWords Go.Proofs.YtncbhlionllpmaaW.PrintLast Go.Proofs.YtncbhlionllpmaaW.PrintMore
attribute [local go_sem] max2_int min2_int max_two min_two max_three min_three max_four min_four   -- for this text's walks alone
set_option linter.unusedVariables false
set_option linter.unusedSimpArgs false



def errW : Option Int → Value
  | none => .nilIface
  | some c => .iface 0 (.int .i64 c)
theorem errW_none : errW none = .nilIface := rfl
theorem errW_some (c : Int) : errW (some c) = .iface 0 (.int .i64 c) := rfl

-- the values' own types

end Go.Proofs.Ytncbhlionllpmaa.Pdigit
