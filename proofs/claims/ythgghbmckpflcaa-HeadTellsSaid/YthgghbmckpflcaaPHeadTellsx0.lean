-- Written by a program of this session (wip/print/setup.py turns the kit's print tool)
import Derived.Test.YthgghbmckpflcaaProg
import Derived.Test.YthgghbmckpflcaaHeadTellsC
import Derived.Below
import Derived.Deep.Draws
import Derived.Deep.AppendLies
import Derived.Maps.AppendAt
import Derived.OwnWalk
import Derived.Laws.BytesArg
import Derived.Laws.MakeOwn
import Derived.Laws.OwnMore
import Derived.Deep.OwnRows
import Derived.Tactics
import Derived.Lib.ConvBytes
import Derived.Laws.Slices
import Derived.WalkKit
import Derived.KernelRfl
import Derived.RowKit3
import Derived.Deep.LoopGhost
import Derived.Deep.QuietTactic
import Derived.BigQuiet
import Derived.WideLaws
import Derived.Deep.DeepCutAuto
import Derived.Deep.CutBlock
import Derived.Deep.RegionHeld3
import Derived.Laws.Rows
import Derived.Lib.AppendStr
import Derived.ArgAppend
import Derived.Laws.IdiomCopy
import Derived.OrdersHeld
import Derived.Laws.BitsLemmas
import Derived.RowKit
import Derived.Test.YthgghbmckpflcaaWWords
import Derived.Test.YthgghbmckpflcaaWLast
import Derived.Test.YthgghbmckpflcaaWTab
import Derived.Test.YthgghbmckpflcaaWFour
import Derived.Test.YthgghbmckpflcaaWQPut
import Derived.Test.YthgghbmckpflcaaWApart
import Derived.Test.YthgghbmckpflcaaWArr
import Derived.Test.YthgghbmckpflcaaWZeros
import Derived.Test.YthgghbmckpflcaaWFoot
import Derived.Test.YthgghbmckpflcaaWKept
import Derived.Test.YthgghbmckpflcaaWShare
import Derived.Test.YthgghbmckpflcaaWN
import Derived.Test.YthgghbmckpflcaaWFootNe
import Derived.Test.YthgghbmckpflcaaWAt
import Derived.Test.YthgghbmckpflcaaWEqStruct
import Derived.Test.YthgghbmckpflcaaWRepsOne
import Derived.Test.YthgghbmckpflcaaWInv
import Derived.Test.YthgghbmckpflcaaWInvWords
import Derived.Test.YthgghbmckpflcaaWGuard
import Derived.Test.YthgghbmckpflcaaWNEv
import Derived.Test.YthgghbmckpflcaaWMore
namespace Go.Proofs.Ythgghbmckpflcaa.PHeadTells
open Go.RowKit Go.Proofs.YthgghbmckpflcaaW.PrintWords Go.Proofs.YthgghbmckpflcaaW.PrintLast Go.Proofs.YthgghbmckpflcaaW.PrintMore
attribute [local go_sem] max2_int min2_int max_two min_two max_three min_three max_four min_four   -- for this text's walks alone
set_option linter.unusedVariables false
set_option linter.unusedSimpArgs false



def errW : Option Int → Value
  | none => .nilIface
  | some c => .iface 0 (.int .i64 c)
theorem errW_none : errW none = .nilIface := rfl
theorem errW_some (c : Int) : errW (some c) = .iface 0 (.int .i64 c) := rfl

-- the values' own types

end Go.Proofs.Ythgghbmckpflcaa.PHeadTells
