-- Written by a program of this session (wip/print/setup.py turns the kit's print tool)
import Derived.Test.YtncbhlionllpmaaProg
import Derived.Below
import Derived.Deep.Draws
import Derived.Deep.AppendLies
import Derived.Maps.AppendAt
import Derived.OwnWalk
import Derived.Laws.BytesArg
import Derived.Laws.MakeOwn
import Derived.Laws.OwnMore
import Derived.Deep.OwnRows
import Derived.Tactics
import Derived.Lib.ConvBytes
import Derived.Laws.Slices
import Derived.WalkKit
import Derived.KernelRfl
import Derived.RowKit3
import Derived.Deep.LoopGhost
import Derived.Deep.QuietTactic
import Derived.BigQuiet
import Derived.WideLaws
import Derived.Deep.DeepCutAuto
import Derived.Deep.CutBlock
import Derived.Deep.RegionHeld3
import Derived.Laws.Rows
import Derived.Lib.AppendStr
import Derived.ArgAppend
import Derived.Laws.IdiomCopy
import Derived.OrdersHeld
import Derived.Laws.BitsLemmas
import Derived.RowKit
import Derived.Test.YtncbhlionllpmaaWWords
import Derived.Test.YtncbhlionllpmaaWLast
import Derived.Test.YtncbhlionllpmaaWTab
import Derived.Test.YtncbhlionllpmaaWFour
import Derived.Test.YtncbhlionllpmaaWQPut
import Derived.Test.YtncbhlionllpmaaWApart
import Derived.Test.YtncbhlionllpmaaWArr
import Derived.Test.YtncbhlionllpmaaWZeros
import Derived.Test.YtncbhlionllpmaaWFoot
import Derived.Test.YtncbhlionllpmaaWKept
import Derived.Test.YtncbhlionllpmaaWShare
import Derived.Test.YtncbhlionllpmaaWN
import Derived.Test.YtncbhlionllpmaaWFootNe
import Derived.Test.YtncbhlionllpmaaWAt
import Derived.Test.YtncbhlionllpmaaWEqStruct
import Derived.Test.YtncbhlionllpmaaWRepsOne
import Derived.Test.YtncbhlionllpmaaWInv
import Derived.Test.YtncbhlionllpmaaWInvWords
import Derived.Test.YtncbhlionllpmaaWGuard
import Derived.Test.YtncbhlionllpmaaWNEv
import Derived.Test.YtncbhlionllpmaaWMore
namespace Go.Proofs.Ytncbhlionllpmaa.PRNtp
open Go.RowKit Go.Proofs.YtncbhlionllpmaaW.PrintWords Go.Proofs.YtncbhlionllpmaaW.PrintLast Go.Proofs.YtncbhlionllpmaaW.PrintMore
attribute [local go_sem] max2_int min2_int max_two min_two max_three min_three max_four min_four   -- for this text's walks alone
set_option linter.unusedVariables false
set_option linter.unusedSimpArgs false



def errW : Option Int → Value
  | none => .nilIface
  | some c => .iface 0 (.int .i64 c)
theorem errW_none : errW none = .nilIface := rfl
theorem errW_some (c : Int) : errW (some c) = .iface 0 (.int .i64 c) := rfl

-- the values' own types

end Go.Proofs.Ytncbhlionllpmaa.PRNtp
namespace Go.Proofs.Ytncbhlionllpmaa.PRNtp
open Go.RowKit Go.Proofs.YtncbhlionllpmaaW.PrintWords Go.Proofs.YtncbhlionllpmaaW.PrintLast Go.Proofs.YtncbhlionllpmaaW.PrintMore
attribute [local go_sem] max2_int min2_int max_two min_two max_three min_three max_four min_four   -- for this text's walks alone
set_option linter.unusedVariables false
set_option linter.unusedSimpArgs false

/-! ### epactref07_Ntp: function 12 -/
def epactref07_Ntp.f (a0 : Int) : Option (Int × Bool) := if a0 < (-2208988800) then (some (0, false)) else (if a0 > 9223372034645787007 then (some (0, false)) else (some (wrap64 (a0 + 2208988800), true)))
set_option maxHeartbeats 8000000 in
set_option maxRecDepth 100000 in
theorem epactref07_Ntp.calls (a0 : Int) (r1 : Int) (r2 : Bool) (w : World) (h : epactref07_Ntp.f a0 = some (r1, r2)) :
    Calls Try.prog 12 #[.int .i64 a0] w fun e w' => e = .returned (.tuple #[.int .i64 r1, .bool r2]) ∧ Drawn0 w w' := by
  have H : (if a0 < (-2208988800) then (some (0, false)) else (if a0 > 9223372034645787007 then (some (0, false)) else (some (wrap64 (a0 + 2208988800), true)))) = some (r1, r2) := h
  clear h
  by_cases c2 : a0 < (-2208988800)
  · rw [if_pos c2] at H
    have c2b0 : decide (a0 < (-2208988800)) = true := decide_eq_true c2
    clear c2
    simp only [Option.some.injEq, Prod.mk.injEq] at H
    obtain ⟨rfl, rfl⟩ := H
    go_enter Try.func12, Try.ntmps12
    go_wp2
    go_ret2
    exact ⟨by first | rfl | (simp; done) | (simp [*]; done), by repeat (first | exact Drawn0.refl _ | apply Drawn0.step)⟩
  · rw [if_neg c2] at H
    have c2b0 : decide (a0 < (-2208988800)) = false := decide_eq_false c2
    clear c2
    by_cases c3 : a0 > 9223372034645787007
    · rw [if_pos c3] at H
      have c3b0 : decide (9223372034645787007 < a0) = true := decide_eq_true c3
      clear c3
      simp only [Option.some.injEq, Prod.mk.injEq] at H
      obtain ⟨rfl, rfl⟩ := H
      go_enter Try.func12, Try.ntmps12
      go_wp2
      go_ret2
      exact ⟨by first | rfl | (simp; done) | (simp [*]; done), by repeat (first | exact Drawn0.refl _ | apply Drawn0.step)⟩
    · rw [if_neg c3] at H
      have c3b0 : decide (9223372034645787007 < a0) = false := decide_eq_false c3
      clear c3
      simp only [Option.some.injEq, Prod.mk.injEq] at H
      obtain ⟨rfl, rfl⟩ := H
      go_enter Try.func12, Try.ntmps12
      go_wp2
      go_ret2
      exact ⟨by first | rfl | (simp; done) | (simp [*]; done), by repeat (first | exact Drawn0.refl _ | apply Drawn0.step)⟩

end Go.Proofs.Ytncbhlionllpmaa.PRNtp
