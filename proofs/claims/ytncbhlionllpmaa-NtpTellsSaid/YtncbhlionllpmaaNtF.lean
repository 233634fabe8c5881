/- Contracts of ntp in one word; no condition. -/
import Derived.Test.YtncbhlionllpmaaNtS
namespace Go.Proofs.Ytncbhlionllpmaa.Nt
open Go.RowKit Go.Proofs.YtncbhlionllpmaaW.PrintWords Go.Proofs.YtncbhlionllpmaaW.PrintLast Go.Proofs.YtncbhlionllpmaaW.PrintMore

theorem word_is (a0 : ByteArray) (r1 : Int) (r2 : Bool) (w : World) (h : some (wordN a0) = some (r1, r2)) :
    Calls Try.prog 13 #[.string a0] w fun e w' => e = .returned (.tuple #[.int .u32 r1, .bool r2]) ∧ Below w.heap.size w w' := by
  have h2 := word_calls a0 w
  rw [Option.some.inj h] at h2
  exact h2
theorem small_is (r : Bool) (w : World) (h : some true = some r) :
    Calls Try.prog 8 #[] w fun e w' => e = .returned (.bool r) ∧ Below w.heap.size w w' := by
  obtain rfl := Option.some.inj h
  exact small_calls w
end Go.Proofs.Ytncbhlionllpmaa.Nt
