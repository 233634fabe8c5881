/- The small cases of chapter 14 come out right; condition: none. -/
import Derived.Test.YtahknjlhlfooeaaPsmallx1
namespace Go.Proofs.Ytahknjlhlfooeaa.Ab
open Go.RowKit Go.Proofs.YtahknjlhlfooeaaW.PrintWords Go.Proofs.YtahknjlhlfooeaaW.PrintLast Go.Proofs.YtahknjlhlfooeaaW.PrintMore

theorem small_f : Psmall.epactlaw14_small.f 10 = some true := by
  decide +kernel
theorem small_calls (r : Bool) (w : World) (h : (some true : Option Bool) = some r) :
    Calls Try.prog 7 #[] w fun e w' => e = .returned (.bool r) ∧ Below w.heap.size w w' := by
  injection h with h
  subst h
  exact Psmall.epactlaw14_small.calls 10 true w small_f rfl
end Go.Proofs.Ytahknjlhlfooeaa.Ab
