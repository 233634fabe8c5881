/- NtpDigits: a hash of a digest's words is its digits, five times eight; no condition. -/
import Derived.Test.YtncbhlionllpmaaNtG
import Derived.Test.YtncbhlionllpmaaNtX
import Derived.OpenShut
namespace Go.Proofs.Ytncbhlionllpmaa.Nt
open Go.RowKit Go.Proofs.YtncbhlionllpmaaW.PrintWords Go.Proofs.YtncbhlionllpmaaW.PrintLast Go.Proofs.YtncbhlionllpmaaW.PrintMore

theorem digits_law (L : List Int) (w : World) (hl : L.length = 20) (hw : ∀ i < 20, (Lit.int .u8 (L.getD i 0)).wf = true) :
    Calls Try.prog 7 #[.agg (arrC .u8 L)] w fun e w' => e = .returned (.bool true) ∧ Below w.heap.size w w' := by
  have hb : ∀ i < 20, 0 ≤ L.getD i 0 ∧ L.getD i 0 < 256 := fun i hi => by
    have := bounds_u8 (hw i hi)
    omega
  have hB := bytes_all hl hb
  refine digits_walk L w hl hb (words_bound hB) ?_
  unfold textN
  rw [bytes_back hl hB]
end Go.Proofs.Ytncbhlionllpmaa.Nt
