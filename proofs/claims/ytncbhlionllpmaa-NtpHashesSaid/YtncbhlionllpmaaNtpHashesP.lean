/- NtpHashes: hashes are read of their texts, in great letters, too, and without the first noughts of a word, and with more blanks; no condition. -/
import Derived.Test.YtncbhlionllpmaaNtJ
import Derived.OpenShut
namespace Go.Proofs.Ytncbhlionllpmaa.Nt
open Go.RowKit Go.Proofs.YtncbhlionllpmaaW.PrintWords Go.Proofs.YtncbhlionllpmaaW.PrintLast Go.Proofs.YtncbhlionllpmaaW.PrintMore

theorem hashes_law (L : List Int) (w : World) (hl : L.length = 5) (hw : ∀ i < 5, (Lit.int .u32 (L.getD i 0)).wf = true) :
    Calls Try.prog 5 #[.agg (arrC .u32 L)] w fun e w' => e = .returned (.bool true) ∧ Below w.heap.size w w' :=
  hashes_walk L w hl fun i hi => by
    have := bounds_u32 (hw i hi)
    omega
end Go.Proofs.Ytncbhlionllpmaa.Nt
