/- NtpTells: seconds of both epochs, words and hashes, as the document tells; no condition. -/
import Derived.Test.YtncbhlionllpmaaNtK
import Derived.OpenShut
namespace Go.Proofs.Ytncbhlionllpmaa.Nt
open Go.RowKit Go.Proofs.YtncbhlionllpmaaW.PrintWords Go.Proofs.YtncbhlionllpmaaW.PrintLast Go.Proofs.YtncbhlionllpmaaW.PrintMore

theorem tells_law (n : Int) (s : ByteArray) (L : List Int) (w : World) (hn : (Lit.int .i64 n).wf = true) (hl : L.length = 5) (hw : ∀ i < 5, (Lit.int .u32 (L.getD i 0)).wf = true) (hs : s.size ≤ 140737488351232) :
    Calls Try.prog 3 #[.int .i64 n, .string s, .agg (arrC .u32 L)] w fun e w' => e = .returned (.bool true) ∧ Below w.heap.size w w' := by
  by_cases h : 200 < s.size
  · exact tells_long n s L w h hs
  · refine tells_walk n s L w (bounds_i64 hn) (by omega) hl fun i hi => ?_
    have := bounds_u32 (hw i hi)
    omega
end Go.Proofs.Ytncbhlionllpmaa.Nt
