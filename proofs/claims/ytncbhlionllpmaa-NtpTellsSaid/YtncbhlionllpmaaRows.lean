/-
  No cell of these rows narrows 'for every input' (looked for: loops, veiled, ifaces, maps, wideKeys, modest, calm, conditions, laid).
  DERIVED. THE GIVEN ROWS OF THIS SEAT. 5 by the template 'for every input the law returns true; each argument reads behind the call as it read before'; 0 by the template 'total and deterministic' (their statements: YtncbhlionllpmaaTotals.lean).
  GIVEN WITH THE SEED: the statements are not yours to turn. If you find one false, say at which input.
  Laid BY PROGRAM, IN A SANDBOX (cutbox-rows.mjs): the forced cells as the released guide's own fill.sh prints them over the translation f7b84cb000a8313e… (all of the seat's roots in one cut). By AI agents, Wed Nov 11 2026. No macro, syntax, notation, axiom, sorry.
-/
import Derived.Test.YtncbhlionllpmaaChecked
import GoSem.Claim
import GoSem.ClaimJoined
import GoSem.ClaimMapViews
import Derived.JoinedTies
import Derived.KernelRfl
namespace Go.Proofs.Ytncbhlionllpmaa
/- THE CELL 'sum', in the pinned program and in every row, IS THE sha256 OF THE DUMP (.gsa) THAT YtncbhlionllpmaaProg.lean LOADS. Nothing in Lean hashes anything: it is a label: what it is worth is what the hold of that sum in a sandbox is worth. -/
noncomputable def Try.pinned : Pinned := { name := "ytncbhlionllpmaa", sum := "f7b84cb000a8313ea7e255c8086a242f06a86847f551b7c41c07672d4d946c53", checked := Try.checked }
namespace Rows
def none {H : Type} : Left H := { results := [], args := [] }

/-- 'epactlaw07.NtpTells': WHATEVER THE INPUT: true; the input reads as it did. -/
def ntpTellsSpec : ChangeSpec := { name := "ntpTells", fn := fun _ => fun
  | [d1, d2, d3] => { results := [.lit (.bool true)], args := [d1, d2, d3] }
  | _ => none }
def ntpTellsRow : OpenClaim := { program := "ytncbhlionllpmaa", sum := "f7b84cb000a8313ea7e255c8086a242f06a86847f551b7c41c07672d4d946c53", func := "epact/epactlaw07.NtpTells", spec := "ntpTells", inPlace := ["internal/abi.NoEscape", "internal/bytealg.MakeNoZero"], apart := false }
def NtpTellsSaid : Prop := ntpTellsRow.holds Try.pinned (OpenSpec.ofChange ntpTellsSpec)

/-- ITS FALSE NEIGHBOUR: 'it returns false'. Refute it at one input. -/
def ntpTellsWrong : ChangeSpec := { name := "ntpTells", fn := fun _ => fun
  | [d1, d2, d3] => { results := [.lit (.bool false)], args := [d1, d2, d3] }
  | _ => none }
def NtpTellsWrongFalsely : Prop := ntpTellsRow.holds Try.pinned (OpenSpec.ofChange ntpTellsWrong)

/-- 'epactlaw07.NtpBack': WHATEVER THE INPUT: true; the input reads as it did. -/
def ntpBackSpec : ChangeSpec := { name := "ntpBack", fn := fun _ => fun
  | [d1, d2] => { results := [.lit (.bool true)], args := [d1, d2] }
  | _ => none }
def ntpBackRow : OpenClaim := { program := "ytncbhlionllpmaa", sum := "f7b84cb000a8313ea7e255c8086a242f06a86847f551b7c41c07672d4d946c53", func := "epact/epactlaw07.NtpBack", spec := "ntpBack", inPlace := ["internal/abi.NoEscape", "internal/bytealg.MakeNoZero"], apart := false }
def NtpBackSaid : Prop := ntpBackRow.holds Try.pinned (OpenSpec.ofChange ntpBackSpec)

/-- ITS FALSE NEIGHBOUR: 'it returns false'. Refute it at one input. -/
def ntpBackWrong : ChangeSpec := { name := "ntpBack", fn := fun _ => fun
  | [d1, d2] => { results := [.lit (.bool false)], args := [d1, d2] }
  | _ => none }
def NtpBackWrongFalsely : Prop := ntpBackRow.holds Try.pinned (OpenSpec.ofChange ntpBackWrong)

/-- 'epactlaw07.NtpHashes': WHATEVER THE INPUT: true; the input reads as it did. -/
def ntpHashesSpec : ChangeSpec := { name := "ntpHashes", fn := fun _ => fun
  | [d] => { results := [.lit (.bool true)], args := [d] }
  | _ => none }
def ntpHashesRow : OpenClaim := { program := "ytncbhlionllpmaa", sum := "f7b84cb000a8313ea7e255c8086a242f06a86847f551b7c41c07672d4d946c53", func := "epact/epactlaw07.NtpHashes", spec := "ntpHashes", inPlace := ["internal/abi.NoEscape", "internal/bytealg.MakeNoZero"], apart := false }
def NtpHashesSaid : Prop := ntpHashesRow.holds Try.pinned (OpenSpec.ofChange ntpHashesSpec)

/-- ITS FALSE NEIGHBOUR: 'it returns false'. Refute it at one input. -/
def ntpHashesWrong : ChangeSpec := { name := "ntpHashes", fn := fun _ => fun
  | [d] => { results := [.lit (.bool false)], args := [d] }
  | _ => none }
def NtpHashesWrongFalsely : Prop := ntpHashesRow.holds Try.pinned (OpenSpec.ofChange ntpHashesWrong)

/-- 'epactlaw07.NtpWords': WHATEVER THE INPUT: true; the input reads as it did. -/
def ntpWordsSpec : ChangeSpec := { name := "ntpWords", fn := fun _ => fun
  | [d1, d2] => { results := [.lit (.bool true)], args := [d1, d2] }
  | _ => none }
def ntpWordsRow : OpenClaim := { program := "ytncbhlionllpmaa", sum := "f7b84cb000a8313ea7e255c8086a242f06a86847f551b7c41c07672d4d946c53", func := "epact/epactlaw07.NtpWords", spec := "ntpWords", inPlace := ["internal/abi.NoEscape", "internal/bytealg.MakeNoZero"], apart := false }
def NtpWordsSaid : Prop := ntpWordsRow.holds Try.pinned (OpenSpec.ofChange ntpWordsSpec)

/-- ITS FALSE NEIGHBOUR: 'it returns false'. Refute it at one input. -/
def ntpWordsWrong : ChangeSpec := { name := "ntpWords", fn := fun _ => fun
  | [d1, d2] => { results := [.lit (.bool false)], args := [d1, d2] }
  | _ => none }
def NtpWordsWrongFalsely : Prop := ntpWordsRow.holds Try.pinned (OpenSpec.ofChange ntpWordsWrong)

/-- 'epactlaw07.NtpDigits': WHATEVER THE INPUT: true; the input reads as it did. -/
def ntpDigitsSpec : ChangeSpec := { name := "ntpDigits", fn := fun _ => fun
  | [d] => { results := [.lit (.bool true)], args := [d] }
  | _ => none }
def ntpDigitsRow : OpenClaim := { program := "ytncbhlionllpmaa", sum := "f7b84cb000a8313ea7e255c8086a242f06a86847f551b7c41c07672d4d946c53", func := "epact/epactlaw07.NtpDigits", spec := "ntpDigits", inPlace := ["internal/abi.NoEscape", "internal/bytealg.MakeNoZero"], apart := false }
def NtpDigitsSaid : Prop := ntpDigitsRow.holds Try.pinned (OpenSpec.ofChange ntpDigitsSpec)

/-- ITS FALSE NEIGHBOUR: 'it returns false'. Refute it at one input. -/
def ntpDigitsWrong : ChangeSpec := { name := "ntpDigits", fn := fun _ => fun
  | [d] => { results := [.lit (.bool false)], args := [d] }
  | _ => none }
def NtpDigitsWrongFalsely : Prop := ntpDigitsRow.holds Try.pinned (OpenSpec.ofChange ntpDigitsWrong)

/- THE SECOND FORM. 'bulk': how many values and letters a reading holds, each counted each time it is reached (what is shared counts as often as it is met; a slice's spare places count too). A statement '..UptoSaid' is the law's where the arguments, and the package variables that the reading takes, are together of bulk at most 1048576: NARROWER than '..Said'. Prove '..Said' where nothing that the law and all that it calls make is longer than what came in: it says more and counts as full. Else prove '..UptoSaid'. A law counts once. -/
mutual
def uptoBulk {H : Type} : DataW H → Nat
  | .lit (.string bytes) => bytes.length + 1
  | .lit _ => 1
  | .nil => 1
  | .ptr d => uptoBulk d + 1
  | .slice elems spare => uptoBulkAll elems + uptoBulkAll spare + 1
  | .agg parts => uptoBulkAll parts + 1
  | .iface _ d => uptoBulk d + 1
  | .map entries => uptoBulkEntries entries + 1
  | .held _ => 1
def uptoBulkAll {H : Type} : List (DataW H) → Nat
  | [] => 0
  | d :: r => uptoBulk d + uptoBulkAll r
def uptoBulkEntries {H : Type} : List (Lit × DataW H) → Nat
  | [] => 0
  | x :: r => uptoBulkEntry x + uptoBulkEntries r
def uptoBulkEntry {H : Type} : Lit × DataW H → Nat
  | (.string bytes, d) => bytes.length + uptoBulk d + 1
  | (_, d) => uptoBulk d + 1
 end
def uptoSmall : (H : Type) → List (DataW H) → Bool := fun _ ds => decide (uptoBulkAll ds ≤ 1048576)
def OpenSpec.upto (s : _root_.Go.ChangeSpec) : _root_.Go.OpenSpec := { _root_.Go.OpenSpec.ofChange s with cond := some uptoSmall }

/-- 'epactlaw07.NtpTells', WHERE WHAT IT READS IS OF BULK AT MOST 1048576: true; the input reads as it did. -/
def ntpTellsUptoRow : OpenClaim := { program := "ytncbhlionllpmaa", sum := "f7b84cb000a8313ea7e255c8086a242f06a86847f551b7c41c07672d4d946c53", func := "epact/epactlaw07.NtpTells", spec := "ntpTells", inPlace := ["internal/abi.NoEscape", "internal/bytealg.MakeNoZero"], apart := false, narrowed := true }
def NtpTellsUptoSaid : Prop := ntpTellsUptoRow.holds Try.pinned (OpenSpec.upto ntpTellsSpec)

/-- 'epactlaw07.NtpBack', WHERE WHAT IT READS IS OF BULK AT MOST 1048576: true; the input reads as it did. -/
def ntpBackUptoRow : OpenClaim := { program := "ytncbhlionllpmaa", sum := "f7b84cb000a8313ea7e255c8086a242f06a86847f551b7c41c07672d4d946c53", func := "epact/epactlaw07.NtpBack", spec := "ntpBack", inPlace := ["internal/abi.NoEscape", "internal/bytealg.MakeNoZero"], apart := false, narrowed := true }
def NtpBackUptoSaid : Prop := ntpBackUptoRow.holds Try.pinned (OpenSpec.upto ntpBackSpec)

/-- 'epactlaw07.NtpHashes', WHERE WHAT IT READS IS OF BULK AT MOST 1048576: true; the input reads as it did. -/
def ntpHashesUptoRow : OpenClaim := { program := "ytncbhlionllpmaa", sum := "f7b84cb000a8313ea7e255c8086a242f06a86847f551b7c41c07672d4d946c53", func := "epact/epactlaw07.NtpHashes", spec := "ntpHashes", inPlace := ["internal/abi.NoEscape", "internal/bytealg.MakeNoZero"], apart := false, narrowed := true }
def NtpHashesUptoSaid : Prop := ntpHashesUptoRow.holds Try.pinned (OpenSpec.upto ntpHashesSpec)

/-- 'epactlaw07.NtpWords', WHERE WHAT IT READS IS OF BULK AT MOST 1048576: true; the input reads as it did. -/
def ntpWordsUptoRow : OpenClaim := { program := "ytncbhlionllpmaa", sum := "f7b84cb000a8313ea7e255c8086a242f06a86847f551b7c41c07672d4d946c53", func := "epact/epactlaw07.NtpWords", spec := "ntpWords", inPlace := ["internal/abi.NoEscape", "internal/bytealg.MakeNoZero"], apart := false, narrowed := true }
def NtpWordsUptoSaid : Prop := ntpWordsUptoRow.holds Try.pinned (OpenSpec.upto ntpWordsSpec)

/-- 'epactlaw07.NtpDigits', WHERE WHAT IT READS IS OF BULK AT MOST 1048576: true; the input reads as it did. -/
def ntpDigitsUptoRow : OpenClaim := { program := "ytncbhlionllpmaa", sum := "f7b84cb000a8313ea7e255c8086a242f06a86847f551b7c41c07672d4d946c53", func := "epact/epactlaw07.NtpDigits", spec := "ntpDigits", inPlace := ["internal/abi.NoEscape", "internal/bytealg.MakeNoZero"], apart := false, narrowed := true }
def NtpDigitsUptoSaid : Prop := ntpDigitsUptoRow.holds Try.pinned (OpenSpec.upto ntpDigitsSpec)

end Rows
end Go.Proofs.Ytncbhlionllpmaa
