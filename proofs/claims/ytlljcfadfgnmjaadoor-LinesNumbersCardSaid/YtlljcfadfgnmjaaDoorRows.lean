/-
  NARROWER THAN 'FOR EVERY INPUT', by the rows' own cells (each row's printed sentence says how): LinesTells: laid · LinesBack: laid · LinesWords: laid · LinesNumbers: laid · LinesCuts: laid · LinesFolds: laid · LinesJoins: laid.
  DERIVED. THE GIVEN ROWS OF THIS SEAT. 7 by the template 'for every input the law returns true; each argument reads behind the call as it read before'; 0 by the template 'total and deterministic' (their statements: YtlljcfadfgnmjaaDoorTotals.lean).
  GIVEN WITH THE SEED: the statements are not yours to turn. If you find one false, say at which input.
  Laid BY PROGRAM, IN A SANDBOX (cutbox-rows.mjs): the forced cells as the released guide's own fill.sh prints them over the translation 72c0158ea4767069… (all of the seat's roots in one cut). By AI agents, Wed Nov 11 2026. No macro, syntax, notation, axiom, sorry.
-/
import Derived.Test.YtlljcfadfgnmjaaDoorChecked
import GoSem.PinnedTables
import GoSem.Claim
import GoSem.ClaimJoined
import GoSem.ClaimMapViews
import Derived.JoinedTies
import Derived.KernelRfl
namespace Go.Proofs.YtlljcfadfgnmjaaDoor
/- THE CELL 'sum', in the pinned program and in every row, IS THE sha256 OF THE DUMP (.gsa) THAT YtlljcfadfgnmjaaDoorProg.lean LOADS. Nothing in Lean hashes anything: it is a label: what it is worth is what the hold of that sum in a sandbox is worth. -/
noncomputable def Tryd.pinned : Pinned := { name := "ytlljcfadfgnmjaadoor", sum := "72c0158ea4767069f550d1d93e20efa6b9e65a700f4153253c366c744c0c51e5", checked := Tryd.checked }
namespace Rows
def none {H : Type} : Left H := { results := [], args := [] }

/- WHAT THE LISTED PACKAGE-LEVEL VARIABLES READ AS WHEN THE CALL BEGINS. Each datum BY PROGRAM (the guide's laid-datum.mjs) off the statement by which the dump's own 'gosem.cut.vars' lays the variable. In a bare row this is a premise. The card (YtlljcfadfgnmjaaDoorCards.lean) ties it to the program's text. -/
def laid_unicode_utf8_acceptRanges {H : Type} : DataW H := .agg [.agg [.lit (.int .u8 128), .lit (.int .u8 191)], .agg [.lit (.int .u8 160), .lit (.int .u8 191)], .agg [.lit (.int .u8 128), .lit (.int .u8 159)], .agg [.lit (.int .u8 144), .lit (.int .u8 191)], .agg [.lit (.int .u8 128), .lit (.int .u8 143)], .agg [.lit (.int .u8 0), .lit (.int .u8 0)], .agg [.lit (.int .u8 0), .lit (.int .u8 0)], .agg [.lit (.int .u8 0), .lit (.int .u8 0)], .agg [.lit (.int .u8 0), .lit (.int .u8 0)], .agg [.lit (.int .u8 0), .lit (.int .u8 0)], .agg [.lit (.int .u8 0), .lit (.int .u8 0)], .agg [.lit (.int .u8 0), .lit (.int .u8 0)], .agg [.lit (.int .u8 0), .lit (.int .u8 0)], .agg [.lit (.int .u8 0), .lit (.int .u8 0)], .agg [.lit (.int .u8 0), .lit (.int .u8 0)], .agg [.lit (.int .u8 0), .lit (.int .u8 0)]]
/-- One of Go's own tables, pinned by name: the form's constant. -/
def laid_unicode_utf8_first : DataW Unit := Go.Pinned.utf8First

/-- 'epactlaw05.LinesTells': WHATEVER THE INPUT: true; the input reads as it did. -/
def linesTellsSpec : ChangeSpec := { name := "linesTells", fn := fun _ => fun
  | [d1, d2] => { results := [.lit (.bool true)], args := [d1, d2] }
  | _ => none }
def linesTellsRow : OpenClaim := { program := "ytlljcfadfgnmjaadoor", sum := "72c0158ea4767069f550d1d93e20efa6b9e65a700f4153253c366c744c0c51e5", func := "epact/epactlaw05.LinesTells", spec := "linesTells", inPlace := ["internal/bytealg.IndexByteString", "internal/bytealg.IndexString", "internal/bytealg.CountString"], named := ["internal/bytealg.MaxLen", "unicode/utf8.first", "unicode/utf8.acceptRanges"], apart := false, laid := [("unicode/utf8.acceptRanges", laid_unicode_utf8_acceptRanges), ("unicode/utf8.first", laid_unicode_utf8_first)] }
def LinesTellsSaid : Prop := linesTellsRow.holds Tryd.pinned (OpenSpec.ofChange linesTellsSpec)

/-- ITS FALSE NEIGHBOUR: 'it returns false'. Refute it at one input. -/
def linesTellsWrong : ChangeSpec := { name := "linesTells", fn := fun _ => fun
  | [d1, d2] => { results := [.lit (.bool false)], args := [d1, d2] }
  | _ => none }
def LinesTellsWrongFalsely : Prop := linesTellsRow.holds Tryd.pinned (OpenSpec.ofChange linesTellsWrong)

/-- 'epactlaw05.LinesBack': WHATEVER THE INPUT: true; the input reads as it did. -/
def linesBackSpec : ChangeSpec := { name := "linesBack", fn := fun _ => fun
  | [d] => { results := [.lit (.bool true)], args := [d] }
  | _ => none }
def linesBackRow : OpenClaim := { program := "ytlljcfadfgnmjaadoor", sum := "72c0158ea4767069f550d1d93e20efa6b9e65a700f4153253c366c744c0c51e5", func := "epact/epactlaw05.LinesBack", spec := "linesBack", inPlace := ["internal/bytealg.IndexByteString", "internal/bytealg.IndexString", "internal/bytealg.CountString"], named := ["internal/bytealg.MaxLen", "unicode/utf8.first", "unicode/utf8.acceptRanges"], apart := false, laid := [("unicode/utf8.acceptRanges", laid_unicode_utf8_acceptRanges), ("unicode/utf8.first", laid_unicode_utf8_first)] }
def LinesBackSaid : Prop := linesBackRow.holds Tryd.pinned (OpenSpec.ofChange linesBackSpec)

/-- ITS FALSE NEIGHBOUR: 'it returns false'. Refute it at one input. -/
def linesBackWrong : ChangeSpec := { name := "linesBack", fn := fun _ => fun
  | [d] => { results := [.lit (.bool false)], args := [d] }
  | _ => none }
def LinesBackWrongFalsely : Prop := linesBackRow.holds Tryd.pinned (OpenSpec.ofChange linesBackWrong)

/-- 'epactlaw05.LinesWords': WHATEVER THE INPUT: true; the input reads as it did. -/
def linesWordsSpec : ChangeSpec := { name := "linesWords", fn := fun _ => fun
  | [d] => { results := [.lit (.bool true)], args := [d] }
  | _ => none }
def linesWordsRow : OpenClaim := { program := "ytlljcfadfgnmjaadoor", sum := "72c0158ea4767069f550d1d93e20efa6b9e65a700f4153253c366c744c0c51e5", func := "epact/epactlaw05.LinesWords", spec := "linesWords", inPlace := ["internal/bytealg.IndexByteString", "internal/bytealg.IndexString", "internal/bytealg.CountString"], named := ["internal/bytealg.MaxLen", "unicode/utf8.first", "unicode/utf8.acceptRanges"], apart := false, laid := [("unicode/utf8.acceptRanges", laid_unicode_utf8_acceptRanges), ("unicode/utf8.first", laid_unicode_utf8_first)] }
def LinesWordsSaid : Prop := linesWordsRow.holds Tryd.pinned (OpenSpec.ofChange linesWordsSpec)

/-- ITS FALSE NEIGHBOUR: 'it returns false'. Refute it at one input. -/
def linesWordsWrong : ChangeSpec := { name := "linesWords", fn := fun _ => fun
  | [d] => { results := [.lit (.bool false)], args := [d] }
  | _ => none }
def LinesWordsWrongFalsely : Prop := linesWordsRow.holds Tryd.pinned (OpenSpec.ofChange linesWordsWrong)

/-- 'epactlaw05.LinesNumbers': WHATEVER THE INPUT: true; the input reads as it did. -/
def linesNumbersSpec : ChangeSpec := { name := "linesNumbers", fn := fun _ => fun
  | [d1, d2, d3, d4] => { results := [.lit (.bool true)], args := [d1, d2, d3, d4] }
  | _ => none }
def linesNumbersRow : OpenClaim := { program := "ytlljcfadfgnmjaadoor", sum := "72c0158ea4767069f550d1d93e20efa6b9e65a700f4153253c366c744c0c51e5", func := "epact/epactlaw05.LinesNumbers", spec := "linesNumbers", inPlace := ["internal/bytealg.IndexByteString", "internal/bytealg.IndexString", "internal/bytealg.CountString"], named := ["internal/bytealg.MaxLen", "unicode/utf8.first", "unicode/utf8.acceptRanges"], apart := false, laid := [("unicode/utf8.acceptRanges", laid_unicode_utf8_acceptRanges), ("unicode/utf8.first", laid_unicode_utf8_first)] }
def LinesNumbersSaid : Prop := linesNumbersRow.holds Tryd.pinned (OpenSpec.ofChange linesNumbersSpec)

/-- ITS FALSE NEIGHBOUR: 'it returns false'. Refute it at one input. -/
def linesNumbersWrong : ChangeSpec := { name := "linesNumbers", fn := fun _ => fun
  | [d1, d2, d3, d4] => { results := [.lit (.bool false)], args := [d1, d2, d3, d4] }
  | _ => none }
def LinesNumbersWrongFalsely : Prop := linesNumbersRow.holds Tryd.pinned (OpenSpec.ofChange linesNumbersWrong)

/-- 'epactlaw05.LinesCuts': WHATEVER THE INPUT: true; the input reads as it did. -/
def linesCutsSpec : ChangeSpec := { name := "linesCuts", fn := fun _ => fun
  | [d1, d2] => { results := [.lit (.bool true)], args := [d1, d2] }
  | _ => none }
def linesCutsRow : OpenClaim := { program := "ytlljcfadfgnmjaadoor", sum := "72c0158ea4767069f550d1d93e20efa6b9e65a700f4153253c366c744c0c51e5", func := "epact/epactlaw05.LinesCuts", spec := "linesCuts", inPlace := ["internal/bytealg.IndexByteString", "internal/bytealg.IndexString", "internal/bytealg.CountString"], named := ["internal/bytealg.MaxLen", "unicode/utf8.first", "unicode/utf8.acceptRanges"], apart := false, laid := [("unicode/utf8.acceptRanges", laid_unicode_utf8_acceptRanges), ("unicode/utf8.first", laid_unicode_utf8_first)] }
def LinesCutsSaid : Prop := linesCutsRow.holds Tryd.pinned (OpenSpec.ofChange linesCutsSpec)

/-- ITS FALSE NEIGHBOUR: 'it returns false'. Refute it at one input. -/
def linesCutsWrong : ChangeSpec := { name := "linesCuts", fn := fun _ => fun
  | [d1, d2] => { results := [.lit (.bool false)], args := [d1, d2] }
  | _ => none }
def LinesCutsWrongFalsely : Prop := linesCutsRow.holds Tryd.pinned (OpenSpec.ofChange linesCutsWrong)

/-- 'epactlaw05.LinesFolds': WHATEVER THE INPUT: true; the input reads as it did. -/
def linesFoldsSpec : ChangeSpec := { name := "linesFolds", fn := fun _ => fun
  | [d] => { results := [.lit (.bool true)], args := [d] }
  | _ => none }
def linesFoldsRow : OpenClaim := { program := "ytlljcfadfgnmjaadoor", sum := "72c0158ea4767069f550d1d93e20efa6b9e65a700f4153253c366c744c0c51e5", func := "epact/epactlaw05.LinesFolds", spec := "linesFolds", inPlace := ["internal/bytealg.IndexByteString", "internal/bytealg.IndexString", "internal/bytealg.CountString"], named := ["internal/bytealg.MaxLen", "unicode/utf8.first", "unicode/utf8.acceptRanges"], apart := false, laid := [("unicode/utf8.acceptRanges", laid_unicode_utf8_acceptRanges), ("unicode/utf8.first", laid_unicode_utf8_first)] }
def LinesFoldsSaid : Prop := linesFoldsRow.holds Tryd.pinned (OpenSpec.ofChange linesFoldsSpec)

/-- ITS FALSE NEIGHBOUR: 'it returns false'. Refute it at one input. -/
def linesFoldsWrong : ChangeSpec := { name := "linesFolds", fn := fun _ => fun
  | [d] => { results := [.lit (.bool false)], args := [d] }
  | _ => none }
def LinesFoldsWrongFalsely : Prop := linesFoldsRow.holds Tryd.pinned (OpenSpec.ofChange linesFoldsWrong)

/-- 'epactlaw05.LinesJoins': WHATEVER THE INPUT: true; the input reads as it did. -/
def linesJoinsSpec : ChangeSpec := { name := "linesJoins", fn := fun _ => fun
  | [d1, d2] => { results := [.lit (.bool true)], args := [d1, d2] }
  | _ => none }
def linesJoinsRow : OpenClaim := { program := "ytlljcfadfgnmjaadoor", sum := "72c0158ea4767069f550d1d93e20efa6b9e65a700f4153253c366c744c0c51e5", func := "epact/epactlaw05.LinesJoins", spec := "linesJoins", inPlace := ["internal/bytealg.IndexByteString", "internal/bytealg.IndexString", "internal/bytealg.CountString"], named := ["internal/bytealg.MaxLen", "unicode/utf8.first", "unicode/utf8.acceptRanges"], apart := false, laid := [("unicode/utf8.acceptRanges", laid_unicode_utf8_acceptRanges), ("unicode/utf8.first", laid_unicode_utf8_first)] }
def LinesJoinsSaid : Prop := linesJoinsRow.holds Tryd.pinned (OpenSpec.ofChange linesJoinsSpec)

/-- ITS FALSE NEIGHBOUR: 'it returns false'. Refute it at one input. -/
def linesJoinsWrong : ChangeSpec := { name := "linesJoins", fn := fun _ => fun
  | [d1, d2] => { results := [.lit (.bool false)], args := [d1, d2] }
  | _ => none }
def LinesJoinsWrongFalsely : Prop := linesJoinsRow.holds Tryd.pinned (OpenSpec.ofChange linesJoinsWrong)

/- THE SECOND FORM. 'bulk': how many values and letters a reading holds, each counted each time it is reached (what is shared counts as often as it is met; a slice's spare places count too). A statement '..UptoSaid' is the law's where the arguments, and the package variables that the reading takes, are together of bulk at most 1048576: NARROWER than '..Said'. Prove '..Said' where nothing that the law and all that it calls make is longer than what came in: it says more and counts as full. Else prove '..UptoSaid'. A law counts once. -/
mutual
def uptoBulk {H : Type} : DataW H → Nat
  | .lit (.string bytes) => bytes.length + 1
  | .lit _ => 1
  | .nil => 1
  | .ptr d => uptoBulk d + 1
  | .slice elems spare => uptoBulkAll elems + uptoBulkAll spare + 1
  | .agg parts => uptoBulkAll parts + 1
  | .iface _ d => uptoBulk d + 1
  | .map entries => uptoBulkEntries entries + 1
  | .held _ => 1
def uptoBulkAll {H : Type} : List (DataW H) → Nat
  | [] => 0
  | d :: r => uptoBulk d + uptoBulkAll r
def uptoBulkEntries {H : Type} : List (Lit × DataW H) → Nat
  | [] => 0
  | x :: r => uptoBulkEntry x + uptoBulkEntries r
def uptoBulkEntry {H : Type} : Lit × DataW H → Nat
  | (.string bytes, d) => bytes.length + uptoBulk d + 1
  | (_, d) => uptoBulk d + 1
 end
def uptoSmall : (H : Type) → List (DataW H) → Bool := fun _ ds => decide (uptoBulkAll ds ≤ 1048576)
def OpenSpec.upto (s : _root_.Go.ChangeSpec) : _root_.Go.OpenSpec := { _root_.Go.OpenSpec.ofChange s with cond := some uptoSmall }

/-- 'epactlaw05.LinesTells', WHERE WHAT IT READS IS OF BULK AT MOST 1048576: true; the input reads as it did. -/
def linesTellsUptoRow : OpenClaim := { program := "ytlljcfadfgnmjaadoor", sum := "72c0158ea4767069f550d1d93e20efa6b9e65a700f4153253c366c744c0c51e5", func := "epact/epactlaw05.LinesTells", spec := "linesTells", inPlace := ["internal/bytealg.IndexByteString", "internal/bytealg.IndexString", "internal/bytealg.CountString"], named := ["internal/bytealg.MaxLen", "unicode/utf8.first", "unicode/utf8.acceptRanges"], apart := false, laid := [("unicode/utf8.acceptRanges", laid_unicode_utf8_acceptRanges), ("unicode/utf8.first", laid_unicode_utf8_first)], narrowed := true }
def LinesTellsUptoSaid : Prop := linesTellsUptoRow.holds Tryd.pinned (OpenSpec.upto linesTellsSpec)

/-- 'epactlaw05.LinesBack', WHERE WHAT IT READS IS OF BULK AT MOST 1048576: true; the input reads as it did. -/
def linesBackUptoRow : OpenClaim := { program := "ytlljcfadfgnmjaadoor", sum := "72c0158ea4767069f550d1d93e20efa6b9e65a700f4153253c366c744c0c51e5", func := "epact/epactlaw05.LinesBack", spec := "linesBack", inPlace := ["internal/bytealg.IndexByteString", "internal/bytealg.IndexString", "internal/bytealg.CountString"], named := ["internal/bytealg.MaxLen", "unicode/utf8.first", "unicode/utf8.acceptRanges"], apart := false, laid := [("unicode/utf8.acceptRanges", laid_unicode_utf8_acceptRanges), ("unicode/utf8.first", laid_unicode_utf8_first)], narrowed := true }
def LinesBackUptoSaid : Prop := linesBackUptoRow.holds Tryd.pinned (OpenSpec.upto linesBackSpec)

/-- 'epactlaw05.LinesWords', WHERE WHAT IT READS IS OF BULK AT MOST 1048576: true; the input reads as it did. -/
def linesWordsUptoRow : OpenClaim := { program := "ytlljcfadfgnmjaadoor", sum := "72c0158ea4767069f550d1d93e20efa6b9e65a700f4153253c366c744c0c51e5", func := "epact/epactlaw05.LinesWords", spec := "linesWords", inPlace := ["internal/bytealg.IndexByteString", "internal/bytealg.IndexString", "internal/bytealg.CountString"], named := ["internal/bytealg.MaxLen", "unicode/utf8.first", "unicode/utf8.acceptRanges"], apart := false, laid := [("unicode/utf8.acceptRanges", laid_unicode_utf8_acceptRanges), ("unicode/utf8.first", laid_unicode_utf8_first)], narrowed := true }
def LinesWordsUptoSaid : Prop := linesWordsUptoRow.holds Tryd.pinned (OpenSpec.upto linesWordsSpec)

/-- 'epactlaw05.LinesNumbers', WHERE WHAT IT READS IS OF BULK AT MOST 1048576: true; the input reads as it did. -/
def linesNumbersUptoRow : OpenClaim := { program := "ytlljcfadfgnmjaadoor", sum := "72c0158ea4767069f550d1d93e20efa6b9e65a700f4153253c366c744c0c51e5", func := "epact/epactlaw05.LinesNumbers", spec := "linesNumbers", inPlace := ["internal/bytealg.IndexByteString", "internal/bytealg.IndexString", "internal/bytealg.CountString"], named := ["internal/bytealg.MaxLen", "unicode/utf8.first", "unicode/utf8.acceptRanges"], apart := false, laid := [("unicode/utf8.acceptRanges", laid_unicode_utf8_acceptRanges), ("unicode/utf8.first", laid_unicode_utf8_first)], narrowed := true }
def LinesNumbersUptoSaid : Prop := linesNumbersUptoRow.holds Tryd.pinned (OpenSpec.upto linesNumbersSpec)

/-- 'epactlaw05.LinesCuts', WHERE WHAT IT READS IS OF BULK AT MOST 1048576: true; the input reads as it did. -/
def linesCutsUptoRow : OpenClaim := { program := "ytlljcfadfgnmjaadoor", sum := "72c0158ea4767069f550d1d93e20efa6b9e65a700f4153253c366c744c0c51e5", func := "epact/epactlaw05.LinesCuts", spec := "linesCuts", inPlace := ["internal/bytealg.IndexByteString", "internal/bytealg.IndexString", "internal/bytealg.CountString"], named := ["internal/bytealg.MaxLen", "unicode/utf8.first", "unicode/utf8.acceptRanges"], apart := false, laid := [("unicode/utf8.acceptRanges", laid_unicode_utf8_acceptRanges), ("unicode/utf8.first", laid_unicode_utf8_first)], narrowed := true }
def LinesCutsUptoSaid : Prop := linesCutsUptoRow.holds Tryd.pinned (OpenSpec.upto linesCutsSpec)

/-- 'epactlaw05.LinesFolds', WHERE WHAT IT READS IS OF BULK AT MOST 1048576: true; the input reads as it did. -/
def linesFoldsUptoRow : OpenClaim := { program := "ytlljcfadfgnmjaadoor", sum := "72c0158ea4767069f550d1d93e20efa6b9e65a700f4153253c366c744c0c51e5", func := "epact/epactlaw05.LinesFolds", spec := "linesFolds", inPlace := ["internal/bytealg.IndexByteString", "internal/bytealg.IndexString", "internal/bytealg.CountString"], named := ["internal/bytealg.MaxLen", "unicode/utf8.first", "unicode/utf8.acceptRanges"], apart := false, laid := [("unicode/utf8.acceptRanges", laid_unicode_utf8_acceptRanges), ("unicode/utf8.first", laid_unicode_utf8_first)], narrowed := true }
def LinesFoldsUptoSaid : Prop := linesFoldsUptoRow.holds Tryd.pinned (OpenSpec.upto linesFoldsSpec)

/-- 'epactlaw05.LinesJoins', WHERE WHAT IT READS IS OF BULK AT MOST 1048576: true; the input reads as it did. -/
def linesJoinsUptoRow : OpenClaim := { program := "ytlljcfadfgnmjaadoor", sum := "72c0158ea4767069f550d1d93e20efa6b9e65a700f4153253c366c744c0c51e5", func := "epact/epactlaw05.LinesJoins", spec := "linesJoins", inPlace := ["internal/bytealg.IndexByteString", "internal/bytealg.IndexString", "internal/bytealg.CountString"], named := ["internal/bytealg.MaxLen", "unicode/utf8.first", "unicode/utf8.acceptRanges"], apart := false, laid := [("unicode/utf8.acceptRanges", laid_unicode_utf8_acceptRanges), ("unicode/utf8.first", laid_unicode_utf8_first)], narrowed := true }
def LinesJoinsUptoSaid : Prop := linesJoinsUptoRow.holds Tryd.pinned (OpenSpec.upto linesJoinsSpec)

end Rows
end Go.Proofs.YtlljcfadfgnmjaaDoor
