/-
  DERIVED. GIVEN WITH THE SEED: THE CARDS: each row of YtlljcfadfgnmjaaDoorRows.lean that lists a variable, with what it lists TIED to the program's text (the seventh form; the later family's looks); each row that meets fmt, with fmt's text TOLD by the authors' own Lean function (tested against real Go, not proved from fmt's source: count such statements apart). THE CARD IS WHAT COUNTS. Prove the row's statement (the work); the ties are given (YtlljcfadfgnmjaaDoorTie.lean); close each card by the builder's one call (the guide's Derived/Test/ToyasCard.lean, 'card_holds'). Laid BY PROGRAM, IN A SANDBOX (cutbox-door.mjs). By AI agents, Wed Nov 11 2026. No macro, syntax, notation, axiom, sorry.
-/
import Derived.Test.YtlljcfadfgnmjaaDoorRows
import GoSem.ClaimSeven
namespace Go.Proofs.YtlljcfadfgnmjaaDoor
namespace Rows

/-- THE TIED CARD OF 'epactlaw05.LinesTells'. -/
def linesTellsCard : Claim7 := { stood := { row := linesTellsRow, standIns := [], harness := (true, "b1f824bdd1d896ba9bc6b34c6fc5288a37c9acd218b25db70fdb2b1af6715f0e"), looks := false }, kinds := [], alts := [], laidByText := true, laidKinds := [.data, .pinned], laidTests := true, laidLooks := .later }
def LinesTellsCardSaid : Prop := Claim7.holds Tryd.pinned (.plain (OpenSpec.ofChange linesTellsSpec)) linesTellsCard

/-- THE TIED CARD OF 'epactlaw05.LinesBack'. -/
def linesBackCard : Claim7 := { stood := { row := linesBackRow, standIns := [], harness := (true, "b1f824bdd1d896ba9bc6b34c6fc5288a37c9acd218b25db70fdb2b1af6715f0e"), looks := false }, kinds := [], alts := [], laidByText := true, laidKinds := [.data, .pinned], laidTests := true, laidLooks := .later }
def LinesBackCardSaid : Prop := Claim7.holds Tryd.pinned (.plain (OpenSpec.ofChange linesBackSpec)) linesBackCard

/-- THE TIED CARD OF 'epactlaw05.LinesWords'. -/
def linesWordsCard : Claim7 := { stood := { row := linesWordsRow, standIns := [], harness := (true, "b1f824bdd1d896ba9bc6b34c6fc5288a37c9acd218b25db70fdb2b1af6715f0e"), looks := false }, kinds := [], alts := [], laidByText := true, laidKinds := [.data, .pinned], laidTests := true, laidLooks := .later }
def LinesWordsCardSaid : Prop := Claim7.holds Tryd.pinned (.plain (OpenSpec.ofChange linesWordsSpec)) linesWordsCard

/-- THE TIED CARD OF 'epactlaw05.LinesNumbers'. -/
def linesNumbersCard : Claim7 := { stood := { row := linesNumbersRow, standIns := [], harness := (true, "b1f824bdd1d896ba9bc6b34c6fc5288a37c9acd218b25db70fdb2b1af6715f0e"), looks := false }, kinds := [], alts := [], laidByText := true, laidKinds := [.data, .pinned], laidTests := true, laidLooks := .later }
def LinesNumbersCardSaid : Prop := Claim7.holds Tryd.pinned (.plain (OpenSpec.ofChange linesNumbersSpec)) linesNumbersCard

/-- THE TIED CARD OF 'epactlaw05.LinesCuts'. -/
def linesCutsCard : Claim7 := { stood := { row := linesCutsRow, standIns := [], harness := (true, "b1f824bdd1d896ba9bc6b34c6fc5288a37c9acd218b25db70fdb2b1af6715f0e"), looks := false }, kinds := [], alts := [], laidByText := true, laidKinds := [.data, .pinned], laidTests := true, laidLooks := .later }
def LinesCutsCardSaid : Prop := Claim7.holds Tryd.pinned (.plain (OpenSpec.ofChange linesCutsSpec)) linesCutsCard

/-- THE TIED CARD OF 'epactlaw05.LinesFolds'. -/
def linesFoldsCard : Claim7 := { stood := { row := linesFoldsRow, standIns := [], harness := (true, "b1f824bdd1d896ba9bc6b34c6fc5288a37c9acd218b25db70fdb2b1af6715f0e"), looks := false }, kinds := [], alts := [], laidByText := true, laidKinds := [.data, .pinned], laidTests := true, laidLooks := .later }
def LinesFoldsCardSaid : Prop := Claim7.holds Tryd.pinned (.plain (OpenSpec.ofChange linesFoldsSpec)) linesFoldsCard

/-- THE TIED CARD OF 'epactlaw05.LinesJoins'. -/
def linesJoinsCard : Claim7 := { stood := { row := linesJoinsRow, standIns := [], harness := (true, "b1f824bdd1d896ba9bc6b34c6fc5288a37c9acd218b25db70fdb2b1af6715f0e"), looks := false }, kinds := [], alts := [], laidByText := true, laidKinds := [.data, .pinned], laidTests := true, laidLooks := .later }
def LinesJoinsCardSaid : Prop := Claim7.holds Tryd.pinned (.plain (OpenSpec.ofChange linesJoinsSpec)) linesJoinsCard

/-- THE SECOND FORM's CARD OF 'epactlaw05.LinesTells'. -/
def linesTellsUptoCard : Claim7 := { stood := { row := linesTellsUptoRow, standIns := [], harness := (true, "b1f824bdd1d896ba9bc6b34c6fc5288a37c9acd218b25db70fdb2b1af6715f0e"), looks := false }, kinds := [], alts := [], laidByText := true, laidKinds := [.data, .pinned], laidTests := true, laidLooks := .later }
def LinesTellsUptoCardSaid : Prop := Claim7.holds Tryd.pinned (.plain (OpenSpec.upto linesTellsSpec)) linesTellsUptoCard

/-- THE SECOND FORM's CARD OF 'epactlaw05.LinesBack'. -/
def linesBackUptoCard : Claim7 := { stood := { row := linesBackUptoRow, standIns := [], harness := (true, "b1f824bdd1d896ba9bc6b34c6fc5288a37c9acd218b25db70fdb2b1af6715f0e"), looks := false }, kinds := [], alts := [], laidByText := true, laidKinds := [.data, .pinned], laidTests := true, laidLooks := .later }
def LinesBackUptoCardSaid : Prop := Claim7.holds Tryd.pinned (.plain (OpenSpec.upto linesBackSpec)) linesBackUptoCard

/-- THE SECOND FORM's CARD OF 'epactlaw05.LinesWords'. -/
def linesWordsUptoCard : Claim7 := { stood := { row := linesWordsUptoRow, standIns := [], harness := (true, "b1f824bdd1d896ba9bc6b34c6fc5288a37c9acd218b25db70fdb2b1af6715f0e"), looks := false }, kinds := [], alts := [], laidByText := true, laidKinds := [.data, .pinned], laidTests := true, laidLooks := .later }
def LinesWordsUptoCardSaid : Prop := Claim7.holds Tryd.pinned (.plain (OpenSpec.upto linesWordsSpec)) linesWordsUptoCard

/-- THE SECOND FORM's CARD OF 'epactlaw05.LinesNumbers'. -/
def linesNumbersUptoCard : Claim7 := { stood := { row := linesNumbersUptoRow, standIns := [], harness := (true, "b1f824bdd1d896ba9bc6b34c6fc5288a37c9acd218b25db70fdb2b1af6715f0e"), looks := false }, kinds := [], alts := [], laidByText := true, laidKinds := [.data, .pinned], laidTests := true, laidLooks := .later }
def LinesNumbersUptoCardSaid : Prop := Claim7.holds Tryd.pinned (.plain (OpenSpec.upto linesNumbersSpec)) linesNumbersUptoCard

/-- THE SECOND FORM's CARD OF 'epactlaw05.LinesCuts'. -/
def linesCutsUptoCard : Claim7 := { stood := { row := linesCutsUptoRow, standIns := [], harness := (true, "b1f824bdd1d896ba9bc6b34c6fc5288a37c9acd218b25db70fdb2b1af6715f0e"), looks := false }, kinds := [], alts := [], laidByText := true, laidKinds := [.data, .pinned], laidTests := true, laidLooks := .later }
def LinesCutsUptoCardSaid : Prop := Claim7.holds Tryd.pinned (.plain (OpenSpec.upto linesCutsSpec)) linesCutsUptoCard

/-- THE SECOND FORM's CARD OF 'epactlaw05.LinesFolds'. -/
def linesFoldsUptoCard : Claim7 := { stood := { row := linesFoldsUptoRow, standIns := [], harness := (true, "b1f824bdd1d896ba9bc6b34c6fc5288a37c9acd218b25db70fdb2b1af6715f0e"), looks := false }, kinds := [], alts := [], laidByText := true, laidKinds := [.data, .pinned], laidTests := true, laidLooks := .later }
def LinesFoldsUptoCardSaid : Prop := Claim7.holds Tryd.pinned (.plain (OpenSpec.upto linesFoldsSpec)) linesFoldsUptoCard

/-- THE SECOND FORM's CARD OF 'epactlaw05.LinesJoins'. -/
def linesJoinsUptoCard : Claim7 := { stood := { row := linesJoinsUptoRow, standIns := [], harness := (true, "b1f824bdd1d896ba9bc6b34c6fc5288a37c9acd218b25db70fdb2b1af6715f0e"), looks := false }, kinds := [], alts := [], laidByText := true, laidKinds := [.data, .pinned], laidTests := true, laidLooks := .later }
def LinesJoinsUptoCardSaid : Prop := Claim7.holds Tryd.pinned (.plain (OpenSpec.upto linesJoinsSpec)) linesJoinsUptoCard
end Rows
end Go.Proofs.YtlljcfadfgnmjaaDoor
