/-
  DERIVED. GIVEN WITH THE SEED: THE CARDS: each row of YthjldemjipnmdaaGreatDoorRows.lean that lists a variable, with what it lists TIED to the program's text (the seventh form; the later family's looks); each row that meets fmt, with fmt's text TOLD by the authors' own Lean function (tested against real Go, not proved from fmt's source: count such statements apart). THE CARD IS WHAT COUNTS. Prove the row's statement (the work); the ties are given (YthjldemjipnmdaaGreatDoorTie.lean); close each card by the builder's one call (the guide's Derived/Test/ToyasCard.lean, 'card_holds'). Laid BY PROGRAM, IN A SANDBOX (cutbox-door.mjs). By AI agents, Wed Nov 11 2026. No macro, syntax, notation, axiom, sorry.
-/
import Derived.Test.YthjldemjipnmdaaGreatDoorRows
import GoSem.ClaimSeven
namespace Go.Proofs.YthjldemjipnmdaaGreatDoor
namespace Rows

/-- THE TIED CARD OF 'epacttop.TopSources'. -/
def topSourcesCard : Claim7 := { stood := { row := topSourcesRow, standIns := [], harness := (true, "d097762391364f4aa0f14f3a8e5c0335c51170fadeb2a1838b3f52cbe257dcc5"), looks := true }, kinds := [], alts := [], laidByText := true, laidKinds := [.data, .data, .data, .data, .sentinel, .sentinel, .pinned], laidTests := true, laidLooks := .later }
def TopSourcesCardSaid : Prop := Claim7.holds Tryz.pinned (.plain (OpenSpec.ofChange topSourcesSpec)) topSourcesCard

/-- THE TIED CARD OF 'epacttop.TopPosix'. -/
def topPosixCard : Claim7 := { stood := { row := topPosixRow, standIns := [], harness := (true, "d097762391364f4aa0f14f3a8e5c0335c51170fadeb2a1838b3f52cbe257dcc5"), looks := true }, kinds := [], alts := [], laidByText := true, laidKinds := [.data, .data, .data, .data, .sentinel, .sentinel, .pinned], laidTests := true, laidLooks := .later }
def TopPosixCardSaid : Prop := Claim7.holds Tryz.pinned (.plain (OpenSpec.ofChange topPosixSpec)) topPosixCard

/-- THE SECOND FORM's CARD OF 'epacttop.TopSources'. -/
def topSourcesUptoCard : Claim7 := { stood := { row := topSourcesUptoRow, standIns := [], harness := (true, "d097762391364f4aa0f14f3a8e5c0335c51170fadeb2a1838b3f52cbe257dcc5"), looks := true }, kinds := [], alts := [], laidByText := true, laidKinds := [.data, .data, .data, .data, .sentinel, .sentinel, .pinned], laidTests := true, laidLooks := .later }
def TopSourcesUptoCardSaid : Prop := Claim7.holds Tryz.pinned (.plain (OpenSpec.upto topSourcesSpec)) topSourcesUptoCard

/-- THE SECOND FORM's CARD OF 'epacttop.TopPosix'. -/
def topPosixUptoCard : Claim7 := { stood := { row := topPosixUptoRow, standIns := [], harness := (true, "d097762391364f4aa0f14f3a8e5c0335c51170fadeb2a1838b3f52cbe257dcc5"), looks := true }, kinds := [], alts := [], laidByText := true, laidKinds := [.data, .data, .data, .data, .sentinel, .sentinel, .pinned], laidTests := true, laidLooks := .later }
def TopPosixUptoCardSaid : Prop := Claim7.holds Tryz.pinned (.plain (OpenSpec.upto topPosixSpec)) topPosixUptoCard
end Rows
end Go.Proofs.YthjldemjipnmdaaGreatDoor
