/-
  DERIVED. GIVEN WITH THE SEED: THE CARDS: each row of YtjgjcpnoaeljkaaGreatDoorRows.lean that lists a variable, with what it lists TIED to the program's text (the seventh form; the later family's looks); each row that meets fmt, with fmt's text TOLD by the authors' own Lean function (tested against real Go, not proved from fmt's source: count such statements apart). THE CARD IS WHAT COUNTS. Prove the row's statement (the work); the ties are given (YtjgjcpnoaeljkaaGreatDoorTie.lean); close each card by the builder's one call (the guide's Derived/Test/ToyasCard.lean, 'card_holds'). Laid BY PROGRAM, IN A SANDBOX (cutbox-door.mjs). By AI agents, Wed Nov 11 2026. No macro, syntax, notation, axiom, sorry.
-/
import Derived.Test.YtjgjcpnoaeljkaaGreatDoorRows
import GoSem.ClaimSeven
namespace Go.Proofs.YtjgjcpnoaeljkaaGreatDoor
namespace Rows

/-- THE TIED CARD OF 'proofprogramslaw19.TheoryNeeds'. -/
def theoryNeedsCard : Claim7 := { stood := { row := theoryNeedsRow, standIns := [], harness := (true, "cfefba2b912b17669886b3f81e98606478b275c8bfae0e9c591276b0abffc348"), looks := false }, kinds := [], alts := [], laidByText := true, laidKinds := [.data, .data, .data, .data, .pinned], laidTests := true, laidLooks := .later }
def TheoryNeedsCardSaid : Prop := Claim7.holds Tryz.pinned (.plain (OpenSpec.ofChange theoryNeedsSpec)) theoryNeedsCard

/-- THE TIED CARD OF 'proofprogramslaw19.TheoryBegins'. -/
def theoryBeginsCard : Claim7 := { stood := { row := theoryBeginsRow, standIns := [], harness := (true, "cfefba2b912b17669886b3f81e98606478b275c8bfae0e9c591276b0abffc348"), looks := false }, kinds := [], alts := [], laidByText := true, laidKinds := [.data, .data, .data, .data, .pinned], laidTests := true, laidLooks := .later }
def TheoryBeginsCardSaid : Prop := Claim7.holds Tryz.pinned (.plain (OpenSpec.ofChange theoryBeginsSpec)) theoryBeginsCard

/-- THE SECOND FORM's CARD OF 'proofprogramslaw19.TheoryNeeds'. -/
def theoryNeedsUptoCard : Claim7 := { stood := { row := theoryNeedsUptoRow, standIns := [], harness := (true, "cfefba2b912b17669886b3f81e98606478b275c8bfae0e9c591276b0abffc348"), looks := false }, kinds := [], alts := [], laidByText := true, laidKinds := [.data, .data, .data, .data, .pinned], laidTests := true, laidLooks := .later }
def TheoryNeedsUptoCardSaid : Prop := Claim7.holds Tryz.pinned (.plain (OpenSpec.upto theoryNeedsSpec)) theoryNeedsUptoCard

/-- THE SECOND FORM's CARD OF 'proofprogramslaw19.TheoryBegins'. -/
def theoryBeginsUptoCard : Claim7 := { stood := { row := theoryBeginsUptoRow, standIns := [], harness := (true, "cfefba2b912b17669886b3f81e98606478b275c8bfae0e9c591276b0abffc348"), looks := false }, kinds := [], alts := [], laidByText := true, laidKinds := [.data, .data, .data, .data, .pinned], laidTests := true, laidLooks := .later }
def TheoryBeginsUptoCardSaid : Prop := Claim7.holds Tryz.pinned (.plain (OpenSpec.upto theoryBeginsSpec)) theoryBeginsUptoCard
end Rows
end Go.Proofs.YtjgjcpnoaeljkaaGreatDoor
