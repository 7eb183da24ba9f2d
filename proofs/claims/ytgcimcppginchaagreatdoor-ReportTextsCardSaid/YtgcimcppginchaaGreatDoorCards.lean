/-
  DERIVED. GIVEN WITH THE SEED: THE CARDS: each row of YtgcimcppginchaaGreatDoorRows.lean that lists a variable, with what it lists TIED to the program's text (the seventh form; the later family's looks); each row that meets fmt, with fmt's text TOLD by the authors' own Lean function (tested against real Go, not proved from fmt's source: count such statements apart). THE CARD IS WHAT COUNTS. Prove the row's statement (the work); the ties are given (YtgcimcppginchaaGreatDoorTie.lean); close each card by the builder's one call (the guide's Derived/Test/ToyasCard.lean, 'card_holds'). Laid BY PROGRAM, IN A SANDBOX (cutbox-door.mjs). By AI agents, Wed Nov 11 2026. No macro, syntax, notation, axiom, sorry.
-/
import Derived.Test.YtgcimcppginchaaGreatDoorRows
import GoSem.ClaimSeven
namespace Go.Proofs.YtgcimcppginchaaGreatDoor
namespace Rows

/-- THE TIED CARD OF 'proofprogramslaw44.ReportTexts'. -/
def reportTextsCard : Claim7 := { stood := { row := reportTextsRow, standIns := [], harness := (true, "04aaa922f51a2c33693b69d1ab1f13bdbb7edc4f7b855519a73fd1d7cfd7a1e2"), looks := false }, kinds := [], alts := [], laidByText := true, laidKinds := [.data, .data, .data, .data, .data, .data, .pinned], laidTests := true, laidLooks := .later }
def ReportTextsCardSaid : Prop := Claim7.holds Tryz.pinned (.plain (OpenSpec.ofChange reportTextsSpec)) reportTextsCard

/-- THE SECOND FORM's CARD OF 'proofprogramslaw44.ReportTexts'. -/
def reportTextsUptoCard : Claim7 := { stood := { row := reportTextsUptoRow, standIns := [], harness := (true, "04aaa922f51a2c33693b69d1ab1f13bdbb7edc4f7b855519a73fd1d7cfd7a1e2"), looks := false }, kinds := [], alts := [], laidByText := true, laidKinds := [.data, .data, .data, .data, .data, .data, .pinned], laidTests := true, laidLooks := .later }
def ReportTextsUptoCardSaid : Prop := Claim7.holds Tryz.pinned (.plain (OpenSpec.upto reportTextsSpec)) reportTextsUptoCard
end Rows
end Go.Proofs.YtgcimcppginchaaGreatDoor
