/-
  DERIVED. GIVEN WITH THE SEED: THE CARDS: each row of YtijednbpbbddbaaGreatDoorRows.lean that lists a variable, with what it lists TIED to the program's text (the seventh form; the later family's looks); each row that meets fmt, with fmt's text TOLD by the authors' own Lean function (tested against real Go, not proved from fmt's source: count such statements apart). THE CARD IS WHAT COUNTS. Prove the row's statement (the work); the ties are given (YtijednbpbbddbaaGreatDoorTie.lean); close each card by the builder's one call (the guide's Derived/Test/ToyasCard.lean, 'card_holds'). Laid BY PROGRAM, IN A SANDBOX (cutbox-door.mjs). By AI agents, Wed Nov 11 2026. No macro, syntax, notation, axiom, sorry.
-/
import Derived.Test.YtijednbpbbddbaaGreatDoorRows
import GoSem.ClaimSeven
namespace Go.Proofs.YtijednbpbbddbaaGreatDoor
namespace Rows

/-- THE TIED CARD OF 'proofprogramslaw27.UniformExact'. -/
def uniformExactCard : Claim7 := { stood := { row := uniformExactRow, standIns := [], harness := (true, "15def1e707df60b6714d49686ea96117384537eebad944dbf63e65222b5b5cde"), looks := false }, kinds := [], alts := [], laidByText := true, laidKinds := [.data, .data, .data], laidTests := true, laidLooks := .later }
def UniformExactCardSaid : Prop := Claim7.holds Tryz.pinned (.plain (OpenSpec.ofChange uniformExactSpec)) uniformExactCard

/-- THE TIED CARD OF 'proofprogramslaw27.UniformAccepted'. -/
def uniformAcceptedCard : Claim7 := { stood := { row := uniformAcceptedRow, standIns := [], harness := (true, "15def1e707df60b6714d49686ea96117384537eebad944dbf63e65222b5b5cde"), looks := false }, kinds := [], alts := [], laidByText := true, laidKinds := [.data, .data, .data], laidTests := true, laidLooks := .later }
def UniformAcceptedCardSaid : Prop := Claim7.holds Tryz.pinned (.plain (OpenSpec.ofChange uniformAcceptedSpec)) uniformAcceptedCard

/-- THE SECOND FORM's CARD OF 'proofprogramslaw27.UniformExact'. -/
def uniformExactUptoCard : Claim7 := { stood := { row := uniformExactUptoRow, standIns := [], harness := (true, "15def1e707df60b6714d49686ea96117384537eebad944dbf63e65222b5b5cde"), looks := false }, kinds := [], alts := [], laidByText := true, laidKinds := [.data, .data, .data], laidTests := true, laidLooks := .later }
def UniformExactUptoCardSaid : Prop := Claim7.holds Tryz.pinned (.plain (OpenSpec.upto uniformExactSpec)) uniformExactUptoCard

/-- THE SECOND FORM's CARD OF 'proofprogramslaw27.UniformAccepted'. -/
def uniformAcceptedUptoCard : Claim7 := { stood := { row := uniformAcceptedUptoRow, standIns := [], harness := (true, "15def1e707df60b6714d49686ea96117384537eebad944dbf63e65222b5b5cde"), looks := false }, kinds := [], alts := [], laidByText := true, laidKinds := [.data, .data, .data], laidTests := true, laidLooks := .later }
def UniformAcceptedUptoCardSaid : Prop := Claim7.holds Tryz.pinned (.plain (OpenSpec.upto uniformAcceptedSpec)) uniformAcceptedUptoCard
end Rows
end Go.Proofs.YtijednbpbbddbaaGreatDoor
