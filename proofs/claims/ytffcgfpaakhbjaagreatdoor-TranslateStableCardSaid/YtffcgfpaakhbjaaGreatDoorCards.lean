/-
  DERIVED. GIVEN WITH THE SEED: THE CARDS: each row of YtffcgfpaakhbjaaGreatDoorRows.lean that lists a variable, with what it lists TIED to the program's text (the seventh form; the later family's looks); each row that meets fmt, with fmt's text TOLD by the authors' own Lean function (tested against real Go, not proved from fmt's source: count such statements apart). THE CARD IS WHAT COUNTS. Prove the row's statement (the work); the ties are given (YtffcgfpaakhbjaaGreatDoorTie.lean); close each card by the builder's one call (the guide's Derived/Test/ToyasCard.lean, 'card_holds'). Laid BY PROGRAM, IN A SANDBOX (cutbox-door.mjs). By AI agents, Wed Nov 11 2026. No macro, syntax, notation, axiom, sorry.
-/
import Derived.Test.YtffcgfpaakhbjaaGreatDoorRows
import GoSem.ClaimSeven
namespace Go.Proofs.YtffcgfpaakhbjaaGreatDoor
namespace Rows

/-- THE TIED CARD OF 'proofprogramslaw20.TranslateWitness'. -/
def translateWitnessCard : Claim7 := { stood := { row := translateWitnessRow, standIns := [], harness := (true, "be2d8b2f083ce0dff65da271c60626a9f30011f71813a1524092993b53484bde"), looks := true }, kinds := [], alts := [], laidByText := true, laidKinds := [.data, .data], laidTests := true, laidLooks := .later }
def TranslateWitnessCardSaid : Prop := Claim7.holds Tryz.pinned (.plain (OpenSpec.ofChange translateWitnessSpec)) translateWitnessCard

/-- THE TIED CARD OF 'proofprogramslaw20.TranslateStable'. -/
def translateStableCard : Claim7 := { stood := { row := translateStableRow, standIns := [], harness := (true, "be2d8b2f083ce0dff65da271c60626a9f30011f71813a1524092993b53484bde"), looks := true }, kinds := [], alts := [], laidByText := true, laidKinds := [.data, .data], laidTests := true, laidLooks := .later }
def TranslateStableCardSaid : Prop := Claim7.holds Tryz.pinned (.plain (OpenSpec.ofChange translateStableSpec)) translateStableCard

/-- THE SECOND FORM's CARD OF 'proofprogramslaw20.TranslateWitness'. -/
def translateWitnessUptoCard : Claim7 := { stood := { row := translateWitnessUptoRow, standIns := [], harness := (true, "be2d8b2f083ce0dff65da271c60626a9f30011f71813a1524092993b53484bde"), looks := true }, kinds := [], alts := [], laidByText := true, laidKinds := [.data, .data], laidTests := true, laidLooks := .later }
def TranslateWitnessUptoCardSaid : Prop := Claim7.holds Tryz.pinned (.plain (OpenSpec.upto translateWitnessSpec)) translateWitnessUptoCard

/-- THE SECOND FORM's CARD OF 'proofprogramslaw20.TranslateStable'. -/
def translateStableUptoCard : Claim7 := { stood := { row := translateStableUptoRow, standIns := [], harness := (true, "be2d8b2f083ce0dff65da271c60626a9f30011f71813a1524092993b53484bde"), looks := true }, kinds := [], alts := [], laidByText := true, laidKinds := [.data, .data], laidTests := true, laidLooks := .later }
def TranslateStableUptoCardSaid : Prop := Claim7.holds Tryz.pinned (.plain (OpenSpec.upto translateStableSpec)) translateStableUptoCard
end Rows
end Go.Proofs.YtffcgfpaakhbjaaGreatDoor
