/-
  DERIVED. GIVEN WITH THE SEED: THE CARDS: each row of YtanjokijgbgcpaaGreatDoorRows.lean that lists a variable, with what it lists TIED to the program's text (the seventh form; the later family's looks); each row that meets fmt, with fmt's text TOLD by the authors' own Lean function (tested against real Go, not proved from fmt's source: count such statements apart). THE CARD IS WHAT COUNTS. Prove the row's statement (the work); the ties are given (YtanjokijgbgcpaaGreatDoorTie.lean); close each card by the builder's one call (the guide's Derived/Test/ToyasCard.lean, 'card_holds'). Laid BY PROGRAM, IN A SANDBOX (cutbox-door.mjs). By AI agents, Wed Nov 11 2026. No macro, syntax, notation, axiom, sorry.
-/
import Derived.Test.YtanjokijgbgcpaaGreatDoorRows
import GoSem.ClaimSeven
namespace Go.Proofs.YtanjokijgbgcpaaGreatDoor
namespace Rows

/-- THE TIED CARD OF 'proofprogramslaw20.TranslateDoes'. -/
def translateDoesCard : Claim7 := { stood := { row := translateDoesRow, standIns := [], harness := (true, "2b63f838dd4b5cb8c86bc468654047f1cdf6196dbce48c4962526cc4c1c0b12a"), looks := false }, kinds := [], alts := [], laidByText := true, laidKinds := [.data], laidTests := true, laidLooks := .later }
def TranslateDoesCardSaid : Prop := Claim7.holds Tryz.pinned (.plain (OpenSpec.ofChange translateDoesSpec)) translateDoesCard

/-- THE TIED CARD OF 'proofprogramslaw20.TranslatePuts'. -/
def translatePutsCard : Claim7 := { stood := { row := translatePutsRow, standIns := [], harness := (true, "2b63f838dd4b5cb8c86bc468654047f1cdf6196dbce48c4962526cc4c1c0b12a"), looks := false }, kinds := [], alts := [], laidByText := true, laidKinds := [.data], laidTests := true, laidLooks := .later }
def TranslatePutsCardSaid : Prop := Claim7.holds Tryz.pinned (.plain (OpenSpec.ofChange translatePutsSpec)) translatePutsCard

/-- THE SECOND FORM's CARD OF 'proofprogramslaw20.TranslateDoes'. -/
def translateDoesUptoCard : Claim7 := { stood := { row := translateDoesUptoRow, standIns := [], harness := (true, "2b63f838dd4b5cb8c86bc468654047f1cdf6196dbce48c4962526cc4c1c0b12a"), looks := false }, kinds := [], alts := [], laidByText := true, laidKinds := [.data], laidTests := true, laidLooks := .later }
def TranslateDoesUptoCardSaid : Prop := Claim7.holds Tryz.pinned (.plain (OpenSpec.upto translateDoesSpec)) translateDoesUptoCard

/-- THE SECOND FORM's CARD OF 'proofprogramslaw20.TranslatePuts'. -/
def translatePutsUptoCard : Claim7 := { stood := { row := translatePutsUptoRow, standIns := [], harness := (true, "2b63f838dd4b5cb8c86bc468654047f1cdf6196dbce48c4962526cc4c1c0b12a"), looks := false }, kinds := [], alts := [], laidByText := true, laidKinds := [.data], laidTests := true, laidLooks := .later }
def TranslatePutsUptoCardSaid : Prop := Claim7.holds Tryz.pinned (.plain (OpenSpec.upto translatePutsSpec)) translatePutsUptoCard
end Rows
end Go.Proofs.YtanjokijgbgcpaaGreatDoor
