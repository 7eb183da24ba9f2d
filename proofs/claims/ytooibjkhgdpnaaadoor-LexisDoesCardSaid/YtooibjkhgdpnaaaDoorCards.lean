/-
  DERIVED. GIVEN WITH THE SEED: THE CARDS: each row of YtooibjkhgdpnaaaDoorRows.lean that lists a variable, with what it lists TIED to the program's text (the seventh form; the later family's looks); each row that meets fmt, with fmt's text TOLD by the authors' own Lean function (tested against real Go, not proved from fmt's source: count such statements apart). THE CARD IS WHAT COUNTS. Prove the row's statement (the work); the ties are given (YtooibjkhgdpnaaaDoorTie.lean); close each card by the builder's one call (the guide's Derived/Test/ToyasCard.lean, 'card_holds'). Laid BY PROGRAM, IN A SANDBOX (cutbox-door.mjs). By AI agents, Wed Nov 11 2026. No macro, syntax, notation, axiom, sorry.
-/
import Derived.Test.YtooibjkhgdpnaaaDoorRows
import GoSem.ClaimSeven
namespace Go.Proofs.YtooibjkhgdpnaaaDoor
namespace Rows

/-- THE TIED CARD OF 'proofprogramslaw14.LexisNames'. -/
def lexisNamesCard : Claim7 := { stood := { row := lexisNamesRow, standIns := [], harness := (true, "76cd3d0bcb8a1f6abe3b24f75cc1e9d151fd2b00d0cdae92e83a86e0dc56dcfe"), looks := true }, kinds := [], alts := [], laidByText := true, laidKinds := [.data, .data, .data, .data, .sentinel, .sentinel, .pinned], laidTests := true, laidLooks := .later }
def LexisNamesCardSaid : Prop := Claim7.holds Tryd.pinned (.plain (OpenSpec.ofChange lexisNamesSpec)) lexisNamesCard

/-- THE TIED CARD OF 'proofprogramslaw14.LexisJoins'. -/
def lexisJoinsCard : Claim7 := { stood := { row := lexisJoinsRow, standIns := [], harness := (true, "76cd3d0bcb8a1f6abe3b24f75cc1e9d151fd2b00d0cdae92e83a86e0dc56dcfe"), looks := true }, kinds := [], alts := [], laidByText := true, laidKinds := [.data, .data, .data, .data, .sentinel, .sentinel, .pinned], laidTests := true, laidLooks := .later }
def LexisJoinsCardSaid : Prop := Claim7.holds Tryd.pinned (.plain (OpenSpec.ofChange lexisJoinsSpec)) lexisJoinsCard

/-- THE TIED CARD OF 'proofprogramslaw14.LexisPlaces'. -/
def lexisPlacesCard : Claim7 := { stood := { row := lexisPlacesRow, standIns := [], harness := (true, "76cd3d0bcb8a1f6abe3b24f75cc1e9d151fd2b00d0cdae92e83a86e0dc56dcfe"), looks := true }, kinds := [], alts := [], laidByText := true, laidKinds := [.data, .data, .data, .data, .sentinel, .sentinel, .pinned], laidTests := true, laidLooks := .later }
def LexisPlacesCardSaid : Prop := Claim7.holds Tryd.pinned (.plain (OpenSpec.ofChange lexisPlacesSpec)) lexisPlacesCard

/-- THE TIED CARD OF 'proofprogramslaw14.LexisDoes'. -/
def lexisDoesCard : Claim7 := { stood := { row := lexisDoesRow, standIns := [], harness := (true, "76cd3d0bcb8a1f6abe3b24f75cc1e9d151fd2b00d0cdae92e83a86e0dc56dcfe"), looks := true }, kinds := [], alts := [], laidByText := true, laidKinds := [.data, .data, .data, .data, .sentinel, .sentinel, .pinned], laidTests := true, laidLooks := .later }
def LexisDoesCardSaid : Prop := Claim7.holds Tryd.pinned (.plain (OpenSpec.ofChange lexisDoesSpec)) lexisDoesCard

/-- THE TIED CARD OF 'proofprogramslaw14.LexisBack'. -/
def lexisBackCard : Claim7 := { stood := { row := lexisBackRow, standIns := [], harness := (true, "76cd3d0bcb8a1f6abe3b24f75cc1e9d151fd2b00d0cdae92e83a86e0dc56dcfe"), looks := true }, kinds := [], alts := [], laidByText := true, laidKinds := [.data, .data, .data, .data, .sentinel, .sentinel, .pinned], laidTests := true, laidLooks := .later }
def LexisBackCardSaid : Prop := Claim7.holds Tryd.pinned (.plain (OpenSpec.ofChange lexisBackSpec)) lexisBackCard

/-- THE SECOND FORM's CARD OF 'proofprogramslaw14.LexisNames'. -/
def lexisNamesUptoCard : Claim7 := { stood := { row := lexisNamesUptoRow, standIns := [], harness := (true, "76cd3d0bcb8a1f6abe3b24f75cc1e9d151fd2b00d0cdae92e83a86e0dc56dcfe"), looks := true }, kinds := [], alts := [], laidByText := true, laidKinds := [.data, .data, .data, .data, .sentinel, .sentinel, .pinned], laidTests := true, laidLooks := .later }
def LexisNamesUptoCardSaid : Prop := Claim7.holds Tryd.pinned (.plain (OpenSpec.upto lexisNamesSpec)) lexisNamesUptoCard

/-- THE SECOND FORM's CARD OF 'proofprogramslaw14.LexisJoins'. -/
def lexisJoinsUptoCard : Claim7 := { stood := { row := lexisJoinsUptoRow, standIns := [], harness := (true, "76cd3d0bcb8a1f6abe3b24f75cc1e9d151fd2b00d0cdae92e83a86e0dc56dcfe"), looks := true }, kinds := [], alts := [], laidByText := true, laidKinds := [.data, .data, .data, .data, .sentinel, .sentinel, .pinned], laidTests := true, laidLooks := .later }
def LexisJoinsUptoCardSaid : Prop := Claim7.holds Tryd.pinned (.plain (OpenSpec.upto lexisJoinsSpec)) lexisJoinsUptoCard

/-- THE SECOND FORM's CARD OF 'proofprogramslaw14.LexisPlaces'. -/
def lexisPlacesUptoCard : Claim7 := { stood := { row := lexisPlacesUptoRow, standIns := [], harness := (true, "76cd3d0bcb8a1f6abe3b24f75cc1e9d151fd2b00d0cdae92e83a86e0dc56dcfe"), looks := true }, kinds := [], alts := [], laidByText := true, laidKinds := [.data, .data, .data, .data, .sentinel, .sentinel, .pinned], laidTests := true, laidLooks := .later }
def LexisPlacesUptoCardSaid : Prop := Claim7.holds Tryd.pinned (.plain (OpenSpec.upto lexisPlacesSpec)) lexisPlacesUptoCard

/-- THE SECOND FORM's CARD OF 'proofprogramslaw14.LexisDoes'. -/
def lexisDoesUptoCard : Claim7 := { stood := { row := lexisDoesUptoRow, standIns := [], harness := (true, "76cd3d0bcb8a1f6abe3b24f75cc1e9d151fd2b00d0cdae92e83a86e0dc56dcfe"), looks := true }, kinds := [], alts := [], laidByText := true, laidKinds := [.data, .data, .data, .data, .sentinel, .sentinel, .pinned], laidTests := true, laidLooks := .later }
def LexisDoesUptoCardSaid : Prop := Claim7.holds Tryd.pinned (.plain (OpenSpec.upto lexisDoesSpec)) lexisDoesUptoCard

/-- THE SECOND FORM's CARD OF 'proofprogramslaw14.LexisBack'. -/
def lexisBackUptoCard : Claim7 := { stood := { row := lexisBackUptoRow, standIns := [], harness := (true, "76cd3d0bcb8a1f6abe3b24f75cc1e9d151fd2b00d0cdae92e83a86e0dc56dcfe"), looks := true }, kinds := [], alts := [], laidByText := true, laidKinds := [.data, .data, .data, .data, .sentinel, .sentinel, .pinned], laidTests := true, laidLooks := .later }
def LexisBackUptoCardSaid : Prop := Claim7.holds Tryd.pinned (.plain (OpenSpec.upto lexisBackSpec)) lexisBackUptoCard
end Rows
end Go.Proofs.YtooibjkhgdpnaaaDoor
