/-
  DERIVED. GIVEN WITH THE SEED: THE CARDS: each row of YtpgdkkomegalnaaGreatDoorRows.lean that lists a variable, with what it lists TIED to the program's text (the seventh form; the later family's looks); each row that meets fmt, with fmt's text TOLD by the authors' own Lean function (tested against real Go, not proved from fmt's source: count such statements apart). THE CARD IS WHAT COUNTS. Prove the row's statement (the work); the ties are given (YtpgdkkomegalnaaGreatDoorTie.lean); close each card by the builder's one call (the guide's Derived/Test/ToyasCard.lean, 'card_holds'). Laid BY PROGRAM, IN A SANDBOX (cutbox-door.mjs). By AI agents, Wed Nov 11 2026. No macro, syntax, notation, axiom, sorry.
-/
import Derived.Test.YtpgdkkomegalnaaGreatDoorRows
import GoSem.ClaimSeven
namespace Go.Proofs.YtpgdkkomegalnaaGreatDoor
namespace Rows

/-- THE TIED CARD OF 'proofprogramslaw41.SchemeAccepted'. -/
def schemeAcceptedCard : Claim7 := { stood := { row := schemeAcceptedRow, standIns := [], harness := (true, "828685226fc5eb3203947e0649590e18dbf39dd039ccf4ee44873603de627960"), looks := false }, kinds := [], alts := [], laidByText := true, laidKinds := [.data, .data, .data], laidTests := true, laidLooks := .later }
def SchemeAcceptedCardSaid : Prop := Claim7.holds Tryz.pinned (.plain (OpenSpec.ofChange schemeAcceptedSpec)) schemeAcceptedCard

/-- THE TIED CARD OF 'proofprogramslaw41.SchemeComputes'. -/
def schemeComputesCard : Claim7 := { stood := { row := schemeComputesRow, standIns := [], harness := (true, "828685226fc5eb3203947e0649590e18dbf39dd039ccf4ee44873603de627960"), looks := false }, kinds := [], alts := [], laidByText := true, laidKinds := [.data, .data, .data], laidTests := true, laidLooks := .later }
def SchemeComputesCardSaid : Prop := Claim7.holds Tryz.pinned (.plain (OpenSpec.ofChange schemeComputesSpec)) schemeComputesCard

/-- THE TIED CARD OF 'proofprogramslaw41.SchemeLists'. -/
def schemeListsCard : Claim7 := { stood := { row := schemeListsRow, standIns := [], harness := (true, "828685226fc5eb3203947e0649590e18dbf39dd039ccf4ee44873603de627960"), looks := false }, kinds := [], alts := [], laidByText := true, laidKinds := [.data, .data, .data], laidTests := true, laidLooks := .later }
def SchemeListsCardSaid : Prop := Claim7.holds Tryz.pinned (.plain (OpenSpec.ofChange schemeListsSpec)) schemeListsCard

/-- THE TIED CARD OF 'proofprogramslaw41.SchemeChains'. -/
def schemeChainsCard : Claim7 := { stood := { row := schemeChainsRow, standIns := [], harness := (true, "828685226fc5eb3203947e0649590e18dbf39dd039ccf4ee44873603de627960"), looks := false }, kinds := [], alts := [], laidByText := true, laidKinds := [.data, .data, .data], laidTests := true, laidLooks := .later }
def SchemeChainsCardSaid : Prop := Claim7.holds Tryz.pinned (.plain (OpenSpec.ofChange schemeChainsSpec)) schemeChainsCard

/-- THE SECOND FORM's CARD OF 'proofprogramslaw41.SchemeAccepted'. -/
def schemeAcceptedUptoCard : Claim7 := { stood := { row := schemeAcceptedUptoRow, standIns := [], harness := (true, "828685226fc5eb3203947e0649590e18dbf39dd039ccf4ee44873603de627960"), looks := false }, kinds := [], alts := [], laidByText := true, laidKinds := [.data, .data, .data], laidTests := true, laidLooks := .later }
def SchemeAcceptedUptoCardSaid : Prop := Claim7.holds Tryz.pinned (.plain (OpenSpec.upto schemeAcceptedSpec)) schemeAcceptedUptoCard

/-- THE SECOND FORM's CARD OF 'proofprogramslaw41.SchemeComputes'. -/
def schemeComputesUptoCard : Claim7 := { stood := { row := schemeComputesUptoRow, standIns := [], harness := (true, "828685226fc5eb3203947e0649590e18dbf39dd039ccf4ee44873603de627960"), looks := false }, kinds := [], alts := [], laidByText := true, laidKinds := [.data, .data, .data], laidTests := true, laidLooks := .later }
def SchemeComputesUptoCardSaid : Prop := Claim7.holds Tryz.pinned (.plain (OpenSpec.upto schemeComputesSpec)) schemeComputesUptoCard

/-- THE SECOND FORM's CARD OF 'proofprogramslaw41.SchemeLists'. -/
def schemeListsUptoCard : Claim7 := { stood := { row := schemeListsUptoRow, standIns := [], harness := (true, "828685226fc5eb3203947e0649590e18dbf39dd039ccf4ee44873603de627960"), looks := false }, kinds := [], alts := [], laidByText := true, laidKinds := [.data, .data, .data], laidTests := true, laidLooks := .later }
def SchemeListsUptoCardSaid : Prop := Claim7.holds Tryz.pinned (.plain (OpenSpec.upto schemeListsSpec)) schemeListsUptoCard

/-- THE SECOND FORM's CARD OF 'proofprogramslaw41.SchemeChains'. -/
def schemeChainsUptoCard : Claim7 := { stood := { row := schemeChainsUptoRow, standIns := [], harness := (true, "828685226fc5eb3203947e0649590e18dbf39dd039ccf4ee44873603de627960"), looks := false }, kinds := [], alts := [], laidByText := true, laidKinds := [.data, .data, .data], laidTests := true, laidLooks := .later }
def SchemeChainsUptoCardSaid : Prop := Claim7.holds Tryz.pinned (.plain (OpenSpec.upto schemeChainsSpec)) schemeChainsUptoCard
end Rows
end Go.Proofs.YtpgdkkomegalnaaGreatDoor
