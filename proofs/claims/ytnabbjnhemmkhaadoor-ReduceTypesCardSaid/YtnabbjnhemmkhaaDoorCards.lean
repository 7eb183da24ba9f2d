/-
  DERIVED. GIVEN WITH THE SEED: THE CARDS: each row of YtnabbjnhemmkhaaDoorRows.lean that lists a variable, with what it lists TIED to the program's text (the seventh form; the later family's looks); each row that meets fmt, with fmt's text TOLD by the authors' own Lean function (tested against real Go, not proved from fmt's source: count such statements apart). THE CARD IS WHAT COUNTS. Prove the row's statement (the work); the ties are given (YtnabbjnhemmkhaaDoorTie.lean); close each card by the builder's one call (the guide's Derived/Test/ToyasCard.lean, 'card_holds'). Laid BY PROGRAM, IN A SANDBOX (cutbox-door.mjs). By AI agents, Wed Nov 11 2026. No macro, syntax, notation, axiom, sorry.
-/
import Derived.Test.YtnabbjnhemmkhaaDoorRows
import GoSem.ClaimSeven
namespace Go.Proofs.YtnabbjnhemmkhaaDoor
namespace Rows

/-- THE TIED CARD OF 'proofprogramslaw04.ReduceTypes'. -/
def reduceTypesCard : Claim7 := { stood := { row := reduceTypesRow, standIns := [], harness := (true, "eaa3939f7df93c30bc2b8efe86066450ab390982be6b1a1fcc85919f3ee50ecd"), looks := false }, kinds := [], alts := [], laidByText := true, laidKinds := [.data], laidTests := true, laidLooks := .later }
def ReduceTypesCardSaid : Prop := Claim7.holds Tryd.pinned (.plain (OpenSpec.ofChange reduceTypesSpec)) reduceTypesCard

/-- THE TIED CARD OF 'proofprogramslaw04.ReduceCloses'. -/
def reduceClosesCard : Claim7 := { stood := { row := reduceClosesRow, standIns := [], harness := (true, "eaa3939f7df93c30bc2b8efe86066450ab390982be6b1a1fcc85919f3ee50ecd"), looks := false }, kinds := [], alts := [], laidByText := true, laidKinds := [.data], laidTests := true, laidLooks := .later }
def ReduceClosesCardSaid : Prop := Claim7.holds Tryd.pinned (.plain (OpenSpec.ofChange reduceClosesSpec)) reduceClosesCard

/-- THE TIED CARD OF 'proofprogramslaw04.ReduceAdds'. -/
def reduceAddsCard : Claim7 := { stood := { row := reduceAddsRow, standIns := [], harness := (true, "eaa3939f7df93c30bc2b8efe86066450ab390982be6b1a1fcc85919f3ee50ecd"), looks := false }, kinds := [], alts := [], laidByText := true, laidKinds := [.data], laidTests := true, laidLooks := .later }
def ReduceAddsCardSaid : Prop := Claim7.holds Tryd.pinned (.plain (OpenSpec.ofChange reduceAddsSpec)) reduceAddsCard

/-- THE TIED CARD OF 'proofprogramslaw04.ReduceParts'. -/
def reducePartsCard : Claim7 := { stood := { row := reducePartsRow, standIns := [], harness := (true, "eaa3939f7df93c30bc2b8efe86066450ab390982be6b1a1fcc85919f3ee50ecd"), looks := false }, kinds := [], alts := [], laidByText := true, laidKinds := [.data], laidTests := true, laidLooks := .later }
def ReducePartsCardSaid : Prop := Claim7.holds Tryd.pinned (.plain (OpenSpec.ofChange reducePartsSpec)) reducePartsCard

/-- THE TIED CARD OF 'proofprogramslaw04.ReduceMatches'. -/
def reduceMatchesCard : Claim7 := { stood := { row := reduceMatchesRow, standIns := [], harness := (true, "eaa3939f7df93c30bc2b8efe86066450ab390982be6b1a1fcc85919f3ee50ecd"), looks := false }, kinds := [], alts := [], laidByText := true, laidKinds := [.data], laidTests := true, laidLooks := .later }
def ReduceMatchesCardSaid : Prop := Claim7.holds Tryd.pinned (.plain (OpenSpec.ofChange reduceMatchesSpec)) reduceMatchesCard

/-- THE TIED CARD OF 'proofprogramslaw04.ReduceDoes'. -/
def reduceDoesCard : Claim7 := { stood := { row := reduceDoesRow, standIns := [], harness := (true, "eaa3939f7df93c30bc2b8efe86066450ab390982be6b1a1fcc85919f3ee50ecd"), looks := false }, kinds := [], alts := [], laidByText := true, laidKinds := [.data], laidTests := true, laidLooks := .later }
def ReduceDoesCardSaid : Prop := Claim7.holds Tryd.pinned (.plain (OpenSpec.ofChange reduceDoesSpec)) reduceDoesCard

/-- THE TIED CARD OF 'proofprogramslaw04.ReduceUnique'. -/
def reduceUniqueCard : Claim7 := { stood := { row := reduceUniqueRow, standIns := [], harness := (true, "eaa3939f7df93c30bc2b8efe86066450ab390982be6b1a1fcc85919f3ee50ecd"), looks := false }, kinds := [], alts := [], laidByText := true, laidKinds := [.data], laidTests := true, laidLooks := .later }
def ReduceUniqueCardSaid : Prop := Claim7.holds Tryd.pinned (.plain (OpenSpec.ofChange reduceUniqueSpec)) reduceUniqueCard

/-- THE SECOND FORM's CARD OF 'proofprogramslaw04.ReduceTypes'. -/
def reduceTypesUptoCard : Claim7 := { stood := { row := reduceTypesUptoRow, standIns := [], harness := (true, "eaa3939f7df93c30bc2b8efe86066450ab390982be6b1a1fcc85919f3ee50ecd"), looks := false }, kinds := [], alts := [], laidByText := true, laidKinds := [.data], laidTests := true, laidLooks := .later }
def ReduceTypesUptoCardSaid : Prop := Claim7.holds Tryd.pinned (.plain (OpenSpec.upto reduceTypesSpec)) reduceTypesUptoCard

/-- THE SECOND FORM's CARD OF 'proofprogramslaw04.ReduceCloses'. -/
def reduceClosesUptoCard : Claim7 := { stood := { row := reduceClosesUptoRow, standIns := [], harness := (true, "eaa3939f7df93c30bc2b8efe86066450ab390982be6b1a1fcc85919f3ee50ecd"), looks := false }, kinds := [], alts := [], laidByText := true, laidKinds := [.data], laidTests := true, laidLooks := .later }
def ReduceClosesUptoCardSaid : Prop := Claim7.holds Tryd.pinned (.plain (OpenSpec.upto reduceClosesSpec)) reduceClosesUptoCard

/-- THE SECOND FORM's CARD OF 'proofprogramslaw04.ReduceAdds'. -/
def reduceAddsUptoCard : Claim7 := { stood := { row := reduceAddsUptoRow, standIns := [], harness := (true, "eaa3939f7df93c30bc2b8efe86066450ab390982be6b1a1fcc85919f3ee50ecd"), looks := false }, kinds := [], alts := [], laidByText := true, laidKinds := [.data], laidTests := true, laidLooks := .later }
def ReduceAddsUptoCardSaid : Prop := Claim7.holds Tryd.pinned (.plain (OpenSpec.upto reduceAddsSpec)) reduceAddsUptoCard

/-- THE SECOND FORM's CARD OF 'proofprogramslaw04.ReduceParts'. -/
def reducePartsUptoCard : Claim7 := { stood := { row := reducePartsUptoRow, standIns := [], harness := (true, "eaa3939f7df93c30bc2b8efe86066450ab390982be6b1a1fcc85919f3ee50ecd"), looks := false }, kinds := [], alts := [], laidByText := true, laidKinds := [.data], laidTests := true, laidLooks := .later }
def ReducePartsUptoCardSaid : Prop := Claim7.holds Tryd.pinned (.plain (OpenSpec.upto reducePartsSpec)) reducePartsUptoCard

/-- THE SECOND FORM's CARD OF 'proofprogramslaw04.ReduceMatches'. -/
def reduceMatchesUptoCard : Claim7 := { stood := { row := reduceMatchesUptoRow, standIns := [], harness := (true, "eaa3939f7df93c30bc2b8efe86066450ab390982be6b1a1fcc85919f3ee50ecd"), looks := false }, kinds := [], alts := [], laidByText := true, laidKinds := [.data], laidTests := true, laidLooks := .later }
def ReduceMatchesUptoCardSaid : Prop := Claim7.holds Tryd.pinned (.plain (OpenSpec.upto reduceMatchesSpec)) reduceMatchesUptoCard

/-- THE SECOND FORM's CARD OF 'proofprogramslaw04.ReduceDoes'. -/
def reduceDoesUptoCard : Claim7 := { stood := { row := reduceDoesUptoRow, standIns := [], harness := (true, "eaa3939f7df93c30bc2b8efe86066450ab390982be6b1a1fcc85919f3ee50ecd"), looks := false }, kinds := [], alts := [], laidByText := true, laidKinds := [.data], laidTests := true, laidLooks := .later }
def ReduceDoesUptoCardSaid : Prop := Claim7.holds Tryd.pinned (.plain (OpenSpec.upto reduceDoesSpec)) reduceDoesUptoCard

/-- THE SECOND FORM's CARD OF 'proofprogramslaw04.ReduceUnique'. -/
def reduceUniqueUptoCard : Claim7 := { stood := { row := reduceUniqueUptoRow, standIns := [], harness := (true, "eaa3939f7df93c30bc2b8efe86066450ab390982be6b1a1fcc85919f3ee50ecd"), looks := false }, kinds := [], alts := [], laidByText := true, laidKinds := [.data], laidTests := true, laidLooks := .later }
def ReduceUniqueUptoCardSaid : Prop := Claim7.holds Tryd.pinned (.plain (OpenSpec.upto reduceUniqueSpec)) reduceUniqueUptoCard
end Rows
end Go.Proofs.YtnabbjnhemmkhaaDoor
