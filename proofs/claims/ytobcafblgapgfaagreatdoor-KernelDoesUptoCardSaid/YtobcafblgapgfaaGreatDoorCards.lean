/-
  DERIVED. GIVEN WITH THE SEED: THE CARDS: each row of YtobcafblgapgfaaGreatDoorRows.lean that lists a variable, with what it lists TIED to the program's text (the seventh form; the later family's looks); each row that meets fmt, with fmt's text TOLD by the authors' own Lean function (tested against real Go, not proved from fmt's source: count such statements apart). THE CARD IS WHAT COUNTS. Prove the row's statement (the work); the ties are given (YtobcafblgapgfaaGreatDoorTie.lean); close each card by the builder's one call (the guide's Derived/Test/ToyasCard.lean, 'card_holds'). Laid BY PROGRAM, IN A SANDBOX (cutbox-door.mjs). By AI agents, Wed Nov 11 2026. No macro, syntax, notation, axiom, sorry.
-/
import Derived.Test.YtobcafblgapgfaaGreatDoorRows
import GoSem.ClaimSeven
namespace Go.Proofs.YtobcafblgapgfaaGreatDoor
namespace Rows

/-- THE TIED CARD OF 'proofprogramslaw11.KernelDoes'. -/
def kernelDoesCard : Claim7 := { stood := { row := kernelDoesRow, standIns := [], harness := (true, "59ad9e541940327f0abf053d023a0e4aabf9243c78fc631f5a31c7691f80561a"), looks := false }, kinds := [], alts := [], laidByText := true, laidKinds := [.data, .data, .data], laidTests := true, laidLooks := .later }
def KernelDoesCardSaid : Prop := Claim7.holds Tryz.pinned (.plain (OpenSpec.ofChange kernelDoesSpec)) kernelDoesCard

/-- THE TIED CARD OF 'proofprogramslaw11.KernelLifts'. -/
def kernelLiftsCard : Claim7 := { stood := { row := kernelLiftsRow, standIns := [], harness := (true, "59ad9e541940327f0abf053d023a0e4aabf9243c78fc631f5a31c7691f80561a"), looks := false }, kinds := [], alts := [], laidByText := true, laidKinds := [.data, .data, .data], laidTests := true, laidLooks := .later }
def KernelLiftsCardSaid : Prop := Claim7.holds Tryz.pinned (.plain (OpenSpec.ofChange kernelLiftsSpec)) kernelLiftsCard

/-- THE TIED CARD OF 'proofprogramslaw11.KernelUniform'. -/
def kernelUniformCard : Claim7 := { stood := { row := kernelUniformRow, standIns := [], harness := (true, "59ad9e541940327f0abf053d023a0e4aabf9243c78fc631f5a31c7691f80561a"), looks := false }, kinds := [], alts := [], laidByText := true, laidKinds := [.data, .data, .data], laidTests := true, laidLooks := .later }
def KernelUniformCardSaid : Prop := Claim7.holds Tryz.pinned (.plain (OpenSpec.ofChange kernelUniformSpec)) kernelUniformCard

/-- THE TIED CARD OF 'proofprogramslaw11.KernelAccepts'. -/
def kernelAcceptsCard : Claim7 := { stood := { row := kernelAcceptsRow, standIns := [], harness := (true, "59ad9e541940327f0abf053d023a0e4aabf9243c78fc631f5a31c7691f80561a"), looks := false }, kinds := [], alts := [], laidByText := true, laidKinds := [.data, .data, .data], laidTests := true, laidLooks := .later }
def KernelAcceptsCardSaid : Prop := Claim7.holds Tryz.pinned (.plain (OpenSpec.ofChange kernelAcceptsSpec)) kernelAcceptsCard

/-- THE TIED CARD OF 'proofprogramslaw11.KernelTyped'. -/
def kernelTypedCard : Claim7 := { stood := { row := kernelTypedRow, standIns := [], harness := (true, "59ad9e541940327f0abf053d023a0e4aabf9243c78fc631f5a31c7691f80561a"), looks := false }, kinds := [], alts := [], laidByText := true, laidKinds := [.data, .data, .data], laidTests := true, laidLooks := .later }
def KernelTypedCardSaid : Prop := Claim7.holds Tryz.pinned (.plain (OpenSpec.ofChange kernelTypedSpec)) kernelTypedCard

/-- THE TIED CARD OF 'proofprogramslaw11.KernelPuts'. -/
def kernelPutsCard : Claim7 := { stood := { row := kernelPutsRow, standIns := [], harness := (true, "59ad9e541940327f0abf053d023a0e4aabf9243c78fc631f5a31c7691f80561a"), looks := false }, kinds := [], alts := [], laidByText := true, laidKinds := [.data, .data, .data], laidTests := true, laidLooks := .later }
def KernelPutsCardSaid : Prop := Claim7.holds Tryz.pinned (.plain (OpenSpec.ofChange kernelPutsSpec)) kernelPutsCard

/-- THE TIED CARD OF 'proofprogramslaw11.KernelCuts'. -/
def kernelCutsCard : Claim7 := { stood := { row := kernelCutsRow, standIns := [], harness := (true, "59ad9e541940327f0abf053d023a0e4aabf9243c78fc631f5a31c7691f80561a"), looks := false }, kinds := [], alts := [], laidByText := true, laidKinds := [.data, .data, .data], laidTests := true, laidLooks := .later }
def KernelCutsCardSaid : Prop := Claim7.holds Tryz.pinned (.plain (OpenSpec.ofChange kernelCutsSpec)) kernelCutsCard

/-- THE TIED CARD OF 'proofprogramslaw11.KernelRefuses'. -/
def kernelRefusesCard : Claim7 := { stood := { row := kernelRefusesRow, standIns := [], harness := (true, "59ad9e541940327f0abf053d023a0e4aabf9243c78fc631f5a31c7691f80561a"), looks := false }, kinds := [], alts := [], laidByText := true, laidKinds := [.data, .data, .data], laidTests := true, laidLooks := .later }
def KernelRefusesCardSaid : Prop := Claim7.holds Tryz.pinned (.plain (OpenSpec.ofChange kernelRefusesSpec)) kernelRefusesCard

/-- THE TIED CARD OF 'proofprogramslaw11.KernelChoice'. -/
def kernelChoiceCard : Claim7 := { stood := { row := kernelChoiceRow, standIns := [], harness := (true, "59ad9e541940327f0abf053d023a0e4aabf9243c78fc631f5a31c7691f80561a"), looks := false }, kinds := [], alts := [], laidByText := true, laidKinds := [.data, .data, .data], laidTests := true, laidLooks := .later }
def KernelChoiceCardSaid : Prop := Claim7.holds Tryz.pinned (.plain (OpenSpec.ofChange kernelChoiceSpec)) kernelChoiceCard

/-- THE SECOND FORM's CARD OF 'proofprogramslaw11.KernelDoes'. -/
def kernelDoesUptoCard : Claim7 := { stood := { row := kernelDoesUptoRow, standIns := [], harness := (true, "59ad9e541940327f0abf053d023a0e4aabf9243c78fc631f5a31c7691f80561a"), looks := false }, kinds := [], alts := [], laidByText := true, laidKinds := [.data, .data, .data], laidTests := true, laidLooks := .later }
def KernelDoesUptoCardSaid : Prop := Claim7.holds Tryz.pinned (.plain (OpenSpec.upto kernelDoesSpec)) kernelDoesUptoCard

/-- THE SECOND FORM's CARD OF 'proofprogramslaw11.KernelLifts'. -/
def kernelLiftsUptoCard : Claim7 := { stood := { row := kernelLiftsUptoRow, standIns := [], harness := (true, "59ad9e541940327f0abf053d023a0e4aabf9243c78fc631f5a31c7691f80561a"), looks := false }, kinds := [], alts := [], laidByText := true, laidKinds := [.data, .data, .data], laidTests := true, laidLooks := .later }
def KernelLiftsUptoCardSaid : Prop := Claim7.holds Tryz.pinned (.plain (OpenSpec.upto kernelLiftsSpec)) kernelLiftsUptoCard

/-- THE SECOND FORM's CARD OF 'proofprogramslaw11.KernelUniform'. -/
def kernelUniformUptoCard : Claim7 := { stood := { row := kernelUniformUptoRow, standIns := [], harness := (true, "59ad9e541940327f0abf053d023a0e4aabf9243c78fc631f5a31c7691f80561a"), looks := false }, kinds := [], alts := [], laidByText := true, laidKinds := [.data, .data, .data], laidTests := true, laidLooks := .later }
def KernelUniformUptoCardSaid : Prop := Claim7.holds Tryz.pinned (.plain (OpenSpec.upto kernelUniformSpec)) kernelUniformUptoCard

/-- THE SECOND FORM's CARD OF 'proofprogramslaw11.KernelAccepts'. -/
def kernelAcceptsUptoCard : Claim7 := { stood := { row := kernelAcceptsUptoRow, standIns := [], harness := (true, "59ad9e541940327f0abf053d023a0e4aabf9243c78fc631f5a31c7691f80561a"), looks := false }, kinds := [], alts := [], laidByText := true, laidKinds := [.data, .data, .data], laidTests := true, laidLooks := .later }
def KernelAcceptsUptoCardSaid : Prop := Claim7.holds Tryz.pinned (.plain (OpenSpec.upto kernelAcceptsSpec)) kernelAcceptsUptoCard

/-- THE SECOND FORM's CARD OF 'proofprogramslaw11.KernelTyped'. -/
def kernelTypedUptoCard : Claim7 := { stood := { row := kernelTypedUptoRow, standIns := [], harness := (true, "59ad9e541940327f0abf053d023a0e4aabf9243c78fc631f5a31c7691f80561a"), looks := false }, kinds := [], alts := [], laidByText := true, laidKinds := [.data, .data, .data], laidTests := true, laidLooks := .later }
def KernelTypedUptoCardSaid : Prop := Claim7.holds Tryz.pinned (.plain (OpenSpec.upto kernelTypedSpec)) kernelTypedUptoCard

/-- THE SECOND FORM's CARD OF 'proofprogramslaw11.KernelPuts'. -/
def kernelPutsUptoCard : Claim7 := { stood := { row := kernelPutsUptoRow, standIns := [], harness := (true, "59ad9e541940327f0abf053d023a0e4aabf9243c78fc631f5a31c7691f80561a"), looks := false }, kinds := [], alts := [], laidByText := true, laidKinds := [.data, .data, .data], laidTests := true, laidLooks := .later }
def KernelPutsUptoCardSaid : Prop := Claim7.holds Tryz.pinned (.plain (OpenSpec.upto kernelPutsSpec)) kernelPutsUptoCard

/-- THE SECOND FORM's CARD OF 'proofprogramslaw11.KernelCuts'. -/
def kernelCutsUptoCard : Claim7 := { stood := { row := kernelCutsUptoRow, standIns := [], harness := (true, "59ad9e541940327f0abf053d023a0e4aabf9243c78fc631f5a31c7691f80561a"), looks := false }, kinds := [], alts := [], laidByText := true, laidKinds := [.data, .data, .data], laidTests := true, laidLooks := .later }
def KernelCutsUptoCardSaid : Prop := Claim7.holds Tryz.pinned (.plain (OpenSpec.upto kernelCutsSpec)) kernelCutsUptoCard

/-- THE SECOND FORM's CARD OF 'proofprogramslaw11.KernelRefuses'. -/
def kernelRefusesUptoCard : Claim7 := { stood := { row := kernelRefusesUptoRow, standIns := [], harness := (true, "59ad9e541940327f0abf053d023a0e4aabf9243c78fc631f5a31c7691f80561a"), looks := false }, kinds := [], alts := [], laidByText := true, laidKinds := [.data, .data, .data], laidTests := true, laidLooks := .later }
def KernelRefusesUptoCardSaid : Prop := Claim7.holds Tryz.pinned (.plain (OpenSpec.upto kernelRefusesSpec)) kernelRefusesUptoCard

/-- THE SECOND FORM's CARD OF 'proofprogramslaw11.KernelChoice'. -/
def kernelChoiceUptoCard : Claim7 := { stood := { row := kernelChoiceUptoRow, standIns := [], harness := (true, "59ad9e541940327f0abf053d023a0e4aabf9243c78fc631f5a31c7691f80561a"), looks := false }, kinds := [], alts := [], laidByText := true, laidKinds := [.data, .data, .data], laidTests := true, laidLooks := .later }
def KernelChoiceUptoCardSaid : Prop := Claim7.holds Tryz.pinned (.plain (OpenSpec.upto kernelChoiceSpec)) kernelChoiceUptoCard
end Rows
end Go.Proofs.YtobcafblgapgfaaGreatDoor
