/-
  DERIVED. GIVEN WITH THE SEED: THE CARDS: each row of YtdihelfnjememaaDoorRows.lean that lists a variable, with what it lists TIED to the program's text (the seventh form; the later family's looks); each row that meets fmt, with fmt's text TOLD by the authors' own Lean function (tested against real Go, not proved from fmt's source: count such statements apart). THE CARD IS WHAT COUNTS. Prove the row's statement (the work); the ties are given (YtdihelfnjememaaDoorTie.lean); close each card by the builder's one call (the guide's Derived/Test/ToyasCard.lean, 'card_holds'). Laid BY PROGRAM, IN A SANDBOX (cutbox-door.mjs). By AI agents, Wed Nov 11 2026. No macro, syntax, notation, axiom, sorry.
-/
import Derived.Test.YtdihelfnjememaaDoorRows
import GoSem.ClaimSeven
namespace Go.Proofs.YtdihelfnjememaaDoor
namespace Rows

/-- THE TIED CARD OF 'proofprogramslaw23.ContentExact'. -/
def contentExactCard : Claim7 := { stood := { row := contentExactRow, standIns := [], harness := (true, "8087c70299e3cc8cef17fa869780df2480e6ca007c581204f3c7fa09013010d7"), looks := false }, kinds := [], alts := [], laidByText := true, laidKinds := [.data], laidTests := true, laidLooks := .later }
def ContentExactCardSaid : Prop := Claim7.holds Tryd.pinned (.plain (OpenSpec.ofChange contentExactSpec)) contentExactCard

/-- THE TIED CARD OF 'proofprogramslaw23.ContentKeeps'. -/
def contentKeepsCard : Claim7 := { stood := { row := contentKeepsRow, standIns := [], harness := (true, "8087c70299e3cc8cef17fa869780df2480e6ca007c581204f3c7fa09013010d7"), looks := false }, kinds := [], alts := [], laidByText := true, laidKinds := [.data], laidTests := true, laidLooks := .later }
def ContentKeepsCardSaid : Prop := Claim7.holds Tryd.pinned (.plain (OpenSpec.ofChange contentKeepsSpec)) contentKeepsCard

/-- THE TIED CARD OF 'proofprogramslaw23.ContentNone'. -/
def contentNoneCard : Claim7 := { stood := { row := contentNoneRow, standIns := [], harness := (true, "8087c70299e3cc8cef17fa869780df2480e6ca007c581204f3c7fa09013010d7"), looks := false }, kinds := [], alts := [], laidByText := true, laidKinds := [.data], laidTests := true, laidLooks := .later }
def ContentNoneCardSaid : Prop := Claim7.holds Tryd.pinned (.plain (OpenSpec.ofChange contentNoneSpec)) contentNoneCard

/-- THE TIED CARD OF 'proofprogramslaw23.ContentUniform'. -/
def contentUniformCard : Claim7 := { stood := { row := contentUniformRow, standIns := [], harness := (true, "8087c70299e3cc8cef17fa869780df2480e6ca007c581204f3c7fa09013010d7"), looks := false }, kinds := [], alts := [], laidByText := true, laidKinds := [.data], laidTests := true, laidLooks := .later }
def ContentUniformCardSaid : Prop := Claim7.holds Tryd.pinned (.plain (OpenSpec.ofChange contentUniformSpec)) contentUniformCard

/-- THE SECOND FORM's CARD OF 'proofprogramslaw23.ContentExact'. -/
def contentExactUptoCard : Claim7 := { stood := { row := contentExactUptoRow, standIns := [], harness := (true, "8087c70299e3cc8cef17fa869780df2480e6ca007c581204f3c7fa09013010d7"), looks := false }, kinds := [], alts := [], laidByText := true, laidKinds := [.data], laidTests := true, laidLooks := .later }
def ContentExactUptoCardSaid : Prop := Claim7.holds Tryd.pinned (.plain (OpenSpec.upto contentExactSpec)) contentExactUptoCard

/-- THE SECOND FORM's CARD OF 'proofprogramslaw23.ContentKeeps'. -/
def contentKeepsUptoCard : Claim7 := { stood := { row := contentKeepsUptoRow, standIns := [], harness := (true, "8087c70299e3cc8cef17fa869780df2480e6ca007c581204f3c7fa09013010d7"), looks := false }, kinds := [], alts := [], laidByText := true, laidKinds := [.data], laidTests := true, laidLooks := .later }
def ContentKeepsUptoCardSaid : Prop := Claim7.holds Tryd.pinned (.plain (OpenSpec.upto contentKeepsSpec)) contentKeepsUptoCard

/-- THE SECOND FORM's CARD OF 'proofprogramslaw23.ContentNone'. -/
def contentNoneUptoCard : Claim7 := { stood := { row := contentNoneUptoRow, standIns := [], harness := (true, "8087c70299e3cc8cef17fa869780df2480e6ca007c581204f3c7fa09013010d7"), looks := false }, kinds := [], alts := [], laidByText := true, laidKinds := [.data], laidTests := true, laidLooks := .later }
def ContentNoneUptoCardSaid : Prop := Claim7.holds Tryd.pinned (.plain (OpenSpec.upto contentNoneSpec)) contentNoneUptoCard

/-- THE SECOND FORM's CARD OF 'proofprogramslaw23.ContentUniform'. -/
def contentUniformUptoCard : Claim7 := { stood := { row := contentUniformUptoRow, standIns := [], harness := (true, "8087c70299e3cc8cef17fa869780df2480e6ca007c581204f3c7fa09013010d7"), looks := false }, kinds := [], alts := [], laidByText := true, laidKinds := [.data], laidTests := true, laidLooks := .later }
def ContentUniformUptoCardSaid : Prop := Claim7.holds Tryd.pinned (.plain (OpenSpec.upto contentUniformSpec)) contentUniformUptoCard
end Rows
end Go.Proofs.YtdihelfnjememaaDoor
