/-
  NARROWER THAN 'FOR EVERY INPUT', by the rows' own cells (each row's printed sentence says how): ContentExact: loops, laid · ContentKeeps: laid · ContentNone: laid · ContentUniform: laid.
  DERIVED. THE GIVEN ROWS OF THIS SEAT. 4 by the template 'for every input the law returns true; each argument reads behind the call as it read before'; 0 by the template 'total and deterministic' (their statements: YtdihelfnjememaaDoorTotals.lean).
  GIVEN WITH THE SEED: the statements are not yours to turn. If you find one false, say at which input.
  Laid BY PROGRAM, IN A SANDBOX (cutbox-rows.mjs): the forced cells as the released guide's own fill.sh prints them over the translation 6c78ab9625b1e7b7… (all of the seat's roots in one cut). By AI agents, Wed Nov 11 2026. No macro, syntax, notation, axiom, sorry.
-/
import Derived.Test.YtdihelfnjememaaDoorChecked
import GoSem.Claim
import GoSem.ClaimJoined
import GoSem.ClaimMapViews
import Derived.JoinedTies
import Derived.KernelRfl
namespace Go.Proofs.YtdihelfnjememaaDoor
/- THE CELL 'sum', in the pinned program and in every row, IS THE sha256 OF THE DUMP (.gsa) THAT YtdihelfnjememaaDoorProg.lean LOADS. Nothing in Lean hashes anything: it is a label: what it is worth is what the hold of that sum in a sandbox is worth. -/
noncomputable def Tryd.pinned : Pinned := { name := "ytdihelfnjememaadoor", sum := "6c78ab9625b1e7b72421f6c00194f1cf751dda3cdc05ab657beb3f325332fc9f", checked := Tryd.checked }
namespace Rows
def none {H : Type} : Left H := { results := [], args := [] }

/- WHAT THE LISTED PACKAGE-LEVEL VARIABLES READ AS WHEN THE CALL BEGINS. Each datum BY PROGRAM (the guide's laid-datum.mjs) off the statement by which the dump's own 'gosem.cut.vars' lays the variable. In a bare row this is a premise. The card (YtdihelfnjememaaDoorCards.lean) ties it to the program's text. -/
def laid_proofprograms_tree_arities {H : Type} : DataW H := .agg [.lit (.int .i64 0), .lit (.int .i64 0), .lit (.int .i64 1), .lit (.int .i64 2), .lit (.int .i64 0), .lit (.int .i64 1), .lit (.int .i64 3), .lit (.int .i64 0), .lit (.int .i64 2), .lit (.int .i64 3), .lit (.int .i64 2), .lit (.int .i64 1), .lit (.int .i64 1), .lit (.int .i64 0)]

/-- 'proofprogramslaw23.ContentExact': WHATEVER THE INPUT: true; the input reads as it did. -/
def contentExactSpec : ChangeSpec := { name := "contentExact", fn := fun _ => fun
  | [d1, d2, d3] => { results := [.lit (.bool true)], args := [d1, d2, d3] }
  | _ => none }
def contentExactRow : OpenClaim := { program := "ytdihelfnjememaadoor", sum := "6c78ab9625b1e7b72421f6c00194f1cf751dda3cdc05ab657beb3f325332fc9f", func := "proofprograms/proofprogramslaw23.ContentExact", spec := "contentExact", recurses := true, named := ["proofprograms/tree.arities"], loops := true, apart := false, laid := [("proofprograms/tree.arities", laid_proofprograms_tree_arities)] }
def ContentExactSaid : Prop := contentExactRow.holds Tryd.pinned (OpenSpec.ofChange contentExactSpec)

/-- ITS FALSE NEIGHBOUR: 'it returns false'. Refute it at one input. -/
def contentExactWrong : ChangeSpec := { name := "contentExact", fn := fun _ => fun
  | [d1, d2, d3] => { results := [.lit (.bool false)], args := [d1, d2, d3] }
  | _ => none }
def ContentExactWrongFalsely : Prop := contentExactRow.holds Tryd.pinned (OpenSpec.ofChange contentExactWrong)

/-- 'proofprogramslaw23.ContentKeeps': WHATEVER THE INPUT: true; the input reads as it did. -/
def contentKeepsSpec : ChangeSpec := { name := "contentKeeps", fn := fun _ => fun
  | [d] => { results := [.lit (.bool true)], args := [d] }
  | _ => none }
def contentKeepsRow : OpenClaim := { program := "ytdihelfnjememaadoor", sum := "6c78ab9625b1e7b72421f6c00194f1cf751dda3cdc05ab657beb3f325332fc9f", func := "proofprograms/proofprogramslaw23.ContentKeeps", spec := "contentKeeps", recurses := true, named := ["proofprograms/tree.arities"], apart := false, laid := [("proofprograms/tree.arities", laid_proofprograms_tree_arities)] }
def ContentKeepsSaid : Prop := contentKeepsRow.holds Tryd.pinned (OpenSpec.ofChange contentKeepsSpec)

/-- ITS FALSE NEIGHBOUR: 'it returns false'. Refute it at one input. -/
def contentKeepsWrong : ChangeSpec := { name := "contentKeeps", fn := fun _ => fun
  | [d] => { results := [.lit (.bool false)], args := [d] }
  | _ => none }
def ContentKeepsWrongFalsely : Prop := contentKeepsRow.holds Tryd.pinned (OpenSpec.ofChange contentKeepsWrong)

/-- 'proofprogramslaw23.ContentNone': WHATEVER THE INPUT: true; the input reads as it did. -/
def contentNoneSpec : ChangeSpec := { name := "contentNone", fn := fun _ => fun
  | [d] => { results := [.lit (.bool true)], args := [d] }
  | _ => none }
def contentNoneRow : OpenClaim := { program := "ytdihelfnjememaadoor", sum := "6c78ab9625b1e7b72421f6c00194f1cf751dda3cdc05ab657beb3f325332fc9f", func := "proofprograms/proofprogramslaw23.ContentNone", spec := "contentNone", recurses := true, named := ["proofprograms/tree.arities"], apart := false, laid := [("proofprograms/tree.arities", laid_proofprograms_tree_arities)] }
def ContentNoneSaid : Prop := contentNoneRow.holds Tryd.pinned (OpenSpec.ofChange contentNoneSpec)

/-- ITS FALSE NEIGHBOUR: 'it returns false'. Refute it at one input. -/
def contentNoneWrong : ChangeSpec := { name := "contentNone", fn := fun _ => fun
  | [d] => { results := [.lit (.bool false)], args := [d] }
  | _ => none }
def ContentNoneWrongFalsely : Prop := contentNoneRow.holds Tryd.pinned (OpenSpec.ofChange contentNoneWrong)

/-- 'proofprogramslaw23.ContentUniform': WHATEVER THE INPUT: true; the input reads as it did. -/
def contentUniformSpec : ChangeSpec := { name := "contentUniform", fn := fun _ => fun
  | [d] => { results := [.lit (.bool true)], args := [d] }
  | _ => none }
def contentUniformRow : OpenClaim := { program := "ytdihelfnjememaadoor", sum := "6c78ab9625b1e7b72421f6c00194f1cf751dda3cdc05ab657beb3f325332fc9f", func := "proofprograms/proofprogramslaw23.ContentUniform", spec := "contentUniform", recurses := true, named := ["proofprograms/tree.arities"], apart := false, laid := [("proofprograms/tree.arities", laid_proofprograms_tree_arities)] }
def ContentUniformSaid : Prop := contentUniformRow.holds Tryd.pinned (OpenSpec.ofChange contentUniformSpec)

/-- ITS FALSE NEIGHBOUR: 'it returns false'. Refute it at one input. -/
def contentUniformWrong : ChangeSpec := { name := "contentUniform", fn := fun _ => fun
  | [d] => { results := [.lit (.bool false)], args := [d] }
  | _ => none }
def ContentUniformWrongFalsely : Prop := contentUniformRow.holds Tryd.pinned (OpenSpec.ofChange contentUniformWrong)

/- THE SECOND FORM. 'bulk': how many values and letters a reading holds, each counted each time it is reached (what is shared counts as often as it is met; a slice's spare places count too). A statement '..UptoSaid' is the law's where the arguments, and the package variables that the reading takes, are together of bulk at most 1048576: NARROWER than '..Said'. Prove '..Said' where nothing that the law and all that it calls make is longer than what came in: it says more and counts as full. Else prove '..UptoSaid'. A law counts once. -/
mutual
def uptoBulk {H : Type} : DataW H → Nat
  | .lit (.string bytes) => bytes.length + 1
  | .lit _ => 1
  | .nil => 1
  | .ptr d => uptoBulk d + 1
  | .slice elems spare => uptoBulkAll elems + uptoBulkAll spare + 1
  | .agg parts => uptoBulkAll parts + 1
  | .iface _ d => uptoBulk d + 1
  | .map entries => uptoBulkEntries entries + 1
  | .held _ => 1
def uptoBulkAll {H : Type} : List (DataW H) → Nat
  | [] => 0
  | d :: r => uptoBulk d + uptoBulkAll r
def uptoBulkEntries {H : Type} : List (Lit × DataW H) → Nat
  | [] => 0
  | x :: r => uptoBulkEntry x + uptoBulkEntries r
def uptoBulkEntry {H : Type} : Lit × DataW H → Nat
  | (.string bytes, d) => bytes.length + uptoBulk d + 1
  | (_, d) => uptoBulk d + 1
 end
def uptoSmall : (H : Type) → List (DataW H) → Bool := fun _ ds => decide (uptoBulkAll ds ≤ 1048576)
def OpenSpec.upto (s : _root_.Go.ChangeSpec) : _root_.Go.OpenSpec := { _root_.Go.OpenSpec.ofChange s with cond := some uptoSmall }

/-- 'proofprogramslaw23.ContentExact', WHERE WHAT IT READS IS OF BULK AT MOST 1048576: true; the input reads as it did. -/
def contentExactUptoRow : OpenClaim := { program := "ytdihelfnjememaadoor", sum := "6c78ab9625b1e7b72421f6c00194f1cf751dda3cdc05ab657beb3f325332fc9f", func := "proofprograms/proofprogramslaw23.ContentExact", spec := "contentExact", recurses := true, named := ["proofprograms/tree.arities"], loops := true, apart := false, laid := [("proofprograms/tree.arities", laid_proofprograms_tree_arities)], narrowed := true }
def ContentExactUptoSaid : Prop := contentExactUptoRow.holds Tryd.pinned (OpenSpec.upto contentExactSpec)

/-- 'proofprogramslaw23.ContentKeeps', WHERE WHAT IT READS IS OF BULK AT MOST 1048576: true; the input reads as it did. -/
def contentKeepsUptoRow : OpenClaim := { program := "ytdihelfnjememaadoor", sum := "6c78ab9625b1e7b72421f6c00194f1cf751dda3cdc05ab657beb3f325332fc9f", func := "proofprograms/proofprogramslaw23.ContentKeeps", spec := "contentKeeps", recurses := true, named := ["proofprograms/tree.arities"], apart := false, laid := [("proofprograms/tree.arities", laid_proofprograms_tree_arities)], narrowed := true }
def ContentKeepsUptoSaid : Prop := contentKeepsUptoRow.holds Tryd.pinned (OpenSpec.upto contentKeepsSpec)

/-- 'proofprogramslaw23.ContentNone', WHERE WHAT IT READS IS OF BULK AT MOST 1048576: true; the input reads as it did. -/
def contentNoneUptoRow : OpenClaim := { program := "ytdihelfnjememaadoor", sum := "6c78ab9625b1e7b72421f6c00194f1cf751dda3cdc05ab657beb3f325332fc9f", func := "proofprograms/proofprogramslaw23.ContentNone", spec := "contentNone", recurses := true, named := ["proofprograms/tree.arities"], apart := false, laid := [("proofprograms/tree.arities", laid_proofprograms_tree_arities)], narrowed := true }
def ContentNoneUptoSaid : Prop := contentNoneUptoRow.holds Tryd.pinned (OpenSpec.upto contentNoneSpec)

/-- 'proofprogramslaw23.ContentUniform', WHERE WHAT IT READS IS OF BULK AT MOST 1048576: true; the input reads as it did. -/
def contentUniformUptoRow : OpenClaim := { program := "ytdihelfnjememaadoor", sum := "6c78ab9625b1e7b72421f6c00194f1cf751dda3cdc05ab657beb3f325332fc9f", func := "proofprograms/proofprogramslaw23.ContentUniform", spec := "contentUniform", recurses := true, named := ["proofprograms/tree.arities"], apart := false, laid := [("proofprograms/tree.arities", laid_proofprograms_tree_arities)], narrowed := true }
def ContentUniformUptoSaid : Prop := contentUniformUptoRow.holds Tryd.pinned (OpenSpec.upto contentUniformSpec)

end Rows
end Go.Proofs.YtdihelfnjememaaDoor
