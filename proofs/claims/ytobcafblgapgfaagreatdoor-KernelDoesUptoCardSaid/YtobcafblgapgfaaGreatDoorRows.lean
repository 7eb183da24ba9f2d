/-
  NARROWER THAN 'FOR EVERY INPUT', by the rows' own cells (each row's printed sentence says how): KernelDoes: loops, laid · KernelLifts: laid · KernelUniform: laid · KernelAccepts: loops, laid · KernelTyped: laid · KernelPuts: laid · KernelCuts: laid · KernelRefuses: laid · KernelChoice: laid.
  DERIVED. THE GIVEN ROWS OF THIS SEAT. 9 by the template 'for every input the law returns true; each argument reads behind the call as it read before'; 0 by the template 'total and deterministic' (their statements: YtobcafblgapgfaaGreatDoorTotals.lean).
  GIVEN WITH THE SEED: the statements are not yours to turn. If you find one false, say at which input.
  Laid BY PROGRAM, IN A SANDBOX (cutbox-rows.mjs): the forced cells as the released guide's own fill.sh prints them over the translation d1f85b67ab5374b8… (all of the seat's roots in one cut). By AI agents, Wed Nov 11 2026. No macro, syntax, notation, axiom, sorry.
-/
import Derived.Test.YtobcafblgapgfaaGreatDoorChecked
import GoSem.Claim
import GoSem.ClaimJoined
import GoSem.ClaimMapViews
import Derived.JoinedTies
import Derived.KernelRfl
namespace Go.Proofs.YtobcafblgapgfaaGreatDoor
/- THE CELL 'sum', in the pinned program and in every row, IS THE sha256 OF THE DUMP (.gsa) THAT YtobcafblgapgfaaGreatDoorProg.lean LOADS. Nothing in Lean hashes anything: it is a label: what it is worth is what the hold of that sum in a sandbox is worth. -/
noncomputable def Tryz.pinned : Pinned := { name := "ytobcafblgapgfaagreatdoor", sum := "d1f85b67ab5374b85d724e989718d30ff2c0ade9d995e4748908992e121ddf02", checked := Tryz.checked }
namespace Rows
def none {H : Type} : Left H := { results := [], args := [] }

/- WHAT THE LISTED PACKAGE-LEVEL VARIABLES READ AS WHEN THE CALL BEGINS. Each datum BY PROGRAM (the guide's laid-datum.mjs) off the statement by which the dump's own 'gosem.cut.vars' lays the variable. In a bare row this is a premise. The card (YtobcafblgapgfaaGreatDoorCards.lean) ties it to the program's text. -/
def laid_math_bits_deBruijn32tab {H : Type} : DataW H := .agg [.lit (.int .u8 0), .lit (.int .u8 1), .lit (.int .u8 28), .lit (.int .u8 2), .lit (.int .u8 29), .lit (.int .u8 14), .lit (.int .u8 24), .lit (.int .u8 3), .lit (.int .u8 30), .lit (.int .u8 22), .lit (.int .u8 20), .lit (.int .u8 15), .lit (.int .u8 25), .lit (.int .u8 17), .lit (.int .u8 4), .lit (.int .u8 8), .lit (.int .u8 31), .lit (.int .u8 27), .lit (.int .u8 13), .lit (.int .u8 23), .lit (.int .u8 21), .lit (.int .u8 19), .lit (.int .u8 16), .lit (.int .u8 7), .lit (.int .u8 26), .lit (.int .u8 12), .lit (.int .u8 18), .lit (.int .u8 6), .lit (.int .u8 11), .lit (.int .u8 5), .lit (.int .u8 10), .lit (.int .u8 9)]
def laid_proofprograms_tree_rules {H : Type} : DataW H := .agg [.agg [.lit (.bool false), .lit (.bool false), .lit (.int .i64 0), .lit (.int .i64 0), .lit (.int .i64 0), .lit (.int .i64 0), .lit (.int .i64 0), .lit (.int .i64 0)], .agg [.lit (.bool true), .lit (.bool false), .lit (.int .i64 0), .lit (.int .i64 0), .lit (.int .i64 0), .lit (.int .i64 0), .lit (.int .i64 0), .lit (.int .i64 0)], .agg [.lit (.bool true), .lit (.bool false), .lit (.int .i64 0), .lit (.int .i64 0), .lit (.int .i64 0), .lit (.int .i64 0), .lit (.int .i64 0), .lit (.int .i64 0)], .agg [.lit (.bool false), .lit (.bool false), .lit (.int .i64 0), .lit (.int .i64 0), .lit (.int .i64 2), .lit (.int .i64 0), .lit (.int .i64 0), .lit (.int .i64 0)], .agg [.lit (.bool false), .lit (.bool false), .lit (.int .i64 0), .lit (.int .i64 0), .lit (.int .i64 1), .lit (.int .i64 0), .lit (.int .i64 0), .lit (.int .i64 0)], .agg [.lit (.bool false), .lit (.bool false), .lit (.int .i64 0), .lit (.int .i64 0), .lit (.int .i64 1), .lit (.int .i64 0), .lit (.int .i64 0), .lit (.int .i64 0)], .agg [.lit (.bool false), .lit (.bool false), .lit (.int .i64 0), .lit (.int .i64 1), .lit (.int .i64 1), .lit (.int .i64 0), .lit (.int .i64 0), .lit (.int .i64 1)], .agg [.lit (.bool false), .lit (.bool false), .lit (.int .i64 0), .lit (.int .i64 0), .lit (.int .i64 2), .lit (.int .i64 0), .lit (.int .i64 0), .lit (.int .i64 0)], .agg [.lit (.bool false), .lit (.bool true), .lit (.int .i64 0), .lit (.int .i64 0), .lit (.int .i64 1), .lit (.int .i64 0), .lit (.int .i64 1), .lit (.int .i64 0)], .agg [.lit (.bool false), .lit (.bool false), .lit (.int .i64 1), .lit (.int .i64 0), .lit (.int .i64 1), .lit (.int .i64 0), .lit (.int .i64 0), .lit (.int .i64 0)], .agg [.lit (.bool false), .lit (.bool false), .lit (.int .i64 1), .lit (.int .i64 1), .lit (.int .i64 1), .lit (.int .i64 0), .lit (.int .i64 0), .lit (.int .i64 0)], .agg [.lit (.bool false), .lit (.bool false), .lit (.int .i64 0), .lit (.int .i64 0), .lit (.int .i64 2), .lit (.int .i64 0), .lit (.int .i64 1), .lit (.int .i64 1)], .agg [.lit (.bool false), .lit (.bool true), .lit (.int .i64 0), .lit (.int .i64 0), .lit (.int .i64 1), .lit (.int .i64 0), .lit (.int .i64 1), .lit (.int .i64 0)], .agg [.lit (.bool false), .lit (.bool false), .lit (.int .i64 1), .lit (.int .i64 0), .lit (.int .i64 1), .lit (.int .i64 0), .lit (.int .i64 0), .lit (.int .i64 0)], .agg [.lit (.bool false), .lit (.bool false), .lit (.int .i64 1), .lit (.int .i64 1), .lit (.int .i64 1), .lit (.int .i64 0), .lit (.int .i64 0), .lit (.int .i64 0)], .agg [.lit (.bool false), .lit (.bool false), .lit (.int .i64 0), .lit (.int .i64 0), .lit (.int .i64 2), .lit (.int .i64 0), .lit (.int .i64 1), .lit (.int .i64 1)], .agg [.lit (.bool false), .lit (.bool false), .lit (.int .i64 1), .lit (.int .i64 1), .lit (.int .i64 2), .lit (.int .i64 1), .lit (.int .i64 1), .lit (.int .i64 1)], .agg [.lit (.bool false), .lit (.bool false), .lit (.int .i64 1), .lit (.int .i64 1), .lit (.int .i64 2), .lit (.int .i64 1), .lit (.int .i64 2), .lit (.int .i64 1)], .agg [.lit (.bool false), .lit (.bool false), .lit (.int .i64 1), .lit (.int .i64 0), .lit (.int .i64 0), .lit (.int .i64 0), .lit (.int .i64 0), .lit (.int .i64 0)], .agg [.lit (.bool false), .lit (.bool false), .lit (.int .i64 0), .lit (.int .i64 1), .lit (.int .i64 2), .lit (.int .i64 1), .lit (.int .i64 0), .lit (.int .i64 0)], .agg [.lit (.bool false), .lit (.bool false), .lit (.int .i64 0), .lit (.int .i64 0), .lit (.int .i64 1), .lit (.int .i64 0), .lit (.int .i64 0), .lit (.int .i64 0)]]
def laid_proofprograms_tree_arities {H : Type} : DataW H := .agg [.lit (.int .i64 0), .lit (.int .i64 0), .lit (.int .i64 1), .lit (.int .i64 2), .lit (.int .i64 0), .lit (.int .i64 1), .lit (.int .i64 3), .lit (.int .i64 0), .lit (.int .i64 2), .lit (.int .i64 3), .lit (.int .i64 2), .lit (.int .i64 1), .lit (.int .i64 1), .lit (.int .i64 0)]

/-- 'proofprogramslaw11.KernelDoes': WHATEVER THE INPUT: true; the input reads as it did. -/
def kernelDoesSpec : ChangeSpec := { name := "kernelDoes", fn := fun _ => fun
  | [d1, d2, d3, d4] => { results := [.lit (.bool true)], args := [d1, d2, d3, d4] }
  | _ => none }
def kernelDoesRow : OpenClaim := { program := "ytobcafblgapgfaagreatdoor", sum := "d1f85b67ab5374b85d724e989718d30ff2c0ade9d995e4748908992e121ddf02", func := "proofprograms/proofprogramslaw11.KernelDoes", spec := "kernelDoes", unfollowed := true, recurses := true, named := ["proofprograms/tree.arities", "proofprograms/tree.rules", "math/bits.deBruijn32tab"], loops := true, apart := false, laid := [("math/bits.deBruijn32tab", laid_math_bits_deBruijn32tab), ("proofprograms/tree.rules", laid_proofprograms_tree_rules), ("proofprograms/tree.arities", laid_proofprograms_tree_arities)] }
def KernelDoesSaid : Prop := kernelDoesRow.holds Tryz.pinned (OpenSpec.ofChange kernelDoesSpec)

/-- ITS FALSE NEIGHBOUR: 'it returns false'. Refute it at one input. -/
def kernelDoesWrong : ChangeSpec := { name := "kernelDoes", fn := fun _ => fun
  | [d1, d2, d3, d4] => { results := [.lit (.bool false)], args := [d1, d2, d3, d4] }
  | _ => none }
def KernelDoesWrongFalsely : Prop := kernelDoesRow.holds Tryz.pinned (OpenSpec.ofChange kernelDoesWrong)

/-- 'proofprogramslaw11.KernelLifts': WHATEVER THE INPUT: true; the input reads as it did. -/
def kernelLiftsSpec : ChangeSpec := { name := "kernelLifts", fn := fun _ => fun
  | [d] => { results := [.lit (.bool true)], args := [d] }
  | _ => none }
def kernelLiftsRow : OpenClaim := { program := "ytobcafblgapgfaagreatdoor", sum := "d1f85b67ab5374b85d724e989718d30ff2c0ade9d995e4748908992e121ddf02", func := "proofprograms/proofprogramslaw11.KernelLifts", spec := "kernelLifts", unfollowed := true, recurses := true, named := ["proofprograms/tree.arities", "proofprograms/tree.rules", "math/bits.deBruijn32tab"], apart := false, laid := [("math/bits.deBruijn32tab", laid_math_bits_deBruijn32tab), ("proofprograms/tree.rules", laid_proofprograms_tree_rules), ("proofprograms/tree.arities", laid_proofprograms_tree_arities)] }
def KernelLiftsSaid : Prop := kernelLiftsRow.holds Tryz.pinned (OpenSpec.ofChange kernelLiftsSpec)

/-- ITS FALSE NEIGHBOUR: 'it returns false'. Refute it at one input. -/
def kernelLiftsWrong : ChangeSpec := { name := "kernelLifts", fn := fun _ => fun
  | [d] => { results := [.lit (.bool false)], args := [d] }
  | _ => none }
def KernelLiftsWrongFalsely : Prop := kernelLiftsRow.holds Tryz.pinned (OpenSpec.ofChange kernelLiftsWrong)

/-- 'proofprogramslaw11.KernelUniform': WHATEVER THE INPUT: true; the input reads as it did. -/
def kernelUniformSpec : ChangeSpec := { name := "kernelUniform", fn := fun _ => fun
  | [d] => { results := [.lit (.bool true)], args := [d] }
  | _ => none }
def kernelUniformRow : OpenClaim := { program := "ytobcafblgapgfaagreatdoor", sum := "d1f85b67ab5374b85d724e989718d30ff2c0ade9d995e4748908992e121ddf02", func := "proofprograms/proofprogramslaw11.KernelUniform", spec := "kernelUniform", unfollowed := true, recurses := true, named := ["proofprograms/tree.arities", "proofprograms/tree.rules", "math/bits.deBruijn32tab"], apart := false, laid := [("math/bits.deBruijn32tab", laid_math_bits_deBruijn32tab), ("proofprograms/tree.rules", laid_proofprograms_tree_rules), ("proofprograms/tree.arities", laid_proofprograms_tree_arities)] }
def KernelUniformSaid : Prop := kernelUniformRow.holds Tryz.pinned (OpenSpec.ofChange kernelUniformSpec)

/-- ITS FALSE NEIGHBOUR: 'it returns false'. Refute it at one input. -/
def kernelUniformWrong : ChangeSpec := { name := "kernelUniform", fn := fun _ => fun
  | [d] => { results := [.lit (.bool false)], args := [d] }
  | _ => none }
def KernelUniformWrongFalsely : Prop := kernelUniformRow.holds Tryz.pinned (OpenSpec.ofChange kernelUniformWrong)

/-- 'proofprogramslaw11.KernelAccepts': WHATEVER THE INPUT: true; the input reads as it did. -/
def kernelAcceptsSpec : ChangeSpec := { name := "kernelAccepts", fn := fun _ => fun
  | [d1, d2] => { results := [.lit (.bool true)], args := [d1, d2] }
  | _ => none }
def kernelAcceptsRow : OpenClaim := { program := "ytobcafblgapgfaagreatdoor", sum := "d1f85b67ab5374b85d724e989718d30ff2c0ade9d995e4748908992e121ddf02", func := "proofprograms/proofprogramslaw11.KernelAccepts", spec := "kernelAccepts", unfollowed := true, recurses := true, named := ["proofprograms/tree.arities", "proofprograms/tree.rules", "math/bits.deBruijn32tab"], loops := true, apart := false, laid := [("math/bits.deBruijn32tab", laid_math_bits_deBruijn32tab), ("proofprograms/tree.rules", laid_proofprograms_tree_rules), ("proofprograms/tree.arities", laid_proofprograms_tree_arities)] }
def KernelAcceptsSaid : Prop := kernelAcceptsRow.holds Tryz.pinned (OpenSpec.ofChange kernelAcceptsSpec)

/-- ITS FALSE NEIGHBOUR: 'it returns false'. Refute it at one input. -/
def kernelAcceptsWrong : ChangeSpec := { name := "kernelAccepts", fn := fun _ => fun
  | [d1, d2] => { results := [.lit (.bool false)], args := [d1, d2] }
  | _ => none }
def KernelAcceptsWrongFalsely : Prop := kernelAcceptsRow.holds Tryz.pinned (OpenSpec.ofChange kernelAcceptsWrong)

/-- 'proofprogramslaw11.KernelTyped': WHATEVER THE INPUT: true; the input reads as it did. -/
def kernelTypedSpec : ChangeSpec := { name := "kernelTyped", fn := fun _ => fun
  | [d] => { results := [.lit (.bool true)], args := [d] }
  | _ => none }
def kernelTypedRow : OpenClaim := { program := "ytobcafblgapgfaagreatdoor", sum := "d1f85b67ab5374b85d724e989718d30ff2c0ade9d995e4748908992e121ddf02", func := "proofprograms/proofprogramslaw11.KernelTyped", spec := "kernelTyped", unfollowed := true, recurses := true, named := ["proofprograms/tree.arities", "proofprograms/tree.rules", "math/bits.deBruijn32tab"], apart := false, laid := [("math/bits.deBruijn32tab", laid_math_bits_deBruijn32tab), ("proofprograms/tree.rules", laid_proofprograms_tree_rules), ("proofprograms/tree.arities", laid_proofprograms_tree_arities)] }
def KernelTypedSaid : Prop := kernelTypedRow.holds Tryz.pinned (OpenSpec.ofChange kernelTypedSpec)

/-- ITS FALSE NEIGHBOUR: 'it returns false'. Refute it at one input. -/
def kernelTypedWrong : ChangeSpec := { name := "kernelTyped", fn := fun _ => fun
  | [d] => { results := [.lit (.bool false)], args := [d] }
  | _ => none }
def KernelTypedWrongFalsely : Prop := kernelTypedRow.holds Tryz.pinned (OpenSpec.ofChange kernelTypedWrong)

/-- 'proofprogramslaw11.KernelPuts': WHATEVER THE INPUT: true; the input reads as it did. -/
def kernelPutsSpec : ChangeSpec := { name := "kernelPuts", fn := fun _ => fun
  | [d] => { results := [.lit (.bool true)], args := [d] }
  | _ => none }
def kernelPutsRow : OpenClaim := { program := "ytobcafblgapgfaagreatdoor", sum := "d1f85b67ab5374b85d724e989718d30ff2c0ade9d995e4748908992e121ddf02", func := "proofprograms/proofprogramslaw11.KernelPuts", spec := "kernelPuts", unfollowed := true, recurses := true, named := ["proofprograms/tree.arities", "proofprograms/tree.rules", "math/bits.deBruijn32tab"], apart := false, laid := [("math/bits.deBruijn32tab", laid_math_bits_deBruijn32tab), ("proofprograms/tree.rules", laid_proofprograms_tree_rules), ("proofprograms/tree.arities", laid_proofprograms_tree_arities)] }
def KernelPutsSaid : Prop := kernelPutsRow.holds Tryz.pinned (OpenSpec.ofChange kernelPutsSpec)

/-- ITS FALSE NEIGHBOUR: 'it returns false'. Refute it at one input. -/
def kernelPutsWrong : ChangeSpec := { name := "kernelPuts", fn := fun _ => fun
  | [d] => { results := [.lit (.bool false)], args := [d] }
  | _ => none }
def KernelPutsWrongFalsely : Prop := kernelPutsRow.holds Tryz.pinned (OpenSpec.ofChange kernelPutsWrong)

/-- 'proofprogramslaw11.KernelCuts': WHATEVER THE INPUT: true; the input reads as it did. -/
def kernelCutsSpec : ChangeSpec := { name := "kernelCuts", fn := fun _ => fun
  | [d] => { results := [.lit (.bool true)], args := [d] }
  | _ => none }
def kernelCutsRow : OpenClaim := { program := "ytobcafblgapgfaagreatdoor", sum := "d1f85b67ab5374b85d724e989718d30ff2c0ade9d995e4748908992e121ddf02", func := "proofprograms/proofprogramslaw11.KernelCuts", spec := "kernelCuts", unfollowed := true, recurses := true, named := ["proofprograms/tree.arities", "proofprograms/tree.rules", "math/bits.deBruijn32tab"], apart := false, laid := [("math/bits.deBruijn32tab", laid_math_bits_deBruijn32tab), ("proofprograms/tree.rules", laid_proofprograms_tree_rules), ("proofprograms/tree.arities", laid_proofprograms_tree_arities)] }
def KernelCutsSaid : Prop := kernelCutsRow.holds Tryz.pinned (OpenSpec.ofChange kernelCutsSpec)

/-- ITS FALSE NEIGHBOUR: 'it returns false'. Refute it at one input. -/
def kernelCutsWrong : ChangeSpec := { name := "kernelCuts", fn := fun _ => fun
  | [d] => { results := [.lit (.bool false)], args := [d] }
  | _ => none }
def KernelCutsWrongFalsely : Prop := kernelCutsRow.holds Tryz.pinned (OpenSpec.ofChange kernelCutsWrong)

/-- 'proofprogramslaw11.KernelRefuses': WHATEVER THE INPUT: true; the input reads as it did. -/
def kernelRefusesSpec : ChangeSpec := { name := "kernelRefuses", fn := fun _ => fun
  | [d] => { results := [.lit (.bool true)], args := [d] }
  | _ => none }
def kernelRefusesRow : OpenClaim := { program := "ytobcafblgapgfaagreatdoor", sum := "d1f85b67ab5374b85d724e989718d30ff2c0ade9d995e4748908992e121ddf02", func := "proofprograms/proofprogramslaw11.KernelRefuses", spec := "kernelRefuses", unfollowed := true, recurses := true, named := ["proofprograms/tree.arities", "proofprograms/tree.rules", "math/bits.deBruijn32tab"], apart := false, laid := [("math/bits.deBruijn32tab", laid_math_bits_deBruijn32tab), ("proofprograms/tree.rules", laid_proofprograms_tree_rules), ("proofprograms/tree.arities", laid_proofprograms_tree_arities)] }
def KernelRefusesSaid : Prop := kernelRefusesRow.holds Tryz.pinned (OpenSpec.ofChange kernelRefusesSpec)

/-- ITS FALSE NEIGHBOUR: 'it returns false'. Refute it at one input. -/
def kernelRefusesWrong : ChangeSpec := { name := "kernelRefuses", fn := fun _ => fun
  | [d] => { results := [.lit (.bool false)], args := [d] }
  | _ => none }
def KernelRefusesWrongFalsely : Prop := kernelRefusesRow.holds Tryz.pinned (OpenSpec.ofChange kernelRefusesWrong)

/-- 'proofprogramslaw11.KernelChoice': WHATEVER THE INPUT: true; the input reads as it did. -/
def kernelChoiceSpec : ChangeSpec := { name := "kernelChoice", fn := fun _ => fun
  | [d] => { results := [.lit (.bool true)], args := [d] }
  | _ => none }
def kernelChoiceRow : OpenClaim := { program := "ytobcafblgapgfaagreatdoor", sum := "d1f85b67ab5374b85d724e989718d30ff2c0ade9d995e4748908992e121ddf02", func := "proofprograms/proofprogramslaw11.KernelChoice", spec := "kernelChoice", unfollowed := true, recurses := true, named := ["proofprograms/tree.arities", "proofprograms/tree.rules", "math/bits.deBruijn32tab"], apart := false, laid := [("math/bits.deBruijn32tab", laid_math_bits_deBruijn32tab), ("proofprograms/tree.rules", laid_proofprograms_tree_rules), ("proofprograms/tree.arities", laid_proofprograms_tree_arities)] }
def KernelChoiceSaid : Prop := kernelChoiceRow.holds Tryz.pinned (OpenSpec.ofChange kernelChoiceSpec)

/-- ITS FALSE NEIGHBOUR: 'it returns false'. Refute it at one input. -/
def kernelChoiceWrong : ChangeSpec := { name := "kernelChoice", fn := fun _ => fun
  | [d] => { results := [.lit (.bool false)], args := [d] }
  | _ => none }
def KernelChoiceWrongFalsely : Prop := kernelChoiceRow.holds Tryz.pinned (OpenSpec.ofChange kernelChoiceWrong)

/- THE SECOND FORM. 'bulk': how many values and letters a reading holds, each counted each time it is reached (what is shared counts as often as it is met; a slice's spare places count too). A statement '..UptoSaid' is the law's where the arguments, and the package variables that the reading takes, are together of bulk at most 1048576: NARROWER than '..Said'. Prove '..Said' where nothing that the law and all that it calls make is longer than what came in: it says more and counts as full. Else prove '..UptoSaid'. A law counts once. -/
mutual
def uptoBulk {H : Type} : DataW H → Nat
  | .lit (.string bytes) => bytes.length + 1
  | .lit _ => 1
  | .nil => 1
  | .ptr d => uptoBulk d + 1
  | .slice elems spare => uptoBulkAll elems + uptoBulkAll spare + 1
  | .agg parts => uptoBulkAll parts + 1
  | .iface _ d => uptoBulk d + 1
  | .map entries => uptoBulkEntries entries + 1
  | .held _ => 1
def uptoBulkAll {H : Type} : List (DataW H) → Nat
  | [] => 0
  | d :: r => uptoBulk d + uptoBulkAll r
def uptoBulkEntries {H : Type} : List (Lit × DataW H) → Nat
  | [] => 0
  | x :: r => uptoBulkEntry x + uptoBulkEntries r
def uptoBulkEntry {H : Type} : Lit × DataW H → Nat
  | (.string bytes, d) => bytes.length + uptoBulk d + 1
  | (_, d) => uptoBulk d + 1
 end
def uptoSmall : (H : Type) → List (DataW H) → Bool := fun _ ds => decide (uptoBulkAll ds ≤ 1048576)
def OpenSpec.upto (s : _root_.Go.ChangeSpec) : _root_.Go.OpenSpec := { _root_.Go.OpenSpec.ofChange s with cond := some uptoSmall }

/-- 'proofprogramslaw11.KernelDoes', WHERE WHAT IT READS IS OF BULK AT MOST 1048576: true; the input reads as it did. -/
def kernelDoesUptoRow : OpenClaim := { program := "ytobcafblgapgfaagreatdoor", sum := "d1f85b67ab5374b85d724e989718d30ff2c0ade9d995e4748908992e121ddf02", func := "proofprograms/proofprogramslaw11.KernelDoes", spec := "kernelDoes", unfollowed := true, recurses := true, named := ["proofprograms/tree.arities", "proofprograms/tree.rules", "math/bits.deBruijn32tab"], loops := true, apart := false, laid := [("math/bits.deBruijn32tab", laid_math_bits_deBruijn32tab), ("proofprograms/tree.rules", laid_proofprograms_tree_rules), ("proofprograms/tree.arities", laid_proofprograms_tree_arities)], narrowed := true }
def KernelDoesUptoSaid : Prop := kernelDoesUptoRow.holds Tryz.pinned (OpenSpec.upto kernelDoesSpec)

/-- 'proofprogramslaw11.KernelLifts', WHERE WHAT IT READS IS OF BULK AT MOST 1048576: true; the input reads as it did. -/
def kernelLiftsUptoRow : OpenClaim := { program := "ytobcafblgapgfaagreatdoor", sum := "d1f85b67ab5374b85d724e989718d30ff2c0ade9d995e4748908992e121ddf02", func := "proofprograms/proofprogramslaw11.KernelLifts", spec := "kernelLifts", unfollowed := true, recurses := true, named := ["proofprograms/tree.arities", "proofprograms/tree.rules", "math/bits.deBruijn32tab"], apart := false, laid := [("math/bits.deBruijn32tab", laid_math_bits_deBruijn32tab), ("proofprograms/tree.rules", laid_proofprograms_tree_rules), ("proofprograms/tree.arities", laid_proofprograms_tree_arities)], narrowed := true }
def KernelLiftsUptoSaid : Prop := kernelLiftsUptoRow.holds Tryz.pinned (OpenSpec.upto kernelLiftsSpec)

/-- 'proofprogramslaw11.KernelUniform', WHERE WHAT IT READS IS OF BULK AT MOST 1048576: true; the input reads as it did. -/
def kernelUniformUptoRow : OpenClaim := { program := "ytobcafblgapgfaagreatdoor", sum := "d1f85b67ab5374b85d724e989718d30ff2c0ade9d995e4748908992e121ddf02", func := "proofprograms/proofprogramslaw11.KernelUniform", spec := "kernelUniform", unfollowed := true, recurses := true, named := ["proofprograms/tree.arities", "proofprograms/tree.rules", "math/bits.deBruijn32tab"], apart := false, laid := [("math/bits.deBruijn32tab", laid_math_bits_deBruijn32tab), ("proofprograms/tree.rules", laid_proofprograms_tree_rules), ("proofprograms/tree.arities", laid_proofprograms_tree_arities)], narrowed := true }
def KernelUniformUptoSaid : Prop := kernelUniformUptoRow.holds Tryz.pinned (OpenSpec.upto kernelUniformSpec)

/-- 'proofprogramslaw11.KernelAccepts', WHERE WHAT IT READS IS OF BULK AT MOST 1048576: true; the input reads as it did. -/
def kernelAcceptsUptoRow : OpenClaim := { program := "ytobcafblgapgfaagreatdoor", sum := "d1f85b67ab5374b85d724e989718d30ff2c0ade9d995e4748908992e121ddf02", func := "proofprograms/proofprogramslaw11.KernelAccepts", spec := "kernelAccepts", unfollowed := true, recurses := true, named := ["proofprograms/tree.arities", "proofprograms/tree.rules", "math/bits.deBruijn32tab"], loops := true, apart := false, laid := [("math/bits.deBruijn32tab", laid_math_bits_deBruijn32tab), ("proofprograms/tree.rules", laid_proofprograms_tree_rules), ("proofprograms/tree.arities", laid_proofprograms_tree_arities)], narrowed := true }
def KernelAcceptsUptoSaid : Prop := kernelAcceptsUptoRow.holds Tryz.pinned (OpenSpec.upto kernelAcceptsSpec)

/-- 'proofprogramslaw11.KernelTyped', WHERE WHAT IT READS IS OF BULK AT MOST 1048576: true; the input reads as it did. -/
def kernelTypedUptoRow : OpenClaim := { program := "ytobcafblgapgfaagreatdoor", sum := "d1f85b67ab5374b85d724e989718d30ff2c0ade9d995e4748908992e121ddf02", func := "proofprograms/proofprogramslaw11.KernelTyped", spec := "kernelTyped", unfollowed := true, recurses := true, named := ["proofprograms/tree.arities", "proofprograms/tree.rules", "math/bits.deBruijn32tab"], apart := false, laid := [("math/bits.deBruijn32tab", laid_math_bits_deBruijn32tab), ("proofprograms/tree.rules", laid_proofprograms_tree_rules), ("proofprograms/tree.arities", laid_proofprograms_tree_arities)], narrowed := true }
def KernelTypedUptoSaid : Prop := kernelTypedUptoRow.holds Tryz.pinned (OpenSpec.upto kernelTypedSpec)

/-- 'proofprogramslaw11.KernelPuts', WHERE WHAT IT READS IS OF BULK AT MOST 1048576: true; the input reads as it did. -/
def kernelPutsUptoRow : OpenClaim := { program := "ytobcafblgapgfaagreatdoor", sum := "d1f85b67ab5374b85d724e989718d30ff2c0ade9d995e4748908992e121ddf02", func := "proofprograms/proofprogramslaw11.KernelPuts", spec := "kernelPuts", unfollowed := true, recurses := true, named := ["proofprograms/tree.arities", "proofprograms/tree.rules", "math/bits.deBruijn32tab"], apart := false, laid := [("math/bits.deBruijn32tab", laid_math_bits_deBruijn32tab), ("proofprograms/tree.rules", laid_proofprograms_tree_rules), ("proofprograms/tree.arities", laid_proofprograms_tree_arities)], narrowed := true }
def KernelPutsUptoSaid : Prop := kernelPutsUptoRow.holds Tryz.pinned (OpenSpec.upto kernelPutsSpec)

/-- 'proofprogramslaw11.KernelCuts', WHERE WHAT IT READS IS OF BULK AT MOST 1048576: true; the input reads as it did. -/
def kernelCutsUptoRow : OpenClaim := { program := "ytobcafblgapgfaagreatdoor", sum := "d1f85b67ab5374b85d724e989718d30ff2c0ade9d995e4748908992e121ddf02", func := "proofprograms/proofprogramslaw11.KernelCuts", spec := "kernelCuts", unfollowed := true, recurses := true, named := ["proofprograms/tree.arities", "proofprograms/tree.rules", "math/bits.deBruijn32tab"], apart := false, laid := [("math/bits.deBruijn32tab", laid_math_bits_deBruijn32tab), ("proofprograms/tree.rules", laid_proofprograms_tree_rules), ("proofprograms/tree.arities", laid_proofprograms_tree_arities)], narrowed := true }
def KernelCutsUptoSaid : Prop := kernelCutsUptoRow.holds Tryz.pinned (OpenSpec.upto kernelCutsSpec)

/-- 'proofprogramslaw11.KernelRefuses', WHERE WHAT IT READS IS OF BULK AT MOST 1048576: true; the input reads as it did. -/
def kernelRefusesUptoRow : OpenClaim := { program := "ytobcafblgapgfaagreatdoor", sum := "d1f85b67ab5374b85d724e989718d30ff2c0ade9d995e4748908992e121ddf02", func := "proofprograms/proofprogramslaw11.KernelRefuses", spec := "kernelRefuses", unfollowed := true, recurses := true, named := ["proofprograms/tree.arities", "proofprograms/tree.rules", "math/bits.deBruijn32tab"], apart := false, laid := [("math/bits.deBruijn32tab", laid_math_bits_deBruijn32tab), ("proofprograms/tree.rules", laid_proofprograms_tree_rules), ("proofprograms/tree.arities", laid_proofprograms_tree_arities)], narrowed := true }
def KernelRefusesUptoSaid : Prop := kernelRefusesUptoRow.holds Tryz.pinned (OpenSpec.upto kernelRefusesSpec)

/-- 'proofprogramslaw11.KernelChoice', WHERE WHAT IT READS IS OF BULK AT MOST 1048576: true; the input reads as it did. -/
def kernelChoiceUptoRow : OpenClaim := { program := "ytobcafblgapgfaagreatdoor", sum := "d1f85b67ab5374b85d724e989718d30ff2c0ade9d995e4748908992e121ddf02", func := "proofprograms/proofprogramslaw11.KernelChoice", spec := "kernelChoice", unfollowed := true, recurses := true, named := ["proofprograms/tree.arities", "proofprograms/tree.rules", "math/bits.deBruijn32tab"], apart := false, laid := [("math/bits.deBruijn32tab", laid_math_bits_deBruijn32tab), ("proofprograms/tree.rules", laid_proofprograms_tree_rules), ("proofprograms/tree.arities", laid_proofprograms_tree_arities)], narrowed := true }
def KernelChoiceUptoSaid : Prop := kernelChoiceUptoRow.holds Tryz.pinned (OpenSpec.upto kernelChoiceSpec)

end Rows
end Go.Proofs.YtobcafblgapgfaaGreatDoor
