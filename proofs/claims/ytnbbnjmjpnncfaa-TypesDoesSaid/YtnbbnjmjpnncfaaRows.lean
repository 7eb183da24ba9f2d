/-
  NARROWER THAN 'FOR EVERY INPUT', by the rows' own cells (each row's printed sentence says how): TypesDoes: loops.
  DERIVED. THE GIVEN ROWS OF THIS SEAT. 3 by the template 'for every input the law returns true; each argument reads behind the call as it read before'; 0 by the template 'total and deterministic' (their statements: YtnbbnjmjpnncfaaTotals.lean).
  GIVEN WITH THE SEED: the statements are not yours to turn. If you find one false, say at which input.
  Laid BY PROGRAM, IN A SANDBOX (cutbox-rows.mjs): the forced cells as the released guide's own fill.sh prints them over the translation 638e9575ca38317c… (all of the seat's roots in one cut). By AI agents, Wed Nov 11 2026. No macro, syntax, notation, axiom, sorry.
-/
import Derived.Test.YtnbbnjmjpnncfaaChecked
import GoSem.Claim
import GoSem.ClaimJoined
import GoSem.ClaimMapViews
import Derived.JoinedTies
import Derived.KernelRfl
namespace Go.Proofs.Ytnbbnjmjpnncfaa
/- THE CELL 'sum', in the pinned program and in every row, IS THE sha256 OF THE DUMP (.gsa) THAT YtnbbnjmjpnncfaaProg.lean LOADS. Nothing in Lean hashes anything: it is a label: what it is worth is what the hold of that sum in a sandbox is worth. -/
noncomputable def Try.pinned : Pinned := { name := "ytnbbnjmjpnncfaa", sum := "638e9575ca38317cf4a0aa670ee5cd15e5a085a359354e67c7218bc98b5ed4e1", checked := Try.checked }
namespace Rows
def none {H : Type} : Left H := { results := [], args := [] }

/-- 'proofprogramslaw01.TypesLevels': WHATEVER THE INPUT: true; the input reads as it did. -/
def typesLevelsSpec : ChangeSpec := { name := "typesLevels", fn := fun _ => fun
  | [d] => { results := [.lit (.bool true)], args := [d] }
  | _ => none }
def typesLevelsRow : OpenClaim := { program := "ytnbbnjmjpnncfaa", sum := "638e9575ca38317cf4a0aa670ee5cd15e5a085a359354e67c7218bc98b5ed4e1", func := "proofprograms/proofprogramslaw01.TypesLevels", spec := "typesLevels", recurses := true, apart := false }
def TypesLevelsSaid : Prop := typesLevelsRow.holds Try.pinned (OpenSpec.ofChange typesLevelsSpec)

/-- ITS FALSE NEIGHBOUR: 'it returns false'. Refute it at one input. -/
def typesLevelsWrong : ChangeSpec := { name := "typesLevels", fn := fun _ => fun
  | [d] => { results := [.lit (.bool false)], args := [d] }
  | _ => none }
def TypesLevelsWrongFalsely : Prop := typesLevelsRow.holds Try.pinned (OpenSpec.ofChange typesLevelsWrong)

/-- 'proofprogramslaw01.TypesFunctions': WHATEVER THE INPUT: true; the input reads as it did. -/
def typesFunctionsSpec : ChangeSpec := { name := "typesFunctions", fn := fun _ => fun
  | [d] => { results := [.lit (.bool true)], args := [d] }
  | _ => none }
def typesFunctionsRow : OpenClaim := { program := "ytnbbnjmjpnncfaa", sum := "638e9575ca38317cf4a0aa670ee5cd15e5a085a359354e67c7218bc98b5ed4e1", func := "proofprograms/proofprogramslaw01.TypesFunctions", spec := "typesFunctions", unfollowed := true, recurses := true, apart := false }
def TypesFunctionsSaid : Prop := typesFunctionsRow.holds Try.pinned (OpenSpec.ofChange typesFunctionsSpec)

/-- ITS FALSE NEIGHBOUR: 'it returns false'. Refute it at one input. -/
def typesFunctionsWrong : ChangeSpec := { name := "typesFunctions", fn := fun _ => fun
  | [d] => { results := [.lit (.bool false)], args := [d] }
  | _ => none }
def TypesFunctionsWrongFalsely : Prop := typesFunctionsRow.holds Try.pinned (OpenSpec.ofChange typesFunctionsWrong)

/-- 'proofprogramslaw01.TypesDoes': WHATEVER THE INPUT: true; the input reads as it did. -/
def typesDoesSpec : ChangeSpec := { name := "typesDoes", fn := fun _ => fun
  | [d1, d2, d3] => { results := [.lit (.bool true)], args := [d1, d2, d3] }
  | _ => none }
def typesDoesRow : OpenClaim := { program := "ytnbbnjmjpnncfaa", sum := "638e9575ca38317cf4a0aa670ee5cd15e5a085a359354e67c7218bc98b5ed4e1", func := "proofprograms/proofprogramslaw01.TypesDoes", spec := "typesDoes", unfollowed := true, recurses := true, loops := true, apart := false }
def TypesDoesSaid : Prop := typesDoesRow.holds Try.pinned (OpenSpec.ofChange typesDoesSpec)

/-- ITS FALSE NEIGHBOUR: 'it returns false'. Refute it at one input. -/
def typesDoesWrong : ChangeSpec := { name := "typesDoes", fn := fun _ => fun
  | [d1, d2, d3] => { results := [.lit (.bool false)], args := [d1, d2, d3] }
  | _ => none }
def TypesDoesWrongFalsely : Prop := typesDoesRow.holds Try.pinned (OpenSpec.ofChange typesDoesWrong)

/- THE SECOND FORM. 'bulk': how many values and letters a reading holds, each counted each time it is reached (what is shared counts as often as it is met; a slice's spare places count too). A statement '..UptoSaid' is the law's where the arguments, and the package variables that the reading takes, are together of bulk at most 1048576: NARROWER than '..Said'. Prove '..Said' where nothing that the law and all that it calls make is longer than what came in: it says more and counts as full. Else prove '..UptoSaid'. A law counts once. -/
mutual
def uptoBulk {H : Type} : DataW H → Nat
  | .lit (.string bytes) => bytes.length + 1
  | .lit _ => 1
  | .nil => 1
  | .ptr d => uptoBulk d + 1
  | .slice elems spare => uptoBulkAll elems + uptoBulkAll spare + 1
  | .agg parts => uptoBulkAll parts + 1
  | .iface _ d => uptoBulk d + 1
  | .map entries => uptoBulkEntries entries + 1
  | .held _ => 1
def uptoBulkAll {H : Type} : List (DataW H) → Nat
  | [] => 0
  | d :: r => uptoBulk d + uptoBulkAll r
def uptoBulkEntries {H : Type} : List (Lit × DataW H) → Nat
  | [] => 0
  | x :: r => uptoBulkEntry x + uptoBulkEntries r
def uptoBulkEntry {H : Type} : Lit × DataW H → Nat
  | (.string bytes, d) => bytes.length + uptoBulk d + 1
  | (_, d) => uptoBulk d + 1
 end
def uptoSmall : (H : Type) → List (DataW H) → Bool := fun _ ds => decide (uptoBulkAll ds ≤ 1048576)
def OpenSpec.upto (s : _root_.Go.ChangeSpec) : _root_.Go.OpenSpec := { _root_.Go.OpenSpec.ofChange s with cond := some uptoSmall }

/-- 'proofprogramslaw01.TypesLevels', WHERE WHAT IT READS IS OF BULK AT MOST 1048576: true; the input reads as it did. -/
def typesLevelsUptoRow : OpenClaim := { program := "ytnbbnjmjpnncfaa", sum := "638e9575ca38317cf4a0aa670ee5cd15e5a085a359354e67c7218bc98b5ed4e1", func := "proofprograms/proofprogramslaw01.TypesLevels", spec := "typesLevels", recurses := true, apart := false, narrowed := true }
def TypesLevelsUptoSaid : Prop := typesLevelsUptoRow.holds Try.pinned (OpenSpec.upto typesLevelsSpec)

/-- 'proofprogramslaw01.TypesFunctions', WHERE WHAT IT READS IS OF BULK AT MOST 1048576: true; the input reads as it did. -/
def typesFunctionsUptoRow : OpenClaim := { program := "ytnbbnjmjpnncfaa", sum := "638e9575ca38317cf4a0aa670ee5cd15e5a085a359354e67c7218bc98b5ed4e1", func := "proofprograms/proofprogramslaw01.TypesFunctions", spec := "typesFunctions", unfollowed := true, recurses := true, apart := false, narrowed := true }
def TypesFunctionsUptoSaid : Prop := typesFunctionsUptoRow.holds Try.pinned (OpenSpec.upto typesFunctionsSpec)

/-- 'proofprogramslaw01.TypesDoes', WHERE WHAT IT READS IS OF BULK AT MOST 1048576: true; the input reads as it did. -/
def typesDoesUptoRow : OpenClaim := { program := "ytnbbnjmjpnncfaa", sum := "638e9575ca38317cf4a0aa670ee5cd15e5a085a359354e67c7218bc98b5ed4e1", func := "proofprograms/proofprogramslaw01.TypesDoes", spec := "typesDoes", unfollowed := true, recurses := true, loops := true, apart := false, narrowed := true }
def TypesDoesUptoSaid : Prop := typesDoesUptoRow.holds Try.pinned (OpenSpec.upto typesDoesSpec)

end Rows
end Go.Proofs.Ytnbbnjmjpnncfaa
