/- Models of the functions: what they compute, in plain Lean. -/
import Derived.Test.YtnbbnjmjpnncfaaOps
set_option linter.unusedSimpArgs false
set_option linter.unusedVariables false
namespace Go.Mdl
open Go

inductive Ty where
  | mk (kind : Int) (args : (List Ty))
def Ty.kind : Ty → Int | .mk x _ => x
def Ty.args : Ty → (List Ty) | .mk _ x => x
@[simp] theorem Ty.kind_mk (kind : Int) (args : (List Ty)) : (Ty.mk kind args).kind = kind := rfl
@[simp] theorem Ty.args_mk (kind : Int) (args : (List Ty)) : (Ty.mk kind args).args = args := rfl
@[simp] theorem Ty.mk_eta (x : Ty) : Ty.mk x.kind x.args = x := by cases x; rfl
instance : Inhabited Ty := ⟨.mk default default⟩
structure Smk_Deck where
  l : (List Int)
  atF : Int
@[simp] theorem Smk_Deck.mk_eta (x : Smk_Deck) : Smk_Deck.mk x.l x.atF = x := rfl
instance : Inhabited Smk_Deck := ⟨.mk default default⟩

end Go.Mdl
