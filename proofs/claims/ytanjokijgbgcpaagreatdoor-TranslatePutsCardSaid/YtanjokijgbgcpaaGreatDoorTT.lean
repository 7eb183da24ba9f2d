/- Models of the functions: what they compute, in plain Lean. -/
import Derived.Test.YtanjokijgbgcpaaGreatDoorOps
set_option linter.unusedSimpArgs false
set_option linter.unusedVariables false
namespace Go.Mdl
open Go

inductive Ty where
  | mk (kind : Int) (args : (List Ty))
def Ty.kind : Ty → Int | .mk x _ => x
def Ty.args : Ty → (List Ty) | .mk _ x => x
@[simp] theorem Ty.kind_mk (kind : Int) (args : (List Ty)) : (Ty.mk kind args).kind = kind := rfl
@[simp] theorem Ty.args_mk (kind : Int) (args : (List Ty)) : (Ty.mk kind args).args = args := rfl
@[simp] theorem Ty.mk_eta (x : Ty) : Ty.mk x.kind x.args = x := by cases x; rfl
instance : Inhabited Ty := ⟨.mk default default⟩
inductive Tm where
  | mk (kind : Int) (index : Int) (typeF : Ty) (args : (List Tm))
def Tm.kind : Tm → Int | .mk x _ _ _ => x
def Tm.index : Tm → Int | .mk _ x _ _ => x
def Tm.typeF : Tm → Ty | .mk _ _ x _ => x
def Tm.args : Tm → (List Tm) | .mk _ _ _ x => x
@[simp] theorem Tm.kind_mk (kind : Int) (index : Int) (typeF : Ty) (args : (List Tm)) : (Tm.mk kind index typeF args).kind = kind := rfl
@[simp] theorem Tm.index_mk (kind : Int) (index : Int) (typeF : Ty) (args : (List Tm)) : (Tm.mk kind index typeF args).index = index := rfl
@[simp] theorem Tm.typeF_mk (kind : Int) (index : Int) (typeF : Ty) (args : (List Tm)) : (Tm.mk kind index typeF args).typeF = typeF := rfl
@[simp] theorem Tm.args_mk (kind : Int) (index : Int) (typeF : Ty) (args : (List Tm)) : (Tm.mk kind index typeF args).args = args := rfl
@[simp] theorem Tm.mk_eta (x : Tm) : Tm.mk x.kind x.index x.typeF x.args = x := by cases x; rfl
instance : Inhabited Tm := ⟨.mk default default default default⟩
inductive Fm where
  | mk (kind : Int) (typeF : Ty) (terms : (List Tm)) (args : (List Fm))
def Fm.kind : Fm → Int | .mk x _ _ _ => x
def Fm.typeF : Fm → Ty | .mk _ x _ _ => x
def Fm.terms : Fm → (List Tm) | .mk _ _ x _ => x
def Fm.args : Fm → (List Fm) | .mk _ _ _ x => x
@[simp] theorem Fm.kind_mk (kind : Int) (typeF : Ty) (terms : (List Tm)) (args : (List Fm)) : (Fm.mk kind typeF terms args).kind = kind := rfl
@[simp] theorem Fm.typeF_mk (kind : Int) (typeF : Ty) (terms : (List Tm)) (args : (List Fm)) : (Fm.mk kind typeF terms args).typeF = typeF := rfl
@[simp] theorem Fm.terms_mk (kind : Int) (typeF : Ty) (terms : (List Tm)) (args : (List Fm)) : (Fm.mk kind typeF terms args).terms = terms := rfl
@[simp] theorem Fm.args_mk (kind : Int) (typeF : Ty) (terms : (List Tm)) (args : (List Fm)) : (Fm.mk kind typeF terms args).args = args := rfl
@[simp] theorem Fm.mk_eta (x : Fm) : Fm.mk x.kind x.typeF x.terms x.args = x := by cases x; rfl
instance : Inhabited Fm := ⟨.mk default default default default⟩
structure Smk_Deck where
  l : (List Int)
  atF : Int
@[simp] theorem Smk_Deck.mk_eta (x : Smk_Deck) : Smk_Deck.mk x.l x.atF = x := rfl
instance : Inhabited Smk_Deck := ⟨.mk default default⟩
def tree_arities : List Int := [0, 0, 1, 2, 0, 1, 3, 0, 2, 3, 2, 1, 1, 0]

end Go.Mdl
