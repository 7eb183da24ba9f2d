/- Models of the functions: what they compute, in plain Lean. -/
import Derived.Test.YtgcimcppginchaaGreatDoorOps
set_option linter.unusedSimpArgs false
set_option linter.unusedVariables false
namespace Go.Mdl
open Go

inductive Vl where
  | mk (kind : Int) (num : Int) (list : (List Int)) (args : (List Vl))
def Vl.kind : Vl → Int | .mk x _ _ _ => x
def Vl.num : Vl → Int | .mk _ x _ _ => x
def Vl.list : Vl → (List Int) | .mk _ _ x _ => x
def Vl.args : Vl → (List Vl) | .mk _ _ _ x => x
@[simp] theorem Vl.kind_mk (kind : Int) (num : Int) (list : (List Int)) (args : (List Vl)) : (Vl.mk kind num list args).kind = kind := rfl
@[simp] theorem Vl.num_mk (kind : Int) (num : Int) (list : (List Int)) (args : (List Vl)) : (Vl.mk kind num list args).num = num := rfl
@[simp] theorem Vl.list_mk (kind : Int) (num : Int) (list : (List Int)) (args : (List Vl)) : (Vl.mk kind num list args).list = list := rfl
@[simp] theorem Vl.args_mk (kind : Int) (num : Int) (list : (List Int)) (args : (List Vl)) : (Vl.mk kind num list args).args = args := rfl
@[simp] theorem Vl.mk_eta (x : Vl) : Vl.mk x.kind x.num x.list x.args = x := by cases x; rfl
instance : Inhabited Vl := ⟨.mk default default default default⟩
inductive Ty where
  | mk (kind : Int) (args : (List Ty))
def Ty.kind : Ty → Int | .mk x _ => x
def Ty.args : Ty → (List Ty) | .mk _ x => x
@[simp] theorem Ty.kind_mk (kind : Int) (args : (List Ty)) : (Ty.mk kind args).kind = kind := rfl
@[simp] theorem Ty.args_mk (kind : Int) (args : (List Ty)) : (Ty.mk kind args).args = args := rfl
@[simp] theorem Ty.mk_eta (x : Ty) : Ty.mk x.kind x.args = x := by cases x; rfl
instance : Inhabited Ty := ⟨.mk default default⟩
structure Sapi_Row where
  inputs : (List Vl)
  result : Vl
  trueF : Bool
  work : Int
@[simp] theorem Sapi_Row.mk_eta (x : Sapi_Row) : Sapi_Row.mk x.inputs x.result x.trueF x.work = x := rfl
instance : Inhabited Sapi_Row := ⟨.mk default default default default⟩
inductive Tm where
  | mk (kind : Int) (index : Int) (typeF : Ty) (args : (List Tm))
def Tm.kind : Tm → Int | .mk x _ _ _ => x
def Tm.index : Tm → Int | .mk _ x _ _ => x
def Tm.typeF : Tm → Ty | .mk _ _ x _ => x
def Tm.args : Tm → (List Tm) | .mk _ _ _ x => x
@[simp] theorem Tm.kind_mk (kind : Int) (index : Int) (typeF : Ty) (args : (List Tm)) : (Tm.mk kind index typeF args).kind = kind := rfl
@[simp] theorem Tm.index_mk (kind : Int) (index : Int) (typeF : Ty) (args : (List Tm)) : (Tm.mk kind index typeF args).index = index := rfl
@[simp] theorem Tm.typeF_mk (kind : Int) (index : Int) (typeF : Ty) (args : (List Tm)) : (Tm.mk kind index typeF args).typeF = typeF := rfl
@[simp] theorem Tm.args_mk (kind : Int) (index : Int) (typeF : Ty) (args : (List Tm)) : (Tm.mk kind index typeF args).args = args := rfl
@[simp] theorem Tm.mk_eta (x : Tm) : Tm.mk x.kind x.index x.typeF x.args = x := by cases x; rfl
instance : Inhabited Tm := ⟨.mk default default default default⟩
inductive Fm where
  | mk (kind : Int) (typeF : Ty) (terms : (List Tm)) (args : (List Fm))
def Fm.kind : Fm → Int | .mk x _ _ _ => x
def Fm.typeF : Fm → Ty | .mk _ x _ _ => x
def Fm.terms : Fm → (List Tm) | .mk _ _ x _ => x
def Fm.args : Fm → (List Fm) | .mk _ _ _ x => x
@[simp] theorem Fm.kind_mk (kind : Int) (typeF : Ty) (terms : (List Tm)) (args : (List Fm)) : (Fm.mk kind typeF terms args).kind = kind := rfl
@[simp] theorem Fm.typeF_mk (kind : Int) (typeF : Ty) (terms : (List Tm)) (args : (List Fm)) : (Fm.mk kind typeF terms args).typeF = typeF := rfl
@[simp] theorem Fm.terms_mk (kind : Int) (typeF : Ty) (terms : (List Tm)) (args : (List Fm)) : (Fm.mk kind typeF terms args).terms = terms := rfl
@[simp] theorem Fm.args_mk (kind : Int) (typeF : Ty) (terms : (List Tm)) (args : (List Fm)) : (Fm.mk kind typeF terms args).args = args := rfl
@[simp] theorem Fm.mk_eta (x : Fm) : Fm.mk x.kind x.typeF x.terms x.args = x := by cases x; rfl
instance : Inhabited Fm := ⟨.mk default default default default⟩
inductive Pf where
  | mk (kind : Int) (index : Int) (typeF : Ty) (terms : (List Tm)) (forms : (List Fm)) (args : (List Pf))
def Pf.kind : Pf → Int | .mk x _ _ _ _ _ => x
def Pf.index : Pf → Int | .mk _ x _ _ _ _ => x
def Pf.typeF : Pf → Ty | .mk _ _ x _ _ _ => x
def Pf.terms : Pf → (List Tm) | .mk _ _ _ x _ _ => x
def Pf.forms : Pf → (List Fm) | .mk _ _ _ _ x _ => x
def Pf.args : Pf → (List Pf) | .mk _ _ _ _ _ x => x
@[simp] theorem Pf.kind_mk (kind : Int) (index : Int) (typeF : Ty) (terms : (List Tm)) (forms : (List Fm)) (args : (List Pf)) : (Pf.mk kind index typeF terms forms args).kind = kind := rfl
@[simp] theorem Pf.index_mk (kind : Int) (index : Int) (typeF : Ty) (terms : (List Tm)) (forms : (List Fm)) (args : (List Pf)) : (Pf.mk kind index typeF terms forms args).index = index := rfl
@[simp] theorem Pf.typeF_mk (kind : Int) (index : Int) (typeF : Ty) (terms : (List Tm)) (forms : (List Fm)) (args : (List Pf)) : (Pf.mk kind index typeF terms forms args).typeF = typeF := rfl
@[simp] theorem Pf.terms_mk (kind : Int) (index : Int) (typeF : Ty) (terms : (List Tm)) (forms : (List Fm)) (args : (List Pf)) : (Pf.mk kind index typeF terms forms args).terms = terms := rfl
@[simp] theorem Pf.forms_mk (kind : Int) (index : Int) (typeF : Ty) (terms : (List Tm)) (forms : (List Fm)) (args : (List Pf)) : (Pf.mk kind index typeF terms forms args).forms = forms := rfl
@[simp] theorem Pf.args_mk (kind : Int) (index : Int) (typeF : Ty) (terms : (List Tm)) (forms : (List Fm)) (args : (List Pf)) : (Pf.mk kind index typeF terms forms args).args = args := rfl
@[simp] theorem Pf.mk_eta (x : Pf) : Pf.mk x.kind x.index x.typeF x.terms x.forms x.args = x := by cases x; rfl
instance : Inhabited Pf := ⟨.mk default default default default default default⟩
structure Dcl where
  name : ByteArray
  formula : Fm
  proof : Pf
@[simp] theorem Dcl.mk_eta (x : Dcl) : Dcl.mk x.name x.formula x.proof = x := rfl
instance : Inhabited Dcl := ⟨.mk default default default⟩
structure Thy where
  declarations : (List Dcl)
@[simp] theorem Thy.mk_eta (x : Thy) : Thy.mk x.declarations = x := rfl
instance : Inhabited Thy := ⟨.mk default⟩
structure Smk_Deck where
  l : (List Int)
  atF : Int
@[simp] theorem Smk_Deck.mk_eta (x : Smk_Deck) : Smk_Deck.mk x.l x.atF = x := rfl
instance : Inhabited Smk_Deck := ⟨.mk default default⟩
structure Sapi_Extraction where
  name : ByteArray
  term : Tm
@[simp] theorem Sapi_Extraction.mk_eta (x : Sapi_Extraction) : Sapi_Extraction.mk x.name x.term = x := rfl
instance : Inhabited Sapi_Extraction := ⟨.mk default default⟩
structure Sq where
  types : (List Ty)
  hyps : (List Fm)
@[simp] theorem Sq.mk_eta (x : Sq) : Sq.mk x.types x.hyps = x := rfl
instance : Inhabited Sq := ⟨.mk default default⟩
structure Prv where
  formula : Fm
  uses : (List Int)
@[simp] theorem Prv.mk_eta (x : Prv) : Prv.mk x.formula x.uses = x := rfl
instance : Inhabited Prv := ⟨.mk default default⟩
structure Styping_Sized where
  typeF : Ty
  nodes : Int
@[simp] theorem Styping_Sized.mk_eta (x : Styping_Sized) : Styping_Sized.mk x.typeF x.nodes = x := rfl
instance : Inhabited Styping_Sized := ⟨.mk default default⟩
structure Stree_Place where
  vars : Int
  hyps : Int
@[simp] theorem Stree_Place.mk_eta (x : Stree_Place) : Stree_Place.mk x.vars x.hyps = x := rfl
instance : Inhabited Stree_Place := ⟨.mk default default⟩
structure Skernel_limits where
  vars : Int
  hyps : Int
@[simp] theorem Skernel_limits.mk_eta (x : Skernel_limits) : Skernel_limits.mk x.vars x.hyps = x := rfl
instance : Inhabited Skernel_limits := ⟨.mk default default⟩
structure Skernel_hypothesis where
  formula : Fm
  vars : Int
@[simp] theorem Skernel_hypothesis.mk_eta (x : Skernel_hypothesis) : Skernel_hypothesis.mk x.formula x.vars = x := rfl
instance : Inhabited Skernel_hypothesis := ⟨.mk default default⟩
structure Skernel_place where
  limits : Skernel_limits
  types : (List Styping_Sized)
  known : (List Skernel_hypothesis)
@[simp] theorem Skernel_place.mk_eta (x : Skernel_place) : Skernel_place.mk x.limits x.types x.known = x := rfl
instance : Inhabited Skernel_place := ⟨.mk default default default⟩
structure Stree_Rule where
  index : Bool
  typed : Bool
  terms : Int
  forms : Int
  args : Int
  formVars : Int
  vars : Int
  hyps : Int
@[simp] theorem Stree_Rule.mk_eta (x : Stree_Rule) : Stree_Rule.mk x.index x.typed x.terms x.forms x.args x.formVars x.vars x.hyps = x := rfl
instance : Inhabited Stree_Rule := ⟨.mk default default default default default default default default⟩
structure Stree_tally where
  nodes : Int
  large : Bool
@[simp] theorem Stree_tally.mk_eta (x : Stree_tally) : Stree_tally.mk x.nodes x.large = x := rfl
instance : Inhabited Stree_tally := ⟨.mk default default⟩
structure Skernel_induction where
  kind : Int
  base : Tm
  vars : (List Ty)
  next : Tm
@[simp] theorem Skernel_induction.mk_eta (x : Skernel_induction) : Skernel_induction.mk x.kind x.base x.vars x.next = x := rfl
instance : Inhabited Skernel_induction := ⟨.mk default default default default⟩

end Go.Mdl
