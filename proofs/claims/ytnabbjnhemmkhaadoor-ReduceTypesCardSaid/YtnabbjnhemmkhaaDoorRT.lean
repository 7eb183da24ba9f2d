/- Models of the functions: what they compute, in plain Lean. -/
import Derived.Test.YtnabbjnhemmkhaaDoorOps
set_option linter.unusedSimpArgs false
set_option linter.unusedVariables false
namespace Go.Mdl
open Go

inductive Ty where
  | mk (kind : Int) (args : (List Ty))
def Ty.kind : Ty → Int | .mk x _ => x
def Ty.args : Ty → (List Ty) | .mk _ x => x
@[simp] theorem Ty.kind_mk (kind : Int) (args : (List Ty)) : (Ty.mk kind args).kind = kind := rfl
@[simp] theorem Ty.args_mk (kind : Int) (args : (List Ty)) : (Ty.mk kind args).args = args := rfl
@[simp] theorem Ty.mk_eta (x : Ty) : Ty.mk x.kind x.args = x := by cases x; rfl
instance : Inhabited Ty := ⟨.mk default default⟩
inductive Tm where
  | mk (kind : Int) (index : Int) (typeF : Ty) (args : (List Tm))
def Tm.kind : Tm → Int | .mk x _ _ _ => x
def Tm.index : Tm → Int | .mk _ x _ _ => x
def Tm.typeF : Tm → Ty | .mk _ _ x _ => x
def Tm.args : Tm → (List Tm) | .mk _ _ _ x => x
@[simp] theorem Tm.kind_mk (kind : Int) (index : Int) (typeF : Ty) (args : (List Tm)) : (Tm.mk kind index typeF args).kind = kind := rfl
@[simp] theorem Tm.index_mk (kind : Int) (index : Int) (typeF : Ty) (args : (List Tm)) : (Tm.mk kind index typeF args).index = index := rfl
@[simp] theorem Tm.typeF_mk (kind : Int) (index : Int) (typeF : Ty) (args : (List Tm)) : (Tm.mk kind index typeF args).typeF = typeF := rfl
@[simp] theorem Tm.args_mk (kind : Int) (index : Int) (typeF : Ty) (args : (List Tm)) : (Tm.mk kind index typeF args).args = args := rfl
@[simp] theorem Tm.mk_eta (x : Tm) : Tm.mk x.kind x.index x.typeF x.args = x := by cases x; rfl
instance : Inhabited Tm := ⟨.mk default default default default⟩
structure Smk_Deck where
  l : (List Int)
  atF : Int
@[simp] theorem Smk_Deck.mk_eta (x : Smk_Deck) : Smk_Deck.mk x.l x.atF = x := rfl
instance : Inhabited Smk_Deck := ⟨.mk default default⟩
structure Sreduce_state where
  term : (Option Nat)
  steps : Int
@[simp] theorem Sreduce_state.mk_eta (x : Sreduce_state) : Sreduce_state.mk x.term x.steps = x := rfl
structure Sgraph_Node where
  kind : Int
  index : Int
  typ : Ty
  args : (List (Option Nat))
  size : Int
  free : Int
  normal : Bool
@[simp] theorem Sgraph_Node.mk_eta (x : Sgraph_Node) : Sgraph_Node.mk x.kind x.index x.typ x.args x.size x.free x.normal = x := rfl
inductive HC where
  | creduce_state (x : Sreduce_state)
  | cgraph_Node (x : Sgraph_Node)
def HC.get_creduce_state (l : List HC) (p : Nat) : Option Sreduce_state := match l[p]? with | some (.creduce_state x) => some x | _ => none
theorem HC.get_creduce_state_some {l : List HC} {p : Nat} {x : Sreduce_state} (h : HC.get_creduce_state l p = some x) : l[p]? = some (.creduce_state x) := by
  unfold HC.get_creduce_state at h
  split at h
  · rename_i e; rw [e]; rw [Option.some.inj h]
  · cases h
def HC.get_cgraph_Node (l : List HC) (p : Nat) : Option Sgraph_Node := match l[p]? with | some (.cgraph_Node x) => some x | _ => none
theorem HC.get_cgraph_Node_some {l : List HC} {p : Nat} {x : Sgraph_Node} (h : HC.get_cgraph_Node l p = some x) : l[p]? = some (.cgraph_Node x) := by
  unfold HC.get_cgraph_Node at h
  split at h
  · rename_i e; rw [e]; rw [Option.some.inj h]
  · cases h
def hput (l : List HC) (p : Nat) (x : HC) : List HC := l.set p x
def tree_arities : List Int := [0, 0, 1, 2, 0, 1, 3, 0, 2, 3, 2, 1, 1, 0]

end Go.Mdl
