/-
  Types: how many nodes, and whether one is of some kind.
-/
import Derived.Test.YtnbbnjmjpnncfaaYT
set_option linter.unusedSimpArgs false
set_option linter.unusedVariables false
namespace Go.Mdl
mutual
/-- How many nodes a type has. -/
def Ty.cnt : Ty → Nat
  | .mk _ l => 1 + Ty.cntL l
def Ty.cntL : List Ty → Nat
  | [] => 0
  | x :: l => Ty.cnt x + Ty.cntL l
end
mutual
/-- Whether a node of a type is of some kind. -/
def Ty.anyK (p : Int → Bool) : Ty → Bool
  | .mk k l => p k || Ty.anyL p l
def Ty.anyL (p : Int → Bool) : List Ty → Bool
  | [] => false
  | x :: l => Ty.anyK p x || Ty.anyL p l
end
theorem Ty.cntL_app : ∀ (a b : List Ty), Ty.cntL (a ++ b) = Ty.cntL a + Ty.cntL b
  | [], b => by simp [Ty.cntL]
  | x :: a, b => by simp [Ty.cntL, Ty.cntL_app a b, Nat.add_assoc]
theorem Ty.anyL_app (p : Int → Bool) : ∀ (a b : List Ty), Ty.anyL p (a ++ b) = (Ty.anyL p a || Ty.anyL p b)
  | [], b => by simp [Ty.anyL]
  | x :: a, b => by simp [Ty.anyL, Ty.anyL_app p a b, Bool.or_assoc]
theorem Ty.cnt_pos (t : Ty) : 1 ≤ t.cnt := by cases t; simp [Ty.cnt]
theorem Ty.cnt_eq (t : Ty) : t.cnt = 1 + Ty.cntL t.args := by cases t; rfl
theorem Ty.anyK_eq (p : Int → Bool) (t : Ty) : t.anyK p = (p t.kind || Ty.anyL p t.args) := by cases t; rfl
theorem Ty.len_cntL : ∀ (l : List Ty), l.length ≤ Ty.cntL l
  | [] => Nat.le_refl _
  | x :: l => by have := Ty.len_cntL l; have := x.cnt_pos; simp only [List.length_cons, Ty.cntL]; omega
end Go.Mdl
