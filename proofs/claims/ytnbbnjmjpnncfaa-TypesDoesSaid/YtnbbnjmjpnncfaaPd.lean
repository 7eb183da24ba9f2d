/-
  Terms: lifting, putting, counting, and how great indices are.
-/
import Derived.Test.YtnbbnjmjpnncfaaPc
set_option linter.unusedSimpArgs false
set_option linter.unusedVariables false
namespace Go.Mdl
open Go

/-- Below a node there is a variable more. -/
def lamB (k : Int) : Int := if k = 2 then 1 else 0
theorem lamB_bd (k : Int) : 0 ≤ lamB k ∧ lamB k ≤ 1 := by unfold lamB; split <;> omega
theorem all_map_congr {α β : Type} {p : β → Bool} {q : α → Bool} {g : α → β} {l : List α} (h : ∀ x ∈ l, p (g x) = q x) : (l.map g).all p = l.all q := by
  induction l with
  | nil => rfl
  | cons x l ih => simp only [List.map_cons, List.all_cons, h x (by simp), ih fun y hy => h y (by simp [hy])]
end Go.Mdl
