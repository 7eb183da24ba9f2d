/-
  Terms: what the functions of chapters 2, 3, 5 and of tree compute.
-/
import Derived.Test.YtnbbnjmjpnncfaaPb
set_option linter.unusedSimpArgs false
set_option linter.unusedVariables false
namespace Go.Mdl
open Go

theorem sumL_le {α : Type} {f g : α → Nat} {l : List α} (h : ∀ x ∈ l, f x ≤ g x) : sumL f l ≤ sumL g l := by
  induction l with
  | nil => simp [sumL]
  | cons x l ih => simp only [sumL]; have := h x (by simp); have := ih fun y hy => h y (by simp [hy]); omega
theorem sumL_map {α β : Type} (f : β → Nat) (g : α → β) (l : List α) : sumL f (l.map g) = sumL (fun x => f (g x)) l := by
  induction l with
  | nil => rfl
  | cons x l ih => simp [sumL, ih]
theorem sumL_congr {α : Type} {f g : α → Nat} {l : List α} (h : ∀ x ∈ l, f x = g x) : sumL f l = sumL g l := by
  induction l with
  | nil => rfl
  | cons x l ih => simp [sumL, h x (by simp), ih fun y hy => h y (by simp [hy])]
theorem sumL_append {α : Type} (f : α → Nat) (l m : List α) : sumL f (l ++ m) = sumL f l + sumL f m := by
  induction l with
  | nil => simp [sumL]
  | cons x l ih => simp [sumL, ih]; omega

/-- Kinds that bear a type. -/
def typedB (k : Int) : Bool := decide (k = 2 ∨ k = 6 ∨ k = 9)
/-- How many parts a kind of terms has. -/
def tmArgs (k : Int) : Int :=
  if k = 1 ∨ k = 4 ∨ k = 7 ∨ k = 13 then 0 else if k = 2 ∨ k = 5 ∨ k = 11 ∨ k = 12 then 1 else if k = 3 ∨ k = 8 ∨ k = 10 then 2 else if k = 6 ∨ k = 9 then 3 else -1
theorem tmArgs_known {k : Int} {n : Nat} (h : (n : Int) = tmArgs k) : 1 ≤ k ∧ k < 14 := by
  unfold tmArgs at h
  repeat' split at h
  all_goals omega
end Go.Mdl
