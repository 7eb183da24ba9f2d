/-
  Go's library for the report: words for models, and small lemmas for the contracts.
-/
import Derived.Test.YtgcimcppginchaaGreatDoorLib
import Derived.Test.YtgcimcppginchaaGreatDoorOps
import Derived.Lib.ItoaNum
import Derived.Lib.Join
set_option linter.unusedSimpArgs false
set_option linter.unusedVariables false
namespace Go.Abs
open Go Go.RowKit

theorem prepL1 {F : Imm} {G : Nat → Nat} {n : Nat} {a : AV} {vs : List Value} (h : PRepL F G n [a] vs) : ∃ v, vs = [v] ∧ PRep F G n a v := by
  cases h with
  | cons h1 h2 => cases h2; exact ⟨_, rfl, h1⟩
theorem prepL2 {F : Imm} {G : Nat → Nat} {n : Nat} {a b : AV} {vs : List Value} (h : PRepL F G n [a, b] vs) : ∃ v x, vs = [v, x] ∧ PRep F G n a v ∧ PRep F G n b x := by
  cases h with
  | cons h1 h2 =>
    obtain ⟨x, rfl, h3⟩ := prepL1 h2
    exact ⟨_, _, rfl, h1, h3⟩
end Go.Abs
