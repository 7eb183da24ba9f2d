/-
  Go's library: words for models, and small lemmas for the contracts.
-/
import Derived.Test.YtooibjkhgdpnaaaDoorLib
import Derived.Test.YtooibjkhgdpnaaaDoorOps
import Derived.Shelf.Strings.FuncGrows
import Derived.Lib.Atoi
import Derived.Test.YtooibjkhgdpnaaaDoorItoa
import Derived.Lib.AtoiErrMem
import Derived.Lib.Strings
set_option linter.unusedSimpArgs false
set_option linter.unusedVariables false
namespace Go.Abs
open Go Go.RowKit

/-- The tables of unicode/utf8, and of the powers of ten, lie in memory. -/
def LexT (T : Tabs) : Prop := ∀ G F H w, GW T G F H w → Lib.Utf8Tabs 0 1 w ∧ Go.Proofs.PowCells 4 w

theorem gw_empty (w : World) : GW (fun _ => none) (fun _ => 0) (fun _ _ => none) [] w where
  imm := by intro b o v h; cases h
  glob := by intro o cs h; simp at h
  inj := by intro o o' h; exact absurd h (Nat.not_lt_zero _)
  gF := by intro o j h _; rfl
  fresh := by intro b j h; rfl
  tabs := by intro g x h; cases h
  row := by intro _ b o v h; cases h

theorem below_grow (w : World) (k : Nat) (os : Array Obj) : Below w.heap.size w (Go.Sort.grow (w.drewN k) os) :=
  ⟨rfl, rfl, rfl, by show w.heap.size ≤ (w.heap ++ os).size; simp, fun i hi => by
    show (w.heap ++ os)[i]? = w.heap[i]?
    exact Array.getElem?_append_left hi⟩

theorem prepL1 {F : Imm} {G : Nat → Nat} {n : Nat} {a : AV} {vs : List Value} (h : PRepL F G n [a] vs) : ∃ v, vs = [v] ∧ PRep F G n a v := by
  cases h with
  | cons h1 h2 => cases h2; exact ⟨_, rfl, h1⟩
theorem prepL2 {F : Imm} {G : Nat → Nat} {n : Nat} {a b : AV} {vs : List Value} (h : PRepL F G n [a, b] vs) : ∃ v x, vs = [v, x] ∧ PRep F G n a v ∧ PRep F G n b x := by
  cases h with
  | cons h1 h2 =>
    obtain ⟨x, rfl, h3⟩ := prepL1 h2
    exact ⟨_, _, rfl, h1, h3⟩
end Go.Abs
