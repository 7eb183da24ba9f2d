/-
  The abstract layer, part Q: conditions in the form in which walks use them, and arithmetic of words for 'simp'.
-/
import Derived.Test.YtnbbnjmjpnncfaaAbsP
namespace Go.Abs
set_option linter.unusedSimpArgs false
set_option linter.unusedVariables false
open Go

/-- What a condition asks for. -/
def CondAt (v : AV) (A B : Prop) : Prop := match v with | .sc (.bool t) => if t = true then A else B | _ => False
@[simp] theorem CondAt_bool (t : Bool) (A B : Prop) : CondAt (.sc (.bool t)) A B = if t = true then A else B := rfl

section
variable {P : Program} {T : Tabs} {n : Nat} {Q : Exit → Fr → Heap → Prop} {fr : Fr} {H : Heap}

theorem AWp.condK {c : Operand} {x y : Code} (hk : okOperand c = true)
    (h : ∀ A B : Fr → Heap → Prop, (∀ fr H, AWp P T n x Q fr H → A fr H) → (∀ fr H, AWp P T n y Q fr H → B fr H) → CondAt (ev T fr c) (A fr H) (B fr H)) : AWp P T n (.cond c x y) Q fr H := by
  have h' := h (AWp P T n x Q) (AWp P T n y Q) (fun _ _ h => h) (fun _ _ h => h)
  generalize hv : ev T fr c = v at h'
  cases v with
  | sc w =>
    cases w with
    | bool t =>
      refine AWp.cond hv hk (fun ht => ?_) (fun ht => ?_)
      · subst ht; simpa using h'
      · subst ht; simpa using h'
    | _ => exact h'.elim
  | _ => exact h'.elim

/-- Two pieces of code, with what holds between them. -/
theorem AWp.seqP {x y : Code} (R : Fr → Heap → Prop) (h1 : ∀ K : Fr → Heap → Prop, (∀ fr H, R fr H → K fr H) → AWp P T n x (thenQ K Q) fr H) (h2 : ∀ fr H, R fr H → AWp P T n y Q fr H) : AWp P T n (.seq x y) Q fr H :=
  AWp.seq ((h1 R fun _ _ h => h).mono fun e fr' H' hq => by cases e <;> first | exact h2 _ _ hq | exact hq)

end

theorem ite_intro {c : Prop} [Decidable c] {A B : Prop} (h1 : c → A) (h2 : ¬ c → B) : if c then A else B := by
  split
  · exact h1 ‹_›
  · exact h2 ‹_›

theorem ite_introN {c : Prop} [Decidable c] {A B : Prop} (h2 : ¬ c → B) (h1 : c → A) : if c then A else B := ite_intro h1 h2

theorem wrap_id {n : Int} (h1 : -9223372036854775808 ≤ n) (h2 : n < 9223372036854775808) : IntKind.i64.wrap n = n := by
  rw [IntKind.wrap_i64]
  omega

theorem wrap_nat {n : Nat} (h : n < 9223372036854775808) : IntKind.i64.wrap (n : Int) = n := wrap_id (by omega) (by omega)
theorem wrap_succ {n : Nat} (h : n + 1 < 9223372036854775808) : IntKind.i64.wrap ((n : Int) + 1) = ((n + 1 : Nat) : Int) := wrap_id (by omega) (by omega)
theorem wrap_pred {n : Nat} (h : n < 9223372036854775808) : IntKind.i64.wrap ((n : Int) - 1) = (n : Int) - 1 := wrap_id (by omega) (by omega)

@[simp] theorem range_lit2 : List.range 2 = [0, 1] := rfl
@[simp] theorem range_lit3 : List.range 3 = [0, 1, 2] := rfl
@[simp] theorem range_lit4 : List.range 4 = [0, 1, 2, 3] := rfl
@[simp] theorem range_lit5 : List.range 5 = [0, 1, 2, 3, 4] := rfl
@[simp] theorem range_lit6 : List.range 6 = [0, 1, 2, 3, 4, 5] := rfl
@[simp] theorem range_lit7 : List.range 7 = [0, 1, 2, 3, 4, 5, 6] := rfl
@[simp] theorem range_lit8 : List.range 8 = [0, 1, 2, 3, 4, 5, 6, 7] := rfl
@[simp] theorem range_lit9 : List.range 9 = [0, 1, 2, 3, 4, 5, 6, 7, 8] := rfl
@[simp] theorem range_lit10 : List.range 10 = [0, 1, 2, 3, 4, 5, 6, 7, 8, 9] := rfl
@[simp] theorem range_lit11 : List.range 11 = [0, 1, 2, 3, 4, 5, 6, 7, 8, 9, 10] := rfl
@[simp] theorem range_lit12 : List.range 12 = [0, 1, 2, 3, 4, 5, 6, 7, 8, 9, 10, 11] := rfl
@[simp] theorem range_lit13 : List.range 13 = [0, 1, 2, 3, 4, 5, 6, 7, 8, 9, 10, 11, 12] := rfl

theorem take_succ_map {α β : Type} (f : α → β) (l : List α) (i : Nat) (h : i < l.length) : (l.map f).take i ++ [f l[i]] = (l.map f).take (i + 1) := by
  rw [List.take_add_one, List.getElem?_map, List.getElem?_eq_getElem h]
  rfl
theorem take_all_map {α β : Type} (f : α → β) (l : List α) (i : Nat) (h : l.length ≤ i) : (l.map f).take i = l.map f := List.take_of_length_le (by simpa using h)

end Go.Abs
