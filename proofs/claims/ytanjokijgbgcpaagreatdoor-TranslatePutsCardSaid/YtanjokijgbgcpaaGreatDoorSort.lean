/-
  Insertion into ascending lists: the order of the insertions does not matter (for ranges over a map).
-/
import Derived.Test.YtanjokijgbgcpaaGreatDoorOps
set_option linter.unusedSimpArgs false
set_option linter.unusedVariables false
namespace Go.Mdl
open Go

/-- Behind all that is not greater. -/
def insS (n : Int) : List Int → List Int
  | [] => [n]
  | a :: l => if a > n then n :: a :: l else a :: insS n l
inductive Asc : List Int → Prop
  | nil : Asc []
  | cons {a : Int} {l : List Int} : (∀ b ∈ l, a < b) → Asc l → Asc (a :: l)

theorem insS_mem (n : Int) : ∀ (l : List Int) (x : Int), x ∈ insS n l ↔ x = n ∨ x ∈ l
  | [], x => by simp [insS]
  | a :: l, x => by
    unfold insS
    split
    · simp
    · simp only [List.mem_cons, insS_mem n l x]
      constructor
      · rintro (h | h | h)
        · exact .inr (.inl h)
        · exact .inl h
        · exact .inr (.inr h)
      · rintro (h | h | h)
        · exact .inr (.inl h)
        · exact .inl h
        · exact .inr (.inr h)
theorem insS_asc (n : Int) : ∀ (l : List Int), n ∉ l → Asc l → Asc (insS n l)
  | [], _, _ => .cons (by simp) .nil
  | a :: l, hn, .cons h1 h2 => by
    simp only [List.mem_cons, not_or] at hn
    unfold insS
    split
    · rename_i ha
      refine .cons ?_ (.cons h1 h2)
      intro b hb
      rcases List.mem_cons.1 hb with rfl | hb
      · exact ha
      · have := h1 b hb; omega
    · rename_i ha
      refine .cons ?_ (insS_asc n l hn.2 h2)
      intro b hb
      rcases (insS_mem n l b).1 hb with rfl | hb
      · omega
      · exact h1 b hb
theorem Asc.eq : ∀ {l m : List Int}, Asc l → Asc m → (∀ x, x ∈ l ↔ x ∈ m) → l = m
  | [], [], _, _, _ => rfl
  | [], b :: m, _, _, h => by have := (h b).2 (by simp); cases this
  | a :: l, [], _, _, h => by have := (h a).1 (by simp); cases this
  | a :: l, b :: m, .cons h1 h2, .cons h3 h4, h => by
    have hab : a = b := by
      have e1 := (h a).1 (by simp)
      have e2 := (h b).2 (by simp)
      rcases List.mem_cons.1 e1 with e | e
      · exact e
      · rcases List.mem_cons.1 e2 with e' | e'
        · exact e'.symm
        · have := h3 a e
          have := h1 b e'
          omega
    subst hab
    rw [Asc.eq h2 h4 (fun x => by
      constructor
      · intro hx
        rcases List.mem_cons.1 ((h x).1 (List.mem_cons_of_mem _ hx)) with e | e
        · subst e; exact absurd (h1 x hx) (by omega)
        · exact e
      · intro hx
        rcases List.mem_cons.1 ((h x).2 (List.mem_cons_of_mem _ hx)) with e | e
        · subst e; exact absurd (h3 x hx) (by omega)
        · exact e)]
/-- All of a list, one after the other. -/
def sortS (acc : List Int) : List Int → List Int
  | [] => acc
  | a :: l => sortS (insS a acc) l
theorem sortS_mem : ∀ (l acc : List Int) (x : Int), x ∈ sortS acc l ↔ x ∈ acc ∨ x ∈ l
  | [], acc, x => by simp [sortS]
  | a :: l, acc, x => by
    rw [sortS, sortS_mem l, insS_mem]
    simp only [List.mem_cons]
    constructor
    · rintro ((h | h) | h)
      · exact .inr (.inl h)
      · exact .inl h
      · exact .inr (.inr h)
    · rintro (h | h | h)
      · exact .inl (.inr h)
      · exact .inl (.inl h)
      · exact .inr h
theorem sortS_asc : ∀ (l acc : List Int), Asc acc → l.Nodup → (∀ x ∈ l, x ∉ acc) → Asc (sortS acc l)
  | [], acc, h, _, _ => h
  | a :: l, acc, h, hn, hd => by
    rw [List.nodup_cons] at hn
    refine sortS_asc l _ (insS_asc a acc (hd a (by simp)) h) hn.2 fun x hx hx2 => ?_
    rcases (insS_mem a acc x).1 hx2 with e | e
    · subst e; exact hn.1 hx
    · exact hd x (by simp [hx]) e
/-- Whatever the order. -/
theorem sortS_eq {l m : List Int} (hl : l.Nodup) (hm : m.Nodup) (h : ∀ x, x ∈ l ↔ x ∈ m) : sortS [] l = sortS [] m :=
  Asc.eq (sortS_asc l [] .nil hl (by simp)) (sortS_asc m [] .nil hm (by simp)) fun x => by rw [sortS_mem, sortS_mem]; simp [h x]
def distinctB (l : List Int) : Bool := decide l.Nodup
end Go.Mdl
