/-
  Loops over maps: what a round hands out; and the places of an insertion into an ascending list.
-/
import Derived.Test.YtanjokijgbgcpaaGreatDoorDrop
import Derived.Test.YtanjokijgbgcpaaGreatDoorSort
set_option linter.unusedSimpArgs false
set_option linter.unusedVariables false
namespace Go.Abs
open Go Go.Mdl

section
variable {K : Fr → Heap → Prop} {fr : Fr} {H : Heap} {α : Type} {f : α → AV} {i o : Nat} {seen : List Nat} {d : Option Nat}

theorem nextA_mapC (l : List (Int × α)) (hi : H[i]? = some [.miter o l.length seen]) (ho : H[o]? = some [mapC f l])
    (h1 : (∀ j, j < l.length → j ∈ seen) → K (fr.put d (.tuple [.sc (.bool false)])) H)
    (h2 : ∀ j p, l[j]? = some p → j ∉ seen → K (fr.put d (.tuple [.sc (.bool true), .sc (.int .i64 p.1), f p.2])) (hset H i [.miter o l.length (seen ++ [j])])) : nextA (.gptr i 0) d K fr H := by
  unfold nextA
  simp only [hi, ho, mapC]
  refine ⟨by simp, ?_, fun h => h1 (by simpa using h), ?_⟩
  · rw [List.all_eq_true]
    intro x hx
    obtain ⟨p, _, rfl⟩ := List.mem_map.1 hx
    rfl
  · intro j k v hk hv hj
    rw [List.getElem?_map] at hk hv
    cases hp : l[j]? with
    | none => rw [hp] at hk; cases hk
    | some p =>
      rw [hp] at hk hv
      simp only [Option.map_some, Option.some.injEq] at hk hv
      subst hk; subst hv
      exact h2 j p hp hj

theorem entryA_mapC (l : List (Int × α)) {j : Nat} {p : Int × α} (hi : H[i]? = some [.miter o l.length (seen ++ [j])]) (ho : H[o]? = some [mapC f l]) (hp : l[j]? = some p) :
    entryA (.gptr i 0) H = some (.tuple [.sc (.int .i64 p.1), f p.2]) := by
  unfold entryA
  simp only [hi, ho, mapC, List.getLast?_append, List.getLast?_singleton, Option.some_or, List.getElem?_map, hp, Option.map_some]
  rw [if_pos ⟨by simp, rfl⟩]

theorem readAt_arrC {P : Program} {t : TypeId} {L : List α} {k : Nat} {a : Int} {x : α} (hl : layOf P t = some (false, 1)) (h1 : ∀ x, (f x).cells = [f x]) (hi : lget L a = some x) : readAt P t (arrC f L k) (eoff a.toNat 1) = some (f x) := by
  have hi' := lget_get hi
  have hlt := (List.getElem?_eq_some_iff.1 hi').1
  have e : (L.map f).flatMap AV.cells = L.map f := by
    clear hi hi' hlt
    induction L with
    | nil => rfl
    | cons x L ih => simp [h1, ih]
  unfold readAt arrC
  rw [hl, eoff_eq, Nat.mul_one, e]
  simp only
  rw [List.getElem?_append_left (by simpa using hlt), List.getElem?_map, hi']
  rfl
end

theorem so_ins {n : Int} : ∀ (L : List Int) (i : Nat), Asc L → n ∉ L → i ≤ L.length → (∀ a ∈ L.drop i, a > n) → (i = 0 ∨ ∃ a, L[i - 1]? = some a ∧ ¬ a > n) → insS n L = L.take i ++ n :: L.drop i
  | [], i, _, _, hi, _, _ => by simp at hi; subst hi; rfl
  | a :: L, 0, _, _, _, h1, _ => by simp [insS, h1 a (by simp)]
  | a :: L, i + 1, .cons ha hL, hn, hi, h1, h2 => by
    simp only [List.mem_cons, not_or] at hn
    have hna : ¬ a > n := by
      rcases h2 with h2 | ⟨b, hb, hbn⟩
      · cases h2
      · simp only [Nat.add_sub_cancel] at hb
        cases i with
        | zero => simp at hb; subst hb; exact hbn
        | succ i =>
          simp at hb
          have := ha b (List.mem_of_getElem? hb)
          omega
    have ih := so_ins L i hL hn.2 (by simpa using hi) (by simpa using h1) (by
      cases i with
      | zero => exact .inl rfl
      | succ i =>
        rcases h2 with h2 | ⟨b, hb, hbn⟩
        · cases h2
        · exact .inr ⟨b, by simpa using hb, hbn⟩)
    simp [insS, hna, ih]

theorem isub_one {i : Nat} (h : i < lim) : isub .i64 ((i + 1 : Nat) : Int) 1 = (i : Int) := by
  have h' : i < 1099511627776 := h
  have e : ((i + 1 : Nat) : Int) - 1 = (i : Int) := by omega
  unfold isub
  rw [e, IntKind.wrap_i64]
  omega

/-- How many places a loop over a map has not seen. -/
def unseen (n : Nat) (seen : List Nat) : Nat := ((List.range n).filter fun j => !seen.contains j).length
theorem unseen_nil (n : Nat) : unseen n [] = n := by
  unfold unseen
  rw [List.filter_eq_self.2 (by simp)]
  simp
theorem unseen_lt {n j : Nat} {seen : List Nat} (hj : j < n) (hs : j ∉ seen) : unseen n (seen ++ [j]) < unseen n seen :=
  filter_lt (fun k => !seen.contains k) (fun k => !(seen ++ [j]).contains k) (by intro x; simp; intro h _; exact h) j (by simpa using hs) (by simp) (List.range n) (by simpa using hj)
end Go.Abs
