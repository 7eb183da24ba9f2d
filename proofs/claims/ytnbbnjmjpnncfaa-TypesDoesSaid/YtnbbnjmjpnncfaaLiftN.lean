/-
  A raw slice, with how long the list is that it stands for.
-/
import Derived.Test.YtnbbnjmjpnncfaaLift
set_option linter.unusedSimpArgs false
set_option linter.unusedVariables false
namespace Go.Abs
open Go Go.ChangeShapes Go.WideShapes Go.ChangeAt Go.RowKit
section
variable {H : Type} {enc : TypeId × Value → H} {P : Program} {W : World}
theorem lift_sliceN {α : Type} (av : α → AV) (c : Nat) {t e fuel : Nat} {cs : List Value} {x : DataW H × List MemPlace} (ht : P.underlying t = some (.slice e)) (hc : P.cellsOf e = c) (hc0 : 0 < c) (hcell : ∀ a, (av a).cells.length = c) (hone : ∀ a, ∀ y ∈ (av a).cells, y.isOne = true)
    (h : DataW.trod enc P W 0 (fun _ => true) true fuel t cs = some x)
    (he : ∀ fuel' cs' x', fuel' < fuel → DataW.trod enc P W 0 (fun _ => true) true fuel' e cs' = some x' → ∃ a : α, LRep W (av a).cells cs') :
    ∃ l : List α, LRep W [.slice .frz (l.map av)] cs ∧ (l = [] ∨ ∃ es rs, x.1 = .slice es rs ∧ es.length = l.length) := by
  rcases DataW.trod_slice ht h with ⟨rfl, _⟩ | ⟨a, len, cap, elems, rest, n, rfl, rfl, rfl, _, hl, hm, hlen, hel, _, _⟩
  · exact ⟨[], .cons (PRep.slice (l := []) (vs := []) (b := 0) (o := 0) (sz := 1) .nil (fun i v h => by simp at h) (by simp) (by simp) (by simp) (Nat.zero_le _) (Nat.zero_le _) (.inl rfl)) .nil, .inl rfl⟩
  · have key : ∀ k, k ≤ len → ∃ (l : List α) (vs : List Value), l.length = k ∧ vs.length = k * c ∧ LRep W ((l.map av).flatMap AV.cells) vs ∧ (∀ j v, vs[j]? = some v → W.cell? (a.add j) = some v) := by
      intro k
      induction k with
      | zero => intro _; exact ⟨[], [], rfl, by simp, .nil, fun j v hv => by simp at hv⟩
      | succ k ih =>
        intro hk
        obtain ⟨l, vs, l1, l2, l3, l4⟩ := ih (by omega)
        have h0 := hel k (by omega)
        obtain ⟨y, hy⟩ : ∃ y, elems[k]? = some y := ⟨elems[k]'(by omega), List.getElem?_eq_getElem _⟩
        rw [hy] at h0
        obtain ⟨cs', hc1, hc2⟩ := Option.bind_eq_some_iff.1 h0
        obtain ⟨z, hz⟩ := he n cs' y (by omega) hc2
        obtain ⟨_, c2, c3⟩ := World.cells?_some hc1
        rw [hc] at c2 c3
        refine ⟨l ++ [z], vs ++ cs', by simp [l1], by rw [List.length_append, l2, c2, Nat.succ_mul], ?_, ?_⟩
        · simp only [List.map_append, List.map_cons, List.map_nil, List.flatMap_append, List.flatMap_cons, List.flatMap_nil, List.append_nil]
          exact l3.append hz
        · intro j v hv
          rcases Nat.lt_or_ge j vs.length with hj | hj
          · rw [List.getElem?_append_left hj] at hv
            exact l4 j v hv
          · rw [List.getElem?_append_right hj] at hv
            have hlt : j - vs.length < c := by
              have := (List.getElem?_eq_some_iff.1 hv).1
              omega
            have h5 := c3 _ hlt
            rw [hv, addr_add, show k * c + (j - vs.length) = j by omega] at h5
            exact h5
    obtain ⟨l, vs, l1, l2, l3, l4⟩ := key len (Nat.le_refl _)
    refine ⟨l, .cons ?_ .nil, .inr ⟨_, _, rfl, by rw [List.length_map, hlen, l1]⟩⟩
    have p := @PRep.slice (immOf W) (fun _ => 0) 0 .frz (l.map av) vs a.block a.off (some a) cap c l3 (fun i v hv => immOf_cell (cell_add (l4 i v hv))) ?_ ?_ ?_ ?_ hm (.inl rfl)
    · rw [List.length_map, l1] at p
      exact p
    · intro hne
      have h1 : 0 < len := by
        rw [← l1]
        exact List.length_pos_iff.2 (by simpa using hne)
      have h2 : 0 < vs.length := by
        rw [l2]
        exact Nat.mul_pos h1 hc0
      have h3 := l4 0 _ (List.getElem?_eq_getElem h2)
      exact congrArg some (cell_spot h3)
    · intro y hy
      obtain ⟨z, _, rfl⟩ := List.mem_map.1 hy
      exact hcell z
    · intro y hy
      obtain ⟨u, hu, hy⟩ := List.mem_flatMap.1 hy
      obtain ⟨z, _, rfl⟩ := List.mem_map.1 hu
      exact hone z y hy
    · rw [List.length_map, l1]; exact hl

end
end Go.Abs
