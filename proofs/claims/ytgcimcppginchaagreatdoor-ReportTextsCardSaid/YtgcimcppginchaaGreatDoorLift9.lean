/-
  Lifting: listed tables of numbers and of structures of numbers.
-/
import Derived.Test.YtgcimcppginchaaGreatDoorLift
import Derived.Lib.LaidU8
set_option linter.unusedSimpArgs false
set_option linter.unusedVariables false
namespace Go.Abs
open Go Go.ChangeShapes Go.WideShapes Go.ChangeAt Go.RowKit Go.Lib

theorem prepL_scs {F : Imm} {G : Nat → Nat} {n : Nat} : ∀ (L : List Value), (∀ v ∈ L, isSc v = true) → PRepL F G n (L.map AV.sc) L
  | [], _ => .nil
  | v :: L, h => .cons (.sc (h v (by simp))) (prepL_scs L fun x hx => h x (by simp [hx]))
/-- A table whose cells hold these values. -/
theorem table_rep {W : World} {g : Nat} {L : List Value} (hs : ∀ v ∈ L, isSc v = true) (h : ∀ (i : Nat) (v : Value), L[i]? = some v → W.cell? ⟨g, i, none⟩ = some v) :
    PRep (immOf W) (fun _ => 0) 0 (.rptr (.agg (L.map AV.sc))) (.pointer (some ⟨g, 0, none⟩)) := by
  refine .rptr (vs := L) (prepL_scs L hs) (fun i v hv => ?_) fun c hc => ?_
  · rw [Nat.zero_add]
    exact immOf_cell (h i v hv)
  · obtain ⟨v, _, rfl⟩ := List.mem_map.1 hc
    rfl

section
variable {H : Type} {enc : TypeId × Value → H} {P : Program} {W : World}
def litD : Value → DataW H
  | .bool b => .lit (.bool b)
  | .int k n => .lit (.int k n)
  | _ => .nil
/-- A structure of numbers and truths holds what it reads as, cell for cell. -/
theorem scal_of_struct {base : Nat} {sp : Nat → Bool} {held : Bool} {fuel : Nat} {t : TypeId} {fs : Array Field} {cs : List Value} {L : List Value} {p : List MemPlace} (ht : P.underlying t = some (.struct fs))
    (hf : ∀ (i : Nat) (f : Field), fs[i]? = some f → (P.underlying f.type = some .bool ∨ ∃ k, P.underlying f.type = some (.int k)) ∧ f.offset = i ∧ P.cellsOf f.type = 1) (hct : P.cellsOf t = fs.size)
    (hL : ∀ v ∈ L, (∃ b, v = .bool b) ∨ ∃ k n, v = .int k n)
    (h : DataW.trod enc P W base sp held fuel t cs = some (.agg (L.map litD), p)) : cs = L := by
  obtain ⟨xs, n, rfl, hx, hl, hxl, hall⟩ := DataW.trod_struct ht h
  have hxs : xs.map (·.1) = L.map (litD (H := H)) := by
    have := congrArg Prod.fst hx
    simpa using this.symm
  have hzl : L.length = fs.size := by
    have := congrArg List.length hxs
    simp at this
    omega
  apply List.ext_getElem?
  intro i
  by_cases hi : i < fs.size
  · obtain ⟨hu, ho, hc⟩ := hf i fs[i] (by simp [hi])
    have h1 := hall i fs[i] (by simp [hi])
    obtain ⟨b, hb⟩ : ∃ b, xs[i]? = some b := ⟨xs[i]'(by omega), List.getElem?_eq_getElem (by omega)⟩
    rw [hb, ho, hc] at h1
    have h3 : (xs.map (·.1))[i]? = some b.1 := by simp [hb]
    rw [hxs, List.getElem?_map] at h3
    have hLi : L[i]? = some (L[i]'(by omega)) := List.getElem?_eq_getElem (by omega)
    rw [hLi] at h3
    have h3 : litD (L[i]'(by omega)) = b.1 := Option.some.inj h3
    have hcell : ∀ v, (cs.drop i).take 1 = [v] → cs[i]? = some v := fun v hv => by
      have := congrArg (·[0]?) hv
      simpa [List.getElem?_take, List.getElem?_drop] using this
    rw [hLi]
    rcases hu with hu | ⟨k, hu⟩
    · obtain ⟨z, hcz, rfl⟩ := DataW.trod_bool hu h1
      rw [hcell _ hcz]
      rcases hL _ (List.getElem_mem (by omega : i < L.length)) with ⟨b', e⟩ | ⟨k', n', e⟩
      · rw [e] at h3 ⊢
        have h3 : (DataW.lit (.bool b') : DataW H) = .lit (.bool z) := h3
        cases h3; rfl
      · rw [e] at h3
        have h3 : (DataW.lit (.int k' n') : DataW H) = .lit (.bool z) := h3
        cases h3
    · obtain ⟨z, hcz, rfl, _⟩ := DataW.trod_int hu h1
      rw [hcell _ hcz]
      rcases hL _ (List.getElem_mem (by omega : i < L.length)) with ⟨b', e⟩ | ⟨k', n', e⟩
      · rw [e] at h3
        have h3 : (DataW.lit (.bool b') : DataW H) = .lit (.int k z) := h3
        cases h3
      · rw [e] at h3 ⊢
        have h3 : (DataW.lit (.int k' n') : DataW H) = .lit (.int k z) := h3
        cases h3; rfl
  · rw [List.getElem?_eq_none (by omega), List.getElem?_eq_none (by omega)]
theorem flat_at {α : Type} {f : α → List Value} {n : Nat} (hn : 0 < n) : ∀ (l : List α), (∀ x ∈ l, (f x).length = n) → ∀ i : Nat, (l.flatMap f)[i]? = l[i / n]?.bind fun x => (f x)[i % n]?
  | [], _, i => by simp
  | a :: l, h, i => by
    rw [List.flatMap_cons]
    have ha := h a (by simp)
    by_cases hi : i < n
    · rw [List.getElem?_append_left (by omega), Nat.div_eq_of_lt hi, Nat.mod_eq_of_lt hi]
      simp
    · rw [List.getElem?_append_right (by omega), ha, flat_at hn l (fun x hx => h x (by simp [hx])) (i - n)]
      have e1 : i / n = (i - n) / n + 1 := by
        have := Nat.div_eq_sub_div hn (by omega : n ≤ i)
        omega
      have e2 : i % n = (i - n) % n := Nat.mod_eq_sub_mod (by omega)
      rw [e1, e2, List.getElem?_cons_succ]
/-- A listed array of structures of numbers and truths. -/
theorem rows_rep {l : List (String × DataW Unit)} (h : laidMet P l W) {α : Type} {name : String} {L : List α} {f : α → List Value} {N : Nat} (hN : 0 < N) (hm : (name, DataW.agg (L.map fun x => .agg ((f x).map litD))) ∈ l) {g t e : Nat} {fs : Array Field}
    (hg : P.globalNamed name = some g) (ht : (P.globals[g]?).map (·.type) = some t) (hu : P.underlying t = some (.array L.length e)) (he : P.underlying e = some (.struct fs))
    (hf : ∀ (i : Nat) (f : Field), fs[i]? = some f → (P.underlying f.type = some .bool ∨ ∃ k, P.underlying f.type = some (.int k)) ∧ f.offset = i ∧ P.cellsOf f.type = 1) (hct : P.cellsOf e = fs.size) (hfN : fs.size = N)
    (hlen : ∀ x ∈ L, (f x).length = N) (hL : ∀ x ∈ L, ∀ v ∈ f x, (∃ b, v = .bool b) ∨ ∃ k n, v = .int k n) :
    PRep (immOf W) (fun _ => 0) 0 (.rptr (.agg ((L.flatMap f).map AV.sc))) (.pointer (some ⟨g, 0, none⟩)) := by
  refine table_rep (fun v hv => ?_) fun i v hv => ?_
  · obtain ⟨x, hx, hvx⟩ := List.mem_flatMap.1 hv
    rcases hL x hx v hvx with ⟨b, rfl⟩ | ⟨k, n, rfl⟩ <;> rfl
  · obtain ⟨g1, t1, cs, fuel, p, hg1, ht1, hvar, hd⟩ := laidMet.reads h hm
    obtain rfl := Option.some.inj (hg.symm.trans hg1)
    obtain rfl := Option.some.inj (ht.symm.trans ht1)
    rw [flat_at hN L hlen i] at hv
    cases hj : L[i / N]? with
    | none => rw [hj] at hv; cases hv
    | some x =>
      rw [hj] at hv
      have hv : (f x)[i % N]? = some v := hv
      have hjl : i / N < L.length := (List.getElem?_eq_some_iff.1 hj).1
      have hx : x ∈ L := List.mem_of_getElem? hj
      obtain ⟨fuel', d, q, hdi, hde⟩ := array_elem hu hd (i / N) hjl
      rw [List.getElem?_map, hj] at hdi
      obtain rfl := Option.some.inj hdi
      have hcs := scal_of_struct he hf hct (hL x hx) hde
      rw [hct, hfN] at hcs
      rw [← hcs, List.getElem?_take_of_lt (Nat.mod_lt _ hN), List.getElem?_drop] at hv
      rw [World.var?_cell hg hvar i, ← Array.getElem?_toList]
      rw [show i / N * N + i % N = i from Nat.div_add_mod' i N] at hv
      exact hv
/-- A listed array of numbers of one kind. -/
theorem nums_rep {l : List (String × DataW Unit)} (h : laidMet P l W) {name : String} {k : IntKind} {L : List Int} (hm : (name, (tabData k L : DataW Unit)) ∈ l) {g t e n : Nat}
    (hg : P.globalNamed name = some g) (ht : (P.globals[g]?).map (·.type) = some t) (hu : P.underlying t = some (.array n e)) (he : P.underlying e = some (.int k)) (hce : P.cellsOf e = 1) (hct : P.cellsOf t = n) :
    PRep (immOf W) (fun _ => 0) 0 (.rptr (.agg (L.map fun n => AV.sc (Value.int k n)))) (.pointer (some ⟨g, 0, none⟩)) := by
  have := table_rep (W := W) (g := g) (L := L.map fun z => Value.int k z) (fun v hv => by obtain ⟨z, _, rfl⟩ := List.mem_map.1 hv; rfl) fun i v hv => by
    obtain ⟨g1, t1, cs, fuel, p, hg1, ht1, hvar, hd⟩ := laidMet.reads h hm
    obtain rfl := Option.some.inj (hg.symm.trans hg1)
    obtain rfl := Option.some.inj (ht.symm.trans ht1)
    have hcs := cells_of_tab hu he hce hct hd
    rw [World.var?_cell hg hvar i, ← Array.getElem?_toList, hcs]
    exact hv
  rw [List.map_map] at this
  exact this
end
end Go.Abs
