/-
  Lifting: an argument that is a text; the tables of unicode/utf8.
-/
import Derived.Test.YtooibjkhgdpnaaaDoorLift
import Derived.Test.YtooibjkhgdpnaaaDoorLib2
import Derived.Lib.LaidU8
import Derived.PinnedBridge
import Derived.LaidSub
import Derived.ChangeMaps5
import Derived.SizedLaws
set_option linter.unusedSimpArgs false
set_option linter.unusedVariables false
namespace Go.Abs
open Go Go.ChangeShapes Go.WideShapes Go.ChangeAt Go.RowKit Go.Lib Go.ChangeMaps
section
variable {H : Type} {enc : TypeId × Value → H} {P : Program} {W : World}

theorem arg_str {t : TypeId} {v : Value} {d : DataW H} {ps : List MemPlace} {r : Reach} {b0 : Nat} (ht : P.underlying t = some .string)
    (hval : Value.okWide P W r b0 t v) (h : DataW.Trod enc P W 0 (fun _ => true) true t v d ps) : ∃ s : ByteArray, d = .lit (.string s.data.toList) ∧ LRep W [.sc (.string s)] [v] := by
  obtain ⟨s, rfl, hd, _⟩ := open_string ht hval h
  exact ⟨s, hd, .cons (.sc rfl) .nil⟩
end

theorem prepL_sc {F : Imm} {G : Nat → Nat} {n : Nat} : ∀ {L : List Value} {vs : List Value}, PRepL F G n (L.map AV.sc) vs → vs = L
  | [], _, .nil => rfl
  | v :: L, _, .cons h1 h2 => by
    cases h1
    rw [prepL_sc h2]
theorem prepL_mk {F : Imm} {G : Nat → Nat} {n : Nat} : ∀ (L : List Value), (∀ v ∈ L, isSc v = true) → PRepL F G n (L.map AV.sc) L
  | [], _ => .nil
  | v :: L, h => .cons (.sc (h v (by simp))) (prepL_mk L fun x hx => h x (by simp [hx]))

def firstL : List Value := (List.range 256).map fun (c : Nat) => Value.int .u8 (firstT c : Nat)
def accL : List Value := (List.range 32).map fun (j : Nat) => Value.int .u8 ((if j % 2 = 0 then accLo (j / 2) else accHi (j / 2) : Nat) : Int)
def powL : List Value := (List.range 20).map fun (j : Nat) => Value.int .u64 ((10 ^ j : Nat) : Int)
/-- The tables that Go's library reads. -/
def lexTab : Tabs := fun g => if g = 0 then some (.agg (firstL.map AV.sc)) else if g = 1 then some (.agg (accL.map AV.sc)) else if g = 4 then some (.agg (powL.map AV.sc)) else none

theorem tab_cell {F : Imm} {G : Nat → Nat} {n : Nat} {g : Nat} {L : List Value} (h : PRep F G n (.rptr (.agg (L.map AV.sc))) (.pointer (some ⟨g, 0, none⟩))) {i : Nat} {v : Value} (hi : L[i]? = some v) : F g i = some v := by
  cases h with
  | rptr h1 h2 h3 =>
    have e := prepL_sc h1
    subst e
    have := h2 i v hi
    rwa [Nat.zero_add] at this

theorem tab_rep {W : World} {g : Nat} {L : List Value} (hs : ∀ v ∈ L, isSc v = true) (h : ∀ (i : Nat) (v : Value), L[i]? = some v → W.cell? ⟨g, i, none⟩ = some v) :
    PRep (immOf W) (fun _ => 0) 0 (.rptr (.agg (L.map AV.sc))) (.pointer (some ⟨g, 0, none⟩)) := by
  refine .rptr (vs := L) (prepL_mk L hs) (fun i v hv => ?_) fun c hc => ?_
  · rw [Nat.zero_add]
    exact immOf_cell (h i v hv)
  · obtain ⟨v, _, rfl⟩ := List.mem_map.1 hc
    rfl

theorem lexT_tab : LexT lexTab := by
  intro G F H w hg
  have h0 := hg.tabs 0 _ (show lexTab 0 = some (.agg (firstL.map AV.sc)) from rfl)
  have h1 := hg.tabs 1 _ (show lexTab 1 = some (.agg (accL.map AV.sc)) from rfl)
  have h4 := hg.tabs 4 _ (show lexTab 4 = some (.agg (powL.map AV.sc)) from rfl)
  refine ⟨⟨fun c hc => hg.imm _ _ _ (tab_cell h0 ?_), fun i hi => ⟨hg.imm _ _ _ (tab_cell h1 ?_), hg.imm _ _ _ (tab_cell h1 ?_)⟩⟩, fun i hi => hg.imm _ _ _ (tab_cell h4 ?_)⟩
  · simp [firstL, List.getElem?_range hc]
  · rw [accL, List.getElem?_map, List.getElem?_range (by omega)]
    simp
  · rw [accL, List.getElem?_map, List.getElem?_range (by omega)]
    simp only [Option.map_some, show (2 * i + 1) % 2 = 1 by omega, show (2 * i + 1) / 2 = i by omega]
    rfl
  · rw [powL, List.getElem?_map, List.getElem?_range hi]
    rfl

theorem lexTab_ne : ¬ ∀ g, lexTab g = none := fun h => by have := h 0; simp [lexTab] at this

theorem lexTab_rep {W : World} (h : Utf8Tabs 0 1 W) (h10 : Go.Proofs.PowCells 4 W) : ∀ g x, lexTab g = some x → PRep (immOf W) (fun _ => 0) 0 (.rptr x) (.pointer (some ⟨g, 0, none⟩)) := by
  intro g x hx
  unfold lexTab at hx
  split at hx
  · rename_i hg
    subst hg
    cases hx
    refine tab_rep (fun v hv => ?_) fun i v hv => ?_
    · obtain ⟨c, _, rfl⟩ := List.mem_map.1 hv
      rfl
    · have hi : i < 256 := by
        have := (List.getElem?_eq_some_iff.1 hv).1
        simpa [firstL] using this
      rw [firstL, List.getElem?_map, List.getElem?_range hi] at hv
      rw [h.1 i hi, ← hv]
      rfl
  · split at hx
    · rename_i hg
      subst hg
      cases hx
      refine tab_rep (fun v hv => ?_) fun i v hv => ?_
      · obtain ⟨c, _, rfl⟩ := List.mem_map.1 hv
        rfl
      · have hi : i < 32 := by
          have := (List.getElem?_eq_some_iff.1 hv).1
          simpa [accL] using this
        rw [accL, List.getElem?_map, List.getElem?_range hi] at hv
        obtain ⟨h2, h3⟩ := h.2 (i / 2) (by omega)
        by_cases hm : i % 2 = 0
        · have e : i = 2 * (i / 2) := by omega
          rw [← e] at h2
          rw [h2, ← hv]
          simp [hm]
        · have e : i = 2 * (i / 2) + 1 := by omega
          rw [← e] at h3
          rw [h3, ← hv]
          simp [hm]
    · split at hx
      · rename_i hg
        subst hg
        cases hx
        refine tab_rep (fun v hv => ?_) fun i v hv => ?_
        · obtain ⟨c, _, rfl⟩ := List.mem_map.1 hv
          rfl
        · have hi : i < 20 := by
            have := (List.getElem?_eq_some_iff.1 hv).1
            simpa [powL] using this
          rw [powL, List.getElem?_map, List.getElem?_range hi] at hv
          rw [h10 i hi, ← hv]
          rfl
      · cases hx
end Go.Abs
