/-
  Contracts of the library's functions (the kit's), as contracts of the abstract layer.
-/
import Derived.Test.YtgcimcppginchaaGreatDoorStep
import Derived.Below
set_option linter.unusedSimpArgs false
set_option linter.unusedVariables false
namespace Go.Abs
open Go Go.RowKit

theorem GW.below {T : Tabs} {G : Nat → Nat} {F : Imm} {H : Heap} {w w' : World} (h : GW T G F H w) (hb : Below w.heap.size w w') : GW T G F H w' where
  imm b o v hv := by
    have h1 := h.imm b o v hv
    have hlt : b < w.heap.size := by
      rcases Nat.lt_or_ge b w.heap.size with h2 | h2
      · exact h2
      · have := h.fresh b o h2
        rw [this] at hv
        cases hv
    unfold World.cell? at h1 ⊢
    rw [hb.block b hlt]
    exact h1
  glob o cs ho := by
    obtain ⟨ob, h1, h2⟩ := h.glob o cs ho
    refine ⟨ob, ?_, h2⟩
    have hlt : G o < w.heap.size := by
      rcases Nat.lt_or_ge (G o) w.heap.size with h4 | h4
      · exact h4
      · rw [Array.getElem?_eq_none h4] at h1
        cases h1
    rw [hb.block _ hlt]
    exact h1
  inj := h.inj
  gF := h.gF
  fresh b j hbj := h.fresh b j (Nat.le_trans hb.size hbj)
  tabs := h.tabs
  row hT b j v hv := by
    obtain ⟨vs, ty, fz, h1, h2⟩ := h.row hT b j v hv
    have hlt : b < w.heap.size := (Array.getElem?_eq_some_iff.1 h1).1
    exact ⟨vs, ty, fz, by rw [hb.block b hlt]; exact h1, h2⟩

theorem Ext.below' {G : Nat → Nat} {F : Imm} {n : Nat} {w w' : World} (hb : Below w.heap.size w w') : Ext w.heap.size G F n w G F n w' where
  os := hb.os
  tape := hb.tape
  output := hb.output
  size := hb.size
  len := Nat.le_refl _
  hG _ _ := rfl
  Gnew _ h h' := absurd h' (by omega)
  hF _ _ _ _ := rfl
  mF _ _ _ _ h := h
  heap b h _ := hb.block b h

/-- A function of the library that writes nothing of what was there. -/
theorem ACall.ofCalls {P : Program} {T : Tabs} {f : FuncId} {args : List AV} {H : Heap} {r : AV} (he : entersB P f = true)
    (h : ∀ (G : Nat → Nat) (F : Imm) (w : World) (vs : List Value), GW T G F H w → PRepL F G H.length args vs → ∃ v, PRep F G H.length r v ∧ Calls P f vs.toArray w fun e w' => e = .returned v ∧ Below w.heap.size w w') :
    ACall P T f args H r H := by
  refine ⟨he, fun G F w vs hg ha => ?_⟩
  obtain ⟨v, h1, h2⟩ := h G F w vs hg ha
  exact h2.mono fun e w' ⟨h3, h4⟩ => ⟨r, H, v, G, F, ⟨rfl, rfl⟩, h3, hg.below h4, h1, Ext.below' h4⟩

/-- And back: what a contract of the layer says of a call that leaves all objects as they are. -/
theorem ACall.calls {P : Program} {T : Tabs} {f : FuncId} {args : List AV} {r : AV} {v : Value} (h : ACall P T f args [] r []) (hr : ∀ F G x, PRep F G 0 r x → x = v) {G : Nat → Nat} {F : Imm} {w : World} {vs : List Value} (hg : GW T G F [] w) (ha : PRepL F G 0 args vs) :
    Calls P f vs.toArray w fun e w' => e = .returned v ∧ Below w.heap.size w w' :=
  (h.2 G F w vs hg ha).mono fun e w' ⟨r', H', v', G', F', ⟨e1, e2⟩, h3, h4, h5, h6⟩ => by
    subst e1; subst e2
    rw [hr F' G' v' h5] at h3
    exact ⟨h3, h6.os, h6.tape, h6.output, h6.size, fun k hk => h6.heap k hk (fun o ho => absurd ho (by simp))⟩
end Go.Abs
