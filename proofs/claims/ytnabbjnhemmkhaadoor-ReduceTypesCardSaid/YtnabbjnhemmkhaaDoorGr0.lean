/-
  Nodes that are made: the memory of nodes only grows.
-/
import Derived.Test.YtnabbjnhemmkhaaDoorRM
set_option linter.unusedSimpArgs false
set_option linter.unusedVariables false
namespace Go.Mdl
open Go

section
variable {α σ ρ : Type}
/-- What holds at the head of a loop that comes to an end holds there. -/
theorem forR_part {F : Int → α → σ → Option (Ctl σ ρ)} (I : σ → Prop) (Q : ρ → Prop) : ∀ (l : List α) (i : Nat) (s : σ) (o : σ ⊕ ρ), I s →
    (∀ (j : Int) (x : α) (s : σ) (c : Ctl σ ρ), I s → F j x s = some c → match c with | .next s' => I s' | .brk s' => I s' | .ret r => Q r) → forR F l i s = some o → match o with | .inl s' => I s' | .inr r => Q r
  | [], i, s, o, hs, _, h => by
    obtain rfl := Option.some.inj h
    exact hs
  | x :: l, i, s, o, hs, hF, h => by
    rw [forR_cons] at h
    obtain ⟨c, h1, h2⟩ := bind1_some h
    have := hF _ _ _ _ hs h1
    cases c with
    | next s' => exact forR_part I Q l (i + 1) s' o this hF h2
    | brk s' => obtain rfl := Option.some.inj h2; exact this
    | ret r => obtain rfl := Option.some.inj h2; exact this
end

theorem get_last {nh : List HC} {y : Sgraph_Node} : HC.get_cgraph_Node (nh ++ [HC.cgraph_Node y]) (List.length nh) = some y := by simp [HC.get_cgraph_Node]
theorem hput_last {nh : List HC} {x y : HC} : hput (nh ++ [x]) (List.length nh) y = nh ++ [y] := by simp [hput]

theorem graph_build_keeps {a0 a1 : Int} {a2 : Ty} {a3 : List (Option Nat)} {nh nh' : List HC} {r : Option Nat} (h : graph_build a0 a1 a2 a3 nh = some (r, nh')) : ∃ y, r = some nh.length ∧ nh' = nh ++ [HC.cgraph_Node y] := by
  unfold graph_build at h
  obtain ⟨_, h⟩ := chk_some h
  obtain ⟨F, hF, h⟩ := joinB_some h
  obtain ⟨out, hl, h⟩ := bind1_some h
  have := forR_part (I := fun v => ∃ y, v = nh ++ [HC.cgraph_Node y]) (Q := fun _ => False) a3 0 _ out ⟨_, rfl⟩ (by
    rintro j x s c ⟨y, rfl⟩ hc
    rw [hF] at hc
    dsimp only at hc
    obtain ⟨y1, h1, hc⟩ := bind1_some hc
    obtain ⟨q, h2, hc⟩ := bind1_some hc
    obtain ⟨y2, h3, hc⟩ := bind1_some hc
    obtain ⟨y3, h4, hc⟩ := bind1_some hc
    obtain rfl := Option.some.inj hc
    simp only [hput_last]
    exact ⟨_, rfl⟩) hl
  cases out with
  | inr r => exact this.elim
  | inl v =>
    obtain ⟨y, rfl⟩ := this
    rw [sumK_inl] at h
    obtain ⟨j, hj, h⟩ := joinB_some h
    subst hj
    simp only [get_last, bind1_of, hput_last] at h
    split at h
    · obtain ⟨rfl, rfl⟩ := Prod.mk.inj (Option.some.inj h); exact ⟨_, rfl, rfl⟩
    · split at h <;> (obtain ⟨rfl, rfl⟩ := Prod.mk.inj (Option.some.inj h); exact ⟨_, rfl, rfl⟩)

def Kp (nh nh' : List HC) : Prop := ∃ X, nh' = nh ++ X
theorem Kp.refl (nh : List HC) : Kp nh nh := ⟨[], by simp⟩
theorem Kp.trans {a b c : List HC} (h1 : Kp a b) (h2 : Kp b c) : Kp a c := by
  obtain ⟨X, rfl⟩ := h1
  obtain ⟨Y, rfl⟩ := h2
  exact ⟨X ++ Y, by simp⟩
theorem Kp.build {a0 a1 : Int} {a2 : Ty} {a3 : List (Option Nat)} {nh nh' : List HC} {r : Option Nat} (h : graph_build a0 a1 a2 a3 nh = some (r, nh')) : Kp nh nh' := by
  obtain ⟨y, _, rfl⟩ := graph_build_keeps h
  exact ⟨_, rfl⟩
theorem Kp.with_ {a0 : Option Nat} {a3 : List (Option Nat)} {nh nh' : List HC} {r : Option Nat} (h : graph_Node_with a0 a3 nh = some (r, nh')) : Kp nh nh' := by
  unfold graph_Node_with at h
  obtain ⟨_, _, h⟩ := bind1_some h
  obtain ⟨_, _, h⟩ := bind1_some h
  obtain ⟨_, _, h1, h⟩ := bind2_some h
  obtain ⟨rfl, rfl⟩ := Prod.mk.inj (Option.some.inj h)
  exact Kp.build h1

theorem Kp.lift : ∀ (n : Nat) {a0 : Option Nat} {a1 a2 : Int} {nh nh' : List HC} {r : Option Nat}, graph_Node_lift n a0 a1 a2 nh = some (r, nh') → Kp nh nh'
  | 0, _, _, _, _, _, _, h => by cases h
  | n + 1, a0, a1, a2, nh, nh', r, h => by
    rw [graph_Node_lift] at h
    obtain ⟨j, hj, h⟩ := joinB_some h
    have key : ∀ b, j b = some (r, nh') → Kp nh nh' := by
      intro b h
      rw [hj] at h
      dsimp only at h
      rcases ite_some h with ⟨_, h⟩ | ⟨_, h⟩
      · obtain ⟨rfl, rfl⟩ := Prod.mk.inj (Option.some.inj h); exact Kp.refl _
      · obtain ⟨_, _, h⟩ := bind1_some h
        obtain ⟨x, _, h⟩ := bind1_some h
        rcases ite_some h with ⟨_, h⟩ | ⟨_, h⟩
        · obtain ⟨_, _, h1, h⟩ := bind2_some h
          obtain ⟨rfl, rfl⟩ := Prod.mk.inj (Option.some.inj h)
          exact Kp.build h1
        · obtain ⟨_, h⟩ := chk_some h
          obtain ⟨F, hF, h⟩ := joinB_some h
          obtain ⟨out, hl, h⟩ := bind1_some h
          have := forR_part (I := fun v => Kp nh v.2) (Q := fun _ => False) x.args 0 _ out (Kp.refl _) (by
            rintro j x ⟨s1, s2⟩ c hs hc
            rw [hF] at hc
            dsimp only [un2] at hc
            obtain ⟨_, _, hc⟩ := bind1_some hc
            obtain ⟨_, _, h1, hc⟩ := bind2_some hc
            obtain ⟨_, hc⟩ := chk_some hc
            obtain rfl := Option.some.inj hc
            exact hs.trans (Kp.lift n h1)) hl
          cases out with
          | inr r => exact this.elim
          | inl v =>
            rw [sumK_inl] at h
            dsimp only [un2] at h
            obtain ⟨_, _, h1, h⟩ := bind2_some h
            obtain ⟨rfl, rfl⟩ := Prod.mk.inj (Option.some.inj h)
            exact this.trans (Kp.with_ h1)
    obtain ⟨_, _, h⟩ := bind1_some h
    obtain ⟨_, _, h⟩ := bind1_some h
    rcases ite_some h with ⟨_, h⟩ | ⟨_, h⟩ <;> exact key _ h

theorem Kp.put : ∀ (n : Nat) {a0 : Option Nat} {a1 : Int} {a2 : Option Nat} {nh nh' : List HC} {r : Option Nat}, graph_Node_put n a0 a1 a2 nh = some (r, nh') → Kp nh nh'
  | 0, _, _, _, _, _, _, h => by cases h
  | n + 1, a0, a1, a2, nh, nh', r, h => by
    rw [graph_Node_put] at h
    obtain ⟨_, _, h⟩ := bind1_some h
    obtain ⟨x, _, h⟩ := bind1_some h
    rcases ite_some h with ⟨_, h⟩ | ⟨_, h⟩
    · obtain ⟨rfl, rfl⟩ := Prod.mk.inj (Option.some.inj h); exact Kp.refl _
    · rcases ite_some h with ⟨_, h⟩ | ⟨_, h⟩
      · rcases ite_some h with ⟨_, h⟩ | ⟨_, h⟩
        · obtain ⟨_, _, h1, h⟩ := bind2_some h
          obtain ⟨rfl, rfl⟩ := Prod.mk.inj (Option.some.inj h)
          exact Kp.lift _ h1
        · obtain ⟨_, _, h1, h⟩ := bind2_some h
          obtain ⟨rfl, rfl⟩ := Prod.mk.inj (Option.some.inj h)
          exact Kp.build h1
      · obtain ⟨_, h⟩ := chk_some h
        obtain ⟨F, hF, h⟩ := joinB_some h
        obtain ⟨out, hl, h⟩ := bind1_some h
        have := forR_part (I := fun v => Kp nh v.2) (Q := fun _ => False) x.args 0 _ out (Kp.refl _) (by
          rintro j x ⟨s1, s2⟩ c hs hc
          rw [hF] at hc
          dsimp only [un2] at hc
          obtain ⟨_, _, hc⟩ := bind1_some hc
          obtain ⟨_, _, h1, hc⟩ := bind2_some hc
          obtain ⟨_, hc⟩ := chk_some hc
          obtain rfl := Option.some.inj hc
          exact hs.trans (Kp.put n h1)) hl
        cases out with
        | inr r => exact this.elim
        | inl v =>
          rw [sumK_inl] at h
          dsimp only [un2] at h
          obtain ⟨_, _, h1, h⟩ := bind2_some h
          obtain ⟨rfl, rfl⟩ := Prod.mk.inj (Option.some.inj h)
          exact this.trans (Kp.with_ h1)

theorem Kp.app {a0 : Option Nat} {a1 : List (Option Nat)} {nh nh' : List HC} {r : Option Nat} (h : graph_app a0 a1 nh = some (r, nh')) : Kp nh nh' := by
  unfold graph_app at h
  obtain ⟨_, h⟩ := chk_some h
  obtain ⟨F, hF, h⟩ := joinB_some h
  obtain ⟨out, hl, h⟩ := bind1_some h
  have := forR_part (I := fun v => Kp nh v.2) (Q := fun _ => False) a1 0 _ out (Kp.refl _) (by
    rintro j x ⟨s1, s2⟩ c hs hc
    rw [hF] at hc
    dsimp only [un2] at hc
    obtain ⟨_, _, h1, hc⟩ := bind2_some hc
    obtain rfl := Option.some.inj hc
    exact hs.trans (Kp.build h1)) hl
  cases out with
  | inr r => exact this.elim
  | inl v =>
    rw [sumK_inl] at h
    dsimp only [un2] at h
    obtain ⟨rfl, rfl⟩ := Prod.mk.inj (Option.some.inj h)
    exact this

theorem Kp.contract {a0 : Option Nat} {nh nh' : List HC} {r : Option Nat} (h : graph_Node_contract a0 nh = some (r, nh')) : Kp nh nh' := by
  unfold graph_Node_contract at h
  obtain ⟨_, _, h⟩ := bind1_some h
  obtain ⟨_, _, h⟩ := bind1_some h
  rcases ite_some h with ⟨_, h⟩ | ⟨_, h⟩
  · obtain ⟨_, _, h⟩ := bind1_some h
    obtain ⟨_, _, h⟩ := bind1_some h
    obtain ⟨_, _, h⟩ := bind1_some h
    obtain ⟨_, _, h⟩ := bind1_some h
    obtain ⟨_, _, h⟩ := bind1_some h
    obtain ⟨_, _, h1, h⟩ := bind2_some h
    obtain ⟨rfl, rfl⟩ := Prod.mk.inj (Option.some.inj h)
    exact Kp.put _ h1
  · rcases ite_some h with ⟨_, h⟩ | ⟨_, h⟩
    · obtain ⟨_, _, h⟩ := bind1_some h
      obtain ⟨_, _, h⟩ := bind1_some h
      obtain ⟨_, _, h⟩ := bind1_some h
      obtain ⟨_, _, h⟩ := bind1_some h
      obtain ⟨rfl, rfl⟩ := Prod.mk.inj (Option.some.inj h)
      exact Kp.refl _
    · rcases ite_some h with ⟨_, h⟩ | ⟨_, h⟩
      · obtain ⟨_, _, h⟩ := bind1_some h
        obtain ⟨_, _, h⟩ := bind1_some h
        obtain ⟨_, _, h⟩ := bind1_some h
        obtain ⟨_, _, h⟩ := bind1_some h
        obtain ⟨rfl, rfl⟩ := Prod.mk.inj (Option.some.inj h)
        exact Kp.refl _
      · obtain ⟨_, _, h⟩ := bind1_some h
        obtain ⟨_, _, h⟩ := bind1_some h
        obtain ⟨_, _, h⟩ := bind1_some h
        obtain ⟨_, _, h⟩ := bind1_some h
        obtain ⟨_, _, h⟩ := bind1_some h
        rcases ite_some h with ⟨_, h⟩ | ⟨_, h⟩
        · obtain ⟨rfl, rfl⟩ := Prod.mk.inj (Option.some.inj h)
          exact Kp.refl _
        · obtain ⟨_, _, h⟩ := bind1_some h
          obtain ⟨_, _, h1, h⟩ := bind2_some h
          obtain ⟨_, _, h⟩ := bind1_some h
          obtain ⟨_, _, h2, h⟩ := bind2_some h
          obtain ⟨_, _, h3, h⟩ := bind2_some h
          obtain ⟨rfl, rfl⟩ := Prod.mk.inj (Option.some.inj h)
          exact ((Kp.with_ h1).trans (Kp.app h2)).trans (Kp.app h3)

theorem graph_grown_keeps {a0 : Option Nat} {nh nh' : List HC} {r : Int} (h : graph_Node_grown a0 nh = some (r, nh')) : ∃ X, nh' = nh ++ X := by
  unfold graph_Node_grown at h
  obtain ⟨_, _, h⟩ := bind1_some h
  obtain ⟨_, _, h⟩ := bind1_some h
  have fin : ∀ {x : Int} {m : List HC}, some (x, m) = some (r, nh') → Kp nh m → ∃ X, nh' = nh ++ X := by
    intro x m e hm
    obtain ⟨rfl, rfl⟩ := Prod.mk.inj (Option.some.inj e)
    exact hm
  rcases ite_some h with ⟨_, h⟩ | ⟨_, h⟩
  · iterate 10 obtain ⟨_, _, h⟩ := bind1_some h
    exact fin h (Kp.refl _)
  · rcases ite_some h with ⟨_, h⟩ | ⟨_, h⟩
    · iterate 3 obtain ⟨_, _, h⟩ := bind1_some h
      rcases ite_some h with ⟨_, h⟩ | ⟨_, h⟩
      · iterate 9 obtain ⟨_, _, h⟩ := bind1_some h
        exact fin h (Kp.refl _)
      · iterate 3 obtain ⟨_, _, h⟩ := bind1_some h
        exact fin h (Kp.refl _)
    · rcases ite_some h with ⟨_, h⟩ | ⟨_, h⟩
      · iterate 3 obtain ⟨_, _, h⟩ := bind1_some h
        rcases ite_some h with ⟨_, h⟩ | ⟨_, h⟩
        · iterate 12 obtain ⟨_, _, h⟩ := bind1_some h
          exact fin h (Kp.refl _)
        · iterate 3 obtain ⟨_, _, h⟩ := bind1_some h
          exact fin h (Kp.refl _)
      · obtain ⟨_, _, h1, h⟩ := bind2_some h
        obtain ⟨_, _, h⟩ := bind1_some h
        obtain ⟨_, _, h⟩ := bind1_some h
        exact fin h (Kp.contract h1)
end Go.Mdl
