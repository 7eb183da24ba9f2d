/-
  LexisPlaces: each token stands where it says, and the text there begins with it.
-/
import Derived.Test.YtooibjkhgdpnaaaDoorXi
import Derived.Test.YtooibjkhgdpnaaaDoorXg
set_option linter.unusedSimpArgs false
set_option linter.unusedVariables false
namespace Go.Mdl
open Go

theorem tokB_at (t : Tkn) (k : Int) : tokB ⟨t.kind, t.num, k, t.text⟩ = tokB t := rfl
theorem tokB_ne {t : Tkn} {w : List UInt8} (h : tokB t = some w) : w ≠ [] := by
  by_cases hk : t.kind = 1 ∨ t.kind = 2
  · unfold tokB at h
    by_cases k1 : t.kind = 1
    · rw [if_pos k1] at h
      split at h
      · rw [← Option.some.inj h]; simp
      · cases h
    · rw [if_neg k1, if_pos (hk.resolve_left k1)] at h
      split at h
      · rw [← Option.some.inj h]; simp
      · cases h
  · exact (word_tok h hk 0).2.1

theorem place_ok : ∀ (L : List Tkn) (p : Option Tkn) (i : Nat) (u : List UInt8), textGo p L = some u → ∀ (k : Nat) (x : Tkn), (placed i p L)[k]? = some x →
    ∃ (n : Nat) (w : List UInt8), x.atF = (n : Int) ∧ tokB x = some w ∧ i ≤ n ∧ n - i + w.length ≤ u.length ∧ (u.drop (n - i)).take w.length = w
  | [], p, i, u, h, k, x, hx => by simp [placed] at hx
  | t :: ts, p, i, u, h, k, x, hx => by
    unfold textGo at h
    cases hw : tokB t with
    | none => rw [hw] at h; cases h
    | some w =>
      rw [hw] at h
      simp only at h
      cases hr : textGo (some t) ts with
      | none => rw [hr] at h; cases h
      | some r =>
        rw [hr] at h
        have hu : gap p t ++ w ++ r = u := Option.some.inj h
        unfold placed at hx
        rw [hw, Option.getD_some] at hx
        cases k with
        | zero =>
          simp only [List.getElem?_cons_zero, Option.some.injEq] at hx
          subst hx
          refine ⟨_, w, rfl, hw, by omega, ?_, ?_⟩
          · rw [← hu]; simp only [List.length_append]; omega
          · rw [← hu, Nat.add_sub_cancel_left, List.append_assoc, List.drop_left, List.take_left]
        | succ k =>
          simp only [List.getElem?_cons_succ] at hx
          obtain ⟨n, v, e1, e2, e3, e4, e5⟩ := place_ok ts (some t) _ r hr k x hx
          refine ⟨n, v, e1, e2, by omega, ?_, ?_⟩
          · rw [← hu]; simp only [List.length_append]; omega
          · rw [← hu, List.append_assoc, ← List.append_assoc (gap p t), List.drop_append]
            have h1 : (gap p t ++ w).drop (n - i) = [] := List.drop_eq_nil_of_le (by simp only [List.length_append]; omega)
            rw [h1, List.nil_append]
            have h2 : n - i - (gap p t ++ w).length = n - (i + (gap p t).length + w.length) := by simp only [List.length_append]; omega
            rw [h2]
            exact e5

theorem place_lt : ∀ (L : List Tkn) (p : Option Tkn) (i : Nat) (u : List UInt8), textGo p L = some u → ∀ (k : Nat) (x y : Tkn), (placed i p L)[k]? = some x → (placed i p L)[k + 1]? = some y → x.atF < y.atF
  | [], p, i, u, h, k, x, y, hx, _ => by simp [placed] at hx
  | t :: ts, p, i, u, h, k, x, y, hx, hy => by
    unfold textGo at h
    cases hw : tokB t with
    | none => rw [hw] at h; cases h
    | some w =>
      rw [hw] at h
      simp only at h
      cases hr : textGo (some t) ts with
      | none => rw [hr] at h; cases h
      | some r =>
        unfold placed at hx hy
        rw [hw, Option.getD_some] at hx hy
        simp only [List.getElem?_cons_succ] at hy
        cases k with
        | zero =>
          simp only [List.getElem?_cons_zero, Option.some.injEq] at hx
          subst hx
          obtain ⟨n, v, e1, _, e3, _, _⟩ := place_ok ts (some t) _ r hr 0 y hy
          have := List.length_pos_iff.2 (tokB_ne hw)
          rw [e1]
          simp only
          omega
        | succ k =>
          simp only [List.getElem?_cons_succ] at hx
          exact place_lt ts (some t) _ r hr k x y hx hy

theorem textGo_some : ∀ (L : List Tkn) (p : Option Tkn), (∀ t ∈ L, (tokB t).isSome = true) → ∃ u, textGo p L = some u
  | [], p, _ => ⟨[], rfl⟩
  | t :: ts, p, h => by
    obtain ⟨w, hw⟩ := Option.isSome_iff_exists.1 (h t (by simp))
    obtain ⟨r, hr⟩ := textGo_some ts (some t) (fun x hx => h x (by simp [hx]))
    unfold textGo
    rw [hw, hr]
    exact ⟨_, rfl⟩
theorem placed_len : ∀ (L : List Tkn) (p : Option Tkn) (i : Nat), (placed i p L).length = L.length
  | [], _, _ => rfl
  | t :: ts, p, i => by unfold placed; simp [placed_len ts]

/-- The tokens of the text of right tokens. -/
theorem tokens_text (L : List Tkn) (h : ∀ t ∈ L, (tokB t).isSome = true) (hl : L.length ≤ 400) : ∃ u, textGo none L = some u ∧ textB L = (⟨u.toArray⟩, 0) ∧ u.length ≤ 17 * 400 ∧ tokensB u = (placed 0 none L, 0) := by
  obtain ⟨u, hu⟩ := textGo_some L none h
  have hlen := textGo_len L none u hu
  refine ⟨u, hu, ?_, by omega, ?_⟩
  · unfold textB
    rw [if_neg (by omega), hu]
  · unfold tokensB
    rw [if_neg (by omega), scan_text L none 0 u hu]
    simp only
    rw [if_neg (by rw [placed_len]; omega)]

theorem tokB_num {t : Tkn} {w : List UInt8} (h : tokB t = some w) : 0 ≤ t.num ∧ t.num ≤ 999999 := by
  unfold tokB at h
  split at h
  · split at h
    · rename_i hc; omega
    · cases h
  split at h
  · split at h
    · rename_i hc; omega
    · cases h
  split at h
  · split at h
    · rename_i hc; omega
    · cases h
  split at h
  · split at h
    · rename_i hc; exact hc.1
    · cases h
  · cases h

theorem forR_useI {α ρ τ : Type} {F : Int → α → Unit → Option (Ctl Unit ρ)} {l : List α} {k : Unit ⊕ ρ → Option τ} {r : Option τ}
    (h : ∀ (i : Nat) x, l[i]? = some x → F (i : Int) x () = some (.next ())) (hk : k (.inl ()) = r) : bind1 (forR F l 0 ()) k = r := by
  obtain ⟨s', h1, _⟩ := forR_ind (F := F) (fun _ => True) l 0 () trivial (fun k x s hx _ => ⟨(), by rw [Nat.zero_add]; exact h k x hx, trivial⟩)
  rw [h1, bind1_of, hk]
end Go.Mdl
