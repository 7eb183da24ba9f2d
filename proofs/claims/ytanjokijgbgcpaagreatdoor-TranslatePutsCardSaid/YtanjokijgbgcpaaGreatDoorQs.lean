/-
  Whether two terms are the same.
-/
import Derived.Test.YtanjokijgbgcpaaGreatDoorPh
set_option linter.unusedSimpArgs false
set_option linter.unusedVariables false
namespace Go.Mdl
open Go

theorem ref02_Same_eq : ∀ (n : Nat) (a b : Tm), a.wt ≤ n → a.wt ≤ 1000000000 → ∃ r, ref02_Same n a b = some r ∧ (r = true ↔ a = b) := by
  intro n
  induction n with
  | zero => intro t b h; have := t.wt_pos; omega
  | succ n ih =>
    intro a b h hb
    cases a with
    | mk k i s l =>
    cases b with
    | mk k' i' s' m =>
      rw [Tm.wt_mk] at h hb
      have hl := Tm.len_wt l
      rw [ref02_Same]
      simp only [Tm.args_mk, Tm.kind_mk, Tm.index_mk, Tm.typeF_mk, joinB_eq, okLen_of (l := l) (by omega), chk_true, ine_iff, llen_eq]
      have no : ¬ (k = k' ∧ i = i' ∧ s = s' ∧ l.length = m.length) → ∃ r, some false = some r ∧ (r = true ↔ Tm.mk k i s l = Tm.mk k' i' s' m) := by
        intro hn
        refine ⟨false, rfl, ?_⟩
        simp only [Bool.false_eq_true, false_iff, Tm.mk.injEq, not_and]
        rintro rfl rfl rfl rfl
        exact hn ⟨rfl, rfl, rfl, rfl⟩
      by_cases hk : k ≠ k'
      · rw [if_pos hk, if_pos trivial]
        exact no fun h => hk h.1
      · rw [if_neg hk]
        by_cases hi : i ≠ i'
        · rw [if_pos hi, if_pos trivial]
          exact no fun h => hi h.2.1
        · rw [if_neg hi]
          obtain ⟨r, e1, e2⟩ := ref01_Same_eq FU s s' (by rw [FU_eq]; omega) (by omega)
          rw [e1]
          simp only [bind1_of]
          by_cases hr : r = true
          · have hs := e2.1 hr
            rw [if_pos hr]
            by_cases hlen : (l.length : Int) ≠ m.length
            · rw [if_pos hlen]
              exact no fun h => hlen (by omega)
            · rw [if_neg hlen]
              have hlen' : l.length = m.length := by omega
              let p : Tm → Tm → Bool := fun x y => (ref02_Same n x y).getD false
              have hp : ∀ x ∈ l, ∀ y, ref02_Same n x y = some (p x y) ∧ (p x y = true ↔ x = y) := by
                intro x hx y
                have := sumL_mem Tm.wt hx
                obtain ⟨r, h1, h2⟩ := ih x y (by omega) (by omega)
                have e : p x y = r := by show (ref02_Same n x y).getD false = r; rw [h1]; rfl
                rw [e]; exact ⟨h1, h2⟩
              have key := forR_two (F := fun (j : Int) (x : Tm) (_ : Unit) => bind1 (lget m j) fun y => bind1 (ref02_Same n x y) fun z => if z = true then some (Ctl.next ()) else some (Ctl.ret false)) p m l 0 m rfl hlen' (by
                intro k x y hx hy
                rw [lget_ofNat, hy]
                simp only [bind1_of]
                rw [(hp x hx y).1]
                rfl)
              rw [key]
              have he := all2B_eq p l m fun x hx y => (hp x hx y).2
              have hk' : k = k' := Classical.not_not.1 hk
              have hi' : i = i' := Classical.not_not.1 hi
              cases h2 : all2B p l m with
              | false =>
                refine ⟨false, rfl, ?_⟩
                rw [h2] at he
                simp only [Bool.false_eq_true, false_iff, Tm.mk.injEq, not_and]
                intro _ _ _ hlm
                exact absurd (he.2 hlm) (by simp)
              | true =>
                refine ⟨true, rfl, ?_⟩
                rw [h2] at he
                simp only [true_iff, Tm.mk.injEq]
                exact ⟨hk', hi', hs, he.1 rfl⟩
          · rw [if_neg hr, if_pos trivial]
            exact no fun h => hr (e2.2 h.2.2.1)

theorem ref02_Same_self {t : Tm} (hw : t.wt ≤ 1000000000) : ref02_Same FU t t = some true := by
  obtain ⟨r, h1, h2⟩ := ref02_Same_eq FU t t (by rw [FU_eq]; exact hw) hw
  rw [h1, h2.2 rfl]
end Go.Mdl
