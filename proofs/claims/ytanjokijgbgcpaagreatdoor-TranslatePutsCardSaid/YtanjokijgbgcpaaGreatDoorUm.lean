/-
  Whether two formulas are the same: both forms.
-/
import Derived.Test.YtanjokijgbgcpaaGreatDoorPk
import Derived.Test.YtanjokijgbgcpaaGreatDoorQs
set_option linter.unusedSimpArgs false
set_option linter.unusedVariables false
namespace Go.Mdl
open Go

/-- Two lists, element by element. -/
theorem same_loop {α : Type} {E : α → α → Option Bool} {m l : List α} (hlen : l.length = m.length) (h : ∀ x ∈ l, ∀ y, ∃ r, E x y = some r ∧ (r = true ↔ x = y)) :
    ∃ o : Unit ⊕ Bool, forR (fun (j : Int) (x : α) (_ : Unit) => bind1 (lget m j) fun y => bind1 (E x y) fun z => if z = true then (some (Ctl.next ()) : Option (Ctl Unit Bool)) else some (Ctl.ret false)) l 0 () = some o ∧ (o = .inl () ∧ l = m ∨ o = .inr false ∧ l ≠ m) := by
  let p : α → α → Bool := fun x y => (E x y).getD false
  have hp : ∀ x ∈ l, ∀ y, E x y = some (p x y) ∧ (p x y = true ↔ x = y) := by
    intro x hx y
    obtain ⟨r, h1, h2⟩ := h x hx y
    have e : p x y = r := by show (E x y).getD false = r; rw [h1]; rfl
    rw [e]; exact ⟨h1, h2⟩
  have key := forR_two (F := fun (j : Int) (x : α) (_ : Unit) => bind1 (lget m j) fun y => bind1 (E x y) fun z => if z = true then some (Ctl.next ()) else some (Ctl.ret false)) p m l 0 m rfl hlen (by
    intro k x y hx hy
    rw [lget_ofNat, hy]
    simp only [bind1_of]
    rw [(hp x hx y).1]
    rfl)
  have he := all2B_eq p l m fun x hx y => (hp x hx y).2
  rw [key]
  cases h2 : all2B p l m with
  | false => rw [h2] at he; exact ⟨_, rfl, .inr ⟨rfl, fun e => absurd (he.2 e) (by simp)⟩⟩
  | true => rw [h2] at he; exact ⟨_, rfl, .inl ⟨rfl, he.1 rfl⟩⟩

theorem ref07_Same_eq : ∀ (n : Nat) (a b : Fm), a.wt ≤ n → a.wt ≤ 1000000000 → ∃ r, ref07_Same n a b = some r ∧ (r = true ↔ a = b) := by
  intro n
  induction n with
  | zero => intro t b h; have := t.wt_pos; omega
  | succ n ih =>
    intro a b h hb
    cases a with
    | mk k s ts l =>
    cases b with
    | mk k' s' us m =>
      rw [Fm.wt_mk] at h hb
      have hl := Fm.len_wt l
      have htl := Tm.len_wt ts
      rw [ref07_Same]
      simp only [Fm.args_mk, Fm.kind_mk, Fm.terms_mk, Fm.typeF_mk, joinB_eq, okLen_of (l := l) (by omega), chk_true, ine_iff, llen_eq]
      have no : ¬ (k = k' ∧ s = s' ∧ ts = us ∧ l = m) → ∃ r, some false = some r ∧ (r = true ↔ Fm.mk k s ts l = Fm.mk k' s' us m) := by
        intro hn
        refine ⟨false, rfl, ?_⟩
        simp only [Bool.false_eq_true, false_iff, Fm.mk.injEq]
        exact hn
      have sameAll : ∃ r, ref02_SameAll ts us = some r ∧ (r = true ↔ ts = us) := by
        unfold ref02_SameAll
        simp only [ine_iff, llen_eq, joinB_eq, okLen_of (l := ts) (by omega), chk_true]
        by_cases ht : (ts.length : Int) ≠ us.length
        · rw [if_pos ht]
          exact ⟨false, rfl, by simp only [Bool.false_eq_true, false_iff]; rintro rfl; exact ht rfl⟩
        · rw [if_neg ht]
          obtain ⟨o, k1, k2⟩ := same_loop (E := fun x y => ref02_Same FU x y) (l := ts) (m := us) (by omega) (fun x hx y => ref02_Same_eq FU x y (by have := sumL_mem Tm.wt hx; rw [FU_eq]; omega) (by have := sumL_mem Tm.wt hx; omega))
          rw [k1]
          rcases k2 with ⟨rfl, h2⟩ | ⟨rfl, h2⟩
          · exact ⟨true, rfl, by simpa using h2⟩
          · exact ⟨false, rfl, by simpa using h2⟩
      by_cases hk : k ≠ k'
      · rw [if_pos hk, if_pos trivial]
        exact no fun h => hk h.1
      · rw [if_neg hk, ref01_Same' (by omega)]
        simp only [bind1_of]
        by_cases hr : s.sameB s' = true
        · have hs := (Ty.sameB_iff _ _).1 hr
          obtain ⟨r, e1, e2⟩ := sameAll
          rw [if_pos hr, e1]
          simp only [bind1_of]
          by_cases ht : r = true
          · rw [if_pos ht]
            by_cases hm : (l.length : Int) ≠ m.length
            · rw [if_pos hm]
              exact no fun h => hm (by rw [h.2.2.2])
            · rw [if_neg hm]
              obtain ⟨o, q1, q2⟩ := same_loop (E := fun x y => ref07_Same n x y) (l := l) (m := m) (by omega) (fun x hx y => ih x y (by have := sumL_mem Fm.wt hx; omega) (by have := sumL_mem Fm.wt hx; omega))
              rw [q1]
              rcases q2 with ⟨rfl, h3⟩ | ⟨rfl, h3⟩
              · exact ⟨true, rfl, by simp only [true_iff, Fm.mk.injEq]; exact ⟨Classical.not_not.1 hk, hs, e2.1 ht, h3⟩⟩
              · exact no fun h => h3 h.2.2.2
          · rw [if_neg ht, if_pos trivial]
            exact no fun h => ht (e2.2 h.2.2.1)
        · rw [if_neg hr, if_pos trivial]
          exact no fun h => hr ((Ty.sameB_iff _ _).2 h.2.1)
end Go.Mdl
