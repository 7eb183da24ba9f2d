/-
  Plain lemmas on the words of models: tests as propositions, words without wrapping, loops as maps, sums and searches.
-/
import Derived.Test.YtgcimcppginchaaGreatDoorOps
set_option linter.unusedSimpArgs false
set_option linter.unusedVariables false
namespace Go.Mdl
open Go

@[simp] theorem ieq_iff (a b : Int) : ieq a b = true ↔ a = b := by simp [ieq]
@[simp] theorem ine_iff (a b : Int) : ine a b = true ↔ a ≠ b := by simp [ine]
@[simp] theorem ilt_iff (a b : Int) : ilt a b = true ↔ a < b := by simp [ilt]
@[simp] theorem ile_iff (a b : Int) : ile a b = true ↔ a ≤ b := by simp [ile]
@[simp] theorem igt_iff (a b : Int) : igt a b = true ↔ b < a := by simp [igt]
@[simp] theorem ige_iff (a b : Int) : ige a b = true ↔ b ≤ a := by simp [ige]
@[simp] theorem sel_or (a b : Bool) : sel a true b = (a || b) := by cases a <;> rfl
@[simp] theorem sel_and (a b : Bool) : sel a b false = (a && b) := by cases a <;> rfl
@[simp] theorem sel_ornot (a b : Bool) : sel a b true = (!a || b) := by cases a <;> rfl
@[simp] theorem bnot_eq (a : Bool) : bnot a = !a := rfl
@[simp] theorem beqB_iff (a b : Bool) : beqB a b = true ↔ a = b := by cases a <;> cases b <;> simp [beqB]
@[simp] theorem bneB_iff (a b : Bool) : bneB a b = true ↔ a ≠ b := by cases a <;> cases b <;> simp [bneB]
@[simp] theorem lapp_eq {α : Type} (l m : List α) : lapp l m = l ++ m := rfl
@[simp] theorem llen_eq {α : Type} (l : List α) : llen l = (l.length : Int) := rfl
theorem lget_ofNat {α : Type} (l : List α) (i : Nat) : lget l (i : Int) = l[i]? := by simp [lget]
@[simp] theorem lget_zero {α : Type} (l : List α) : lget l 0 = l[0]? := by simp [lget]
@[simp] theorem lget_one {α : Type} (l : List α) : lget l 1 = l[1]? := by simp [lget]
@[simp] theorem lget_two {α : Type} (l : List α) : lget l 2 = l[2]? := by simp [lget]
theorem lget_some {α : Type} {l : List α} {i : Int} (h0 : 0 ≤ i) (h1 : i < l.length) : ∃ x, lget l i = some x ∧ x ∈ l := by
  obtain ⟨k, rfl⟩ := Int.eq_ofNat_of_zero_le h0
  have hk : k < l.length := by omega
  exact ⟨l[k], by rw [lget_ofNat]; simp [hk], List.getElem_mem hk⟩
theorem okLen_of {α : Type} {l : List α} (h : l.length ≤ 1000000000) : okLen l = true := by unfold okLen lim; exact decide_eq_true (by omega)
theorem okApp_of {α : Type} {l m : List α} (h : l.length + m.length ≤ 1000000000) : okApp l m = true := by unfold okApp lim; exact decide_eq_true (by omega)
theorem okDiv_of {b : Int} (h : b ≠ 0) : okDiv b = true := by simp [okDiv, h]

theorem wrap_in {n : Int} (h1 : -9223372036854775808 ≤ n) (h2 : n < 9223372036854775808) : IntKind.i64.wrap n = n := by
  rw [IntKind.wrap_i64]; omega
theorem iadd_in {a b : Int} (h1 : -9223372036854775808 ≤ a + b) (h2 : a + b < 9223372036854775808) : iadd .i64 a b = a + b := wrap_in h1 h2
theorem isub_in {a b : Int} (h1 : -9223372036854775808 ≤ a - b) (h2 : a - b < 9223372036854775808) : isub .i64 a b = a - b := wrap_in h1 h2
theorem imul_in {a b : Int} (h1 : -9223372036854775808 ≤ a * b) (h2 : a * b < 9223372036854775808) : imul .i64 a b = a * b := wrap_in h1 h2

section
variable {α β σ ρ : Type}

/-- A loop that goes through all rounds. -/
theorem forR_all {F : Int → α → σ → Option (Ctl σ ρ)} (step : σ → α → σ) (I : Nat → σ → Prop) : ∀ (l : List α) (i : Nat) (s : σ), I i s →
    (∀ k x s, l[k]? = some x → I (i + k) s → F ((i + k : Nat) : Int) x s = some (.next (step s x)) ∧ I (i + k + 1) (step s x)) → forR F l i s = some (.inl (l.foldl step s))
  | [], i, s, _, _ => rfl
  | x :: l, i, s, hi, h => by
    have h0 := h 0 x s rfl hi
    rw [Nat.add_zero] at h0
    rw [forR_cons, h0.1]
    simp only [bind1_of, ctlK_next, List.foldl_cons]
    refine forR_all step I l (i + 1) (step s x) h0.2 fun k y s' hk hs => ?_
    have := h (k + 1) y s' (by simpa using hk) (by rw [← Nat.add_assoc, Nat.add_right_comm]; exact hs)
    rw [show i + (k + 1) = i + 1 + k by omega] at this
    exact this

/-- A loop that goes through all rounds, by what holds at its head. -/
theorem forR_ind {F : Int → α → σ → Option (Ctl σ ρ)} (I : σ → Prop) : ∀ (l : List α) (i : Nat) (s : σ), I s →
    (∀ k x s, l[k]? = some x → I s → ∃ s', F ((i + k : Nat) : Int) x s = some (.next s') ∧ I s') → ∃ s', forR F l i s = some (.inl s') ∧ I s'
  | [], i, s, hs, _ => ⟨s, rfl, hs⟩
  | x :: l, i, s, hs, h => by
    obtain ⟨s1, h1, h2⟩ := h 0 x s rfl hs
    rw [Nat.add_zero] at h1
    rw [forR_cons, h1]
    simp only [bind1_of, ctlK_next]
    refine forR_ind I l (i + 1) s1 h2 fun k y s' hk hs' => ?_
    have := h (k + 1) y s' (by simpa using hk) hs'
    rw [show i + (k + 1) = i + 1 + k by omega] at this
    exact this
/-- A loop that may return from a round. -/
theorem forR_indR {F : Int → α → σ → Option (Ctl σ ρ)} (I : σ → Prop) (Q : ρ → Prop) : ∀ (l : List α) (i : Nat) (s : σ), I s →
    (∀ k x s, l[k]? = some x → I s → (∃ s', F ((i + k : Nat) : Int) x s = some (.next s') ∧ I s') ∨ (∃ r, F ((i + k : Nat) : Int) x s = some (.ret r) ∧ Q r)) →
    (∃ s', forR F l i s = some (.inl s') ∧ I s') ∨ (∃ r, forR F l i s = some (.inr r) ∧ Q r)
  | [], i, s, hs, _ => .inl ⟨s, rfl, hs⟩
  | x :: l, i, s, hs, h => by
    have h0 := h 0 x s rfl hs
    rw [Nat.add_zero] at h0
    rw [forR_cons]
    rcases h0 with ⟨s1, h1, h2⟩ | ⟨r, h1, h2⟩
    · rw [h1]
      simp only [bind1_of, ctlK_next]
      refine forR_indR I Q l (i + 1) s1 h2 fun k y s' hk hs' => ?_
      have := h (k + 1) y s' (by simpa using hk) hs'
      rw [show i + (k + 1) = i + 1 + k by omega] at this
      exact this
    · rw [h1]
      exact .inr ⟨r, rfl, h2⟩

theorem forR_map {F : Int → α → List β → Option (Ctl (List β) ρ)} (g : α → β) : ∀ (l : List α) (i : Nat) (v : List β), v.length + l.length ≤ 1000000000 →
    (∀ j x v, x ∈ l → v.length + 1 ≤ 1000000000 → F j x v = some (.next (v ++ [g x]))) → forR F l i v = some (.inl (v ++ l.map g))
  | [], i, v, _, _ => by simp
  | x :: l, i, v, hl, h => by
    simp only [List.length_cons] at hl
    rw [forR_cons, h i x v (by simp) (by omega)]
    simp only [bind1_of, ctlK_next]
    rw [forR_map g l (i + 1) (v ++ [g x]) (by simp; omega) fun j y v hy hv => h j y v (by simp [hy]) hv]
    simp

/-- The sum of something over a list. -/
def sumL (g : α → Nat) : List α → Nat
  | [] => 0
  | x :: l => g x + sumL g l
theorem sumL_mem (g : α → Nat) {l : List α} {x : α} (h : x ∈ l) : g x ≤ sumL g l := by
  induction l with
  | nil => cases h
  | cons y l ih =>
    simp only [sumL]
    rcases List.mem_cons.1 h with rfl | h
    · omega
    · have := ih h; omega
theorem sumL_len (g : α → Nat) (l : List α) (h : ∀ x ∈ l, 1 ≤ g x) : l.length ≤ sumL g l := by
  induction l with
  | nil => simp
  | cons y l ih => simp only [sumL, List.length_cons]; have := h y (by simp); have := ih fun x hx => h x (by simp [hx]); omega

theorem forR_sum {F : Int → α → Int → Option (Ctl Int ρ)} (g : α → Nat) : ∀ (l : List α) (i v : Nat), v + sumL g l ≤ 4611686018427387904 →
    (∀ j x (v : Int), x ∈ l → F j x v = some (.next (iadd .i64 v (g x)))) → forR F l i (v : Int) = some (.inl ((v + sumL g l : Nat) : Int))
  | [], i, v, _, _ => by simp [sumL]
  | x :: l, i, v, hl, h => by
    simp only [sumL] at hl ⊢
    rw [forR_cons, h i x v (by simp), iadd_in (by omega) (by omega)]
    simp only [bind1_of, ctlK_next]
    have := forR_sum g l (i + 1) (v + g x) (by omega) fun j y v hy => h j y v (by simp [hy])
    rw [show (v : Int) + (g x : Int) = ((v + g x : Nat) : Int) by omega, this]
    rw [Nat.add_assoc]

/-- A sum, given up where something is not right. -/
theorem forR_sumOk {F : Int → α → Int → Option (Ctl Int ρ)} (g : α → Nat) (ok : α → Bool) (r : ρ) : ∀ (l : List α) (i v : Nat), v + sumL g l ≤ 4611686018427387904 →
    (∀ j x (v : Int), x ∈ l → F j x v = if ok x = true then some (.next (iadd .i64 v (g x))) else some (.ret r)) →
    forR F l i (v : Int) = if l.all ok = true then some (.inl ((v + sumL g l : Nat) : Int)) else some (.inr r)
  | [], i, v, _, _ => by simp [sumL]
  | x :: l, i, v, hl, h => by
    simp only [sumL] at hl ⊢
    rw [forR_cons, h i x v (by simp), iadd_in (by omega) (by omega)]
    cases ho : ok x with
    | false => simp [ho]
    | true =>
      simp only [if_true, bind1_of, ctlK_next, List.all_cons, ho, Bool.true_and]
      have := forR_sumOk g ok r l (i + 1) (v + g x) (by omega) fun j y v hy => h j y v (by simp [hy])
      rw [show (v : Int) + (g x : Int) = ((v + g x : Nat) : Int) by omega, this, Nat.add_assoc]

/-- Whether all is right. -/
theorem forR_ok {F : Int → α → Unit → Option (Ctl Unit ρ)} (ok : α → Bool) (r : ρ) : ∀ (l : List α) (i : Nat),
    (∀ j x, x ∈ l → F j x () = if ok x = true then some (.next ()) else some (.ret r)) → forR F l i () = if l.all ok = true then some (.inl ()) else some (.inr r)
  | [], i, _ => by simp
  | x :: l, i, h => by
    rw [forR_cons, h i x (by simp)]
    cases ho : ok x with
    | false => simp [ho]
    | true =>
      simp only [if_true, bind1_of, ctlK_next, List.all_cons, ho, Bool.true_and]
      exact forR_ok ok r l (i + 1) fun j y hy => h j y (by simp [hy])

/-- The first that is not 0. -/
def firstE : List Int → Int
  | [] => 0
  | e :: l => if e = 0 then firstE l else e
theorem forR_first {F : Int → α → Unit → Option (Ctl Unit Int)} (e : α → Int) : ∀ (l : List α) (i : Nat),
    (∀ j x, x ∈ l → F j x () = if e x ≠ 0 then some (.ret (e x)) else some (.next ())) → forR F l i () = if firstE (l.map e) = 0 then some (.inl ()) else some (.inr (firstE (l.map e)))
  | [], i, _ => by simp [firstE]
  | x :: l, i, h => by
    rw [forR_cons, h i x (by simp)]
    by_cases he : e x = 0
    · simp only [he, firstE, List.map_cons, ne_eq, not_true_eq_false, if_false, bind1_of, ctlK_next, if_true]
      exact forR_first e l (i + 1) fun j y hy => h j y (by simp [hy])
    · simp [he, firstE]

/-- Two lists of one length, element by element. -/
def all2B (p : α → β → Bool) : List α → List β → Bool
  | x :: l, y :: m => p x y && all2B p l m
  | [], [] => true
  | _, _ => false
theorem forR_two {F : Int → α → Unit → Option (Ctl Unit Bool)} (p : α → β → Bool) (M : List β) : ∀ (l : List α) (i : Nat) (m : List β), m = M.drop i → l.length = m.length →
    (∀ (k : Nat) x y, x ∈ l → M[k]? = some y → F (k : Int) x () = if p x y = true then some (.next ()) else some (.ret false)) →
    forR F l i () = if all2B p l m = true then some (.inl ()) else some (.inr false)
  | [], i, m, _, hl, _ => by
    cases m with
    | nil => simp [all2B]
    | cons y m => simp at hl
  | x :: l, i, m, hm, hl, h => by
    cases m with
    | nil => simp at hl
    | cons y m =>
      have hlt : i < M.length := by
        rcases Nat.lt_or_ge i M.length with h' | h'
        · exact h'
        · rw [List.drop_eq_nil_of_le h'] at hm; cases hm
      rw [List.drop_eq_getElem_cons hlt] at hm
      injection hm with h1 h2
      rw [forR_cons, h i x y (by simp) (by simp [hlt, h1])]
      cases hp : p x y with
      | false => simp [all2B, hp]
      | true =>
        simp only [if_true, bind1_of, ctlK_next, all2B, hp, Bool.true_and]
        exact forR_two p M l (i + 1) m h2 (by simpa using hl) fun k a b ha hb => h k a b (by simp [ha]) hb
theorem all2B_eq (p : α → α → Bool) : ∀ (l m : List α), (∀ x ∈ l, ∀ y, p x y = true ↔ x = y) → (all2B p l m = true ↔ l = m)
  | [], [], _ => by simp [all2B]
  | [], _ :: _, _ => by simp [all2B]
  | _ :: _, [], _ => by simp [all2B]
  | x :: l, y :: m, h => by simp [all2B, h x (by simp) y, all2B_eq p l m fun a ha => h a (by simp [ha])]

/-- Another loop: a number falls in each round, and what holds at the head holds where it ends. -/
theorem loopN_inv {F : σ → Option (Ctl σ ρ)} (I : σ → Prop) (μ : σ → Nat) (Q : σ ⊕ ρ → Prop)
    (h : ∀ s, I s → (∃ s', F s = some (.next s') ∧ I s' ∧ μ s' < μ s) ∨ (∃ s', F s = some (.brk s') ∧ Q (.inl s')) ∨ (∃ r, F s = some (.ret r) ∧ Q (.inr r))) :
    ∀ (n : Nat) (s : σ), I s → μ s < n → ∃ o, loopN F n s = some o ∧ Q o
  | 0, s, _, hn => by omega
  | n + 1, s, hs, hn => by
    rw [loopN_succ]
    rcases h s hs with ⟨s', h1, h2, h3⟩ | ⟨s', h1, h2⟩ | ⟨r, h1, h2⟩
    · rw [h1]
      simp only [bind1_of, ctlK_next]
      exact loopN_inv I μ Q h n s' h2 (by omega)
    · rw [h1]; exact ⟨_, rfl, h2⟩
    · rw [h1]; exact ⟨_, rfl, h2⟩
theorem FU_lt {n : Nat} (h : n < 1000000000) : n < FU := by rw [FU_eq]; exact h
end
end Go.Mdl
