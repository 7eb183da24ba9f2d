/-
  Plain law of ReportTexts: equality of drawn values, and that texts tell them apart.
-/
import Derived.Test.YtgcimcppginchaaGreatDoorRc
set_option maxRecDepth 20000
set_option linter.unusedSimpArgs false
set_option linter.unusedVariables false
namespace Go.Mdl
open Go

theorem ints_eq (l m : List Int) (hl : l.length ≤ 1000000000) : ref05_Ints l m = some (decide (l = m)) := by
  unfold ref05_Ints
  by_cases h : l.length = m.length
  · rw [if_neg (by simp; omega), okLen_of hl, chk_true]
    simp only [joinB_eq]
    rw [forR_two (fun x y : Int => decide (x = y)) m l 0 m rfl h (fun k x y hx hy => by
      simp only [lget_ofNat, hy, bind1_of]
      by_cases e : x = y <;> simp [e])]
    have := all2B_eq (fun x y : Int => decide (x = y)) l m (by simp)
    by_cases e : l = m
    · rw [if_pos (this.2 e)]; simp [e]
    · rw [if_neg (fun h' => e (this.1 h'))]; simp [e]
  · rw [if_pos (by simp; omega)]
    have : l ≠ m := fun e => h (by rw [e])
    simp [this]

theorem same_flat {n : Nat} {k k2 x x2 : Int} {l l2 : List Int} {b : List Vl} (hl : l.length ≤ 1000000000) : ref05_Same (n + 1) (Vl.mk k x l []) (Vl.mk k2 x2 l2 b) = some (decide (k = k2 ∧ x = x2 ∧ l = l2 ∧ b.length = 0)) := by
  rw [ref05_Same]
  simp only [Vl.kind_mk, Vl.num_mk, Vl.list_mk, Vl.args_mk, ints_eq l l2 hl, bind1_of, joinB_eq]
  by_cases h1 : k = k2 <;> by_cases h2 : x = x2 <;> by_cases h3 : l = l2 <;> cases b <;> simp [h1, h2, h3, okLen_of] <;> omega
theorem same_pr {n : Nat} {a b c d : Vl} {p q : Bool} (h1 : ref05_Same n a c = some p) (h2 : ref05_Same n b d = some q) : ref05_Same (n + 1) (prV a b) (prV c d) = some (p && q) := by
  rw [ref05_Same]
  cases p <;> cases q <;> simp [prV, ints_eq [] [] (by simp), okLen_of, h1, h2]
theorem same_prf {n : Nat} {a b : Vl} {k x : Int} {l : List Int} (hk : k ≠ 3) : ref05_Same (n + 1) (prV a b) (Vl.mk k x l []) = some false := by
  rw [ref05_Same]
  simp [prV, Ne.symm hk]

theorem same_pn {n : Nat} {a b : Vl} {x : Int} : ref05_Same (n + 1) (prV a b) (nmV x) = some false := same_prf (by decide)
theorem same_pls {n : Nat} {a b : Vl} {l : List Int} : ref05_Same (n + 1) (prV a b) (lsV l) = some false := same_prf (by decide)
theorem same_pun {n : Nat} {a b : Vl} : ref05_Same (n + 1) (prV a b) unV = some false := same_prf (by decide)
theorem dg_inj {x y : Int} (hx : Dg x) (hy : Dg y) (h : dg x = dg y) : x = y := by
  have h1 := congrArg UInt8.toNat h
  obtain ⟨a, b⟩ := hx
  obtain ⟨c, d⟩ := hy
  simp only [dg, UInt8.toNat_ofNat'] at h1
  rw [Nat.mod_eq_of_lt (by omega), Nat.mod_eq_of_lt (by omega)] at h1
  omega
theorem dg_iff {x y : Int} (hx : Dg x) (hy : Dg y) : dg x = dg y ↔ x = y := ⟨dg_inj hx hy, fun h => by rw [h]⟩
theorem dg_cases {x : Int} (hx : Dg x) : dg x = 48 ∨ dg x = 49 ∨ dg x = 50 ∨ dg x = 51 ∨ dg x = 52 := by
  obtain ⟨a, b⟩ := hx
  have : x = 0 ∨ x = 1 ∨ x = 2 ∨ x = 3 ∨ x = 4 := by omega
  rcases this with rfl | rfl | rfl | rfl | rfl <;> simp [dg] <;> decide
theorem dg_ne {x : Int} (hx : Dg x) (c : UInt8) (hc : c = 45 ∨ c = 40 ∨ c = 91 ∨ c = 93 ∨ c = 41 ∨ c = 44 ∨ c = 32) : dg x ≠ c := by
  rcases dg_cases hx with h | h | h | h | h <;> rw [h] <;> rcases hc with rfl | rfl | rfl | rfl | rfl | rfl | rfl <;> decide
theorem joinT_inj : ∀ (l m : List Int) (r s : List UInt8), (∀ x ∈ l, Dg x) → (∀ x ∈ m, Dg x) → joinT l ++ 93 :: r = joinT m ++ 93 :: s → l = m ∧ r = s
  | [], [], r, s, _, _, h => by simpa [joinT] using h
  | [], [y], r, s, _, hm, h => by
    simp only [joinT, List.nil_append, List.cons_append, List.cons.injEq] at h
    exact absurd h.1.symm (dg_ne (hm y (by simp)) 93 (by simp))
  | [], y :: z :: m, r, s, _, hm, h => by
    simp only [joinT, List.nil_append, List.cons_append, List.cons.injEq] at h
    exact absurd h.1.symm (dg_ne (hm y (by simp)) 93 (by simp))
  | [x], [], r, s, hl, _, h => by
    simp only [joinT, List.nil_append, List.cons_append, List.cons.injEq] at h
    exact absurd h.1 (dg_ne (hl x (by simp)) 93 (by simp))
  | x :: w :: l, [], r, s, hl, _, h => by
    simp only [joinT, List.nil_append, List.cons_append, List.cons.injEq] at h
    exact absurd h.1 (dg_ne (hl x (by simp)) 93 (by simp))
  | [x], [y], r, s, hl, hm, h => by
    simp only [joinT, List.nil_append, List.cons_append, List.cons.injEq] at h
    exact ⟨by rw [dg_inj (hl x (by simp)) (hm y (by simp)) h.1], h.2.2⟩
  | [x], y :: z :: m, r, s, hl, hm, h => by
    simp only [joinT, List.nil_append, List.cons_append, List.cons.injEq] at h
    exact absurd h.2.1 (by decide)
  | x :: w :: l, [y], r, s, hl, hm, h => by
    simp only [joinT, List.nil_append, List.cons_append, List.cons.injEq] at h
    exact absurd h.2.1 (by decide)
  | x :: w :: l, y :: z :: m, r, s, hl, hm, h => by
    simp only [joinT, List.cons_append, List.cons.injEq] at h
    obtain ⟨e1, e2⟩ := joinT_inj (w :: l) (z :: m) r s (fun a ha => hl a (List.mem_cons_of_mem _ ha)) (fun a ha => hm a (List.mem_cons_of_mem _ ha)) h.2.2
    exact ⟨by rw [dg_inj (hl x (by simp)) (hm y (by simp)) h.1, e1], e2⟩
theorem lsT_inj {l m : List Int} (hl : ∀ x ∈ l, Dg x) (hm : ∀ x ∈ m, Dg x) (r s : List UInt8) : lsT l ++ r = lsT m ++ s ↔ l = m ∧ r = s := by
  constructor
  · intro h
    simp only [lsT, List.cons_append, List.append_assoc, List.cons.injEq, true_and, List.nil_append] at h
    exact joinT_inj l m _ _ hl hm h
  · rintro ⟨rfl, rfl⟩; rfl

theorem Tx.same {a b : Vl} {s t : List UInt8} (ha : Tx a s) (hb : Tx b t) : ref05_Same FU a b = some (decide (s = t)) := by
  obtain ⟨n, hn⟩ := fu5
  rw [hn]
  cases ha with
  | @nm x h =>
    cases hb with
    | @nm y h' => rw [nmV, nmV, same_flat (by simp)]; simp [nmT, dg_iff h h']
    | ls h' hl => rw [nmV, lsV, same_flat (by simp)]; simp [nmT, lsT]
    | un => rw [nmV, unV, same_flat (by simp)]; simp [nmT, dg_ne h 45]
    | pn h' h2 => rw [nmV, prV, same_flat (by simp)]; simp [nmT, prT]
    | pl h' h2 hl => rw [nmV, prV, same_flat (by simp)]; simp [nmT, prT]
  | @ls l h hl =>
    cases hb with
    | nm h' => rw [nmV, lsV, same_flat (by omega)]; simp [nmT, lsT]
    | @ls m h' hm =>
      have := lsT_inj h h' [] []
      simp only [List.append_nil, and_true] at this
      rw [lsV, lsV, same_flat (by omega)]; simp [this]
    | un => rw [lsV, unV, same_flat (by omega)]; simp [lsT]
    | pn h' h2 => rw [lsV, prV, same_flat (by omega)]; simp [prT, lsT]
    | pl h' h2 hl => rw [lsV, prV, same_flat (by omega)]; simp [prT, lsT]
  | un =>
    cases hb with
    | nm h' => rw [nmV, unV, same_flat (by simp)]; simp [nmT, (dg_ne h' 45 (by simp)).symm]
    | ls h' hm => rw [unV, lsV, same_flat (by simp)]; simp [lsT]
    | un => rw [unV, same_flat (by simp)]; simp
    | pn h' h2 => rw [unV, prV, same_flat (by simp)]; simp [prT]
    | pl h' h2 hl => rw [unV, prV, same_flat (by simp)]; simp [prT]
  | @pn x y h h2 =>
    cases hb with
    | nm h' => rw [same_pn]; simp [nmT, prT]
    | ls h' hm => rw [same_pls]; simp [lsT, prT]
    | un => rw [same_pun]; simp [prT]
    | @pn x' y' h' h2' =>
      rw [same_pr (p := decide (x = x')) (q := decide (y = y')) (by rw [nmV, nmV, same_flat (by simp)]; simp) (by rw [nmV, nmV, same_flat (by simp)]; simp)]
      simp [prT, nmT, dg_iff h h', dg_iff h2 h2']
    | @pl x' m h' h2' hm =>
      rw [same_pr (p := decide (x = x')) (q := false) (by rw [nmV, nmV, same_flat (by simp)]; simp) (by rw [nmV, lsV, same_flat (by simp)]; simp)]
      have := dg_ne h2 91 (by simp)
      simp [prT, nmT, lsT, this]
  | @pl x l h h2 hl =>
    cases hb with
    | nm h' => rw [same_pn]; simp [nmT, prT]
    | ls h' hm => rw [same_pls]; simp [lsT, prT]
    | un => rw [same_pun]; simp [prT]
    | @pn x' y' h' h2' =>
      rw [same_pr (p := decide (x = x')) (q := false) (by rw [nmV, nmV, same_flat (by simp)]; simp) (by rw [nmV, lsV, same_flat (by omega)]; simp)]
      have := dg_ne h2' 91 (by simp)
      simp [prT, nmT, lsT, Ne.symm this]
    | @pl x' m h' h2' hm =>
      rw [same_pr (p := decide (x = x')) (q := decide (l = m)) (by rw [nmV, nmV, same_flat (by simp)]; simp) (by rw [lsV, lsV, same_flat (by omega)]; simp)]
      have := lsT_inj h2 h2' [41] [41]
      simp [prT, nmT, dg_iff h h', this]
end Go.Mdl
