/-
  What the texts on lifting want of the others.
-/
import Derived.Test.YtanjokijgbgcpaaGreatDoorPm
set_option linter.unusedSimpArgs false
set_option linter.unusedVariables false
namespace Go.Mdl
open Go

theorem Ty.nodes_of_node {k i : Int} {s : Ty} {n : Nat} (h : Tm.node k i s n = true) : s.nodes ≤ 64 := by
  unfold Tm.node at h
  simp only [Bool.and_eq_true] at h
  have h4 := h.2
  by_cases hk : typedB k = true
  · rw [if_pos hk] at h4
    simp only [decide_eq_true_eq] at h4
    unfold Ty.err at h4
    split at h4
    · split at h4
      · omega
      · omega
    · omega
  · rw [if_neg hk] at h4
    rw [(Ty.zeroB_iff s).1 h4, Ty.nodes_mk]
    simp [sumL]
theorem Tm.ok_inv {k i : Int} {s : Ty} {l : List Tm} (h : (Tm.mk k i s l).ok = true) : (k = 1 → l = []) ∧ 0 ≤ i ∧ (k ≠ 1 → i = 0) ∧ (∀ t ∈ l, t.ok = true) ∧ (l.length : Int) = tmArgs k := by
  rw [Tm.ok_mk] at h
  simp only [Bool.and_eq_true, List.all_eq_true, decide_eq_true_eq, Tm.node, Bool.or_eq_true] at h
  obtain ⟨⟨⟨⟨h1, h2⟩, h3⟩, h4⟩, h5⟩ := h
  refine ⟨?_, h2, fun hk => h3.resolve_left hk, h5, h1⟩
  rintro rfl
  have : (l.length : Int) = 0 := h1
  exact List.eq_nil_of_length_eq_zero (by omega)
theorem tree_OwnType_eq : ∀ (n : Nat) (t : Ty), t.nodes ≤ n → t.nodes ≤ 1000000000 → tree_OwnType n t = some t := by
  intro n
  induction n with
  | zero => intro t h; have := t.nodes_pos; omega
  | succ n ih =>
    intro t h hb
    cases t with
    | mk k l =>
      rw [Ty.nodes_mk] at h hb
      have hl := Ty.len_nodes l
      rw [tree_OwnType]
      simp only [Ty.args_mk, Ty.kind_mk, joinB_eq, okLen_of (l := l) (by omega), chk_true]
      rw [forR_map id l 0 [] (by simp; omega)]
      · simp
      · intro j x v hx hv
        have := sumL_mem Ty.nodes hx
        rw [ih x (by omega) (by omega)]
        simp [okApp_of (l := v) (m := [x]) (by simpa using hv)]
theorem tree_OwnType' {t : Ty} (h : t.nodes ≤ 1000000000) : tree_OwnType FU t = some t := tree_OwnType_eq FU t (by rw [FU_eq]; exact h) h
theorem err_nodes {t : Ty} (h : t.err = 0) : t.nodes ≤ 64 := by have := (Ty.err_zero h).2; omega
end Go.Mdl
