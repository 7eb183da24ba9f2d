/-
  The deck of numbers from which laws draw.
-/
import Derived.Test.YtooibjkhgdpnaaaDoorLM
import Derived.Test.YtooibjkhgdpnaaaDoorPa
set_option linter.unusedSimpArgs false
set_option linter.unusedVariables false
namespace Go.Mdl
open Go

/-! ### the deck -/
structure Smk_Deck.wf (d : Smk_Deck) : Prop where
  len : d.l.length ≤ 1000
  lo : 0 ≤ d.atF
  hi : d.atF ≤ d.l.length

theorem mk_Mod_eq (x n : Int) (h1 : 1 ≤ n) (h2 : n ≤ 1000000000) : ∃ y, mk_Mod x n = some y ∧ 0 ≤ y ∧ y < n := by
  unfold mk_Mod
  simp only [okDiv_of (b := n) (by omega), chk_true]
  refine ⟨_, rfl, ?_⟩
  unfold irem
  have e : (x.tmod n).natAbs < n.natAbs := by
    rw [Int.natAbs_tmod]
    exact Nat.mod_lt _ (by omega)
  rw [iadd_in (by omega) (by omega)]
  have h0 : 0 ≤ x.tmod n + n := by omega
  exact ⟨Int.tmod_nonneg _ h0, Int.tmod_lt_of_pos _ (by omega)⟩
theorem next_ok (d : Smk_Deck) (hd : d.wf) (n : Int) (h1 : 1 ≤ n) (h2 : n ≤ 1000000000) : ∃ x d', mk_Deck_Next d n = some (x, d') ∧ 0 ≤ x ∧ x < n ∧ d'.wf := by
  unfold mk_Deck_Next
  simp only [sel_or, Bool.or_eq_true, ilt_iff, ige_iff, llen_eq]
  by_cases hc : n < 1 ∨ (d.l.length : Int) ≤ d.atF
  · rw [if_pos hc]; exact ⟨0, d, rfl, by omega, by omega, hd⟩
  · rw [if_neg hc]
    obtain ⟨y, hy, _⟩ := lget_some (l := d.l) hd.lo (by omega)
    obtain ⟨z, hz, h3, h4⟩ := mk_Mod_eq y n h1 h2
    rw [hy]
    simp only [bind1_of, hz]
    have := hd.len
    have := hd.lo
    rw [iadd_in (by omega) (by omega)]
    exact ⟨z, _, rfl, h3, h4, ⟨hd.len, by show 0 ≤ d.atF + 1; omega, by show d.atF + 1 ≤ (d.l.length : Int); omega⟩⟩

end Go.Mdl
