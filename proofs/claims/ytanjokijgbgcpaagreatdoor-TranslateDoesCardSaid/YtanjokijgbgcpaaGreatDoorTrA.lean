/-
  A row of values that do not change any more, in a shared object: what an append to it comes to.
-/
import Derived.Test.YtanjokijgbgcpaaGreatDoorGsl
set_option linter.unusedSimpArgs false
set_option linter.unusedVariables false
namespace Go.Abs
open Go Go.Mdl

/-- An append of one value to a slice over such a row, which has a cell list of its own length: the row keeps what it has, and the value is behind it. -/
theorem AppG.rowOne {P : Program} {α : Type} {t e d sz : Nat} {f : α → AV} {x s : AV} {K : Fr → Heap → Prop} {fr : Fr} {H : Heap} {L : List α} {o cap k : Nat} {c : AV} {tag' : Tag} (hap : apOf P t = some (e, sz)) (hz : ∃ zs, zeroA P e = some zs)
    (hf : ∀ a, (f a).cells.length = sz) (hc : c.cells.length = sz) (hsz : 0 < sz) (hx : x = .slice tag' [c]) (hs : s = .gsl o 0 L.length cap) (hH : H[o]? = some (arrC f L k)) (hk : cap * sz = L.length * sz + k) (h0 : 0 < L.length) (hok : okObj (arrC f L k) = true) (hL : L.length + 1 ≤ growLim)
    (h1 : ∀ k', k = sz + k' → K (fr.put (some d) (.gsl o 0 (L.length + 1) cap)) (H.set o ((L.map f).flatMap AV.cells ++ (c.cells ++ junk k'))))
    (h2 : ∀ cap', L.length + 1 ≤ cap' → K (fr.put (some d) (.gsl H.length 0 (L.length + 1) cap')) (H ++ [(L.map f).flatMap AV.cells ++ (c.cells ++ junk ((cap' - (L.length + 1)) * sz))])) :
    AppG P t s x d K fr H := by
  subst hx hs
  obtain ⟨zs, hz⟩ := hz
  have hfl : ((L.map f).flatMap AV.cells).length = L.length * sz := by
    clear hH hk h0 hok hL h1 h2
    induction L with
    | nil => simp
    | cons a l ih => simp only [List.map_cons, List.flatMap_cons, List.length_append, hf, ih, List.length_cons, Nat.succ_mul]; omega
  unfold AppG
  rw [hap]
  refine ⟨by simp [headOk, hc], by rw [hz]; rfl, by simp, rfl, by simpa using hL, ?_⟩
  rw [hH]
  refine ⟨hok, by rw [arrC_length hf]; omega, fun hc' => ?_, fun cap' hc1 hc2 => ?_⟩
  · simp only [List.length_singleton] at hc' ⊢
    have hle : (L.length + 1) * sz ≤ cap * sz := Nat.mul_le_mul_right _ hc'
    rw [Nat.succ_mul] at hle
    have hk' : k = sz + (k - sz) := by omega
    have e : setCells (arrC f L k) (L.length * sz) ([c].flatMap AV.cells) = (L.map f).flatMap AV.cells ++ (c.cells ++ junk (k - sz)) := by
      unfold setCells arrC
      simp only [List.flatMap_cons, List.flatMap_nil, List.append_nil, hc]
      rw [List.take_append_of_le_length (by rw [hfl]; omega), List.take_of_length_le (by rw [hfl]; omega), List.drop_append, hfl, List.drop_eq_nil_of_le (by rw [hfl]; omega)]
      simp [junk]
    rw [e]
    exact h1 _ hk'
  · simp only [List.length_singleton] at hc1 hc2 ⊢
    have e : (arrC f L k).take (L.length * sz) = (L.map f).flatMap AV.cells := by
      unfold arrC
      rw [List.take_append_of_le_length (by rw [hfl]; omega), List.take_of_length_le (by rw [hfl]; omega)]
    rw [e]
    have := h2 cap' hc2
    simpa using this
end Go.Abs
