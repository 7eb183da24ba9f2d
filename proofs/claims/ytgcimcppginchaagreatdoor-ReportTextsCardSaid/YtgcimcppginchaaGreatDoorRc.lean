/-
  Plain law of ReportTexts: the check of drawn values, equality, and the law.
-/
import Derived.Test.YtgcimcppginchaaGreatDoorRb
set_option maxRecDepth 20000
set_option linter.unusedSimpArgs false
set_option linter.unusedVariables false
namespace Go.Mdl
open Go

theorem idx_ok {n : Int} (l : List Int) (hl : ∀ x ∈ l, 0 ≤ x) (hn : l.length ≤ 1000000000) : slices_ContainsFunc_int_int l (fun (s : Unit) (y0 : Int) => pureW (value_nodes_1 y0) s) () = some (false, ()) := by
  unfold slices_ContainsFunc_int_int slices_IndexFunc_int_int
  rw [okLen_of hn, chk_true]
  simp only [joinB_eq]
  have key : ∀ {F : Int → Int → Unit → Option (Ctl Unit (Int × Unit))} (hF : ∀ j x, 0 ≤ x → F j x () = some (.next ())) (m : List Int) (i : Nat), (∀ x ∈ m, 0 ≤ x) → forR F m i () = some (.inl ()) := by
    intro F hF m
    induction m with
    | nil => intro i _; rfl
    | cons x m ih =>
      intro i hm
      rw [forR_cons, hF _ _ (hm x (by simp))]
      simp only [bind1_of, ctlK_next]
      exact ih (i + 1) fun y hy => hm y (by simp [hy])
  rw [key (fun j x hx => by
    have e : ilt x 0 = false := by simp only [ilt, decide_eq_false_iff_not]; omega
    simp [value_nodes_1, pureW, e]) l 0 hl]
  simp [ige]

theorem nodes_nm {n : Nat} {x : Int} (h : Dg x) : value_nodes (n + 1) (nmV x) = some (1, true) := by
  rw [value_nodes]
  have := h.1
  simp [nmV, this, okLen_of]
theorem nodes_un {n : Nat} : value_nodes (n + 1) unV = some (1, true) := by
  rw [value_nodes]
  simp [unV, okLen_of]
theorem nodes_ls {n : Nat} {l : List Int} (h : ∀ x ∈ l, Dg x) (hl : l.length < 4) : value_nodes (n + 1) (lsV l) = some (1, true) := by
  rw [value_nodes]
  simp [lsV, okLen_of, idx_ok (n := 0) l (fun x hx => (h x hx).1) (by omega)]
theorem nodes_pr {n : Nat} {a b : Vl} (ha : value_nodes n a = some (1, true)) (hb : value_nodes n b = some (1, true)) : value_nodes (n + 1) (prV a b) = some (3, true) := by
  rw [value_nodes]
  simp [prV, okLen_of, ha, hb, un2]
  decide

/-- The text of a drawn value. -/
inductive Tx : Vl → List UInt8 → Prop
  | nm {x : Int} (h : Dg x) : Tx (nmV x) (nmT x)
  | ls {l : List Int} (h : ∀ x ∈ l, Dg x) (hl : l.length < 4) : Tx (lsV l) (lsT l)
  | un : Tx unV [45]
  | pn {x y : Int} (h : Dg x) (h2 : Dg y) : Tx (prV (nmV x) (nmV y)) (prT (nmT x) (nmT y))
  | pl {x : Int} {l : List Int} (h : Dg x) (h2 : ∀ x ∈ l, Dg x) (hl : l.length < 4) : Tx (prV (nmV x) (lsV l)) (prT (nmT x) (lsT l))
theorem Dr.tx {v : Vl} (h : Dr v) : ∃ t, Tx v t := by
  cases h with
  | nm h => exact ⟨_, .nm h⟩
  | ls h hl => exact ⟨_, .ls h hl⟩
  | un => exact ⟨_, .un⟩
  | pn h h2 => exact ⟨_, .pn h h2⟩
  | pl h h2 hl => exact ⟨_, .pl h h2 hl⟩
theorem lsT_len {l : List Int} (hl : l.length < 4) : (lsT l).length ≤ 1000 := by
  have := joinT_len l
  simp [lsT]; omega
theorem Tx.value {v : Vl} {t : List UInt8} (h : Tx v t) : report_Value v = some (⟨t.toArray⟩, 0) := by
  obtain ⟨n, hn⟩ := fu5
  have key : ∀ k, k ≤ 64 → value_nodes FU v = some (k, true) → report_text FU v = some ⟨t.toArray⟩ → report_Value v = some (⟨t.toArray⟩, 0) := by
    intro k hk h1 h2
    unfold report_Value value_Check
    rw [h1]
    simp [h2, show ¬ 64 < k by omega]
  rw [hn] at key
  cases h with
  | nm h => exact key _ (by omega) (nodes_nm h) (text_nm h)
  | ls h hl => exact key _ (by omega) (nodes_ls h hl) (text_ls h hl)
  | un => exact key _ (by omega) nodes_un text_un
  | pn h h2 => exact key _ (by omega) (nodes_pr (nodes_nm h) (nodes_nm h2)) (text_pr (text_nm h) (text_nm h2) (by simp [nmT]) (by simp [nmT]))
  | pl h h2 hl => exact key _ (by omega) (nodes_pr (nodes_nm h) (nodes_ls h2 hl)) (text_pr (text_nm h) (text_ls h2 hl) (by simp [nmT]) (lsT_len hl))
end Go.Mdl
