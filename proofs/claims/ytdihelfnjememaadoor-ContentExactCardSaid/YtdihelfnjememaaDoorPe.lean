/-
  Formulas: what the functions of chapter 7 and of tree compute.
-/
import Derived.Test.YtdihelfnjememaaDoorPd
set_option linter.unusedSimpArgs false
set_option linter.unusedVariables false
namespace Go.Mdl
open Go

mutual
def Fm.nodes : Fm → Nat
  | .mk _ _ ts l => 1 + sumL Tm.nodes ts + Fm.nodesL l
def Fm.nodesL : List Fm → Nat
  | [] => 0
  | t :: l => t.nodes + Fm.nodesL l
end
theorem Fm.nodesL_eq (l : List Fm) : Fm.nodesL l = sumL Fm.nodes l := by
  induction l with
  | nil => rfl
  | cons t l ih => simp [Fm.nodesL, sumL, ih]
theorem Fm.nodes_mk (k : Int) (s : Ty) (ts : List Tm) (l : List Fm) : (Fm.mk k s ts l).nodes = 1 + sumL Tm.nodes ts + sumL Fm.nodes l := by rw [Fm.nodes, Fm.nodesL_eq]
theorem Fm.nodes_pos (t : Fm) : 1 ≤ t.nodes := by cases t; rw [Fm.nodes]; omega
theorem Fm.len_nodes (l : List Fm) : l.length ≤ sumL Fm.nodes l := sumL_len _ _ fun t _ => t.nodes_pos
mutual
/-- The nodes, with those of the types. -/
def Fm.wt : Fm → Nat
  | .mk _ s ts l => 1 + s.nodes + sumL Tm.wt ts + Fm.wtL l
def Fm.wtL : List Fm → Nat
  | [] => 0
  | t :: l => t.wt + Fm.wtL l
end
theorem Fm.wtL_eq (l : List Fm) : Fm.wtL l = sumL Fm.wt l := by
  induction l with
  | nil => rfl
  | cons t l ih => simp [Fm.wtL, sumL, ih]
theorem Fm.wt_mk (k : Int) (s : Ty) (ts : List Tm) (l : List Fm) : (Fm.mk k s ts l).wt = 1 + s.nodes + sumL Tm.wt ts + sumL Fm.wt l := by rw [Fm.wt, Fm.wtL_eq]
theorem Fm.wt_pos (t : Fm) : 1 ≤ t.wt := by cases t; rw [Fm.wt]; omega
theorem Fm.len_wt (l : List Fm) : l.length ≤ sumL Fm.wt l := sumL_len _ _ fun t _ => t.wt_pos
theorem Fm.ind {p : Fm → Prop} (h : ∀ k s ts l, (∀ t ∈ l, p t) → p (.mk k s ts l)) (t : Fm) : p t := by
  have : ∀ n (t : Fm), t.nodes ≤ n → p t := by
    intro n
    induction n with
    | zero => intro t ht; have := t.nodes_pos; omega
    | succ n ih =>
      intro t ht
      cases t with
      | mk k s ts l =>
        rw [Fm.nodes_mk] at ht
        exact h k s ts l fun u hu => ih u (by have := sumL_mem Fm.nodes hu; omega)
  exact this _ t (Nat.le_refl _)
theorem Fm.nodes_wt (t : Fm) : t.nodes ≤ t.wt := by
  induction t using Fm.ind with
  | h k s ts l ih => rw [Fm.nodes_mk, Fm.wt_mk]; have := sumL_le ih; have := sumL_le (f := Tm.nodes) (g := Tm.wt) (l := ts) fun x _ => x.nodes_wt; omega

def quantB (k : Int) : Bool := decide (k = 4 ∨ k = 5 ∨ k = 6 ∨ k = 7)
def qB (k : Int) : Int := if quantB k = true then 1 else 0
theorem qB_bd (k : Int) : 0 ≤ qB k ∧ qB k ≤ 1 := by unfold qB; split <;> omega
theorem ref07_quantifier_eq (k : Int) : ref07_quantifier k = some (quantB k) := by
  unfold ref07_quantifier quantB
  congr 1
  rw [Bool.eq_iff_iff]
  simp
theorem ref07_below_eq (f : Fm) : ref07_below f = some (qB f.kind) := by
  unfold ref07_below qB
  rw [ref07_quantifier_eq]
  simp only [bind1_of]
  split <;> rfl
/-- A node has the form of its kind. -/
def Fm.node (k : Int) (s : Ty) (nt n : Nat) : Bool :=
  if k = 1 then s.zeroB && decide (nt = 2) && decide (n = 0)
  else if k = 2 ∨ k = 3 then s.zeroB && decide (nt = 0) && decide (n = 2)
  else quantB k && decide (s.err = 0) && decide (nt = 0) && decide (n = 1)
mutual
def Fm.ok : Fm → Bool
  | .mk k s ts l => Fm.node k s ts.length l.length && ts.all Tm.ok && Fm.okL l
def Fm.okL : List Fm → Bool
  | [] => true
  | t :: l => t.ok && Fm.okL l
end
theorem Fm.okL_eq (l : List Fm) : Fm.okL l = l.all Fm.ok := by
  induction l with
  | nil => rfl
  | cons t l ih => simp [Fm.okL, ih]
theorem Fm.ok_mk (k : Int) (s : Ty) (ts : List Tm) (l : List Fm) : (Fm.mk k s ts l).ok = (Fm.node k s ts.length l.length && ts.all Tm.ok && l.all Fm.ok) := by rw [Fm.ok, Fm.okL_eq]
def Fm.err (t : Fm) : Int := if t.ok = true then (if 4096 < t.nodes then 4 else 0) else 2

theorem len_zero {α : Type} {l : List α} : (l.length : Int) = 0 ↔ l = [] := by cases l <;> simp; omega
theorem len_one {α : Type} {l : List α} (h : (l.length : Int) = 1) : ∃ a, l = [a] := by
  match l, h with
  | [a], _ => exact ⟨a, rfl⟩
  | [], h => simp at h
  | _ :: _ :: _, h => simp at h; omega
theorem len_two {α : Type} {l : List α} (h : (l.length : Int) = 2) : ∃ a b, l = [a, b] := by
  match l, h with
  | [a, b], _ => exact ⟨a, b, rfl⟩
  | [], h => simp at h
  | [_], h => simp at h
  | _ :: _ :: _ :: _, h => simp at h; omega

theorem ref02_Shape' {t : Tm} (h : t.wt ≤ 1000000000) : ref02_Shape FU t = some t.ok := ref02_Shape_eq FU t (by rw [FU_eq]; exact h) h
theorem ref07_Shape_eq : ∀ (n : Nat) (t : Fm), t.wt ≤ n → t.wt ≤ 1000000000 → ref07_Shape n t = some t.ok := by
  intro n
  induction n with
  | zero => intro t h; have := t.wt_pos; omega
  | succ n ih =>
    intro t h hb
    cases t with
    | mk k s ts l =>
      rw [Fm.wt_mk] at h hb
      rw [ref07_Shape, Fm.ok_mk]
      simp only [Fm.args_mk, Fm.kind_mk, Fm.terms_mk, Fm.typeF_mk, joinB_eq, sel_or, Bool.or_eq_true, ieq_iff, llen_eq, ref01_Zero_eq, ref07_quantifier_eq, ref01_Check_eq (t := s) (by omega), bind1_of, lget_zero, lget_one]
      by_cases h1 : k = 1
      · simp only [h1, if_true, Fm.node]
        by_cases h2 : (l.length : Int) = 0
        · have := len_zero.1 h2; subst this
          cases h3 : s.zeroB with
          | false => simp
          | true =>
            by_cases h4 : (ts.length : Int) = 2
            · obtain ⟨a, b, rfl⟩ := len_two h4
              simp only [sumL] at h hb
              simp only [h4, if_true, List.getElem?_cons_zero, List.getElem?_cons_succ, bind1_of]
              rw [ref02_Shape' (t := a) (by omega), ref02_Shape' (t := b) (by omega)]
              cases h5 : a.ok <;> cases h6 : b.ok <;> simp [h5, h6]
            · have h5 : ¬ ts.length = 2 := by omega
              simp [h4, h5]
        · have h3 : ¬ l.length = 0 := by omega
          simp [h2, h3]
      · simp only [h1, if_false, Fm.node]
        by_cases h2 : k = 2 ∨ k = 3
        · simp only [h2, if_true]
          by_cases h3 : (ts.length : Int) = 0
          · have := len_zero.1 h3; subst this
            cases h4 : s.zeroB with
            | false => simp
            | true =>
              by_cases h5 : (l.length : Int) = 2
              · obtain ⟨a, b, rfl⟩ := len_two h5
                simp only [sumL] at h hb
                simp only [h5, if_true, List.getElem?_cons_zero, List.getElem?_cons_succ, bind1_of]
                rw [ih a (by omega) (by omega), ih b (by omega) (by omega)]
                cases h6 : a.ok <;> cases h7 : b.ok <;> simp [h6, h7]
              · have h6 : ¬ l.length = 2 := by omega
                simp [h5, h6]
          · have h4 : ¬ ts.length = 0 := by omega
            simp [h3, h4]
        · simp only [h2, if_false]
          cases h3 : quantB k with
          | false => simp
          | true =>
            by_cases h4 : (ts.length : Int) = 0
            · have := len_zero.1 h4; subst this
              by_cases h5 : s.err = 0
              · by_cases h6 : (l.length : Int) = 1
                · obtain ⟨a, rfl⟩ := len_one h6
                  simp only [sumL] at h hb
                  simp only [h5, h6, if_true, List.getElem?_cons_zero, bind1_of]
                  rw [ih a (by omega) (by omega)]
                  simp
                · have h7 : ¬ l.length = 1 := by omega
                  simp [h5, h6, h7]
              · simp [h5]
            · have h5 : ¬ ts.length = 0 := by omega
              simp [h4, h5]
theorem ref07_Count_eq : ∀ (n : Nat) (t : Fm), t.nodes ≤ n → t.nodes ≤ 1000000000 → ref07_Count n t = some (t.nodes : Int) := by
  intro n
  induction n with
  | zero => intro t h; have := t.nodes_pos; omega
  | succ n ih =>
    intro t h hb
    cases t with
    | mk k s ts l =>
      rw [Fm.nodes_mk] at h hb
      have hl := Fm.len_nodes l
      have hl2 := Tm.len_nodes ts
      rw [ref07_Count]
      simp only [Fm.args_mk, Fm.terms_mk, joinB_eq, okLen_of (l := l) (by omega), okLen_of (l := ts) (by omega), chk_true]
      have k1 := forR_sum (ρ := Int) (F := fun (j : Int) (x : Tm) (v : Int) => bind1 (ref02_Count FU x) fun y => some (Ctl.next (iadd .i64 v y))) Tm.nodes ts 0 1 (by omega) (by
        intro j x v hx
        have := sumL_mem Tm.nodes hx
        rw [ref02_Count_eq FU x (by rw [FU_eq]; omega) (by omega)]
        rfl)
      have k2 := forR_sum (ρ := Int) (F := fun (j : Int) (x : Fm) (v : Int) => bind1 (ref07_Count n x) fun y => some (Ctl.next (iadd .i64 v y))) Fm.nodes l 0 (1 + sumL Tm.nodes ts) (by omega) (by
        intro j x v hx
        have := sumL_mem Fm.nodes hx
        rw [ih x (by omega) (by omega)]
        rfl)
      rw [show (1 : Int) = ((1 : Nat) : Int) from rfl, k1]
      simp only [bind1_of, sumK_inl]
      rw [k2]
      simp [Fm.nodes_mk]
theorem ref07_Check_eq {t : Fm} (h : t.wt ≤ 1000000000) : ref07_Check t = some t.err := by
  have := t.nodes_wt
  unfold ref07_Check Fm.err
  rw [ref07_Shape_eq FU t (by rw [FU_eq]; exact h) h, ref07_Count_eq FU t (by rw [FU_eq]; omega) (by omega)]
  cases t.ok with
  | false => simp
  | true => by_cases h1 : 4096 < t.nodes <;> simp [h1] <;> omega
theorem tree_formed_eq (f : Fm) (h : f.wt ≤ 1000000000) : tree_formed f = some (Fm.node f.kind f.typeF f.terms.length f.args.length) := by
  cases f with
  | mk k s ts l =>
    rw [Fm.wt_mk] at h
    show tree_formed (.mk k s ts l) = some (Fm.node k s ts.length l.length)
    have e20 : (ieq (ts.length : Int) 2 && ieq (l.length : Int) 0) = (decide (ts.length = 2) && decide (l.length = 0)) := by
      rw [Bool.eq_iff_iff]; simp only [Bool.and_eq_true, ieq_iff, decide_eq_true_eq]; omega
    have e02 : (ieq (ts.length : Int) 0 && ieq (l.length : Int) 2) = (decide (ts.length = 0) && decide (l.length = 2)) := by
      rw [Bool.eq_iff_iff]; simp only [Bool.and_eq_true, ieq_iff, decide_eq_true_eq]; omega
    have e01 : (ieq (ts.length : Int) 0 && ieq (l.length : Int) 1) = (decide (ts.length = 0) && decide (l.length = 1)) := by
      rw [Bool.eq_iff_iff]; simp only [Bool.and_eq_true, ieq_iff, decide_eq_true_eq]; omega
    unfold tree_formed
    simp only [Fm.args_mk, Fm.kind_mk, Fm.terms_mk, Fm.typeF_mk, joinB_eq, sel_or, sel_and, Bool.or_eq_true, ieq_iff, llen_eq, tree_CheckType_eq (t := s) (by omega), tree_NoType_eq, bind1_of, bind2_of, ine_iff, e20, e02, e01]
    unfold Fm.node
    by_cases h1 : k = 1
    · cases h2 : s.zeroB <;> simp [h1]
    · by_cases h2 : k = 2 ∨ k = 3
      · cases h3 : s.zeroB <;> simp [h1, h2]
      · by_cases h3 : k = 4 ∨ k = 5 ∨ k = 6 ∨ k = 7
        · have hq : quantB k = true := by simp [quantB, h3]
          by_cases h4 : s.err = 0 <;> simp [h1, h2, h3, h4, hq]
        · have hq : quantB k = false := by simp [quantB, h3]
          simp [h1, h2, h3, hq]
theorem tree_formulaNodes_eq : ∀ (n : Nat) (t : Fm), t.wt ≤ n → t.wt ≤ 1000000000 → tree_formulaNodes n t = some (if t.ok = true then ((t.nodes : Int), true) else (0, false)) := by
  intro n
  induction n with
  | zero => intro t h; have := t.wt_pos; omega
  | succ n ih =>
    intro t h hb
    cases t with
    | mk k s ts l =>
      have hf := tree_formed_eq (.mk k s ts l) hb
      rw [Fm.wt_mk] at h hb
      have hl := Fm.len_wt l
      have hl2 := Tm.len_wt ts
      have hn : sumL Tm.nodes ts ≤ sumL Tm.wt ts := sumL_le fun x _ => x.nodes_wt
      have hn2 : sumL Fm.nodes l ≤ sumL Fm.wt l := sumL_le fun x _ => x.nodes_wt
      have k1 : forR (fun (j411 : Int) (x413 : Tm) (v610 : Int) => bind2 (tree_termNodes FU x413) fun x700 x701 => if x701 = true then some (Ctl.next (iadd .i64 v610 x700)) else some (Ctl.ret ((0 : Int), false))) ts 0 1 =
          if ts.all Tm.ok = true then some (.inl ((1 + sumL Tm.nodes ts : Nat) : Int)) else some (.inr (0, false)) := by
        refine forR_sumOk Tm.nodes Tm.ok _ ts 0 1 (by omega) ?_
        intro j x v hx
        have := sumL_mem Tm.wt hx
        rw [tree_termNodes_eq FU x (by rw [FU_eq]; omega) (by omega)]
        cases x.ok <;> simp
      have k2 : forR (fun (j411 : Int) (x413 : Fm) (v610 : Int) => bind2 (tree_formulaNodes n x413) fun x700 x701 => if x701 = true then some (Ctl.next (iadd .i64 v610 x700)) else some (Ctl.ret ((0 : Int), false))) l 0 ((1 + sumL Tm.nodes ts : Nat) : Int) =
          if l.all Fm.ok = true then some (.inl ((1 + sumL Tm.nodes ts + sumL Fm.nodes l : Nat) : Int)) else some (.inr (0, false)) := by
        refine forR_sumOk Fm.nodes Fm.ok _ l 0 _ (by omega) ?_
        intro j x v hx
        have := sumL_mem Fm.wt hx
        rw [ih x (by omega) (by omega)]
        cases x.ok <;> simp
      rw [tree_formulaNodes, hf]
      simp only [Fm.args_mk, Fm.kind_mk, Fm.terms_mk, Fm.typeF_mk, joinB_eq, okLen_of (l := l) (by omega), okLen_of (l := ts) (by omega), chk_true, bind1_of, k1, Fm.ok_mk, Fm.nodes_mk]
      cases h1 : Fm.node k s ts.length l.length with
      | false => simp
      | true =>
        cases h2 : ts.all Tm.ok with
        | false => simp
        | true =>
          simp only [if_true, bind1_of, sumK_inl, k2, Bool.true_and]
          cases h3 : l.all Fm.ok <;> simp
theorem tree_CheckFormula_eq {t : Fm} (h : t.wt ≤ 1000000000) : tree_CheckFormula t = some (if t.err = 0 then (t.nodes : Int) else 0, t.err) := by
  unfold tree_CheckFormula Fm.err
  rw [tree_formulaNodes_eq FU t (by rw [FU_eq]; exact h) h]
  cases t.ok with
  | false => simp
  | true =>
    by_cases h1 : 4096 < t.nodes
    · simp [h1]
      omega
    · simp [h1]
      omega
theorem formula_Check_eq {t : Fm} (h : t.wt ≤ 1000000000) : formula_Check t = some t.err := by
  unfold formula_Check; rw [tree_CheckFormula_eq h]; rfl

theorem ref07_Copy_eq : ∀ (n : Nat) (t : Fm), t.wt ≤ n → t.wt ≤ 1000000000 → ref07_Copy n t = some t := by
  intro n
  induction n with
  | zero => intro t h; have := t.wt_pos; omega
  | succ n ih =>
    intro t h hb
    cases t with
    | mk k s ts l =>
      rw [Fm.wt_mk] at h hb
      have hl := Fm.len_wt l
      have hl2 := Tm.len_wt ts
      rw [ref07_Copy]
      simp only [Fm.args_mk, Fm.kind_mk, Fm.terms_mk, Fm.typeF_mk, joinB_eq, okLen_of (l := l) (by omega), okLen_of (l := ts) (by omega), chk_true, ref01_Copy' (t := s) (by omega), bind1_of]
      rw [forR_map id ts 0 [] (by simp; omega)]
      · simp only [bind1_of, sumK_inl]
        rw [forR_map id l 0 [] (by simp; omega)]
        · simp
        · intro j x v hx hv
          have := sumL_mem Fm.wt hx
          rw [ih x (by omega) (by omega)]
          simp [okApp_of (l := v) (m := [x]) (by simpa using hv)]
      · intro j x v hx hv
        have := sumL_mem Tm.wt hx
        rw [ref02_Copy' (t := x) (by omega)]
        simp [okApp_of (l := v) (m := [x]) (by simpa using hv)]
theorem ref07_Copy' {t : Fm} (h : t.wt ≤ 1000000000) : ref07_Copy FU t = some t := ref07_Copy_eq FU t (by rw [FU_eq]; exact h) h
end Go.Mdl
