/- A part of the proof of TranslatePuts: contracts of functions of the program, and what they need. -/
import Derived.Test.YtanjokijgbgcpaaGreatDoorPd
/-
  Formulas: what the functions of chapter 7 and of tree compute.
-/
set_option linter.unusedSimpArgs false
set_option linter.unusedVariables false
namespace Go.Mdl
open Go

mutual
def Fm.nodes : Fm → Nat
  | .mk _ _ ts l => 1 + sumL Tm.nodes ts + Fm.nodesL l
def Fm.nodesL : List Fm → Nat
  | [] => 0
  | t :: l => t.nodes + Fm.nodesL l
end
theorem Fm.nodesL_eq (l : List Fm) : Fm.nodesL l = sumL Fm.nodes l := by
  induction l with
  | nil => rfl
  | cons t l ih => simp [Fm.nodesL, sumL, ih]
theorem Fm.nodes_mk (k : Int) (s : Ty) (ts : List Tm) (l : List Fm) : (Fm.mk k s ts l).nodes = 1 + sumL Tm.nodes ts + sumL Fm.nodes l := by rw [Fm.nodes, Fm.nodesL_eq]
theorem Fm.nodes_pos (t : Fm) : 1 ≤ t.nodes := by cases t; rw [Fm.nodes]; omega
theorem Fm.len_nodes (l : List Fm) : l.length ≤ sumL Fm.nodes l := sumL_len _ _ fun t _ => t.nodes_pos
mutual
/-- The nodes, with those of the types. -/
def Fm.wt : Fm → Nat
  | .mk _ s ts l => 1 + s.nodes + sumL Tm.wt ts + Fm.wtL l
def Fm.wtL : List Fm → Nat
  | [] => 0
  | t :: l => t.wt + Fm.wtL l
end
theorem Fm.wtL_eq (l : List Fm) : Fm.wtL l = sumL Fm.wt l := by
  induction l with
  | nil => rfl
  | cons t l ih => simp [Fm.wtL, sumL, ih]
theorem Fm.wt_mk (k : Int) (s : Ty) (ts : List Tm) (l : List Fm) : (Fm.mk k s ts l).wt = 1 + s.nodes + sumL Tm.wt ts + sumL Fm.wt l := by rw [Fm.wt, Fm.wtL_eq]
theorem Fm.wt_pos (t : Fm) : 1 ≤ t.wt := by cases t; rw [Fm.wt]; omega
theorem Fm.len_wt (l : List Fm) : l.length ≤ sumL Fm.wt l := sumL_len _ _ fun t _ => t.wt_pos
theorem Fm.ind {p : Fm → Prop} (h : ∀ k s ts l, (∀ t ∈ l, p t) → p (.mk k s ts l)) (t : Fm) : p t := by
  have : ∀ n (t : Fm), t.nodes ≤ n → p t := by
    intro n
    induction n with
    | zero => intro t ht; have := t.nodes_pos; omega
    | succ n ih =>
      intro t ht
      cases t with
      | mk k s ts l =>
        rw [Fm.nodes_mk] at ht
        exact h k s ts l fun u hu => ih u (by have := sumL_mem Fm.nodes hu; omega)
  exact this _ t (Nat.le_refl _)
theorem Fm.nodes_wt (t : Fm) : t.nodes ≤ t.wt := by
  induction t using Fm.ind with
  | h k s ts l ih => rw [Fm.nodes_mk, Fm.wt_mk]; have := sumL_le ih; have := sumL_le (f := Tm.nodes) (g := Tm.wt) (l := ts) fun x _ => x.nodes_wt; omega

def quantB (k : Int) : Bool := decide (k = 4 ∨ k = 5 ∨ k = 6 ∨ k = 7)
def qB (k : Int) : Int := if quantB k = true then 1 else 0
theorem qB_bd (k : Int) : 0 ≤ qB k ∧ qB k ≤ 1 := by unfold qB; split <;> omega
theorem ref07_quantifier_eq (k : Int) : ref07_quantifier k = some (quantB k) := by
  unfold ref07_quantifier quantB
  congr 1
  rw [Bool.eq_iff_iff]
  simp
theorem ref07_below_eq (f : Fm) : ref07_below f = some (qB f.kind) := by
  unfold ref07_below qB
  rw [ref07_quantifier_eq]
  simp only [bind1_of]
  split <;> rfl
/-- A node has the form of its kind. -/
def Fm.node (k : Int) (s : Ty) (nt n : Nat) : Bool :=
  if k = 1 then s.zeroB && decide (nt = 2) && decide (n = 0)
  else if k = 2 ∨ k = 3 then s.zeroB && decide (nt = 0) && decide (n = 2)
  else quantB k && decide (s.err = 0) && decide (nt = 0) && decide (n = 1)
mutual
def Fm.ok : Fm → Bool
  | .mk k s ts l => Fm.node k s ts.length l.length && ts.all Tm.ok && Fm.okL l
def Fm.okL : List Fm → Bool
  | [] => true
  | t :: l => t.ok && Fm.okL l
end
theorem Fm.okL_eq (l : List Fm) : Fm.okL l = l.all Fm.ok := by
  induction l with
  | nil => rfl
  | cons t l ih => simp [Fm.okL, ih]
theorem Fm.ok_mk (k : Int) (s : Ty) (ts : List Tm) (l : List Fm) : (Fm.mk k s ts l).ok = (Fm.node k s ts.length l.length && ts.all Tm.ok && l.all Fm.ok) := by rw [Fm.ok, Fm.okL_eq]
def Fm.err (t : Fm) : Int := if t.ok = true then (if 4096 < t.nodes then 4 else 0) else 2

theorem len_zero {α : Type} {l : List α} : (l.length : Int) = 0 ↔ l = [] := by cases l <;> simp; omega
theorem len_one {α : Type} {l : List α} (h : (l.length : Int) = 1) : ∃ a, l = [a] := by
  match l, h with
  | [a], _ => exact ⟨a, rfl⟩
  | [], h => simp at h
  | _ :: _ :: _, h => simp at h; omega
theorem len_two {α : Type} {l : List α} (h : (l.length : Int) = 2) : ∃ a b, l = [a, b] := by
  match l, h with
  | [a, b], _ => exact ⟨a, b, rfl⟩
  | [], h => simp at h
  | [_], h => simp at h
  | _ :: _ :: _ :: _, h => simp at h; omega

theorem ref02_Shape' {t : Tm} (h : t.wt ≤ 1000000000) : ref02_Shape FU t = some t.ok := ref02_Shape_eq FU t (by rw [FU_eq]; exact h) h
theorem ref07_Shape_eq : ∀ (n : Nat) (t : Fm), t.wt ≤ n → t.wt ≤ 1000000000 → ref07_Shape n t = some t.ok := by
  intro n
  induction n with
  | zero => intro t h; have := t.wt_pos; omega
  | succ n ih =>
    intro t h hb
    cases t with
    | mk k s ts l =>
      rw [Fm.wt_mk] at h hb
      rw [ref07_Shape, Fm.ok_mk]
      simp only [Fm.args_mk, Fm.kind_mk, Fm.terms_mk, Fm.typeF_mk, joinB_eq, sel_or, Bool.or_eq_true, ieq_iff, llen_eq, ref01_Zero_eq, ref07_quantifier_eq, ref01_Check_eq (t := s) (by omega), bind1_of, lget_zero, lget_one]
      by_cases h1 : k = 1
      · simp only [h1, if_true, Fm.node]
        by_cases h2 : (l.length : Int) = 0
        · have := len_zero.1 h2; subst this
          cases h3 : s.zeroB with
          | false => simp
          | true =>
            by_cases h4 : (ts.length : Int) = 2
            · obtain ⟨a, b, rfl⟩ := len_two h4
              simp only [sumL] at h hb
              simp only [h4, if_true, List.getElem?_cons_zero, List.getElem?_cons_succ, bind1_of]
              rw [ref02_Shape' (t := a) (by omega), ref02_Shape' (t := b) (by omega)]
              cases h5 : a.ok <;> cases h6 : b.ok <;> simp [h5, h6]
            · have h5 : ¬ ts.length = 2 := by omega
              simp [h4, h5]
        · have h3 : ¬ l.length = 0 := by omega
          simp [h2, h3]
      · simp only [h1, if_false, Fm.node]
        by_cases h2 : k = 2 ∨ k = 3
        · simp only [h2, if_true]
          by_cases h3 : (ts.length : Int) = 0
          · have := len_zero.1 h3; subst this
            cases h4 : s.zeroB with
            | false => simp
            | true =>
              by_cases h5 : (l.length : Int) = 2
              · obtain ⟨a, b, rfl⟩ := len_two h5
                simp only [sumL] at h hb
                simp only [h5, if_true, List.getElem?_cons_zero, List.getElem?_cons_succ, bind1_of]
                rw [ih a (by omega) (by omega), ih b (by omega) (by omega)]
                cases h6 : a.ok <;> cases h7 : b.ok <;> simp [h6, h7]
              · have h6 : ¬ l.length = 2 := by omega
                simp [h5, h6]
          · have h4 : ¬ ts.length = 0 := by omega
            simp [h3, h4]
        · simp only [h2, if_false]
          cases h3 : quantB k with
          | false => simp
          | true =>
            by_cases h4 : (ts.length : Int) = 0
            · have := len_zero.1 h4; subst this
              by_cases h5 : s.err = 0
              · by_cases h6 : (l.length : Int) = 1
                · obtain ⟨a, rfl⟩ := len_one h6
                  simp only [sumL] at h hb
                  simp only [h5, h6, if_true, List.getElem?_cons_zero, bind1_of]
                  rw [ih a (by omega) (by omega)]
                  simp
                · have h7 : ¬ l.length = 1 := by omega
                  simp [h5, h6, h7]
              · simp [h5]
            · have h5 : ¬ ts.length = 0 := by omega
              simp [h4, h5]
theorem ref07_Count_eq : ∀ (n : Nat) (t : Fm), t.nodes ≤ n → t.nodes ≤ 1000000000 → ref07_Count n t = some (t.nodes : Int) := by
  intro n
  induction n with
  | zero => intro t h; have := t.nodes_pos; omega
  | succ n ih =>
    intro t h hb
    cases t with
    | mk k s ts l =>
      rw [Fm.nodes_mk] at h hb
      have hl := Fm.len_nodes l
      have hl2 := Tm.len_nodes ts
      rw [ref07_Count]
      simp only [Fm.args_mk, Fm.terms_mk, joinB_eq, okLen_of (l := l) (by omega), okLen_of (l := ts) (by omega), chk_true]
      have k1 := forR_sum (ρ := Int) (F := fun (j : Int) (x : Tm) (v : Int) => bind1 (ref02_Count FU x) fun y => some (Ctl.next (iadd .i64 v y))) Tm.nodes ts 0 1 (by omega) (by
        intro j x v hx
        have := sumL_mem Tm.nodes hx
        rw [ref02_Count_eq FU x (by rw [FU_eq]; omega) (by omega)]
        rfl)
      have k2 := forR_sum (ρ := Int) (F := fun (j : Int) (x : Fm) (v : Int) => bind1 (ref07_Count n x) fun y => some (Ctl.next (iadd .i64 v y))) Fm.nodes l 0 (1 + sumL Tm.nodes ts) (by omega) (by
        intro j x v hx
        have := sumL_mem Fm.nodes hx
        rw [ih x (by omega) (by omega)]
        rfl)
      rw [show (1 : Int) = ((1 : Nat) : Int) from rfl, k1]
      simp only [bind1_of, sumK_inl]
      rw [k2]
      simp [Fm.nodes_mk]
theorem ref07_Check_eq {t : Fm} (h : t.wt ≤ 1000000000) : ref07_Check t = some t.err := by
  have := t.nodes_wt
  unfold ref07_Check Fm.err
  rw [ref07_Shape_eq FU t (by rw [FU_eq]; exact h) h, ref07_Count_eq FU t (by rw [FU_eq]; omega) (by omega)]
  cases t.ok with
  | false => simp
  | true => by_cases h1 : 4096 < t.nodes <;> simp [h1] <;> omega
theorem tree_formed_eq (f : Fm) (h : f.wt ≤ 1000000000) : tree_formed f = some (Fm.node f.kind f.typeF f.terms.length f.args.length) := by
  cases f with
  | mk k s ts l =>
    rw [Fm.wt_mk] at h
    show tree_formed (.mk k s ts l) = some (Fm.node k s ts.length l.length)
    have e20 : (ieq (ts.length : Int) 2 && ieq (l.length : Int) 0) = (decide (ts.length = 2) && decide (l.length = 0)) := by
      rw [Bool.eq_iff_iff]; simp only [Bool.and_eq_true, ieq_iff, decide_eq_true_eq]; omega
    have e02 : (ieq (ts.length : Int) 0 && ieq (l.length : Int) 2) = (decide (ts.length = 0) && decide (l.length = 2)) := by
      rw [Bool.eq_iff_iff]; simp only [Bool.and_eq_true, ieq_iff, decide_eq_true_eq]; omega
    have e01 : (ieq (ts.length : Int) 0 && ieq (l.length : Int) 1) = (decide (ts.length = 0) && decide (l.length = 1)) := by
      rw [Bool.eq_iff_iff]; simp only [Bool.and_eq_true, ieq_iff, decide_eq_true_eq]; omega
    unfold tree_formed
    simp only [Fm.args_mk, Fm.kind_mk, Fm.terms_mk, Fm.typeF_mk, joinB_eq, sel_or, sel_and, Bool.or_eq_true, ieq_iff, llen_eq, tree_CheckType_eq (t := s) (by omega), tree_NoType_eq, bind1_of, bind2_of, ine_iff, e20, e02, e01]
    unfold Fm.node
    by_cases h1 : k = 1
    · cases h2 : s.zeroB <;> simp [h1]
    · by_cases h2 : k = 2 ∨ k = 3
      · cases h3 : s.zeroB <;> simp [h1, h2]
      · by_cases h3 : k = 4 ∨ k = 5 ∨ k = 6 ∨ k = 7
        · have hq : quantB k = true := by simp [quantB, h3]
          by_cases h4 : s.err = 0 <;> simp [h1, h2, h3, h4, hq]
        · have hq : quantB k = false := by simp [quantB, h3]
          simp [h1, h2, h3, hq]
theorem tree_formulaNodes_eq : ∀ (n : Nat) (t : Fm), t.wt ≤ n → t.wt ≤ 1000000000 → tree_formulaNodes n t = some (if t.ok = true then ((t.nodes : Int), true) else (0, false)) := by
  intro n
  induction n with
  | zero => intro t h; have := t.wt_pos; omega
  | succ n ih =>
    intro t h hb
    cases t with
    | mk k s ts l =>
      have hf := tree_formed_eq (.mk k s ts l) hb
      rw [Fm.wt_mk] at h hb
      have hl := Fm.len_wt l
      have hl2 := Tm.len_wt ts
      have hn : sumL Tm.nodes ts ≤ sumL Tm.wt ts := sumL_le fun x _ => x.nodes_wt
      have hn2 : sumL Fm.nodes l ≤ sumL Fm.wt l := sumL_le fun x _ => x.nodes_wt
      have k1 : forR (fun (j411 : Int) (x413 : Tm) (v610 : Int) => bind2 (tree_termNodes FU x413) fun x700 x701 => if x701 = true then some (Ctl.next (iadd .i64 v610 x700)) else some (Ctl.ret ((0 : Int), false))) ts 0 1 =
          if ts.all Tm.ok = true then some (.inl ((1 + sumL Tm.nodes ts : Nat) : Int)) else some (.inr (0, false)) := by
        refine forR_sumOk Tm.nodes Tm.ok _ ts 0 1 (by omega) ?_
        intro j x v hx
        have := sumL_mem Tm.wt hx
        rw [tree_termNodes_eq FU x (by rw [FU_eq]; omega) (by omega)]
        cases x.ok <;> simp
      have k2 : forR (fun (j411 : Int) (x413 : Fm) (v610 : Int) => bind2 (tree_formulaNodes n x413) fun x700 x701 => if x701 = true then some (Ctl.next (iadd .i64 v610 x700)) else some (Ctl.ret ((0 : Int), false))) l 0 ((1 + sumL Tm.nodes ts : Nat) : Int) =
          if l.all Fm.ok = true then some (.inl ((1 + sumL Tm.nodes ts + sumL Fm.nodes l : Nat) : Int)) else some (.inr (0, false)) := by
        refine forR_sumOk Fm.nodes Fm.ok _ l 0 _ (by omega) ?_
        intro j x v hx
        have := sumL_mem Fm.wt hx
        rw [ih x (by omega) (by omega)]
        cases x.ok <;> simp
      rw [tree_formulaNodes, hf]
      simp only [Fm.args_mk, Fm.kind_mk, Fm.terms_mk, Fm.typeF_mk, joinB_eq, okLen_of (l := l) (by omega), okLen_of (l := ts) (by omega), chk_true, bind1_of, k1, Fm.ok_mk, Fm.nodes_mk]
      cases h1 : Fm.node k s ts.length l.length with
      | false => simp
      | true =>
        cases h2 : ts.all Tm.ok with
        | false => simp
        | true =>
          simp only [if_true, bind1_of, sumK_inl, k2, Bool.true_and]
          cases h3 : l.all Fm.ok <;> simp
theorem tree_CheckFormula_eq {t : Fm} (h : t.wt ≤ 1000000000) : tree_CheckFormula t = some (if t.err = 0 then (t.nodes : Int) else 0, t.err) := by
  unfold tree_CheckFormula Fm.err
  rw [tree_formulaNodes_eq FU t (by rw [FU_eq]; exact h) h]
  cases t.ok with
  | false => simp
  | true =>
    by_cases h1 : 4096 < t.nodes
    · simp [h1]
      omega
    · simp [h1]
      omega
theorem formula_Check_eq {t : Fm} (h : t.wt ≤ 1000000000) : formula_Check t = some t.err := by
  unfold formula_Check; rw [tree_CheckFormula_eq h]; rfl

theorem ref07_Copy_eq : ∀ (n : Nat) (t : Fm), t.wt ≤ n → t.wt ≤ 1000000000 → ref07_Copy n t = some t := by
  intro n
  induction n with
  | zero => intro t h; have := t.wt_pos; omega
  | succ n ih =>
    intro t h hb
    cases t with
    | mk k s ts l =>
      rw [Fm.wt_mk] at h hb
      have hl := Fm.len_wt l
      have hl2 := Tm.len_wt ts
      rw [ref07_Copy]
      simp only [Fm.args_mk, Fm.kind_mk, Fm.terms_mk, Fm.typeF_mk, joinB_eq, okLen_of (l := l) (by omega), okLen_of (l := ts) (by omega), chk_true, ref01_Copy' (t := s) (by omega), bind1_of]
      rw [forR_map id ts 0 [] (by simp; omega)]
      · simp only [bind1_of, sumK_inl]
        rw [forR_map id l 0 [] (by simp; omega)]
        · simp
        · intro j x v hx hv
          have := sumL_mem Fm.wt hx
          rw [ih x (by omega) (by omega)]
          simp [okApp_of (l := v) (m := [x]) (by simpa using hv)]
      · intro j x v hx hv
        have := sumL_mem Tm.wt hx
        rw [ref02_Copy' (t := x) (by omega)]
        simp [okApp_of (l := v) (m := [x]) (by simpa using hv)]
theorem ref07_Copy' {t : Fm} (h : t.wt ≤ 1000000000) : ref07_Copy FU t = some t := ref07_Copy_eq FU t (by rw [FU_eq]; exact h) h
end Go.Mdl

/-
  Content types: what the program's package content and the reference of chapter 23 compute, and that they agree.
-/
namespace Go.Mdl
open Go

mutual
/-- Whether a formula has content. -/
def Fm.has : Fm → Bool
  | .mk k _ _ l => if k = 1 then false else if k = 2 then Fm.hasAny l else if k = 5 then true else Fm.hasLast l
def Fm.hasAny : List Fm → Bool
  | [] => false
  | f :: l => f.has || Fm.hasAny l
def Fm.hasLast : List Fm → Bool
  | [] => false
  | [f] => f.has
  | _ :: f :: l => Fm.hasLast (f :: l)
end
def joinT (k : Int) (a b : Ty) : Ty × Bool × Int := if (Ty.mk k [a, b]).err ≠ 0 then (.mk 0 [], false, (Ty.mk k [a, b]).err) else (.mk k [a, b], true, 0)
def ctAnd (first last : Ty × Bool × Int) : Ty × Bool × Int :=
  if first.2.2 ≠ 0 ∨ first.2.1 = false then (last.1, last.2.1, first.2.2) else if last.2.1 = true then joinT 3 first.1 last.1 else (first.1, true, 0)
def ctImp (first last : Ty × Bool × Int) : Ty × Bool × Int :=
  if first.2.2 ≠ 0 ∨ first.2.1 = false then (last.1, true, first.2.2) else joinT 4 first.1 last.1
def ctNode (k : Int) (s : Ty) (first last : Ty × Bool × Int) : Ty × Bool × Int :=
  if last.2.2 ≠ 0 then (.mk 0 [], false, last.2.2)
  else if k = 2 then ctAnd first last
  else if k = 5 then (if last.2.1 = true then joinT 3 s last.1 else (s, true, 0))
  else if last.2.1 = true then (if k = 3 then ctImp first last else if k = 4 then joinT 4 s last.1 else (last.1, true, 0))
  else (.mk 0 [], false, 0)
def tup0 : Ty × Bool × Int := (.mk 0 [], false, 0)
mutual
/-- The content type, whether there is one, the error. -/
def Fm.ct : Fm → Ty × Bool × Int
  | .mk k s _ l => if k = 1 then tup0 else ctNode k s (Fm.ctFst l) (Fm.ctLst l)
def Fm.ctFst : List Fm → Ty × Bool × Int
  | [] => tup0
  | f :: _ => f.ct
def Fm.ctLst : List Fm → Ty × Bool × Int
  | [] => tup0
  | [f] => f.ct
  | _ :: f :: l => Fm.ctLst (f :: l)
end
theorem Fm.has_two (k : Int) (s : Ty) (ts : List Tm) (a b : Fm) : (Fm.mk k s ts [a, b]).has = if k = 1 then false else if k = 2 then a.has || b.has else if k = 5 then true else b.has := by
  rw [Fm.has]; simp [Fm.hasAny, Fm.hasLast]
theorem Fm.has_one (k : Int) (s : Ty) (ts : List Tm) (a : Fm) : (Fm.mk k s ts [a]).has = if k = 1 then false else if k = 5 then true else a.has := by
  rw [Fm.has]
  simp only [Fm.hasAny, Fm.hasLast, Bool.or_false]
  by_cases h2 : k = 2
  · subst h2; simp
  · simp [h2]
theorem Fm.has_eq (s : Ty) (ts : List Tm) (l : List Fm) : (Fm.mk 1 s ts l).has = false := by rw [Fm.has]; simp
theorem Fm.ct_two (k : Int) (s : Ty) (ts : List Tm) (a b : Fm) : (Fm.mk k s ts [a, b]).ct = if k = 1 then tup0 else ctNode k s a.ct b.ct := by
  rw [Fm.ct]; simp [Fm.ctFst, Fm.ctLst]
theorem Fm.ct_one (k : Int) (s : Ty) (ts : List Tm) (a : Fm) : (Fm.mk k s ts [a]).ct = if k = 1 then tup0 else ctNode k s a.ct a.ct := by
  rw [Fm.ct]; simp [Fm.ctFst, Fm.ctLst]
theorem Fm.ct_eq (s : Ty) (ts : List Tm) (l : List Fm) : (Fm.mk 1 s ts l).ct = tup0 := by rw [Fm.ct]; simp

/-- The forms that a right formula has. -/
theorem Fm.ok_cases {p : Fm → Prop} (h1 : ∀ a b : Tm, a.ok = true → b.ok = true → p (.mk 1 (.mk 0 []) [a, b] []))
    (h2 : ∀ (k : Int) (a b : Fm), k = 2 ∨ k = 3 → a.ok = true → b.ok = true → p a → p b → p (.mk k (.mk 0 []) [] [a, b]))
    (h3 : ∀ (k : Int) (s : Ty) (a : Fm), k = 4 ∨ k = 5 ∨ k = 6 ∨ k = 7 → s.err = 0 → a.ok = true → p a → p (.mk k s [] [a])) (f : Fm) (hf : f.ok = true) : p f := by
  induction f using Fm.ind with
  | h k s ts l ih =>
    rw [Fm.ok_mk] at hf
    simp only [Bool.and_eq_true, List.all_eq_true] at hf
    obtain ⟨⟨hn, hts⟩, hl⟩ := hf
    unfold Fm.node at hn
    split at hn
    · rename_i hk
      subst hk
      simp only [Bool.and_eq_true, decide_eq_true_eq, Ty.zeroB_iff] at hn
      obtain ⟨⟨rfl, h4⟩, h5⟩ := hn
      obtain ⟨a, b, rfl⟩ := len_two (l := ts) (by omega)
      have := List.length_eq_zero_iff.1 h5
      subst this
      exact h1 a b (hts a (by simp)) (hts b (by simp))
    · split at hn
      · rename_i hk
        simp only [Bool.and_eq_true, decide_eq_true_eq, Ty.zeroB_iff] at hn
        obtain ⟨⟨rfl, h4⟩, h5⟩ := hn
        obtain ⟨a, b, rfl⟩ := len_two (l := l) (by omega)
        have := List.length_eq_zero_iff.1 h4
        subst this
        exact h2 k a b hk (hl a (by simp)) (hl b (by simp)) (ih a (by simp) (hl a (by simp))) (ih b (by simp) (hl b (by simp)))
      · simp only [Bool.and_eq_true, decide_eq_true_eq] at hn
        obtain ⟨⟨⟨hq, hs⟩, h4⟩, h5⟩ := hn
        obtain ⟨a, rfl⟩ := len_one (l := l) (by omega)
        have := List.length_eq_zero_iff.1 h4
        subst this
        refine h3 k s a ?_ hs (hl a (by simp)) (ih a (by simp) (hl a (by simp)))
        simpa [quantB] using hq

theorem Ty.err_zero {t : Ty} (h : t.err = 0) : t.ok = true ∧ t.nodes ≤ 64 := by
  unfold Ty.err at h
  split at h
  · split at h
    · omega
    · exact ⟨‹_›, by omega⟩
  · omega
theorem Ty.err_of {t : Ty} (h : t.ok = true) (h2 : t.nodes ≤ 64) : t.err = 0 := by unfold Ty.err; rw [if_pos h, if_neg (by omega)]
theorem Ty.err_or {t : Ty} (h : t.ok = true) : t.err = 0 ∨ t.err = 4 := by unfold Ty.err; rw [if_pos h]; split <;> simp
theorem Ty.ok_two {k : Int} (hk : k = 3 ∨ k = 4) {a b : Ty} (ha : a.ok = true) (hb : b.ok = true) : (Ty.mk k [a, b]).ok = true := by
  rw [Ty.ok_mk]
  have : ¬ (k = 1 ∨ k = 2 ∨ k = 5) := by omega
  simp [Ty.want, hk, this, ha, hb]
theorem joinT_good {k : Int} (hk : k = 3 ∨ k = 4) {a b : Ty} (ha : a.ok = true) (hb : b.ok = true) :
    ((joinT k a b).2.2 = 0 ∨ (joinT k a b).2.2 = 4) ∧ ((joinT k a b).2.2 = 0 → (joinT k a b).2.1 = true ∧ (joinT k a b).1.err = 0) := by
  unfold joinT
  rcases Ty.err_or (Ty.ok_two hk ha hb) with h | h
  · rw [if_neg (by simp [h])]; exact ⟨.inl rfl, fun _ => ⟨rfl, h⟩⟩
  · rw [if_pos (by omega)]; exact ⟨.inr h, fun h' => absurd (h.symm.trans h') (by decide)⟩

/-- What a content type is like. -/
structure CtOk (f : Fm) : Prop where
  e : f.ct.2.2 = 0 ∨ f.ct.2.2 = 4
  h : f.ct.2.2 = 0 → f.ct.2.1 = f.has
  n : f.has = false → f.ct.2.2 = 0
  t : f.ct.2.2 = 0 → f.has = true → f.ct.1.err = 0
theorem ct_ok (f : Fm) (hf : f.ok = true) : CtOk f := by
  refine Fm.ok_cases (p := CtOk) ?_ ?_ ?_ f hf
  · intro a b _ _
    refine ⟨?_, ?_, ?_, ?_⟩ <;> rw [Fm.ct_eq] <;> simp [tup0, Fm.has_eq]
  · intro k a b hk ha hb iha ihb
    have hk1 : k ≠ 1 := by omega
    have hk5 : k ≠ 5 := by omega
    refine ⟨?_, ?_, ?_, ?_⟩ <;> rw [Fm.ct_two, if_neg hk1] <;> (try rw [Fm.has_two, if_neg hk1]) <;> (try simp only [hk5, if_false]) <;> unfold ctNode
    all_goals
      rcases ihb.e with eb | eb
      · have hb1 := ihb.h eb
        have hbt := ihb.t eb
        rcases hk with rfl | rfl
        · -- and
          simp only [eb, ne_eq, not_true_eq_false, if_false, if_true]
          unfold ctAnd
          rcases iha.e with ea | ea
          · have ha1 := iha.h ea
            have hat := iha.t ea
            cases hha : a.has
            · simp_all
            · cases hhb : b.has
              · simp_all
              · have := joinT_good (k := 3) (.inl rfl) (Ty.err_zero (hat hha)).1 (Ty.err_zero (hbt hhb)).1
                simp_all
          · have : a.has = true := by
              cases h : a.has with
              | true => rfl
              | false => have := iha.n h; omega
            simp_all
        · simp only [eb, ne_eq, not_true_eq_false, if_false, show ¬ (3 : Int) = 2 by omega, show ¬ (3 : Int) = 5 by omega, if_true]
          unfold ctImp
          cases hhb : b.has
          · simp_all
          · rcases iha.e with ea | ea
            · have ha1 := iha.h ea
              have hat := iha.t ea
              cases hha : a.has
              · simp_all
              · have := joinT_good (k := 4) (.inr rfl) (Ty.err_zero (hat hha)).1 (Ty.err_zero (hbt hhb)).1
                simp_all
            · simp_all
      · have : b.has = true := by
          cases h : b.has with
          | true => rfl
          | false => have := ihb.n h; omega
        simp [eb, this]
  · intro k s a hk hs ha iha
    have hk1 : k ≠ 1 := by omega
    have hk2 : k ≠ 2 := by omega
    have hk3 : k ≠ 3 := by omega
    refine ⟨?_, ?_, ?_, ?_⟩ <;> rw [Fm.ct_one, if_neg hk1] <;> (try rw [Fm.has_one, if_neg hk1]) <;> unfold ctNode <;> (try simp only [hk2, hk3, if_false])
    all_goals
      rcases iha.e with ea | ea
      · have ha1 := iha.h ea
        have hat := iha.t ea
        cases hha : a.has
        · by_cases h5 : k = 5 <;> simp_all
        · have j3 := joinT_good (k := 3) (.inl rfl) (Ty.err_zero hs).1 (Ty.err_zero (hat hha)).1
          have j4 := joinT_good (k := 4) (.inr rfl) (Ty.err_zero hs).1 (Ty.err_zero (hat hha)).1
          by_cases h5 : k = 5
          · simp_all
          · by_cases h4 : k = 4 <;> simp_all
      · have : a.has = true := by
          cases h : a.has with
          | true => rfl
          | false => have := iha.n h; omega
        by_cases h5 : k = 5 <;> simp_all

theorem Ty.nodes_two (k : Int) (a b : Ty) : (Ty.mk k [a, b]).nodes = 1 + a.nodes + b.nodes := by rw [Ty.nodes_mk]; simp [sumL]; omega
theorem ct_nodes (f : Fm) (hf : f.ok = true) (h : f.ct.2.2 = 0) (hh : f.ct.2.1 = true) : f.ct.1.nodes ≤ 64 :=
  (Ty.err_zero ((ct_ok f hf).t h (by rw [← (ct_ok f hf).h h]; exact hh))).2

theorem Fm.err_ok {f : Fm} (h : f.err = 0) : f.ok = true ∧ f.nodes ≤ 4096 := by
  unfold Fm.err at h
  split at h
  · split at h
    · omega
    · exact ⟨‹_›, by omega⟩
  · omega
/-- What content.Type returns. -/
def Fm.cty (f : Fm) : Ty × Int := if f.err ≠ 0 then (.mk 0 [], f.err) else if f.ct.2.2 ≠ 0 then (.mk 0 [], f.ct.2.2) else (if f.has = true then f.ct.1 else .mk 5 [], 0)
/-- What the reference returns for a right formula. -/
def Fm.rf (f : Fm) : Ty × Int := if f.ct.2.2 ≠ 0 then (.mk 0 [], f.ct.2.2) else (if f.has = true then f.ct.1 else .mk 5 [], 0)
theorem Fm.err_arg {k : Int} {s : Ty} {ts : List Tm} {l : List Fm} (h : (Fm.mk k s ts l).err = 0) {a : Fm} (ha : a ∈ l) : a.err = 0 := by
  obtain ⟨h1, h2⟩ := Fm.err_ok h
  rw [Fm.ok_mk] at h1
  simp only [Bool.and_eq_true, List.all_eq_true] at h1
  rw [Fm.nodes_mk] at h2
  have := sumL_mem Fm.nodes ha
  unfold Fm.err
  rw [if_pos (h1.2 a ha), if_neg (by omega)]
theorem Fm.err_of {f : Fm} (h : f.ok = true) (h2 : f.nodes ≤ 4096) : f.err = 0 := by unfold Fm.err; rw [if_pos h, if_neg (by omega)]
end Go.Mdl

/-
  What is made of a deck of numbers: types, terms, with their types; bounds on their sizes.
-/
namespace Go.Mdl
open Go

def Ty.nat : Ty := .mk 1 []
def Ty.lst : Ty := .mk 2 []
def Ty.unit : Ty := .mk 5 []
def Ty.fn (a b : Ty) : Ty := .mk 4 [a, b]
def Ty.pr (a b : Ty) : Ty := .mk 3 [a, b]
def Ty.z : Ty := .mk 0 []

/-- A term has a type in a context, whose last type is that of the variable 0. -/
inductive HasTy : List Ty → Tm → Ty → Prop
  | var {g t} (i : Nat) : i < g.length → g[g.length - 1 - i]? = some t → HasTy g (.mk 1 i .z []) t
  | lam {g s b t} : (Ty.fn s t).err = 0 → HasTy (g ++ [s]) b t → HasTy g (.mk 2 0 s [b]) (.fn s t)
  | app {g f a s t} : HasTy g f (.fn s t) → HasTy g a s → HasTy g (.mk 3 0 .z [f, a]) t
  | zero {g} : HasTy g (.mk 4 0 .z []) .nat
  | succ {g a} : HasTy g a .nat → HasTy g (.mk 5 0 .z [a]) .nat
  | recN {g t b s n} : t.err = 0 → HasTy g b t → HasTy g s (.fn .nat (.fn t t)) → HasTy g n .nat → HasTy g (.mk 6 0 t [b, s, n]) t
  | nil {g} : HasTy g (.mk 7 0 .z []) .lst
  | cons {g a b} : HasTy g a .nat → HasTy g b .lst → HasTy g (.mk 8 0 .z [a, b]) .lst
  | fold {g t b s n} : t.err = 0 → HasTy g b t → HasTy g s (.fn .nat (.fn .lst (.fn t t))) → HasTy g n .lst → HasTy g (.mk 9 0 t [b, s, n]) t
  | pair {g a b s t} : (Ty.pr s t).err = 0 → HasTy g a s → HasTy g b t → HasTy g (.mk 10 0 .z [a, b]) (.pr s t)
  | fst {g a s t} : HasTy g a (.pr s t) → HasTy g (.mk 11 0 .z [a]) s
  | snd {g a s t} : HasTy g a (.pr s t) → HasTy g (.mk 12 0 .z [a]) t
  | unit {g} : HasTy g (.mk 13 0 .z []) .unit

theorem Ty.zeroB_z : Ty.z.zeroB = true := rfl
theorem Ty.err_parts {k : Int} (hk : k = 3 ∨ k = 4) {a b : Ty} (h : (Ty.mk k [a, b]).err = 0) : a.err = 0 ∧ b.err = 0 := by
  obtain ⟨h1, h2⟩ := Ty.err_zero h
  rw [Ty.ok_mk] at h1
  simp only [Bool.and_eq_true, List.all_eq_true] at h1
  rw [Ty.nodes_two] at h2
  exact ⟨Ty.err_of (h1.2 a (by simp)) (by omega), Ty.err_of (h1.2 b (by simp)) (by omega)⟩

theorem HasTy.ok {g : List Ty} {x : Tm} {t : Ty} (h : HasTy g x t) : x.ok = true := by
  induction h with
  | var i h1 h2 =>
    have : (0 : Int) ≤ (i : Nat) := by omega
    simp [Tm.ok_mk, Tm.node, tmArgs, typedB, Ty.zeroB_z, this]
  | lam h1 _ ih => have := (Ty.err_parts (.inr rfl) h1).1; simp [Tm.ok_mk, Tm.node, tmArgs, typedB, this, ih]
  | app _ _ ih1 ih2 => simp [Tm.ok_mk, Tm.node, tmArgs, typedB, Ty.zeroB_z, ih1, ih2]
  | zero => simp [Tm.ok_mk, Tm.node, tmArgs, typedB, Ty.zeroB_z]
  | succ _ ih => simp [Tm.ok_mk, Tm.node, tmArgs, typedB, Ty.zeroB_z, ih]
  | recN h1 _ _ _ ih1 ih2 ih3 => simp [Tm.ok_mk, Tm.node, tmArgs, typedB, h1, ih1, ih2, ih3]
  | nil => simp [Tm.ok_mk, Tm.node, tmArgs, typedB, Ty.zeroB_z]
  | cons _ _ ih1 ih2 => simp [Tm.ok_mk, Tm.node, tmArgs, typedB, Ty.zeroB_z, ih1, ih2]
  | fold h1 _ _ _ ih1 ih2 ih3 => simp [Tm.ok_mk, Tm.node, tmArgs, typedB, h1, ih1, ih2, ih3]
  | pair _ _ _ ih1 ih2 => simp [Tm.ok_mk, Tm.node, tmArgs, typedB, Ty.zeroB_z, ih1, ih2]
  | fst _ ih => simp [Tm.ok_mk, Tm.node, tmArgs, typedB, Ty.zeroB_z, ih]
  | snd _ ih => simp [Tm.ok_mk, Tm.node, tmArgs, typedB, Ty.zeroB_z, ih]
  | unit => simp [Tm.ok_mk, Tm.node, tmArgs, typedB, Ty.zeroB_z]
theorem Tm.least_mono (t : Tm) : ∀ {m n : Int}, m ≤ n → t.least m = true → t.least n = true := by
  induction t using Tm.ind with
  | h k i s l ih =>
    intro m n hmn h
    rw [Tm.least_mk] at *
    simp only [Bool.and_eq_true, decide_eq_true_eq, List.all_eq_true] at *
    exact ⟨by omega, fun x hx => ih x hx hmn (h.2 x hx)⟩
theorem HasTy.least {g : List Ty} {x : Tm} {t : Ty} (h : HasTy g x t) : ∀ m : Int, ((g.length + x.nodes : Nat) : Int) ≤ m → x.least m = true := by
  induction h with
  | var i h1 h2 => intro m hm; simp only [Tm.nodes_mk, sumL] at hm; simp only [Tm.least_mk, List.all_nil, Bool.and_true, decide_eq_true_eq]; omega
  | lam _ _ ih =>
    intro m hm
    simp only [Tm.nodes_mk, sumL] at hm
    simp only [Tm.least_mk, List.all_cons, List.all_nil, Bool.and_true, Bool.and_eq_true, decide_eq_true_eq]
    exact ⟨by omega, ih m (by simp; omega)⟩
  | zero | nil | unit => intro m hm; simp only [Tm.nodes_mk, sumL] at hm; simp only [Tm.least_mk, List.all_nil, Bool.and_true, decide_eq_true_eq]; omega
  | succ _ ih | fst _ ih | snd _ ih =>
    intro m hm
    simp only [Tm.nodes_mk, sumL] at hm
    simp only [Tm.least_mk, List.all_cons, List.all_nil, Bool.and_true, Bool.and_eq_true, decide_eq_true_eq]
    exact ⟨by omega, ih m (by omega)⟩
  | app _ _ ih1 ih2 | cons _ _ ih1 ih2 | pair _ _ _ ih1 ih2 =>
    intro m hm
    simp only [Tm.nodes_mk, sumL] at hm
    simp only [Tm.least_mk, List.all_cons, List.all_nil, Bool.and_true, Bool.and_eq_true, decide_eq_true_eq]
    exact ⟨by omega, ih1 m (by omega), ih2 m (by omega)⟩
  | recN _ _ _ _ ih1 ih2 ih3 | fold _ _ _ _ ih1 ih2 ih3 =>
    intro m hm
    simp only [Tm.nodes_mk, sumL] at hm
    simp only [Tm.least_mk, List.all_cons, List.all_nil, Bool.and_true, Bool.and_eq_true, decide_eq_true_eq]
    exact ⟨by omega, ih1 m (by omega), ih2 m (by omega), ih3 m (by omega)⟩
theorem sumL_mul {α : Type} {f g : α → Nat} {c : Nat} {l : List α} (h : ∀ x ∈ l, f x ≤ c * g x) : sumL f l ≤ c * sumL g l := by
  induction l with
  | nil => simp [sumL]
  | cons x l ih => simp only [sumL, Nat.mul_add]; have := h x (by simp); have := ih fun y hy => h y (by simp [hy]); omega
theorem Tm.ok_wt (t : Tm) (h : t.ok = true) : t.wt ≤ 65 * t.nodes := by
  induction t using Tm.ind with
  | h k i s l ih =>
    rw [Tm.ok_mk] at h
    simp only [Bool.and_eq_true, List.all_eq_true] at h
    rw [Tm.wt_mk, Tm.nodes_mk, Nat.mul_add]
    have h1 := sumL_mul fun x hx => ih x hx (h.2 x hx)
    have h2 : s.nodes ≤ 64 := by
      have := h.1
      simp only [Tm.node, Bool.and_eq_true] at this
      have h3 := this.2
      split at h3
      · simp only [decide_eq_true_eq] at h3; exact (Ty.err_zero h3).2
      · rw [Ty.zeroB_iff] at h3; subst h3; rw [Ty.nodes_mk]; simp [sumL]
    omega
theorem Fm.ok_wt (f : Fm) (h : f.ok = true) : f.wt ≤ 65 * f.nodes := by
  induction f using Fm.ind with
  | h k s ts l ih =>
    rw [Fm.ok_mk] at h
    simp only [Bool.and_eq_true, List.all_eq_true] at h
    rw [Fm.wt_mk, Fm.nodes_mk, Nat.mul_add, Nat.mul_add]
    have h1 := sumL_mul fun x hx => ih x hx (h.2 x hx)
    have h2 := sumL_mul (f := Tm.wt) (g := Tm.nodes) (c := 65) (l := ts) fun x hx => x.ok_wt (h.1.2 x hx)
    have h3 : s.nodes ≤ 64 := by
      have := h.1.1
      unfold Fm.node at this
      split at this
      · simp only [Bool.and_eq_true, Ty.zeroB_iff] at this; rw [this.1.1, Ty.nodes_mk]; simp [sumL]
      · split at this
        · simp only [Bool.and_eq_true, Ty.zeroB_iff] at this; rw [this.1.1, Ty.nodes_mk]; simp [sumL]
        · simp only [Bool.and_eq_true, decide_eq_true_eq] at this; exact (Ty.err_zero this.1.1.2).2
    omega

/-! ### the deck -/
structure Smk_Deck.wf (d : Smk_Deck) : Prop where
  len : d.l.length ≤ 1000
  lo : 0 ≤ d.atF
  hi : d.atF ≤ d.l.length

theorem mk_Mod_eq (x n : Int) (h1 : 1 ≤ n) (h2 : n ≤ 1000000000) : ∃ y, mk_Mod x n = some y ∧ 0 ≤ y ∧ y < n := by
  unfold mk_Mod
  simp only [okDiv_of (b := n) (by omega), chk_true]
  refine ⟨_, rfl, ?_⟩
  unfold irem
  have e : (x.tmod n).natAbs < n.natAbs := by
    rw [Int.natAbs_tmod]
    exact Nat.mod_lt _ (by omega)
  rw [iadd_in (by omega) (by omega)]
  have h0 : 0 ≤ x.tmod n + n := by omega
  exact ⟨Int.tmod_nonneg _ h0, Int.tmod_lt_of_pos _ (by omega)⟩
theorem next_ok (d : Smk_Deck) (hd : d.wf) (n : Int) (h1 : 1 ≤ n) (h2 : n ≤ 1000000000) : ∃ x d', mk_Deck_Next d n = some (x, d') ∧ 0 ≤ x ∧ x < n ∧ d'.wf := by
  unfold mk_Deck_Next
  simp only [sel_or, Bool.or_eq_true, ilt_iff, ige_iff, llen_eq]
  by_cases hc : n < 1 ∨ (d.l.length : Int) ≤ d.atF
  · rw [if_pos hc]; exact ⟨0, d, rfl, by omega, by omega, hd⟩
  · rw [if_neg hc]
    obtain ⟨y, hy, _⟩ := lget_some (l := d.l) hd.lo (by omega)
    obtain ⟨z, hz, h3, h4⟩ := mk_Mod_eq y n h1 h2
    rw [hy]
    simp only [bind1_of, hz]
    have := hd.len
    have := hd.lo
    rw [iadd_in (by omega) (by omega)]
    exact ⟨z, _, rfl, h3, h4, ⟨hd.len, by show 0 ≤ d.atF + 1; omega, by show d.atF + 1 ≤ (d.l.length : Int); omega⟩⟩

theorem ref01_Nat_eq : ref01_Nat = some .nat := rfl
theorem ref01_List_eq : ref01_List = some .lst := rfl
theorem ref01_Unit_eq : ref01_Unit = some .unit := rfl
theorem ref01_Two_eq {a b : Ty} (ha : a.nodes ≤ 1000000000) (hb : b.nodes ≤ 1000000000) : ref01_Two a b = some (.pr a b) := by
  unfold ref01_Two; rw [ref01_Copy' ha, ref01_Copy' hb]; rfl
theorem ref01_Fun_eq {a b : Ty} (ha : a.nodes ≤ 1000000000) (hb : b.nodes ≤ 1000000000) : ref01_Fun a b = some (.fn a b) := by
  unfold ref01_Fun; rw [ref01_Copy' ha, ref01_Copy' hb]; rfl
theorem Ty.nat_ok : Ty.nat.ok = true := by unfold Ty.nat; rw [Ty.ok_mk]; rfl
theorem Ty.lst_ok : Ty.lst.ok = true := by unfold Ty.lst; rw [Ty.ok_mk]; rfl
theorem Ty.unit_ok : Ty.unit.ok = true := by unfold Ty.unit; rw [Ty.ok_mk]; rfl
theorem Ty.nat_nodes : Ty.nat.nodes = 1 := by unfold Ty.nat; rw [Ty.nodes_mk]; rfl
theorem Ty.lst_nodes : Ty.lst.nodes = 1 := by unfold Ty.lst; rw [Ty.nodes_mk]; rfl
theorem Ty.unit_nodes : Ty.unit.nodes = 1 := by unfold Ty.unit; rw [Ty.nodes_mk]; rfl
theorem Ty.fn_nodes (a b : Ty) : (Ty.fn a b).nodes = 1 + a.nodes + b.nodes := Ty.nodes_two _ _ _
theorem Ty.pr_nodes (a b : Ty) : (Ty.pr a b).nodes = 1 + a.nodes + b.nodes := Ty.nodes_two _ _ _

theorem pow_bd (k : Nat) (h : k ≤ 4) : 1 ≤ 2 ^ k ∧ 2 ^ k ≤ 16 := by
  have : k = 0 ∨ k = 1 ∨ k = 2 ∨ k = 3 ∨ k = 4 := by omega
  rcases this with rfl | rfl | rfl | rfl | rfl <;> decide
theorem mk_Type_ok : ∀ (n k : Nat) (d : Smk_Deck), k < n → k ≤ 4 → d.wf → ∃ t d', mk_Type n d (k : Int) = some (t, d') ∧ t.ok = true ∧ t.nodes + 1 ≤ 2 ^ (k + 1) ∧ d'.wf := by
  intro n
  induction n with
  | zero => intro k d h; omega
  | succ n ih =>
    intro k d hk hk4 hd
    obtain ⟨x, d1, h1, h2, h3, h4⟩ := next_ok d hd 7 (by omega) (by omega)
    have hp := pow_bd k hk4
    have e2 : (2 : Nat) ^ (k + 1) = 2 * 2 ^ k := by rw [Nat.pow_succ]; omega
    have leafN := fun d' (hd' : Smk_Deck.wf d') => (⟨Ty.nat, d', rfl, Ty.nat_ok, by rw [Ty.nat_nodes]; omega, hd'⟩ : ∃ t d'', some (Ty.nat, d') = some (t, d'') ∧ t.ok = true ∧ t.nodes + 1 ≤ 2 ^ (k + 1) ∧ d''.wf)
    rw [mk_Type]
    simp only [joinB_eq, h1, bind2_of, ref01_Nat_eq, ref01_List_eq, ref01_Unit_eq, bind1_of, sel_or, Bool.or_eq_true, ieq_iff, igt_iff]
    split
    · exact leafN d1 h4
    split
    · exact ⟨.lst, d1, rfl, Ty.lst_ok, by rw [Ty.lst_nodes]; omega, h4⟩
    split
    · exact ⟨.unit, d1, rfl, Ty.unit_ok, by rw [Ty.unit_nodes]; omega, h4⟩
    have two : 0 < (k : Int) → ∃ a b d2 d3, mk_Type n d1 (isub .i64 (k : Int) 1) = some (a, d2) ∧ mk_Type n d2 (isub .i64 (k : Int) 1) = some (b, d3) ∧ a.ok = true ∧ b.ok = true ∧ a.nodes + 1 ≤ 2 ^ k ∧ b.nodes + 1 ≤ 2 ^ k ∧ d3.wf := by
      intro hpos
      obtain ⟨m, rfl⟩ : ∃ m, k = m + 1 := ⟨k - 1, by omega⟩
      rw [isub_in (by omega) (by omega), show ((m + 1 : Nat) : Int) - 1 = (m : Int) by omega]
      obtain ⟨a, d2, a1, a2, a3, a4⟩ := ih m d1 (by omega) (by omega) h4
      obtain ⟨b, d3, b1, b2, b3, b4⟩ := ih m d2 (by omega) (by omega) a4
      exact ⟨a, b, d2, d3, a1, b1, a2, b2, a3, b3, b4⟩
    split
    · split
      · rename_i hpos
        obtain ⟨a, b, d2, d3, a1, b1, a2, b2, a3, b3, b4⟩ := two hpos
        rw [a1]; simp only [bind2_of]; rw [b1]; simp only [bind2_of]
        rw [ref01_Two_eq (by omega) (by omega)]
        exact ⟨_, _, rfl, Ty.ok_two (.inl rfl) a2 b2, by rw [Ty.pr_nodes]; omega, b4⟩
      · exact leafN d1 h4
    split
    · split
      · rename_i hpos
        obtain ⟨a, b, d2, d3, a1, b1, a2, b2, a3, b3, b4⟩ := two hpos
        rw [a1]; simp only [bind2_of]; rw [b1]; simp only [bind2_of]
        rw [ref01_Fun_eq (by omega) (by omega)]
        exact ⟨_, _, rfl, Ty.ok_two (.inr rfl) a2 b2, by rw [Ty.fn_nodes]; omega, b4⟩
      · exact leafN d1 h4
    · exact leafN d1 h4
/-- As the other functions call it. -/
theorem mk_Type' (d : Smk_Deck) (hd : d.wf) (k : Nat) (hk : k ≤ 4) : ∃ t d', mk_Type FU d (k : Int) = some (t, d') ∧ t.err = 0 ∧ t.nodes + 1 ≤ 2 ^ (k + 1) ∧ d'.wf := by
  obtain ⟨t, d', h1, h2, h3, h4⟩ := mk_Type_ok FU k d (by rw [FU_eq]; omega) hk hd
  have hp := pow_bd k hk
  have e2 : (2 : Nat) ^ (k + 1) = 2 * 2 ^ k := by rw [Nat.pow_succ]; omega
  exact ⟨t, d', h1, Ty.err_of h2 (by omega), h3, h4⟩

theorem mk_vars_ok (g : List Ty) (t : Ty) (hg : g.length ≤ 1000000) (hn : ∀ s ∈ g, s.nodes ≤ 1000000000) :
    ∃ l, mk_vars g t = some l ∧ l.length ≤ g.length ∧ ∀ v ∈ l, ∃ i : Nat, v = i ∧ i < g.length ∧ g[g.length - 1 - i]? = some t := by
  unfold mk_vars
  simp only [okLen_of (l := g) (by omega), chk_true, joinB_eq]
  have key : ∀ (l : List Ty) (i : Nat) (v : List Int), i + l.length = g.length → v.length ≤ i → (∀ x ∈ v, ∃ j : Nat, x = j ∧ j < g.length ∧ g[g.length - 1 - j]? = some t) →
      ∃ v', forR (ρ := List Int) (fun (j : Int) (_x : Ty) (v : List Int) => bind1 (lget g (isub .i64 (isub .i64 (llen g) 1) j)) fun x => bind1 (ref01_Same FU x t) fun y => if y = true then chk (okApp v [j]) (some (Ctl.next (lapp v [j]))) else some (Ctl.next v)) l i v = some (.inl v') ∧
        v'.length ≤ g.length ∧ ∀ x ∈ v', ∃ j : Nat, x = j ∧ j < g.length ∧ g[g.length - 1 - j]? = some t := by
    intro l
    induction l with
    | nil =>
      intro i v hl hv hx
      exact ⟨v, rfl, by simp at hl; omega, hx⟩
    | cons y l ih =>
      intro i v hl hv hx
      simp only [List.length_cons] at hl
      have hlt : g.length - 1 - i < g.length := by omega
      have e1 : lget g (isub .i64 (isub .i64 (llen g) 1) (i : Int)) = some g[g.length - 1 - i] := by
        rw [llen_eq, isub_in (a := (g.length : Int)) (b := 1) (by omega) (by omega), isub_in (by omega) (by omega), show (g.length : Int) - 1 - (i : Int) = ((g.length - 1 - i : Nat) : Int) by omega, lget_ofNat]
        simp [hlt]
      rw [forR_cons]
      simp only [e1, bind1_of, ref01_Same' (hn _ (List.getElem_mem hlt))]
      cases hs : Ty.sameB g[g.length - 1 - i] t with
      | false =>
        simp only [Bool.false_eq_true, if_false, bind1_of, ctlK_next]
        exact ih (i + 1) v (by omega) (by omega) hx
      | true =>
        rw [Ty.sameB_iff] at hs
        simp only [if_true, okApp_of (l := v) (m := [(i : Int)]) (by simp; omega), chk_true, bind1_of, ctlK_next, lapp_eq]
        refine ih (i + 1) (v ++ [(i : Int)]) (by omega) (by simp; omega) ?_
        intro x hx'
        rcases List.mem_append.1 hx' with h | h
        · exact hx x h
        · rw [List.mem_singleton] at h
          exact ⟨i, h, by omega, by rw [List.getElem?_eq_getElem hlt, hs]⟩
  obtain ⟨v', h1, h2, h3⟩ := key g 0 [] (by simp) (by simp) (by simp)
  rw [h1]
  exact ⟨v', rfl, h2, h3⟩

theorem mk_longer_eq (g l : List Ty) (h : g.length + l.length ≤ 1000000) : mk_longer g l = some (g ++ l) := by
  unfold mk_longer
  rw [okApp_of (by simp; omega), chk_true, okApp_of (by simp; omega), chk_true]
  simp

theorem ref05_numeral_ok (n : Nat) (hn : n ≤ 1000000) : ∃ x, ref05_numeral (n : Int) = some x ∧ ∀ g, HasTy g x .nat ∧ x.nodes = n + 1 := by
  unfold ref05_numeral
  rw [ref02_N_eq 4 [] (by simp [sumL])]
  simp only [bind1_of, joinB_eq]
  obtain ⟨o, h1, h2⟩ := loopN_inv (ρ := Tm) (F := un6 fun (v165 : Int) (v166 : Int) (v167 : Int) (v168 : Int) (v169 : List Ty) (v170 : List Tm) =>
      if igt v165 0 = true then some (Ctl.next (isub .i64 v165 1, 5, 0, 0, [], [Tm.mk v166 v167 (Ty.mk v168 v169) v170])) else some (Ctl.brk (v165, v166, v167, v168, v169, v170)))
    (fun s => 0 ≤ s.1 ∧ s.1 ≤ n ∧ (∀ g, HasTy g (Tm.mk s.2.1 s.2.2.1 (Ty.mk s.2.2.2.1 s.2.2.2.2.1) s.2.2.2.2.2) .nat) ∧ (Tm.mk s.2.1 s.2.2.1 (Ty.mk s.2.2.2.1 s.2.2.2.2.1) s.2.2.2.2.2).nodes + s.1 = n + 1)
    (fun s => s.1.toNat)
    (fun o => match o with | .inl s => (∀ g, HasTy g (Tm.mk s.2.1 s.2.2.1 (Ty.mk s.2.2.2.1 s.2.2.2.2.1) s.2.2.2.2.2) .nat) ∧ (Tm.mk s.2.1 s.2.2.1 (Ty.mk s.2.2.2.1 s.2.2.2.2.1) s.2.2.2.2.2).nodes = n + 1 | .inr _ => False)
    (by
      rintro ⟨a, b, c, d, e, f⟩ ⟨h1, h2, h3, h4⟩
      simp only at h1 h2 h3 h4
      by_cases ha : 0 < a
      · left
        refine ⟨_, by simp only [un6_mk, igt_iff, ha, if_true]; rfl, ⟨?_, ?_, ?_, ?_⟩, ?_⟩
        · rw [isub_in (by omega) (by omega)]; show 0 ≤ a - 1; omega
        · rw [isub_in (by omega) (by omega)]; show a - 1 ≤ n; omega
        · intro g; exact HasTy.succ (h3 g)
        · rw [isub_in (by omega) (by omega)]
          rw [Tm.nodes_mk]
          simp only [sumL]
          push_cast
          omega
        · rw [isub_in (by omega) (by omega)]; show (a - 1).toNat < a.toNat; omega
      · right; left
        refine ⟨_, by simp only [un6_mk, igt_iff, ha, if_false]; rfl, h3, ?_⟩
        have : a = 0 := by omega
        subst this
        simp only; omega)
    FU ((n : Int), 4, 0, 0, [], []) ⟨by simp, by simp, fun g => HasTy.zero, by rw [Tm.nodes_mk]; simp [sumL]; omega⟩ (by rw [FU_eq]; show (n : Int).toNat < _; omega)
  simp only [Tm.kind_mk, Tm.index_mk, Tm.typeF_mk, Ty.kind_mk, Ty.args_mk, Tm.args_mk]
  rw [h1]
  cases o with
  | inr r => exact h2.elim
  | inl s =>
    obtain ⟨a, b, c, d, e, f⟩ := s
    exact ⟨_, rfl, fun g => ⟨h2.1 g, h2.2⟩⟩
theorem mk_Num_ok (n : Int) (h0 : 0 ≤ n) (hn : n ≤ 4000) : ∃ x, mk_Num n = some x ∧ ∀ g, HasTy g x .nat ∧ (x.nodes : Int) = n + 1 := by
  obtain ⟨k, rfl⟩ := Int.eq_ofNat_of_zero_le h0
  obtain ⟨x, h1, h2⟩ := ref05_numeral_ok k (by omega)
  unfold mk_Num ref05_Number
  simp only [ilt_iff, ige_iff]
  rw [if_neg (by omega), if_neg (by omega), h1]
  exact ⟨x, rfl, fun g => ⟨(h2 g).1, by rw [(h2 g).2]; simp⟩⟩

theorem wt_two {a b : Tm} {n : Nat} (ha : a.wt ≤ n) (hb : b.wt ≤ n) : sumL Tm.wt [a, b] ≤ 2 * n := by simp [sumL]; omega
/-- A term with a type, no greater than something. -/
structure TmOk (g : List Ty) (x : Tm) (t : Ty) (n : Nat) : Prop where
  ty : HasTy g x t
  nodes : x.nodes ≤ n
theorem TmOk.wt {g : List Ty} {x : Tm} {t : Ty} {n : Nat} (h : TmOk g x t n) : x.wt ≤ 65 * n := by
  have := x.ok_wt h.ty.ok
  have := h.nodes
  omega
theorem TmOk.mono {g : List Ty} {x : Tm} {t : Ty} {n m : Nat} (h : TmOk g x t n) (hm : n ≤ m) : TmOk g x t m := ⟨h.ty, Nat.le_trans h.nodes hm⟩
theorem N_one {k : Int} {a : Tm} (ha : a.wt ≤ 100000000) : ref02_N k [a] = some (.mk k 0 .z [a]) := ref02_N_eq k [a] (by simp [sumL]; omega)
theorem N_two {k : Int} {a b : Tm} (ha : a.wt ≤ 100000000) (hb : b.wt ≤ 100000000) : ref02_N k [a, b] = some (.mk k 0 .z [a, b]) := ref02_N_eq k [a, b] (by simp [sumL]; omega)
theorem N_zero {k : Int} : ref02_N k [] = some (.mk k 0 .z []) := ref02_N_eq k [] (by simp [sumL])
theorem T_one {k : Int} {s : Ty} {a : Tm} (hs : s.nodes ≤ 1000000000) (ha : a.wt ≤ 100000000) : ref02_T k s [a] = some (.mk k 0 s [a]) := ref02_T_eq k s [a] hs (by simp [sumL]; omega)
theorem T_three {k : Int} {s : Ty} {a b c : Tm} (hs : s.nodes ≤ 1000000000) (ha : a.wt ≤ 100000000) (hb : b.wt ≤ 100000000) (hc : c.wt ≤ 100000000) : ref02_T k s [a, b, c] = some (.mk k 0 s [a, b, c]) :=
  ref02_T_eq k s [a, b, c] hs (by simp [sumL]; omega)
theorem mk_App2 {f a b : Tm} (hf : f.wt ≤ 10000000) (ha : a.wt ≤ 10000000) (hb : b.wt ≤ 10000000) : mk_App f [a, b] = some (.mk 3 0 .z [.mk 3 0 .z [f, a], b]) := by
  have e1 : (Tm.mk 3 0 .z [f, a]).wt ≤ 30000000 := by rw [Tm.wt_mk]; have : Ty.z.nodes = 1 := rfl; simp [sumL, this]; omega
  unfold mk_App
  simp only [okLen_of (l := [a, b]) (by simp), chk_true, joinB_eq, forR_cons, forR_nil, un5_mk, Ty.mk_eta, Tm.mk_eta, N_two (k := 3) (a := f) (b := a) (by omega) (by omega), bind1_of, ctlK_next,
    N_two (k := 3) (a := .mk 3 0 .z [f, a]) (b := b) (by omega) (by omega), sumK_inl]

theorem Ty.nat_err : Ty.nat.err = 0 := Ty.err_of Ty.nat_ok (by rw [Ty.nat_nodes]; omega)
theorem Ty.lst_err : Ty.lst.err = 0 := Ty.err_of Ty.lst_ok (by rw [Ty.lst_nodes]; omega)
theorem Ty.unit_err : Ty.unit.err = 0 := Ty.err_of Ty.unit_ok (by rw [Ty.unit_nodes]; omega)
theorem Ty.fn_err {a b : Ty} (ha : a.err = 0) (hb : b.err = 0) (h : a.nodes + b.nodes ≤ 63) : (Ty.fn a b).err = 0 := Ty.err_of (Ty.ok_two (.inr rfl) (Ty.err_zero ha).1 (Ty.err_zero hb).1) (by rw [Ty.fn_nodes]; omega)
theorem Ty.pr_err {a b : Ty} (ha : a.err = 0) (hb : b.err = 0) (h : a.nodes + b.nodes ≤ 63) : (Ty.pr a b).err = 0 := Ty.err_of (Ty.ok_two (.inl rfl) (Ty.err_zero ha).1 (Ty.err_zero hb).1) (by rw [Ty.pr_nodes]; omega)

def tmV (i : Nat) : Tm := .mk 1 i .z []
def tmLam (s : Ty) (b : Tm) : Tm := .mk 2 0 s [b]
def tmApp (f a : Tm) : Tm := .mk 3 0 .z [f, a]
def tmZero : Tm := .mk 4 0 .z []
def tmSucc (a : Tm) : Tm := .mk 5 0 .z [a]
def tmRec (t : Ty) (a b c : Tm) : Tm := .mk 6 0 t [a, b, c]
def tmPlus : Tm := tmLam .nat (tmLam .nat (tmRec .nat (tmV 1) (tmLam .nat (tmLam .nat (tmSucc (tmV 0)))) (tmV 0)))
def tmPred : Tm := tmLam .nat (tmRec .nat tmZero (tmLam .nat (tmLam .nat (tmV 1))) (tmV 0))
def tmSub : Tm := tmLam .nat (tmLam .nat (tmRec .nat (tmV 1) (tmLam .nat (tmLam .nat (tmApp tmPred (tmV 0)))) (tmV 0)))
theorem ref02_Var_eq (i : Nat) : ref02_Var (i : Int) = some (tmV i) := rfl
theorem lam_eq {a : Tm} (ha : a.wt ≤ 100000000) : ref05_lam a = some (tmLam .nat a) := by
  unfold ref05_lam; rw [ref01_Nat_eq]; simp only [bind1_of]; rw [T_one (by rw [Ty.nat_nodes]; omega) ha]; rfl
theorem rec_eq {a b c : Tm} (ha : a.wt ≤ 100000000) (hb : b.wt ≤ 100000000) (hc : c.wt ≤ 100000000) : ref05_rec a b c = some (tmRec .nat a b c) := by
  unfold ref05_rec; rw [ref01_Nat_eq]; simp only [bind1_of]; rw [T_three (by rw [Ty.nat_nodes]; omega) ha hb hc]; rfl
theorem ref05_Plus_eq : ref05_Plus = some tmPlus := by
  unfold ref05_Plus
  rw [show ref02_Var 1 = some (tmV 1) from rfl, show ref02_Var 0 = some (tmV 0) from rfl]
  simp only [bind1_of]
  rw [N_one (by decide)]
  simp only [bind1_of]
  rw [lam_eq (by decide)]
  simp only [bind1_of]
  rw [lam_eq (by decide)]
  simp only [bind1_of]
  rw [rec_eq (by decide) (by decide) (by decide)]
  simp only [bind1_of]
  rw [lam_eq (by decide)]
  simp only [bind1_of]
  rw [lam_eq (by decide)]
  rfl
theorem ref05_Pred_eq : ref05_Pred = some tmPred := by
  unfold ref05_Pred
  rw [show ref02_Var 1 = some (tmV 1) from rfl, show ref02_Var 0 = some (tmV 0) from rfl, N_zero]
  simp only [bind1_of]
  rw [lam_eq (by decide)]
  simp only [bind1_of]
  rw [lam_eq (by decide)]
  simp only [bind1_of]
  rw [rec_eq (by decide) (by decide) (by decide)]
  simp only [bind1_of]
  rw [lam_eq (by decide)]
  rfl
theorem ref05_Sub_eq : ref05_Sub = some tmSub := by
  unfold ref05_Sub
  rw [show ref02_Var 1 = some (tmV 1) from rfl, show ref02_Var 0 = some (tmV 0) from rfl, ref05_Pred_eq]
  simp only [bind1_of]
  rw [N_two (by decide) (by decide)]
  simp only [bind1_of]
  rw [lam_eq (by decide)]
  simp only [bind1_of]
  rw [lam_eq (by decide)]
  simp only [bind1_of]
  rw [rec_eq (by decide) (by decide) (by decide)]
  simp only [bind1_of]
  rw [lam_eq (by decide)]
  simp only [bind1_of]
  rw [lam_eq (by decide)]
  rfl
theorem hasV {g : List Ty} {t : Ty} (i : Nat) (h : i < g.length) (h2 : g[g.length - 1 - i]? = some t) : HasTy g (tmV i) t := HasTy.var i h h2
theorem hasV0 {g : List Ty} {t : Ty} : HasTy (g ++ [t]) (tmV 0) t := HasTy.var 0 (by simp) (by simp)
theorem hasV1 {g : List Ty} {s t : Ty} : HasTy (g ++ [t] ++ [s]) (tmV 1) t := HasTy.var 1 (by simp) (by simp)
theorem nn_err : (Ty.fn .nat .nat).err = 0 := Ty.fn_err Ty.nat_err Ty.nat_err (by rw [Ty.nat_nodes]; omega)
theorem nnn_err : (Ty.fn .nat (Ty.fn .nat .nat)).err = 0 := Ty.fn_err Ty.nat_err nn_err (by rw [Ty.fn_nodes, Ty.nat_nodes]; omega)
theorem tmPlus_ty (g : List Ty) : HasTy g tmPlus (.fn .nat (.fn .nat .nat)) :=
  .lam nnn_err (.lam nn_err (.recN Ty.nat_err hasV1 (.lam nnn_err (.lam nn_err (.succ hasV0))) hasV0))
theorem tmPred_ty (g : List Ty) : HasTy g tmPred (.fn .nat .nat) :=
  .lam nn_err (.recN Ty.nat_err .zero (.lam nnn_err (.lam nn_err hasV1)) hasV0)
theorem tmSub_ty (g : List Ty) : HasTy g tmSub (.fn .nat (.fn .nat .nat)) :=
  .lam nnn_err (.lam nn_err (.recN Ty.nat_err hasV1 (.lam nnn_err (.lam nn_err (.app (tmPred_ty _) hasV0))) hasV0))
theorem tmPlus_nodes : tmPlus.nodes = 9 := by decide
theorem tmSub_nodes : tmSub.nodes = 16 := by decide
end Go.Mdl
