/-
  Terms: what the functions of chapters 2, 3, 5 and of tree compute.
-/
import Derived.Test.YtanjokijgbgcpaaGreatDoorPb
set_option linter.unusedSimpArgs false
set_option linter.unusedVariables false
namespace Go.Mdl
open Go

mutual
def Tm.nodes : Tm → Nat
  | .mk _ _ _ l => 1 + Tm.nodesL l
def Tm.nodesL : List Tm → Nat
  | [] => 0
  | t :: l => t.nodes + Tm.nodesL l
end
theorem Tm.nodesL_eq (l : List Tm) : Tm.nodesL l = sumL Tm.nodes l := by
  induction l with
  | nil => rfl
  | cons t l ih => simp [Tm.nodesL, sumL, ih]
theorem Tm.nodes_mk (k i : Int) (s : Ty) (l : List Tm) : (Tm.mk k i s l).nodes = 1 + sumL Tm.nodes l := by rw [Tm.nodes, Tm.nodesL_eq]
theorem Tm.nodes_pos (t : Tm) : 1 ≤ t.nodes := by cases t; rw [Tm.nodes]; omega
theorem Tm.len_nodes (l : List Tm) : l.length ≤ sumL Tm.nodes l := sumL_len _ _ fun t _ => t.nodes_pos
mutual
/-- The nodes, with those of the types. -/
def Tm.wt : Tm → Nat
  | .mk _ _ s l => 1 + s.nodes + Tm.wtL l
def Tm.wtL : List Tm → Nat
  | [] => 0
  | t :: l => t.wt + Tm.wtL l
end
theorem Tm.wtL_eq (l : List Tm) : Tm.wtL l = sumL Tm.wt l := by
  induction l with
  | nil => rfl
  | cons t l ih => simp [Tm.wtL, sumL, ih]
theorem Tm.wt_mk (k i : Int) (s : Ty) (l : List Tm) : (Tm.mk k i s l).wt = 1 + s.nodes + sumL Tm.wt l := by rw [Tm.wt, Tm.wtL_eq]
theorem Tm.wt_pos (t : Tm) : 1 ≤ t.wt := by cases t; rw [Tm.wt]; omega
theorem Tm.len_wt (l : List Tm) : l.length ≤ sumL Tm.wt l := sumL_len _ _ fun t _ => t.wt_pos

theorem sumL_le {α : Type} {f g : α → Nat} {l : List α} (h : ∀ x ∈ l, f x ≤ g x) : sumL f l ≤ sumL g l := by
  induction l with
  | nil => simp [sumL]
  | cons x l ih => simp only [sumL]; have := h x (by simp); have := ih fun y hy => h y (by simp [hy]); omega
theorem sumL_map {α β : Type} (f : β → Nat) (g : α → β) (l : List α) : sumL f (l.map g) = sumL (fun x => f (g x)) l := by
  induction l with
  | nil => rfl
  | cons x l ih => simp [sumL, ih]
theorem sumL_congr {α : Type} {f g : α → Nat} {l : List α} (h : ∀ x ∈ l, f x = g x) : sumL f l = sumL g l := by
  induction l with
  | nil => rfl
  | cons x l ih => simp [sumL, h x (by simp), ih fun y hy => h y (by simp [hy])]
theorem sumL_append {α : Type} (f : α → Nat) (l m : List α) : sumL f (l ++ m) = sumL f l + sumL f m := by
  induction l with
  | nil => simp [sumL]
  | cons x l ih => simp [sumL, ih]; omega

/-- Induction over terms. -/
theorem Tm.ind {p : Tm → Prop} (h : ∀ k i s l, (∀ t ∈ l, p t) → p (.mk k i s l)) (t : Tm) : p t := by
  have : ∀ n (t : Tm), t.nodes ≤ n → p t := by
    intro n
    induction n with
    | zero => intro t ht; have := t.nodes_pos; omega
    | succ n ih =>
      intro t ht
      cases t with
      | mk k i s l =>
        rw [Tm.nodes_mk] at ht
        exact h k i s l fun u hu => ih u (by have := sumL_mem Tm.nodes hu; omega)
  exact this _ t (Nat.le_refl _)
theorem Tm.nodes_wt (t : Tm) : t.nodes ≤ t.wt := by
  induction t using Tm.ind with
  | h k i s l ih => rw [Tm.nodes_mk, Tm.wt_mk]; have := sumL_le ih; omega

/-- Kinds that bear a type. -/
def typedB (k : Int) : Bool := decide (k = 2 ∨ k = 6 ∨ k = 9)
/-- How many parts a kind of terms has. -/
def tmArgs (k : Int) : Int :=
  if k = 1 ∨ k = 4 ∨ k = 7 ∨ k = 13 then 0 else if k = 2 ∨ k = 5 ∨ k = 11 ∨ k = 12 then 1 else if k = 3 ∨ k = 8 ∨ k = 10 then 2 else if k = 6 ∨ k = 9 then 3 else -1
/-- A node has the form of its kind. -/
def Tm.node (k i : Int) (s : Ty) (n : Nat) : Bool :=
  decide ((n : Int) = tmArgs k) && decide (0 ≤ i) && (decide (k = 1) || decide (i = 0)) && (if typedB k = true then decide (s.err = 0) else s.zeroB)
mutual
def Tm.ok : Tm → Bool
  | .mk k i s l => Tm.node k i s l.length && Tm.okL l
def Tm.okL : List Tm → Bool
  | [] => true
  | t :: l => t.ok && Tm.okL l
end
theorem Tm.okL_eq (l : List Tm) : Tm.okL l = l.all Tm.ok := by
  induction l with
  | nil => rfl
  | cons t l ih => simp [Tm.okL, ih]
theorem Tm.ok_mk (k i : Int) (s : Ty) (l : List Tm) : (Tm.mk k i s l).ok = (Tm.node k i s l.length && l.all Tm.ok) := by rw [Tm.ok, Tm.okL_eq]
def Tm.err (t : Tm) : Int := if t.ok = true then (if 4096 < t.nodes then 4 else 0) else 2

theorem ref02_Copy_eq : ∀ (n : Nat) (t : Tm), t.wt ≤ n → t.wt ≤ 1000000000 → ref02_Copy n t = some t := by
  intro n
  induction n with
  | zero => intro t h; have := t.wt_pos; omega
  | succ n ih =>
    intro t h hb
    cases t with
    | mk k i s l =>
      rw [Tm.wt_mk] at h hb
      have hl := Tm.len_wt l
      rw [ref02_Copy]
      simp only [Tm.args_mk, Tm.kind_mk, Tm.index_mk, Tm.typeF_mk, joinB_eq, okLen_of (l := l) (by omega), chk_true]
      rw [forR_map id l 0 [] (by simp; omega)]
      · simp [ref01_Copy' (t := s) (by omega)]
      · intro j x v hx hv
        have := sumL_mem Tm.wt hx
        rw [ih x (by omega) (by omega)]
        simp [okApp_of (l := v) (m := [x]) (by simpa using hv)]
theorem ref02_Copy' {t : Tm} (h : t.wt ≤ 1000000000) : ref02_Copy FU t = some t := ref02_Copy_eq FU t (by rw [FU_eq]; exact h) h
theorem ref02_N_eq (k : Int) (l : List Tm) (h : sumL Tm.wt l ≤ 1000000000) : ref02_N k l = some (Tm.mk k 0 (.mk 0 []) l) := by
  have hl := Tm.len_wt l
  unfold ref02_N
  simp only [joinB_eq, okLen_of (l := l) (by omega), chk_true]
  rw [forR_map id l 0 [] (by simp; omega)]
  · simp
  · intro j x v hx hv
    have := sumL_mem Tm.wt hx
    rw [ref02_Copy' (t := x) (by omega)]
    simp [okApp_of (l := v) (m := [x]) (by simpa using hv)]
theorem ref02_T_eq (k : Int) (s : Ty) (l : List Tm) (hs : s.nodes ≤ 1000000000) (h : sumL Tm.wt l ≤ 1000000000) : ref02_T k s l = some (Tm.mk k 0 s l) := by
  unfold ref02_T
  rw [ref02_N_eq k l h]
  simp [ref01_Copy' hs]
theorem ref02_args_eq (k : Int) : ref02_args k = some (tmArgs k) := by
  unfold ref02_args tmArgs
  simp only [sel_or, Bool.or_eq_true, ieq_iff]
  split <;> (try rfl)
  split <;> (try rfl)
  split <;> (try rfl)
  split <;> rfl

theorem ref02_Count_eq : ∀ (n : Nat) (t : Tm), t.nodes ≤ n → t.nodes ≤ 1000000000 → ref02_Count n t = some (t.nodes : Int) := by
  intro n
  induction n with
  | zero => intro t h; have := t.nodes_pos; omega
  | succ n ih =>
    intro t h hb
    cases t with
    | mk k i s l =>
      rw [Tm.nodes_mk] at h hb
      have hl := Tm.len_nodes l
      rw [ref02_Count]
      simp only [Tm.args_mk, joinB_eq, okLen_of (l := l) (by omega), chk_true]
      have key := forR_sum (ρ := Int) (F := fun (j : Int) (x : Tm) (v : Int) => bind1 (ref02_Count n x) fun y => some (Ctl.next (iadd .i64 v y))) Tm.nodes l 0 1 (by omega) (by
        intro j x v hx
        have := sumL_mem Tm.nodes hx
        rw [ih x (by omega) (by omega)]
        rfl)
      rw [show (1 : Int) = ((1 : Nat) : Int) from rfl, key]
      simp [Tm.nodes_mk]
theorem ref02_Shape_eq : ∀ (n : Nat) (t : Tm), t.wt ≤ n → t.wt ≤ 1000000000 → ref02_Shape n t = some t.ok := by
  intro n
  induction n with
  | zero => intro t h; have := t.wt_pos; omega
  | succ n ih =>
    intro t h hb
    cases t with
    | mk k i s l =>
      rw [Tm.wt_mk] at h hb
      have hl := Tm.len_wt l
      have key : forR (fun (j276 : Int) (x278 : Tm) (_ : Unit) => bind1 (ref02_Shape n x278) fun x414 => if x414 = true then some (Ctl.next ()) else some (Ctl.ret false)) l 0 () =
          if l.all Tm.ok = true then some (.inl ()) else some (.inr false) := by
        refine forR_ok Tm.ok _ l 0 ?_
        intro j x hx
        have := sumL_mem Tm.wt hx
        rw [ih x (by omega) (by omega)]
        rfl
      rw [ref02_Shape]
      simp only [Tm.args_mk, Tm.kind_mk, Tm.index_mk, Tm.typeF_mk, joinB_eq, okLen_of (l := l) (by omega), chk_true, key, sel_or, Bool.or_eq_true, ieq_iff, ine_iff, ilt_iff, llen_eq, Tm.ok_mk,
        ref02_args_eq, bind1_of, ref01_Check_eq (t := s) (by omega), ref01_Zero_eq]
      by_cases h1 : (l.length : Int) = tmArgs k
      · by_cases h2 : i < 0
        · have : ¬ 0 ≤ i := by omega
          simp [h1, h2, Tm.node, this]
        · have h2' : 0 ≤ i := by omega
          by_cases h3 : k = 1
          · subst h3
            cases h4 : s.zeroB <;> cases h5 : l.all Tm.ok <;> simp_all [Tm.node, typedB]
          · by_cases h4 : i = 0
            · subst h4
              have e0 : ine 0 0 = false := rfl
              by_cases h5 : k = 2 ∨ k = 6 ∨ k = 9
              · have h6 : typedB k = true := by simp [typedB, h5]
                by_cases h7 : s.err = 0 <;> cases h8 : l.all Tm.ok <;> simp_all [Tm.node]
              · have h6 : typedB k = false := by simp [typedB, h5]
                cases h7 : s.zeroB <;> cases h8 : l.all Tm.ok <;> simp_all [Tm.node]
            · have e0 : ine i 0 = true := by simp [h4]
              simp [h1, h2, h3, h4, e0, Tm.node]
      · simp [h1, Tm.node]
theorem ref02_Check_eq {t : Tm} (h : t.wt ≤ 1000000000) : ref02_Check t = some t.err := by
  have := t.nodes_wt
  unfold ref02_Check Tm.err
  rw [ref02_Shape_eq FU t (by rw [FU_eq]; exact h) h, ref02_Count_eq FU t (by rw [FU_eq]; omega) (by omega)]
  cases t.ok with
  | false => simp
  | true => by_cases h1 : 4096 < t.nodes <;> simp [h1] <;> omega
theorem tree_Arity_eq (k : Int) : tree_Arity k = some (if 1 ≤ k ∧ k < 14 then (tmArgs k, true) else (0, false)) := by
  unfold tree_Arity
  simp only [sel_or, Bool.or_eq_true, ilt_iff, ige_iff]
  by_cases h : k < 1 ∨ 14 ≤ k
  · rw [if_pos h, if_neg (by omega)]
  · rw [if_neg h, if_pos (by omega)]
    have : k = 1 ∨ k = 2 ∨ k = 3 ∨ k = 4 ∨ k = 5 ∨ k = 6 ∨ k = 7 ∨ k = 8 ∨ k = 9 ∨ k = 10 ∨ k = 11 ∨ k = 12 ∨ k = 13 := by omega
    rcases this with rfl | rfl | rfl | rfl | rfl | rfl | rfl | rfl | rfl | rfl | rfl | rfl | rfl <;> rfl
theorem tree_Typed_eq (k : Int) : tree_Typed k = some (typedB k) := by
  unfold tree_Typed typedB
  congr 1
  rw [Bool.eq_iff_iff]
  simp
theorem tmArgs_known {k : Int} {n : Nat} (h : (n : Int) = tmArgs k) : 1 ≤ k ∧ k < 14 := by
  unfold tmArgs at h
  repeat' split at h
  all_goals omega
theorem tree_termNodes_eq : ∀ (n : Nat) (t : Tm), t.wt ≤ n → t.wt ≤ 1000000000 → tree_termNodes n t = some (if t.ok = true then ((t.nodes : Int), true) else (0, false)) := by
  intro n
  induction n with
  | zero => intro t h; have := t.wt_pos; omega
  | succ n ih =>
    intro t h hb
    cases t with
    | mk k i s l =>
      rw [Tm.wt_mk] at h hb
      have hl := Tm.len_wt l
      have hn : sumL Tm.nodes l ≤ sumL Tm.wt l := sumL_le fun x _ => x.nodes_wt
      have key : forR (fun (j411 : Int) (x413 : Tm) (v610 : Int) => bind2 (tree_termNodes n x413) fun x700 x701 => if x701 = true then some (Ctl.next (iadd .i64 v610 x700)) else some (Ctl.ret ((0 : Int), false))) l 0 1 =
          if l.all Tm.ok = true then some (.inl ((1 + sumL Tm.nodes l : Nat) : Int)) else some (.inr (0, false)) := by
        refine forR_sumOk Tm.nodes Tm.ok _ l 0 1 (by omega) ?_
        intro j x v hx
        have := sumL_mem Tm.wt hx
        rw [ih x (by omega) (by omega)]
        cases x.ok <;> simp
      rw [tree_termNodes]
      simp only [Tm.args_mk, Tm.kind_mk, Tm.index_mk, Tm.typeF_mk, joinB_eq, okLen_of (l := l) (by omega), chk_true, key, Tm.ok_mk, Tm.nodes_mk, tree_Arity_eq, tree_Typed_eq, tree_CheckType_eq (t := s) (by omega), tree_NoType_eq, bind1_of, bind2_of]
      by_cases h1 : (l.length : Int) = tmArgs k
      · have hk := tmArgs_known h1
        simp only [hk, and_self, if_true, bind2_of, sel_true, sel_or, sel_and, Bool.or_eq_true, Bool.and_eq_true, ine_iff, ilt_iff, llen_eq, h1, ne_eq, not_true_eq_false, false_or]
        by_cases h2 : i < 0
        · have : ¬ 0 ≤ i := by omega
          simp [h2, Tm.node, this]
        · have h2' : 0 ≤ i := by omega
          by_cases h3 : k = 1
          · subst h3
            cases h4 : s.zeroB <;> cases h5 : l.all Tm.ok <;> simp_all [Tm.node, typedB]
          · by_cases h4 : i = 0
            · subst h4
              by_cases h5 : k = 2 ∨ k = 6 ∨ k = 9
              · have h6 : typedB k = true := by simp [typedB, h5]
                by_cases h7 : s.err = 0 <;> cases h8 : l.all Tm.ok <;> simp_all [Tm.node]
              · have h6 : typedB k = false := by simp [typedB, h5]
                cases h7 : s.zeroB <;> cases h8 : l.all Tm.ok <;> simp_all [Tm.node]
            · simp [h2, h3, h4, Tm.node]
      · have e1 : Tm.node k i s l.length = false := by simp [Tm.node, h1]
        simp only [e1, Bool.false_and, Bool.false_eq_true, if_false]
        by_cases hk : 1 ≤ k ∧ k < 14
        · simp [hk, h1]
        · simp [hk]
end Go.Mdl
