/-
  Types: what the functions of chapter 1, of tree and of types compute.
-/
import Derived.Test.YtanjokijgbgcpaaGreatDoorPa
import Derived.Test.YtanjokijgbgcpaaGreatDoorTM
set_option linter.unusedSimpArgs false
set_option linter.unusedVariables false
namespace Go.Mdl
open Go

mutual
def Ty.nodes : Ty → Nat
  | .mk _ l => 1 + Ty.nodesL l
def Ty.nodesL : List Ty → Nat
  | [] => 0
  | t :: l => t.nodes + Ty.nodesL l
end
theorem Ty.nodesL_eq (l : List Ty) : Ty.nodesL l = sumL Ty.nodes l := by
  induction l with
  | nil => rfl
  | cons t l ih => simp [Ty.nodesL, sumL, ih]
theorem Ty.nodes_mk (k : Int) (l : List Ty) : (Ty.mk k l).nodes = 1 + sumL Ty.nodes l := by rw [Ty.nodes, Ty.nodesL_eq]
theorem Ty.nodes_pos (t : Ty) : 1 ≤ t.nodes := by cases t; rw [Ty.nodes]; omega
theorem Ty.len_nodes (l : List Ty) : l.length ≤ sumL Ty.nodes l := sumL_len _ _ fun t _ => t.nodes_pos

/-- How many parts a kind has. -/
def Ty.want (k : Int) : Option Nat := if k = 1 ∨ k = 2 ∨ k = 5 then some 0 else if k = 3 ∨ k = 4 then some 2 else none
mutual
def Ty.ok : Ty → Bool
  | .mk k l => decide (Ty.want k = some l.length) && Ty.okL l
def Ty.okL : List Ty → Bool
  | [] => true
  | t :: l => t.ok && Ty.okL l
end
theorem Ty.okL_eq (l : List Ty) : Ty.okL l = l.all Ty.ok := by
  induction l with
  | nil => rfl
  | cons t l ih => simp [Ty.okL, ih]
theorem Ty.ok_mk (k : Int) (l : List Ty) : (Ty.mk k l).ok = (decide (Ty.want k = some l.length) && l.all Ty.ok) := by rw [Ty.ok, Ty.okL_eq]

/-- The first error of a type. -/
def Ty.err (t : Ty) : Int := if t.ok = true then (if 64 < t.nodes then 4 else 0) else 2

/-- Induction over types by the number of nodes. -/
theorem Ty.ind {p : Ty → Prop} (h : ∀ k l, (∀ t ∈ l, p t) → p (.mk k l)) (t : Ty) : p t := by
  have : ∀ n (t : Ty), t.nodes ≤ n → p t := by
    intro n
    induction n with
    | zero => intro t ht; have := t.nodes_pos; omega
    | succ n ih =>
      intro t ht
      cases t with
      | mk k l =>
        rw [Ty.nodes_mk] at ht
        exact h k l fun u hu => ih u (by have := sumL_mem Ty.nodes hu; omega)
  exact this _ t (Nat.le_refl _)

theorem ref01_Copy_eq : ∀ (n : Nat) (t : Ty), t.nodes ≤ n → t.nodes ≤ 1000000000 → ref01_Copy n t = some t := by
  intro n
  induction n with
  | zero => intro t h; have := t.nodes_pos; omega
  | succ n ih =>
    intro t h hb
    cases t with
    | mk k l =>
      rw [Ty.nodes_mk] at h hb
      have hl := Ty.len_nodes l
      rw [ref01_Copy]
      simp only [Ty.args_mk, Ty.kind_mk, joinB_eq, okLen_of (l := l) (by omega), chk_true]
      rw [forR_map id l 0 [] (by simp; omega)]
      · simp
      · intro j x v hx hv
        have := sumL_mem Ty.nodes hx
        rw [ih x (by omega) (by omega)]
        simp [okApp_of (l := v) (m := [x]) (by simpa using hv)]
theorem ref01_Copy' {t : Ty} (h : t.nodes ≤ 1000000000) : ref01_Copy FU t = some t := ref01_Copy_eq FU t (by rw [FU_eq]; exact h) h

theorem tree_typeNodes_eq : ∀ (n : Nat) (t : Ty), t.nodes ≤ n → t.nodes ≤ 1000000000 → tree_typeNodes n t = some (if t.ok = true then ((t.nodes : Int), true) else (0, false)) := by
  intro n
  induction n with
  | zero => intro t h; have := t.nodes_pos; omega
  | succ n ih =>
    intro t h hb
    cases t with
    | mk k l =>
      rw [Ty.nodes_mk] at h hb
      have hl := Ty.len_nodes l
      have key : forR (fun (j411 : Int) (x413 : Ty) (v610 : Int) => bind2 (tree_typeNodes n x413) fun x700 x701 => if x701 = true then some (Ctl.next (iadd .i64 v610 x700)) else some (Ctl.ret ((0 : Int), false))) l 0 1 =
          if l.all Ty.ok = true then some (.inl ((1 + sumL Ty.nodes l : Nat) : Int)) else some (.inr (0, false)) := by
        refine forR_sumOk Ty.nodes Ty.ok _ l 0 1 (by omega) ?_
        intro j x v hx
        have := sumL_mem Ty.nodes hx
        rw [ih x (by omega) (by omega)]
        cases x.ok <;> simp
      rw [tree_typeNodes]
      simp only [Ty.args_mk, Ty.kind_mk, joinB_eq, okLen_of (l := l) (by omega), chk_true, key, sel_or, Bool.or_eq_true, ieq_iff, ine_iff, llen_eq, Ty.ok_mk, Ty.nodes_mk, Ty.want]
      by_cases h1 : k = 1 ∨ k = 2 ∨ k = 5
      · simp only [h1, if_true]
        by_cases h2 : l = []
        · subst h2; simp [sumL]
        · have : ¬ (0 = l.length) := by cases l with | nil => exact absurd rfl h2 | cons a l => simp
          have h3 : (l.length : Int) ≠ 0 := by omega
          simp [this, h3, h2]
      · simp only [h1, if_false]
        by_cases h2 : k = 3 ∨ k = 4
        · simp only [h2, if_true]
          by_cases h3 : l.length = 2
          · cases h4 : l.all Ty.ok <;> simp [h3]
          · have h4 : (l.length : Int) ≠ 2 := by omega
            have h5 : ¬ 2 = l.length := by omega
            simp [h4, h5]
        · simp [h2]
theorem tree_CheckType_eq {t : Ty} (h : t.nodes ≤ 1000000000) : tree_CheckType t = some (if t.err = 0 then (t.nodes : Int) else 0, t.err) := by
  unfold tree_CheckType Ty.err
  rw [tree_typeNodes_eq FU t (by rw [FU_eq]; exact h) h]
  cases t.ok with
  | false => simp
  | true =>
    by_cases h1 : 64 < t.nodes
    · simp [h1]
      omega
    · simp [h1]
      omega
/-- Whether a type is the zero type. -/
def Ty.zeroB (t : Ty) : Bool := sel (ieq t.kind 0) (ieq (llen t.args) 0) false
theorem Ty.zeroB_iff (t : Ty) : t.zeroB = true ↔ t = .mk 0 [] := by
  cases t with
  | mk k l => unfold Ty.zeroB; simp
theorem tree_NoType_eq (t : Ty) : tree_NoType t = some t.zeroB := rfl
theorem ref01_Zero_eq (t : Ty) : ref01_Zero t = some t.zeroB := rfl

theorem ref01_shape_eq : ∀ (n : Nat) (t : Ty), t.nodes ≤ n → t.nodes ≤ 1000000000 → ref01_shape n t = some t.ok := by
  intro n
  induction n with
  | zero => intro t h; have := t.nodes_pos; omega
  | succ n ih =>
    intro t h hb
    cases t with
    | mk k l =>
      rw [Ty.nodes_mk] at h hb
      have hl := Ty.len_nodes l
      have key : forR (fun (j276 : Int) (x278 : Ty) (_ : Unit) => bind1 (ref01_shape n x278) fun x414 => if x414 = true then some (Ctl.next ()) else some (Ctl.ret false)) l 0 () =
          if l.all Ty.ok = true then some (.inl ()) else some (.inr false) := by
        refine forR_ok Ty.ok _ l 0 ?_
        intro j x hx
        have := sumL_mem Ty.nodes hx
        rw [ih x (by omega) (by omega)]
        rfl
      rw [ref01_shape]
      simp only [Ty.args_mk, Ty.kind_mk, joinB_eq, okLen_of (l := l) (by omega), chk_true, key, sel_or, Bool.or_eq_true, ieq_iff, ine_iff, llen_eq, Ty.ok_mk, Ty.want]
      by_cases h1 : k = 1 ∨ k = 2 ∨ k = 5
      · simp only [h1, if_true]
        by_cases h2 : l = []
        · subst h2; simp
        · have : ¬ (0 = l.length) := by cases l with | nil => exact absurd rfl h2 | cons a l => simp
          have h3 : (l.length : Int) ≠ 0 := by omega
          simp [this, h3, h2]
      · simp only [h1, if_false]
        by_cases h2 : k = 3 ∨ k = 4
        · simp only [h2, if_true]
          by_cases h3 : l.length = 2
          · cases h4 : l.all Ty.ok <;> simp [h3]
          · have h4 : (l.length : Int) ≠ 2 := by omega
            have h5 : ¬ 2 = l.length := by omega
            simp [h4, h5]
        · simp [h2]
theorem ref01_size_eq : ∀ (n : Nat) (t : Ty), t.nodes ≤ n → t.nodes ≤ 1000000000 → ref01_size n t = some (t.nodes : Int) := by
  intro n
  induction n with
  | zero => intro t h; have := t.nodes_pos; omega
  | succ n ih =>
    intro t h hb
    cases t with
    | mk k l =>
      rw [Ty.nodes_mk] at h hb
      have hl := Ty.len_nodes l
      rw [ref01_size]
      simp only [Ty.args_mk, joinB_eq, okLen_of (l := l) (by omega), chk_true]
      have key := forR_sum (ρ := Int) (F := fun (j : Int) (x : Ty) (v : Int) => bind1 (ref01_size n x) fun y => some (Ctl.next (iadd .i64 v y))) Ty.nodes l 0 1 (by omega) (by
        intro j x v hx
        have := sumL_mem Ty.nodes hx
        rw [ih x (by omega) (by omega)]
        rfl)
      rw [show (1 : Int) = ((1 : Nat) : Int) from rfl, key]
      simp [Ty.nodes_mk]
theorem ref01_Check_eq {t : Ty} (h : t.nodes ≤ 1000000000) : ref01_Check t = some t.err := by
  unfold ref01_Check Ty.err
  rw [ref01_shape_eq FU t (by rw [FU_eq]; exact h) h, ref01_size_eq FU t (by rw [FU_eq]; exact h) h]
  cases t.ok with
  | false => simp
  | true => by_cases h1 : 64 < t.nodes <;> simp [h1] <;> omega
theorem ref01_Same_eq : ∀ (n : Nat) (a b : Ty), a.nodes ≤ n → a.nodes ≤ 1000000000 → ∃ r, ref01_Same n a b = some r ∧ (r = true ↔ a = b) := by
  intro n
  induction n with
  | zero => intro t b h; have := t.nodes_pos; omega
  | succ n ih =>
    intro a b h hb
    cases a with
    | mk k l =>
    cases b with
    | mk k' m =>
      rw [Ty.nodes_mk] at h hb
      have hl := Ty.len_nodes l
      rw [ref01_Same]
      simp only [Ty.args_mk, Ty.kind_mk, joinB_eq, okLen_of (l := l) (by omega), chk_true, sel_or, Bool.or_eq_true, ine_iff, llen_eq]
      by_cases hk : k ≠ k' ∨ (l.length : Int) ≠ m.length
      · rw [if_pos hk]
        refine ⟨false, rfl, ?_⟩
        simp only [Bool.false_eq_true, false_iff, Ty.mk.injEq, not_and]
        rintro rfl rfl
        simp at hk
      · rw [if_neg hk]
        simp only [not_or, Classical.not_not] at hk
        obtain ⟨rfl, hlen⟩ := hk
        have hlen' : l.length = m.length := by omega
        let p : Ty → Ty → Bool := fun x y => (ref01_Same n x y).getD false
        have hp : ∀ x ∈ l, ∀ y, ref01_Same n x y = some (p x y) ∧ (p x y = true ↔ x = y) := by
          intro x hx y
          have := sumL_mem Ty.nodes hx
          obtain ⟨r, h1, h2⟩ := ih x y (by omega) (by omega)
          have e : p x y = r := by show (ref01_Same n x y).getD false = r; rw [h1]; rfl
          rw [e]; exact ⟨h1, h2⟩
        have key := forR_two (F := fun (j : Int) (x : Ty) (_ : Unit) => bind1 (lget m j) fun y => bind1 (ref01_Same n x y) fun z => if z = true then some (Ctl.next ()) else some (Ctl.ret false)) p m l 0 m rfl hlen' (by
          intro k x y hx hy
          rw [lget_ofNat, hy]
          simp only [bind1_of]
          rw [(hp x hx y).1]
          rfl)
        rw [key]
        have he := all2B_eq p l m fun x hx y => (hp x hx y).2
        cases h2 : all2B p l m with
        | false => exact ⟨false, rfl, by rw [h2] at he; simpa using he⟩
        | true => exact ⟨true, rfl, by rw [h2] at he; simpa using he⟩
/-- Whether two types are the same. -/
noncomputable def Ty.sameB (a b : Ty) : Bool := @decide (a = b) (Classical.propDecidable _)
theorem Ty.sameB_iff (a b : Ty) : a.sameB b = true ↔ a = b := by unfold Ty.sameB; simp
theorem ref01_Same' {a b : Ty} (h : a.nodes ≤ 1000000000) : ref01_Same FU a b = some (a.sameB b) := by
  obtain ⟨r, h1, h2⟩ := ref01_Same_eq FU a b (by rw [FU_eq]; exact h) h
  rw [h1]
  congr 1
  rw [Bool.eq_iff_iff, h2, Ty.sameB_iff]
end Go.Mdl
