/-
  Types: the function type of some arguments, in both forms (for TypesDoes).
-/
import Derived.Test.YtnbbnjmjpnncfaaTyQ
set_option maxRecDepth 20000
set_option linter.unusedSimpArgs false
set_option linter.unusedVariables false
namespace Go.Mdl
open Go

section
variable {α ρ : Type}
theorem forR_sumE {F : Int → α → Int → Option (Ctl Int ρ)} (g : α → Nat) (e : α → Int) (rr : Int → ρ) : ∀ (l : List α) (i v : Nat), v + sumL g l ≤ 4611686018427387904 →
    (∀ j x (v : Int), x ∈ l → F j x v = if e x ≠ 0 then some (.ret (rr (e x))) else some (.next (iadd .i64 v (g x)))) →
    forR F l i (v : Int) = if firstE (l.map e) = 0 then some (.inl ((v + sumL g l : Nat) : Int)) else some (.inr (rr (firstE (l.map e))))
  | [], i, v, _, _ => by simp [sumL, firstE]
  | x :: l, i, v, hl, h => by
    simp only [sumL] at hl ⊢
    rw [forR_cons, h i x v (by simp), iadd_in (by omega) (by omega)]
    by_cases he : e x = 0
    · simp only [he, firstE, List.map_cons, ne_eq, not_true_eq_false, if_false, bind1_of, ctlK_next, if_true]
      have := forR_sumE g e rr l (i + 1) (v + g x) (by omega) fun j y v hy => h j y v (by simp [hy])
      rw [show (v : Int) + (g x : Int) = ((v + g x : Nat) : Int) by omega, this, Nat.add_assoc]
    · simp [he, firstE]
theorem forR_firstR {F : Int → α → Unit → Option (Ctl Unit ρ)} (e : α → Int) (rr : Int → ρ) : ∀ (l : List α) (i : Nat),
    (∀ j x, x ∈ l → F j x () = if e x ≠ 0 then some (.ret (rr (e x))) else some (.next ())) → forR F l i () = if firstE (l.map e) = 0 then some (.inl ()) else some (.inr (rr (firstE (l.map e))))
  | [], i, _ => by simp [firstE]
  | x :: l, i, h => by
    rw [forR_cons, h i x (by simp)]
    by_cases he : e x = 0
    · simp only [he, firstE, List.map_cons, ne_eq, not_true_eq_false, if_false, bind1_of, ctlK_next, if_true]
      exact forR_firstR e rr l (i + 1) fun j y hy => h j y (by simp [hy])
    · simp [he, firstE]
theorem firstE_snoc (l : List Int) (x : Int) : firstE (l ++ [x]) = if firstE l = 0 then x else firstE l := by
  induction l with
  | nil => simp [firstE, eq_comm]
  | cons a l ih =>
    by_cases h : a = 0 <;> simp [firstE, h, ih]
theorem firstE_zero : ∀ (l : List Int), firstE l = 0 → ∀ x ∈ l, x = 0
  | [], _, x, hx => by cases hx
  | a :: l, h, x, hx => by
    simp only [firstE] at h
    by_cases ha : a = 0
    · rw [if_pos ha] at h
      rcases List.mem_cons.1 hx with rfl | hx
      · exact ha
      · exact firstE_zero l h x hx
    · rw [if_neg ha] at h; exact absurd h ha
theorem sumL_succ (g : α → Nat) (l : List α) : sumL (fun x => 1 + g x) l = l.length + sumL g l := by
  induction l with
  | nil => rfl
  | cons x l ih => simp only [sumL, List.length_cons, ih]; omega
end

theorem ref_fun_loop (r : Ty) (l : List Ty) (hl : l.length ≤ 1000) (hr : r.nodes + sumL Ty.nodes l + l.length ≤ 1000000) :
    ∀ (F : Int × Int × List Ty → Option (Ctl (Int × Int × List Ty) (Ty × Int))),
      (∀ i k a, F (i, k, a) = if ige i 0 = true then (bind1 (lget l i) fun x => bind1 (ref01_Fun x (Ty.mk k a)) fun y => some (.next (isub .i64 i 1, y.kind, y.args))) else some (.brk (i, k, a))) →
      ∀ (j n : Nat), j ≤ l.length → j < n → loopN F n ((j : Int) - 1, (Ty.chain (l.drop j) r).kind, (Ty.chain (l.drop j) r).args) = some (.inl (-1, (Ty.chain l r).kind, (Ty.chain l r).args)) := by
  intro F hF j
  induction j with
  | zero =>
    intro n _ hn
    obtain ⟨m, rfl⟩ : ∃ m, n = m + 1 := ⟨n - 1, by omega⟩
    rw [loopN_succ, hF]
    simp
  | succ j ih =>
    intro n hj hn
    obtain ⟨m, rfl⟩ : ∃ m, n = m + 1 := ⟨n - 1, by omega⟩
    rw [loopN_succ, hF]
    rw [show ((j + 1 : Nat) : Int) - 1 = (j : Int) by omega]
    rw [if_pos (by rw [ige_iff]; omega), lget_ofNat, List.getElem?_eq_getElem (by omega)]
    have e2 : ∀ t : Ty, Ty.mk t.kind t.args = t := fun t => by cases t; rfl
    have hx := sumL_mem Ty.nodes (List.getElem_mem (l := l) (n := j) (by omega))
    have hd : sumL Ty.nodes (l.drop (j + 1)) ≤ sumL Ty.nodes l := by
      have := congrArg (sumL Ty.nodes) (List.take_append_drop (j + 1) l)
      rw [sumL_append] at this
      omega
    simp only [bind1_of, e2]
    rw [ref01_Fun_eq (by omega) (by rw [Ty.chain_nodes, List.length_drop]; omega)]
    simp only [bind1_of, ctlK_next]
    rw [isub_in (by omega) (by omega)]
    have e : Ty.chain (l.drop j) r = .mk 4 [l[j], Ty.chain (l.drop (j + 1)) r] := by
      rw [List.drop_eq_getElem_cons (by omega), Ty.chain]
    have := ih m (by omega) (by omega)
    rw [e] at this
    exact this

theorem function_both {l : List Ty} {t : Ty} (hl : l.length ≤ 1000) (h : ∀ x ∈ l, x.nodes ≤ 1000000000) (ht : t.nodes ≤ 1000000000) :
    ∃ a e, types_Function l t = some (a, e) ∧ ref01_Function l t = some (a, e) ∧ ref01_Same FU a a = some true := by
  have hsum : sumL Ty.nodes l ≤ 1000000000000 := by
    have : ∀ m : List Ty, (∀ x ∈ m, x.nodes ≤ 1000000000) → sumL Ty.nodes m ≤ m.length * 1000000000 := by
      intro m
      induction m with
      | nil => intro _; simp [sumL]
      | cons x m ih => intro hm; simp only [sumL, List.length_cons]; have := ih fun y hy => hm y (by simp [hy]); have := hm x (by simp); omega
    have := this l h
    omega
  have hs : sumL Ty.nodes (l ++ [t]) = sumL Ty.nodes l + t.nodes := by rw [sumL_append]; simp only [sumL]; omega
  have k1 := forR_sumE (ρ := Ty × Int) (F := fun (j : Int) (x : Ty) (v : Int) => bind2 (tree_CheckType x) fun a b => if (ine b 0) = true then some (.ret (Ty.mk 0 [], b)) else some (.next (iadd .i64 v a))) Ty.nodes Ty.err (fun e => (Ty.mk 0 [], e)) (l ++ [t]) 0 0 (by omega) (by
    intro j x v hx
    have hx : x.nodes ≤ 1000000000 := by
      rcases List.mem_append.1 hx with h' | h'
      · exact h x h'
      · rw [List.mem_singleton.1 h']; exact ht
    rw [tree_CheckType_eq hx]
    simp only [bind2_of, ine_iff]
    by_cases he : x.err = 0
    · simp [he]
    · simp [he])
  simp only [Int.natCast_zero, Nat.zero_add, hs, List.map_append, List.map_cons, List.map_nil, firstE_snoc] at k1
  have k2 := forR_firstR (ρ := Ty × Int) (F := fun (j : Int) (x : Ty) (_ : Unit) => bind1 (ref01_Check x) fun b => if (ine b 0) = true then some (.ret (Ty.mk 0 [], b)) else some (.next ())) Ty.err (fun e => (Ty.mk 0 [], e)) l 0 (by
    intro j x hx
    rw [ref01_Check_eq (h x hx)]
    simp only [bind1_of, ine_iff])
  have z : ref01_Same FU (Ty.mk 0 []) (Ty.mk 0 []) = some true := ref01_Same_self (by rw [Ty.nodes_mk]; simp [sumL])
  have g1 : ∀ X, types_Function l t = bind1 (forR (fun (j : Int) (x : Ty) (v : Int) => bind2 (tree_CheckType x) fun a b => if (ine b 0) = true then some (.ret (Ty.mk 0 [], b)) else some (.next (iadd .i64 v a))) (l ++ [t]) 0 0) X →
      types_Function l t = bind1 (forR (fun (j : Int) (x : Ty) (v : Int) => bind2 (tree_CheckType x) fun a b => if (ine b 0) = true then some (.ret (Ty.mk 0 [], b)) else some (.next (iadd .i64 v a))) (l ++ [t]) 0 0) X := fun _ h => h
  unfold types_Function ref01_Function
  simp only [lapp_eq, List.nil_append, okApp_of (l := ([] : List Ty)) (m := l) (by simp; omega), okApp_of (l := l) (m := [t]) (by simp; omega), okLen_of (l := l ++ [t]) (by simp; omega), okLen_of (l := l) (by omega), chk_true, joinB_eq]
  rw [k1, k2]
  by_cases hf : firstE (l.map Ty.err) = 0
  · rw [if_pos hf, if_pos hf]
    simp only [bind1_of, sumK_inl]
    rw [ref01_Check_eq ht]
    simp only [bind1_of, ine_iff]
    by_cases he : t.err = 0
    · rw [if_pos he, if_neg (by simp [he])]
      obtain ⟨t1, t2⟩ := Ty.err_zero he
      have hok : ∀ x ∈ l, x.ok = true ∧ x.nodes ≤ 64 := fun x hx => Ty.err_zero (firstE_zero _ hf _ (List.mem_map_of_mem hx))
      rw [ref01_size_eq FU t (by rw [FU_eq]; omega) ht]
      simp only [bind1_of, sumK_inl]
      have k3 := forR_sum (ρ := Ty × Int) (F := fun (j : Int) (x : Ty) (v : Int) => bind1 (ref01_size FU x) fun a => some (.next (iadd .i64 v (iadd .i64 1 a)))) (fun x => 1 + x.nodes) l 0 t.nodes (by rw [sumL_succ]; omega) (by
        intro j x v hx
        rw [ref01_size_eq FU x (by rw [FU_eq]; have := (hok x hx).2; omega) (h x hx)]
        have := (hok x hx).2
        simp only [bind1_of]
        rw [show iadd .i64 1 (x.nodes : Int) = ((1 + x.nodes : Nat) : Int) by rw [iadd_in (by omega) (by omega)]; omega])
      rw [k3, sumL_succ]
      simp only [bind1_of, sumK_inl, igt_iff, llen_eq]
      rw [iadd_in (by omega) (by omega)]
      by_cases hb : (64 : Int) < ((sumL Ty.nodes l + t.nodes : Nat) : Int) + (l.length : Int)
      · rw [if_pos hb, if_pos (by omega)]
        exact ⟨_, _, rfl, rfl, z⟩
      · rw [if_neg hb, if_neg (by omega), tree_Fun_eq t l (by omega)]
        have hc := Ty.chain_nodes l t
        simp only [bind1_of]
        rw [tree_OwnType' (by omega), ref01_Copy' ht]
        simp only [bind1_of]
        have k4 := ref_fun_loop t l (by omega) (by omega) (un3 fun (v180 : Int) (v181 : Int) (v182 : (List Ty)) =>
          if (ige v180 0) = true then (
          bind1 (lget l v180) fun x202 =>
          bind1 (ref01_Fun x202 (Ty.mk v181 v182)) fun x204 =>
          some (.next ((isub .i64 v180 1), x204.kind, x204.args)))
          else (
          some (.brk (v180, v181, v182)))) (fun _ _ _ => rfl) l.length FU (Nat.le_refl _) (FU_lt (by omega))
        rw [List.drop_length] at k4
        simp only [Ty.chain] at k4
        rw [isub_in (by omega) (by omega), k4]
        simp only [bind1_of, sumK_inl, un3_mk]
        have e2 : ∀ t : Ty, Ty.mk t.kind t.args = t := fun t => by cases t; rfl
        rw [e2]
        exact ⟨_, _, rfl, rfl, ref01_Same_self (by omega)⟩
    · rw [if_neg he, if_pos he]
      exact ⟨_, _, rfl, rfl, z⟩
  · rw [if_neg hf, if_neg hf, if_neg hf]
    exact ⟨_, _, rfl, rfl, z⟩
end Go.Mdl
