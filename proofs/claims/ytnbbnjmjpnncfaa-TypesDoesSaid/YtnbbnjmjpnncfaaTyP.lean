/-
  Types: result, function, level and data of a type, and the law TypesFunctions.
-/
import Derived.Test.YtnbbnjmjpnncfaaPe
set_option linter.unusedSimpArgs false
set_option linter.unusedVariables false
namespace Go.Mdl
open Go

theorem Ty.cntL_eq (l : List Ty) : Ty.cntL l = sumL Ty.cnt l := by
  induction l with
  | nil => rfl
  | cons t l ih => simp [Ty.cntL, sumL, ih]
theorem Ty.cnt_nodes (t : Ty) : t.cnt = t.nodes := by
  induction t using Ty.ind with
  | h k l ih => rw [Ty.nodes_mk, Ty.cnt, Ty.cntL_eq, sumL_congr ih]
theorem tree_OwnType_eq : ∀ (n : Nat) (t : Ty), t.nodes ≤ n → t.nodes ≤ 1000000000 → tree_OwnType n t = some t := by
  intro n
  induction n with
  | zero => intro t h; have := t.nodes_pos; omega
  | succ n ih =>
    intro t h hb
    cases t with
    | mk k l =>
      rw [Ty.nodes_mk] at h hb
      have hl := Ty.len_nodes l
      rw [tree_OwnType]
      simp only [Ty.args_mk, Ty.kind_mk, joinB_eq, okLen_of (l := l) (by omega), chk_true]
      rw [forR_map id l 0 [] (by simp; omega)]
      · simp
      · intro j x v hx hv
        have := sumL_mem Ty.nodes hx
        rw [ih x (by omega) (by omega)]
        simp [okApp_of (l := v) (m := [x]) (by simpa using hv)]
theorem tree_OwnType' {t : Ty} (h : t.nodes ≤ 1000000000) : tree_OwnType FU t = some t := tree_OwnType_eq FU t (by rw [FU_eq]; exact h) h
theorem tree_SameType_self : ∀ (n : Nat) (t : Ty), t.nodes ≤ n → t.nodes ≤ 1000000000 → tree_SameType n t t = some true := by
  intro n
  induction n with
  | zero => intro t h; have := t.nodes_pos; omega
  | succ n ih =>
    intro t h hb
    cases t with
    | mk k l =>
      rw [Ty.nodes_mk] at h hb
      have hl := Ty.len_nodes l
      rw [tree_SameType]
      simp only [Ty.args_mk, Ty.kind_mk, joinB_eq, okLen_of (l := l) (by omega), chk_true, sel_or, Bool.or_eq_true, ine_iff, ne_eq, not_true_eq_false, or_self, if_false]
      have key := forR_ind (ρ := Bool) (F := fun (j : Int) (x : Ty) (_ : Unit) => bind1 (lget l j) fun y => bind1 (tree_SameType n x y) fun z => if z = true then some (Ctl.next ()) else some (Ctl.ret false)) (fun _ => True) l 0 () trivial (by
        intro k x s hx _
        refine ⟨(), ?_, trivial⟩
        have := sumL_mem Ty.nodes (List.mem_of_getElem? hx)
        rw [Nat.zero_add, lget_ofNat, hx]
        simp only [bind1_of]
        rw [ih x (by omega) (by omega)]
        rfl)
      obtain ⟨s', h1, -⟩ := key
      rw [h1]
      rfl

/-- A function type of some arguments. -/
def Ty.chain : List Ty → Ty → Ty
  | [], r => r
  | a :: l, r => .mk 4 [a, Ty.chain l r]
theorem Ty.chain_nodes : ∀ (l : List Ty) (r : Ty), (Ty.chain l r).nodes = l.length + sumL Ty.nodes l + r.nodes
  | [], r => by simp [Ty.chain, sumL]
  | a :: l, r => by rw [Ty.chain, Ty.nodes_two, Ty.chain_nodes l r]; simp only [List.length_cons, sumL]; omega
theorem Ty.ok_four {l : List Ty} (h : (Ty.mk 4 l).ok = true) : ∃ a b, l = [a, b] ∧ a.ok = true ∧ b.ok = true := by
  rw [Ty.ok_mk] at h
  simp only [Ty.want, Bool.and_eq_true, decide_eq_true_eq, List.all_eq_true] at h
  obtain ⟨h1, h2⟩ := h
  simp at h1
  obtain ⟨a, b, rfl⟩ := len_two (l := l) (by omega)
  exact ⟨a, b, rfl, h2 a (by simp), h2 b (by simp)⟩
theorem Ty.ok_three {l : List Ty} (h : (Ty.mk 3 l).ok = true) : ∃ a b, l = [a, b] ∧ a.ok = true ∧ b.ok = true := by
  rw [Ty.ok_mk] at h
  simp only [Ty.want, Bool.and_eq_true, decide_eq_true_eq, List.all_eq_true] at h
  obtain ⟨h1, h2⟩ := h
  simp at h1
  obtain ⟨a, b, rfl⟩ := len_two (l := l) (by omega)
  exact ⟨a, b, rfl, h2 a (by simp), h2 b (by simp)⟩
theorem Ty.ok_leaf {k : Int} {l : List Ty} (h : (Ty.mk k l).ok = true) (h3 : k ≠ 3) (h4 : k ≠ 4) : l = [] := by
  rw [Ty.ok_mk] at h
  simp only [Ty.want, Bool.and_eq_true, decide_eq_true_eq] at h
  have := h.1
  split at this
  · simp at this; exact List.length_eq_zero_iff.1 this.symm
  · simp [h3, h4] at this

theorem result_loop {ρ : Type} {F : List Ty × Int × List Ty → Option (Ctl (List Ty × Int × List Ty) ρ)}
    (hF : ∀ v k l, F (v, k, l) = if ieq k 4 = true then (bind1 (lget l 0) fun x => bind1 (tree_OwnType FU x) fun y => chk (okApp v [y]) <| bind1 (lget l 1) fun z => some (.next (lapp v [y], z.kind, z.args))) else some (.brk (v, k, l))) :
    ∀ (n : Nat) (t : Ty) (v : List Ty), t.nodes < n → t.ok = true → t.nodes ≤ 1000 → v.length + t.nodes ≤ 2000 →
      ∃ l r, t = Ty.chain l r ∧ r.kind ≠ 4 ∧ r.ok = true ∧ (∀ x ∈ l, x.ok = true) ∧ loopN F n (v, t.kind, t.args) = some (.inl (v ++ l, r.kind, r.args))
  | 0, t, v, h, _, _, _ => by omega
  | n + 1, .mk k l, v, h, hok, hb, hv => by
    rw [loopN_succ, hF]
    simp only [Ty.kind_mk, Ty.args_mk, ieq_iff]
    by_cases hk : k = 4
    · subst hk
      obtain ⟨a, b, rfl, ha, hb2⟩ := Ty.ok_four hok
      rw [Ty.nodes_two] at h hb hv
      rw [if_pos rfl]
      simp only [lget_zero, lget_one, List.getElem?_cons_zero, List.getElem?_cons_succ, bind1_of]
      rw [tree_OwnType' (by omega)]
      have := a.nodes_pos
      simp only [bind1_of, okApp_of (l := v) (m := [a]) (by simp; omega), chk_true, lapp_eq, ctlK_next]
      obtain ⟨l', r, e, hr, hro, hl, hloop⟩ := result_loop hF n b (v ++ [a]) (by omega) hb2 (by omega) (by simp; omega)
      refine ⟨a :: l', r, by rw [Ty.chain, ← e], hr, hro, ?_, ?_⟩
      · intro x hx
        rcases List.mem_cons.1 hx with rfl | hx
        · exact ha
        · exact hl x hx
      · rw [hloop]; simp
    · rw [if_neg hk]
      exact ⟨[], .mk k l, rfl, hk, hok, by simp, by simp⟩

theorem tree_Fun_eq (r : Ty) (l : List Ty) (hl : l.length ≤ 1000) : tree_Fun r l = some (Ty.chain l r) := by
  unfold tree_Fun
  simp only [joinB_eq]
  have key : ∀ (F : Int × Int × List Ty → Option (Ctl (Int × Int × List Ty) Ty)),
      (∀ i k a, F (i, k, a) = if ige i 0 = true then (bind1 (lget l i) fun x => some (.next (isub .i64 i 1, 4, [x, Ty.mk k a]))) else some (.brk (i, k, a))) →
      ∀ (j n : Nat), j ≤ l.length → j < n → loopN F n ((j : Int) - 1, (Ty.chain (l.drop j) r).kind, (Ty.chain (l.drop j) r).args) = some (.inl (-1, (Ty.chain l r).kind, (Ty.chain l r).args)) := by
    intro F hF j
    induction j with
    | zero =>
      intro n _ hn
      obtain ⟨m, rfl⟩ : ∃ m, n = m + 1 := ⟨n - 1, by omega⟩
      rw [loopN_succ, hF]
      simp
    | succ j ih =>
      intro n hj hn
      obtain ⟨m, rfl⟩ : ∃ m, n = m + 1 := ⟨n - 1, by omega⟩
      rw [loopN_succ, hF]
      rw [show ((j + 1 : Nat) : Int) - 1 = (j : Int) by omega]
      rw [if_pos (by rw [ige_iff]; omega), lget_ofNat, List.getElem?_eq_getElem (by omega)]
      simp only [bind1_of, ctlK_next]
      rw [isub_in (by omega) (by omega)]
      have e : Ty.chain (l.drop j) r = .mk 4 [l[j], Ty.chain (l.drop (j + 1)) r] := by
        rw [List.drop_eq_getElem_cons (by omega), Ty.chain]
      have e2 : ∀ t : Ty, Ty.mk t.kind t.args = t := fun t => by cases t; rfl
      have := ih m (by omega) (by omega)
      rw [e] at this
      rw [e2]
      exact this
  have h := key (un3 fun (v48 : Int) (v49 : Int) (v50 : (List Ty)) =>
    if (ige v48 0) = true then (
    bind1 (lget l v48) fun x64 =>
    some (.next ((isub .i64 v48 1), 4, [x64, (Ty.mk v49 v50)])))
    else (
    some (.brk (v48, v49, v50)))) (fun _ _ _ => rfl) l.length FU (Nat.le_refl _) (FU_lt (by omega))
  rw [List.drop_length] at h
  simp only [llen_eq]
  rw [isub_in (by omega) (by omega)]
  simp only [Ty.chain] at h
  rw [h]
  simp only [bind1_of, sumK_inl, un3_mk]
  cases Ty.chain l r; rfl

/-- A level, and when it is 0. -/
theorem types_level_eq : ∀ (n : Nat) (t : Ty), t.nodes ≤ n → t.nodes ≤ 1000 → t.ok = true → ∃ v, types_level n t = some v ∧ 0 ≤ v ∧ v ≤ (t.nodes : Int) ∧ (v = 0 ↔ t.anyK (fun k => k == 4) = false) := by
  intro n
  induction n with
  | zero => intro t h; have := t.nodes_pos; omega
  | succ n ih =>
    intro t h hb hok
    cases t with
    | mk k l =>
      rw [types_level]
      simp only [Ty.kind_mk, Ty.args_mk, ieq_iff]
      by_cases h3 : k = 3
      · subst h3
        obtain ⟨a, b, rfl, ha, hb2⟩ := Ty.ok_three hok
        rw [Ty.nodes_two] at h hb
        obtain ⟨v, v1, v2, v3, v4⟩ := ih a (by omega) (by omega) ha
        obtain ⟨w, w1, w2, w3, w4⟩ := ih b (by omega) (by omega) hb2
        rw [if_pos rfl]
        simp only [lget_zero, lget_one, List.getElem?_cons_zero, List.getElem?_cons_succ, bind1_of, v1, w1]
        refine ⟨_, rfl, ?_, ?_, ?_⟩
        · unfold imax; split <;> omega
        · rw [Ty.nodes_two]; unfold imax; split <;> omega
        · simp only [Ty.anyK, Ty.anyL, Bool.or_false, Bool.or_eq_false_iff, ← v4, ← w4]
          unfold imax
          split
          · constructor
            · omega
            · rintro ⟨-, h1, h2⟩; omega
          · constructor
            · intro h5; exact ⟨by decide, h5, by omega⟩
            · rintro ⟨-, h1, h2⟩; omega
      · rw [if_neg h3]
        by_cases h4 : k = 4
        · subst h4
          obtain ⟨a, b, rfl, ha, hb2⟩ := Ty.ok_four hok
          rw [Ty.nodes_two] at h hb
          obtain ⟨v, v1, v2, v3, v4⟩ := ih a (by omega) (by omega) ha
          obtain ⟨w, w1, w2, w3, w4⟩ := ih b (by omega) (by omega) hb2
          rw [if_pos rfl]
          simp only [lget_zero, lget_one, List.getElem?_cons_zero, List.getElem?_cons_succ, bind1_of, v1, w1]
          rw [iadd_in (by omega) (by omega)]
          refine ⟨_, rfl, ?_, ?_, ?_⟩
          · unfold imax; split <;> omega
          · rw [Ty.nodes_two]; unfold imax; split <;> omega
          · have e : (Ty.mk 4 [a, b]).anyK (fun k => k == 4) = true := by simp [Ty.anyK]
            rw [e]
            unfold imax
            constructor
            · intro h5; split at h5 <;> omega
            · intro h5; cases h5
        · rw [if_neg h4]
          have := Ty.ok_leaf hok h3 h4
          subst this
          refine ⟨0, rfl, by omega, by omega, ?_⟩
          simp [Ty.anyK, Ty.anyL, h4]
theorem types_Level_eq {t : Ty} (h : t.err = 0) : ∃ v, types_Level t = some (v, 0) ∧ (v = 0 ↔ t.anyK (fun k => k == 4) = false) := by
  obtain ⟨h1, h2⟩ := Ty.err_zero h
  obtain ⟨v, v1, -, -, v2⟩ := types_level_eq FU t (by rw [FU_eq]; omega) (by omega) h1
  unfold types_Level
  rw [types_Check_eq (by omega), h]
  simp only [bind1_of, ine_iff, ne_eq, not_true_eq_false, if_false, v1]
  exact ⟨v, rfl, v2⟩
theorem types_Data_eq {t : Ty} (h : t.err = 0) : types_Data t = some (!t.anyK (fun k => k == 4), 0) := by
  obtain ⟨h1, h2⟩ := Ty.err_zero h
  unfold types_Data
  rw [types_Check_eq (by omega), h, Ty.cnt_nodes]
  simp only [bind1_of, ine_iff, ne_eq, not_true_eq_false, if_false, bnot_eq]
  rw [decide_eq_true (by omega), chk_true]
theorem types_Result_eq {t : Ty} (h : t.err = 0) : ∃ l r, types_Result t = some (l, r, 0) ∧ t = Ty.chain l r ∧ r.kind ≠ 4 ∧ r.ok = true ∧ ∀ x ∈ l, x.ok = true := by
  obtain ⟨h1, h2⟩ := Ty.err_zero h
  unfold types_Result
  rw [types_Check_eq (by omega), h]
  simp only [bind1_of, ine_iff, ne_eq, not_true_eq_false, if_false, joinB_eq]
  obtain ⟨l, r, e, hk, hr, hl, hloop⟩ := result_loop (ρ := List Ty × Ty × Int) (F := un3 fun (v80 : (List Ty)) (v81 : Int) (v82 : (List Ty)) =>
    if (ieq v81 4) = true then (
    bind1 (lget v82 0) fun x97 =>
    bind1 (tree_OwnType FU x97) fun x99 =>
    chk (okApp v80 [x99]) <|
    bind1 (lget v82 1) fun x102 =>
    some (.next ((lapp v80 [x99]), x102.kind, x102.args)))
    else (
    some (.brk (v80, v81, v82)))) (fun _ _ _ => rfl) FU t [] (FU_lt (by omega)) h1 (by omega) (by simp; omega)
  rw [hloop]
  simp only [bind1_of, sumK_inl, un3_mk, List.nil_append]
  have e2 : ∀ t : Ty, Ty.mk t.kind t.args = t := fun t => by cases t; rfl
  have hn : r.nodes ≤ t.nodes := by rw [e, Ty.chain_nodes]; omega
  rw [e2, tree_OwnType' (by omega)]
  exact ⟨l, r, rfl, e, hk, hr, hl⟩
theorem types_Function_eq {l : List Ty} {r : Ty} (h : (Ty.chain l r).nodes ≤ 64) (hr : r.ok = true) (hl : ∀ x ∈ l, x.ok = true) : types_Function l r = some (Ty.chain l r, 0) := by
  have hn := Ty.chain_nodes l r
  unfold types_Function
  have hlen : l.length ≤ 64 := by omega
  simp only [lapp_eq, List.nil_append, okApp_of (l := ([] : List Ty)) (m := l) (by simp; omega), okApp_of (l := l) (m := [r]) (by simp; omega), okLen_of (l := l ++ [r]) (by simp; omega), chk_true, joinB_eq]
  have key := forR_sum (ρ := Ty × Int) (F := fun (j : Int) (x : Ty) (v : Int) => bind2 (tree_CheckType x) fun a b => if (ine b 0) = true then some (.ret (Ty.mk 0 [], b)) else some (.next (iadd .i64 v a))) Ty.nodes (l ++ [r]) 0 0 (by rw [sumL_append]; simp only [sumL]; omega) (by
    intro j x v hx
    have hm := sumL_mem Ty.nodes hx
    rw [sumL_append] at hm
    simp only [sumL] at hm
    have hok : x.ok = true := by
      rcases List.mem_append.1 hx with h' | h'
      · exact hl x h'
      · rw [List.mem_singleton.1 h']; exact hr
    have he := Ty.err_of hok (by omega)
    rw [tree_CheckType_eq (by omega), he]
    simp)
  simp only [Int.natCast_zero] at key
  have hs : sumL Ty.nodes (l ++ [r]) = sumL Ty.nodes l + r.nodes := by rw [sumL_append]; simp only [sumL]; omega
  rw [key, hs]
  simp only [bind1_of, sumK_inl]
  rw [if_neg (by rw [igt_iff, llen_eq, iadd_in (by omega) (by omega)]; omega), tree_Fun_eq r l (by omega)]
  simp only [bind1_of]
  rw [tree_OwnType' (by omega)]
  rfl
theorem law01_sane_eq : law01_sane = some true := by
  have e1 : ref01_Fun .nat .nat = some (.fn .nat .nat) := ref01_Fun_eq (by rw [Ty.nat_nodes]; omega) (by rw [Ty.nat_nodes]; omega)
  have e2 : ref01_Fun (.fn .nat .nat) .nat = some (.fn (.fn .nat .nat) .nat) := ref01_Fun_eq (by rw [Ty.fn_nodes, Ty.nat_nodes]; omega) (by rw [Ty.nat_nodes]; omega)
  have hn : Ty.nat.err = 0 := Ty.err_of Ty.nat_ok (by rw [Ty.nat_nodes]; omega)
  have ok1 : (Ty.fn .nat .nat).ok = true := Ty.ok_two (.inr rfl) Ty.nat_ok Ty.nat_ok
  have ok2 : (Ty.fn (.fn .nat .nat) .nat).ok = true := Ty.ok_two (.inr rfl) ok1 Ty.nat_ok
  have h1 : (Ty.fn .nat .nat).err = 0 := Ty.err_of ok1 (by rw [Ty.fn_nodes, Ty.nat_nodes]; omega)
  have h2 : (Ty.fn (.fn .nat .nat) .nat).err = 0 := Ty.err_of ok2 (by rw [Ty.fn_nodes, Ty.fn_nodes, Ty.nat_nodes]; omega)
  obtain ⟨m, hm⟩ : ∃ m, FU = m + 1 + 1 + 1 + 1 := ⟨999999996, by rw [FU_eq]⟩
  have l1 : types_Level (.fn .nat .nat) = some (1, 0) := by
    unfold types_Level
    rw [types_Check_eq (by rw [Ty.fn_nodes, Ty.nat_nodes]; omega), h1, hm]
    simp [Ty.fn, Ty.nat, types_level, imax, iadd]
    decide
  have l2 : types_Level (.fn (.fn .nat .nat) .nat) = some (2, 0) := by
    unfold types_Level
    rw [types_Check_eq (by rw [Ty.fn_nodes, Ty.fn_nodes, Ty.nat_nodes]; omega), h2, hm]
    simp [Ty.fn, Ty.nat, types_level, imax, iadd]
    decide
  unfold law01_sane
  simp only [ref01_Nat_eq, bind1_of, e1, e2, l1, l2, bind2_of]
  rfl
theorem law_TypesFunctions (a0 : List Int) : law01_TypesFunctions a0 = some true := by
  unfold law01_TypesFunctions mk_Few
  rw [law01_sane_eq]
  simp only [bind1_of, if_true, ile_iff, llen_eq]
  by_cases h : (a0.length : Int) ≤ 500
  · rw [if_pos h]
    unfold mk_New
    simp only [bind1_of]
    obtain ⟨t, d, h1, h2, h3, -⟩ := mk_Type' ⟨a0, 0⟩ ⟨by show a0.length ≤ 1000; omega, by show (0 : Int) ≤ 0; omega, by show (0 : Int) ≤ (a0.length : Int); omega⟩ 3 (by omega)
    rw [show ((3 : Nat) : Int) = 3 from rfl] at h1
    rw [h1]
    simp only [bind2_of]
    obtain ⟨l, r, r1, r2, r3, r4, r5⟩ := types_Result_eq h2
    obtain ⟨v, v1, v2⟩ := types_Level_eq h2
    rw [r1]
    simp only [bind3_of]
    rw [types_Function_eq (l := l) (r := r) (by rw [← r2]; omega) r4 r5, v1, types_Data_eq h2]
    simp only [bind2_of, joinB_eq, ieq_iff, if_true]
    rw [← r2]
    unfold types_Same
    rw [tree_SameType_self FU t (by rw [FU_eq]; omega) (by omega)]
    simp only [bind1_of, if_true]
    rw [if_pos]
    · exact congrArg some ((ine_iff _ _).2 r3)
    · rw [beqB_iff, Bool.eq_iff_iff, ieq_iff, v2]; simp
  · rw [if_neg h]
end Go.Mdl
