/-
  Types: both forms of chapter 1 are the same on all small types (for TypesDoes).
-/
import Derived.Test.YtnbbnjmjpnncfaaTyP
import Derived.Test.YtnbbnjmjpnncfaaTdM
set_option maxRecDepth 20000
set_option linter.unusedSimpArgs false
set_option linter.unusedVariables false
namespace Go.Mdl
open Go

theorem same_fun : ∀ n, tree_SameType n = ref01_Same n := by
  intro n
  induction n with
  | zero => funext a b; rfl
  | succ n ih => funext a b; rw [tree_SameType, ref01_Same, ih]
theorem level_fun : ∀ n, types_level n = ref01_level n := by
  intro n
  induction n with
  | zero => funext a; rfl
  | succ n ih => funext a; rw [types_level, ref01_level, ih]
theorem size_both {t : Ty} (h : t.nodes ≤ 1000000000) : ∃ a e, types_Size t = some (a, e) ∧ ref01_Size t = some (a, e) := by
  refine ⟨if t.err = 0 then (t.nodes : Int) else 0, t.err, ?_, ?_⟩
  · unfold types_Size
    rw [tree_CheckType_eq h]
    rfl
  · unfold ref01_Size
    rw [ref01_Check_eq h]
    simp only [bind1_of, ine_iff]
    by_cases he : t.err = 0
    · rw [if_neg (by simp [he]), ref01_size_eq FU t (by rw [FU_eq]; exact h) h]
      simp [he]
    · rw [if_pos he, if_neg he]
theorem level_both {t : Ty} (h : t.nodes ≤ 1000000000) : ∃ a e, types_Level t = some (a, e) ∧ ref01_Level t = some (a, e) := by
  have hl : types_Level t = ref01_Level t := by
    unfold types_Level ref01_Level
    rw [types_Check_eq h, ref01_Check_eq h, level_fun]
  rw [← hl]
  by_cases he : t.err = 0
  · obtain ⟨v, h1, _⟩ := types_Level_eq he
    exact ⟨v, 0, h1, h1⟩
  · refine ⟨0, t.err, ?_, ?_⟩ <;>
    · unfold types_Level
      rw [types_Check_eq h]
      simp only [bind1_of, ine_iff]
      rw [if_pos he]
theorem data_both {t : Ty} (h : t.nodes ≤ 1000000000) : ∃ a e, types_Data t = some (a, e) ∧ ref01_Data t = some (a, e) := by
  by_cases he : t.err = 0
  · refine ⟨_, _, types_Data_eq he, ?_⟩
    obtain ⟨h1, h2⟩ := Ty.err_zero he
    obtain ⟨v, v1, -, -, v2⟩ := types_level_eq FU t (by rw [FU_eq]; omega) (by omega) h1
    unfold ref01_Data
    rw [ref01_Check_eq h, ← level_fun, v1]
    simp only [bind1_of, ine_iff]
    rw [if_neg (by simp [he])]
    refine congrArg some (Prod.ext ?_ rfl)
    show ieq v 0 = _
    rw [Bool.eq_iff_iff, ieq_iff, v2]
    simp
  · refine ⟨false, t.err, ?_, ?_⟩
    · unfold types_Data
      rw [types_Check_eq h]
      simp only [bind1_of, ine_iff]
      rw [if_pos he]
    · unfold ref01_Data
      rw [ref01_Check_eq h]
      simp only [bind1_of, ine_iff]
      rw [if_pos he]
theorem chain_inj : ∀ (l m : List Ty) (r s : Ty), r.kind ≠ 4 → s.kind ≠ 4 → Ty.chain l r = Ty.chain m s → l = m ∧ r = s
  | [], [], r, s, _, _, h => ⟨rfl, h⟩
  | [], b :: m, r, s, hr, _, h => by
    simp only [Ty.chain] at h
    rw [h] at hr
    exact (hr rfl).elim
  | a :: l, [], r, s, _, hs, h => by
    simp only [Ty.chain] at h
    rw [← h] at hs
    exact (hs rfl).elim
  | a :: l, b :: m, r, s, hr, hs, h => by
    simp only [Ty.chain, Ty.mk.injEq, List.cons.injEq, true_and, and_true] at h
    obtain ⟨h1, h2⟩ := h
    obtain ⟨h3, h4⟩ := chain_inj l m r s hr hs h2
    exact ⟨by rw [h1, h3], h4⟩
theorem result_loop2 {ρ : Type} {F : List Ty × Int × List Ty → Option (Ctl (List Ty × Int × List Ty) ρ)}
    (hF : ∀ v k l, F (v, k, l) = if ieq k 4 = true then (bind1 (lget l 0) fun x => bind1 (ref01_Copy FU x) fun y => chk (okApp v [y]) <| bind1 (lget l 1) fun z => some (.next (lapp v [y], z.kind, z.args))) else some (.brk (v, k, l))) :
    ∀ (n : Nat) (t : Ty) (v : List Ty), t.nodes < n → t.ok = true → t.nodes ≤ 1000 → v.length + t.nodes ≤ 2000 →
      ∃ l r, t = Ty.chain l r ∧ r.kind ≠ 4 ∧ r.ok = true ∧ (∀ x ∈ l, x.ok = true) ∧ loopN F n (v, t.kind, t.args) = some (.inl (v ++ l, r.kind, r.args))
  | 0, t, v, h, _, _, _ => by omega
  | n + 1, .mk k l, v, h, hok, hb, hv => by
    rw [loopN_succ, hF]
    simp only [Ty.kind_mk, Ty.args_mk, ieq_iff]
    by_cases hk : k = 4
    · subst hk
      obtain ⟨a, b, rfl, ha, hb2⟩ := Ty.ok_four hok
      rw [Ty.nodes_two] at h hb hv
      rw [if_pos rfl]
      simp only [lget_zero, lget_one, List.getElem?_cons_zero, List.getElem?_cons_succ, bind1_of]
      rw [ref01_Copy' (by omega)]
      have := a.nodes_pos
      simp only [bind1_of, okApp_of (l := v) (m := [a]) (by simp; omega), chk_true, lapp_eq, ctlK_next]
      obtain ⟨l', r, e, hr, hro, hl, hloop⟩ := result_loop2 hF n b (v ++ [a]) (by omega) hb2 (by omega) (by simp; omega)
      refine ⟨a :: l', r, by rw [Ty.chain, ← e], hr, hro, ?_, ?_⟩
      · intro x hx
        rcases List.mem_cons.1 hx with rfl | hx
        · exact ha
        · exact hl x hx
      · rw [hloop]; simp
    · rw [if_neg hk]
      exact ⟨[], .mk k l, rfl, hk, hok, by simp, by simp⟩
theorem ref01_Result_eq {t : Ty} (h : t.err = 0) : ∃ l r, ref01_Result t = some (l, r, 0) ∧ t = Ty.chain l r ∧ r.kind ≠ 4 ∧ r.ok = true ∧ ∀ x ∈ l, x.ok = true := by
  obtain ⟨h1, h2⟩ := Ty.err_zero h
  unfold ref01_Result
  rw [ref01_Check_eq (by omega), h]
  simp only [bind1_of, ine_iff, ne_eq, not_true_eq_false, if_false, joinB_eq]
  obtain ⟨l, r, e, hk, hr, hl, hloop⟩ := result_loop2 (ρ := List Ty × Ty × Int) (F := un3 fun (v80 : (List Ty)) (v81 : Int) (v82 : (List Ty)) =>
    if (ieq v81 4) = true then (
    bind1 (lget v82 0) fun x97 =>
    bind1 (ref01_Copy FU x97) fun x99 =>
    chk (okApp v80 [x99]) <|
    bind1 (lget v82 1) fun x102 =>
    some (.next ((lapp v80 [x99]), x102.kind, x102.args)))
    else (
    some (.brk (v80, v81, v82)))) (fun _ _ _ => rfl) FU t [] (FU_lt (by omega)) h1 (by omega) (by simp; omega)
  rw [hloop]
  simp only [bind1_of, sumK_inl, un3_mk, List.nil_append]
  have e2 : ∀ t : Ty, Ty.mk t.kind t.args = t := fun t => by cases t; rfl
  have hn : r.nodes ≤ t.nodes := by rw [e, Ty.chain_nodes]; omega
  rw [e2, ref01_Copy' (by omega)]
  exact ⟨l, r, rfl, e, hk, hr, hl⟩
theorem ref01_Same_self {t : Ty} (h : t.nodes ≤ 1000000000) : ref01_Same FU t t = some true := by
  rw [ref01_Same' h, (Ty.sameB_iff t t).2 rfl]
theorem ref01_SameAll_self {l : List Ty} (hl : l.length ≤ 1000000) (h : ∀ x ∈ l, x.nodes ≤ 1000000000) : ref01_SameAll l l = some true := by
  unfold ref01_SameAll
  rw [if_neg (by rw [ine_iff]; simp)]
  simp only [joinB_eq, okLen_of (l := l) (by omega), chk_true]
  have key := forR_ind (ρ := Bool) (F := fun (j : Int) (x : Ty) (_ : Unit) => bind1 (lget l j) fun y => bind1 (ref01_Same FU x y) fun z => if z = true then some (Ctl.next ()) else some (Ctl.ret false)) (fun _ => True) l 0 () trivial (by
    intro k x s hx _
    refine ⟨(), ?_, trivial⟩
    rw [Nat.zero_add, lget_ofNat, hx]
    simp only [bind1_of]
    rw [ref01_Same_self (h x (List.mem_of_getElem? hx))]
    rfl)
  obtain ⟨s', h1, -⟩ := key
  rw [h1]
  rfl
theorem result_both {t : Ty} (h : t.nodes ≤ 1000000000) : ∃ l r e, types_Result t = some (l, r, e) ∧ ref01_Result t = some (l, r, e) ∧ ref01_SameAll l l = some true ∧ ref01_Same FU r r = some true := by
  by_cases he : t.err = 0
  · obtain ⟨l, r, h1, h2, h3, h4, h5⟩ := types_Result_eq he
    obtain ⟨m, s, k1, k2, k3, k4, k5⟩ := ref01_Result_eq he
    obtain ⟨rfl, rfl⟩ := chain_inj l m r s h3 k3 (h2.symm.trans k2)
    have hn := (Ty.err_zero he).2
    rw [h2, Ty.chain_nodes] at hn
    refine ⟨l, r, 0, h1, k1, ref01_SameAll_self (by omega) (fun x hx => ?_), ref01_Same_self (by omega)⟩
    have := sumL_mem Ty.nodes hx
    omega
  · refine ⟨[], .mk 0 [], t.err, ?_, ?_, ref01_SameAll_self (by simp) (by simp), ref01_Same_self (by rw [Ty.nodes_mk]; simp [sumL])⟩
    · unfold types_Result
      rw [types_Check_eq h]
      simp only [bind1_of, ine_iff]
      rw [if_pos he]
    · unfold ref01_Result
      rw [ref01_Check_eq h]
      simp only [bind1_of, ine_iff]
      rw [if_pos he]
theorem context_both {l : List Ty} (hl : l.length ≤ 1000000) (h : ∀ x ∈ l, x.nodes ≤ 1000000000) : ∃ e, types_Context l = some e ∧ ref01_Context l = some e := by
  have key : ∀ (c : Ty → Option Int), (∀ x ∈ l, c x = some x.err) → forR (fun (j : Int) (x : Ty) (_ : Unit) => bind1 (c x) fun e => if ine e 0 = true then some (Ctl.ret e) else some (Ctl.next ())) l 0 () =
      if firstE (l.map Ty.err) = 0 then some (.inl ()) else some (.inr (firstE (l.map Ty.err))) := by
    intro c hc
    refine forR_first Ty.err l 0 fun j x hx => ?_
    rw [hc x hx]
    simp only [bind1_of, ine_iff]
  unfold types_Context ref01_Context
  by_cases h16 : igt (llen l) 16 = true
  · rw [if_pos h16, if_pos h16]; exact ⟨3, rfl, rfl⟩
  · rw [if_neg h16, if_neg h16]
    simp only [joinB_eq, okLen_of (l := l) (by omega), chk_true]
    have k1 := key types_Check fun x hx => types_Check_eq (h x hx)
    have k2 := key ref01_Check fun x hx => ref01_Check_eq (h x hx)
    rw [k1, k2]
    by_cases he : firstE (l.map Ty.err) = 0
    · rw [if_pos he]; exact ⟨0, rfl, rfl⟩
    · rw [if_neg he]; exact ⟨_, rfl, rfl⟩
end Go.Mdl
