/-
  Redexes, steps, normal forms and what matches: both reduces answer alike.
-/
import Derived.Test.YtnabbjnhemmkhaaDoorQp
set_option linter.unusedSimpArgs false
set_option linter.unusedVariables false
namespace Go.Mdl
open Go

theorem err_small {t : Tm} (h : t.err = 0) : t.ok = true ∧ t.nodes ≤ 4096 := Tm.err_ok h

theorem Contract_both {t : Tm} (hw : t.wt ≤ 1000000) : ∃ p e, reduce_Contract t = some (p, e) ∧ ref04_Contract t = some (p, e) ∧ p.wt ≤ 1000000000 := by
  have hnw := t.nodes_wt
  have hz : Tm.z.wt ≤ 1000000000 := by decide
  by_cases he : t.err = 0
  · obtain ⟨ho, hn⟩ := err_small he
    by_cases hr : t.root = true
    · by_cases hl : t.least 536870912 = true
      · have hs : Sm 536870912 t := ⟨ho, hl, by omega⟩
        have h1 := reduce_Contract_eq (M := 536870912) (by omega) (by omega) hs he hr
        obtain ⟨c1, c2⟩ := contr_sm (M := 536870912) (by omega) hs (by omega) hr
        have hcw := Tm.ok_wt _ c1
        have hcb := contr_bd hs (by omega) hr
        unfold ref04_Contract
        rw [ref02_Check_eq (by omega)]
        simp only [bind1_of, he]
        rw [if_neg (by decide), Root_eq ho, hr]
        simp only [bind1_of, if_true]
        rw [ref03_Least_eq FU t 536870912 (by rw [FU_eq]; omega) (by omega), hl]
        simp only [bind1_of, if_true]
        rw [cnt (by omega), growth_eq ho (by omega) hr]
        simp only [bind1_of, igt_iff]
        rw [iadd_in (by omega) (by omega), show (t.nodes : Int) + ((t.contr.nodes : Int) - (t.nodes : Int)) = t.contr.nodes by omega]
        by_cases hg : (t.contr.nodes : Int) > 4096
        · rw [if_pos hg] at h1 ⊢
          exact ⟨_, _, h1, rfl, hz⟩
        · rw [if_neg hg] at h1 ⊢
          rw [reduced_eq (M := 536870912) (by omega) hs (by omega) hr]
          simp only [bind1_of]
          rw [ref02_Copy' (by omega)]
          exact ⟨_, _, h1, rfl, by omega⟩
      · refine ⟨Tm.z, 1, ?_, ?_, hz⟩
        · unfold reduce_Contract
          rw [Redex_eq hw, if_pos he]
          simp only [bind2_of, hr, if_true]
          rw [if_neg (by decide), tree_Near_eq ho (by omega)]
          simp only [bind1_of]
          rw [if_neg hl]
          rfl
        · unfold ref04_Contract
          rw [ref02_Check_eq (by omega)]
          simp only [bind1_of, he]
          rw [if_neg (by decide), Root_eq ho, hr]
          simp only [bind1_of, if_true]
          rw [ref03_Least_eq FU t 536870912 (by rw [FU_eq]; omega) (by omega)]
          simp only [bind1_of]
          rw [if_neg hl]
          rfl
    · refine ⟨Tm.z, 21, ?_, ?_, hz⟩
      · unfold reduce_Contract
        rw [Redex_eq hw, if_pos he]
        simp only [bind2_of]
        rw [if_neg (by decide), if_neg hr]
        rfl
      · unfold ref04_Contract
        rw [ref02_Check_eq (by omega)]
        simp only [bind1_of, he]
        rw [if_neg (by decide), Root_eq ho]
        simp only [bind1_of]
        rw [if_neg hr]
        rfl
  · refine ⟨Tm.z, t.err, ?_, ?_, hz⟩
    · unfold reduce_Contract
      rw [Redex_eq hw, if_neg he]
      simp only [bind2_of]
      rw [if_pos (by simp [ine, he])]
      rfl
    · unfold ref04_Contract
      rw [ref02_Check_eq (by omega)]
      simp only [bind1_of]
      rw [if_pos (by simp [ine, he])]
      rfl

theorem Step_both {t : Tm} (hw : t.wt ≤ 1000000) : ∃ p b e, reduce_Step t = some (p, b, e) ∧ ref04_Step t = some (p, b, e) ∧ p.wt ≤ 1000000000 := by
  have hnw := t.nodes_wt
  have hz : Tm.z.wt ≤ 1000000000 := by decide
  have h1 := reduce_Step_eq (t := t) (by omega)
  unfold ref04_Step
  rw [ref02_Check_eq (by omega)]
  simp only [bind1_of]
  by_cases he : t.err = 0
  · obtain ⟨ho, hn⟩ := err_small he
    rw [if_pos he] at h1
    rw [if_neg (by simp [ine, he]), ref03_Least_eq FU t 536870912 (by rw [FU_eq]; omega) (by omega)]
    simp only [bind1_of]
    by_cases hl : t.least 536870912 = true
    · rw [if_pos hl] at h1 ⊢
      have hs : Sm 536870912 t := ⟨ho, hl, by omega⟩
      rw [cnt (by omega)]
      simp only [bind1_of]
      rw [isub_in (by omega) (by omega)]
      obtain ⟨⟨u, b, c⟩, r1, r2⟩ := next_is (M := 536870912) (by omega) (4096 - t.nodes) FU t (by rw [FU_eq]; omega) hs (by omega)
      rw [r1]
      simp only [bind3_of]
      unfold NxIs at r2
      cases e : t.stp (4096 - t.nodes) with
      | none =>
        rw [e] at r2 h1
        obtain ⟨q1, q2⟩ := r2
        simp only at q1 q2
        rw [q2, if_neg (by decide)]
        exact ⟨_, _, _, h1, rfl, hz⟩
      | some o =>
        cases o with
        | none =>
          rw [e] at r2 h1
          obtain ⟨rfl, q⟩ := Prod.mk.inj r2
          obtain ⟨rfl, rfl⟩ := Prod.mk.inj q
          rw [if_pos rfl, ref02_Copy' (by omega)]
          exact ⟨_, _, _, h1, rfl, by omega⟩
        | some t' =>
          rw [e] at r2 h1
          obtain ⟨rfl, q⟩ := Prod.mk.inj r2
          obtain ⟨rfl, rfl⟩ := Prod.mk.inj q
          obtain ⟨s1, s2, s3⟩ := stp_sm (M := 536870912) (by omega) t hs (by omega) _ e
          have hcw := Tm.ok_wt _ s1
          rw [if_pos rfl, ref02_Copy' (by omega)]
          exact ⟨_, _, _, h1, rfl, by omega⟩
    · rw [if_neg hl] at h1 ⊢
      exact ⟨_, _, _, h1, rfl, hz⟩
  · rw [if_neg he] at h1
    rw [if_pos (by simp [ine, he])]
    exact ⟨_, _, _, h1, rfl, hz⟩

theorem Normal_loop4 (steps : Int) (h0 : 0 ≤ steps ∧ steps ≤ 65536) : ∀ (k : Nat) (m : Int) (t : Tm) (N : Nat), (k : Int) = steps - m → 0 ≤ m → Sm (536870912 + 8192 * m) t → t.nodes ≤ 4096 → k < N →
    loopN ((un6 fun (v622 : Int) (v623 : Int) (v624 : Int) (v625 : Int) (v626 : (List Ty)) (v627 : (List Tm)) =>
      bind1 (ref02_Count FU (Tm.mk v623 v624 (Ty.mk v625 v626) v627)) fun x802 =>
      bind3 (ref04_next FU (Tm.mk v623 v624 (Ty.mk v625 v626) v627) (isub .i64 4096 x802)) fun x805 x806 x807 =>
      if x806 = true then (
      if (ieq v622 steps) = true then (
      some (.ret ((Tm.mk 0 0 (Ty.mk 0 []) []), 0, 5)))
      else (
      if x807 = true then (
      some (.next ((iadd .i64 v622 1), x805.kind, x805.index, x805.typeF.kind, x805.typeF.args, x805.args)))
      else (
      some (.ret ((Tm.mk 0 0 (Ty.mk 0 []) []), 0, 4)))))
      else (
      bind1 (ref02_Copy FU (Tm.mk v623 v624 (Ty.mk v625 v626) v627)) fun x891 =>
      some (.ret (x891, v622, 0)))) : (Int × Int × Int × Int × (List Ty) × (List Tm)) → (Option (Ctl (Int × Int × Int × Int × (List Ty) × (List Tm)) (Tm × Int × Int)))) N (m, t.kind, t.index, t.typeF.kind, t.typeF.args, t.args) = some (.inr (t.norm k m))
  | k, m, t, 0, _, _, _, _, hN => by omega
  | k, m, t, N + 1, hk, hm, hs, hn, hN => by
    rw [loopN_succ]
    simp only [un6_mk, tm_eta]
    have hw := Tm.ok_wt t hs.ok
    rw [cnt (by omega)]
    simp only [bind1_of]
    rw [isub_in (by omega) (by omega)]
    obtain ⟨⟨u, b, c⟩, r1, r2⟩ := next_is (M := 536870912 + 8192 * m) (by omega) (4096 - t.nodes) FU t (by rw [FU_eq]; omega) hs (by omega)
    rw [r1]
    simp only [bind3_of]
    unfold NxIs at r2
    cases e : t.stp (4096 - t.nodes) with
    | none =>
      rw [e] at r2
      obtain ⟨q1, q2⟩ := r2
      simp only at q1 q2
      rw [if_pos q1]
      cases k with
      | zero =>
        have hnf : ¬ t.nf = true := by
          intro h
          rw [(stp_nf _ t).1 h] at e
          cases e
        rw [if_pos (by simp [ieq]; omega), Tm.norm, if_neg hnf]
        rfl
      | succ k =>
        rw [if_neg (by simp [ieq]; omega), if_neg (by rw [q2]; decide), norm_big e]
        rfl
    | some o =>
      cases o with
      | none =>
        rw [e] at r2
        obtain ⟨rfl, q⟩ := Prod.mk.inj r2
        obtain ⟨rfl, rfl⟩ := Prod.mk.inj q
        rw [if_neg (by decide), ref02_Copy' (by omega)]
        cases k with
        | zero => rw [Tm.norm, if_pos ((stp_nf _ _).2 e)]; rfl
        | succ k => rw [norm_done e]; rfl
      | some t' =>
        rw [e] at r2
        obtain ⟨rfl, q⟩ := Prod.mk.inj r2
        obtain ⟨rfl, rfl⟩ := Prod.mk.inj q
        rw [if_pos rfl]
        cases k with
        | zero =>
          have hnf : ¬ t.nf = true := by
            intro h
            rw [(stp_nf _ t).1 h] at e
            cases e
          rw [if_pos (by simp [ieq]; omega), Tm.norm, if_neg hnf]
          rfl
        | succ k =>
          obtain ⟨s1, s2, s3⟩ := stp_sm (M := 536870912 + 8192 * m) (by omega) t hs (by omega) _ e
          rw [if_neg (by simp [ieq]; omega), if_pos rfl, norm_more e, iadd_in (by omega) (by omega)]
          have hs' : Sm (536870912 + 8192 * (m + 1)) u := ⟨s1, by rw [show 536870912 + 8192 * (m + 1) = 536870912 + 8192 * m + 8192 by omega]; exact s2, by omega⟩
          exact Normal_loop4 steps h0 k (m + 1) u N (by omega) (by omega) hs' (by omega) (by omega)

theorem norm_fail : ∀ (k : Nat) (m : Int) (t p : Tm) (n e : Int), t.norm k m = (p, n, e) → e ≠ 0 → p = Tm.z
  | 0, m, t, p, n, e, h, he => by
    rw [Tm.norm] at h
    split at h
    · obtain ⟨_, h⟩ := Prod.mk.inj h
      obtain ⟨_, h⟩ := Prod.mk.inj h
      exact absurd h.symm he
    · exact (Prod.mk.inj h).1.symm
  | k + 1, m, t, p, n, e, h, he => by
    rw [Tm.norm] at h
    split at h
    · exact (Prod.mk.inj h).1.symm
    · obtain ⟨_, h⟩ := Prod.mk.inj h
      obtain ⟨_, h⟩ := Prod.mk.inj h
      exact absurd h.symm he
    · exact norm_fail k _ _ _ _ _ h he

theorem Normal_both {t : Tm} (hw : t.wt ≤ 1000000) (steps : Int) : ∃ p m e, reduce_Normal t steps = some (p, m, e) ∧ ref04_Normal t steps = some (p, m, e) ∧ p.wt ≤ 1000000000 := by
  have hnw := t.nodes_wt
  have hz : Tm.z.wt ≤ 1000000000 := by decide
  have h1 := reduce_Normal_eq (t := t) (by omega) steps
  unfold ref04_Normal
  rw [ref02_Check_eq (by omega)]
  simp only [bind1_of]
  by_cases he : t.err = 0
  · obtain ⟨ho, hn⟩ := err_small he
    rw [if_pos he] at h1
    rw [if_neg (by simp [ine, he])]
    simp only [joinB_eq, ilt_iff, igt_iff]
    by_cases a1 : steps < 0
    · rw [if_neg (by omega)] at h1
      rw [if_pos a1, if_pos trivial]
      exact ⟨_, _, _, h1, rfl, hz⟩
    · rw [if_neg a1]
      by_cases a2 : steps > 65536
      · rw [if_neg (by omega)] at h1
        rw [if_pos a2, if_pos trivial]
        exact ⟨_, _, _, h1, rfl, hz⟩
      · rw [if_neg a2, ref03_Least_eq FU t 536870912 (by rw [FU_eq]; omega) (by omega)]
        simp only [bind1_of]
        by_cases hl : t.least 536870912 = true
        · rw [if_pos ⟨by omega, by omega, hl⟩] at h1
          have hs : Sm 536870912 t := ⟨ho, hl, by omega⟩
          rw [hl, if_neg (by decide), Normal_loop4 steps (by omega) steps.toNat 0 t FU (by omega) (by omega) hs (by omega) (by rw [FU_eq]; omega)]
          generalize hno : t.norm steps.toNat 0 = o at h1
          obtain ⟨p, m, e⟩ := o
          refine ⟨p, m, e, h1, rfl, ?_⟩
          have hcode := norm_err steps.toNat 0 t
          by_cases h0 : e = 0
          · subst h0
            obtain ⟨q1, q2⟩ := norm_sm _ 536870912 _ _ _ _ (by omega) hs hn hno
            have := Tm.ok_wt p q1.ok
            omega
          · rw [norm_fail _ _ _ _ _ _ hno h0]
            exact hz
        · rw [if_neg (fun h => hl h.2.2)] at h1
          rw [if_pos (by rw [Bool.not_eq_true] at hl; rw [hl]; rfl)]
          exact ⟨_, _, _, h1, rfl, hz⟩
  · rw [if_neg he] at h1
    rw [if_pos (by simp [ine, he])]
    exact ⟨_, _, _, h1, rfl, hz⟩
end Go.Mdl
