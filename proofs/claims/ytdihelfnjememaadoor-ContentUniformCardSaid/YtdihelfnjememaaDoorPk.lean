/-
  The law of chapter 23 about uniform quantifiers.
-/
import Derived.Test.YtdihelfnjememaaDoorPka
set_option linter.unusedSimpArgs false
set_option linter.unusedVariables false
namespace Go.Mdl
open Go

theorem law_ContentUniform (l : List Int) : law23_ContentUniform l = some true := by
  unfold law23_ContentUniform
  refine good_join (G := fun o => o = some true) (fun a => a = false → l.length ≤ 500) ?_ ?_
  · intro a ha
    cases a with
    | true => simp [awake_true]
    | false =>
      have hl := ha rfl
      simp only [Bool.false_eq_true, if_false]
      obtain ⟨t, d1, t1, t2, t3, t4⟩ := mk_Type' ⟨l, 0⟩ (new_wf l (by omega)) 1 (by omega)
      rw [show ((1 : Nat) : Int) = 1 from rfl] at t1
      simp only [mk_New, bind1_of, t1, bind2_of]
      obtain ⟨f, d2, f1, f2, f3⟩ := mk_Formula' 3 (by omega) [t] d1 (by simp) (ctxOne t2 (by omega)) t4
      rw [show ((3 : Nat) : Int) = 3 from rfl] at f1
      have hfb : fb 3 = 927 := rfl
      rw [hfb] at f3
      have hok := f3.ty.ok
      obtain ⟨fw, fe⟩ := f3.sizes (by omega)
      have fn := f3.nodes
      simp only [f1, bind2_of, content_Type_eq f fw, ref08_Content_eq f fw, cty_rf fe, fe, ne_eq, not_true_eq_false, if_false]
      have hct := ct_ok f hok
      have hrn := rf_nodes hok
      rcases hc : f.ct with ⟨ty, hb, e⟩
      obtain ⟨c1, c2, c3, c4⟩ := hct
      rw [hc] at c1 c2 c3 c4
      simp only at c1 c2 c3 c4
      have hrf : f.rf = if e ≠ 0 then (.mk 0 [], e) else (if f.has = true then ty else .mk 5 [], 0) := by unfold Fm.rf; rw [hc]
      rw [hrf] at hrn ⊢
      rcases c1 with rfl | rfl
      · have hb2 := c2 rfl
        subst hb2
        simp only [ne_eq, not_true_eq_false, if_false] at hrn ⊢
        have l0 : okLen [(6 : Int), 7] = true := by decide
        have i0 : ine 0 0 = false := rfl
        simp only [joinB_eq, l0, chk_true, forR_cons, forR_nil, i0, sel_true, sel_false, Bool.false_eq_true, if_false]
        -- uniform quantifiers
        have hu : ∀ k : Int, k = 6 ∨ k = 7 → content_Type (Fm.mk k t [] [f]) = some (if f.has = true then ty else .mk 5 [], 0) := by
          intro k hk
          obtain ⟨q1, q2⟩ := q_ok (k := k) (s := t) (by omega) t2 hok (by omega)
          rw [content_Type_eq _ q2, cty_rf q1, rf_q (by omega) (by omega), hc]
          unfold ctNode
          simp only [ne_eq, not_true_eq_false, if_false, show ¬ k = 2 by omega, show ¬ k = 5 by omega, show ¬ k = 3 by omega, show ¬ k = 4 by omega]
          cases f.has <;> simp
        have hs := same_self _ (show (if f.has = true then ty else Ty.mk 5 []).nodes ≤ 1000000000 by omega)
        simp only [bind2_of, i0, sel_false, Bool.false_eq_true, if_false, hu 6 (by omega), hs, bind1_of, bnot_true, ctlK_next, hu 7 (by omega), sumK_inl, forR_cons, forR_nil]
        obtain ⟨q1, q2⟩ := q_ok (k := 4) (s := t) (by omega) t2 hok (by omega)
        obtain ⟨q3, q4⟩ := q_ok (k := 5) (s := t) (by omega) t2 hok (by omega)
        rw [content_Type_eq _ q2, content_Type_eq _ q4, cty_rf q1, cty_rf q3, rf_q (by omega) (by omega), rf_q (by omega) (by omega), hc]
        unfold ctNode
        simp only [ne_eq, not_true_eq_false, if_false, show ¬ (4 : Int) = 2 by omega, show ¬ (4 : Int) = 5 by omega, show ¬ (4 : Int) = 3 by omega, show ¬ (5 : Int) = 2 by omega, if_true, false_or, true_or]
        cases hh : f.has with
        | false =>
          simp only [Bool.false_eq_true, if_false, if_true, bind2_of]
          have : t.nodes ≤ 1000000000 := by omega
          simp [same_self t this]
        | true =>
          rw [hh] at hrn c4
          simp only [if_true] at hrn
          have hty := c4 rfl rfl
          simp only [if_true]
          have g3 := joinT_good (k := 3) (.inl rfl) (Ty.err_zero t2).1 (Ty.err_zero hty).1
          have g4 := joinT_good (k := 4) (.inr rfl) (Ty.err_zero t2).1 (Ty.err_zero hty).1
          have j3 : (joinT 3 t ty).2.2 = 0 → (joinT 3 t ty).1 = .mk 3 [t, ty] := by unfold joinT; split <;> simp; omega
          have j4 : (joinT 4 t ty).2.2 = 0 → (joinT 4 t ty).1 = .mk 4 [t, ty] := by unfold joinT; split <;> simp; omega
          rcases g4.1 with h4 | h4
          · rcases g3.1 with h3 | h3
            · have n4 : (Ty.mk 4 [t, ty]).nodes ≤ 1000000000 := by rw [Ty.nodes_two]; omega
              have n3 : (Ty.mk 3 [t, ty]).nodes ≤ 1000000000 := by rw [Ty.nodes_two]; omega
              simp [h3, h4, j3 h3, j4 h4, ref23_Fun, ref23_Pair, same_self _ n4, same_self _ n3]
            · simp [h3, h4, limits_four]
              simp [show law23_limits 0 = some false from rfl]
          · rcases g3.1 with h3 | h3
            · simp [h3, h4, limits_four]
            · simp [h3, h4, limits_four]
      · simp [limits_four]
  · intro j hj
    rw [awake_true]
    simp only [bind1_of, if_true, mk_Few, bnot_eq]
    refine hj _ fun h => ?_
    simp only [Bool.not_eq_false', ile_iff, llen_eq] at h
    omega
end Go.Mdl
