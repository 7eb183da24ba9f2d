/-
  The law of chapter 23 about formulas without content.
-/
import Derived.Test.YtdihelfnjememaaDoorPk
set_option linter.unusedSimpArgs false
set_option linter.unusedVariables false
namespace Go.Mdl
open Go

theorem rf_two {k : Int} {a b : Fm} (hk : k ≠ 1) (hk5 : k ≠ 5) (hk2 : k ≠ 2) : (Fm.mk k .z [] [a, b]).rf =
    if (ctNode k .z a.ct b.ct).2.2 ≠ 0 then (.mk 0 [], (ctNode k .z a.ct b.ct).2.2) else (if b.has = true then (ctNode k .z a.ct b.ct).1 else .mk 5 [], 0) := by
  have h1 := Fm.ct_two k .z [] a b
  rw [if_neg hk] at h1
  have h2 := Fm.has_two k .z [] a b
  rw [if_neg hk, if_neg hk2, if_neg hk5] at h2
  unfold Fm.rf
  rw [h1, h2]
theorem rf_ct {f : Fm} {t : Ty} {b : Bool} {e : Int} (hc : f.ct = (t, b, e)) : f.rf = if e ≠ 0 then (.mk 0 [], e) else (if f.has = true then t else .mk 5 [], 0) := by unfold Fm.rf; rw [hc]

theorem law_ContentNone (l : List Int) : law23_ContentNone l = some true := by
  unfold law23_ContentNone
  refine good_join (G := fun o => o = some true) (fun a => a = false → l.length ≤ 500) ?_ ?_
  · intro a ha
    cases a with
    | true => simp [awake_true]
    | false =>
      have hl := ha rfl
      simp only [Bool.false_eq_true, if_false]
      obtain ⟨f, d2, f1, f2, f3⟩ := mk_Formula' 3 (by omega) [] ⟨l, 0⟩ (by simp) ctxNil (new_wf l (by omega))
      rw [show ((3 : Nat) : Int) = 3 from rfl] at f1
      obtain ⟨g, d3, g1, g2, g3⟩ := mk_Formula' 2 (by omega) [] d2 (by simp) ctxNil f2
      rw [show ((2 : Nat) : Int) = 2 from rfl] at g1
      have hfb : fb 3 = 927 := rfl
      have hgb : fb 2 = 463 := rfl
      rw [hfb] at f3
      rw [hgb] at g3
      have fok := f3.ty.ok
      have gok := g3.ty.ok
      obtain ⟨fw, fe⟩ := f3.sizes (by omega)
      obtain ⟨gw, ge⟩ := g3.sizes (by omega)
      have fn := f3.nodes
      have gn := g3.nodes
      obtain ⟨ie, iw⟩ := two_ok (k := 3) (.inr rfl) fok gok (by omega)
      simp only [mk_New, bind1_of, f1, g1, bind2_of, content_Type_eq f fw, content_Type_eq g gw, ref08_Content_eq f fw, ref08_Content_eq g gw, cty_rf fe, cty_rf ge, fe, ge, ne_eq, not_true_eq_false, if_false]
      rw [show content_Type (Fm.mk 3 (Ty.mk 0 []) [] [f, g]) = some (Fm.mk 3 .z [] [f, g]).rf from by rw [← cty_rf ie]; exact content_Type_eq _ iw]
      rw [rf_two (by omega) (by omega) (by omega)]
      have hrf := rf_nodes fok
      have hrg := rf_nodes gok
      rcases hcf : f.ct with ⟨ta, ba, ea⟩
      rcases hcg : g.ct with ⟨tb, bb, eb⟩
      obtain ⟨a1, a2, a3, a4⟩ := ct_ok f fok
      obtain ⟨b1, b2, b3, b4⟩ := ct_ok g gok
      rw [hcf] at a1 a2 a3 a4
      rw [hcg] at b1 b2 b3 b4
      simp only at a1 a2 a3 a4 b1 b2 b3 b4
      rw [rf_ct hcf] at hrf ⊢
      rw [rf_ct hcg] at hrg ⊢
      have l4 := limits_four
      have l0 : law23_limits 0 = some false := rfl
      simp only [joinB_eq, bind2_of, sel_or, Bool.or_eq_true, ine_iff]
      unfold ctNode
      simp only [show ¬ (3 : Int) = 2 by omega, show ¬ (3 : Int) = 5 by omega, if_false, if_true]
      unfold ctImp
      rcases b1 with rfl | rfl
      · have hb := b2 rfl
        subst hb
        rcases a1 with rfl | rfl
        · have ha := a2 rfl
          subst ha
          simp only [ne_eq, not_true_eq_false, if_false, false_or] at hrf hrg ⊢
          cases hf : f.has with
          | false =>
            rw [hf] at hrf
            simp only [Bool.false_eq_true, if_false] at hrf
            have hs := same_self _ (show (if g.has = true then tb else Ty.mk 5 []).nodes ≤ 1000000000 by omega)
            cases hg : g.has with
            | false => rw [hg] at hs; simp at hs; simp [hs]
            | true => rw [hg] at hs; simp at hs; simp [hs]
          | true =>
            rw [hf] at hrf a4
            simp only [if_true] at hrf
            have hta := a4 rfl rfl
            cases hg : g.has with
            | false => simp
            | true =>
              rw [hg] at hrg b4
              simp only [if_true] at hrg
              have htb := b4 rfl rfl
              have g4 := joinT_good (k := 4) (.inr rfl) (Ty.err_zero hta).1 (Ty.err_zero htb).1
              have j4 : (joinT 4 ta tb).2.2 = 0 → (joinT 4 ta tb).1 = .mk 4 [ta, tb] := by unfold joinT; split <;> simp; omega
              have n4 : (Ty.mk 4 [ta, tb]).nodes ≤ 1000000000 := by rw [Ty.nodes_two]; omega
              rcases g4.1 with h4 | h4
              · simp [h4, j4 h4, ref23_Fun, same_self _ n4]
              · simp [h4, l4, l0]
        · cases hg : g.has <;> simp [l4]
      · rcases a1 with rfl | rfl
        · simp [l4, l0]
        · simp [l4]
  · intro j hj
    rw [awake_true]
    simp only [bind1_of, if_true, mk_Few, bnot_eq]
    refine hj _ fun h => ?_
    simp only [Bool.not_eq_false', ile_iff, llen_eq] at h
    omega
end Go.Mdl
