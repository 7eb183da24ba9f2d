/-
  A step keeps the type and adds no free variables; a normal form has no step.
-/
import Derived.Test.YtnabbjnhemmkhaaDoorQw
import Derived.Test.YtnabbjnhemmkhaaDoorPo
set_option linter.unusedSimpArgs false
set_option linter.unusedVariables false
namespace Go.Mdl
open Go

theorem firstE_all : ∀ {l : List Int}, (∀ e ∈ l, e = 0) → firstE l = 0
  | [], _ => rfl
  | e :: l, h => by
    have h0 := h e (by simp)
    subst h0
    show (if (0 : Int) = 0 then firstE l else 0) = 0
    rw [if_pos rfl]
    exact firstE_all fun e' he => h e' (List.mem_cons_of_mem _ he)
theorem Tm.err_of' {t : Tm} (h : t.ok = true) (hn : t.nodes ≤ 4096) : t.err = 0 := by
  unfold Tm.err
  rw [if_pos h, if_neg (by omega)]
theorem ctx_zero {N : Nat} {g : List Ty} (hg : CtxOk N g) (hl : g.length ≤ 16) : ref01_Context g = some 0 := by
  rw [ref01_Context_eq g (by omega) (fun t ht => by have := (Ty.err_zero (hg.all t ht).1).2; omega)]
  unfold ctxE
  rw [if_neg (by omega)]
  congr 1
  exact firstE_all fun e he => by
    obtain ⟨t, ht, rfl⟩ := List.mem_map.1 he
    exact (hg.all t ht).1
theorem typeOf_eq {N : Nat} {g : List Ty} {x : Tm} {t : Ty} (h : HasTy g x t) (hg : CtxOk N g) (hl : g.length ≤ 16) (hx : x.nodes ≤ 4096) : ref02_TypeOf g x = some (t, 0) := by
  have hw := Tm.ok_wt x h.ok
  unfold ref02_TypeOf
  rw [ctx_zero hg hl]
  simp only [bind1_of]
  rw [if_neg (by decide)]
  unfold ref02_Typed
  rw [ref02_Check_eq (by omega), Tm.err_of' h.ok hx]
  simp only [bind1_of]
  rw [if_neg (by decide), (infer_eq h (fun s hs => (hg.all s hs).1)).2 FU (by rw [FU_eq]; omega) (by omega)]
  rfl

theorem law_ReduceTypes (l : List Int) : law04_ReduceTypes l = some true := by
  unfold law04_ReduceTypes
  simp only [sane_true, bind1_of, if_true, mk_Few_eq]
  by_cases hl : l.length ≤ 500
  · rw [if_pos (by simpa using hl)]
    obtain ⟨g, d1, g1, g2, g3, g4⟩ := mk_Context_ok ⟨l, 0⟩ (new_wf l (by omega))
    obtain ⟨s, d2, s1, s2, s3, s4⟩ := mk_Type' d1 g2 1 (by omega)
    rw [show ((1 : Nat) : Int) = 1 from rfl] at s1
    have hs3 : s.nodes ≤ 3 := by omega
    obtain ⟨x, d3, x1, x2, x3, x4⟩ := mk_Term3 3 (by omega) (by omega) g s d2 (by omega) g4 s2 hs3 s4 3 (by omega)
    rw [show ((3 : Nat) : Int) = 3 from rfl] at x1
    simp only [mk_New, bind1_of, g1, bind2_of, s1, x1, joinB_eq]
    generalize hF : (un6 fun (v7955 : Int) (v7956 : Int) (v7957 : Int) (v7958 : Int) (v7959 : (List Ty)) (v7960 : (List Tm)) => (_ : Option (Ctl (Int × Int × Int × Int × (List Ty) × (List Tm)) (Bool)))) = F
    obtain ⟨o, h1, h2⟩ := loopN_inv (ρ := Bool) (F := F)
      (fun st => 0 ≤ st.1 ∧ st.1 ≤ 12 ∧ HasTy g (Tm.mk st.2.1 st.2.2.1 (Ty.mk st.2.2.2.1 st.2.2.2.2.1) st.2.2.2.2.2) s ∧ (Tm.mk st.2.1 st.2.2.1 (Ty.mk st.2.2.2.1 st.2.2.2.2.1) st.2.2.2.2.2).nodes ≤ 4096)
      (fun st => (12 - st.1).toNat)
      (fun o => match o with | .inl _ => True | .inr r => r = true)
      (by
        rintro ⟨i, b, c, d, e, f⟩ ⟨h1, h2, h3, h4⟩
        simp only at h1 h2 h3 h4
        rw [← hF]
        simp only [un6_mk]
        generalize hz : Tm.mk b c (Ty.mk d e) f = z at h3 h4
        have hwz := Tm.ok_wt z h3.ok
        have hez := Tm.err_of' h3.ok h4
        have hlz := h3.least 536870912 (by omega)
        by_cases hi : i < 12
        · rw [reduce_Step_eq (by omega), hez]
          simp only [if_true, hlz, bind3_of, ilt_iff, hi]
          cases hst : z.stp (4096 - z.nodes) with
          | none => exact .inr (.inr ⟨true, rfl, rfl⟩)
          | some o =>
            cases o with
            | none =>
              right; right
              refine ⟨true, ?_, rfl⟩
              simp only [bind3_of]
              rw [if_neg (by decide), if_neg (by decide), reduce_Normal_eq (by omega), hez]
              simp only [if_true, hlz]
              rw [if_pos ⟨by omega, by omega, trivial⟩, show (0 : Int).toNat = 0 from rfl, Tm.norm, if_pos ((stp_nf _ z).2 hst)]
              simp only [bind3_of, ref02_Same_self (t := z) (by omega), bind1_of, if_true]
              rfl
            | some y =>
              left
              obtain ⟨y1, y2, y3⟩ := stp_sm (M := 536870912) (by omega) z ⟨h3.ok, hlz, by omega⟩ (by omega) y hst
              have hy := h3.stp y hst
              have hyn : y.nodes ≤ 4096 := by omega
              have hwy := Tm.ok_wt y y1
              have hey := Tm.err_of' y1 hyn
              obtain ⟨uz, z5, z6, z7, z8⟩ := ref03_Uses_eq (t := z) (by omega) (h3.least _ (by omega)) hez
              obtain ⟨uy, y5, y6, y7, y8⟩ := ref03_Uses_eq (t := y) (by omega) (hy.least _ (by omega)) hey
              refine ⟨(i + 1, y.kind, y.index, y.typeF.kind, y.typeF.args, y.args), ?_, ?_, ?_⟩
              · simp only [bind3_of]
                rw [if_neg (by decide), if_pos trivial, typeOf_eq hy g4 (by omega) hyn]
                simp only [bind2_of]
                rw [if_neg (by decide), sameTy_self (by omega)]
                simp only [bind1_of, bnot_true, Bool.false_eq_true, if_false, z5, y5, bind2_of, okLen_of (l := uy) (by omega), okLen_of (l := uz) (by omega), chk_true]
                have inner : ∀ v : Int, v ∈ uz → forR (fun (j : Int) (x : Int) (w : Bool) => (some (.next (sel w true (ieq v x))) : Option (Ctl Bool Bool))) uz 0 false = some (.inl true) := by
                  intro v hv
                  have key : ∀ (m : List Int) (k : Nat) (w : Bool), (w = true ∨ v ∈ m) → forR (fun (j : Int) (x : Int) (w : Bool) => (some (.next (sel w true (ieq v x))) : Option (Ctl Bool Bool))) m k w = some (.inl true) := by
                    intro m
                    induction m with
                    | nil => intro k w h; rcases h with rfl | h <;> simp_all
                    | cons a m ih =>
                      intro k w h
                      rw [forR_cons]
                      simp only [bind1_of, ctlK_next]
                      refine ih _ _ ?_
                      cases w with
                      | true => exact .inl rfl
                      | false =>
                        rcases h with h | h
                        · cases h
                        · rcases List.mem_cons.1 h with rfl | h
                          · left; simp [sel, ieq]
                          · exact .inr h
                  exact key uz 0 false (.inr hv)
                have outer : ∀ (m : List Int) (k : Nat), (∀ v ∈ m, v ∈ uz) → forR (fun (j : Int) (x : Int) (_ : Unit) => bind1 (forR (fun (j : Int) (y : Int) (w : Bool) => (some (.next (sel w true (ieq x y))) : Option (Ctl Bool Bool))) uz 0 false)
                    (sumK (fun (w : Bool) => if w = true then some (Ctl.next ()) else some (.ret false)) (fun r => some (.ret r)))) m k () = some (.inl ()) := by
                  intro m
                  induction m with
                  | nil => intro k _; rfl
                  | cons a m ih =>
                    intro k h
                    rw [forR_cons, inner a (h a (by simp))]
                    simp only [bind1_of, sumK_inl, if_true, ctlK_next]
                    exact ih _ fun v hv => h v (by simp [hv])
                rw [outer uy 0 (fun v hv => by
                  obtain ⟨q1, q2⟩ := (y8 v).1 hv
                  exact (z8 v).2 ⟨q1, stp_In z y v h3.ok q1 hst q2⟩)]
                simp only [bind1_of, sumK_inl]
                rw [iadd_in (by omega) (by omega)]
              · refine ⟨by show 0 ≤ i + 1; omega, by show i + 1 ≤ 12; omega, ?_, ?_⟩
                · show HasTy g (Tm.mk y.kind y.index (Ty.mk y.typeF.kind y.typeF.args) y.args) s
                  rw [tm_eta]; exact hy
                · show (Tm.mk y.kind y.index (Ty.mk y.typeF.kind y.typeF.args) y.args).nodes ≤ 4096
                  rw [tm_eta]; exact hyn
              · show (12 - (i + 1)).toNat < (12 - i).toNat
                omega
        · right; left
          refine ⟨_, by simp only [ilt_iff, hi, if_false]; rfl, trivial⟩)
      FU (0, x.kind, x.index, x.typeF.kind, x.typeF.args, x.args) ⟨by simp, by simp, by
        show HasTy g (Tm.mk x.kind x.index (Ty.mk x.typeF.kind x.typeF.args) x.args) s
        rw [tm_eta]; exact x3, by
        show (Tm.mk x.kind x.index (Ty.mk x.typeF.kind x.typeF.args) x.args).nodes ≤ 4096
        rw [tm_eta]; omega⟩ (by rw [FU_eq]; show ((12 : Int) - 0).toNat < _; omega)
    rw [h1]
    cases o with
    | inr r => simp only at h2; subst h2; rfl
    | inl st => rfl
  · rw [if_neg (by simpa using hl)]
end Go.Mdl
