/-
  ReduceDoes: what the two reduces answer is the same.
-/
import Derived.Test.YtnabbjnhemmkhaaDoorQt
import Derived.Test.YtnabbjnhemmkhaaDoorPn
set_option linter.unusedSimpArgs false
set_option linter.unusedVariables false
namespace Go.Mdl
open Go

theorem Same_both {a b : Tm} (ha : a.wt ≤ 1000000000) : ∃ r, terms_Same a b = some r ∧ ref02_Same FU a b = some r := by
  obtain ⟨r, r1, r2⟩ := terms_Same_eq (b := b) ha
  obtain ⟨q, q1, q2⟩ := ref02_Same_eq FU a b (by rw [FU_eq]; exact ha) ha
  have : r = q := by rw [Bool.eq_iff_iff, r2, q2]
  subst this
  exact ⟨r, r1, q1⟩

theorem Match_both {a b : Tm} (ha : a.wt ≤ 1000000) (hb : b.wt ≤ 1000000) (steps : Int) : ∃ c, reduce_Match a b steps = some c ∧ ref04_Match a b steps = some c := by
  unfold reduce_Match ref04_Match
  rw [terms_Check_eq (by omega), terms_Check_eq (t := b) (by omega), ref02_Check_eq (by omega), ref02_Check_eq (t := b) (by omega)]
  simp only [bind1_of]
  by_cases h1 : ine a.err 0 = true
  · rw [if_pos h1, if_pos h1]; exact ⟨_, rfl, rfl⟩
  · rw [if_neg h1, if_neg h1]
    by_cases h2 : ine b.err 0 = true
    · rw [if_pos h2, if_pos h2]; exact ⟨_, rfl, rfl⟩
    · rw [if_neg h2, if_neg h2]
      obtain ⟨r, r1, r2⟩ := Same_both (a := a) (b := b) (by omega)
      rw [r1, r2]
      simp only [bind1_of]
      by_cases h3 : r = true
      · rw [if_pos h3, if_pos h3]; exact ⟨_, rfl, rfl⟩
      · rw [if_neg h3, if_neg h3]
        obtain ⟨p, m, e, p1, p2, p3⟩ := Normal_both ha steps
        obtain ⟨q, n, f, q1, q2, q3⟩ := Normal_both hb steps
        rw [p1, p2, q1, q2]
        simp only [bind3_of]
        by_cases h4 : ine e 0 = true
        · rw [if_pos h4, if_pos h4]; exact ⟨_, rfl, rfl⟩
        · rw [if_neg h4, if_neg h4]
          by_cases h5 : ine f 0 = true
          · rw [if_pos h5, if_pos h5]; exact ⟨_, rfl, rfl⟩
          · rw [if_neg h5, if_neg h5]
            obtain ⟨s, s1, s2⟩ := Same_both (a := p) (b := q) p3
            rw [s1, s2]
            simp only [bind1_of]
            by_cases h6 : s = true
            · rw [if_pos h6]; exact ⟨_, rfl, rfl⟩
            · rw [if_neg h6]; exact ⟨_, rfl, rfl⟩

theorem few_eq (a b : Tm) : ∃ r, law04_few [a, b] = some r ∧ (r = true → a.wt ≤ 400 ∧ b.wt ≤ 400) := by
  obtain ⟨x, x1, x2, x3, x4⟩ := mk_CountTerm_eq FU a 20000 (by omega) (by omega) (by rw [FU_eq]; omega)
  obtain ⟨y, y1, y2, y3, y4⟩ := mk_CountTerm_eq FU b 20000 (by omega) (by omega) (by rw [FU_eq]; omega)
  unfold law04_few
  simp only [joinB_eq, okLen_of (l := [a, b]) (by simp), chk_true]
  unfold law04_nodes
  rw [forR_cons]
  simp only [x1, bind1_of, ctlK_next]
  rw [iadd_in (a := 0) (by omega) (by omega), forR_cons]
  simp only [y1, bind1_of, ctlK_next]
  rw [iadd_in (by omega) (by omega), forR_nil]
  simp only [bind1_of, sumK_inl]
  refine ⟨_, rfl, fun h => ?_⟩
  rw [ilt_iff] at h
  have e1 := x4 (by omega)
  have e2 := y4 (by omega)
  omega

theorem ine_self (a : Int) : ¬ ine a a = true := by simp [ine]
theorem bneB_self (a : Bool) : ¬ bneB a a = true := by simp [bneB]

theorem law_ReduceDoes (l : List Int) (a b : Tm) (steps : Int) : law04_ReduceDoes l a b steps = some true := by
  unfold law04_ReduceDoes
  simp only [sane_true, bind1_of, if_true, mk_Few_eq, joinB_eq]
  by_cases hl : l.length ≤ 500
  · rw [if_pos (by simpa using hl)]
    obtain ⟨r, r1, r2⟩ := few_eq a b
    rw [r1]
    simp only [bind1_of]
    by_cases hr : r = true
    · rw [hr, if_neg (by decide)]
      obtain ⟨ha, hb⟩ := r2 hr
      obtain ⟨g, d1, g1, g2, g3, g4⟩ := mk_Context_ok ⟨l, 0⟩ (new_wf l (by omega))
      obtain ⟨s, d2, s1, s2, s3, s4⟩ := mk_Type' d1 g2 1 (by omega)
      rw [show ((1 : Nat) : Int) = 1 from rfl] at s1
      have hs3 : s.nodes ≤ 3 := by omega
      obtain ⟨x, d3, x1, x2, x3, x4⟩ := mk_Term3 3 (by omega) (by omega) g s d2 (by omega) g4 s2 hs3 s4 3 (by omega)
      rw [show ((3 : Nat) : Int) = 3 from rfl] at x1
      obtain ⟨y, d4, y1, y2, y3, y4⟩ := mk_Term3 3 (by omega) (by omega) g s d3 (by omega) g4 s2 hs3 x2 2 (by omega)
      rw [show ((2 : Nat) : Int) = 2 from rfl] at y1
      have hxw := Tm.ok_wt x x3.ok
      have hyw := Tm.ok_wt y y3.ok
      simp only [mk_New, bind1_of, g1, bind2_of, s1, x1, y1, okLen_of (l := [a, x, y]) (by simp), chk_true]
      have key := forR_ind (ρ := Bool) (I := fun _ : Unit => True) (F := fun (j1284 : Int) (x1286 : Tm) => (fun (_ : Unit) =>
          bind2 (reduce_Redex x1286) fun x2980 x2981 =>
          bind2 (ref04_Redex x1286) fun x2990 x2991 =>
          bind2 (reduce_Contract x1286) fun x3000 x3001 =>
          bind2 (ref04_Contract x1286) fun x3010 x3011 =>
          bind3 (reduce_Step x1286) fun x3021 x3022 x3023 =>
          bind3 (ref04_Step x1286) fun x3033 x3034 x3035 =>
          joinB (fun (v3132 : Bool) =>
          if v3132 = true then (
          some (.ret false))
          else (
          bind1 (mk_Mod steps 40) fun x3175 =>
          joinB ([x3175, (imin steps 60)] : List Int) fun L3178 =>
          chk (okLen L3178) <|
          joinB (fun (j3179 : Int) (x3181 : Int) => (fun (_ : Unit) =>
          bind3 (reduce_Normal x1286 x3181) fun x3715 x3716 x3717 =>
          bind3 (ref04_Normal x1286 x3181) fun x3727 x3728 x3729 =>
          joinB (fun (v3789 : Bool) =>
          if v3789 = true then (
          some (.ret false))
          else (
          some (.next ()))) fun j3790 =>
          if (ine x3716 x3728) = true then (
          j3790 true)
          else (
          if (ine x3717 x3729) = true then (
          j3790 true)
          else (
          bind1 (ref02_Same FU x3715 x3727) fun x3827 =>
          if x3827 = true then (
          bind1 (reduce_Match x1286 x x3181) fun x3833 =>
          bind1 (ref04_Match x1286 x x3181) fun x3836 =>
          if (ine x3833 x3836) = true then (
          j3790 true)
          else (
          bind1 (reduce_Match x1286 b x3181) fun x3842 =>
          bind1 (ref04_Match x1286 b x3181) fun x3845 =>
          j3790 (ine x3842 x3845)))
          else (
          j3790 true)))) : Int → Int → (Unit) → (Option (Ctl (Unit) (Bool)))) fun F3510 =>
          bind1 (forR F3510 L3178 0 ()) (sumK (fun (_ : Unit) =>
          some (.next ())) (fun r => some (.ret r))))) fun j3133 =>
          if (bneB x2980 x2990) = true then (
          j3133 true)
          else (
          if (ine x2981 x2991) = true then (
          j3133 true)
          else (
          if (ine x3001 x3011) = true then (
          j3133 true)
          else (
          bind1 (ref02_Same FU x3000 x3010) fun x3146 =>
          if x3146 = true then (
          if (bneB x3022 x3034) = true then (
          j3133 true)
          else (
          if (ine x3023 x3035) = true then (
          j3133 true)
          else (
          bind1 (ref02_Same FU x3021 x3033) fun x3158 =>
          j3133 (bnot x3158))))
          else (
          j3133 true))))) ) [a, x, y] 0 () trivial (by
        intro k z u hz _
        have hzm : z ∈ [a, x, y] := List.mem_of_getElem? hz
        have hzw : z.wt ≤ 1000000 := by
          simp only [List.mem_cons, List.not_mem_nil, or_false] at hzm
          rcases hzm with rfl | rfl | rfl <;> omega
        obtain ⟨p, e, p1, p2, p3⟩ := Contract_both hzw
        obtain ⟨q, c, f, q1, q2, q3⟩ := Step_both hzw
        refine ⟨(), ?_, trivial⟩
        have hred : ∃ o f, reduce_Redex z = some (o, f) ∧ ref04_Redex z = some (o, f) := by
          rw [Redex_eq hzw, ref04_Redex_eq hzw]
          split <;> exact ⟨_, _, rfl, rfl⟩
        obtain ⟨o, w, o1, o2⟩ := hred
        obtain ⟨md, hmd⟩ : ∃ md, mk_Mod steps 40 = some md := by obtain ⟨y, h, _⟩ := mk_Mod_eq steps 40 (by omega) (by omega); exact ⟨y, h⟩
        simp only [o1, o2, bind2_of, p1, p2, q1, q2, bind3_of, joinB_eq]
        rw [if_neg (bneB_self o), if_neg (ine_self w), if_neg (ine_self e), ref02_Same_self p3]
        simp only [bind1_of, if_true]
        rw [if_neg (bneB_self c), if_neg (ine_self f), ref02_Same_self q3]
        simp only [bind1_of]
        rw [if_neg (by decide), hmd]
        simp only [bind1_of, okLen_of (l := [md, imin steps 60]) (by simp), chk_true]
        have inner := forR_ind (ρ := Bool) (I := fun _ : Unit => True) (F := fun (j3179 : Int) (x3181 : Int) => (fun (_ : Unit) =>
          bind3 (reduce_Normal z x3181) fun x3715 x3716 x3717 =>
          bind3 (ref04_Normal z x3181) fun x3727 x3728 x3729 =>
          if (ine x3716 x3728) = true then (
          if true = true then some (Ctl.ret false) else some (.next ()))
          else (
          if (ine x3717 x3729) = true then (
          if true = true then some (Ctl.ret false) else some (.next ()))
          else (
          bind1 (ref02_Same FU x3715 x3727) fun x3827 =>
          if x3827 = true then (
          bind1 (reduce_Match z x x3181) fun x3833 =>
          bind1 (ref04_Match z x x3181) fun x3836 =>
          if (ine x3833 x3836) = true then (
          if true = true then some (Ctl.ret false) else some (.next ()))
          else (
          bind1 (reduce_Match z b x3181) fun x3842 =>
          bind1 (ref04_Match z b x3181) fun x3845 =>
          if (ine x3842 x3845) = true then some (Ctl.ret false) else some (.next ())))
          else (
          if true = true then some (Ctl.ret false) else some (.next ())))))) [md, imin steps 60] 0 () trivial (by
            intro k st u _ _
            refine ⟨(), ?_, trivial⟩
            obtain ⟨n, m, e, n1, n2, n3⟩ := Normal_both hzw st
            obtain ⟨c1, c2, c3⟩ := Match_both hzw (b := x) (by omega) st
            obtain ⟨d1, d2, d3⟩ := Match_both hzw (b := b) (by omega) st
            simp only [n1, n2, bind3_of]
            rw [if_neg (ine_self m), if_neg (ine_self e), ref02_Same_self n3]
            simp only [bind1_of, if_true, c2, c3]
            rw [if_neg (ine_self c1), d2, d3]
            simp only [bind1_of]
            rw [if_neg (ine_self d1)])
        obtain ⟨u', h1, _⟩ := inner
        simp only [if_true] at h1 ⊢
        rw [h1]
        rfl)
      obtain ⟨u', h1, _⟩ := key
      simp only [joinB_eq, if_true] at h1
      rw [h1]
      rfl
    · rw [Bool.not_eq_true] at hr
      rw [hr]
      rfl
  · rw [if_neg (by simpa using hl)]
end Go.Mdl
