/-
  The translation of formulas: the law TranslateDoes.
-/
import Derived.Test.YtanjokijgbgcpaaGreatDoorTrQ
set_option maxRecDepth 20000
set_option linter.unusedSimpArgs false
set_option linter.unusedVariables false
namespace Go.Mdl
open Go

/-- The error of the first look at an answer and a formula. -/
def lookE (a f : Fm) : Int :=
  if a.err = 0 then if f.err = 0 then if f.uni = true then 10 else if a.least 536870912 = true then if 4096 < f.tr a.nodes then 4 else 0 else 1 else f.err else a.err
theorem lift01 {a : Fm} (he : a.err = 0) (hw : a.wt ≤ 1000000000) : ∃ x, formula_Lift a 0 1 = some (x, if a.least 536870912 = true then 0 else 1) := by
  obtain ⟨ho, hn⟩ := Fm.err_ok he
  unfold formula_Lift
  rw [formula_Check_eq hw, bind1_of, he]
  simp only [show ine (0 : Int) 0 = false from rfl, Bool.false_eq_true, if_false, joinB_eq]
  rw [show formula_within 0 = some true from rfl, show formula_within 1 = some true from rfl]
  simp only [bind1_of, if_true]
  rw [nearF_eq ho (by omega), bind1_of]
  cases hl : a.least 536870912 with
  | true =>
    simp only [show bnot true = false from rfl, Bool.false_eq_true, if_false, if_true]
    rw [tree_LiftFormula_eq ho (by omega) (Fm.least_mono _ (by omega) hl) (by omega) (by omega) (by omega) (by omega)]
    exact ⟨_, rfl⟩
  | false => exact ⟨_, rfl⟩
theorem Fm.err_case (f : Fm) : f.err = 0 ∨ f.err = 2 ∨ f.err = 4 := by
  unfold Fm.err
  split
  · split
    · exact .inr (.inr rfl)
    · exact .inl rfl
  · exact .inr (.inl rfl)
theorem ine0_true {e : Int} (h : ¬ e = 0) : ine e 0 = true := by simpa [ine] using h
theorem look_both {a f : Fm} (ha : a.wt ≤ 1000000000) (hf : f.wt ≤ 1000000000) : translate_look a f = some (lookE a f) ∧ ref20_checked a f = some (lookE a f) := by
  unfold translate_look ref20_checked lookE
  rw [formula_Check_eq ha, formula_Check_eq hf, ref07_Check_eq ha, ref07_Check_eq hf]
  simp only [bind1_of]
  by_cases hae : a.err = 0
  · by_cases hfe : f.err = 0
    · obtain ⟨hao, han⟩ := Fm.err_ok hae
      obtain ⟨hfo, hfn⟩ := Fm.err_ok hfe
      rw [uniform_fun, uni_eq FU f (by rw [FU_eq]; omega) (by omega)]
      simp only [hae, hfe, show ine (0 : Int) 0 = false from rfl, Bool.false_eq_true, if_false, if_true, bind1_of]
      cases hu : f.uni with
      | true => exact ⟨rfl, rfl⟩
      | false =>
        simp only [Bool.false_eq_true, if_false]
        obtain ⟨x, hx⟩ := lift01 hae ha
        rw [hx, ref07_Least_eq FU a 536870912 (by rw [FU_eq]; omega) (by omega)]
        simp only [bind2_of, bind1_of]
        cases hl : a.least 536870912 with
        | false => exact ⟨rfl, rfl⟩
        | true =>
          simp only [if_true, show ine (0 : Int) 0 = false from rfl, Bool.false_eq_true, if_false]
          rw [tree_CheckFormula_eq ha, if_pos hae, ref07_Count_eq FU a (by rw [FU_eq]; omega) (by omega)]
          simp only [bind2_of, bind1_of]
          obtain ⟨s1, s2, s3⟩ := size_eq (c := a.nodes) han f hfo hu hfn FU (by rw [FU_eq]; omega)
          rw [s1, s2]
          simp only [bind1_of, igt_iff]
          have hc := cutN_bd (f.tr a.nodes)
          by_cases hs : 4096 < f.tr a.nodes
          · rw [if_pos hs, if_pos (by omega), if_pos (by omega)]; exact ⟨rfl, rfl⟩
          · rw [if_neg hs, if_neg (by omega), if_neg (by omega)]; exact ⟨rfl, rfl⟩
    · simp only [hae, show ine (0 : Int) 0 = false from rfl, Bool.false_eq_true, if_false, if_true, ine0_true hfe, hfe]
      exact ⟨trivial, trivial⟩
  · simp only [ine0_true hae, hae, if_true, if_false]
    exact ⟨trivial, trivial⟩
theorem lookE_zero {a f : Fm} (h : lookE a f = 0) : Ans a ∧ f.err = 0 ∧ f.uni = false ∧ f.tr a.nodes ≤ 4096 := by
  unfold lookE at h
  split at h
  · rename_i ha
    split at h
    · rename_i hf
      split at h
      · cases h
      · rename_i hu
        split at h
        · rename_i hl
          split at h
          · cases h
          · exact ⟨⟨(Fm.err_ok ha).1, (Fm.err_ok ha).2, hl⟩, hf, by simpa using hu, by omega⟩
        · cases h
    · exact absurd h (by assumption)
  · exact absurd h (by assumption)
theorem lookE_of {a f : Fm} (ha : Ans a) (hf : f.err = 0) (hu : f.uni = false) (ht : f.tr a.nodes ≤ 4096) : lookE a f = 0 := by
  unfold lookE
  rw [if_pos (Fm.err_of ha.ok ha.nodes), if_pos hf, if_neg (by simp [hu]), if_pos ha.least, if_neg (by omega)]
/-- The translation, where there is one. -/
theorem formula_yes {a f : Fm} (ha : a.wt ≤ 1000000000) (hf : f.wt ≤ 1000000000) (h : lookE a f = 0) :
    ∃ r, tr_formula FU a f 0 = some r ∧ ref20_T FU a f = some r ∧ translate_Formula a f = some (r, 0) ∧ ref20_Formula a f = some (r, 0) ∧ r.ok = true ∧ r.nodes = f.tr a.nodes := by
  obtain ⟨h1, h2, h3, h4⟩ := lookE_zero h
  obtain ⟨hfo, hfn⟩ := Fm.err_ok h2
  obtain ⟨l1, l2⟩ := look_both ha hf
  obtain ⟨r, r1, r2, r3, r4⟩ := T_eq h1 f hfo h3 0 FU FU (by omega) (by rw [FU_eq]; omega) (by rw [FU_eq]; omega) (by omega)
  rw [show ((0 : Nat) : Int) = 0 from rfl, Fm.up_zero] at r2
  refine ⟨r, r1, r2, ?_, ?_, r3, r4⟩
  · unfold translate_Formula
    rw [l1, h, r1]
    simp only [bind1_of, show ine (0 : Int) 0 = false from rfl, Bool.false_eq_true, if_false]
    rw [own_eq r3 (by omega)]
    rfl
  · unfold ref20_Formula
    rw [l2, h, r2]
    simp only [bind1_of, show ine (0 : Int) 0 = false from rfl, Bool.false_eq_true, if_false]
    rw [ref07_Copy' (trSmall_wt r3 (by omega))]
    rfl
theorem formula_no {a f : Fm} (ha : a.wt ≤ 1000000000) (hf : f.wt ≤ 1000000000) (h : ¬ lookE a f = 0) :
    translate_Formula a f = some (Fm.mk 0 (Ty.mk 0 []) [] [], lookE a f) ∧ ref20_Formula a f = some (Fm.mk 0 (Ty.mk 0 []) [] [], lookE a f) := by
  obtain ⟨l1, l2⟩ := look_both ha hf
  unfold translate_Formula ref20_Formula
  rw [l1, l2]
  simp only [bind1_of, ine0_true h, if_true]
  exact ⟨trivial, trivial⟩
theorem formula_both {a f : Fm} (ha : a.wt ≤ 1000000000) (hf : f.wt ≤ 1000000000) : ∃ r e, translate_Formula a f = some (r, e) ∧ ref20_Formula a f = some (r, e) ∧ r.wt ≤ 1000000000 := by
  by_cases h : lookE a f = 0
  · obtain ⟨r, -, -, h1, h2, h3, h4⟩ := formula_yes ha hf h
    obtain ⟨-, -, -, h5⟩ := lookE_zero h
    exact ⟨r, 0, h1, h2, trSmall_wt h3 (by omega)⟩
  · obtain ⟨h1, h2⟩ := formula_no ha hf h
    exact ⟨_, _, h1, h2, by rw [Fm.wt_mk]; have : (Ty.mk 0 []).nodes = 1 := rfl; simp only [sumL]; omega⟩
theorem fmSame_self {x : Fm} (h : x.wt ≤ 1000000000) : ref07_Same FU x x = some true := by
  obtain ⟨r, h1, h2⟩ := ref07_Same_eq FU x x (by rw [FU_eq]; omega) h
  rw [h1, h2.2 rfl]
theorem law20_sane_eq : law20_sane = some true := by
  obtain ⟨n0, a1, a2⟩ := mk_Num_ok 0 (by omega) (by omega)
  obtain ⟨n1, b1, b2⟩ := mk_Num_ok 1 (by omega) (by omega)
  obtain ⟨n2, c1, c2⟩ := mk_Num_ok 2 (by omega) (by omega)
  have w0 := n0.ok_wt (a2 []).1.ok
  have w1 := n1.ok_wt (b2 []).1.ok
  have w2 := n2.ok_wt (c2 []).1.ok
  have l0 := (a2 []).2
  have l1 := (b2 []).2
  have l2 := (c2 []).2
  unfold law20_sane
  rw [a1, b1, c1]
  simp only [bind1_of, joinB_eq]
  rw [Eq_eq (by omega) (by omega), Eq_eq (by omega) (by omega)]
  simp only [bind1_of]
  have t0 : FmTy [] (.mk 1 .z [n0, n0] []) := .eq (a2 []).1 (a2 []).1
  have t1 : FmTy [] (.mk 1 .z [n1, n2] []) := .eq (b2 []).1 (c2 []).1
  have e0 : (Fm.mk 1 .z [n0, n0] []).nodes = 3 := by rw [Fm.nodes_mk]; simp only [sumL]; omega
  have e1 : (Fm.mk 1 .z [n1, n2] []).nodes = 6 := by rw [Fm.nodes_mk]; simp only [sumL]; omega
  have q0 : (Fm.mk 1 .z [n0, n0] []).wt ≤ 1000000 := by have := Fm.ok_wt _ t0.ok; omega
  have q1 : (Fm.mk 1 .z [n1, n2] []).wt ≤ 1000000 := by have := Fm.ok_wt _ t1.ok; omega
  have hl : lookE (.mk 1 .z [n1, n2] []) (.mk 1 .z [n0, n0] []) = 0 := by
    refine lookE_of ⟨t1.ok, by omega, t1.least _ (by rw [e1]; simp)⟩ (Fm.err_of t0.ok (by omega)) ?_ ?_
    · rw [Fm.uni_mk]; simp [Fm.uniL]
    · rw [Fm.tr_mk, if_pos rfl, e1]; simp only [sumL]; omega
  obtain ⟨r, r1, r2, r3, r4, r5, r6⟩ := formula_yes (by omega) (by omega) hl
  rw [r3]
  simp only [bind2_of, show ieq (0 : Int) 0 = true from rfl, if_true]
  obtain ⟨m, hm⟩ : ∃ m, FU = m + 1 := ⟨FU - 1, by rw [FU_eq]⟩
  have hr : r = Fm.mk 3 .z [] [Fm.mk 3 .z [] [.mk 1 .z [n0, n0] [], .mk 1 .z [n1, n2] []], .mk 1 .z [n1, n2] []] := by
    rw [hm, tr_formula] at r1
    simp only [Fm.kind_mk, show ieq (1 : Int) 1 = true from rfl, if_true, tr_ans, bind1_of, translate_imp, tree_Form, Option.some.injEq] at r1
    exact r1.symm
  rw [Two_eq (by omega) (by omega), bind1_of]
  rw [Two_eq (by rw [Fm.wt_mk]; simp only [sumL]; have : Ty.z.nodes = 1 := rfl; omega) (by omega), bind1_of, ← hr, fmSame_self (trSmall_wt r5 (by rw [hr] at r6; rw [hr, r6, Fm.tr_mk, if_pos rfl, e1]; simp only [sumL]; omega))]
  rfl
theorem mk_Pure_ok : ∀ (n k : Nat) (g : List Ty) (d : Smk_Deck), k < n → k ≤ 5 → g.length + k ≤ 500 → CtxOk 3 g → d.wf → FmGood g (fb k) (mk_Pure n d g (k : Int)) := by
  intro n
  induction n with
  | zero => intro k g d h; omega
  | succ n ih =>
    intro k g d hk hk5 hlen hg hd
    rw [mk_Pure]
    refine good_join (G := FmGood g (fb k)) Smk_Deck.wf ?_ ?_
    · intro d1 hd1
      rw [ref01_Nat_eq]
      simp only [bind1_of]
      obtain ⟨a, d2, a1, a2, a3⟩ := mk_Term' 3 (by omega) (by omega) 1 (by omega) g .nat d1 (by omega) hg Ty.nat_err (by rw [Ty.nat_nodes]; omega) hd1
      rw [show ((1 : Nat) : Int) = 1 from rfl] at a1
      rw [a1]
      simp only [bind2_of]
      obtain ⟨b, d3, b1, b2, b3⟩ := mk_Term' 3 (by omega) (by omega) 1 (by omega) g .nat d2 (by omega) hg Ty.nat_err (by rw [Ty.nat_nodes]; omega) a2
      rw [show ((1 : Nat) : Int) = 1 from rfl] at b1
      rw [b1]
      simp only [bind2_of]
      have e : tb 3 1 = 57 := rfl
      rw [e] at a3 b3
      rw [Eq_eq (by have := a3.wt; omega) (by have := b3.wt; omega)]
      refine FmGood.of b2 (.eq a3.ty b3.ty) ?_
      have := a3.nodes; have := b3.nodes
      have h0 : 115 ≤ fb k := by
        clear hk hk5 hlen ih
        induction k with
        | zero => simp [fb]
        | succ k ih => simp only [fb]; omega
      rw [Fm.nodes_mk]; simp only [sumL]; omega
    · intro j hj
      simp only [igt_iff]
      split
      · rename_i hpos
        obtain ⟨m, rfl⟩ : ∃ m, k = m + 1 := ⟨k - 1, by omega⟩
        have e1 : isub .i64 ((m + 1 : Nat) : Int) 1 = (m : Int) := by rw [isub_in (by omega) (by omega)]; omega
        have hbd := fb_bd m (by omega)
        have deep : ∀ g' d', g'.length ≤ g.length + 1 → CtxOk 3 g' → d'.wf → FmGood g' (fb m) (mk_Pure n d' g' (isub .i64 ((m + 1 : Nat) : Int) 1)) := by
          intro g' d' h1 h2 h3
          rw [e1]
          exact ih m g' d' (by omega) (by omega) (by omega) h2 h3
        have ctx : ∀ s : Ty, s.err = 0 → s.nodes ≤ 3 → CtxOk 3 (g ++ [s]) := fun s h1 h2 => hg.app (by intro u hu; rw [List.mem_singleton] at hu; subst hu; exact ⟨h1, h2⟩)
        obtain ⟨x, d2, h1, h2, h3, h4⟩ := next_ok d hd 7 (by omega) (by omega)
        rw [h1]
        simp only [bind2_of, sel_or, Bool.or_eq_true, ieq_iff]
        have two : ∀ kk : Int, kk = 2 ∨ kk = 3 → FmGood g (fb (m + 1)) (bind2 (mk_Pure n d2 g (isub .i64 ((m + 1 : Nat) : Int) 1)) fun x316 d317 => bind2 (mk_Pure n d317 g (isub .i64 ((m + 1 : Nat) : Int) 1)) fun x320 d321 => bind1 (ref07_Two kk x316 x320) fun x324 => some (x324, d321)) := by
          intro kk hkk
          obtain ⟨a, d3, a1, a2, a3⟩ := deep g d2 (by omega) hg h4
          rw [a1]
          simp only [bind2_of]
          obtain ⟨b, d4, b1, b2, b3⟩ := deep g d3 (by omega) hg a2
          rw [b1]
          simp only [bind2_of]
          rw [Two_eq (by have := a3.wt; omega) (by have := b3.wt; omega)]
          refine FmGood.of b2 (.two hkk a3.ty b3.ty) ?_
          have := a3.nodes; have := b3.nodes
          rw [Fm.nodes_mk]; simp only [sumL, fb]; omega
        split
        · exact two 2 (.inl rfl)
        split
        · exact two 3 (.inr rfl)
        have one : ∀ kk : Int, kk = 4 ∨ kk = 5 → FmGood g (fb (m + 1)) (bind2 (mk_Type FU d2 0) fun x413 d414 => bind1 (mk_longer g [x413]) fun x429 => bind2 (mk_Pure n d414 x429 (isub .i64 ((m + 1 : Nat) : Int) 1)) fun x432 d433 => bind1 (ref07_Q kk x413 x432) fun x436 => some (x436, d433)) := by
          intro kk hkk
          obtain ⟨s, d3, s1, s2, s3, s4⟩ := mk_Type' d2 h4 0 (by omega)
          rw [show ((0 : Nat) : Int) = 0 from rfl] at s1
          rw [s1]
          simp only [bind2_of]
          rw [mk_longer_eq g [s] (by simp; omega)]
          simp only [bind1_of]
          obtain ⟨a, d4, a1, a2, a3⟩ := deep (g ++ [s]) d3 (by simp) (ctx s s2 (by omega)) s4
          rw [a1]
          simp only [bind2_of]
          rw [Q_eq (by omega) (by have := a3.wt; omega)]
          refine FmGood.of a2 (.q (by omega) s2 a3.ty) ?_
          have := a3.nodes
          rw [Fm.nodes_mk]; simp only [sumL, fb]; omega
        split
        · exact one 4 (.inl rfl)
        split
        · exact one 5 (.inr rfl)
        · exact hj d2 h4
      · exact hj d hd
theorem forR_fin {α σ ρ τ : Type} {F : Int → α → σ → Option (Ctl σ ρ)} {K : σ ⊕ ρ → Option τ} {r : Option τ} {l : List α} {s : σ} (I : σ → Prop) (hs : I s)
    (h : ∀ (k : Nat) x s, l[k]? = some x → I s → ∃ s', F (k : Int) x s = some (.next s') ∧ I s') (hK : ∀ s, I s → K (.inl s) = r) : bind1 (forR F l 0 s) K = r := by
  obtain ⟨s', h1, h2⟩ := forR_ind I l 0 s hs (fun k x s hk hi => by rw [Nat.zero_add]; exact h k x s hk hi)
  rw [h1, bind1_of]
  exact hK s' h2
theorem forR_next {α ρ : Type} {F : Int → α → Unit → Option (Ctl Unit ρ)} : ∀ {l : List α} {i : Nat}, (∀ j x, x ∈ l → F j x () = some (.next ())) → forR F l i () = some (.inl ())
  | [], i, _ => rfl
  | x :: l, i, h => by
    rw [forR_cons, h _ x (by simp)]
    simp only [bind1_of, ctlK_next]
    exact forR_next fun j y hy => h j y (by simp [hy])
theorem law20_forms_eq (x : Fm) : ∃ r : Int, law20_forms x = some r ∧ 1 ≤ r ∧ r ≤ 20002 ∧ (r ≤ 20000 → r = x.wt) := by
  obtain ⟨r, h1, h2, h3, h4⟩ := mk_CountFormula_eq FU x 20000 (by omega) (by omega) (by rw [FU_eq]; omega)
  refine ⟨r, ?_, h2, by omega, h4⟩
  unfold law20_forms
  rw [h1]
  rfl
theorem law_TranslateDoes (a0 : List Int) (a1 a2 : Fm) : law20_TranslateDoes a0 a1 a2 = some true := by
  obtain ⟨n1, f1, g1, k1, w1⟩ := law20_forms_eq a1
  obtain ⟨n2, f2, g2, k2, w2⟩ := law20_forms_eq a2
  unfold law20_TranslateDoes mk_Few
  rw [law20_sane_eq]
  simp only [bind1_of, if_true, ile_iff, llen_eq, joinB_eq, f1, f2, igt_iff]
  by_cases h : (a0.length : Int) ≤ 500
  · rw [if_pos h]
    by_cases h1 : 400 < n1
    · rw [if_pos h1]
    · rw [if_neg h1]
      by_cases h2 : 400 < n2
      · rw [if_pos h2]
      · rw [if_neg h2]
        have w1 := w1 (by omega)
        have w2 := w2 (by omega)
        unfold mk_New
        simp only [bind1_of]
        have hd : (Smk_Deck.mk a0 0).wf := ⟨by show a0.length ≤ 1000; omega, by show (0 : Int) ≤ 0; omega, by show (0 : Int) ≤ (a0.length : Int); omega⟩
        obtain ⟨g, d, c1, c2, c3, c4⟩ := mk_Context_ok _ hd
        rw [c1]
        simp only [bind2_of]
        obtain ⟨x, d', x1, x2, x3⟩ := mk_Pure_ok FU 1 g d (by rw [FU_eq]; omega) (by omega) (by omega) c4 c2
        rw [show ((1 : Nat) : Int) = 1 from rfl] at x1
        rw [x1]
        simp only [bind2_of]
        obtain ⟨y, d'', y1, y2, y3⟩ := mk_Pure_ok FU 3 g d' (by rw [FU_eq]; omega) (by omega) (by omega) c4 x2
        rw [show ((3 : Nat) : Int) = 3 from rfl] at y1
        rw [y1]
        simp only [bind2_of]
        have hx := x3.wt
        have hy := y3.wt
        have bx := fb_bd 1 (by omega)
        have by' := fb_bd 3 (by omega)
        simp only [okLen_of (l := [a1, x, a2]) (by simp), chk_true]
        refine forR_fin Smk_Deck.wf y2 (fun j p d3 hp hd3 => ?_) fun d5 _ => rfl
        have hp : p.wt ≤ 1000000000 := by
          have hp := List.mem_of_getElem? hp
          simp only [List.mem_cons, List.not_mem_nil, or_false] at hp
          rcases hp with rfl | rfl | rfl <;> omega
        obtain ⟨z, d4, z1, z2, z3⟩ := mk_Formula_ok FU 2 g d3 (by rw [FU_eq]; omega) (by omega) (by omega) c4 hd3
        rw [show ((2 : Nat) : Int) = 2 from rfl] at z1
        have hz := z3.wt
        have bz := fb_bd 2 (by omega)
        rw [z1]
        simp only [bind2_of, okLen_of (l := [a2, y, z]) (by simp), chk_true]
        refine ⟨d4, ?_, z2⟩
        rw [forR_next]
        · rfl
        intro i q hq
        have hq : q.wt ≤ 1000000000 := by
          simp only [List.mem_cons, List.not_mem_nil, or_false] at hq
          rcases hq with rfl | rfl | rfl <;> omega
        obtain ⟨r, e, r1, r2, r3⟩ := formula_both hp hq
        rw [r1, r2]
        simp only [bind2_of, show ine e e = false by simp [ine], Bool.false_eq_true, if_false]
        rw [fmSame_self r3]
        rfl
  · rw [if_neg h]
end Go.Mdl
