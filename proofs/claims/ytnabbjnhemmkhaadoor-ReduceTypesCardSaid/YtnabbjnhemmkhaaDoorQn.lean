/-
  Whichever redexes are reduced first, the normal form is the same.
-/
import Derived.Test.YtnabbjnhemmkhaaDoorQm
import Derived.Test.YtnabbjnhemmkhaaDoorQk
set_option linter.unusedSimpArgs false
set_option linter.unusedVariables false
namespace Go.Mdl
open Go

theorem reduce_Redex_eq {M : Int} (hM : 0 ≤ M ∧ M ≤ 500000000000) {t : Tm} (hw : t.wt ≤ 1000000000) (hs : Sm M t) : reduce_Redex t = some (if t.err = 0 then (t.root, 0) else (false, t.err)) := by
  unfold reduce_Redex
  rw [terms_Check_eq hw]
  simp only [bind1_of]
  by_cases he : t.err = 0
  · rw [if_neg (by simp [ine, he]), if_pos he]
    obtain ⟨p, nh, h1, h2, h3⟩ := From_eq hM FU t [] (by have := hs.nodes; rw [FU_eq]; omega) hs
    rw [h1]
    simp only [bind2_of]
    unfold graph_Node_Redex
    rw [redex_eq h3 hs.ok]
    rfl
  · rw [if_pos (by simp [ine, he]), if_neg he]

theorem reduce_Contract_eq {M : Int} (hM : 0 ≤ M ∧ M ≤ 536870912) {t : Tm} (hw : t.wt ≤ 1000000000) (hs : Sm M t) (he : t.err = 0) (hr : t.root = true) :
    reduce_Contract t = some (if (t.contr.nodes : Int) > 4096 then (Tm.z, 4) else (t.contr, 0)) := by
  unfold reduce_Contract
  rw [reduce_Redex_eq (M := M) (by omega) hw hs, if_pos he]
  have hn := (Tm.err_ok he).2
  simp only [bind2_of, hr, if_true]
  rw [if_neg (by decide), tree_Near_eq hs.ok hs.nodes, (hs.mono hM.2).least]
  simp only [bind1_of, if_true]
  obtain ⟨p, nh, h1, h2, h3⟩ := From_eq (M := M) (by omega) FU t [] (by have := hs.nodes; rw [FU_eq]; omega) hs
  rw [h1]
  simp only [bind2_of]
  unfold graph_Node_Contract
  rw [grown_eq (M := M) (by omega) h3 hs (by omega) hr]
  simp only [bind1_of, igt_iff]
  by_cases hg : (t.contr.nodes : Int) > 4096
  · rw [if_pos hg, if_pos hg]
    simp only [bind3_of]
    rfl
  · rw [if_neg hg, if_neg hg]
    obtain ⟨q, nh2, g1, g2, g3⟩ := contract_eq (M := M) (by omega) h3 hs (by omega) hr
    obtain ⟨c1, c2⟩ := contr_sm hM.1 hs (by omega) hr
    rw [g1]
    simp only [bind2_of, bind3_of, if_true]
    rw [Term_eq (M := M + 8192) nh2 FU t.contr q (by rw [FU_eq]; omega) ⟨c1, c2, by omega⟩ g3]
    rfl

theorem par_set : ∀ (l : List Tm) (a : Nat) (b b' : Tm), (∀ t ∈ l, t.ok = true) → l[a]? = some b → Par b b' → ParL l (l.set a b')
  | [], _, _, _, _, h, _ => by simp at h
  | t :: l, 0, b, b', ho, h, hp => by
    simp at h
    subst h
    exact .cons hp (Par.reflL l fun u hu => ho u (by simp [hu]))
  | t :: l, a + 1, b, b', ho, h, hp => by
    simp only [List.getElem?_cons_succ] at h
    exact .cons (Par.refl t (ho t (by simp))) (par_set l a b b' (fun u hu => ho u (by simp [hu])) h hp)
theorem star_set {k i : Int} {s : Ty} {a : Nat} {b y : Tm} (hs : Star b y) : ∀ {l : List Tm}, (Tm.mk k i s l).ok = true → l[a]? = some b → Star (.mk k i s l) (.mk k i s (l.set a y)) := by
  induction hs with
  | refl b =>
    intro l ho h
    have : l.set a b = l := by
      obtain ⟨hlt, e⟩ := List.getElem?_eq_some_iff.1 h
      rw [← e]; exact List.set_getElem_self hlt
    rw [this]
    exact .refl _
  | @step b b1 y hp _ ih =>
    intro l ho h
    have h1 : Par (.mk k i s l) (.mk k i s (l.set a b1)) := Par.list (par_set l a b b1 (Tm.ok_arg ho) h hp) (Tm.ok_le ho)
    obtain ⟨hlt, e⟩ := List.getElem?_eq_some_iff.1 h
    have h2 := ih (l := l.set a b1) (h1.ok ho) (by rw [List.getElem?_set_self hlt])
    rw [List.set_set] at h2
    exact .step h1 h2
theorem sumL_set (f : Tm → Nat) : ∀ {l : List Tm} {a : Nat} {b : Tm} (y : Tm), l[a]? = some b → sumL f (l.set a y) + f b = sumL f l + f y
  | [], _, _, _, h => by simp at h
  | t :: l, 0, b, y, h => by
    simp at h
    subst h
    simp only [List.set_cons_zero, sumL]
    omega
  | t :: l, a + 1, b, y, h => by
    simp only [List.getElem?_cons_succ] at h
    have := sumL_set f y h
    simp only [List.set_cons_succ, sumL]
    omega

/-- What 'inner' gives. -/
def InnIs (M : Int) (t : Tm) (r : Tm × Bool × Smk_Deck) : Prop := r.2.2.wf ∧ Star t r.1 ∧ r.1.least (M + 8192) = true ∧ r.1.nodes ≤ t.nodes + 4096

theorem inner_eq {M : Int} (hM : 0 ≤ M ∧ M ≤ 100000000) : ∀ (n : Nat) (t : Tm) (d : Smk_Deck), t.nodes ≤ n → t.ok = true → t.least M = true → t.nodes ≤ 100000 → d.wf → ∃ r, law04_inner n d t = some r ∧ InnIs M t r
  | 0, t, d, hn, _, _, _, _ => by have := t.nodes_pos; omega
  | n + 1, t, d, hn, ho, hl, hnn, hd => by
    have hw := Tm.ok_wt t ho
    have hs : Sm M t := ⟨ho, hl, by omega⟩
    rw [law04_inner, reduce_Redex_eq (M := M) (by omega) (by omega) hs]
    simp only [joinB_eq]
    have tail : ∀ d : Smk_Deck, d.wf → ∃ r, (bind2 (mk_Deck_Next d (iadd .i64 (llen t.args) 1)) fun x470 d471 =>
        bind1 (loopN ((un2 fun (v779 : Int) (v780 : Smk_Deck) =>
          if (ilt v779 (llen t.args)) = true then (
          bind1 (lget t.args v779) fun x900 =>
          bind3 (law04_inner n v780 x900) fun x903 x904 d905 =>
          if x904 = true then (
          chk (okNew t.args) <|
          bind1 (lget t.args v779) fun x943 =>
          some (.ret ((Tm.mk t.kind t.index t.typeF (lset t.args v779 x903)), true, d905)))
          else (
          some (.next ((iadd .i64 v779 1), d905))))
          else (
          some (.brk (v779, v780)))) : (Int × Smk_Deck) → (Option (Ctl (Int × Smk_Deck) (Tm × Bool × Smk_Deck)))) FU (x470, d471)) (sumK (un2 fun (v779 : Int) (v780 : Smk_Deck) =>
          some (t, false, v780)) (fun r => some r))) = some r ∧ InnIs M t r := by
      intro d hd
      obtain ⟨k, i, s, l⟩ := t
      have hlen : l.length ≤ 3 := Tm.ok_le ho
      show ∃ r, (bind2 (mk_Deck_Next d (iadd .i64 (llen l) 1)) fun x470 d471 =>
        bind1 (loopN ((un2 fun (v779 : Int) (v780 : Smk_Deck) =>
          if (ilt v779 (llen l)) = true then (
          bind1 (lget l v779) fun x900 =>
          bind3 (law04_inner n v780 x900) fun x903 x904 d905 =>
          if x904 = true then (
          chk (okNew l) <|
          bind1 (lget l v779) fun x943 =>
          some (.ret ((Tm.mk k i s (lset l v779 x903)), true, d905)))
          else (
          some (.next ((iadd .i64 v779 1), d905))))
          else (
          some (.brk (v779, v780)))) : (Int × Smk_Deck) → (Option (Ctl (Int × Smk_Deck) (Tm × Bool × Smk_Deck)))) FU (x470, d471)) (sumK (un2 fun (v779 : Int) (v780 : Smk_Deck) =>
          some (Tm.mk k i s l, false, v780)) (fun r => some r))) = some r ∧ InnIs M (Tm.mk k i s l) r
      have hll : llen l = (l.length : Int) := llen_eq l
      rw [iadd_in (by omega) (by omega)]
      obtain ⟨x, d1, x1, x2, x3, x4⟩ := next_ok d hd (llen l + 1) (by omega) (by omega)
      rw [x1]
      simp only [bind2_of]
      obtain ⟨o, h1, h2⟩ := loopN_inv (ρ := Tm × Bool × Smk_Deck) (F := un2 fun (v779 : Int) (v780 : Smk_Deck) =>
          if (ilt v779 (llen l)) = true then (
          bind1 (lget l v779) fun x900 =>
          bind3 (law04_inner n v780 x900) fun x903 x904 d905 =>
          if x904 = true then (
          chk (okNew l) <|
          bind1 (lget l v779) fun x943 =>
          some (.ret ((Tm.mk k i s (lset l v779 x903)), true, d905)))
          else (
          some (.next ((iadd .i64 v779 1), d905))))
          else (
          some (.brk (v779, v780))))
        (fun st => 0 ≤ st.1 ∧ st.1 ≤ (l.length : Int) ∧ st.2.wf)
        (fun st => ((l.length : Int) - st.1).toNat)
        (fun o => match o with | .inl st => st.2.wf | .inr r => InnIs M (Tm.mk k i s l) r)
        (by
          rintro ⟨a, e⟩ ⟨q1, q2, q3⟩
          simp only at q1 q2 q3
          by_cases ha : a < llen l
          · simp only [un2_mk, ilt_iff, ha, if_true]
            obtain ⟨b, hb⟩ : ∃ b, l[a.toNat]? = some b := ⟨_, List.getElem?_eq_getElem (by omega)⟩
            have hbl : b ∈ l := List.mem_of_getElem? hb
            have hlg : lget l a = some b := by unfold lget; rw [if_pos (by omega)]; exact hb
            have hno := hs.arg b hbl
            have hbn : b.nodes < (Tm.mk k i s l).nodes := by
              rw [Tm.nodes_mk]
              have := sumL_mem Tm.nodes hbl
              omega
            obtain ⟨⟨y, c, e2⟩, r1, r2, r3, r4, r5⟩ := inner_eq hM n b e (by omega) hno.ok hno.least (by omega) q3
            simp only at r2 r3 r4 r5
            simp only [hlg, bind1_of, r1, bind3_of]
            cases c with
            | false =>
              left
              refine ⟨_, by rw [if_neg (by decide)], ⟨?_, ?_, r2⟩, ?_⟩
              · rw [iadd_in (by omega) (by omega)]; show 0 ≤ a + 1; omega
              · rw [iadd_in (by omega) (by omega)]; show a + 1 ≤ (l.length : Int); omega
              · rw [iadd_in (by omega) (by omega)]; show ((l.length : Int) - (a + 1)).toNat < ((l.length : Int) - a).toNat; omega
            | true =>
              right; right
              refine ⟨_, by rw [if_pos rfl, show okNew l = true by unfold okNew lim; exact decide_eq_true (by omega), chk_true], r2, ?_, ?_, ?_⟩
              · exact star_set r3 ho hb
              · show (Tm.mk k i s (l.set a.toNat y)).least (M + 8192) = true
                refine Tm.least_same ((hs.mono (by omega)).least) ?_
                intro u hu
                rcases List.mem_or_eq_of_mem_set hu with h | h
                · exact ((hs.arg u h).mono (by omega)).least
                · rw [h]; exact r4
              · show (Tm.mk k i s (l.set a.toNat y)).nodes ≤ _
                rw [Tm.nodes_mk, Tm.nodes_mk]
                have := sumL_set Tm.nodes y hb
                omega
          · right; left
            exact ⟨_, by simp only [un2_mk, ilt_iff, ha, if_false]; rfl, q3⟩)
        FU (x, d1) ⟨x2, by show x ≤ (l.length : Int); omega, x4⟩ (by rw [FU_eq]; show ((l.length : Int) - x).toNat < _; omega)
      rw [h1]
      cases o with
      | inl st =>
        obtain ⟨a, e⟩ := st
        exact ⟨_, rfl, h2, .refl _, (hs.mono (by omega)).least, by show (Tm.mk k i s l).nodes ≤ _; omega⟩
      | inr r => exact ⟨_, rfl, h2⟩
    by_cases he : t.err = 0
    · rw [if_pos he, bind2_of]
      rw [if_pos (by decide)]
      by_cases hr : t.root = true
      · rw [if_pos hr]
        obtain ⟨x, d1, x1, x2, x3, x4⟩ := next_ok d hd 2 (by omega) (by omega)
        rw [x1]
        simp only [bind2_of]
        by_cases hx : ieq x 0 = true
        · rw [if_pos hx, reduce_Contract_eq (M := M) (by omega) (by omega) hs he hr]
          by_cases hg : (t.contr.nodes : Int) > 4096
          · rw [if_pos hg]
            simp only [bind2_of]
            rw [if_neg (by decide)]
            exact tail d1 x4
          · rw [if_neg hg]
            simp only [bind2_of]
            rw [if_pos (by decide)]
            have hn8 := (Tm.err_ok he).2
            obtain ⟨c1, c2⟩ := contr_sm hM.1 hs (by omega) hr
            exact ⟨_, rfl, x4, .step (Par.contr ho hr) (.refl _), c2, by show t.contr.nodes ≤ _; omega⟩
        · rw [if_neg hx]
          exact tail d1 x4
      · rw [if_neg hr]
        rw [if_neg (by decide)]
        exact tail d hd
    · rw [if_neg he, bind2_of]
      rw [if_neg (by simpa [ieq] using he), if_neg (by decide)]
      exact tail d hd

theorem norm_code {t : Tm} (h : Sm 536870912 t) (steps : Int) (h0 : 0 ≤ steps ∧ steps ≤ 65536) :
    ∃ a n e, reduce_Normal t steps = some (a, n, e) ∧ (e = 0 ∨ e = 4 ∨ e = 5) ∧ (e = 0 → Fit t ∧ t.norm steps.toNat 0 = (a, n, 0)) := by
  have hw := Tm.ok_wt t h.ok
  have hn := h.nodes
  rw [reduce_Normal_eq (by omega)]
  by_cases he : t.err = 0
  · rw [if_pos he, if_pos ⟨h0.1, h0.2, h.least⟩]
    refine ⟨_, _, _, rfl, norm_err _ _ _, fun e => ⟨⟨he, by omega, h.least⟩, ?_⟩⟩
    generalize t.norm steps.toNat 0 = o at e
    obtain ⟨a, n, f⟩ := o
    simp only at e
    subst e
    rfl
  · rw [if_neg he]
    refine ⟨_, _, _, rfl, ?_, fun e => absurd e he⟩
    unfold Tm.err at he ⊢
    rw [if_pos h.ok] at he ⊢
    split
    · exact .inr (.inl rfl)
    · exact .inl rfl

theorem law_ReduceUnique (l : List Int) : law04_ReduceUnique l = some true := by
  unfold law04_ReduceUnique
  simp only [sane_true, bind1_of, if_true, mk_Few_eq]
  by_cases hl : l.length ≤ 500
  · rw [if_pos (by simpa using hl)]
    obtain ⟨g, d1, g1, g2, g3, g4⟩ := mk_Context_ok ⟨l, 0⟩ (new_wf l (by omega))
    obtain ⟨s, d2, s1, s2, s3, s4⟩ := mk_Type' d1 g2 1 (by omega)
    rw [show ((1 : Nat) : Int) = 1 from rfl] at s1
    have hs3 : s.nodes ≤ 3 := by omega
    obtain ⟨x, d3, x1, x2, x3, x4⟩ := mk_Term3 3 (by omega) (by omega) g s d2 (by omega) g4 s2 hs3 s4 3 (by omega)
    rw [show ((3 : Nat) : Int) = 3 from rfl] at x1
    have hmx : Made x := x3.made (by omega) (by omega)
    simp only [mk_New, bind1_of, g1, bind2_of, s1, x1, joinB_eq]
    obtain ⟨o, h1, h2⟩ := loopN_inv (ρ := Bool) (F := un7 fun (v302 : Int) (v303 : Int) (v304 : Int) (v305 : Int) (v306 : (List Ty)) (v307 : (List Tm)) (v308 : Smk_Deck) =>
        if (ilt v302 5) = true then (
        bind3 (law04_inner FU v308 (Tm.mk v303 v304 (Ty.mk v305 v306) v307)) fun x362 x363 d364 =>
        some (.next ((iadd .i64 v302 1), x362.kind, x362.index, x362.typeF.kind, x362.typeF.args, x362.args, d364)))
        else (
        some (.brk (v302, v303, v304, v305, v306, v307, v308))))
      (fun st => 0 ≤ st.1 ∧ st.1 ≤ 5 ∧ Star x (Tm.mk st.2.1 st.2.2.1 (Ty.mk st.2.2.2.1 st.2.2.2.2.1) st.2.2.2.2.2.1) ∧ (Tm.mk st.2.1 st.2.2.1 (Ty.mk st.2.2.2.1 st.2.2.2.2.1) st.2.2.2.2.2.1).least (1000000 + 8192 * st.1) = true ∧ ((Tm.mk st.2.1 st.2.2.1 (Ty.mk st.2.2.2.1 st.2.2.2.2.1) st.2.2.2.2.2.1).nodes : Int) ≤ 1000 + 4096 * st.1 ∧ st.2.2.2.2.2.2.wf)
      (fun st => (5 - st.1).toNat)
      (fun o => match o with | .inl st => Star x (Tm.mk st.2.1 st.2.2.1 (Ty.mk st.2.2.2.1 st.2.2.2.2.1) st.2.2.2.2.2.1) ∧ Sm 536870912 (Tm.mk st.2.1 st.2.2.1 (Ty.mk st.2.2.2.1 st.2.2.2.2.1) st.2.2.2.2.2.1) | .inr _ => False)
      (by
        rintro ⟨i, b, c, d, e, f, dk⟩ ⟨h1, h2, h3, h4, h5, h6⟩
        simp only at h1 h2 h3 h4 h5 h6
        generalize hz : Tm.mk b c (Ty.mk d e) f = z at h3 h4 h5
        have hoz := h3.ok hmx.ok
        by_cases hi : i < 5
        · left
          obtain ⟨⟨y, q, dk'⟩, r1, r2, r3, r4, r5⟩ := inner_eq (M := 1000000 + 8192 * i) (by omega) FU z dk (by rw [FU_eq]; omega) hoz h4 (by omega) h6
          simp only at r2 r3 r4 r5
          refine ⟨_, by simp only [un7_mk, ilt_iff, hi, if_true, hz, r1, bind3_of]; rfl, ⟨?_, ?_, ?_, ?_, ?_, r2⟩, ?_⟩
          · rw [iadd_in (by omega) (by omega)]; show 0 ≤ i + 1; omega
          · rw [iadd_in (by omega) (by omega)]; show i + 1 ≤ 5; omega
          · show Star x (Tm.mk y.kind y.index (Ty.mk y.typeF.kind y.typeF.args) y.args)
            rw [tm_eta]; exact h3.trans r3
          · rw [iadd_in (by omega) (by omega)]
            show (Tm.mk y.kind y.index (Ty.mk y.typeF.kind y.typeF.args) y.args).least (1000000 + 8192 * (i + 1)) = true
            rw [tm_eta, show 1000000 + 8192 * (i + 1) = 1000000 + 8192 * i + 8192 by omega]; exact r4
          · rw [iadd_in (by omega) (by omega)]
            show ((Tm.mk y.kind y.index (Ty.mk y.typeF.kind y.typeF.args) y.args).nodes : Int) ≤ 1000 + 4096 * (i + 1)
            rw [tm_eta]; omega
          · rw [iadd_in (by omega) (by omega)]; show (5 - (i + 1)).toNat < (5 - i).toNat; omega
        · right; left
          refine ⟨_, by simp only [un7_mk, ilt_iff, hi, if_false]; rfl, ?_, ?_⟩
          · show Star x (Tm.mk b c (Ty.mk d e) f)
            rw [hz]; exact h3
          · show Sm 536870912 (Tm.mk b c (Ty.mk d e) f)
            rw [hz]; exact ⟨hoz, Tm.least_mono z (by omega) h4, by omega⟩)
      FU (0, x.kind, x.index, x.typeF.kind, x.typeF.args, x.args, d3) ⟨by simp, by simp, by
        show Star x (Tm.mk x.kind x.index (Ty.mk x.typeF.kind x.typeF.args) x.args)
        rw [tm_eta]; exact .refl _, by
        show (Tm.mk x.kind x.index (Ty.mk x.typeF.kind x.typeF.args) x.args).least (1000000 + 8192 * 0) = true
        rw [tm_eta]; exact x3.least _ (by omega), by
        show ((Tm.mk x.kind x.index (Ty.mk x.typeF.kind x.typeF.args) x.args).nodes : Int) ≤ 1000 + 4096 * 0
        rw [tm_eta]; omega, x2⟩ (by rw [FU_eq]; show ((5 : Int) - 0).toNat < _; omega)
    rw [h1]
    cases o with
    | inr r => exact h2.elim
    | inl st =>
      obtain ⟨i, b, c, d, e, f, dk⟩ := st
      obtain ⟨h3, h4⟩ := h2
      simp only at h3 h4
      simp only [bind1_of, sumK_inl, un7_mk]
      generalize Tm.mk b c (Ty.mk d e) f = z at h3 h4
      obtain ⟨p, m, ex, n1, n2, n3⟩ := norm_code (t := x) ⟨hmx.ok, hmx.least, by have := hmx.nodes; omega⟩ 400 (by omega)
      obtain ⟨q, n, ez, m1, m2, m3⟩ := norm_code h4 400 (by omega)
      rw [n1, m1]
      simp only [bind3_of]
      by_cases h0 : ex = 0 ∧ ez = 0
      · obtain ⟨rfl, rfl⟩ := h0
        rw [if_neg (by decide)]
        obtain ⟨fx, nx⟩ := n3 rfl
        obtain ⟨fz, nz⟩ := m3 rfl
        have hp := norm_star _ _ _ _ _ hmx.ok nx
        have hq := h3.trans (norm_star _ _ _ _ _ (h3.ok hmx.ok) nz)
        have np := (norm_ok _ _ _ _ _ nx).1
        have nq := (norm_ok _ _ _ _ _ nz).1
        obtain rfl := hp.unique hmx.ok hq np nq
        obtain ⟨c, c1, c2, _⟩ := match_eq fx fz (steps := 400) (by omega)
        have hc : c = 0 := c2.2 (.inr ⟨p, m, n, nx, nz⟩)
        subst hc
        have hpo := hp.ok hmx.ok
        obtain ⟨a5, a6⟩ := norm_sm _ 536870912 _ _ _ _ (by omega) fx.sm.1 fx.sm.2 nx
        have hpw := Tm.ok_wt p hpo
        rw [c1]
        simp only [bind1_of]
        rw [ref02_Same_self (by omega)]
        rfl
      · rw [if_pos (by
          by_cases he : ex = 0
          · have : ez ≠ 0 := fun h => h0 ⟨he, h⟩
            simp [ine, he, this]
          · simp [ine, he])]
        rcases n2 with rfl | rfl | rfl <;> rcases m2 with rfl | rfl | rfl <;> first | rfl | exact absurd ⟨rfl, rfl⟩ h0
  · rw [if_neg (by simpa using hl)]
end Go.Mdl
