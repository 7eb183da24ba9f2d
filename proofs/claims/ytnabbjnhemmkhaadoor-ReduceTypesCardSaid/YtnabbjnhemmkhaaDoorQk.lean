/-
  Terms that match.
-/
import Derived.Test.YtnabbjnhemmkhaaDoorQg
set_option linter.unusedSimpArgs false
set_option linter.unusedVariables false
namespace Go.Mdl
open Go

/-- What the checks want. -/
structure Fit (t : Tm) : Prop where
  err : t.err = 0
  wt : t.wt ≤ 1000000000
  least : t.least 536870912 = true
theorem Made.fit {t : Tm} (h : Made t) : Fit t := ⟨h.err, h.wt, h.least⟩
theorem Fit.sm {t : Tm} (h : Fit t) : Sm 536870912 t ∧ t.nodes ≤ 4096 := by
  obtain ⟨h1, h2⟩ := Tm.err_ok h.err
  exact ⟨⟨h1, h.least, by omega⟩, h2⟩
theorem Fit.normal {t : Tm} (h : Fit t) {steps : Int} (h0 : 0 ≤ steps ∧ steps ≤ 65536) : reduce_Normal t steps = some (t.norm steps.toNat 0) := by
  rw [reduce_Normal_eq h.wt, if_pos h.err, if_pos ⟨h0.1, h0.2, h.least⟩]

/-- Two terms that are the same, or have one normal form. -/
def Meet (k : Nat) (a b : Tm) : Prop := a = b ∨ ∃ z m n, a.norm k 0 = (z, m, 0) ∧ b.norm k 0 = (z, n, 0)
theorem Meet.symm {k : Nat} {a b : Tm} (h : Meet k a b) : Meet k b a := by
  rcases h with h | ⟨z, m, n, h1, h2⟩
  · exact .inl h.symm
  · exact .inr ⟨z, n, m, h2, h1⟩

theorem match_eq {a b : Tm} (ha : Fit a) (hb : Fit b) {steps : Int} (h0 : 0 ≤ steps ∧ steps ≤ 65536) :
    ∃ c, reduce_Match a b steps = some c ∧ (c = 0 ↔ Meet steps.toNat a b) ∧ (c = 0 ∨ c = 4 ∨ c = 5 ∨ ∃ p q m n, a.norm steps.toNat 0 = (p, m, 0) ∧ b.norm steps.toNat 0 = (q, n, 0) ∧ p ≠ q) := by
  unfold reduce_Match
  rw [terms_Check_eq ha.wt, terms_Check_eq hb.wt]
  obtain ⟨r, r1, r2⟩ := terms_Same_eq (b := b) ha.wt
  simp only [bind1_of, ha.err, hb.err, r1, ha.normal h0, hb.normal h0]
  rw [if_neg (by decide), if_neg (by decide)]
  by_cases hr : r = true
  · rw [if_pos hr]
    exact ⟨0, rfl, ⟨fun _ => .inl (r2.1 hr), fun _ => rfl⟩, .inl rfl⟩
  · rw [if_neg hr]
    have hne : a ≠ b := fun h => hr (r2.2 h)
    generalize hna : a.norm steps.toNat 0 = oa
    generalize hnb : b.norm steps.toNat 0 = ob
    obtain ⟨p, m, e⟩ := oa
    obtain ⟨q, n, f⟩ := ob
    have hea : e = 0 ∨ e = 4 ∨ e = 5 := by have := norm_err steps.toNat 0 a; rw [hna] at this; exact this
    have heb : f = 0 ∨ f = 4 ∨ f = 5 := by have := norm_err steps.toNat 0 b; rw [hnb] at this; exact this
    simp only [bind3_of]
    by_cases he : e = 0
    · subst he
      rw [if_neg (by decide)]
      by_cases hf : f = 0
      · subst hf
        rw [if_neg (by decide)]
        obtain ⟨hp1, hp2⟩ := norm_sm _ 536870912 _ _ _ _ (by omega) ha.sm.1 ha.sm.2 hna
        have hpw := Tm.ok_wt p hp1.ok
        obtain ⟨s, s1, s2⟩ := terms_Same_eq (a := p) (b := q) (by omega)
        rw [s1]
        simp only [bind1_of]
        by_cases hs : s = true
        · rw [if_pos hs]
          obtain rfl := s2.1 hs
          exact ⟨0, rfl, ⟨fun _ => .inr ⟨p, m, n, hna, hnb⟩, fun _ => rfl⟩, .inl rfl⟩
        · rw [if_neg hs]
          have hpq : p ≠ q := fun h => hs (s2.2 h)
          refine ⟨11, rfl, ⟨fun h => absurd h (by decide), fun h => ?_⟩, .inr (.inr (.inr ⟨p, q, m, n, rfl, rfl, hpq⟩))⟩
          rcases h with h | ⟨z, m', n', h1, h2⟩
          · exact absurd h hne
          · rw [hna] at h1
            rw [hnb] at h2
            obtain ⟨e1, _⟩ := Prod.mk.inj h1
            obtain ⟨e2, _⟩ := Prod.mk.inj h2
            exact absurd (e1.trans e2.symm) hpq
      · rw [if_pos (by simp [ine, hf])]
        refine ⟨f, rfl, ⟨fun h => absurd h hf, fun h => ?_⟩, by rcases heb with h | h | h <;> simp [h]⟩
        rcases h with h | ⟨z, m', n', h1, h2⟩
        · exact absurd h hne
        · rw [hnb] at h2
          obtain ⟨_, e2⟩ := Prod.mk.inj h2
          exact (Prod.mk.inj e2).2
    · rw [if_pos (by simp [ine, he])]
      refine ⟨e, rfl, ⟨fun h => absurd h he, fun h => ?_⟩, by rcases hea with h | h | h <;> simp [h]⟩
      rcases h with h | ⟨z, m', n', h1, h2⟩
      · exact absurd h hne
      · rw [hna] at h1
        obtain ⟨_, e2⟩ := Prod.mk.inj h1
        exact (Prod.mk.inj e2).2

/-- The count at which a normal form is begun is added alone. -/
theorem norm_shift : ∀ (k : Nat) (m : Int) (t a : Tm) (n : Int), t.norm k m = (a, n, 0) → ∀ m', t.norm k m' = (a, n - m + m', 0)
  | 0, m, t, a, n, h, m' => by
    rw [Tm.norm] at h ⊢
    split at h
    · rename_i hnf
      rw [if_pos hnf]
      obtain ⟨e1, h⟩ := Prod.mk.inj h
      obtain ⟨rfl, _⟩ := Prod.mk.inj h
      rw [e1, show m - m + m' = m' by omega]
    · cases h
  | k + 1, m, t, a, n, h, m' => by
    rw [Tm.norm] at h ⊢
    split at h
    · cases h
    · rename_i hs
      obtain ⟨e1, h⟩ := Prod.mk.inj h
      obtain ⟨rfl, _⟩ := Prod.mk.inj h
      rw [e1, show m - m + m' = m' by omega]
    · rename_i t' hs
      have := norm_shift k (m + 1) t' a n h (m' + 1)
      rw [show n - (m + 1) + (m' + 1) = n - m + m' by omega] at this
      exact this

/-- What a term becomes by some steps. -/
def Aft (x z : Tm) (j : Nat) : Prop := ∀ k : Nat, x.norm (k + j) 0 = z.norm k j
theorem Aft.meet {x z : Tm} {j k : Nat} (h : Aft x z j) (hj : j ≤ k) {a : Tm} {n : Int} (hn : x.norm k 0 = (a, n, 0)) : ∃ n', z.norm k 0 = (a, n', 0) := by
  have h1 := h (k - j)
  rw [show k - j + j = k by omega, hn] at h1
  have h2 := norm_shift _ _ _ _ _ h1.symm 0
  obtain ⟨a1, a2, a3, a4, _⟩ := norm_ok _ _ _ _ _ h2
  exact ⟨_, a4 k (by omega)⟩

structure Walk (x z : Tm) (i : Int) : Prop where
  aft : ∃ j : Nat, (j : Int) ≤ i ∧ Aft x z j
  sm : Sm (1000000 + 8192 * i) z
  nodes : z.nodes ≤ 4096
theorem Walk.fit {x z : Tm} {i : Int} (h : Walk x z i) (hi : i ≤ 300) : Fit z := by
  have hw := Tm.ok_wt z h.sm.ok
  have := h.nodes
  refine ⟨?_, by omega, (h.sm.mono (by omega)).least⟩
  unfold Tm.err
  rw [if_pos h.sm.ok, if_neg (by omega)]

theorem tm_eta (x : Tm) : Tm.mk x.kind x.index (Ty.mk x.typeF.kind x.typeF.args) x.args = x := by
  cases x with
  | mk k i s l => cases s; rfl

theorem law_ReduceMatches (l : List Int) (steps : Int) (hsteps : 0 ≤ steps ∧ steps < 256) : law04_ReduceMatches l steps = some true := by
  unfold law04_ReduceMatches
  simp only [sane_true, bind1_of, if_true, mk_Few_eq]
  by_cases hl : l.length ≤ 500
  · rw [if_pos (by simpa using hl)]
    obtain ⟨g, d1, g1, g2, g3, g4⟩ := mk_Context_ok ⟨l, 0⟩ (new_wf l (by omega))
    obtain ⟨s, d2, s1, s2, s3, s4⟩ := mk_Type' d1 g2 1 (by omega)
    rw [show ((1 : Nat) : Int) = 1 from rfl] at s1
    have hs3 : s.nodes ≤ 3 := by omega
    obtain ⟨x, d3, x1, x2, x3, x4⟩ := mk_Term3 3 (by omega) (by omega) g s d2 (by omega) g4 s2 hs3 s4 3 (by omega)
    rw [show ((3 : Nat) : Int) = 3 from rfl] at x1
    obtain ⟨y, d4, y1, y2, y3, y4⟩ := mk_Term3 3 (by omega) (by omega) g s d3 (by omega) g4 s2 hs3 x2 2 (by omega)
    rw [show ((2 : Nat) : Int) = 2 from rfl] at y1
    have hmx : Made x := x3.made (by omega) (by omega)
    have hmy : Made y := y3.made (by omega) (by omega)
    simp only [mk_New, bind1_of, g1, bind2_of, s1, x1, y1, joinB_eq, show okDiv 6 = true from rfl, chk_true]
    have hN : conv .i64 (irem .u8 steps 6) ≤ 5 := by
      unfold irem conv
      rw [Int.tmod_eq_emod_of_nonneg hsteps.1, IntKind.wrap_i64]
      omega
    generalize conv .i64 (irem .u8 steps 6) = N at hN
    have hx0 : Walk x x 0 := ⟨⟨0, by omega, fun k => rfl⟩, ⟨hmx.ok, x3.least _ (by omega), by have := hmx.nodes; omega⟩, by have := hmx.nodes; omega⟩
    obtain ⟨o, h1, h2⟩ := loopN_inv (ρ := Bool) (F := un6 fun (v581 : Int) (v582 : Int) (v583 : Int) (v584 : Int) (v585 : (List Ty)) (v586 : (List Tm)) =>
        if (ilt v581 N) = true then (
        bind3 (reduce_Step (Tm.mk v582 v583 (Ty.mk v584 v585) v586)) fun x678 x679 x680 =>
        if (ine x680 0) = true then (
        some (.ret (ieq x680 4)))
        else (
        some (.next ((iadd .i64 v581 1), x678.kind, x678.index, x678.typeF.kind, x678.typeF.args, x678.args))))
        else (
        some (.brk (v581, v582, v583, v584, v585, v586))))
      (fun s => 0 ≤ s.1 ∧ s.1 ≤ 6 ∧ Walk x (Tm.mk s.2.1 s.2.2.1 (Ty.mk s.2.2.2.1 s.2.2.2.2.1) s.2.2.2.2.2) s.1)
      (fun s => (6 - s.1).toNat)
      (fun o => match o with | .inl s => 0 ≤ s.1 ∧ s.1 ≤ 6 ∧ Walk x (Tm.mk s.2.1 s.2.2.1 (Ty.mk s.2.2.2.1 s.2.2.2.2.1) s.2.2.2.2.2) s.1 | .inr r => r = true)
      (by
        rintro ⟨i, b, c, d, e, f⟩ ⟨h1, h2, h3⟩
        simp only at h1 h2 h3
        by_cases hi : i < N
        · have hf := h3.fit (by omega)
          simp only [un6_mk, ilt_iff, hi, if_true]
          rw [reduce_Step_eq hf.wt, if_pos hf.err, if_pos hf.least]
          generalize Tm.mk b c (Ty.mk d e) f = z at h3 hf
          obtain ⟨⟨j, j1, j2⟩, w2, w3⟩ := h3
          cases hst : z.stp (4096 - z.nodes) with
          | none =>
            right; right
            exact ⟨true, rfl, rfl⟩
          | some o =>
            cases o with
            | none =>
              left
              refine ⟨_, rfl, ⟨?_, ?_, ?_⟩, ?_⟩
              · rw [iadd_in (by omega) (by omega)]; show 0 ≤ i + 1; omega
              · rw [iadd_in (by omega) (by omega)]; show i + 1 ≤ 6; omega
              · rw [iadd_in (by omega) (by omega)]
                show Walk x (Tm.mk z.kind z.index (Ty.mk z.typeF.kind z.typeF.args) z.args) (i + 1)
                rw [tm_eta]
                exact ⟨⟨j, by omega, j2⟩, w2.mono (by omega), w3⟩
              · rw [iadd_in (by omega) (by omega)]; show (6 - (i + 1)).toNat < (6 - i).toNat; omega
            | some z' =>
              left
              refine ⟨_, rfl, ⟨?_, ?_, ?_⟩, ?_⟩
              · rw [iadd_in (by omega) (by omega)]; show 0 ≤ i + 1; omega
              · rw [iadd_in (by omega) (by omega)]; show i + 1 ≤ 6; omega
              · rw [iadd_in (by omega) (by omega)]
                show Walk x (Tm.mk z'.kind z'.index (Ty.mk z'.typeF.kind z'.typeF.args) z'.args) (i + 1)
                rw [tm_eta]
                obtain ⟨q1, q2, q3⟩ := stp_sm (by omega) z w2 (by omega) z' hst
                refine ⟨⟨j + 1, by omega, fun k => ?_⟩, ⟨q1, ?_, by omega⟩, by omega⟩
                · have := j2 (k + 1)
                  rw [norm_more hst] at this
                  rw [show k + (j + 1) = k + 1 + j by omega, this]
                  rfl
                · rw [show 1000000 + 8192 * (i + 1) = 1000000 + 8192 * i + 8192 by omega]
                  exact q2
              · rw [iadd_in (by omega) (by omega)]; show (6 - (i + 1)).toNat < (6 - i).toNat; omega
        · right; left
          exact ⟨_, by simp only [un6_mk, ilt_iff, hi, if_false]; rfl, h1, h2, h3⟩)
      FU (0, x.kind, x.index, x.typeF.kind, x.typeF.args, x.args) ⟨by simp, by simp, by
        show Walk x (Tm.mk x.kind x.index (Ty.mk x.typeF.kind x.typeF.args) x.args) 0
        rw [tm_eta]
        exact hx0⟩ (by rw [FU_eq]; show ((6 : Int) - 0).toNat < _; omega)
    rw [h1]
    cases o with
    | inr r => simp only at h2; subst h2; rfl
    | inl st =>
      obtain ⟨i, b, c, d, e, f⟩ := st
      obtain ⟨h3, h4, h5⟩ := h2
      simp only at h3 h4 h5
      simp only [bind1_of, sumK_inl, un6_mk]
      have hf := h5.fit (by omega)
      generalize Tm.mk b c (Ty.mk d e) f = z at h5 hf
      obtain ⟨c1, m1, m2, _⟩ := match_eq hmx.fit hmy.fit (steps := 300) (by omega)
      obtain ⟨c2, n1, n2, _⟩ := match_eq hmy.fit hmx.fit (steps := 300) (by omega)
      obtain ⟨c3, k1, k2, k3⟩ := match_eq hmx.fit hf (steps := 300) (by omega)
      obtain ⟨c4, l1, l2, _⟩ := match_eq hmx.fit hmx.fit (steps := 0) (by omega)
      have hc4 : c4 = 0 := l2.2 (.inl rfl)
      subst hc4
      simp only [m1, n1, k1, l1, bind1_of]
      have hcc : c1 = 0 ↔ c2 = 0 := ⟨fun h => n2.2 (m2.1 h).symm, fun h => m2.2 (n2.1 h).symm⟩
      rw [if_neg (by
        by_cases h : c1 = 0
        · rw [bneB_iff]; simp [ieq, h, hcc.1 h]
        · have : c2 ≠ 0 := fun h' => h (hcc.2 h')
          rw [bneB_iff, ieq_dec, ieq_dec, decide_eq_false h, decide_eq_false this]
          simp)]
      rw [if_neg (by decide)]
      rcases k3 with rfl | rfl | rfl | ⟨p, q, m, n, e1, e2, e3⟩
      · rfl
      · rfl
      · rfl
      · obtain ⟨⟨j, j1, j2⟩, _, _⟩ := h5
        obtain ⟨n', e4⟩ := j2.meet (k := (300 : Int).toNat) (by omega) e1
        rw [e4] at e2
        exact absurd (Prod.mk.inj e2).1 e3
  · rw [if_neg (by simpa using hl)]
end Go.Mdl
