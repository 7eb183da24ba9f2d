/-
  Laws about normal forms: more steps, and matching.
-/
import Derived.Test.YtnabbjnhemmkhaaDoorQf
import Derived.Test.YtnabbjnhemmkhaaDoorPi
import Derived.Test.YtnabbjnhemmkhaaDoorQs
set_option linter.unusedSimpArgs false
set_option linter.unusedVariables false
namespace Go.Mdl
open Go

theorem norm_err : ∀ (k : Nat) (m : Int) (t : Tm), (t.norm k m).2.2 = 0 ∨ (t.norm k m).2.2 = 4 ∨ (t.norm k m).2.2 = 5
  | 0, m, t => by
    rw [Tm.norm]
    split
    · exact .inl rfl
    · exact .inr (.inr rfl)
  | k + 1, m, t => by
    rw [Tm.norm]
    split
    · exact .inr (.inl rfl)
    · exact .inl rfl
    · exact norm_err k _ _
/-- A normal form that is reached is reached with all greater numbers of steps, and with no less one. -/
theorem norm_ok : ∀ (k : Nat) (m : Int) (t a : Tm) (n : Int), t.norm k m = (a, n, 0) → a.nf = true ∧ m ≤ n ∧ n ≤ m + k ∧ (∀ k' : Nat, n ≤ m + k' → t.norm k' m = (a, n, 0)) ∧ ∀ k' : Nat, m + k' < n → t.norm k' m = (Tm.z, 0, 5)
  | 0, m, t, a, n, h => by
    rw [Tm.norm] at h
    split at h
    · rename_i hnf
      obtain ⟨e1, h⟩ := Prod.mk.inj h
      rw [← e1]
      obtain ⟨rfl, _⟩ := Prod.mk.inj h
      refine ⟨hnf, Int.le_refl _, by omega, fun k' _ => ?_, fun k' h => by omega⟩
      cases k' with
      | zero => rw [Tm.norm, if_pos hnf]
      | succ k' => rw [norm_done ((stp_nf _ _).1 hnf)]
    · cases h
  | k + 1, m, t, a, n, h => by
    rw [Tm.norm] at h
    split at h
    · cases h
    · rename_i hs
      obtain ⟨e1, h⟩ := Prod.mk.inj h
      rw [← e1]
      obtain ⟨rfl, _⟩ := Prod.mk.inj h
      have hnf := (stp_nf _ _).2 hs
      refine ⟨hnf, Int.le_refl _, by omega, fun k' _ => ?_, fun k' h => by omega⟩
      cases k' with
      | zero => rw [Tm.norm, if_pos hnf]
      | succ k' => rw [norm_done hs]
    · rename_i t' hs
      obtain ⟨h1, h2, h3, h4, h5⟩ := norm_ok k (m + 1) t' a n h
      refine ⟨h1, by omega, by omega, fun k' hk => ?_, fun k' hk => ?_⟩
      · cases k' with
        | zero => omega
        | succ k' =>
          rw [norm_more hs]
          exact h4 k' (by omega)
      · cases k' with
        | zero =>
          rw [Tm.norm, if_neg]
          intro hnf
          rw [(stp_nf _ _).1 hnf] at hs
          cases hs
        | succ k' =>
          rw [norm_more hs]
          exact h5 k' (by omega)

/-- What a normal form keeps. -/
theorem norm_sm : ∀ (k : Nat) (M m : Int) (t a : Tm) (n : Int), 0 ≤ M → Sm M t → t.nodes ≤ 4096 → t.norm k m = (a, n, 0) → Sm (M + 8192 * k) a ∧ a.nodes ≤ 4096
  | 0, M, m, t, a, n, hM, hs, hn, h => by
    rw [Tm.norm] at h
    split at h
    · obtain ⟨e1, h⟩ := Prod.mk.inj h
      rw [← e1]
      exact ⟨hs.mono (by omega), hn⟩
    · cases h
  | k + 1, M, m, t, a, n, hM, hs, hn, h => by
    rw [Tm.norm] at h
    split at h
    · cases h
    · obtain ⟨e1, h⟩ := Prod.mk.inj h
      rw [← e1]
      exact ⟨hs.mono (by omega), hn⟩
    · rename_i t' hst
      obtain ⟨h1, h2, h3⟩ := stp_sm hM t hs (by omega) t' hst
      obtain ⟨a1, a2⟩ := norm_sm k (M + 8192) (m + 1) t' a n (by omega) ⟨h1, h2, by omega⟩ (by omega) h
      exact ⟨a1.mono (by omega), a2⟩

/-- What is known of a term that was made. -/
structure Made (t : Tm) : Prop where
  ok : t.ok = true
  nodes : t.nodes ≤ 2000
  least : t.least 536870912 = true
theorem Made.err {t : Tm} (h : Made t) : t.err = 0 := by
  unfold Tm.err
  rw [if_pos h.ok, if_neg (by have := h.nodes; omega)]
theorem Made.wt {t : Tm} (h : Made t) : t.wt ≤ 1000000000 := by
  have := Tm.ok_wt t h.ok
  have := h.nodes
  omega
theorem Made.normal {t : Tm} (h : Made t) {steps : Int} (h0 : 0 ≤ steps ∧ steps ≤ 65536) : reduce_Normal t steps = some (t.norm steps.toNat 0) := by
  rw [reduce_Normal_eq h.wt, if_pos h.err, if_pos ⟨h0.1, h0.2, h.least⟩]
theorem HasTy.made {g : List Ty} {x : Tm} {t : Ty} (h : HasTy g x t) (hn : x.nodes ≤ 2000) (hg : g.length ≤ 1000) : Made x :=
  ⟨h.ok, hn, h.least _ (by omega)⟩

theorem mk_Term3 (N : Nat) (hN1 : 1 ≤ N) (hN : N ≤ 3) (g : List Ty) (t : Ty) (d : Smk_Deck) (hl : g.length ≤ 100) (hg : CtxOk N g) (ht : t.err = 0) (htN : t.nodes ≤ N) (hd : d.wf) (dep : Nat) (hdep : dep ≤ 3) :
    ∃ x d', mk_Term FU d g t (dep : Int) = some (x, d') ∧ d'.wf ∧ HasTy g x t ∧ x.nodes ≤ 1000 := by
  obtain ⟨x, d', h1, h2, h3⟩ := mk_Term' N hN1 (by omega) dep (by omega) g t d (by omega) hg ht htN hd
  refine ⟨x, d', h1, h2, h3.ty, ?_⟩
  have := h3.nodes
  have hb : tb N dep ≤ 1000 := by
    have : dep = 0 ∨ dep = 1 ∨ dep = 2 ∨ dep = 3 := by omega
    rcases this with rfl | rfl | rfl | rfl <;> simp only [tb] <;> omega
  omega

theorem closed_ok (l : List Int) (hl : l.length ≤ 500) : ∃ x t d', mk_Closed ⟨l, 0⟩ = some (x, t, d') ∧ HasTy [] x t ∧ x.nodes ≤ 1000 ∧ t.err = 0 ∧ t.nodes ≤ 3 := by
  obtain ⟨t, d1, t1, t2, t3, t4⟩ := mk_Type' ⟨l, 0⟩ (new_wf l (by omega)) 1 (by omega)
  rw [show ((1 : Nat) : Int) = 1 from rfl] at t1
  obtain ⟨x, d2, x1, x2, x3, x4⟩ := mk_Term3 3 (by omega) (by omega) [] t d1 (by simp) ctxNil t2 (by omega) t4 3 (by omega)
  rw [show ((3 : Nat) : Int) = 3 from rfl] at x1
  unfold mk_Closed
  simp only [t1, bind2_of, x1]
  exact ⟨x, t, d2, rfl, x3, x4, t2, by omega⟩

theorem mk_Few_eq (l : List Int) : mk_Few l = some (decide (l.length ≤ 500)) := by
  unfold mk_Few
  congr 1
  unfold ile llen
  exact decide_eq_decide.2 (by omega)

theorem sane_true : law04_sane = some true := by
  unfold law04_sane
  simp only [ref01_Nat_eq, bind1_of]
  rw [show ref02_Var 0 = some (tmV 0) from rfl]
  simp only [bind1_of]
  have w0 : (tmV 0).wt ≤ 100 := by decide
  rw [N_one (by omega)]
  simp only [bind1_of]
  have w1 : (Tm.mk 5 0 .z [tmV 0]).wt ≤ 100 := by decide
  rw [T_one (by decide) (by omega)]
  simp only [bind1_of]
  rw [N_zero]
  simp only [bind1_of]
  rw [N_two (by decide) (by decide)]
  simp only [bind1_of]
  rw [reduce_Step_eq (by decide), if_pos (by decide), if_pos (by decide)]
  have hs : (Tm.mk 3 0 .z [.mk 2 0 .nat [.mk 5 0 .z [tmV 0]], .mk 4 0 .z []]).stp (4096 - ((Tm.mk 3 0 .z [.mk 2 0 .nat [.mk 5 0 .z [tmV 0]], .mk 4 0 .z []]).nodes : Int)) = some (some (.mk 5 0 .z [.mk 4 0 .z []])) := by
    rw [Tm.stp_mk, if_pos (by decide), if_neg (by decide)]
    rfl
  rw [hs]
  simp only [bind3_of, joinB_eq]
  rw [if_pos (by decide), if_pos trivial]
  rw [N_one (by decide)]
  simp only [bind1_of]
  rw [ref02_Same_self (by decide)]
  rfl

/-- **ReduceAdds**: the normal form with more steps, and with fewer. -/
theorem law_ReduceAdds (l : List Int) (more : Int) (hm : 0 ≤ more ∧ more < 256) : law04_ReduceAdds l more = some true := by
  unfold law04_ReduceAdds
  simp only [sane_true, bind1_of, if_true, mk_Few_eq]
  by_cases hl : l.length ≤ 500
  · rw [if_pos (by simpa using hl)]
    obtain ⟨x, t, d', x1, x2, x3, x4, x5⟩ := closed_ok l hl
    simp only [mk_New, bind1_of, x1, bind3_of]
    have hx := x2.made (by omega) (by simp)
    rw [hx.normal (by omega)]
    rcases hno : x.norm (300 : Int).toNat 0 with ⟨a, n, e⟩
    have he := norm_err (300 : Int).toNat 0 x
    rw [hno] at he
    simp only at he
    simp only [bind3_of]
    by_cases h0 : e = 0
    · subst h0
      obtain ⟨h1, h2, h3, h4, h5⟩ := norm_ok _ _ _ _ _ hno
      have h3' : n ≤ 300 := by omega
      rw [if_neg (by decide)]
      have hconv : conv .i64 more = more := by unfold conv; rw [IntKind.wrap_i64]; omega
      rw [hconv, iadd_in (by omega) (by omega), isub_in (by omega) (by omega), hx.normal (by omega), h4 (n + more).toNat (by omega)]
      simp only [bind3_of, joinB_eq]
      rw [if_neg (by decide), if_neg (by simp [ine])]
      have haw : a.wt ≤ 1000000000 := by
        obtain ⟨q1, q2⟩ := norm_sm _ 536870912 _ _ _ _ (by omega) ⟨hx.ok, hx.least, by have := hx.nodes; omega⟩ (by have := hx.nodes; omega) hno
        have := Tm.ok_wt a q1.ok
        omega
      rw [ref02_Same_self haw]
      simp only [bind1_of, bnot_true, Bool.false_eq_true, if_false]
      by_cases hn0 : n = 0
      · subst hn0
        rw [reduce_Normal_eq hx.wt, if_pos hx.err, if_neg (by omega)]
        simp [ieq]
      · rw [hx.normal (by omega), h5 (n - 1).toNat (by omega)]
        have hpos : 0 < n := by omega
        simp [ieq, igt, hn0, hpos]
    · rw [if_pos (by simp [ine, h0])]
      rcases he with he | he | he
      · exact absurd he h0
      · subst he; rfl
      · subst he; rfl
  · rw [if_neg (by simpa using hl)]
end Go.Mdl
