/-
  A closed normal term begins as its type says.
-/
import Derived.Test.YtnabbjnhemmkhaaDoorQh
set_option linter.unusedSimpArgs false
set_option linter.unusedVariables false
namespace Go.Mdl
open Go

structure Canon (x : Tm) (t : Ty) : Prop where
  nat : t = .nat → x.kind = 4 ∨ x.kind = 5
  lst : t = .lst → x.kind = 7 ∨ x.kind = 8
  unit : t = .unit → x.kind = 13
  fn : ∀ a b, t = .fn a b → x.kind = 2
  pr : ∀ a b, t = .pr a b → x.kind = 10

theorem HasTy.canon {g : List Ty} {x : Tm} {t : Ty} (h : HasTy g x t) : g = [] → x.nf = true → Canon x t := by
  induction h with
  | var i h1 h2 => rintro rfl; simp at h1
  | lam h1 h2 ih => intro _ _; constructor <;> intros <;> simp_all [Ty.fn, Ty.nat, Ty.lst, Ty.unit, Ty.pr]
  | app h1 h2 ih1 ih2 =>
    intro hg hn
    rw [Tm.nf_mk] at hn
    simp only [List.all_cons, Bool.and_eq_true, Bool.not_eq_true'] at hn
    have := (ih1 hg hn.2.1).fn _ _ rfl
    have hr := hn.1
    simp [Tm.root, Tm.kd, this] at hr
  | zero => intro _ _; constructor <;> intros <;> simp_all [Ty.fn, Ty.nat, Ty.lst, Ty.unit, Ty.pr]
  | succ h1 ih => intro _ _; constructor <;> intros <;> simp_all [Ty.fn, Ty.nat, Ty.lst, Ty.unit, Ty.pr]
  | recN h0 h1 h2 h3 ih1 ih2 ih3 =>
    intro hg hn
    rw [Tm.nf_mk] at hn
    simp only [List.all_cons, Bool.and_eq_true, Bool.not_eq_true'] at hn
    have hk := (ih3 hg hn.2.2.2.1).nat rfl
    have hr := hn.1
    rcases hk with hk | hk <;> simp [Tm.root, Tm.kd, hk] at hr
  | nil => intro _ _; constructor <;> intros <;> simp_all [Ty.fn, Ty.nat, Ty.lst, Ty.unit, Ty.pr]
  | cons h1 h2 => intro _ _; constructor <;> intros <;> simp_all [Ty.fn, Ty.nat, Ty.lst, Ty.unit, Ty.pr]
  | fold h0 h1 h2 h3 ih1 ih2 ih3 =>
    intro hg hn
    rw [Tm.nf_mk] at hn
    simp only [List.all_cons, Bool.and_eq_true, Bool.not_eq_true'] at hn
    have hk := (ih3 hg hn.2.2.2.1).lst rfl
    have hr := hn.1
    rcases hk with hk | hk <;> simp [Tm.root, Tm.kd, hk] at hr
  | pair h0 h1 h2 => intro _ _; constructor <;> intros <;> simp_all [Ty.fn, Ty.nat, Ty.lst, Ty.unit, Ty.pr]
  | fst h1 ih =>
    intro hg hn
    rw [Tm.nf_mk] at hn
    simp only [List.all_cons, Bool.and_eq_true, Bool.not_eq_true'] at hn
    have hk := (ih hg hn.2.1).pr _ _ rfl
    have hr := hn.1
    simp [Tm.root, Tm.kd, hk] at hr
  | snd h1 ih =>
    intro hg hn
    rw [Tm.nf_mk] at hn
    simp only [List.all_cons, Bool.and_eq_true, Bool.not_eq_true'] at hn
    have hk := (ih hg hn.2.1).pr _ _ rfl
    have hr := hn.1
    simp [Tm.root, Tm.kd, hk] at hr
  | unit => intro _ _; constructor <;> intros <;> simp_all [Ty.fn, Ty.nat, Ty.lst, Ty.unit, Ty.pr]

/-- A closed normal term. -/
structure Cn (x : Tm) (t : Ty) : Prop where
  ty : HasTy [] x t
  nf : x.nf = true
theorem Cn.canon {x : Tm} {t : Ty} (h : Cn x t) : Canon x t := h.ty.canon rfl h.nf
theorem Cn.args {x : Tm} {t : Ty} (h : Cn x t) : ∀ a ∈ x.args, a.nf = true := by
  have := h.nf
  cases x with
  | mk k i s l =>
    rw [Tm.nf_mk] at this
    simp only [Bool.and_eq_true, List.all_eq_true] at this
    exact this.2

theorem Cn.succ {x : Tm} (h : Cn x .nat) (hk : x.kind = 5) : ∃ a, x.args = [a] ∧ Cn a .nat ∧ a.nodes < x.nodes := by
  have ha := h.args
  have ht := h.ty
  generalize hq : Ty.nat = q at ht
  cases ht <;> simp only [Tm.kind_mk] at hk <;> first | omega | skip
  rename_i a h1
  refine ⟨a, rfl, ⟨h1, ha a (by simp)⟩, ?_⟩
  rw [Tm.nodes_mk]; simp only [sumL]; omega
theorem Cn.cons {x : Tm} (h : Cn x .lst) (hk : x.kind = 8) : ∃ a b, x.args = [a, b] ∧ Cn a .nat ∧ Cn b .lst ∧ a.nodes < x.nodes ∧ b.nodes < x.nodes := by
  have ha := h.args
  have ht := h.ty
  generalize hq : Ty.lst = q at ht
  cases ht <;> simp only [Tm.kind_mk] at hk <;> first | omega | skip
  rename_i a b h1 h2
  refine ⟨a, b, rfl, ⟨h1, ha a (by simp)⟩, ⟨h2, ha b (by simp)⟩, ?_, ?_⟩ <;> (rw [Tm.nodes_mk]; simp only [sumL]; omega)
theorem Cn.pair {x : Tm} {s t : Ty} (h : Cn x (.pr s t)) : ∃ a b, x.kind = 10 ∧ x.args = [a, b] ∧ Cn a s ∧ Cn b t ∧ a.nodes < x.nodes ∧ b.nodes < x.nodes := by
  have hk := h.canon.pr _ _ rfl
  have ha := h.args
  have ht := h.ty
  generalize hq : Ty.pr s t = q at ht
  cases ht <;> simp only [Tm.kind_mk] at hk <;> first | omega | skip
  rename_i a b s' t' h0 h1 h2
  obtain ⟨rfl, rfl⟩ := Ty.pr_inj hq
  refine ⟨a, b, rfl, rfl, ⟨h1, ha a (by simp)⟩, ⟨h2, ha b (by simp)⟩, ?_, ?_⟩ <;> (rw [Tm.nodes_mk]; simp only [sumL]; omega)
theorem tm_eta' (x : Tm) : Tm.mk x.kind x.index (Ty.mk x.typeF.kind x.typeF.args) x.args = x := by
  cases x with
  | mk k i s l => cases s; rfl

theorem canonical_nat (n : Nat) (x : Tm) (h : Cn x .nat) (hx : x.nodes ≤ 5000) : law04_canonical (n + 1) x .nat = some true := by
  rw [law04_canonical]
  rw [if_pos (by decide)]
  simp only [joinB_eq]
  obtain ⟨o, h1, h2⟩ := loopN_inv (ρ := Bool) (F := un5 fun (v973 : Int) (v974 : Int) (v975 : Int) (v976 : (List Ty)) (v977 : (List Tm)) =>
      if (ieq v973 5) = true then (
      bind1 (lget v977 0) fun x1021 =>
      some (.next (x1021.kind, x1021.index, x1021.typeF.kind, x1021.typeF.args, x1021.args)))
      else (
      some (.brk (v973, v974, v975, v976, v977))))
    (fun s => Cn (Tm.mk s.1 s.2.1 (Ty.mk s.2.2.1 s.2.2.2.1) s.2.2.2.2) .nat)
    (fun s => (Tm.mk s.1 s.2.1 (Ty.mk s.2.2.1 s.2.2.2.1) s.2.2.2.2).nodes)
    (fun o => match o with | .inl s => s.1 = 4 | .inr _ => False)
    (by
      rintro ⟨a, b, c, d, e⟩ hc
      simp only at hc
      by_cases ha : a = 5
      · left
        obtain ⟨y, y1, y2, y3⟩ := hc.succ ha
        have hy : e = [y] := y1
        subst hy
        refine ⟨_, by simp only [un5_mk, ieq_iff, ha, if_true]; rfl, ?_, ?_⟩
        · show Cn (Tm.mk y.kind y.index (Ty.mk y.typeF.kind y.typeF.args) y.args) .nat
          rw [tm_eta']; exact y2
        · show (Tm.mk y.kind y.index (Ty.mk y.typeF.kind y.typeF.args) y.args).nodes < _
          rw [tm_eta']; exact y3
      · right; left
        refine ⟨_, by simp only [un5_mk, ieq_iff, ha, if_false]; rfl, ?_⟩
        have hk := hc.canon.nat rfl
        simp only [Tm.kind_mk] at hk
        show a = 4
        omega)
    FU (x.kind, x.index, x.typeF.kind, x.typeF.args, x.args) (by
      show Cn (Tm.mk x.kind x.index (Ty.mk x.typeF.kind x.typeF.args) x.args) .nat
      rw [tm_eta']; exact h) (by
      show (Tm.mk x.kind x.index (Ty.mk x.typeF.kind x.typeF.args) x.args).nodes < _
      rw [tm_eta', FU_eq]; omega)
  rw [h1]
  cases o with
  | inr r => exact h2.elim
  | inl s =>
    obtain ⟨a, b, c, d, e⟩ := s
    have ha : a = 4 := h2
    subst ha
    rfl

theorem canonical_lst (n : Nat) (x : Tm) (h : Cn x .lst) (hx : x.nodes ≤ 5000) : law04_canonical (n + 2) x .lst = some true := by
  rw [law04_canonical]
  rw [if_neg (by decide), if_pos (by decide)]
  simp only [joinB_eq]
  obtain ⟨o, h1, h2⟩ := loopN_inv (ρ := Bool) (F := un5 fun (v1555 : Int) (v1556 : Int) (v1557 : Int) (v1558 : (List Ty)) (v1559 : (List Tm)) =>
      if (ieq v1555 8) = true then (
      bind1 (lget v1559 0) fun x1681 =>
      bind1 (ref01_Nat) fun x1684 =>
      bind1 (law04_canonical (n + 1) x1681 x1684) fun x1687 =>
      if x1687 = true then (
      bind1 (lget v1559 1) fun x1697 =>
      some (.next (x1697.kind, x1697.index, x1697.typeF.kind, x1697.typeF.args, x1697.args)))
      else (
      some (.ret false)))
      else (
      some (.brk (v1555, v1556, v1557, v1558, v1559))))
    (fun s => Cn (Tm.mk s.1 s.2.1 (Ty.mk s.2.2.1 s.2.2.2.1) s.2.2.2.2) .lst ∧ (Tm.mk s.1 s.2.1 (Ty.mk s.2.2.1 s.2.2.2.1) s.2.2.2.2).nodes ≤ 5000)
    (fun s => (Tm.mk s.1 s.2.1 (Ty.mk s.2.2.1 s.2.2.2.1) s.2.2.2.2).nodes)
    (fun o => match o with | .inl s => s.1 = 7 | .inr _ => False)
    (by
      rintro ⟨a, b, c, d, e⟩ ⟨hc, hn⟩
      simp only at hc hn
      by_cases ha : a = 8
      · left
        obtain ⟨y, z, y1, y2, y3, y4, y5⟩ := hc.cons ha
        have hy : e = [y, z] := y1
        subst hy
        refine ⟨_, by
          simp only [un5_mk, ieq_iff, ha, if_true]
          rw [show lget [y, z] 0 = some y from rfl, ref01_Nat_eq]
          simp only [bind1_of]
          rw [canonical_nat n y y2 (by omega)]
          simp only [bind1_of, if_true]
          rw [show lget [y, z] 1 = some z from rfl]
          rfl, ⟨?_, ?_⟩, ?_⟩
        · show Cn (Tm.mk z.kind z.index (Ty.mk z.typeF.kind z.typeF.args) z.args) .lst
          rw [tm_eta']; exact y3
        · show (Tm.mk z.kind z.index (Ty.mk z.typeF.kind z.typeF.args) z.args).nodes ≤ _
          rw [tm_eta']; omega
        · show (Tm.mk z.kind z.index (Ty.mk z.typeF.kind z.typeF.args) z.args).nodes < _
          rw [tm_eta']; exact y5
      · right; left
        refine ⟨_, by simp only [un5_mk, ieq_iff, ha, if_false]; rfl, ?_⟩
        have hk := hc.canon.lst rfl
        simp only [Tm.kind_mk] at hk
        show a = 7
        omega)
    FU (x.kind, x.index, x.typeF.kind, x.typeF.args, x.args) ⟨by
      show Cn (Tm.mk x.kind x.index (Ty.mk x.typeF.kind x.typeF.args) x.args) .lst
      rw [tm_eta']; exact h, by
      show (Tm.mk x.kind x.index (Ty.mk x.typeF.kind x.typeF.args) x.args).nodes ≤ _
      rw [tm_eta']; exact hx⟩ (by
      show (Tm.mk x.kind x.index (Ty.mk x.typeF.kind x.typeF.args) x.args).nodes < _
      rw [tm_eta', FU_eq]; omega)
  rw [h1]
  cases o with
  | inr r => exact h2.elim
  | inl s =>
    obtain ⟨a, b, c, d, e⟩ := s
    have ha : a = 7 := h2
    subst ha
    rfl

theorem canonical_ok : ∀ (n : Nat) (x : Tm) (t : Ty), t.nodes + 1 ≤ n → t.err = 0 → Cn x t → x.nodes ≤ 5000 → law04_canonical n x t = some true
  | 0, x, t, hn, _, _, _ => by omega
  | n + 1, x, t, hn, ht, h, hx => by
    rcases Ty.kind_cases ht with rfl | rfl | rfl | ⟨a, b, rfl, ha, hb⟩ | ⟨a, b, rfl, ha, hb⟩
    · exact canonical_nat n x h hx
    · obtain ⟨m, rfl⟩ : ∃ m, n = m + 1 := ⟨n - 1, by rw [Ty.lst_nodes] at hn; omega⟩
      exact canonical_lst m x h hx
    · rw [law04_canonical, if_neg (by decide), if_neg (by decide), if_pos (by decide)]
      rw [h.canon.unit rfl]
      rfl
    · obtain ⟨u, v, k1, k2, k3, k4, k5, k6⟩ := h.pair
      rw [Ty.pr_nodes] at hn
      have := a.nodes_pos
      have := b.nodes_pos
      rw [law04_canonical, if_neg (show ¬ ieq (Ty.pr a b).kind 1 = true by simp [Ty.pr, ieq]), if_neg (show ¬ ieq (Ty.pr a b).kind 2 = true by simp [Ty.pr, ieq]), if_neg (show ¬ ieq (Ty.pr a b).kind 5 = true by simp [Ty.pr, ieq]), if_pos (show ieq (Ty.pr a b).kind 3 = true by simp [Ty.pr, ieq])]
      simp only [joinB_eq]
      rw [if_pos (by rw [k1]; decide), k2]
      rw [show lget [u, v] 0 = some u from rfl, show lget [u, v] 1 = some v from rfl, show lget (Ty.pr a b).args 0 = some a from rfl, show lget (Ty.pr a b).args 1 = some b from rfl]
      simp only [bind1_of]
      rw [canonical_ok n u a (by omega) ha k3 (by omega)]
      simp only [bind1_of, if_true]
      rw [canonical_ok n v b (by omega) hb k4 (by omega)]
      rfl
    · rw [law04_canonical, if_neg (show ¬ ieq (Ty.fn a b).kind 1 = true by simp [Ty.fn, ieq]), if_neg (show ¬ ieq (Ty.fn a b).kind 2 = true by simp [Ty.fn, ieq]), if_neg (show ¬ ieq (Ty.fn a b).kind 5 = true by simp [Ty.fn, ieq]), if_neg (show ¬ ieq (Ty.fn a b).kind 3 = true by simp [Ty.fn, ieq])]
      rw [h.canon.fn _ _ rfl]
      rfl

theorem law_ReduceCloses (l : List Int) : law04_ReduceCloses l = some true := by
  unfold law04_ReduceCloses
  simp only [sane_true, bind1_of, if_true, mk_Few_eq]
  by_cases hl : l.length ≤ 500
  · rw [if_pos (by simpa using hl)]
    obtain ⟨x, t, d, h1, h2, h3, h4, h5⟩ := closed_ok l hl
    have hm : Made x := h2.made (by omega) (by simp)
    simp only [mk_New, bind1_of, h1, bind3_of, hm.normal (steps := 400) (by omega)]
    rw [show (400 : Int).toNat = 400 from rfl]
    generalize hno : x.norm 400 0 = o
    obtain ⟨a, n, e⟩ := o
    have he : e = 0 ∨ e = 4 ∨ e = 5 := by have := norm_err 400 0 x; rw [hno] at this; exact this
    simp only [bind3_of]
    by_cases h0 : e = 0
    · subst h0
      rw [if_neg (by decide)]
      obtain ⟨a1, a2, a3, _, _⟩ := norm_ok _ _ _ _ _ hno
      obtain ⟨a5, a6⟩ := norm_sm _ 536870912 _ _ _ _ (by omega) ⟨hm.ok, hm.least, by have := hm.nodes; omega⟩ (by have := hm.nodes; omega) hno
      have hty := HasTy.norm _ _ _ _ _ h2 hno
      rw [if_neg (by
        simp only [sel_or, Bool.or_eq_true, ilt_iff, igt_iff]
        omega)]
      rw [canonical_ok FU a t (by rw [FU_eq]; omega) h4 ⟨hty, a1⟩ (by omega)]
      rfl
    · rw [if_pos (by simp [ine, h0])]
      rcases he with rfl | rfl | rfl
      · exact absurd rfl h0
      · rfl
      · rfl
  · rw [if_neg (by simpa using hl)]
end Go.Mdl
