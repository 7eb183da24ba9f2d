/-
  The normal form of parts.
-/
import Derived.Test.YtnabbjnhemmkhaaDoorQg
set_option linter.unusedSimpArgs false
set_option linter.unusedVariables false
namespace Go.Mdl
open Go

/-- With less room, a step is the same, or there is no room. -/
theorem stp_room {r r' : Int} (hr : r' ≤ r) (t : Tm) : ∀ t', t.stp r = some (some t') → t.stp r' = none ∨ t.stp r' = some (some t') := by
  induction t using Tm.ind with
  | h k i s l ih =>
    intro t' h
    rw [Tm.stp_mk] at h ⊢
    by_cases hroot : (Tm.mk k i s l).root = true
    · rw [if_pos hroot] at h ⊢
      split at h
      · cases h
      · split
        · exact .inl rfl
        · exact .inr h
    · rw [if_neg hroot] at h ⊢
      have hl : ∀ ts : List Tm, (∀ t ∈ ts, t ∈ l) → ∀ ts', Tm.stpL r ts = some (some ts') → Tm.stpL r' ts = none ∨ Tm.stpL r' ts = some (some ts') := by
        intro ts
        induction ts with
        | nil => intro _ ts' h; rw [Tm.stpL] at h; cases h
        | cons t ts iht =>
          intro hm ts' h
          rw [Tm.stpL] at h ⊢
          cases e1 : t.stp r with
          | none => rw [e1] at h; cases h
          | some o =>
            cases o with
            | none =>
              rw [e1] at h
              rw [(stp_nf r' t).1 ((stp_nf r t).2 e1)]
              dsimp only at h ⊢
              cases e2 : Tm.stpL r ts with
              | none => rw [e2] at h; cases h
              | some o2 =>
                cases o2 with
                | none => rw [e2] at h; cases h
                | some ts2 =>
                  rw [e2] at h
                  obtain rfl := Option.some.inj (Option.some.inj h)
                  rcases iht (fun u hu => hm u (by simp [hu])) ts2 e2 with e3 | e3
                  · rw [e3]; exact .inl rfl
                  · rw [e3]; exact .inr rfl
            | some t2 =>
              rw [e1] at h
              obtain rfl := Option.some.inj (Option.some.inj h)
              rcases ih t (hm t (by simp)) t2 e1 with e3 | e3
              · rw [e3]; exact .inl rfl
              · rw [e3]; exact .inr rfl
      cases e : Tm.stpL r l with
      | none => rw [e] at h; cases h
      | some o =>
        cases o with
        | none => rw [e] at h; cases h
        | some l' =>
          rw [e] at h
          obtain rfl := Option.some.inj (Option.some.inj h)
          rcases hl l (fun t h => h) l' e with e3 | e3
          · rw [e3]; exact .inl rfl
          · rw [e3]; exact .inr rfl

/-- A place in a term where the next steps are done. -/
structure Hole (C : Tm → Tm) : Prop where
  none : ∀ u r, u.stp r = none → (C u).stp r = none
  some : ∀ u u' r, u.stp r = some (some u') → (C u).stp r = some (some (C u'))
  nodes : ∀ u, u.nodes ≤ (C u).nodes

theorem Hole.norm {C : Tm → Tm} (hC : Hole C) : ∀ (k : Nat) (m : Int) (u a : Tm) (n : Int), u.norm k m = (a, n, 0) → ∀ (K : Nat) (M : Int),
    ((C u).norm (K + (n - m).toNat) M = (Tm.z, 0, 4)) ∨ (C u).norm (K + (n - m).toNat) M = (C a).norm K (M + (n - m))
  | k, m, u, a, n, h, K, M => by
    obtain ⟨h1, h2, h3, h4, h5⟩ := norm_ok k m u a n h
    cases k with
    | zero =>
      rw [Tm.norm] at h
      split at h
      · obtain ⟨e1, h⟩ := Prod.mk.inj h
        obtain ⟨rfl, _⟩ := Prod.mk.inj h
        subst e1
        right
        rw [show (m - m).toNat = 0 by omega, show M + (m - m) = M by omega]
        rfl
      · cases h
    | succ k =>
      rw [Tm.norm] at h
      split at h
      · cases h
      · obtain ⟨e1, h⟩ := Prod.mk.inj h
        obtain ⟨rfl, _⟩ := Prod.mk.inj h
        subst e1
        right
        rw [show (m - m).toNat = 0 by omega, show M + (m - m) = M by omega]
        rfl
      · rename_i u' hst
        obtain ⟨g1, g2, g3, g4, g5⟩ := norm_ok k (m + 1) u' a n h
        have hk : K + (n - m).toNat = (K + (n - (m + 1)).toNat) + 1 := by omega
        rw [hk]
        have hroom : (4096 : Int) - (C u).nodes ≤ 4096 - u.nodes := by have := hC.nodes u; omega
        rcases stp_room hroom u u' hst with e | e
        · left; rw [norm_big (hC.none _ _ e)]
        · rw [norm_more (hC.some _ _ _ e)]
          have := Hole.norm hC k (m + 1) u' a n h K (M + 1)
          rw [show M + 1 + (n - (m + 1)) = M + (n - m) by omega] at this
          exact this

def tmPair (a b : Tm) : Tm := .mk 10 0 .z [a, b]
theorem root_pair (a b : Tm) : (tmPair a b).root = false := by unfold tmPair Tm.root; simp
theorem root_lam (s : Ty) (b : Tm) : (tmLam s b).root = false := by unfold tmLam Tm.root; simp
theorem stp_pair (r : Int) (a b : Tm) : (tmPair a b).stp r = match Tm.stpL r [a, b] with | none => none | some none => some none | some (some l') => some (some (.mk 10 0 .z l')) := by
  have := root_pair a b
  unfold tmPair at this ⊢
  rw [Tm.stp_mk, if_neg (by rw [this]; simp)]
  rfl
theorem stp_lam (r : Int) (s : Ty) (b : Tm) : (tmLam s b).stp r = match Tm.stpL r [b] with | none => none | some none => some none | some (some l') => some (some (.mk 2 0 s l')) := by
  have := root_lam s b
  unfold tmLam at this ⊢
  rw [Tm.stp_mk, if_neg (by rw [this]; simp)]
  rfl
theorem one_none {r : Int} {b : Tm} (h : b.stp r = none) : Tm.stpL r [b] = none := by rw [Tm.stpL, h]
theorem one_some {r : Int} {b b' : Tm} (h : b.stp r = some (some b')) : Tm.stpL r [b] = some (some [b']) := by rw [Tm.stpL, h]
theorem lam_none {r : Int} {s : Ty} {b : Tm} (h : b.stp r = none) : (tmLam s b).stp r = none := by rw [stp_lam, one_none h]
theorem lam_some {r : Int} {s : Ty} {b b' : Tm} (h : b.stp r = some (some b')) : (tmLam s b).stp r = some (some (tmLam s b')) := by rw [stp_lam, one_some h]; rfl
theorem hole_left (b : Tm) : Hole fun a => tmPair a b where
  none u r h := by rw [stp_pair, Tm.stpL, h]
  some u u' r h := by rw [stp_pair, Tm.stpL, h]; rfl
  nodes u := by unfold tmPair; rw [Tm.nodes_mk]; simp [sumL]; omega
theorem hole_right {a : Tm} (ha : a.nf = true) (s : Ty) : Hole fun b => tmPair a (tmLam s b) where
  none u r h := by rw [stp_pair, Tm.stpL, (stp_nf r a).1 ha]; dsimp only; rw [one_none (lam_none h)]
  some u u' r h := by rw [stp_pair, Tm.stpL, (stp_nf r a).1 ha]; dsimp only; rw [one_some (lam_some h)]; rfl
  nodes u := by unfold tmPair tmLam; rw [Tm.nodes_mk]; simp only [sumL, Tm.nodes_mk]; omega
theorem nf_parts {a b : Tm} (ha : a.nf = true) (hb : b.nf = true) (s : Ty) : (tmPair a (tmLam s b)).nf = true := by
  have h2 := root_lam s b
  have h1 := root_pair a (tmLam s b)
  unfold tmPair tmLam at *
  rw [Tm.nf_mk, h1]
  simp only [List.all_cons, List.all_nil, Tm.nf_mk, h2, ha, hb]
  rfl

/-- The normal form of a pair with a function in it. -/
theorem norm_parts {x y a b : Tm} {k1 k2 : Nat} {m n : Int} (hx : x.norm k1 0 = (a, m, 0)) (hy : y.norm k2 0 = (b, n, 0)) (s : Ty) {K : Nat} (hK : m + n ≤ K) :
    (tmPair x (tmLam s y)).norm K 0 = (Tm.z, 0, 4) ∨ (tmPair x (tmLam s y)).norm K 0 = (tmPair a (tmLam s b), m + n, 0) := by
  obtain ⟨a1, a2, a3, _, _⟩ := norm_ok _ _ _ _ _ hx
  obtain ⟨b1, b2, b3, _, _⟩ := norm_ok _ _ _ _ _ hy
  have e1 := (hole_left (tmLam s y)).norm k1 0 x a m hx (K - m.toNat) 0
  have e2 := (hole_right a1 s).norm k2 0 y b n hy (K - m.toNat - n.toNat) (0 + (m - 0))
  have hk1 : K - m.toNat + (m - 0).toNat = K := by omega
  have hk2 : K - m.toNat - n.toNat + (n - 0).toNat = K - m.toNat := by omega
  rw [hk1] at e1
  rw [hk2] at e2
  rcases e1 with e1 | e1
  · exact .inl e1
  · rw [e1]
    rcases e2 with e2 | e2
    · exact .inl e2
    · rw [e2]
      right
      have hnf := nf_parts a1 b1 s
      have : 0 + (m - 0) + (n - 0) = m + n := by omega
      rw [this]
      cases hq : K - m.toNat - n.toNat with
      | zero => rw [Tm.norm, if_pos hnf]
      | succ q => rw [norm_done ((stp_nf _ _).1 hnf)]

theorem codes {e : Int} (h : e = 0 ∨ e = 4 ∨ e = 5) : (ieq e 0 = true ∨ ieq e 4 = true ∨ ieq e 5 = true) := by
  rcases h with rfl | rfl | rfl <;> decide

theorem law_ReduceParts (l : List Int) : law04_ReduceParts l = some true := by
  unfold law04_ReduceParts
  simp only [sane_true, bind1_of, if_true, mk_Few_eq]
  by_cases hl : l.length ≤ 500
  · rw [if_pos (by simpa using hl)]
    obtain ⟨g, d1, g1, g2, g3, g4⟩ := mk_Context_ok ⟨l, 0⟩ (new_wf l (by omega))
    obtain ⟨s, d2, s1, s2, s3, s4⟩ := mk_Type' d1 g2 0 (by omega)
    obtain ⟨t, d3, t1, t2, t3, t4⟩ := mk_Type' d2 s4 1 (by omega)
    rw [show ((0 : Nat) : Int) = 0 from rfl] at s1
    rw [show ((1 : Nat) : Int) = 1 from rfl] at t1
    have hs3 : s.nodes ≤ 3 := by omega
    have ht3 : t.nodes ≤ 3 := by omega
    obtain ⟨x, d4, x1, x2, x3, x4⟩ := mk_Term3 3 (by omega) (by omega) g t d3 (by omega) g4 t2 ht3 t4 2 (by omega)
    rw [show ((2 : Nat) : Int) = 2 from rfl] at x1
    have hgs : CtxOk 3 (g ++ [s]) := g4.app (by intro u hu; rw [List.mem_singleton] at hu; subst hu; exact ⟨s2, hs3⟩)
    obtain ⟨t', d5, u1, u2, u3, u4⟩ := mk_Type' d4 x2 1 (by omega)
    rw [show ((1 : Nat) : Int) = 1 from rfl] at u1
    have hu3 : t'.nodes ≤ 3 := by omega
    obtain ⟨y, d6, y1, y2, y3, y4⟩ := mk_Term3 3 (by omega) (by omega) (g ++ [s]) t' d5 (by simp; omega) hgs u2 hu3 u4 2 (by omega)
    rw [show ((2 : Nat) : Int) = 2 from rfl] at y1
    have hmx : Made x := x3.made (by omega) (by omega)
    have hmy : Made y := y3.made (by omega) (by simp; omega)
    have hP : HasTy g (tmPair x (tmLam s y)) (.pr t (.fn s t')) := by
      have hf : (Ty.fn s t').err = 0 := Ty.fn_err s2 u2 (by omega)
      exact .pair (Ty.pr_err t2 hf (by rw [Ty.fn_nodes]; omega)) x3 (.lam hf y3)
    have hPn : (tmPair x (tmLam s y)).nodes ≤ 2010 := by
      unfold tmPair tmLam
      rw [Tm.nodes_mk]
      simp only [sumL, Tm.nodes_mk]
      omega
    have hPe : (tmPair x (tmLam s y)).err = 0 := by
      unfold Tm.err
      rw [if_pos hP.ok, if_neg (by omega)]
    have hPw : (tmPair x (tmLam s y)).wt ≤ 1000000000 := by
      have := Tm.ok_wt _ hP.ok
      omega
    have hPl : (tmPair x (tmLam s y)).least 536870912 = true := hP.least _ (by omega)
    simp only [mk_New, bind1_of, g1, bind2_of, s1, t1, x1, okApp_of (l := ([] : List Ty)) (m := g) (by simp; omega), chk_true, lapp_eq, List.nil_append, okApp_of (l := g) (m := [s]) (by simp; omega), u1, y1, hmx.normal (steps := 300) (by omega), hmy.normal (steps := 300) (by omega), bind3_of]
    rw [show (300 : Int).toNat = 300 from rfl]
    generalize hnx : x.norm 300 0 = ox
    generalize hny : y.norm 300 0 = oy
    obtain ⟨a, m, e⟩ := ox
    obtain ⟨b, n, f⟩ := oy
    have hex : e = 0 ∨ e = 4 ∨ e = 5 := by have := norm_err 300 0 x; rw [hnx] at this; exact this
    have hey : f = 0 ∨ f = 4 ∨ f = 5 := by have := norm_err 300 0 y; rw [hny] at this; exact this
    simp only [bind3_of]
    by_cases h0 : e = 0 ∧ f = 0
    · obtain ⟨rfl, rfl⟩ := h0
      rw [if_neg (by decide)]
      obtain ⟨a1, a2, a3, _, _⟩ := norm_ok _ _ _ _ _ hnx
      obtain ⟨b1, b2, b3, _, _⟩ := norm_ok _ _ _ _ _ hny
      obtain ⟨a5, a6⟩ := norm_sm _ 536870912 _ _ _ _ (by omega) ⟨hmx.ok, hmx.least, by have := hmx.nodes; omega⟩ (by have := hmx.nodes; omega) hnx
      obtain ⟨b5, b6⟩ := norm_sm _ 536870912 _ _ _ _ (by omega) ⟨hmy.ok, hmy.least, by have := hmy.nodes; omega⟩ (by have := hmy.nodes; omega) hny
      have wx := Tm.ok_wt _ hmx.ok
      have wy := Tm.ok_wt _ hmy.ok
      have wa := Tm.ok_wt a a5.ok
      have wb := Tm.ok_wt b b5.ok
      have wl := Tm.ok_wt (tmLam s y) (HasTy.ok (.lam (Ty.fn_err s2 u2 (by omega)) y3))
      have hln : (tmLam s y).nodes ≤ 1001 := by
        unfold tmLam; rw [Tm.nodes_mk]; simp only [sumL]; omega
      rw [T_one (by omega) (by omega)]
      simp only [bind1_of]
      rw [show Tm.mk 2 0 s [y] = tmLam s y from rfl, N_two (by omega) (by omega), show Tm.mk 10 0 .z [x, tmLam s y] = tmPair x (tmLam s y) from rfl]
      simp only [bind1_of]
      rw [reduce_Normal_eq hPw, if_pos hPe, if_pos ⟨by omega, by omega, hPl⟩]
      rcases norm_parts hnx hny s (K := 700) (by omega) with h | h
      · rw [show (700 : Int).toNat = 700 from rfl, h]
        rfl
      · rw [show (700 : Int).toNat = 700 from rfl, h]
        simp only [bind3_of, joinB_eq]
        rw [if_neg (by decide), iadd_in (by omega) (by omega), if_pos (by simp [ieq])]
        rw [T_one (by omega) (by omega)]
        simp only [bind1_of]
        have hlo : (tmLam s b).ok = true := by
          have h1 : (tmLam s y).ok = true := HasTy.ok (.lam (Ty.fn_err s2 u2 (by omega)) y3)
          exact Tm.ok_same h1 rfl (by intro t ht; rw [List.mem_singleton] at ht; subst ht; exact b5.ok)
        have hlw := Tm.ok_wt _ hlo
        have hln2 : (tmLam s b).nodes ≤ 4097 := by unfold tmLam; rw [Tm.nodes_mk]; simp only [sumL]; omega
        rw [show Tm.mk 2 0 s [b] = tmLam s b from rfl, N_two (by omega) (by omega), show Tm.mk 10 0 .z [a, tmLam s b] = tmPair a (tmLam s b) from rfl]
        simp only [bind1_of]
        have hpo : (tmPair a (tmLam s b)).ok = true := by
          refine Tm.ok_same (l := [x, tmLam s y]) hP.ok rfl ?_
          intro t ht
          simp only [List.mem_cons, List.not_mem_nil, or_false] at ht
          rcases ht with rfl | rfl
          · exact a5.ok
          · exact hlo
        have hpw := Tm.ok_wt _ hpo
        have hpn : (tmPair a (tmLam s b)).nodes ≤ 10000 := by unfold tmPair; rw [Tm.nodes_mk]; simp only [sumL]; omega
        rw [ref02_Same_self (by omega)]
        rfl
    · rw [if_pos (by
        by_cases he : e = 0
        · have : f ≠ 0 := fun h => h0 ⟨he, h⟩
          simp [ine, he, this]
        · simp [ine, he])]
      rcases hex with rfl | rfl | rfl <;> rcases hey with rfl | rfl | rfl <;> rfl
  · rw [if_neg (by simpa using hl)]
end Go.Mdl
