/-
  Terms that are made of a deck: they have the type that was asked for, in the context, and are not great.
-/
import Derived.Test.YtanjokijgbgcpaaGreatDoorPe
set_option linter.unusedSimpArgs false
set_option linter.unusedVariables false
namespace Go.Mdl
open Go

theorem good_join {α β : Type} {G : Option β → Prop} (P : α → Prop) {k : α → Option β} {b : (α → Option β) → Option β} (hk : ∀ a, P a → G (k a)) (hb : ∀ j : α → Option β, (∀ a, P a → G (j a)) → G (b j)) : G (joinB k b) := hb k hk
theorem good_join2 {α γ β : Type} {G : Option β → Prop} (P : α → γ → Prop) {k : α → γ → Option β} {b : (α → γ → Option β) → Option β} (hk : ∀ a c, P a c → G (k a c)) (hb : ∀ j : α → γ → Option β, (∀ a c, P a c → G (j a c)) → G (b j)) : G (joinB k b) := hb k hk

def tb (N : Nat) : Nat → Nat
  | 0 => 3 * N
  | k + 1 => 30 + 3 * tb N k
theorem tb_bd {N : Nat} (hN : N ≤ 20) : ∀ k, k ≤ 5 → tb N k ≤ 18300 := by
  intro k hk
  have : k = 0 ∨ k = 1 ∨ k = 2 ∨ k = 3 ∨ k = 4 ∨ k = 5 := by omega
  rcases this with rfl | rfl | rfl | rfl | rfl | rfl <;> simp only [tb] <;> omega
theorem tb_three {N k : Nat} : 3 * N ≤ tb N k := by
  induction k with
  | zero => simp [tb]
  | succ k ih => simp only [tb]; omega

/-- What is said of a term that was made. -/
def TmGood (g : List Ty) (t : Ty) (b : Nat) (o : Option (Tm × Smk_Deck)) : Prop := ∃ x d', o = some (x, d') ∧ d'.wf ∧ TmOk g x t b
theorem TmGood.of {g : List Ty} {t : Ty} {b : Nat} {x : Tm} {d : Smk_Deck} (hd : d.wf) (h : HasTy g x t) (hn : x.nodes ≤ b) : TmGood g t b (some (x, d)) := ⟨x, d, rfl, hd, h, hn⟩

structure CtxOk (N : Nat) (g : List Ty) : Prop where
  all : ∀ s ∈ g, s.err = 0 ∧ s.nodes ≤ N
theorem CtxOk.app {N : Nat} {g l : List Ty} (h : CtxOk N g) (h2 : ∀ s ∈ l, s.err = 0 ∧ s.nodes ≤ N) : CtxOk N (g ++ l) :=
  ⟨fun s hs => by rcases List.mem_append.1 hs with h' | h'; exact h.all s h'; exact h2 s h'⟩

theorem Ty.kind_cases {t : Ty} (h : t.err = 0) : t = .nat ∨ t = .lst ∨ t = .unit ∨ (∃ a b, t = .pr a b ∧ a.err = 0 ∧ b.err = 0) ∨ (∃ a b, t = .fn a b ∧ a.err = 0 ∧ b.err = 0) := by
  cases t with
  | mk k l =>
    have h1 := (Ty.err_zero h).1
    rw [Ty.ok_mk] at h1
    simp only [Bool.and_eq_true, decide_eq_true_eq] at h1
    have h2 := h1.1
    unfold Ty.want at h2
    split at h2
    · rename_i hk
      injection h2 with h2
      have := List.length_eq_zero_iff.1 h2.symm
      subst this
      rcases hk with rfl | rfl | rfl
      · exact .inl rfl
      · exact .inr (.inl rfl)
      · exact .inr (.inr (.inl rfl))
    · split at h2
      · rename_i hk
        injection h2 with h2
        obtain ⟨a, b, rfl⟩ := len_two (l := l) (by omega)
        have := Ty.err_parts hk h
        rcases hk with rfl | rfl
        · exact .inr (.inr (.inr (.inl ⟨a, b, rfl, this⟩)))
        · exact .inr (.inr (.inr (.inr ⟨a, b, rfl, this⟩)))
      · cases h2

set_option maxHeartbeats 1000000 in
theorem mk_Term_ok (N : Nat) (hN1 : 1 ≤ N) (hN : N ≤ 20) : ∀ (n : Nat) (dep : Int) (g : List Ty) (t : Ty) (d : Smk_Deck), dep.toNat * (N + 1) + t.nodes < n → dep ≤ 5 → -1000000 ≤ dep - t.nodes →
    g.length + (3 + N) * dep.toNat + t.nodes ≤ 1000 → CtxOk N g → t.err = 0 → t.nodes ≤ N → d.wf → TmGood g t (if dep ≤ 0 then 3 * t.nodes else tb N dep.toNat) (mk_Term n d g t dep) := by
  intro n
  induction n with
  | zero => intro dep g t d h; omega
  | succ n ih =>
    intro dep g t d hm hd5 hlow hlen hg ht htN hd
    have htp := t.nodes_pos
    have htn := (Ty.err_zero ht).2
    -- the parts, one level deeper
    have deep : 0 < dep → ∀ g' t' d', g'.length ≤ g.length + 3 → CtxOk N g' → t'.err = 0 → t'.nodes ≤ N → d'.wf → TmGood g' t' (tb N (dep.toNat - 1)) (mk_Term n d' g' t' (isub .i64 dep 1)) := by
      intro hpos g' t' d' h1 h2 h3 h4 h5
      obtain ⟨k, rfl⟩ : ∃ k : Nat, dep = (k + 1 : Nat) := ⟨dep.toNat - 1, by omega⟩
      have e1 : ((k + 1 : Nat) : Int).toNat = k + 1 := by simp
      rw [e1] at hm hlen ⊢
      rw [isub_in (by omega) (by omega), show ((k + 1 : Nat) : Int) - 1 = (k : Int) by omega]
      have hmul : (k + 1) * (N + 1) = k * (N + 1) + N + 1 := by rw [Nat.add_mul]; omega
      have hmul2 : (3 + N) * (k + 1) = (3 + N) * k + 3 + N := by rw [Nat.mul_add]; omega
      obtain ⟨x, d1, a1, a2, a3⟩ := ih (k : Int) g' t' d' (by simp; omega) (by omega) (by omega) (by simp; omega) h2 h3 h4 h5
      refine ⟨x, d1, a1, a2, a3.mono ?_⟩
      simp only [Nat.add_sub_cancel]
      split
      · have : k = 0 := by omega
        subst this
        simp only [tb]; omega
      · simp
    have flat : dep ≤ 0 → ∀ g' t' d', g'.length ≤ g.length + 1 → t'.nodes + 1 ≤ t.nodes → CtxOk N g' → t'.err = 0 → d'.wf → TmGood g' t' (3 * t'.nodes) (mk_Term n d' g' t' (isub .i64 dep 1)) := by
      intro hpos g' t' d' h1 h0 h2 h3 h5
      have e1 : dep.toNat = 0 := by omega
      rw [e1] at hm hlen
      rw [isub_in (by omega) (by omega)]
      have e2 : (dep - 1).toNat = 0 := by omega
      have := ih (dep - 1) g' t' d' (by rw [e2]; omega) (by omega) (by omega) (by rw [e2]; omega) h2 h3 (by omega) h5
      rw [if_pos (by omega)] at this
      exact this
    -- the bound where there is a level more
    have hB : 0 < dep → (if dep ≤ 0 then 3 * t.nodes else tb N dep.toNat) = 30 + 3 * tb N (dep.toNat - 1) := by
      intro hpos
      rw [if_neg (by omega)]
      obtain ⟨k, hk⟩ : ∃ k, dep.toNat = k + 1 := ⟨dep.toNat - 1, by omega⟩
      rw [hk]; rfl
    have hbd : 0 < dep → tb N (dep.toNat - 1) ≤ 18300 := fun _ => tb_bd hN _ (by omega)
    have hB3 : 3 * t.nodes ≤ (if dep ≤ 0 then 3 * t.nodes else tb N dep.toNat) := by
      split
      · omega
      · have := tb_three (N := N) (k := dep.toNat); omega
    generalize (if dep ≤ 0 then 3 * t.nodes else tb N dep.toNat) = B at hB hB3 ⊢
    have wtOf : ∀ {g x t}, 0 < dep → TmOk g x t (tb N (dep.toNat - 1)) → x.wt ≤ 1300000 := by
      intro g x t hpos h
      have := h.wt
      have := hbd hpos
      omega
    obtain ⟨vs, hv1, hv2, hv3⟩ := mk_vars_ok g t (by omega) (fun s hs => by have := (hg.all s hs).2; omega)
    rw [mk_Term, hv1]
    simp only [bind1_of]
    refine good_join2 (G := TmGood g t B) (fun a c => c.wf ∧ (a = true → vs ≠ [])) ?_ ?_
    · -- a variable, or something else
      rintro a d1 ⟨hd1, hvs⟩
      cases a with
      | true =>
        simp only [if_true]
        have hne := hvs rfl
        have hl1 : 1 ≤ vs.length := by cases vs with | nil => exact absurd rfl hne | cons _ _ => simp
        obtain ⟨x, d2, h1, h2, h3, h4⟩ := next_ok d1 hd1 (llen vs) (by simp; omega) (by simp; omega)
        rw [h1]
        simp only [bind2_of]
        obtain ⟨y, hy, hym⟩ := lget_some (l := vs) h2 (by simpa using h3)
        rw [hy]
        simp only [bind1_of]
        obtain ⟨i, rfl, hi1, hi2⟩ := hv3 y hym
        rw [ref02_Var_eq]
        refine TmGood.of h4 (hasV i hi1 hi2) ?_
        have : (tmV i).nodes = 1 := by unfold tmV; rw [Tm.nodes_mk]; rfl
        omega
      | false =>
        simp only [Bool.false_eq_true, if_false]
        refine good_join (G := TmGood g t B) Smk_Deck.wf ?_ ?_
        · -- by the type
          intro d2 hd2
          rcases Ty.kind_cases ht with rfl | rfl | rfl | ⟨a, b, rfl, ha, hb⟩ | ⟨a, b, rfl, ha, hb⟩
          · -- numbers
            simp only [show Ty.nat.kind = 1 from rfl, ieq_iff, if_true]
            refine good_join (G := TmGood g .nat B) Smk_Deck.wf ?_ ?_
            · intro d3 hd3
              obtain ⟨x, d4, h1, h2, h3, h4⟩ := next_ok d3 hd3 3 (by omega) (by omega)
              rw [h1]
              simp only [bind2_of]
              obtain ⟨y, hy1, hy2⟩ := mk_Num_ok x h2 (by omega)
              rw [hy1]
              refine TmGood.of h4 (hy2 g).1 ?_
              have := (hy2 g).2
              rw [Ty.nat_nodes] at hB3
              omega
            · intro j hj
              simp only [igt_iff]
              split
              · rename_i hpos
                have hB := hB hpos
                obtain ⟨x, d4, h1, h2, h3, h4⟩ := next_ok d2 hd2 5 (by omega) (by omega)
                rw [h1]
                simp only [bind2_of, ieq_iff]
                split
                · obtain ⟨a, d5, a1, a2, a3⟩ := deep hpos g .nat d4 (by omega) hg Ty.nat_err htN h4
                  rw [a1]
                  simp only [bind2_of]
                  rw [N_one (by have := wtOf hpos a3; omega)]
                  refine TmGood.of a2 (.succ a3.ty) ?_
                  have := a3.nodes
                  rw [Tm.nodes_mk]; simp only [sumL]; omega
                split
                · rw [ref05_Plus_eq]
                  simp only [bind1_of]
                  obtain ⟨a, d5, a1, a2, a3⟩ := deep hpos g .nat d4 (by omega) hg Ty.nat_err htN h4
                  rw [a1]
                  simp only [bind2_of]
                  obtain ⟨b, d6, b1, b2, b3⟩ := deep hpos g .nat d5 (by omega) hg Ty.nat_err htN a2
                  rw [b1]
                  simp only [bind2_of]
                  rw [mk_App2 (by decide) (by have := wtOf hpos a3; omega) (by have := wtOf hpos b3; omega)]
                  refine TmGood.of b2 (.app (.app (tmPlus_ty g) a3.ty) b3.ty) ?_
                  have := a3.nodes; have := b3.nodes; have := tmPlus_nodes
                  rw [Tm.nodes_mk]; simp only [sumL, Tm.nodes_mk]; omega
                split
                · rw [ref05_Sub_eq]
                  simp only [bind1_of]
                  obtain ⟨a, d5, a1, a2, a3⟩ := deep hpos g .nat d4 (by omega) hg Ty.nat_err htN h4
                  rw [a1]
                  simp only [bind2_of]
                  obtain ⟨b, d6, b1, b2, b3⟩ := deep hpos g .nat d5 (by omega) hg Ty.nat_err htN a2
                  rw [b1]
                  simp only [bind2_of]
                  rw [mk_App2 (by decide) (by have := wtOf hpos a3; omega) (by have := wtOf hpos b3; omega)]
                  refine TmGood.of b2 (.app (.app (tmSub_ty g) a3.ty) b3.ty) ?_
                  have := a3.nodes; have := b3.nodes; have := tmSub_nodes
                  rw [Tm.nodes_mk]; simp only [sumL, Tm.nodes_mk]; omega
                · exact hj d4 h4
              · exact hj d2 hd2
          · -- lists
            simp only [show Ty.lst.kind = 2 from rfl, ieq_iff, if_true, show ¬ (2 : Int) = 1 by omega, if_false]
            refine good_join2 (G := TmGood g .lst B) (fun a c => c.wf ∧ (a = true → 0 < dep)) ?_ ?_
            · rintro a d3 ⟨hd3, hpos⟩
              cases a with
              | true =>
                have hpos := hpos rfl
                have hB := hB hpos
                simp only [if_true]
                rw [ref01_Nat_eq]
                simp only [bind1_of]
                obtain ⟨a, d5, a1, a2, a3⟩ := deep hpos g .nat d3 (by omega) hg Ty.nat_err (by rw [Ty.nat_nodes]; omega) hd3
                rw [a1]
                simp only [bind2_of]
                obtain ⟨b, d6, b1, b2, b3⟩ := deep hpos g .lst d5 (by omega) hg Ty.lst_err htN a2
                rw [b1]
                simp only [bind2_of]
                rw [N_two (by have := wtOf hpos a3; omega) (by have := wtOf hpos b3; omega)]
                refine TmGood.of b2 (.cons a3.ty b3.ty) ?_
                have := a3.nodes; have := b3.nodes
                rw [Tm.nodes_mk]; simp only [sumL]; omega
              | false =>
                simp only [Bool.false_eq_true, if_false]
                rw [N_zero]
                refine TmGood.of hd3 .nil ?_
                rw [Tm.nodes_mk]; simp only [sumL]; omega
            · intro j hj
              simp only [igt_iff]
              split
              · rename_i hpos
                obtain ⟨x, d4, h1, h2, h3, h4⟩ := next_ok d2 hd2 2 (by omega) (by omega)
                rw [h1]
                simp only [bind2_of]
                exact hj _ d4 ⟨h4, fun _ => hpos⟩
              · exact hj _ d2 ⟨hd2, fun h => by cases h⟩
          · simp only [show Ty.unit.kind = 5 from rfl, ieq_iff, show ¬ (5 : Int) = 1 by omega, show ¬ (5 : Int) = 2 by omega, show ¬ (5 : Int) = 3 by omega, show ¬ (5 : Int) = 4 by omega, if_false]
            rw [N_zero]
            refine TmGood.of hd2 .unit ?_
            rw [Tm.nodes_mk]; simp only [sumL]; omega
          · simp only [show (Ty.pr a b).kind = 3 from rfl, show (Ty.pr a b).args = [a, b] from rfl, ieq_iff, show ¬ (3 : Int) = 1 by omega, show ¬ (3 : Int) = 2 by omega, if_true, if_false, lget_zero, lget_one, List.getElem?_cons_zero, List.getElem?_cons_succ, bind1_of]
            rw [Ty.pr_nodes] at htN htn hB3
            by_cases hpos : 0 < dep
            · have hB := hB hpos
              obtain ⟨x, d5, a1, a2, a3⟩ := deep hpos g a d2 (by omega) hg ha (by omega) hd2
              rw [a1]
              simp only [bind2_of]
              obtain ⟨y, d6, b1, b2, b3⟩ := deep hpos g b d5 (by omega) hg hb (by omega) a2
              rw [b1]
              simp only [bind2_of]
              rw [N_two (by have := wtOf hpos a3; omega) (by have := wtOf hpos b3; omega)]
              refine TmGood.of b2 (.pair ht a3.ty b3.ty) ?_
              have := a3.nodes; have := b3.nodes
              rw [Tm.nodes_mk]; simp only [sumL]; omega
            · have hnd := Ty.pr_nodes a b
              obtain ⟨x, d5, a1, a2, a3⟩ := flat (by omega) g a d2 (by omega) (by omega) hg ha hd2
              rw [a1]
              simp only [bind2_of]
              obtain ⟨y, d6, b1, b2, b3⟩ := flat (by omega) g b d5 (by omega) (by omega) hg hb a2
              rw [b1]
              simp only [bind2_of]
              have := a3.nodes; have := b3.nodes
              rw [N_two (by have := a3.wt; omega) (by have := b3.wt; omega)]
              refine TmGood.of b2 (.pair ht a3.ty b3.ty) ?_
              rw [Tm.nodes_mk]; simp only [sumL]; omega
          · simp only [show (Ty.fn a b).kind = 4 from rfl, show (Ty.fn a b).args = [a, b] from rfl, ieq_iff, show ¬ (4 : Int) = 1 by omega, show ¬ (4 : Int) = 2 by omega, show ¬ (4 : Int) = 3 by omega, if_true, if_false, lget_zero, lget_one, List.getElem?_cons_zero, List.getElem?_cons_succ, bind1_of]
            have hnd := Ty.fn_nodes a b
            rw [mk_longer_eq g [a] (by simp; omega)]
            simp only [bind1_of]
            have hg' : CtxOk N (g ++ [a]) := hg.app (by intro s hs; rw [List.mem_singleton] at hs; subst hs; exact ⟨ha, by omega⟩)
            by_cases hpos : 0 < dep
            · have hB := hB hpos
              obtain ⟨x, d5, a1, a2, a3⟩ := deep hpos (g ++ [a]) b d2 (by simp) hg' hb (by omega) hd2
              rw [a1]
              simp only [bind2_of]
              rw [T_one (by omega) (by have := wtOf hpos a3; omega)]
              refine TmGood.of a2 (.lam ht a3.ty) ?_
              have := a3.nodes
              rw [Tm.nodes_mk]; simp only [sumL]; omega
            · obtain ⟨x, d5, a1, a2, a3⟩ := flat (by omega) (g ++ [a]) b d2 (by simp) (by omega) hg' hb hd2
              rw [a1]
              simp only [bind2_of]
              have := a3.nodes
              rw [T_one (by omega) (by have := a3.wt; omega)]
              refine TmGood.of a2 (.lam ht a3.ty) ?_
              rw [Tm.nodes_mk]; simp only [sumL]; omega
        · -- a redex, or one of the context
          intro j hj
          simp only [igt_iff]
          split
          · rename_i hpos
            have hB := hB hpos
            obtain ⟨x, d2, h1, h2, h3, h4⟩ := next_ok d1 hd1 8 (by omega) (by omega)
            rw [h1]
            simp only [bind2_of, ieq_iff]
            have leaf : ∀ d, Smk_Deck.wf d → ∃ s d', mk_Type FU d 0 = some (s, d') ∧ s.err = 0 ∧ s.nodes = 1 ∧ d'.wf := by
              intro d hd
              obtain ⟨s, d', c1, c2, c3, c4⟩ := mk_Type' d hd 0 (by omega)
              have := s.nodes_pos
              exact ⟨s, d', c1, c2, by omega, c4⟩
            split
            · obtain ⟨s, d3, s1, s2, s3, s4⟩ := leaf d2 h4
              rw [s1]
              simp only [bind2_of]
              rw [mk_longer_eq g [s] (by simp; omega)]
              simp only [bind1_of]
              obtain ⟨a, d5, a1, a2, a3⟩ := deep hpos (g ++ [s]) t d3 (by simp) (hg.app (by intro u hu; rw [List.mem_singleton] at hu; subst hu; exact ⟨s2, by omega⟩)) ht htN s4
              rw [a1]
              simp only [bind2_of]
              rw [T_one (by omega) (by have := wtOf hpos a3; omega)]
              simp only [bind1_of]
              obtain ⟨b, d6, b1, b2, b3⟩ := deep hpos g s d5 (by omega) hg s2 (by omega) a2
              rw [b1]
              simp only [bind2_of]
              have w1 := wtOf hpos a3
              rw [N_two (by rw [Tm.wt_mk]; simp only [sumL]; omega) (by have := wtOf hpos b3; omega)]
              refine TmGood.of b2 (.app (.lam (Ty.fn_err s2 ht (by omega)) a3.ty) b3.ty) ?_
              have := a3.nodes; have := b3.nodes
              rw [Tm.nodes_mk]; simp only [sumL, Tm.nodes_mk]; omega
            split
            · obtain ⟨s, d3, s1, s2, s3, s4⟩ := leaf d2 h4
              rw [s1]
              simp only [bind2_of]
              obtain ⟨a, d5, a1, a2, a3⟩ := deep hpos g t d3 (by omega) hg ht htN s4
              rw [a1]
              simp only [bind2_of]
              obtain ⟨b, d6, b1, b2, b3⟩ := deep hpos g s d5 (by omega) hg s2 (by omega) a2
              rw [b1]
              simp only [bind2_of]
              have w1 := wtOf hpos a3
              have w2 := wtOf hpos b3
              rw [N_two (by omega) (by omega)]
              simp only [bind1_of]
              rw [N_one (by rw [Tm.wt_mk]; have : Ty.z.nodes = 1 := rfl; simp only [sumL]; omega)]
              refine TmGood.of b2 (.fst (.pair (Ty.pr_err ht s2 (by omega)) a3.ty b3.ty)) ?_
              have := a3.nodes; have := b3.nodes
              rw [Tm.nodes_mk]; simp only [sumL, Tm.nodes_mk]; omega
            split
            · rw [ref01_Nat_eq]
              simp only [bind1_of]
              rw [mk_longer_eq g [.nat, t] (by simp; omega)]
              simp only [bind1_of]
              have hg' : CtxOk N (g ++ [.nat, t]) := hg.app (by
                intro u hu
                simp only [List.mem_cons, List.not_mem_nil, or_false] at hu
                rcases hu with rfl | rfl
                · exact ⟨Ty.nat_err, by rw [Ty.nat_nodes]; omega⟩
                · exact ⟨ht, htN⟩)
              obtain ⟨a, d5, a1, a2, a3⟩ := deep hpos (g ++ [.nat, t]) t d2 (by simp) hg' ht htN h4
              rw [a1]
              simp only [bind2_of]
              have w1 := wtOf hpos a3
              have nn := Ty.nat_nodes
              rw [T_one (by omega) (by omega)]
              simp only [bind1_of]
              rw [T_one (by omega) (by rw [Tm.wt_mk]; simp only [sumL]; omega)]
              simp only [bind1_of]
              obtain ⟨b, d6, b1, b2, b3⟩ := deep hpos g t d5 (by omega) hg ht htN a2
              rw [b1]
              simp only [bind2_of]
              obtain ⟨y, d7, y1, y2, y3, y4⟩ := next_ok d6 b2 3 (by omega) (by omega)
              rw [y1]
              simp only [bind2_of]
              obtain ⟨z, z1, z2⟩ := mk_Num_ok y y2 (by omega)
              rw [z1]
              simp only [bind1_of]
              have w2 := wtOf hpos b3
              have zn := (z2 g).2
              have zw := z.ok_wt (z2 g).1.ok
              have e1 : (Tm.mk 2 0 .nat [Tm.mk 2 0 t [a]]).wt ≤ 2000000 := by rw [Tm.wt_mk]; simp only [sumL, Tm.wt_mk]; omega
              rw [T_three (by omega) (by omega) (by omega) (by omega)]
              have ety : (Ty.fn t t).err = 0 := Ty.fn_err ht ht (by omega)
              refine TmGood.of y4 (.recN ht b3.ty (.lam (Ty.fn_err Ty.nat_err ety (by rw [Ty.fn_nodes]; omega)) (.lam ety (by simpa using a3.ty))) (z2 g).1) ?_
              have := a3.nodes; have := b3.nodes
              rw [Tm.nodes_mk]; simp only [sumL, Tm.nodes_mk]; omega
            split
            · rw [ref01_Nat_eq, ref01_List_eq]
              simp only [bind1_of]
              rw [mk_longer_eq g [.nat, .lst, t] (by simp; omega)]
              simp only [bind1_of]
              have hg' : CtxOk N (g ++ [.nat, .lst, t]) := hg.app (by
                intro u hu
                simp only [List.mem_cons, List.not_mem_nil, or_false] at hu
                rcases hu with rfl | rfl | rfl
                · exact ⟨Ty.nat_err, by rw [Ty.nat_nodes]; omega⟩
                · exact ⟨Ty.lst_err, by rw [Ty.lst_nodes]; omega⟩
                · exact ⟨ht, htN⟩)
              obtain ⟨a, d5, a1, a2, a3⟩ := deep hpos (g ++ [.nat, .lst, t]) t d2 (by simp) hg' ht htN h4
              rw [a1]
              simp only [bind2_of]
              have w1 := wtOf hpos a3
              have nn := Ty.nat_nodes
              have ln := Ty.lst_nodes
              rw [T_one (by omega) (by omega)]
              simp only [bind1_of]
              rw [T_one (by omega) (by rw [Tm.wt_mk]; simp only [sumL]; omega)]
              simp only [bind1_of]
              rw [T_one (by omega) (by rw [Tm.wt_mk]; simp only [sumL, Tm.wt_mk]; omega)]
              simp only [bind1_of]
              obtain ⟨b, d6, b1, b2, b3⟩ := deep hpos g t d5 (by omega) hg ht htN a2
              rw [b1]
              simp only [bind2_of]
              obtain ⟨c, d7, c1, c2, c3⟩ := deep hpos g .lst d6 (by omega) hg Ty.lst_err (by omega) b2
              rw [c1]
              simp only [bind2_of]
              have w2 := wtOf hpos b3
              have w3 := wtOf hpos c3
              have e1 : (Tm.mk 2 0 .nat [Tm.mk 2 0 .lst [Tm.mk 2 0 t [a]]]).wt ≤ 2000000 := by rw [Tm.wt_mk]; simp only [sumL, Tm.wt_mk]; omega
              rw [T_three (by omega) (by omega) (by omega) (by omega)]
              have ety : (Ty.fn t t).err = 0 := Ty.fn_err ht ht (by omega)
              have ety2 : (Ty.fn .lst (Ty.fn t t)).err = 0 := Ty.fn_err Ty.lst_err ety (by rw [Ty.fn_nodes]; omega)
              refine TmGood.of c2 (.fold ht b3.ty (.lam (Ty.fn_err Ty.nat_err ety2 (by rw [Ty.fn_nodes, Ty.fn_nodes]; omega)) (.lam ety2 (.lam ety (by simpa using a3.ty)))) c3.ty) ?_
              have := a3.nodes; have := b3.nodes; have := c3.nodes
              rw [Tm.nodes_mk]; simp only [sumL, Tm.nodes_mk]; omega
            split
            · obtain ⟨s, d3, s1, s2, s3, s4⟩ := leaf d2 h4
              rw [s1]
              simp only [bind2_of]
              obtain ⟨a, d5, a1, a2, a3⟩ := deep hpos g s d3 (by omega) hg s2 (by omega) s4
              rw [a1]
              simp only [bind2_of]
              obtain ⟨b, d6, b1, b2, b3⟩ := deep hpos g t d5 (by omega) hg ht htN a2
              rw [b1]
              simp only [bind2_of]
              have w1 := wtOf hpos a3
              have w2 := wtOf hpos b3
              rw [N_two (by omega) (by omega)]
              simp only [bind1_of]
              rw [N_one (by rw [Tm.wt_mk]; have : Ty.z.nodes = 1 := rfl; simp only [sumL]; omega)]
              refine TmGood.of b2 (.snd (.pair (Ty.pr_err s2 ht (by omega)) a3.ty b3.ty)) ?_
              have := a3.nodes; have := b3.nodes
              rw [Tm.nodes_mk]; simp only [sumL, Tm.nodes_mk]; omega
            split
            · -- a function of the context
              rw [okLen_of (by omega), chk_true]
              simp only [joinB_eq]
              rcases forR_indR (fun _ : Unit => True) (fun r : Tm × Smk_Deck => TmGood g t B (some r)) (F := fun (j1024 : Int) (x1026 : Ty) (_ : Unit) =>
                  bind1 (lget g (isub .i64 (isub .i64 (llen g) 1) j1024)) fun x1318 =>
                    if x1318.kind = 4 then bind1 (lget x1318.args 1) fun x1341 => bind1 (ref01_Same FU x1341 t) fun x1344 =>
                      if x1344 = true then bind1 (ref02_Var j1024) fun x1369 => bind1 (lget x1318.args 0) fun x1372 => bind2 (mk_Term n d2 g x1372 (isub .i64 dep 1)) fun x1375 d1376 =>
                        bind1 (ref02_N 3 [x1369, x1375]) fun x1379 => some (Ctl.ret (x1379, d1376))
                      else some (Ctl.next ())
                    else if false = true then bind1 (ref02_Var j1024) fun x1369 => bind1 (lget x1318.args 0) fun x1372 => bind2 (mk_Term n d2 g x1372 (isub .i64 dep 1)) fun x1375 d1376 =>
                        bind1 (ref02_N 3 [x1369, x1375]) fun x1379 => some (Ctl.ret (x1379, d1376))
                      else some (Ctl.next ())) g 0 () trivial (by
                intro k u s hk _
                have hlt : k < g.length := (List.getElem?_eq_some_iff.1 hk).1
                have hlt2 : g.length - 1 - k < g.length := by omega
                have e1 : lget g (isub .i64 (isub .i64 (llen g) 1) ((0 + k : Nat) : Int)) = some g[g.length - 1 - k] := by
                  rw [Nat.zero_add, llen_eq, isub_in (a := (g.length : Int)) (b := 1) (by omega) (by omega), isub_in (by omega) (by omega), show (g.length : Int) - 1 - (k : Int) = ((g.length - 1 - k : Nat) : Int) by omega, lget_ofNat]
                  simp [hlt2]
                simp only [e1, bind1_of]
                have hf := hg.all _ (List.getElem_mem hlt2)
                have hf2 : g[g.length - 1 - k]? = some g[g.length - 1 - k] := List.getElem?_eq_getElem hlt2
                generalize g[g.length - 1 - k] = f at hf hf2 ⊢
                rcases Ty.kind_cases hf.1 with rfl | rfl | rfl | ⟨a, b, rfl, ha, hb⟩ | ⟨a, b, rfl, ha, hb⟩
                · left; exact ⟨(), rfl, trivial⟩
                · left; exact ⟨(), rfl, trivial⟩
                · left; exact ⟨(), rfl, trivial⟩
                · left; exact ⟨(), rfl, trivial⟩
                · simp only [show (Ty.fn a b).kind = 4 from rfl, show (Ty.fn a b).args = [a, b] from rfl, ieq_iff, if_true, lget_zero, lget_one, List.getElem?_cons_zero, List.getElem?_cons_succ, bind1_of]
                  have hfn := hf.2
                  rw [Ty.fn_nodes] at hfn
                  rw [ref01_Same' (by omega)]
                  simp only [bind1_of]
                  cases hs : b.sameB t with
                  | false => left; exact ⟨(), rfl, trivial⟩
                  | true =>
                    rw [Ty.sameB_iff] at hs
                    subst hs
                    right
                    simp only [if_true, Nat.zero_add]
                    rw [ref02_Var_eq]
                    simp only [bind1_of]
                    obtain ⟨y, d5, a1, a2, a3⟩ := deep hpos g a d2 (by omega) hg ha (by omega) h4
                    rw [a1]
                    simp only [bind2_of]
                    have w1 := wtOf hpos a3
                    have e2 : (tmV k).wt = 2 := by unfold tmV; rw [Tm.wt_mk]; rfl
                    rw [N_two (by omega) (by omega)]
                    refine ⟨_, rfl, TmGood.of a2 (.app (hasV k hlt hf2) a3.ty) ?_⟩
                    have := a3.nodes
                    have e3 : (tmV k).nodes = 1 := by unfold tmV; rw [Tm.nodes_mk]; rfl
                    rw [Tm.nodes_mk]; simp only [sumL]; omega) with ⟨s, hs, _⟩ | ⟨r, hr, hr2⟩
              · rw [hs]
                exact hj d2 h4
              · rw [hr]
                exact hr2
            · exact hj d2 h4
          · exact hj d1 hd1
    · intro j hj
      simp only [igt_iff, llen_eq]
      split
      · rename_i hpos
        obtain ⟨x, d2, h1, h2, h3, h4⟩ := next_ok d hd 3 (by omega) (by omega)
        rw [h1]
        simp only [bind2_of]
        exact hj _ d2 ⟨h4, fun _ h => by subst h; simp at hpos⟩
      · exact hj _ d ⟨hd, fun h => by cases h⟩
end Go.Mdl
