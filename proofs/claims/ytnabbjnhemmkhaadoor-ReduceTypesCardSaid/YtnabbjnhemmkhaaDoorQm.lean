/-
  Parallel steps: all roads meet.
-/
import Derived.Test.YtnabbjnhemmkhaaDoorQl
set_option linter.unusedSimpArgs false
set_option linter.unusedVariables false
namespace Go.Mdl
open Go

theorem Par.inv0 {k i : Int} {s : Ty} {v : Tm} (h : Par (.mk k i s []) v) : v = .mk k i s [] := by
  generalize hx : Tm.mk k i s [] = x at h
  cases h <;> simp only [Tm.mk.injEq, reduceCtorEq, and_false, List.cons.injEq, false_and] at hx
  obtain ⟨rfl, rfl, rfl, _⟩ := hx
  rfl
theorem Par.inv1 {k i : Int} {s : Ty} {a v : Tm} (h : Par (.mk k i s [a]) v) (h1 : k ≠ 11) (h2 : k ≠ 12) : ∃ a', v = .mk k i s [a'] ∧ Par a a' := by
  generalize hx : Tm.mk k i s [a] = x at h
  cases h <;> simp only [Tm.mk.injEq, reduceCtorEq, and_false, List.cons.injEq, false_and, and_true] at hx
  · obtain ⟨rfl, rfl, rfl, rfl⟩ := hx
    exact ⟨_, rfl, by assumption⟩
  · exact absurd hx.1 h1
  · exact absurd hx.1 h2
theorem Par.inv2 {k i : Int} {s : Ty} {a b v : Tm} (h : Par (.mk k i s [a, b]) v) (h1 : k ≠ 3) : ∃ a' b', v = .mk k i s [a', b'] ∧ Par a a' ∧ Par b b' := by
  generalize hx : Tm.mk k i s [a, b] = x at h
  cases h <;> simp only [Tm.mk.injEq, reduceCtorEq, and_false, List.cons.injEq, false_and, and_true] at hx
  · obtain ⟨rfl, rfl, rfl, rfl, rfl⟩ := hx
    exact ⟨_, _, rfl, by assumption, by assumption⟩
  · exact absurd hx.1 h1

mutual
/-- All redexes at once. -/
def Tm.dev : Tm → Tm
  | .mk k i s l => if (Tm.mk k i s l).root = true then (Tm.mk k i s (Tm.devL l)).contr else .mk k i s (Tm.devL l)
def Tm.devL : List Tm → List Tm
  | [] => []
  | t :: l => t.dev :: Tm.devL l
end
theorem Tm.devL_eq (l : List Tm) : Tm.devL l = l.map Tm.dev := by
  induction l with
  | nil => rfl
  | cons t l ih => simp [Tm.devL, ih]
theorem Tm.dev_root {k i : Int} {s : Ty} {l : List Tm} (h : (Tm.mk k i s l).root = true) : (Tm.mk k i s l).dev = (Tm.mk k i s (l.map Tm.dev)).contr := by rw [Tm.dev, Tm.devL_eq, if_pos h]
theorem Tm.dev_no {k i : Int} {s : Ty} {l : List Tm} (h : ¬ (Tm.mk k i s l).root = true) : (Tm.mk k i s l).dev = Tm.mk k i s (l.map Tm.dev) := by rw [Tm.dev, Tm.devL_eq, if_neg h]
theorem root_beta (i : Int) (s : Ty) (j : Int) (u : Ty) (l : List Tm) (a : Tm) : (Tm.mk 3 i s [.mk 2 j u l, a]).root = true := by simp [Tm.root, Tm.kd]
theorem dev_lam (j : Int) (u : Ty) (b : Tm) : (Tm.mk 2 j u [b]).dev = .mk 2 j u [b.dev] := Tm.dev_no (by simp [Tm.root])
theorem dev_zero (j : Int) (u : Ty) : (Tm.mk 4 j u []).dev = .mk 4 j u [] := Tm.dev_no (by simp [Tm.root])
theorem dev_succ (j : Int) (u : Ty) (b : Tm) : (Tm.mk 5 j u [b]).dev = .mk 5 j u [b.dev] := Tm.dev_no (by simp [Tm.root])
theorem dev_nil (j : Int) (u : Ty) : (Tm.mk 7 j u []).dev = .mk 7 j u [] := Tm.dev_no (by simp [Tm.root])
theorem dev_cons (j : Int) (u : Ty) (a b : Tm) : (Tm.mk 8 j u [a, b]).dev = .mk 8 j u [a.dev, b.dev] := Tm.dev_no (by simp [Tm.root])
theorem dev_pair (j : Int) (u : Ty) (a b : Tm) : (Tm.mk 10 j u [a, b]).dev = .mk 10 j u [a.dev, b.dev] := Tm.dev_no (by simp [Tm.root])
theorem dev_beta (i : Int) (s : Ty) (j : Int) (u : Ty) (b a : Tm) : (Tm.mk 3 i s [.mk 2 j u [b], a]).dev = Tm.inn 0 b.dev a.dev := by
  rw [Tm.dev_root (root_beta _ _ _ _ _ _)]
  simp only [List.map_cons, List.map_nil, dev_lam]
  simp [Tm.contr]
theorem dev_rec0 (i : Int) (s : Ty) (j : Int) (u : Ty) (b c : Tm) : (Tm.mk 6 i s [b, c, .mk 4 j u []]).dev = b.dev := by
  rw [Tm.dev_root (by simp [Tm.root, Tm.kd])]
  simp only [List.map_cons, List.map_nil, dev_zero]
  simp [Tm.contr]
theorem dev_recS (i : Int) (s : Ty) (j : Int) (u : Ty) (b c n : Tm) : (Tm.mk 6 i s [b, c, .mk 5 j u [n]]).dev = appL c.dev [n.dev, .mk 6 i s [b.dev, c.dev, n.dev]] := by
  rw [Tm.dev_root (by simp [Tm.root, Tm.kd])]
  simp only [List.map_cons, List.map_nil, dev_succ]
  simp [Tm.contr]
theorem dev_fold0 (i : Int) (s : Ty) (j : Int) (u : Ty) (b c : Tm) : (Tm.mk 9 i s [b, c, .mk 7 j u []]).dev = b.dev := by
  rw [Tm.dev_root (by simp [Tm.root, Tm.kd])]
  simp only [List.map_cons, List.map_nil, dev_nil]
  simp [Tm.contr]
theorem dev_foldS (i : Int) (s : Ty) (j : Int) (u : Ty) (b c n t : Tm) : (Tm.mk 9 i s [b, c, .mk 8 j u [n, t]]).dev = appL c.dev [n.dev, t.dev, .mk 9 i s [b.dev, c.dev, t.dev]] := by
  rw [Tm.dev_root (by simp [Tm.root, Tm.kd])]
  simp only [List.map_cons, List.map_nil, dev_cons]
  simp [Tm.contr]
theorem dev_fst (i : Int) (s : Ty) (j : Int) (u : Ty) (a b : Tm) : (Tm.mk 11 i s [.mk 10 j u [a, b]]).dev = a.dev := by
  rw [Tm.dev_root (by simp [Tm.root, Tm.kd])]
  simp only [List.map_cons, List.map_nil, dev_pair]
  simp [Tm.contr]
theorem dev_snd (i : Int) (s : Ty) (j : Int) (u : Ty) (a b : Tm) : (Tm.mk 12 i s [.mk 10 j u [a, b]]).dev = b.dev := by
  rw [Tm.dev_root (by simp [Tm.root, Tm.kd])]
  simp only [List.map_cons, List.map_nil, dev_pair]
  simp [Tm.contr]

theorem Tm.eta_kind {t : Tm} {k : Int} (h : t.kind = k) : t = .mk k t.index t.typeF t.args := by
  cases t with
  | mk k' i s l => simp at h; subst h; rfl

/-- A parallel step can always be made up to all redexes. -/
theorem Par.tri {t u : Tm} (h : Par t u) : t.ok = true → Par u t.dev := by
  induction h with
  | n0 k i s => intro _; rw [Tm.dev_no (by simp [Tm.root, Tm.kd])]; exact .n0 _ _ _
  | @n1 k i s a a' h ih =>
    intro ho
    have hoa := Tm.ok_arg ho a (by simp)
    have ih := ih hoa
    by_cases hr : (Tm.mk k i s [a]).root = true
    · have hk : (k = 11 ∨ k = 12) ∧ a.kind = 10 := by
        have hl := Tm.ok_len ho
        have e3 : tmArgs 3 = 2 := rfl
        have : k ≠ 3 := by rintro rfl; simp at hl; omega
        simpa [Tm.root, Tm.kd, this] using hr
      obtain ⟨hk, hk2⟩ := hk
      rw [Tm.eta_kind hk2] at h hoa ih ⊢
      obtain ⟨p, q, hpq⟩ := Tm.ok10 hoa
      rw [hpq] at h hoa ih ⊢
      obtain ⟨p', q', rfl, h1, h2⟩ := h.inv2 (by decide)
      rw [dev_pair] at ih
      obtain ⟨p2, q2, e, h3, h4⟩ := ih.inv2 (by decide)
      simp only [Tm.mk.injEq, List.cons.injEq, and_true, true_and] at e
      obtain ⟨rfl, rfl⟩ := e
      rcases hk with rfl | rfl
      · rw [dev_fst]; exact .fst _ _ _ _ _ h3
      · rw [dev_snd]; exact .snd _ _ _ _ _ h4
    · rw [Tm.dev_no hr]; exact .n1 _ _ _ ih
  | @n2 k i s a a' b b' ha hb iha ihb =>
    intro ho
    have hoa := Tm.ok_arg ho a (by simp)
    have iha := iha hoa
    have ihb := ihb (Tm.ok_arg ho b (by simp))
    by_cases hr : (Tm.mk k i s [a, b]).root = true
    · have hk : k = 3 ∧ a.kind = 2 := by
        have hl := Tm.ok_len ho
        have e1 : tmArgs 11 = 1 := rfl
        have e2 : tmArgs 12 = 1 := rfl
        have n1 : k ≠ 11 := by rintro rfl; simp at hl; omega
        have n2 : k ≠ 12 := by rintro rfl; simp at hl; omega
        simpa [Tm.root, Tm.kd, n1, n2] using hr
      obtain ⟨rfl, hk2⟩ := hk
      rw [Tm.eta_kind hk2] at ha hoa iha ⊢
      obtain ⟨p, hp⟩ := Tm.ok2 hoa
      rw [hp] at ha hoa iha ⊢
      obtain ⟨p', rfl, h1⟩ := ha.inv1 (by decide) (by decide)
      rw [dev_lam] at iha
      obtain ⟨p2, e, h3⟩ := iha.inv1 (by decide) (by decide)
      simp only [Tm.mk.injEq, List.cons.injEq, and_true, true_and] at e
      subst e
      rw [dev_beta]
      exact .beta _ _ _ _ h3 ihb
    · rw [Tm.dev_no hr]; exact .n2 _ _ _ iha ihb
  | @n3 k i s a a' b b' c c' ha hb hc iha ihb ihc =>
    intro ho
    have hoc := Tm.ok_arg ho c (by simp)
    have iha := iha (Tm.ok_arg ho a (by simp))
    have ihb := ihb (Tm.ok_arg ho b (by simp))
    have ihc := ihc hoc
    by_cases hr : (Tm.mk k i s [a, b, c]).root = true
    · have hk : (k = 6 ∧ (c.kind = 4 ∨ c.kind = 5)) ∨ (k = 9 ∧ (c.kind = 7 ∨ c.kind = 8)) := by
        have hl := Tm.ok_len ho
        have e0 : tmArgs 3 = 2 := rfl
        have e1 : tmArgs 11 = 1 := rfl
        have e2 : tmArgs 12 = 1 := rfl
        have n0 : k ≠ 3 := by rintro rfl; simp at hl; omega
        have n1 : k ≠ 11 := by rintro rfl; simp at hl; omega
        have n2 : k ≠ 12 := by rintro rfl; simp at hl; omega
        simpa [Tm.root, Tm.kd, n0, n1, n2] using hr
      rcases hk with ⟨rfl, hk | hk⟩ | ⟨rfl, hk | hk⟩
      · rw [Tm.eta_kind hk] at hc hoc ihc ⊢
        have hp := Tm.ok0 (.inl rfl) hoc
        rw [hp] at hc hoc ihc ⊢
        obtain rfl := hc.inv0
        rw [dev_rec0]
        exact .rec0 _ _ _ _ _ iha
      · rw [Tm.eta_kind hk] at hc hoc ihc ⊢
        obtain ⟨p, hp⟩ := Tm.ok5 hoc
        rw [hp] at hc hoc ihc ⊢
        obtain ⟨p', rfl, h1⟩ := hc.inv1 (by decide) (by decide)
        rw [dev_succ] at ihc
        obtain ⟨p2, e, h3⟩ := ihc.inv1 (by decide) (by decide)
        simp only [Tm.mk.injEq, List.cons.injEq, and_true, true_and] at e
        subst e
        rw [dev_recS]
        exact .recS _ _ _ _ iha ihb h3
      · rw [Tm.eta_kind hk] at hc hoc ihc ⊢
        have hp := Tm.ok0 (.inr rfl) hoc
        rw [hp] at hc hoc ihc ⊢
        obtain rfl := hc.inv0
        rw [dev_fold0]
        exact .fold0 _ _ _ _ _ iha
      · rw [Tm.eta_kind hk] at hc hoc ihc ⊢
        obtain ⟨p, q, hp⟩ := Tm.ok8 hoc
        rw [hp] at hc hoc ihc ⊢
        obtain ⟨p', q', rfl, h1, h2⟩ := hc.inv2 (by decide)
        rw [dev_cons] at ihc
        obtain ⟨p2, q2, e, h3, h4⟩ := ihc.inv2 (by decide)
        simp only [Tm.mk.injEq, List.cons.injEq, and_true, true_and] at e
        obtain ⟨rfl, rfl⟩ := e
        rw [dev_foldS]
        exact .foldS _ _ _ _ iha ihb h3 h4
    · rw [Tm.dev_no hr]; exact .n3 _ _ _ iha ihb ihc
  | @beta i s j u b b' a a' h1 h2 ih1 ih2 =>
    intro ho
    have hob := Tm.ok_arg (Tm.ok_arg ho (Tm.mk 2 j u [b]) (by simp)) b (by simp)
    have hoa := Tm.ok_arg ho a (by simp)
    rw [dev_beta]
    exact (ih1 hob).inn (ih2 hoa) (h2.ok hoa) (h1.ok hob) 0 (by omega)
  | rec0 i s j u c _ ih => intro ho; rw [dev_rec0]; exact ih (Tm.ok_arg ho _ (by simp))
  | @recS i s j u b b' c c' n n' _ _ _ ih1 ih2 ih3 =>
    intro ho
    have h0 := Tm.ok_arg ho (Tm.mk 5 j u [n]) (by simp)
    have g1 := ih1 (Tm.ok_arg ho _ (by simp))
    have g2 := ih2 (Tm.ok_arg ho _ (by simp))
    have g3 := ih3 (Tm.ok_arg h0 _ (by simp))
    rw [dev_recS]
    exact .n2 _ _ _ (.n2 _ _ _ g2 g3) (.n3 _ _ _ g1 g2 g3)
  | fold0 i s j u c _ ih => intro ho; rw [dev_fold0]; exact ih (Tm.ok_arg ho _ (by simp))
  | @foldS i s j u b b' c c' n n' t t' _ _ _ _ ih1 ih2 ih3 ih4 =>
    intro ho
    have h0 := Tm.ok_arg ho (Tm.mk 8 j u [n, t]) (by simp)
    have g1 := ih1 (Tm.ok_arg ho _ (by simp))
    have g2 := ih2 (Tm.ok_arg ho _ (by simp))
    have g3 := ih3 (Tm.ok_arg h0 _ (by simp))
    have g4 := ih4 (Tm.ok_arg h0 _ (by simp))
    rw [dev_foldS]
    exact .n2 _ _ _ (.n2 _ _ _ (.n2 _ _ _ g2 g3) g4) (.n3 _ _ _ g1 g2 g4)
  | @fst i s j u b a a' _ ih => intro ho; rw [dev_fst]; exact ih (Tm.ok_arg (Tm.ok_arg ho (Tm.mk 10 j u [a, b]) (by simp)) _ (by simp))
  | @snd i s j u a b b' _ ih => intro ho; rw [dev_snd]; exact ih (Tm.ok_arg (Tm.ok_arg ho (Tm.mk 10 j u [a, b]) (by simp)) _ (by simp))

/-! ### many steps -/
inductive Star : Tm → Tm → Prop
  | refl (t : Tm) : Star t t
  | step {t u v : Tm} : Par t u → Star u v → Star t v
theorem Star.ok {t u : Tm} (h : Star t u) : t.ok = true → u.ok = true := by
  induction h with
  | refl => exact id
  | step h _ ih => exact fun ho => ih (h.ok ho)
theorem Star.trans {t u v : Tm} (h : Star t u) (h2 : Star u v) : Star t v := by
  induction h with
  | refl => exact h2
  | step h _ ih => exact .step h (ih h2)
theorem Star.strip {t v : Tm} (h : Star t v) : ∀ u, t.ok = true → Par t u → ∃ w, Star u w ∧ Par v w := by
  induction h with
  | refl t => exact fun u _ hu => ⟨u, .refl _, hu⟩
  | @step t a v h1 _ ih =>
    intro u ho hu
    obtain ⟨w, w1, w2⟩ := ih t.dev (h1.ok ho) (h1.tri ho)
    exact ⟨w, .step (hu.tri ho) w1, w2⟩
theorem Star.meet {t u : Tm} (h : Star t u) : ∀ v, t.ok = true → Star t v → ∃ w, Star u w ∧ Star v w := by
  induction h with
  | refl t => exact fun v _ hv => ⟨v, hv, .refl _⟩
  | @step t a u h1 _ ih =>
    intro v ho hv
    obtain ⟨w, w1, w2⟩ := hv.strip a ho h1
    obtain ⟨z, z1, z2⟩ := ih w (h1.ok ho) w1
    exact ⟨z, z1, .step w2 z2⟩
theorem nf_inv {k i : Int} {s : Ty} {l : List Tm} (h : (Tm.mk k i s l).nf = true) : (Tm.mk k i s l).root = false ∧ ∀ a ∈ l, a.nf = true := by
  rw [Tm.nf_mk] at h
  simpa using h
theorem Par.nf {t u : Tm} (h : Par t u) : t.nf = true → u = t := by
  induction h with
  | n0 => intro _; rfl
  | n1 k i s _ ih => intro hn; rw [ih ((nf_inv hn).2 _ (by simp))]
  | n2 k i s _ _ ih1 ih2 => intro hn; rw [ih1 ((nf_inv hn).2 _ (by simp)), ih2 ((nf_inv hn).2 _ (by simp))]
  | n3 k i s _ _ _ ih1 ih2 ih3 => intro hn; rw [ih1 ((nf_inv hn).2 _ (by simp)), ih2 ((nf_inv hn).2 _ (by simp)), ih3 ((nf_inv hn).2 _ (by simp))]
  | _ => intro hn; have := (nf_inv hn).1; simp [Tm.root, Tm.kd] at this
theorem Star.nf {t u : Tm} (h : Star t u) : t.nf = true → u = t := by
  induction h with
  | refl => intro _; rfl
  | step h _ ih =>
    intro hn
    have := h.nf hn
    subst this
    exact ih hn
/-- There is one normal form at most. -/
theorem Star.unique {t a b : Tm} (ho : t.ok = true) (ha : Star t a) (hb : Star t b) (na : a.nf = true) (nb : b.nf = true) : a = b := by
  obtain ⟨w, w1, w2⟩ := ha.meet b ho hb
  rw [← w1.nf na, ← w2.nf nb]

inductive ParL : List Tm → List Tm → Prop
  | nil : ParL [] []
  | cons {a b : Tm} {l m : List Tm} : Par a b → ParL l m → ParL (a :: l) (b :: m)
theorem Par.list {k i : Int} {s : Ty} : ∀ {l m : List Tm}, ParL l m → l.length ≤ 3 → Par (.mk k i s l) (.mk k i s m)
  | _, _, .nil, _ => .n0 _ _ _
  | _, _, .cons h .nil, _ => .n1 _ _ _ h
  | _, _, .cons h (.cons h2 .nil), _ => .n2 _ _ _ h h2
  | _, _, .cons h (.cons h2 (.cons h3 .nil)), _ => .n3 _ _ _ h h2 h3
  | _, _, .cons h (.cons h2 (.cons h3 (.cons h4 _))), hl => by simp at hl
theorem tmArgs_le (k : Int) : tmArgs k ≤ 3 := by unfold tmArgs; repeat' (first | omega | split)
theorem Tm.ok_le {k i : Int} {s : Ty} {l : List Tm} (h : (Tm.mk k i s l).ok = true) : l.length ≤ 3 := by
  have := Tm.ok_len h
  have := tmArgs_le k
  omega
theorem Par.refl (t : Tm) : t.ok = true → Par t t := by
  induction t using Tm.ind with
  | h k i s l ih =>
    intro ho
    have ha : ∀ m : List Tm, (∀ t ∈ m, t ∈ l) → ParL m m := by
      intro m
      induction m with
      | nil => exact fun _ => .nil
      | cons t m ihm => exact fun hm => .cons (ih t (hm t (by simp)) (Tm.ok_arg ho t (hm t (by simp)))) (ihm fun u hu => hm u (by simp [hu]))
    exact Par.list (ha l fun t h => h) (Tm.ok_le ho)
theorem Par.reflL : ∀ (l : List Tm), (∀ t ∈ l, t.ok = true) → ParL l l
  | [], _ => .nil
  | t :: l, h => .cons (Par.refl t (h t (by simp))) (Par.reflL l fun u hu => h u (by simp [hu]))
/-- A redex and what it becomes. -/
theorem Par.contr {t : Tm} (ho : t.ok = true) (hr : t.root = true) : Par t t.contr := by
  cases Tm.rd_of ho hr with
  | @app i s j u b a =>
    rw [show (Tm.mk 3 i s [.mk 2 j u [b], a]).contr = Tm.inn 0 b a by simp [Tm.contr]]
    exact .beta _ _ _ _ (Par.refl b (Tm.ok_arg (Tm.ok_arg ho (.mk 2 j u [b]) (by simp)) b (by simp))) (Par.refl a (Tm.ok_arg ho a (by simp)))
  | @zero k ko i s j u b st hk =>
    have hb := Par.refl b (Tm.ok_arg ho b (by simp))
    rcases hk with ⟨rfl, rfl⟩ | ⟨rfl, rfl⟩
    · rw [show (Tm.mk 6 i s [b, st, .mk 4 j u []]).contr = b by simp [Tm.contr]]
      exact .rec0 _ _ _ _ _ hb
    · rw [show (Tm.mk 9 i s [b, st, .mk 7 j u []]).contr = b by simp [Tm.contr]]
      exact .fold0 _ _ _ _ _ hb
  | @succ i s j u b st n =>
    rw [show (Tm.mk 6 i s [b, st, .mk 5 j u [n]]).contr = appL st [n, .mk 6 i s [b, st, n]] by simp [Tm.contr]]
    exact .recS _ _ _ _ (Par.refl b (Tm.ok_arg ho b (by simp))) (Par.refl st (Tm.ok_arg ho st (by simp))) (Par.refl n (Tm.ok_arg (Tm.ok_arg ho (.mk 5 j u [n]) (by simp)) n (by simp)))
  | @cons i s j u b st h t =>
    have h0 := Tm.ok_arg ho (.mk 8 j u [h, t]) (by simp)
    rw [show (Tm.mk 9 i s [b, st, .mk 8 j u [h, t]]).contr = appL st [h, t, .mk 9 i s [b, st, t]] by simp [Tm.contr]]
    exact .foldS _ _ _ _ (Par.refl b (Tm.ok_arg ho b (by simp))) (Par.refl st (Tm.ok_arg ho st (by simp))) (Par.refl h (Tm.ok_arg h0 h (by simp))) (Par.refl t (Tm.ok_arg h0 t (by simp)))
  | @proj k i s j u a b hk =>
    have h0 := Tm.ok_arg ho (.mk 10 j u [a, b]) (by simp)
    rcases hk with rfl | rfl
    · rw [show (Tm.mk 11 i s [.mk 10 j u [a, b]]).contr = a by simp [Tm.contr]]
      exact .fst _ _ _ _ _ (Par.refl a (Tm.ok_arg h0 a (by simp)))
    · rw [show (Tm.mk 12 i s [.mk 10 j u [a, b]]).contr = b by simp [Tm.contr]]
      exact .snd _ _ _ _ _ (Par.refl b (Tm.ok_arg h0 b (by simp)))
theorem Par.stp {r : Int} (t : Tm) : ∀ t', t.ok = true → t.stp r = some (some t') → Par t t' := by
  induction t using Tm.ind with
  | h k i s l ih =>
    intro t' ho h
    rcases stp_split h with ⟨hr, rfl⟩ | ⟨l', hl, rfl⟩
    · exact Par.contr ho hr
    · refine Par.list ?_ (Tm.ok_le ho)
      have key : ∀ m : List Tm, (∀ t ∈ m, t ∈ l) → ∀ m', Tm.stpL r m = some (some m') → ParL m m' := by
        intro m
        induction m with
        | nil => intro _ m' h; exact (stpL_nil h).elim
        | cons t m ihm =>
          intro hm m' h
          have hot := Tm.ok_arg ho t (hm t (by simp))
          rcases stpL_cons h with ⟨t', e, rfl⟩ | ⟨m2, e, rfl⟩
          · exact .cons (ih t (hm t (by simp)) t' hot e) (Par.reflL m fun u hu => Tm.ok_arg ho u (hm u (by simp [hu])))
          · exact .cons (Par.refl t hot) (ihm (fun u hu => hm u (by simp [hu])) m2 e)
      exact key l (fun t h => h) l' hl
theorem norm_star : ∀ (k : Nat) (m : Int) (t a : Tm) (n : Int), t.ok = true → t.norm k m = (a, n, 0) → Star t a
  | 0, m, t, a, n, ho, h => by
    rw [Tm.norm] at h
    split at h
    · obtain ⟨rfl, _⟩ := Prod.mk.inj h; exact .refl _
    · cases h
  | k + 1, m, t, a, n, ho, h => by
    rw [Tm.norm] at h
    split at h
    · cases h
    · obtain ⟨rfl, _⟩ := Prod.mk.inj h; exact .refl _
    · rename_i t' hs
      have := Par.stp t t' ho hs
      exact .step this (norm_star k (m + 1) t' a n (this.ok ho) h)
end Go.Mdl
