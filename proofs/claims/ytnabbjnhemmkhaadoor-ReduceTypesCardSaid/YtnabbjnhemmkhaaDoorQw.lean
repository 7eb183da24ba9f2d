/-
  A step adds no free variables.
-/
import Derived.Test.YtnabbjnhemmkhaaDoorQv
set_option linter.unusedSimpArgs false
set_option linter.unusedVariables false
namespace Go.Mdl
open Go

theorem times_up (t : Tm) : ∀ f b v : Int, 0 ≤ f → 0 ≤ b → f + b ≤ v → (t.up f b).times v = t.times (v - b) := by
  induction t using Tm.ind with
  | h k i s l ih =>
    intro f b v hf hb hv
    have hl := lamB_bd k
    rw [Tm.up_mk, Tm.times_mk, Tm.times_mk, sumL_map]
    congr 1
    · by_cases hk : k = 1
      · subst hk
        simp only [true_and]
        by_cases h1 : f ≤ i
        · rw [if_pos h1]
          by_cases h2 : i + b = v
          · rw [if_pos h2, if_pos (by omega)]
          · rw [if_neg h2, if_neg (by omega)]
        · rw [if_neg h1, if_neg (by omega), if_neg (by omega)]
      · simp only [hk, false_and, if_false]
    · refine sumL_congr fun x hx => ?_
      rw [ih x hx (f + lamB k) b (v + lamB k) (by omega) hb (by omega), show v + lamB k - b = v - b + lamB k by omega]

theorem sumL_lin {α : Type} (f g : α → Nat) (c : Nat) : ∀ l : List α, sumL (fun x => f x + g x * c) l = sumL f l + sumL g l * c
  | [] => by simp [sumL]
  | x :: l => by
    simp only [sumL]
    rw [sumL_lin f g c l, Nat.add_mul]
    omega

theorem times_inn (a : Tm) (t : Tm) : ∀ n v : Int, t.ok = true → 0 ≤ n → n ≤ v → (Tm.inn n t a).times v = t.times (v + 1) + t.times n * a.times (v - n) := by
  induction t using Tm.ind with
  | h k i s l ih =>
    intro n v ho hn hv
    have hl := lamB_bd k
    by_cases hk : k = 1
    · subst hk
      obtain ⟨rfl, rfl⟩ := var_ok ho
      rw [Tm.inn_mk, if_pos rfl]
      unfold Tm.innVar
      rw [Tm.times_mk, Tm.times_mk]
      simp only [true_and, sumL, Nat.add_zero]
      by_cases h1 : i = n
      · rw [if_pos h1, if_neg (show ¬ i = v + 1 by omega), if_pos h1, times_up a 0 n v (by omega) hn (by omega)]
        omega
      · rw [if_neg h1, if_neg h1]
        by_cases h2 : n < i
        · rw [if_pos h2, Tm.times_mk]
          simp only [true_and, sumL, Nat.add_zero]
          by_cases h3 : i = v + 1
          · rw [if_pos h3, if_pos (by omega)]; omega
          · rw [if_neg h3, if_neg (by omega)]; omega
        · rw [if_neg h2, Tm.times_mk]
          simp only [true_and, sumL, Nat.add_zero]
          rw [if_neg (by omega), if_neg (by omega)]
          omega
    · rw [Tm.inn_mk, if_neg hk, Tm.times_mk, Tm.times_mk, Tm.times_mk, sumL_map]
      simp only [hk, false_and, if_false, Nat.zero_add]
      rw [← sumL_lin]
      refine sumL_congr fun x hx => ?_
      rw [ih x hx (n + lamB k) (v + lamB k) (Tm.ok_arg ho x hx) (by omega) (by omega), show v + lamB k - (n + lamB k) = v - n by omega, show v + lamB k + 1 = v + 1 + lamB k by omega]

theorem sumL_pos {α : Type} {f : α → Nat} : ∀ {l : List α}, 0 < sumL f l → ∃ x ∈ l, 0 < f x
  | [], h => by simp [sumL] at h
  | x :: l, h => by
    simp only [sumL] at h
    by_cases h1 : 0 < f x
    · exact ⟨x, by simp, h1⟩
    · obtain ⟨y, hy, h2⟩ := sumL_pos (f := f) (l := l) (by omega)
      exact ⟨y, by simp [hy], h2⟩

/-- A variable is free in a term. -/
def Tm.In (t : Tm) (v : Int) : Prop := 0 < t.times v
theorem In_arg {k i : Int} {s : Ty} {l : List Tm} {x : Tm} {v : Int} (hk : lamB k = 0) (hx : x ∈ l) (h : x.In v) : (Tm.mk k i s l).In v := by
  unfold Tm.In at *
  rw [Tm.times_mk, hk, Int.add_zero]
  have := sumL_mem (Tm.times v) hx
  omega
theorem In_inv {k i : Int} {s : Ty} {l : List Tm} {v : Int} (hk1 : k ≠ 1) (hk : lamB k = 0) (h : (Tm.mk k i s l).In v) : ∃ x ∈ l, x.In v := by
  unfold Tm.In at *
  rw [Tm.times_mk, hk, Int.add_zero, if_neg (fun h => hk1 h.1), Nat.zero_add] at h
  exact sumL_pos h
theorem In_app {f a : Tm} {v : Int} {l : List Tm} (h : (appL f (a :: l)).In v) : (appL (.mk 3 0 (.mk 0 []) [f, a]) l).In v := h

theorem contr_In {t : Tm} {v : Int} (ho : t.ok = true) (hr : t.root = true) (hv : 0 ≤ v) (h : t.contr.In v) : t.In v := by
  cases Tm.rd_of ho hr with
  | @app i s j u b a =>
    rw [show (Tm.mk 3 i s [.mk 2 j u [b], a]).contr = Tm.inn 0 b a by simp [Tm.contr]] at h
    unfold Tm.In at h
    rw [times_inn a b 0 v (Tm.ok_arg (Tm.ok_arg ho (.mk 2 j u [b]) (by simp)) b (by simp)) (by omega) hv, Int.sub_zero] at h
    by_cases h1 : 0 < b.times (v + 1)
    · refine In_arg rfl (x := .mk 2 j u [b]) (by simp) ?_
      unfold Tm.In
      rw [Tm.times_mk]
      simp only [sumL, show lamB 2 = 1 from rfl]
      omega
    · have h2 : 0 < a.times v := by
        rcases Nat.eq_zero_or_pos (a.times v) with h0 | h0
        · rw [h0, Nat.mul_zero] at h; omega
        · exact h0
      exact In_arg rfl (x := a) (by simp) h2
  | @zero k ko i s j u b st hk =>
    rcases hk with ⟨rfl, rfl⟩ | ⟨rfl, rfl⟩
    · rw [show (Tm.mk 6 i s [b, st, .mk 4 j u []]).contr = b by simp [Tm.contr]] at h
      exact In_arg rfl (by simp) h
    · rw [show (Tm.mk 9 i s [b, st, .mk 7 j u []]).contr = b by simp [Tm.contr]] at h
      exact In_arg rfl (by simp) h
  | @succ i s j u b st n =>
    rw [show (Tm.mk 6 i s [b, st, .mk 5 j u [n]]).contr = .mk 3 0 (.mk 0 []) [.mk 3 0 (.mk 0 []) [st, n], .mk 6 i s [b, st, n]] by simp [Tm.contr, appL]] at h
    have key : ∀ x, (x = b ∨ x = st ∨ x = n) → x.In v → (Tm.mk 6 i s [b, st, .mk 5 j u [n]]).In v := by
      intro x hx hq
      rcases hx with rfl | rfl | rfl
      · exact In_arg rfl (x := x) (by simp) hq
      · exact In_arg rfl (x := x) (by simp) hq
      · exact In_arg rfl (x := .mk 5 j u [x]) (by simp) (In_arg rfl (by simp) hq)
    obtain ⟨x, hx, h1⟩ := In_inv (by decide) rfl h
    simp only [List.mem_cons, List.not_mem_nil, or_false] at hx
    rcases hx with rfl | rfl
    · obtain ⟨x, hx, h2⟩ := In_inv (by decide) rfl h1
      simp only [List.mem_cons, List.not_mem_nil, or_false] at hx
      exact key x (.inr hx) h2
    · obtain ⟨x, hx, h2⟩ := In_inv (by decide) rfl h1
      simp only [List.mem_cons, List.not_mem_nil, or_false] at hx
      exact key x hx h2
  | @cons i s j u b st p n =>
    rw [show (Tm.mk 9 i s [b, st, .mk 8 j u [p, n]]).contr = .mk 3 0 (.mk 0 []) [.mk 3 0 (.mk 0 []) [.mk 3 0 (.mk 0 []) [st, p], n], .mk 9 i s [b, st, n]] by simp [Tm.contr, appL]] at h
    have key : ∀ x, (x = b ∨ x = st ∨ x = p ∨ x = n) → x.In v → (Tm.mk 9 i s [b, st, .mk 8 j u [p, n]]).In v := by
      intro x hx hq
      rcases hx with rfl | rfl | rfl | rfl
      · exact In_arg rfl (x := x) (by simp) hq
      · exact In_arg rfl (x := x) (by simp) hq
      · exact In_arg rfl (x := .mk 8 j u [x, n]) (by simp) (In_arg rfl (by simp) hq)
      · exact In_arg rfl (x := .mk 8 j u [p, x]) (by simp) (In_arg rfl (by simp) hq)
    obtain ⟨x, hx, h1⟩ := In_inv (by decide) rfl h
    simp only [List.mem_cons, List.not_mem_nil, or_false] at hx
    rcases hx with rfl | rfl
    · obtain ⟨x, hx, h2⟩ := In_inv (by decide) rfl h1
      simp only [List.mem_cons, List.not_mem_nil, or_false] at hx
      rcases hx with rfl | rfl
      · obtain ⟨x, hx, h3⟩ := In_inv (by decide) rfl h2
        simp only [List.mem_cons, List.not_mem_nil, or_false] at hx
        rcases hx with rfl | rfl
        · exact key _ (.inr (.inl rfl)) h3
        · exact key _ (.inr (.inr (.inl rfl))) h3
      · exact key _ (.inr (.inr (.inr rfl))) h2
    · obtain ⟨x, hx, h2⟩ := In_inv (by decide) rfl h1
      simp only [List.mem_cons, List.not_mem_nil, or_false] at hx
      rcases hx with rfl | rfl | rfl
      · exact key _ (.inl rfl) h2
      · exact key _ (.inr (.inl rfl)) h2
      · exact key _ (.inr (.inr (.inr rfl))) h2
  | @proj k i s j u a b hk =>
    rcases hk with rfl | rfl
    · rw [show (Tm.mk 11 i s [.mk 10 j u [a, b]]).contr = a by simp [Tm.contr]] at h
      exact In_arg rfl (x := .mk 10 j u [a, b]) (by simp) (In_arg rfl (by simp) h)
    · rw [show (Tm.mk 12 i s [.mk 10 j u [a, b]]).contr = b by simp [Tm.contr]] at h
      exact In_arg rfl (x := .mk 10 j u [a, b]) (by simp) (In_arg rfl (by simp) h)

/-- A step adds no free variables. -/
theorem stp_In {r : Int} (t : Tm) : ∀ (t' : Tm) (v : Int), t.ok = true → 0 ≤ v → t.stp r = some (some t') → t'.In v → t.In v := by
  induction t using Tm.ind with
  | h k i s l ih =>
    intro t' v ho hv h hin
    rcases stp_split h with ⟨hr, rfl⟩ | ⟨l', hl, rfl⟩
    · exact contr_In ho hr hv hin
    · unfold Tm.In at *
      rw [Tm.times_mk] at hin ⊢
      have hb := lamB_bd k
      have key : ∀ m : List Tm, (∀ t ∈ m, t ∈ l) → ∀ m', Tm.stpL r m = some (some m') → 0 < sumL (Tm.times (v + lamB k)) m' → 0 < sumL (Tm.times (v + lamB k)) m := by
        intro m
        induction m with
        | nil => intro _ m' h; exact (stpL_nil h).elim
        | cons t m ihm =>
          intro hm m' h hp
          have hot := Tm.ok_arg ho t (hm t (by simp))
          rcases stpL_cons h with ⟨t', e, rfl⟩ | ⟨m2, e, rfl⟩
          · simp only [sumL] at hp ⊢
            by_cases h1 : 0 < t'.times (v + lamB k)
            · have := ih t (hm t (by simp)) t' (v + lamB k) hot (by omega) e h1
              omega
            · omega
          · simp only [sumL] at hp ⊢
            by_cases h1 : 0 < sumL (Tm.times (v + lamB k)) m2
            · have := ihm (fun u hu => hm u (by simp [hu])) m2 e h1
              omega
            · omega
      by_cases h1 : 0 < sumL (Tm.times (v + lamB k)) l'
      · have := key l (fun t h => h) l' hl h1
        omega
      · by_cases h2 : k = 1 ∧ i = v
        · rw [if_pos h2]; omega
        · rw [if_neg h2] at hin; omega
end Go.Mdl
