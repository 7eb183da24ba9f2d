/-
  Terms: how shifts and substitutions commute; parallel steps.
-/
import Derived.Test.YtnabbjnhemmkhaaDoorQh
set_option linter.unusedSimpArgs false
set_option linter.unusedVariables false
namespace Go.Mdl
open Go

theorem var_ok {i : Int} {s : Ty} {l : List Tm} (h : (Tm.mk 1 i s l).ok = true) : s = .mk 0 [] ∧ l = [] := by
  have hl := Tm.ok_len h
  have e : tmArgs 1 = 0 := rfl
  have hl2 : l = [] := List.eq_nil_of_length_eq_zero (by omega)
  subst hl2
  rw [Tm.ok_mk] at h
  cases s with
  | mk k l => simp [Tm.node, typedB, Ty.zeroB, ieq, llen, tmArgs] at h; refine ⟨?_, rfl⟩; obtain ⟨h1, h2⟩ := h; simp_all

theorem up_up (t : Tm) : ∀ g f n c : Int, 0 ≤ g → 0 ≤ n → 0 ≤ c → g + n ≤ f → (t.up g n).up f c = (t.up (f - n) c).up g n := by
  induction t using Tm.ind with
  | h k i s l ih =>
    intro g f n c hg hn hc hf
    simp only [Tm.up_mk, List.map_map]
    have hb := lamB_bd k
    congr 1
    · by_cases hk : k = 1
      · subst hk
        simp only [true_and]
        by_cases h1 : g ≤ i
        · by_cases h2 : f ≤ i + n
          · rw [if_pos h1, if_pos h2, if_pos (show f - n ≤ i by omega), if_pos (show g ≤ i + c by omega)]; omega
          · rw [if_pos h1, if_neg h2, if_neg (show ¬ f - n ≤ i by omega), if_pos h1]
        · rw [if_neg h1, if_neg (show ¬ f ≤ i by omega), if_neg (show ¬ f - n ≤ i by omega), if_neg h1]
      · simp only [hk, false_and, if_false]
    · refine List.map_congr_left fun x hx => ?_
      simp only [Function.comp]
      rw [ih x hx (g + lamB k) (f + lamB k) n c (by omega) hn hc (by omega), show f + lamB k - n = f - n + lamB k by omega]

theorem up_add (t : Tm) : ∀ g f p m : Int, 0 ≤ g → 0 ≤ p → 0 ≤ m → g ≤ f → f ≤ g + p → (t.up g p).up f m = t.up g (p + m) := by
  induction t using Tm.ind with
  | h k i s l ih =>
    intro g f p m hg hp hm h1 h2
    simp only [Tm.up_mk, List.map_map]
    have hb := lamB_bd k
    congr 1
    · by_cases hk : k = 1
      · subst hk
        simp only [true_and]
        by_cases h3 : g ≤ i
        · rw [if_pos h3, if_pos (show f ≤ i + p by omega), if_pos h3]; omega
        · rw [if_neg h3, if_neg (show ¬ f ≤ i by omega), if_neg h3]
      · simp only [hk, false_and, if_false]
    · refine List.map_congr_left fun x hx => ?_
      simp only [Function.comp]
      rw [ih x hx (g + lamB k) (f + lamB k) p m (by omega) hp hm (by omega) (by omega)]

theorem inn_up (x : Tm) (t : Tm) : ∀ g m n : Int, t.ok = true → 0 ≤ g → g ≤ m → m ≤ g + n → Tm.inn m (t.up g (n + 1)) x = t.up g n := by
  induction t using Tm.ind with
  | h k i s l ih =>
    intro g m n ho hg h1 h2
    have hb := lamB_bd k
    by_cases hk : k = 1
    · subst hk
      obtain ⟨rfl, rfl⟩ := var_ok ho
      simp only [Tm.up_mk, true_and, List.map_nil, Tm.inn_mk, if_true]
      unfold Tm.innVar
      by_cases h3 : g ≤ i
      · rw [if_pos h3, if_neg (by omega), if_pos (by omega), if_pos h3]
        congr 1
        omega
      · rw [if_neg h3, if_neg (by omega), if_neg (by omega), if_neg h3]
    · simp only [Tm.up_mk, hk, false_and, if_false, Tm.inn_mk, List.map_map]
      congr 1
      refine List.map_congr_left fun y hy => ?_
      simp only [Function.comp]
      exact ih y hy (g + lamB k) (m + lamB k) n (Tm.ok_arg ho y hy) (by omega) (by omega) (by omega)

theorem inn_up_swap (a : Tm) (t : Tm) : ∀ g m n : Int, t.ok = true → 0 ≤ g → 0 ≤ m → g + m ≤ n → Tm.inn n (t.up g m) a = (Tm.inn (n - m) t a).up g m := by
  induction t using Tm.ind with
  | h k i s l ih =>
    intro g m n ho hg hm h1
    have hb := lamB_bd k
    by_cases hk : k = 1
    · subst hk
      obtain ⟨rfl, rfl⟩ := var_ok ho
      simp only [Tm.up_mk, true_and, List.map_nil, Tm.inn_mk, if_true]
      unfold Tm.innVar
      by_cases h3 : g ≤ i
      · rw [if_pos h3]
        by_cases h4 : i + m = n
        · rw [if_pos h4, if_pos (show i = n - m by omega), up_add a 0 g (n - m) m (by omega) (by omega) hm (by omega) (by omega)]
          congr 1
          omega
        · rw [if_neg h4, if_neg (show ¬ i = n - m by omega)]
          by_cases h5 : n < i + m
          · rw [if_pos h5, if_pos (show n - m < i by omega), Tm.up_mk, if_pos ⟨rfl, by omega⟩]
            congr 1
            omega
          · rw [if_neg h5, if_neg (show ¬ n - m < i by omega), Tm.up_mk, if_pos ⟨rfl, h3⟩]
            rfl
      · rw [if_neg h3, if_neg (by omega), if_neg (by omega), if_neg (by omega), if_neg (by omega), Tm.up_mk, if_neg (fun h => h3 h.2)]
        rfl
    · simp only [Tm.up_mk, hk, false_and, if_false, Tm.inn_mk, List.map_map]
      congr 1
      refine List.map_congr_left fun y hy => ?_
      simp only [Function.comp]
      rw [ih y hy (g + lamB k) m (n + lamB k) (Tm.ok_arg ho y hy) (by omega) hm (by omega), show n + lamB k - m = n - m + lamB k by omega]

theorem up_inn (a : Tm) (t : Tm) : ∀ n f c : Int, t.ok = true → 0 ≤ n → n ≤ f → 0 ≤ c → (Tm.inn n t a).up f c = Tm.inn n (t.up (f + 1) c) (a.up (f - n) c) := by
  induction t using Tm.ind with
  | h k i s l ih =>
    intro n f c ho hn hf hc
    have hb := lamB_bd k
    by_cases hk : k = 1
    · subst hk
      obtain ⟨rfl, rfl⟩ := var_ok ho
      simp only [Tm.up_mk, true_and, List.map_nil, Tm.inn_mk, if_true]
      unfold Tm.innVar
      by_cases h3 : i = n
      · rw [if_pos h3, if_neg (show ¬ f + 1 ≤ i by omega), if_pos h3, up_up a 0 f n c (by omega) hn hc (by omega)]
      · rw [if_neg h3]
        by_cases h4 : n < i
        · rw [if_pos h4, Tm.up_mk]
          by_cases h5 : f + 1 ≤ i
          · rw [if_pos ⟨rfl, by omega⟩, if_pos h5, if_neg (by omega), if_pos (by omega)]
            simp only [List.map_nil]
            congr 1
            omega
          · rw [if_neg (fun h => by have := h.2; omega), if_neg h5, if_neg h3, if_pos h4]
            rfl
        · rw [if_neg h4, Tm.up_mk, if_neg (fun h => by have := h.2; omega), if_neg (show ¬ f + 1 ≤ i by omega), if_neg h3, if_neg h4]
          rfl
    · simp only [Tm.up_mk, hk, false_and, if_false, Tm.inn_mk, List.map_map]
      congr 1
      refine List.map_congr_left fun y hy => ?_
      simp only [Function.comp]
      rw [ih y hy (n + lamB k) (f + lamB k) c (Tm.ok_arg ho y hy) (by omega) (by omega) hc, show f + lamB k - (n + lamB k) = f - n by omega, show f + lamB k + 1 = f + 1 + lamB k by omega]

theorem inn_inn (a s : Tm) (ha : a.ok = true) (hs : s.ok = true) (t : Tm) : ∀ m n : Int, t.ok = true → 0 ≤ m → m ≤ n → Tm.inn n (Tm.inn m t a) s = Tm.inn m (Tm.inn (n + 1) t s) (Tm.inn (n - m) a s) := by
  induction t using Tm.ind with
  | h k i ty l ih =>
    intro m n ho hm hn
    have hb := lamB_bd k
    by_cases hk : k = 1
    · subst hk
      obtain ⟨rfl, rfl⟩ := var_ok ho
      simp only [Tm.inn_mk, if_true]
      unfold Tm.innVar
      by_cases h1 : i = m
      · rw [if_pos h1, if_neg (show ¬ i = n + 1 by omega), if_neg (show ¬ n + 1 < i by omega), inn_up_swap s a 0 m n ha (by omega) hm (by omega), Tm.inn_mk, if_pos rfl]
        unfold Tm.innVar
        rw [if_pos h1]
      · rw [if_neg h1]
        by_cases h2 : m < i
        · rw [if_pos h2, Tm.inn_mk, if_pos rfl]
          unfold Tm.innVar
          by_cases h3 : i = n + 1
          · rw [if_pos (show i - 1 = n by omega), if_pos h3, inn_up _ s 0 m n hs (by omega) (by omega) (by omega)]
          · rw [if_neg (show ¬ i - 1 = n by omega), if_neg h3]
            by_cases h4 : n + 1 < i
            · rw [if_pos (show n < i - 1 by omega), if_pos h4, Tm.inn_mk, if_pos rfl]
              unfold Tm.innVar
              rw [if_neg (by omega), if_pos (by omega)]
            · rw [if_neg (show ¬ n < i - 1 by omega), if_neg h4, Tm.inn_mk, if_pos rfl]
              unfold Tm.innVar
              rw [if_neg h1, if_pos h2]
        · rw [if_neg h2, if_neg (show ¬ i = n + 1 by omega), if_neg (show ¬ n + 1 < i by omega), Tm.inn_mk, if_pos rfl, Tm.inn_mk, if_pos rfl]
          unfold Tm.innVar
          rw [if_neg (by omega), if_neg (by omega), if_neg h1, if_neg h2]
    · simp only [Tm.inn_mk, hk, if_false, List.map_map]
      congr 1
      refine List.map_congr_left fun y hy => ?_
      simp only [Function.comp]
      rw [ih y hy (m + lamB k) (n + lamB k) (Tm.ok_arg ho y hy) (by omega) (by omega), show n + lamB k - (m + lamB k) = n - m by omega, show n + lamB k + 1 = n + 1 + lamB k by omega]

/-! ### parallel steps -/
inductive Par : Tm → Tm → Prop
  | n0 (k i : Int) (s : Ty) : Par (.mk k i s []) (.mk k i s [])
  | n1 (k i : Int) (s : Ty) {a a' : Tm} : Par a a' → Par (.mk k i s [a]) (.mk k i s [a'])
  | n2 (k i : Int) (s : Ty) {a a' b b' : Tm} : Par a a' → Par b b' → Par (.mk k i s [a, b]) (.mk k i s [a', b'])
  | n3 (k i : Int) (s : Ty) {a a' b b' c c' : Tm} : Par a a' → Par b b' → Par c c' → Par (.mk k i s [a, b, c]) (.mk k i s [a', b', c'])
  | beta (i : Int) (s : Ty) (j : Int) (u : Ty) {b b' a a' : Tm} : Par b b' → Par a a' → Par (.mk 3 i s [.mk 2 j u [b], a]) (Tm.inn 0 b' a')
  | rec0 (i : Int) (s : Ty) (j : Int) (u : Ty) (c : Tm) {b b' : Tm} : Par b b' → Par (.mk 6 i s [b, c, .mk 4 j u []]) b'
  | recS (i : Int) (s : Ty) (j : Int) (u : Ty) {b b' c c' n n' : Tm} : Par b b' → Par c c' → Par n n' → Par (.mk 6 i s [b, c, .mk 5 j u [n]]) (appL c' [n', .mk 6 i s [b', c', n']])
  | fold0 (i : Int) (s : Ty) (j : Int) (u : Ty) (c : Tm) {b b' : Tm} : Par b b' → Par (.mk 9 i s [b, c, .mk 7 j u []]) b'
  | foldS (i : Int) (s : Ty) (j : Int) (u : Ty) {b b' c c' n n' t t' : Tm} : Par b b' → Par c c' → Par n n' → Par t t' → Par (.mk 9 i s [b, c, .mk 8 j u [n, t]]) (appL c' [n', t', .mk 9 i s [b', c', t']])
  | fst (i : Int) (s : Ty) (j : Int) (u : Ty) (b : Tm) {a a' : Tm} : Par a a' → Par (.mk 11 i s [.mk 10 j u [a, b]]) a'
  | snd (i : Int) (s : Ty) (j : Int) (u : Ty) (a : Tm) {b b' : Tm} : Par b b' → Par (.mk 12 i s [.mk 10 j u [a, b]]) b'

theorem Par.ok {t u : Tm} (h : Par t u) : t.ok = true → u.ok = true := by
  induction h with
  | n0 k i s => exact id
  | n1 k i s _ ih => intro ho; exact Tm.ok_same ho rfl (by intro t ht; rw [List.mem_singleton] at ht; subst ht; exact ih (Tm.ok_arg ho _ (by simp)))
  | n2 k i s _ _ ih1 ih2 =>
    intro ho
    refine Tm.ok_same ho rfl ?_
    intro t ht
    simp only [List.mem_cons, List.not_mem_nil, or_false] at ht
    rcases ht with rfl | rfl
    · exact ih1 (Tm.ok_arg ho _ (by simp))
    · exact ih2 (Tm.ok_arg ho _ (by simp))
  | n3 k i s _ _ _ ih1 ih2 ih3 =>
    intro ho
    refine Tm.ok_same ho rfl ?_
    intro t ht
    simp only [List.mem_cons, List.not_mem_nil, or_false] at ht
    rcases ht with rfl | rfl | rfl
    · exact ih1 (Tm.ok_arg ho _ (by simp))
    · exact ih2 (Tm.ok_arg ho _ (by simp))
    · exact ih3 (Tm.ok_arg ho _ (by simp))
  | @beta i s j u b b' a a' _ _ ih1 ih2 =>
    intro ho
    exact Tm.inn_ok _ (ih2 (Tm.ok_arg ho a (by simp))) _ 0 (by omega) (ih1 (Tm.ok_arg (Tm.ok_arg ho (Tm.mk 2 j u [b]) (by simp)) b (by simp)))
  | rec0 i s j u c _ ih => intro ho; exact ih (Tm.ok_arg ho _ (by simp))
  | @recS i s j u b b' c c' n n' _ _ _ ih1 ih2 ih3 =>
    intro ho
    have h1 := ih1 (Tm.ok_arg ho _ (by simp))
    have h2 := ih2 (Tm.ok_arg ho _ (by simp))
    have h3 := ih3 (Tm.ok_arg (Tm.ok_arg ho (Tm.mk 5 j u [n]) (by simp)) _ (by simp))
    refine appL_ok _ _ h2 ?_
    intro t ht
    simp only [List.mem_cons, List.not_mem_nil, or_false] at ht
    rcases ht with rfl | rfl
    · exact h3
    · refine Tm.ok_same ho rfl ?_
      intro t ht
      simp only [List.mem_cons, List.not_mem_nil, or_false] at ht
      rcases ht with rfl | rfl | rfl <;> assumption
  | fold0 i s j u c _ ih => intro ho; exact ih (Tm.ok_arg ho _ (by simp))
  | @foldS i s j u b b' c c' n n' t t' _ _ _ _ ih1 ih2 ih3 ih4 =>
    intro ho
    have h1 := ih1 (Tm.ok_arg ho _ (by simp))
    have h2 := ih2 (Tm.ok_arg ho _ (by simp))
    have h0 := Tm.ok_arg ho (Tm.mk 8 j u [n, t]) (by simp)
    have h3 := ih3 (Tm.ok_arg h0 _ (by simp))
    have h4 := ih4 (Tm.ok_arg h0 _ (by simp))
    refine appL_ok _ _ h2 ?_
    intro y hy
    simp only [List.mem_cons, List.not_mem_nil, or_false] at hy
    rcases hy with rfl | rfl | rfl
    · exact h3
    · exact h4
    · refine Tm.ok_same ho rfl ?_
      intro y hy
      simp only [List.mem_cons, List.not_mem_nil, or_false] at hy
      rcases hy with rfl | rfl | rfl <;> assumption
  | @fst i s j u b a a' _ ih => intro ho; exact ih (Tm.ok_arg (Tm.ok_arg ho (Tm.mk 10 j u [a, b]) (by simp)) a (by simp))
  | @snd i s j u a b b' _ ih => intro ho; exact ih (Tm.ok_arg (Tm.ok_arg ho (Tm.mk 10 j u [a, b]) (by simp)) b (by simp))

theorem up3 (f b i : Int) (s : Ty) (l : List Tm) : (Tm.mk 3 i s l).up f b = .mk 3 i s (l.map (Tm.up f b)) := up_ne (by decide) (by decide) f b i s l
theorem up4 (f b i : Int) (s : Ty) (l : List Tm) : (Tm.mk 4 i s l).up f b = .mk 4 i s (l.map (Tm.up f b)) := up_ne (by decide) (by decide) f b i s l
theorem up5 (f b i : Int) (s : Ty) (l : List Tm) : (Tm.mk 5 i s l).up f b = .mk 5 i s (l.map (Tm.up f b)) := up_ne (by decide) (by decide) f b i s l
theorem up6 (f b i : Int) (s : Ty) (l : List Tm) : (Tm.mk 6 i s l).up f b = .mk 6 i s (l.map (Tm.up f b)) := up_ne (by decide) (by decide) f b i s l
theorem up7 (f b i : Int) (s : Ty) (l : List Tm) : (Tm.mk 7 i s l).up f b = .mk 7 i s (l.map (Tm.up f b)) := up_ne (by decide) (by decide) f b i s l
theorem up8 (f b i : Int) (s : Ty) (l : List Tm) : (Tm.mk 8 i s l).up f b = .mk 8 i s (l.map (Tm.up f b)) := up_ne (by decide) (by decide) f b i s l
theorem up9 (f b i : Int) (s : Ty) (l : List Tm) : (Tm.mk 9 i s l).up f b = .mk 9 i s (l.map (Tm.up f b)) := up_ne (by decide) (by decide) f b i s l
theorem up10 (f b i : Int) (s : Ty) (l : List Tm) : (Tm.mk 10 i s l).up f b = .mk 10 i s (l.map (Tm.up f b)) := up_ne (by decide) (by decide) f b i s l
theorem up11 (f b i : Int) (s : Ty) (l : List Tm) : (Tm.mk 11 i s l).up f b = .mk 11 i s (l.map (Tm.up f b)) := up_ne (by decide) (by decide) f b i s l
theorem up12 (f b i : Int) (s : Ty) (l : List Tm) : (Tm.mk 12 i s l).up f b = .mk 12 i s (l.map (Tm.up f b)) := up_ne (by decide) (by decide) f b i s l
theorem in3 (n i : Int) (a : Tm) (s : Ty) (l : List Tm) : Tm.inn n (Tm.mk 3 i s l) a = .mk 3 i s (l.map fun x => Tm.inn n x a) := inn_ne (by decide) (by decide) n i a s l
theorem in4 (n i : Int) (a : Tm) (s : Ty) (l : List Tm) : Tm.inn n (Tm.mk 4 i s l) a = .mk 4 i s (l.map fun x => Tm.inn n x a) := inn_ne (by decide) (by decide) n i a s l
theorem in5 (n i : Int) (a : Tm) (s : Ty) (l : List Tm) : Tm.inn n (Tm.mk 5 i s l) a = .mk 5 i s (l.map fun x => Tm.inn n x a) := inn_ne (by decide) (by decide) n i a s l
theorem in6 (n i : Int) (a : Tm) (s : Ty) (l : List Tm) : Tm.inn n (Tm.mk 6 i s l) a = .mk 6 i s (l.map fun x => Tm.inn n x a) := inn_ne (by decide) (by decide) n i a s l
theorem in7 (n i : Int) (a : Tm) (s : Ty) (l : List Tm) : Tm.inn n (Tm.mk 7 i s l) a = .mk 7 i s (l.map fun x => Tm.inn n x a) := inn_ne (by decide) (by decide) n i a s l
theorem in8 (n i : Int) (a : Tm) (s : Ty) (l : List Tm) : Tm.inn n (Tm.mk 8 i s l) a = .mk 8 i s (l.map fun x => Tm.inn n x a) := inn_ne (by decide) (by decide) n i a s l
theorem in9 (n i : Int) (a : Tm) (s : Ty) (l : List Tm) : Tm.inn n (Tm.mk 9 i s l) a = .mk 9 i s (l.map fun x => Tm.inn n x a) := inn_ne (by decide) (by decide) n i a s l
theorem in10 (n i : Int) (a : Tm) (s : Ty) (l : List Tm) : Tm.inn n (Tm.mk 10 i s l) a = .mk 10 i s (l.map fun x => Tm.inn n x a) := inn_ne (by decide) (by decide) n i a s l
theorem in11 (n i : Int) (a : Tm) (s : Ty) (l : List Tm) : Tm.inn n (Tm.mk 11 i s l) a = .mk 11 i s (l.map fun x => Tm.inn n x a) := inn_ne (by decide) (by decide) n i a s l
theorem in12 (n i : Int) (a : Tm) (s : Ty) (l : List Tm) : Tm.inn n (Tm.mk 12 i s l) a = .mk 12 i s (l.map fun x => Tm.inn n x a) := inn_ne (by decide) (by decide) n i a s l

theorem Par.up {t u : Tm} (h : Par t u) : t.ok = true → ∀ f c : Int, 0 ≤ f → 0 ≤ c → Par (t.up f c) (u.up f c) := by
  induction h with
  | n0 k i s => intro _ f c _ _; rw [Tm.up_mk]; exact .n0 _ _ _
  | n1 k i s _ ih =>
    intro ho f c hf hc
    have hb := lamB_bd k
    rw [Tm.up_mk, Tm.up_mk]
    exact .n1 _ _ _ (ih (Tm.ok_arg ho _ (by simp)) _ _ (by omega) hc)
  | n2 k i s _ _ ih1 ih2 =>
    intro ho f c hf hc
    have hb := lamB_bd k
    rw [Tm.up_mk, Tm.up_mk]
    exact .n2 _ _ _ (ih1 (Tm.ok_arg ho _ (by simp)) _ _ (by omega) hc) (ih2 (Tm.ok_arg ho _ (by simp)) _ _ (by omega) hc)
  | n3 k i s _ _ _ ih1 ih2 ih3 =>
    intro ho f c hf hc
    have hb := lamB_bd k
    rw [Tm.up_mk, Tm.up_mk]
    exact .n3 _ _ _ (ih1 (Tm.ok_arg ho _ (by simp)) _ _ (by omega) hc) (ih2 (Tm.ok_arg ho _ (by simp)) _ _ (by omega) hc) (ih3 (Tm.ok_arg ho _ (by simp)) _ _ (by omega) hc)
  | @beta i s j u b b' a a' h1 h2 ih1 ih2 =>
    intro ho f c hf hc
    have h0 := Tm.ok_arg ho (Tm.mk 2 j u [b]) (by simp)
    have hob := Tm.ok_arg h0 b (by simp)
    rw [up_inn a' b' 0 f c (h1.ok hob) (by omega) hf hc, Int.sub_zero]
    simp only [up3, up_lam, List.map_cons, List.map_nil]
    exact .beta _ _ _ _ (ih1 hob _ _ (by omega) hc) (ih2 (Tm.ok_arg ho _ (by simp)) _ _ hf hc)
  | rec0 i s j u c _ ih =>
    intro ho f d hf hd
    simp only [up6, up4, List.map_cons, List.map_nil]
    exact .rec0 _ _ _ _ _ (ih (Tm.ok_arg ho _ (by simp)) _ _ hf hd)
  | @recS i s j u b b' c c' n n' _ _ _ ih1 ih2 ih3 =>
    intro ho f d hf hd
    have h0 := Tm.ok_arg ho (Tm.mk 5 j u [n]) (by simp)
    simp only [appL, up3, up6, up5, List.map_cons, List.map_nil]
    exact .recS _ _ _ _ (ih1 (Tm.ok_arg ho _ (by simp)) _ _ hf hd) (ih2 (Tm.ok_arg ho _ (by simp)) _ _ hf hd) (ih3 (Tm.ok_arg h0 _ (by simp)) _ _ hf hd)
  | fold0 i s j u c _ ih =>
    intro ho f d hf hd
    simp only [up9, up7, List.map_cons, List.map_nil]
    exact .fold0 _ _ _ _ _ (ih (Tm.ok_arg ho _ (by simp)) _ _ hf hd)
  | @foldS i s j u b b' c c' n n' t t' _ _ _ _ ih1 ih2 ih3 ih4 =>
    intro ho f d hf hd
    have h0 := Tm.ok_arg ho (Tm.mk 8 j u [n, t]) (by simp)
    simp only [appL, up3, up9, up8, List.map_cons, List.map_nil]
    exact .foldS _ _ _ _ (ih1 (Tm.ok_arg ho _ (by simp)) _ _ hf hd) (ih2 (Tm.ok_arg ho _ (by simp)) _ _ hf hd) (ih3 (Tm.ok_arg h0 _ (by simp)) _ _ hf hd) (ih4 (Tm.ok_arg h0 _ (by simp)) _ _ hf hd)
  | @fst i s j u b a a' _ ih =>
    intro ho f d hf hd
    simp only [up11, up10, List.map_cons, List.map_nil]
    exact .fst _ _ _ _ _ (ih (Tm.ok_arg (Tm.ok_arg ho (Tm.mk 10 j u [a, b]) (by simp)) _ (by simp)) _ _ hf hd)
  | @snd i s j u a b b' _ ih =>
    intro ho f d hf hd
    simp only [up12, up10, List.map_cons, List.map_nil]
    exact .snd _ _ _ _ _ (ih (Tm.ok_arg (Tm.ok_arg ho (Tm.mk 10 j u [a, b]) (by simp)) _ (by simp)) _ _ hf hd)

theorem not_var {k i : Int} {s : Ty} {a : Tm} {l : List Tm} (h : (Tm.mk k i s (a :: l)).ok = true) : k ≠ 1 := by
  rintro rfl
  have := (var_ok h).2
  cases this

theorem Par.inn {t u : Tm} (h : Par t u) {x y : Tm} (hxy : Par x y) (hx : x.ok = true) : t.ok = true → ∀ n : Int, 0 ≤ n → Par (Tm.inn n t x) (Tm.inn n u y) := by
  have hy := hxy.ok hx
  induction h with
  | n0 k i s =>
    intro ho n hn
    rw [Tm.inn_mk, Tm.inn_mk]
    by_cases hk : k = 1
    · rw [if_pos hk, if_pos hk]
      unfold Tm.innVar
      by_cases h1 : i = n
      · rw [if_pos h1, if_pos h1]; exact hxy.up hx 0 n (by omega) hn
      · rw [if_neg h1, if_neg h1]
        by_cases h2 : n < i
        · rw [if_pos h2]; exact .n0 _ _ _
        · rw [if_neg h2]; exact .n0 _ _ _
    · rw [if_neg hk, if_neg hk]; exact .n0 _ _ _
  | n1 k i s _ ih =>
    intro ho n hn
    have hb := lamB_bd k
    rw [Tm.inn_mk, Tm.inn_mk, if_neg (not_var ho), if_neg (not_var ho)]
    exact .n1 _ _ _ (ih (Tm.ok_arg ho _ (by simp)) _ (by omega))
  | n2 k i s _ _ ih1 ih2 =>
    intro ho n hn
    have hb := lamB_bd k
    rw [Tm.inn_mk, Tm.inn_mk, if_neg (not_var ho), if_neg (not_var ho)]
    exact .n2 _ _ _ (ih1 (Tm.ok_arg ho _ (by simp)) _ (by omega)) (ih2 (Tm.ok_arg ho _ (by simp)) _ (by omega))
  | n3 k i s _ _ _ ih1 ih2 ih3 =>
    intro ho n hn
    have hb := lamB_bd k
    rw [Tm.inn_mk, Tm.inn_mk, if_neg (not_var ho), if_neg (not_var ho)]
    exact .n3 _ _ _ (ih1 (Tm.ok_arg ho _ (by simp)) _ (by omega)) (ih2 (Tm.ok_arg ho _ (by simp)) _ (by omega)) (ih3 (Tm.ok_arg ho _ (by simp)) _ (by omega))
  | @beta i s j u b b' a a' h1 h2 ih1 ih2 =>
    intro ho n hn
    have h0 := Tm.ok_arg ho (Tm.mk 2 j u [b]) (by simp)
    have hob := Tm.ok_arg h0 b (by simp)
    have hoa := Tm.ok_arg ho a (by simp)
    rw [inn_inn a' y (h2.ok hoa) hy b' 0 n (h1.ok hob) (by omega) hn, Int.sub_zero]
    simp only [in3, inn_lam, List.map_cons, List.map_nil]
    exact .beta _ _ _ _ (ih1 hob _ (by omega)) (ih2 hoa _ hn)
  | rec0 i s j u c _ ih =>
    intro ho n hn
    simp only [in6, in4, List.map_cons, List.map_nil]
    exact .rec0 _ _ _ _ _ (ih (Tm.ok_arg ho _ (by simp)) _ hn)
  | @recS i s j u b b' c c' n n' _ _ _ ih1 ih2 ih3 =>
    intro ho m hm
    have h0 := Tm.ok_arg ho (Tm.mk 5 j u [n]) (by simp)
    simp only [appL, in3, in6, in5, List.map_cons, List.map_nil]
    exact .recS _ _ _ _ (ih1 (Tm.ok_arg ho _ (by simp)) _ hm) (ih2 (Tm.ok_arg ho _ (by simp)) _ hm) (ih3 (Tm.ok_arg h0 _ (by simp)) _ hm)
  | fold0 i s j u c _ ih =>
    intro ho n hn
    simp only [in9, in7, List.map_cons, List.map_nil]
    exact .fold0 _ _ _ _ _ (ih (Tm.ok_arg ho _ (by simp)) _ hn)
  | @foldS i s j u b b' c c' n n' t t' _ _ _ _ ih1 ih2 ih3 ih4 =>
    intro ho m hm
    have h0 := Tm.ok_arg ho (Tm.mk 8 j u [n, t]) (by simp)
    simp only [appL, in3, in9, in8, List.map_cons, List.map_nil]
    exact .foldS _ _ _ _ (ih1 (Tm.ok_arg ho _ (by simp)) _ hm) (ih2 (Tm.ok_arg ho _ (by simp)) _ hm) (ih3 (Tm.ok_arg h0 _ (by simp)) _ hm) (ih4 (Tm.ok_arg h0 _ (by simp)) _ hm)
  | @fst i s j u b a a' _ ih =>
    intro ho n hn
    simp only [in11, in10, List.map_cons, List.map_nil]
    exact .fst _ _ _ _ _ (ih (Tm.ok_arg (Tm.ok_arg ho (Tm.mk 10 j u [a, b]) (by simp)) _ (by simp)) _ hn)
  | @snd i s j u a b b' _ ih =>
    intro ho n hn
    simp only [in12, in10, List.map_cons, List.map_nil]
    exact .snd _ _ _ _ _ (ih (Tm.ok_arg (Tm.ok_arg ho (Tm.mk 10 j u [a, b]) (by simp)) _ (by simp)) _ hn)
end Go.Mdl
