/-
  Counting with a limit, and the law of chapter 23 about contexts and places.
-/
import Derived.Test.YtanjokijgbgcpaaGreatDoorPi
set_option linter.unusedSimpArgs false
set_option linter.unusedVariables false
namespace Go.Mdl
open Go

theorem cnt_loop {α σ ρ : Type} (H : List α) (w : α → Nat) (lo most B : Int) (enc : Int → Nat → σ) {F : σ → Option (Ctl σ ρ)}
    (hend : ∀ (v : Int) (i : Nat), ¬ (i < H.length ∧ v ≤ most) → F (enc v i) = some (.brk (enc v i)))
    (hF : ∀ (v : Int) (i : Nat) x, H[i]? = some x → lo ≤ v → v ≤ most → (i : Int) ≤ v → ∃ r : Int, F (enc v i) = some (.next (enc (v + r) (i + 1))) ∧ 1 ≤ r ∧ v + r ≤ B ∧ (v + r ≤ most → r = w x)) :
    ∀ (l : List α) (i n : Nat) (v : Int), l = H.drop i → (most + 1 - v).toNat < n → lo ≤ v → v ≤ B → (i : Int) ≤ v →
      ∃ (v' : Int) (i' : Nat), loopN F n (enc v i) = some (.inl (enc v' i')) ∧ v ≤ v' ∧ v' ≤ B ∧ (v' ≤ most → v' = v + sumL w l) := by
  intro l
  induction l with
  | nil =>
    intro i n v hd hn hlo hB hi
    obtain ⟨n, rfl⟩ : ∃ m, n = m + 1 := ⟨n - 1, by omega⟩
    have : H.length ≤ i := by
      have := congrArg List.length hd
      simp only [List.length_nil, List.length_drop] at this
      omega
    exact ⟨v, i, by rw [loopN_succ, hend v i (by omega)]; rfl, Int.le_refl _, hB, fun _ => by simp [sumL]⟩
  | cons x l ih =>
    intro i n v hd hn hlo hB hi
    obtain ⟨n, rfl⟩ : ∃ m, n = m + 1 := ⟨n - 1, by omega⟩
    obtain ⟨hlt, hget, hdrop⟩ := drop_split hd.symm
    by_cases hv : v ≤ most
    · obtain ⟨r, h1, h2, h3, h4⟩ := hF v i x hget hlo hv hi
      obtain ⟨v', i', k1, k2, k3, k4⟩ := ih (i + 1) n (v + r) hdrop.symm (by omega) (by omega) h3 (by omega)
      refine ⟨v', i', by rw [loopN_succ, h1]; exact k1, by omega, k3, fun hm => ?_⟩
      have e1 := k4 hm
      have e2 := h4 (by omega)
      simp only [sumL]
      omega
    · exact ⟨v, i, by rw [loopN_succ, hend v i (by omega)]; rfl, Int.le_refl _, hB, fun h => absurd h hv⟩

theorem cast_succ (i : Nat) : (i : Int) + 1 = ((i + 1 : Nat) : Int) := by omega

theorem Ty.nodes_args (t : Ty) : t.nodes = 1 + sumL Ty.nodes t.args := by cases t; rw [Ty.nodes_mk]; rfl
theorem Tm.wt_args (t : Tm) : t.wt = 1 + t.typeF.nodes + sumL Tm.wt t.args := by cases t; rw [Tm.wt_mk]; rfl
theorem Fm.wt_args (f : Fm) : f.wt = 1 + f.typeF.nodes + sumL Tm.wt f.terms + sumL Fm.wt f.args := by cases f; rw [Fm.wt_mk]; rfl
theorem getElem_lt {α : Type} {l : List α} {i : Nat} {x : α} (hx : l[i]? = some x) : i < l.length := by
  rcases Nat.lt_or_ge i l.length with h | h
  · exact h
  · rw [List.getElem?_eq_none h] at hx; cases hx

/-- A loop that counts the parts of a list, as the counting functions have it. -/
theorem cnt_part {α ρ : Type} (l : List α) (w : α → Nat) (m lo v : Int) (g : α → Int → Option Int) (hm : -1 ≤ m) (hm2 : m ≤ 20000) (hlo : 1 ≤ lo) (hv : lo ≤ v) (hv2 : v ≤ m + 2)
    (hg : ∀ x (b : Int), 0 ≤ b → b ≤ m - lo → ∃ r, g x b = some r ∧ 1 ≤ r ∧ r ≤ b + 2 ∧ (r ≤ b → r = w x)) :
    ∃ (v' : Int) (i' : Nat), loopN (ρ := ρ) (un2 fun (v255 : Int) (v256 : Int) =>
        if (sel (ilt v256 (llen l)) (ile v255 m) false) = true then (
        bind1 (lget l v256) fun x327 =>
        bind1 (g x327 (isub .i64 m v255)) fun x330 =>
        some (.next ((iadd .i64 v255 x330), (iadd .i64 v256 1))))
        else (
        some (.brk (v255, v256)))) FU (v, 0) = some (.inl (v', (i' : Int))) ∧ v ≤ v' ∧ v' ≤ m + 2 ∧ (v' ≤ m → v' = v + sumL w l) := by
  refine cnt_loop (ρ := ρ) l w lo m (m + 2) (fun v i => (v, (i : Int))) ?_ ?_ l 0 FU v rfl (by rw [FU_eq]; omega) (by omega) (by omega) (by omega)
  · intro v i h
    simp only [un2_mk, sel_and, llen_eq]
    rw [if_neg]
    simp only [Bool.and_eq_true, ilt_iff, ile_iff]
    omega
  · intro v i x hx hlo hv hiv
    have hi := getElem_lt hx
    simp only [un2_mk, sel_and, llen_eq]
    rw [if_pos (by simp only [Bool.and_eq_true, ilt_iff, ile_iff]; omega), lget_ofNat, hx]
    simp only [bind1_of]
    rw [isub_in (by omega) (by omega)]
    obtain ⟨r, r1, r2, r3, r4⟩ := hg x (m - v) (by omega) (by omega)
    rw [r1]
    refine ⟨r, ?_, r2, by omega, fun h => r4 (by omega)⟩
    simp only [bind1_of]
    rw [iadd_in (by omega) (by omega), iadd_in (by omega) (by omega), cast_succ]

theorem mk_CountType_eq : ∀ (n : Nat) (t : Ty) (m : Int), -1 ≤ m → m ≤ 20000 → m + 1 < n → ∃ r, mk_CountType n t m = some r ∧ 1 ≤ r ∧ r ≤ m + 2 ∧ (r ≤ m → r = t.nodes) := by
  intro n
  induction n with
  | zero => intro t m h1 h2 h3; omega
  | succ n ih =>
    intro t m h1 h2 h3
    rw [mk_CountType]
    simp only [joinB_eq]
    obtain ⟨v', i', k1, k2, k3, k4⟩ := cnt_part (ρ := Int) t.args Ty.nodes m 1 1 (mk_CountType n) h1 h2 (by omega) (by omega) (by omega) (fun x b b1 b2 => ih x b (by omega) (by omega) (by omega))
    rw [k1]
    refine ⟨v', rfl, k2, k3, fun h => ?_⟩
    rw [Ty.nodes_args, k4 h]
    omega

theorem mk_CountTerm_eq : ∀ (n : Nat) (t : Tm) (m : Int), 0 ≤ m → m ≤ 20000 → m + 1 < n → ∃ r, mk_CountTerm n t m = some r ∧ 1 ≤ r ∧ r ≤ m + 2 ∧ (r ≤ m → r = t.wt) := by
  intro n
  induction n with
  | zero => intro t m h1 h2 h3; omega
  | succ n ih =>
    intro t m h1 h2 h3
    rw [mk_CountTerm, isub_in (by omega) (by omega)]
    obtain ⟨c, c1, c2, c3, c4⟩ := mk_CountType_eq FU t.typeF (m - 1) (by omega) (by omega) (by rw [FU_eq]; omega)
    rw [c1]
    simp only [joinB_eq, bind1_of]
    rw [iadd_in (by omega) (by omega)]
    obtain ⟨v', i', k1, k2, k3, k4⟩ := cnt_part (ρ := Int) t.args Tm.wt m 1 (1 + c) (mk_CountTerm n) (by omega) h2 (by omega) (by omega) (by omega) (fun x b b1 b2 => ih x b (by omega) (by omega) (by omega))
    rw [k1]
    refine ⟨v', rfl, by omega, k3, fun h => ?_⟩
    rw [Tm.wt_args, k4 h, c4 (by omega)]
    omega

theorem mk_CountFormula_eq : ∀ (n : Nat) (t : Fm) (m : Int), 0 ≤ m → m ≤ 20000 → m + 1 < n → ∃ r, mk_CountFormula n t m = some r ∧ 1 ≤ r ∧ r ≤ m + 2 ∧ (r ≤ m → r = t.wt) := by
  intro n
  induction n with
  | zero => intro t m h1 h2 h3; omega
  | succ n ih =>
    intro t m h1 h2 h3
    rw [mk_CountFormula, isub_in (by omega) (by omega)]
    obtain ⟨c, c1, c2, c3, c4⟩ := mk_CountType_eq FU t.typeF (m - 1) (by omega) (by omega) (by rw [FU_eq]; omega)
    rw [c1]
    simp only [joinB_eq, bind1_of]
    rw [iadd_in (by omega) (by omega)]
    obtain ⟨u', j', p1, p2, p3, p4⟩ := cnt_part (ρ := Int) t.terms Tm.wt m 1 (1 + c) (mk_CountTerm FU) (by omega) h2 (by omega) (by omega) (by omega) (fun x b b1 b2 => mk_CountTerm_eq FU x b (by omega) (by omega) (by rw [FU_eq]; omega))
    rw [p1]
    simp only [bind1_of, sumK_inl, un2_mk]
    obtain ⟨v', i', k1, k2, k3, k4⟩ := cnt_part (ρ := Int) t.args Fm.wt m 1 u' (mk_CountFormula n) (by omega) h2 (by omega) (by omega) (by omega) (fun x b b1 b2 => ih x b (by omega) (by omega) (by omega))
    rw [k1]
    refine ⟨v', rfl, by omega, k3, fun h => ?_⟩
    rw [Fm.wt_args, k4 h, p4 (by omega), c4 (by omega)]
    omega

/-- What the lists that are looked up hold. -/
theorem lookO_bd : ∀ (l : List Fm) (a : List Ty) (p : List Int) {s : List Ty × List Int}, lookO l a p = .inl s → (∀ t ∈ a, t.nodes ≤ 1000000000) →
    (∀ t ∈ s.1, t.nodes ≤ 1000000000) ∧ s.1.length ≤ a.length + l.length ∧ s.2.length = p.length + l.length
  | [], a, p, s, h, ha => by
    simp only [lookO, Sum.inl.injEq] at h
    subst h
    exact ⟨ha, by simp, by simp⟩
  | f :: l, a, p, s, h, ha => by
    simp only [lookO] at h
    by_cases h1 : f.err = 0
    · by_cases h5 : f.ct.2.2 = 0
      · simp only [h1, h5, ne_eq, not_true_eq_false, if_false] at h
        cases hh : f.has with
        | true =>
          simp only [hh, if_true] at h
          have hok := (Fm.err_ok h1).1
          have hn := rf_nodes hok
          unfold Fm.rf at hn
          simp only [h5, ne_eq, not_true_eq_false, if_false, hh, if_true] at hn
          obtain ⟨b1, b2, b3⟩ := lookO_bd l _ _ h (by
            intro t ht
            rcases List.mem_append.1 ht with ht | ht
            · exact ha t ht
            · rw [List.mem_singleton] at ht; subst ht; omega)
          simp only [List.length_append, List.length_cons, List.length_nil] at b2 b3 ⊢
          exact ⟨b1, by omega, by omega⟩
        | false =>
          simp only [hh, Bool.false_eq_true, if_false] at h
          obtain ⟨b1, b2, b3⟩ := lookO_bd l _ _ h ha
          simp only [List.length_append, List.length_cons, List.length_nil] at b2 b3 ⊢
          exact ⟨b1, by omega, by omega⟩
      · simp [h1, h5] at h
    · simp [h1] at h

theorem cty_nodes (f : Fm) : f.cty.1.nodes ≤ 1000000000 := by
  by_cases h : f.err = 0
  · rw [cty_rf h]; have := rf_nodes (Fm.err_ok h).1; omega
  · unfold Fm.cty; rw [if_pos h, Ty.nodes_mk]; simp [sumL]

theorem fb2 : fb 2 ≤ 4096 := by decide
end Go.Mdl
