/-
  Types: the law TypesDoes.
-/
import Derived.Test.YtnbbnjmjpnncfaaTyR
import Derived.Test.YtnbbnjmjpnncfaaBent
set_option maxRecDepth 20000
set_option linter.unusedSimpArgs false
set_option linter.unusedVariables false
namespace Go.Mdl
open Go

theorem drop_split {α : Type} {l : List α} {i : Nat} {x : α} {m : List α} (h : l.drop i = x :: m) : i < l.length ∧ l[i]? = some x ∧ l.drop (i + 1) = m := by
  have hlt : i < l.length := by
    rcases Nat.lt_or_ge i l.length with h' | h'
    · exact h'
    · rw [List.drop_eq_nil_of_le h'] at h; cases h
  rw [List.drop_eq_getElem_cons hlt] at h
  injection h with h1 h2
  exact ⟨hlt, by rw [List.getElem?_eq_getElem hlt, h1], h2⟩
theorem cnt_loop {α σ ρ : Type} (H : List α) (w : α → Nat) (lo most B : Int) (enc : Int → Nat → σ) {F : σ → Option (Ctl σ ρ)}
    (hend : ∀ (v : Int) (i : Nat), ¬ (i < H.length ∧ v ≤ most) → F (enc v i) = some (.brk (enc v i)))
    (hF : ∀ (v : Int) (i : Nat) x, H[i]? = some x → lo ≤ v → v ≤ most → (i : Int) ≤ v → ∃ r : Int, F (enc v i) = some (.next (enc (v + r) (i + 1))) ∧ 1 ≤ r ∧ v + r ≤ B ∧ (v + r ≤ most → r = w x)) :
    ∀ (l : List α) (i n : Nat) (v : Int), l = H.drop i → (most + 1 - v).toNat < n → lo ≤ v → v ≤ B → (i : Int) ≤ v →
      ∃ (v' : Int) (i' : Nat), loopN F n (enc v i) = some (.inl (enc v' i')) ∧ v ≤ v' ∧ v' ≤ B ∧ (v' ≤ most → v' = v + sumL w l) := by
  intro l
  induction l with
  | nil =>
    intro i n v hd hn hlo hB hi
    obtain ⟨n, rfl⟩ : ∃ m, n = m + 1 := ⟨n - 1, by omega⟩
    have : H.length ≤ i := by
      have := congrArg List.length hd
      simp only [List.length_nil, List.length_drop] at this
      omega
    exact ⟨v, i, by rw [loopN_succ, hend v i (by omega)]; rfl, Int.le_refl _, hB, fun _ => by simp [sumL]⟩
  | cons x l ih =>
    intro i n v hd hn hlo hB hi
    obtain ⟨n, rfl⟩ : ∃ m, n = m + 1 := ⟨n - 1, by omega⟩
    obtain ⟨hlt, hget, hdrop⟩ := drop_split hd.symm
    by_cases hv : v ≤ most
    · obtain ⟨r, h1, h2, h3, h4⟩ := hF v i x hget hlo hv hi
      obtain ⟨v', i', k1, k2, k3, k4⟩ := ih (i + 1) n (v + r) hdrop.symm (by omega) (by omega) h3 (by omega)
      refine ⟨v', i', by rw [loopN_succ, h1]; exact k1, by omega, k3, fun hm => ?_⟩
      have e1 := k4 hm
      have e2 := h4 (by omega)
      simp only [sumL]
      omega
    · exact ⟨v, i, by rw [loopN_succ, hend v i (by omega)]; rfl, Int.le_refl _, hB, fun h => absurd h hv⟩

theorem cast_succ (i : Nat) : (i : Int) + 1 = ((i + 1 : Nat) : Int) := by omega

theorem Ty.nodes_args (t : Ty) : t.nodes = 1 + sumL Ty.nodes t.args := by cases t; rw [Ty.nodes_mk]; rfl
theorem getElem_lt {α : Type} {l : List α} {i : Nat} {x : α} (hx : l[i]? = some x) : i < l.length := by
  rcases Nat.lt_or_ge i l.length with h | h
  · exact h
  · rw [List.getElem?_eq_none h] at hx; cases hx

/-- A loop that counts the parts of a list, as the counting functions have it. -/
theorem cnt_part {α ρ : Type} (l : List α) (w : α → Nat) (m lo v : Int) (g : α → Int → Option Int) (hm : -1 ≤ m) (hm2 : m ≤ 20000) (hlo : 1 ≤ lo) (hv : lo ≤ v) (hv2 : v ≤ m + 2)
    (hg : ∀ x (b : Int), 0 ≤ b → b ≤ m - lo → ∃ r, g x b = some r ∧ 1 ≤ r ∧ r ≤ b + 2 ∧ (r ≤ b → r = w x)) :
    ∃ (v' : Int) (i' : Nat), loopN (ρ := ρ) (un2 fun (v255 : Int) (v256 : Int) =>
        if (sel (ilt v256 (llen l)) (ile v255 m) false) = true then (
        bind1 (lget l v256) fun x327 =>
        bind1 (g x327 (isub .i64 m v255)) fun x330 =>
        some (.next ((iadd .i64 v255 x330), (iadd .i64 v256 1))))
        else (
        some (.brk (v255, v256)))) FU (v, 0) = some (.inl (v', (i' : Int))) ∧ v ≤ v' ∧ v' ≤ m + 2 ∧ (v' ≤ m → v' = v + sumL w l) := by
  refine cnt_loop (ρ := ρ) l w lo m (m + 2) (fun v i => (v, (i : Int))) ?_ ?_ l 0 FU v rfl (by rw [FU_eq]; omega) (by omega) (by omega) (by omega)
  · intro v i h
    simp only [un2_mk, sel_and, llen_eq]
    rw [if_neg]
    simp only [Bool.and_eq_true, ilt_iff, ile_iff]
    omega
  · intro v i x hx hlo hv hiv
    have hi := getElem_lt hx
    simp only [un2_mk, sel_and, llen_eq]
    rw [if_pos (by simp only [Bool.and_eq_true, ilt_iff, ile_iff]; omega), lget_ofNat, hx]
    simp only [bind1_of]
    rw [isub_in (by omega) (by omega)]
    obtain ⟨r, r1, r2, r3, r4⟩ := hg x (m - v) (by omega) (by omega)
    rw [r1]
    refine ⟨r, ?_, r2, by omega, fun h => r4 (by omega)⟩
    simp only [bind1_of]
    rw [iadd_in (by omega) (by omega), iadd_in (by omega) (by omega), cast_succ]

theorem mk_CountType_eq : ∀ (n : Nat) (t : Ty) (m : Int), -1 ≤ m → m ≤ 20000 → m + 1 < n → ∃ r, mk_CountType n t m = some r ∧ 1 ≤ r ∧ r ≤ m + 2 ∧ (r ≤ m → r = t.nodes) := by
  intro n
  induction n with
  | zero => intro t m h1 h2 h3; omega
  | succ n ih =>
    intro t m h1 h2 h3
    rw [mk_CountType]
    simp only [joinB_eq]
    obtain ⟨v', i', k1, k2, k3, k4⟩ := cnt_part (ρ := Int) t.args Ty.nodes m 1 1 (mk_CountType n) h1 h2 (by omega) (by omega) (by omega) (fun x b b1 b2 => ih x b (by omega) (by omega) (by omega))
    rw [k1]
    refine ⟨v', rfl, k2, k3, fun h => ?_⟩
    rw [Ty.nodes_args, k4 h]
    omega


theorem law01_nodes_eq (x : Ty) : ∃ r : Nat, law01_nodes x = some (r : Int) ∧ 1 ≤ r ∧ r ≤ 20002 ∧ (r ≤ 20000 → r = x.nodes) := by
  obtain ⟨r, h1, h2, h3, h4⟩ := mk_CountType_eq FU x 20000 (by omega) (by omega) (by rw [FU_eq]; omega)
  obtain ⟨n, rfl⟩ : ∃ n : Nat, r = (n : Int) := ⟨r.toNat, by omega⟩
  refine ⟨n, ?_, by omega, by omega, fun h => by have := h4 (by omega); omega⟩
  unfold law01_nodes
  rw [h1]
  rfl
theorem law01_few_eq (l : List Ty) (hl : l.length ≤ 4398046511104) : ∃ b, law01_few l = some b ∧ (b = true → l.length ≤ 800 ∧ ∀ x ∈ l, x.nodes ≤ 800) := by
  let g : Ty → Nat := fun x => (Classical.choose (law01_nodes_eq x))
  have hg : ∀ x, law01_nodes x = some (g x : Int) ∧ 1 ≤ g x ∧ g x ≤ 20002 ∧ (g x ≤ 20000 → g x = x.nodes) := fun x => Classical.choose_spec (law01_nodes_eq x)
  have hsum : ∀ m : List Ty, sumL g m ≤ m.length * 20002 := by
    intro m
    induction m with
    | nil => simp [sumL]
    | cons x m ih => simp only [sumL, List.length_cons]; have := (hg x).2.2.1; omega
  have hs := hsum l
  have key := forR_sum (ρ := Bool) (F := fun (j : Int) (x : Ty) (v : Int) => bind1 (law01_nodes x) fun a => some (.next (iadd .i64 v a))) g l 0 0 (by omega) (by
    intro j x v hx
    rw [(hg x).1]
    rfl)
  simp only [Int.natCast_zero, Nat.zero_add] at key
  unfold law01_few
  simp only [joinB_eq]
  rw [show okLen l = true by unfold okLen limL; simp only [decide_eq_true_eq]; omega, chk_true, key]
  simp only [bind1_of, sumK_inl]
  refine ⟨_, rfl, fun hb => ?_⟩
  rw [ilt_iff] at hb
  have hlen := sumL_len g l fun x _ => (hg x).2.1
  refine ⟨by omega, fun x hx => ?_⟩
  have := sumL_mem g hx
  have h4 := (hg x).2.2.2 (by omega)
  omega

/-- A small type of small width has not too many nodes. -/
theorem fit_nodes : ∀ (b : Nat) (t : Ty), FitT 3 b t → 2 * t.nodes + 1 ≤ 3 ^ (b + 1)
  | 0, t, h => by
    cases t with
    | mk k l => have h : l = [] := h; subst h; rw [Ty.nodes_mk]; simp [sumL]
  | b + 1, t, h => by
    cases t with
    | mk k l =>
      obtain ⟨h1, h2⟩ := h
      simp only [Ty.args_mk] at h1 h2
      have : ∀ m : List Ty, (∀ x ∈ m, FitT 3 b x) → 2 * sumL Ty.nodes m + m.length ≤ m.length * 3 ^ (b + 1) := by
        intro m
        induction m with
        | nil => intro _; simp [sumL]
        | cons x m ih =>
          intro hm
          have e1 := fit_nodes b x (hm x (by simp))
          have e2 := ih fun y hy => hm y (by simp [hy])
          simp only [sumL, List.length_cons, Nat.succ_mul]
          omega
      have e := this l h2
      have e4 : 3 ^ (b + 1 + 1) = 3 * 3 ^ (b + 1) := by rw [Nat.pow_succ]; omega
      have e5 : 1 ≤ 3 ^ (b + 1) := Nat.one_le_pow _ _ (by omega)
      rw [Ty.nodes_mk]
      have h3 : l.length = 0 ∨ l.length = 1 ∨ l.length = 2 ∨ l.length = 3 := by omega
      rcases h3 with h | h | h | h <;> rw [h] at e <;> omega
theorem fit_of_ok : ∀ (b : Nat) (t : Ty), t.ok = true → t.nodes ≤ b + 1 → FitT 2 b t
  | 0, t, h, hn => by
    cases t with
    | mk k l =>
      rw [Ty.nodes_mk] at hn
      have := Ty.len_nodes l
      exact List.length_eq_zero_iff.1 (show l.length = 0 by omega)
  | b + 1, t, h, hn => by
    cases t with
    | mk k l =>
      rw [Ty.nodes_mk] at hn
      rw [Ty.ok_mk] at h
      simp only [Bool.and_eq_true, decide_eq_true_eq, List.all_eq_true] at h
      refine ⟨?_, fun x hx => fit_of_ok b x (h.2 x hx) ?_⟩
      · have := h.1
        unfold Ty.want at this
        split at this
        · simp at this; show l.length ≤ 2; omega
        · split at this
          · simp at this; show l.length ≤ 2; omega
          · cases this
      · have := sumL_mem Ty.nodes (show x ∈ l from hx)
        omega

theorem forR_next {α ρ : Type} {F : Int → α → Unit → Option (Ctl Unit ρ)} : ∀ {l : List α} {i : Nat}, (∀ j x, x ∈ l → F j x () = some (.next ())) → forR F l i () = some (.inl ())
  | [], i, _ => rfl
  | x :: l, i, h => by
    rw [forR_cons, h _ x (by simp)]
    simp only [bind1_of, ctlK_next]
    exact forR_next fun j y hy => h j y (by simp [hy])
theorem ine_self (a : Int) : ine a a = false := by simp [ine]
theorem bneB_self (a : Bool) : bneB a a = false := by simp [bneB]
theorem types_Same_eq {a b : Ty} (h : a.nodes ≤ 1000000000) : types_Same a b = some (a.sameB b) := by
  unfold types_Same
  rw [same_fun, ref01_Same' h]
  rfl
theorem tdRest_true {a1 : Ty} {a2 : List Ty} {x y t : Ty} (h1 : a1.nodes ≤ 1000000000) (hl : a2.length ≤ 800) (h2 : ∀ z ∈ a2, z.nodes ≤ 1000000000) (hx : x.nodes ≤ 1000000000) (hy : y.nodes ≤ 1000000000) (ht : t.nodes ≤ 1000000000) :
    tdRest a1 a2 x y t = some true := by
  unfold tdRest
  simp only [joinB_eq, okLen_of (l := [a1, x, t]) (by simp), chk_true]
  rw [forR_next]
  · rfl
  intro j s hs
  have hs : s.nodes ≤ 1000000000 := by
    simp only [List.mem_cons, List.not_mem_nil, or_false] at hs
    rcases hs with rfl | rfl | rfl <;> assumption
  obtain ⟨z1, z2, z3, z4⟩ := size_both hs
  obtain ⟨l1, l2, l3, l4⟩ := level_both hs
  obtain ⟨d1, d2, d3, d4⟩ := data_both hs
  obtain ⟨r1, r2, r3, r4, r5, r6, r7⟩ := result_both hs
  simp only [z3, z4, l3, l4, d3, d4, r4, r5, bind2_of, bind3_of, bind1_of, types_Check_eq hs, ref01_Check_eq hs, ine_self, bneB_self, Bool.false_eq_true, if_false, r6, r7, if_true, types_Same_eq hs, ref01_Same' hs,
    okLen_of (l := [a2, [x], [y, s, x], []]) (by simp), chk_true]
  rw [forR_next]
  · rfl
  intro j z hz
  have hz : z.length ≤ 1000 ∧ ∀ w ∈ z, w.nodes ≤ 1000000000 := by
    simp only [List.mem_cons, List.not_mem_nil, or_false] at hz
    rcases hz with rfl | rfl | rfl | rfl
    · exact ⟨by omega, h2⟩
    · exact ⟨by simp, by simpa using hx⟩
    · exact ⟨by simp, by simp [hy, hs, hx]⟩
    · exact ⟨by simp, by simp⟩
  obtain ⟨f1, f2, f3, f4, f5⟩ := function_both hz.1 hz.2 hs
  obtain ⟨c1, c2, c3⟩ := context_both (by omega) hz.2
  simp only [f3, f4, f5, c2, c3, bind2_of, bind1_of, ine_self, Bool.false_eq_true, if_false, if_true]

/-- What is said of what comes behind the drawn types, as a word for it. -/
noncomputable def tdK (a1 : Ty) (a2 : List Ty) (d : Smk_Deck) (x y : Ty) : Option Bool :=
  @ite _ (d.wf ∧ FitT 2 14 x ∧ ∀ t, FitT 3 15 t → tdRest a1 a2 x y t = some true) (Classical.propDecidable _) (some true) none
theorem tdK_spec {a1 : Ty} {a2 : List Ty} (d : Smk_Deck) (x y : Ty) (r : Bool) (h : tdK a1 a2 d x y = some r) : d.wf ∧ FitT 2 14 x ∧ ∀ t, FitT (2 + 1) (14 + 1) t → tdRest a1 a2 x y t = some r := by
  unfold tdK at h
  split at h
  · cases h; assumption
  · cases h
theorem law_TypesDoesR (a0 : List Int) (a1 : Ty) (a2 : List Ty) (h2 : a2.length ≤ 4398046511104) : law01_TypesDoesR a0 a1 a2 (tdK a1 a2) = some true := by
  obtain ⟨b1, f1, g1⟩ := law01_few_eq [a1] (by simp)
  obtain ⟨b2, f2, g2⟩ := law01_few_eq a2 h2
  unfold law01_TypesDoesR mk_Few
  rw [law01_sane_eq]
  simp only [bind1_of, if_true, ile_iff, llen_eq, joinB_eq, f1, f2]
  by_cases h : (a0.length : Int) ≤ 500
  · rw [if_pos h]
    cases b1 with
    | false => simp
    | true =>
      simp only [if_true]
      cases b2 with
      | false => simp
      | true =>
        obtain ⟨-, g1⟩ := g1 rfl
        obtain ⟨k1, g2⟩ := g2 rfl
        have e1 : bnot true = false := rfl
        simp only [e1, Bool.false_eq_true, if_false]
        unfold mk_New
        simp only [bind1_of]
        obtain ⟨x, d, x1, x2, x3, x4⟩ := mk_Type' ⟨a0, 0⟩ ⟨by show a0.length ≤ 1000; omega, by show (0 : Int) ≤ 0; omega, by show (0 : Int) ≤ (a0.length : Int); omega⟩ 3 (by omega)
        obtain ⟨y, d', y1, y2, y3, y4⟩ := mk_Type' d x4 2 (by omega)
        rw [show ((3 : Nat) : Int) = 3 from rfl] at x1
        rw [show ((2 : Nat) : Int) = 2 from rfl] at y1
        rw [x1]
        simp only [bind2_of]
        rw [y1]
        simp only [bind2_of]
        have e3 : (2 : Nat) ^ (3 + 1) = 16 := by decide
        have e4 : (2 : Nat) ^ (2 + 1) = 8 := by decide
        unfold tdK
        refine if_pos ⟨y4, fit_of_ok 14 x (Ty.err_zero x2).1 (by omega), fun t ht => ?_⟩
        have hn := fit_nodes 15 t ht
        have e5 : (3 : Nat) ^ (15 + 1) = 43046721 := by decide
        have := g1 a1 (by simp)
        exact tdRest_true (by omega) k1 (fun z hz => by have := g2 z hz; omega) (by omega) (by omega) (by omega)
  · rw [if_neg h]
end Go.Mdl
