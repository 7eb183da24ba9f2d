/-
  Counting with a limit, and the law of chapter 23 about contexts and places.
-/
import Derived.Test.YtdihelfnjememaaDoorPka
set_option linter.unusedSimpArgs false
set_option linter.unusedVariables false
namespace Go.Mdl
open Go

theorem cnt_loop {α σ ρ : Type} (H : List α) (w : α → Nat) (lo most B : Int) (enc : Int → Nat → σ) {F : σ → Option (Ctl σ ρ)}
    (hend : ∀ (v : Int) (i : Nat), ¬ (i < H.length ∧ v ≤ most) → F (enc v i) = some (.brk (enc v i)))
    (hF : ∀ (v : Int) (i : Nat) x, H[i]? = some x → lo ≤ v → v ≤ most → (i : Int) ≤ v → ∃ r : Int, F (enc v i) = some (.next (enc (v + r) (i + 1))) ∧ 1 ≤ r ∧ v + r ≤ B ∧ (v + r ≤ most → r = w x)) :
    ∀ (l : List α) (i n : Nat) (v : Int), l = H.drop i → (most + 1 - v).toNat < n → lo ≤ v → v ≤ B → (i : Int) ≤ v →
      ∃ (v' : Int) (i' : Nat), loopN F n (enc v i) = some (.inl (enc v' i')) ∧ v ≤ v' ∧ v' ≤ B ∧ (v' ≤ most → v' = v + sumL w l) := by
  intro l
  induction l with
  | nil =>
    intro i n v hd hn hlo hB hi
    obtain ⟨n, rfl⟩ : ∃ m, n = m + 1 := ⟨n - 1, by omega⟩
    have : H.length ≤ i := by
      have := congrArg List.length hd
      simp only [List.length_nil, List.length_drop] at this
      omega
    exact ⟨v, i, by rw [loopN_succ, hend v i (by omega)]; rfl, Int.le_refl _, hB, fun _ => by simp [sumL]⟩
  | cons x l ih =>
    intro i n v hd hn hlo hB hi
    obtain ⟨n, rfl⟩ : ∃ m, n = m + 1 := ⟨n - 1, by omega⟩
    obtain ⟨hlt, hget, hdrop⟩ := drop_split hd.symm
    by_cases hv : v ≤ most
    · obtain ⟨r, h1, h2, h3, h4⟩ := hF v i x hget hlo hv hi
      obtain ⟨v', i', k1, k2, k3, k4⟩ := ih (i + 1) n (v + r) hdrop.symm (by omega) (by omega) h3 (by omega)
      refine ⟨v', i', by rw [loopN_succ, h1]; exact k1, by omega, k3, fun hm => ?_⟩
      have e1 := k4 hm
      have e2 := h4 (by omega)
      simp only [sumL]
      omega
    · exact ⟨v, i, by rw [loopN_succ, hend v i (by omega)]; rfl, Int.le_refl _, hB, fun h => absurd h hv⟩

theorem cast_succ (i : Nat) : (i : Int) + 1 = ((i + 1 : Nat) : Int) := by omega

theorem Ty.nodes_args (t : Ty) : t.nodes = 1 + sumL Ty.nodes t.args := by cases t; rw [Ty.nodes_mk]; rfl
theorem Tm.wt_args (t : Tm) : t.wt = 1 + t.typeF.nodes + sumL Tm.wt t.args := by cases t; rw [Tm.wt_mk]; rfl
theorem Fm.wt_args (f : Fm) : f.wt = 1 + f.typeF.nodes + sumL Tm.wt f.terms + sumL Fm.wt f.args := by cases f; rw [Fm.wt_mk]; rfl
theorem getElem_lt {α : Type} {l : List α} {i : Nat} {x : α} (hx : l[i]? = some x) : i < l.length := by
  rcases Nat.lt_or_ge i l.length with h | h
  · exact h
  · rw [List.getElem?_eq_none h] at hx; cases hx

/-- A loop that counts the parts of a list, as the counting functions have it. -/
theorem cnt_part {α ρ : Type} (l : List α) (w : α → Nat) (m lo v : Int) (g : α → Int → Option Int) (hm : -1 ≤ m) (hm2 : m ≤ 20000) (hlo : 1 ≤ lo) (hv : lo ≤ v) (hv2 : v ≤ m + 2)
    (hg : ∀ x (b : Int), 0 ≤ b → b ≤ m - lo → ∃ r, g x b = some r ∧ 1 ≤ r ∧ r ≤ b + 2 ∧ (r ≤ b → r = w x)) :
    ∃ (v' : Int) (i' : Nat), loopN (ρ := ρ) (un2 fun (v255 : Int) (v256 : Int) =>
        if (sel (ilt v256 (llen l)) (ile v255 m) false) = true then (
        bind1 (lget l v256) fun x327 =>
        bind1 (g x327 (isub .i64 m v255)) fun x330 =>
        some (.next ((iadd .i64 v255 x330), (iadd .i64 v256 1))))
        else (
        some (.brk (v255, v256)))) FU (v, 0) = some (.inl (v', (i' : Int))) ∧ v ≤ v' ∧ v' ≤ m + 2 ∧ (v' ≤ m → v' = v + sumL w l) := by
  refine cnt_loop (ρ := ρ) l w lo m (m + 2) (fun v i => (v, (i : Int))) ?_ ?_ l 0 FU v rfl (by rw [FU_eq]; omega) (by omega) (by omega) (by omega)
  · intro v i h
    simp only [un2_mk, sel_and, llen_eq]
    rw [if_neg]
    simp only [Bool.and_eq_true, ilt_iff, ile_iff]
    omega
  · intro v i x hx hlo hv hiv
    have hi := getElem_lt hx
    simp only [un2_mk, sel_and, llen_eq]
    rw [if_pos (by simp only [Bool.and_eq_true, ilt_iff, ile_iff]; omega), lget_ofNat, hx]
    simp only [bind1_of]
    rw [isub_in (by omega) (by omega)]
    obtain ⟨r, r1, r2, r3, r4⟩ := hg x (m - v) (by omega) (by omega)
    rw [r1]
    refine ⟨r, ?_, r2, by omega, fun h => r4 (by omega)⟩
    simp only [bind1_of]
    rw [iadd_in (by omega) (by omega), iadd_in (by omega) (by omega), cast_succ]

theorem mk_CountType_eq : ∀ (n : Nat) (t : Ty) (m : Int), -1 ≤ m → m ≤ 20000 → m + 1 < n → ∃ r, mk_CountType n t m = some r ∧ 1 ≤ r ∧ r ≤ m + 2 ∧ (r ≤ m → r = t.nodes) := by
  intro n
  induction n with
  | zero => intro t m h1 h2 h3; omega
  | succ n ih =>
    intro t m h1 h2 h3
    rw [mk_CountType]
    simp only [joinB_eq]
    obtain ⟨v', i', k1, k2, k3, k4⟩ := cnt_part (ρ := Int) t.args Ty.nodes m 1 1 (mk_CountType n) h1 h2 (by omega) (by omega) (by omega) (fun x b b1 b2 => ih x b (by omega) (by omega) (by omega))
    rw [k1]
    refine ⟨v', rfl, k2, k3, fun h => ?_⟩
    rw [Ty.nodes_args, k4 h]
    omega

theorem mk_CountTerm_eq : ∀ (n : Nat) (t : Tm) (m : Int), 0 ≤ m → m ≤ 20000 → m + 1 < n → ∃ r, mk_CountTerm n t m = some r ∧ 1 ≤ r ∧ r ≤ m + 2 ∧ (r ≤ m → r = t.wt) := by
  intro n
  induction n with
  | zero => intro t m h1 h2 h3; omega
  | succ n ih =>
    intro t m h1 h2 h3
    rw [mk_CountTerm, isub_in (by omega) (by omega)]
    obtain ⟨c, c1, c2, c3, c4⟩ := mk_CountType_eq FU t.typeF (m - 1) (by omega) (by omega) (by rw [FU_eq]; omega)
    rw [c1]
    simp only [joinB_eq, bind1_of]
    rw [iadd_in (by omega) (by omega)]
    obtain ⟨v', i', k1, k2, k3, k4⟩ := cnt_part (ρ := Int) t.args Tm.wt m 1 (1 + c) (mk_CountTerm n) (by omega) h2 (by omega) (by omega) (by omega) (fun x b b1 b2 => ih x b (by omega) (by omega) (by omega))
    rw [k1]
    refine ⟨v', rfl, by omega, k3, fun h => ?_⟩
    rw [Tm.wt_args, k4 h, c4 (by omega)]
    omega

theorem mk_CountFormula_eq : ∀ (n : Nat) (t : Fm) (m : Int), 0 ≤ m → m ≤ 20000 → m + 1 < n → ∃ r, mk_CountFormula n t m = some r ∧ 1 ≤ r ∧ r ≤ m + 2 ∧ (r ≤ m → r = t.wt) := by
  intro n
  induction n with
  | zero => intro t m h1 h2 h3; omega
  | succ n ih =>
    intro t m h1 h2 h3
    rw [mk_CountFormula, isub_in (by omega) (by omega)]
    obtain ⟨c, c1, c2, c3, c4⟩ := mk_CountType_eq FU t.typeF (m - 1) (by omega) (by omega) (by rw [FU_eq]; omega)
    rw [c1]
    simp only [joinB_eq, bind1_of]
    rw [iadd_in (by omega) (by omega)]
    obtain ⟨u', j', p1, p2, p3, p4⟩ := cnt_part (ρ := Int) t.terms Tm.wt m 1 (1 + c) (mk_CountTerm FU) (by omega) h2 (by omega) (by omega) (by omega) (fun x b b1 b2 => mk_CountTerm_eq FU x b (by omega) (by omega) (by rw [FU_eq]; omega))
    rw [p1]
    simp only [bind1_of, sumK_inl, un2_mk]
    obtain ⟨v', i', k1, k2, k3, k4⟩ := cnt_part (ρ := Int) t.args Fm.wt m 1 u' (mk_CountFormula n) (by omega) h2 (by omega) (by omega) (by omega) (fun x b b1 b2 => ih x b (by omega) (by omega) (by omega))
    rw [k1]
    refine ⟨v', rfl, by omega, k3, fun h => ?_⟩
    rw [Fm.wt_args, k4 h, p4 (by omega), c4 (by omega)]
    omega

/-- A loop that adds up the counts of a list of wholes. -/
theorem sum_part {α ρ : Type} (l : List α) (w : α → Nat) (v : Int) (g : α → Int → Option Int) (hv : 0 ≤ v) (hv2 : v ≤ 40002)
    (hg : ∀ x, ∃ r, g x 20000 = some r ∧ 1 ≤ r ∧ r ≤ 20002 ∧ (r ≤ 20000 → r = w x)) :
    ∃ (v' : Int) (i' : Nat), loopN (ρ := ρ) (un2 fun (v341 : Int) (v342 : Int) =>
  joinB (fun (v399 : Bool) =>
  if v399 = true then (
  bind1 (lget l v341) fun x435 =>
  bind1 (g x435 20000) fun x438 =>
  some (.next ((iadd .i64 v341 1), (iadd .i64 v342 x438))))
  else (
  some (.brk (v341, v342)))) fun j400 =>
  if (ilt v341 (llen l)) = true then (
  bind1 (play_Sum_Few (Splay_Sum.mk v342)) fun x407 =>
  j400 x407)
  else (
  j400 false)) FU (0, v) = some (.inl ((i' : Int), v')) ∧ v ≤ v' ∧ v' ≤ 40002 ∧ (v' ≤ 20000 → v' = v + sumL w l) := by
  refine cnt_loop (ρ := ρ) l w 0 20000 40002 (fun v i => ((i : Int), v)) ?_ ?_ l 0 FU v rfl (by rw [FU_eq]; omega) (by omega) (by omega) (by omega)
  · intro v i h
    by_cases h1 : i < l.length
    · have e1 : ilt (i : Int) (l.length : Int) = true := by rw [ilt_iff]; omega
      have e2 : ile v 20000 = false := by rw [Bool.eq_false_iff, ne_eq, ile_iff]; omega
      simp only [un2_mk, joinB_eq, llen_eq, play_Sum_Few, bind1_of, e1, e2, if_true, Bool.false_eq_true, if_false]
    · have e1 : ilt (i : Int) (l.length : Int) = false := by rw [Bool.eq_false_iff, ne_eq, ilt_iff]; omega
      simp only [un2_mk, joinB_eq, llen_eq, e1, Bool.false_eq_true, if_false]
  · intro v i x hx hlo hv hiv
    have hi := getElem_lt hx
    have e1 : ilt (i : Int) (l.length : Int) = true := by rw [ilt_iff]; omega
    have e2 : ile v 20000 = true := by rw [ile_iff]; omega
    simp only [un2_mk, joinB_eq, llen_eq, play_Sum_Few, bind1_of, e1, e2, if_true, lget_ofNat, hx]
    obtain ⟨r, r1, r2, r3, r4⟩ := hg x
    simp only [bind1_of, r1]
    refine ⟨r, ?_, r2, by omega, fun h => r4 (by omega)⟩
    rw [iadd_in (by omega) (by omega), iadd_in (by omega) (by omega), cast_succ]

theorem play_Sum_Type_eq (v : Int) (l : List Ty) (hv : 0 ≤ v) (hv2 : v ≤ 40002) : ∃ v', play_Sum_Type (.mk v) l = some (.mk v') ∧ v ≤ v' ∧ v' ≤ 40002 ∧ (v' ≤ 20000 → v' = v + sumL Ty.nodes l) := by
  obtain ⟨v', i', k1, k2, k3, k4⟩ := sum_part (ρ := Splay_Sum) l Ty.nodes v (mk_CountType FU) hv hv2 (fun x => mk_CountType_eq FU x 20000 (by omega) (by omega) (by rw [FU_eq]; omega))
  refine ⟨v', ?_, k2, k3, k4⟩
  unfold play_Sum_Type
  simp only [joinB_eq] at k1 ⊢
  rw [k1]
  rfl
theorem play_Sum_Formula_eq (v : Int) (l : List Fm) (hv : 0 ≤ v) (hv2 : v ≤ 40002) : ∃ v', play_Sum_Formula (.mk v) l = some (.mk v') ∧ v ≤ v' ∧ v' ≤ 40002 ∧ (v' ≤ 20000 → v' = v + sumL Fm.wt l) := by
  obtain ⟨v', i', k1, k2, k3, k4⟩ := sum_part (ρ := Splay_Sum) l Fm.wt v (mk_CountFormula FU) hv hv2 (fun x => mk_CountFormula_eq FU x 20000 (by omega) (by omega) (by rw [FU_eq]; omega))
  refine ⟨v', ?_, k2, k3, k4⟩
  unfold play_Sum_Formula
  simp only [joinB_eq] at k1 ⊢
  rw [k1]
  rfl

theorem sameAll_self (l : List Ty) (hl : l.length ≤ 1000000) (h : ∀ t ∈ l, t.nodes ≤ 1000000000) : ref01_SameAll l l = some true := by
  unfold ref01_SameAll
  rw [if_neg (by simp [ine]), show okLen l = true from okLen_of (by omega), chk_true]
  simp only [joinB_eq]
  obtain ⟨s', h1, h2⟩ := forR_ind (ρ := Bool) (F := fun (j112 : Int) (x114 : Ty) => (fun (_ : Unit) =>
    bind1 (lget l j112) fun x271 =>
    bind1 (ref01_Same FU x114 x271) fun x274 =>
    if x274 = true then (
    some (.next ()))
    else (
    some (.ret false)))) (fun _ => True) l 0 () trivial (fun k x s hk _ => ⟨(), by
      have := h x (List.mem_of_getElem? hk)
      simp only [Nat.zero_add, lget_ofNat, hk, bind1_of, same_self x this, if_true], trivial⟩)
  rw [h1]
  rfl
theorem ints_self (l : List Int) (hl : l.length ≤ 1000000) : ref05_Ints l l = some true := by
  unfold ref05_Ints
  rw [if_neg (by simp [ine]), show okLen l = true from okLen_of (by omega), chk_true]
  simp only [joinB_eq]
  obtain ⟨s', h1, h2⟩ := forR_ind (ρ := Bool) (F := fun (j100 : Int) (x102 : Int) => (fun (_ : Unit) =>
    bind1 (lget l j100) fun x238 =>
    if (ine x102 x238) = true then (
    some (.ret false))
    else (
    some (.next ())))) (fun _ => True) l 0 () trivial (fun k x s hk _ => ⟨(), by
      simp only [Nat.zero_add, lget_ofNat, hk, bind1_of]
      rw [if_neg (by simp [ine])], trivial⟩)
  exact (congrArg (fun o => bind1 o (sumK (fun (_ : Unit) => some true) fun (r : Bool) => some r)) h1).trans rfl

/-- What the lists that are looked up hold. -/
theorem lookO_bd : ∀ (l : List Fm) (a : List Ty) (p : List Int) {s : List Ty × List Int}, lookO l a p = .inl s → (∀ t ∈ a, t.nodes ≤ 1000000000) →
    (∀ t ∈ s.1, t.nodes ≤ 1000000000) ∧ s.1.length ≤ a.length + l.length ∧ s.2.length = p.length + l.length
  | [], a, p, s, h, ha => by
    simp only [lookO, Sum.inl.injEq] at h
    subst h
    exact ⟨ha, by simp, by simp⟩
  | f :: l, a, p, s, h, ha => by
    simp only [lookO] at h
    by_cases h1 : f.err = 0
    · by_cases h5 : f.ct.2.2 = 0
      · simp only [h1, h5, ne_eq, not_true_eq_false, if_false] at h
        cases hh : f.has with
        | true =>
          simp only [hh, if_true] at h
          have hok := (Fm.err_ok h1).1
          have hn := rf_nodes hok
          unfold Fm.rf at hn
          simp only [h5, ne_eq, not_true_eq_false, if_false, hh, if_true] at hn
          obtain ⟨b1, b2, b3⟩ := lookO_bd l _ _ h (by
            intro t ht
            rcases List.mem_append.1 ht with ht | ht
            · exact ha t ht
            · rw [List.mem_singleton] at ht; subst ht; omega)
          simp only [List.length_append, List.length_cons, List.length_nil] at b2 b3 ⊢
          exact ⟨b1, by omega, by omega⟩
        | false =>
          simp only [hh, Bool.false_eq_true, if_false] at h
          obtain ⟨b1, b2, b3⟩ := lookO_bd l _ _ h ha
          simp only [List.length_append, List.length_cons, List.length_nil] at b2 b3 ⊢
          exact ⟨b1, by omega, by omega⟩
      · simp [h1, h5] at h
    · simp [h1] at h

theorem cty_nodes (f : Fm) : f.cty.1.nodes ≤ 1000000000 := by
  by_cases h : f.err = 0
  · rw [cty_rf h]; have := rf_nodes (Fm.err_ok h).1; omega
  · unfold Fm.cty; rw [if_pos h, Ty.nodes_mk]; simp [sumL]

structure SqBd (q : Sq) : Prop where
  lt : q.types.length ≤ 1000
  t : ∀ t ∈ q.types, t.nodes ≤ 1000000000
  lh : q.hyps.length ≤ 1000
  h : ∀ f ∈ q.hyps, f.wt ≤ 1000000000

theorem fb2 : fb 2 ≤ 4096 := by decide
theorem law_ContentExact (l : List Int) (a1 : Fm) (a2 : Sq) : law23_ContentExact l a1 a2 = some true := by
  unfold law23_ContentExact
  refine good_join (G := fun o => o = some true) (fun a => a = false → l.length ≤ 500 ∧ a1.wt ≤ 1000000000 ∧ SqBd a2) ?_ ?_
  · intro a ha
    cases a with
    | true => simp [awake_true]
    | false =>
      obtain ⟨hl, hw, hq⟩ := ha rfl
      simp only [Bool.false_eq_true, if_false]
      obtain ⟨y, d1, y1, y2, y3, y4, y5, y6⟩ := mk_Sequent_ok ⟨l, 0⟩ (new_wf l (by omega))
      obtain ⟨x, d2, x1, x2, x3⟩ := mk_Formula' 4 (by omega) y.types d1 (by omega) y4 y2
      rw [show ((4 : Nat) : Int) = 4 from rfl] at x1
      have xw := x3.wt
      have hfb : fb 4 ≤ 4096 := by decide
      have yw : SqBd y := ⟨by omega, fun t ht => by have := (y4.all t ht).2; omega, by omega, fun f hf => by have h1 := (y6 f hf).wt; have h2 : fb 2 ≤ 4096 := fb2; omega⟩
      simp only [mk_New, bind1_of, y1, bind2_of, x1]
      have l1 : okLen [a1, x] = true := okLen_of (by simp)
      have l2 : okLen [a2, y] = true := okLen_of (by simp)
      have hm : ∀ f ∈ [a1, x], f.wt ≤ 1000000000 := by
        intro f hf
        simp only [List.mem_cons, List.not_mem_nil, or_false] at hf
        rcases hf with rfl | rfl
        · exact hw
        · omega
      have hs : ∀ q ∈ [a2, y], SqBd q := by
        intro f hf
        simp only [List.mem_cons, List.not_mem_nil, or_false] at hf
        rcases hf with rfl | rfl
        · exact hq
        · exact yw
      generalize [a1, x] = L at *
      generalize [a2, y] = M at *
      rw [joinB_eq, l1, chk_true, joinB_eq]
      rw [(forR_ok (ρ := Bool) (fun _ : Fm => true) false L 0 ?_).trans (by rw [if_pos (by simp)])]
      · simp only [bind1_of, sumK_inl]
        rw [joinB_eq, l2, chk_true, joinB_eq]
        rw [(forR_ok (ρ := Bool) (fun _ : Sq => true) false M 0 ?_).trans (by rw [if_pos (by simp)])]
        · rfl
        · intro j q hmem
          obtain ⟨q1, q2, q3, q4⟩ := hs q hmem
          rw [content_Context_eq q (by omega) q2 (by omega) q4, content_Places_eq q (by omega) q2 (by omega) q4, ref23_Context_eq q (by omega) q2 (by omega) q4, ref23_Places_eq q (by omega) q2 (by omega) q4]
          have n1 : ref01_SameAll [] [] = some true := sameAll_self [] (by simp) (by simp)
          have n2 : ref05_Ints [] [] = some true := ints_self [] (by simp)
          by_cases h3 : ctxE q.types = 0
          · by_cases h4 : 16 < q.hyps.length
            · simp [h3, h4, n1, n2, ine]
            · cases h5 : lookO q.hyps q.types [] with
              | inr e => simp [h3, h4, n1, n2, ine]
              | inl s =>
                obtain ⟨b1, b2, b3⟩ := lookO_bd _ _ _ h5 q2
                simp only [List.length_nil] at b3
                have m1 := sameAll_self s.1 (by omega) b1
                have m2 := ints_self s.2 (by omega)
                simp [h3, h4, m1, m2, ine]
          · simp [h3, n1, n2, ine]
      · intro j f hmem
        have fw := hm f hmem
        rw [content_Type_eq f fw, ref23_Type_eq f fw]
        have hss := same_self _ (cty_nodes f)
        rcases hct : f.cty with ⟨t, e⟩
        rw [hct] at hss
        simp only at hss
        simp [hss, ine]
  · intro j hj
    rw [awake_true]
    simp only [bind1_of, if_true, mk_Few, play_Count]
    have hj1 : j true = some true := hj true (fun h => by cases h)
    by_cases hl : l.length ≤ 500
    · rw [if_pos (by rw [ile_iff, llen_eq]; omega)]
      obtain ⟨u, u1, u2, u3, u4⟩ := play_Sum_Formula_eq 0 [a1] (by omega) (by omega)
      obtain ⟨v, v1, v2, v3, v4⟩ := play_Sum_Type_eq u a2.types (by omega) (by omega)
      obtain ⟨w, w1, w2, w3, w4⟩ := play_Sum_Formula_eq v a2.hyps (by omega) (by omega)
      simp only [u1, bind1_of, play_Sum_Sequent, v1, w1, play_Sum_Few]
      by_cases hw : w ≤ 20000
      · rw [if_pos (by rw [ile_iff]; exact hw)]
        by_cases h4 : a2.types.length ≤ 40
        · rw [if_neg (by simp [igt]; omega)]
          refine hj _ fun h => ?_
          have h5 : (a2.hyps.length : Int) ≤ 30 := by simpa [igt] using h
          have e1 := u4 (by omega)
          have e2 := v4 (by omega)
          have e3 := w4 (by omega)
          simp only [sumL] at e1
          exact ⟨hl, by omega, by omega, fun t ht => by have := sumL_mem Ty.nodes ht; omega, by omega, fun f hf => by have := sumL_mem Fm.wt hf; omega⟩
        · rw [if_pos (by simp [igt]; omega)]; exact hj1
      · rw [if_neg (by rw [ile_iff]; exact hw)]; exact hj1
    · rw [if_neg (by rw [ile_iff, llen_eq]; omega)]; exact hj1
end Go.Mdl
