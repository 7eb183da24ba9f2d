/-
  What the package reduce computes, as functions of terms.
-/
import Derived.Test.YtnabbjnhemmkhaaDoorQe
set_option linter.unusedSimpArgs false
set_option linter.unusedVariables false
namespace Go.Mdl
open Go

theorem tree_CheckTerm_eq {t : Tm} (h : t.wt ≤ 1000000000) : tree_CheckTerm t = some (if t.err = 0 then (t.nodes : Int) else 0, t.err) := by
  unfold tree_CheckTerm Tm.err
  rw [tree_termNodes_eq FU t (by rw [FU_eq]; exact h) h]
  by_cases ho : t.ok = true
  · simp only [ho, if_true, bind2_of, igt_iff]
    by_cases hb : 4096 < t.nodes
    · rw [if_pos hb, if_pos (by omega)]; rfl
    · rw [if_neg hb, if_neg (by omega)]; rfl
  · simp only [ho, bind2_of]
    rfl
theorem terms_Check_eq {t : Tm} (h : t.wt ≤ 1000000000) : terms_Check t = some t.err := by
  unfold terms_Check
  rw [tree_CheckTerm_eq h]
  rfl
theorem Tm.err_ok {t : Tm} (h : t.err = 0) : t.ok = true ∧ t.nodes ≤ 4096 := by
  unfold Tm.err at h
  split at h
  · rename_i ho
    split at h
    · omega
    · exact ⟨ho, by omega⟩
  · omega

/-- No index is too great. -/
theorem Near_loop : ∀ (n : Nat) (t : Tm) (b : Int) (s : Bool), t.nodes ≤ n → t.ok = true → t.nodes ≤ 1000000 → 0 ≤ b → b + t.nodes ≤ 100000000 →
    tree_Each_1 n t b (fun (s : Bool) (y0 : Int) (y1 : Int) => tree_Near_1 y0 y1 s) s = some (s && t.least 536870912) := by
  intro n
  induction n with
  | zero => intro t b s h; have := t.nodes_pos; omega
  | succ n ih =>
    intro t b s h ho hn hb hbn
    cases t with
    | mk k i ty l =>
      obtain ⟨o1, o2, o3, o4, o5⟩ := Tm.ok_inv ho
      rw [Tm.nodes_mk] at h hn hbn
      have hlen := Tm.len_nodes l
      rw [tree_Each_1]
      simp only [Tm.args_mk, Tm.kind_mk, Tm.index_mk, joinB_eq, ieq_iff]
      rw [Tm.least_mk]
      by_cases hk : k = 1
      · have hl := o1 hk
        subst hl
        rw [if_pos hk]
        unfold tree_Near_1
        cases s with
        | true => simp [ile]; rfl
        | false => simp; rfl
      · rw [if_neg hk]
        have hi := o3 hk
        subst hi
        have hb2 : sel (ieq k 2) (iadd .i64 b 1) b = b + lamB k := by
          unfold lamB
          by_cases h2 : k = 2
          · subst h2
            rw [if_pos rfl]
            exact iadd_in (by omega) (by omega)
          · rw [if_neg h2]
            have : ieq k 2 = false := by simp [ieq, h2]
            rw [this]
            simp
        have hlb := lamB_bd k
        rw [okLen_of (l := l) (by omega)]
        simp only [chk_true, hb2]
        have loop : ∀ (ts : List Tm) (j : Nat) (s : Bool), (∀ t ∈ ts, t ∈ l) → forR (fun (j58 : Int) (x60 : Tm) => (fun (v133 : Bool) =>
            bind1 (tree_Each_1 n x60 (b + lamB k) (fun (s : Bool) (y0 : Int) (y1 : Int) => tree_Near_1 y0 y1 s) v133) fun s186 =>
            some ((.next s186) : Ctl Bool Bool))) ts j s = some (.inl (s && ts.all (Tm.least 536870912))) := by
          intro ts
          induction ts with
          | nil => intro j s _; simp
          | cons t ts iht =>
            intro j s hm
            have htl := hm t (by simp)
            have hmn := sumL_mem Tm.nodes htl
            rw [forR_cons, ih t _ _ (by omega) (o4 t htl) (by omega) (by omega) (by omega)]
            simp only [bind1_of, ctlK_next]
            rw [iht (j + 1) _ fun u hu => hm u (by simp [hu])]
            simp [Bool.and_assoc]
        rw [loop l 0 s fun t h => h]
        simp
theorem tree_Near_eq {t : Tm} (ho : t.ok = true) (hn : t.nodes ≤ 1000000) : tree_Near t = some (t.least 536870912) := by
  unfold tree_Near tree_Each
  rw [Near_loop FU t 0 true (by rw [FU_eq]; omega) ho hn (by omega) (by omega)]
  simp

def Tm.z : Tm := .mk 0 0 (.mk 0 []) []

theorem NR.hputS {nh : List HC} {s0 : Nat} {st st' : Sreduce_state} (h : HC.get_creduce_state nh s0 = some st) : ∀ n, (∀ p t, t.nodes ≤ n → NR nh p t → NR (hput nh s0 (HC.creduce_state st')) p t) := by
  have hp := HC.get_creduce_state_some h
  have hget : ∀ q y, HC.get_cgraph_Node nh q = some y → HC.get_cgraph_Node (hput nh s0 (HC.creduce_state st')) q = some y := by
    intro q y hy
    have hq := HC.get_cgraph_Node_some hy
    have hne : s0 ≠ q := by
      rintro rfl
      rw [hp] at hq
      cases hq
    unfold HC.get_cgraph_Node hput
    rw [List.getElem?_set_ne hne, hq]
  intro n
  induction n with
  | zero => intro p t h; have := t.nodes_pos; omega
  | succ n ih =>
    intro p t ht hr
    obtain ⟨y, e1, e2, e3, e4, e5, e6, e7, e8⟩ := hr.inv
    have hlist : ∀ (ts : List Tm) (ps : List (Option Nat)), (∀ t ∈ ts, t.nodes ≤ n) → NRL nh ps ts → NRL (hput nh s0 (HC.creduce_state st')) ps ts := by
      intro ts
      induction ts with
      | nil => intro ps _ h; cases h; exact .nil
      | cons t ts iht =>
        intro ps hm h
        cases h with
        | cons g1 g2 => exact .cons (ih _ _ (hm t (by simp)) g1) (iht _ (fun u hu => hm u (by simp [hu])) g2)
    refine NR.of (hget _ _ e1) e2 e3 e4 (hlist _ _ ?_ e5) e6 e7 e8
    intro u hu
    cases t with
    | mk k i s l =>
      rw [Tm.nodes_mk] at ht
      have := sumL_mem Tm.nodes hu
      simp only [Tm.args_mk] at this
      omega
theorem get_hputS {nh : List HC} {s0 : Nat} {st st' : Sreduce_state} (h : HC.get_creduce_state nh s0 = some st) : HC.get_creduce_state (hput nh s0 (HC.creduce_state st')) s0 = some st' := by
  have hp := HC.get_creduce_state_some h
  have hlt := (List.getElem?_eq_some_iff.1 hp).1
  unfold HC.get_creduce_state hput
  simp [hlt]

/-- A term that is reduced, in the memory. -/
structure At (nh : List HC) (s0 : Nat) (t : Tm) (m : Int) : Prop where
  st : ∃ p, HC.get_creduce_state nh s0 = some ⟨some p, m⟩ ∧ NR nh p t

theorem next_eq {M : Int} (hM : 0 ≤ M ∧ M ≤ 80000000000) {nh : List HC} {s0 : Nat} {t : Tm} {m : Int} (h : At nh s0 t m) (hs : Sm M t) (hn : t.nodes ≤ 4096) (hm : 0 ≤ m ∧ m ≤ 1000000) :
    match t.stp (4096 - t.nodes) with
    | none => ∃ nh', reduce_state_next (some s0) nh = some (false, 4, nh')
    | some none => ∃ nh', reduce_state_next (some s0) nh = some (false, 0, nh') ∧ At nh' s0 t m
    | some (some t') => ∃ nh', reduce_state_next (some s0) nh = some (true, 0, nh') ∧ At nh' s0 t' (m + 1) := by
  obtain ⟨p, h1, h2⟩ := h.st
  obtain ⟨x, e1, _, _, _, _, e6, _⟩ := h2.inv
  have hp := t.nodes_pos
  have hst := Step_eq (M := M) (room := 4096 - t.nodes) hM (by omega) FU t p nh (by rw [FU_eq]; omega) h2 hs (by omega)
  unfold reduce_state_next graph_Node_Size
  simp only [bind1_of, h1, e1, e6]
  rw [isub_in (by omega) (by omega)]
  unfold StepIs at hst
  split at hst
  · rename_i hsp
    obtain ⟨nh', a1, a2⟩ := hst
    rw [hsp, a1]
    exact ⟨nh', rfl⟩
  · rename_i hsp
    obtain ⟨nh', a1, a2⟩ := hst
    rw [hsp, a1]
    exact ⟨nh', rfl, ⟨p, a2.state _ _ h1, a2.node _ _ h2⟩⟩
  · rename_i t' hsp
    obtain ⟨p', nh', a1, a2, a3⟩ := hst
    rw [hsp, a1]
    have g1 := a2.state _ _ h1
    simp only [bind3_of]
    rw [if_neg (by simp [ine])]
    simp only [g1, bind1_of]
    rw [iadd_in (by omega) (by omega)]
    refine ⟨_, rfl, ⟨p', get_hputS (get_hputS g1), ?_⟩⟩
    exact NR.hputS (get_hputS g1) _ _ _ (Nat.le_refl _) (NR.hputS g1 _ _ _ (Nat.le_refl _) a3)

/-- The normal form, with some steps at most; 'm': how many were done. -/
def Tm.norm : Nat → Int → Tm → Tm × Int × Int
  | 0, m, t => if t.nf = true then (t, m, 0) else (Tm.z, 0, 5)
  | k + 1, m, t => match t.stp (4096 - t.nodes) with
    | none => (Tm.z, 0, 4)
    | some none => (t, m, 0)
    | some (some t') => Tm.norm k (m + 1) t'

theorem norm_big {k : Nat} {m : Int} {t : Tm} (h : t.stp (4096 - t.nodes) = none) : t.norm (k + 1) m = (Tm.z, 0, 4) := by rw [Tm.norm, h]
theorem norm_done {k : Nat} {m : Int} {t : Tm} (h : t.stp (4096 - t.nodes) = some none) : t.norm (k + 1) m = (t, m, 0) := by rw [Tm.norm, h]
theorem norm_more {k : Nat} {m : Int} {t t' : Tm} (h : t.stp (4096 - t.nodes) = some (some t')) : t.norm (k + 1) m = t'.norm k (m + 1) := by rw [Tm.norm, h]

theorem loopN_mono {σ ρ : Type} {F : σ → Option (Ctl σ ρ)} : ∀ {n m : Nat} {s : σ} {o : σ ⊕ ρ}, n ≤ m → loopN F n s = some o → loopN F m s = some o
  | 0, _, _, _, _, h => by cases h
  | n + 1, 0, _, _, hm, _ => by omega
  | n + 1, m + 1, s, o, hm, h => by
    rw [loopN_succ] at h ⊢
    obtain ⟨c, h1, h2⟩ := bind1_some h
    rw [h1]
    simp only [bind1_of]
    cases c with
    | next s' => exact loopN_mono (by omega) h2
    | brk s' => exact h2
    | ret r => exact h2

theorem Normal_loop (s0 : Nat) (steps : Int) (h0 : 0 ≤ steps ∧ steps ≤ 65536) : ∀ (k : Nat) (m : Int) (t : Tm) (nh : List HC), (k : Int) = steps - m → 0 ≤ m → At nh s0 t m → Sm (536870912 + 8192 * m) t → t.nodes ≤ 4096 →
    ∃ o, loopN (fun (v548 : List HC) =>
      bind1 (HC.get_creduce_state v548 s0) fun x589 =>
      if (ilt x589.steps steps) = true then (
      bind3 (reduce_state_next (some s0) v548) fun x611 x612 nh613 =>
      if (ine x612 0) = true then (some (.ret ((Tm.mk 0 0 (Ty.mk 0 []) []), 0, x612)))
      else (if x611 = true then (some (.next nh613))
      else (
      bind1 (HC.get_creduce_state nh613 s0) fun x669 =>
      bind1 (graph_Node_Term FU x669.term nh613) fun x672 =>
      some (.ret (x672, x669.steps, 0)))))
      else (some ((.brk v548) : Ctl (List HC) (Tm × Int × Int)))) (k + 1) nh = some o ∧
      sumK (fun (v548 : List HC) =>
        bind1 (HC.get_creduce_state v548 s0) fun x711 =>
        bind2 (graph_Node_Normal FU x711.term v548) fun x714 nh715 =>
        if x714 = true then (
        bind1 (HC.get_creduce_state nh715 s0) fun x745 =>
        bind1 (graph_Node_Term FU x745.term nh715) fun x748 =>
        some (x748, x745.steps, 0))
        else (some ((Tm.mk 0 0 (Ty.mk 0 []) []), 0, 5))) (fun r => some r) o = some (t.norm k m) := by
  intro k
  induction k with
  | zero =>
    intro m t nh hk hm hat hs hn
    obtain ⟨p, h1, h2⟩ := hat.st
    refine ⟨.inl nh, ?_, ?_⟩
    · rw [loopN_succ]
      simp only [h1, bind1_of]
      rw [if_neg (by rw [ilt_iff]; omega)]
      rfl
    · rw [sumK_inl]
      simp only [h1, bind1_of]
      obtain ⟨nh', a1, a2⟩ := Normal_eq (M := 536870912 + 8192 * m) (by omega) FU t p nh (by rw [FU_eq]; omega) h2 hs (by omega)
      rw [a1]
      simp only [bind2_of, Tm.norm]
      by_cases hnf : t.nf = true
      · rw [if_pos hnf, if_pos hnf]
        simp only [a2.state _ _ h1, bind1_of]
        rw [Term_eq (M := 536870912 + 8192 * m) nh' FU t p (by rw [FU_eq]; omega) hs (a2.node _ _ h2)]
        rfl
      · rw [if_neg hnf, if_neg hnf]
        rfl
  | succ k ih =>
    intro m t nh hk hm hat hs hn
    obtain ⟨p, h1, h2⟩ := hat.st
    have hstep := next_eq (M := 536870912 + 8192 * m) (by omega) hat hs hn (by omega)
    rw [loopN_succ]
    simp only [h1, bind1_of]
    rw [if_pos (by rw [ilt_iff]; omega)]
    split at hstep
    · rename_i hsp
      obtain ⟨nh', a1⟩ := hstep
      rw [norm_big hsp, a1]
      exact ⟨_, rfl, rfl⟩
    · rename_i hsp
      obtain ⟨nh', a1, a2⟩ := hstep
      obtain ⟨p', b1, b2⟩ := a2.st
      rw [norm_done hsp, a1]
      simp only [bind3_of]
      rw [if_neg (by decide), if_neg (by decide)]
      simp only [b1, bind1_of]
      rw [Term_eq (M := 536870912 + 8192 * m) nh' FU t p' (by rw [FU_eq]; omega) hs b2]
      exact ⟨_, rfl, rfl⟩
    · rename_i t' hsp
      obtain ⟨nh', a1, a2⟩ := hstep
      rw [norm_more hsp, a1]
      simp only [bind3_of]
      rw [if_neg (by decide)]
      simp only [if_true, bind1_of, ctlK_next]
      obtain ⟨c1, c2, c3⟩ := stp_sm (M := 536870912 + 8192 * m) (by omega) t hs (by omega) t' hsp
      exact ih (m + 1) t' nh' (by omega) (by omega) a2 ⟨c1, by rw [show 536870912 + 8192 * (m + 1) = 536870912 + 8192 * m + 8192 by omega]; exact c2, by omega⟩ (by omega)

theorem Sm.start {t : Tm} (h : t.err = 0) (hl : t.least 536870912 = true) : Sm 536870912 t := ⟨(Tm.err_ok h).1, hl, by have := (Tm.err_ok h).2; omega⟩

/-- **Normal forms.** -/
theorem reduce_Normal_eq {t : Tm} (hw : t.wt ≤ 1000000000) (steps : Int) : reduce_Normal t steps = some (if t.err = 0 then (if 0 ≤ steps ∧ steps ≤ 65536 ∧ t.least 536870912 = true then t.norm steps.toNat 0 else (Tm.z, 0, 1)) else (Tm.z, 0, t.err)) := by
  unfold reduce_Normal
  rw [terms_Check_eq hw]
  simp only [bind1_of]
  by_cases he : t.err = 0
  · rw [if_neg (by simp [he]), if_pos he]
    obtain ⟨ho, hn⟩ := Tm.err_ok he
    simp only [joinB_eq]
    by_cases h1 : steps < 0
    · rw [if_pos ((ilt_iff _ _).2 h1), if_pos trivial, if_neg (fun h => absurd h.1 (by omega))]
      rfl
    · rw [if_neg (by rw [ilt_iff]; exact h1)]
      by_cases h2 : 65536 < steps
      · rw [if_pos ((igt_iff _ _).2 h2), if_pos trivial, if_neg (fun h => absurd h.2.1 (by omega))]
        rfl
      · rw [if_neg (by rw [igt_iff]; exact h2), tree_Near_eq ho (by omega)]
        simp only [bind1_of]
        by_cases hl : t.least 536870912 = true
        · have hb : bnot (t.least 536870912) = false := by rw [hl]; rfl
          rw [if_neg (by rw [hb]; decide), if_pos ⟨by omega, by omega, hl⟩]
          have hsm := Sm.start he hl
          obtain ⟨p, nh, a1, a2, a3⟩ := From_eq (M := 536870912) (by omega) FU t [] (by rw [FU_eq]; omega) hsm
          rw [a1]
          simp only [bind2_of]
          have hat : At (nh ++ [HC.creduce_state (Sreduce_state.mk (some p) 0)]) nh.length t 0 := ⟨p, by unfold HC.get_creduce_state; simp, a3.app⟩
          obtain ⟨o, b1, b2⟩ := Normal_loop nh.length steps (by omega) steps.toNat 0 t _ (by omega) (by omega) hat (by simpa using hsm) hn
          have b3 := loopN_mono (m := FU) (by rw [FU_eq]; omega) b1
          rw [b3]
          exact b2
        · have hb : bnot (t.least 536870912) = true := by simp [hl]
          rw [if_pos hb, if_neg (fun h => hl h.2.2)]
          rfl
  · rw [if_pos (by simp [he]), if_neg he]
    rfl

/-- **Steps.** -/
theorem reduce_Step_eq {t : Tm} (hw : t.wt ≤ 1000000000) : reduce_Step t = some (if t.err = 0 then (if t.least 536870912 = true then (match t.stp (4096 - t.nodes) with | none => (Tm.z, false, 4) | some none => (t, false, 0) | some (some t') => (t', true, 0)) else (Tm.z, false, 1)) else (Tm.z, false, t.err)) := by
  unfold reduce_Step
  rw [terms_Check_eq hw]
  simp only [bind1_of]
  by_cases he : t.err = 0
  · rw [if_neg (by simp [he]), if_pos he]
    obtain ⟨ho, hn⟩ := Tm.err_ok he
    rw [tree_Near_eq ho (by omega)]
    simp only [bind1_of]
    by_cases hl : t.least 536870912 = true
    · rw [if_pos hl, if_pos hl]
      have hsm := Sm.start he hl
      obtain ⟨p, nh, a1, a2, a3⟩ := From_eq (M := 536870912) (by omega) FU t [] (by rw [FU_eq]; omega) hsm
      rw [a1]
      simp only [bind2_of]
      have hat : At (nh ++ [HC.creduce_state (Sreduce_state.mk (some p) 0)]) nh.length t 0 := ⟨p, by unfold HC.get_creduce_state; simp, a3.app⟩
      have hstep := next_eq (M := 536870912) (by omega) hat hsm hn (by omega)
      split at hstep
      · rename_i hsp
        obtain ⟨nh', b1⟩ := hstep
        rw [b1]
        rfl
      · rename_i hsp
        obtain ⟨nh', b1, b2⟩ := hstep
        obtain ⟨p', c1, c2⟩ := b2.st
        rw [b1]
        simp only [bind3_of]
        rw [if_neg (by decide)]
        simp only [c1, bind1_of]
        rw [Term_eq (M := 536870912) nh' FU t p' (by rw [FU_eq]; omega) hsm c2]
        rfl
      · rename_i t' hsp
        obtain ⟨nh', b1, b2⟩ := hstep
        obtain ⟨p', c1, c2⟩ := b2.st
        obtain ⟨d1, d2, d3⟩ := stp_sm (M := 536870912) (by omega) t hsm (by omega) t' hsp
        rw [b1]
        simp only [bind3_of]
        rw [if_neg (by decide)]
        simp only [c1, bind1_of]
        rw [Term_eq (M := 536870912 + 8192) nh' FU t' p' (by rw [FU_eq]; omega) ⟨d1, d2, by omega⟩ c2]
        rfl
    · rw [if_neg hl, if_neg hl]
      rfl
  · rw [if_pos (by simp [he]), if_neg he]
    rfl
end Go.Mdl
