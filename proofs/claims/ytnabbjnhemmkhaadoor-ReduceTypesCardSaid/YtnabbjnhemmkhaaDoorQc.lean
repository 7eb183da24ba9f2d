/-
  Redexes of nodes, and what they become.
-/
import Derived.Test.YtnabbjnhemmkhaaDoorQb
set_option linter.unusedSimpArgs false
set_option linter.unusedVariables false
namespace Go.Mdl
open Go

theorem ieq_dec (a b : Int) : ieq a b = decide (a = b) := by by_cases h : a = b <;> simp [ieq, h]
theorem len1 {α : Type} {l : List α} (h : l.length = 1) : ∃ a, l = [a] := by
  match l, h with | [a], _ => exact ⟨a, rfl⟩
theorem len2 {α : Type} {l : List α} (h : l.length = 2) : ∃ a b, l = [a, b] := by
  match l, h with | [a, b], _ => exact ⟨a, b, rfl⟩
theorem len3 {α : Type} {l : List α} (h : l.length = 3) : ∃ a b c, l = [a, b, c] := by
  match l, h with | [a, b, c], _ => exact ⟨a, b, c, rfl⟩
theorem NRL.inv1 {nh : List HC} {ps : List (Option Nat)} {a : Tm} (h : NRL nh ps [a]) : ∃ p, ps = [some p] ∧ NR nh p a := by
  cases h with | cons h1 h2 => cases h2; exact ⟨_, rfl, h1⟩
theorem NRL.inv2 {nh : List HC} {ps : List (Option Nat)} {a b : Tm} (h : NRL nh ps [a, b]) : ∃ p q, ps = [some p, some q] ∧ NR nh p a ∧ NR nh q b := by
  cases h with | cons h1 h2 => obtain ⟨q, rfl, hq⟩ := h2.inv1; exact ⟨_, q, rfl, h1, hq⟩
theorem NRL.inv3 {nh : List HC} {ps : List (Option Nat)} {a b c : Tm} (h : NRL nh ps [a, b, c]) : ∃ p q r, ps = [some p, some q, some r] ∧ NR nh p a ∧ NR nh q b ∧ NR nh r c := by
  cases h with | cons h1 h2 => obtain ⟨q, r, rfl, hq, hr⟩ := h2.inv2; exact ⟨_, q, r, rfl, h1, hq, hr⟩
theorem NRL.inv0 {nh : List HC} {ps : List (Option Nat)} (h : NRL nh ps []) : ps = [] := by cases h; rfl

theorem Tm.ok_len {k i : Int} {s : Ty} {l : List Tm} (h : (Tm.mk k i s l).ok = true) : (l.length : Int) = tmArgs k := (Tm.ok_inv h).2.2.2.2
theorem Tm.ok3 {i : Int} {s : Ty} {l : List Tm} (h : (Tm.mk 3 i s l).ok = true) : ∃ a b, l = [a, b] := len2 (by have := Tm.ok_len h; have e : tmArgs 3 = 2 := rfl; omega)
theorem Tm.ok6 {i : Int} {s : Ty} {l : List Tm} (h : (Tm.mk 6 i s l).ok = true) : ∃ a b c, l = [a, b, c] := len3 (by have := Tm.ok_len h; have e : tmArgs 6 = 3 := rfl; omega)
theorem Tm.ok9 {i : Int} {s : Ty} {l : List Tm} (h : (Tm.mk 9 i s l).ok = true) : ∃ a b c, l = [a, b, c] := len3 (by have := Tm.ok_len h; have e : tmArgs 9 = 3 := rfl; omega)
theorem Tm.ok2 {i : Int} {s : Ty} {l : List Tm} (h : (Tm.mk 2 i s l).ok = true) : ∃ a, l = [a] := len1 (by have := Tm.ok_len h; have e : tmArgs 2 = 1 := rfl; omega)
theorem Tm.ok11 {k i : Int} {s : Ty} {l : List Tm} (hk : k = 11 ∨ k = 12) (h : (Tm.mk k i s l).ok = true) : ∃ a, l = [a] := len1 (by
  have := Tm.ok_len h
  rcases hk with rfl | rfl
  · have e : tmArgs 11 = 1 := rfl; omega
  · have e : tmArgs 12 = 1 := rfl; omega)
theorem Tm.ok10 {i : Int} {s : Ty} {l : List Tm} (h : (Tm.mk 10 i s l).ok = true) : ∃ a b, l = [a, b] := len2 (by have := Tm.ok_len h; have e : tmArgs 10 = 2 := rfl; omega)
theorem Tm.ok0 {k i : Int} {s : Ty} {l : List Tm} (hk : k = 4 ∨ k = 7) (h : (Tm.mk k i s l).ok = true) : l = [] := List.eq_nil_of_length_eq_zero (by
  have := Tm.ok_len h
  rcases hk with rfl | rfl
  · have e : tmArgs 4 = 0 := rfl; omega
  · have e : tmArgs 7 = 0 := rfl; omega)
theorem Tm.ok5 {i : Int} {s : Ty} {l : List Tm} (h : (Tm.mk 5 i s l).ok = true) : ∃ a, l = [a] := len1 (by have := Tm.ok_len h; have e : tmArgs 5 = 1 := rfl; omega)
theorem Tm.ok8 {i : Int} {s : Ty} {l : List Tm} (h : (Tm.mk 8 i s l).ok = true) : ∃ a b, l = [a, b] := len2 (by have := Tm.ok_len h; have e : tmArgs 8 = 2 := rfl; omega)
theorem Tm.ok_arg {k i : Int} {s : Ty} {l : List Tm} (h : (Tm.mk k i s l).ok = true) : ∀ t ∈ l, t.ok = true := (Tm.ok_inv h).2.2.2.1

/-- The forms of redexes. -/
inductive Tm.Rd : Tm → Prop
  | app {i s i' s' b a} : Tm.Rd (.mk 3 i s [.mk 2 i' s' [b], a])
  | zero {k ko i s i' s' b st} : (k = 6 ∧ ko = 4 ∨ k = 9 ∧ ko = 7) → Tm.Rd (.mk k i s [b, st, .mk ko i' s' []])
  | succ {i s i' s' b st n} : Tm.Rd (.mk 6 i s [b, st, .mk 5 i' s' [n]])
  | cons {i s i' s' b st h t} : Tm.Rd (.mk 9 i s [b, st, .mk 8 i' s' [h, t]])
  | proj {k i s i' s' a b} : (k = 11 ∨ k = 12) → Tm.Rd (.mk k i s [.mk 10 i' s' [a, b]])
theorem Tm.rd_of {t : Tm} (ho : t.ok = true) (h : t.root = true) : t.Rd := by
  cases t with
  | mk k i s l =>
    unfold Tm.root at h
    simp only [Bool.or_eq_true, Bool.and_eq_true, decide_eq_true_eq] at h
    rcases h with ((⟨rfl, h⟩ | ⟨rfl, h⟩) | ⟨rfl, h⟩) | ⟨hk, h⟩
    · obtain ⟨a, b, rfl⟩ := Tm.ok3 ho
      cases a with
      | mk k' i' s' l' =>
        have hk : k' = 2 := by simpa [Tm.kd] using h
        subst hk
        obtain ⟨b', rfl⟩ := Tm.ok2 (Tm.ok_arg ho (.mk 2 i' s' l') (by simp))
        exact .app
    · obtain ⟨a, b, c, rfl⟩ := Tm.ok6 ho
      cases c with
      | mk k' i' s' l' =>
        have hk : k' = 4 ∨ k' = 5 := by simpa [Tm.kd] using h
        have hc := Tm.ok_arg ho (.mk k' i' s' l') (by simp)
        rcases hk with rfl | rfl
        · rw [Tm.ok0 (.inl rfl) hc]; exact .zero (.inl ⟨rfl, rfl⟩)
        · obtain ⟨n, rfl⟩ := Tm.ok5 hc; exact .succ
    · obtain ⟨a, b, c, rfl⟩ := Tm.ok9 ho
      cases c with
      | mk k' i' s' l' =>
        have hk : k' = 7 ∨ k' = 8 := by simpa [Tm.kd] using h
        have hc := Tm.ok_arg ho (.mk k' i' s' l') (by simp)
        rcases hk with rfl | rfl
        · rw [Tm.ok0 (.inr rfl) hc]; exact .zero (.inr ⟨rfl, rfl⟩)
        · obtain ⟨n, m, rfl⟩ := Tm.ok8 hc; exact .cons
    · obtain ⟨a, rfl⟩ := Tm.ok11 hk ho
      cases a with
      | mk k' i' s' l' =>
        have hk' : k' = 10 := by simpa [Tm.kd] using h
        subst hk'
        obtain ⟨a, b, rfl⟩ := Tm.ok10 (Tm.ok_arg ho (.mk 10 i' s' l') (by simp))
        exact .proj hk

theorem redex_eq {nh : List HC} {p : Nat} {t : Tm} (hr : NR nh p t) (ho : t.ok = true) : graph_Node_redex (some p) nh = some t.root := by
  obtain ⟨x, e1, e2, e3, e4, e5, e6, e7, e8⟩ := hr.inv
  unfold graph_Node_redex
  simp only [bind1_of, e1, joinB_eq]
  cases t with
  | mk k i s l =>
    simp only [Tm.kind_mk, Tm.args_mk] at e2 e5
    rw [e2]
    unfold Tm.root
    by_cases h3 : k = 3
    · subst h3
      obtain ⟨a, b, rfl⟩ := Tm.ok3 ho
      obtain ⟨pa, pb, hp, ha, hb⟩ := e5.inv2
      obtain ⟨y, f1, f2, _⟩ := ha.inv
      rw [if_pos (by decide), hp]
      simp [lget_zero, f1, f2, Tm.kd, ieq_dec]
    · rw [if_neg (by simpa using h3)]
      by_cases h6 : k = 6
      · subst h6
        obtain ⟨a, b, c, rfl⟩ := Tm.ok6 ho
        obtain ⟨pa, pb, pc, hp, ha, hb, hc⟩ := e5.inv3
        obtain ⟨y, f1, f2, _⟩ := hc.inv
        rw [if_pos (by decide), hp]
        simp only [lget_two, List.getElem?_cons_succ, List.getElem?_cons_zero, bind1_of, f1, f2, Tm.kd, ieq_iff]
        by_cases h4 : c.kind = 4
        · simp [h4]
        · simp [h4, ieq_dec]
          exact decide_eq_decide.2 Iff.rfl
      · rw [if_neg (by simpa using h6)]
        by_cases h9 : k = 9
        · subst h9
          obtain ⟨a, b, c, rfl⟩ := Tm.ok9 ho
          obtain ⟨pa, pb, pc, hp, ha, hb, hc⟩ := e5.inv3
          obtain ⟨y, f1, f2, _⟩ := hc.inv
          rw [if_pos (by decide), hp]
          simp only [lget_two, List.getElem?_cons_succ, List.getElem?_cons_zero, bind1_of, f1, f2, Tm.kd, ieq_iff]
          by_cases h4 : c.kind = 7
          · simp [h4]
          · simp [h4, ieq_dec]
            exact decide_eq_decide.2 Iff.rfl
        · rw [if_neg (by simpa using h9)]
          by_cases h11 : k = 11 ∨ k = 12
          · obtain ⟨a, rfl⟩ := Tm.ok11 h11 ho
            obtain ⟨pa, hp, ha⟩ := e5.inv1
            obtain ⟨y, f1, f2, _⟩ := ha.inv
            rw [if_pos (by rcases h11 with rfl | rfl <;> rfl), hp]
            simp only [lget_zero, List.getElem?_cons_zero, bind1_of, f1, f2, Tm.kd]
            rcases h11 with rfl | rfl <;> simp [ieq_dec] <;> exact decide_eq_decide.2 Iff.rfl
          · rw [if_neg (by simp only [sel_or, Bool.or_eq_true, ieq_iff]; exact h11)]
            simp only [not_or] at h11
            simp [h3, h6, h9, h11.1, h11.2]

/-! ### application -/
theorem appL_nodes : ∀ (l : List Tm) (f : Tm), (appL f l).nodes = f.nodes + sumL Tm.nodes l + l.length
  | [], f => by simp [appL, sumL]
  | a :: l, f => by
    rw [appL, appL_nodes l, Tm.nodes_mk]
    simp only [sumL, List.length_cons]
    omega
theorem app_eq {M : Int} (hM : 0 ≤ M ∧ M ≤ 500000000000) : ∀ (ts : List Tm) (ps : List (Option Nat)) (nh : List HC) (pf : Nat) (f : Tm), NRL nh ps ts → NR nh pf f → (∀ t ∈ ts, 0 ≤ t.fr ∧ t.fr ≤ M) → 0 ≤ f.fr ∧ f.fr ≤ M →
    f.nodes + sumL Tm.nodes ts + ts.length ≤ 10000000 →
    ∃ p' nh', graph_app (some pf) ps nh = some (some p', nh') ∧ Kp nh nh' ∧ NR nh' p' (appL f ts) := by
  intro ts ps nh pf f hl hf hfr hff hn
  have hlen : ps.length = ts.length := hl.len
  unfold graph_app
  rw [okLen_of (by omega)]
  simp only [chk_true, joinB_eq]
  have loop : ∀ (ts : List Tm) (ps : List (Option Nat)) (i : Nat) (nh : List HC) (pf : Nat) (f : Tm), NRL nh ps ts → NR nh pf f → (∀ t ∈ ts, 0 ≤ t.fr ∧ t.fr ≤ M) → 0 ≤ f.fr ∧ f.fr ≤ M →
      f.nodes + sumL Tm.nodes ts + ts.length ≤ 10000000 → ∃ p' nh', forR (fun (j91 : Int) (x93 : (Option Nat)) => (un2 fun (v171 : (Option Nat)) (v172 : List HC) =>
        bind2 (graph_build 3 0 (Ty.mk 0 []) [v171, x93] v172) fun x226 nh227 => some ((.next (x226, nh227)) : Ctl ((Option Nat) × List HC) ((Option Nat) × List HC)))) ps i (some pf, nh) = some (.inl (some p', nh')) ∧ Kp nh nh' ∧ NR nh' p' (appL f ts) := by
    intro ts
    induction ts with
    | nil =>
      intro ps i nh pf f hl hf _ _ _
      cases hl
      exact ⟨pf, nh, rfl, Kp.refl _, hf⟩
    | cons t ts ih =>
      intro ps i nh pf f hl hf hfr hff hn
      cases hl with
      | cons h1 h2 =>
        rename_i p ps
        simp only [sumL, List.length_cons] at hn
        have ht := hfr t (by simp)
        obtain ⟨nh1, a1, a2, a3⟩ := build_eq (k := 3) (i := 0) (s := .mk 0 []) (ps := [some pf, some p]) (ts := [f, t]) (nh := nh) (.cons hf (.cons h1 .nil)) (by simp [sumL]; omega) (by omega) (by
          intro u hu
          simp only [List.mem_cons, List.not_mem_nil, or_false] at hu
          rcases hu with rfl | rfl <;> omega)
        have hne := NE.kp a2
        have hfr2 : 0 ≤ (Tm.mk 3 0 (.mk 0 []) [f, t]).fr ∧ (Tm.mk 3 0 (.mk 0 []) [f, t]).fr ≤ M := by
          rw [Tm.fr, if_neg (by decide), if_neg (by decide)]
          simp only [Tm.frL, imax_eq]
          omega
        obtain ⟨p', nh', b1, b2, b3⟩ := ih ps (i + 1) nh1 nh.length (.mk 3 0 (.mk 0 []) [f, t]) (hne.list h2) a3 (fun u hu => hfr u (by simp [hu])) hfr2 (by
          rw [Tm.nodes_mk]; simp only [sumL]; omega)
        refine ⟨p', nh', ?_, a2.trans b2, b3⟩
        rw [forR_cons]
        simp only [un2_mk, a1, bind2_of, bind1_of, ctlK_next]
        exact b1
  obtain ⟨p', nh', a1, a2, a3⟩ := loop ts ps 0 nh pf f hl hf hfr hff hn
  rw [a1]
  exact ⟨p', nh', rfl, a2, a3⟩

theorem lget_last1 {α : Type} (a : α) : lget [a] (isub .i64 (llen [a]) 1) = some a := by
  have : isub .i64 (llen [a]) 1 = 0 := by simp only [llen_eq, List.length_cons, List.length_nil]; decide
  rw [this]; rfl
theorem lget_last2 {α : Type} (a b : α) : lget [a, b] (isub .i64 (llen [a, b]) 1) = some b := by
  have : isub .i64 (llen [a, b]) 1 = 1 := by simp only [llen_eq, List.length_cons, List.length_nil]; decide
  rw [this]; rfl

/-- What a redex becomes. -/
theorem contract_eq {M : Int} (hM : 0 ≤ M ∧ M ≤ 90000000000) {nh : List HC} {p : Nat} {t : Tm} (hr : NR nh p t) (hs : Sm M t) (hn : t.nodes ≤ 8192) (hroot : t.root = true) :
    ∃ p' nh', graph_Node_contract (some p) nh = some (some p', nh') ∧ Kp nh nh' ∧ NR nh' p' t.contr := by
  have hrd := Tm.rd_of hs.ok hroot
  obtain ⟨x, e1, e2, e3, e4, e5, e6, e7, e8⟩ := hr.inv
  unfold graph_Node_contract
  simp only [bind1_of, e1]
  have hfr : ∀ u : Tm, Sm M u → 0 ≤ u.fr ∧ u.fr ≤ M + 1 := fun u hu => hu.fr hM.1
  cases hrd with
  | app =>
    rename_i i s i' s' b a
    simp only [Tm.kind_mk, Tm.args_mk] at e2 e5
    obtain ⟨pf, pa, hp, hf, ha⟩ := e5.inv2
    obtain ⟨y, f1, f2, f3, f4, f5, _⟩ := hf.inv
    simp only [Tm.kind_mk, Tm.args_mk] at f2 f5
    obtain ⟨pb, hpb, hb⟩ := f5.inv1
    have hsf := hs.arg (.mk 2 i' s' [b]) (by simp)
    have hsa := hs.arg a (by simp)
    have hsb := hsf.arg b (by simp)
    rw [Tm.nodes_mk] at hn
    simp only [sumL, Tm.nodes_mk] at hn
    have htm := Tm.times_nodes b 0
    have hmul : b.times 0 * a.nodes ≤ 8192 * 8192 := Nat.mul_le_mul (by omega) (by omega)
    obtain ⟨p', nh', g1, g2, g3⟩ := put_eq (M := M) (N := M) (by omega) (by omega) a hsa FU b pb pa nh 0 (by rw [FU_eq]; omega) hb ha hsb (by omega) (by omega) (by omega)
    refine ⟨p', nh', ?_, g2, g3⟩
    rw [e2, if_pos (by decide), hp]
    simp only [lget_zero, lget_one, List.getElem?_cons_zero, List.getElem?_cons_succ, bind1_of, f1, hpb, g1, bind2_of]
  | proj hk =>
    rename_i k i s i' s' a b
    simp only [Tm.kind_mk, Tm.args_mk] at e2 e5
    obtain ⟨pf, hp, hf⟩ := e5.inv1
    obtain ⟨y, f1, f2, f3, f4, f5, _⟩ := hf.inv
    simp only [Tm.kind_mk, Tm.args_mk] at f2 f5
    obtain ⟨pa, pb, hpb, ha, hb⟩ := f5.inv2
    rcases hk with rfl | rfl
    · refine ⟨pa, nh, ?_, Kp.refl _, by simpa [Tm.contr] using ha⟩
      rw [e2, if_neg (by decide), if_pos (by decide), hp]
      simp only [lget_zero, List.getElem?_cons_zero, bind1_of, f1, hpb]
    · refine ⟨pb, nh, ?_, Kp.refl _, by simpa [Tm.contr] using hb⟩
      rw [e2, if_neg (by decide), if_neg (by decide), if_pos (by decide), hp]
      simp only [lget_zero, lget_one, List.getElem?_cons_zero, List.getElem?_cons_succ, bind1_of, f1, hpb]
  | zero hk =>
    rename_i k ko i s i' s' b st
    simp only [Tm.kind_mk, Tm.args_mk] at e2 e5
    obtain ⟨pb, ps, po, hp, hb, hst, ho⟩ := e5.inv3
    obtain ⟨y, f1, f2, f3, f4, f5, _⟩ := ho.inv
    simp only [Tm.kind_mk, Tm.args_mk] at f2 f5
    have hnil := f5.inv0
    refine ⟨pb, nh, ?_, Kp.refl _, ?_⟩
    · have hk' : k ≠ 3 ∧ k ≠ 11 ∧ k ≠ 12 := by omega
      rw [e2, if_neg (by simpa using hk'.1), if_neg (by simpa using hk'.2.1), if_neg (by simpa using hk'.2.2), hp]
      simp only [lget_zero, lget_one, lget_two, List.getElem?_cons_zero, List.getElem?_cons_succ, bind1_of, f1, hnil]
      rfl
    · have : (Tm.mk k i s [b, st, .mk ko i' s' []]).contr = b := by
        have hk' : k ≠ 3 ∧ k ≠ 11 ∧ k ≠ 12 := by omega
        simp [Tm.contr, hk'.1, hk'.2.1, hk'.2.2]
      rw [this]
      exact hb
  | succ =>
    rename_i i s i' s' b st n
    simp only [Tm.kind_mk, Tm.args_mk, Tm.index_mk, Tm.typeF_mk] at e2 e3 e4 e5
    obtain ⟨pb, ps, po, hp, hb, hst, ho⟩ := e5.inv3
    obtain ⟨y, f1, f2, f3, f4, f5, _⟩ := ho.inv
    simp only [Tm.kind_mk, Tm.args_mk] at f2 f5
    obtain ⟨pn, hpn, hn'⟩ := f5.inv1
    have hsb := hs.arg b (by simp)
    have hss := hs.arg st (by simp)
    have hso := hs.arg (.mk 5 i' s' [n]) (by simp)
    have hsn := hso.arg n (by simp)
    rw [Tm.nodes_mk] at hn
    simp only [sumL, Tm.nodes_mk] at hn
    have hidx := hs.idx
    have b1 := hfr b hsb
    have b2 := hfr st hss
    have b3 := hfr n hsn
    obtain ⟨nh1, a1, a2, a3⟩ := build_eq (k := 6) (i := i) (s := s) (ps := [some pb, some ps, some pn]) (ts := [b, st, n]) (nh := nh) (.cons hb (.cons hst (.cons hn' .nil))) (by simp [sumL]; omega) (by omega) (by
      intro u hu
      simp only [List.mem_cons, List.not_mem_nil, or_false] at hu
      rcases hu with rfl | rfl | rfl <;> omega)
    have hne := NE.kp a2
    obtain ⟨c, fc⟩ := hne.get _ _ f1
    obtain ⟨p2, nh2, d1, d2, d3⟩ := app_eq (M := M + 1) (by omega) [n] [some pn] nh1 ps st (.cons (hne.node _ _ hn') .nil) (hne.node _ _ hst) (by intro u hu; simp only [List.mem_cons, List.not_mem_nil, or_false] at hu; subst hu; omega) (by omega) (by simp [sumL]; omega)
    have hrec : 0 ≤ (Tm.mk 6 i s [b, st, n]).fr ∧ (Tm.mk 6 i s [b, st, n]).fr ≤ M + 1 := by
      rw [Tm.fr, if_neg (by decide), if_neg (by decide)]
      simp only [Tm.frL, imax_eq]
      omega
    have happ : 0 ≤ (appL st [n]).fr ∧ (appL st [n]).fr ≤ M + 1 := by
      simp only [appL]
      rw [Tm.fr, if_neg (by decide), if_neg (by decide)]
      simp only [Tm.frL, imax_eq]
      omega
    have hrn : (Tm.mk 6 i s [b, st, n]).nodes ≤ 10000 := by rw [Tm.nodes_mk]; simp only [sumL]; omega
    have han : (appL st [n]).nodes ≤ 10000 := by rw [appL_nodes]; simp only [sumL, List.length_cons, List.length_nil]; omega
    obtain ⟨p3, nh3, g1, g2, g3⟩ := app_eq (M := M + 1) (by omega) [.mk 6 i s [b, st, n]] [some nh.length] nh2 p2 (appL st [n]) (.cons ((NE.kp d2).node _ _ a3) .nil) d3 (by intro u hu; simp only [List.mem_cons, List.not_mem_nil, or_false] at hu; subst hu; exact hrec) happ (by simp only [sumL, List.length_cons, List.length_nil]; omega)
    refine ⟨p3, nh3, ?_, (a2.trans d2).trans g2, ?_⟩
    · rw [e2, if_neg (by decide), if_neg (by decide), if_neg (by decide), hp]
      simp only [lget_zero, lget_one, lget_two, List.getElem?_cons_zero, List.getElem?_cons_succ, bind1_of, f1, hpn]
      rw [if_neg (by simp only [llen_eq, List.length_cons, List.length_nil]; decide), lget_last1]
      unfold graph_Node_with
      simp only [bind1_of, e1, e2, e3, e4, a1, bind2_of, fc, hpn, d1, g1]
    · have : (Tm.mk 6 i s [b, st, .mk 5 i' s' [n]]).contr = appL (appL st [n]) [.mk 6 i s [b, st, n]] := by simp [Tm.contr, appL]
      rw [this]
      exact g3
  | cons =>
    rename_i i s i' s' b st h n
    simp only [Tm.kind_mk, Tm.args_mk, Tm.index_mk, Tm.typeF_mk] at e2 e3 e4 e5
    obtain ⟨pb, ps, po, hp, hb, hst, ho⟩ := e5.inv3
    obtain ⟨y, f1, f2, f3, f4, f5, _⟩ := ho.inv
    simp only [Tm.kind_mk, Tm.args_mk] at f2 f5
    obtain ⟨ph, pn, hpn, hh', hn'⟩ := f5.inv2
    have hsb := hs.arg b (by simp)
    have hss := hs.arg st (by simp)
    have hso := hs.arg (.mk 8 i' s' [h, n]) (by simp)
    have hsn := hso.arg n (by simp)
    have hsh := hso.arg h (by simp)
    rw [Tm.nodes_mk] at hn
    simp only [sumL, Tm.nodes_mk] at hn
    have hidx := hs.idx
    have b1 := hfr b hsb
    have b2 := hfr st hss
    have b3 := hfr n hsn
    have b4 := hfr h hsh
    obtain ⟨nh1, a1, a2, a3⟩ := build_eq (k := 9) (i := i) (s := s) (ps := [some pb, some ps, some pn]) (ts := [b, st, n]) (nh := nh) (.cons hb (.cons hst (.cons hn' .nil))) (by simp [sumL]; omega) (by omega) (by
      intro u hu
      simp only [List.mem_cons, List.not_mem_nil, or_false] at hu
      rcases hu with rfl | rfl | rfl <;> omega)
    have hne := NE.kp a2
    obtain ⟨c, fc⟩ := hne.get _ _ f1
    obtain ⟨p2, nh2, d1, d2, d3⟩ := app_eq (M := M + 1) (by omega) [h, n] [some ph, some pn] nh1 ps st (.cons (hne.node _ _ hh') (.cons (hne.node _ _ hn') .nil)) (hne.node _ _ hst) (by intro u hu; simp only [List.mem_cons, List.not_mem_nil, or_false] at hu; rcases hu with rfl | rfl <;> omega) (by omega) (by simp [sumL]; omega)
    have hrec : 0 ≤ (Tm.mk 9 i s [b, st, n]).fr ∧ (Tm.mk 9 i s [b, st, n]).fr ≤ M + 1 := by
      rw [Tm.fr, if_neg (by decide), if_neg (by decide)]
      simp only [Tm.frL, imax_eq]
      omega
    have happ : 0 ≤ (appL st [h, n]).fr ∧ (appL st [h, n]).fr ≤ M + 1 := by
      simp only [appL]
      rw [Tm.fr, if_neg (by decide), if_neg (by decide)]
      simp only [Tm.frL]
      rw [Tm.fr, if_neg (by decide), if_neg (by decide)]
      simp only [Tm.frL, imax_eq]
      omega
    have hrn : (Tm.mk 9 i s [b, st, n]).nodes ≤ 10000 := by rw [Tm.nodes_mk]; simp only [sumL]; omega
    have han : (appL st [h, n]).nodes ≤ 10000 := by rw [appL_nodes]; simp only [sumL, List.length_cons, List.length_nil]; omega
    obtain ⟨p3, nh3, g1, g2, g3⟩ := app_eq (M := M + 1) (by omega) [.mk 9 i s [b, st, n]] [some nh.length] nh2 p2 (appL st [h, n]) (.cons ((NE.kp d2).node _ _ a3) .nil) d3 (by intro u hu; simp only [List.mem_cons, List.not_mem_nil, or_false] at hu; subst hu; exact hrec) happ (by simp only [sumL, List.length_cons, List.length_nil]; omega)
    refine ⟨p3, nh3, ?_, (a2.trans d2).trans g2, ?_⟩
    · rw [e2, if_neg (by decide), if_neg (by decide), if_neg (by decide), hp]
      simp only [lget_zero, lget_one, lget_two, List.getElem?_cons_zero, List.getElem?_cons_succ, bind1_of, f1, hpn]
      rw [if_neg (by simp only [llen_eq, List.length_cons, List.length_nil]; decide), lget_last2]
      unfold graph_Node_with
      simp only [bind1_of, e1, e2, e3, e4, a1, bind2_of, fc, hpn, d1, g1]
    · have : (Tm.mk 9 i s [b, st, .mk 8 i' s' [h, n]]).contr = appL (appL st [h, n]) [.mk 9 i s [b, st, n]] := by simp [Tm.contr, appL]
      rw [this]
      exact g3
end Go.Mdl
