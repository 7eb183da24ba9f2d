/-
  The second reduce (ref04) does the same.
-/
import Derived.Test.YtnabbjnhemmkhaaDoorQo
set_option linter.unusedSimpArgs false
set_option linter.unusedVariables false
namespace Go.Mdl
open Go

theorem cnt {t : Tm} (h : t.nodes ≤ 1000000000) : ref02_Count FU t = some (t.nodes : Int) := ref02_Count_eq FU t (by rw [FU_eq]; exact h) h

theorem growth_eq {t : Tm} (ho : t.ok = true) (hn : t.nodes ≤ 8192) (hroot : t.root = true) : ref04_growth t = some ((t.contr.nodes : Int) - (t.nodes : Int)) := by
  have hrd := Tm.rd_of ho hroot
  have hn0 := hn
  unfold ref04_growth
  rw [cnt (by omega)]
  simp only [bind1_of]
  cases hrd with
  | app =>
    rename_i i s i' s' b a
    have hob := Tm.ok_arg (Tm.ok_arg ho (.mk 2 i' s' [b]) (by simp)) b (by simp)
    rw [Tm.nodes_mk] at hn
    simp only [sumL, Tm.nodes_mk] at hn
    rw [if_pos (by rfl)]
    simp only [Tm.args_mk, lget_zero, lget_one, List.getElem?_cons_zero, List.getElem?_cons_succ, bind1_of]
    rw [cnt (t := b) (by omega), cnt (t := a) (by omega), ref03_Times_eq FU b 0 (by rw [FU_eq]; omega) (by omega) (by omega) (by omega)]
    simp only [bind1_of]
    have htm := Tm.times_nodes b 0
    have hmul : b.times 0 * a.nodes ≤ 8192 * 8192 := Nat.mul_le_mul (by omega) (by omega)
    have hin := Tm.inn_nodes a b 0 hob
    have hap := a.nodes_pos
    have e : (Tm.mk 3 i s [.mk 2 i' s' [b], a]).contr = Tm.inn 0 b a := by simp [Tm.contr]
    rw [e]
    have hint : (b.times 0 : Int) * ((a.nodes : Int) - 1) = ((b.times 0 * a.nodes : Nat) : Int) - (b.times 0 : Int) := by rw [Int.mul_sub, Int.mul_one]; simp
    rw [isub_in (a := (a.nodes : Int)) (by omega) (by omega), imul_in (by rw [hint]; omega) (by rw [hint]; omega), hint, iadd_in (by omega) (by omega), isub_in (by omega) (by omega)]
    congr 1
    omega
  | proj hk =>
    rename_i k i s i' s' a b
    rw [Tm.nodes_mk] at hn
    simp only [sumL, Tm.nodes_mk] at hn
    rcases hk with rfl | rfl
    · rw [if_neg (by simp), if_neg (by simp), if_neg (by simp), if_pos (by rfl)]
      simp only [Tm.args_mk, lget_zero, lget_one, List.getElem?_cons_zero, List.getElem?_cons_succ, bind1_of]
      rw [cnt (t := a) (by omega)]
      simp only [bind1_of]
      rw [isub_in (by omega) (by omega)]
      simp [Tm.contr]
    · rw [if_neg (by simp), if_neg (by simp), if_neg (by simp), if_neg (by simp)]
      simp only [Tm.args_mk, lget_zero, lget_one, List.getElem?_cons_zero, List.getElem?_cons_succ, bind1_of]
      rw [cnt (t := b) (by omega)]
      simp only [bind1_of]
      rw [isub_in (by omega) (by omega)]
      simp [Tm.contr]
  | zero hk =>
    rename_i k ko i s i' s' b st
    rw [Tm.nodes_mk] at hn
    simp only [sumL, Tm.nodes_mk] at hn
    have hk' : k ≠ 3 ∧ k ≠ 11 ∧ k ≠ 12 := by omega
    have : (Tm.mk k i s [b, st, .mk ko i' s' []]).contr = b := by simp [Tm.contr, hk'.1, hk'.2.1, hk'.2.2]
    rw [this]
    rcases hk with ⟨rfl, rfl⟩ | ⟨rfl, rfl⟩
    · rw [if_neg (by simp), if_pos (by rfl)]
      simp only [Tm.args_mk, lget_zero, lget_one, lget_two, List.getElem?_cons_zero, List.getElem?_cons_succ, bind1_of]
      rw [if_pos (by rfl), cnt (t := b) (by omega)]
      simp only [bind1_of]
      rw [isub_in (by omega) (by omega)]
    · rw [if_neg (by simp), if_neg (by simp), if_pos (by rfl)]
      simp only [Tm.args_mk, lget_zero, lget_one, lget_two, List.getElem?_cons_zero, List.getElem?_cons_succ, bind1_of]
      rw [if_pos (by rfl), cnt (t := b) (by omega)]
      simp only [bind1_of]
      rw [isub_in (by omega) (by omega)]
  | succ =>
    rename_i i s i' s' b st n
    have e : (Tm.mk 6 i s [b, st, .mk 5 i' s' [n]]).contr = appL st [n, .mk 6 i s [b, st, n]] := by simp [Tm.contr, appL]
    rw [e, appL_nodes]
    rw [Tm.nodes_mk] at hn ⊢
    simp only [sumL, Tm.nodes_mk, List.length_cons, List.length_nil] at hn ⊢
    rw [if_neg (by simp), if_pos (by rfl)]
    simp only [Tm.args_mk, lget_zero, lget_one, lget_two, List.getElem?_cons_zero, List.getElem?_cons_succ, bind1_of]
    rw [if_neg (by simp), cnt (t := st) (by omega), cnt (t := n) (by omega)]
    simp only [bind1_of]
    rw [iadd_in (a := 2) (by omega) (by omega), iadd_in (b := (n.nodes : Int)) (by omega) (by omega), iadd_in (by omega) (by omega), isub_in (b := 1) (by omega) (by omega), isub_in (by omega) (by omega)]
    congr 1
    omega
  | cons =>
    rename_i i s i' s' b st h n
    have e : (Tm.mk 9 i s [b, st, .mk 8 i' s' [h, n]]).contr = appL st [h, n, .mk 9 i s [b, st, n]] := by simp [Tm.contr, appL]
    rw [e, appL_nodes]
    rw [Tm.nodes_mk] at hn ⊢
    simp only [sumL, Tm.nodes_mk, List.length_cons, List.length_nil] at hn ⊢
    rw [if_neg (by simp), if_neg (by simp), if_pos (by rfl)]
    simp only [Tm.args_mk, lget_zero, lget_one, lget_two, List.getElem?_cons_zero, List.getElem?_cons_succ, bind1_of]
    rw [if_neg (by simp), cnt (t := st) (by omega), cnt (t := h) (by omega), cnt (t := n) (by omega)]
    simp only [bind1_of]
    rw [iadd_in (a := 3) (by omega) (by omega), iadd_in (b := (h.nodes : Int)) (by omega) (by omega), iadd_in (b := (n.nodes : Int)) (by omega) (by omega), iadd_in (by omega) (by omega), isub_in (b := 1) (by omega) (by omega), isub_in (b := (h.nodes : Int)) (by omega) (by omega), isub_in (by omega) (by omega)]
    congr 1
    omega

theorem reduced_eq {M : Int} (hM : 0 ≤ M ∧ M ≤ 1000000000000) {t : Tm} (hs : Sm M t) (hn : t.nodes ≤ 8192) (hroot : t.root = true) : ref04_reduced t = some t.contr := by
  have ho := hs.ok
  have hrd := Tm.rd_of ho hroot
  have hw := Tm.ok_wt t ho
  unfold ref04_reduced
  cases hrd with
  | app =>
    rename_i i s i' s' b a
    have hsb := (hs.arg (.mk 2 i' s' [b]) (by simp)).arg b (by simp)
    have hsa := hs.arg a (by simp)
    have hb1 := hsb.nodes
    have ha1 := hsa.nodes
    rw [if_pos (by rfl)]
    simp only [Tm.args_mk, lget_zero, lget_one, List.getElem?_cons_zero, List.getElem?_cons_succ, bind1_of]
    rw [ref03_In_eq FU b 0 0 a (by rw [FU_eq]; omega) (by omega) (by omega) (by omega) (by omega) (hsb.mono hM.2).least hsb.ok (by omega) (hsa.mono hM.2).least]
    simp [Tm.contr]
  | proj hk =>
    rename_i k i s i' s' a b
    rcases hk with rfl | rfl
    · rw [if_neg (by simp), if_neg (by simp), if_neg (by simp), if_pos (by rfl)]
      simp [Tm.contr, lget_zero]
    · rw [if_neg (by simp), if_neg (by simp), if_neg (by simp), if_neg (by simp)]
      simp [Tm.contr, lget_zero, lget_one]
  | zero hk =>
    rename_i k ko i s i' s' b st
    rcases hk with ⟨rfl, rfl⟩ | ⟨rfl, rfl⟩
    · rw [if_neg (by simp), if_pos (by rfl)]
      simp [Tm.contr, lget_zero, lget_two, ieq]
    · rw [if_neg (by simp), if_neg (by simp), if_pos (by rfl)]
      simp [Tm.contr, lget_zero, lget_two, ieq]
  | succ =>
    rename_i i s i' s' b st n
    have hi : i = 0 := (Tm.ok_inv ho).2.2.1 (by decide)
    subst hi
    rw [Tm.wt_mk] at hw
    simp only [sumL, Tm.wt_mk] at hw
    rw [if_neg (by simp), if_pos (by rfl)]
    simp only [Tm.args_mk, lget_zero, lget_one, lget_two, List.getElem?_cons_zero, List.getElem?_cons_succ, bind1_of, Tm.typeF_mk]
    rw [if_neg (by simp), N_two (by omega) (by omega)]
    simp only [bind1_of]
    rw [T_three (by omega) (by omega) (by omega) (by omega)]
    simp only [bind1_of]
    rw [ref02_N_eq _ _ (by simp only [sumL, Tm.wt_mk, Ty.z, Ty.nodes_mk]; omega)]
    simp [Tm.contr, appL, Ty.z]
  | cons =>
    rename_i i s i' s' b st h n
    have hi : i = 0 := (Tm.ok_inv ho).2.2.1 (by decide)
    subst hi
    rw [Tm.wt_mk] at hw
    simp only [sumL, Tm.wt_mk] at hw
    rw [if_neg (by simp), if_neg (by simp), if_pos (by rfl)]
    simp only [Tm.args_mk, lget_zero, lget_one, lget_two, List.getElem?_cons_zero, List.getElem?_cons_succ, bind1_of, Tm.typeF_mk]
    rw [if_neg (by simp), N_two (by omega) (by omega)]
    simp only [bind1_of]
    rw [ref02_N_eq _ _ (by simp only [sumL, Tm.wt_mk, Ty.z, Ty.nodes_mk]; omega)]
    simp only [bind1_of]
    rw [T_three (by omega) (by omega) (by omega) (by omega)]
    simp only [bind1_of]
    rw [ref02_N_eq _ _ (by simp only [sumL, Tm.wt_mk, Ty.z, Ty.nodes_mk]; omega)]
    simp [Tm.contr, appL, Ty.z]

/-- What 'next' gives. -/
def NxIs (t : Tm) (o : Option (Option Tm)) (r : Tm × Bool × Bool) : Prop :=
  match o with
  | none => r.2.1 = true ∧ r.2.2 = false
  | some none => r = (t, false, true)
  | some (some t') => r = (t', true, true)
theorem next_is {M : Int} (hM : 0 ≤ M ∧ M ≤ 1000000000000) (room : Int) : ∀ (n : Nat) (t : Tm), t.nodes ≤ n → Sm M t → t.nodes ≤ 8192 → ∃ r, ref04_next n t room = some r ∧ NxIs t (t.stp room) r
  | 0, t, hn, _, _ => by have := t.nodes_pos; omega
  | n + 1, .mk k i s l, hn, hs, h8 => by
    rw [ref04_next, Root_eq hs.ok]
    simp only [bind1_of]
    rw [Tm.stp_mk]
    by_cases hr : (Tm.mk k i s l).root = true
    · rw [if_pos hr, if_pos hr, growth_eq hs.ok h8 hr]
      simp only [bind1_of, igt_iff]
      by_cases hg : ((Tm.mk k i s l).contr.nodes : Int) - ((Tm.mk k i s l).nodes : Int) > room
      · rw [if_pos hg, if_pos hg]
        exact ⟨_, rfl, rfl, rfl⟩
      · rw [if_neg hg, if_neg hg, reduced_eq hM hs h8 hr]
        exact ⟨_, rfl, rfl⟩
    · rw [if_neg hr, if_neg hr]
      rw [Tm.nodes_mk] at hn h8
      have hlen := Tm.ok_le hs.ok
      simp only [Tm.args_mk, joinB_eq, okLen_of (l := l) (by omega), chk_true, Tm.kind_mk, Tm.index_mk, Tm.typeF_mk]
      have key : ∀ (ts pre : List Tm), l = pre ++ ts → ∃ o, forR (fun (j290 : Int) (x292 : Tm) => (fun (_ : Unit) =>
          bind3 (ref04_next n x292 room) fun x571 x572 x573 =>
          if x572 = true then (
          chk (okNew l) <|
          bind1 (lget l j290) fun x622 =>
          some (Ctl.ret ((Tm.mk k i s (lset l j290 x571)), true, x573)))
          else (
          some (.next ())))) ts pre.length () = some o ∧ (match Tm.stpL room ts with
            | none => ∃ r : Tm × Bool × Bool, o = .inr r ∧ r.2.1 = true ∧ r.2.2 = false
            | some none => o = .inl ()
            | some (some ts') => o = .inr (Tm.mk k i s (pre ++ ts'), true, true)) := by
        intro ts
        induction ts with
        | nil => intro pre _; exact ⟨_, rfl, by rw [Tm.stpL]⟩
        | cons t ts ih =>
          intro pre hl
          have htl : t ∈ l := by rw [hl]; simp
          have hmn := sumL_mem Tm.nodes htl
          obtain ⟨⟨u, b, c⟩, r1, r2⟩ := next_is hM room n t (by omega) (hs.arg t htl) (by omega)
          rw [forR_cons]
          simp only [r1, bind3_of]
          have hget : lget l ((pre.length : Nat) : Int) = some t := by
            unfold lget
            rw [if_pos (by omega)]
            rw [hl]
            simp
          have hset : lset l ((pre.length : Nat) : Int) u = pre ++ u :: ts := by
            unfold lset
            rw [hl, Int.toNat_natCast, set_append_len]
          have hnew : okNew l = true := by
            unfold okNew lim
            have : 0 < l.length := List.length_pos_of_mem htl
            exact decide_eq_true (by omega)
          rw [Tm.stpL]
          unfold NxIs at r2
          cases e : t.stp room with
          | none =>
            rw [e] at r2
            obtain ⟨q1, q2⟩ := r2
            simp only at q1 q2
            rw [if_pos q1, hnew, chk_true, hget]
            exact ⟨_, rfl, _, rfl, rfl, q2⟩
          | some o =>
            cases o with
            | none =>
              rw [e] at r2
              obtain ⟨rfl, q⟩ := Prod.mk.inj r2
              obtain ⟨rfl, rfl⟩ := Prod.mk.inj q
              rw [if_neg (by decide)]
              simp only [bind1_of, ctlK_next]
              obtain ⟨o, o1, o2⟩ := ih (pre ++ [u]) (by rw [hl]; simp)
              rw [List.length_append] at o1
              refine ⟨o, o1, ?_⟩
              cases e2 : Tm.stpL room ts with
              | none => rw [e2] at o2; exact o2
              | some q =>
                cases q with
                | none => rw [e2] at o2; exact o2
                | some ts' => rw [e2] at o2; simpa using o2
            | some t' =>
              rw [e] at r2
              obtain ⟨rfl, q⟩ := Prod.mk.inj r2
              obtain ⟨rfl, rfl⟩ := Prod.mk.inj q
              rw [if_pos rfl, hnew, chk_true, hget]
              simp only [bind1_of, hset]
              exact ⟨_, rfl, rfl⟩
      obtain ⟨o, o1, o2⟩ := key l [] rfl
      rw [show (([] : List Tm).length) = 0 from rfl] at o1
      rw [o1]
      cases e2 : Tm.stpL room l with
      | none =>
        rw [e2] at o2
        obtain ⟨r, rfl, q1, q2⟩ := o2
        exact ⟨r, rfl, q1, q2⟩
      | some q =>
        cases q with
        | none => rw [e2] at o2; subst o2; exact ⟨_, rfl, rfl⟩
        | some ts' => rw [e2] at o2; subst o2; exact ⟨_, rfl, rfl⟩
end Go.Mdl
