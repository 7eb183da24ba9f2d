/-
  Steps of nodes are steps of terms.
-/
import Derived.Test.YtnabbjnhemmkhaaDoorQd
set_option linter.unusedSimpArgs false
set_option linter.unusedVariables false
namespace Go.Mdl
open Go

theorem contr_bd {M : Int} {t : Tm} (hs : Sm M t) (hn : t.nodes ≤ 8192) (hroot : t.root = true) : (t.contr.nodes : Int) ≤ 1000000000 := by
  have hrd := Tm.rd_of hs.ok hroot
  cases hrd with
  | app =>
    rename_i i s i' s' b a
    rw [Tm.nodes_mk] at hn
    simp only [sumL, Tm.nodes_mk] at hn
    have hsf := hs.arg (.mk 2 i' s' [b]) (by simp)
    have hin := Tm.inn_nodes a b 0 (hsf.arg b (by simp)).ok
    have htm := Tm.times_nodes b 0
    have hmul : b.times 0 * a.nodes ≤ 8192 * 8192 := Nat.mul_le_mul (by omega) (by omega)
    have e : (Tm.mk 3 i s [.mk 2 i' s' [b], a]).contr = Tm.inn 0 b a := by simp [Tm.contr]
    rw [e]
    omega
  | proj hk =>
    rw [Tm.nodes_mk] at hn
    simp only [sumL, Tm.nodes_mk] at hn
    rcases hk with rfl | rfl <;> (simp [Tm.contr]; omega)
  | zero hk =>
    rename_i k ko i s i' s' b st
    have hk' : k ≠ 3 ∧ k ≠ 11 ∧ k ≠ 12 := by omega
    have : (Tm.mk k i s [b, st, .mk ko i' s' []]).contr = b := by simp [Tm.contr, hk'.1, hk'.2.1, hk'.2.2]
    rw [this]
    rw [Tm.nodes_mk] at hn
    simp only [sumL, Tm.nodes_mk] at hn
    omega
  | succ =>
    rename_i i s i' s' b st n
    have e : (Tm.mk 6 i s [b, st, .mk 5 i' s' [n]]).contr = appL st [n, .mk 6 i s [b, st, n]] := by simp [Tm.contr, appL]
    rw [e, appL_nodes]
    rw [Tm.nodes_mk] at hn
    simp only [sumL, Tm.nodes_mk, List.length_cons, List.length_nil] at hn ⊢
    omega
  | cons =>
    rename_i i s i' s' b st h n
    have e : (Tm.mk 9 i s [b, st, .mk 8 i' s' [h, n]]).contr = appL st [h, n, .mk 9 i s [b, st, n]] := by simp [Tm.contr, appL]
    rw [e, appL_nodes]
    rw [Tm.nodes_mk] at hn
    simp only [sumL, Tm.nodes_mk, List.length_cons, List.length_nil] at hn ⊢
    omega

theorem grown_eq {M : Int} (hM : 0 ≤ M ∧ M ≤ 90000000000) {nh : List HC} {p : Nat} {t : Tm} (hr : NR nh p t) (hs : Sm M t) (hn : t.nodes ≤ 8192) (hroot : t.root = true) : graph_Node_grownR (some p) nh = some (t.contr.nodes : Int) := by
  have hc := contract_eq hM hr hs hn hroot
  have hrd := Tm.rd_of hs.ok hroot
  obtain ⟨x, e1, e2, e3, e4, e5, e6, e7, e8⟩ := hr.inv
  unfold graph_Node_grownR graph_Node_grown
  simp only [bind1_of, e1]
  cases hrd with
  | app =>
    rename_i i s i' s' b a
    simp only [Tm.kind_mk, Tm.args_mk] at e2 e5
    obtain ⟨pf, pa, hp, hf, ha⟩ := e5.inv2
    obtain ⟨y, f1, f2, f3, f4, f5, _⟩ := hf.inv
    simp only [Tm.kind_mk, Tm.args_mk] at f2 f5
    obtain ⟨pb, hpb, hb⟩ := f5.inv1
    have hsf := hs.arg (.mk 2 i' s' [b]) (by simp)
    have hsa := hs.arg a (by simp)
    have hsb := hsf.arg b (by simp)
    rw [Tm.nodes_mk] at hn
    simp only [sumL, Tm.nodes_mk] at hn
    obtain ⟨z, g1, _, _, _, _, g6, _⟩ := hb.inv
    obtain ⟨u, k1, _, _, _, _, k6, _⟩ := ha.inv
    rw [e2, if_pos (by decide), hp]
    simp only [lget_zero, lget_one, List.getElem?_cons_zero, List.getElem?_cons_succ, bind1_of, f1, hpb, g1]
    rw [count_eq (M := M) (by omega) nh FU b pb 0 (by rw [FU_eq]; omega) hb hsb (by omega) (by omega)]
    simp only [bind1_of, k1, bind2_of, g6, k6]
    have htm := Tm.times_nodes b 0
    have hmul : b.times 0 * a.nodes ≤ 8192 * 8192 := Nat.mul_le_mul (by omega) (by omega)
    have hin := Tm.inn_nodes a b 0 hsb.ok
    have hap := a.nodes_pos
    have e : (Tm.mk 3 i s [.mk 2 i' s' [b], a]).contr = Tm.inn 0 b a := by simp [Tm.contr]
    rw [e]
    have hint : (b.times 0 : Int) * ((a.nodes : Int) - 1) = ((b.times 0 * a.nodes : Nat) : Int) - (b.times 0 : Int) := by rw [Int.mul_sub, Int.mul_one]; simp
    rw [isub_in (by omega) (by omega), imul_in (by rw [hint]; omega) (by rw [hint]; omega), hint, iadd_in (by omega) (by omega)]
    congr 1
    omega
  | proj hk =>
    rename_i k i s i' s' a b
    obtain ⟨p', nh', g1, g2, g3⟩ := hc
    simp only [Tm.kind_mk, Tm.args_mk] at e2 e5
    obtain ⟨z, k1, _, _, _, _, k6, _⟩ := g3.inv
    have hk' : k ≠ 3 ∧ k ≠ 6 ∧ k ≠ 9 := by omega
    rw [e2, if_neg (by simpa using hk'.1), if_neg (by simpa using hk'.2.1), if_neg (by simpa using hk'.2.2), g1]
    simp only [bind2_of, bind1_of, k1, k6]
  | zero hk =>
    rename_i k ko i s i' s' b st
    simp only [Tm.kind_mk, Tm.args_mk] at e2 e5
    obtain ⟨pb, ps, po, hp, hb, hst, ho⟩ := e5.inv3
    obtain ⟨y, f1, f2, f3, f4, f5, _⟩ := ho.inv
    obtain ⟨z, k1, _, _, _, _, k6, _⟩ := hb.inv
    simp only [Tm.kind_mk, Tm.args_mk] at f2 f5
    have hk' : k ≠ 3 ∧ k ≠ 11 ∧ k ≠ 12 := by omega
    have : (Tm.mk k i s [b, st, .mk ko i' s' []]).contr = b := by simp [Tm.contr, hk'.1, hk'.2.1, hk'.2.2]
    rw [this]
    rcases hk with ⟨rfl, rfl⟩ | ⟨rfl, rfl⟩
    · rw [e2, if_neg (by decide), if_pos (by decide), hp]
      simp only [lget_zero, lget_one, lget_two, List.getElem?_cons_zero, List.getElem?_cons_succ, bind1_of, f1, f2, k1, k6]
      rw [if_neg (by decide)]
      rfl
    · rw [e2, if_neg (by decide), if_neg (by decide), if_pos (by decide), hp]
      simp only [lget_zero, lget_one, lget_two, List.getElem?_cons_zero, List.getElem?_cons_succ, bind1_of, f1, f2, k1, k6]
      rw [if_neg (by decide)]
      rfl
  | succ =>
    rename_i i s i' s' b st n
    simp only [Tm.kind_mk, Tm.args_mk] at e2 e5
    obtain ⟨pb, ps, po, hp, hb, hst, ho⟩ := e5.inv3
    obtain ⟨y, f1, f2, f3, f4, f5, _⟩ := ho.inv
    simp only [Tm.kind_mk, Tm.args_mk] at f2 f5
    obtain ⟨pn, hpn, hn'⟩ := f5.inv1
    obtain ⟨z1, k1, _, _, _, _, k6, _⟩ := hb.inv
    obtain ⟨z2, l1, _, _, _, _, l6, _⟩ := hst.inv
    obtain ⟨z3, m1, _, _, _, _, m6, _⟩ := hn'.inv
    rw [Tm.nodes_mk] at hn
    simp only [sumL, Tm.nodes_mk] at hn
    have e : (Tm.mk 6 i s [b, st, .mk 5 i' s' [n]]).contr = appL st [n, .mk 6 i s [b, st, n]] := by simp [Tm.contr, appL]
    rw [e, appL_nodes]
    simp only [sumL, Tm.nodes_mk, List.length_cons, List.length_nil]
    rw [e2, if_neg (by decide), if_pos (by decide), hp]
    simp only [lget_zero, lget_one, lget_two, List.getElem?_cons_zero, List.getElem?_cons_succ, bind1_of, f1, f2, hpn, k1, l1, m1, k6, l6, m6]
    rw [if_pos (by decide)]
    simp only [bind2_of]
    rw [imul_in (a := 2) (by omega) (by omega), iadd_in (a := 2) (by omega) (by omega), iadd_in (b := 2 * (n.nodes : Int)) (by omega) (by omega), iadd_in (b := 1) (by omega) (by omega), iadd_in (b := (b.nodes : Int)) (by omega) (by omega), iadd_in (by omega) (by omega)]
    congr 1
    omega
  | cons =>
    rename_i i s i' s' b st h n
    simp only [Tm.kind_mk, Tm.args_mk] at e2 e5
    obtain ⟨pb, ps, po, hp, hb, hst, ho⟩ := e5.inv3
    obtain ⟨y, f1, f2, f3, f4, f5, _⟩ := ho.inv
    simp only [Tm.kind_mk, Tm.args_mk] at f2 f5
    obtain ⟨ph, pn, hpn, hh', hn'⟩ := f5.inv2
    obtain ⟨z1, k1, _, _, _, _, k6, _⟩ := hb.inv
    obtain ⟨z2, l1, _, _, _, _, l6, _⟩ := hst.inv
    obtain ⟨z3, m1, _, _, _, _, m6, _⟩ := hn'.inv
    obtain ⟨z4, q1, _, _, _, _, q6, _⟩ := hh'.inv
    rw [Tm.nodes_mk] at hn
    simp only [sumL, Tm.nodes_mk] at hn
    have e : (Tm.mk 9 i s [b, st, .mk 8 i' s' [h, n]]).contr = appL st [h, n, .mk 9 i s [b, st, n]] := by simp [Tm.contr, appL]
    rw [e, appL_nodes]
    simp only [sumL, Tm.nodes_mk, List.length_cons, List.length_nil]
    rw [e2, if_neg (by decide), if_neg (by decide), if_pos (by decide), hp]
    simp only [lget_zero, lget_one, lget_two, List.getElem?_cons_zero, List.getElem?_cons_succ, bind1_of, f1, f2, hpn, k1, l1, m1, q1, k6, l6, m6, q6]
    rw [if_pos (by decide)]
    simp only [bind2_of]
    rw [imul_in (a := 2) (by omega) (by omega), iadd_in (a := 3) (by omega) (by omega), iadd_in (b := (h.nodes : Int)) (by omega) (by omega), iadd_in (b := 2 * (n.nodes : Int)) (by omega) (by omega), iadd_in (b := 1) (by omega) (by omega), iadd_in (b := (b.nodes : Int)) (by omega) (by omega), iadd_in (by omega) (by omega)]
    congr 1
    omega

theorem set_append_len {α : Type} (a : List α) (x y : α) (b : List α) : (a ++ x :: b).set a.length y = a ++ y :: b := by simp

/-- What a step of a node comes to. -/
def StepIs (room : Int) (p : Nat) (t : Tm) (nh : List HC) (o : Option ((Option Nat) × Int × List HC)) : Prop :=
  match t.stp room with
  | none => ∃ nh', o = some (none, 4, nh') ∧ NE nh nh'
  | some none => ∃ nh', o = some (none, 0, nh') ∧ NE nh nh'
  | some (some t') => ∃ p' nh', o = some (some p', 0, nh') ∧ NE nh nh' ∧ NR nh' p' t'

theorem Step_eq {M room : Int} (hM : 0 ≤ M ∧ M ≤ 80000000000) (hroom : -100000 ≤ room ∧ room ≤ 100000) : ∀ (n : Nat) (t : Tm) (p : Nat) (nh : List HC), t.nodes ≤ n → NR nh p t → Sm M t → t.nodes ≤ 8192 → StepIs room p t nh (graph_Node_Step n (some p) room nh) := by
  intro n
  induction n with
  | zero => intro t p nh h; have := t.nodes_pos; omega
  | succ n ih =>
    intro t p nh hn hr hs hsz
    obtain ⟨x, e1, e2, e3, e4, e5, e6, e7, e8⟩ := hr.inv
    rw [graph_Node_Step]
    simp only [bind1_of, e1]
    by_cases hnm : x.normal = true
    · rw [if_pos hnm]
      unfold StepIs
      rw [(stp_nf room t).1 (e8 hnm)]
      exact ⟨nh, rfl, NE.refl _⟩
    · rw [if_neg hnm, redex_eq hr hs.ok]
      simp only [bind1_of]
      cases t with
      | mk k i s l =>
        by_cases hroot : (Tm.mk k i s l).root = true
        · rw [if_pos hroot, grown_eq (by omega) hr hs hsz hroot]
          simp only [bind1_of, igt_iff, e6]
          obtain ⟨p', nh', g1, g2, g3⟩ := contract_eq (M := M) (by omega) hr hs hsz hroot
          have hcn := contr_bd hs hsz hroot
          rw [isub_in (by omega) (by omega)]
          unfold StepIs
          rw [Tm.stp_mk, if_pos hroot]
          by_cases hbig : ((Tm.mk k i s l).contr.nodes : Int) - ((Tm.mk k i s l).nodes : Int) > room
          · rw [if_pos hbig, if_pos hbig]
            exact ⟨nh, rfl, NE.refl _⟩
          · rw [if_neg hbig, if_neg hbig, g1]
            exact ⟨p', nh', rfl, NE.kp g2, g3⟩
        · rw [if_neg hroot]
          simp only [Tm.kind_mk, Tm.args_mk, Tm.index_mk, Tm.typeF_mk] at e2 e3 e4 e5
          have hsz2 := hsz
          rw [Tm.nodes_mk] at hn hsz2
          have hlen := Tm.len_nodes l
          have hpl : x.args.length = l.length := e5.len
          rw [okLen_of (by omega)]
          simp only [chk_true, joinB_eq]
          have hidx := hs.idx
          have hfr : ∀ u : Tm, Sm M u → 0 ≤ u.fr ∧ u.fr ≤ M + 1 := fun u hu => hu.fr hM.1
          have loop : ∀ (ts pre : List Tm) (ps qs : List (Option Nat)) (j : Nat) (nh1 : List HC), l = pre ++ ts → x.args = qs ++ ps → qs.length = j → NE nh nh1 → NRL nh1 ps ts → NRL nh1 qs pre →
              match Tm.stpL room ts with
              | none => ∃ nh', forR (fun (j625 : Int) (x627 : (Option Nat)) => (fun (v1044 : List HC) =>
                  bind3 (graph_Node_Step n x627 room v1044) fun x1190 x1191 nh1192 =>
                  if (ine x1191 0) = true then (some (.ret (none, x1191, nh1192)))
                  else (if (Option.isSome x1190) = true then (
                  bind1 (HC.get_cgraph_Node nh1192 p) fun x1237 =>
                  chk (okNew x1237.args) <|
                  bind1 (lget x1237.args j625) fun x1258 =>
                  bind2 (graph_Node_with (some p) (lset x1237.args j625 x1190) nh1192) fun x1268 nh1269 =>
                  some (.ret (x1268, 0, nh1269)))
                  else (some ((.next nh1192) : Ctl (List HC) ((Option Nat) × Int × List HC)))))) ps j nh1 = some (.inr (none, 4, nh')) ∧ NE nh nh'
              | some none => ∃ nh', forR (fun (j625 : Int) (x627 : (Option Nat)) => (fun (v1044 : List HC) =>
                  bind3 (graph_Node_Step n x627 room v1044) fun x1190 x1191 nh1192 =>
                  if (ine x1191 0) = true then (some (.ret (none, x1191, nh1192)))
                  else (if (Option.isSome x1190) = true then (
                  bind1 (HC.get_cgraph_Node nh1192 p) fun x1237 =>
                  chk (okNew x1237.args) <|
                  bind1 (lget x1237.args j625) fun x1258 =>
                  bind2 (graph_Node_with (some p) (lset x1237.args j625 x1190) nh1192) fun x1268 nh1269 =>
                  some (.ret (x1268, 0, nh1269)))
                  else (some ((.next nh1192) : Ctl (List HC) ((Option Nat) × Int × List HC)))))) ps j nh1 = some (.inl nh') ∧ NE nh nh'
              | some (some ts') => ∃ p' nh', forR (fun (j625 : Int) (x627 : (Option Nat)) => (fun (v1044 : List HC) =>
                  bind3 (graph_Node_Step n x627 room v1044) fun x1190 x1191 nh1192 =>
                  if (ine x1191 0) = true then (some (.ret (none, x1191, nh1192)))
                  else (if (Option.isSome x1190) = true then (
                  bind1 (HC.get_cgraph_Node nh1192 p) fun x1237 =>
                  chk (okNew x1237.args) <|
                  bind1 (lget x1237.args j625) fun x1258 =>
                  bind2 (graph_Node_with (some p) (lset x1237.args j625 x1190) nh1192) fun x1268 nh1269 =>
                  some (.ret (x1268, 0, nh1269)))
                  else (some ((.next nh1192) : Ctl (List HC) ((Option Nat) × Int × List HC)))))) ps j nh1 = some (.inr (some p', 0, nh')) ∧ NE nh nh' ∧ NR nh' p' (.mk k i s (pre ++ ts')) := by
            intro ts
            induction ts with
            | nil =>
              intro pre ps qs j nh1 _ _ _ hne hp _
              cases hp
              rw [Tm.stpL]
              exact ⟨nh1, rfl, hne⟩
            | cons t ts iht =>
              intro pre ps qs j nh1 hl hx hq hne hp hpre
              cases hp with
              | cons q1 q2 =>
                rename_i q ps
                have htl : t ∈ l := by rw [hl]; simp
                have hmn := sumL_mem Tm.nodes htl
                have hst := hs.arg t htl
                have hstep := ih t q nh1 (by omega) q1 hst (by omega)
                unfold StepIs at hstep
                rw [Tm.stpL]
                rw [forR_cons]
                split at hstep
                · rename_i hsp
                  obtain ⟨nh', a1, a2⟩ := hstep
                  rw [hsp, a1]
                  exact ⟨nh', rfl, hne.trans a2⟩
                · rename_i hsp
                  obtain ⟨nh', a1, a2⟩ := hstep
                  rw [hsp, a1]
                  have := iht (pre ++ [t]) ps (qs ++ [some q]) (j + 1) nh' (by simp [hl]) (by simp [hx]) (by simp [hq]) (hne.trans a2) (a2.list q2) ((a2.list hpre).append (.cons (a2.node _ _ q1) .nil))
                  revert this
                  cases Tm.stpL room ts with
                  | none => exact fun h => h
                  | some o =>
                    cases o with
                    | none => exact fun h => h
                    | some ts' => simp only [List.append_assoc, List.cons_append, List.nil_append]; exact fun h => h
                · rename_i t' hsp
                  obtain ⟨q', nh', a1, a2, a3⟩ := hstep
                  rw [hsp, a1]
                  simp only [bind3_of]
                  rw [if_neg (by decide), if_pos (show (some q').isSome = true from rfl)]
                  obtain ⟨b, c1⟩ := (hne.trans a2).get p x e1
                  rw [c1]
                  simp only [bind1_of]
                  obtain ⟨s1, s2, s3⟩ := stp_sm hM.1 t hst (by omega) t' hsp
                  rw [show okNew x.args = true from decide_eq_true ⟨by rw [hpl, hl]; simp; omega, by rw [hpl]; unfold lim; omega⟩]
                  have hlg : lget x.args (j : Int) = some (some q) := by rw [lget_ofNat, hx, ← hq]; simp
                  have hls : lset x.args (j : Int) (some q') = qs ++ some q' :: ps := by
                    unfold lset
                    rw [hx, ← hq]
                    simp
                  simp only [chk_true, hlg, bind1_of, hls]
                  unfold graph_Node_with
                  simp only [bind1_of, c1]
                  obtain ⟨nh2, b1, b2, b3⟩ := build_eq (k := k) (i := i) (s := s) (ps := qs ++ some q' :: ps) (ts := pre ++ t' :: ts) (nh := nh') ((a2.list hpre).append (.cons a3 (a2.list q2))) (by
                    rw [hl, sumL_append] at hsz2
                    rw [sumL_append]
                    simp only [sumL] at hsz2 ⊢
                    omega) (by omega) (by
                    intro u hu
                    rcases List.mem_append.1 hu with hu | hu
                    · have := hfr u (hs.arg u (by rw [hl]; simp [hu])); omega
                    · rcases List.mem_cons.1 hu with rfl | hu
                      · have := Tm.fr_bd u (M := M + 8192) (by omega) s1 s2; omega
                      · have := hfr u (hs.arg u (by rw [hl]; simp [hu])); omega)
                  rw [e2, e3, e4, b1]
                  exact ⟨nh'.length, nh2, rfl, (hne.trans a2).trans (NE.kp b2), b3⟩
          have := loop l [] x.args [] 0 nh rfl rfl rfl (NE.refl _) e5 .nil
          unfold StepIs
          rw [Tm.stp_mk, if_neg hroot]
          have hnf : Tm.stpL room l = some none → (Tm.mk k i s l).nf = true := by
            intro h
            rw [stp_nf room, Tm.stp_mk, if_neg hroot, h]
          revert this hnf
          cases Tm.stpL room l with
          | none =>
            rintro ⟨nh', a1, a2⟩ _
            have e : ((0 : Nat) : Int) = 0 := rfl
            rw [a1]
            exact ⟨nh', rfl, a2⟩
          | some o =>
            cases o with
            | none =>
              rintro ⟨nh', a1, a2⟩ hnf
              rw [a1]
              simp only [bind1_of, sumK_inl]
              obtain ⟨b, c1⟩ := a2.get p x e1
              rw [c1]
              simp only [bind1_of]
              exact ⟨_, rfl, a2.trans (NE.flag (x := { x with normal := b }) (a2.node _ _ hr) c1 (hnf rfl))⟩
            | some l' =>
              rintro ⟨p', nh', a1, a2, a3⟩ _
              rw [a1]
              exact ⟨p', nh', rfl, a2, a3⟩

theorem Normal_eq {M : Int} (hM : 0 ≤ M ∧ M ≤ 80000000000) : ∀ (n : Nat) (t : Tm) (p : Nat) (nh : List HC), t.nodes ≤ n → NR nh p t → Sm M t → t.nodes ≤ 8192 → ∃ nh', graph_Node_Normal n (some p) nh = some (t.nf, nh') ∧ NE nh nh' := by
  intro n
  induction n with
  | zero => intro t p nh h; have := t.nodes_pos; omega
  | succ n ih =>
    intro t p nh hn hr hs hsz
    obtain ⟨x, e1, e2, e3, e4, e5, e6, e7, e8⟩ := hr.inv
    rw [graph_Node_Normal]
    simp only [bind1_of, e1]
    by_cases hnm : x.normal = true
    · rw [if_pos hnm, e8 hnm]
      exact ⟨nh, rfl, NE.refl _⟩
    · rw [if_neg hnm, redex_eq hr hs.ok]
      simp only [bind1_of]
      cases t with
      | mk k i s l =>
        by_cases hroot : (Tm.mk k i s l).root = true
        · rw [if_pos hroot, Tm.nf_mk, hroot]
          exact ⟨nh, rfl, NE.refl _⟩
        · rw [if_neg hroot]
          simp only [Tm.args_mk] at e5
          rw [Tm.nodes_mk] at hn hsz
          have hlen := Tm.len_nodes l
          have hpl : x.args.length = l.length := e5.len
          rw [okLen_of (by omega)]
          simp only [chk_true, joinB_eq]
          have loop : ∀ (ts : List Tm) (ps : List (Option Nat)) (j : Nat) (nh1 : List HC), (∀ t ∈ ts, t ∈ l) → NE nh nh1 → NRL nh1 ps ts →
              ∃ nh', forR (fun (j233 : Int) (x235 : (Option Nat)) => (fun (v372 : List HC) =>
                bind2 (graph_Node_Normal n x235 v372) fun x447 nh448 =>
                if x447 = true then (some (.next nh448)) else (some ((.ret (false, nh448)) : Ctl (List HC) (Bool × List HC))))) ps j nh1 = some (if ts.all Tm.nf = true then .inl nh' else .inr (false, nh')) ∧ NE nh nh' := by
            intro ts
            induction ts with
            | nil => intro ps j nh1 _ hne h; cases h; exact ⟨nh1, rfl, hne⟩
            | cons t ts iht =>
              intro ps j nh1 hm hne h
              cases h with
              | cons q1 q2 =>
                have htl := hm t (by simp)
                have hmn := sumL_mem Tm.nodes htl
                obtain ⟨nh2, a1, a2⟩ := ih t _ nh1 (by omega) q1 (hs.arg t htl) (by omega)
                rw [forR_cons, a1]
                simp only [bind2_of]
                by_cases hnf : t.nf = true
                · rw [if_pos hnf]
                  simp only [bind1_of, ctlK_next, List.all_cons, hnf, Bool.true_and]
                  exact iht _ (j + 1) nh2 (fun u hu => hm u (by simp [hu])) (hne.trans a2) (a2.list q2)
                · rw [if_neg hnf]
                  simp only [bind1_of, ctlK_ret, List.all_cons, hnf, Bool.false_and]
                  exact ⟨nh2, rfl, hne.trans a2⟩
          obtain ⟨nh', a1, a2⟩ := loop l x.args 0 nh (fun t h => h) (NE.refl _) e5
          rw [a1]
          by_cases hall : l.all Tm.nf = true
          · rw [if_pos hall]
            simp only [bind1_of, sumK_inl]
            obtain ⟨b, c1⟩ := a2.get p x e1
            rw [c1]
            have hnf : (Tm.mk k i s l).nf = true := by
              rw [Tm.nf_mk, hall]
              simpa using hroot
            rw [hnf]
            exact ⟨_, rfl, a2.trans (NE.flag (x := { x with normal := b }) (a2.node _ _ hr) c1 hnf)⟩
          · rw [if_neg hall]
            have hnf : (Tm.mk k i s l).nf = false := by
              rw [Tm.nf_mk]
              simp [hall]
            rw [hnf]
            exact ⟨nh', rfl, a2⟩
end Go.Mdl
