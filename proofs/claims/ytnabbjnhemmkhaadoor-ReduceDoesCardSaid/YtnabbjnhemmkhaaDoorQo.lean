/-
  Redexes of any terms that are well made, whatever their indexes.
-/
import Derived.Test.YtnabbjnhemmkhaaDoorQn
set_option linter.unusedSimpArgs false
set_option linter.unusedVariables false
namespace Go.Mdl
open Go

/-- Nodes of which the kinds are known. -/
inductive KL (nh : List HC) : List (Option Nat) → List Tm → Prop
  | nil : KL nh [] []
  | cons {p : Nat} {t : Tm} {ps : List (Option Nat)} {ts : List Tm} : (∃ y, HC.get_cgraph_Node nh p = some y ∧ y.kind = t.kind) → KL nh ps ts → KL nh (some p :: ps) (t :: ts)
theorem KL.inv1 {nh : List HC} {ps : List (Option Nat)} {a : Tm} (h : KL nh ps [a]) : ∃ p, ps = [some p] ∧ ∃ y, HC.get_cgraph_Node nh p = some y ∧ y.kind = a.kind := by
  cases h with
  | cons h1 h2 => cases h2; exact ⟨_, rfl, h1⟩
theorem KL.inv2 {nh : List HC} {ps : List (Option Nat)} {a b : Tm} (h : KL nh ps [a, b]) : ∃ p q, ps = [some p, some q] ∧ ∃ y, HC.get_cgraph_Node nh p = some y ∧ y.kind = a.kind := by
  cases h with
  | cons h1 h2 => cases h2 with | cons h3 h4 => cases h4; exact ⟨_, _, rfl, h1⟩
theorem KL.inv3 {nh : List HC} {ps : List (Option Nat)} {a b c : Tm} (h : KL nh ps [a, b, c]) : ∃ p q r, ps = [some p, some q, some r] ∧ ∃ y, HC.get_cgraph_Node nh r = some y ∧ y.kind = c.kind := by
  cases h with
  | cons h1 h2 => cases h2 with | cons h3 h4 => cases h4 with | cons h5 h6 => cases h6; exact ⟨_, _, _, rfl, h5⟩
theorem KL.app {nh X : List HC} : ∀ {ps : List (Option Nat)} {ts : List Tm}, KL nh ps ts → KL (nh ++ X) ps ts
  | _, _, .nil => .nil
  | _, _, .cons ⟨y, h1, h2⟩ h => .cons ⟨y, get_app h1, h2⟩ h.app
theorem KL.append {nh : List HC} : ∀ {ps qs : List (Option Nat)} {ts us : List Tm}, KL nh ps ts → KL nh qs us → KL nh (ps ++ qs) (ts ++ us)
  | _, _, _, _, .nil, h => h
  | _, _, _, _, .cons h1 h2, h => .cons h1 (h2.append h)
theorem KL.len {nh : List HC} : ∀ {ps : List (Option Nat)} {ts : List Tm}, KL nh ps ts → ps.length = ts.length
  | _, _, .nil => rfl
  | _, _, .cons _ h => by simp [h.len]

theorem redex_k {nh : List HC} {p : Nat} {t : Tm} {x : Sgraph_Node} (e1 : HC.get_cgraph_Node nh p = some x) (e2 : x.kind = t.kind) (e5 : KL nh x.args t.args) (ho : t.ok = true) : graph_Node_redex (some p) nh = some t.root := by
  unfold graph_Node_redex
  simp only [bind1_of, e1, joinB_eq]
  cases t with
  | mk k i s l =>
    simp only [Tm.kind_mk, Tm.args_mk] at e2 e5
    rw [e2]
    unfold Tm.root
    by_cases h3 : k = 3
    · subst h3
      obtain ⟨a, b, rfl⟩ := Tm.ok3 ho
      obtain ⟨pa, pb, hp, y, f1, f2⟩ := e5.inv2
      rw [if_pos (by decide), hp]
      simp [lget_zero, f1, f2, Tm.kd, ieq_dec]
    · rw [if_neg (by simpa using h3)]
      by_cases h6 : k = 6
      · subst h6
        obtain ⟨a, b, c, rfl⟩ := Tm.ok6 ho
        obtain ⟨pa, pb, pc, hp, y, f1, f2⟩ := e5.inv3
        rw [if_pos (by decide), hp]
        simp only [lget_two, List.getElem?_cons_succ, List.getElem?_cons_zero, bind1_of, f1, f2, Tm.kd, ieq_iff]
        by_cases h4 : c.kind = 4
        · simp [h4]
        · simp [h4, ieq_dec]
          exact decide_eq_decide.2 Iff.rfl
      · rw [if_neg (by simpa using h6)]
        by_cases h9 : k = 9
        · subst h9
          obtain ⟨a, b, c, rfl⟩ := Tm.ok9 ho
          obtain ⟨pa, pb, pc, hp, y, f1, f2⟩ := e5.inv3
          rw [if_pos (by decide), hp]
          simp only [lget_two, List.getElem?_cons_succ, List.getElem?_cons_zero, bind1_of, f1, f2, Tm.kd, ieq_iff]
          by_cases h4 : c.kind = 7
          · simp [h4]
          · simp [h4, ieq_dec]
            exact decide_eq_decide.2 Iff.rfl
        · rw [if_neg (by simpa using h9)]
          by_cases h11 : k = 11 ∨ k = 12
          · obtain ⟨a, rfl⟩ := Tm.ok11 h11 ho
            obtain ⟨pa, hp, y, f1, f2⟩ := e5.inv1
            rw [if_pos (by rcases h11 with rfl | rfl <;> rfl), hp]
            simp only [lget_zero, List.getElem?_cons_zero, bind1_of, f1, f2, Tm.kd]
            rcases h11 with rfl | rfl <;> simp [ieq_dec] <;> exact decide_eq_decide.2 Iff.rfl
          · rw [if_neg (by simp only [sel_or, Bool.or_eq_true, ieq_iff]; exact h11)]
            simp only [not_or] at h11
            simp [h3, h6, h9, h11.1, h11.2]

theorem build_loop_k {a0 a1 : Int} {a2 : Ty} {a3 : List (Option Nat)} {nh : List HC} {F : Int → Option Nat → List HC → Option (Ctl (List HC) ((Option Nat) × List HC))}
    (hF : ∀ j q v x y, HC.get_cgraph_Node v nh.length = some x → HC.get_cgraph_Node v q = some y → HC.get_cgraph_Node (hput v nh.length (HC.cgraph_Node (Sgraph_Node.mk x.kind x.index x.typ x.args (iadd .i64 x.size y.size) x.free x.normal))) q = some y →
      F j (some q) v = some (.next (hput (hput v nh.length (HC.cgraph_Node (Sgraph_Node.mk x.kind x.index x.typ x.args (iadd .i64 x.size y.size) x.free x.normal))) nh.length (HC.cgraph_Node (Sgraph_Node.mk x.kind x.index x.typ x.args (iadd .i64 x.size y.size) (imax x.free y.free) x.normal))))) :
    ∀ (ps : List (Option Nat)) (ts : List Tm) (i : Nat) (s f : Int), KL nh ps ts →
      ∃ s' f', forR F ps i (nh ++ [HC.cgraph_Node (Sgraph_Node.mk a0 a1 a2 a3 s f false)]) = some (.inl (nh ++ [HC.cgraph_Node (Sgraph_Node.mk a0 a1 a2 a3 s' f' false)]))
  | _, _, i, s, f, .nil => ⟨s, f, rfl⟩
  | _, _, i, s, f, .cons (p := p) (t := t) ⟨y, e1, e2⟩ h2 => by
    rw [forR_cons, hF _ p _ _ y get_last (get_app e1) (by rw [hput_last]; exact get_app e1)]
    simp only [hput_last, bind1_of, ctlK_next]
    exact build_loop_k hF _ _ (i + 1) _ _ h2
theorem build_k {k i : Int} {s : Ty} {ps : List (Option Nat)} {ts : List Tm} {nh : List HC} (h : KL nh ps ts) (hn : ts.length ≤ 100000000) :
    ∃ nh', graph_build k i s ps nh = some (some nh.length, nh') ∧ Kp nh nh' ∧ ∃ x, HC.get_cgraph_Node nh' nh.length = some x ∧ x.kind = k ∧ x.args = ps := by
  have hlen : ps.length ≤ 100000000 := by rw [h.len]; exact hn
  unfold graph_build
  rw [okLen_of (by omega)]
  simp only [chk_true, joinB_eq]
  obtain ⟨sz, fr, hl⟩ := build_loop_k (a0 := k) (a1 := i) (a2 := s) (a3 := ps) (nh := nh) (F := fun j279 x281 v542 =>
      bind1 (HC.get_cgraph_Node v542 (List.length nh)) fun x683 =>
      bind1 (x281) fun x686 =>
      bind1 (HC.get_cgraph_Node v542 x686) fun x689 =>
      bind1 (HC.get_cgraph_Node (hput v542 (List.length nh) (HC.cgraph_Node (Sgraph_Node.mk x683.kind x683.index x683.typ x683.args (iadd .i64 x683.size x689.size) x683.free x683.normal))) x686) fun x699 =>
      some (.next (hput (hput v542 (List.length nh) (HC.cgraph_Node (Sgraph_Node.mk x683.kind x683.index x683.typ x683.args (iadd .i64 x683.size x689.size) x683.free x683.normal))) (List.length nh) (HC.cgraph_Node (Sgraph_Node.mk x683.kind x683.index x683.typ x683.args (iadd .i64 x683.size x689.size) (imax x683.free x699.free) x683.normal)))))
    (by intro j q v x y h1 h2 h3; simp only [h1, h2, h3, bind1_of]) ps ts 0 1 0 h
  rw [hl]
  simp only [bind1_of, sumK_inl, get_last, hput_last]
  by_cases h1 : k = 1
  · exact ⟨_, by rw [if_pos (by simpa using h1)], ⟨_, rfl⟩, _, get_last, rfl, rfl⟩
  · rw [if_neg (by simpa using h1)]
    by_cases h2 : k = 2
    · exact ⟨_, by rw [if_pos (by simpa using h2)], ⟨_, rfl⟩, _, get_last, rfl, rfl⟩
    · exact ⟨_, by rw [if_neg (by simpa using h2)], ⟨_, rfl⟩, _, get_last, rfl, rfl⟩

theorem From_k : ∀ (n : Nat) (t : Tm) (nh : List HC), t.nodes ≤ n → t.nodes ≤ 1000000 → ∃ p nh', graph_From n t nh = some (some p, nh') ∧ Kp nh nh' ∧ ∃ x, HC.get_cgraph_Node nh' p = some x ∧ x.kind = t.kind ∧ KL nh' x.args t.args := by
  intro n
  induction n with
  | zero => intro t nh h; have := t.nodes_pos; omega
  | succ n ih =>
    intro t nh h hsn
    cases t with
    | mk k i s l =>
      rw [Tm.nodes_mk] at h hsn
      have hlen := Tm.len_nodes l
      rw [graph_From]
      simp only [Tm.args_mk, Tm.kind_mk, Tm.index_mk, Tm.typeF_mk, joinB_eq, okLen_of (l := l) (by omega), chk_true]
      have loop : ∀ (ts : List Tm) (i : Nat) (nh : List HC) (v : List (Option Nat)) (us : List Tm), (∀ t ∈ ts, t ∈ l) → KL nh v us → v.length + ts.length ≤ 1000000 →
          ∃ v' nh', forR (fun (j101 : Int) (x103 : Tm) => (un2 fun (v189 : (List (Option Nat))) (v190 : List HC) =>
            bind2 (graph_From n x103 v190) fun x246 nh247 =>
            chk (okApp v189 [x246]) <|
            some ((.next ((lapp v189 [x246]), nh247)) : Ctl ((List (Option Nat)) × List HC) ((Option Nat) × List HC)))) ts i (v, nh) = some (.inl (v', nh')) ∧ Kp nh nh' ∧ KL nh' v' (us ++ ts) := by
        intro ts
        induction ts with
        | nil => intro i nh v us _ hv _; exact ⟨v, nh, rfl, Kp.refl _, by simpa using hv⟩
        | cons t ts iht =>
          intro i nh v us hm hv hb
          simp only [List.length_cons] at hb
          have htl := hm t (by simp)
          have hmn := sumL_mem Tm.nodes htl
          obtain ⟨p, nh1, a1, a2, x, a3, a4, _⟩ := ih t nh (by omega) (by omega)
          obtain ⟨X, hX⟩ := a2
          have hv1 : KL nh1 v us := by rw [hX]; exact hv.app
          obtain ⟨v', nh', b1, b2, b3⟩ := iht (i + 1) nh1 (v ++ [some p]) (us ++ [t]) (fun u hu => hm u (by simp [hu])) (hv1.append (.cons ⟨x, a3, a4⟩ .nil)) (by simp; omega)
          refine ⟨v', nh', ?_, Kp.trans ⟨X, hX⟩ b2, by simpa using b3⟩
          rw [forR_cons]
          simp only [un2_mk, a1, bind2_of]
          rw [okApp_of (by simp; omega)]
          simp only [chk_true, lapp_eq, bind1_of, ctlK_next]
          exact b1
      obtain ⟨v', nh', a1, a2, a3⟩ := loop l 0 nh [] [] (fun t h => h) .nil (by simp; omega)
      rw [List.nil_append] at a3
      rw [a1]
      simp only [bind1_of, sumK_inl, un2_mk]
      obtain ⟨nh2, b1, b2, x, b3, b4, b5⟩ := build_k (k := k) (i := i) (s := s) (ps := v') (ts := l) (nh := nh') a3 (by omega)
      refine ⟨nh'.length, nh2, by rw [b1]; rfl, a2.trans b2, x, b3, b4, ?_⟩
      rw [b5]
      obtain ⟨X, hX⟩ := b2
      rw [hX]
      exact a3.app

/-- Redexes of any terms. -/
theorem Redex_eq {t : Tm} (hw : t.wt ≤ 1000000) : reduce_Redex t = some (if t.err = 0 then (t.root, 0) else (false, t.err)) := by
  have hnw := t.nodes_wt
  unfold reduce_Redex
  rw [terms_Check_eq (by omega)]
  simp only [bind1_of]
  by_cases he : t.err = 0
  · rw [if_neg (by simp [ine, he]), if_pos he]
    obtain ⟨p, nh, h1, _, x, h3, h4, h5⟩ := From_k FU t [] (by rw [FU_eq]; omega) (by omega)
    rw [h1]
    simp only [bind2_of]
    unfold graph_Node_Redex
    rw [redex_k h3 h4 h5 (Tm.err_ok he).1]
    rfl
  · rw [if_pos (by simp [ine, he]), if_neg he]
theorem Root_eq {t : Tm} (ho : t.ok = true) : ref04_Root t = some t.root := by
  unfold ref04_Root
  simp only [joinB_eq]
  cases t with
  | mk k i s l =>
    show (if (ieq k 3) = true then (bind1 (lget l 0) fun x144 => some (ieq x144.kind 2)) else (
      if (ieq k 6) = true then (bind1 (lget l 2) fun x170 => if (ieq x170.kind 4) = true then some true else some (ieq x170.kind 5)) else (
      if (ieq k 9) = true then (bind1 (lget l 2) fun x199 => if (ieq x199.kind 7) = true then some true else some (ieq x199.kind 8)) else (
      if (sel (ieq k 11) true (ieq k 12)) = true then (bind1 (lget l 0) fun x238 => some (ieq x238.kind 10)) else some false)))) = _
    unfold Tm.root
    by_cases h3 : k = 3
    · subst h3
      obtain ⟨a, b, rfl⟩ := Tm.ok3 ho
      rw [if_pos (by decide)]
      simp [lget_zero, Tm.kd, ieq_dec]
    · rw [if_neg (by simpa using h3)]
      by_cases h6 : k = 6
      · subst h6
        obtain ⟨a, b, c, rfl⟩ := Tm.ok6 ho
        rw [if_pos (by decide)]
        simp only [lget_two, List.getElem?_cons_succ, List.getElem?_cons_zero, bind1_of, Tm.kd, ieq_iff]
        by_cases h4 : c.kind = 4
        · simp [h4]
        · simp [h4, ieq_dec]
          exact decide_eq_decide.2 Iff.rfl
      · rw [if_neg (by simpa using h6)]
        by_cases h9 : k = 9
        · subst h9
          obtain ⟨a, b, c, rfl⟩ := Tm.ok9 ho
          rw [if_pos (by decide)]
          simp only [lget_two, List.getElem?_cons_succ, List.getElem?_cons_zero, bind1_of, Tm.kd, ieq_iff]
          by_cases h4 : c.kind = 7
          · simp [h4]
          · simp [h4, ieq_dec]
            exact decide_eq_decide.2 Iff.rfl
        · rw [if_neg (by simpa using h9)]
          by_cases h11 : k = 11 ∨ k = 12
          · obtain ⟨a, rfl⟩ := Tm.ok11 h11 ho
            rw [if_pos (by rcases h11 with rfl | rfl <;> rfl)]
            simp only [lget_zero, List.getElem?_cons_zero, bind1_of, Tm.kd]
            rcases h11 with rfl | rfl <;> simp [ieq_dec] <;> exact decide_eq_decide.2 Iff.rfl
          · rw [if_neg (by simp only [sel_or, Bool.or_eq_true, ieq_iff]; exact h11)]
            simp only [not_or] at h11
            simp [h3, h6, h9, h11.1, h11.2]
theorem ref04_Redex_eq {t : Tm} (hw : t.wt ≤ 1000000) : ref04_Redex t = some (if t.err = 0 then (t.root, 0) else (false, t.err)) := by
  unfold ref04_Redex
  rw [ref02_Check_eq (by omega)]
  simp only [bind1_of]
  by_cases he : t.err = 0
  · rw [if_neg (by simp [ine, he]), if_pos he, Root_eq (Tm.err_ok he).1]; rfl
  · rw [if_pos (by simp [ine, he]), if_neg he]
end Go.Mdl
