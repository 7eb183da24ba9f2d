/-
  Terms as nodes and back; steps of nodes.
-/
import Derived.Test.YtnabbjnhemmkhaaDoorQc
set_option linter.unusedSimpArgs false
set_option linter.unusedVariables false
namespace Go.Mdl
open Go

theorem tree_OwnType_eq : ∀ (n : Nat) (t : Ty), t.nodes ≤ n → t.nodes ≤ 1000000000 → tree_OwnType n t = some t := by
  intro n
  induction n with
  | zero => intro t h; have := t.nodes_pos; omega
  | succ n ih =>
    intro t h hb
    cases t with
    | mk k l =>
      rw [Ty.nodes_mk] at h hb
      have hl := Ty.len_nodes l
      rw [tree_OwnType]
      simp only [Ty.args_mk, Ty.kind_mk, joinB_eq, okLen_of (l := l) (by omega), chk_true]
      rw [forR_map id l 0 [] (by simp; omega)]
      · simp
      · intro j x v hx hv
        have := sumL_mem Ty.nodes hx
        rw [ih x (by omega) (by omega)]
        simp [okApp_of (l := v) (m := [x]) (by simpa using hv)]
theorem tree_OwnType' {t : Ty} (h : t.nodes ≤ 1000000000) : tree_OwnType FU t = some t := tree_OwnType_eq FU t (by rw [FU_eq]; exact h) h

theorem Ty.nodes_of_node {k i : Int} {s : Ty} {n : Nat} (h : Tm.node k i s n = true) : s.nodes ≤ 64 := by
  unfold Tm.node at h
  simp only [Bool.and_eq_true] at h
  have h4 := h.2
  by_cases hk : typedB k = true
  · rw [if_pos hk] at h4
    simp only [decide_eq_true_eq] at h4
    unfold Ty.err at h4
    split at h4
    · split at h4
      · omega
      · omega
    · omega
  · rw [if_neg hk] at h4
    rw [(Ty.zeroB_iff s).1 h4, Ty.nodes_mk]
    simp [sumL]

/-- A term as nodes. -/
theorem From_eq {M : Int} (hM : 0 ≤ M ∧ M ≤ 500000000000) : ∀ (n : Nat) (t : Tm) (nh : List HC), t.nodes ≤ n → Sm M t → ∃ p nh', graph_From n t nh = some (some p, nh') ∧ Kp nh nh' ∧ NR nh' p t := by
  intro n
  induction n with
  | zero => intro t nh h; have := t.nodes_pos; omega
  | succ n ih =>
    intro t nh h hs
    cases t with
    | mk k i s l =>
      have hsn := hs.nodes
      have hidx := hs.idx
      rw [Tm.nodes_mk] at h hsn
      have hlen := Tm.len_nodes l
      rw [graph_From]
      simp only [Tm.args_mk, Tm.kind_mk, Tm.index_mk, Tm.typeF_mk, joinB_eq, okLen_of (l := l) (by omega), chk_true]
      have loop : ∀ (ts : List Tm) (i : Nat) (nh : List HC) (v : List (Option Nat)) (us : List Tm), (∀ t ∈ ts, t ∈ l) → NRL nh v us → v.length + ts.length ≤ 1000000 →
          ∃ v' nh', forR (fun (j101 : Int) (x103 : Tm) => (un2 fun (v189 : (List (Option Nat))) (v190 : List HC) =>
            bind2 (graph_From n x103 v190) fun x246 nh247 =>
            chk (okApp v189 [x246]) <|
            some ((.next ((lapp v189 [x246]), nh247)) : Ctl ((List (Option Nat)) × List HC) ((Option Nat) × List HC)))) ts i (v, nh) = some (.inl (v', nh')) ∧ Kp nh nh' ∧ NRL nh' v' (us ++ ts) := by
        intro ts
        induction ts with
        | nil => intro i nh v us _ hv _; exact ⟨v, nh, rfl, Kp.refl _, by simpa using hv⟩
        | cons t ts iht =>
          intro i nh v us hm hv hb
          simp only [List.length_cons] at hb
          have htl := hm t (by simp)
          have hmn := sumL_mem Tm.nodes htl
          obtain ⟨p, nh1, a1, a2, a3⟩ := ih t nh (by omega) (hs.arg t htl)
          obtain ⟨v', nh', b1, b2, b3⟩ := iht (i + 1) nh1 (v ++ [some p]) (us ++ [t]) (fun u hu => hm u (by simp [hu])) (((NE.kp a2).list hv).append (.cons a3 .nil)) (by simp; omega)
          refine ⟨v', nh', ?_, a2.trans b2, by simpa using b3⟩
          rw [forR_cons]
          simp only [un2_mk, a1, bind2_of]
          rw [okApp_of (by simp; omega)]
          simp only [chk_true, lapp_eq, bind1_of, ctlK_next]
          exact b1
      obtain ⟨v', nh', a1, a2, a3⟩ := loop l 0 nh [] [] (fun t h => h) .nil (by simp; omega)
      rw [a1]
      simp only [bind1_of, sumK_inl, un2_mk]
      obtain ⟨nh2, b1, b2, b3⟩ := build_eq (k := k) (i := i) (s := s) (ps := v') (ts := l) (nh := nh') (by simpa using a3) (by omega) (by omega) (by
        intro t ht
        have := (hs.arg t ht).fr hM.1
        omega)
      exact ⟨nh'.length, nh2, by rw [b1]; rfl, a2.trans b2, b3⟩

/-- The term of a node. -/
theorem Term_eq {M : Int} (nh : List HC) : ∀ (n : Nat) (t : Tm) (p : Nat), t.nodes ≤ n → Sm M t → NR nh p t → graph_Node_Term n (some p) nh = some t := by
  intro n
  induction n with
  | zero => intro t p h; have := t.nodes_pos; omega
  | succ n ih =>
    intro t p h hs hr
    obtain ⟨x, e1, e2, e3, e4, e5, e6, e7, e8⟩ := hr.inv
    cases t with
    | mk k i s l =>
      simp only [Tm.kind_mk, Tm.args_mk, Tm.index_mk, Tm.typeF_mk] at e2 e3 e4 e5
      have hsn := hs.nodes
      rw [Tm.nodes_mk] at h hsn
      have hlen := Tm.len_nodes l
      have hpl : x.args.length = l.length := e5.len
      have hso := hs.ok
      rw [Tm.ok_mk, Bool.and_eq_true] at hso
      have hty := Ty.nodes_of_node hso.1
      rw [graph_Node_Term]
      simp only [bind1_of, e1, e2, e3, e4, joinB_eq, okLen_of (l := x.args) (by omega), chk_true]
      rw [tree_OwnType' (by omega)]
      simp only [bind1_of]
      have loop : ∀ (ts : List Tm) (ps : List (Option Nat)) (i : Nat) (v : List Tm), (∀ t ∈ ts, t ∈ l) → NRL nh ps ts → v.length + ts.length ≤ 1000000 →
          forR (fun (j151 : Int) (x153 : (Option Nat)) => (fun (v254 : (List Tm)) =>
            bind1 (graph_Node_Term n x153 nh) fun x319 =>
            chk (okApp v254 [x319]) <|
            some ((.next (lapp v254 [x319])) : Ctl (List Tm) Tm))) ps i v = some (.inl (v ++ ts)) := by
        intro ts
        induction ts with
        | nil => intro ps i v _ h _; cases h; simp
        | cons t ts iht =>
          intro ps i v hm h hb
          simp only [List.length_cons] at hb
          have htl := hm t (by simp)
          have hmn := sumL_mem Tm.nodes htl
          cases h with
          | cons q1 q2 =>
            rw [forR_cons, ih t _ (by omega) (hs.arg t htl) q1]
            simp only [bind1_of]
            rw [okApp_of (by simp; omega)]
            simp only [chk_true, bind1_of, ctlK_next]
            rw [iht _ (i + 1) (lapp v [t]) (fun u hu => hm u (by simp [hu])) q2 (by rw [length_lapp]; simp; omega)]
            simp
      rw [loop l x.args 0 [] (fun t h => h) e5 (by simp; omega)]
      simp

mutual
theorem NR.det {nh : List HC} : ∀ {p : Nat} {t u : Tm}, NR nh p t → NR nh p u → t = u
  | _, _, _, .mk (x := x) h1 h2 _ _ _, .mk (x := y) g1 g2 _ _ _ => by
    rw [h1] at g1
    obtain rfl := Option.some.inj g1
    rw [NRL.det h2 g2]
theorem NRL.det {nh : List HC} : ∀ {ps : List (Option Nat)} {ts us : List Tm}, NRL nh ps ts → NRL nh ps us → ts = us
  | _, _, _, .nil, .nil => rfl
  | _, _, _, .cons h1 h2, .cons g1 g2 => by rw [NR.det h1 g1, NRL.det h2 g2]
end

/-- A node that is known to be normal. -/
theorem NE.flag {nh : List HC} {p : Nat} {t : Tm} {x : Sgraph_Node} (hr : NR nh p t) (hx : HC.get_cgraph_Node nh p = some x) (hnf : t.nf = true) : NE nh (hput nh p (HC.cgraph_Node { x with normal := true })) := by
  have hp := HC.get_cgraph_Node_some hx
  have hlt := (List.getElem?_eq_some_iff.1 hp).1
  have hsame : HC.get_cgraph_Node (hput nh p (HC.cgraph_Node { x with normal := true })) p = some { x with normal := true } := by
    unfold HC.get_cgraph_Node hput
    simp [hlt]
  have hother : ∀ q, q ≠ p → (hput nh p (HC.cgraph_Node { x with normal := true }))[q]? = nh[q]? := by
    intro q hq
    unfold hput
    rw [List.getElem?_set_ne (fun h => hq h.symm)]
  have hget : ∀ q y, HC.get_cgraph_Node nh q = some y → ∃ b, HC.get_cgraph_Node (hput nh p (HC.cgraph_Node { x with normal := true })) q = some { y with normal := b } ∧ (b = true → y.normal = true ∨ q = p) := by
    intro q y hy
    by_cases hq : q = p
    · subst hq
      rw [hx] at hy
      obtain rfl := Option.some.inj hy
      exact ⟨true, hsame, fun _ => .inr rfl⟩
    · refine ⟨y.normal, ?_, fun h => .inl h⟩
      have := hother q hq
      unfold HC.get_cgraph_Node at hy ⊢
      rw [this]
      exact hy
  have key : ∀ n, (∀ q u, u.nodes ≤ n → NR nh q u → NR (hput nh p (HC.cgraph_Node { x with normal := true })) q u) := by
    intro n
    induction n with
    | zero => intro q u h; have := u.nodes_pos; omega
    | succ n ih =>
      intro q u hu hq
      obtain ⟨y, e1, e2, e3, e4, e5, e6, e7, e8⟩ := hq.inv
      obtain ⟨b, f1, f2⟩ := hget q y e1
      have hlist : ∀ (ts : List Tm) (ps : List (Option Nat)), (∀ t ∈ ts, t.nodes ≤ n) → NRL nh ps ts → NRL (hput nh p (HC.cgraph_Node { x with normal := true })) ps ts := by
        intro ts
        induction ts with
        | nil => intro ps _ h; cases h; exact .nil
        | cons t ts iht =>
          intro ps hm h
          cases h with
          | cons g1 g2 => exact .cons (ih _ _ (hm t (by simp)) g1) (iht _ (fun u hu => hm u (by simp [hu])) g2)
      refine NR.of f1 e2 e3 e4 (hlist _ _ ?_ e5) e6 e7 ?_
      · intro t ht
        cases u with
        | mk k i s l =>
          rw [Tm.nodes_mk] at hu
          have := sumL_mem Tm.nodes ht
          simp only [Tm.args_mk] at this
          omega
      · intro hb
        rcases f2 hb with h | h
        · exact e8 h
        · subst h
          rw [← NR.det hr hq]
          exact hnf
  refine ⟨fun q u h => key _ q u (Nat.le_refl _) h, ?_, fun q y h => ?_⟩
  · intro q st hq
    have hne : q ≠ p := by
      rintro rfl
      have := HC.get_creduce_state_some hq
      rw [hp] at this
      cases this
    unfold HC.get_creduce_state at hq ⊢
    rw [hother q hne]
    exact hq
  · obtain ⟨b, h1, _⟩ := hget q y h
    exact ⟨b, h1⟩

/-! ### steps of terms -/
mutual
/-- The next step, with room for some nodes more: nothing if there is no room, 'some none' if there is no step. -/
def Tm.stp (room : Int) : Tm → Option (Option Tm)
  | .mk k i s l => if (Tm.mk k i s l).root = true then (if ((Tm.mk k i s l).contr.nodes : Int) - ((Tm.mk k i s l).nodes : Int) > room then none else some (some (Tm.mk k i s l).contr))
    else match Tm.stpL room l with
      | none => none
      | some none => some none
      | some (some l') => some (some (.mk k i s l'))
def Tm.stpL (room : Int) : List Tm → Option (Option (List Tm))
  | [] => some none
  | t :: l => match t.stp room with
    | none => none
    | some (some t') => some (some (t' :: l))
    | some none => match Tm.stpL room l with
      | none => none
      | some none => some none
      | some (some l') => some (some (t :: l'))
end
theorem appL_ok : ∀ (l : List Tm) (f : Tm), f.ok = true → (∀ t ∈ l, t.ok = true) → (appL f l).ok = true
  | [], f, h, _ => h
  | a :: l, f, h, hl => by
    rw [appL]
    refine appL_ok l _ ?_ fun t ht => hl t (by simp [ht])
    rw [Tm.ok_mk]
    simp only [Bool.and_eq_true, List.all_eq_true]
    refine ⟨rfl, ?_⟩
    intro x hx
    simp only [List.mem_cons, List.not_mem_nil, or_false] at hx
    rcases hx with rfl | rfl
    · exact h
    · exact hl _ (by simp)
theorem appL_least {M : Int} (hM : 0 ≤ M) : ∀ (l : List Tm) (f : Tm), f.least M = true → (∀ t ∈ l, t.least M = true) → (appL f l).least M = true
  | [], f, h, _ => h
  | a :: l, f, h, hl => by
    rw [appL]
    refine appL_least hM l _ ?_ fun t ht => hl t (by simp [ht])
    rw [Tm.least_mk]
    simp only [Bool.and_eq_true, List.all_eq_true, decide_eq_true_eq]
    refine ⟨hM, ?_⟩
    intro x hx
    simp only [List.mem_cons, List.not_mem_nil, or_false] at hx
    rcases hx with rfl | rfl
    · exact h
    · exact hl _ (by simp)
theorem Tm.ok_same {k i : Int} {s : Ty} {l m : List Tm} (h : (Tm.mk k i s l).ok = true) (hl : m.length = l.length) (hm : ∀ t ∈ m, t.ok = true) : (Tm.mk k i s m).ok = true := by
  rw [Tm.ok_mk] at h ⊢
  simp only [Bool.and_eq_true, List.all_eq_true] at h ⊢
  rw [hl]
  exact ⟨h.1, hm⟩
theorem Tm.least_same {M k i : Int} {s : Ty} {l m : List Tm} (h : (Tm.mk k i s l).least M = true) (hm : ∀ t ∈ m, t.least M = true) : (Tm.mk k i s m).least M = true := by
  rw [Tm.least_mk] at h ⊢
  simp only [Bool.and_eq_true, List.all_eq_true, decide_eq_true_eq] at h ⊢
  exact ⟨h.1, hm⟩
theorem contr_sm {M : Int} (hM : 0 ≤ M) {t : Tm} (hs : Sm M t) (hn : t.nodes ≤ 8192) (hr : t.root = true) : t.contr.ok = true ∧ t.contr.least (M + 8192) = true := by
  have hrd := Tm.rd_of hs.ok hr
  have up : ∀ u, Sm M u → u.least (M + 8192) = true := fun u hu => (hu.mono (by omega)).least
  cases hrd with
  | app =>
    rename_i i s i' s' b a
    have hsf := hs.arg (.mk 2 i' s' [b]) (by simp)
    have hsa := hs.arg a (by simp)
    have hsb := hsf.arg b (by simp)
    rw [Tm.nodes_mk] at hn
    simp only [sumL, Tm.nodes_mk] at hn
    have e : (Tm.mk 3 i s [.mk 2 i' s' [b], a]).contr = Tm.inn 0 b a := by simp [Tm.contr]
    rw [e]
    exact ⟨Tm.inn_ok a hsa.ok b 0 (by omega) hsb.ok, inn_least (M := M) (N := M) (by omega) a hsa.least b 0 (by omega) (by omega) hsb.least hsb.ok⟩
  | proj hk =>
    rename_i k i s i' s' a b
    have hsp := hs.arg (.mk 10 i' s' [a, b]) (by simp)
    rcases hk with rfl | rfl
    · have := hsp.arg a (by simp)
      simpa [Tm.contr] using And.intro this.ok (up _ this)
    · have := hsp.arg b (by simp)
      simpa [Tm.contr] using And.intro this.ok (up _ this)
  | zero hk =>
    rename_i k ko i s i' s' b st
    have hk' : k ≠ 3 ∧ k ≠ 11 ∧ k ≠ 12 := by omega
    have : (Tm.mk k i s [b, st, .mk ko i' s' []]).contr = b := by simp [Tm.contr, hk'.1, hk'.2.1, hk'.2.2]
    rw [this]
    have := hs.arg b (by simp)
    exact ⟨this.ok, up _ this⟩
  | succ =>
    rename_i i s i' s' b st n
    have h1 := hs.arg b (by simp)
    have h2 := hs.arg st (by simp)
    have h3 := (hs.arg (.mk 5 i' s' [n]) (by simp)).arg n (by simp)
    have e : (Tm.mk 6 i s [b, st, .mk 5 i' s' [n]]).contr = appL st [n, .mk 6 i s [b, st, n]] := by simp [Tm.contr, appL]
    rw [e]
    have hok : (Tm.mk 6 i s [b, st, n]).ok = true := Tm.ok_same hs.ok rfl (by intro t ht; simp only [List.mem_cons, List.not_mem_nil, or_false] at ht; rcases ht with rfl | rfl | rfl; all_goals first | exact h1.ok | exact h2.ok | exact h3.ok)
    have hle : (Tm.mk 6 i s [b, st, n]).least (M + 8192) = true := Tm.least_same (hs.mono (by omega)).least (by intro t ht; simp only [List.mem_cons, List.not_mem_nil, or_false] at ht; rcases ht with rfl | rfl | rfl; all_goals first | exact up _ h1 | exact up _ h2 | exact up _ h3)
    refine ⟨appL_ok _ _ h2.ok ?_, appL_least (by omega) _ _ (up _ h2) ?_⟩ <;>
    · intro t ht
      simp only [List.mem_cons, List.not_mem_nil, or_false] at ht
      rcases ht with rfl | rfl
      · first | exact h3.ok | exact up _ h3
      · first | exact hok | exact hle
  | cons =>
    rename_i i s i' s' b st h n
    have h1 := hs.arg b (by simp)
    have h2 := hs.arg st (by simp)
    have h3 := (hs.arg (.mk 8 i' s' [h, n]) (by simp)).arg n (by simp)
    have h4 := (hs.arg (.mk 8 i' s' [h, n]) (by simp)).arg h (by simp)
    have e : (Tm.mk 9 i s [b, st, .mk 8 i' s' [h, n]]).contr = appL st [h, n, .mk 9 i s [b, st, n]] := by simp [Tm.contr, appL]
    rw [e]
    have hok : (Tm.mk 9 i s [b, st, n]).ok = true := Tm.ok_same hs.ok rfl (by intro t ht; simp only [List.mem_cons, List.not_mem_nil, or_false] at ht; rcases ht with rfl | rfl | rfl; all_goals first | exact h1.ok | exact h2.ok | exact h3.ok)
    have hle : (Tm.mk 9 i s [b, st, n]).least (M + 8192) = true := Tm.least_same (hs.mono (by omega)).least (by intro t ht; simp only [List.mem_cons, List.not_mem_nil, or_false] at ht; rcases ht with rfl | rfl | rfl; all_goals first | exact up _ h1 | exact up _ h2 | exact up _ h3)
    refine ⟨appL_ok _ _ h2.ok ?_, appL_least (by omega) _ _ (up _ h2) ?_⟩ <;>
    · intro t ht
      simp only [List.mem_cons, List.not_mem_nil, or_false] at ht
      rcases ht with rfl | rfl | rfl
      · first | exact h4.ok | exact up _ h4
      · first | exact h3.ok | exact up _ h3
      · first | exact hok | exact hle
theorem Tm.stp_mk (room k i : Int) (s : Ty) (l : List Tm) : (Tm.mk k i s l).stp room = if (Tm.mk k i s l).root = true then (if ((Tm.mk k i s l).contr.nodes : Int) - ((Tm.mk k i s l).nodes : Int) > room then none else some (some (Tm.mk k i s l).contr))
    else match Tm.stpL room l with
      | none => none
      | some none => some none
      | some (some l') => some (some (.mk k i s l')) := by rw [Tm.stp]

/-- What a step keeps. -/
theorem stp_sm {M room : Int} (hM : 0 ≤ M) (t : Tm) : Sm M t → t.nodes ≤ 8192 → ∀ t', t.stp room = some (some t') → t'.ok = true ∧ t'.least (M + 8192) = true ∧ (t'.nodes : Int) ≤ t.nodes + room := by
  induction t using Tm.ind with
  | h k i s l ih =>
    intro hs hn t' h
    rw [Tm.stp_mk] at h
    by_cases hr : (Tm.mk k i s l).root = true
    · rw [if_pos hr] at h
      split at h
      · cases h
      · obtain rfl := Option.some.inj (Option.some.inj h)
        obtain ⟨h1, h2⟩ := contr_sm hM hs hn hr
        exact ⟨h1, h2, by omega⟩
    · rw [if_neg hr] at h
      have up : ∀ u, Sm M u → u.least (M + 8192) = true := fun u hu => (hu.mono (by omega)).least
      have hn2 := hn
      rw [Tm.nodes_mk] at hn2
      have hl : ∀ (ts ts' : List Tm), (∀ t ∈ ts, t ∈ l) → Tm.stpL room ts = some (some ts') → ts'.length = ts.length ∧ (∀ t ∈ ts', t.ok = true ∧ t.least (M + 8192) = true) ∧ (sumL Tm.nodes ts' : Int) ≤ sumL Tm.nodes ts + room := by
        intro ts
        induction ts with
        | nil => intro ts' _ h; rw [Tm.stpL] at h; cases h
        | cons t ts iht =>
          intro ts' hm h
          rw [Tm.stpL] at h
          have htl := hm t (by simp)
          have hmn := sumL_mem Tm.nodes htl
          have hst := hs.arg t htl
          split at h
          · cases h
          · rename_i u hu
            obtain rfl := Option.some.inj (Option.some.inj h)
            obtain ⟨a1, a2, a3⟩ := ih t htl hst (by omega) u hu
            refine ⟨rfl, ?_, by simp only [sumL]; omega⟩
            intro v hv
            rcases List.mem_cons.1 hv with rfl | hv
            · exact ⟨a1, a2⟩
            · have := hs.arg v (hm v (by simp [hv]))
              exact ⟨this.ok, up _ this⟩
          · split at h
            · cases h
            · cases h
            · rename_i l' hl'
              obtain rfl := Option.some.inj (Option.some.inj h)
              obtain ⟨a1, a2, a3⟩ := iht l' (fun u hu => hm u (by simp [hu])) hl'
              refine ⟨by simp [a1], ?_, by simp only [sumL]; omega⟩
              intro v hv
              rcases List.mem_cons.1 hv with rfl | hv
              · exact ⟨hst.ok, up _ hst⟩
              · exact a2 v hv
      split at h
      · cases h
      · cases h
      · rename_i l' hl'
        obtain rfl := Option.some.inj (Option.some.inj h)
        obtain ⟨a1, a2, a3⟩ := hl l l' (fun t h => h) hl'
        refine ⟨Tm.ok_same hs.ok a1 fun t ht => (a2 t ht).1, Tm.least_same (hs.mono (by omega)).least fun t ht => (a2 t ht).2, ?_⟩
        rw [Tm.nodes_mk, Tm.nodes_mk]
        omega
/-- There is no step exactly if there is no redex. -/
theorem stp_nf (room : Int) (t : Tm) : t.nf = true ↔ t.stp room = some none := by
  induction t using Tm.ind with
  | h k i s l ih =>
    rw [Tm.nf_mk, Tm.stp_mk]
    have hl : ∀ ts : List Tm, (∀ t ∈ ts, t ∈ l) → (ts.all Tm.nf = true ↔ Tm.stpL room ts = some none) := by
      intro ts
      induction ts with
      | nil => intro _; simp [Tm.stpL]
      | cons t ts iht =>
        intro hm
        have h1 := ih t (hm t (by simp))
        have h2 := iht fun u hu => hm u (by simp [hu])
        rw [List.all_cons, Bool.and_eq_true, h1, h2, Tm.stpL]
        constructor
        · rintro ⟨e1, e2⟩; rw [e1, e2]
        · intro h
          split at h
          · cases h
          · cases h
          · rename_i e1
            split at h
            · cases h
            · rename_i e2; exact ⟨e1, e2⟩
            · cases h
    have := hl l fun t h => h
    by_cases hr : (Tm.mk k i s l).root = true
    · rw [if_pos hr, hr]
      simp
      try (split <;> simp)
    · rw [if_neg hr]
      simp only [Bool.and_eq_true, Bool.not_eq_true', this]
      constructor
      · rintro ⟨_, e⟩; rw [e]
      · intro h
        refine ⟨by simpa using hr, ?_⟩
        split at h
        · cases h
        · rename_i e; exact e
        · cases h
end Go.Mdl
