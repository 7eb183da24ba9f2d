/-
  Lifting, counting and putting of nodes; what a redex becomes.
-/
import Derived.Test.YtnabbjnhemmkhaaDoorQa
set_option linter.unusedSimpArgs false
set_option linter.unusedVariables false
namespace Go.Mdl
open Go

theorem get_ge {nh : List HC} {p : Nat} {x : Sgraph_Node} (h : HC.get_cgraph_Node nh p = some x) : graph_Node_below (some p) nh = some (lamB x.kind) := by
  unfold graph_Node_below lamB
  simp only [bind1_of, h, ieq_iff]
  split <;> rfl
theorem NE.below {nh nh' : List HC} {p : Nat} {x : Sgraph_Node} (he : NE nh nh') (h : HC.get_cgraph_Node nh p = some x) : graph_Node_below (some p) nh' = some (lamB x.kind) := by
  obtain ⟨b, e⟩ := he.get p x h
  rw [get_ge e]

/-- Nodes that are made one after the other. -/
theorem nodes_loop {F : Int → Option Nat → List (Option Nat) × List HC → Option (Ctl (List (Option Nat) × List HC) ((Option Nat) × List HC))} (g : Tm → Tm) (nh0 : List HC) : ∀ (ts : List Tm)
    (_ : ∀ t ∈ ts, ∀ p nh j v, Kp nh0 nh → NR nh p t → v.length + 1 ≤ 1000000000 → ∃ q nh', F j (some p) (v, nh) = some (.next (v ++ [some q], nh')) ∧ Kp nh nh' ∧ NR nh' q (g t))
    (ps : List (Option Nat)) (i : Nat) (nh : List HC) (v : List (Option Nat)) (us : List Tm), Kp nh0 nh → NRL nh ps ts → NRL nh v us → v.length + ts.length ≤ 1000000000 →
      ∃ v' nh', forR F ps i (v, nh) = some (.inl (v', nh')) ∧ Kp nh nh' ∧ NRL nh' v' (us ++ ts.map g)
  | [], _, _, i, nh, v, us, _, .nil, hv, _ => ⟨v, nh, rfl, Kp.refl _, by simpa using hv⟩
  | t :: ts, hF, _, i, nh, v, us, hk, .cons (p := p) (ps := ps) h1 h2, hv, hb => by
    simp only [List.length_cons] at hb
    obtain ⟨q, nh1, e1, e2, e3⟩ := hF t (by simp) p nh i v hk h1 (by omega)
    have hne := NE.kp e2
    obtain ⟨v', nh', f1, f2, f3⟩ := nodes_loop g nh0 ts (fun t ht => hF t (by simp [ht])) ps (i + 1) nh1 (v ++ [some q]) (us ++ [g t]) (hk.trans e2) (hne.list h2) ((hne.list hv).append (.cons e3 .nil)) (by simp; omega)
    refine ⟨v', nh', ?_, e2.trans f2, by simpa using f3⟩
    rw [forR_cons, e1]
    simp only [bind1_of, ctlK_next]
    exact f1

/-- What is asked of a term: it has a form, and its indices and nodes are not too many. -/
structure Sm (M : Int) (t : Tm) : Prop where
  ok : t.ok = true
  least : t.least M = true
  nodes : t.nodes ≤ 1000000
theorem Sm.arg {M : Int} {k i : Int} {s : Ty} {l : List Tm} (h : Sm M (.mk k i s l)) : ∀ t ∈ l, Sm M t := by
  intro t ht
  have h1 := h.least
  have h2 := h.nodes
  rw [Tm.least_mk] at h1
  simp only [Bool.and_eq_true, List.all_eq_true] at h1
  rw [Tm.nodes_mk] at h2
  exact ⟨(Tm.ok_inv h.ok).2.2.2.1 t ht, h1.2 t ht, by have := sumL_mem Tm.nodes ht; omega⟩
theorem Sm.idx {M : Int} {k i : Int} {s : Ty} {l : List Tm} (h : Sm M (.mk k i s l)) : 0 ≤ i ∧ i ≤ M := by
  have h1 := h.least
  rw [Tm.least_mk] at h1
  simp only [Bool.and_eq_true, decide_eq_true_eq] at h1
  exact ⟨(Tm.ok_inv h.ok).2.1, h1.1⟩
theorem Sm.fr {M : Int} {t : Tm} (h : Sm M t) (hM : 0 ≤ M) : 0 ≤ t.fr ∧ t.fr ≤ M + 1 := Tm.fr_bd t hM h.ok h.least
theorem Sm.mono {M N : Int} {t : Tm} (h : Sm M t) (hm : M ≤ N) : Sm N t := ⟨h.ok, by
  have : ∀ t : Tm, t.least M = true → t.least N = true := by
    intro t
    induction t using Tm.ind with
    | h k i s l ih =>
      rw [Tm.least_mk, Tm.least_mk]
      simp only [Bool.and_eq_true, List.all_eq_true, decide_eq_true_eq]
      exact fun ⟨h1, h2⟩ => ⟨by omega, fun x hx => ih x hx (h2 x hx)⟩
  exact this t h.least, h.nodes⟩
theorem up_least {M b : Int} (hb : 0 ≤ b) (t : Tm) : ∀ f, t.least M = true → (t.up f b).least (M + b) = true := by
  induction t using Tm.ind with
  | h k i s l ih =>
    intro f h
    rw [Tm.least_mk] at h
    simp only [Bool.and_eq_true, List.all_eq_true, decide_eq_true_eq] at h
    rw [Tm.up_mk, Tm.least_mk]
    simp only [Bool.and_eq_true, List.all_eq_true, decide_eq_true_eq]
    refine ⟨by split <;> omega, ?_⟩
    intro x hx
    obtain ⟨y, hy, rfl⟩ := List.mem_map.1 hx
    exact ih y hy _ (h.2 y hy)
theorem Sm.up {M f b : Int} {t : Tm} (h : Sm M t) (hf : 0 ≤ f) (hb : 0 ≤ b) : Sm (M + b) (t.up f b) :=
  ⟨by rw [Tm.up_ok t f b hf hb]; exact h.ok, up_least hb t f h.least, by rw [Tm.up_nodes]; exact h.nodes⟩

theorem lift_eq {M : Int} (hM : 0 ≤ M ∧ M ≤ 500000000000) : ∀ (n : Nat) (t : Tm) (p : Nat) (nh : List HC) (f b : Int), t.nodes ≤ n → NR nh p t → Sm M t → 0 ≤ f → f + t.nodes ≤ 500000000000 → 0 ≤ b → b ≤ 400000000000 →
    ∃ p' nh', graph_Node_lift n (some p) f b nh = some (some p', nh') ∧ Kp nh nh' ∧ NR nh' p' (t.up f b) := by
  intro n
  induction n with
  | zero => intro t p nh f b h; have := t.nodes_pos; omega
  | succ n ih =>
    intro t p nh f b hn hr hs hf hfn hb hb2
    obtain ⟨x, e1, e2, e3, e4, e5, e6, e7, e8⟩ := hr.inv
    have hfr := hs.fr hM.1
    rw [graph_Node_lift]
    simp only [joinB_eq, bind1_of, e1, e7, ile_iff]
    by_cases h1 : t.fr ≤ f
    · rw [if_pos h1]
      exact ⟨p, nh, rfl, Kp.refl _, by rw [Tm.up_none t f b hs.ok hf h1]; exact hr⟩
    · rw [if_neg h1]
      by_cases h2 : b = 0
      · subst h2
        exact ⟨p, nh, by simp, Kp.refl _, by rw [Tm.up_zero]; exact hr⟩
      · rw [if_neg (by simpa using h2)]
        cases t with
        | mk k i s l =>
          simp only [Tm.kind_mk, Tm.index_mk, Tm.typeF_mk, Tm.args_mk] at e2 e3 e4 e5
          have hidx := hs.idx
          obtain ⟨o1, o2, o3, o4, o5⟩ := Tm.ok_inv hs.ok
          by_cases hk : k = 1
          · subst hk
            have hl := o1 rfl
            subst hl
            rw [if_pos (by rw [e2]; rfl)]
            have hfi : f ≤ i := by rw [Tm.fr, if_pos rfl] at h1; omega
            obtain ⟨nh', g1, g2, g3⟩ := build_eq (k := 1) (i := i + b) (s := s) (ps := []) (ts := []) (nh := nh) .nil (by simp [sumL]) (by omega) (by simp)
            refine ⟨nh.length, nh', ?_, g2, ?_⟩
            · rw [e2, e3, e4, iadd_in (by omega) (by omega), g1]
              rfl
            · rw [Tm.up_mk, if_pos ⟨rfl, hfi⟩]
              exact g3
          · rw [if_neg (by rw [e2]; simpa using hk)]
            have hnl : 1 + sumL Tm.nodes l ≤ n + 1 := by rw [Tm.nodes_mk] at hn; exact hn
            have hlen := Tm.len_nodes l
            have hsn := hs.nodes
            rw [Tm.nodes_mk] at hsn hfn
            have hpl : x.args.length = l.length := e5.len
            rw [okLen_of (by omega)]
            simp only [chk_true]
            have hlb := lamB_bd k
            obtain ⟨v', nh', g1, g2, g3⟩ := nodes_loop (F := fun j x_1 => un2 fun v365 v366 =>
                bind1 (graph_Node_below (some p) v366) fun x425 =>
                bind2 (graph_Node_lift n x_1 (iadd .i64 f x425) b v366) fun x428 nh429 =>
                chk (okApp v365 [x428]) <|
                some (.next ((lapp v365 [x428]), nh429))) (Tm.up (f + lamB k) b) nh l (by
                intro t ht q nh1 j v hk1 hq hv
                have hst := hs.arg t ht
                have hm := sumL_mem Tm.nodes ht
                obtain ⟨q', nh2, a1, a2, a3⟩ := ih t q nh1 (f + lamB k) b (by omega) hq hst (by omega) (by omega) hb hb2
                refine ⟨q', nh2, ?_, a2, a3⟩
                simp only [un2_mk, (NE.kp hk1).below e1, bind1_of, e2]
                rw [iadd_in (by omega) (by omega), a1]
                simp only [bind2_of]
                rw [okApp_of (by simpa using hv)]
                rfl) x.args 0 nh [] [] (Kp.refl _) e5 .nil (by simp; omega)
            rw [g1]
            simp only [bind1_of, sumK_inl, un2_mk]
            obtain ⟨x2, c1⟩ := (NE.kp g2).get p x e1
            unfold graph_Node_with
            simp only [bind1_of, c1]
            obtain ⟨nh3, d1, d2, d3⟩ := build_eq (k := k) (i := i) (s := s) (ps := v') (ts := l.map (Tm.up (f + lamB k) b)) (nh := nh') (by simpa using g3) (by
              rw [sumL_map, sumL_congr fun x _ => Tm.up_nodes x _ _]; omega) (by omega) (by
              intro t ht
              obtain ⟨y, hy, rfl⟩ := List.mem_map.1 ht
              have := ((hs.arg y hy).up (f := f + lamB k) (b := b) (by omega) hb).fr (by omega)
              omega)
            refine ⟨nh'.length, nh3, ?_, g2.trans d2, ?_⟩
            · rw [e2, e3, e4, d1]
              rfl
            · rw [Tm.up_mk, if_neg (fun h => hk h.1)]
              exact d3

theorem count_eq {M : Int} (hM : 0 ≤ M ∧ M ≤ 500000000000) (nh : List HC) : ∀ (n : Nat) (t : Tm) (p : Nat) (a : Int), t.nodes ≤ n → NR nh p t → Sm M t → 0 ≤ a → a + t.nodes ≤ 500000000000 →
    graph_Node_count n (some p) a nh = some (t.times a : Int) := by
  intro n
  induction n with
  | zero => intro t p a h; have := t.nodes_pos; omega
  | succ n ih =>
    intro t p a hn hr hs ha han
    obtain ⟨x, e1, e2, e3, e4, e5, e6, e7, e8⟩ := hr.inv
    rw [graph_Node_count]
    simp only [bind1_of, e1, e7, ile_iff]
    by_cases h1 : t.fr ≤ a
    · rw [if_pos h1, Tm.times_none t a hs.ok ha h1]
      rfl
    · rw [if_neg h1]
      cases t with
      | mk k i s l =>
        simp only [Tm.kind_mk, Tm.index_mk, Tm.typeF_mk, Tm.args_mk] at e2 e3 e4 e5
        obtain ⟨o1, o2, o3, o4, o5⟩ := Tm.ok_inv hs.ok
        by_cases hk : k = 1
        · subst hk
          have hl := o1 rfl
          subst hl
          rw [if_pos (by rw [e2]; rfl), Tm.times_mk, e3]
          simp only [ieq_iff, sumL]
          by_cases h2 : i = a
          · rw [if_pos h2, if_pos ⟨trivial, h2⟩]; rfl
          · rw [if_neg h2, if_neg (fun h => h2 h.2)]; rfl
        · rw [if_neg (by rw [e2]; simpa using hk)]
          have hsn := hs.nodes
          rw [Tm.nodes_mk] at hsn han hn
          have hlen := Tm.len_nodes l
          have hpl : x.args.length = l.length := e5.len
          rw [okLen_of (by omega)]
          simp only [chk_true, joinB_eq]
          have hlb := lamB_bd k
          have loop : ∀ (ts : List Tm) (ps : List (Option Nat)) (i c : Nat), (∀ t ∈ ts, t ∈ l) → NRL nh ps ts → c + sumL Tm.nodes ts ≤ 1000000000 →
              forR (fun (j219 : Int) (x221 : (Option Nat)) => (fun (v306 : Int) =>
                bind1 (graph_Node_count n x221 (a + lamB k) nh) fun x365 =>
                some ((.next (iadd .i64 v306 x365)) : Ctl Int Int))) ps i (c : Int) = some (.inl ((c + sumL (Tm.times (a + lamB k)) ts : Nat) : Int)) := by
            intro ts
            induction ts with
            | nil => intro ps i c _ h _; cases h; rfl
            | cons t ts iht =>
              intro ps i c hm h hc
              cases h with
              | cons q1 q2 =>
                rw [sumL] at hc
                have htl := hm t (by simp)
                have hmn := sumL_mem Tm.nodes htl
                have htt := Tm.times_nodes t (a + lamB k)
                rw [forR_cons]
                rw [ih t _ _ (by omega) q1 (hs.arg t htl) (by omega) (by omega)]
                simp only [bind1_of]
                rw [iadd_in (by omega) (by omega)]
                simp only [ctlK_next]
                have := iht _ (i + 1) (c + t.times (a + lamB k)) (fun u hu => hm u (by simp [hu])) q2 (by omega)
                rw [show ((c + t.times (a + lamB k) : Nat) : Int) = (c : Int) + (t.times (a + lamB k) : Int) by omega] at this
                rw [this]
                simp only [sumL, Nat.add_assoc]
          have := loop l x.args 0 0 (fun t h => h) e5 (by omega)
          rw [show ((0 : Nat) : Int) = 0 from rfl] at this
          have hadd : iadd .i64 a (lamB k) = a + lamB k := iadd_in (by omega) (by omega)
          simp only [get_ge e1, bind1_of, e2, hadd]
          rw [this]
          simp only [bind1_of, sumK_inl, Nat.zero_add]
          rw [Tm.times_mk, if_neg (fun h => hk h.1), Nat.zero_add]

/-- What a term becomes has indices that are not too great. -/
theorem inn_least {M N B : Int} (hB : M ≤ B) (s : Tm) (hs : s.least N = true) (t : Tm) : ∀ n, 0 ≤ n → N + n + t.nodes ≤ B → t.least M = true → t.ok = true → (Tm.inn n t s).least B = true := by
  induction t using Tm.ind with
  | h k i ty l ih =>
    intro n hn hnB hl ho
    have hl0 := hl
    rw [Tm.least_mk] at hl
    simp only [Bool.and_eq_true, List.all_eq_true, decide_eq_true_eq] at hl
    obtain ⟨o1, o2, o3, o4, o5⟩ := Tm.ok_inv ho
    rw [Tm.inn_mk]
    have hmono : ∀ (u : Tm) {a b : Int}, a ≤ b → u.least a = true → u.least b = true := by
      intro u
      induction u using Tm.ind with
      | h k i s l ih =>
        intro a b hab
        rw [Tm.least_mk, Tm.least_mk]
        simp only [Bool.and_eq_true, List.all_eq_true, decide_eq_true_eq]
        exact fun ⟨h1, h2⟩ => ⟨by omega, fun x hx => ih x hx hab (h2 x hx)⟩
    have hp : 1 ≤ (Tm.mk k i ty l).nodes := Tm.nodes_pos _
    by_cases hk : k = 1
    · rw [if_pos hk]
      unfold Tm.innVar
      split
      · exact hmono _ (by omega) (up_least hn s 0 hs)
      · split
        · rw [Tm.least_mk]; simp; omega
        · exact hmono _ (by omega) hl0
    · rw [if_neg hk, Tm.least_mk]
      simp only [Bool.and_eq_true, List.all_eq_true, decide_eq_true_eq]
      refine ⟨by omega, ?_⟩
      intro x hx
      obtain ⟨y, hy, rfl⟩ := List.mem_map.1 hx
      have hlb := lamB_bd k
      have hm := sumL_mem Tm.nodes hy
      rw [Tm.nodes_mk] at hnB
      exact ih y hy (n + lamB k) (by omega) (by omega) (hl.2 y hy) (o4 y hy)

theorem put_eq {M N : Int} (hM : 0 ≤ M ∧ M ≤ 100000000000) (hN : 0 ≤ N ∧ N ≤ 100000000000) (s : Tm) (hss : Sm N s) : ∀ (n : Nat) (t : Tm) (p q : Nat) (nh : List HC) (a : Int), t.nodes ≤ n → NR nh p t → NR nh q s → Sm M t → 0 ≤ a → a + t.nodes ≤ 100000000000 →
    t.nodes + t.times a * s.nodes ≤ 100000000 →
    ∃ p' nh', graph_Node_put n (some p) a (some q) nh = some (some p', nh') ∧ Kp nh nh' ∧ NR nh' p' (Tm.inn a t s) := by
  intro n
  induction n with
  | zero => intro t p q nh a h; have := t.nodes_pos; omega
  | succ n ih =>
    intro t p q nh a hn hr hq hs ha han hbig
    obtain ⟨x, e1, e2, e3, e4, e5, e6, e7, e8⟩ := hr.inv
    rw [graph_Node_put]
    simp only [bind1_of, e1, e7, ile_iff]
    by_cases h1 : t.fr ≤ a
    · rw [if_pos h1]
      exact ⟨p, nh, rfl, Kp.refl _, by rw [Tm.inn_none s t a hs.ok ha h1]; exact hr⟩
    · rw [if_neg h1]
      cases t with
      | mk k i ty l =>
        simp only [Tm.kind_mk, Tm.index_mk, Tm.typeF_mk, Tm.args_mk] at e2 e3 e4 e5
        have hidx := hs.idx
        obtain ⟨o1, o2, o3, o4, o5⟩ := Tm.ok_inv hs.ok
        by_cases hk : k = 1
        · subst hk
          have hl := o1 rfl
          subst hl
          have hfi : a ≤ i := by rw [Tm.fr, if_pos rfl] at h1; omega
          rw [if_pos (by rw [e2]; rfl), e3]
          simp only [ieq_iff]
          rw [Tm.inn_mk, if_pos rfl]
          unfold Tm.innVar
          by_cases h2 : i = a
          · rw [if_pos h2, if_pos h2]
            have hsn := hss.nodes
            obtain ⟨p', nh', g1, g2, g3⟩ := lift_eq (M := N) (by omega) FU s q nh 0 a (by rw [FU_eq]; omega) hq hss (by omega) (by omega) ha (by omega)
            exact ⟨p', nh', by rw [g1]; rfl, g2, g3⟩
          · rw [if_neg h2, if_neg h2, if_pos (by omega)]
            obtain ⟨nh', g1, g2, g3⟩ := build_eq (k := 1) (i := i - 1) (s := ty) (ps := []) (ts := []) (nh := nh) .nil (by simp [sumL]) (by omega) (by simp)
            refine ⟨nh.length, nh', ?_, g2, ?_⟩
            · rw [e2, e4, isub_in (by omega) (by omega), g1]
              rfl
            · have hz : ty = .mk 0 [] := by
                have := hs.ok
                rw [Tm.ok_mk] at this
                simp only [Bool.and_eq_true, Tm.node] at this
                have h4 : ty.zeroB = true := by simpa [typedB] using this.1.2
                exact (Ty.zeroB_iff ty).1 h4
              rw [← hz]
              exact g3
        · rw [if_neg (by rw [e2]; simpa using hk)]
          have hsn := hs.nodes
          rw [Tm.nodes_mk] at hsn han hn
          have hlen := Tm.len_nodes l
          have hpl : x.args.length = l.length := e5.len
          rw [okLen_of (by omega)]
          simp only [chk_true, joinB_eq]
          have hlb := lamB_bd k
          rw [Tm.times_mk, if_neg (fun h => hk h.1), Nat.zero_add, Tm.nodes_mk] at hbig
          have htm : ∀ t ∈ l, t.nodes + t.times (a + lamB k) * s.nodes ≤ 100000000 := by
            intro t ht
            have h1 := sumL_mem Tm.nodes ht
            have h2 := sumL_mem (Tm.times (a + lamB k)) ht
            have h3 := Nat.mul_le_mul_right s.nodes h2
            omega
          obtain ⟨v', nh', g1, g2, g3⟩ := nodes_loop (F := fun j x_1 => un2 fun v397 v398 =>
              bind1 (graph_Node_below (some p) v398) fun x457 =>
              bind2 (graph_Node_put n x_1 (iadd .i64 a x457) (some q) v398) fun x460 nh461 =>
              chk (okApp v397 [x460]) <|
              some (.next ((lapp v397 [x460]), nh461))) (fun t => Tm.inn (a + lamB k) t s) nh l (by
              intro t ht r nh1 j v hk1 hr1 hv
              have hst := hs.arg t ht
              have hm := sumL_mem Tm.nodes ht
              obtain ⟨q', nh2, a1, a2, a3⟩ := ih t r q nh1 (a + lamB k) (by omega) hr1 ((NE.kp hk1).node _ _ hq) hst (by omega) (by omega) (htm t ht)
              refine ⟨q', nh2, ?_, a2, a3⟩
              simp only [un2_mk, (NE.kp hk1).below e1, bind1_of, e2]
              rw [iadd_in (by omega) (by omega), a1]
              simp only [bind2_of]
              rw [okApp_of (by simpa using hv)]
              rfl) x.args 0 nh [] [] (Kp.refl _) e5 .nil (by simp; omega)
          rw [g1]
          simp only [bind1_of, sumK_inl, un2_mk]
          obtain ⟨x2, c1⟩ := (NE.kp g2).get p x e1
          unfold graph_Node_with
          simp only [bind1_of, c1]
          have hinn : ∀ t ∈ l, (Tm.inn (a + lamB k) t s).nodes ≤ t.nodes + t.times (a + lamB k) * s.nodes := by
            intro t ht
            have := Tm.inn_nodes s t (a + lamB k) (o4 t ht)
            omega
          obtain ⟨nh3, d1, d2, d3⟩ := build_eq (k := k) (i := i) (s := ty) (ps := v') (ts := l.map (fun t => Tm.inn (a + lamB k) t s)) (nh := nh') (by simpa using g3) (by
            rw [sumL_map]
            have h1 := sumL_le hinn
            have h2 : ∀ l : List Tm, sumL (fun t => t.nodes + t.times (a + lamB k) * s.nodes) l = sumL Tm.nodes l + sumL (Tm.times (a + lamB k)) l * s.nodes := by
              intro l
              induction l with
              | nil => simp [sumL]
              | cons t l ih => simp only [sumL, ih, Nat.add_mul]; omega
            rw [h2] at h1
            omega) (by omega) (by
            intro t ht
            obtain ⟨y, hy, rfl⟩ := List.mem_map.1 ht
            have hm := sumL_mem Tm.nodes hy
            have := Tm.fr_bd (Tm.inn (a + lamB k) y s) (M := M + N + (a + lamB k) + y.nodes) (by omega) (Tm.inn_ok s hss.ok y _ (by omega) (o4 y hy)) (inn_least (M := M) (by omega) s hss.least y _ (by omega) (by omega) (hs.arg y hy).least (o4 y hy))
            omega)
          refine ⟨nh'.length, nh3, ?_, g2.trans d2, ?_⟩
          · rw [e2, e3, e4, d1]
            rfl
          · rw [Tm.inn_mk, if_neg hk]
            exact d3
end Go.Mdl
