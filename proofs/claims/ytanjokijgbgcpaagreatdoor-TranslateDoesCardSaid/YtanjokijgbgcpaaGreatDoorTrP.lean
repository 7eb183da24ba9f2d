/-
  The translation of formulas: both forms are the same.
-/
import Derived.Test.YtanjokijgbgcpaaGreatDoorUh
import Derived.Test.YtanjokijgbgcpaaGreatDoorUm
import Derived.Test.YtanjokijgbgcpaaGreatDoorPn
set_option maxRecDepth 20000
set_option linter.unusedSimpArgs false
set_option linter.unusedVariables false
namespace Go.Mdl
open Go

theorem map_id' {α : Type} {g : α → α} {l : List α} (h : ∀ x ∈ l, g x = x) : l.map g = l := by
  induction l with
  | nil => rfl
  | cons x l ih => simp only [List.map_cons, h x (by simp), ih fun y hy => h y (by simp [hy])]
theorem Tm.up_zero (t : Tm) : ∀ f, t.up f 0 = t := by
  induction t using Tm.ind with
  | h k i s l ih =>
    intro f
    rw [Tm.up_mk, map_id' fun x hx => ih x hx _]
    congr 1
    split <;> omega
theorem Tm.up_add (f b c : Int) (hb : 0 ≤ b) : ∀ (t : Tm) (d : Int), (t.up (f + d) b).up (f + d) c = t.up (f + d) (b + c) := by
  intro t
  induction t using Tm.ind with
  | h k i s l ih =>
    intro d
    rw [Tm.up_mk, Tm.up_mk, Tm.up_mk]
    congr 1
    · by_cases hc : k = 1 ∧ f + d ≤ i
      · rw [if_pos hc, if_pos ⟨hc.1, by omega⟩]
        omega
      · rw [if_neg hc, if_neg hc, if_neg hc]
    · rw [List.map_map]
      exact List.map_congr_left fun x hx => by
        have := ih x hx (d + lamB k)
        rw [show f + (d + lamB k) = f + d + lamB k by omega] at this
        exact this
theorem Fm.up_add (f b c : Int) (hb : 0 ≤ b) : ∀ (t : Fm) (d : Int), (t.up (f + d) b).up (f + d) c = t.up (f + d) (b + c) := by
  intro t
  induction t using Fm.ind with
  | h k s ts l ih =>
    intro d
    rw [Fm.up_mk, Fm.up_mk, Fm.up_mk]
    congr 1
    · rw [List.map_map]
      exact List.map_congr_left fun x _ => Tm.up_add f b c hb x d
    · rw [List.map_map]
      exact List.map_congr_left fun x hx => by
        have := ih x hx (d + qB k)
        rw [show f + (d + qB k) = f + d + qB k by omega] at this
        exact this
theorem Fm.up_up0 (t : Fm) {b c : Int} (hb : 0 ≤ b) : (t.up 0 b).up 0 c = t.up 0 (b + c) := by
  have := Fm.up_add 0 b c hb t 0
  rwa [Int.add_zero] at this
theorem Fm.up_zero0 (t : Fm) : ∀ f, t.up f 0 = t := by
  induction t using Fm.ind with
  | h k s ts l ih =>
    intro f
    rw [Fm.up_mk]
    congr 1
    · rw [List.map_congr_left (g := id) fun x _ => Tm.up_zero x _]
      simp
    · rw [List.map_congr_left (g := id) fun x hx => ih x hx _]
      simp
theorem Fm.up_zero (t : Fm) : t.up 0 0 = t := Fm.up_zero0 t 0
theorem up_least {M b : Int} (hb : 0 ≤ b) (t : Tm) : ∀ f, t.least M = true → (t.up f b).least (M + b) = true := by
  induction t using Tm.ind with
  | h k i s l ih =>
    intro f h
    rw [Tm.least_mk] at h
    simp only [Bool.and_eq_true, List.all_eq_true, decide_eq_true_eq] at h
    rw [Tm.up_mk, Tm.least_mk]
    simp only [Bool.and_eq_true, List.all_eq_true, decide_eq_true_eq]
    refine ⟨by split <;> omega, ?_⟩
    intro x hx
    obtain ⟨y, hy, rfl⟩ := List.mem_map.1 hx
    exact ih y hy _ (h.2 y hy)
theorem Fm.up_least {M b : Int} (hb : 0 ≤ b) (t : Fm) : ∀ f, t.least M = true → (t.up f b).least (M + b) = true := by
  induction t using Fm.ind with
  | h k s ts l ih =>
    intro f h
    rw [Fm.least_mk] at h
    simp only [Bool.and_eq_true, List.all_eq_true] at h
    rw [Fm.up_mk, Fm.least_mk]
    simp only [Bool.and_eq_true, List.all_eq_true, List.mem_map, forall_exists_index, and_imp]
    refine ⟨?_, ?_⟩
    · rintro _ x hx rfl
      exact _root_.Go.Mdl.up_least hb x f (h.1 x hx)
    · rintro _ x hx rfl
      exact ih x hx _ (h.2 x hx)
theorem uniform_fun : ∀ n, translate_uniform n = ref20_uniform n := by
  intro n
  induction n with
  | zero => funext a; rfl
  | succ n ih => funext a; rw [translate_uniform, ref20_uniform, ih]
/-- A formula whose answers below variables can be had. -/
structure Ans (a : Fm) : Prop where
  ok : a.ok = true
  nodes : a.nodes ≤ 4096
  least : a.least 536870912 = true
theorem Ans.up {a : Fm} (h : Ans a) {k : Nat} : (a.up 0 k).ok = true ∧ (a.up 0 k).nodes = a.nodes ∧ (a.up 0 k).least (536870912 + k) = true := ⟨by rw [Fm.up_ok _ _ _ (by omega) (by omega)]; exact h.ok, Fm.up_nodes _ _ _, Fm.up_least (by omega) a 0 h.least⟩
theorem ans_eq {a : Fm} (h : Ans a) : ∀ (k : Nat), k ≤ 10000000 → tr_ans k a = some (a.up 0 k)
  | 0, _ => by rw [tr_ans]; exact congrArg some (Fm.up_zero a).symm
  | k + 1, hk => by
    obtain ⟨h1, h2, h3⟩ := h.up (k := k)
    rw [tr_ans, ans_eq h k (by omega)]
    simp only [bind1_of]
    rw [tree_LiftFormula_eq h1 (by have := h.nodes; omega) (Fm.least_mono _ (by omega) h3) (by omega) (by omega) (by omega) (by omega), Fm.up_up0 a (by omega)]
    rfl
theorem ref_up_eq {a : Fm} (h : Ans a) {k : Nat} (hk : k ≤ 10000000) : ref20_up (a.up 0 k) = some (a.up 0 ((k + 1 : Nat) : Int)) := by
  obtain ⟨h1, h2, h3⟩ := h.up (k := k)
  have := h.nodes
  unfold ref20_up
  rw [ref07_Up_eq FU (a.up 0 k) 0 1 (by rw [FU_eq]; omega) (by omega) (by omega) (by omega) (by omega) (by omega) (Fm.least_mono _ (by omega) h3), Fm.up_up0 a (by omega)]
  rfl
mutual
/-- How many nodes a translation has, with an answer of c nodes. -/
def Fm.tr (c : Nat) : Fm → Nat
  | .mk k _ ts l => if k = 1 then 3 + sumL Tm.nodes ts + 2 * c else if k = 5 then 3 + 2 * c + Fm.trL c l else 1 + Fm.trL c l
def Fm.trL (c : Nat) : List Fm → Nat
  | [] => 0
  | x :: l => Fm.tr c x + Fm.trL c l
end
theorem Fm.tr_mk (c : Nat) (k : Int) (s : Ty) (ts : List Tm) (l : List Fm) : (Fm.mk k s ts l).tr c = if k = 1 then 3 + sumL Tm.nodes ts + 2 * c else if k = 5 then 3 + 2 * c + Fm.trL c l else 1 + Fm.trL c l := by rw [Fm.tr]
theorem Fm.trL_one (c : Nat) (x : Fm) : Fm.trL c [x] = x.tr c := by simp [Fm.trL]
theorem Fm.trL_two (c : Nat) (x y : Fm) : Fm.trL c [x, y] = x.tr c + y.tr c := by simp [Fm.trL]
mutual
/-- Whether a formula has a uniform quantifier. -/
def Fm.uni : Fm → Bool
  | .mk k _ _ l => decide (k = 6 ∨ k = 7) || Fm.uniL l
def Fm.uniL : List Fm → Bool
  | [] => false
  | x :: l => Fm.uni x || Fm.uniL l
end
theorem Fm.uni_mk (k : Int) (s : Ty) (ts : List Tm) (l : List Fm) : (Fm.mk k s ts l).uni = (decide (k = 6 ∨ k = 7) || Fm.uniL l) := by rw [Fm.uni]
theorem trTwo_ok {k : Int} {x y : Fm} (hk : k = 2 ∨ k = 3) (hx : x.ok = true) (hy : y.ok = true) : (Fm.mk k (Ty.mk 0 []) [] [x, y]).ok = true := by
  rw [Fm.ok_mk]
  rcases hk with rfl | rfl <;> simp [hx, hy, Fm.node, Ty.zeroB_iff]
theorem trQ_ok {s : Ty} {x : Fm} (hs : s.err = 0) (hx : x.ok = true) : (Fm.mk 4 s [] [x]).ok = true := by
  rw [Fm.ok_mk]
  simp [hx, hs, Fm.node, quantB]
theorem trTwo_nodes {k : Int} {s : Ty} {x y : Fm} : (Fm.mk k s [] [x, y]).nodes = 1 + x.nodes + y.nodes := by rw [Fm.nodes_mk]; simp [sumL]; omega
theorem trQ_nodes {k : Int} {s : Ty} {x : Fm} : (Fm.mk k s [] [x]).nodes = 1 + x.nodes := by rw [Fm.nodes_mk]; simp [sumL]
theorem trSmall_wt {x : Fm} (hx : x.ok = true) (hn : x.nodes ≤ 10000000) : x.wt ≤ 1000000000 := by have := Fm.ok_wt x hx; omega
theorem trImp_both {x y : Fm} (hx : x.ok = true) (hy : y.ok = true) (hxn : x.nodes ≤ 10000000) (hyn : y.nodes ≤ 10000000) :
    translate_imp x y = some (Fm.mk 3 (Ty.mk 0 []) [] [x, y]) ∧ ref20_imp x y = some (Fm.mk 3 (Ty.mk 0 []) [] [x, y]) := by
  refine ⟨rfl, ?_⟩
  unfold ref20_imp
  rw [Two_eq (trSmall_wt hx hxn) (trSmall_wt hy hyn)]
  rfl
theorem trQ_both {s : Ty} {x : Fm} (hs : s.err = 0) (hx : x.ok = true) (hxn : x.nodes ≤ 10000000) : tree_Quantified 4 s x = some (Fm.mk 4 s [] [x]) ∧ ref07_Q 4 s x = some (Fm.mk 4 s [] [x]) := by
  refine ⟨rfl, ?_⟩
  have := (Ty.err_zero hs).2
  unfold ref07_Q
  rw [ref01_Copy' (by omega), ref07_Copy' (trSmall_wt hx hxn)]
  rfl
def TEq (a f : Fm) : Prop := f.uni = false → ∀ (k m1 m2 : Nat), k + f.nodes ≤ 1000000 → f.nodes ≤ m1 → 2 * f.nodes ≤ m2 → f.tr a.nodes ≤ 10000000 →
  ∃ r, tr_formula m1 a f k = some r ∧ ref20_T m2 (a.up 0 k) f = some r ∧ r.ok = true ∧ r.nodes = f.tr a.nodes
theorem T_eq {a : Fm} (ha : Ans a) (f : Fm) (hf : f.ok = true) : TEq a f := by
  have han := ha.nodes
  refine Fm.ok_cases (p := TEq a) ?_ ?_ ?_ f hf
  · intro x y hx hy _ k m1 m2 h1 h2 h3 h4
    obtain ⟨u1, u2, u3⟩ := ha.up (k := k)
    have hfo : (Fm.mk 1 (Ty.mk 0 []) [x, y] []).ok = true := by rw [Fm.ok_mk]; simp [hx, hy, Fm.node, Ty.zeroB_iff]
    have hn : (Fm.mk 1 (Ty.mk 0 []) [x, y] []).nodes = 1 + sumL Tm.nodes [x, y] := by rw [Fm.nodes_mk]; simp [sumL]
    have htr : (Fm.mk 1 (Ty.mk 0 []) [x, y] []).tr a.nodes = 3 + sumL Tm.nodes [x, y] + 2 * a.nodes := by rw [Fm.tr_mk]; simp
    rw [htr] at h4
    obtain ⟨m1, rfl⟩ : ∃ m, m1 = m + 1 := ⟨m1 - 1, by omega⟩
    obtain ⟨m2, rfl⟩ : ∃ m, m2 = m + 1 := ⟨m2 - 1, by omega⟩
    obtain ⟨i1, i2⟩ := trImp_both hfo u1 (by omega) (by omega)
    have o1 := trTwo_ok (.inr rfl) hfo u1
    have n1 : (Fm.mk 3 (Ty.mk 0 []) [] [Fm.mk 1 (Ty.mk 0 []) [x, y] [], a.up 0 k]).nodes = 2 + sumL Tm.nodes [x, y] + a.nodes := by rw [trTwo_nodes, hn, u2]; omega
    obtain ⟨i3, i4⟩ := trImp_both o1 u1 (by omega) (by omega)
    refine ⟨_, ?_, ?_, trTwo_ok (.inr rfl) o1 u1, ?_⟩
    · rw [tr_formula]
      simp only [Fm.kind_mk, ieq_iff, if_true]
      rw [ans_eq ha k (by omega)]
      simp only [bind1_of]
      rw [i1]
      simp only [bind1_of]
      rw [i3]
      rfl
    · rw [ref20_T]
      simp only [Fm.kind_mk, ieq_iff, if_true]
      rw [i2]
      simp only [bind1_of]
      rw [i4]
      rfl
    · rw [trTwo_nodes, n1, u2, htr]; omega
  · intro kk x y hk hx hy px py hu k m1 m2 h1 h2 h3 h4
    have hu2 : x.uni = false ∧ y.uni = false := by
      rw [Fm.uni_mk] at hu
      simpa [Fm.uniL] using (Bool.or_eq_false_iff.1 hu).2
    have htr : (Fm.mk kk (Ty.mk 0 []) [] [x, y]).tr a.nodes = 1 + (x.tr a.nodes + y.tr a.nodes) := by
      rw [Fm.tr_mk, Fm.trL_two]
      rcases hk with rfl | rfl <;> simp
    rw [htr] at h4
    rw [trTwo_nodes] at h1 h2 h3
    have := x.nodes_pos
    have := y.nodes_pos
    obtain ⟨m1, rfl⟩ : ∃ m, m1 = m + 1 := ⟨m1 - 1, by omega⟩
    obtain ⟨m2, rfl⟩ : ∃ m, m2 = m + 1 := ⟨m2 - 1, by omega⟩
    obtain ⟨r1, a1, a2, a3, a4⟩ := px hu2.1 k m1 m2 (by omega) (by omega) (by omega) (by omega)
    obtain ⟨r2, b1, b2, b3, b4⟩ := py hu2.2 k m1 m2 (by omega) (by omega) (by omega) (by omega)
    have hsel : sel (ieq kk 2) true (ieq kk 3) = true := by rcases hk with rfl | rfl <;> rfl
    have hneB : ieq kk 1 = false := by rcases hk with rfl | rfl <;> rfl
    refine ⟨Fm.mk kk (Ty.mk 0 []) [] [r1, r2], ?_, ?_, trTwo_ok hk a3 b3, ?_⟩
    · rw [tr_formula]
      simp only [Fm.kind_mk, Fm.args_mk, hneB, hsel, Bool.false_eq_true, if_false, if_true]
      simp only [lget_zero, lget_one, List.getElem?_cons_zero, List.getElem?_cons_succ, bind1_of]
      rw [a1]
      simp only [bind1_of]
      rw [b1]
      rfl
    · rw [ref20_T]
      simp only [Fm.kind_mk, Fm.args_mk, hneB, hsel, Bool.false_eq_true, if_false, if_true]
      simp only [lget_zero, lget_one, List.getElem?_cons_zero, List.getElem?_cons_succ, bind1_of]
      rw [a2]
      simp only [bind1_of]
      rw [b2]
      simp only [bind1_of]
      rw [Two_eq (trSmall_wt a3 (by omega)) (trSmall_wt b3 (by omega))]
      rfl
    · rw [trTwo_nodes, a4, b4, htr]; omega
  · intro kk s x hk hs hx px hu k m1 m2 h1 h2 h3 h4
    rw [Fm.uni_mk] at hu
    have hu1 := (Bool.or_eq_false_iff.1 hu).1
    have hu2 : x.uni = false := by simpa [Fm.uniL] using (Bool.or_eq_false_iff.1 hu).2
    simp only [decide_eq_false_iff_not] at hu1
    rw [trQ_nodes] at h1 h2 h3
    have := x.nodes_pos
    obtain ⟨u1, u2, u3⟩ := ha.up (k := k)
    obtain ⟨v1, v2, v3⟩ := ha.up (k := k + 1)
    have up := ref_up_eq ha (k := k) (by omega)
    obtain ⟨m1, rfl⟩ : ∃ m, m1 = m + 1 := ⟨m1 - 1, by omega⟩
    obtain ⟨m2, rfl⟩ : ∃ m, m2 = m + 1 + 1 := ⟨m2 - 2, by omega⟩
    rcases hk with rfl | rfl | rfl | rfl
    · have htr : (Fm.mk 4 s [] [x]).tr a.nodes = 1 + x.tr a.nodes := by rw [Fm.tr_mk, Fm.trL_one]; simp
      rw [htr] at h4
      obtain ⟨r, a1, a2, a3, a4⟩ := px hu2 (k + 1) m1 (m2 + 1) (by omega) (by omega) (by omega) (by omega)
      obtain ⟨q1, q2⟩ := trQ_both hs a3 (by omega)
      refine ⟨_, ?_, ?_, trQ_ok hs a3, ?_⟩
      · rw [tr_formula]
        simp only [Fm.kind_mk, Fm.args_mk, Fm.typeF_mk, show ieq 4 1 = false from rfl, show sel (ieq 4 2) true (ieq 4 3) = false from rfl, show ieq 4 4 = true from rfl, Bool.false_eq_true, if_false, if_true]
        simp only [lget_zero, List.getElem?_cons_zero, bind1_of]
        rw [a1]
        simp only [bind1_of]
        rw [q1]
        rfl
      · rw [ref20_T]
        simp only [Fm.kind_mk, Fm.args_mk, Fm.typeF_mk, show ieq 4 1 = false from rfl, show sel (ieq 4 2) true (ieq 4 3) = false from rfl, show ieq 4 4 = true from rfl, Bool.false_eq_true, if_false, if_true]
        rw [up]
        simp only [lget_zero, List.getElem?_cons_zero, bind1_of]
        rw [a2]
        simp only [bind1_of]
        rw [q2]
        rfl
      · rw [trQ_nodes, a4, htr]
    · have htr : (Fm.mk 5 s [] [x]).tr a.nodes = 3 + 2 * a.nodes + x.tr a.nodes := by rw [Fm.tr_mk, Fm.trL_one]; simp
      rw [htr] at h4
      obtain ⟨r, a1, a2, a3, a4⟩ := px hu2 (k + 1) m1 m2 (by omega) (by omega) (by omega) (by omega)
      obtain ⟨i1, i2⟩ := trImp_both a3 v1 (by omega) (by omega)
      have o1 := trTwo_ok (.inr rfl) a3 v1
      have n1 : (Fm.mk 3 (Ty.mk 0 []) [] [r, a.up 0 ((k + 1 : Nat) : Int)]).nodes = 1 + r.nodes + a.nodes := by rw [trTwo_nodes, v2]
      obtain ⟨q1, q2⟩ := trQ_both hs o1 (by omega)
      have o2 := trQ_ok hs o1
      have n2 : (Fm.mk 4 s [] [Fm.mk 3 (Ty.mk 0 []) [] [r, a.up 0 ((k + 1 : Nat) : Int)]]).nodes = 2 + r.nodes + a.nodes := by rw [trQ_nodes, n1]; omega
      obtain ⟨i3, i4⟩ := trImp_both o2 u1 (by omega) (by omega)
      refine ⟨_, ?_, ?_, trTwo_ok (.inr rfl) o2 u1, ?_⟩
      · rw [tr_formula]
        simp only [Fm.kind_mk, Fm.args_mk, Fm.typeF_mk, show ieq 5 1 = false from rfl, show sel (ieq 5 2) true (ieq 5 3) = false from rfl, show ieq 5 4 = false from rfl, Bool.false_eq_true, if_false, if_true]
        simp only [lget_zero, List.getElem?_cons_zero, bind1_of]
        rw [a1]
        simp only [bind1_of]
        rw [ans_eq ha (k + 1) (by omega)]
        simp only [bind1_of]
        rw [i1]
        simp only [bind1_of]
        rw [q1]
        simp only [bind1_of]
        rw [ans_eq ha k (by omega)]
        simp only [bind1_of]
        rw [i3]
        rfl
      · rw [ref20_T]
        simp only [Fm.kind_mk, show ieq 5 1 = false from rfl, show sel (ieq 5 2) true (ieq 5 3) = false from rfl, show ieq 5 4 = false from rfl, Bool.false_eq_true, if_false, if_true]
        rw [ref20_premise, up]
        simp only [Fm.args_mk, Fm.typeF_mk, lget_zero, List.getElem?_cons_zero, bind1_of]
        rw [a2]
        simp only [bind1_of]
        rw [i2]
        simp only [bind1_of]
        rw [q2]
        simp only [bind1_of]
        rw [i4]
        rfl
      · rw [trTwo_nodes, n2, u2, a4, htr]; omega
    · exact (hu1 (.inl rfl)).elim
    · exact (hu1 (.inr rfl)).elim
end Go.Mdl
