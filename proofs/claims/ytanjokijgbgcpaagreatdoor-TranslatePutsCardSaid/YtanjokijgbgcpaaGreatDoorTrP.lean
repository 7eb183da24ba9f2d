/- A part of the proof of TranslatePuts: contracts of functions of the program, and what they need. -/
import Derived.Test.YtanjokijgbgcpaaGreatDoorUf
import Derived.Test.YtanjokijgbgcpaaGreatDoorUm
import Derived.Test.YtanjokijgbgcpaaGreatDoorPn
/-
  The translation of formulas: both forms are the same.
-/
set_option maxRecDepth 20000
set_option linter.unusedSimpArgs false
set_option linter.unusedVariables false
namespace Go.Mdl
open Go

theorem map_id' {α : Type} {g : α → α} {l : List α} (h : ∀ x ∈ l, g x = x) : l.map g = l := by
  induction l with
  | nil => rfl
  | cons x l ih => simp only [List.map_cons, h x (by simp), ih fun y hy => h y (by simp [hy])]
theorem Tm.up_zero (t : Tm) : ∀ f, t.up f 0 = t := by
  induction t using Tm.ind with
  | h k i s l ih =>
    intro f
    rw [Tm.up_mk, map_id' fun x hx => ih x hx _]
    congr 1
    split <;> omega
theorem Tm.up_add (f b c : Int) (hb : 0 ≤ b) : ∀ (t : Tm) (d : Int), (t.up (f + d) b).up (f + d) c = t.up (f + d) (b + c) := by
  intro t
  induction t using Tm.ind with
  | h k i s l ih =>
    intro d
    rw [Tm.up_mk, Tm.up_mk, Tm.up_mk]
    congr 1
    · by_cases hc : k = 1 ∧ f + d ≤ i
      · rw [if_pos hc, if_pos ⟨hc.1, by omega⟩]
        omega
      · rw [if_neg hc, if_neg hc, if_neg hc]
    · rw [List.map_map]
      exact List.map_congr_left fun x hx => by
        have := ih x hx (d + lamB k)
        rw [show f + (d + lamB k) = f + d + lamB k by omega] at this
        exact this
theorem Fm.up_add (f b c : Int) (hb : 0 ≤ b) : ∀ (t : Fm) (d : Int), (t.up (f + d) b).up (f + d) c = t.up (f + d) (b + c) := by
  intro t
  induction t using Fm.ind with
  | h k s ts l ih =>
    intro d
    rw [Fm.up_mk, Fm.up_mk, Fm.up_mk]
    congr 1
    · rw [List.map_map]
      exact List.map_congr_left fun x _ => Tm.up_add f b c hb x d
    · rw [List.map_map]
      exact List.map_congr_left fun x hx => by
        have := ih x hx (d + qB k)
        rw [show f + (d + qB k) = f + d + qB k by omega] at this
        exact this
theorem Fm.up_up0 (t : Fm) {b c : Int} (hb : 0 ≤ b) : (t.up 0 b).up 0 c = t.up 0 (b + c) := by
  have := Fm.up_add 0 b c hb t 0
  rwa [Int.add_zero] at this
theorem Fm.up_zero0 (t : Fm) : ∀ f, t.up f 0 = t := by
  induction t using Fm.ind with
  | h k s ts l ih =>
    intro f
    rw [Fm.up_mk]
    congr 1
    · rw [List.map_congr_left (g := id) fun x _ => Tm.up_zero x _]
      simp
    · rw [List.map_congr_left (g := id) fun x hx => ih x hx _]
      simp
theorem Fm.up_zero (t : Fm) : t.up 0 0 = t := Fm.up_zero0 t 0
theorem up_least {M b : Int} (hb : 0 ≤ b) (t : Tm) : ∀ f, t.least M = true → (t.up f b).least (M + b) = true := by
  induction t using Tm.ind with
  | h k i s l ih =>
    intro f h
    rw [Tm.least_mk] at h
    simp only [Bool.and_eq_true, List.all_eq_true, decide_eq_true_eq] at h
    rw [Tm.up_mk, Tm.least_mk]
    simp only [Bool.and_eq_true, List.all_eq_true, decide_eq_true_eq]
    refine ⟨by split <;> omega, ?_⟩
    intro x hx
    obtain ⟨y, hy, rfl⟩ := List.mem_map.1 hx
    exact ih y hy _ (h.2 y hy)
theorem Fm.up_least {M b : Int} (hb : 0 ≤ b) (t : Fm) : ∀ f, t.least M = true → (t.up f b).least (M + b) = true := by
  induction t using Fm.ind with
  | h k s ts l ih =>
    intro f h
    rw [Fm.least_mk] at h
    simp only [Bool.and_eq_true, List.all_eq_true] at h
    rw [Fm.up_mk, Fm.least_mk]
    simp only [Bool.and_eq_true, List.all_eq_true, List.mem_map, forall_exists_index, and_imp]
    refine ⟨?_, ?_⟩
    · rintro _ x hx rfl
      exact _root_.Go.Mdl.up_least hb x f (h.1 x hx)
    · rintro _ x hx rfl
      exact ih x hx _ (h.2 x hx)
theorem uniform_fun : ∀ n, translate_uniform n = ref20_uniform n := by
  intro n
  induction n with
  | zero => funext a; rfl
  | succ n ih => funext a; rw [translate_uniform, ref20_uniform, ih]
/-- A formula whose answers below variables can be had. -/
structure Ans (a : Fm) : Prop where
  ok : a.ok = true
  nodes : a.nodes ≤ 4096
  least : a.least 536870912 = true
theorem Ans.up {a : Fm} (h : Ans a) {k : Nat} : (a.up 0 k).ok = true ∧ (a.up 0 k).nodes = a.nodes ∧ (a.up 0 k).least (536870912 + k) = true := ⟨by rw [Fm.up_ok _ _ _ (by omega) (by omega)]; exact h.ok, Fm.up_nodes _ _ _, Fm.up_least (by omega) a 0 h.least⟩
theorem ans_eq {a : Fm} (h : Ans a) : ∀ (k : Nat), k ≤ 10000000 → tr_ans k a = some (a.up 0 k)
  | 0, _ => by rw [tr_ans]; exact congrArg some (Fm.up_zero a).symm
  | k + 1, hk => by
    obtain ⟨h1, h2, h3⟩ := h.up (k := k)
    rw [tr_ans, ans_eq h k (by omega)]
    simp only [bind1_of]
    rw [tree_LiftFormula_eq h1 (by have := h.nodes; omega) (Fm.least_mono _ (by omega) h3) (by omega) (by omega) (by omega) (by omega), Fm.up_up0 a (by omega)]
    rfl
theorem ref_up_eq {a : Fm} (h : Ans a) {k : Nat} (hk : k ≤ 10000000) : ref20_up (a.up 0 k) = some (a.up 0 ((k + 1 : Nat) : Int)) := by
  obtain ⟨h1, h2, h3⟩ := h.up (k := k)
  have := h.nodes
  unfold ref20_up
  rw [ref07_Up_eq FU (a.up 0 k) 0 1 (by rw [FU_eq]; omega) (by omega) (by omega) (by omega) (by omega) (by omega) (Fm.least_mono _ (by omega) h3), Fm.up_up0 a (by omega)]
  rfl
mutual
/-- How many nodes a translation has, with an answer of c nodes. -/
def Fm.tr (c : Nat) : Fm → Nat
  | .mk k _ ts l => if k = 1 then 3 + sumL Tm.nodes ts + 2 * c else if k = 5 then 3 + 2 * c + Fm.trL c l else 1 + Fm.trL c l
def Fm.trL (c : Nat) : List Fm → Nat
  | [] => 0
  | x :: l => Fm.tr c x + Fm.trL c l
end
theorem Fm.tr_mk (c : Nat) (k : Int) (s : Ty) (ts : List Tm) (l : List Fm) : (Fm.mk k s ts l).tr c = if k = 1 then 3 + sumL Tm.nodes ts + 2 * c else if k = 5 then 3 + 2 * c + Fm.trL c l else 1 + Fm.trL c l := by rw [Fm.tr]
theorem Fm.trL_one (c : Nat) (x : Fm) : Fm.trL c [x] = x.tr c := by simp [Fm.trL]
theorem Fm.trL_two (c : Nat) (x y : Fm) : Fm.trL c [x, y] = x.tr c + y.tr c := by simp [Fm.trL]
mutual
/-- Whether a formula has a uniform quantifier. -/
def Fm.uni : Fm → Bool
  | .mk k _ _ l => decide (k = 6 ∨ k = 7) || Fm.uniL l
def Fm.uniL : List Fm → Bool
  | [] => false
  | x :: l => Fm.uni x || Fm.uniL l
end
theorem Fm.uni_mk (k : Int) (s : Ty) (ts : List Tm) (l : List Fm) : (Fm.mk k s ts l).uni = (decide (k = 6 ∨ k = 7) || Fm.uniL l) := by rw [Fm.uni]
theorem trTwo_ok {k : Int} {x y : Fm} (hk : k = 2 ∨ k = 3) (hx : x.ok = true) (hy : y.ok = true) : (Fm.mk k (Ty.mk 0 []) [] [x, y]).ok = true := by
  rw [Fm.ok_mk]
  rcases hk with rfl | rfl <;> simp [hx, hy, Fm.node, Ty.zeroB_iff]
theorem trQ_ok {s : Ty} {x : Fm} (hs : s.err = 0) (hx : x.ok = true) : (Fm.mk 4 s [] [x]).ok = true := by
  rw [Fm.ok_mk]
  simp [hx, hs, Fm.node, quantB]
theorem trTwo_nodes {k : Int} {s : Ty} {x y : Fm} : (Fm.mk k s [] [x, y]).nodes = 1 + x.nodes + y.nodes := by rw [Fm.nodes_mk]; simp [sumL]; omega
theorem trQ_nodes {k : Int} {s : Ty} {x : Fm} : (Fm.mk k s [] [x]).nodes = 1 + x.nodes := by rw [Fm.nodes_mk]; simp [sumL]
theorem trSmall_wt {x : Fm} (hx : x.ok = true) (hn : x.nodes ≤ 10000000) : x.wt ≤ 1000000000 := by have := Fm.ok_wt x hx; omega
theorem trImp_both {x y : Fm} (hx : x.ok = true) (hy : y.ok = true) (hxn : x.nodes ≤ 10000000) (hyn : y.nodes ≤ 10000000) :
    translate_imp x y = some (Fm.mk 3 (Ty.mk 0 []) [] [x, y]) ∧ ref20_imp x y = some (Fm.mk 3 (Ty.mk 0 []) [] [x, y]) := by
  refine ⟨rfl, ?_⟩
  unfold ref20_imp
  rw [Two_eq (trSmall_wt hx hxn) (trSmall_wt hy hyn)]
  rfl
theorem trQ_both {s : Ty} {x : Fm} (hs : s.err = 0) (hx : x.ok = true) (hxn : x.nodes ≤ 10000000) : tree_Quantified 4 s x = some (Fm.mk 4 s [] [x]) ∧ ref07_Q 4 s x = some (Fm.mk 4 s [] [x]) := by
  refine ⟨rfl, ?_⟩
  have := (Ty.err_zero hs).2
  unfold ref07_Q
  rw [ref01_Copy' (by omega), ref07_Copy' (trSmall_wt hx hxn)]
  rfl
def TEq (a f : Fm) : Prop := f.uni = false → ∀ (k m1 m2 : Nat), k + f.nodes ≤ 1000000 → f.nodes ≤ m1 → 2 * f.nodes ≤ m2 → f.tr a.nodes ≤ 10000000 →
  ∃ r, tr_formula m1 a f k = some r ∧ ref20_T m2 (a.up 0 k) f = some r ∧ r.ok = true ∧ r.nodes = f.tr a.nodes
theorem T_eq {a : Fm} (ha : Ans a) (f : Fm) (hf : f.ok = true) : TEq a f := by
  have han := ha.nodes
  refine Fm.ok_cases (p := TEq a) ?_ ?_ ?_ f hf
  · intro x y hx hy _ k m1 m2 h1 h2 h3 h4
    obtain ⟨u1, u2, u3⟩ := ha.up (k := k)
    have hfo : (Fm.mk 1 (Ty.mk 0 []) [x, y] []).ok = true := by rw [Fm.ok_mk]; simp [hx, hy, Fm.node, Ty.zeroB_iff]
    have hn : (Fm.mk 1 (Ty.mk 0 []) [x, y] []).nodes = 1 + sumL Tm.nodes [x, y] := by rw [Fm.nodes_mk]; simp [sumL]
    have htr : (Fm.mk 1 (Ty.mk 0 []) [x, y] []).tr a.nodes = 3 + sumL Tm.nodes [x, y] + 2 * a.nodes := by rw [Fm.tr_mk]; simp
    rw [htr] at h4
    obtain ⟨m1, rfl⟩ : ∃ m, m1 = m + 1 := ⟨m1 - 1, by omega⟩
    obtain ⟨m2, rfl⟩ : ∃ m, m2 = m + 1 := ⟨m2 - 1, by omega⟩
    obtain ⟨i1, i2⟩ := trImp_both hfo u1 (by omega) (by omega)
    have o1 := trTwo_ok (.inr rfl) hfo u1
    have n1 : (Fm.mk 3 (Ty.mk 0 []) [] [Fm.mk 1 (Ty.mk 0 []) [x, y] [], a.up 0 k]).nodes = 2 + sumL Tm.nodes [x, y] + a.nodes := by rw [trTwo_nodes, hn, u2]; omega
    obtain ⟨i3, i4⟩ := trImp_both o1 u1 (by omega) (by omega)
    refine ⟨_, ?_, ?_, trTwo_ok (.inr rfl) o1 u1, ?_⟩
    · rw [tr_formula]
      simp only [Fm.kind_mk, ieq_iff, if_true]
      rw [ans_eq ha k (by omega)]
      simp only [bind1_of]
      rw [i1]
      simp only [bind1_of]
      rw [i3]
      rfl
    · rw [ref20_T]
      simp only [Fm.kind_mk, ieq_iff, if_true]
      rw [i2]
      simp only [bind1_of]
      rw [i4]
      rfl
    · rw [trTwo_nodes, n1, u2, htr]; omega
  · intro kk x y hk hx hy px py hu k m1 m2 h1 h2 h3 h4
    have hu2 : x.uni = false ∧ y.uni = false := by
      rw [Fm.uni_mk] at hu
      simpa [Fm.uniL] using (Bool.or_eq_false_iff.1 hu).2
    have htr : (Fm.mk kk (Ty.mk 0 []) [] [x, y]).tr a.nodes = 1 + (x.tr a.nodes + y.tr a.nodes) := by
      rw [Fm.tr_mk, Fm.trL_two]
      rcases hk with rfl | rfl <;> simp
    rw [htr] at h4
    rw [trTwo_nodes] at h1 h2 h3
    have := x.nodes_pos
    have := y.nodes_pos
    obtain ⟨m1, rfl⟩ : ∃ m, m1 = m + 1 := ⟨m1 - 1, by omega⟩
    obtain ⟨m2, rfl⟩ : ∃ m, m2 = m + 1 := ⟨m2 - 1, by omega⟩
    obtain ⟨r1, a1, a2, a3, a4⟩ := px hu2.1 k m1 m2 (by omega) (by omega) (by omega) (by omega)
    obtain ⟨r2, b1, b2, b3, b4⟩ := py hu2.2 k m1 m2 (by omega) (by omega) (by omega) (by omega)
    have hsel : sel (ieq kk 2) true (ieq kk 3) = true := by rcases hk with rfl | rfl <;> rfl
    have hneB : ieq kk 1 = false := by rcases hk with rfl | rfl <;> rfl
    refine ⟨Fm.mk kk (Ty.mk 0 []) [] [r1, r2], ?_, ?_, trTwo_ok hk a3 b3, ?_⟩
    · rw [tr_formula]
      simp only [Fm.kind_mk, Fm.args_mk, hneB, hsel, Bool.false_eq_true, if_false, if_true]
      simp only [lget_zero, lget_one, List.getElem?_cons_zero, List.getElem?_cons_succ, bind1_of]
      rw [a1]
      simp only [bind1_of]
      rw [b1]
      rfl
    · rw [ref20_T]
      simp only [Fm.kind_mk, Fm.args_mk, hneB, hsel, Bool.false_eq_true, if_false, if_true]
      simp only [lget_zero, lget_one, List.getElem?_cons_zero, List.getElem?_cons_succ, bind1_of]
      rw [a2]
      simp only [bind1_of]
      rw [b2]
      simp only [bind1_of]
      rw [Two_eq (trSmall_wt a3 (by omega)) (trSmall_wt b3 (by omega))]
      rfl
    · rw [trTwo_nodes, a4, b4, htr]; omega
  · intro kk s x hk hs hx px hu k m1 m2 h1 h2 h3 h4
    rw [Fm.uni_mk] at hu
    have hu1 := (Bool.or_eq_false_iff.1 hu).1
    have hu2 : x.uni = false := by simpa [Fm.uniL] using (Bool.or_eq_false_iff.1 hu).2
    simp only [decide_eq_false_iff_not] at hu1
    rw [trQ_nodes] at h1 h2 h3
    have := x.nodes_pos
    obtain ⟨u1, u2, u3⟩ := ha.up (k := k)
    obtain ⟨v1, v2, v3⟩ := ha.up (k := k + 1)
    have up := ref_up_eq ha (k := k) (by omega)
    obtain ⟨m1, rfl⟩ : ∃ m, m1 = m + 1 := ⟨m1 - 1, by omega⟩
    obtain ⟨m2, rfl⟩ : ∃ m, m2 = m + 1 + 1 := ⟨m2 - 2, by omega⟩
    rcases hk with rfl | rfl | rfl | rfl
    · have htr : (Fm.mk 4 s [] [x]).tr a.nodes = 1 + x.tr a.nodes := by rw [Fm.tr_mk, Fm.trL_one]; simp
      rw [htr] at h4
      obtain ⟨r, a1, a2, a3, a4⟩ := px hu2 (k + 1) m1 (m2 + 1) (by omega) (by omega) (by omega) (by omega)
      obtain ⟨q1, q2⟩ := trQ_both hs a3 (by omega)
      refine ⟨_, ?_, ?_, trQ_ok hs a3, ?_⟩
      · rw [tr_formula]
        simp only [Fm.kind_mk, Fm.args_mk, Fm.typeF_mk, show ieq 4 1 = false from rfl, show sel (ieq 4 2) true (ieq 4 3) = false from rfl, show ieq 4 4 = true from rfl, Bool.false_eq_true, if_false, if_true]
        simp only [lget_zero, List.getElem?_cons_zero, bind1_of]
        rw [a1]
        simp only [bind1_of]
        rw [q1]
        rfl
      · rw [ref20_T]
        simp only [Fm.kind_mk, Fm.args_mk, Fm.typeF_mk, show ieq 4 1 = false from rfl, show sel (ieq 4 2) true (ieq 4 3) = false from rfl, show ieq 4 4 = true from rfl, Bool.false_eq_true, if_false, if_true]
        rw [up]
        simp only [lget_zero, List.getElem?_cons_zero, bind1_of]
        rw [a2]
        simp only [bind1_of]
        rw [q2]
        rfl
      · rw [trQ_nodes, a4, htr]
    · have htr : (Fm.mk 5 s [] [x]).tr a.nodes = 3 + 2 * a.nodes + x.tr a.nodes := by rw [Fm.tr_mk, Fm.trL_one]; simp
      rw [htr] at h4
      obtain ⟨r, a1, a2, a3, a4⟩ := px hu2 (k + 1) m1 m2 (by omega) (by omega) (by omega) (by omega)
      obtain ⟨i1, i2⟩ := trImp_both a3 v1 (by omega) (by omega)
      have o1 := trTwo_ok (.inr rfl) a3 v1
      have n1 : (Fm.mk 3 (Ty.mk 0 []) [] [r, a.up 0 ((k + 1 : Nat) : Int)]).nodes = 1 + r.nodes + a.nodes := by rw [trTwo_nodes, v2]
      obtain ⟨q1, q2⟩ := trQ_both hs o1 (by omega)
      have o2 := trQ_ok hs o1
      have n2 : (Fm.mk 4 s [] [Fm.mk 3 (Ty.mk 0 []) [] [r, a.up 0 ((k + 1 : Nat) : Int)]]).nodes = 2 + r.nodes + a.nodes := by rw [trQ_nodes, n1]; omega
      obtain ⟨i3, i4⟩ := trImp_both o2 u1 (by omega) (by omega)
      refine ⟨_, ?_, ?_, trTwo_ok (.inr rfl) o2 u1, ?_⟩
      · rw [tr_formula]
        simp only [Fm.kind_mk, Fm.args_mk, Fm.typeF_mk, show ieq 5 1 = false from rfl, show sel (ieq 5 2) true (ieq 5 3) = false from rfl, show ieq 5 4 = false from rfl, Bool.false_eq_true, if_false, if_true]
        simp only [lget_zero, List.getElem?_cons_zero, bind1_of]
        rw [a1]
        simp only [bind1_of]
        rw [ans_eq ha (k + 1) (by omega)]
        simp only [bind1_of]
        rw [i1]
        simp only [bind1_of]
        rw [q1]
        simp only [bind1_of]
        rw [ans_eq ha k (by omega)]
        simp only [bind1_of]
        rw [i3]
        rfl
      · rw [ref20_T]
        simp only [Fm.kind_mk, show ieq 5 1 = false from rfl, show sel (ieq 5 2) true (ieq 5 3) = false from rfl, show ieq 5 4 = false from rfl, Bool.false_eq_true, if_false, if_true]
        rw [ref20_premise, up]
        simp only [Fm.args_mk, Fm.typeF_mk, lget_zero, List.getElem?_cons_zero, bind1_of]
        rw [a2]
        simp only [bind1_of]
        rw [i2]
        simp only [bind1_of]
        rw [q2]
        simp only [bind1_of]
        rw [i4]
        rfl
      · rw [trTwo_nodes, n2, u2, a4, htr]; omega
    · exact (hu1 (.inl rfl)).elim
    · exact (hu1 (.inr rfl)).elim
end Go.Mdl

/-
  The translation of formulas: the law TranslateDoes.
-/
set_option maxRecDepth 20000
namespace Go.Mdl
open Go

theorem tree_Own_eq : ∀ (n : Nat) (t : Tm), t.wt ≤ n → t.wt ≤ 1000000000 → tree_Own n t = some t := by
  intro n
  induction n with
  | zero => intro t h; have := t.wt_pos; omega
  | succ n ih =>
    intro t h hb
    cases t with
    | mk k i s l =>
      rw [Tm.wt_mk] at h hb
      have hl := Tm.len_wt l
      rw [tree_Own]
      simp only [Tm.args_mk, Tm.kind_mk, Tm.index_mk, Tm.typeF_mk, joinB_eq, okLen_of (l := l) (by omega), chk_true]
      rw [forR_map id l 0 [] (by simp; omega)]
      · simp [tree_OwnType' (t := s) (by omega)]
      · intro j x v hx hv
        have := sumL_mem Tm.wt hx
        rw [ih x (by omega) (by omega)]
        simp [okApp_of (l := v) (m := [x]) (by simpa using hv)]
theorem reb_free {h : Tm → Int → Option Tm} {ψ : Tm → Int → Tm} (hh : ∀ t b, t.ok = true → t.nodes ≤ 10000000 → h t b = some (ψ t b)) : ∀ (n : Nat) (f : Fm) (b : Int), f.nodes ≤ n → f.nodes ≤ 10000000 → f.ok = true → 0 ≤ b → b + f.nodes ≤ 1000000000 →
    tree_RebuildFormula n f b (fun (s : Unit) (y0 : Tm) (y1 : Int) => pureW (h y0 y1) s) () = some (f.reb ψ b, ()) := by
  intro n
  induction n with
  | zero => intro f b h; have := f.nodes_pos; omega
  | succ n ih =>
    intro f b hn hb ho h0 hbn
    cases f with
    | mk k s ts l =>
      rw [Fm.nodes_mk] at hn hb hbn
      have hlt := sumL_len Tm.nodes ts fun t _ => t.nodes_pos
      have hll := sumL_len Fm.nodes l fun t _ => t.nodes_pos
      obtain ⟨hty, hot, hol⟩ := Fm.ok_parts ho
      rw [tree_RebuildFormula, Fm.reb_mk]
      simp only [Fm.typeF_mk, Fm.args_mk, Fm.kind_mk, Fm.terms_mk, joinB_eq]
      rw [tree_OwnType' (by omega), bind1_of, okLen_of (by omega), chk_true]
      have hqb := qB_bd k
      have loop1 : ∀ (us : List Tm) (j : Nat) (v : List Tm), (∀ t ∈ us, t ∈ ts) → v.length + us.length ≤ 50000000 →
          forR (fun (j51 : Int) (x53 : Tm) => (un2 fun (v91 : (List Tm)) (v92 : Unit) =>
            bind2 (pureW (h x53 b) v92) fun x112 x113 =>
            chk (okApp v91 [x112]) <|
            some ((.next ((lapp v91 [x112]), x113)) : Ctl ((List Tm) × Unit) (Fm × Unit)))) us j (v, ()) = some (.inl (v ++ us.map (fun t => ψ t b), ())) := by
        intro us
        induction us with
        | nil => intro j v _ _; simp
        | cons t us iht =>
          intro j v hm hv
          simp only [List.length_cons] at hv
          have htl := hm t (by simp)
          have hmn := sumL_mem Tm.nodes htl
          rw [forR_cons]
          simp only [un2]
          rw [hh t b (hot t htl) (by omega), pureW_some', bind2_of, okApp_of (by simp; omega), chk_true]
          simp only [bind1_of, ctlK_next]
          rw [lapp_eq]
          have := iht (j + 1) (v ++ [ψ t b]) (fun u hu => hm u (by simp [hu])) (by simp; omega)
          rw [this]
          simp
      rw [loop1 ts 0 [] (fun t h => h) (by simp; omega), bind1_of]
      simp only [sumK_inl, un2]
      rw [tree_Quantifier_eq, bind1_of]
      have loop2 : ∀ (us : List Fm) (j : Nat) (v : List Fm), (∀ t ∈ us, t ∈ l) → v.length + us.length ≤ 50000000 →
          forR (fun (j171 : Int) (x173 : Fm) => (un2 fun (v211 : (List Fm)) (v212 : Unit) =>
            bind2 (tree_RebuildFormula n x173 (b + qB k) (fun (s : Unit) (y0 : Tm) (y1 : Int) => pureW (h y0 y1) s) v212) fun x232 s233 =>
            chk (okApp v211 [x232]) <|
            some ((.next ((lapp v211 [x232]), s233)) : Ctl ((List Fm) × Unit) (Fm × Unit)))) us j (v, ()) = some (.inl (v ++ us.map (Fm.reb ψ (b + qB k)), ())) := by
        intro us
        induction us with
        | nil => intro j v _ _; simp
        | cons t us iht =>
          intro j v hm hv
          simp only [List.length_cons] at hv
          have htl := hm t (by simp)
          have hmn := sumL_mem Fm.nodes htl
          rw [forR_cons]
          simp only [un2]
          rw [ih t (b + qB k) (by omega) (by omega) (hol t htl) (by omega) (by omega), bind2_of, okApp_of (by simp; omega), chk_true]
          simp only [bind1_of, ctlK_next]
          rw [lapp_eq]
          have := iht (j + 1) (v ++ [t.reb ψ (b + qB k)]) (fun u hu => hm u (by simp [hu])) (by simp; omega)
          rw [this]
          simp
      have fin : (chk (okLen l) <| bind1 (forR (fun (j171 : Int) (x173 : Fm) => (un2 fun (v211 : (List Fm)) (v212 : Unit) =>
            bind2 (tree_RebuildFormula n x173 (b + qB k) (fun (s : Unit) (y0 : Tm) (y1 : Int) => pureW (h y0 y1) s) v212) fun x232 s233 =>
            chk (okApp v211 [x232]) <|
            some ((.next ((lapp v211 [x232]), s233)) : Ctl ((List Fm) × Unit) (Fm × Unit)))) l 0 ([], ())) (sumK (un2 fun (v211 : (List Fm)) (v212 : Unit) => some ((Fm.mk k s ([] ++ ts.map fun t => ψ t b) v211), v212)) (fun r => some r))) =
          some (Fm.mk k s (ts.map fun t => ψ t b) (l.map (Fm.reb ψ (b + qB k))), ()) := by
        rw [okLen_of (by omega), chk_true, loop2 l 0 [] (fun t h => h) (by simp; omega), bind1_of]
        simp
      by_cases hq : quantB k = true
      · rw [if_pos hq]
        have e1 : b + qB k = b + 1 := by unfold qB; rw [if_pos hq]
        rw [e1] at fin ⊢
        rw [iadd_in (by omega) (by omega)]
        exact fin
      · rw [if_neg hq]
        have e1 : b + qB k = b := by unfold qB; rw [if_neg hq]; omega
        rw [e1] at fin ⊢
        exact fin
theorem Fm.reb_id (f : Fm) : ∀ b, f.reb (fun t _ => t) b = f := by
  induction f using Fm.ind with
  | h k s ts l ih =>
    intro b
    rw [Fm.reb_mk]
    congr 1
    · simp
    · exact map_id' fun x hx => ih x hx _
theorem own_eq {f : Fm} (ho : f.ok = true) (hn : f.nodes ≤ 10000000) : tree_OwnFormula f = some f := by
  unfold tree_OwnFormula
  rw [reb_free (h := tree_OwnFormula_1) (ψ := fun t _ => t) (fun t b h h1 => ?_) FU f 0 (by have := FU_eq; omega) hn ho (by omega) (by omega)]
  · rw [bind2_of, Fm.reb_id]
  · unfold tree_OwnFormula_1
    have := Tm.ok_wt t h
    rw [tree_Own_eq FU t (by rw [FU_eq]; omega) (by omega)]
    rfl
theorem imul_two {c : Nat} (hc : c ≤ 1000000) : imul .i64 2 (c : Int) = ((2 * c : Nat) : Int) := by unfold imul; rw [IntKind.wrap_i64]; omega
theorem iadd3 {a b c : Int} (ha : 0 ≤ a) (ha2 : a ≤ 1000000000000) (hb : 0 ≤ b) (hb2 : b ≤ 1000000000000) (hc : 0 ≤ c) (hc2 : c ≤ 1000000000000) : iadd .i64 (iadd .i64 a b) c = a + b + c := by
  rw [iadd_in (a := a) (b := b) (by omega) (by omega), iadd_in (by omega) (by omega)]
/-- A number, cut off one above the limit. -/
def cutN (n : Nat) : Int := if n ≤ 4097 then (n : Int) else 4097
theorem imin_cut (n : Nat) : imin (n : Int) 4097 = cutN n := by unfold imin cutN; split <;> split <;> omega
theorem cutN_bd (n : Nat) : 0 ≤ cutN n ∧ cutN n ≤ 4097 ∧ (cutN n = n ∧ n ≤ 4097 ∨ cutN n = 4097 ∧ 4097 < n) := by unfold cutN; split <;> omega
theorem imin_sum {n : Nat} {v : Int} (h1 : v ≤ n) (h2 : v = n ∨ 4097 ≤ v) : imin v 4097 = cutN n := by unfold imin cutN; split <;> split <;> omega
/-- The size of a translation, in both forms. -/
def SzEq (c : Nat) (f : Fm) : Prop := f.uni = false → f.nodes ≤ 4096 → ∀ n, f.nodes ≤ n → translate_size n f c = some (f.tr c : Int) ∧ ref20_count n f c = some (cutN (f.tr c)) ∧ f.tr c ≤ 10000 * f.nodes
theorem size_eq {c : Nat} (hc : c ≤ 4096) (f : Fm) (hf : f.ok = true) : SzEq c f := by
  have him := imul_two (c := c) (by omega)
  have errz : ∀ {g : Fm}, g.ok = true → g.nodes ≤ 4096 → g.err = 0 := fun {g} h1 h2 => by unfold Fm.err; rw [if_pos h1, if_neg (by omega)]
  refine Fm.ok_cases (p := SzEq c) ?_ ?_ ?_ f hf
  · intro x y hx hy _ h4 n hn
    have hfo : (Fm.mk 1 (Ty.mk 0 []) [x, y] []).ok = true := by rw [Fm.ok_mk]; simp [hx, hy, Fm.node, Ty.zeroB_iff]
    have hnn : (Fm.mk 1 (Ty.mk 0 []) [x, y] []).nodes = 1 + sumL Tm.nodes [x, y] := by rw [Fm.nodes_mk]; simp [sumL]
    have htr : (Fm.mk 1 (Ty.mk 0 []) [x, y] []).tr c = 3 + sumL Tm.nodes [x, y] + 2 * c := by rw [Fm.tr_mk]; simp
    have hw := Fm.ok_wt _ hfo
    have he := errz hfo h4
    have hp := (Fm.mk 1 (Ty.mk 0 []) [x, y] []).nodes_pos
    obtain ⟨n, rfl⟩ : ∃ m, n = m + 1 := ⟨n - 1, by omega⟩
    refine ⟨?_, ?_, by rw [htr]; omega⟩
    · rw [translate_size, tree_CheckFormula_eq (by omega), he]
      simp only [bind2_of, if_true, Fm.kind_mk, show ieq 1 1 = true from rfl]
      rw [him, htr, hnn, iadd3 (by omega) (by omega) (by omega) (by omega) (by omega) (by omega)]
      exact congrArg some (by omega)
    · rw [ref20_count]
      simp only [joinB_eq, Fm.kind_mk, show ieq 1 1 = true from rfl, if_true]
      rw [ref07_Count_eq FU _ (by rw [FU_eq]; omega) (by omega)]
      simp only [bind1_of]
      rw [him, hnn, iadd3 (by omega) (by omega) (by omega) (by omega) (by omega) (by omega), htr]
      rw [show ((1 + sumL Tm.nodes [x, y] : Nat) : Int) + ((2 * c : Nat) : Int) + 2 = ((3 + sumL Tm.nodes [x, y] + 2 * c : Nat) : Int) by omega, imin_cut]
  · intro kk x y hk hx hy px py hu h4 n hn
    have hfo := trTwo_ok hk hx hy
    rw [trTwo_nodes] at h4 hn
    have hu2 : x.uni = false ∧ y.uni = false := by
      rw [Fm.uni_mk] at hu
      simpa [Fm.uniL] using (Bool.or_eq_false_iff.1 hu).2
    have htr : (Fm.mk kk (Ty.mk 0 []) [] [x, y]).tr c = 1 + (x.tr c + y.tr c) := by
      rw [Fm.tr_mk, Fm.trL_two]
      rcases hk with rfl | rfl <;> simp
    have hx1 := x.nodes_pos
    have hy1 := y.nodes_pos
    have hnn : (Fm.mk kk (Ty.mk 0 []) [] [x, y]).nodes = 1 + x.nodes + y.nodes := trTwo_nodes
    have hw := Fm.ok_wt _ hfo
    have he := errz hfo (by omega)
    obtain ⟨n, rfl⟩ : ∃ m, n = m + 1 := ⟨n - 1, by omega⟩
    obtain ⟨a1, a2, a3⟩ := px hu2.1 (by omega) n (by omega)
    obtain ⟨b1, b2, b3⟩ := py hu2.2 (by omega) n (by omega)
    have k1 : ieq kk 1 = false := by rcases hk with rfl | rfl <;> rfl
    have k5 : ieq kk 5 = false := by rcases hk with rfl | rfl <;> rfl
    refine ⟨?_, ?_, by rw [htr, hnn]; omega⟩
    · rw [translate_size, tree_CheckFormula_eq (by omega), he]
      simp only [bind2_of, if_true, Fm.kind_mk, Fm.args_mk, k1, k5, Bool.false_eq_true, if_false, joinB_eq, okLen_of (l := [x, y]) (by simp), chk_true]
      simp only [forR_cons, forR_nil, a1, b1, bind1_of, ctlK_next, sumK_inl]
      rw [htr, iadd3 (by omega) (by omega) (by omega) (by omega) (by omega) (by omega)]
      exact congrArg some (by omega)
    · rw [ref20_count]
      simp only [joinB_eq, Fm.kind_mk, Fm.args_mk, k1, k5, Bool.false_eq_true, if_false, okLen_of (l := [x, y]) (by simp), chk_true]
      simp only [forR_cons, forR_nil, a2, b2, bind1_of, ctlK_next, sumK_inl]
      rw [htr]
      obtain ⟨c1, c2, c3⟩ := cutN_bd (x.tr c)
      obtain ⟨d1, d2, d3⟩ := cutN_bd (y.tr c)
      rw [iadd3 (by omega) (by omega) (by omega) (by omega) (by omega) (by omega), imin_sum (n := 1 + (x.tr c + y.tr c)) (by omega) (by omega)]
  · intro kk s x hk hs hx px hu h4 n hn
    rw [trQ_nodes] at h4 hn
    have hx1 := x.nodes_pos
    rw [Fm.uni_mk] at hu
    have hu1 := (Bool.or_eq_false_iff.1 hu).1
    have hu2 : x.uni = false := by simpa [Fm.uniL] using (Bool.or_eq_false_iff.1 hu).2
    simp only [decide_eq_false_iff_not] at hu1
    obtain ⟨n, rfl⟩ : ∃ m, n = m + 1 := ⟨n - 1, by omega⟩
    obtain ⟨a1, a2, a3⟩ := px hu2 (by omega) n (by omega)
    rcases hk with rfl | rfl | rfl | rfl
    · have htr : (Fm.mk 4 s [] [x]).tr c = 1 + x.tr c := by rw [Fm.tr_mk, Fm.trL_one]; simp
      have hnn : (Fm.mk 4 s [] [x]).nodes = 1 + x.nodes := trQ_nodes
      have hfo := trQ_ok hs hx
      have hw := Fm.ok_wt _ hfo
      have he := errz hfo (by omega)
      refine ⟨?_, ?_, by rw [htr, hnn]; omega⟩
      · rw [translate_size, tree_CheckFormula_eq (by omega), he]
        simp only [bind2_of, if_true, Fm.kind_mk, Fm.args_mk, show ieq 4 1 = false from rfl, show ieq 4 5 = false from rfl, Bool.false_eq_true, if_false, joinB_eq, okLen_of (l := [x]) (by simp), chk_true]
        simp only [forR_cons, forR_nil, a1, bind1_of, ctlK_next, sumK_inl]
        rw [htr, iadd_in (by omega) (by omega)]
        exact congrArg some (by omega)
      · rw [ref20_count]
        simp only [joinB_eq, Fm.kind_mk, Fm.args_mk, show ieq 4 1 = false from rfl, show ieq 4 5 = false from rfl, Bool.false_eq_true, if_false, okLen_of (l := [x]) (by simp), chk_true]
        simp only [forR_cons, forR_nil, a2, bind1_of, ctlK_next, sumK_inl]
        obtain ⟨c1, c2, c3⟩ := cutN_bd (x.tr c)
        rw [htr, iadd_in (by omega) (by omega), imin_sum (n := 1 + x.tr c) (by omega) (by omega)]
    · have htr : (Fm.mk 5 s [] [x]).tr c = 3 + 2 * c + x.tr c := by rw [Fm.tr_mk, Fm.trL_one]; simp
      have hnn : (Fm.mk 5 s [] [x]).nodes = 1 + x.nodes := trQ_nodes
      have hfo : (Fm.mk 5 s [] [x]).ok = true := by rw [Fm.ok_mk]; simp [hx, hs, Fm.node, quantB]
      have hw := Fm.ok_wt _ hfo
      have he := errz hfo (by omega)
      refine ⟨?_, ?_, by rw [htr, hnn]; omega⟩
      · rw [translate_size, tree_CheckFormula_eq (by omega), he]
        simp only [bind2_of, if_true, Fm.kind_mk, Fm.args_mk, show ieq 5 1 = false from rfl, show ieq 5 5 = true from rfl, Bool.false_eq_true, if_false, lget_zero, List.getElem?_cons_zero, bind1_of, a1]
        rw [him, htr, iadd3 (by omega) (by omega) (by omega) (by omega) (by omega) (by omega)]
        exact congrArg some (by omega)
      · rw [ref20_count]
        simp only [joinB_eq, Fm.kind_mk, Fm.args_mk, show ieq 5 1 = false from rfl, show ieq 5 5 = true from rfl, Bool.false_eq_true, if_false, if_true, lget_zero, List.getElem?_cons_zero, bind1_of, a2]
        obtain ⟨c1, c2, c3⟩ := cutN_bd (x.tr c)
        rw [him, htr, iadd3 (by omega) (by omega) (by omega) (by omega) (by omega) (by omega), imin_sum (n := 3 + 2 * c + x.tr c) (by omega) (by omega)]
    · exact (hu1 (.inl rfl)).elim
    · exact (hu1 (.inr rfl)).elim
theorem near1_eq (i b : Int) (s : Bool) : tree_Near_1 i b s = some (s && decide (i ≤ 536870912)) := by
  unfold tree_Near_1 ile
  cases s <;> simp
theorem each_near : ∀ (n : Nat) (t : Tm) (b : Int) (s : Bool), t.nodes ≤ n → t.nodes ≤ 10000000 → t.ok = true → tree_Each_1 n t b (fun (s : Bool) (y0 : Int) (y1 : Int) => tree_Near_1 y0 y1 s) s = some (s && t.least 536870912) := by
  intro n
  induction n with
  | zero => intro t b s h; have := t.nodes_pos; omega
  | succ n ih =>
    intro t b s hn hb ho
    cases t with
    | mk k i ty l =>
      rw [Tm.nodes_mk] at hn hb
      have hll := sumL_len Tm.nodes l fun t _ => t.nodes_pos
      rw [Tm.ok_mk] at ho
      simp only [Bool.and_eq_true, List.all_eq_true] at ho
      have loop : ∀ (us : List Tm) (bb : Int) (j : Nat) (v : Bool), (∀ t ∈ us, t ∈ l) →
          forR (fun (j13 : Int) (x15 : Tm) => (fun (v28 : Bool) =>
            bind1 (tree_Each_1 n x15 bb (fun (s : Bool) (y0 : Int) (y1 : Int) => tree_Near_1 y0 y1 s) v28) fun s38 =>
            some ((.next s38) : Ctl Bool Bool))) us j v = some (.inl (v && us.all (Tm.least 536870912))) := by
        intro us bb
        induction us with
        | nil => intro j v _; simp
        | cons t us iht =>
          intro j v hm
          have htl := hm t (by simp)
          have hmn := sumL_mem Tm.nodes htl
          rw [forR_cons, ih t bb v (by omega) (by omega) (ho.2 t htl)]
          simp only [bind1_of, ctlK_next]
          rw [iht (j + 1) _ (fun u hu => hm u (by simp [hu])), List.all_cons, Bool.and_assoc]
      rw [tree_Each_1, Tm.least_mk]
      have hinv := Tm.ok_inv (k := k) (i := i) (s := ty) (l := l) (by rw [Tm.ok_mk]; simp only [Bool.and_eq_true, List.all_eq_true]; exact ho)
      simp only [Tm.args_mk, Tm.kind_mk, Tm.index_mk, joinB_eq, okLen_of (l := l) (by omega), chk_true, bind1_of]
      have loop' := loop l (sel (ieq k 2) (iadd .i64 b 1) b) 0
      by_cases hk : k = 1
      · have h1 : ieq k 1 = true := by rw [hk]; rfl
        simp only [h1, if_true]
        rw [near1_eq]
        simp only [bind1_of]
        rw [loop' _ (fun t h => h)]
        simp [Bool.and_assoc]
      · have h1 : ieq k 1 = false := by simpa [ieq] using hk
        have hi := hinv.2.2.1 hk
        simp only [h1, Bool.false_eq_true, if_false]
        rw [loop' _ (fun t h => h)]
        simp [hi]
theorem near_eq {t : Tm} (ho : t.ok = true) (hn : t.nodes ≤ 10000000) : tree_Near t = some (t.least 536870912) := by
  unfold tree_Near tree_Each
  rw [each_near FU t 0 true (by rw [FU_eq]; omega) hn ho]
  simp
theorem eachTerm_near : ∀ (n : Nat) (f : Fm) (b : Int) (s : Bool), f.nodes ≤ n → f.nodes ≤ 10000000 → f.ok = true → tree_EachTerm n f b (fun (s : Bool) (y0 : Tm) (y1 : Int) => tree_NearFormula_1 y0 y1 s) s = some (s && f.least 536870912) := by
  intro n
  induction n with
  | zero => intro f b s h; have := f.nodes_pos; omega
  | succ n ih =>
    intro f b s hn hb ho
    cases f with
    | mk k ty ts l =>
      rw [Fm.nodes_mk] at hn hb
      have hlt := sumL_len Tm.nodes ts fun t _ => t.nodes_pos
      have hll := sumL_len Fm.nodes l fun t _ => t.nodes_pos
      obtain ⟨_, hot, hol⟩ := Fm.ok_parts ho
      have one : ∀ t ∈ ts, ∀ (bb : Int) (v : Bool), tree_NearFormula_1 t bb v = some (v && t.least 536870912) := by
        intro t ht bb v
        have hmn := sumL_mem Tm.nodes ht
        unfold tree_NearFormula_1
        cases v with
        | true => simp [near_eq (hot t ht) (by omega)]
        | false => simp
      have loop1 : ∀ (us : List Tm) (j : Nat) (v : Bool), (∀ t ∈ us, t ∈ ts) →
          forR (fun (j17 : Int) (x19 : Tm) => (fun (v32 : Bool) =>
            bind1 (tree_NearFormula_1 x19 b v32) fun x42 =>
            some ((.next x42) : Ctl Bool Bool))) us j v = some (.inl (v && us.all (Tm.least 536870912))) := by
        intro us
        induction us with
        | nil => intro j v _; simp
        | cons t us iht =>
          intro j v hm
          rw [forR_cons, one t (hm t (by simp))]
          simp only [bind1_of, ctlK_next]
          rw [iht (j + 1) _ (fun u hu => hm u (by simp [hu])), List.all_cons, Bool.and_assoc]
      have loop2 : ∀ (bb : Int) (us : List Fm) (j : Nat) (v : Bool), (∀ t ∈ us, t ∈ l) →
          forR (fun (j57 : Int) (x59 : Fm) => (fun (v72 : Bool) =>
            bind1 (tree_EachTerm n x59 bb (fun (s : Bool) (y0 : Tm) (y1 : Int) => tree_NearFormula_1 y0 y1 s) v72) fun s82 =>
            some ((.next s82) : Ctl Bool Bool))) us j v = some (.inl (v && us.all (Fm.least 536870912))) := by
        intro bb us
        induction us with
        | nil => intro j v _; simp
        | cons t us iht =>
          intro j v hm
          have htl := hm t (by simp)
          have hmn := sumL_mem Fm.nodes htl
          rw [forR_cons, ih t bb v (by omega) (by omega) (hol t htl)]
          simp only [bind1_of, ctlK_next]
          rw [iht (j + 1) _ (fun u hu => hm u (by simp [hu])), List.all_cons, Bool.and_assoc]
      rw [tree_EachTerm, Fm.least_mk]
      simp only [Fm.args_mk, Fm.kind_mk, Fm.terms_mk, joinB_eq]
      rw [okLen_of (by omega), chk_true, loop1 ts 0 s (fun t h => h)]
      simp only [bind1_of, sumK_inl]
      rw [tree_Quantifier_eq, bind1_of]
      by_cases hq : quantB k = true
      · rw [if_pos hq, okLen_of (by omega), chk_true, loop2 _ l 0 _ (fun t h => h)]
        simp [Bool.and_assoc]
      · rw [if_neg hq, okLen_of (by omega), chk_true, loop2 _ l 0 _ (fun t h => h)]
        simp [Bool.and_assoc]
theorem nearF_eq {f : Fm} (ho : f.ok = true) (hn : f.nodes ≤ 10000000) : tree_NearFormula f = some (f.least 536870912) := by
  unfold tree_NearFormula
  rw [eachTerm_near FU f 0 true (by rw [FU_eq]; omega) hn ho]
  simp
theorem uni_eq : ∀ (n : Nat) (f : Fm), f.nodes ≤ n → f.nodes ≤ 10000000 → ref20_uniform n f = some f.uni := by
  intro n
  induction n with
  | zero => intro f h; have := f.nodes_pos; omega
  | succ n ih =>
    intro f h hb
    cases f with
    | mk k s ts l =>
      rw [Fm.nodes_mk] at h hb
      have hll := sumL_len Fm.nodes l fun t _ => t.nodes_pos
      have huL : ∀ us : List Fm, Fm.uniL us = us.any Fm.uni := by
        intro us
        induction us with
        | nil => rfl
        | cons x us ih => rw [Fm.uniL, List.any_cons, ih]
      rw [ref20_uniform, Fm.uni_mk, huL]
      have hs : sel (ieq k 6) true (ieq k 7) = decide (k = 6 ∨ k = 7) := by
        by_cases h6 : k = 6 <;> by_cases h7 : k = 7 <;> simp [sel, ieq, h6, h7]
      simp only [Fm.args_mk, Fm.kind_mk, joinB_eq, hs]
      have key := forR_ok (ρ := Bool) (F := fun (j : Int) (x : Fm) (_ : Unit) => bind1 (ref20_uniform n x) fun b => if b = true then some (.ret true) else some (.next ())) (fun x => !x.uni) true l 0 (by
        intro j x hx
        have := sumL_mem Fm.nodes hx
        rw [ih x (by omega) (by omega)]
        simp only [bind1_of]
        cases x.uni <;> rfl)
      cases hd : decide (k = 6 ∨ k = 7) with
      | true => simp
      | false =>
        simp only [Bool.false_eq_true, if_false, okLen_of (l := l) (by omega), chk_true, Bool.false_or]
        rw [key]
        have : l.all (fun x => !x.uni) = !(l.any Fm.uni) := by
          clear key hll h hb
          induction l with
          | nil => rfl
          | cons x l ihl => rw [List.all_cons, List.any_cons, ihl, Bool.not_or]
        cases ha : l.any Fm.uni with
        | true => rw [this, ha]; rfl
        | false => rw [this, ha]; rfl
end Go.Mdl

/-
  The translation of formulas: the law TranslateDoes.
-/
set_option maxRecDepth 20000
namespace Go.Mdl
open Go

/-- The error of the first look at an answer and a formula. -/
def lookE (a f : Fm) : Int :=
  if a.err = 0 then if f.err = 0 then if f.uni = true then 10 else if a.least 536870912 = true then if 4096 < f.tr a.nodes then 4 else 0 else 1 else f.err else a.err
theorem lift01 {a : Fm} (he : a.err = 0) (hw : a.wt ≤ 1000000000) : ∃ x, formula_Lift a 0 1 = some (x, if a.least 536870912 = true then 0 else 1) := by
  obtain ⟨ho, hn⟩ := Fm.err_ok he
  unfold formula_Lift
  rw [formula_Check_eq hw, bind1_of, he]
  simp only [show ine (0 : Int) 0 = false from rfl, Bool.false_eq_true, if_false, joinB_eq]
  rw [show formula_within 0 = some true from rfl, show formula_within 1 = some true from rfl]
  simp only [bind1_of, if_true]
  rw [nearF_eq ho (by omega), bind1_of]
  cases hl : a.least 536870912 with
  | true =>
    simp only [show bnot true = false from rfl, Bool.false_eq_true, if_false, if_true]
    rw [tree_LiftFormula_eq ho (by omega) (Fm.least_mono _ (by omega) hl) (by omega) (by omega) (by omega) (by omega)]
    exact ⟨_, rfl⟩
  | false => exact ⟨_, rfl⟩
theorem Fm.err_case (f : Fm) : f.err = 0 ∨ f.err = 2 ∨ f.err = 4 := by
  unfold Fm.err
  split
  · split
    · exact .inr (.inr rfl)
    · exact .inl rfl
  · exact .inr (.inl rfl)
theorem ine0_true {e : Int} (h : ¬ e = 0) : ine e 0 = true := by simpa [ine] using h
theorem look_both {a f : Fm} (ha : a.wt ≤ 1000000000) (hf : f.wt ≤ 1000000000) : translate_look a f = some (lookE a f) ∧ ref20_checked a f = some (lookE a f) := by
  unfold translate_look ref20_checked lookE
  rw [formula_Check_eq ha, formula_Check_eq hf, ref07_Check_eq ha, ref07_Check_eq hf]
  simp only [bind1_of]
  by_cases hae : a.err = 0
  · by_cases hfe : f.err = 0
    · obtain ⟨hao, han⟩ := Fm.err_ok hae
      obtain ⟨hfo, hfn⟩ := Fm.err_ok hfe
      rw [uniform_fun, uni_eq FU f (by rw [FU_eq]; omega) (by omega)]
      simp only [hae, hfe, show ine (0 : Int) 0 = false from rfl, Bool.false_eq_true, if_false, if_true, bind1_of]
      cases hu : f.uni with
      | true => exact ⟨rfl, rfl⟩
      | false =>
        simp only [Bool.false_eq_true, if_false]
        obtain ⟨x, hx⟩ := lift01 hae ha
        rw [hx, ref07_Least_eq FU a 536870912 (by rw [FU_eq]; omega) (by omega)]
        simp only [bind2_of, bind1_of]
        cases hl : a.least 536870912 with
        | false => exact ⟨rfl, rfl⟩
        | true =>
          simp only [if_true, show ine (0 : Int) 0 = false from rfl, Bool.false_eq_true, if_false]
          rw [tree_CheckFormula_eq ha, if_pos hae, ref07_Count_eq FU a (by rw [FU_eq]; omega) (by omega)]
          simp only [bind2_of, bind1_of]
          obtain ⟨s1, s2, s3⟩ := size_eq (c := a.nodes) han f hfo hu hfn FU (by rw [FU_eq]; omega)
          rw [s1, s2]
          simp only [bind1_of, igt_iff]
          have hc := cutN_bd (f.tr a.nodes)
          by_cases hs : 4096 < f.tr a.nodes
          · rw [if_pos hs, if_pos (by omega), if_pos (by omega)]; exact ⟨rfl, rfl⟩
          · rw [if_neg hs, if_neg (by omega), if_neg (by omega)]; exact ⟨rfl, rfl⟩
    · simp only [hae, show ine (0 : Int) 0 = false from rfl, Bool.false_eq_true, if_false, if_true, ine0_true hfe, hfe]
      exact ⟨trivial, trivial⟩
  · simp only [ine0_true hae, hae, if_true, if_false]
    exact ⟨trivial, trivial⟩
theorem lookE_zero {a f : Fm} (h : lookE a f = 0) : Ans a ∧ f.err = 0 ∧ f.uni = false ∧ f.tr a.nodes ≤ 4096 := by
  unfold lookE at h
  split at h
  · rename_i ha
    split at h
    · rename_i hf
      split at h
      · cases h
      · rename_i hu
        split at h
        · rename_i hl
          split at h
          · cases h
          · exact ⟨⟨(Fm.err_ok ha).1, (Fm.err_ok ha).2, hl⟩, hf, by simpa using hu, by omega⟩
        · cases h
    · exact absurd h (by assumption)
  · exact absurd h (by assumption)
theorem lookE_of {a f : Fm} (ha : Ans a) (hf : f.err = 0) (hu : f.uni = false) (ht : f.tr a.nodes ≤ 4096) : lookE a f = 0 := by
  unfold lookE
  rw [if_pos (Fm.err_of ha.ok ha.nodes), if_pos hf, if_neg (by simp [hu]), if_pos ha.least, if_neg (by omega)]
/-- The translation, where there is one. -/
theorem formula_yes {a f : Fm} (ha : a.wt ≤ 1000000000) (hf : f.wt ≤ 1000000000) (h : lookE a f = 0) :
    ∃ r, tr_formula FU a f 0 = some r ∧ ref20_T FU a f = some r ∧ translate_Formula a f = some (r, 0) ∧ ref20_Formula a f = some (r, 0) ∧ r.ok = true ∧ r.nodes = f.tr a.nodes := by
  obtain ⟨h1, h2, h3, h4⟩ := lookE_zero h
  obtain ⟨hfo, hfn⟩ := Fm.err_ok h2
  obtain ⟨l1, l2⟩ := look_both ha hf
  obtain ⟨r, r1, r2, r3, r4⟩ := T_eq h1 f hfo h3 0 FU FU (by omega) (by rw [FU_eq]; omega) (by rw [FU_eq]; omega) (by omega)
  rw [show ((0 : Nat) : Int) = 0 from rfl, Fm.up_zero] at r2
  refine ⟨r, r1, r2, ?_, ?_, r3, r4⟩
  · unfold translate_Formula
    rw [l1, h, r1]
    simp only [bind1_of, show ine (0 : Int) 0 = false from rfl, Bool.false_eq_true, if_false]
    rw [own_eq r3 (by omega)]
    rfl
  · unfold ref20_Formula
    rw [l2, h, r2]
    simp only [bind1_of, show ine (0 : Int) 0 = false from rfl, Bool.false_eq_true, if_false]
    rw [ref07_Copy' (trSmall_wt r3 (by omega))]
    rfl
theorem formula_no {a f : Fm} (ha : a.wt ≤ 1000000000) (hf : f.wt ≤ 1000000000) (h : ¬ lookE a f = 0) :
    translate_Formula a f = some (Fm.mk 0 (Ty.mk 0 []) [] [], lookE a f) ∧ ref20_Formula a f = some (Fm.mk 0 (Ty.mk 0 []) [] [], lookE a f) := by
  obtain ⟨l1, l2⟩ := look_both ha hf
  unfold translate_Formula ref20_Formula
  rw [l1, l2]
  simp only [bind1_of, ine0_true h, if_true]
  exact ⟨trivial, trivial⟩
theorem formula_both {a f : Fm} (ha : a.wt ≤ 1000000000) (hf : f.wt ≤ 1000000000) : ∃ r e, translate_Formula a f = some (r, e) ∧ ref20_Formula a f = some (r, e) ∧ r.wt ≤ 1000000000 := by
  by_cases h : lookE a f = 0
  · obtain ⟨r, -, -, h1, h2, h3, h4⟩ := formula_yes ha hf h
    obtain ⟨-, -, -, h5⟩ := lookE_zero h
    exact ⟨r, 0, h1, h2, trSmall_wt h3 (by omega)⟩
  · obtain ⟨h1, h2⟩ := formula_no ha hf h
    exact ⟨_, _, h1, h2, by rw [Fm.wt_mk]; have : (Ty.mk 0 []).nodes = 1 := rfl; simp only [sumL]; omega⟩
theorem fmSame_self {x : Fm} (h : x.wt ≤ 1000000000) : ref07_Same FU x x = some true := by
  obtain ⟨r, h1, h2⟩ := ref07_Same_eq FU x x (by rw [FU_eq]; omega) h
  rw [h1, h2.2 rfl]
theorem law20_sane_eq : law20_sane = some true := by
  obtain ⟨n0, a1, a2⟩ := mk_Num_ok 0 (by omega) (by omega)
  obtain ⟨n1, b1, b2⟩ := mk_Num_ok 1 (by omega) (by omega)
  obtain ⟨n2, c1, c2⟩ := mk_Num_ok 2 (by omega) (by omega)
  have w0 := n0.ok_wt (a2 []).1.ok
  have w1 := n1.ok_wt (b2 []).1.ok
  have w2 := n2.ok_wt (c2 []).1.ok
  have l0 := (a2 []).2
  have l1 := (b2 []).2
  have l2 := (c2 []).2
  unfold law20_sane
  rw [a1, b1, c1]
  simp only [bind1_of, joinB_eq]
  rw [Eq_eq (by omega) (by omega), Eq_eq (by omega) (by omega)]
  simp only [bind1_of]
  have t0 : FmTy [] (.mk 1 .z [n0, n0] []) := .eq (a2 []).1 (a2 []).1
  have t1 : FmTy [] (.mk 1 .z [n1, n2] []) := .eq (b2 []).1 (c2 []).1
  have e0 : (Fm.mk 1 .z [n0, n0] []).nodes = 3 := by rw [Fm.nodes_mk]; simp only [sumL]; omega
  have e1 : (Fm.mk 1 .z [n1, n2] []).nodes = 6 := by rw [Fm.nodes_mk]; simp only [sumL]; omega
  have q0 : (Fm.mk 1 .z [n0, n0] []).wt ≤ 1000000 := by have := Fm.ok_wt _ t0.ok; omega
  have q1 : (Fm.mk 1 .z [n1, n2] []).wt ≤ 1000000 := by have := Fm.ok_wt _ t1.ok; omega
  have hl : lookE (.mk 1 .z [n1, n2] []) (.mk 1 .z [n0, n0] []) = 0 := by
    refine lookE_of ⟨t1.ok, by omega, t1.least _ (by rw [e1]; simp)⟩ (Fm.err_of t0.ok (by omega)) ?_ ?_
    · rw [Fm.uni_mk]; simp [Fm.uniL]
    · rw [Fm.tr_mk, if_pos rfl, e1]; simp only [sumL]; omega
  obtain ⟨r, r1, r2, r3, r4, r5, r6⟩ := formula_yes (by omega) (by omega) hl
  rw [r3]
  simp only [bind2_of, show ieq (0 : Int) 0 = true from rfl, if_true]
  obtain ⟨m, hm⟩ : ∃ m, FU = m + 1 := ⟨FU - 1, by rw [FU_eq]⟩
  have hr : r = Fm.mk 3 .z [] [Fm.mk 3 .z [] [.mk 1 .z [n0, n0] [], .mk 1 .z [n1, n2] []], .mk 1 .z [n1, n2] []] := by
    rw [hm, tr_formula] at r1
    simp only [Fm.kind_mk, show ieq (1 : Int) 1 = true from rfl, if_true, tr_ans, bind1_of, translate_imp, tree_Form, Option.some.injEq] at r1
    exact r1.symm
  rw [Two_eq (by omega) (by omega), bind1_of]
  rw [Two_eq (by rw [Fm.wt_mk]; simp only [sumL]; have : Ty.z.nodes = 1 := rfl; omega) (by omega), bind1_of, ← hr, fmSame_self (trSmall_wt r5 (by rw [hr] at r6; rw [hr, r6, Fm.tr_mk, if_pos rfl, e1]; simp only [sumL]; omega))]
  rfl
theorem mk_Pure_ok : ∀ (n k : Nat) (g : List Ty) (d : Smk_Deck), k < n → k ≤ 5 → g.length + k ≤ 500 → CtxOk 3 g → d.wf → FmGood g (fb k) (mk_Pure n d g (k : Int)) := by
  intro n
  induction n with
  | zero => intro k g d h; omega
  | succ n ih =>
    intro k g d hk hk5 hlen hg hd
    rw [mk_Pure]
    refine good_join (G := FmGood g (fb k)) Smk_Deck.wf ?_ ?_
    · intro d1 hd1
      rw [ref01_Nat_eq]
      simp only [bind1_of]
      obtain ⟨a, d2, a1, a2, a3⟩ := mk_Term' 3 (by omega) (by omega) 1 (by omega) g .nat d1 (by omega) hg Ty.nat_err (by rw [Ty.nat_nodes]; omega) hd1
      rw [show ((1 : Nat) : Int) = 1 from rfl] at a1
      rw [a1]
      simp only [bind2_of]
      obtain ⟨b, d3, b1, b2, b3⟩ := mk_Term' 3 (by omega) (by omega) 1 (by omega) g .nat d2 (by omega) hg Ty.nat_err (by rw [Ty.nat_nodes]; omega) a2
      rw [show ((1 : Nat) : Int) = 1 from rfl] at b1
      rw [b1]
      simp only [bind2_of]
      have e : tb 3 1 = 57 := rfl
      rw [e] at a3 b3
      rw [Eq_eq (by have := a3.wt; omega) (by have := b3.wt; omega)]
      refine FmGood.of b2 (.eq a3.ty b3.ty) ?_
      have := a3.nodes; have := b3.nodes
      have h0 : 115 ≤ fb k := by
        clear hk hk5 hlen ih
        induction k with
        | zero => simp [fb]
        | succ k ih => simp only [fb]; omega
      rw [Fm.nodes_mk]; simp only [sumL]; omega
    · intro j hj
      simp only [igt_iff]
      split
      · rename_i hpos
        obtain ⟨m, rfl⟩ : ∃ m, k = m + 1 := ⟨k - 1, by omega⟩
        have e1 : isub .i64 ((m + 1 : Nat) : Int) 1 = (m : Int) := by rw [isub_in (by omega) (by omega)]; omega
        have hbd := fb_bd m (by omega)
        have deep : ∀ g' d', g'.length ≤ g.length + 1 → CtxOk 3 g' → d'.wf → FmGood g' (fb m) (mk_Pure n d' g' (isub .i64 ((m + 1 : Nat) : Int) 1)) := by
          intro g' d' h1 h2 h3
          rw [e1]
          exact ih m g' d' (by omega) (by omega) (by omega) h2 h3
        have ctx : ∀ s : Ty, s.err = 0 → s.nodes ≤ 3 → CtxOk 3 (g ++ [s]) := fun s h1 h2 => hg.app (by intro u hu; rw [List.mem_singleton] at hu; subst hu; exact ⟨h1, h2⟩)
        obtain ⟨x, d2, h1, h2, h3, h4⟩ := next_ok d hd 7 (by omega) (by omega)
        rw [h1]
        simp only [bind2_of, sel_or, Bool.or_eq_true, ieq_iff]
        have two : ∀ kk : Int, kk = 2 ∨ kk = 3 → FmGood g (fb (m + 1)) (bind2 (mk_Pure n d2 g (isub .i64 ((m + 1 : Nat) : Int) 1)) fun x316 d317 => bind2 (mk_Pure n d317 g (isub .i64 ((m + 1 : Nat) : Int) 1)) fun x320 d321 => bind1 (ref07_Two kk x316 x320) fun x324 => some (x324, d321)) := by
          intro kk hkk
          obtain ⟨a, d3, a1, a2, a3⟩ := deep g d2 (by omega) hg h4
          rw [a1]
          simp only [bind2_of]
          obtain ⟨b, d4, b1, b2, b3⟩ := deep g d3 (by omega) hg a2
          rw [b1]
          simp only [bind2_of]
          rw [Two_eq (by have := a3.wt; omega) (by have := b3.wt; omega)]
          refine FmGood.of b2 (.two hkk a3.ty b3.ty) ?_
          have := a3.nodes; have := b3.nodes
          rw [Fm.nodes_mk]; simp only [sumL, fb]; omega
        split
        · exact two 2 (.inl rfl)
        split
        · exact two 3 (.inr rfl)
        have one : ∀ kk : Int, kk = 4 ∨ kk = 5 → FmGood g (fb (m + 1)) (bind2 (mk_Type FU d2 0) fun x413 d414 => bind1 (mk_longer g [x413]) fun x429 => bind2 (mk_Pure n d414 x429 (isub .i64 ((m + 1 : Nat) : Int) 1)) fun x432 d433 => bind1 (ref07_Q kk x413 x432) fun x436 => some (x436, d433)) := by
          intro kk hkk
          obtain ⟨s, d3, s1, s2, s3, s4⟩ := mk_Type' d2 h4 0 (by omega)
          rw [show ((0 : Nat) : Int) = 0 from rfl] at s1
          rw [s1]
          simp only [bind2_of]
          rw [mk_longer_eq g [s] (by simp; omega)]
          simp only [bind1_of]
          obtain ⟨a, d4, a1, a2, a3⟩ := deep (g ++ [s]) d3 (by simp) (ctx s s2 (by omega)) s4
          rw [a1]
          simp only [bind2_of]
          rw [Q_eq (by omega) (by have := a3.wt; omega)]
          refine FmGood.of a2 (.q (by omega) s2 a3.ty) ?_
          have := a3.nodes
          rw [Fm.nodes_mk]; simp only [sumL, fb]; omega
        split
        · exact one 4 (.inl rfl)
        split
        · exact one 5 (.inr rfl)
        · exact hj d2 h4
      · exact hj d hd
theorem forR_fin {α σ ρ τ : Type} {F : Int → α → σ → Option (Ctl σ ρ)} {K : σ ⊕ ρ → Option τ} {r : Option τ} {l : List α} {s : σ} (I : σ → Prop) (hs : I s)
    (h : ∀ (k : Nat) x s, l[k]? = some x → I s → ∃ s', F (k : Int) x s = some (.next s') ∧ I s') (hK : ∀ s, I s → K (.inl s) = r) : bind1 (forR F l 0 s) K = r := by
  obtain ⟨s', h1, h2⟩ := forR_ind I l 0 s hs (fun k x s hk hi => by rw [Nat.zero_add]; exact h k x s hk hi)
  rw [h1, bind1_of]
  exact hK s' h2
theorem forR_next {α ρ : Type} {F : Int → α → Unit → Option (Ctl Unit ρ)} : ∀ {l : List α} {i : Nat}, (∀ j x, x ∈ l → F j x () = some (.next ())) → forR F l i () = some (.inl ())
  | [], i, _ => rfl
  | x :: l, i, h => by
    rw [forR_cons, h _ x (by simp)]
    simp only [bind1_of, ctlK_next]
    exact forR_next fun j y hy => h j y (by simp [hy])
theorem law20_forms_eq (x : Fm) : ∃ r : Int, law20_forms x = some r ∧ 1 ≤ r ∧ r ≤ 20002 ∧ (r ≤ 20000 → r = x.wt) := by
  obtain ⟨r, h1, h2, h3, h4⟩ := mk_CountFormula_eq FU x 20000 (by omega) (by omega) (by rw [FU_eq]; omega)
  refine ⟨r, ?_, h2, by omega, h4⟩
  unfold law20_forms
  rw [h1]
  rfl
theorem law_TranslateDoes (a0 : List Int) (a1 a2 : Fm) : law20_TranslateDoes a0 a1 a2 = some true := by
  obtain ⟨n1, f1, g1, k1, w1⟩ := law20_forms_eq a1
  obtain ⟨n2, f2, g2, k2, w2⟩ := law20_forms_eq a2
  unfold law20_TranslateDoes mk_Few
  rw [law20_sane_eq]
  simp only [bind1_of, if_true, ile_iff, llen_eq, joinB_eq, f1, f2, igt_iff]
  by_cases h : (a0.length : Int) ≤ 500
  · rw [if_pos h]
    by_cases h1 : 400 < n1
    · rw [if_pos h1]
    · rw [if_neg h1]
      by_cases h2 : 400 < n2
      · rw [if_pos h2]
      · rw [if_neg h2]
        have w1 := w1 (by omega)
        have w2 := w2 (by omega)
        unfold mk_New
        simp only [bind1_of]
        have hd : (Smk_Deck.mk a0 0).wf := ⟨by show a0.length ≤ 1000; omega, by show (0 : Int) ≤ 0; omega, by show (0 : Int) ≤ (a0.length : Int); omega⟩
        obtain ⟨g, d, c1, c2, c3, c4⟩ := mk_Context_ok _ hd
        rw [c1]
        simp only [bind2_of]
        obtain ⟨x, d', x1, x2, x3⟩ := mk_Pure_ok FU 1 g d (by rw [FU_eq]; omega) (by omega) (by omega) c4 c2
        rw [show ((1 : Nat) : Int) = 1 from rfl] at x1
        rw [x1]
        simp only [bind2_of]
        obtain ⟨y, d'', y1, y2, y3⟩ := mk_Pure_ok FU 3 g d' (by rw [FU_eq]; omega) (by omega) (by omega) c4 x2
        rw [show ((3 : Nat) : Int) = 3 from rfl] at y1
        rw [y1]
        simp only [bind2_of]
        have hx := x3.wt
        have hy := y3.wt
        have bx := fb_bd 1 (by omega)
        have by' := fb_bd 3 (by omega)
        simp only [okLen_of (l := [a1, x, a2]) (by simp), chk_true]
        refine forR_fin Smk_Deck.wf y2 (fun j p d3 hp hd3 => ?_) fun d5 _ => rfl
        have hp : p.wt ≤ 1000000000 := by
          have hp := List.mem_of_getElem? hp
          simp only [List.mem_cons, List.not_mem_nil, or_false] at hp
          rcases hp with rfl | rfl | rfl <;> omega
        obtain ⟨z, d4, z1, z2, z3⟩ := mk_Formula_ok FU 2 g d3 (by rw [FU_eq]; omega) (by omega) (by omega) c4 hd3
        rw [show ((2 : Nat) : Int) = 2 from rfl] at z1
        have hz := z3.wt
        have bz := fb_bd 2 (by omega)
        rw [z1]
        simp only [bind2_of, okLen_of (l := [a2, y, z]) (by simp), chk_true]
        refine ⟨d4, ?_, z2⟩
        rw [forR_next]
        · rfl
        intro i q hq
        have hq : q.wt ≤ 1000000000 := by
          simp only [List.mem_cons, List.not_mem_nil, or_false] at hq
          rcases hq with rfl | rfl | rfl <;> omega
        obtain ⟨r, e, r1, r2, r3⟩ := formula_both hp hq
        rw [r1, r2]
        simp only [bind2_of, show ine e e = false by simp [ine], Bool.false_eq_true, if_false]
        rw [fmSame_self r3]
        rfl
  · rw [if_neg h]
end Go.Mdl
