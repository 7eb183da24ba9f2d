/-
  Terms: lifting, putting, counting, and how great indices are.
-/
import Derived.Test.YtanjokijgbgcpaaGreatDoorPc
set_option linter.unusedSimpArgs false
set_option linter.unusedVariables false
namespace Go.Mdl
open Go

/-- Below a node there is a variable more. -/
def lamB (k : Int) : Int := if k = 2 then 1 else 0
theorem lamB_bd (k : Int) : 0 ≤ lamB k ∧ lamB k ≤ 1 := by unfold lamB; split <;> omega
theorem ref03_below_eq (t : Tm) : ref03_below t = some (lamB t.kind) := by
  unfold ref03_below lamB
  simp only [ieq_iff]
  split <;> rfl

mutual
def Tm.up (f b : Int) : Tm → Tm
  | .mk k i s l => .mk k (if k = 1 ∧ f ≤ i then i + b else i) s (Tm.upL (f + lamB k) b l)
def Tm.upL (f b : Int) : List Tm → List Tm
  | [] => []
  | t :: l => t.up f b :: Tm.upL f b l
end
theorem Tm.upL_eq (f b : Int) (l : List Tm) : Tm.upL f b l = l.map (Tm.up f b) := by
  induction l with
  | nil => rfl
  | cons t l ih => simp [Tm.upL, ih]
theorem Tm.up_mk (f b k i : Int) (s : Ty) (l : List Tm) : (Tm.mk k i s l).up f b = .mk k (if k = 1 ∧ f ≤ i then i + b else i) s (l.map (Tm.up (f + lamB k) b)) := by rw [Tm.up, Tm.upL_eq]
mutual
def Tm.least (m : Int) : Tm → Bool
  | .mk _ i _ l => decide (i ≤ m) && Tm.leastL m l
def Tm.leastL (m : Int) : List Tm → Bool
  | [] => true
  | t :: l => t.least m && Tm.leastL m l
end
theorem Tm.leastL_eq (m : Int) (l : List Tm) : Tm.leastL m l = l.all (Tm.least m) := by
  induction l with
  | nil => rfl
  | cons t l ih => simp [Tm.leastL, ih]
theorem Tm.least_mk (m k i : Int) (s : Ty) (l : List Tm) : (Tm.mk k i s l).least m = (decide (i ≤ m) && l.all (Tm.least m)) := by rw [Tm.least, Tm.leastL_eq]
mutual
def Tm.times (a : Int) : Tm → Nat
  | .mk k i _ l => (if k = 1 ∧ i = a then 1 else 0) + Tm.timesL (a + lamB k) l
def Tm.timesL (a : Int) : List Tm → Nat
  | [] => 0
  | t :: l => t.times a + Tm.timesL a l
end
theorem Tm.timesL_eq (a : Int) (l : List Tm) : Tm.timesL a l = sumL (Tm.times a) l := by
  induction l with
  | nil => rfl
  | cons t l ih => simp [Tm.timesL, sumL, ih]
theorem Tm.times_mk (a k i : Int) (s : Ty) (l : List Tm) : (Tm.mk k i s l).times a = (if k = 1 ∧ i = a then 1 else 0) + sumL (Tm.times (a + lamB k)) l := by rw [Tm.times, Tm.timesL_eq]
theorem Tm.times_nodes (t : Tm) : ∀ a, t.times a ≤ t.nodes := by
  induction t using Tm.ind with
  | h k i s l ih =>
    intro a
    rw [Tm.times_mk, Tm.nodes_mk]
    have := sumL_le (f := Tm.times (a + lamB k)) (g := Tm.nodes) (l := l) fun x hx => ih x hx _
    split <;> omega
/-- A term in place of a variable, which is taken away; 'n': the variable, with the Lams above. -/
def Tm.innVar (n i : Int) (s : Tm) (t : Tm) : Tm := if i = n then s.up 0 n else if n < i then .mk 1 (i - 1) (.mk 0 []) [] else t
mutual
def Tm.inn : Int → Tm → Tm → Tm
  | n, .mk k i ty l, s => if k = 1 then Tm.innVar n i s (.mk k i ty l) else .mk k i ty (Tm.innL (n + lamB k) l s)
def Tm.innL : Int → List Tm → Tm → List Tm
  | _, [], _ => []
  | n, t :: l, s => Tm.inn n t s :: Tm.innL n l s
end
theorem Tm.innL_eq (n : Int) (s : Tm) (l : List Tm) : Tm.innL n l s = l.map (fun x => Tm.inn n x s) := by
  induction l with
  | nil => rfl
  | cons t l ih => simp [Tm.innL, ih]
theorem Tm.inn_mk (n : Int) (s : Tm) (k i : Int) (ty : Ty) (l : List Tm) : Tm.inn n (Tm.mk k i ty l) s = if k = 1 then Tm.innVar n i s (.mk k i ty l) else .mk k i ty (l.map (fun x => Tm.inn (n + lamB k) x s)) := by rw [Tm.inn, Tm.innL_eq]

theorem Tm.up_nodes (t : Tm) : ∀ f b, (t.up f b).nodes = t.nodes := by
  induction t using Tm.ind with
  | h k i s l ih =>
    intro f b
    rw [Tm.up_mk, Tm.nodes_mk, Tm.nodes_mk, sumL_map]
    rw [sumL_congr fun x hx => ih x hx _ _]
theorem Tm.up_wt (t : Tm) : ∀ f b, (t.up f b).wt = t.wt := by
  induction t using Tm.ind with
  | h k i s l ih =>
    intro f b
    rw [Tm.up_mk, Tm.wt_mk, Tm.wt_mk, sumL_map]
    rw [sumL_congr fun x hx => ih x hx _ _]
theorem all_map_congr {α β : Type} {p : β → Bool} {q : α → Bool} {g : α → β} {l : List α} (h : ∀ x ∈ l, p (g x) = q x) : (l.map g).all p = l.all q := by
  induction l with
  | nil => rfl
  | cons x l ih => simp only [List.map_cons, List.all_cons, h x (by simp), ih fun y hy => h y (by simp [hy])]
/-- An index that is greater does not change the form. -/
theorem Tm.node_index {k i j : Int} {s : Ty} {n : Nat} (h : k = 1 ∧ 0 ≤ i ∧ 0 ≤ j ∨ i = j) : Tm.node k i s n = Tm.node k j s n := by
  rcases h with ⟨rfl, h1, h2⟩ | rfl
  · simp [Tm.node, h1, h2]
  · rfl
theorem Tm.up_ok (t : Tm) : ∀ f b, 0 ≤ f → 0 ≤ b → (t.up f b).ok = t.ok := by
  induction t using Tm.ind with
  | h k i s l ih =>
    intro f b hf hb
    rw [Tm.up_mk, Tm.ok_mk, Tm.ok_mk, List.length_map, all_map_congr fun x hx => ih x hx (f + lamB k) b (by have := lamB_bd k; omega) hb]
    congr 1
    apply Tm.node_index
    split
    · rename_i hc
      left; omega
    · right; rfl

theorem ref03_Least_eq : ∀ (n : Nat) (t : Tm) (m : Int), t.nodes ≤ n → t.nodes ≤ 1000000000 → ref03_Least n t m = some (t.least m) := by
  intro n
  induction n with
  | zero => intro t m h; have := t.nodes_pos; omega
  | succ n ih =>
    intro t m h hb
    cases t with
    | mk k i s l =>
      rw [Tm.nodes_mk] at h hb
      have hl := Tm.len_nodes l
      have key : forR (fun (j276 : Int) (x278 : Tm) (_ : Unit) => bind1 (ref03_Least n x278 m) fun x414 => if x414 = true then some (Ctl.next ()) else some (Ctl.ret false)) l 0 () =
          if l.all (Tm.least m) = true then some (.inl ()) else some (.inr false) := by
        refine forR_ok (Tm.least m) _ l 0 ?_
        intro j x hx
        have := sumL_mem Tm.nodes hx
        rw [ih x m (by omega) (by omega)]
        rfl
      rw [ref03_Least]
      simp only [Tm.args_mk, Tm.index_mk, joinB_eq, okLen_of (l := l) (by omega), chk_true, key, igt_iff, Tm.least_mk]
      by_cases h1 : m < i
      · have : ¬ i ≤ m := by omega
        simp [h1, this]
      · have : i ≤ m := by omega
        cases h2 : l.all (Tm.least m) <;> simp [h1, this]
theorem ref03_Up_eq : ∀ (n : Nat) (t : Tm) (f b : Int), t.nodes ≤ n → t.nodes ≤ 1000000000 → 0 ≤ f → f + t.nodes ≤ 10000000000 → 0 ≤ b → b ≤ 10000000000 → t.least 1000000000000 = true →
    ref03_Up n t f b = some (t.up f b) := by
  intro n
  induction n with
  | zero => intro t f b h; have := t.nodes_pos; omega
  | succ n ih =>
    intro t f b h hbn hf hf2 hb hb2 hi
    cases t with
    | mk k i s l =>
      rw [Tm.nodes_mk] at h hbn hf2
      rw [Tm.least_mk] at hi
      simp only [Bool.and_eq_true, decide_eq_true_eq, List.all_eq_true] at hi
      have hl := Tm.len_nodes l
      have hk := lamB_bd k
      rw [ref03_Up]
      simp only [Tm.args_mk, Tm.index_mk, Tm.kind_mk, Tm.typeF_mk, joinB_eq, okLen_of (l := l) (by omega), chk_true]
      rw [forR_map (Tm.up (f + lamB k) b) l 0 [] (by simp; omega)]
      · rw [Tm.up_mk]
        simp only [bind1_of, sumK_inl, List.nil_append, Option.some.injEq, Tm.mk.injEq, and_true, true_and]
        by_cases hc : k = 1 ∧ f ≤ i
        · obtain ⟨rfl, h2⟩ := hc
          rw [iadd_in (by omega) (by omega)]
          have e1 : ieq 1 1 = true := rfl
          have e2 : ige i f = true := by simp [h2]
          simp [e1, e2, h2]
        · rw [if_neg hc]
          have e : sel (ieq k 1) (ige i f) false = false := by
            rw [sel_and, Bool.eq_false_iff]
            simp only [ne_eq, Bool.and_eq_true, ieq_iff, ige_iff]
            exact hc
          rw [e]; rfl
      · intro j x v hx hv
        have := sumL_mem Tm.nodes hx
        rw [ref03_below_eq]
        simp only [bind1_of, Tm.kind_mk]
        rw [iadd_in (by omega) (by omega), ih x (f + lamB k) b (by omega) (by omega) (by omega) (by omega) hb hb2 (hi.2 x hx)]
        simp [okApp_of (l := v) (m := [x.up (f + lamB k) b]) (by simpa using hv)]
theorem ref03_Times_eq : ∀ (n : Nat) (t : Tm) (a : Int), t.nodes ≤ n → t.nodes ≤ 1000000000 → 0 ≤ a → a + t.nodes ≤ 10000000000 → ref03_Times n t a = some (t.times a : Int) := by
  intro n
  induction n with
  | zero => intro t a h; have := t.nodes_pos; omega
  | succ n ih =>
    intro t a h hbn ha ha2
    cases t with
    | mk k i s l =>
      rw [Tm.nodes_mk] at h hbn ha2
      have hl := Tm.len_nodes l
      have hk := lamB_bd k
      have hts : sumL (Tm.times (a + lamB k)) l ≤ sumL Tm.nodes l := sumL_le fun x _ => x.times_nodes _
      rw [ref03_Times]
      simp only [Tm.args_mk, Tm.index_mk, Tm.kind_mk, joinB_eq, okLen_of (l := l) (by omega), chk_true]
      have e0 : sel (sel (ieq k 1) (ieq i a) false) (iadd .i64 0 1) 0 = (((if k = 1 ∧ i = a then 1 else 0 : Nat)) : Int) := by
        by_cases hc : k = 1 ∧ i = a
        · obtain ⟨rfl, rfl⟩ := hc
          simp [ieq, sel, iadd, wrap_in]
        · have e : sel (ieq k 1) (ieq i a) false = false := by
            rw [sel_and, Bool.eq_false_iff]
            simp only [ne_eq, Bool.and_eq_true, ieq_iff]
            exact hc
          rw [e, if_neg hc]; rfl
      have key := forR_sum (ρ := Int) (F := fun (j : Int) (x : Tm) (v : Int) => bind1 (ref03_below (Tm.mk k i s l)) fun x277 => bind1 (ref03_Times n x (iadd .i64 a x277)) fun y => some (Ctl.next (iadd .i64 v y)))
        (Tm.times (a + lamB k)) l 0 (if k = 1 ∧ i = a then 1 else 0) (by split <;> omega) (by
        intro j x v hx
        have := sumL_mem Tm.nodes hx
        rw [ref03_below_eq]
        simp only [bind1_of, Tm.kind_mk]
        rw [iadd_in (by omega) (by omega), ih x _ (by omega) (by omega) (by omega) (by omega)]
        rfl)
      rw [e0, key]
      simp [Tm.times_mk]
theorem ref03_In_eq : ∀ (n : Nat) (t : Tm) (a b : Int) (s : Tm), t.nodes ≤ n → t.nodes ≤ 1000000000 → 0 ≤ a → 0 ≤ b → a + b + t.nodes ≤ 5000000000 → t.least 1000000000000 = true → t.ok = true →
    s.nodes ≤ 1000000000 → s.least 1000000000000 = true → ref03_In n t a b s = some (Tm.inn (a + b) t s) := by
  intro n
  induction n with
  | zero => intro t a b s h; have := t.nodes_pos; omega
  | succ n ih =>
    intro t a b s h hbn ha hb hab hi hok hs hsl
    cases t with
    | mk k i ty l =>
      rw [Tm.nodes_mk] at h hbn hab
      rw [Tm.least_mk] at hi
      rw [Tm.ok_mk] at hok
      simp only [Bool.and_eq_true, decide_eq_true_eq, List.all_eq_true] at hi hok
      have hl := Tm.len_nodes l
      have hk := lamB_bd k
      have hi0 : 0 ≤ i := by
        have := hok.1
        simp only [Tm.node, Bool.and_eq_true, decide_eq_true_eq] at this
        exact this.1.1.2
      rw [ref03_In, Tm.inn_mk]
      simp only [Tm.args_mk, Tm.index_mk, Tm.kind_mk, Tm.typeF_mk, joinB_eq, okLen_of (l := l) (by omega), chk_true, ieq_iff]
      rw [iadd_in (by omega) (by omega)]
      by_cases h1 : k = 1
      · rw [if_pos h1, if_pos h1]
        unfold Tm.innVar
        by_cases h2 : i = a + b
        · rw [if_pos h2, if_pos h2, ref03_Up_eq FU s 0 (a + b) (by rw [FU_eq]; exact hs) hs (by omega) (by omega) (by omega) (by omega) hsl]
          rfl
        · rw [if_neg h2, if_neg h2]
          simp only [igt_iff]
          by_cases h3 : a + b < i
          · rw [if_pos h3, if_pos h3, isub_in (by omega) (by omega)]
            rfl
          · rw [if_neg h3, if_neg h3]
      · rw [if_neg h1, if_neg h1]
        rw [forR_map (fun x => Tm.inn (a + b + lamB k) x s) l 0 [] (by simp; omega)]
        · simp
        · intro j x v hx hv
          have := sumL_mem Tm.nodes hx
          rw [ref03_below_eq]
          simp only [bind1_of, Tm.kind_mk]
          rw [iadd_in (by omega) (by omega), ih x a (b + lamB k) s (by omega) (by omega) ha (by omega) (by omega) (hi.2 x hx) (hok.2 x hx) hs hsl]
          rw [show a + (b + lamB k) = a + b + lamB k by omega]
          simp [okApp_of (l := v) (m := [Tm.inn (a + b + lamB k) x s]) (by simpa using hv)]

/-- The number of nodes behind a replacement. -/
theorem Tm.inn_nodes (s : Tm) (t : Tm) : ∀ n, t.ok = true → (Tm.inn n t s).nodes + t.times n = t.nodes + t.times n * s.nodes := by
  induction t using Tm.ind with
  | h k i ty l ih =>
    intro n hok
    rw [Tm.ok_mk] at hok
    simp only [Bool.and_eq_true, List.all_eq_true] at hok
    rw [Tm.inn_mk, Tm.times_mk, Tm.nodes_mk]
    by_cases h1 : k = 1
    · subst h1
      have hl : l = [] := by
        have := hok.1
        simp only [Tm.node, Bool.and_eq_true, decide_eq_true_eq] at this
        have h := this.1.1.1
        simp [tmArgs] at h
        exact h
      subst hl
      simp only [if_true, Tm.innVar, sumL, Nat.add_zero, true_and]
      by_cases h2 : i = n
      · simp [h2, Tm.up_nodes]; omega
      · by_cases h3 : n < i <;> simp [h2, h3, Tm.nodes_mk, sumL]
    · simp only [h1, if_false, false_and, Nat.zero_add]
      rw [Tm.nodes_mk, sumL_map]
      have : sumL (fun x => (Tm.inn (n + lamB k) x s).nodes) l + sumL (Tm.times (n + lamB k)) l = sumL Tm.nodes l + sumL (Tm.times (n + lamB k)) l * s.nodes := by
        have hall : ∀ x ∈ l, (Tm.inn (n + lamB k) x s).nodes + x.times (n + lamB k) = x.nodes + x.times (n + lamB k) * s.nodes := fun x hx => ih x hx _ (hok.2 x hx)
        clear ih hok
        induction l with
        | nil => simp [sumL]
        | cons y l ihl =>
          have h1 := hall y (by simp)
          have h2 := ihl fun x hx => hall x (by simp [hx])
          simp only [sumL, Nat.add_mul]
          omega
      omega
theorem Tm.inn_ok (s : Tm) (hs : s.ok = true) (t : Tm) : ∀ n, 0 ≤ n → t.ok = true → (Tm.inn n t s).ok = true := by
  induction t using Tm.ind with
  | h k i ty l ih =>
    intro n hn hok
    have hok' := hok
    rw [Tm.ok_mk] at hok
    simp only [Bool.and_eq_true, List.all_eq_true] at hok
    rw [Tm.inn_mk]
    by_cases h1 : k = 1
    · subst h1
      simp only [if_true, Tm.innVar]
      by_cases h2 : i = n
      · simp only [h2, if_true]; rw [Tm.up_ok s 0 n (by omega) hn]; exact hs
      · by_cases h3 : n < i
        · simp only [h2, h3, if_false, if_true]
          rw [Tm.ok_mk]
          have h4 : 1 ≤ i := by omega
          simp [Tm.node, tmArgs, typedB, h4, Ty.zeroB, ieq]
        · simp only [h2, h3, if_false]; exact hok'
    · simp only [h1, if_false]
      rw [Tm.ok_mk, List.length_map]
      simp only [Bool.and_eq_true, List.all_eq_true, List.mem_map]
      refine ⟨hok.1, ?_⟩
      rintro _ ⟨x, hx, rfl⟩
      exact ih x hx _ (by have := lamB_bd k; omega) (hok.2 x hx)
theorem Tm.inn_wt (s : Tm) (t : Tm) : ∀ n, (Tm.inn n t s).wt ≤ t.wt * (s.wt + 2) := by
  induction t using Tm.ind with
  | h k i ty l ih =>
    intro n
    rw [Tm.inn_mk, Tm.wt_mk]
    have hp := s.wt_pos
    have hty := ty.nodes_pos
    have base : (1 + ty.nodes + sumL Tm.wt l) * (s.wt + 2) = (1 + ty.nodes) * (s.wt + 2) + sumL Tm.wt l * (s.wt + 2) := Nat.add_mul _ _ _
    have h1 : s.wt + 2 ≤ (1 + ty.nodes) * (s.wt + 2) := Nat.le_mul_of_pos_left _ (by omega)
    have h2 : sumL Tm.wt l ≤ sumL Tm.wt l * (s.wt + 2) := Nat.le_mul_of_pos_right _ (by omega)
    have h3 : 1 + ty.nodes ≤ (1 + ty.nodes) * (s.wt + 2) := Nat.le_mul_of_pos_right _ (by omega)
    by_cases hk : k = 1
    · simp only [hk, if_true, Tm.innVar]
      by_cases h4 : i = n
      · simp only [h4, if_true, Tm.up_wt]; omega
      · by_cases h5 : n < i
        · simp only [h4, h5, if_false, if_true, Tm.wt_mk, Ty.nodes_mk, sumL]; omega
        · simp only [h4, h5, if_false, Tm.wt_mk]; omega
    · simp only [hk, if_false]
      rw [Tm.wt_mk, sumL_map]
      have : sumL (fun x => (Tm.inn (n + lamB k) x s).wt) l ≤ sumL Tm.wt l * (s.wt + 2) := by
        clear base h1 h2 h3
        induction l with
        | nil => simp [sumL]
        | cons y l ihl =>
          have h1 := ih y (by simp) (n + lamB k)
          have h2 := ihl fun x hx => ih x (by simp [hx])
          simp only [sumL, Nat.add_mul]
          omega
      omega
end Go.Mdl
