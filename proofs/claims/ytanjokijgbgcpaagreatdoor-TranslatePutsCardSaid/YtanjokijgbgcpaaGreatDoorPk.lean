/- A part of the proof of TranslatePuts: contracts of functions of the program, and what they need. -/
import Derived.Test.YtanjokijgbgcpaaGreatDoorPi
/-
  The law of chapter 23 about uniform quantifiers.
-/
set_option linter.unusedSimpArgs false
set_option linter.unusedVariables false
namespace Go.Mdl
open Go

end Go.Mdl

/-
  The law of chapter 23 about formulas without content.
-/
namespace Go.Mdl
open Go

theorem rf_two {k : Int} {a b : Fm} (hk : k ≠ 1) (hk5 : k ≠ 5) (hk2 : k ≠ 2) : (Fm.mk k .z [] [a, b]).rf =
    if (ctNode k .z a.ct b.ct).2.2 ≠ 0 then (.mk 0 [], (ctNode k .z a.ct b.ct).2.2) else (if b.has = true then (ctNode k .z a.ct b.ct).1 else .mk 5 [], 0) := by
  have h1 := Fm.ct_two k .z [] a b
  rw [if_neg hk] at h1
  have h2 := Fm.has_two k .z [] a b
  rw [if_neg hk, if_neg hk2, if_neg hk5] at h2
  unfold Fm.rf
  rw [h1, h2]
theorem rf_ct {f : Fm} {t : Ty} {b : Bool} {e : Int} (hc : f.ct = (t, b, e)) : f.rf = if e ≠ 0 then (.mk 0 [], e) else (if f.has = true then t else .mk 5 [], 0) := by unfold Fm.rf; rw [hc]

end Go.Mdl

/-
  Formulas: lifting and putting; the law of chapter 23 that terms do not matter.
-/
namespace Go.Mdl
open Go

mutual
def Fm.up (f b : Int) : Fm → Fm
  | .mk k s ts l => .mk k s (ts.map (Tm.up f b)) (Fm.upL (f + qB k) b l)
def Fm.upL (f b : Int) : List Fm → List Fm
  | [] => []
  | t :: l => t.up f b :: Fm.upL f b l
end
theorem Fm.upL_eq (f b : Int) (l : List Fm) : Fm.upL f b l = l.map (Fm.up f b) := by
  induction l with
  | nil => rfl
  | cons t l ih => simp [Fm.upL, ih]
theorem Fm.up_mk (f b k : Int) (s : Ty) (ts : List Tm) (l : List Fm) : (Fm.mk k s ts l).up f b = .mk k s (ts.map (Tm.up f b)) (l.map (Fm.up (f + qB k) b)) := by rw [Fm.up, Fm.upL_eq]
mutual
def Fm.least (m : Int) : Fm → Bool
  | .mk _ _ ts l => ts.all (Tm.least m) && Fm.leastL m l
def Fm.leastL (m : Int) : List Fm → Bool
  | [] => true
  | t :: l => t.least m && Fm.leastL m l
end
theorem Fm.leastL_eq (m : Int) (l : List Fm) : Fm.leastL m l = l.all (Fm.least m) := by
  induction l with
  | nil => rfl
  | cons t l ih => simp [Fm.leastL, ih]
theorem Fm.least_mk (m k : Int) (s : Ty) (ts : List Tm) (l : List Fm) : (Fm.mk k s ts l).least m = (ts.all (Tm.least m) && l.all (Fm.least m)) := by rw [Fm.least, Fm.leastL_eq]
mutual
def Fm.times (a : Int) : Fm → Nat
  | .mk k _ ts l => sumL (Tm.times a) ts + Fm.timesL (a + qB k) l
def Fm.timesL (a : Int) : List Fm → Nat
  | [] => 0
  | t :: l => t.times a + Fm.timesL a l
end
theorem Fm.timesL_eq (a : Int) (l : List Fm) : Fm.timesL a l = sumL (Fm.times a) l := by
  induction l with
  | nil => rfl
  | cons t l ih => simp [Fm.timesL, sumL, ih]
theorem Fm.times_mk (a k : Int) (s : Ty) (ts : List Tm) (l : List Fm) : (Fm.mk k s ts l).times a = sumL (Tm.times a) ts + sumL (Fm.times (a + qB k)) l := by rw [Fm.times, Fm.timesL_eq]
mutual
def Fm.inn : Int → Fm → Tm → Fm
  | n, .mk k ty ts l, s => .mk k ty (ts.map fun x => Tm.inn n x s) (Fm.innL (n + qB k) l s)
def Fm.innL : Int → List Fm → Tm → List Fm
  | _, [], _ => []
  | n, t :: l, s => Fm.inn n t s :: Fm.innL n l s
end
theorem Fm.innL_eq (n : Int) (s : Tm) (l : List Fm) : Fm.innL n l s = l.map (fun x => Fm.inn n x s) := by
  induction l with
  | nil => rfl
  | cons t l ih => simp [Fm.innL, ih]
theorem Fm.inn_mk (n : Int) (s : Tm) (k : Int) (ty : Ty) (ts : List Tm) (l : List Fm) : Fm.inn n (Fm.mk k ty ts l) s = .mk k ty (ts.map fun x => Tm.inn n x s) (l.map fun x => Fm.inn (n + qB k) x s) := by rw [Fm.inn, Fm.innL_eq]

theorem Fm.times_nodes (t : Fm) : ∀ a, t.times a ≤ t.nodes := by
  induction t using Fm.ind with
  | h k s ts l ih =>
    intro a
    rw [Fm.times_mk, Fm.nodes_mk]
    have := sumL_le (f := Fm.times (a + qB k)) (g := Fm.nodes) (l := l) fun x hx => ih x hx _
    have := sumL_le (f := Tm.times a) (g := Tm.nodes) (l := ts) fun x _ => x.times_nodes _
    omega
theorem Fm.up_nodes (t : Fm) : ∀ f b, (t.up f b).nodes = t.nodes := by
  induction t using Fm.ind with
  | h k s ts l ih =>
    intro f b
    rw [Fm.up_mk, Fm.nodes_mk, Fm.nodes_mk, sumL_map, sumL_map, sumL_congr fun x hx => ih x hx _ _, sumL_congr fun x _ => Tm.up_nodes x f b]
theorem Fm.up_wt (t : Fm) : ∀ f b, (t.up f b).wt = t.wt := by
  induction t using Fm.ind with
  | h k s ts l ih =>
    intro f b
    rw [Fm.up_mk, Fm.wt_mk, Fm.wt_mk, sumL_map, sumL_map, sumL_congr fun x hx => ih x hx _ _, sumL_congr fun x _ => Tm.up_wt x f b]
theorem Fm.up_ok (t : Fm) : ∀ f b, 0 ≤ f → 0 ≤ b → (t.up f b).ok = t.ok := by
  induction t using Fm.ind with
  | h k s ts l ih =>
    intro f b hf hb
    have := qB_bd k
    rw [Fm.up_mk, Fm.ok_mk, Fm.ok_mk, List.length_map, List.length_map, all_map_congr fun x hx => ih x hx (f + qB k) b (by omega) hb, all_map_congr fun x _ => Tm.up_ok x f b hf hb]
theorem Fm.inn_ok (s : Tm) (hs : s.ok = true) (t : Fm) : ∀ n, 0 ≤ n → t.ok = true → (Fm.inn n t s).ok = true := by
  induction t using Fm.ind with
  | h k ty ts l ih =>
    intro n hn hok
    have := qB_bd k
    rw [Fm.ok_mk] at hok
    simp only [Bool.and_eq_true, List.all_eq_true] at hok
    rw [Fm.inn_mk, Fm.ok_mk, List.length_map, List.length_map]
    simp only [Bool.and_eq_true, List.all_eq_true, List.mem_map]
    refine ⟨⟨hok.1.1, ?_⟩, ?_⟩
    · rintro _ ⟨x, hx, rfl⟩
      exact Tm.inn_ok s hs x n hn (hok.1.2 x hx)
    · rintro _ ⟨x, hx, rfl⟩
      exact ih x hx _ (by omega) (hok.2 x hx)
theorem sumL_inn {α : Type} {a b c : α → Nat} {m : Nat} {l : List α} (h : ∀ x ∈ l, a x + b x = c x + b x * m) : sumL a l + sumL b l = sumL c l + sumL b l * m := by
  induction l with
  | nil => simp [sumL]
  | cons y l ih =>
    have h1 := h y (by simp)
    have h2 := ih fun x hx => h x (by simp [hx])
    simp only [sumL, Nat.add_mul]
    omega
theorem Fm.inn_nodes (s : Tm) (t : Fm) : ∀ n, t.ok = true → (Fm.inn n t s).nodes + t.times n = t.nodes + t.times n * s.nodes := by
  induction t using Fm.ind with
  | h k ty ts l ih =>
    intro n hok
    rw [Fm.ok_mk] at hok
    simp only [Bool.and_eq_true, List.all_eq_true] at hok
    rw [Fm.inn_mk, Fm.times_mk, Fm.nodes_mk, Fm.nodes_mk, sumL_map, sumL_map, Nat.add_mul]
    have h1 := sumL_inn (l := ts) (a := fun x => (Tm.inn n x s).nodes) (b := Tm.times n) (c := Tm.nodes) (m := s.nodes) fun x hx => Tm.inn_nodes s x n (hok.1.2 x hx)
    have h2 := sumL_inn (l := l) (a := fun x => (Fm.inn (n + qB k) x s).nodes) (b := Fm.times (n + qB k)) (c := Fm.nodes) (m := s.nodes) fun x hx => ih x hx _ (hok.2 x hx)
    omega
theorem Fm.skel_has {g : Fm → Fm} {k : Int} {s : Ty} {ts us : List Tm} {l : List Fm} (h : ∀ x ∈ l, (g x).has = x.has) : (Fm.mk k s us (l.map g)).has = (Fm.mk k s ts l).has := by
  rw [Fm.has, Fm.has]
  have h1 : Fm.hasAny (l.map g) = Fm.hasAny l := by
    induction l with
    | nil => rfl
    | cons x l ih => simp only [List.map_cons, Fm.hasAny, h x (by simp), ih fun y hy => h y (by simp [hy])]
  have h2 : Fm.hasLast (l.map g) = Fm.hasLast l := by
    clear h1
    induction l with
    | nil => rfl
    | cons x l ih =>
      cases l with
      | nil => simp [Fm.hasLast, h x (by simp)]
      | cons y l => simpa [Fm.hasLast] using ih fun z hz => h z (by simp [hz])
  rw [h1, h2]
theorem Fm.skel_ct {g : Fm → Fm} {k : Int} {s : Ty} {ts us : List Tm} {l : List Fm} (h : ∀ x ∈ l, (g x).ct = x.ct) : (Fm.mk k s us (l.map g)).ct = (Fm.mk k s ts l).ct := by
  rw [Fm.ct, Fm.ct]
  have h1 : Fm.ctFst (l.map g) = Fm.ctFst l := by cases l with | nil => rfl | cons x l => simp [Fm.ctFst, h x (by simp)]
  have h2 : Fm.ctLst (l.map g) = Fm.ctLst l := by
    clear h1
    induction l with
    | nil => rfl
    | cons x l ih =>
      cases l with
      | nil => simp [Fm.ctLst, h x (by simp)]
      | cons y l => simpa [Fm.ctLst] using ih fun z hz => h z (by simp [hz])
  rw [h1, h2]
theorem Fm.up_ct (t : Fm) : ∀ f b, (t.up f b).ct = t.ct ∧ (t.up f b).has = t.has := by
  induction t using Fm.ind with
  | h k s ts l ih => intro f b; rw [Fm.up_mk]; exact ⟨Fm.skel_ct fun x hx => (ih x hx _ _).1, Fm.skel_has fun x hx => (ih x hx _ _).2⟩
theorem Fm.inn_ct (s : Tm) (t : Fm) : ∀ n, (Fm.inn n t s).ct = t.ct ∧ (Fm.inn n t s).has = t.has := by
  induction t using Fm.ind with
  | h k ty ts l ih =>
    intro n; rw [Fm.inn_mk]
    exact ⟨Fm.skel_ct (g := fun x => Fm.inn (n + qB k) x s) fun x hx => (ih x hx _).1, Fm.skel_has (g := fun x => Fm.inn (n + qB k) x s) fun x hx => (ih x hx _).2⟩

theorem ref03_Least' {t : Tm} (m : Int) (h : t.nodes ≤ 1000000000) : ref03_Least FU t m = some (t.least m) := ref03_Least_eq FU t m (by rw [FU_eq]; exact h) h
theorem ref07_Least_eq : ∀ (n : Nat) (t : Fm) (m : Int), t.nodes ≤ n → t.nodes ≤ 1000000000 → ref07_Least n t m = some (t.least m) := by
  intro n
  induction n with
  | zero => intro t m h; have := t.nodes_pos; omega
  | succ n ih =>
    intro t m h hb
    cases t with
    | mk k s ts l =>
      rw [Fm.nodes_mk] at h hb
      have hl := Fm.len_nodes l
      have hl2 := Tm.len_nodes ts
      have k1 : forR (ρ := Bool) (fun (_ : Int) (x : Tm) (_ : Unit) => bind1 (ref03_Least FU x m) fun x414 => if x414 = true then some (Ctl.next ()) else some (Ctl.ret false)) ts 0 () =
          if ts.all (Tm.least m) = true then some (.inl ()) else some (.inr false) := by
        refine forR_ok (Tm.least m) _ ts 0 ?_
        intro j x hx
        have := sumL_mem Tm.nodes hx
        rw [ref03_Least' m (by omega)]
        rfl
      have k2 : forR (ρ := Bool) (fun (_ : Int) (x : Fm) (_ : Unit) => bind1 (ref07_Least n x m) fun x414 => if x414 = true then some (Ctl.next ()) else some (Ctl.ret false)) l 0 () =
          if l.all (Fm.least m) = true then some (.inl ()) else some (.inr false) := by
        refine forR_ok (Fm.least m) _ l 0 ?_
        intro j x hx
        have := sumL_mem Fm.nodes hx
        rw [ih x m (by omega) (by omega)]
        rfl
      rw [ref07_Least]
      simp only [Fm.args_mk, Fm.terms_mk, joinB_eq, okLen_of (l := l) (by omega), okLen_of (l := ts) (by omega), chk_true, k1, k2, Fm.least_mk]
      cases h1 : ts.all (Tm.least m) <;> cases h2 : l.all (Fm.least m) <;> simp
theorem ref07_Up_eq : ∀ (n : Nat) (t : Fm) (f b : Int), t.nodes ≤ n → t.nodes ≤ 1000000000 → 0 ≤ f → f + t.nodes ≤ 10000000000 → 0 ≤ b → b ≤ 10000000000 → t.least 1000000000000 = true → ref07_Up n t f b = some (t.up f b) := by
  intro n
  induction n with
  | zero => intro t f b h; have := t.nodes_pos; omega
  | succ n ih =>
    intro t f b h hbn hf hf2 hb hb2 hi
    cases t with
    | mk k s ts l =>
      rw [Fm.nodes_mk] at h hbn hf2
      rw [Fm.least_mk] at hi
      simp only [Bool.and_eq_true, List.all_eq_true] at hi
      have hl := Fm.len_nodes l
      have hl2 := Tm.len_nodes ts
      have hk := qB_bd k
      rw [ref07_Up]
      simp only [Fm.args_mk, Fm.terms_mk, Fm.kind_mk, Fm.typeF_mk, joinB_eq, okLen_of (l := l) (by omega), okLen_of (l := ts) (by omega), chk_true]
      rw [forR_map (Tm.up f b) ts 0 [] (by simp; omega)]
      · simp only [bind1_of, sumK_inl]
        rw [forR_map (Fm.up (f + qB k) b) l 0 [] (by simp; omega)]
        · simp [Fm.up_mk]
        · intro j x v hx hv
          have := sumL_mem Fm.nodes hx
          rw [ref07_below_eq]
          simp only [bind1_of, Fm.kind_mk]
          rw [iadd_in (by omega) (by omega), ih x (f + qB k) b (by omega) (by omega) (by omega) (by omega) hb hb2 (hi.2 x hx)]
          simp [okApp_of (l := v) (m := [x.up (f + qB k) b]) (by simpa using hv)]
      · intro j x v hx hv
        have := sumL_mem Tm.nodes hx
        rw [ref03_Up_eq FU x f b (by rw [FU_eq]; omega) (by omega) hf (by omega) hb hb2 (hi.1 x hx)]
        simp [okApp_of (l := v) (m := [x.up f b]) (by simpa using hv)]
theorem ref07_times_eq : ∀ (n : Nat) (t : Fm) (a : Int), t.nodes ≤ n → t.nodes ≤ 1000000000 → 0 ≤ a → a + t.nodes ≤ 10000000000 → ref07_times n t a = some (t.times a : Int) := by
  intro n
  induction n with
  | zero => intro t a h; have := t.nodes_pos; omega
  | succ n ih =>
    intro t a h hbn ha ha2
    cases t with
    | mk k s ts l =>
      rw [Fm.nodes_mk] at h hbn ha2
      have hl := Fm.len_nodes l
      have hl2 := Tm.len_nodes ts
      have hk := qB_bd k
      have hts : sumL (Fm.times (a + qB k)) l ≤ sumL Fm.nodes l := sumL_le fun x _ => x.times_nodes _
      have hts2 : sumL (Tm.times a) ts ≤ sumL Tm.nodes ts := sumL_le fun x _ => x.times_nodes _
      rw [ref07_times]
      simp only [Fm.args_mk, Fm.terms_mk, Fm.kind_mk, joinB_eq, okLen_of (l := l) (by omega), okLen_of (l := ts) (by omega), chk_true]
      have k1 := forR_sum (ρ := Int) (F := fun (_ : Int) (x : Tm) (v : Int) => bind1 (ref03_Times FU x a) fun y => some (Ctl.next (iadd .i64 v y))) (Tm.times a) ts 0 0 (by omega) (by
        intro j x v hx
        have := sumL_mem Tm.nodes hx
        rw [ref03_Times_eq FU x a (by rw [FU_eq]; omega) (by omega) ha (by omega)]
        rfl)
      have k2 := forR_sum (ρ := Int) (F := fun (_ : Int) (x : Fm) (v : Int) => bind1 (ref07_below (Fm.mk k s ts l)) fun x467 => bind1 (ref07_times n x (iadd .i64 a x467)) fun y => some (Ctl.next (iadd .i64 v y))) (Fm.times (a + qB k)) l 0 (0 + sumL (Tm.times a) ts) (by omega) (by
        intro j x v hx
        have := sumL_mem Fm.nodes hx
        rw [ref07_below_eq]
        simp only [bind1_of, Fm.kind_mk]
        rw [iadd_in (by omega) (by omega), ih x _ (by omega) (by omega) (by omega) (by omega)]
        rfl)
      rw [show (0 : Int) = ((0 : Nat) : Int) from rfl, k1]
      simp only [bind1_of, sumK_inl]
      rw [k2]
      simp [Fm.times_mk]
theorem ref07_In_eq : ∀ (n : Nat) (t : Fm) (a b : Int) (s : Tm), t.nodes ≤ n → t.nodes ≤ 1000000000 → 0 ≤ a → 0 ≤ b → a + b + t.nodes ≤ 5000000000 → t.least 1000000000000 = true → t.ok = true →
    s.nodes ≤ 1000000000 → s.least 1000000000000 = true → ref07_In n t a b s = some (Fm.inn (a + b) t s) := by
  intro n
  induction n with
  | zero => intro t a b s h; have := t.nodes_pos; omega
  | succ n ih =>
    intro t a b s h hbn ha hb hab hi hok hs hsl
    cases t with
    | mk k ty ts l =>
      rw [Fm.nodes_mk] at h hbn hab
      rw [Fm.least_mk] at hi
      rw [Fm.ok_mk] at hok
      simp only [Bool.and_eq_true, List.all_eq_true] at hi hok
      have hl := Fm.len_nodes l
      have hl2 := Tm.len_nodes ts
      have hk := qB_bd k
      rw [ref07_In]
      simp only [Fm.args_mk, Fm.terms_mk, Fm.kind_mk, Fm.typeF_mk, joinB_eq, okLen_of (l := l) (by omega), okLen_of (l := ts) (by omega), chk_true]
      rw [forR_map (fun x => Tm.inn (a + b) x s) ts 0 [] (by simp; omega)]
      · simp only [bind1_of, sumK_inl]
        rw [forR_map (fun x => Fm.inn (a + b + qB k) x s) l 0 [] (by simp; omega)]
        · simp [Fm.inn_mk]
        · intro j x v hx hv
          have := sumL_mem Fm.nodes hx
          rw [ref07_below_eq]
          simp only [bind1_of, Fm.kind_mk]
          rw [iadd_in (by omega) (by omega), ih x a (b + qB k) s (by omega) (by omega) ha (by omega) (by omega) (hi.2 x hx) (hok.2 x hx) hs hsl]
          rw [show a + (b + qB k) = a + b + qB k by omega]
          simp [okApp_of (l := v) (m := [Fm.inn (a + b + qB k) x s]) (by simpa using hv)]
      · intro j x v hx hv
        have := sumL_mem Tm.nodes hx
        rw [ref03_In_eq FU x a b s (by rw [FU_eq]; omega) (by omega) ha hb (by omega) (hi.1 x hx) (hok.1.2 x hx) hs hsl]
        simp [okApp_of (l := v) (m := [Tm.inn (a + b) x s]) (by simpa using hv)]
theorem Fm.least_mono (t : Fm) : ∀ {m n : Int}, m ≤ n → t.least m = true → t.least n = true := by
  induction t using Fm.ind with
  | h k s ts l ih =>
    intro m n hmn h
    rw [Fm.least_mk] at *
    simp only [Bool.and_eq_true, List.all_eq_true] at *
    exact ⟨fun x hx => Tm.least_mono x hmn (h.1 x hx), fun x hx => ih x hx hmn (h.2 x hx)⟩
theorem Fm.inn_wt (s : Tm) (t : Fm) : ∀ n, (Fm.inn n t s).wt ≤ t.wt * (s.wt + 2) := by
  induction t using Fm.ind with
  | h k ty ts l ih =>
    intro n
    rw [Fm.inn_mk, Fm.wt_mk, Fm.wt_mk, sumL_map, sumL_map]
    have h1 : sumL (fun x => (Tm.inn n x s).wt) ts ≤ (s.wt + 2) * sumL Tm.wt ts := sumL_mul fun x _ => by rw [Nat.mul_comm]; exact Tm.inn_wt s x n
    have h2 : sumL (fun x => (Fm.inn (n + qB k) x s).wt) l ≤ (s.wt + 2) * sumL Fm.wt l := sumL_mul fun x hx => by rw [Nat.mul_comm]; exact ih x hx _
    have h3 : 1 + ty.nodes ≤ (s.wt + 2) * (1 + ty.nodes) := Nat.le_mul_of_pos_left _ (by omega)
    rw [Nat.mul_comm, Nat.mul_add, Nat.mul_add]
    omega
theorem ref07_Put_eq {f : Fm} {a : Int} {s : Tm} (hw : f.wt ≤ 10000000) (he : f.err = 0) (ha : 0 ≤ a) (ha2 : a ≤ 4096) (hl : f.least 536870912 = true) (hsw : s.wt ≤ 50000) (hse : s.err = 0) (hsl : s.least 536870912 = true)
    (hfw : f.wt * (s.wt + 2) ≤ 1000000000) : ref07_Put f a s = some (if 4096 < (Fm.inn a f s).nodes then (.mk 0 (.mk 0 []) [] [], 4) else (Fm.inn a f s, 0)) := by
  have hn := f.nodes_wt
  have hsn := s.nodes_wt
  have hsp := s.nodes_pos
  have hok := (Fm.err_ok he).1
  have htn := f.times_nodes a
  have hin := Fm.inn_nodes s f a hok
  unfold ref07_Put
  rw [ref07_Check_eq (by omega), he]
  simp only [bind1_of, ine_iff, ne_eq, not_true_eq_false, if_false, joinB_eq, ilt_iff, igt_iff, sel_or, Bool.or_eq_true]
  rw [if_neg (by omega), ref02_Check_eq (by omega), hse, ref07_Least_eq FU f _ (by rw [FU_eq]; omega) (by omega), hl, ref03_Least' _ (by omega), hsl]
  simp only [bind1_of, not_true_eq_false, if_false, if_true, bnot_true, Bool.false_eq_true]
  rw [ref07_Count_eq FU f (by rw [FU_eq]; omega) (by omega), ref07_times_eq FU f a (by rw [FU_eq]; omega) (by omega) ha (by omega), ref02_Count_eq FU s (by rw [FU_eq]; omega) (by omega)]
  simp only [bind1_of]
  rw [isub_in (by omega) (by omega)]
  have hmul : (f.times a : Int) * ((s.nodes : Int) - 1) = ((f.times a * s.nodes : Nat) : Int) - (f.times a : Int) := by rw [Int.mul_sub, Int.mul_one]; push_cast; rfl
  have hmb : f.times a * s.nodes ≤ 10000000 * 50000 := Nat.mul_le_mul (by omega) (by omega)
  have hmb2 : f.times a ≤ f.times a * s.nodes := Nat.le_mul_of_pos_right _ (by omega)
  rw [imul_in (by rw [hmul]; omega) (by rw [hmul]; omega), hmul, iadd_in (by omega) (by omega)]
  by_cases hc : 4096 < (Fm.inn a f s).nodes
  · rw [if_pos (by omega), if_pos hc]
  · rw [if_neg (by omega), if_neg hc, ref07_In_eq FU f a 0 s (by rw [FU_eq]; omega) (by omega) ha (by omega) (by omega) (Fm.least_mono f (by omega) hl) hok (by omega) (Tm.least_mono s (by omega) hsl)]
    simp only [bind1_of, Int.add_zero]
    rw [ref07_Copy' (by have := Fm.inn_wt s f a; omega)]
    rfl

theorem FmTy.least {g : List Ty} {f : Fm} (h : FmTy g f) : ∀ m : Int, ((g.length + f.nodes : Nat) : Int) ≤ m → f.least m = true := by
  induction h with
  | eq h1 h2 =>
    intro m hm
    simp only [Fm.nodes_mk, sumL] at hm
    simp only [Fm.least_mk, List.all_cons, List.all_nil, Bool.and_true, Bool.and_eq_true]
    exact ⟨h1.least m (by omega), h2.least m (by omega)⟩
  | two _ _ _ ih1 ih2 =>
    intro m hm
    simp only [Fm.nodes_mk, sumL] at hm
    simp only [Fm.least_mk, List.all_cons, List.all_nil, Bool.and_true, Bool.and_eq_true, Bool.true_and]
    exact ⟨ih1 m (by omega), ih2 m (by omega)⟩
  | q _ _ _ ih =>
    intro m hm
    simp only [Fm.nodes_mk, sumL] at hm
    simp only [Fm.least_mk, List.all_cons, List.all_nil, Bool.and_true, Bool.true_and]
    exact ih m (by simp; omega)

end Go.Mdl
