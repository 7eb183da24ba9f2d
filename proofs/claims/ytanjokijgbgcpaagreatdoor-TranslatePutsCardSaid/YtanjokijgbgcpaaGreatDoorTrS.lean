/-
  The translation of formulas: the law TranslatePuts.
-/
import Derived.Test.YtanjokijgbgcpaaGreatDoorTrP
import Derived.Test.YtanjokijgbgcpaaGreatDoorPo
import Derived.Test.YtanjokijgbgcpaaGreatDoorPi
import Derived.Test.YtanjokijgbgcpaaGreatDoorQv
set_option maxRecDepth 20000
set_option linter.unusedSimpArgs false
set_option linter.unusedVariables false
namespace Go.Mdl
open Go

theorem HasTy.fix {g : List Ty} {t : Tm} {s : Ty} (h : HasTy g t s) : ∀ d : Int, (g.length : Int) ≤ d → (∀ c, t.up d c = t) ∧ ∀ a, Tm.inn d t a = t := by
  induction h with
  | @var g s i hi hs =>
    intro d hd
    refine ⟨fun c => by rw [Tm.up_mk, if_neg (by omega)]; rfl, fun a => ?_⟩
    rw [Tm.inn_mk, if_pos rfl]
    unfold Tm.innVar
    rw [if_neg (by omega), if_neg (by omega)]
  | lam hs _ ih =>
    intro d hd
    have := ih (d + 1) (by simp; omega)
    exact ⟨fun c => by rw [Tm.up_mk]; simp [show lamB 2 = 1 from rfl, this.1], fun a => by rw [Tm.inn_mk]; simp [show lamB 2 = 1 from rfl, this.2]⟩
  | app _ _ ih1 ih2 => intro d hd; exact ⟨fun c => by rw [Tm.up_mk]; simp [show lamB 3 = 0 from rfl, (ih1 d hd).1, (ih2 d hd).1], fun a => by rw [Tm.inn_mk]; simp [show lamB 3 = 0 from rfl, (ih1 d hd).2, (ih2 d hd).2]⟩
  | zero => intro d hd; exact ⟨fun c => by rw [Tm.up_mk]; simp, fun a => by rw [Tm.inn_mk]; simp⟩
  | succ _ ih => intro d hd; exact ⟨fun c => by rw [Tm.up_mk]; simp [show lamB 5 = 0 from rfl, (ih d hd).1], fun a => by rw [Tm.inn_mk]; simp [show lamB 5 = 0 from rfl, (ih d hd).2]⟩
  | recN _ _ _ _ ih1 ih2 ih3 => intro d hd; exact ⟨fun c => by rw [Tm.up_mk]; simp [show lamB 6 = 0 from rfl, (ih1 d hd).1, (ih2 d hd).1, (ih3 d hd).1], fun a => by rw [Tm.inn_mk]; simp [show lamB 6 = 0 from rfl, (ih1 d hd).2, (ih2 d hd).2, (ih3 d hd).2]⟩
  | nil => intro d hd; exact ⟨fun c => by rw [Tm.up_mk]; simp, fun a => by rw [Tm.inn_mk]; simp⟩
  | cons _ _ ih1 ih2 => intro d hd; exact ⟨fun c => by rw [Tm.up_mk]; simp [show lamB 8 = 0 from rfl, (ih1 d hd).1, (ih2 d hd).1], fun a => by rw [Tm.inn_mk]; simp [show lamB 8 = 0 from rfl, (ih1 d hd).2, (ih2 d hd).2]⟩
  | fold _ _ _ _ ih1 ih2 ih3 => intro d hd; exact ⟨fun c => by rw [Tm.up_mk]; simp [show lamB 9 = 0 from rfl, (ih1 d hd).1, (ih2 d hd).1, (ih3 d hd).1], fun a => by rw [Tm.inn_mk]; simp [show lamB 9 = 0 from rfl, (ih1 d hd).2, (ih2 d hd).2, (ih3 d hd).2]⟩
  | pair _ _ _ ih1 ih2 => intro d hd; exact ⟨fun c => by rw [Tm.up_mk]; simp [show lamB 10 = 0 from rfl, (ih1 d hd).1, (ih2 d hd).1], fun a => by rw [Tm.inn_mk]; simp [show lamB 10 = 0 from rfl, (ih1 d hd).2, (ih2 d hd).2]⟩
  | fst _ ih => intro d hd; exact ⟨fun c => by rw [Tm.up_mk]; simp [show lamB 11 = 0 from rfl, (ih d hd).1], fun a => by rw [Tm.inn_mk]; simp [show lamB 11 = 0 from rfl, (ih d hd).2]⟩
  | snd _ ih => intro d hd; exact ⟨fun c => by rw [Tm.up_mk]; simp [show lamB 12 = 0 from rfl, (ih d hd).1], fun a => by rw [Tm.inn_mk]; simp [show lamB 12 = 0 from rfl, (ih d hd).2]⟩
  | unit => intro d hd; exact ⟨fun c => by rw [Tm.up_mk]; simp, fun a => by rw [Tm.inn_mk]; simp⟩

theorem HasTy.times_zero {g : List Ty} {x : Tm} {t : Ty} (h : HasTy g x t) : ∀ j : Int, (g.length : Int) ≤ j → x.times j = 0 := by
  induction h with
  | @var g t i h1 h2 =>
    intro j hj
    rw [Tm.times_mk, if_neg (fun h => by have := h.2; omega)]
    rfl
  | @lam g s b t h1 _ ih =>
    intro j hj
    rw [Tm.times_mk, if_neg (fun h => by cases h.1)]
    simp only [sumL]
    rw [ih (j + lamB 2) (by show _ ≤ j + 1; simp; omega)]
  | app _ _ ih1 ih2 => intro j hj; rw [Tm.times_mk, if_neg (fun h => by cases h.1)]; simp only [sumL, show lamB 3 = 0 from rfl, Int.add_zero, ih1 j hj, ih2 j hj]
  | zero => intro j hj; rw [Tm.times_mk, if_neg (fun h => by cases h.1)]; rfl
  | succ _ ih => intro j hj; rw [Tm.times_mk, if_neg (fun h => by cases h.1)]; simp only [sumL, show lamB 5 = 0 from rfl, Int.add_zero, ih j hj]
  | recN h1 _ _ _ ih1 ih2 ih3 => intro j hj; rw [Tm.times_mk, if_neg (fun h => by cases h.1)]; simp only [sumL, show lamB 6 = 0 from rfl, Int.add_zero, ih1 j hj, ih2 j hj, ih3 j hj]
  | nil => intro j hj; rw [Tm.times_mk, if_neg (fun h => by cases h.1)]; rfl
  | cons _ _ ih1 ih2 => intro j hj; rw [Tm.times_mk, if_neg (fun h => by cases h.1)]; simp only [sumL, show lamB 8 = 0 from rfl, Int.add_zero, ih1 j hj, ih2 j hj]
  | fold h1 _ _ _ ih1 ih2 ih3 => intro j hj; rw [Tm.times_mk, if_neg (fun h => by cases h.1)]; simp only [sumL, show lamB 9 = 0 from rfl, Int.add_zero, ih1 j hj, ih2 j hj, ih3 j hj]
  | pair h1 _ _ ih1 ih2 => intro j hj; rw [Tm.times_mk, if_neg (fun h => by cases h.1)]; simp only [sumL, show lamB 10 = 0 from rfl, Int.add_zero, ih1 j hj, ih2 j hj]
  | fst _ ih => intro j hj; rw [Tm.times_mk, if_neg (fun h => by cases h.1)]; simp only [sumL, show lamB 11 = 0 from rfl, Int.add_zero, ih j hj]
  | snd _ ih => intro j hj; rw [Tm.times_mk, if_neg (fun h => by cases h.1)]; simp only [sumL, show lamB 12 = 0 from rfl, Int.add_zero, ih j hj]
  | unit => intro j hj; rw [Tm.times_mk, if_neg (fun h => by cases h.1)]; rfl

theorem HasTy.front {g : List Ty} {x : Tm} {t : Ty} (h : HasTy g x t) (e : List Ty) : HasTy (e ++ g) x t := by
  induction h with
  | @var g t i h1 h2 =>
    refine .var i (by simp; omega) ?_
    rw [List.getElem?_append_right (by simp; omega), ← h2]
    congr 1
    simp
    omega
  | lam h1 _ ih => exact .lam h1 (by rw [List.append_assoc]; exact ih)
  | app _ _ ih1 ih2 => exact .app ih1 ih2
  | zero => exact .zero
  | succ _ ih => exact .succ ih
  | recN h1 _ _ _ ih1 ih2 ih3 => exact .recN h1 ih1 ih2 ih3
  | nil => exact .nil
  | cons _ _ ih1 ih2 => exact .cons ih1 ih2
  | fold h1 _ _ _ ih1 ih2 ih3 => exact .fold h1 ih1 ih2 ih3
  | pair h1 _ _ ih1 ih2 => exact .pair h1 ih1 ih2
  | fst _ ih => exact .fst ih
  | snd _ ih => exact .snd ih
  | unit => exact .unit
theorem FmTy.front {g : List Ty} {f : Fm} (h : FmTy g f) (e : List Ty) : FmTy (e ++ g) f := by
  induction h with
  | eq h1 h2 => exact .eq (h1.front e) (h2.front e)
  | two hk _ _ ih1 ih2 => exact .two hk ih1 ih2
  | q hk hs _ ih => exact .q hk hs (by rw [List.append_assoc]; exact ih)

/-- What stands in no variable stays as it is. -/
theorem FmTy.fix {g : List Ty} {f : Fm} (h : FmTy g f) : ∀ d : Int, (g.length : Int) ≤ d → (∀ c, f.up d c = f) ∧ (∀ a, Fm.inn d f a = f) ∧ f.times d = 0 := by
  induction h with
  | eq h1 h2 =>
    intro d hd
    refine ⟨fun c => ?_, fun a => ?_, ?_⟩
    · rw [Fm.up_mk]; simp [(h1.fix d hd).1, (h2.fix d hd).1]
    · rw [Fm.inn_mk]; simp [(h1.fix d hd).2, (h2.fix d hd).2]
    · rw [Fm.times_mk]; simp [sumL, h1.times_zero d hd, h2.times_zero d hd]
  | @two g k a b hk _ _ ih1 ih2 =>
    intro d hd
    have hq : qB k = 0 := by rcases hk with rfl | rfl <;> rfl
    obtain ⟨a1, a2, a3⟩ := ih1 d hd
    obtain ⟨b1, b2, b3⟩ := ih2 d hd
    refine ⟨fun c => ?_, fun a => ?_, ?_⟩
    · rw [Fm.up_mk]; simp [hq, a1, b1]
    · rw [Fm.inn_mk]; simp [hq, a2, b2]
    · rw [Fm.times_mk]; simp [sumL, hq, a3, b3]
  | @q g k s a hk hs _ ih =>
    intro d hd
    have hq : qB k = 1 := by rcases hk with rfl | rfl | rfl | rfl <;> rfl
    obtain ⟨a1, a2, a3⟩ := ih (d + 1) (by simp; omega)
    refine ⟨fun c => ?_, fun a => ?_, ?_⟩
    · rw [Fm.up_mk]; simp [hq, a1]
    · rw [Fm.inn_mk]; simp [hq, a2]
    · rw [Fm.times_mk]; simp [sumL, hq, a3]

mutual
/-- The translation with an answer that has no variables. -/
def trF (a : Fm) : Fm → Fm
  | .mk k s ts l => if k = 1 then .mk 3 .z [] [.mk 3 .z [] [.mk k s ts l, a], a] else if k = 5 then .mk 3 .z [] [.mk 4 s [] ((trFL a l).map fun x => .mk 3 .z [] [x, a]), a] else .mk k s [] (trFL a l)
def trFL (a : Fm) : List Fm → List Fm
  | [] => []
  | x :: l => trF a x :: trFL a l
end
theorem trFL_eq (a : Fm) (l : List Fm) : trFL a l = l.map (trF a) := by
  induction l with
  | nil => rfl
  | cons x l ih => rw [trFL, List.map_cons, ih]
theorem trF_mk (a : Fm) (k : Int) (s : Ty) (ts : List Tm) (l : List Fm) : trF a (Fm.mk k s ts l) = if k = 1 then .mk 3 .z [] [.mk 3 .z [] [.mk k s ts l, a], a] else if k = 5 then .mk 3 .z [] [.mk 4 s [] (l.map fun x => .mk 3 .z [] [trF a x, a]), a] else .mk k s [] (l.map (trF a)) := by
  rw [trF, trFL_eq, List.map_map]; rfl

/-- A formula without variables as the answer. -/
structure Cl (a : Fm) : Prop where
  ty : FmTy [] a
  nodes : a.nodes ≤ 4096
theorem Cl.ans {a : Fm} (h : Cl a) : Ans a := ⟨h.ty.ok, h.nodes, h.ty.least _ (by have := h.nodes; simp; omega)⟩
theorem Cl.up {a : Fm} (h : Cl a) (k : Nat) : a.up 0 k = a := (h.ty.fix 0 (by simp)).1 _
theorem Cl.inn {a : Fm} (h : Cl a) {d : Int} (hd : 0 ≤ d) (s : Tm) : Fm.inn d a s = a := (h.ty.fix d (by simpa using hd)).2.1 s
theorem Cl.times {a : Fm} (h : Cl a) {d : Int} (hd : 0 ≤ d) : a.times d = 0 := (h.ty.fix d (by simpa using hd)).2.2
theorem tr_eq {a : Fm} (ha : Cl a) {f : Fm} (ho : f.ok = true) : f.uni = false → ∀ (k n : Nat), k + f.nodes ≤ 1000000 → f.nodes ≤ n → tr_formula n a f k = some (trF a f) := by
  have hans : ∀ k : Nat, k ≤ 10000000 → tr_ans k a = some a := fun k hk => by rw [ans_eq ha.ans k hk, ha.up]
  refine Fm.ok_cases (p := fun f => f.uni = false → ∀ (k n : Nat), k + f.nodes ≤ 1000000 → f.nodes ≤ n → tr_formula n a f k = some (trF a f)) ?_ ?_ ?_ f ho
  · intro x y h1 h2 _ k n hk hn
    have := (Fm.mk 1 (.mk 0 []) [x, y] []).nodes_pos
    obtain ⟨n, rfl⟩ : ∃ m, n = m + 1 := ⟨n - 1, by omega⟩
    rw [tr_formula, trF_mk, hans k (by omega)]
    rfl
  · intro k x y hk _ _ ih1 ih2 hu d n hd hn
    rw [trTwo_nodes] at hd hn
    rw [Fm.uni_mk] at hu
    simp only [Fm.uniL, Bool.or_false, Bool.or_eq_false_iff, decide_eq_false_iff_not] at hu
    obtain ⟨n, rfl⟩ : ∃ m, n = m + 1 := ⟨n - 1, by omega⟩
    have e1 : ieq k 1 = false := by rcases hk with rfl | rfl <;> rfl
    have e2 : sel (ieq k 2) true (ieq k 3) = true := by rcases hk with rfl | rfl <;> rfl
    have n1 : ¬ k = 1 := by omega
    have n5 : ¬ k = 5 := by omega
    rw [tr_formula, trF_mk, if_neg n1, if_neg n5]
    simp only [Fm.kind_mk, Fm.args_mk, e1, e2, Bool.false_eq_true, if_false, if_true]
    rw [show lget [x, y] 0 = some x from rfl, show lget [x, y] 1 = some y from rfl]
    simp only [bind1_of]
    rw [ih1 hu.2.1 d n (by omega) (by omega), ih2 hu.2.2 d n (by omega) (by omega)]
    rfl
  · intro k s x hk hs _ ih hu d n hd hn
    rw [trQ_nodes] at hd hn
    rw [Fm.uni_mk] at hu
    simp only [Fm.uniL, Bool.or_false, Bool.or_eq_false_iff, decide_eq_false_iff_not] at hu
    obtain ⟨n, rfl⟩ : ∃ m, n = m + 1 := ⟨n - 1, by omega⟩
    have ihx := ih hu.2 (d + 1) n (by omega) (by omega)
    have hk : k = 4 ∨ k = 5 := by omega
    rcases hk with rfl | rfl
    · rw [tr_formula, trF_mk, if_neg (show ¬ (4 : Int) = 1 by decide), if_neg (show ¬ (4 : Int) = 5 by decide)]
      simp only [Fm.kind_mk, Fm.args_mk, Fm.typeF_mk, show ieq (4 : Int) 1 = false from rfl, show sel (ieq (4 : Int) 2) true (ieq (4 : Int) 3) = false from rfl, show ieq (4 : Int) 4 = true from rfl, Bool.false_eq_true, if_false, if_true]
      rw [show lget [x] 0 = some x from rfl]
      simp only [bind1_of]
      rw [ihx]
      rfl
    · rw [tr_formula, trF_mk, if_neg (show ¬ (5 : Int) = 1 by decide), if_pos rfl]
      simp only [Fm.kind_mk, Fm.args_mk, Fm.typeF_mk, show ieq (5 : Int) 1 = false from rfl, show sel (ieq (5 : Int) 2) true (ieq (5 : Int) 3) = false from rfl, show ieq (5 : Int) 4 = false from rfl, Bool.false_eq_true, if_false, if_true]
      rw [show lget [x] 0 = some x from rfl]
      simp only [bind1_of]
      rw [ihx, hans (d + 1) (by omega), hans d (by omega)]
      rfl
theorem trF_ty {a : Fm} (ha : Cl a) {g : List Ty} {f : Fm} (h : FmTy g f) : f.uni = false → FmTy g (trF a f) := by
  have hcl : ∀ g : List Ty, FmTy g a := fun g => by have := ha.ty.front g; simpa using this
  induction h with
  | eq h1 h2 =>
    intro _
    rw [trF_mk, if_pos rfl]
    exact .two (.inr rfl) (.two (.inr rfl) (.eq h1 h2) (hcl _)) (hcl _)
  | @two g k x y hk _ _ ih1 ih2 =>
    intro hu
    rw [Fm.uni_mk] at hu
    simp only [Fm.uniL, Bool.or_false, Bool.or_eq_false_iff, decide_eq_false_iff_not] at hu
    rw [trF_mk, if_neg (by omega), if_neg (by omega)]
    exact .two hk (ih1 hu.2.1) (ih2 hu.2.2)
  | @q g k s x hk hs _ ih =>
    intro hu
    rw [Fm.uni_mk] at hu
    simp only [Fm.uniL, Bool.or_false, Bool.or_eq_false_iff, decide_eq_false_iff_not] at hu
    have hk : k = 4 ∨ k = 5 := by omega
    rcases hk with rfl | rfl
    · rw [trF_mk, if_neg (by omega), if_neg (by omega)]
      exact .q (.inl rfl) hs (ih hu.2)
    · rw [trF_mk, if_neg (by omega), if_pos rfl]
      exact .two (.inr rfl) (.q (.inl rfl) hs (.two (.inr rfl) (ih hu.2) (hcl _))) (hcl _)
/-- The translation of an instance is the instance of the translation. -/
theorem trF_inn {a : Fm} (ha : Cl a) (s : Tm) (f : Fm) : ∀ n : Int, 0 ≤ n → Fm.inn n (trF a f) s = trF a (Fm.inn n f s) := by
  induction f using Fm.ind with
  | h k ty ts l ih =>
    intro n hn
    have hq := qB_bd k
    have ai := fun {d : Int} (hd : 0 ≤ d) => ha.inn hd s
    rw [Fm.inn_mk n s k ty ts l, trF_mk, trF_mk]
    by_cases h1 : k = 1
    · subst h1
      rw [if_pos rfl, if_pos rfl, Fm.inn_mk]
      simp only [List.map_cons, List.map_nil, show qB 3 = 0 from rfl, Int.add_zero, ai hn]
      rw [Fm.inn_mk]
      simp only [List.map_cons, List.map_nil, show qB 3 = 0 from rfl, Int.add_zero, ai hn]
      rw [Fm.inn_mk]
    · rw [if_neg h1, if_neg h1]
      by_cases h5 : k = 5
      · subst h5
        rw [if_pos rfl, if_pos rfl, Fm.inn_mk]
        simp only [List.map_cons, List.map_nil, show qB 3 = 0 from rfl, Int.add_zero, ai hn]
        rw [Fm.inn_mk]
        simp only [List.map_nil, List.map_map, show qB 4 = 1 from rfl, show qB 5 = 1 from rfl]
        congr 3
        refine List.map_congr_left fun x hx => ?_
        simp only [Function.comp_apply]
        rw [Fm.inn_mk]
        simp only [List.map_cons, List.map_nil, show qB 3 = 0 from rfl, Int.add_zero, ai (show 0 ≤ n + 1 by omega), ih x hx (n + 1) (by omega)]
      · rw [if_neg h5, if_neg h5, Fm.inn_mk, List.map_nil, List.map_map, List.map_map]
        congr 1
        exact List.map_congr_left fun x hx => ih x hx (n + qB k) (by omega)
theorem trF_times {a : Fm} (ha : Cl a) {g : List Ty} {f : Fm} (h : FmTy g f) : ∀ n : Int, 0 ≤ n → (0 < (trF a f).times n ↔ 0 < f.times n) := by
  have at0 := fun {d : Int} (hd : 0 ≤ d) => ha.times hd
  have two : ∀ (x y : Fm) (s : Ty) (n : Int), (Fm.mk 3 s [] [x, y]).times n = x.times n + y.times n := fun x y s n => by rw [Fm.times_mk]; simp [sumL, show qB 3 = 0 from rfl]
  induction h with
  | eq h1 h2 =>
    intro n hn
    rw [trF_mk, if_pos rfl, two, two, at0 hn, Nat.add_zero]
  | @two g k x y hk _ _ ih1 ih2 =>
    intro n hn
    have hq : qB k = 0 := by rcases hk with rfl | rfl <;> rfl
    rw [trF_mk, if_neg (by omega), if_neg (by omega), Fm.times_mk, Fm.times_mk]
    simp only [List.map_cons, List.map_nil, sumL, hq, Int.add_zero]
    have := ih1 n hn
    have := ih2 n hn
    omega
  | @q g k s x hk hs _ ih =>
    intro n hn
    have hq : qB k = 1 := by rcases hk with rfl | rfl | rfl | rfl <;> rfl
    have := ih (n + 1) (by omega)
    rw [trF_mk, if_neg (by omega)]
    by_cases h5 : k = 5
    · rw [if_pos h5, two, at0 hn, Fm.times_mk, Fm.times_mk]
      simp only [List.map_cons, List.map_nil, sumL, hq, show qB 4 = 1 from rfl, two, at0 (show 0 ≤ n + 1 by omega)]
      omega
    · rw [if_neg h5, Fm.times_mk, Fm.times_mk]
      simp only [List.map_cons, List.map_nil, sumL, hq]
      omega
theorem Fm.uniL_any (us : List Fm) : Fm.uniL us = us.any Fm.uni := by
  induction us with
  | nil => rfl
  | cons x us ih => rw [Fm.uniL, List.any_cons, ih]
theorem any_cong {α : Type} {p q : α → Bool} : ∀ {l : List α}, (∀ x ∈ l, p x = q x) → l.any p = l.any q
  | [], _ => rfl
  | x :: l, h => by rw [List.any_cons, List.any_cons, h x (by simp), any_cong fun y hy => h y (by simp [hy])]
theorem inn_uni (s : Tm) (f : Fm) : ∀ n : Int, (Fm.inn n f s).uni = f.uni := by
  induction f using Fm.ind with
  | h k ty ts l ih =>
    intro n
    rw [Fm.inn_mk, Fm.uni_mk, Fm.uni_mk, Fm.uniL_any, Fm.uniL_any, List.any_map]
    congr 1
    exact any_cong fun x hx => ih x hx _
/-- A formula without uniform quantifiers that is made. -/
def PuGood (g : List Ty) (b : Nat) (o : Option (Fm × Smk_Deck)) : Prop := ∃ x d', o = some (x, d') ∧ d'.wf ∧ FmOk g x b ∧ x.uni = false
theorem PuGood.of {g : List Ty} {b : Nat} {x : Fm} {d : Smk_Deck} (hd : d.wf) (h : FmTy g x) (hn : x.nodes ≤ b) (hu : x.uni = false) : PuGood g b (some (x, d)) := ⟨x, d, rfl, hd, ⟨h, hn⟩, hu⟩
theorem mk_Pure_pu : ∀ (n k : Nat) (g : List Ty) (d : Smk_Deck), k < n → k ≤ 5 → g.length + k ≤ 500 → CtxOk 3 g → d.wf → PuGood g (fb k) (mk_Pure n d g (k : Int)) := by
  intro n
  induction n with
  | zero => intro k g d h; omega
  | succ n ih =>
    intro k g d hk hk5 hlen hg hd
    rw [mk_Pure]
    refine good_join (G := PuGood g (fb k)) Smk_Deck.wf ?_ ?_
    · intro d1 hd1
      rw [ref01_Nat_eq]
      simp only [bind1_of]
      obtain ⟨a, d2, a1, a2, a3⟩ := mk_Term' 3 (by omega) (by omega) 1 (by omega) g .nat d1 (by omega) hg Ty.nat_err (by rw [Ty.nat_nodes]; omega) hd1
      rw [show ((1 : Nat) : Int) = 1 from rfl] at a1
      rw [a1]
      simp only [bind2_of]
      obtain ⟨b, d3, b1, b2, b3⟩ := mk_Term' 3 (by omega) (by omega) 1 (by omega) g .nat d2 (by omega) hg Ty.nat_err (by rw [Ty.nat_nodes]; omega) a2
      rw [show ((1 : Nat) : Int) = 1 from rfl] at b1
      rw [b1]
      simp only [bind2_of]
      have e : tb 3 1 = 57 := rfl
      rw [e] at a3 b3
      rw [Eq_eq (by have := a3.wt; omega) (by have := b3.wt; omega)]
      refine PuGood.of b2 (.eq a3.ty b3.ty) ?_ (by rw [Fm.uni_mk]; simp [Fm.uniL])
      have := a3.nodes; have := b3.nodes
      have h0 : 115 ≤ fb k := by
        clear hk hk5 hlen ih
        induction k with
        | zero => simp [fb]
        | succ k ih => simp only [fb]; omega
      rw [Fm.nodes_mk]; simp only [sumL]; omega
    · intro j hj
      simp only [igt_iff]
      split
      · rename_i hpos
        obtain ⟨m, rfl⟩ : ∃ m, k = m + 1 := ⟨k - 1, by omega⟩
        have e1 : isub .i64 ((m + 1 : Nat) : Int) 1 = (m : Int) := by rw [isub_in (by omega) (by omega)]; omega
        have hbd := fb_bd m (by omega)
        have deep : ∀ g' d', g'.length ≤ g.length + 1 → CtxOk 3 g' → d'.wf → PuGood g' (fb m) (mk_Pure n d' g' (isub .i64 ((m + 1 : Nat) : Int) 1)) := by
          intro g' d' h1 h2 h3
          rw [e1]
          exact ih m g' d' (by omega) (by omega) (by omega) h2 h3
        have ctx : ∀ s : Ty, s.err = 0 → s.nodes ≤ 3 → CtxOk 3 (g ++ [s]) := fun s h1 h2 => hg.app (by intro u hu; rw [List.mem_singleton] at hu; subst hu; exact ⟨h1, h2⟩)
        obtain ⟨x, d2, h1, h2, h3, h4⟩ := next_ok d hd 7 (by omega) (by omega)
        rw [h1]
        simp only [bind2_of, sel_or, Bool.or_eq_true, ieq_iff]
        have two : ∀ kk : Int, kk = 2 ∨ kk = 3 → PuGood g (fb (m + 1)) (bind2 (mk_Pure n d2 g (isub .i64 ((m + 1 : Nat) : Int) 1)) fun x316 d317 => bind2 (mk_Pure n d317 g (isub .i64 ((m + 1 : Nat) : Int) 1)) fun x320 d321 => bind1 (ref07_Two kk x316 x320) fun x324 => some (x324, d321)) := by
          intro kk hkk
          obtain ⟨a, d3, a1, a2, a3, a4⟩ := deep g d2 (by omega) hg h4
          rw [a1]
          simp only [bind2_of]
          obtain ⟨b, d4, b1, b2, b3, b4⟩ := deep g d3 (by omega) hg a2
          rw [b1]
          simp only [bind2_of]
          rw [Two_eq (by have := a3.wt; omega) (by have := b3.wt; omega)]
          refine PuGood.of b2 (.two hkk a3.ty b3.ty) ?_ (by rw [Fm.uni_mk, Fm.uniL, Fm.uniL, Fm.uniL, a4, b4]; simp; omega)
          have := a3.nodes; have := b3.nodes
          rw [Fm.nodes_mk]; simp only [sumL, fb]; omega
        split
        · exact two 2 (.inl rfl)
        split
        · exact two 3 (.inr rfl)
        have one : ∀ kk : Int, kk = 4 ∨ kk = 5 → PuGood g (fb (m + 1)) (bind2 (mk_Type FU d2 0) fun x413 d414 => bind1 (mk_longer g [x413]) fun x429 => bind2 (mk_Pure n d414 x429 (isub .i64 ((m + 1 : Nat) : Int) 1)) fun x432 d433 => bind1 (ref07_Q kk x413 x432) fun x436 => some (x436, d433)) := by
          intro kk hkk
          obtain ⟨s, d3, s1, s2, s3, s4⟩ := mk_Type' d2 h4 0 (by omega)
          rw [show ((0 : Nat) : Int) = 0 from rfl] at s1
          rw [s1]
          simp only [bind2_of]
          rw [mk_longer_eq g [s] (by simp; omega)]
          simp only [bind1_of]
          obtain ⟨a, d4, a1, a2, a3, a4⟩ := deep (g ++ [s]) d3 (by simp) (ctx s s2 (by omega)) s4
          rw [a1]
          simp only [bind2_of]
          rw [Q_eq (by omega) (by have := a3.wt; omega)]
          refine PuGood.of a2 (.q (by omega) s2 a3.ty) ?_ (by rw [Fm.uni_mk, Fm.uniL, Fm.uniL, a4]; simp; omega)
          have := a3.nodes
          rw [Fm.nodes_mk]; simp only [sumL, fb]; omega
        split
        · exact one 4 (.inl rfl)
        split
        · exact one 5 (.inr rfl)
        · exact hj d2 h4
      · exact hj d hd
theorem Tm.err_ok {t : Tm} (h : t.err = 0) : t.ok = true ∧ t.nodes ≤ 4096 := by
  unfold Tm.err at h
  split at h
  · rename_i ho
    split at h
    · omega
    · exact ⟨ho, by omega⟩
  · omega
/-- A term put in for the last variable, or the error. -/
theorem put_eq {f : Fm} {s : Tm} (he : f.err = 0) (hse : s.err = 0) (hl : f.least 536870912 = true) (hsl : s.least 536870912 = true) :
    (Fm.inn 0 f s).err = 0 ∧ ref07_Put f 0 s = some (Fm.inn 0 f s, 0) ∨ ∃ x, ref07_Put f 0 s = some (x, 4) := by
  obtain ⟨hok, hn⟩ := Fm.err_ok he
  obtain ⟨hto, htn⟩ := Tm.err_ok hse
  have hio := Fm.inn_ok s hto f 0 (by omega) hok
  have hw := f.ok_wt hok
  have htw := s.ok_wt hto
  have hsp := s.nodes_pos
  have htm := f.times_nodes 0
  have hin := Fm.inn_nodes s f 0 hok
  unfold ref07_Put
  rw [ref07_Check_eq (by omega), he]
  simp only [bind1_of, ine_iff, ne_eq, not_true_eq_false, if_false, joinB_eq, ilt_iff, igt_iff, sel_or, Bool.or_eq_true]
  rw [if_neg (by omega), ref02_Check_eq (by omega), hse, ref07_Least_eq FU f _ (by rw [FU_eq]; omega) (by omega), hl, ref03_Least' _ (by omega), hsl]
  simp only [bind1_of, not_true_eq_false, if_false, if_true, bnot_true, Bool.false_eq_true]
  rw [ref07_Count_eq FU f (by rw [FU_eq]; omega) (by omega), ref07_times_eq FU f 0 (by rw [FU_eq]; omega) (by omega) (by omega) (by omega), ref02_Count_eq FU s (by rw [FU_eq]; omega) (by omega)]
  simp only [bind1_of]
  rw [isub_in (by omega) (by omega)]
  have hmul : (f.times 0 : Int) * ((s.nodes : Int) - 1) = ((f.times 0 * s.nodes : Nat) : Int) - (f.times 0 : Int) := by rw [Int.mul_sub, Int.mul_one]; push_cast; rfl
  have hmb : f.times 0 * s.nodes ≤ 4096 * 4096 := Nat.mul_le_mul (by omega) htn
  have hmb2 : f.times 0 ≤ f.times 0 * s.nodes := Nat.le_mul_of_pos_right _ (by omega)
  rw [imul_in (by rw [hmul]; omega) (by rw [hmul]; omega), hmul, iadd_in (by omega) (by omega)]
  by_cases hc : 4096 < (Fm.inn 0 f s).nodes
  · rw [if_pos (by omega)]
    exact .inr ⟨_, rfl⟩
  · rw [if_neg (by omega), ref07_In_eq FU f 0 0 s (by rw [FU_eq]; omega) (by omega) (by omega) (by omega) (by omega) (Fm.least_mono f (by omega) hl) hok (by omega) (Tm.least_mono s (by omega) hsl)]
    simp only [bind1_of, Int.add_zero]
    have hiw := Fm.ok_wt _ hio
    rw [ref07_Copy' (by omega)]
    exact .inl ⟨Fm.err_of hio (by omega), rfl⟩
theorem tr_cases {a f : Fm} (ha : Cl a) (hf : f.err = 0) (hu : f.uni = false) :
    (∃ r, tr_formula FU a f 0 = some r ∧ translate_Formula a f = some (r, 0) ∧ r.err = 0) ∨ ∃ x, translate_Formula a f = some (x, 4) := by
  obtain ⟨hfo, hfn⟩ := Fm.err_ok hf
  have haw := Fm.ok_wt a ha.ty.ok
  have hfw := Fm.ok_wt f hfo
  have han := ha.nodes
  by_cases ht : 4096 < f.tr a.nodes
  · right
    have hl : lookE a f = 4 := by
      unfold lookE
      rw [if_pos (Fm.err_of ha.ans.ok han), if_pos hf, if_neg (by simp [hu]), if_pos ha.ans.least, if_pos ht]
    have := (formula_no (a := a) (f := f) (by omega) (by omega) (by rw [hl]; decide)).1
    rw [hl] at this
    exact ⟨_, this⟩
  · left
    obtain ⟨r, r1, -, r3, -, r5, r6⟩ := formula_yes (a := a) (f := f) (by omega) (by omega) (lookE_of ha.ans hf hu (by omega))
    exact ⟨r, r1, r3, Fm.err_of r5 (by omega)⟩

/-- The marks of a formula: its free variables. -/
theorem markF : ∀ (n : Nat) (f : Fm) (d : Int) (m : List (Int × Bool)), f.nodes ≤ n → f.nodes ≤ 100000 → 0 ≤ d → d + f.nodes ≤ 700000000 → f.least 1000000000000 = true → (keysL m).Nodup →
    ∃ m', ref07_Mark n f d m = some m' ∧ (keysL m').Nodup ∧ m'.length ≤ m.length + f.nodes ∧ ∀ x, x ∈ keysL m' ↔ x ∈ keysL m ∨ (0 ≤ x ∧ 0 < f.times (x + d)) := by
  intro n
  induction n with
  | zero => intro f d m h; have := f.nodes_pos; omega
  | succ n ih =>
    intro f d m hn hb h0 h1 hl hm
    cases f with
    | mk k s ts l =>
      rw [Fm.nodes_mk] at hn hb h1 ⊢
      have hl1 := Tm.len_nodes ts
      have hl2 := Fm.len_nodes l
      have hq := qB_bd k
      rw [Fm.least_mk, Bool.and_eq_true, List.all_eq_true, List.all_eq_true] at hl
      have loop : ∀ {α : Type} (w : α → Nat) (tm : Int → α → Nat) (dd : Int) (F : Int → α → List (Int × Bool) → Option (Ctl (List (Int × Bool)) (List (Int × Bool)))) (us : List α) (i : Nat) (m : List (Int × Bool)), (keysL m).Nodup →
          (∀ (j : Nat) (x : α) (m : List (Int × Bool)), x ∈ us → (keysL m).Nodup → ∃ m', F (j : Int) x m = some (.next m') ∧ (keysL m').Nodup ∧ m'.length ≤ m.length + w x ∧ ∀ y, y ∈ keysL m' ↔ y ∈ keysL m ∨ (0 ≤ y ∧ 0 < tm (y + dd) x)) →
          ∃ m', forR F us i m = some (.inl m') ∧ (keysL m').Nodup ∧ m'.length ≤ m.length + sumL w us ∧ ∀ y, y ∈ keysL m' ↔ y ∈ keysL m ∨ (0 ≤ y ∧ 0 < sumL (tm (y + dd)) us) := by
        intro α w tm dd F us
        induction us with
        | nil => intro i m hm _; exact ⟨m, rfl, hm, by simp [sumL], fun y => by simp [sumL]⟩
        | cons u us ihu =>
          intro i m hm h
          obtain ⟨m1, a1, a2, a3, a4⟩ := h i u m (by simp) hm
          obtain ⟨m2, b1, b2, b3, b4⟩ := ihu (i + 1) m1 a2 (fun j x m hx => h j x m (by simp [hx]))
          refine ⟨m2, by rw [forR_cons, a1, bind1_of, ctlK_next]; exact b1, b2, by simp only [sumL]; omega, fun y => ?_⟩
          rw [b4, a4]
          simp only [sumL]
          constructor
          · rintro ((h | h) | h)
            · exact .inl h
            · exact .inr ⟨h.1, by omega⟩
            · exact .inr ⟨h.1, by omega⟩
          · rintro (h | ⟨h, h'⟩)
            · exact .inl (.inl h)
            · by_cases hz : 0 < tm (y + dd) u
              · exact .inl (.inr ⟨h, hz⟩)
              · exact .inr ⟨h, by omega⟩
      rw [ref07_Mark]
      simp only [Fm.terms_mk, Fm.args_mk, joinB_eq]
      rw [okLen_of (by omega), chk_true]
      obtain ⟨m1, a1, a2, a3, a4⟩ := loop Tm.nodes Tm.times d (fun (j17 : Int) (x19 : Tm) => (fun (v32 : (List (Int × Bool))) => bind1 (ref03_Mark FU x19 d v32) fun d42 => some (.next d42))) ts 0 m hm (fun j x m hx hm => by
        have := sumL_mem Tm.nodes hx
        obtain ⟨m', c1, c2, c3, c4⟩ := ref03_Mark_eq FU x d m (by rw [FU_eq]; omega) (by omega) h0 (by omega) (Tm.least_mono x (by omega) (hl.1 x hx)) hm
        exact ⟨m', by rw [c1]; rfl, c2, c3, c4⟩)
      rw [a1, bind1_of, sumK_inl, okLen_of (by omega), chk_true]
      obtain ⟨m2, b1, b2, b3, b4⟩ := loop Fm.nodes Fm.times (d + qB k) (fun (j44 : Int) (x46 : Fm) => (fun (v83 : (List (Int × Bool))) => bind1 (ref07_below (Fm.mk k s ts l)) fun x103 => bind1 (ref07_Mark n x46 (iadd .i64 d x103) v83) fun d105 => some (.next d105))) l 0 m1 a2 (fun j x m hx hm => by
        have := sumL_mem Fm.nodes hx
        obtain ⟨m', c1, c2, c3, c4⟩ := ih x (d + qB k) m (by omega) (by omega) (by omega) (by omega) (hl.2 x hx) hm
        exact ⟨m', by rw [ref07_below_eq, bind1_of, Fm.kind_mk, iadd_in (by omega) (by omega), c1]; rfl, c2, c3, c4⟩)
      rw [b1, bind1_of, sumK_inl]
      refine ⟨m2, rfl, b2, by omega, fun x => ?_⟩
      rw [b4, a4, Fm.times_mk, ← Int.add_assoc]
      constructor
      · rintro ((h | h) | h)
        · exact .inl h
        · exact .inr ⟨h.1, by omega⟩
        · exact .inr ⟨h.1, by omega⟩
      · rintro (h | ⟨h, h'⟩)
        · exact .inl (.inl h)
        · by_cases hz : 0 < sumL (Tm.times (x + d)) ts
          · exact .inl (.inr ⟨h, hz⟩)
          · exact .inr ⟨h, by omega⟩
theorem uses_eq {f : Fm} (he : f.err = 0) (hl : f.least 1000000000000 = true) : ∃ m : List (Int × Bool), ref07_Uses f = some (sortS [] (keysL m), 0) ∧ (keysL m).Nodup ∧ m.length ≤ 4096 ∧ ∀ x, x ∈ keysL m ↔ 0 ≤ x ∧ 0 < f.times x := by
  obtain ⟨hfo, hfn⟩ := Fm.err_ok he
  have hfw := Fm.ok_wt f hfo
  obtain ⟨m, h1, h2, h3, h4⟩ := markF FU f 0 [] (by rw [FU_eq]; omega) (by omega) (by omega) (by omega) hl (by simp [keysL])
  have hml : m.length ≤ 4096 := by simpa using Nat.le_trans h3 (by simpa using hfn)
  have hnd : (m.map (·.1)).Nodup := h2
  refine ⟨m, ?_, h2, hml, fun x => ?_⟩
  · unfold ref07_Uses ref03_Sorted
    rw [ref07_Check_eq (by omega), he]
    simp only [bind1_of]
    rw [if_neg (by decide), h1]
    simp only [bind1_of]
    rw [okLen_of (by omega), chk_true, show distinctB (m.map (·.1)) = true from by simp [distinctB, hnd], chk_true]
    rfl
  · rw [h4]; simp [keysL]
/-- A formula that is typed in a context: the second form finds no error. -/
theorem typed_zero {g : List Ty} {f : Fm} (h : FmTy g f) : (∀ s ∈ g, s.err = 0) → ∀ n : Nat, f.nodes ≤ n → f.nodes ≤ 4096 → g.length + f.nodes ≤ 1000000 → ref07_typed n g f = some 0 := by
  have tm : ∀ {g : List Ty} {x : Tm}, HasTy g x .nat → (∀ s ∈ g, s.err = 0) → x.nodes ≤ 4096 → g.length + x.nodes ≤ 1000000 → ref02_Typed g x = some (.nat, 0) := by
    intro g x hx hg hn hb
    have := x.ok_wt hx.ok
    unfold ref02_Typed
    rw [ref02_Check_eq (by omega), bind1_of, show x.err = 0 by unfold Tm.err; rw [if_pos hx.ok, if_neg (by omega)], if_neg (by decide), (infer_eq hx hg).2 FU (by rw [FU_eq]; omega) hb]
    rfl
  induction h with
  | @eq g x y h1 h2 =>
    intro hg n hn hn2 hb
    have e : (Fm.mk 1 .z [x, y] []).nodes = 1 + (x.nodes + y.nodes) := by rw [Fm.nodes_mk]; simp [sumL]
    rw [e] at hn hn2 hb
    obtain ⟨n, rfl⟩ : ∃ m, n = m + 1 := ⟨n - 1, by omega⟩
    rw [ref07_typed]
    simp only [Fm.terms_mk, Fm.args_mk, Fm.kind_mk, Fm.typeF_mk, joinB_eq, ref07_quantifier_eq, bind1_of, show quantB 1 = false from rfl, Bool.false_eq_true, if_false]
    rw [okLen_of (by simp), chk_true, forR_cons, tm h1 hg (by omega) (by omega), bind2_of, if_neg (by decide), if_neg (by decide), bind1_of, ctlK_next, forR_cons, tm h2 hg (by omega) (by omega), bind2_of, if_neg (by decide), if_neg (by decide), bind1_of, ctlK_next]
    rfl
  | @two g k x y hk _ _ ih1 ih2 =>
    intro hg n hn hn2 hb
    rw [trTwo_nodes] at hn hn2 hb
    obtain ⟨n, rfl⟩ : ∃ m, n = m + 1 := ⟨n - 1, by omega⟩
    have hq : quantB k = false := by rcases hk with rfl | rfl <;> rfl
    rw [ref07_typed]
    simp only [Fm.terms_mk, Fm.args_mk, Fm.kind_mk, Fm.typeF_mk, joinB_eq, ref07_quantifier_eq, bind1_of, hq, Bool.false_eq_true, if_false]
    rw [okLen_of (by simp), chk_true, forR_nil, bind1_of, sumK_inl, okLen_of (by simp), chk_true, forR_cons, ih1 hg n (by omega) (by omega) (by omega), bind1_of, if_neg (by decide), bind1_of, ctlK_next, forR_cons, ih2 hg n (by omega) (by omega) (by omega), bind1_of, if_neg (by decide), bind1_of, ctlK_next]
    rfl
  | @q g k s x hk hs _ ih =>
    intro hg n hn hn2 hb
    rw [trQ_nodes] at hn hn2 hb
    obtain ⟨n, rfl⟩ : ∃ m, n = m + 1 := ⟨n - 1, by omega⟩
    have hq : quantB k = true := by rcases hk with rfl | rfl | rfl | rfl <;> rfl
    rw [ref07_typed]
    simp only [Fm.terms_mk, Fm.args_mk, Fm.kind_mk, Fm.typeF_mk, joinB_eq, ref07_quantifier_eq, bind1_of, hq, if_true]
    rw [okLen_of (by simp), chk_true, forR_nil, bind1_of, sumK_inl, okApp_of (by simp; omega), chk_true, okLen_of (by simp), chk_true, forR_cons, lapp_eq, ih (by intro u hu; rcases List.mem_append.1 hu with h | h; exact hg u h; rw [List.mem_singleton] at h; rw [h]; exact hs) n (by omega) (by omega) (by simp; omega), bind1_of, if_neg (by decide), bind1_of, ctlK_next]
    rfl
theorem typedF_zero {g : List Ty} {f : Fm} (h : FmTy g f) (hg : ∀ s ∈ g, s.err = 0) (hl : g.length ≤ 16) (he : f.err = 0) : ref07_Typed g f = some 0 := by
  obtain ⟨hfo, hfn⟩ := Fm.err_ok he
  have hfw := Fm.ok_wt f hfo
  have hc : ctxE g = 0 := by
    unfold ctxE
    rw [if_neg (by omega)]
    clear h hl
    induction g with
    | nil => rfl
    | cons s g ih => rw [List.map_cons, firstE, hg s (by simp)]; exact ih fun u hu => hg u (by simp [hu])
  unfold ref07_Typed ref07_Below
  rw [ref01_Context_eq g (by omega) (fun t ht => by have := (Ty.err_zero (hg t ht)).2; omega), hc, bind1_of, if_neg (by decide), ref07_Check_eq (by omega), he, bind1_of, if_neg (by decide), typed_zero h hg FU (by rw [FU_eq]; omega) hfn (by omega)]
  rfl
theorem ints_loop (l : List Int) : forR (ρ := Bool) (fun (j164 : Int) (x166 : Int) => (fun (_ : Unit) =>
      bind1 (lget l j164) fun x206 => if (ine x166 x206) = true then some (.ret false) else some (.next ()))) l 0 () = some (.inl ()) := by
  obtain ⟨s', h, -⟩ := forR_ind (ρ := Bool) (F := fun (j164 : Int) (x166 : Int) => (fun (_ : Unit) =>
      bind1 (lget l j164) fun x206 => if (ine x166 x206) = true then some (.ret false) else some (.next ()))) (fun _ => True) l 0 () trivial (fun k x s hk _ => by
    rw [Nat.zero_add, lget_ofNat, hk]
    refine ⟨(), ?_, trivial⟩
    simp only [bind1_of, show ine x x = false by simp [ine], Bool.false_eq_true, if_false])
  exact h
theorem law_TranslatePuts (a0 : List Int) : law20_TranslatePuts a0 = some true := by
  unfold law20_TranslatePuts mk_Few
  rw [law20_sane_eq]
  simp only [bind1_of, if_true, ile_iff, llen_eq, joinB_eq]
  by_cases h : (a0.length : Int) ≤ 500
  · rw [if_pos h]
    unfold mk_New
    simp only [bind1_of]
    have hd : (Smk_Deck.mk a0 0).wf := ⟨by show a0.length ≤ 1000; omega, by show (0 : Int) ≤ 0; omega, by show (0 : Int) ≤ (a0.length : Int); omega⟩
    obtain ⟨g, d, c1, c2, c3, c4⟩ := mk_Context_ok _ hd
    rw [c1]
    simp only [bind2_of]
    obtain ⟨t, d1, t1, t2, t3, t4⟩ := mk_Type' d c2 1 (by omega)
    rw [show ((1 : Nat) : Int) = 1 from rfl] at t1
    rw [t1]
    simp only [bind2_of]
    obtain ⟨a, d2, a1, a2, a3, a4⟩ := mk_Pure_pu FU 1 [] d1 (by rw [FU_eq]; omega) (by omega) (by simp) ⟨fun s hs => by cases hs⟩ t4
    rw [show ((1 : Nat) : Int) = 1 from rfl] at a1
    rw [a1]
    simp only [bind2_of, lapp_eq, List.nil_append]
    have hgt : CtxOk 3 (g ++ [t]) := c4.app (by intro u hu; rw [List.mem_singleton] at hu; subst hu; exact ⟨t2, by omega⟩)
    obtain ⟨f, d3, f1, f2, f3, f4⟩ := mk_Pure_pu FU 2 (g ++ [t]) d2 (by rw [FU_eq]; omega) (by omega) (by simp; omega) hgt a2
    rw [show ((2 : Nat) : Int) = 2 from rfl] at f1
    rw [okApp_of (by simp; omega), chk_true, okApp_of (by simp; omega), chk_true, f1]
    simp only [bind2_of]
    obtain ⟨s, d4, s1, s2, s3⟩ := mk_Term' 3 (by omega) (by omega) 2 (by omega) g t d3 (by omega) c4 t2 (by omega) f2
    rw [show ((2 : Nat) : Int) = 2 from rfl] at s1
    rw [s1]
    simp only [bind2_of]
    have bs := tb_bd (N := 3) (by omega) 2 (by omega)
    have ha : Cl a := ⟨a3.ty, by have := a3.nodes; have := fb_bd 1 (by omega); omega⟩
    have hfe : f.err = 0 := f3.err (by have := fb_bd 2 (by omega); omega)
    have hfn := (Fm.err_ok hfe).2
    have hsn : s.nodes ≤ 4096 := by have := s3.nodes; have e : tb 3 2 = 201 := rfl; omega
    have hse : s.err = 0 := by unfold Tm.err; rw [if_pos s3.ty.ok, if_neg (by omega)]
    have hfl : f.least 536870912 = true := f3.ty.least _ (by simp; omega)
    have hsl : s.least 536870912 = true := s3.ty.least _ (by omega)
    have fin0 : ∀ e1 e2 : Int, e1 = 0 ∨ e1 = 4 → e2 = 0 ∨ e2 = 4 → sel (ieq e1 0) (sel (ieq e2 0) true (ieq e2 4)) (sel (ieq e1 4) (sel (ieq e2 0) true (ieq e2 4)) false) = true := by
      rintro e1 e2 (rfl | rfl) (rfl | rfl) <;> rfl
    have z0 : ine (0 : Int) 0 = false := rfl
    have z4 : ine (4 : Int) 0 = true := rfl
    have hp := put_eq hfe hse hfl hsl
    have ht := tr_cases ha hfe f4
    rcases hp with ⟨p1, p2⟩ | ⟨x, p2⟩
    · rcases ht with ⟨T, T1, T2, T3⟩ | ⟨y, T2⟩
      · rw [p2, T2]
        simp only [bind2_of, z0, sel, Bool.false_eq_true, if_false]
        have hT : T = trF a f := by
          rw [tr_eq ha f3.ty.ok f4 0 FU (by omega) (by rw [FU_eq]; omega)] at T1
          exact (Option.some.inj T1).symm
        have hTt : FmTy (g ++ [t]) T := hT ▸ trF_ty ha f3.ty f4
        have hTn := (Fm.err_ok T3).2
        have hTl : T.least 536870912 = true := hTt.least _ (by simp; omega)
        have hpu : (Fm.inn 0 f s).uni = false := by rw [inn_uni]; exact f4
        rcases tr_cases ha p1 hpu with ⟨R, R1, R2, R3⟩ | ⟨y, R2⟩
        · rcases put_eq T3 hse hTl hsl with ⟨q1, q2⟩ | ⟨x, q2⟩
          · rw [R2, q2]
            simp only [bind2_of, z0, Bool.false_eq_true, if_false]
            have hfl' : f.least 1000000000000 = true := Fm.least_mono f (by omega) hfl
            obtain ⟨m1, u1, u2, u3, u4⟩ := uses_eq hfe hfl'
            obtain ⟨m2, v1, v2, v3, v4⟩ := uses_eq T3 (Fm.least_mono T (by omega) hTl)
            have hl : sortS [] (keysL m1) = sortS [] (keysL m2) := sortS_eq u2 v2 fun x => by
              rw [u4, v4, hT]
              constructor
              · exact fun ⟨h1, h2⟩ => ⟨h1, (trF_times ha f3.ty x h1).2 h2⟩
              · exact fun ⟨h1, h2⟩ => ⟨h1, (trF_times ha f3.ty x h1).1 h2⟩
            have hR : R = Fm.inn 0 T s := by
              obtain ⟨i1, i2⟩ := Fm.err_ok p1
              rw [tr_eq ha i1 hpu 0 FU (by omega) (by rw [FU_eq]; omega)] at R1
              rw [hT, trF_inn ha s f 0 (by omega)]
              exact (Option.some.inj R1).symm
            rw [u1, v1]
            simp only [bind2_of, z0, Bool.false_eq_true, if_false, hl, show ∀ x : Int, ine x x = false from fun x => by simp [ine], hR]
            rw [fmSame_self (trSmall_wt (Fm.err_ok q1).1 (by have := (Fm.err_ok q1).2; omega)), bind1_of]
            simp only [show bnot true = false from rfl, Bool.false_eq_true, if_false]
            rw [okLen_of (by rw [sortS_len]; simp [keysL]; omega), chk_true, ints_loop, bind1_of, sumK_inl, chk_true, chk_true, typedF_zero hTt (fun s hs => (hgt.all s hs).1) (by simp; omega) T3, bind1_of]
            rw [ref02_Check_eq (by have := s.ok_wt s3.ty.ok; omega), hse]
            rfl
          · rw [R2, q2]
            rfl
        · rcases put_eq T3 hse hTl hsl with ⟨q1, q2⟩ | ⟨x, q2⟩
          · rw [R2, q2]; rfl
          · rw [R2, q2]; rfl
      · rw [p2, T2]; rfl
    · rcases ht with ⟨T, T1, T2, T3⟩ | ⟨y, T2⟩
      · rw [p2, T2]; rfl
      · rw [p2, T2]; rfl
  · rw [if_neg h]
end Go.Mdl
