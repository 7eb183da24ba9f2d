/- A part of the proof of TypesDoes: contracts of functions of the program, and what they need. -/
import Derived.Test.YtnbbnjmjpnncfaaPd
/-
  Formulas: what the functions of chapter 7 and of tree compute.
-/
set_option linter.unusedSimpArgs false
set_option linter.unusedVariables false
namespace Go.Mdl
open Go

def quantB (k : Int) : Bool := decide (k = 4 ∨ k = 5 ∨ k = 6 ∨ k = 7)
def qB (k : Int) : Int := if quantB k = true then 1 else 0
theorem qB_bd (k : Int) : 0 ≤ qB k ∧ qB k ≤ 1 := by unfold qB; split <;> omega
theorem len_zero {α : Type} {l : List α} : (l.length : Int) = 0 ↔ l = [] := by cases l <;> simp; omega
theorem len_one {α : Type} {l : List α} (h : (l.length : Int) = 1) : ∃ a, l = [a] := by
  match l, h with
  | [a], _ => exact ⟨a, rfl⟩
  | [], h => simp at h
  | _ :: _ :: _, h => simp at h; omega
theorem len_two {α : Type} {l : List α} (h : (l.length : Int) = 2) : ∃ a b, l = [a, b] := by
  match l, h with
  | [a, b], _ => exact ⟨a, b, rfl⟩
  | [], h => simp at h
  | [_], h => simp at h
  | _ :: _ :: _ :: _, h => simp at h; omega

end Go.Mdl

/-
  Content types: what the program's package content and the reference of chapter 23 compute, and that they agree.
-/
namespace Go.Mdl
open Go

def joinT (k : Int) (a b : Ty) : Ty × Bool × Int := if (Ty.mk k [a, b]).err ≠ 0 then (.mk 0 [], false, (Ty.mk k [a, b]).err) else (.mk k [a, b], true, 0)
def ctAnd (first last : Ty × Bool × Int) : Ty × Bool × Int :=
  if first.2.2 ≠ 0 ∨ first.2.1 = false then (last.1, last.2.1, first.2.2) else if last.2.1 = true then joinT 3 first.1 last.1 else (first.1, true, 0)
def ctImp (first last : Ty × Bool × Int) : Ty × Bool × Int :=
  if first.2.2 ≠ 0 ∨ first.2.1 = false then (last.1, true, first.2.2) else joinT 4 first.1 last.1
def ctNode (k : Int) (s : Ty) (first last : Ty × Bool × Int) : Ty × Bool × Int :=
  if last.2.2 ≠ 0 then (.mk 0 [], false, last.2.2)
  else if k = 2 then ctAnd first last
  else if k = 5 then (if last.2.1 = true then joinT 3 s last.1 else (s, true, 0))
  else if last.2.1 = true then (if k = 3 then ctImp first last else if k = 4 then joinT 4 s last.1 else (last.1, true, 0))
  else (.mk 0 [], false, 0)
def tup0 : Ty × Bool × Int := (.mk 0 [], false, 0)
theorem Ty.err_zero {t : Ty} (h : t.err = 0) : t.ok = true ∧ t.nodes ≤ 64 := by
  unfold Ty.err at h
  split at h
  · split at h
    · omega
    · exact ⟨‹_›, by omega⟩
  · omega
theorem Ty.err_of {t : Ty} (h : t.ok = true) (h2 : t.nodes ≤ 64) : t.err = 0 := by unfold Ty.err; rw [if_pos h, if_neg (by omega)]
theorem Ty.err_or {t : Ty} (h : t.ok = true) : t.err = 0 ∨ t.err = 4 := by unfold Ty.err; rw [if_pos h]; split <;> simp
theorem Ty.ok_two {k : Int} (hk : k = 3 ∨ k = 4) {a b : Ty} (ha : a.ok = true) (hb : b.ok = true) : (Ty.mk k [a, b]).ok = true := by
  rw [Ty.ok_mk]
  have : ¬ (k = 1 ∨ k = 2 ∨ k = 5) := by omega
  simp [Ty.want, hk, this, ha, hb]
theorem joinT_good {k : Int} (hk : k = 3 ∨ k = 4) {a b : Ty} (ha : a.ok = true) (hb : b.ok = true) :
    ((joinT k a b).2.2 = 0 ∨ (joinT k a b).2.2 = 4) ∧ ((joinT k a b).2.2 = 0 → (joinT k a b).2.1 = true ∧ (joinT k a b).1.err = 0) := by
  unfold joinT
  rcases Ty.err_or (Ty.ok_two hk ha hb) with h | h
  · rw [if_neg (by simp [h])]; exact ⟨.inl rfl, fun _ => ⟨rfl, h⟩⟩
  · rw [if_pos (by omega)]; exact ⟨.inr h, fun h' => absurd (h.symm.trans h') (by decide)⟩

theorem Ty.nodes_two (k : Int) (a b : Ty) : (Ty.mk k [a, b]).nodes = 1 + a.nodes + b.nodes := by rw [Ty.nodes_mk]; simp [sumL]; omega
end Go.Mdl

/-
  What is made of a deck of numbers: types, terms, with their types; bounds on their sizes.
-/
namespace Go.Mdl
open Go

def Ty.nat : Ty := .mk 1 []
def Ty.lst : Ty := .mk 2 []
def Ty.unit : Ty := .mk 5 []
def Ty.fn (a b : Ty) : Ty := .mk 4 [a, b]
def Ty.pr (a b : Ty) : Ty := .mk 3 [a, b]
def Ty.z : Ty := .mk 0 []

theorem Ty.zeroB_z : Ty.z.zeroB = true := rfl
theorem Ty.err_parts {k : Int} (hk : k = 3 ∨ k = 4) {a b : Ty} (h : (Ty.mk k [a, b]).err = 0) : a.err = 0 ∧ b.err = 0 := by
  obtain ⟨h1, h2⟩ := Ty.err_zero h
  rw [Ty.ok_mk] at h1
  simp only [Bool.and_eq_true, List.all_eq_true] at h1
  rw [Ty.nodes_two] at h2
  exact ⟨Ty.err_of (h1.2 a (by simp)) (by omega), Ty.err_of (h1.2 b (by simp)) (by omega)⟩

theorem sumL_mul {α : Type} {f g : α → Nat} {c : Nat} {l : List α} (h : ∀ x ∈ l, f x ≤ c * g x) : sumL f l ≤ c * sumL g l := by
  induction l with
  | nil => simp [sumL]
  | cons x l ih => simp only [sumL, Nat.mul_add]; have := h x (by simp); have := ih fun y hy => h y (by simp [hy]); omega
/-! ### the deck -/
structure Smk_Deck.wf (d : Smk_Deck) : Prop where
  len : d.l.length ≤ 1000
  lo : 0 ≤ d.atF
  hi : d.atF ≤ d.l.length

theorem mk_Mod_eq (x n : Int) (h1 : 1 ≤ n) (h2 : n ≤ 1000000000) : ∃ y, mk_Mod x n = some y ∧ 0 ≤ y ∧ y < n := by
  unfold mk_Mod
  simp only [okDiv_of (b := n) (by omega), chk_true]
  refine ⟨_, rfl, ?_⟩
  unfold irem
  have e : (x.tmod n).natAbs < n.natAbs := by
    rw [Int.natAbs_tmod]
    exact Nat.mod_lt _ (by omega)
  rw [iadd_in (by omega) (by omega)]
  have h0 : 0 ≤ x.tmod n + n := by omega
  exact ⟨Int.tmod_nonneg _ h0, Int.tmod_lt_of_pos _ (by omega)⟩
theorem next_ok (d : Smk_Deck) (hd : d.wf) (n : Int) (h1 : 1 ≤ n) (h2 : n ≤ 1000000000) : ∃ x d', mk_Deck_Next d n = some (x, d') ∧ 0 ≤ x ∧ x < n ∧ d'.wf := by
  unfold mk_Deck_Next
  simp only [sel_or, Bool.or_eq_true, ilt_iff, ige_iff, llen_eq]
  by_cases hc : n < 1 ∨ (d.l.length : Int) ≤ d.atF
  · rw [if_pos hc]; exact ⟨0, d, rfl, by omega, by omega, hd⟩
  · rw [if_neg hc]
    obtain ⟨y, hy, _⟩ := lget_some (l := d.l) hd.lo (by omega)
    obtain ⟨z, hz, h3, h4⟩ := mk_Mod_eq y n h1 h2
    rw [hy]
    simp only [bind1_of, hz]
    have := hd.len
    have := hd.lo
    rw [iadd_in (by omega) (by omega)]
    exact ⟨z, _, rfl, h3, h4, ⟨hd.len, by show 0 ≤ d.atF + 1; omega, by show d.atF + 1 ≤ (d.l.length : Int); omega⟩⟩

theorem ref01_Nat_eq : ref01_Nat = some .nat := rfl
theorem ref01_List_eq : ref01_List = some .lst := rfl
theorem ref01_Unit_eq : ref01_Unit = some .unit := rfl
theorem ref01_Two_eq {a b : Ty} (ha : a.nodes ≤ 1000000000) (hb : b.nodes ≤ 1000000000) : ref01_Two a b = some (.pr a b) := by
  unfold ref01_Two; rw [ref01_Copy' ha, ref01_Copy' hb]; rfl
theorem ref01_Fun_eq {a b : Ty} (ha : a.nodes ≤ 1000000000) (hb : b.nodes ≤ 1000000000) : ref01_Fun a b = some (.fn a b) := by
  unfold ref01_Fun; rw [ref01_Copy' ha, ref01_Copy' hb]; rfl
theorem Ty.nat_ok : Ty.nat.ok = true := by unfold Ty.nat; rw [Ty.ok_mk]; rfl
theorem Ty.lst_ok : Ty.lst.ok = true := by unfold Ty.lst; rw [Ty.ok_mk]; rfl
theorem Ty.unit_ok : Ty.unit.ok = true := by unfold Ty.unit; rw [Ty.ok_mk]; rfl
theorem Ty.nat_nodes : Ty.nat.nodes = 1 := by unfold Ty.nat; rw [Ty.nodes_mk]; rfl
theorem Ty.lst_nodes : Ty.lst.nodes = 1 := by unfold Ty.lst; rw [Ty.nodes_mk]; rfl
theorem Ty.unit_nodes : Ty.unit.nodes = 1 := by unfold Ty.unit; rw [Ty.nodes_mk]; rfl
theorem Ty.fn_nodes (a b : Ty) : (Ty.fn a b).nodes = 1 + a.nodes + b.nodes := Ty.nodes_two _ _ _
theorem Ty.pr_nodes (a b : Ty) : (Ty.pr a b).nodes = 1 + a.nodes + b.nodes := Ty.nodes_two _ _ _

theorem pow_bd (k : Nat) (h : k ≤ 4) : 1 ≤ 2 ^ k ∧ 2 ^ k ≤ 16 := by
  have : k = 0 ∨ k = 1 ∨ k = 2 ∨ k = 3 ∨ k = 4 := by omega
  rcases this with rfl | rfl | rfl | rfl | rfl <;> decide
theorem mk_Type_ok : ∀ (n k : Nat) (d : Smk_Deck), k < n → k ≤ 4 → d.wf → ∃ t d', mk_Type n d (k : Int) = some (t, d') ∧ t.ok = true ∧ t.nodes + 1 ≤ 2 ^ (k + 1) ∧ d'.wf := by
  intro n
  induction n with
  | zero => intro k d h; omega
  | succ n ih =>
    intro k d hk hk4 hd
    obtain ⟨x, d1, h1, h2, h3, h4⟩ := next_ok d hd 7 (by omega) (by omega)
    have hp := pow_bd k hk4
    have e2 : (2 : Nat) ^ (k + 1) = 2 * 2 ^ k := by rw [Nat.pow_succ]; omega
    have leafN := fun d' (hd' : Smk_Deck.wf d') => (⟨Ty.nat, d', rfl, Ty.nat_ok, by rw [Ty.nat_nodes]; omega, hd'⟩ : ∃ t d'', some (Ty.nat, d') = some (t, d'') ∧ t.ok = true ∧ t.nodes + 1 ≤ 2 ^ (k + 1) ∧ d''.wf)
    rw [mk_Type]
    simp only [joinB_eq, h1, bind2_of, ref01_Nat_eq, ref01_List_eq, ref01_Unit_eq, bind1_of, sel_or, Bool.or_eq_true, ieq_iff, igt_iff]
    split
    · exact leafN d1 h4
    split
    · exact ⟨.lst, d1, rfl, Ty.lst_ok, by rw [Ty.lst_nodes]; omega, h4⟩
    split
    · exact ⟨.unit, d1, rfl, Ty.unit_ok, by rw [Ty.unit_nodes]; omega, h4⟩
    have two : 0 < (k : Int) → ∃ a b d2 d3, mk_Type n d1 (isub .i64 (k : Int) 1) = some (a, d2) ∧ mk_Type n d2 (isub .i64 (k : Int) 1) = some (b, d3) ∧ a.ok = true ∧ b.ok = true ∧ a.nodes + 1 ≤ 2 ^ k ∧ b.nodes + 1 ≤ 2 ^ k ∧ d3.wf := by
      intro hpos
      obtain ⟨m, rfl⟩ : ∃ m, k = m + 1 := ⟨k - 1, by omega⟩
      rw [isub_in (by omega) (by omega), show ((m + 1 : Nat) : Int) - 1 = (m : Int) by omega]
      obtain ⟨a, d2, a1, a2, a3, a4⟩ := ih m d1 (by omega) (by omega) h4
      obtain ⟨b, d3, b1, b2, b3, b4⟩ := ih m d2 (by omega) (by omega) a4
      exact ⟨a, b, d2, d3, a1, b1, a2, b2, a3, b3, b4⟩
    split
    · split
      · rename_i hpos
        obtain ⟨a, b, d2, d3, a1, b1, a2, b2, a3, b3, b4⟩ := two hpos
        rw [a1]; simp only [bind2_of]; rw [b1]; simp only [bind2_of]
        rw [ref01_Two_eq (by omega) (by omega)]
        exact ⟨_, _, rfl, Ty.ok_two (.inl rfl) a2 b2, by rw [Ty.pr_nodes]; omega, b4⟩
      · exact leafN d1 h4
    split
    · split
      · rename_i hpos
        obtain ⟨a, b, d2, d3, a1, b1, a2, b2, a3, b3, b4⟩ := two hpos
        rw [a1]; simp only [bind2_of]; rw [b1]; simp only [bind2_of]
        rw [ref01_Fun_eq (by omega) (by omega)]
        exact ⟨_, _, rfl, Ty.ok_two (.inr rfl) a2 b2, by rw [Ty.fn_nodes]; omega, b4⟩
      · exact leafN d1 h4
    · exact leafN d1 h4
/-- As the other functions call it. -/
theorem mk_Type' (d : Smk_Deck) (hd : d.wf) (k : Nat) (hk : k ≤ 4) : ∃ t d', mk_Type FU d (k : Int) = some (t, d') ∧ t.err = 0 ∧ t.nodes + 1 ≤ 2 ^ (k + 1) ∧ d'.wf := by
  obtain ⟨t, d', h1, h2, h3, h4⟩ := mk_Type_ok FU k d (by rw [FU_eq]; omega) hk hd
  have hp := pow_bd k hk
  have e2 : (2 : Nat) ^ (k + 1) = 2 * 2 ^ k := by rw [Nat.pow_succ]; omega
  exact ⟨t, d', h1, Ty.err_of h2 (by omega), h3, h4⟩

theorem Ty.nat_err : Ty.nat.err = 0 := Ty.err_of Ty.nat_ok (by rw [Ty.nat_nodes]; omega)
theorem Ty.lst_err : Ty.lst.err = 0 := Ty.err_of Ty.lst_ok (by rw [Ty.lst_nodes]; omega)
theorem Ty.unit_err : Ty.unit.err = 0 := Ty.err_of Ty.unit_ok (by rw [Ty.unit_nodes]; omega)
theorem Ty.fn_err {a b : Ty} (ha : a.err = 0) (hb : b.err = 0) (h : a.nodes + b.nodes ≤ 63) : (Ty.fn a b).err = 0 := Ty.err_of (Ty.ok_two (.inr rfl) (Ty.err_zero ha).1 (Ty.err_zero hb).1) (by rw [Ty.fn_nodes]; omega)
theorem Ty.pr_err {a b : Ty} (ha : a.err = 0) (hb : b.err = 0) (h : a.nodes + b.nodes ≤ 63) : (Ty.pr a b).err = 0 := Ty.err_of (Ty.ok_two (.inl rfl) (Ty.err_zero ha).1 (Ty.err_zero hb).1) (by rw [Ty.pr_nodes]; omega)

theorem nn_err : (Ty.fn .nat .nat).err = 0 := Ty.fn_err Ty.nat_err Ty.nat_err (by rw [Ty.nat_nodes]; omega)
theorem nnn_err : (Ty.fn .nat (Ty.fn .nat .nat)).err = 0 := Ty.fn_err Ty.nat_err nn_err (by rw [Ty.fn_nodes, Ty.nat_nodes]; omega)
end Go.Mdl
