/-
  Plain law of ReportTexts: drawn values, their texts, and that these tell them apart.
-/
import Derived.Test.YtgcimcppginchaaGreatDoorRM
import Derived.Test.YtgcimcppginchaaGreatDoorPa
set_option maxRecDepth 20000
set_option linter.unusedSimpArgs false
set_option linter.unusedVariables false
namespace Go.Mdl
open Go

/-! ### the deck -/
structure Smk_Deck.wf (d : Smk_Deck) : Prop where
  len : d.l.length ≤ 1000
  lo : 0 ≤ d.atF
  hi : d.atF ≤ d.l.length

theorem mk_Mod_eq (x n : Int) (h1 : 1 ≤ n) (h2 : n ≤ 1000000000) : ∃ y, mk_Mod x n = some y ∧ 0 ≤ y ∧ y < n := by
  unfold mk_Mod
  simp only [okDiv_of (b := n) (by omega), chk_true]
  refine ⟨_, rfl, ?_⟩
  unfold irem
  have e : (x.tmod n).natAbs < n.natAbs := by
    rw [Int.natAbs_tmod]
    exact Nat.mod_lt _ (by omega)
  rw [iadd_in (by omega) (by omega)]
  have h0 : 0 ≤ x.tmod n + n := by omega
  exact ⟨Int.tmod_nonneg _ h0, Int.tmod_lt_of_pos _ (by omega)⟩
theorem next_ok (d : Smk_Deck) (hd : d.wf) (n : Int) (h1 : 1 ≤ n) (h2 : n ≤ 1000000000) : ∃ x d', mk_Deck_Next d n = some (x, d') ∧ 0 ≤ x ∧ x < n ∧ d'.wf := by
  unfold mk_Deck_Next
  simp only [sel_or, Bool.or_eq_true, ilt_iff, ige_iff, llen_eq]
  by_cases hc : n < 1 ∨ (d.l.length : Int) ≤ d.atF
  · rw [if_pos hc]; exact ⟨0, d, rfl, by omega, by omega, hd⟩
  · rw [if_neg hc]
    obtain ⟨y, hy, _⟩ := lget_some (l := d.l) hd.lo (by omega)
    obtain ⟨z, hz, h3, h4⟩ := mk_Mod_eq y n h1 h2
    rw [hy]
    simp only [bind1_of, hz]
    have := hd.len
    have := hd.lo
    rw [iadd_in (by omega) (by omega)]
    exact ⟨z, _, rfl, h3, h4, ⟨hd.len, by show 0 ≤ d.atF + 1; omega, by show d.atF + 1 ≤ (d.l.length : Int); omega⟩⟩

/-! ### drawn values -/
/-- A digit. -/
def Dg (x : Int) : Prop := 0 ≤ x ∧ x < 5
def nmV (x : Int) : Vl := Vl.mk 1 x [] []
def lsV (l : List Int) : Vl := Vl.mk 2 0 l []
def prV (a b : Vl) : Vl := Vl.mk 3 0 [] [a, b]
def unV : Vl := Vl.mk 4 0 [] []
/-- What mk.Value draws of a plain type. -/
inductive Dr : Vl → Prop
  | nm {x : Int} (h : Dg x) : Dr (nmV x)
  | ls {l : List Int} (h : ∀ x ∈ l, Dg x) (hl : l.length < 4) : Dr (lsV l)
  | un : Dr unV
  | pn {x y : Int} (h : Dg x) (h2 : Dg y) : Dr (prV (nmV x) (nmV y))
  | pl {x : Int} {l : List Int} (h : Dg x) (h2 : ∀ x ∈ l, Dg x) (hl : l.length < 4) : Dr (prV (nmV x) (lsV l))

theorem fu5 : ∃ n, FU = n + 10 := ⟨999999990, by rw [FU_eq]⟩

theorem loop_bind {σ ρ τ : Type} {F : σ → Option (Ctl σ ρ)} {K : σ ⊕ ρ → Option τ} {P : Option τ → Prop} (I : σ → Prop) (μ : σ → Nat) (Q : σ ⊕ ρ → Prop)
    (h : ∀ s, I s → (∃ s', F s = some (.next s') ∧ I s' ∧ μ s' < μ s) ∨ (∃ s', F s = some (.brk s') ∧ Q (.inl s')) ∨ (∃ r, F s = some (.ret r) ∧ Q (.inr r)))
    (n : Nat) (s : σ) (h1 : I s) (h2 : μ s < n) (hK : ∀ o, Q o → P (K o)) : P (bind1 (loopN F n s) K) := by
  obtain ⟨o, h3, h4⟩ := loopN_inv I μ Q h n s h1 h2
  rw [h3]
  exact hK o h4

theorem mk_Value_nm {n : Nat} {d : Smk_Deck} (hd : d.wf) {l : List Ty} : ∃ x d', mk_Value (n + 1) d (Ty.mk 1 l) = some (nmV x, d') ∧ Dg x ∧ d'.wf := by
  obtain ⟨x, d', h1, h2, h3, h4⟩ := next_ok d hd 5 (by omega) (by omega)
  refine ⟨x, d', ?_, ⟨h2, h3⟩, h4⟩
  unfold mk_Value
  simp [h1, nmV]
theorem mk_Value_ls {n : Nat} {d : Smk_Deck} (hd : d.wf) {l : List Ty} : ∃ x d', mk_Value (n + 1) d (Ty.mk 2 l) = some (lsV x, d') ∧ (∀ y ∈ x, Dg y) ∧ x.length < 4 ∧ d'.wf := by
  obtain ⟨x, d', h1, h2, h3, h4⟩ := next_ok d hd 4 (by omega) (by omega)
  unfold mk_Value
  simp only [Ty.kind_mk, ieq_iff, Int.reduceEq, if_false, if_true, h1, bind2_of, joinB_eq]
  refine loop_bind (P := fun o => ∃ (x : List Int) (d' : Smk_Deck), o = some (lsV x, d') ∧ (∀ y ∈ x, Dg y) ∧ x.length < 4 ∧ d'.wf)
    (fun (s : Int × List Int × Smk_Deck) => 0 ≤ s.1 ∧ s.1 ≤ 3 ∧ (s.2.1.length : Int) + s.1 ≤ 3 ∧ (∀ y ∈ s.2.1, Dg y) ∧ s.2.2.wf) (fun (s : Int × List Int × Smk_Deck) => s.1.toNat)
    (fun (r : (Int × List Int × Smk_Deck) ⊕ (Vl × Smk_Deck)) => ∃ (a : Int) (b : List Int) (c : Smk_Deck), r = .inl (a, b, c) ∧ (∀ y ∈ b, Dg y) ∧ b.length < 4 ∧ c.wf) ?_ _ _ ⟨h2, by omega, by simp; omega, by simp, h4⟩ (by rw [FU_eq]; simp; omega) ?_
  · rintro ⟨a, b, c⟩ ⟨i1, i2, i3, i4, i5⟩
    simp only [un3] at *
    by_cases ha : 0 < a
    · left
      obtain ⟨y, c', e1, e2, e3, e4⟩ := next_ok c i5 4 (by omega) (by omega)
      rw [if_pos (by simpa using ha), e1]
      simp only [bind2_of, lapp_eq]
      rw [okApp_of (by simp; omega), chk_true, isub_in (by omega) (by omega)]
      refine ⟨_, rfl, ⟨by simp; omega, by simp; omega, by simp; omega, ?_, e4⟩, by simp; omega⟩
      intro z hz
      simp only [List.mem_append, List.mem_singleton] at hz
      rcases hz with hz | rfl
      · exact i4 z hz
      · exact ⟨e2, by omega⟩
    · right; left
      rw [if_neg (by simpa using ha)]
      exact ⟨_, rfl, a, b, c, rfl, i4, by omega, i5⟩
  · rintro o ⟨a, b, c, rfl, h5, h6, h7⟩
    exact ⟨b, c, rfl, h5, h6, h7⟩

def tyN : Ty := Ty.mk 1 []
def tyL : Ty := Ty.mk 2 []
def tyU : Ty := Ty.mk 5 []
def ty2 (a b : Ty) : Ty := Ty.mk 3 [a, b]
inductive PlT : Ty → Prop
  | n : PlT tyN
  | l : PlT tyL
  | u : PlT tyU
  | nl : PlT (ty2 tyN tyL)
  | nn : PlT (ty2 tyN tyN)

theorem copy_flat (k : Int) : ref01_Copy FU (Ty.mk k []) = some (Ty.mk k []) := by
  obtain ⟨n, hn⟩ := fu5
  rw [hn, ref01_Copy]
  simp [okLen_of]
theorem mk_Plain_ok {d : Smk_Deck} (hd : d.wf) : ∃ t d', mk_Plain d = some (t, d') ∧ PlT t ∧ d'.wf := by
  obtain ⟨x, d', h1, h2, h3, h4⟩ := next_ok d hd 6 (by omega) (by omega)
  unfold mk_Plain
  rw [h1]
  simp only [bind2_of, ref01_Nat, ref01_List, ref01_Unit, ref01_Two, bind1_of, copy_flat]
  split
  · exact ⟨_, _, rfl, .n, h4⟩
  split
  · exact ⟨_, _, rfl, .l, h4⟩
  split
  · exact ⟨_, _, rfl, .u, h4⟩
  split
  · exact ⟨_, _, rfl, .nl, h4⟩
  · exact ⟨_, _, rfl, .nn, h4⟩

theorem mk_Value_dr {t : Ty} (ht : PlT t) {d : Smk_Deck} (hd : d.wf) : ∃ v d', mk_Value FU d t = some (v, d') ∧ Dr v ∧ d'.wf := by
  obtain ⟨n, hn⟩ := fu5
  rw [hn]
  cases ht with
  | n =>
    obtain ⟨x, d', h1, h2, h3⟩ := mk_Value_nm (n := n + 9) hd (l := [])
    exact ⟨_, _, h1, .nm h2, h3⟩
  | l =>
    obtain ⟨x, d', h1, h2, h3, h4⟩ := mk_Value_ls (n := n + 9) hd (l := [])
    exact ⟨_, _, h1, .ls h2 h3, h4⟩
  | u =>
    refine ⟨unV, d, ?_, .un, hd⟩
    rw [mk_Value]; simp [tyU, unV]
  | nl =>
    obtain ⟨x, d1, h1, h2, h3⟩ := mk_Value_nm (n := n + 8) hd (l := [])
    obtain ⟨l, d2, h4, h5, h6, h7⟩ := mk_Value_ls (n := n + 8) h3 (l := [])
    refine ⟨prV (nmV x) (lsV l), d2, ?_, .pl h2 h5 h6, h7⟩
    rw [mk_Value]; simp [ty2, tyN, tyL, h1, h4, prV]
  | nn =>
    obtain ⟨x, d1, h1, h2, h3⟩ := mk_Value_nm (n := n + 8) hd (l := [])
    obtain ⟨y, d2, h4, h5, h6⟩ := mk_Value_nm (n := n + 8) h3 (l := [])
    refine ⟨prV (nmV x) (nmV y), d2, ?_, .pn h2 h5, h6⟩
    rw [mk_Value]; simp [ty2, tyN, h1, h4, prV]
end Go.Mdl
