/- A part of the proof of ReduceTypes: contracts of functions of the program, and what they need. -/
import Derived.Test.YtnabbjnhemmkhaaDoorPh
/-
  Contexts, formulas and sequents that are made of a deck.
-/
set_option linter.unusedSimpArgs false
set_option linter.unusedVariables false
namespace Go.Mdl
open Go

def fb : Nat → Nat
  | 0 => 115
  | k + 1 => 1 + 2 * fb k
theorem fb_bd : ∀ k, k ≤ 5 → fb k ≤ 3711 := by
  intro k hk
  have : k = 0 ∨ k = 1 ∨ k = 2 ∨ k = 3 ∨ k = 4 ∨ k = 5 := by omega
  rcases this with rfl | rfl | rfl | rfl | rfl | rfl <;> decide
theorem mk_Term' (N : Nat) (hN1 : 1 ≤ N) (hN : N ≤ 20) (dep : Nat) (hdep : dep ≤ 5) (g : List Ty) (t : Ty) (d : Smk_Deck) (hl : g.length ≤ 600) (hg : CtxOk N g) (ht : t.err = 0) (htN : t.nodes ≤ N) (hd : d.wf) :
    TmGood g t (tb N dep) (mk_Term FU d g t (dep : Int)) := by
  have h1 : dep * (N + 1) ≤ 5 * 21 := Nat.mul_le_mul hdep (by omega)
  have h2 : (3 + N) * dep ≤ 23 * 5 := Nat.mul_le_mul (by omega) hdep
  obtain ⟨x, d', a1, a2, a3⟩ := mk_Term_ok N hN1 hN FU (dep : Int) g t d (by rw [FU_eq]; simp; omega) (by omega) (by omega) (by simp; omega) hg ht htN hd
  refine ⟨x, d', a1, a2, a3.mono ?_⟩
  split
  · have : dep = 0 := by omega
    subst this
    simp only [tb]; omega
  · simp

theorem mk_Context_ok (d : Smk_Deck) (hd : d.wf) : ∃ g d', mk_Context d = some (g, d') ∧ d'.wf ∧ g.length ≤ 3 ∧ CtxOk 3 g := by
  unfold mk_Context
  obtain ⟨x, d1, h1, h2, h3, h4⟩ := next_ok d hd 4 (by omega) (by omega)
  rw [h1]
  simp only [bind2_of, joinB_eq]
  obtain ⟨o, ho, hq⟩ := loopN_inv (ρ := List Ty × Smk_Deck) (F := un3 fun (v218 : List Ty) (v219 : Int) (v220 : Smk_Deck) =>
      if igt v219 0 = true then bind2 (mk_Type FU v220 1) fun x277 d278 => chk (okApp v218 [x277]) <| some (Ctl.next (lapp v218 [x277], isub .i64 v219 1, d278)) else some (Ctl.brk (v218, v219, v220)))
    (fun s => 0 ≤ s.2.1 ∧ (s.1.length : Int) + s.2.1 ≤ 3 ∧ CtxOk 3 s.1 ∧ s.2.2.wf) (fun s => s.2.1.toNat)
    (fun o => match o with | .inl s => s.1.length ≤ 3 ∧ CtxOk 3 s.1 ∧ s.2.2.wf | .inr _ => False)
    (by
      rintro ⟨l, i, e⟩ ⟨i1, i2, i3, i4⟩
      simp only at i1 i2 i3 i4
      by_cases hi : 0 < i
      · left
        obtain ⟨s, d3, s1, s2, s3, s4⟩ := mk_Type' e i4 1 (by omega)
        rw [show ((1 : Nat) : Int) = 1 from rfl] at s1
        refine ⟨(l ++ [s], i - 1, d3), ?_, ⟨?_, ?_, ?_, s4⟩, ?_⟩
        · simp only [un3_mk, igt_iff, hi, if_true, s1, bind2_of]
          rw [okApp_of (by simp; omega), chk_true, isub_in (by omega) (by omega)]
          rfl
        · show 0 ≤ i - 1; omega
        · simp; omega
        · exact i3.app (by intro u hu; rw [List.mem_singleton] at hu; subst hu; exact ⟨s2, by omega⟩)
        · show (i - 1).toNat < i.toNat; omega
      · right; left
        exact ⟨(l, i, e), by simp only [un3_mk, igt_iff, hi, if_false], by simp only; omega, i3, i4⟩)
    FU ([], x, d1) ⟨h2, by simp; omega, ⟨by simp⟩, h4⟩ (by rw [FU_eq]; show x.toNat < _; omega)
  rw [ho]
  cases o with
  | inr r => exact hq.elim
  | inl s =>
    obtain ⟨l, i, e⟩ := s
    exact ⟨l, e, rfl, hq.2.2, hq.1, hq.2.1⟩

theorem new_wf (l : List Int) (h : l.length ≤ 1000) : (Smk_Deck.mk l 0).wf := ⟨h, by simp, by simp⟩
end Go.Mdl

/-
  Contexts of sequents: the program's and the reference's agree.
-/
namespace Go.Mdl
open Go

def ctxE (l : List Ty) : Int := if 16 < l.length then 3 else firstE (l.map Ty.err)
theorem ref01_Context_eq (l : List Ty) (hl : l.length ≤ 1000000) (h : ∀ t ∈ l, t.nodes ≤ 1000000000) : ref01_Context l = some (ctxE l) := by
  unfold ref01_Context ctxE
  simp only [igt_iff, llen_eq, okLen_of (l := l) (by omega), chk_true, joinB_eq]
  by_cases h1 : 16 < l.length
  · rw [if_pos (by omega), if_pos h1]
  · rw [if_neg (by omega), if_neg h1]
    have key := forR_first (F := fun (j : Int) (x : Ty) (_ : Unit) => bind1 (ref01_Check x) fun x248 => if ine x248 0 = true then some (Ctl.ret x248) else some (Ctl.next ())) Ty.err l 0 (by
      intro j x hx
      rw [ref01_Check_eq (h x hx)]
      simp only [bind1_of, ine_iff])
    simp only [ine_iff] at key ⊢
    rw [key]
    by_cases h2 : firstE (l.map Ty.err) = 0
    · simp [h2]
    · simp [h2]

def lookC (o : (List Ty × List Int) ⊕ Int) : (List Ty × List Int) ⊕ (List Ty × List Int × Int) := match o with | .inl s => .inl s | .inr e => .inr ([], [], e)
theorem drop_split {α : Type} {l : List α} {i : Nat} {x : α} {m : List α} (h : l.drop i = x :: m) : i < l.length ∧ l[i]? = some x ∧ l.drop (i + 1) = m := by
  have hlt : i < l.length := by
    rcases Nat.lt_or_ge i l.length with h' | h'
    · exact h'
    · rw [List.drop_eq_nil_of_le h'] at h; cases h
  rw [List.drop_eq_getElem_cons hlt] at h
  injection h with h1 h2
  exact ⟨hlt, by rw [List.getElem?_eq_getElem hlt, h1], h2⟩
end Go.Mdl

/-
  The laws of chapter 23 about formulas that are made: with and without content, uniform quantifiers.
-/
namespace Go.Mdl
open Go

theorem ctxOne {t : Ty} (h : t.err = 0) (h2 : t.nodes ≤ 3) : CtxOk 3 [t] := ⟨fun s hs => by rw [List.mem_singleton] at hs; subst hs; exact ⟨h, h2⟩⟩
theorem ctxNil : CtxOk 3 [] := ⟨fun s hs => by cases hs⟩
theorem same_self (t : Ty) (h : t.nodes ≤ 1000000000) : ref01_Same FU t t = some true := by rw [ref01_Same' h, (Ty.sameB_iff _ _).2 rfl]

end Go.Mdl
