/-
  Contexts, formulas and sequents that are made of a deck.
-/
import Derived.Test.YtdihelfnjememaaDoorPh
set_option linter.unusedSimpArgs false
set_option linter.unusedVariables false
namespace Go.Mdl
open Go

/-- A formula is typed in a context. -/
inductive FmTy : List Ty → Fm → Prop
  | eq {g a b} : HasTy g a .nat → HasTy g b .nat → FmTy g (.mk 1 .z [a, b] [])
  | two {g k a b} : k = 2 ∨ k = 3 → FmTy g a → FmTy g b → FmTy g (.mk k .z [] [a, b])
  | q {g k s a} : k = 4 ∨ k = 5 ∨ k = 6 ∨ k = 7 → s.err = 0 → FmTy (g ++ [s]) a → FmTy g (.mk k s [] [a])
theorem FmTy.ok {g : List Ty} {f : Fm} (h : FmTy g f) : f.ok = true := by
  induction h with
  | eq h1 h2 => simp [Fm.ok_mk, Fm.node, Ty.zeroB_z, h1.ok, h2.ok]
  | two hk _ _ ih1 ih2 =>
    rename_i k a b _ _
    have : ¬ k = 1 := by omega
    simp [Fm.ok_mk, Fm.node, Ty.zeroB_z, hk, this, ih1, ih2]
  | q hk hs _ ih =>
    rename_i k s a _
    have h1 : ¬ k = 1 := by omega
    have h2 : ¬ (k = 2 ∨ k = 3) := by omega
    have h3 : quantB k = true := by simp [quantB, hk]
    simp [Fm.ok_mk, Fm.node, h1, h2, h3, hs, ih]

theorem Eq_eq {a b : Tm} (ha : a.wt ≤ 1000000000) (hb : b.wt ≤ 1000000000) : ref07_Eq a b = some (.mk 1 .z [a, b] []) := by
  unfold ref07_Eq; rw [ref02_Copy' ha, ref02_Copy' hb]; rfl
theorem Two_eq {k : Int} {a b : Fm} (ha : a.wt ≤ 1000000000) (hb : b.wt ≤ 1000000000) : ref07_Two k a b = some (.mk k .z [] [a, b]) := by
  unfold ref07_Two; rw [ref07_Copy' ha, ref07_Copy' hb]; rfl
theorem Q_eq {k : Int} {s : Ty} {a : Fm} (hs : s.nodes ≤ 1000000000) (ha : a.wt ≤ 1000000000) : ref07_Q k s a = some (.mk k s [] [a]) := by
  unfold ref07_Q; rw [ref01_Copy' hs, ref07_Copy' ha]; rfl
theorem False_eq : ref07_False = some (.mk 1 .z [tmZero, tmSucc tmZero] []) := by
  unfold ref07_False
  rw [N_zero]
  simp only [bind1_of]
  rw [N_one (by decide)]
  simp only [bind1_of]
  rw [Eq_eq (by decide) (by decide)]
  rfl

def fb : Nat → Nat
  | 0 => 115
  | k + 1 => 1 + 2 * fb k
theorem fb_bd : ∀ k, k ≤ 5 → fb k ≤ 3711 := by
  intro k hk
  have : k = 0 ∨ k = 1 ∨ k = 2 ∨ k = 3 ∨ k = 4 ∨ k = 5 := by omega
  rcases this with rfl | rfl | rfl | rfl | rfl | rfl <;> decide
structure FmOk (g : List Ty) (f : Fm) (n : Nat) : Prop where
  ty : FmTy g f
  nodes : f.nodes ≤ n
theorem FmOk.wt {g : List Ty} {f : Fm} {n : Nat} (h : FmOk g f n) : f.wt ≤ 65 * n := by
  have := f.ok_wt h.ty.ok
  have := h.nodes
  omega
theorem FmOk.err {g : List Ty} {f : Fm} {n : Nat} (h : FmOk g f n) (hn : n ≤ 4096) : f.err = 0 := Fm.err_of h.ty.ok (by have := h.nodes; omega)
def FmGood (g : List Ty) (b : Nat) (o : Option (Fm × Smk_Deck)) : Prop := ∃ x d', o = some (x, d') ∧ d'.wf ∧ FmOk g x b
theorem FmGood.of {g : List Ty} {b : Nat} {x : Fm} {d : Smk_Deck} (hd : d.wf) (h : FmTy g x) (hn : x.nodes ≤ b) : FmGood g b (some (x, d)) := ⟨x, d, rfl, hd, h, hn⟩

theorem mk_Term' (N : Nat) (hN1 : 1 ≤ N) (hN : N ≤ 20) (dep : Nat) (hdep : dep ≤ 5) (g : List Ty) (t : Ty) (d : Smk_Deck) (hl : g.length ≤ 600) (hg : CtxOk N g) (ht : t.err = 0) (htN : t.nodes ≤ N) (hd : d.wf) :
    TmGood g t (tb N dep) (mk_Term FU d g t (dep : Int)) := by
  have h1 : dep * (N + 1) ≤ 5 * 21 := Nat.mul_le_mul hdep (by omega)
  have h2 : (3 + N) * dep ≤ 23 * 5 := Nat.mul_le_mul (by omega) hdep
  obtain ⟨x, d', a1, a2, a3⟩ := mk_Term_ok N hN1 hN FU (dep : Int) g t d (by rw [FU_eq]; simp; omega) (by omega) (by omega) (by simp; omega) hg ht htN hd
  refine ⟨x, d', a1, a2, a3.mono ?_⟩
  split
  · have : dep = 0 := by omega
    subst this
    simp only [tb]; omega
  · simp

theorem mk_Formula_ok : ∀ (n k : Nat) (g : List Ty) (d : Smk_Deck), k < n → k ≤ 5 → g.length + k ≤ 500 → CtxOk 3 g → d.wf → FmGood g (fb k) (mk_Formula n d g (k : Int)) := by
  intro n
  induction n with
  | zero => intro k g d h; omega
  | succ n ih =>
    intro k g d hk hk5 hlen hg hd
    rw [mk_Formula]
    refine good_join (G := FmGood g (fb k)) Smk_Deck.wf ?_ ?_
    · intro d1 hd1
      rw [ref01_Nat_eq]
      simp only [bind1_of]
      obtain ⟨a, d2, a1, a2, a3⟩ := mk_Term' 3 (by omega) (by omega) 1 (by omega) g .nat d1 (by omega) hg Ty.nat_err (by rw [Ty.nat_nodes]; omega) hd1
      rw [show ((1 : Nat) : Int) = 1 from rfl] at a1
      rw [a1]
      simp only [bind2_of]
      obtain ⟨b, d3, b1, b2, b3⟩ := mk_Term' 3 (by omega) (by omega) 1 (by omega) g .nat d2 (by omega) hg Ty.nat_err (by rw [Ty.nat_nodes]; omega) a2
      rw [show ((1 : Nat) : Int) = 1 from rfl] at b1
      rw [b1]
      simp only [bind2_of]
      have e : tb 3 1 = 57 := rfl
      rw [e] at a3 b3
      rw [Eq_eq (by have := a3.wt; omega) (by have := b3.wt; omega)]
      refine FmGood.of b2 (.eq a3.ty b3.ty) ?_
      have := a3.nodes; have := b3.nodes
      have h0 : 115 ≤ fb k := by
        clear hk hk5 hlen ih
        induction k with
        | zero => simp [fb]
        | succ k ih => simp only [fb]; omega
      rw [Fm.nodes_mk]; simp only [sumL]; omega
    · intro j hj
      simp only [igt_iff]
      split
      · rename_i hpos
        obtain ⟨m, rfl⟩ : ∃ m, k = m + 1 := ⟨k - 1, by omega⟩
        have e1 : isub .i64 ((m + 1 : Nat) : Int) 1 = (m : Int) := by rw [isub_in (by omega) (by omega)]; omega
        have hbd := fb_bd m (by omega)
        have deep : ∀ g' d', g'.length ≤ g.length + 1 → CtxOk 3 g' → d'.wf → FmGood g' (fb m) (mk_Formula n d' g' (isub .i64 ((m + 1 : Nat) : Int) 1)) := by
          intro g' d' h1 h2 h3
          rw [e1]
          exact ih m g' d' (by omega) (by omega) (by omega) h2 h3
        have ctx : ∀ s : Ty, s.err = 0 → s.nodes ≤ 3 → CtxOk 3 (g ++ [s]) := fun s h1 h2 => hg.app (by intro u hu; rw [List.mem_singleton] at hu; subst hu; exact ⟨h1, h2⟩)
        obtain ⟨x, d2, h1, h2, h3, h4⟩ := next_ok d hd 9 (by omega) (by omega)
        rw [h1]
        simp only [bind2_of, sel_or, Bool.or_eq_true, ieq_iff]
        have two : ∀ kk : Int, kk = 2 ∨ kk = 3 → FmGood g (fb (m + 1)) (bind2 (mk_Formula n d2 g (isub .i64 ((m + 1 : Nat) : Int) 1)) fun x316 d317 => bind2 (mk_Formula n d317 g (isub .i64 ((m + 1 : Nat) : Int) 1)) fun x320 d321 => bind1 (ref07_Two kk x316 x320) fun x324 => some (x324, d321)) := by
          intro kk hkk
          obtain ⟨a, d3, a1, a2, a3⟩ := deep g d2 (by omega) hg h4
          rw [a1]
          simp only [bind2_of]
          obtain ⟨b, d4, b1, b2, b3⟩ := deep g d3 (by omega) hg a2
          rw [b1]
          simp only [bind2_of]
          rw [Two_eq (by have := a3.wt; omega) (by have := b3.wt; omega)]
          refine FmGood.of b2 (.two hkk a3.ty b3.ty) ?_
          have := a3.nodes; have := b3.nodes
          rw [Fm.nodes_mk]; simp only [sumL, fb]; omega
        split
        · exact two 2 (.inl rfl)
        split
        · exact two 3 (.inr rfl)
        have one : ∀ kk : Int, kk = 4 ∨ kk = 5 → FmGood g (fb (m + 1)) (bind2 (mk_Type FU d2 1) fun x413 d414 => bind1 (mk_longer g [x413]) fun x429 => bind2 (mk_Formula n d414 x429 (isub .i64 ((m + 1 : Nat) : Int) 1)) fun x432 d433 => bind1 (ref07_Q kk x413 x432) fun x436 => some (x436, d433)) := by
          intro kk hkk
          obtain ⟨s, d3, s1, s2, s3, s4⟩ := mk_Type' d2 h4 1 (by omega)
          rw [show ((1 : Nat) : Int) = 1 from rfl] at s1
          rw [s1]
          simp only [bind2_of]
          rw [mk_longer_eq g [s] (by simp; omega)]
          simp only [bind1_of]
          obtain ⟨a, d4, a1, a2, a3⟩ := deep (g ++ [s]) d3 (by simp) (ctx s s2 (by omega)) s4
          rw [a1]
          simp only [bind2_of]
          rw [Q_eq (by omega) (by have := a3.wt; omega)]
          refine FmGood.of a2 (.q (by omega) s2 a3.ty) ?_
          have := a3.nodes
          rw [Fm.nodes_mk]; simp only [sumL, fb]; omega
        split
        · exact one 4 (.inl rfl)
        split
        · exact one 5 (.inr rfl)
        split
        · obtain ⟨s, d3, s1, s2, s3, s4⟩ := mk_Type' d2 h4 0 (by omega)
          rw [show ((0 : Nat) : Int) = 0 from rfl] at s1
          rw [s1]
          simp only [bind2_of]
          obtain ⟨y, d5, y1, y2, y3, y4⟩ := next_ok d3 s4 2 (by omega) (by omega)
          rw [y1]
          simp only [bind2_of]
          rw [mk_longer_eq g [s] (by simp; omega)]
          simp only [bind1_of]
          obtain ⟨a, d4, a1, a2, a3⟩ := deep (g ++ [s]) d5 (by simp) (ctx s s2 (by omega)) y4
          rw [a1]
          simp only [bind2_of]
          rw [iadd_in (by omega) (by omega), Q_eq (by omega) (by have := a3.wt; omega)]
          refine FmGood.of a2 (.q (by omega) s2 a3.ty) ?_
          have := a3.nodes
          rw [Fm.nodes_mk]; simp only [sumL, fb]; omega
        · exact hj d2 h4
      · exact hj d hd
theorem mk_Formula' (k : Nat) (hk : k ≤ 5) (g : List Ty) (d : Smk_Deck) (hl : g.length ≤ 400) (hg : CtxOk 3 g) (hd : d.wf) : FmGood g (fb k) (mk_Formula FU d g (k : Int)) :=
  mk_Formula_ok FU k g d (by rw [FU_eq]; omega) hk (by omega) hg hd

theorem mk_Context_ok (d : Smk_Deck) (hd : d.wf) : ∃ g d', mk_Context d = some (g, d') ∧ d'.wf ∧ g.length ≤ 3 ∧ CtxOk 3 g := by
  unfold mk_Context
  obtain ⟨x, d1, h1, h2, h3, h4⟩ := next_ok d hd 4 (by omega) (by omega)
  rw [h1]
  simp only [bind2_of, joinB_eq]
  obtain ⟨o, ho, hq⟩ := loopN_inv (ρ := List Ty × Smk_Deck) (F := un3 fun (v218 : List Ty) (v219 : Int) (v220 : Smk_Deck) =>
      if igt v219 0 = true then bind2 (mk_Type FU v220 1) fun x277 d278 => chk (okApp v218 [x277]) <| some (Ctl.next (lapp v218 [x277], isub .i64 v219 1, d278)) else some (Ctl.brk (v218, v219, v220)))
    (fun s => 0 ≤ s.2.1 ∧ (s.1.length : Int) + s.2.1 ≤ 3 ∧ CtxOk 3 s.1 ∧ s.2.2.wf) (fun s => s.2.1.toNat)
    (fun o => match o with | .inl s => s.1.length ≤ 3 ∧ CtxOk 3 s.1 ∧ s.2.2.wf | .inr _ => False)
    (by
      rintro ⟨l, i, e⟩ ⟨i1, i2, i3, i4⟩
      simp only at i1 i2 i3 i4
      by_cases hi : 0 < i
      · left
        obtain ⟨s, d3, s1, s2, s3, s4⟩ := mk_Type' e i4 1 (by omega)
        rw [show ((1 : Nat) : Int) = 1 from rfl] at s1
        refine ⟨(l ++ [s], i - 1, d3), ?_, ⟨?_, ?_, ?_, s4⟩, ?_⟩
        · simp only [un3_mk, igt_iff, hi, if_true, s1, bind2_of]
          rw [okApp_of (by simp; omega), chk_true, isub_in (by omega) (by omega)]
          rfl
        · show 0 ≤ i - 1; omega
        · simp; omega
        · exact i3.app (by intro u hu; rw [List.mem_singleton] at hu; subst hu; exact ⟨s2, by omega⟩)
        · show (i - 1).toNat < i.toNat; omega
      · right; left
        exact ⟨(l, i, e), by simp only [un3_mk, igt_iff, hi, if_false], by simp only; omega, i3, i4⟩)
    FU ([], x, d1) ⟨h2, by simp; omega, ⟨by simp⟩, h4⟩ (by rw [FU_eq]; show x.toNat < _; omega)
  rw [ho]
  cases o with
  | inr r => exact hq.elim
  | inl s =>
    obtain ⟨l, i, e⟩ := s
    exact ⟨l, e, rfl, hq.2.2, hq.1, hq.2.1⟩

theorem mk_Sequent_ok (d : Smk_Deck) (hd : d.wf) : ∃ q d', mk_Sequent d = some (q, d') ∧ d'.wf ∧ q.types.length ≤ 3 ∧ CtxOk 3 q.types ∧ q.hyps.length ≤ 2 ∧ ∀ f ∈ q.hyps, FmOk q.types f (fb 2) := by
  unfold mk_Sequent
  obtain ⟨g, d0, g1, g2, g3, g4⟩ := mk_Context_ok d hd
  rw [g1]
  simp only [bind2_of]
  obtain ⟨x, d1, h1, h2, h3, h4⟩ := next_ok d0 g2 3 (by omega) (by omega)
  rw [h1]
  simp only [bind2_of, joinB_eq]
  obtain ⟨o, ho, hq⟩ := loopN_inv (ρ := Sq × Smk_Deck) (F := un3 fun (v226 : Int) (v227 : List Fm) (v228 : Smk_Deck) =>
      if igt v226 0 = true then bind2 (mk_Formula FU v228 g 2) fun x285 d286 => chk (okApp v227 [x285]) <| some (Ctl.next (isub .i64 v226 1, lapp v227 [x285], d286)) else some (Ctl.brk (v226, v227, v228)))
    (fun s => 0 ≤ s.1 ∧ (s.2.1.length : Int) + s.1 ≤ 2 ∧ (∀ f ∈ s.2.1, FmOk g f (fb 2)) ∧ s.2.2.wf) (fun s => s.1.toNat)
    (fun o => match o with | .inl s => s.2.1.length ≤ 2 ∧ (∀ f ∈ s.2.1, FmOk g f (fb 2)) ∧ s.2.2.wf | .inr _ => False)
    (by
      rintro ⟨i, l, e⟩ ⟨i1, i2, i3, i4⟩
      simp only at i1 i2 i3 i4
      by_cases hi : 0 < i
      · left
        obtain ⟨s, d3, s1, s2, s3⟩ := mk_Formula' 2 (by omega) g e (by omega) g4 i4
        rw [show ((2 : Nat) : Int) = 2 from rfl] at s1
        refine ⟨(i - 1, l ++ [s], d3), ?_, ⟨?_, ?_, ?_, s2⟩, ?_⟩
        · simp only [un3_mk, igt_iff, hi, if_true, s1, bind2_of]
          rw [okApp_of (by simp; omega), chk_true, isub_in (by omega) (by omega)]
          rfl
        · show 0 ≤ i - 1; omega
        · simp; omega
        · intro f hf
          rcases List.mem_append.1 hf with h | h
          · exact i3 f h
          · rw [List.mem_singleton] at h; subst h; exact s3
        · show (i - 1).toNat < i.toNat; omega
      · right; left
        exact ⟨(i, l, e), by simp only [un3_mk, igt_iff, hi, if_false], by simp only; omega, i3, i4⟩)
    FU (x, [], d1) ⟨h2, by simp; omega, by simp, h4⟩ (by rw [FU_eq]; show x.toNat < _; omega)
  rw [ho]
  cases o with
  | inr r => exact hq.elim
  | inl s =>
    obtain ⟨i, l, e⟩ := s
    exact ⟨⟨g, l⟩, e, rfl, hq.2.2, g3, g4, hq.1, hq.2.1⟩
theorem new_wf (l : List Int) (h : l.length ≤ 1000) : (Smk_Deck.mk l 0).wf := ⟨h, by simp, by simp⟩
end Go.Mdl
