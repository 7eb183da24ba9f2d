/- A part of the proof of TranslatePuts: contracts of functions of the program, and what they need. -/
import Derived.Test.YtanjokijgbgcpaaGreatDoorPh
/-
  Contexts, formulas and sequents that are made of a deck.
-/
set_option linter.unusedSimpArgs false
set_option linter.unusedVariables false
namespace Go.Mdl
open Go

/-- A formula is typed in a context. -/
inductive FmTy : List Ty → Fm → Prop
  | eq {g a b} : HasTy g a .nat → HasTy g b .nat → FmTy g (.mk 1 .z [a, b] [])
  | two {g k a b} : k = 2 ∨ k = 3 → FmTy g a → FmTy g b → FmTy g (.mk k .z [] [a, b])
  | q {g k s a} : k = 4 ∨ k = 5 ∨ k = 6 ∨ k = 7 → s.err = 0 → FmTy (g ++ [s]) a → FmTy g (.mk k s [] [a])
theorem FmTy.ok {g : List Ty} {f : Fm} (h : FmTy g f) : f.ok = true := by
  induction h with
  | eq h1 h2 => simp [Fm.ok_mk, Fm.node, Ty.zeroB_z, h1.ok, h2.ok]
  | two hk _ _ ih1 ih2 =>
    rename_i k a b _ _
    have : ¬ k = 1 := by omega
    simp [Fm.ok_mk, Fm.node, Ty.zeroB_z, hk, this, ih1, ih2]
  | q hk hs _ ih =>
    rename_i k s a _
    have h1 : ¬ k = 1 := by omega
    have h2 : ¬ (k = 2 ∨ k = 3) := by omega
    have h3 : quantB k = true := by simp [quantB, hk]
    simp [Fm.ok_mk, Fm.node, h1, h2, h3, hs, ih]

theorem Eq_eq {a b : Tm} (ha : a.wt ≤ 1000000000) (hb : b.wt ≤ 1000000000) : ref07_Eq a b = some (.mk 1 .z [a, b] []) := by
  unfold ref07_Eq; rw [ref02_Copy' ha, ref02_Copy' hb]; rfl
theorem Two_eq {k : Int} {a b : Fm} (ha : a.wt ≤ 1000000000) (hb : b.wt ≤ 1000000000) : ref07_Two k a b = some (.mk k .z [] [a, b]) := by
  unfold ref07_Two; rw [ref07_Copy' ha, ref07_Copy' hb]; rfl
theorem Q_eq {k : Int} {s : Ty} {a : Fm} (hs : s.nodes ≤ 1000000000) (ha : a.wt ≤ 1000000000) : ref07_Q k s a = some (.mk k s [] [a]) := by
  unfold ref07_Q; rw [ref01_Copy' hs, ref07_Copy' ha]; rfl
def fb : Nat → Nat
  | 0 => 115
  | k + 1 => 1 + 2 * fb k
theorem fb_bd : ∀ k, k ≤ 5 → fb k ≤ 3711 := by
  intro k hk
  have : k = 0 ∨ k = 1 ∨ k = 2 ∨ k = 3 ∨ k = 4 ∨ k = 5 := by omega
  rcases this with rfl | rfl | rfl | rfl | rfl | rfl <;> decide
structure FmOk (g : List Ty) (f : Fm) (n : Nat) : Prop where
  ty : FmTy g f
  nodes : f.nodes ≤ n
theorem FmOk.wt {g : List Ty} {f : Fm} {n : Nat} (h : FmOk g f n) : f.wt ≤ 65 * n := by
  have := f.ok_wt h.ty.ok
  have := h.nodes
  omega
theorem FmOk.err {g : List Ty} {f : Fm} {n : Nat} (h : FmOk g f n) (hn : n ≤ 4096) : f.err = 0 := Fm.err_of h.ty.ok (by have := h.nodes; omega)
def FmGood (g : List Ty) (b : Nat) (o : Option (Fm × Smk_Deck)) : Prop := ∃ x d', o = some (x, d') ∧ d'.wf ∧ FmOk g x b
theorem FmGood.of {g : List Ty} {b : Nat} {x : Fm} {d : Smk_Deck} (hd : d.wf) (h : FmTy g x) (hn : x.nodes ≤ b) : FmGood g b (some (x, d)) := ⟨x, d, rfl, hd, h, hn⟩

theorem mk_Term' (N : Nat) (hN1 : 1 ≤ N) (hN : N ≤ 20) (dep : Nat) (hdep : dep ≤ 5) (g : List Ty) (t : Ty) (d : Smk_Deck) (hl : g.length ≤ 600) (hg : CtxOk N g) (ht : t.err = 0) (htN : t.nodes ≤ N) (hd : d.wf) :
    TmGood g t (tb N dep) (mk_Term FU d g t (dep : Int)) := by
  have h1 : dep * (N + 1) ≤ 5 * 21 := Nat.mul_le_mul hdep (by omega)
  have h2 : (3 + N) * dep ≤ 23 * 5 := Nat.mul_le_mul (by omega) hdep
  obtain ⟨x, d', a1, a2, a3⟩ := mk_Term_ok N hN1 hN FU (dep : Int) g t d (by rw [FU_eq]; simp; omega) (by omega) (by omega) (by simp; omega) hg ht htN hd
  refine ⟨x, d', a1, a2, a3.mono ?_⟩
  split
  · have : dep = 0 := by omega
    subst this
    simp only [tb]; omega
  · simp

theorem mk_Formula_ok : ∀ (n k : Nat) (g : List Ty) (d : Smk_Deck), k < n → k ≤ 5 → g.length + k ≤ 500 → CtxOk 3 g → d.wf → FmGood g (fb k) (mk_Formula n d g (k : Int)) := by
  intro n
  induction n with
  | zero => intro k g d h; omega
  | succ n ih =>
    intro k g d hk hk5 hlen hg hd
    rw [mk_Formula]
    refine good_join (G := FmGood g (fb k)) Smk_Deck.wf ?_ ?_
    · intro d1 hd1
      rw [ref01_Nat_eq]
      simp only [bind1_of]
      obtain ⟨a, d2, a1, a2, a3⟩ := mk_Term' 3 (by omega) (by omega) 1 (by omega) g .nat d1 (by omega) hg Ty.nat_err (by rw [Ty.nat_nodes]; omega) hd1
      rw [show ((1 : Nat) : Int) = 1 from rfl] at a1
      rw [a1]
      simp only [bind2_of]
      obtain ⟨b, d3, b1, b2, b3⟩ := mk_Term' 3 (by omega) (by omega) 1 (by omega) g .nat d2 (by omega) hg Ty.nat_err (by rw [Ty.nat_nodes]; omega) a2
      rw [show ((1 : Nat) : Int) = 1 from rfl] at b1
      rw [b1]
      simp only [bind2_of]
      have e : tb 3 1 = 57 := rfl
      rw [e] at a3 b3
      rw [Eq_eq (by have := a3.wt; omega) (by have := b3.wt; omega)]
      refine FmGood.of b2 (.eq a3.ty b3.ty) ?_
      have := a3.nodes; have := b3.nodes
      have h0 : 115 ≤ fb k := by
        clear hk hk5 hlen ih
        induction k with
        | zero => simp [fb]
        | succ k ih => simp only [fb]; omega
      rw [Fm.nodes_mk]; simp only [sumL]; omega
    · intro j hj
      simp only [igt_iff]
      split
      · rename_i hpos
        obtain ⟨m, rfl⟩ : ∃ m, k = m + 1 := ⟨k - 1, by omega⟩
        have e1 : isub .i64 ((m + 1 : Nat) : Int) 1 = (m : Int) := by rw [isub_in (by omega) (by omega)]; omega
        have hbd := fb_bd m (by omega)
        have deep : ∀ g' d', g'.length ≤ g.length + 1 → CtxOk 3 g' → d'.wf → FmGood g' (fb m) (mk_Formula n d' g' (isub .i64 ((m + 1 : Nat) : Int) 1)) := by
          intro g' d' h1 h2 h3
          rw [e1]
          exact ih m g' d' (by omega) (by omega) (by omega) h2 h3
        have ctx : ∀ s : Ty, s.err = 0 → s.nodes ≤ 3 → CtxOk 3 (g ++ [s]) := fun s h1 h2 => hg.app (by intro u hu; rw [List.mem_singleton] at hu; subst hu; exact ⟨h1, h2⟩)
        obtain ⟨x, d2, h1, h2, h3, h4⟩ := next_ok d hd 9 (by omega) (by omega)
        rw [h1]
        simp only [bind2_of, sel_or, Bool.or_eq_true, ieq_iff]
        have two : ∀ kk : Int, kk = 2 ∨ kk = 3 → FmGood g (fb (m + 1)) (bind2 (mk_Formula n d2 g (isub .i64 ((m + 1 : Nat) : Int) 1)) fun x316 d317 => bind2 (mk_Formula n d317 g (isub .i64 ((m + 1 : Nat) : Int) 1)) fun x320 d321 => bind1 (ref07_Two kk x316 x320) fun x324 => some (x324, d321)) := by
          intro kk hkk
          obtain ⟨a, d3, a1, a2, a3⟩ := deep g d2 (by omega) hg h4
          rw [a1]
          simp only [bind2_of]
          obtain ⟨b, d4, b1, b2, b3⟩ := deep g d3 (by omega) hg a2
          rw [b1]
          simp only [bind2_of]
          rw [Two_eq (by have := a3.wt; omega) (by have := b3.wt; omega)]
          refine FmGood.of b2 (.two hkk a3.ty b3.ty) ?_
          have := a3.nodes; have := b3.nodes
          rw [Fm.nodes_mk]; simp only [sumL, fb]; omega
        split
        · exact two 2 (.inl rfl)
        split
        · exact two 3 (.inr rfl)
        have one : ∀ kk : Int, kk = 4 ∨ kk = 5 → FmGood g (fb (m + 1)) (bind2 (mk_Type FU d2 1) fun x413 d414 => bind1 (mk_longer g [x413]) fun x429 => bind2 (mk_Formula n d414 x429 (isub .i64 ((m + 1 : Nat) : Int) 1)) fun x432 d433 => bind1 (ref07_Q kk x413 x432) fun x436 => some (x436, d433)) := by
          intro kk hkk
          obtain ⟨s, d3, s1, s2, s3, s4⟩ := mk_Type' d2 h4 1 (by omega)
          rw [show ((1 : Nat) : Int) = 1 from rfl] at s1
          rw [s1]
          simp only [bind2_of]
          rw [mk_longer_eq g [s] (by simp; omega)]
          simp only [bind1_of]
          obtain ⟨a, d4, a1, a2, a3⟩ := deep (g ++ [s]) d3 (by simp) (ctx s s2 (by omega)) s4
          rw [a1]
          simp only [bind2_of]
          rw [Q_eq (by omega) (by have := a3.wt; omega)]
          refine FmGood.of a2 (.q (by omega) s2 a3.ty) ?_
          have := a3.nodes
          rw [Fm.nodes_mk]; simp only [sumL, fb]; omega
        split
        · exact one 4 (.inl rfl)
        split
        · exact one 5 (.inr rfl)
        split
        · obtain ⟨s, d3, s1, s2, s3, s4⟩ := mk_Type' d2 h4 0 (by omega)
          rw [show ((0 : Nat) : Int) = 0 from rfl] at s1
          rw [s1]
          simp only [bind2_of]
          obtain ⟨y, d5, y1, y2, y3, y4⟩ := next_ok d3 s4 2 (by omega) (by omega)
          rw [y1]
          simp only [bind2_of]
          rw [mk_longer_eq g [s] (by simp; omega)]
          simp only [bind1_of]
          obtain ⟨a, d4, a1, a2, a3⟩ := deep (g ++ [s]) d5 (by simp) (ctx s s2 (by omega)) y4
          rw [a1]
          simp only [bind2_of]
          rw [iadd_in (by omega) (by omega), Q_eq (by omega) (by have := a3.wt; omega)]
          refine FmGood.of a2 (.q (by omega) s2 a3.ty) ?_
          have := a3.nodes
          rw [Fm.nodes_mk]; simp only [sumL, fb]; omega
        · exact hj d2 h4
      · exact hj d hd
theorem mk_Formula' (k : Nat) (hk : k ≤ 5) (g : List Ty) (d : Smk_Deck) (hl : g.length ≤ 400) (hg : CtxOk 3 g) (hd : d.wf) : FmGood g (fb k) (mk_Formula FU d g (k : Int)) :=
  mk_Formula_ok FU k g d (by rw [FU_eq]; omega) hk (by omega) hg hd

theorem mk_Context_ok (d : Smk_Deck) (hd : d.wf) : ∃ g d', mk_Context d = some (g, d') ∧ d'.wf ∧ g.length ≤ 3 ∧ CtxOk 3 g := by
  unfold mk_Context
  obtain ⟨x, d1, h1, h2, h3, h4⟩ := next_ok d hd 4 (by omega) (by omega)
  rw [h1]
  simp only [bind2_of, joinB_eq]
  obtain ⟨o, ho, hq⟩ := loopN_inv (ρ := List Ty × Smk_Deck) (F := un3 fun (v218 : List Ty) (v219 : Int) (v220 : Smk_Deck) =>
      if igt v219 0 = true then bind2 (mk_Type FU v220 1) fun x277 d278 => chk (okApp v218 [x277]) <| some (Ctl.next (lapp v218 [x277], isub .i64 v219 1, d278)) else some (Ctl.brk (v218, v219, v220)))
    (fun s => 0 ≤ s.2.1 ∧ (s.1.length : Int) + s.2.1 ≤ 3 ∧ CtxOk 3 s.1 ∧ s.2.2.wf) (fun s => s.2.1.toNat)
    (fun o => match o with | .inl s => s.1.length ≤ 3 ∧ CtxOk 3 s.1 ∧ s.2.2.wf | .inr _ => False)
    (by
      rintro ⟨l, i, e⟩ ⟨i1, i2, i3, i4⟩
      simp only at i1 i2 i3 i4
      by_cases hi : 0 < i
      · left
        obtain ⟨s, d3, s1, s2, s3, s4⟩ := mk_Type' e i4 1 (by omega)
        rw [show ((1 : Nat) : Int) = 1 from rfl] at s1
        refine ⟨(l ++ [s], i - 1, d3), ?_, ⟨?_, ?_, ?_, s4⟩, ?_⟩
        · simp only [un3_mk, igt_iff, hi, if_true, s1, bind2_of]
          rw [okApp_of (by simp; omega), chk_true, isub_in (by omega) (by omega)]
          rfl
        · show 0 ≤ i - 1; omega
        · simp; omega
        · exact i3.app (by intro u hu; rw [List.mem_singleton] at hu; subst hu; exact ⟨s2, by omega⟩)
        · show (i - 1).toNat < i.toNat; omega
      · right; left
        exact ⟨(l, i, e), by simp only [un3_mk, igt_iff, hi, if_false], by simp only; omega, i3, i4⟩)
    FU ([], x, d1) ⟨h2, by simp; omega, ⟨by simp⟩, h4⟩ (by rw [FU_eq]; show x.toNat < _; omega)
  rw [ho]
  cases o with
  | inr r => exact hq.elim
  | inl s =>
    obtain ⟨l, i, e⟩ := s
    exact ⟨l, e, rfl, hq.2.2, hq.1, hq.2.1⟩

theorem new_wf (l : List Int) (h : l.length ≤ 1000) : (Smk_Deck.mk l 0).wf := ⟨h, by simp, by simp⟩
end Go.Mdl

/-
  Contexts of sequents: the program's and the reference's agree.
-/
namespace Go.Mdl
open Go

def ctxE (l : List Ty) : Int := if 16 < l.length then 3 else firstE (l.map Ty.err)
theorem ref01_Context_eq (l : List Ty) (hl : l.length ≤ 1000000) (h : ∀ t ∈ l, t.nodes ≤ 1000000000) : ref01_Context l = some (ctxE l) := by
  unfold ref01_Context ctxE
  simp only [igt_iff, llen_eq, okLen_of (l := l) (by omega), chk_true, joinB_eq]
  by_cases h1 : 16 < l.length
  · rw [if_pos (by omega), if_pos h1]
  · rw [if_neg (by omega), if_neg h1]
    have key := forR_first (F := fun (j : Int) (x : Ty) (_ : Unit) => bind1 (ref01_Check x) fun x248 => if ine x248 0 = true then some (Ctl.ret x248) else some (Ctl.next ())) Ty.err l 0 (by
      intro j x hx
      rw [ref01_Check_eq (h x hx)]
      simp only [bind1_of, ine_iff])
    simp only [ine_iff] at key ⊢
    rw [key]
    by_cases h2 : firstE (l.map Ty.err) = 0
    · simp [h2]
    · simp [h2]

/-- What becomes of the hypotheses: the types and places, or an error. -/
def lookO : List Fm → List Ty → List Int → (List Ty × List Int) ⊕ Int
  | [], a, p => .inl (a, p)
  | h :: l, a, p => if h.err ≠ 0 then .inr h.err else if h.ct.2.2 ≠ 0 then .inr h.ct.2.2 else if h.has = true then lookO l (a ++ [h.ct.1]) (p ++ [(a.length : Int)]) else lookO l a (p ++ [-1])

def lookC (o : (List Ty × List Int) ⊕ Int) : (List Ty × List Int) ⊕ (List Ty × List Int × Int) := match o with | .inl s => .inl s | .inr e => .inr ([], [], e)
theorem look_loop (F : Int → Fm → List Ty × List Int → Option (Ctl (List Ty × List Int) (List Ty × List Int × Int)))
    (hF : ∀ j f a p, f.wt ≤ 1000000000 → a.length ≤ 2000000 → p.length ≤ 2000000 → F j f (a, p) = if f.err ≠ 0 then some (.ret ([], [], f.err)) else if f.ct.2.2 ≠ 0 then some (.ret ([], [], f.ct.2.2)) else
      if f.has = true then some (.next (a ++ [f.ct.1], p ++ [(a.length : Int)])) else some (.next (a, p ++ [-1]))) :
    ∀ (l : List Fm) (i : Nat) (a : List Ty) (p : List Int), (∀ f ∈ l, f.wt ≤ 1000000000) → a.length + l.length ≤ 2000000 → p.length + l.length ≤ 2000000 → forR F l i (a, p) = some (lookC (lookO l a p)) := by
  intro l
  induction l with
  | nil => intro i a p _ _ _; rfl
  | cons f l ih =>
    intro i a p hf ha hp
    simp only [List.length_cons] at ha hp
    rw [forR_cons, hF _ f a p (hf f (by simp)) (by omega) (by omega), lookO]
    by_cases h1 : f.err = 0
    · by_cases h2 : f.ct.2.2 = 0
      · simp only [h1, h2, ne_eq, not_true_eq_false, if_false]
        cases hh : f.has with
        | true =>
          simp only [if_true, bind1_of, ctlK_next]
          exact ih (i + 1) _ _ (fun g hg => hf g (by simp [hg])) (by simp; omega) (by simp; omega)
        | false =>
          simp only [Bool.false_eq_true, if_false, bind1_of, ctlK_next]
          exact ih (i + 1) _ _ (fun g hg => hf g (by simp [hg])) (by omega) (by simp; omega)
      · simp [h1, h2, lookC]
    · simp [h1, lookC]
theorem cty_split (f : Fm) : f.cty.2 = (if f.err ≠ 0 then f.err else f.ct.2.2) ∧ (f.err = 0 → f.ct.2.2 = 0 → f.has = true → f.cty.1 = f.ct.1) := by
  unfold Fm.cty
  by_cases h : f.err = 0
  · by_cases h2 : f.ct.2.2 = 0
    · simp only [h, h2, ne_eq, not_true_eq_false, if_false]
      exact ⟨trivial, fun _ _ h3 => by rw [if_pos h3]⟩
    · simp [h, h2]
  · simp [h]
theorem drop_split {α : Type} {l : List α} {i : Nat} {x : α} {m : List α} (h : l.drop i = x :: m) : i < l.length ∧ l[i]? = some x ∧ l.drop (i + 1) = m := by
  have hlt : i < l.length := by
    rcases Nat.lt_or_ge i l.length with h' | h'
    · exact h'
    · rw [List.drop_eq_nil_of_le h'] at h; cases h
  rw [List.drop_eq_getElem_cons hlt] at h
  injection h with h1 h2
  exact ⟨hlt, by rw [List.getElem?_eq_getElem hlt, h1], h2⟩
theorem ctx_loop (H : List Fm) (hH : H.length ≤ 1000000) (F : List Ty × Int → Option (Ctl (List Ty × Int) (List Ty × Int))) (hend : ∀ a (i : Int), (H.length : Int) ≤ i → F (a, i) = some (.brk (a, i)))
    (hF : ∀ a (i : Nat) f, H[i]? = some f → a.length ≤ 2000000 → F (a, (i : Int)) = if f.err ≠ 0 then some (.ret ([], f.err)) else if f.ct.2.2 ≠ 0 then some (.ret ([], f.ct.2.2)) else
      if f.has = true then some (.next (a ++ [f.ct.1], ((i + 1 : Nat) : Int))) else some (.next (a, ((i + 1 : Nat) : Int)))) :
    ∀ (l : List Fm) (i n : Nat) (a : List Ty) (p : List Int), l = H.drop i → l.length < n → a.length + l.length ≤ 2000000 →
      ∃ i', loopN F n (a, (i : Int)) = some (match lookO l a p with | .inl s => .inl (s.1, i') | .inr e => .inr ([], e)) := by
  intro l
  induction l with
  | nil =>
    intro i n a p hd hn ha
    obtain ⟨n, rfl⟩ : ∃ m, n = m + 1 := ⟨n - 1, by omega⟩
    have : H.length ≤ i := by
      have := congrArg List.length hd
      simp only [List.length_nil, List.length_drop] at this
      omega
    exact ⟨(i : Int), by rw [loopN_succ, hend a i (by omega)]; rfl⟩
  | cons f l ih =>
    intro i n a p hd hn ha
    obtain ⟨n, rfl⟩ : ∃ m, n = m + 1 := ⟨n - 1, by omega⟩
    obtain ⟨hlt, hget, hdrop⟩ := drop_split hd.symm
    simp only [List.length_cons] at hn ha
    rw [loopN_succ, hF a i f hget (by omega), lookO]
    by_cases h1 : f.err = 0
    · by_cases h5 : f.ct.2.2 = 0
      · simp only [h1, h5, ne_eq, not_true_eq_false, if_false]
        cases hh : f.has with
        | true =>
          simp only [if_true, bind1_of, ctlK_next]
          exact ih (i + 1) n _ _ hdrop.symm (by omega) (by simp; omega)
        | false =>
          simp only [Bool.false_eq_true, if_false, bind1_of, ctlK_next]
          exact ih (i + 1) n _ _ hdrop.symm (by omega) (by omega)
      · exact ⟨0, by simp [h1, h5]⟩
    · exact ⟨0, by simp [h1]⟩
theorem ctx_use (H : List Fm) (hH : H.length ≤ 1000000) (a : List Ty) (ha : a.length ≤ 1000000) {F : List Ty × Int → Option (Ctl (List Ty × Int) (List Ty × Int))} (hend : ∀ a (i : Int), (H.length : Int) ≤ i → F (a, i) = some (.brk (a, i)))
    (hF : ∀ a (i : Nat) f, H[i]? = some f → a.length ≤ 2000000 → F (a, (i : Int)) = if f.err ≠ 0 then some (.ret ([], f.err)) else if f.ct.2.2 ≠ 0 then some (.ret ([], f.ct.2.2)) else
      if f.has = true then some (.next (a ++ [f.ct.1], ((i + 1 : Nat) : Int))) else some (.next (a, ((i + 1 : Nat) : Int)))) :
    bind1 (loopN F FU (a, 0)) (sumK (un2 fun (v : List Ty) (_ : Int) => some (v, 0)) fun r => some r) = some (match lookO H a [] with | .inl s => (s.1, (0 : Int)) | .inr e => ([], e)) := by
  obtain ⟨i', hi'⟩ := ctx_loop H hH F hend hF H 0 FU a [] rfl (by rw [FU_eq]; omega) (by omega)
  rw [Int.natCast_zero] at hi'
  rw [hi']
  cases hlk : lookO H a [] with
  | inl s => obtain ⟨a, b⟩ := s; rfl
  | inr e => rfl
theorem places_loop (H : List Fm) (hH : H.length ≤ 1000000) (F : List Int × Int × Int → Option (Ctl (List Int × Int × Int) (List Int × Int))) (hend : ∀ p (k i : Int), (H.length : Int) ≤ i → F (p, k, i) = some (.brk (p, k, i)))
    (hF : ∀ p (k : Int) (i : Nat) f, H[i]? = some f → f.err = 0 → p.length ≤ 2000000 → 0 ≤ k → k ≤ 2000000 → F (p, k, (i : Int)) =
      if f.has = true then some (.next (p ++ [k], k + 1, ((i + 1 : Nat) : Int))) else some (.next (p ++ [-1], k, ((i + 1 : Nat) : Int)))) :
    ∀ (l : List Fm) (i n : Nat) (a : List Ty) (p : List Int) (s : List Ty × List Int), l = H.drop i → l.length < n → a.length + l.length ≤ 2000000 → p.length + l.length ≤ 2000000 → lookO l a p = .inl s →
      ∃ k' i', loopN F n (p, (a.length : Int), (i : Int)) = some (.inl (s.2, k', i')) := by
  intro l
  induction l with
  | nil =>
    intro i n a p s hd hn ha hp hs
    obtain ⟨n, rfl⟩ : ∃ m, n = m + 1 := ⟨n - 1, by omega⟩
    have : H.length ≤ i := by
      have := congrArg List.length hd
      simp only [List.length_nil, List.length_drop] at this
      omega
    rw [lookO] at hs
    injection hs with hs
    subst hs
    exact ⟨_, _, by rw [loopN_succ, hend p _ i (by omega)]; rfl⟩
  | cons f l ih =>
    intro i n a p s hd hn ha hp hs
    obtain ⟨n, rfl⟩ : ∃ m, n = m + 1 := ⟨n - 1, by omega⟩
    obtain ⟨hlt, hget, hdrop⟩ := drop_split hd.symm
    simp only [List.length_cons] at hn ha hp
    rw [lookO] at hs
    by_cases h1 : f.err = 0
    · by_cases h5 : f.ct.2.2 = 0
      · simp only [h1, h5, ne_eq, not_true_eq_false, if_false] at hs
        rw [loopN_succ, hF p _ i f hget h1 (by omega) (by omega) (by omega)]
        cases hh : f.has with
        | true =>
          rw [hh] at hs
          simp only [if_true] at hs
          simp only [if_true, bind1_of, ctlK_next]
          have := ih (i + 1) n (a ++ [f.ct.1]) (p ++ [(a.length : Int)]) s hdrop.symm (by omega) (by simp; omega) (by simp; omega) hs
          rw [show ((a ++ [f.ct.1]).length : Int) = (a.length : Int) + 1 by simp] at this
          exact this
        | false =>
          rw [hh] at hs
          simp only [Bool.false_eq_true, if_false] at hs
          simp only [Bool.false_eq_true, if_false, bind1_of, ctlK_next]
          exact ih (i + 1) n a (p ++ [-1]) s hdrop.symm (by omega) (by omega) (by simp; omega) hs
      · simp [h1, h5] at hs
    · simp [h1] at hs
theorem places_use (H : List Fm) (hH : H.length ≤ 1000000) (a : List Ty) (ha : a.length ≤ 1000000) {s : List Ty × List Int} (hs : lookO H a [] = .inl s) {F : List Int × Int × Int → Option (Ctl (List Int × Int × Int) (List Int × Int))}
    (hend : ∀ p (k i : Int), (H.length : Int) ≤ i → F (p, k, i) = some (.brk (p, k, i)))
    (hF : ∀ p (k : Int) (i : Nat) f, H[i]? = some f → f.err = 0 → p.length ≤ 2000000 → 0 ≤ k → k ≤ 2000000 → F (p, k, (i : Int)) =
      if f.has = true then some (.next (p ++ [k], k + 1, ((i + 1 : Nat) : Int))) else some (.next (p ++ [-1], k, ((i + 1 : Nat) : Int)))) :
    bind1 (loopN F FU ([], (a.length : Int), 0)) (sumK (un3 fun (v : List Int) (_ : Int) (_ : Int) => some (v, 0)) fun r => some r) = some (s.2, (0 : Int)) := by
  obtain ⟨k', i', hk⟩ := places_loop H hH F hend hF H 0 FU a [] s rfl (by rw [FU_eq]; omega) (by omega) (by simp; omega) hs
  rw [Int.natCast_zero] at hk
  rw [hk]
  rfl
theorem lookO_err : ∀ (l : List Fm) (a : List Ty) (p : List Int) {e : Int}, lookO l a p = .inr e → e ≠ 0 := by
  intro l
  induction l with
  | nil => intro a p e h; rw [lookO] at h; cases h
  | cons f l ih =>
    intro a p e h
    rw [lookO] at h
    split at h
    · injection h with h; subst h; assumption
    · split at h
      · injection h with h; subst h; assumption
      · split at h
        · exact ih _ _ h
        · exact ih _ _ h
end Go.Mdl

/-
  The laws of chapter 23 about formulas that are made: with and without content, uniform quantifiers.
-/
namespace Go.Mdl
open Go

theorem cty_rf {f : Fm} (h : f.err = 0) : f.cty = f.rf := by unfold Fm.cty Fm.rf; rw [if_neg (by simp [h])]
theorem FmOk.sizes {g : List Ty} {f : Fm} {n : Nat} (h : FmOk g f n) (hn : n ≤ 4000) : f.wt ≤ 1000000000 ∧ f.err = 0 := ⟨by have := h.wt; omega, h.err (by omega)⟩
theorem q_ok {k : Int} {s : Ty} {f : Fm} (hk : k = 4 ∨ k = 5 ∨ k = 6 ∨ k = 7) (hs : s.err = 0) (hf : f.ok = true) (hn : f.nodes ≤ 4000) : (Fm.mk k s [] [f]).err = 0 ∧ (Fm.mk k s [] [f]).wt ≤ 1000000000 := by
  have h1 : ¬ k = 1 := by omega
  have h2 : ¬ (k = 2 ∨ k = 3) := by omega
  have h3 : quantB k = true := by simp [quantB, hk]
  have hok : (Fm.mk k s [] [f]).ok = true := by simp [Fm.ok_mk, Fm.node, h1, h2, h3, hs, hf]
  have hnd : (Fm.mk k s [] [f]).nodes ≤ 4001 := by rw [Fm.nodes_mk]; simp only [sumL]; omega
  exact ⟨Fm.err_of hok (by omega), by have := Fm.ok_wt _ hok; omega⟩
theorem two_ok {k : Int} {a b : Fm} (hk : k = 2 ∨ k = 3) (ha : a.ok = true) (hb : b.ok = true) (hn : a.nodes + b.nodes ≤ 4000) : (Fm.mk k .z [] [a, b]).err = 0 ∧ (Fm.mk k .z [] [a, b]).wt ≤ 1000000000 := by
  have h1 : ¬ k = 1 := by omega
  have hok : (Fm.mk k .z [] [a, b]).ok = true := by simp [Fm.ok_mk, Fm.node, h1, hk, Ty.zeroB_z, ha, hb]
  have hnd : (Fm.mk k .z [] [a, b]).nodes ≤ 4001 := by rw [Fm.nodes_mk]; simp only [sumL]; omega
  exact ⟨Fm.err_of hok (by omega), by have := Fm.ok_wt _ hok; omega⟩

theorem ctxOne {t : Ty} (h : t.err = 0) (h2 : t.nodes ≤ 3) : CtxOk 3 [t] := ⟨fun s hs => by rw [List.mem_singleton] at hs; subst hs; exact ⟨h, h2⟩⟩
theorem ctxNil : CtxOk 3 [] := ⟨fun s hs => by cases hs⟩
theorem same_self (t : Ty) (h : t.nodes ≤ 1000000000) : ref01_Same FU t t = some true := by rw [ref01_Same' h, (Ty.sameB_iff _ _).2 rfl]

theorem rf_nodes {f : Fm} (hf : f.ok = true) : f.rf.1.nodes ≤ 64 := by
  unfold Fm.rf
  split
  · rw [Ty.nodes_mk]; simp [sumL]
  · rename_i h
    simp only [ne_eq, Classical.not_not] at h
    split
    · rename_i hh
      exact ct_nodes f hf h (by rw [(ct_ok f hf).h h]; exact hh)
    · rw [Ty.nodes_mk]; simp [sumL]

theorem rf_q {k : Int} {s : Ty} {a : Fm} (hk : k ≠ 1) (hk2 : k ≠ 2) : (Fm.mk k s [] [a]).rf =
    if (ctNode k s a.ct a.ct).2.2 ≠ 0 then (.mk 0 [], (ctNode k s a.ct a.ct).2.2) else (if (k = 5 ∨ a.has = true) then (ctNode k s a.ct a.ct).1 else .mk 5 [], 0) := by
  have h1 := Fm.ct_one k s [] a
  rw [if_neg hk] at h1
  have h2 := Fm.has_one k s [] a
  rw [if_neg hk] at h2
  unfold Fm.rf
  rw [h1, h2]
  by_cases h5 : k = 5 <;> simp [h5]

end Go.Mdl
