/-
  Content types: what the program's package content and the reference of chapter 23 compute, and that they agree.
-/
import Derived.Test.YtdihelfnjememaaDoorPe
set_option linter.unusedSimpArgs false
set_option linter.unusedVariables false
namespace Go.Mdl
open Go

mutual
/-- Whether a formula has content. -/
def Fm.has : Fm → Bool
  | .mk k _ _ l => if k = 1 then false else if k = 2 then Fm.hasAny l else if k = 5 then true else Fm.hasLast l
def Fm.hasAny : List Fm → Bool
  | [] => false
  | f :: l => f.has || Fm.hasAny l
def Fm.hasLast : List Fm → Bool
  | [] => false
  | [f] => f.has
  | _ :: f :: l => Fm.hasLast (f :: l)
end
def joinT (k : Int) (a b : Ty) : Ty × Bool × Int := if (Ty.mk k [a, b]).err ≠ 0 then (.mk 0 [], false, (Ty.mk k [a, b]).err) else (.mk k [a, b], true, 0)
def ctAnd (first last : Ty × Bool × Int) : Ty × Bool × Int :=
  if first.2.2 ≠ 0 ∨ first.2.1 = false then (last.1, last.2.1, first.2.2) else if last.2.1 = true then joinT 3 first.1 last.1 else (first.1, true, 0)
def ctImp (first last : Ty × Bool × Int) : Ty × Bool × Int :=
  if first.2.2 ≠ 0 ∨ first.2.1 = false then (last.1, true, first.2.2) else joinT 4 first.1 last.1
def ctNode (k : Int) (s : Ty) (first last : Ty × Bool × Int) : Ty × Bool × Int :=
  if last.2.2 ≠ 0 then (.mk 0 [], false, last.2.2)
  else if k = 2 then ctAnd first last
  else if k = 5 then (if last.2.1 = true then joinT 3 s last.1 else (s, true, 0))
  else if last.2.1 = true then (if k = 3 then ctImp first last else if k = 4 then joinT 4 s last.1 else (last.1, true, 0))
  else (.mk 0 [], false, 0)
def tup0 : Ty × Bool × Int := (.mk 0 [], false, 0)
mutual
/-- The content type, whether there is one, the error. -/
def Fm.ct : Fm → Ty × Bool × Int
  | .mk k s _ l => if k = 1 then tup0 else ctNode k s (Fm.ctFst l) (Fm.ctLst l)
def Fm.ctFst : List Fm → Ty × Bool × Int
  | [] => tup0
  | f :: _ => f.ct
def Fm.ctLst : List Fm → Ty × Bool × Int
  | [] => tup0
  | [f] => f.ct
  | _ :: f :: l => Fm.ctLst (f :: l)
end
theorem Fm.has_two (k : Int) (s : Ty) (ts : List Tm) (a b : Fm) : (Fm.mk k s ts [a, b]).has = if k = 1 then false else if k = 2 then a.has || b.has else if k = 5 then true else b.has := by
  rw [Fm.has]; simp [Fm.hasAny, Fm.hasLast]
theorem Fm.has_one (k : Int) (s : Ty) (ts : List Tm) (a : Fm) : (Fm.mk k s ts [a]).has = if k = 1 then false else if k = 5 then true else a.has := by
  rw [Fm.has]
  simp only [Fm.hasAny, Fm.hasLast, Bool.or_false]
  by_cases h2 : k = 2
  · subst h2; simp
  · simp [h2]
theorem Fm.has_eq (s : Ty) (ts : List Tm) (l : List Fm) : (Fm.mk 1 s ts l).has = false := by rw [Fm.has]; simp
theorem Fm.ct_two (k : Int) (s : Ty) (ts : List Tm) (a b : Fm) : (Fm.mk k s ts [a, b]).ct = if k = 1 then tup0 else ctNode k s a.ct b.ct := by
  rw [Fm.ct]; simp [Fm.ctFst, Fm.ctLst]
theorem Fm.ct_one (k : Int) (s : Ty) (ts : List Tm) (a : Fm) : (Fm.mk k s ts [a]).ct = if k = 1 then tup0 else ctNode k s a.ct a.ct := by
  rw [Fm.ct]; simp [Fm.ctFst, Fm.ctLst]
theorem Fm.ct_eq (s : Ty) (ts : List Tm) (l : List Fm) : (Fm.mk 1 s ts l).ct = tup0 := by rw [Fm.ct]; simp

/-- The forms that a right formula has. -/
theorem Fm.ok_cases {p : Fm → Prop} (h1 : ∀ a b : Tm, a.ok = true → b.ok = true → p (.mk 1 (.mk 0 []) [a, b] []))
    (h2 : ∀ (k : Int) (a b : Fm), k = 2 ∨ k = 3 → a.ok = true → b.ok = true → p a → p b → p (.mk k (.mk 0 []) [] [a, b]))
    (h3 : ∀ (k : Int) (s : Ty) (a : Fm), k = 4 ∨ k = 5 ∨ k = 6 ∨ k = 7 → s.err = 0 → a.ok = true → p a → p (.mk k s [] [a])) (f : Fm) (hf : f.ok = true) : p f := by
  induction f using Fm.ind with
  | h k s ts l ih =>
    rw [Fm.ok_mk] at hf
    simp only [Bool.and_eq_true, List.all_eq_true] at hf
    obtain ⟨⟨hn, hts⟩, hl⟩ := hf
    unfold Fm.node at hn
    split at hn
    · rename_i hk
      subst hk
      simp only [Bool.and_eq_true, decide_eq_true_eq, Ty.zeroB_iff] at hn
      obtain ⟨⟨rfl, h4⟩, h5⟩ := hn
      obtain ⟨a, b, rfl⟩ := len_two (l := ts) (by omega)
      have := List.length_eq_zero_iff.1 h5
      subst this
      exact h1 a b (hts a (by simp)) (hts b (by simp))
    · split at hn
      · rename_i hk
        simp only [Bool.and_eq_true, decide_eq_true_eq, Ty.zeroB_iff] at hn
        obtain ⟨⟨rfl, h4⟩, h5⟩ := hn
        obtain ⟨a, b, rfl⟩ := len_two (l := l) (by omega)
        have := List.length_eq_zero_iff.1 h4
        subst this
        exact h2 k a b hk (hl a (by simp)) (hl b (by simp)) (ih a (by simp) (hl a (by simp))) (ih b (by simp) (hl b (by simp)))
      · simp only [Bool.and_eq_true, decide_eq_true_eq] at hn
        obtain ⟨⟨⟨hq, hs⟩, h4⟩, h5⟩ := hn
        obtain ⟨a, rfl⟩ := len_one (l := l) (by omega)
        have := List.length_eq_zero_iff.1 h4
        subst this
        refine h3 k s a ?_ hs (hl a (by simp)) (ih a (by simp) (hl a (by simp)))
        simpa [quantB] using hq

theorem Ty.err_zero {t : Ty} (h : t.err = 0) : t.ok = true ∧ t.nodes ≤ 64 := by
  unfold Ty.err at h
  split at h
  · split at h
    · omega
    · exact ⟨‹_›, by omega⟩
  · omega
theorem Ty.err_of {t : Ty} (h : t.ok = true) (h2 : t.nodes ≤ 64) : t.err = 0 := by unfold Ty.err; rw [if_pos h, if_neg (by omega)]
theorem Ty.err_or {t : Ty} (h : t.ok = true) : t.err = 0 ∨ t.err = 4 := by unfold Ty.err; rw [if_pos h]; split <;> simp
theorem Ty.ok_two {k : Int} (hk : k = 3 ∨ k = 4) {a b : Ty} (ha : a.ok = true) (hb : b.ok = true) : (Ty.mk k [a, b]).ok = true := by
  rw [Ty.ok_mk]
  have : ¬ (k = 1 ∨ k = 2 ∨ k = 5) := by omega
  simp [Ty.want, hk, this, ha, hb]
theorem joinT_good {k : Int} (hk : k = 3 ∨ k = 4) {a b : Ty} (ha : a.ok = true) (hb : b.ok = true) :
    ((joinT k a b).2.2 = 0 ∨ (joinT k a b).2.2 = 4) ∧ ((joinT k a b).2.2 = 0 → (joinT k a b).2.1 = true ∧ (joinT k a b).1.err = 0) := by
  unfold joinT
  rcases Ty.err_or (Ty.ok_two hk ha hb) with h | h
  · rw [if_neg (by simp [h])]; exact ⟨.inl rfl, fun _ => ⟨rfl, h⟩⟩
  · rw [if_pos (by omega)]; exact ⟨.inr h, fun h' => absurd (h.symm.trans h') (by decide)⟩

/-- What a content type is like. -/
structure CtOk (f : Fm) : Prop where
  e : f.ct.2.2 = 0 ∨ f.ct.2.2 = 4
  h : f.ct.2.2 = 0 → f.ct.2.1 = f.has
  n : f.has = false → f.ct.2.2 = 0
  t : f.ct.2.2 = 0 → f.has = true → f.ct.1.err = 0
theorem ct_ok (f : Fm) (hf : f.ok = true) : CtOk f := by
  refine Fm.ok_cases (p := CtOk) ?_ ?_ ?_ f hf
  · intro a b _ _
    refine ⟨?_, ?_, ?_, ?_⟩ <;> rw [Fm.ct_eq] <;> simp [tup0, Fm.has_eq]
  · intro k a b hk ha hb iha ihb
    have hk1 : k ≠ 1 := by omega
    have hk5 : k ≠ 5 := by omega
    refine ⟨?_, ?_, ?_, ?_⟩ <;> rw [Fm.ct_two, if_neg hk1] <;> (try rw [Fm.has_two, if_neg hk1]) <;> (try simp only [hk5, if_false]) <;> unfold ctNode
    all_goals
      rcases ihb.e with eb | eb
      · have hb1 := ihb.h eb
        have hbt := ihb.t eb
        rcases hk with rfl | rfl
        · -- and
          simp only [eb, ne_eq, not_true_eq_false, if_false, if_true]
          unfold ctAnd
          rcases iha.e with ea | ea
          · have ha1 := iha.h ea
            have hat := iha.t ea
            cases hha : a.has
            · simp_all
            · cases hhb : b.has
              · simp_all
              · have := joinT_good (k := 3) (.inl rfl) (Ty.err_zero (hat hha)).1 (Ty.err_zero (hbt hhb)).1
                simp_all
          · have : a.has = true := by
              cases h : a.has with
              | true => rfl
              | false => have := iha.n h; omega
            simp_all
        · simp only [eb, ne_eq, not_true_eq_false, if_false, show ¬ (3 : Int) = 2 by omega, show ¬ (3 : Int) = 5 by omega, if_true]
          unfold ctImp
          cases hhb : b.has
          · simp_all
          · rcases iha.e with ea | ea
            · have ha1 := iha.h ea
              have hat := iha.t ea
              cases hha : a.has
              · simp_all
              · have := joinT_good (k := 4) (.inr rfl) (Ty.err_zero (hat hha)).1 (Ty.err_zero (hbt hhb)).1
                simp_all
            · simp_all
      · have : b.has = true := by
          cases h : b.has with
          | true => rfl
          | false => have := ihb.n h; omega
        simp [eb, this]
  · intro k s a hk hs ha iha
    have hk1 : k ≠ 1 := by omega
    have hk2 : k ≠ 2 := by omega
    have hk3 : k ≠ 3 := by omega
    refine ⟨?_, ?_, ?_, ?_⟩ <;> rw [Fm.ct_one, if_neg hk1] <;> (try rw [Fm.has_one, if_neg hk1]) <;> unfold ctNode <;> (try simp only [hk2, hk3, if_false])
    all_goals
      rcases iha.e with ea | ea
      · have ha1 := iha.h ea
        have hat := iha.t ea
        cases hha : a.has
        · by_cases h5 : k = 5 <;> simp_all
        · have j3 := joinT_good (k := 3) (.inl rfl) (Ty.err_zero hs).1 (Ty.err_zero (hat hha)).1
          have j4 := joinT_good (k := 4) (.inr rfl) (Ty.err_zero hs).1 (Ty.err_zero (hat hha)).1
          by_cases h5 : k = 5
          · simp_all
          · by_cases h4 : k = 4 <;> simp_all
      · have : a.has = true := by
          cases h : a.has with
          | true => rfl
          | false => have := iha.n h; omega
        by_cases h5 : k = 5 <;> simp_all

theorem Ty.nodes_two (k : Int) (a b : Ty) : (Ty.mk k [a, b]).nodes = 1 + a.nodes + b.nodes := by rw [Ty.nodes_mk]; simp [sumL]; omega
theorem content_join_eq (k : Int) (a b : Ty) (h : a.nodes + b.nodes ≤ 100000000) : content_join k a b = some (joinT k a b) := by
  unfold content_join joinT
  rw [types_Check_eq (by rw [Ty.nodes_two]; omega)]
  simp only [bind1_of, ine_iff]
  split <;> rfl
theorem ct_nodes (f : Fm) (hf : f.ok = true) (h : f.ct.2.2 = 0) (hh : f.ct.2.1 = true) : f.ct.1.nodes ≤ 64 :=
  (Ty.err_zero ((ct_ok f hf).t h (by rw [← (ct_ok f hf).h h]; exact hh))).2

theorem content_of_eq : ∀ (n : Nat) (f : Fm), f.nodes ≤ n → f.ok = true → content_of n f = some f.ct := by
  intro n
  induction n with
  | zero => intro f h; have := f.nodes_pos; omega
  | succ n ih =>
    intro f h hf
    have hw := hf
    refine Fm.ok_cases (p := fun f => f.nodes ≤ n + 1 → content_of (n + 1) f = some f.ct) ?_ ?_ ?_ f hf h
    · intro a b _ _ _
      rw [content_of, Fm.ct_eq]
      rfl
    · intro k a b hk ha hb _ _ hn
      rw [Fm.nodes_mk] at hn
      simp only [sumL] at hn
      have iha := ih a (by omega) ha
      have ihb := ih b (by omega) hb
      have hk1 : k ≠ 1 := by omega
      have hk5 : k ≠ 5 := by omega
      have hk4 : k ≠ 4 := by omega
      have e1 : lget [a, b] (isub .i64 (llen [a, b]) 1) = some b := by
        rw [isub_in (by simp) (by simp)]; rfl
      have e2 : lget [a, b] 0 = some a := rfl
      rw [content_of, Fm.ct_two, if_neg hk1]
      simp only [Fm.args_mk, Fm.kind_mk, Fm.typeF_mk, ieq_iff, hk1, hk5, hk4, if_false, e1, e2, bind1_of, ihb, iha]
      rcases hca : a.ct with ⟨ta, ha2, ea⟩
      rcases hcb : b.ct with ⟨tb, hb2, eb⟩
      have ca := ct_nodes a ha
      have cb := ct_nodes b hb
      have oka := ct_ok a ha
      rw [hca] at ca; rw [hcb] at cb
      simp only at ca cb
      simp only [bind3_of, ine_iff]
      unfold ctNode
      by_cases he : eb = 0
      · subst he
        simp only [ne_eq, not_true_eq_false, if_false, hk5, hk4]
        rcases hk with rfl | rfl
        · simp only [if_true]
          unfold ctAnd
          simp only [sel_or, Bool.or_eq_true, ine_iff, bnot_eq, Bool.not_eq_true']
          by_cases h1 : ea ≠ 0 ∨ ha2 = false
          · simp only [if_pos h1]
          · simp only [if_neg h1]
            simp only [ne_eq, not_or, Classical.not_not, Bool.not_eq_false] at h1
            obtain ⟨rfl, rfl⟩ := h1
            cases hb2 with
            | false => simp
            | true =>
              have := ca rfl rfl; have := cb rfl rfl
              simp only [if_true]
              rw [content_join_eq _ _ _ (by omega)]
              rfl
        · simp only [show ¬ (3 : Int) = 2 by omega, if_false, if_true]
          cases hb2 with
          | false => simp
          | true =>
            simp only [if_true]
            unfold ctImp
            simp only [sel_or, Bool.or_eq_true, ine_iff, bnot_eq, Bool.not_eq_true']
            by_cases h1 : ea ≠ 0 ∨ ha2 = false
            · simp only [if_pos h1]
            · simp only [if_neg h1]
              simp only [ne_eq, not_or, Classical.not_not, Bool.not_eq_false] at h1
              obtain ⟨rfl, rfl⟩ := h1
              have := ca rfl rfl; have := cb rfl rfl
              rw [content_join_eq _ _ _ (by omega)]
              rfl
      · simp [he]
    · intro k s a hk hs ha _ hn
      rw [Fm.nodes_mk] at hn
      simp only [sumL] at hn
      have iha := ih a (by omega) ha
      have hk1 : k ≠ 1 := by omega
      have hk2 : k ≠ 2 := by omega
      have hk3 : k ≠ 3 := by omega
      have e1 : lget [a] (isub .i64 (llen [a]) 1) = some a := by
        rw [isub_in (by simp) (by simp)]; rfl
      rw [content_of, Fm.ct_one, if_neg hk1]
      simp only [Fm.args_mk, Fm.kind_mk, Fm.typeF_mk, ieq_iff, hk1, hk2, hk3, if_false, e1, bind1_of, iha]
      rcases hca : a.ct with ⟨ta, ha2, ea⟩
      have ca := ct_nodes a ha
      rw [hca] at ca
      simp only at ca
      have hsn := (Ty.err_zero hs).2
      simp only [bind3_of, ine_iff]
      unfold ctNode
      by_cases he : ea = 0
      · subst he
        simp only [ne_eq, not_true_eq_false, if_false, hk2, hk3]
        by_cases h5 : k = 5
        · simp only [h5, if_true]
          cases ha2 with
          | false => simp
          | true =>
            have := ca rfl rfl
            simp only [if_true]
            rw [content_join_eq _ _ _ (by omega)]
            rfl
        · simp only [h5, if_false]
          cases ha2 with
          | false => simp
          | true =>
            have := ca rfl rfl
            simp only [if_true]
            by_cases h4 : k = 4
            · simp only [h4, if_true]
              rw [content_join_eq _ _ _ (by omega)]
              rfl
            · simp [h4]
      · simp [he]
theorem content_of' (f : Fm) (h : f.wt ≤ 1000000000) (hf : f.ok = true) : content_of FU f = some f.ct := content_of_eq FU f (by rw [FU_eq]; have := f.nodes_wt; omega) hf

theorem Fm.err_ok {f : Fm} (h : f.err = 0) : f.ok = true ∧ f.nodes ≤ 4096 := by
  unfold Fm.err at h
  split at h
  · split at h
    · omega
    · exact ⟨‹_›, by omega⟩
  · omega
/-- What content.Type returns. -/
def Fm.cty (f : Fm) : Ty × Int := if f.err ≠ 0 then (.mk 0 [], f.err) else if f.ct.2.2 ≠ 0 then (.mk 0 [], f.ct.2.2) else (if f.has = true then f.ct.1 else .mk 5 [], 0)
theorem content_Type_eq (f : Fm) (h : f.wt ≤ 1000000000) : content_Type f = some f.cty := by
  unfold content_Type Fm.cty
  rw [formula_Check_eq h]
  simp only [bind1_of, ine_iff]
  by_cases he : f.err = 0
  · have hok := (Fm.err_ok he).1
    rw [content_of' f h hok]
    rcases hc : f.ct with ⟨t, hh, e⟩
    have ho := (ct_ok f hok).h
    rw [hc] at ho
    simp only at ho
    simp only [he, ne_eq, not_true_eq_false, if_false, bind3_of, ine_iff]
    by_cases h1 : e = 0
    · subst h1
      rw [ho rfl]
      cases f.has <;> simp [sel]
    · simp [h1]
  · simp [he]
theorem ref08_content_eq : ∀ (n : Nat) (f : Fm), f.nodes ≤ n → f.ok = true → ref08_content n f = some f.has := by
  intro n
  induction n with
  | zero => intro f h; have := f.nodes_pos; omega
  | succ n ih =>
    intro f h hf
    refine Fm.ok_cases (p := fun f => f.nodes ≤ n + 1 → ref08_content (n + 1) f = some f.has) ?_ ?_ ?_ f hf h
    · intro a b _ _ _
      rw [ref08_content, Fm.has_eq]
      rfl
    · intro k a b hk ha hb _ _ hn
      rw [Fm.nodes_mk] at hn
      simp only [sumL] at hn
      have iha := ih a (by omega) ha
      have ihb := ih b (by omega) hb
      have hk1 : k ≠ 1 := by omega
      have hk5 : k ≠ 5 := by omega
      have e1 : lget [a, b] (isub .i64 (llen [a, b]) 1) = some b := by
        rw [isub_in (by simp) (by simp)]; rfl
      have e2 : lget [a, b] 0 = some a := rfl
      have e3 : lget [a, b] 1 = some b := rfl
      rw [ref08_content, Fm.has_two, if_neg hk1]
      simp only [Fm.args_mk, Fm.kind_mk, ieq_iff, hk1, hk5, if_false, e1, e2, e3, bind1_of, ihb, iha, joinB_eq]
      by_cases h2 : k = 2
      · simp only [h2, if_true]; cases a.has <;> simp
      · simp [h2]
    · intro k s a hk hs ha _ hn
      rw [Fm.nodes_mk] at hn
      simp only [sumL] at hn
      have iha := ih a (by omega) ha
      have hk1 : k ≠ 1 := by omega
      have hk2 : k ≠ 2 := by omega
      have e1 : lget [a] (isub .i64 (llen [a]) 1) = some a := by
        rw [isub_in (by simp) (by simp)]; rfl
      rw [ref08_content, Fm.has_one, if_neg hk1]
      simp only [Fm.args_mk, Fm.kind_mk, ieq_iff, hk1, hk2, if_false, e1, bind1_of, iha]
      by_cases h5 : k = 5 <;> simp [h5]
theorem ref08_Content_eq (f : Fm) (h : f.wt ≤ 1000000000) : ref08_Content f = some (if f.err ≠ 0 then (false, f.err) else (f.has, 0)) := by
  unfold ref08_Content
  rw [ref07_Check_eq h]
  simp only [bind1_of, ine_iff]
  by_cases he : f.err = 0
  · rw [ref08_content_eq FU f (by rw [FU_eq]; have := f.nodes_wt; omega) (Fm.err_ok he).1]
    simp [he]
  · simp [he]
theorem ref23_Has_eq (f : Fm) (h : f.wt ≤ 1000000000) (he : f.err = 0) : ref23_Has f = some f.has := by
  unfold ref23_Has
  rw [ref08_Content_eq f h]
  simp [he]
theorem ref23_fits_eq (t : Ty) (h : t.nodes ≤ 1000000000) : ref23_fits t 0 = some (if t.err ≠ 0 then (.mk 0 [], t.err) else (t, 0)) := by
  unfold ref23_fits ref01_Size
  rw [ref01_Check_eq h, ref01_size_eq FU t (by rw [FU_eq]; exact h) h]
  by_cases he : t.err = 0 <;> simp [he]
theorem ref23_fits_err (t : Ty) {e : Int} (he : e ≠ 0) : ref23_fits t e = some (.mk 0 [], e) := by
  unfold ref23_fits
  simp [he]
/-- What the reference returns for a right formula. -/
def Fm.rf (f : Fm) : Ty × Int := if f.ct.2.2 ≠ 0 then (.mk 0 [], f.ct.2.2) else (if f.has = true then f.ct.1 else .mk 5 [], 0)
theorem Fm.err_arg {k : Int} {s : Ty} {ts : List Tm} {l : List Fm} (h : (Fm.mk k s ts l).err = 0) {a : Fm} (ha : a ∈ l) : a.err = 0 := by
  obtain ⟨h1, h2⟩ := Fm.err_ok h
  rw [Fm.ok_mk] at h1
  simp only [Bool.and_eq_true, List.all_eq_true] at h1
  rw [Fm.nodes_mk] at h2
  have := sumL_mem Fm.nodes ha
  unfold Fm.err
  rw [if_pos (h1.2 a ha), if_neg (by omega)]
theorem Fm.err_of {f : Fm} (h : f.ok = true) (h2 : f.nodes ≤ 4096) : f.err = 0 := by unfold Fm.err; rw [if_pos h, if_neg (by omega)]
theorem ref23_of_eq : ∀ (n : Nat) (f : Fm), f.nodes ≤ n → f.wt ≤ 1000000000 → f.err = 0 → ref23_of n f = some f.rf := by
  intro n
  induction n with
  | zero => intro f h; have := f.nodes_pos; omega
  | succ n ih =>
    intro f h hw he
    refine Fm.ok_cases (p := fun f => f.nodes ≤ n + 1 → f.wt ≤ 1000000000 → f.err = 0 → ref23_of (n + 1) f = some f.rf) ?_ ?_ ?_ f (Fm.err_ok he).1 h hw he
    · intro a b _ _ _ hw he
      rw [ref23_of, ref23_Has_eq _ hw he, Fm.has_eq]
      unfold Fm.rf
      rw [Fm.ct_eq, Fm.has_eq]
      rfl
    · intro k a b hk ha hb _ _ hn hw he
      have hea := Fm.err_arg he (a := a) (by simp)
      have heb := Fm.err_arg he (a := b) (by simp)
      have hall := ct_ok _ (Fm.err_ok he).1
      rw [ref23_of, ref23_Has_eq _ hw he]
      rw [Fm.nodes_mk] at hn
      rw [Fm.wt_mk] at hw
      simp only [sumL] at hn hw
      have iha := ih a (by omega) (by omega) hea
      have ihb := ih b (by omega) (by omega) heb
      have hk1 : k ≠ 1 := by omega
      have hk5 : k ≠ 5 := by omega
      have hk4 : k ≠ 4 := by omega
      have e2 : lget [a, b] 0 = some a := rfl
      have e3 : lget [a, b] 1 = some b := rfl
      simp only [Fm.args_mk, Fm.kind_mk, Fm.typeF_mk, ieq_iff, hk4, hk5, if_false, e2, e3, bind1_of, ihb, iha, ref23_Has_eq a (by omega) hea, ref23_Has_eq b (by omega) heb]
      have ca := ct_ok a ha
      have cb := ct_ok b hb
      have na := ct_nodes a ha
      have nb := ct_nodes b hb
      unfold Fm.rf
      rw [Fm.ct_two, if_neg hk1, Fm.has_two, if_neg hk1]
      simp only [hk5, if_false]
      rcases hca : a.ct with ⟨ta, ha2, ea⟩
      rcases hcb : b.ct with ⟨tb, hb2, eb⟩
      obtain ⟨a1, a2, a3, a4⟩ := ca
      obtain ⟨b1, b2, b3, b4⟩ := cb
      rw [hca] at a1 a2 a3 a4 na
      rw [hcb] at b1 b2 b3 b4 nb
      simp only at a1 a2 a3 a4 b1 b2 b3 b4 na nb
      unfold ctNode
      rcases hk with rfl | rfl
      · simp only [if_true]
        unfold ctAnd
        cases hha : a.has
        · have := a3 hha; subst this
          have := a2 rfl; rw [hha] at this; subst this
          cases hhb : b.has
          · have := b3 hhb; subst this
            have := b2 rfl; rw [hhb] at this; subst this
            simp [ref23_Unit]
          · simp only [Bool.false_or, if_true, Bool.false_eq_true, if_false]
            rcases b1 with rfl | rfl
            · simp
            · simp
        · cases hhb : b.has
          · have := b3 hhb; subst this
            have := b2 rfl; rw [hhb] at this; subst this
            simp only [Bool.true_or, if_true, Bool.false_eq_true, if_false]
            rcases a1 with rfl | rfl
            · have := a2 rfl; rw [hha] at this; subst this
              simp
            · simp
          · simp only [Bool.true_or, if_true]
            rcases b1 with rfl | rfl
            · have := b2 rfl; rw [hhb] at this; subst this
              rcases a1 with rfl | rfl
              · have := a2 rfl; rw [hha] at this; subst this
                have := na rfl rfl; have := nb rfl rfl
                simp [ref23_Pair, joinT]
                rw [ref23_fits_eq _ (by rw [Ty.nodes_two]; omega)]
                by_cases hj : (Ty.mk 3 [ta, tb]).err = 0 <;> simp [hj]
              · simp
            · rcases a1 with rfl | rfl
              · simp [ref23_Pair, ref23_fits_err]
              · simp
      · simp only [show ¬ (3 : Int) = 2 by omega, if_false, if_true]
        unfold ctImp
        cases hhb : b.has
        · have := b3 hhb; subst this
          have := b2 rfl; rw [hhb] at this; subst this
          simp [ref23_Unit]
        · cases hha : a.has
          · have := a3 hha; subst this
            have := a2 rfl; rw [hha] at this; subst this
            rcases b1 with rfl | rfl
            · have := b2 rfl; rw [hhb] at this; subst this
              simp
            · simp
          · rcases b1 with rfl | rfl
            · have := b2 rfl; rw [hhb] at this; subst this
              rcases a1 with rfl | rfl
              · have := a2 rfl; rw [hha] at this; subst this
                have := na rfl rfl; have := nb rfl rfl
                simp [ref23_Fun, joinT]
                rw [ref23_fits_eq _ (by rw [Ty.nodes_two]; omega)]
                by_cases hj : (Ty.mk 4 [ta, tb]).err = 0 <;> simp [hj]
              · simp
            · rcases a1 with rfl | rfl
              · simp [ref23_Fun, ref23_fits_err]
              · simp
    · intro k s a hk hs ha _ hn hw he
      have hea := Fm.err_arg he (a := a) (by simp)
      rw [ref23_of, ref23_Has_eq _ hw he]
      rw [Fm.nodes_mk] at hn
      rw [Fm.wt_mk] at hw
      simp only [sumL] at hn hw
      have iha := ih a (by omega) (by omega) hea
      have hk1 : k ≠ 1 := by omega
      have hk2 : k ≠ 2 := by omega
      have hk3 : k ≠ 3 := by omega
      have e2 : lget [a] 0 = some a := rfl
      simp only [Fm.args_mk, Fm.kind_mk, Fm.typeF_mk, ieq_iff, hk2, hk3, if_false, e2, bind1_of, iha, ref23_Has_eq a (by omega) hea]
      have na := ct_nodes a ha
      have hsn := (Ty.err_zero hs).2
      unfold Fm.rf
      rw [Fm.ct_one, if_neg hk1, Fm.has_one, if_neg hk1]
      obtain ⟨a1, a2, a3, a4⟩ := ct_ok a ha
      rcases hca : a.ct with ⟨ta, ha2, ea⟩
      rw [hca] at a1 a2 a3 a4 na
      simp only at a1 a2 a3 a4 na
      unfold ctNode
      simp only [hk2, hk3, if_false]
      by_cases h5 : k = 5
      · subst h5
        simp only [if_true, show ¬ (5 : Int) = 4 by omega, if_false]
        cases hha : a.has
        · have := a3 hha; subst this
          have := a2 rfl; rw [hha] at this; subst this
          simp
        · rcases a1 with rfl | rfl
          · have := a2 rfl; rw [hha] at this; subst this
            have := na rfl rfl
            simp [ref23_Pair, joinT]
            rw [ref23_fits_eq _ (by rw [Ty.nodes_two]; omega)]
            by_cases hj : (Ty.mk 3 [s, ta]).err = 0 <;> simp [hj]
          · simp [ref23_Pair, ref23_fits_err]
      · simp only [h5, if_false]
        cases hha : a.has
        · have := a3 hha; subst this
          have := a2 rfl; rw [hha] at this; subst this
          simp [ref23_Unit]
        · rcases a1 with rfl | rfl
          · have := a2 rfl; rw [hha] at this; subst this
            have := na rfl rfl
            by_cases h4 : k = 4
            · subst h4
              simp [ref23_Fun, joinT]
              rw [ref23_fits_eq _ (by rw [Ty.nodes_two]; omega)]
              by_cases hj : (Ty.mk 4 [s, ta]).err = 0 <;> simp [hj]
            · simp [h4]
          · by_cases h4 : k = 4
            · subst h4
              simp [ref23_Fun, ref23_fits_err]
            · simp [h4]
theorem ref23_Type_eq (f : Fm) (h : f.wt ≤ 1000000000) : ref23_Type f = some f.cty := by
  unfold ref23_Type Fm.cty
  rw [ref07_Check_eq h]
  simp only [bind1_of, ine_iff]
  by_cases he : f.err = 0
  · rw [ref23_of_eq FU f (by rw [FU_eq]; have := f.nodes_wt; omega) h he]
    simp only [he, ne_eq, not_true_eq_false, if_false]
    rfl
  · simp [he]
end Go.Mdl
