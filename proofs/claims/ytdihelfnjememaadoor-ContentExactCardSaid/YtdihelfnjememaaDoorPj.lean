/-
  Contexts of sequents: the program's and the reference's agree.
-/
import Derived.Test.YtdihelfnjememaaDoorPi
set_option linter.unusedSimpArgs false
set_option linter.unusedVariables false
namespace Go.Mdl
open Go

def ctxE (l : List Ty) : Int := if 16 < l.length then 3 else firstE (l.map Ty.err)
theorem types_Context_eq (l : List Ty) (hl : l.length ≤ 1000000) (h : ∀ t ∈ l, t.nodes ≤ 1000000000) : types_Context l = some (ctxE l) := by
  unfold types_Context ctxE
  simp only [igt_iff, llen_eq, okLen_of (l := l) (by omega), chk_true, joinB_eq]
  by_cases h1 : 16 < l.length
  · rw [if_pos (by omega), if_pos h1]
  · rw [if_neg (by omega), if_neg h1]
    have key := forR_first (F := fun (j : Int) (x : Ty) (_ : Unit) => bind1 (types_Check x) fun x248 => if ine x248 0 = true then some (Ctl.ret x248) else some (Ctl.next ())) Ty.err l 0 (by
      intro j x hx
      rw [types_Check_eq (h x hx)]
      simp only [bind1_of, ine_iff])
    simp only [ine_iff] at key ⊢
    rw [key]
    by_cases h2 : firstE (l.map Ty.err) = 0
    · simp [h2]
    · simp [h2]
theorem ref01_Context_eq (l : List Ty) (hl : l.length ≤ 1000000) (h : ∀ t ∈ l, t.nodes ≤ 1000000000) : ref01_Context l = some (ctxE l) := by
  unfold ref01_Context ctxE
  simp only [igt_iff, llen_eq, okLen_of (l := l) (by omega), chk_true, joinB_eq]
  by_cases h1 : 16 < l.length
  · rw [if_pos (by omega), if_pos h1]
  · rw [if_neg (by omega), if_neg h1]
    have key := forR_first (F := fun (j : Int) (x : Ty) (_ : Unit) => bind1 (ref01_Check x) fun x248 => if ine x248 0 = true then some (Ctl.ret x248) else some (Ctl.next ())) Ty.err l 0 (by
      intro j x hx
      rw [ref01_Check_eq (h x hx)]
      simp only [bind1_of, ine_iff])
    simp only [ine_iff] at key ⊢
    rw [key]
    by_cases h2 : firstE (l.map Ty.err) = 0
    · simp [h2]
    · simp [h2]

/-- What becomes of the hypotheses: the types and places, or an error. -/
def lookO : List Fm → List Ty → List Int → (List Ty × List Int) ⊕ Int
  | [], a, p => .inl (a, p)
  | h :: l, a, p => if h.err ≠ 0 then .inr h.err else if h.ct.2.2 ≠ 0 then .inr h.ct.2.2 else if h.has = true then lookO l (a ++ [h.ct.1]) (p ++ [(a.length : Int)]) else lookO l a (p ++ [-1])

def lookC (o : (List Ty × List Int) ⊕ Int) : (List Ty × List Int) ⊕ (List Ty × List Int × Int) := match o with | .inl s => .inl s | .inr e => .inr ([], [], e)
theorem look_loop (F : Int → Fm → List Ty × List Int → Option (Ctl (List Ty × List Int) (List Ty × List Int × Int)))
    (hF : ∀ j f a p, f.wt ≤ 1000000000 → a.length ≤ 2000000 → p.length ≤ 2000000 → F j f (a, p) = if f.err ≠ 0 then some (.ret ([], [], f.err)) else if f.ct.2.2 ≠ 0 then some (.ret ([], [], f.ct.2.2)) else
      if f.has = true then some (.next (a ++ [f.ct.1], p ++ [(a.length : Int)])) else some (.next (a, p ++ [-1]))) :
    ∀ (l : List Fm) (i : Nat) (a : List Ty) (p : List Int), (∀ f ∈ l, f.wt ≤ 1000000000) → a.length + l.length ≤ 2000000 → p.length + l.length ≤ 2000000 → forR F l i (a, p) = some (lookC (lookO l a p)) := by
  intro l
  induction l with
  | nil => intro i a p _ _ _; rfl
  | cons f l ih =>
    intro i a p hf ha hp
    simp only [List.length_cons] at ha hp
    rw [forR_cons, hF _ f a p (hf f (by simp)) (by omega) (by omega), lookO]
    by_cases h1 : f.err = 0
    · by_cases h2 : f.ct.2.2 = 0
      · simp only [h1, h2, ne_eq, not_true_eq_false, if_false]
        cases hh : f.has with
        | true =>
          simp only [if_true, bind1_of, ctlK_next]
          exact ih (i + 1) _ _ (fun g hg => hf g (by simp [hg])) (by simp; omega) (by simp; omega)
        | false =>
          simp only [Bool.false_eq_true, if_false, bind1_of, ctlK_next]
          exact ih (i + 1) _ _ (fun g hg => hf g (by simp [hg])) (by omega) (by simp; omega)
      · simp [h1, h2, lookC]
    · simp [h1, lookC]
theorem content_look_eq (q : Sq) (hl : q.types.length ≤ 1000000) (h : ∀ t ∈ q.types, t.nodes ≤ 1000000000) (hl2 : q.hyps.length ≤ 1000000) (h2 : ∀ f ∈ q.hyps, f.wt ≤ 1000000000) :
    content_look q = some (if ctxE q.types ≠ 0 then ([], [], ctxE q.types) else if 16 < q.hyps.length then ([], [], 3) else match lookO q.hyps q.types [] with | .inl s => (s.1, s.2, 0) | .inr e => ([], [], e)) := by
  unfold content_look
  rw [types_Context_eq _ hl h]
  simp only [bind1_of, ine_iff, igt_iff, okLen_of (l := q.hyps) (by omega), okApp_of (l := ([] : List Ty)) (m := q.types) (by simp; omega), chk_true, joinB_eq]
  by_cases h3 : ctxE q.types = 0
  · simp only [h3, ne_eq, not_true_eq_false, if_false]
    by_cases h4 : 16 < q.hyps.length
    · rw [if_pos (by rw [llen_eq]; omega), if_pos h4]
    · rw [if_neg (by rw [llen_eq]; omega), if_neg h4]
      rw [lapp_eq, List.nil_append, look_loop _ ?_ q.hyps 0 q.types [] h2 (by omega) (by simp; omega)]
      · cases hlk : lookO q.hyps q.types [] with
        | inl s => obtain ⟨a, b⟩ := s; rfl
        | inr e => rfl
      · intro j f a p hw ha hp
        simp only [un2_mk, formula_Check_eq hw, bind1_of]
        by_cases h1 : f.err = 0
        · have hok := (Fm.err_ok h1).1
          have hct := (ct_ok f hok).h
          rw [content_of' f hw hok]
          rcases hc : f.ct with ⟨t, b, e⟩
          rw [hc] at hct
          simp only at hct
          simp only [h1, ne_eq, not_true_eq_false, if_false, bind3_of]
          by_cases h2 : e = 0
          · subst h2
            have hb := hct rfl
            simp only [ne_eq, not_true_eq_false, if_false]
            rw [hb]
            cases hh : f.has with
            | true => simp only [llen_eq, if_true, okApp_of (l := p) (m := [(a.length : Int)]) (by simp; omega), okApp_of (l := a) (m := [t]) (by simp; omega), chk_true, lapp_eq]
            | false => simp only [Bool.false_eq_true, if_false, okApp_of (l := p) (m := [(-1 : Int)]) (by simp; omega), chk_true, lapp_eq]
          · simp [h2]
        · simp [h1]
  · simp [h3]
theorem content_Context_eq (q : Sq) (hl : q.types.length ≤ 1000000) (h : ∀ t ∈ q.types, t.nodes ≤ 1000000000) (hl2 : q.hyps.length ≤ 1000000) (h2 : ∀ f ∈ q.hyps, f.wt ≤ 1000000000) :
    content_Context q = some (if ctxE q.types ≠ 0 then ([], ctxE q.types) else if 16 < q.hyps.length then ([], 3) else match lookO q.hyps q.types [] with | .inl s => (s.1, 0) | .inr e => ([], e)) := by
  unfold content_Context
  rw [content_look_eq q hl h hl2 h2]
  by_cases h3 : ctxE q.types = 0
  · by_cases h4 : 16 < q.hyps.length
    · simp [h3, h4]
    · cases h5 : lookO q.hyps q.types [] <;> simp [h3, h4]
  · simp [h3]
theorem content_Places_eq (q : Sq) (hl : q.types.length ≤ 1000000) (h : ∀ t ∈ q.types, t.nodes ≤ 1000000000) (hl2 : q.hyps.length ≤ 1000000) (h2 : ∀ f ∈ q.hyps, f.wt ≤ 1000000000) :
    content_Places q = some (if ctxE q.types ≠ 0 then ([], ctxE q.types) else if 16 < q.hyps.length then ([], 3) else match lookO q.hyps q.types [] with | .inl s => (s.2, 0) | .inr e => ([], e)) := by
  unfold content_Places
  rw [content_look_eq q hl h hl2 h2]
  by_cases h3 : ctxE q.types = 0
  · by_cases h4 : 16 < q.hyps.length
    · simp [h3, h4]
    · cases h5 : lookO q.hyps q.types [] <;> simp [h3, h4]
  · simp [h3]

theorem cty_split (f : Fm) : f.cty.2 = (if f.err ≠ 0 then f.err else f.ct.2.2) ∧ (f.err = 0 → f.ct.2.2 = 0 → f.has = true → f.cty.1 = f.ct.1) := by
  unfold Fm.cty
  by_cases h : f.err = 0
  · by_cases h2 : f.ct.2.2 = 0
    · simp only [h, h2, ne_eq, not_true_eq_false, if_false]
      exact ⟨trivial, fun _ _ h3 => by rw [if_pos h3]⟩
    · simp [h, h2]
  · simp [h]
theorem drop_split {α : Type} {l : List α} {i : Nat} {x : α} {m : List α} (h : l.drop i = x :: m) : i < l.length ∧ l[i]? = some x ∧ l.drop (i + 1) = m := by
  have hlt : i < l.length := by
    rcases Nat.lt_or_ge i l.length with h' | h'
    · exact h'
    · rw [List.drop_eq_nil_of_le h'] at h; cases h
  rw [List.drop_eq_getElem_cons hlt] at h
  injection h with h1 h2
  exact ⟨hlt, by rw [List.getElem?_eq_getElem hlt, h1], h2⟩
theorem ctx_loop (H : List Fm) (hH : H.length ≤ 1000000) (F : List Ty × Int → Option (Ctl (List Ty × Int) (List Ty × Int))) (hend : ∀ a (i : Int), (H.length : Int) ≤ i → F (a, i) = some (.brk (a, i)))
    (hF : ∀ a (i : Nat) f, H[i]? = some f → a.length ≤ 2000000 → F (a, (i : Int)) = if f.err ≠ 0 then some (.ret ([], f.err)) else if f.ct.2.2 ≠ 0 then some (.ret ([], f.ct.2.2)) else
      if f.has = true then some (.next (a ++ [f.ct.1], ((i + 1 : Nat) : Int))) else some (.next (a, ((i + 1 : Nat) : Int)))) :
    ∀ (l : List Fm) (i n : Nat) (a : List Ty) (p : List Int), l = H.drop i → l.length < n → a.length + l.length ≤ 2000000 →
      ∃ i', loopN F n (a, (i : Int)) = some (match lookO l a p with | .inl s => .inl (s.1, i') | .inr e => .inr ([], e)) := by
  intro l
  induction l with
  | nil =>
    intro i n a p hd hn ha
    obtain ⟨n, rfl⟩ : ∃ m, n = m + 1 := ⟨n - 1, by omega⟩
    have : H.length ≤ i := by
      have := congrArg List.length hd
      simp only [List.length_nil, List.length_drop] at this
      omega
    exact ⟨(i : Int), by rw [loopN_succ, hend a i (by omega)]; rfl⟩
  | cons f l ih =>
    intro i n a p hd hn ha
    obtain ⟨n, rfl⟩ : ∃ m, n = m + 1 := ⟨n - 1, by omega⟩
    obtain ⟨hlt, hget, hdrop⟩ := drop_split hd.symm
    simp only [List.length_cons] at hn ha
    rw [loopN_succ, hF a i f hget (by omega), lookO]
    by_cases h1 : f.err = 0
    · by_cases h5 : f.ct.2.2 = 0
      · simp only [h1, h5, ne_eq, not_true_eq_false, if_false]
        cases hh : f.has with
        | true =>
          simp only [if_true, bind1_of, ctlK_next]
          exact ih (i + 1) n _ _ hdrop.symm (by omega) (by simp; omega)
        | false =>
          simp only [Bool.false_eq_true, if_false, bind1_of, ctlK_next]
          exact ih (i + 1) n _ _ hdrop.symm (by omega) (by omega)
      · exact ⟨0, by simp [h1, h5]⟩
    · exact ⟨0, by simp [h1]⟩
theorem ctx_use (H : List Fm) (hH : H.length ≤ 1000000) (a : List Ty) (ha : a.length ≤ 1000000) {F : List Ty × Int → Option (Ctl (List Ty × Int) (List Ty × Int))} (hend : ∀ a (i : Int), (H.length : Int) ≤ i → F (a, i) = some (.brk (a, i)))
    (hF : ∀ a (i : Nat) f, H[i]? = some f → a.length ≤ 2000000 → F (a, (i : Int)) = if f.err ≠ 0 then some (.ret ([], f.err)) else if f.ct.2.2 ≠ 0 then some (.ret ([], f.ct.2.2)) else
      if f.has = true then some (.next (a ++ [f.ct.1], ((i + 1 : Nat) : Int))) else some (.next (a, ((i + 1 : Nat) : Int)))) :
    bind1 (loopN F FU (a, 0)) (sumK (un2 fun (v : List Ty) (_ : Int) => some (v, 0)) fun r => some r) = some (match lookO H a [] with | .inl s => (s.1, (0 : Int)) | .inr e => ([], e)) := by
  obtain ⟨i', hi'⟩ := ctx_loop H hH F hend hF H 0 FU a [] rfl (by rw [FU_eq]; omega) (by omega)
  rw [Int.natCast_zero] at hi'
  rw [hi']
  cases hlk : lookO H a [] with
  | inl s => obtain ⟨a, b⟩ := s; rfl
  | inr e => rfl
theorem ref23_Context_eq (q : Sq) (hl : q.types.length ≤ 1000000) (h : ∀ t ∈ q.types, t.nodes ≤ 1000000000) (hl2 : q.hyps.length ≤ 1000000) (h2 : ∀ f ∈ q.hyps, f.wt ≤ 1000000000) :
    ref23_Context q = some (if ctxE q.types ≠ 0 then ([], ctxE q.types) else if 16 < q.hyps.length then ([], 3) else match lookO q.hyps q.types [] with | .inl s => (s.1, 0) | .inr e => ([], e)) := by
  unfold ref23_Context
  rw [ref01_Context_eq _ hl h]
  simp only [bind1_of, ine_iff, igt_iff, okApp_of (l := ([] : List Ty)) (m := q.types) (by simp; omega), chk_true, joinB_eq]
  by_cases h3 : ctxE q.types = 0
  · simp only [h3, ne_eq, not_true_eq_false, if_false]
    by_cases h4 : 16 < q.hyps.length
    · rw [if_pos (by rw [llen_eq]; omega), if_pos h4]
    · rw [if_neg (by rw [llen_eq]; omega), if_neg h4]
      rw [lapp_eq, List.nil_append]
      refine ctx_use q.hyps hl2 q.types (by omega) ?_ ?_
      · intro a i hi
        simp only [un2_mk, ilt_iff]
        rw [if_neg (by rw [llen_eq]; omega)]
      · intro a i f hget ha
        have hlt := (List.getElem?_eq_some_iff.1 hget).1
        have hw := h2 f (List.mem_of_getElem? hget)
        simp only [un2_mk, ilt_iff]
        rw [if_pos (by rw [llen_eq]; omega), lget_ofNat, hget]
        simp only [bind1_of, ref23_Type_eq f hw]
        obtain ⟨c1, c2⟩ := cty_split f
        rcases hcty : f.cty with ⟨ty, e⟩
        rw [hcty] at c1 c2
        simp only at c1 c2
        simp only [bind2_of]
        by_cases h1 : f.err = 0
        · simp only [h1, ne_eq, not_true_eq_false, if_false] at c1
          subst c1
          by_cases h5 : f.ct.2.2 = 0
          · simp only [h1, h5, ne_eq, not_true_eq_false, if_false, ref23_Has_eq f hw h1, bind1_of]
            rw [iadd_in (by omega) (by omega), show (i : Int) + 1 = ((i + 1 : Nat) : Int) by omega]
            cases hh : f.has with
            | true =>
              have := c2 h1 h5 hh
              subst this
              simp only [if_true, okApp_of (l := a) (m := [f.ct.1]) (by simp; omega), chk_true, lapp_eq]
            | false => simp only [Bool.false_eq_true, if_false]
          · simp [h1, h5]
        · simp only [ne_eq, h1, not_false_eq_true, if_true] at c1
          subst c1
          simp [h1]
  · simp [h3]
theorem places_loop (H : List Fm) (hH : H.length ≤ 1000000) (F : List Int × Int × Int → Option (Ctl (List Int × Int × Int) (List Int × Int))) (hend : ∀ p (k i : Int), (H.length : Int) ≤ i → F (p, k, i) = some (.brk (p, k, i)))
    (hF : ∀ p (k : Int) (i : Nat) f, H[i]? = some f → f.err = 0 → p.length ≤ 2000000 → 0 ≤ k → k ≤ 2000000 → F (p, k, (i : Int)) =
      if f.has = true then some (.next (p ++ [k], k + 1, ((i + 1 : Nat) : Int))) else some (.next (p ++ [-1], k, ((i + 1 : Nat) : Int)))) :
    ∀ (l : List Fm) (i n : Nat) (a : List Ty) (p : List Int) (s : List Ty × List Int), l = H.drop i → l.length < n → a.length + l.length ≤ 2000000 → p.length + l.length ≤ 2000000 → lookO l a p = .inl s →
      ∃ k' i', loopN F n (p, (a.length : Int), (i : Int)) = some (.inl (s.2, k', i')) := by
  intro l
  induction l with
  | nil =>
    intro i n a p s hd hn ha hp hs
    obtain ⟨n, rfl⟩ : ∃ m, n = m + 1 := ⟨n - 1, by omega⟩
    have : H.length ≤ i := by
      have := congrArg List.length hd
      simp only [List.length_nil, List.length_drop] at this
      omega
    rw [lookO] at hs
    injection hs with hs
    subst hs
    exact ⟨_, _, by rw [loopN_succ, hend p _ i (by omega)]; rfl⟩
  | cons f l ih =>
    intro i n a p s hd hn ha hp hs
    obtain ⟨n, rfl⟩ : ∃ m, n = m + 1 := ⟨n - 1, by omega⟩
    obtain ⟨hlt, hget, hdrop⟩ := drop_split hd.symm
    simp only [List.length_cons] at hn ha hp
    rw [lookO] at hs
    by_cases h1 : f.err = 0
    · by_cases h5 : f.ct.2.2 = 0
      · simp only [h1, h5, ne_eq, not_true_eq_false, if_false] at hs
        rw [loopN_succ, hF p _ i f hget h1 (by omega) (by omega) (by omega)]
        cases hh : f.has with
        | true =>
          rw [hh] at hs
          simp only [if_true] at hs
          simp only [if_true, bind1_of, ctlK_next]
          have := ih (i + 1) n (a ++ [f.ct.1]) (p ++ [(a.length : Int)]) s hdrop.symm (by omega) (by simp; omega) (by simp; omega) hs
          rw [show ((a ++ [f.ct.1]).length : Int) = (a.length : Int) + 1 by simp] at this
          exact this
        | false =>
          rw [hh] at hs
          simp only [Bool.false_eq_true, if_false] at hs
          simp only [Bool.false_eq_true, if_false, bind1_of, ctlK_next]
          exact ih (i + 1) n a (p ++ [-1]) s hdrop.symm (by omega) (by omega) (by simp; omega) hs
      · simp [h1, h5] at hs
    · simp [h1] at hs
theorem places_use (H : List Fm) (hH : H.length ≤ 1000000) (a : List Ty) (ha : a.length ≤ 1000000) {s : List Ty × List Int} (hs : lookO H a [] = .inl s) {F : List Int × Int × Int → Option (Ctl (List Int × Int × Int) (List Int × Int))}
    (hend : ∀ p (k i : Int), (H.length : Int) ≤ i → F (p, k, i) = some (.brk (p, k, i)))
    (hF : ∀ p (k : Int) (i : Nat) f, H[i]? = some f → f.err = 0 → p.length ≤ 2000000 → 0 ≤ k → k ≤ 2000000 → F (p, k, (i : Int)) =
      if f.has = true then some (.next (p ++ [k], k + 1, ((i + 1 : Nat) : Int))) else some (.next (p ++ [-1], k, ((i + 1 : Nat) : Int)))) :
    bind1 (loopN F FU ([], (a.length : Int), 0)) (sumK (un3 fun (v : List Int) (_ : Int) (_ : Int) => some (v, 0)) fun r => some r) = some (s.2, (0 : Int)) := by
  obtain ⟨k', i', hk⟩ := places_loop H hH F hend hF H 0 FU a [] s rfl (by rw [FU_eq]; omega) (by omega) (by simp; omega) hs
  rw [Int.natCast_zero] at hk
  rw [hk]
  rfl
theorem lookO_err : ∀ (l : List Fm) (a : List Ty) (p : List Int) {e : Int}, lookO l a p = .inr e → e ≠ 0 := by
  intro l
  induction l with
  | nil => intro a p e h; rw [lookO] at h; cases h
  | cons f l ih =>
    intro a p e h
    rw [lookO] at h
    split at h
    · injection h with h; subst h; assumption
    · split at h
      · injection h with h; subst h; assumption
      · split at h
        · exact ih _ _ h
        · exact ih _ _ h
theorem ref23_Places_eq (q : Sq) (hl : q.types.length ≤ 1000000) (h : ∀ t ∈ q.types, t.nodes ≤ 1000000000) (hl2 : q.hyps.length ≤ 1000000) (h2 : ∀ f ∈ q.hyps, f.wt ≤ 1000000000) :
    ref23_Places q = some (if ctxE q.types ≠ 0 then ([], ctxE q.types) else if 16 < q.hyps.length then ([], 3) else match lookO q.hyps q.types [] with | .inl s => (s.2, 0) | .inr e => ([], e)) := by
  unfold ref23_Places
  rw [ref23_Context_eq q hl h hl2 h2]
  by_cases h3 : ctxE q.types = 0
  · by_cases h4 : 16 < q.hyps.length
    · simp [h3, h4]
    · simp only [h3, ne_eq, not_true_eq_false, if_false, if_neg h4]
      cases hlook : lookO q.hyps q.types [] with
      | inr e =>
        have he := lookO_err _ _ _ hlook
        simp [he]
      | inl s =>
        simp only [bind2_of, joinB_eq]
        rw [if_neg (by simp), llen_eq q.types]
        refine places_use q.hyps hl2 q.types (by omega) hlook ?_ ?_
        · intro p k i hi
          simp only [un3_mk, ilt_iff]
          rw [if_neg (by rw [llen_eq]; omega)]
        · intro p k i f hget h1 hp hk0 hk
          have hlt := (List.getElem?_eq_some_iff.1 hget).1
          have hw := h2 f (List.mem_of_getElem? hget)
          simp only [un3_mk, ilt_iff]
          rw [if_pos (by rw [llen_eq]; omega), lget_ofNat, hget]
          simp only [bind1_of]
          rw [ref23_Has_eq f hw h1]
          simp only [bind1_of]
          rw [iadd_in (a := (i : Int)) (b := 1) (by omega) (by omega), show (i : Int) + 1 = ((i + 1 : Nat) : Int) by omega]
          cases hh : f.has with
          | true =>
            simp only [if_true, okApp_of (l := p) (m := [k]) (by simp; omega), chk_true, lapp_eq]
            rw [iadd_in (by omega) (by omega)]
          | false => simp only [Bool.false_eq_true, if_false, okApp_of (l := p) (m := [(-1 : Int)]) (by simp; omega), chk_true, lapp_eq]
  · simp [h3]
end Go.Mdl
