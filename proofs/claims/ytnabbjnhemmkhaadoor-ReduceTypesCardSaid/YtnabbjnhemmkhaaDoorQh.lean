/-
  Steps keep types; a closed normal term begins as its type says.
-/
import Derived.Test.YtnabbjnhemmkhaaDoorQg
set_option linter.unusedSimpArgs false
set_option linter.unusedVariables false
namespace Go.Mdl
open Go

theorem up_ne {k : Int} (hk : k ≠ 1) (h2 : k ≠ 2) (f b i : Int) (s : Ty) (l : List Tm) : (Tm.mk k i s l).up f b = .mk k i s (l.map (Tm.up f b)) := by
  rw [Tm.up_mk, if_neg (fun h => hk h.1)]
  unfold lamB
  rw [if_neg h2, Int.add_zero]
theorem up_lam (f b i : Int) (s : Ty) (l : List Tm) : (Tm.mk 2 i s l).up f b = .mk 2 i s (l.map (Tm.up (f + 1) b)) := by
  rw [Tm.up_mk, if_neg (fun h => by have := h.1; omega)]
  rfl
theorem inn_ne {k : Int} (hk : k ≠ 1) (h2 : k ≠ 2) (n i : Int) (a : Tm) (s : Ty) (l : List Tm) : Tm.inn n (Tm.mk k i s l) a = .mk k i s (l.map fun x => Tm.inn n x a) := by
  rw [Tm.inn_mk, if_neg hk]
  unfold lamB
  rw [if_neg h2, Int.add_zero]
theorem inn_lam (n i : Int) (a : Tm) (s : Ty) (l : List Tm) : Tm.inn n (Tm.mk 2 i s l) a = .mk 2 i s (l.map fun x => Tm.inn (n + 1) x a) := by
  rw [Tm.inn_mk, if_neg (by decide)]
  rfl
theorem var_get {g : List Ty} {t : Ty} {i j : Nat} (h : g[j]? = some t) (hi : i < g.length) (hj : g.length - 1 - i = j) : HasTy g (.mk 1 i .z []) t := .var i hi (by rw [hj]; exact h)

theorem HasTy.up {g : List Ty} {x : Tm} {t : Ty} (h : HasTy g x t) : ∀ g1 g2 e : List Ty, g = g1 ++ g2 → HasTy (g1 ++ e ++ g2) (x.up g2.length e.length) t := by
  induction h with
  | @var g t i h1 h2 =>
    rintro g1 g2 e rfl
    rw [Tm.up_mk, List.map_nil]
    rw [List.length_append] at h1
    by_cases hi : g2.length ≤ i
    · rw [if_pos ⟨rfl, by omega⟩, show (i : Int) + e.length = ((i + e.length : Nat) : Int) by push_cast; rfl]
      refine var_get (j := g1.length + g2.length - 1 - i) ?_ (by simp <;> omega) (by simp <;> omega)
      rw [List.length_append, List.getElem?_append_left (by omega)] at h2
      rw [List.append_assoc, List.getElem?_append_left (by omega)]
      exact h2
    · rw [if_neg (fun h => by have := h.2; omega)]
      refine var_get (j := g1.length + e.length + (g2.length - 1 - i)) ?_ (by simp <;> omega) (by simp <;> omega)
      rw [List.length_append, List.getElem?_append_right (by omega)] at h2
      rw [List.getElem?_append_right (by simp <;> omega)]
      rw [← h2]
      congr 1
      simp
      omega
  | @lam g s b t h1 _ ih =>
    rintro g1 g2 e rfl
    have := ih g1 (g2 ++ [s]) e (by rw [List.append_assoc])
    rw [up_lam]
    refine .lam h1 ?_
    rw [List.length_append, ← List.append_assoc] at this
    exact this
  | app _ _ ih1 ih2 => intro g1 g2 e hg; rw [up_ne (by decide) (by decide)]; exact .app (ih1 g1 g2 e hg) (ih2 g1 g2 e hg)
  | zero => intro g1 g2 e hg; rw [up_ne (by decide) (by decide)]; exact .zero
  | succ _ ih => intro g1 g2 e hg; rw [up_ne (by decide) (by decide)]; exact .succ (ih g1 g2 e hg)
  | recN h1 _ _ _ ih1 ih2 ih3 => intro g1 g2 e hg; rw [up_ne (by decide) (by decide)]; exact .recN h1 (ih1 g1 g2 e hg) (ih2 g1 g2 e hg) (ih3 g1 g2 e hg)
  | nil => intro g1 g2 e hg; rw [up_ne (by decide) (by decide)]; exact .nil
  | cons _ _ ih1 ih2 => intro g1 g2 e hg; rw [up_ne (by decide) (by decide)]; exact .cons (ih1 g1 g2 e hg) (ih2 g1 g2 e hg)
  | fold h1 _ _ _ ih1 ih2 ih3 => intro g1 g2 e hg; rw [up_ne (by decide) (by decide)]; exact .fold h1 (ih1 g1 g2 e hg) (ih2 g1 g2 e hg) (ih3 g1 g2 e hg)
  | pair h1 _ _ ih1 ih2 => intro g1 g2 e hg; rw [up_ne (by decide) (by decide)]; exact .pair h1 (ih1 g1 g2 e hg) (ih2 g1 g2 e hg)
  | fst _ ih => intro g1 g2 e hg; rw [up_ne (by decide) (by decide)]; exact .fst (ih g1 g2 e hg)
  | snd _ ih => intro g1 g2 e hg; rw [up_ne (by decide) (by decide)]; exact .snd (ih g1 g2 e hg)
  | unit => intro g1 g2 e hg; rw [up_ne (by decide) (by decide)]; exact .unit

theorem HasTy.inn {g : List Ty} {x : Tm} {t : Ty} (h : HasTy g x t) : ∀ (g1 : List Ty) (s : Ty) (g2 : List Ty) (a : Tm), g = g1 ++ [s] ++ g2 → HasTy g1 a s → HasTy (g1 ++ g2) (Tm.inn g2.length x a) t := by
  induction h with
  | @var g t i h1 h2 =>
    rintro g1 s g2 a rfl ha
    rw [Tm.inn_mk, if_pos rfl]
    unfold Tm.innVar
    simp only [List.length_append, List.length_cons, List.length_nil] at h1 h2
    by_cases he : (i : Int) = g2.length
    · rw [if_pos he]
      have hts : s = t := by
        rw [List.append_assoc, List.getElem?_append_right (by omega), List.getElem?_append_left (by simp <;> omega)] at h2
        rw [show g1.length + (0 + 1) + g2.length - 1 - i - g1.length = 0 by omega] at h2
        exact Option.some.inj h2
      subst hts
      have := ha.up g1 [] g2 (by simp)
      simpa using this
    · rw [if_neg he]
      by_cases hi : (g2.length : Int) < i
      · rw [if_pos hi, show (i : Int) - 1 = ((i - 1 : Nat) : Int) by omega]
        refine var_get (j := g1.length + g2.length - i) ?_ (by simp <;> omega) (by simp <;> omega)
        rw [List.append_assoc, List.getElem?_append_left (by omega)] at h2
        rw [List.getElem?_append_left (by omega), ← h2]
        congr 1
        omega
      · rw [if_neg hi]
        refine var_get (j := g1.length + (g2.length - 1 - i)) ?_ (by simp <;> omega) (by simp <;> omega)
        rw [List.getElem?_append_right (by simp <;> omega)] at h2
        rw [List.getElem?_append_right (by omega), ← h2]
        congr 1
        simp
        omega
  | @lam g s b t h1 _ ih =>
    rintro g1 u g2 a rfl ha
    have := ih g1 u (g2 ++ [s]) a (by simp only [List.append_assoc]) ha
    rw [inn_lam]
    refine .lam h1 ?_
    rw [List.length_append, ← List.append_assoc] at this
    exact this
  | app _ _ ih1 ih2 => intro g1 s g2 a hg ha; rw [inn_ne (by decide) (by decide)]; exact .app (ih1 g1 s g2 a hg ha) (ih2 g1 s g2 a hg ha)
  | zero => intro g1 s g2 a hg ha; rw [inn_ne (by decide) (by decide)]; exact .zero
  | succ _ ih => intro g1 s g2 a hg ha; rw [inn_ne (by decide) (by decide)]; exact .succ (ih g1 s g2 a hg ha)
  | recN h1 _ _ _ ih1 ih2 ih3 => intro g1 s g2 a hg ha; rw [inn_ne (by decide) (by decide)]; exact .recN h1 (ih1 g1 s g2 a hg ha) (ih2 g1 s g2 a hg ha) (ih3 g1 s g2 a hg ha)
  | nil => intro g1 s g2 a hg ha; rw [inn_ne (by decide) (by decide)]; exact .nil
  | cons _ _ ih1 ih2 => intro g1 s g2 a hg ha; rw [inn_ne (by decide) (by decide)]; exact .cons (ih1 g1 s g2 a hg ha) (ih2 g1 s g2 a hg ha)
  | fold h1 _ _ _ ih1 ih2 ih3 => intro g1 s g2 a hg ha; rw [inn_ne (by decide) (by decide)]; exact .fold h1 (ih1 g1 s g2 a hg ha) (ih2 g1 s g2 a hg ha) (ih3 g1 s g2 a hg ha)
  | pair h1 _ _ ih1 ih2 => intro g1 s g2 a hg ha; rw [inn_ne (by decide) (by decide)]; exact .pair h1 (ih1 g1 s g2 a hg ha) (ih2 g1 s g2 a hg ha)
  | fst _ ih => intro g1 s g2 a hg ha; rw [inn_ne (by decide) (by decide)]; exact .fst (ih g1 s g2 a hg ha)
  | snd _ ih => intro g1 s g2 a hg ha; rw [inn_ne (by decide) (by decide)]; exact .snd (ih g1 s g2 a hg ha)
  | unit => intro g1 s g2 a hg ha; rw [inn_ne (by decide) (by decide)]; exact .unit

theorem Ty.fn_inj {a b c d : Ty} (h : Ty.fn a b = Ty.fn c d) : a = c ∧ b = d := by unfold Ty.fn at h; simpa using h
theorem Ty.pr_inj {a b c d : Ty} (h : Ty.pr a b = Ty.pr c d) : a = c ∧ b = d := by unfold Ty.pr at h; simpa using h

/-- A redex and what it becomes have one type. -/
theorem HasTy.contr {g : List Ty} {x : Tm} {t : Ty} (h : HasTy g x t) (hr : x.root = true) : HasTy g x.contr t := by
  cases h with
  | @app _ f a s _ h1 h2 =>
    have hk : f.kind = 2 := by simpa [Tm.root, Tm.kd] using hr
    generalize hq : Ty.fn s t = q at h1
    cases h1 <;> simp only [Tm.kind_mk] at hk <;> first | omega | skip
    rename_i s' b t' h3 h4
    obtain ⟨rfl, rfl⟩ := Ty.fn_inj hq
    have := h4.inn g s [] a (by simp) h2
    simpa [Tm.contr] using this
  | @recN _ _ b s n h1 h2 h3 h4 =>
    have hk : n.kind = 4 ∨ n.kind = 5 := by simpa [Tm.root, Tm.kd] using hr
    cases h4 <;> simp only [Tm.kind_mk] at hk <;> first | omega | skip
    · simpa [Tm.contr] using h2
    · rename_i m h5
      have := HasTy.app (.app h3 h5) (HasTy.recN h1 h2 h3 h5)
      simpa [Tm.contr, appL, Ty.z] using this
  | @fold _ _ b s n h1 h2 h3 h4 =>
    have hk : n.kind = 7 ∨ n.kind = 8 := by simpa [Tm.root, Tm.kd] using hr
    cases h4 <;> simp only [Tm.kind_mk] at hk <;> first | omega | skip
    · simpa [Tm.contr] using h2
    · rename_i u v h5 h6
      have := HasTy.app (.app (.app h3 h5) h6) (HasTy.fold h1 h2 h3 h6)
      simpa [Tm.contr, appL, Ty.z] using this
  | @fst _ a s t' h1 =>
    have hk : a.kind = 10 := by simpa [Tm.root, Tm.kd] using hr
    generalize hq : Ty.pr t t' = q at h1
    cases h1 <;> simp only [Tm.kind_mk] at hk <;> first | omega | skip
    rename_i h3 h4 h5
    obtain ⟨rfl, rfl⟩ := Ty.pr_inj hq
    simpa [Tm.contr] using h4
  | @snd _ a s t' h1 =>
    have hk : a.kind = 10 := by simpa [Tm.root, Tm.kd] using hr
    generalize hq : Ty.pr s t = q at h1
    cases h1 <;> simp only [Tm.kind_mk] at hk <;> first | omega | skip
    rename_i h3 h4 h5
    obtain ⟨rfl, rfl⟩ := Ty.pr_inj hq
    simpa [Tm.contr] using h5
  | _ => simp [Tm.root] at hr

theorem stp_split {r k i : Int} {s : Ty} {l : List Tm} {x' : Tm} (h : (Tm.mk k i s l).stp r = some (some x')) :
    ((Tm.mk k i s l).root = true ∧ x' = (Tm.mk k i s l).contr) ∨ ∃ l', Tm.stpL r l = some (some l') ∧ x' = .mk k i s l' := by
  rw [Tm.stp_mk] at h
  by_cases hr : (Tm.mk k i s l).root = true
  · rw [if_pos hr] at h
    split at h
    · cases h
    · exact .inl ⟨hr, (Option.some.inj (Option.some.inj h)).symm⟩
  · rw [if_neg hr] at h
    cases e : Tm.stpL r l with
    | none => rw [e] at h; cases h
    | some o =>
      cases o with
      | none => rw [e] at h; cases h
      | some l' => rw [e] at h; exact .inr ⟨l', rfl, (Option.some.inj (Option.some.inj h)).symm⟩
theorem stpL_cons {r : Int} {a : Tm} {l l' : List Tm} (h : Tm.stpL r (a :: l) = some (some l')) : (∃ a', a.stp r = some (some a') ∧ l' = a' :: l) ∨ ∃ m, Tm.stpL r l = some (some m) ∧ l' = a :: m := by
  rw [Tm.stpL] at h
  cases e : a.stp r with
  | none => rw [e] at h; cases h
  | some o =>
    cases o with
    | some a' => rw [e] at h; exact .inl ⟨a', rfl, (Option.some.inj (Option.some.inj h)).symm⟩
    | none =>
      rw [e] at h
      dsimp only at h
      cases e2 : Tm.stpL r l with
      | none => rw [e2] at h; cases h
      | some o2 =>
        cases o2 with
        | none => rw [e2] at h; cases h
        | some m => rw [e2] at h; exact .inr ⟨m, rfl, (Option.some.inj (Option.some.inj h)).symm⟩
theorem stpL_nil {r : Int} {l' : List Tm} (h : Tm.stpL r [] = some (some l')) : False := by rw [Tm.stpL] at h; cases h

/-- A step keeps the type. -/
theorem HasTy.stp {r : Int} {g : List Ty} {x : Tm} {t : Ty} (h : HasTy g x t) : ∀ x', x.stp r = some (some x') → HasTy g x' t := by
  induction h with
  | var i h1 h2 =>
    intro x' hs
    rcases stp_split hs with ⟨hr, rfl⟩ | ⟨l', hl, rfl⟩
    · exact (HasTy.var i h1 h2).contr hr
    · exact (stpL_nil hl).elim
  | lam h1 h2 ih =>
    intro x' hs
    rcases stp_split hs with ⟨hr, rfl⟩ | ⟨l', hl, rfl⟩
    · exact (HasTy.lam h1 h2).contr hr
    · rcases stpL_cons hl with ⟨a', e1, hh⟩ | ⟨m, e1, hh⟩
      · subst_vars; exact .lam h1 (ih _ e1)
      · exact (stpL_nil e1).elim
  | app h1 h2 ih1 ih2 =>
    intro x' hs
    rcases stp_split hs with ⟨hr, rfl⟩ | ⟨l', hl, rfl⟩
    · exact (HasTy.app h1 h2).contr hr
    · rcases stpL_cons hl with ⟨a', e1, hh⟩ | ⟨m, e1, hh⟩
      · subst_vars; exact .app (ih1 _ e1) h2
      · rcases stpL_cons e1 with ⟨a', e2, hh⟩ | ⟨m, e2, hh⟩
        · subst_vars; exact .app h1 (ih2 _ e2)
        · exact (stpL_nil e2).elim
  | zero =>
    intro x' hs
    rcases stp_split hs with ⟨hr, rfl⟩ | ⟨l', hl, rfl⟩
    · exact HasTy.zero.contr hr
    · exact (stpL_nil hl).elim
  | succ h1 ih =>
    intro x' hs
    rcases stp_split hs with ⟨hr, rfl⟩ | ⟨l', hl, rfl⟩
    · exact (HasTy.succ h1).contr hr
    · rcases stpL_cons hl with ⟨a', e1, hh⟩ | ⟨m, e1, hh⟩
      · subst_vars; exact .succ (ih _ e1)
      · exact (stpL_nil e1).elim
  | recN h0 h1 h2 h3 ih1 ih2 ih3 =>
    intro x' hs
    rcases stp_split hs with ⟨hr, rfl⟩ | ⟨l', hl, rfl⟩
    · exact (HasTy.recN h0 h1 h2 h3).contr hr
    · rcases stpL_cons hl with ⟨a', e1, hh⟩ | ⟨m, e1, hh⟩
      · subst_vars; exact .recN h0 (ih1 _ e1) h2 h3
      · rcases stpL_cons e1 with ⟨a', e2, hh⟩ | ⟨m, e2, hh⟩
        · subst_vars; exact .recN h0 h1 (ih2 _ e2) h3
        · rcases stpL_cons e2 with ⟨a', e3, hh⟩ | ⟨m, e3, hh⟩
          · subst_vars; exact .recN h0 h1 h2 (ih3 _ e3)
          · exact (stpL_nil e3).elim
  | nil =>
    intro x' hs
    rcases stp_split hs with ⟨hr, rfl⟩ | ⟨l', hl, rfl⟩
    · exact HasTy.nil.contr hr
    · exact (stpL_nil hl).elim
  | cons h1 h2 ih1 ih2 =>
    intro x' hs
    rcases stp_split hs with ⟨hr, rfl⟩ | ⟨l', hl, rfl⟩
    · exact (HasTy.cons h1 h2).contr hr
    · rcases stpL_cons hl with ⟨a', e1, hh⟩ | ⟨m, e1, hh⟩
      · subst_vars; exact .cons (ih1 _ e1) h2
      · rcases stpL_cons e1 with ⟨a', e2, hh⟩ | ⟨m, e2, hh⟩
        · subst_vars; exact .cons h1 (ih2 _ e2)
        · exact (stpL_nil e2).elim
  | fold h0 h1 h2 h3 ih1 ih2 ih3 =>
    intro x' hs
    rcases stp_split hs with ⟨hr, rfl⟩ | ⟨l', hl, rfl⟩
    · exact (HasTy.fold h0 h1 h2 h3).contr hr
    · rcases stpL_cons hl with ⟨a', e1, hh⟩ | ⟨m, e1, hh⟩
      · subst_vars; exact .fold h0 (ih1 _ e1) h2 h3
      · rcases stpL_cons e1 with ⟨a', e2, hh⟩ | ⟨m, e2, hh⟩
        · subst_vars; exact .fold h0 h1 (ih2 _ e2) h3
        · rcases stpL_cons e2 with ⟨a', e3, hh⟩ | ⟨m, e3, hh⟩
          · subst_vars; exact .fold h0 h1 h2 (ih3 _ e3)
          · exact (stpL_nil e3).elim
  | pair h0 h1 h2 ih1 ih2 =>
    intro x' hs
    rcases stp_split hs with ⟨hr, rfl⟩ | ⟨l', hl, rfl⟩
    · exact (HasTy.pair h0 h1 h2).contr hr
    · rcases stpL_cons hl with ⟨a', e1, hh⟩ | ⟨m, e1, hh⟩
      · subst_vars; exact .pair h0 (ih1 _ e1) h2
      · rcases stpL_cons e1 with ⟨a', e2, hh⟩ | ⟨m, e2, hh⟩
        · subst_vars; exact .pair h0 h1 (ih2 _ e2)
        · exact (stpL_nil e2).elim
  | fst h1 ih =>
    intro x' hs
    rcases stp_split hs with ⟨hr, rfl⟩ | ⟨l', hl, rfl⟩
    · exact (HasTy.fst h1).contr hr
    · rcases stpL_cons hl with ⟨a', e1, hh⟩ | ⟨m, e1, hh⟩
      · subst_vars; exact .fst (ih _ e1)
      · exact (stpL_nil e1).elim
  | snd h1 ih =>
    intro x' hs
    rcases stp_split hs with ⟨hr, rfl⟩ | ⟨l', hl, rfl⟩
    · exact (HasTy.snd h1).contr hr
    · rcases stpL_cons hl with ⟨a', e1, hh⟩ | ⟨m, e1, hh⟩
      · subst_vars; exact .snd (ih _ e1)
      · exact (stpL_nil e1).elim
  | unit =>
    intro x' hs
    rcases stp_split hs with ⟨hr, rfl⟩ | ⟨l', hl, rfl⟩
    · exact HasTy.unit.contr hr
    · exact (stpL_nil hl).elim

theorem HasTy.norm {g : List Ty} {t : Ty} : ∀ (k : Nat) (m : Int) (x a : Tm) (n : Int), HasTy g x t → x.norm k m = (a, n, 0) → HasTy g a t
  | 0, m, x, a, n, hx, h => by
    rw [Tm.norm] at h
    split at h
    · obtain ⟨e1, _⟩ := Prod.mk.inj h
      rw [← e1]; exact hx
    · cases h
  | k + 1, m, x, a, n, hx, h => by
    rw [Tm.norm] at h
    split at h
    · cases h
    · obtain ⟨e1, _⟩ := Prod.mk.inj h
      rw [← e1]; exact hx
    · rename_i x' hs
      exact HasTy.norm k (m + 1) x' a n (hx.stp _ hs) h
end Go.Mdl
