/- A part of the proof of ReportTexts: contracts of functions of the program, and what they need. -/
import Derived.Test.YtgcimcppginchaaGreatDoorAbsL
/-
  The abstract layer, part M: two operations that do not wait for each other, exchanged.
-/
set_option linter.unusedSimpArgs false
set_option linter.unusedVariables false
namespace Go.Abs
open Go

theorem upd_comm {α : Type} (f : Nat → α) {i j : Nat} (h : i ≠ j) (x y : α) : upd (upd f i x) j y = upd (upd f j y) i x := by
  funext k
  simp only [upd]
  by_cases h1 : k = j
  · subst h1
    rw [if_pos rfl, if_neg (fun e => h e.symm), if_pos rfl]
  · rw [if_neg h1]
    by_cases h2 : k = i
    · rw [if_pos h2, if_pos h2]
    · rw [if_neg h2, if_neg h2, if_neg h1]

/-- A frame with a new box. -/
def allocFr (fr : Fr) (d : Nat) (cs : List AV) : Fr :=
  { fr with env := upd fr.env d (.lptr d (fr.gen d + 1) 0), box := upd fr.box d (some cs), gen := upd fr.gen d (fr.gen d + 1) }

def acells (P : Program) (T : Tabs) (fr : Fr) (o : Oper) : Option (List AV) :=
  match o.op with
  | .alloc t => zeroA P t
  | .box _ x => if notTuple (ev T fr x) = true then some (ev T fr x).cells else none
  | _ => none

/-- What an append comes to: a grown slice, or the same. -/
inductive AppOut where
  | grow (tag : Tag) (l m : List AV)
  | same (l : List AV)

def AppOut.fr (fr : Fr) (d : Nat) : AppOut → Fr
  | .grow tag l m => grown fr d tag l m
  | .same l => fr.put (some d) (.slice .frz l)

def AppIs (P : Program) (T : Tabs) (fr : Fr) (c : Call) (x : AppOut) : Prop :=
  ∃ s y t e sz tag tag' l m, c.args.toList = [s, y] ∧ c.argTypes.toList = [t, t] ∧ apOf P t = some (e, sz) ∧ ev T fr s = .slice tag l ∧ ev T fr y = .slice tag' m ∧ headOk sz l = true ∧ headOk sz m = true ∧ l.length + m.length ≤ growLim ∧
    (canGrow fr tag l = true ∧ x = .grow tag l m ∨ canGrow fr tag l = false ∧ m = [] ∧ x = .same l)

section
variable {P : Program} {T : Tabs} {E : List Nat} {ops : List Oper} {opsA : Array Oper} {q : Qt} {soft soft1 soft2 : Bool} {o o1 o2 : Oper} {K : Fr → Heap → Prop} {fr fr1 fr2 fr' : Fr} {H H1 H2 H' : Heap}

theorem app_inv {c : Call} {dst : Option Nat} (h : appendA P T c dst (fun f h => f = fr' ∧ h = H') fr H) : ∃ d x, dst = some d ∧ AppIs P T fr c x ∧ fr' = x.fr fr d ∧ H' = H := by
  unfold appendA at h
  split at h
  · rename_i d s y t t' hargs htys
    split at h
    · rename_i e sz tag l tag' m h1 h2 h3
      obtain ⟨rfl, g2, g3, g4, g5⟩ := h
      split at g5
      · rename_i hc
        exact ⟨d, .grow tag l m, rfl, ⟨s, y, t', e, sz, tag, tag', l, m, hargs, htys, h1, h2, h3, g2, g3, g4, .inl ⟨hc, rfl⟩⟩, g5.1.symm, g5.2.symm⟩
      · rename_i hc
        exact ⟨d, .same l, rfl, ⟨s, y, t', e, sz, tag, tag', l, m, hargs, htys, h1, h2, h3, g2, g3, g4, .inr ⟨by simpa using hc, g5.1, rfl⟩⟩, g5.2.1.symm, g5.2.2.symm⟩
    · exact h.elim
  · exact h.elim

theorem app_mk {c : Call} {d : Nat} {x : AppOut} (hx : AppIs P T fr c x) (hk : K (x.fr fr d) H) : appendA P T c (some d) K fr H := by
  obtain ⟨s, y, t, e, sz, tag, tag', l, m, h1, h2, h3, h4, h5, h6, h7, h8, h9⟩ := hx
  unfold appendA
  rw [h1, h2]
  simp only [h3, h4, h5]
  refine ⟨trivial, h6, h7, h8, ?_⟩
  rcases h9 with ⟨hc, rfl⟩ | ⟨hc, hm, rfl⟩
  · rw [if_pos hc]; exact hk
  · rw [if_neg (by simp [hc])]; exact ⟨hm, hk⟩

theorem AppIs.congr {c : Call} {x : AppOut} (hx : AppIs P T fr c x) (he : ∀ y ∈ c.args.toList, ev T fr y = ev T fr' y) (ht : fr'.tab = fr.tab) (hg : fr'.tgen = fr.tgen) : AppIs P T fr' c x := by
  obtain ⟨s, y, t, e, sz, tag, tag', l, m, h1, h2, h3, h4, h5, h6, h7, h8, h9⟩ := hx
  have hcg : canGrow fr' tag l = canGrow fr tag l := by unfold canGrow; rw [ht, hg]
  exact ⟨s, y, t, e, sz, tag, tag', l, m, h1, h2, h3, by rw [← he s (by rw [h1]; simp)]; exact h4, by rw [← he y (by rw [h1]; simp)]; exact h5, h6, h7, h8, by rw [hcg]; exact h9⟩

/-- The forms of a step, by its kind. -/
theorem drel_val (hc : clsOf E ops o = .val ∨ ∃ r, clsOf E ops o = .load r) (h : DRel P T E ops q soft o fr H fr' H') : ∃ v, dval P T E ops q soft fr H o = some v ∧ fr' = fr.put o.dst v ∧ H' = H := by
  unfold DRel at h
  obtain ⟨dst, op, type, pos, after, guard⟩ := o
  have key : ∀ {x : Option AV}, (match x with | some v => (fun f h => f = fr' ∧ h = H') (fr.put dst v) H | none => False) → ∃ v, x = some v ∧ fr' = fr.put dst v ∧ H' = H := by
    intro x hx
    split at hx
    · exact ⟨_, rfl, hx.1.symm, hx.2.symm⟩
    · exact hx.elim
  cases op with
  | alloc t => simp only [clsOf] at hc; split at hc <;> (try split at hc) <;> simp at hc
  | box t x => simp only [clsOf] at hc; split at hc <;> (try split at hc) <;> simp at hc
  | store t x y => simp [clsOf] at hc
  | call c =>
    obtain ⟨callee, args, tys⟩ := c
    cases callee with
    | builtin b => cases b <;> first | (simp [clsOf] at hc; done) | (simp only [dstep] at h; exact key h)
    | value f => simp [clsOf] at hc
    | invoke r m => simp [clsOf] at hc
  | _ => simp only [dstep] at h; exact key h

theorem dval_drel {v : AV} (h : dval P T E ops q soft fr H o = some v) : DRel P T E ops q soft o fr H (fr.put o.dst v) H := by
  unfold DRel
  obtain ⟨dst, op, type, pos, after, guard⟩ := o
  cases op with
  | alloc t => simp [dval] at h
  | box t x => simp [dval] at h
  | store t x y => simp [dval] at h
  | call c =>
    obtain ⟨callee, args, tys⟩ := c
    cases callee with
    | builtin b => cases b <;> first | (simp [dval] at h; done) | (simp only [dstep]; rw [h]; first | exact ⟨rfl, rfl⟩ | exact ⟨rfl, trivial⟩)
    | value f => simp [dval] at h
    | invoke r m => simp [dval] at h
  | _ => simp only [dstep]; rw [h]; first | exact ⟨rfl, rfl⟩ | exact ⟨rfl, trivial⟩

theorem drel_alloc {d : Option Nat} (hc : clsOf E ops o = .alloc d) (h : DRel P T E ops q soft o fr H fr' H') : ∃ d' cs, d = some d' ∧ o.dst = some d' ∧ E.contains d' = false ∧ acells P T fr o = some cs ∧ fr' = allocFr fr d' cs ∧ H' = H := by
  unfold DRel at h
  obtain ⟨dst, op, type, pos, after, guard⟩ := o
  have key : ∀ {cs : List AV} {d' : Nat}, dst = some d' → E.contains d' = false → allocA E dst cs (fun f h => f = fr' ∧ h = H') fr H → fr' = allocFr fr d' cs ∧ H' = H := by
    intro cs d' hd hE ha
    subst hd
    unfold allocA at ha
    simp only at ha
    rw [if_neg (by simp only [hE]; simp)] at ha
    exact ⟨ha.1.symm, ha.2.symm⟩
  have hdst : (∃ t, op = .alloc t) ∨ (∃ t x, op = .box t x) → ∃ d', d = some d' ∧ dst = some d' ∧ E.contains d' = false := by
    intro hop
    have : (match dst with | some d => if E.contains d = true then Cls.eff else .alloc (some d) | none => .eff) = .alloc d := by
      rcases hop with ⟨t, rfl⟩ | ⟨t, x, rfl⟩ <;> exact hc
    split at this
    · rename_i d'
      split at this
      · cases this
      · rename_i hE
        cases this
        exact ⟨d', rfl, rfl, by simpa using hE⟩
    · cases this
  cases op with
  | alloc t =>
    obtain ⟨d', h1, h2, h3⟩ := hdst (.inl ⟨t, rfl⟩)
    simp only [dstep] at h
    split at h
    · rename_i z hz
      obtain ⟨g1, g2⟩ := key h2 h3 h.2
      exact ⟨d', _, h1, h2, h3, by simp only [acells, hz], g1, g2⟩
    · exact h.elim
  | box t x =>
    obtain ⟨d', h1, h2, h3⟩ := hdst (.inr ⟨t, x, rfl⟩)
    simp only [dstep] at h
    obtain ⟨g1, g2⟩ := key h2 h3 h.2.2
    exact ⟨d', _, h1, h2, h3, by simp only [acells]; rw [if_pos h.1], g1, g2⟩
  | call c =>
    obtain ⟨callee, args, tys⟩ := c
    cases callee with
    | builtin b => cases b <;> simp [clsOf] at hc
    | value f => simp [clsOf] at hc
    | invoke r m => simp [clsOf] at hc
  | _ => simp [clsOf] at hc

theorem acells_drel {d : Nat} {cs : List AV} (hd : o.dst = some d) (hE : E.contains d = false) (h : acells P T fr o = some cs) : DRel P T E ops q soft o fr H (allocFr fr d cs) H := by
  unfold DRel
  obtain ⟨dst, op, type, pos, after, guard⟩ := o
  simp only at hd
  subst hd
  have key : ∀ cs, allocA E (some d) cs (fun f h => f = allocFr fr d cs ∧ h = H) fr H := by
    intro cs
    unfold allocA
    simp only
    rw [if_neg (by simp only [hE]; simp)]
    first | exact ⟨rfl, rfl⟩ | exact ⟨rfl, trivial⟩
  cases op with
  | alloc t =>
    simp only [acells] at h
    simp only [dstep, h]
    exact ⟨fun _ => by simpa using hE, key _⟩
  | box t x =>
    simp only [acells] at h
    split at h
    · rename_i hc
      cases h
      simp only [dstep]
      exact ⟨hc, fun _ => by simpa using hE, key _⟩
    · cases h
  | _ => simp [acells] at h

theorem acells_congr (h : ∀ x ∈ o.op.operands, ev T fr x = ev T fr' x) : acells P T fr o = acells P T fr' o := by
  obtain ⟨dst, op, type, pos, after, guard⟩ := o
  cases op with
  | box t x => simp only [acells]; rw [h x (by simp [Op.operands])]
  | _ => rfl

/-- What a call, or a new shared object, leaves. -/
theorem drel_eff (hc : clsOf E ops o = .eff) (h : DRel P T E ops q soft o fr H fr' H') :
    ∃ r, fr' = fr.put o.dst r ∧ (soft = true → QK q H H') ∧
      ∀ f : Fr, (∀ x ∈ o.op.operands, ev T fr x = ev T f x) → DRel P T E ops q soft o f H (f.put o.dst r) H' := by
  unfold DRel at h
  obtain ⟨dst, op, type, pos, after, guard⟩ := o
  have keyA : ∀ {cs : List AV}, ((∃ t, op = .alloc t) ∨ (∃ t x, op = .box t x)) → allocA E dst cs (fun f h => f = fr' ∧ h = H') fr H →
      ∃ d, dst = some d ∧ E.contains d = true ∧ fr' = fr.put dst (.gptr H.length 0) ∧ H' = H ++ [cs.map AV.ncell] ∧ ∀ f : Fr, allocA E dst cs (fun f' h => f' = f.put dst (.gptr H.length 0) ∧ h = H') f H := by
    intro cs hop ha
    have hm : (match dst with | some d => if E.contains d = true then Cls.eff else .alloc (some d) | none => .eff) = .eff := by
      rcases hop with ⟨t, rfl⟩ | ⟨t, x, rfl⟩ <;> exact hc
    unfold allocA at ha
    split at ha
    · rename_i d
      split at ha
      · rename_i hE
        refine ⟨d, rfl, hE, ha.1.symm, ha.2.symm, fun f => ?_⟩
        unfold allocA
        simp only
        rw [if_pos hE]
        exact ⟨rfl, ha.2⟩
      · rename_i hE
        simp only [if_neg hE] at hm
        cases hm
    · exact ha.elim
  cases op with
  | alloc t =>
    simp only [dstep] at h
    split at h
    · rename_i z hz
      obtain ⟨d, h1, h2, h3, h4, h5⟩ := keyA (.inl ⟨t, rfl⟩) h.2
      refine ⟨_, h3, ?_, fun f hf => ?_⟩
      · intro hs
        have := h.1 hs
        rw [h1] at this
        exact absurd this (by simp only [Option.any_some, h2]; simp)
      · unfold DRel
        simp only [dstep, hz]
        exact ⟨h.1, h5 f⟩
    · exact h.elim
  | box t x =>
    simp only [dstep] at h
    obtain ⟨d, h1, h2, h3, h4, h5⟩ := keyA (.inr ⟨t, x, rfl⟩) h.2.2
    refine ⟨_, h3, ?_, fun f hf => ?_⟩
    · intro hs
      have := h.2.1 hs
      rw [h1] at this
      exact absurd this (by simp only [Option.any_some, h2]; simp)
    · unfold DRel
      simp only [dstep]
      have e := hf x (by simp [Op.operands])
      refine ⟨by rw [← e]; exact h.1, h.2.1, ?_⟩
      rw [← e]
      exact h5 f
  | call c =>
    obtain ⟨callee, args, tys⟩ := c
    cases callee with
    | builtin b => cases b <;> simp [clsOf] at hc
    | value g =>
      simp only [dstep] at h
      obtain ⟨r, H'', h1, h2, h3, h4⟩ := h
      subst h4
      refine ⟨r, h3.symm, h2, fun f hf => ?_⟩
      unfold DRel
      simp only [dstep]
      refine ⟨r, H'', ?_, h2, rfl, rfl⟩
      have e1 : (args.toList.map fun x => (ev T fr x).norm) = args.toList.map fun x => (ev T f x).norm :=
        List.map_congr_left fun x hx => by rw [hf x (by simp [Op.operands, Call.operands, Array.mem_toList_iff.1 hx])]
      rw [← e1, ← hf g (by simp [Op.operands, Call.operands])]
      exact h1
    | invoke r m => simp only [dstep] at h
  | _ => simp [clsOf] at hc

theorem drel_app (hc : clsOf E ops o = .app) (h : DRel P T E ops q soft o fr H fr' H') :
    ∃ d x, o.dst = some d ∧ fr' = AppOut.fr fr d x ∧ H' = H ∧ ∀ (f : Fr) (h : Heap), (∀ x ∈ o.op.operands, ev T fr x = ev T f x) → f.tab = fr.tab → f.tgen = fr.tgen → DRel P T E ops q soft o f h (AppOut.fr f d x) h := by
  unfold DRel at h
  obtain ⟨dst, op, type, pos, after, guard⟩ := o
  cases op with
  | call c =>
    obtain ⟨callee, args, tys⟩ := c
    cases callee with
    | builtin b =>
      cases b with
      | append =>
        simp only [dstep] at h
        obtain ⟨d, x, h1, h2, h3, h4⟩ := app_inv h
        subst h1
        refine ⟨d, x, rfl, h3, h4, fun f h he ht hg => ?_⟩
        unfold DRel
        simp only [dstep]
        refine app_mk (h2.congr (fun y hy => he y ?_) ht hg) ⟨rfl, rfl⟩
        simp only at hy
        simp [Op.operands, Call.operands, Array.mem_toList_iff.1 hy]
      | _ => simp [clsOf] at hc
    | value g => simp [clsOf] at hc
    | invoke r m => simp [clsOf] at hc
  | alloc t => simp only [clsOf] at hc; split at hc <;> (try split at hc) <;> simp at hc
  | box t x => simp only [clsOf] at hc; split at hc <;> (try split at hc) <;> simp at hc
  | _ => simp [clsOf] at hc

/-- What a store leaves. -/
theorem drel_sto {r : Option Nat} (hc : clsOf E ops o = .sto r) (h : DRel P T E ops q soft o fr H fr' H') : fr'.env = fr.env ∧ fr'.gen = fr.gen ∧ fr'.tab = fr.tab ∧ fr'.tgen = fr.tgen ∧ o.dst = none ∧
    (∀ b, r ≠ some b → fr'.box b = fr.box b) ∧ (soft = true → H' = H) := by
  unfold DRel at h
  obtain ⟨dst, op, type, pos, after, guard⟩ := o
  cases op with
  | store t x y =>
    simp only [clsOf, Cls.sto.injEq] at hc
    simp only [dstep] at h
    obtain ⟨h1, h2, h3, h4⟩ := h
    unfold storeA at h4
    split at h4
    · exact h4.elim
    · split at h4
      · rename_i b g off hx
        split at h4
        · obtain ⟨_, _, _, _, g1, g2⟩ := h4
          subst g1; subst g2
          refine ⟨rfl, rfl, rfl, rfl, h1, fun b' hb' => ?_, fun _ => rfl⟩
          have : r = some b := by
            rw [hx] at h2
            simp only [rootChk, beq_iff_eq] at h2
            rw [← hc]; exact h2
          subst this
          show upd fr.box b _ b' = fr.box b'
          rw [upd_ne]
          rintro rfl
          exact hb' rfl
        · exact h4.elim
      · rename_i o' off hx
        split at h4
        · obtain ⟨_, _, _, _, g1, g2⟩ := h4
          subst g1; subst g2
          refine ⟨rfl, rfl, rfl, rfl, h1, fun _ _ => rfl, fun hs => ?_⟩
          have := h3 hs
          rw [hx] at this
          simp [isL] at this
        · exact h4.elim
      · exact h4.elim
  | call c =>
    obtain ⟨callee, args, tys⟩ := c
    cases callee with
    | builtin b => cases b <;> simp [clsOf] at hc
    | value g => simp [clsOf] at hc
    | invoke r m => simp [clsOf] at hc
  | alloc t => simp only [clsOf] at hc; split at hc <;> (try split at hc) <;> simp at hc
  | box t x => simp only [clsOf] at hc; split at hc <;> (try split at hc) <;> simp at hc
  | _ => simp [clsOf] at hc

theorem put_self (fr : Fr) (d : Nat) : fr.put (some d) (fr.env d) = fr := by
  simp only [Fr.put]
  have : upd fr.env d (fr.env d) = fr.env := by
    funext j
    simp only [upd]
    split
    · rename_i h; rw [h]
    · rfl
  rw [this]

theorem put_put (fr : Fr) (d : Nat) (x y : AV) : (fr.put (some d) x).put (some d) y = fr.put (some d) y := by
  simp only [Fr.put, upd_upd]

/-- Behind a step: what it has left alone. -/
structure Left (c : Cls) (dst : Option Nat) (soft : Bool) (q : Qt) (fr : Fr) (H : Heap) (fr' : Fr) (H' : Heap) : Prop where
  env : ∀ t, dst ≠ some t → fr'.env t = fr.env t
  box : ∀ b, c ≠ .alloc (some b) → c ≠ .sto (some b) → fr'.box b = fr.box b ∧ fr'.gen b = fr.gen b
  heap : c ≠ .eff → (∀ r, c = .sto r → soft = true) → H' = H
  quiet : soft = true → QK q H H'

theorem AppOut.left (fr : Fr) (d : Nat) (x : AppOut) : (∀ t, t ≠ d → (AppOut.fr fr d x).env t = fr.env t) ∧ (AppOut.fr fr d x).box = fr.box ∧ (AppOut.fr fr d x).gen = fr.gen := by
  cases x with
  | grow tag l m => exact ⟨fun t ht => by show upd _ _ _ t = _; rw [upd_ne _ _ _ _ ht], rfl, rfl⟩
  | same l => exact ⟨fun t ht => by show upd _ _ _ t = _; rw [upd_ne _ _ _ _ ht], rfl, rfl⟩

theorem drel_left (h : DRel P T E ops q soft o fr H fr' H') : Left (clsOf E ops o) o.dst soft q fr H fr' H' := by
  have penv : ∀ (v : AV) (t : Nat), o.dst ≠ some t → (fr.put o.dst v).env t = fr.env t := by
    intro v t ht
    rw [Fr.put_env, if_neg ht]
  cases hc : clsOf E ops o with
  | val =>
    obtain ⟨v, _, rfl, rfl⟩ := drel_val (.inl hc) h
    obtain ⟨e1, e2, _, _⟩ := Fr.put_rest fr o.dst v
    exact ⟨penv v, fun b _ _ => ⟨by rw [e1], by rw [e2]⟩, fun _ _ => rfl, fun _ => .refl⟩
  | load r =>
    obtain ⟨v, _, rfl, rfl⟩ := drel_val (.inr ⟨r, hc⟩) h
    obtain ⟨e1, e2, _, _⟩ := Fr.put_rest fr o.dst v
    exact ⟨penv v, fun b _ _ => ⟨by rw [e1], by rw [e2]⟩, fun _ _ => rfl, fun _ => .refl⟩
  | alloc d =>
    obtain ⟨d', cs, rfl, hd, _, _, rfl, rfl⟩ := drel_alloc hc h
    refine ⟨fun t ht => ?_, fun b hb _ => ?_, fun _ _ => rfl, fun _ => .refl⟩
    · show upd _ _ _ t = _
      rw [upd_ne]
      rintro rfl
      exact ht hd
    · have hne : b ≠ d' := by rintro rfl; exact hb rfl
      exact ⟨upd_ne _ _ _ _ hne, upd_ne _ _ _ _ hne⟩
  | eff =>
    obtain ⟨r, rfl, hq, _⟩ := drel_eff hc h
    obtain ⟨e1, e2, _, _⟩ := Fr.put_rest fr o.dst r
    exact ⟨penv r, fun b _ _ => ⟨by rw [e1], by rw [e2]⟩, fun hn _ => absurd rfl hn, hq⟩
  | app =>
    obtain ⟨d, x, hd, rfl, rfl, _⟩ := drel_app hc h
    obtain ⟨g1, g2, g3⟩ := AppOut.left fr d x
    exact ⟨fun t ht => g1 t (by rintro rfl; exact ht hd), fun b _ _ => ⟨by rw [g2], by rw [g3]⟩, fun _ _ => rfl, fun _ => .refl⟩
  | sto r =>
    obtain ⟨e1, e2, e3, e4, e5, e6, e7⟩ := drel_sto hc h
    exact ⟨fun t _ => by rw [e1], fun b _ hb => ⟨e6 b (fun e => hb (by rw [e])), by rw [e2]⟩, fun _ hs => e7 (hs r rfl), fun hs => by rw [e7 hs]; exact .refl⟩

/-- The step in a frame with another value in a slot that it does not look at. -/
theorem drel_put {d : Nat} (v : AV) (hd : d ∉ o.looksAt opsA) (hne : o.dst ≠ some d) (h : DRel P T E ops q soft o fr H fr' H') : DRel P T E ops q soft o (fr.put (some d) v) H (fr'.put (some d) v) H' := by
  have h0 : dstep P T E ops q soft o (fun f h => f = fr' ∧ h = H') ((fr.put (some d) v).put (some d) (fr.env d)) H := by
    rw [put_put, put_self]
    exact h
  obtain ⟨f, h', h1, h2, h3⟩ := dstep_out (dstep_put (opsA := opsA) hd hne h0)
  subst h3
  have he := (drel_left h1).env d hne
  have hf : f = fr'.put (some d) v := by
    rw [← h2, put_put]
    have : (fr.put (some d) v).env d = v := by rw [Fr.put_env, if_pos rfl]
    rw [this] at he
    rw [← he, put_self]
  rw [← hf]
  exact h1

theorem drel_unput {d : Nat} {v : AV} (hd : d ∉ o.looksAt opsA) (hne : o.dst ≠ some d) (h : DRel P T E ops q soft o (fr.put (some d) v) H fr' H') : ∃ f, DRel P T E ops q soft o fr H f H' ∧ f.put (some d) v = fr' := by
  obtain ⟨f, h', h1, h2, h3⟩ := dstep_out (dstep_put (opsA := opsA) hd hne h)
  subst h3
  exact ⟨f, h1, h2⟩

theorem looks_of {x : Operand} {t : Nat} (hx : x ∈ o.op.operands) (ht : x = .tmp t) : t ∈ o.looksAt opsA := by
  subst ht
  exact List.mem_append_left _ (List.mem_filterMap.2 ⟨.tmp t, by simpa using hx, rfl⟩)

/-- What another step that does not touch its slots leaves an operation to look at. -/
theorem ev_left {c : Cls} {dst : Option Nat} (hl : Left c dst soft q fr H fr' H') (ha : ∀ d, dst = some d → d ∉ o.looksAt opsA) : ∀ x ∈ o.op.operands, ev T fr x = ev T fr' x := by
  intro x hx
  refine ev_congr fun t ht => ?_
  rw [hl.env]
  intro hd
  exact ha t hd (looks_of hx ht)

/-- A value is the same before and behind another step. -/
theorem dval_left {c : Cls} {dst : Option Nat} (hl : Left c dst soft2 q fr H fr' H') (ha : ∀ d, dst = some d → d ∉ o.looksAt opsA) (hcls : clsOk (clsOf E ops o) c = true)
    (hs : ∀ r, clsOf E ops o = .load r → (c = .eff → soft = true ∧ soft2 = true) ∧ (∀ r', c = .sto r' → soft2 = true)) {v : AV} (hv : dval P T E ops q soft fr H o = some v ∨ dval P T E ops q soft fr' H' o = some v) :
    dval P T E ops q soft fr H o = dval P T E ops q soft fr' H' o := by
  have hev := ev_left (T := T) (opsA := opsA) hl ha
  by_cases hload : ∃ t x, o.op = .load t x
  · obtain ⟨t, x, hop⟩ := hload
    have hx := hev x (by rw [hop]; simp [Op.operands])
    have hcl : clsOf E ops o = .load (rootOp ops x) := by unfold clsOf; rw [hop]
    obtain ⟨hs1, hs2⟩ := hs _ hcl
    rw [hcl] at hcls
    -- the checks hold
    have hchk : rootChk ops x (ev T fr x) = true ∧ (!soft || q.ok (ev T fr x)) = true := by
      have : ∀ (f : Fr) (h : Heap), dval P T E ops q soft f h o = some v → ev T f x = ev T fr x → rootChk ops x (ev T fr x) = true ∧ (!soft || q.ok (ev T fr x)) = true := by
        intro f h hv he
        unfold dval at hv
        rw [hop] at hv
        simp only at hv
        split at hv
        · rename_i hc
          rw [he] at hc
          simpa using hc
        · cases hv
      rcases hv with hv | hv
      · exact this fr H hv rfl
      · exact this fr' H' hv hx.symm
    refine dval_congr hev (fun t' x' he => ?_) (fun _ _ _ _ he => by rw [hop] at he; cases he)
    rw [hop] at he
    injection he with e1 e2
    subst e1; subst e2
    refine ⟨fun b g off hb => ?_, fun o' off' hg => ?_⟩
    · have hroot : rootOp ops x = some b := by
        have := hchk.1
        rw [hb] at this
        simpa [rootChk] using this
      rw [hroot] at hcls
      have := hl.box b (by rintro rfl; simp [clsOk] at hcls) (by rintro rfl; simp [clsOk] at hcls)
      exact ⟨this.1.symm, this.2.symm⟩
    · by_cases he : c = .eff
      · obtain ⟨g1, g2⟩ := hs1 he
        have hq : q.all = true ∨ q.st o' = true := by
          have := hchk.2
          rw [g1, hg] at this
          simpa [Qt.ok] using this
        rcases hq with hq | hq
        · rw [(hl.quiet g2).1 hq]
        · exact ((hl.quiet g2).2 o' hq).symm
      · rw [hl.heap he hs2]
  · refine dval_congr hev (fun t x he => absurd ⟨t, x, he⟩ hload) fun t x i ok hop => ?_
    have hcl : clsOf E ops o = .load none := by unfold clsOf; rw [hop]
    obtain ⟨hs1, hs2⟩ := hs _ hcl
    have hq : (!soft || q.all) = true := by
      have : ∀ (f : Fr) (h : Heap), dval P T E ops q soft f h o = some v → (!soft || q.all) = true := by
        intro f h hv
        unfold dval at hv
        rw [hop] at hv
        simp only at hv
        split at hv
        · rename_i hc; exact hc
        · cases hv
      rcases hv with hv | hv
      · exact this _ _ hv
      · exact this _ _ hv
    by_cases he : c = .eff
    · obtain ⟨g1, g2⟩ := hs1 he
      rw [g1] at hq
      exact ((hl.quiet g2).1 (by simpa using hq)).symm
    · exact (hl.heap he hs2).symm

theorem allocFr_comm (fr : Fr) {d d' : Nat} (h : d ≠ d') (cs cs' : List AV) : allocFr (allocFr fr d cs) d' cs' = allocFr (allocFr fr d' cs') d cs := by
  simp only [allocFr, upd_ne _ _ _ _ h, upd_ne _ _ _ _ h.symm]
  rw [upd_comm fr.env h, upd_comm fr.box h, upd_comm fr.gen h]

theorem allocFr_put (fr : Fr) {d : Nat} {d2 : Option Nat} (h : d2 ≠ some d) (cs : List AV) (r : AV) : (allocFr fr d cs).put d2 r = allocFr (fr.put d2 r) d cs := by
  cases d2 with
  | none => rfl
  | some d' =>
    have hne : d ≠ d' := fun e => h (by rw [e])
    simp only [allocFr, Fr.put]
    rw [upd_comm fr.env hne]

theorem app_put (fr : Fr) {d : Nat} {d2 : Option Nat} (h : d2 ≠ some d) (x : AppOut) (r : AV) : AppOut.fr (fr.put d2 r) d x = (AppOut.fr fr d x).put d2 r := by
  cases d2 with
  | none => rfl
  | some d' =>
    have hne : d' ≠ d := fun e => h (by rw [e])
    cases x with
    | grow tag l m =>
      simp only [AppOut.fr, grown, Fr.put]
      rw [upd_comm fr.env hne]
    | same l => exact put_put_comm fr hne r (.slice .frz l)

theorem allocFr_app (fr : Fr) {d d' : Nat} (h : d ≠ d') (cs : List AV) (x : AppOut) : AppOut.fr (allocFr fr d cs) d' x = allocFr (AppOut.fr fr d' x) d cs := by
  cases x with
  | grow tag l m =>
    simp only [AppOut.fr, grown, allocFr]
    rw [upd_comm fr.env h]
  | same l =>
    simp only [AppOut.fr, Fr.put, allocFr]
    rw [upd_comm fr.env h]

/-- Two steps that do not wait for each other, exchanged. -/
theorem drel_swap (hap : o1.apart opsA o2 = true) (hcls : clsOk (clsOf E ops o1) (clsOf E ops o2) = true)
    (hs1 : ∀ r, clsOf E ops o1 = .load r → (clsOf E ops o2 = .eff → soft1 = true ∧ soft2 = true) ∧ (∀ r', clsOf E ops o2 = .sto r' → soft2 = true))
    (hs2 : ∀ r, clsOf E ops o2 = .load r → (clsOf E ops o1 = .eff → soft2 = true ∧ soft1 = true) ∧ (∀ r', clsOf E ops o1 = .sto r' → soft1 = true))
    (h1 : DRel P T E ops q soft1 o1 fr H fr1 H1) (h2 : DRel P T E ops q soft2 o2 fr1 H1 fr2 H2) :
    ∃ f h, DRel P T E ops q soft2 o2 fr H f h ∧ DRel P T E ops q soft1 o1 f h fr2 H2 := by
  obtain ⟨a1, a2, a3⟩ := Oper.apart_spec hap
  -- the first one only computes
  by_cases hv1 : clsOf E ops o1 = .val ∨ ∃ r, clsOf E ops o1 = .load r
  · obtain ⟨v, hv, hfr, hH⟩ := drel_val hv1 h1
    subst hH
    have hun : ∃ f, DRel P T E ops q soft2 o2 fr H1 f H2 ∧ f.put o1.dst v = fr2 := by
      cases hd : o1.dst with
      | none => rw [hd] at hfr; subst hfr; exact ⟨fr2, h2, rfl⟩
      | some d => rw [hd] at hfr; subst hfr; exact drel_unput (opsA := opsA) (a1 d hd) (a2 d hd) h2
    obtain ⟨f, hf1, hf2⟩ := hun
    have hcls' : clsOk (clsOf E ops o1) (clsOf E ops o2) = true := hcls
    have := dval_left (o := o1) (soft := soft1) (drel_left hf1) a3 hcls' hs1 (.inl hv)
    refine ⟨f, H2, hf1, ?_⟩
    rw [← hf2]
    exact dval_drel (by rw [← this]; exact hv)
  · -- the second one only computes
    by_cases hv2 : clsOf E ops o2 = .val ∨ ∃ r, clsOf E ops o2 = .load r
    · obtain ⟨v, hv, hfr, hH⟩ := drel_val hv2 h2
      subst hH
      have hcls' : clsOk (clsOf E ops o2) (clsOf E ops o1) = true := by
        revert hcls
        cases clsOf E ops o1 <;> cases clsOf E ops o2 <;> simp [clsOk] <;> (intro h e; exact h e.symm)
      have := dval_left (o := o2) (soft := soft2) (drel_left h1) a1 hcls' hs2 (.inr hv)
      refine ⟨fr.put o2.dst v, H, dval_drel (by rw [this]; exact hv), ?_⟩
      rw [hfr]
      cases hd : o2.dst with
      | none => exact h1
      | some d => exact drel_put (opsA := opsA) v (a3 d hd) (fun e => a2 d e hd) h1
    · -- neither
      have hl1 := drel_left h1
      have hev2 : ∀ x ∈ o2.op.operands, ev T fr x = ev T fr1 x := ev_left (T := T) (opsA := opsA) hl1 a1
      have hev1 : ∀ {f : Fr} {h : Heap} (hf : DRel P T E ops q soft2 o2 fr H f h), ∀ x ∈ o1.op.operands, ev T fr x = ev T f x := fun hf => ev_left (T := T) (opsA := opsA) (drel_left hf) a3
      cases hc1 : clsOf E ops o1 with
      | val => exact absurd (.inl hc1) hv1
      | load r => exact absurd (.inr ⟨r, hc1⟩) hv1
      | sto r =>
        rw [hc1] at hcls
        cases hc2 : clsOf E ops o2 with
        | val => exact absurd (.inl hc2) hv2
        | load r' => exact absurd (.inr ⟨r', hc2⟩) hv2
        | _ => rw [hc2] at hcls; simp [clsOk] at hcls
      | alloc d1 =>
        obtain ⟨d, cs, rfl, hd, hE1, hcs, hfr, hH⟩ := drel_alloc hc1 h1
        subst hH
        have back : ∀ {f : Fr} {h : Heap} (hf : DRel P T E ops q soft2 o2 fr H1 f h), DRel P T E ops q soft1 o1 f h (allocFr f d cs) h := fun hf =>
          acells_drel hd hE1 (by rw [← acells_congr (hev1 hf)]; exact hcs)
        cases hc2 : clsOf E ops o2 with
        | val => exact absurd (.inl hc2) hv2
        | load r => exact absurd (.inr ⟨r, hc2⟩) hv2
        | sto r => rw [hc1, hc2] at hcls; simp [clsOk] at hcls
        | alloc d2 =>
          obtain ⟨d', cs', rfl, hd', hE2, hcs', hfr', hH'⟩ := drel_alloc hc2 h2
          subst hH'
          have hdd : d ≠ d' := fun e => a2 d hd (by rw [hd', e])
          have hn : DRel P T E ops q soft2 o2 fr H2 (allocFr fr d' cs') H2 := acells_drel hd' hE2 (by rw [acells_congr hev2]; exact hcs')
          refine ⟨_, _, hn, ?_⟩
          rw [hfr', hfr, allocFr_comm fr hdd]
          exact back hn
        | eff =>
          obtain ⟨r, hfr', _, hall⟩ := drel_eff hc2 h2
          have hn := hall fr fun x hx => (hev2 x hx).symm
          refine ⟨_, _, hn, ?_⟩
          rw [hfr', hfr, allocFr_put fr (fun e => a2 d hd e)]
          exact back hn
        | app =>
          obtain ⟨d', x, hd', hfr', hH', hall⟩ := drel_app hc2 h2
          subst hH'
          have hdd : d ≠ d' := fun e => a2 d hd (by rw [hd', e])
          have hn := hall fr H2 (fun x hx => (hev2 x hx).symm) (by rw [hfr]; rfl) (by rw [hfr]; rfl)
          refine ⟨_, _, hn, ?_⟩
          rw [hfr', hfr, allocFr_app fr hdd]
          exact back hn
      | eff =>
        obtain ⟨r, hfr, _, hall1⟩ := drel_eff hc1 h1
        cases hc2 : clsOf E ops o2 with
        | val => exact absurd (.inl hc2) hv2
        | load r => exact absurd (.inr ⟨r, hc2⟩) hv2
        | sto r => rw [hc1, hc2] at hcls; simp [clsOk] at hcls
        | eff => rw [hc1, hc2] at hcls; simp [clsOk] at hcls
        | alloc d2 =>
          obtain ⟨d', cs', rfl, hd', hE2, hcs', hfr', hH'⟩ := drel_alloc hc2 h2
          subst hH'
          have hn : DRel P T E ops q soft2 o2 fr H (allocFr fr d' cs') H := acells_drel hd' hE2 (by rw [acells_congr hev2]; exact hcs')
          refine ⟨_, _, hn, ?_⟩
          rw [hfr', hfr, ← allocFr_put fr (fun e => a2 d' e hd')]
          exact hall1 _ fun x hx => hev1 hn x hx
        | app =>
          obtain ⟨d', x, hd', hfr', hH', hall⟩ := drel_app hc2 h2
          subst hH'
          obtain ⟨e1, e2, e3, e4⟩ := Fr.put_rest fr o1.dst r
          have hn := hall fr H (fun x hx => (hev2 x hx).symm) (by rw [hfr, e3]) (by rw [hfr, e4])
          refine ⟨_, _, hn, ?_⟩
          rw [hfr', hfr, app_put fr (fun e => a2 d' e hd')]
          exact hall1 _ fun x hx => hev1 hn x hx
      | app =>
        obtain ⟨d, x, hd, hfr, hH, hall1⟩ := drel_app hc1 h1
        subst hH
        cases hc2 : clsOf E ops o2 with
        | val => exact absurd (.inl hc2) hv2
        | load r => exact absurd (.inr ⟨r, hc2⟩) hv2
        | sto r => rw [hc1, hc2] at hcls; simp [clsOk] at hcls
        | app => rw [hc1, hc2] at hcls; simp [clsOk] at hcls
        | alloc d2 =>
          obtain ⟨d', cs', rfl, hd', hE2, hcs', hfr', hH'⟩ := drel_alloc hc2 h2
          subst hH'
          have hdd : d' ≠ d := fun e => a2 d hd (by rw [hd', e])
          have hn : DRel P T E ops q soft2 o2 fr H2 (allocFr fr d' cs') H2 := acells_drel hd' hE2 (by rw [acells_congr hev2]; exact hcs')
          refine ⟨_, _, hn, ?_⟩
          rw [hfr', hfr, ← allocFr_app fr hdd]
          exact hall1 _ _ (fun y hy => hev1 hn y hy) rfl rfl
        | eff =>
          obtain ⟨r, hfr', _, hall⟩ := drel_eff hc2 h2
          have hn := hall fr fun y hy => (hev2 y hy).symm
          obtain ⟨e1, e2, e3, e4⟩ := Fr.put_rest fr o2.dst r
          refine ⟨_, _, hn, ?_⟩
          rw [hfr', hfr, ← app_put fr (fun e => a2 d hd e)]
          exact hall1 _ _ (fun y hy => hev1 hn y hy) e3 e4

end
end Go.Abs

/-
  The abstract layer, part N: a region that draws its order, walked in the order of its text.
-/
namespace Go.Abs
open Go

/-- Whether an operation of a region is carried out. -/
def guardA (opsA : Array Oper) (o : Oper) (fr : Fr) : Option Bool :=
  match o.guard with
  | none => some true
  | some (j, want) =>
    match (opsA[j]?).bind (·.dst) with
    | some d => match fr.env d with
      | .sc (.bool b) => some (b == want)
      | .tuple _ => some false
      | _ => none
    | none => none

/-- An append whose row is a shared object, or a call of whose result only something is known, as E tells. -/
def isApg (E : List Nat) (o : Oper) : Bool :=
  match o.op with
  | .call c => (match c.callee with
    | .builtin .append => o.dst.any E.contains
    | .value _ => o.dst.any E.contains
    | _ => false)
  | _ => false
def isV (c : Call) : Bool :=
  match c.callee with
  | .value _ => true
  | _ => false
/-- A call of whose result only something is known. -/
def relG (P : Program) (T : Tabs) (q : Qt) (soft : Bool) (fv : AV) (as : List AV) (dst : Option Nat) (K : Fr → Heap → Prop) (fr : Fr) (H : Heap) : Prop :=
  ∃ Post : AV → Heap → Prop, AInvoke P T fv as H Post ∧ (∃ r h, Post r h) ∧ ∀ r h, Post r h → (soft = true → QK q H h) ∧ K (fr.put dst r) h
def growG (P : Program) (T : Tabs) (q : Qt) (soft : Bool) (c : Call) (dst : Option Nat) (K : Fr → Heap → Prop) (fr : Fr) (H : Heap) : Prop :=
  match c.callee with
  | .value f => relG P T q soft (ev T fr f) (c.args.toList.map fun x => (ev T fr x).norm) dst K fr H
  | _ => appendG P T c dst K fr H

/-- Where stores are exchanged (E has 999999) each object is written by one address alone, as q tells. -/
def farV (E : List Nat) (q : Qt) (x : Operand) (v : AV) : Prop := E.contains 999999 = true → ∃ ob off t, v = .gptr ob off ∧ x = .tmp t ∧ q.cl ob = t
@[simp] theorem farV_gptr (E : List Nat) (q : Qt) (t ob off : Nat) : farV E q (.tmp t) (.gptr ob off) = (E.contains 999999 = true → q.cl ob = t) := by
  refine propext ⟨fun h hE => ?_, fun h hE => ⟨ob, off, t, rfl, rfl, h hE⟩⟩
  obtain ⟨ob', off', t', e1, e2, e3⟩ := h hE
  injection e1 with e1
  injection e2 with e2
  subst e1; subst e2
  exact e3
@[simp] theorem farV_no {E : List Nat} {q : Qt} {x : Operand} {v : AV} (h : E.contains 999999 = false) : farV E q x v = True := eq_true fun hE => by rw [h] at hE; cases hE
def farC (T : Tabs) (E : List Nat) (q : Qt) (fr : Fr) (o : Oper) : Prop :=
  match o.op with
  | .store _ x _ => farV E q x (ev T fr x)
  | _ => True
def stoSlot (o : Oper) : Option Nat :=
  match o.op with
  | .store _ (.tmp t) _ => some t
  | _ => none

def isStO (o : Oper) : Bool :=
  match o.op with
  | .store _ _ _ => true
  | _ => false

def gstep (P : Program) (T : Tabs) (E : List Nat) (ops : List Oper) (q : Qt) (soft : Bool) (o : Oper) (K : Fr → Heap → Prop) (fr : Fr) (H : Heap) : Prop :=
  if isApg E o = true then (match o.op with
    | .call c => growG P T q soft c o.dst K fr H
    | _ => False) else if isStO o = true then (farC T E q fr o ∧ dstep P T E ops q soft o K fr H) else dstep P T E ops q soft o K fr H

def dopAt (P : Program) (T : Tabs) (E : List Nat) (opsA : Array Oper) (q : Qt) (soft : Bool) (o : Oper) (K : Fr → Heap → Prop) (fr : Fr) (H : Heap) : Prop :=
  match guardA opsA o fr with
  | some true => gstep P T E opsA.toList q soft o K fr H
  | some false => K (fr.put o.dst (.tuple [])) H
  | none => False

def drun (P : Program) (T : Tabs) (E : List Nat) (opsA : Array Oper) (q : Qt) (sf : Nat → Bool) : List Nat → (Fr → Heap → Prop) → Fr → Heap → Prop
  | [], K, fr, H => K fr H
  | i :: rest, K, fr, H => match opsA[i]? with
    | some o => dopAt P T E opsA q (sf i) o (fun fr H => drun P T E opsA q sf rest K fr H) fr H
    | none => False

section
variable {P : Program} {T : Tabs} {E : List Nat} {opsA : Array Oper} {q : Qt} {soft soft1 soft2 : Bool} {o o1 o2 : Oper} {K K' : Fr → Heap → Prop} {fr fr' : Fr} {H H' : Heap}

theorem isApg_inv (h : isApg E o = true) : ∃ c d, o.op = .call c ∧ (c.callee = .builtin .append ∨ ∃ f, c.callee = .value f) ∧ o.dst = some d := by
  unfold isApg at h
  split at h
  · rename_i c hc
    have hd : o.dst.any E.contains = true → ∃ d, o.dst = some d := by
      intro h
      cases hd : o.dst with
      | none => rw [hd] at h; simp at h
      | some d => exact ⟨d, rfl⟩
    split at h
    · rename_i hb
      obtain ⟨d, hd⟩ := hd h
      exact ⟨c, d, hc, .inl hb, hd⟩
    · rename_i f hb
      obtain ⟨d, hd⟩ := hd h
      exact ⟨c, d, hc, .inr ⟨f, hb⟩, hd⟩
    · cases h
  · cases h
theorem gstep_pos {ops : List Oper} {c : Call} (h : isApg E o = true) (hc : o.op = .call c) : gstep P T E ops q soft o K fr H = growG P T q soft c o.dst K fr H := by
  unfold gstep
  rw [if_pos h, hc]
theorem gstep_sto {ops : List Oper} (h : isApg E o = false) : gstep P T E ops q soft o K fr H = (farC T E q fr o ∧ dstep P T E ops q soft o K fr H) := by
  unfold gstep
  rw [if_neg (by simp [h])]
  cases hs : isStO o with
  | true => rw [if_pos rfl]
  | false =>
    rw [if_neg (by simp)]
    have hf : farC T E q fr o := by
      unfold farC
      split
      · rename_i ho
        unfold isStO at hs
        rw [ho] at hs
        cases hs
      · trivial
    exact propext ⟨fun h => ⟨hf, h⟩, fun h => h.2⟩
theorem farC_val {ops : List Oper} (h : clsOf E ops o = .val ∨ ∃ r, clsOf E ops o = .load r) : farC T E q fr o := by
  unfold farC
  split
  · rename_i t x y ho
    unfold clsOf at h
    rw [ho] at h
    rcases h with h | ⟨r, h⟩ <;> cases h
  · trivial
theorem farC_congr {f : Fr} (he : ∀ x ∈ o.op.operands, ev T fr x = ev T f x) (h : farC T E q fr o) : farC T E q f o := by
  unfold farC farV at *
  split
  · rename_i t x y ho
    rw [ho] at h
    intro hE
    obtain ⟨ob, off, s, h1, h2, h3⟩ := h hE
    exact ⟨ob, off, s, by rw [← he x (by rw [ho]; simp [Op.operands])]; exact h1, h2, h3⟩
  · trivial
theorem gstep_neg {ops ops' : List Oper} (h : isApg E o = false) (hv : clsOf E ops' o = .val ∨ ∃ r, clsOf E ops' o = .load r) : gstep P T E ops q soft o K fr H = dstep P T E ops q soft o K fr H := by
  rw [gstep_sto h]
  exact propext ⟨fun h => h.2, fun h => ⟨farC_val hv, h⟩⟩
/-- What comes of such an append: another value in its slot. -/
theorem appendG_mono {c : Call} {dst : Option Nat} (hk : ∀ r h, K (fr.put dst r) h → K' (fr.put dst r) h) (h : appendG P T c dst K fr H) : appendG P T c dst K' fr H := by
  unfold appendG at *
  split at h
  · split at h
    · obtain ⟨h1, h2, h3, h4, h⟩ := h
      refine ⟨h1, h2, h3, h4, ?_⟩
      split at h
      · exact ⟨h.1, h.2.1, fun cap hc => hk _ _ (h.2.2 cap hc)⟩
      · exact ⟨h.1, fun cap hc => hk _ _ (h.2 cap hc)⟩
      · refine ⟨h.1, h.2.1, ?_⟩
        have h := h.2.2
        split at h
        · exact ⟨h.1, h.2.1, fun hc => hk _ _ (h.2.2.1 hc), fun cap h1 h2 => hk _ _ (h.2.2.2 cap h1 h2)⟩
        · exact h
      · exact h
    · exact h
  · exact h
theorem appendG_ex {c : Call} {dst : Option Nat} (h : appendG P T c dst K fr H) : ∃ r h', K (fr.put dst r) h' := by
  unfold appendG at h
  split at h
  · split at h
    · rename_i e sz tag' m hap hxe
      obtain ⟨_, _, _, _, h⟩ := h
      split at h
      · exact ⟨_, _, h.2.2 _ (Nat.le_refl _)⟩
      · exact ⟨_, _, h.2 _ (Nat.le_refl _)⟩
      · rename_i o off len cap hs
        obtain ⟨_, _, h⟩ := h
        split at h
        · obtain ⟨_, _, h1, h2⟩ := h
          by_cases hc : len + m.length ≤ cap
          · exact ⟨_, _, h1 hc⟩
          · exact ⟨_, _, h2 _ (by omega) (Nat.le_refl _)⟩
        · exact h.elim
      · exact h.elim
    · exact h.elim
  · exact h.elim
theorem appendG_put {c : Call} {dst : Option Nat} {d : Nat} {v : AV} (hev : ∀ x ∈ c.args.toList, ev T (fr.put (some d) v) x = ev T fr x) (hne : dst ≠ some d) (h : appendG P T c dst K (fr.put (some d) v) H) :
    appendG P T c dst (fun f h => K (f.put (some d) v) h) fr H := by
  unfold appendG at *
  split at h
  · rename_i d' s x t t' hargs htys
    have hdd : d' ≠ d := fun e => hne (by rw [e])
    have hcomm : ∀ y : AV, (fr.put (some d') y).put (some d) v = (fr.put (some d) v).put (some d') y := fun y => put_put_comm fr hdd y v
    rw [hev s (by rw [hargs]; simp), hev x (by rw [hargs]; simp)] at h
    split at h
    · obtain ⟨h1, h2, h3, h4, h⟩ := h
      refine ⟨h1, h2, h3, h4, ?_⟩
      split at h
      · refine ⟨h.1, h.2.1, fun cap hc => ?_⟩
        simp only [hcomm]
        exact h.2.2 cap hc
      · refine ⟨h.1, fun cap hc => ?_⟩
        simp only [hcomm]
        exact h.2 cap hc
      · refine ⟨h.1, h.2.1, ?_⟩
        have h := h.2.2
        split at h
        · refine ⟨h.1, h.2.1, fun hc => ?_, fun cap h1 h2 => ?_⟩
          · simp only [hcomm]
            exact h.2.2.1 hc
          · simp only [hcomm]
            exact h.2.2.2 cap h1 h2
        · exact h
      · exact h
    · exact h
  · exact h

theorem AInvoke.mono {fv : AV} {as : List AV} {Post Post' : AV → Heap → Prop} (h : AInvoke P T fv as H Post) (hp : ∀ r h, Post r h → Post' r h) : AInvoke P T fv as H Post' := by
  unfold AInvoke at *
  split at h
  · exact h.mono hp
  · exact h
theorem growG_mono {c : Call} {dst : Option Nat} (hk : ∀ r h, (isV c = true → soft = true → QK q H h) → K (fr.put dst r) h → K' (fr.put dst r) h) (h : growG P T q soft c dst K fr H) : growG P T q soft c dst K' fr H := by
  unfold growG at *
  split at h
  · rename_i f hf
    obtain ⟨Post, h1, h2, h3⟩ := h
    exact ⟨Post, h1, h2, fun r h hp => ⟨(h3 r h hp).1, hk r h (fun _ => (h3 r h hp).1) (h3 r h hp).2⟩⟩
  · rename_i hf
    exact appendG_mono (fun r h => hk r h fun hv => by
      unfold isV at hv
      split at hv
      · rename_i f hf'; exact (hf f hf').elim
      · cases hv) h
theorem growG_ex {c : Call} {dst : Option Nat} (h : growG P T q soft c dst K fr H) : ∃ r h', (isV c = true → soft = true → QK q H h') ∧ K (fr.put dst r) h' := by
  unfold growG at h
  split at h
  · obtain ⟨Post, h1, ⟨r, h', h2⟩, h3⟩ := h
    exact ⟨r, h', fun _ => (h3 _ _ h2).1, (h3 _ _ h2).2⟩
  · rename_i hf
    obtain ⟨r, h', hk⟩ := appendG_ex h
    refine ⟨r, h', fun hv => ?_, hk⟩
    unfold isV at hv
    split at hv
    · rename_i f hf'; exact (hf f hf').elim
    · cases hv
theorem growG_put {c : Call} {dst : Option Nat} {d : Nat} {v : AV} (hev : ∀ x ∈ c.operands.toList, ev T (fr.put (some d) v) x = ev T fr x) (hne : dst ≠ some d) (h : growG P T q soft c dst K (fr.put (some d) v) H) :
    growG P T q soft c dst (fun f h => K (f.put (some d) v) h) fr H := by
  have harg : ∀ x ∈ c.args.toList, ev T (fr.put (some d) v) x = ev T fr x := fun x hx => hev x (by
    unfold Call.operands
    rw [Array.toList_append]
    exact List.mem_append_right _ hx)
  unfold growG at *
  split at h
  · rename_i f hf
    obtain ⟨Post, h1, h2, h3⟩ := h
    rw [hev f (by unfold Call.operands; rw [hf]; simp), List.map_congr_left (g := fun x => (ev T fr x).norm) (fun x hx => by rw [harg x hx])] at h1
    refine ⟨Post, h1, h2, fun r h hp => ⟨(h3 r h hp).1, ?_⟩⟩
    have := (h3 r h hp).2
    cases dst with
    | none => exact this
    | some d' =>
      show K ((fr.put (some d') r).put (some d) v) h
      rw [put_put_comm fr (fun e => hne (by rw [e]))]
      exact this
  · exact appendG_put harg hne h

theorem dopAt_mono (hk : ∀ fr H, K fr H → K' fr H) (h : dopAt P T E opsA q soft o K fr H) : dopAt P T E opsA q soft o K' fr H := by
  unfold dopAt at *
  split at h
  · cases hg : isApg E o with
    | true =>
      obtain ⟨c, d, hc, _, hd⟩ := isApg_inv hg
      rw [gstep_pos hg hc] at h ⊢
      exact growG_mono (fun r h _ => hk _ _) h
    | false =>
      rw [gstep_sto hg] at h ⊢
      exact ⟨h.1, dstep_mono hk h.2⟩
  · exact hk _ _ h
  · exact h

theorem gstep_astep (h : gstep P T E opsA.toList q soft o K fr H) : astep P T E o K fr H := by
  cases hg : isApg E o with
  | true =>
    obtain ⟨c, d, hc, hb, hd⟩ := isApg_inv hg
    rw [gstep_pos hg hc] at h
    unfold astep
    rw [hc]
    rcases hb with hb | ⟨f, hb⟩
    · simp only [hb]
      unfold growG at h
      rw [hb] at h
      exact .inr (.inr h)
    · simp only [hb]
      unfold growG at h
      rw [hb] at h
      obtain ⟨Post, h1, _, h3⟩ := h
      exact h1.mono fun r h hp => (h3 r h hp).2
  | false =>
    rw [gstep_sto hg] at h
    exact dstep_astep h.2

theorem dopAt_aopAt (h : dopAt P T E opsA q soft o K fr H) : aopAt P T E opsA o K fr H := by
  unfold dopAt guardA at h
  unfold aopAt
  cases hg : o.guard with
  | none => rw [hg] at h; exact gstep_astep h
  | some p =>
    obtain ⟨j, want⟩ := p
    rw [hg] at h
    simp only at h ⊢
    cases hd : (opsA[j]?).bind (·.dst) with
    | none => rw [hd] at h; exact h
    | some d =>
      rw [hd] at h
      simp only at h ⊢
      split
      · rename_i b hb
        rw [hb] at h
        simp only at h
        by_cases hw : b = want
        · subst hw
          rw [if_pos rfl]
          simp only [beq_self_eq_true] at h
          exact gstep_astep h
        · rw [if_neg hw]
          have : (b == want) = false := by simpa using hw
          rw [this] at h
          exact h
      · rename_i l hl
        rw [hl] at h
        exact h
      · rename_i hnb hnt
        split at h
        · rename_i he
          split at he
          · rename_i b hb; exact (hnb b hb).elim
          · cases he
          · cases he
        · rename_i he
          split at he
          · rename_i b hb; exact (hnb b hb).elim
          · rename_i l hl; exact (hnt l hl).elim
          · cases he
        · exact h

/-- The guard is asked of a slot that the operation looks at. -/
theorem guardA_congr (h : ∀ t, t ∈ o.looksAt opsA → fr'.env t = fr.env t) : guardA opsA o fr' = guardA opsA o fr := by
  unfold guardA
  cases hg : o.guard with
  | none => rfl
  | some p =>
    obtain ⟨j, want⟩ := p
    simp only
    cases hd : (opsA[j]?).bind (·.dst) with
    | none => rfl
    | some d =>
      simp only
      have : d ∈ o.looksAt opsA := by
        unfold Oper.looksAt
        rw [hg]
        refine List.mem_append_right _ ?_
        show d ∈ ((opsA[j]?).bind (·.dst)).toList
        rw [hd]
        simp
      rw [h d this]

theorem guard_put {d : Option Nat} {v : AV} (h : ∀ d', d = some d' → d' ∉ o.looksAt opsA) : guardA opsA o (fr.put d v) = guardA opsA o fr := by
  refine guardA_congr fun t ht => ?_
  rw [Fr.put_env, if_neg]
  rintro rfl
  exact h t rfl ht

theorem guard_left {c : Cls} {dst : Option Nat} (hl : Left c dst soft q fr H fr' H') (h : ∀ d', dst = some d' → d' ∉ o.looksAt opsA) : guardA opsA o fr' = guardA opsA o fr := by
  refine guardA_congr fun t ht => hl.env t ?_
  rintro rfl
  exact h t rfl ht

/-- The conditions under which two operations that do not wait for each other may be exchanged. -/
def exchD (E : List Nat) (opsA : Array Oper) (s1 s2 : Bool) (o1 o2 : Oper) : Bool :=
  o1.apart opsA o2 && clsOk (clsOf E opsA.toList o1) (clsOf E opsA.toList o2) &&
  (match clsOf E opsA.toList o1, clsOf E opsA.toList o2 with
   | .load _, .eff => s1 && s2
   | .eff, .load _ => s1 && s2
   | .load _, .sto _ => s2
   | .sto _, .load _ => s1
   | _, _ => true)

def isVo (o : Oper) : Bool :=
  match o.op with
  | .call c => isV c
  | _ => false
/-- A box of the frame that an operation makes. -/
def isAlo (E : List Nat) (o : Oper) : Bool :=
  match o.op, o.dst with
  | .alloc _, some d => !E.contains d
  | _, _ => false
theorem isAlo_inv (h : isAlo E o = true) : ∃ t d, o.op = .alloc t ∧ o.dst = some d ∧ E.contains d = false := by
  unfold isAlo at h
  split at h
  · rename_i t d h1 h2; exact ⟨t, d, h1, h2, by simpa using h⟩
  · cases h
/-- What may stand beside such an append (what only computes) or call (loads too, where both are soft). -/
def besG (E : List Nat) (opsA : Array Oper) (s1 s2 : Bool) (o1 o2 : Oper) : Bool :=
  match clsOf E opsA.toList o2 with
  | .val => true
  | .load _ => isVo o1 && s1 && s2
  | .alloc _ => isVo o1 && isAlo E o2
  | _ => false
theorem besG_inv {s1 s2 : Bool} (h : besG E opsA s1 s2 o1 o2 = true) : (clsOf E opsA.toList o2 = .val ∨ (∃ r, clsOf E opsA.toList o2 = .load r) ∧ isVo o1 = true ∧ s1 = true ∧ s2 = true) ∨ isVo o1 = true ∧ isAlo E o2 = true := by
  unfold besG at h
  split at h
  · rename_i hc; exact .inl (.inl hc)
  · rename_i r hc
    simp only [Bool.and_eq_true] at h
    exact .inl (.inr ⟨⟨r, hc⟩, h.1.1, h.1.2, h.2⟩)
  · rename_i r hc
    simp only [Bool.and_eq_true] at h
    exact .inr h
  · cases h
/-- An append into a shared object, or such a call, may be exchanged with what only computes. -/
def exch (E : List Nat) (opsA : Array Oper) (s1 s2 : Bool) (o1 o2 : Oper) : Bool :=
  if isApg E o1 || isApg E o2 then
    o1.apart opsA o2 && (isApg E o1 && !isApg E o2 && besG E opsA s1 s2 o1 o2 || isApg E o2 && !isApg E o1 && besG E opsA s2 s1 o2 o1)
  else if E.contains 999999 && (stoSlot o1).isSome && (stoSlot o2).isSome && stoSlot o1 != stoSlot o2 && o1.dst == none && o2.dst == none then true
  else exchD E opsA s1 s2 o1 o2

theorem val_dval {f : Fr} {h : Heap} (hc : clsOf E opsA.toList o = .val) (he : ∀ x ∈ o.op.operands, ev T fr x = ev T f x) : dval P T E opsA.toList q soft fr H o = dval P T E opsA.toList q soft f h o := by
  refine dval_congr he (fun t x ho => ?_) fun t x i ok ho => ?_
  · unfold clsOf at hc; rw [ho] at hc; cases hc
  · unfold clsOf at hc; rw [ho] at hc; cases hc
theorem ev_put {d : Option Nat} {v : AV} (ha : ∀ d', d = some d' → d' ∉ o.looksAt opsA) : ∀ x ∈ o.op.operands, ev T fr x = ev T (fr.put d v) x := by
  intro x hx
  refine ev_congr fun t ht => ?_
  rw [Fr.put_env, if_neg]
  rintro rfl
  exact ha t rfl (looks_of hx ht)
theorem put2_comm {d1 d2 : Option Nat} (h : ∀ d, d1 = some d → d2 ≠ some d) (x y : AV) : (fr.put d1 x).put d2 y = (fr.put d2 y).put d1 x := by
  cases d1 with
  | none => rfl
  | some a =>
    cases d2 with
    | none => rfl
    | some b => exact put_put_comm fr (fun e => h a rfl (by rw [e])) x y
theorem call_args {c : Call} (hc : o.op = .call c) {x : Operand} (hx : x ∈ c.args.toList) : x ∈ o.op.operands := by
  rw [hc]
  simp [Op.operands, Call.operands, Array.mem_toList_iff.1 hx]

theorem dopAt_cases (h : dopAt P T E opsA q soft o K fr H) : guardA opsA o fr = some true ∧ gstep P T E opsA.toList q soft o K fr H ∨ guardA opsA o fr = some false ∧ K (fr.put o.dst (.tuple [])) H := by
  unfold dopAt at h
  split at h
  · rename_i hg; exact .inl ⟨hg, h⟩
  · rename_i hg; exact .inr ⟨hg, h⟩
  · exact h.elim
theorem dopAt_t (hg : guardA opsA o fr = some true) (h : gstep P T E opsA.toList q soft o K fr H) : dopAt P T E opsA q soft o K fr H := by
  unfold dopAt
  rw [hg]
  exact h
theorem dopAt_f (hg : guardA opsA o fr = some false) (h : K (fr.put o.dst (.tuple [])) H) : dopAt P T E opsA q soft o K fr H := by
  unfold dopAt
  rw [hg]
  exact h

theorem call_ops {c : Call} (hc : o.op = .call c) {x : Operand} (hx : x ∈ c.operands.toList) : x ∈ o.op.operands := by
  rw [hc]
  exact Array.mem_toList_iff.1 hx
/-- A value that does not see such a step beside it. -/
theorem dvalG {c : Call} (hb : clsOf E opsA.toList o2 = .val ∨ (∃ r, clsOf E opsA.toList o2 = .load r) ∧ isVo o1 = true ∧ soft1 = true ∧ soft2 = true) (hc : o1.op = .call c) (ha : ∀ d, o1.dst = some d → d ∉ o2.looksAt opsA) {r : AV} {h' : Heap}
    (hq : isV c = true → soft1 = true → QK q H h') {v : AV} (hv : dval P T E opsA.toList q soft2 fr H o2 = some v ∨ dval P T E opsA.toList q soft2 (fr.put o1.dst r) h' o2 = some v) :
    dval P T E opsA.toList q soft2 fr H o2 = dval P T E opsA.toList q soft2 (fr.put o1.dst r) h' o2 := by
  rcases hb with hb | ⟨⟨rr, hb⟩, h1, h2, h3⟩
  · exact val_dval hb (ev_put ha)
  · have hvv : isV c = true := by unfold isVo at h1; rw [hc] at h1; exact h1
    have hl : Left .eff o1.dst true q fr H (fr.put o1.dst r) h' := ⟨fun t ht => by rw [Fr.put_env, if_neg ht], fun b _ _ => ⟨by cases o1.dst <;> rfl, by cases o1.dst <;> rfl⟩, fun h => (h rfl).elim, fun _ => hq hvv h2⟩
    refine dval_left (o := o2) (opsA := opsA) hl ha (by rw [hb]; rfl) (fun _ _ => ⟨fun _ => ⟨h3, rfl⟩, fun _ h => by cases h⟩) hv
theorem dopAt_swapA (hap : o1.apart opsA o2 = true) (hb : clsOf E opsA.toList o1 = .val ∨ (∃ r, clsOf E opsA.toList o1 = .load r) ∧ isVo o2 = true ∧ soft2 = true ∧ soft1 = true) (hn1 : isApg E o1 = false) (hn2 : isApg E o2 = true) (h : dopAt P T E opsA q soft1 o1 (fun fr H => dopAt P T E opsA q soft2 o2 K fr H) fr H) :
    dopAt P T E opsA q soft2 o2 (fun fr H => dopAt P T E opsA q soft1 o1 K fr H) fr H := by
  obtain ⟨a1, a2, a3⟩ := Oper.apart_spec hap
  obtain ⟨c, d2, hc, _, hd2⟩ := isApg_inv hn2
  have hv1 : clsOf E opsA.toList o1 = .val ∨ ∃ r, clsOf E opsA.toList o1 = .load r := hb.imp id fun h => h.1
  -- the first one puts a value
  have key : ∃ v, (∀ r h, (isV c = true → soft2 = true → QK q H h) → K ((fr.put o2.dst r).put o1.dst v) h → dopAt P T E opsA q soft1 o1 K (fr.put o2.dst r) h) ∧ dopAt P T E opsA q soft2 o2 K (fr.put o1.dst v) H := by
    rcases dopAt_cases h with ⟨hg1, h1⟩ | ⟨hg1, h1⟩
    · rw [gstep_neg hn1 hv1] at h1
      obtain ⟨f1, H1, hr1, h2⟩ := dstep_out h1
      obtain ⟨v, hv, e1, e2⟩ := drel_val hv1 hr1
      rw [e1, e2] at h2
      refine ⟨v, fun r h' hq hk => dopAt_t (by rw [guard_put a3, hg1]) ?_, h2⟩
      rw [gstep_neg hn1 hv1]
      exact dstep_of (dval_drel (by rw [← dvalG hb hc a3 hq (.inl hv)]; exact hv)) hk
    · exact ⟨_, fun r h' _ hk => dopAt_f (by rw [guard_put a3, hg1]) hk, h1⟩
  obtain ⟨v, back, h1⟩ := key
  rcases dopAt_cases h1 with ⟨hg2, h2⟩ | ⟨hg2, h2⟩
  · rw [guard_put a1] at hg2
    rw [gstep_pos hn2 hc] at h2
    refine dopAt_t hg2 ?_
    rw [gstep_pos hn2 hc]
    have h3 : growG P T q soft2 c o2.dst (fun f h => K (f.put o1.dst v) h) fr H := by
      cases hd1 : o1.dst with
      | none => rw [hd1] at h2; exact h2
      | some d => rw [hd1] at h2; exact growG_put (fun x hx => (ev_put (o := o2) (opsA := opsA) (d := some d) (fun d' e => by cases e; exact a1 d hd1) x (call_ops hc hx)).symm) (a2 d hd1) h2
    exact growG_mono (fun r h' hq hk => back _ _ hq hk) h3
  · rw [guard_put a1] at hg2
    have hk : K ((fr.put o2.dst (.tuple [])).put o1.dst v) H := by
      rw [← put2_comm a2]
      exact h2
    exact dopAt_f hg2 (back _ _ (fun _ _ => QK.refl) hk)

theorem dopAt_swapB (hap : o1.apart opsA o2 = true) (hb : clsOf E opsA.toList o2 = .val ∨ (∃ r, clsOf E opsA.toList o2 = .load r) ∧ isVo o1 = true ∧ soft1 = true ∧ soft2 = true) (hn1 : isApg E o1 = true) (hn2 : isApg E o2 = false) (h : dopAt P T E opsA q soft1 o1 (fun fr H => dopAt P T E opsA q soft2 o2 K fr H) fr H) :
    dopAt P T E opsA q soft2 o2 (fun fr H => dopAt P T E opsA q soft1 o1 K fr H) fr H := by
  obtain ⟨a1, a2, a3⟩ := Oper.apart_spec hap
  obtain ⟨c, d1, hc, _, hd1⟩ := isApg_inv hn1
  have hv2 : clsOf E opsA.toList o2 = .val ∨ ∃ r, clsOf E opsA.toList o2 = .load r := hb.imp id fun h => h.1
  -- what the second one does, at a frame where the first one has put its value
  have inv : ∀ {r : AV} {h' : Heap} {K1 : Fr → Heap → Prop}, (isV c = true → soft1 = true → QK q H h') → dopAt P T E opsA q soft2 o2 K1 (fr.put o1.dst r) h' →
      ∃ v, (guardA opsA o2 fr = some true ∧ dval P T E opsA.toList q soft2 fr H o2 = some v ∨ guardA opsA o2 fr = some false ∧ v = .tuple []) ∧ K1 ((fr.put o1.dst r).put o2.dst v) h' := by
    intro r h' K1 hq hh
    rcases dopAt_cases hh with ⟨hg2, h1⟩ | ⟨hg2, h1⟩
    · rw [gstep_neg hn2 hv2] at h1
      obtain ⟨f1, H1, hr1, h2⟩ := dstep_out h1
      obtain ⟨v, hv, e1, e2⟩ := drel_val hv2 hr1
      rw [e1, e2] at h2
      exact ⟨v, .inl ⟨by rw [← guard_put (o := o2) a1]; exact hg2, by rw [dvalG hb hc a1 hq (.inr hv)]; exact hv⟩, h2⟩
    · exact ⟨_, .inr ⟨by rw [← guard_put (o := o2) a1]; exact hg2, rfl⟩, h1⟩
  have fwd : ∀ {v : AV} {K1 : Fr → Heap → Prop}, (guardA opsA o2 fr = some true ∧ dval P T E opsA.toList q soft2 fr H o2 = some v ∨ guardA opsA o2 fr = some false ∧ v = .tuple []) → K1 (fr.put o2.dst v) H → dopAt P T E opsA q soft2 o2 K1 fr H := by
    intro v K1 hv hk
    rcases hv with ⟨hg2, hv⟩ | ⟨hg2, rfl⟩
    · refine dopAt_t hg2 ?_
      rw [gstep_neg hn2 hv2]
      exact dstep_of (dval_drel hv) hk
    · exact dopAt_f hg2 hk
  have uniq : ∀ {v w : AV}, (guardA opsA o2 fr = some true ∧ dval P T E opsA.toList q soft2 fr H o2 = some v ∨ guardA opsA o2 fr = some false ∧ v = .tuple []) → (guardA opsA o2 fr = some true ∧ dval P T E opsA.toList q soft2 fr H o2 = some w ∨ guardA opsA o2 fr = some false ∧ w = .tuple []) → v = w := by
    intro v w h1 h2
    rcases h1 with ⟨g1, h1⟩ | ⟨g1, rfl⟩ <;> rcases h2 with ⟨g2, h2⟩ | ⟨g2, rfl⟩
    · rw [h1] at h2; exact Option.some.inj h2
    · rw [g1] at g2; cases g2
    · rw [g1] at g2; cases g2
    · rfl
  rcases dopAt_cases h with ⟨hg1, h1⟩ | ⟨hg1, h1⟩
  · rw [gstep_pos hn1 hc] at h1
    obtain ⟨r0, h0, hq0, hk0⟩ := growG_ex h1
    obtain ⟨v, hv, _⟩ := inv hq0 hk0
    refine fwd hv (dopAt_t (by rw [guard_put a3, hg1]) ?_)
    rw [gstep_pos hn1 hc]
    have h2 : growG P T q soft1 c o1.dst (fun f h => K (f.put o2.dst v) h) fr H := growG_mono (fun r h' hq hk => by
      obtain ⟨w, hw, hk⟩ := inv hq hk
      rw [uniq hv hw]
      exact hk) h1
    cases hd2 : o2.dst with
    | none => rw [hd2] at h2; exact h2
    | some d =>
      rw [hd2] at h2
      have hne : o1.dst ≠ some d := fun e => a2 d e hd2
      have h3 : growG P T q soft1 c o1.dst (fun f h => K (f.put (some d) v) h) ((fr.put (some d) v).put (some d) (fr.env d)) H := by
        rw [put_put, put_self]
        exact h2
      have h4 := growG_put (fun x hx => (by
        have := ev_put (o := o1) (opsA := opsA) (T := T) (fr := fr.put (some d) v) (d := some d) (v := fr.env d) (fun d' e => by cases e; exact a3 d hd2) x (call_ops hc hx)
        exact this.symm)) hne h3
      refine growG_mono (fun r h' _ hk => ?_) h4
      have e1 : (((fr.put (some d) v).put o1.dst r).put (some d) (fr.env d)).put (some d) v = (fr.put (some d) v).put o1.dst r := by
        rw [put_put]
        have hs := put_self ((fr.put (some d) v).put o1.dst r) d
        have he : ((fr.put (some d) v).put o1.dst r).env d = v := by
          rw [Fr.put_env, if_neg hne, Fr.put_env, if_pos rfl]
        rw [he] at hs
        exact hs
      rw [e1] at hk
      exact hk
  · obtain ⟨v, hv, hk⟩ := inv (fun _ _ => QK.refl) h1
    refine fwd hv (dopAt_f (by rw [guard_put a3, hg1]) ?_)
    rw [← put2_comm a2]
    exact hk

/-- The frame behind a new box, or behind none. -/
def alF (d : Nat) (b : Bool) (z : List AV) (fr : Fr) : Fr := if b = true then allocFr fr d z else fr.put (some d) (.tuple [])
theorem alF_env {d t : Nat} {b : Bool} {z : List AV} (h : t ≠ d) : (alF d b z fr).env t = fr.env t := by
  unfold alF
  split
  · show upd fr.env d _ t = _
    unfold upd
    rw [if_neg h]
  · rw [Fr.put_env, if_neg fun e => h (Option.some.inj e).symm]
theorem alF_put {d : Nat} {b : Bool} {z : List AV} {d' : Option Nat} (h : d' ≠ some d) (v : AV) : (alF d b z fr).put d' v = alF d b z (fr.put d' v) := by
  unfold alF
  split
  · exact allocFr_put fr h z v
  · exact put2_comm (fun a ha => fun e => h (by rw [← ha] at e; exact e)) _ _
theorem alo_iff {t : TypeId} {d : Nat} (ho : o.op = .alloc t) (hd : o.dst = some d) (hE : E.contains d = false) : dopAt P T E opsA q soft o K fr H ↔ ∃ b z, guardA opsA o fr = some b ∧ (b = true → zeroA P t = some z) ∧ K (alF d b z fr) H := by
  have hn : isApg E o = false := by unfold isApg; rw [ho]
  have hs : gstep P T E opsA.toList q soft o K fr H = (match zeroA P t with | some z => K (allocFr fr d z) H | none => False) := by
    unfold gstep isStO
    rw [hn, ho]
    simp only [Bool.false_eq_true, if_false]
    unfold dstep
    rw [ho]
    simp only
    cases zeroA P t with
    | none => rfl
    | some z =>
      simp only
      unfold allocA
      rw [hd]
      simp only
      rw [if_neg (by rw [hE]; decide)]
      refine propext ⟨fun h => h.2, fun h => ⟨fun _ => ?_, h⟩⟩
      show E.contains d = false
      exact hE
  constructor
  · intro h
    rcases dopAt_cases h with ⟨hg, h⟩ | ⟨hg, h⟩
    · rw [hs] at h
      split at h
      · rename_i z hz
        exact ⟨true, z, hg, fun _ => hz, h⟩
      · exact h.elim
    · rw [hd] at h
      exact ⟨false, [], hg, (fun e => by cases e), h⟩
  · rintro ⟨b, z, hg, hz, h⟩
    cases b with
    | true =>
      refine dopAt_t hg ?_
      rw [hs, hz rfl]
      exact h
    | false =>
      refine dopAt_f hg ?_
      rw [hd]
      exact h
theorem al_ev {d : Nat} {b : Bool} {z : List AV} (ha : d ∉ o.looksAt opsA) : ∀ x ∈ o.op.operands, ev T (alF d b z fr) x = ev T fr x := by
  intro x hx
  refine ev_congr fun t ht => alF_env ?_
  rintro rfl
  exact ha (looks_of hx ht)
theorem al_guard {d : Nat} {b : Bool} {z : List AV} (ha : d ∉ o.looksAt opsA) : guardA opsA o (alF d b z fr) = guardA opsA o fr := by
  refine guardA_congr fun t ht => alF_env ?_
  rintro rfl
  exact ha ht
theorem isVo_inv (h : isVo o = true) : ∃ c f, o.op = .call c ∧ c.callee = .value f := by
  unfold isVo at h
  split at h
  · rename_i c hc
    unfold isV at h
    split at h
    · rename_i f hf; exact ⟨c, f, hc, hf⟩
    · cases h
  · cases h
theorem al_rel {c : Call} {f : Operand} {d : Nat} {b : Bool} {z : List AV} (hc : o.op = .call c) (hf : c.callee = .value f) (ha : d ∉ o.looksAt opsA) : ev T (alF d b z fr) f = ev T fr f ∧ (c.args.toList.map fun x => (ev T (alF d b z fr) x).norm) = c.args.toList.map fun x => (ev T fr x).norm := by
  have he := fun x hx => al_ev (T := T) (fr := fr) (b := b) (z := z) ha x hx
  refine ⟨he f (call_ops hc (by unfold Call.operands; rw [hf]; simp)), List.map_congr_left fun x hx => ?_⟩
  rw [he x (call_args hc hx)]
theorem dopAt_swapC (hap : o1.apart opsA o2 = true) (hb1 : isAlo E o1 = true) (hb2 : isVo o2 = true) (hn2 : isApg E o2 = true) (h : dopAt P T E opsA q soft1 o1 (fun fr H => dopAt P T E opsA q soft2 o2 K fr H) fr H) :
    dopAt P T E opsA q soft2 o2 (fun fr H => dopAt P T E opsA q soft1 o1 K fr H) fr H := by
  obtain ⟨a1, a2, a3⟩ := Oper.apart_spec hap
  obtain ⟨t, d, ho, hd, hE⟩ := isAlo_inv hb1
  obtain ⟨c, f, hc, hf⟩ := isVo_inv hb2
  have hne : o2.dst ≠ some d := a2 d hd
  obtain ⟨b, z, hg, hz, h⟩ := (alo_iff ho hd hE).1 h
  rcases dopAt_cases h with ⟨hg2, h2⟩ | ⟨hg2, h2⟩
  · rw [al_guard (a1 d hd)] at hg2
    refine dopAt_t hg2 ?_
    rw [gstep_pos hn2 hc] at h2 ⊢
    unfold growG at h2 ⊢
    rw [hf] at h2 ⊢
    simp only at h2 ⊢
    obtain ⟨e1, e2⟩ := al_rel (T := T) (fr := fr) (b := b) (z := z) hc hf (a1 d hd)
    rw [e1, e2] at h2
    obtain ⟨Post, p1, p2, p3⟩ := h2
    refine ⟨Post, p1, p2, fun r h' hp => ⟨(p3 r h' hp).1, (alo_iff ho hd hE).2 ⟨b, z, by rw [guard_put a3, hg], hz, ?_⟩⟩⟩
    rw [← alF_put hne]
    exact (p3 r h' hp).2
  · rw [al_guard (a1 d hd)] at hg2
    refine dopAt_f hg2 ((alo_iff ho hd hE).2 ⟨b, z, by rw [guard_put a3, hg], hz, ?_⟩)
    rw [← alF_put hne]
    exact h2
theorem dopAt_swapD (hap : o1.apart opsA o2 = true) (hb1 : isVo o1 = true) (hb2 : isAlo E o2 = true) (hn1 : isApg E o1 = true) (h : dopAt P T E opsA q soft1 o1 (fun fr H => dopAt P T E opsA q soft2 o2 K fr H) fr H) :
    dopAt P T E opsA q soft2 o2 (fun fr H => dopAt P T E opsA q soft1 o1 K fr H) fr H := by
  obtain ⟨a1, a2, a3⟩ := Oper.apart_spec hap
  obtain ⟨t, d, ho, hd, hE⟩ := isAlo_inv hb2
  obtain ⟨c, f, hc, hf⟩ := isVo_inv hb1
  have hne : o1.dst ≠ some d := fun e => a2 d e hd
  rcases dopAt_cases h with ⟨hg1, h1⟩ | ⟨hg1, h1⟩
  · rw [gstep_pos hn1 hc] at h1
    unfold growG at h1
    rw [hf] at h1
    simp only at h1
    obtain ⟨Post, p1, ⟨r0, h0, p2⟩, p3⟩ := h1
    obtain ⟨b, z, hg, hz, _⟩ := (alo_iff ho hd hE).1 (p3 r0 h0 p2).2
    rw [guard_put a1] at hg
    refine (alo_iff ho hd hE).2 ⟨b, z, hg, hz, dopAt_t (by rw [al_guard (a3 d hd), hg1]) ?_⟩
    rw [gstep_pos hn1 hc]
    unfold growG
    rw [hf]
    simp only
    obtain ⟨e1, e2⟩ := al_rel (T := T) (fr := fr) (b := b) (z := z) hc hf (a3 d hd)
    rw [e1, e2]
    refine ⟨Post, p1, ⟨r0, h0, p2⟩, fun r h' hp => ⟨(p3 r h' hp).1, ?_⟩⟩
    obtain ⟨b', z', hg', hz', hk⟩ := (alo_iff ho hd hE).1 (p3 r h' hp).2
    rw [guard_put a1, hg] at hg'
    obtain rfl : b = b' := Option.some.inj hg'
    rw [alF_put hne]
    cases b with
    | true =>
      obtain rfl : z = z' := Option.some.inj (by rw [← hz rfl, ← hz' rfl])
      exact hk
    | false => exact hk
  · obtain ⟨b, z, hg, hz, hk⟩ := (alo_iff ho hd hE).1 h1
    rw [guard_put a1] at hg
    refine (alo_iff ho hd hE).2 ⟨b, z, hg, hz, dopAt_f (by rw [al_guard (a3 d hd), hg1]) ?_⟩
    rw [alF_put hne]
    exact hk

theorem stoG {t : TypeId} {ob off : Nat} {v : AV} : storeA P t (.gptr ob off) v K fr H ↔ ∃ agg n cs, layOf P t = some (agg, n) ∧ H[ob]? = some cs ∧ (okObj cs = true ∧ v.cells.length = n ∧ off + n ≤ cs.length ∧ notTuple v = true) ∧ K fr (H.set ob (setCells cs off v.norm.cells)) := by
  unfold storeA
  constructor
  · intro h
    split at h
    · exact h.elim
    · rename_i agg n hl
      simp only at h
      split at h
      · rename_i cs hc
        exact ⟨agg, n, cs, hl, hc, ⟨h.1, h.2.1, h.2.2.1, h.2.2.2.1⟩, h.2.2.2.2⟩
      · exact h.elim
  · rintro ⟨agg, n, cs, hl, hc, h, hk⟩
    rw [hl]
    simp only [hc]
    exact ⟨h.1, h.2.1, h.2.2.1, h.2.2.2, hk⟩
theorem stoSlot_inv {s : Nat} (h : stoSlot o = some s) : ∃ t y, o.op = .store t (.tmp s) y := by
  unfold stoSlot at h
  split at h
  · rename_i t s' y ho
    cases h
    exact ⟨t, y, ho⟩
  · cases h
theorem apg_sto {s : Nat} (h : stoSlot o = some s) : isApg E o = false := by
  obtain ⟨t, y, ho⟩ := stoSlot_inv h
  unfold isApg
  rw [ho]
/-- A store where stores are exchanged. -/
theorem gstep_far {ops : List Oper} {s : Nat} (hE : E.contains 999999 = true) (hs : stoSlot o = some s) : gstep P T E ops q soft o K fr H ↔
    ∃ t y ob off agg n cs, o.op = .store t (.tmp s) y ∧ o.dst = none ∧ ev T fr (.tmp s) = .gptr ob off ∧ q.cl ob = s ∧ rootChk ops (.tmp s) (.gptr ob off) = true ∧ soft = false ∧ layOf P t = some (agg, n) ∧ H[ob]? = some cs ∧
      (okObj cs = true ∧ (ev T fr y).cells.length = n ∧ off + n ≤ cs.length ∧ notTuple (ev T fr y) = true) ∧ K fr (H.set ob (setCells cs off (ev T fr y).norm.cells)) := by
  obtain ⟨t, y, ho⟩ := stoSlot_inv hs
  rw [gstep_sto (apg_sto hs)]
  unfold farC farV dstep
  rw [ho]
  simp only
  constructor
  · rintro ⟨h1, h2, h3, h4, h5⟩
    obtain ⟨ob, off, s', e1, e2, e3⟩ := h1 hE
    injection e2 with e2
    subst e2
    rw [e1] at h3 h4 h5
    obtain ⟨agg, n, cs, g1, g2, g3, g4⟩ := stoG.1 h5
    refine ⟨t, y, ob, off, agg, n, cs, rfl, h2, e1, e3, h3, ?_, g1, g2, g3, g4⟩
    cases hsf : soft with
    | false => rfl
    | true => have := h4 hsf; simp [isL] at this
  · rintro ⟨t', y', ob, off, agg, n, cs, e0, h2, e1, e3, h3, h4, g1, g2, g3, g4⟩
    injection e0 with e4 e5 e6
    subst e4; subst e6
    refine ⟨fun _ => ⟨ob, off, s, e1, rfl, e3⟩, h2, by rw [e1]; exact h3, fun hsf => ?_, ?_⟩
    · rw [h4] at hsf; cases hsf
    · rw [e1]
      exact stoG.2 ⟨agg, n, cs, g1, g2, g3, g4⟩
theorem dopAt_swapS {s1 s2 : Nat} (hE : E.contains 999999 = true) (hs1 : stoSlot o1 = some s1) (hs2 : stoSlot o2 = some s2) (hne : s1 ≠ s2) (h : dopAt P T E opsA q soft1 o1 (fun fr H => dopAt P T E opsA q soft2 o2 K fr H) fr H) (hd1 : o1.dst = none) (hd2 : o2.dst = none) :
    dopAt P T E opsA q soft2 o2 (fun fr H => dopAt P T E opsA q soft1 o1 K fr H) fr H := by
  have p1 : ∀ v, fr.put o1.dst v = fr := fun v => by rw [hd1]; rfl
  have p2 : ∀ v, fr.put o2.dst v = fr := fun v => by rw [hd2]; rfl
  rcases dopAt_cases h with ⟨hg1, h1⟩ | ⟨hg1, h1⟩
  · obtain ⟨t, y, ob, off, agg, n, cs, e0, e1, e2, e3, e4, e5, e6, e7, e8, h1⟩ := (gstep_far hE hs1).1 h1
    rcases dopAt_cases h1 with ⟨hg2, h2⟩ | ⟨hg2, h2⟩
    · obtain ⟨t', y', ob', off', agg', n', cs', f0, f1, f2, f3, f4, f5, f6, f7, f8, h2⟩ := (gstep_far hE hs2).1 h2
      have hob : ob ≠ ob' := by rintro rfl; exact hne (e3.symm.trans f3)
      rw [List.getElem?_set_ne hob] at f7
      refine dopAt_t hg2 ((gstep_far hE hs2).2 ⟨t', y', ob', off', agg', n', cs', f0, f1, f2, f3, f4, f5, f6, f7, f8, ?_⟩)
      refine dopAt_t hg1 ((gstep_far hE hs1).2 ⟨t, y, ob, off, agg, n, cs, e0, e1, e2, e3, e4, e5, e6, ?_, e8, ?_⟩)
      · rw [List.getElem?_set_ne (fun e => hob e.symm)]; exact e7
      · rw [List.set_comm _ _ (fun e => hob e.symm)]
        exact h2
    · refine dopAt_f hg2 ?_
      rw [p2] at h2 ⊢
      exact dopAt_t hg1 ((gstep_far hE hs1).2 ⟨t, y, ob, off, agg, n, cs, e0, e1, e2, e3, e4, e5, e6, e7, e8, h2⟩)
  · rw [p1] at h1
    rcases dopAt_cases h1 with ⟨hg2, h2⟩ | ⟨hg2, h2⟩
    · obtain ⟨t', y', ob', off', agg', n', cs', f0, f1, f2, f3, f4, f5, f6, f7, f8, h2⟩ := (gstep_far hE hs2).1 h2
      exact dopAt_t hg2 ((gstep_far hE hs2).2 ⟨t', y', ob', off', agg', n', cs', f0, f1, f2, f3, f4, f5, f6, f7, f8, dopAt_f hg1 (by rw [p1]; exact h2)⟩)
    · refine dopAt_f hg2 ?_
      show dopAt P T E opsA q soft1 o1 K (fr.put o2.dst (.tuple [])) H
      rw [p2] at h2 ⊢
      exact dopAt_f hg1 (by rw [p1]; exact h2)

theorem dopAt_swap (hx : exch E opsA soft1 soft2 o1 o2 = true) (h : dopAt P T E opsA q soft1 o1 (fun fr H => dopAt P T E opsA q soft2 o2 K fr H) fr H) :
    dopAt P T E opsA q soft2 o2 (fun fr H => dopAt P T E opsA q soft1 o1 K fr H) fr H := by
  unfold exch at hx
  by_cases hG : (isApg E o1 || isApg E o2) = true
  · rw [if_pos hG] at hx
    simp only [Bool.and_eq_true, Bool.or_eq_true, Bool.not_eq_true'] at hx
    obtain ⟨hap, ⟨⟨g1, g2⟩, g3⟩ | ⟨⟨g1, g2⟩, g3⟩⟩ := hx
    · rcases besG_inv g3 with g3 | ⟨g3, g4⟩
      · exact dopAt_swapB hap g3 g1 g2 h
      · exact dopAt_swapD hap g3 g4 g1 h
    · rcases besG_inv g3 with g3 | ⟨g3, g4⟩
      · exact dopAt_swapA hap g3 g2 g1 h
      · exact dopAt_swapC hap g4 g3 g1 h
  rw [if_neg hG] at hx
  by_cases hS : (E.contains 999999 && (stoSlot o1).isSome && (stoSlot o2).isSome && stoSlot o1 != stoSlot o2 && o1.dst == none && o2.dst == none) = true
  · simp only [Bool.and_eq_true, Option.isSome_iff_exists, bne_iff_ne, ne_eq, beq_iff_eq] at hS
    obtain ⟨⟨⟨⟨⟨hE, s1, hs1⟩, s2, hs2⟩, hne⟩, hd1⟩, hd2⟩ := hS
    exact dopAt_swapS hE hs1 hs2 (by rintro rfl; exact hne (by rw [hs1, hs2])) h hd1 hd2
  rw [if_neg hS] at hx
  have hn1 : isApg E o1 = false := by cases hh : isApg E o1 <;> simp_all
  have hn2 : isApg E o2 = false := by cases hh : isApg E o2 <;> simp_all
  unfold exchD at hx
  simp only [Bool.and_eq_true] at hx
  obtain ⟨⟨hap, hcls⟩, hsoft⟩ := hx
  obtain ⟨a1, a2, a3⟩ := Oper.apart_spec hap
  have hs1 : ∀ r, clsOf E opsA.toList o1 = .load r → (clsOf E opsA.toList o2 = .eff → soft1 = true ∧ soft2 = true) ∧ (∀ r', clsOf E opsA.toList o2 = .sto r' → soft2 = true) := by
    intro r hr
    rw [hr] at hsoft
    refine ⟨fun he => ?_, fun r' he => ?_⟩ <;> rw [he] at hsoft
    · simpa using hsoft
    · exact hsoft
  have hs2 : ∀ r, clsOf E opsA.toList o2 = .load r → (clsOf E opsA.toList o1 = .eff → soft2 = true ∧ soft1 = true) ∧ (∀ r', clsOf E opsA.toList o1 = .sto r' → soft1 = true) := by
    intro r hr
    rw [hr] at hsoft
    refine ⟨fun he => ?_, fun r' he => ?_⟩ <;> rw [he] at hsoft
    · have : soft1 = true ∧ soft2 = true := by simpa using hsoft
      exact ⟨this.2, this.1⟩
    · exact hsoft
  unfold dopAt at h
  simp only [gstep_sto hn1, gstep_sto hn2] at h
  split at h
  · -- the first one is carried out
    rename_i hg1
    obtain ⟨far1, h⟩ := h
    obtain ⟨f1, H1, hr1, h⟩ := dstep_out h
    have hl1 := drel_left hr1
    have hg2 : guardA opsA o2 f1 = guardA opsA o2 fr := guard_left hl1 a1
    rw [hg2] at h
    unfold dopAt
    simp only [gstep_sto hn1, gstep_sto hn2]
    split at h
    · rename_i hg2'
      obtain ⟨far2, h⟩ := h
      obtain ⟨f2, H2, hr2, hK⟩ := dstep_out h
      obtain ⟨f, h', hr2', hr1'⟩ := drel_swap hap hcls hs1 hs2 hr1 hr2
      refine ⟨farC_congr (fun x hx => (ev_left (T := T) (opsA := opsA) hl1 a1 x hx).symm) far2, dstep_of hr2' ?_⟩
      have : guardA opsA o1 f = guardA opsA o1 fr := guard_left (drel_left hr2') a3
      rw [this, hg1]
      exact ⟨farC_congr (ev_left (T := T) (opsA := opsA) (drel_left hr2') a3) far1, dstep_of hr1' hK⟩
    · rename_i hg2'
      show match guardA opsA o1 (fr.put o2.dst (.tuple [])) with
        | some true => farC T E q (fr.put o2.dst (.tuple [])) o1 ∧ dstep P T E opsA.toList q soft1 o1 K (fr.put o2.dst (.tuple [])) H
        | some false => K ((fr.put o2.dst (.tuple [])).put o1.dst (.tuple [])) H
        | none => False
      rw [guard_put a3, hg1]
      simp only
      refine ⟨farC_congr (ev_put a3) far1, ?_⟩
      cases hd : o2.dst with
      | none => rw [hd] at h; exact dstep_of hr1 h
      | some d => rw [hd] at h; exact dstep_of (drel_put (opsA := opsA) _ (a3 d hd) (fun e => a2 d e hd) hr1) h
    · exact h.elim
  · -- the first one is left out
    rename_i hg1
    have hg2 : guardA opsA o2 (fr.put o1.dst (.tuple [])) = guardA opsA o2 fr := guard_put a1
    rw [hg2] at h
    unfold dopAt
    simp only [gstep_sto hn1, gstep_sto hn2]
    split at h
    · rename_i hg2'
      obtain ⟨far2, h⟩ := h
      obtain ⟨f2, H2, hr2, hK⟩ := dstep_out h
      have hun : ∃ f, DRel P T E opsA.toList q soft2 o2 fr H f H2 ∧ f.put o1.dst (.tuple []) = f2 := by
        cases hd : o1.dst with
        | none => rw [hd] at hr2; exact ⟨f2, hr2, rfl⟩
        | some d => rw [hd] at hr2; exact drel_unput (opsA := opsA) (a1 d hd) (a2 d hd) hr2
      obtain ⟨f, hf1, hf2⟩ := hun
      refine ⟨farC_congr (fun x hx => (ev_put a1 x hx).symm) far2, dstep_of hf1 ?_⟩
      have : guardA opsA o1 f = guardA opsA o1 fr := guard_left (drel_left hf1) a3
      rw [this, hg1]
      show K (f.put o1.dst (.tuple [])) H2
      rw [hf2]
      exact hK
    · rename_i hg2'
      show match guardA opsA o1 (fr.put o2.dst (.tuple [])) with
        | some true => farC T E q (fr.put o2.dst (.tuple [])) o1 ∧ dstep P T E opsA.toList q soft1 o1 K (fr.put o2.dst (.tuple [])) H
        | some false => K ((fr.put o2.dst (.tuple [])).put o1.dst (.tuple [])) H
        | none => False
      rw [guard_put a3, hg1]
      simp only
      have : (fr.put o2.dst (.tuple [])).put o1.dst (.tuple []) = (fr.put o1.dst (.tuple [])).put o2.dst (.tuple []) := by
        cases hd1 : o1.dst with
        | none => rfl
        | some d1 =>
          cases hd2 : o2.dst with
          | none => rfl
          | some d2 => exact put_put_comm fr (fun e => a2 d1 hd1 (by rw [hd2, e])) _ _
      rw [this]
      exact h
    · exact h.elim
  · exact h.elim

theorem drun_front {sf : Nat → Bool} {i : Nat} (hi : opsA[i]? = some o) (post : List Nat) : ∀ (pre : List Nat) (fr : Fr) (H : Heap), (∀ j ∈ pre, ∀ oj, opsA[j]? = some oj → exch E opsA (sf j) (sf i) oj o = true) →
    drun P T E opsA q sf (pre ++ i :: post) K fr H → dopAt P T E opsA q (sf i) o (fun fr H => drun P T E opsA q sf (pre ++ post) K fr H) fr H := by
  intro pre
  induction pre with
  | nil =>
    intro fr H _ h
    simp only [List.nil_append, drun, hi] at h
    exact h
  | cons j pre ih =>
    intro fr H hex h
    simp only [List.cons_append, drun] at h ⊢
    split at h
    · rename_i oj hj
      have h1 := dopAt_mono (fun fr H h => ih fr H (fun k hk => hex k (by simp [hk])) h) h
      have h2 := dopAt_swap (hex j (by simp) oj hj) h1
      exact h2
    · exact h.elim

end

/-! ### whatever order is drawn -/

/-- The text's order is an order: an operation waits for earlier ones. -/
def edgesBack (opsA : Array Oper) : Bool := opsA.toList.zipIdx.all fun (o, i) => o.after.all fun e => !Region.binds .any e || decide (e.on < i)

/-- 'M i j': operation i waits for operation j, directly or by others. -/
def closeOk (opsA : Array Oper) (M : Array Nat) : Bool :=
  (List.range opsA.size).all fun i => (List.range opsA.size).all fun j => !(M.getD i 0).testBit j ||
    (opsA.getD i default).after.toList.any fun e => Region.binds .any e && (e.on == j || (M.getD e.on 0).testBit j)

def regionOk (E : List Nat) (opsA : Array Oper) (sf : Nat → Bool) : Bool :=
  let M := Region.before opsA
  edgesBack opsA && closeOk opsA M &&
  (List.range opsA.size).all fun i => (List.range i).all fun j => (M.getD i 0).testBit j || exch E opsA (sf j) (sf i) (opsA.getD j default) (opsA.getD i default)

section
variable {P : Program} {T : Tabs} {E : List Nat} {opsA : Array Oper} {q : Qt} {sf : Nat → Bool} {K : Fr → Heap → Prop}

def remOf (opsA : Array Oper) (listed : Array Bool) : List Nat := (List.range opsA.size).filter fun i => !listed.getD i true

theorem mem_rem {listed : Array Bool} {i : Nat} : i ∈ remOf opsA listed ↔ i < opsA.size ∧ listed.getD i true = false := by
  simp [remOf]

/-- All that waits is behind what it waits for. -/
def Closed (M : Array Nat) (opsA : Array Oper) (listed : Array Bool) : Prop := ∀ i j, i < opsA.size → j < opsA.size → listed.getD i false = true → (M.getD i 0).testBit j = true → listed.getD j false = true

theorem getD_set_self {listed : Array Bool} {i : Nat} (d : Bool) (h : i < listed.size) : (listed.setIfInBounds i true).getD i d = true := by
  simp [h]

theorem ready_of_min {opsA : Array Oper} (hback : edgesBack opsA = true) {listed : Array Bool} (hsz : listed.size = opsA.size) {i : Nat} (hi : i < opsA.size) (hun : listed.getD i true = false)
    (hmin : ∀ j, j < i → listed.getD j false = true) : i ∈ Region.ready .any opsA listed := by
  rw [mem_ready]
  refine ⟨hun, opsA[i], Array.getElem?_eq_getElem hi, fun e he hb => ?_⟩
  refine hmin _ ?_
  unfold edgesBack at hback
  rw [List.all_eq_true] at hback
  have hmem : (opsA[i], i) ∈ opsA.toList.zipIdx := by
    rw [List.mem_zipIdx_iff_getElem?]
    simp [hi]
  have := hback _ hmem
  simp only [Array.all_eq_true_iff_forall_mem] at this
  have := this e he
  rw [hb] at this
  simpa using this

theorem deps_listed {opsA : Array Oper} {M : Array Nat} (hM : closeOk opsA M = true) (hback : edgesBack opsA = true) {listed : Array Bool} (hcl : Closed M opsA listed) {i : Nat} (hr : i ∈ Region.ready .any opsA listed) {j : Nat} (hj : j < opsA.size)
    (hb : (M.getD i 0).testBit j = true) : listed.getD j false = true := by
  obtain ⟨hun, o, ho, hall⟩ := mem_ready.1 hr
  have hi : i < opsA.size := (Array.getElem?_eq_some_iff.1 ho).1
  unfold closeOk at hM
  rw [List.all_eq_true] at hM
  have := hM i (by simpa using hi)
  rw [List.all_eq_true] at this
  have := this j (by simpa using hj)
  rw [hb] at this
  simp only [Bool.not_true, Bool.false_or, List.any_eq_true, Array.mem_toList_iff, Bool.and_eq_true, Bool.or_eq_true, beq_iff_eq] at this
  obtain ⟨e, he, hbe, hor⟩ := this
  have hoe : opsA.getD i default = o := by rw [Array.getD_eq_getD_getElem?, ho]; rfl
  rw [hoe] at he
  have hl := hall e he hbe
  rcases hor with rfl | hor
  · exact hl
  · have hon : e.on < opsA.size := by
      unfold edgesBack at hback
      rw [List.all_eq_true] at hback
      have hmem : (o, i) ∈ opsA.toList.zipIdx := by
        rw [List.mem_zipIdx_iff_getElem?]
        simpa using ho
      have := hback _ hmem
      simp only [Array.all_eq_true_iff_forall_mem] at this
      have := this e he
      rw [hbe] at this
      have : e.on < i := by simpa using this
      omega
    exact hcl e.on j hon hj hl hor

theorem rem_split {listed : Array Bool} (hsz : listed.size = opsA.size) {i : Nat} (hi : i < opsA.size) (hun : listed.getD i true = false) :
    ∃ pre post, remOf opsA listed = pre ++ i :: post ∧ remOf opsA (listed.setIfInBounds i true) = pre ++ post ∧ ∀ j ∈ pre, j < i ∧ listed.getD j true = false := by
  have hr : List.range opsA.size = List.range i ++ i :: (List.range' (i + 1) (opsA.size - i - 1)) := by
    rw [List.range_eq_range', List.range_eq_range']
    have : opsA.size = i + (1 + (opsA.size - i - 1)) := by omega
    conv => lhs; rw [this]
    rw [← List.range'_append_1]
    congr 1
    rw [show 1 + (opsA.size - i - 1) = (opsA.size - i - 1) + 1 by omega, List.range'_succ]
    simp
  refine ⟨(List.range i).filter (fun j => !listed.getD j true), (List.range' (i + 1) (opsA.size - i - 1)).filter (fun j => !listed.getD j true), ?_, ?_, ?_⟩
  · unfold remOf
    rw [hr, List.filter_append, List.filter_cons_of_pos (by simp [hun])]
  · unfold remOf
    rw [hr, List.filter_append, List.filter_cons_of_neg (by rw [getD_set_self _ (by omega)]; simp)]
    congr 1
    · refine List.filter_congr fun j hj => ?_
      have : j < i := by simpa using hj
      rw [getD_set_ne true (by omega)]
    · refine List.filter_congr fun j hj => ?_
      have := (List.mem_range'_1.1 hj).1
      rw [getD_set_ne true (by omega)]
  · intro j hj
    rw [List.mem_filter] at hj
    exact ⟨by simpa using hj.1, by simpa using hj.2⟩

variable {n : Nat} {G0 : Nat → Nat} {F0 : Imm} {n0 : Nat} {w0 : World}

theorem getD_false_true {listed : Array Bool} {i : Nat} (hi : i < listed.size) : listed.getD i false = listed.getD i true := by
  simp [hi]

theorem drun_any {Q : Exit → Act → World → Prop} (hok : regionOk E opsA sf = true) (hfit : opsFit n opsA = true) (hQ : ∀ fr' H' a' w', K fr' H' → SR T n G0 F0 n0 w0 fr' H' a' w' → Q .normal a' w') :
    ∀ (fuel : Nat) (listed : Array Bool) (fr : Fr) (H : Heap) (a : Act) (w : World), listed.size = opsA.size → Closed (Region.before opsA) opsA listed → (remOf opsA listed).length ≤ fuel →
      SR T n G0 F0 n0 w0 fr H a w → drun P T E opsA q sf (remOf opsA listed) K fr H → wpAny P .any opsA Q fuel listed a w := by
  unfold regionOk at hok
  simp only [Bool.and_eq_true] at hok
  obtain ⟨⟨hback, hM⟩, hpairs⟩ := hok
  have hdone : ∀ {listed : Array Bool}, listed.size = opsA.size → Region.ready .any opsA listed = [] → remOf opsA listed = [] := by
    intro listed hsz hr
    cases hrem : remOf opsA listed with
    | nil => rfl
    | cons i rest =>
      exfalso
      -- the first one that has not come up may come up
      have hmem : i ∈ remOf opsA listed := by rw [hrem]; simp
      have hex : ∃ k, k < opsA.size ∧ listed.getD k true = false := ⟨i, mem_rem.1 hmem⟩
      obtain ⟨k, ⟨hk1, hk2⟩, hmin⟩ : ∃ k, (k < opsA.size ∧ listed.getD k true = false) ∧ ∀ j, j < k → ¬ (j < opsA.size ∧ listed.getD j true = false) := by
        clear hrem hmem
        obtain ⟨k, hk⟩ := hex
        induction k using Nat.strongRecOn with
        | _ k ih =>
          by_cases h : ∃ j, j < k ∧ (j < opsA.size ∧ listed.getD j true = false)
          · obtain ⟨j, hj1, hj2⟩ := h
            exact ih j hj1 hj2
          · exact ⟨k, hk, fun j hj hc => h ⟨j, hj, hc⟩⟩
      have := ready_of_min hback hsz hk1 hk2 fun j hj => by
        have hn := hmin j hj
        have hjs : j < opsA.size := by omega
        rw [getD_false_true (by omega)]
        cases hb : listed.getD j true with
        | true => rfl
        | false => exact absurd ⟨hjs, hb⟩ hn
      rw [hr] at this
      cases this
  intro fuel
  induction fuel with
  | zero =>
    intro listed fr H a w hsz hcl hlen hs h
    have hrem : remOf opsA listed = [] := List.eq_nil_of_length_eq_zero (by omega)
    rw [hrem] at h
    refine ⟨?_, hQ _ _ _ _ h hs⟩
    cases hr : Region.ready .any opsA listed with
    | nil => rfl
    | cons i rest =>
      have hm : i ∈ Region.ready .any opsA listed := by rw [hr]; simp
      obtain ⟨hun, o, ho, _⟩ := mem_ready.1 hm
      have : i ∈ remOf opsA listed := mem_rem.2 ⟨(Array.getElem?_eq_some_iff.1 ho).1, hun⟩
      rw [hrem] at this
      cases this
  | succ fuel ih =>
    intro listed fr H a w hsz hcl hlen hs h
    refine ⟨fun hr => ?_, fun i hi => ?_⟩
    · rw [hdone hsz hr] at h
      exact hQ _ _ _ _ h hs
    · obtain ⟨hun, o, ho, hall⟩ := mem_ready.1 hi
      have hlt : i < opsA.size := (Array.getElem?_eq_some_iff.1 ho).1
      obtain ⟨pre, post, h1, h2, h3⟩ := rem_split hsz hlt hun
      rw [h1] at h
      have hfront := drun_front (P := P) (T := T) (E := E) (opsA := opsA) (q := q) (K := K) (sf := sf) ho post pre fr H (by
        intro j hj oj hoj
        obtain ⟨hj1, hj2⟩ := h3 j hj
        rw [List.all_eq_true] at hpairs
        have := hpairs i (by simpa using hlt)
        rw [List.all_eq_true] at this
        have := this j (by simpa using hj1)
        simp only [Bool.or_eq_true] at this
        have e1 : opsA.getD j default = oj := by rw [Array.getD_eq_getD_getElem?, hoj]; rfl
        have e2 : opsA.getD i default = o := by rw [Array.getD_eq_getD_getElem?, ho]; rfl
        rw [e1, e2] at this
        rcases this with hb | hb
        · have := deps_listed hM hback hcl hi (by omega) hb
          rw [getD_false_true (by omega), hj2] at this
          cases this
        · exact hb) h
      have hof : operFits n o = true := Array.all_eq_true_iff_forall_mem.1 hfit o (Array.mem_of_getElem? ho)
      refine aopAt_sound ho hof hs (dopAt_aopAt hfront) ?_
      intro fr' H' a' w' hK hs'
      refine ih (listed.setIfInBounds i true) fr' H' a' w' (by simpa using hsz) ?_ ?_ hs' (by rw [h2]; exact hK)
      · -- still closed
        intro i' j' hi' hj' hl hb
        by_cases he : j' = i
        · subst he
          exact getD_set_self _ (by omega)
        · rw [getD_set_ne false (fun e => he e.symm)]
          by_cases he' : i' = i
          · subst he'
            exact deps_listed hM hback hcl hi hj' hb
          · rw [getD_set_ne false (fun e => he' e.symm)] at hl
            exact hcl i' j' hi' hj' hl hb
      · rw [h1] at hlen
        rw [h2]
        simp only [List.length_append, List.length_cons] at hlen ⊢
        omega

end

section
variable {P : Program} {T : Tabs} {n : Nat} {Q : Exit → Fr → Heap → Prop} {fr : Fr} {H : Heap}

theorem SR.drew {G0 : Nat → Nat} {F0 : Imm} {n0 : Nat} {w0 : World} {a : Act} {w : World} (hs : SR T n G0 F0 n0 w0 fr H a w) : SR T n G0 F0 n0 w0 fr H a w.drew := by
  obtain ⟨ρ, F, R, hw, hx⟩ := hs
  exact ⟨ρ, F, R, hw.drew, hx.drew⟩

/-- A region that draws its order, walked in the order of its text. -/
theorem AWp.regionD' {id : Nat} {ops : Array Oper} (E : List Nat) (q : Qt) (sf : Nat → Bool) (hm : P.follows .mixedOrders = true) (hfit : opsFit n ops = true) (hok : regionOk E ops sf = true)
    (h : drun P T E ops q sf (List.range ops.size) (Q .normal) fr H) : AWp P T n (.region id ops true) Q fr H := by
  intro G0 F0 n0 w0 a w hs
  refine wp_region_any hm ?_
  have hrem : remOf ops (Array.replicate ops.size false) = List.range ops.size := by
    unfold remOf
    rw [List.filter_eq_self]
    intro i hi
    have : i < ops.size := by simpa using hi
    simp [this]
  have := drun_any (Q := fun e a' w' => ∃ fr' H', Q e fr' H' ∧ SR T n G0 F0 n0 w0 fr' H' a' w') hok hfit (fun fr' H' a' w' h1 h2 => ⟨fr', H', h1, h2⟩) ops.size (Array.replicate ops.size false) fr H a w.drew (by simp)
    (by intro i j hi hj hl; simp [hi] at hl) (by rw [hrem]; simp) hs.drew (by rw [hrem]; exact h)
  exact this

/-- The same as a list, with one word for all: every load beside a call is none of a shared object (or the calls change nothing). -/
def drunL (P : Program) (T : Tabs) (E : List Nat) (opsA : Array Oper) (q : Qt) : List Oper → (Fr → Heap → Prop) → Fr → Heap → Prop
  | [], K, fr, H => K fr H
  | o :: rest, K, fr, H => dopAt P T E opsA q true o (fun fr H => drunL P T E opsA q rest K fr H) fr H

theorem drun_of_list {E : List Nat} {ops : Array Oper} {q : Qt} {K : Fr → Heap → Prop} : ∀ (l : List Oper) (k : Nat) (fr : Fr) (H : Heap), l = ops.toList.drop k → drunL P T E ops q l K fr H → drun P T E ops q (fun _ => true) (List.range' k l.length) K fr H := by
  intro l
  induction l with
  | nil => intro k fr H _ h; exact h
  | cons o l ih =>
    intro k fr H hl h
    have hlt : k < ops.toList.length := by
      rcases Nat.lt_or_ge k ops.toList.length with h' | h'
      · exact h'
      · rw [List.drop_eq_nil_of_le h'] at hl; cases hl
    have hd := List.drop_eq_getElem_cons hlt
    rw [hd] at hl
    injection hl with h1 h2
    have hi : ops[k]? = some o := by
      rw [h1]
      simp only [Array.getElem_toList]
      exact Array.getElem?_eq_getElem (by simpa using hlt)
    simp only [List.length_cons, List.range'_succ, drun, hi]
    exact dopAt_mono (fun fr H h => ih (k + 1) fr H h2 h) h

theorem AWp.regionD {id : Nat} {ops : Array Oper} (E : List Nat) (q : Qt) (hm : P.follows .mixedOrders = true) (hfit : opsFit n ops = true) (hok : regionOk E ops (fun _ => true) = true)
    (h : drunL P T E ops q ops.toList (Q .normal) fr H) : AWp P T n (.region id ops true) Q fr H := by
  refine AWp.regionD' E q (fun _ => true) hm hfit hok ?_
  have := drun_of_list (K := Q .normal) ops.toList 0 fr H (by simp) h
  rw [List.range_eq_range']
  simpa using this

end
end Go.Abs

/-
  The abstract layer, part O: rules in the form in which walks use them.
-/
namespace Go.Abs
open Go

section
variable {P : Program} {T : Tabs} {n : Nat} {Q : Exit → Fr → Heap → Prop} {fr : Fr} {H : Heap}

/-- Two pieces of code, the second one hidden behind a name. -/
theorem AWp.seqK {x y : Code} (h : ∀ K : Fr → Heap → Prop, (∀ fr H, AWp P T n y Q fr H → K fr H) → AWp P T n x (thenQ K Q) fr H) : AWp P T n (.seq x y) Q fr H :=
  AWp.seq (h _ fun _ _ h => h)

theorem AWp.blockK {id : Nat} {c : Code} (h : ∀ Q' : Exit → Fr → Heap → Prop, (∀ fr H, Q .normal fr H → Q' .normal fr H) → (∀ fr H, Q .normal fr H → Q' (.exit id) fr H) →
    (∀ id' fr H, id' ≠ id → Q (.exit id') fr H → Q' (.exit id') fr H) → (∀ fr H, Q .ret fr H → Q' .ret fr H) → AWp P T n c Q' fr H) : AWp P T n (.block id c) Q fr H := by
  refine AWp.block (h (blockQ id Q) (fun _ _ h => h) (fun _ _ h => ?_) (fun id' _ _ hne h => ?_) (fun _ _ h => h))
  · simp only [blockQ, if_true]; exact h
  · simp only [blockQ, if_neg hne]; exact h

theorem AWp.scopeK {c : Code} (h : ∀ Q' : Exit → Fr → Heap → Prop, (∀ fr H, Q .normal fr H → Q' .normal fr H) →
    (∀ id' fr H, True → Q (.exit id') fr H → Q' (.exit id') fr H) → (∀ fr H, Q .ret fr H → Q' .ret fr H) → AWp P T n c Q' fr H) : AWp P T n (.scope c) Q fr H :=
  AWp.scope (h _ (fun _ _ h => ⟨trivial, h⟩) (fun _ _ _ _ h => ⟨trivial, h⟩) (fun _ _ h => ⟨trivial, h⟩))

/-- A loop as a round, and what holds at its head. -/
theorem AWp.loopI {c : Code} (I : Fr → Heap → Prop) (μ : Fr → Heap → Nat) (h0 : I fr H) (hr : ∀ fr H, I fr H → AWp P T n c (thenQ (fun fr' H' => I fr' H' ∧ μ fr' H' < μ fr H) Q) fr H) : AWp P T n (.loop c) Q fr H := by
  refine AWp.loop ?_
  have key : ∀ k fr H, μ fr H = k → I fr H → ALp P T n c Q fr H := by
    intro k
    induction k using Nat.strongRecOn with
    | _ k ih =>
      intro fr H hk hI
      refine ALp.round (AWp.mono (hr fr H hI) ?_)
      intro e fr' H' hq
      cases e with
      | normal => exact ih _ (hk ▸ hq.2) fr' H' rfl hq.1
      | _ => exact hq
  exact key _ fr H rfl h0

end

@[simp] theorem thenQ_normal (K : Fr → Heap → Prop) (Q : Exit → Fr → Heap → Prop) : thenQ K Q .normal = K := rfl
@[simp] theorem thenQ_exit (K : Fr → Heap → Prop) (Q : Exit → Fr → Heap → Prop) (id : Nat) : thenQ K Q (.exit id) = Q (.exit id) := rfl
@[simp] theorem thenQ_ret (K : Fr → Heap → Prop) (Q : Exit → Fr → Heap → Prop) : thenQ K Q .ret = Q .ret := rfl

end Go.Abs
