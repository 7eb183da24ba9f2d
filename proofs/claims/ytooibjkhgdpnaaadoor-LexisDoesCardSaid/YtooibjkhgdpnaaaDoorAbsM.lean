/- A part of the proof of LexisDoes: contracts of functions of the program, and what they need. -/
import Derived.Test.YtooibjkhgdpnaaaDoorAbsL
/-
  The abstract layer, part M: two operations that do not wait for each other, exchanged.
-/
set_option linter.unusedSimpArgs false
set_option linter.unusedVariables false
namespace Go.Abs
open Go

theorem upd_comm {α : Type} (f : Nat → α) {i j : Nat} (h : i ≠ j) (x y : α) : upd (upd f i x) j y = upd (upd f j y) i x := by
  funext k
  simp only [upd]
  by_cases h1 : k = j
  · subst h1
    rw [if_pos rfl, if_neg (fun e => h e.symm), if_pos rfl]
  · rw [if_neg h1]
    by_cases h2 : k = i
    · rw [if_pos h2, if_pos h2]
    · rw [if_neg h2, if_neg h2, if_neg h1]

/-- A frame with a new box. -/
def allocFr (fr : Fr) (d : Nat) (cs : List AV) : Fr :=
  { fr with env := upd fr.env d (.lptr d (fr.gen d + 1) 0), box := upd fr.box d (some cs), gen := upd fr.gen d (fr.gen d + 1) }

def acells (P : Program) (T : Tabs) (fr : Fr) (o : Oper) : Option (List AV) :=
  match o.op with
  | .alloc t => zeroA P t
  | .box _ x => if notTuple (ev T fr x) = true then some (ev T fr x).cells else none
  | _ => none

/-- What an append comes to: a grown slice, or the same. -/
inductive AppOut where
  | grow (tag : Tag) (l m : List AV)
  | same (l : List AV)

def AppOut.fr (fr : Fr) (d : Nat) : AppOut → Fr
  | .grow tag l m => grown fr d tag l m
  | .same l => fr.put (some d) (.slice .frz l)

def AppIs (P : Program) (T : Tabs) (fr : Fr) (c : Call) (x : AppOut) : Prop :=
  ∃ s y t e sz tag tag' l m, c.args.toList = [s, y] ∧ c.argTypes.toList = [t, t] ∧ apOf P t = some (e, sz) ∧ ev T fr s = .slice tag l ∧ ev T fr y = .slice tag' m ∧ headOk sz l = true ∧ headOk sz m = true ∧ l.length + m.length ≤ growLim ∧
    (canGrow fr tag l = true ∧ x = .grow tag l m ∨ canGrow fr tag l = false ∧ m = [] ∧ x = .same l)

section
variable {P : Program} {T : Tabs} {E : List Nat} {ops : List Oper} {opsA : Array Oper} {q soft soft1 soft2 : Bool} {o o1 o2 : Oper} {K : Fr → Heap → Prop} {fr fr1 fr2 fr' : Fr} {H H1 H2 H' : Heap}

theorem app_inv {c : Call} {dst : Option Nat} (h : appendA P T c dst (fun f h => f = fr' ∧ h = H') fr H) : ∃ d x, dst = some d ∧ AppIs P T fr c x ∧ fr' = x.fr fr d ∧ H' = H := by
  unfold appendA at h
  split at h
  · rename_i d s y t t' hargs htys
    split at h
    · rename_i e sz tag l tag' m h1 h2 h3
      obtain ⟨rfl, g2, g3, g4, g5⟩ := h
      split at g5
      · rename_i hc
        exact ⟨d, .grow tag l m, rfl, ⟨s, y, t', e, sz, tag, tag', l, m, hargs, htys, h1, h2, h3, g2, g3, g4, .inl ⟨hc, rfl⟩⟩, g5.1.symm, g5.2.symm⟩
      · rename_i hc
        exact ⟨d, .same l, rfl, ⟨s, y, t', e, sz, tag, tag', l, m, hargs, htys, h1, h2, h3, g2, g3, g4, .inr ⟨by simpa using hc, g5.1, rfl⟩⟩, g5.2.1.symm, g5.2.2.symm⟩
    · exact h.elim
  · exact h.elim

theorem app_mk {c : Call} {d : Nat} {x : AppOut} (hx : AppIs P T fr c x) (hk : K (x.fr fr d) H) : appendA P T c (some d) K fr H := by
  obtain ⟨s, y, t, e, sz, tag, tag', l, m, h1, h2, h3, h4, h5, h6, h7, h8, h9⟩ := hx
  unfold appendA
  rw [h1, h2]
  simp only [h3, h4, h5]
  refine ⟨trivial, h6, h7, h8, ?_⟩
  rcases h9 with ⟨hc, rfl⟩ | ⟨hc, hm, rfl⟩
  · rw [if_pos hc]; exact hk
  · rw [if_neg (by simp [hc])]; exact ⟨hm, hk⟩

theorem AppIs.congr {c : Call} {x : AppOut} (hx : AppIs P T fr c x) (he : ∀ y ∈ c.args.toList, ev T fr y = ev T fr' y) (ht : fr'.tab = fr.tab) (hg : fr'.tgen = fr.tgen) : AppIs P T fr' c x := by
  obtain ⟨s, y, t, e, sz, tag, tag', l, m, h1, h2, h3, h4, h5, h6, h7, h8, h9⟩ := hx
  have hcg : canGrow fr' tag l = canGrow fr tag l := by unfold canGrow; rw [ht, hg]
  exact ⟨s, y, t, e, sz, tag, tag', l, m, h1, h2, h3, by rw [← he s (by rw [h1]; simp)]; exact h4, by rw [← he y (by rw [h1]; simp)]; exact h5, h6, h7, h8, by rw [hcg]; exact h9⟩

/-- The forms of a step, by its kind. -/
theorem drel_val (hc : clsOf E ops o = .val ∨ ∃ r, clsOf E ops o = .load r) (h : DRel P T E ops q soft o fr H fr' H') : ∃ v, dval P T E ops q soft fr H o = some v ∧ fr' = fr.put o.dst v ∧ H' = H := by
  unfold DRel at h
  obtain ⟨dst, op, type, pos, after, guard⟩ := o
  have key : ∀ {x : Option AV}, (match x with | some v => (fun f h => f = fr' ∧ h = H') (fr.put dst v) H | none => False) → ∃ v, x = some v ∧ fr' = fr.put dst v ∧ H' = H := by
    intro x hx
    split at hx
    · exact ⟨_, rfl, hx.1.symm, hx.2.symm⟩
    · exact hx.elim
  cases op with
  | alloc t => simp only [clsOf] at hc; split at hc <;> (try split at hc) <;> simp at hc
  | box t x => simp only [clsOf] at hc; split at hc <;> (try split at hc) <;> simp at hc
  | store t x y => simp [clsOf] at hc
  | call c =>
    obtain ⟨callee, args, tys⟩ := c
    cases callee with
    | builtin b => cases b <;> first | (simp [clsOf] at hc; done) | (simp only [dstep] at h; exact key h)
    | value f => simp [clsOf] at hc
    | invoke r m => simp [clsOf] at hc
  | _ => simp only [dstep] at h; exact key h

theorem dval_drel {v : AV} (h : dval P T E ops q soft fr H o = some v) : DRel P T E ops q soft o fr H (fr.put o.dst v) H := by
  unfold DRel
  obtain ⟨dst, op, type, pos, after, guard⟩ := o
  cases op with
  | alloc t => simp [dval] at h
  | box t x => simp [dval] at h
  | store t x y => simp [dval] at h
  | call c =>
    obtain ⟨callee, args, tys⟩ := c
    cases callee with
    | builtin b => cases b <;> first | (simp [dval] at h; done) | (simp only [dstep]; rw [h]; first | exact ⟨rfl, rfl⟩ | exact ⟨rfl, trivial⟩)
    | value f => simp [dval] at h
    | invoke r m => simp [dval] at h
  | _ => simp only [dstep]; rw [h]; first | exact ⟨rfl, rfl⟩ | exact ⟨rfl, trivial⟩

theorem drel_alloc {d : Option Nat} (hc : clsOf E ops o = .alloc d) (h : DRel P T E ops q soft o fr H fr' H') : ∃ d' cs, d = some d' ∧ o.dst = some d' ∧ E.contains d' = false ∧ acells P T fr o = some cs ∧ fr' = allocFr fr d' cs ∧ H' = H := by
  unfold DRel at h
  obtain ⟨dst, op, type, pos, after, guard⟩ := o
  have key : ∀ {cs : List AV} {d' : Nat}, dst = some d' → E.contains d' = false → allocA E dst cs (fun f h => f = fr' ∧ h = H') fr H → fr' = allocFr fr d' cs ∧ H' = H := by
    intro cs d' hd hE ha
    subst hd
    unfold allocA at ha
    simp only at ha
    rw [if_neg (by simp only [hE]; simp)] at ha
    exact ⟨ha.1.symm, ha.2.symm⟩
  have hdst : (∃ t, op = .alloc t) ∨ (∃ t x, op = .box t x) → ∃ d', d = some d' ∧ dst = some d' ∧ E.contains d' = false := by
    intro hop
    have : (match dst with | some d => if E.contains d = true then Cls.eff else .alloc (some d) | none => .eff) = .alloc d := by
      rcases hop with ⟨t, rfl⟩ | ⟨t, x, rfl⟩ <;> exact hc
    split at this
    · rename_i d'
      split at this
      · cases this
      · rename_i hE
        cases this
        exact ⟨d', rfl, rfl, by simpa using hE⟩
    · cases this
  cases op with
  | alloc t =>
    obtain ⟨d', h1, h2, h3⟩ := hdst (.inl ⟨t, rfl⟩)
    simp only [dstep] at h
    split at h
    · rename_i z hz
      obtain ⟨g1, g2⟩ := key h2 h3 h.2
      exact ⟨d', _, h1, h2, h3, by simp only [acells, hz], g1, g2⟩
    · exact h.elim
  | box t x =>
    obtain ⟨d', h1, h2, h3⟩ := hdst (.inr ⟨t, x, rfl⟩)
    simp only [dstep] at h
    obtain ⟨g1, g2⟩ := key h2 h3 h.2.2
    exact ⟨d', _, h1, h2, h3, by simp only [acells]; rw [if_pos h.1], g1, g2⟩
  | call c =>
    obtain ⟨callee, args, tys⟩ := c
    cases callee with
    | builtin b => cases b <;> simp [clsOf] at hc
    | value f => simp [clsOf] at hc
    | invoke r m => simp [clsOf] at hc
  | _ => simp [clsOf] at hc

theorem acells_drel {d : Nat} {cs : List AV} (hd : o.dst = some d) (hE : E.contains d = false) (h : acells P T fr o = some cs) : DRel P T E ops q soft o fr H (allocFr fr d cs) H := by
  unfold DRel
  obtain ⟨dst, op, type, pos, after, guard⟩ := o
  simp only at hd
  subst hd
  have key : ∀ cs, allocA E (some d) cs (fun f h => f = allocFr fr d cs ∧ h = H) fr H := by
    intro cs
    unfold allocA
    simp only
    rw [if_neg (by simp only [hE]; simp)]
    first | exact ⟨rfl, rfl⟩ | exact ⟨rfl, trivial⟩
  cases op with
  | alloc t =>
    simp only [acells] at h
    simp only [dstep, h]
    exact ⟨fun _ => by simpa using hE, key _⟩
  | box t x =>
    simp only [acells] at h
    split at h
    · rename_i hc
      cases h
      simp only [dstep]
      exact ⟨hc, fun _ => by simpa using hE, key _⟩
    · cases h
  | _ => simp [acells] at h

theorem acells_congr (h : ∀ x ∈ o.op.operands, ev T fr x = ev T fr' x) : acells P T fr o = acells P T fr' o := by
  obtain ⟨dst, op, type, pos, after, guard⟩ := o
  cases op with
  | box t x => simp only [acells]; rw [h x (by simp [Op.operands])]
  | _ => rfl

/-- What a call, or a new shared object, leaves. -/
theorem drel_eff (hc : clsOf E ops o = .eff) (h : DRel P T E ops q soft o fr H fr' H') :
    ∃ r, fr' = fr.put o.dst r ∧ (soft = true → q = true → H' = H) ∧
      ∀ f : Fr, (∀ x ∈ o.op.operands, ev T fr x = ev T f x) → DRel P T E ops q soft o f H (f.put o.dst r) H' := by
  unfold DRel at h
  obtain ⟨dst, op, type, pos, after, guard⟩ := o
  have keyA : ∀ {cs : List AV}, ((∃ t, op = .alloc t) ∨ (∃ t x, op = .box t x)) → allocA E dst cs (fun f h => f = fr' ∧ h = H') fr H →
      ∃ d, dst = some d ∧ E.contains d = true ∧ fr' = fr.put dst (.gptr H.length 0) ∧ H' = H ++ [cs.map AV.ncell] ∧ ∀ f : Fr, allocA E dst cs (fun f' h => f' = f.put dst (.gptr H.length 0) ∧ h = H') f H := by
    intro cs hop ha
    have hm : (match dst with | some d => if E.contains d = true then Cls.eff else .alloc (some d) | none => .eff) = .eff := by
      rcases hop with ⟨t, rfl⟩ | ⟨t, x, rfl⟩ <;> exact hc
    unfold allocA at ha
    split at ha
    · rename_i d
      split at ha
      · rename_i hE
        refine ⟨d, rfl, hE, ha.1.symm, ha.2.symm, fun f => ?_⟩
        unfold allocA
        simp only
        rw [if_pos hE]
        exact ⟨rfl, ha.2⟩
      · rename_i hE
        simp only [if_neg hE] at hm
        cases hm
    · exact ha.elim
  cases op with
  | alloc t =>
    simp only [dstep] at h
    split at h
    · rename_i z hz
      obtain ⟨d, h1, h2, h3, h4, h5⟩ := keyA (.inl ⟨t, rfl⟩) h.2
      refine ⟨_, h3, ?_, fun f hf => ?_⟩
      · intro hs hq
        have := h.1 hs
        rw [h1] at this
        exact absurd this (by simp only [Option.any_some, h2]; simp)
      · unfold DRel
        simp only [dstep, hz]
        exact ⟨h.1, h5 f⟩
    · exact h.elim
  | box t x =>
    simp only [dstep] at h
    obtain ⟨d, h1, h2, h3, h4, h5⟩ := keyA (.inr ⟨t, x, rfl⟩) h.2.2
    refine ⟨_, h3, ?_, fun f hf => ?_⟩
    · intro hs hq
      have := h.2.1 hs
      rw [h1] at this
      exact absurd this (by simp only [Option.any_some, h2]; simp)
    · unfold DRel
      simp only [dstep]
      have e := hf x (by simp [Op.operands])
      refine ⟨by rw [← e]; exact h.1, h.2.1, ?_⟩
      rw [← e]
      exact h5 f
  | call c =>
    obtain ⟨callee, args, tys⟩ := c
    cases callee with
    | builtin b => cases b <;> simp [clsOf] at hc
    | value g =>
      simp only [dstep] at h
      obtain ⟨r, H'', h1, h2, h3, h4⟩ := h
      subst h4
      refine ⟨r, h3.symm, h2, fun f hf => ?_⟩
      unfold DRel
      simp only [dstep]
      refine ⟨r, H'', ?_, h2, rfl, rfl⟩
      have e1 : (args.toList.map fun x => (ev T fr x).norm) = args.toList.map fun x => (ev T f x).norm :=
        List.map_congr_left fun x hx => by rw [hf x (by simp [Op.operands, Call.operands, Array.mem_toList_iff.1 hx])]
      rw [← e1, ← hf g (by simp [Op.operands, Call.operands])]
      exact h1
    | invoke r m => simp only [dstep] at h
  | _ => simp [clsOf] at hc

theorem drel_app (hc : clsOf E ops o = .app) (h : DRel P T E ops q soft o fr H fr' H') :
    ∃ d x, o.dst = some d ∧ fr' = AppOut.fr fr d x ∧ H' = H ∧ ∀ (f : Fr) (h : Heap), (∀ x ∈ o.op.operands, ev T fr x = ev T f x) → f.tab = fr.tab → f.tgen = fr.tgen → DRel P T E ops q soft o f h (AppOut.fr f d x) h := by
  unfold DRel at h
  obtain ⟨dst, op, type, pos, after, guard⟩ := o
  cases op with
  | call c =>
    obtain ⟨callee, args, tys⟩ := c
    cases callee with
    | builtin b =>
      cases b with
      | append =>
        simp only [dstep] at h
        obtain ⟨d, x, h1, h2, h3, h4⟩ := app_inv h
        subst h1
        refine ⟨d, x, rfl, h3, h4, fun f h he ht hg => ?_⟩
        unfold DRel
        simp only [dstep]
        refine app_mk (h2.congr (fun y hy => he y ?_) ht hg) ⟨rfl, rfl⟩
        simp only at hy
        simp [Op.operands, Call.operands, Array.mem_toList_iff.1 hy]
      | _ => simp [clsOf] at hc
    | value g => simp [clsOf] at hc
    | invoke r m => simp [clsOf] at hc
  | alloc t => simp only [clsOf] at hc; split at hc <;> (try split at hc) <;> simp at hc
  | box t x => simp only [clsOf] at hc; split at hc <;> (try split at hc) <;> simp at hc
  | _ => simp [clsOf] at hc

/-- What a store leaves. -/
theorem drel_sto {r : Option Nat} (hc : clsOf E ops o = .sto r) (h : DRel P T E ops q soft o fr H fr' H') : fr'.env = fr.env ∧ fr'.gen = fr.gen ∧ fr'.tab = fr.tab ∧ fr'.tgen = fr.tgen ∧ o.dst = none ∧
    (∀ b, r ≠ some b → fr'.box b = fr.box b) ∧ (soft = true → H' = H) := by
  unfold DRel at h
  obtain ⟨dst, op, type, pos, after, guard⟩ := o
  cases op with
  | store t x y =>
    simp only [clsOf, Cls.sto.injEq] at hc
    simp only [dstep] at h
    obtain ⟨h1, h2, h3, h4⟩ := h
    unfold storeA at h4
    split at h4
    · exact h4.elim
    · split at h4
      · rename_i b g off hx
        split at h4
        · obtain ⟨_, _, _, _, g1, g2⟩ := h4
          subst g1; subst g2
          refine ⟨rfl, rfl, rfl, rfl, h1, fun b' hb' => ?_, fun _ => rfl⟩
          have : r = some b := by
            rw [hx] at h2
            simp only [rootChk, beq_iff_eq] at h2
            rw [← hc]; exact h2
          subst this
          show upd fr.box b _ b' = fr.box b'
          rw [upd_ne]
          rintro rfl
          exact hb' rfl
        · exact h4.elim
      · rename_i o' off hx
        split at h4
        · obtain ⟨_, _, _, _, g1, g2⟩ := h4
          subst g1; subst g2
          refine ⟨rfl, rfl, rfl, rfl, h1, fun _ _ => rfl, fun hs => ?_⟩
          have := h3 hs
          rw [hx] at this
          simp [isL] at this
        · exact h4.elim
      · exact h4.elim
  | call c =>
    obtain ⟨callee, args, tys⟩ := c
    cases callee with
    | builtin b => cases b <;> simp [clsOf] at hc
    | value g => simp [clsOf] at hc
    | invoke r m => simp [clsOf] at hc
  | alloc t => simp only [clsOf] at hc; split at hc <;> (try split at hc) <;> simp at hc
  | box t x => simp only [clsOf] at hc; split at hc <;> (try split at hc) <;> simp at hc
  | _ => simp [clsOf] at hc

theorem put_self (fr : Fr) (d : Nat) : fr.put (some d) (fr.env d) = fr := by
  simp only [Fr.put]
  have : upd fr.env d (fr.env d) = fr.env := by
    funext j
    simp only [upd]
    split
    · rename_i h; rw [h]
    · rfl
  rw [this]

theorem put_put (fr : Fr) (d : Nat) (x y : AV) : (fr.put (some d) x).put (some d) y = fr.put (some d) y := by
  simp only [Fr.put, upd_upd]

/-- Behind a step: what it has left alone. -/
structure Left (c : Cls) (dst : Option Nat) (soft q : Bool) (fr : Fr) (H : Heap) (fr' : Fr) (H' : Heap) : Prop where
  env : ∀ t, dst ≠ some t → fr'.env t = fr.env t
  box : ∀ b, c ≠ .alloc (some b) → c ≠ .sto (some b) → fr'.box b = fr.box b ∧ fr'.gen b = fr.gen b
  heap : c ≠ .eff → (∀ r, c = .sto r → soft = true) → H' = H
  quiet : soft = true → q = true → H' = H

theorem AppOut.left (fr : Fr) (d : Nat) (x : AppOut) : (∀ t, t ≠ d → (AppOut.fr fr d x).env t = fr.env t) ∧ (AppOut.fr fr d x).box = fr.box ∧ (AppOut.fr fr d x).gen = fr.gen := by
  cases x with
  | grow tag l m => exact ⟨fun t ht => by show upd _ _ _ t = _; rw [upd_ne _ _ _ _ ht], rfl, rfl⟩
  | same l => exact ⟨fun t ht => by show upd _ _ _ t = _; rw [upd_ne _ _ _ _ ht], rfl, rfl⟩

theorem drel_left (h : DRel P T E ops q soft o fr H fr' H') : Left (clsOf E ops o) o.dst soft q fr H fr' H' := by
  have penv : ∀ (v : AV) (t : Nat), o.dst ≠ some t → (fr.put o.dst v).env t = fr.env t := by
    intro v t ht
    rw [Fr.put_env, if_neg ht]
  cases hc : clsOf E ops o with
  | val =>
    obtain ⟨v, _, rfl, rfl⟩ := drel_val (.inl hc) h
    obtain ⟨e1, e2, _, _⟩ := Fr.put_rest fr o.dst v
    exact ⟨penv v, fun b _ _ => ⟨by rw [e1], by rw [e2]⟩, fun _ _ => rfl, fun _ _ => rfl⟩
  | load r =>
    obtain ⟨v, _, rfl, rfl⟩ := drel_val (.inr ⟨r, hc⟩) h
    obtain ⟨e1, e2, _, _⟩ := Fr.put_rest fr o.dst v
    exact ⟨penv v, fun b _ _ => ⟨by rw [e1], by rw [e2]⟩, fun _ _ => rfl, fun _ _ => rfl⟩
  | alloc d =>
    obtain ⟨d', cs, rfl, hd, _, _, rfl, rfl⟩ := drel_alloc hc h
    refine ⟨fun t ht => ?_, fun b hb _ => ?_, fun _ _ => rfl, fun _ _ => rfl⟩
    · show upd _ _ _ t = _
      rw [upd_ne]
      rintro rfl
      exact ht hd
    · have hne : b ≠ d' := by rintro rfl; exact hb rfl
      exact ⟨upd_ne _ _ _ _ hne, upd_ne _ _ _ _ hne⟩
  | eff =>
    obtain ⟨r, rfl, hq, _⟩ := drel_eff hc h
    obtain ⟨e1, e2, _, _⟩ := Fr.put_rest fr o.dst r
    exact ⟨penv r, fun b _ _ => ⟨by rw [e1], by rw [e2]⟩, fun hn _ => absurd rfl hn, hq⟩
  | app =>
    obtain ⟨d, x, hd, rfl, rfl, _⟩ := drel_app hc h
    obtain ⟨g1, g2, g3⟩ := AppOut.left fr d x
    exact ⟨fun t ht => g1 t (by rintro rfl; exact ht hd), fun b _ _ => ⟨by rw [g2], by rw [g3]⟩, fun _ _ => rfl, fun _ _ => rfl⟩
  | sto r =>
    obtain ⟨e1, e2, e3, e4, e5, e6, e7⟩ := drel_sto hc h
    exact ⟨fun t _ => by rw [e1], fun b _ hb => ⟨e6 b (fun e => hb (by rw [e])), by rw [e2]⟩, fun _ hs => e7 (hs r rfl), fun hs _ => e7 hs⟩

/-- The step in a frame with another value in a slot that it does not look at. -/
theorem drel_put {d : Nat} (v : AV) (hd : d ∉ o.looksAt opsA) (hne : o.dst ≠ some d) (h : DRel P T E ops q soft o fr H fr' H') : DRel P T E ops q soft o (fr.put (some d) v) H (fr'.put (some d) v) H' := by
  have h0 : dstep P T E ops q soft o (fun f h => f = fr' ∧ h = H') ((fr.put (some d) v).put (some d) (fr.env d)) H := by
    rw [put_put, put_self]
    exact h
  obtain ⟨f, h', h1, h2, h3⟩ := dstep_out (dstep_put (opsA := opsA) hd hne h0)
  subst h3
  have he := (drel_left h1).env d hne
  have hf : f = fr'.put (some d) v := by
    rw [← h2, put_put]
    have : (fr.put (some d) v).env d = v := by rw [Fr.put_env, if_pos rfl]
    rw [this] at he
    rw [← he, put_self]
  rw [← hf]
  exact h1

theorem drel_unput {d : Nat} {v : AV} (hd : d ∉ o.looksAt opsA) (hne : o.dst ≠ some d) (h : DRel P T E ops q soft o (fr.put (some d) v) H fr' H') : ∃ f, DRel P T E ops q soft o fr H f H' ∧ f.put (some d) v = fr' := by
  obtain ⟨f, h', h1, h2, h3⟩ := dstep_out (dstep_put (opsA := opsA) hd hne h)
  subst h3
  exact ⟨f, h1, h2⟩

theorem looks_of {x : Operand} {t : Nat} (hx : x ∈ o.op.operands) (ht : x = .tmp t) : t ∈ o.looksAt opsA := by
  subst ht
  exact List.mem_append_left _ (List.mem_filterMap.2 ⟨.tmp t, by simpa using hx, rfl⟩)

/-- What another step that does not touch its slots leaves an operation to look at. -/
theorem ev_left {c : Cls} {dst : Option Nat} (hl : Left c dst soft q fr H fr' H') (ha : ∀ d, dst = some d → d ∉ o.looksAt opsA) : ∀ x ∈ o.op.operands, ev T fr x = ev T fr' x := by
  intro x hx
  refine ev_congr fun t ht => ?_
  rw [hl.env]
  intro hd
  exact ha t hd (looks_of hx ht)

/-- A value is the same before and behind another step. -/
theorem dval_left {c : Cls} {dst : Option Nat} (hl : Left c dst soft2 q fr H fr' H') (ha : ∀ d, dst = some d → d ∉ o.looksAt opsA) (hcls : clsOk (clsOf E ops o) c = true)
    (hs : ∀ r, clsOf E ops o = .load r → (c = .eff → soft = true ∧ soft2 = true) ∧ (∀ r', c = .sto r' → soft2 = true)) {v : AV} (hv : dval P T E ops q soft fr H o = some v ∨ dval P T E ops q soft fr' H' o = some v) :
    dval P T E ops q soft fr H o = dval P T E ops q soft fr' H' o := by
  have hev := ev_left (T := T) (opsA := opsA) hl ha
  by_cases hload : ∃ t x, o.op = .load t x
  · obtain ⟨t, x, hop⟩ := hload
    have hx := hev x (by rw [hop]; simp [Op.operands])
    have hcl : clsOf E ops o = .load (rootOp ops x) := by unfold clsOf; rw [hop]
    obtain ⟨hs1, hs2⟩ := hs _ hcl
    rw [hcl] at hcls
    -- the checks hold
    have hchk : rootChk ops x (ev T fr x) = true ∧ (!soft || q || !isG (ev T fr x)) = true := by
      have : ∀ (f : Fr) (h : Heap), dval P T E ops q soft f h o = some v → ev T f x = ev T fr x → rootChk ops x (ev T fr x) = true ∧ (!soft || q || !isG (ev T fr x)) = true := by
        intro f h hv he
        unfold dval at hv
        rw [hop] at hv
        simp only at hv
        split at hv
        · rename_i hc
          rw [he] at hc
          simpa using hc
        · cases hv
      rcases hv with hv | hv
      · exact this fr H hv rfl
      · exact this fr' H' hv hx.symm
    refine dval_congr hev (fun t' x' he => ?_) (fun _ _ _ _ he => by rw [hop] at he; cases he)
    rw [hop] at he
    injection he with e1 e2
    subst e1; subst e2
    refine ⟨fun b g off hb => ?_, fun hg => ?_⟩
    · have hroot : rootOp ops x = some b := by
        have := hchk.1
        rw [hb] at this
        simpa [rootChk] using this
      rw [hroot] at hcls
      have := hl.box b (by rintro rfl; simp [clsOk] at hcls) (by rintro rfl; simp [clsOk] at hcls)
      exact ⟨this.1.symm, this.2.symm⟩
    · by_cases he : c = .eff
      · obtain ⟨g1, g2⟩ := hs1 he
        have hq : q = true := by
          have := hchk.2
          rw [g1, hg] at this
          simpa using this
        exact (hl.quiet g2 hq).symm
      · exact (hl.heap he hs2).symm
  · refine dval_congr hev (fun t x he => absurd ⟨t, x, he⟩ hload) fun t x i ok hop => ?_
    have hcl : clsOf E ops o = .load none := by unfold clsOf; rw [hop]
    obtain ⟨hs1, hs2⟩ := hs _ hcl
    have hq : (!soft || q) = true := by
      have : ∀ (f : Fr) (h : Heap), dval P T E ops q soft f h o = some v → (!soft || q) = true := by
        intro f h hv
        unfold dval at hv
        rw [hop] at hv
        simp only at hv
        split at hv
        · rename_i hc; exact hc
        · cases hv
      rcases hv with hv | hv
      · exact this _ _ hv
      · exact this _ _ hv
    by_cases he : c = .eff
    · obtain ⟨g1, g2⟩ := hs1 he
      rw [g1] at hq
      exact (hl.quiet g2 (by simpa using hq)).symm
    · exact (hl.heap he hs2).symm

theorem allocFr_comm (fr : Fr) {d d' : Nat} (h : d ≠ d') (cs cs' : List AV) : allocFr (allocFr fr d cs) d' cs' = allocFr (allocFr fr d' cs') d cs := by
  simp only [allocFr, upd_ne _ _ _ _ h, upd_ne _ _ _ _ h.symm]
  rw [upd_comm fr.env h, upd_comm fr.box h, upd_comm fr.gen h]

theorem allocFr_put (fr : Fr) {d : Nat} {d2 : Option Nat} (h : d2 ≠ some d) (cs : List AV) (r : AV) : (allocFr fr d cs).put d2 r = allocFr (fr.put d2 r) d cs := by
  cases d2 with
  | none => rfl
  | some d' =>
    have hne : d ≠ d' := fun e => h (by rw [e])
    simp only [allocFr, Fr.put]
    rw [upd_comm fr.env hne]

theorem app_put (fr : Fr) {d : Nat} {d2 : Option Nat} (h : d2 ≠ some d) (x : AppOut) (r : AV) : AppOut.fr (fr.put d2 r) d x = (AppOut.fr fr d x).put d2 r := by
  cases d2 with
  | none => rfl
  | some d' =>
    have hne : d' ≠ d := fun e => h (by rw [e])
    cases x with
    | grow tag l m =>
      simp only [AppOut.fr, grown, Fr.put]
      rw [upd_comm fr.env hne]
    | same l => exact put_put_comm fr hne r (.slice .frz l)

theorem allocFr_app (fr : Fr) {d d' : Nat} (h : d ≠ d') (cs : List AV) (x : AppOut) : AppOut.fr (allocFr fr d cs) d' x = allocFr (AppOut.fr fr d' x) d cs := by
  cases x with
  | grow tag l m =>
    simp only [AppOut.fr, grown, allocFr]
    rw [upd_comm fr.env h]
  | same l =>
    simp only [AppOut.fr, Fr.put, allocFr]
    rw [upd_comm fr.env h]

/-- Two steps that do not wait for each other, exchanged. -/
theorem drel_swap (hap : o1.apart opsA o2 = true) (hcls : clsOk (clsOf E ops o1) (clsOf E ops o2) = true)
    (hs1 : ∀ r, clsOf E ops o1 = .load r → (clsOf E ops o2 = .eff → soft1 = true ∧ soft2 = true) ∧ (∀ r', clsOf E ops o2 = .sto r' → soft2 = true))
    (hs2 : ∀ r, clsOf E ops o2 = .load r → (clsOf E ops o1 = .eff → soft2 = true ∧ soft1 = true) ∧ (∀ r', clsOf E ops o1 = .sto r' → soft1 = true))
    (h1 : DRel P T E ops q soft1 o1 fr H fr1 H1) (h2 : DRel P T E ops q soft2 o2 fr1 H1 fr2 H2) :
    ∃ f h, DRel P T E ops q soft2 o2 fr H f h ∧ DRel P T E ops q soft1 o1 f h fr2 H2 := by
  obtain ⟨a1, a2, a3⟩ := Oper.apart_spec hap
  -- the first one only computes
  by_cases hv1 : clsOf E ops o1 = .val ∨ ∃ r, clsOf E ops o1 = .load r
  · obtain ⟨v, hv, hfr, hH⟩ := drel_val hv1 h1
    subst hH
    have hun : ∃ f, DRel P T E ops q soft2 o2 fr H1 f H2 ∧ f.put o1.dst v = fr2 := by
      cases hd : o1.dst with
      | none => rw [hd] at hfr; subst hfr; exact ⟨fr2, h2, rfl⟩
      | some d => rw [hd] at hfr; subst hfr; exact drel_unput (opsA := opsA) (a1 d hd) (a2 d hd) h2
    obtain ⟨f, hf1, hf2⟩ := hun
    have hcls' : clsOk (clsOf E ops o1) (clsOf E ops o2) = true := hcls
    have := dval_left (o := o1) (soft := soft1) (drel_left hf1) a3 hcls' hs1 (.inl hv)
    refine ⟨f, H2, hf1, ?_⟩
    rw [← hf2]
    exact dval_drel (by rw [← this]; exact hv)
  · -- the second one only computes
    by_cases hv2 : clsOf E ops o2 = .val ∨ ∃ r, clsOf E ops o2 = .load r
    · obtain ⟨v, hv, hfr, hH⟩ := drel_val hv2 h2
      subst hH
      have hcls' : clsOk (clsOf E ops o2) (clsOf E ops o1) = true := by
        revert hcls
        cases clsOf E ops o1 <;> cases clsOf E ops o2 <;> simp [clsOk] <;> (intro h e; exact h e.symm)
      have := dval_left (o := o2) (soft := soft2) (drel_left h1) a1 hcls' hs2 (.inr hv)
      refine ⟨fr.put o2.dst v, H, dval_drel (by rw [this]; exact hv), ?_⟩
      rw [hfr]
      cases hd : o2.dst with
      | none => exact h1
      | some d => exact drel_put (opsA := opsA) v (a3 d hd) (fun e => a2 d e hd) h1
    · -- neither
      have hl1 := drel_left h1
      have hev2 : ∀ x ∈ o2.op.operands, ev T fr x = ev T fr1 x := ev_left (T := T) (opsA := opsA) hl1 a1
      have hev1 : ∀ {f : Fr} {h : Heap} (hf : DRel P T E ops q soft2 o2 fr H f h), ∀ x ∈ o1.op.operands, ev T fr x = ev T f x := fun hf => ev_left (T := T) (opsA := opsA) (drel_left hf) a3
      cases hc1 : clsOf E ops o1 with
      | val => exact absurd (.inl hc1) hv1
      | load r => exact absurd (.inr ⟨r, hc1⟩) hv1
      | sto r =>
        rw [hc1] at hcls
        cases hc2 : clsOf E ops o2 with
        | val => exact absurd (.inl hc2) hv2
        | load r' => exact absurd (.inr ⟨r', hc2⟩) hv2
        | _ => rw [hc2] at hcls; simp [clsOk] at hcls
      | alloc d1 =>
        obtain ⟨d, cs, rfl, hd, hE1, hcs, hfr, hH⟩ := drel_alloc hc1 h1
        subst hH
        have back : ∀ {f : Fr} {h : Heap} (hf : DRel P T E ops q soft2 o2 fr H1 f h), DRel P T E ops q soft1 o1 f h (allocFr f d cs) h := fun hf =>
          acells_drel hd hE1 (by rw [← acells_congr (hev1 hf)]; exact hcs)
        cases hc2 : clsOf E ops o2 with
        | val => exact absurd (.inl hc2) hv2
        | load r => exact absurd (.inr ⟨r, hc2⟩) hv2
        | sto r => rw [hc1, hc2] at hcls; simp [clsOk] at hcls
        | alloc d2 =>
          obtain ⟨d', cs', rfl, hd', hE2, hcs', hfr', hH'⟩ := drel_alloc hc2 h2
          subst hH'
          have hdd : d ≠ d' := fun e => a2 d hd (by rw [hd', e])
          have hn : DRel P T E ops q soft2 o2 fr H2 (allocFr fr d' cs') H2 := acells_drel hd' hE2 (by rw [acells_congr hev2]; exact hcs')
          refine ⟨_, _, hn, ?_⟩
          rw [hfr', hfr, allocFr_comm fr hdd]
          exact back hn
        | eff =>
          obtain ⟨r, hfr', _, hall⟩ := drel_eff hc2 h2
          have hn := hall fr fun x hx => (hev2 x hx).symm
          refine ⟨_, _, hn, ?_⟩
          rw [hfr', hfr, allocFr_put fr (fun e => a2 d hd e)]
          exact back hn
        | app =>
          obtain ⟨d', x, hd', hfr', hH', hall⟩ := drel_app hc2 h2
          subst hH'
          have hdd : d ≠ d' := fun e => a2 d hd (by rw [hd', e])
          have hn := hall fr H2 (fun x hx => (hev2 x hx).symm) (by rw [hfr]; rfl) (by rw [hfr]; rfl)
          refine ⟨_, _, hn, ?_⟩
          rw [hfr', hfr, allocFr_app fr hdd]
          exact back hn
      | eff =>
        obtain ⟨r, hfr, _, hall1⟩ := drel_eff hc1 h1
        cases hc2 : clsOf E ops o2 with
        | val => exact absurd (.inl hc2) hv2
        | load r => exact absurd (.inr ⟨r, hc2⟩) hv2
        | sto r => rw [hc1, hc2] at hcls; simp [clsOk] at hcls
        | eff => rw [hc1, hc2] at hcls; simp [clsOk] at hcls
        | alloc d2 =>
          obtain ⟨d', cs', rfl, hd', hE2, hcs', hfr', hH'⟩ := drel_alloc hc2 h2
          subst hH'
          have hn : DRel P T E ops q soft2 o2 fr H (allocFr fr d' cs') H := acells_drel hd' hE2 (by rw [acells_congr hev2]; exact hcs')
          refine ⟨_, _, hn, ?_⟩
          rw [hfr', hfr, ← allocFr_put fr (fun e => a2 d' e hd')]
          exact hall1 _ fun x hx => hev1 hn x hx
        | app =>
          obtain ⟨d', x, hd', hfr', hH', hall⟩ := drel_app hc2 h2
          subst hH'
          obtain ⟨e1, e2, e3, e4⟩ := Fr.put_rest fr o1.dst r
          have hn := hall fr H (fun x hx => (hev2 x hx).symm) (by rw [hfr, e3]) (by rw [hfr, e4])
          refine ⟨_, _, hn, ?_⟩
          rw [hfr', hfr, app_put fr (fun e => a2 d' e hd')]
          exact hall1 _ fun x hx => hev1 hn x hx
      | app =>
        obtain ⟨d, x, hd, hfr, hH, hall1⟩ := drel_app hc1 h1
        subst hH
        cases hc2 : clsOf E ops o2 with
        | val => exact absurd (.inl hc2) hv2
        | load r => exact absurd (.inr ⟨r, hc2⟩) hv2
        | sto r => rw [hc1, hc2] at hcls; simp [clsOk] at hcls
        | app => rw [hc1, hc2] at hcls; simp [clsOk] at hcls
        | alloc d2 =>
          obtain ⟨d', cs', rfl, hd', hE2, hcs', hfr', hH'⟩ := drel_alloc hc2 h2
          subst hH'
          have hdd : d' ≠ d := fun e => a2 d hd (by rw [hd', e])
          have hn : DRel P T E ops q soft2 o2 fr H2 (allocFr fr d' cs') H2 := acells_drel hd' hE2 (by rw [acells_congr hev2]; exact hcs')
          refine ⟨_, _, hn, ?_⟩
          rw [hfr', hfr, ← allocFr_app fr hdd]
          exact hall1 _ _ (fun y hy => hev1 hn y hy) rfl rfl
        | eff =>
          obtain ⟨r, hfr', _, hall⟩ := drel_eff hc2 h2
          have hn := hall fr fun y hy => (hev2 y hy).symm
          obtain ⟨e1, e2, e3, e4⟩ := Fr.put_rest fr o2.dst r
          refine ⟨_, _, hn, ?_⟩
          rw [hfr', hfr, ← app_put fr (fun e => a2 d hd e)]
          exact hall1 _ _ (fun y hy => hev1 hn y hy) e3 e4

end
end Go.Abs

/-
  The abstract layer, part N: a region that draws its order, walked in the order of its text.
-/
namespace Go.Abs
open Go

/-- Whether an operation of a region is carried out. -/
def guardA (opsA : Array Oper) (o : Oper) (fr : Fr) : Option Bool :=
  match o.guard with
  | none => some true
  | some (j, want) =>
    match (opsA[j]?).bind (·.dst) with
    | some d => match fr.env d with
      | .sc (.bool b) => some (b == want)
      | .tuple _ => some false
      | _ => none
    | none => none

def dopAt (P : Program) (T : Tabs) (E : List Nat) (opsA : Array Oper) (q soft : Bool) (o : Oper) (K : Fr → Heap → Prop) (fr : Fr) (H : Heap) : Prop :=
  match guardA opsA o fr with
  | some true => dstep P T E opsA.toList q soft o K fr H
  | some false => K (fr.put o.dst (.tuple [])) H
  | none => False

def drun (P : Program) (T : Tabs) (E : List Nat) (opsA : Array Oper) (q : Bool) (sf : Nat → Bool) : List Nat → (Fr → Heap → Prop) → Fr → Heap → Prop
  | [], K, fr, H => K fr H
  | i :: rest, K, fr, H => match opsA[i]? with
    | some o => dopAt P T E opsA q (sf i) o (fun fr H => drun P T E opsA q sf rest K fr H) fr H
    | none => False

section
variable {P : Program} {T : Tabs} {E : List Nat} {opsA : Array Oper} {q soft soft1 soft2 : Bool} {o o1 o2 : Oper} {K K' : Fr → Heap → Prop} {fr fr' : Fr} {H H' : Heap}

theorem dopAt_mono (hk : ∀ fr H, K fr H → K' fr H) (h : dopAt P T E opsA q soft o K fr H) : dopAt P T E opsA q soft o K' fr H := by
  unfold dopAt at *
  split at h
  · exact dstep_mono hk h
  · exact hk _ _ h
  · exact h

theorem dopAt_aopAt (h : dopAt P T E opsA q soft o K fr H) : aopAt P T E opsA o K fr H := by
  unfold dopAt guardA at h
  unfold aopAt
  cases hg : o.guard with
  | none => rw [hg] at h; exact dstep_astep h
  | some p =>
    obtain ⟨j, want⟩ := p
    rw [hg] at h
    simp only at h ⊢
    cases hd : (opsA[j]?).bind (·.dst) with
    | none => rw [hd] at h; exact h
    | some d =>
      rw [hd] at h
      simp only at h ⊢
      split
      · rename_i b hb
        rw [hb] at h
        simp only at h
        by_cases hw : b = want
        · subst hw
          rw [if_pos rfl]
          simp only [beq_self_eq_true] at h
          exact dstep_astep h
        · rw [if_neg hw]
          have : (b == want) = false := by simpa using hw
          rw [this] at h
          exact h
      · rename_i l hl
        rw [hl] at h
        exact h
      · rename_i hnb hnt
        split at h
        · rename_i he
          split at he
          · rename_i b hb; exact (hnb b hb).elim
          · cases he
          · cases he
        · rename_i he
          split at he
          · rename_i b hb; exact (hnb b hb).elim
          · rename_i l hl; exact (hnt l hl).elim
          · cases he
        · exact h

/-- The guard is asked of a slot that the operation looks at. -/
theorem guardA_congr (h : ∀ t, t ∈ o.looksAt opsA → fr'.env t = fr.env t) : guardA opsA o fr' = guardA opsA o fr := by
  unfold guardA
  cases hg : o.guard with
  | none => rfl
  | some p =>
    obtain ⟨j, want⟩ := p
    simp only
    cases hd : (opsA[j]?).bind (·.dst) with
    | none => rfl
    | some d =>
      simp only
      have : d ∈ o.looksAt opsA := by
        unfold Oper.looksAt
        rw [hg]
        refine List.mem_append_right _ ?_
        show d ∈ ((opsA[j]?).bind (·.dst)).toList
        rw [hd]
        simp
      rw [h d this]

theorem guard_put {d : Option Nat} {v : AV} (h : ∀ d', d = some d' → d' ∉ o.looksAt opsA) : guardA opsA o (fr.put d v) = guardA opsA o fr := by
  refine guardA_congr fun t ht => ?_
  rw [Fr.put_env, if_neg]
  rintro rfl
  exact h t rfl ht

theorem guard_left {c : Cls} {dst : Option Nat} (hl : Left c dst soft q fr H fr' H') (h : ∀ d', dst = some d' → d' ∉ o.looksAt opsA) : guardA opsA o fr' = guardA opsA o fr := by
  refine guardA_congr fun t ht => hl.env t ?_
  rintro rfl
  exact h t rfl ht

/-- The conditions under which two operations that do not wait for each other may be exchanged. -/
def exch (E : List Nat) (opsA : Array Oper) (s1 s2 : Bool) (o1 o2 : Oper) : Bool :=
  o1.apart opsA o2 && clsOk (clsOf E opsA.toList o1) (clsOf E opsA.toList o2) &&
  (match clsOf E opsA.toList o1, clsOf E opsA.toList o2 with
   | .load _, .eff => s1 && s2
   | .eff, .load _ => s1 && s2
   | .load _, .sto _ => s2
   | .sto _, .load _ => s1
   | _, _ => true)

theorem dopAt_swap (hx : exch E opsA soft1 soft2 o1 o2 = true) (h : dopAt P T E opsA q soft1 o1 (fun fr H => dopAt P T E opsA q soft2 o2 K fr H) fr H) :
    dopAt P T E opsA q soft2 o2 (fun fr H => dopAt P T E opsA q soft1 o1 K fr H) fr H := by
  unfold exch at hx
  simp only [Bool.and_eq_true] at hx
  obtain ⟨⟨hap, hcls⟩, hsoft⟩ := hx
  obtain ⟨a1, a2, a3⟩ := Oper.apart_spec hap
  have hs1 : ∀ r, clsOf E opsA.toList o1 = .load r → (clsOf E opsA.toList o2 = .eff → soft1 = true ∧ soft2 = true) ∧ (∀ r', clsOf E opsA.toList o2 = .sto r' → soft2 = true) := by
    intro r hr
    rw [hr] at hsoft
    refine ⟨fun he => ?_, fun r' he => ?_⟩ <;> rw [he] at hsoft
    · simpa using hsoft
    · exact hsoft
  have hs2 : ∀ r, clsOf E opsA.toList o2 = .load r → (clsOf E opsA.toList o1 = .eff → soft2 = true ∧ soft1 = true) ∧ (∀ r', clsOf E opsA.toList o1 = .sto r' → soft1 = true) := by
    intro r hr
    rw [hr] at hsoft
    refine ⟨fun he => ?_, fun r' he => ?_⟩ <;> rw [he] at hsoft
    · have : soft1 = true ∧ soft2 = true := by simpa using hsoft
      exact ⟨this.2, this.1⟩
    · exact hsoft
  unfold dopAt at h
  split at h
  · -- the first one is carried out
    rename_i hg1
    obtain ⟨f1, H1, hr1, h⟩ := dstep_out h
    have hl1 := drel_left hr1
    have hg2 : guardA opsA o2 f1 = guardA opsA o2 fr := guard_left hl1 a1
    rw [hg2] at h
    unfold dopAt
    split at h
    · rename_i hg2'
      obtain ⟨f2, H2, hr2, hK⟩ := dstep_out h
      obtain ⟨f, h', hr2', hr1'⟩ := drel_swap hap hcls hs1 hs2 hr1 hr2
      refine dstep_of hr2' ?_
      have : guardA opsA o1 f = guardA opsA o1 fr := guard_left (drel_left hr2') a3
      rw [this, hg1]
      exact dstep_of hr1' hK
    · rename_i hg2'
      show match guardA opsA o1 (fr.put o2.dst (.tuple [])) with
        | some true => dstep P T E opsA.toList q soft1 o1 K (fr.put o2.dst (.tuple [])) H
        | some false => K ((fr.put o2.dst (.tuple [])).put o1.dst (.tuple [])) H
        | none => False
      rw [guard_put a3, hg1]
      simp only
      cases hd : o2.dst with
      | none => rw [hd] at h; exact dstep_of hr1 h
      | some d => rw [hd] at h; exact dstep_of (drel_put (opsA := opsA) _ (a3 d hd) (fun e => a2 d e hd) hr1) h
    · exact h.elim
  · -- the first one is left out
    rename_i hg1
    have hg2 : guardA opsA o2 (fr.put o1.dst (.tuple [])) = guardA opsA o2 fr := guard_put a1
    rw [hg2] at h
    unfold dopAt
    split at h
    · rename_i hg2'
      obtain ⟨f2, H2, hr2, hK⟩ := dstep_out h
      have hun : ∃ f, DRel P T E opsA.toList q soft2 o2 fr H f H2 ∧ f.put o1.dst (.tuple []) = f2 := by
        cases hd : o1.dst with
        | none => rw [hd] at hr2; exact ⟨f2, hr2, rfl⟩
        | some d => rw [hd] at hr2; exact drel_unput (opsA := opsA) (a1 d hd) (a2 d hd) hr2
      obtain ⟨f, hf1, hf2⟩ := hun
      refine dstep_of hf1 ?_
      have : guardA opsA o1 f = guardA opsA o1 fr := guard_left (drel_left hf1) a3
      rw [this, hg1]
      show K (f.put o1.dst (.tuple [])) H2
      rw [hf2]
      exact hK
    · rename_i hg2'
      show match guardA opsA o1 (fr.put o2.dst (.tuple [])) with
        | some true => dstep P T E opsA.toList q soft1 o1 K (fr.put o2.dst (.tuple [])) H
        | some false => K ((fr.put o2.dst (.tuple [])).put o1.dst (.tuple [])) H
        | none => False
      rw [guard_put a3, hg1]
      simp only
      have : (fr.put o2.dst (.tuple [])).put o1.dst (.tuple []) = (fr.put o1.dst (.tuple [])).put o2.dst (.tuple []) := by
        cases hd1 : o1.dst with
        | none => rfl
        | some d1 =>
          cases hd2 : o2.dst with
          | none => rfl
          | some d2 => exact put_put_comm fr (fun e => a2 d1 hd1 (by rw [hd2, e])) _ _
      rw [this]
      exact h
    · exact h.elim
  · exact h.elim

theorem drun_front {sf : Nat → Bool} {i : Nat} (hi : opsA[i]? = some o) (post : List Nat) : ∀ (pre : List Nat) (fr : Fr) (H : Heap), (∀ j ∈ pre, ∀ oj, opsA[j]? = some oj → exch E opsA (sf j) (sf i) oj o = true) →
    drun P T E opsA q sf (pre ++ i :: post) K fr H → dopAt P T E opsA q (sf i) o (fun fr H => drun P T E opsA q sf (pre ++ post) K fr H) fr H := by
  intro pre
  induction pre with
  | nil =>
    intro fr H _ h
    simp only [List.nil_append, drun, hi] at h
    exact h
  | cons j pre ih =>
    intro fr H hex h
    simp only [List.cons_append, drun] at h ⊢
    split at h
    · rename_i oj hj
      have h1 := dopAt_mono (fun fr H h => ih fr H (fun k hk => hex k (by simp [hk])) h) h
      have h2 := dopAt_swap (hex j (by simp) oj hj) h1
      exact h2
    · exact h.elim

end

/-! ### whatever order is drawn -/

/-- The text's order is an order: an operation waits for earlier ones. -/
def edgesBack (opsA : Array Oper) : Bool := opsA.toList.zipIdx.all fun (o, i) => o.after.all fun e => !Region.binds .any e || decide (e.on < i)

/-- 'M i j': operation i waits for operation j, directly or by others. -/
def closeOk (opsA : Array Oper) (M : Array Nat) : Bool :=
  (List.range opsA.size).all fun i => (List.range opsA.size).all fun j => !(M.getD i 0).testBit j ||
    (opsA.getD i default).after.toList.any fun e => Region.binds .any e && (e.on == j || (M.getD e.on 0).testBit j)

def regionOk (E : List Nat) (opsA : Array Oper) (sf : Nat → Bool) : Bool :=
  let M := Region.before opsA
  edgesBack opsA && closeOk opsA M &&
  (List.range opsA.size).all fun i => (List.range i).all fun j => (M.getD i 0).testBit j || exch E opsA (sf j) (sf i) (opsA.getD j default) (opsA.getD i default)

section
variable {P : Program} {T : Tabs} {E : List Nat} {opsA : Array Oper} {q : Bool} {sf : Nat → Bool} {K : Fr → Heap → Prop}

def remOf (opsA : Array Oper) (listed : Array Bool) : List Nat := (List.range opsA.size).filter fun i => !listed.getD i true

theorem mem_rem {listed : Array Bool} {i : Nat} : i ∈ remOf opsA listed ↔ i < opsA.size ∧ listed.getD i true = false := by
  simp [remOf]

/-- All that waits is behind what it waits for. -/
def Closed (M : Array Nat) (opsA : Array Oper) (listed : Array Bool) : Prop := ∀ i j, i < opsA.size → j < opsA.size → listed.getD i false = true → (M.getD i 0).testBit j = true → listed.getD j false = true

theorem getD_set_self {listed : Array Bool} {i : Nat} (d : Bool) (h : i < listed.size) : (listed.setIfInBounds i true).getD i d = true := by
  simp [h]

theorem ready_of_min {opsA : Array Oper} (hback : edgesBack opsA = true) {listed : Array Bool} (hsz : listed.size = opsA.size) {i : Nat} (hi : i < opsA.size) (hun : listed.getD i true = false)
    (hmin : ∀ j, j < i → listed.getD j false = true) : i ∈ Region.ready .any opsA listed := by
  rw [mem_ready]
  refine ⟨hun, opsA[i], Array.getElem?_eq_getElem hi, fun e he hb => ?_⟩
  refine hmin _ ?_
  unfold edgesBack at hback
  rw [List.all_eq_true] at hback
  have hmem : (opsA[i], i) ∈ opsA.toList.zipIdx := by
    rw [List.mem_zipIdx_iff_getElem?]
    simp [hi]
  have := hback _ hmem
  simp only [Array.all_eq_true_iff_forall_mem] at this
  have := this e he
  rw [hb] at this
  simpa using this

theorem deps_listed {opsA : Array Oper} {M : Array Nat} (hM : closeOk opsA M = true) (hback : edgesBack opsA = true) {listed : Array Bool} (hcl : Closed M opsA listed) {i : Nat} (hr : i ∈ Region.ready .any opsA listed) {j : Nat} (hj : j < opsA.size)
    (hb : (M.getD i 0).testBit j = true) : listed.getD j false = true := by
  obtain ⟨hun, o, ho, hall⟩ := mem_ready.1 hr
  have hi : i < opsA.size := (Array.getElem?_eq_some_iff.1 ho).1
  unfold closeOk at hM
  rw [List.all_eq_true] at hM
  have := hM i (by simpa using hi)
  rw [List.all_eq_true] at this
  have := this j (by simpa using hj)
  rw [hb] at this
  simp only [Bool.not_true, Bool.false_or, List.any_eq_true, Array.mem_toList_iff, Bool.and_eq_true, Bool.or_eq_true, beq_iff_eq] at this
  obtain ⟨e, he, hbe, hor⟩ := this
  have hoe : opsA.getD i default = o := by rw [Array.getD_eq_getD_getElem?, ho]; rfl
  rw [hoe] at he
  have hl := hall e he hbe
  rcases hor with rfl | hor
  · exact hl
  · have hon : e.on < opsA.size := by
      unfold edgesBack at hback
      rw [List.all_eq_true] at hback
      have hmem : (o, i) ∈ opsA.toList.zipIdx := by
        rw [List.mem_zipIdx_iff_getElem?]
        simpa using ho
      have := hback _ hmem
      simp only [Array.all_eq_true_iff_forall_mem] at this
      have := this e he
      rw [hbe] at this
      have : e.on < i := by simpa using this
      omega
    exact hcl e.on j hon hj hl hor

theorem rem_split {listed : Array Bool} (hsz : listed.size = opsA.size) {i : Nat} (hi : i < opsA.size) (hun : listed.getD i true = false) :
    ∃ pre post, remOf opsA listed = pre ++ i :: post ∧ remOf opsA (listed.setIfInBounds i true) = pre ++ post ∧ ∀ j ∈ pre, j < i ∧ listed.getD j true = false := by
  have hr : List.range opsA.size = List.range i ++ i :: (List.range' (i + 1) (opsA.size - i - 1)) := by
    rw [List.range_eq_range', List.range_eq_range']
    have : opsA.size = i + (1 + (opsA.size - i - 1)) := by omega
    conv => lhs; rw [this]
    rw [← List.range'_append_1]
    congr 1
    rw [show 1 + (opsA.size - i - 1) = (opsA.size - i - 1) + 1 by omega, List.range'_succ]
    simp
  refine ⟨(List.range i).filter (fun j => !listed.getD j true), (List.range' (i + 1) (opsA.size - i - 1)).filter (fun j => !listed.getD j true), ?_, ?_, ?_⟩
  · unfold remOf
    rw [hr, List.filter_append, List.filter_cons_of_pos (by simp [hun])]
  · unfold remOf
    rw [hr, List.filter_append, List.filter_cons_of_neg (by rw [getD_set_self _ (by omega)]; simp)]
    congr 1
    · refine List.filter_congr fun j hj => ?_
      have : j < i := by simpa using hj
      rw [getD_set_ne true (by omega)]
    · refine List.filter_congr fun j hj => ?_
      have := (List.mem_range'_1.1 hj).1
      rw [getD_set_ne true (by omega)]
  · intro j hj
    rw [List.mem_filter] at hj
    exact ⟨by simpa using hj.1, by simpa using hj.2⟩

variable {n : Nat} {G0 : Nat → Nat} {F0 : Imm} {n0 : Nat} {w0 : World}

theorem getD_false_true {listed : Array Bool} {i : Nat} (hi : i < listed.size) : listed.getD i false = listed.getD i true := by
  simp [hi]

theorem drun_any {Q : Exit → Act → World → Prop} (hok : regionOk E opsA sf = true) (hfit : opsFit n opsA = true) (hQ : ∀ fr' H' a' w', K fr' H' → SR T n G0 F0 n0 w0 fr' H' a' w' → Q .normal a' w') :
    ∀ (fuel : Nat) (listed : Array Bool) (fr : Fr) (H : Heap) (a : Act) (w : World), listed.size = opsA.size → Closed (Region.before opsA) opsA listed → (remOf opsA listed).length ≤ fuel →
      SR T n G0 F0 n0 w0 fr H a w → drun P T E opsA q sf (remOf opsA listed) K fr H → wpAny P .any opsA Q fuel listed a w := by
  unfold regionOk at hok
  simp only [Bool.and_eq_true] at hok
  obtain ⟨⟨hback, hM⟩, hpairs⟩ := hok
  have hdone : ∀ {listed : Array Bool}, listed.size = opsA.size → Region.ready .any opsA listed = [] → remOf opsA listed = [] := by
    intro listed hsz hr
    cases hrem : remOf opsA listed with
    | nil => rfl
    | cons i rest =>
      exfalso
      -- the first one that has not come up may come up
      have hmem : i ∈ remOf opsA listed := by rw [hrem]; simp
      have hex : ∃ k, k < opsA.size ∧ listed.getD k true = false := ⟨i, mem_rem.1 hmem⟩
      obtain ⟨k, ⟨hk1, hk2⟩, hmin⟩ : ∃ k, (k < opsA.size ∧ listed.getD k true = false) ∧ ∀ j, j < k → ¬ (j < opsA.size ∧ listed.getD j true = false) := by
        clear hrem hmem
        obtain ⟨k, hk⟩ := hex
        induction k using Nat.strongRecOn with
        | _ k ih =>
          by_cases h : ∃ j, j < k ∧ (j < opsA.size ∧ listed.getD j true = false)
          · obtain ⟨j, hj1, hj2⟩ := h
            exact ih j hj1 hj2
          · exact ⟨k, hk, fun j hj hc => h ⟨j, hj, hc⟩⟩
      have := ready_of_min hback hsz hk1 hk2 fun j hj => by
        have hn := hmin j hj
        have hjs : j < opsA.size := by omega
        rw [getD_false_true (by omega)]
        cases hb : listed.getD j true with
        | true => rfl
        | false => exact absurd ⟨hjs, hb⟩ hn
      rw [hr] at this
      cases this
  intro fuel
  induction fuel with
  | zero =>
    intro listed fr H a w hsz hcl hlen hs h
    have hrem : remOf opsA listed = [] := List.eq_nil_of_length_eq_zero (by omega)
    rw [hrem] at h
    refine ⟨?_, hQ _ _ _ _ h hs⟩
    cases hr : Region.ready .any opsA listed with
    | nil => rfl
    | cons i rest =>
      have hm : i ∈ Region.ready .any opsA listed := by rw [hr]; simp
      obtain ⟨hun, o, ho, _⟩ := mem_ready.1 hm
      have : i ∈ remOf opsA listed := mem_rem.2 ⟨(Array.getElem?_eq_some_iff.1 ho).1, hun⟩
      rw [hrem] at this
      cases this
  | succ fuel ih =>
    intro listed fr H a w hsz hcl hlen hs h
    refine ⟨fun hr => ?_, fun i hi => ?_⟩
    · rw [hdone hsz hr] at h
      exact hQ _ _ _ _ h hs
    · obtain ⟨hun, o, ho, hall⟩ := mem_ready.1 hi
      have hlt : i < opsA.size := (Array.getElem?_eq_some_iff.1 ho).1
      obtain ⟨pre, post, h1, h2, h3⟩ := rem_split hsz hlt hun
      rw [h1] at h
      have hfront := drun_front (P := P) (T := T) (E := E) (opsA := opsA) (q := q) (K := K) (sf := sf) ho post pre fr H (by
        intro j hj oj hoj
        obtain ⟨hj1, hj2⟩ := h3 j hj
        rw [List.all_eq_true] at hpairs
        have := hpairs i (by simpa using hlt)
        rw [List.all_eq_true] at this
        have := this j (by simpa using hj1)
        simp only [Bool.or_eq_true] at this
        have e1 : opsA.getD j default = oj := by rw [Array.getD_eq_getD_getElem?, hoj]; rfl
        have e2 : opsA.getD i default = o := by rw [Array.getD_eq_getD_getElem?, ho]; rfl
        rw [e1, e2] at this
        rcases this with hb | hb
        · have := deps_listed hM hback hcl hi (by omega) hb
          rw [getD_false_true (by omega), hj2] at this
          cases this
        · exact hb) h
      have hof : operFits n o = true := Array.all_eq_true_iff_forall_mem.1 hfit o (Array.mem_of_getElem? ho)
      refine aopAt_sound ho hof hs (dopAt_aopAt hfront) ?_
      intro fr' H' a' w' hK hs'
      refine ih (listed.setIfInBounds i true) fr' H' a' w' (by simpa using hsz) ?_ ?_ hs' (by rw [h2]; exact hK)
      · -- still closed
        intro i' j' hi' hj' hl hb
        by_cases he : j' = i
        · subst he
          exact getD_set_self _ (by omega)
        · rw [getD_set_ne false (fun e => he e.symm)]
          by_cases he' : i' = i
          · subst he'
            exact deps_listed hM hback hcl hi hj' hb
          · rw [getD_set_ne false (fun e => he' e.symm)] at hl
            exact hcl i' j' hi' hj' hl hb
      · rw [h1] at hlen
        rw [h2]
        simp only [List.length_append, List.length_cons] at hlen ⊢
        omega

end

section
variable {P : Program} {T : Tabs} {n : Nat} {Q : Exit → Fr → Heap → Prop} {fr : Fr} {H : Heap}

theorem SR.drew {G0 : Nat → Nat} {F0 : Imm} {n0 : Nat} {w0 : World} {a : Act} {w : World} (hs : SR T n G0 F0 n0 w0 fr H a w) : SR T n G0 F0 n0 w0 fr H a w.drew := by
  obtain ⟨ρ, F, R, hw, hx⟩ := hs
  exact ⟨ρ, F, R, hw.drew, hx.drew⟩

/-- A region that draws its order, walked in the order of its text. -/
theorem AWp.regionD' {id : Nat} {ops : Array Oper} (E : List Nat) (q : Bool) (sf : Nat → Bool) (hm : P.follows .mixedOrders = true) (hfit : opsFit n ops = true) (hok : regionOk E ops sf = true)
    (h : drun P T E ops q sf (List.range ops.size) (Q .normal) fr H) : AWp P T n (.region id ops true) Q fr H := by
  intro G0 F0 n0 w0 a w hs
  refine wp_region_any hm ?_
  have hrem : remOf ops (Array.replicate ops.size false) = List.range ops.size := by
    unfold remOf
    rw [List.filter_eq_self]
    intro i hi
    have : i < ops.size := by simpa using hi
    simp [this]
  have := drun_any (Q := fun e a' w' => ∃ fr' H', Q e fr' H' ∧ SR T n G0 F0 n0 w0 fr' H' a' w') hok hfit (fun fr' H' a' w' h1 h2 => ⟨fr', H', h1, h2⟩) ops.size (Array.replicate ops.size false) fr H a w.drew (by simp)
    (by intro i j hi hj hl; simp [hi] at hl) (by rw [hrem]; simp) hs.drew (by rw [hrem]; exact h)
  exact this

/-- The same as a list, with one word for all: every load beside a call is none of a shared object (or the calls change nothing). -/
def drunL (P : Program) (T : Tabs) (E : List Nat) (opsA : Array Oper) (q : Bool) : List Oper → (Fr → Heap → Prop) → Fr → Heap → Prop
  | [], K, fr, H => K fr H
  | o :: rest, K, fr, H => dopAt P T E opsA q true o (fun fr H => drunL P T E opsA q rest K fr H) fr H

theorem drun_of_list {E : List Nat} {ops : Array Oper} {q : Bool} {K : Fr → Heap → Prop} : ∀ (l : List Oper) (k : Nat) (fr : Fr) (H : Heap), l = ops.toList.drop k → drunL P T E ops q l K fr H → drun P T E ops q (fun _ => true) (List.range' k l.length) K fr H := by
  intro l
  induction l with
  | nil => intro k fr H _ h; exact h
  | cons o l ih =>
    intro k fr H hl h
    have hlt : k < ops.toList.length := by
      rcases Nat.lt_or_ge k ops.toList.length with h' | h'
      · exact h'
      · rw [List.drop_eq_nil_of_le h'] at hl; cases hl
    have hd := List.drop_eq_getElem_cons hlt
    rw [hd] at hl
    injection hl with h1 h2
    have hi : ops[k]? = some o := by
      rw [h1]
      simp only [Array.getElem_toList]
      exact Array.getElem?_eq_getElem (by simpa using hlt)
    simp only [List.length_cons, List.range'_succ, drun, hi]
    exact dopAt_mono (fun fr H h => ih (k + 1) fr H h2 h) h

theorem AWp.regionD {id : Nat} {ops : Array Oper} (E : List Nat) (q : Bool) (hm : P.follows .mixedOrders = true) (hfit : opsFit n ops = true) (hok : regionOk E ops (fun _ => true) = true)
    (h : drunL P T E ops q ops.toList (Q .normal) fr H) : AWp P T n (.region id ops true) Q fr H := by
  refine AWp.regionD' E q (fun _ => true) hm hfit hok ?_
  have := drun_of_list (K := Q .normal) ops.toList 0 fr H (by simp) h
  rw [List.range_eq_range']
  simpa using this

end
end Go.Abs

/-
  The abstract layer, part O: rules in the form in which walks use them.
-/
namespace Go.Abs
open Go

section
variable {P : Program} {T : Tabs} {n : Nat} {Q : Exit → Fr → Heap → Prop} {fr : Fr} {H : Heap}

/-- Two pieces of code, the second one hidden behind a name. -/
theorem AWp.seqK {x y : Code} (h : ∀ K : Fr → Heap → Prop, (∀ fr H, AWp P T n y Q fr H → K fr H) → AWp P T n x (thenQ K Q) fr H) : AWp P T n (.seq x y) Q fr H :=
  AWp.seq (h _ fun _ _ h => h)

theorem AWp.blockK {id : Nat} {c : Code} (h : ∀ Q' : Exit → Fr → Heap → Prop, (∀ fr H, Q .normal fr H → Q' .normal fr H) → (∀ fr H, Q .normal fr H → Q' (.exit id) fr H) →
    (∀ id' fr H, id' ≠ id → Q (.exit id') fr H → Q' (.exit id') fr H) → (∀ fr H, Q .ret fr H → Q' .ret fr H) → AWp P T n c Q' fr H) : AWp P T n (.block id c) Q fr H := by
  refine AWp.block (h (blockQ id Q) (fun _ _ h => h) (fun _ _ h => ?_) (fun id' _ _ hne h => ?_) (fun _ _ h => h))
  · simp only [blockQ, if_true]; exact h
  · simp only [blockQ, if_neg hne]; exact h

theorem AWp.scopeK {c : Code} (h : ∀ Q' : Exit → Fr → Heap → Prop, (∀ fr H, Q .normal fr H → Q' .normal fr H) →
    (∀ id' fr H, True → Q (.exit id') fr H → Q' (.exit id') fr H) → (∀ fr H, Q .ret fr H → Q' .ret fr H) → AWp P T n c Q' fr H) : AWp P T n (.scope c) Q fr H :=
  AWp.scope (h _ (fun _ _ h => ⟨trivial, h⟩) (fun _ _ _ _ h => ⟨trivial, h⟩) (fun _ _ h => ⟨trivial, h⟩))

/-- A loop as a round, and what holds at its head. -/
theorem AWp.loopI {c : Code} (I : Fr → Heap → Prop) (μ : Fr → Heap → Nat) (h0 : I fr H) (hr : ∀ fr H, I fr H → AWp P T n c (thenQ (fun fr' H' => I fr' H' ∧ μ fr' H' < μ fr H) Q) fr H) : AWp P T n (.loop c) Q fr H := by
  refine AWp.loop ?_
  have key : ∀ k fr H, μ fr H = k → I fr H → ALp P T n c Q fr H := by
    intro k
    induction k using Nat.strongRecOn with
    | _ k ih =>
      intro fr H hk hI
      refine ALp.round (AWp.mono (hr fr H hI) ?_)
      intro e fr' H' hq
      cases e with
      | normal => exact ih _ (hk ▸ hq.2) fr' H' rfl hq.1
      | _ => exact hq
  exact key _ fr H rfl h0

end

@[simp] theorem thenQ_normal (K : Fr → Heap → Prop) (Q : Exit → Fr → Heap → Prop) : thenQ K Q .normal = K := rfl
@[simp] theorem thenQ_exit (K : Fr → Heap → Prop) (Q : Exit → Fr → Heap → Prop) (id : Nat) : thenQ K Q (.exit id) = Q (.exit id) := rfl
@[simp] theorem thenQ_ret (K : Fr → Heap → Prop) (Q : Exit → Fr → Heap → Prop) : thenQ K Q .ret = Q .ret := rfl

end Go.Abs
