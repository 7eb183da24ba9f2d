/-
  The abstract layer, part F: memory. What a frame of abstract values says of the model's memory; new variables, loads, stores.
-/
import Derived.Test.YtdihelfnjememaaDoorAbsE
set_option linter.unusedSimpArgs false
set_option linter.unusedVariables false
namespace Go.Abs
open Go

/-- What the memory that all frames share says of the model's memory. -/
structure GW (T : Tabs) (G : Nat → Nat) (F : Imm) (H : Heap) (w : World) : Prop where
  imm : ∀ b o v, F b o = some v → w.cell? ⟨b, o, none⟩ = some v
  glob : ∀ o cs, H[o]? = some cs → ∃ vs ty, w.heap[G o]? = some (.cells vs ty (0, 0)) ∧ All2 (PRep F G H.length) cs vs.toList ∧ ∀ c ∈ cs, c.isOne = true
  inj : ∀ o o', o < H.length → o' < H.length → G o = G o' → o = o'
  gF : ∀ o j, o < H.length → F (G o) j = none
  fresh : ∀ b j, w.heap.size ≤ b → F b j = none
  tabs : ∀ g x, T g = some x → PRep F G H.length (.rptr x) (.pointer (some ⟨g, 0, none⟩))

/-- What has become of memory: below a block number nothing has turned but the shared objects. -/
structure Ext (B : Nat) (G : Nat → Nat) (F : Imm) (n : Nat) (w : World) (G' : Nat → Nat) (F' : Imm) (n' : Nat) (w' : World) : Prop where
  os : w'.os = w.os
  tape : w'.tape = w.tape
  output : w'.output = w.output
  size : w.heap.size ≤ w'.heap.size
  len : n ≤ n'
  hG : ∀ o, o < n → G' o = G o
  Gnew : ∀ o, n ≤ o → o < n' → B ≤ G' o
  hF : ∀ b j, b < B → F' b j = F b j
  heap : ∀ b, b < B → (∀ o, o < n → G o ≠ b) → w'.heap[b]? = w.heap[b]?

section
variable {B B' : Nat} {G G' G'' : Nat → Nat} {F F' F'' : Imm} {n n' n'' : Nat} {w w' w'' : World}

theorem Ext.refl : Ext B G F n w G F n w := ⟨rfl, rfl, rfl, Nat.le_refl _, Nat.le_refl _, fun _ _ => rfl, fun _ h h' => absurd h' (by omega), fun _ _ _ => rfl, fun _ _ _ => rfl⟩

theorem Ext.trans (h : Ext B G F n w G' F' n' w') (k : Ext B G' F' n' w' G'' F'' n'' w'') : Ext B G F n w G'' F'' n'' w'' where
  os := k.os.trans h.os
  tape := k.tape.trans h.tape
  output := k.output.trans h.output
  size := Nat.le_trans h.size k.size
  len := Nat.le_trans h.len k.len
  hG o ho := (k.hG o (Nat.lt_of_lt_of_le ho h.len)).trans (h.hG o ho)
  Gnew o h1 h2 := by
    rcases Nat.lt_or_ge o n' with h3 | h3
    · rw [k.hG o h3]; exact h.Gnew o h1 h3
    · exact k.Gnew o h3 h2
  hF b j hb := (k.hF b j hb).trans (h.hF b j hb)
  heap b hb hg := by
    refine (k.heap b hb fun o ho => ?_).trans (h.heap b hb hg)
    rcases Nat.lt_or_ge o n with h3 | h3
    · rw [h.hG o h3]; exact hg o h3
    · have := h.Gnew o h3 ho; omega

theorem Ext.mono (h : Ext B G F n w G' F' n' w') (hB : B' ≤ B) : Ext B' G F n w G' F' n' w' :=
  ⟨h.os, h.tape, h.output, h.size, h.len, h.hG, fun o h1 h2 => Nat.le_trans hB (h.Gnew o h1 h2), fun b j hb => h.hF b j (by omega), fun b hb hg => h.heap b (by omega) hg⟩

end

inductive Role where
  | free
  | box (d : Nat)
  | glob
  | arr (k : Nat)
  deriving DecidableEq

/-- What a frame, and the memory that all share, say of the model's frame and memory. -/
structure WR (T : Tabs) (n B0 : Nat) (ρ : Maps) (F : Imm) (R : Nat → Role) (fr : Fr) (H : Heap) (a : Act) (w : World) : Prop where
  g : GW T ρ.G F H w
  size : a.tmps.size = n
  defers : a.defers = []
  env : EnvRep F ρ fr a
  hn : ρ.n = H.length
  lg : ∀ d, ρ.lg d = fr.gen d
  ag : ∀ k, ρ.ag k = fr.tgen k
  box : ∀ d cs, fr.box d = some cs → B0 ≤ ρ.L d (fr.gen d) ∧ R (ρ.L d (fr.gen d)) = .box d ∧ (∀ c ∈ cs, c.isOne = true) ∧
    ∃ vs ty, w.heap[ρ.L d (fr.gen d)]? = some (.cells vs ty (0, 0)) ∧ All2 (FCell F ρ) cs vs.toList
  tok : ∀ k m, fr.tab k = some m → ∀ b c sz, ρ.A k (fr.tgen k) = some (b, c, sz) → B0 ≤ b ∧ R b = .arr k ∧ (0 < m ∧ m ≤ c) ∧ c ≤ maxLen ∧
    (∃ vs ty, w.heap[b]? = some (.cells vs ty (0, 0)) ∧ vs.size = c * sz) ∧ ∀ j, m * sz ≤ j → F b j = none
  frole : ∀ b j v, F b j = some v → R b = .free ∨ ∃ k, R b = .arr k
  grole : ∀ o, o < H.length → R (ρ.G o) = .glob
  rfresh : ∀ b, w.heap.size ≤ b → R b = .free
  B0le : B0 ≤ w.heap.size

section
variable {T : Tabs} {n B0 : Nat} {ρ ρ' : Maps} {F F' : Imm} {R : Nat → Role} {fr : Fr} {H : Heap} {a : Act} {w w' : World}

theorem WR.tabsRep (h : WR T n B0 ρ F R fr H a w) : TabsRep T F ρ := fun g x hx => by rw [h.hn]; exact h.g.tabs g x hx

/-- Where the memory that does not change lies. -/
theorem WR.F_lt (h : WR T n B0 ρ F R fr H a w) {b j : Nat} {v : Value} (hf : F b j = some v) : b < w.heap.size := by
  rcases Nat.lt_or_ge b w.heap.size with h' | h'
  · exact h'
  · rw [h.g.fresh b j h'] at hf; cases hf

theorem Fr.put_env (fr : Fr) (d : Option Nat) (x : AV) (t : Nat) : (fr.put d x).env t = if d = some t then x else fr.env t := by
  cases d with
  | none => simp [Fr.put]
  | some d =>
    simp only [Fr.put, upd, Option.some.injEq]
    by_cases h : t = d
    · subst h; simp
    · rw [if_neg h, if_neg (fun h' => h h'.symm)]

theorem Fr.put_rest (fr : Fr) (d : Option Nat) (x : AV) : (fr.put d x).box = fr.box ∧ (fr.put d x).gen = fr.gen ∧ (fr.put d x).tab = fr.tab ∧ (fr.put d x).tgen = fr.tgen := by
  cases d <;> exact ⟨rfl, rfl, rfl, rfl⟩

theorem put_tmps (a : Act) (d : Option Nat) (v : Value) (t : Nat) (hd : ∀ d', d = some d' → d' < a.tmps.size) : (a.put d v).tmps.getD t undef = if d = some t then v else a.tmps.getD t undef := by
  cases d with
  | none => simp [Act.put]
  | some d =>
    have := hd d rfl
    simp only [Act.put, Option.some.injEq, Array.getD_eq_getD_getElem?, Array.getElem?_setIfInBounds]
    by_cases h : d = t
    · subst h; simp [this]
    · simp [h]

theorem EnvRep.put (he : EnvRep F ρ fr a) {d : Option Nat} (hd : ∀ d', d = some d' → d' < a.tmps.size) {x : AV} {v : Value} (hx : FRep F ρ x v) : EnvRep F ρ (fr.put d x) (a.put d v) := by
  intro t
  rw [Fr.put_env, put_tmps a d v t hd]
  split
  · exact hx
  · exact he t

theorem put_size (a : Act) (d : Option Nat) (v : Value) : (a.put d v).tmps.size = a.tmps.size := by cases d <;> simp [Act.put]
theorem put_defers (a : Act) (d : Option Nat) (v : Value) : (a.put d v).defers = a.defers := by cases d <;> rfl

/-- A value is laid into a slot. -/
theorem WR.put (h : WR T n B0 ρ F R fr H a w) {d : Option Nat} (hd : ∀ d', d = some d' → d' < n) {x : AV} {v : Value} (hx : FRep F ρ x v) : WR T n B0 ρ F R (fr.put d x) H (a.put d v) w := by
  obtain ⟨e1, e2, e3, e4⟩ := Fr.put_rest fr d x
  refine ⟨h.g, by rw [put_size]; exact h.size, by rw [put_defers]; exact h.defers, h.env.put (by rw [h.size]; exact hd) hx, h.hn, ?_, ?_, ?_, ?_, h.frole, h.grole, h.rfresh, h.B0le⟩
  · rw [e2]; exact h.lg
  · rw [e4]; exact h.ag
  · rw [e1, e2]; exact h.box
  · rw [e3, e4]; exact h.tok

/-- A draw. -/
theorem WR.drew (h : WR T n B0 ρ F R fr H a w) : WR T n B0 ρ F R fr H a w.drew :=
  ⟨⟨h.g.imm, h.g.glob, h.g.inj, h.g.gF, h.g.fresh, h.g.tabs⟩, h.size, h.defers, h.env, h.hn, h.lg, h.ag, h.box, h.tok, h.frole, h.grole, h.rfresh, h.B0le⟩

theorem heap_lt {w : World} {b : Nat} {o : Obj} (h : w.heap[b]? = some o) : b < w.heap.size := (Array.getElem?_eq_some_iff.1 h).1

/-- A new block, which nobody knows yet. -/
theorem WR.alloc (h : WR T n B0 ρ F R fr H a w) (o : Obj) : WR T n B0 ρ F R fr H a (w.alloc o) := by
  have hs : (w.alloc o).heap.size = w.heap.size + 1 := World.size_alloc w o
  refine ⟨⟨?_, ?_, h.g.inj, h.g.gF, ?_, h.g.tabs⟩, h.size, h.defers, h.env, h.hn, h.lg, h.ag, ?_, ?_, h.frole, h.grole, ?_, by have := h.B0le; omega⟩
  · intro b j v hf
    rw [World.cell?_alloc_lt w o ⟨b, j, none⟩ (h.F_lt hf)]
    exact h.g.imm b j v hf
  · intro ob cs hc
    obtain ⟨vs, ty, h1, h2⟩ := h.g.glob ob cs hc
    exact ⟨vs, ty, (heap_alloc_old w o (heap_lt h1)).trans h1, h2⟩
  · intro b j hb
    exact h.g.fresh b j (by omega)
  · intro d cs hd
    obtain ⟨h1, h2, h3, vs, ty, h4, h5⟩ := h.box d cs hd
    exact ⟨h1, h2, h3, vs, ty, (heap_alloc_old w o (heap_lt h4)).trans h4, h5⟩
  · intro k m hk b c sz hA
    obtain ⟨h1, h2, h3, h3', ⟨vs, ty, h4, h5⟩, h6⟩ := h.tok k m hk b c sz hA
    exact ⟨h1, h2, h3, h3', ⟨vs, ty, (heap_alloc_old w o (heap_lt h4)).trans h4, h5⟩, h6⟩
  · intro b hb
    exact h.rfresh b (by omega)

/-- What a slot holds stands for more, in a memory that has grown. -/
theorem EnvRep.grow (he : EnvRep F ρ fr a) (hg : MGrow F F' ρ ρ') : EnvRep F' ρ' fr a := fun t => (he t).grow hg

def upd2 {α : Type} (f : Nat → Nat → α) (i j : Nat) (x : α) : Nat → Nat → α := fun i' j' => if i' = i ∧ j' = j then x else f i' j'

/-- A free block becomes a box of the frame. -/
theorem WR.claim (h : WR T n B0 ρ F R fr H a w) {b : Nat} {vs : Array Value} {ty : TypeId} {cs : List AV} (hb : B0 ≤ b) (hfree : R b = .free) (hF : ∀ j, F b j = none)
    (hh : w.heap[b]? = some (.cells vs ty (0, 0))) (hcs : All2 (FCell F ρ) cs vs.toList) (hone : ∀ c ∈ cs, c.isOne = true) {d : Nat} (hd : d < n) :
    ∃ ρ' R', ρ'.G = ρ.G ∧ WR T n B0 ρ' F R' { fr with env := upd fr.env d (.lptr d (fr.gen d + 1) 0), box := upd fr.box d (some cs), gen := upd fr.gen d (fr.gen d + 1) } H
      (a.put (some d) (.pointer (some ⟨b, 0, none⟩))) w := by
  let ρ' : Maps := { ρ with L := upd2 ρ.L d (fr.gen d + 1) b, lg := upd ρ.lg d (fr.gen d + 1) }
  let R' : Nat → Role := upd R b (.box d)
  have hmg : MGrow F F ρ ρ' := by
    refine ⟨.refl, fun d' => ?_, fun d' g hg => ?_, fun _ => Nat.le_refl _, fun _ _ _ => rfl⟩
    · show ρ.lg d' ≤ upd ρ.lg d (fr.gen d + 1) d'
      unfold upd
      split
      · rename_i h'; subst h'; rw [h.lg]; omega
      · exact Nat.le_refl _
    · show upd2 ρ.L d (fr.gen d + 1) b d' g = ρ.L d' g
      unfold upd2
      rw [if_neg]
      rintro ⟨rfl, rfl⟩
      rw [h.lg] at hg
      omega
  have hRne : ∀ b', R b' ≠ .free → R' b' = R b' := by
    intro b' hb'
    show upd R b (.box d) b' = R b'
    unfold upd
    rw [if_neg]
    rintro rfl
    exact hb' hfree
  refine ⟨ρ', R', rfl, ?_⟩
  refine ⟨⟨h.g.imm, h.g.glob, h.g.inj, h.g.gF, h.g.fresh, h.g.tabs⟩, by rw [put_size]; exact h.size, by rw [put_defers]; exact h.defers, ?_, h.hn, ?_, h.ag, ?_, ?_, ?_, ?_, ?_, h.B0le⟩
  · have h0 := (h.env.grow hmg).put (d := some d) (by intro d' he; injection he with he; subst he; rw [h.size]; exact hd) (x := .lptr d (fr.gen d + 1) 0) (v := .pointer (some ⟨b, 0, none⟩))
      (by
        have := FCell.lptr (F := F) (ρ := ρ') (b := d) (g := fr.gen d + 1) (off := 0) (by show _ ≤ upd ρ.lg d (fr.gen d + 1) d; simp [upd])
        have e : ρ'.L d (fr.gen d + 1) = b := by show upd2 ρ.L d (fr.gen d + 1) b d (fr.gen d + 1) = b; simp [upd2]
        rw [e] at this
        exact .cell this)
    exact h0
  · intro d'
    show upd ρ.lg d (fr.gen d + 1) d' = upd fr.gen d (fr.gen d + 1) d'
    unfold upd
    split
    · rfl
    · exact h.lg d'
  · intro d' cs' hd'
    simp only [upd] at hd' ⊢
    by_cases he : d' = d
    · subst he
      simp only [if_true] at hd' ⊢
      cases hd'
      have e : ρ'.L d' (fr.gen d' + 1) = b := by show upd2 ρ.L d' (fr.gen d' + 1) b d' (fr.gen d' + 1) = b; simp [upd2]
      rw [e]
      refine ⟨hb, ?_, hone, vs, ty, hh, hcs.mono fun _ _ _ h => h.grow hmg⟩
      show upd R b (.box d') b = .box d'
      simp [upd]
    · simp only [if_neg he] at hd' ⊢
      obtain ⟨h1, h2, h3, vs', ty', h4, h5⟩ := h.box d' cs' hd'
      have e : ρ'.L d' (fr.gen d') = ρ.L d' (fr.gen d') := by show upd2 ρ.L d (fr.gen d + 1) b d' (fr.gen d') = _; simp [upd2, he]
      rw [e]
      exact ⟨h1, by rw [hRne _ (by rw [h2]; simp)]; exact h2, h3, vs', ty', h4, h5.mono fun _ _ _ h => h.grow hmg⟩
  · intro k m hk b' c sz hA
    obtain ⟨h1, h2, h3⟩ := h.tok k m hk b' c sz hA
    exact ⟨h1, by rw [hRne _ (by rw [h2]; simp)]; exact h2, h3⟩
  · intro b' j v hf
    have hne : b' ≠ b := by rintro rfl; rw [hF j] at hf; cases hf
    have e : R' b' = R b' := by show upd R b (.box d) b' = R b'; simp [upd, hne]
    rw [e]
    exact h.frole b' j v hf
  · intro o ho
    have := h.grole o ho
    rw [hRne _ (by show R (ρ.G o) ≠ _; rw [this]; simp)]
    exact this
  · intro b' hb'
    have hne : b' ≠ b := by rintro rfl; have := heap_lt hh; omega
    show upd R b (.box d) b' = .free
    simp only [upd, if_neg hne]
    exact h.rfresh b' hb'

/-- A free block becomes a shared object. -/
theorem WR.claimG (h : WR T n B0 ρ F R fr H a w) {b : Nat} {vs : Array Value} {ty : TypeId} {cs : List AV} (hfree : R b = .free) (hF : ∀ j, F b j = none)
    (hh : w.heap[b]? = some (.cells vs ty (0, 0))) (hcs : All2 (PRep F ρ.G ρ.n) cs vs.toList) (hone : ∀ c ∈ cs, c.isOne = true) {d : Nat} (hd : d < n) :
    ∃ ρ' R', (∀ o, o < H.length → ρ'.G o = ρ.G o) ∧ ρ'.G H.length = b ∧ WR T n B0 ρ' F R' { fr with env := upd fr.env d (.gptr H.length 0) } (H ++ [cs])
      (a.put (some d) (.pointer (some ⟨b, 0, none⟩))) w := by
  let ρ' : Maps := { ρ with G := upd ρ.G H.length b, n := H.length + 1 }
  let R' : Nat → Role := upd R b .glob
  have hG : ∀ o, o < H.length → ρ'.G o = ρ.G o := by
    intro o ho
    show upd ρ.G H.length b o = ρ.G o
    simp only [upd]
    rw [if_neg (by omega)]
  have hgr : Grow F F ρ.G ρ'.G ρ.n ρ'.n := ⟨fun _ _ _ h => h, by show ρ.n ≤ H.length + 1; rw [h.hn]; omega, fun o ho => hG o (by rw [h.hn] at ho; exact ho)⟩
  have hmg : MGrow F F ρ ρ' := ⟨hgr, fun _ => Nat.le_refl _, fun _ _ _ => rfl, fun _ => Nat.le_refl _, fun _ _ _ => rfl⟩
  have hgr' : Grow F F ρ.G ρ'.G H.length (H ++ [cs]).length := by
    have := hgr
    rw [h.hn] at this
    simpa using this
  have hRne : ∀ b', R b' ≠ .free → R' b' = R b' := by
    intro b' hb'
    show upd R b .glob b' = R b'
    unfold upd
    rw [if_neg]
    rintro rfl
    exact hb' hfree
  have hGb : ρ'.G H.length = b := by show upd ρ.G H.length b H.length = b; simp [upd]
  refine ⟨ρ', R', hG, hGb, ?_⟩
  refine ⟨⟨h.g.imm, ?_, ?_, ?_, h.g.fresh, fun g x hx => (h.g.tabs g x hx).grow hgr'⟩, by rw [put_size]; exact h.size, by rw [put_defers]; exact h.defers, ?_, by show H.length + 1 = _; simp, h.lg, h.ag, ?_, ?_, ?_, ?_, ?_, h.B0le⟩
  · intro o cs' ho
    rcases Nat.lt_or_ge o H.length with hlt | hge
    · rw [List.getElem?_append_left hlt] at ho
      obtain ⟨vs', ty', h1, h2, h3⟩ := h.g.glob o cs' ho
      rw [hG o hlt]
      exact ⟨vs', ty', h1, h2.mono fun _ _ _ h => h.grow hgr', h3⟩
    · have : o = H.length := by
        have := (List.getElem?_eq_some_iff.1 ho).1
        simp at this
        omega
      subst this
      simp at ho
      subst ho
      rw [hGb]
      exact ⟨vs, ty, hh, hcs.mono fun _ _ _ h' => (by have := h'.grow hgr; simpa using this), hone⟩
  · intro o o' ho ho' he
    simp at ho ho'
    have key : ∀ o, o < H.length → ρ'.G o ≠ b := by
      intro o ho he
      rw [hG o ho] at he
      have := h.grole o ho
      rw [he, hfree] at this
      cases this
    rcases Nat.lt_or_ge o H.length with h1 | h1
    · rcases Nat.lt_or_ge o' H.length with h2 | h2
      · rw [hG o h1, hG o' h2] at he
        exact h.g.inj o o' h1 h2 he
      · have e : o' = H.length := by omega
        subst e
        rw [hGb] at he
        exact absurd he (key o h1)
    · have e : o = H.length := by omega
      subst e
      rcases Nat.lt_or_ge o' H.length with h2 | h2
      · rw [hGb] at he
        exact absurd he.symm (key o' h2)
      · omega
  · intro o j ho
    simp at ho
    rcases Nat.lt_or_ge o H.length with h1 | h1
    · rw [hG o h1]; exact h.g.gF o j h1
    · have e : o = H.length := by omega
      subst e
      rw [hGb]; exact hF j
  · have h0 := (h.env.grow hmg).put (d := some d) (by intro d' he; injection he with he; subst he; rw [h.size]; exact hd) (x := .gptr H.length 0) (v := .pointer (some ⟨b, 0, none⟩))
      (by
        have := PRep.gptr (F := F) (G := ρ'.G) (n := ρ'.n) (o := H.length) (off := 0) (by show _ < H.length + 1; omega)
        rw [hGb] at this
        exact .p this)
    exact h0
  · intro d' cs' hd'
    obtain ⟨h1, h2, h3, vs', ty', h4, h5⟩ := h.box d' cs' hd'
    exact ⟨h1, by rw [hRne _ (by show R (ρ.L d' (fr.gen d')) ≠ _; rw [h2]; simp)]; exact h2, h3, vs', ty', h4, h5.mono fun _ _ _ h => h.grow hmg⟩
  · intro k m hk b' c sz hA
    obtain ⟨h1, h2, h3⟩ := h.tok k m hk b' c sz hA
    exact ⟨h1, by rw [hRne _ (by rw [h2]; simp)]; exact h2, h3⟩
  · intro b' j v hf
    have hne : b' ≠ b := by rintro rfl; rw [hF j] at hf; cases hf
    have e : R' b' = R b' := by show upd R b .glob b' = R b'; simp [upd, hne]
    rw [e]
    exact h.frole b' j v hf
  · intro o ho
    simp at ho
    rcases Nat.lt_or_ge o H.length with h1 | h1
    · have := h.grole o h1
      rw [hG o h1, hRne _ (by rw [this]; simp)]
      exact this
    · have e : o = H.length := by omega
      subst e
      rw [hGb]
      show upd R b .glob b = .glob
      simp [upd]
  · intro b' hb'
    have hne : b' ≠ b := by rintro rfl; have := heap_lt hh; omega
    show upd R b .glob b' = .free
    simp only [upd, if_neg hne]
    exact h.rfresh b' hb'

end

/-! ### cells of a box, written -/

theorem cell_setRow_other (w : World) (g : Nat) (cs : Array Value) (b o : Nat) (h : b ≠ g) : (w.setRow g cs).cell? ⟨b, o, none⟩ = w.cell? ⟨b, o, none⟩ :=
  World.cell?_of_block (w := w) (a := ⟨b, o, none⟩) (setRow_other w g b cs h)

theorem size_setRow (w : World) (g : Nat) (cs : Array Value) : (w.setRow g cs).heap.size = w.heap.size := by simp [World.setRow]

section
variable {T : Tabs} {n B0 : Nat} {ρ : Maps} {F : Imm} {R : Nat → Role} {fr : Fr} {H : Heap} {a : Act} {w : World}

/-- A box of the frame is written. -/
theorem WR.setBox (h : WR T n B0 ρ F R fr H a w) {d : Nat} {cs cs' : List AV} {vs' : Array Value} (hd : fr.box d = some cs) (hcs : All2 (FCell F ρ) cs' vs'.toList) (hone : ∀ c ∈ cs', c.isOne = true) :
    WR T n B0 ρ F R { fr with box := upd fr.box d (some cs') } H a (w.setRow (ρ.L d (fr.gen d)) vs') := by
  obtain ⟨h1, h2, h3, vs, ty, h4, h5⟩ := h.box d cs hd
  have hne : ∀ b, R b ≠ .box d → b ≠ ρ.L d (fr.gen d) := by
    rintro b hb rfl
    exact hb h2
  refine ⟨⟨?_, ?_, h.g.inj, h.g.gF, ?_, h.g.tabs⟩, h.size, h.defers, h.env, h.hn, h.lg, h.ag, ?_, ?_, h.frole, h.grole, ?_, by rw [size_setRow]; exact h.B0le⟩
  · intro b o v hf
    rw [cell_setRow_other]
    · exact h.g.imm b o v hf
    · refine hne b ?_
      rcases h.frole b o v hf with h' | ⟨k, h'⟩ <;> rw [h'] <;> simp
  · intro o cs'' ho
    obtain ⟨vs'', ty'', e1, e2⟩ := h.g.glob o cs'' ho
    refine ⟨vs'', ty'', ?_, e2⟩
    rw [setRow_other]
    · exact e1
    · refine hne _ ?_
      rw [h.grole o (List.getElem?_eq_some_iff.1 ho).1]
      simp
  · intro b j hb
    rw [size_setRow] at hb
    exact h.g.fresh b j hb
  · intro d' cs'' hd'
    simp only [upd] at hd'
    by_cases he : d' = d
    · subst he
      simp only [if_true] at hd'
      cases hd'
      exact ⟨h1, h2, hone, vs', ty, setRow_heap w _ vs vs' ty (0, 0) h4, hcs⟩
    · simp only [if_neg he] at hd'
      obtain ⟨e1, e2, e3, vs'', ty'', e4, e5⟩ := h.box d' cs'' hd'
      refine ⟨e1, e2, e3, vs'', ty'', ?_, e5⟩
      rw [setRow_other]
      · exact e4
      · refine hne _ ?_
        rw [e2]
        simp [he]
  · intro k m hk b c sz hA
    obtain ⟨e1, e2, e3, e3', ⟨vs'', ty'', e4, e5⟩, e6⟩ := h.tok k m hk b c sz hA
    refine ⟨e1, e2, e3, e3', ⟨vs'', ty'', ?_, e5⟩, e6⟩
    rw [setRow_other]
    · exact e4
    · refine hne _ ?_
      rw [e2]
      simp
  · intro b hb
    rw [size_setRow] at hb
    exact h.rfresh b hb

/-- A shared object is written. -/
theorem WR.setGlob (h : WR T n B0 ρ F R fr H a w) {o : Nat} {cs cs' : List AV} {vs' : Array Value} (hd : H[o]? = some cs) (hcs : All2 (PRep F ρ.G ρ.n) cs' vs'.toList) (hone : ∀ c ∈ cs', c.isOne = true) :
    WR T n B0 ρ F R fr (H.set o cs') a (w.setRow (ρ.G o) vs') := by
  have hlt := (List.getElem?_eq_some_iff.1 hd).1
  obtain ⟨vs, ty, h4, h5, h6⟩ := h.g.glob o cs hd
  have hro := h.grole o hlt
  have hne : ∀ b, R b ≠ .glob → b ≠ ρ.G o := by
    rintro b hb rfl
    exact hb hro
  have hl : (H.set o cs').length = H.length := by simp
  refine ⟨⟨?_, ?_, ?_, ?_, ?_, ?_⟩, h.size, h.defers, h.env, by rw [hl]; exact h.hn, h.lg, h.ag, ?_, ?_, h.frole, ?_, ?_, by rw [size_setRow]; exact h.B0le⟩
  · intro b o' v hf
    rw [cell_setRow_other]
    · exact h.g.imm b o' v hf
    · refine hne b ?_
      rcases h.frole b o' v hf with h' | ⟨k, h'⟩ <;> rw [h'] <;> simp
  · intro o' cs'' ho
    rw [hl]
    by_cases he : o = o'
    · subst he
      simp only [List.getElem?_set_self hlt] at ho
      cases ho
      refine ⟨vs', ty, setRow_heap w _ vs vs' ty (0, 0) h4, ?_, hone⟩
      rw [← h.hn]
      exact hcs
    · rw [List.getElem?_set_ne he] at ho
      obtain ⟨vs'', ty'', e1, e2⟩ := h.g.glob o' cs'' ho
      refine ⟨vs'', ty'', ?_, e2⟩
      rw [setRow_other]
      · exact e1
      · exact fun e => he (h.g.inj o' o (List.getElem?_eq_some_iff.1 ho).1 hlt e).symm
  · rw [hl]; exact h.g.inj
  · rw [hl]; exact h.g.gF
  · intro b j hb
    rw [size_setRow] at hb
    exact h.g.fresh b j hb
  · rw [hl]; exact h.g.tabs
  · intro d' cs'' hd'
    obtain ⟨e1, e2, e3, vs'', ty'', e4, e5⟩ := h.box d' cs'' hd'
    refine ⟨e1, e2, e3, vs'', ty'', ?_, e5⟩
    rw [setRow_other]
    · exact e4
    · refine hne _ ?_
      rw [e2]
      simp
  · intro k m hk b c sz hA
    obtain ⟨e1, e2, e3, e3', ⟨vs'', ty'', e4, e5⟩, e6⟩ := h.tok k m hk b c sz hA
    refine ⟨e1, e2, e3, e3', ⟨vs'', ty'', ?_, e5⟩, e6⟩
    rw [setRow_other]
    · exact e4
    · refine hne _ ?_
      rw [e2]
      simp
  · rw [hl]; exact h.grole
  · intro b hb
    rw [size_setRow] at hb
    exact h.rfresh b hb

end
end Go.Abs
