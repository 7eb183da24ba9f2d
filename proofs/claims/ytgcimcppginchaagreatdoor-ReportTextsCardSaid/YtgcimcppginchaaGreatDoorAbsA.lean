/- A part of the proof of ReportTexts: contracts of functions of the program, and what they need. -/
import Derived.Orders
import Derived.Below
import Derived.Laws.AppendOwn
import Derived.Laws.Cells
import Derived.Laws.CopyRow
import Derived.Laws.Small
import Derived.Laws.Pointers
import Derived.WalkSpells
/-
  The abstract layer, part A: abstract values, how they stand for the model's values, and what stays true of that when memory grows.
  No program is named here.
-/
set_option linter.unusedSimpArgs false
set_option linter.unusedVariables false
namespace Go.Abs
open Go

/-- What is known of a slice's spare room: nothing (frz); there is none (full); it is this frame's own (loc: the slot that made it, the how-manyth time). -/
inductive Tag where
  | frz
  | full
  | loc (k g : Nat)

/-- Abstract values: data without addresses. -/
inductive AV where
  | undef
  | sc (v : Value)
  | rptr (x : AV)
  | lptr (b g off : Nat)
  | gptr (o off : Nat)
  | slice (tag : Tag) (l : List AV)
  | agg (cs : List AV)
  | tuple (vs : List AV)
  | func (fn : Fn) (first cap : List AV)
  | iface (t : TypeId) (x : AV)
  | lsl (b g len cap : Nat)
  | mptr (o : Nat)
  | mapc (ks : List Value) (xs : List AV)
  | miter (o since : Nat) (seen : List Nat)
  | gsl (o off len cap : Nat)
  | nul

instance : Inhabited AV := ⟨.undef⟩

/-- The cells that a value fills. -/
def AV.cells : AV → List AV
  | .agg cs => cs
  | x => [x]

def AV.isOne : AV → Bool
  | .agg _ => false
  | .tuple _ => false
  | .mapc _ _ => false
  | .miter _ _ _ => false
  | _ => true

/-- Values of one cell without an address. -/
def isSc : Value → Bool
  | .bool _ => true
  | .int _ _ => true
  | .float _ _ => true
  | .string _ => true
  | .pointer none => true
  | .map none => true
  | .nilFunc => true
  | .nilIface => true
  | _ => false

/-- All the values of two lists stand in a relation, one by one. -/
inductive All2 {α β : Type} (R : α → β → Prop) : List α → List β → Prop
  | nil : All2 R [] []
  | cons {a b as bs} : R a b → All2 R as bs → All2 R (a :: as) (b :: bs)

theorem All2.length {α β : Type} {R : α → β → Prop} {as : List α} {bs : List β} (h : All2 R as bs) : as.length = bs.length := by
  induction h with
  | nil => rfl
  | cons _ _ ih => simp [ih]

theorem All2.mono {α β : Type} {R S : α → β → Prop} {as : List α} {bs : List β} (h : All2 R as bs) (hs : ∀ a b, a ∈ as → R a b → S a b) : All2 S as bs := by
  induction h with
  | nil => exact .nil
  | cons h1 _ ih => exact .cons (hs _ _ (by simp) h1) (ih fun a b ha => hs a b (by simp [ha]))

theorem All2.append {α β : Type} {R : α → β → Prop} {as as' : List α} {bs bs' : List β} (h : All2 R as bs) (h' : All2 R as' bs') : All2 R (as ++ as') (bs ++ bs') := by
  induction h with
  | nil => exact h'
  | cons h1 _ ih => exact .cons h1 ih

theorem All2.take {α β : Type} {R : α → β → Prop} {as : List α} {bs : List β} (h : All2 R as bs) (n : Nat) : All2 R (as.take n) (bs.take n) := by
  induction h generalizing n with
  | nil => simp; exact .nil
  | cons h1 _ ih => cases n with
    | zero => exact .nil
    | succ n => exact .cons h1 (ih n)

theorem All2.drop {α β : Type} {R : α → β → Prop} {as : List α} {bs : List β} (h : All2 R as bs) (n : Nat) : All2 R (as.drop n) (bs.drop n) := by
  induction h generalizing n with
  | nil => simp; exact .nil
  | cons h1 h2 ih => cases n with
    | zero => exact .cons h1 h2
    | succ n => exact ih n

theorem All2.get {α β : Type} {R : α → β → Prop} {as : List α} {bs : List β} (h : All2 R as bs) {i : Nat} {a : α} (ha : as[i]? = some a) : ∃ b, bs[i]? = some b ∧ R a b := by
  induction h generalizing i with
  | nil => simp at ha
  | cons h1 _ ih => cases i with
    | zero => simp at ha; subst ha; exact ⟨_, rfl, h1⟩
    | succ i => simp at ha; simpa using ih ha

theorem All2.mem {α β : Type} {R : α → β → Prop} {as : List α} {bs : List β} (h : All2 R as bs) {b : β} (hb : b ∈ bs) : ∃ a ∈ as, R a b := by
  induction h with
  | nil => simp at hb
  | cons h1 _ ih =>
    rcases List.mem_cons.1 hb with rfl | hb
    · exact ⟨_, by simp, h1⟩
    · obtain ⟨a, ha, hr⟩ := ih hb
      exact ⟨a, by simp [ha], hr⟩

theorem All2.map_left {α α' β : Type} {R : α → β → Prop} {S : α' → β → Prop} {as : List α} {bs : List β} (f : α → α') (h : All2 R as bs) (hs : ∀ a b, a ∈ as → R a b → S (f a) b) : All2 S (as.map f) bs := by
  induction h with
  | nil => exact .nil
  | cons h1 _ ih => exact .cons (hs _ _ (by simp) h1) (ih fun a b ha => hs a b (by simp [ha]))

/-- The memory that no longer changes: what its cells hold. -/
abbrev Imm := Nat → Nat → Option Value

/-- Cells from a place on. -/
def Imm.has (F : Imm) (b o : Nat) (vs : List Value) : Prop := ∀ i v, vs[i]? = some v → F b (o + i) = some v

mutual
/-- A value of the model that stands for an abstract one: its data lies in memory that does not change; pointers lead to abstract objects. -/
inductive PRep (F : Imm) (G : Nat → Nat) (n : Nat) : AV → Value → Prop
  | undef {v} : v.oneCell' = true → PRep F G n .undef v
  | sc {v} : isSc v = true → PRep F G n (.sc v) v
  | rptr {x b o vs} : PRepL F G n x.cells vs → F.has b o vs → (∀ c ∈ x.cells, c.isOne = true) → PRep F G n (.rptr x) (.pointer (some ⟨b, o, none⟩))
  | gptr {o off} : o < n → PRep F G n (.gptr o off) (.pointer (some ⟨G o, off, none⟩))
  | mptr {o} : o < n → PRep F G n (.mptr o) (.map (some (G o)))
  | gsl {o off len cap} : o < n → len ≤ cap → cap ≤ maxLen → PRep F G n (.gsl o off len cap) (.slice (some ⟨G o, off, none⟩) len cap)
  | slice {tag l vs b o base cap sz} : PRepL F G n (l.flatMap AV.cells) vs → F.has b o vs → (l ≠ [] → base = some ⟨b, o, none⟩) → (∀ x ∈ l, x.cells.length = sz) →
      (∀ c ∈ l.flatMap AV.cells, c.isOne = true) → l.length ≤ cap → cap ≤ maxLen → tag = .frz ∨ tag = .full ∧ cap = l.length → PRep F G n (.slice tag l) (.slice base l.length cap)
  | nul {base} : PRep F G n .nul (.slice base 0 0)
  | agg {cs vs} : PRepL F G n cs vs → (∀ c ∈ cs, c.isOne = true) → PRep F G n (.agg cs) (.agg vs.toArray)
  | tuple {cs vs} : PRepL F G n cs vs → PRep F G n (.tuple cs) (.tuple vs.toArray)
  | func {fn f c vf vc} : PRepL F G n f vf → PRepL F G n c vc → PRep F G n (.func fn f c) (.func fn vf.toArray vc.toArray)
  | iface {t x v} : PRep F G n x v → PRep F G n (.iface t x) (.iface t v)
inductive PRepL (F : Imm) (G : Nat → Nat) (n : Nat) : List AV → List Value → Prop
  | nil : PRepL F G n [] []
  | cons {x v xs vs} : PRep F G n x v → PRepL F G n xs vs → PRepL F G n (x :: xs) (v :: vs)
end

section
variable {F F' : Imm} {G G' : Nat → Nat} {n n' : Nat}

theorem PRepL.all2 {xs vs} (h : PRepL F G n xs vs) : All2 (PRep F G n) xs vs := by
  induction xs generalizing vs with
  | nil => cases h; exact .nil
  | cons x xs ih => cases h with | cons h1 h2 => exact .cons h1 (ih h2)

theorem PRepL.of_all2 {xs vs} (h : All2 (PRep F G n) xs vs) : PRepL F G n xs vs := by
  induction h with
  | nil => exact .nil
  | cons h1 _ ih => exact .cons h1 ih

/-- The memory that no longer changes has grown, and so have the objects. -/
structure Grow (F F' : Imm) (G G' : Nat → Nat) (n n' : Nat) : Prop where
  mF : ∀ b o v, F b o = some v → F' b o = some v
  mn : n ≤ n'
  mG : ∀ o, o < n → G' o = G o

theorem Grow.refl : Grow F F G G n n := ⟨fun _ _ _ h => h, Nat.le_refl _, fun _ _ => rfl⟩

theorem Grow.trans {F'' : Imm} {G'' : Nat → Nat} {n'' : Nat} (h : Grow F F' G G' n n') (h' : Grow F' F'' G' G'' n' n'') : Grow F F'' G G'' n n'' :=
  ⟨fun b o v hv => h'.mF b o v (h.mF b o v hv), Nat.le_trans h.mn h'.mn, fun o ho => (h'.mG o (Nat.lt_of_lt_of_le ho h.mn)).trans (h.mG o ho)⟩

theorem Imm.has.grow {b o vs} (h : F.has b o vs) (hg : Grow F F' G G' n n') : F'.has b o vs := fun i v hv => hg.mF _ _ _ (h i v hv)

mutual
theorem PRep.grow (hg : Grow F F' G G' n n') : ∀ {x v}, PRep F G n x v → PRep F' G' n' x v
  | _, _, .undef h => .undef h
  | _, _, .sc h => .sc h
  | _, _, .rptr h1 h2 h3 => .rptr (h1.grow hg) (h2.grow hg) h3
  | _, _, .gptr (o := o) (off := off) h => by
    rw [← hg.mG o h]
    exact .gptr (Nat.lt_of_lt_of_le h hg.mn)
  | _, _, .mptr (o := o) h => by
    rw [← hg.mG o h]
    exact .mptr (Nat.lt_of_lt_of_le h hg.mn)
  | _, _, .gsl (o := o) h h2 h3 => by
    rw [← hg.mG o h]
    exact .gsl (Nat.lt_of_lt_of_le h hg.mn) h2 h3
  | _, _, .slice h1 h2 h3 h4 h5 h6 h7 h8 => .slice (h1.grow hg) (h2.grow hg) h3 h4 h5 h6 h7 h8
  | _, _, .nul => .nul
  | _, _, .agg h1 h2 => .agg (h1.grow hg) h2
  | _, _, .tuple h1 => .tuple (h1.grow hg)
  | _, _, .func h1 h2 => .func (h1.grow hg) (h2.grow hg)
  | _, _, .iface h1 => .iface (h1.grow hg)
theorem PRepL.grow (hg : Grow F F' G G' n n') : ∀ {xs vs}, PRepL F G n xs vs → PRepL F' G' n' xs vs
  | _, _, .nil => .nil
  | _, _, .cons h1 h2 => .cons (h1.grow hg) (h2.grow hg)
end

theorem PRep.oneCell {x v} (h : PRep F G n x v) (hx : x.isOne = true) : v.oneCell' = true := by
  cases h with
  | undef h => exact h
  | sc h => revert h; cases v <;> simp [isSc, Value.oneCell']
  | agg h1 h2 => simp [AV.isOne] at hx
  | tuple h1 => simp [AV.isOne] at hx
  | _ => rfl

/-- The cells of a value of the model, of which an abstract one is known. -/
theorem PRep.cells {x v} (h : PRep F G n x v) (hx : ∀ vs, x ≠ .tuple vs) : PRepL F G n x.cells v.cells.toList := by
  cases h with
  | undef h => cases v <;> first | exact .cons (.undef h) .nil | (simp [Value.oneCell'] at h; done)
  | sc h => cases v <;> first | exact .cons (.sc h) .nil | (simp [isSc] at h; done)
  | rptr h1 h2 h3 => exact .cons (.rptr h1 h2 h3) .nil
  | gptr h1 => exact .cons (.gptr h1) .nil
  | mptr h1 => exact .cons (.mptr h1) .nil
  | gsl h1 h2 h3 => exact .cons (.gsl h1 h2 h3) .nil
  | slice h1 h2 h3 h4 h5 h6 h7 h8 => exact .cons (.slice h1 h2 h3 h4 h5 h6 h7 h8) .nil
  | nul => exact .cons .nul .nil
  | agg h1 h2 => exact h1
  | tuple h1 => exact absurd rfl (hx _)
  | func h1 h2 => exact .cons (.func h1 h2) .nil
  | iface h1 => exact .cons (.iface h1) .nil

end

/-- Where a frame's own things lie: the boxes (slot, how-manyth) and the rows that it appends to (block, room, cells of an element). -/
structure Maps where
  G : Nat → Nat
  n : Nat
  L : Nat → Nat → Nat
  lg : Nat → Nat
  A : Nat → Nat → Option (Nat × Nat × Nat)
  ag : Nat → Nat

/-- A slice of the frame's own. -/
def OwnRow (ρ : Maps) (k g : Nat) (l : List AV) (base : Option Addr) (cap : Nat) : Prop :=
  match ρ.A k g with
  | none => cap = l.length
  | some (b, c, sz) => base = some ⟨b, 0, none⟩ ∧ cap = c ∧ ∀ x ∈ l, x.cells.length = sz

/-- The value of a cell of a frame (a slot, or a cell of a box). -/
inductive FCell (F : Imm) (ρ : Maps) : AV → Value → Prop
  | p {x v} : PRep F ρ.G ρ.n x v → FCell F ρ x v
  | lptr {b g off} : g ≤ ρ.lg b → FCell F ρ (.lptr b g off) (.pointer (some ⟨ρ.L b g, off, none⟩))
  | loc {k g l base cap} : PRep F ρ.G ρ.n (.slice .frz l) (.slice base l.length cap) → g ≤ ρ.ag k → OwnRow ρ k g l base cap →
      FCell F ρ (.slice (.loc k g) l) (.slice base l.length cap)
  | lsl {b g len cap} : g ≤ ρ.lg b → len ≤ cap → cap ≤ maxLen → FCell F ρ (.lsl b g len cap) (.slice (some ⟨ρ.L b g, 0, none⟩) len cap)

inductive FRep (F : Imm) (ρ : Maps) : AV → Value → Prop
  | cell {x v} : FCell F ρ x v → FRep F ρ x v
  | agg {cs vs} : All2 (FCell F ρ) cs vs → (∀ c ∈ cs, c.isOne = true) → FRep F ρ (.agg cs) (.agg vs.toArray)

/-- The frame's things have become more. -/
structure MGrow (F F' : Imm) (ρ ρ' : Maps) : Prop where
  g : Grow F F' ρ.G ρ'.G ρ.n ρ'.n
  lg : ∀ b, ρ.lg b ≤ ρ'.lg b
  L : ∀ b g, g ≤ ρ.lg b → ρ'.L b g = ρ.L b g
  ag : ∀ k, ρ.ag k ≤ ρ'.ag k
  A : ∀ k g, g ≤ ρ.ag k → ρ'.A k g = ρ.A k g

section
variable {F F' : Imm} {ρ ρ' : Maps}

theorem MGrow.refl : MGrow F F ρ ρ := ⟨.refl, fun _ => Nat.le_refl _, fun _ _ _ => rfl, fun _ => Nat.le_refl _, fun _ _ _ => rfl⟩

theorem FCell.grow (hg : MGrow F F' ρ ρ') {x v} (h : FCell F ρ x v) : FCell F' ρ' x v := by
  cases h with
  | p h => exact .p (h.grow hg.g)
  | lptr h =>
    rename_i b g off
    rw [← hg.L b g h]
    exact .lptr (Nat.le_trans h (hg.lg b))
  | loc h1 h2 h3 =>
    refine .loc (h1.grow hg.g) (Nat.le_trans h2 (hg.ag _)) ?_
    unfold OwnRow
    rw [hg.A _ _ h2]
    exact h3
  | lsl h h2 h3 =>
    rename_i b g len cap
    rw [← hg.L b g h]
    exact .lsl (Nat.le_trans h (hg.lg b)) h2 h3

theorem FRep.grow (hg : MGrow F F' ρ ρ') {x v} (h : FRep F ρ x v) : FRep F' ρ' x v := by
  cases h with
  | cell h => exact .cell (h.grow hg)
  | agg h1 h2 => exact .agg (h1.mono fun _ _ _ h => h.grow hg) h2

theorem FRep.p {x v} (h : PRep F ρ.G ρ.n x v) : FRep F ρ x v := .cell (.p h)

end

/-- What leaves the frame: its own slices become slices of which nothing more is known, pointers to its boxes are forgotten. -/
def AV.ncell : AV → AV
  | .slice _ l => .slice .frz l
  | .lptr _ _ _ => .undef
  | .lsl _ _ _ _ => .undef
  | x => x

def AV.norm : AV → AV
  | .agg cs => .agg (cs.map AV.ncell)
  | x => x.ncell

section
variable {F F' : Imm} {ρ ρ' : Maps}

theorem PRep.frz {G : Nat → Nat} {n : Nat} {tag l v} (h : PRep F G n (.slice tag l) v) : PRep F G n (.slice .frz l) v := by
  cases h with
  | slice h1 h2 h3 h4 h5 h6 h7 h8 => exact .slice h1 h2 h3 h4 h5 h6 h7 (.inl rfl)

theorem PRep.ncell {G : Nat → Nat} {n : Nat} {x v} (h : PRep F G n x v) : PRep F G n x.ncell v := by
  cases x with
  | slice tag l => exact h.frz
  | lptr b g off => cases h
  | lsl b g len cap => cases h
  | _ => exact h

theorem FCell.ncell {x v} (h : FCell F ρ x v) : PRep F ρ.G ρ.n x.ncell v := by
  cases h with
  | p h => exact h.ncell
  | lptr h => exact .undef rfl
  | loc h1 h2 h3 => exact h1
  | lsl h1 h2 h3 => exact .undef rfl

theorem AV.isOne_ncell (x : AV) : x.ncell.isOne = x.isOne := by cases x <;> rfl

theorem FRep.norm {x v} (h : FRep F ρ x v) : PRep F ρ.G ρ.n x.norm v := by
  have hcells : ∀ {cs : List AV} {vs : List Value}, All2 (FCell F ρ) cs vs → (∀ c ∈ cs, c.isOne = true) → PRep F ρ.G ρ.n (AV.agg cs).norm (.agg vs.toArray) := by
    intro cs vs h1 h2
    refine .agg (PRepL.of_all2 (h1.map_left AV.ncell fun a b _ h => h.ncell)) ?_
    intro c hc
    obtain ⟨a, ha, rfl⟩ := List.mem_map.1 hc
    rw [AV.isOne_ncell]
    exact h2 a ha
  cases h with
  | agg h1 h2 => exact hcells h1 h2
  | cell h =>
    cases x with
    | agg cs =>
      cases h with
      | p h =>
        cases h with
        | agg h1 h2 => exact hcells (h1.all2.mono fun _ _ _ h => .p h) h2
    | _ => exact h.ncell

/-- The cells of a frame's value. -/
theorem FRep.cells {x v} (h : FRep F ρ x v) (hx : ∀ vs, x ≠ .tuple vs) : All2 (FCell F ρ) x.cells v.cells.toList := by
  cases h with
  | agg h1 h2 => exact h1
  | cell h =>
    cases h with
    | p h => exact (h.cells hx).all2.mono fun _ _ _ h => .p h
    | lptr h => exact .cons (.lptr h) .nil
    | loc h1 h2 h3 => exact .cons (.loc h1 h2 h3) .nil
    | lsl h1 h2 h3 => exact .cons (.lsl h1 h2 h3) .nil

theorem FCell.oneCell {x v} (h : FCell F ρ x v) (hx : x.isOne = true) : v.oneCell' = true := by
  cases h with
  | p h => exact h.oneCell hx
  | lptr h => rfl
  | loc h1 h2 h3 => rfl
  | lsl h1 h2 h3 => rfl

/-- All cells of a frame's value are cells. -/
theorem FRep.ones {x v} (h : FRep F ρ x v) (hx : ∀ vs, x ≠ .tuple vs) : ∀ c ∈ x.cells, c.isOne = true := by
  cases h with
  | agg h1 h2 => exact h2
  | cell h =>
    cases h with
    | p h =>
      cases h with
      | agg h1 h2 => exact h2
      | tuple h1 => exact absurd rfl (hx _)
      | _ => simp [AV.cells, AV.isOne]
    | lptr h => simp [AV.cells, AV.isOne]
    | loc h1 h2 h3 => simp [AV.cells, AV.isOne]
    | lsl h1 h2 h3 => simp [AV.cells, AV.isOne]

end
end Go.Abs

/-
  The abstract layer, part B: frames of abstract values, operations that only compute, and that the model's operations do the same.
-/
namespace Go.Abs
open Go

abbrev Heap := List (List AV)
/-- The package-level variables that are constant tables. -/
abbrev Tabs := Nat → Option AV

structure Fr where
  env : Nat → AV
  box : Nat → Option (List AV)
  gen : Nat → Nat
  tab : Nat → Option Nat
  tgen : Nat → Nat

def upd {α : Type} (f : Nat → α) (i : Nat) (x : α) : Nat → α := fun j => if j = i then x else f j

def Fr.put (fr : Fr) (d : Option Nat) (x : AV) : Fr :=
  match d with
  | some d => { fr with env := upd fr.env d x }
  | none => fr

/-! ### the layout of types -/
section
variable (P : Program)
/-- Whether a type's values fill several cells, and how many. -/
def layOf (t : TypeId) : Option (Bool × Nat) :=
  match P.underlying t, P.info? t with
  | some d, some i => some (match d with | .struct _ | .array _ _ => true | _ => false, i.size)
  | _, _ => none
def zeroOf (t : TypeId) : Option Value := (P.info? t).bind (·.zero)
def fieldOf (t i : Nat) : Option (Nat × TypeId) :=
  match P.underlying t with
  | some (.struct fs) => (fs[i]?).map fun f => (f.offset, f.type)
  | _ => none
def elemOf' (t : TypeId) : Option TypeId :=
  match P.underlying t with
  | some (.slice e) => some e
  | _ => none
def arrOf (t : TypeId) : Option (Nat × TypeId) :=
  match P.underlying t with
  | some (.array n e) => some (n, e)
  | _ => none
def bytesOf' (t : TypeId) : Option Nat := (P.info? t).map (·.bytes)

/-- The value of a type that lies at a place of a row of cells. -/
def readAt (t : TypeId) (cs : List AV) (off : Nat) : Option AV :=
  match layOf P t with
  | some (true, n) => if off + n ≤ cs.length then some (.agg ((cs.drop off).take n)) else none
  | some (false, _) => cs[off]?
  | none => none

/-- A value has the form of a type. -/
def fitsB (t : TypeId) (x : AV) : Bool :=
  match layOf P t, x with
  | some (true, n), .agg cs => cs.length == n
  | some (false, _), .agg _ => false
  | some (false, _), .tuple _ => false
  | some (false, _), .mapc _ _ => false
  | some (false, _), .miter _ _ _ => false
  | some (false, _), _ => true
  | _, _ => false
end

def setCells (cs : List AV) (off : Nat) (new : List AV) : List AV := cs.take off ++ new ++ cs.drop (off + new.length)

def ofCell : Value → AV
  | .slice none 0 0 => .slice .full []
  | .func fn f c => if f.size = 0 ∧ c.size = 0 then .func fn [] [] else .undef
  | .agg _ => .undef
  | .tuple _ => .undef
  | v => if isSc v then .sc v else .undef

def ofValue : Value → AV
  | .agg cs => .agg (cs.toList.map ofCell)
  | .tuple cs => .tuple (cs.toList.map ofCell)
  | v => ofCell v

/-- Constants that 'ofValue' reads. -/
def okConst : Value → Bool
  | .agg cs => cs.all (·.oneCell')
  | .tuple cs => cs.all (·.oneCell')
  | _ => true

theorem ofCell_one (v : Value) : (ofCell v).isOne = true := by
  unfold ofCell
  split <;> first | rfl | (split <;> rfl)

theorem prep_ofCell (F : Imm) (G : Nat → Nat) (n : Nat) (v : Value) (h : v.oneCell' = true) : PRep F G n (ofCell v) v := by
  unfold ofCell
  split
  · exact .slice (l := []) (vs := []) (b := 0) (o := 0) (sz := 0) .nil (fun _ _ h => by simp at h) (by simp) (by simp) (by simp) (by simp) (by simp [maxLen]) (.inr ⟨rfl, rfl⟩)
  · rename_i fn f c
    split
    · rename_i hs
      obtain ⟨h1, h2⟩ := hs
      have e1 : f = #[] := Array.eq_empty_of_size_eq_zero h1
      have e2 : c = #[] := Array.eq_empty_of_size_eq_zero h2
      subst e1; subst e2
      exact .func (vf := []) (vc := []) .nil .nil
    · exact .undef rfl
  · simp [Value.oneCell'] at h
  · simp [Value.oneCell'] at h
  · split
    · exact .sc (by assumption)
    · exact .undef h

theorem prepL_ofCells (F : Imm) (G : Nat → Nat) (n : Nat) : ∀ (vs : List Value), (∀ v ∈ vs, v.oneCell' = true) → PRepL F G n (vs.map ofCell) vs
  | [], _ => .nil
  | v :: vs, h => .cons (prep_ofCell F G n v (h v (by simp))) (prepL_ofCells F G n vs fun u hu => h u (by simp [hu]))

theorem ofValue_one {v : Value} (h : v.oneCell' = true) : ofValue v = ofCell v := by
  cases v <;> first | rfl | (simp [Value.oneCell'] at h)

theorem prep_ofValue (F : Imm) (G : Nat → Nat) (n : Nat) (v : Value) (h : okConst v = true) : PRep F G n (ofValue v) v := by
  cases v with
  | agg cs =>
    have h' : ∀ v ∈ cs.toList, v.oneCell' = true := fun v hv => by
      have h0 : cs.all (·.oneCell') = true := h
      exact Array.all_eq_true_iff_forall_mem.1 h0 v (Array.mem_toList_iff.1 hv)
    exact .agg (vs := cs.toList) (prepL_ofCells F G n cs.toList h') (by
      intro c hc
      obtain ⟨a, _, rfl⟩ := List.mem_map.1 hc
      exact ofCell_one a)
  | tuple cs =>
    have h' : ∀ v ∈ cs.toList, v.oneCell' = true := fun v hv => by
      have h0 : cs.all (·.oneCell') = true := h
      exact Array.all_eq_true_iff_forall_mem.1 h0 v (Array.mem_toList_iff.1 hv)
    exact .tuple (vs := cs.toList) (prepL_ofCells F G n cs.toList h')
  | _ => (rw [ofValue_one rfl]; exact prep_ofCell F G n _ rfl)

/-! ### operands -/
section
variable (T : Tabs) (fr : Fr)

def ev : Operand → AV
  | .tmp t => fr.env t
  | .const v => ofValue v
  | .global g => match T g with | some x => .rptr x | none => .undef
  | .func f => .func (.func f) [] []

def okOperand : Operand → Bool
  | .const v => okConst v
  | _ => true

end

/-- The slots of a frame hold what the abstract ones say. -/
def EnvRep (F : Imm) (ρ : Maps) (fr : Fr) (a : Act) : Prop := ∀ t, FRep F ρ (fr.env t) (a.tmps.getD t undef)

def TabsRep (T : Tabs) (F : Imm) (ρ : Maps) : Prop := ∀ g x, T g = some x → PRep F ρ.G ρ.n (.rptr x) (.pointer (some ⟨g, 0, none⟩))

theorem ev_rep {T : Tabs} {fr : Fr} {F : Imm} {ρ : Maps} {a : Act} (he : EnvRep F ρ fr a) (ht : TabsRep T F ρ) (x : Operand) (hx : okOperand x = true) :
    FRep F ρ (ev T fr x) (a.eval x) := by
  cases x with
  | tmp t => exact he t
  | const v => exact .p (prep_ofValue _ _ _ v hx)
  | global g =>
    show FRep F ρ (match T g with | some x => .rptr x | none => .undef) _
    cases h : T g with
    | none => exact .p (.undef rfl)
    | some x => exact .p (ht g x h)
  | func f => exact .p (.func (vf := []) (vc := []) .nil .nil)

/-! ### numbers, texts, tests -/

def intBin (op : BinOp) (k : IntKind) (a b : Int) : Option Value :=
  match op with
  | .add => some (.int k (k.wrap (a + b)))
  | .sub => some (.int k (k.wrap (a - b)))
  | .mul => some (.int k (k.wrap (a * b)))
  | .quo => if b = 0 then none else some (.int k (k.wrap (a.tdiv b)))
  | .rem => if b = 0 then none else some (.int k (a.tmod b))
  | .and => some (.int k (k.wrap (BitVec.ofInt k.bits a &&& BitVec.ofInt k.bits b).toNat))
  | .or => some (.int k (k.wrap (BitVec.ofInt k.bits a ||| BitVec.ofInt k.bits b).toNat))
  | .xor => some (.int k (k.wrap (BitVec.ofInt k.bits a ^^^ BitVec.ofInt k.bits b).toNat))
  | .andNot => some (.int k (k.wrap (BitVec.ofInt k.bits a &&& ~~~ BitVec.ofInt k.bits b).toNat))
  | .eql => some (.bool (a == b))
  | .neq => some (.bool (a != b))
  | .lss => some (.bool (a < b))
  | .leq => some (.bool (a ≤ b))
  | .gtr => some (.bool (a > b))
  | .geq => some (.bool (a ≥ b))
  | _ => none

def strBin (op : BinOp) (x y : ByteArray) : Option Value :=
  match op with
  | .add => if ((x.size + y.size : Nat) : Int) > IntKind.i64.max then none else some (.string (x ++ y))
  | .eql => some (.bool (x.toList == y.toList))
  | .neq => some (.bool !(x.toList == y.toList))
  | .lss => some (.bool (Op.bytesLess x.toList y.toList))
  | .leq => some (.bool (Op.bytesLess x.toList y.toList || x.toList == y.toList))
  | .gtr => some (.bool !(Op.bytesLess x.toList y.toList || x.toList == y.toList))
  | .geq => some (.bool !(Op.bytesLess x.toList y.toList))
  | _ => none

def isPtr : AV → Bool
  | .rptr _ | .lptr _ _ _ | .gptr _ _ => true
  | _ => false

def binA0 (P : Program) (op : BinOp) (t : TypeId) (x y : AV) : Option AV :=
  match op, x, y with
  | .shl, .sc (.int k a), .sc (.int _ b) => if b < 0 then none else some (.sc (.int k (k.wrap (a * 2 ^ min b.toNat k.bits))))
  | .shr, .sc (.int k a), .sc (.int _ b) => if b < 0 then none else some (.sc (.int k (a.fdiv (2 ^ min b.toNat k.bits))))
  | op, .sc (.int k a), .sc (.int k' b) => if k = k' then (intBin op k a b).map .sc else none
  | op, .sc (.string a), .sc (.string b) => (strBin op a b).map .sc
  | .eql, .sc (.bool a), .sc (.bool b) => match P.underlying t with | some .bool => some (.sc (.bool (a == b))) | _ => none
  | .neq, .sc (.bool a), .sc (.bool b) => match P.underlying t with | some .bool => some (.sc (.bool (!(a == b)))) | _ => none
  | .eql, x, .sc (.pointer none) => match P.underlying t with
    | some (.pointer _) => if isPtr x then some (.sc (.bool false)) else (match x with | .sc (.pointer none) => some (.sc (.bool true)) | _ => none)
    | _ => none
  | .neq, x, .sc (.pointer none) => match P.underlying t with
    | some (.pointer _) => if isPtr x then some (.sc (.bool true)) else (match x with | .sc (.pointer none) => some (.sc (.bool false)) | _ => none)
    | _ => none
  | .eql, .func _ _ _, .sc .nilFunc => match P.underlying t with | some (.func ..) => some (.sc (.bool false)) | _ => none
  | .neq, .func _ _ _, .sc .nilFunc => match P.underlying t with | some (.func ..) => some (.sc (.bool true)) | _ => none
  | .eql, .sc .nilFunc, .sc .nilFunc => match P.underlying t with | some (.func ..) => some (.sc (.bool true)) | _ => none
  | .neq, .sc .nilFunc, .sc .nilFunc => match P.underlying t with | some (.func ..) => some (.sc (.bool false)) | _ => none
  | _, _, _ => none

def unA (op : UnOp) (x : AV) : Option AV :=
  match op, x with
  | .neg, .sc (.int k n) => some (.sc (.int k (k.wrap (0 - n))))
  | .not, .sc (.bool b) => some (.sc (.bool !b))
  | _, _ => none

theorem frep_sc {F : Imm} {ρ : Maps} {u v : Value} (h : FRep F ρ (.sc u) v) : v = u := by
  cases h with
  | cell h => cases h with | p h => cases h; rfl

theorem run_intBin (P : Program) (w : World) {op : BinOp} {k : IntKind} {a b : Int} {v : Value} (t : TypeId) (h : intBin op k a b = some v) :
    (binOp op t (.int k a) (.int k b)).run P w = .ok v w ∧ isSc v = true := by
  cases op <;> simp only [intBin, Option.some.injEq, reduceCtorEq] at h <;> (try (split at h)) <;>
    (first
      | (subst h; refine ⟨?_, rfl⟩; simp [binOp, Op.intArith, Op.intBits, Op.intCmp, Op.intDiv, *])
      | (cases h; refine ⟨?_, rfl⟩; simp [binOp, Op.intArith, Op.intBits, Op.intCmp, Op.intDiv, *])
      | cases h)

theorem run_strBin (P : Program) (w : World) {op : BinOp} {a b : ByteArray} {v : Value} (t : TypeId) (h : strBin op a b = some v) :
    (binOp op t (.string a) (.string b)).run P w = .ok v w ∧ isSc v = true := by
  cases op <;> simp only [strBin, Option.some.injEq, reduceCtorEq] at h <;> (try (split at h)) <;>
    (first
      | (subst h; refine ⟨?_, rfl⟩; simp [binOp, Op.stringOp, *])
      | (cases h; refine ⟨?_, rfl⟩; simp_all [binOp, Op.stringOp])
      | cases h)

theorem isPtr_rep {F : Imm} {ρ : Maps} {x : AV} {v : Value} (hx : isPtr x = true) (h : FRep F ρ x v) : ∃ a, v = .pointer (some a) := by
  cases h with
  | agg h1 h2 => simp [isPtr] at hx
  | cell h =>
    cases h with
    | lptr h => exact ⟨_, rfl⟩
    | loc h1 h2 h3 => simp [isPtr] at hx
    | lsl h1 h2 h3 => simp [isPtr] at hx
    | p h => cases h <;> first | (simp [isPtr] at hx; done) | exact ⟨_, rfl⟩

theorem pointee_of {P : Program} {t e : TypeId} (h : P.underlying t = some (.pointer e)) : P.underlying t = some (.pointer (P.pointee t)) := by
  simp [Program.pointee, h]

theorem frep_func {F : Imm} {ρ : Maps} {fn : Fn} {f c : List AV} {v : Value} (h : FRep F ρ (.func fn f c) v) :
    ∃ vf vc : List Value, v = .func fn vf.toArray vc.toArray ∧ All2 (PRep F ρ.G ρ.n) f vf ∧ All2 (PRep F ρ.G ρ.n) c vc := by
  cases h with
  | cell h => cases h with
    | p h => cases h with | func h1 h2 => exact ⟨_, _, rfl, h1.all2, h2.all2⟩

theorem run_eqF (P : Program) (w : World) {t : TypeId} {ps rs : Array TypeId} {b : Bool} (hu : P.underlying t = some (.func ps rs b)) (fn : Fn) (f c : Array Value) :
    (binOp .eql t (.func fn f c) .nilFunc).run P w = .ok (.bool false) w ∧ (binOp .neq t (.func fn f c) .nilFunc).run P w = .ok (.bool true) w := by
  have h : ∀ d, (Op.equalIn (d + 1) t (.func fn f c) .nilFunc).run P w = .ok false w := fun d => by simp [Op.equalIn, run_underlying hu]
  have e1 : binOp .eql t (.func fn f c) .nilFunc = (do pure (.bool (← Op.equalIn (9999 + 1) t (.func fn f c) .nilFunc))) := rfl
  have e2 : binOp .neq t (.func fn f c) .nilFunc = (do pure (.bool (!(← Op.equalIn (9999 + 1) t (.func fn f c) .nilFunc)))) := rfl
  rw [e1, e2, Sem.run_bind, Sem.run_bind, h 9999]
  exact ⟨rfl, rfl⟩

theorem run_eqN (P : Program) (w : World) {t : TypeId} {ps rs : Array TypeId} {b : Bool} (hu : P.underlying t = some (.func ps rs b)) :
    (binOp .eql t .nilFunc .nilFunc).run P w = .ok (.bool true) w ∧ (binOp .neq t .nilFunc .nilFunc).run P w = .ok (.bool false) w := by
  have h : ∀ d, (Op.equalIn (d + 1) t .nilFunc .nilFunc).run P w = .ok true w := fun d => by simp [Op.equalIn, run_underlying hu]
  have e1 : binOp .eql t .nilFunc .nilFunc = (do pure (.bool (← Op.equalIn (9999 + 1) t .nilFunc .nilFunc))) := rfl
  have e2 : binOp .neq t .nilFunc .nilFunc = (do pure (.bool (!(← Op.equalIn (9999 + 1) t .nilFunc .nilFunc)))) := rfl
  rw [e1, e2, Sem.run_bind, Sem.run_bind, h 9999]
  exact ⟨rfl, rfl⟩

/-- Values that the guard of == lets by. -/
def plainEq : Value → Bool
  | .nilIface => false
  | .agg _ => false
  | _ => true

theorem run_eqGuard (P : Program) (w : World) (op : BinOp) (t : TypeId) (x y : Operand) {u v : Value} (h : plainEq u = true) : (eqGuard op t x y u v).run P w = .ok () w := by
  unfold eqGuard
  cases u <;> first | (simp [plainEq] at h; done) | (cases op <;> rfl)

theorem run_binA0 (P : Program) (w : World) {F : Imm} {ρ : Maps} {op : BinOp} {t : TypeId} {x y r : AV} {u v : Value} (h : binA0 P op t x y = some r)
    (hx : FRep F ρ x u) (hy : FRep F ρ y v) : ∃ z, (binOp op t u v).run P w = .ok z w ∧ r = .sc z ∧ isSc z = true ∧ plainEq u = true := by
  unfold binA0 at h
  split at h
  · cases frep_sc hx; cases frep_sc hy
    split at h
    · cases h
    · rename_i hb
      cases h
      exact ⟨_, by simp [binOp, Op.shift, hb], rfl, rfl, rfl⟩
  · cases frep_sc hx; cases frep_sc hy
    split at h
    · cases h
    · rename_i hb
      cases h
      exact ⟨_, by simp [binOp, Op.shift, hb], rfl, rfl, rfl⟩
  · cases frep_sc hx; cases frep_sc hy
    split at h
    · rename_i hk
      subst hk
      cases hi : intBin op _ _ _ with
      | none => rw [hi] at h; cases h
      | some z =>
        rw [hi] at h
        cases h
        exact ⟨z, (run_intBin P w t hi).1, rfl, (run_intBin P w t hi).2, rfl⟩
    · cases h
  · cases frep_sc hx; cases frep_sc hy
    cases hi : strBin op _ _ with
    | none => rw [hi] at h; cases h
    | some z =>
      rw [hi] at h
      cases h
      exact ⟨z, (run_strBin P w t hi).1, rfl, (run_strBin P w t hi).2, rfl⟩
  · cases frep_sc hx; cases frep_sc hy
    split at h
    · rename_i hu
      cases h
      exact ⟨_, run_eql_bool w t _ _ hu, rfl, rfl, rfl⟩
    · cases h
  · cases frep_sc hx; cases frep_sc hy
    split at h
    · rename_i hu
      cases h
      exact ⟨_, run_neq_bool w t _ _ hu, rfl, rfl, rfl⟩
    · cases h
  · cases frep_sc hy
    split at h
    · rename_i hu
      split at h
      · rename_i hp
        obtain ⟨a, rfl⟩ := isPtr_rep hp hx
        cases h
        exact ⟨_, run_eql_pointer_nil w t _ (pointee_of hu), by simp, rfl, rfl⟩
      · split at h
        · cases frep_sc hx
          cases h
          exact ⟨_, run_eql_pointer_nil w t _ (pointee_of hu), by simp, rfl, rfl⟩
        · cases h
    · cases h
  · cases frep_sc hy
    split at h
    · rename_i hu
      split at h
      · rename_i hp
        obtain ⟨a, rfl⟩ := isPtr_rep hp hx
        cases h
        exact ⟨_, run_neq_pointer_nil w t _ (pointee_of hu), by simp, rfl, rfl⟩
      · split at h
        · cases frep_sc hx
          cases h
          exact ⟨_, run_neq_pointer_nil w t _ (pointee_of hu), by simp, rfl, rfl⟩
        · cases h
    · cases h
  · cases frep_sc hy
    obtain ⟨vf, vc, rfl, _, _⟩ := frep_func hx
    split at h
    · rename_i hu
      cases h
      exact ⟨.bool false, (run_eqF P w hu _ _ _).1, rfl, rfl, rfl⟩
    · cases h
  · cases frep_sc hy
    obtain ⟨vf, vc, rfl, _, _⟩ := frep_func hx
    split at h
    · rename_i hu
      cases h
      exact ⟨.bool true, (run_eqF P w hu _ _ _).2, rfl, rfl, rfl⟩
    · cases h
  · cases frep_sc hx; cases frep_sc hy
    split at h
    · rename_i hu
      cases h
      exact ⟨.bool true, (run_eqN P w hu).1, rfl, rfl, rfl⟩
    · cases h
  · cases frep_sc hx; cases frep_sc hy
    split at h
    · rename_i hu
      cases h
      exact ⟨.bool false, (run_eqN P w hu).2, rfl, rfl, rfl⟩
    · cases h
  · cases h

end Go.Abs

/-
  The abstract layer, part C: the operations that only compute, on structs, slices, texts, functions.
-/
namespace Go.Abs
open Go

/-! ### plain lemmas on lists -/

theorem flatMap_len {l : List AV} {sz : Nat} (h : ∀ x ∈ l, x.cells.length = sz) : (l.flatMap AV.cells).length = l.length * sz := by
  induction l with
  | nil => simp
  | cons x l ih =>
    rw [List.flatMap_cons, List.length_append, ih fun y hy => h y (by simp [hy]), h x (by simp), List.length_cons, Nat.add_mul, Nat.one_mul, Nat.add_comm]

theorem flatMap_take {l : List AV} {sz : Nat} (h : ∀ x ∈ l, x.cells.length = sz) (n : Nat) : (l.take n).flatMap AV.cells = (l.flatMap AV.cells).take (n * sz) := by
  induction l generalizing n with
  | nil => simp
  | cons x l ih =>
    cases n with
    | zero => simp
    | succ n =>
      have hx := h x (by simp)
      rw [List.take_succ_cons, List.flatMap_cons, List.flatMap_cons, ih (fun y hy => h y (by simp [hy])), Nat.add_mul, Nat.one_mul, List.take_append, hx,
        List.take_of_length_le (l := x.cells) (by omega), Nat.add_sub_cancel]

theorem flatMap_drop {l : List AV} {sz : Nat} (h : ∀ x ∈ l, x.cells.length = sz) (n : Nat) : (l.drop n).flatMap AV.cells = (l.flatMap AV.cells).drop (n * sz) := by
  induction l generalizing n with
  | nil => simp
  | cons x l ih =>
    cases n with
    | zero => simp
    | succ n =>
      have hx := h x (by simp)
      rw [List.drop_succ_cons, List.flatMap_cons, ih (fun y hy => h y (by simp [hy])), Nat.add_mul, Nat.one_mul, List.drop_append, hx,
        List.drop_eq_nil_of_le (as := x.cells) (by omega), Nat.add_sub_cancel, List.nil_append]

theorem flatMap_get {l : List AV} {sz : Nat} (h : ∀ x ∈ l, x.cells.length = sz) {i : Nat} {x : AV} (hi : l[i]? = some x) : ((l.flatMap AV.cells).drop (i * sz)).take sz = x.cells := by
  have h1 := flatMap_drop h i
  have hlt : i < l.length := (List.getElem?_eq_some_iff.1 hi).1
  have hd : l.drop i = x :: l.drop (i + 1) := by
    have := List.drop_eq_getElem_cons hlt
    rw [this]
    congr 1
    exact (List.getElem?_eq_some_iff.1 hi).2
  rw [← h1, hd, List.flatMap_cons, List.take_append, List.take_of_length_le (by have := h x (List.mem_of_getElem? hi); omega)]
  simp [h x (List.mem_of_getElem? hi)]

theorem Imm.has.drop {F : Imm} {b o : Nat} {vs : List Value} (h : F.has b o vs) (n : Nat) : F.has b (o + n) (vs.drop n) := by
  intro i v hv
  rw [List.getElem?_drop] at hv
  have := h _ v hv
  rwa [← Nat.add_assoc] at this

theorem Imm.has.take {F : Imm} {b o : Nat} {vs : List Value} (h : F.has b o vs) (n : Nat) : F.has b o (vs.take n) := by
  intro i v hv
  rw [List.getElem?_take] at hv
  split at hv
  · exact h i v hv
  · cases hv

section
variable {F : Imm} {G : Nat → Nat} {n : Nat}

theorem PRepL.drop {xs vs} (h : PRepL F G n xs vs) (k : Nat) : PRepL F G n (xs.drop k) (vs.drop k) := .of_all2 (h.all2.drop k)
theorem PRepL.take {xs vs} (h : PRepL F G n xs vs) (k : Nat) : PRepL F G n (xs.take k) (vs.take k) := .of_all2 (h.all2.take k)
theorem PRepL.get {xs vs} (h : PRepL F G n xs vs) {i : Nat} {x : AV} (hx : xs[i]? = some x) : ∃ v, vs[i]? = some v ∧ PRep F G n x v := h.all2.get hx
theorem PRepL.length {xs vs} (h : PRepL F G n xs vs) : xs.length = vs.length := h.all2.length
theorem PRepL.append {xs vs xs' vs'} (h : PRepL F G n xs vs) (h' : PRepL F G n xs' vs') : PRepL F G n (xs ++ xs') (vs ++ vs') := .of_all2 (h.all2.append h'.all2)
end

theorem AV.cells_one {x : AV} (h : x.isOne = true) : x.cells = [x] := by cases x <;> first | rfl | (simp [AV.isOne] at h)

/-! ### types -/
section
variable {P : Program}

theorem layOf_parts {t : TypeId} {b : Bool} {n : Nat} (h : layOf P t = some (b, n)) :
    ∃ d i, P.underlying t = some d ∧ P.info? t = some i ∧ i.size = n ∧ (match d with | .struct _ | .array _ _ => true | _ => false) = b := by
  unfold layOf at h
  split at h
  · rename_i d i hd hi
    injection h with h
    injection h with h1 h2
    exact ⟨d, i, hd, hi, h2, h1⟩
  · cases h

theorem run_sizeOf' {t : TypeId} {b : Bool} {n : Nat} (h : layOf P t = some (b, n)) (w : World) : (sizeOf t).run P w = .ok n w := by
  obtain ⟨d, i, hd, hi, hn, _⟩ := layOf_parts h
  simp [sizeOf, typeInfo, hi, hn]

theorem run_isAgg' {t : TypeId} {b : Bool} {n : Nat} (h : layOf P t = some (b, n)) (w : World) : (isAgg t).run P w = .ok b w := by
  obtain ⟨d, i, hd, hi, hn, hb⟩ := layOf_parts h
  subst hb
  unfold isAgg
  rw [Sem.run_bind, run_underlying hd]
  cases d <;> rfl

theorem readAt_some {t : TypeId} {cs : List AV} {off : Nat} {z : AV} (h : readAt P t cs off = some z) :
    (∃ k, layOf P t = some (true, k) ∧ off + k ≤ cs.length ∧ z = .agg ((cs.drop off).take k)) ∨ (∃ k, layOf P t = some (false, k) ∧ cs[off]? = some z) := by
  unfold readAt at h
  split at h
  · split at h
    · rename_i k hl hle
      injection h with h
      exact .inl ⟨k, hl, hle, h.symm⟩
    · cases h
  · rename_i k hl
    exact .inr ⟨k, hl, h⟩
  · cases h

/-- A variable of several cells is loaded. -/
theorem run_loadVar_agg {t : TypeId} {k : Nat} (h : layOf P t = some (true, k)) (w : World) (a : Addr) (vs : List Value) (hk : vs.length = k)
    (hc : ∀ j v, vs[j]? = some v → w.cell? (a.add j) = some v) : (loadVar t a).run P w = .ok (.agg vs.toArray) w := by
  unfold loadVar
  rw [Sem.run_bind, run_isAgg' h]
  simp only [Result.andThen_ok, if_true]
  rw [Sem.run_bind, run_sizeOf' h, Result.andThen_ok, Sem.run_bind, ← hk, run_loadCells_list w a vs hc]
  rfl

theorem run_loadVar_one {t : TypeId} {k : Nat} (h : layOf P t = some (false, k)) (w : World) (a : Addr) (v : Value) (hc : w.cell? a = some v) : (loadVar t a).run P w = .ok v w := by
  unfold loadVar
  rw [Sem.run_bind, run_isAgg' h]
  simp [load, Sem.run, hc]

end

/-! ### field addresses, element addresses, parts -/

def fieldAddrA (P : Program) (t : TypeId) (x : AV) (i : Nat) : Option AV :=
  match fieldOf P t i with
  | none => none
  | some (off, ft) =>
    match layOf P ft with
    | none => none
    | some (_, n) =>
      if n = 0 then none else
      match x with
      | .lptr b g o => some (.lptr b g (o + off))
      | .gptr o f => some (.gptr o (f + off))
      | .rptr y => (readAt P ft y.cells off).map .rptr
      | _ => none

def fieldA (P : Program) (t : TypeId) (x : AV) (i : Nat) : Option AV :=
  match fieldOf P t i, x with
  | some (off, ft), .agg cs => readAt P ft cs off
  | _, _ => none

def indexAddrA (P : Program) (t : TypeId) (x i : AV) : Option AV :=
  match i with
  | .sc (.int _ n) =>
    match P.underlying t, x with
    | some (.slice e), .slice _ l =>
      if 0 ≤ n then
        match l[n.toNat]?, layOf P e with
        | some y, some (_, sz) => if y.cells.length = sz then some (.rptr y) else none
        | _, _ => none
      else none
    | some (.slice e), .lsl b g len _ =>
      match layOf P e with
      | some (_, sz) => if 0 ≤ n ∧ n < len then some (.lptr b g (n.toNat * sz)) else none
      | none => none
    | some (.slice e), .gsl b off len _ =>
      match layOf P e with
      | some (_, sz) => if 0 ≤ n ∧ n < len then some (.gptr b (off + n.toNat * sz)) else none
      | none => none
    | some (.array len e), .lptr b g o =>
      match layOf P e with
      | some (_, sz) => if 0 ≤ n ∧ n < len then some (.lptr b g (o + n.toNat * sz)) else none
      | none => none
    | some (.array len e), .gptr ob o =>
      match layOf P e with
      | some (_, sz) => if 0 ≤ n ∧ n < len then some (.gptr ob (o + n.toNat * sz)) else none
      | none => none
    | some (.array len e), .rptr y =>
      match layOf P e with
      | some (_, sz) => if 0 ≤ n ∧ n < len then (readAt P e y.cells (n.toNat * sz)).map .rptr else none
      | none => none
    | _, _ => none
  | _ => none

def indexA (P : Program) (t : TypeId) (x i : AV) : Option AV :=
  match i with
  | .sc (.int _ n) =>
    match P.underlying t, x with
    | some .string, .sc (.string s) => if 0 ≤ n then (s[n.toNat]?).map fun b => .sc (.int .u8 b.toNat) else none
    | some (.array len e), .agg cs =>
      match layOf P e with
      | some (_, sz) => if 0 ≤ n ∧ n < len then readAt P e cs (n.toNat * sz) else none
      | none => none
    | _, _ => none
  | _ => none

section
variable {P : Program} {F : Imm} {ρ : Maps}

theorem frep_agg {cs : List AV} {v : Value} (h : FRep F ρ (.agg cs) v) : ∃ vs : List Value, v = .agg vs.toArray ∧ All2 (FCell F ρ) cs vs ∧ ∀ c ∈ cs, c.isOne = true := by
  cases h with
  | agg h1 h2 => exact ⟨_, rfl, h1, h2⟩
  | cell h => cases h with
    | p h => cases h with | agg h1 h2 => exact ⟨_, rfl, h1.all2.mono fun _ _ _ h => .p h, h2⟩

theorem frep_tuple {cs : List AV} {v : Value} (h : FRep F ρ (.tuple cs) v) : ∃ vs : List Value, v = .tuple vs.toArray ∧ All2 (PRep F ρ.G ρ.n) cs vs := by
  cases h with
  | cell h => cases h with
    | p h => cases h with | tuple h1 => exact ⟨_, rfl, h1.all2⟩

theorem frep_lptr {b g off : Nat} {v : Value} (h : FRep F ρ (.lptr b g off) v) : v = .pointer (some ⟨ρ.L b g, off, none⟩) ∧ g ≤ ρ.lg b := by
  cases h with
  | cell h => cases h with
    | p h => cases h
    | lptr h => exact ⟨rfl, h⟩

theorem frep_gptr {o off : Nat} {v : Value} (h : FRep F ρ (.gptr o off) v) : v = .pointer (some ⟨ρ.G o, off, none⟩) ∧ o < ρ.n := by
  cases h with
  | cell h => cases h with
    | p h => cases h with | gptr h => exact ⟨rfl, h⟩

theorem frep_rptr {x : AV} {v : Value} (h : FRep F ρ (.rptr x) v) :
    ∃ b o vs, v = .pointer (some ⟨b, o, none⟩) ∧ PRepL F ρ.G ρ.n x.cells vs ∧ F.has b o vs ∧ ∀ c ∈ x.cells, c.isOne = true := by
  cases h with
  | cell h => cases h with
    | p h => cases h with | rptr h1 h2 h3 => exact ⟨_, _, _, rfl, h1, h2, h3⟩

theorem frep_lsl {b g len cap : Nat} {v : Value} (h : FRep F ρ (.lsl b g len cap) v) : v = .slice (some ⟨ρ.L b g, 0, none⟩) len cap ∧ g ≤ ρ.lg b ∧ len ≤ cap ∧ cap ≤ maxLen := by
  cases h with
  | cell h => cases h with
    | p h => cases h
    | lsl h1 h2 h3 => exact ⟨rfl, h1, h2, h3⟩

theorem frep_gsl {o off len cap : Nat} {v : Value} (h : FRep F ρ (.gsl o off len cap) v) : v = .slice (some ⟨ρ.G o, off, none⟩) len cap ∧ o < ρ.n ∧ len ≤ cap ∧ cap ≤ maxLen := by
  cases h with
  | cell h => cases h with
    | p h => cases h with | gsl h1 h2 h3 => exact ⟨rfl, h1, h2, h3⟩

/-- A slice, whatever its tag. -/
structure SliceIs (F : Imm) (ρ : Maps) (l : List AV) (base : Option Addr) (cap b o sz : Nat) (vs : List Value) : Prop where
  cells : PRepL F ρ.G ρ.n (l.flatMap AV.cells) vs
  has : F.has b o vs
  base : l ≠ [] → base = some ⟨b, o, none⟩
  sz : ∀ x ∈ l, x.cells.length = sz
  ones : ∀ c ∈ l.flatMap AV.cells, c.isOne = true
  hcap : l.length ≤ cap
  hmax : cap ≤ maxLen

theorem PRep.slice_inv {G : Nat → Nat} {n : Nat} {tag : Tag} {l : List AV} {v : Value} (h : PRep F G n (.slice tag l) v) :
    ∃ base cap b o sz vs, v = .slice base l.length cap ∧ PRepL F G n (l.flatMap AV.cells) vs ∧ F.has b o vs ∧ (l ≠ [] → base = some ⟨b, o, none⟩) ∧ (∀ x ∈ l, x.cells.length = sz) ∧
      (∀ c ∈ l.flatMap AV.cells, c.isOne = true) ∧ l.length ≤ cap ∧ cap ≤ maxLen ∧ (tag = .frz ∨ tag = .full ∧ cap = l.length) := by
  cases h with | slice h1 h2 h3 h4 h5 h6 h7 h8 => exact ⟨_, _, _, _, _, _, rfl, h1, h2, h3, h4, h5, h6, h7, h8⟩

theorem frep_slice {tag : Tag} {l : List AV} {v : Value} (h : FRep F ρ (.slice tag l) v) :
    ∃ base cap b o sz vs, v = .slice base l.length cap ∧ SliceIs F ρ l base cap b o sz vs ∧ (tag = .full → cap = l.length) ∧
      (∀ k g, tag = .loc k g → g ≤ ρ.ag k ∧ OwnRow ρ k g l base cap) := by
  cases h with
  | cell h => cases h with
    | p h =>
      obtain ⟨base, cap, b, o, sz, vs, rfl, h1, h2, h3, h4, h5, h6, h7, h8⟩ := h.slice_inv
      refine ⟨base, cap, b, o, sz, vs, rfl, ⟨h1, h2, h3, h4, h5, h6, h7⟩, ?_, ?_⟩
      · rintro rfl
        rcases h8 with h8 | h8
        · cases h8
        · exact h8.2
      · rintro k g rfl
        rcases h8 with h8 | h8
        · cases h8
        · cases h8.1
    | loc h1 h2 h3 =>
      obtain ⟨base, cap, b, o, sz, vs, he, h1, h2', h3', h4, h5, h6, h7, h8⟩ := h1.slice_inv
      injection he with e1 e2 e3
      subst e1; subst e3
      refine ⟨_, _, b, o, sz, vs, rfl, ⟨h1, h2', h3', h4, h5, h6, h7⟩, (by intro h; cases h), ?_⟩
      rintro k g he
      injection he with e1 e2
      subst e1; subst e2
      exact ⟨h2, h3⟩

theorem prep_part {G : Nat → Nat} {n : Nat} {cs : List AV} {vs : List Value} {b o : Nat} {t : TypeId} {off : Nat} {z : AV} (h1 : PRepL F G n cs vs) (h2 : F.has b o vs) (h3 : ∀ c ∈ cs, c.isOne = true)
    (hz : readAt P t cs off = some z) : PRep F G n (.rptr z) (.pointer (some ⟨b, o + off, none⟩)) := by
  rcases readAt_some hz with ⟨k, hl, hle, rfl⟩ | ⟨k, hl, hc⟩
  · exact .rptr ((h1.drop off).take k) ((h2.drop off).take k) (fun c hc => h3 c (List.mem_of_mem_drop (List.mem_of_mem_take hc)))
  · obtain ⟨v, hv, hp⟩ := h1.get hc
    have hone := h3 z (List.mem_of_getElem? hc)
    refine .rptr (vs := [v]) (by rw [AV.cells_one hone]; exact .cons hp .nil) ?_ (by rw [AV.cells_one hone]; simpa using hone)
    intro i u hu
    cases i with
    | zero => simp at hu; subst hu; exact h2 off _ hv
    | succ i => simp at hu

theorem run_fieldAddr (w : World) {t : TypeId} {x r : AV} {u : Value} {i : Nat} (h : fieldAddrA P t x i = some r) (hx : FRep F ρ x u) :
    ∃ v, (Instr.fieldAt t u i).run P w = .ok v w ∧ FRep F ρ r v := by
  unfold fieldAddrA at h
  split at h
  · cases h
  · rename_i off ft hf
    split at h
    · cases h
    · rename_i agg n hl
      split at h
      · cases h
      · rename_i hn
        have hfld : ∃ fs f, P.underlying t = some (.struct fs) ∧ fs[i]? = some f ∧ f.offset = off ∧ f.type = ft := by
          unfold fieldOf at hf
          split at hf
          · rename_i fs hu
            cases hfs : fs[i]? with
            | none => rw [hfs] at hf; cases hf
            | some f =>
              rw [hfs] at hf
              simp at hf
              exact ⟨fs, f, hu, hfs, hf.1, hf.2⟩
          · cases hf
        obtain ⟨fs, f, hu, hfs, rfl, rfl⟩ := hfld
        have key : ∀ b o : Nat, (Instr.fieldAt t (.pointer (some ⟨b, o, none⟩)) i).run P w = .ok (.pointer (some ⟨b, o + f.offset, none⟩)) w := by
          intro b o
          unfold Instr.fieldAt
          rw [Sem.run_bind, run_underlying hu, Result.andThen_ok]
          simp only [hfs, Instr.sureAddr, Sem.run_bind, Sem.run_pure, Result.andThen_ok, fieldPlace, run_sizeOf' hl, hn, if_false, Addr.add_lit]
        split at h
        · rename_i b g o
          cases h
          obtain ⟨rfl, hg⟩ := frep_lptr hx
          exact ⟨_, key _ _, .cell (.lptr hg)⟩
        · rename_i o f'
          cases h
          obtain ⟨rfl, hg⟩ := frep_gptr hx
          exact ⟨_, key _ _, .p (.gptr hg)⟩
        · rename_i y
          obtain ⟨b, o, vs, rfl, h1, h2, h3⟩ := frep_rptr hx
          cases hz : readAt P f.type y.cells f.offset with
          | none => rw [hz] at h; cases h
          | some z =>
            rw [hz] at h
            cases h
            exact ⟨_, key _ _, .p (prep_part h1 h2 h3 hz)⟩
        · cases h

/-- A part of a value of several cells. -/
theorem run_part (w : World) {t : TypeId} {cs : List AV} {vs : List Value} {off : Nat} {z : AV} (h1 : All2 (FCell F ρ) cs vs) (h3 : ∀ c ∈ cs, c.isOne = true) (hz : readAt P t cs off = some z) :
    ∃ v, (part t vs.toArray off).run P w = .ok v w ∧ FRep F ρ z v := by
  rcases readAt_some hz with ⟨k, hl, hle, rfl⟩ | ⟨k, hl, hc⟩
  · refine ⟨.agg ((vs.drop off).take k).toArray, ?_, .agg ((h1.drop off).take k) (fun c hc => h3 c (List.mem_of_mem_drop (List.mem_of_mem_take hc)))⟩
    unfold part
    rw [Sem.run_bind, run_isAgg' hl]
    simp only [Result.andThen_ok, if_true, Sem.run_bind, run_sizeOf' hl, Sem.run_pure]
    congr 3
    simp [List.drop_take]
  · obtain ⟨v, hv, hp⟩ := h1.get hc
    refine ⟨v, ?_, .cell hp⟩
    unfold part
    rw [Sem.run_bind, run_isAgg' hl]
    simp [hv]

theorem run_field (w : World) {t : TypeId} {x r : AV} {u : Value} {i : Nat} (h : fieldA P t x i = some r) (hx : FRep F ρ x u) :
    ∃ v, (Instr.field t u i).run P w = .ok v w ∧ FRep F ρ r v := by
  unfold fieldA at h
  split at h
  · rename_i off ft cs hf
    obtain ⟨vs, rfl, h1, h2⟩ := frep_agg hx
    have hfld : ∃ fs f, P.underlying t = some (.struct fs) ∧ fs[i]? = some f ∧ f.offset = off ∧ f.type = ft := by
      unfold fieldOf at hf
      split at hf
      · rename_i fs hu
        cases hfs : fs[i]? with
        | none => rw [hfs] at hf; cases hf
        | some f =>
          rw [hfs] at hf
          simp at hf
          exact ⟨fs, f, hu, hfs, hf.1, hf.2⟩
      · cases hf
    obtain ⟨fs, f, hu, hfs, rfl, rfl⟩ := hfld
    obtain ⟨v, hv, hr⟩ := run_part w h1 h2 h
    refine ⟨v, ?_, hr⟩
    unfold Instr.field
    rw [Sem.run_bind, run_underlying hu, Result.andThen_ok]
    simp only [hfs, asAgg, Sem.run_bind, Sem.run_pure, Result.andThen_ok, hv]
  · cases h

theorem run_indexAddr (w : World) {t : TypeId} {x i r : AV} {u j : Value} (h : indexAddrA P t x i = some r) (hx : FRep F ρ x u) (hi : FRep F ρ i j) :
    ∃ v, (Instr.indexAt t u j).run P w = .ok v w ∧ FRep F ρ r v := by
  unfold indexAddrA at h
  split at h
  · rename_i k n
    cases frep_sc hi
    split at h
    · rename_i e tag l hu
      split at h
      · rename_i hn
        split at h
        · rename_i y agg sz hy hl
          split at h
          · rename_i hsz
            cases h
            obtain ⟨base, cap, b, o, sz', vs, rfl, hs, _, _⟩ := frep_slice hx
            have hlt : n.toNat < l.length := (List.getElem?_eq_some_iff.1 hy).1
            have hne : l ≠ [] := by rintro rfl; simp at hlt
            have hmem := List.mem_of_getElem? hy
            have hsz' : sz' = sz := by rw [← hs.sz y hmem, hsz]
            subst hsz'
            rw [hs.base hne]
            refine ⟨.pointer (some ⟨b, o + n.toNat * sz', none⟩), ?_, .p (.rptr (vs := (vs.drop (n.toNat * sz')).take sz') ?_ ?_ ?_)⟩
            · unfold Instr.indexAt
              simp only [asIntOf, Sem.run_bind, Sem.run_pure, Result.andThen_ok, run_underlying hu]
              rw [if_pos ⟨hn, by omega⟩]
              simp only [Sem.run_bind, Sem.run_pure, Result.andThen_ok, run_sizeOf' hl, Addr.add_lit]
            · rw [← flatMap_get hs.sz hy]
              exact (hs.cells.drop _).take _
            · exact (hs.has.drop _).take _
            · intro c hc
              exact hs.ones c (List.mem_flatMap.2 ⟨y, hmem, hc⟩)
          · cases h
        · cases h
      · cases h
    · rename_i e b g len cap hu
      split at h
      · rename_i agg sz hl
        split at h
        · rename_i hn
          cases h
          obtain ⟨rfl, hg, _, _⟩ := frep_lsl hx
          refine ⟨.pointer (some ⟨ρ.L b g, n.toNat * sz, none⟩), ?_, .cell (.lptr hg)⟩
          unfold Instr.indexAt
          simp only [asIntOf, Sem.run_bind, Sem.run_pure, Result.andThen_ok, run_underlying hu]
          rw [if_pos ⟨hn.1, by omega⟩]
          simp only [Sem.run_bind, Sem.run_pure, Result.andThen_ok, run_sizeOf' hl, Addr.add_lit, Nat.zero_add]
        · cases h
      · cases h
    · rename_i e b off len cap hu
      split at h
      · rename_i agg sz hl
        split at h
        · rename_i hn
          cases h
          obtain ⟨rfl, hg, _, _⟩ := frep_gsl hx
          refine ⟨.pointer (some ⟨ρ.G b, off + n.toNat * sz, none⟩), ?_, .p (.gptr hg)⟩
          unfold Instr.indexAt
          simp only [asIntOf, Sem.run_bind, Sem.run_pure, Result.andThen_ok, run_underlying hu]
          rw [if_pos ⟨hn.1, by omega⟩]
          simp only [Sem.run_bind, Sem.run_pure, Result.andThen_ok, run_sizeOf' hl, Addr.add_lit]
        · cases h
      · cases h
    · rename_i len e b g o hu
      split at h
      · rename_i agg sz hl
        split at h
        · rename_i hn
          cases h
          obtain ⟨rfl, hg⟩ := frep_lptr hx
          refine ⟨.pointer (some ⟨ρ.L b g, o + n.toNat * sz, none⟩), ?_, .cell (.lptr hg)⟩
          unfold Instr.indexAt
          simp only [asIntOf, Instr.sureAddr, Sem.run_bind, Sem.run_pure, Result.andThen_ok, run_underlying hu]
          rw [if_pos hn]
          simp only [Sem.run_bind, Sem.run_pure, Result.andThen_ok, run_sizeOf' hl, Addr.add_lit]
        · cases h
      · cases h
    · rename_i len e ob o hu
      split at h
      · rename_i agg sz hl
        split at h
        · rename_i hn
          cases h
          obtain ⟨rfl, hg⟩ := frep_gptr hx
          refine ⟨.pointer (some ⟨ρ.G ob, o + n.toNat * sz, none⟩), ?_, .p (.gptr hg)⟩
          unfold Instr.indexAt
          simp only [asIntOf, Instr.sureAddr, Sem.run_bind, Sem.run_pure, Result.andThen_ok, run_underlying hu]
          rw [if_pos hn]
          simp only [Sem.run_bind, Sem.run_pure, Result.andThen_ok, run_sizeOf' hl, Addr.add_lit]
        · cases h
      · cases h
    · rename_i len e y hu
      split at h
      · rename_i agg sz hl
        split at h
        · rename_i hn
          obtain ⟨b, o, vs, rfl, h1, h2, h3⟩ := frep_rptr hx
          cases hz : readAt P e y.cells (n.toNat * sz) with
          | none => rw [hz] at h; cases h
          | some z =>
            rw [hz] at h
            cases h
            refine ⟨.pointer (some ⟨b, o + n.toNat * sz, none⟩), ?_, .p (prep_part h1 h2 h3 hz)⟩
            unfold Instr.indexAt
            simp only [asIntOf, Instr.sureAddr, Sem.run_bind, Sem.run_pure, Result.andThen_ok, run_underlying hu]
            rw [if_pos hn]
            simp only [Sem.run_bind, Sem.run_pure, Result.andThen_ok, run_sizeOf' hl, Addr.add_lit]
        · cases h
      · cases h
    · cases h
  · cases h

theorem run_index (w : World) {t : TypeId} {x i r : AV} {u j : Value} (h : indexA P t x i = some r) (hx : FRep F ρ x u) (hi : FRep F ρ i j) :
    ∃ v, (Instr.index t u j).run P w = .ok v w ∧ FRep F ρ r v := by
  unfold indexA at h
  split at h
  · rename_i k n
    cases frep_sc hi
    split at h
    · rename_i s hu
      cases frep_sc hx
      split at h
      · rename_i hn
        cases hb : s[n.toNat]? with
        | none => rw [hb] at h; cases h
        | some b =>
          rw [hb] at h
          cases h
          refine ⟨.int .u8 b.toNat, ?_, .p (.sc rfl)⟩
          unfold Instr.index
          simp [asIntOf, run_underlying hu, hn, hb]
      · cases h
    · rename_i len e cs hu
      split at h
      · rename_i agg sz hl
        split at h
        · rename_i hn
          obtain ⟨vs, rfl, h1, h2⟩ := frep_agg hx
          obtain ⟨v, hv, hr⟩ := run_part w h1 h2 h
          refine ⟨v, ?_, hr⟩
          unfold Instr.index
          simp only [asIntOf, Sem.run_bind, Sem.run_pure, Result.andThen_ok, run_underlying hu]
          rw [if_pos hn]
          simp only [Sem.run_bind, run_sizeOf' hl, Result.andThen_ok, hv]
        · cases h
      · cases h
    · cases h
  · cases h

end
end Go.Abs
