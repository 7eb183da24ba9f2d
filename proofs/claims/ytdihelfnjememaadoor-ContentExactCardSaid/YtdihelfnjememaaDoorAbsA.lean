/-
  The abstract layer, part A: abstract values, how they stand for the model's values, and what stays true of that when memory grows.
  No program is named here.
-/
import Derived.Orders
import Derived.Below
import Derived.Laws.AppendOwn
import Derived.Laws.Cells
import Derived.Laws.CopyRow
set_option linter.unusedSimpArgs false
set_option linter.unusedVariables false
namespace Go.Abs
open Go

/-- What is known of a slice's spare room: nothing (frz); there is none (full); it is this frame's own (loc: the slot that made it, the how-manyth time). -/
inductive Tag where
  | frz
  | full
  | loc (k g : Nat)

/-- Abstract values: data without addresses. -/
inductive AV where
  | undef
  | sc (v : Value)
  | rptr (x : AV)
  | lptr (b g off : Nat)
  | gptr (o off : Nat)
  | slice (tag : Tag) (l : List AV)
  | agg (cs : List AV)
  | tuple (vs : List AV)
  | func (fn : Fn) (first cap : List AV)
  | iface (t : TypeId) (x : AV)

instance : Inhabited AV := ⟨.undef⟩

/-- The cells that a value fills. -/
def AV.cells : AV → List AV
  | .agg cs => cs
  | x => [x]

def AV.isOne : AV → Bool
  | .agg _ => false
  | .tuple _ => false
  | _ => true

/-- Values of one cell without an address. -/
def isSc : Value → Bool
  | .bool _ => true
  | .int _ _ => true
  | .float _ _ => true
  | .string _ => true
  | .pointer none => true
  | .map none => true
  | .nilFunc => true
  | .nilIface => true
  | _ => false

/-- All the values of two lists stand in a relation, one by one. -/
inductive All2 {α β : Type} (R : α → β → Prop) : List α → List β → Prop
  | nil : All2 R [] []
  | cons {a b as bs} : R a b → All2 R as bs → All2 R (a :: as) (b :: bs)

theorem All2.length {α β : Type} {R : α → β → Prop} {as : List α} {bs : List β} (h : All2 R as bs) : as.length = bs.length := by
  induction h with
  | nil => rfl
  | cons _ _ ih => simp [ih]

theorem All2.mono {α β : Type} {R S : α → β → Prop} {as : List α} {bs : List β} (h : All2 R as bs) (hs : ∀ a b, a ∈ as → R a b → S a b) : All2 S as bs := by
  induction h with
  | nil => exact .nil
  | cons h1 _ ih => exact .cons (hs _ _ (by simp) h1) (ih fun a b ha => hs a b (by simp [ha]))

theorem All2.append {α β : Type} {R : α → β → Prop} {as as' : List α} {bs bs' : List β} (h : All2 R as bs) (h' : All2 R as' bs') : All2 R (as ++ as') (bs ++ bs') := by
  induction h with
  | nil => exact h'
  | cons h1 _ ih => exact .cons h1 ih

theorem All2.take {α β : Type} {R : α → β → Prop} {as : List α} {bs : List β} (h : All2 R as bs) (n : Nat) : All2 R (as.take n) (bs.take n) := by
  induction h generalizing n with
  | nil => simp; exact .nil
  | cons h1 _ ih => cases n with
    | zero => exact .nil
    | succ n => exact .cons h1 (ih n)

theorem All2.drop {α β : Type} {R : α → β → Prop} {as : List α} {bs : List β} (h : All2 R as bs) (n : Nat) : All2 R (as.drop n) (bs.drop n) := by
  induction h generalizing n with
  | nil => simp; exact .nil
  | cons h1 h2 ih => cases n with
    | zero => exact .cons h1 h2
    | succ n => exact ih n

theorem All2.get {α β : Type} {R : α → β → Prop} {as : List α} {bs : List β} (h : All2 R as bs) {i : Nat} {a : α} (ha : as[i]? = some a) : ∃ b, bs[i]? = some b ∧ R a b := by
  induction h generalizing i with
  | nil => simp at ha
  | cons h1 _ ih => cases i with
    | zero => simp at ha; subst ha; exact ⟨_, rfl, h1⟩
    | succ i => simp at ha; simpa using ih ha

theorem All2.mem {α β : Type} {R : α → β → Prop} {as : List α} {bs : List β} (h : All2 R as bs) {b : β} (hb : b ∈ bs) : ∃ a ∈ as, R a b := by
  induction h with
  | nil => simp at hb
  | cons h1 _ ih =>
    rcases List.mem_cons.1 hb with rfl | hb
    · exact ⟨_, by simp, h1⟩
    · obtain ⟨a, ha, hr⟩ := ih hb
      exact ⟨a, by simp [ha], hr⟩

theorem All2.map_left {α α' β : Type} {R : α → β → Prop} {S : α' → β → Prop} {as : List α} {bs : List β} (f : α → α') (h : All2 R as bs) (hs : ∀ a b, a ∈ as → R a b → S (f a) b) : All2 S (as.map f) bs := by
  induction h with
  | nil => exact .nil
  | cons h1 _ ih => exact .cons (hs _ _ (by simp) h1) (ih fun a b ha => hs a b (by simp [ha]))

/-- The memory that no longer changes: what its cells hold. -/
abbrev Imm := Nat → Nat → Option Value

/-- Cells from a place on. -/
def Imm.has (F : Imm) (b o : Nat) (vs : List Value) : Prop := ∀ i v, vs[i]? = some v → F b (o + i) = some v

mutual
/-- A value of the model that stands for an abstract one: its data lies in memory that does not change; pointers lead to abstract objects. -/
inductive PRep (F : Imm) (G : Nat → Nat) (n : Nat) : AV → Value → Prop
  | undef {v} : v.oneCell' = true → PRep F G n .undef v
  | sc {v} : isSc v = true → PRep F G n (.sc v) v
  | rptr {x b o vs} : PRepL F G n x.cells vs → F.has b o vs → (∀ c ∈ x.cells, c.isOne = true) → PRep F G n (.rptr x) (.pointer (some ⟨b, o, none⟩))
  | gptr {o off} : o < n → PRep F G n (.gptr o off) (.pointer (some ⟨G o, off, none⟩))
  | slice {tag l vs b o base cap sz} : PRepL F G n (l.flatMap AV.cells) vs → F.has b o vs → (l ≠ [] → base = some ⟨b, o, none⟩) → (∀ x ∈ l, x.cells.length = sz) →
      (∀ c ∈ l.flatMap AV.cells, c.isOne = true) → l.length ≤ cap → cap ≤ maxLen → tag = .frz ∨ tag = .full ∧ cap = l.length → PRep F G n (.slice tag l) (.slice base l.length cap)
  | agg {cs vs} : PRepL F G n cs vs → (∀ c ∈ cs, c.isOne = true) → PRep F G n (.agg cs) (.agg vs.toArray)
  | tuple {cs vs} : PRepL F G n cs vs → PRep F G n (.tuple cs) (.tuple vs.toArray)
  | func {fn f c vf vc} : PRepL F G n f vf → PRepL F G n c vc → PRep F G n (.func fn f c) (.func fn vf.toArray vc.toArray)
  | iface {t x v} : PRep F G n x v → PRep F G n (.iface t x) (.iface t v)
inductive PRepL (F : Imm) (G : Nat → Nat) (n : Nat) : List AV → List Value → Prop
  | nil : PRepL F G n [] []
  | cons {x v xs vs} : PRep F G n x v → PRepL F G n xs vs → PRepL F G n (x :: xs) (v :: vs)
end

section
variable {F F' : Imm} {G G' : Nat → Nat} {n n' : Nat}

theorem PRepL.all2 {xs vs} (h : PRepL F G n xs vs) : All2 (PRep F G n) xs vs := by
  induction xs generalizing vs with
  | nil => cases h; exact .nil
  | cons x xs ih => cases h with | cons h1 h2 => exact .cons h1 (ih h2)

theorem PRepL.of_all2 {xs vs} (h : All2 (PRep F G n) xs vs) : PRepL F G n xs vs := by
  induction h with
  | nil => exact .nil
  | cons h1 _ ih => exact .cons h1 ih

/-- The memory that no longer changes has grown, and so have the objects. -/
structure Grow (F F' : Imm) (G G' : Nat → Nat) (n n' : Nat) : Prop where
  mF : ∀ b o v, F b o = some v → F' b o = some v
  mn : n ≤ n'
  mG : ∀ o, o < n → G' o = G o

theorem Grow.refl : Grow F F G G n n := ⟨fun _ _ _ h => h, Nat.le_refl _, fun _ _ => rfl⟩

theorem Grow.trans {F'' : Imm} {G'' : Nat → Nat} {n'' : Nat} (h : Grow F F' G G' n n') (h' : Grow F' F'' G' G'' n' n'') : Grow F F'' G G'' n n'' :=
  ⟨fun b o v hv => h'.mF b o v (h.mF b o v hv), Nat.le_trans h.mn h'.mn, fun o ho => (h'.mG o (Nat.lt_of_lt_of_le ho h.mn)).trans (h.mG o ho)⟩

theorem Imm.has.grow {b o vs} (h : F.has b o vs) (hg : Grow F F' G G' n n') : F'.has b o vs := fun i v hv => hg.mF _ _ _ (h i v hv)

mutual
theorem PRep.grow (hg : Grow F F' G G' n n') : ∀ {x v}, PRep F G n x v → PRep F' G' n' x v
  | _, _, .undef h => .undef h
  | _, _, .sc h => .sc h
  | _, _, .rptr h1 h2 h3 => .rptr (h1.grow hg) (h2.grow hg) h3
  | _, _, .gptr (o := o) (off := off) h => by
    rw [← hg.mG o h]
    exact .gptr (Nat.lt_of_lt_of_le h hg.mn)
  | _, _, .slice h1 h2 h3 h4 h5 h6 h7 h8 => .slice (h1.grow hg) (h2.grow hg) h3 h4 h5 h6 h7 h8
  | _, _, .agg h1 h2 => .agg (h1.grow hg) h2
  | _, _, .tuple h1 => .tuple (h1.grow hg)
  | _, _, .func h1 h2 => .func (h1.grow hg) (h2.grow hg)
  | _, _, .iface h1 => .iface (h1.grow hg)
theorem PRepL.grow (hg : Grow F F' G G' n n') : ∀ {xs vs}, PRepL F G n xs vs → PRepL F' G' n' xs vs
  | _, _, .nil => .nil
  | _, _, .cons h1 h2 => .cons (h1.grow hg) (h2.grow hg)
end

theorem PRep.oneCell {x v} (h : PRep F G n x v) (hx : x.isOne = true) : v.oneCell' = true := by
  cases h with
  | undef h => exact h
  | sc h => revert h; cases v <;> simp [isSc, Value.oneCell']
  | agg h1 h2 => simp [AV.isOne] at hx
  | tuple h1 => simp [AV.isOne] at hx
  | _ => rfl

/-- The cells of a value of the model, of which an abstract one is known. -/
theorem PRep.cells {x v} (h : PRep F G n x v) (hx : ∀ vs, x ≠ .tuple vs) : PRepL F G n x.cells v.cells.toList := by
  cases h with
  | undef h => cases v <;> first | exact .cons (.undef h) .nil | (simp [Value.oneCell'] at h; done)
  | sc h => cases v <;> first | exact .cons (.sc h) .nil | (simp [isSc] at h; done)
  | rptr h1 h2 h3 => exact .cons (.rptr h1 h2 h3) .nil
  | gptr h1 => exact .cons (.gptr h1) .nil
  | slice h1 h2 h3 h4 h5 h6 h7 h8 => exact .cons (.slice h1 h2 h3 h4 h5 h6 h7 h8) .nil
  | agg h1 h2 => exact h1
  | tuple h1 => exact absurd rfl (hx _)
  | func h1 h2 => exact .cons (.func h1 h2) .nil
  | iface h1 => exact .cons (.iface h1) .nil

end

/-- Where a frame's own things lie: the boxes (slot, how-manyth) and the rows that it appends to (block, room, cells of an element). -/
structure Maps where
  G : Nat → Nat
  n : Nat
  L : Nat → Nat → Nat
  lg : Nat → Nat
  A : Nat → Nat → Option (Nat × Nat × Nat)
  ag : Nat → Nat

/-- A slice of the frame's own. -/
def OwnRow (ρ : Maps) (k g : Nat) (l : List AV) (base : Option Addr) (cap : Nat) : Prop :=
  match ρ.A k g with
  | none => cap = l.length
  | some (b, c, sz) => base = some ⟨b, 0, none⟩ ∧ cap = c ∧ ∀ x ∈ l, x.cells.length = sz

/-- The value of a cell of a frame (a slot, or a cell of a box). -/
inductive FCell (F : Imm) (ρ : Maps) : AV → Value → Prop
  | p {x v} : PRep F ρ.G ρ.n x v → FCell F ρ x v
  | lptr {b g off} : g ≤ ρ.lg b → FCell F ρ (.lptr b g off) (.pointer (some ⟨ρ.L b g, off, none⟩))
  | loc {k g l base cap} : PRep F ρ.G ρ.n (.slice .frz l) (.slice base l.length cap) → g ≤ ρ.ag k → OwnRow ρ k g l base cap →
      FCell F ρ (.slice (.loc k g) l) (.slice base l.length cap)

inductive FRep (F : Imm) (ρ : Maps) : AV → Value → Prop
  | cell {x v} : FCell F ρ x v → FRep F ρ x v
  | agg {cs vs} : All2 (FCell F ρ) cs vs → (∀ c ∈ cs, c.isOne = true) → FRep F ρ (.agg cs) (.agg vs.toArray)

/-- The frame's things have become more. -/
structure MGrow (F F' : Imm) (ρ ρ' : Maps) : Prop where
  g : Grow F F' ρ.G ρ'.G ρ.n ρ'.n
  lg : ∀ b, ρ.lg b ≤ ρ'.lg b
  L : ∀ b g, g ≤ ρ.lg b → ρ'.L b g = ρ.L b g
  ag : ∀ k, ρ.ag k ≤ ρ'.ag k
  A : ∀ k g, g ≤ ρ.ag k → ρ'.A k g = ρ.A k g

section
variable {F F' : Imm} {ρ ρ' : Maps}

theorem MGrow.refl : MGrow F F ρ ρ := ⟨.refl, fun _ => Nat.le_refl _, fun _ _ _ => rfl, fun _ => Nat.le_refl _, fun _ _ _ => rfl⟩

theorem FCell.grow (hg : MGrow F F' ρ ρ') {x v} (h : FCell F ρ x v) : FCell F' ρ' x v := by
  cases h with
  | p h => exact .p (h.grow hg.g)
  | lptr h =>
    rename_i b g off
    rw [← hg.L b g h]
    exact .lptr (Nat.le_trans h (hg.lg b))
  | loc h1 h2 h3 =>
    refine .loc (h1.grow hg.g) (Nat.le_trans h2 (hg.ag _)) ?_
    unfold OwnRow
    rw [hg.A _ _ h2]
    exact h3

theorem FRep.grow (hg : MGrow F F' ρ ρ') {x v} (h : FRep F ρ x v) : FRep F' ρ' x v := by
  cases h with
  | cell h => exact .cell (h.grow hg)
  | agg h1 h2 => exact .agg (h1.mono fun _ _ _ h => h.grow hg) h2

theorem FRep.p {x v} (h : PRep F ρ.G ρ.n x v) : FRep F ρ x v := .cell (.p h)

end

/-- What leaves the frame: its own slices become slices of which nothing more is known, pointers to its boxes are forgotten. -/
def AV.ncell : AV → AV
  | .slice _ l => .slice .frz l
  | .lptr _ _ _ => .undef
  | x => x

def AV.norm : AV → AV
  | .agg cs => .agg (cs.map AV.ncell)
  | x => x.ncell

section
variable {F F' : Imm} {ρ ρ' : Maps}

theorem PRep.frz {G : Nat → Nat} {n : Nat} {tag l v} (h : PRep F G n (.slice tag l) v) : PRep F G n (.slice .frz l) v := by
  cases h with
  | slice h1 h2 h3 h4 h5 h6 h7 h8 => exact .slice h1 h2 h3 h4 h5 h6 h7 (.inl rfl)

theorem PRep.ncell {G : Nat → Nat} {n : Nat} {x v} (h : PRep F G n x v) : PRep F G n x.ncell v := by
  cases x with
  | slice tag l => exact h.frz
  | lptr b g off => cases h
  | _ => exact h

theorem FCell.ncell {x v} (h : FCell F ρ x v) : PRep F ρ.G ρ.n x.ncell v := by
  cases h with
  | p h => exact h.ncell
  | lptr h => exact .undef rfl
  | loc h1 h2 h3 => exact h1

theorem AV.isOne_ncell (x : AV) : x.ncell.isOne = x.isOne := by cases x <;> rfl

theorem FRep.norm {x v} (h : FRep F ρ x v) : PRep F ρ.G ρ.n x.norm v := by
  have hcells : ∀ {cs : List AV} {vs : List Value}, All2 (FCell F ρ) cs vs → (∀ c ∈ cs, c.isOne = true) → PRep F ρ.G ρ.n (AV.agg cs).norm (.agg vs.toArray) := by
    intro cs vs h1 h2
    refine .agg (PRepL.of_all2 (h1.map_left AV.ncell fun a b _ h => h.ncell)) ?_
    intro c hc
    obtain ⟨a, ha, rfl⟩ := List.mem_map.1 hc
    rw [AV.isOne_ncell]
    exact h2 a ha
  cases h with
  | agg h1 h2 => exact hcells h1 h2
  | cell h =>
    cases x with
    | agg cs =>
      cases h with
      | p h =>
        cases h with
        | agg h1 h2 => exact hcells (h1.all2.mono fun _ _ _ h => .p h) h2
    | _ => exact h.ncell

/-- The cells of a frame's value. -/
theorem FRep.cells {x v} (h : FRep F ρ x v) (hx : ∀ vs, x ≠ .tuple vs) : All2 (FCell F ρ) x.cells v.cells.toList := by
  cases h with
  | agg h1 h2 => exact h1
  | cell h =>
    cases h with
    | p h => exact (h.cells hx).all2.mono fun _ _ _ h => .p h
    | lptr h => exact .cons (.lptr h) .nil
    | loc h1 h2 h3 => exact .cons (.loc h1 h2 h3) .nil

theorem FCell.oneCell {x v} (h : FCell F ρ x v) (hx : x.isOne = true) : v.oneCell' = true := by
  cases h with
  | p h => exact h.oneCell hx
  | lptr h => rfl
  | loc h1 h2 h3 => rfl

/-- All cells of a frame's value are cells. -/
theorem FRep.ones {x v} (h : FRep F ρ x v) (hx : ∀ vs, x ≠ .tuple vs) : ∀ c ∈ x.cells, c.isOne = true := by
  cases h with
  | agg h1 h2 => exact h2
  | cell h =>
    cases h with
    | p h =>
      cases h with
      | agg h1 h2 => exact h2
      | tuple h1 => exact absurd rfl (hx _)
      | _ => simp [AV.cells, AV.isOne]
    | lptr h => simp [AV.cells, AV.isOne]
    | loc h1 h2 h3 => simp [AV.cells, AV.isOne]

end
end Go.Abs
