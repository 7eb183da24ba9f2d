/-
  Words for models of Go functions: operations on numbers, texts and lists, choices and loops. No program is named here.
-/
import Derived.Below
import Derived.Laws.BytesArg
set_option linter.unusedSimpArgs false
set_option linter.unusedVariables false
namespace Go.Mdl
open Go

def iadd (k : IntKind) (a b : Int) : Int := k.wrap (a + b)
def isub (k : IntKind) (a b : Int) : Int := k.wrap (a - b)
def imul (k : IntKind) (a b : Int) : Int := k.wrap (a * b)
def iquo (k : IntKind) (a b : Int) : Int := k.wrap (a.tdiv b)
def irem (_k : IntKind) (a b : Int) : Int := a.tmod b
def iand (k : IntKind) (a b : Int) : Int := k.wrap (BitVec.ofInt k.bits a &&& BitVec.ofInt k.bits b).toNat
def ior (k : IntKind) (a b : Int) : Int := k.wrap (BitVec.ofInt k.bits a ||| BitVec.ofInt k.bits b).toNat
def ixor (k : IntKind) (a b : Int) : Int := k.wrap (BitVec.ofInt k.bits a ^^^ BitVec.ofInt k.bits b).toNat
def iandn (k : IntKind) (a b : Int) : Int := k.wrap (BitVec.ofInt k.bits a &&& ~~~ BitVec.ofInt k.bits b).toNat
def ishl (k : IntKind) (a b : Int) : Int := k.wrap (a * 2 ^ min b.toNat k.bits)
def ishr (k : IntKind) (a b : Int) : Int := a.fdiv (2 ^ min b.toNat k.bits)
def ieq (a b : Int) : Bool := a == b
def ine (a b : Int) : Bool := a != b
def ilt (a b : Int) : Bool := a < b
def ile (a b : Int) : Bool := a ≤ b
def igt (a b : Int) : Bool := a > b
def ige (a b : Int) : Bool := a ≥ b
def ineg (k : IntKind) (a : Int) : Int := k.wrap (0 - a)
def conv (k : IntKind) (a : Int) : Int := k.wrap a
def imax (a b : Int) : Int := if b > a then b else a
def imin (a b : Int) : Int := if b < a then b else a
def beqB (a b : Bool) : Bool := a == b
def bneB (a b : Bool) : Bool := !(a == b)
def bnot (a : Bool) : Bool := !a
def seq (x y : ByteArray) : Bool := x.toList == y.toList
def sne (x y : ByteArray) : Bool := !(x.toList == y.toList)
def slt (x y : ByteArray) : Bool := Op.bytesLess x.toList y.toList
def sle (x y : ByteArray) : Bool := Op.bytesLess x.toList y.toList || x.toList == y.toList
def sgt (x y : ByteArray) : Bool := !(Op.bytesLess x.toList y.toList || x.toList == y.toList)
def sge (x y : ByteArray) : Bool := !(Op.bytesLess x.toList y.toList)
def slen (x : ByteArray) : Int := x.size
def sget (x : ByteArray) (i : Int) : Option Int := if 0 ≤ i then (x[i.toNat]?).map fun b => (b.toNat : Int) else none
def sslice (x : ByteArray) (lo hi : Int) : Option ByteArray := if 0 ≤ lo ∧ 0 ≤ hi ∧ hi.toNat ≤ x.size ∧ lo.toNat ≤ hi.toNat then some (x.extract lo.toNat hi.toNat) else none
def okCat (x y : ByteArray) : Bool := !decide (((x.size + y.size : Nat) : Int) > IntKind.i64.max)
def sel {α : Type} (c : Bool) (a b : α) : α := if c = true then a else b
@[simp] theorem sel_true {α : Type} (a b : α) : sel true a b = a := rfl
@[simp] theorem sel_false {α : Type} (a b : α) : sel false a b = b := rfl
/-- The text of some bytes. -/
def bstr (l : List Int) : ByteArray := strOfNums l
/-- The bytes of a text, as numbers. -/
def sbytes (s : ByteArray) : List Int := s.data.toList.map fun b => (b.toNat : Int)
def llen {α : Type} (l : List α) : Int := l.length
def lget {α : Type} (l : List α) (i : Int) : Option α := if 0 ≤ i then l[i.toNat]? else none
def lapp {α : Type} (l m : List α) : List α := l ++ m
def lslice {α : Type} (l : List α) (lo hi : Int) : Option (List α) := if 0 ≤ lo ∧ 0 ≤ hi ∧ hi.toNat ≤ l.length ∧ lo.toNat ≤ hi.toNat then some ((l.take hi.toNat).drop lo.toNat) else none
/-- Maps whose keys are numbers, as lists of entries, in the order in which they came. -/
def mget {α : Type} : List (Int × α) → Int → Option α
  | [], _ => none
  | p :: l, k => if p.1 = k then some p.2 else mget l k
def mgetD {α : Type} (l : List (Int × α)) (k : Int) (z : α) : α := (mget l k).getD z
def mhas {α : Type} (l : List (Int × α)) (k : Int) : Bool := (mget l k).isSome
def mput {α : Type} : List (Int × α) → Int → α → List (Int × α)
  | [], k, v => [(k, v)]
  | p :: l, k, v => if p.1 = k then (k, v) :: l else p :: mput l k v
/-- A bound on lengths that no list of the model reaches. -/
def lim : Nat := 1099511627776
def okApp {α : Type} (l m : List α) : Bool := decide (l.length + m.length ≤ lim)
def okLen {α : Type} (l : List α) : Bool := decide (l.length ≤ lim)
def okDiv (b : Int) : Bool := !decide (b = 0)
def okSh (b : Int) : Bool := !decide (b < 0)

/-- The rounds of a loop that is no range, and the depth of a recursion, at most. -/
@[irreducible] def FU : Nat := 1000000000
theorem FU_eq : FU = 1000000000 := by unfold FU; rfl

section
variable {α β γ δ ε ζ η ρ σ τ : Type}
def bind1 (o : Option α) (f : α → Option ρ) : Option ρ := match o with | some a => f a | none => none
def bind2 (o : Option (α × β)) (f : α → β → Option ρ) : Option ρ := match o with | some (a, b) => f a b | none => none
def bind3 (o : Option (α × β × γ)) (f : α → β → γ → Option ρ) : Option ρ := match o with | some (a, b, c) => f a b c | none => none
def bind4 (o : Option (α × β × γ × δ)) (f : α → β → γ → δ → Option ρ) : Option ρ := match o with | some (a, b, c, d) => f a b c d | none => none
def bind5 (o : Option (α × β × γ × δ × ε)) (f : α → β → γ → δ → ε → Option ρ) : Option ρ := match o with | some (a, b, c, d, e) => f a b c d e | none => none
def bind6 (o : Option (α × β × γ × δ × ε × ζ)) (f : α → β → γ → δ → ε → ζ → Option ρ) : Option ρ := match o with | some (a, b, c, d, e, g) => f a b c d e g | none => none
def chk (p : Bool) (o : Option ρ) : Option ρ := if p = true then o else none
def joinB {κ : Type} (k : κ) (b : κ → Option ρ) : Option ρ := b k

@[simp] theorem bind1_of (a : α) (f : α → Option ρ) : bind1 (some a) f = f a := rfl
@[simp] theorem bind2_of (a : α) (b : β) (f : α → β → Option ρ) : bind2 (some (a, b)) f = f a b := rfl
@[simp] theorem bind3_of (a : α) (b : β) (c : γ) (f : α → β → γ → Option ρ) : bind3 (some (a, b, c)) f = f a b c := rfl
@[simp] theorem bind4_of (a : α) (b : β) (c : γ) (d : δ) (f : α → β → γ → δ → Option ρ) : bind4 (some (a, b, c, d)) f = f a b c d := rfl
@[simp] theorem bind5_of (a : α) (b : β) (c : γ) (d : δ) (e : ε) (f : α → β → γ → δ → ε → Option ρ) : bind5 (some (a, b, c, d, e)) f = f a b c d e := rfl
@[simp] theorem bind6_of (a : α) (b : β) (c : γ) (d : δ) (e : ε) (g : ζ) (f : α → β → γ → δ → ε → ζ → Option ρ) : bind6 (some (a, b, c, d, e, g)) f = f a b c d e g := rfl
@[simp] theorem bind1_none (f : α → Option ρ) : bind1 none f = none := rfl
@[simp] theorem chk_true (o : Option ρ) : chk true o = o := rfl
@[simp] theorem chk_false (o : Option ρ) : chk false o = none := rfl
@[simp] theorem joinB_eq {κ : Type} (k : κ) (b : κ → Option ρ) : joinB k b = b k := rfl

theorem bind1_some {o : Option α} {f : α → Option ρ} {r : ρ} (h : bind1 o f = some r) : ∃ a, o = some a ∧ f a = some r := by
  cases o with | none => cases h | some a => exact ⟨a, rfl, h⟩
theorem bind2_some {o : Option (α × β)} {f : α → β → Option ρ} {r : ρ} (h : bind2 o f = some r) : ∃ a b, o = some (a, b) ∧ f a b = some r := by
  cases o with | none => cases h | some a => exact ⟨a.1, a.2, rfl, h⟩
theorem bind3_some {o : Option (α × β × γ)} {f : α → β → γ → Option ρ} {r : ρ} (h : bind3 o f = some r) : ∃ a b c, o = some (a, b, c) ∧ f a b c = some r := by
  cases o with | none => cases h | some a => exact ⟨a.1, a.2.1, a.2.2, rfl, h⟩
theorem bind4_some {o : Option (α × β × γ × δ)} {f : α → β → γ → δ → Option ρ} {r : ρ} (h : bind4 o f = some r) : ∃ a b c d, o = some (a, b, c, d) ∧ f a b c d = some r := by
  cases o with | none => cases h | some a => exact ⟨a.1, a.2.1, a.2.2.1, a.2.2.2, rfl, h⟩
theorem bind5_some {o : Option (α × β × γ × δ × ε)} {f : α → β → γ → δ → ε → Option ρ} {r : ρ} (h : bind5 o f = some r) : ∃ a b c d e, o = some (a, b, c, d, e) ∧ f a b c d e = some r := by
  cases o with | none => cases h | some a => exact ⟨a.1, a.2.1, a.2.2.1, a.2.2.2.1, a.2.2.2.2, rfl, h⟩
theorem bind6_some {o : Option (α × β × γ × δ × ε × ζ)} {f : α → β → γ → δ → ε → ζ → Option ρ} {r : ρ} (h : bind6 o f = some r) : ∃ a b c d e g, o = some (a, b, c, d, e, g) ∧ f a b c d e g = some r := by
  cases o with | none => cases h | some a => exact ⟨a.1, a.2.1, a.2.2.1, a.2.2.2.1, a.2.2.2.2.1, a.2.2.2.2.2, rfl, h⟩
theorem chk_some {p : Bool} {o : Option ρ} {r : ρ} (h : chk p o = some r) : p = true ∧ o = some r := by
  cases p with | false => cases h | true => exact ⟨rfl, h⟩
theorem joinB_some {κ : Type} {k : κ} {b : κ → Option ρ} {r : ρ} (h : joinB k b = some r) : ∃ j, j = k ∧ b j = some r := ⟨k, rfl, h⟩
theorem ite_some {c : Bool} {a b : Option ρ} {r : ρ} (h : (if c = true then a else b) = some r) : c = true ∧ a = some r ∨ c = false ∧ b = some r := by
  cases c with | false => exact .inr ⟨rfl, h⟩ | true => exact .inl ⟨rfl, h⟩

/-- How a round of a loop ends. -/
inductive Ctl (σ ρ : Type) where
  | next (s : σ)
  | brk (s : σ)
  | ret (r : ρ)

def ctlK (k : σ → Option (σ ⊕ ρ)) : Ctl σ ρ → Option (σ ⊕ ρ)
  | .next s => k s
  | .brk s => some (.inl s)
  | .ret r => some (.inr r)
def sumK (k : σ → Option τ) (r : ρ → Option τ) : σ ⊕ ρ → Option τ
  | .inl s => k s
  | .inr x => r x
@[simp] theorem ctlK_next (k : σ → Option (σ ⊕ ρ)) (s : σ) : ctlK k (.next s) = k s := rfl
@[simp] theorem ctlK_brk (k : σ → Option (σ ⊕ ρ)) (s : σ) : ctlK k (.brk s) = some (.inl s) := rfl
@[simp] theorem ctlK_ret (k : σ → Option (σ ⊕ ρ)) (x : ρ) : ctlK k (.ret x) = some (.inr x) := rfl
@[simp] theorem sumK_inl (k : σ → Option τ) (r : ρ → Option τ) (s : σ) : sumK k r (.inl s) = k s := rfl
@[simp] theorem sumK_inr (k : σ → Option τ) (r : ρ → Option τ) (x : ρ) : sumK k r (.inr x) = r x := rfl

/-- A range loop over a list. -/
def forR (f : Int → α → σ → Option (Ctl σ ρ)) : List α → Nat → σ → Option (σ ⊕ ρ)
  | [], _, s => some (.inl s)
  | x :: l, i, s => bind1 (f (i : Int) x s) (ctlK (forR f l (i + 1)))
/-- Another loop. -/
def loopN (f : σ → Option (Ctl σ ρ)) : Nat → σ → Option (σ ⊕ ρ)
  | 0, _ => none
  | n + 1, s => bind1 (f s) (ctlK (loopN f n))

@[simp] theorem forR_nil (f : Int → α → σ → Option (Ctl σ ρ)) (i : Nat) (s : σ) : forR f [] i s = some (.inl s) := rfl
@[simp] theorem forR_cons (f : Int → α → σ → Option (Ctl σ ρ)) (x : α) (l : List α) (i : Nat) (s : σ) : forR f (x :: l) i s = bind1 (f (i : Int) x s) (ctlK (forR f l (i + 1))) := rfl

def un2 (f : α → β → τ) (p : α × β) : τ := f p.1 p.2
def un3 (f : α → β → γ → τ) (p : α × β × γ) : τ := f p.1 p.2.1 p.2.2
def un4 (f : α → β → γ → δ → τ) (p : α × β × γ × δ) : τ := f p.1 p.2.1 p.2.2.1 p.2.2.2
def un5 (f : α → β → γ → δ → ε → τ) (p : α × β × γ × δ × ε) : τ := f p.1 p.2.1 p.2.2.1 p.2.2.2.1 p.2.2.2.2
def un6 (f : α → β → γ → δ → ε → ζ → τ) (p : α × β × γ × δ × ε × ζ) : τ := f p.1 p.2.1 p.2.2.1 p.2.2.2.1 p.2.2.2.2.1 p.2.2.2.2.2
def un7 (f : α → β → γ → δ → ε → ζ → η → τ) (p : α × β × γ × δ × ε × ζ × η) : τ := f p.1 p.2.1 p.2.2.1 p.2.2.2.1 p.2.2.2.2.1 p.2.2.2.2.2.1 p.2.2.2.2.2.2
@[simp] theorem un2_mk (f : α → β → τ) (a : α) (b : β) : un2 f (a, b) = f a b := rfl
@[simp] theorem un3_mk (f : α → β → γ → τ) (a : α) (b : β) (c : γ) : un3 f (a, b, c) = f a b c := rfl
@[simp] theorem un4_mk (f : α → β → γ → δ → τ) (a : α) (b : β) (c : γ) (d : δ) : un4 f (a, b, c, d) = f a b c d := rfl
@[simp] theorem un5_mk (f : α → β → γ → δ → ε → τ) (a : α) (b : β) (c : γ) (d : δ) (e : ε) : un5 f (a, b, c, d, e) = f a b c d e := rfl
@[simp] theorem un6_mk (f : α → β → γ → δ → ε → ζ → τ) (a : α) (b : β) (c : γ) (d : δ) (e : ε) (g : ζ) : un6 f (a, b, c, d, e, g) = f a b c d e g := rfl
@[simp] theorem un7_mk (f : α → β → γ → δ → ε → ζ → η → τ) (a : α) (b : β) (c : γ) (d : δ) (e : ε) (g : ζ) (h : η) : un7 f (a, b, c, d, e, g, h) = f a b c d e g h := rfl
end
def un8 {α β γ δ ε ζ η θ τ : Type} (f : α → β → γ → δ → ε → ζ → η → θ → τ) (p : α × β × γ × δ × ε × ζ × η × θ) : τ := f p.1 p.2.1 p.2.2.1 p.2.2.2.1 p.2.2.2.2.1 p.2.2.2.2.2.1 p.2.2.2.2.2.2.1 p.2.2.2.2.2.2.2
@[simp] theorem un8_mk {α β γ δ ε ζ η θ τ : Type} (f : α → β → γ → δ → ε → ζ → η → θ → τ) (a : α) (b : β) (c : γ) (d : δ) (e : ε) (g : ζ) (h : η) (i : θ) : un8 f (a, b, c, d, e, g, h, i) = f a b c d e g h i := rfl
def un9 {α β γ δ ε ζ η θ ι τ : Type} (f : α → β → γ → δ → ε → ζ → η → θ → ι → τ) (p : α × β × γ × δ × ε × ζ × η × θ × ι) : τ := f p.1 p.2.1 p.2.2.1 p.2.2.2.1 p.2.2.2.2.1 p.2.2.2.2.2.1 p.2.2.2.2.2.2.1 p.2.2.2.2.2.2.2.1 p.2.2.2.2.2.2.2.2
@[simp] theorem un9_mk {α β γ δ ε ζ η θ ι τ : Type} (f : α → β → γ → δ → ε → ζ → η → θ → ι → τ) (a : α) (b : β) (c : γ) (d : δ) (e : ε) (g : ζ) (h : η) (i : θ) (j : ι) : un9 f (a, b, c, d, e, g, h, i, j) = f a b c d e g h i j := rfl
def un10 {α β γ δ ε ζ η θ ι κ τ : Type} (f : α → β → γ → δ → ε → ζ → η → θ → ι → κ → τ) (p : α × β × γ × δ × ε × ζ × η × θ × ι × κ) : τ := f p.1 p.2.1 p.2.2.1 p.2.2.2.1 p.2.2.2.2.1 p.2.2.2.2.2.1 p.2.2.2.2.2.2.1 p.2.2.2.2.2.2.2.1 p.2.2.2.2.2.2.2.2.1 p.2.2.2.2.2.2.2.2.2
@[simp] theorem un10_mk {α β γ δ ε ζ η θ ι κ τ : Type} (f : α → β → γ → δ → ε → ζ → η → θ → ι → κ → τ) (a : α) (b : β) (c : γ) (d : δ) (e : ε) (g : ζ) (h : η) (i : θ) (j : ι) (k : κ) : un10 f (a, b, c, d, e, g, h, i, j, k) = f a b c d e g h i j k := rfl
def un11 {α β γ δ ε ζ η θ ι κ μ τ : Type} (f : α → β → γ → δ → ε → ζ → η → θ → ι → κ → μ → τ) (p : α × β × γ × δ × ε × ζ × η × θ × ι × κ × μ) : τ := f p.1 p.2.1 p.2.2.1 p.2.2.2.1 p.2.2.2.2.1 p.2.2.2.2.2.1 p.2.2.2.2.2.2.1 p.2.2.2.2.2.2.2.1 p.2.2.2.2.2.2.2.2.1 p.2.2.2.2.2.2.2.2.2.1 p.2.2.2.2.2.2.2.2.2.2
@[simp] theorem un11_mk {α β γ δ ε ζ η θ ι κ μ τ : Type} (f : α → β → γ → δ → ε → ζ → η → θ → ι → κ → μ → τ) (a : α) (b : β) (c : γ) (d : δ) (e : ε) (g : ζ) (h : η) (i : θ) (j : ι) (k : κ) (l : μ) : un11 f (a, b, c, d, e, g, h, i, j, k, l) = f a b c d e g h i j k l := rfl

/-! ### for walks -/
section
variable {α σ ρ : Type}
theorem drop_lt {l : List α} {i : Nat} (h : i < l.length) : ∃ x, l.drop i = x :: l.drop (i + 1) ∧ lget l (i : Int) = some x :=
  ⟨l[i], List.drop_eq_getElem_cons h, by unfold lget; rw [if_pos (by omega)]; simp [h]⟩
theorem ilt_of {l : List α} {i : Nat} (h : i < l.length) : ilt (i : Int) (llen l) = true := by unfold ilt llen; simpa using h
theorem ilt_not {l : List α} {i : Nat} (h : l.length ≤ i) : ilt (i : Int) (llen l) = false := by unfold ilt llen; simpa using h
theorem okLen_le {l : List α} (h : okLen l = true) : l.length ≤ lim := by simpa [okLen] using h
theorem okApp_le {l m : List α} (h : okApp l m = true) : l.length + m.length ≤ lim := by simpa [okApp] using h
theorem iadd_idx {l : List α} {i : Nat} (h : i < l.length) (hl : okLen l = true) : iadd .i64 (i : Int) 1 = ((i + 1 : Nat) : Int) := by
  have h1 := okLen_le hl
  unfold lim at h1
  unfold iadd
  rw [IntKind.wrap_i64]
  omega
theorem drop_ltJ {l : List α} {i : Nat} {j : Int} (hj : j = (i : Int)) (h : i < l.length) : ∃ x, l.drop i = x :: l.drop (i + 1) ∧ lget l j = some x := by subst hj; exact drop_lt h
theorem ilt_ofJ {l : List α} {i : Nat} {j : Int} (hj : j = (i : Int)) (h : i < l.length) : ilt j (llen l) = true := by subst hj; exact ilt_of h
theorem ilt_notJ {l : List α} {i : Nat} {j : Int} (hj : j = (i : Int)) (h : l.length ≤ i) : ilt j (llen l) = false := by subst hj; exact ilt_not h
theorem iadd_idxJ {l : List α} {i : Nat} {j : Int} (hj : j = (i : Int)) (h : i < l.length) (hl : okLen l = true) : iadd .i64 j 1 = ((i + 1 : Nat) : Int) := by subst hj; exact iadd_idx h hl
theorem loopN_zero (f : σ → Option (Ctl σ ρ)) (s : σ) : loopN f 0 s = none := rfl
theorem loopN_succ (f : σ → Option (Ctl σ ρ)) (n : Nat) (s : σ) : loopN f (n + 1) s = bind1 (f s) (ctlK (loopN f n)) := rfl
@[simp] theorem bnot_true : bnot true = false := rfl
@[simp] theorem bnot_false : bnot false = true := rfl
theorem length_lapp (l m : List α) : (lapp l m).length = l.length + m.length := by unfold lapp; simp
end
/-- What a computation without a state of its own gives, with a state that it leaves as it is. -/
def pureW {S R : Type} (o : Option R) (s : S) : Option (R × S) := match o with | some r => some (r, s) | none => none
@[simp] theorem pureW_some' {S R : Type} (r : R) (s : S) : pureW (some r) s = some (r, s) := rfl
theorem pureW_some {S R : Type} {o : Option R} {s s' : S} {r : R} (h : pureW o s = some (r, s')) : o = some r ∧ s' = s := by
  cases o with
  | none => cases h
  | some x =>
    have := Option.some.inj h
    exact ⟨by rw [(Prod.mk.inj this).1], ((Prod.mk.inj this).2).symm⟩
def lset {α : Type} (l : List α) (i : Int) (x : α) : List α := l.set i.toNat x
/-- A list that is made anew: it has something, and is not too long. -/
def okNew {α : Type} (l : List α) : Bool := decide (0 < l.length ∧ l.length ≤ lim)
theorem lget_get {α : Type} {l : List α} {i : Int} {x : α} (h : lget l i = some x) : l[i.toNat]? = some x := by
  unfold lget at h
  split at h
  · exact h
  · cases h
theorem lget_range {α : Type} {l : List α} {i : Int} {x : α} (h : lget l i = some x) : 0 ≤ i ∧ i < (l.length : Int) := by
  unfold lget at h
  split at h
  · rename_i h0
    have := (List.getElem?_eq_some_iff.1 h).1
    omega
  · cases h
@[simp] theorem length_lset {α : Type} (l : List α) (i : Int) (x : α) : (lset l i x).length = l.length := by simp [lset]
end Go.Mdl
