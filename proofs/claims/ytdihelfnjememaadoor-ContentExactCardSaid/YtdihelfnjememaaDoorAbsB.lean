/-
  The abstract layer, part B: frames of abstract values, operations that only compute, and that the model's operations do the same.
-/
import Derived.Test.YtdihelfnjememaaDoorAbsA
import Derived.Laws.Small
import Derived.Laws.Pointers
import Derived.WalkSpells
set_option linter.unusedSimpArgs false
set_option linter.unusedVariables false
namespace Go.Abs
open Go

abbrev Heap := List (List AV)
/-- The package-level variables that are constant tables. -/
abbrev Tabs := Nat → Option AV

structure Fr where
  env : Nat → AV
  box : Nat → Option (List AV)
  gen : Nat → Nat
  tab : Nat → Option Nat
  tgen : Nat → Nat

def upd {α : Type} (f : Nat → α) (i : Nat) (x : α) : Nat → α := fun j => if j = i then x else f j

def Fr.put (fr : Fr) (d : Option Nat) (x : AV) : Fr :=
  match d with
  | some d => { fr with env := upd fr.env d x }
  | none => fr

/-! ### the layout of types -/
section
variable (P : Program)
/-- Whether a type's values fill several cells, and how many. -/
def layOf (t : TypeId) : Option (Bool × Nat) :=
  match P.underlying t, P.info? t with
  | some d, some i => some (match d with | .struct _ | .array _ _ => true | _ => false, i.size)
  | _, _ => none
def zeroOf (t : TypeId) : Option Value := (P.info? t).bind (·.zero)
def fieldOf (t i : Nat) : Option (Nat × TypeId) :=
  match P.underlying t with
  | some (.struct fs) => (fs[i]?).map fun f => (f.offset, f.type)
  | _ => none
def elemOf' (t : TypeId) : Option TypeId :=
  match P.underlying t with
  | some (.slice e) => some e
  | _ => none
def arrOf (t : TypeId) : Option (Nat × TypeId) :=
  match P.underlying t with
  | some (.array n e) => some (n, e)
  | _ => none
def bytesOf' (t : TypeId) : Option Nat := (P.info? t).map (·.bytes)

/-- The value of a type that lies at a place of a row of cells. -/
def readAt (t : TypeId) (cs : List AV) (off : Nat) : Option AV :=
  match layOf P t with
  | some (true, n) => if off + n ≤ cs.length then some (.agg ((cs.drop off).take n)) else none
  | some (false, _) => cs[off]?
  | none => none

/-- A value has the form of a type. -/
def fitsB (t : TypeId) (x : AV) : Bool :=
  match layOf P t, x with
  | some (true, n), .agg cs => cs.length == n
  | some (false, _), .agg _ => false
  | some (false, _), .tuple _ => false
  | some (false, _), _ => true
  | _, _ => false
end

def setCells (cs : List AV) (off : Nat) (new : List AV) : List AV := cs.take off ++ new ++ cs.drop (off + new.length)

def ofCell : Value → AV
  | .slice none 0 0 => .slice .full []
  | .func fn f c => if f.size = 0 ∧ c.size = 0 then .func fn [] [] else .undef
  | .agg _ => .undef
  | .tuple _ => .undef
  | v => if isSc v then .sc v else .undef

def ofValue : Value → AV
  | .agg cs => .agg (cs.toList.map ofCell)
  | .tuple cs => .tuple (cs.toList.map ofCell)
  | v => ofCell v

/-- Constants that 'ofValue' reads. -/
def okConst : Value → Bool
  | .agg cs => cs.all (·.oneCell')
  | .tuple cs => cs.all (·.oneCell')
  | _ => true

theorem ofCell_one (v : Value) : (ofCell v).isOne = true := by
  unfold ofCell
  split <;> first | rfl | (split <;> rfl)

theorem prep_ofCell (F : Imm) (G : Nat → Nat) (n : Nat) (v : Value) (h : v.oneCell' = true) : PRep F G n (ofCell v) v := by
  unfold ofCell
  split
  · exact .slice (l := []) (vs := []) (b := 0) (o := 0) (sz := 0) .nil (fun _ _ h => by simp at h) (by simp) (by simp) (by simp) (by simp) (by simp [maxLen]) (.inr ⟨rfl, rfl⟩)
  · rename_i fn f c
    split
    · rename_i hs
      obtain ⟨h1, h2⟩ := hs
      have e1 : f = #[] := Array.eq_empty_of_size_eq_zero h1
      have e2 : c = #[] := Array.eq_empty_of_size_eq_zero h2
      subst e1; subst e2
      exact .func (vf := []) (vc := []) .nil .nil
    · exact .undef rfl
  · simp [Value.oneCell'] at h
  · simp [Value.oneCell'] at h
  · split
    · exact .sc (by assumption)
    · exact .undef h

theorem prepL_ofCells (F : Imm) (G : Nat → Nat) (n : Nat) : ∀ (vs : List Value), (∀ v ∈ vs, v.oneCell' = true) → PRepL F G n (vs.map ofCell) vs
  | [], _ => .nil
  | v :: vs, h => .cons (prep_ofCell F G n v (h v (by simp))) (prepL_ofCells F G n vs fun u hu => h u (by simp [hu]))

theorem ofValue_one {v : Value} (h : v.oneCell' = true) : ofValue v = ofCell v := by
  cases v <;> first | rfl | (simp [Value.oneCell'] at h)

theorem prep_ofValue (F : Imm) (G : Nat → Nat) (n : Nat) (v : Value) (h : okConst v = true) : PRep F G n (ofValue v) v := by
  cases v with
  | agg cs =>
    have h' : ∀ v ∈ cs.toList, v.oneCell' = true := fun v hv => by
      have h0 : cs.all (·.oneCell') = true := h
      exact Array.all_eq_true_iff_forall_mem.1 h0 v (Array.mem_toList_iff.1 hv)
    exact .agg (vs := cs.toList) (prepL_ofCells F G n cs.toList h') (by
      intro c hc
      obtain ⟨a, _, rfl⟩ := List.mem_map.1 hc
      exact ofCell_one a)
  | tuple cs =>
    have h' : ∀ v ∈ cs.toList, v.oneCell' = true := fun v hv => by
      have h0 : cs.all (·.oneCell') = true := h
      exact Array.all_eq_true_iff_forall_mem.1 h0 v (Array.mem_toList_iff.1 hv)
    exact .tuple (vs := cs.toList) (prepL_ofCells F G n cs.toList h')
  | _ => (rw [ofValue_one rfl]; exact prep_ofCell F G n _ rfl)

/-! ### operands -/
section
variable (T : Tabs) (fr : Fr)

def ev : Operand → AV
  | .tmp t => fr.env t
  | .const v => ofValue v
  | .global g => match T g with | some x => .rptr x | none => .undef
  | .func f => .func (.func f) [] []

def okOperand : Operand → Bool
  | .const v => okConst v
  | _ => true

end

/-- The slots of a frame hold what the abstract ones say. -/
def EnvRep (F : Imm) (ρ : Maps) (fr : Fr) (a : Act) : Prop := ∀ t, FRep F ρ (fr.env t) (a.tmps.getD t undef)

def TabsRep (T : Tabs) (F : Imm) (ρ : Maps) : Prop := ∀ g x, T g = some x → PRep F ρ.G ρ.n (.rptr x) (.pointer (some ⟨g, 0, none⟩))

theorem ev_rep {T : Tabs} {fr : Fr} {F : Imm} {ρ : Maps} {a : Act} (he : EnvRep F ρ fr a) (ht : TabsRep T F ρ) (x : Operand) (hx : okOperand x = true) :
    FRep F ρ (ev T fr x) (a.eval x) := by
  cases x with
  | tmp t => exact he t
  | const v => exact .p (prep_ofValue _ _ _ v hx)
  | global g =>
    show FRep F ρ (match T g with | some x => .rptr x | none => .undef) _
    cases h : T g with
    | none => exact .p (.undef rfl)
    | some x => exact .p (ht g x h)
  | func f => exact .p (.func (vf := []) (vc := []) .nil .nil)

/-! ### numbers, texts, tests -/

def intBin (op : BinOp) (k : IntKind) (a b : Int) : Option Value :=
  match op with
  | .add => some (.int k (k.wrap (a + b)))
  | .sub => some (.int k (k.wrap (a - b)))
  | .mul => some (.int k (k.wrap (a * b)))
  | .quo => if b = 0 then none else some (.int k (k.wrap (a.tdiv b)))
  | .rem => if b = 0 then none else some (.int k (a.tmod b))
  | .and => some (.int k (k.wrap (BitVec.ofInt k.bits a &&& BitVec.ofInt k.bits b).toNat))
  | .or => some (.int k (k.wrap (BitVec.ofInt k.bits a ||| BitVec.ofInt k.bits b).toNat))
  | .xor => some (.int k (k.wrap (BitVec.ofInt k.bits a ^^^ BitVec.ofInt k.bits b).toNat))
  | .andNot => some (.int k (k.wrap (BitVec.ofInt k.bits a &&& ~~~ BitVec.ofInt k.bits b).toNat))
  | .eql => some (.bool (a == b))
  | .neq => some (.bool (a != b))
  | .lss => some (.bool (a < b))
  | .leq => some (.bool (a ≤ b))
  | .gtr => some (.bool (a > b))
  | .geq => some (.bool (a ≥ b))
  | _ => none

def strBin (op : BinOp) (x y : ByteArray) : Option Value :=
  match op with
  | .add => if ((x.size + y.size : Nat) : Int) > IntKind.i64.max then none else some (.string (x ++ y))
  | .eql => some (.bool (x.toList == y.toList))
  | .neq => some (.bool !(x.toList == y.toList))
  | .lss => some (.bool (Op.bytesLess x.toList y.toList))
  | .leq => some (.bool (Op.bytesLess x.toList y.toList || x.toList == y.toList))
  | .gtr => some (.bool !(Op.bytesLess x.toList y.toList || x.toList == y.toList))
  | .geq => some (.bool !(Op.bytesLess x.toList y.toList))
  | _ => none

def isPtr : AV → Bool
  | .rptr _ | .lptr _ _ _ | .gptr _ _ => true
  | _ => false

def binA (P : Program) (op : BinOp) (t : TypeId) (x y : AV) : Option AV :=
  match op, x, y with
  | .shl, .sc (.int k a), .sc (.int _ b) => if b < 0 then none else some (.sc (.int k (k.wrap (a * 2 ^ min b.toNat k.bits))))
  | .shr, .sc (.int k a), .sc (.int _ b) => if b < 0 then none else some (.sc (.int k (a.fdiv (2 ^ min b.toNat k.bits))))
  | op, .sc (.int k a), .sc (.int k' b) => if k = k' then (intBin op k a b).map .sc else none
  | op, .sc (.string a), .sc (.string b) => (strBin op a b).map .sc
  | .eql, .sc (.bool a), .sc (.bool b) => match P.underlying t with | some .bool => some (.sc (.bool (a == b))) | _ => none
  | .neq, .sc (.bool a), .sc (.bool b) => match P.underlying t with | some .bool => some (.sc (.bool (!(a == b)))) | _ => none
  | .eql, x, .sc (.pointer none) => match P.underlying t with
    | some (.pointer _) => if isPtr x then some (.sc (.bool false)) else (match x with | .sc (.pointer none) => some (.sc (.bool true)) | _ => none)
    | _ => none
  | .neq, x, .sc (.pointer none) => match P.underlying t with
    | some (.pointer _) => if isPtr x then some (.sc (.bool true)) else (match x with | .sc (.pointer none) => some (.sc (.bool false)) | _ => none)
    | _ => none
  | .eql, .func _ _ _, .sc .nilFunc => match P.underlying t with | some (.func ..) => some (.sc (.bool false)) | _ => none
  | .neq, .func _ _ _, .sc .nilFunc => match P.underlying t with | some (.func ..) => some (.sc (.bool true)) | _ => none
  | .eql, .sc .nilFunc, .sc .nilFunc => match P.underlying t with | some (.func ..) => some (.sc (.bool true)) | _ => none
  | .neq, .sc .nilFunc, .sc .nilFunc => match P.underlying t with | some (.func ..) => some (.sc (.bool false)) | _ => none
  | _, _, _ => none

def unA (op : UnOp) (x : AV) : Option AV :=
  match op, x with
  | .neg, .sc (.int k n) => some (.sc (.int k (k.wrap (0 - n))))
  | .not, .sc (.bool b) => some (.sc (.bool !b))
  | _, _ => none

theorem frep_sc {F : Imm} {ρ : Maps} {u v : Value} (h : FRep F ρ (.sc u) v) : v = u := by
  cases h with
  | cell h => cases h with | p h => cases h; rfl

theorem run_intBin (P : Program) (w : World) {op : BinOp} {k : IntKind} {a b : Int} {v : Value} (t : TypeId) (h : intBin op k a b = some v) :
    (binOp op t (.int k a) (.int k b)).run P w = .ok v w ∧ isSc v = true := by
  cases op <;> simp only [intBin, Option.some.injEq, reduceCtorEq] at h <;> (try (split at h)) <;>
    (first
      | (subst h; refine ⟨?_, rfl⟩; simp [binOp, Op.intArith, Op.intBits, Op.intCmp, Op.intDiv, *])
      | (cases h; refine ⟨?_, rfl⟩; simp [binOp, Op.intArith, Op.intBits, Op.intCmp, Op.intDiv, *])
      | cases h)

theorem run_strBin (P : Program) (w : World) {op : BinOp} {a b : ByteArray} {v : Value} (t : TypeId) (h : strBin op a b = some v) :
    (binOp op t (.string a) (.string b)).run P w = .ok v w ∧ isSc v = true := by
  cases op <;> simp only [strBin, Option.some.injEq, reduceCtorEq] at h <;> (try (split at h)) <;>
    (first
      | (subst h; refine ⟨?_, rfl⟩; simp [binOp, Op.stringOp, *])
      | (cases h; refine ⟨?_, rfl⟩; simp_all [binOp, Op.stringOp])
      | cases h)

theorem isPtr_rep {F : Imm} {ρ : Maps} {x : AV} {v : Value} (hx : isPtr x = true) (h : FRep F ρ x v) : ∃ a, v = .pointer (some a) := by
  cases h with
  | agg h1 h2 => simp [isPtr] at hx
  | cell h =>
    cases h with
    | lptr h => exact ⟨_, rfl⟩
    | loc h1 h2 h3 => simp [isPtr] at hx
    | p h => cases h <;> first | (simp [isPtr] at hx; done) | exact ⟨_, rfl⟩

theorem pointee_of {P : Program} {t e : TypeId} (h : P.underlying t = some (.pointer e)) : P.underlying t = some (.pointer (P.pointee t)) := by
  simp [Program.pointee, h]

theorem frep_func {F : Imm} {ρ : Maps} {fn : Fn} {f c : List AV} {v : Value} (h : FRep F ρ (.func fn f c) v) :
    ∃ vf vc : List Value, v = .func fn vf.toArray vc.toArray ∧ All2 (PRep F ρ.G ρ.n) f vf ∧ All2 (PRep F ρ.G ρ.n) c vc := by
  cases h with
  | cell h => cases h with
    | p h => cases h with | func h1 h2 => exact ⟨_, _, rfl, h1.all2, h2.all2⟩

theorem run_eqF (P : Program) (w : World) {t : TypeId} {ps rs : Array TypeId} {b : Bool} (hu : P.underlying t = some (.func ps rs b)) (fn : Fn) (f c : Array Value) :
    (binOp .eql t (.func fn f c) .nilFunc).run P w = .ok (.bool false) w ∧ (binOp .neq t (.func fn f c) .nilFunc).run P w = .ok (.bool true) w := by
  have h : ∀ d, (Op.equalIn (d + 1) t (.func fn f c) .nilFunc).run P w = .ok false w := fun d => by simp [Op.equalIn, run_underlying hu]
  have e1 : binOp .eql t (.func fn f c) .nilFunc = (do pure (.bool (← Op.equalIn (9999 + 1) t (.func fn f c) .nilFunc))) := rfl
  have e2 : binOp .neq t (.func fn f c) .nilFunc = (do pure (.bool (!(← Op.equalIn (9999 + 1) t (.func fn f c) .nilFunc)))) := rfl
  rw [e1, e2, Sem.run_bind, Sem.run_bind, h 9999]
  exact ⟨rfl, rfl⟩

theorem run_eqN (P : Program) (w : World) {t : TypeId} {ps rs : Array TypeId} {b : Bool} (hu : P.underlying t = some (.func ps rs b)) :
    (binOp .eql t .nilFunc .nilFunc).run P w = .ok (.bool true) w ∧ (binOp .neq t .nilFunc .nilFunc).run P w = .ok (.bool false) w := by
  have h : ∀ d, (Op.equalIn (d + 1) t .nilFunc .nilFunc).run P w = .ok true w := fun d => by simp [Op.equalIn, run_underlying hu]
  have e1 : binOp .eql t .nilFunc .nilFunc = (do pure (.bool (← Op.equalIn (9999 + 1) t .nilFunc .nilFunc))) := rfl
  have e2 : binOp .neq t .nilFunc .nilFunc = (do pure (.bool (!(← Op.equalIn (9999 + 1) t .nilFunc .nilFunc)))) := rfl
  rw [e1, e2, Sem.run_bind, Sem.run_bind, h 9999]
  exact ⟨rfl, rfl⟩

/-- Values that the guard of == lets by. -/
def plainEq : Value → Bool
  | .nilIface => false
  | .agg _ => false
  | _ => true

theorem run_eqGuard (P : Program) (w : World) (op : BinOp) (t : TypeId) (x y : Operand) {u v : Value} (h : plainEq u = true) : (eqGuard op t x y u v).run P w = .ok () w := by
  unfold eqGuard
  cases u <;> first | (simp [plainEq] at h; done) | (cases op <;> rfl)

theorem run_binA (P : Program) (w : World) {F : Imm} {ρ : Maps} {op : BinOp} {t : TypeId} {x y r : AV} {u v : Value} (h : binA P op t x y = some r)
    (hx : FRep F ρ x u) (hy : FRep F ρ y v) : ∃ z, (binOp op t u v).run P w = .ok z w ∧ r = .sc z ∧ isSc z = true ∧ plainEq u = true := by
  unfold binA at h
  split at h
  · cases frep_sc hx; cases frep_sc hy
    split at h
    · cases h
    · rename_i hb
      cases h
      exact ⟨_, by simp [binOp, Op.shift, hb], rfl, rfl, rfl⟩
  · cases frep_sc hx; cases frep_sc hy
    split at h
    · cases h
    · rename_i hb
      cases h
      exact ⟨_, by simp [binOp, Op.shift, hb], rfl, rfl, rfl⟩
  · cases frep_sc hx; cases frep_sc hy
    split at h
    · rename_i hk
      subst hk
      cases hi : intBin op _ _ _ with
      | none => rw [hi] at h; cases h
      | some z =>
        rw [hi] at h
        cases h
        exact ⟨z, (run_intBin P w t hi).1, rfl, (run_intBin P w t hi).2, rfl⟩
    · cases h
  · cases frep_sc hx; cases frep_sc hy
    cases hi : strBin op _ _ with
    | none => rw [hi] at h; cases h
    | some z =>
      rw [hi] at h
      cases h
      exact ⟨z, (run_strBin P w t hi).1, rfl, (run_strBin P w t hi).2, rfl⟩
  · cases frep_sc hx; cases frep_sc hy
    split at h
    · rename_i hu
      cases h
      exact ⟨_, run_eql_bool w t _ _ hu, rfl, rfl, rfl⟩
    · cases h
  · cases frep_sc hx; cases frep_sc hy
    split at h
    · rename_i hu
      cases h
      exact ⟨_, run_neq_bool w t _ _ hu, rfl, rfl, rfl⟩
    · cases h
  · cases frep_sc hy
    split at h
    · rename_i hu
      split at h
      · rename_i hp
        obtain ⟨a, rfl⟩ := isPtr_rep hp hx
        cases h
        exact ⟨_, run_eql_pointer_nil w t _ (pointee_of hu), by simp, rfl, rfl⟩
      · split at h
        · cases frep_sc hx
          cases h
          exact ⟨_, run_eql_pointer_nil w t _ (pointee_of hu), by simp, rfl, rfl⟩
        · cases h
    · cases h
  · cases frep_sc hy
    split at h
    · rename_i hu
      split at h
      · rename_i hp
        obtain ⟨a, rfl⟩ := isPtr_rep hp hx
        cases h
        exact ⟨_, run_neq_pointer_nil w t _ (pointee_of hu), by simp, rfl, rfl⟩
      · split at h
        · cases frep_sc hx
          cases h
          exact ⟨_, run_neq_pointer_nil w t _ (pointee_of hu), by simp, rfl, rfl⟩
        · cases h
    · cases h
  · cases frep_sc hy
    obtain ⟨vf, vc, rfl, _, _⟩ := frep_func hx
    split at h
    · rename_i hu
      cases h
      exact ⟨.bool false, (run_eqF P w hu _ _ _).1, rfl, rfl, rfl⟩
    · cases h
  · cases frep_sc hy
    obtain ⟨vf, vc, rfl, _, _⟩ := frep_func hx
    split at h
    · rename_i hu
      cases h
      exact ⟨.bool true, (run_eqF P w hu _ _ _).2, rfl, rfl, rfl⟩
    · cases h
  · cases frep_sc hx; cases frep_sc hy
    split at h
    · rename_i hu
      cases h
      exact ⟨.bool true, (run_eqN P w hu).1, rfl, rfl, rfl⟩
    · cases h
  · cases frep_sc hx; cases frep_sc hy
    split at h
    · rename_i hu
      cases h
      exact ⟨.bool false, (run_eqN P w hu).2, rfl, rfl, rfl⟩
    · cases h
  · cases h

end Go.Abs
