/-
  The abstract layer, part P: what 'simp' does with steps. Every step but a call goes by itself; a call stands as 'CallAt' till its contract is given.
-/
import Derived.Test.YtnbbnjmjpnncfaaAbsO
namespace Go.Abs
set_option linter.unusedSimpArgs false
set_option linter.unusedVariables false
open Go

/-- A call in a plain region, with what follows it. -/
def CallAt (P : Program) (T : Tabs) (E : List Nat) (ops : Array Oper) (fv : AV) (as : List AV) (d : Option Nat) (rest : List Oper) (K : Fr → Heap → Prop) (fr : Fr) (H : Heap) : Prop :=
  AInvoke P T fv as H fun r H' => arun P T E ops rest K (fr.put d r) H'

/-- A call in a region that draws its order. -/
def CallAtD (P : Program) (T : Tabs) (E : List Nat) (ops : Array Oper) (q : Bool) (fv : AV) (as : List AV) (d : Option Nat) (rest : List Oper) (K : Fr → Heap → Prop) (fr : Fr) (H : Heap) : Prop :=
  ∃ r H', AInvokeD P T fv as H r H' ∧ (q = true → H' = H) ∧ drunL P T E ops q rest K (fr.put d r) H'

section
variable {P : Program} {T : Tabs} {E : List Nat} {ops : Array Oper} {q : Bool} {rest : List Oper} {K : Fr → Heap → Prop} {fr : Fr} {H H' : Heap} {d : Option Nat} {ty : TypeId} {pos : String} {after : Array Edge}

theorem CallAt.fn {g : FuncId} {as : List AV} {r : AV} (h : ACall P T g as H r H') (hk : arun P T E ops rest K (fr.put d r) H') : CallAt P T E ops (.func (.func g) [] []) as d rest K fr H := by
  unfold CallAt AInvoke
  simp only [List.nil_append, List.append_nil]
  exact h.post hk

theorem CallAt.clo {g : FuncId} {fi ca as as' : List AV} {r : AV} (ha : fi ++ as ++ ca = as') (h : ACall P T g as' H r H') (hk : arun P T E ops rest K (fr.put d r) H') : CallAt P T E ops (.func (.func g) fi ca) as d rest K fr H := by
  subst ha
  unfold CallAt AInvoke
  exact h.post hk

/-- A call whose result is known by what is said of it. -/
theorem CallAt.fnP {g : FuncId} {as : List AV} {Post : AV → Heap → Prop} (h : ACallP P T g as H Post) (hk : ∀ r H', Post r H' → arun P T E ops rest K (fr.put d r) H') : CallAt P T E ops (.func (.func g) [] []) as d rest K fr H := by
  unfold CallAt AInvoke
  simp only [List.nil_append, List.append_nil]
  exact h.mono hk

theorem CallAtD.fn {g : FuncId} {as : List AV} {r : AV} (h : ACall P T g as H r H') (hq : q = true → H' = H) (hk : drunL P T E ops q rest K (fr.put d r) H') : CallAtD P T E ops q (.func (.func g) [] []) as d rest K fr H := by
  refine ⟨r, H', ?_, hq, hk⟩
  unfold AInvokeD AInvoke
  simp only [List.nil_append, List.append_nil]
  exact h

theorem CallAtD.clo {g : FuncId} {fi ca as as' : List AV} {r : AV} (ha : fi ++ as ++ ca = as') (h : ACall P T g as' H r H') (hq : q = true → H' = H) (hk : drunL P T E ops q rest K (fr.put d r) H') : CallAtD P T E ops q (.func (.func g) fi ca) as d rest K fr H := by
  subst ha
  exact ⟨r, H', h, hq, hk⟩

/-- The same where the callee leaves the shared memory alone. -/
theorem CallAtD.fn0 {g : FuncId} {as : List AV} {r : AV} (h : ACall P T g as H r H) (hk : drunL P T E ops q rest K (fr.put d r) H) : CallAtD P T E ops q (.func (.func g) [] []) as d rest K fr H :=
  CallAtD.fn h (fun _ => rfl) hk

/-- A function's value of which it is known what it does. -/
theorem CallAt.val {fv : AV} {as : List AV} {r : AV} (h : AInvokeD P T fv as H r H') (hk : arun P T E ops rest K (fr.put d r) H') : CallAt P T E ops fv as d rest K fr H := by
  unfold CallAt
  unfold AInvokeD AInvoke at h
  unfold AInvoke
  split at h
  · exact h.mono fun r' H'' ⟨e1, e2⟩ => by subst e1; subst e2; exact hk
  · exact h.elim

theorem CallAtD.val {fv : AV} {as : List AV} {r : AV} (h : AInvokeD P T fv as H r H') (hq : q = true → H' = H) (hk : drunL P T E ops q rest K (fr.put d r) H') : CallAtD P T E ops q fv as d rest K fr H := ⟨r, H', h, hq, hk⟩

@[simp] theorem arun_nil : arun P T E ops [] K fr H = K fr H := rfl
@[simp] theorem drunL_nil : drunL P T E ops q [] K fr H = K fr H := rfl

/-! plain regions -/

@[simp] theorem arun_move {x : Operand} : arun P T E ops ({ dst := d, op := .move x, type := ty, pos := pos, after := after, guard := none } :: rest) K fr H = arun P T E ops rest K (fr.put d (ev T fr x)) H := rfl
@[simp] theorem arun_assign {x : Operand} : arun P T E ops ({ dst := d, op := .assign x, type := ty, pos := pos, after := after, guard := none } :: rest) K fr H = arun P T E ops rest K (fr.put d (ev T fr x)) H := rfl
@[simp] theorem arun_alloc {t : TypeId} : arun P T E ops ({ dst := d, op := .alloc t, type := ty, pos := pos, after := after, guard := none } :: rest) K fr H =
    match zeroA P t with | some z => allocA E d z (arun P T E ops rest K) fr H | none => False := rfl
@[simp] theorem arun_box {t : TypeId} {x : Operand} : arun P T E ops ({ dst := d, op := .box t x, type := ty, pos := pos, after := after, guard := none } :: rest) K fr H =
    (notTuple (ev T fr x) = true ∧ allocA E d (ev T fr x).cells (arun P T E ops rest K) fr H) := rfl
@[simp] theorem arun_load {t : TypeId} {x : Operand} : arun P T E ops ({ dst := d, op := .load t x, type := ty, pos := pos, after := after, guard := none } :: rest) K fr H =
    match loadA P fr H t (ev T fr x) with | some v => arun P T E ops rest K (fr.put d v) H | none => False := rfl
@[simp] theorem arun_store {t : TypeId} {x y : Operand} : arun P T E ops ({ dst := none, op := .store t x y, type := ty, pos := pos, after := after, guard := none } :: rest) K fr H =
    storeA P t (ev T fr x) (ev T fr y) (arun P T E ops rest K) fr H := by simp [arun, aopAt, astep]
@[simp] theorem arun_buildSlice {t n : Nat} {ps : Array (Nat × Operand)} : arun P T E ops ({ dst := d, op := .buildSlice t n ps, type := ty, pos := pos, after := after, guard := none } :: rest) K fr H =
    match buildSliceA P t n (ps.toList.map fun p => (p.1, ev T fr p.2)) with | some v => arun P T E ops rest K (fr.put d v) H | none => False := rfl
@[simp] theorem arun_append {as : Array Operand} {ts : Array TypeId} : arun P T E ops ({ dst := d, op := .call { callee := .builtin .append, args := as, argTypes := ts }, type := ty, pos := pos, after := after, guard := none } :: rest) K fr H =
    appendA P T { callee := .builtin .append, args := as, argTypes := ts } d (arun P T E ops rest K) fr H := rfl
@[simp] theorem arun_call {f : Operand} {as : Array Operand} {ts : Array TypeId} : arun P T E ops ({ dst := d, op := .call { callee := .value f, args := as, argTypes := ts }, type := ty, pos := pos, after := after, guard := none } :: rest) K fr H =
    CallAt P T E ops (ev T fr f) (as.toList.map fun x => (ev T fr x).norm) d rest K fr H := rfl
@[simp] theorem arun_len {as : Array Operand} {ts : Array TypeId} : arun P T E ops ({ dst := d, op := .call { callee := .builtin .len, args := as, argTypes := ts }, type := ty, pos := pos, after := after, guard := none } :: rest) K fr H =
    match callA P T fr { callee := .builtin .len, args := as, argTypes := ts } with | some v => arun P T E ops rest K (fr.put d v) H | none => False := rfl
@[simp] theorem arun_max {as : Array Operand} {ts : Array TypeId} : arun P T E ops ({ dst := d, op := .call { callee := .builtin .max, args := as, argTypes := ts }, type := ty, pos := pos, after := after, guard := none } :: rest) K fr H =
    match callA P T fr { callee := .builtin .max, args := as, argTypes := ts } with | some v => arun P T E ops rest K (fr.put d v) H | none => False := rfl
@[simp] theorem arun_min {as : Array Operand} {ts : Array TypeId} : arun P T E ops ({ dst := d, op := .call { callee := .builtin .min, args := as, argTypes := ts }, type := ty, pos := pos, after := after, guard := none } :: rest) K fr H =
    match callA P T fr { callee := .builtin .min, args := as, argTypes := ts } with | some v => arun P T E ops rest K (fr.put d v) H | none => False := rfl
@[simp] theorem arun_pick {c a b : Operand} : arun P T E ops ({ dst := d, op := .pick c a b, type := ty, pos := pos, after := after, guard := none } :: rest) K fr H =
    match aval P T fr { dst := d, op := .pick c a b, type := ty, pos := pos, after := after, guard := none } with | some v => arun P T E ops rest K (fr.put d v) H | none => False := rfl
@[simp] theorem arun_build {t : TypeId} {ps : Array (Nat × Operand)} : arun P T E ops ({ dst := d, op := .build t ps, type := ty, pos := pos, after := after, guard := none } :: rest) K fr H =
    match buildA P t (ps.toList.map fun p => (p.1, ev T fr p.2)) with | some v => arun P T E ops rest K (fr.put d v) H | none => False := rfl
@[simp] theorem arun_binOp {o : BinOp} {t u : TypeId} {x y : Operand} : arun P T E ops ({ dst := d, op := .binOp o t x y u, type := ty, pos := pos, after := after, guard := none } :: rest) K fr H =
    match binA P o t (ev T fr x) (ev T fr y) with | some v => arun P T E ops rest K (fr.put d v) H | none => False := rfl
@[simp] theorem arun_unOp {o : UnOp} {t : TypeId} {x : Operand} : arun P T E ops ({ dst := d, op := .unOp o t x, type := ty, pos := pos, after := after, guard := none } :: rest) K fr H =
    match unA o (ev T fr x) with | some v => arun P T E ops rest K (fr.put d v) H | none => False := rfl
@[simp] theorem arun_convert {s t : TypeId} {x : Operand} : arun P T E ops ({ dst := d, op := .convert s t x, type := ty, pos := pos, after := after, guard := none } :: rest) K fr H =
    match convA P s t (ev T fr x) with | some v => arun P T E ops rest K (fr.put d v) H | none => False := rfl
@[simp] theorem arun_makeFunc {fn : Fn} {f c : Array Operand} : arun P T E ops ({ dst := d, op := .makeFunc fn f c, type := ty, pos := pos, after := after, guard := none } :: rest) K fr H =
    arun P T E ops rest K (fr.put d (.func fn (f.toList.map fun x => (ev T fr x).norm) (c.toList.map fun x => (ev T fr x).norm))) H := rfl
@[simp] theorem arun_fieldAddr {t i : Nat} {x : Operand} : arun P T E ops ({ dst := d, op := .fieldAddr t x i, type := ty, pos := pos, after := after, guard := none } :: rest) K fr H =
    match fieldAddrA P t (ev T fr x) i with | some v => arun P T E ops rest K (fr.put d v) H | none => False := rfl
@[simp] theorem arun_field {t i : Nat} {x : Operand} : arun P T E ops ({ dst := d, op := .field t x i, type := ty, pos := pos, after := after, guard := none } :: rest) K fr H =
    match fieldA P t (ev T fr x) i with | some v => arun P T E ops rest K (fr.put d v) H | none => False := rfl
@[simp] theorem arun_indexAddr {t : TypeId} {x i : Operand} : arun P T E ops ({ dst := d, op := .indexAddr t x i, type := ty, pos := pos, after := after, guard := none } :: rest) K fr H =
    match indexAddrA P t (ev T fr x) (ev T fr i) with | some v => arun P T E ops rest K (fr.put d v) H | none => False := rfl
@[simp] theorem arun_index {t : TypeId} {x i : Operand} : arun P T E ops ({ dst := d, op := .index t x i, type := ty, pos := pos, after := after, guard := none } :: rest) K fr H =
    match indexA P t (ev T fr x) (ev T fr i) with | some v => arun P T E ops rest K (fr.put d v) H | none => False := rfl
@[simp] theorem arun_slice {t : TypeId} {x : Operand} {lo hi mx : Option Operand} : arun P T E ops ({ dst := d, op := .slice t x lo hi mx, type := ty, pos := pos, after := after, guard := none } :: rest) K fr H =
    match sliceA P t (ev T fr x) (lo.map (ev T fr)) (hi.map (ev T fr)) (mx.map (ev T fr)) with | some v => arun P T E ops rest K (fr.put d v) H | none => False := rfl
@[simp] theorem arun_extract {i : Nat} {x : Operand} : arun P T E ops ({ dst := d, op := .extract x i, type := ty, pos := pos, after := after, guard := none } :: rest) K fr H =
    match aval P T fr { dst := d, op := .extract x i, type := ty, pos := pos, after := after, guard := none } with | some v => arun P T E ops rest K (fr.put d v) H | none => False := rfl
@[simp] theorem arun_nilCheck {x : Operand} : arun P T E ops ({ dst := d, op := .nilCheck x, type := ty, pos := pos, after := after, guard := none } :: rest) K fr H =
    match aval P T fr { dst := d, op := .nilCheck x, type := ty, pos := pos, after := after, guard := none } with | some v => arun P T E ops rest K (fr.put d v) H | none => False := rfl
@[simp] theorem arun_makeInterface {t : TypeId} {x : Operand} : arun P T E ops ({ dst := d, op := .makeInterface t x, type := ty, pos := pos, after := after, guard := none } :: rest) K fr H =
    match aval P T fr { dst := d, op := .makeInterface t x, type := ty, pos := pos, after := after, guard := none } with | some v => arun P T E ops rest K (fr.put d v) H | none => False := rfl

/-- An operation under a guard. -/
@[simp] theorem arun_guard {op : Op} {j : Nat} {want : Bool} : arun P T E ops ({ dst := d, op := op, type := ty, pos := pos, after := after, guard := some (j, want) } :: rest) K fr H =
    match (ops[j]?).bind (·.dst) with
    | some g => match fr.env g with
      | .sc (.bool b) => if b = want then arun P T E ops ({ dst := d, op := op, type := ty, pos := pos, after := after, guard := none } :: rest) K fr H else arun P T E ops rest K (fr.put d (.tuple [])) H
      | _ => False
    | none => False := rfl

/-! regions that draw -/

theorem drunL_val {o : Oper} (hg : o.guard = none) {v : AV} (h : dval P T ops.toList q true fr H o = some v) (hc : clsOf E ops.toList o = .val ∨ ∃ r, clsOf E ops.toList o = .load r) (hk : drunL P T E ops q rest K (fr.put o.dst v) H) :
    drunL P T E ops q (o :: rest) K fr H := by
  show dopAt P T E ops q true o (fun fr H => drunL P T E ops q rest K fr H) fr H
  unfold dopAt guardA
  rw [hg]
  exact dstep_of (dval_drel h) hk

@[simp] theorem drunL_move {x : Operand} : drunL P T E ops q ({ dst := d, op := .move x, type := ty, pos := pos, after := after, guard := none } :: rest) K fr H = drunL P T E ops q rest K (fr.put d (ev T fr x)) H := rfl
@[simp] theorem drunL_assign {x : Operand} : drunL P T E ops q ({ dst := d, op := .assign x, type := ty, pos := pos, after := after, guard := none } :: rest) K fr H = drunL P T E ops q rest K (fr.put d (ev T fr x)) H := rfl
@[simp] theorem drunL_alloc {t : TypeId} : drunL P T E ops q ({ dst := d, op := .alloc t, type := ty, pos := pos, after := after, guard := none } :: rest) K fr H =
    match zeroA P t with | some z => d.any E.contains = false ∧ allocA E d z (drunL P T E ops q rest K) fr H | none => False := by
  simp only [drunL, dopAt, guardA, dstep, true_implies]
  rfl
@[simp] theorem drunL_box {t : TypeId} {x : Operand} : drunL P T E ops q ({ dst := d, op := .box t x, type := ty, pos := pos, after := after, guard := none } :: rest) K fr H =
    (notTuple (ev T fr x) = true ∧ d.any E.contains = false ∧ allocA E d (ev T fr x).cells (drunL P T E ops q rest K) fr H) := by
  simp only [drunL, dopAt, guardA, dstep, true_implies]
@[simp] theorem drunL_load {t : TypeId} {x : Operand} : drunL P T E ops q ({ dst := d, op := .load t x, type := ty, pos := pos, after := after, guard := none } :: rest) K fr H =
    if rootChk ops.toList x (ev T fr x) && (q || !isG (ev T fr x)) then (match loadA P fr H t (ev T fr x) with | some v => drunL P T E ops q rest K (fr.put d v) H | none => False) else False := by
  simp only [drunL, dopAt, guardA, dstep, dval, Bool.not_true, Bool.false_or]
  split
  · rename_i v hv
    split at hv
    · rename_i hc
      rw [if_pos hc, hv]
    · cases hv
  · rename_i hv
    split at hv
    · rename_i hc
      rw [if_pos hc, hv]
    · rename_i hc
      rw [if_neg hc]
@[simp] theorem drunL_store {t : TypeId} {x y : Operand} : drunL P T E ops q ({ dst := none, op := .store t x y, type := ty, pos := pos, after := after, guard := none } :: rest) K fr H =
    (rootChk ops.toList x (ev T fr x) = true ∧ isL (ev T fr x) = true ∧ storeA P t (ev T fr x) (ev T fr y) (drunL P T E ops q rest K) fr H) := by
  simp only [drunL, dopAt, guardA, dstep, true_implies, true_and]
@[simp] theorem drunL_buildSlice {t n : Nat} {ps : Array (Nat × Operand)} : drunL P T E ops q ({ dst := d, op := .buildSlice t n ps, type := ty, pos := pos, after := after, guard := none } :: rest) K fr H =
    match buildSliceA P t n (ps.toList.map fun p => (p.1, ev T fr p.2)) with | some v => drunL P T E ops q rest K (fr.put d v) H | none => False := rfl
@[simp] theorem drunL_append {as : Array Operand} {ts : Array TypeId} : drunL P T E ops q ({ dst := d, op := .call { callee := .builtin .append, args := as, argTypes := ts }, type := ty, pos := pos, after := after, guard := none } :: rest) K fr H =
    appendA P T { callee := .builtin .append, args := as, argTypes := ts } d (drunL P T E ops q rest K) fr H := rfl
@[simp] theorem drunL_call {f : Operand} {as : Array Operand} {ts : Array TypeId} : drunL P T E ops q ({ dst := d, op := .call { callee := .value f, args := as, argTypes := ts }, type := ty, pos := pos, after := after, guard := none } :: rest) K fr H =
    CallAtD P T E ops q (ev T fr f) (as.toList.map fun x => (ev T fr x).norm) d rest K fr H := by
  simp only [drunL, dopAt, guardA, dstep, true_implies, CallAtD]
@[simp] theorem drunL_len {as : Array Operand} {ts : Array TypeId} : drunL P T E ops q ({ dst := d, op := .call { callee := .builtin .len, args := as, argTypes := ts }, type := ty, pos := pos, after := after, guard := none } :: rest) K fr H =
    match callA P T fr { callee := .builtin .len, args := as, argTypes := ts } with | some v => drunL P T E ops q rest K (fr.put d v) H | none => False := rfl
@[simp] theorem drunL_max {as : Array Operand} {ts : Array TypeId} : drunL P T E ops q ({ dst := d, op := .call { callee := .builtin .max, args := as, argTypes := ts }, type := ty, pos := pos, after := after, guard := none } :: rest) K fr H =
    match callA P T fr { callee := .builtin .max, args := as, argTypes := ts } with | some v => drunL P T E ops q rest K (fr.put d v) H | none => False := rfl
@[simp] theorem drunL_min {as : Array Operand} {ts : Array TypeId} : drunL P T E ops q ({ dst := d, op := .call { callee := .builtin .min, args := as, argTypes := ts }, type := ty, pos := pos, after := after, guard := none } :: rest) K fr H =
    match callA P T fr { callee := .builtin .min, args := as, argTypes := ts } with | some v => drunL P T E ops q rest K (fr.put d v) H | none => False := rfl
@[simp] theorem drunL_pick {c a b : Operand} : drunL P T E ops q ({ dst := d, op := .pick c a b, type := ty, pos := pos, after := after, guard := none } :: rest) K fr H =
    match aval P T fr { dst := d, op := .pick c a b, type := ty, pos := pos, after := after, guard := none } with | some v => drunL P T E ops q rest K (fr.put d v) H | none => False := rfl
@[simp] theorem drunL_build {t : TypeId} {ps : Array (Nat × Operand)} : drunL P T E ops q ({ dst := d, op := .build t ps, type := ty, pos := pos, after := after, guard := none } :: rest) K fr H =
    match buildA P t (ps.toList.map fun p => (p.1, ev T fr p.2)) with | some v => drunL P T E ops q rest K (fr.put d v) H | none => False := rfl
@[simp] theorem drunL_binOp {o : BinOp} {t u : TypeId} {x y : Operand} : drunL P T E ops q ({ dst := d, op := .binOp o t x y u, type := ty, pos := pos, after := after, guard := none } :: rest) K fr H =
    match binA P o t (ev T fr x) (ev T fr y) with | some v => drunL P T E ops q rest K (fr.put d v) H | none => False := rfl
@[simp] theorem drunL_unOp {o : UnOp} {t : TypeId} {x : Operand} : drunL P T E ops q ({ dst := d, op := .unOp o t x, type := ty, pos := pos, after := after, guard := none } :: rest) K fr H =
    match unA o (ev T fr x) with | some v => drunL P T E ops q rest K (fr.put d v) H | none => False := rfl
@[simp] theorem drunL_convert {s t : TypeId} {x : Operand} : drunL P T E ops q ({ dst := d, op := .convert s t x, type := ty, pos := pos, after := after, guard := none } :: rest) K fr H =
    match convA P s t (ev T fr x) with | some v => drunL P T E ops q rest K (fr.put d v) H | none => False := rfl
@[simp] theorem drunL_makeFunc {fn : Fn} {f c : Array Operand} : drunL P T E ops q ({ dst := d, op := .makeFunc fn f c, type := ty, pos := pos, after := after, guard := none } :: rest) K fr H =
    drunL P T E ops q rest K (fr.put d (.func fn (f.toList.map fun x => (ev T fr x).norm) (c.toList.map fun x => (ev T fr x).norm))) H := rfl
@[simp] theorem drunL_fieldAddr {t i : Nat} {x : Operand} : drunL P T E ops q ({ dst := d, op := .fieldAddr t x i, type := ty, pos := pos, after := after, guard := none } :: rest) K fr H =
    match fieldAddrA P t (ev T fr x) i with | some v => drunL P T E ops q rest K (fr.put d v) H | none => False := rfl
@[simp] theorem drunL_field {t i : Nat} {x : Operand} : drunL P T E ops q ({ dst := d, op := .field t x i, type := ty, pos := pos, after := after, guard := none } :: rest) K fr H =
    match fieldA P t (ev T fr x) i with | some v => drunL P T E ops q rest K (fr.put d v) H | none => False := rfl
@[simp] theorem drunL_indexAddr {t : TypeId} {x i : Operand} : drunL P T E ops q ({ dst := d, op := .indexAddr t x i, type := ty, pos := pos, after := after, guard := none } :: rest) K fr H =
    match indexAddrA P t (ev T fr x) (ev T fr i) with | some v => drunL P T E ops q rest K (fr.put d v) H | none => False := rfl
@[simp] theorem drunL_index {t : TypeId} {x i : Operand} : drunL P T E ops q ({ dst := d, op := .index t x i, type := ty, pos := pos, after := after, guard := none } :: rest) K fr H =
    match indexA P t (ev T fr x) (ev T fr i) with | some v => drunL P T E ops q rest K (fr.put d v) H | none => False := rfl
@[simp] theorem drunL_slice {t : TypeId} {x : Operand} {lo hi mx : Option Operand} : drunL P T E ops q ({ dst := d, op := .slice t x lo hi mx, type := ty, pos := pos, after := after, guard := none } :: rest) K fr H =
    match sliceA P t (ev T fr x) (lo.map (ev T fr)) (hi.map (ev T fr)) (mx.map (ev T fr)) with | some v => drunL P T E ops q rest K (fr.put d v) H | none => False := rfl
@[simp] theorem drunL_extract {i : Nat} {x : Operand} : drunL P T E ops q ({ dst := d, op := .extract x i, type := ty, pos := pos, after := after, guard := none } :: rest) K fr H =
    match aval P T fr { dst := d, op := .extract x i, type := ty, pos := pos, after := after, guard := none } with | some v => drunL P T E ops q rest K (fr.put d v) H | none => False := rfl
@[simp] theorem drunL_nilCheck {x : Operand} : drunL P T E ops q ({ dst := d, op := .nilCheck x, type := ty, pos := pos, after := after, guard := none } :: rest) K fr H =
    match aval P T fr { dst := d, op := .nilCheck x, type := ty, pos := pos, after := after, guard := none } with | some v => drunL P T E ops q rest K (fr.put d v) H | none => False := rfl
@[simp] theorem drunL_makeInterface {t : TypeId} {x : Operand} : drunL P T E ops q ({ dst := d, op := .makeInterface t x, type := ty, pos := pos, after := after, guard := none } :: rest) K fr H =
    match aval P T fr { dst := d, op := .makeInterface t x, type := ty, pos := pos, after := after, guard := none } with | some v => drunL P T E ops q rest K (fr.put d v) H | none => False := rfl

/-- An operation under a guard. -/
@[simp] theorem drunL_guard {op : Op} {j : Nat} {want : Bool} : drunL P T E ops q ({ dst := d, op := op, type := ty, pos := pos, after := after, guard := some (j, want) } :: rest) K fr H =
    match (ops[j]?).bind (·.dst) with
    | some g => match fr.env g with
      | .sc (.bool b) => if b = want then drunL P T E ops q ({ dst := d, op := op, type := ty, pos := pos, after := after, guard := none } :: rest) K fr H else drunL P T E ops q rest K (fr.put d (.tuple [])) H
      | _ => False
    | none => False := by
  simp only [drunL, dopAt, guardA]
  cases hd : (ops[j]?).bind (·.dst) with
  | none => rfl
  | some g =>
    simp only
    cases he : fr.env g with
    | sc v =>
      cases v with
      | bool b =>
        simp only
        by_cases hw : b = want
        · subst hw
          simp only [beq_self_eq_true, if_true]
          rfl
        · rw [if_neg hw]
          have : (b == want) = false := by simpa using hw
          rw [this]
      | _ => rfl
    | _ => rfl

end

/-! ### frames -/

@[simp] theorem Fr.put_some (fr : Fr) (d : Nat) (x : AV) : fr.put (some d) x = { fr with env := upd fr.env d x } := rfl
@[simp] theorem Fr.put_none (fr : Fr) (x : AV) : fr.put none x = fr := rfl
@[simp] theorem upd_app {α : Type} (f : Nat → α) (i : Nat) (x : α) (j : Nat) : upd f i x j = if j = i then x else f j := rfl

@[simp] theorem cells_undef  : AV.cells (.undef : AV) = [(.undef : AV)] := rfl
@[simp] theorem notTuple_undef  : notTuple (.undef : AV) = true := rfl
@[simp] theorem ncell_undef  : AV.ncell (.undef : AV) = (.undef : AV) := rfl
@[simp] theorem norm_undef  : AV.norm (.undef : AV) = (.undef : AV) := rfl
@[simp] theorem fits_undef (P : Program) (ty : TypeId)  : fitsB P ty (.undef : AV) = match layOf P ty with | some (false, _) => true | _ => false := by
  unfold fitsB
  cases layOf P ty with
  | none => rfl
  | some p => obtain ⟨b, k⟩ := p; cases b <;> rfl
@[simp] theorem cells_sc (v : Value) : AV.cells (.sc v : AV) = [(.sc v : AV)] := rfl
@[simp] theorem notTuple_sc (v : Value) : notTuple (.sc v : AV) = true := rfl
@[simp] theorem ncell_sc (v : Value) : AV.ncell (.sc v : AV) = (.sc v : AV) := rfl
@[simp] theorem norm_sc (v : Value) : AV.norm (.sc v : AV) = (.sc v : AV) := rfl
@[simp] theorem fits_sc (P : Program) (ty : TypeId) (v : Value) : fitsB P ty (.sc v : AV) = match layOf P ty with | some (false, _) => true | _ => false := by
  unfold fitsB
  cases layOf P ty with
  | none => rfl
  | some p => obtain ⟨b, k⟩ := p; cases b <;> rfl
@[simp] theorem cells_rptr (x : AV) : AV.cells (.rptr x : AV) = [(.rptr x : AV)] := rfl
@[simp] theorem notTuple_rptr (x : AV) : notTuple (.rptr x : AV) = true := rfl
@[simp] theorem ncell_rptr (x : AV) : AV.ncell (.rptr x : AV) = (.rptr x : AV) := rfl
@[simp] theorem norm_rptr (x : AV) : AV.norm (.rptr x : AV) = (.rptr x : AV) := rfl
@[simp] theorem fits_rptr (P : Program) (ty : TypeId) (x : AV) : fitsB P ty (.rptr x : AV) = match layOf P ty with | some (false, _) => true | _ => false := by
  unfold fitsB
  cases layOf P ty with
  | none => rfl
  | some p => obtain ⟨b, k⟩ := p; cases b <;> rfl
@[simp] theorem cells_lptr (b g o : Nat) : AV.cells (.lptr b g o : AV) = [(.lptr b g o : AV)] := rfl
@[simp] theorem notTuple_lptr (b g o : Nat) : notTuple (.lptr b g o : AV) = true := rfl
@[simp] theorem ncell_lptr (b g o : Nat) : AV.ncell (.lptr b g o : AV) = .undef := rfl
@[simp] theorem norm_lptr (b g o : Nat) : AV.norm (.lptr b g o : AV) = .undef := rfl
@[simp] theorem fits_lptr (P : Program) (ty : TypeId) (b g o : Nat) : fitsB P ty (.lptr b g o : AV) = match layOf P ty with | some (false, _) => true | _ => false := by
  unfold fitsB
  cases layOf P ty with
  | none => rfl
  | some p => obtain ⟨b, k⟩ := p; cases b <;> rfl
@[simp] theorem cells_gptr (o f : Nat) : AV.cells (.gptr o f : AV) = [(.gptr o f : AV)] := rfl
@[simp] theorem notTuple_gptr (o f : Nat) : notTuple (.gptr o f : AV) = true := rfl
@[simp] theorem ncell_gptr (o f : Nat) : AV.ncell (.gptr o f : AV) = (.gptr o f : AV) := rfl
@[simp] theorem norm_gptr (o f : Nat) : AV.norm (.gptr o f : AV) = (.gptr o f : AV) := rfl
@[simp] theorem fits_gptr (P : Program) (ty : TypeId) (o f : Nat) : fitsB P ty (.gptr o f : AV) = match layOf P ty with | some (false, _) => true | _ => false := by
  unfold fitsB
  cases layOf P ty with
  | none => rfl
  | some p => obtain ⟨b, k⟩ := p; cases b <;> rfl
@[simp] theorem cells_slice (t : Tag) (l : List AV) : AV.cells (.slice t l : AV) = [(.slice t l : AV)] := rfl
@[simp] theorem notTuple_slice (t : Tag) (l : List AV) : notTuple (.slice t l : AV) = true := rfl
@[simp] theorem ncell_slice (t : Tag) (l : List AV) : AV.ncell (.slice t l : AV) = .slice .frz l := rfl
@[simp] theorem norm_slice (t : Tag) (l : List AV) : AV.norm (.slice t l : AV) = .slice .frz l := rfl
@[simp] theorem fits_slice (P : Program) (ty : TypeId) (t : Tag) (l : List AV) : fitsB P ty (.slice t l : AV) = match layOf P ty with | some (false, _) => true | _ => false := by
  unfold fitsB
  cases layOf P ty with
  | none => rfl
  | some p => obtain ⟨b, k⟩ := p; cases b <;> rfl
@[simp] theorem cells_agg (cs : List AV) : AV.cells (.agg cs : AV) = cs := rfl
@[simp] theorem notTuple_agg (cs : List AV) : notTuple (.agg cs : AV) = true := rfl
@[simp] theorem ncell_agg (cs : List AV) : AV.ncell (.agg cs : AV) = (.agg cs : AV) := rfl
@[simp] theorem norm_agg (cs : List AV) : AV.norm (.agg cs : AV) = .agg (cs.map AV.ncell) := rfl
@[simp] theorem fits_agg (P : Program) (ty : TypeId) (cs : List AV) : fitsB P ty (.agg cs) = match layOf P ty with | some (true, n) => cs.length == n | _ => false := by
  unfold fitsB
  cases layOf P ty with
  | none => rfl
  | some p => obtain ⟨b, k⟩ := p; cases b <;> rfl
@[simp] theorem cells_tuple (cs : List AV) : AV.cells (.tuple cs : AV) = [(.tuple cs : AV)] := rfl
@[simp] theorem notTuple_tuple (cs : List AV) : notTuple (.tuple cs : AV) = false := rfl
@[simp] theorem ncell_tuple (cs : List AV) : AV.ncell (.tuple cs : AV) = (.tuple cs : AV) := rfl
@[simp] theorem norm_tuple (cs : List AV) : AV.norm (.tuple cs : AV) = (.tuple cs : AV) := rfl
@[simp] theorem cells_func (f : Fn) (a c : List AV) : AV.cells (.func f a c : AV) = [(.func f a c : AV)] := rfl
@[simp] theorem notTuple_func (f : Fn) (a c : List AV) : notTuple (.func f a c : AV) = true := rfl
@[simp] theorem ncell_func (f : Fn) (a c : List AV) : AV.ncell (.func f a c : AV) = (.func f a c : AV) := rfl
@[simp] theorem norm_func (f : Fn) (a c : List AV) : AV.norm (.func f a c : AV) = (.func f a c : AV) := rfl
@[simp] theorem fits_func (P : Program) (ty : TypeId) (f : Fn) (a c : List AV) : fitsB P ty (.func f a c : AV) = match layOf P ty with | some (false, _) => true | _ => false := by
  unfold fitsB
  cases layOf P ty with
  | none => rfl
  | some p => obtain ⟨b, k⟩ := p; cases b <;> rfl
@[simp] theorem cells_iface (t : TypeId) (x : AV) : AV.cells (.iface t x : AV) = [(.iface t x : AV)] := rfl
@[simp] theorem notTuple_iface (t : TypeId) (x : AV) : notTuple (.iface t x : AV) = true := rfl
@[simp] theorem ncell_iface (t : TypeId) (x : AV) : AV.ncell (.iface t x : AV) = (.iface t x : AV) := rfl
@[simp] theorem norm_iface (t : TypeId) (x : AV) : AV.norm (.iface t x : AV) = (.iface t x : AV) := rfl
@[simp] theorem fits_iface (P : Program) (ty : TypeId) (t : TypeId) (x : AV) : fitsB P ty (.iface t x : AV) = match layOf P ty with | some (false, _) => true | _ => false := by
  unfold fitsB
  cases layOf P ty with
  | none => rfl
  | some p => obtain ⟨b, k⟩ := p; cases b <;> rfl

/-- Whether a slice is the frame's own, by what the frame keeps of it. -/
def canGrowT (tab : Nat → Option Nat) (tgen : Nat → Nat) (tag : Tag) (l : List AV) : Bool :=
  match tag with
  | .frz => false
  | .full => true
  | .loc k g => g == tgen k && tab k == some l.length
@[simp] theorem canGrow_eq (fr : Fr) (tag : Tag) (l : List AV) : canGrow fr tag l = canGrowT fr.tab fr.tgen tag l := rfl
@[simp] theorem canGrowT_full (tab : Nat → Option Nat) (tgen : Nat → Nat) (l : List AV) : canGrowT tab tgen .full l = true := rfl
@[simp] theorem canGrowT_frz (tab : Nat → Option Nat) (tgen : Nat → Nat) (l : List AV) : canGrowT tab tgen .frz l = false := rfl
@[simp] theorem canGrowT_loc (tab : Nat → Option Nat) (tgen : Nat → Nat) (k g : Nat) (l : List AV) : canGrowT tab tgen (.loc k g) l = (g == tgen k && tab k == some l.length) := rfl
@[simp] theorem headOk_nil (sz : Nat) : headOk sz [] = true := rfl
@[simp] theorem headOk_cons (sz : Nat) (x : AV) (l : List AV) : headOk sz (x :: l) = (x.cells.length == sz) := rfl
theorem headOk_of {sz : Nat} {l : List AV} (h : ∀ x ∈ l, x.cells.length = sz) : headOk sz l = true := by
  cases l with
  | nil => rfl
  | cons x l => simp [h x (by simp)]
theorem headOk_map {α : Type} {f : α → AV} {sz : Nat} (h : ∀ x, (f x).cells.length = sz) (l : List α) : headOk sz (l.map f) = true := headOk_of (by intro x hx; obtain ⟨y, _, rfl⟩ := List.mem_map.1 hx; exact h y)

attribute [simp] ev ofValue ofCell isSc allocA storeA loadA readAt fieldAddrA fieldA indexAddrA indexA sliceA bnd buildA fillA buildSliceA setCells binA intBin strBin isPtr unA convA lenA max2A min2A foldA callA aval
  appendA grown rootChk rootOp rootOf isG isL fr0 resA oneOrTuple thenQ

end Go.Abs
