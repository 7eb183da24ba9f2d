/-
  The abstract layer, part L: regions that draw their order. Operations that do not wait for each other may be exchanged.
-/
import Derived.Test.YtgcimcppginchaaGreatDoorAbsJ
set_option linter.unusedSimpArgs false
set_option linter.unusedVariables false
namespace Go.Abs
open Go

/-! ### what an operation is, by its text -/

/-- The slot of the box that an address leads to, as far as the region's text tells. -/
def rootOf (ops : List Oper) : Nat → Nat → Option Nat
  | 0, _ => none
  | f + 1, t =>
    match ops.find? (fun o => o.dst == some t) with
    | none => some t
    | some o => match o.op with
      | .fieldAddr _ (.tmp y) _ => rootOf ops f y
      | .indexAddr _ (.tmp y) _ => rootOf ops f y
      | .nilCheck (.tmp y) => rootOf ops f y
      | .move (.tmp y) => rootOf ops f y
      | .alloc _ => some t
      | .box _ _ => some t
      | _ => none

def rootOp (ops : List Oper) : Operand → Option Nat
  | .tmp t => rootOf ops (ops.length + 1) t
  | _ => none

/-- A pointer to a box of the frame leads to the box that the text tells of. -/
def rootChk (ops : List Oper) (x : Operand) (v : AV) : Bool :=
  match v with
  | .lptr b _ _ => rootOp ops x == some b
  | _ => true

def isG : AV → Bool
  | .gptr _ _ => true
  | _ => false

def isL : AV → Bool
  | .lptr _ _ _ => true
  | _ => false

/-- The kinds of operations. -/
inductive Cls where
  | val
  | load (r : Option Nat)
  | alloc (d : Option Nat)
  | eff
  | app
  | sto (r : Option Nat)
  deriving DecidableEq

def clsOf (E : List Nat) (ops : List Oper) (o : Oper) : Cls :=
  match o.op with
  | .load _ x => .load (rootOp ops x)
  | .lookup _ _ _ _ => .load none
  | .alloc _ => match o.dst with | some d => if E.contains d then .eff else .alloc (some d) | none => .eff
  | .box _ _ => match o.dst with | some d => if E.contains d then .eff else .alloc (some d) | none => .eff
  | .store _ x _ => .sto (rootOp ops x)
  | .call c => match c.callee with | .builtin .append => .app | .builtin _ => .val | _ => .eff
  | _ => .val

/-- Operations of two kinds that may be exchanged (loads beside calls, stores beside loads: under what the step asks besides). -/
def clsOk : Cls → Cls → Bool
  | .val, _ => true
  | _, .val => true
  | .load _, .load _ => true
  | .load r, .alloc d => r != d
  | .alloc d, .load r => r != d
  | .load _, .app => true
  | .app, .load _ => true
  | .load _, .eff => true
  | .eff, .load _ => true
  | .load r, .sto r' => r != r'
  | .sto r', .load r => r != r'
  | .alloc _, .alloc _ => true
  | .alloc _, .app => true
  | .app, .alloc _ => true
  | .alloc _, .eff => true
  | .eff, .alloc _ => true
  | .app, .eff => true
  | .eff, .app => true
  | _, _ => false

/-! ### a step in such a region -/

/-- What calls in such a region leave: all objects (all), or some (st). -/
structure Qt where
  all : Bool
  st : Nat → Bool
  /-- The slot of the address by which an object is written, where stores are exchanged. -/
  cl : Nat → Nat := fun _ => 0
instance : Coe Bool Qt := ⟨fun b => ⟨b, fun _ => false, fun _ => 0⟩⟩
def Qt.ok (q : Qt) : AV → Bool
  | .gptr o _ => q.all || q.st o
  | _ => true
/-- What a call leaves, as told. -/
def QK (q : Qt) (H H' : Heap) : Prop := (q.all = true → H' = H) ∧ ∀ o, q.st o = true → H'[o]? = H[o]?
@[simp] theorem Qt.ok_gptr (q : Qt) (o f : Nat) : q.ok (.gptr o f) = (q.all || q.st o) := rfl
@[simp] theorem Qt.ok_lptr (q : Qt) (b g f : Nat) : q.ok (.lptr b g f) = true := rfl
@[simp] theorem Qt.ok_rptr (q : Qt) (x : AV) : q.ok (.rptr x) = true := rfl
@[simp] theorem QK_mk (a : Bool) (st : Nat → Bool) (cl : Nat → Nat) (H H' : Heap) : QK ⟨a, st, cl⟩ H H' = ((a = true → H' = H) ∧ ∀ o, st o = true → H'[o]? = H[o]?) := rfl
theorem QK.refl {q : Qt} {H : Heap} : QK q H H := ⟨fun _ => rfl, fun _ _ => rfl⟩

/-- What is asked besides: 'soft': the load has calls beside it (the store loads, the call loads); 'q': the calls change nothing. -/
def dval (P : Program) (T : Tabs) (E : List Nat) (ops : List Oper) (q : Qt) (soft : Bool) (fr : Fr) (H : Heap) (o : Oper) : Option AV :=
  match o.op with
  | .load t x => if rootChk ops x (ev T fr x) && (!soft || q.ok (ev T fr x)) then loadA P fr H t (ev T fr x) else none
  | .lookup t x i ok => if !soft || q.all then lookupA P H t (ev T fr x) (ev T fr i) ok else none
  | .buildSlice t n ps => if o.dst.any E.contains = true then none else buildSliceA P t n (ps.toList.map fun p => (p.1, ev T fr p.2))
  | .makeSlice t l c => makeSliceA P t (ev T fr l) (ev T fr c)
  | .alloc _ => none
  | .box _ _ => none
  | .store _ _ _ => none
  | .call c => match c.callee with
    | .builtin .append => none
    | .builtin _ => callA P T fr c
    | _ => none
  | _ => aval P T fr o

def AInvokeD (P : Program) (T : Tabs) (fv : AV) (args : List AV) (H : Heap) (r : AV) (H' : Heap) : Prop := AInvoke P T fv args H fun r' H'' => r' = r ∧ H'' = H'

def dstep (P : Program) (T : Tabs) (E : List Nat) (ops : List Oper) (q : Qt) (soft : Bool) (o : Oper) (K : Fr → Heap → Prop) (fr : Fr) (H : Heap) : Prop :=
  match o.op with
  | .alloc t => match zeroA P t with
    | some z => (soft = true → o.dst.any E.contains = false) ∧ allocA E o.dst z K fr H
    | none => False
  | .box _ x => notTuple (ev T fr x) = true ∧ (soft = true → o.dst.any E.contains = false) ∧ allocA E o.dst (ev T fr x).cells K fr H
  | .store t x y => o.dst = none ∧ rootChk ops x (ev T fr x) = true ∧ (soft = true → isL (ev T fr x) = true) ∧ storeA P t (ev T fr x) (ev T fr y) K fr H
  | .call c => match c.callee with
    | .builtin .append => appendA P T c o.dst K fr H
    | .builtin _ => match dval P T E ops q soft fr H o with
      | some v => K (fr.put o.dst v) H
      | none => False
    | .value f => ∃ r H', AInvokeD P T (ev T fr f) (c.args.toList.map fun x => (ev T fr x).norm) H r H' ∧ (soft = true → QK q H H') ∧ K (fr.put o.dst r) H'
    | .invoke _ _ => False
  | _ => match dval P T E ops q soft fr H o with
    | some v => K (fr.put o.dst v) H
    | none => False

section
variable {P : Program} {T : Tabs} {E : List Nat} {ops : List Oper} {q : Qt} {soft : Bool} {o : Oper} {K K' : Fr → Heap → Prop} {fr : Fr} {H : Heap}

theorem allocA_mono {dst : Option Nat} {cs : List AV} (hk : ∀ fr H, K fr H → K' fr H) (h : allocA E dst cs K fr H) : allocA E dst cs K' fr H := by
  unfold allocA at *
  split at h
  · split at h
    · rename_i hc; rw [if_pos hc]; exact hk _ _ h
    · rename_i hc; rw [if_neg hc]; exact hk _ _ h
  · exact h.elim

theorem storeA_mono {t : TypeId} {x v : AV} (hk : ∀ fr H, K fr H → K' fr H) (h : storeA P t x v K fr H) : storeA P t x v K' fr H := by
  unfold storeA at *
  split at h
  · exact h.elim
  · split at h
    · split at h
      · exact ⟨h.1, h.2.1, h.2.2.1, h.2.2.2.1, hk _ _ h.2.2.2.2⟩
      · exact h.elim
    · split at h
      · exact ⟨h.1, h.2.1, h.2.2.1, h.2.2.2.1, hk _ _ h.2.2.2.2⟩
      · exact h.elim
    · exact h.elim

theorem appendA_mono {c : Call} {dst : Option Nat} (hk : ∀ fr H, K fr H → K' fr H) (h : appendA P T c dst K fr H) : appendA P T c dst K' fr H := by
  unfold appendA at *
  split at h
  · split at h
    · obtain ⟨h1, h2, h3, h4, h5⟩ := h
      refine ⟨h1, h2, h3, h4, ?_⟩
      split at h5
      · rename_i hc; rw [if_pos hc]; exact hk _ _ h5
      · rename_i hc; rw [if_neg hc]; exact ⟨h5.1, hk _ _ h5.2⟩
    · exact h.elim
  · exact h.elim

/-- Steps are deterministic: 'behind it K holds' says that it comes to a frame and a memory of which K holds. -/
def DRel (P : Program) (T : Tabs) (E : List Nat) (ops : List Oper) (q : Qt) (soft : Bool) (o : Oper) (fr : Fr) (H : Heap) (fr' : Fr) (H' : Heap) : Prop := dstep P T E ops q soft o (fun f h => f = fr' ∧ h = H') fr H

theorem allocA_out {dst : Option Nat} {cs : List AV} (h : allocA E dst cs K fr H) : ∃ fr' H', allocA E dst cs (fun f h => f = fr' ∧ h = H') fr H ∧ K fr' H' := by
  unfold allocA at *
  split at h
  · split at h
    · rename_i hc; exact ⟨_, _, by rw [if_pos hc]; exact ⟨rfl, rfl⟩, h⟩
    · rename_i hc; exact ⟨_, _, by rw [if_neg hc]; exact ⟨rfl, rfl⟩, h⟩
  · exact h.elim

theorem storeA_out {t : TypeId} {x v : AV} (h : storeA P t x v K fr H) : ∃ fr' H', storeA P t x v (fun f h => f = fr' ∧ h = H') fr H ∧ K fr' H' := by
  unfold storeA at *
  split at h
  · exact h.elim
  · split at h
    · split at h
      · exact ⟨_, _, ⟨h.1, h.2.1, h.2.2.1, h.2.2.2.1, rfl, rfl⟩, h.2.2.2.2⟩
      · exact h.elim
    · split at h
      · exact ⟨_, _, ⟨h.1, h.2.1, h.2.2.1, h.2.2.2.1, rfl, rfl⟩, h.2.2.2.2⟩
      · exact h.elim
    · exact h.elim

theorem appendA_out {c : Call} {dst : Option Nat} (h : appendA P T c dst K fr H) : ∃ fr' H', appendA P T c dst (fun f h => f = fr' ∧ h = H') fr H ∧ K fr' H' := by
  unfold appendA at *
  split at h
  · split at h
    · obtain ⟨h1, h2, h3, h4, h5⟩ := h
      split at h5
      · rename_i hc; exact ⟨_, _, ⟨h1, h2, h3, h4, by rw [if_pos hc]; exact ⟨rfl, rfl⟩⟩, h5⟩
      · rename_i hc; exact ⟨_, _, ⟨h1, h2, h3, h4, by rw [if_neg hc]; exact ⟨h5.1, rfl, rfl⟩⟩, h5.2⟩
    · exact h.elim
  · exact h.elim

theorem dstep_out (h : dstep P T E ops q soft o K fr H) : ∃ fr' H', DRel P T E ops q soft o fr H fr' H' ∧ K fr' H' := by
  unfold DRel dstep at *
  split at h
  · split at h
    · obtain ⟨fr', H', h1, h2⟩ := allocA_out h.2
      exact ⟨fr', H', ⟨h.1, h1⟩, h2⟩
    · exact h.elim
  · obtain ⟨fr', H', h1, h2⟩ := allocA_out h.2.2
    exact ⟨fr', H', ⟨h.1, h.2.1, h1⟩, h2⟩
  · obtain ⟨fr', H', h1, h2⟩ := storeA_out h.2.2.2
    exact ⟨fr', H', ⟨h.1, h.2.1, h.2.2.1, h1⟩, h2⟩
  · split at h
    · exact appendA_out h
    · split at h
      · exact ⟨_, _, ⟨rfl, rfl⟩, h⟩
      · exact h.elim
    · obtain ⟨r, H', h1, h2, h3⟩ := h
      exact ⟨_, _, ⟨r, H', h1, h2, rfl, rfl⟩, h3⟩
    · exact h.elim
  · split at h
    · exact ⟨_, _, ⟨rfl, rfl⟩, h⟩
    · exact h.elim

theorem dstep_mono (hk : ∀ fr H, K fr H → K' fr H) (h : dstep P T E ops q soft o K fr H) : dstep P T E ops q soft o K' fr H := by
  unfold dstep at *
  split at h
  · split at h
    · exact ⟨h.1, allocA_mono hk h.2⟩
    · exact h.elim
  · exact ⟨h.1, h.2.1, allocA_mono hk h.2.2⟩
  · exact ⟨h.1, h.2.1, h.2.2.1, storeA_mono hk h.2.2.2⟩
  · split at h
    · exact appendA_mono hk h
    · split at h
      · exact hk _ _ h
      · exact h.elim
    · obtain ⟨r, H', h1, h2, h3⟩ := h
      exact ⟨r, H', h1, h2, hk _ _ h3⟩
    · exact h.elim
  · split at h
    · exact hk _ _ h
    · exact h.elim

theorem dstep_of {fr' : Fr} {H' : Heap} (h : DRel P T E ops q soft o fr H fr' H') (hk : K fr' H') : dstep P T E ops q soft o K fr H :=
  dstep_mono (fun f h ⟨e1, e2⟩ => by subst e1; subst e2; exact hk) h

/-- Such a step is a step. -/
theorem dstep_astep (h : dstep P T E ops q soft o K fr H) : astep P T E o K fr H := by
  obtain ⟨dst, op, type, pos, after, guard⟩ := o
  cases op with
  | alloc t =>
    simp only [dstep, astep] at h ⊢
    split at h
    · rename_i z hz
      rw [hz]
      exact h.2
    · exact h.elim
  | box t x =>
    simp only [dstep, astep] at h ⊢
    exact ⟨h.1, h.2.2⟩
  | store t x y =>
    simp only [dstep, astep] at h ⊢
    exact ⟨h.1, h.2.2.2⟩
  | load t x =>
    simp only [dstep, astep, dval] at h ⊢
    split at h
    · rename_i v hv
      split at hv
      · rw [hv]; exact h
      · cases hv
    · exact h.elim
  | buildSlice t n ps =>
    simp only [dstep, astep, dval] at h ⊢
    split at h
    · rename_i v hv
      split at hv
      · cases hv
      · rename_i hc
        rw [hv]
        simp only [sliceK]
        rw [if_neg hc]
        exact h
    · exact h.elim
  | lookup t x i ok =>
    simp only [dstep, astep, dval] at h ⊢
    split at h
    · rename_i v hv
      split at hv
      · rw [hv]; exact h
      · cases hv
    · exact h.elim
  | convert s d x =>
    simp only [dstep, astep, dval, aval, convK] at h ⊢
    split at h
    · rename_i v hv
      rw [hv]
      exact h
    · exact h.elim
  | call c =>
    obtain ⟨callee, args, tys⟩ := c
    cases callee with
    | builtin b => cases b <;> simp only [dstep, astep, dval] at h ⊢ <;> first | exact .inl (.inl h) | exact h
    | value f =>
      simp only [dstep, astep] at h ⊢
      obtain ⟨r, H', h1, h2, h3⟩ := h
      unfold AInvokeD AInvoke at h1
      unfold AInvoke
      split at h1
      · exact h1.mono fun r' H'' ⟨e1, e2⟩ => by subst e1; subst e2; exact h3
      · exact h1
    | invoke r m => simp only [dstep] at h
  | _ =>
    simp only [dstep, astep, dval] at h ⊢
    first
      | exact h
      | (simp only [aval] at h)

end

/-! ### what a step looks at -/

section
variable {P : Program} {T : Tabs} {fr fr' : Fr}

theorem ev_congr {x : Operand} (h : ∀ t, x = .tmp t → fr.env t = fr'.env t) : ev T fr x = ev T fr' x := by
  cases x with
  | tmp t => exact h t rfl
  | _ => rfl

theorem evs_congr {xs : List Operand} (h : ∀ x ∈ xs, ev T fr x = ev T fr' x) : xs.map (ev T fr) = xs.map (ev T fr') := List.map_congr_left h

theorem callA_congr {c : Call} (h : ∀ x ∈ c.args.toList, ev T fr x = ev T fr' x) : callA P T fr c = callA P T fr' c := by
  unfold callA
  split
  · split
    · rename_i t x h1 h2
      rw [h x (Array.mem_toList_iff.2 (Array.mem_of_getElem? h2))]
    · rfl
  · split
    · rename_i x l hl
      rw [hl] at h
      rw [h x (by simp), evs_congr fun y hy => h y (by simp [hy])]
    · rfl
  · split
    · rename_i x l hl
      rw [hl] at h
      rw [h x (by simp), evs_congr fun y hy => h y (by simp [hy])]
    · rfl
  · rfl

theorem aval_congr {o : Oper} (h : ∀ x ∈ o.op.operands, ev T fr x = ev T fr' x) : aval P T fr o = aval P T fr' o := by
  obtain ⟨dst, op, type, pos, after, guard⟩ := o
  have opt : ∀ (x : Option Operand), (∀ y, x = some y → ev T fr y = ev T fr' y) → x.map (ev T fr) = x.map (ev T fr') := by
    intro x hx
    cases x with
    | none => rfl
    | some y => simp [hx y rfl]
  cases op <;> simp only [Op.operands] at h <;> simp only [aval]
  case move x => rw [h x (by simp)]
  case assign x => rw [h x (by simp)]
  case pick c x y => rw [h c (by simp), h x (by simp), h y (by simp)]
  case build t ps =>
    have : (ps.toList.map fun p => (p.1, ev T fr p.2)) = ps.toList.map fun p => (p.1, ev T fr' p.2) :=
      List.map_congr_left fun p hp => by rw [h p.2 (by simp; exact ⟨p.1, by simpa using hp⟩)]
    rw [this]
  case binOp op t x y t' => rw [h x (by simp), h y (by simp)]
  case unOp op t x => rw [h x (by simp)]
  case convert s d x => rw [h x (by simp)]
  case makeFunc fn f c =>
    have e1 : (f.toList.map fun x => (ev T fr x).norm) = f.toList.map fun x => (ev T fr' x).norm := List.map_congr_left fun x hx => by rw [h x (by simp [Array.mem_toList_iff.1 hx])]
    have e2 : (c.toList.map fun x => (ev T fr x).norm) = c.toList.map fun x => (ev T fr' x).norm := List.map_congr_left fun x hx => by rw [h x (by simp [Array.mem_toList_iff.1 hx])]
    rw [e1, e2]
  case fieldAddr t x i => rw [h x (by simp)]
  case field t x i => rw [h x (by simp)]
  case indexAddr t x i => rw [h x (by simp), h i (by simp)]
  case index t x i => rw [h x (by simp), h i (by simp)]
  case slice t x lo hi mx => rw [h x (by simp), opt lo fun y hy => h y (by simp [hy]), opt hi fun y hy => h y (by simp [hy]), opt mx fun y hy => h y (by simp [hy])]
  case extract x i => rw [h x (by simp)]
  case nilCheck x => rw [h x (by simp)]
  case makeInterface t x => rw [h x (by simp)]
  case typeAssert x xt t ok => cases ok <;> simp only [h x (by simp)]
  case call c => exact callA_congr fun x hx => h x (by simp [Call.operands, Array.mem_toList_iff.1 hx])

/-- A load looks at the box that it is told of, or at the shared memory. -/
theorem loadA_congr {H H' : Heap} {t : TypeId} {x : AV} (h1 : ∀ b g off, x = .lptr b g off → fr.box b = fr'.box b ∧ fr.gen b = fr'.gen b) (h2 : ∀ o off, x = .gptr o off → H[o]? = H'[o]?) : loadA P fr H t x = loadA P fr' H' t x := by
  cases x with
  | lptr b g off =>
    obtain ⟨e1, e2⟩ := h1 b g off rfl
    simp only [loadA, e1, e2]
  | gptr o off => simp only [loadA, h2 o off rfl]
  | _ => rfl

theorem dval_congr {E : List Nat} {ops : List Oper} {q : Qt} {soft : Bool} {H H' : Heap} {o : Oper} (h : ∀ x ∈ o.op.operands, ev T fr x = ev T fr' x)
    (hl : ∀ t x, o.op = .load t x → (∀ b g off, ev T fr x = .lptr b g off → fr.box b = fr'.box b ∧ fr.gen b = fr'.gen b) ∧ (∀ o off, ev T fr x = .gptr o off → H[o]? = H'[o]?)) (hk : ∀ t x i ok, o.op = .lookup t x i ok → H = H') :
    dval P T E ops q soft fr H o = dval P T E ops q soft fr' H' o := by
  obtain ⟨dst, op, type, pos, after, guard⟩ := o
  cases op with
  | load t x =>
    have hx := h x (by simp [Op.operands])
    obtain ⟨h1, h2⟩ := hl t x rfl
    simp only [dval]
    rw [loadA_congr h1 h2, hx]
  | lookup t x i ok =>
    simp only [dval]
    rw [hk t x i ok rfl, h x (by simp [Op.operands]), h i (by simp [Op.operands])]
  | buildSlice t n ps =>
    simp only [dval]
    have : (ps.toList.map fun p => (p.1, ev T fr p.2)) = ps.toList.map fun p => (p.1, ev T fr' p.2) :=
      List.map_congr_left fun p hp => by rw [h p.2 (by simp [Op.operands]; exact ⟨p.1, by simpa using hp⟩)]
    rw [this]
  | makeSlice t l c =>
    simp only [dval]
    rw [h l (by simp [Op.operands]), h c (by simp [Op.operands])]
  | call c =>
    obtain ⟨callee, args, tys⟩ := c
    have hc : callA P T fr { callee := callee, args := args, argTypes := tys } = callA P T fr' { callee := callee, args := args, argTypes := tys } :=
      callA_congr fun x hx => h x (by simp [Op.operands, Call.operands, Array.mem_toList_iff.1 hx])
    cases callee with
    | builtin b => cases b <;> simp only [dval] <;> first | rfl | exact hc
    | _ => rfl
  | alloc t => rfl
  | box t x => rfl
  | store t x y => rfl
  | _ => exact aval_congr (P := P) h

end

/-! ### steps and slots that they do not touch -/

theorem put_put_comm (fr : Fr) {d d' : Nat} (h : d ≠ d') (x y : AV) : (fr.put (some d) x).put (some d') y = (fr.put (some d') y).put (some d) x := by
  simp only [Fr.put]
  congr 1
  funext j
  simp only [upd]
  by_cases h1 : j = d'
  · subst h1
    rw [if_pos rfl, if_neg (fun e => h e.symm), if_pos rfl]
  · rw [if_neg h1]
    by_cases h2 : j = d
    · rw [if_pos h2, if_pos h2]
    · rw [if_neg h2, if_neg h2, if_neg h1]

section
variable {P : Program} {T : Tabs} {E : List Nat} {ops : List Oper} {opsA : Array Oper} {q : Qt} {soft : Bool} {o : Oper} {K : Fr → Heap → Prop} {fr : Fr} {H : Heap}

/-- The step of a frame with another value in a slot that it does not look at. -/
theorem dstep_put {d : Nat} {v : AV} (hd : d ∉ o.looksAt opsA) (hne : o.dst ≠ some d) (h : dstep P T E ops q soft o K (fr.put (some d) v) H) :
    dstep P T E ops q soft o (fun f h => K (f.put (some d) v) h) fr H := by
  have hev : ∀ x ∈ o.op.operands, ev T (fr.put (some d) v) x = ev T fr x := by
    intro x hx
    refine ev_congr fun t ht => ?_
    subst ht
    rw [Fr.put_env, if_neg]
    rintro he
    injection he with he
    subst he
    exact hd (List.mem_append_left _ (List.mem_filterMap.2 ⟨.tmp d, by simpa using hx, rfl⟩))
  have hdv : dval P T E ops q soft (fr.put (some d) v) H o = dval P T E ops q soft fr H o := dval_congr hev (fun t x _ => ⟨fun b g off _ => ⟨rfl, rfl⟩, fun _ _ _ => rfl⟩) fun _ _ _ _ _ => rfl
  clear hd
  obtain ⟨dst, op, type, pos, after, guard⟩ := o
  simp only at hne
  have hcomm : ∀ x : AV, ((fr.put (some d) v).put dst x) = ((fr.put dst x).put (some d) v) := by
    intro x
    cases dst with
    | none => rfl
    | some d' => exact put_put_comm fr (fun e => hne (by rw [e])) v x
  have halloc : ∀ cs, allocA E dst cs K (fr.put (some d) v) H → allocA E dst cs (fun f h => K (f.put (some d) v) h) fr H := by
    intro cs hc
    unfold allocA at *
    split at hc
    · rename_i d'
      have hdd : d' ≠ d := fun e => hne (by rw [e])
      have hupd : ∀ y : AV, upd (upd fr.env d v) d' y = upd (upd fr.env d' y) d v := by
        intro y
        have := congrArg Fr.env (put_put_comm fr hdd.symm v y)
        exact this
      split at hc
      · rename_i hE
        rw [if_pos hE]
        simp only [Fr.put] at hc ⊢
        rw [← hupd]
        exact hc
      · rename_i hE
        rw [if_neg hE]
        simp only [Fr.put] at hc ⊢
        rw [← hupd]
        exact hc
    · exact hc.elim
  cases op with
  | alloc t =>
    simp only [dstep] at h ⊢
    split at h
    · exact ⟨h.1, halloc _ h.2⟩
    · exact h.elim
  | box t x =>
    simp only [dstep] at h ⊢
    rw [hev x (by simp [Op.operands])] at h
    exact ⟨h.1, h.2.1, halloc _ h.2.2⟩
  | store t x y =>
    simp only [dstep] at h ⊢
    rw [hev x (by simp [Op.operands]), hev y (by simp [Op.operands])] at h
    refine ⟨h.1, h.2.1, h.2.2.1, ?_⟩
    have h4 := h.2.2.2
    unfold storeA at *
    exact h4
  | call c =>
    obtain ⟨callee, args, tys⟩ := c
    cases callee with
    | builtin b =>
      have hargs : ∀ x ∈ args.toList, ev T (fr.put (some d) v) x = ev T fr x := fun x hx => hev x (by simp [Op.operands, Call.operands, Array.mem_toList_iff.1 hx])
      cases b <;> first
        | (simp only [dstep] at h ⊢
           rw [hdv] at h
           split at h
           · rw [← hcomm]; exact h
           · exact h.elim)
        | (simp only [dstep] at h ⊢
           unfold appendA at *
           split at h
           · rename_i d' s x t t' hargl htys
             have hdd : d' ≠ d := fun e => hne (by rw [e])
             simp only at hargl
             rw [hargs s (by rw [hargl]; simp), hargs x (by rw [hargl]; simp)] at h
             split at h
             · rename_i e sz tag l tag' m h1 h2 h3
               obtain ⟨g1, g2, g3, g4, g5⟩ := h
               refine ⟨g1, g2, g3, g4, ?_⟩
               have hcg : canGrow (fr.put (some d) v) tag l = canGrow fr tag l := rfl
               rw [hcg] at g5
               split at g5
               · rename_i hc
                 rw [if_pos hc]
                 have : grown (fr.put (some d) v) d' tag l m = (grown fr d' tag l m).put (some d) v := by
                   have := congrArg Fr.env (put_put_comm fr hdd.symm v (.slice (.loc d' (fr.tgen d' + 1)) (l ++ m)))
                   simp only [grown, Fr.put] at this ⊢
                   rw [this]
                 show K ((grown fr d' tag l m).put (some d) v) H
                 rw [← this]
                 exact g5
               · rename_i hc
                 rw [if_neg hc]
                 refine ⟨g5.1, ?_⟩
                 show K ((fr.put (some d') (.slice .frz l)).put (some d) v) H
                 rw [← hcomm]
                 exact g5.2
             · exact h.elim
           · exact h.elim)
    | value f =>
      simp only [dstep] at h ⊢
      have hargs : (args.toList.map fun x => (ev T (fr.put (some d) v) x).norm) = args.toList.map fun x => (ev T fr x).norm :=
        List.map_congr_left fun x hx => by rw [hev x (by simp [Op.operands, Call.operands, Array.mem_toList_iff.1 hx])]
      rw [hargs, hev f (by simp [Op.operands, Call.operands])] at h
      obtain ⟨r, H', h1, h2, h3⟩ := h
      refine ⟨r, H', h1, h2, ?_⟩
      rw [← hcomm]
      exact h3
    | invoke r m => exact h
  | _ =>
    simp only [dstep] at h ⊢
    rw [hdv] at h
    split at h
    · rw [← hcomm]; exact h
    · exact h.elim

end
end Go.Abs
