/-
  The abstract layer, part E: all operations that only compute.
-/
import Derived.Test.YtdihelfnjememaaDoorAbsD
import Derived.Laws.Build
set_option linter.unusedSimpArgs false
set_option linter.unusedVariables false
namespace Go.Abs
open Go

def convA (P : Program) (s d : TypeId) (x : AV) : Option AV :=
  match P.underlying s, P.underlying d, x with
  | some _, some (.int k), .sc (.int _ n) => some (.sc (.int k (k.wrap n)))
  | some _, some .string, .sc (.string b) => some (.sc (.string b))
  | _, _, _ => none

def lenA (P : Program) (t : TypeId) (x : AV) : Option AV :=
  match P.underlying t, x with
  | some (.slice _), .slice _ l => some (.sc (.int .i64 l.length))
  | some .string, .sc (.string s) => some (.sc (.int .i64 s.size))
  | some (.array n _), _ => some (.sc (.int .i64 n))
  | _, _ => none

def max2A : AV → AV → Option AV
  | .sc (.int k a), .sc (.int _ b) => some (.sc (.int k (if b > a then b else a)))
  | _, _ => none
def min2A : AV → AV → Option AV
  | .sc (.int k a), .sc (.int _ b) => some (.sc (.int k (if b < a then b else a)))
  | _, _ => none

def foldA (f : AV → AV → Option AV) : AV → List AV → Option AV
  | x, [] => some x
  | x, y :: l => (f x y).bind fun z => foldA f z l

def callA (P : Program) (T : Tabs) (fr : Fr) (c : Call) : Option AV :=
  match c.callee with
  | .builtin .len => match c.argTypes[0]?, c.args[0]? with
    | some t, some x => lenA P t (ev T fr x)
    | _, _ => none
  | .builtin .max => match c.args.toList with
    | x :: l => foldA max2A (ev T fr x) (l.map (ev T fr))
    | [] => none
  | .builtin .min => match c.args.toList with
    | x :: l => foldA min2A (ev T fr x) (l.map (ev T fr))
    | [] => none
  | _ => none

def aval (P : Program) (T : Tabs) (fr : Fr) (o : Oper) : Option AV :=
  match o.op with
  | .move x => some (ev T fr x)
  | .assign x => some (ev T fr x)
  | .pick c a b => match ev T fr c with
    | .sc (.bool t) => some (if t then ev T fr a else ev T fr b)
    | _ => none
  | .build t ps => buildA P t (ps.toList.map fun p => (p.1, ev T fr p.2))
  | .binOp op t x y _ => binA P op t (ev T fr x) (ev T fr y)
  | .unOp op _ x => unA op (ev T fr x)
  | .convert s d x => convA P s d (ev T fr x)
  | .makeFunc fn f c => some (.func fn (f.toList.map fun x => (ev T fr x).norm) (c.toList.map fun x => (ev T fr x).norm))
  | .fieldAddr t x i => fieldAddrA P t (ev T fr x) i
  | .field t x i => fieldA P t (ev T fr x) i
  | .indexAddr t x i => indexAddrA P t (ev T fr x) (ev T fr i)
  | .index t x i => indexA P t (ev T fr x) (ev T fr i)
  | .slice t x lo hi mx => sliceA P t (ev T fr x) (lo.map (ev T fr)) (hi.map (ev T fr)) (mx.map (ev T fr))
  | .extract x i => match ev T fr x with
    | .tuple vs => vs[i]?
    | _ => none
  | .nilCheck x => match ev T fr x with
    | .func (.func f) a b => some (.func (.func f) a b)
    | x => if isPtr x then some x else none
  | .makeInterface t x => if P.concrete t then some (.iface t (ev T fr x).norm) else none
  | .call c => callA P T fr c
  | _ => none

section
variable {P : Program} {T : Tabs} {F : Imm} {ρ : Maps} {fr : Fr} {a : Act}

theorem ev_all2 (he : EnvRep F ρ fr a) (ht : TabsRep T F ρ) : ∀ (xs : List Operand), (∀ x ∈ xs, okOperand x = true) → All2 (FRep F ρ) (xs.map (ev T fr)) (xs.map a.eval)
  | [], _ => .nil
  | x :: xs, h => .cons (ev_rep he ht x (h x (by simp))) (ev_all2 he ht xs fun y hy => h y (by simp [hy]))

theorem ev_norms (he : EnvRep F ρ fr a) (ht : TabsRep T F ρ) (xs : List Operand) (h : ∀ x ∈ xs, okOperand x = true) :
    PRepL F ρ.G ρ.n (xs.map fun x => (ev T fr x).norm) (xs.map a.eval) := by
  have := (ev_all2 he ht xs h).map_left AV.norm fun _ _ _ h => FRep.norm h
  rw [List.map_map] at this
  exact .of_all2 this

theorem ev_parts (he : EnvRep F ρ fr a) (ht : TabsRep T F ρ) : ∀ (ps : List (Nat × Operand)), (∀ p ∈ ps, okOperand p.2 = true) →
    All2 (fun (x : Nat × AV) (y : Nat × Value) => x.1 = y.1 ∧ FRep F ρ x.2 y.2) (ps.map fun p => (p.1, ev T fr p.2)) (ps.map fun p => (p.1, a.eval p.2))
  | [], _ => .nil
  | p :: ps, h => .cons ⟨rfl, ev_rep he ht p.2 (h p (by simp))⟩ (ev_parts he ht ps fun q hq => h q (by simp [hq]))

theorem ev_opt (he : EnvRep F ρ fr a) (ht : TabsRep T F ρ) (x : Option Operand) (h : ∀ y, x = some y → okOperand y = true) : OptRep F ρ (x.map (ev T fr)) (x.map a.eval) := by
  cases x with
  | none => trivial
  | some y => exact ev_rep he ht y (h y rfl)

theorem run_lenA (w : World) {t ty : TypeId} {x r : AV} {u : Value} (h : lenA P t x = some r) (hx : FRep F ρ x u) {ts : Array TypeId} {us : Array Value} (h1 : ts[0]? = some t) (h2 : us[0]? = some u) :
    ∃ v, (Builtin.len_ ts ty us).run P w = .ok v w ∧ FRep F ρ r v := by
  unfold lenA at h
  unfold Builtin.len_
  simp only [h1, h2]
  split at h
  · rename_i e tag l hu
    cases h
    obtain ⟨base, cap, b, o, sz, vs, rfl, hs, _, _⟩ := frep_slice hx
    exact ⟨_, by simp only [Sem.run_bind, run_underlying hu, Result.andThen_ok]; rfl, .p (.sc rfl)⟩
  · rename_i s hu
    cases h
    cases frep_sc hx
    exact ⟨_, by simp only [Sem.run_bind, run_underlying hu, Result.andThen_ok]; rfl, .p (.sc rfl)⟩
  · rename_i n e hu
    cases h
    exact ⟨_, by simp only [Sem.run_bind, run_underlying hu, Result.andThen_ok]; rfl, .p (.sc rfl)⟩
  · cases h

theorem run_foldA (w : World) {f : AV → AV → Option AV} {g : Value → Value → Sem Value} (hf : ∀ x y r u v, f x y = some r → FRep F ρ x u → FRep F ρ y v → ∃ z, (g u v).run P w = .ok z w ∧ FRep F ρ r z) :
    ∀ (l : List AV) (x r : AV) (u : Value) (us : List Value), foldA f x l = some r → FRep F ρ x u → All2 (FRep F ρ) l us → ∃ z, (us.foldlM g u).run P w = .ok z w ∧ FRep F ρ r z := by
  intro l
  induction l with
  | nil =>
    intro x r u us h hx hl
    cases hl
    cases h
    exact ⟨u, rfl, hx⟩
  | cons y l ih =>
    intro x r u us h hx hl
    cases hl with
    | cons h1 h2 =>
      simp only [foldA, Option.bind_eq_some_iff] at h
      obtain ⟨z, hz, h⟩ := h
      obtain ⟨zv, hzv, hzr⟩ := hf _ _ _ _ _ hz hx h1
      obtain ⟨rv, hrv, hrr⟩ := ih _ _ _ _ h hzr h2
      exact ⟨rv, by simp only [List.foldlM_cons, Sem.run_bind, hzv, Result.andThen_ok, hrv], hrr⟩

theorem run_max2 (w : World) (x y r : AV) (u v : Value) (h : max2A x y = some r) (hx : FRep F ρ x u) (hy : FRep F ρ y v) : ∃ z, (Builtin.max2 u v).run P w = .ok z w ∧ FRep F ρ r z := by
  unfold max2A at h
  split at h
  · cases frep_sc hx; cases frep_sc hy; cases h
    exact ⟨_, rfl, .p (.sc rfl)⟩
  · cases h

theorem run_min2 (w : World) (x y r : AV) (u v : Value) (h : min2A x y = some r) (hx : FRep F ρ x u) (hy : FRep F ρ y v) : ∃ z, (Builtin.min2 u v).run P w = .ok z w ∧ FRep F ρ r z := by
  unfold min2A at h
  split at h
  · cases frep_sc hx; cases frep_sc hy; cases h
    exact ⟨_, rfl, .p (.sc rfl)⟩
  · cases h

theorem frep_not_nil_ptr {x : AV} {v : Value} (hx : isPtr x = true) (h : FRep F ρ x v) : ∃ b, v = .pointer (some b) := isPtr_rep hx h

/-- **An operation that only computes does so in the model, too.** -/
theorem aval_sound (w : World) (he : EnvRep F ρ fr a) (ht : TabsRep T F ρ) {o : Oper} {r : AV} (hok : o.op.operands.all okOperand = true) (h : aval P T fr o = some r) :
    ∃ v, (execOp a.eval o).run P w = .ok (.value v) w ∧ FRep F ρ r v := by
  obtain ⟨dst, op, type, pos, after, guard⟩ := o
  have hall : ∀ x ∈ op.operands, okOperand x = true := fun x hx => Array.all_eq_true_iff_forall_mem.1 hok x hx
  clear hok
  have lift : ∀ {s : Sem Value}, (∃ v, s.run P w = .ok v w ∧ FRep F ρ r v) → ∃ v, ((do pure (.value (← s))) : Sem Next).run P w = .ok (.value v) w ∧ FRep F ρ r v := by
    rintro s ⟨v, hv, hr⟩
    exact ⟨v, by rw [Sem.run_bind, hv]; rfl, hr⟩
  cases op <;> simp only [aval] at h <;> simp only [Op.operands] at hall <;> simp only [execOp]
  case move x => cases h; exact ⟨_, rfl, ev_rep he ht x (hall x (by simp))⟩
  case assign x => cases h; exact ⟨_, rfl, ev_rep he ht x (hall x (by simp))⟩
  case pick c x y =>
    split at h
    · rename_i t hc
      cases h
      have hcr := ev_rep he ht c (hall c (by simp))
      rw [hc] at hcr
      have hcv := frep_sc hcr
      refine ⟨if t then a.eval x else a.eval y, ?_, ?_⟩
      · rw [hcv]; rfl
      · cases t
        · exact ev_rep he ht y (hall y (by simp))
        · exact ev_rep he ht x (hall x (by simp))
    · cases h
  case build t ps =>
    refine lift ?_
    have hp := ev_parts he ht ps.toList fun p hp => hall p.2 (by simp; exact ⟨p.1, by simpa using hp⟩)
    have := run_build (P := P) w h hp
    have e : (ps.toList.map fun p => (p.1, a.eval p.2)).toArray = ps.map fun p => (p.1, a.eval p.2) := by rw [← Array.toList_map, Array.toArray_toList]
    rw [e] at this
    exact this
  case binOp op t x y t' =>
    obtain ⟨z, h1, h2, h3, h4⟩ := run_binA P w h (ev_rep he ht x (hall x (by simp))) (ev_rep he ht y (hall y (by simp)))
    subst h2
    refine ⟨z, ?_, .p (.sc h3)⟩
    simp only [Sem.run_bind, run_eqGuard P w op t x y h4, Result.andThen_ok, h1]
    rfl
  case unOp op t x =>
    refine lift ?_
    have hx := ev_rep he ht x (hall x (by simp))
    generalize a.eval x = u at hx ⊢
    unfold unA at h
    split at h
    · rename_i hc
      rw [hc] at hx
      cases frep_sc hx
      cases h
      exact ⟨_, by simp [Op.unary, Op.intArith], .p (.sc rfl)⟩
    · rename_i hc
      rw [hc] at hx
      cases frep_sc hx
      cases h
      exact ⟨_, by simp [Op.unary], .p (.sc rfl)⟩
    · cases h
  case convert s d x =>
    refine lift ?_
    have hx := ev_rep he ht x (hall x (by simp))
    generalize a.eval x = u at hx ⊢
    unfold convA at h
    split at h
    · rename_i hs hd hc
      rw [hc] at hx
      cases frep_sc hx
      cases h
      refine ⟨_, ?_, .p (.sc rfl)⟩
      unfold convert
      simp only [Sem.run_bind, run_underlying hs, run_underlying hd, Result.andThen_ok]
      rfl
    · rename_i hs hd hc
      rw [hc] at hx
      cases frep_sc hx
      cases h
      refine ⟨_, ?_, .p (.sc rfl)⟩
      unfold convert
      simp only [Sem.run_bind, run_underlying hs, run_underlying hd, Result.andThen_ok]
      rfl
    · cases h
  case makeFunc fn f c =>
    cases h
    refine lift ⟨.func fn (f.map a.eval) (c.map a.eval), rfl, ?_⟩
    have h1 := ev_norms he ht f.toList fun x hx => hall x (by simp [Array.mem_toList_iff.1 hx])
    have h2 := ev_norms he ht c.toList fun x hx => hall x (by simp [Array.mem_toList_iff.1 hx])
    have := PRep.func (fn := fn) h1 h2
    have e : ∀ l : Array Operand, (l.toList.map a.eval).toArray = l.map a.eval := fun l => by rw [← Array.toList_map, Array.toArray_toList]
    rw [e, e] at this
    exact .p this
  case fieldAddr t x i => exact lift (run_fieldAddr w h (ev_rep he ht x (hall x (by simp))))
  case field t x i => exact lift (run_field w h (ev_rep he ht x (hall x (by simp))))
  case indexAddr t x i => exact lift (run_indexAddr w h (ev_rep he ht x (hall x (by simp))) (ev_rep he ht i (hall i (by simp))))
  case index t x i => exact lift (run_index w h (ev_rep he ht x (hall x (by simp))) (ev_rep he ht i (hall i (by simp))))
  case slice t x lo hi mx =>
    exact lift (run_slice w h (ev_rep he ht x (hall x (by simp))) (ev_opt he ht lo fun y hy => hall y (by simp [hy])) (ev_opt he ht hi fun y hy => hall y (by simp [hy]))
      (ev_opt he ht mx fun y hy => hall y (by simp [hy])))
  case extract x i =>
    refine lift ?_
    have hx := ev_rep he ht x (hall x (by simp))
    split at h
    · rename_i vs hc
      rw [hc] at hx
      obtain ⟨us, hu, hr⟩ := frep_tuple hx
      obtain ⟨v, hv, hp⟩ := hr.get h
      refine ⟨v, ?_, .p hp⟩
      rw [hu]
      simp [Instr.extract, hv]
    · cases h
  case nilCheck x =>
    have hx := ev_rep he ht x (hall x (by simp))
    split at h
    · rename_i f b c hc
      cases h
      rw [hc] at hx
      obtain ⟨vf, vc, hv, _, _⟩ := frep_func hx
      refine ⟨a.eval x, ?_, hx⟩
      rw [hv]
      rfl
    · rename_i hc
      split at h
      · rename_i hp
        cases h
        obtain ⟨b, hb⟩ := isPtr_rep hp hx
        refine ⟨a.eval x, ?_, hx⟩
        rw [hb]
        rfl
      · cases h
  case makeInterface t x =>
    refine lift ?_
    split at h
    · rename_i hc
      cases h
      exact ⟨_, run_makeInterface w t _ hc, .p (.iface (ev_rep he ht x (hall x (by simp))).norm)⟩
    · cases h
  case call c =>
    obtain ⟨callee, args, argTypes⟩ := c
    have hargs : ∀ x ∈ args.toList, okOperand x = true := fun x hx => hall x (by simp [Call.operands, Array.mem_toList_iff.1 hx])
    simp only [callA] at h
    split at h
    · split at h
      · rename_i t x h1 h2
        simp only [resolve, invoke, builtin, Sem.run_bind, Sem.run_pure, Result.andThen_ok]
        have hx : x ∈ args := Array.mem_of_getElem? h2
        obtain ⟨v, hv, hr⟩ := run_lenA (P := P) (ty := type) w h (ev_rep he ht x (hargs x (Array.mem_toList_iff.2 hx))) h1 (us := args.map a.eval) (by simp [h2])
        exact ⟨v, by rw [hv]; rfl, hr⟩
      · cases h
    · split at h
      · rename_i x l h1
        simp only [resolve, invoke, builtin, Sem.run_bind, Sem.run_pure, Result.andThen_ok]
        obtain ⟨v, hv, hr⟩ := run_foldA w (run_max2 (P := P) w) _ _ _ _ _ h (ev_rep he ht x (hargs x (by simp [h1]))) (ev_all2 he ht l fun y hy => hargs y (by simp [h1, hy]))
        refine ⟨v, ?_, hr⟩
        have e : (args.map a.eval).toList = a.eval x :: l.map a.eval := by simp [h1]
        simp only [Builtin.max_, e, hv, Result.andThen_ok]
      · cases h
    · split at h
      · rename_i x l h1
        simp only [resolve, invoke, builtin, Sem.run_bind, Sem.run_pure, Result.andThen_ok]
        obtain ⟨v, hv, hr⟩ := run_foldA w (run_min2 (P := P) w) _ _ _ _ _ h (ev_rep he ht x (hargs x (by simp [h1]))) (ev_all2 he ht l fun y hy => hargs y (by simp [h1, hy]))
        refine ⟨v, ?_, hr⟩
        have e : (args.map a.eval).toList = a.eval x :: l.map a.eval := by simp [h1]
        simp only [Builtin.min_, e, hv, Result.andThen_ok]
      · cases h
    · cases h
  all_goals cases h

end
end Go.Abs
