/-
  Walks over a stack of code: what is still to be done is data, so that 'simp' carries out all of it up to the next call, loop or open test.
-/
import Derived.Test.YtgcimcppginchaaGreatDoorDrop
set_option linter.unusedSimpArgs false
set_option linter.unusedVariables false
namespace Go.Abs
open Go Go.Mdl

/-- What is still to be done: code, the end of a block, or what is said of what comes. -/
inductive It where
  | c (x : Code)
  | b (id : Nat)
  | h (K : Fr → Heap → Prop)

/-- How a region that draws its order is walked, by its number. -/
def dof : List (Nat × Bool × List Bool) → Nat → Bool × List Bool
  | [], _ => (false, [])
  | x :: l, i => if i = x.1 then x.2 else dof l i

/-- What is the same all over a function. -/
structure Cx where
  P : Program
  T : Tabs
  n : Nat
  E : List Nat
  D : List (Nat × Bool × List Bool)
  rs : List ResultVar
  Post : AV → Heap → Prop
  /-- Shared objects that the calls of its regions leave as they are. -/
  st : Nat → Bool := fun _ => false
  /-- The slot of the address by which a shared object is written, where stores are exchanged. -/
  cl : Nat → Nat := fun _ => 0

/-- All regions and tests of a code are as the rules want them. -/
def fitB (n : Nat) (E : List Nat) (D : List (Nat × Bool × List Bool)) : Code → Bool
  | .seq a b => fitB n E D a && fitB n E D b
  | .cond c a b => okOperand c && (fitB n E D a && fitB n E D b)
  | .block _ a => fitB n E D a
  | .loop a => fitB n E D a
  | .scope a => fitB n E D a
  | .region _ ops false => opsFit n ops
  | .region id ops true => opsFit n ops && regionOk E ops (fun i => (dof D id).2.getD i true)
  | _ => true

/-- What a stack asks of a way in which what stands before it ends. -/
def SQ (X : Cx) : List It → Exit → Fr → Heap → Prop
  | [], e, fr, H => retQ X.P X.rs X.Post e fr H
  | i :: S, e, fr, H => match i, e with
    | .c x, .normal => X.P.follows .mixedOrders = true → fitB X.n X.E X.D x = true → AWp X.P X.T X.n x (SQ X S) fr H
    | .b id, .exit j => if j = id then SQ X S .normal fr H else SQ X S (.exit j) fr H
    | .h K, .normal => K fr H
    | _, e => SQ X S e fr H

/-- What is left behind the end of a block. -/
def popS (id : Nat) : List It → Option (List It)
  | [] => none
  | .b j :: S => if j = id then some S else popS id S
  | _ :: S => popS id S

def CondW (A B : Fr → Heap → Prop) (v : AV) (fr : Fr) (H : Heap) : Prop := CondAt v (A fr H) (B fr H)

/-- So many steps. -/
def Wf (X : Cx) : Nat → List It → Fr → Heap → Prop
  | 0, S, fr, H => SQ X S .normal fr H
  | _ + 1, [], fr, H => retQ X.P X.rs X.Post .normal fr H
  | k + 1, .b _ :: S, fr, H => Wf X k S fr H
  | _ + 1, .h K :: _, fr, H => K fr H
  | k + 1, .c x :: S, fr, H => match x with
    | .seq a b => Wf X k (.c a :: .c b :: S) fr H
    | .skip => Wf X k S fr H
    | .label _ => Wf X k S fr H
    | .scope a => Wf X k (.c a :: S) fr H
    | .block id a => Wf X k (.c a :: .b id :: S) fr H
    | .exit id => match popS id S with | some S' => Wf X k S' fr H | none => False
    | .ret => retQ X.P X.rs X.Post .ret fr H
    | .cond c a b => CondW (Wf X k (.c a :: S)) (Wf X k (.c b :: S)) (ev X.T fr c) fr H
    | .region _ ops false => arun X.P X.T X.E ops ops.toList (Wf X k S) fr H
    | .region id ops true => drunS X.P X.T X.E ops ⟨(dof X.D id).1, X.st, X.cl⟩ (dof X.D id).2 ops.toList (Wf X k S) fr H
    | x => SQ X (.c x :: S) .normal fr H

theorem SQ_ret (X : Cx) : ∀ (S : List It) (fr : Fr) (H : Heap), SQ X S .ret fr H = retQ X.P X.rs X.Post .ret fr H
  | [], _, _ => rfl
  | i :: S, fr, H => by
    have := SQ_ret X S fr H
    cases i <;> exact this
theorem SQ_goto (X : Cx) (l : Nat) : ∀ (S : List It) (fr : Fr) (H : Heap), SQ X S (.goto l) fr H = False
  | [], _, _ => rfl
  | i :: S, fr, H => by
    have := SQ_goto X l S fr H
    cases i <;> exact this
theorem SQ_pop (X : Cx) (id : Nat) : ∀ (S S' : List It) (fr : Fr) (H : Heap), popS id S = some S' → SQ X S (.exit id) fr H = SQ X S' .normal fr H
  | [], _, _, _, h => by cases h
  | i :: S, S', fr, H, h => by
    cases i with
    | b j =>
      simp only [popS] at h
      show (if id = j then SQ X S .normal fr H else SQ X S (.exit id) fr H) = _
      split at h
      · rename_i e
        rw [if_pos e.symm, Option.some.inj h]
      · rename_i e
        rw [if_neg (fun h' => e h'.symm)]
        exact SQ_pop X id S S' fr H h
    | c x => exact SQ_pop X id S S' fr H h
    | h K => exact SQ_pop X id S S' fr H h

def onlyN (K : Fr → Heap → Prop) : Exit → Fr → Heap → Prop
  | .normal, fr, H => K fr H
  | _, _, _ => False

theorem Wf_sound (X : Cx) : ∀ (k : Nat) (S : List It) (fr : Fr) (H : Heap), Wf X k S fr H → SQ X S .normal fr H
  | 0, _, _, _, h => h
  | _ + 1, [], _, _, h => h
  | k + 1, .b _ :: S, fr, H, h => Wf_sound X k S fr H h
  | _ + 1, .h _ :: _, _, _, h => h
  | k + 1, .c x :: S, fr, H, h => by
    have up : ∀ {c : Code} {S : List It} {fr : Fr} {H : Heap}, AWp X.P X.T X.n c (onlyN (Wf X k S)) fr H → AWp X.P X.T X.n c (SQ X S) fr H := fun h => h.mono fun e fr' H' hq => by
      cases e <;> first | exact Wf_sound X k _ _ _ hq | exact hq.elim
    intro hm hfit
    cases x with
    | seq a b =>
      have h1 : Wf X k (.c a :: .c b :: S) fr H := h
      have h2 := Wf_sound X k _ _ _ h1
      simp only [fitB, Bool.and_eq_true] at hfit
      refine AWp.seq ((h2 hm hfit.1).mono fun e fr' H' hq => ?_)
      cases e <;> first | exact hq hm hfit.2 | exact hq
    | skip => exact AWp.skip (Wf_sound X k S fr H h)
    | label l => exact AWp.label (Wf_sound X k S fr H h)
    | scope a =>
      have h2 := Wf_sound X k (.c a :: S) fr H h
      refine AWp.scope ((h2 hm hfit).mono fun e fr' H' hq => ?_)
      cases e <;> first | exact ⟨trivial, hq⟩ | (rw [SQ_goto] at hq; exact hq.elim)
    | block id a =>
      have h2 := Wf_sound X k (.c a :: .b id :: S) fr H h
      refine AWp.block ((h2 hm hfit).mono fun e fr' H' hq => ?_)
      cases e <;> exact hq
    | exit id =>
      have h1 : (match popS id S with | some S' => Wf X k S' fr H | none => False) := h
      split at h1
      · rename_i S' hs
        refine AWp.exit ?_
        rw [SQ_pop X id S S' fr H hs]
        exact Wf_sound X k S' fr H h1
      · exact h1.elim
    | ret =>
      refine AWp.ret ?_
      rw [SQ_ret]
      exact h
    | cond c a b =>
      simp only [fitB, Bool.and_eq_true] at hfit
      have h1 : CondAt (ev X.T fr c) (Wf X k (.c a :: S) fr H) (Wf X k (.c b :: S) fr H) := h
      refine AWp.condK (fun A B ha hb => ?_) hfit.1
      generalize ev X.T fr c = v at h1
      cases v with
      | sc w =>
        cases w with
        | bool t =>
          cases t with
          | true => exact ha _ _ (Wf_sound X k _ _ _ h1 hm hfit.2.1)
          | false => exact hb _ _ (Wf_sound X k _ _ _ h1 hm hfit.2.2)
        | _ => exact h1.elim
      | _ => exact h1.elim
    | region id ops d =>
      cases d with
      | false => exact up (AWp.region X.E hfit h)
      | true =>
        simp only [fitB, Bool.and_eq_true] at hfit
        exact up (AWp.regionS X.E ⟨(dof X.D id).1, X.st, X.cl⟩ (dof X.D id).2 hm hfit.1 hfit.2 h)
    | _ => exact h hm hfit

section
variable {X : Cx} {k : Nat} {S : List It} {fr : Fr} {H : Heap} {a b : Code} {c : Operand} {id : Nat} {ops : Array Oper} {A B : Fr → Heap → Prop}
@[simp] theorem Wf_nil : Wf X (k + 1) [] fr H = retQ X.P X.rs X.Post .normal fr H := rfl
@[simp] theorem Wf_b : Wf X (k + 1) (.b id :: S) fr H = Wf X k S fr H := rfl
@[simp] theorem Wf_h {K : Fr → Heap → Prop} : Wf X (k + 1) (.h K :: S) fr H = K fr H := rfl
@[simp] theorem Wf_seq : Wf X (k + 1) (.c (.seq a b) :: S) fr H = Wf X k (.c a :: .c b :: S) fr H := rfl
@[simp] theorem Wf_skip : Wf X (k + 1) (.c .skip :: S) fr H = Wf X k S fr H := rfl
@[simp] theorem Wf_label : Wf X (k + 1) (.c (.label id) :: S) fr H = Wf X k S fr H := rfl
@[simp] theorem Wf_scope : Wf X (k + 1) (.c (.scope a) :: S) fr H = Wf X k (.c a :: S) fr H := rfl
@[simp] theorem Wf_block : Wf X (k + 1) (.c (.block id a) :: S) fr H = Wf X k (.c a :: .b id :: S) fr H := rfl
@[simp] theorem Wf_exit : Wf X (k + 1) (.c (.exit id) :: S) fr H = match popS id S with | some S' => Wf X k S' fr H | none => False := rfl
@[simp] theorem Wf_ret : Wf X (k + 1) (.c .ret :: S) fr H = retQ X.P X.rs X.Post .ret fr H := rfl
@[simp] theorem Wf_cond : Wf X (k + 1) (.c (.cond c a b) :: S) fr H = CondW (Wf X k (.c a :: S)) (Wf X k (.c b :: S)) (ev X.T fr c) fr H := rfl
@[simp] theorem Wf_reg : Wf X (k + 1) (.c (.region id ops false) :: S) fr H = arun X.P X.T X.E ops ops.toList (Wf X k S) fr H := rfl
@[simp] theorem Wf_draw : Wf X (k + 1) (.c (.region id ops true) :: S) fr H = drunS X.P X.T X.E ops ⟨(dof X.D id).1, X.st, X.cl⟩ (dof X.D id).2 ops.toList (Wf X k S) fr H := rfl
@[simp] theorem CondW_true : CondW A B (.sc (.bool true)) fr H = A fr H := rfl
@[simp] theorem CondW_false : CondW A B (.sc (.bool false)) fr H = B fr H := rfl
@[simp] theorem popS_c : popS id (.c a :: S) = popS id S := rfl
@[simp] theorem popS_h {K : Fr → Heap → Prop} : popS id (.h K :: S) = popS id S := rfl
@[simp] theorem popS_b {j : Nat} : popS id (.b j :: S) = if j = id then some S else popS id S := rfl
@[simp] theorem dof_nil {i : Nat} : dof [] i = (false, []) := rfl
@[simp] theorem dof_cons {x : Nat × Bool × List Bool} {l : List (Nat × Bool × List Bool)} {i : Nat} : dof (x :: l) i = if i = x.1 then x.2 else dof l i := rfl
@[simp] theorem drunS_nilcons {P : Program} {T : Tabs} {E : List Nat} {q : Qt} {o : Oper} {rest : List Oper} {K : Fr → Heap → Prop} : drunS P T E ops q [] (o :: rest) K fr H = drunS P T E ops q [true] (o :: rest) K fr H := rfl

/-- More steps. -/
theorem wg (k : Nat) (h : Wf X k S fr H) : Wf X 0 S fr H := Wf_sound X k S fr H h
/-- Ways that meet. -/
theorem wj (k1 k2 : Nat) (R : Fr → Heap → Prop) (h1 : ∀ K : Fr → Heap → Prop, (∀ fr H, R fr H → K fr H) → Wf X k1 (.c a :: .h K :: S) fr H) (h2 : ∀ fr H, R fr H → Wf X k2 (.c b :: S) fr H) : Wf X 0 (.c (.seq a b) :: S) fr H := by
  intro hm hfit
  simp only [fitB, Bool.and_eq_true] at hfit
  have h3 := Wf_sound X k1 _ _ _ (h1 (SQ X (.c b :: S) .normal) fun fr H h => Wf_sound X k2 _ _ _ (h2 fr H h))
  refine AWp.seq ((h3 hm hfit.1).mono fun e fr' H' hq => ?_)
  cases e <;> first | exact hq hm hfit.2 | exact hq
/-- A loop, by what holds at its head, with a number that falls. -/
theorem wl (k1 : Nat) (I : Nat → Fr → Heap → Prop) (m : Nat) (h0 : I m fr H) (h1 : ∀ m fr H, I m fr H → ∀ K : Fr → Heap → Prop, (∀ fr' H' m', m' < m → I m' fr' H' → K fr' H') → Wf X k1 (.c a :: .h K :: S) fr H) : Wf X (k + 1) (.c (.loop a) :: S) fr H := by
  intro hm hfit
  refine AWp.loopF I m h0 fun m fr H hI K hK => ?_
  refine ((Wf_sound X k1 _ _ _ (h1 m fr H hI K hK)) hm hfit).mono fun e fr' H' hq => ?_
  cases e <;> exact hq
end

/-- **A function's contract, by its body as a stack.** -/
theorem wi {P : Program} {T : Tabs} {H : Heap} {f : FuncId} {args : List AV} {Post : AV → Heap → Prop} {fn : Func} {c : Code} (hm : P.follows .mixedOrders = true) (hf : P.funcs[f]? = some fn) (E : List Nat) (D : List (Nat × Bool × List Bool)) (k : Nat)
    (h : Wf { P := P, T := T, n := fn.ntmps, E := E, D := D, rs := fn.results.toList, Post := Post } k [.c c] (fr0 args) H)
    (hb : fn.body = some c := by rfl) (hname : entersB P f = true := by decide +kernel) (hlen : args.length ≤ fn.ntmps := by exact Nat.le_of_ble_eq_true rfl) (hfit : fitB fn.ntmps E D c = true := by decide +kernel) : ACallP P T f args H Post :=
  ACallP.intro hf hb hname hlen (((Wf_sound _ _ _ _ _ h) hm hfit).mono fun _ _ _ hq => hq)
/-- The same, where some shared objects are left as they are by the calls of its regions. -/
theorem wiS {P : Program} {T : Tabs} {H : Heap} {f : FuncId} {args : List AV} {Post : AV → Heap → Prop} {fn : Func} {c : Code} (st : Nat → Bool) (cl : Nat → Nat) (hm : P.follows .mixedOrders = true) (hf : P.funcs[f]? = some fn) (E : List Nat) (D : List (Nat × Bool × List Bool)) (k : Nat)
    (h : Wf { P := P, T := T, n := fn.ntmps, E := E, D := D, rs := fn.results.toList, Post := Post, st := st, cl := cl } k [.c c] (fr0 args) H)
    (hb : fn.body = some c := by rfl) (hname : entersB P f = true := by decide +kernel) (hlen : args.length ≤ fn.ntmps := by exact Nat.le_of_ble_eq_true rfl) (hfit : fitB fn.ntmps E D c = true := by decide +kernel) : ACallP P T f args H Post :=
  ACallP.intro hf hb hname hlen (((Wf_sound _ _ _ _ _ h) hm hfit).mono fun _ _ _ hq => hq)
end Go.Abs
namespace Go.Abs
open Go Go.Mdl
/-! ### short words for printed walks: what is known is one conjunction -/
section
variable {α β γ δ ε ζ ρ σ τ κ : Type} {E A : Prop} {r : ρ} {c : Bool}
theorem Aj (e : E) (a : A) : E ∧ A := ⟨e, a⟩
theorem Bo1 (e : E) {o : Option α} {f : α → Option ρ} (m : bind1 o f = some r) : ∃ a, (E ∧ o = some a) ∧ f a = some r := by
  obtain ⟨a, h1, h2⟩ := bind1_some m; exact ⟨a, ⟨e, h1⟩, h2⟩
theorem Bo2 (e : E) {o : Option (α × β)} {f : α → β → Option ρ} (m : bind2 o f = some r) : ∃ a b, (E ∧ o = some (a, b)) ∧ f a b = some r := by
  obtain ⟨a, b, h1, h2⟩ := bind2_some m; exact ⟨a, b, ⟨e, h1⟩, h2⟩
theorem Bo3 (e : E) {o : Option (α × β × γ)} {f : α → β → γ → Option ρ} (m : bind3 o f = some r) : ∃ a b c, (E ∧ o = some (a, b, c)) ∧ f a b c = some r := by
  obtain ⟨a, b, c, h1, h2⟩ := bind3_some m; exact ⟨a, b, c, ⟨e, h1⟩, h2⟩
theorem Bo4 (e : E) {o : Option (α × β × γ × δ)} {f : α → β → γ → δ → Option ρ} (m : bind4 o f = some r) : ∃ a b c d, (E ∧ o = some (a, b, c, d)) ∧ f a b c d = some r := by
  obtain ⟨a, b, c, d, h1, h2⟩ := bind4_some m; exact ⟨a, b, c, d, ⟨e, h1⟩, h2⟩
theorem Bo5 (e : E) {o : Option (α × β × γ × δ × ε)} {f : α → β → γ → δ → ε → Option ρ} (m : bind5 o f = some r) : ∃ a b c d g, (E ∧ o = some (a, b, c, d, g)) ∧ f a b c d g = some r := by
  obtain ⟨a, b, c, d, g, h1, h2⟩ := bind5_some m; exact ⟨a, b, c, d, g, ⟨e, h1⟩, h2⟩
theorem Bo6 (e : E) {o : Option (α × β × γ × δ × ε × ζ)} {f : α → β → γ → δ → ε → ζ → Option ρ} (m : bind6 o f = some r) : ∃ a b c d g i, (E ∧ o = some (a, b, c, d, g, i)) ∧ f a b c d g i = some r := by
  obtain ⟨a, b, c, d, g, i, h1, h2⟩ := bind6_some m; exact ⟨a, b, c, d, g, i, ⟨e, h1⟩, h2⟩
theorem Ck (e : E) {o : Option ρ} (m : chk c o = some r) : (E ∧ c = true) ∧ o = some r := ⟨⟨e, (chk_some m).1⟩, (chk_some m).2⟩
theorem Io (e : E) {a b : Option ρ} (m : (if c = true then a else b) = some r) : ((E ∧ c = true) ∧ a = some r) ∨ ((E ∧ c = false) ∧ b = some r) :=
  (ite_some m).imp (fun h => ⟨⟨e, h.1⟩, h.2⟩) (fun h => ⟨⟨e, h.1⟩, h.2⟩)
theorem Pb (c : Bool) (e : E) : (E ∧ c = true) ∨ (E ∧ c = false) := by cases c <;> simp [e]
@[simp] theorem ilt_self (a : Int) : ilt a a = false := by simp [ilt]

/-- How it goes on behind a round. -/
def cC (n : σ → Option τ) (k : σ ⊕ ρ → Option τ) : Ctl σ ρ → Option τ
  | .next s => n s
  | .brk s => k (.inl s)
  | .ret x => k (.inr x)
theorem bind_ctl (o : Option (Ctl σ ρ)) (n : σ → Option (σ ⊕ ρ)) (k : σ ⊕ ρ → Option τ) : bind1 (bind1 o (ctlK n)) k = bind1 o (cC (fun s => bind1 (n s) k) k) := by
  cases o with
  | none => rfl
  | some c => cases c <;> rfl

theorem Qb {n : σ → Option τ} {g : σ → Option τ} {h : ρ → Option τ} {s : σ} {w : τ} (q : cC n (sumK g h) (.brk s) = some w) : g s = some w := q

variable {X : Cx} {S : List It} {fr : Fr} {H : Heap} {a b : Code} {w : τ}
/-- Ways that meet, where the model has a word for what follows. -/
theorem Wj {kk : κ} {bb : κ → Option τ} (m : joinB kk bb = some w) (k1 k2 : Nat) (R : κ → Fr → Heap → Prop) (h1 : ∀ (j : κ) (K : Fr → Heap → Prop), (∀ f h, R j f h → K f h) → bb j = some w → Wf X k1 (.c a :: .h K :: S) fr H)
    (h2 : ∀ f h, R kk f h → Wf X k2 (.c b :: S) f h) : Wf X 0 (.c (.seq a b) :: S) fr H :=
  wj k1 k2 (R kk) (fun K hK => h1 kk K hK m) h2
/-- A range loop. -/
theorem Wr (e : E) {l : List α} {F : Int → α → σ → Option (Ctl σ ρ)} {k : σ ⊕ ρ → Option τ} {s0 : σ} (m : chk (okLen l) (joinB F fun F => bind1 (forR F l 0 s0) k) = some w) (k1 : Nat) (I : Int → σ → Fr → Heap → Prop) (h0 : I 0 s0 fr H)
    (hz : ∀ s f h K, I (llen l) s f h → k (.inl s) = some w → Wf X k1 (.c a :: .h K :: S) f h)
    (hs : ∀ j x s f h K n c, I j s f h → ((E ∧ ilt j (llen l) = true) ∧ lget l j = some x) → F j x s = some c → cC n k c = some w → (∀ s' f' h', I (iadd .i64 j 1) s' f' h' → n s' = some w → K f' h') → Wf X k1 (.c a :: .h K :: S) f h)
    {kk : Nat} : Wf X (kk + 1) (.c (.loop a) :: S) fr H := by
  obtain ⟨hok, m⟩ := chk_some m
  have m : bind1 (forR F l 0 s0) k = some w := m
  refine wl k1 (fun n f h => ∃ (i : Nat) (s : σ), I (i : Int) s f h ∧ i + n = l.length ∧ bind1 (forR F (l.drop i) i s) k = some w) l.length ⟨0, s0, h0, by simp, by simpa using m⟩ ?_
  rintro n f h ⟨i, s, hI, hi, hm⟩ K hK
  rcases n with _ | n
  · have hil : i = l.length := by omega
    subst hil
    rw [List.drop_eq_nil_of_le (Nat.le_refl _), forR_nil] at hm
    exact hz s f h K hI hm
  · obtain ⟨x, hd, hg⟩ := drop_lt (l := l) (i := i) (by omega)
    rw [hd, forR_cons, bind_ctl] at hm
    obtain ⟨c, hc, hq⟩ := bind1_some hm
    refine hs i x s f h K _ c hI ⟨⟨e, ilt_of (by omega)⟩, hg⟩ hc hq fun s' f' h' hI' hn => hK f' h' n (Nat.lt_succ_self _) ⟨i + 1, s', ?_, by omega, hn⟩
    rw [iadd_idx (by omega) hok] at hI'
    exact hI'
/-- Another loop. -/
theorem Wn {F : σ → Option (Ctl σ ρ)} {k : σ ⊕ ρ → Option τ} {s0 : σ} (m : joinB F (fun F => bind1 (loopN F FU s0) k) = some w) (k1 : Nat) (I : σ → Fr → Heap → Prop) (h0 : I s0 fr H)
    (hs : ∀ s f h K n c, I s f h → F s = some c → cC n k c = some w → (∀ s' f' h', I s' f' h' → n s' = some w → K f' h') → Wf X k1 (.c a :: .h K :: S) f h)
    {kk : Nat} : Wf X (kk + 1) (.c (.loop a) :: S) fr H := by
  have m : bind1 (loopN F FU s0) k = some w := m
  refine wl k1 (fun n f h => ∃ (s : σ), I s f h ∧ bind1 (loopN F n s) k = some w) FU ⟨s0, h0, m⟩ ?_
  rintro n f h ⟨s, hI, hm⟩ K hK
  rcases n with _ | n
  · cases hm
  · rw [loopN_succ, bind_ctl] at hm
    obtain ⟨c, hc, hq⟩ := bind1_some hm
    exact hs s f h K _ c hI hc hq fun s' f' h' hI' hn => hK f' h' n (Nat.lt_succ_self _) ⟨s', hI', hn⟩

variable {P : Program} {T : Tabs} {EE : List Nat} {ops : Array Oper} {q : Qt} {bs : List Bool} {rest : List Oper} {K : Fr → Heap → Prop} {H' : Heap} {d : Option Nat} {as : List AV} {rr : AV} {g : FuncId}
theorem Cf (h : ACall P T g as H rr H') (hk : arun P T EE ops rest K (fr.put d rr) H') : CallAt P T EE ops (.func (.func g) [] []) as d rest K fr H := CallAt.fn h hk
theorem Cs (h : ACall P T g as H rr H') (hk : drunS P T EE ops q bs rest K (fr.put d rr) H') (hq : QK q H H' := by simp) : CallAtS P T EE ops q bs (.func (.func g) [] []) as d rest K fr H := CallAtS.fn h hq hk
theorem Ao {t e sz d : Nat} {s x : AV} {f : α → AV} {D : List Nat} {tag tag' : Tag} (l m : List α) (h : OwnT fr.tab fr.tgen D tag l.length) (hap : apOf P t = some (e, sz)) (hlen : okApp l m = true)
    (hk : K { fr with env := upd fr.env d (.slice (.loc d (fr.tgen d + 1)) ((lapp l m).map f)), tab := upd (killTok tag fr.tab) d (some (lapp l m).length), tgen := upd fr.tgen d (fr.tgen d + 1) } H)
    (hs : s = .slice tag (l.map f) := by first | rfl | simp) (hx : x = .slice tag' (m.map f) := by first | rfl | simp) (hsz : ∀ x, (f x).cells.length = sz := by intro x; simp) : AppAt2 P t s x d K fr H :=
  AppAt2.own l m h hap hsz hlen hs hx hk
theorem Ad {t e sz d : Nat} {s x : AV} {f : α → AV} {D : List Nat} {tag tag' : Tag} (l m : List α) (h : OwnT fr.tab fr.tgen D tag l.length) (hap : apOf P t = some (e, sz)) (hlen : okApp l m = true)
    (hk : K { fr with env := upd fr.env d (.slice (.loc d (fr.tgen d + 1)) ((lapp l m).map f)), tab := upd (killTok tag fr.tab) d (some (lapp l m).length), tgen := upd fr.tgen d (fr.tgen d + 1) } H)
    (hs : s = .slice tag (l.map f) := by first | rfl | simp) (hx : x = .slice tag' (m.map f) := by first | rfl | simp) (hsz : ∀ x, (f x).cells.length = sz := by intro x; simp) : AppAt P t s x d K fr H :=
  AppAt.own l m h hap hsz hlen hs hx hk
end
attribute [simp] retQ
end Go.Abs
namespace Go.Abs
open Go Go.Mdl
abbrev sI (n : Int) : AV := .sc (.int .i64 n)
abbrev sB (b : Bool) : AV := .sc (.bool b)
abbrev sS (s : ByteArray) : AV := .sc (.string s)
abbrev sL {α : Type} (f : α → AV) (l : List α) : AV := .slice .frz (l.map f)
abbrev sT {α : Type} (t : Tag) (f : α → AV) (l : List α) : AV := .slice t (l.map f)
abbrev Ow {α : Type} (f : Fr) (D : List Nat) (t : Tag) (l : List α) : Prop := OwnT f.tab f.tgen D t l.length
section
variable {tab : Nat → Option Nat} {tgen : Nat → Nat} {D D' : List Nat} {n : Nat} {t : Tag}
theorem On (d : Nat) (h : d ∈ D := by decide) : OwnT (upd tab d (some n)) (upd tgen d (tgen d + 1)) D (.loc d (tgen d + 1)) n := OwnT.new h
theorem Om (h : OwnT tab tgen D t n) (hD : ∀ k, k ∈ D → k ∈ D' := by decide) : OwnT tab tgen D' t n := h.mono hD
end
section
variable {α β γ δ ε ζ η θ : Type}
abbrev t2 (a : α → AV) (b : β → AV) (p : α × β) : AV := .tuple [a p.1, b p.2]
abbrev t3 (a : α → AV) (b : β → AV) (c : γ → AV) (p : α × β × γ) : AV := .tuple [a p.1, b p.2.1, c p.2.2]
@[simp] theorem t2_mk (a : α → AV) (b : β → AV) (x : α) (y : β) : t2 a b (x, y) = .tuple [a x, b y] := rfl
@[simp] theorem t3_mk (a : α → AV) (b : β → AV) (c : γ → AV) (x : α) (y : β) (z : γ) : t3 a b c (x, y, z) = .tuple [a x, b y, c z] := rfl
/-- What it means that a function does what a model says, and nothing more. -/
abbrev C0 (P : Program) (g : FuncId) (f : Option θ) (z : θ → AV) : Prop := ∀ {T : Tabs} {H : Heap} {r : θ}, f = some r → ACall P T g [] H (z r) H
abbrev C1 (P : Program) (g : FuncId) (f : α → Option θ) (z : θ → AV) (a : α → AV) : Prop := ∀ {T : Tabs} {H : Heap} {x : α} {r : θ}, f x = some r → ACall P T g [a x] H (z r) H
abbrev C2 (P : Program) (g : FuncId) (f : α → β → Option θ) (z : θ → AV) (a : α → AV) (b : β → AV) : Prop := ∀ {T : Tabs} {H : Heap} {x : α} {y : β} {r : θ}, f x y = some r → ACall P T g [a x, b y] H (z r) H
abbrev C3 (P : Program) (g : FuncId) (f : α → β → γ → Option θ) (z : θ → AV) (a : α → AV) (b : β → AV) (c : γ → AV) : Prop := ∀ {T : Tabs} {H : Heap} {x : α} {y : β} {v : γ} {r : θ}, f x y v = some r → ACall P T g [a x, b y, c v] H (z r) H
abbrev C4 (P : Program) (g : FuncId) (f : α → β → γ → δ → Option θ) (z : θ → AV) (a : α → AV) (b : β → AV) (c : γ → AV) (d : δ → AV) : Prop := ∀ {T : Tabs} {H : Heap} {x : α} {y : β} {v : γ} {w : δ} {r : θ}, f x y v w = some r → ACall P T g [a x, b y, c v, d w] H (z r) H
abbrev C5 (P : Program) (g : FuncId) (f : α → β → γ → δ → ε → Option θ) (z : θ → AV) (a : α → AV) (b : β → AV) (c : γ → AV) (d : δ → AV) (e : ε → AV) : Prop := ∀ {T : Tabs} {H : Heap} {x : α} {y : β} {v : γ} {w : δ} {u : ε} {r : θ}, f x y v w u = some r → ACall P T g [a x, b y, c v, d w, e u] H (z r) H
end
end Go.Abs
namespace Go.Abs
open Go Go.Mdl
/-! ### shorter words: a call in one step, tests, leaves, heads (short4.py prints with them) -/
abbrev nL : AV := .slice .full []
abbrev bx (f : Fr) (b : Nat) (c : List AV) : Prop := f.1 b = AV.lptr b (f.gen b) 0 ∧ f.box b = some c
attribute [simp] bx
section
variable {E G : Prop} {ρ : Type} {r : ρ} {c : Bool} {a b : Option ρ}
theorem Iq (e : E) (m : (if c = true then a else b) = some r) (h1 : E ∧ c = true → a = some r → G) (h2 : E ∧ c = false → b = some r → G) : G :=
  (Io e m).elim (fun h => h1 h.1 h.2) (fun h => h2 h.1 h.2)
theorem Ir (e : E) (m : (if c = true then a else b) = some r) (h2 : E ∧ c = false → b = some r → G) (h1 : E ∧ c = true → a = some r → G) : G := Iq e m h1 h2
theorem Il (e : E) (m : (if c = true then a else b) = some r) (h2 : E ∧ c = false → b = some r → G) (h1 : E ∧ c = true → a = some r → G := by intro e m; cases m; (try cases z); (try cases z); simp [e]; done) : G := Iq e m h1 h2
theorem Im (e : E) (m : (if c = true then a else b) = some r) (h1 : E ∧ c = true → a = some r → G) (h2 : E ∧ c = false → b = some r → G := by intro e m; cases m; (try cases z); (try cases z); simp [e]; done) : G := Iq e m h1 h2
theorem au (h : G := by cases m; (try cases z); (try cases z); simp [e]; done) : G := h
theorem aj (h : G := by simp [e]; exact g _ _ (by simp [e])) : G := h
theorem ak0 (h : G := by simp [e]; exact g _ _ ⟨by simp [e], m⟩) : G := h
theorem ak1 (h : G := by simp [e]; exact g _ _ ⟨_, by simp [e], m⟩) : G := h
theorem ak2 (h : G := by simp [e]; exact g _ _ ⟨_, _, by simp [e], m⟩) : G := h
theorem ak3 (h : G := by simp [e]; exact g _ _ ⟨_, _, _, by simp [e], m⟩) : G := h
theorem al (h : G := by simp [e]; cases m; exact p _ _ _ (by simp [e]) z) : G := h
end
section
variable {P : Program} {T : Tabs} {EE : List Nat} {ops : Array Oper} {q : Qt} {bs : List Bool} {rest : List Oper} {K : Fr → Heap → Prop} {H : Heap} {d : Option Nat} {as : List AV} {g : FuncId} {fr : Fr} {ρ α β γ δ ε : Type} {r : ρ}
theorem Cf1 {o : Option α} {F : α → Option ρ} {z : α → AV} {W : α → Heap} (m : bind1 o F = some r) (h : ∀ {y}, o = some y → ACall P T g as H (z y) (W y)) (hk : ∀ y, F y = some r → arun P T EE ops rest K (fr.put d (z y)) (W y)) : CallAt P T EE ops (.func (.func g) [] []) as d rest K fr H := by
  obtain ⟨y, h1, h2⟩ := bind1_some m; exact Cf (h h1) (hk _ h2)
theorem Cf2 {o : Option (α × β)} {F : α → β → Option ρ} {z : α → β → AV} {W : α → β → Heap} (m : bind2 o F = some r) (h : ∀ {y y'}, o = some (y, y') → ACall P T g as H (z y y') (W y y')) (hk : ∀ y y', F y y' = some r → arun P T EE ops rest K (fr.put d (z y y')) (W y y')) : CallAt P T EE ops (.func (.func g) [] []) as d rest K fr H := by
  obtain ⟨y, y', h1, h2⟩ := bind2_some m; exact Cf (h h1) (hk _ _ h2)
theorem Cf3 {o : Option (α × β × γ)} {F : α → β → γ → Option ρ} {z : α → β → γ → AV} {W : α → β → γ → Heap} (m : bind3 o F = some r) (h : ∀ {y y' u}, o = some (y, y', u) → ACall P T g as H (z y y' u) (W y y' u)) (hk : ∀ y y' u, F y y' u = some r → arun P T EE ops rest K (fr.put d (z y y' u)) (W y y' u)) : CallAt P T EE ops (.func (.func g) [] []) as d rest K fr H := by
  obtain ⟨y, y', u, h1, h2⟩ := bind3_some m; exact Cf (h h1) (hk _ _ _ h2)
theorem Cs1 {o : Option α} {F : α → Option ρ} {z : α → AV} {W : α → Heap} (m : bind1 o F = some r) (h : ∀ {y}, o = some y → ACall P T g as H (z y) (W y)) (hk : ∀ y, F y = some r → drunS P T EE ops q bs rest K (fr.put d (z y)) (W y)) (hq : ∀ y, QK q H (W y) := by simp) : CallAtS P T EE ops q bs (.func (.func g) [] []) as d rest K fr H := by
  obtain ⟨y, h1, h2⟩ := bind1_some m; exact Cs (h h1) (hk _ h2) (hq _)
theorem Cs2 {o : Option (α × β)} {F : α → β → Option ρ} {z : α → β → AV} {W : α → β → Heap} (m : bind2 o F = some r) (h : ∀ {y y'}, o = some (y, y') → ACall P T g as H (z y y') (W y y')) (hk : ∀ y y', F y y' = some r → drunS P T EE ops q bs rest K (fr.put d (z y y')) (W y y')) (hq : ∀ y y', QK q H (W y y') := by simp) : CallAtS P T EE ops q bs (.func (.func g) [] []) as d rest K fr H := by
  obtain ⟨y, y', h1, h2⟩ := bind2_some m; exact Cs (h h1) (hk _ _ h2) (hq _ _)
theorem Cs3 {o : Option (α × β × γ)} {F : α → β → γ → Option ρ} {z : α → β → γ → AV} {W : α → β → γ → Heap} (m : bind3 o F = some r) (h : ∀ {y y' u}, o = some (y, y', u) → ACall P T g as H (z y y' u) (W y y' u)) (hk : ∀ y y' u, F y y' u = some r → drunS P T EE ops q bs rest K (fr.put d (z y y' u)) (W y y' u)) (hq : ∀ y y' u, QK q H (W y y' u) := by simp) : CallAtS P T EE ops q bs (.func (.func g) [] []) as d rest K fr H := by
  obtain ⟨y, y', u, h1, h2⟩ := bind3_some m; exact Cs (h h1) (hk _ _ _ h2) (hq _ _ _)
end
section
variable {ρ α σ τ κ : Type} {E : Prop} {X : Cx} {S : List It} {fr : Fr} {H : Heap} {a b : Code} {w : τ}
theorem wjs (k1 k2 : Nat) (R : Fr → Heap → Prop) (h2 : ∀ fr H, R fr H → Wf X k2 (.c b :: S) fr H) (h1 : ∀ K : Fr → Heap → Prop, (∀ fr H, R fr H → K fr H) → Wf X k1 (.c a :: .h K :: S) fr H) : Wf X 0 (.c (.seq a b) :: S) fr H := wj k1 k2 R h1 h2
theorem Wjs {kk : κ} {bb : κ → Option τ} (m : joinB kk bb = some w) (k1 k2 : Nat) (R : κ → Fr → Heap → Prop) (h2 : ∀ f h, R kk f h → Wf X k2 (.c b :: S) f h) (h1 : ∀ (j : κ) (K : Fr → Heap → Prop), (∀ f h, R j f h → K f h) → bb j = some w → Wf X k1 (.c a :: .h K :: S) fr H) : Wf X 0 (.c (.seq a b) :: S) fr H := Wj m k1 k2 R h1 h2
theorem Wrs (e : E) {l : List α} {F : Int → α → σ → Option (Ctl σ ρ)} {k : σ ⊕ ρ → Option τ} {s0 : σ} (m : chk (okLen l) (joinB F fun F => bind1 (forR F l 0 s0) k) = some w) (k1 : Nat) (I : Int → σ → Fr → Heap → Prop) (h0 : I 0 s0 fr H)
    (hs : ∀ j x s f h K n c, I j s f h → ((E ∧ ilt j (llen l) = true) ∧ lget l j = some x) → F j x s = some c → cC n k c = some w → (∀ s' f' h', I (iadd .i64 j 1) s' f' h' → n s' = some w → K f' h') → Wf X k1 (.c a :: .h K :: S) f h)
    (hz : ∀ s f h K, I (llen l) s f h → k (.inl s) = some w → Wf X k1 (.c a :: .h K :: S) f h)
    {kk : Nat} : Wf X (kk + 1) (.c (.loop a) :: S) fr H := Wr e m k1 I h0 hz hs
end
section
variable {P : Program} {fn : Func} {g : FuncId} {c : Code} {α β γ δ ε θ : Type} {z : θ → AV} {a : α → AV} {b : β → AV} {y : γ → AV} {d : δ → AV} {e : ε → AV}
theorem u0 [i : Nonempty (P.follows .mixedOrders = true)] (k : Nat) (hf : P.funcs[g]? = some fn) {f : Option θ} (h : ∀ T H r, f = some r → True → Wf { P := P, T := T, n := fn.ntmps, E := [], D := [], rs := fn.results.toList, Post := fun v K => v = z r ∧ K = H } k [.c c] (fr0 []) H)
    (hb : fn.body = some c := by rfl) (hname : entersB P g = true := by decide +kernel) (hfit : fitB fn.ntmps [] [] c = true := by decide +kernel) : C0 P g f z :=
  fun {T H r} hx => i.elim fun hm => wi hm hf [] [] k (h T H r hx trivial) hb hname (Nat.zero_le _) hfit
theorem u1 [i : Nonempty (P.follows .mixedOrders = true)] (k : Nat) (hf : P.funcs[g]? = some fn) {f : α → Option θ} (h : ∀ T H x r, f x = some r → True → Wf { P := P, T := T, n := fn.ntmps, E := [], D := [], rs := fn.results.toList, Post := fun v K => v = z r ∧ K = H } k [.c c] (fr0 [a x]) H)
    (hb : fn.body = some c := by rfl) (hname : entersB P g = true := by decide +kernel) (hlen : 1 ≤ fn.ntmps := by exact Nat.le_of_ble_eq_true rfl) (hfit : fitB fn.ntmps [] [] c = true := by decide +kernel) : C1 P g f z a :=
  fun {T H x r} hx => i.elim fun hm => wi hm hf [] [] k (h T H x r hx trivial) hb hname hlen hfit
theorem u2 [i : Nonempty (P.follows .mixedOrders = true)] (k : Nat) (hf : P.funcs[g]? = some fn) {f : α → β → Option θ} (h : ∀ T H x x' r, f x x' = some r → True → Wf { P := P, T := T, n := fn.ntmps, E := [], D := [], rs := fn.results.toList, Post := fun v K => v = z r ∧ K = H } k [.c c] (fr0 [a x, b x']) H)
    (hb : fn.body = some c := by rfl) (hname : entersB P g = true := by decide +kernel) (hlen : 2 ≤ fn.ntmps := by exact Nat.le_of_ble_eq_true rfl) (hfit : fitB fn.ntmps [] [] c = true := by decide +kernel) : C2 P g f z a b :=
  fun {T H x x' r} hx => i.elim fun hm => wi hm hf [] [] k (h T H x x' r hx trivial) hb hname hlen hfit
theorem u3 [i : Nonempty (P.follows .mixedOrders = true)] (k : Nat) (hf : P.funcs[g]? = some fn) {f : α → β → γ → Option θ} (h : ∀ T H x x' v r, f x x' v = some r → True → Wf { P := P, T := T, n := fn.ntmps, E := [], D := [], rs := fn.results.toList, Post := fun v K => v = z r ∧ K = H } k [.c c] (fr0 [a x, b x', y v]) H)
    (hb : fn.body = some c := by rfl) (hname : entersB P g = true := by decide +kernel) (hlen : 3 ≤ fn.ntmps := by exact Nat.le_of_ble_eq_true rfl) (hfit : fitB fn.ntmps [] [] c = true := by decide +kernel) : C3 P g f z a b y :=
  fun {T H x x' v r} hx => i.elim fun hm => wi hm hf [] [] k (h T H x x' v r hx trivial) hb hname hlen hfit
theorem u4 [i : Nonempty (P.follows .mixedOrders = true)] (k : Nat) (hf : P.funcs[g]? = some fn) {f : α → β → γ → δ → Option θ} (h : ∀ T H x x' v w r, f x x' v w = some r → True → Wf { P := P, T := T, n := fn.ntmps, E := [], D := [], rs := fn.results.toList, Post := fun v K => v = z r ∧ K = H } k [.c c] (fr0 [a x, b x', y v, d w]) H)
    (hb : fn.body = some c := by rfl) (hname : entersB P g = true := by decide +kernel) (hlen : 4 ≤ fn.ntmps := by exact Nat.le_of_ble_eq_true rfl) (hfit : fitB fn.ntmps [] [] c = true := by decide +kernel) : C4 P g f z a b y d :=
  fun {T H x x' v w r} hx => i.elim fun hm => wi hm hf [] [] k (h T H x x' v w r hx trivial) hb hname hlen hfit
theorem u5 [i : Nonempty (P.follows .mixedOrders = true)] (k : Nat) (hf : P.funcs[g]? = some fn) {f : α → β → γ → δ → ε → Option θ} (h : ∀ T H x x' v w u r, f x x' v w u = some r → True → Wf { P := P, T := T, n := fn.ntmps, E := [], D := [], rs := fn.results.toList, Post := fun v K => v = z r ∧ K = H } k [.c c] (fr0 [a x, b x', y v, d w, e u]) H)
    (hb : fn.body = some c := by rfl) (hname : entersB P g = true := by decide +kernel) (hlen : 5 ≤ fn.ntmps := by exact Nat.le_of_ble_eq_true rfl) (hfit : fitB fn.ntmps [] [] c = true := by decide +kernel) : C5 P g f z a b y d e :=
  fun {T H x x' v w u r} hx => i.elim fun hm => wi hm hf [] [] k (h T H x x' v w u r hx trivial) hb hname hlen hfit
theorem v0 [i : Nonempty (P.follows .mixedOrders = true)] (hf : P.funcs[g]? = some fn) {f : Option θ} (h : ∀ T H r, f = some r → True → Wf { P := P, T := T, n := fn.ntmps, E := [], D := [], rs := fn.results.toList, Post := fun v K => v = z r ∧ K = H } 999 [.c c] (fr0 []) H)
    (hb : fn.body = some c := by rfl) (hname : entersB P g = true := by decide +kernel) (hfit : fitB fn.ntmps [] [] c = true := by decide +kernel) : C0 P g f z :=
  u0 999 hf h hb hname hfit
theorem v1 [i : Nonempty (P.follows .mixedOrders = true)] (hf : P.funcs[g]? = some fn) {f : α → Option θ} (h : ∀ T H x r, f x = some r → True → Wf { P := P, T := T, n := fn.ntmps, E := [], D := [], rs := fn.results.toList, Post := fun v K => v = z r ∧ K = H } 999 [.c c] (fr0 [a x]) H)
    (hb : fn.body = some c := by rfl) (hname : entersB P g = true := by decide +kernel) (hlen : 1 ≤ fn.ntmps := by exact Nat.le_of_ble_eq_true rfl) (hfit : fitB fn.ntmps [] [] c = true := by decide +kernel) : C1 P g f z a :=
  u1 999 hf h hb hname hlen hfit
theorem v2 [i : Nonempty (P.follows .mixedOrders = true)] (hf : P.funcs[g]? = some fn) {f : α → β → Option θ} (h : ∀ T H x x' r, f x x' = some r → True → Wf { P := P, T := T, n := fn.ntmps, E := [], D := [], rs := fn.results.toList, Post := fun v K => v = z r ∧ K = H } 999 [.c c] (fr0 [a x, b x']) H)
    (hb : fn.body = some c := by rfl) (hname : entersB P g = true := by decide +kernel) (hlen : 2 ≤ fn.ntmps := by exact Nat.le_of_ble_eq_true rfl) (hfit : fitB fn.ntmps [] [] c = true := by decide +kernel) : C2 P g f z a b :=
  u2 999 hf h hb hname hlen hfit
theorem v3 [i : Nonempty (P.follows .mixedOrders = true)] (hf : P.funcs[g]? = some fn) {f : α → β → γ → Option θ} (h : ∀ T H x x' v r, f x x' v = some r → True → Wf { P := P, T := T, n := fn.ntmps, E := [], D := [], rs := fn.results.toList, Post := fun v K => v = z r ∧ K = H } 999 [.c c] (fr0 [a x, b x', y v]) H)
    (hb : fn.body = some c := by rfl) (hname : entersB P g = true := by decide +kernel) (hlen : 3 ≤ fn.ntmps := by exact Nat.le_of_ble_eq_true rfl) (hfit : fitB fn.ntmps [] [] c = true := by decide +kernel) : C3 P g f z a b y :=
  u3 999 hf h hb hname hlen hfit
theorem v4 [i : Nonempty (P.follows .mixedOrders = true)] (hf : P.funcs[g]? = some fn) {f : α → β → γ → δ → Option θ} (h : ∀ T H x x' v w r, f x x' v w = some r → True → Wf { P := P, T := T, n := fn.ntmps, E := [], D := [], rs := fn.results.toList, Post := fun v K => v = z r ∧ K = H } 999 [.c c] (fr0 [a x, b x', y v, d w]) H)
    (hb : fn.body = some c := by rfl) (hname : entersB P g = true := by decide +kernel) (hlen : 4 ≤ fn.ntmps := by exact Nat.le_of_ble_eq_true rfl) (hfit : fitB fn.ntmps [] [] c = true := by decide +kernel) : C4 P g f z a b y d :=
  u4 999 hf h hb hname hlen hfit
theorem v5 [i : Nonempty (P.follows .mixedOrders = true)] (hf : P.funcs[g]? = some fn) {f : α → β → γ → δ → ε → Option θ} (h : ∀ T H x x' v w u r, f x x' v w u = some r → True → Wf { P := P, T := T, n := fn.ntmps, E := [], D := [], rs := fn.results.toList, Post := fun v K => v = z r ∧ K = H } 999 [.c c] (fr0 [a x, b x', y v, d w, e u]) H)
    (hb : fn.body = some c := by rfl) (hname : entersB P g = true := by decide +kernel) (hlen : 5 ≤ fn.ntmps := by exact Nat.le_of_ble_eq_true rfl) (hfit : fitB fn.ntmps [] [] c = true := by decide +kernel) : C5 P g f z a b y d e :=
  u5 999 hf h hb hname hlen hfit
theorem i1 {M : Nat → α → Option θ} (h : ∀ n, C1 P g (M n) z a → C1 P g (M (n + 1)) z a) (h0 : ∀ x, M 0 x = none := by intros; rfl) {n : Nat} : C1 P g (M n) z a := by
  induction n with
  | zero => intro T H x r hx; rw [h0] at hx; cases hx
  | succ n ih => exact h n ih
theorem i2 {M : Nat → α → β → Option θ} (h : ∀ n, C2 P g (M n) z a b → C2 P g (M (n + 1)) z a b) (h0 : ∀ x x', M 0 x x' = none := by intros; rfl) {n : Nat} : C2 P g (M n) z a b := by
  induction n with
  | zero => intro T H x x' r hx; rw [h0] at hx; cases hx
  | succ n ih => exact h n ih
theorem i3 {M : Nat → α → β → γ → Option θ} (h : ∀ n, C3 P g (M n) z a b y → C3 P g (M (n + 1)) z a b y) (h0 : ∀ x x' v, M 0 x x' v = none := by intros; rfl) {n : Nat} : C3 P g (M n) z a b y := by
  induction n with
  | zero => intro T H x x' v r hx; rw [h0] at hx; cases hx
  | succ n ih => exact h n ih
theorem i4 {M : Nat → α → β → γ → δ → Option θ} (h : ∀ n, C4 P g (M n) z a b y d → C4 P g (M (n + 1)) z a b y d) (h0 : ∀ x x' v w, M 0 x x' v w = none := by intros; rfl) {n : Nat} : C4 P g (M n) z a b y d := by
  induction n with
  | zero => intro T H x x' v w r hx; rw [h0] at hx; cases hx
  | succ n ih => exact h n ih
theorem i5 {M : Nat → α → β → γ → δ → ε → Option θ} (h : ∀ n, C5 P g (M n) z a b y d e → C5 P g (M (n + 1)) z a b y d e) (h0 : ∀ x x' v w u, M 0 x x' v w u = none := by intros; rfl) {n : Nat} : C5 P g (M n) z a b y d e := by
  induction n with
  | zero => intro T H x x' v w u r hx; rw [h0] at hx; cases hx
  | succ n ih => exact h n ih
end
end Go.Abs
