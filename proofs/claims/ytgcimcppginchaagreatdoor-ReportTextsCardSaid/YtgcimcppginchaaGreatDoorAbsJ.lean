/- A part of the proof of ReportTexts: contracts of functions of the program, and what they need. -/
import Derived.Test.YtgcimcppginchaaGreatDoorAbsI4
import Derived.Laws.IdiomStrings
import Derived.Scope
/-
  The abstract layer, part J: calls; one step; a row of steps.
-/
set_option linter.unusedSimpArgs false
set_option linter.unusedVariables false
namespace Go.Abs
open Go

/-- A function that is entered by a call (it has a Go body). -/
def entersB (P : Program) (f : FuncId) : Bool :=
  match P.funcs[f]? with
  | some fn => fn.body.isSome && fn.name != "runtime.NumGoroutine"
  | none => false

/-- **The contract of a function**: called with abstract values in a shared memory, it returns one, and leaves a shared memory, as 'Post' says; of all other memory that was there nothing has turned. -/
def ACallP (P : Program) (T : Tabs) (f : FuncId) (args : List AV) (H : Heap) (Post : AV → Heap → Prop) : Prop :=
  entersB P f = true ∧ ∀ (G : Nat → Nat) (F : Imm) (w : World) (vs : List Value), GW T G F H w → PRepL F G H.length args vs →
    Calls P f vs.toArray w fun e w' => ∃ r H' v G' F', Post r H' ∧ e = .returned v ∧ GW T G' F' H' w' ∧ PRep F' G' H'.length r v ∧ Ext w.heap.size G F H.length w G' F' H'.length w'

/-- The contract with one result. -/
def ACall (P : Program) (T : Tabs) (f : FuncId) (args : List AV) (H : Heap) (r : AV) (H' : Heap) : Prop := ACallP P T f args H fun r' H'' => r' = r ∧ H'' = H'

theorem ACallP.mono {P : Program} {T : Tabs} {f : FuncId} {args : List AV} {H : Heap} {Post Post' : AV → Heap → Prop} (h : ACallP P T f args H Post) (hp : ∀ r H', Post r H' → Post' r H') : ACallP P T f args H Post' :=
  ⟨h.1, fun G F w vs hg ha => (h.2 G F w vs hg ha).mono fun _ _ ⟨r, H', v, G', F', h1, h2⟩ => ⟨r, H', v, G', F', hp _ _ h1, h2⟩⟩

theorem ACall.post {P : Program} {T : Tabs} {f : FuncId} {args : List AV} {H H' : Heap} {r : AV} {Post : AV → Heap → Prop} (h : ACall P T f args H r H') (hp : Post r H') : ACallP P T f args H Post :=
  ACallP.mono h fun r' H'' ⟨e1, e2⟩ => by subst e1; subst e2; exact hp

/-- A call of a function's value. -/
def AInvoke (P : Program) (T : Tabs) (fv : AV) (args : List AV) (H : Heap) (Post : AV → Heap → Prop) : Prop :=
  match fv with
  | .func (.func g) first cap => ACallP P T g (first ++ args ++ cap) H Post
  | _ => False

section
variable {P : Program} {T : Tabs} {n : Nat} {G0 : Nat → Nat} {F0 : Imm} {n0 : Nat} {w0 : World} {fr : Fr} {H : Heap} {a : Act} {w : World}

open Classical in
/-- Behind a call. -/
theorem WR.called {ρ : Maps} {F : Imm} {R : Nat → Role} {B0 : Nat} (h : WR T n B0 ρ F R fr H a w) {G' : Nat → Nat} {F' : Imm} {H' : Heap} {w' : World} (hg : GW T G' F' H' w')
    (hx : Ext w.heap.size ρ.G F H.length w G' F' H'.length w') : ∃ ρ' R', ρ'.G = G' ∧ ρ'.n = H'.length ∧ WR T n B0 ρ' F' R' fr H' a w' := by
  let ρ' : Maps := { ρ with G := G', n := H'.length }
  let R' : Nat → Role := fun b => if ∃ o, H.length ≤ o ∧ o < H'.length ∧ G' o = b then .glob else R b
  have hgr : Grow F F' ρ.G G' ρ.n H'.length := by
    refine ⟨fun b o v hv => ?_, by rw [h.hn]; exact hx.len, fun o ho => hx.hG o (by rw [← h.hn]; exact ho)⟩
    exact hx.mF b o v (h.F_lt hv) hv
  have hmg : MGrow F F' ρ ρ' := ⟨hgr, fun _ => Nat.le_refl _, fun _ _ _ => rfl, fun _ => Nat.le_refl _, fun _ _ _ => rfl⟩
  have hRold : ∀ b, b < w.heap.size → R' b = R b := by
    intro b hb
    show (if ∃ o, H.length ≤ o ∧ o < H'.length ∧ G' o = b then Role.glob else R b) = R b
    rw [if_neg]
    rintro ⟨o, h1, h2, rfl⟩
    have := hx.Gnew o h1 h2
    omega
  have hnot : ∀ b, R b ≠ .glob → ∀ o, o < H.length → ρ.G o ≠ b := by
    rintro b hb o ho rfl
    exact hb (h.grole o ho)
  refine ⟨ρ', R', rfl, rfl, ⟨hg, h.size, h.defers, h.env.grow hmg, rfl, h.lg, h.ag, ?_, ?_, ?_, ?_, ?_, Nat.le_trans h.B0le hx.size⟩⟩
  · intro d cs hd
    obtain ⟨h1, h2, h3, vs, ty, h4, h5⟩ := h.box d cs hd
    have hlt := heap_lt h4
    exact ⟨h1, by rw [hRold _ hlt]; exact h2, h3, vs, ty, (hx.heap _ hlt (hnot _ (by rw [h2]; simp))).trans h4, h5.mono fun _ _ _ h => h.grow hmg⟩
  · intro k m hk b c sz hA
    obtain ⟨h1, h2, h3, h3', ⟨vs, ty, h4, h5⟩, h6⟩ := h.tok k m hk b c sz hA
    have hlt := heap_lt h4
    refine ⟨h1, by rw [hRold _ hlt]; exact h2, h3, h3', ⟨vs, ty, (hx.heap _ hlt (hnot _ (by rw [h2]; simp))).trans h4, h5⟩, fun j hj => ?_⟩
    rw [hx.hF b j hlt (hnot _ (by rw [h2]; simp))]
    exact h6 j hj
  · intro b j v hf
    rcases Nat.lt_or_ge b w.heap.size with hb | hb
    · rw [hRold b hb]
      by_cases hg' : ∃ o, o < H.length ∧ ρ.G o = b
      · obtain ⟨o, ho, rfl⟩ := hg'
        rw [h.grole o ho]; simp
      · rw [hx.hF b j hb fun o ho e => hg' ⟨o, ho, e⟩] at hf
        exact h.frole b j v hf
    · intro d
      show (if ∃ o, H.length ≤ o ∧ o < H'.length ∧ G' o = b then Role.glob else R b) ≠ .box d
      split
      · simp
      · rw [h.rfresh b hb]; simp
  · intro o ho
    rcases Nat.lt_or_ge o H.length with h1 | h1
    · have hr := h.grole o h1
      have hlt : ρ.G o < w.heap.size := by
        rcases Nat.lt_or_ge (ρ.G o) w.heap.size with h' | h'
        · exact h'
        · rw [h.rfresh _ h'] at hr; cases hr
      show R' (G' o) = .glob
      rw [hx.hG o h1, hRold _ hlt]
      exact hr
    · show (if ∃ o', H.length ≤ o' ∧ o' < H'.length ∧ G' o' = G' o then Role.glob else R (G' o)) = .glob
      rw [if_pos ⟨o, h1, ho, rfl⟩]
  · intro b hb
    show (if ∃ o, H.length ≤ o ∧ o < H'.length ∧ G' o = b then Role.glob else R b) = .free
    rw [if_neg]
    · exact h.rfresh b (Nat.le_trans hx.size hb)
    · rintro ⟨o, h1, h2, rfl⟩
      have hcs : H'[o]? = some H'[o] := List.getElem?_eq_getElem h2
      obtain ⟨ob, h4, _⟩ := hg.glob o _ hcs
      have := heap_lt h4
      omega

end

/-! ### one step -/

/-- A slice literal: its row does not change from now on, or it is a shared object (as E tells). -/
def sliceK (E : List Nat) (dst : Option Nat) (v : AV) (K : Fr → Heap → Prop) (fr : Fr) (H : Heap) : Prop :=
  if dst.any E.contains = true then (match v with | .slice _ l => K (fr.put dst (.gsl H.length 0 l.length l.length)) (H ++ [l.flatMap AV.cells]) | _ => False) else K (fr.put dst v) H

/-- A conversion: it only computes, or the bytes of a text are a new shared object. -/
def convK (P : Program) (dst : Option Nat) (s d : TypeId) (x : AV) (K : Fr → Heap → Prop) (fr : Fr) (H : Heap) : Prop :=
  match convA P s d x with
  | some v => K (fr.put dst v) H
  | none => match P.underlying s, P.underlying d, x with
    | some .string, some (.slice e), .sc (.string y) => P.underlying e = some (.int .u8) ∧ y.size ≤ growLim ∧ ∀ cap k, y.size ≤ cap → K (fr.put dst (.gsl H.length 0 y.size cap)) (H ++ [byteAVs y ++ junk k])
    | _, _, _ => False

def astep (P : Program) (T : Tabs) (E : List Nat) (o : Oper) (K : Fr → Heap → Prop) (fr : Fr) (H : Heap) : Prop :=
  match o.op with
  | .alloc t => match zeroA P t with
    | some z => allocA E o.dst z K fr H
    | none => False
  | .box _ x => notTuple (ev T fr x) = true ∧ allocA E o.dst (ev T fr x).cells K fr H
  | .load t x => match loadA P fr H t (ev T fr x) with
    | some v => K (fr.put o.dst v) H
    | none => False
  | .store t x y => o.dst = none ∧ storeA P t (ev T fr x) (ev T fr y) K fr H
  | .buildSlice t n ps => match buildSliceA P t n (ps.toList.map fun p => (p.1, ev T fr p.2)) with
    | some v => sliceK E o.dst v K fr H
    | none => False
  | .makeSlice t l c => match makeSliceA P t (ev T fr l) (ev T fr c) with
    | some v => K (fr.put o.dst v) H
    | none => False
  | .convert s d x => convK P o.dst s d (ev T fr x) K fr H
  | .call c => match c.callee with
    | .builtin .append => (appendA P T c o.dst K fr H ∨ appendL P T c o.dst K fr H) ∨ appendS P T c o.dst K fr H ∨ appendG P T c o.dst K fr H
    | .builtin _ => match callA P T fr c with
      | some v => K (fr.put o.dst v) H
      | none => False
    | .value f => AInvoke P T (ev T fr f) (c.args.toList.map fun x => (ev T fr x).norm) H fun r H' => K (fr.put o.dst r) H'
    | .invoke _ _ => False
  | .makeMap _ none => makeMapA o.dst K fr H
  | .mapUpdate t m k x => o.dst = none ∧ mapUpdA P t (ev T fr m) (ev T fr k) (ev T fr x) K fr H
  | .insert t m k x => o.dst = none ∧ mapUpdA P t (ev T fr m) (ev T fr k) (ev T fr x) K fr H
  | .lookup t x i ok => match lookupA P H t (ev T fr x) (ev T fr i) ok with
    | some v => K (fr.put o.dst v) H
    | none => False
  | .range t x => rangeA P t (ev T fr x) o.dst K fr H
  | .next it false => nextA (ev T fr it) o.dst K fr H
  | .entry it => match entryA (ev T fr it) H with
    | some v => K (fr.put o.dst v) H
    | none => False
  | _ => match aval P T fr o with
    | some v => K (fr.put o.dst v) H
    | none => False

def operFits (n : Nat) (o : Oper) : Bool := o.dst.all (fun d => decide (d < n)) && o.op.operands.all okOperand

theorem operFits_dst {n : Nat} {o : Oper} (h : operFits n o = true) : ∀ d, o.dst = some d → d < n := by
  intro d hd
  simp only [operFits, Bool.and_eq_true] at h
  rw [hd] at h
  simpa using h.1

theorem operFits_ok {n : Nat} {o : Oper} (h : operFits n o = true) : o.op.operands.all okOperand = true := by
  simp only [operFits, Bool.and_eq_true] at h
  exact h.2

section
variable {P : Program} {T : Tabs} {n : Nat} {G0 : Nat → Nat} {F0 : Imm} {n0 : Nat} {w0 : World} {fr : Fr} {H : Heap} {a : Act} {w : World}

theorem run_callFunc (w : World) {f : FuncId} (h : entersB P f = true) (args : Array Value) : (callFunc f args).run P w = .ok (.enter f args) w := by
  unfold entersB at h
  split at h
  · rename_i fn hf
    simp only [Bool.and_eq_true, bne_iff_ne, ne_eq] at h
    simp [callFunc, program, Sem.run, hf, h.2]
    intro hbn
    rw [hbn] at h
    simp at h
  · cases h

/-- The bytes of a text as a new shared object. -/
theorem convRow_sound {ρ : Maps} {F : Imm} {R : Nat → Role} (h : WR T n w0.heap.size ρ F R fr H a w) (hx : Ext w0.heap.size G0 F0 n0 w0 ρ.G F H.length w) (s d : TypeId) {e : TypeId} (y : ByteArray) (hs : P.underlying s = some .string) (hd : P.underlying d = some (.slice e))
    (he : P.underlying e = some (.int .u8)) (hlim : y.size ≤ growLim) {dst : Option Nat} (hdn : ∀ d, dst = some d → d < n) :
    ∃ w', (convert s d (.string y)).run P w = .ok (.slice (some ⟨w.heap.size, 0, none⟩) y.size (grownCap w y.size 0 e)) w' ∧
      SR T n G0 F0 n0 w0 (fr.put dst (.gsl H.length 0 y.size (grownCap w y.size 0 e))) (H ++ [byteAVs y ++ junk (grownCap w y.size 0 e - y.size)]) (a.put dst (.slice (some ⟨w.heap.size, 0, none⟩) y.size (grownCap w y.size 0 e))) w' := by
  have hge := grownCap_ge w y.size 0 e
  have hle := grownCap_le_maxLen w y.size 0 e (by have : y.size ≤ 1099511627776 := hlim; simp only [maxLen]; omega)
  refine ⟨_, run_bytes_of_string w s d e y hs hd he, newObj_sound h.drew hx.drew (.cells (.inr (Nat.le_refl _)) ?_ ?_) hdn ?_⟩
  · have e1 : (bytesRow y (grownCap w y.size 0 e)).toList = Lib.strCells y ++ List.replicate (grownCap w y.size 0 e - y.size) (.int .u8 0) := by
      simp [bytesRow, Lib.strCells]
    rw [e1]
    refine .append ?_ ?_
    · have h1 := (prepL_strCells (F := F) (G := ρ.G) (k := ρ.n) (Lib.strCells y) (fun v hv => by obtain ⟨b, _, rfl⟩ := List.mem_map.1 hv; rfl)).all2
      have h2 : (Lib.strCells y).map AV.sc = byteAVs y := by simp [Lib.strCells, byteAVs]
      rwa [h2] at h1
    · generalize grownCap w y.size 0 e - y.size = k
      induction k with
      | zero => exact .nil
      | succ k ih =>
        show All2 _ (List.replicate (k + 1) AV.undef) (List.replicate (k + 1) _)
        rw [List.replicate_succ, List.replicate_succ]
        exact .cons (.undef rfl) ih
  · intro c hc
    rcases List.mem_append.1 hc with hc | hc
    · obtain ⟨b, _, rfl⟩ := List.mem_map.1 hc
      rfl
    · exact junk_one _ c hc
  · intro ρ' hG hGn hn'
    have := PRep.gsl (F := F) (G := ρ'.G) (n := ρ'.n) (o := H.length) (off := 0) (len := y.size) (cap := grownCap w y.size 0 e) (by rw [hn']; omega) hge hle
    rw [hGn] at this
    exact this

theorem astep_sound {E : List Nat} {o : Oper} {K : Fr → Heap → Prop} {Q : Exit → Act → World → Prop} (hfit : operFits n o = true) (hs : SR T n G0 F0 n0 w0 fr H a w) (h : astep P T E o K fr H) :
    o.wp P a w (fun a' w' => ∃ fr' H', K fr' H' ∧ SR T n G0 F0 n0 w0 fr' H' a' w') Q := by
  obtain ⟨ρ, F, R, hw, hx⟩ := hs
  have hd := operFits_dst hfit
  have hok := operFits_ok hfit
  -- an operation that only computes
  have pure_ : ∀ {v : AV}, (∃ u, (execOp a.eval o).run P w = .ok (.value u) w ∧ FRep F ρ v u) → K (fr.put o.dst v) H → o.wp P a w (fun a' w' => ∃ fr' H', K fr' H' ∧ SR T n G0 F0 n0 w0 fr' H' a' w') Q := by
    rintro v ⟨u, hr, hu⟩ hK
    unfold Oper.wp
    rw [hr]
    exact ⟨_, _, hK, ρ, F, R, hw.put hd hu, hx⟩
  have value_ : ∀ {s : Sem Value} {u : Value} {w' : World}, execOp a.eval o = (do pure (.value (← s))) → s.run P w = .ok u w' → (∃ fr' H', K fr' H' ∧ SR T n G0 F0 n0 w0 fr' H' (a.put o.dst u) w') →
      o.wp P a w (fun a' w' => ∃ fr' H', K fr' H' ∧ SR T n G0 F0 n0 w0 fr' H' a' w') Q := by
    intro s u w' he hr hK
    unfold Oper.wp
    rw [he, Sem.run_bind, hr]
    exact hK
  obtain ⟨dst, op, type, pos, after, guard⟩ := o
  simp only at hok hd
  have hall : ∀ x ∈ op.operands, okOperand x = true := fun x hx => Array.all_eq_true_iff_forall_mem.1 hok x hx
  unfold astep at h
  simp only at h
  split at h
  · -- alloc
    rename_i t
    split at h
    · rename_i cells hzA
      obtain ⟨z, hz, hz1, hz2, rfl⟩ := zeroA_inv hzA
      have hz3 := h
      have hnt : ∀ vs, z ≠ .tuple vs := by rintro vs rfl; simp [ofValue, notTuple] at hz2
      obtain ⟨hc1, hc2⟩ := ofValue_cells hz1 hnt
      refine value_ (s := Instr.alloc t true (.tuple #[])) rfl (run_alloc' w hz) ?_
      refine alloc_sound hw hx hz3 hd t ?_ ?_
      · rw [hc1]
        exact (prepL_ofCells F ρ.G ρ.n _ hc2).all2.mono fun _ _ _ h => .p h
      · rw [hc1]
        intro c hc
        obtain ⟨u, _, rfl⟩ := List.mem_map.1 hc
        exact ofCell_one u
    · exact h.elim
  · -- box
    rename_i t x
    obtain ⟨h1, h2⟩ := h
    have hxr := ev_rep hw.env hw.tabsRep x (hall x (by simp [Op.operands]))
    exact value_ (s := Instr.box t (a.eval x)) rfl rfl (alloc_sound hw hx h2 hd t (hxr.cells (frep_notTuple h1)) (hxr.ones (frep_notTuple h1)))
  · -- load
    rename_i t x
    split at h
    · rename_i v hv
      have hxr := ev_rep hw.env hw.tabsRep x (hall x (by simp [Op.operands]))
      obtain ⟨u, hu, hr⟩ := run_loadA hw hv hxr
      exact value_ (s := Instr.loadAt t (a.eval x)) rfl hu ⟨_, _, h, ρ, F, R, hw.put hd hr, hx⟩
    · exact h.elim
  · -- store
    rename_i t x y
    obtain ⟨hdst, h⟩ := h
    subst hdst
    have hxr := ev_rep hw.env hw.tabsRep x (hall x (by simp [Op.operands]))
    have hyr := ev_rep hw.env hw.tabsRep y (hall y (by simp [Op.operands]))
    obtain ⟨fr', H', w', hrun, hK, hs⟩ := store_sound hw hx h hxr hyr
    unfold Oper.wp
    have e : execOp a.eval { dst := none, op := .store t x y, type := type, pos := pos, after := after, guard := guard } = (do Instr.storeAt t (a.eval x) (a.eval y); pure .skip) := rfl
    rw [e, Sem.run_bind, hrun]
    exact ⟨fr', H', hK, hs⟩
  · -- buildSlice
    rename_i t k ps
    split at h
    · rename_i v hv
      have hp := ev_parts hw.env hw.tabsRep ps.toList fun p hp => hall p.2 (by simp [Op.operands]; exact ⟨p.1, by simpa using hp⟩)
      have e : (ps.toList.map fun p => (p.1, a.eval p.2)).toArray = ps.map fun p => (p.1, a.eval p.2) := by rw [← Array.toList_map, Array.toArray_toList]
      unfold sliceK at h
      split at h
      · split at h
        · obtain ⟨u, w', hrun, hs⟩ := buildSliceG_sound hw hx hv hp hd
          rw [e] at hrun
          unfold Oper.wp
          simp only [execOp, Sem.run_bind, hrun, Result.andThen_ok]
          exact ⟨_, _, h, hs⟩
        · exact h.elim
      · obtain ⟨u, w', hrun, hs⟩ := buildSlice_sound hw hx hv hp hd
        rw [e] at hrun
        unfold Oper.wp
        simp only [execOp, Sem.run_bind, hrun, Result.andThen_ok]
        exact ⟨_, _, h, hs⟩
    · exact h.elim
  · -- makeSlice
    rename_i t l c
    split at h
    · rename_i v hv
      obtain ⟨u, w', hrun, hs⟩ := makeSlice_sound hw hx hv (ev_rep hw.env hw.tabsRep l (hall l (by simp [Op.operands]))) (ev_rep hw.env hw.tabsRep c (hall c (by simp [Op.operands]))) hd
      exact value_ (s := Instr.makeSlice t (a.eval l) (a.eval c)) rfl hrun ⟨_, _, h, hs⟩
    · exact h.elim
  · -- convert
    rename_i t d x
    have hxr := ev_rep hw.env hw.tabsRep x (hall x (by simp [Op.operands]))
    unfold convK at h
    split at h
    · rename_i v hv
      refine pure_ (v := v) (aval_sound w hw.g.imm hw.env hw.tabsRep hok ?_) h
      simp only [aval]
      exact hv
    · split at h
      · rename_i e y hs hdu hxe
        obtain ⟨he, hlim, h⟩ := h
        rw [hxe] at hxr
        have hv := frep_sc hxr
        obtain ⟨w', hrun, hs'⟩ := convRow_sound hw hx t d y hs hdu he hlim hd
        refine value_ (s := convert t d (a.eval x)) rfl (by rw [hv]; exact hrun) ⟨_, _, h _ _ (by simpa using grownCap_ge w y.size 0 e), hs'⟩
      · exact h.elim
  · -- call
    rename_i c
    obtain ⟨callee, args, argTypes⟩ := c
    have hargs : ∀ x ∈ args.toList, okOperand x = true := fun x hx => hall x (by simp [Op.operands, Call.operands, Array.mem_toList_iff.1 hx])
    split at h
    · -- append
      rename_i hc
      simp only at hc
      subst hc
      obtain ⟨u, w', fr', H', hrun, hK, hs⟩ := h.elim (fun h => h.elim (fun h => append_sound (ty := type) hw hx h hd hargs) (fun h => appendL_sound (ty := type) hw hx h hd hargs)) (fun h => h.elim (fun h => appendS_sound (ty := type) hw hx h hd hargs) (fun h => appendG_sound (ty := type) hw hx h hd hargs))
      unfold Oper.wp execOp
      simp only [resolve, invoke, builtin, Sem.run_bind, Sem.run_pure, Result.andThen_ok]
      rw [hrun]
      exact ⟨fr', H', hK, hs⟩
    · -- another builtin
      split at h
      · rename_i v hv
        refine pure_ (v := v) (aval_sound w hw.g.imm hw.env hw.tabsRep hok ?_) h
        simp only [aval]
        exact hv
      · exact h.elim
    · -- a function's value
      rename_i f hc
      simp only at hc
      subst hc
      unfold AInvoke at h
      have hfr := ev_rep hw.env hw.tabsRep f (hall f (by simp [Op.operands, Call.operands]))
      split at h
      · rename_i g first cap hf
        rw [hf] at hfr
        obtain ⟨vf, vc, hv, hvf, hvc⟩ := frep_func hfr
        obtain ⟨hent, hcall⟩ := h
        have hargsr := ev_norms hw.env hw.tabsRep args.toList hargs
        have hall3 : PRepL F ρ.G H.length (first ++ (args.toList.map fun x => (ev T fr x).norm) ++ cap) (vf ++ args.toList.map a.eval ++ vc) := by
          rw [← hw.hn]
          exact ((PRepL.of_all2 hvf).append hargsr).append (.of_all2 hvc)
        have hC := hcall ρ.G F w _ hw.g hall3
        unfold Oper.wp
        have e : (execOp a.eval { dst := dst, op := .call { callee := .value f, args := args, argTypes := argTypes }, type := type, pos := pos, after := after, guard := guard }).run P w =
            .ok (.enter g (vf ++ args.toList.map a.eval ++ vc).toArray) w := by
          simp only [execOp, resolve, Sem.run_bind]
          rw [hv]
          simp only [Deferred.ofValue, Sem.run_pure, Result.andThen_ok, invoke]
          rw [run_callFunc w hent]
          congr 2
          apply Array.toList_inj.1
          simp
        rw [e]
        show Calls P g _ w _
        refine hC.mono ?_
        rintro e' w' ⟨r, H', v, G', F', hK, rfl, hg', hr', hx'⟩
        obtain ⟨ρ', R', hG, hn', hw'⟩ := hw.called hg' hx'
        refine ⟨_, _, hK, ρ', F', R', hw'.put hd (.p ?_), ?_⟩
        · rw [hG, hn']; exact hr'
        · rw [hG]
          exact hx.trans (hx'.mono hw.B0le)
      · exact h.elim
    · exact h.elim
  · -- makeMap
    obtain ⟨v, w', hrun, hs⟩ := makeMap_sound (P := P) hw hx hd
    exact value_ (s := Instr.makeMap _ none) rfl hrun ⟨_, _, h, hs⟩
  · -- mapUpdate
    rename_i t m k x
    obtain ⟨hdst, h⟩ := h
    subst hdst
    obtain ⟨fr', H', w', hrun, hK, hs⟩ := mapUpd_sound hw hx h (ev_rep hw.env hw.tabsRep m (hall m (by simp [Op.operands]))) (ev_rep hw.env hw.tabsRep k (hall k (by simp [Op.operands]))) (ev_rep hw.env hw.tabsRep x (hall x (by simp [Op.operands])))
    unfold Oper.wp
    have e : execOp a.eval { dst := none, op := .mapUpdate t m k x, type := type, pos := pos, after := after, guard := guard } = (do Instr.mapUpdate t (a.eval m) (a.eval k) (a.eval x); pure .skip) := rfl
    rw [e, Sem.run_bind, hrun]
    exact ⟨fr', H', hK, hs⟩
  · -- insert
    rename_i t m k x
    obtain ⟨hdst, h⟩ := h
    subst hdst
    obtain ⟨fr', H', w', hrun, hK, hs⟩ := mapUpd_sound hw hx h (ev_rep hw.env hw.tabsRep m (hall m (by simp [Op.operands]))) (ev_rep hw.env hw.tabsRep k (hall k (by simp [Op.operands]))) (ev_rep hw.env hw.tabsRep x (hall x (by simp [Op.operands])))
    unfold Oper.wp
    have e : execOp a.eval { dst := none, op := .insert t m k x, type := type, pos := pos, after := after, guard := guard } = (do Instr.mapUpdate t (a.eval m) (a.eval k) (a.eval x); pure .skip) := rfl
    rw [e, Sem.run_bind, hrun]
    exact ⟨fr', H', hK, hs⟩
  · -- lookup
    rename_i t x i ok
    split at h
    · rename_i v hv
      obtain ⟨u, hu, hr⟩ := run_lookupA hw hv (ev_rep hw.env hw.tabsRep x (hall x (by simp [Op.operands]))) (ev_rep hw.env hw.tabsRep i (hall i (by simp [Op.operands])))
      exact value_ (s := Instr.lookup t (a.eval x) (a.eval i) ok) rfl hu ⟨_, _, h, ρ, F, R, hw.put hd hr, hx⟩
    · exact h.elim
  · -- range
    rename_i t x
    obtain ⟨v, w', fr', H', hrun, hK, hs⟩ := range_sound hw hx h hd (ev_rep hw.env hw.tabsRep x (hall x (by simp [Op.operands])))
    exact value_ (s := Instr.range t (a.eval x)) rfl hrun ⟨_, _, hK, hs⟩
  · -- next
    rename_i it
    obtain ⟨v, w', fr', H', hrun, hK, hs⟩ := next_sound hw hx type h hd (ev_rep hw.env hw.tabsRep it (hall it (by simp [Op.operands])))
    exact value_ (s := Instr.next (a.eval it) false type) rfl hrun ⟨_, _, hK, hs⟩
  · -- entry
    rename_i it
    split at h
    · rename_i v hv
      obtain ⟨u, hu, hr⟩ := run_entryA (P := P) hw hv (ev_rep hw.env hw.tabsRep it (hall it (by simp [Op.operands])))
      exact value_ (s := Instr.entry (a.eval it)) rfl hu ⟨_, _, h, ρ, F, R, hw.put hd hr, hx⟩
    · exact h.elim
  · -- all others only compute
    split at h
    · rename_i v hv
      exact pure_ (v := v) (aval_sound w hw.g.imm hw.env hw.tabsRep hok hv) h
    · exact h.elim

end
end Go.Abs

/-
  The abstract layer, part K: rows of steps, code, functions.
-/
namespace Go.Abs
open Go

def aopAt (P : Program) (T : Tabs) (E : List Nat) (ops : Array Oper) (o : Oper) (K : Fr → Heap → Prop) (fr : Fr) (H : Heap) : Prop :=
  match o.guard with
  | none => astep P T E o K fr H
  | some (j, want) =>
    match (ops[j]?).bind (·.dst) with
    | some d =>
      match fr.env d with
      | .sc (.bool b) => if b = want then astep P T E o K fr H else K (fr.put o.dst (.tuple [])) H
      | .tuple _ => K (fr.put o.dst (.tuple [])) H
      | _ => False
    | none => False

def arun (P : Program) (T : Tabs) (E : List Nat) (ops : Array Oper) : List Oper → (Fr → Heap → Prop) → Fr → Heap → Prop
  | [], K, fr, H => K fr H
  | o :: rest, K, fr, H => aopAt P T E ops o (fun fr H => arun P T E ops rest K fr H) fr H

def opsFit (n : Nat) (ops : Array Oper) : Bool := ops.all (operFits n)

section
variable {P : Program} {T : Tabs} {n : Nat} {G0 : Nat → Nat} {F0 : Imm} {n0 : Nat} {w0 : World} {fr : Fr} {H : Heap} {a : Act} {w : World}

theorem frep_tuple0 {F : Imm} {ρ : Maps} : FRep F ρ (.tuple []) undef := .p (.tuple (vs := []) .nil)

theorem SR.put (hs : SR T n G0 F0 n0 w0 fr H a w) {d : Option Nat} (hd : ∀ d', d = some d' → d' < n) : SR T n G0 F0 n0 w0 (fr.put d (.tuple [])) H (a.put d undef) w := by
  obtain ⟨ρ, F, R, hw, hx⟩ := hs
  exact ⟨ρ, F, R, hw.put hd frep_tuple0, hx⟩

theorem yielded_of (hs : SR T n G0 F0 n0 w0 fr H a w) {ops : Array Oper} {j d : Nat} {b : Bool} (hd : (ops[j]?).bind (·.dst) = some d) (he : fr.env d = .sc (.bool b)) : yielded ops a.tmps j = some b := by
  obtain ⟨ρ, F, R, hw, hx⟩ := hs
  have h := hw.env d
  rw [he] at h
  have h' := frep_sc h
  unfold yielded
  rw [hd]
  simp only [Option.bind_some]
  cases ht : a.tmps[d]? with
  | none => rw [Array.getD_eq_getD_getElem?, ht] at h'; cases h'
  | some v =>
    rw [Array.getD_eq_getD_getElem?, ht] at h'
    simp at h'
    subst h'
    rfl

theorem yielded_tuple (hs : SR T n G0 F0 n0 w0 fr H a w) {ops : Array Oper} {j d : Nat} {l : List AV} (hd : (ops[j]?).bind (·.dst) = some d) (he : fr.env d = .tuple l) : yielded ops a.tmps j = none := by
  obtain ⟨ρ, F, R, hw, hx⟩ := hs
  have h := hw.env d
  rw [he] at h
  unfold yielded
  rw [hd]
  simp only [Option.bind_some]
  cases ht : a.tmps[d]? with
  | none => rfl
  | some v =>
    rw [Array.getD_eq_getD_getElem?, ht] at h
    simp at h
    cases h with
    | cell h => cases h with | p h => cases h; rfl

theorem aopAt_sound {E : List Nat} {ops : Array Oper} {i : Nat} {o : Oper} {K : Fr → Heap → Prop} {Q : Exit → Act → World → Prop} (hi : ops[i]? = some o) (hfit : operFits n o = true) (hs : SR T n G0 F0 n0 w0 fr H a w)
    (h : aopAt P T E ops o K fr H) {N : Act → World → Prop} (hN : ∀ fr' H' a' w', K fr' H' → SR T n G0 F0 n0 w0 fr' H' a' w' → N a' w') : wpOp P ops Q i N a w := by
  unfold wpOp
  simp only [hi]
  unfold aopAt at h
  split at h
  · rename_i hg
    rw [if_pos (by simp [Region.wanted, hg])]
    exact .inl (Oper.wp_mono (fun a' w' ⟨fr', H', hK, hs'⟩ => hN fr' H' a' w' hK hs') (astep_sound hfit hs h))
  · rename_i j want hg
    split at h
    · rename_i d hd
      split at h
      · rename_i b he
        have hy := yielded_of hs hd he
        split at h
        · rename_i hb
          rw [if_pos (by simp [Region.wanted, hg, hy, hb])]
          exact .inl (Oper.wp_mono (fun a' w' ⟨fr', H', hK, hs'⟩ => hN fr' H' a' w' hK hs') (astep_sound hfit hs h))
        · rename_i hb
          rw [if_neg (by simp [Region.wanted, hg, hy, hb])]
          exact hN _ _ _ _ h (hs.put (operFits_dst hfit))
      · rename_i l he
        have hy := yielded_tuple hs hd he
        rw [if_neg (by simp [Region.wanted, hg, hy])]
        exact hN _ _ _ _ h (hs.put (operFits_dst hfit))
      · exact h.elim
    · exact h.elim

theorem arun_sound {E : List Nat} {ops : Array Oper} {K : Fr → Heap → Prop} {Q : Exit → Act → World → Prop} (hfit : opsFit n ops = true)
    (hQ : ∀ fr' H' a' w', K fr' H' → SR T n G0 F0 n0 w0 fr' H' a' w' → Q .normal a' w') :
    ∀ (l : List Oper) (k : Nat) (fr : Fr) (H : Heap) (a : Act) (w : World), l = ops.toList.drop k → SR T n G0 F0 n0 w0 fr H a w → arun P T E ops l K fr H → wpOps P ops Q (List.range' k l.length) a w := by
  intro l
  induction l with
  | nil =>
    intro k fr H a w hl hs h
    simp only [List.length_nil, List.range'_zero, wpOps]
    exact hQ _ _ _ _ h hs
  | cons o l ih =>
    intro k fr H a w hl hs h
    have hlt : k < ops.toList.length := by
      rcases Nat.lt_or_ge k ops.toList.length with h' | h'
      · exact h'
      · rw [List.drop_eq_nil_of_le h'] at hl; cases hl
    have hd := List.drop_eq_getElem_cons hlt
    rw [hd] at hl
    injection hl with h1 h2
    have hi : ops[k]? = some o := by
      rw [h1]
      simp only [Array.getElem_toList]
      exact Array.getElem?_eq_getElem (by simpa using hlt)
    simp only [List.length_cons, List.range'_succ]
    rw [wpOps_cons]
    have hof : operFits n o = true := Array.all_eq_true_iff_forall_mem.1 hfit o (Array.mem_of_getElem? hi)
    refine aopAt_sound hi hof hs h ?_
    intro fr' H' a' w' hK hs'
    exact ih (k + 1) fr' H' a' w' h2 hs' hK

end

/-! ### code -/

/-- Abstract code: wherever the frame stands for the model's, the model's code comes to an end as 'Q' says. -/
def AWp (P : Program) (T : Tabs) (n : Nat) (c : Code) (Q : Exit → Fr → Heap → Prop) (fr : Fr) (H : Heap) : Prop :=
  ∀ G0 F0 n0 w0 a w, SR T n G0 F0 n0 w0 fr H a w → c.wp P (fun e a' w' => ∃ fr' H', Q e fr' H' ∧ SR T n G0 F0 n0 w0 fr' H' a' w') a w

def thenQ (K : Fr → Heap → Prop) (Q : Exit → Fr → Heap → Prop) : Exit → Fr → Heap → Prop
  | .normal, fr, H => K fr H
  | e, fr, H => Q e fr H

def blockQ (id : Nat) (Q : Exit → Fr → Heap → Prop) : Exit → Fr → Heap → Prop
  | .exit id', fr, H => if id' = id then Q .normal fr H else Q (.exit id') fr H
  | e, fr, H => Q e fr H

section
variable {P : Program} {T : Tabs} {n : Nat} {Q Q' : Exit → Fr → Heap → Prop} {fr : Fr} {H : Heap}

theorem AWp.mono {c : Code} (h : AWp P T n c Q fr H) (hq : ∀ e fr H, Q e fr H → Q' e fr H) : AWp P T n c Q' fr H :=
  fun G0 F0 n0 w0 a w hs => wp_mono (h G0 F0 n0 w0 a w hs) fun _ _ _ ⟨fr', H', h1, h2⟩ => ⟨fr', H', hq _ _ _ h1, h2⟩

theorem AWp.skip (h : Q .normal fr H) : AWp P T n .skip Q fr H := fun _ _ _ _ _ _ hs => wp_skip ⟨_, _, h, hs⟩
theorem AWp.label {l : Nat} (h : Q .normal fr H) : AWp P T n (.label l) Q fr H := fun _ _ _ _ _ _ hs => wp_label ⟨_, _, h, hs⟩
theorem AWp.scope {c : Code} (h : AWp P T n c (fun e fr H => (match e with | .goto _ => False | _ => True) ∧ Q e fr H) fr H) : AWp P T n (.scope c) Q fr H :=
  fun G0 F0 n0 w0 a w hs => wp_scope_straight (wp_mono (h G0 F0 n0 w0 a w hs) fun e _ _ ⟨fr', H', h1, h2⟩ => by
    cases e <;> first | exact h1.1.elim | exact ⟨fr', H', h1.2, h2⟩)
theorem AWp.exit {id : Nat} (h : Q (.exit id) fr H) : AWp P T n (.exit id) Q fr H := fun _ _ _ _ _ _ hs => wp_exit ⟨_, _, h, hs⟩
theorem AWp.ret (h : Q .ret fr H) : AWp P T n .ret Q fr H := fun _ _ _ _ _ _ hs => wp_ret ⟨_, _, h, hs⟩

theorem AWp.seq {x y : Code} (h : AWp P T n x (thenQ (AWp P T n y Q) Q) fr H) : AWp P T n (.seq x y) Q fr H := by
  intro G0 F0 n0 w0 a w hs
  refine wp_seq (wp_mono (h G0 F0 n0 w0 a w hs) ?_)
  rintro e a' w' ⟨fr', H', h1, h2⟩
  cases e <;> first | exact h1 G0 F0 n0 w0 a' w' h2 | exact ⟨fr', H', h1, h2⟩

theorem AWp.cond {c : Operand} {x y : Code} {t : Bool} (hc : ev T fr c = .sc (.bool t)) (hk : okOperand c = true) (ht : t = true → AWp P T n x Q fr H) (hf : t = false → AWp P T n y Q fr H) : AWp P T n (.cond c x y) Q fr H := by
  intro G0 F0 n0 w0 a w hs
  have hs' := hs
  obtain ⟨ρ, F, R, hw, hx⟩ := hs'
  have h := ev_rep hw.env hw.tabsRep c hk
  rw [hc] at h
  exact wp_cond_split (frep_sc h) (fun e => ht e G0 F0 n0 w0 a w hs) (fun e => hf e G0 F0 n0 w0 a w hs)

theorem AWp.block {id : Nat} {c : Code} (h : AWp P T n c (blockQ id Q) fr H) : AWp P T n (.block id c) Q fr H := by
  intro G0 F0 n0 w0 a w hs
  refine wp_block (wp_mono (h G0 F0 n0 w0 a w hs) ?_)
  rintro e a' w' ⟨fr', H', h1, h2⟩
  cases e with
  | exit id' =>
    simp only [blockQ, Exit.inBlock] at h1 ⊢
    split at h1
    · rename_i he; rw [if_pos he]; exact ⟨fr', H', h1, h2⟩
    · rename_i he; rw [if_neg he]; exact ⟨fr', H', h1, h2⟩
  | _ => exact ⟨fr', H', h1, h2⟩

theorem AWp.region {id : Nat} {ops : Array Oper} (E : List Nat) (hfit : opsFit n ops = true) (h : arun P T E ops ops.toList (Q .normal) fr H) : AWp P T n (.region id ops false) Q fr H := by
  intro G0 F0 n0 w0 a w hs
  refine wp_region ?_
  have := arun_sound (Q := fun e a' w' => ∃ fr' H', Q e fr' H' ∧ SR T n G0 F0 n0 w0 fr' H' a' w') hfit (fun fr' H' a' w' h1 h2 => ⟨fr', H', h1, h2⟩) ops.toList 0 fr H a w (by simp) hs h
  rw [List.range_eq_range']
  simpa using this

/-- A loop, at the head of a round. -/
def ALp (P : Program) (T : Tabs) (n : Nat) (c : Code) (Q : Exit → Fr → Heap → Prop) (fr : Fr) (H : Heap) : Prop :=
  ∀ G0 F0 n0 w0 a w, SR T n G0 F0 n0 w0 fr H a w → ∀ (b : Frame) (k : List Item) (cs : List Frame),
    ∃ e a' w', (∃ fr' H', Q e fr' H' ∧ SR T n G0 F0 n0 w0 fr' H' a' w') ∧ Arrives P (lone (b.at a (.code c :: .inLoop c :: k)) cs w) b k cs e a' w'

theorem AWp.loop {c : Code} (h : ALp P T n c Q fr H) : AWp P T n (.loop c) Q fr H := by
  intro G0 F0 n0 w0 a w hs b k cs
  obtain ⟨e, a', w', hq, harr⟩ := h G0 F0 n0 w0 a w hs b k cs
  exact ⟨e, a', w', hq, .of_steps (.one step_loop) harr⟩

/-- A round of a loop, and then the loop again. -/
theorem ALp.round {c : Code} (h : AWp P T n c (thenQ (ALp P T n c Q) Q) fr H) : ALp P T n c Q fr H := by
  intro G0 F0 n0 w0 a w hs b k cs
  obtain ⟨e, a₁, w₁, ⟨fr', H', h1, h2⟩, harr⟩ := h G0 F0 n0 w0 a w hs b (.inLoop c :: k) cs
  have pass : ∀ e, e ≠ .normal → Q e fr' H' → Arrives P (lone (b.at a (.code c :: .inLoop c :: k)) cs w) b (.inLoop c :: k) cs e a₁ w₁ →
      ∃ e a' w', (∃ fr' H', Q e fr' H' ∧ SR T n G0 F0 n0 w0 fr' H' a' w') ∧ Arrives P (lone (b.at a (.code c :: .inLoop c :: k)) cs w) b k cs e a' w' := by
    intro e he hq harr
    exact ⟨e, a₁, w₁, ⟨fr', H', hq, h2⟩, .pass (x := .inLoop c) rfl (fun _ _ => .inl he) harr⟩
  cases e with
  | normal =>
    have h3 : ALp P T n c Q fr' H' := h1
    obtain ⟨e₂, a₂, w₂, hq₂, harr₂⟩ := h3 G0 F0 n0 w0 a₁ w₁ h2 b k cs
    exact ⟨e₂, a₂, w₂, hq₂, .of_steps (Steps.trans harr (.one step_inLoop)) harr₂⟩
  | exit id => exact pass _ (by simp) h1 harr
  | goto l => exact pass _ (by simp) h1 harr
  | ret => exact pass _ (by simp) h1 harr
  | panic ch => exact pass _ (by simp) h1 harr
  | outgrown => exact pass _ (by simp) h1 harr

end

/-! ### functions -/

/-- The frame at a function's beginning. -/
def fr0 (args : List AV) : Fr := { env := fun t => args.getD t (.tuple []), box := fun _ => none, gen := fun _ => 0, tab := fun _ => none, tgen := fun _ => 0 }

/-- The results of a function. -/
def resA (P : Program) (fr : Fr) (H : Heap) : List ResultVar → Option (List AV)
  | [] => some []
  | .tmp t :: rest => (resA P fr H rest).map ((fr.env t).norm :: ·)
  | .cell a t :: rest => (loadA P fr H t (fr.env a)).bind fun v => (resA P fr H rest).map (v.norm :: ·)

def oneOrTuple : List AV → AV
  | [x] => x
  | l => .tuple l

/-- The end of a function. -/
def retQ (P : Program) (rs : List ResultVar) (Post : AV → Heap → Prop) : Exit → Fr → Heap → Prop
  | .normal, fr, H | .ret, fr, H => match resA P fr H rs with
    | some l => Post (oneOrTuple l) H
    | none => False
  | _, _, _ => False

section
variable {P : Program} {T : Tabs} {n : Nat} {fr : Fr} {H : Heap} {a : Act} {w : World}

def resF (tmps : Array Value) (x : ResultVar) : Sem Value :=
  match x with
  | .tmp t => pure (tmps.getD t undef)
  | .cell a t => do loadVar t (← asAddr (tmps.getD a undef))

theorem run_loadAt_asAddr {t : TypeId} {u v : Value} (h : (Instr.loadAt t u).run P w = .ok v w) : (do loadVar t (← asAddr u)).run P w = .ok v w := by
  unfold Instr.loadAt at h
  cases u with
  | pointer p =>
    cases p with
    | none => simp [Instr.sureAddr, Sem.run_bind, stuck, Sem.run, Result.andThen] at h
    | some a => exact h
  | _ => simp [Instr.sureAddr, Sem.run_bind, stuck, Sem.run, Result.andThen] at h

theorem run_resA {ρ : Maps} {F : Imm} {R : Nat → Role} {B0 : Nat} (h : WR T n B0 ρ F R fr H a w) : ∀ (rs : List ResultVar) (l : List AV), resA P fr H rs = some l →
    ∃ vs : List Value, (rs.mapM (resF a.tmps)).run P w = .ok vs w ∧ PRepL F ρ.G ρ.n l vs := by
  intro rs
  induction rs with
  | nil => intro l hl; simp [resA] at hl; subst hl; exact ⟨[], rfl, .nil⟩
  | cons r rs ih =>
    intro l hl
    cases r with
    | tmp t =>
      simp only [resA, Option.map_eq_some_iff] at hl
      obtain ⟨l', h1, rfl⟩ := hl
      obtain ⟨vs, h2, h3⟩ := ih l' h1
      refine ⟨a.tmps.getD t undef :: vs, ?_, .cons (h.env t).norm h3⟩
      simp only [List.mapM_cons, Sem.run_bind, resF, Sem.run_pure, Result.andThen_ok, h2]
    | cell ad t =>
      simp only [resA, Option.bind_eq_some_iff, Option.map_eq_some_iff] at hl
      obtain ⟨v, hv, l', h1, rfl⟩ := hl
      obtain ⟨vs, h2, h3⟩ := ih l' h1
      obtain ⟨u, hu, hr⟩ := run_loadA h hv (h.env ad)
      refine ⟨u :: vs, ?_, .cons hr.norm h3⟩
      have hu' := run_loadAt_asAddr hu
      simp only [List.mapM_cons]
      rw [Sem.run_bind]
      have e : (resF a.tmps (.cell ad t)) = (do loadVar t (← asAddr (a.tmps.getD ad undef))) := rfl
      rw [e, hu', Result.andThen_ok, Sem.run_bind, h2]
      rfl

theorem run_results {ρ : Maps} {F : Imm} {R : Nat → Role} {B0 : Nat} (h : WR T n B0 ρ F R fr H a w) {fn : Func} {l : List AV} (hl : resA P fr H fn.results.toList = some l) :
    ∃ v, (results fn a.tmps).run P w = .ok v w ∧ PRep F ρ.G ρ.n (oneOrTuple l) v := by
  obtain ⟨vs, h1, h2⟩ := run_resA (P := P) h _ _ hl
  have e : results fn a.tmps = (do
      let vs ← fn.results.mapM (resF a.tmps)
      pure (if h : vs.size = 1 then vs[0] else .tuple vs)) := rfl
  have hm : (fn.results.mapM (resF a.tmps)).run P w = .ok vs.toArray w := by
    rw [← Array.toArray_toList (xs := fn.results), List.mapM_toArray, run_map, h1]
    rfl
  rw [e, Sem.run_bind, hm, Result.andThen_ok, Sem.run_pure]
  refine ⟨_, rfl, ?_⟩
  cases h2 with
  | nil => exact .tuple (vs := []) .nil
  | cons h3 h4 =>
    cases h4 with
    | nil => exact h3
    | cons h5 h6 =>
      have := PRep.tuple (.cons h3 (.cons h5 h6))
      simpa [oneOrTuple] using this

open Classical in
/-- **A function's contract, by its body.** -/
theorem ACallP.intro {f : FuncId} {fn : Func} {c : Code} {args : List AV} {Post : AV → Heap → Prop} (hf : P.funcs[f]? = some fn) (hb : fn.body = some c) (hname : entersB P f = true) (hlen : args.length ≤ fn.ntmps)
    (h : AWp P T fn.ntmps c (retQ P fn.results.toList Post) (fr0 args) H) : ACallP P T f args H Post := by
  refine ⟨hname, fun G F w vs hg ha => ?_⟩
  refine calls_of_wp hf hb ?_
  have hvl : args.length = vs.length := ha.length
  let ρ : Maps := { G := G, n := H.length, L := fun _ _ => 0, lg := fun _ => 0, A := fun _ _ => none, ag := fun _ => 0 }
  let R : Nat → Role := fun b => if ∃ o, o < H.length ∧ G o = b then .glob else .free
  have hw : WR T fn.ntmps w.heap.size ρ F R (fr0 args) H { tmps := vs.toArray ++ Array.replicate (fn.ntmps - vs.toArray.size) undef, defers := [] } w := by
    refine ⟨hg, ?_, rfl, ?_, rfl, fun _ => rfl, fun _ => rfl, ?_, ?_, ?_, ?_, ?_, Nat.le_refl _⟩
    · simp only [Array.size_append, List.size_toArray, Array.size_replicate]; omega
    · intro t
      show FRep F ρ (args.getD t (.tuple [])) _
      rcases Nat.lt_or_ge t args.length with ht | ht
      · obtain ⟨v, hv, hr⟩ := ha.get (List.getElem?_eq_getElem ht)
        have e1 : args.getD t (.tuple []) = args[t] := by simp [ht]
        have e2 : (vs.toArray ++ Array.replicate (fn.ntmps - vs.toArray.size) undef).getD t undef = v := by
          rw [Array.getD_eq_getD_getElem?, Array.getElem?_append_left (by simpa [← hvl] using ht)]
          simp [hv]
        rw [e1, e2]
        exact .p hr
      · have e1 : args.getD t (.tuple []) = .tuple [] := by simp [List.getElem?_eq_none ht]
        have e2 : (vs.toArray ++ Array.replicate (fn.ntmps - vs.toArray.size) undef).getD t undef = undef := by
          rw [Array.getD_eq_getD_getElem?, Array.getElem?_append_right (by simpa [← hvl] using ht), Array.getElem?_replicate]
          split <;> rfl
        rw [e1, e2]
        exact frep_tuple0
    · intro d cs hd; cases hd
    · intro k m hk; cases hk
    · intro b j v hv d
      show (if ∃ o, o < H.length ∧ G o = b then Role.glob else .free) ≠ .box d
      split <;> simp
    · intro o ho
      show (if ∃ o', o' < H.length ∧ G o' = G o then Role.glob else .free) = .glob
      rw [if_pos ⟨o, ho, rfl⟩]
    · intro b hb'
      show (if ∃ o, o < H.length ∧ G o = b then Role.glob else .free) = .free
      rw [if_neg]
      rintro ⟨o, ho, rfl⟩
      obtain ⟨ob, h4, _⟩ := hg.glob o _ (List.getElem?_eq_getElem ho)
      have := heap_lt h4
      omega
  refine wp_mono (h G F H.length w _ w ⟨ρ, F, R, hw, Ext.refl⟩) ?_
  rintro e a' w' ⟨fr', H', hq, ρ', F', R', hw', hx'⟩
  have key : ∀ {l : List AV}, resA P fr' H' fn.results.toList = some l → Post (oneOrTuple l) H' → a'.defers = [] ∧ ∃ v, (results fn a'.tmps).run P w' = .ok v w' ∧
      ∃ r H' v' G' F', Post r H' ∧ Ending.returned v = .returned v' ∧ GW T G' F' H' w' ∧ PRep F' G' H'.length r v' ∧ Ext w.heap.size G F H.length w G' F' H'.length w' := by
    intro l hl hp
    obtain ⟨v, hv, hr⟩ := run_results hw' hl
    rw [hw'.hn] at hr
    exact ⟨hw'.defers, v, hv, _, _, v, _, _, hp, rfl, hw'.g, hr, hx'⟩
  cases e with
  | normal =>
    simp only [retQ] at hq
    split at hq
    · rename_i l hl; exact key hl hq
    · exact hq.elim
  | ret =>
    simp only [retQ] at hq
    split at hq
    · rename_i l hl; exact key hl hq
    · exact hq.elim
  | _ => exact hq.elim

end
end Go.Abs
