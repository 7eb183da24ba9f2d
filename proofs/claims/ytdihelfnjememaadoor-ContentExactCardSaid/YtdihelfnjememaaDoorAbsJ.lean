/-
  The abstract layer, part J: calls; one step; a row of steps.
-/
import Derived.Test.YtdihelfnjememaaDoorAbsI
set_option linter.unusedSimpArgs false
set_option linter.unusedVariables false
namespace Go.Abs
open Go

/-- A function that is entered by a call (it has a Go body). -/
def entersB (P : Program) (f : FuncId) : Bool :=
  match P.funcs[f]? with
  | some fn => fn.body.isSome && fn.name != "runtime.NumGoroutine"
  | none => false

/-- **The contract of a function**: called with abstract values in a shared memory, it returns one, and leaves a shared memory, as 'Post' says; of all other memory that was there nothing has turned. -/
def ACallP (P : Program) (T : Tabs) (f : FuncId) (args : List AV) (H : Heap) (Post : AV → Heap → Prop) : Prop :=
  entersB P f = true ∧ ∀ (G : Nat → Nat) (F : Imm) (w : World) (vs : List Value), GW T G F H w → PRepL F G H.length args vs →
    Calls P f vs.toArray w fun e w' => ∃ r H' v G' F', Post r H' ∧ e = .returned v ∧ GW T G' F' H' w' ∧ PRep F' G' H'.length r v ∧ Ext w.heap.size G F H.length w G' F' H'.length w'

/-- The contract with one result. -/
def ACall (P : Program) (T : Tabs) (f : FuncId) (args : List AV) (H : Heap) (r : AV) (H' : Heap) : Prop := ACallP P T f args H fun r' H'' => r' = r ∧ H'' = H'

theorem ACallP.mono {P : Program} {T : Tabs} {f : FuncId} {args : List AV} {H : Heap} {Post Post' : AV → Heap → Prop} (h : ACallP P T f args H Post) (hp : ∀ r H', Post r H' → Post' r H') : ACallP P T f args H Post' :=
  ⟨h.1, fun G F w vs hg ha => (h.2 G F w vs hg ha).mono fun _ _ ⟨r, H', v, G', F', h1, h2⟩ => ⟨r, H', v, G', F', hp _ _ h1, h2⟩⟩

theorem ACall.post {P : Program} {T : Tabs} {f : FuncId} {args : List AV} {H H' : Heap} {r : AV} {Post : AV → Heap → Prop} (h : ACall P T f args H r H') (hp : Post r H') : ACallP P T f args H Post :=
  ACallP.mono h fun r' H'' ⟨e1, e2⟩ => by subst e1; subst e2; exact hp

/-- A call of a function's value. -/
def AInvoke (P : Program) (T : Tabs) (fv : AV) (args : List AV) (H : Heap) (Post : AV → Heap → Prop) : Prop :=
  match fv with
  | .func (.func g) first cap => ACallP P T g (first ++ args ++ cap) H Post
  | _ => False

section
variable {P : Program} {T : Tabs} {n : Nat} {G0 : Nat → Nat} {F0 : Imm} {n0 : Nat} {w0 : World} {fr : Fr} {H : Heap} {a : Act} {w : World}

open Classical in
/-- Behind a call. -/
theorem WR.called {ρ : Maps} {F : Imm} {R : Nat → Role} {B0 : Nat} (h : WR T n B0 ρ F R fr H a w) {G' : Nat → Nat} {F' : Imm} {H' : Heap} {w' : World} (hg : GW T G' F' H' w')
    (hx : Ext w.heap.size ρ.G F H.length w G' F' H'.length w') : ∃ ρ' R', ρ'.G = G' ∧ ρ'.n = H'.length ∧ WR T n B0 ρ' F' R' fr H' a w' := by
  let ρ' : Maps := { ρ with G := G', n := H'.length }
  let R' : Nat → Role := fun b => if ∃ o, H.length ≤ o ∧ o < H'.length ∧ G' o = b then .glob else R b
  have hgr : Grow F F' ρ.G G' ρ.n H'.length := by
    refine ⟨fun b o v hv => ?_, by rw [h.hn]; exact hx.len, fun o ho => hx.hG o (by rw [← h.hn]; exact ho)⟩
    rw [hx.hF b o (h.F_lt hv)]
    exact hv
  have hmg : MGrow F F' ρ ρ' := ⟨hgr, fun _ => Nat.le_refl _, fun _ _ _ => rfl, fun _ => Nat.le_refl _, fun _ _ _ => rfl⟩
  have hRold : ∀ b, b < w.heap.size → R' b = R b := by
    intro b hb
    show (if ∃ o, H.length ≤ o ∧ o < H'.length ∧ G' o = b then Role.glob else R b) = R b
    rw [if_neg]
    rintro ⟨o, h1, h2, rfl⟩
    have := hx.Gnew o h1 h2
    omega
  have hnot : ∀ b, R b ≠ .glob → ∀ o, o < H.length → ρ.G o ≠ b := by
    rintro b hb o ho rfl
    exact hb (h.grole o ho)
  refine ⟨ρ', R', rfl, rfl, ⟨hg, h.size, h.defers, h.env.grow hmg, rfl, h.lg, h.ag, ?_, ?_, ?_, ?_, ?_, Nat.le_trans h.B0le hx.size⟩⟩
  · intro d cs hd
    obtain ⟨h1, h2, h3, vs, ty, h4, h5⟩ := h.box d cs hd
    have hlt := heap_lt h4
    exact ⟨h1, by rw [hRold _ hlt]; exact h2, h3, vs, ty, (hx.heap _ hlt (hnot _ (by rw [h2]; simp))).trans h4, h5.mono fun _ _ _ h => h.grow hmg⟩
  · intro k m hk b c sz hA
    obtain ⟨h1, h2, h3, h3', ⟨vs, ty, h4, h5⟩, h6⟩ := h.tok k m hk b c sz hA
    have hlt := heap_lt h4
    refine ⟨h1, by rw [hRold _ hlt]; exact h2, h3, h3', ⟨vs, ty, (hx.heap _ hlt (hnot _ (by rw [h2]; simp))).trans h4, h5⟩, fun j hj => ?_⟩
    rw [hx.hF b j hlt]
    exact h6 j hj
  · intro b j v hf
    rcases Nat.lt_or_ge b w.heap.size with hb | hb
    · rw [hRold b hb]
      rw [hx.hF b j hb] at hf
      exact h.frole b j v hf
    · left
      show (if ∃ o, H.length ≤ o ∧ o < H'.length ∧ G' o = b then Role.glob else R b) = .free
      rw [if_neg]
      · exact h.rfresh b hb
      · rintro ⟨o, h1, h2, rfl⟩
        rw [hg.gF o j h2] at hf
        cases hf
  · intro o ho
    rcases Nat.lt_or_ge o H.length with h1 | h1
    · have hr := h.grole o h1
      have hlt : ρ.G o < w.heap.size := by
        rcases Nat.lt_or_ge (ρ.G o) w.heap.size with h' | h'
        · exact h'
        · rw [h.rfresh _ h'] at hr; cases hr
      show R' (G' o) = .glob
      rw [hx.hG o h1, hRold _ hlt]
      exact hr
    · show (if ∃ o', H.length ≤ o' ∧ o' < H'.length ∧ G' o' = G' o then Role.glob else R (G' o)) = .glob
      rw [if_pos ⟨o, h1, ho, rfl⟩]
  · intro b hb
    show (if ∃ o, H.length ≤ o ∧ o < H'.length ∧ G' o = b then Role.glob else R b) = .free
    rw [if_neg]
    · exact h.rfresh b (Nat.le_trans hx.size hb)
    · rintro ⟨o, h1, h2, rfl⟩
      have hcs : H'[o]? = some H'[o] := List.getElem?_eq_getElem h2
      obtain ⟨vs, ty, h4, _⟩ := hg.glob o _ hcs
      have := heap_lt h4
      omega

end

/-! ### one step -/

/-- The zero value's cells, of any type. -/
def zeroA (P : Program) (t : TypeId) : Option (List AV) :=
  match zeroOf P t with
  | some z => if okConst z = true ∧ notTuple (ofValue z) = true then some (ofValue z).cells else none
  | none => none

theorem zeroA_inv {P : Program} {t : TypeId} {cs : List AV} (h : zeroA P t = some cs) : ∃ z, zeroOf P t = some z ∧ okConst z = true ∧ notTuple (ofValue z) = true ∧ cs = (ofValue z).cells := by
  unfold zeroA at h
  split at h
  · rename_i z hz
    split at h
    · rename_i hc
      injection h with h
      exact ⟨z, hz, hc.1, hc.2, h.symm⟩
    · cases h
  · cases h

def astep (P : Program) (T : Tabs) (E : List Nat) (o : Oper) (K : Fr → Heap → Prop) (fr : Fr) (H : Heap) : Prop :=
  match o.op with
  | .alloc t => match zeroA P t with
    | some z => allocA E o.dst z K fr H
    | none => False
  | .box _ x => notTuple (ev T fr x) = true ∧ allocA E o.dst (ev T fr x).cells K fr H
  | .load t x => match loadA P fr H t (ev T fr x) with
    | some v => K (fr.put o.dst v) H
    | none => False
  | .store t x y => o.dst = none ∧ storeA P t (ev T fr x) (ev T fr y) K fr H
  | .buildSlice t n ps => match buildSliceA P t n (ps.toList.map fun p => (p.1, ev T fr p.2)) with
    | some v => K (fr.put o.dst v) H
    | none => False
  | .call c => match c.callee with
    | .builtin .append => appendA P T c o.dst K fr H
    | .builtin _ => match callA P T fr c with
      | some v => K (fr.put o.dst v) H
      | none => False
    | .value f => AInvoke P T (ev T fr f) (c.args.toList.map fun x => (ev T fr x).norm) H fun r H' => K (fr.put o.dst r) H'
    | .invoke _ _ => False
  | _ => match aval P T fr o with
    | some v => K (fr.put o.dst v) H
    | none => False

def operFits (n : Nat) (o : Oper) : Bool := o.dst.all (fun d => decide (d < n)) && o.op.operands.all okOperand

theorem operFits_dst {n : Nat} {o : Oper} (h : operFits n o = true) : ∀ d, o.dst = some d → d < n := by
  intro d hd
  simp only [operFits, Bool.and_eq_true] at h
  rw [hd] at h
  simpa using h.1

theorem operFits_ok {n : Nat} {o : Oper} (h : operFits n o = true) : o.op.operands.all okOperand = true := by
  simp only [operFits, Bool.and_eq_true] at h
  exact h.2

section
variable {P : Program} {T : Tabs} {n : Nat} {G0 : Nat → Nat} {F0 : Imm} {n0 : Nat} {w0 : World} {fr : Fr} {H : Heap} {a : Act} {w : World}

theorem run_callFunc (w : World) {f : FuncId} (h : entersB P f = true) (args : Array Value) : (callFunc f args).run P w = .ok (.enter f args) w := by
  unfold entersB at h
  split at h
  · rename_i fn hf
    simp only [Bool.and_eq_true, bne_iff_ne, ne_eq] at h
    simp [callFunc, program, Sem.run, hf, h.2]
    intro hbn
    rw [hbn] at h
    simp at h
  · cases h

theorem astep_sound {E : List Nat} {o : Oper} {K : Fr → Heap → Prop} {Q : Exit → Act → World → Prop} (hfit : operFits n o = true) (hs : SR T n G0 F0 n0 w0 fr H a w) (h : astep P T E o K fr H) :
    o.wp P a w (fun a' w' => ∃ fr' H', K fr' H' ∧ SR T n G0 F0 n0 w0 fr' H' a' w') Q := by
  obtain ⟨ρ, F, R, hw, hx⟩ := hs
  have hd := operFits_dst hfit
  have hok := operFits_ok hfit
  -- an operation that only computes
  have pure_ : ∀ {v : AV}, (∃ u, (execOp a.eval o).run P w = .ok (.value u) w ∧ FRep F ρ v u) → K (fr.put o.dst v) H → o.wp P a w (fun a' w' => ∃ fr' H', K fr' H' ∧ SR T n G0 F0 n0 w0 fr' H' a' w') Q := by
    rintro v ⟨u, hr, hu⟩ hK
    unfold Oper.wp
    rw [hr]
    exact ⟨_, _, hK, ρ, F, R, hw.put hd hu, hx⟩
  have value_ : ∀ {s : Sem Value} {u : Value} {w' : World}, execOp a.eval o = (do pure (.value (← s))) → s.run P w = .ok u w' → (∃ fr' H', K fr' H' ∧ SR T n G0 F0 n0 w0 fr' H' (a.put o.dst u) w') →
      o.wp P a w (fun a' w' => ∃ fr' H', K fr' H' ∧ SR T n G0 F0 n0 w0 fr' H' a' w') Q := by
    intro s u w' he hr hK
    unfold Oper.wp
    rw [he, Sem.run_bind, hr]
    exact hK
  obtain ⟨dst, op, type, pos, after, guard⟩ := o
  simp only at hok hd
  have hall : ∀ x ∈ op.operands, okOperand x = true := fun x hx => Array.all_eq_true_iff_forall_mem.1 hok x hx
  unfold astep at h
  simp only at h
  split at h
  · -- alloc
    rename_i t
    split at h
    · rename_i cells hzA
      obtain ⟨z, hz, hz1, hz2, rfl⟩ := zeroA_inv hzA
      have hz3 := h
      have hnt : ∀ vs, z ≠ .tuple vs := by rintro vs rfl; simp [ofValue, notTuple] at hz2
      obtain ⟨hc1, hc2⟩ := ofValue_cells hz1 hnt
      refine value_ (s := Instr.alloc t true (.tuple #[])) rfl (run_alloc' w hz) ?_
      refine alloc_sound hw hx hz3 hd t ?_ ?_
      · rw [hc1]
        exact (prepL_ofCells F ρ.G ρ.n _ hc2).all2.mono fun _ _ _ h => .p h
      · rw [hc1]
        intro c hc
        obtain ⟨u, _, rfl⟩ := List.mem_map.1 hc
        exact ofCell_one u
    · exact h.elim
  · -- box
    rename_i t x
    obtain ⟨h1, h2⟩ := h
    have hxr := ev_rep hw.env hw.tabsRep x (hall x (by simp [Op.operands]))
    exact value_ (s := Instr.box t (a.eval x)) rfl rfl (alloc_sound hw hx h2 hd t (hxr.cells (frep_notTuple h1)) (hxr.ones (frep_notTuple h1)))
  · -- load
    rename_i t x
    split at h
    · rename_i v hv
      have hxr := ev_rep hw.env hw.tabsRep x (hall x (by simp [Op.operands]))
      obtain ⟨u, hu, hr⟩ := run_loadA hw hv hxr
      exact value_ (s := Instr.loadAt t (a.eval x)) rfl hu ⟨_, _, h, ρ, F, R, hw.put hd hr, hx⟩
    · exact h.elim
  · -- store
    rename_i t x y
    obtain ⟨hdst, h⟩ := h
    subst hdst
    have hxr := ev_rep hw.env hw.tabsRep x (hall x (by simp [Op.operands]))
    have hyr := ev_rep hw.env hw.tabsRep y (hall y (by simp [Op.operands]))
    obtain ⟨fr', H', w', hrun, hK, hs⟩ := store_sound hw hx h hxr hyr
    unfold Oper.wp
    have e : execOp a.eval { dst := none, op := .store t x y, type := type, pos := pos, after := after, guard := guard } = (do Instr.storeAt t (a.eval x) (a.eval y); pure .skip) := rfl
    rw [e, Sem.run_bind, hrun]
    exact ⟨fr', H', hK, hs⟩
  · -- buildSlice
    rename_i t k ps
    split at h
    · rename_i v hv
      have hp := ev_parts hw.env hw.tabsRep ps.toList fun p hp => hall p.2 (by simp [Op.operands]; exact ⟨p.1, by simpa using hp⟩)
      obtain ⟨u, w', hrun, hs⟩ := buildSlice_sound hw hx hv hp hd
      have e : (ps.toList.map fun p => (p.1, a.eval p.2)).toArray = ps.map fun p => (p.1, a.eval p.2) := by rw [← Array.toList_map, Array.toArray_toList]
      rw [e] at hrun
      unfold Oper.wp
      simp only [execOp, Sem.run_bind, hrun, Result.andThen_ok]
      exact ⟨_, _, h, hs⟩
    · exact h.elim
  · -- call
    rename_i c
    obtain ⟨callee, args, argTypes⟩ := c
    have hargs : ∀ x ∈ args.toList, okOperand x = true := fun x hx => hall x (by simp [Op.operands, Call.operands, Array.mem_toList_iff.1 hx])
    split at h
    · -- append
      rename_i hc
      simp only at hc
      subst hc
      obtain ⟨u, w', fr', H', hrun, hK, hs⟩ := append_sound (ty := type) hw hx h hd hargs
      unfold Oper.wp execOp
      simp only [resolve, invoke, builtin, Sem.run_bind, Sem.run_pure, Result.andThen_ok]
      rw [hrun]
      exact ⟨fr', H', hK, hs⟩
    · -- another builtin
      split at h
      · rename_i v hv
        refine pure_ (v := v) (aval_sound w hw.env hw.tabsRep hok ?_) h
        simp only [aval]
        exact hv
      · exact h.elim
    · -- a function's value
      rename_i f hc
      simp only at hc
      subst hc
      unfold AInvoke at h
      have hfr := ev_rep hw.env hw.tabsRep f (hall f (by simp [Op.operands, Call.operands]))
      split at h
      · rename_i g first cap hf
        rw [hf] at hfr
        obtain ⟨vf, vc, hv, hvf, hvc⟩ := frep_func hfr
        obtain ⟨hent, hcall⟩ := h
        have hargsr := ev_norms hw.env hw.tabsRep args.toList hargs
        have hall3 : PRepL F ρ.G H.length (first ++ (args.toList.map fun x => (ev T fr x).norm) ++ cap) (vf ++ args.toList.map a.eval ++ vc) := by
          rw [← hw.hn]
          exact ((PRepL.of_all2 hvf).append hargsr).append (.of_all2 hvc)
        have hC := hcall ρ.G F w _ hw.g hall3
        unfold Oper.wp
        have e : (execOp a.eval { dst := dst, op := .call { callee := .value f, args := args, argTypes := argTypes }, type := type, pos := pos, after := after, guard := guard }).run P w =
            .ok (.enter g (vf ++ args.toList.map a.eval ++ vc).toArray) w := by
          simp only [execOp, resolve, Sem.run_bind]
          rw [hv]
          simp only [Deferred.ofValue, Sem.run_pure, Result.andThen_ok, invoke]
          rw [run_callFunc w hent]
          congr 2
          apply Array.toList_inj.1
          simp
        rw [e]
        show Calls P g _ w _
        refine hC.mono ?_
        rintro e' w' ⟨r, H', v, G', F', hK, rfl, hg', hr', hx'⟩
        obtain ⟨ρ', R', hG, hn', hw'⟩ := hw.called hg' hx'
        refine ⟨_, _, hK, ρ', F', R', hw'.put hd (.p ?_), ?_⟩
        · rw [hG, hn']; exact hr'
        · rw [hG]
          exact hx.trans (hx'.mono hw.B0le)
      · exact h.elim
    · exact h.elim
  · -- all others only compute
    split at h
    · rename_i v hv
      exact pure_ (v := v) (aval_sound w hw.env hw.tabsRep hok hv) h
    · exact h.elim

end
end Go.Abs
