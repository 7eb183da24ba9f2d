/- A part of the proof of ReportTexts: contracts of functions of the program, and what they need. -/
import Derived.Test.YtgcimcppginchaaGreatDoorAbsD
import Derived.Great.BuildSlice
import Derived.Lib.AppendStr
import Derived.MapKept
import Derived.Laws.IdiomRangeMap
/-
  The abstract layer, part G: loads, stores, new variables, slice literals and append, as steps on frames.
-/
set_option linter.unusedSimpArgs false
set_option linter.unusedVariables false
namespace Go.Abs
open Go

section
variable {B : Nat} {G G' : Nat → Nat} {F F' : Imm} {n : Nat} {G0 : Nat → Nat} {F0 : Imm} {n0 : Nat} {w0 w w' : World}

theorem Ext.stepW (h : Ext B G0 F0 n0 w0 G F n w) (hos : w'.os = w.os) (ht : w'.tape = w.tape) (ho : w'.output = w.output) (hs : w.heap.size ≤ w'.heap.size)
    (hh : ∀ b, b < B → (∀ o, o < n → G o ≠ b) → w'.heap[b]? = w.heap[b]?) : Ext B G0 F0 n0 w0 G F n w' :=
  h.trans ⟨hos, ht, ho, hs, Nat.le_refl _, fun _ _ => rfl, fun _ h h' => absurd h' (by omega), fun _ _ _ _ => rfl, fun _ _ _ _ h => h, hh⟩

theorem Ext.drew (h : Ext B G0 F0 n0 w0 G F n w) : Ext B G0 F0 n0 w0 G F n w.drew := h.stepW rfl rfl rfl (Nat.le_refl _) fun _ _ _ => rfl

theorem Ext.alloc (h : Ext B G0 F0 n0 w0 G F n w) (hB : B ≤ w.heap.size) (o : Obj) : Ext B G0 F0 n0 w0 G F n (w.alloc o) :=
  h.stepW rfl rfl rfl (by simp) fun b hb _ => heap_alloc_old w o (by omega)

theorem Ext.setRow (h : Ext B G0 F0 n0 w0 G F n w) {g : Nat} (hg : B ≤ g ∨ ∃ o, o < n ∧ G o = g) (cs : Array Value) : Ext B G0 F0 n0 w0 G F n (w.setRow g cs) :=
  h.stepW rfl rfl rfl (by rw [size_setRow]; exact Nat.le_refl _) fun b hb hn => setRow_other w g b cs (by
    rintro rfl
    rcases hg with hg | ⟨o, ho, hg⟩
    · omega
    · exact hn o ho hg)

theorem Ext.freeze (h : Ext B G0 F0 n0 w0 G F n w) (hF : ∀ b j, b < B → F' b j = F b j) : Ext B G0 F0 n0 w0 G F' n w :=
  h.trans ⟨rfl, rfl, rfl, Nat.le_refl _, Nat.le_refl _, fun _ _ => rfl, fun _ h h' => absurd h' (by omega), fun b j hb _ => hF b j hb, fun b j v hb hv => (hF b j hb).trans hv, fun _ _ _ => rfl⟩

/-- What a shared object holds no longer changes. -/
theorem Ext.freezeG (h : Ext B G0 F0 n0 w0 G F n w) (hF : ∀ b j, (∀ o, o < n → G o ≠ b) → F' b j = F b j) (mF : ∀ b j v, F b j = some v → F' b j = some v) : Ext B G0 F0 n0 w0 G F' n w :=
  h.trans ⟨rfl, rfl, rfl, Nat.le_refl _, Nat.le_refl _, fun _ _ => rfl, fun _ h h' => absurd h' (by omega), fun b j _ hg => hF b j hg, fun b j v _ hv => mF b j v hv, fun _ _ _ => rfl⟩

theorem Ext.newG (h : Ext B G0 F0 n0 w0 G F n w) (hG : ∀ o, o < n → G' o = G o) (hn : B ≤ G' n) : Ext B G0 F0 n0 w0 G' F (n + 1) w :=
  h.trans ⟨rfl, rfl, rfl, Nat.le_refl _, by omega, hG, fun o h1 h2 => (by rw [show o = n from (by omega)]; exact hn), fun _ _ _ _ => rfl, fun _ _ _ _ h => h, fun _ _ _ => rfl⟩
end

/-- A frame and the shared memory, over some memory that was there when the call began. -/
def SR (T : Tabs) (n : Nat) (G0 : Nat → Nat) (F0 : Imm) (n0 : Nat) (w0 : World) (fr : Fr) (H : Heap) (a : Act) (w : World) : Prop :=
  ∃ ρ F R, WR T n w0.heap.size ρ F R fr H a w ∧ Ext w0.heap.size G0 F0 n0 w0 ρ.G F H.length w

/-! ### loads -/

def loadA (P : Program) (fr : Fr) (H : Heap) (t : TypeId) (x : AV) : Option AV :=
  match x with
  | .rptr v => if fitsB P t v = true then some v else none
  | .lptr b g off => if g = fr.gen b then (match fr.box b with | some cs => readAt P t cs off | none => none) else none
  | .gptr o off => match H[o]? with | some cs => if okObj cs = true then readAt P t cs off else none | none => none
  | _ => none

section
variable {P : Program} {T : Tabs} {n B0 : Nat} {ρ : Maps} {F : Imm} {R : Nat → Role} {fr : Fr} {H : Heap} {a : Act} {w : World}

theorem fitsB_inv {t : TypeId} {v : AV} (h : fitsB P t v = true) :
    (∃ k cs, layOf P t = some (true, k) ∧ v = .agg cs ∧ cs.length = k) ∨ (∃ k, layOf P t = some (false, k) ∧ v.isOne = true) := by
  unfold fitsB at h
  cases hl : layOf P t with
  | none => rw [hl] at h; simp at h
  | some p =>
    obtain ⟨b, k⟩ := p
    rw [hl] at h
    cases b
    · cases v <;> first | (simp at h; done) | exact .inr ⟨k, rfl, rfl⟩
    · cases v <;> first | exact .inl ⟨k, _, rfl, rfl, by simpa using h⟩ | (simp at h; done)

theorem run_load_block (w : World) {t : TypeId} {b off : Nat} {cs : List AV} {vs : Array Value} {ty : TypeId} {fz : Nat × Nat} {z : AV} (hb : w.heap[b]? = some (.cells vs ty fz))
    (hcs : All2 (FCell F ρ) cs vs.toList) (hone : ∀ c ∈ cs, c.isOne = true) (hz : readAt P t cs off = some z) :
    ∃ v, (Instr.loadAt t (.pointer (some ⟨b, off, none⟩))).run P w = .ok v w ∧ FRep F ρ z v := by
  unfold Instr.loadAt
  simp only [Instr.sureAddr, Sem.run_bind, Sem.run_pure, Result.andThen_ok]
  rcases readAt_some hz with ⟨k, hl, hle, rfl⟩ | ⟨k, hl, hc⟩
  · refine ⟨.agg ((vs.toList.drop off).take k).toArray, ?_, .agg ((hcs.drop off).take k) (fun c hc => hone c (List.mem_of_mem_drop (List.mem_of_mem_take hc)))⟩
    refine run_loadVar_agg hl w ⟨b, off, none⟩ _ (by have := hcs.length; simp only [List.length_take, List.length_drop]; omega) ?_
    intro j v hv
    rw [Addr.add_lit, cell_of_row w b _ vs ty fz hb]
    rw [List.getElem?_take] at hv
    split at hv
    · rw [List.getElem?_drop] at hv
      simpa using hv
    · cases hv
  · obtain ⟨v, hv, hr⟩ := hcs.get hc
    refine ⟨v, ?_, .cell hr⟩
    refine run_loadVar_one hl w ⟨b, off, none⟩ v ?_
    rw [cell_of_row w b _ vs ty fz hb]
    simpa using hv

theorem run_loadA (h : WR T n B0 ρ F R fr H a w) {t : TypeId} {x z : AV} {u : Value} (hl : loadA P fr H t x = some z) (hx : FRep F ρ x u) :
    ∃ v, (Instr.loadAt t u).run P w = .ok v w ∧ FRep F ρ z v := by
  unfold loadA at hl
  split at hl
  · rename_i v
    split at hl
    · rename_i hf
      injection hl with hl
      subst hl
      obtain ⟨b, o, vs, rfl, h1, h2, h3⟩ := frep_rptr hx
      unfold Instr.loadAt
      simp only [Instr.sureAddr, Sem.run_bind, Sem.run_pure, Result.andThen_ok]
      rcases fitsB_inv hf with ⟨k, cs, hlay, rfl, hk⟩ | ⟨k, hlay, hone⟩
      · refine ⟨.agg vs.toArray, ?_, .p (.agg h1 h3)⟩
        refine run_loadVar_agg hlay w ⟨b, o, none⟩ vs (by rw [← h1.length]; exact hk) ?_
        intro j v hv
        rw [Addr.add_lit]
        exact h.g.imm b _ v (h2 j v hv)
      · rw [AV.cells_one hone] at h1
        cases h1 with
        | cons h1 hn =>
          cases hn
          rename_i u
          refine ⟨u, ?_, .p h1⟩
          refine run_loadVar_one hlay w ⟨b, o, none⟩ u ?_
          exact h.g.imm b o u (h2 0 u rfl)
    · cases hl
  · rename_i b g off
    split at hl
    · rename_i hg
      split at hl
      · rename_i cs hb
        obtain ⟨rfl, _⟩ := frep_lptr hx
        obtain ⟨h1, h2, h3, vs, ty, h4, h5⟩ := h.box b cs hb
        rw [hg]
        exact run_load_block w h4 h5 h3 hl
      · cases hl
    · cases hl
  · rename_i o off
    split at hl
    · rename_i cs hb
      split at hl
      · rename_i hok
        obtain ⟨rfl, _⟩ := frep_gptr hx
        obtain ⟨ob, h4, h5⟩ := h.g.glob o cs hb
        obtain ⟨vs, ty, fz, rfl, _, h5, h6⟩ := h5.isCells hok
        rw [← h.hn] at h5
        exact run_load_block w h4 (h5.mono fun _ _ _ h => .p h) h6 hl
      · cases hl
    · cases hl
  · cases hl

/-! ### stores -/

theorem frozen_no {w : World} {b j : Nat} {vs : Array Value} {ty : TypeId} {fz : Nat × Nat} (hb : w.heap[b]? = some (.cells vs ty fz)) (hf : fzOk fz vs.size) (hj : j < vs.size) : w.frozen? ⟨b, j, none⟩ = false := by
  obtain ⟨lo, hi⟩ := fz
  unfold World.frozen?
  simp only [hb]
  rcases hf with h | h
  · injection h with h1 h2
    subst h1; subst h2
    simp
  · have h : vs.size ≤ lo := h
    simp only [Bool.and_eq_false_iff, decide_eq_false_iff_not]
    exact .inl (by omega)

/-- Cells written one by one into a row. -/
theorem run_storeCells_fz (P : Program) (b o : Nat) (ty : TypeId) (fz : Nat × Nat) : ∀ (us : List Value) (i : Nat) (vs : Array Value) (w : World), w.heap[b]? = some (.cells vs ty fz) → fzOk fz vs.size → o + i + us.length ≤ vs.size → (∀ u ∈ us, u.oneCell' = true) →
    (storeCells ⟨b, o, none⟩ us i).run P w = .ok () (w.setRow b (vs.toList.take (o + i) ++ us ++ vs.toList.drop (o + i + us.length)).toArray)
  | [], i, vs, w, hb, _, _, _ => by
    have e := setRow_self w b vs ty fz hb
    simp only [storeCells, List.append_nil, List.length_nil, Nat.add_zero, List.take_append_drop, Array.toArray_toList, e]
    rfl
  | u :: us, i, vs, w, hb, hf, hl, h1 => by
    simp only [List.length_cons] at hl
    have hlt : o + i < vs.size := by omega
    have hc : w.cell? ⟨b, o + i, none⟩ = some vs[o + i] := by
      rw [cell_of_row w b _ vs ty fz hb]
      exact Array.getElem?_eq_getElem hlt
    have hs : (store ((⟨b, o, none⟩ : Addr).add i) u).run P w = .ok () (w.setRow b (vs.setIfInBounds (o + i) u)) := by
      rw [Addr.add_lit, run_store P w _ u _ (h1 u (by simp)), hc]
      simp [frozen_no hb hf hlt, setCell_eq_setRow w b (o + i) vs ty fz u hb]
    have hb' := setRow_heap w b vs (vs.setIfInBounds (o + i) u) ty fz hb
    have ih := run_storeCells_fz P b o ty fz us (i + 1) _ _ hb' (by simpa using hf) (by simp; omega) (fun x hx => h1 x (by simp [hx]))
    rw [storeCells]
    simp only [Sem.run_bind, hs, Result.andThen_ok]
    rw [ih, setRow_setRow]
    congr 2
    apply Array.toList_inj.1
    simp only [Array.toList_setIfInBounds]
    apply List.ext_getElem?
    intro j
    simp only [List.append_assoc, List.length_cons, List.cons_append]
    have htl : ∀ k, k ≤ vs.toList.length → (vs.toList.take k).length = k := fun k hk => by rw [List.length_take]; omega
    have hvl : vs.toList.length = vs.size := by simp
    rcases Nat.lt_trichotomy j (o + i) with hj | hj | hj
    · rw [List.getElem?_append_left (by rw [List.length_take, List.length_set]; omega), List.getElem?_append_left (by rw [htl _ (by omega)]; omega), List.getElem?_take, List.getElem?_take, if_pos (by omega), if_pos hj, List.getElem?_set_ne (by omega)]
    · subst hj
      rw [List.getElem?_append_left (by rw [List.length_take, List.length_set]; omega), List.getElem?_append_right (by rw [htl _ (by omega)]; omega), htl _ (by omega), List.getElem?_take, if_pos (by omega), List.getElem?_set_self (by omega), Nat.sub_self]
      rfl
    · have e1 : ∀ X : List Value, ((vs.toList.set (o + i) u).take (o + (i + 1)) ++ X)[j]? = X[j - (o + (i + 1))]? := fun X => by
        have hA : ((vs.toList.set (o + i) u).take (o + (i + 1))).length = o + (i + 1) := by rw [List.length_take, List.length_set]; omega
        rw [List.getElem?_append_right (by omega), hA]
      have e2 : ∀ X : List Value, (vs.toList.take (o + i) ++ u :: X)[j]? = X[j - (o + (i + 1))]? := fun X => by
        rw [List.getElem?_append_right (by rw [htl _ (by omega)]; omega), htl _ (by omega), show j - (o + i) = (j - (o + (i + 1))) + 1 by omega, List.getElem?_cons_succ]
      rw [e1, e2]
      rcases Nat.lt_or_ge (j - (o + (i + 1))) us.length with hu | hu
      · rw [List.getElem?_append_left hu, List.getElem?_append_left hu]
      · rw [List.getElem?_append_right hu, List.getElem?_append_right hu, List.getElem?_drop, List.getElem?_drop, List.getElem?_set_ne (by omega)]
        congr 1
        omega

theorem run_store_block (w : World) {t : TypeId} {b off k : Nat} {bl : Bool} {vs : Array Value} {ty : TypeId} {fz : Nat × Nat} {v : Value} (hb : w.heap[b]? = some (.cells vs ty fz)) (hfz : fzOk fz vs.size)
    (hl : layOf P t = some (bl, k)) (hk : v.cells.size = k) (hfit : off + k ≤ vs.size) (h1 : ∀ u ∈ v.cells.toList, u.oneCell' = true) :
    (Instr.storeAt t (.pointer (some ⟨b, off, none⟩)) v).run P w =
      .ok () (w.setRow b (vs.toList.take off ++ v.cells.toList ++ vs.toList.drop (off + v.cells.toList.length)).toArray) := by
  unfold Instr.storeAt
  simp only [Instr.sureAddr, Sem.run_bind, Sem.run_pure, Result.andThen_ok]
  unfold storeVar
  simp only [Sem.run_bind, run_sizeOf' hl, Result.andThen_ok]
  rw [if_neg (by simp [hk])]
  have := run_storeCells_fz P b off ty fz v.cells.toList 0 vs w hb hfz (by simp only [Nat.add_zero, Array.length_toList]; omega) h1
  simpa using this

end

/-! ### steps that make or write memory -/

def allocA (E : List Nat) (dst : Option Nat) (cells : List AV) (K : Fr → Heap → Prop) (fr : Fr) (H : Heap) : Prop :=
  match dst with
  | some d =>
    if E.contains d = true then K { fr with env := upd fr.env d (.gptr H.length 0) } (H ++ [cells.map AV.ncell])
    else K { fr with env := upd fr.env d (.lptr d (fr.gen d + 1) 0), box := upd fr.box d (some cells), gen := upd fr.gen d (fr.gen d + 1) } H
  | none => False

def storeA (P : Program) (t : TypeId) (x v : AV) (K : Fr → Heap → Prop) (fr : Fr) (H : Heap) : Prop :=
  match layOf P t with
  | none => False
  | some (_, n) =>
    match x with
    | .lptr b g off =>
      match fr.box b with
      | some cs => g = fr.gen b ∧ v.cells.length = n ∧ off + n ≤ cs.length ∧ notTuple v = true ∧ K { fr with box := upd fr.box b (some (setCells cs off v.cells)) } H
      | none => False
    | .gptr o off =>
      match H[o]? with
      | some cs => okObj cs = true ∧ v.cells.length = n ∧ off + n ≤ cs.length ∧ notTuple v = true ∧ K fr (H.set o (setCells cs off v.norm.cells))
      | none => False
    | _ => False

section
variable {P : Program} {T : Tabs} {n : Nat} {G0 : Nat → Nat} {F0 : Imm} {n0 : Nat} {w0 : World} {fr : Fr} {H : Heap} {a : Act} {w : World}

theorem AV.norm_cells {x : AV} (h : notTuple x = true) : x.norm.cells = x.cells.map AV.ncell := by
  cases x <;> first | rfl | (simp [notTuple] at h)

theorem norm_ones {cs : List AV} (h : ∀ c ∈ cs, c.isOne = true) : ∀ c ∈ cs.map AV.ncell, c.isOne = true := by
  intro c hc
  obtain ⟨x, hx, rfl⟩ := List.mem_map.1 hc
  rw [AV.isOne_ncell]
  exact h x hx

theorem cells_oneCell {F : Imm} {ρ : Maps} {cs : List AV} {vs : List Value} (h : All2 (FCell F ρ) cs vs) (h1 : ∀ c ∈ cs, c.isOne = true) : ∀ u ∈ vs, u.oneCell' = true := by
  intro u hu
  obtain ⟨x, hx, hr⟩ := h.mem hu
  exact hr.oneCell (h1 x hx)

/-- A new variable. -/
theorem alloc_sound {ρ : Maps} {F : Imm} {R : Nat → Role} (h : WR T n w0.heap.size ρ F R fr H a w) (hx : Ext w0.heap.size G0 F0 n0 w0 ρ.G F H.length w) {E : List Nat} {dst : Option Nat} {cells : List AV} {K : Fr → Heap → Prop}
    (hK : allocA E dst cells K fr H) (hd : ∀ d, dst = some d → d < n) {vs : Array Value} (ty : TypeId) (hcs : All2 (FCell F ρ) cells vs.toList) (hone : ∀ c ∈ cells, c.isOne = true) :
    ∃ fr' H', K fr' H' ∧ SR T n G0 F0 n0 w0 fr' H' (a.put dst (.pointer (some ⟨w.heap.size, 0, none⟩))) (w.alloc (.cells vs ty)) := by
  unfold allocA at hK
  split at hK
  · rename_i d
    have hdn := hd d rfl
    have ha := h.alloc (.cells vs ty)
    have hfree : R w.heap.size = .free := h.rfresh _ (Nat.le_refl _)
    have hF : ∀ j, F w.heap.size j = none := fun j => h.g.fresh _ j (Nat.le_refl _)
    have hnew : (w.alloc (.cells vs ty)).heap[w.heap.size]? = some (.cells vs ty (0, 0)) := heap_alloc_new w _
    split at hK
    · obtain ⟨ρ', R', hG, hGn, hw⟩ := ha.claimG hfree hF hnew (hcs.map_left AV.ncell fun _ _ _ h => h.ncell) (norm_ones hone) hdn
      refine ⟨_, _, hK, ρ', F, R', hw, ?_⟩
      rw [List.length_append]
      exact (hx.alloc h.B0le _).newG hG (by rw [hGn]; exact h.B0le)
    · obtain ⟨ρ', R', hG, hw⟩ := ha.claim h.B0le hfree hF hnew hcs hone hdn
      refine ⟨_, _, hK, ρ', F, R', hw, ?_⟩
      rw [hG]
      exact hx.alloc h.B0le _
  · exact hK.elim

theorem run_newRow (w : World) (ty : TypeId) (vs : Array Value) : (newRow ty vs).run P w = .ok ⟨w.heap.size, 0, none⟩ (w.alloc (.cells vs ty)) := rfl

theorem run_alloc' (w : World) {t : TypeId} {z : Value} (hz : zeroOf P t = some z) :
    (Instr.alloc t true (.tuple #[])).run P w = .ok (.pointer (some ⟨w.heap.size, 0, none⟩)) (w.alloc (.cells z.cells t)) := by
  have hz' : (zeroValue t).run P w = .ok z w := by
    unfold zeroOf at hz
    cases hi : P.info? t with
    | none => rw [hi] at hz; cases hz
    | some i =>
      rw [hi] at hz
      simp at hz
      simp [zeroValue, typeInfo, hi, hz]
  unfold Instr.alloc
  simp only [Sem.run_bind, hz', Result.andThen_ok]
  rfl

theorem ofValue_cells {v : Value} (h : okConst v = true) (hnt : ∀ vs, v ≠ .tuple vs) : (ofValue v).cells = v.cells.toList.map ofCell ∧ ∀ u ∈ v.cells.toList, u.oneCell' = true := by
  cases v with
  | agg cs =>
    refine ⟨rfl, fun u hu => ?_⟩
    have h0 : cs.all (·.oneCell') = true := h
    exact Array.all_eq_true_iff_forall_mem.1 h0 u (Array.mem_toList_iff.1 hu)
  | tuple vs => exact absurd rfl (hnt vs)
  | _ =>
    constructor
    · rw [ofValue_one rfl]
      exact AV.cells_one (ofCell_one _)
    · simp [Value.cells, Value.oneCell']

/-- A store. -/
theorem store_sound {ρ : Maps} {F : Imm} {R : Nat → Role} (h : WR T n w0.heap.size ρ F R fr H a w) (hx : Ext w0.heap.size G0 F0 n0 w0 ρ.G F H.length w) {t : TypeId} {x v : AV} {xv vv : Value} {K : Fr → Heap → Prop}
    (hK : storeA P t x v K fr H) (hxr : FRep F ρ x xv) (hvr : FRep F ρ v vv) :
    ∃ fr' H' w', (Instr.storeAt t xv vv).run P w = .ok () w' ∧ K fr' H' ∧ SR T n G0 F0 n0 w0 fr' H' a w' := by
  unfold storeA at hK
  split at hK
  · exact hK.elim
  · rename_i bl k hl
    split at hK
    · rename_i b g off
      split at hK
      · rename_i cs hb
        obtain ⟨hg, hk, hfit, hnt, hK⟩ := hK
        obtain ⟨rfl, _⟩ := frep_lptr hxr
        obtain ⟨h1, h2, h3, vs, ty, h4, h5⟩ := h.box b cs hb
        have hcells := hvr.cells (frep_notTuple hnt)
        have hlen := hcells.length
        have hlen' : vv.cells.toList.length = vv.cells.size := by simp
        have hvl : cs.length = vs.size := by simpa using h5.length
        have hset := h5.setCells hcells off
        rw [hlen] at hset
        rw [hg]
        have hones : ∀ c ∈ setCells cs off v.cells, c.isOne = true := by
          intro c hc
          simp only [setCells, List.mem_append] at hc
          rcases hc with (hm | hm) | hm
          · exact h3 c (List.mem_of_mem_take hm)
          · exact hvr.ones (frep_notTuple hnt) c hm
          · exact h3 c (List.mem_of_mem_drop hm)
        refine ⟨_, _, _, run_store_block w h4 (.inl rfl) hl (by omega) (by omega) (cells_oneCell hcells (hvr.ones (frep_notTuple hnt))), hK, ρ, F, R, h.setBox hb (by simpa using hset) hones, hx.setRow (.inl h1) _⟩
      · exact hK.elim
    · rename_i o off
      split at hK
      · rename_i cs hb
        obtain ⟨hok, hk, hfit, hnt, hK⟩ := hK
        obtain ⟨rfl, ho⟩ := frep_gptr hxr
        obtain ⟨ob, h4, h5⟩ := h.g.glob o cs hb
        obtain ⟨vs, ty, fz, rfl, hfz, h5, h6⟩ := h5.isCells hok
        have hcells := hvr.cells (frep_notTuple hnt)
        have hlen := hcells.length
        have hlen' : vv.cells.toList.length = vv.cells.size := by simp
        have hvl : cs.length = vs.size := by simpa using h5.length
        have hncells : All2 (PRep F ρ.G ρ.n) v.norm.cells vv.cells.toList := by
          rw [AV.norm_cells hnt]
          exact hcells.map_left AV.ncell fun _ _ _ h => h.ncell
        rw [← h.hn] at h5
        have hset := h5.setCells hncells off
        have hnl : v.norm.cells.length = v.cells.length := by rw [AV.norm_cells hnt]; simp
        rw [hnl, hlen] at hset
        have hones : ∀ c ∈ setCells cs off v.norm.cells, c.isOne = true := by
          intro c hc
          simp only [setCells, List.mem_append] at hc
          rcases hc with (hm | hm) | hm
          · exact h6 c (List.mem_of_mem_take hm)
          · rw [AV.norm_cells hnt] at hm
            exact norm_ones (hvr.ones (frep_notTuple hnt)) c hm
          · exact h6 c (List.mem_of_mem_drop hm)
        refine ⟨_, _, _, run_store_block w h4 hfz hl (by omega) (by omega) (cells_oneCell hcells (hvr.ones (frep_notTuple hnt))), hK, ρ, F, R, h.setGlob hb hok (by simpa using hset) (by simp only [setCells, List.length_append, List.length_take, List.length_drop]; omega) hones, ?_⟩
        rw [List.length_set]
        exact hx.setRow (.inr ⟨o, by rw [← h.hn]; exact ho, rfl⟩) _
      · exact hK.elim
    · exact hK.elim

end
end Go.Abs

/-
  The abstract layer, part H: slice literals and append.
-/
namespace Go.Abs
open Go

/-- A slice's type: the element's type and its cells, if such slices can be made and grown. -/
def apOf (P : Program) (t : TypeId) : Option (TypeId × Nat) :=
  match P.underlying t with
  | some (.slice e) =>
    match P.info? e with
    | some i =>
      match i.zero with
      | some z => if z.cells.size = i.size ∧ i.bytes ≤ 128 ∧ 0 < i.size ∧ z.cells.toList.all Value.oneCell' = true then some (e, i.size) else none
      | none => none
    | none => none
  | _ => none

/-- How long a slice may become. -/
def growLim : Nat := 1099511627776

section
variable {P : Program}

theorem apOf_inv {t e : TypeId} {sz : Nat} (h : apOf P t = some (e, sz)) :
    ∃ i z, P.underlying t = some (.slice e) ∧ P.info? e = some i ∧ i.zero = some z ∧ z.cells.size = sz ∧ i.size = sz ∧ i.bytes ≤ 128 ∧ 0 < sz := by
  unfold apOf at h
  split at h
  · rename_i e' hu
    split at h
    · rename_i i hi
      split at h
      · rename_i z hz
        split at h
        · rename_i hc
          injection h with h
          injection h with h1 h2
          subst h1; subst h2
          exact ⟨i, z, hu, hi, hz, hc.1, rfl, hc.2.1, hc.2.2.1⟩
        · cases h
      · cases h
    · cases h
  · cases h

theorem fill_flat {sz : Nat} : ∀ (pv : List Value) (k : Nat) (pre rest : List Value), (∀ v ∈ pv, v.cells.size = sz) → pre.length = k * sz → rest.length = pv.length * sz →
    Instr.fill (fun i => some (i * sz, sz)) (pre ++ rest).toArray ((pv.zipIdx k).map fun x => (x.2, x.1)) = some (pre ++ pv.flatMap fun v => v.cells.toList).toArray := by
  intro pv
  induction pv with
  | nil =>
    intro k pre rest _ _ hr
    have : rest = [] := List.eq_nil_of_length_eq_zero (by simpa using hr)
    subst this
    simp [Instr.fill]
  | cons v pv ih =>
    intro k pre rest hsz hp hr
    have hv := hsz v (by simp)
    have hvl : v.cells.toList.length = sz := by simp [hv]
    rw [List.length_cons, Nat.add_mul, Nat.one_mul] at hr
    have hfold := foldl_set v.cells.toList 0 (k * sz) (pre ++ rest).toArray (by simp only [List.size_toArray, List.length_append, Nat.add_zero]; omega)
    simp only [Nat.add_zero, hvl] at hfold
    have e1 : (pre ++ rest).toArray.toList.take (k * sz) = pre := by simp [← hp]
    have e2 : (pre ++ rest).toArray.toList.drop (k * sz + sz) = rest.drop sz := by
      simp only []
      rw [List.drop_append]
      rw [List.drop_eq_nil_of_le (by omega), List.nil_append, ← hp]
      congr 1
      omega
    rw [e1, e2] at hfold
    have hstep := ih (k + 1) (pre ++ v.cells.toList) (rest.drop sz) (fun u hu => hsz u (by simp [hu])) (by rw [List.length_append, hp, hvl, Nat.add_mul, Nat.one_mul]) (by rw [List.length_drop, hr]; omega)
    simp only [List.zipIdx_cons, List.map_cons]
    show (if (decide (v.cells.size ≠ sz) || decide (k * sz + v.cells.size > (pre ++ rest).toArray.size)) = true then none
      else Instr.fill (fun i => some (i * sz, sz)) (v.cells.zipIdx.foldl (fun cs (x : Value × Nat) => cs.setIfInBounds (k * sz + x.2) x.1) (pre ++ rest).toArray) ((pv.zipIdx (k + 1)).map fun x => (x.2, x.1))) = _
    rw [if_neg (by simp only [hv, List.size_toArray, List.length_append]; simp; omega), ← Array.foldl_toList, Array.toList_zipIdx]
    have hfold' : List.foldl (fun cs (x : Value × Nat) => cs.setIfInBounds (k * sz + x.2) x.1) (pre ++ rest).toArray v.cells.toList.zipIdx = (pre ++ v.cells.toList ++ rest.drop sz).toArray := by
      apply Array.toList_inj.1
      rw [hfold]
    rw [hfold', hstep]
    simp [List.flatMap_cons, List.append_assoc]

end

section
variable {T : Tabs} {n B0 : Nat} {ρ : Maps} {F : Imm} {R : Nat → Role} {fr : Fr} {H : Heap} {a : Act} {w : World}

/-- The cells of a free block become memory that no longer changes. -/
def freezeF (F : Imm) (b k : Nat) (vs : List Value) : Imm := fun b' j => if b' = b ∧ j < k then vs[j]? else F b' j

theorem freezeF_has (F : Imm) (b : Nat) (vs : List Value) : (freezeF F b vs.length vs).has b 0 vs := by
  intro i v hv
  show (if b = b ∧ 0 + i < vs.length then vs[0 + i]? else F b (0 + i)) = some v
  rw [Nat.zero_add, if_pos ⟨rfl, (List.getElem?_eq_some_iff.1 hv).1⟩]
  exact hv

theorem WR.freeze (h : WR T n B0 ρ F R fr H a w) {b : Nat} {vs : Array Value} {ty : TypeId} {k : Nat} {us : List Value} (hfree : R b = .free) (hF : ∀ j, F b j = none)
    (hh : w.heap[b]? = some (.cells vs ty (0, 0))) (hall : AllOne vs) (hus : ∀ j v, j < k → us[j]? = some v → vs[j]? = some v) :
    MGrow F (freezeF F b k us) ρ ρ ∧ WR T n B0 ρ (freezeF F b k us) R fr H a w := by
  have hold : ∀ b' j v, F b' j = some v → freezeF F b k us b' j = some v := by
    intro b' j v hf
    unfold freezeF
    rw [if_neg]
    · exact hf
    · rintro ⟨rfl, _⟩
      rw [hF j] at hf
      cases hf
  have hother : ∀ b' j, b' ≠ b → freezeF F b k us b' j = F b' j := by
    intro b' j hne
    unfold freezeF
    rw [if_neg (fun h => hne h.1)]
  have hgr : ∀ G n, Grow F (freezeF F b k us) G G n n := fun G n => ⟨hold, Nat.le_refl _, fun _ _ => rfl⟩
  have hmg : MGrow F (freezeF F b k us) ρ ρ := ⟨hgr _ _, fun _ => Nat.le_refl _, fun _ _ _ => rfl, fun _ => Nat.le_refl _, fun _ _ _ => rfl⟩
  refine ⟨hmg, ⟨⟨?_, ?_, h.g.inj, ?_, ?_, fun g x hx => (h.g.tabs g x hx).grow (hgr _ _), ?_⟩, h.size, h.defers, h.env.grow hmg, h.hn, h.lg, h.ag, ?_, ?_, ?_, h.grole, h.rfresh, h.B0le⟩⟩
  · intro b' j v hf
    unfold freezeF at hf
    split at hf
    · rename_i hc
      obtain ⟨rfl, hj⟩ := hc
      rw [cell_of_row w b' j vs ty (0, 0) hh]
      exact hus j v hj hf
    · exact h.g.imm b' j v hf
  · intro o cs ho
    obtain ⟨ob', h1, h2⟩ := h.g.glob o cs ho
    exact ⟨ob', h1, h2.grow (hgr _ _)⟩
  · intro o j ho hnd
    rw [hother]
    · exact h.g.gF o j ho hnd
    · rintro rfl
      have := h.grole o ho
      rw [hfree] at this
      cases this
  · intro b' j hb'
    rw [hother]
    · exact h.g.fresh b' j hb'
    · rintro rfl
      have := heap_lt hh
      omega
  · intro hT b' j v hf
    by_cases hb' : b' = b
    · subst hb'; exact ⟨vs, ty, _, hh, .inl rfl, hall⟩
    · rw [hother _ _ hb'] at hf; exact h.g.row hT b' j v hf
  · intro d cs hd
    obtain ⟨h1, h2, h3, vs', ty', h4, h5⟩ := h.box d cs hd
    exact ⟨h1, h2, h3, vs', ty', h4, h5.mono fun _ _ _ h => h.grow hmg⟩
  · intro k' m hk b' c sz hA
    obtain ⟨h1, h2, h3, h3', h4, h5⟩ := h.tok k' m hk b' c sz hA
    refine ⟨h1, h2, h3, h3', h4, fun j hj => ?_⟩
    rw [hother]
    · exact h5 j hj
    · rintro rfl
      rw [hfree] at h2
      cases h2
  · intro b' j v hf
    by_cases hb' : b' = b
    · subst hb'
      rw [hfree]; simp
    · rw [hother _ _ hb'] at hf
      exact h.frole b' j v hf

theorem freezeF_other {F : Imm} {b k : Nat} {us : List Value} {b' j : Nat} (h : b' ≠ b) : freezeF F b k us b' j = F b' j := by
  unfold freezeF
  rw [if_neg (fun h' => h h'.1)]

end

/-! ### slice literals -/

def buildSliceA (P : Program) (t n : Nat) (parts : List (Nat × AV)) : Option AV :=
  match apOf P t with
  | some (_, sz) =>
    if parts.map (·.1) = List.range n ∧ parts.all (fun p => p.2.cells.length == sz && notTuple p.2) = true ∧ n * sz ≤ 16777216 then some (.slice .full (parts.map fun p => p.2.norm)) else none
  | none => none

theorem zipIdx_of_range {α : Type} (parts : List (Nat × α)) (n : Nat) (h : parts.map (·.1) = List.range n) : parts = (parts.map (·.2)).zipIdx.map fun x => (x.2, x.1) := by
  have hl : parts.length = n := by have := congrArg List.length h; simpa using this
  apply List.ext_getElem
  · simp
  · intro i h1 h2
    have h3 : (parts.map (·.1))[i]? = (List.range n)[i]? := by rw [h]
    simp only [List.getElem?_map, List.getElem?_eq_getElem h1, Option.map_some, List.getElem?_range (show i < n by omega), Option.some.injEq] at h3
    simp only [List.getElem_map, List.getElem_zipIdx, Nat.zero_add]
    exact Prod.ext h3 rfl

section
variable {P : Program} {T : Tabs} {n : Nat} {G0 : Nat → Nat} {F0 : Imm} {n0 : Nat} {w0 : World} {fr : Fr} {H : Heap} {a : Act} {w : World}

theorem run_buildSlice0 (w : World) {t e : TypeId} {sz : Nat} (h : apOf P t = some (e, sz)) :
    (Instr.buildSlice t 0 #[]).run P w = .ok (.slice (some ⟨w.heap.size, 0, none⟩) 0 0) (w.alloc (.cells #[] e)) := by
  obtain ⟨i, z, hu, hi, hz, _⟩ := apOf_inv h
  simp [Instr.buildSlice, run_underlying hu, sizeOf, typeInfo, hi, Instr.fill, newRow]
  have e0 : ((Array.range 0).map fun _ => (default : Value)) = #[] := by
    apply Array.eq_empty_of_size_eq_zero
    simp
  rw [e0]

theorem flat_cells {F : Imm} {ρ : Maps} : ∀ {parts : List (Nat × AV)} {pv : List (Nat × Value)}, All2 (fun (x : Nat × AV) (y : Nat × Value) => x.1 = y.1 ∧ FRep F ρ x.2 y.2) parts pv →
    (∀ p ∈ parts, notTuple p.2 = true) →
    All2 (PRep F ρ.G ρ.n) ((parts.map fun p => p.2.norm).flatMap AV.cells) ((pv.map (·.2)).flatMap fun v => v.cells.toList) ∧ ∀ c ∈ (parts.map fun p => p.2.norm).flatMap AV.cells, c.isOne = true := by
  intro parts pv h hn
  induction h with
  | nil => exact ⟨.nil, by simp⟩
  | @cons p q ps qs h1 _ ih =>
    obtain ⟨i1, i2⟩ := ih fun p hp => hn p (by simp [hp])
    have hnt := hn p (by simp)
    have hc := h1.2.cells (frep_notTuple hnt)
    have ho := h1.2.ones (frep_notTuple hnt)
    have hnc : All2 (PRep F ρ.G ρ.n) p.2.norm.cells q.2.cells.toList := by
      rw [AV.norm_cells hnt]
      exact hc.map_left AV.ncell fun _ _ _ h => h.ncell
    refine ⟨?_, ?_⟩
    · simp only [List.map_cons, List.flatMap_cons]
      exact hnc.append i1
    · intro c hcm
      simp only [List.map_cons, List.flatMap_cons, List.mem_append] at hcm
      rcases hcm with hcm | hcm
      · rw [AV.norm_cells hnt] at hcm
        exact norm_ones ho c hcm
      · exact i2 c hcm

theorem buildSlice_run {ρ : Maps} {F : Imm} (w : World) {t k : Nat} {parts : List (Nat × AV)} {pv : List (Nat × Value)} {r : AV}
    (hb : buildSliceA P t k parts = some r) (hall : All2 (fun (x : Nat × AV) (y : Nat × Value) => x.1 = y.1 ∧ FRep F ρ x.2 y.2) parts pv) :
    ∃ l us e sz, r = .slice .full l ∧ l.length = k ∧ k ≤ maxLen ∧ (∀ x ∈ l, x.cells.length = sz) ∧ All2 (PRep F ρ.G ρ.n) (l.flatMap AV.cells) us ∧ (∀ c ∈ l.flatMap AV.cells, c.isOne = true) ∧
      (Instr.buildSlice t k pv.toArray).run P w = .ok (.slice (some ⟨w.heap.size, 0, none⟩) k k) (w.alloc (.cells us.toArray e)) := by
  unfold buildSliceA at hb
  split at hb
  · rename_i e sz hap
    split at hb
    · rename_i hc
      obtain ⟨hc1, hc2, hc3⟩ := hc
      injection hb with hb
      subst hb
      obtain ⟨i, z, hu, hi, hz, hzs, his, hby, hpos⟩ := apOf_inv hap
      have hparts : ∀ p ∈ parts, p.2.cells.length = sz ∧ notTuple p.2 = true := by
        intro p hp
        have := List.all_eq_true.1 hc2 p hp
        simpa using this
      have hnk : parts.length = k := by have := congrArg List.length hc1; simpa using this
      have hpk : pv.length = k := by rw [← hall.length]; exact hnk
      -- the values
      have hpv1 : pv.map (·.1) = List.range k := by
        rw [← hc1]
        clear hc1 hc2 hparts hnk hpk
        induction hall with
        | nil => rfl
        | cons h1 _ ih => simp only [List.map_cons, ih, h1.1]
      have hpvs := zipIdx_of_range pv k hpv1
      have hsz : ∀ v ∈ pv.map (·.2), v.cells.size = sz := by
        intro v hv
        obtain ⟨q, hq, rfl⟩ := List.mem_map.1 hv
        obtain ⟨p, hp, hr⟩ := hall.mem hq
        have h1 := hr.2.cells (frep_notTuple (hparts p hp).2)
        have := h1.length
        rw [(hparts p hp).1] at this
        simpa using this.symm
      obtain ⟨hflat, hflat1⟩ := flat_cells hall fun p hp => (hparts p hp).2
      -- the run
      have hrun : (Instr.buildSlice t k pv.toArray).run P w = .ok (.slice (some ⟨w.heap.size, 0, none⟩) k k) (w.alloc (.cells ((pv.map (·.2)).flatMap fun v => v.cells.toList).toArray e)) := by
        rcases Nat.eq_zero_or_pos k with hk0 | hkpos
        · subst hk0
          have : pv = [] := List.eq_nil_of_length_eq_zero hpk
          subst this
          exact run_buildSlice0 w hap
        · have hf := fill_flat (sz := sz) (pv.map (·.2)) 0 [] ((Array.range (k * sz)).map (z.cells[· % z.cells.size]!)).toList hsz (by simp) (by simp [hpk])
          rw [← hpvs] at hf
          simp only [List.nil_append, Array.toArray_toList] at hf
          exact run_buildSlice w t e k pv.toArray _ i z hu hi hz (by rw [his]; omega) (by rw [his]; have := Nat.mul_pos hkpos hpos; omega) (by rw [his]; exact hf)
      refine ⟨parts.map fun p => p.2.norm, _, e, sz, rfl, by simp [hnk], ?_, ?_, hflat, hflat1, hrun⟩
      · have : k ≤ k * sz := Nat.le_mul_of_pos_right k hpos
        simp only [maxLen]; omega
      · intro x hx
        obtain ⟨p, hp, rfl⟩ := List.mem_map.1 hx
        rw [AV.norm_cells (hparts p hp).2, List.length_map]
        exact (hparts p hp).1
    · cases hb
  · cases hb

theorem buildSlice_sound {ρ : Maps} {F : Imm} {R : Nat → Role} (h : WR T n w0.heap.size ρ F R fr H a w) (hx : Ext w0.heap.size G0 F0 n0 w0 ρ.G F H.length w) {t k : Nat} {parts : List (Nat × AV)} {pv : List (Nat × Value)} {r : AV}
    {dst : Option Nat} (hb : buildSliceA P t k parts = some r) (hall : All2 (fun (x : Nat × AV) (y : Nat × Value) => x.1 = y.1 ∧ FRep F ρ x.2 y.2) parts pv) (hd : ∀ d, dst = some d → d < n) :
    ∃ v w', (Instr.buildSlice t k pv.toArray).run P w = .ok v w' ∧ SR T n G0 F0 n0 w0 (fr.put dst r) H (a.put dst v) w' := by
  obtain ⟨l, us, e, sz, rfl, hk, hmax, hsz, hflat, hone, hrun⟩ := buildSlice_run w hb hall
  have hnew := heap_alloc_new w (.cells us.toArray e)
  obtain ⟨hmg, hw⟩ := (h.alloc (.cells us.toArray e)).freeze (us := us) (k := us.length) (h.rfresh _ (Nat.le_refl _)) (fun j => h.g.fresh _ j (Nat.le_refl _)) hnew (fun u hu => cells_oneCell (hflat.mono fun _ _ _ h => FCell.p h) hone u (by simpa using hu)) (by intro j v _ hv; simpa using hv)
  refine ⟨_, _, hrun, ρ, _, R, hw.put hd (x := .slice .full l) (v := .slice (some ⟨w.heap.size, 0, none⟩) k k) ?_, ?_⟩
  · have hp := PRep.slice (F := freezeF F w.heap.size us.length us) (G := ρ.G) (n := ρ.n) (tag := .full) (l := l) (b := w.heap.size) (o := 0) (base := some ⟨w.heap.size, 0, none⟩) (cap := l.length) (sz := sz)
      (.of_all2 (hflat.mono fun _ _ _ h => h.grow hmg.g)) (freezeF_has _ _ _) (fun _ => rfl) hsz hone (Nat.le_refl _) (by rw [hk]; exact hmax) (.inr ⟨rfl, rfl⟩)
    rw [hk] at hp
    exact .p hp
  · exact (hx.alloc h.B0le (.cells us.toArray e)).freeze (F' := freezeF F w.heap.size us.length us) fun b j hb => freezeF_other (by have := h.B0le; omega)

end

/-! ### append -/

def canGrow (fr : Fr) (tag : Tag) (l : List AV) : Bool :=
  match tag with
  | .frz => false
  | .full => true
  | .loc k g => g == fr.tgen k && fr.tab k == some l.length

def killTok (tag : Tag) (tab : Nat → Option Nat) : Nat → Option Nat :=
  match tag with
  | .loc k _ => upd tab k none
  | _ => tab

/-- The frame behind 'append'. -/
def grown (fr : Fr) (d : Nat) (tag : Tag) (l m : List AV) : Fr :=
  { fr with env := upd fr.env d (.slice (.loc d (fr.tgen d + 1)) (l ++ m)), tab := upd (killTok tag fr.tab) d (some (l.length + m.length)), tgen := upd fr.tgen d (fr.tgen d + 1) }

def appendA (P : Program) (T : Tabs) (c : Call) (dst : Option Nat) (K : Fr → Heap → Prop) (fr : Fr) (H : Heap) : Prop :=
  match dst, c.args.toList, c.argTypes.toList with
  | some d, [s, x], [t, t'] =>
    match apOf P t, ev T fr s, ev T fr x with
    | some (_, sz), .slice tag l, .slice _ m =>
      t' = t ∧ headOk sz l = true ∧ headOk sz m = true ∧ l.length + m.length ≤ growLim ∧
        (if canGrow fr tag l = true then K (grown fr d tag l m) H else m = [] ∧ K (fr.put (some d) (.slice .frz l)) H)
    | _, _, _ => False
  | _, _, _ => False

section
variable {P : Program} {T : Tabs} {n : Nat} {G0 : Nat → Nat} {F0 : Imm} {n0 : Nat} {w0 : World} {fr : Fr} {H : Heap} {a : Act} {w : World}

/-- Nothing is appended. -/
theorem run_append_none (w : World) {t e : TypeId} {sz : Nat} (h : apOf P t = some (e, sz)) (ty : TypeId) (base : Option Addr) (len cap : Nat) (hc : len ≤ cap) (x : Value) (hx : ∃ b c, x = .slice b 0 c) :
    (Builtin.append_ #[t, t] ty #[.slice base len cap, x]).run P w = .ok (.slice base len cap) w := by
  obtain ⟨i, z, hu, hi, hz, hzs, his, hby, hpos⟩ := apOf_inv h
  obtain ⟨b, c, rfl⟩ := hx
  cases b with
  | none =>
    cases base with
    | none => simp [Builtin.append_, run_underlying hu, sizeOf, typeInfo, hi, Builtin.lenOf, hc, Builtin.firstCells]
    | some ad => simp [Builtin.append_, run_underlying hu, sizeOf, typeInfo, hi, Builtin.lenOf, hc, Builtin.firstCells, storeCells]
  | some b =>
    cases base with
    | none => simp [Builtin.append_, run_underlying hu, sizeOf, typeInfo, hi, Builtin.lenOf, hc, Builtin.firstCells, loadCells, loadCellsFrom]
    | some ad => simp [Builtin.append_, run_underlying hu, sizeOf, typeInfo, hi, Builtin.lenOf, hc, Builtin.firstCells, storeCells, loadCells, loadCellsFrom]

/-- There is room: whatever the block's own type. -/
theorem run_append_room' (w : World) (t ty e e' : TypeId) (i : TypeInfo) (ht : P.underlying t = some (.slice e)) (hi : P.info? e = some i)
    (g sLen sCap : Nat) (cur : Array Value) (hg : w.heap[g]? = some (.cells cur e' (0, 0)))
    (a : Addr) (m c : Nat) (news : List Value) (hl : news.length = m * i.size) (hnews : ∀ j u, news[j]? = some u → w.cell? (a.add j) = some u) (h1 : ∀ u ∈ news, u.oneCell' = true)
    (hroom : sLen + m ≤ sCap) (hfit : sLen * i.size + news.length ≤ cur.size) :
    (Builtin.append_ #[t, t] ty #[.slice (some ⟨g, 0, none⟩) sLen sCap, .slice (some a) m c]).run P w =
      .ok (.slice (some ⟨g, 0, none⟩) (sLen + m) sCap) (w.setRow g (cur.toList.take (sLen * i.size) ++ news ++ cur.toList.drop (sLen * i.size + news.length)).toArray) := by
  have hf := run_firstCells_some (P := P) w i.size m a m c news hl hnews
  have hst := run_storeCells_at P g (sLen * i.size) e' news 0 cur w hg (by simpa using hfit) h1
  simp only [Nat.add_zero] at hst
  simp [Builtin.append_, run_underlying ht, sizeOf, typeInfo, hi, Builtin.lenOf, hroom, hf, Addr.add_lit, hst]

/-- A slice with a token's new name. -/
theorem WR.rename {ρ : Maps} {F : Imm} {R : Nat → Role} {B0 : Nat} (h : WR T n B0 ρ F R fr H a w) {tag : Tag} {l : List AV} {base : Option Addr} {cap : Nat} {d : Nat} (hd : d < n)
    (hp : PRep F ρ.G ρ.n (.slice .frz l) (.slice base l.length cap)) (htag : tag = .full ∧ cap = l.length ∨ ∃ k g, tag = .loc k g ∧ g = fr.tgen k ∧ fr.tab k = some l.length ∧ OwnRow ρ k g l base cap) :
    ∃ ρ' R', ρ'.G = ρ.G ∧ ρ'.n = ρ.n ∧ (∀ k g, tag = .loc k g → ρ'.A d (fr.tgen d + 1) = ρ.A k g) ∧ ρ'.ag d = fr.tgen d + 1 ∧ WR T n B0 ρ' F R' (grown fr d tag l []) H (a.put (some d) (.slice base l.length cap)) w := by
  -- what lies behind the name
  let A' : Option (Nat × Nat × Nat) := match tag with | .loc k g => ρ.A k g | _ => none
  let ρ' : Maps := { ρ with A := upd2 ρ.A d (fr.tgen d + 1) A', ag := upd ρ.ag d (fr.tgen d + 1) }
  let R' : Nat → Role := match A' with | some (b, _, _) => upd R b (.arr d) | none => R
  have hmg : MGrow F F ρ ρ' := by
    refine ⟨.refl, fun _ => Nat.le_refl _, fun _ _ _ => rfl, fun k => ?_, fun k g hg => ?_⟩
    · show ρ.ag k ≤ upd ρ.ag d (fr.tgen d + 1) k
      unfold upd
      split
      · rename_i h'; subst h'; rw [h.ag]; omega
      · exact Nat.le_refl _
    · show upd2 ρ.A d (fr.tgen d + 1) A' k g = ρ.A k g
      unfold upd2
      rw [if_neg]
      rintro ⟨rfl, rfl⟩
      rw [h.ag] at hg
      omega
  -- the live row
  have hlive : ∀ b c sz, A' = some (b, c, sz) → ∃ k g, tag = .loc k g ∧ g = fr.tgen k ∧ fr.tab k = some l.length ∧ ρ.A k (fr.tgen k) = some (b, c, sz) ∧ base = some ⟨b, 0, none⟩ ∧ cap = c ∧ ∀ x ∈ l, x.cells.length = sz := by
    intro b c sz hA
    rcases htag with ⟨rfl, _⟩ | ⟨k, g, rfl, rfl, ht, ho⟩
    · exact absurd hA (by simp [A'])
    · refine ⟨k, _, rfl, rfl, ht, hA, ?_⟩
      unfold OwnRow at ho
      have hA' : ρ.A k (fr.tgen k) = some (b, c, sz) := hA
      rw [hA'] at ho
      exact ho
  have hR' : ∀ b', (∀ k, R b' ≠ .arr k) → R' b' = R b' := by
    intro b' hb'
    show (match A' with | some (b, _, _) => upd R b (.arr d) | none => R) b' = R b'
    cases hA : A' with
    | none => rfl
    | some p =>
      obtain ⟨b, c, sz⟩ := p
      obtain ⟨k, g, _, _, ht, hA2, _⟩ := hlive b c sz hA
      have hr := (h.tok k _ ht b c sz hA2).2.1
      simp only [upd]
      rw [if_neg]
      rintro rfl
      exact hb' k hr
  have hown : OwnRow ρ' d (fr.tgen d + 1) l base cap := by
    unfold OwnRow
    have e : ρ'.A d (fr.tgen d + 1) = A' := by show upd2 ρ.A d (fr.tgen d + 1) A' d (fr.tgen d + 1) = A'; simp [upd2]
    rw [e]
    cases hA : A' with
    | none =>
      rcases htag with ⟨_, hc⟩ | ⟨k, g, rfl, rfl, ht, ho⟩
      · exact hc
      · unfold OwnRow at ho
        have hA' : ρ.A k (fr.tgen k) = none := hA
        rw [hA'] at ho
        exact ho
    | some p =>
      obtain ⟨b, c, sz⟩ := p
      obtain ⟨_, _, _, _, _, _, h1, h2, h3⟩ := hlive b c sz hA
      exact ⟨h1, h2, h3⟩
  refine ⟨ρ', R', rfl, rfl, ?_, by show upd ρ.ag d (fr.tgen d + 1) d = _; simp [upd], ⟨⟨h.g.imm, h.g.glob, h.g.inj, h.g.gF, h.g.fresh, h.g.tabs, h.g.row⟩, by rw [put_size]; exact h.size, by rw [put_defers]; exact h.defers, ?_, h.hn, h.lg, ?_, ?_, ?_, ?_, ?_, ?_, h.B0le⟩⟩
  · rintro k g rfl
    show upd2 ρ.A d (fr.tgen d + 1) A' d (fr.tgen d + 1) = ρ.A k g
    simp [upd2, A']
  · have h0 := (h.env.grow hmg).put (d := some d) (by intro d' he; injection he with he; subst he; rw [h.size]; exact hd) (x := .slice (.loc d (fr.tgen d + 1)) l) (v := .slice base l.length cap)
      (.cell (.loc (hp.grow hmg.g) (by show _ ≤ upd ρ.ag d (fr.tgen d + 1) d; simp [upd]) hown))
    simp only [grown, List.append_nil]
    exact h0
  · intro k
    show upd ρ.ag d (fr.tgen d + 1) k = upd fr.tgen d (fr.tgen d + 1) k
    unfold upd
    split
    · rfl
    · exact h.ag k
  · intro d' cs hd'
    obtain ⟨h1, h2, h3, vs, ty, h4, h5⟩ := h.box d' cs hd'
    exact ⟨h1, by rw [hR' _ (by intro k; show R (ρ.L d' (fr.gen d')) ≠ _; rw [h2]; simp)]; exact h2, h3, vs, ty, h4, h5.mono fun _ _ _ h => h.grow hmg⟩
  · intro k m hk b c sz hA
    simp only [grown, upd] at hk
    by_cases hkd : k = d
    · subst hkd
      simp only [if_true, List.length_nil, Nat.add_zero, Option.some.injEq] at hk
      subst hk
      have e1 : (grown fr k tag l []).tgen k = fr.tgen k + 1 := by simp [grown, upd]
      rw [e1] at hA
      have e2 : ρ'.A k (fr.tgen k + 1) = A' := by show upd2 ρ.A k (fr.tgen k + 1) A' k (fr.tgen k + 1) = A'; simp [upd2]
      rw [e2] at hA
      obtain ⟨k2, g2, _, _, ht, hA2, hb2, hc2, hs2⟩ := hlive b c sz hA
      obtain ⟨e1, e2, e3, e3', e4, e5⟩ := h.tok k2 _ ht b c sz hA2
      refine ⟨e1, ?_, e3, e3', e4, e5⟩
      show (match A' with | some (b, _, _) => upd R b (.arr k) | none => R) b = .arr k
      rw [hA]
      simp [upd]
    · simp only [if_neg hkd] at hk
      have e1 : (grown fr d tag l []).tgen k = fr.tgen k := by simp [grown, upd, hkd]
      rw [e1] at hA
      have e2 : ρ'.A k (fr.tgen k) = ρ.A k (fr.tgen k) := by show upd2 ρ.A d (fr.tgen d + 1) A' k (fr.tgen k) = _; simp [upd2, hkd]
      rw [e2] at hA
      have hk' : fr.tab k = some m ∧ ∀ k2 g2, tag = .loc k2 g2 → k ≠ k2 := by
        unfold killTok at hk
        split at hk
        · rename_i k2 g2
          simp only [upd] at hk
          split at hk
          · cases hk
          · rename_i hne
            refine ⟨hk, fun k3 g3 he => ?_⟩
            injection he with he1 he2
            subst he1
            exact hne
        · rename_i hnl
          exact ⟨hk, fun k3 g3 he => absurd he (hnl k3 g3)⟩
      obtain ⟨e3, e4, e5, e5', e6, e7⟩ := h.tok k m hk'.1 b c sz hA
      refine ⟨e3, ?_, e5, e5', e6, e7⟩
      show (match A' with | some (b, _, _) => upd R b (.arr d) | none => R) b = .arr k
      cases hA3 : A' with
      | none => exact e4
      | some p =>
        obtain ⟨b3, c3, sz3⟩ := p
        obtain ⟨k2, g2, ht2, _, ht, hA2, _⟩ := hlive b3 c3 sz3 hA3
        have hr := (h.tok k2 _ ht b3 c3 sz3 hA2).2.1
        simp only [upd]
        rw [if_neg]
        · exact e4
        · rintro rfl
          rw [e4] at hr
          injection hr with hr
          exact hk'.2 k2 g2 ht2 hr
  · intro b j v hf
    intro d'
    have h' := h.frole b j v hf d'
    show (match A' with | some (b, _, _) => upd R b (.arr d) | none => R) b ≠ .box d'
    cases hA : A' with
    | none => exact h'
    | some p =>
      obtain ⟨b3, c3, sz3⟩ := p
      simp only [upd]
      split
      · simp
      · exact h'
  · intro o ho
    have := h.grole o ho
    rw [hR' _ (by intro k; show R (ρ.G o) ≠ _; rw [this]; simp)]
    exact this
  · intro b hb
    have := h.rfresh b hb
    rw [hR' b (by rw [this]; simp)]
    exact this

end
end Go.Abs

/-
  The abstract layer, part I: append, all ways.
-/
namespace Go.Abs
open Go

theorem upd_upd {α : Type} (f : Nat → α) (i : Nat) (x y : α) : upd (upd f i x) i y = upd f i y := by
  funext j
  unfold upd
  split <;> rfl

theorem upd_same {α : Type} (f : Nat → α) (i : Nat) (x : α) : upd f i x i = x := by simp [upd]
theorem upd_ne {α : Type} (f : Nat → α) (i j : Nat) (x : α) (h : j ≠ i) : upd f i x j = f j := by simp [upd, h]

theorem zeroCells_one {zc : Array Value} (h : ∀ u ∈ zc.toList, u.oneCell' = true) (h0 : 0 < zc.size) (k : Nat) : ∀ u ∈ (Builtin.zeroCells zc k).toList, u.oneCell' = true := by
  intro u hu
  unfold Builtin.zeroCells at hu
  simp only [Array.toList_map, List.mem_map] at hu
  obtain ⟨i, _, rfl⟩ := hu
  have hlt : i % zc.size < zc.size := Nat.mod_lt _ h0
  rw [getElem!_pos zc _ hlt]
  exact h _ (by simp)

theorem apOf_one {P : Program} {t e : TypeId} {sz : Nat} (h : apOf P t = some (e, sz)) {i : TypeInfo} {z : Value} (hi : P.info? e = some i) (hz : i.zero = some z) : ∀ u ∈ z.cells.toList, u.oneCell' = true := by
  unfold apOf at h
  split at h
  · rename_i e' hu
    split at h
    · rename_i i' hi'
      split at h
      · rename_i z' hz'
        split at h
        · rename_i hc
          injection h with h
          injection h with h1 h2
          subst h1
          rw [hi] at hi'
          cases hi'
          rw [hz] at hz'
          cases hz'
          exact fun u hu => List.all_eq_true.1 hc.2.2.2 u hu
        · cases h
      · cases h
    · cases h
  · cases h

section
variable {P : Program} {T : Tabs} {n B0 : Nat} {ρ : Maps} {F : Imm} {R : Nat → Role} {fr : Fr} {H : Heap} {a : Act} {w : World}

/-- Cells behind those that do not change are written, and do not change from now on. -/
theorem WR.extend (h : WR T n B0 ρ F R fr H a w) {d p q b c sz : Nat} {news : List Value} (ht : fr.tab d = some p) (hA : ρ.A d (fr.tgen d) = some (b, c, sz)) (hq : news.length = q * sz) (hfit : p + q ≤ c) (hnone : ∀ u ∈ news, u.oneCell' = true)
    {cur : Array Value} {ty : TypeId} (hh : w.heap[b]? = some (.cells cur ty (0, 0))) :
    ∃ F', MGrow F F' ρ ρ ∧ (∀ b' j, b' ≠ b → F' b' j = F b' j) ∧ (∀ (j : Nat) (v : Value), news[j]? = some v → F' b (p * sz + j) = some v) ∧
      WR T n B0 ρ F' R { fr with tab := upd fr.tab d (some (p + q)) } H a (w.setRow b (cur.toList.take (p * sz) ++ news ++ cur.toList.drop (p * sz + news.length)).toArray) := by
  obtain ⟨h1, h2, h3, h3', ⟨vs, ty', h4, h5, h5'⟩, h6⟩ := h.tok d p ht b c sz hA
  rw [hh] at h4
  injection h4 with h4
  injection h4 with e1 e2
  subst e1; subst e2
  have hpq : (p + q) * sz ≤ c * sz := Nat.mul_le_mul_right _ hfit
  rw [Nat.add_mul] at hpq
  have hps : p * sz ≤ cur.toList.length := by simp; omega
  let F' : Imm := fun b' j => if b' = b ∧ p * sz ≤ j ∧ j < p * sz + news.length then news[j - p * sz]? else F b' j
  have hold : ∀ b' j v, F b' j = some v → F' b' j = some v := by
    intro b' j v hf
    show (if b' = b ∧ p * sz ≤ j ∧ j < p * sz + news.length then news[j - p * sz]? else F b' j) = some v
    rw [if_neg]
    · exact hf
    · rintro ⟨rfl, hj, _⟩
      rw [h6 j hj] at hf
      cases hf
  have hother : ∀ b' j, b' ≠ b → F' b' j = F b' j := by
    intro b' j hne
    show (if b' = b ∧ p * sz ≤ j ∧ j < p * sz + news.length then news[j - p * sz]? else F b' j) = F b' j
    rw [if_neg (fun h => hne h.1)]
  have hnew : ∀ (j : Nat) (v : Value), news[j]? = some v → F' b (p * sz + j) = some v := by
    intro j v hv
    have hj := (List.getElem?_eq_some_iff.1 hv).1
    show (if b = b ∧ p * sz ≤ p * sz + j ∧ p * sz + j < p * sz + news.length then news[p * sz + j - p * sz]? else F b (p * sz + j)) = some v
    rw [if_pos ⟨rfl, by omega, by omega⟩, Nat.add_sub_cancel_left]
    exact hv
  have hgr : ∀ G n, Grow F F' G G n n := fun G n => ⟨hold, Nat.le_refl _, fun _ _ => rfl⟩
  have hmg : MGrow F F' ρ ρ := ⟨hgr _ _, fun _ => Nat.le_refl _, fun _ _ _ => rfl, fun _ => Nat.le_refl _, fun _ _ _ => rfl⟩
  have hnb : ∀ b', R b' ≠ .arr d → b' ≠ b := by rintro b' hb' rfl; exact hb' h2
  have hall : AllOne (cur.toList.take (p * sz) ++ news ++ cur.toList.drop (p * sz + news.length)).toArray := by
    intro u hu
    simp only [List.mem_append] at hu
    rcases hu with (hu | hu) | hu
    · exact h5' u (List.mem_of_mem_take hu)
    · exact hnone u hu
    · exact h5' u (List.mem_of_mem_drop hu)
  have hrow := setRow_heap w b cur (cur.toList.take (p * sz) ++ news ++ cur.toList.drop (p * sz + news.length)).toArray ty (0, 0) hh
  refine ⟨F', hmg, hother, hnew, ⟨⟨?_, ?_, h.g.inj, ?_, ?_, fun g x hx => (h.g.tabs g x hx).grow (hgr _ _), ?_⟩, h.size, h.defers, h.env.grow hmg, h.hn, h.lg, h.ag, ?_, ?_, ?_, h.grole, ?_, by rw [size_setRow]; exact h.B0le⟩⟩
  · intro b' j v hf
    by_cases hb' : b' = b
    · subst hb'
      rw [cell_of_row _ b' j _ ty (0, 0) hrow]
      simp only [List.getElem?_toArray]
      change (if b' = b' ∧ p * sz ≤ j ∧ j < p * sz + news.length then news[j - p * sz]? else F b' j) = some v at hf
      split at hf
      · rename_i hc
        rw [List.append_assoc, List.getElem?_append_right (by rw [List.length_take]; omega), List.length_take, Nat.min_eq_left hps, List.getElem?_append_left (by omega)]
        exact hf
      · rename_i hc
        have hj : j < p * sz := by
          rcases Nat.lt_or_ge j (p * sz) with h' | h'
          · exact h'
          · rw [h6 j h'] at hf; cases hf
        have := h.g.imm b' j v hf
        rw [cell_of_row w b' j cur ty (0, 0) hh] at this
        rw [List.append_assoc, List.getElem?_append_left (by rw [List.length_take]; omega), List.getElem?_take, if_pos hj]
        simpa using this
    · rw [cell_setRow_other _ _ _ _ _ hb']
      rw [hother _ _ hb'] at hf
      exact h.g.imm b' j v hf
  · intro o cs ho
    obtain ⟨ob', g1, g2⟩ := h.g.glob o cs ho
    refine ⟨ob', ?_, g2.grow (hgr _ _)⟩
    rw [setRow_other]
    · exact g1
    · exact hnb _ (by rw [h.grole o (List.getElem?_eq_some_iff.1 ho).1]; simp)
  · intro o j ho hnd
    rw [hother]
    · exact h.g.gF o j ho hnd
    · exact hnb _ (by rw [h.grole o ho]; simp)
  · intro b' j hb'
    rw [size_setRow] at hb'
    rw [hother]
    · exact h.g.fresh b' j hb'
    · rintro rfl
      have := heap_lt hh
      omega
  · intro hT b' j v hf
    by_cases hb' : b' = b
    · subst hb'; exact ⟨_, ty, _, hrow, .inl rfl, hall⟩
    · rw [hother _ _ hb'] at hf
      obtain ⟨vs1, ty1, fz1, g1, g2⟩ := h.g.row hT b' j v hf
      exact ⟨vs1, ty1, fz1, by rw [setRow_other _ _ _ _ hb']; exact g1, g2⟩
  · intro d' cs hd'
    obtain ⟨g1, g2, g3, vs', ty', g4, g5⟩ := h.box d' cs hd'
    refine ⟨g1, g2, g3, vs', ty', ?_, g5.mono fun _ _ _ h => h.grow hmg⟩
    rw [setRow_other]
    · exact g4
    · exact hnb _ (by rw [g2]; simp)
  · intro k m hk b' c' sz' hA'
    simp only [upd] at hk
    by_cases hkd : k = d
    · subst hkd
      simp only [if_true, Option.some.injEq] at hk
      subst hk
      have hA2 : ρ.A k (fr.tgen k) = some (b', c', sz') := hA'
      rw [hA] at hA2
      injection hA2 with hA2
      injection hA2 with e1 e2
      injection e2 with e2 e3
      subst e1; subst e2; subst e3
      refine ⟨h1, h2, ⟨by have := h3.1; omega, hfit⟩, h3', ⟨_, ty, hrow, ?_, hall⟩, ?_⟩
      · simp only [List.size_toArray, List.length_append, List.length_take, List.length_drop, Array.length_toList]
        omega
      · intro j hj
        rw [Nat.add_mul, ← hq] at hj
        show (if b = b ∧ p * sz ≤ j ∧ j < p * sz + news.length then news[j - p * sz]? else F b j) = none
        rw [if_neg (by omega)]
        exact h6 j (by omega)
    · simp only [if_neg hkd] at hk
      obtain ⟨g1, g2, g3, g3', ⟨vs', ty', g4, g5⟩, g6⟩ := h.tok k m hk b' c' sz' hA'
      have hne : b' ≠ b := hnb _ (by rw [g2]; simp [hkd])
      refine ⟨g1, g2, g3, g3', ⟨vs', ty', by rw [setRow_other _ _ _ _ hne]; exact g4, g5⟩, fun j hj => ?_⟩
      rw [hother _ _ hne]
      exact g6 j hj
  · intro b' j v hf
    by_cases hb' : b' = b
    · subst hb'
      rw [h2]; simp
    · rw [hother _ _ hb'] at hf
      exact h.frole b' j v hf
  · intro b' hb'
    rw [size_setRow] at hb'
    exact h.rfresh b' hb'

/-- A new row, of which the first cells do not change from now on, and the rest is the frame's own. -/
theorem WR.claimArr (h : WR T n B0 ρ F R fr H a w) {b : Nat} {vs : Array Value} {ty : TypeId} {us : List Value} {c sz : Nat} {tag : Tag} {l m : List AV} {d : Nat} (hd : d < n) (hb : B0 ≤ b) (hfree : R b = .free)
    (hF : ∀ j, F b j = none) (hh : w.heap[b]? = some (.cells vs ty (0, 0))) (hall : AllOne vs) (hvs : vs.size = c * sz) (hlm : 0 < l.length + m.length) (hp : l.length + m.length ≤ c) (hc : c ≤ maxLen) (hus : us.length = (l.length + m.length) * sz)
    (hpre : ∀ (j : Nat) (v : Value), us[j]? = some v → vs[j]? = some v) (hcells : PRepL F ρ.G ρ.n ((l ++ m).flatMap AV.cells) us) (hone : ∀ x ∈ (l ++ m).flatMap AV.cells, x.isOne = true) (hsz : ∀ x ∈ l ++ m, x.cells.length = sz) :
    ∃ ρ' R', ρ'.G = ρ.G ∧ WR T n B0 ρ' (freezeF F b us.length us) R' (grown fr d tag l m) H (a.put (some d) (.slice (some ⟨b, 0, none⟩) (l.length + m.length) c)) w := by
  obtain ⟨hmg0, h0⟩ := h.freeze (k := us.length) (us := us) hfree hF hh hall (fun j v _ hv => hpre j v hv)
  let ρ' : Maps := { ρ with A := upd2 ρ.A d (fr.tgen d + 1) (some (b, c, sz)), ag := upd ρ.ag d (fr.tgen d + 1) }
  let R' : Nat → Role := upd R b (.arr d)
  have hmg : MGrow F (freezeF F b us.length us) ρ ρ' := by
    refine ⟨hmg0.g, fun _ => Nat.le_refl _, fun _ _ _ => rfl, fun k => ?_, fun k g hg => ?_⟩
    · show ρ.ag k ≤ upd ρ.ag d (fr.tgen d + 1) k
      unfold upd
      split
      · rename_i h'; subst h'; rw [h.ag]; omega
      · exact Nat.le_refl _
    · show upd2 ρ.A d (fr.tgen d + 1) (some (b, c, sz)) k g = ρ.A k g
      unfold upd2
      rw [if_neg]
      rintro ⟨rfl, rfl⟩
      rw [h.ag] at hg
      omega
  have hmg1 : MGrow (freezeF F b us.length us) (freezeF F b us.length us) ρ ρ' := ⟨.refl, hmg.lg, hmg.L, hmg.ag, hmg.A⟩
  have hRne : ∀ b', R b' ≠ .free → R' b' = R b' := by
    intro b' hb'
    show upd R b (.arr d) b' = R b'
    unfold upd
    rw [if_neg]
    rintro rfl
    exact hb' hfree
  have hne : ∀ b', R b' ≠ .free → b' ≠ b := by rintro b' hb' rfl; exact hb' hfree
  refine ⟨ρ', R', rfl, ⟨h0.g, by rw [put_size]; exact h.size, by rw [put_defers]; exact h.defers, ?_, h.hn, h.lg, ?_, ?_, ?_, ?_, ?_, ?_, h.B0le⟩⟩
  · have hval : FRep (freezeF F b us.length us) ρ' (.slice (.loc d (fr.tgen d + 1)) (l ++ m)) (.slice (some ⟨b, 0, none⟩) (l.length + m.length) c) := by
      have hlen : (l ++ m).length = l.length + m.length := List.length_append
      have hp' := PRep.slice (F := freezeF F b us.length us) (G := ρ'.G) (n := ρ'.n) (tag := .frz) (l := l ++ m) (b := b) (o := 0) (base := some ⟨b, 0, none⟩) (cap := c) (sz := sz)
        (hcells.grow hmg0.g) (freezeF_has F b us) (fun _ => rfl) hsz hone (by omega) hc (.inl rfl)
      rw [hlen] at hp'
      rw [← hlen]
      refine .cell (.loc (by rw [hlen]; exact hp') (by show _ ≤ upd ρ.ag d (fr.tgen d + 1) d; simp [upd]) ?_)
      unfold OwnRow
      have e : ρ'.A d (fr.tgen d + 1) = some (b, c, sz) := by show upd2 ρ.A d (fr.tgen d + 1) (some (b, c, sz)) d (fr.tgen d + 1) = _; simp [upd2]
      rw [e]
      exact ⟨rfl, rfl, hsz⟩
    have h1 := (h0.env.grow hmg1).put (d := some d) (by intro d' he; injection he with he; subst he; rw [h.size]; exact hd) hval
    exact h1
  · intro k
    show upd ρ.ag d (fr.tgen d + 1) k = upd fr.tgen d (fr.tgen d + 1) k
    unfold upd
    split
    · rfl
    · exact h.ag k
  · intro d' cs hd'
    obtain ⟨h1, h2, h3, vs', ty', h4, h5⟩ := h0.box d' cs hd'
    exact ⟨h1, by rw [hRne _ (by show R (ρ.L d' (fr.gen d')) ≠ _; rw [h2]; simp)]; exact h2, h3, vs', ty', h4, h5.mono fun _ _ _ h => h.grow hmg1⟩
  · intro k m' hk b' c' sz' hA
    simp only [grown, upd] at hk
    by_cases hkd : k = d
    · subst hkd
      simp only [if_true, Option.some.injEq] at hk
      subst hk
      have e1 : (grown fr k tag l m).tgen k = fr.tgen k + 1 := by simp [grown, upd]
      rw [e1] at hA
      have e2 : ρ'.A k (fr.tgen k + 1) = some (b, c, sz) := by show upd2 ρ.A k (fr.tgen k + 1) (some (b, c, sz)) k (fr.tgen k + 1) = _; simp [upd2]
      rw [e2] at hA
      injection hA with hA
      injection hA with e1 e2
      injection e2 with e2 e3
      subst e1; subst e2; subst e3
      refine ⟨hb, by show upd R b (.arr k) b = .arr k; simp [upd], ⟨hlm, hp⟩, hc, ⟨vs, ty, hh, hvs, hall⟩, fun j hj => ?_⟩
      show (if b = b ∧ j < us.length then us[j]? else F b j) = none
      rw [if_neg (by omega)]
      exact hF j
    · simp only [if_neg hkd] at hk
      have e1 : (grown fr d tag l m).tgen k = fr.tgen k := by simp [grown, upd, hkd]
      rw [e1] at hA
      have e2 : ρ'.A k (fr.tgen k) = ρ.A k (fr.tgen k) := by show upd2 ρ.A d (fr.tgen d + 1) _ k (fr.tgen k) = _; simp [upd2, hkd]
      rw [e2] at hA
      have hk' : fr.tab k = some m' := by
        unfold killTok at hk
        split at hk
        · simp only [upd] at hk
          split at hk
          · cases hk
          · exact hk
        · exact hk
      obtain ⟨e3, e4, e5, e5', e6, e7⟩ := h0.tok k m' hk' b' c' sz' hA
      exact ⟨e3, by rw [hRne _ (by rw [e4]; simp)]; exact e4, e5, e5', e6, e7⟩
  · intro b' j v hf
    by_cases hb' : b' = b
    · subst hb'
      intro d'
      show upd R b' (.arr d) b' ≠ _
      simp [upd]
    · have e : R' b' = R b' := by show upd R b (.arr d) b' = R b'; simp [upd, hb']
      rw [e]
      exact h0.frole b' j v hf
  · intro o ho
    have := h.grole o ho
    rw [hRne _ (by show R (ρ.G o) ≠ _; rw [this]; simp)]
    exact this
  · intro b' hb'
    have hne' : b' ≠ b := by rintro rfl; have := heap_lt hh; omega
    show upd R b (.arr d) b' = .free
    simp only [upd, if_neg hne']
    exact h.rfresh b' hb'

end

section
variable {P : Program} {T : Tabs} {n : Nat} {G0 : Nat → Nat} {F0 : Imm} {n0 : Nat} {w0 : World} {fr : Fr} {H : Heap} {a : Act} {w : World}

theorem run_append_grow' (w : World) {t e : TypeId} {sz : Nat} (hap : apOf P t = some (e, sz)) (ty : TypeId) (base : Option Addr) (sLen sCap : Nat) (olds : List Value) (holds : olds.length = sLen * sz)
    (hb : base = none → sLen = 0 ∧ sCap = 0) (ho : ∀ ad, base = some ad → ∀ j v, olds[j]? = some v → w.cell? (ad.add j) = some v)
    (ad : Addr) (m c : Nat) (news : List Value) (hl : news.length = m * sz) (hn : ∀ j v, news[j]? = some v → w.cell? (ad.add j) = some v) (hgt : sCap < sLen + m) (hlim : sLen + m ≤ growLim) :
    ∃ cap rest, sLen + m ≤ cap ∧ cap ≤ maxLen ∧ (∀ u ∈ rest, u.oneCell' = true) ∧ (olds ++ news ++ rest).length = cap * sz ∧
      (Builtin.append_ #[t, t] ty #[.slice base sLen sCap, .slice (some ad) m c]).run P w = .ok (.slice (some ⟨w.heap.size, 0, none⟩) (sLen + m) cap) (w.drew.alloc (.cells (olds ++ news ++ rest).toArray e)) := by
  obtain ⟨i, z, hu, hi, hz, hzs, his, hby, hpos⟩ := apOf_inv hap
  subst his
  have hlim' : sLen + m ≤ 1099511627776 := hlim
  have hbytes : (sLen + m) * i.bytes ≤ 140737488355328 := by
    have := Nat.mul_le_mul hlim' hby
    omega
  have hmax : sLen + m ≤ maxLen := by simp only [maxLen]; omega
  have hge := grownCap_ge w (sLen + m) sCap e
  have hle := grownCap_le_maxLen w (sLen + m) sCap e hmax
  refine ⟨grownCap w (sLen + m) sCap e, (Builtin.zeroCells z.cells (grownCap w (sLen + m) sCap e - (sLen + m))).toList, hge, hle, zeroCells_one (apOf_one hap hi hz) (by omega) _, ?_, ?_⟩
  · simp only [List.length_append, Array.length_toList, size_zeroCells, hzs, holds, hl, ← Nat.add_mul]
    congr 1
    omega
  · have e1 : (olds ++ news ++ (Builtin.zeroCells z.cells (grownCap w (sLen + m) sCap e - (sLen + m))).toList).toArray =
        olds.toArray ++ news.toArray ++ Builtin.zeroCells z.cells (grownCap w (sLen + m) sCap e - (sLen + m)) := by
      apply Array.toList_inj.1
      simp
    rw [e1]
    cases base with
    | some b =>
      exact run_append_grow w t ty e i z hu hi hz b sLen sCap olds holds (ho b rfl) ad m c news hl hn hgt (by omega) (growslice_fits hgt hbytes)
    | none =>
      obtain ⟨rfl, rfl⟩ := hb rfl
      have : olds = [] := List.eq_nil_of_length_eq_zero (by simpa using holds)
      subst this
      simp only [Nat.zero_add] at hgt hbytes hlim' ⊢
      have := run_append_nil (P := P) w t ty e i z hu hi hz ad m c news hl hn (by omega) (by omega) (by omega)
      simpa using this

/-- What a source of an append does: nothing, where it is empty; its cells come into the row that has room, or behind the old ones into a new row. -/
structure SrcRun (P : Program) (w : World) (t u e : TypeId) (sz k : Nat) (x : Value) (news : List Value) (ty : TypeId) : Prop where
  none : k = 0 → ∀ (base : Option Addr) (len cap : Nat), len ≤ cap → (Builtin.append_ #[t, u] ty #[.slice base len cap, x]).run P w = .ok (.slice base len cap) w
  room : 0 < k → ∀ (g sLen sCap : Nat) (cur : Array Value) (e' : TypeId), w.heap[g]? = some (.cells cur e' (0, 0)) → sLen + k ≤ sCap → sLen * sz + news.length ≤ cur.size →
    (Builtin.append_ #[t, u] ty #[.slice (some ⟨g, 0, .none⟩) sLen sCap, x]).run P w = .ok (.slice (some ⟨g, 0, .none⟩) (sLen + k) sCap) (w.setRow g (cur.toList.take (sLen * sz) ++ news ++ cur.toList.drop (sLen * sz + news.length)).toArray)
  grow : 0 < k → ∀ (base : Option Addr) (sLen sCap : Nat) (olds : List Value), olds.length = sLen * sz → (base = .none → sLen = 0 ∧ sCap = 0) → (∀ ad, base = some ad → ∀ j v, olds[j]? = some v → w.cell? (ad.add j) = some v) →
    sCap < sLen + k → sLen + k ≤ growLim → ∃ cap rest, sLen + k ≤ cap ∧ cap ≤ maxLen ∧ (∀ u ∈ rest, u.oneCell' = true) ∧ (olds ++ news ++ rest).length = cap * sz ∧
      (Builtin.append_ #[t, u] ty #[.slice base sLen sCap, x]).run P w = .ok (.slice (some ⟨w.heap.size, 0, .none⟩) (sLen + k) cap) (w.drew.alloc (.cells (olds ++ news ++ rest).toArray e))

theorem append_core {ρ : Maps} {F : Imm} {R : Nat → Role} (h : WR T n w0.heap.size ρ F R fr H a w) (hx : Ext w0.heap.size G0 F0 n0 w0 ρ.G F H.length w) {d : Nat} {t u e ty : TypeId} {sz : Nat} {K : Fr → Heap → Prop} {tag : Tag} {l m : List AV} {sv xv : Value} {vs2 : List Value}
    (hap : apOf P t = some (e, sz)) (hsr : FRep F ρ (.slice tag l) sv) (hl1 : headOk sz l = true) (src : SrcRun P w t u e sz m.length xv vs2 ty) (hcells : PRepL F ρ.G ρ.n (m.flatMap AV.cells) vs2) (hones : ∀ y ∈ m.flatMap AV.cells, y.isOne = true)
    (hszm : ∀ y ∈ m, y.cells.length = sz) (hlim : l.length + m.length ≤ growLim) (hdn : d < n)
    (hK : if canGrow fr tag l = true then K (grown fr d tag l m) H else m = [] ∧ K (fr.put (some d) (.slice .frz l)) H) :
    ∃ v w' fr' H', (Builtin.append_ #[t, u] ty #[sv, xv]).run P w = .ok v w' ∧ K fr' H' ∧ SR T n G0 F0 n0 w0 fr' H' (a.put (some d) v) w' := by
  obtain ⟨base, cap, b, o, sz1, vs, hsv, hsl, hfull, hloc⟩ := frep_slice hsr
  rw [hsv]
  obtain ⟨i, z, hu, hi, hz, hzs, his, hby, hpos⟩ := apOf_inv hap
  have hszl := headOk_all hl1 hsl.sz
  have hpfrz : PRep F ρ.G ρ.n (.slice .frz l) (.slice base l.length cap) := .slice hsl.cells hsl.has hsl.base hszl hsl.ones hsl.hcap hsl.hmax (.inl rfl)
  split at hK
  · rename_i hcg
    have htag : tag = .full ∧ cap = l.length ∨ ∃ k g, tag = .loc k g ∧ g = fr.tgen k ∧ fr.tab k = some l.length ∧ OwnRow ρ k g l base cap := by
      unfold canGrow at hcg
      split at hcg
      · cases hcg
      · exact .inl ⟨rfl, hfull rfl⟩
      · rename_i k g
        simp only [Bool.and_eq_true, beq_iff_eq] at hcg
        exact .inr ⟨k, g, rfl, hcg.1, hcg.2, (hloc k g rfl).2⟩
    by_cases hm : m = []
    · subst hm
      obtain ⟨ρ', R', hG, _, _, _, hw⟩ := h.rename hdn hpfrz htag
      refine ⟨_, _, _, _, src.none rfl _ _ _ hsl.hcap, hK, ρ', F, R', ?_, by rw [hG]; exact hx⟩
      exact hw
    · have hvl2 : vs2.length = m.length * sz := by rw [← hcells.length, flatMap_len hszm]
      have hvl1 : vs.length = l.length * sz := by rw [← hsl.cells.length, flatMap_len hszl]
      have hmpos : 0 < m.length := List.length_pos_iff.2 hm
      by_cases hroom : l.length + m.length ≤ cap
      · -- in place
        rcases htag with ⟨rfl, hc⟩ | ⟨k, g, rfl, hg, ht, ho⟩
        · omega
        · have ho' := ho
          unfold OwnRow at ho'
          cases hA : ρ.A k g with
          | none => rw [hA] at ho'; simp only at ho'; omega
          | some p =>
            obtain ⟨b3, c3, sz3⟩ := p
            rw [hA] at ho'
            simp only at ho'
            obtain ⟨rfl, rfl, hs3⟩ := ho'
            rw [hg] at hA
            obtain ⟨t1, t2, t3, t3', ⟨cur, ty', t4, t5, t5'⟩, t6⟩ := h.tok k _ ht b3 cap sz3 hA
            have hnone : ∀ u ∈ vs2, u.oneCell' = true := cells_oneCell (hcells.all2.mono fun _ _ _ h => FCell.p h) hones
            -- the element's cells
            have hlne : l ≠ [] := by rintro rfl; exact absurd t3.1 (by simp)
            have hsz3 : sz3 = sz := by
              cases l with
              | nil => exact absurd rfl hlne
              | cons y ys => rw [← hs3 y (by simp), hszl y (by simp)]
            subst hsz3
            obtain ⟨ρ', R', hG, hn', hA', hag', hw⟩ := h.rename hdn hpfrz (tag := .loc k g) (.inr ⟨k, g, rfl, hg, ht, ho⟩)
            have hrowA : ρ'.A d ((grown fr d (.loc k g) l []).tgen d) = some (b3, cap, sz3) := by
              have e : (grown fr d (.loc k g) l []).tgen d = fr.tgen d + 1 := by simp [grown, upd]
              rw [e, hA' k g rfl, hg]
              exact hA
            have htab : (grown fr d (.loc k g) l []).tab d = some l.length := by simp [grown, upd]
            obtain ⟨F', hmg, hother, hnew, hw2⟩ := hw.extend htab hrowA hvl2 hroom hnone t4
            have hbo : b = b3 ∧ o = 0 := by
              have := hsl.base hlne
              injection this with this
              injection this with e1 e2
              exact ⟨e1.symm, e2.symm⟩
            obtain ⟨rfl, rfl⟩ := hbo
            have hrun := src.room hmpos b l.length cap cur ty' t4 hroom (by
              rw [hvl2, ← Nat.add_mul, t5]; exact Nat.mul_le_mul_right _ hroom)
            have hval : FRep F' ρ' (.slice (.loc d (fr.tgen d + 1)) (l ++ m)) (.slice (some ⟨b, 0, none⟩) (l.length + m.length) cap) := by
              have hlen : (l ++ m).length = l.length + m.length := List.length_append
              have hhas : F'.has b 0 (vs ++ vs2) := by
                intro q v hv
                rcases Nat.lt_or_ge q vs.length with hq | hq
                · rw [List.getElem?_append_left hq] at hv
                  exact hmg.g.mF _ _ _ (hsl.has q v hv)
                · rw [List.getElem?_append_right hq] at hv
                  have := hnew _ v hv
                  rw [hvl1] at hq this
                  rw [show l.length * sz3 + (q - l.length * sz3) = 0 + q by omega] at this
                  exact this
              have hszs : ∀ y ∈ l ++ m, y.cells.length = sz3 := by
                intro y hy
                rcases List.mem_append.1 hy with hy | hy
                · exact hszl y hy
                · exact hszm y hy
              have hp' := PRep.slice (F := F') (G := ρ'.G) (n := ρ'.n) (tag := .frz) (l := l ++ m) (b := b) (o := 0) (base := some ⟨b, 0, none⟩) (cap := cap) (sz := sz3) (vs := vs ++ vs2)
                (by
                  rw [List.flatMap_append, hG, hn']
                  have hgr := hmg.g
                  rw [hG, hn'] at hgr
                  exact (hsl.cells.append hcells).grow hgr) hhas (fun _ => rfl) hszs (by
                  intro y hy
                  rw [List.flatMap_append] at hy
                  rcases List.mem_append.1 hy with hy | hy
                  · exact hsl.ones y hy
                  · exact hones y hy) (by omega) hsl.hmax (.inl rfl)
              rw [← hlen]
              refine .cell (.loc hp' (by rw [hag']; exact Nat.le_refl _) ?_)
              unfold OwnRow
              have e : ρ'.A d (fr.tgen d + 1) = some (b, cap, sz3) := by rw [hA' k g rfl, hg]; exact hA
              rw [e]
              exact ⟨rfl, rfl, hszs⟩
            have hfin := hw2.put (d := some d) (fun _ hh => by cases hh; exact hdn) hval
            refine ⟨_, _, _, _, hrun, hK, ρ', F', R', ?_, ?_⟩
            · have e1 : ({ (grown fr d (.loc k g) l []) with tab := upd (grown fr d (.loc k g) l []).tab d (some (l.length + m.length)) } : Fr).put (some d) (.slice (.loc d (fr.tgen d + 1)) (l ++ m)) = grown fr d (.loc k g) l m := by
                simp only [grown, Fr.put, upd_upd]
              have e2 : (a.put (some d) (.slice (some ⟨b, 0, none⟩) l.length cap)).put (some d) (.slice (some ⟨b, 0, none⟩) (l.length + m.length) cap) = a.put (some d) (.slice (some ⟨b, 0, none⟩) (l.length + m.length) cap) := by
                simp [Act.put]
              rw [e1, e2] at hfin
              exact hfin
            · rw [hG]
              exact (hx.setRow (.inl t1) _).freeze fun b' j hb' => hother b' j (by omega)
      · -- a new row
        have hb0 : base = none → l.length = 0 ∧ cap = 0 := by
          rintro rfl
          have hl0 : l = [] := by
            rcases List.eq_nil_or_concat l with h' | ⟨_, _, h'⟩
            · exact h'
            · have := hsl.base (by rw [h']; simp)
              cases this
          subst hl0
          refine ⟨rfl, ?_⟩
          rcases htag with ⟨_, hc⟩ | ⟨k, g, rfl, hg, ht, ho⟩
          · simpa using hc
          · unfold OwnRow at ho
            cases hA : ρ.A k g with
            | none => rw [hA] at ho; simpa using ho
            | some p =>
              obtain ⟨b3, c3, sz3⟩ := p
              rw [hA] at ho
              cases ho.1
        have ho0 : ∀ ad, base = some ad → ∀ (j : Nat) (v : Value), vs[j]? = some v → w.cell? (ad.add j) = some v := by
          intro ad had j v hv
          have hl0 : l ≠ [] := by
            rintro rfl
            have : vs = [] := List.eq_nil_of_length_eq_zero (by rw [hvl1]; simp)
            subst this
            simp at hv
          have := hsl.base hl0
          rw [had] at this
          injection this with this
          subst this
          rw [Addr.add_lit]
          exact h.g.imm b _ v (hsl.has j v hv)
        obtain ⟨c', rest, r1, r2, r0, r3, hrun⟩ := src.grow hmpos base l.length cap vs hvl1 hb0 ho0 (by omega) hlim
        have ha' := h.drew.alloc (.cells (vs ++ vs2 ++ rest).toArray e)
        have hsz0 : w.drew.heap.size = w.heap.size := rfl
        obtain ⟨ρ', R', hG, hw⟩ := ha'.claimArr (b := w.heap.size) (us := vs ++ vs2) (c := c') (sz := sz) (tag := tag) (l := l) (m := m) hdn h.B0le (h.rfresh _ (Nat.le_refl _)) (fun j => h.g.fresh _ j (Nat.le_refl _))
          (heap_alloc_new w.drew _) (by
            intro u hu
            simp only [List.mem_append] at hu
            rcases hu with (hu | hu) | hu
            · exact cells_oneCell (hsl.cells.all2.mono fun _ _ _ h => FCell.p h) hsl.ones u hu
            · exact cells_oneCell (hcells.all2.mono fun _ _ _ h => FCell.p h) hones u hu
            · exact r0 u hu) (by simpa using r3) (by omega) r1 r2 (by rw [List.length_append, hvl1, hvl2, Nat.add_mul]) (by
            intro j v hv
            have hj := (List.getElem?_eq_some_iff.1 hv).1
            simp only [List.getElem?_toArray]
            rw [List.getElem?_append_left hj]
            exact hv) (by rw [List.flatMap_append]; exact hsl.cells.append hcells) (by
            intro y hy
            rw [List.flatMap_append] at hy
            rcases List.mem_append.1 hy with hy | hy
            · exact hsl.ones y hy
            · exact hones y hy) (by
            intro y hy
            rcases List.mem_append.1 hy with hy | hy
            · exact hszl y hy
            · exact hszm y hy)
        refine ⟨_, _, _, _, hrun, hK, ρ', _, R', hw, ?_⟩
        rw [hG]
        exact ((hx.drew.alloc h.B0le _).freeze fun b' j hb' => freezeF_other (by have := h.B0le; omega))
  · obtain ⟨rfl, hK⟩ := hK
    refine ⟨_, _, _, _, src.none rfl _ _ _ hsl.hcap, hK, ρ, F, R, ?_, hx⟩
    exact h.put (fun _ hh => by cases hh; exact hdn) (.p hpfrz)

/-- A slice as the source. -/
theorem srcRun_slice {t e : TypeId} {sz : Nat} (hap : apOf P t = some (e, sz)) (ty : TypeId) {base : Option Addr} {m cap b o : Nat} {news : List Value} (hb : 0 < m → base = some ⟨b, o, none⟩) (hl : news.length = m * sz)
    (hn : ∀ j v, news[j]? = some v → w.cell? ((⟨b, o, none⟩ : Addr).add j) = some v) (h1 : ∀ u ∈ news, u.oneCell' = true) : SrcRun P w t t e sz m (.slice base m cap) news ty where
  none h0 base' len cap' hc := run_append_none w hap ty base' len cap' hc _ ⟨base, cap, by rw [h0]⟩
  room hk g sLen sCap cur e' hg hroom hfit := by
    obtain ⟨i, z, hu, hi, hz, hzs, his, hby, hpos⟩ := apOf_inv hap
    subst his
    rw [hb hk]
    exact run_append_room' (P := P) w t ty e e' i hu hi g sLen sCap cur hg ⟨b, o, .none⟩ m cap news hl hn h1 hroom hfit
  grow hk base' sLen sCap olds holds hb' ho hgt hlim := by
    rw [hb hk]
    exact run_append_grow' w hap ty base' sLen sCap olds holds hb' ho ⟨b, o, .none⟩ m cap news hl hn hgt hlim

theorem append_sound {ρ : Maps} {F : Imm} {R : Nat → Role} (h : WR T n w0.heap.size ρ F R fr H a w) (hx : Ext w0.heap.size G0 F0 n0 w0 ρ.G F H.length w) {c : Call} {dst : Option Nat} {ty : TypeId} {K : Fr → Heap → Prop}
    (hK : appendA P T c dst K fr H) (hd : ∀ d, dst = some d → d < n) (hok : ∀ x ∈ c.args.toList, okOperand x = true) :
    ∃ v w' fr' H', (Builtin.append_ c.argTypes ty (c.args.map a.eval)).run P w = .ok v w' ∧ K fr' H' ∧ SR T n G0 F0 n0 w0 fr' H' (a.put dst v) w' := by
  unfold appendA at hK
  split at hK
  · rename_i d s x t t' hargs htys
    have hdn := hd d rfl
    have e1 : c.argTypes = #[t, t'] := Array.toList_inj.1 (by rw [htys])
    have e2 : c.args.map a.eval = #[a.eval s, a.eval x] := Array.toList_inj.1 (by rw [Array.toList_map, hargs]; rfl)
    rw [e1, e2]
    have hsr := ev_rep h.env h.tabsRep s (hok s (by rw [hargs]; simp))
    have hxr := ev_rep h.env h.tabsRep x (hok x (by rw [hargs]; simp))
    split at hK
    · rename_i e sz tag l tag' m hap hs hxe
      obtain ⟨rfl, hl1, hm1, hlim, hK⟩ := hK
      rw [hs] at hsr
      rw [hxe] at hxr
      obtain ⟨base2, cap2, b2, o2, sz2, vs2, hxv, hsl2, _, _⟩ := frep_slice hxr
      have hszm := headOk_all hm1 hsl2.sz
      rw [hxv]
      exact append_core h hx hap hsr hl1 (srcRun_slice hap ty (b := b2) (o := o2) (fun hp => hsl2.base (List.length_pos_iff.1 hp)) (by rw [← hsl2.cells.length, flatMap_len hszm]) (fun j v hv => by
        rw [Addr.add_lit]
        exact h.g.imm b2 _ v (hsl2.has j v hv)) (cells_oneCell (hsl2.cells.all2.mono fun _ _ _ h => FCell.p h) hsl2.ones)) hsl2.cells hsl2.ones hszm hlim hdn hK
    · exact hK.elim
  · exact hK.elim

/-- The bytes of a text as abstract values. -/
def byteAVs (s : ByteArray) : List AV := s.data.toList.map fun b => AV.sc (.int .u8 (b.toNat : Int))

/-- 'append' of a text's bytes to a slice of bytes. -/
def appendS (P : Program) (T : Tabs) (c : Call) (dst : Option Nat) (K : Fr → Heap → Prop) (fr : Fr) (H : Heap) : Prop :=
  match dst, c.args.toList, c.argTypes.toList with
  | some d, [s, x], [t, t'] =>
    match apOf P t, P.underlying t', ev T fr s, ev T fr x with
    | some (_, sz), some .string, .slice tag l, .sc (.string y) =>
      sz = 1 ∧ headOk 1 l = true ∧ l.length + y.size ≤ growLim ∧
        (if canGrow fr tag l = true then K (grown fr d tag l (byteAVs y)) H else byteAVs y = [] ∧ K (fr.put (some d) (.slice .frz l)) H)
    | _, _, _, _ => False
  | _, _, _ => False

theorem srcRun_str {t u e : TypeId} (hap : apOf P t = some (e, 1)) (hstr : P.underlying u = some .string) (ty : TypeId) (s : ByteArray) : SrcRun P w t u e 1 s.size (.string s) (Lib.strCells s) ty where
  none h0 base len cap hc := by
    obtain ⟨i, z, hu, hi, hz, hzs, his, hby, hpos⟩ := apOf_inv hap
    have hf := Lib.run_firstCells_string (P := P) w i.size s
    have hn : Lib.strCells s = [] := List.eq_nil_of_length_eq_zero (by rw [Lib.strCells_length]; exact h0)
    rw [h0, hn] at hf
    cases base with
    | none => simp [Builtin.append_, run_underlying hu, run_underlying hstr, sizeOf, typeInfo, hi, Builtin.lenOf, h0, hc, hf]
    | some ad => simp [Builtin.append_, run_underlying hu, run_underlying hstr, sizeOf, typeInfo, hi, Builtin.lenOf, h0, hc, hf, storeCells]
  room hk g sLen sCap cur e' hg hroom hfit := by
    obtain ⟨i, z, hu, hi, hz, hzs, his, hby, hpos⟩ := apOf_inv hap
    have hf := Lib.run_firstCells_string (P := P) w 1 s
    have hst := run_storeCells_at P g (sLen * 1) e' (Lib.strCells s) 0 cur w hg (by simpa using hfit) (Lib.strCells_oneCell s)
    simp only [Nat.add_zero, Nat.mul_one] at hst
    simp [Builtin.append_, run_underlying hu, run_underlying hstr, sizeOf, typeInfo, hi, his, Builtin.lenOf, hroom, hf, Addr.add_lit, hst]
  grow hk base sLen sCap olds holds hb ho hgt hlim := by
    obtain ⟨i, z, hu, hi, hz, hzs, his, hby, hpos⟩ := apOf_inv hap
    have hlim' : sLen + s.size ≤ 1099511627776 := hlim
    have hbytes : (sLen + s.size) * i.bytes ≤ 140737488355328 := by
      have := Nat.mul_le_mul hlim' hby
      omega
    have hmax : sLen + s.size ≤ maxLen := by simp only [maxLen]; omega
    refine ⟨grownCap w (sLen + s.size) sCap e, (Builtin.zeroCells z.cells (grownCap w (sLen + s.size) sCap e - (sLen + s.size))).toList, grownCap_ge w (sLen + s.size) sCap e, grownCap_le_maxLen w (sLen + s.size) sCap e hmax, zeroCells_one (apOf_one hap hi hz) (by omega) _, ?_, ?_⟩
    · have := grownCap_ge w (sLen + s.size) sCap e
      simp only [List.length_append, Array.length_toList, size_zeroCells, hzs, holds, Lib.strCells_length]
      omega
    · have e1 : (olds ++ Lib.strCells s ++ (Builtin.zeroCells z.cells (grownCap w (sLen + s.size) sCap e - (sLen + s.size))).toList).toArray =
          olds.toArray ++ (Lib.strCells s).toArray ++ Builtin.zeroCells z.cells (grownCap w (sLen + s.size) sCap e - (sLen + s.size)) := by
        apply Array.toList_inj.1
        simp
      rw [e1]
      cases base with
      | some b => exact Lib.run_append_grow_string w t u ty e i z hu hstr hi hz b sLen sCap olds (by rw [his]; exact holds) (ho b rfl) s hgt (by omega) (growslice_fits hgt hbytes)
      | none =>
        obtain ⟨rfl, rfl⟩ := hb rfl
        have h0 : olds = [] := List.eq_nil_of_length_eq_zero (by simpa using holds)
        subst h0
        have h2 := run_append_nil_string (P := P) w t u ty e i z hu hstr hi hz s (by omega) (by omega) (by rw [Nat.zero_add] at hbytes; omega)
        have e2 : (s.data.map fun b => Value.int .u8 b.toNat) = (Lib.strCells s).toArray := by
          apply Array.ext'
          simp [Lib.strCells]
        rw [e2] at h2
        simpa using h2

theorem byteAVs_cells (s : ByteArray) : (byteAVs s).flatMap AV.cells = (Lib.strCells s).map AV.sc := by
  unfold byteAVs Lib.strCells
  induction s.data.toList with
  | nil => rfl
  | cons b l ih => simp only [List.map_cons, List.flatMap_cons, ih]; rfl

theorem prepL_strCells {F : Imm} {G : Nat → Nat} {k : Nat} : ∀ (L : List Value), (∀ v ∈ L, isSc v = true) → PRepL F G k (L.map AV.sc) L
  | [], _ => .nil
  | v :: L, h => .cons (.sc (h v (by simp))) (prepL_strCells L fun x hx => h x (by simp [hx]))

theorem appendS_sound {ρ : Maps} {F : Imm} {R : Nat → Role} (h : WR T n w0.heap.size ρ F R fr H a w) (hx : Ext w0.heap.size G0 F0 n0 w0 ρ.G F H.length w) {c : Call} {dst : Option Nat} {ty : TypeId} {K : Fr → Heap → Prop}
    (hK : appendS P T c dst K fr H) (hd : ∀ d, dst = some d → d < n) (hok : ∀ x ∈ c.args.toList, okOperand x = true) :
    ∃ v w' fr' H', (Builtin.append_ c.argTypes ty (c.args.map a.eval)).run P w = .ok v w' ∧ K fr' H' ∧ SR T n G0 F0 n0 w0 fr' H' (a.put dst v) w' := by
  unfold appendS at hK
  split at hK
  · rename_i d s x t t' hargs htys
    have hdn := hd d rfl
    have e1 : c.argTypes = #[t, t'] := Array.toList_inj.1 (by rw [htys])
    have e2 : c.args.map a.eval = #[a.eval s, a.eval x] := Array.toList_inj.1 (by rw [Array.toList_map, hargs]; rfl)
    rw [e1, e2]
    have hsr := ev_rep h.env h.tabsRep s (hok s (by rw [hargs]; simp))
    have hxr := ev_rep h.env h.tabsRep x (hok x (by rw [hargs]; simp))
    split at hK
    · rename_i e sz tag l y hap hstr hs hxe
      obtain ⟨rfl, hl1, hlim, hK⟩ := hK
      rw [hs] at hsr
      rw [hxe] at hxr
      rw [frep_sc hxr]
      have hlen : (byteAVs y).length = y.size := by simp [byteAVs]
      have c1 : PRepL F ρ.G ρ.n ((byteAVs y).flatMap AV.cells) (Lib.strCells y) := by
        rw [byteAVs_cells]
        refine prepL_strCells _ fun v hv => ?_
        obtain ⟨b, _, rfl⟩ := List.mem_map.1 hv
        rfl
      have c2 : ∀ c ∈ (byteAVs y).flatMap AV.cells, c.isOne = true := fun c hc => by
        rw [byteAVs_cells] at hc
        obtain ⟨v, _, rfl⟩ := List.mem_map.1 hc
        rfl
      have c3 : ∀ c ∈ byteAVs y, c.cells.length = 1 := fun c hc => by
        obtain ⟨b, _, rfl⟩ := List.mem_map.1 hc
        rfl
      exact append_core h hx hap hsr hl1 (by rw [hlen]; exact srcRun_str hap hstr ty y) c1 c2 c3 (by rw [hlen]; exact hlim) hdn hK
    · exact hK.elim
  · exact hK.elim

end
end Go.Abs

/-
  The abstract layer, part I2: slices of the frame's own whose elements may be written: their rows are boxes of the frame.
-/
namespace Go.Abs
open Go

/-- The zero value's cells, of any type. -/
def zeroA (P : Program) (t : TypeId) : Option (List AV) :=
  match zeroOf P t with
  | some z => if okConst z = true ∧ notTuple (ofValue z) = true then some (ofValue z).cells else none
  | none => none

theorem zeroA_inv {P : Program} {t : TypeId} {cs : List AV} (h : zeroA P t = some cs) : ∃ z, zeroOf P t = some z ∧ okConst z = true ∧ notTuple (ofValue z) = true ∧ cs = (ofValue z).cells := by
  unfold zeroA at h
  split at h
  · rename_i z hz
    split at h
    · rename_i hc
      injection h with h
      exact ⟨z, hz, hc.1, hc.2, h.symm⟩
    · cases h
  · cases h


/-- The frame with a new row of the frame's own. -/
def lgrown (fr : Fr) (d : Nat) (cells : List AV) (len cap : Nat) : Fr :=
  { fr with env := upd fr.env d (.lsl d (fr.gen d + 1) len cap), box := upd fr.box d (some cells), gen := upd fr.gen d (fr.gen d + 1) }

/-- What is spare in a row. -/
def junk (n : Nat) : List AV := List.replicate n .undef

/-- 'append' where the elements of what it makes may be written. -/
def appendL (P : Program) (T : Tabs) (c : Call) (dst : Option Nat) (K : Fr → Heap → Prop) (fr : Fr) (H : Heap) : Prop :=
  match dst, c.args.toList, c.argTypes.toList with
  | some d, [s, x], [t, t'] =>
    match apOf P t, ev T fr x with
    | some (e, sz), .slice _ m =>
      t' = t ∧ headOk sz m = true ∧ (zeroA P e).isSome = true ∧ 0 < m.length ∧
      match ev T fr s with
      | .slice .full l => headOk sz l = true ∧ l.length + m.length ≤ growLim ∧
          ∀ cap, l.length + m.length ≤ cap → K (lgrown fr d (l.flatMap AV.cells ++ m.flatMap AV.cells ++ junk ((cap - (l.length + m.length)) * sz)) (l.length + m.length) cap) H
      | .lsl b g len cap => g = fr.gen b ∧ len + m.length ≤ growLim ∧
          match fr.box b with
          | some cs => cs.length = cap * sz ∧
              (len + m.length ≤ cap → K { fr with env := upd fr.env d (.lsl b g (len + m.length) cap), box := upd fr.box b (some (setCells cs (len * sz) (m.flatMap AV.cells))) } H) ∧
              (∀ cap', cap < len + m.length → len + m.length ≤ cap' → K (lgrown fr d (cs.take (len * sz) ++ m.flatMap AV.cells ++ junk ((cap' - (len + m.length)) * sz)) (len + m.length) cap') H)
          | none => False
      | _ => False
    | _, _ => False
  | _, _, _ => False

section
variable {P : Program} {T : Tabs} {n : Nat} {G0 : Nat → Nat} {F0 : Imm} {n0 : Nat} {w0 : World} {fr : Fr} {H : Heap} {a : Act} {w : World}

theorem zeroA_cells {e : TypeId} (h : (zeroA P e).isSome = true) {i : TypeInfo} {z : Value} (hi : P.info? e = some i) (hz : i.zero = some z) : ∀ u ∈ z.cells.toList, u.oneCell' = true := by
  cases hc : zeroA P e with
  | none => rw [hc] at h; cases h
  | some cs =>
    obtain ⟨z', hz', h1, h2, _⟩ := zeroA_inv hc
    have : z' = z := by
      unfold zeroOf at hz'
      rw [hi] at hz'
      simp only [Option.bind_some, hz] at hz'
      exact (Option.some.inj hz').symm
    subst this
    exact (ofValue_cells h1 (fun vs hv => by subst hv; simp [ofValue, notTuple] at h2)).2

/-- A new row, with what is spare in it. -/
theorem run_append_growL (w : World) {t e : TypeId} {sz : Nat} (hap : apOf P t = some (e, sz)) (hz0 : (zeroA P e).isSome = true) (ty : TypeId) (base : Option Addr) (sLen sCap : Nat) (olds : List Value) (holds : olds.length = sLen * sz)
    (hb : base = none → sLen = 0 ∧ sCap = 0) (ho : ∀ ad, base = some ad → ∀ j v, olds[j]? = some v → w.cell? (ad.add j) = some v)
    (ad : Addr) (m c : Nat) (news : List Value) (hl : news.length = m * sz) (hn : ∀ j v, news[j]? = some v → w.cell? (ad.add j) = some v) (hgt : sCap < sLen + m) (hlim : sLen + m ≤ growLim) :
    ∃ cap rest, sLen + m ≤ cap ∧ cap ≤ maxLen ∧ rest.length = (cap - (sLen + m)) * sz ∧ (∀ u ∈ rest, u.oneCell' = true) ∧
      (Builtin.append_ #[t, t] ty #[.slice base sLen sCap, .slice (some ad) m c]).run P w = .ok (.slice (some ⟨w.heap.size, 0, none⟩) (sLen + m) cap) (w.drew.alloc (.cells (olds ++ news ++ rest).toArray e)) := by
  obtain ⟨i, z, hu, hi, hz, hzs, his, hby, hpos⟩ := apOf_inv hap
  subst his
  have hlim' : sLen + m ≤ 1099511627776 := hlim
  have hbytes : (sLen + m) * i.bytes ≤ 140737488355328 := by
    have := Nat.mul_le_mul hlim' hby
    omega
  have hmax : sLen + m ≤ maxLen := by simp only [maxLen]; omega
  have hge := grownCap_ge w (sLen + m) sCap e
  have hle := grownCap_le_maxLen w (sLen + m) sCap e hmax
  refine ⟨grownCap w (sLen + m) sCap e, (Builtin.zeroCells z.cells (grownCap w (sLen + m) sCap e - (sLen + m))).toList, hge, hle, ?_, zeroCells_one (zeroA_cells hz0 hi hz) (by omega) _, ?_⟩
  · simp only [Array.length_toList, size_zeroCells, hzs]
  · have e1 : (olds ++ news ++ (Builtin.zeroCells z.cells (grownCap w (sLen + m) sCap e - (sLen + m))).toList).toArray =
        olds.toArray ++ news.toArray ++ Builtin.zeroCells z.cells (grownCap w (sLen + m) sCap e - (sLen + m)) := by
      apply Array.toList_inj.1
      simp
    rw [e1]
    cases base with
    | some b =>
      exact run_append_grow w t ty e i z hu hi hz b sLen sCap olds holds (ho b rfl) ad m c news hl hn hgt (by omega) (growslice_fits hgt hbytes)
    | none =>
      obtain ⟨rfl, rfl⟩ := hb rfl
      have : olds = [] := List.eq_nil_of_length_eq_zero (by simpa using holds)
      subst this
      simp only [Nat.zero_add] at hgt hbytes hlim' ⊢
      have := run_append_nil (P := P) w t ty e i z hu hi hz ad m c news hl hn (by omega) (by omega) (by omega)
      simpa using this

theorem junk_rep {F : Imm} {ρ : Maps} : ∀ {rest : List Value} {k : Nat}, rest.length = k → (∀ u ∈ rest, u.oneCell' = true) → All2 (FCell F ρ) (junk k) rest
  | [], k, h, _ => by cases h; exact .nil
  | u :: rest, k, h, h1 => by
    cases h
    show All2 _ (List.replicate (rest.length + 1) AV.undef) _
    rw [List.replicate_succ]
    exact .cons (.p (.undef (h1 u (by simp)))) (junk_rep rfl fun v hv => h1 v (by simp [hv]))

theorem junk_one (k : Nat) : ∀ c ∈ junk k, c.isOne = true := by
  intro c hc
  rw [List.eq_of_mem_replicate hc]
  rfl

/-- A new block becomes a row of the frame's own. -/
theorem WR.claimL {ρ : Maps} {F : Imm} {R : Nat → Role} (h : WR T n w0.heap.size ρ F R fr H a w) (hx : Ext w0.heap.size G0 F0 n0 w0 ρ.G F H.length w) {d len cap : Nat} (hd : d < n) {cells : List AV} {vs : Array Value} (ty : TypeId)
    (hcs : All2 (FCell F ρ) cells vs.toList) (hone : ∀ c ∈ cells, c.isOne = true) (hlen : len ≤ cap) (hcap : cap ≤ maxLen) :
    SR T n G0 F0 n0 w0 (lgrown fr d cells len cap) H (a.put (some d) (.slice (some ⟨w.heap.size, 0, none⟩) len cap)) (w.drew.alloc (.cells vs ty)) := by
  have ha := h.drew.alloc (.cells vs ty)
  have hnew : (w.drew.alloc (.cells vs ty)).heap[w.drew.heap.size]? = some (.cells vs ty (0, 0)) := heap_alloc_new w.drew _
  have hsz : w.drew.heap.size = w.heap.size := rfl
  have hfree : R w.drew.heap.size = .free := h.rfresh _ (Nat.le_refl _)
  have hF : ∀ j, F w.drew.heap.size j = none := fun j => h.g.fresh _ j (Nat.le_refl _)
  obtain ⟨ρ', R', hG, hw⟩ := ha.claim h.B0le hfree hF hnew hcs hone hd
  have hbx := hw.box d cells (by simp [upd])
  have hL : ρ'.L d (fr.gen d + 1) = w.heap.size := by
    have he := hw.env d
    have e1 : ({ fr with env := upd fr.env d (.lptr d (fr.gen d + 1) 0), box := upd fr.box d (some cells), gen := upd fr.gen d (fr.gen d + 1) } : Fr).env d = .lptr d (fr.gen d + 1) 0 := by simp [upd]
    rw [e1, put_tmps a (some d) _ d (by intro d' he; injection he with he; subst he; rw [h.size]; exact hd), if_pos rfl] at he
    have := (frep_lptr he).1
    injection this with this
    injection this with this
    injection this with this
    exact this.symm
  have hlg : fr.gen d + 1 ≤ ρ'.lg d := by
    rw [hw.lg d]
    simp [upd]
  have hput := hw.put (d := some d) (by intro d' he; injection he with he; subst he; exact hd) (x := .lsl d (fr.gen d + 1) len cap) (v := .slice (some ⟨w.heap.size, 0, none⟩) len cap) (by
    have := FCell.lsl (F := F) (ρ := ρ') (b := d) (g := fr.gen d + 1) hlg hlen hcap
    rw [hL] at this
    exact .cell this)
  refine ⟨ρ', F, R', ?_, ?_⟩
  · have e1 : (({ fr with env := upd fr.env d (.lptr d (fr.gen d + 1) 0), box := upd fr.box d (some cells), gen := upd fr.gen d (fr.gen d + 1) } : Fr).put (some d) (.lsl d (fr.gen d + 1) len cap)) = lgrown fr d cells len cap := by
      simp only [lgrown, Fr.put, upd_upd]
    have e2 : (a.put (some d) (.pointer (some ⟨w.heap.size, 0, none⟩))).put (some d) (.slice (some ⟨w.heap.size, 0, none⟩) len cap) = a.put (some d) (.slice (some ⟨w.heap.size, 0, none⟩) len cap) := by
      simp [Act.put]
    rw [e1, e2] at hput
    exact hput
  · rw [hG]
    exact (hx.drew).alloc h.B0le _

theorem appendL_sound {ρ : Maps} {F : Imm} {R : Nat → Role} (h : WR T n w0.heap.size ρ F R fr H a w) (hx : Ext w0.heap.size G0 F0 n0 w0 ρ.G F H.length w) {c : Call} {dst : Option Nat} {ty : TypeId} {K : Fr → Heap → Prop}
    (hK : appendL P T c dst K fr H) (hd : ∀ d, dst = some d → d < n) (hok : ∀ x ∈ c.args.toList, okOperand x = true) :
    ∃ v w' fr' H', (Builtin.append_ c.argTypes ty (c.args.map a.eval)).run P w = .ok v w' ∧ K fr' H' ∧ SR T n G0 F0 n0 w0 fr' H' (a.put dst v) w' := by
  unfold appendL at hK
  split at hK
  · rename_i d s x t t' hargs htys
    have hdn := hd d rfl
    have e1 : c.argTypes = #[t, t'] := Array.toList_inj.1 (by rw [htys])
    have e2 : c.args.map a.eval = #[a.eval s, a.eval x] := Array.toList_inj.1 (by rw [Array.toList_map, hargs]; rfl)
    rw [e1, e2]
    have hsr := ev_rep h.env h.tabsRep s (hok s (by rw [hargs]; simp))
    have hxr := ev_rep h.env h.tabsRep x (hok x (by rw [hargs]; simp))
    split at hK
    · rename_i e sz tag' m hap hxe
      obtain ⟨rfl, hm1, hz0, hmpos, hK⟩ := hK
      rw [hxe] at hxr
      obtain ⟨base2, cap2, b2, o2, sz2, vs2, hxv, hsl2, _, _⟩ := frep_slice hxr
      have hm : m ≠ [] := List.length_pos_iff.1 hmpos
      have hszm := headOk_all hm1 hsl2.sz
      have hbase2 := hsl2.base hm
      have hnews : ∀ j v, vs2[j]? = some v → w.cell? ((⟨b2, o2, none⟩ : Addr).add j) = some v := by
        intro j v hv
        rw [Addr.add_lit]
        exact h.g.imm b2 _ v (hsl2.has j v hv)
      have hvl2 : vs2.length = m.length * sz := by rw [← hsl2.cells.length, flatMap_len hszm]
      have hm2 : All2 (FCell F ρ) (m.flatMap AV.cells) vs2 := hsl2.cells.all2.mono fun _ _ _ h => .p h
      have hone2 : ∀ u ∈ vs2, u.oneCell' = true := cells_oneCell hm2 hsl2.ones
      obtain ⟨i, z, hu, hi, hz, hzs, his, hby, hpos⟩ := apOf_inv hap
      rw [hxv, hbase2]
      split at hK
      · -- a new row
        rename_i l hs
        obtain ⟨hl1, hlim, hK⟩ := hK
        rw [hs] at hsr
        obtain ⟨base, cap, b, o, sz1, vs, hsv, hsl, hfull, _⟩ := frep_slice hsr
        rw [hsv]
        have hcap : cap = l.length := hfull rfl
        have hszl := headOk_all hl1 hsl.sz
        have hvl1 : vs.length = l.length * sz := by rw [← hsl.cells.length, flatMap_len hszl]
        have hb0 : base = none → l.length = 0 ∧ cap = 0 := by
          rintro rfl
          have hl0 : l = [] := by
            rcases List.eq_nil_or_concat l with h' | ⟨_, _, h'⟩
            · exact h'
            · have := hsl.base (by rw [h']; simp)
              cases this
          subst hl0
          exact ⟨rfl, hcap⟩
        have ho : ∀ ad, base = some ad → ∀ j v, vs[j]? = some v → w.cell? (ad.add j) = some v := by
          intro ad hba j v hv
          have hlne : l ≠ [] := by
            rintro rfl
            have : vs = [] := List.eq_nil_of_length_eq_zero (by simpa using hvl1)
            rw [this] at hv
            simp at hv
          have := hsl.base hlne
          rw [hba] at this
          obtain rfl := Option.some.inj this
          rw [Addr.add_lit]
          exact h.g.imm b _ v (hsl.has j v hv)
        obtain ⟨cap', rest, hc1, hc2, hc3, hc4, hrun⟩ := run_append_growL w hap hz0 ty base l.length cap vs hvl1 hb0 ho ⟨b2, o2, none⟩ m.length cap2 vs2 hvl2 hnews (by omega) hlim
        refine ⟨_, _, _, _, hrun, hK cap' hc1, h.claimL hx hdn e ?_ ?_ hc1 hc2⟩
        · simp only
          exact ((hsl.cells.all2.mono fun _ _ _ h => FCell.p h).append hm2).append (junk_rep hc3 hc4)
        · intro c hc
          simp only [List.mem_append] at hc
          rcases hc with (hc | hc) | hc
          · exact hsl.ones c hc
          · exact hsl2.ones c hc
          · exact junk_one _ c hc
      · -- a row of the frame's own
        rename_i b g len cap hs
        obtain ⟨hg, hlim, hK⟩ := hK
        rw [hs] at hsr
        obtain ⟨hsv, hgl, hlc, hcm⟩ := frep_lsl hsr
        rw [hsv]
        split at hK
        · rename_i cs hb
          obtain ⟨hcl, hin, hgr⟩ := hK
          obtain ⟨b1, b2', b3, cur, cty, b4, b5⟩ := h.box b cs hb
          rw [← hg] at b1 b2' b4
          have hcur : cur.size = cap * sz := by rw [← hcl]; simpa using b5.length.symm
          have hle : len * sz ≤ cap * sz := Nat.mul_le_mul_right _ hlc
          by_cases hroom : len + m.length ≤ cap
          · have hfit : len * sz + m.length * sz ≤ cap * sz := by rw [← Nat.add_mul]; exact Nat.mul_le_mul_right _ hroom
            have hrun := run_append_room' (P := P) w t' ty e cty i hu hi (ρ.L b g) len cap cur b4 ⟨b2, o2, none⟩ m.length cap2 vs2 (by rw [his]; exact hvl2) hnews hone2 hroom (by rw [his]; omega)
            rw [his] at hrun
            have hset := b5.setCells hm2 (len * sz)
            have hml : (m.flatMap AV.cells).length = vs2.length := hm2.length
            have hones : ∀ c ∈ setCells cs (len * sz) (m.flatMap AV.cells), c.isOne = true := by
              intro c hc
              simp only [setCells, List.mem_append] at hc
              rcases hc with (hm | hm) | hm
              · exact b3 c (List.mem_of_mem_take hm)
              · exact hsl2.ones c hm
              · exact b3 c (List.mem_of_mem_drop hm)
            have hbx := h.setBox hb (vs' := (cur.toList.take (len * sz) ++ vs2 ++ cur.toList.drop (len * sz + vs2.length)).toArray) (by rw [← hml]; simpa [hml] using hset) hones
            rw [← hg] at hbx
            have hput := hbx.put (d := some d) (by intro d' he; injection he with he; subst he; exact hdn) (x := .lsl b g (len + m.length) cap) (v := .slice (some ⟨ρ.L b g, 0, none⟩) (len + m.length) cap) (.cell (.lsl hgl hroom hcm))
            refine ⟨_, _, _, _, hrun, hin hroom, ρ, F, R, hput, hx.setRow (.inl b1) _⟩
          · have ho : ∀ ad, some (⟨ρ.L b g, 0, none⟩ : Addr) = some ad → ∀ j v, (cur.toList.take (len * sz))[j]? = some v → w.cell? (ad.add j) = some v := by
              intro ad hba j v hv
              obtain rfl := Option.some.inj hba
              rw [Addr.add_lit, Nat.zero_add, cell_of_row w _ _ cur cty (0, 0) b4]
              rw [List.getElem?_take] at hv
              split at hv
              · simpa using hv
              · cases hv
            obtain ⟨cap', rest, hc1, hc2, hc3, hc4, hrun⟩ := run_append_growL w hap hz0 ty (some ⟨ρ.L b g, 0, none⟩) len cap (cur.toList.take (len * sz)) (by simp; omega) (by intro h; cases h) ho ⟨b2, o2, none⟩ m.length cap2 vs2 hvl2 hnews (by omega) hlim
            refine ⟨_, _, _, _, hrun, hgr cap' (by omega) hc1, h.claimL hx hdn e ?_ ?_ hc1 hc2⟩
            · simp only
              exact ((b5.take _).append hm2).append (junk_rep hc3 hc4)
            · intro c hc
              simp only [List.mem_append] at hc
              rcases hc with (hc | hc) | hc
              · exact b3 c (List.mem_of_mem_take hc)
              · exact hsl2.ones c hc
              · exact junk_one _ c hc
        · exact hK.elim
      · exact hK.elim
    · exact hK.elim
  · exact hK.elim

end
end Go.Abs

/-
  The abstract layer, part I3: maps with keys that are numbers, texts or truth values, and loops over them.
-/
namespace Go.Abs
open Go Go.MapKept

def keyB : TypeDesc → Value → Bool
  | .bool, .bool _ => true
  | .int k, .int k' _ => k' == k
  | .string, .string _ => true
  | _, _ => false

def keyEq : Value → Value → Bool
  | .bool a, .bool b => a == b
  | .int _ a, .int _ b => a == b
  | .string a, .string b => a == b
  | _, _ => false

theorem keyB_isKey {d : TypeDesc} {v : Value} (h : keyB d v = true) : IsKey d v := by
  unfold keyB at h
  split at h <;> simp_all [IsKey]

theorem isKey_isSc {d : TypeDesc} {v : Value} (h : IsKey d v) : isSc v = true := by
  cases d <;> cases v <;> simp_all [IsKey, isSc]

theorem keyEq_iff {d : TypeDesc} {a b : Value} (ha : IsKey d a) (hb : IsKey d b) : keyEq a b = true ↔ a = b := by
  cases d <;> cases a <;> cases b <;> simp_all [IsKey, keyEq, bytes_beq]

/-- Where a key stands. -/
def mapIdx (ks : List Value) (k : Value) : Option Nat := ks.findIdx? (fun x => keyEq x k)

theorem mapIdx_some {d : TypeDesc} {k : Value} (hk : IsKey d k) : ∀ {ks : List Value} {j : Nat}, (∀ x ∈ ks, IsKey d x) → ks.Nodup → ks[j]? = some k → mapIdx ks k = some j
  | [], j, _, _, h => by simp at h
  | x :: ks, j, hks, hn, h => by
    have hx := hks x (by simp)
    unfold mapIdx
    rw [List.findIdx?_cons]
    cases j with
    | zero =>
      simp at h
      subst h
      rw [if_pos ((keyEq_iff hx hx).2 rfl)]
    | succ j =>
      simp at h
      have hne : x ≠ k := by
        rintro rfl
        exact (List.nodup_cons.1 hn).1 (List.mem_of_getElem? h)
      rw [if_neg (fun e => hne ((keyEq_iff hx hk).1 e))]
      have := mapIdx_some hk (fun y hy => hks y (by simp [hy])) (List.nodup_cons.1 hn).2 h
      unfold mapIdx at this
      rw [this]
      rfl

theorem mapIdx_none {d : TypeDesc} {k : Value} (hk : IsKey d k) : ∀ {ks : List Value}, (∀ x ∈ ks, IsKey d x) → (∀ x ∈ ks, x ≠ k) → mapIdx ks k = none
  | [], _, _ => rfl
  | x :: ks, hks, h => by
    unfold mapIdx
    rw [List.findIdx?_cons, if_neg (fun e => h x (by simp) ((keyEq_iff (hks x (by simp)) hk).1 e))]
    have := mapIdx_none hk (ks := ks) (fun y hy => hks y (by simp [hy])) (fun y hy => h y (by simp [hy]))
    unfold mapIdx at this
    rw [this]
    rfl

/-- A zero value. -/
def zvalA (P : Program) (t : TypeId) : Option AV :=
  match zeroOf P t with
  | some z => if okConst z = true ∧ notTuple (ofValue z) = true then some (ofValue z).norm else none
  | none => none

def lookupA (P : Program) (H : Heap) (t : TypeId) (x i : AV) (ok : Bool) : Option AV :=
  match P.underlying t, x, i with
  | some (.map kt e), .mptr o, .sc k =>
    match P.underlying kt, H[o]?, zvalA P e with
    | some d, some [.mapc ks xs], some z =>
      if keyB d k = true ∧ ks.all (keyB d) = true then
        match mapIdx ks k with
        | some j => (xs[j]?).map fun v => if ok then .tuple [v, .sc (.bool true)] else v
        | none => some (if ok then .tuple [z, .sc (.bool false)] else z)
      else none
    | _, _, _ => none
  | _, _, _ => none

def mapPut (ks : List Value) (xs : List AV) (k : Value) (v : AV) : AV :=
  match mapIdx ks k with
  | some j => .mapc ks (xs.set j v)
  | none => .mapc (ks ++ [k]) (xs ++ [v])

def mapUpdA (P : Program) (t : TypeId) (x i v : AV) (K : Fr → Heap → Prop) (fr : Fr) (H : Heap) : Prop :=
  match P.underlying t, x, i with
  | some (.map kt _), .mptr o, .sc k =>
    match P.underlying kt, H[o]? with
    | some d, some [.mapc ks xs] => keyB d k = true ∧ ks.all (keyB d) = true ∧ K fr (H.set o [mapPut ks xs k v.norm])
    | _, _ => False
  | _, _, _ => False

def makeMapA (dst : Option Nat) (K : Fr → Heap → Prop) (fr : Fr) (H : Heap) : Prop := K (fr.put dst (.mptr H.length)) (H ++ [[.mapc [] []]])

def rangeA (P : Program) (t : TypeId) (x : AV) (dst : Option Nat) (K : Fr → Heap → Prop) (fr : Fr) (H : Heap) : Prop :=
  match P.underlying t, x with
  | some (.map _ _), .mptr o =>
    match H[o]? with
    | some [.mapc ks _] => K (fr.put dst (.gptr H.length 0)) (H ++ [[.miter o ks.length []]])
    | _ => False
  | _, _ => False

def nextA (x : AV) (dst : Option Nat) (K : Fr → Heap → Prop) (fr : Fr) (H : Heap) : Prop :=
  match x with
  | .gptr i 0 =>
    match H[i]? with
    | some [.miter o since seen] =>
      match H[o]? with
      | some [.mapc ks xs] => ks.length = since ∧ ks.all isSc = true ∧ ((∀ j, j < ks.length → j ∈ seen) → K (fr.put dst (.tuple [.sc (.bool false)])) H) ∧
          ∀ j k v, ks[j]? = some k → xs[j]? = some v → j ∉ seen → K (fr.put dst (.tuple [.sc (.bool true), .sc k, v])) (H.set i [.miter o since (seen ++ [j])])
      | _ => False
    | _ => False
  | _ => False

def entryA (x : AV) (H : Heap) : Option AV :=
  match x with
  | .gptr i 0 =>
    match H[i]? with
    | some [.miter o since seen] =>
      match H[o]?, seen.getLast? with
      | some [.mapc ks xs], some j =>
        match ks[j]?, xs[j]? with
        | some k, some v => if ks.length = since ∧ isSc k = true then some (.tuple [.sc k, v]) else none
        | _, _ => none
      | _, _ => none
    | _ => none
  | _ => none

theorem ObjRep.map_inv {F : Imm} {G : Nat → Nat} {n : Nat} {ks xs ob} (h : ObjRep F G n [.mapc ks xs] ob) : ∃ es clock, ob = .map es clock ∧ es.toList.map (·.key) = ks ∧ All2 (PRep F G n) xs (es.toList.map (·.val)) ∧
    es.toList.map (·.born) = List.range ks.length ∧ clock = ks.length ∧ ks.Nodup := by
  cases h with
  | cells h0 h1 h2 => have := h2 (.mapc ks xs) (by simp); simp [AV.isOne] at this
  | map h1 h2 h3 h4 h5 => exact ⟨_, _, rfl, h1, h2, h3, h4, h5⟩

theorem ObjRep.iter_inv {F : Imm} {G : Nat → Nat} {n : Nat} {o since seen ob} (h : ObjRep F G n [.miter o since seen] ob) : ob = .mapIter (some (G o)) since seen.toArray since ∧ o < n := by
  cases h with
  | cells h0 h1 h2 => have := h2 (.miter o since seen) (by simp); simp [AV.isOne] at this
  | iter h => exact ⟨rfl, h⟩

section
variable {P : Program} {T : Tabs} {n B0 : Nat} {ρ : Maps} {F : Imm} {R : Nat → Role} {fr : Fr} {H : Heap} {a : Act} {w : World}

theorem frep_mptr {o : Nat} {v : Value} (h : FRep F ρ (.mptr o) v) : v = .map (some (ρ.G o)) ∧ o < ρ.n := by
  cases h with
  | cell h => cases h with
    | p h => cases h with | mptr h => exact ⟨rfl, h⟩

theorem run_zval (w : World) {t : TypeId} {z : AV} (h : zvalA P t = some z) : ∃ v, (zeroValue t).run P w = .ok v w ∧ PRep F ρ.G ρ.n z v := by
  unfold zvalA at h
  split at h
  · rename_i z0 hz
    split at h
    · rename_i hc
      injection h with h
      subst h
      refine ⟨z0, ?_, (FRep.p (prep_ofValue _ _ _ _ hc.1)).norm⟩
      unfold zeroOf at hz
      cases hi : P.info? t with
      | none => rw [hi] at hz; cases hz
      | some i =>
        rw [hi] at hz
        simp at hz
        simp [zeroValue, typeInfo, hi, hz]
    · cases h
  · cases h

theorem keys_of {d : TypeDesc} {ks : List Value} {es : Array MapEntry} (h : es.toList.map (·.key) = ks) (ha : ks.all (keyB d) = true) : ∀ x ∈ es.toList, IsKey d x.key := by
  intro x hx
  refine keyB_isKey (List.all_eq_true.1 ha _ ?_)
  rw [← h]
  exact List.mem_map.2 ⟨x, hx, rfl⟩

theorem idx_key {ks : List Value} {es : Array MapEntry} {j : Nat} {e : MapEntry} (h : es.toList.map (·.key) = ks) (hj : es.toList[j]? = some e) : ks[j]? = some e.key := by
  rw [← h, List.getElem?_map, hj]; rfl

theorem run_lookupA (h : WR T n B0 ρ F R fr H a w) {t : TypeId} {x i r : AV} {ok : Bool} {xv iv : Value} (hl : lookupA P H t x i ok = some r) (hx : FRep F ρ x xv) (hi : FRep F ρ i iv) :
    ∃ v, (Instr.lookup t xv iv ok).run P w = .ok v w ∧ FRep F ρ r v := by
  unfold lookupA at hl
  split at hl
  · rename_i kt e o k hu
    split at hl
    · rename_i d ks xs z hd ho hz
      split at hl
      · rename_i hk
        obtain ⟨rfl, _⟩ := frep_mptr hx
        obtain rfl := frep_sc hi
        obtain ⟨ob, h1, h2⟩ := h.g.glob o _ ho
        obtain ⟨es, clock, rfl, e1, e2, e3, e4, e5⟩ := h2.map_inv
        rw [← h.hn] at e2
        have hkey := keyB_isKey hk.1
        have hkeys := keys_of e1 hk.2
        have hks : ∀ y ∈ ks, IsKey d y := fun y hy => keyB_isKey (List.all_eq_true.1 hk.2 _ hy)
        obtain ⟨zv, hz1, hz2⟩ := run_zval (F := F) (ρ := ρ) w hz
        rcases findNow_spec hkey es.toList 0 hkeys with ⟨h1', h2'⟩ | ⟨j, e0, h1', h2', h3'⟩
        · rw [mapIdx_none hkey hks (by
            intro y hy
            rw [← e1] at hy
            obtain ⟨x, hx, rfl⟩ := List.mem_map.1 hy
            exact h2' x hx)] at hl
          simp only [Option.some.injEq] at hl
          subst hl
          refine ⟨if ok then .tuple #[zv, .bool false] else zv, ?_, ?_⟩
          · cases ok <;> simp [Instr.lookup, run_underlying hu, MapKept.run_getObj_map h1, run_checkKey hd hkey, run_findKey hd h1', hz1, Result.andThen]
          · cases ok
            · exact .p hz2
            · exact .p (.tuple (vs := [zv, .bool false]) (.cons hz2 (.cons (.sc rfl) .nil)))
        · have hkj := idx_key e1 h2'
          rw [h3'] at hkj
          rw [mapIdx_some hkey hks e5 hkj] at hl
          simp only [Option.map_eq_some_iff] at hl
          obtain ⟨y, hy, rfl⟩ := hl
          obtain ⟨yv, hyv, hyr⟩ := e2.get hy
          have : yv = e0.val := by
            rw [List.getElem?_map, h2'] at hyv
            simpa using hyv.symm
          subst this
          simp only [Nat.zero_add] at h1'
          refine ⟨if ok then .tuple #[e0.val, .bool true] else e0.val, ?_, ?_⟩
          · cases ok <;> simp [Instr.lookup, run_underlying hu, MapKept.run_getObj_map h1, run_checkKey hd hkey, run_findKey hd h1', Result.andThen]
          · cases ok
            · exact .p hyr
            · exact .p (.tuple (vs := [e0.val, .bool true]) (.cons hyr (.cons (.sc rfl) .nil)))
      · cases hl
    · cases hl
  · cases hl

theorem All2.set' {α β : Type} {R : α → β → Prop} {as : List α} {bs : List β} (h : All2 R as bs) {a : α} {b : β} (hab : R a b) (j : Nat) : All2 R (as.set j a) (bs.set j b) := by
  induction h generalizing j with
  | nil => simp; exact .nil
  | cons h1 h2 ih => cases j with
    | zero => exact .cons hab h2
    | succ j => exact .cons h1 (ih j)

theorem map_modify (f : MapEntry → MapEntry) {α : Type} (g : MapEntry → α) (es : Array MapEntry) (j : Nat) {e : MapEntry} (hj : es.toList[j]? = some e) : (es.modify j f).toList.map g = (es.toList.map g).set j (g (f e)) := by
  apply List.ext_getElem?
  intro i
  simp only [List.getElem?_map, Array.getElem?_toList, Array.getElem?_modify, List.getElem?_set, List.length_map, Array.length_toList]
  by_cases hij : j = i
  · subst hij
    have hj' : es[j]? = some e := by simpa using hj
    obtain ⟨hlt, he⟩ := Array.getElem?_eq_some_iff.1 hj'
    simp [hj', hlt, he]
  · simp [hij]

theorem set_same {α : Type} {l : List α} {j : Nat} {x : α} (h : l[j]? = some x) : l.set j x = l := by
  apply List.ext_getElem?
  intro i
  rw [List.getElem?_set]
  by_cases hij : j = i
  · subst hij
    obtain ⟨h1, h2⟩ := List.getElem?_eq_some_iff.1 h
    simp [h1, h2]
  · simp [hij]

/-- A map that is written. -/
theorem mapUpd_sound {G0 : Nat → Nat} {F0 : Imm} {n0 : Nat} {w0 : World} (h : WR T n w0.heap.size ρ F R fr H a w) (hx : Ext w0.heap.size G0 F0 n0 w0 ρ.G F H.length w) {t : TypeId} {x i v : AV} {xv iv vv : Value} {K : Fr → Heap → Prop}
    (hK : mapUpdA P t x i v K fr H) (hxr : FRep F ρ x xv) (hir : FRep F ρ i iv) (hvr : FRep F ρ v vv) :
    ∃ fr' H' w', (Instr.mapUpdate t xv iv vv).run P w = .ok () w' ∧ K fr' H' ∧ SR T n G0 F0 n0 w0 fr' H' a w' := by
  unfold mapUpdA at hK
  split at hK
  · rename_i kt e o kk hu
    split at hK
    · rename_i d ks xs hd ho
      obtain ⟨hk1, hk2, hK⟩ := hK
      obtain ⟨rfl, _⟩ := frep_mptr hxr
      obtain rfl := frep_sc hir
      obtain ⟨ob, h1, h2⟩ := h.g.glob o _ ho
      obtain ⟨es, clock, rfl, e1, e2, e3, e4, e5⟩ := h2.map_inv
      have hkey := keyB_isKey hk1
      have hkeys := keys_of e1 hk2
      have hks : ∀ y ∈ ks, IsKey d y := fun y hy => keyB_isKey (List.all_eq_true.1 hk2 _ hy)
      have hlen : es.toList.length = ks.length := by rw [← e1]; simp
      rw [← h.hn] at e2
      have fin : ∀ (ob' : Obj) (cs' : List AV), ObjRep F ρ.G ρ.n cs' ob' → K fr (H.set o cs') → (Instr.mapUpdate t (.map (some (ρ.G o))) iv vv).run P w = .ok () { w with heap := w.heap.setIfInBounds (ρ.G o) ob' } →
          ∃ fr' H' w', (Instr.mapUpdate t (.map (some (ρ.G o))) iv vv).run P w = .ok () w' ∧ K fr' H' ∧ SR T n G0 F0 n0 w0 fr' H' a w' := by
        intro ob' cs' hob hK hrun
        obtain ⟨s1, s2⟩ := heap_set (o' := ob') h1
        refine ⟨_, _, _, hrun, hK, ρ, F, R, h.setGlobW ho (by simp) (by simp) s1 s2 hob, ?_⟩
        rw [List.length_set]
        refine hx.stepW rfl rfl rfl (by simp) fun b hb hn => s2 b ?_
        rintro rfl
        exact hn o (List.getElem?_eq_some_iff.1 ho).1 rfl
      rcases findNow_spec hkey es.toList 0 hkeys with ⟨h1', h2'⟩ | ⟨j, e0, h1', h2', h3'⟩
      · rw [mapPut, mapIdx_none hkey hks (by
          intro y hy
          rw [← e1] at hy
          obtain ⟨x, hx, rfl⟩ := List.mem_map.1 hy
          exact h2' x hx)] at hK
        refine fin (.map (es.push { key := iv, val := vv, born := clock }) (clock + 1)) _ (.map ?_ ?_ ?_ ?_ ?_) hK ?_
        · simp [e1]
        · simpa using e2.append (.cons hvr.norm .nil)
        · simp [e3, e4, List.range_succ]
        · simp [e4]
        · rw [List.nodup_append]
          refine ⟨e5, by simp, ?_⟩
          intro a ha b hb
          simp only [List.mem_singleton] at hb
          subst hb
          rw [← e1] at ha
          obtain ⟨x, hx, rfl⟩ := List.mem_map.1 ha
          exact h2' x hx
        · simp [Instr.mapUpdate, run_underlying hu, MapKept.run_getObj_map h1, run_checkKey hd hkey, run_findKey hd h1', run_setObj_map _ h1, Result.andThen]
      · have hkj := idx_key e1 h2'
        rw [h3'] at hkj
        rw [mapPut, mapIdx_some hkey hks e5 hkj] at hK
        have hj : es[j]? = some e0 := by simpa using h2'
        simp only [Nat.zero_add] at h1'
        refine fin (.map (es.modify j fun e => { e with key := iv, val := vv }) clock) _ (.map ?_ ?_ ?_ e4 e5) hK ?_
        · rw [map_modify _ _ _ _ h2', e1, set_same hkj]
        · rw [map_modify _ _ _ _ h2']
          exact e2.set' hvr.norm j
        · rw [map_modify _ _ _ _ h2', set_same (by rw [List.getElem?_map, h2']; rfl), e3]
        · simp [Instr.mapUpdate, run_underlying hu, MapKept.run_getObj_map h1, run_checkKey hd hkey, run_findKey hd h1', hj, h3', run_keyThatStays hkey, run_setObj_map _ h1, Result.andThen]
    · exact hK.elim
  · exact hK.elim

/-- A new object, whatever it is. -/
theorem newObj_sound {G0 : Nat → Nat} {F0 : Imm} {n0 : Nat} {w0 : World} (h : WR T n w0.heap.size ρ F R fr H a w) (hx : Ext w0.heap.size G0 F0 n0 w0 ρ.G F H.length w) {ob : Obj} {cs : List AV} (hob : ObjRep F ρ.G ρ.n cs ob)
    {dst : Option Nat} (hd : ∀ d, dst = some d → d < n) {x : AV} {v : Value} (hv : ∀ ρ' : Maps, (∀ o, o < H.length → ρ'.G o = ρ.G o) → ρ'.G H.length = w.heap.size → ρ'.n = H.length + 1 → PRep F ρ'.G ρ'.n x v) :
    SR T n G0 F0 n0 w0 (fr.put dst x) (H ++ [cs]) (a.put dst v) (w.alloc ob) := by
  obtain ⟨ρ', R', hG, hGn, hn', hw⟩ := (h.alloc ob).claimG0 (h.rfresh _ (Nat.le_refl _)) (fun j => h.g.fresh _ j (Nat.le_refl _)) (heap_alloc_new w _) hob
  refine ⟨ρ', F, R', hw.put hd (.p (hv ρ' hG hGn hn')), ?_⟩
  rw [List.length_append]
  exact (hx.alloc h.B0le _).newG hG (by rw [hGn]; exact h.B0le)

/-- A slice literal whose elements may be written: its row is a shared object. -/
theorem buildSliceG_sound {G0 : Nat → Nat} {F0 : Imm} {n0 : Nat} {w0 : World} (h : WR T n w0.heap.size ρ F R fr H a w) (hx : Ext w0.heap.size G0 F0 n0 w0 ρ.G F H.length w) {t k : Nat} {parts : List (Nat × AV)} {pv : List (Nat × Value)} {tag : Tag} {l : List AV}
    {dst : Option Nat} (hb : buildSliceA P t k parts = some (.slice tag l)) (hall : All2 (fun (x : Nat × AV) (y : Nat × Value) => x.1 = y.1 ∧ FRep F ρ x.2 y.2) parts pv) (hd : ∀ d, dst = some d → d < n) :
    ∃ v w', (Instr.buildSlice t k pv.toArray).run P w = .ok v w' ∧ SR T n G0 F0 n0 w0 (fr.put dst (.gsl H.length 0 l.length l.length)) (H ++ [l.flatMap AV.cells]) (a.put dst v) w' := by
  obtain ⟨l', us, e, sz, he, hk, hmax, hsz, hflat, hone, hrun⟩ := buildSlice_run w hb hall
  injection he with _ he
  subst he
  refine ⟨_, _, hrun, newObj_sound h hx (.cells (.inl rfl) (by simpa using hflat) hone) hd ?_⟩
  intro ρ' hG hGn hn'
  have := PRep.gsl (F := F) (G := ρ'.G) (n := ρ'.n) (o := H.length) (off := 0) (len := l.length) (cap := l.length) (by rw [hn']; omega) (Nat.le_refl _) (by rw [hk]; exact hmax)
  rw [hGn, hk] at this
  rw [hk]
  exact this

theorem makeMap_sound {G0 : Nat → Nat} {F0 : Imm} {n0 : Nat} {w0 : World} (h : WR T n w0.heap.size ρ F R fr H a w) (hx : Ext w0.heap.size G0 F0 n0 w0 ρ.G F H.length w) {t : TypeId} {dst : Option Nat} (hd : ∀ d, dst = some d → d < n) :
    ∃ v w', (Instr.makeMap t none).run P w = .ok v w' ∧ SR T n G0 F0 n0 w0 (fr.put dst (.mptr H.length)) (H ++ [[.mapc [] []]]) (a.put dst v) w' := by
  refine ⟨.map (some w.heap.size), w.alloc (.map #[] 0), by simp [Instr.makeMap, Result.andThen], newObj_sound h hx (.map (by simp) (by simp; exact .nil) (by simp) rfl (by simp)) hd ?_⟩
  intro ρ' hG hGn hn'
  have := PRep.mptr (F := F) (G := ρ'.G) (n := ρ'.n) (o := H.length) (by rw [hn']; omega)
  rw [hGn] at this
  exact this

theorem range_sound {G0 : Nat → Nat} {F0 : Imm} {n0 : Nat} {w0 : World} (h : WR T n w0.heap.size ρ F R fr H a w) (hx : Ext w0.heap.size G0 F0 n0 w0 ρ.G F H.length w) {t : TypeId} {x : AV} {xv : Value} {dst : Option Nat} {K : Fr → Heap → Prop}
    (hK : rangeA P t x dst K fr H) (hd : ∀ d, dst = some d → d < n) (hxr : FRep F ρ x xv) : ∃ v w' fr' H', (Instr.range t xv).run P w = .ok v w' ∧ K fr' H' ∧ SR T n G0 F0 n0 w0 fr' H' (a.put dst v) w' := by
  unfold rangeA at hK
  split at hK
  · rename_i kt e o hu
    split at hK
    · rename_i ks xs ho
      obtain ⟨rfl, hlt⟩ := frep_mptr hxr
      obtain ⟨ob, h1, h2⟩ := h.g.glob o _ ho
      obtain ⟨es, clock, rfl, e1, e2, e3, e4, e5⟩ := h2.map_inv
      subst e4
      refine ⟨_, _, _, _, run_range_map w t kt e (ρ.G o) es ks.length hu h1, hK, newObj_sound h hx (.iter (seen := []) hlt) hd ?_⟩
      intro ρ' hG hGn hn'
      have := PRep.gptr (F := F) (G := ρ'.G) (n := ρ'.n) (o := H.length) (off := 0) (by rw [hn']; omega)
      rw [hGn] at this
      exact this
    · exact hK.elim
  · exact hK.elim

theorem born_idx {es : Array MapEntry} {k : Nat} (h : es.toList.map (·.born) = List.range k) {e : MapEntry} (he : e ∈ es.toList) : e.born < k ∧ es.toList[e.born]? = some e := by
  obtain ⟨j, hj⟩ := List.mem_iff_getElem?.1 he
  have h1 : (es.toList.map (·.born))[j]? = some e.born := by rw [List.getElem?_map, hj]; rfl
  rw [h] at h1
  have hlt : j < k := by
    have := (List.getElem?_eq_some_iff.1 h1).1
    simpa using this
  rw [List.getElem?_range hlt] at h1
  have : j = e.born := by simpa using h1
  rw [← this]
  exact ⟨hlt, hj⟩

theorem run_next_map' (w : World) {it m since : Nat} {seen : Array Nat} {es : Array MapEntry} (ty : TypeId) (hit : w.heap[it]? = some (.mapIter (some m) since seen since)) (hm : w.heap[m]? = some (.map es since)) (hb : es.toList.map (·.born) = List.range since) :
    ((∀ e ∈ es.toList, e.born ∈ seen) ∧ (Instr.next (.pointer (some ⟨it, 0, none⟩)) false ty).run P w = .ok (.tuple #[.bool false]) w) ∨
    ∃ e ∈ es.toList, e.born ∉ seen ∧ ∃ w1, (w1 = w ∨ w1 = w.drew) ∧ (Instr.next (.pointer (some ⟨it, 0, none⟩)) false ty).run P w =
      .ok (.tuple #[.bool true, e.key, e.val]) { w1 with heap := w1.heap.setIfInBounds it (.mapIter (some m) since (seen.push e.born) since) } := by
  have hold : ∀ x ∈ es.toList, x.born < since := fun x hx => (born_idx hb hx).1
  simp only [Instr.next, getObj, Sem.run_bind, Sem.run, hit, hm, Result.andThen, next_test_false seen es since since hold (Nat.le_refl _), Bool.false_eq_true, if_false]
  have hL : ∀ x, x ∈ (Array.filter (fun e => !seen.contains e.born) es).toList ↔ x ∈ es.toList ∧ x.born ∉ seen := by
    intro x
    simp
  generalize Array.filter (fun e => !seen.contains e.born) es = L at hL ⊢
  have hmem : ∀ x ∈ L.toList, x.born < since := fun x hx => hold x ((hL x).1 hx).1
  have e1 : L.filter (fun x => decide (x.born < since)) = L := Array.filter_eq_self.2 (fun x hx => by simpa using hmem x (by simpa using hx))
  have e2 : L.filter (fun x => decide (x.born ≥ since)) = #[] := by
    rw [Array.filter_eq_empty_iff]
    intro x hx
    have := hmem x (by simpa using hx)
    simp
    omega
  simp only [e1, e2, Array.append_empty]
  by_cases h0 : L.size = 0
  · left
    have : L = #[] := Array.eq_empty_of_size_eq_zero h0
    subst this
    refine ⟨?_, ?_⟩
    · intro e he
      cases Decidable.em (e.born ∈ seen) with
      | inl h => exact h
      | inr h => have := (hL e).2 ⟨he, h⟩; simp at this
    · simp [choose, Sem.run, Question.forced]
  · right
    have hne : L.isEmpty = false := by simp [Array.isEmpty, h0]
    simp only [hne, Bool.false_eq_true, if_false, Array.empty_append, Array.size_map]
    have hch : ∃ (j : Nat) (w1 : World), j < L.size ∧ (w1 = w ∨ w1 = w.drew) ∧ (choose (Question.mapNext L.size)).run P w = .ok j w1 := by
      by_cases hf : L.size ≤ 1
      · exact ⟨0, w, by omega, .inl rfl, by simp [choose, Sem.run, Question.forced, hf]⟩
      · exact ⟨_, w.drew, Nat.mod_lt _ (by omega), .inr rfl, by
          simp only [choose, Sem.run, Question.forced, decide_eq_true_eq, hf, if_false, Question.cut]
          rfl⟩
    obtain ⟨j, w1, hj, hal, hrun⟩ := hch
    have hmj := (hL L[j]).1 (by simp)
    refine ⟨L[j], hmj.1, hmj.2, w1, hal, ?_⟩
    have hit1 : w1.heap[it]? = some (.mapIter (some m) since seen since) := by
      rcases hal with rfl | rfl
      · exact hit
      · exact hit
    have hset : ∀ (o' : Obj), (setObj it o').run P w1 = .ok () { w1 with heap := w1.heap.setIfInBounds it o' } := fun o' => by
      simp only [setObj, Sem.run, hit1]
    simp only [hrun, Array.getElem?_map, Array.getElem?_eq_getElem hj, Option.map_some, Sem.run_bind, hset, Result.andThen]
    rfl

theorem run_entryA (h : WR T n B0 ρ F R fr H a w) {x r : AV} {xv : Value} (hl : entryA x H = some r) (hxr : FRep F ρ x xv) : ∃ v, (Instr.entry xv).run P w = .ok v w ∧ FRep F ρ r v := by
  unfold entryA at hl
  split at hl
  · rename_i i
    split at hl
    · rename_i o since seen hi
      split at hl
      · rename_i ks xs j ho hj
        split at hl
        · rename_i k v hk hv
          split at hl
          · rename_i hc
            obtain ⟨hlen, hsc⟩ := hc
            injection hl with hl
            subst hl
            obtain ⟨rfl, hlt⟩ := frep_gptr hxr
            obtain ⟨ob, g1, g2⟩ := h.g.glob i _ hi
            obtain ⟨rfl, hon⟩ := g2.iter_inv
            obtain ⟨ob2, h1, h2⟩ := h.g.glob o _ ho
            obtain ⟨es, clock, rfl, e1, e2, e3, e4, e5⟩ := h2.map_inv
            rw [hlen] at e3 e4
            subst e4
            rw [← h.hn] at e2
            obtain ⟨vv, hvv, hvr⟩ := e2.get hv
            have hjl : j < clock := by rw [← hlen]; exact (List.getElem?_eq_some_iff.1 hk).1
            have hjs : j < es.toList.length := by
              have : (es.toList.map (·.key)).length = ks.length := by rw [e1]
              simp only [List.length_map] at this
              omega
            have hej : es.toList[j]? = some es.toList[j] := List.getElem?_eq_getElem hjs
            have hb : es.toList[j].born = j := by
              have h3 : (es.toList.map (·.born))[j]? = some es.toList[j].born := by rw [List.getElem?_map, hej]; rfl
              rw [e3, List.getElem?_range hjl] at h3
              exact (Option.some.inj h3).symm
            have hkey : es.toList[j].key = k := by
              have h3 := idx_key e1 hej
              rw [hk] at h3
              exact (Option.some.inj h3).symm
            have hval : es.toList[j].val = vv := by
              rw [List.getElem?_map, hej] at hvv
              exact Option.some.inj hvv
            have hf : es.find? (·.born == j) = some es.toList[j] := by
              rw [← Array.find?_toList]
              have hnd : (es.toList.map (·.born)).Nodup := by rw [e3]; exact List.nodup_range
              have := find_born es.toList[j] es.toList hnd (List.getElem_mem hjs)
              rw [hb] at this
              exact this
            have hback : seen.toArray.back? = some j := by
              rw [← hj]
              simp
            refine ⟨.tuple #[es.toList[j].key, es.toList[j].val], ?_, .p (.tuple (vs := [es.toList[j].key, es.toList[j].val]) (.cons (by rw [hkey]; exact .sc hsc) (.cons (by rw [hval]; exact hvr) .nil)))⟩
            simp only [Instr.entry, getObj, Sem.run_bind, Sem.run, g1, h1, Result.andThen, hback, bne_self_eq_false, Bool.false_eq_true, if_false, hf]
            rfl
          · cases hl
        · cases hl
      · cases hl
    · cases hl
  · cases hl

theorem next_sound {G0 : Nat → Nat} {F0 : Imm} {n0 : Nat} {w0 : World} (h : WR T n w0.heap.size ρ F R fr H a w) (hx : Ext w0.heap.size G0 F0 n0 w0 ρ.G F H.length w) {x : AV} {xv : Value} {dst : Option Nat} {K : Fr → Heap → Prop} (ty : TypeId)
    (hK : nextA x dst K fr H) (hd : ∀ d, dst = some d → d < n) (hxr : FRep F ρ x xv) : ∃ v w' fr' H', (Instr.next xv false ty).run P w = .ok v w' ∧ K fr' H' ∧ SR T n G0 F0 n0 w0 fr' H' (a.put dst v) w' := by
  unfold nextA at hK
  split at hK
  · rename_i i
    split at hK
    · rename_i o since seen hi
      split at hK
      · rename_i ks xs ho
        obtain ⟨hlen, hsc, hK1, hK2⟩ := hK
        obtain ⟨rfl, hlt⟩ := frep_gptr hxr
        obtain ⟨ob, g1, g2⟩ := h.g.glob i _ hi
        obtain ⟨rfl, hon⟩ := g2.iter_inv
        obtain ⟨ob2, h1, h2⟩ := h.g.glob o _ ho
        obtain ⟨es, clock, rfl, e1, e2, e3, e4, e5⟩ := h2.map_inv
        rw [hlen] at e3 e4
        subst e4
        rw [← h.hn] at e2
        have hel : es.toList.length = ks.length := by rw [← e1]; simp
        rcases run_next_map' (P := P) w ty g1 h1 e3 with ⟨hall, hrun⟩ | ⟨e, he, hns, w1, hw1, hrun⟩
        · refine ⟨_, _, _, _, hrun, hK1 ?_, ρ, F, R, h.put hd (.p (.tuple (vs := [.bool false]) (.cons (.sc rfl) .nil))), hx⟩
          intro j hj
          have hj' : j < es.toList.length := by omega
          have hm := hall es.toList[j] (List.getElem_mem hj')
          have hb : (es.toList.map (·.born))[j]? = some es.toList[j].born := by rw [List.getElem?_map, List.getElem?_eq_getElem hj']; rfl
          rw [e3, List.getElem?_range (by omega)] at hb
          have : j = es.toList[j].born := by simpa using hb
          rw [this]
          simpa using hm
        · obtain ⟨b1, b2⟩ := born_idx e3 he
          have hk : ks[e.born]? = some e.key := idx_key e1 b2
          have hvi : (es.toList.map (·.val))[e.born]? = some e.val := by rw [List.getElem?_map, b2]; rfl
          have hxl : xs.length = es.toList.length := by have := e2.length; simpa using this
          obtain ⟨v, hv⟩ : ∃ v, xs[e.born]? = some v := ⟨_, List.getElem?_eq_getElem (by have := (List.getElem?_eq_some_iff.1 b2).1; omega)⟩
          obtain ⟨vv, hvv, hvr⟩ := e2.get hv
          have : vv = e.val := by rw [hvi] at hvv; simpa using hvv.symm
          subst this
          have hksc : isSc e.key = true := List.all_eq_true.1 hsc _ (List.mem_of_getElem? hk)
          have hKK := hK2 e.born e.key v hk hv (by simpa using hns)
          have hw1' : WR T n w0.heap.size ρ F R fr H a w1 := by
            rcases hw1 with rfl | rfl
            · exact h
            · exact h.drew
          have hx1' : Ext w0.heap.size G0 F0 n0 w0 ρ.G F H.length w1 := by
            rcases hw1 with rfl | rfl
            · exact hx
            · exact hx.drew
          have g1' : w1.heap[ρ.G i]? = some (.mapIter (some (ρ.G o)) clock seen.toArray clock) := by
            rcases hw1 with rfl | rfl
            · exact g1
            · exact g1
          obtain ⟨s1, s2⟩ := heap_set (o' := .mapIter (some (ρ.G o)) clock (seen.toArray.push e.born) clock) g1'
          have hob : ObjRep F ρ.G ρ.n [.miter o clock (seen ++ [e.born])] (.mapIter (some (ρ.G o)) clock (seen.toArray.push e.born) clock) := by
            have := ObjRep.iter (F := F) (G := ρ.G) (n := ρ.n) (o := o) (since := clock) (seen := seen ++ [e.born]) (by rw [h.hn]; exact hon)
            simpa using this
          refine ⟨_, _, _, _, hrun, hKK, ρ, F, R, (hw1'.setGlobW hi (by simp) (by simp) s1 s2 hob).put hd (.p (.tuple (vs := [.bool true, e.key, e.val]) (.cons (.sc rfl) (.cons (.sc hksc) (.cons hvr .nil))))), ?_⟩
          rw [List.length_set]
          refine hx1'.stepW rfl rfl rfl (by simp) fun b hb hn => s2 b ?_
          rintro rfl
          exact hn i (List.getElem?_eq_some_iff.1 hi).1 rfl
      · exact hK.elim
    · exact hK.elim
  · exact hK.elim

end
end Go.Abs
