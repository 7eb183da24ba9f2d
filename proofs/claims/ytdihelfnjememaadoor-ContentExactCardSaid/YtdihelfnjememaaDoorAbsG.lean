/-
  The abstract layer, part G: loads, stores, new variables, slice literals and append, as steps on frames.
-/
import Derived.Test.YtdihelfnjememaaDoorAbsF
import Derived.Great.BuildSlice
set_option linter.unusedSimpArgs false
set_option linter.unusedVariables false
namespace Go.Abs
open Go

section
variable {B : Nat} {G G' : Nat → Nat} {F F' : Imm} {n : Nat} {G0 : Nat → Nat} {F0 : Imm} {n0 : Nat} {w0 w w' : World}

theorem Ext.stepW (h : Ext B G0 F0 n0 w0 G F n w) (hos : w'.os = w.os) (ht : w'.tape = w.tape) (ho : w'.output = w.output) (hs : w.heap.size ≤ w'.heap.size)
    (hh : ∀ b, b < B → (∀ o, o < n → G o ≠ b) → w'.heap[b]? = w.heap[b]?) : Ext B G0 F0 n0 w0 G F n w' :=
  h.trans ⟨hos, ht, ho, hs, Nat.le_refl _, fun _ _ => rfl, fun _ h h' => absurd h' (by omega), fun _ _ _ => rfl, hh⟩

theorem Ext.drew (h : Ext B G0 F0 n0 w0 G F n w) : Ext B G0 F0 n0 w0 G F n w.drew := h.stepW rfl rfl rfl (Nat.le_refl _) fun _ _ _ => rfl

theorem Ext.alloc (h : Ext B G0 F0 n0 w0 G F n w) (hB : B ≤ w.heap.size) (o : Obj) : Ext B G0 F0 n0 w0 G F n (w.alloc o) :=
  h.stepW rfl rfl rfl (by simp) fun b hb _ => heap_alloc_old w o (by omega)

theorem Ext.setRow (h : Ext B G0 F0 n0 w0 G F n w) {g : Nat} (hg : B ≤ g ∨ ∃ o, o < n ∧ G o = g) (cs : Array Value) : Ext B G0 F0 n0 w0 G F n (w.setRow g cs) :=
  h.stepW rfl rfl rfl (by rw [size_setRow]; exact Nat.le_refl _) fun b hb hn => setRow_other w g b cs (by
    rintro rfl
    rcases hg with hg | ⟨o, ho, hg⟩
    · omega
    · exact hn o ho hg)

theorem Ext.freeze (h : Ext B G0 F0 n0 w0 G F n w) (hF : ∀ b j, b < B → F' b j = F b j) : Ext B G0 F0 n0 w0 G F' n w :=
  h.trans ⟨rfl, rfl, rfl, Nat.le_refl _, Nat.le_refl _, fun _ _ => rfl, fun _ h h' => absurd h' (by omega), hF, fun _ _ _ => rfl⟩

theorem Ext.newG (h : Ext B G0 F0 n0 w0 G F n w) (hG : ∀ o, o < n → G' o = G o) (hn : B ≤ G' n) : Ext B G0 F0 n0 w0 G' F (n + 1) w :=
  h.trans ⟨rfl, rfl, rfl, Nat.le_refl _, by omega, hG, fun o h1 h2 => (by rw [show o = n from (by omega)]; exact hn), fun _ _ _ => rfl, fun _ _ _ => rfl⟩
end

/-- A frame and the shared memory, over some memory that was there when the call began. -/
def SR (T : Tabs) (n : Nat) (G0 : Nat → Nat) (F0 : Imm) (n0 : Nat) (w0 : World) (fr : Fr) (H : Heap) (a : Act) (w : World) : Prop :=
  ∃ ρ F R, WR T n w0.heap.size ρ F R fr H a w ∧ Ext w0.heap.size G0 F0 n0 w0 ρ.G F H.length w

/-! ### loads -/

def loadA (P : Program) (fr : Fr) (H : Heap) (t : TypeId) (x : AV) : Option AV :=
  match x with
  | .rptr v => if fitsB P t v = true then some v else none
  | .lptr b g off => if g = fr.gen b then (match fr.box b with | some cs => readAt P t cs off | none => none) else none
  | .gptr o off => match H[o]? with | some cs => readAt P t cs off | none => none
  | _ => none

section
variable {P : Program} {T : Tabs} {n B0 : Nat} {ρ : Maps} {F : Imm} {R : Nat → Role} {fr : Fr} {H : Heap} {a : Act} {w : World}

theorem fitsB_inv {t : TypeId} {v : AV} (h : fitsB P t v = true) :
    (∃ k cs, layOf P t = some (true, k) ∧ v = .agg cs ∧ cs.length = k) ∨ (∃ k, layOf P t = some (false, k) ∧ v.isOne = true) := by
  unfold fitsB at h
  cases hl : layOf P t with
  | none => rw [hl] at h; simp at h
  | some p =>
    obtain ⟨b, k⟩ := p
    rw [hl] at h
    cases b
    · cases v <;> first | (simp at h; done) | exact .inr ⟨k, rfl, rfl⟩
    · cases v <;> first | exact .inl ⟨k, _, rfl, rfl, by simpa using h⟩ | (simp at h; done)

theorem run_load_block (w : World) {t : TypeId} {b off : Nat} {cs : List AV} {vs : Array Value} {ty : TypeId} {z : AV} (hb : w.heap[b]? = some (.cells vs ty (0, 0)))
    (hcs : All2 (FCell F ρ) cs vs.toList) (hone : ∀ c ∈ cs, c.isOne = true) (hz : readAt P t cs off = some z) :
    ∃ v, (Instr.loadAt t (.pointer (some ⟨b, off, none⟩))).run P w = .ok v w ∧ FRep F ρ z v := by
  unfold Instr.loadAt
  simp only [Instr.sureAddr, Sem.run_bind, Sem.run_pure, Result.andThen_ok]
  rcases readAt_some hz with ⟨k, hl, hle, rfl⟩ | ⟨k, hl, hc⟩
  · refine ⟨.agg ((vs.toList.drop off).take k).toArray, ?_, .agg ((hcs.drop off).take k) (fun c hc => hone c (List.mem_of_mem_drop (List.mem_of_mem_take hc)))⟩
    refine run_loadVar_agg hl w ⟨b, off, none⟩ _ (by have := hcs.length; simp only [List.length_take, List.length_drop]; omega) ?_
    intro j v hv
    rw [Addr.add_lit, cell_of_row w b _ vs ty (0, 0) hb]
    rw [List.getElem?_take] at hv
    split at hv
    · rw [List.getElem?_drop] at hv
      simpa using hv
    · cases hv
  · obtain ⟨v, hv, hr⟩ := hcs.get hc
    refine ⟨v, ?_, .cell hr⟩
    refine run_loadVar_one hl w ⟨b, off, none⟩ v ?_
    rw [cell_of_row w b _ vs ty (0, 0) hb]
    simpa using hv

theorem run_loadA (h : WR T n B0 ρ F R fr H a w) {t : TypeId} {x z : AV} {u : Value} (hl : loadA P fr H t x = some z) (hx : FRep F ρ x u) :
    ∃ v, (Instr.loadAt t u).run P w = .ok v w ∧ FRep F ρ z v := by
  unfold loadA at hl
  split at hl
  · rename_i v
    split at hl
    · rename_i hf
      injection hl with hl
      subst hl
      obtain ⟨b, o, vs, rfl, h1, h2, h3⟩ := frep_rptr hx
      unfold Instr.loadAt
      simp only [Instr.sureAddr, Sem.run_bind, Sem.run_pure, Result.andThen_ok]
      rcases fitsB_inv hf with ⟨k, cs, hlay, rfl, hk⟩ | ⟨k, hlay, hone⟩
      · refine ⟨.agg vs.toArray, ?_, .p (.agg h1 h3)⟩
        refine run_loadVar_agg hlay w ⟨b, o, none⟩ vs (by rw [← h1.length]; exact hk) ?_
        intro j v hv
        rw [Addr.add_lit]
        exact h.g.imm b _ v (h2 j v hv)
      · rw [AV.cells_one hone] at h1
        cases h1 with
        | cons h1 hn =>
          cases hn
          rename_i u
          refine ⟨u, ?_, .p h1⟩
          refine run_loadVar_one hlay w ⟨b, o, none⟩ u ?_
          exact h.g.imm b o u (h2 0 u rfl)
    · cases hl
  · rename_i b g off
    split at hl
    · rename_i hg
      split at hl
      · rename_i cs hb
        obtain ⟨rfl, _⟩ := frep_lptr hx
        obtain ⟨h1, h2, h3, vs, ty, h4, h5⟩ := h.box b cs hb
        rw [hg]
        exact run_load_block w h4 h5 h3 hl
      · cases hl
    · cases hl
  · rename_i o off
    split at hl
    · rename_i cs hb
      obtain ⟨rfl, _⟩ := frep_gptr hx
      obtain ⟨vs, ty, h4, h5, h6⟩ := h.g.glob o cs hb
      rw [← h.hn] at h5
      exact run_load_block w h4 (h5.mono fun _ _ _ h => .p h) h6 hl
    · cases hl
  · cases hl

/-! ### stores -/

theorem run_store_block (w : World) {t : TypeId} {b off k : Nat} {bl : Bool} {vs : Array Value} {ty : TypeId} {v : Value} (hb : w.heap[b]? = some (.cells vs ty (0, 0)))
    (hl : layOf P t = some (bl, k)) (hk : v.cells.size = k) (hfit : off + k ≤ vs.size) (h1 : ∀ u ∈ v.cells.toList, u.oneCell' = true) :
    (Instr.storeAt t (.pointer (some ⟨b, off, none⟩)) v).run P w =
      .ok () (w.setRow b (vs.toList.take off ++ v.cells.toList ++ vs.toList.drop (off + v.cells.toList.length)).toArray) := by
  unfold Instr.storeAt
  simp only [Instr.sureAddr, Sem.run_bind, Sem.run_pure, Result.andThen_ok]
  unfold storeVar
  simp only [Sem.run_bind, run_sizeOf' hl, Result.andThen_ok]
  rw [if_neg (by simp [hk])]
  have := run_storeCells_at P b off ty v.cells.toList 0 vs w hb (by simp only [Nat.add_zero, Array.length_toList]; omega) h1
  simpa using this

end

/-! ### steps that make or write memory -/

def allocA (E : List Nat) (dst : Option Nat) (cells : List AV) (K : Fr → Heap → Prop) (fr : Fr) (H : Heap) : Prop :=
  match dst with
  | some d =>
    if E.contains d = true then K { fr with env := upd fr.env d (.gptr H.length 0) } (H ++ [cells.map AV.ncell])
    else K { fr with env := upd fr.env d (.lptr d (fr.gen d + 1) 0), box := upd fr.box d (some cells), gen := upd fr.gen d (fr.gen d + 1) } H
  | none => False

def storeA (P : Program) (t : TypeId) (x v : AV) (K : Fr → Heap → Prop) (fr : Fr) (H : Heap) : Prop :=
  match layOf P t with
  | none => False
  | some (_, n) =>
    match x with
    | .lptr b g off =>
      match fr.box b with
      | some cs => g = fr.gen b ∧ v.cells.length = n ∧ off + n ≤ cs.length ∧ notTuple v = true ∧ K { fr with box := upd fr.box b (some (setCells cs off v.cells)) } H
      | none => False
    | .gptr o off =>
      match H[o]? with
      | some cs => v.cells.length = n ∧ off + n ≤ cs.length ∧ notTuple v = true ∧ K fr (H.set o (setCells cs off v.norm.cells))
      | none => False
    | _ => False

section
variable {P : Program} {T : Tabs} {n : Nat} {G0 : Nat → Nat} {F0 : Imm} {n0 : Nat} {w0 : World} {fr : Fr} {H : Heap} {a : Act} {w : World}

theorem AV.norm_cells {x : AV} (h : notTuple x = true) : x.norm.cells = x.cells.map AV.ncell := by
  cases x <;> first | rfl | (simp [notTuple] at h)

theorem norm_ones {cs : List AV} (h : ∀ c ∈ cs, c.isOne = true) : ∀ c ∈ cs.map AV.ncell, c.isOne = true := by
  intro c hc
  obtain ⟨x, hx, rfl⟩ := List.mem_map.1 hc
  rw [AV.isOne_ncell]
  exact h x hx

theorem cells_oneCell {F : Imm} {ρ : Maps} {cs : List AV} {vs : List Value} (h : All2 (FCell F ρ) cs vs) (h1 : ∀ c ∈ cs, c.isOne = true) : ∀ u ∈ vs, u.oneCell' = true := by
  intro u hu
  obtain ⟨x, hx, hr⟩ := h.mem hu
  exact hr.oneCell (h1 x hx)

/-- A new variable. -/
theorem alloc_sound {ρ : Maps} {F : Imm} {R : Nat → Role} (h : WR T n w0.heap.size ρ F R fr H a w) (hx : Ext w0.heap.size G0 F0 n0 w0 ρ.G F H.length w) {E : List Nat} {dst : Option Nat} {cells : List AV} {K : Fr → Heap → Prop}
    (hK : allocA E dst cells K fr H) (hd : ∀ d, dst = some d → d < n) {vs : Array Value} (ty : TypeId) (hcs : All2 (FCell F ρ) cells vs.toList) (hone : ∀ c ∈ cells, c.isOne = true) :
    ∃ fr' H', K fr' H' ∧ SR T n G0 F0 n0 w0 fr' H' (a.put dst (.pointer (some ⟨w.heap.size, 0, none⟩))) (w.alloc (.cells vs ty)) := by
  unfold allocA at hK
  split at hK
  · rename_i d
    have hdn := hd d rfl
    have ha := h.alloc (.cells vs ty)
    have hfree : R w.heap.size = .free := h.rfresh _ (Nat.le_refl _)
    have hF : ∀ j, F w.heap.size j = none := fun j => h.g.fresh _ j (Nat.le_refl _)
    have hnew : (w.alloc (.cells vs ty)).heap[w.heap.size]? = some (.cells vs ty (0, 0)) := heap_alloc_new w _
    split at hK
    · obtain ⟨ρ', R', hG, hGn, hw⟩ := ha.claimG hfree hF hnew (hcs.map_left AV.ncell fun _ _ _ h => h.ncell) (norm_ones hone) hdn
      refine ⟨_, _, hK, ρ', F, R', hw, ?_⟩
      rw [List.length_append]
      exact (hx.alloc h.B0le _).newG hG (by rw [hGn]; exact h.B0le)
    · obtain ⟨ρ', R', hG, hw⟩ := ha.claim h.B0le hfree hF hnew hcs hone hdn
      refine ⟨_, _, hK, ρ', F, R', hw, ?_⟩
      rw [hG]
      exact hx.alloc h.B0le _
  · exact hK.elim

theorem run_newRow (w : World) (ty : TypeId) (vs : Array Value) : (newRow ty vs).run P w = .ok ⟨w.heap.size, 0, none⟩ (w.alloc (.cells vs ty)) := rfl

theorem run_alloc' (w : World) {t : TypeId} {z : Value} (hz : zeroOf P t = some z) :
    (Instr.alloc t true (.tuple #[])).run P w = .ok (.pointer (some ⟨w.heap.size, 0, none⟩)) (w.alloc (.cells z.cells t)) := by
  have hz' : (zeroValue t).run P w = .ok z w := by
    unfold zeroOf at hz
    cases hi : P.info? t with
    | none => rw [hi] at hz; cases hz
    | some i =>
      rw [hi] at hz
      simp at hz
      simp [zeroValue, typeInfo, hi, hz]
  unfold Instr.alloc
  simp only [Sem.run_bind, hz', Result.andThen_ok]
  rfl

theorem ofValue_cells {v : Value} (h : okConst v = true) (hnt : ∀ vs, v ≠ .tuple vs) : (ofValue v).cells = v.cells.toList.map ofCell ∧ ∀ u ∈ v.cells.toList, u.oneCell' = true := by
  cases v with
  | agg cs =>
    refine ⟨rfl, fun u hu => ?_⟩
    have h0 : cs.all (·.oneCell') = true := h
    exact Array.all_eq_true_iff_forall_mem.1 h0 u (Array.mem_toList_iff.1 hu)
  | tuple vs => exact absurd rfl (hnt vs)
  | _ =>
    constructor
    · rw [ofValue_one rfl]
      exact AV.cells_one (ofCell_one _)
    · simp [Value.cells, Value.oneCell']

/-- A store. -/
theorem store_sound {ρ : Maps} {F : Imm} {R : Nat → Role} (h : WR T n w0.heap.size ρ F R fr H a w) (hx : Ext w0.heap.size G0 F0 n0 w0 ρ.G F H.length w) {t : TypeId} {x v : AV} {xv vv : Value} {K : Fr → Heap → Prop}
    (hK : storeA P t x v K fr H) (hxr : FRep F ρ x xv) (hvr : FRep F ρ v vv) :
    ∃ fr' H' w', (Instr.storeAt t xv vv).run P w = .ok () w' ∧ K fr' H' ∧ SR T n G0 F0 n0 w0 fr' H' a w' := by
  unfold storeA at hK
  split at hK
  · exact hK.elim
  · rename_i bl k hl
    split at hK
    · rename_i b g off
      split at hK
      · rename_i cs hb
        obtain ⟨hg, hk, hfit, hnt, hK⟩ := hK
        obtain ⟨rfl, _⟩ := frep_lptr hxr
        obtain ⟨h1, h2, h3, vs, ty, h4, h5⟩ := h.box b cs hb
        have hcells := hvr.cells (frep_notTuple hnt)
        have hlen := hcells.length
        have hlen' : vv.cells.toList.length = vv.cells.size := by simp
        have hvl : cs.length = vs.size := by simpa using h5.length
        have hset := h5.setCells hcells off
        rw [hlen] at hset
        rw [hg]
        have hones : ∀ c ∈ setCells cs off v.cells, c.isOne = true := by
          intro c hc
          simp only [setCells, List.mem_append] at hc
          rcases hc with (hm | hm) | hm
          · exact h3 c (List.mem_of_mem_take hm)
          · exact hvr.ones (frep_notTuple hnt) c hm
          · exact h3 c (List.mem_of_mem_drop hm)
        refine ⟨_, _, _, run_store_block w h4 hl (by omega) (by omega) (cells_oneCell hcells (hvr.ones (frep_notTuple hnt))), hK, ρ, F, R, h.setBox hb (by simpa using hset) hones, hx.setRow (.inl h1) _⟩
      · exact hK.elim
    · rename_i o off
      split at hK
      · rename_i cs hb
        obtain ⟨hk, hfit, hnt, hK⟩ := hK
        obtain ⟨rfl, ho⟩ := frep_gptr hxr
        obtain ⟨vs, ty, h4, h5, h6⟩ := h.g.glob o cs hb
        have hcells := hvr.cells (frep_notTuple hnt)
        have hlen := hcells.length
        have hlen' : vv.cells.toList.length = vv.cells.size := by simp
        have hvl : cs.length = vs.size := by simpa using h5.length
        have hncells : All2 (PRep F ρ.G ρ.n) v.norm.cells vv.cells.toList := by
          rw [AV.norm_cells hnt]
          exact hcells.map_left AV.ncell fun _ _ _ h => h.ncell
        rw [← h.hn] at h5
        have hset := h5.setCells hncells off
        have hnl : v.norm.cells.length = v.cells.length := by rw [AV.norm_cells hnt]; simp
        rw [hnl, hlen] at hset
        have hones : ∀ c ∈ setCells cs off v.norm.cells, c.isOne = true := by
          intro c hc
          simp only [setCells, List.mem_append] at hc
          rcases hc with (hm | hm) | hm
          · exact h6 c (List.mem_of_mem_take hm)
          · rw [AV.norm_cells hnt] at hm
            exact norm_ones (hvr.ones (frep_notTuple hnt)) c hm
          · exact h6 c (List.mem_of_mem_drop hm)
        refine ⟨_, _, _, run_store_block w h4 hl (by omega) (by omega) (cells_oneCell hcells (hvr.ones (frep_notTuple hnt))), hK, ρ, F, R, h.setGlob hb (by simpa using hset) hones, ?_⟩
        rw [List.length_set]
        exact hx.setRow (.inr ⟨o, by rw [← h.hn]; exact ho, rfl⟩) _
      · exact hK.elim
    · exact hK.elim

end
end Go.Abs
