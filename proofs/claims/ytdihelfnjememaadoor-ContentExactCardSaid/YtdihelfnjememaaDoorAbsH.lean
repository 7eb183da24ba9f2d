/-
  The abstract layer, part H: slice literals and append.
-/
import Derived.Test.YtdihelfnjememaaDoorAbsG
set_option linter.unusedSimpArgs false
set_option linter.unusedVariables false
namespace Go.Abs
open Go

/-- A slice's type: the element's type and its cells, if such slices can be made and grown. -/
def apOf (P : Program) (t : TypeId) : Option (TypeId × Nat) :=
  match P.underlying t with
  | some (.slice e) =>
    match P.info? e with
    | some i =>
      match i.zero with
      | some z => if z.cells.size = i.size ∧ i.bytes ≤ 128 ∧ 0 < i.size then some (e, i.size) else none
      | none => none
    | none => none
  | _ => none

/-- How long a slice may become. -/
def growLim : Nat := 1099511627776

section
variable {P : Program}

theorem apOf_inv {t e : TypeId} {sz : Nat} (h : apOf P t = some (e, sz)) :
    ∃ i z, P.underlying t = some (.slice e) ∧ P.info? e = some i ∧ i.zero = some z ∧ z.cells.size = sz ∧ i.size = sz ∧ i.bytes ≤ 128 ∧ 0 < sz := by
  unfold apOf at h
  split at h
  · rename_i e' hu
    split at h
    · rename_i i hi
      split at h
      · rename_i z hz
        split at h
        · rename_i hc
          injection h with h
          injection h with h1 h2
          subst h1; subst h2
          exact ⟨i, z, hu, hi, hz, hc.1, rfl, hc.2.1, hc.2.2⟩
        · cases h
      · cases h
    · cases h
  · cases h

theorem fill_flat {sz : Nat} : ∀ (pv : List Value) (k : Nat) (pre rest : List Value), (∀ v ∈ pv, v.cells.size = sz) → pre.length = k * sz → rest.length = pv.length * sz →
    Instr.fill (fun i => some (i * sz, sz)) (pre ++ rest).toArray ((pv.zipIdx k).map fun x => (x.2, x.1)) = some (pre ++ pv.flatMap fun v => v.cells.toList).toArray := by
  intro pv
  induction pv with
  | nil =>
    intro k pre rest _ _ hr
    have : rest = [] := List.eq_nil_of_length_eq_zero (by simpa using hr)
    subst this
    simp [Instr.fill]
  | cons v pv ih =>
    intro k pre rest hsz hp hr
    have hv := hsz v (by simp)
    have hvl : v.cells.toList.length = sz := by simp [hv]
    rw [List.length_cons, Nat.add_mul, Nat.one_mul] at hr
    have hfold := foldl_set v.cells.toList 0 (k * sz) (pre ++ rest).toArray (by simp only [List.size_toArray, List.length_append, Nat.add_zero]; omega)
    simp only [Nat.add_zero, hvl] at hfold
    have e1 : (pre ++ rest).toArray.toList.take (k * sz) = pre := by simp [← hp]
    have e2 : (pre ++ rest).toArray.toList.drop (k * sz + sz) = rest.drop sz := by
      simp only []
      rw [List.drop_append]
      rw [List.drop_eq_nil_of_le (by omega), List.nil_append, ← hp]
      congr 1
      omega
    rw [e1, e2] at hfold
    have hstep := ih (k + 1) (pre ++ v.cells.toList) (rest.drop sz) (fun u hu => hsz u (by simp [hu])) (by rw [List.length_append, hp, hvl, Nat.add_mul, Nat.one_mul]) (by rw [List.length_drop, hr]; omega)
    simp only [List.zipIdx_cons, List.map_cons]
    show (if (decide (v.cells.size ≠ sz) || decide (k * sz + v.cells.size > (pre ++ rest).toArray.size)) = true then none
      else Instr.fill (fun i => some (i * sz, sz)) (v.cells.zipIdx.foldl (fun cs (x : Value × Nat) => cs.setIfInBounds (k * sz + x.2) x.1) (pre ++ rest).toArray) ((pv.zipIdx (k + 1)).map fun x => (x.2, x.1))) = _
    rw [if_neg (by simp only [hv, List.size_toArray, List.length_append]; simp; omega), ← Array.foldl_toList, Array.toList_zipIdx]
    have hfold' : List.foldl (fun cs (x : Value × Nat) => cs.setIfInBounds (k * sz + x.2) x.1) (pre ++ rest).toArray v.cells.toList.zipIdx = (pre ++ v.cells.toList ++ rest.drop sz).toArray := by
      apply Array.toList_inj.1
      rw [hfold]
    rw [hfold', hstep]
    simp [List.flatMap_cons, List.append_assoc]

end

section
variable {T : Tabs} {n B0 : Nat} {ρ : Maps} {F : Imm} {R : Nat → Role} {fr : Fr} {H : Heap} {a : Act} {w : World}

/-- The cells of a free block become memory that no longer changes. -/
def freezeF (F : Imm) (b k : Nat) (vs : List Value) : Imm := fun b' j => if b' = b ∧ j < k then vs[j]? else F b' j

theorem freezeF_has (F : Imm) (b : Nat) (vs : List Value) : (freezeF F b vs.length vs).has b 0 vs := by
  intro i v hv
  show (if b = b ∧ 0 + i < vs.length then vs[0 + i]? else F b (0 + i)) = some v
  rw [Nat.zero_add, if_pos ⟨rfl, (List.getElem?_eq_some_iff.1 hv).1⟩]
  exact hv

theorem WR.freeze (h : WR T n B0 ρ F R fr H a w) {b : Nat} {vs : Array Value} {ty : TypeId} {k : Nat} {us : List Value} (hfree : R b = .free) (hF : ∀ j, F b j = none)
    (hh : w.heap[b]? = some (.cells vs ty (0, 0))) (hus : ∀ j v, j < k → us[j]? = some v → vs[j]? = some v) :
    MGrow F (freezeF F b k us) ρ ρ ∧ WR T n B0 ρ (freezeF F b k us) R fr H a w := by
  have hold : ∀ b' j v, F b' j = some v → freezeF F b k us b' j = some v := by
    intro b' j v hf
    unfold freezeF
    rw [if_neg]
    · exact hf
    · rintro ⟨rfl, _⟩
      rw [hF j] at hf
      cases hf
  have hother : ∀ b' j, b' ≠ b → freezeF F b k us b' j = F b' j := by
    intro b' j hne
    unfold freezeF
    rw [if_neg (fun h => hne h.1)]
  have hgr : ∀ G n, Grow F (freezeF F b k us) G G n n := fun G n => ⟨hold, Nat.le_refl _, fun _ _ => rfl⟩
  have hmg : MGrow F (freezeF F b k us) ρ ρ := ⟨hgr _ _, fun _ => Nat.le_refl _, fun _ _ _ => rfl, fun _ => Nat.le_refl _, fun _ _ _ => rfl⟩
  refine ⟨hmg, ⟨⟨?_, ?_, h.g.inj, ?_, ?_, fun g x hx => (h.g.tabs g x hx).grow (hgr _ _)⟩, h.size, h.defers, h.env.grow hmg, h.hn, h.lg, h.ag, ?_, ?_, ?_, h.grole, h.rfresh, h.B0le⟩⟩
  · intro b' j v hf
    unfold freezeF at hf
    split at hf
    · rename_i hc
      obtain ⟨rfl, hj⟩ := hc
      rw [cell_of_row w b' j vs ty (0, 0) hh]
      exact hus j v hj hf
    · exact h.g.imm b' j v hf
  · intro o cs ho
    obtain ⟨vs', ty', h1, h2, h3⟩ := h.g.glob o cs ho
    exact ⟨vs', ty', h1, h2.mono fun _ _ _ h => h.grow (hgr _ _), h3⟩
  · intro o j ho
    rw [hother]
    · exact h.g.gF o j ho
    · rintro rfl
      have := h.grole o ho
      rw [hfree] at this
      cases this
  · intro b' j hb'
    rw [hother]
    · exact h.g.fresh b' j hb'
    · rintro rfl
      have := heap_lt hh
      omega
  · intro d cs hd
    obtain ⟨h1, h2, h3, vs', ty', h4, h5⟩ := h.box d cs hd
    exact ⟨h1, h2, h3, vs', ty', h4, h5.mono fun _ _ _ h => h.grow hmg⟩
  · intro k' m hk b' c sz hA
    obtain ⟨h1, h2, h3, h3', h4, h5⟩ := h.tok k' m hk b' c sz hA
    refine ⟨h1, h2, h3, h3', h4, fun j hj => ?_⟩
    rw [hother]
    · exact h5 j hj
    · rintro rfl
      rw [hfree] at h2
      cases h2
  · intro b' j v hf
    by_cases hb' : b' = b
    · subst hb'
      exact .inl hfree
    · rw [hother _ _ hb'] at hf
      exact h.frole b' j v hf

theorem freezeF_other {F : Imm} {b k : Nat} {us : List Value} {b' j : Nat} (h : b' ≠ b) : freezeF F b k us b' j = F b' j := by
  unfold freezeF
  rw [if_neg (fun h' => h h'.1)]

end

/-! ### slice literals -/

def buildSliceA (P : Program) (t n : Nat) (parts : List (Nat × AV)) : Option AV :=
  match apOf P t with
  | some (_, sz) =>
    if parts.map (·.1) = List.range n ∧ parts.all (fun p => p.2.cells.length == sz && notTuple p.2) = true ∧ n * sz ≤ 16777216 then some (.slice .full (parts.map fun p => p.2.norm)) else none
  | none => none

theorem zipIdx_of_range {α : Type} (parts : List (Nat × α)) (n : Nat) (h : parts.map (·.1) = List.range n) : parts = (parts.map (·.2)).zipIdx.map fun x => (x.2, x.1) := by
  have hl : parts.length = n := by have := congrArg List.length h; simpa using this
  apply List.ext_getElem
  · simp
  · intro i h1 h2
    have h3 : (parts.map (·.1))[i]? = (List.range n)[i]? := by rw [h]
    simp only [List.getElem?_map, List.getElem?_eq_getElem h1, Option.map_some, List.getElem?_range (show i < n by omega), Option.some.injEq] at h3
    simp only [List.getElem_map, List.getElem_zipIdx, Nat.zero_add]
    exact Prod.ext h3 rfl

section
variable {P : Program} {T : Tabs} {n : Nat} {G0 : Nat → Nat} {F0 : Imm} {n0 : Nat} {w0 : World} {fr : Fr} {H : Heap} {a : Act} {w : World}

theorem run_buildSlice0 (w : World) {t e : TypeId} {sz : Nat} (h : apOf P t = some (e, sz)) :
    (Instr.buildSlice t 0 #[]).run P w = .ok (.slice (some ⟨w.heap.size, 0, none⟩) 0 0) (w.alloc (.cells #[] e)) := by
  obtain ⟨i, z, hu, hi, hz, _⟩ := apOf_inv h
  simp [Instr.buildSlice, run_underlying hu, sizeOf, typeInfo, hi, Instr.fill, newRow]
  have e0 : ((Array.range 0).map fun _ => (default : Value)) = #[] := by
    apply Array.eq_empty_of_size_eq_zero
    simp
  rw [e0]

theorem flat_cells {F : Imm} {ρ : Maps} : ∀ {parts : List (Nat × AV)} {pv : List (Nat × Value)}, All2 (fun (x : Nat × AV) (y : Nat × Value) => x.1 = y.1 ∧ FRep F ρ x.2 y.2) parts pv →
    (∀ p ∈ parts, notTuple p.2 = true) →
    All2 (PRep F ρ.G ρ.n) ((parts.map fun p => p.2.norm).flatMap AV.cells) ((pv.map (·.2)).flatMap fun v => v.cells.toList) ∧ ∀ c ∈ (parts.map fun p => p.2.norm).flatMap AV.cells, c.isOne = true := by
  intro parts pv h hn
  induction h with
  | nil => exact ⟨.nil, by simp⟩
  | @cons p q ps qs h1 _ ih =>
    obtain ⟨i1, i2⟩ := ih fun p hp => hn p (by simp [hp])
    have hnt := hn p (by simp)
    have hc := h1.2.cells (frep_notTuple hnt)
    have ho := h1.2.ones (frep_notTuple hnt)
    have hnc : All2 (PRep F ρ.G ρ.n) p.2.norm.cells q.2.cells.toList := by
      rw [AV.norm_cells hnt]
      exact hc.map_left AV.ncell fun _ _ _ h => h.ncell
    refine ⟨?_, ?_⟩
    · simp only [List.map_cons, List.flatMap_cons]
      exact hnc.append i1
    · intro c hcm
      simp only [List.map_cons, List.flatMap_cons, List.mem_append] at hcm
      rcases hcm with hcm | hcm
      · rw [AV.norm_cells hnt] at hcm
        exact norm_ones ho c hcm
      · exact i2 c hcm

theorem buildSlice_sound {ρ : Maps} {F : Imm} {R : Nat → Role} (h : WR T n w0.heap.size ρ F R fr H a w) (hx : Ext w0.heap.size G0 F0 n0 w0 ρ.G F H.length w) {t k : Nat} {parts : List (Nat × AV)} {pv : List (Nat × Value)} {r : AV}
    {dst : Option Nat} (hb : buildSliceA P t k parts = some r) (hall : All2 (fun (x : Nat × AV) (y : Nat × Value) => x.1 = y.1 ∧ FRep F ρ x.2 y.2) parts pv) (hd : ∀ d, dst = some d → d < n) :
    ∃ v w', (Instr.buildSlice t k pv.toArray).run P w = .ok v w' ∧ SR T n G0 F0 n0 w0 (fr.put dst r) H (a.put dst v) w' := by
  unfold buildSliceA at hb
  split at hb
  · rename_i e sz hap
    split at hb
    · rename_i hc
      obtain ⟨hc1, hc2, hc3⟩ := hc
      injection hb with hb
      subst hb
      obtain ⟨i, z, hu, hi, hz, hzs, his, hby, hpos⟩ := apOf_inv hap
      have hparts : ∀ p ∈ parts, p.2.cells.length = sz ∧ notTuple p.2 = true := by
        intro p hp
        have := List.all_eq_true.1 hc2 p hp
        simpa using this
      have hnk : parts.length = k := by have := congrArg List.length hc1; simpa using this
      have hpk : pv.length = k := by rw [← hall.length]; exact hnk
      -- the values
      have hpv1 : pv.map (·.1) = List.range k := by
        rw [← hc1]
        clear hc1 hc2 hparts hnk hpk hx h
        induction hall with
        | nil => rfl
        | cons h1 _ ih => simp only [List.map_cons, ih, h1.1]
      have hpvs := zipIdx_of_range pv k hpv1
      have hsz : ∀ v ∈ pv.map (·.2), v.cells.size = sz := by
        intro v hv
        obtain ⟨q, hq, rfl⟩ := List.mem_map.1 hv
        obtain ⟨p, hp, hr⟩ := hall.mem hq
        have h1 := hr.2.cells (frep_notTuple (hparts p hp).2)
        have := h1.length
        rw [(hparts p hp).1] at this
        simpa using this.symm
      obtain ⟨hflat, hflat1⟩ := flat_cells hall fun p hp => (hparts p hp).2
      -- the run
      have hrun : (Instr.buildSlice t k pv.toArray).run P w = .ok (.slice (some ⟨w.heap.size, 0, none⟩) k k) (w.alloc (.cells ((pv.map (·.2)).flatMap fun v => v.cells.toList).toArray e)) := by
        rcases Nat.eq_zero_or_pos k with hk0 | hkpos
        · subst hk0
          have : pv = [] := List.eq_nil_of_length_eq_zero hpk
          subst this
          exact run_buildSlice0 w hap
        · have hf := fill_flat (sz := sz) (pv.map (·.2)) 0 [] ((Array.range (k * sz)).map (z.cells[· % z.cells.size]!)).toList hsz (by simp) (by simp [hpk])
          rw [← hpvs] at hf
          simp only [List.nil_append, Array.toArray_toList] at hf
          exact run_buildSlice w t e k pv.toArray _ i z hu hi hz (by rw [his]; omega) (by rw [his]; have := Nat.mul_pos hkpos hpos; omega) (by rw [his]; exact hf)
      have hnew := heap_alloc_new w (.cells ((pv.map (·.2)).flatMap fun v => v.cells.toList).toArray e)
      have hlb : ((pv.map (·.2)).flatMap fun v => v.cells.toList).length = ((parts.map fun p => p.2.norm).flatMap AV.cells).length := hflat.length.symm
      obtain ⟨hmg, hw⟩ := (h.alloc (.cells ((pv.map (·.2)).flatMap fun v => v.cells.toList).toArray e)).freeze (us := (pv.map (·.2)).flatMap fun v => v.cells.toList)
        (k := ((pv.map (·.2)).flatMap fun v => v.cells.toList).length) (h.rfresh _ (Nat.le_refl _)) (fun j => h.g.fresh _ j (Nat.le_refl _)) hnew (by intro j v _ hv; simpa using hv)
      refine ⟨_, _, hrun, ρ, _, R, hw.put hd (x := .slice .full (parts.map fun p => p.2.norm)) (v := .slice (some ⟨w.heap.size, 0, none⟩) k k) ?_, ?_⟩
      · have hlen : (parts.map fun p => p.2.norm).length = k := by simp [hnk]
        have hp := PRep.slice (F := freezeF F w.heap.size ((pv.map (·.2)).flatMap fun v => v.cells.toList).length ((pv.map (·.2)).flatMap fun v => v.cells.toList)) (G := ρ.G) (n := ρ.n) (tag := .full)
          (l := parts.map fun p => p.2.norm) (b := w.heap.size) (o := 0) (base := some ⟨w.heap.size, 0, none⟩) (cap := (parts.map fun p => p.2.norm).length) (sz := sz)
          (.of_all2 (hflat.mono fun _ _ _ h => h.grow hmg.g)) (freezeF_has _ _ _) (fun _ => rfl) (by
            intro x hx
            obtain ⟨p, hp, rfl⟩ := List.mem_map.1 hx
            rw [AV.norm_cells (hparts p hp).2, List.length_map]
            exact (hparts p hp).1) hflat1 (Nat.le_refl _) (by
              rw [hlen]
              have : k ≤ k * sz := Nat.le_mul_of_pos_right k hpos
              simp only [maxLen]; omega) (.inr ⟨rfl, rfl⟩)
        rw [hlen] at hp
        exact .p hp
      · have hext := (hx.alloc h.B0le (.cells ((pv.map (·.2)).flatMap fun v => v.cells.toList).toArray e)).freeze
          (F' := freezeF F w.heap.size ((pv.map (·.2)).flatMap fun v => v.cells.toList).length ((pv.map (·.2)).flatMap fun v => v.cells.toList)) fun b j hb => freezeF_other (by have := h.B0le; omega)
        exact hext
    · cases hb
  · cases hb

end

/-! ### append -/

def canGrow (fr : Fr) (tag : Tag) (l : List AV) : Bool :=
  match tag with
  | .frz => false
  | .full => true
  | .loc k g => g == fr.tgen k && fr.tab k == some l.length

def killTok (tag : Tag) (tab : Nat → Option Nat) : Nat → Option Nat :=
  match tag with
  | .loc k _ => upd tab k none
  | _ => tab

/-- The frame behind 'append'. -/
def grown (fr : Fr) (d : Nat) (tag : Tag) (l m : List AV) : Fr :=
  { fr with env := upd fr.env d (.slice (.loc d (fr.tgen d + 1)) (l ++ m)), tab := upd (killTok tag fr.tab) d (some (l.length + m.length)), tgen := upd fr.tgen d (fr.tgen d + 1) }

def appendA (P : Program) (T : Tabs) (c : Call) (dst : Option Nat) (K : Fr → Heap → Prop) (fr : Fr) (H : Heap) : Prop :=
  match dst, c.args.toList, c.argTypes.toList with
  | some d, [s, x], [t, t'] =>
    match apOf P t, ev T fr s, ev T fr x with
    | some (_, sz), .slice tag l, .slice _ m =>
      t' = t ∧ headOk sz l = true ∧ headOk sz m = true ∧ l.length + m.length ≤ growLim ∧
        (if canGrow fr tag l = true then K (grown fr d tag l m) H else m = [] ∧ K (fr.put (some d) (.slice .frz l)) H)
    | _, _, _ => False
  | _, _, _ => False

section
variable {P : Program} {T : Tabs} {n : Nat} {G0 : Nat → Nat} {F0 : Imm} {n0 : Nat} {w0 : World} {fr : Fr} {H : Heap} {a : Act} {w : World}

/-- Nothing is appended. -/
theorem run_append_none (w : World) {t e : TypeId} {sz : Nat} (h : apOf P t = some (e, sz)) (ty : TypeId) (base : Option Addr) (len cap : Nat) (hc : len ≤ cap) (x : Value) (hx : ∃ b c, x = .slice b 0 c) :
    (Builtin.append_ #[t, t] ty #[.slice base len cap, x]).run P w = .ok (.slice base len cap) w := by
  obtain ⟨i, z, hu, hi, hz, hzs, his, hby, hpos⟩ := apOf_inv h
  obtain ⟨b, c, rfl⟩ := hx
  cases b with
  | none =>
    cases base with
    | none => simp [Builtin.append_, run_underlying hu, sizeOf, typeInfo, hi, Builtin.lenOf, hc, Builtin.firstCells]
    | some ad => simp [Builtin.append_, run_underlying hu, sizeOf, typeInfo, hi, Builtin.lenOf, hc, Builtin.firstCells, storeCells]
  | some b =>
    cases base with
    | none => simp [Builtin.append_, run_underlying hu, sizeOf, typeInfo, hi, Builtin.lenOf, hc, Builtin.firstCells, loadCells, loadCellsFrom]
    | some ad => simp [Builtin.append_, run_underlying hu, sizeOf, typeInfo, hi, Builtin.lenOf, hc, Builtin.firstCells, storeCells, loadCells, loadCellsFrom]

/-- There is room: whatever the block's own type. -/
theorem run_append_room' (w : World) (t ty e e' : TypeId) (i : TypeInfo) (ht : P.underlying t = some (.slice e)) (hi : P.info? e = some i)
    (g sLen sCap : Nat) (cur : Array Value) (hg : w.heap[g]? = some (.cells cur e' (0, 0)))
    (a : Addr) (m c : Nat) (news : List Value) (hl : news.length = m * i.size) (hnews : ∀ j u, news[j]? = some u → w.cell? (a.add j) = some u) (h1 : ∀ u ∈ news, u.oneCell' = true)
    (hroom : sLen + m ≤ sCap) (hfit : sLen * i.size + news.length ≤ cur.size) :
    (Builtin.append_ #[t, t] ty #[.slice (some ⟨g, 0, none⟩) sLen sCap, .slice (some a) m c]).run P w =
      .ok (.slice (some ⟨g, 0, none⟩) (sLen + m) sCap) (w.setRow g (cur.toList.take (sLen * i.size) ++ news ++ cur.toList.drop (sLen * i.size + news.length)).toArray) := by
  have hf := run_firstCells_some (P := P) w i.size m a m c news hl hnews
  have hst := run_storeCells_at P g (sLen * i.size) e' news 0 cur w hg (by simpa using hfit) h1
  simp only [Nat.add_zero] at hst
  simp [Builtin.append_, run_underlying ht, sizeOf, typeInfo, hi, Builtin.lenOf, hroom, hf, Addr.add_lit, hst]

/-- A slice with a token's new name. -/
theorem WR.rename {ρ : Maps} {F : Imm} {R : Nat → Role} {B0 : Nat} (h : WR T n B0 ρ F R fr H a w) {tag : Tag} {l : List AV} {base : Option Addr} {cap : Nat} {d : Nat} (hd : d < n)
    (hp : PRep F ρ.G ρ.n (.slice .frz l) (.slice base l.length cap)) (htag : tag = .full ∧ cap = l.length ∨ ∃ k g, tag = .loc k g ∧ g = fr.tgen k ∧ fr.tab k = some l.length ∧ OwnRow ρ k g l base cap) :
    ∃ ρ' R', ρ'.G = ρ.G ∧ ρ'.n = ρ.n ∧ (∀ k g, tag = .loc k g → ρ'.A d (fr.tgen d + 1) = ρ.A k g) ∧ ρ'.ag d = fr.tgen d + 1 ∧ WR T n B0 ρ' F R' (grown fr d tag l []) H (a.put (some d) (.slice base l.length cap)) w := by
  -- what lies behind the name
  let A' : Option (Nat × Nat × Nat) := match tag with | .loc k g => ρ.A k g | _ => none
  let ρ' : Maps := { ρ with A := upd2 ρ.A d (fr.tgen d + 1) A', ag := upd ρ.ag d (fr.tgen d + 1) }
  let R' : Nat → Role := match A' with | some (b, _, _) => upd R b (.arr d) | none => R
  have hmg : MGrow F F ρ ρ' := by
    refine ⟨.refl, fun _ => Nat.le_refl _, fun _ _ _ => rfl, fun k => ?_, fun k g hg => ?_⟩
    · show ρ.ag k ≤ upd ρ.ag d (fr.tgen d + 1) k
      unfold upd
      split
      · rename_i h'; subst h'; rw [h.ag]; omega
      · exact Nat.le_refl _
    · show upd2 ρ.A d (fr.tgen d + 1) A' k g = ρ.A k g
      unfold upd2
      rw [if_neg]
      rintro ⟨rfl, rfl⟩
      rw [h.ag] at hg
      omega
  -- the live row
  have hlive : ∀ b c sz, A' = some (b, c, sz) → ∃ k g, tag = .loc k g ∧ g = fr.tgen k ∧ fr.tab k = some l.length ∧ ρ.A k (fr.tgen k) = some (b, c, sz) ∧ base = some ⟨b, 0, none⟩ ∧ cap = c ∧ ∀ x ∈ l, x.cells.length = sz := by
    intro b c sz hA
    rcases htag with ⟨rfl, _⟩ | ⟨k, g, rfl, rfl, ht, ho⟩
    · exact absurd hA (by simp [A'])
    · refine ⟨k, _, rfl, rfl, ht, hA, ?_⟩
      unfold OwnRow at ho
      have hA' : ρ.A k (fr.tgen k) = some (b, c, sz) := hA
      rw [hA'] at ho
      exact ho
  have hR' : ∀ b', (∀ k, R b' ≠ .arr k) → R' b' = R b' := by
    intro b' hb'
    show (match A' with | some (b, _, _) => upd R b (.arr d) | none => R) b' = R b'
    cases hA : A' with
    | none => rfl
    | some p =>
      obtain ⟨b, c, sz⟩ := p
      obtain ⟨k, g, _, _, ht, hA2, _⟩ := hlive b c sz hA
      have hr := (h.tok k _ ht b c sz hA2).2.1
      simp only [upd]
      rw [if_neg]
      rintro rfl
      exact hb' k hr
  have hown : OwnRow ρ' d (fr.tgen d + 1) l base cap := by
    unfold OwnRow
    have e : ρ'.A d (fr.tgen d + 1) = A' := by show upd2 ρ.A d (fr.tgen d + 1) A' d (fr.tgen d + 1) = A'; simp [upd2]
    rw [e]
    cases hA : A' with
    | none =>
      rcases htag with ⟨_, hc⟩ | ⟨k, g, rfl, rfl, ht, ho⟩
      · exact hc
      · unfold OwnRow at ho
        have hA' : ρ.A k (fr.tgen k) = none := hA
        rw [hA'] at ho
        exact ho
    | some p =>
      obtain ⟨b, c, sz⟩ := p
      obtain ⟨_, _, _, _, _, _, h1, h2, h3⟩ := hlive b c sz hA
      exact ⟨h1, h2, h3⟩
  refine ⟨ρ', R', rfl, rfl, ?_, by show upd ρ.ag d (fr.tgen d + 1) d = _; simp [upd], ⟨⟨h.g.imm, h.g.glob, h.g.inj, h.g.gF, h.g.fresh, h.g.tabs⟩, by rw [put_size]; exact h.size, by rw [put_defers]; exact h.defers, ?_, h.hn, h.lg, ?_, ?_, ?_, ?_, ?_, ?_, h.B0le⟩⟩
  · rintro k g rfl
    show upd2 ρ.A d (fr.tgen d + 1) A' d (fr.tgen d + 1) = ρ.A k g
    simp [upd2, A']
  · have h0 := (h.env.grow hmg).put (d := some d) (by intro d' he; injection he with he; subst he; rw [h.size]; exact hd) (x := .slice (.loc d (fr.tgen d + 1)) l) (v := .slice base l.length cap)
      (.cell (.loc (hp.grow hmg.g) (by show _ ≤ upd ρ.ag d (fr.tgen d + 1) d; simp [upd]) hown))
    simp only [grown, List.append_nil]
    exact h0
  · intro k
    show upd ρ.ag d (fr.tgen d + 1) k = upd fr.tgen d (fr.tgen d + 1) k
    unfold upd
    split
    · rfl
    · exact h.ag k
  · intro d' cs hd'
    obtain ⟨h1, h2, h3, vs, ty, h4, h5⟩ := h.box d' cs hd'
    exact ⟨h1, by rw [hR' _ (by intro k; show R (ρ.L d' (fr.gen d')) ≠ _; rw [h2]; simp)]; exact h2, h3, vs, ty, h4, h5.mono fun _ _ _ h => h.grow hmg⟩
  · intro k m hk b c sz hA
    simp only [grown, upd] at hk
    by_cases hkd : k = d
    · subst hkd
      simp only [if_true, List.length_nil, Nat.add_zero, Option.some.injEq] at hk
      subst hk
      have e1 : (grown fr k tag l []).tgen k = fr.tgen k + 1 := by simp [grown, upd]
      rw [e1] at hA
      have e2 : ρ'.A k (fr.tgen k + 1) = A' := by show upd2 ρ.A k (fr.tgen k + 1) A' k (fr.tgen k + 1) = A'; simp [upd2]
      rw [e2] at hA
      obtain ⟨k2, g2, _, _, ht, hA2, hb2, hc2, hs2⟩ := hlive b c sz hA
      obtain ⟨e1, e2, e3, e3', e4, e5⟩ := h.tok k2 _ ht b c sz hA2
      refine ⟨e1, ?_, e3, e3', e4, e5⟩
      show (match A' with | some (b, _, _) => upd R b (.arr k) | none => R) b = .arr k
      rw [hA]
      simp [upd]
    · simp only [if_neg hkd] at hk
      have e1 : (grown fr d tag l []).tgen k = fr.tgen k := by simp [grown, upd, hkd]
      rw [e1] at hA
      have e2 : ρ'.A k (fr.tgen k) = ρ.A k (fr.tgen k) := by show upd2 ρ.A d (fr.tgen d + 1) A' k (fr.tgen k) = _; simp [upd2, hkd]
      rw [e2] at hA
      have hk' : fr.tab k = some m ∧ ∀ k2 g2, tag = .loc k2 g2 → k ≠ k2 := by
        unfold killTok at hk
        split at hk
        · rename_i k2 g2
          simp only [upd] at hk
          split at hk
          · cases hk
          · rename_i hne
            refine ⟨hk, fun k3 g3 he => ?_⟩
            injection he with he1 he2
            subst he1
            exact hne
        · rename_i hnl
          exact ⟨hk, fun k3 g3 he => absurd he (hnl k3 g3)⟩
      obtain ⟨e3, e4, e5, e5', e6, e7⟩ := h.tok k m hk'.1 b c sz hA
      refine ⟨e3, ?_, e5, e5', e6, e7⟩
      show (match A' with | some (b, _, _) => upd R b (.arr d) | none => R) b = .arr k
      cases hA3 : A' with
      | none => exact e4
      | some p =>
        obtain ⟨b3, c3, sz3⟩ := p
        obtain ⟨k2, g2, ht2, _, ht, hA2, _⟩ := hlive b3 c3 sz3 hA3
        have hr := (h.tok k2 _ ht b3 c3 sz3 hA2).2.1
        simp only [upd]
        rw [if_neg]
        · exact e4
        · rintro rfl
          rw [e4] at hr
          injection hr with hr
          exact hk'.2 k2 g2 ht2 hr
  · intro b j v hf
    rcases h.frole b j v hf with h' | ⟨k, h'⟩
    · exact .inl (by rw [hR' b (by rw [h']; simp)]; exact h')
    · right
      show ∃ k, (match A' with | some (b, _, _) => upd R b (.arr d) | none => R) b = .arr k
      cases hA : A' with
      | none => exact ⟨k, h'⟩
      | some p =>
        obtain ⟨b3, c3, sz3⟩ := p
        simp only [upd]
        split
        · exact ⟨d, rfl⟩
        · exact ⟨k, h'⟩
  · intro o ho
    have := h.grole o ho
    rw [hR' _ (by intro k; show R (ρ.G o) ≠ _; rw [this]; simp)]
    exact this
  · intro b hb
    have := h.rfresh b hb
    rw [hR' b (by rw [this]; simp)]
    exact this

end
end Go.Abs
