/-
  The abstract layer, part I4: slices that grow inside shared objects: what 'append' makes is a shared object, or the one that has room.
-/
import Derived.Test.YtgcimcppginchaaGreatDoorAbsG
import Derived.Laws.MakeOwn
set_option linter.unusedSimpArgs false
set_option linter.unusedVariables false
namespace Go.Abs
open Go

/-- 'append' where the row of what it makes is a shared object. -/
def appendG (P : Program) (T : Tabs) (c : Call) (dst : Option Nat) (K : Fr → Heap → Prop) (fr : Fr) (H : Heap) : Prop :=
  match dst, c.args.toList, c.argTypes.toList with
  | some d, [s, x], [t, t'] =>
    match apOf P t, ev T fr x with
    | some (e, sz), .slice _ m =>
      t' = t ∧ headOk sz m = true ∧ (zeroA P e).isSome = true ∧ 0 < m.length ∧
      match ev T fr s with
      | .slice .full l => headOk sz l = true ∧ l.length + m.length ≤ growLim ∧
          ∀ cap, l.length + m.length ≤ cap → K (fr.put (some d) (.gsl H.length 0 (l.length + m.length) cap)) (H ++ [l.flatMap AV.cells ++ m.flatMap AV.cells ++ junk ((cap - (l.length + m.length)) * sz)])
      | .nul => m.length ≤ growLim ∧ ∀ cap, m.length ≤ cap → K (fr.put (some d) (.gsl H.length 0 m.length cap)) (H ++ [m.flatMap AV.cells ++ junk ((cap - m.length) * sz)])
      | .gsl o off len cap => off = 0 ∧ len + m.length ≤ growLim ∧
          match H[o]? with
          | some cs => okObj cs = true ∧ cs.length = cap * sz ∧
              (len + m.length ≤ cap → K (fr.put (some d) (.gsl o 0 (len + m.length) cap)) (H.set o (setCells cs (len * sz) (m.flatMap AV.cells)))) ∧
              (∀ cap', cap < len + m.length → len + m.length ≤ cap' → K (fr.put (some d) (.gsl H.length 0 (len + m.length) cap')) (H ++ [cs.take (len * sz) ++ m.flatMap AV.cells ++ junk ((cap' - (len + m.length)) * sz)]))
          | none => False
      | _ => False
    | _, _ => False
  | _, _, _ => False

section
variable {P : Program} {T : Tabs} {n : Nat} {G0 : Nat → Nat} {F0 : Imm} {n0 : Nat} {w0 : World} {fr : Fr} {H : Heap} {a : Act} {w : World}

theorem run_append_roomZ (w : World) (t ty e e' : TypeId) (i : TypeInfo) (ht : P.underlying t = some (.slice e)) (hi : P.info? e = some i)
    (g sLen sCap : Nat) (cur : Array Value) {fz : Nat × Nat} (hg : w.heap[g]? = some (.cells cur e' fz)) (hfz : fzOk fz cur.size)
    (a : Addr) (m c : Nat) (news : List Value) (hl : news.length = m * i.size) (hnews : ∀ j u, news[j]? = some u → w.cell? (a.add j) = some u) (h1 : ∀ u ∈ news, u.oneCell' = true)
    (hroom : sLen + m ≤ sCap) (hfit : sLen * i.size + news.length ≤ cur.size) :
    (Builtin.append_ #[t, t] ty #[.slice (some ⟨g, 0, none⟩) sLen sCap, .slice (some a) m c]).run P w =
      .ok (.slice (some ⟨g, 0, none⟩) (sLen + m) sCap) (w.setRow g (cur.toList.take (sLen * i.size) ++ news ++ cur.toList.drop (sLen * i.size + news.length)).toArray) := by
  have hf := run_firstCells_some (P := P) w i.size m a m c news hl hnews
  have hst := run_storeCells_fz P g (sLen * i.size) e' fz news 0 cur w hg hfz (by simpa using hfit) h1
  simp only [Nat.add_zero] at hst
  simp [Builtin.append_, run_underlying ht, sizeOf, typeInfo, hi, Builtin.lenOf, hroom, hf, Addr.add_lit, hst]

theorem junk_prepG {F : Imm} {G : Nat → Nat} {k : Nat} : ∀ {rest : List Value} {m : Nat}, rest.length = m → (∀ u ∈ rest, u.oneCell' = true) → All2 (PRep F G k) (junk m) rest
  | [], m, h, _ => by cases h; exact .nil
  | u :: rest, m, h, h1 => by
    cases h
    show All2 _ (List.replicate (rest.length + 1) AV.undef) _
    rw [List.replicate_succ]
    exact .cons (.undef (h1 u (by simp))) (junk_prepG rfl fun v hv => h1 v (by simp [hv]))

theorem appendG_sound {ρ : Maps} {F : Imm} {R : Nat → Role} (h : WR T n w0.heap.size ρ F R fr H a w) (hx : Ext w0.heap.size G0 F0 n0 w0 ρ.G F H.length w) {c : Call} {dst : Option Nat} {ty : TypeId} {K : Fr → Heap → Prop}
    (hK : appendG P T c dst K fr H) (hd : ∀ d, dst = some d → d < n) (hok : ∀ x ∈ c.args.toList, okOperand x = true) :
    ∃ v w' fr' H', (Builtin.append_ c.argTypes ty (c.args.map a.eval)).run P w = .ok v w' ∧ K fr' H' ∧ SR T n G0 F0 n0 w0 fr' H' (a.put dst v) w' := by
  unfold appendG at hK
  split at hK
  · rename_i d s x t t' hargs htys
    have e1 : c.argTypes = #[t, t'] := Array.toList_inj.1 (by rw [htys])
    have e2 : c.args.map a.eval = #[a.eval s, a.eval x] := Array.toList_inj.1 (by rw [Array.toList_map, hargs]; rfl)
    rw [e1, e2]
    have hsr := ev_rep h.env h.tabsRep s (hok s (by rw [hargs]; simp))
    have hxr := ev_rep h.env h.tabsRep x (hok x (by rw [hargs]; simp))
    split at hK
    · rename_i e sz tag' m hap hxe
      obtain ⟨rfl, hm1, hz0, hmpos, hK⟩ := hK
      rw [hxe] at hxr
      obtain ⟨base2, cap2, b2, o2, sz2, vs2, hxv, hsl2, _, _⟩ := frep_slice hxr
      have hm : m ≠ [] := List.length_pos_iff.1 hmpos
      have hszm := headOk_all hm1 hsl2.sz
      have hbase2 := hsl2.base hm
      have hnews : ∀ j v, vs2[j]? = some v → w.cell? ((⟨b2, o2, none⟩ : Addr).add j) = some v := by
        intro j v hv
        rw [Addr.add_lit]
        exact h.g.imm b2 _ v (hsl2.has j v hv)
      have hvl2 : vs2.length = m.length * sz := by rw [← hsl2.cells.length, flatMap_len hszm]
      have hm2 : All2 (PRep F ρ.G ρ.n) (m.flatMap AV.cells) vs2 := hsl2.cells.all2
      have hone2 : ∀ u ∈ vs2, u.oneCell' = true := cells_oneCell (hm2.mono fun _ _ _ h => FCell.p h) hsl2.ones
      obtain ⟨i, z, hu, hi, hz, hzs, his, hby, hpos⟩ := apOf_inv hap
      -- a new row is a new object
      have fin : ∀ {len cap' : Nat} {cells : List AV} {vs : Array Value}, All2 (PRep F ρ.G ρ.n) cells vs.toList → (∀ c ∈ cells, c.isOne = true) → len ≤ cap' → cap' ≤ maxLen →
          SR T n G0 F0 n0 w0 (fr.put (some d) (.gsl H.length 0 len cap')) (H ++ [cells]) (a.put (some d) (.slice (some ⟨w.heap.size, 0, none⟩) len cap')) (w.drew.alloc (.cells vs e)) := by
        intro len cap' cells vs hc hone h1 h2
        refine newObj_sound h.drew hx.drew (.cells (.inl rfl) hc hone) hd ?_
        intro ρ' hG hGn hn'
        have := PRep.gsl (F := F) (G := ρ'.G) (n := ρ'.n) (o := H.length) (off := 0) (len := len) (cap := cap') (by rw [hn']; omega) h1 h2
        rw [hGn] at this
        exact this
      rw [hxv, hbase2]
      split at hK
      · -- a new row
        rename_i l hs
        obtain ⟨hl1, hlim, hK⟩ := hK
        rw [hs] at hsr
        obtain ⟨base, cap, b, o, sz1, vs, hsv, hsl, hfull, _⟩ := frep_slice hsr
        rw [hsv]
        have hcap : cap = l.length := hfull rfl
        have hszl := headOk_all hl1 hsl.sz
        have hvl1 : vs.length = l.length * sz := by rw [← hsl.cells.length, flatMap_len hszl]
        have hb0 : base = none → l.length = 0 ∧ cap = 0 := by
          rintro rfl
          have hl0 : l = [] := by
            rcases List.eq_nil_or_concat l with h' | ⟨_, _, h'⟩
            · exact h'
            · have := hsl.base (by rw [h']; simp)
              cases this
          subst hl0
          exact ⟨rfl, hcap⟩
        have ho : ∀ ad, base = some ad → ∀ j v, vs[j]? = some v → w.cell? (ad.add j) = some v := by
          intro ad hba j v hv
          have hlne : l ≠ [] := by
            rintro rfl
            have : vs = [] := List.eq_nil_of_length_eq_zero (by simpa using hvl1)
            rw [this] at hv
            simp at hv
          have := hsl.base hlne
          rw [hba] at this
          obtain rfl := Option.some.inj this
          rw [Addr.add_lit]
          exact h.g.imm b _ v (hsl.has j v hv)
        obtain ⟨cap', rest, hc1, hc2, hc3, hc4, hrun⟩ := run_append_growL w hap hz0 ty base l.length cap vs hvl1 hb0 ho ⟨b2, o2, none⟩ m.length cap2 vs2 hvl2 hnews (by omega) hlim
        refine ⟨_, _, _, _, hrun, hK cap' hc1, fin ?_ ?_ hc1 hc2⟩
        · simp only
          exact (hsl.cells.all2.append hm2).append (junk_prepG hc3 hc4)
        · intro c hc
          simp only [List.mem_append] at hc
          rcases hc with (hc | hc) | hc
          · exact hsl.ones c hc
          · exact hsl2.ones c hc
          · exact junk_one _ c hc
      · -- an empty slice without room
        rename_i hs
        obtain ⟨hlim, hK⟩ := hK
        rw [hs] at hsr
        obtain ⟨base, hsv⟩ := frep_nul hsr
        rw [hsv]
        obtain ⟨cap', rest, hc1, hc2, hc3, hc4, hrun⟩ := run_append_growL w hap hz0 ty base 0 0 [] (by simp) (fun _ => ⟨rfl, rfl⟩) (by intro ad _ j v hv; simp at hv) ⟨b2, o2, none⟩ m.length cap2 vs2 hvl2 hnews (by omega) (by omega)
        simp only [Nat.zero_add, List.nil_append] at hc1 hc3 hrun
        refine ⟨_, _, _, _, hrun, hK cap' hc1, fin ?_ ?_ hc1 hc2⟩
        · simp only
          exact hm2.append (junk_prepG hc3 hc4)
        · intro c hc
          simp only [List.mem_append] at hc
          rcases hc with hc | hc
          · exact hsl2.ones c hc
          · exact junk_one _ c hc
      · -- a shared object
        rename_i o off len cap hs
        obtain ⟨rfl, hlim, hK⟩ := hK
        rw [hs] at hsr
        obtain ⟨hsv, hol, hlc, hcm⟩ := frep_gsl hsr
        rw [hsv]
        split at hK
        · rename_i cs hb
          obtain ⟨hok', hcl, hin, hgr⟩ := hK
          obtain ⟨ob, h4, h5⟩ := h.g.glob o cs hb
          obtain ⟨cur, cty, fz, rfl, hfz, h5, h6⟩ := h5.isCells hok'
          have hcur : cur.size = cap * sz := by rw [← hcl]; simpa using h5.length.symm
          have hle : len * sz ≤ cap * sz := Nat.mul_le_mul_right _ hlc
          rw [← h.hn] at h5
          by_cases hroom : len + m.length ≤ cap
          · have hfit : len * sz + m.length * sz ≤ cap * sz := by rw [← Nat.add_mul]; exact Nat.mul_le_mul_right _ hroom
            have hrun := run_append_roomZ (P := P) w t' ty e cty i hu hi (ρ.G o) len cap cur h4 hfz ⟨b2, o2, none⟩ m.length cap2 vs2 (by rw [his]; exact hvl2) hnews hone2 hroom (by rw [his]; omega)
            rw [his] at hrun
            have hset := h5.setCells hm2 (len * sz)
            have hml : (m.flatMap AV.cells).length = vs2.length := hm2.length
            have hones : ∀ c ∈ setCells cs (len * sz) (m.flatMap AV.cells), c.isOne = true := by
              intro c hc
              simp only [setCells, List.mem_append] at hc
              rcases hc with (hm | hm) | hm
              · exact h6 c (List.mem_of_mem_take hm)
              · exact hsl2.ones c hm
              · exact h6 c (List.mem_of_mem_drop hm)
            have hbx := h.setGlob (vs' := (cur.toList.take (len * sz) ++ vs2 ++ cur.toList.drop (len * sz + vs2.length)).toArray) hb hok' (by rw [← hml]; simpa [hml] using hset)
              (by simp only [setCells, List.length_append, List.length_take, List.length_drop, hml, hvl2]; omega) hones
            have hput := hbx.put (d := some d) (by intro d' he; injection he with he; subst he; exact hd _ rfl) (x := .gsl o 0 (len + m.length) cap) (v := .slice (some ⟨ρ.G o, 0, none⟩) (len + m.length) cap) (.cell (.p (.gsl hol hroom hcm)))
            refine ⟨_, _, _, _, hrun, hin hroom, ρ, F, R, hput, ?_⟩
            rw [List.length_set]
            exact hx.setRow (.inr ⟨o, by rw [← h.hn]; exact hol, rfl⟩) _
          · have ho : ∀ ad, some (⟨ρ.G o, 0, none⟩ : Addr) = some ad → ∀ j v, (cur.toList.take (len * sz))[j]? = some v → w.cell? (ad.add j) = some v := by
              intro ad hba j v hv
              obtain rfl := Option.some.inj hba
              rw [Addr.add_lit, Nat.zero_add, cell_of_row w _ _ cur cty fz h4]
              rw [List.getElem?_take] at hv
              split at hv
              · simpa using hv
              · cases hv
            obtain ⟨cap', rest, hc1, hc2, hc3, hc4, hrun⟩ := run_append_growL w hap hz0 ty (some ⟨ρ.G o, 0, none⟩) len cap (cur.toList.take (len * sz)) (by simp; omega) (by intro h; cases h) ho ⟨b2, o2, none⟩ m.length cap2 vs2 hvl2 hnews (by omega) hlim
            refine ⟨_, _, _, _, hrun, hgr cap' (by omega) hc1, fin ?_ ?_ hc1 hc2⟩
            · simp only
              exact ((h5.take _).append hm2).append (junk_prepG hc3 hc4)
            · intro c hc
              simp only [List.mem_append] at hc
              rcases hc with (hc | hc) | hc
              · exact h6 c (List.mem_of_mem_take hc)
              · exact hsl2.ones c hc
              · exact junk_one _ c hc
        · exact hK.elim
      · exact hK.elim
    · exact hK.elim
  · exact hK.elim

end
/-! ### make([]T, n) of scalars -/

/-- A row of n zeros. -/
def makeSliceA (P : Program) (t : TypeId) (l c : AV) : Option AV :=
  match apOf P t, l, c with
  | some (e, sz), .sc (.int .i64 n), .sc (.int .i64 m) => match zeroOf P e with
    | some z => if m = n ∧ 0 ≤ n ∧ n ≤ 1099511627776 ∧ isSc z = true ∧ sz = 1 then some (.slice .full (List.replicate n.toNat (.sc z))) else none
    | none => none
  | _, _, _ => none

section
variable {P : Program} {T : Tabs} {n : Nat} {G0 : Nat → Nat} {F0 : Imm} {n0 : Nat} {w0 : World} {fr : Fr} {H : Heap} {a : Act} {w : World}
theorem All2.replicate {α β : Type} {R : α → β → Prop} {x : α} {y : β} (h : R x y) : ∀ k, All2 R (List.replicate k x) (List.replicate k y)
  | 0 => .nil
  | k + 1 => .cons h (All2.replicate h k)
theorem flat_sc (z : Value) : ∀ k, (List.replicate k (AV.sc z)).flatMap AV.cells = List.replicate k (AV.sc z)
  | 0 => rfl
  | k + 1 => by
    rw [List.replicate_succ, List.flatMap_cons, flat_sc z k]
    rfl
theorem sc_cells {z : Value} (h : isSc z = true) : z.cells = #[z] := by
  cases z <;> first | rfl | (simp [isSc] at h)
theorem made_cells (z : Value) (k : Nat) : madeCells #[z] k = (List.replicate k z).toArray := by
  apply Array.ext
  · simp [madeCells]
  · intro i h1 h2
    simp [madeCells, Nat.mod_one]
theorem makeSlice_sound {ρ : Maps} {F : Imm} {R : Nat → Role} (h : WR T n w0.heap.size ρ F R fr H a w) (hx : Ext w0.heap.size G0 F0 n0 w0 ρ.G F H.length w) {t : Nat} {l c r : AV} {u v : Value}
    {dst : Option Nat} (hb : makeSliceA P t l c = some r) (hl : FRep F ρ l u) (hc : FRep F ρ c v) (hd : ∀ d, dst = some d → d < n) :
    ∃ v' w', (Instr.makeSlice t u v).run P w = .ok v' w' ∧ SR T n G0 F0 n0 w0 (fr.put dst r) H (a.put dst v') w' := by
  unfold makeSliceA at hb
  split at hb
  · rename_i e sz n1 m1 hap
    split at hb
    · rename_i z hz
      split at hb
      · rename_i hcc
        obtain ⟨rfl, h0, h1, hsc, rfl⟩ := hcc
        have hzc := sc_cells hsc
        cases hb
        cases frep_sc hl
        cases frep_sc hc
        obtain ⟨i, z', hu, hi, hz', hzs, his, hby, hpos⟩ := apOf_inv hap
        have hzz : z' = z := by
          unfold zeroOf at hz
          rw [hi] at hz
          have hz : i.zero = some z := hz
          rw [hz'] at hz
          exact Option.some.inj hz
        subst hzz
        obtain ⟨k, rfl⟩ : ∃ k : Nat, m1 = k := ⟨m1.toNat, by omega⟩
        have hrun := run_make (P := P) w t e i z' hu hi hz' .i64 .i64 (k : Int) k (by omega) (Int.le_refl _) (by
          have : (i.bytes : Int) * (k : Int) ≤ 128 * 1099511627776 := Int.mul_le_mul (by omega) h1 (by omega) (by omega)
          omega) (by omega)
        rw [hzc, his, Int.toNat_natCast, Nat.mul_one, made_cells] at hrun
        obtain ⟨us, hus⟩ : ∃ us, us = List.replicate k z' := ⟨_, rfl⟩
        obtain ⟨l, hl⟩ : ∃ l, l = List.replicate k (AV.sc z') := ⟨_, rfl⟩
        have hk : l.length = k := by rw [hl, List.length_replicate]
        have hfl : l.flatMap AV.cells = l := by rw [hl, flat_sc]
        have hflat : All2 (PRep F ρ.G ρ.n) (l.flatMap AV.cells) us := by rw [hfl, hl, hus]; exact All2.replicate (.sc hsc) k
        have hone : ∀ x ∈ l.flatMap AV.cells, x.isOne = true := by
          intro x hx'
          rw [hfl, hl] at hx'
          rw [(List.mem_replicate.1 hx').2]
          rfl
        have hsz : ∀ x ∈ l, x.cells.length = 1 := fun x hx' => by
          rw [hl] at hx'
          rw [(List.mem_replicate.1 hx').2]
          rfl
        rw [← hus] at hrun
        rw [Int.toNat_natCast, ← hl]
        have hmax : k ≤ maxLen := by simp only [maxLen]; omega
        have hnew := heap_alloc_new w (.cells us.toArray e)
        obtain ⟨hmg, hw⟩ := (h.alloc (.cells us.toArray e)).freeze (us := us) (k := us.length) (h.rfresh _ (Nat.le_refl _)) (fun j => h.g.fresh _ j (Nat.le_refl _)) hnew (fun u hu => cells_oneCell (hflat.mono fun _ _ _ h => FCell.p h) hone u (by simpa using hu)) (by intro j v _ hv; simpa using hv)
        refine ⟨_, _, hrun, ρ, _, R, hw.put hd (x := .slice .full l) (v := .slice (some ⟨w.heap.size, 0, none⟩) k k) ?_, ?_⟩
        · have hp := PRep.slice (F := freezeF F w.heap.size us.length us) (G := ρ.G) (n := ρ.n) (tag := .full) (l := l) (b := w.heap.size) (o := 0) (base := some ⟨w.heap.size, 0, none⟩) (cap := l.length) (sz := 1)
            (.of_all2 (hflat.mono fun _ _ _ h => h.grow hmg.g)) (freezeF_has _ _ _) (fun _ => rfl) hsz hone (Nat.le_refl _) (by rw [hk]; exact hmax) (.inr ⟨rfl, rfl⟩)
          rw [hk] at hp
          exact .p hp
        · exact (hx.alloc h.B0le (.cells us.toArray e)).freeze (F' := freezeF F w.heap.size us.length us) fun b j hb => freezeF_other (by have := h.B0le; omega)
      · cases hb
    · cases hb
  · cases hb
end
end Go.Abs
