/-
  The abstract layer, part C: the operations that only compute, on structs, slices, texts, functions.
-/
import Derived.Test.YtdihelfnjememaaDoorAbsB
set_option linter.unusedSimpArgs false
set_option linter.unusedVariables false
namespace Go.Abs
open Go

/-! ### plain lemmas on lists -/

theorem flatMap_len {l : List AV} {sz : Nat} (h : ∀ x ∈ l, x.cells.length = sz) : (l.flatMap AV.cells).length = l.length * sz := by
  induction l with
  | nil => simp
  | cons x l ih =>
    rw [List.flatMap_cons, List.length_append, ih fun y hy => h y (by simp [hy]), h x (by simp), List.length_cons, Nat.add_mul, Nat.one_mul, Nat.add_comm]

theorem flatMap_take {l : List AV} {sz : Nat} (h : ∀ x ∈ l, x.cells.length = sz) (n : Nat) : (l.take n).flatMap AV.cells = (l.flatMap AV.cells).take (n * sz) := by
  induction l generalizing n with
  | nil => simp
  | cons x l ih =>
    cases n with
    | zero => simp
    | succ n =>
      have hx := h x (by simp)
      rw [List.take_succ_cons, List.flatMap_cons, List.flatMap_cons, ih (fun y hy => h y (by simp [hy])), Nat.add_mul, Nat.one_mul, List.take_append, hx,
        List.take_of_length_le (l := x.cells) (by omega), Nat.add_sub_cancel]

theorem flatMap_drop {l : List AV} {sz : Nat} (h : ∀ x ∈ l, x.cells.length = sz) (n : Nat) : (l.drop n).flatMap AV.cells = (l.flatMap AV.cells).drop (n * sz) := by
  induction l generalizing n with
  | nil => simp
  | cons x l ih =>
    cases n with
    | zero => simp
    | succ n =>
      have hx := h x (by simp)
      rw [List.drop_succ_cons, List.flatMap_cons, ih (fun y hy => h y (by simp [hy])), Nat.add_mul, Nat.one_mul, List.drop_append, hx,
        List.drop_eq_nil_of_le (as := x.cells) (by omega), Nat.add_sub_cancel, List.nil_append]

theorem flatMap_get {l : List AV} {sz : Nat} (h : ∀ x ∈ l, x.cells.length = sz) {i : Nat} {x : AV} (hi : l[i]? = some x) : ((l.flatMap AV.cells).drop (i * sz)).take sz = x.cells := by
  have h1 := flatMap_drop h i
  have hlt : i < l.length := (List.getElem?_eq_some_iff.1 hi).1
  have hd : l.drop i = x :: l.drop (i + 1) := by
    have := List.drop_eq_getElem_cons hlt
    rw [this]
    congr 1
    exact (List.getElem?_eq_some_iff.1 hi).2
  rw [← h1, hd, List.flatMap_cons, List.take_append, List.take_of_length_le (by have := h x (List.mem_of_getElem? hi); omega)]
  simp [h x (List.mem_of_getElem? hi)]

theorem Imm.has.drop {F : Imm} {b o : Nat} {vs : List Value} (h : F.has b o vs) (n : Nat) : F.has b (o + n) (vs.drop n) := by
  intro i v hv
  rw [List.getElem?_drop] at hv
  have := h _ v hv
  rwa [← Nat.add_assoc] at this

theorem Imm.has.take {F : Imm} {b o : Nat} {vs : List Value} (h : F.has b o vs) (n : Nat) : F.has b o (vs.take n) := by
  intro i v hv
  rw [List.getElem?_take] at hv
  split at hv
  · exact h i v hv
  · cases hv

section
variable {F : Imm} {G : Nat → Nat} {n : Nat}

theorem PRepL.drop {xs vs} (h : PRepL F G n xs vs) (k : Nat) : PRepL F G n (xs.drop k) (vs.drop k) := .of_all2 (h.all2.drop k)
theorem PRepL.take {xs vs} (h : PRepL F G n xs vs) (k : Nat) : PRepL F G n (xs.take k) (vs.take k) := .of_all2 (h.all2.take k)
theorem PRepL.get {xs vs} (h : PRepL F G n xs vs) {i : Nat} {x : AV} (hx : xs[i]? = some x) : ∃ v, vs[i]? = some v ∧ PRep F G n x v := h.all2.get hx
theorem PRepL.length {xs vs} (h : PRepL F G n xs vs) : xs.length = vs.length := h.all2.length
theorem PRepL.append {xs vs xs' vs'} (h : PRepL F G n xs vs) (h' : PRepL F G n xs' vs') : PRepL F G n (xs ++ xs') (vs ++ vs') := .of_all2 (h.all2.append h'.all2)
end

theorem AV.cells_one {x : AV} (h : x.isOne = true) : x.cells = [x] := by cases x <;> first | rfl | (simp [AV.isOne] at h)

/-! ### types -/
section
variable {P : Program}

theorem layOf_parts {t : TypeId} {b : Bool} {n : Nat} (h : layOf P t = some (b, n)) :
    ∃ d i, P.underlying t = some d ∧ P.info? t = some i ∧ i.size = n ∧ (match d with | .struct _ | .array _ _ => true | _ => false) = b := by
  unfold layOf at h
  split at h
  · rename_i d i hd hi
    injection h with h
    injection h with h1 h2
    exact ⟨d, i, hd, hi, h2, h1⟩
  · cases h

theorem run_sizeOf' {t : TypeId} {b : Bool} {n : Nat} (h : layOf P t = some (b, n)) (w : World) : (sizeOf t).run P w = .ok n w := by
  obtain ⟨d, i, hd, hi, hn, _⟩ := layOf_parts h
  simp [sizeOf, typeInfo, hi, hn]

theorem run_isAgg' {t : TypeId} {b : Bool} {n : Nat} (h : layOf P t = some (b, n)) (w : World) : (isAgg t).run P w = .ok b w := by
  obtain ⟨d, i, hd, hi, hn, hb⟩ := layOf_parts h
  subst hb
  unfold isAgg
  rw [Sem.run_bind, run_underlying hd]
  cases d <;> rfl

theorem readAt_some {t : TypeId} {cs : List AV} {off : Nat} {z : AV} (h : readAt P t cs off = some z) :
    (∃ k, layOf P t = some (true, k) ∧ off + k ≤ cs.length ∧ z = .agg ((cs.drop off).take k)) ∨ (∃ k, layOf P t = some (false, k) ∧ cs[off]? = some z) := by
  unfold readAt at h
  split at h
  · split at h
    · rename_i k hl hle
      injection h with h
      exact .inl ⟨k, hl, hle, h.symm⟩
    · cases h
  · rename_i k hl
    exact .inr ⟨k, hl, h⟩
  · cases h

/-- A variable of several cells is loaded. -/
theorem run_loadVar_agg {t : TypeId} {k : Nat} (h : layOf P t = some (true, k)) (w : World) (a : Addr) (vs : List Value) (hk : vs.length = k)
    (hc : ∀ j v, vs[j]? = some v → w.cell? (a.add j) = some v) : (loadVar t a).run P w = .ok (.agg vs.toArray) w := by
  unfold loadVar
  rw [Sem.run_bind, run_isAgg' h]
  simp only [Result.andThen_ok, if_true]
  rw [Sem.run_bind, run_sizeOf' h, Result.andThen_ok, Sem.run_bind, ← hk, run_loadCells_list w a vs hc]
  rfl

theorem run_loadVar_one {t : TypeId} {k : Nat} (h : layOf P t = some (false, k)) (w : World) (a : Addr) (v : Value) (hc : w.cell? a = some v) : (loadVar t a).run P w = .ok v w := by
  unfold loadVar
  rw [Sem.run_bind, run_isAgg' h]
  simp [load, Sem.run, hc]

end

/-! ### field addresses, element addresses, parts -/

def fieldAddrA (P : Program) (t : TypeId) (x : AV) (i : Nat) : Option AV :=
  match fieldOf P t i with
  | none => none
  | some (off, ft) =>
    match layOf P ft with
    | none => none
    | some (_, n) =>
      if n = 0 then none else
      match x with
      | .lptr b g o => some (.lptr b g (o + off))
      | .gptr o f => some (.gptr o (f + off))
      | .rptr y => (readAt P ft y.cells off).map .rptr
      | _ => none

def fieldA (P : Program) (t : TypeId) (x : AV) (i : Nat) : Option AV :=
  match fieldOf P t i, x with
  | some (off, ft), .agg cs => readAt P ft cs off
  | _, _ => none

def indexAddrA (P : Program) (t : TypeId) (x i : AV) : Option AV :=
  match i with
  | .sc (.int _ n) =>
    match P.underlying t, x with
    | some (.slice e), .slice _ l =>
      if 0 ≤ n then
        match l[n.toNat]?, layOf P e with
        | some y, some (_, sz) => if y.cells.length = sz then some (.rptr y) else none
        | _, _ => none
      else none
    | some (.array len e), .lptr b g o =>
      match layOf P e with
      | some (_, sz) => if 0 ≤ n ∧ n < len then some (.lptr b g (o + n.toNat * sz)) else none
      | none => none
    | some (.array len e), .gptr ob o =>
      match layOf P e with
      | some (_, sz) => if 0 ≤ n ∧ n < len then some (.gptr ob (o + n.toNat * sz)) else none
      | none => none
    | some (.array len e), .rptr y =>
      match layOf P e with
      | some (_, sz) => if 0 ≤ n ∧ n < len then (readAt P e y.cells (n.toNat * sz)).map .rptr else none
      | none => none
    | _, _ => none
  | _ => none

def indexA (P : Program) (t : TypeId) (x i : AV) : Option AV :=
  match i with
  | .sc (.int _ n) =>
    match P.underlying t, x with
    | some .string, .sc (.string s) => if 0 ≤ n then (s[n.toNat]?).map fun b => .sc (.int .u8 b.toNat) else none
    | some (.array len e), .agg cs =>
      match layOf P e with
      | some (_, sz) => if 0 ≤ n ∧ n < len then readAt P e cs (n.toNat * sz) else none
      | none => none
    | _, _ => none
  | _ => none

section
variable {P : Program} {F : Imm} {ρ : Maps}

theorem frep_agg {cs : List AV} {v : Value} (h : FRep F ρ (.agg cs) v) : ∃ vs : List Value, v = .agg vs.toArray ∧ All2 (FCell F ρ) cs vs ∧ ∀ c ∈ cs, c.isOne = true := by
  cases h with
  | agg h1 h2 => exact ⟨_, rfl, h1, h2⟩
  | cell h => cases h with
    | p h => cases h with | agg h1 h2 => exact ⟨_, rfl, h1.all2.mono fun _ _ _ h => .p h, h2⟩

theorem frep_tuple {cs : List AV} {v : Value} (h : FRep F ρ (.tuple cs) v) : ∃ vs : List Value, v = .tuple vs.toArray ∧ All2 (PRep F ρ.G ρ.n) cs vs := by
  cases h with
  | cell h => cases h with
    | p h => cases h with | tuple h1 => exact ⟨_, rfl, h1.all2⟩

theorem frep_lptr {b g off : Nat} {v : Value} (h : FRep F ρ (.lptr b g off) v) : v = .pointer (some ⟨ρ.L b g, off, none⟩) ∧ g ≤ ρ.lg b := by
  cases h with
  | cell h => cases h with
    | p h => cases h
    | lptr h => exact ⟨rfl, h⟩

theorem frep_gptr {o off : Nat} {v : Value} (h : FRep F ρ (.gptr o off) v) : v = .pointer (some ⟨ρ.G o, off, none⟩) ∧ o < ρ.n := by
  cases h with
  | cell h => cases h with
    | p h => cases h with | gptr h => exact ⟨rfl, h⟩

theorem frep_rptr {x : AV} {v : Value} (h : FRep F ρ (.rptr x) v) :
    ∃ b o vs, v = .pointer (some ⟨b, o, none⟩) ∧ PRepL F ρ.G ρ.n x.cells vs ∧ F.has b o vs ∧ ∀ c ∈ x.cells, c.isOne = true := by
  cases h with
  | cell h => cases h with
    | p h => cases h with | rptr h1 h2 h3 => exact ⟨_, _, _, rfl, h1, h2, h3⟩

/-- A slice, whatever its tag. -/
structure SliceIs (F : Imm) (ρ : Maps) (l : List AV) (base : Option Addr) (cap b o sz : Nat) (vs : List Value) : Prop where
  cells : PRepL F ρ.G ρ.n (l.flatMap AV.cells) vs
  has : F.has b o vs
  base : l ≠ [] → base = some ⟨b, o, none⟩
  sz : ∀ x ∈ l, x.cells.length = sz
  ones : ∀ c ∈ l.flatMap AV.cells, c.isOne = true
  hcap : l.length ≤ cap
  hmax : cap ≤ maxLen

theorem PRep.slice_inv {G : Nat → Nat} {n : Nat} {tag : Tag} {l : List AV} {v : Value} (h : PRep F G n (.slice tag l) v) :
    ∃ base cap b o sz vs, v = .slice base l.length cap ∧ PRepL F G n (l.flatMap AV.cells) vs ∧ F.has b o vs ∧ (l ≠ [] → base = some ⟨b, o, none⟩) ∧ (∀ x ∈ l, x.cells.length = sz) ∧
      (∀ c ∈ l.flatMap AV.cells, c.isOne = true) ∧ l.length ≤ cap ∧ cap ≤ maxLen ∧ (tag = .frz ∨ tag = .full ∧ cap = l.length) := by
  cases h with | slice h1 h2 h3 h4 h5 h6 h7 h8 => exact ⟨_, _, _, _, _, _, rfl, h1, h2, h3, h4, h5, h6, h7, h8⟩

theorem frep_slice {tag : Tag} {l : List AV} {v : Value} (h : FRep F ρ (.slice tag l) v) :
    ∃ base cap b o sz vs, v = .slice base l.length cap ∧ SliceIs F ρ l base cap b o sz vs ∧ (tag = .full → cap = l.length) ∧
      (∀ k g, tag = .loc k g → g ≤ ρ.ag k ∧ OwnRow ρ k g l base cap) := by
  cases h with
  | cell h => cases h with
    | p h =>
      obtain ⟨base, cap, b, o, sz, vs, rfl, h1, h2, h3, h4, h5, h6, h7, h8⟩ := h.slice_inv
      refine ⟨base, cap, b, o, sz, vs, rfl, ⟨h1, h2, h3, h4, h5, h6, h7⟩, ?_, ?_⟩
      · rintro rfl
        rcases h8 with h8 | h8
        · cases h8
        · exact h8.2
      · rintro k g rfl
        rcases h8 with h8 | h8
        · cases h8
        · cases h8.1
    | loc h1 h2 h3 =>
      obtain ⟨base, cap, b, o, sz, vs, he, h1, h2', h3', h4, h5, h6, h7, h8⟩ := h1.slice_inv
      injection he with e1 e2 e3
      subst e1; subst e3
      refine ⟨_, _, b, o, sz, vs, rfl, ⟨h1, h2', h3', h4, h5, h6, h7⟩, (by intro h; cases h), ?_⟩
      rintro k g he
      injection he with e1 e2
      subst e1; subst e2
      exact ⟨h2, h3⟩

theorem prep_part {G : Nat → Nat} {n : Nat} {cs : List AV} {vs : List Value} {b o : Nat} {t : TypeId} {off : Nat} {z : AV} (h1 : PRepL F G n cs vs) (h2 : F.has b o vs) (h3 : ∀ c ∈ cs, c.isOne = true)
    (hz : readAt P t cs off = some z) : PRep F G n (.rptr z) (.pointer (some ⟨b, o + off, none⟩)) := by
  rcases readAt_some hz with ⟨k, hl, hle, rfl⟩ | ⟨k, hl, hc⟩
  · exact .rptr ((h1.drop off).take k) ((h2.drop off).take k) (fun c hc => h3 c (List.mem_of_mem_drop (List.mem_of_mem_take hc)))
  · obtain ⟨v, hv, hp⟩ := h1.get hc
    have hone := h3 z (List.mem_of_getElem? hc)
    refine .rptr (vs := [v]) (by rw [AV.cells_one hone]; exact .cons hp .nil) ?_ (by rw [AV.cells_one hone]; simpa using hone)
    intro i u hu
    cases i with
    | zero => simp at hu; subst hu; exact h2 off _ hv
    | succ i => simp at hu

theorem run_fieldAddr (w : World) {t : TypeId} {x r : AV} {u : Value} {i : Nat} (h : fieldAddrA P t x i = some r) (hx : FRep F ρ x u) :
    ∃ v, (Instr.fieldAt t u i).run P w = .ok v w ∧ FRep F ρ r v := by
  unfold fieldAddrA at h
  split at h
  · cases h
  · rename_i off ft hf
    split at h
    · cases h
    · rename_i agg n hl
      split at h
      · cases h
      · rename_i hn
        have hfld : ∃ fs f, P.underlying t = some (.struct fs) ∧ fs[i]? = some f ∧ f.offset = off ∧ f.type = ft := by
          unfold fieldOf at hf
          split at hf
          · rename_i fs hu
            cases hfs : fs[i]? with
            | none => rw [hfs] at hf; cases hf
            | some f =>
              rw [hfs] at hf
              simp at hf
              exact ⟨fs, f, hu, hfs, hf.1, hf.2⟩
          · cases hf
        obtain ⟨fs, f, hu, hfs, rfl, rfl⟩ := hfld
        have key : ∀ b o : Nat, (Instr.fieldAt t (.pointer (some ⟨b, o, none⟩)) i).run P w = .ok (.pointer (some ⟨b, o + f.offset, none⟩)) w := by
          intro b o
          unfold Instr.fieldAt
          rw [Sem.run_bind, run_underlying hu, Result.andThen_ok]
          simp only [hfs, Instr.sureAddr, Sem.run_bind, Sem.run_pure, Result.andThen_ok, fieldPlace, run_sizeOf' hl, hn, if_false, Addr.add_lit]
        split at h
        · rename_i b g o
          cases h
          obtain ⟨rfl, hg⟩ := frep_lptr hx
          exact ⟨_, key _ _, .cell (.lptr hg)⟩
        · rename_i o f'
          cases h
          obtain ⟨rfl, hg⟩ := frep_gptr hx
          exact ⟨_, key _ _, .p (.gptr hg)⟩
        · rename_i y
          obtain ⟨b, o, vs, rfl, h1, h2, h3⟩ := frep_rptr hx
          cases hz : readAt P f.type y.cells f.offset with
          | none => rw [hz] at h; cases h
          | some z =>
            rw [hz] at h
            cases h
            exact ⟨_, key _ _, .p (prep_part h1 h2 h3 hz)⟩
        · cases h

/-- A part of a value of several cells. -/
theorem run_part (w : World) {t : TypeId} {cs : List AV} {vs : List Value} {off : Nat} {z : AV} (h1 : All2 (FCell F ρ) cs vs) (h3 : ∀ c ∈ cs, c.isOne = true) (hz : readAt P t cs off = some z) :
    ∃ v, (part t vs.toArray off).run P w = .ok v w ∧ FRep F ρ z v := by
  rcases readAt_some hz with ⟨k, hl, hle, rfl⟩ | ⟨k, hl, hc⟩
  · refine ⟨.agg ((vs.drop off).take k).toArray, ?_, .agg ((h1.drop off).take k) (fun c hc => h3 c (List.mem_of_mem_drop (List.mem_of_mem_take hc)))⟩
    unfold part
    rw [Sem.run_bind, run_isAgg' hl]
    simp only [Result.andThen_ok, if_true, Sem.run_bind, run_sizeOf' hl, Sem.run_pure]
    congr 3
    simp [List.drop_take]
  · obtain ⟨v, hv, hp⟩ := h1.get hc
    refine ⟨v, ?_, .cell hp⟩
    unfold part
    rw [Sem.run_bind, run_isAgg' hl]
    simp [hv]

theorem run_field (w : World) {t : TypeId} {x r : AV} {u : Value} {i : Nat} (h : fieldA P t x i = some r) (hx : FRep F ρ x u) :
    ∃ v, (Instr.field t u i).run P w = .ok v w ∧ FRep F ρ r v := by
  unfold fieldA at h
  split at h
  · rename_i off ft cs hf
    obtain ⟨vs, rfl, h1, h2⟩ := frep_agg hx
    have hfld : ∃ fs f, P.underlying t = some (.struct fs) ∧ fs[i]? = some f ∧ f.offset = off ∧ f.type = ft := by
      unfold fieldOf at hf
      split at hf
      · rename_i fs hu
        cases hfs : fs[i]? with
        | none => rw [hfs] at hf; cases hf
        | some f =>
          rw [hfs] at hf
          simp at hf
          exact ⟨fs, f, hu, hfs, hf.1, hf.2⟩
      · cases hf
    obtain ⟨fs, f, hu, hfs, rfl, rfl⟩ := hfld
    obtain ⟨v, hv, hr⟩ := run_part w h1 h2 h
    refine ⟨v, ?_, hr⟩
    unfold Instr.field
    rw [Sem.run_bind, run_underlying hu, Result.andThen_ok]
    simp only [hfs, asAgg, Sem.run_bind, Sem.run_pure, Result.andThen_ok, hv]
  · cases h

theorem run_indexAddr (w : World) {t : TypeId} {x i r : AV} {u j : Value} (h : indexAddrA P t x i = some r) (hx : FRep F ρ x u) (hi : FRep F ρ i j) :
    ∃ v, (Instr.indexAt t u j).run P w = .ok v w ∧ FRep F ρ r v := by
  unfold indexAddrA at h
  split at h
  · rename_i k n
    cases frep_sc hi
    split at h
    · rename_i e tag l hu
      split at h
      · rename_i hn
        split at h
        · rename_i y agg sz hy hl
          split at h
          · rename_i hsz
            cases h
            obtain ⟨base, cap, b, o, sz', vs, rfl, hs, _, _⟩ := frep_slice hx
            have hlt : n.toNat < l.length := (List.getElem?_eq_some_iff.1 hy).1
            have hne : l ≠ [] := by rintro rfl; simp at hlt
            have hmem := List.mem_of_getElem? hy
            have hsz' : sz' = sz := by rw [← hs.sz y hmem, hsz]
            subst hsz'
            rw [hs.base hne]
            refine ⟨.pointer (some ⟨b, o + n.toNat * sz', none⟩), ?_, .p (.rptr (vs := (vs.drop (n.toNat * sz')).take sz') ?_ ?_ ?_)⟩
            · unfold Instr.indexAt
              simp only [asIntOf, Sem.run_bind, Sem.run_pure, Result.andThen_ok, run_underlying hu]
              rw [if_pos ⟨hn, by omega⟩]
              simp only [Sem.run_bind, Sem.run_pure, Result.andThen_ok, run_sizeOf' hl, Addr.add_lit]
            · rw [← flatMap_get hs.sz hy]
              exact (hs.cells.drop _).take _
            · exact (hs.has.drop _).take _
            · intro c hc
              exact hs.ones c (List.mem_flatMap.2 ⟨y, hmem, hc⟩)
          · cases h
        · cases h
      · cases h
    · rename_i len e b g o hu
      split at h
      · rename_i agg sz hl
        split at h
        · rename_i hn
          cases h
          obtain ⟨rfl, hg⟩ := frep_lptr hx
          refine ⟨.pointer (some ⟨ρ.L b g, o + n.toNat * sz, none⟩), ?_, .cell (.lptr hg)⟩
          unfold Instr.indexAt
          simp only [asIntOf, Instr.sureAddr, Sem.run_bind, Sem.run_pure, Result.andThen_ok, run_underlying hu]
          rw [if_pos hn]
          simp only [Sem.run_bind, Sem.run_pure, Result.andThen_ok, run_sizeOf' hl, Addr.add_lit]
        · cases h
      · cases h
    · rename_i len e ob o hu
      split at h
      · rename_i agg sz hl
        split at h
        · rename_i hn
          cases h
          obtain ⟨rfl, hg⟩ := frep_gptr hx
          refine ⟨.pointer (some ⟨ρ.G ob, o + n.toNat * sz, none⟩), ?_, .p (.gptr hg)⟩
          unfold Instr.indexAt
          simp only [asIntOf, Instr.sureAddr, Sem.run_bind, Sem.run_pure, Result.andThen_ok, run_underlying hu]
          rw [if_pos hn]
          simp only [Sem.run_bind, Sem.run_pure, Result.andThen_ok, run_sizeOf' hl, Addr.add_lit]
        · cases h
      · cases h
    · rename_i len e y hu
      split at h
      · rename_i agg sz hl
        split at h
        · rename_i hn
          obtain ⟨b, o, vs, rfl, h1, h2, h3⟩ := frep_rptr hx
          cases hz : readAt P e y.cells (n.toNat * sz) with
          | none => rw [hz] at h; cases h
          | some z =>
            rw [hz] at h
            cases h
            refine ⟨.pointer (some ⟨b, o + n.toNat * sz, none⟩), ?_, .p (prep_part h1 h2 h3 hz)⟩
            unfold Instr.indexAt
            simp only [asIntOf, Instr.sureAddr, Sem.run_bind, Sem.run_pure, Result.andThen_ok, run_underlying hu]
            rw [if_pos hn]
            simp only [Sem.run_bind, Sem.run_pure, Result.andThen_ok, run_sizeOf' hl, Addr.add_lit]
        · cases h
      · cases h
    · cases h
  · cases h

theorem run_index (w : World) {t : TypeId} {x i r : AV} {u j : Value} (h : indexA P t x i = some r) (hx : FRep F ρ x u) (hi : FRep F ρ i j) :
    ∃ v, (Instr.index t u j).run P w = .ok v w ∧ FRep F ρ r v := by
  unfold indexA at h
  split at h
  · rename_i k n
    cases frep_sc hi
    split at h
    · rename_i s hu
      cases frep_sc hx
      split at h
      · rename_i hn
        cases hb : s[n.toNat]? with
        | none => rw [hb] at h; cases h
        | some b =>
          rw [hb] at h
          cases h
          refine ⟨.int .u8 b.toNat, ?_, .p (.sc rfl)⟩
          unfold Instr.index
          simp [asIntOf, run_underlying hu, hn, hb]
      · cases h
    · rename_i len e cs hu
      split at h
      · rename_i agg sz hl
        split at h
        · rename_i hn
          obtain ⟨vs, rfl, h1, h2⟩ := frep_agg hx
          obtain ⟨v, hv, hr⟩ := run_part w h1 h2 h
          refine ⟨v, ?_, hr⟩
          unfold Instr.index
          simp only [asIntOf, Sem.run_bind, Sem.run_pure, Result.andThen_ok, run_underlying hu]
          rw [if_pos hn]
          simp only [Sem.run_bind, run_sizeOf' hl, Result.andThen_ok, hv]
        · cases h
      · cases h
    · cases h
  · cases h

end
end Go.Abs
