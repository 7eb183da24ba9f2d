/- A part of the proof of ReportTexts: contracts of functions of the program, and what they need. -/
import Derived.Test.YtgcimcppginchaaGreatDoorAbsA
import Derived.Laws.Build
import Derived.Laws.StructEq
import Derived.Laws.BytesArg
/-
  The abstract layer, part D: slice expressions, struct literals, small operations; all operations that only compute, together.
-/
set_option linter.unusedSimpArgs false
set_option linter.unusedVariables false
namespace Go.Abs
open Go

/-! ### slice expressions -/

/-- The elements of a list have the cells of a type (they all have as many). -/
def headOk (sz : Nat) (l : List AV) : Bool :=
  match l with
  | [] => true
  | x :: _ => x.cells.length == sz

theorem headOk_all {sz sz' : Nat} {l : List AV} (h : headOk sz l = true) (hs : ∀ x ∈ l, x.cells.length = sz') : ∀ x ∈ l, x.cells.length = sz := by
  cases l with
  | nil => simp
  | cons x l =>
    have h1 : x.cells.length = sz := by simpa [headOk] using h
    have h2 := hs x (by simp)
    intro y hy
    rw [hs y hy, ← h2, h1]

def bnd : Option AV → Option (Option Nat)
  | none => some none
  | some (.sc (.int _ n)) => if 0 ≤ n then some (some n.toNat) else none
  | _ => none

def sliceA (P : Program) (t : TypeId) (x : AV) (lo hi mx : Option AV) : Option AV :=
  match bnd lo, bnd hi, bnd mx with
  | some lo, some hi, some mx =>
    match P.underlying t, x with
    | some (.slice e), .slice _ l =>
      match layOf P e with
      | none => none
      | some (_, sz) =>
        if hi.getD l.length ≤ l.length ∧ lo.getD 0 ≤ hi.getD l.length ∧ headOk sz l = true then
          match mx with
          | none => some (.slice .frz ((l.take (hi.getD l.length)).drop (lo.getD 0)))
          | some m => if hi.isSome ∧ hi.getD l.length ≤ m ∧ m ≤ l.length then
              some (.slice (if m = hi.getD l.length then .full else .frz) ((l.take (hi.getD l.length)).drop (lo.getD 0))) else none
        else none
    | some .string, .sc (.string s) =>
      if mx.isNone ∧ hi.getD s.size ≤ s.size ∧ lo.getD 0 ≤ hi.getD s.size then some (.sc (.string (s.extract (lo.getD 0) (hi.getD s.size)))) else none
    | _, _ => none
  | _, _, _ => none

/-- An operand that may be missing. -/
def OptRep (F : Imm) (ρ : Maps) : Option AV → Option Value → Prop
  | none, none => True
  | some x, some v => FRep F ρ x v
  | _, _ => False

section
variable {P : Program} {F : Imm} {ρ : Maps}

theorem bnd_inv {x : Option AV} {v : Option Value} {r : Option Nat} (h : bnd x = some r) (hr : OptRep F ρ x v) :
    (r = none ∧ v = none) ∨ ∃ k n, v = some (.int k n) ∧ 0 ≤ n ∧ r = some n.toNat := by
  unfold bnd at h
  split at h
  · cases v with
    | none => injection h with h; exact .inl ⟨h.symm, rfl⟩
    | some v => exact hr.elim
  · rename_i k n
    split at h
    · injection h with h
      cases v with
      | none => exact hr.elim
      | some v =>
        cases frep_sc hr
        exact .inr ⟨k, n, rfl, by assumption, h.symm⟩
    · cases h
  · cases h

theorem run_bound (w : World) (k : IntKind) (n : Int) (y : Nat) (c : BoundsCode) (h0 : 0 ≤ n) (h1 : n.toNat ≤ y) : (Instr.sliceBound (.int k n) y c).run P w = .ok n.toNat w := by
  unfold Instr.sliceBound
  simp only [asIntOf, Sem.run_bind, Sem.run_pure, Result.andThen_ok]
  rw [if_pos ⟨h0, by omega⟩]
  rfl

/-- The bounds of a slice expression, as numbers. -/
theorem run_bounds (w : World) (isS : Bool) {lo hi mx : Option AV} {lv hv mv : Option Value} {a h m : Option Nat} {len cap : Nat}
    (h1 : bnd lo = some a) (h2 : bnd hi = some h) (h3 : bnd mx = some m) (r1 : OptRep F ρ lo lv) (r2 : OptRep F ρ hi hv) (r3 : OptRep F ρ mx mv)
    (hm : m.getD cap ≤ cap) (hh : h.getD len ≤ m.getD cap) (ha : a.getD 0 ≤ h.getD len) (hmh : m.isSome = true → h.isSome = true) :
    (Instr.sliceBounds isS len cap lv hv mv).run P w = .ok (a.getD 0, h.getD len, m.getD cap) w := by
  rcases bnd_inv h3 r3 with ⟨rfl, rfl⟩ | ⟨k, n, rfl, hn, rfl⟩ <;> rcases bnd_inv h2 r2 with ⟨rfl, rfl⟩ | ⟨k2, n2, rfl, hn2, rfl⟩ <;>
    rcases bnd_inv h1 r1 with ⟨rfl, rfl⟩ | ⟨k1, n1, rfl, hn1, rfl⟩ <;> simp only [Option.getD_none, Option.getD_some] at hm hh ha ⊢ <;>
    (first
      | (simp at hmh; done)
      | (simp only [Instr.sliceBounds, Sem.run_bind, Sem.run_pure, Result.andThen_ok]; done)
      | (simp only [Instr.sliceBounds, Sem.run_bind, Sem.run_pure, Result.andThen_ok, run_bound (P := P) w k1 n1 _ _ hn1 ha]; done)
      | (simp only [Instr.sliceBounds, Sem.run_bind, Sem.run_pure, Result.andThen_ok, run_bound (P := P) w k2 n2 _ _ hn2 hh]; done)
      | (simp only [Instr.sliceBounds, Sem.run_bind, Sem.run_pure, Result.andThen_ok, run_bound (P := P) w k2 n2 _ _ hn2 hh, run_bound (P := P) w k1 n1 _ _ hn1 ha]; done)
      | (simp only [Instr.sliceBounds, Sem.run_bind, Sem.run_pure, Result.andThen_ok, run_bound (P := P) w k n _ _ hn hm, run_bound (P := P) w k2 n2 _ _ hn2 hh]; done)
      | (simp only [Instr.sliceBounds, Sem.run_bind, Sem.run_pure, Result.andThen_ok, run_bound (P := P) w k n _ _ hn hm, run_bound (P := P) w k2 n2 _ _ hn2 hh, run_bound (P := P) w k1 n1 _ _ hn1 ha]; done))

theorem run_slice (w : World) {t : TypeId} {x r : AV} {u : Value} {lo hi mx : Option AV} {lv hv mv : Option Value} (h : sliceA P t x lo hi mx = some r) (hx : FRep F ρ x u)
    (r1 : OptRep F ρ lo lv) (r2 : OptRep F ρ hi hv) (r3 : OptRep F ρ mx mv) : ∃ v, (Instr.sliceAt t u lv hv mv).run P w = .ok v w ∧ FRep F ρ r v := by
  unfold sliceA at h
  split at h
  · rename_i a hh m b1 b2 b3
    split at h
    · rename_i e tag l hu
      split at h
      · cases h
      · rename_i ag sz hl
        split at h
        · rename_i hc
          obtain ⟨hc1, hc2, hc3⟩ := hc
          obtain ⟨base, cap, b, o, sz', vs, rfl, hs, _, _⟩ := frep_slice hx
          have hsz := headOk_all hc3 hs.sz
          have step : ∀ (m' : Nat), m' = m.getD cap → m' ≤ cap → hh.getD l.length ≤ m' → (m.isSome = true → hh.isSome = true) → ∀ tg, (tg = Tag.frz ∨ tg = Tag.full ∧ m' = hh.getD l.length) →
              ∃ v, (Instr.sliceAt t (.slice base l.length cap) lv hv mv).run P w = .ok v w ∧ FRep F ρ (.slice tg ((l.take (hh.getD l.length)).drop (a.getD 0))) v := by
            intro m' hm' hmc hmh hmi tg htg
            have hb := run_bounds (P := P) (F := F) (ρ := ρ) w true (len := l.length) (cap := cap) b1 b2 b3 r1 r2 r3 (by omega) (by omega) hc2 hmi
            refine ⟨.slice (if m' = a.getD 0 then base else base.map (·.add (a.getD 0 * sz))) (hh.getD l.length - a.getD 0) (m' - a.getD 0), ?_, ?_⟩
            · unfold Instr.sliceAt
              rw [Sem.run_bind, run_underlying hu]
              simp only [Result.andThen_ok]
              unfold Instr.slice
              rw [Sem.run_bind, run_underlying hu]
              simp only [Result.andThen_ok, Sem.run_bind, hb, run_sizeOf' hl, Sem.run_pure, ← hm']
            · have hlen : ((l.take (hh.getD l.length)).drop (a.getD 0)).length = hh.getD l.length - a.getD 0 := by
                rw [List.length_drop, List.length_take]; omega
              rw [← hlen]
              have hcells : ((l.take (hh.getD l.length)).drop (a.getD 0)).flatMap AV.cells = ((l.flatMap AV.cells).take (hh.getD l.length * sz)).drop (a.getD 0 * sz) := by
                rw [flatMap_drop (sz := sz) (fun x hx => hsz x (List.mem_of_mem_take hx)), flatMap_take hsz]
              refine .p (.slice (b := b) (o := o + a.getD 0 * sz) (sz := sz) (vs := (vs.take (hh.getD l.length * sz)).drop (a.getD 0 * sz)) ?_ ?_ ?_ ?_ ?_ ?_ ?_ ?_)
              · rw [hcells]; exact (hs.cells.take _).drop _
              · exact (hs.has.take _).drop _
              · intro hne
                have hpos : 0 < ((l.take (hh.getD l.length)).drop (a.getD 0)).length := List.length_pos_iff.2 hne
                have hl0 : l ≠ [] := by rintro rfl; simp at hne
                rw [if_neg (by omega), hs.base hl0]
                simp [Addr.add_lit]
              · exact fun x hx => hsz x (List.mem_of_mem_take (List.mem_of_mem_drop hx))
              · intro c hcc
                rw [hcells] at hcc
                exact hs.ones c (List.mem_of_mem_take (List.mem_of_mem_drop hcc))
              · omega
              · have := hs.hmax; omega
              · rcases htg with h | ⟨h, h'⟩
                · exact .inl h
                · exact .inr ⟨h, by omega⟩
          split at h
          · cases h
            exact step cap rfl (Nat.le_refl _) (by have := hs.hcap; omega) (by simp) .frz (.inl rfl)
          · rename_i m'
            split at h
            · rename_i hmm
              cases h
              have hc' := hs.hcap
              refine step m' rfl (by omega) hmm.2.1 (fun _ => hmm.1) _ ?_
              by_cases he : m' = hh.getD l.length
              · rw [if_pos he]; exact .inr ⟨rfl, he⟩
              · rw [if_neg he]; exact .inl rfl
            · cases h
        · cases h
    · rename_i s hu
      split at h
      · rename_i hc
        obtain ⟨hc1, hc2, hc3⟩ := hc
        cases h
        cases frep_sc hx
        have hmn : m = none := by cases m <;> simp_all
        subst hmn
        have hmv : mv = none := by
          rcases bnd_inv b3 r3 with ⟨_, h⟩ | ⟨_, _, _, _, h⟩
          · exact h
          · cases h
        subst hmv
        have hb := run_bounds (P := P) (F := F) (ρ := ρ) w false (len := s.size) (cap := s.size) b1 b2 b3 r1 r2 r3 (by simp) (by simpa using hc2) hc3 (by simp)
        refine ⟨_, ?_, .p (.sc rfl)⟩
        unfold Instr.sliceAt
        rw [Sem.run_bind, run_underlying hu]
        simp only [Result.andThen_ok]
        unfold Instr.slice
        rw [Sem.run_bind, run_underlying hu]
        simp only [Result.andThen_ok, Option.isSome_none, Bool.false_eq_true, if_false, Sem.run_bind, Sem.run_pure, hb]
      · cases h
    · cases h
  · cases h

end

/-! ### struct and array literals -/

/-- Where the parts of a literal of a type go, and how many cells they have. -/
def placesOf (P : Program) (t : TypeId) : Option (List (Nat × Nat)) :=
  match P.underlying t with
  | some (.struct fs) => fs.toList.mapM fun f => (P.info? f.type).map fun i => (f.offset, i.size)
  | _ => none

def placeA (P : Program) (t i : Nat) : Option (Nat × Nat) :=
  match placesOf P t with
  | some ps => ps[i]?
  | none => match arrOf P t with
    | some (_, e) => (P.info? e).map fun f => (i * f.size, f.size)
    | none => none

def notTuple : AV → Bool
  | .tuple _ => false
  | _ => true

def fillA (P : Program) (t : TypeId) : List AV → List (Nat × AV) → Option (List AV)
  | cs, [] => some cs
  | cs, (i, x) :: rest =>
    match placeA P t i with
    | some (off, size) => if x.cells.length = size ∧ off + size ≤ cs.length ∧ notTuple x = true then fillA P t (setCells cs off x.cells) rest else none
    | none => none

/-- The zero value's cells, of a type of structs or arrays. -/
def zaggA (P : Program) (t : TypeId) : Option (List AV) :=
  match zeroOf P t with
  | some (.agg z) => if z.all (·.oneCell') = true ∧ ((placesOf P t).isSome ∨ ((arrOf P t).bind fun p => P.info? p.2).isSome) then some (z.toList.map ofCell) else none
  | _ => none

def buildA (P : Program) (t : TypeId) (parts : List (Nat × AV)) : Option AV :=
  match zaggA P t with
  | some z => (fillA P t z parts).map .agg
  | none => none

theorem setCells_length {cs new : List AV} {off : Nat} (h : off + new.length ≤ cs.length) : (setCells cs off new).length = cs.length := by
  simp only [setCells, List.length_append, List.length_take, List.length_drop]
  omega

theorem foldl_set (new : List Value) : ∀ (k off : Nat) (vs : Array Value), off + k + new.length ≤ vs.size →
    ((new.zipIdx k).foldl (fun cs (x : Value × Nat) => cs.setIfInBounds (off + x.2) x.1) vs).toList = vs.toList.take (off + k) ++ new ++ vs.toList.drop (off + k + new.length) := by
  induction new with
  | nil => intro k off vs h; simp
  | cons v new ih =>
    intro k off vs h
    simp only [List.zipIdx_cons, List.foldl_cons, List.length_cons] at h ⊢
    rw [ih (k + 1) off _ (by simp; omega)]
    have hlt : off + k < vs.toList.length := by simp; omega
    simp only [Array.toList_setIfInBounds]
    have h1 : (vs.toList.set (off + k) v).take (off + (k + 1)) = vs.toList.take (off + k) ++ [v] := by
      rw [← Nat.add_assoc, List.take_succ_eq_append_getElem (by simpa using hlt), List.take_set]
      congr 1
      · apply List.set_eq_of_length_le
        simp [List.length_take]; omega
      · simp
    have h2 : (vs.toList.set (off + k) v).drop (off + (k + 1) + new.length) = vs.toList.drop (off + k + (new.length + 1)) := by
      rw [List.drop_set_of_lt (by omega)]
      congr 1
      omega
    rw [h1, h2]
    simp

section
variable {P : Program} {F : Imm} {ρ : Maps}

theorem All2.setCells {R : AV → Value → Prop} {cs new : List AV} {vs nv : List Value} (h : All2 R cs vs) (h' : All2 R new nv) (off : Nat) :
    All2 R (setCells cs off new) (vs.take off ++ nv ++ vs.drop (off + new.length)) := by
  unfold Abs.setCells
  exact ((h.take off).append h').append (h.drop _)

theorem frep_notTuple {x : AV} (h : notTuple x = true) : ∀ vs, x ≠ .tuple vs := by
  rintro vs rfl
  simp [notTuple] at h

theorem run_fill {t : TypeId} (place : Nat → Option (Nat × Nat)) (hp : ∀ i y, placeA P t i = some y → place i = some y) :
    ∀ (parts : List (Nat × AV)) (pv : List (Nat × Value)) (cs r : List AV) (vs : Array Value), fillA P t cs parts = some r → All2 (FCell F ρ) cs vs.toList →
      (∀ c ∈ cs, c.isOne = true) → All2 (fun (x : Nat × AV) (y : Nat × Value) => x.1 = y.1 ∧ FRep F ρ x.2 y.2) parts pv →
      ∃ ws : Array Value, Instr.fill place vs pv = some ws ∧ All2 (FCell F ρ) r ws.toList ∧ ∀ c ∈ r, c.isOne = true := by
  intro parts
  induction parts with
  | nil =>
    intro pv cs r vs h hcs hone hall
    cases hall
    simp [fillA] at h
    subst h
    exact ⟨vs, rfl, hcs, hone⟩
  | cons p parts ih =>
    intro pv cs r vs h hcs hone hall
    obtain ⟨i, x⟩ := p
    cases hall with
    | cons h1 hrest =>
      rename_i q pv
      obtain ⟨j, v⟩ := q
      obtain ⟨hij, hx⟩ := h1
      simp only at hij hx
      subst hij
      simp only [fillA] at h
      split at h
      · rename_i off size hpl
        split at h
        · rename_i hc
          obtain ⟨hc1, hc2, hc3⟩ := hc
          have hcells := hx.cells (frep_notTuple hc3)
          have hlen := hcells.length
          have hsz : vs.size = cs.length := by simpa using hcs.length.symm
          have hvl : v.cells.toList.length = v.cells.size := by simp
          have hfold := foldl_set v.cells.toList 0 off vs (by simp only [Nat.add_zero]; omega)
          have hset := hcs.setCells hcells off
          rw [hlen] at hset
          simp only [Nat.add_zero] at hfold
          rw [← hfold] at hset
          obtain ⟨ws, hw1, hw2, hw3⟩ := ih pv _ _ _ h hset (by
            intro c hcm
            simp only [Abs.setCells, List.mem_append] at hcm
            rcases hcm with (hm | hm) | hm
            · exact hone c (List.mem_of_mem_take hm)
            · exact hx.ones (frep_notTuple hc3) c hm
            · exact hone c (List.mem_of_mem_drop hm)) hrest
          refine ⟨ws, ?_, hw2, hw3⟩
          unfold Instr.fill
          rw [hp _ _ hpl]
          have hcond : (v.cells.size ≠ size || decide (off + v.cells.size > vs.size)) = false := by
            simp only [Bool.or_eq_false_iff, decide_eq_false_iff_not, ne_eq, Decidable.not_not]
            constructor <;> omega
          show (if (decide (v.cells.size ≠ size) || decide (off + v.cells.size > vs.size)) = true then none else Instr.fill place (v.cells.zipIdx.foldl (fun cs (x : Value × Nat) => cs.setIfInBounds (off + x.2) x.1) vs) pv) = some ws
          rw [if_neg (by rw [hcond]; simp), ← Array.foldl_toList, Array.toList_zipIdx]
          exact hw1
        · cases h
      · cases h

theorem run_mapM_places (w : World) : ∀ (fs : List Field) (ps : List (Nat × Nat)), (fs.mapM fun f => (P.info? f.type).map fun i => (f.offset, i.size)) = some ps →
    (fs.mapM fun f => (do pure (f.offset, ← sizeOf f.type) : Sem (Nat × Nat))).run P w = .ok ps w := by
  intro fs
  induction fs with
  | nil => intro ps h; simp at h; subst h; rfl
  | cons f fs ih =>
    intro ps h
    simp only [List.mapM_cons, Option.bind_eq_bind, Option.bind_eq_some_iff] at h
    obtain ⟨p, hp, ps', hps, h⟩ := h
    cases hi : P.info? f.type with
    | none => rw [hi] at hp; cases hp
    | some i =>
      rw [hi] at hp
      simp at hp h
      subst hp; subst h
      simp only [List.mapM_cons, Sem.run_bind, sizeOf, typeInfo, program, Sem.run, hi, Result.andThen_ok, Sem.run_pure]
      have := ih ps' hps
      simp only [Sem.run_bind, sizeOf, typeInfo, program] at this
      rw [this]
      rfl

theorem run_map {α β : Type} (w : World) (f : α → β) (x : Sem α) : (Functor.map f x).run P w = (x.run P w).andThen fun a w' => .ok (f a) w' := by
  show (x >>= fun a => pure (f a)).run P w = _
  rw [Sem.run_bind]
  rfl

theorem run_build (w : World) {t : TypeId} {parts : List (Nat × AV)} {r : AV} {pv : List (Nat × Value)} (h : buildA P t parts = some r)
    (hall : All2 (fun (x : Nat × AV) (y : Nat × Value) => x.1 = y.1 ∧ FRep F ρ x.2 y.2) parts pv) : ∃ v, (Instr.build t pv.toArray).run P w = .ok v w ∧ FRep F ρ r v := by
  have h : ∃ z : Array Value, zeroOf P t = some (.agg z) ∧ (z.all (·.oneCell') = true ∧ ((placesOf P t).isSome ∨ ((arrOf P t).bind fun p => P.info? p.2).isSome)) ∧ (fillA P t (z.toList.map ofCell) parts).map .agg = some r := by
    unfold buildA zaggA at h
    split at h
    · rename_i z0 hz0
      split at hz0
      · rename_i z hz
        split at hz0
        · rename_i hc
          injection hz0 with hz0
          subst hz0
          exact ⟨z, hz, hc, h⟩
        · cases hz0
      · cases hz0
    · cases h
  obtain ⟨z, hz, hc, h⟩ := h
  · -- the literal
    · obtain ⟨hone, hkind⟩ := hc
      cases hf : fillA P t (z.toList.map ofCell) parts with
      | none => rw [hf] at h; cases h
      | some cs =>
        rw [hf] at h
        cases h
        have hz' : (zeroValue t).run P w = .ok (.agg z) w := by
          unfold zeroOf at hz
          cases hi : P.info? t with
          | none => rw [hi] at hz; cases hz
          | some i =>
            rw [hi] at hz
            simp at hz
            simp [zeroValue, typeInfo, hi, hz]
        have hone' : ∀ v ∈ z.toList, v.oneCell' = true := fun v hv => Array.all_eq_true_iff_forall_mem.1 hone v (Array.mem_toList_iff.1 hv)
        have hzc : All2 (FCell F ρ) (z.toList.map ofCell) z.toList := (prepL_ofCells F ρ.G ρ.n _ hone').all2.mono fun _ _ _ h => .p h
        have hzo : ∀ c ∈ z.toList.map ofCell, c.isOne = true := by
          intro c hc
          obtain ⟨a, _, rfl⟩ := List.mem_map.1 hc
          exact ofCell_one a
        cases hps : placesOf P t with
        | some ps =>
          have hst : ∃ fs, P.underlying t = some (.struct fs) ∧ (fs.toList.mapM fun f => (P.info? f.type).map fun i => (f.offset, i.size)) = some ps := by
            unfold placesOf at hps
            split at hps
            · exact ⟨_, by assumption, hps⟩
            · cases hps
          obtain ⟨fs, hu, hm⟩ := hst
          obtain ⟨ws, hw1, hw2, hw3⟩ := run_fill (P := P) (F := F) (ρ := ρ) (t := t) (ps.toArray[·]?) (by
            intro i y hy
            unfold placeA at hy
            rw [hps] at hy
            simpa using hy) parts pv _ _ z hf hzc hzo hall
          refine ⟨.agg ws, ?_, by simpa using FRep.agg (vs := ws.toList) hw2 hw3⟩
          unfold Instr.build
          simp only [Sem.run_bind, hz', Result.andThen_ok, run_underlying hu]
          have hmm := run_mapM_places (P := P) w fs.toList ps hm
          rw [← Array.toArray_toList (xs := fs), List.mapM_toArray, run_map, hmm]
          simp only [Sem.run_pure, Result.andThen_ok, Value.cells, hw1]
        | none =>
          cases har : arrOf P t with
          | none => simp [hps, har] at hkind
          | some ne =>
            obtain ⟨n, e⟩ := ne
            have hu : P.underlying t = some (.array n e) := by
              unfold arrOf at har
              split at har
              · rename_i hu; cases har; exact hu
              · cases har
            cases hi : P.info? e with
            | none => simp [hps, har, hi] at hkind
            | some ie =>
              obtain ⟨ws, hw1, hw2, hw3⟩ := run_fill (P := P) (F := F) (ρ := ρ) (t := t) (fun i => some (i * ie.size, ie.size)) (by
                intro i y hy
                unfold placeA at hy
                rw [hps] at hy
                simp [har, hi] at hy
                simp [hy]) parts pv _ _ z hf hzc hzo hall
              refine ⟨.agg ws, ?_, by simpa using FRep.agg (vs := ws.toList) hw2 hw3⟩
              unfold Instr.build
              simp only [Sem.run_bind, hz', Result.andThen_ok, run_underlying hu, sizeOf, typeInfo, program, Sem.run, hi, Sem.run_pure, Value.cells, hw1]

end
end Go.Abs

/-
  The abstract layer, part E: all operations that only compute.
-/
namespace Go.Abs
open Go

/-- Structs of numbers, texts and truth values are compared field by field. -/
def eqFlat (P : Program) : List Field → List AV → List AV → Option Bool
  | [], _, _ => some true
  | f :: fs, xs, ys =>
    if f.name = "_" then eqFlat P fs xs ys else
    match P.underlying f.type, readAt P f.type xs f.offset, readAt P f.type ys f.offset with
    | some (.int _), some (.sc (.int k a)), some (.sc (.int k' b)) => if k = k' then (eqFlat P fs xs ys).map fun r => (a == b) && r else none
    | some .string, some (.sc (.string a)), some (.sc (.string b)) => (eqFlat P fs xs ys).map fun r => (a.toList == b.toList) && r
    | some .bool, some (.sc (.bool a)), some (.sc (.bool b)) => (eqFlat P fs xs ys).map fun r => (a == b) && r
    | _, _, _ => none

def eqOk (P : Program) (t : TypeId) : Bool := !P.eqGuardType P.depth t && !P.stoodInHeld t

def eqAgg (P : Program) (t : TypeId) (xs ys : List AV) : Option Bool :=
  match P.underlying t with
  | some (.struct fs) => if eqOk P t = true then eqFlat P fs.toList xs ys else none
  | _ => none

def binA (P : Program) (op : BinOp) (t : TypeId) (x y : AV) : Option AV :=
  match op, x, y with
  | .eql, .agg xs, .agg ys => (eqAgg P t xs ys).map fun b => .sc (.bool b)
  | .neq, .agg xs, .agg ys => (eqAgg P t xs ys).map fun b => .sc (.bool (!b))
  | op, x, y => binA0 P op t x y

/-- A comparison with the literal nil of an interface; every other operation of two values. -/
def binC (P : Program) (op : BinOp) (t : TypeId) : Operand → AV → AV → Option AV
  | .const .nilIface, .sc .nilIface, _ => match op, P.underlying t with
    | .eql, some (.interface _) => some (.sc (.bool true))
    | .neq, some (.interface _) => some (.sc (.bool false))
    | _, _ => none
  | _, u, v => binA P op t u v

/-- The bytes of a slice. -/
def bytesA : List AV → Option (List Int)
  | [] => some []
  | .sc (.int .u8 n) :: l => (bytesA l).map (n :: ·)
  | _ :: _ => none

def convB (P : Program) (s d : TypeId) (l : List AV) : Option AV :=
  match P.underlying s, P.underlying d with
  | some (.slice e), some .string => match P.underlying e, bytesA l with
    | some (.int .u8), some ns => some (.sc (.string (strOfNums ns)))
    | _, _ => none
  | _, _ => none

def convA0 (P : Program) (s d : TypeId) (x : AV) : Option AV :=
  match P.underlying s, P.underlying d, x with
  | some _, some (.int k), .sc (.int _ n) => some (.sc (.int k (k.wrap n)))
  | some _, some .string, .sc (.string b) => some (.sc (.string b))
  | _, _, _ => none

def convA (P : Program) (s d : TypeId) (x : AV) : Option AV :=
  match x with
  | .slice _ l => convB P s d l
  | x => convA0 P s d x

def lenA (P : Program) (t : TypeId) (x : AV) : Option AV :=
  match P.underlying t, x with
  | some (.slice _), .slice _ l => some (.sc (.int .i64 l.length))
  | some (.slice _), .lsl _ _ len _ => some (.sc (.int .i64 len))
  | some (.slice _), .nul => some (.sc (.int .i64 0))
  | some (.slice _), .gsl _ _ len _ => some (.sc (.int .i64 len))
  | some .string, .sc (.string s) => some (.sc (.int .i64 s.size))
  | some (.array n _), _ => some (.sc (.int .i64 n))
  | _, _ => none

def max2A : AV → AV → Option AV
  | .sc (.int k a), .sc (.int _ b) => some (.sc (.int k (if b > a then b else a)))
  | _, _ => none
def min2A : AV → AV → Option AV
  | .sc (.int k a), .sc (.int _ b) => some (.sc (.int k (if b < a then b else a)))
  | _, _ => none

def foldA (f : AV → AV → Option AV) : AV → List AV → Option AV
  | x, [] => some x
  | x, y :: l => (f x y).bind fun z => foldA f z l

def callA (P : Program) (T : Tabs) (fr : Fr) (c : Call) : Option AV :=
  match c.callee with
  | .builtin .len => match c.argTypes[0]?, c.args[0]? with
    | some t, some x => lenA P t (ev T fr x)
    | _, _ => none
  | .builtin .max => match c.args.toList with
    | x :: l => foldA max2A (ev T fr x) (l.map (ev T fr))
    | [] => none
  | .builtin .min => match c.args.toList with
    | x :: l => foldA min2A (ev T fr x) (l.map (ev T fr))
    | [] => none
  | _ => none

/-- 'x, ok := e.(T)' of a concrete type. -/
def assertA (P : Program) (t : TypeId) (x : AV) : Option AV :=
  match x with
  | .iface t' v => match P.underlying t with
    | some (.interface _) => none
    | some _ => if t' = t then some (.tuple [v, .sc (.bool true)]) else match zeroOf P t with
      | some z => if okConst z = true then some (.tuple [ofValue z, .sc (.bool false)]) else none
      | none => none
    | none => none
  | _ => none

def aval (P : Program) (T : Tabs) (fr : Fr) (o : Oper) : Option AV :=
  match o.op with
  | .typeAssert x _ t true => assertA P t (ev T fr x)
  | .move x => some (ev T fr x)
  | .assign x => some (ev T fr x)
  | .pick c a b => match ev T fr c with
    | .sc (.bool t) => some (if t then ev T fr a else ev T fr b)
    | _ => none
  | .build t ps => buildA P t (ps.toList.map fun p => (p.1, ev T fr p.2))
  | .binOp op t x y _ => binC P op t y (ev T fr x) (ev T fr y)
  | .unOp op _ x => unA op (ev T fr x)
  | .convert s d x => convA P s d (ev T fr x)
  | .makeFunc fn f c => some (.func fn (f.toList.map fun x => (ev T fr x).norm) (c.toList.map fun x => (ev T fr x).norm))
  | .fieldAddr t x i => fieldAddrA P t (ev T fr x) i
  | .field t x i => fieldA P t (ev T fr x) i
  | .indexAddr t x i => indexAddrA P t (ev T fr x) (ev T fr i)
  | .index t x i => indexA P t (ev T fr x) (ev T fr i)
  | .slice t x lo hi mx => sliceA P t (ev T fr x) (lo.map (ev T fr)) (hi.map (ev T fr)) (mx.map (ev T fr))
  | .extract x i => match ev T fr x with
    | .tuple vs => vs[i]?
    | _ => none
  | .nilCheck x => match ev T fr x with
    | .func (.func f) a b => some (.func (.func f) a b)
    | x => if isPtr x then some x else none
  | .makeInterface t x => if P.concrete t then some (.iface t (ev T fr x).norm) else none
  | .call c => callA P T fr c
  | _ => none

section
variable {P : Program} {T : Tabs} {F : Imm} {ρ : Maps} {fr : Fr} {a : Act}

theorem run_assertA (w : World) {t xt : TypeId} {x r : AV} {u : Value} (h : assertA P t x = some r) (hx : FRep F ρ x u) : ∃ v, (Instr.typeAssert u xt t true).run P w = .ok v w ∧ FRep F ρ r v := by
  unfold assertA at h
  split at h
  · rename_i t' v
    obtain ⟨u', rfl, hv⟩ : ∃ u', u = .iface t' u' ∧ PRep F ρ.G ρ.n v u' := by
      cases hx with
      | cell h => cases h with
        | p h => cases h with | iface h => exact ⟨_, rfl, h⟩
    split at h
    · cases h
    · rename_i ty hni hu
      have e0 : (Instr.typeAssert (.iface t' u') xt t true).run P w = (if t' = t then (pure (.tuple #[u', .bool true]) : Sem Value) else do pure (.tuple #[← zeroValue t, .bool false])).run P w := by
        unfold Instr.typeAssert
        simp only [Sem.run_bind, run_underlying hu, Result.andThen_ok]
        cases ty <;> first | rfl | exact absurd rfl (hni _)
      split at h
      · rename_i e
        subst e
        cases h
        refine ⟨_, by rw [e0, if_pos rfl]; rfl, .p ?_⟩
        exact .tuple (vs := [u', .bool true]) (.cons hv (.cons (.sc rfl) .nil))
      · rename_i hne
        split at h
        · rename_i z hz
          split at h
          · rename_i hc
            cases h
            refine ⟨.tuple #[z, .bool false], ?_, .p ?_⟩
            · rw [e0, if_neg hne]
              have hz' : (zeroValue t).run P w = .ok z w := by
                unfold zeroOf at hz
                cases hi : P.info? t with
                | none => rw [hi] at hz; cases hz
                | some i =>
                  rw [hi] at hz
                  have hz : i.zero = some z := hz
                  simp [zeroValue, typeInfo, hi, hz]
              simp only [Sem.run_bind, hz', Result.andThen_ok]
              rfl
            · exact .tuple (vs := [z, .bool false]) (.cons (prep_ofValue _ _ _ z hc) (.cons (.sc rfl) .nil))
          · cases h
        · cases h
    · cases h
  · cases h

theorem ev_all2 (he : EnvRep F ρ fr a) (ht : TabsRep T F ρ) : ∀ (xs : List Operand), (∀ x ∈ xs, okOperand x = true) → All2 (FRep F ρ) (xs.map (ev T fr)) (xs.map a.eval)
  | [], _ => .nil
  | x :: xs, h => .cons (ev_rep he ht x (h x (by simp))) (ev_all2 he ht xs fun y hy => h y (by simp [hy]))

theorem ev_norms (he : EnvRep F ρ fr a) (ht : TabsRep T F ρ) (xs : List Operand) (h : ∀ x ∈ xs, okOperand x = true) :
    PRepL F ρ.G ρ.n (xs.map fun x => (ev T fr x).norm) (xs.map a.eval) := by
  have := (ev_all2 he ht xs h).map_left AV.norm fun _ _ _ h => FRep.norm h
  rw [List.map_map] at this
  exact .of_all2 this

theorem ev_parts (he : EnvRep F ρ fr a) (ht : TabsRep T F ρ) : ∀ (ps : List (Nat × Operand)), (∀ p ∈ ps, okOperand p.2 = true) →
    All2 (fun (x : Nat × AV) (y : Nat × Value) => x.1 = y.1 ∧ FRep F ρ x.2 y.2) (ps.map fun p => (p.1, ev T fr p.2)) (ps.map fun p => (p.1, a.eval p.2))
  | [], _ => .nil
  | p :: ps, h => .cons ⟨rfl, ev_rep he ht p.2 (h p (by simp))⟩ (ev_parts he ht ps fun q hq => h q (by simp [hq]))

theorem ev_opt (he : EnvRep F ρ fr a) (ht : TabsRep T F ρ) (x : Option Operand) (h : ∀ y, x = some y → okOperand y = true) : OptRep F ρ (x.map (ev T fr)) (x.map a.eval) := by
  cases x with
  | none => trivial
  | some y => exact ev_rep he ht y (h y rfl)

theorem frep_nul {v : Value} (h : FRep F ρ .nul v) : ∃ base, v = .slice base 0 0 := by
  cases h with
  | cell h => cases h with
    | p h => cases h with | nul => exact ⟨_, rfl⟩

theorem run_lenA (w : World) {t ty : TypeId} {x r : AV} {u : Value} (h : lenA P t x = some r) (hx : FRep F ρ x u) {ts : Array TypeId} {us : Array Value} (h1 : ts[0]? = some t) (h2 : us[0]? = some u) :
    ∃ v, (Builtin.len_ ts ty us).run P w = .ok v w ∧ FRep F ρ r v := by
  unfold lenA at h
  unfold Builtin.len_
  simp only [h1, h2]
  split at h
  · rename_i e tag l hu
    cases h
    obtain ⟨base, cap, b, o, sz, vs, rfl, hs, _, _⟩ := frep_slice hx
    exact ⟨_, by simp only [Sem.run_bind, run_underlying hu, Result.andThen_ok]; rfl, .p (.sc rfl)⟩
  · rename_i e b g len cap hu
    cases h
    obtain ⟨rfl, _, _, _⟩ := frep_lsl hx
    exact ⟨_, by simp only [Sem.run_bind, run_underlying hu, Result.andThen_ok]; rfl, .p (.sc rfl)⟩
  · rename_i e hu
    cases h
    obtain ⟨base, rfl⟩ := frep_nul hx
    exact ⟨_, by simp only [Sem.run_bind, run_underlying hu, Result.andThen_ok]; rfl, .p (.sc rfl)⟩
  · rename_i e b len cap hu
    cases h
    obtain ⟨rfl, _, _, _⟩ := frep_gsl hx
    exact ⟨_, by simp only [Sem.run_bind, run_underlying hu, Result.andThen_ok]; rfl, .p (.sc rfl)⟩
  · rename_i s hu
    cases h
    cases frep_sc hx
    exact ⟨_, by simp only [Sem.run_bind, run_underlying hu, Result.andThen_ok]; rfl, .p (.sc rfl)⟩
  · rename_i n e hu
    cases h
    exact ⟨_, by simp only [Sem.run_bind, run_underlying hu, Result.andThen_ok]; rfl, .p (.sc rfl)⟩
  · cases h

theorem run_foldA (w : World) {f : AV → AV → Option AV} {g : Value → Value → Sem Value} (hf : ∀ x y r u v, f x y = some r → FRep F ρ x u → FRep F ρ y v → ∃ z, (g u v).run P w = .ok z w ∧ FRep F ρ r z) :
    ∀ (l : List AV) (x r : AV) (u : Value) (us : List Value), foldA f x l = some r → FRep F ρ x u → All2 (FRep F ρ) l us → ∃ z, (us.foldlM g u).run P w = .ok z w ∧ FRep F ρ r z := by
  intro l
  induction l with
  | nil =>
    intro x r u us h hx hl
    cases hl
    cases h
    exact ⟨u, rfl, hx⟩
  | cons y l ih =>
    intro x r u us h hx hl
    cases hl with
    | cons h1 h2 =>
      simp only [foldA, Option.bind_eq_some_iff] at h
      obtain ⟨z, hz, h⟩ := h
      obtain ⟨zv, hzv, hzr⟩ := hf _ _ _ _ _ hz hx h1
      obtain ⟨rv, hrv, hrr⟩ := ih _ _ _ _ h hzr h2
      exact ⟨rv, by simp only [List.foldlM_cons, Sem.run_bind, hzv, Result.andThen_ok, hrv], hrr⟩

theorem run_max2 (w : World) (x y r : AV) (u v : Value) (h : max2A x y = some r) (hx : FRep F ρ x u) (hy : FRep F ρ y v) : ∃ z, (Builtin.max2 u v).run P w = .ok z w ∧ FRep F ρ r z := by
  unfold max2A at h
  split at h
  · cases frep_sc hx; cases frep_sc hy; cases h
    exact ⟨_, rfl, .p (.sc rfl)⟩
  · cases h

theorem run_min2 (w : World) (x y r : AV) (u v : Value) (h : min2A x y = some r) (hx : FRep F ρ x u) (hy : FRep F ρ y v) : ∃ z, (Builtin.min2 u v).run P w = .ok z w ∧ FRep F ρ r z := by
  unfold min2A at h
  split at h
  · cases frep_sc hx; cases frep_sc hy; cases h
    exact ⟨_, rfl, .p (.sc rfl)⟩
  · cases h

theorem run_eqFlat (w : World) {xs ys : List AV} {us vs : List Value} (h1 : All2 (FCell F ρ) xs us) (o1 : ∀ c ∈ xs, c.isOne = true) (h2 : All2 (FCell F ρ) ys vs) (o2 : ∀ c ∈ ys, c.isOne = true) :
    ∀ (fs : List Field) (b : Bool), eqFlat P fs xs ys = some b → (Op.eqFields 9999 us.toArray vs.toArray fs).run P w = .ok b w := by
  intro fs
  induction fs with
  | nil => intro b h; simp [eqFlat] at h; subst h; rfl
  | cons f fs ih =>
    intro b h
    unfold eqFlat at h
    unfold Op.eqFields
    split at h
    · rename_i hn
      rw [if_neg (by simpa using hn)]
      exact ih b h
    · rename_i hn
      rw [if_pos (by simpa using hn)]
      have step : ∀ {x y : Value} {r : Bool}, readAt P f.type xs f.offset = some (.sc x) → readAt P f.type ys f.offset = some (.sc y) → (Op.equalIn 9999 f.type x y).run P w = .ok r w → (eqFlat P fs xs ys).map (fun q => r && q) = some b →
          (do
            let a ← part f.type us.toArray f.offset
            let b ← part f.type vs.toArray f.offset
            let r ← Op.equalIn 9999 f.type a b
            if (!r) = true then pure false else Op.eqFields 9999 us.toArray vs.toArray fs : Sem Bool).run P w = .ok b w := by
        intro x y r hx hy hr hb
        obtain ⟨x', p1, p2⟩ := run_part (P := P) w h1 o1 hx
        obtain ⟨y', p3, p4⟩ := run_part (P := P) w h2 o2 hy
        obtain rfl := frep_sc p2
        obtain rfl := frep_sc p4
        simp only [Sem.run_bind, p1, p3, hr, Result.andThen_ok]
        cases hq : eqFlat P fs xs ys with
        | none => rw [hq] at hb; cases hb
        | some q =>
          rw [hq] at hb
          simp only [Option.map_some, Option.some.injEq] at hb
          cases r
          · simp at hb; subst hb; rfl
          · simp at hb; subst hb
            simpa using ih q hq
      split at h
      · rename_i k k1 a k2 b' hu hx hy
        split at h
        · rename_i hk
          subst hk
          exact step hx hy (run_equalIn_int w 9998 f.type k1 k a b' hu) h
        · cases h
      · rename_i a b' hu hx hy
        exact step hx hy (run_equalIn_string w 9998 f.type a b' hu) h
      · rename_i a b' hu hx hy
        exact step hx hy (run_equalIn_bool' w 9998 f.type a b' hu) h
      · cases h

theorem run_eqI (P : Program) (w : World) {t : TypeId} {ms : Array (String × TypeId)} (hu : P.underlying t = some (.interface ms)) :
    (binOp .eql t .nilIface .nilIface).run P w = .ok (.bool true) w ∧ (binOp .neq t .nilIface .nilIface).run P w = .ok (.bool false) w := by
  have h : ∀ d, (Op.equalIn (d + 1) t .nilIface .nilIface).run P w = .ok true w := fun d => by simp [Op.equalIn, run_underlying hu]
  have e1 : binOp .eql t .nilIface .nilIface = (do pure (.bool (← Op.equalIn (9999 + 1) t .nilIface .nilIface))) := rfl
  have e2 : binOp .neq t .nilIface .nilIface = (do pure (.bool (!(← Op.equalIn (9999 + 1) t .nilIface .nilIface)))) := rfl
  rw [e1, e2, Sem.run_bind, Sem.run_bind, h 9999]
  exact ⟨rfl, rfl⟩

theorem run_binA (w : World) {op : BinOp} {t : TypeId} {x y r : AV} {u v : Value} (h : binA P op t x y = some r) (hx : FRep F ρ x u) (hy : FRep F ρ y v) :
    ∃ z, (binOp op t u v).run P w = .ok z w ∧ r = .sc z ∧ isSc z = true ∧ ∀ a b, (eqGuard op t a b u v).run P w = .ok () w := by
  have agg : ∀ {xs ys : List AV} {b : Bool}, eqAgg P t xs ys = some b → FRep F ρ (.agg xs) u → FRep F ρ (.agg ys) v →
      ∃ us vs : List Value, u = .agg us.toArray ∧ v = .agg vs.toArray ∧ (Op.equalIn (9999 + 1) t u v).run P w = .ok b w ∧ P.eqGuardType P.depth t = false := by
    intro xs ys b hb hx hy
    obtain ⟨us, rfl, u1, u2⟩ := frep_agg hx
    obtain ⟨vs, rfl, v1, v2⟩ := frep_agg hy
    unfold eqAgg at hb
    split at hb
    · rename_i fs hu
      split at hb
      · rename_i hok
        simp only [eqOk, Bool.and_eq_true, Bool.not_eq_true'] at hok
        have hf : P.fieldsOf t = fs := by simp [Program.fieldsOf, hu]
        refine ⟨us, vs, rfl, rfl, ?_, hok.1⟩
        rw [run_equalIn_struct w 9999 t us.toArray vs.toArray (by rw [hf]; exact hu) hok.2, hf]
        exact run_eqFlat w u1 u2 v1 v2 _ _ hb
      · cases hb
    · cases hb
  unfold binA at h
  split at h
  · cases hb : eqAgg P t _ _ with
    | none => rw [hb] at h; cases h
    | some b =>
      rw [hb] at h
      cases h
      obtain ⟨us, vs, rfl, rfl, h1, h2⟩ := agg hb hx hy
      refine ⟨.bool b, ?_, rfl, rfl, fun a b => ?_⟩
      · have e1 : binOp .eql t (.agg us.toArray) (.agg vs.toArray) = (do pure (.bool (← Op.equalIn (9999 + 1) t (.agg us.toArray) (.agg vs.toArray)))) := rfl
        rw [e1, Sem.run_bind, h1]
        rfl
      · simp [eqGuard, h2, Result.andThen]
  · cases hb : eqAgg P t _ _ with
    | none => rw [hb] at h; cases h
    | some b =>
      rw [hb] at h
      cases h
      obtain ⟨us, vs, rfl, rfl, h1, h2⟩ := agg hb hx hy
      refine ⟨.bool !b, ?_, rfl, rfl, fun a b => ?_⟩
      · have e1 : binOp .neq t (.agg us.toArray) (.agg vs.toArray) = (do pure (.bool (!(← Op.equalIn (9999 + 1) t (.agg us.toArray) (.agg vs.toArray))))) := rfl
        rw [e1, Sem.run_bind, h1]
        rfl
      · simp [eqGuard, h2, Result.andThen]
  · obtain ⟨z, h1, h2, h3, h4⟩ := run_binA0 P w h hx hy
    exact ⟨z, h1, h2, h3, fun a b => run_eqGuard P w op t a b h4⟩

theorem prepL_bytes {G : Nat → Nat} {n : Nat} : ∀ {ns : List Int} {vs : List Value}, PRepL F G n (ns.map (fun n => AV.sc (.int .u8 n))) vs → vs = ns.map (Value.int .u8)
  | [], _, .nil => rfl
  | n :: ns, _, .cons h1 h2 => by
    cases h1
    rw [prepL_bytes h2]
    rfl

theorem bytesA_cells : ∀ {l : List AV} {ns : List Int}, bytesA l = some ns → l.flatMap AV.cells = ns.map (fun n => AV.sc (.int .u8 n)) ∧ l.length = ns.length
  | [], ns, h => by simp [bytesA] at h; subst h; exact ⟨rfl, rfl⟩
  | x :: l, ns, h => by
    unfold bytesA at h
    split at h
    · rename_i e; cases e
    · rename_i n l' e
      injection e with e1 e2
      subst e1; subst e2
      simp only [Option.map_eq_some_iff] at h
      obtain ⟨ms, h1, rfl⟩ := h
      obtain ⟨i1, i2⟩ := bytesA_cells h1
      exact ⟨by simp [AV.cells, i1], by simp [i2]⟩
    · cases h

theorem frep_not_nil_ptr {x : AV} {v : Value} (hx : isPtr x = true) (h : FRep F ρ x v) : ∃ b, v = .pointer (some b) := isPtr_rep hx h

/-- **An operation that only computes does so in the model, too.** -/
theorem aval_sound (w : World) (himm : ∀ b o v, F b o = some v → w.cell? ⟨b, o, none⟩ = some v) (he : EnvRep F ρ fr a) (ht : TabsRep T F ρ) {o : Oper} {r : AV} (hok : o.op.operands.all okOperand = true) (h : aval P T fr o = some r) :
    ∃ v, (execOp a.eval o).run P w = .ok (.value v) w ∧ FRep F ρ r v := by
  obtain ⟨dst, op, type, pos, after, guard⟩ := o
  have hall : ∀ x ∈ op.operands, okOperand x = true := fun x hx => Array.all_eq_true_iff_forall_mem.1 hok x hx
  clear hok
  have lift : ∀ {s : Sem Value}, (∃ v, s.run P w = .ok v w ∧ FRep F ρ r v) → ∃ v, ((do pure (.value (← s))) : Sem Next).run P w = .ok (.value v) w ∧ FRep F ρ r v := by
    rintro s ⟨v, hv, hr⟩
    exact ⟨v, by rw [Sem.run_bind, hv]; rfl, hr⟩
  cases op <;> simp only [aval] at h <;> simp only [Op.operands] at hall <;> simp only [execOp]
  case move x => cases h; exact ⟨_, rfl, ev_rep he ht x (hall x (by simp))⟩
  case assign x => cases h; exact ⟨_, rfl, ev_rep he ht x (hall x (by simp))⟩
  case pick c x y =>
    split at h
    · rename_i t hc
      cases h
      have hcr := ev_rep he ht c (hall c (by simp))
      rw [hc] at hcr
      have hcv := frep_sc hcr
      refine ⟨if t then a.eval x else a.eval y, ?_, ?_⟩
      · rw [hcv]; rfl
      · cases t
        · exact ev_rep he ht y (hall y (by simp))
        · exact ev_rep he ht x (hall x (by simp))
    · cases h
  case build t ps =>
    refine lift ?_
    have hp := ev_parts he ht ps.toList fun p hp => hall p.2 (by simp; exact ⟨p.1, by simpa using hp⟩)
    have := run_build (P := P) w h hp
    have e : (ps.toList.map fun p => (p.1, a.eval p.2)).toArray = ps.map fun p => (p.1, a.eval p.2) := by rw [← Array.toList_map, Array.toArray_toList]
    rw [e] at this
    exact this
  case binOp op t x y t' =>
    obtain ⟨z, h1, h2, h3, h4⟩ : ∃ z, (binOp op t (a.eval x) (a.eval y)).run P w = .ok z w ∧ r = .sc z ∧ isSc z = true ∧ (eqGuard op t x y (a.eval x) (a.eval y)).run P w = .ok () w := by
      have hx := ev_rep he ht x (hall x (by simp))
      have hy := ev_rep he ht y (hall y (by simp))
      change binC P op t y (ev T fr x) (ev T fr y) = some r at h
      generalize ev T fr x = u at h hx
      generalize ev T fr y = v at h hy
      unfold binC at h
      split at h
      · have hx := frep_sc hx
        rw [hx]
        split at h
        · rename_i hu
          cases h
          exact ⟨.bool true, (run_eqI P w hu).1, rfl, rfl, by simp [eqGuard, Act.eval]⟩
        · rename_i hu
          cases h
          exact ⟨.bool false, (run_eqI P w hu).2, rfl, rfl, by simp [eqGuard, Act.eval]⟩
        · cases h
      · obtain ⟨z, h1, h2, h3, h4⟩ := run_binA (P := P) w h hx hy
        exact ⟨z, h1, h2, h3, h4 _ _⟩
    subst h2
    refine ⟨z, ?_, .p (.sc h3)⟩
    simp only [Sem.run_bind, h4, Result.andThen_ok, h1]
    rfl
  case unOp op t x =>
    refine lift ?_
    have hx := ev_rep he ht x (hall x (by simp))
    generalize a.eval x = u at hx ⊢
    unfold unA at h
    split at h
    · rename_i hc
      rw [hc] at hx
      cases frep_sc hx
      cases h
      exact ⟨_, by simp [Op.unary, Op.intArith], .p (.sc rfl)⟩
    · rename_i hc
      rw [hc] at hx
      cases frep_sc hx
      cases h
      exact ⟨_, by simp [Op.unary], .p (.sc rfl)⟩
    · cases h
  case convert s d x =>
    refine lift ?_
    have hx := ev_rep he ht x (hall x (by simp))
    generalize a.eval x = u at hx ⊢
    unfold convA at h
    split at h
    · rename_i tag l hc
      unfold convB at h
      split at h
      · rename_i e hs hd
        split at h
        · rename_i ns hu hb
          cases h
          rw [hc] at hx
          obtain ⟨hf, hlen⟩ := bytesA_cells hb
          obtain ⟨base, cap, b, o, sz, vs, rfl, hsl, _, _⟩ := frep_slice hx
          refine ⟨.string (strOfNums ns), ?_, .p (.sc rfl)⟩
          have hvs : vs = ns.map (Value.int .u8) := by
            have hp := hsl.cells
            rw [hf] at hp
            exact prepL_bytes hp
          by_cases hn : l = []
          · subst hn
            have hns : ns = [] := List.eq_nil_of_length_eq_zero (by simpa using hlen.symm)
            subst hns
            cases base with
            | none => exact run_convert_bytes_nil w s e hs hu 0 cap d hd
            | some ad =>
              obtain ⟨ab, ao, an⟩ := ad
              show (convert s d (.slice (some ⟨ab, ao, an⟩) 0 cap)).run P w = _
              rw [run_convert_bytes_string w s d e _ 0 cap hs hu hd, run_bytesToString w _ 0 cap [] (by simp [loadCells, loadCellsFrom])]
              rfl
          · rw [hsl.base hn]
            refine run_convert_bytes_arg w s e hs hu b o l.length cap ns hlen.symm (fun i hi => ?_) d hd
            refine himm b (o + i) _ (hsl.has i _ ?_)
            rw [hvs, List.getElem?_map, List.getElem?_eq_getElem (by omega)]
            simp [List.getD, List.getElem?_eq_getElem (show i < ns.length by omega)]
        · cases h
      · cases h
    · unfold convA0 at h
      split at h
      · rename_i hs hd hc
        rw [hc] at hx
        cases frep_sc hx
        cases h
        refine ⟨_, ?_, .p (.sc rfl)⟩
        unfold convert
        simp only [Sem.run_bind, run_underlying hs, run_underlying hd, Result.andThen_ok]
        rfl
      · rename_i hs hd hc
        rw [hc] at hx
        cases frep_sc hx
        cases h
        refine ⟨_, ?_, .p (.sc rfl)⟩
        unfold convert
        simp only [Sem.run_bind, run_underlying hs, run_underlying hd, Result.andThen_ok]
        rfl
      · cases h
  case makeFunc fn f c =>
    cases h
    refine lift ⟨.func fn (f.map a.eval) (c.map a.eval), rfl, ?_⟩
    have h1 := ev_norms he ht f.toList fun x hx => hall x (by simp [Array.mem_toList_iff.1 hx])
    have h2 := ev_norms he ht c.toList fun x hx => hall x (by simp [Array.mem_toList_iff.1 hx])
    have := PRep.func (fn := fn) h1 h2
    have e : ∀ l : Array Operand, (l.toList.map a.eval).toArray = l.map a.eval := fun l => by rw [← Array.toList_map, Array.toArray_toList]
    rw [e, e] at this
    exact .p this
  case fieldAddr t x i => exact lift (run_fieldAddr w h (ev_rep he ht x (hall x (by simp))))
  case field t x i => exact lift (run_field w h (ev_rep he ht x (hall x (by simp))))
  case indexAddr t x i => exact lift (run_indexAddr w h (ev_rep he ht x (hall x (by simp))) (ev_rep he ht i (hall i (by simp))))
  case index t x i => exact lift (run_index w h (ev_rep he ht x (hall x (by simp))) (ev_rep he ht i (hall i (by simp))))
  case slice t x lo hi mx =>
    exact lift (run_slice w h (ev_rep he ht x (hall x (by simp))) (ev_opt he ht lo fun y hy => hall y (by simp [hy])) (ev_opt he ht hi fun y hy => hall y (by simp [hy]))
      (ev_opt he ht mx fun y hy => hall y (by simp [hy])))
  case extract x i =>
    refine lift ?_
    have hx := ev_rep he ht x (hall x (by simp))
    split at h
    · rename_i vs hc
      rw [hc] at hx
      obtain ⟨us, hu, hr⟩ := frep_tuple hx
      obtain ⟨v, hv, hp⟩ := hr.get h
      refine ⟨v, ?_, .p hp⟩
      rw [hu]
      simp [Instr.extract, hv]
    · cases h
  case nilCheck x =>
    have hx := ev_rep he ht x (hall x (by simp))
    split at h
    · rename_i f b c hc
      cases h
      rw [hc] at hx
      obtain ⟨vf, vc, hv, _, _⟩ := frep_func hx
      refine ⟨a.eval x, ?_, hx⟩
      rw [hv]
      rfl
    · rename_i hc
      split at h
      · rename_i hp
        cases h
        obtain ⟨b, hb⟩ := isPtr_rep hp hx
        refine ⟨a.eval x, ?_, hx⟩
        rw [hb]
        rfl
      · cases h
  case makeInterface t x =>
    refine lift ?_
    split at h
    · rename_i hc
      cases h
      exact ⟨_, run_makeInterface w t _ hc, .p (.iface (ev_rep he ht x (hall x (by simp))).norm)⟩
    · cases h
  case typeAssert x xt t ok =>
    cases ok with
    | true => exact lift (run_assertA w h (ev_rep he ht x (hall x (by simp))))
    | false => cases h
  case call c =>
    obtain ⟨callee, args, argTypes⟩ := c
    have hargs : ∀ x ∈ args.toList, okOperand x = true := fun x hx => hall x (by simp [Call.operands, Array.mem_toList_iff.1 hx])
    simp only [callA] at h
    split at h
    · split at h
      · rename_i t x h1 h2
        simp only [resolve, invoke, builtin, Sem.run_bind, Sem.run_pure, Result.andThen_ok]
        have hx : x ∈ args := Array.mem_of_getElem? h2
        obtain ⟨v, hv, hr⟩ := run_lenA (P := P) (ty := type) w h (ev_rep he ht x (hargs x (Array.mem_toList_iff.2 hx))) h1 (us := args.map a.eval) (by simp [h2])
        exact ⟨v, by rw [hv]; rfl, hr⟩
      · cases h
    · split at h
      · rename_i x l h1
        simp only [resolve, invoke, builtin, Sem.run_bind, Sem.run_pure, Result.andThen_ok]
        obtain ⟨v, hv, hr⟩ := run_foldA w (run_max2 (P := P) w) _ _ _ _ _ h (ev_rep he ht x (hargs x (by simp [h1]))) (ev_all2 he ht l fun y hy => hargs y (by simp [h1, hy]))
        refine ⟨v, ?_, hr⟩
        have e : (args.map a.eval).toList = a.eval x :: l.map a.eval := by simp [h1]
        simp only [Builtin.max_, e, hv, Result.andThen_ok]
      · cases h
    · split at h
      · rename_i x l h1
        simp only [resolve, invoke, builtin, Sem.run_bind, Sem.run_pure, Result.andThen_ok]
        obtain ⟨v, hv, hr⟩ := run_foldA w (run_min2 (P := P) w) _ _ _ _ _ h (ev_rep he ht x (hargs x (by simp [h1]))) (ev_all2 he ht l fun y hy => hargs y (by simp [h1, hy]))
        refine ⟨v, ?_, hr⟩
        have e : (args.map a.eval).toList = a.eval x :: l.map a.eval := by simp [h1]
        simp only [Builtin.min_, e, hv, Result.andThen_ok]
      · cases h
    · cases h
  all_goals cases h

end
end Go.Abs

/-
  The abstract layer, part F: memory. What a frame of abstract values says of the model's memory; new variables, loads, stores.
-/
namespace Go.Abs
open Go

/-- No cell of a row is marked as one that a string shares. -/
def fzOk (fz : Nat × Nat) (n : Nat) : Prop := fz = (0, 0) ∨ n ≤ fz.1

/-- What an object that all frames share says of the model's: cells, the entries of a map (stamped as they came, none gone), or how far a loop over a map has come. -/
inductive ObjRep (F : Imm) (G : Nat → Nat) (n : Nat) : List AV → Obj → Prop
  | cells {cs vs ty fz} : fzOk fz vs.size → All2 (PRep F G n) cs vs.toList → (∀ c ∈ cs, c.isOne = true) → ObjRep F G n cs (.cells vs ty fz)
  | map {ks xs es clock} : es.toList.map (·.key) = ks → All2 (PRep F G n) xs (es.toList.map (·.val)) → es.toList.map (·.born) = List.range ks.length → clock = ks.length → ks.Nodup → ObjRep F G n [.mapc ks xs] (.map es clock)
  | iter {o since seen} : o < n → ObjRep F G n [.miter o since seen] (.mapIter (some (G o)) since seen.toArray since)
  /-- Nothing is said of it any more. -/
  | dead {ob} : ObjRep F G n [] ob

theorem ObjRep.grow {F F' : Imm} {G G' : Nat → Nat} {n n' : Nat} (hg : Grow F F' G G' n n') {cs ob} (h : ObjRep F G n cs ob) : ObjRep F' G' n' cs ob := by
  cases h with
  | cells h0 h1 h2 => exact .cells h0 (h1.mono fun _ _ _ h => h.grow hg) h2
  | map h1 h2 h3 h4 h5 => exact .map h1 (h2.mono fun _ _ _ h => h.grow hg) h3 h4 h5
  | iter h => rw [← hg.mG _ h]; exact .iter (Nat.lt_of_lt_of_le h hg.mn)
  | dead => exact .dead

/-- Objects of cells. -/
def okObj : List AV → Bool
  | [] => false
  | c :: _ => c.isOne

theorem ObjRep.isCells {F : Imm} {G : Nat → Nat} {n : Nat} {cs ob} (h : ObjRep F G n cs ob) (hc : okObj cs = true) : ∃ vs ty fz, ob = .cells vs ty fz ∧ fzOk fz vs.size ∧ All2 (PRep F G n) cs vs.toList ∧ ∀ c ∈ cs, c.isOne = true := by
  cases h with
  | cells h0 h1 h2 => exact ⟨_, _, _, rfl, h0, h1, h2⟩
  | map => simp [okObj, AV.isOne] at hc
  | iter => simp [okObj, AV.isOne] at hc
  | dead => simp [okObj] at hc

/-- Every cell of a row is one value. -/
def AllOne (vs : Array Value) : Prop := ∀ u ∈ vs.toList, u.oneCell' = true

/-- What the memory that all frames share says of the model's memory. -/
structure GW (T : Tabs) (G : Nat → Nat) (F : Imm) (H : Heap) (w : World) : Prop where
  imm : ∀ b o v, F b o = some v → w.cell? ⟨b, o, none⟩ = some v
  glob : ∀ o cs, H[o]? = some cs → ∃ ob, w.heap[G o]? = some ob ∧ ObjRep F G H.length cs ob
  inj : ∀ o o', o < H.length → o' < H.length → G o = G o' → o = o'
  gF : ∀ o j, o < H.length → H[o]? ≠ some [] → F (G o) j = none
  fresh : ∀ b j, w.heap.size ≤ b → F b j = none
  tabs : ∀ g x, T g = some x → PRep F G H.length (.rptr x) (.pointer (some ⟨g, 0, none⟩))
  row : (∀ g, T g = none) → ∀ b o v, F b o = some v → ∃ vs ty fz, w.heap[b]? = some (.cells vs ty fz) ∧ fzOk fz vs.size ∧ AllOne vs

/-- What has become of memory: below a block number nothing has turned but the shared objects. -/
structure Ext (B : Nat) (G : Nat → Nat) (F : Imm) (n : Nat) (w : World) (G' : Nat → Nat) (F' : Imm) (n' : Nat) (w' : World) : Prop where
  os : w'.os = w.os
  tape : w'.tape = w.tape
  output : w'.output = w.output
  size : w.heap.size ≤ w'.heap.size
  len : n ≤ n'
  hG : ∀ o, o < n → G' o = G o
  Gnew : ∀ o, n ≤ o → o < n' → B ≤ G' o
  hF : ∀ b j, b < B → (∀ o, o < n → G o ≠ b) → F' b j = F b j
  mF : ∀ b j v, b < B → F b j = some v → F' b j = some v
  heap : ∀ b, b < B → (∀ o, o < n → G o ≠ b) → w'.heap[b]? = w.heap[b]?

section
variable {B B' : Nat} {G G' G'' : Nat → Nat} {F F' F'' : Imm} {n n' n'' : Nat} {w w' w'' : World}

theorem Ext.refl : Ext B G F n w G F n w := ⟨rfl, rfl, rfl, Nat.le_refl _, Nat.le_refl _, fun _ _ => rfl, fun _ h h' => absurd h' (by omega), fun _ _ _ _ => rfl, fun _ _ _ _ h => h, fun _ _ _ => rfl⟩

theorem Ext.trans (h : Ext B G F n w G' F' n' w') (k : Ext B G' F' n' w' G'' F'' n'' w'') : Ext B G F n w G'' F'' n'' w'' where
  os := k.os.trans h.os
  tape := k.tape.trans h.tape
  output := k.output.trans h.output
  size := Nat.le_trans h.size k.size
  len := Nat.le_trans h.len k.len
  hG o ho := (k.hG o (Nat.lt_of_lt_of_le ho h.len)).trans (h.hG o ho)
  Gnew o h1 h2 := by
    rcases Nat.lt_or_ge o n' with h3 | h3
    · rw [k.hG o h3]; exact h.Gnew o h1 h3
    · exact k.Gnew o h3 h2
  hF b j hb hg := by
    refine (k.hF b j hb fun o ho => ?_).trans (h.hF b j hb hg)
    rcases Nat.lt_or_ge o n with h3 | h3
    · rw [h.hG o h3]; exact hg o h3
    · have := h.Gnew o h3 ho; omega
  mF b j v hb hv := k.mF b j v hb (h.mF b j v hb hv)
  heap b hb hg := by
    refine (k.heap b hb fun o ho => ?_).trans (h.heap b hb hg)
    rcases Nat.lt_or_ge o n with h3 | h3
    · rw [h.hG o h3]; exact hg o h3
    · have := h.Gnew o h3 ho; omega

theorem Ext.mono (h : Ext B G F n w G' F' n' w') (hB : B' ≤ B) : Ext B' G F n w G' F' n' w' :=
  ⟨h.os, h.tape, h.output, h.size, h.len, h.hG, fun o h1 h2 => Nat.le_trans hB (h.Gnew o h1 h2), fun b j hb => h.hF b j (by omega), fun b j v hb => h.mF b j v (by omega), fun b hb hg => h.heap b (by omega) hg⟩

end

inductive Role where
  | free
  | box (d : Nat)
  | glob
  | arr (k : Nat)
  deriving DecidableEq

/-- What a frame, and the memory that all share, say of the model's frame and memory. -/
structure WR (T : Tabs) (n B0 : Nat) (ρ : Maps) (F : Imm) (R : Nat → Role) (fr : Fr) (H : Heap) (a : Act) (w : World) : Prop where
  g : GW T ρ.G F H w
  size : a.tmps.size = n
  defers : a.defers = []
  env : EnvRep F ρ fr a
  hn : ρ.n = H.length
  lg : ∀ d, ρ.lg d = fr.gen d
  ag : ∀ k, ρ.ag k = fr.tgen k
  box : ∀ d cs, fr.box d = some cs → B0 ≤ ρ.L d (fr.gen d) ∧ R (ρ.L d (fr.gen d)) = .box d ∧ (∀ c ∈ cs, c.isOne = true) ∧
    ∃ vs ty, w.heap[ρ.L d (fr.gen d)]? = some (.cells vs ty (0, 0)) ∧ All2 (FCell F ρ) cs vs.toList
  tok : ∀ k m, fr.tab k = some m → ∀ b c sz, ρ.A k (fr.tgen k) = some (b, c, sz) → B0 ≤ b ∧ R b = .arr k ∧ (0 < m ∧ m ≤ c) ∧ c ≤ maxLen ∧
    (∃ vs ty, w.heap[b]? = some (.cells vs ty (0, 0)) ∧ vs.size = c * sz ∧ AllOne vs) ∧ ∀ j, m * sz ≤ j → F b j = none
  frole : ∀ b j v, F b j = some v → ∀ d, R b ≠ .box d
  grole : ∀ o, o < H.length → R (ρ.G o) = .glob
  rfresh : ∀ b, w.heap.size ≤ b → R b = .free
  B0le : B0 ≤ w.heap.size

section
variable {T : Tabs} {n B0 : Nat} {ρ ρ' : Maps} {F F' : Imm} {R : Nat → Role} {fr : Fr} {H : Heap} {a : Act} {w w' : World}

theorem WR.tabsRep (h : WR T n B0 ρ F R fr H a w) : TabsRep T F ρ := fun g x hx => by rw [h.hn]; exact h.g.tabs g x hx

/-- Where the memory that does not change lies. -/
theorem WR.F_lt (h : WR T n B0 ρ F R fr H a w) {b j : Nat} {v : Value} (hf : F b j = some v) : b < w.heap.size := by
  rcases Nat.lt_or_ge b w.heap.size with h' | h'
  · exact h'
  · rw [h.g.fresh b j h'] at hf; cases hf

theorem Fr.put_env (fr : Fr) (d : Option Nat) (x : AV) (t : Nat) : (fr.put d x).env t = if d = some t then x else fr.env t := by
  cases d with
  | none => simp [Fr.put]
  | some d =>
    simp only [Fr.put, upd, Option.some.injEq]
    by_cases h : t = d
    · subst h; simp
    · rw [if_neg h, if_neg (fun h' => h h'.symm)]

theorem Fr.put_rest (fr : Fr) (d : Option Nat) (x : AV) : (fr.put d x).box = fr.box ∧ (fr.put d x).gen = fr.gen ∧ (fr.put d x).tab = fr.tab ∧ (fr.put d x).tgen = fr.tgen := by
  cases d <;> exact ⟨rfl, rfl, rfl, rfl⟩

theorem put_tmps (a : Act) (d : Option Nat) (v : Value) (t : Nat) (hd : ∀ d', d = some d' → d' < a.tmps.size) : (a.put d v).tmps.getD t undef = if d = some t then v else a.tmps.getD t undef := by
  cases d with
  | none => simp [Act.put]
  | some d =>
    have := hd d rfl
    simp only [Act.put, Option.some.injEq, Array.getD_eq_getD_getElem?, Array.getElem?_setIfInBounds]
    by_cases h : d = t
    · subst h; simp [this]
    · simp [h]

theorem EnvRep.put (he : EnvRep F ρ fr a) {d : Option Nat} (hd : ∀ d', d = some d' → d' < a.tmps.size) {x : AV} {v : Value} (hx : FRep F ρ x v) : EnvRep F ρ (fr.put d x) (a.put d v) := by
  intro t
  rw [Fr.put_env, put_tmps a d v t hd]
  split
  · exact hx
  · exact he t

theorem put_size (a : Act) (d : Option Nat) (v : Value) : (a.put d v).tmps.size = a.tmps.size := by cases d <;> simp [Act.put]
theorem put_defers (a : Act) (d : Option Nat) (v : Value) : (a.put d v).defers = a.defers := by cases d <;> rfl

/-- A value is laid into a slot. -/
theorem WR.put (h : WR T n B0 ρ F R fr H a w) {d : Option Nat} (hd : ∀ d', d = some d' → d' < n) {x : AV} {v : Value} (hx : FRep F ρ x v) : WR T n B0 ρ F R (fr.put d x) H (a.put d v) w := by
  obtain ⟨e1, e2, e3, e4⟩ := Fr.put_rest fr d x
  refine ⟨h.g, by rw [put_size]; exact h.size, by rw [put_defers]; exact h.defers, h.env.put (by rw [h.size]; exact hd) hx, h.hn, ?_, ?_, ?_, ?_, h.frole, h.grole, h.rfresh, h.B0le⟩
  · rw [e2]; exact h.lg
  · rw [e4]; exact h.ag
  · rw [e1, e2]; exact h.box
  · rw [e3, e4]; exact h.tok

/-- A draw. -/
theorem WR.drew (h : WR T n B0 ρ F R fr H a w) : WR T n B0 ρ F R fr H a w.drew :=
  ⟨⟨h.g.imm, h.g.glob, h.g.inj, h.g.gF, h.g.fresh, h.g.tabs, h.g.row⟩, h.size, h.defers, h.env, h.hn, h.lg, h.ag, h.box, h.tok, h.frole, h.grole, h.rfresh, h.B0le⟩

theorem heap_lt {w : World} {b : Nat} {o : Obj} (h : w.heap[b]? = some o) : b < w.heap.size := (Array.getElem?_eq_some_iff.1 h).1

/-- A new block, which nobody knows yet. -/
theorem WR.alloc (h : WR T n B0 ρ F R fr H a w) (o : Obj) : WR T n B0 ρ F R fr H a (w.alloc o) := by
  have hs : (w.alloc o).heap.size = w.heap.size + 1 := World.size_alloc w o
  refine ⟨⟨?_, ?_, h.g.inj, h.g.gF, ?_, h.g.tabs, ?_⟩, h.size, h.defers, h.env, h.hn, h.lg, h.ag, ?_, ?_, h.frole, h.grole, ?_, by have := h.B0le; omega⟩
  · intro b j v hf
    rw [World.cell?_alloc_lt w o ⟨b, j, none⟩ (h.F_lt hf)]
    exact h.g.imm b j v hf
  · intro ob cs hc
    obtain ⟨ob', h1, h2⟩ := h.g.glob ob cs hc
    exact ⟨ob', (heap_alloc_old w o (heap_lt h1)).trans h1, h2⟩
  · intro b j hb
    exact h.g.fresh b j (by omega)
  · intro hT b j v hf
    obtain ⟨vs, ty, fz, h1, h2⟩ := h.g.row hT b j v hf
    exact ⟨vs, ty, fz, (heap_alloc_old w o (heap_lt h1)).trans h1, h2⟩
  · intro d cs hd
    obtain ⟨h1, h2, h3, vs, ty, h4, h5⟩ := h.box d cs hd
    exact ⟨h1, h2, h3, vs, ty, (heap_alloc_old w o (heap_lt h4)).trans h4, h5⟩
  · intro k m hk b c sz hA
    obtain ⟨h1, h2, h3, h3', ⟨vs, ty, h4, h5⟩, h6⟩ := h.tok k m hk b c sz hA
    exact ⟨h1, h2, h3, h3', ⟨vs, ty, (heap_alloc_old w o (heap_lt h4)).trans h4, h5⟩, h6⟩
  · intro b hb
    exact h.rfresh b (by omega)

/-- What a slot holds stands for more, in a memory that has grown. -/
theorem EnvRep.grow (he : EnvRep F ρ fr a) (hg : MGrow F F' ρ ρ') : EnvRep F' ρ' fr a := fun t => (he t).grow hg

def upd2 {α : Type} (f : Nat → Nat → α) (i j : Nat) (x : α) : Nat → Nat → α := fun i' j' => if i' = i ∧ j' = j then x else f i' j'

/-- A free block becomes a box of the frame. -/
theorem WR.claim (h : WR T n B0 ρ F R fr H a w) {b : Nat} {vs : Array Value} {ty : TypeId} {cs : List AV} (hb : B0 ≤ b) (hfree : R b = .free) (hF : ∀ j, F b j = none)
    (hh : w.heap[b]? = some (.cells vs ty (0, 0))) (hcs : All2 (FCell F ρ) cs vs.toList) (hone : ∀ c ∈ cs, c.isOne = true) {d : Nat} (hd : d < n) :
    ∃ ρ' R', ρ'.G = ρ.G ∧ WR T n B0 ρ' F R' { fr with env := upd fr.env d (.lptr d (fr.gen d + 1) 0), box := upd fr.box d (some cs), gen := upd fr.gen d (fr.gen d + 1) } H
      (a.put (some d) (.pointer (some ⟨b, 0, none⟩))) w := by
  let ρ' : Maps := { ρ with L := upd2 ρ.L d (fr.gen d + 1) b, lg := upd ρ.lg d (fr.gen d + 1) }
  let R' : Nat → Role := upd R b (.box d)
  have hmg : MGrow F F ρ ρ' := by
    refine ⟨.refl, fun d' => ?_, fun d' g hg => ?_, fun _ => Nat.le_refl _, fun _ _ _ => rfl⟩
    · show ρ.lg d' ≤ upd ρ.lg d (fr.gen d + 1) d'
      unfold upd
      split
      · rename_i h'; subst h'; rw [h.lg]; omega
      · exact Nat.le_refl _
    · show upd2 ρ.L d (fr.gen d + 1) b d' g = ρ.L d' g
      unfold upd2
      rw [if_neg]
      rintro ⟨rfl, rfl⟩
      rw [h.lg] at hg
      omega
  have hRne : ∀ b', R b' ≠ .free → R' b' = R b' := by
    intro b' hb'
    show upd R b (.box d) b' = R b'
    unfold upd
    rw [if_neg]
    rintro rfl
    exact hb' hfree
  refine ⟨ρ', R', rfl, ?_⟩
  refine ⟨⟨h.g.imm, h.g.glob, h.g.inj, h.g.gF, h.g.fresh, h.g.tabs, h.g.row⟩, by rw [put_size]; exact h.size, by rw [put_defers]; exact h.defers, ?_, h.hn, ?_, h.ag, ?_, ?_, ?_, ?_, ?_, h.B0le⟩
  · have h0 := (h.env.grow hmg).put (d := some d) (by intro d' he; injection he with he; subst he; rw [h.size]; exact hd) (x := .lptr d (fr.gen d + 1) 0) (v := .pointer (some ⟨b, 0, none⟩))
      (by
        have := FCell.lptr (F := F) (ρ := ρ') (b := d) (g := fr.gen d + 1) (off := 0) (by show _ ≤ upd ρ.lg d (fr.gen d + 1) d; simp [upd])
        have e : ρ'.L d (fr.gen d + 1) = b := by show upd2 ρ.L d (fr.gen d + 1) b d (fr.gen d + 1) = b; simp [upd2]
        rw [e] at this
        exact .cell this)
    exact h0
  · intro d'
    show upd ρ.lg d (fr.gen d + 1) d' = upd fr.gen d (fr.gen d + 1) d'
    unfold upd
    split
    · rfl
    · exact h.lg d'
  · intro d' cs' hd'
    simp only [upd] at hd' ⊢
    by_cases he : d' = d
    · subst he
      simp only [if_true] at hd' ⊢
      cases hd'
      have e : ρ'.L d' (fr.gen d' + 1) = b := by show upd2 ρ.L d' (fr.gen d' + 1) b d' (fr.gen d' + 1) = b; simp [upd2]
      rw [e]
      refine ⟨hb, ?_, hone, vs, ty, hh, hcs.mono fun _ _ _ h => h.grow hmg⟩
      show upd R b (.box d') b = .box d'
      simp [upd]
    · simp only [if_neg he] at hd' ⊢
      obtain ⟨h1, h2, h3, vs', ty', h4, h5⟩ := h.box d' cs' hd'
      have e : ρ'.L d' (fr.gen d') = ρ.L d' (fr.gen d') := by show upd2 ρ.L d (fr.gen d + 1) b d' (fr.gen d') = _; simp [upd2, he]
      rw [e]
      exact ⟨h1, by rw [hRne _ (by rw [h2]; simp)]; exact h2, h3, vs', ty', h4, h5.mono fun _ _ _ h => h.grow hmg⟩
  · intro k m hk b' c sz hA
    obtain ⟨h1, h2, h3⟩ := h.tok k m hk b' c sz hA
    exact ⟨h1, by rw [hRne _ (by rw [h2]; simp)]; exact h2, h3⟩
  · intro b' j v hf
    have hne : b' ≠ b := by rintro rfl; rw [hF j] at hf; cases hf
    have e : R' b' = R b' := by show upd R b (.box d) b' = R b'; simp [upd, hne]
    rw [e]
    exact h.frole b' j v hf
  · intro o ho
    have := h.grole o ho
    rw [hRne _ (by show R (ρ.G o) ≠ _; rw [this]; simp)]
    exact this
  · intro b' hb'
    have hne : b' ≠ b := by rintro rfl; have := heap_lt hh; omega
    show upd R b (.box d) b' = .free
    simp only [upd, if_neg hne]
    exact h.rfresh b' hb'

/-- A free block becomes a shared object. -/
theorem WR.claimG0 (h : WR T n B0 ρ F R fr H a w) {b : Nat} {ob : Obj} {cs : List AV} (hfree : R b = .free) (hF : ∀ j, F b j = none)
    (hh : w.heap[b]? = some ob) (hcs : ObjRep F ρ.G ρ.n cs ob) :
    ∃ ρ' R', (∀ o, o < H.length → ρ'.G o = ρ.G o) ∧ ρ'.G H.length = b ∧ ρ'.n = H.length + 1 ∧ WR T n B0 ρ' F R' fr (H ++ [cs]) a w := by
  let ρ' : Maps := { ρ with G := upd ρ.G H.length b, n := H.length + 1 }
  let R' : Nat → Role := upd R b .glob
  have hG : ∀ o, o < H.length → ρ'.G o = ρ.G o := by
    intro o ho
    show upd ρ.G H.length b o = ρ.G o
    simp only [upd]
    rw [if_neg (by omega)]
  have hgr : Grow F F ρ.G ρ'.G ρ.n ρ'.n := ⟨fun _ _ _ h => h, by show ρ.n ≤ H.length + 1; rw [h.hn]; omega, fun o ho => hG o (by rw [h.hn] at ho; exact ho)⟩
  have hmg : MGrow F F ρ ρ' := ⟨hgr, fun _ => Nat.le_refl _, fun _ _ _ => rfl, fun _ => Nat.le_refl _, fun _ _ _ => rfl⟩
  have hgr' : Grow F F ρ.G ρ'.G H.length (H ++ [cs]).length := by
    have := hgr
    rw [h.hn] at this
    simpa using this
  have hRne : ∀ b', R b' ≠ .free → R' b' = R b' := by
    intro b' hb'
    show upd R b .glob b' = R b'
    unfold upd
    rw [if_neg]
    rintro rfl
    exact hb' hfree
  have hGb : ρ'.G H.length = b := by show upd ρ.G H.length b H.length = b; simp [upd]
  refine ⟨ρ', R', hG, hGb, rfl, ?_⟩
  refine ⟨⟨h.g.imm, ?_, ?_, ?_, h.g.fresh, fun g x hx => (h.g.tabs g x hx).grow hgr', h.g.row⟩, h.size, h.defers, h.env.grow hmg, by show H.length + 1 = _; simp, h.lg, h.ag, ?_, ?_, ?_, ?_, ?_, h.B0le⟩
  · intro o cs' ho
    rcases Nat.lt_or_ge o H.length with hlt | hge
    · rw [List.getElem?_append_left hlt] at ho
      obtain ⟨ob', h1, h2⟩ := h.g.glob o cs' ho
      rw [hG o hlt]
      exact ⟨ob', h1, h2.grow hgr'⟩
    · have : o = H.length := by
        have := (List.getElem?_eq_some_iff.1 ho).1
        simp at this
        omega
      subst this
      simp at ho
      subst ho
      rw [hGb]
      exact ⟨ob, hh, (by have := hcs.grow hgr; simpa using this)⟩
  · intro o o' ho ho' he
    simp at ho ho'
    have key : ∀ o, o < H.length → ρ'.G o ≠ b := by
      intro o ho he
      rw [hG o ho] at he
      have := h.grole o ho
      rw [he, hfree] at this
      cases this
    rcases Nat.lt_or_ge o H.length with h1 | h1
    · rcases Nat.lt_or_ge o' H.length with h2 | h2
      · rw [hG o h1, hG o' h2] at he
        exact h.g.inj o o' h1 h2 he
      · have e : o' = H.length := by omega
        subst e
        rw [hGb] at he
        exact absurd he (key o h1)
    · have e : o = H.length := by omega
      subst e
      rcases Nat.lt_or_ge o' H.length with h2 | h2
      · rw [hGb] at he
        exact absurd he.symm (key o' h2)
      · omega
  · intro o j ho hnd
    simp at ho
    rcases Nat.lt_or_ge o H.length with h1 | h1
    · rw [hG o h1]; exact h.g.gF o j h1 (by rw [List.getElem?_append_left h1] at hnd; exact hnd)
    · have e : o = H.length := by omega
      subst e
      rw [hGb]; exact hF j
  · intro d' cs' hd'
    obtain ⟨h1, h2, h3, vs', ty', h4, h5⟩ := h.box d' cs' hd'
    exact ⟨h1, by rw [hRne _ (by show R (ρ.L d' (fr.gen d')) ≠ _; rw [h2]; simp)]; exact h2, h3, vs', ty', h4, h5.mono fun _ _ _ h => h.grow hmg⟩
  · intro k m hk b' c sz hA
    obtain ⟨h1, h2, h3⟩ := h.tok k m hk b' c sz hA
    exact ⟨h1, by rw [hRne _ (by rw [h2]; simp)]; exact h2, h3⟩
  · intro b' j v hf
    have hne : b' ≠ b := by rintro rfl; rw [hF j] at hf; cases hf
    have e : R' b' = R b' := by show upd R b .glob b' = R b'; simp [upd, hne]
    rw [e]
    exact h.frole b' j v hf
  · intro o ho
    simp at ho
    rcases Nat.lt_or_ge o H.length with h1 | h1
    · have := h.grole o h1
      rw [hG o h1, hRne _ (by rw [this]; simp)]
      exact this
    · have e : o = H.length := by omega
      subst e
      rw [hGb]
      show upd R b .glob b = .glob
      simp [upd]
  · intro b' hb'
    have hne : b' ≠ b := by rintro rfl; have := heap_lt hh; omega
    show upd R b .glob b' = .free
    simp only [upd, if_neg hne]
    exact h.rfresh b' hb'

theorem WR.claimG (h : WR T n B0 ρ F R fr H a w) {b : Nat} {vs : Array Value} {ty : TypeId} {cs : List AV} (hfree : R b = .free) (hF : ∀ j, F b j = none)
    (hh : w.heap[b]? = some (.cells vs ty (0, 0))) (hcs : All2 (PRep F ρ.G ρ.n) cs vs.toList) (hone : ∀ c ∈ cs, c.isOne = true) {d : Nat} (hd : d < n) :
    ∃ ρ' R', (∀ o, o < H.length → ρ'.G o = ρ.G o) ∧ ρ'.G H.length = b ∧ WR T n B0 ρ' F R' { fr with env := upd fr.env d (.gptr H.length 0) } (H ++ [cs])
      (a.put (some d) (.pointer (some ⟨b, 0, none⟩))) w := by
  obtain ⟨ρ', R', hG, hGb, hn', hw⟩ := h.claimG0 hfree hF hh (.cells (.inl rfl) hcs hone)
  refine ⟨ρ', R', hG, hGb, hw.put (d := some d) (by intro d' he; injection he with he; subst he; exact hd) (x := .gptr H.length 0) ?_⟩
  have := PRep.gptr (F := F) (G := ρ'.G) (n := ρ'.n) (o := H.length) (off := 0) (by rw [hn']; omega)
  rw [hGb] at this
  exact .p this

end

/-! ### cells of a box, written -/

theorem cell_setRow_other (w : World) (g : Nat) (cs : Array Value) (b o : Nat) (h : b ≠ g) : (w.setRow g cs).cell? ⟨b, o, none⟩ = w.cell? ⟨b, o, none⟩ :=
  World.cell?_of_block (w := w) (a := ⟨b, o, none⟩) (setRow_other w g b cs h)

theorem size_setRow (w : World) (g : Nat) (cs : Array Value) : (w.setRow g cs).heap.size = w.heap.size := by simp [World.setRow]

section
variable {T : Tabs} {n B0 : Nat} {ρ : Maps} {F : Imm} {R : Nat → Role} {fr : Fr} {H : Heap} {a : Act} {w : World}

/-- A box of the frame is written. -/
theorem WR.setBox (h : WR T n B0 ρ F R fr H a w) {d : Nat} {cs cs' : List AV} {vs' : Array Value} (hd : fr.box d = some cs) (hcs : All2 (FCell F ρ) cs' vs'.toList) (hone : ∀ c ∈ cs', c.isOne = true) :
    WR T n B0 ρ F R { fr with box := upd fr.box d (some cs') } H a (w.setRow (ρ.L d (fr.gen d)) vs') := by
  obtain ⟨h1, h2, h3, vs, ty, h4, h5⟩ := h.box d cs hd
  have hne : ∀ b, R b ≠ .box d → b ≠ ρ.L d (fr.gen d) := by
    rintro b hb rfl
    exact hb h2
  refine ⟨⟨?_, ?_, h.g.inj, h.g.gF, ?_, h.g.tabs, ?_⟩, h.size, h.defers, h.env, h.hn, h.lg, h.ag, ?_, ?_, h.frole, h.grole, ?_, by rw [size_setRow]; exact h.B0le⟩
  · intro b o v hf
    rw [cell_setRow_other]
    · exact h.g.imm b o v hf
    · exact hne b (h.frole b o v hf d)
  · intro o cs'' ho
    obtain ⟨ob'', e1, e2⟩ := h.g.glob o cs'' ho
    refine ⟨ob'', ?_, e2⟩
    rw [setRow_other]
    · exact e1
    · refine hne _ ?_
      rw [h.grole o (List.getElem?_eq_some_iff.1 ho).1]
      simp
  · intro b j hb
    rw [size_setRow] at hb
    exact h.g.fresh b j hb
  · intro hT b j v hf
    obtain ⟨vs1, ty1, fz1, g1, g2⟩ := h.g.row hT b j v hf
    exact ⟨vs1, ty1, fz1, by rw [setRow_other _ _ _ _ (hne b (h.frole b j v hf d))]; exact g1, g2⟩
  · intro d' cs'' hd'
    simp only [upd] at hd'
    by_cases he : d' = d
    · subst he
      simp only [if_true] at hd'
      cases hd'
      exact ⟨h1, h2, hone, vs', ty, setRow_heap w _ vs vs' ty (0, 0) h4, hcs⟩
    · simp only [if_neg he] at hd'
      obtain ⟨e1, e2, e3, vs'', ty'', e4, e5⟩ := h.box d' cs'' hd'
      refine ⟨e1, e2, e3, vs'', ty'', ?_, e5⟩
      rw [setRow_other]
      · exact e4
      · refine hne _ ?_
        rw [e2]
        simp [he]
  · intro k m hk b c sz hA
    obtain ⟨e1, e2, e3, e3', ⟨vs'', ty'', e4, e5⟩, e6⟩ := h.tok k m hk b c sz hA
    refine ⟨e1, e2, e3, e3', ⟨vs'', ty'', ?_, e5⟩, e6⟩
    rw [setRow_other]
    · exact e4
    · refine hne _ ?_
      rw [e2]
      simp
  · intro b hb
    rw [size_setRow] at hb
    exact h.rfresh b hb

/-- A shared object is written: a memory that differs there alone. -/
theorem WR.setGlobW (h : WR T n B0 ρ F R fr H a w) {o : Nat} {cs cs' : List AV} {w' : World} {ob' : Obj} (hd : H[o]? = some cs) (hnd : cs ≠ []) (hsz : w'.heap.size = w.heap.size) (hnew : w'.heap[ρ.G o]? = some ob')
    (hoth : ∀ b, b ≠ ρ.G o → w'.heap[b]? = w.heap[b]?) (hob : ObjRep F ρ.G ρ.n cs' ob') : WR T n B0 ρ F R fr (H.set o cs') a w' := by
  have hlt := (List.getElem?_eq_some_iff.1 hd).1
  have hro := h.grole o hlt
  have hne : ∀ b, R b ≠ .glob → b ≠ ρ.G o := by
    rintro b hb rfl
    exact hb hro
  have hl : (H.set o cs').length = H.length := by simp
  refine ⟨⟨?_, ?_, ?_, ?_, ?_, ?_, ?_⟩, h.size, h.defers, h.env, by rw [hl]; exact h.hn, h.lg, h.ag, ?_, ?_, h.frole, ?_, ?_, by rw [hsz]; exact h.B0le⟩
  · intro b o' v hf
    have hb : b ≠ ρ.G o := by
      rintro rfl
      rw [h.g.gF o o' hlt (by rw [hd]; exact fun e => hnd (Option.some.inj e))] at hf
      cases hf
    have e : w'.cell? ⟨b, o', none⟩ = w.cell? ⟨b, o', none⟩ := by simp [World.cell?, hoth b hb]
    rw [e]
    exact h.g.imm b o' v hf
  · intro o' cs'' ho
    rw [hl]
    by_cases he : o = o'
    · subst he
      simp only [List.getElem?_set_self hlt] at ho
      cases ho
      refine ⟨ob', hnew, ?_⟩
      rw [← h.hn]
      exact hob
    · rw [List.getElem?_set_ne he] at ho
      obtain ⟨ob'', e1, e2⟩ := h.g.glob o' cs'' ho
      refine ⟨ob'', ?_, e2⟩
      rw [hoth]
      · exact e1
      · exact fun e => he (h.g.inj o' o (List.getElem?_eq_some_iff.1 ho).1 hlt e).symm
  · rw [hl]; exact h.g.inj
  · intro o' j ho' hnd'
    rw [hl] at ho'
    by_cases he : o = o'
    · subst he
      exact h.g.gF o j ho' (by rw [hd]; exact fun e => hnd (Option.some.inj e))
    · rw [List.getElem?_set_ne he] at hnd'
      exact h.g.gF o' j ho' hnd'
  · intro b j hb
    rw [hsz] at hb
    exact h.g.fresh b j hb
  · rw [hl]; exact h.g.tabs
  · intro hT b j v hf
    obtain ⟨vs1, ty1, fz1, g1, g2⟩ := h.g.row hT b j v hf
    refine ⟨vs1, ty1, fz1, ?_, g2⟩
    rw [hoth]
    · exact g1
    · rintro rfl
      rw [h.g.gF o j hlt (by rw [hd]; exact fun e => hnd (Option.some.inj e))] at hf
      cases hf
  · intro d' cs'' hd'
    obtain ⟨e1, e2, e3, vs'', ty'', e4, e5⟩ := h.box d' cs'' hd'
    refine ⟨e1, e2, e3, vs'', ty'', ?_, e5⟩
    rw [hoth]
    · exact e4
    · refine hne _ ?_
      rw [e2]
      simp
  · intro k m hk b c sz hA
    obtain ⟨e1, e2, e3, e3', ⟨vs'', ty'', e4, e5⟩, e6⟩ := h.tok k m hk b c sz hA
    refine ⟨e1, e2, e3, e3', ⟨vs'', ty'', ?_, e5⟩, e6⟩
    rw [hoth]
    · exact e4
    · refine hne _ ?_
      rw [e2]
      simp
  · rw [hl]; exact h.grole
  · intro b hb
    rw [hsz] at hb
    exact h.rfresh b hb

/-- A shared object of cells is written. -/
theorem WR.setGlob (h : WR T n B0 ρ F R fr H a w) {o : Nat} {cs cs' : List AV} {vs' : Array Value} (hd : H[o]? = some cs) (hok : okObj cs = true) (hcs : All2 (PRep F ρ.G ρ.n) cs' vs'.toList) (hlen : cs'.length = cs.length) (hone : ∀ c ∈ cs', c.isOne = true) :
    WR T n B0 ρ F R fr (H.set o cs') a (w.setRow (ρ.G o) vs') := by
  obtain ⟨ob, h4, h5⟩ := h.g.glob o cs hd
  obtain ⟨vs, ty, fz, rfl, hfz, hvs, _⟩ := h5.isCells hok
  have hsz : vs'.size = vs.size := by
    have h1 := hcs.length
    have h2 := hvs.length
    simp only [Array.length_toList] at h1 h2
    omega
  exact h.setGlobW hd (by rintro rfl; simp [okObj] at hok) (size_setRow w _ _) (setRow_heap w _ vs vs' ty fz h4) (fun b hb => setRow_other w _ b _ hb) (.cells (by rw [hsz]; exact hfz) hcs hone)

end
end Go.Abs
