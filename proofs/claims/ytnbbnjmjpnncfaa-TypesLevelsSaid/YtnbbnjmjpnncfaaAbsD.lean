/-
  The abstract layer, part D: slice expressions, struct literals, small operations; all operations that only compute, together.
-/
import Derived.Test.YtnbbnjmjpnncfaaAbsC
namespace Go.Abs
set_option linter.unusedSimpArgs false
set_option linter.unusedVariables false
open Go

/-! ### slice expressions -/

/-- The elements of a list have the cells of a type (they all have as many). -/
def headOk (sz : Nat) (l : List AV) : Bool :=
  match l with
  | [] => true
  | x :: _ => x.cells.length == sz

theorem headOk_all {sz sz' : Nat} {l : List AV} (h : headOk sz l = true) (hs : ∀ x ∈ l, x.cells.length = sz') : ∀ x ∈ l, x.cells.length = sz := by
  cases l with
  | nil => simp
  | cons x l =>
    have h1 : x.cells.length = sz := by simpa [headOk] using h
    have h2 := hs x (by simp)
    intro y hy
    rw [hs y hy, ← h2, h1]

def bnd : Option AV → Option (Option Nat)
  | none => some none
  | some (.sc (.int _ n)) => if 0 ≤ n then some (some n.toNat) else none
  | _ => none

def sliceA (P : Program) (t : TypeId) (x : AV) (lo hi mx : Option AV) : Option AV :=
  match bnd lo, bnd hi, bnd mx with
  | some lo, some hi, some mx =>
    match P.underlying t, x with
    | some (.slice e), .slice _ l =>
      match layOf P e with
      | none => none
      | some (_, sz) =>
        if hi.getD l.length ≤ l.length ∧ lo.getD 0 ≤ hi.getD l.length ∧ headOk sz l = true then
          match mx with
          | none => some (.slice .frz ((l.take (hi.getD l.length)).drop (lo.getD 0)))
          | some m => if hi.isSome ∧ hi.getD l.length ≤ m ∧ m ≤ l.length then
              some (.slice (if m = hi.getD l.length then .full else .frz) ((l.take (hi.getD l.length)).drop (lo.getD 0))) else none
        else none
    | some .string, .sc (.string s) =>
      if mx.isNone ∧ hi.getD s.size ≤ s.size ∧ lo.getD 0 ≤ hi.getD s.size then some (.sc (.string (s.extract (lo.getD 0) (hi.getD s.size)))) else none
    | _, _ => none
  | _, _, _ => none

/-- An operand that may be missing. -/
def OptRep (F : Imm) (ρ : Maps) : Option AV → Option Value → Prop
  | none, none => True
  | some x, some v => FRep F ρ x v
  | _, _ => False

section
variable {P : Program} {F : Imm} {ρ : Maps}

theorem bnd_inv {x : Option AV} {v : Option Value} {r : Option Nat} (h : bnd x = some r) (hr : OptRep F ρ x v) :
    (r = none ∧ v = none) ∨ ∃ k n, v = some (.int k n) ∧ 0 ≤ n ∧ r = some n.toNat := by
  unfold bnd at h
  split at h
  · cases v with
    | none => injection h with h; exact .inl ⟨h.symm, rfl⟩
    | some v => exact hr.elim
  · rename_i k n
    split at h
    · injection h with h
      cases v with
      | none => exact hr.elim
      | some v =>
        cases frep_sc hr
        exact .inr ⟨k, n, rfl, by assumption, h.symm⟩
    · cases h
  · cases h

theorem run_bound (w : World) (k : IntKind) (n : Int) (y : Nat) (c : BoundsCode) (h0 : 0 ≤ n) (h1 : n.toNat ≤ y) : (Instr.sliceBound (.int k n) y c).run P w = .ok n.toNat w := by
  unfold Instr.sliceBound
  simp only [asIntOf, Sem.run_bind, Sem.run_pure, Result.andThen_ok]
  rw [if_pos ⟨h0, by omega⟩]
  rfl

/-- The bounds of a slice expression, as numbers. -/
theorem run_bounds (w : World) (isS : Bool) {lo hi mx : Option AV} {lv hv mv : Option Value} {a h m : Option Nat} {len cap : Nat}
    (h1 : bnd lo = some a) (h2 : bnd hi = some h) (h3 : bnd mx = some m) (r1 : OptRep F ρ lo lv) (r2 : OptRep F ρ hi hv) (r3 : OptRep F ρ mx mv)
    (hm : m.getD cap ≤ cap) (hh : h.getD len ≤ m.getD cap) (ha : a.getD 0 ≤ h.getD len) (hmh : m.isSome = true → h.isSome = true) :
    (Instr.sliceBounds isS len cap lv hv mv).run P w = .ok (a.getD 0, h.getD len, m.getD cap) w := by
  rcases bnd_inv h3 r3 with ⟨rfl, rfl⟩ | ⟨k, n, rfl, hn, rfl⟩ <;> rcases bnd_inv h2 r2 with ⟨rfl, rfl⟩ | ⟨k2, n2, rfl, hn2, rfl⟩ <;>
    rcases bnd_inv h1 r1 with ⟨rfl, rfl⟩ | ⟨k1, n1, rfl, hn1, rfl⟩ <;> simp only [Option.getD_none, Option.getD_some] at hm hh ha ⊢ <;>
    (first
      | (simp at hmh; done)
      | (simp only [Instr.sliceBounds, Sem.run_bind, Sem.run_pure, Result.andThen_ok]; done)
      | (simp only [Instr.sliceBounds, Sem.run_bind, Sem.run_pure, Result.andThen_ok, run_bound (P := P) w k1 n1 _ _ hn1 ha]; done)
      | (simp only [Instr.sliceBounds, Sem.run_bind, Sem.run_pure, Result.andThen_ok, run_bound (P := P) w k2 n2 _ _ hn2 hh]; done)
      | (simp only [Instr.sliceBounds, Sem.run_bind, Sem.run_pure, Result.andThen_ok, run_bound (P := P) w k2 n2 _ _ hn2 hh, run_bound (P := P) w k1 n1 _ _ hn1 ha]; done)
      | (simp only [Instr.sliceBounds, Sem.run_bind, Sem.run_pure, Result.andThen_ok, run_bound (P := P) w k n _ _ hn hm, run_bound (P := P) w k2 n2 _ _ hn2 hh]; done)
      | (simp only [Instr.sliceBounds, Sem.run_bind, Sem.run_pure, Result.andThen_ok, run_bound (P := P) w k n _ _ hn hm, run_bound (P := P) w k2 n2 _ _ hn2 hh, run_bound (P := P) w k1 n1 _ _ hn1 ha]; done))

theorem run_slice (w : World) {t : TypeId} {x r : AV} {u : Value} {lo hi mx : Option AV} {lv hv mv : Option Value} (h : sliceA P t x lo hi mx = some r) (hx : FRep F ρ x u)
    (r1 : OptRep F ρ lo lv) (r2 : OptRep F ρ hi hv) (r3 : OptRep F ρ mx mv) : ∃ v, (Instr.sliceAt t u lv hv mv).run P w = .ok v w ∧ FRep F ρ r v := by
  unfold sliceA at h
  split at h
  · rename_i a hh m b1 b2 b3
    split at h
    · rename_i e tag l hu
      split at h
      · cases h
      · rename_i ag sz hl
        split at h
        · rename_i hc
          obtain ⟨hc1, hc2, hc3⟩ := hc
          obtain ⟨base, cap, b, o, sz', vs, rfl, hs, _, _⟩ := frep_slice hx
          have hsz := headOk_all hc3 hs.sz
          have step : ∀ (m' : Nat), m' = m.getD cap → m' ≤ cap → hh.getD l.length ≤ m' → (m.isSome = true → hh.isSome = true) → ∀ tg, (tg = Tag.frz ∨ tg = Tag.full ∧ m' = hh.getD l.length) →
              ∃ v, (Instr.sliceAt t (.slice base l.length cap) lv hv mv).run P w = .ok v w ∧ FRep F ρ (.slice tg ((l.take (hh.getD l.length)).drop (a.getD 0))) v := by
            intro m' hm' hmc hmh hmi tg htg
            have hb := run_bounds (P := P) (F := F) (ρ := ρ) w true (len := l.length) (cap := cap) b1 b2 b3 r1 r2 r3 (by omega) (by omega) hc2 hmi
            refine ⟨.slice (if m' = a.getD 0 then base else base.map (·.add (a.getD 0 * sz))) (hh.getD l.length - a.getD 0) (m' - a.getD 0), ?_, ?_⟩
            · unfold Instr.sliceAt
              rw [Sem.run_bind, run_underlying hu]
              simp only [Result.andThen_ok]
              unfold Instr.slice
              rw [Sem.run_bind, run_underlying hu]
              simp only [Result.andThen_ok, Sem.run_bind, hb, run_sizeOf' hl, Sem.run_pure, ← hm']
            · have hlen : ((l.take (hh.getD l.length)).drop (a.getD 0)).length = hh.getD l.length - a.getD 0 := by
                rw [List.length_drop, List.length_take]; omega
              rw [← hlen]
              have hcells : ((l.take (hh.getD l.length)).drop (a.getD 0)).flatMap AV.cells = ((l.flatMap AV.cells).take (hh.getD l.length * sz)).drop (a.getD 0 * sz) := by
                rw [flatMap_drop (sz := sz) (fun x hx => hsz x (List.mem_of_mem_take hx)), flatMap_take hsz]
              refine .p (.slice (b := b) (o := o + a.getD 0 * sz) (sz := sz) (vs := (vs.take (hh.getD l.length * sz)).drop (a.getD 0 * sz)) ?_ ?_ ?_ ?_ ?_ ?_ ?_ ?_)
              · rw [hcells]; exact (hs.cells.take _).drop _
              · exact (hs.has.take _).drop _
              · intro hne
                have hpos : 0 < ((l.take (hh.getD l.length)).drop (a.getD 0)).length := List.length_pos_iff.2 hne
                have hl0 : l ≠ [] := by rintro rfl; simp at hne
                rw [if_neg (by omega), hs.base hl0]
                simp [Addr.add_lit]
              · exact fun x hx => hsz x (List.mem_of_mem_take (List.mem_of_mem_drop hx))
              · intro c hcc
                rw [hcells] at hcc
                exact hs.ones c (List.mem_of_mem_take (List.mem_of_mem_drop hcc))
              · omega
              · have := hs.hmax; omega
              · rcases htg with h | ⟨h, h'⟩
                · exact .inl h
                · exact .inr ⟨h, by omega⟩
          split at h
          · cases h
            exact step cap rfl (Nat.le_refl _) (by have := hs.hcap; omega) (by simp) .frz (.inl rfl)
          · rename_i m'
            split at h
            · rename_i hmm
              cases h
              have hc' := hs.hcap
              refine step m' rfl (by omega) hmm.2.1 (fun _ => hmm.1) _ ?_
              by_cases he : m' = hh.getD l.length
              · rw [if_pos he]; exact .inr ⟨rfl, he⟩
              · rw [if_neg he]; exact .inl rfl
            · cases h
        · cases h
    · rename_i s hu
      split at h
      · rename_i hc
        obtain ⟨hc1, hc2, hc3⟩ := hc
        cases h
        cases frep_sc hx
        have hmn : m = none := by cases m <;> simp_all
        subst hmn
        have hmv : mv = none := by
          rcases bnd_inv b3 r3 with ⟨_, h⟩ | ⟨_, _, _, _, h⟩
          · exact h
          · cases h
        subst hmv
        have hb := run_bounds (P := P) (F := F) (ρ := ρ) w false (len := s.size) (cap := s.size) b1 b2 b3 r1 r2 r3 (by simp) (by simpa using hc2) hc3 (by simp)
        refine ⟨_, ?_, .p (.sc rfl)⟩
        unfold Instr.sliceAt
        rw [Sem.run_bind, run_underlying hu]
        simp only [Result.andThen_ok]
        unfold Instr.slice
        rw [Sem.run_bind, run_underlying hu]
        simp only [Result.andThen_ok, Option.isSome_none, Bool.false_eq_true, if_false, Sem.run_bind, Sem.run_pure, hb]
      · cases h
    · cases h
  · cases h

end

/-! ### struct and array literals -/

/-- Where the parts of a literal of a type go, and how many cells they have. -/
def placesOf (P : Program) (t : TypeId) : Option (List (Nat × Nat)) :=
  match P.underlying t with
  | some (.struct fs) => fs.toList.mapM fun f => (P.info? f.type).map fun i => (f.offset, i.size)
  | _ => none

def placeA (P : Program) (t i : Nat) : Option (Nat × Nat) :=
  match placesOf P t with
  | some ps => ps[i]?
  | none => match arrOf P t with
    | some (_, e) => (P.info? e).map fun f => (i * f.size, f.size)
    | none => none

def notTuple : AV → Bool
  | .tuple _ => false
  | _ => true

def fillA (P : Program) (t : TypeId) : List AV → List (Nat × AV) → Option (List AV)
  | cs, [] => some cs
  | cs, (i, x) :: rest =>
    match placeA P t i with
    | some (off, size) => if x.cells.length = size ∧ off + size ≤ cs.length ∧ notTuple x = true then fillA P t (setCells cs off x.cells) rest else none
    | none => none

/-- The zero value's cells, of a type of structs or arrays. -/
def zaggA (P : Program) (t : TypeId) : Option (List AV) :=
  match zeroOf P t with
  | some (.agg z) => if z.all (·.oneCell') = true ∧ ((placesOf P t).isSome ∨ ((arrOf P t).bind fun p => P.info? p.2).isSome) then some (z.toList.map ofCell) else none
  | _ => none

def buildA (P : Program) (t : TypeId) (parts : List (Nat × AV)) : Option AV :=
  match zaggA P t with
  | some z => (fillA P t z parts).map .agg
  | none => none

theorem setCells_length {cs new : List AV} {off : Nat} (h : off + new.length ≤ cs.length) : (setCells cs off new).length = cs.length := by
  simp only [setCells, List.length_append, List.length_take, List.length_drop]
  omega

theorem foldl_set (new : List Value) : ∀ (k off : Nat) (vs : Array Value), off + k + new.length ≤ vs.size →
    ((new.zipIdx k).foldl (fun cs (x : Value × Nat) => cs.setIfInBounds (off + x.2) x.1) vs).toList = vs.toList.take (off + k) ++ new ++ vs.toList.drop (off + k + new.length) := by
  induction new with
  | nil => intro k off vs h; simp
  | cons v new ih =>
    intro k off vs h
    simp only [List.zipIdx_cons, List.foldl_cons, List.length_cons] at h ⊢
    rw [ih (k + 1) off _ (by simp; omega)]
    have hlt : off + k < vs.toList.length := by simp; omega
    simp only [Array.toList_setIfInBounds]
    have h1 : (vs.toList.set (off + k) v).take (off + (k + 1)) = vs.toList.take (off + k) ++ [v] := by
      rw [← Nat.add_assoc, List.take_succ_eq_append_getElem (by simpa using hlt), List.take_set]
      congr 1
      · apply List.set_eq_of_length_le
        simp [List.length_take]; omega
      · simp
    have h2 : (vs.toList.set (off + k) v).drop (off + (k + 1) + new.length) = vs.toList.drop (off + k + (new.length + 1)) := by
      rw [List.drop_set_of_lt (by omega)]
      congr 1
      omega
    rw [h1, h2]
    simp

section
variable {P : Program} {F : Imm} {ρ : Maps}

theorem All2.setCells {R : AV → Value → Prop} {cs new : List AV} {vs nv : List Value} (h : All2 R cs vs) (h' : All2 R new nv) (off : Nat) :
    All2 R (setCells cs off new) (vs.take off ++ nv ++ vs.drop (off + new.length)) := by
  unfold Abs.setCells
  exact ((h.take off).append h').append (h.drop _)

theorem frep_notTuple {x : AV} (h : notTuple x = true) : ∀ vs, x ≠ .tuple vs := by
  rintro vs rfl
  simp [notTuple] at h

theorem run_fill {t : TypeId} (place : Nat → Option (Nat × Nat)) (hp : ∀ i y, placeA P t i = some y → place i = some y) :
    ∀ (parts : List (Nat × AV)) (pv : List (Nat × Value)) (cs r : List AV) (vs : Array Value), fillA P t cs parts = some r → All2 (FCell F ρ) cs vs.toList →
      (∀ c ∈ cs, c.isOne = true) → All2 (fun (x : Nat × AV) (y : Nat × Value) => x.1 = y.1 ∧ FRep F ρ x.2 y.2) parts pv →
      ∃ ws : Array Value, Instr.fill place vs pv = some ws ∧ All2 (FCell F ρ) r ws.toList ∧ ∀ c ∈ r, c.isOne = true := by
  intro parts
  induction parts with
  | nil =>
    intro pv cs r vs h hcs hone hall
    cases hall
    simp [fillA] at h
    subst h
    exact ⟨vs, rfl, hcs, hone⟩
  | cons p parts ih =>
    intro pv cs r vs h hcs hone hall
    obtain ⟨i, x⟩ := p
    cases hall with
    | cons h1 hrest =>
      rename_i q pv
      obtain ⟨j, v⟩ := q
      obtain ⟨hij, hx⟩ := h1
      simp only at hij hx
      subst hij
      simp only [fillA] at h
      split at h
      · rename_i off size hpl
        split at h
        · rename_i hc
          obtain ⟨hc1, hc2, hc3⟩ := hc
          have hcells := hx.cells (frep_notTuple hc3)
          have hlen := hcells.length
          have hsz : vs.size = cs.length := by simpa using hcs.length.symm
          have hvl : v.cells.toList.length = v.cells.size := by simp
          have hfold := foldl_set v.cells.toList 0 off vs (by simp only [Nat.add_zero]; omega)
          have hset := hcs.setCells hcells off
          rw [hlen] at hset
          simp only [Nat.add_zero] at hfold
          rw [← hfold] at hset
          obtain ⟨ws, hw1, hw2, hw3⟩ := ih pv _ _ _ h hset (by
            intro c hcm
            simp only [Abs.setCells, List.mem_append] at hcm
            rcases hcm with (hm | hm) | hm
            · exact hone c (List.mem_of_mem_take hm)
            · exact hx.ones (frep_notTuple hc3) c hm
            · exact hone c (List.mem_of_mem_drop hm)) hrest
          refine ⟨ws, ?_, hw2, hw3⟩
          unfold Instr.fill
          rw [hp _ _ hpl]
          have hcond : (v.cells.size ≠ size || decide (off + v.cells.size > vs.size)) = false := by
            simp only [Bool.or_eq_false_iff, decide_eq_false_iff_not, ne_eq, Decidable.not_not]
            constructor <;> omega
          show (if (decide (v.cells.size ≠ size) || decide (off + v.cells.size > vs.size)) = true then none else Instr.fill place (v.cells.zipIdx.foldl (fun cs (x : Value × Nat) => cs.setIfInBounds (off + x.2) x.1) vs) pv) = some ws
          rw [if_neg (by rw [hcond]; simp), ← Array.foldl_toList, Array.toList_zipIdx]
          exact hw1
        · cases h
      · cases h

theorem run_mapM_places (w : World) : ∀ (fs : List Field) (ps : List (Nat × Nat)), (fs.mapM fun f => (P.info? f.type).map fun i => (f.offset, i.size)) = some ps →
    (fs.mapM fun f => (do pure (f.offset, ← sizeOf f.type) : Sem (Nat × Nat))).run P w = .ok ps w := by
  intro fs
  induction fs with
  | nil => intro ps h; simp at h; subst h; rfl
  | cons f fs ih =>
    intro ps h
    simp only [List.mapM_cons, Option.bind_eq_bind, Option.bind_eq_some_iff] at h
    obtain ⟨p, hp, ps', hps, h⟩ := h
    cases hi : P.info? f.type with
    | none => rw [hi] at hp; cases hp
    | some i =>
      rw [hi] at hp
      simp at hp h
      subst hp; subst h
      simp only [List.mapM_cons, Sem.run_bind, sizeOf, typeInfo, program, Sem.run, hi, Result.andThen_ok, Sem.run_pure]
      have := ih ps' hps
      simp only [Sem.run_bind, sizeOf, typeInfo, program] at this
      rw [this]
      rfl

theorem run_map {α β : Type} (w : World) (f : α → β) (x : Sem α) : (Functor.map f x).run P w = (x.run P w).andThen fun a w' => .ok (f a) w' := by
  show (x >>= fun a => pure (f a)).run P w = _
  rw [Sem.run_bind]
  rfl

theorem run_build (w : World) {t : TypeId} {parts : List (Nat × AV)} {r : AV} {pv : List (Nat × Value)} (h : buildA P t parts = some r)
    (hall : All2 (fun (x : Nat × AV) (y : Nat × Value) => x.1 = y.1 ∧ FRep F ρ x.2 y.2) parts pv) : ∃ v, (Instr.build t pv.toArray).run P w = .ok v w ∧ FRep F ρ r v := by
  have h : ∃ z : Array Value, zeroOf P t = some (.agg z) ∧ (z.all (·.oneCell') = true ∧ ((placesOf P t).isSome ∨ ((arrOf P t).bind fun p => P.info? p.2).isSome)) ∧ (fillA P t (z.toList.map ofCell) parts).map .agg = some r := by
    unfold buildA zaggA at h
    split at h
    · rename_i z0 hz0
      split at hz0
      · rename_i z hz
        split at hz0
        · rename_i hc
          injection hz0 with hz0
          subst hz0
          exact ⟨z, hz, hc, h⟩
        · cases hz0
      · cases hz0
    · cases h
  obtain ⟨z, hz, hc, h⟩ := h
  · -- the literal
    · obtain ⟨hone, hkind⟩ := hc
      cases hf : fillA P t (z.toList.map ofCell) parts with
      | none => rw [hf] at h; cases h
      | some cs =>
        rw [hf] at h
        cases h
        have hz' : (zeroValue t).run P w = .ok (.agg z) w := by
          unfold zeroOf at hz
          cases hi : P.info? t with
          | none => rw [hi] at hz; cases hz
          | some i =>
            rw [hi] at hz
            simp at hz
            simp [zeroValue, typeInfo, hi, hz]
        have hone' : ∀ v ∈ z.toList, v.oneCell' = true := fun v hv => Array.all_eq_true_iff_forall_mem.1 hone v (Array.mem_toList_iff.1 hv)
        have hzc : All2 (FCell F ρ) (z.toList.map ofCell) z.toList := (prepL_ofCells F ρ.G ρ.n _ hone').all2.mono fun _ _ _ h => .p h
        have hzo : ∀ c ∈ z.toList.map ofCell, c.isOne = true := by
          intro c hc
          obtain ⟨a, _, rfl⟩ := List.mem_map.1 hc
          exact ofCell_one a
        cases hps : placesOf P t with
        | some ps =>
          have hst : ∃ fs, P.underlying t = some (.struct fs) ∧ (fs.toList.mapM fun f => (P.info? f.type).map fun i => (f.offset, i.size)) = some ps := by
            unfold placesOf at hps
            split at hps
            · exact ⟨_, by assumption, hps⟩
            · cases hps
          obtain ⟨fs, hu, hm⟩ := hst
          obtain ⟨ws, hw1, hw2, hw3⟩ := run_fill (P := P) (F := F) (ρ := ρ) (t := t) (ps.toArray[·]?) (by
            intro i y hy
            unfold placeA at hy
            rw [hps] at hy
            simpa using hy) parts pv _ _ z hf hzc hzo hall
          refine ⟨.agg ws, ?_, by simpa using FRep.agg (vs := ws.toList) hw2 hw3⟩
          unfold Instr.build
          simp only [Sem.run_bind, hz', Result.andThen_ok, run_underlying hu]
          have hmm := run_mapM_places (P := P) w fs.toList ps hm
          rw [← Array.toArray_toList (xs := fs), List.mapM_toArray, run_map, hmm]
          simp only [Sem.run_pure, Result.andThen_ok, Value.cells, hw1]
        | none =>
          cases har : arrOf P t with
          | none => simp [hps, har] at hkind
          | some ne =>
            obtain ⟨n, e⟩ := ne
            have hu : P.underlying t = some (.array n e) := by
              unfold arrOf at har
              split at har
              · rename_i hu; cases har; exact hu
              · cases har
            cases hi : P.info? e with
            | none => simp [hps, har, hi] at hkind
            | some ie =>
              obtain ⟨ws, hw1, hw2, hw3⟩ := run_fill (P := P) (F := F) (ρ := ρ) (t := t) (fun i => some (i * ie.size, ie.size)) (by
                intro i y hy
                unfold placeA at hy
                rw [hps] at hy
                simp [har, hi] at hy
                simp [hy]) parts pv _ _ z hf hzc hzo hall
              refine ⟨.agg ws, ?_, by simpa using FRep.agg (vs := ws.toList) hw2 hw3⟩
              unfold Instr.build
              simp only [Sem.run_bind, hz', Result.andThen_ok, run_underlying hu, sizeOf, typeInfo, program, Sem.run, hi, Sem.run_pure, Value.cells, hw1]

end
end Go.Abs
