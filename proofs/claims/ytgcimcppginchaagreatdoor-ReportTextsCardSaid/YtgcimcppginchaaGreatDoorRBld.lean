/-
  strings.Builder's methods at a builder that lies at the head of a greater structure (report's line): after the kit's own proofs (Builder1, BuilderK).
-/
import Derived.Test.YtgcimcppginchaaGreatDoorProg
import Derived.Test.YtgcimcppginchaaGreatDoorRSh
import Derived.Shelf.Strings.BuilderK
import Derived.WalkKit
set_option linter.unusedSimpArgs false
set_option linter.unusedVariables false
namespace Go.Proofs
open Go.Shelf Go.RowKit Go.Lib

/-- A line: a builder (its own address or nothing, its row of bytes), and an error behind it. -/
def LineAt (T e : TypeId) (B b : Nat) (p er : Value) (bs : List Value) (w : World) : Prop :=
  B ≤ b ∧ ∃ v, w.heap[b]? = some (.cells #[p, v, er] T (0, 0)) ∧ w.ownsRowF B e 1 v bs.length bs ∧ v.ownBlock ≠ some b
def IsLine (T e : TypeId) (B b : Nat) (er : Value) (bs : List Value) (w : World) : Prop :=
  LineAt T e B b (.pointer none) er bs w ∨ LineAt T e B b (.pointer (some ⟨b, 0, none⟩)) er bs w

theorem LineAt.lt {T e : TypeId} {B b : Nat} {p er : Value} {bs : List Value} {w : World} (h : LineAt T e B b p er bs w) : b < w.heap.size := by
  obtain ⟨_, v, hb, _⟩ := h
  exact (Array.getElem?_eq_some_iff.1 hb).1
theorem LineAt.used {T e : TypeId} {B b : Nat} {p er : Value} {bs : List Value} {w : World} (h : LineAt T e B b p er bs w) (q : Value) : LineAt T e B b q er bs (w.setCell ⟨b, 0, none⟩ q) := by
  obtain ⟨hB, v, hb, hown, hne⟩ := h
  refine ⟨hB, v, ?_, ?_, hne⟩
  · simp [World.setCell, Array.getElem?_modify, hb]
  · refine hown.kept (row := some b) ⟨rfl, rfl, rfl, by simp [World.setCell], fun k _ hk => Below.heap_setCell _ _ _ _ (fun e => hk (by simp [e]))⟩ ?_
    exact Or.inr hne
theorem LineAt.err {T e : TypeId} {B b : Nat} {p er : Value} {bs : List Value} {w : World} (h : LineAt T e B b p er bs w) (q : Value) : LineAt T e B b p q bs (w.setCell ⟨b, 2, none⟩ q) := by
  obtain ⟨hB, v, hb, hown, hne⟩ := h
  refine ⟨hB, v, ?_, ?_, hne⟩
  · simp [World.setCell, Array.getElem?_modify, hb]
  · refine hown.kept (row := some b) ⟨rfl, rfl, rfl, by simp [World.setCell], fun k _ hk => Below.heap_setCell _ _ _ _ (fun e => hk (by simp [e]))⟩ ?_
    exact Or.inr hne
theorem LineAt.put {T e : TypeId} {B b : Nat} {p v v' er : Value} {bs' : List Value} {w : World} (hB : B ≤ b) (hb : w.heap[b]? = some (.cells #[p, v, er] T (0, 0))) (hown : w.ownsRowF B e 1 v' bs'.length bs') (hTe : T ≠ e) :
    LineAt T e B b p er bs' (w.setCell ⟨b, 1, none⟩ v') := by
  have hne := ownBlock_neF hown hb hTe
  refine ⟨hB, v', ?_, ?_, hne⟩
  · simp [World.setCell, Array.getElem?_modify, hb]
  · exact hown.kept (row := some b) ⟨rfl, rfl, rfl, by simp [World.setCell], fun k _ hk => Below.heap_setCell _ _ _ _ (fun e => hk (by simp [e]))⟩ (Or.inr hne)
theorem LineAt.below {T e : TypeId} {B b : Nat} {p er : Value} {bs : List Value} {w w' : World} (h : LineAt T e B b p er bs w) (hb : Below w.heap.size w w') : LineAt T e B b p er bs w' := by
  obtain ⟨h1, v, h2, h3, h4⟩ := h
  have lt : ∀ {k : Nat} {o : Obj}, w.heap[k]? = some o → w'.heap[k]? = some o := fun {k o} hk => (hb.block k (Array.getElem?_eq_some_iff.1 hk).1).trans hk
  refine ⟨h1, v, lt h2, ⟨h3.1, ?_⟩, h4⟩
  rcases h3.2 with h5 | ⟨g, cap, cur, fz, h5, h6, h7, h8⟩
  · exact .inl h5
  · exact .inr ⟨g, cap, cur, fz, h5, h6, lt h7, h8⟩
theorem IsLine.below {T e : TypeId} {B b : Nat} {er : Value} {bs : List Value} {w w' : World} (h : IsLine T e B b er bs w) (hb : Below w.heap.size w w') : IsLine T e B b er bs w' :=
  h.elim (fun h => .inl (h.below hb)) (fun h => .inr (h.below hb))
theorem IsLine.alloc {T e : TypeId} {B b : Nat} {er : Value} {bs : List Value} {w : World} (h : IsLine T e B b er bs w) (o : Obj) : IsLine T e B b er bs (w.alloc o) :=
  h.below ((Below.refl _ w).alloc (Nat.le_refl _) o)
theorem IsLine.err {T e : TypeId} {B b : Nat} {er : Value} {bs : List Value} {w : World} (h : IsLine T e B b er bs w) (q : Value) : IsLine T e B b q bs (w.setCell ⟨b, 2, none⟩ q) :=
  h.elim (fun h => .inl (h.err q)) (fun h => .inr (h.err q))
theorem IsLine.le {T e : TypeId} {B b : Nat} {er : Value} {bs : List Value} {w : World} (h : IsLine T e B b er bs w) : B ≤ b := h.elim (fun h => h.1) (fun h => h.1)
theorem IsLine.cell2 {T e : TypeId} {B b : Nat} {er : Value} {bs : List Value} {w : World} (h : IsLine T e B b er bs w) : w.cell? ⟨b, 2, none⟩ = some er := by
  rcases h with ⟨_, v, hb, _⟩ | ⟨_, v, hb, _⟩ <;> simp [World.cell?, hb]
theorem IsLine.frozen {T e : TypeId} {B b : Nat} {er : Value} {bs : List Value} {w : World} (h : IsLine T e B b er bs w) (j : Nat) : w.frozen? ⟨b, j, none⟩ = false := by
  rcases h with ⟨_, v, hb, _⟩ | ⟨_, v, hb, _⟩ <;> exact Lib.frozen_of_heap hb j

theorem Tryz.x91 : (Tryz.prog.info? 91).map (·.size) = some 2 := by kernel_rfl
theorem Tryz.l93 : liesAt Tryz.prog Tryz.prog.depth 93 (3 / Tryz.prog.cellsOf 93) 0 91 1 = true := by kernel_rfl
theorem Tryz.info5 : (Tryz.prog.info? 5).map (fun i => (i.zero, i.size, i.bytes)) = some (some (.int .u8 0), 1, 1) := by kernel_rfl
theorem Tryz.enters47 : ∀ args w, (callFunc 47 args).run Tryz.prog w = .ok (.enter 47 args) w := enters_of Tryz.func47 (by kernel_rfl) rfl

set_option maxHeartbeats 2000000 in
set_option maxRecDepth 100000 in
/-- copyCheck at a fresh line: it stores its own address. -/
theorem Tryz.lcopy_fresh (b : Nat) (w : World) (h0 : w.cell? ⟨b, 0, none⟩ = some (.pointer none)) (hsh : w.shape? b = some (93, 3)) (hfz : w.frozen? ⟨b, 0, none⟩ = false) :
    Calls Tryz.prog 47 #[.pointer (some ⟨b, 0, none⟩)] w fun e w' => e = .returned (.tuple #[]) ∧ w' = w.setCell ⟨b, 0, none⟩ (.pointer (some ⟨b, 0, none⟩)) := by
  obtain ⟨j, hj, hjs⟩ := Option.map_eq_some_iff.1 Tryz.x91
  go_enter Tryz.func47, Tryz.ntmps47
  go_wp2
  rw [Lib.run_to_unsafe w ⟨b, 0, none⟩ Tryz.underlying88 Tryz.underlying123 hj (by rw [hjs]; decide) hsh (Nat.zero_lt_succ 2)]
  simp only [Result.andThen]
  rw [Oper.upon_value]
  go_wp2
  rw [run_callFunc_extern Tryz.func60 (by kernel_rfl) (by kernel_rfl) (by kernel_rfl) (e := Extern.AbiNoEscape.same) (by kernel_rfl)]
  rw [Lib.run_noEscape]
  simp only [Result.andThen]
  rw [Oper.upon_value]
  go_wp2
  rw [Lib.run_from_unsafe w ⟨b, 0, none⟩ Tryz.underlying123 Tryz.underlying88 hj hsh Tryz.l93]
  simp only [Result.andThen]
  rw [Oper.upon_value]
  go_wp2
  go_end0
  exact ⟨rfl, rfl⟩

set_option maxHeartbeats 2000000 in
set_option maxRecDepth 100000 in
theorem Tryz.lcopy_used (b : Nat) (w : World) (h0 : w.cell? ⟨b, 0, none⟩ = some (.pointer (some ⟨b, 0, none⟩))) :
    Calls Tryz.prog 47 #[.pointer (some ⟨b, 0, none⟩)] w fun e w' => e = .returned (.tuple #[]) ∧ w' = w := by
  obtain ⟨j, hj, _⟩ := Option.map_eq_some_iff.1 Tryz.x91
  go_enter Tryz.func47, Tryz.ntmps47
  go_wp2
  rw [Lib.run_neq_ptr_same w _ Tryz.underlying88 hj]
  go_wp2
  go_end0
  exact ⟨rfl, rfl⟩

/-- copyCheck: behind it the line holds its own address; its bytes are as they were. -/
theorem Tryz.lcopy (B b : Nat) (er : Value) (bs : List Value) (w : World) (h : IsLine 93 5 B b er bs w) :
    Calls Tryz.prog 47 #[.pointer (some ⟨b, 0, none⟩)] w fun e w' => e = .returned (.tuple #[]) ∧ (LineAt 93 5 B b (.pointer (some ⟨b, 0, none⟩)) er bs w' ∧ Below B w w') := by
  rcases h with h | h
  · obtain ⟨hB, v, hb, hr⟩ := id h
    refine (Tryz.lcopy_fresh b w (by rw [Lib.cell_of_heap hb]; rfl) (by simp [World.shape?, hb]) (Lib.frozen_of_heap hb 0)).mono ?_
    rintro e w' ⟨rfl, rfl⟩
    exact ⟨rfl, h.used _, (Below.refl B w).setCell (p := ⟨b, 0, none⟩) h.1 _⟩
  · obtain ⟨hB, v, hb, hr⟩ := id h
    refine (Tryz.lcopy_used b w (by rw [Lib.cell_of_heap hb]; rfl)).mono ?_
    rintro e w' ⟨rfl, rfl⟩
    exact ⟨rfl, h, Below.refl B _⟩

set_option maxHeartbeats 2000000 in
set_option maxRecDepth 100000 in
/-- WriteString. -/
theorem Tryz.lwrite (B b : Nat) (er : Value) (bs : List Value) (s : ByteArray) (w : World) (h : IsLine 93 5 B b er bs w) (hlen : bs.length + s.size ≤ 140737488355328) (hBw : B ≤ w.heap.size) :
    Calls Tryz.prog 34 #[.pointer (some ⟨b, 0, none⟩), .string s] w fun e w' => e = .returned (.tuple #[.int .i64 s.size, .nilIface]) ∧ (LineAt 93 5 B b (.pointer (some ⟨b, 0, none⟩)) er (bs ++ Lib.strCells s) w' ∧ Below B w w') := by
  obtain ⟨i0, hi, hz0, hz1, hz2⟩ := info_parts Tryz.info5
  have e240 := Tryz.enters47
  go_enter Tryz.func34, Tryz.ntmps34
  go_wp2_with (go_at_fn 47; refine (Tryz.lcopy B b er bs _ h).mono ?_)
  rintro e w1 ⟨rfl, h1, hb1⟩
  obtain ⟨hB, v, hbk, hown, hne⟩ := h1
  have c0 : w1.cell? ⟨b, 0, none⟩ = some (.pointer (some ⟨b, 0, none⟩)) := by rw [Lib.cell_of_heap hbk]; rfl
  have c1 : w1.cell? ⟨b, 1, none⟩ = some v := by rw [Lib.cell_of_heap hbk]; rfl
  go_wp2_with (at_builtin; refine Lib.wpList_append_own_stringF _ rfl _ _ 89 9 rfl B 5 i0 Tryz.underlying89 Tryz.underlying9 hi hz0 hz1 hz2 _ _ _ rfl hown s rfl ?c3 ?c4 ?c5 ?_)
  case c3 => unfold maxLen; omega
  case c4 => omega
  case c5 => have := hb1.size; omega
  intro v' w2 hown' hgrow _
  have hlt : b < w1.heap.size := by
    rcases Nat.lt_or_ge b w1.heap.size with h' | h'
    · exact h'
    · simp [Array.getElem?_eq_none h'] at hbk
  have hb2 : w2.heap[b]? = some (.cells #[.pointer (some ⟨b, 0, none⟩), v, er] 93 (0, 0)) := by
    rw [hgrow.block b hlt (fun e => hne e.symm)]
    exact hbk
  have d0 : w2.cell? ⟨b, 0, none⟩ = some (.pointer (some ⟨b, 0, none⟩)) := by rw [Lib.cell_of_heap hb2]; rfl
  have d1 : w2.cell? ⟨b, 1, none⟩ = some v := by rw [Lib.cell_of_heap hb2]; rfl
  have f1 : w2.frozen? ⟨b, 1, none⟩ = false := Lib.frozen_of_heap hb2 1
  obtain ⟨ao, n', cap, rfl⟩ : ∃ ao n' cap, v' = .slice ao n' cap := by
    rcases hown'.2 with ⟨hv, _⟩ | ⟨g, cap, cur, fz, hv, _⟩
    · exact ⟨_, _, _, hv⟩
    · exact ⟨_, _, _, hv⟩
  go_wp2
  go_ret2
  refine ⟨rfl, ?_, ?_⟩
  · exact LineAt.put (T := 93) (e := 5) hB hb2 (bs' := bs ++ Lib.strCells s) (by simpa [Lib.strCells_length] using hown') (by decide)
  · exact (hb1.grown hgrow (by have := hb1.size; omega) (fun k hk => (hown.lt k hk).1)).setCell (p := ⟨b, 1, none⟩) hB _

set_option maxHeartbeats 1000000 in
set_option maxRecDepth 100000 in
/-- String, of a line that holds a byte. -/
theorem Any.line_String {P : Program} {ρ : Ren} (L : Lays.n169 P ρ) (X : Builder.Extra P ρ) (T : TypeId) (B b : Nat) (er : Value) (l : List UInt8) (w : World) (h : IsLine T (ρ.t 5) B b er (Lib.byteCells l) w) (h0 : l ≠ []) :
    Calls P (ρ.f 169) #[.pointer (some ⟨b, 0, none⟩)] w fun e w' => e = .returned (.string ⟨l.toArray⟩) ∧ Below B w w' := by
  obtain ⟨p, hAt⟩ : ∃ p, LineAt T (ρ.t 5) B b p er (Lib.byteCells l) w := h.elim (fun h => ⟨_, h⟩) (fun h => ⟨_, h⟩)
  obtain ⟨hB, v, hbk, hown, hne⟩ := hAt
  have hl0 : l.length ≠ 0 := by simpa using h0
  rw [Lib.byteCells_length] at hown
  obtain ⟨g, cap, cur, fz, rfl, hbg, hg, hfz, hnc, hcm, hcs, htake⟩ : ∃ g cap cur fz, v = .slice (some ⟨g, 0, none⟩) l.length cap ∧ B ≤ g ∧ w.heap[g]? = some (.cells cur (ρ.t 5) fz) ∧ fz.2 ≤ l.length * 1 ∧ l.length ≤ cap ∧ cap ≤ maxLen ∧ cur.size = cap * 1 ∧ cur.toList.take (l.length * 1) = Lib.byteCells l := by
    rcases hown.2 with ⟨_, hz⟩ | ⟨g, cap, cur, fz, hv, r⟩
    · exact absurd hz hl0
    · exact ⟨g, cap, cur, fz, hv, r⟩
  have c1 : w.drew.cell? ⟨b, 1, none⟩ = some (.slice (some ⟨g, 0, none⟩) l.length cap) := by
    have : w.drew.heap[b]? = some (.cells #[p, .slice (some ⟨g, 0, none⟩) l.length cap, er] T (0, 0)) := hbk
    rw [Lib.cell_of_heap this]; rfl
  have hSD : (Builtin.unsafeSliceData_ #[(ρ.t 37)] (ρ.t 127) #[.slice (some ⟨g, 0, none⟩) l.length cap]).run P w.drew = .ok (.pointer (some ⟨g, 0, none⟩)) w.drew :=
    Lib.run_unsafeSliceData_row _ _ _ _ _ _ (by omega)
  have hUS : (Builtin.unsafeString_ #[(ρ.t 127), (ρ.t 3)] (ρ.t 9) #[.pointer (some ⟨g, 0, none⟩), .int .i64 l.length]).run P w.drew = .ok (.string ⟨l.toArray⟩) (w.drew.freeze ⟨g, 0, none⟩ l.length) := by
    refine Lib.run_unsafeString_row w.drew (ρ.t 127) (ρ.t 3) (ρ.t 9) (ρ.t 5) L.t127 X.cellsByte g cur.size (by have hg' : w.drew.heap[g]? = some (.cells cur (ρ.t 5) fz) := hg; simp [World.shape?, hg']) l h0 (by omega) (by unfold maxLen at hcm; omega) ?_
    intro j x hx
    have := hown.cells (g := g) rfl j (.int .u8 x.toNat) (by simp [Lib.byteCells, hx])
    exact this
  have mixed := L.mixed
  have t72 := L.t72; have a72 := L.a72; have z72 := L.z72; have v72 := L.v72; have u72 := run_underlying L.t72
  have t70 := L.t70; have a70 := L.a70; have z70 := L.z70; have v70 := L.v70; have u70 := run_underlying L.t70
  have t37 := L.t37; have a37 := L.a37; have z37 := L.z37; have v37 := L.v37; have u37 := run_underlying L.t37
  have t127 := L.t127; have a127 := L.a127; have z127 := L.z127; have v127 := L.v127; have u127 := run_underlying L.t127
  have t3 := L.t3; have a3 := L.a3; have z3 := L.z3; have v3 := L.v3; have u3 := run_underlying L.t3
  have t9 := L.t9; have a9 := L.a9; have z9 := L.z9; have v9 := L.v9; have u9 := run_underlying L.t9
  have t5 := X.t5; have a5 := X.a5; have z5 := X.z5; have v5 := X.v5; have u5 := run_underlying X.t5
  go_enter L.f169, Body.n169_ntmps ρ
  go_wp2
  go_region_o
  all_goals (go_wp2; go_ret; exact ⟨rfl, Lib.below_freeze (Below.drew (Below.refl B w)) (p := ⟨g, 0, none⟩) hbg _⟩)
theorem Tryz.lString (B b : Nat) (er : Value) (l : List UInt8) (w : World) (h : IsLine 93 5 B b er (Lib.byteCells l) w) (h0 : l ≠ []) :
    Calls Tryz.prog 35 #[.pointer (some ⟨b, 0, none⟩)] w fun e w' => e = .returned (.string ⟨l.toArray⟩) ∧ Below B w w' := Any.line_String Tryz.lays169 Tryz.Builder_Extra_169 93 B b er l w h h0
end Go.Proofs
