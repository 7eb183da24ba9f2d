/-
  types.Data at this program.
-/
import Derived.Test.YtnbbnjmjpnncfaaYW01
import Derived.Test.YtnbbnjmjpnncfaaNod
set_option linter.unusedSimpArgs false
set_option linter.unusedVariables false
namespace Go.Proofs
open Go Go.RowKit Go.Shelf Go.Abs Go.Mdl
attribute [local go_sem] Oper.semAt_some

theorem ty_cells {F : Imm} {G : Nat → Nat} {n : Nat} {t : Ty} {v : Value} (h : PRep F G n t.av v) : ∃ c1, v = .agg #[.int .i64 t.kind, c1] ∧ PRep F G n (.slice .frz (t.args.map Ty.av)) c1 := by
  rw [Ty.av_eq] at h
  cases h with
  | agg h1 h2 =>
    cases h1 with
    | cons p h1 =>
      cases h1 with
      | cons q h1 =>
        cases h1
        have e := prep_int p
        subst e
        exact ⟨_, rfl, q⟩

theorem cell_al {w : World} {a : Addr} {v : Value} (o : Obj) (h : w.cell? a = some v) : (w.alloc o).cell? a = some v :=
  (((Below.refl w.heap.size w).alloc (Nat.le_refl _) o).cell (p := a) (World.block_lt_of_cell? w a h)).trans h

set_option maxRecDepth 100000 in
set_option maxHeartbeats 4000000 in
theorem Try.Data_calls {a0 : Ty} {G : Nat → Nat} {FI : Imm} {w : World} {v : Value} (hg : GW tabs1 G FI [] w) (ha : PRep FI G 0 a0.av v) {b : Bool} {ec : Int} (hm : types_Data a0 = some (b, ec)) :
    Calls Try.prog 14 #[v] w fun e w' => e = .returned (.tuple #[.bool b, .int .i64 ec]) ∧ Below w.heap.size w w' := by
  obtain ⟨c1, rfl, h1⟩ := ty_cells ha
  obtain ⟨sb, sc, rfl⟩ : ∃ sb sc, c1 = .slice sb a0.args.length sc := by
    cases h1 with
    | slice => exact ⟨_, _, by rw [List.length_map]⟩
  unfold types_Data at hm
  obtain ⟨ek, hk, hm⟩ := bind1_some hm
  have hF0 : ImmB FI w.heap.size w := fun b o v hv => by
    refine ⟨?_, hg.imm b o v hv⟩
    rcases Nat.lt_or_ge b w.heap.size with h | h
    · exact h
    · rw [hg.fresh b o h] at hv; cases hv
  have hchk : ∀ w1, Below w.heap.size w w1 → CallsIn Fence.wide 2 Try.prog 22 #[.agg #[.int .i64 a0.kind, .slice sb a0.args.length sc]] w1 fun e w' => e = .returned (.int .i64 ek) ∧ Below w1.heap.size w1 w' := fun w1 hw1 =>
    callsIn_wide.2 (ACall.calls (T := tabs1) (Ytnbbnjmjpnncfaa.r_types_Check hk) (fun F G x h => prep_int h) (hg.below hw1) (vs := [_]) (.cons ha .nil))
  refine (callsIn_wide (n := 3)).1 ?_
  refine callsIn_of_wp_marks Try.func14 rfl trivial ?_ rfl
  simp only [Try.ntmps14, List.size_toArray, List.length_cons, List.length_nil, Nat.reduceAdd, Nat.reduceSub, Array.replicate_succ, Array.replicate_zero, List.push_toArray, List.append_toArray, List.nil_append, List.cons_append]
  obtain ⟨w1, hw1⟩ : ∃ w1, ((w.alloc (.cells #[.int .i64 a0.kind, .slice sb a0.args.length sc] 29)).alloc (.cells #[.bool false] 4)).alloc (.cells #[.int .i64 0] 31) = w1 := ⟨_, rfl⟩
  have hB1 : Below w.heap.size w w1 := by
    rw [← hw1]
    exact (((Below.refl _ w).alloc (Nat.le_refl _) _).alloc (by simp) _).alloc (by simp; omega) _
  have hs1 : w1.heap.size = w.heap.size + 3 := by rw [← hw1]; simp
  have q0 : w1.cell? ⟨w.heap.size, 0, none⟩ = some (.int .i64 a0.kind) := by
    rw [← hw1]
    have e : (w.alloc (.cells #[.int .i64 a0.kind, .slice sb a0.args.length sc] 29)).cell? ⟨w.heap.size, 0, none⟩ = some (.int .i64 a0.kind) := by rw [World.cell?_alloc_new]; rfl
    exact cell_al _ (cell_al _ e)
  have q1 : w1.cell? ⟨w.heap.size, 1, none⟩ = some (.slice sb a0.args.length sc) := by
    rw [← hw1]
    have e : (w.alloc (.cells #[.int .i64 a0.kind, .slice sb a0.args.length sc] 29)).cell? ⟨w.heap.size, 1, none⟩ = some (.slice sb a0.args.length sc) := by rw [World.cell?_alloc_new]; rfl
    exact cell_al _ (cell_al _ e)
  have x2 : Boxed w1 (w.heap.size + 1) 4 (.bool false) := by
    rw [← hw1]
    have := Boxed.new (w.alloc (.cells #[.int .i64 a0.kind, .slice sb a0.args.length sc] 29)) 4 (.bool false)
    rw [World.size_alloc] at this
    exact this.alloc _
  have x3 : Boxed w1 (w.heap.size + 1 + 1) 31 (.int .i64 0) := by
    rw [← hw1]
    have := Boxed.new ((w.alloc (.cells #[.int .i64 a0.kind, .slice sb a0.args.length sc] 29)).alloc (.cells #[.bool false] 4)) 31 (.int .i64 0)
    rwa [World.size_alloc, World.size_alloc] at this
  have hck := hchk w1 hB1
  by_cases he : ek = 0
  · subst he
    gi_wp2_with (first
      | (refine ⟨trivial, ?_⟩; gi_at_call 22; refine hck.mono ?_; clear hck; rintro e w2 ⟨rfl, hb2⟩; have q0' := (hb2.cell (p := ⟨w.heap.size, 0, none⟩) (by show w.heap.size < _; omega)).trans q0; have q1' := (hb2.cell (p := ⟨w.heap.size, 1, none⟩) (by show w.heap.size < _; omega)).trans q1)
      | (refine ⟨trivial, ?_⟩; gi_at_call 39; refine (Try.nodes_in _ _ _ _).mono ?_; rintro e w3 ⟨rfl, hw3⟩))
    have hs2 := hb2.size
    have hm' : a0.cnt ≤ 1000000 ∧ b = bnot (a0.anyK fun k => k == 4) ∧ ec = 0 := by
      rw [if_neg (by decide)] at hm
      obtain ⟨h1, h2⟩ := chk_some hm
      cases h2
      exact ⟨of_decide_eq_true h1, rfl, rfl⟩
    obtain ⟨hcnt, rfl, rfl⟩ := hm'
    obtain ⟨w3, hw3⟩ : ∃ w3, w2.alloc (Obj.cells #[Value.int IntKind.i64 a0.kind, Value.slice sb a0.args.length sc] 29) = w3 := ⟨_, rfl⟩
    have s3 : w3.heap.size = w2.heap.size + 1 := by rw [← hw3]; simp
    have p0 : w3.cell? ⟨w2.heap.size, 0, none⟩ = some (.int .i64 a0.kind) := by rw [← hw3, World.cell?_alloc_new]; rfl
    have p1 : w3.cell? ⟨w2.heap.size, 1, none⟩ = some (.slice sb a0.args.length sc) := by rw [← hw3, World.cell?_alloc_new]; rfl
    have y2 : Boxed w3 (w.heap.size + 1) 4 (.bool false) := by
      rw [← hw3]
      exact Boxed.alloc ((hb2.block _ (by omega)).trans x2) _
    have y3 : Boxed w3 (w.heap.size + 1 + 1) 31 (.int .i64 0) := by
      rw [← hw3]
      exact Boxed.alloc ((hb2.block _ (by omega)).trans x3) _
    have B3 : Below w.heap.size w w3 := by
      rw [← hw3]
      exact (hB1.trans (hb2.mono (by omega))).alloc (by omega) _
    rw [hw3]
    have hap : ∀ {β : Type} {K : β → Prop}, Apart w3.heap.size (fun (s : β) W => (Boxed W (w.heap.size + 1) 4 (.bool false) ∧ Boxed W (w.heap.size + 1 + 1) 31 (.int .i64 0) ∧ K s) ∧ Below w.heap.size w W) := fun s A B row hs hgr hr =>
      ⟨⟨hs.1.1.kept hgr (fun e => by have := hr _ e.symm; omega), hs.1.2.1.kept hgr (fun e => by have := hr _ e.symm; omega), hs.1.2.2⟩, hs.2.grown hgr hs.2.size (fun r e => by have := hr r e; omega)⟩
    refine wp_iter (n₀ := w.heap.size) rfl (by decide) (gf := 48) (lb := #[.pointer (some ⟨w2.heap.size, 0, none⟩)]) rfl trivial (enters_of Try.func48 (by kernel_rfl) rfl) (by omega)
      (Try.nodes_iter 2 (by decide) w2.heap.size w.heap.size FI G 0 a0 _ hcnt w3 (by omega) (by omega) (hF0.below B3) h1 p0 p1) (fun _ => rfl)
      (fun (pre : List Nd) W => (Boxed W (w.heap.size + 1) 4 (.bool false) ∧ Boxed W (w.heap.size + 1 + 1) 31 (.int .i64 0) ∧ ∀ x ∈ pre, x.k ≠ 4) ∧ Below w.heap.size w W)
      (fun (pre : List Nd) W => (Boxed W (w.heap.size + 1) 4 (.bool false) ∧ Boxed W (w.heap.size + 1 + 1) 31 (.int .i64 0) ∧ ∃ x ∈ pre, x.k = 4) ∧ Below w.heap.size w W)
      hap hap ⟨⟨y2, y3, by simp⟩, B3⟩
      (fun (x : Nd) a' W => ∃ Bx, w3.heap.size + 2 ≤ Bx ∧ W.heap[Bx]? = some (.cells #[.int .i64 x.k, .slice x.b x.l x.c] 29 (0, 0)) ∧ a' = ⟨#[Value.agg #[Value.int IntKind.i64 a0.kind, Value.slice sb a0.args.length sc],
          Value.pointer (some { block := w.heap.size, off := 0 }),
          Value.pointer (some { block := w.heap.size + 1, off := 0 }),
          Value.pointer (some { block := w.heap.size + 1 + 1, off := 0 }), Value.int IntKind.i64 0, Value.pointer (some { block := Bx, off := 0 }),
          Value.agg #[Value.int IntKind.i64 a0.kind, Value.slice sb a0.args.length sc], Value.int IntKind.i64 0,
          Value.int IntKind.i64 0, Value.bool false, undef,
          Value.agg #[Value.int IntKind.i64 a0.kind, Value.slice sb a0.args.length sc],
          Value.func (Fn.func 48) #[] #[Value.pointer (some { block := w2.heap.size, off := 0 })], .agg #[.int .i64 x.k, .slice x.b x.l x.c], undef, undef,
          undef], []⟩) ?assign ?body ?hAx ?done ?stop
    case assign =>
      intro l pre x W K hi hsz hK
      unfold Nd.enc
      gi_wp2
      refine hK _ _ ⟨W.heap.size, by omega, World.alloc_heap_new W _, rfl⟩ (KeepsOthers.alloc _ _) (fun k hk => Below.heap_alloc _ _ _ hk) ((Below.refl _ W).alloc hi.2.size _) ((hap (K := fun pre : List Nd => ∀ x ∈ pre, x.k ≠ 4)).alloc _ hi)
    case body =>
      rintro l pre x a' W ⟨⟨z2, z3, hp⟩, hB⟩ ⟨Bx, hBx, bX, rfl⟩ _
      have g0 : W.cell? ⟨Bx, 0, none⟩ = some (.int .i64 x.k) := by simp [World.cell?, bX]
      have g2 := z2.frozen
      have g3 := z3.frozen
      have g4 := z2.cell
      have g5 := z3.cell
      by_cases hx : x.k = 4
      · gi_wp2
        exact ⟨(KeepsOthers.setCell _ _ _).trans (KeepsOthers.setCell _ _ _), ⟨(z2.set _).other (by omega) _, (z3.other (by omega) _).set _, x, by simp, hx⟩, (hB.setCell (p := ⟨w.heap.size + 1, 0, none⟩) (by simp) _).setCell (p := ⟨w.heap.size + 1 + 1, 0, none⟩) (by simp; omega) _⟩
      · have hx2 : (x.k == 4) = false := by simpa using hx
        gi_wp2
        exact ⟨KeepsOthers.refl W, fun _ _ _ => rfl, Below.refl _ W, ⟨z2, z3, fun y hy => (List.mem_append.1 hy).elim (hp y) (fun e => by simp at e; subst e; exact hx)⟩, hB⟩
    case hAx =>
      rintro x a' W l o ⟨Bx, hBx, bX, rfl⟩ hl
      exact ⟨Bx, hBx, (World.putObj_heap_other (by omega)).trans bX, rfl⟩
    case done =>
      rintro D xs W hD hS ⟨⟨z2, z3, hp⟩, hB⟩ hK
      have g2 := z2.frozen
      have g3 := z3.frozen
      have g4 := z2.cell
      have g5 := z3.cell
      have hb : bnot (a0.anyK fun k => k == 4) = true := by
        rw [← hS, show (xs.any fun x => x.k == 4) = false by
          rw [List.any_eq_false]
          intro x hx
          simpa using hp x hx]
        rfl
      gi_wp2
      have z2' := (z2.set (.bool true)).other (B' := w.heap.size + 1 + 1) (by omega) (.int .i64 0)
      have z3' := (z3.other (B' := w.heap.size + 1) (by omega) (.bool true)).set (.int .i64 0)
      have hK' := ((KeepsOthers.setCell W ⟨w.heap.size + 1, 0, none⟩ (.bool true)).trans (KeepsOthers.setCell _ ⟨w.heap.size + 1 + 1, 0, none⟩ (.int .i64 0))).same D _ hK rfl
      have hB' := (hB.setCell (p := ⟨w.heap.size + 1, 0, none⟩) (by simp) (.bool true)).setCell (p := ⟨w.heap.size + 1 + 1, 0, none⟩) (by simp; omega) (.int .i64 0)
      refine ⟨by simp, .inl ⟨_, _, rfl, run_takeDeferred hK', ?_⟩⟩
      have k2 := (z2'.kept (grownBy_putObj' _ D (.deferred none)) (fun e => by cases e; omega)).cell
      have k3 := (z3'.kept (grownBy_putObj' _ D (.deferred none)) (fun e => by cases e; omega)).cell
      refine ⟨_, ?_, (by rw [hb]), hB'.trans (belowK_b (w := w) (Nat.le_refl _) _ D _ _ (by omega) hK' rfl rfl)⟩
      simp [results, Try.f14, go_sem, k2, k3]
    case stop =>
      rintro D pre W hD hS ⟨⟨z2, z3, x, hx, hx4⟩, hB⟩ hK
      have hb : bnot (a0.anyK fun k => k == 4) = false := by
        rw [hS (fun k => k == 4) (by rw [List.any_eq_true]; exact ⟨x, hx, by simp [hx4]⟩)]
        rfl
      gi_wp2
      refine ⟨by simp, .inl ⟨_, _, rfl, run_takeDeferred hK, ?_⟩⟩
      have k2 := (z2.kept (grownBy_putObj' _ D (.deferred none)) (fun e => by cases e; omega)).cell
      have k3 := (z3.kept (grownBy_putObj' _ D (.deferred none)) (fun e => by cases e; omega)).cell
      refine ⟨_, ?_, (by rw [hb]), hB.trans (belowK_b (w := w) (Nat.le_refl _) _ D _ _ (by omega) hK rfl rfl)⟩
      simp [results, Try.f14, go_sem, k2, k3]
  · have hm' : b = false ∧ ec = ek := by
      rw [if_pos (by simp [ine, he])] at hm
      cases hm
      exact ⟨rfl, rfl⟩
    obtain ⟨rfl, rfl⟩ := hm'
    have he2 : (ec != 0) = true := by simp [he]
    gi_wp2_with (refine ⟨trivial, ?_⟩; gi_at_call 22; refine hck.mono ?_; clear hck; rintro e w2 ⟨rfl, hb2⟩; have y2 : Boxed w2 (w.heap.size + 1) 4 (.bool false) := (hb2.block _ (by omega)).trans x2; have y3 : Boxed w2 (w.heap.size + 1 + 1) 31 (.int .i64 0) := (hb2.block _ (by omega)).trans x3; have g2 := y2.frozen; have g3 := y3.frozen; have g4 := y2.cell; have g5 := y3.cell)
    have k2 := ((y2.set (.bool false)).other (B' := w.heap.size + 1 + 1) (by omega) (.int .i64 ec)).cell
    have k3 := ((y3.other (B' := w.heap.size + 1) (by omega) (.bool false)).set (.int .i64 ec)).cell
    have hB2 := (((hB1.trans (hb2.mono (by omega))).setCell (p := ⟨w.heap.size + 1, 0, none⟩) (by simp) (.bool false)).setCell (p := ⟨w.heap.size + 1 + 1, 0, none⟩) (by simp; omega) (.int .i64 ec))
    refine ⟨_, ?_, rfl, hB2⟩
    simp [results, Try.f14, go_sem, k2, k3]

/-- types.Data does what the model says. -/
theorem Try.data_C : C1 Try.prog 14 types_Data (Go.Abs.t2 sB sI) Ty.av := by
  intro T H a0 r hm
  obtain ⟨b, ec⟩ := r
  refine ACall.ofCalls (by decide +kernel) fun G F w vs hg ha => ?_
  cases ha with
  | cons h1 h2 =>
    cases h2
    refine ⟨.tuple #[.bool b, .int .i64 ec], .tuple (vs := [_, _]) (.cons (.sc rfl) (.cons (.sc rfl) .nil)), ?_⟩
    exact Try.Data_calls (gw_bare hg) (h1.lower (Ty.low_av 0 a0)) hm
end Go.Proofs
