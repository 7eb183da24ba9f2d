/- How raw values of structures, as they lie in memory at the start, stand for values of the models. -/
import Derived.Test.YtanjokijgbgcpaaGreatDoorTE
import Derived.Test.YtanjokijgbgcpaaGreatDoorLift
import Derived.ChangeArms
set_option maxRecDepth 100000
set_option linter.unusedSimpArgs false
set_option linter.unusedVariables false
namespace Go.Proofs.YtanjokijgbgcpaaGreatDoor
open Go Go.Abs Go.Mdl
section
variable {H : Type} {enc : TypeId × Value → H} {W : World}
theorem cellsInt : Tryz.prog.cellsOf 3 = 1 := by kernel_rfl
theorem cellsTy : Tryz.prog.cellsOf 25 = 2 := by kernel_rfl
theorem cellsTm : Tryz.prog.cellsOf 44 = 5 := by kernel_rfl
theorem cellsFm : Tryz.prog.cellsOf 29 = 5 := by kernel_rfl
theorem cellsSl23 : Tryz.prog.cellsOf 23 = 1 := by kernel_rfl
theorem cellsSl26 : Tryz.prog.cellsOf 26 = 1 := by kernel_rfl
theorem cellsSl27 : Tryz.prog.cellsOf 27 = 1 := by kernel_rfl
theorem lenTy (a : Ty) : a.av.cells.length = 2 := by rw [Ty.cells_av]; rfl
theorem oneTy (a : Ty) : ∀ y ∈ a.av.cells, y.isOne = true := by
  intro y hy
  rw [Ty.cells_av] at hy
  simp only [List.mem_cons, List.not_mem_nil, or_false] at hy
  rcases hy with rfl | rfl <;> rfl
theorem lift_Ty : ∀ (fuel : Nat) (cs : List Value) (x : DataW H × List MemPlace), DataW.trod enc Tryz.prog W 0 (fun _ => true) true fuel 25 cs = some x → ∃ a : Ty, LRep W a.av.cells cs := by
  intro fuel
  induction fuel using Nat.strongRecOn with
  | _ fuel ih =>
    intro cs x h
    obtain ⟨xs, n, rfl, _, hl0, hxs, hf⟩ := DataW.trod_struct Tryz.underlying25 h
    have hl : cs.length = 2 := hl0.trans cellsTy
    obtain ⟨y0, h0⟩ := lift_field (i := 0) hxs hf rfl (u := 3) rfl (off := 0) rfl cellsInt
    obtain ⟨a0, r0⟩ := lift_int Tryz.underlying3 h0
    obtain ⟨y1, h1⟩ := lift_field (i := 1) hxs hf rfl (u := 23) rfl (off := 1) rfl cellsSl23
    obtain ⟨a1, r1⟩ := lift_slice Ty.av 2 Tryz.underlying23 cellsTy (by omega) lenTy oneTy h1 (fun f2 c2 x2 hlt => ih f2 (by omega) c2 x2)
    refine ⟨.mk a0 a1, ?_⟩
    rw [Ty.cells_av]
    exact lrep_part (off := 0) (n := 1) (off' := 1) rfl r0 (lrep_part (off := 1) (n := 1) (off' := 2) rfl r1 (lrep_end (Nat.le_of_eq hl)))
theorem lenTm (a : Tm) : a.av.cells.length = 5 := by rw [Tm.cells_av]; rfl
theorem oneTm (a : Tm) : ∀ y ∈ a.av.cells, y.isOne = true := by
  intro y hy
  rw [Tm.cells_av] at hy
  simp only [List.mem_cons, List.not_mem_nil, or_false] at hy
  rcases hy with rfl | rfl | rfl | rfl | rfl <;> rfl
theorem lift_Tm : ∀ (fuel : Nat) (cs : List Value) (x : DataW H × List MemPlace), DataW.trod enc Tryz.prog W 0 (fun _ => true) true fuel 44 cs = some x → ∃ a : Tm, LRep W a.av.cells cs := by
  intro fuel
  induction fuel using Nat.strongRecOn with
  | _ fuel ih =>
    intro cs x h
    obtain ⟨xs, n, rfl, _, hl0, hxs, hf⟩ := DataW.trod_struct Tryz.underlying44 h
    have hl : cs.length = 5 := hl0.trans cellsTm
    obtain ⟨y0, h0⟩ := lift_field (i := 0) hxs hf rfl (u := 3) rfl (off := 0) rfl cellsInt
    obtain ⟨a0, r0⟩ := lift_int Tryz.underlying3 h0
    obtain ⟨y1, h1⟩ := lift_field (i := 1) hxs hf rfl (u := 3) rfl (off := 1) rfl cellsInt
    obtain ⟨a1, r1⟩ := lift_int Tryz.underlying3 h1
    obtain ⟨y2, h2⟩ := lift_field (i := 2) hxs hf rfl (u := 25) rfl (off := 2) rfl cellsTy
    obtain ⟨a2, r2⟩ := lift_Ty _ _ _ h2
    rw [Ty.cells_av] at r2
    obtain ⟨y3, h3⟩ := lift_field (i := 3) hxs hf rfl (u := 26) rfl (off := 4) rfl cellsSl26
    obtain ⟨a3, r3⟩ := lift_slice Tm.av 5 Tryz.underlying26 cellsTm (by omega) lenTm oneTm h3 (fun f2 c2 x2 hlt => ih f2 (by omega) c2 x2)
    refine ⟨.mk a0 a1 a2 a3, ?_⟩
    rw [Tm.cells_av]
    exact lrep_part (off := 0) (n := 1) (off' := 1) rfl r0 (lrep_part (off := 1) (n := 1) (off' := 2) rfl r1 (lrep_part (off := 2) (n := 2) (off' := 4) rfl r2 (lrep_part (off := 4) (n := 1) (off' := 5) rfl r3 (lrep_end (Nat.le_of_eq hl)))))
theorem lenFm (a : Fm) : a.av.cells.length = 5 := by rw [Fm.cells_av]; rfl
theorem oneFm (a : Fm) : ∀ y ∈ a.av.cells, y.isOne = true := by
  intro y hy
  rw [Fm.cells_av] at hy
  simp only [List.mem_cons, List.not_mem_nil, or_false] at hy
  rcases hy with rfl | rfl | rfl | rfl | rfl <;> rfl
theorem lift_Fm : ∀ (fuel : Nat) (cs : List Value) (x : DataW H × List MemPlace), DataW.trod enc Tryz.prog W 0 (fun _ => true) true fuel 29 cs = some x → ∃ a : Fm, LRep W a.av.cells cs := by
  intro fuel
  induction fuel using Nat.strongRecOn with
  | _ fuel ih =>
    intro cs x h
    obtain ⟨xs, n, rfl, _, hl0, hxs, hf⟩ := DataW.trod_struct Tryz.underlying29 h
    have hl : cs.length = 5 := hl0.trans cellsFm
    obtain ⟨y0, h0⟩ := lift_field (i := 0) hxs hf rfl (u := 3) rfl (off := 0) rfl cellsInt
    obtain ⟨a0, r0⟩ := lift_int Tryz.underlying3 h0
    obtain ⟨y1, h1⟩ := lift_field (i := 1) hxs hf rfl (u := 25) rfl (off := 1) rfl cellsTy
    obtain ⟨a1, r1⟩ := lift_Ty _ _ _ h1
    rw [Ty.cells_av] at r1
    obtain ⟨y2, h2⟩ := lift_field (i := 2) hxs hf rfl (u := 26) rfl (off := 3) rfl cellsSl26
    obtain ⟨a2, r2⟩ := lift_slice Tm.av 5 Tryz.underlying26 cellsTm (by omega) lenTm oneTm h2 (fun f2 c2 x2 _ => lift_Tm f2 c2 x2)
    obtain ⟨y3, h3⟩ := lift_field (i := 3) hxs hf rfl (u := 27) rfl (off := 4) rfl cellsSl27
    obtain ⟨a3, r3⟩ := lift_slice Fm.av 5 Tryz.underlying27 cellsFm (by omega) lenFm oneFm h3 (fun f2 c2 x2 hlt => ih f2 (by omega) c2 x2)
    refine ⟨.mk a0 a1 a2 a3, ?_⟩
    rw [Fm.cells_av]
    exact lrep_part (off := 0) (n := 1) (off' := 1) rfl r0 (lrep_part (off := 1) (n := 2) (off' := 3) rfl r1 (lrep_part (off := 3) (n := 1) (off' := 4) rfl r2 (lrep_part (off := 4) (n := 1) (off' := 5) rfl r3 (lrep_end (Nat.le_of_eq hl)))))
end
end Go.Proofs.YtanjokijgbgcpaaGreatDoor
