/- How raw values of structures, as they lie in memory at the start, stand for values of the models. -/
import Derived.Test.YtnbbnjmjpnncfaaYE
import Derived.Test.YtnbbnjmjpnncfaaLift
import Derived.ChangeArms
set_option maxRecDepth 100000
set_option linter.unusedSimpArgs false
set_option linter.unusedVariables false
namespace Go.Proofs.Ytnbbnjmjpnncfaa
open Go Go.Abs Go.Mdl
section
variable {H : Type} {enc : TypeId × Value → H} {W : World}
theorem cellsInt : Try.prog.cellsOf 3 = 1 := by kernel_rfl
theorem cellsTy : Try.prog.cellsOf 29 = 2 := by kernel_rfl
theorem cellsSl27 : Try.prog.cellsOf 27 = 1 := by kernel_rfl
theorem lenTy (a : Ty) : a.av.cells.length = 2 := by rw [Ty.cells_av]; rfl
theorem oneTy (a : Ty) : ∀ y ∈ a.av.cells, y.isOne = true := by
  intro y hy
  rw [Ty.cells_av] at hy
  simp only [List.mem_cons, List.not_mem_nil, or_false] at hy
  rcases hy with rfl | rfl <;> rfl
theorem lift_Ty : ∀ (fuel : Nat) (cs : List Value) (x : DataW H × List MemPlace), DataW.trod enc Try.prog W 0 (fun _ => true) true fuel 29 cs = some x → ∃ a : Ty, LRep W a.av.cells cs := by
  intro fuel
  induction fuel using Nat.strongRecOn with
  | _ fuel ih =>
    intro cs x h
    obtain ⟨xs, n, rfl, _, hl0, hxs, hf⟩ := DataW.trod_struct Try.underlying29 h
    have hl : cs.length = 2 := hl0.trans cellsTy
    obtain ⟨y0, h0⟩ := lift_field (i := 0) hxs hf rfl (u := 3) rfl (off := 0) rfl cellsInt
    obtain ⟨a0, r0⟩ := lift_int Try.underlying3 h0
    obtain ⟨y1, h1⟩ := lift_field (i := 1) hxs hf rfl (u := 27) rfl (off := 1) rfl cellsSl27
    obtain ⟨a1, r1⟩ := lift_slice Ty.av 2 Try.underlying27 cellsTy (by omega) lenTy oneTy h1 (fun f2 c2 x2 hlt => ih f2 (by omega) c2 x2)
    refine ⟨.mk a0 a1, ?_⟩
    rw [Ty.cells_av]
    exact lrep_part (off := 0) (n := 1) (off' := 1) rfl r0 (lrep_part (off := 1) (n := 1) (off' := 2) rfl r1 (lrep_end (Nat.le_of_eq hl)))
end
end Go.Proofs.Ytnbbnjmjpnncfaa
