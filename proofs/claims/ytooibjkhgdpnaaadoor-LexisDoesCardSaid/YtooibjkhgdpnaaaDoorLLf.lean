/- How raw values of structures, as they lie in memory at the start, stand for values of the models. -/
import Derived.Test.YtooibjkhgdpnaaaDoorLE
import Derived.Test.YtooibjkhgdpnaaaDoorXp
import Derived.Test.YtooibjkhgdpnaaaDoorLift
import Derived.ChangeArms
set_option maxRecDepth 100000
set_option linter.unusedSimpArgs false
set_option linter.unusedVariables false
namespace Go.Proofs.YtooibjkhgdpnaaaDoor
open Go Go.Abs Go.Mdl
section
variable {H : Type} {enc : TypeId × Value → H} {W : World}
theorem cellsInt : Tryd.prog.cellsOf 3 = 1 := by kernel_rfl
theorem cellsStr : Tryd.prog.cellsOf 9 = 1 := by kernel_rfl
theorem lift_str {t fuel : Nat} {cs : List Value} {x : DataW H × List MemPlace} (ht : Tryd.prog.underlying t = some .string) (h : DataW.trod enc Tryd.prog W 0 (fun _ => true) true fuel t cs = some x) : ∃ s : ByteArray, LRep W [.sc (.string s)] cs := by
  obtain ⟨s, rfl, _, _⟩ := DataW.trod_string ht h
  exact ⟨s, .cons (.sc rfl) .nil⟩
theorem cellsTkn : Tryd.prog.cellsOf 35 = 4 := by kernel_rfl
theorem lenTkn (a : Tkn) : a.av.cells.length = 4 := by rw [Tkn.cells_av]; rfl
theorem oneTkn (a : Tkn) : ∀ y ∈ a.av.cells, y.isOne = true := by
  intro y hy
  rw [Tkn.cells_av] at hy
  simp only [List.mem_cons, List.not_mem_nil, or_false] at hy
  rcases hy with rfl | rfl | rfl | rfl <;> rfl
theorem lift_intR {t fuel : Nat} {cs : List Value} {x : DataW H × List MemPlace} (ht : Tryd.prog.underlying t = some (.int .i64)) (h : DataW.trod enc Tryd.prog W 0 (fun _ => true) true fuel t cs = some x) :
    ∃ k : Int, (-9223372036854775808 ≤ k ∧ k ≤ 9223372036854775807) ∧ LRep W [.sc (.int .i64 k)] cs := by
  obtain ⟨n, rfl, _, hw⟩ := DataW.trod_int ht h
  refine ⟨n, ?_, .cons (.sc rfl) .nil⟩
  simp only [Lit.wf, Bool.and_eq_true, decide_eq_true_eq] at hw
  exact hw
theorem lift_Tkn : ∀ (fuel : Nat) (cs : List Value) (x : DataW H × List MemPlace), DataW.trod enc Tryd.prog W 0 (fun _ => true) true fuel 35 cs = some x → ∃ a : {t : Tkn // inR t}, LRep W a.1.av.cells cs := by
  intro fuel
  induction fuel using Nat.strongRecOn with
  | _ fuel ih =>
    intro cs x h
    obtain ⟨xs, n, rfl, _, hl0, hxs, hf⟩ := DataW.trod_struct Tryd.underlying35 h
    have hl : cs.length = 4 := hl0.trans cellsTkn
    obtain ⟨y0, h0⟩ := lift_field (i := 0) hxs hf rfl (u := 3) rfl (off := 0) rfl cellsInt
    obtain ⟨a0, r0⟩ := lift_int Tryd.underlying3 h0
    obtain ⟨y1, h1⟩ := lift_field (i := 1) hxs hf rfl (u := 3) rfl (off := 1) rfl cellsInt
    obtain ⟨a1, g1, r1⟩ := lift_intR Tryd.underlying3 h1
    obtain ⟨y2, h2⟩ := lift_field (i := 2) hxs hf rfl (u := 3) rfl (off := 2) rfl cellsInt
    obtain ⟨a2, r2⟩ := lift_int Tryd.underlying3 h2
    obtain ⟨y3, h3⟩ := lift_field (i := 3) hxs hf rfl (u := 9) rfl (off := 3) rfl cellsStr
    obtain ⟨a3, r3⟩ := lift_str Tryd.underlying9 h3
    refine ⟨⟨.mk a0 a1 a2 a3, g1⟩, ?_⟩
    show LRep W (Tkn.mk a0 a1 a2 a3).av.cells cs
    rw [Tkn.cells_av]
    exact lrep_part (off := 0) (n := 1) (off' := 1) rfl r0 (lrep_part (off := 1) (n := 1) (off' := 2) rfl r1 (lrep_part (off := 2) (n := 1) (off' := 3) rfl r2 (lrep_part (off := 3) (n := 1) (off' := 4) rfl r3 (lrep_end (Nat.le_of_eq hl)))))
theorem arg_sl30 {v : Value} {d : DataW H} {ps : List MemPlace} {r : Reach} {b0 : Nat} (hval : Value.okWide Tryd.prog W r b0 30 v) (h : DataW.Trod enc Tryd.prog W 0 (fun _ => true) true 30 v d ps) :
    ∃ l : List Tkn, (∀ x ∈ l, inR x) ∧ LRep W [.slice .frz (l.map Tkn.av)] [v] := by
  obtain ⟨fuel, hf⟩ := h
  rw [cells_slice_ok Tryd.underlying30 hval] at hf
  obtain ⟨l, hl⟩ := lift_slice (α := {t : Tkn // inR t}) (fun a => a.1.av) 4 Tryd.underlying30 cellsTkn (by omega) (fun a => lenTkn a.1) (fun a => oneTkn a.1) hf (fun f2 c2 x2 _ => lift_Tkn f2 c2 x2)
  refine ⟨l.map (·.1), fun x hx => ?_, ?_⟩
  · obtain ⟨y, _, rfl⟩ := List.mem_map.1 hx
    exact y.2
  · rw [List.map_map]
    exact hl
end
end Go.Proofs.YtooibjkhgdpnaaaDoor
