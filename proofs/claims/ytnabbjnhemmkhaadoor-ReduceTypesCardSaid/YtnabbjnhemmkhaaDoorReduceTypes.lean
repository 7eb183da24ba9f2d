/- What is proved: ReduceTypes: for all arguments the law returns true, and they read behind the call as before. No condition beside the listed table of arities, which the card ties to the program's text. -/
import Derived.Test.YtnabbjnhemmkhaaDoorRR10
import Derived.Test.YtnabbjnhemmkhaaDoorQx
import Derived.Test.YtnabbjnhemmkhaaDoorLift
import Derived.Test.YtnabbjnhemmkhaaDoorRows
import Derived.Test.YtnabbjnhemmkhaaDoorCards
import Derived.Test.YtnabbjnhemmkhaaDoorTie
set_option linter.unusedSimpArgs false
set_option linter.unusedVariables false
namespace Go.Proofs.YtnabbjnhemmkhaaDoor
open Go Go.Abs Go.Mdl Go.ChangeShapes Go.WideShapes Go.ChangeAt Go.RowKit

theorem Tryd.own : ownKnob Tryd.prog.godebug = none := by kernel_rfl
theorem Tryd.laidOut : laidOutB Tryd.prog = true := by kernel_rfl
theorem gTab : Tryd.prog.globalNamed "proofprograms/tree.arities" = some 0 := by kernel_rfl
theorem tTab : (Tryd.prog.globals[0]?).map (·.type) = some 125 := by kernel_rfl
def tabT : Tabs := fun g => if g = 0 then some (AV.agg (List.map (fun n => AV.sc (Value.int .i64 n)) tree_arities)) else none
theorem tabT_rep {W : World} (h : laidMetH Tryd.prog Rows.reduceTypesRow.laid W) : ∀ g x, tabT g = some x → PRep (immOf W) (fun _ => 0) 0 (.rptr x) (.pointer (some ⟨g, 0, none⟩)) := by
  intro g x hx
  unfold tabT at hx
  split at hx
  · rename_i hg
    subst hg
    cases hx
    exact imm_of_laid (L := tree_arities) (show laidMetH Tryd.prog [("proofprograms/tree.arities", .agg (tree_arities.map fun n => DataW.lit (.int .i64 n)))] W from h) (by kernel_rfl) gTab tTab Tryd.underlying125 Tryd.underlying3 (by kernel_rfl)
  · cases hx
/-- The door's own heap meets the condition. -/
theorem door_met (os : Os) (args : Array Value) : laidMetH Tryd.prog Rows.reduceTypesRow.laid ((World.doorLaid Tryd.prog 400 os).forCall (fun _ _ => 0) ⟨#[], args, []⟩).memory :=
  laidMetH_of_parts3 (fuel := 8) (laidMet_of_run' 8 (by kernel_rfl) (by kernel_rfl)) (by kernel_rfl) (by kernel_rfl)

set_option maxRecDepth 100000 in
theorem reduceTypes_lifted (os : Os) (started : os.Started) (H : Type) (enc : TypeId × Value → H) :
    ReturnsInHanded {} Tryd.checked os 3 .any (fun w args => (Rows.reduceTypesSpec.pre enc Tryd.prog Tryd.f3 [] false w args ∧ laidMetH Tryd.prog Rows.reduceTypesRow.laid w) ∧ sizedMet enc Tryd.prog Tryd.f3 (OpenSpec.ofChange Rows.reduceTypesSpec) false w args)
      (Rows.reduceTypesSpec.post enc Tryd.prog Tryd.f3 false true false false) := by
  refine returnsInHanded_of_change_and (C := Tryd.checked) (X := fun w _ => laidMetH Tryd.prog Rows.reduceTypesRow.laid w) (fun _ _ _ hh h => h.of_heap hh) Tryd.own started (by kernel_rfl) Tryd.func3
    (ChangeSpec.witness_shaped (enc := enc) (C := Tryd.checked) (os := os) (X := fun w _ => laidMetH Tryd.prog Rows.reduceTypesRow.laid w) false (World.doorLaid Tryd.prog 400 os) #[.slice none 0 0] 8 rfl (World.shaped_of_RefB (by kernel_rfl) (by kernel_rfl)) (by kernel_rfl) (by kernel_rfl) (by kernel_rfl) (door_met os _)) ?_
  intro W base args ds gs before hval0 hW _ _ hL _
  have hval : ∀ (j : Nat) t v, Tryd.f3.params[j]? = some t → args[j]? = some v → Value.okWide Tryd.prog W .any base t v := hval0
  have hW' := hW
  obtain ⟨p, q, hA0, hV, rfl, hfz, hnd⟩ := hW
  have hA : DataW.TrodAll enc Tryd.prog W 0 (fun _ => true) true Tryd.f3.params.toList args.toList ds p := hA0
  rw [Tryd.params3] at hA hval
  obtain ⟨v0, vs0, d0, ds0, p0, q0, hargs, rfl, rfl, h0, r0⟩ := trodAll_cons hA
  obtain ⟨rfl, rfl, rfl⟩ := trodAll_nil r0
  obtain rfl : args = #[v0] := by cases args; simp_all
  obtain ⟨rfl, rfl⟩ := trodVars_none hV
  obtain ⟨x0, k0⟩ := arg_ints Tryd.underlying22 Tryd.underlying3 (by kernel_rfl) (hval 0 22 v0 rfl rfl) h0
  simp only [List.append_nil] at hW'
  have hlt0 : ∀ x ∈ p0, x.block < W.heap.size := fun x hx => by simpa using hW'.lt x (by simp [hx])
  refine ((r_law04_ReduceTypes tabT rfl (law_ReduceTypes x0)).law (tabT_rep hL) k0).mono fun e W' ⟨he, hb⟩ => ?_
  subst he
  exact ⟨_, rfl, post_of_below (pa := p0) (pv := []) hW' (fun _ _ _ => trodAll_mk1 (shut_bool Tryd.underlying4 _)) (fun sp hsp => by
      exact trodAll_mk1 (WideElems.Trod_stays Tryd.laidOut (by kernel_rfl) (of_decide_eq_true (by kernel_rfl)) h0 (fun x hx => hb.same (hlt0 x hx)) (fun x hx => hsp x (by simp [hx])))) (fun _ _ => rfl) (by simp)
    hb (ok_one (by kernel_rfl) rfl (okWide_bool_mk Tryd.underlying4 _))⟩

theorem reduceTypes_holds : Rows.ReduceTypesSaid :=
  OpenClaim.holds_of_wide 3 Tryd.f3 rfl rfl rfl rfl rfl rfl rfl ⟨rfl, rfl, rfl, rfl, rfl⟩ rfl rfl rfl rfl rfl (by kernel_rfl) Tryd.func3 (by kernel_rfl)
    (of_decide_eq_true (by kernel_rfl)) (by unfold Func.isWrapper; first | (rw [if_pos (by decide +kernel)]; kernel_rfl) | (rw [if_neg (by decide +kernel)]; exact ⟨rfl, rfl⟩))
    (fun os started H enc _ => reduceTypes_lifted os started H enc)
theorem reduceTypes_card : Rows.ReduceTypesCardSaid :=
  Claim7.holds_tied_plain_at .later [] [.data] true (true, "eaa3939f7df93c30bc2b8efe86066450ab390982be6b1a1fcc85919f3ee50ecd") false
    reduceTypes_holds (fun _ h => by cases h) (by kernel_rfl) (fun _ h => by cases h) reduceTypes_row_tie rfl ⟨rfl, rfl⟩ (by kernel_rfl) rfl
    (fun f fn hf hfn => by
      obtain rfl : f = 3 := Option.some.inj ((show Tryd.prog.funcNamed "proofprograms/proofprogramslaw04.ReduceTypes" = some 3 by kernel_rfl).symm.trans hf) |>.symm
      obtain rfl : fn = Tryd.f3 := (Option.some.inj (Tryd.func3.symm.trans hfn)).symm
      exact ⟨by kernel_rfl, fun j t ht => by
        rw [Tryd.params3] at ht
        have hm : t ∈ [22] := by simpa using Array.mem_of_getElem? ht
        have hall : ([22].all fun u => !Tryd.prog.wantsStandIn u) = true := by kernel_rfl
        exact (show Tryd.prog.wantsStandIn t = false by simpa using List.all_eq_true.1 hall t hm)⟩)
    (by kernel_rfl)
#print axioms reduceTypes_card
end Go.Proofs.YtnabbjnhemmkhaaDoor
