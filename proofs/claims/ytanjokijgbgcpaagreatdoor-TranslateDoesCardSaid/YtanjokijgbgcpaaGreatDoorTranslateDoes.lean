/- What is proved: TranslateDoes: for all arguments the law returns true, and they read behind the call as before. No condition beside the listed table of arities, which the card ties to the program's text. -/
import Derived.Test.YtanjokijgbgcpaaGreatDoorTW09
import Derived.Test.YtanjokijgbgcpaaGreatDoorTrR
import Derived.Test.YtanjokijgbgcpaaGreatDoorTLf
import Derived.Test.YtanjokijgbgcpaaGreatDoorRows
import Derived.Test.YtanjokijgbgcpaaGreatDoorCards
import Derived.Test.YtanjokijgbgcpaaGreatDoorTie
set_option linter.unusedSimpArgs false
set_option linter.unusedVariables false
namespace Go.Proofs.YtanjokijgbgcpaaGreatDoor
open Go Go.Abs Go.Mdl Go.ChangeShapes Go.WideShapes Go.ChangeAt Go.RowKit

theorem Tryz.own : ownKnob Tryz.prog.godebug = none := by kernel_rfl
theorem Tryz.laidOut : laidOutB Tryz.prog = true := by kernel_rfl
theorem gTab : Tryz.prog.globalNamed "proofprograms/tree.arities" = some 0 := by kernel_rfl
theorem tTab : (Tryz.prog.globals[0]?).map (·.type) = some 128 := by kernel_rfl
def tabT : Tabs := fun g => if g = 0 then some (AV.agg (List.map (fun n => AV.sc (Value.int .i64 n)) tree_arities)) else none
theorem tabT_ne : ¬ ∀ g, tabT g = none := fun h => by have := h 0; simp [tabT] at this
theorem tabT_rep {W : World} (h : laidMetH Tryz.prog Rows.translateDoesRow.laid W) : ∀ g x, tabT g = some x → PRep (immOf W) (fun _ => 0) 0 (.rptr x) (.pointer (some ⟨g, 0, none⟩)) := by
  intro g x hx
  unfold tabT at hx
  split at hx
  · rename_i hg
    subst hg
    cases hx
    exact imm_of_laid (L := tree_arities) (show laidMetH Tryz.prog [("proofprograms/tree.arities", .agg (tree_arities.map fun n => DataW.lit (.int .i64 n)))] W from h) (by kernel_rfl) gTab tTab Tryz.underlying128 Tryz.underlying3 (by kernel_rfl)
  · cases hx
/-- The door's own heap meets the condition. -/
theorem door_met (os : Os) (args : Array Value) : laidMetH Tryz.prog Rows.translateDoesRow.laid ((World.doorLaid Tryz.prog 400 os).forCall (fun _ _ => 0) ⟨#[], args, []⟩).memory :=
  laidMetH_of_parts3 (fuel := 8) (laidMet_of_run' 8 (by kernel_rfl) (by kernel_rfl)) (by kernel_rfl) (by kernel_rfl)

set_option maxRecDepth 100000 in
theorem translateDoes_lifted (os : Os) (started : os.Started) (H : Type) (enc : TypeId × Value → H) :
    ReturnsInHanded {} Tryz.checked os 3 .any (fun w args => (Rows.translateDoesSpec.pre enc Tryz.prog Tryz.f3 [] false w args ∧ laidMetH Tryz.prog Rows.translateDoesRow.laid w) ∧ sizedMet enc Tryz.prog Tryz.f3 (OpenSpec.ofChange Rows.translateDoesSpec) false w args)
      (Rows.translateDoesSpec.post enc Tryz.prog Tryz.f3 false true false false) := by
  refine returnsInHanded_of_change_and (C := Tryz.checked) (X := fun w _ => laidMetH Tryz.prog Rows.translateDoesRow.laid w) (fun _ _ _ hh h => h.of_heap hh) Tryz.own started (by kernel_rfl) Tryz.func3
    (ChangeSpec.witness_shaped (enc := enc) (C := Tryz.checked) (os := os) (X := fun w _ => laidMetH Tryz.prog Rows.translateDoesRow.laid w) false (World.doorLaid Tryz.prog 400 os) #[.slice none 0 0, .agg #[.int .i64 0, .int .i64 0, .slice none 0 0, .slice none 0 0, .slice none 0 0], .agg #[.int .i64 0, .int .i64 0, .slice none 0 0, .slice none 0 0, .slice none 0 0]] 8 rfl (World.shaped_of_RefB (by kernel_rfl) (by kernel_rfl)) (by kernel_rfl) (by kernel_rfl) (by kernel_rfl) (door_met os _)) ?_
  intro W base args ds gs before hval0 hW _ _ hL _
  have hval : ∀ (j : Nat) t v, Tryz.f3.params[j]? = some t → args[j]? = some v → Value.okWide Tryz.prog W .any base t v := hval0
  have hW' := hW
  obtain ⟨p, q, hA0, hV, rfl, hfz, hnd⟩ := hW
  have hA : DataW.TrodAll enc Tryz.prog W 0 (fun _ => true) true Tryz.f3.params.toList args.toList ds p := hA0
  rw [Tryz.params3] at hA hval
  obtain ⟨v0, vs0, d0, ds0, p0, q0, hargs, rfl, rfl, h0, r0⟩ := trodAll_cons hA
  obtain ⟨v1, vs1, d1, ds1, p1, q1, rfl, rfl, rfl, h1, r1⟩ := trodAll_cons r0
  obtain ⟨v2, vs2, d2, ds2, p2, q2, rfl, rfl, rfl, h2, r2⟩ := trodAll_cons r1
  obtain ⟨rfl, rfl, rfl⟩ := trodAll_nil r2
  obtain rfl : args = #[v0, v1, v2] := by cases args; simp_all
  obtain ⟨rfl, rfl⟩ := trodVars_none hV
  obtain ⟨x0, k0⟩ := arg_ints Tryz.underlying22 Tryz.underlying3 (by kernel_rfl) (hval 0 22 v0 rfl rfl) h0
  obtain ⟨fu1, g1⟩ := h1
  obtain ⟨x1, m1⟩ := lift_Fm fu1 _ _ g1
  have k1 := arg_agg Tryz.underlying29 (hval 1 29 v1 rfl rfl) (oneFm x1) m1
  rw [Fm.cells_av, ← Fm.av_eq] at k1
  have h1 : DataW.Trod enc Tryz.prog W 0 (fun _ => true) true 29 v1 d1 p1 := ⟨fu1, g1⟩
  obtain ⟨fu2, g2⟩ := h2
  obtain ⟨x2, m2⟩ := lift_Fm fu2 _ _ g2
  have k2 := arg_agg Tryz.underlying29 (hval 2 29 v2 rfl rfl) (oneFm x2) m2
  rw [Fm.cells_av, ← Fm.av_eq] at k2
  have h2 : DataW.Trod enc Tryz.prog W 0 (fun _ => true) true 29 v2 d2 p2 := ⟨fu2, g2⟩
  simp only [List.append_nil] at hW'
  have hlt0 : ∀ x ∈ p0, x.block < W.heap.size := fun x hx => by simpa using hW'.lt x (by simp [hx])
  have hlt1 : ∀ x ∈ p1, x.block < W.heap.size := fun x hx => by simpa using hW'.lt x (by simp [hx])
  have hlt2 : ∀ x ∈ p2, x.block < W.heap.size := fun x hx => by simpa using hW'.lt x (by simp [hx])
  refine ((r_law20_TranslateDoes tabT rfl (law_TranslateDoes x0 x1 x2)).law tabT_ne (tabT_rep hL) (k0.append (k1.append k2))).mono fun e W' ⟨he, hb⟩ => ?_
  subst he
  exact ⟨_, rfl, post_of_below (pa := p0 ++ (p1 ++ (p2))) (pv := []) hW' (fun _ _ _ => trodAll_mk1 (shut_bool Tryz.underlying4 _)) (fun sp hsp => by
      exact trodAll_cons_mk (WideElems.Trod_stays Tryz.laidOut (by kernel_rfl) (of_decide_eq_true (by kernel_rfl)) h0 (fun x hx => hb.same (hlt0 x hx)) (fun x hx => hsp x (by simp [hx]))) (trodAll_cons_mk (WideElems.Trod_stays Tryz.laidOut (by kernel_rfl) (of_decide_eq_true (by kernel_rfl)) h1 (fun x hx => hb.same (hlt1 x hx)) (fun x hx => hsp x (by simp [hx]))) (trodAll_mk1 (WideElems.Trod_stays Tryz.laidOut (by kernel_rfl) (of_decide_eq_true (by kernel_rfl)) h2 (fun x hx => hb.same (hlt2 x hx)) (fun x hx => hsp x (by simp [hx])))))) (fun _ _ => rfl) (by simp)
    hb (ok_one (by kernel_rfl) rfl (okWide_bool_mk Tryz.underlying4 _))⟩

theorem translateDoes_holds : Rows.TranslateDoesSaid :=
  OpenClaim.holds_of_wide 3 Tryz.f3 rfl rfl rfl rfl rfl rfl rfl ⟨rfl, rfl, rfl, rfl, rfl⟩ rfl rfl rfl rfl rfl (by kernel_rfl) Tryz.func3 (by kernel_rfl)
    (of_decide_eq_true (by kernel_rfl)) (by unfold Func.isWrapper; first | (rw [if_pos (by decide +kernel)]; kernel_rfl) | (rw [if_neg (by decide +kernel)]; exact ⟨rfl, rfl⟩))
    (fun os started H enc _ => translateDoes_lifted os started H enc)
theorem translateDoes_card : Rows.TranslateDoesCardSaid :=
  Claim7.holds_tied_plain_at .later [] [.data] true (true, "2b63f838dd4b5cb8c86bc468654047f1cdf6196dbce48c4962526cc4c1c0b12a") false
    translateDoes_holds (fun _ h => by cases h) (by kernel_rfl) (fun _ h => by cases h) translateDoes_row_tie rfl ⟨rfl, rfl⟩ (by kernel_rfl) rfl
    (fun f fn hf hfn => by
      obtain rfl : f = 3 := Option.some.inj ((show Tryz.prog.funcNamed "proofprograms/proofprogramslaw20.TranslateDoes" = some 3 by kernel_rfl).symm.trans hf) |>.symm
      obtain rfl : fn = Tryz.f3 := (Option.some.inj (Tryz.func3.symm.trans hfn)).symm
      exact ⟨by kernel_rfl, fun j t ht => by
        rw [Tryz.params3] at ht
        have hm : t ∈ [22, 29, 29] := by simpa using Array.mem_of_getElem? ht
        have hall : ([22, 29, 29].all fun u => !Tryz.prog.wantsStandIn u) = true := by kernel_rfl
        exact (show Tryz.prog.wantsStandIn t = false by simpa using List.all_eq_true.1 hall t hm)⟩)
    (by kernel_rfl)
#print axioms translateDoes_card
end Go.Proofs.YtanjokijgbgcpaaGreatDoor
