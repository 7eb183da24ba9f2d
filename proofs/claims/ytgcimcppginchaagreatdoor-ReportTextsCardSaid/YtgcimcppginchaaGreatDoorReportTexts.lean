/- What is proved: ReportTexts: for every list of numbers the law returns true, and its argument reads behind the call as before. No condition beside the listed variables, which the card ties to the program's text. -/
import Derived.Test.YtgcimcppginchaaGreatDoorRW04
import Derived.Test.YtgcimcppginchaaGreatDoorRe
import Derived.Test.YtgcimcppginchaaGreatDoorLift9
import Derived.Lay
import Derived.LaidSub
import Derived.ChangeMaps5
import Derived.SizedLaws
import Derived.Test.YtgcimcppginchaaGreatDoorRows
import Derived.Test.YtgcimcppginchaaGreatDoorCards
import Derived.Test.YtgcimcppginchaaGreatDoorTie
set_option linter.unusedSimpArgs false
set_option linter.unusedVariables false
namespace Go.Proofs.YtgcimcppginchaaGreatDoor
open Go Go.Abs Go.Mdl Go.ChangeShapes Go.WideShapes Go.ChangeAt Go.RowKit

theorem Tryz.own : ownKnob Tryz.prog.godebug = none := by kernel_rfl
theorem Tryz.laidOut : laidOutB Tryz.prog = true := by kernel_rfl
/-- A table that nothing asks for. -/
def tabN : Tabs := fun g => if g = 1000000 then some (.agg []) else none
theorem tabN_ne : ¬ ∀ g, tabN g = none := fun h => by have := h 1000000; simp [tabN] at this
theorem tabN_rep {W : World} : ∀ g x, tabN g = some x → PRep (immOf W) (fun _ => 0) 0 (.rptr x) (.pointer (some ⟨g, 0, none⟩)) := by
  intro g x h
  unfold tabN at h
  split at h
  · cases h
    exact PRep.rptr (x := .agg []) (vs := []) (show PRepL _ _ _ [] [] from .nil) (fun i v hv => by simp at hv) (fun c hc => by cases hc)
  · cases h
set_option maxRecDepth 100000 in
theorem reportTexts_lifted (os : Os) (started : os.Started) (H : Type) (enc : TypeId × Value → H) :
    ReturnsInHanded {} Tryz.checked os 3 .any (fun w args => (Rows.reportTextsSpec.pre enc Tryz.prog Tryz.f3 [] false w args ∧ laidMetH Tryz.prog Rows.reportTextsRow.laid w) ∧ sizedMet enc Tryz.prog Tryz.f3 (OpenSpec.ofChange Rows.reportTextsSpec) false w args)
      (Rows.reportTextsSpec.post enc Tryz.prog Tryz.f3 false true false false) := by
  refine returnsInHanded_of_change_and (C := Tryz.checked) (X := fun w _ => laidMetH Tryz.prog Rows.reportTextsRow.laid w) (fun _ _ _ hh h => h.of_heap hh) Tryz.own started (by kernel_rfl) Tryz.func3
    (ChangeSpec.witness_shaped (enc := enc) (C := Tryz.checked) (os := os) (X := fun w _ => laidMetH Tryz.prog Rows.reportTextsRow.laid w) false (World.laidAll Tryz.prog os Rows.reportTextsRow.laid) #[.slice none 0 0] 8 (World.laidAll_os _ _ _) (World.shaped_of_ZipB (by kernel_rfl) (by kernel_rfl)) (by kernel_rfl) (by kernel_rfl) (by kernel_rfl) (by rw [MakeChecks.laidMetH_plain _ _ _ (by kernel_rfl)]; exact laidMet_laidAll _ (by kernel_rfl) (by kernel_rfl))) ?_
  intro W base args ds gs before hval0 hW _ _ hL _
  have hval : ∀ (j : Nat) t v, Tryz.f3.params[j]? = some t → args[j]? = some v → Value.okWide Tryz.prog W .any base t v := hval0
  have hW' := hW
  obtain ⟨p, q, hA0, hV, rfl, hfz, hnd⟩ := hW
  have hA : DataW.TrodAll enc Tryz.prog W 0 (fun _ => true) true Tryz.f3.params.toList args.toList ds p := hA0
  rw [Tryz.params3] at hA hval
  obtain ⟨v0, vs0, d0, ds0, p0, q0, hargs, rfl, rfl, h0, r0⟩ := trodAll_cons hA
  obtain ⟨rfl, rfl, rfl⟩ := trodAll_nil r0
  obtain rfl : args = #[v0] := by cases args; simp_all
  obtain ⟨rfl, rfl⟩ := trodVars_none hV
  obtain ⟨L, hArg⟩ := arg_ints Tryz.underlying22 Tryz.underlying3 (by kernel_rfl) (hval 0 22 v0 rfl rfl) h0
  simp only [List.append_nil] at hW'
  have hlt : ∀ x ∈ p0, x.block < W.heap.size := fun x hx => by simpa using hW'.lt x hx
  refine ((r_law44_ReportTexts tabN (law_ReportTexts L)).law tabN_ne tabN_rep hArg).mono fun e W' ⟨he, hb⟩ => ?_
  subst he
  exact ⟨_, rfl, post_of_below (pa := p0) (pv := []) hW' (fun _ _ _ => trodAll_mk1 (shut_bool Tryz.underlying4 _)) (fun sp hsp => by
      exact trodAll_mk1 (WideElems.Trod_stays Tryz.laidOut (by kernel_rfl) (of_decide_eq_true (by kernel_rfl)) h0 (fun x hx => hb.same (hlt x hx)) (fun x hx => hsp x (by simpa using hx)))) (fun _ _ => rfl) (by simp)
    hb (ok_one (by kernel_rfl) rfl (okWide_bool_mk Tryz.underlying4 _))⟩

theorem kf1 : Rows.reportTextsRow.wf (OpenSpec.ofChange Rows.reportTextsSpec) = true := by kernel_rfl
theorem kf2 : laidOutB Tryz.prog = true := by kernel_rfl
theorem kf3 : mapsRowed Tryz.prog = true := by kernel_rfl
theorem kf4 : Tryz.f3.params.all (Tryz.prog.readableRec ·) = true := by kernel_rfl
theorem kf5 : namedTie Tryz.prog Rows.reportTextsRow.named Rows.reportTextsSpec.vars = true := by kernel_rfl
theorem kf6 : (Rows.reportTextsRow.stops == []) = true := by kernel_rfl
theorem kf7 : (Tryz.prog.stops == []) = true := by kernel_rfl
theorem kf8 : (Rows.reportTextsRow.knobs == []) = true := by kernel_rfl
theorem kf9 : (Tryz.prog.stopKnobs == []) = true := by kernel_rfl
theorem kf10 : (Rows.reportTextsRow.inPlace == Tryz.prog.inPlace 3) = true := by kernel_rfl
theorem kf11 : (Rows.reportTextsRow.unfollowed == Tryz.prog.unfollowed 3) = true := by kernel_rfl
theorem kf12 : (Rows.reportTextsRow.recurses == Tryz.prog.recurses 3) = true := by kernel_rfl
theorem kf13 : (Rows.reportTextsRow.named == Tryz.prog.varsNamed 3) = true := by kernel_rfl
theorem kf14 : (Rows.reportTextsRow.maps == (Tryz.f3.params.toList ++ Rows.reportTextsSpec.plain.varTypes Tryz.prog).any (Tryz.prog.mapsRec ·)) = true := by kernel_rfl
theorem kf15 : (Rows.reportTextsRow.ifaces == (Tryz.f3.params.toList ++ Rows.reportTextsSpec.plain.varTypes Tryz.prog).any (Tryz.prog.ifacesRec ·)) = true := by kernel_rfl
theorem kf16 : (Rows.reportTextsRow.mapsOut == Tryz.prog.mapsAmong Tryz.f3.resultTypes.toList) = true := by kernel_rfl
theorem kf17 : (Rows.reportTextsRow.loops == (Tryz.f3.params.toList ++ Rows.reportTextsSpec.plain.varTypes Tryz.prog).any (Tryz.prog.loopsFrom ·)) = true := by kernel_rfl
theorem kf18 : (Rows.reportTextsRow.wideKeys == (Tryz.f3.params.toList ++ Rows.reportTextsSpec.plain.varTypes Tryz.prog ++ Tryz.f3.resultTypes.toList).any (Tryz.prog.wideKeysFrom ·)) = true := by kernel_rfl
theorem kf19 : Rows.reportTextsSpec.vars.all (Tryz.prog.varReadable ·) = true := by kernel_rfl
theorem kf20 : (Tryz.f3.resultTypes.all (fun t => Tryz.prog.readableRec t && decide (t < Tryz.prog.types.size))) = true := by kernel_rfl
theorem kf21 : (Rows.reportTextsRow.ifacesOut == Tryz.f3.resultTypes.toList.any (Tryz.prog.ifacesRec ·)) = true := by kernel_rfl
theorem kf22 : (Rows.reportTextsRow.loopsOut == Tryz.f3.resultTypes.toList.any (Tryz.prog.loopsFrom ·)) = true := by kernel_rfl
theorem kf23 : (Rows.reportTextsRow.plainKeys == Tryz.prog.plainKeys) = true := by kernel_rfl
theorem kf24 : Rows.reportTextsRow.shortTexts.isNone = true := by kernel_rfl
theorem kf25 : Tryz.prog.stopsHeard = true := by kernel_rfl
theorem kf26 : Tryz.prog.mayEnter = true := by kernel_rfl
theorem kf27 : (Rows.reportTextsRow.lifted == Tryz.prog.liftsFinal) = true := by kernel_rfl
theorem kf28 : (Tryz.prog.make == some Rows.reportTextsRow.make) = true := by kernel_rfl
theorem kf30 : (Rows.reportTextsRow.pinned == Rows.reportTextsRow.pinnedBy) = true := by kernel_rfl
theorem kf31 : (Rows.reportTextsRow.veiled == (Tryz.f3.params.toList ++ Rows.reportTextsSpec.plain.varTypes Tryz.prog ++ Tryz.f3.resultTypes.toList).any (Tryz.prog.veiledRec ·)) = true := by kernel_rfl
theorem kf32 : Rows.reportTextsRow.veiledFits Tryz.prog Tryz.f3.params.toList (Tryz.f3.params.toList ++ Rows.reportTextsSpec.plain.varTypes Tryz.prog ++ Tryz.f3.resultTypes.toList) = true := by kernel_rfl
set_option maxRecDepth 100000 in
theorem jfacts : joinedFacts Tryz.pinned.checked.prog 3 Tryz.f3 Rows.reportTextsSpec Rows.reportTextsRow = true := by
  show joinedFacts Tryz.prog 3 Tryz.f3 Rows.reportTextsSpec Rows.reportTextsRow = true
  unfold joinedFacts
  simp only [Bool.and_eq_true]
  exact ⟨⟨⟨⟨⟨⟨⟨⟨⟨⟨⟨⟨⟨⟨⟨⟨⟨⟨⟨⟨⟨⟨⟨⟨⟨⟨⟨⟨⟨⟨⟨kf1, kf2⟩, kf3⟩, kf4⟩, kf5⟩, kf6⟩, kf7⟩, kf8⟩, kf9⟩, kf10⟩, kf11⟩, kf12⟩, kf13⟩, kf14⟩, kf15⟩, kf16⟩, kf17⟩, kf18⟩, kf19⟩, kf20⟩, kf21⟩, kf22⟩, kf23⟩, kf24⟩, kf25⟩, kf26⟩, kf27⟩, kf28⟩, (by kernel_rfl)⟩, kf30⟩, kf31⟩, kf32⟩
theorem named_fn : Tryz.pinned.checked.prog.funcNamed Rows.reportTextsRow.func = some 3 := by kernel_rfl
theorem no_instance : Func.isInstance Tryz.pinned.checked.prog Tryz.f3 Rows.reportTextsRow.origin Rows.reportTextsRow.targs := of_decide_eq_true (by kernel_rfl)
theorem no_wrapper : Func.isWrapper Tryz.pinned.checked.prog Tryz.f3 Rows.reportTextsRow.wrapper Rows.reportTextsRow.mainSum := by unfold Func.isWrapper; first | (rw [if_pos (by decide +kernel)]; kernel_rfl) | (rw [if_neg (by decide +kernel)]; exact ⟨rfl, rfl⟩)
theorem reportTexts_holds : Rows.ReportTextsSaid :=
  OpenClaim.holds_of_wide 3 Tryz.f3 rfl rfl rfl rfl rfl rfl rfl ⟨rfl, rfl, rfl, rfl, rfl⟩ rfl rfl rfl rfl rfl named_fn Tryz.func3 jfacts no_instance no_wrapper
    (fun os started H enc _ => reportTexts_lifted os started H enc)
theorem cf1 : OpenClaim.wfByText (OpenSpec.ofChange Rows.reportTextsSpec) Rows.reportTextsRow = true := by kernel_rfl
theorem cf2 : Tryz.pinned.checked.prog.mainIs = some ((true, "04aaa922f51a2c33693b69d1ab1f13bdbb7edc4f7b855519a73fd1d7cfd7a1e2").fst, (true, "04aaa922f51a2c33693b69d1ab1f13bdbb7edc4f7b855519a73fd1d7cfd7a1e2").snd.toList) := by kernel_rfl
theorem cf3 : false = Rows.reportTextsRow.goesBy Tryz.pinned.checked.prog := by kernel_rfl
theorem cf4 : Tryz.prog.funcNamed "proofprograms/proofprogramslaw44.ReportTexts" = some 3 := by kernel_rfl
theorem cf5 : ([22].all fun u => !Tryz.prog.wantsStandIn u) = true := by kernel_rfl
theorem reportTexts_card : Rows.ReportTextsCardSaid :=
  Claim7.holds_tied_plain_at .later [] [.data, .data, .data, .data, .data, .data, .pinned] true (true, "04aaa922f51a2c33693b69d1ab1f13bdbb7edc4f7b855519a73fd1d7cfd7a1e2") false
    reportTexts_holds (fun _ h => by cases h) cf1 (fun _ h => by cases h) reportTexts_row_tie rfl ⟨rfl, rfl⟩ cf2 rfl
    (fun f fn hf hfn => by
      obtain rfl : f = 3 := Option.some.inj (cf4.symm.trans hf) |>.symm
      obtain rfl : fn = Tryz.f3 := (Option.some.inj (Tryz.func3.symm.trans hfn)).symm
      exact ⟨by kernel_rfl, fun j t ht => by
        rw [Tryz.params3] at ht
        have hm : t ∈ [22] := by simpa using Array.mem_of_getElem? ht
        exact (show Tryz.prog.wantsStandIn t = false by simpa using List.all_eq_true.1 cf5 t hm)⟩)
    cf3
#print axioms reportTexts_card
end Go.Proofs.YtgcimcppginchaaGreatDoor
