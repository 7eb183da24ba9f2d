/- What is proved: LexisDoes: for all arguments the law returns true, and they read behind the call as before. No condition beside the listed variables of Go's library, which the card ties to the program's text. -/
import Derived.Test.YtooibjkhgdpnaaaDoorLWX
import Derived.Test.YtooibjkhgdpnaaaDoorXp
import Derived.Test.YtooibjkhgdpnaaaDoorLift6
import Derived.Test.YtooibjkhgdpnaaaDoorLSh
import Derived.Lay
import Derived.Test.YtooibjkhgdpnaaaDoorRows
import Derived.Test.YtooibjkhgdpnaaaDoorCards
import Derived.Test.YtooibjkhgdpnaaaDoorTie
import Derived.Test.YtooibjkhgdpnaaaDoorLLf
set_option linter.unusedSimpArgs false
set_option linter.unusedVariables false
namespace Go.Proofs.YtooibjkhgdpnaaaDoor
open Go Go.Abs Go.Mdl Go.ChangeShapes Go.WideShapes Go.ChangeAt Go.RowKit

theorem Tryd.own : ownKnob Tryd.prog.godebug = none := by kernel_rfl
theorem Tryd.laidOut : laidOutB Tryd.prog = true := by kernel_rfl
theorem u8x : Go.Proofs.U8Extra Tryd.prog Tryd.lays260_ren := ⟨by kernel_rfl, by kernel_rfl, by kernel_rfl, by kernel_rfl, by kernel_rfl, by kernel_rfl, by kernel_rfl⟩
theorem utf8 {W : World} (h : laidMetH Tryd.prog Rows.lexisDoesRow.laid W) : Lib.Utf8Tabs 0 1 W := by
  have h1 := (laidMetH_iff.1 h).1
  refine Go.Proofs.utf8Tabs_of_reads Tryd.lays260 u8x (Go.Lib.laidMet.reads h1 (List.mem_filter.2 ⟨?_, ?_⟩)) (Go.Lib.laidMet.reads h1 (List.mem_filter.2 ⟨?_, ?_⟩))
  · rw [← Go.Pinned.utf8First_eq]
    exact .tail _ (.tail _ (.tail _ (.tail _ (.tail _ (.tail _ (.head _))))))
  · kernel_rfl
  · exact .tail _ (.tail _ (.tail _ (.head _)))
  · kernel_rfl
theorem pow10 {W : World} (h : laidMetH Tryd.prog Rows.lexisDoesRow.laid W) : Go.Proofs.PowCells 4 W := by
  have h1 := (laidMetH_iff.1 h).1
  have hm : ("internal/strconv.uint64pow10", Go.Lib.tabData IntKind.u64 Go.Lib.pow10Tab) ∈ Rows.lexisDoesRow.laid.filter fun x => x.2.handleName?.isNone := by
    refine List.mem_filter.2 ⟨?_, by kernel_rfl⟩
    rw [show (Go.Lib.tabData IntKind.u64 Go.Lib.pow10Tab : DataW Unit) = Rows.laid_internal_strconv_uint64pow10 by kernel_rfl]
    exact .tail _ (.tail _ (.head _))
  obtain ⟨g, t, cs, fuel, p, hg, hty, hvar, hd⟩ := Go.Lib.laidMet.reads h1 hm
  obtain rfl := Option.some.inj ((show Tryd.prog.globalNamed "internal/strconv.uint64pow10" = some 4 by kernel_rfl).symm.trans hg)
  obtain rfl := Option.some.inj ((show (Tryd.prog.globals[4]?).map (·.type) = some 107 by kernel_rfl).symm.trans hty)
  have htab : Go.Lib.TabIs Tryd.prog W "internal/strconv.uint64pow10" .u64 Go.Lib.pow10Tab := by
    unfold Go.Lib.TabIs
    rw [hvar, ← Go.Lib.cells_of_tab Tryd.underlying107 Tryd.underlying95 (by kernel_rfl) (by kernel_rfl) hd]
  exact fun i hi => (htab.cell hg i (by rw [Go.Lib.pow10Tab_length]; exact hi)).trans (by rw [Go.Lib.pow10Tab_at i hi])

set_option maxRecDepth 100000 in
theorem lexisDoes_lifted (os : Os) (started : os.Started) (H : Type) (enc : TypeId × Value → H) :
    ReturnsInHanded {} Tryd.checked os 6 .any (fun w args => (Rows.lexisDoesSpec.pre enc Tryd.prog Tryd.f6 [] false w args ∧ laidMetH Tryd.prog Rows.lexisDoesRow.laid w) ∧ sizedMet enc Tryd.prog Tryd.f6 (OpenSpec.ofChange Rows.lexisDoesSpec) false w args)
      (Rows.lexisDoesSpec.post enc Tryd.prog Tryd.f6 false true false false) := by
  refine returnsInHanded_of_change_and (C := Tryd.checked) (X := fun w _ => laidMetH Tryd.prog Rows.lexisDoesRow.laid w) (fun _ _ _ hh h => h.of_heap hh) Tryd.own started (by kernel_rfl) Tryd.func6
    (ChangeSpec.witness_shaped (enc := enc) (C := Tryd.checked) (os := os) (X := fun w _ => laidMetH Tryd.prog Rows.lexisDoesRow.laid w) false (World.laidAll Tryd.prog os Rows.lexisDoesRow.laid) #[.slice none 0 0, .string ⟨#[]⟩, .slice none 0 0] 8 (World.laidAll_os _ _ _)
      (World.shaped_of_ZipB (by kernel_rfl) (by kernel_rfl)) (by kernel_rfl) (by kernel_rfl) (by kernel_rfl)
      (by rw [MakeChecks.laidMetH_plain _ _ _ (by kernel_rfl)]; exact laidMet_laidAll _ (by kernel_rfl) (by kernel_rfl))) ?_
  intro W base args ds gs before hval0 hW _ hWt hL _
  have hval : ∀ (j : Nat) t v, Tryd.f6.params[j]? = some t → args[j]? = some v → Value.okWide Tryd.prog W .any base t v := hval0
  have hW' := hW
  obtain ⟨p, q, hA0, hV, rfl, hfz, hnd⟩ := hW
  have hA : DataW.TrodAll enc Tryd.prog W 0 (fun _ => true) true Tryd.f6.params.toList args.toList ds p := hA0
  rw [Tryd.params6] at hA hval
  obtain ⟨v0, vs0, d0, ds0, p0, q0, hargs, rfl, rfl, h0, r0⟩ := trodAll_cons hA
  obtain ⟨v1, vs1, d1, ds1, p1, q1, rfl, rfl, rfl, h1, r1⟩ := trodAll_cons r0
  obtain ⟨v2, vs2, d2, ds2, p2, q2, rfl, rfl, rfl, h2, r2⟩ := trodAll_cons r1
  obtain ⟨rfl, rfl, rfl⟩ := trodAll_nil r2
  obtain rfl : args = #[v0, v1, v2] := by cases args; simp_all
  obtain ⟨rfl, rfl⟩ := trodVars_none hV
  obtain ⟨x0, k0⟩ := arg_ints Tryd.underlying22 Tryd.underlying3 (by kernel_rfl) (hval 0 22 v0 rfl rfl) h0
  obtain ⟨x1, w1, k1⟩ := arg_str Tryd.underlying9 (hval 1 9 v1 rfl rfl) h1
  obtain ⟨x2, g2, k2⟩ := arg_sl30 (hval 2 30 v2 rfl rfl) h2
  simp only [List.append_nil] at hW'
  have hlt0 : ∀ x ∈ p0, x.block < W.heap.size := fun x hx => by simpa using hW'.lt x (by simp [hx])
  have hlt1 : ∀ x ∈ p1, x.block < W.heap.size := fun x hx => by simpa using hW'.lt x (by simp [hx])
  have hlt2 : ∀ x ∈ p2, x.block < W.heap.size := fun x hx => by simpa using hW'.lt x (by simp [hx])
  refine ((r_law14_LexisDoes lexTab lexT_tab (law_LexisDoes x0 x1 x2 g2)).law lexTab_ne (lexTab_rep (utf8 hL) (pow10 hL)) (k0.append (k1.append k2))).mono fun e W' ⟨he, hb⟩ => ?_
  subst he
  exact ⟨_, rfl, post_of_below (pa := p0 ++ (p1 ++ (p2))) (pv := []) hW' (fun _ _ _ => trodAll_mk1 (shut_bool Tryd.underlying4 _)) (fun sp hsp => by
      exact trodAll_cons_mk (WideElems.Trod_stays Tryd.laidOut (by kernel_rfl) (of_decide_eq_true (by kernel_rfl)) h0 (fun x hx => hb.same (hlt0 x hx)) (fun x hx => hsp x (by simp [hx]))) (trodAll_cons_mk (WideElems.Trod_stays Tryd.laidOut (by kernel_rfl) (of_decide_eq_true (by kernel_rfl)) h1 (fun x hx => hb.same (hlt1 x hx)) (fun x hx => hsp x (by simp [hx]))) (trodAll_mk1 (WideElems.Trod_stays Tryd.laidOut (by kernel_rfl) (of_decide_eq_true (by kernel_rfl)) h2 (fun x hx => hb.same (hlt2 x hx)) (fun x hx => hsp x (by simp [hx])))))) (fun _ _ => rfl) (by simp)
    hb (ok_one (by kernel_rfl) rfl (okWide_bool_mk Tryd.underlying4 _))⟩

theorem lexisDoes_holds : Rows.LexisDoesSaid :=
  OpenClaim.holds_of_wide 6 Tryd.f6 rfl rfl rfl rfl rfl rfl rfl ⟨rfl, rfl, rfl, rfl, rfl⟩ rfl rfl rfl rfl rfl (by kernel_rfl) Tryd.func6 (by kernel_rfl)
    (of_decide_eq_true (by kernel_rfl)) (by unfold Func.isWrapper; first | (rw [if_pos (by decide +kernel)]; kernel_rfl) | (rw [if_neg (by decide +kernel)]; exact ⟨rfl, rfl⟩))
    (fun os started H enc _ => lexisDoes_lifted os started H enc)
theorem lexisDoes_card : Rows.LexisDoesCardSaid :=
  Claim7.holds_tied_plain_at .later [] [.data, .data, .data, .data, .sentinel, .sentinel, .pinned] true (true, "76cd3d0bcb8a1f6abe3b24f75cc1e9d151fd2b00d0cdae92e83a86e0dc56dcfe") true
    lexisDoes_holds (fun _ h => by cases h) (by kernel_rfl) (fun _ h => by cases h) lexisDoes_row_tie rfl ⟨rfl, rfl⟩ (by kernel_rfl) rfl
    (fun f fn hf hfn => by
      obtain rfl : f = 6 := Option.some.inj ((show Tryd.prog.funcNamed "proofprograms/proofprogramslaw14.LexisDoes" = some 6 by kernel_rfl).symm.trans hf) |>.symm
      obtain rfl : fn = Tryd.f6 := (Option.some.inj (Tryd.func6.symm.trans hfn)).symm
      exact ⟨by kernel_rfl, fun j t ht => by
        rw [Tryd.params6] at ht
        have hm : t ∈ [22, 9, 30] := by simpa using Array.mem_of_getElem? ht
        have hall : ([22, 9, 30].all fun u => !Tryd.prog.wantsStandIn u) = true := by kernel_rfl
        exact (show Tryd.prog.wantsStandIn t = false by simpa using List.all_eq_true.1 hall t hm)⟩)
    (by kernel_rfl)
#print axioms lexisDoes_card
end Go.Proofs.YtooibjkhgdpnaaaDoor
