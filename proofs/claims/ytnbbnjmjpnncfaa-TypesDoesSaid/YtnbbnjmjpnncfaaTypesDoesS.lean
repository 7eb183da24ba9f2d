/- What is proved: TypesDoesSaid: for every list of numbers, every type and every list of types the law TypesDoes returns true, and the arguments read behind the call as before. No condition. -/
import Derived.Test.YtnbbnjmjpnncfaaTdW
import Derived.Test.YtnbbnjmjpnncfaaTyS
import Derived.Test.YtnbbnjmjpnncfaaYLf
import Derived.Test.YtnbbnjmjpnncfaaLiftN
import Derived.Test.YtnbbnjmjpnncfaaRows
import Derived.OpenShut
import Derived.Carry
import Derived.SizedLaws
set_option linter.unusedSimpArgs false
set_option linter.unusedVariables false
namespace Go.Proofs.Ytnbbnjmjpnncfaa
open Go Go.Abs Go.Mdl Go.ChangeShapes Go.WideShapes Go.ChangeAt Go.RowKit

theorem Try.own : ownKnob Try.prog.godebug = none := by kernel_rfl
theorem Try.laidOut : laidOutB Try.prog = true := by kernel_rfl
/-- A table that nothing asks for. -/
def tabN : Tabs := fun g => if g = 1000000 then some (.agg []) else none
theorem tabN_ne : ¬ ∀ g, tabN g = none := fun h => by have := h 1000000; simp [tabN] at this
theorem tabN_rep {W : World} : ∀ g x, tabN g = some x → PRep (immOf W) (fun _ => 0) 0 (.rptr x) (.pointer (some ⟨g, 0, none⟩)) := by
  intro g x h
  unfold tabN at h
  split at h
  · cases h
    exact PRep.rptr (x := .agg []) (vs := []) (show PRepL _ _ _ [] [] from .nil) (fun i v hv => by simp at hv) (fun c hc => by cases hc)
  · cases h
theorem arg_sl27 {H : Type} {enc : TypeId × Value → H} {W : World} {v : Value} {d : DataW H} {ps : List MemPlace} {r : Reach} {b0 : Nat} (hval : Value.okWide Try.prog W r b0 27 v) (h : DataW.Trod enc Try.prog W 0 (fun _ => true) true 27 v d ps) :
    ∃ l : List Ty, LRep W [.slice .frz (l.map Ty.av)] [v] ∧ (l = [] ∨ ∃ es rs, d = .slice es rs ∧ es.length = l.length) := by
  obtain ⟨fuel, hf⟩ := h
  rw [cells_slice_ok Try.underlying27 hval] at hf
  obtain ⟨l, h1, h2⟩ := lift_sliceN Ty.av 2 Try.underlying27 cellsTy (by omega) lenTy oneTy hf (fun f2 c2 x2 _ => lift_Ty f2 c2 x2)
  exact ⟨l, h1, h2⟩

set_option maxRecDepth 100000 in
theorem typesDoes_lifted (os : Os) (started : os.Started) (H : Type) (enc : TypeId × Value → H) :
    ReturnsInHanded {} Try.checked os 5 .any (Rows.typesDoesSpec.pre6 enc Try.prog Try.f5 Rows.typesDoesRow.domain false) (Rows.typesDoesSpec.post enc Try.prog Try.f5 false true false false) := by
  refine returnsInHanded_of_change_sized (C := Try.checked) Try.own started (by kernel_rfl) Try.func5
    (ChangeSpec.witness6 (enc := enc) (C := Try.checked) false ⟨#[], #[.slice none 0 0, .agg #[.int .i64 0, .slice none 0 0], .slice none 0 0], []⟩ 8 (by kernel_rfl) (by kernel_rfl) (by kernel_rfl) (by kernel_rfl)) ?_
  intro W base args ds gs before hval0 hW hcnd hsz _
  have hval : ∀ (j : Nat) t v, Try.f5.params[j]? = some t → args[j]? = some v → Value.okWide Try.prog W .any base t v := hval0
  have hW' := hW
  obtain ⟨p, q, hA0, hV, rfl, hfz, hnd⟩ := hW
  have hA : DataW.TrodAll enc Try.prog W 0 (fun _ => true) true Try.f5.params.toList args.toList ds p := hA0
  rw [Try.params5] at hA hval
  obtain ⟨v0, vs0, d0, ds0, p0, q0, hargs, rfl, rfl, h0, r0⟩ := trodAll_cons hA
  obtain ⟨v1, vs1, d1, ds1, p1, q1, rfl, rfl, rfl, h1, r1⟩ := trodAll_cons r0
  obtain ⟨v2, vs2, d2, ds2, p2, q2, rfl, rfl, rfl, h2, r2⟩ := trodAll_cons r1
  obtain ⟨rfl, rfl, rfl⟩ := trodAll_nil r2
  obtain rfl : args = #[v0, v1, v2] := by cases args; simp_all
  obtain ⟨rfl, rfl⟩ := trodVars_none hV
  obtain ⟨x0, k0⟩ := arg_ints Try.underlying22 Try.underlying3 (by kernel_rfl) (hval 0 22 v0 rfl rfl) h0
  obtain ⟨fu1, g1⟩ := h1
  obtain ⟨x1, m1⟩ := lift_Ty fu1 _ _ g1
  have k1 := arg_agg Try.underlying29 (hval 1 29 v1 rfl rfl) (oneTy x1) m1
  rw [Ty.cells_av, ← Ty.av_eq] at k1
  have h1 : DataW.Trod enc Try.prog W 0 (fun _ => true) true 29 v1 d1 p1 := ⟨fu1, g1⟩
  obtain ⟨x2, k2, n2⟩ := arg_sl27 (hval 2 27 v2 rfl rfl) h2
  have hlen : x2.length ≤ 4398046511104 := by
    rcases n2 with rfl | ⟨es, rs, rfl, n3⟩
    · simp
    · have h3 := sized_slice hsz (j := 2) (t := 27) (e := 29) (elems := es) (spare := rs) (by kernel_rfl) rfl Try.underlying27
      have h4 : Try.checked.prog.bytesOf 29 = 32 := by kernel_rfl
      have h5 := reachBytes_lt
      rw [h4] at h3
      omega
  simp only [List.append_nil] at hW'
  have hlt0 : ∀ x ∈ p0, x.block < W.heap.size := fun x hx => by simpa using hW'.lt x (by simp [hx])
  have hlt1 : ∀ x ∈ p1, x.block < W.heap.size := fun x hx => by simpa using hW'.lt x (by simp [hx])
  have hlt2 : ∀ x ∈ p2, x.block < W.heap.size := fun x hx => by simpa using hW'.lt x (by simp [hx])
  refine ((r_law01_TypesDoesR tabN (wf := Smk_Deck.wf) (fun d hd n a b => next_ok d hd n a b) (W := 2) (b := 14) (by omega) (by omega) (fun d x y r h => tdK_spec d x y r h) (law_TypesDoesR x0 x1 x2 hlen)).law tabN_ne tabN_rep (k0.append (k1.append k2))).mono fun e W' ⟨he, hb⟩ => ?_
  subst he
  exact ⟨_, rfl, post_of_below (pa := p0 ++ (p1 ++ p2)) (pv := []) hW' (fun _ _ _ => trodAll_mk1 (shut_bool Try.underlying4 _)) (fun sp hsp => by
      exact trodAll_cons_mk (WideElems.Trod_stays Try.laidOut (by kernel_rfl) (of_decide_eq_true (by kernel_rfl)) h0 (fun x hx => hb.same (hlt0 x hx)) (fun x hx => hsp x (by simp [hx])))
        (trodAll_cons_mk (WideElems.Trod_stays Try.laidOut (by kernel_rfl) (of_decide_eq_true (by kernel_rfl)) h1 (fun x hx => hb.same (hlt1 x hx)) (fun x hx => hsp x (by simp [hx])))
          (trodAll_mk1 (WideElems.Trod_stays Try.laidOut (by kernel_rfl) (of_decide_eq_true (by kernel_rfl)) h2 (fun x hx => hb.same (hlt2 x hx)) (fun x hx => hsp x (by simp [hx])))))) (fun _ _ => rfl) (by simp)
    hb (ok_one (by kernel_rfl) rfl (okWide_bool_mk Try.underlying4 _))⟩

theorem typesDoes_holds : Rows.TypesDoesSaid :=
  OpenClaim.holds_of_wide 5 Try.f5 rfl rfl rfl rfl rfl rfl rfl ⟨rfl, rfl, rfl, rfl, rfl⟩ rfl rfl rfl rfl rfl (by kernel_rfl) Try.func5 (by kernel_rfl)
    (of_decide_eq_true (by kernel_rfl)) (by unfold Func.isWrapper; first | (rw [if_pos (by decide +kernel)]; kernel_rfl) | (rw [if_neg (by decide +kernel)]; exact ⟨rfl, rfl⟩))
    (fun os started H enc _ => typesDoes_lifted os started H enc)
#print axioms typesDoes_holds
end Go.Proofs.Ytnbbnjmjpnncfaa
