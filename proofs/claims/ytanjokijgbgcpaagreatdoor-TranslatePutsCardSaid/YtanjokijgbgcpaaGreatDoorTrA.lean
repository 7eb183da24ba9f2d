/- A part of the proof of TranslatePuts: contracts of functions of the program, and what they need. -/
import Derived.Test.YtanjokijgbgcpaaGreatDoorGsl
import Derived.Test.YtanjokijgbgcpaaGreatDoorTW04
/-
  A row of values that do not change any more, in a shared object: what an append to it comes to.
-/
set_option linter.unusedSimpArgs false
set_option linter.unusedVariables false
namespace Go.Abs
open Go Go.Mdl

/-- An append of one value to a slice over such a row, which has a cell list of its own length: the row keeps what it has, and the value is behind it. -/
theorem AppG.rowOne {P : Program} {α : Type} {t e d sz : Nat} {f : α → AV} {x s : AV} {K : Fr → Heap → Prop} {fr : Fr} {H : Heap} {L : List α} {o cap k : Nat} {c : AV} {tag' : Tag} (hap : apOf P t = some (e, sz)) (hz : ∃ zs, zeroA P e = some zs)
    (hf : ∀ a, (f a).cells.length = sz) (hc : c.cells.length = sz) (hsz : 0 < sz) (hx : x = .slice tag' [c]) (hs : s = .gsl o 0 L.length cap) (hH : H[o]? = some (arrC f L k)) (hk : cap * sz = L.length * sz + k) (h0 : 0 < L.length) (hok : okObj (arrC f L k) = true) (hL : L.length + 1 ≤ growLim)
    (h1 : ∀ k', k = sz + k' → K (fr.put (some d) (.gsl o 0 (L.length + 1) cap)) (H.set o ((L.map f).flatMap AV.cells ++ (c.cells ++ junk k'))))
    (h2 : ∀ cap', L.length + 1 ≤ cap' → K (fr.put (some d) (.gsl H.length 0 (L.length + 1) cap')) (H ++ [(L.map f).flatMap AV.cells ++ (c.cells ++ junk ((cap' - (L.length + 1)) * sz))])) :
    AppG P t s x d K fr H := by
  subst hx hs
  obtain ⟨zs, hz⟩ := hz
  have hfl : ((L.map f).flatMap AV.cells).length = L.length * sz := by
    clear hH hk h0 hok hL h1 h2
    induction L with
    | nil => simp
    | cons a l ih => simp only [List.map_cons, List.flatMap_cons, List.length_append, hf, ih, List.length_cons, Nat.succ_mul]; omega
  unfold AppG
  rw [hap]
  refine ⟨by simp [headOk, hc], by rw [hz]; rfl, by simp, rfl, by simpa using hL, ?_⟩
  rw [hH]
  refine ⟨hok, by rw [arrC_length hf]; omega, fun hc' => ?_, fun cap' hc1 hc2 => ?_⟩
  · simp only [List.length_singleton] at hc' ⊢
    have hle : (L.length + 1) * sz ≤ cap * sz := Nat.mul_le_mul_right _ hc'
    rw [Nat.succ_mul] at hle
    have hk' : k = sz + (k - sz) := by omega
    have e : setCells (arrC f L k) (L.length * sz) ([c].flatMap AV.cells) = (L.map f).flatMap AV.cells ++ (c.cells ++ junk (k - sz)) := by
      unfold setCells arrC
      simp only [List.flatMap_cons, List.flatMap_nil, List.append_nil, hc]
      rw [List.take_append_of_le_length (by rw [hfl]; omega), List.take_of_length_le (by rw [hfl]; omega), List.drop_append, hfl, List.drop_eq_nil_of_le (by rw [hfl]; omega)]
      simp [junk]
    rw [e]
    exact h1 _ hk'
  · simp only [List.length_singleton] at hc1 hc2 ⊢
    have e : (arrC f L k).take (L.length * sz) = (L.map f).flatMap AV.cells := by
      unfold arrC
      rw [List.take_append_of_le_length (by rw [hfl]; omega), List.take_of_length_le (by rw [hfl]; omega)]
    rw [e]
    have := h2 cap' hc2
    simpa using this
end Go.Abs

/-
  The translator of formulas: a row of answers that grows inside a shared object.
-/
set_option maxRecDepth 20000
set_option maxHeartbeats 4000000
namespace Go.Proofs.YtanjokijgbgcpaaGreatDoor
open Go Go.Abs Go.Mdl

@[simp] theorem field99_0 : fieldOf Tryz.prog 99 0 = some (0, 27) := by kernel_rfl
@[simp] theorem lay27' : layOf Tryz.prog 27 = some (false, 1) := by kernel_rfl
/-- The memory of a translator above the first objects: the answers known so far. -/
def TrS (B i : Nat) (a : Fm) (X : Heap) (L : List Fm) : Prop := ∃ (j cap k : Nat) (rm : Int), i ≠ j ∧ X[i]? = some [.gsl (B + j) 0 L.length cap, sI rm] ∧ X[j]? = some (arrC Fm.av L k) ∧ cap * 5 = L.length * 5 + k ∧ 0 < L.length ∧ L.length ≤ 2000000001 ∧
  ∀ m x, L[m]? = some x → tr_ans m a = some x
/-- The state at the loop's head. -/
def AnI (H0 : Heap) (i : Nat) (a : Fm) (k : Nat) (m : Nat) (f : Fr) (h : Heap) : Prop := ∃ X L, TrS H0.length i a X L ∧ k + 1 - L.length = m ∧
  (h = H0 ++ X ∧ f.1 0 = AV.gptr (H0.length + i) 0 ∧ f.1 1 = sI k ∧ f.1 4 = AV.lptr 4 (f.gen 4) 0 ∧ f.box 4 = some [sI 0, sI 0, AV.slice .full [], AV.slice .full [], AV.slice .full []])
theorem tr_ans_le {a : Fm} : ∀ {k : Nat} {x : Fm}, tr_ans k a = some x → ∀ j, j ≤ k → ∃ y, tr_ans j a = some y
  | 0, x, h, j, hj => by obtain rfl : j = 0 := by omega
                         exact ⟨x, h⟩
  | k + 1, x, h, j, hj => by
    by_cases hjk : j = k + 1
    · subst hjk; exact ⟨x, h⟩
    · rw [tr_ans] at h
      obtain ⟨y, h1, _⟩ := bind1_some h
      exact tr_ans_le h1 j (by omega)
/-- The next answer. -/
theorem TrS.next {B i : Nat} {a : Fm} {L : List Fm} {k : Nat} {x : Fm} (hL : ∀ m x, L[m]? = some x → tr_ans m a = some x) (h0 : 0 < L.length) (hx : tr_ans k a = some x) (hk : L.length ≤ k) {y : Fm} (hy : L[L.length - 1]? = some y) :
    ∃ z, tree_LiftFormula y 0 1 = some z ∧ ∀ m x, (L ++ [z])[m]? = some x → tr_ans m a = some x := by
  obtain ⟨z, hz⟩ := tr_ans_le hx L.length hk
  have hz' := hz
  rw [show L.length = (L.length - 1) + 1 by omega, tr_ans, hL _ _ hy] at hz'
  refine ⟨z, hz', fun m w hw => ?_⟩
  rcases Nat.lt_or_ge m L.length with hm | hm
  · rw [List.getElem?_append_left hm] at hw
    exact hL m w hw
  · have : m = L.length := by
      have := (List.getElem?_eq_some_iff.1 hw).1
      simp at this
      omega
    subst this
    simp at hw
    subst hw
    exact hz
theorem answer_walk {T : Tabs} {H0 X : Heap} {i : Nat} {a : Fm} {L : List Fm} (hS : TrS H0.length i a X L) {k : Nat} {x : Fm} (hx : tr_ans k a = some x) (hk : k ≤ 2000000000) :
    ACallP Tryz.prog T 76 [AV.gptr (H0.length + i) 0, sI k] (H0 ++ X) (fun r H' => ∃ X' L', H' = H0 ++ X' ∧ TrS H0.length i a X' L' ∧ r = x.av) := by
  have e := trivial
  refine wiS (fun _ => true) (fun _ => 0) mixed Tryz.func76 [31, 999999] [(2, false, [true, true, true, true, true, true, true, true, true, true, true, true, true, true, true, true, true, true, true, true, true, false, true, true, false])] 999 ?_
  simp [e]
  refine wlb 6 999 (AnI H0 i a k) (k + 1 - L.length) (AnI H0 i a k 0) ?_ ?_ ?_
  · exact ⟨X, L, hS, rfl, by simp [e]⟩
  · rintro m f h ⟨X, L, hS, hm, E⟩ K K2 hK hK2
    obtain ⟨j, cap, kk, rm, hij, hi, hj, hc, h0, h9, hL⟩ := id hS
    have e := Aj trivial E
    have g1 : (H0 ++ X)[H0.length + i]? = some [AV.gsl (H0.length + j) 0 L.length cap, sI rm] := by rw [List.getElem?_append_right (by omega), Nat.add_sub_cancel_left, hi]
    have g2 : (H0 ++ X)[H0.length + j]? = some (arrC Fm.av L kk) := by rw [List.getElem?_append_right (by omega), Nat.add_sub_cancel_left, hj]
    have e := Aj (Aj e g1) g2
    simp [e]
    by_cases hle : L.length ≤ k
    · have e := Aj e (show ile (L.length : Int) (k : Int) = true by unfold ile; exact decide_eq_true (by omega))
      simp [e]
      obtain ⟨y, hy⟩ : ∃ y, L[L.length - 1]? = some y := ⟨_, List.getElem?_eq_getElem (by omega)⟩
      have hrow : okObj (arrC Fm.av L kk) = true := by
        cases L with
        | nil => simp at h0
        | cons p l => simp [arrC, okObj]
      have hsub : isub .i64 (L.length : Int) 1 = ((L.length - 1 : Nat) : Int) := by unfold isub; rw [IntKind.wrap_i64]; omega
      have hc5 : ∀ z : Fm, z.av.cells.length = 5 := fun z => by simp
      have hat : AV.agg (List.take 5 (List.drop ((L.length - 1) * 5) (arrC Fm.av L kk))) = y.av := by rw [arrC_at hc5 hy, Fm.cells_av, ← Fm.av_eq]
      have hfit : (L.length - 1) * 5 + 5 ≤ (arrC Fm.av L kk).length := by rw [arrC_length hc5]; omega
      have hlt : (L.length - 1 < L.length) = True := eq_true (by omega)
      have e := Aj (Aj (Aj (Aj (Aj e hrow) hsub) hat) hfit) hlt
      refine wdraw 999 ⟨true, fun _ => false, fun x => if x = H0.length + i then 34 else 32⟩ ?_
      simp [e]
      obtain ⟨z, hz, hLz⟩ := TrS.next (B := 0) (i := 0) hL h0 hx hle hy
      refine Cs (r_tree_LiftFormula T hz) ?_
      simp [e]
      refine AppG.rowOne (f := Fm.av) (c := (Fm.mk 0 (Ty.mk 0 []) [] []).av) (tag' := .full) (L := L) (k := kk) ap27 ⟨_, zero29⟩ hc5 (hc5 _) (by omega) rfl rfl g2 hc h0 hrow (by simp only [growLim]; omega) (fun k' hk' => ?_) (fun cap' hcap => ?_)
      · obtain ⟨C', hC'⟩ : ∃ C', (L.map Fm.av).flatMap AV.cells ++ ((Fm.mk 0 (Ty.mk 0 []) [] []).av.cells ++ junk k') = C' := ⟨_, rfl⟩
        have hjl := (List.getElem?_eq_some_iff.1 g2).1
        rw [hC']
        have f1 : (hset (H0 ++ X) (H0.length + j) C')[H0.length + j]? = some C' := by unfold hset; rw [List.getElem?_set_self hjl]
        have hfl : ((L.map Fm.av).flatMap AV.cells).length = L.length * 5 := by
          have := arrC_length (L := L) (k := 0) hc5
          unfold arrC at this
          simpa [junk] using this
        have f2 : okObj C' = true := by
          rw [← hC']
          cases L with
          | nil => simp at h0
          | cons p l => simp [okObj]
        have f3 : L.length * 5 + 5 ≤ C'.length := by rw [← hC']; simp [hfl]
        have f4 : List.take (L.length * 5) C' ++ sI z.kind :: sI z.typeF.kind :: sL Ty.av z.typeF.args :: sL Tm.av z.terms :: sL Fm.av z.args :: List.drop (L.length * 5 + 5) C' = arrC Fm.av (L ++ [z]) k' := by
          rw [← hC', List.take_append_of_le_length (by rw [hfl]; omega), List.take_of_length_le (by rw [hfl]; omega), List.drop_append, hfl, List.drop_eq_nil_of_le (by rw [hfl]; omega), show L.length * 5 + 5 - L.length * 5 = 5 by omega]
          simp [arrC]
        have hii := (List.getElem?_eq_some_iff.1 g1).1
        have f5 : (hset (H0 ++ X) (H0.length + j) (arrC Fm.av (L ++ [z]) k'))[H0.length + i]? = some [AV.gsl (H0.length + j) 0 L.length cap, sI rm] := by unfold hset; rw [List.getElem?_set_ne (by omega)]; exact g1
        have hjX := (List.getElem?_eq_some_iff.1 hj).1
        have f6 : (hset X j C')[j]? = some C' := by unfold hset; rw [List.getElem?_set_self hjX]
        have e := Aj (Aj e f6) hi
        have e := Aj (Aj (Aj (Aj (Aj (Aj (Aj e f1) f2) f3) f4) f5) (show ((L.length : Int) < (L.length : Int) + 1) = True from eq_true (by omega))) (show (j = i) = False from eq_false (fun h => hij h.symm))
        simp [e]
        refine hK _ _ (k + 1 - (L ++ [z]).length) (by simp; omega) ⟨hset (hset X j (arrC Fm.av (L ++ [z]) k')) i [AV.gsl (H0.length + j) 0 (L.length + 1) cap, sI rm], L ++ [z], ⟨j, cap, k', rm, hij, ?_, ?_, ?_, by simp, by simp; omega, hLz⟩, rfl, by simp [e]⟩
        · have hiX := (List.getElem?_eq_some_iff.1 hi).1
          unfold hset
          rw [List.getElem?_set_self (by simpa using hiX)]
          simp
        · unfold hset
          rw [List.getElem?_set_ne hij, List.getElem?_set_self hjX]
        · simp
          omega
      · have hlen : (H0 ++ X).length = H0.length + X.length := by simp
        rw [hlen, List.append_assoc]
        obtain ⟨C', hC'⟩ : ∃ C', (L.map Fm.av).flatMap AV.cells ++ ((Fm.mk 0 (Ty.mk 0 []) [] []).av.cells ++ junk ((cap' - (L.length + 1)) * 5)) = C' := ⟨_, rfl⟩
        rw [hC']
        have hfl : ((L.map Fm.av).flatMap AV.cells).length = L.length * 5 := by
          have := arrC_length (L := L) (k := 0) hc5
          unfold arrC at this
          simpa [junk] using this
        have f2 : okObj C' = true := by
          rw [← hC']
          cases L with
          | nil => simp at h0
          | cons p l => simp [okObj]
        have f3 : L.length * 5 + 5 ≤ C'.length := by rw [← hC']; simp [hfl]
        have f4 : List.take (L.length * 5) C' ++ sI z.kind :: sI z.typeF.kind :: sL Ty.av z.typeF.args :: sL Tm.av z.terms :: sL Fm.av z.args :: List.drop (L.length * 5 + 5) C' = arrC Fm.av (L ++ [z]) ((cap' - (L.length + 1)) * 5) := by
          rw [← hC', List.take_append_of_le_length (by rw [hfl]; omega), List.take_of_length_le (by rw [hfl]; omega), List.drop_append, hfl, List.drop_eq_nil_of_le (by rw [hfl]; omega), show L.length * 5 + 5 - L.length * 5 = 5 by omega]
          simp [arrC]
        have hiX := (List.getElem?_eq_some_iff.1 hi).1
        have f6 : (X ++ [C'])[X.length]? = some C' := by simp
        have f7 : (X ++ [C'])[i]? = some [AV.gsl (H0.length + j) 0 L.length cap, sI rm] := by rw [List.getElem?_append_left hiX]; exact hi
        have f8 : (X ++ [arrC Fm.av (L ++ [z]) ((cap' - (L.length + 1)) * 5)])[i]? = some [AV.gsl (H0.length + j) 0 L.length cap, sI rm] := by rw [List.getElem?_append_left hiX]; exact hi
        have e := Aj e f8
        have e := Aj (Aj (Aj (Aj (Aj (Aj (Aj (Aj e f2) f3) f4) f6) f7) hi) (show ((L.length : Int) < (L.length : Int) + 1) = True from eq_true (by omega))) (show (X.length = i) = False from eq_false (by omega))
        simp [e]
        refine hK _ _ (k + 1 - (L ++ [z]).length) (by simp; omega) ⟨hset (X ++ [arrC Fm.av (L ++ [z]) ((cap' - (L.length + 1)) * 5)]) i [AV.gsl (H0.length + X.length) 0 (L.length + 1) cap', sI rm], L ++ [z], ⟨X.length, cap', (cap' - (L.length + 1)) * 5, rm, by omega, ?_, ?_, ?_, by simp, by simp; omega, hLz⟩, rfl, by simp [e]⟩
        · unfold hset
          rw [List.getElem?_set_self (by simp; omega)]
          simp
        · unfold hset
          rw [List.getElem?_set_ne (by omega)]
          simp
        · simp
          omega
    · have e := Aj e (show ile (L.length : Int) (k : Int) = false by unfold ile; exact decide_eq_false (by omega))
      simp [e]
      exact hK2 _ _ ⟨X, L, hS, by omega, by simp [e]⟩
  · rintro f h ⟨X, L, hS, hm, E⟩
    obtain ⟨j, cap, kk, rm, hij, hi, hj, hc, h0, h9, hL⟩ := id hS
    have e := Aj trivial E
    obtain ⟨y, hy⟩ : ∃ y, L[k]? = some y := ⟨_, List.getElem?_eq_getElem (by omega)⟩
    have hyx : y = x := by have := hL k y hy; rw [hx] at this; exact (Option.some.inj this).symm
    subst hyx
    have g1 : (H0 ++ X)[H0.length + i]? = some [AV.gsl (H0.length + j) 0 L.length cap, sI rm] := by rw [List.getElem?_append_right (by omega), Nat.add_sub_cancel_left, hi]
    have g2 : (H0 ++ X)[H0.length + j]? = some (arrC Fm.av L kk) := by rw [List.getElem?_append_right (by omega), Nat.add_sub_cancel_left, hj]
    have hc5 : ∀ z : Fm, z.av.cells.length = 5 := fun z => by simp
    have hrow : okObj (arrC Fm.av L kk) = true := by
      cases L with
      | nil => simp at h0
      | cons p l => simp [arrC, okObj]
    have hat : AV.agg (List.take 5 (List.drop (k * 5) (arrC Fm.av L kk))) = y.av := by rw [arrC_at hc5 hy, Fm.cells_av, ← Fm.av_eq]
    have hfit : k * 5 + 5 ≤ (arrC Fm.av L kk).length := by rw [arrC_length hc5]; omega
    have e := Aj (Aj (Aj (Aj (Aj (Aj (Aj e g1) g2) hi) hj) hrow) hat) hfit
    have e := Aj e (show (k < L.length) = True from eq_true (by omega))
    simp [e]
    exact ⟨L, hS⟩

@[simp] theorem zagg99 : zaggA Tryz.prog 99 = some [.slice .full [], .sc (.int .i64 0)] := by kernel_rfl
@[simp] theorem place99_0 : placeA Tryz.prog 99 0 = some (0, 1) := by kernel_rfl
@[simp] theorem place99_1 : placeA Tryz.prog 99 1 = some (1, 1) := by kernel_rfl
theorem start_C {T : Tabs} {H : Heap} {a : Fm} : ACall Tryz.prog T 31 [a.av] H (AV.gptr (H.length + 1) 0) (H ++ [arrC Fm.av [a] 0, [AV.gsl H.length 0 1 1, sI 1048576]]) := by
  have e := trivial
  refine wi mixed Tryz.func31 [4, 6] [] 999 ?_
  simp [e, arrC, junk]
/-- What a part of the translator leaves: some more answers. -/
def TrP (H0 : Heap) (i : Nat) (a : Fm) (r : Fm) (v : AV) (H' : Heap) : Prop := ∃ X L, H' = H0 ++ X ∧ TrS H0.length i a X L ∧ v = r.av
def FormW (n : Nat) : Prop := ∀ {T : Tabs} {H0 X : Heap} {i : Nat} {a : Fm} {L : List Fm} {f : Fm} {k : Nat} {r : Fm}, TrS H0.length i a X L → tr_formula n a f k = some r → k + n ≤ 2000000000 → ACallP Tryz.prog T 32 [AV.gptr (H0.length + i) 0, f.av, sI k] (H0 ++ X) (TrP H0 i a r)
theorem iadd_k {k : Nat} (h : k ≤ 2000000000) : iadd .i64 (k : Int) 1 = ((k + 1 : Nat) : Int) := by unfold iadd; rw [IntKind.wrap_i64]; omega
theorem refusal_walk (n : Nat) (ih : FormW n) {T : Tabs} {H0 X : Heap} {i : Nat} {a : Fm} {L : List Fm} {f : Fm} {k : Nat} {x y u v w : Fm} (hS : TrS H0.length i a X L) (hx : lget f.args 0 = some x) (hy : tr_formula n a x (k + 1) = some y) (hu : tr_ans (k + 1) a = some u)
    (hv : translate_imp y u = some v) (hw : tree_Quantified 4 f.typeF v = some w) (hk : k + 1 + n ≤ 2000000000) : ACallP Tryz.prog T 79 [AV.gptr (H0.length + i) 0, f.av, sI k] (H0 ++ X) (TrP H0 i a w) := by
  have e := Aj (Aj trivial hx) (iadd_k (k := k) (by omega))
  refine wi mixed Tryz.func79 [16, 20] [] 999 ?_
  simp [e]
  refine CallAtS.rel (ih (k := k + 1) hS hy (by omega)) ⟨_, _, X, L, rfl, hS, rfl⟩ (by rfl) ?_
  rintro _ _ ⟨X1, L1, rfl, hS1, rfl⟩
  refine ⟨by simp [QK], ?_⟩
  simp [e]
  refine CallAtS.rel (answer_walk (k := k + 1) hS1 hu (by omega)) ⟨_, _, X1, L1, rfl, hS1, rfl⟩ (by rfl) ?_
  rintro _ _ ⟨X2, L2, rfl, hS2, rfl⟩
  refine ⟨by simp [QK], ?_⟩
  simp [e]
  refine Cs (r_translate_imp hv) ?_
  simp [e]
  refine Cs (r_tree_Quantified hw) ?_
  simp [e]
  exact ⟨X2, L2, rfl, hS2, rfl⟩
theorem formula_walk (n : Nat) (ih : FormW n) : FormW (n + 1) := by
  intro T H0 X i a L f k r hS hm hk
  have e := trivial
  rw [tr_formula] at hm
  refine wi mixed Tryz.func32 [14, 18, 31, 38, 52] [] 999 ?_
  rcases Io e hm with ⟨e, m⟩ | ⟨e, m⟩
  · obtain ⟨x, hx, m⟩ := bind1_some m
    obtain ⟨y, hy, m⟩ := bind1_some m
    obtain ⟨z, hz, m⟩ := bind1_some m
    cases m
    simp [e]
    refine CallAtS.rel (answer_walk hS hx (by omega)) ⟨_, _, X, L, rfl, hS, rfl⟩ (by rfl) ?_
    rintro _ _ ⟨X1, L1, rfl, hS1, rfl⟩
    refine ⟨by simp [QK], ?_⟩
    simp [e]
    refine Cs (r_translate_imp hy) ?_
    simp [e]
    refine CallAtS.rel (answer_walk hS1 hx (by omega)) ⟨_, _, X1, L1, rfl, hS1, rfl⟩ (by rfl) ?_
    rintro _ _ ⟨X2, L2, rfl, hS2, rfl⟩
    refine ⟨by simp [QK], ?_⟩
    simp [e]
    refine Cs (r_translate_imp hz) ?_
    simp [e]
    exact ⟨X2, L2, rfl, hS2, rfl⟩
  · by_cases h23 : ieq f.kind 2 = true ∨ ieq f.kind 3 = true
    · have hsel : sel (ieq f.kind 2) true (ieq f.kind 3) = true := by rcases h23 with h | h <;> simp [sel, h]
      rw [hsel] at m
      simp only [if_true] at m
      obtain ⟨x, hx, m⟩ := bind1_some m
      obtain ⟨y, hy, m⟩ := bind1_some m
      obtain ⟨u, hu, m⟩ := bind1_some m
      obtain ⟨v, hv, m⟩ := bind1_some m
      obtain ⟨z, hz, m⟩ := bind1_some m
      cases m
      have e := Aj (Aj e hx) hu
      cases h2 : ieq f.kind 2 with
      | true =>
        have e := Aj e h2
        simp [e]
        refine CallAtS.rel (ih hS hy (by omega)) ⟨_, _, X, L, rfl, hS, rfl⟩ (by rfl) ?_
        rintro _ _ ⟨X1, L1, rfl, hS1, rfl⟩
        refine ⟨by simp [QK], ?_⟩
        simp [e]
        refine CallAtS.rel (ih hS1 hv (by omega)) ⟨_, _, X1, L1, rfl, hS1, rfl⟩ (by rfl) ?_
        rintro _ _ ⟨X2, L2, rfl, hS2, rfl⟩
        refine ⟨by simp [QK], ?_⟩
        simp [e]
        refine Cs (r_tree_Form hz) ?_
        simp [e]
        exact ⟨X2, L2, rfl, hS2, rfl⟩
      | false =>
        have h3 : ieq f.kind 3 = true := by rcases h23 with h | h <;> simp_all
        have e := Aj (Aj e h2) h3
        simp [e]
        refine CallAtS.rel (ih hS hy (by omega)) ⟨_, _, X, L, rfl, hS, rfl⟩ (by rfl) ?_
        rintro _ _ ⟨X1, L1, rfl, hS1, rfl⟩
        refine ⟨by simp [QK], ?_⟩
        simp [e]
        refine CallAtS.rel (ih hS1 hv (by omega)) ⟨_, _, X1, L1, rfl, hS1, rfl⟩ (by rfl) ?_
        rintro _ _ ⟨X2, L2, rfl, hS2, rfl⟩
        refine ⟨by simp [QK], ?_⟩
        simp [e]
        refine Cs (r_tree_Form hz) ?_
        simp [e]
        exact ⟨X2, L2, rfl, hS2, rfl⟩
    · have h2 : ieq f.kind 2 = false := by simpa using fun h => h23 (.inl h)
      have h3 : ieq f.kind 3 = false := by simpa using fun h => h23 (.inr h)
      have hsel : sel (ieq f.kind 2) true (ieq f.kind 3) = false := by simp [sel, h2, h3]
      rw [hsel] at m
      simp only [Bool.false_eq_true, if_false] at m
      have e := Aj (Aj (Aj e h2) h3) (iadd_k (k := k) (by omega))
      rcases Io e m with ⟨e, m⟩ | ⟨e, m⟩
      · obtain ⟨x, hx, m⟩ := bind1_some m
        obtain ⟨y, hy, m⟩ := bind1_some m
        obtain ⟨z, hz, m⟩ := bind1_some m
        cases m
        have e := Aj e hx
        simp [e]
        refine CallAtS.rel (ih (k := k + 1) hS hy (by omega)) ⟨_, _, X, L, rfl, hS, rfl⟩ (by rfl) ?_
        rintro _ _ ⟨X1, L1, rfl, hS1, rfl⟩
        refine ⟨by simp [QK], ?_⟩
        simp [e]
        refine Cs (r_tree_Quantified hz) ?_
        simp [e]
        exact ⟨X1, L1, rfl, hS1, rfl⟩
      · obtain ⟨x, hx, m⟩ := bind1_some m
        obtain ⟨y, hy, m⟩ := bind1_some m
        obtain ⟨u, hu, m⟩ := bind1_some m
        obtain ⟨v, hv, m⟩ := bind1_some m
        obtain ⟨w, hw, m⟩ := bind1_some m
        obtain ⟨q, hq, m⟩ := bind1_some m
        obtain ⟨z, hz, m⟩ := bind1_some m
        cases m
        simp [e]
        refine CallAt.fnP (refusal_walk n ih hS hx hy hu hv hw (by omega)) ?_
        rintro _ _ ⟨X1, L1, rfl, hS1, rfl⟩
        simp [e]
        refine CallAt.fnP (answer_walk hS1 hq (by omega)) ?_
        rintro _ _ ⟨X2, L2, rfl, hS2, rfl⟩
        simp [e]
        refine Cf (r_translate_imp hz) ?_
        simp [e]
        exact ⟨X2, L2, rfl, hS2, rfl⟩
theorem formula_all : ∀ n, FormW n
  | 0 => fun _ hm _ => by cases hm
  | n + 1 => formula_walk n (formula_all n)
theorem TrS.start {B : Nat} {a : Fm} : TrS B 1 a [arrC Fm.av [a] 0, [AV.gsl B 0 1 1, sI 1048576]] [a] := by
  refine ⟨0, 1, 0, 1048576, by omega, by simp, by simp, by simp, by simp, by simp, fun m x hm => ?_⟩
  cases m with
  | zero => simp at hm; subst hm; rfl
  | succ m => simp at hm
theorem r_translate_Formula (T : Tabs) (hT : T 0 = some (AV.agg (List.map (fun n => AV.sc (Value.int .i64 n)) tree_arities))) {H : Heap} {a0 a1 r0 : Fm} {r1 : Int} (hm : translate_Formula a0 a1 = some (r0, r1)) : ACall Tryz.prog T 12 [Fm.av a0, Fm.av a1] H (AV.tuple [Fm.av r0, sI r1]) H := by
  rw [translate_Formula] at hm
  refine ACallP.drop0 (Post := fun x K => x = AV.tuple [Fm.av r0, sI r1] ∧ ∃ X, K = H ++ X) ?_ (fun _ _ h => ⟨_, h.2.choose_spec, by rw [h.1]; simp [AV.low, AV.lowL], h.1, rfl⟩)
  have e := hT
  refine wi mixed Tryz.func12 [17] [] 999 ?_
  obtain ⟨c, hc, m⟩ := bind1_some hm
  simp [e]
  refine Cf (r_translate_look T hT hc) ?_
  rcases Io e m with ⟨e, m⟩ | ⟨e, m⟩
  · cases m
    simp [e]
  · obtain ⟨x, hx, m⟩ := bind1_some m
    obtain ⟨y, hy, m⟩ := bind1_some m
    cases m
    simp [e]
    refine Cs start_C ?_ (by simp [QK])
    simp [e]
    refine CallAtS.rel (formula_all FU (k := 0) TrS.start hx (by rw [FU_eq]; omega)) ⟨_, _, _, _, rfl, TrS.start, rfl⟩ (by rfl) ?_
    rintro _ _ ⟨X1, L1, rfl, hS1, rfl⟩
    refine ⟨by simp [QK], ?_⟩
    simp [e]
    refine Cs (r_tree_OwnFormula hy) ?_
    simp [e]
end Go.Proofs.YtanjokijgbgcpaaGreatDoor
