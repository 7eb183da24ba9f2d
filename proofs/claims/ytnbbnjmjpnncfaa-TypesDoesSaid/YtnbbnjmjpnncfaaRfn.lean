/-
  A range over an iterator that writes cells of its own between two rounds: the kit's law for loops over iterators, where what the caller says abides the turn of any block that was laid since the loop began.
-/
import Derived.RangeFuncNested
import Derived.RangeFuncBound
import Derived.RangeFuncCalls
import Derived.RangeFuncLeaves
import Derived.RangeFuncBox
set_option linter.unusedSimpArgs false
set_option linter.unusedVariables false
namespace Go.Abs
open Go Go.RowKit

/-- What is said abides the turn of whatever lies from a block on. -/
def Apart {β : Type} (B : Nat) (I : β → World → Prop) : Prop :=
  ∀ s W W' row, I s W → W.grownBy W' row → (∀ r, row = some r → B ≤ r) → I s W'

theorem Apart.putObj {β : Type} {B : Nat} {I : β → World → Prop} (h : Apart B I) {s : β} {W : World} {l : Nat} (o' : Obj) (hs : I s W) (hB : B ≤ l) : I s (W.putObj l o') :=
  h s W _ (some l) hs (grownBy_putObj' W l o') (fun r e => by cases e; exact hB)
theorem Apart.alloc {β : Type} {B : Nat} {I : β → World → Prop} (h : Apart B I) {s : β} {W : World} (o : Obj) (hs : I s W) : I s (W.alloc o) :=
  h s W _ none hs (World.grownBy_alloc W o none) (fun r e => by cases e)

/-- An iterator's contract: rounds, as long as they go on, for whatever is said apart from its own memory. -/
def Iter {α : Type} (F : Fence) (n : Nat) (P : Program) (g : Nat) (lb : Array Value) (encs : α → Array Value) (n₀ : Nat) (S Sp : List α → Prop) (N : Nat) (w : World) : Prop :=
  ∀ (l : Nat) (J Jx : List α → World → Prop) (W : World), Below w.heap.size w W → Apart W.heap.size J → Apart W.heap.size Jx →
    (∀ pre x W1, J pre W1 → pre.length < N → YieldAt F (n - 1) P l (encs x) W1 fun e W' =>
      (e = .returned (.bool true) ∧ J (pre ++ [x]) W' ∧ (∀ k, W.heap.size ≤ k → k < W1.heap.size → W'.heap[k]? = W1.heap[k]?) ∧ W1.heap.size ≤ W'.heap.size ∧ Below n₀ W1 W') ∨ (e = .returned (.bool false) ∧ Jx (pre ++ [x]) W')) →
    J [] W →
    CallsIn F n P g (#[.func (.yield l) #[] #[]] ++ lb) W fun e W' => (∃ v, e = .returned v) ∧ ((∃ xs, S xs ∧ J xs W') ∨ (∃ pre, Sp pre ∧ Jx pre W'))

/-- How a round's body may be left. -/
def bodyQ {α : Type} (B n₀ : Nat) (I : List α → World → Prop) (Ix : List α → World → Prop) (xs : List α) (W : World) : Exit → Act → World → Prop
  | .normal, _, W' => KeepsOthers W W' ∧ (∀ k, B ≤ k → k < W.heap.size → W'.heap[k]? = W.heap[k]?) ∧ Below n₀ W W' ∧ I xs W'
  | .ret, _, W' => KeepsOthers W W' ∧ Ix xs W'
  | _, _, _ => False

theorem grown_keeps {A B : World} {row : Option Nat} {b k : Nat} {o : Obj} (hg : A.grownBy B row) (hr : ∀ r, row = some r → b ≤ r) (hk : k < b) (h : A.heap[k]? = some o) : B.heap[k]? = some o := by
  have hlt : k < A.heap.size := (Array.getElem?_eq_some_iff.1 h).1
  rw [hg.block k hlt (fun e => by have := hr k e.symm; omega)]
  exact h

variable {F : Fence} {n : Nat} {P : Program}

/-- A loop over such an iterator, whose body goes on or returns. -/
theorem wp_iter {α : Type} {g : Operand} {ps : Array Tmp} {assign body : Code} {Q : Exit → Act → World → Prop} {a : Act} {w : World}
    (hro : F.round = none) (h1 : 1 ≤ n) {gf : Nat} {lb : Array Value} (hg : a.eval g = .func (.func gf) #[] lb) (hFg : F.fn gf) (eg : ∀ args w, (callFunc gf args).run P w = .ok (.enter gf args) w)
    {encs : α → Array Value} {n₀ : Nat} {S Sp : List α → Prop} {N : Nat} (hn₀ : n₀ ≤ w.heap.size) (hseq : Iter F (n - 1) P gf lb encs n₀ S Sp N w) (hps : ∀ x, (encs x).size = ps.size)
    (I Ix : List α → World → Prop) (hI : Apart w.heap.size I) (hIx : Apart w.heap.size Ix) (h0 : I [] w) (Ax : α → Act → World → Prop)
    (hassign : ∀ (l : Nat) (pre : List α) (x : α) (W : World) (K : Act → World → Prop), I pre W → w.heap.size + 2 ≤ W.heap.size →
      (∀ a' W', Ax x a' W' → KeepsOthers W W' → (∀ k, k < W.heap.size → W'.heap[k]? = W.heap[k]?) → Below n₀ W W' → I pre W' → K a' W') →
      assign.wpIn (F.inRound l) (n - 1 - 1) P (Exit.then K (fun _ _ _ => False)) { tmps := (ps.zip (encs x)).foldl (fun t (p, v) => t.setIfInBounds p v) a.tmps, defers := [] } W)
    (hbody : ∀ (l : Nat) (pre : List α) (x : α) (a' : Act) (W : World), I pre W → Ax x a' W → pre.length < N → body.wpIn (F.inRound l) (n - 1 - 1) P (bodyQ (w.heap.size + 2) n₀ I Ix (pre ++ [x]) W) a' W)
    (hAx : ∀ x a' W l o, Ax x a' W → l < w.heap.size + 2 → Ax x a' (W.putObj l o))
    (hdone : ∀ (D : Nat) (xs : List α) (W : World), w.heap.size ≤ D → S xs → I xs W → W.heap[D]? = some (.deferred (some [])) → Q .normal { a with defers := { target := .collected D, args := #[] } :: a.defers } W)
    (hstop : ∀ (D : Nat) (pre : List α) (W : World), w.heap.size ≤ D → Sp pre → Ix pre W → W.heap[D]? = some (.deferred (some [])) → Code.ret.wpIn F n P Q { a with defers := { target := .collected D, args := #[] } :: a.defers } W) :
    (Code.rangeFunc g ps assign body).wpIn F n P Q a w := by
  refine wpIn_rangeFunc fun fn hfn => ?_
  rw [hro]
  obtain ⟨rec, hrec⟩ : ∃ rec : LoopState → Option Code → Loop, rec = fun st pe => { state := st, pending := pe, fn, tmps := a.tmps, params := ps, assign, body, defers := w.heap.size } := ⟨_, rfl⟩
  obtain ⟨V, hV⟩ : ∃ V, (w.alloc (.deferred (some []))).alloc (.loop (rec .ready none)) = V := ⟨_, rfl⟩
  have vsz : V.heap.size = w.heap.size + 2 := by rw [← hV]; simp
  have vL : V.heap[w.heap.size + 1]? = some (.loop (rec .ready none)) := by
    rw [← hV]
    have := World.alloc_heap_new (w.alloc (.deferred (some []))) (.loop (rec .ready none))
    rwa [World.size_alloc] at this
  have vD : V.heap[w.heap.size]? = some (.deferred (some [])) := by
    rw [← hV]
    exact (Below.heap_alloc _ _ _ (by simp)).trans (World.alloc_heap_new w _)
  have vI : I [] V := by rw [← hV]; exact hI.alloc _ (hI.alloc _ h0)
  have vB : Below w.heap.size w V := by rw [← hV]; exact ((Below.refl _ w).alloc (Nat.le_refl _) _).alloc (by simp) _
  refine ⟨w.heap.size + 1, [{ target := .collected w.heap.size, args := #[] }], V, { target := .fn (.func gf) lb, args := #[.func (.yield (w.heap.size + 1)) #[] #[]] }, V, gf,
    #[.func (.yield (w.heap.size + 1)) #[] #[]] ++ lb, V, ?_, ?_, ?_, ?_, fun _ => h1, ?_⟩
  · rw [← hV, hrec]; exact run_enterLoop_outer _ _ _ _ _
  · simp only [resolve, hg]
    simp [go_sem]
  · intro f' hf'; simp [Target.leads] at hf'; subst hf'; exact hFg
  · simp [invoke, go_sem, eg]
  · have up : ∀ {β : Type} {K : β → World → Prop}, Apart w.heap.size K → Apart V.heap.size K := fun h s A B row hs hgr hr => h s A B row hs hgr fun r e => by have := hr r e; omega
    refine (hseq (w.heap.size + 1)
      (fun pre W => I pre W ∧ W.heap[w.heap.size + 1]? = some (.loop (rec .ready none)) ∧ W.heap[w.heap.size]? = some (.deferred (some [])))
      (fun pre W => Ix pre W ∧ W.heap[w.heap.size + 1]? = some (.loop (rec .done (some .ret))) ∧ W.heap[w.heap.size]? = some (.deferred (some [])))
      V vB
      (fun s A B row hs hgr hr => ⟨up hI s A B row hs.1 hgr hr, grown_keeps hgr hr (by omega) hs.2.1, grown_keeps hgr hr (by omega) hs.2.2⟩)
      (fun s A B row hs hgr hr => ⟨up hIx s A B row hs.1 hgr hr, grown_keeps hgr hr (by omega) hs.2.1, grown_keeps hgr hr (by omega) hs.2.2⟩)
      ?_ ⟨vI, vL, vD⟩).mono ?_
    · -- a round
      rintro pre x W ⟨hi, hl, hk⟩ hlen
      have hlt : w.heap.size + 1 < W.heap.size := (Array.getElem?_eq_some_iff.1 hl).1
      have hy := run_yield (P := P) (args := encs x) hl (by rw [hrec]; exact hps x)
      rw [hrec] at hy
      refine ⟨fn, _, assign, body, hy, roundIn_of_wpIn hfn (hassign _ pre x W _ hi (by omega) fun a' W' hax hko hkeep hbe hi' => ?_)⟩
      have hl' := hko.same _ _ hl rfl
      have hk' := hko.same _ _ hk rfl
      have hlt' : w.heap.size + 1 < W'.heap.size := (Array.getElem?_eq_some_iff.1 hl').1
      refine ⟨_, run_beginRound hl' (by rw [hrec]), ?_⟩
      have hl2 : (W'.putObj (w.heap.size + 1) (.loop { rec .ready none with state := .busy })).heap[w.heap.size + 1]? = some (.loop { rec .ready none with state := .busy }) := World.putObj_heap_same hlt'
      have hk2 : (W'.putObj (w.heap.size + 1) (.loop { rec .ready none with state := .busy })).heap[w.heap.size]? = some (.deferred (some [])) := (World.putObj_heap_other (by omega)).trans hk'
      refine wpIn_mono (hbody _ pre x a' _ (hI.putObj _ hi' (by omega)) (hAx x a' W' _ _ hax (by omega)) hlen) ?_
      rintro e a3 W3 hp
      have fin : ∀ (jump : Option Code), KeepsOthers (W'.putObj (w.heap.size + 1) (.loop { rec .ready none with state := .busy })) W3 →
          (Instr.endRound (w.heap.size + 1) jump).run P W3 = .ok (.bool jump.isNone) (W3.putObj (w.heap.size + 1) (.loop (rec (if jump.isNone then .ready else .done) jump))) ∧
          (W3.putObj (w.heap.size + 1) (.loop (rec (if jump.isNone then .ready else .done) jump))).heap[w.heap.size + 1]? = some (.loop (rec (if jump.isNone then .ready else .done) jump)) ∧
          (W3.putObj (w.heap.size + 1) (.loop (rec (if jump.isNone then .ready else .done) jump))).heap[w.heap.size]? = some (.deferred (some [])) := fun jump hk3 => by
        have hl3 := hk3.same _ _ hl2 rfl
        have := run_endRound (P := P) jump hl3
        rw [hrec] at this ⊢
        exact ⟨this, World.putObj_heap_same (Array.getElem?_eq_some_iff.1 hl3).1, (World.putObj_heap_other (by omega)).trans (hk3.same _ _ hk2 rfl)⟩
      cases e with
      | normal =>
        obtain ⟨hk3, hown, hbe3, hi3⟩ := hp
        obtain ⟨hr, hl4, hk4⟩ := fin none hk3
        have s1 := hko.size
        have s2 := hk3.size
        rw [show (W'.putObj (w.heap.size + 1) (.loop { rec .ready none with state := .busy })).heap.size = W'.heap.size by simp] at s2
        refine ⟨_, _, hr, .inl ⟨rfl, ⟨hI.putObj _ hi3 (by omega), hl4, hk4⟩, ?_, ?_, ?_⟩⟩
        · intro k k1 k2
          rw [World.putObj_heap_other (by omega), hown k (by omega) (by simp; omega), World.putObj_heap_other (by omega), hkeep k (by omega)]
        · simp; omega
        · have q1 : Below n₀ W' (W'.putObj (w.heap.size + 1) (.loop { rec .ready none with state := .busy })) := (Below.refl n₀ W').grown (grownBy_putObj' W' _ _) (by omega) (fun k e => by cases e; omega)
          have q2 : Below n₀ W3 (W3.putObj (w.heap.size + 1) (.loop (rec (if (none : Option Code).isNone then .ready else .done) none))) := (Below.refl n₀ W3).grown (grownBy_putObj' W3 _ _) (by omega) (fun k e => by cases e; omega)
          exact ((hbe.trans q1).trans hbe3).trans q2
      | ret =>
        obtain ⟨hk3, hi3⟩ := hp
        obtain ⟨hr, hl4, hk4⟩ := fin (some .ret) hk3
        exact ⟨_, _, hr, .inr ⟨rfl, hIx.putObj _ hi3 (by omega), hl4, hk4⟩⟩
      | exit id => exact hp.elim
      | goto t => exact hp.elim
      | panic ch => exact hp.elim
      | outgrown => exact hp.elim
    · -- behind the iterator
      rintro e W2 ⟨⟨v, rfl⟩, (⟨xs, hS, hi, hl, hk⟩ | ⟨pre, hSp, hi, hl, hk⟩)⟩
      · exact ⟨none, _, by have := run_endLoop (P := P) hl (by rw [hrec]; simp); rw [hrec] at this; exact this, hdone _ xs _ (Nat.le_refl _) hS (hI.putObj _ hi (by omega)) ((World.putObj_heap_other (by omega)).trans hk)⟩
      · exact ⟨some .ret, _, by have := run_endLoop (P := P) hl (by rw [hrec]; simp); rw [hrec] at this; exact this, hstop _ pre _ (Nat.le_refl _) hSp (hIx.putObj _ hi (by omega)) ((World.putObj_heap_other (by omega)).trans hk)⟩
end Go.Abs
