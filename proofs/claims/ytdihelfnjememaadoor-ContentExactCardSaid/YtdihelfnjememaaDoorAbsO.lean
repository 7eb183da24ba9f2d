/-
  The abstract layer, part O: rules in the form in which walks use them.
-/
import Derived.Test.YtdihelfnjememaaDoorAbsN
set_option linter.unusedSimpArgs false
set_option linter.unusedVariables false
namespace Go.Abs
open Go

section
variable {P : Program} {T : Tabs} {n : Nat} {Q : Exit → Fr → Heap → Prop} {fr : Fr} {H : Heap}

/-- Two pieces of code, the second one hidden behind a name. -/
theorem AWp.seqK {x y : Code} (h : ∀ K : Fr → Heap → Prop, (∀ fr H, AWp P T n y Q fr H → K fr H) → AWp P T n x (thenQ K Q) fr H) : AWp P T n (.seq x y) Q fr H :=
  AWp.seq (h _ fun _ _ h => h)

theorem AWp.blockK {id : Nat} {c : Code} (h : ∀ Q' : Exit → Fr → Heap → Prop, (∀ fr H, Q .normal fr H → Q' .normal fr H) → (∀ fr H, Q .normal fr H → Q' (.exit id) fr H) →
    (∀ id' fr H, id' ≠ id → Q (.exit id') fr H → Q' (.exit id') fr H) → (∀ fr H, Q .ret fr H → Q' .ret fr H) → AWp P T n c Q' fr H) : AWp P T n (.block id c) Q fr H := by
  refine AWp.block (h (blockQ id Q) (fun _ _ h => h) (fun _ _ h => ?_) (fun id' _ _ hne h => ?_) (fun _ _ h => h))
  · simp only [blockQ, if_true]; exact h
  · simp only [blockQ, if_neg hne]; exact h

/-- A loop as a round, and what holds at its head. -/
theorem AWp.loopI {c : Code} (I : Fr → Heap → Prop) (μ : Fr → Heap → Nat) (h0 : I fr H) (hr : ∀ fr H, I fr H → AWp P T n c (thenQ (fun fr' H' => I fr' H' ∧ μ fr' H' < μ fr H) Q) fr H) : AWp P T n (.loop c) Q fr H := by
  refine AWp.loop ?_
  have key : ∀ k fr H, μ fr H = k → I fr H → ALp P T n c Q fr H := by
    intro k
    induction k using Nat.strongRecOn with
    | _ k ih =>
      intro fr H hk hI
      refine ALp.round (AWp.mono (hr fr H hI) ?_)
      intro e fr' H' hq
      cases e with
      | normal => exact ih _ (hk ▸ hq.2) fr' H' rfl hq.1
      | _ => exact hq
  exact key _ fr H rfl h0

end

@[simp] theorem thenQ_normal (K : Fr → Heap → Prop) (Q : Exit → Fr → Heap → Prop) : thenQ K Q .normal = K := rfl
@[simp] theorem thenQ_exit (K : Fr → Heap → Prop) (Q : Exit → Fr → Heap → Prop) (id : Nat) : thenQ K Q (.exit id) = Q (.exit id) := rfl
@[simp] theorem thenQ_ret (K : Fr → Heap → Prop) (Q : Exit → Fr → Heap → Prop) : thenQ K Q .ret = Q .ret := rfl

end Go.Abs
