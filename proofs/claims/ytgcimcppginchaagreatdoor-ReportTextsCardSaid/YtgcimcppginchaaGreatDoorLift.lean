/-
  Lifting: from a contract to a given statement: memory at the start is memory that does not change.
-/
import Derived.Test.YtgcimcppginchaaGreatDoorStep
import Derived.WalkKit
import Derived.ProofKit
import Derived.LaidMore
import Derived.OpenShut
import Derived.Stop.Joined
import Derived.MakeChecks
import Derived.SevenTiedAt
set_option linter.unusedSimpArgs false
set_option linter.unusedVariables false
namespace Go.Abs
open Go Go.ChangeShapes Go.WideShapes Go.ChangeAt Go.RowKit

/-- All memory of a start. -/
def immOf (W : World) : Imm := fun b o => if b < W.heap.size then W.cell? ⟨b, o, none⟩ else none

theorem gw_start (T : Tabs) (W : World) (hne : ¬ ∀ g, T g = none) (hT : ∀ g x, T g = some x → PRep (immOf W) (fun _ => 0) 0 (.rptr x) (.pointer (some ⟨g, 0, none⟩))) : GW T (fun _ => 0) (immOf W) [] W where
  imm := by
    intro b o v h
    unfold immOf at h
    split at h
    · exact h
    · cases h
  glob := by intro o cs h; simp at h
  inj := by intro o o' h; exact absurd h (Nat.not_lt_zero _)
  gF := by intro o j h _; exact absurd h (Nat.not_lt_zero _)
  fresh := by
    intro b j h
    unfold immOf
    rw [if_neg (by omega)]
  tabs := hT
  row h := absurd h hne

theorem immOf_cell {W : World} {b o : Nat} {v : Value} (h : W.cell? ⟨b, o, none⟩ = some v) : immOf W b o = some v := by
  unfold immOf
  rw [if_pos, h]
  unfold World.cell? at h
  cases hb : W.heap[b]? with
  | none => simp [hb] at h
  | some x => exact (Array.getElem?_eq_some_iff.1 hb).1

theorem Ext.below {G G' : Nat → Nat} {F F' : Imm} {n' : Nat} {w w' : World} (h : Ext w.heap.size G F 0 w G' F' n' w') : Below w.heap.size w w' :=
  ⟨h.os, h.tape, h.output, h.size, fun k hk => h.heap k hk fun o ho => absurd ho (Nat.not_lt_zero _)⟩

/-- A contract at the start of a program's call. -/
theorem ACallP.lift {P : Program} {f : FuncId} {args : List AV} {vs : List Value} {Post : AV → Heap → Prop} {T : Tabs} {W : World} (hne : ¬ ∀ g, T g = none) (hT : ∀ g x, T g = some x → PRep (immOf W) (fun _ => 0) 0 (.rptr x) (.pointer (some ⟨g, 0, none⟩)))
    (h : ACallP P T f args [] Post) (ha : PRepL (immOf W) (fun _ => 0) 0 args vs) :
    Calls P f vs.toArray W fun e w' => ∃ r H' v G' F', Post r H' ∧ e = .returned v ∧ PRep F' G' H'.length r v ∧ Below W.heap.size W w' := by
  refine (h.2 _ _ W vs (gw_start T W hne hT) ha).mono ?_
  rintro e w' ⟨r, H', v, G', F', h1, h2, _, h4, h5⟩
  exact ⟨r, H', v, G', F', h1, h2, h4, h5.below⟩

theorem prep_bool {F : Imm} {G : Nat → Nat} {n : Nat} {v : Value} (h : PRep F G n (.sc (.bool true)) v) : v = .bool true := by cases h; rfl

/-- A contract that says 'true', as a law wants it. -/
theorem ACallP.law {P : Program} {f : FuncId} {args : List AV} {vs : List Value} {T : Tabs} {W : World} (hne : ¬ ∀ g, T g = none) (hT : ∀ g x, T g = some x → PRep (immOf W) (fun _ => 0) 0 (.rptr x) (.pointer (some ⟨g, 0, none⟩)))
    (h : ACallP P T f args [] fun r _ => r = .sc (.bool true)) (ha : PRepL (immOf W) (fun _ => 0) 0 args vs) :
    Calls P f vs.toArray W fun e w' => e = .returned (.bool true) ∧ Below W.heap.size W w' := by
  refine (h.lift hne hT ha).mono ?_
  rintro e w' ⟨r, H', v, G', F', rfl, rfl, h3, h4⟩
  exact ⟨by rw [prep_bool h3], h4⟩

section
variable {H : Type} {enc : TypeId × Value → H} {P : Program}

/-- What a row asks of the memory behind the call, where below the heap's old size nothing has turned. -/
theorem post_of_below {f : Func} {s : ChangeSpec} {apart fresh handsOn again : Bool} {W W' : World} {args : Array Value} {v : Value} {ds gs : List (DataW H)} {before pa pv : List MemPlace}
    (hW : DataW.Whole enc P f.params.toList s.vars apart W args.toList ds gs before)
    (hres : ∀ (b : Nat) (sp : Nat → Bool) (hd : Bool), DataW.TrodAll enc P W' b sp hd f.resultTypes.toList (v.resultList f.resultTypes.size) (s.fn H (ds ++ gs)).results [])
    (hargs : ∀ sp : Nat → Bool, (∀ p ∈ before, sp p.block = true) → DataW.TrodAll enc P W' 0 sp true f.params.toList args.toList (s.fn H (ds ++ gs)).args pa)
    (hvars : ∀ sp : Nat → Bool, (∀ p ∈ before, sp p.block = true) → DataW.TrodVars enc P W' sp s.vars (s.fn H (ds ++ gs)).vars pv)
    (hps : before = pa ++ pv) (hb : Below W.heap.size W W')
    (hok : ∀ (j : Nat) (t : TypeId) (r : Value), f.resultTypes[j]? = some t → (v.resultList f.resultTypes.size)[j]? = some r → Value.okWide P W' .any 0 t r) :
    s.post enc P f apart fresh handsOn again W args v W' := by
  have hold : ∀ p ∈ before, (fun b => decide (b < W.heap.size)) p.block = true := fun p hp => by simpa using hW.lt p hp
  refine ⟨ds, gs, before, [], pa, pv, hW, hres _ _ _, hargs _ hold, hvars _ hold, hb.frame _, fun _ => ?_⟩
  have hlt := hW.lt
  obtain ⟨_, _, _, _, _, hz, hn⟩ := hW
  refine ⟨hok, _, _, ([] ++ pa) ++ pv, ⟨[] ++ pa, pv, trodAll_append (hargs _ (fun _ _ => rfl)) (hres _ _ _), hvars _ (fun _ _ => rfl), rfl, ?_, ?_⟩, ?_⟩
  · intro b off hp
    have hm : MemPlace.cell b off ∈ before := by rw [hps]; simpa using hp
    rw [hb.frozen (p := ⟨b, off, none⟩) (hlt _ hm)]
    exact hz b off hm
  · intro ha
    have := hn ha
    rw [hps] at this
    simpa using this
  · intro p hp _
    rw [hps]
    simpa using hp

end

/-- A value of a slice's type has one cell. -/
theorem cells_slice_ok {P : Program} {w : World} {r : Reach} {b0 : Nat} {t e : TypeId} {v : Value} (ht : P.underlying t = some (.slice e)) (hval : Value.okWide P w r b0 t v) : v.cells.toList = [v] := by
  simp only [Value.okWide, ht, Cell.okWide, Cell.ok] at hval
  cases v <;> first | rfl | (exact hval.elim) | (simp at hval)

/-- A slice of whole numbers, as it lies in memory at the start. -/
theorem prep_ints {H : Type} {enc : TypeId × Value → H} {P : Program} {W : World} {t e : TypeId} {fuel : Nat} {cs : List Value} {x : DataW H × List MemPlace} (ht : P.underlying t = some (.slice e)) (he : P.underlying e = some (.int .i64)) (hc : P.cellsOf e = 1)
    (h : DataW.trod enc P W 0 (fun _ => true) true fuel t cs = some x) :
    ∃ L : List Int, PRepL (immOf W) (fun _ => 0) 0 [.slice .frz (L.map fun n => .sc (.int .i64 n))] cs := by
  rcases open_ints ht he hc h with ⟨rfl, _⟩ | ⟨a, len, cap, zs, rfl, _, h1, h2, h3, _, h5, _⟩
  · exact ⟨[], .cons (PRep.slice (vs := []) (b := 0) (o := 0) (sz := 1) .nil (fun i v h => by simp at h) (by simp) (by simp) (by simp) (Nat.zero_le _) (Nat.zero_le _) (.inl rfl)) .nil⟩
  · simp only [if_true] at h3
    refine ⟨zs.take len, .cons ?_ .nil⟩
    have hl : ((zs.take len).map fun n => (AV.sc (.int .i64 n))).length = len := by simp; omega
    have hfm : ((zs.take len).map fun n => (AV.sc (.int .i64 n))).flatMap AV.cells = (zs.take len).map fun n => (AV.sc (.int .i64 n)) := by
      generalize zs.take len = l
      induction l with
      | nil => rfl
      | cons z l ih => simp only [List.map_cons, List.flatMap_cons, ih]; rfl
    have key := @PRep.slice (immOf W) (fun _ => 0) 0 .frz ((zs.take len).map fun n => (AV.sc (.int .i64 n))) ((zs.take len).map fun n => Value.int .i64 n) a.block a.off (some a) cap 1 ?_ ?_ ?_ ?_ ?_ ?_ h2 (.inl rfl)
    · rw [hl] at key; exact key
    · rw [hfm]
      induction zs.take len with
      | nil => exact .nil
      | cons z l ih => exact .cons (.sc rfl) ih
    · intro i v hv
      have hi : i < len := by
        have := (List.getElem?_eq_some_iff.1 hv).1
        simp at this
        omega
      have hz : i < zs.length := by omega
      have hcell := h5 i hz
      have hv' : v = .int .i64 (zs.getD i 0) := by
        rw [List.getElem?_map, List.getElem?_take_of_lt hi] at hv
        rw [List.getElem?_eq_getElem hz] at hv
        simp at hv
        rw [← hv]
        simp [hz]
      subst hv'
      apply immOf_cell
      unfold Addr.add at hcell
      split at hcell
      · subst_vars
        unfold World.cell? at hcell ⊢
        split at hcell
        · split at hcell
          · cases hcell
          · simp_all
        · cases hcell
      · exact hcell
    · intro hne
      have hlen : 0 < len := by
        rw [← hl]
        exact List.length_pos_iff.2 hne
      have hcell := h5 0 (by omega)
      unfold Addr.add at hcell
      simp at hcell
      unfold World.cell? at hcell
      split at hcell
      · split at hcell
        · cases hcell
        · rename_i hs
          cases a with
          | mk b o s => cases s <;> simp_all
      · cases hcell
    · intro x hx
      obtain ⟨n, _, rfl⟩ := List.mem_map.1 hx
      rfl
    · rw [hfm]
      intro c hc
      obtain ⟨n, _, rfl⟩ := List.mem_map.1 hc
      rfl
    · rw [hl]; exact h1

/-- The same of an argument. -/
theorem arg_ints {H : Type} {enc : TypeId × Value → H} {P : Program} {W : World} {t e : TypeId} {v : Value} {d : DataW H} {ps : List MemPlace} {r : Reach} {b0 : Nat} (ht : P.underlying t = some (.slice e)) (he : P.underlying e = some (.int .i64)) (hc : P.cellsOf e = 1)
    (hval : Value.okWide P W r b0 t v) (h : DataW.Trod enc P W 0 (fun _ => true) true t v d ps) :
    ∃ L : List Int, PRepL (immOf W) (fun _ => 0) 0 [.slice .frz (L.map fun n => .sc (.int .i64 n))] [v] := by
  obtain ⟨fuel, hf⟩ := h
  rw [cells_slice_ok ht hval] at hf
  exact prep_ints ht he hc hf


theorem prepL_ints {F : Imm} {G : Nat → Nat} {n : Nat} : ∀ (L : List Int), PRepL F G n (L.map fun n => AV.sc (Value.int .i64 n)) (L.map fun n => Value.int .i64 n)
  | [] => .nil
  | _ :: l => .cons (.sc rfl) (prepL_ints l)

/-- A listed table of whole numbers is memory that does not change. -/
theorem imm_of_laid {P : Program} {W : World} {name : String} {g t n e : Nat} {L : List Int} (h : laidMetH P [(name, .agg (L.map fun n => DataW.lit (.int .i64 n)))] W) (hp : ([(name, (DataW.agg (L.map fun n => DataW.lit (.int .i64 n)) : DataW Unit))].all fun x => x.2.handleName?.isNone) = true)
    (hg : P.globalNamed name = some g) (ht : (P.globals[g]?).map (·.type) = some t) (hu : P.underlying t = some (.array n e)) (he : P.underlying e = some (.int .i64)) (hc : P.cellsOf e = 1) :
    PRep (immOf W) (fun _ => 0) 0 (.rptr (.agg (L.map fun n => AV.sc (Value.int .i64 n)))) (.pointer (some ⟨g, 0, none⟩)) := by
  rw [MakeChecks.laidMetH_plain _ _ _ hp] at h
  obtain ⟨ps, ⟨g1, t1, cs1, f1, p1, q1, hg1, ht1, hv1, hd1, _⟩, _⟩ := h
  obtain rfl := Option.some.inj (hg.symm.trans hg1)
  obtain rfl := Option.some.inj (ht.symm.trans ht1)
  obtain ⟨xs, m, _, hx, _, hlen, hel⟩ := DataW.trod_array hu hd1
  simp only [Prod.mk.injEq, DataW.agg.injEq] at hx
  have hxl : xs.length = L.length := by have := congrArg List.length hx.1; simpa using this.symm
  have cell : ∀ (i : Nat) (v : Int), L[i]? = some v → W.cell? ⟨g, i, none⟩ = some (.int .i64 v) := by
    intro i v hi
    have hlt : i < L.length := (List.getElem?_eq_some_iff.1 hi).1
    have hlx : i < xs.length := by omega
    have h0 := hel i (by omega)
    rw [List.getElem?_eq_getElem hlx, hc, Nat.mul_one] at h0
    obtain ⟨k, e1, e2, _⟩ := DataW.trod_int he h0
    have hk : k = v := by
      have h3 := congrArg (fun l => l[i]?) hx.1
      simp only [List.getElem?_map, List.getElem?_eq_getElem hlx, hi, Option.map_some, Option.some.injEq] at h3
      rw [e2] at h3
      simpa using h3.symm
    subst hk
    have h4 := World.var?_cell hg hv1 i
    rw [h4]
    have h5 : (cs1.toList.drop i)[0]? = some (Value.int .i64 k) := by
      have := congrArg (fun l => l[0]?) e1
      simpa using this
    rw [List.getElem?_drop] at h5
    simpa using h5
  refine .rptr (vs := L.map fun n => Value.int .i64 n) ?_ ?_ ?_
  · show PRepL _ _ _ (L.map fun n => AV.sc (Value.int .i64 n)) _
    exact prepL_ints L
  · intro i v hv
    rw [List.getElem?_map] at hv
    cases hL : L[i]? with
    | none => rw [hL] at hv; cases hv
    | some k =>
      rw [hL] at hv
      cases hv
      rw [Nat.zero_add]
      exact immOf_cell (cell i k hL)
  · intro c hc
    show c.isOne = true
    obtain ⟨a, _, rfl⟩ := List.mem_map.1 hc
    rfl

end Go.Abs
