/-
  The abstract layer, part N: a region that draws its order, walked in the order of its text.
-/
import Derived.Test.YtdihelfnjememaaDoorAbsM
set_option linter.unusedSimpArgs false
set_option linter.unusedVariables false
namespace Go.Abs
open Go

/-- Whether an operation of a region is carried out. -/
def guardA (opsA : Array Oper) (o : Oper) (fr : Fr) : Option Bool :=
  match o.guard with
  | none => some true
  | some (j, want) =>
    match (opsA[j]?).bind (·.dst) with
    | some d => match fr.env d with
      | .sc (.bool b) => some (b == want)
      | .tuple _ => some false
      | _ => none
    | none => none

def dopAt (P : Program) (T : Tabs) (E : List Nat) (opsA : Array Oper) (q soft : Bool) (o : Oper) (K : Fr → Heap → Prop) (fr : Fr) (H : Heap) : Prop :=
  match guardA opsA o fr with
  | some true => dstep P T E opsA.toList q soft o K fr H
  | some false => K (fr.put o.dst (.tuple [])) H
  | none => False

def drun (P : Program) (T : Tabs) (E : List Nat) (opsA : Array Oper) (q : Bool) (sf : Nat → Bool) : List Nat → (Fr → Heap → Prop) → Fr → Heap → Prop
  | [], K, fr, H => K fr H
  | i :: rest, K, fr, H => match opsA[i]? with
    | some o => dopAt P T E opsA q (sf i) o (fun fr H => drun P T E opsA q sf rest K fr H) fr H
    | none => False

section
variable {P : Program} {T : Tabs} {E : List Nat} {opsA : Array Oper} {q soft soft1 soft2 : Bool} {o o1 o2 : Oper} {K K' : Fr → Heap → Prop} {fr fr' : Fr} {H H' : Heap}

theorem dopAt_mono (hk : ∀ fr H, K fr H → K' fr H) (h : dopAt P T E opsA q soft o K fr H) : dopAt P T E opsA q soft o K' fr H := by
  unfold dopAt at *
  split at h
  · exact dstep_mono hk h
  · exact hk _ _ h
  · exact h

theorem dopAt_aopAt (h : dopAt P T E opsA q soft o K fr H) : aopAt P T E opsA o K fr H := by
  unfold dopAt guardA at h
  unfold aopAt
  cases hg : o.guard with
  | none => rw [hg] at h; exact dstep_astep h
  | some p =>
    obtain ⟨j, want⟩ := p
    rw [hg] at h
    simp only at h ⊢
    cases hd : (opsA[j]?).bind (·.dst) with
    | none => rw [hd] at h; exact h
    | some d =>
      rw [hd] at h
      simp only at h ⊢
      split
      · rename_i b hb
        rw [hb] at h
        simp only at h
        by_cases hw : b = want
        · subst hw
          rw [if_pos rfl]
          simp only [beq_self_eq_true] at h
          exact dstep_astep h
        · rw [if_neg hw]
          have : (b == want) = false := by simpa using hw
          rw [this] at h
          exact h
      · rename_i l hl
        rw [hl] at h
        exact h
      · rename_i hnb hnt
        split at h
        · rename_i he
          split at he
          · rename_i b hb; exact (hnb b hb).elim
          · cases he
          · cases he
        · rename_i he
          split at he
          · rename_i b hb; exact (hnb b hb).elim
          · rename_i l hl; exact (hnt l hl).elim
          · cases he
        · exact h

/-- The guard is asked of a slot that the operation looks at. -/
theorem guardA_congr (h : ∀ t, t ∈ o.looksAt opsA → fr'.env t = fr.env t) : guardA opsA o fr' = guardA opsA o fr := by
  unfold guardA
  cases hg : o.guard with
  | none => rfl
  | some p =>
    obtain ⟨j, want⟩ := p
    simp only
    cases hd : (opsA[j]?).bind (·.dst) with
    | none => rfl
    | some d =>
      simp only
      have : d ∈ o.looksAt opsA := by
        unfold Oper.looksAt
        rw [hg]
        refine List.mem_append_right _ ?_
        show d ∈ ((opsA[j]?).bind (·.dst)).toList
        rw [hd]
        simp
      rw [h d this]

theorem guard_put {d : Option Nat} {v : AV} (h : ∀ d', d = some d' → d' ∉ o.looksAt opsA) : guardA opsA o (fr.put d v) = guardA opsA o fr := by
  refine guardA_congr fun t ht => ?_
  rw [Fr.put_env, if_neg]
  rintro rfl
  exact h t rfl ht

theorem guard_left {c : Cls} {dst : Option Nat} (hl : Left c dst soft q fr H fr' H') (h : ∀ d', dst = some d' → d' ∉ o.looksAt opsA) : guardA opsA o fr' = guardA opsA o fr := by
  refine guardA_congr fun t ht => hl.env t ?_
  rintro rfl
  exact h t rfl ht

/-- The conditions under which two operations that do not wait for each other may be exchanged. -/
def exch (E : List Nat) (opsA : Array Oper) (s1 s2 : Bool) (o1 o2 : Oper) : Bool :=
  o1.apart opsA o2 && clsOk (clsOf E opsA.toList o1) (clsOf E opsA.toList o2) &&
  (match clsOf E opsA.toList o1, clsOf E opsA.toList o2 with
   | .load _, .eff => s1 && s2
   | .eff, .load _ => s1 && s2
   | .load _, .sto _ => s2
   | .sto _, .load _ => s1
   | _, _ => true)

theorem dopAt_swap (hx : exch E opsA soft1 soft2 o1 o2 = true) (h : dopAt P T E opsA q soft1 o1 (fun fr H => dopAt P T E opsA q soft2 o2 K fr H) fr H) :
    dopAt P T E opsA q soft2 o2 (fun fr H => dopAt P T E opsA q soft1 o1 K fr H) fr H := by
  unfold exch at hx
  simp only [Bool.and_eq_true] at hx
  obtain ⟨⟨hap, hcls⟩, hsoft⟩ := hx
  obtain ⟨a1, a2, a3⟩ := Oper.apart_spec hap
  have hs1 : ∀ r, clsOf E opsA.toList o1 = .load r → (clsOf E opsA.toList o2 = .eff → soft1 = true ∧ soft2 = true) ∧ (∀ r', clsOf E opsA.toList o2 = .sto r' → soft2 = true) := by
    intro r hr
    rw [hr] at hsoft
    refine ⟨fun he => ?_, fun r' he => ?_⟩ <;> rw [he] at hsoft
    · simpa using hsoft
    · exact hsoft
  have hs2 : ∀ r, clsOf E opsA.toList o2 = .load r → (clsOf E opsA.toList o1 = .eff → soft2 = true ∧ soft1 = true) ∧ (∀ r', clsOf E opsA.toList o1 = .sto r' → soft1 = true) := by
    intro r hr
    rw [hr] at hsoft
    refine ⟨fun he => ?_, fun r' he => ?_⟩ <;> rw [he] at hsoft
    · have : soft1 = true ∧ soft2 = true := by simpa using hsoft
      exact ⟨this.2, this.1⟩
    · exact hsoft
  unfold dopAt at h
  split at h
  · -- the first one is carried out
    rename_i hg1
    obtain ⟨f1, H1, hr1, h⟩ := dstep_out h
    have hl1 := drel_left hr1
    have hg2 : guardA opsA o2 f1 = guardA opsA o2 fr := guard_left hl1 a1
    rw [hg2] at h
    unfold dopAt
    split at h
    · rename_i hg2'
      obtain ⟨f2, H2, hr2, hK⟩ := dstep_out h
      obtain ⟨f, h', hr2', hr1'⟩ := drel_swap hap hcls hs1 hs2 hr1 hr2
      refine dstep_of hr2' ?_
      have : guardA opsA o1 f = guardA opsA o1 fr := guard_left (drel_left hr2') a3
      rw [this, hg1]
      exact dstep_of hr1' hK
    · rename_i hg2'
      show match guardA opsA o1 (fr.put o2.dst (.tuple [])) with
        | some true => dstep P T E opsA.toList q soft1 o1 K (fr.put o2.dst (.tuple [])) H
        | some false => K ((fr.put o2.dst (.tuple [])).put o1.dst (.tuple [])) H
        | none => False
      rw [guard_put a3, hg1]
      simp only
      cases hd : o2.dst with
      | none => rw [hd] at h; exact dstep_of hr1 h
      | some d => rw [hd] at h; exact dstep_of (drel_put (opsA := opsA) _ (a3 d hd) (fun e => a2 d e hd) hr1) h
    · exact h.elim
  · -- the first one is left out
    rename_i hg1
    have hg2 : guardA opsA o2 (fr.put o1.dst (.tuple [])) = guardA opsA o2 fr := guard_put a1
    rw [hg2] at h
    unfold dopAt
    split at h
    · rename_i hg2'
      obtain ⟨f2, H2, hr2, hK⟩ := dstep_out h
      have hun : ∃ f, DRel P T E opsA.toList q soft2 o2 fr H f H2 ∧ f.put o1.dst (.tuple []) = f2 := by
        cases hd : o1.dst with
        | none => rw [hd] at hr2; exact ⟨f2, hr2, rfl⟩
        | some d => rw [hd] at hr2; exact drel_unput (opsA := opsA) (a1 d hd) (a2 d hd) hr2
      obtain ⟨f, hf1, hf2⟩ := hun
      refine dstep_of hf1 ?_
      have : guardA opsA o1 f = guardA opsA o1 fr := guard_left (drel_left hf1) a3
      rw [this, hg1]
      show K (f.put o1.dst (.tuple [])) H2
      rw [hf2]
      exact hK
    · rename_i hg2'
      show match guardA opsA o1 (fr.put o2.dst (.tuple [])) with
        | some true => dstep P T E opsA.toList q soft1 o1 K (fr.put o2.dst (.tuple [])) H
        | some false => K ((fr.put o2.dst (.tuple [])).put o1.dst (.tuple [])) H
        | none => False
      rw [guard_put a3, hg1]
      simp only
      have : (fr.put o2.dst (.tuple [])).put o1.dst (.tuple []) = (fr.put o1.dst (.tuple [])).put o2.dst (.tuple []) := by
        cases hd1 : o1.dst with
        | none => rfl
        | some d1 =>
          cases hd2 : o2.dst with
          | none => rfl
          | some d2 => exact put_put_comm fr (fun e => a2 d1 hd1 (by rw [hd2, e])) _ _
      rw [this]
      exact h
    · exact h.elim
  · exact h.elim

theorem drun_front {sf : Nat → Bool} {i : Nat} (hi : opsA[i]? = some o) (post : List Nat) : ∀ (pre : List Nat) (fr : Fr) (H : Heap), (∀ j ∈ pre, ∀ oj, opsA[j]? = some oj → exch E opsA (sf j) (sf i) oj o = true) →
    drun P T E opsA q sf (pre ++ i :: post) K fr H → dopAt P T E opsA q (sf i) o (fun fr H => drun P T E opsA q sf (pre ++ post) K fr H) fr H := by
  intro pre
  induction pre with
  | nil =>
    intro fr H _ h
    simp only [List.nil_append, drun, hi] at h
    exact h
  | cons j pre ih =>
    intro fr H hex h
    simp only [List.cons_append, drun] at h ⊢
    split at h
    · rename_i oj hj
      have h1 := dopAt_mono (fun fr H h => ih fr H (fun k hk => hex k (by simp [hk])) h) h
      have h2 := dopAt_swap (hex j (by simp) oj hj) h1
      exact h2
    · exact h.elim

end

/-! ### whatever order is drawn -/

/-- The text's order is an order: an operation waits for earlier ones. -/
def edgesBack (opsA : Array Oper) : Bool := opsA.toList.zipIdx.all fun (o, i) => o.after.all fun e => !Region.binds .any e || decide (e.on < i)

/-- 'M i j': operation i waits for operation j, directly or by others. -/
def closeOk (opsA : Array Oper) (M : Array Nat) : Bool :=
  (List.range opsA.size).all fun i => (List.range opsA.size).all fun j => !(M.getD i 0).testBit j ||
    (opsA.getD i default).after.toList.any fun e => Region.binds .any e && (e.on == j || (M.getD e.on 0).testBit j)

def regionOk (E : List Nat) (opsA : Array Oper) (sf : Nat → Bool) : Bool :=
  let M := Region.before opsA
  edgesBack opsA && closeOk opsA M &&
  (List.range opsA.size).all fun i => (List.range i).all fun j => (M.getD i 0).testBit j || exch E opsA (sf j) (sf i) (opsA.getD j default) (opsA.getD i default)

section
variable {P : Program} {T : Tabs} {E : List Nat} {opsA : Array Oper} {q : Bool} {sf : Nat → Bool} {K : Fr → Heap → Prop}

def remOf (opsA : Array Oper) (listed : Array Bool) : List Nat := (List.range opsA.size).filter fun i => !listed.getD i true

theorem mem_rem {listed : Array Bool} {i : Nat} : i ∈ remOf opsA listed ↔ i < opsA.size ∧ listed.getD i true = false := by
  simp [remOf]

/-- All that waits is behind what it waits for. -/
def Closed (M : Array Nat) (opsA : Array Oper) (listed : Array Bool) : Prop := ∀ i j, i < opsA.size → j < opsA.size → listed.getD i false = true → (M.getD i 0).testBit j = true → listed.getD j false = true

theorem getD_set_self {listed : Array Bool} {i : Nat} (d : Bool) (h : i < listed.size) : (listed.setIfInBounds i true).getD i d = true := by
  simp [h]

theorem ready_of_min {opsA : Array Oper} (hback : edgesBack opsA = true) {listed : Array Bool} (hsz : listed.size = opsA.size) {i : Nat} (hi : i < opsA.size) (hun : listed.getD i true = false)
    (hmin : ∀ j, j < i → listed.getD j false = true) : i ∈ Region.ready .any opsA listed := by
  rw [mem_ready]
  refine ⟨hun, opsA[i], Array.getElem?_eq_getElem hi, fun e he hb => ?_⟩
  refine hmin _ ?_
  unfold edgesBack at hback
  rw [List.all_eq_true] at hback
  have hmem : (opsA[i], i) ∈ opsA.toList.zipIdx := by
    rw [List.mem_zipIdx_iff_getElem?]
    simp [hi]
  have := hback _ hmem
  simp only [Array.all_eq_true_iff_forall_mem] at this
  have := this e he
  rw [hb] at this
  simpa using this

theorem deps_listed {opsA : Array Oper} {M : Array Nat} (hM : closeOk opsA M = true) (hback : edgesBack opsA = true) {listed : Array Bool} (hcl : Closed M opsA listed) {i : Nat} (hr : i ∈ Region.ready .any opsA listed) {j : Nat} (hj : j < opsA.size)
    (hb : (M.getD i 0).testBit j = true) : listed.getD j false = true := by
  obtain ⟨hun, o, ho, hall⟩ := mem_ready.1 hr
  have hi : i < opsA.size := (Array.getElem?_eq_some_iff.1 ho).1
  unfold closeOk at hM
  rw [List.all_eq_true] at hM
  have := hM i (by simpa using hi)
  rw [List.all_eq_true] at this
  have := this j (by simpa using hj)
  rw [hb] at this
  simp only [Bool.not_true, Bool.false_or, List.any_eq_true, Array.mem_toList_iff, Bool.and_eq_true, Bool.or_eq_true, beq_iff_eq] at this
  obtain ⟨e, he, hbe, hor⟩ := this
  have hoe : opsA.getD i default = o := by rw [Array.getD_eq_getD_getElem?, ho]; rfl
  rw [hoe] at he
  have hl := hall e he hbe
  rcases hor with rfl | hor
  · exact hl
  · have hon : e.on < opsA.size := by
      unfold edgesBack at hback
      rw [List.all_eq_true] at hback
      have hmem : (o, i) ∈ opsA.toList.zipIdx := by
        rw [List.mem_zipIdx_iff_getElem?]
        simpa using ho
      have := hback _ hmem
      simp only [Array.all_eq_true_iff_forall_mem] at this
      have := this e he
      rw [hbe] at this
      have : e.on < i := by simpa using this
      omega
    exact hcl e.on j hon hj hl hor

theorem rem_split {listed : Array Bool} (hsz : listed.size = opsA.size) {i : Nat} (hi : i < opsA.size) (hun : listed.getD i true = false) :
    ∃ pre post, remOf opsA listed = pre ++ i :: post ∧ remOf opsA (listed.setIfInBounds i true) = pre ++ post ∧ ∀ j ∈ pre, j < i ∧ listed.getD j true = false := by
  have hr : List.range opsA.size = List.range i ++ i :: (List.range' (i + 1) (opsA.size - i - 1)) := by
    rw [List.range_eq_range', List.range_eq_range']
    have : opsA.size = i + (1 + (opsA.size - i - 1)) := by omega
    conv => lhs; rw [this]
    rw [← List.range'_append_1]
    congr 1
    rw [show 1 + (opsA.size - i - 1) = (opsA.size - i - 1) + 1 by omega, List.range'_succ]
    simp
  refine ⟨(List.range i).filter (fun j => !listed.getD j true), (List.range' (i + 1) (opsA.size - i - 1)).filter (fun j => !listed.getD j true), ?_, ?_, ?_⟩
  · unfold remOf
    rw [hr, List.filter_append, List.filter_cons_of_pos (by simp [hun])]
  · unfold remOf
    rw [hr, List.filter_append, List.filter_cons_of_neg (by rw [getD_set_self _ (by omega)]; simp)]
    congr 1
    · refine List.filter_congr fun j hj => ?_
      have : j < i := by simpa using hj
      rw [getD_set_ne true (by omega)]
    · refine List.filter_congr fun j hj => ?_
      have := (List.mem_range'_1.1 hj).1
      rw [getD_set_ne true (by omega)]
  · intro j hj
    rw [List.mem_filter] at hj
    exact ⟨by simpa using hj.1, by simpa using hj.2⟩

variable {n : Nat} {G0 : Nat → Nat} {F0 : Imm} {n0 : Nat} {w0 : World}

theorem getD_false_true {listed : Array Bool} {i : Nat} (hi : i < listed.size) : listed.getD i false = listed.getD i true := by
  simp [hi]

theorem drun_any {Q : Exit → Act → World → Prop} (hok : regionOk E opsA sf = true) (hfit : opsFit n opsA = true) (hQ : ∀ fr' H' a' w', K fr' H' → SR T n G0 F0 n0 w0 fr' H' a' w' → Q .normal a' w') :
    ∀ (fuel : Nat) (listed : Array Bool) (fr : Fr) (H : Heap) (a : Act) (w : World), listed.size = opsA.size → Closed (Region.before opsA) opsA listed → (remOf opsA listed).length ≤ fuel →
      SR T n G0 F0 n0 w0 fr H a w → drun P T E opsA q sf (remOf opsA listed) K fr H → wpAny P .any opsA Q fuel listed a w := by
  unfold regionOk at hok
  simp only [Bool.and_eq_true] at hok
  obtain ⟨⟨hback, hM⟩, hpairs⟩ := hok
  have hdone : ∀ {listed : Array Bool}, listed.size = opsA.size → Region.ready .any opsA listed = [] → remOf opsA listed = [] := by
    intro listed hsz hr
    cases hrem : remOf opsA listed with
    | nil => rfl
    | cons i rest =>
      exfalso
      -- the first one that has not come up may come up
      have hmem : i ∈ remOf opsA listed := by rw [hrem]; simp
      have hex : ∃ k, k < opsA.size ∧ listed.getD k true = false := ⟨i, mem_rem.1 hmem⟩
      obtain ⟨k, ⟨hk1, hk2⟩, hmin⟩ : ∃ k, (k < opsA.size ∧ listed.getD k true = false) ∧ ∀ j, j < k → ¬ (j < opsA.size ∧ listed.getD j true = false) := by
        clear hrem hmem
        obtain ⟨k, hk⟩ := hex
        induction k using Nat.strongRecOn with
        | _ k ih =>
          by_cases h : ∃ j, j < k ∧ (j < opsA.size ∧ listed.getD j true = false)
          · obtain ⟨j, hj1, hj2⟩ := h
            exact ih j hj1 hj2
          · exact ⟨k, hk, fun j hj hc => h ⟨j, hj, hc⟩⟩
      have := ready_of_min hback hsz hk1 hk2 fun j hj => by
        have hn := hmin j hj
        have hjs : j < opsA.size := by omega
        rw [getD_false_true (by omega)]
        cases hb : listed.getD j true with
        | true => rfl
        | false => exact absurd ⟨hjs, hb⟩ hn
      rw [hr] at this
      cases this
  intro fuel
  induction fuel with
  | zero =>
    intro listed fr H a w hsz hcl hlen hs h
    have hrem : remOf opsA listed = [] := List.eq_nil_of_length_eq_zero (by omega)
    rw [hrem] at h
    refine ⟨?_, hQ _ _ _ _ h hs⟩
    cases hr : Region.ready .any opsA listed with
    | nil => rfl
    | cons i rest =>
      have hm : i ∈ Region.ready .any opsA listed := by rw [hr]; simp
      obtain ⟨hun, o, ho, _⟩ := mem_ready.1 hm
      have : i ∈ remOf opsA listed := mem_rem.2 ⟨(Array.getElem?_eq_some_iff.1 ho).1, hun⟩
      rw [hrem] at this
      cases this
  | succ fuel ih =>
    intro listed fr H a w hsz hcl hlen hs h
    refine ⟨fun hr => ?_, fun i hi => ?_⟩
    · rw [hdone hsz hr] at h
      exact hQ _ _ _ _ h hs
    · obtain ⟨hun, o, ho, hall⟩ := mem_ready.1 hi
      have hlt : i < opsA.size := (Array.getElem?_eq_some_iff.1 ho).1
      obtain ⟨pre, post, h1, h2, h3⟩ := rem_split hsz hlt hun
      rw [h1] at h
      have hfront := drun_front (P := P) (T := T) (E := E) (opsA := opsA) (q := q) (K := K) (sf := sf) ho post pre fr H (by
        intro j hj oj hoj
        obtain ⟨hj1, hj2⟩ := h3 j hj
        rw [List.all_eq_true] at hpairs
        have := hpairs i (by simpa using hlt)
        rw [List.all_eq_true] at this
        have := this j (by simpa using hj1)
        simp only [Bool.or_eq_true] at this
        have e1 : opsA.getD j default = oj := by rw [Array.getD_eq_getD_getElem?, hoj]; rfl
        have e2 : opsA.getD i default = o := by rw [Array.getD_eq_getD_getElem?, ho]; rfl
        rw [e1, e2] at this
        rcases this with hb | hb
        · have := deps_listed hM hback hcl hi (by omega) hb
          rw [getD_false_true (by omega), hj2] at this
          cases this
        · exact hb) h
      have hof : operFits n o = true := Array.all_eq_true_iff_forall_mem.1 hfit o (Array.mem_of_getElem? ho)
      refine aopAt_sound ho hof hs (dopAt_aopAt hfront) ?_
      intro fr' H' a' w' hK hs'
      refine ih (listed.setIfInBounds i true) fr' H' a' w' (by simpa using hsz) ?_ ?_ hs' (by rw [h2]; exact hK)
      · -- still closed
        intro i' j' hi' hj' hl hb
        by_cases he : j' = i
        · subst he
          exact getD_set_self _ (by omega)
        · rw [getD_set_ne false (fun e => he e.symm)]
          by_cases he' : i' = i
          · subst he'
            exact deps_listed hM hback hcl hi hj' hb
          · rw [getD_set_ne false (fun e => he' e.symm)] at hl
            exact hcl i' j' hi' hj' hl hb
      · rw [h1] at hlen
        rw [h2]
        simp only [List.length_append, List.length_cons] at hlen ⊢
        omega

end

section
variable {P : Program} {T : Tabs} {n : Nat} {Q : Exit → Fr → Heap → Prop} {fr : Fr} {H : Heap}

theorem SR.drew {G0 : Nat → Nat} {F0 : Imm} {n0 : Nat} {w0 : World} {a : Act} {w : World} (hs : SR T n G0 F0 n0 w0 fr H a w) : SR T n G0 F0 n0 w0 fr H a w.drew := by
  obtain ⟨ρ, F, R, hw, hx⟩ := hs
  exact ⟨ρ, F, R, hw.drew, hx.drew⟩

/-- A region that draws its order, walked in the order of its text. -/
theorem AWp.regionD' {id : Nat} {ops : Array Oper} (E : List Nat) (q : Bool) (sf : Nat → Bool) (hm : P.follows .mixedOrders = true) (hfit : opsFit n ops = true) (hok : regionOk E ops sf = true)
    (h : drun P T E ops q sf (List.range ops.size) (Q .normal) fr H) : AWp P T n (.region id ops true) Q fr H := by
  intro G0 F0 n0 w0 a w hs
  refine wp_region_any hm ?_
  have hrem : remOf ops (Array.replicate ops.size false) = List.range ops.size := by
    unfold remOf
    rw [List.filter_eq_self]
    intro i hi
    have : i < ops.size := by simpa using hi
    simp [this]
  have := drun_any (Q := fun e a' w' => ∃ fr' H', Q e fr' H' ∧ SR T n G0 F0 n0 w0 fr' H' a' w') hok hfit (fun fr' H' a' w' h1 h2 => ⟨fr', H', h1, h2⟩) ops.size (Array.replicate ops.size false) fr H a w.drew (by simp)
    (by intro i j hi hj hl; simp [hi] at hl) (by rw [hrem]; simp) hs.drew (by rw [hrem]; exact h)
  exact this

/-- The same as a list, with one word for all: every load beside a call is none of a shared object (or the calls change nothing). -/
def drunL (P : Program) (T : Tabs) (E : List Nat) (opsA : Array Oper) (q : Bool) : List Oper → (Fr → Heap → Prop) → Fr → Heap → Prop
  | [], K, fr, H => K fr H
  | o :: rest, K, fr, H => dopAt P T E opsA q true o (fun fr H => drunL P T E opsA q rest K fr H) fr H

theorem drun_of_list {E : List Nat} {ops : Array Oper} {q : Bool} {K : Fr → Heap → Prop} : ∀ (l : List Oper) (k : Nat) (fr : Fr) (H : Heap), l = ops.toList.drop k → drunL P T E ops q l K fr H → drun P T E ops q (fun _ => true) (List.range' k l.length) K fr H := by
  intro l
  induction l with
  | nil => intro k fr H _ h; exact h
  | cons o l ih =>
    intro k fr H hl h
    have hlt : k < ops.toList.length := by
      rcases Nat.lt_or_ge k ops.toList.length with h' | h'
      · exact h'
      · rw [List.drop_eq_nil_of_le h'] at hl; cases hl
    have hd := List.drop_eq_getElem_cons hlt
    rw [hd] at hl
    injection hl with h1 h2
    have hi : ops[k]? = some o := by
      rw [h1]
      simp only [Array.getElem_toList]
      exact Array.getElem?_eq_getElem (by simpa using hlt)
    simp only [List.length_cons, List.range'_succ, drun, hi]
    exact dopAt_mono (fun fr H h => ih (k + 1) fr H h2 h) h

theorem AWp.regionD {id : Nat} {ops : Array Oper} (E : List Nat) (q : Bool) (hm : P.follows .mixedOrders = true) (hfit : opsFit n ops = true) (hok : regionOk E ops (fun _ => true) = true)
    (h : drunL P T E ops q ops.toList (Q .normal) fr H) : AWp P T n (.region id ops true) Q fr H := by
  refine AWp.regionD' E q (fun _ => true) hm hfit hok ?_
  have := drun_of_list (K := Q .normal) ops.toList 0 fr H (by simp) h
  rw [List.range_eq_range']
  simpa using this

end
end Go.Abs
