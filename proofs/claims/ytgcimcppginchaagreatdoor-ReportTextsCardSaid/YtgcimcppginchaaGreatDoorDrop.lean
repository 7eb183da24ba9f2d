/- A part of the proof of ReportTexts: contracts of functions of the program, and what they need. -/
import Derived.Test.YtgcimcppginchaaGreatDoorStep
/-
  Objects of the shared memory that nothing names any more may be left out of it.
-/
set_option linter.unusedSimpArgs false
set_option linter.unusedVariables false
namespace Go.Abs
open Go

mutual
/-- An abstract value names no shared object from a number on. -/
def AV.low (k : Nat) : AV → Bool
  | .undef => true
  | .sc _ => true
  | .rptr x => x.low k
  | .lptr _ _ _ => true
  | .gptr o _ => decide (o < k)
  | .slice _ l => AV.lowL k l
  | .agg l => AV.lowL k l
  | .tuple l => AV.lowL k l
  | .func _ f c => AV.lowL k f && AV.lowL k c
  | .iface _ x => x.low k
  | .lsl _ _ _ _ => true
  | .mptr o => decide (o < k)
  | .gsl o _ _ _ => decide (o < k)
  | .nul => true
  | .mapc _ xs => AV.lowL k xs
  | .miter o _ _ => decide (o < k)
def AV.lowL (k : Nat) : List AV → Bool
  | [] => true
  | x :: l => x.low k && AV.lowL k l
end
theorem AV.lowL_iff {k : Nat} : ∀ {l : List AV}, AV.lowL k l = true ↔ ∀ x ∈ l, x.low k = true
  | [] => by simp [AV.lowL]
  | x :: l => by simp [AV.lowL, AV.lowL_iff (l := l)]
theorem AV.low_cells {k : Nat} {x : AV} (h : x.low k = true) : AV.lowL k x.cells = true := by
  cases x <;> simp_all [AV.low, AV.cells, AV.lowL]
theorem AV.low_flat {k : Nat} {l : List AV} (h : AV.lowL k l = true) : AV.lowL k (l.flatMap AV.cells) = true := by
  rw [AV.lowL_iff] at h ⊢
  intro x hx
  obtain ⟨y, hy, hx⟩ := List.mem_flatMap.1 hx
  exact AV.lowL_iff.1 (AV.low_cells (h y hy)) x hx

@[simp] theorem AV.lowL_sc {α : Type} {k : Nat} (f : α → Value) (l : List α) : AV.lowL k (List.map (fun n => AV.sc (f n)) l) = true := by
  rw [AV.lowL_iff]
  intro x hx
  obtain ⟨y, _, rfl⟩ := List.mem_map.1 hx
  rfl

@[simp] theorem mapC_low {α : Type} {k : Nat} {f : α → AV} {l : List (Int × α)} (h : ∀ x, (f x).low k = true) : (mapC f l).low k = true := by
  simp only [mapC, AV.low]
  rw [AV.lowL_iff]
  intro x hx
  obtain ⟨y, _, rfl⟩ := List.mem_map.1 hx
  exact h y.2

section
variable {F : Imm} {G : Nat → Nat} {n k : Nat}
mutual
theorem PRep.lower : ∀ {x v}, PRep F G n x v → x.low k = true → PRep F G k x v
  | _, _, .undef h, _ => .undef h
  | _, _, .sc h, _ => .sc h
  | _, _, .rptr h1 h2 h3, hl => .rptr (h1.lower (AV.low_cells (by simpa [AV.low] using hl))) h2 h3
  | _, _, .gptr h, hl => .gptr (by simpa [AV.low] using hl)
  | _, _, .mptr h, hl => .mptr (by simpa [AV.low] using hl)
  | _, _, .gsl h h2 h3, hl => .gsl (by simpa [AV.low] using hl) h2 h3
  | _, _, .slice h1 h2 h3 h4 h5 h6 h7 h8, hl => .slice (h1.lower (AV.low_flat (by simpa [AV.low] using hl))) h2 h3 h4 h5 h6 h7 h8
  | _, _, .nul, _ => .nul
  | _, _, .agg h1 h2, hl => .agg (h1.lower (by simpa [AV.low] using hl)) h2
  | _, _, .tuple h1, hl => .tuple (h1.lower (by simpa [AV.low] using hl))
  | _, _, .func h1 h2, hl => by
    simp only [AV.low, Bool.and_eq_true] at hl
    exact .func (h1.lower hl.1) (h2.lower hl.2)
  | _, _, .iface h1, hl => .iface (h1.lower (by simpa [AV.low] using hl))
theorem PRepL.lower : ∀ {xs vs}, PRepL F G n xs vs → AV.lowL k xs = true → PRepL F G k xs vs
  | _, _, .nil, _ => .nil
  | _, _, .cons h1 h2, hl => by
    simp only [AV.lowL, Bool.and_eq_true] at hl
    exact .cons (h1.lower hl.1) (h2.lower hl.2)
end
end

theorem ObjRep.lower {F : Imm} {G : Nat → Nat} {n k : Nat} {cs ob} (h : ObjRep F G n cs ob) (hl : AV.lowL k cs = true) : ObjRep F G k cs ob := by
  cases h with
  | cells h0 h1 h2 => exact .cells h0 ((PRepL.of_all2 h1).lower hl).all2 h2
  | map h1 h2 h3 h4 h5 => exact .map h1 ((PRepL.of_all2 h2).lower (by simpa [AV.lowL, AV.low] using hl)).all2 h3 h4 h5
  | iter h => exact .iter (by simpa [AV.lowL, AV.low] using hl)
  | dead => exact .dead

/-- **Objects are left out**: a contract that ends with objects that neither the result nor the other objects name is one without them. -/
theorem ACallP.drop {P : Program} {T : Tabs} {f : FuncId} {args : List AV} {H : Heap} {Post Post' : AV → Heap → Prop} (h : ACallP P T f args H Post)
    (hp : ∀ r H', Post r H' → ∃ H0 X, H' = H0 ++ X ∧ H.length ≤ H0.length ∧ r.low H0.length = true ∧ (∀ cs ∈ H0, AV.lowL H0.length cs = true) ∧ Post' r H0) : ACallP P T f args H Post' := by
  refine ⟨h.1, fun G F w vs hg ha => (h.2 G F w vs hg ha).mono ?_⟩
  rintro e w' ⟨r, H', v, G', F', h1, rfl, h3, h4, h5⟩
  obtain ⟨H0, X, rfl, hlen, hr, hcs, hq⟩ := hp r H' h1
  have hsub : ∀ b o v, F b o = some v → F' b o = some v := by
    intro b o v hv
    have hb : b < w.heap.size := by
      rcases Nat.lt_or_ge b w.heap.size with hb | hb
      · exact hb
      · rw [hg.fresh b o hb] at hv; cases hv
    exact h5.mF b o v hb hv
  have hlt : ∀ o, o < H0.length → o < (H0 ++ X).length := fun o ho => by rw [List.length_append]; omega
  refine ⟨r, H0, v, G', F', hq, rfl, ?_, h4.lower hr, ?_⟩
  · refine ⟨h3.imm, ?_, fun o o' ho ho' => h3.inj o o' (hlt o ho) (hlt o' ho'), fun o j ho hnd => h3.gF o j (hlt o ho) (by rw [List.getElem?_append_left ho]; exact hnd), h3.fresh, fun g x hx => ?_, h3.row⟩
    · intro o cs ho
      have hoL : o < H0.length := (List.getElem?_eq_some_iff.1 ho).1
      obtain ⟨ob, e1, e2⟩ := h3.glob o cs (by rw [List.getElem?_append_left hoL]; exact ho)
      exact ⟨ob, e1, e2.lower (hcs cs (List.mem_of_getElem? ho))⟩
    · exact (hg.tabs g x hx).grow ⟨hsub, hlen, fun o ho => h5.hG o ho⟩
  · exact ⟨h5.os, h5.tape, h5.output, h5.size, hlen, h5.hG, fun o h1 h2 => h5.Gnew o h1 (hlt o h2), h5.hF, h5.mF, h5.heap⟩
end Go.Abs
namespace Go.Abs
open Go

theorem AV.low_of_cells {k : Nat} {x : AV} (h : AV.lowL k x.cells = true) : x.low k = true := by
  cases x <;> simp_all [AV.low, AV.cells, AV.lowL]
theorem AV.lowL_of_flat {k : Nat} {l : List AV} (h : AV.lowL k (l.flatMap AV.cells) = true) : AV.lowL k l = true := by
  rw [AV.lowL_iff] at h ⊢
  intro x hx
  exact AV.low_of_cells (AV.lowL_iff.2 fun y hy => h y (List.mem_flatMap.2 ⟨x, hx, hy⟩))

section
variable {F : Imm} {G : Nat → Nat} {n : Nat}
mutual
/-- What stands for a value of the model names objects that are there. -/
theorem PRep.isLow : ∀ {x v}, PRep F G n x v → x.low n = true
  | _, _, .undef _ => rfl
  | _, _, .sc _ => rfl
  | _, _, .rptr h1 _ _ => by simpa [AV.low] using AV.low_of_cells h1.isLow
  | _, _, .gptr h => by simpa [AV.low] using h
  | _, _, .mptr h => by simpa [AV.low] using h
  | _, _, .gsl h _ _ => by simpa [AV.low] using h
  | _, _, .slice h1 _ _ _ _ _ _ _ => by simpa [AV.low] using AV.lowL_of_flat h1.isLow
  | _, _, .nul => rfl
  | _, _, .agg h1 _ => by simpa [AV.low] using h1.isLow
  | _, _, .tuple h1 => by simpa [AV.low] using h1.isLow
  | _, _, .func h1 h2 => by simp [AV.low, h1.isLow, h2.isLow]
  | _, _, .iface h1 => by simpa [AV.low] using h1.isLow
theorem PRepL.isLow : ∀ {xs vs}, PRepL F G n xs vs → AV.lowL n xs = true
  | _, _, .nil => rfl
  | _, _, .cons h1 h2 => by simp [AV.lowL, h1.isLow, h2.isLow]
end
end

theorem ObjRep.isLow {F : Imm} {G : Nat → Nat} {n : Nat} {cs ob} (h : ObjRep F G n cs ob) : AV.lowL n cs = true := by
  cases h with
  | cells h0 h1 h2 => exact (PRepL.of_all2 h1).isLow
  | map h1 h2 h3 h4 h5 => simpa [AV.lowL, AV.low] using (PRepL.of_all2 h2).isLow
  | iter h => simpa [AV.lowL, AV.low] using h
  | dead => rfl

/-- The same, where the objects that were there are as they were. -/
theorem ACallP.drop0 {P : Program} {T : Tabs} {f : FuncId} {args : List AV} {H : Heap} {Post Post' : AV → Heap → Prop} (h : ACallP P T f args H Post)
    (hp : ∀ r H', Post r H' → ∃ X, H' = H ++ X ∧ r.low H.length = true ∧ Post' r H) : ACallP P T f args H Post' := by
  refine ⟨h.1, fun G F w vs hg ha => ?_⟩
  have hlow : ∀ cs ∈ H, AV.lowL H.length cs = true := by
    intro cs hcs
    obtain ⟨o, ho⟩ := List.mem_iff_getElem?.1 hcs
    obtain ⟨ob, _, e2⟩ := hg.glob o cs ho
    exact e2.isLow
  exact (ACallP.drop (Post' := Post') h fun r H' hq => by
    obtain ⟨X, e, hl, hq'⟩ := hp r H' hq
    exact ⟨H, X, e, Nat.le_refl _, hl, hlow, hq'⟩).2 G F w vs hg ha
end Go.Abs

/-
  Families of shared memories, for functions that call a function's value that changes something: what such a value does, by a state that is handed on.
-/
namespace Go.Abs
open Go Go.Mdl

mutual
theorem AV.low_mono {k n : Nat} (h : k ≤ n) : ∀ {x : AV}, x.low k = true → x.low n = true
  | .undef, _ => rfl
  | .sc _, _ => rfl
  | .rptr x, hx => by simpa [AV.low] using AV.low_mono h (x := x) (by simpa [AV.low] using hx)
  | .lptr _ _ _, _ => rfl
  | .gptr o _, hx => by simp [AV.low] at hx ⊢; omega
  | .gsl o _ _ _, hx => by simp [AV.low] at hx ⊢; omega
  | .slice _ l, hx => by simpa [AV.low] using AV.lowL_mono h (l := l) (by simpa [AV.low] using hx)
  | .agg l, hx => by simpa [AV.low] using AV.lowL_mono h (l := l) (by simpa [AV.low] using hx)
  | .tuple l, hx => by simpa [AV.low] using AV.lowL_mono h (l := l) (by simpa [AV.low] using hx)
  | .func _ f c, hx => by
    simp only [AV.low, Bool.and_eq_true] at hx ⊢
    exact ⟨AV.lowL_mono h hx.1, AV.lowL_mono h hx.2⟩
  | .iface _ x, hx => by simpa [AV.low] using AV.low_mono h (x := x) (by simpa [AV.low] using hx)
  | .lsl _ _ _ _, _ => rfl
  | .nul, _ => rfl
  | .mptr o, hx => by simp [AV.low] at hx ⊢; omega
  | .mapc _ l, hx => by simpa [AV.low] using AV.lowL_mono h (l := l) (by simpa [AV.low] using hx)
  | .miter o _ _, hx => by simp [AV.low] at hx ⊢; omega
theorem AV.lowL_mono {k n : Nat} (h : k ≤ n) : ∀ {l : List AV}, AV.lowL k l = true → AV.lowL n l = true
  | [], _ => rfl
  | x :: l, hx => by
    simp only [AV.lowL, Bool.and_eq_true] at hx ⊢
    exact ⟨AV.low_mono h hx.1, AV.lowL_mono h hx.2⟩
end

/-! ### memory that is written, and read again -/
theorem lt_of_get {H : Heap} {o : Nat} {c : List AV} (h : H[o]? = some c) : o < H.length := (List.getElem?_eq_some_iff.1 h).1
theorem hset_self {H : Heap} {o : Nat} {c : List AV} (h : H[o]? = some c) : hset H o c = H := by
  apply List.ext_getElem?
  intro i
  simp only [hset]
  rw [List.getElem?_set]
  split
  · rename_i e
    subst e
    rw [if_pos (lt_of_get h), h]
  · rfl
@[simp] theorem length_hset' (H : Heap) (o : Nat) (c : List AV) : (hset H o c).length = H.length := by simp [hset]
@[simp] theorem hset_hset' (H : Heap) (o : Nat) (c d : List AV) : hset (hset H o c) o d = hset H o d := by simp [hset]
/-- A place is in a memory. -/
def Inb (H : Heap) (o : Nat) : Prop := o < H.length
theorem inb_of_get {H : Heap} {o : Nat} {c : List AV} (h : H[o]? = some c) : Inb H o := lt_of_get h
@[simp] theorem inb_hset (H : Heap) (o o' : Nat) (c : List AV) : Inb (hset H o c) o' = Inb H o' := by simp [Inb]
theorem hset_get {H : Heap} {o : Nat} {c : List AV} (h : Inb H o) : (hset H o c)[o]? = some c := by simp [hset, show o < H.length from h]
theorem hset_get_ne {H : Heap} {o o' : Nat} {c : List AV} (h : o ≠ o') : (hset H o c)[o']? = H[o']? := by simp [hset, List.getElem?_set, h]
theorem hset_swap {H : Heap} {o o' : Nat} {c d e : List AV} (h : o ≠ o') : hset (hset (hset H o c) o' d) o e = hset (hset H o e) o' d := by
  simp only [hset]
  rw [List.set_comm _ _ h.symm, List.set_set]
theorem get_app_lt {A B : Heap} {o : Nat} (h : Inb A o) : (A ++ B)[o]? = A[o]? := List.getElem?_append_left h
theorem hset_app_lt {A B : Heap} {o : Nat} {c : List AV} (h : Inb A o) : hset (A ++ B) o c = hset A o c ++ B := by simp [hset, List.set_append, show o < A.length from h]
theorem get_app_ge {A B : Heap} {k i : Nat} (h : A.length = k) : (A ++ B)[k + i]? = B[i]? := by
  subst h
  rw [List.getElem?_append_right (by omega)]
  congr 1
  omega
theorem get_app_eq {A B : Heap} {k : Nat} (h : A.length = k) : (A ++ B)[k]? = B[0]? := get_app_ge (i := 0) h
theorem hset_app_ge {A B : Heap} {k i : Nat} {c : List AV} (h : A.length = k) : hset (A ++ B) (k + i) c = A ++ hset B i c := by
  subst h
  simp [hset, List.set_append]
theorem hset_app_eq {A B : Heap} {k : Nat} {c : List AV} (h : A.length = k) : hset (A ++ B) k c = A ++ hset B 0 c := hset_app_ge (i := 0) h
@[simp] theorem hset_cons0 (a : List AV) (l : Heap) (c : List AV) : hset (a :: l) 0 c = c :: l := rfl
@[simp] theorem hset_cons1 (a : List AV) (l : Heap) (i : Nat) (c : List AV) : hset (a :: l) (i + 1) c = a :: hset l i c := rfl
@[simp] theorem hset_cons1' (a : List AV) (l : Heap) (c : List AV) : hset (a :: l) 1 c = a :: hset l 0 c := rfl
@[simp] theorem hset_cons2' (a : List AV) (l : Heap) (c : List AV) : hset (a :: l) 2 c = a :: hset l 1 c := rfl
@[simp] theorem hset_cons3' (a : List AV) (l : Heap) (c : List AV) : hset (a :: l) 3 c = a :: hset l 2 c := rfl
@[simp] theorem hset_cons4' (a : List AV) (l : Heap) (c : List AV) : hset (a :: l) 4 c = a :: hset l 3 c := rfl
@[simp] theorem hset_cons5' (a : List AV) (l : Heap) (c : List AV) : hset (a :: l) 5 c = a :: hset l 4 c := rfl
theorem mem_hset {H : Heap} {o : Nat} {c cs : List AV} (h : cs ∈ hset H o c) : cs ∈ H ∨ cs = c := by
  simp only [hset] at h
  exact List.mem_or_eq_of_mem_set h

theorem ACallP.at1 {P : Program} {T : Tabs} {f : FuncId} {args : List AV} {H : Heap} {o : Nat} {c : List AV} {Post : AV → Heap → Prop} (h : H[o]? = some c) (h' : ACallP P T f args (hset H o c) Post) : ACallP P T f args H Post := by
  rwa [hset_self h] at h'

/-! ### families -/
/-- A family of memories of one length, that differ in objects that name nothing beyond them. -/
structure Fam {S : Type} (st : S → Heap) (k : Nat) : Prop where
  len : ∀ s, (st s).length = k
  low : ∀ s s' cs, cs ∈ st s' → cs ∈ st s ∨ AV.lowL k cs = true

theorem Fam.const {S : Type} (H : Heap) : Fam (fun _ : S => H) H.length := ⟨fun _ => rfl, fun _ _ _ h => .inl h⟩
theorem Fam.const' {S : Type} {H : Heap} {k : Nat} (h : H.length = k) : Fam (fun _ : S => H) k := ⟨fun _ => h, fun _ _ _ h => .inl h⟩
theorem Fam.ext {S : Type} {st : S → Heap} {k : Nat} (h : Fam st k) (X : Heap) {n : Nat} (hn : k + X.length = n) : Fam (fun s => st s ++ X) n := by
  subst hn
  refine ⟨fun s => by rw [List.length_append, h.len], fun s s' cs hc => ?_⟩
  rcases List.mem_append.1 hc with hc | hc
  · rcases h.low s s' cs hc with h1 | h1
    · exact .inl (List.mem_append_left _ h1)
    · exact .inr (AV.lowL_mono (by omega) h1)
  · exact .inl (List.mem_append_right _ hc)
/-- Objects behind, of which some differ. -/
theorem Fam.objs {S : Type} (H : Heap) (f : S → Heap) (n : Nat) (hn : ∀ s, (f s).length = n) (hl : ∀ s s' cs, cs ∈ f s' → cs ∈ f s ∨ AV.lowL (H.length + n) cs = true) : Fam (fun s => H ++ f s) (H.length + n) := by
  refine ⟨fun s => by rw [List.length_append, hn], fun s s' cs hc => ?_⟩
  rcases List.mem_append.1 hc with hc | hc
  · exact .inl (List.mem_append_left _ hc)
  · rcases hl s s' cs hc with h1 | h1
    · exact .inl (List.mem_append_right _ h1)
    · exact .inr h1
/-- An object that was there, and differs. -/
theorem Fam.hset {S : Type} (H : Heap) (o : Nat) (c : S → List AV) (hl : ∀ s, AV.lowL H.length (c s) = true) : Fam (fun s => hset H o (c s)) H.length := by
  refine ⟨fun s => length_hset' _ _ _, fun s s' cs hc => ?_⟩
  obtain ⟨i, hi⟩ := List.mem_iff_getElem?.1 hc
  by_cases h : o = i
  · subst h
    have hlt : o < (Abs.hset H o (c s')).length := lt_of_get hi
    rw [length_hset'] at hlt
    rw [hset_get hlt] at hi
    obtain rfl := Option.some.inj hi
    exact .inr (hl s')
  · rw [hset_get_ne h] at hi
    exact .inl (List.mem_iff_getElem?.2 ⟨i, by rw [hset_get_ne h]; exact hi⟩)

/-- Objects are left out, where those that were there are the same or name nothing new. -/
theorem ACallP.dropL {P : Program} {T : Tabs} {f : FuncId} {args : List AV} {H : Heap} {Post Post' : AV → Heap → Prop} (h : ACallP P T f args H Post)
    (hp : ∀ r H', Post r H' → ∃ H0 X, H' = H0 ++ X ∧ H0.length = H.length ∧ r.low H.length = true ∧ (∀ cs ∈ H0, cs ∈ H ∨ AV.lowL H.length cs = true) ∧ Post' r H0) : ACallP P T f args H Post' := by
  refine ⟨h.1, fun G F w vs hg ha => ?_⟩
  have hlow : ∀ cs ∈ H, AV.lowL H.length cs = true := by
    intro cs hcs
    obtain ⟨o, ho⟩ := List.mem_iff_getElem?.1 hcs
    obtain ⟨ob, _, e2⟩ := hg.glob o cs ho
    exact e2.isLow
  refine (ACallP.drop (Post' := Post') h fun r H' hq => ?_).2 G F w vs hg ha
  obtain ⟨H0, X, e, hlen, hl, hcs, hq'⟩ := hp r H' hq
  refine ⟨H0, X, e, by omega, by rw [hlen]; exact hl, fun cs hc => ?_, hq'⟩
  rw [hlen]
  rcases hcs cs hc with h1 | h1
  · exact hlow cs h1
  · exact h1
theorem ACallP.dropS {P : Program} {T : Tabs} {f : FuncId} {args : List AV} {S : Type} {st : S → Heap} {k : Nat} (hF : Fam st k) {s : S} {Post Post' : AV → Heap → Prop} (h : ACallP P T f args (st s) Post)
    (hp : ∀ r H', Post r H' → ∃ s' X, H' = st s' ++ X ∧ r.low k = true ∧ Post' r (st s')) : ACallP P T f args (st s) Post' :=
  ACallP.dropL h fun r H' hq => by
    obtain ⟨s', X, e, hl, hq'⟩ := hp r H' hq
    exact ⟨st s', X, e, by rw [hF.len, hF.len], by rw [hF.len]; exact hl, fun cs hc => by rw [hF.len]; exact hF.low s s' cs hc, hq'⟩
@[simp] theorem set_hset (H : List (List AV)) (o : Nat) (c : List AV) : List.set H o c = hset H o c := rfl
attribute [simp] hset_get hset_get_ne hset_swap get_app_lt hset_app_lt get_app_ge get_app_eq hset_app_ge hset_app_eq
end Go.Abs

/-
  Regions that draw their order, where some loads and stores of shared objects are ordered beside all that changes something.
-/
namespace Go.Abs
open Go Go.Mdl

/-- The operations as a list, each with a word: whether it may stand beside others that change something. -/
def drunS (P : Program) (T : Tabs) (E : List Nat) (opsA : Array Oper) (q : Qt) : List Bool → List Oper → (Fr → Heap → Prop) → Fr → Heap → Prop
  | _, [], K, fr, H => K fr H
  | [], o :: rest, K, fr, H => dopAt P T E opsA q true o (fun fr H => drunS P T E opsA q [] rest K fr H) fr H
  | b :: bs, o :: rest, K, fr, H => dopAt P T E opsA q b o (fun fr H => drunS P T E opsA q bs rest K fr H) fr H

theorem drun_of_listS {E : List Nat} {ops : Array Oper} {q : Qt} {P : Program} {T : Tabs} {K : Fr → Heap → Prop} (fl : List Bool) : ∀ (l : List Oper) (k : Nat) (fr : Fr) (H : Heap), l = ops.toList.drop k → drunS P T E ops q (fl.drop k) l K fr H →
    drun P T E ops q (fun i => fl.getD i true) (List.range' k l.length) K fr H := by
  intro l
  induction l with
  | nil =>
    intro k fr H _ h
    cases hh : fl.drop k <;> rw [hh] at h <;> exact h
  | cons o l ih =>
    intro k fr H hl h
    have hlt : k < ops.toList.length := by
      rcases Nat.lt_or_ge k ops.toList.length with h' | h'
      · exact h'
      · rw [List.drop_eq_nil_of_le h'] at hl; cases hl
    have hd := List.drop_eq_getElem_cons hlt
    rw [hd] at hl
    injection hl with h1 h2
    have hi : ops[k]? = some o := by
      rw [h1]
      simp only [Array.getElem_toList]
      exact Array.getElem?_eq_getElem (by simpa using hlt)
    simp only [List.length_cons, List.range'_succ, drun, hi]
    have e1 : fl.getD k true = (fl.drop k).headD true := by
      simp only [List.getD, List.headD_eq_head?_getD, List.head?_drop]
    have e2 : fl.drop (k + 1) = (fl.drop k).tail := by rw [List.tail_drop]
    rw [e1]
    refine dopAt_mono (K := fun fr H => drunS P T E ops q (fl.drop (k + 1)) l K fr H) (fun fr H h => ih (k + 1) fr H h2 h) ?_
    rw [e2]
    cases hh : fl.drop k <;> rw [hh] at h <;> exact h

theorem AWp.regionS {P : Program} {T : Tabs} {n : Nat} {Q : Exit → Fr → Heap → Prop} {fr : Fr} {H : Heap} {id : Nat} {ops : Array Oper} (E : List Nat) (q : Qt) (fl : List Bool) (hm : P.follows .mixedOrders = true) (hfit : opsFit n ops = true) (hok : regionOk E ops (fun i => fl.getD i true) = true)
    (h : drunS P T E ops q fl ops.toList (Q .normal) fr H) : AWp P T n (.region id ops true) Q fr H := by
  refine AWp.regionD' E q (fun i => fl.getD i true) hm hfit hok ?_
  have := drun_of_listS (P := P) (T := T) (E := E) (ops := ops) (q := q) (K := Q .normal) fl ops.toList 0 fr H (by rw [List.drop_zero]) (by rw [List.drop_zero]; exact h)
  rw [List.range_eq_range']
  simpa using this

/-- A call in such a region, with what follows it. -/
def CallAtS (P : Program) (T : Tabs) (E : List Nat) (ops : Array Oper) (q : Qt) (bs : List Bool) (fv : AV) (as : List AV) (d : Option Nat) (rest : List Oper) (K : Fr → Heap → Prop) (fr : Fr) (H : Heap) : Prop :=
  if d.any E.contains = true then relG P T q true fv as d (drunS P T E ops q bs rest K) fr H else ∃ r H', AInvokeD P T fv as H r H' ∧ (QK q H H') ∧ drunS P T E ops q bs rest K (fr.put d r) H'

/-- The same where the call is ordered beside all loads. -/
def CallAtH (P : Program) (T : Tabs) (E : List Nat) (ops : Array Oper) (q : Qt) (bs : List Bool) (fv : AV) (as : List AV) (d : Option Nat) (rest : List Oper) (K : Fr → Heap → Prop) (fr : Fr) (H : Heap) : Prop :=
  if d.any E.contains = true then relG P T q false fv as d (drunS P T E ops q bs rest K) fr H else ∃ r H', AInvokeD P T fv as H r H' ∧ drunS P T E ops q bs rest K (fr.put d r) H'

section
variable {P : Program} {T : Tabs} {E : List Nat} {ops : Array Oper} {q : Qt} {bs : List Bool} {rest : List Oper} {K : Fr → Heap → Prop} {fr : Fr} {H H' : Heap} {d : Option Nat} {ty : TypeId} {pos : String} {after : Array Edge}
theorem CallAtS.val {fv : AV} {as : List AV} {r : AV} (h : AInvokeD P T fv as H r H') (hq : QK q H H') (hk : drunS P T E ops q bs rest K (fr.put d r) H') : CallAtS P T E ops q bs fv as d rest K fr H := by
  unfold CallAtS
  split
  · exact relG_of h (fun _ => hq) hk
  · exact ⟨r, H', h, hq, hk⟩
theorem CallAtH.val {fv : AV} {as : List AV} {r : AV} (h : AInvokeD P T fv as H r H') (hk : drunS P T E ops q bs rest K (fr.put d r) H') : CallAtH P T E ops q bs fv as d rest K fr H := by
  unfold CallAtH
  split
  · exact relG_of h (fun h => by cases h) hk
  · exact ⟨r, H', h, hk⟩
/-- A call of whose result only something is known. -/
theorem CallAtS.rel {g : FuncId} {as : List AV} {Post : AV → Heap → Prop} (h : ACallP P T g as H Post) (hex : ∃ r h, Post r h) (hE : d.any E.contains = true) (hk : ∀ r h, Post r h → QK q H h ∧ drunS P T E ops q bs rest K (fr.put d r) h) : CallAtS P T E ops q bs (.func (.func g) [] []) as d rest K fr H := by
  unfold CallAtS
  rw [if_pos hE]
  refine ⟨Post, ?_, hex, fun r h hp => ⟨fun _ => (hk r h hp).1, (hk r h hp).2⟩⟩
  unfold AInvoke
  simp only [List.nil_append, List.append_nil]
  exact h
theorem CallAtH.rel {g : FuncId} {as : List AV} {Post : AV → Heap → Prop} (h : ACallP P T g as H Post) (hex : ∃ r h, Post r h) (hE : d.any E.contains = true) (hk : ∀ r h, Post r h → drunS P T E ops q bs rest K (fr.put d r) h) : CallAtH P T E ops q bs (.func (.func g) [] []) as d rest K fr H := by
  unfold CallAtH
  rw [if_pos hE]
  refine ⟨Post, ?_, hex, fun r h hp => ⟨fun hs => (by cases hs), hk r h hp⟩⟩
  unfold AInvoke
  simp only [List.nil_append, List.append_nil]
  exact h
theorem CallAtS.fn {g : FuncId} {as : List AV} {r : AV} (h : ACall P T g as H r H') (hq : QK q H H') (hk : drunS P T E ops q bs rest K (fr.put d r) H') : CallAtS P T E ops q bs (.func (.func g) [] []) as d rest K fr H := by
  refine CallAtS.val ?_ hq hk
  unfold AInvokeD AInvoke
  simp only [List.nil_append, List.append_nil]
  exact h
theorem CallAtS.clo {g : FuncId} {fi ca as as' : List AV} {r : AV} (ha : fi ++ as ++ ca = as') (h : ACall P T g as' H r H') (hq : QK q H H') (hk : drunS P T E ops q bs rest K (fr.put d r) H') : CallAtS P T E ops q bs (.func (.func g) fi ca) as d rest K fr H := by
  subst ha
  exact CallAtS.val h hq hk
theorem CallAtH.fn {g : FuncId} {as : List AV} {r : AV} (h : ACall P T g as H r H') (hk : drunS P T E ops q bs rest K (fr.put d r) H') : CallAtH P T E ops q bs (.func (.func g) [] []) as d rest K fr H := by
  refine CallAtH.val ?_ hk
  unfold AInvokeD AInvoke
  simp only [List.nil_append, List.append_nil]
  exact h
theorem CallAtH.clo {g : FuncId} {fi ca as as' : List AV} {r : AV} (ha : fi ++ as ++ ca = as') (h : ACall P T g as' H r H') (hk : drunS P T E ops q bs rest K (fr.put d r) H') : CallAtH P T E ops q bs (.func (.func g) fi ca) as d rest K fr H := by
  subst ha
  exact CallAtH.val h hk
@[simp] theorem drunS_hcall {f : Operand} {as : Array Operand} {ts : Array TypeId} : drunS P T E ops q (false :: bs) ({ dst := d, op := .call { callee := .value f, args := as, argTypes := ts }, type := ty, pos := pos, after := after, guard := none } :: rest) K fr H =
    CallAtH P T E ops q bs (ev T fr f) (as.toList.map fun x => (ev T fr x).norm) d rest K fr H := by
  simp only [drunS, dopAt, guardA, gstep, isApg, growG, isStO, Bool.false_eq_true, if_false, dstep, CallAtH, Bool.false_eq_true, false_implies, true_and]
@[simp] theorem drunS_nil (bs : List Bool) : drunS P T E ops q bs [] K fr H = K fr H := by cases bs <;> rfl
/-! operations that are ordered beside all others that matter -/
@[simp] theorem drunS_hload {t : TypeId} {x : Operand} : drunS P T E ops q (false :: bs) ({ dst := d, op := .load t x, type := ty, pos := pos, after := after, guard := none } :: rest) K fr H =
    if rootChk ops.toList x (ev T fr x) then (match loadA P fr H t (ev T fr x) with | some v => drunS P T E ops q bs rest K (fr.put d v) H | none => False) else False := by
  simp only [drunS, dopAt, guardA, gstep, isApg, growG, isStO, Bool.false_eq_true, if_false, dstep, dval, Bool.not_false, Bool.true_or, Bool.and_true]
  split
  · rename_i v hv
    split at hv
    · rename_i hc
      rw [if_pos hc, hv]
    · cases hv
  · rename_i hv
    split at hv
    · rename_i hc
      rw [if_pos hc, hv]
    · rename_i hc
      rw [if_neg hc]
@[simp] theorem drunS_hstore {t : TypeId} {x y : Operand} : drunS P T E ops q (false :: bs) ({ dst := none, op := .store t x y, type := ty, pos := pos, after := after, guard := none } :: rest) K fr H =
    (farV E q x (ev T fr x) ∧ rootChk ops.toList x (ev T fr x) = true ∧ storeA P t (ev T fr x) (ev T fr y) (drunS P T E ops q bs rest K) fr H) := by
  simp only [drunS, dopAt, guardA, gstep, isApg, growG, isStO, Bool.false_eq_true, if_false, dstep, true_and, Bool.false_eq_true, false_implies, if_true, farC]
theorem drunS_val {o : Oper} (hg : o.guard = none) {v : AV} (h : dval P T E ops.toList q true fr H o = some v) (hc : clsOf E ops.toList o = .val ∨ ∃ r, clsOf E ops.toList o = .load r) (hk : drunS P T E ops q bs rest K (fr.put o.dst v) H) :
    drunS P T E ops q (true :: bs) (o :: rest) K fr H := by
  show dopAt P T E ops q true o (fun fr H => drunS P T E ops q bs rest K fr H) fr H
  unfold dopAt guardA
  rw [hg]
  simp only
  rw [gstep_neg (notApg_val hc) hc]
  exact dstep_of (dval_drel h) hk

@[simp] theorem drunS_move {x : Operand} : drunS P T E ops q (true :: bs) ({ dst := d, op := .move x, type := ty, pos := pos, after := after, guard := none } :: rest) K fr H = drunS P T E ops q bs rest K (fr.put d (ev T fr x)) H := rfl
@[simp] theorem drunS_assign {x : Operand} : drunS P T E ops q (true :: bs) ({ dst := d, op := .assign x, type := ty, pos := pos, after := after, guard := none } :: rest) K fr H = drunS P T E ops q bs rest K (fr.put d (ev T fr x)) H := rfl
@[simp] theorem drunS_alloc {t : TypeId} : drunS P T E ops q (true :: bs) ({ dst := d, op := .alloc t, type := ty, pos := pos, after := after, guard := none } :: rest) K fr H =
    match zeroA P t with | some z => d.any E.contains = false ∧ allocA E d z (drunS P T E ops q bs rest K) fr H | none => False := by
  simp only [drunS, dopAt, guardA, gstep, isApg, growG, isStO, Bool.false_eq_true, if_false, dstep, true_implies]
  rfl
@[simp] theorem drunS_box {t : TypeId} {x : Operand} : drunS P T E ops q (true :: bs) ({ dst := d, op := .box t x, type := ty, pos := pos, after := after, guard := none } :: rest) K fr H =
    (notTuple (ev T fr x) = true ∧ d.any E.contains = false ∧ allocA E d (ev T fr x).cells (drunS P T E ops q bs rest K) fr H) := by
  simp only [drunS, dopAt, guardA, gstep, isApg, growG, isStO, Bool.false_eq_true, if_false, dstep, true_implies]
@[simp] theorem drunS_load {t : TypeId} {x : Operand} : drunS P T E ops q (true :: bs) ({ dst := d, op := .load t x, type := ty, pos := pos, after := after, guard := none } :: rest) K fr H =
    if rootChk ops.toList x (ev T fr x) && q.ok (ev T fr x) then (match loadA P fr H t (ev T fr x) with | some v => drunS P T E ops q bs rest K (fr.put d v) H | none => False) else False := by
  simp only [drunS, dopAt, guardA, gstep, isApg, growG, isStO, Bool.false_eq_true, if_false, dstep, dval, Bool.not_true, Bool.false_or]
  split
  · rename_i v hv
    split at hv
    · rename_i hc
      rw [if_pos hc, hv]
    · cases hv
  · rename_i hv
    split at hv
    · rename_i hc
      rw [if_pos hc, hv]
    · rename_i hc
      rw [if_neg hc]
@[simp] theorem drunS_store {t : TypeId} {x y : Operand} : drunS P T E ops q (true :: bs) ({ dst := none, op := .store t x y, type := ty, pos := pos, after := after, guard := none } :: rest) K fr H =
    (farV E q x (ev T fr x) ∧ rootChk ops.toList x (ev T fr x) = true ∧ isL (ev T fr x) = true ∧ storeA P t (ev T fr x) (ev T fr y) (drunS P T E ops q bs rest K) fr H) := by
  simp only [drunS, dopAt, guardA, gstep, isApg, growG, isStO, Bool.false_eq_true, if_false, dstep, true_implies, true_and, if_true, farC]
@[simp] theorem drunS_buildSlice {t n : Nat} {ps : Array (Nat × Operand)} : drunS P T E ops q (true :: bs) ({ dst := d, op := .buildSlice t n ps, type := ty, pos := pos, after := after, guard := none } :: rest) K fr H =
    if d.any E.contains = true then False else match buildSliceA P t n (ps.toList.map fun p => (p.1, ev T fr p.2)) with | some v => drunS P T E ops q bs rest K (fr.put d v) H | none => False := by
  simp only [drunS, dopAt, guardA, gstep, isApg, growG, isStO, Bool.false_eq_true, if_false, dstep, dval]
  split
  · rename_i v hv
    split at hv
    · cases hv
    · rename_i hc
      rw [if_neg hc, hv]
  · rename_i hv
    split at hv
    · rename_i hc
      rw [if_pos hc]
    · rename_i hc
      rw [if_neg hc, hv]
@[simp] theorem drunS_makeSlice {t : TypeId} {l c : Operand} : drunS P T E ops q (true :: bs) ({ dst := d, op := .makeSlice t l c, type := ty, pos := pos, after := after, guard := none } :: rest) K fr H =
    match makeSliceA P t (ev T fr l) (ev T fr c) with | some v => drunS P T E ops q bs rest K (fr.put d v) H | none => False := by
  simp only [drunS, dopAt, guardA, gstep, isApg, growG, isStO, Bool.false_eq_true, if_false, dstep, dval]
  cases makeSliceA P t (ev T fr l) (ev T fr c) <;> rfl
/-- A look into a map that nothing changes. -/
@[simp] theorem drunS_lookup {t : TypeId} {x i : Operand} {ok : Bool} : drunS P T E ops q (true :: bs) ({ dst := d, op := .lookup t x i ok, type := ty, pos := pos, after := after, guard := none } :: rest) K fr H =
    if q.all = true then (match lookupA P H t (ev T fr x) (ev T fr i) ok with | some v => drunS P T E ops q bs rest K (fr.put d v) H | none => False) else False := by
  simp only [drunS, dopAt, guardA, gstep, isApg, growG, isStO, Bool.false_eq_true, if_false, dstep, dval, Bool.not_true, Bool.false_or]
  split
  · rename_i v hv
    split at hv
    · rename_i hc
      rw [if_pos hc, hv]
    · cases hv
  · rename_i hv
    split at hv
    · rename_i hc
      rw [if_pos hc, hv]
    · rename_i hc
      rw [if_neg hc]
@[simp] theorem drunS_append {x y : Operand} {t d : Nat} : drunS P T E ops q (true :: bs) ({ dst := some d, op := .call { callee := .builtin .append, args := #[x, y], argTypes := #[t, t] }, type := ty, pos := pos, after := after, guard := none } :: rest) K fr H =
    if E.contains d = true then AppG P t (ev T fr x) (ev T fr y) d (drunS P T E ops q bs rest K) fr H else AppAt P t (ev T fr x) (ev T fr y) d (drunS P T E ops q bs rest K) fr H := by
  simp only [drunS, dopAt, guardA, gstep, isApg, growG, isStO, Bool.false_eq_true, if_false, dstep, Option.any_some]
  split
  · rename_i hc; first | exact appendG_eq | (simp only [hc, ↓reduceIte]; exact appendG_eq)
  · rename_i hc; first | exact appendA_eq | (simp only [hc, ↓reduceIte]; exact appendA_eq)
@[simp] theorem drunS_call {f : Operand} {as : Array Operand} {ts : Array TypeId} : drunS P T E ops q (true :: bs) ({ dst := d, op := .call { callee := .value f, args := as, argTypes := ts }, type := ty, pos := pos, after := after, guard := none } :: rest) K fr H =
    CallAtS P T E ops q bs (ev T fr f) (as.toList.map fun x => (ev T fr x).norm) d rest K fr H := by
  simp only [drunS, dopAt, guardA, gstep, isApg, growG, isStO, Bool.false_eq_true, if_false, dstep, true_implies, CallAtS]
@[simp] theorem drunS_len {as : Array Operand} {ts : Array TypeId} : drunS P T E ops q (true :: bs) ({ dst := d, op := .call { callee := .builtin .len, args := as, argTypes := ts }, type := ty, pos := pos, after := after, guard := none } :: rest) K fr H =
    match callA P T fr { callee := .builtin .len, args := as, argTypes := ts } with | some v => drunS P T E ops q bs rest K (fr.put d v) H | none => False := rfl
@[simp] theorem drunS_max {as : Array Operand} {ts : Array TypeId} : drunS P T E ops q (true :: bs) ({ dst := d, op := .call { callee := .builtin .max, args := as, argTypes := ts }, type := ty, pos := pos, after := after, guard := none } :: rest) K fr H =
    match callA P T fr { callee := .builtin .max, args := as, argTypes := ts } with | some v => drunS P T E ops q bs rest K (fr.put d v) H | none => False := rfl
@[simp] theorem drunS_min {as : Array Operand} {ts : Array TypeId} : drunS P T E ops q (true :: bs) ({ dst := d, op := .call { callee := .builtin .min, args := as, argTypes := ts }, type := ty, pos := pos, after := after, guard := none } :: rest) K fr H =
    match callA P T fr { callee := .builtin .min, args := as, argTypes := ts } with | some v => drunS P T E ops q bs rest K (fr.put d v) H | none => False := rfl
@[simp] theorem drunS_pick {c a b : Operand} : drunS P T E ops q (true :: bs) ({ dst := d, op := .pick c a b, type := ty, pos := pos, after := after, guard := none } :: rest) K fr H =
    match aval P T fr { dst := d, op := .pick c a b, type := ty, pos := pos, after := after, guard := none } with | some v => drunS P T E ops q bs rest K (fr.put d v) H | none => False := rfl
@[simp] theorem drunS_build {t : TypeId} {ps : Array (Nat × Operand)} : drunS P T E ops q (true :: bs) ({ dst := d, op := .build t ps, type := ty, pos := pos, after := after, guard := none } :: rest) K fr H =
    match buildA P t (ps.toList.map fun p => (p.1, ev T fr p.2)) with | some v => drunS P T E ops q bs rest K (fr.put d v) H | none => False := rfl
@[simp] theorem drunS_binOp {o : BinOp} {t u : TypeId} {x y : Operand} : drunS P T E ops q (true :: bs) ({ dst := d, op := .binOp o t x y u, type := ty, pos := pos, after := after, guard := none } :: rest) K fr H =
    match binC P o t y (ev T fr x) (ev T fr y) with | some v => drunS P T E ops q bs rest K (fr.put d v) H | none => False := rfl
@[simp] theorem drunS_unOp {o : UnOp} {t : TypeId} {x : Operand} : drunS P T E ops q (true :: bs) ({ dst := d, op := .unOp o t x, type := ty, pos := pos, after := after, guard := none } :: rest) K fr H =
    match unA o (ev T fr x) with | some v => drunS P T E ops q bs rest K (fr.put d v) H | none => False := rfl
@[simp] theorem drunS_convert {s t : TypeId} {x : Operand} : drunS P T E ops q (true :: bs) ({ dst := d, op := .convert s t x, type := ty, pos := pos, after := after, guard := none } :: rest) K fr H =
    match convA P s t (ev T fr x) with | some v => drunS P T E ops q bs rest K (fr.put d v) H | none => False := rfl
@[simp] theorem drunS_makeFunc {fn : Fn} {f c : Array Operand} : drunS P T E ops q (true :: bs) ({ dst := d, op := .makeFunc fn f c, type := ty, pos := pos, after := after, guard := none } :: rest) K fr H =
    drunS P T E ops q bs rest K (fr.put d (.func fn (f.toList.map fun x => (ev T fr x).norm) (c.toList.map fun x => (ev T fr x).norm))) H := rfl
@[simp] theorem drunS_fieldAddr {t i : Nat} {x : Operand} : drunS P T E ops q (true :: bs) ({ dst := d, op := .fieldAddr t x i, type := ty, pos := pos, after := after, guard := none } :: rest) K fr H =
    match fieldAddrA P t (ev T fr x) i with | some v => drunS P T E ops q bs rest K (fr.put d v) H | none => False := rfl
@[simp] theorem drunS_field {t i : Nat} {x : Operand} : drunS P T E ops q (true :: bs) ({ dst := d, op := .field t x i, type := ty, pos := pos, after := after, guard := none } :: rest) K fr H =
    match fieldA P t (ev T fr x) i with | some v => drunS P T E ops q bs rest K (fr.put d v) H | none => False := rfl
@[simp] theorem drunS_indexAddr {t : TypeId} {x i : Operand} : drunS P T E ops q (true :: bs) ({ dst := d, op := .indexAddr t x i, type := ty, pos := pos, after := after, guard := none } :: rest) K fr H =
    match indexAddrA P t (ev T fr x) (ev T fr i) with | some v => drunS P T E ops q bs rest K (fr.put d v) H | none => False := rfl
@[simp] theorem drunS_index {t : TypeId} {x i : Operand} : drunS P T E ops q (true :: bs) ({ dst := d, op := .index t x i, type := ty, pos := pos, after := after, guard := none } :: rest) K fr H =
    match indexA P t (ev T fr x) (ev T fr i) with | some v => drunS P T E ops q bs rest K (fr.put d v) H | none => False := rfl
@[simp] theorem drunS_slice {t : TypeId} {x : Operand} {lo hi mx : Option Operand} : drunS P T E ops q (true :: bs) ({ dst := d, op := .slice t x lo hi mx, type := ty, pos := pos, after := after, guard := none } :: rest) K fr H =
    match sliceA P t (ev T fr x) (lo.map (ev T fr)) (hi.map (ev T fr)) (mx.map (ev T fr)) with | some v => drunS P T E ops q bs rest K (fr.put d v) H | none => False := rfl
@[simp] theorem drunS_extract {i : Nat} {x : Operand} : drunS P T E ops q (true :: bs) ({ dst := d, op := .extract x i, type := ty, pos := pos, after := after, guard := none } :: rest) K fr H =
    match aval P T fr { dst := d, op := .extract x i, type := ty, pos := pos, after := after, guard := none } with | some v => drunS P T E ops q bs rest K (fr.put d v) H | none => False := rfl
@[simp] theorem drunS_nilCheck {x : Operand} : drunS P T E ops q (true :: bs) ({ dst := d, op := .nilCheck x, type := ty, pos := pos, after := after, guard := none } :: rest) K fr H =
    match aval P T fr { dst := d, op := .nilCheck x, type := ty, pos := pos, after := after, guard := none } with | some v => drunS P T E ops q bs rest K (fr.put d v) H | none => False := rfl
@[simp] theorem drunS_makeInterface {t : TypeId} {x : Operand} : drunS P T E ops q (true :: bs) ({ dst := d, op := .makeInterface t x, type := ty, pos := pos, after := after, guard := none } :: rest) K fr H =
    match aval P T fr { dst := d, op := .makeInterface t x, type := ty, pos := pos, after := after, guard := none } with | some v => drunS P T E ops q bs rest K (fr.put d v) H | none => False := rfl

/-- An operation under a guard. -/
@[simp] theorem drunS_guard {op : Op} {j : Nat} {want : Bool} : drunS P T E ops q (true :: bs) ({ dst := d, op := op, type := ty, pos := pos, after := after, guard := some (j, want) } :: rest) K fr H =
    match (ops[j]?).bind (·.dst) with
    | some g => match fr.env g with
      | .sc (.bool b) => if b = want then drunS P T E ops q (true :: bs) ({ dst := d, op := op, type := ty, pos := pos, after := after, guard := none } :: rest) K fr H else drunS P T E ops q bs rest K (fr.put d (.tuple [])) H
      | .tuple _ => drunS P T E ops q bs rest K (fr.put d (.tuple [])) H
      | _ => False
    | none => False := by
  simp only [drunS, dopAt, guardA]
  cases hd : (ops[j]?).bind (·.dst) with
  | none => rfl
  | some g =>
    simp only
    cases he : fr.env g with
    | sc v =>
      cases v with
      | bool b =>
        simp only
        by_cases hw : b = want
        · subst hw
          simp only [beq_self_eq_true, if_true]
          rfl
        · rw [if_neg hw]
          have : (b == want) = false := by simpa using hw
          rw [this]
      | _ => rfl
    | _ => rfl

end
end Go.Abs

/-
  A typed memory: shared objects of some sorts as a list, pointers to them as numbers.
-/
namespace Go.Abs
open Go Go.Mdl

/-- A pointer into the typed memory, that begins at a place. -/
def pav (k : Nat) : Option Nat → AV
  | none => .sc (.pointer none)
  | some p => .gptr (k + p) 0
@[simp] theorem pav_none (k : Nat) : pav k none = .sc (.pointer none) := rfl
@[simp] theorem pav_some (k p : Nat) : pav k (some p) = .gptr (k + p) 0 := rfl
@[simp] theorem pav_one (k : Nat) (x : Option Nat) : (pav k x).isOne = true := by cases x <;> rfl
@[simp] theorem pav_cells (k : Nat) (x : Option Nat) : (pav k x).cells = [pav k x] := by cases x <;> rfl
@[simp] theorem pav_nt (k : Nat) (x : Option Nat) : notTuple (pav k x) = true := by cases x <;> rfl
@[simp] theorem pav_norm (k : Nat) (x : Option Nat) : (pav k x).norm = pav k x := by cases x <;> rfl
@[simp] theorem pav_ncell (k : Nat) (x : Option Nat) : (pav k x).ncell = pav k x := by cases x <;> rfl
@[simp] theorem pav_fits (P : Program) (ty : TypeId) (k : Nat) (x : Option Nat) : fitsB P ty (pav k x) = match layOf P ty with | some (false, _) => true | _ => false := by
  cases x with
  | none => exact fits_sc P ty _
  | some p => exact fits_gptr P ty _ _

def hmapG {C : Type} (c : Nat → C → List AV) (k : Nat) (l : List C) : Heap := l.map (c k)
@[simp] theorem hmapG_length {C : Type} (c : Nat → C → List AV) (k : Nat) (l : List C) : (hmapG c k l).length = l.length := by simp [hmapG]
@[simp] theorem hmapG_get {C : Type} (c : Nat → C → List AV) (k : Nat) (l : List C) (p : Nat) : (hmapG c k l)[p]? = (l[p]?).map (c k) := by simp [hmapG]
theorem hset_hmapG {C : Type} {c : Nat → C → List AV} {k : Nat} {l : List C} {p : Nat} {x : C} {cs : List AV} (h : cs = c k x) : hset (hmapG c k l) p cs = hmapG c k (l.set p x) := by
  subst h
  simp only [hset, hmapG, List.map_set]
theorem hmapG_app {C : Type} {c : Nat → C → List AV} {k : Nat} {l : List C} {x : C} {cs : List AV} (h : cs = c k x) : hmapG c k l ++ [cs] = hmapG c k (l ++ [x]) := by
  subst h
  simp [hmapG]
theorem put_get {C : Type} {l : List C} {p : Nat} {x y : C} (h : l[p]? = some y) : (l.set p x)[p]? = some x := by
  have : p < l.length := (List.getElem?_eq_some_iff.1 h).1
  simp [this]
theorem app_get {C : Type} {l : List C} {x : C} : (l ++ [x])[l.length]? = some x := by simp
theorem ACallP.nh0 {C : Type} {c : Nat → C → List AV} {P : Program} {T : Tabs} {f : FuncId} {args : List AV} {H : Heap} {Post : AV → Heap → Prop} (h : ACallP P T f args (H ++ hmapG c H.length []) Post) : ACallP P T f args H Post := by
  simpa [hmapG] using h
section
variable {P : Program} {t e : TypeId} {k : Nat} {x : Option Nat}
theorem binA_peq (hu : P.underlying t = some (.pointer e)) : binA P .eql t (pav k x) (.sc (.pointer none)) = some (.sc (.bool x.isNone)) := by
  cases x <;> simp [binA, binA0, hu]
theorem binA_pne (hu : P.underlying t = some (.pointer e)) : binA P .neq t (pav k x) (.sc (.pointer none)) = some (.sc (.bool x.isSome)) := by
  cases x <;> simp [binA, binA0, hu]
end
end Go.Abs

/-
  Slices of the frame's own whose elements are written: rows, elements, and how such a slice becomes one that no longer changes.
-/
namespace Go.Abs
open Go Go.Mdl

/-- The cells of a row: elements, and what is spare. -/
def arrC {α : Type} (f : α → AV) (L : List α) (k : Nat) : List AV := (L.map f).flatMap AV.cells ++ junk k
/-- Where an element lies in a row. -/
@[irreducible] def eoff (i sz : Nat) : Nat := i * sz
theorem eoff_eq (i sz : Nat) : eoff i sz = i * sz := by unfold eoff; rfl

section
variable {α : Type} {f : α → AV} {L : List α} {k sz : Nat}
theorem map_flat_len (h : ∀ x, (f x).cells.length = sz) (L : List α) : ((L.map f).flatMap AV.cells).length = L.length * sz := by
  rw [flatMap_len (sz := sz)]
  · simp
  · intro x hx
    obtain ⟨y, _, rfl⟩ := List.mem_map.1 hx
    exact h y
theorem arrC_length (h : ∀ x, (f x).cells.length = sz) : (arrC f L k).length = L.length * sz + k := by
  unfold arrC
  rw [List.length_append, map_flat_len h]
  simp [junk]
theorem arrC_take (h : ∀ x, (f x).cells.length = sz) : (arrC f L k).take (L.length * sz) = (L.map f).flatMap AV.cells := by
  unfold arrC
  rw [List.take_append_of_le_length (by rw [map_flat_len h]; exact Nat.le_refl _), List.take_of_length_le (by rw [map_flat_len h]; exact Nat.le_refl _)]
theorem arrC_at (h : ∀ x, (f x).cells.length = sz) {i : Nat} {x : α} (hi : L[i]? = some x) : ((arrC f L k).drop (i * sz)).take sz = (f x).cells := by
  have hlt := (List.getElem?_eq_some_iff.1 hi).1
  have h1 : i * sz + sz ≤ ((L.map f).flatMap AV.cells).length := by
    rw [map_flat_len h, ← Nat.succ_mul]
    exact Nat.mul_le_mul_right _ hlt
  unfold arrC
  rw [List.drop_append_of_le_length (by omega), List.take_append_of_le_length (by rw [List.length_drop]; omega)]
  exact flatMap_get (sz := sz) (by
    intro y hy
    obtain ⟨z, _, rfl⟩ := List.mem_map.1 hy
    exact h z) (by simp [hi])
theorem arrC_set (h : ∀ x, (f x).cells.length = sz) {i : Nat} {y : α} (hi : i < L.length) : setCells (arrC f L k) (i * sz) (f y).cells = arrC f (L.set i y) k := by
  unfold setCells arrC
  have hlen := map_flat_len h L
  have hle : i * sz + sz ≤ L.length * sz := by
    rw [← Nat.succ_mul]
    exact Nat.mul_le_mul_right _ hi
  rw [h y, List.take_append_of_le_length (by omega), List.drop_append_of_le_length (by omega), ← List.append_assoc]
  congr 1
  have e1 : L.set i y = L.take i ++ y :: L.drop (i + 1) := List.set_eq_take_append_cons_drop ▸ (by rw [if_pos hi])
  rw [e1, List.map_append, List.map_cons, List.flatMap_append, List.flatMap_cons]
  have hm : ∀ x ∈ L.map f, x.cells.length = sz := by
    intro x hx
    obtain ⟨z, _, rfl⟩ := List.mem_map.1 hx
    exact h z
  have e2 : i * sz + sz = (i + 1) * sz := by rw [Nat.succ_mul]
  rw [e2, ← flatMap_take hm, ← flatMap_drop hm, List.map_take, List.map_drop, List.append_assoc]
end

theorem ncell_flat {α : Type} {f : α → AV} (hnc : ∀ x, (f x).cells.map AV.ncell = (f x).cells) (L : List α) : (L.map f).flatMap AV.cells = ((L.map f).flatMap AV.cells).map AV.ncell := by
  induction L with
  | nil => rfl
  | cons x L ih => simp only [List.map_cons, List.flatMap_cons, List.map_append, hnc, ← ih]

/-! ### appends -/
theorem AppAt2.newL {P : Program} {t e sz d : Nat} {s x : AV} {K : Fr → Heap → Prop} {fr : Fr} {H : Heap} {α : Type} {f : α → AV} (m : List α) {tag' : Tag}
    (hap : apOf P t = some (e, sz)) (hz : ∃ zs, zeroA P e = some zs) (hsz : ∀ x, (f x).cells.length = sz) (hlen : okNew m = true) (hs : s = .slice .full []) (hx : x = .slice tag' (m.map f))
    (hk : ∀ cap, m.length ≤ cap → K { fr with env := upd fr.env d (.lsl d (fr.gen d + 1) m.length cap), box := upd fr.box d (some (arrC f m ((cap - m.length) * sz))), gen := upd fr.gen d (fr.gen d + 1) } H) : AppAt2 P t s x d K fr H := by
  subst hs; subst hx
  have hl : 0 < m.length ∧ m.length ≤ lim := by simpa [okNew] using hlen
  have hon : ∀ l : List α, headOk sz (l.map f) = true := fun l => by cases l with | nil => rfl | cons a l => simp [hsz]
  obtain ⟨zs, hz⟩ := hz
  refine .inl (.inr ?_)
  unfold AppL
  rw [hap]
  refine ⟨hon m, by rw [hz]; rfl, by simpa using hl.1, rfl, by simpa [growLim, lim] using hl.2, fun cap hc => ?_⟩
  have hc' : m.length ≤ cap := by simpa using hc
  have := hk cap hc'
  simp only [lgrown, List.flatMap_nil, List.nil_append, List.length_nil, Nat.zero_add, List.length_map]
  exact this

/-- More elements behind those of such a row: in place, or in a new row. -/
theorem AppAt2.appL {P : Program} {t e sz d : Nat} {s x : AV} {K : Fr → Heap → Prop} {fr : Fr} {H : Heap} {α : Type} {f : α → AV} (L m : List α) {cap : Nat} {tag' : Tag}
    (hap : apOf P t = some (e, sz)) (hz : ∃ zs, zeroA P e = some zs) (hsz : ∀ x, (f x).cells.length = sz) (hlen : okApp L m = true) (hm : 0 < m.length) (hs : s = .lsl d (fr.gen d) L.length cap) (hx : x = .slice tag' (m.map f))
    (hb : fr.box d = some (arrC f L ((cap - L.length) * sz))) (hlc : L.length ≤ cap)
    (hk : ∀ g' cap', (lapp L m).length ≤ cap' → K { fr with env := upd fr.env d (.lsl d g' (lapp L m).length cap'), box := upd fr.box d (some (arrC f (lapp L m) ((cap' - (lapp L m).length) * sz))), gen := upd fr.gen d g' } H) : AppAt2 P t s x d K fr H := by
  subst hs; subst hx
  have hl : L.length + m.length ≤ lim := okApp_le hlen
  have hon : ∀ l : List α, headOk sz (l.map f) = true := fun l => by cases l with | nil => rfl | cons a l => simp [hsz]
  obtain ⟨zs, hz⟩ := hz
  have hfl := map_flat_len hsz L
  have hfm := map_flat_len hsz m
  have hla : (lapp L m).length = L.length + m.length := length_lapp L m
  have hflat : (L.map f).flatMap AV.cells ++ (m.map f).flatMap AV.cells = ((lapp L m).map f).flatMap AV.cells := by simp [lapp]
  refine .inl (.inr ?_)
  unfold AppL
  rw [hap]
  refine ⟨hon m, by rw [hz]; rfl, by simpa using hm, rfl, by simpa [growLim, lim] using hl, ?_⟩
  rw [hb]
  simp only [List.length_map]
  refine ⟨?_, fun hc => ?_, fun cap' h1 h2 => ?_⟩
  · rw [arrC_length hsz, Nat.sub_mul]
    have := Nat.mul_le_mul_right sz hlc
    omega
  · have hk' := hk (fr.gen d) cap (by rw [hla]; exact hc)
    have e1 : upd fr.gen d (fr.gen d) = fr.gen := by
      funext j
      simp only [upd]
      split
      · rename_i h; rw [h]
      · rfl
    have e2 : setCells (arrC f L ((cap - L.length) * sz)) (L.length * sz) ((m.map f).flatMap AV.cells) = arrC f (lapp L m) ((cap - (lapp L m).length) * sz) := by
      unfold setCells
      rw [arrC_take hsz]
      unfold arrC
      rw [← hflat, List.drop_append, List.drop_eq_nil_of_le (by omega), List.nil_append, hfl, hfm, hla]
      have : L.length * sz + m.length * sz - L.length * sz = m.length * sz := by omega
      rw [this]
      unfold junk
      rw [List.drop_replicate, ← Nat.sub_mul, Nat.sub_sub]
    rw [e1, ← e2, hla] at hk'
    exact hk'
  · have hk' := hk (fr.gen d + 1) cap' (by rw [hla]; exact h2)
    have e2 : (arrC f L ((cap - L.length) * sz)).take (L.length * sz) ++ (m.map f).flatMap AV.cells ++ junk ((cap' - (L.length + m.length)) * sz) = arrC f (lapp L m) ((cap' - (lapp L m).length) * sz) := by
      rw [arrC_take hsz, hla]
      unfold arrC
      rw [hflat]
    unfold lgrown
    rw [e2, ← hla]
    exact hk'

/-! ### elements -/
@[simp] theorem lenA_lsl {P : Program} {t : TypeId} {b g n c : Nat} : lenA P t (.lsl b g n c) = match P.underlying t with | some (.slice _) => some (.sc (.int .i64 n)) | some (.array n _) => some (.sc (.int .i64 n)) | _ => none := by
  unfold lenA
  cases P.underlying t with
  | none => rfl
  | some y => cases y <;> rfl
@[simp] theorem indexAddrA_lsl {P : Program} {t : TypeId} {k : IntKind} {a : Int} {b g n c : Nat} : indexAddrA P t (.lsl b g n c) (.sc (.int k a)) =
    match P.underlying t with
    | some (.slice e) => match layOf P e with
      | some (_, sz) => if 0 ≤ a ∧ a < (n : Int) then some (.lptr b g (eoff a.toNat sz)) else none
      | none => none
    | _ => none := by
  unfold indexAddrA
  simp only [eoff_eq]
  cases P.underlying t with
  | none => rfl
  | some y => cases y <;> rfl

/-- A store to an element. -/
def StoreE (P : Program) (t : TypeId) (b g i sz : Nat) (v : AV) (K : Fr → Heap → Prop) (fr : Fr) (H : Heap) : Prop := storeA P t (.lptr b g (eoff i sz)) v K fr H
@[simp high] theorem storeA_eoff {P : Program} {t : TypeId} {b g i sz : Nat} {v : AV} {K : Fr → Heap → Prop} {fr : Fr} {H : Heap} : storeA P t (.lptr b g (eoff i sz)) v K fr H = StoreE P t b g i sz v K fr H := rfl
theorem StoreE.arr {P : Program} {t : TypeId} {b g sz k : Nat} {a : Int} {bl : Bool} {v : AV} {K : Fr → Heap → Prop} {fr : Fr} {H : Heap} {α : Type} {f : α → AV} {L : List α} {x : α} (y : α) (hl : layOf P t = some (bl, sz)) (hsz : ∀ x, (f x).cells.length = sz)
    (hnt : notTuple (f y) = true) (hi : lget L a = some x) (hg : g = fr.gen b) (hb : fr.box b = some (arrC f L k)) (hv : v = f y) (hk : K { fr with box := upd fr.box b (some (arrC f (lset L a y) k)) } H) : StoreE P t b g a.toNat sz v K fr H := by
  subst hv
  have hi' := lget_get hi
  have hlt := (List.getElem?_eq_some_iff.1 hi').1
  have hle : a.toNat * sz + sz ≤ L.length * sz := by
    rw [← Nat.succ_mul]
    exact Nat.mul_le_mul_right _ hlt
  unfold StoreE
  simp only [storeA, hl, hb]
  refine ⟨hg, hsz y, by rw [eoff_eq, arrC_length hsz]; omega, hnt, ?_⟩
  rw [eoff_eq, arrC_set hsz hlt]
  exact hk

/-! ### a row becomes memory that no longer changes -/
theorem All2.set_left {α β : Type} {R : α → β → Prop} : ∀ {as : List α} {bs : List β} {i : Nat} {a0 a : α}, All2 R as bs → as[i]? = some a0 → (∀ b, bs[i]? = some b → R a b) → All2 R (as.set i a) bs
  | _, _, _, _, _, .nil, h, _ => by simp at h
  | _, _, 0, _, _, .cons h1 h2, _, h => .cons (h _ rfl) h2
  | _, _, i + 1, _, _, .cons h1 h2, h0, h => .cons h1 (All2.set_left h2 (by simpa using h0) (fun b hb => h b (by simpa using hb)))

/-! ### a row becomes memory that no longer changes -/
section
variable {P : Program} {T : Tabs} {n B0 : Nat} {ρ : Maps} {F : Imm} {R : Nat → Role} {fr : Fr} {H : Heap} {a : Act} {w : World}

/-- A box is forgotten. -/
theorem WR.unbox (h : WR T n B0 ρ F R fr H a w) {d : Nat} {cs : List AV} (hb : fr.box d = some cs) :
    ∃ R', R' (ρ.L d (fr.gen d)) = .free ∧ WR T n B0 ρ F R' { fr with box := upd fr.box d none } H a w := by
  obtain ⟨b1, b2, b3, vs, ty, b4, b5⟩ := h.box d cs hb
  let R' : Nat → Role := upd R (ρ.L d (fr.gen d)) .free
  have hne : ∀ b, R b ≠ .box d → R' b = R b := by
    intro b hb'
    show upd R (ρ.L d (fr.gen d)) .free b = R b
    unfold upd
    rw [if_neg]
    rintro rfl
    exact hb' b2
  refine ⟨R', by show upd R _ _ _ = _; simp [upd], ⟨h.g, h.size, h.defers, h.env, h.hn, h.lg, h.ag, ?_, ?_, ?_, ?_, ?_, h.B0le⟩⟩
  · intro d' cs' hd'
    simp only [upd] at hd'
    by_cases he : d' = d
    · subst he
      simp at hd'
    · rw [if_neg he] at hd'
      obtain ⟨e1, e2, e3⟩ := h.box d' cs' hd'
      exact ⟨e1, by rw [hne _ (by rw [e2]; simp [he])]; exact e2, e3⟩
  · intro k m hk b c sz hA
    obtain ⟨e1, e2, e3⟩ := h.tok k m hk b c sz hA
    exact ⟨e1, by rw [hne _ (by rw [e2]; simp)]; exact e2, e3⟩
  · intro b j v hf
    by_cases hb' : b = ρ.L d (fr.gen d)
    · subst hb'
      intro d'
      show upd R _ _ _ ≠ _
      simp [upd]
    · have e : R' b = R b := by show upd R _ _ _ = _; simp [upd, hb']
      rw [e]
      exact h.frole b j v hf
  · intro o ho
    have := h.grole o ho
    rw [hne _ (by rw [this]; simp)]
    exact this
  · intro b hb'
    have := h.rfresh b hb'
    rw [hne _ (by rw [this]; simp)]
    exact this

theorem All2.map_ncell {F : Imm} {ρ : Maps} {cs : List AV} {vs : List Value} (h : All2 (FCell F ρ) cs vs) : All2 (PRep F ρ.G ρ.n) (cs.map AV.ncell) vs := h.map_left AV.ncell fun _ _ _ h => h.ncell

/-- The elements of a row, as memory that no longer changes. -/
theorem WR.freezeRow (h : WR T n B0 ρ F R fr H a w) {d len cap sz : Nat} {cs els : List AV} (hb : fr.box d = some cs) (hl : els.length = len) (hs : ∀ x ∈ els, x.cells.length = sz)
    (hc : els.flatMap AV.cells = (cs.take (len * sz)).map AV.ncell) (hle : len * sz ≤ cs.length) (hlc : len ≤ cap) (hcm : cap ≤ maxLen) :
    ∃ F' R', MGrow F F' ρ ρ ∧ (∀ b j, b < B0 → F' b j = F b j) ∧ WR T n B0 ρ F' R' { fr with box := upd fr.box d none } H a w ∧
      PRep F' ρ.G ρ.n (.slice .frz els) (.slice (some ⟨ρ.L d (fr.gen d), 0, none⟩) len cap) := by
  obtain ⟨b1, b2, b3, vs, ty, b4, b5⟩ := h.box d cs hb
  obtain ⟨R', hfree, hw⟩ := h.unbox hb
  have hF : ∀ j, F (ρ.L d (fr.gen d)) j = none := by
    intro j
    cases hf : F (ρ.L d (fr.gen d)) j with
    | none => rfl
    | some v =>
      exact absurd b2 (h.frole _ j v hf d)
  have hvl : vs.toList.length = cs.length := b5.length.symm
  have hul : (vs.toList.take (len * sz)).length = len * sz := by rw [List.length_take]; omega
  obtain ⟨hmg, hw2⟩ := hw.freeze (us := vs.toList.take (len * sz)) (k := (vs.toList.take (len * sz)).length) hfree hF b4 (fun u hu => cells_oneCell b5 b3 u hu) (by
    intro j v _ hv
    rw [List.getElem?_take] at hv
    split at hv
    · simpa using hv
    · cases hv)
  refine ⟨_, R', hmg, fun b j hbl => freezeF_other (by omega), hw2, ?_⟩
  have hcells : All2 (PRep F ρ.G ρ.n) (els.flatMap AV.cells) (vs.toList.take (len * sz)) := by
    rw [hc]
    exact (b5.take (len * sz)).map_ncell
  have hp := PRep.slice (F := freezeF F (ρ.L d (fr.gen d)) (vs.toList.take (len * sz)).length (vs.toList.take (len * sz))) (G := ρ.G) (n := ρ.n) (tag := .frz) (l := els) (b := ρ.L d (fr.gen d)) (o := 0)
    (base := some ⟨ρ.L d (fr.gen d), 0, none⟩) (cap := cap) (sz := sz) (vs := vs.toList.take (len * sz)) (.of_all2 (hcells.mono fun _ _ _ h => h.grow hmg.g)) (freezeF_has _ _ _) (fun _ => rfl) hs (by
      intro c hcm'
      rw [hc] at hcm'
      exact norm_ones (fun c hc' => b3 c (List.mem_of_mem_take hc')) c hcm') (by omega) hcm (.inl rfl)
  rw [hl] at hp
  exact hp

/-- A slot's slice becomes one that no longer changes. -/
theorem AWp.frzE {α : Type} {c : Code} {Q : Exit → Fr → Heap → Prop} {f : α → AV} (t : Nat) {L : List α} {k sz d g cap : Nat} (hsz : ∀ x, (f x).cells.length = sz) (hnc : ∀ x, (f x).cells.map AV.ncell = (f x).cells)
    (he : fr.env t = .lsl d g L.length cap) (hg : g = fr.gen d) (hb : fr.box d = some (arrC f L k))
    (h : AWp P T n c Q { fr with env := upd fr.env t (.slice .frz (L.map f)), box := upd fr.box d none } H) : AWp P T n c Q fr H := by
  intro G0 F0 n0 w0 a w hs
  refine h G0 F0 n0 w0 a w ?_
  obtain ⟨ρ, F, R, hw, hx⟩ := hs
  have hev := hw.env t
  rw [he] at hev
  obtain ⟨hv, hgl, hlc, hcm⟩ := frep_lsl hev
  have hms : ∀ x ∈ L.map f, x.cells.length = sz := by
    intro x hx
    obtain ⟨y, _, rfl⟩ := List.mem_map.1 hx
    exact hsz y
  obtain ⟨F', R', hmg, hFo, hw2, hp⟩ := hw.freezeRow (els := L.map f) (len := L.length) (cap := cap) (sz := sz) hb (by simp) hms (by rw [arrC_take hsz]; exact ncell_flat hnc L) (by rw [arrC_length hsz]; omega) hlc hcm
  refine ⟨ρ, F', R', ⟨hw2.g, hw2.size, hw2.defers, ?_, hw2.hn, hw2.lg, hw2.ag, hw2.box, hw2.tok, hw2.frole, hw2.grole, hw2.rfresh, hw2.B0le⟩, ?_⟩
  · intro t'
    show FRep F' ρ (upd fr.env t (.slice .frz (L.map f)) t') _
    simp only [upd]
    split
    · rename_i e
      subst e
      rw [hv, hg]
      exact .p hp
    · exact (hw.env t').grow hmg
  · exact hx.freeze fun b j hb' => hFo b j hb'

/-- A cell of a box that is such a slice becomes one that no longer changes. -/
theorem AWp.frzC {α : Type} {c : Code} {Q : Exit → Fr → Heap → Prop} {f : α → AV} (d2 i : Nat) {cs2 : List AV} {L : List α} {k sz d g cap : Nat} (hsz : ∀ x, (f x).cells.length = sz) (hnc : ∀ x, (f x).cells.map AV.ncell = (f x).cells)
    (hne : d2 ≠ d) (he : fr.box d2 = some cs2) (hi : cs2[i]? = some (.lsl d g L.length cap)) (hg : g = fr.gen d) (hb : fr.box d = some (arrC f L k))
    (h : AWp P T n c Q { fr with box := upd (upd fr.box d none) d2 (some (cs2.set i (.slice .frz (L.map f)))) } H) : AWp P T n c Q fr H := by
  intro G0 F0 n0 w0 a w hs
  refine h G0 F0 n0 w0 a w ?_
  obtain ⟨ρ, F, R, hw, hx⟩ := hs
  obtain ⟨_, _, hone2, vs2, ty2, hh2, hc2⟩ := hw.box d2 cs2 he
  obtain ⟨u, hu, hur⟩ := hc2.get hi
  obtain ⟨hv, hgl, hlc, hcm⟩ := frep_lsl (.cell hur)
  have hms : ∀ x ∈ L.map f, x.cells.length = sz := by
    intro x hx
    obtain ⟨y, _, rfl⟩ := List.mem_map.1 hx
    exact hsz y
  obtain ⟨F', R', hmg, hFo, hw2, hp⟩ := hw.freezeRow (els := L.map f) (len := L.length) (cap := cap) (sz := sz) hb (by simp) hms (by rw [arrC_take hsz]; exact ncell_flat hnc L) (by rw [arrC_length hsz]; omega) hlc hcm
  have hbx : ({ fr with box := upd fr.box d none } : Fr).box d2 = some cs2 := by simp [upd, hne, he]
  refine ⟨ρ, F', R', ⟨hw2.g, hw2.size, hw2.defers, hw2.env, hw2.hn, hw2.lg, hw2.ag, ?_, hw2.tok, hw2.frole, hw2.grole, hw2.rfresh, hw2.B0le⟩, ?_⟩
  · intro d' cs' hd'
    simp only [upd] at hd'
    by_cases he' : d' = d2
    · subst he'
      simp only [if_true, Option.some.injEq] at hd'
      subst hd'
      obtain ⟨e1, e2, e3, vs', ty', e4, e5⟩ := hw2.box d' cs2 hbx
      refine ⟨e1, e2, ?_, vs', ty', e4, ?_⟩
      · intro c hc
        rcases List.mem_or_eq_of_mem_set hc with h' | h'
        · exact e3 c h'
        · rw [h']; rfl
      · have hvs : vs'.toList = vs2.toList := by
          have : w.heap[ρ.L d' (fr.gen d')]? = some (.cells vs' ty' (0, 0)) := e4
          rw [hh2] at this
          injection this with this
          injection this with this
          rw [this]
        refine All2.set_left e5 hi ?_
        intro u' hu'
        rw [hvs, hu] at hu'
        obtain rfl := Option.some.inj hu'
        rw [hv, hg]
        exact .p hp
    · simp only [if_neg he'] at hd'
      exact hw2.box d' cs' (by simpa [upd] using hd')
  · exact hx.freeze fun b j hb' => hFo b j hb'
end
end Go.Abs
