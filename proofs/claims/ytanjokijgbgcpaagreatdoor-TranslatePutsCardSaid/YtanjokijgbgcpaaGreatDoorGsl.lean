/-
  Slices that grow inside shared objects, over typed rows; what becomes of such objects when nothing writes to them any more.
-/
import Derived.Test.YtanjokijgbgcpaaGreatDoorOwn
set_option linter.unusedSimpArgs false
set_option linter.unusedVariables false
namespace Go.Abs
open Go Go.Mdl

/-! ### an empty slice without room -/
section
variable {P : Program} {T : Tabs} {n : Nat} {fr : Fr} {H : Heap}
theorem AWp.nulE {c : Code} {Q : Exit → Fr → Heap → Prop} {d : Nat} (henv : fr.env d = .slice .full []) (h : AWp P T n c Q { fr with env := upd fr.env d .nul } H) : AWp P T n c Q fr H := by
  intro G0 F0 n0 w0 a w hs
  refine h G0 F0 n0 w0 a w ?_
  obtain ⟨ρ, F, R, hw, hx⟩ := hs
  refine ⟨ρ, F, R, ⟨hw.g, hw.size, hw.defers, ?_, hw.hn, hw.lg, hw.ag, hw.box, hw.tok, hw.frole, hw.grole, hw.rfresh, hw.B0le⟩, hx⟩
  intro t
  have he := hw.env t
  simp only [upd]
  by_cases hd : t = d
  · subst hd
    rw [if_pos rfl]
    rw [henv] at he
    obtain ⟨base, cap, b, o, sz, vs, hv, _, hf, _⟩ := frep_slice he
    rw [hv, hf rfl]
    exact .cell (.p .nul)
  · rw [if_neg hd]
    exact he
end
section
variable {X : Cx} {k : Nat} {S : List It} {fr : Fr} {H : Heap} {c : Code}
theorem wnul (k : Nat) {d : Nat} (henv : fr.env d = .slice .full []) (h : Wf X k (.c c :: S) { fr with env := upd fr.env d .nul } H) : Wf X 0 (.c c :: S) fr H :=
  fun hm hfit => AWp.nulE henv (Wf_sound X k _ _ _ h hm hfit)
end

section
variable {X : Cx} {S : List It} {fr : Fr} {H : Heap} {id : Nat} {ops : Array Oper}
/-- A region that draws its order, with a word of its own for what its calls leave and who writes what. -/
theorem wdraw (k : Nat) (q : Qt) (h : drunS X.P X.T X.E ops q (dof X.D id).2 ops.toList (Wf X k S) fr H) : Wf X 0 (.c (.region id ops true) :: S) fr H := by
  intro hm hfit
  simp only [fitB, Bool.and_eq_true] at hfit
  refine (AWp.regionS X.E q (dof X.D id).2 hm hfit.1 hfit.2 (Q := onlyN (Wf X k S)) h).mono fun e fr' H' hq => ?_
  cases e <;> first | exact Wf_sound X k _ _ _ hq | exact hq.elim
end
section
variable {X : Cx} {k : Nat} {S : List It} {fr : Fr} {H : Heap} {a : Code} {id : Nat}
/-- A loop in a block, and what holds behind the block. -/
theorem wlb (k1 k2 : Nat) (I : Nat → Fr → Heap → Prop) (m : Nat) (R : Fr → Heap → Prop) (h0 : I m fr H) (h1 : ∀ m fr H, I m fr H → ∀ K K2 : Fr → Heap → Prop, (∀ fr' H' m', m' < m → I m' fr' H' → K fr' H') → (∀ f h, R f h → K2 f h) → Wf X k1 (.c a :: .h K :: .b id :: .h K2 :: S) fr H)
    (h2 : ∀ f h, R f h → Wf X k2 S f h) : Wf X (k + 1) (.c (.loop a) :: .b id :: S) fr H := by
  refine wl 0 I m h0 fun m fr H hI K hK => ?_
  have h3 := Wf_sound X k1 _ _ _ (h1 m fr H hI K (fun f h => SQ X S .normal f h) hK (fun f h hr => Wf_sound X k2 S f h (h2 f h hr)))
  intro hm hfit
  refine (h3 hm hfit).mono fun e fr' H' hq => ?_
  cases e with
  | exit j =>
    have hq : (if j = id then SQ X S .normal fr' H' else SQ X S (.exit j) fr' H') := hq
    exact hq
  | _ => exact hq
end
@[simp] theorem cells_nul : AV.cells (.nul : AV) = [.nul] := rfl
@[simp] theorem notTuple_nul : notTuple (.nul : AV) = true := rfl
@[simp] theorem ncell_nul : AV.ncell (.nul : AV) = .nul := rfl
@[simp] theorem norm_nul : AV.norm (.nul : AV) = .nul := rfl
@[simp] theorem isOne_nul : AV.isOne .nul = true := rfl
@[simp] theorem fits_nul (P : Program) (ty : TypeId) : fitsB P ty (.nul : AV) = match layOf P ty with | some (false, _) => true | _ => false := by
  unfold fitsB
  cases layOf P ty with
  | none => rfl
  | some p => obtain ⟨b, k⟩ := p; cases b <;> rfl
@[simp] theorem lenA_nul {P : Program} {t : TypeId} : lenA P t .nul = match P.underlying t with | some (.slice _) => some (.sc (.int .i64 0)) | some (.array n _) => some (.sc (.int .i64 n)) | _ => none := by
  unfold lenA
  cases P.underlying t with
  | none => rfl
  | some d => cases d <;> rfl

/-! ### what becomes of objects that are given up -/

mutual
/-- A value whose objects from a number on do not change any more, and what it then is. -/
inductive Stl (H : Heap) (k : Nat) : AV → AV → Prop
  | keep {x} : x.low k = true → Stl H k x x
  | nul : Stl H k .nul (.slice .frz [])
  | gsl {o off len cap cs l sz} : k ≤ o → H[o]? = some cs → okObj cs = true → off + len * sz ≤ cs.length → StlL H k ((cs.drop off).take (len * sz)) (l.flatMap AV.cells) → l.length = len → (∀ x ∈ l, x.cells.length = sz) → Stl H k (.gsl o off len cap) (.slice .frz l)
  | agg {cs cs'} : StlL H k cs cs' → Stl H k (.agg cs) (.agg cs')
  | tuple {cs cs'} : StlL H k cs cs' → Stl H k (.tuple cs) (.tuple cs')
inductive StlL (H : Heap) (k : Nat) : List AV → List AV → Prop
  | nil : StlL H k [] []
  | cons {x y xs ys} : Stl H k x y → StlL H k xs ys → StlL H k (x :: xs) (y :: ys)
end

theorem Stl.one {H : Heap} {k : Nat} {x y : AV} (h : Stl H k x y) : y.isOne = x.isOne := by
  cases h <;> rfl
theorem StlL.ones {H : Heap} {k : Nat} : ∀ {xs ys : List AV}, StlL H k xs ys → (∀ c ∈ xs, c.isOne = true) → ∀ c ∈ ys, c.isOne = true
  | _, _, .nil, _, c, hc => by cases hc
  | _, _, .cons h1 h2, hx, c, hc => by
    rcases List.mem_cons.1 hc with rfl | hc
    · rw [h1.one]; exact hx _ (by simp)
    · exact h2.ones (fun c hc => hx c (by simp [hc])) c hc
theorem StlL.append {H : Heap} {k : Nat} : ∀ {xs ys xs' ys' : List AV}, StlL H k xs ys → StlL H k xs' ys' → StlL H k (xs ++ xs') (ys ++ ys')
  | _, _, _, _, .nil, h => h
  | _, _, _, _, .cons h1 h2, h => .cons h1 (h2.append h)

/-- The rows of objects lie in memory that does not change. -/
def Rows (F : Imm) (G : Nat → Nat) (n k : Nat) (H : Heap) : Prop :=
  ∀ o cs, k ≤ o → H[o]? = some cs → okObj cs = true → ∃ vs, F.has (G o) 0 vs ∧ PRepL F G n cs vs ∧ (∀ c ∈ cs, c.isOne = true)

section
variable {F : Imm} {G : Nat → Nat} {n k : Nat} {H : Heap}
mutual
theorem Stl.rep (hR : Rows F G n k H) : ∀ {x y : AV} {v : Value}, Stl H k x y → PRep F G n x v → PRep F G k y v
  | _, _, _, .keep h, hp => hp.lower h
  | _, _, _, .nul, hp => by
    cases hp with
    | nul => exact .slice (l := []) (vs := []) (b := 0) (o := 0) (sz := 0) .nil (by intro i v hv; simp at hv) (by simp) (by simp) (by simp) (Nat.le_refl _) (Nat.zero_le _) (.inl rfl)
  | _, _, _, .gsl (o := o) (off := off) (len := len) (cap := cap) (cs := cs) (l := l) (sz := sz) h1 h2 h3 h4 h5 h6 h7, hp => by
    cases hp with
    | gsl g1 g2 g3 =>
      obtain ⟨vs, e1, e2, e3⟩ := hR o cs h1 h2 h3
      have hd : PRepL F G n ((cs.drop off).take (len * sz)) ((vs.drop off).take (len * sz)) := PRepL.of_all2 ((e2.all2.drop off).take _)
      have hr := h5.rep hR hd
      have hones : ∀ c ∈ l.flatMap AV.cells, c.isOne = true := h5.ones fun c hc => e3 c (List.mem_of_mem_drop (List.mem_of_mem_take hc))
      have := PRep.slice (F := F) (G := G) (n := k) (tag := .frz) (l := l) (b := G o) (o := off) (base := some ⟨G o, off, none⟩) (cap := cap) (sz := sz) hr (by
        intro i v hv
        rw [List.getElem?_take] at hv
        split at hv
        · rw [List.getElem?_drop] at hv
          have := e1 _ v hv
          rwa [Nat.zero_add] at this
        · cases hv) (fun _ => rfl) h7 hones (by omega) g3 (.inl rfl)
      rw [h6] at this
      exact this
  | _, _, _, .agg h, hp => by
    cases hp with
    | agg g1 g2 => exact .agg (h.rep hR g1) (h.ones g2)
  | _, _, _, .tuple h, hp => by
    cases hp with
    | tuple g1 => exact .tuple (h.rep hR g1)
theorem StlL.rep (hR : Rows F G n k H) : ∀ {xs ys : List AV} {vs : List Value}, StlL H k xs ys → PRepL F G n xs vs → PRepL F G k ys vs
  | _, _, _, .nil, hp => by cases hp; exact .nil
  | _, _, _, .cons h1 h2, hp => by
    cases hp with
    | cons g1 g2 => exact .cons (h1.rep hR g1) (h2.rep hR g2)
end
end

open Classical in
/-- **Objects that a call made are given up at its end**: what it returned becomes a value that no longer changes. -/
theorem ACallP.settle {P : Program} {T : Tabs} {f : FuncId} {args : List AV} {H : Heap} {Post Post' : AV → Heap → Prop} (h : ACallP P T f args H Post)
    (hp : ∀ r H', Post r H' → ∃ H2 X r', H' = H2 ++ X ∧ H2.length = H.length ∧ (∀ cs ∈ H2, cs ∈ H ∨ AV.lowL H.length cs = true) ∧ Stl H' H.length r r' ∧ Post' r' H2) : ACallP P T f args H Post' := by
  refine ⟨h.1, fun G F w vs hg ha => (h.2 G F w vs hg ha).mono ?_⟩
  have hlow0 : ∀ cs ∈ H, AV.lowL H.length cs = true := by
    intro cs hcs
    obtain ⟨o, ho⟩ := List.mem_iff_getElem?.1 hcs
    obtain ⟨ob, _, e2⟩ := hg.glob o cs ho
    exact e2.isLow
  rintro e w' ⟨r, H', v, G', F', h1, rfl, h3, h4, h5⟩
  obtain ⟨H2, X, r', rfl, hl2, hX, hs, hq⟩ := hp r H' h1
  have hlow : ∀ cs ∈ H2, AV.lowL H.length cs = true := fun cs hcs => (hX cs hcs).elim (hlow0 cs) id
  have hsub : ∀ b o v, F b o = some v → F' b o = some v := by
    intro b o v hv
    have hb : b < w.heap.size := by
      rcases Nat.lt_or_ge b w.heap.size with hb | hb
      · exact hb
      · rw [hg.fresh b o hb] at hv; cases hv
    exact h5.mF b o v hb hv
  have hlen : H.length ≤ (H2 ++ X).length := by rw [List.length_append]; omega
  let isX : Nat → Prop := fun b => ∃ o cs, H.length ≤ o ∧ (H2 ++ X)[o]? = some cs ∧ okObj cs = true ∧ G' o = b
  let F2 : Imm := fun b j => if isX b then w'.cell? ⟨b, j, none⟩ else F' b j
  have hno : ∀ o, o < H.length → ¬ isX (G' o) := by
    rintro o ho ⟨o', cs, h1, h2, _, he⟩
    have hlt := (List.getElem?_eq_some_iff.1 h2).1
    have := h3.inj o' o hlt (by omega) he
    omega
  have hgr : ∀ b j v, F' b j = some v → F2 b j = some v := by
    intro b j v hv
    show (if isX b then _ else _) = _
    by_cases hx : isX b
    · rw [if_pos hx]; exact h3.imm b j v hv
    · rw [if_neg hx]; exact hv
  have hG2 : Grow F' F2 G' G' (H2 ++ X).length (H2 ++ X).length := ⟨hgr, Nat.le_refl _, fun _ _ => rfl⟩
  have hrows : Rows F2 G' (H2 ++ X).length H.length (H2 ++ X) := by
    intro o cs ho hcs hok
    obtain ⟨ob, e1, e2⟩ := h3.glob o cs hcs
    obtain ⟨us, ty, fz, rfl, hfz, e3, e4⟩ := e2.isCells hok
    refine ⟨us.toList, ?_, (PRepL.of_all2 e3).grow hG2, e4⟩
    intro i v hv
    show (if isX (G' o) then w'.cell? ⟨G' o, 0 + i, none⟩ else F' (G' o) (0 + i)) = _
    rw [if_pos ⟨o, cs, ho, hcs, hok, rfl⟩, Nat.zero_add, cell_of_row w' _ i us ty fz e1]
    simpa using hv
  refine ⟨r', H2, v, G', F2, hq, rfl, ⟨?_, ?_, ?_, ?_, ?_, ?_, ?_⟩, by rw [hl2]; exact hs.rep hrows (h4.grow hG2), ⟨h5.os, h5.tape, h5.output, h5.size, by rw [hl2]; exact Nat.le_refl _, h5.hG, fun o h1 h2 => absurd h2 (by omega), ?_, ?_, h5.heap⟩⟩
  · intro b j v hv
    by_cases hx : isX b
    · have : F2 b j = w'.cell? ⟨b, j, none⟩ := if_pos hx
      rw [← this]; exact hv
    · have : F2 b j = F' b j := if_neg hx
      rw [this] at hv
      exact h3.imm b j v hv
  · intro o cs ho
    have hoL : o < H2.length := (List.getElem?_eq_some_iff.1 ho).1
    obtain ⟨ob, e1, e2⟩ := h3.glob o cs (by rw [List.getElem?_append_left hoL]; exact ho)
    exact ⟨ob, e1, by rw [hl2]; exact (e2.grow hG2).lower (hlow cs (List.mem_of_getElem? ho))⟩
  · exact fun o o' ho ho' => h3.inj o o' (by omega) (by omega)
  · intro o j ho hnd
    have : F2 (G' o) j = F' (G' o) j := if_neg (hno o (by omega))
    rw [this]
    exact h3.gF o j (by omega) (by rw [List.getElem?_append_left ho]; exact hnd)
  · intro b j hb
    have hx : ¬ isX b := by
      rintro ⟨o, cs, h1, h2, _, rfl⟩
      obtain ⟨ob, e1, _⟩ := h3.glob o cs h2
      have := heap_lt e1
      omega
    have : F2 b j = F' b j := if_neg hx
    rw [this]
    exact h3.fresh b j hb
  · intro g x hx
    rw [hl2]
    exact (hg.tabs g x hx).grow ⟨fun b o v hv => hgr _ _ _ (hsub b o v hv), Nat.le_refl _, fun o ho => h5.hG o ho⟩
  · intro hT b j v hv
    by_cases hx : isX b
    · obtain ⟨o, cs, h1, h2, hok, rfl⟩ := hx
      obtain ⟨ob, e1, e2⟩ := h3.glob o cs h2
      obtain ⟨us, ty, fz, rfl, hfz, e3, e4⟩ := e2.isCells hok
      exact ⟨us, ty, fz, e1, hfz, fun u hu => by obtain ⟨c, hc, hr⟩ := e3.mem hu; exact hr.oneCell (e4 c hc)⟩
    · have : F2 b j = F' b j := if_neg hx
      rw [this] at hv
      exact h3.row hT b j v hv
  · intro b j hb hn
    have hx : ¬ isX b := by
      rintro ⟨o, cs, h1, h2, _, rfl⟩
      have := h5.Gnew o h1 (List.getElem?_eq_some_iff.1 h2).1
      omega
    have : F2 b j = F' b j := if_neg hx
    rw [this]
    exact h5.hF b j hb hn
  · intro b j v hb hv
    exact hgr b j v (h5.mF b j v hb hv)
end Go.Abs
