/-
  Objects of the shared memory that become memory that no longer changes; tables of rules; tables of structures.
-/
import Derived.Test.YtanjokijgbgcpaaGreatDoorW
set_option linter.unusedSimpArgs false
set_option linter.unusedVariables false
namespace Go.Abs
open Go Go.Mdl

section
variable {P : Program} {T : Tabs} {n B0 : Nat} {ρ : Maps} {F : Imm} {R : Nat → Role} {fr : Fr} {H H' : Heap} {a : Act} {w : World}

/-- A shared object is given up: what it holds does not change from now on. -/
theorem WR.kill (h : WR T n B0 ρ F R fr H a w) {o : Nat} {cs : List AV} (ho : H[o]? = some cs) (hok : okObj cs = true) :
    ∃ F' vs, MGrow F F' ρ ρ ∧ (∀ b j, (∀ o, o < H.length → ρ.G o ≠ b) → F' b j = F b j) ∧ (∀ b j v, F b j = some v → F' b j = some v) ∧ F'.has (ρ.G o) 0 vs ∧ PRepL F' ρ.G ρ.n cs vs ∧ (∀ c ∈ cs, c.isOne = true) ∧
      WR T n B0 ρ F' R fr (H.set o []) a w := by
  have hlt := (List.getElem?_eq_some_iff.1 ho).1
  obtain ⟨ob, h1, h2⟩ := h.g.glob o cs ho
  obtain ⟨vs, ty, fz, rfl, hfz, h3, h4⟩ := h2.isCells hok
  have hne : cs ≠ [] := by rintro rfl; simp at hok
  have hF : ∀ j, F (ρ.G o) j = none := fun j => h.g.gF o j hlt (by rw [ho]; exact fun e => hne (Option.some.inj e))
  let F' : Imm := fun b j => if b = ρ.G o then vs.toList[j]? else F b j
  have hat : ∀ j, F' (ρ.G o) j = vs.toList[j]? := fun j => if_pos rfl
  have hoth : ∀ b j, b ≠ ρ.G o → F' b j = F b j := fun b j hb => if_neg hb
  have mF : ∀ b j v, F b j = some v → F' b j = some v := by
    intro b j v hv
    rw [hoth b j (by rintro rfl; rw [hF j] at hv; cases hv)]
    exact hv
  have hgr : ∀ G n, Grow F F' G G n n := fun G n => ⟨mF, Nat.le_refl _, fun _ _ => rfl⟩
  have hmg : MGrow F F' ρ ρ := ⟨hgr _ _, fun _ => Nat.le_refl _, fun _ _ _ => rfl, fun _ => Nat.le_refl _, fun _ _ _ => rfl⟩
  have hl : (H.set o []).length = H.length := by simp
  have hcs : PRepL F' ρ.G ρ.n cs vs.toList := by
    rw [h.hn]
    exact (PRepL.of_all2 h3).grow (hgr _ _)
  refine ⟨F', vs.toList, hmg, fun b j hb => hoth b j (fun e => hb o hlt e.symm), mF, ?_, hcs, h4, ⟨⟨?_, ?_, ?_, ?_, ?_, ?_, ?_⟩, h.size, h.defers, h.env.grow hmg, by rw [hl]; exact h.hn, h.lg, h.ag, ?_, ?_, ?_, by rw [hl]; exact h.grole, h.rfresh, h.B0le⟩⟩
  · intro j v hv
    rw [Nat.zero_add, hat]
    exact hv
  · intro b j v hv
    by_cases hb : b = ρ.G o
    · subst hb
      rw [hat] at hv
      rw [cell_of_row w _ j vs ty fz h1]
      simpa using hv
    · rw [hoth b j hb] at hv
      exact h.g.imm b j v hv
  · intro o' cs' ho'
    rw [hl]
    by_cases he : o = o'
    · subst he
      simp only [List.getElem?_set_self hlt] at ho'
      cases ho'
      exact ⟨_, h1, .dead⟩
    · rw [List.getElem?_set_ne he] at ho'
      obtain ⟨ob', e1, e2⟩ := h.g.glob o' cs' ho'
      exact ⟨ob', e1, e2.grow (hgr _ _)⟩
  · rw [hl]; exact h.g.inj
  · intro o' j ho' hnd
    rw [hl] at ho'
    by_cases he : o = o'
    · subst he
      simp only [List.getElem?_set_self hlt] at hnd
      exact absurd rfl hnd
    · rw [List.getElem?_set_ne he] at hnd
      rw [hoth _ _ (fun e => he (h.g.inj o' o ho' hlt e).symm)]
      exact h.g.gF o' j ho' hnd
  · intro b j hb
    have hbo : b ≠ ρ.G o := by rintro rfl; have := heap_lt h1; omega
    rw [hoth b j hbo]
    exact h.g.fresh b j hb
  · intro g x hx
    rw [hl]
    exact (h.g.tabs g x hx).grow (hgr _ _)
  · intro hT b j v hv
    by_cases hb : b = ρ.G o
    · subst hb
      exact ⟨vs, ty, fz, h1, hfz, cells_oneCell ((PRepL.all2 hcs).mono fun _ _ _ h => FCell.p h) h4⟩
    · rw [hoth b j hb] at hv
      exact h.g.row hT b j v hv
  · intro d cs' hd
    obtain ⟨e1, e2, e3, vs', ty', e4, e5⟩ := h.box d cs' hd
    exact ⟨e1, e2, e3, vs', ty', e4, e5.mono fun _ _ _ h => h.grow hmg⟩
  · intro k m hk b c sz hA
    obtain ⟨e1, e2, e3, e3', e4, e5⟩ := h.tok k m hk b c sz hA
    refine ⟨e1, e2, e3, e3', e4, fun j hj => ?_⟩
    rw [hoth]
    · exact e5 j hj
    · rintro rfl
      have := h.grole o hlt
      rw [e2] at this
      cases this
  · intro b j v hv d
    by_cases hb : b = ρ.G o
    · subst hb
      rw [h.grole o hlt]; simp
    · rw [hoth b j hb] at hv
      exact h.frole b j v hv d

/-- A cell of a box that is a slice of one element, over such an object. -/
theorem AWp.killC {c : Code} {Q : Exit → Fr → Heap → Prop} {o d : Nat} {pre post : List AV} {x : AV} (ho : H[o]? = some x.cells) (hb : fr.box d = some (pre ++ .gsl o 0 1 1 :: post)) (hok : okObj x.cells = true) (hH : H.set o [] = H')
    (h : AWp P T n c Q { fr with box := upd fr.box d (some (pre ++ .slice .frz [x] :: post)) } H') : AWp P T n c Q fr H := by
  subst hH
  intro G0 F0 n0 w0 a w hs
  refine h G0 F0 n0 w0 a w ?_
  obtain ⟨ρ, F, R, hw, hx⟩ := hs
  obtain ⟨F', vs, hmg, hF, mF, hhas, hcs, hones, hw2⟩ := hw.kill ho hok
  refine ⟨ρ, F', R, ⟨hw2.g, hw2.size, hw2.defers, hw2.env, hw2.hn, hw2.lg, hw2.ag, ?_, hw2.tok, hw2.frole, hw2.grole, hw2.rfresh, hw2.B0le⟩, ?_⟩
  · intro d' cs' hd'
    simp only [upd] at hd'
    by_cases he : d' = d
    · subst he
      simp only [if_true, Option.some.injEq] at hd'
      subst hd'
      obtain ⟨e1, e2, e3, vs', ty', e4, e5⟩ := hw2.box d' _ hb
      refine ⟨e1, e2, ?_, vs', ty', e4, ?_⟩
      · intro c hc
        simp only [List.mem_append, List.mem_cons] at hc
        rcases hc with hc | rfl | hc
        · exact e3 c (by simp [hc])
        · rfl
        · exact e3 c (by simp [hc])
      · have key : ∀ {l : List AV} {us : List Value}, All2 (FCell F' ρ) (l ++ .gsl o 0 1 1 :: post) us → All2 (FCell F' ρ) (l ++ .slice .frz [x] :: post) us := by
          intro l
          induction l with
          | nil =>
            intro us hu
            cases hu with
            | cons g1 g2 =>
              refine .cons ?_ g2
              obtain ⟨rfl, g3, g4, g5⟩ := frep_gsl (.cell g1)
              have hp := PRep.slice (F := F') (G := ρ.G) (n := ρ.n) (tag := .frz) (l := [x]) (vs := vs) (b := ρ.G o) (o := 0) (base := some ⟨ρ.G o, 0, none⟩) (cap := 1) (sz := x.cells.length) (by simpa using hcs) hhas (fun _ => rfl)
                (by simp) (by simpa using hones) (by simp) g5 (.inl rfl)
              exact .p hp
          | cons y l ih =>
            intro us hu
            cases hu with
            | cons g1 g2 => exact .cons g1 (ih g2)
        exact key e5
    · simp only [if_neg he] at hd'
      exact hw2.box d' cs' hd'
  · have := hx.freezeG hF mF
    simpa using this

end

section
variable {X : Cx} {k : Nat} {S : List It} {fr : Fr} {H H' : Heap} {c : Code}
/-- The same in a walk over a stack of code. -/
theorem wkill (k : Nat) {o d : Nat} {pre post : List AV} {x : AV} (ho : H[o]? = some x.cells) (hb : fr.box d = some (pre ++ .gsl o 0 1 1 :: post)) (hok : okObj x.cells = true) (hH : H.set o [] = H')
    (h : Wf X k (.c c :: S) { fr with box := upd fr.box d (some (pre ++ .slice .frz [x] :: post)) } H') : Wf X 0 (.c c :: S) fr H :=
  fun hm hfit => AWp.killC ho hb hok hH (Wf_sound X k _ _ _ h hm hfit)
end

theorem ieq_eq {a b : Int} (h : ieq a b = true) : a = b := by
  unfold ieq at h
  exact eq_of_beq h

theorem mapIdx_lt {ks : List Value} {k : Value} {j : Nat} (h : mapIdx ks k = some j) : j < ks.length := by
  unfold mapIdx at h
  exact (List.findIdx?_eq_some_iff_getElem.1 h).1

section
variable {P : Program} {H : Heap} {o : Nat} {k : Int} {t kt e : TypeId} {ks : List Value} {xs : List AV} {z : AV}
theorem rulesLook (hu : P.underlying t = some (.map kt e)) (hk : P.underlying kt = some (.int .i64)) (hz : zvalA P e = some z) (ho : H[o]? = some [.mapc ks xs]) (h1 : ks.all (keyB (.int .i64)) = true) (h2 : xs.length = ks.length) :
    lookupA P H t (.mptr o) (.sc (.int .i64 k)) false = some (match mapIdx ks (.int .i64 k) with | some j => xs.getD j .undef | none => z) := by
  unfold lookupA
  simp only [hu, hk, ho, hz]
  rw [if_pos ⟨rfl, h1⟩]
  cases hi : mapIdx ks (.int .i64 k) with
  | none => rfl
  | some j =>
    have hj := mapIdx_lt hi
    rw [← h2] at hj
    simp [List.getElem?_eq_getElem hj]

theorem MapU.new {fr : Fr} {K : Fr → Heap → Prop} {v : AV} (hu : P.underlying t = some (.map kt e)) (hk : P.underlying kt = some (.int .i64)) (ho : H[o]? = some [.mapc ks xs]) (h1 : ks.all (keyB (.int .i64)) = true) (hn : mapIdx ks (.int .i64 k) = none)
    (hK : K fr (hset H o [.mapc (ks ++ [.int .i64 k]) (xs ++ [v.norm])])) : mapUpdA P t (.mptr o) (.sc (.int .i64 k)) v K fr H := by
  unfold mapUpdA
  simp only [hu, hk, ho]
  refine ⟨rfl, h1, ?_⟩
  rw [mapPut, hn]
  exact hK
/-- The same in the last object. -/
theorem MapU.newA {fr : Fr} {K : Fr → Heap → Prop} {v : AV} (hu : P.underlying t = some (.map kt e)) (hk : P.underlying kt = some (.int .i64)) (h1 : ks.all (keyB (.int .i64)) = true) (hn : mapIdx ks (.int .i64 k) = none)
    (hK : K fr (H ++ [[.mapc (ks ++ [.int .i64 k]) (xs ++ [v.norm])]])) : mapUpdA P t (.mptr H.length) (.sc (.int .i64 k)) v K fr (H ++ [[.mapc ks xs]]) := by
  refine MapU.new hu hk (ks := ks) (xs := xs) (by simp) h1 hn ?_
  simp only [hset]
  simpa using hK
end

section
variable {P : Program} {t : TypeId} {k : IntKind} {a : Int}
theorem flat_getS {α : Type} {f : α → List AV} {sz : Nat} (h : ∀ x, (f x).length = sz) : ∀ (L : List α) (i : Nat), ((L.flatMap f).drop (i * sz)).take sz = match L[i]? with | some x => f x | none => []
  | [], i => by simp
  | x :: L, 0 => by simp [List.take_append_of_le_length, h x, List.take_of_length_le]
  | x :: L, i + 1 => by
    have e1 : ((x :: L).flatMap f).drop ((i + 1) * sz) = (L.flatMap f).drop (i * sz) := by
      rw [List.flatMap_cons, show (i + 1) * sz = (f x).length + i * sz by rw [h, Nat.succ_mul, Nat.add_comm], ← List.drop_drop, List.drop_left]
    rw [e1, flat_getS h L i]
    rfl
theorem flat_lenS {α : Type} {f : α → List AV} {sz : Nat} (h : ∀ x, (f x).length = sz) : ∀ (L : List α), (L.flatMap f).length = L.length * sz
  | [] => by simp
  | x :: L => by rw [List.flatMap_cons, List.length_append, h, flat_lenS h L, List.length_cons, Nat.succ_mul, Nat.add_comm]
/-- A table of structures. -/
theorem indexAddrA_tabS {α : Type} {f : α → AV} {g : α → List AV} {L : List α} {n e sz : Nat} (hu : P.underlying t = some (.array n e)) (hl : layOf P e = some (true, sz)) (hg : ∀ x, g x = (f x).cells) (hf : ∀ x, ∃ cs, f x = .agg cs) (hsz : ∀ x, (f x).cells.length = sz) (hn : L.length = n) :
    indexAddrA P t (.rptr (.agg (L.flatMap g))) (.sc (.int k a)) = (lget L a).map fun x => .rptr (f x) := by
  have hgl : ∀ x, (g x).length = sz := fun x => by rw [hg]; exact hsz x
  unfold indexAddrA lget
  simp only [hu, hl]
  have hc0 : (AV.agg (L.flatMap g)).cells = L.flatMap g := rfl
  rw [hc0]
  unfold readAt
  simp only [hl]
  by_cases h : 0 ≤ a
  · rw [if_pos h]
    by_cases h2 : a < n
    · rw [if_pos ⟨h, h2⟩]
      have hi : a.toNat < L.length := by omega
      rw [if_pos (by rw [flat_lenS hgl, ← Nat.succ_mul]; exact Nat.mul_le_mul_right _ hi), flat_getS hgl, List.getElem?_eq_getElem hi]
      obtain ⟨cs, hc⟩ := hf L[a.toNat]
      simp only [Option.map_some, hg, hc, AV.cells]
    · rw [if_neg (fun h' => h2 h'.2), List.getElem?_eq_none (by omega)]
      rfl
  · rw [if_neg h, if_neg (fun h' => h h'.1)]
    rfl
theorem arr_at {n e sz b g o j : Nat} {ag : Bool} {i : Int} (hu : P.underlying t = some (.array n e)) (hl : layOf P e = some (ag, sz)) (hi : ieq i (j : Int) = true) (hj : j < n) : indexAddrA P t (.lptr b g o) (.sc (.int .i64 i)) = some (.lptr b g (o + j * sz)) := by
  rw [ieq_eq hi]
  unfold indexAddrA
  simp only [hu, hl]
  rw [if_pos ⟨by omega, by omega⟩]
  simp
end
end Go.Abs
