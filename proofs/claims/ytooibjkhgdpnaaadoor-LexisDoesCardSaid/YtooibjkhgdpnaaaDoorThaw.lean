/-
  What a call returned that was given no memory is new: a row of flat elements that it returned may be written.
-/
import Derived.Test.YtooibjkhgdpnaaaDoorLib
import Derived.Test.YtooibjkhgdpnaaaDoorOwn
set_option linter.unusedSimpArgs false
set_option linter.unusedVariables false
namespace Go.Abs
open Go Go.RowKit

theorem gw_none (w : World) : GW (fun _ => none) (fun _ => 0) (fun _ _ => none) [] w where
  imm := by intro b o v h; cases h
  glob := by intro o cs h; simp at h
  inj := by intro o o' h; exact absurd h (Nat.not_lt_zero _)
  gF := by intro o j h _; rfl
  fresh := by intro b j h; rfl
  tabs := by intro g x h; cases h
  row := by intro _ b o v h; cases h

/-- Values that hold no memory. -/
def flatB : AV → Bool
  | .sc _ => true
  | _ => false

section
variable {F F' : Imm} {G G' : Nat → Nat} {n n' : Nat}
theorem flat_prep {x : AV} {v : Value} (hx : flatB x = true) (h : PRep F G n x v) : PRep F' G' n' x v := by
  cases x with
  | sc u => cases h with | sc h => exact .sc h
  | _ => cases hx
theorem flat_prepL {xs : List AV} {vs : List Value} (hx : ∀ x ∈ xs, flatB x = true) (h : PRepL F G n xs vs) : PRepL F' G' n' xs vs := by
  induction xs generalizing vs with
  | nil => cases h; exact .nil
  | cons x xs ih => cases h with | cons h1 h2 => exact .cons (flat_prep (hx x (by simp)) h1) (ih (fun y hy => hx y (by simp [hy])) h2)
theorem junk_prep : ∀ {rest : List Value}, (∀ u ∈ rest, u.oneCell' = true) → All2 (PRep F G n) (junk rest.length) rest
  | [], _ => .nil
  | u :: rest, h1 => by
    show All2 _ (List.replicate (rest.length + 1) AV.undef) _
    rw [List.replicate_succ]
    exact .cons (.undef (h1 u (by simp))) (junk_prep fun v hv => h1 v (by simp [hv]))
theorem flat_one {x : AV} (h : flatB x = true) : x.isOne = true := by
  cases x with
  | sc u => rfl
  | _ => cases h
end

section
variable {T : Tabs} {G : Nat → Nat} {F : Imm} {H : Heap} {w w' : World}
theorem ext_below {G0 G' : Nat → Nat} {F0 F' : Imm} {n' : Nat} (h : Ext w.heap.size G0 F0 0 w G' F' n' w') : Below w.heap.size w w' :=
  ⟨h.os, h.tape, h.output, h.size, fun k hk => h.heap k hk fun o ho => absurd ho (Nat.not_lt_zero _)⟩

/-- A new row becomes a shared object. -/
theorem GW.newRow (hg : GW T G F H w) (hb : Below w.heap.size w w') {b : Nat} {vs : Array Value} {ty : TypeId} {cs : List AV} (hB : w.heap.size ≤ b) {fz : Nat × Nat} (hh : w'.heap[b]? = some (.cells vs ty fz)) (hfz : fzOk fz vs.size)
    (hc : All2 (PRep F (upd G H.length b) (H.length + 1)) cs vs.toList) (hone : ∀ c ∈ cs, c.isOne = true) :
    GW T (upd G H.length b) F (H ++ [cs]) w' ∧ Ext w.heap.size G F H.length w (upd G H.length b) F (H ++ [cs]).length w' := by
  have hgb := hg.below hb
  have hG : ∀ o, o < H.length → upd G H.length b o = G o := by
    intro o ho
    unfold upd
    rw [if_neg (by omega)]
  have hGb : upd G H.length b H.length = b := by simp [upd]
  have hl : (H ++ [cs]).length = H.length + 1 := by simp
  have hgr : Grow F F G (upd G H.length b) H.length (H ++ [cs]).length := ⟨fun _ _ _ h => h, by omega, hG⟩
  have hold : ∀ o, o < H.length → G o < w.heap.size := by
    intro o ho
    obtain ⟨ob, h1, _⟩ := hg.glob o _ (List.getElem?_eq_getElem ho)
    exact (Array.getElem?_eq_some_iff.1 h1).1
  refine ⟨⟨hgb.imm, ?_, ?_, ?_, hgb.fresh, fun g x hx => (hg.tabs g x hx).grow hgr, hgb.row⟩, ⟨hb.os, hb.tape, hb.output, hb.size, by omega, hG, ?_, fun _ _ _ _ => rfl, fun _ _ _ _ h => h, fun b' hb' _ => hb.block b' hb'⟩⟩
  · intro o cs' ho
    rcases Nat.lt_or_ge o H.length with hlt | hge
    · rw [List.getElem?_append_left hlt] at ho
      obtain ⟨ob, h1, h2⟩ := hgb.glob o cs' ho
      rw [hG o hlt]
      exact ⟨ob, h1, h2.grow hgr⟩
    · have : o = H.length := by
        have := (List.getElem?_eq_some_iff.1 ho).1
        omega
      subst this
      simp at ho
      subst ho
      rw [hGb, hl]
      exact ⟨_, hh, .cells hfz hc hone⟩
  · intro o o' ho ho' he
    rw [hl] at ho ho'
    rcases Nat.lt_or_ge o H.length with h1 | h1
    · rcases Nat.lt_or_ge o' H.length with h2 | h2
      · rw [hG o h1, hG o' h2] at he
        exact hg.inj o o' h1 h2 he
      · have e : o' = H.length := by omega
        subst e
        rw [hG o h1, hGb] at he
        have := hold o h1
        omega
    · have e : o = H.length := by omega
      subst e
      rcases Nat.lt_or_ge o' H.length with h2 | h2
      · rw [hG o' h2, hGb] at he
        have := hold o' h2
        omega
      · omega
  · intro o j ho hnd
    rcases Nat.lt_or_ge o H.length with h1 | h1
    · rw [hG o h1]
      exact hg.gF o j h1 (by rw [List.getElem?_append_left h1] at hnd; exact hnd)
    · have e : o = H.length := by omega
      subst e
      rw [hGb]
      exact hg.fresh b j hB
  · intro o h1 h2
    have e : o = H.length := by omega
    subst e
    rw [hGb]
    exact hB
end

/-- **What a call returned that was given no memory may be written.** -/
theorem ACall.fresh {P : Program} {T : Tabs} {f : FuncId} {args : List AV} {H : Heap} {l : List AV} {e : AV} (h : ACall P (fun _ => none) f args [] (.tuple [.slice .frz l, e]) []) (ha : ∀ a ∈ args, flatB a = true)
    (hl : ∀ c ∈ l.flatMap AV.cells, flatB c = true) (hp : ∀ x ∈ l, x.cells ≠ []) (he : flatB e = true) :
    ACallP P T f args H fun r H' => (l = [] ∧ r = .tuple [.slice .frz [], e] ∧ H' = H) ∨
      l ≠ [] ∧ ∃ off cap k : Nat, l.length ≤ cap ∧ r = .tuple [.gsl H.length off l.length cap, e] ∧ H' = H ++ [junk off ++ l.flatMap AV.cells ++ junk k] := by
  refine ⟨h.1, fun G F w vs hg hv => (h.2 _ _ w vs (gw_none w) (flat_prepL ha hv)).mono ?_⟩
  rintro ex w' ⟨r, H', v, G', F', ⟨rfl, rfl⟩, rfl, h3, h4, h5⟩
  have hbel := ext_below h5
  cases h4 with
  | tuple h4 =>
    cases h4 with
    | cons h4 h6 =>
      cases h6 with
      | cons h6 h7 =>
        cases h7
        rename_i v2 v1
        cases h4 with
        | slice g1 g2 g3 g4 g5 g6 g7 g8 =>
          rename_i us b o base cap sz
          by_cases hnil : l = []
          · subst hnil
            refine ⟨_, H, _, G, F, .inl ⟨rfl, rfl, rfl⟩, rfl, hg.below hbel, ?_, .below' hbel⟩
            exact .tuple (.cons (.slice (b := b) (o := o) (sz := 0) .nil (by intro i v hv; simp at hv) (by simp) (by simp) (by simp) g6 g7 (.inl rfl)) (.cons (flat_prep he h6) .nil))
          · have hb := g3 hnil
            subst hb
            have hul : us.length = (l.flatMap AV.cells).length := g1.length.symm
            have hupos : 0 < us.length := by
              rw [hul]
              cases l with
              | nil => exact absurd rfl hnil
              | cons x l =>
                have := List.length_pos_iff.2 (hp x (by simp))
                rw [List.flatMap_cons, List.length_append]
                omega
            have h0 := g2 0 us[0] (List.getElem?_eq_getElem hupos)
            have hbB : w.heap.size ≤ b := by
              rcases Nat.lt_or_ge b w.heap.size with hlt | hge
              · rw [h5.hF b _ hlt (fun o ho => absurd ho (Nat.not_lt_zero _))] at h0
                cases h0
              · exact hge
            obtain ⟨vs', ty, fz, r1, rz, r2⟩ := h3.row (fun _ => rfl) _ _ _ h0
            have hcell : ∀ i v, us[i]? = some v → vs'.toList[o + i]? = some v := by
              intro i v hv
              have := h3.imm b (o + i) v (g2 i v hv)
              rw [cell_of_row w' b (o + i) vs' ty fz r1] at this
              simpa using this
            have hsplit : vs'.toList = vs'.toList.take o ++ us ++ vs'.toList.drop (o + us.length) := by
              have h1 : (vs'.toList.drop o).take us.length = us := by
                apply List.ext_getElem?
                intro i
                rw [List.getElem?_take]
                split
                · rename_i hi
                  rw [List.getElem?_drop, hcell i us[i] (List.getElem?_eq_getElem hi), List.getElem?_eq_getElem hi]
                · rename_i hi
                  rw [List.getElem?_eq_none (by omega)]
              calc vs'.toList = vs'.toList.take o ++ vs'.toList.drop o := (List.take_append_drop _ _).symm
                _ = vs'.toList.take o ++ ((vs'.toList.drop o).take us.length ++ (vs'.toList.drop o).drop us.length) := by rw [List.take_append_drop us.length (vs'.toList.drop o)]
                _ = _ := by rw [h1, List.drop_drop, List.append_assoc]
            have hlast := hcell (us.length - 1) us[us.length - 1] (List.getElem?_eq_getElem (by omega))
            have hsz : o + us.length ≤ vs'.toList.length := by
              have := (List.getElem?_eq_some_iff.1 hlast).1
              omega
            obtain ⟨L, R, hLR, hLo⟩ : ∃ L R, vs'.toList = L ++ us ++ R ∧ L.length = o := ⟨_, _, hsplit, by rw [List.length_take]; omega⟩
            clear hsplit
            have hc : All2 (PRep F (upd G H.length b) (H.length + 1)) (junk o ++ l.flatMap AV.cells ++ junk R.length) vs'.toList := by
              rw [hLR]
              refine .append (.append ?_ (flat_prepL hl g1).all2) ?_
              · have := junk_prep (F := F) (G := upd G H.length b) (n := H.length + 1) (rest := L) fun u hu => r2 u (by rw [hLR]; simp [hu])
                rwa [hLo] at this
              · exact junk_prep fun u hu => r2 u (by rw [hLR]; simp [hu])
            have hone : ∀ c ∈ junk o ++ l.flatMap AV.cells ++ junk R.length, c.isOne = true := by
              intro c hc
              simp only [List.mem_append] at hc
              rcases hc with (hc | hc) | hc
              · exact junk_one _ c hc
              · exact flat_one (hl c hc)
              · exact junk_one _ c hc
            obtain ⟨k1, k2⟩ := hg.newRow hbel hbB r1 rz hc hone
            refine ⟨_, _, _, _, F, .inr ⟨hnil, o, cap, _, g6, rfl, rfl⟩, rfl, k1, ?_, k2⟩
            have hgs := PRep.gsl (F := F) (G := upd G H.length b) (n := (H ++ [junk o ++ l.flatMap AV.cells ++ junk R.length]).length) (o := H.length) (off := o) (len := l.length) (cap := cap) (by simp) g6 g7
            rw [show upd G H.length b H.length = b by simp [upd]] at hgs
            exact .tuple (.cons hgs (.cons (flat_prep he h6) .nil))

section
variable {P : Program} {T : Tabs} {n : Nat} {fr : Fr} {H H' : Heap}
/-- A slot's slice over a shared object is given up: what it holds does not change from now on. -/
theorem AWp.killE {c : Code} {Q : Exit → Fr → Heap → Prop} {o d off len cap sz : Nat} {A C L : List AV} (ho : H[o]? = some (A ++ L.flatMap AV.cells ++ C)) (hA : A.length = off) (hL : L.length = len) (hsz : ∀ x ∈ L, x.cells.length = sz)
    (henv : fr.env d = .gsl o off len cap) (hok : okObj (A ++ L.flatMap AV.cells ++ C) = true) (hH : H.set o [] = H')
    (h : AWp P T n c Q { fr with env := upd fr.env d (.slice .frz L) } H') : AWp P T n c Q fr H := by
  subst hH
  intro G0 F0 n0 w0 a w hs
  refine h G0 F0 n0 w0 a w ?_
  obtain ⟨ρ, F, R, hw, hx⟩ := hs
  obtain ⟨F', vs, hmg, hF, mF, hhas, hcs, hones, hw2⟩ := hw.kill ho hok
  refine ⟨ρ, F', R, ⟨hw2.g, hw2.size, hw2.defers, ?_, hw2.hn, hw2.lg, hw2.ag, hw2.box, hw2.tok, hw2.frole, hw2.grole, hw2.rfresh, hw2.B0le⟩, ?_⟩
  · intro t
    have he := hw2.env t
    simp only [upd]
    by_cases hd : t = d
    · subst hd
      rw [if_pos rfl]
      rw [henv] at he
      obtain ⟨hv, g3, g4, g5⟩ := frep_gsl he
      rw [hv]
      have hl1 : (L.flatMap AV.cells).length = ((vs.drop A.length).take (L.flatMap AV.cells).length).length := by
        have := hcs.length
        simp only [List.length_append] at this
        rw [List.length_take, List.length_drop]
        omega
      have hc2 : PRepL F' ρ.G ρ.n (L.flatMap AV.cells) ((vs.drop A.length).take (L.flatMap AV.cells).length) := by
        have h1 := (hcs.drop A.length).take (L.flatMap AV.cells).length
        rw [List.append_assoc, List.drop_left, List.take_left] at h1
        exact h1
      have hp := PRep.slice (F := F') (G := ρ.G) (n := ρ.n) (tag := .frz) (l := L) (vs := (vs.drop A.length).take (L.flatMap AV.cells).length) (b := ρ.G o) (o := off) (base := some ⟨ρ.G o, off, none⟩) (cap := cap) (sz := sz) hc2 (by
          intro i v hv'
          rw [List.getElem?_take] at hv'
          split at hv'
          · rw [List.getElem?_drop, hA] at hv'
            have := hhas _ v hv'
            rwa [Nat.zero_add] at this
          · cases hv') (fun _ => rfl)
        hsz (fun c hc => hones c (by simp only [List.mem_append]; exact .inl (.inr hc))) (by omega) g5 (.inl rfl)
      rw [hL] at hp
      exact .cell (.p hp)
    · rw [if_neg hd]
      exact he
  · have := hx.freezeG hF mF
    simpa using this
end
section
variable {X : Cx} {k : Nat} {S : List It} {fr : Fr} {H H' : Heap} {c : Code}
/-- The same in a walk over a stack of code. -/
theorem wkillE (k : Nat) {o d off len cap sz : Nat} {A C L : List AV} (ho : H[o]? = some (A ++ L.flatMap AV.cells ++ C)) (hA : A.length = off) (hL : L.length = len) (hsz : ∀ x ∈ L, x.cells.length = sz)
    (henv : fr.env d = .gsl o off len cap) (hok : okObj (A ++ L.flatMap AV.cells ++ C) = true) (hH : H.set o [] = H')
    (h : Wf X k (.c c :: S) { fr with env := upd fr.env d (.slice .frz L) } H') : Wf X 0 (.c c :: S) fr H :=
  fun hm hfit => AWp.killE ho hA hL hsz henv hok hH (Wf_sound X k _ _ _ h hm hfit)
end
end Go.Abs
