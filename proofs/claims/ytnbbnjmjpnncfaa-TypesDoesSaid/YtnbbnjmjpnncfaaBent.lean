/-
  A copied type of which one node is spoilt: all that is needed of it is that it is a small type.
-/
import Derived.Test.YtnbbnjmjpnncfaaYW04
import Derived.Test.YtnbbnjmjpnncfaaGty
set_option maxRecDepth 20000
set_option maxHeartbeats 4000000
set_option linter.unusedSimpArgs false
set_option linter.unusedVariables false
namespace Go.Mdl
/-- Types of a height and a width. -/
def FitT (W : Nat) : Nat → Ty → Prop
  | 0, t => t.args = []
  | b + 1, t => t.args.length ≤ W ∧ ∀ x ∈ t.args, FitT W b x
end Go.Mdl
namespace Go.Proofs.Ytnbbnjmjpnncfaa
open Go Go.Abs Go.Mdl

def NodeO (B : Nat) (X : List TRow) (b : Nat) (r : AV) : Prop := ∃ (k : Int) (s : AV), r = .agg [sI k, s] ∧ SOK B X b s
def CopyPost (H0 : Heap) (X : List TRow) (W b : Nat) (r : AV) (H' : Heap) : Prop := ∃ X', H' = Hof H0 X' ∧ X'.take X.length = X ∧ Reg H0.length W X' ∧ NodeO H0.length X' b r
theorem copy_step {T : Tabs} {H0 : Heap} {W b bb : Nat} (hW : W < 1000) (t : Ty) (hl : t.args.length ≤ W) (hb : t.args ≠ [] → bb < b)
    (hc : ∀ x ∈ t.args, ∀ X, Reg H0.length W X → ACallP Try.prog T 42 [x.av] (Hof H0 X) (CopyPost H0 X W bb)) (X : List TRow) (hR : Reg H0.length W X) :
    ACallP Try.prog T 42 [t.av] (Hof H0 X) (CopyPost H0 X W b) := by
  have e := trivial
  have hok : okLen t.args = true := by unfold okLen limL; simp only [decide_eq_true_eq]; omega
  refine wi mixed Try.func42 [] [] 999 ?_
  simp [e]
  refine wnul 999 (d := 3) (by simp) ?_
  refine wl 999 (fun m f h => ∃ (i : Nat) (X' : List TRow) (s : AV) (g1 g2 : Nat), i + m = t.args.length ∧ X'.take X.length = X ∧ X.length ≤ X'.length ∧ Reg H0.length W X' ∧ GrwS H0.length X.length X' bb i s ∧
    (h = Hof H0 X' ∧ f.1 1 = AV.lptr 1 g1 0 ∧ f.1 2 = AV.lptr 2 g2 0 ∧ f.1 3 = s ∧ f.1 7 = sL Ty.av t.args ∧ f.1 8 = sI (llen t.args) ∧ f.1 9 = sI (i : Int) ∧ f.gen 1 = g1 ∧ f.box 1 = some [sI t.kind, sL Ty.av t.args] ∧ f.gen 2 = g2 ∧ f.box 2 = some [sI 0, AV.slice .full []])) t.args.length ?_ ?_
  · exact ⟨0, X, .nul, 1, 1, by simp, List.take_length, Nat.le_refl _, hR, .inl ⟨rfl, rfl⟩, by simp⟩
  · rintro m f h ⟨i, X', s, g1, g2, him, hge, hle, hR', hown, E⟩ K hK
    have e := Aj e E
    rcases Nat.lt_or_ge i t.args.length with hi | hi
    · obtain ⟨x, _, hx⟩ := drop_lt hi
      have hxm : x ∈ t.args := by
        unfold lget at hx
        rw [if_pos (by omega)] at hx
        exact List.mem_of_getElem? hx
      have e := Aj (Aj (Aj e (ilt_of hi)) hx) (iadd_idx hi hok)
      simp [e]
      refine CallAt.fnP (hc x hxm X' hR') ?_
      rintro r H' ⟨X2, rfl, hge2, hR2, k, s2, rfl, hs2⟩
      have hbb : bb < b := hb (by rintro h0; rw [h0] at hxm; cases hxm)
      have e := Aj (Aj (Aj (Aj e hs2.ncell) hs2.cells) hs2.nt) hs2.isOne
      simp [e]
      have hown2 := hown.pre hge2
      have hle2 : X.length ≤ X2.length := by
        have := congrArg List.length hge2
        rw [List.length_take] at this
        omega
      refine .inr (AppG.node (a := (k, s2)) (bb := bb) (tag' := .full) ap27 ⟨_, zero29⟩ hW (by simp [nodeAV, e]) (hown2.sok fun _ => hbb) hR2 fun s3 X3 happ => ?_)
      obtain ⟨q1, q2, q3, q4⟩ := happ.grw hown2 hR2 hs2 (by omega) hle2
      simp [e]
      refine hK _ _ (m - 1) (by omega) ⟨i + 1, X3, s3, g1, g2, by omega, ?_, q4, q2, q1, by simp [e]⟩
      rw [q3]
      exact pre_trans hge hge2
    · have e := Aj e (ilt_not hi)
      have hs : SOK H0.length X' b s := hown.sok fun h0 => hb (by rintro h1; rw [h1] at hi him; simp at him; omega)
      have e := Aj (Aj (Aj (Aj e hs.ncell) hs.cells) hs.nt) hs.isOne
      simp [e]
      exact ⟨X', rfl, hge, hR', t.kind, s, by simp [e], hs⟩
theorem copyO {T : Tabs} {H0 : Heap} {W : Nat} (hW : W < 1000) : ∀ (b : Nat) (t : Ty), FitT W b t → ∀ X, Reg H0.length W X → ACallP Try.prog T 42 [t.av] (Hof H0 X) (CopyPost H0 X W b)
  | 0, t, h, X, hR => by
    have h : t.args = [] := h
    exact copy_step (bb := 0) hW t (by rw [h]; exact Nat.zero_le _) (fun hn => absurd h hn) (fun x hx => by rw [h] at hx; cases hx) X hR
  | b + 1, t, h, X, hR => copy_step (bb := b) hW t h.1 (fun _ => Nat.lt_succ_self _) (fun x hx X hX => copyO hW b x (h.2 x hx) X hX) X hR

def dk (d : Smk_Deck) : List AV := [sL sI d.l, sI d.atF]
theorem Hof_hset {H : Heap} {X : List TRow} {o : Nat} {c : List AV} (ho : o < H.length) : hset (Hof H X) o c = Hof (hset H o c) X := by
  unfold Hof hset
  rw [List.set_append_left _ _ ho]
/-- Draws from right decks. -/
def NextOk (wf : Smk_Deck → Prop) : Prop := ∀ d, wf d → ∀ n : Int, 1 ≤ n → n ≤ 1000000000 → ∃ x d', mk_Deck_Next d n = some (x, d') ∧ 0 ≤ x ∧ x < n ∧ wf d'
theorem next_O {wf : Smk_Deck → Prop} {T : Tabs} {H : Heap} {X : List TRow} {o : Nat} {d : Smk_Deck} (hN : NextOk wf) (ho : H[o]? = some (dk d)) (hd : wf d) (n : Int) (h1 : 1 ≤ n) (h2 : n ≤ 1000000000) :
    ∃ x d', 0 ≤ x ∧ x < n ∧ wf d' ∧ ACall Try.prog T 31 [AV.gptr o 0, sI n] (Hof H X) (sI x) (Hof (hset H o (dk d')) X) := by
  obtain ⟨x, d', hm, g1, g2, g3⟩ := hN d hd n h1 h2
  have hlt := (List.getElem?_eq_some_iff.1 ho).1
  refine ⟨x, d', g1, g2, g3, ?_⟩
  rw [← Hof_hset hlt]
  exact r_mk_Deck_Next T (by rw [Hof_old hlt]; exact ho) hm

/-- What the walk ends with. -/
def BentPost (wf : Smk_Deck → Prop) (H : Heap) (o W b : Nat) (r : AV) (H' : Heap) : Prop := ∃ d' X k s, wf d' ∧ H' = Hof (hset H o (dk d')) X ∧ r = .agg [sI k, s] ∧ RegF H.length W X ∧ SOKF H.length X (b + 1) s
theorem hset_self {H : Heap} {o : Nat} {c : List AV} (h : H[o]? = some c) : hset H o c = H := by
  unfold hset
  obtain ⟨hlt, rfl⟩ := List.getElem?_eq_some_iff.1 h
  exact List.set_getElem_self hlt
/-- The state of the walk down: a place in the rows. -/
def BS (wf : Smk_Deck → Prop) (H : Heap) (o : Nat) (X : List TRow) (m : Nat) (f : Fr) (h : Heap) : Prop := ∃ (d' : Smk_Deck) (a q g : Nat) (rr : TRow), wf d' ∧ X[a]? = some rr ∧ q < rr.L.length ∧ rr.k = m ∧
  (h = Hof (hset H o (dk d')) X ∧ f.1 0 = AV.gptr o 0 ∧ f.1 3 = AV.gptr H.length 0 ∧ f.1 4 = AV.lptr 4 g 0 ∧ f.gen 4 = g ∧ f.box 4 = some [sI 0, AV.slice .full []] ∧ f.1 5 = AV.gptr (H.length + a) (q * 2))
theorem node_set0' {r : TRow} {q : Nat} {p : Int × AV} (hq : r.L[q]? = some p) (x : Int) : List.take (q * 2) r.C ++ AV.sc (.int .i64 x) :: List.drop (q * 2 + 1) r.C = TRow.C ⟨r.L.set q (x, p.2), r.j, r.k⟩ := by
  have := node_set0 hq x
  simpa [setCells] using this
/-- The root at the end. -/
theorem bent_root {H H2 : Heap} {X1 X2 : List TRow} {W b : Nat} {r : TRow} (hl : H2.length = H.length) (h0 : X1[0]? = some r) (hk : r.k = b) (hr : 0 < r.L.length) (hG : Ge X1 X2) (hF : RegF H.length W X2) :
    ∃ (r0 : TRow) (pR : Int × AV), ((((Hof H2 X2)[H.length]? = some r0.C ∧ okObj r0.C = true) ∧ 2 ≤ r0.C.length) ∧ r0.C.take 2 = [sI pR.1, pR.2]) ∧ pR.2.ncell = pR.2 ∧ SOKF H.length X2 b pR.2 := by
  obtain ⟨r0, h1, h2, h3, h4⟩ := hG.at_ 0 r h0
  obtain ⟨pR, hp⟩ : ∃ pR, r0.L[0]? = some pR := ⟨_, List.getElem?_eq_getElem (by omega)⟩
  have hs : SOKF H.length X2 r0.k pR.2 := (hF 0 r0 h1).2.2 pR (List.mem_of_getElem? hp)
  have hat := Hof_at (H0 := H2) h1
  rw [hl, Nat.add_zero] at hat
  refine ⟨r0, pR, ⟨⟨⟨hat, C_ok (by omega)⟩, by rw [C_len]; omega⟩, by have := node_at hp; simpa using this⟩, hs.ncell, by rw [← hk, ← h2]; exact hs⟩
theorem bent_walk {wf : Smk_Deck → Prop} (hN : NextOk wf) {T : Tabs} {H : Heap} {o : Nat} {d : Smk_Deck} {W b : Nat} (hW : W + 1 < 1000) (hW1 : 1 ≤ W) (t : Ty) (hf : FitT W b t) (ho : H[o]? = some (dk d)) (hd : wf d) :
    ACallP Try.prog T 17 [AV.gptr o 0, t.av] H (BentPost wf H o (W + 1) b) := by
  have e := trivial
  have hol := (List.getElem?_eq_some_iff.1 ho).1
  refine wiS (fun x => decide (H.length ≤ x)) (fun _ => 0) mixed Try.func17 [3, 46, 999999] [(4, false, [true, true, true, true, true, true, true, true, true, true, true, true, true]), (7, false, [true, true, true, true, true, true, true, true, true, false, true, true, false])] 999 ?_
  simp [e]
  have hcp := copyO (T := T) (H0 := H ++ [[sI t.kind, sL Ty.av t.args]]) (by omega : W < 1000) b t hf [] (fun i r h => by simp at h)
  rw [show Hof (H ++ [[sI t.kind, sL Ty.av t.args]]) [] = H ++ [[sI t.kind, sL Ty.av t.args]] by simp [Hof]] at hcp
  refine CallAt.fnP hcp ?_
  rintro r H' ⟨X0, rfl, _, hR0, k0, s0, rfl, hs0⟩
  rw [show (H ++ [[sI t.kind, sL Ty.av t.args]]).length = H.length + 1 by simp] at hR0 hs0
  have e := Aj (Aj e hs0.ncell) hs0.isOne
  have hget : (Hof (H ++ [[sI t.kind, sL Ty.av t.args]]) X0)[H.length]? = some [sI t.kind, sL Ty.av t.args] := by
    rw [Hof_old (by simp)]
    simp
  have e := Aj e hget
  let X1 : List TRow := ⟨[(k0, s0)], 0, b⟩ :: X0
  have hRX : Reg H.length W X1 := by
    intro i r hi
    cases i with
    | zero =>
      simp only [X1, List.getElem?_cons_zero, Option.some.injEq] at hi
      subst hi
      refine ⟨hW1, by simp, fun p hp => ?_⟩
      simp only [List.mem_singleton] at hp
      subst hp
      exact hs0.shift
    | succ i =>
      simp only [X1, List.getElem?_cons_succ] at hi
      exact ⟨(hR0 i r hi).1, (hR0 i r hi).2.1, fun p hp => ((hR0 i r hi).2.2 p hp).shift⟩
  simp [e]
  have hX : X1 = ⟨[(k0, s0)], 0, b⟩ :: X0 := rfl
  refine wlb 999 4 (BS wf H o X1) b (fun f h => ∃ m, BS wf H o X1 m f h) ?_ ?_ ?_
  · refine ⟨d, 0, 0, 1, ⟨[(k0, s0)], 0, b⟩, hd, rfl, by simp, rfl, ?_⟩
    simp [e]
    rw [hset_self ho, ← Hof_shift (c := [sI t.kind, sL Ty.av t.args])]
    rfl
  · rintro m f h ⟨d', a, q, g, rr, hd', ha, hq, hk, E⟩ K K2 hK hK2
    have e := Aj trivial E
    obtain ⟨p, hp⟩ : ∃ p, rr.L[q]? = some p := ⟨_, List.getElem?_eq_getElem hq⟩
    have hs : SOK H.length X1 rr.k p.2 := (hRX a rr ha).2.2 p (List.mem_of_getElem? hp)
    have hat : (Hof (hset H o (dk d')) X1)[H.length + a]? = some rr.C := by
      have := Hof_at (H0 := hset H o (dk d')) ha
      rwa [hset_length] at this
    have hld := Aj (Aj hat (C_ok (Nat.lt_of_le_of_lt (Nat.zero_le _) hq))) (node_cell1 hp)
    have hod : (hset H o (dk d'))[o]? = some (dk d') := by unfold hset; rw [List.getElem?_set_self hol]
    rcases hs with hn | ⟨i, n, cap, r, hn, hi, h3, h4, h5, h6, h7⟩
    · have e := Aj (Aj (Aj e hld) hn) (show igt 0 0 = false from rfl)
      simp [e]
      exact hK2 _ _ ⟨m, d', a, q, g, rr, hd', ha, hq, hk, by simp [e]⟩
    · have e := Aj (Aj (Aj e hld) hn) (show igt (n : Int) 0 = true by unfold igt; simpa using h7)
      simp [e]
      obtain ⟨x, d2, hx0, hx1, hd2, hcall⟩ := next_O (T := T) (X := X1) hN hod hd' 2 (by omega) (by omega)
      rw [hset_hset] at hcall
      refine CallAt.fn hcall ?_
      have hat2 : (Hof (hset H o (dk d2)) X1)[H.length + a]? = some rr.C := by
        have := Hof_at (H0 := hset H o (dk d2)) ha
        rwa [hset_length] at this
      have hod2 : (hset H o (dk d2))[o]? = some (dk d2) := by unfold hset; rw [List.getElem?_set_self hol]
      have e := Aj e hat2
      by_cases hx : x = 0
      · have e := Aj e (show ieq x 0 = true by subst hx; rfl)
        simp [e]
        obtain ⟨y, d3, hy0, hy1, hd3, hcall3⟩ := next_O (T := T) (X := X1) hN hod2 hd2 n (by omega) (by have := (hRX i r hi).1; omega)
        rw [hset_hset] at hcall3
        refine Cs hcall3 ?_ ?_
        · have e := Aj (Aj e hy0) hy1
          simp [e]
          exact hK _ _ r.k (by rw [← hk]; exact h3) ⟨d3, i, y.toNat, g, r, hd3, hi, by omega, rfl, by simp [e]⟩
        · refine ⟨(fun h0 => by cases h0), fun o' ho' => ?_⟩
          have ho' : H.length ≤ o' := by simpa using ho'
          unfold Hof
          rw [List.getElem?_append_right (by simpa using ho'), List.getElem?_append_right (by simpa using ho')]
          simp
      · have e := Aj e (show ieq x 0 = false by unfold ieq; simpa using hx)
        simp [e]
        exact hK2 _ _ ⟨m, d2, a, q, g, rr, hd2, ha, hq, hk, by simp [e]⟩
  · rintro f h ⟨m, d', a, q, g, rr, hd', ha, hq, hk, E⟩
    have e := Aj trivial E
    obtain ⟨p, hp⟩ : ∃ p, rr.L[q]? = some p := ⟨_, List.getElem?_eq_getElem hq⟩
    have hs : SOK H.length X1 rr.k p.2 := (hRX a rr ha).2.2 p (List.mem_of_getElem? hp)
    have hod : (hset H o (dk d'))[o]? = some (dk d') := by unfold hset; rw [List.getElem?_set_self hol]
    obtain ⟨x, d2, hx0, hx1, hd2, hcall⟩ := next_O (T := T) (X := X1) hN hod hd' 2 (by omega) (by omega)
    rw [hset_hset] at hcall
    simp [e]
    refine CallAt.fn hcall ?_
    have hat2 : (Hof (hset H o (dk d2)) X1)[H.length + a]? = some rr.C := by
      have := Hof_at (H0 := hset H o (dk d2)) ha
      rwa [hset_length] at this
    have hod2 : (hset H o (dk d2))[o]? = some (dk d2) := by unfold hset; rw [List.getElem?_set_self hol]
    have e := Aj (Aj e hat2) (C_ok (Nat.lt_of_le_of_lt (Nat.zero_le _) hq))
    by_cases hx : x = 0
    · have e := Aj e (show ieq x 0 = true by subst hx; rfl)
      simp [e]
      refine wg 999 ?_
      obtain ⟨y, d3, hy0, hy1, hd3, hcall3⟩ := next_O (T := T) (X := X1) hN hod2 hd2 7 (by omega) (by omega)
      rw [hset_hset] at hcall3
      have hat3 : (Hof (hset H o (dk d3)) X1)[H.length + a]? = some rr.C := by
        have := Hof_at (H0 := hset H o (dk d3)) ha
        rwa [hset_length] at this
      have hst : hset (Hof (hset H o (dk d3)) X1) (H.length + a) (TRow.C ⟨rr.L.set q (y, p.2), rr.j, rr.k⟩) = Hof (hset H o (dk d3)) (X1.set a ⟨rr.L.set q (y, p.2), rr.j, rr.k⟩) := by
        have := Hof_set (H0 := hset H o (dk d3)) (X := X1) (i := a) (r := ⟨rr.L.set q (y, p.2), rr.j, rr.k⟩)
        rwa [hset_length] at this
      have hlen : q * 2 + 1 ≤ rr.C.length := by rw [C_len]; omega
      have hF2 : RegF H.length (W + 1) (X1.set a ⟨rr.L.set q (y, p.2), rr.j, rr.k⟩) := by
        refine hRX.f.set ha rfl (by simp) (by simp) (by simp; have := (hRX a rr ha).1; omega) fun p' hp' => ?_
        rcases List.mem_or_eq_of_mem_set hp' with h1 | rfl
        · exact .inl ((hRX a rr ha).2.2 p' h1)
        · exact .inl hs
      obtain ⟨r0, pR, hfin, hnc, hsF⟩ := bent_root (H := H) (H2 := hset H o (dk d3)) (X1 := X1) (X2 := X1.set a ⟨rr.L.set q (y, p.2), rr.j, rr.k⟩) hset_length rfl rfl (by simp) (Ge.set ha rfl (by simp) (by simp)) hF2
      have e := Aj (Aj (Aj (Aj (Aj (Aj e hat3) (node_set0' hp y)) hst) hlen) hfin) hnc
      simp [e]
      refine CallAt.fn hcall3 ?_
      simp [e]
      exact ⟨d3, _, pR.1, pR.2, hd3, rfl, by simp, hF2, hsF.imp (fun h => h.up (Nat.le_succ _)) id⟩
    · have e := Aj e (show ieq x 0 = false by unfold ieq; simpa using hx)
      simp [e]
      refine wdraw 999 ⟨false, fun x => decide (H.length ≤ x), fun x => if x = H.length + a then 49 else 47⟩ ?_
      obtain ⟨n, hlen, hsn⟩ : ∃ n : Nat, lenA Try.prog 27 p.2 = some (sI n) ∧ (p.2 = .nul ∧ n = 0 ∨ ∃ i0 cap0, p.2 = .gsl (H.length + i0) 0 n cap0) := by
        rcases hs with hn | ⟨i, n, cap, r, hn, _⟩
        · exact ⟨0, by rw [hn]; simp, .inl ⟨hn, rfl⟩⟩
        · exact ⟨n, by rw [hn]; simp, .inr ⟨i, cap, hn⟩⟩
      have e := Aj (Aj e (node_cell1 hp)) hlen
      simp [e]
      refine Cs (r_ref01_Nat rfl) ?_
      simp [e]
      rw [show Hof (hset H o (dk d2)) X1 = Hof (hset H o (dk d2)) (bump X1) from Hof_bump.symm]
      refine AppG.raw (W := W) (b := rr.k + 1) (bb := 0) (a := (1, .slice .frz [])) (c := (Ty.mk 0 []).av) (tag' := .full) ap27 ⟨_, zero29⟩ (show W < 1000 by omega) (by simp) rfl (by rw [hset_length]; exact hs.bump) (by rw [hset_length]; exact hRX.bump) fun s' X' i n1 cap r happ hs' hr hn1 hat1 hsn1 => ?_
      rw [hset_length] at happ hs' hsn1
      obtain ⟨hG, hF, hsok, hrk, hoth⟩ := happ.okF hRX.bump hs.bump (Nat.succ_pos _) hW1 hs' hr
      have hnn : n1 = n := by
        rcases hsn with ⟨h1, h2⟩ | ⟨i0, cap0, h1⟩ <;> rcases hsn1 with ⟨h3, h4⟩ | ⟨i1, cap1, h3⟩
        · omega
        · rw [h1] at h3; cases h3
        · rw [h1] at h3; cases h3
        · rw [h1] at h3; injection h3 with _ _ h3 _; exact h3.symm
      subst hnn
      subst hs'
      have hab := bump_at ha
      have hna : i ≠ a := by
        rintro rfl
        obtain ⟨r', g1, g2, _⟩ := hG.at_ _ _ hab
        rw [hr] at g1
        cases g1
        simp only at g2
        omega
      have ha' : X'[a]? = some ⟨rr.L, rr.j, rr.k + 1⟩ := by
        rw [hoth a (fun h => hna h.symm) (List.getElem?_eq_some_iff.1 hab).1]
        exact hab
      have hcl : (Ty.mk 0 []).av.cells.length = 2 := by simp
      have hrl : n1 * 2 + 2 ≤ r.C.length := by rw [C_len]; omega
      have hHl : (Hof (hset H o (dk d2)) X').length = H.length + X'.length := by rw [Hof_len, hset_length]
      have hil := (List.getElem?_eq_some_iff.1 hr).1
      obtain ⟨C', hC'⟩ : ∃ C', setCells r.C (n1 * 2) (Ty.mk 0 []).av.cells = C' := ⟨_, rfl⟩
      have hCl : C'.length = r.C.length := by rw [← hC']; simp only [setCells, List.length_append, List.length_take, List.length_drop, hcl]; omega
      have f1 : (hset (Hof (hset H o (dk d2)) X') (H.length + i) C')[H.length + i]? = some C' := by unfold hset; rw [List.getElem?_set_self (by have := hHl; unfold hset at this; omega)]
      have f2 : okObj C' = true := by
        have hrok := C_ok (r := r) (by omega)
        rw [← hC']
        unfold setCells
        cases n1 with
        | zero => simp [okObj]
        | succ k =>
          cases hc : r.C with
          | nil => rw [hc] at hrok; cases hrok
          | cons x l =>
            rw [hc] at hrok
            rw [show (k + 1) * 2 = k * 2 + 1 + 1 by omega, List.take_succ_cons]
            exact hrok
      have f4 : setCells C' (n1 * 2) [sI 1, .slice .frz []] = r.C := by
        have h0 : setCells r.C (n1 * 2) [sI 1, .slice .frz []] = r.C := by
          have h1 := node_set (r := r) (q := n1) (1, .slice .frz []) hn1
          have h2 : r.L.set n1 (1, AV.slice .frz []) = r.L := by
            obtain ⟨hlt, h3⟩ := List.getElem?_eq_some_iff.1 hat1
            rw [← h3]
            exact List.set_getElem_self hlt
          rw [h1, h2]
        rw [← hC', setCells_twice (by rw [hcl]; rfl) (by rw [hcl]; exact hrl), h0]
      have f5 : hset (Hof (hset H o (dk d2)) X') (H.length + i) r.C = Hof (hset H o (dk d2)) X' := by
        have := set_row (H0 := hset H o (dk d2)) hr r.C rfl
        rw [hset_length] at this
        unfold hset at this ⊢
        exact this
      have f6 : (Hof (hset H o (dk d2)) X')[H.length + a]? = some rr.C := by
        have := Hof_at (H0 := hset H o (dk d2)) ha'
        rwa [hset_length] at this
      have f4' : List.take (n1 * 2) C' ++ AV.sc (.int .i64 1) :: AV.slice .frz [] :: List.drop (n1 * 2 + 2) C' = r.C := by simpa [setCells] using f4
      have f9 : List.take (q * 2 + 1) rr.C ++ AV.gsl (H.length + i) 0 (n1 + 1) cap :: List.drop (q * 2 + 1 + 1) rr.C = TRow.C ⟨rr.L.set q (p.1, .gsl (H.length + i) 0 (n1 + 1) cap), rr.j, rr.k + 1⟩ := by
        have := node_set1 (r := rr) hp (.gsl (H.length + i) 0 (n1 + 1) cap)
        have h2 : TRow.C ⟨rr.L.set q (p.1, AV.gsl (H.length + i) 0 (n1 + 1) cap), rr.j, rr.k⟩ = TRow.C ⟨rr.L.set q (p.1, .gsl (H.length + i) 0 (n1 + 1) cap), rr.j, rr.k + 1⟩ := rfl
        rw [← h2]
        simpa [setCells] using this
      have f10 : hset (Hof (hset H o (dk d2)) X') (H.length + a) (TRow.C ⟨rr.L.set q (p.1, .gsl (H.length + i) 0 (n1 + 1) cap), rr.j, rr.k + 1⟩) = Hof (hset H o (dk d2)) (X'.set a ⟨rr.L.set q (p.1, .gsl (H.length + i) 0 (n1 + 1) cap), rr.j, rr.k + 1⟩) := by
        have := Hof_set (H0 := hset H o (dk d2)) (X := X') (i := a) (r := ⟨rr.L.set q (p.1, .gsl (H.length + i) 0 (n1 + 1) cap), rr.j, rr.k + 1⟩)
        rwa [hset_length] at this
      have hqC : q * 2 + 1 + 1 ≤ rr.C.length := by rw [C_len]; omega
      have hF2 : RegF H.length (W + 1) (X'.set a ⟨rr.L.set q (p.1, .gsl (H.length + i) 0 (n1 + 1) cap), rr.j, rr.k + 1⟩) := by
        refine hF.set ha' rfl (by simp) (by simp) (by simp; have := (hRX a rr ha).1; omega) fun p' hp' => ?_
        rcases List.mem_or_eq_of_mem_set hp' with h1 | rfl
        · exact (hF a _ ha').2.2 p' h1
        · exact .inl hsok
      obtain ⟨r0, pR, hfin, hnc, hsF⟩ := bent_root (H := H) (H2 := hset H o (dk d2)) (X1 := bump X1) (X2 := X'.set a ⟨rr.L.set q (p.1, .gsl (H.length + i) 0 (n1 + 1) cap), rr.j, rr.k + 1⟩) hset_length rfl rfl (by simp) (hG.trans (Ge.set ha' rfl (by simp) (by simp))) hF2
      have e := Aj (Aj (Aj (Aj (Aj (Aj (Aj (Aj (Aj (Aj (Aj (Aj (Aj e f1) f2) f5) f6) f10) hfin) hnc) f4') f9) hna) (show n1 * 2 + 2 ≤ C'.length by omega)) hqC) (show ((n1 : Int) < (n1 : Int) + 1) = True from eq_true (by omega))
      rw [hset_length, hC']
      simp [e]
      exact ⟨d2, _, pR.1, pR.2, hd2, rfl, rfl, hF2, hsF⟩

theorem FitT.mono1 {W : Nat} : ∀ {b : Nat} {t : Ty}, FitT W b t → FitT W (b + 1) t
  | 0, t, h => by
    have h : t.args = [] := h
    exact ⟨by rw [h]; exact Nat.zero_le _, fun x hx => by rw [h] at hx; cases hx⟩
  | b + 1, t, h => ⟨h.1, fun x hx => FitT.mono1 (h.2 x hx)⟩
theorem FitT.mono {W b b' : Nat} {t : Ty} (hb : b ≤ b') (h : FitT W b t) : FitT W b' t := by
  induction hb with
  | refl => exact h
  | step _ ih => exact FitT.mono1 ih
/-- What the slices of settled rows are. -/
theorem settle_S {H2 : Heap} {X : List TRow} {W : Nat} (hF : RegF H2.length W X) : ∀ (b : Nat) (s : AV), SOKF H2.length X b s → ∃ l : List Ty, Stl (Hof H2 X) H2.length s (.slice .frz (l.map Ty.av)) ∧ ∀ k, FitT W b (Ty.mk k l) := by
  intro b
  induction b using Nat.strongRecOn with
  | _ b ih =>
    rintro s ((rfl | ⟨i, n, cap, r, rfl, hi, hk, hn, hc, hcc, hn0⟩) | rfl)
    · exact ⟨[], .nul, fun k => FitT.mono (Nat.zero_le _) (show FitT W 0 (Ty.mk k []) from rfl)⟩
    · have hrow : ∀ L : List (Int × AV), (∀ p ∈ L, p ∈ r.L) → ∃ ts : List Ty, StlL (Hof H2 X) H2.length ((L.map nodeAV).flatMap AV.cells) ((ts.map Ty.av).flatMap AV.cells) ∧ ts.length = L.length ∧ ∀ t ∈ ts, FitT W r.k t := by
        intro L
        induction L with
        | nil => intro _; exact ⟨[], .nil, rfl, fun t ht => by cases ht⟩
        | cons p L ihL =>
          intro hL
          obtain ⟨ts, h1, h2, h3⟩ := ihL fun q hq => hL q (by simp [hq])
          obtain ⟨l, g1, g2⟩ := ih r.k hk p.2 ((hF i r hi).2.2 p (hL p (by simp)))
          refine ⟨Ty.mk p.1 l :: ts, ?_, by simp [h2], fun t ht => ?_⟩
          · have hc1 : (Ty.mk p.1 l).av.cells = [sI p.1, .slice .frz (l.map Ty.av)] := by simp
            rw [List.map_cons, List.flatMap_cons, List.map_cons, List.flatMap_cons, hc1]
            exact StlL.append (.cons (.keep rfl) (.cons g1 .nil)) h1
          · rcases List.mem_cons.1 ht with rfl | ht
            · exact g2 _
            · exact h3 t ht
      obtain ⟨ts, h1, h2, h3⟩ := hrow (r.L.take n) fun p hp => List.mem_of_mem_take hp
      have hat : (Hof H2 X)[H2.length + i]? = some r.C := Hof_at hi
      have hlen : ts.length = n := by rw [h2, List.length_take]; omega
      have hfl := map_flat_len nodeAV_cells r.L
      have e1 : (r.C.drop 0).take (n * 2) = ((r.L.take n).map nodeAV).flatMap AV.cells := by
        rw [List.drop_zero]
        unfold TRow.C arrC
        rw [List.take_append_of_le_length (by rw [hfl]; exact Nat.mul_le_mul_right _ hn), ← flatMap_take (sz := 2) (by
          intro y hy
          obtain ⟨z, _, rfl⟩ := List.mem_map.1 hy
          rfl), List.map_take]
      refine ⟨ts, .gsl (sz := 2) (cs := r.C) (by omega) hat (C_ok (by omega)) (by rw [C_len]; omega) (by rw [e1]; exact h1) (by rw [List.length_map]; exact hlen) (fun x hx => by
        obtain ⟨t, _, rfl⟩ := List.mem_map.1 hx
        simp), fun k => ?_⟩
      cases b with
      | zero => omega
      | succ b' =>
        refine ⟨?_, fun t ht => FitT.mono (by omega) (h3 t ht)⟩
        show ts.length ≤ W
        have := (hF i r hi).1
        omega
    · exact ⟨[], .keep rfl, fun k => FitT.mono (Nat.zero_le _) (show FitT W 0 (Ty.mk k []) from rfl)⟩

/-- **bent**: it returns some small type, and leaves some right deck. -/
theorem bent_C {wf : Smk_Deck → Prop} (hN : NextOk wf) {T : Tabs} {H : Heap} {o : Nat} {d : Smk_Deck} {W b : Nat} (hW : W + 1 < 1000) (hW1 : 1 ≤ W) (t : Ty) (hf : FitT W b t) (ho : H[o]? = some (dk d)) (hd : wf d) :
    ACallP Try.prog T 17 [AV.gptr o 0, t.av] H fun r H' => ∃ (t' : Ty) (d' : Smk_Deck), wf d' ∧ FitT (W + 1) (b + 1) t' ∧ r = t'.av ∧ H' = hset H o (dk d') := by
  have hol := (List.getElem?_eq_some_iff.1 ho).1
  refine ACallP.settle (bent_walk hN hW hW1 t hf ho hd) ?_
  rintro r H' ⟨d', X, k, s, hd', rfl, rfl, hF, hs⟩
  have hlen : (hset H o (dk d')).length = H.length := hset_length
  rw [← hlen] at hF hs
  obtain ⟨l, h1, h2⟩ := settle_S hF (b + 1) s hs
  refine ⟨hset H o (dk d'), X.map TRow.C, (Ty.mk k l).av, rfl, hlen, ?_, ?_, Ty.mk k l, d', hd', h2 k, rfl, rfl⟩
  · intro cs hcs
    obtain ⟨i, hi⟩ := List.mem_iff_getElem?.1 hcs
    by_cases hio : o = i
    · subst hio
      unfold hset at hi
      rw [List.getElem?_set_self hol] at hi
      cases hi
      exact .inr (by simp [dk, AV.lowL, AV.low])
    · unfold hset at hi
      rw [List.getElem?_set_ne hio] at hi
      exact .inl (List.mem_of_getElem? hi)
  · rw [Ty.av_eq]
    rw [hlen] at h1
    exact .agg (.cons (.keep rfl) (.cons h1 .nil))
end Go.Proofs.Ytnbbnjmjpnncfaa
