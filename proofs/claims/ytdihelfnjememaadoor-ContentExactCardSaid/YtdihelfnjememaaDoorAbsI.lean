/-
  The abstract layer, part I: append, all ways.
-/
import Derived.Test.YtdihelfnjememaaDoorAbsH
set_option linter.unusedSimpArgs false
set_option linter.unusedVariables false
namespace Go.Abs
open Go

theorem upd_upd {α : Type} (f : Nat → α) (i : Nat) (x y : α) : upd (upd f i x) i y = upd f i y := by
  funext j
  unfold upd
  split <;> rfl

theorem upd_same {α : Type} (f : Nat → α) (i : Nat) (x : α) : upd f i x i = x := by simp [upd]
theorem upd_ne {α : Type} (f : Nat → α) (i j : Nat) (x : α) (h : j ≠ i) : upd f i x j = f j := by simp [upd, h]

section
variable {P : Program} {T : Tabs} {n B0 : Nat} {ρ : Maps} {F : Imm} {R : Nat → Role} {fr : Fr} {H : Heap} {a : Act} {w : World}

/-- Cells behind those that do not change are written, and do not change from now on. -/
theorem WR.extend (h : WR T n B0 ρ F R fr H a w) {d p q b c sz : Nat} {news : List Value} (ht : fr.tab d = some p) (hA : ρ.A d (fr.tgen d) = some (b, c, sz)) (hq : news.length = q * sz) (hfit : p + q ≤ c)
    {cur : Array Value} {ty : TypeId} (hh : w.heap[b]? = some (.cells cur ty (0, 0))) :
    ∃ F', MGrow F F' ρ ρ ∧ (∀ b' j, b' ≠ b → F' b' j = F b' j) ∧ (∀ (j : Nat) (v : Value), news[j]? = some v → F' b (p * sz + j) = some v) ∧
      WR T n B0 ρ F' R { fr with tab := upd fr.tab d (some (p + q)) } H a (w.setRow b (cur.toList.take (p * sz) ++ news ++ cur.toList.drop (p * sz + news.length)).toArray) := by
  obtain ⟨h1, h2, h3, h3', ⟨vs, ty', h4, h5⟩, h6⟩ := h.tok d p ht b c sz hA
  rw [hh] at h4
  injection h4 with h4
  injection h4 with e1 e2
  subst e1; subst e2
  have hpq : (p + q) * sz ≤ c * sz := Nat.mul_le_mul_right _ hfit
  rw [Nat.add_mul] at hpq
  have hps : p * sz ≤ cur.toList.length := by simp; omega
  let F' : Imm := fun b' j => if b' = b ∧ p * sz ≤ j ∧ j < p * sz + news.length then news[j - p * sz]? else F b' j
  have hold : ∀ b' j v, F b' j = some v → F' b' j = some v := by
    intro b' j v hf
    show (if b' = b ∧ p * sz ≤ j ∧ j < p * sz + news.length then news[j - p * sz]? else F b' j) = some v
    rw [if_neg]
    · exact hf
    · rintro ⟨rfl, hj, _⟩
      rw [h6 j hj] at hf
      cases hf
  have hother : ∀ b' j, b' ≠ b → F' b' j = F b' j := by
    intro b' j hne
    show (if b' = b ∧ p * sz ≤ j ∧ j < p * sz + news.length then news[j - p * sz]? else F b' j) = F b' j
    rw [if_neg (fun h => hne h.1)]
  have hnew : ∀ (j : Nat) (v : Value), news[j]? = some v → F' b (p * sz + j) = some v := by
    intro j v hv
    have hj := (List.getElem?_eq_some_iff.1 hv).1
    show (if b = b ∧ p * sz ≤ p * sz + j ∧ p * sz + j < p * sz + news.length then news[p * sz + j - p * sz]? else F b (p * sz + j)) = some v
    rw [if_pos ⟨rfl, by omega, by omega⟩, Nat.add_sub_cancel_left]
    exact hv
  have hgr : ∀ G n, Grow F F' G G n n := fun G n => ⟨hold, Nat.le_refl _, fun _ _ => rfl⟩
  have hmg : MGrow F F' ρ ρ := ⟨hgr _ _, fun _ => Nat.le_refl _, fun _ _ _ => rfl, fun _ => Nat.le_refl _, fun _ _ _ => rfl⟩
  have hnb : ∀ b', R b' ≠ .arr d → b' ≠ b := by rintro b' hb' rfl; exact hb' h2
  have hrow := setRow_heap w b cur (cur.toList.take (p * sz) ++ news ++ cur.toList.drop (p * sz + news.length)).toArray ty (0, 0) hh
  refine ⟨F', hmg, hother, hnew, ⟨⟨?_, ?_, h.g.inj, ?_, ?_, fun g x hx => (h.g.tabs g x hx).grow (hgr _ _)⟩, h.size, h.defers, h.env.grow hmg, h.hn, h.lg, h.ag, ?_, ?_, ?_, h.grole, ?_, by rw [size_setRow]; exact h.B0le⟩⟩
  · intro b' j v hf
    by_cases hb' : b' = b
    · subst hb'
      rw [cell_of_row _ b' j _ ty (0, 0) hrow]
      simp only [List.getElem?_toArray]
      change (if b' = b' ∧ p * sz ≤ j ∧ j < p * sz + news.length then news[j - p * sz]? else F b' j) = some v at hf
      split at hf
      · rename_i hc
        rw [List.append_assoc, List.getElem?_append_right (by rw [List.length_take]; omega), List.length_take, Nat.min_eq_left hps, List.getElem?_append_left (by omega)]
        exact hf
      · rename_i hc
        have hj : j < p * sz := by
          rcases Nat.lt_or_ge j (p * sz) with h' | h'
          · exact h'
          · rw [h6 j h'] at hf; cases hf
        have := h.g.imm b' j v hf
        rw [cell_of_row w b' j cur ty (0, 0) hh] at this
        rw [List.append_assoc, List.getElem?_append_left (by rw [List.length_take]; omega), List.getElem?_take, if_pos hj]
        simpa using this
    · rw [cell_setRow_other _ _ _ _ _ hb']
      rw [hother _ _ hb'] at hf
      exact h.g.imm b' j v hf
  · intro o cs ho
    obtain ⟨vs', ty', g1, g2, g3⟩ := h.g.glob o cs ho
    refine ⟨vs', ty', ?_, g2.mono fun _ _ _ h => h.grow (hgr _ _), g3⟩
    rw [setRow_other]
    · exact g1
    · exact hnb _ (by rw [h.grole o (List.getElem?_eq_some_iff.1 ho).1]; simp)
  · intro o j ho
    rw [hother]
    · exact h.g.gF o j ho
    · exact hnb _ (by rw [h.grole o ho]; simp)
  · intro b' j hb'
    rw [size_setRow] at hb'
    rw [hother]
    · exact h.g.fresh b' j hb'
    · rintro rfl
      have := heap_lt hh
      omega
  · intro d' cs hd'
    obtain ⟨g1, g2, g3, vs', ty', g4, g5⟩ := h.box d' cs hd'
    refine ⟨g1, g2, g3, vs', ty', ?_, g5.mono fun _ _ _ h => h.grow hmg⟩
    rw [setRow_other]
    · exact g4
    · exact hnb _ (by rw [g2]; simp)
  · intro k m hk b' c' sz' hA'
    simp only [upd] at hk
    by_cases hkd : k = d
    · subst hkd
      simp only [if_true, Option.some.injEq] at hk
      subst hk
      have hA2 : ρ.A k (fr.tgen k) = some (b', c', sz') := hA'
      rw [hA] at hA2
      injection hA2 with hA2
      injection hA2 with e1 e2
      injection e2 with e2 e3
      subst e1; subst e2; subst e3
      refine ⟨h1, h2, ⟨by have := h3.1; omega, hfit⟩, h3', ⟨_, ty, hrow, ?_⟩, ?_⟩
      · simp only [List.size_toArray, List.length_append, List.length_take, List.length_drop, Array.length_toList]
        omega
      · intro j hj
        rw [Nat.add_mul, ← hq] at hj
        show (if b = b ∧ p * sz ≤ j ∧ j < p * sz + news.length then news[j - p * sz]? else F b j) = none
        rw [if_neg (by omega)]
        exact h6 j (by omega)
    · simp only [if_neg hkd] at hk
      obtain ⟨g1, g2, g3, g3', ⟨vs', ty', g4, g5⟩, g6⟩ := h.tok k m hk b' c' sz' hA'
      have hne : b' ≠ b := hnb _ (by rw [g2]; simp [hkd])
      refine ⟨g1, g2, g3, g3', ⟨vs', ty', by rw [setRow_other _ _ _ _ hne]; exact g4, g5⟩, fun j hj => ?_⟩
      rw [hother _ _ hne]
      exact g6 j hj
  · intro b' j v hf
    by_cases hb' : b' = b
    · subst hb'
      exact .inr ⟨d, h2⟩
    · rw [hother _ _ hb'] at hf
      exact h.frole b' j v hf
  · intro b' hb'
    rw [size_setRow] at hb'
    exact h.rfresh b' hb'

/-- A new row, of which the first cells do not change from now on, and the rest is the frame's own. -/
theorem WR.claimArr (h : WR T n B0 ρ F R fr H a w) {b : Nat} {vs : Array Value} {ty : TypeId} {us : List Value} {c sz : Nat} {tag : Tag} {l m : List AV} {d : Nat} (hd : d < n) (hb : B0 ≤ b) (hfree : R b = .free)
    (hF : ∀ j, F b j = none) (hh : w.heap[b]? = some (.cells vs ty (0, 0))) (hvs : vs.size = c * sz) (hlm : 0 < l.length + m.length) (hp : l.length + m.length ≤ c) (hc : c ≤ maxLen) (hus : us.length = (l.length + m.length) * sz)
    (hpre : ∀ (j : Nat) (v : Value), us[j]? = some v → vs[j]? = some v) (hcells : PRepL F ρ.G ρ.n ((l ++ m).flatMap AV.cells) us) (hone : ∀ x ∈ (l ++ m).flatMap AV.cells, x.isOne = true) (hsz : ∀ x ∈ l ++ m, x.cells.length = sz) :
    ∃ ρ' R', ρ'.G = ρ.G ∧ WR T n B0 ρ' (freezeF F b us.length us) R' (grown fr d tag l m) H (a.put (some d) (.slice (some ⟨b, 0, none⟩) (l.length + m.length) c)) w := by
  obtain ⟨hmg0, h0⟩ := h.freeze (k := us.length) (us := us) hfree hF hh (fun j v _ hv => hpre j v hv)
  let ρ' : Maps := { ρ with A := upd2 ρ.A d (fr.tgen d + 1) (some (b, c, sz)), ag := upd ρ.ag d (fr.tgen d + 1) }
  let R' : Nat → Role := upd R b (.arr d)
  have hmg : MGrow F (freezeF F b us.length us) ρ ρ' := by
    refine ⟨hmg0.g, fun _ => Nat.le_refl _, fun _ _ _ => rfl, fun k => ?_, fun k g hg => ?_⟩
    · show ρ.ag k ≤ upd ρ.ag d (fr.tgen d + 1) k
      unfold upd
      split
      · rename_i h'; subst h'; rw [h.ag]; omega
      · exact Nat.le_refl _
    · show upd2 ρ.A d (fr.tgen d + 1) (some (b, c, sz)) k g = ρ.A k g
      unfold upd2
      rw [if_neg]
      rintro ⟨rfl, rfl⟩
      rw [h.ag] at hg
      omega
  have hmg1 : MGrow (freezeF F b us.length us) (freezeF F b us.length us) ρ ρ' := ⟨.refl, hmg.lg, hmg.L, hmg.ag, hmg.A⟩
  have hRne : ∀ b', R b' ≠ .free → R' b' = R b' := by
    intro b' hb'
    show upd R b (.arr d) b' = R b'
    unfold upd
    rw [if_neg]
    rintro rfl
    exact hb' hfree
  have hne : ∀ b', R b' ≠ .free → b' ≠ b := by rintro b' hb' rfl; exact hb' hfree
  refine ⟨ρ', R', rfl, ⟨h0.g, by rw [put_size]; exact h.size, by rw [put_defers]; exact h.defers, ?_, h.hn, h.lg, ?_, ?_, ?_, ?_, ?_, ?_, h.B0le⟩⟩
  · have hval : FRep (freezeF F b us.length us) ρ' (.slice (.loc d (fr.tgen d + 1)) (l ++ m)) (.slice (some ⟨b, 0, none⟩) (l.length + m.length) c) := by
      have hlen : (l ++ m).length = l.length + m.length := List.length_append
      have hp' := PRep.slice (F := freezeF F b us.length us) (G := ρ'.G) (n := ρ'.n) (tag := .frz) (l := l ++ m) (b := b) (o := 0) (base := some ⟨b, 0, none⟩) (cap := c) (sz := sz)
        (hcells.grow hmg0.g) (freezeF_has F b us) (fun _ => rfl) hsz hone (by omega) hc (.inl rfl)
      rw [hlen] at hp'
      rw [← hlen]
      refine .cell (.loc (by rw [hlen]; exact hp') (by show _ ≤ upd ρ.ag d (fr.tgen d + 1) d; simp [upd]) ?_)
      unfold OwnRow
      have e : ρ'.A d (fr.tgen d + 1) = some (b, c, sz) := by show upd2 ρ.A d (fr.tgen d + 1) (some (b, c, sz)) d (fr.tgen d + 1) = _; simp [upd2]
      rw [e]
      exact ⟨rfl, rfl, hsz⟩
    have h1 := (h0.env.grow hmg1).put (d := some d) (by intro d' he; injection he with he; subst he; rw [h.size]; exact hd) hval
    exact h1
  · intro k
    show upd ρ.ag d (fr.tgen d + 1) k = upd fr.tgen d (fr.tgen d + 1) k
    unfold upd
    split
    · rfl
    · exact h.ag k
  · intro d' cs hd'
    obtain ⟨h1, h2, h3, vs', ty', h4, h5⟩ := h0.box d' cs hd'
    exact ⟨h1, by rw [hRne _ (by show R (ρ.L d' (fr.gen d')) ≠ _; rw [h2]; simp)]; exact h2, h3, vs', ty', h4, h5.mono fun _ _ _ h => h.grow hmg1⟩
  · intro k m' hk b' c' sz' hA
    simp only [grown, upd] at hk
    by_cases hkd : k = d
    · subst hkd
      simp only [if_true, Option.some.injEq] at hk
      subst hk
      have e1 : (grown fr k tag l m).tgen k = fr.tgen k + 1 := by simp [grown, upd]
      rw [e1] at hA
      have e2 : ρ'.A k (fr.tgen k + 1) = some (b, c, sz) := by show upd2 ρ.A k (fr.tgen k + 1) (some (b, c, sz)) k (fr.tgen k + 1) = _; simp [upd2]
      rw [e2] at hA
      injection hA with hA
      injection hA with e1 e2
      injection e2 with e2 e3
      subst e1; subst e2; subst e3
      refine ⟨hb, by show upd R b (.arr k) b = .arr k; simp [upd], ⟨hlm, hp⟩, hc, ⟨vs, ty, hh, hvs⟩, fun j hj => ?_⟩
      show (if b = b ∧ j < us.length then us[j]? else F b j) = none
      rw [if_neg (by omega)]
      exact hF j
    · simp only [if_neg hkd] at hk
      have e1 : (grown fr d tag l m).tgen k = fr.tgen k := by simp [grown, upd, hkd]
      rw [e1] at hA
      have e2 : ρ'.A k (fr.tgen k) = ρ.A k (fr.tgen k) := by show upd2 ρ.A d (fr.tgen d + 1) _ k (fr.tgen k) = _; simp [upd2, hkd]
      rw [e2] at hA
      have hk' : fr.tab k = some m' := by
        unfold killTok at hk
        split at hk
        · simp only [upd] at hk
          split at hk
          · cases hk
          · exact hk
        · exact hk
      obtain ⟨e3, e4, e5, e5', e6, e7⟩ := h0.tok k m' hk' b' c' sz' hA
      exact ⟨e3, by rw [hRne _ (by rw [e4]; simp)]; exact e4, e5, e5', e6, e7⟩
  · intro b' j v hf
    by_cases hb' : b' = b
    · subst hb'
      exact .inr ⟨d, by show upd R b' (.arr d) b' = _; simp [upd]⟩
    · have e : R' b' = R b' := by show upd R b (.arr d) b' = R b'; simp [upd, hb']
      rw [e]
      exact h0.frole b' j v hf
  · intro o ho
    have := h.grole o ho
    rw [hRne _ (by show R (ρ.G o) ≠ _; rw [this]; simp)]
    exact this
  · intro b' hb'
    have hne' : b' ≠ b := by rintro rfl; have := heap_lt hh; omega
    show upd R b (.arr d) b' = .free
    simp only [upd, if_neg hne']
    exact h.rfresh b' hb'

end

section
variable {P : Program} {T : Tabs} {n : Nat} {G0 : Nat → Nat} {F0 : Imm} {n0 : Nat} {w0 : World} {fr : Fr} {H : Heap} {a : Act} {w : World}

theorem run_append_grow' (w : World) {t e : TypeId} {sz : Nat} (hap : apOf P t = some (e, sz)) (ty : TypeId) (base : Option Addr) (sLen sCap : Nat) (olds : List Value) (holds : olds.length = sLen * sz)
    (hb : base = none → sLen = 0 ∧ sCap = 0) (ho : ∀ ad, base = some ad → ∀ j v, olds[j]? = some v → w.cell? (ad.add j) = some v)
    (ad : Addr) (m c : Nat) (news : List Value) (hl : news.length = m * sz) (hn : ∀ j v, news[j]? = some v → w.cell? (ad.add j) = some v) (hgt : sCap < sLen + m) (hlim : sLen + m ≤ growLim) :
    ∃ cap rest, sLen + m ≤ cap ∧ cap ≤ maxLen ∧ (olds ++ news ++ rest).length = cap * sz ∧
      (Builtin.append_ #[t, t] ty #[.slice base sLen sCap, .slice (some ad) m c]).run P w = .ok (.slice (some ⟨w.heap.size, 0, none⟩) (sLen + m) cap) (w.drew.alloc (.cells (olds ++ news ++ rest).toArray e)) := by
  obtain ⟨i, z, hu, hi, hz, hzs, his, hby, hpos⟩ := apOf_inv hap
  subst his
  have hlim' : sLen + m ≤ 1099511627776 := hlim
  have hbytes : (sLen + m) * i.bytes ≤ 140737488355328 := by
    have := Nat.mul_le_mul hlim' hby
    omega
  have hmax : sLen + m ≤ maxLen := by simp only [maxLen]; omega
  have hge := grownCap_ge w (sLen + m) sCap e
  have hle := grownCap_le_maxLen w (sLen + m) sCap e hmax
  refine ⟨grownCap w (sLen + m) sCap e, (Builtin.zeroCells z.cells (grownCap w (sLen + m) sCap e - (sLen + m))).toList, hge, hle, ?_, ?_⟩
  · simp only [List.length_append, Array.length_toList, size_zeroCells, hzs, holds, hl, ← Nat.add_mul]
    congr 1
    omega
  · have e1 : (olds ++ news ++ (Builtin.zeroCells z.cells (grownCap w (sLen + m) sCap e - (sLen + m))).toList).toArray =
        olds.toArray ++ news.toArray ++ Builtin.zeroCells z.cells (grownCap w (sLen + m) sCap e - (sLen + m)) := by
      apply Array.toList_inj.1
      simp
    rw [e1]
    cases base with
    | some b =>
      exact run_append_grow w t ty e i z hu hi hz b sLen sCap olds holds (ho b rfl) ad m c news hl hn hgt (by omega) (growslice_fits hgt hbytes)
    | none =>
      obtain ⟨rfl, rfl⟩ := hb rfl
      have : olds = [] := List.eq_nil_of_length_eq_zero (by simpa using holds)
      subst this
      simp only [Nat.zero_add] at hgt hbytes hlim' ⊢
      have := run_append_nil (P := P) w t ty e i z hu hi hz ad m c news hl hn (by omega) (by omega) (by omega)
      simpa using this

theorem append_sound {ρ : Maps} {F : Imm} {R : Nat → Role} (h : WR T n w0.heap.size ρ F R fr H a w) (hx : Ext w0.heap.size G0 F0 n0 w0 ρ.G F H.length w) {c : Call} {dst : Option Nat} {ty : TypeId} {K : Fr → Heap → Prop}
    (hK : appendA P T c dst K fr H) (hd : ∀ d, dst = some d → d < n) (hok : ∀ x ∈ c.args.toList, okOperand x = true) :
    ∃ v w' fr' H', (Builtin.append_ c.argTypes ty (c.args.map a.eval)).run P w = .ok v w' ∧ K fr' H' ∧ SR T n G0 F0 n0 w0 fr' H' (a.put dst v) w' := by
  unfold appendA at hK
  split at hK
  · rename_i d s x t t' hargs htys
    have hdn := hd d rfl
    have e1 : c.argTypes = #[t, t'] := Array.toList_inj.1 (by rw [htys])
    have e2 : c.args.map a.eval = #[a.eval s, a.eval x] := Array.toList_inj.1 (by rw [Array.toList_map, hargs]; rfl)
    rw [e1, e2]
    have hsr := ev_rep h.env h.tabsRep s (hok s (by rw [hargs]; simp))
    have hxr := ev_rep h.env h.tabsRep x (hok x (by rw [hargs]; simp))
    split at hK
    · rename_i e sz tag l tag' m hap hs hxe
      obtain ⟨rfl, hl1, hm1, hlim, hK⟩ := hK
      rw [hs] at hsr
      rw [hxe] at hxr
      obtain ⟨base, cap, b, o, sz1, vs, hsv, hsl, hfull, hloc⟩ := frep_slice hsr
      obtain ⟨base2, cap2, b2, o2, sz2, vs2, hxv, hsl2, _, _⟩ := frep_slice hxr
      rw [hsv, hxv]
      obtain ⟨i, z, hu, hi, hz, hzs, his, hby, hpos⟩ := apOf_inv hap
      have hszl := headOk_all hl1 hsl.sz
      have hszm := headOk_all hm1 hsl2.sz
      have hpfrz : PRep F ρ.G ρ.n (.slice .frz l) (.slice base l.length cap) := .slice hsl.cells hsl.has hsl.base hszl hsl.ones hsl.hcap hsl.hmax (.inl rfl)
      split at hK
      · rename_i hcg
        have htag : tag = .full ∧ cap = l.length ∨ ∃ k g, tag = .loc k g ∧ g = fr.tgen k ∧ fr.tab k = some l.length ∧ OwnRow ρ k g l base cap := by
          unfold canGrow at hcg
          split at hcg
          · cases hcg
          · exact .inl ⟨rfl, hfull rfl⟩
          · rename_i k g
            simp only [Bool.and_eq_true, beq_iff_eq] at hcg
            exact .inr ⟨k, g, rfl, hcg.1, hcg.2, (hloc k g rfl).2⟩
        by_cases hm : m = []
        · subst hm
          obtain ⟨ρ', R', hG, _, _, _, hw⟩ := h.rename hdn hpfrz htag
          refine ⟨_, _, _, _, run_append_none w hap ty base l.length cap hsl.hcap _ ⟨base2, cap2, rfl⟩, hK, ρ', F, R', ?_, by rw [hG]; exact hx⟩
          exact hw
        · have hbase2 := hsl2.base hm
          have hnews : ∀ j v, vs2[j]? = some v → w.cell? ((⟨b2, o2, none⟩ : Addr).add j) = some v := by
            intro j v hv
            rw [Addr.add_lit]
            exact h.g.imm b2 _ v (hsl2.has j v hv)
          have hvl2 : vs2.length = m.length * sz := by rw [← hsl2.cells.length, flatMap_len hszm]
          have hvl1 : vs.length = l.length * sz := by rw [← hsl.cells.length, flatMap_len hszl]
          have hone2 : ∀ u ∈ vs2, u.oneCell' = true := cells_oneCell (hsl2.cells.all2.mono fun _ _ _ h => FCell.p h) hsl2.ones
          have hmpos : 0 < m.length := List.length_pos_iff.2 hm
          rw [hbase2]
          by_cases hroom : l.length + m.length ≤ cap
          · -- in place
            rcases htag with ⟨rfl, hc⟩ | ⟨k, g, rfl, hg, ht, ho⟩
            · omega
            · have ho' := ho
              unfold OwnRow at ho'
              cases hA : ρ.A k g with
              | none => rw [hA] at ho'; simp only at ho'; omega
              | some p =>
                obtain ⟨b3, c3, sz3⟩ := p
                rw [hA] at ho'
                simp only at ho'
                obtain ⟨rfl, rfl, hs3⟩ := ho'
                rw [hg] at hA
                obtain ⟨t1, t2, t3, t3', ⟨cur, ty', t4, t5⟩, t6⟩ := h.tok k _ ht b3 cap sz3 hA
                -- the element's cells
                have hlne : l ≠ [] := by rintro rfl; exact absurd t3.1 (by simp)
                have hsz3 : sz3 = sz := by
                  cases l with
                  | nil => exact absurd rfl hlne
                  | cons y ys => rw [← hs3 y (by simp), hszl y (by simp)]
                subst hsz3
                obtain ⟨ρ', R', hG, hn', hA', hag', hw⟩ := h.rename hdn hpfrz (tag := .loc k g) (.inr ⟨k, g, rfl, hg, ht, ho⟩)
                have hrowA : ρ'.A d ((grown fr d (.loc k g) l []).tgen d) = some (b3, cap, sz3) := by
                  have e : (grown fr d (.loc k g) l []).tgen d = fr.tgen d + 1 := by simp [grown, upd]
                  rw [e, hA' k g rfl, hg]
                  exact hA
                have htab : (grown fr d (.loc k g) l []).tab d = some l.length := by simp [grown, upd]
                obtain ⟨F', hmg, hother, hnew, hw2⟩ := hw.extend htab hrowA hvl2 hroom t4
                have hbo : b = b3 ∧ o = 0 := by
                  have := hsl.base hlne
                  injection this with this
                  injection this with e1 e2
                  exact ⟨e1.symm, e2.symm⟩
                obtain ⟨rfl, rfl⟩ := hbo
                have hrun := run_append_room' (P := P) w t' ty e ty' i hu hi b l.length cap cur t4 ⟨b2, o2, none⟩ m.length cap2 vs2 (by rw [his]; exact hvl2) hnews hone2 hroom (by
                  rw [his, hvl2, ← Nat.add_mul, t5]; exact Nat.mul_le_mul_right _ hroom)
                rw [his] at hrun
                have hval : FRep F' ρ' (.slice (.loc d (fr.tgen d + 1)) (l ++ m)) (.slice (some ⟨b, 0, none⟩) (l.length + m.length) cap) := by
                  have hlen : (l ++ m).length = l.length + m.length := List.length_append
                  have hhas : F'.has b 0 (vs ++ vs2) := by
                    intro q v hv
                    rcases Nat.lt_or_ge q vs.length with hq | hq
                    · rw [List.getElem?_append_left hq] at hv
                      exact hmg.g.mF _ _ _ (hsl.has q v hv)
                    · rw [List.getElem?_append_right hq] at hv
                      have := hnew _ v hv
                      rw [hvl1] at hq this
                      rw [show l.length * sz3 + (q - l.length * sz3) = 0 + q by omega] at this
                      exact this
                  have hszs : ∀ y ∈ l ++ m, y.cells.length = sz3 := by
                    intro y hy
                    rcases List.mem_append.1 hy with hy | hy
                    · exact hszl y hy
                    · exact hszm y hy
                  have hp' := PRep.slice (F := F') (G := ρ'.G) (n := ρ'.n) (tag := .frz) (l := l ++ m) (b := b) (o := 0) (base := some ⟨b, 0, none⟩) (cap := cap) (sz := sz3) (vs := vs ++ vs2)
                    (by
                      rw [List.flatMap_append, hG, hn']
                      have hgr := hmg.g
                      rw [hG, hn'] at hgr
                      exact (hsl.cells.append hsl2.cells).grow hgr) hhas (fun _ => rfl) hszs (by
                      intro y hy
                      rw [List.flatMap_append] at hy
                      rcases List.mem_append.1 hy with hy | hy
                      · exact hsl.ones y hy
                      · exact hsl2.ones y hy) (by omega) hsl.hmax (.inl rfl)
                  rw [← hlen]
                  refine .cell (.loc hp' (by rw [hag']; exact Nat.le_refl _) ?_)
                  unfold OwnRow
                  have e : ρ'.A d (fr.tgen d + 1) = some (b, cap, sz3) := by rw [hA' k g rfl, hg]; exact hA
                  rw [e]
                  exact ⟨rfl, rfl, hszs⟩
                have hfin := hw2.put (d := some d) hd hval
                refine ⟨_, _, _, _, hrun, hK, ρ', F', R', ?_, ?_⟩
                · have e1 : ({ (grown fr d (.loc k g) l []) with tab := upd (grown fr d (.loc k g) l []).tab d (some (l.length + m.length)) } : Fr).put (some d) (.slice (.loc d (fr.tgen d + 1)) (l ++ m)) = grown fr d (.loc k g) l m := by
                    simp only [grown, Fr.put, upd_upd]
                  have e2 : (a.put (some d) (.slice (some ⟨b, 0, none⟩) l.length cap)).put (some d) (.slice (some ⟨b, 0, none⟩) (l.length + m.length) cap) = a.put (some d) (.slice (some ⟨b, 0, none⟩) (l.length + m.length) cap) := by
                    simp [Act.put]
                  rw [e1, e2] at hfin
                  exact hfin
                · rw [hG]
                  exact (hx.setRow (.inl t1) _).freeze fun b' j hb' => hother b' j (by omega)
          · -- a new row
            have hb0 : base = none → l.length = 0 ∧ cap = 0 := by
              rintro rfl
              have hl0 : l = [] := by
                rcases List.eq_nil_or_concat l with h' | ⟨_, _, h'⟩
                · exact h'
                · have := hsl.base (by rw [h']; simp)
                  cases this
              subst hl0
              refine ⟨rfl, ?_⟩
              rcases htag with ⟨_, hc⟩ | ⟨k, g, rfl, hg, ht, ho⟩
              · simpa using hc
              · unfold OwnRow at ho
                cases hA : ρ.A k g with
                | none => rw [hA] at ho; simpa using ho
                | some p =>
                  obtain ⟨b3, c3, sz3⟩ := p
                  rw [hA] at ho
                  cases ho.1
            have ho0 : ∀ ad, base = some ad → ∀ (j : Nat) (v : Value), vs[j]? = some v → w.cell? (ad.add j) = some v := by
              intro ad had j v hv
              have hl0 : l ≠ [] := by
                rintro rfl
                have : vs = [] := List.eq_nil_of_length_eq_zero (by rw [hvl1]; simp)
                subst this
                simp at hv
              have := hsl.base hl0
              rw [had] at this
              injection this with this
              subst this
              rw [Addr.add_lit]
              exact h.g.imm b _ v (hsl.has j v hv)
            obtain ⟨c', rest, r1, r2, r3, hrun⟩ := run_append_grow' w hap ty base l.length cap vs hvl1 hb0 ho0 ⟨b2, o2, none⟩ m.length cap2 vs2 hvl2 hnews (by omega) hlim
            have ha' := h.drew.alloc (.cells (vs ++ vs2 ++ rest).toArray e)
            have hsz0 : w.drew.heap.size = w.heap.size := rfl
            obtain ⟨ρ', R', hG, hw⟩ := ha'.claimArr (b := w.heap.size) (us := vs ++ vs2) (c := c') (sz := sz) (tag := tag) (l := l) (m := m) hdn h.B0le (h.rfresh _ (Nat.le_refl _)) (fun j => h.g.fresh _ j (Nat.le_refl _))
              (heap_alloc_new w.drew _) (by simpa using r3) (by omega) r1 r2 (by rw [List.length_append, hvl1, hvl2, Nat.add_mul]) (by
                intro j v hv
                have hj := (List.getElem?_eq_some_iff.1 hv).1
                simp only [List.getElem?_toArray]
                rw [List.getElem?_append_left hj]
                exact hv) (by rw [List.flatMap_append]; exact hsl.cells.append hsl2.cells) (by
                intro y hy
                rw [List.flatMap_append] at hy
                rcases List.mem_append.1 hy with hy | hy
                · exact hsl.ones y hy
                · exact hsl2.ones y hy) (by
                intro y hy
                rcases List.mem_append.1 hy with hy | hy
                · exact hszl y hy
                · exact hszm y hy)
            refine ⟨_, _, _, _, hrun, hK, ρ', _, R', hw, ?_⟩
            rw [hG]
            exact ((hx.drew.alloc h.B0le _).freeze fun b' j hb' => freezeF_other (by have := h.B0le; omega))
      · obtain ⟨rfl, hK⟩ := hK
        refine ⟨_, _, _, _, run_append_none w hap ty base l.length cap hsl.hcap _ ⟨base2, cap2, rfl⟩, hK, ρ, F, R, ?_, hx⟩
        exact h.put hd (.p hpfrz)
    · exact hK.elim
  · exact hK.elim

end
end Go.Abs
