/-
  LexisDoes: both forms agree on all texts and tokens.
-/
import Derived.Test.YtooibjkhgdpnaaaDoorXo
set_option linter.unusedSimpArgs false
set_option linter.unusedVariables false
namespace Go.Mdl
open Go

theorem ref14_Tokens_eq (s : ByteArray) : ref14_Tokens s = some (tokensB (bs s)) := by
  unfold ref14_Tokens tokensB
  rw [slen_eq]
  by_cases h0 : 8192 < (bs s).length
  · rw [if_pos (by rw [igt_iff]; omega), if_pos h0]
  rw [if_neg (by rw [igt_iff]; omega), if_neg h0]
  simp only [joinB_eq]
  refine cut_use (bs s) (by omega) (fun acc i hi hacc => ?_) ?_
  · simp only [un2, ilt_iff]
    unfold cutStep
    by_cases hlt : i < (bs s).length
    · rw [if_pos (by omega), sget_eq, List.getElem?_eq_getElem hlt]
      generalize hb : (bs s)[i] = b
      have hdrop : (bs s).drop i = b :: (bs s).drop (i + 1) := by rw [List.drop_eq_getElem_cons hlt, hb]
      have hadd : iadd .i64 (i : Int) 1 = ((i + 1 : Nat) : Int) := by rw [iadd_in (by omega) (by omega)]; omega
      have e32 : ieq (b.toNat : Int) 32 = decide (b = 32) := ieq_byte b 32 (by decide)
      have e10 : ieq (b.toNat : Int) 10 = decide (b = 10) := ieq_byte b 10 (by decide)
      have e40 : ieq (b.toNat : Int) 40 = decide (b = 40) := ieq_byte b 40 (by decide)
      have e41 : ieq (b.toNat : Int) 41 = decide (b = 41) := ieq_byte b 41 (by decide)
      simp only [Option.map_some, bind1_of, e32, e10, e40, e41, decide_eq_true_iff, hadd, lapp_eq]
      by_cases c0 : b = 32
      · rw [if_pos c0, if_pos trivial, if_pos (.inl c0)]
      rw [if_neg c0]
      by_cases c1 : b = 10
      · rw [if_pos c1, if_pos (.inr c1)]
      rw [if_neg c1, if_neg (show ¬ (b = 32 ∨ b = 10) from fun h => h.elim c0 c1)]
      by_cases c2 : b = 40
      · rw [if_pos c2, if_pos c2, okApp_of (by simp only [List.length_cons, List.length_nil]; omega), chk_true]
      rw [if_neg c2, if_neg c2]
      by_cases c3 : b = 41
      · rw [if_pos c3, if_pos c3, okApp_of (by simp only [List.length_cons, List.length_nil]; omega), chk_true]
      rw [if_neg c3, if_neg c3]
      refine word_use s i (by omega) (by omega) (fun k => ?_) ?_
      · by_cases hk : k < (bs s).length
        · rw [if_pos (by omega), sget_eq, List.getElem?_eq_getElem hk]
          simp only [Option.map_some, bind1_of, refletter_eq, refdigit_eq]
          unfold isW
          have hk1 : iadd .i64 (k : Int) 1 = ((k + 1 : Nat) : Int) := by rw [iadd_in (by omega) (by omega)]; omega
          rw [hk1]
          cases isL (bs s)[k] <;> cases isD (bs s)[k] <;> simp
        · rw [if_neg (by omega), List.getElem?_eq_none (by omega)]
          simp
      · simp only [sumK_inl]
        have hlen := takeWhile_len isW ((bs s).drop i)
        rw [List.length_drop] at hlen
        have htw : ((bs s).take (i + (((bs s).drop i).takeWhile isW).length)).drop i = ((bs s).drop i).takeWhile isW := by
          rw [List.drop_take, Nat.add_sub_cancel_left]
          exact (List.prefix_iff_eq_take.1 (List.takeWhile_prefix isW)).symm
        by_cases hnil : ((bs s).drop i).takeWhile isW = []
        · rw [hnil, wordB_nil, if_pos (by rw [ieq_iff]; simp)]
        have hpos : 0 < (((bs s).drop i).takeWhile isW).length := List.length_pos_iff.2 hnil
        rw [if_neg (by rw [ieq_iff]; omega)]
        obtain ⟨w, e1, e2⟩ := sslice_eq s i (i + (((bs s).drop i).takeWhile isW).length) (by omega) (by omega)
        rw [htw] at e2
        rw [e1, bind1_of]
        obtain ⟨t, e3, e4⟩ := ref14_word_eq w i (by rw [e2]; exact hnil) (by rw [e2]; omega)
        rw [e3, bind2_of]
        rw [e2] at e4 ⊢
        cases hw : wordB i (((bs s).drop i).takeWhile isW) with
        | none => simp
        | some u =>
          obtain rfl := e4 u hw
          simp only [Option.isSome_some, if_true]
          rw [okApp_of (by simp only [List.length_cons, List.length_nil]; omega), chk_true]
    · rw [if_neg (by omega), List.getElem?_eq_none (by omega)]
  · cases hs : scan 0 (bs s) with
    | none => rfl
    | some ts =>
      simp only [sumK_inl, un2, llen_eq, igt_iff]
      by_cases hc : 2048 < ts.length
      · rw [if_pos (by omega), if_pos hc]
      · rw [if_neg (by omega), if_neg hc]

theorem wordB_num {i : Nat} {l : List UInt8} {t : Tkn} (h : wordB i l = some t) : 0 ≤ t.num ∧ t.num ≤ 999999 := by
  unfold wordB at h
  split at h
  · rw [← Option.some.inj h]; show (0 : Int) ≤ 0 ∧ (0 : Int) ≤ 999999; omega
  · split at h
    · rename_i n hn
      have := numB_lt hn
      rw [← Option.some.inj h]
      show (0 : Int) ≤ (n : Int) ∧ (n : Int) ≤ 999999
      omega
    · split at h
      · cases hn : numB l.tail with
        | none => rw [hn] at h; cases h
        | some n =>
          have := numB_lt hn
          rw [hn] at h
          rw [← Option.some.inj h]
          show (0 : Int) ≤ (n : Int) ∧ (n : Int) ≤ 999999
          omega
      · cases h

theorem scanF_num : ∀ (f i : Nat) (l : List UInt8) (ts : List Tkn), scanF f i l = some ts → ∀ t ∈ ts, 0 ≤ t.num ∧ t.num ≤ 999999
  | f, i, [], ts, h, t, ht => by
    cases f <;> (simp only [scanF] at h; rw [← Option.some.inj h] at ht; cases ht)
  | 0, i, b :: r, ts, h, t, ht => by
    simp only [scanF] at h; rw [← Option.some.inj h] at ht; cases ht
  | f + 1, i, b :: r, ts, h, t, ht => by
    have one : ∀ {o : Option (List Tkn)} {x : Tkn}, (0 ≤ x.num ∧ x.num ≤ 999999) → (∀ us, o = some us → ∀ t ∈ us, 0 ≤ t.num ∧ t.num ≤ 999999) → o.map (x :: ·) = some ts → 0 ≤ t.num ∧ t.num ≤ 999999 := by
      intro o x hx ho h
      cases o with
      | none => cases h
      | some us =>
        have := Option.some.inj h
        rw [← this] at ht
        rcases List.mem_cons.1 ht with rfl | ht
        · exact hx
        · exact ho us rfl t ht
    simp only [scanF] at h
    split at h
    · exact scanF_num f _ _ ts h t ht
    split at h
    · exact one (show (0 : Int) ≤ 0 ∧ (0 : Int) ≤ 999999 by omega) (fun us hu => scanF_num f _ _ us hu) h
    split at h
    · exact one (show (0 : Int) ≤ 0 ∧ (0 : Int) ≤ 999999 by omega) (fun us hu => scanF_num f _ _ us hu) h
    split at h
    · cases h
    · rename_i x hx
      exact one (wordB_num hx) (fun us hu => scanF_num f _ _ us hu) h

theorem tokensB_num (l : List UInt8) : ∀ t ∈ (tokensB l).1, 0 ≤ t.num ∧ t.num ≤ 999999 := by
  unfold tokensB
  split
  · intro t ht; cases ht
  · split
    · intro t ht; cases ht
    · rename_i ts hs
      split
      · intro t ht; cases ht
      · exact scanF_num _ _ _ ts hs
theorem tokensB_len (l : List UInt8) : (tokensB l).1.length ≤ 2048 := by
  unfold tokensB
  split
  · simp
  · split
    · simp
    · split
      · simp
      · simp only; omega

theorem eqB_self (x : Tkn) : Tkn.eqB x x = true := by simp [Tkn.eqB, ieq_iff, seq_iff]
theorem law14_same_self (l : List Tkn) (h : l.length ≤ 1000000) : law14_same l l = some true := by
  unfold law14_same
  rw [if_neg (by rw [ine_iff]; simp), okLen_of (by omega), chk_true]
  simp only [joinB_eq]
  refine forR_useI (fun i x hx => ?_) rfl
  rw [lget_ofNat, hx, bind1_of, if_pos (eqB_self x)]

theorem forR_twoB {F : Int → Tkn → Unit → Option (Ctl Unit Bool)} (p : Tkn → Tkn → Bool) (M : List Tkn) : ∀ (l : List Tkn) (i : Nat) (m : List Tkn), m = M.drop i → l.length = m.length →
    (∀ (k : Nat) x y, M[k]? = some y → F (k : Int) x () = some (if p x y = true then .next () else .ret false)) →
    forR F l i () = some (if all2B p l m = true then .inl () else .inr false)
  | [], i, m, hm, hl, hF => by
    have : m = [] := List.eq_nil_of_length_eq_zero hl.symm
    subst this
    rfl
  | x :: l, i, [], hm, hl, hF => by simp at hl
  | x :: l, i, y :: m, hm, hl, hF => by
    have hy : M[i]? = some y := by
      have : (M.drop i)[0]? = some y := by rw [← hm]; rfl
      simpa using this
    have hm' : m = M.drop (i + 1) := by
      rw [← List.tail_drop, ← hm]; rfl
    rw [forR_cons, hF i x y hy]
    by_cases hp : p x y = true
    · rw [if_pos hp]
      simp only [bind1_of, ctlK_next]
      rw [forR_twoB p M l (i + 1) m hm' (by simpa using hl) hF]
      simp [all2B, hp]
    · rw [if_neg hp]
      simp [all2B, hp]

theorem ref14_Same_eq (a b : List Tkn) (ha : a.length ≤ 1000000) : ref14_Same a b = some (decide (a.length = b.length) && all2B sameT a b) := by
  unfold ref14_Same
  simp only [llen_eq, ine_iff, joinB_eq]
  by_cases h : (a.length : Int) ≠ (b.length : Int)
  · rw [if_pos h, decide_eq_false (by omega), Bool.false_and]
  · rw [if_neg h, okLen_of (by omega), chk_true]
    have hl : a.length = b.length := by omega
    rw [forR_twoB sameT b a 0 b rfl hl (fun k x y hy => ?_)]
    · rw [bind1_of, decide_eq_true hl, Bool.true_and]
      by_cases hq : all2B sameT a b = true
      · rw [if_pos hq, hq]; rfl
      · rw [if_neg hq]
        have : all2B sameT a b = false := by simpa using hq
        rw [this]; rfl
    · rw [lget_ofNat, hy, bind1_of]
      by_cases hs : sameT x y = true
      · obtain ⟨h1, h2, h3⟩ := (sameT_iff x y).1 hs
        rw [if_pos hs, if_neg (fun hh => hh h1), if_neg (fun hh => hh h2), if_neg (by rw [sne_eq, (seq_iff _ _).2 h3]; decide)]
      · rw [if_neg hs]
        by_cases h1 : x.kind = y.kind
        · rw [if_neg (fun hh => hh h1)]
          by_cases h2 : x.num = y.num
          · rw [if_neg (fun hh => hh h2)]
            have h3 : seq x.text y.text = false := by
              cases hq : seq x.text y.text with
              | false => rfl
              | true => exact absurd ((sameT_iff x y).2 ⟨h1, h2, (seq_iff _ _).1 hq⟩) hs
            rw [sne_eq, h3, if_pos (by decide)]
          · rw [if_pos h2, if_pos trivial]
        · rw [if_pos h1, if_pos trivial]

def inR (t : Tkn) : Prop := -9223372036854775808 ≤ t.num ∧ t.num ≤ 9223372036854775807

theorem law_LexisDoes (t : List Int) (s : ByteArray) (l : List Tkn) (hr : ∀ x ∈ l, inR x) : law14_LexisDoes t s l = some true := by
  unfold law14_LexisDoes
  rw [sane_eq, bind1_of, if_pos rfl]
  simp only [mk_Few, bind1_of, joinB_eq]
  by_cases h1 : (t.length : Int) ≤ 500
  rotate_left
  · rw [if_neg (show ¬ ile (llen t) 500 = true by rw [ile_iff]; exact h1), if_pos trivial]
  rw [if_pos (show ile (llen t) 500 = true by rw [ile_iff]; exact h1)]
  by_cases h2 : 12000 < (bs s).length
  · rw [if_pos (show igt (slen s) 12000 = true by rw [igt_iff, slen_eq]; omega), if_pos trivial]
  rw [if_neg (show ¬ igt (slen s) 12000 = true by rw [igt_iff, slen_eq]; omega)]
  by_cases h3 : 3000 < l.length
  · rw [if_pos (show igt (llen l) 3000 = true by rw [igt_iff, llen_eq]; omega)]
  rw [if_neg (show ¬ igt (llen l) 3000 = true by rw [igt_iff, llen_eq]; omega)]
  simp only [mk_New, bind1_of]
  obtain ⟨L, d1, e1, hL, hne, hv, w1⟩ := law14_text_eq ⟨t, 0⟩ ⟨by show t.length ≤ 1000; omega, by show (0 : Int) ≤ 0; omega, by show (0 : Int) ≤ t.length; omega⟩
  obtain ⟨u, u1, u2, u3, u4⟩ := tokens_text L hv (by omega)
  rw [e1, bind2_of, u2]
  simp only
  have hu0 : u ≠ [] := by
    rintro rfl
    have h5 : tokensB [] = ([], 0) := rfl
    rw [h5] at u4
    have h6 : placed 0 none L = [] := (Prod.mk.inj u4).1.symm
    have h7 := placed_len L none 0
    rw [h6] at h7
    exact hne (List.eq_nil_of_length_eq_zero h7.symm)
  have hul : 0 < u.length := List.length_pos_iff.2 hu0
  have hbs : bs ⟨u.toArray⟩ = u := bs_mk u
  have hby : law14_bytes ⟨u.toArray⟩ = some (u.map fun b => (b.toNat : Int)) := by
    unfold law14_bytes
    have hsz : (⟨u.toArray⟩ : ByteArray).size = u.length := by rw [bs_size, hbs]
    rw [if_neg (by rw [hsz]; omega)]
  rw [hby, bind1_of]
  obtain ⟨i, d2, e2, i0, i1, w2⟩ := next_ok d1 w1 (llen (u.map fun b => (b.toNat : Int))) (by rw [llen_eq]; simp; omega) (by rw [llen_eq]; simp; omega)
  rw [e2, bind2_of]
  rw [llen_eq, List.length_map] at i1
  obtain ⟨j, d3, e3, j0, j1, w3⟩ := next_ok d2 w2 10 (by omega) (by omega)
  rw [e3, bind2_of]
  obtain ⟨c, hc, _⟩ := lget_some (l := ([32, 10, 40, 41, 48, 57, 97, 120, 65, 0] : List Int)) j0 (by simpa using j1)
  rw [hc, bind1_of]
  have hsb : law14_setB (u.map fun b => (b.toNat : Int)) i (conv .u8 c) = some ((u.map fun b => (b.toNat : Int)).set i.toNat (conv .u8 c)) := by
    unfold law14_setB
    rw [if_pos ⟨i0, by rw [List.length_map]; omega⟩]
  rw [hsb, bind1_of, ref14_Tokens_eq, hbs, u4, bind2_of]
  have hpl := placed_len L none 0
  have hLpos : 0 < L.length := List.length_pos_iff.2 hne
  obtain ⟨m, d4, e4, m0, m1, w4⟩ := next_ok d3 w3 (llen (placed 0 none L)) (by rw [llen_eq, hpl]; omega) (by rw [llen_eq, hpl]; omega)
  rw [e4, bind2_of]
  rw [llen_eq, hpl] at m1
  obtain ⟨v, d5, e5, v0, v1, w5⟩ := next_ok d4 w4 3 (by omega) (by omega)
  rw [e5, bind2_of]
  obtain ⟨x, hx⟩ : ∃ x, (placed 0 none L)[m.toNat]? = some x := ⟨_, List.getElem?_eq_getElem (by rw [hpl]; omega)⟩
  have hst : law14_setT (placed 0 none L) m v = some ((placed 0 none L).set m.toNat (Tkn.mk x.kind v x.atF x.text)) := by
    unfold law14_setT
    rw [if_pos m0, hx]
  rw [hst, bind1_of]
  generalize hG : (placed 0 none L).set m.toNat (Tkn.mk x.kind v x.atF x.text) = G
  have hGr : ∀ y ∈ G, inR y := by
    intro y hy
    rw [← hG] at hy
    rcases List.mem_or_eq_of_mem_set hy with hy | rfl
    · have h8 := tokensB_num u
      rw [u4] at h8
      have := h8 y hy
      unfold inR
      omega
    · show -9223372036854775808 ≤ v ∧ v ≤ 9223372036854775807
      omega
  have hGl : G.length ≤ 100 := by rw [← hG, List.length_set, hpl]; omega
  rw [okCat_of (by rw [hbs]; omega), chk_true, okLen_of (by simp), chk_true]
  refine forR_use (fun i y _ => ?_) rfl
  rw [lexis_Tokens_eq, bind2_pair, ref14_Tokens_eq, bind2_pair, if_neg (by rw [ine_iff]; simp), law14_same_self _ (by have := tokensB_len (bs y); omega), bind1_of, if_pos rfl, lexis_Name_eq, bind1_of, ref14_Name_eq, bind1_of]
  rw [if_neg (by cases nameB (bs y) <;> decide), okLen_of (by simp), chk_true]
  have hq : ∀ z ∈ (tokensB (bs y)).1, inR z := fun z hz => by
    have := tokensB_num (bs y) z hz
    unfold inR
    omega
  have hql := tokensB_len (bs y)
  generalize (tokensB (bs y)).1 = q at hq hql
  refine forR_use (fun i z hz => ?_) rfl
  have hzr : (∀ x ∈ z, inR x) ∧ z.length ≤ 3000 := by
    simp only [List.mem_cons, List.mem_nil_iff, or_false] at hz
    rcases hz with rfl | rfl | rfl
    · exact ⟨hr, by omega⟩
    · exact ⟨hq, by omega⟩
    · exact ⟨hGr, by omega⟩
  rw [lexis_Text_eq z hzr.1, bind2_pair, ref14_Text_eq, bind2_pair, if_neg (by rw [sne_eq, (seq_iff _ _).2 rfl]; decide), if_neg (by rw [ine_iff]; simp), lexis_Same_eq z q (by omega), bind1_of, ref14_Same_eq z q (by omega), bind1_of]
  rw [if_neg (by cases (decide (z.length = q.length) && all2B sameT z q) <;> decide)]
end Go.Mdl
