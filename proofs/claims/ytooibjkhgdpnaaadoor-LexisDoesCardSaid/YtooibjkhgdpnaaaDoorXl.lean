/-
  LexisPlaces: the law.
-/
import Derived.Test.YtooibjkhgdpnaaaDoorXj
set_option linter.unusedSimpArgs false
set_option linter.unusedVariables false
namespace Go.Mdl
open Go

theorem draw_use2 {x : Int} {d : Smk_Deck} {F : List Tkn × Int × Smk_Deck → Option (Ctl (List Tkn × Int × Smk_Deck) (ByteArray × Smk_Deck))} {k : (List Tkn × Int × Smk_Deck) ⊕ ByteArray × Smk_Deck → Option (ByteArray × Smk_Deck)}
    {Q : Option (ByteArray × Smk_Deck) → Prop} (V : Tkn → Prop) (h0 : 0 ≤ x) (h1 : x < 12) (hd : d.wf)
    (hF : ∀ (L : List Tkn) (y : Int) (d : Smk_Deck), L.length ≤ 12 → -1 ≤ y → y < 12 → d.wf → (y < 0 → F (L, y, d) = some (.brk (L, y, d))) ∧ (0 ≤ y → ∃ (t : Tkn) (d' : Smk_Deck), V t ∧ d'.wf ∧ F (L, y, d) = some (.next (L ++ [t], y - 1, d'))))
    (hk : ∀ (L : List Tkn) (y : Int) (d : Smk_Deck), L.length ≤ 12 → L ≠ [] → (∀ t ∈ L, V t) → d.wf → Q (k (.inl (L, y, d)))) : Q (bind1 (loopN F FU ([], x, d)) k) := by
  obtain ⟨o, h2, h3⟩ := loopN_inv (F := F) (fun st => -1 ≤ st.2.1 ∧ st.2.1 < 12 ∧ (st.1.length : Int) + st.2.1 = x ∧ st.2.2.wf ∧ ∀ t ∈ st.1, V t) (fun st => (st.2.1 + 1).toNat) (fun o => Q (k o)) (by
      rintro ⟨L, y, d⟩ ⟨a1, a2, a3, a4, a5⟩
      simp only at a1 a2 a3 a4 a5
      obtain ⟨b1, b2⟩ := hF L y d (by omega) a1 a2 a4
      by_cases hy : y < 0
      · exact .inr (.inl ⟨_, b1 hy, hk L y d (by omega) (by rintro rfl; simp at a3; omega) a5 a4⟩)
      · obtain ⟨t, d', c0, c1, c2⟩ := b2 (by omega)
        refine .inl ⟨_, c2, ⟨by simp only; omega, by simp only; omega, ?_, c1, ?_⟩, by simp only; omega⟩
        · simp only [List.length_append, List.length_cons, List.length_nil]
          omega
        · intro z hz
          rcases List.mem_append.1 hz with hz | hz
          · exact a5 z hz
          · rw [List.mem_singleton.1 hz]; exact c0)
    FU ([], x, d) ⟨by simp only; omega, h1, by simp, hd, by simp⟩ (FU_lt (by simp only; omega))
  rw [h2, bind1_of]
  exact h3

theorem law14_text_eq (d : Smk_Deck) (hd : d.wf) : ∃ L d', law14_text d = some ((textB L).1, d') ∧ L.length ≤ 12 ∧ L ≠ [] ∧ (∀ t ∈ L, (tokB t).isSome = true) ∧ d'.wf := by
  unfold law14_text
  obtain ⟨x, d1, e1, x0, x1, dw⟩ := next_ok d hd 12 (by omega) (by omega)
  rw [e1, bind2_of]
  simp only [joinB_eq]
  refine draw_use2 (Q := fun o => ∃ L d', o = some ((textB L).1, d') ∧ L.length ≤ 12 ∧ L ≠ [] ∧ (∀ t ∈ L, (tokB t).isSome = true) ∧ d'.wf) (fun t => (tokB t).isSome = true) x0 x1 dw (fun L y d hL hy hy2 hd => ⟨fun hneg => ?_, fun hpos => ?_⟩) (fun L y d hL hne hv hd => ?_)
  · simp only [un3, ige_iff]
    rw [if_neg (by omega)]
  · simp only [un3, ige_iff]
    rw [if_pos hpos]
    obtain ⟨z, d2, e2, z0, z1, dw2⟩ := next_ok d hd 5 (by omega) (by omega)
    rw [e2, bind2_of]
    have ok : ∀ t : Tkn, okApp L [t] = true := fun t => okApp_of (by simp only [List.length_cons, List.length_nil]; omega)
    have hsub : isub .i64 y 1 = y - 1 := isub_in (by omega) (by omega)
    have hz : iadd .i64 1 z = 1 + z := iadd_in (by omega) (by omega)
    simp only [hsub, ok, chk_true, lapp_eq, hz, ieq_iff, sel_or, Bool.or_eq_true]
    by_cases h3 : 1 + z = 3
    · rw [if_pos h3]
      obtain ⟨q, d3, e3, q0, q1, dw3⟩ := next_ok d2 dw2 7 (by omega) (by omega)
      rw [e3, bind2_of]
      obtain ⟨n, hn, hmem⟩ := lget_some (l := [(ByteArray.mk #[115, 117, 99, 99]), (ByteArray.mk #[108, 97, 109]), (ByteArray.mk #[110, 97, 116]), (ByteArray.mk #[120]), (ByteArray.mk #[112, 97, 105, 114]), (ByteArray.mk #[101, 113]), (ByteArray.mk #[97, 98, 99, 100, 101, 102, 103, 104, 105, 106, 107, 108, 109, 110, 111, 112])]) q0 (by simpa using q1)
      rw [hn, bind1_of]
      refine ⟨_, _, ?_, dw3, rfl⟩
      have hname : nameB (bs n) = true := by
        simp only [List.mem_cons, List.mem_nil_iff, or_false] at hmem
        rcases hmem with rfl | rfl | rfl | rfl | rfl | rfl | rfl <;> decide
      unfold tokB
      rw [h3, if_neg (show ¬ (3 : Int) = 1 by decide), if_neg (show ¬ (3 : Int) = 2 by decide), if_pos rfl, if_pos ⟨rfl, hname⟩]
      rfl
    · rw [if_neg h3]
      by_cases h4 : 1 + z = 4 ∨ 1 + z = 5
      · rw [if_pos h4]
        obtain ⟨q, d3, e3, q0, q1, dw3⟩ := next_ok d2 dw2 6 (by omega) (by omega)
        rw [e3, bind2_of]
        obtain ⟨n, hn, hmem⟩ := lget_some (l := ([0, 1, 7, 12, 305, 999999] : List Int)) q0 (by simpa using q1)
        rw [hn, bind1_of]
        refine ⟨_, _, ?_, dw3, rfl⟩
        have hr : 0 ≤ n ∧ n ≤ 999999 := by
          simp only [List.mem_cons, List.mem_nil_iff, or_false] at hmem
          omega
        unfold tokB
        simp only
        rw [if_neg (by omega), if_neg (by omega), if_neg (by omega), if_pos h4, if_pos ⟨hr, rfl⟩]
        rfl
      · rw [if_neg h4]
        refine ⟨_, _, ?_, dw2, rfl⟩
        unfold tokB
        simp only
        by_cases h1 : 1 + z = 1
        · rw [if_pos h1, if_pos ⟨trivial, rfl⟩]; rfl
        · rw [if_neg h1, if_pos (by omega), if_pos ⟨trivial, rfl⟩]; rfl
  · simp only [sumK_inl, un3]
    rw [ref14_Text_eq, bind2_of]
    exact ⟨L, _, rfl, hL, hne, hv, hd⟩

theorem sslice_take (s : ByteArray) (n m : Nat) (h : n + m ≤ (bs s).length) : ∃ t, sslice s (n : Int) ((n + m : Nat) : Int) = some t ∧ bs t = ((bs s).drop n).take m := by
  obtain ⟨t, e1, e2⟩ := sslice_eq s n (n + m) (by omega) h
  refine ⟨t, e1, ?_⟩
  rw [e2, List.drop_take, Nat.add_sub_cancel_left]

theorem law_LexisPlaces (t : List Int) : law14_LexisPlaces t = some true := by
  unfold law14_LexisPlaces
  rw [sane_eq, bind1_of, if_pos rfl]
  simp only [mk_Few, bind1_of, joinB_eq]
  by_cases h1 : (t.length : Int) ≤ 500
  · rw [if_pos (show ile (llen t) 500 = true by rw [ile_iff]; exact h1)]
    simp only [mk_New, bind1_of]
    obtain ⟨L, d', e1, hL, hne, hv, _⟩ := law14_text_eq ⟨t, 0⟩ ⟨by show t.length ≤ 1000; omega, by show (0 : Int) ≤ 0; omega, by show (0 : Int) ≤ t.length; omega⟩
    obtain ⟨u, u1, u2, u3, u4⟩ := tokens_text L hv (by omega)
    rw [e1, bind2_of, u2, lexis_Tokens_eq, bs_mk, u4, bind2_of]
    obtain ⟨t0, L', hL'⟩ : ∃ t0 L', L = t0 :: L' := by cases L with | nil => exact absurd rfl hne | cons a b => exact ⟨a, b, rfl⟩
    have hp0 : (placed 0 none L)[0]? = some ⟨t0.kind, t0.num, 0, t0.text⟩ := by rw [hL']; rfl
    have hpl := placed_len L none 0
    rw [if_neg (by decide), if_neg (by rw [ieq_iff, llen_eq, hpl, hL']; simp only [List.length_cons]; omega), lget_zero, hp0, bind1_of, if_neg (show ¬ ine 0 0 = true by decide),
      okLen_of (by rw [hpl]; omega), chk_true]
    refine forR_useI (fun i x hx => ?_) rfl
    obtain ⟨n, w, a1, a2, _, a4, a5⟩ := place_ok L none 0 u u1 i x hx
    rw [Nat.sub_zero] at a4 a5
    have htw : tokB ⟨x.kind, x.num, 0, x.text⟩ = some w := a2
    have htext : lexis_Text [⟨x.kind, x.num, 0, x.text⟩] = some (⟨w.toArray⟩, 0) := by
      rw [lexis_Text_eq _ (fun y hy => ?_)]
      · unfold textB
        rw [if_neg (by simp)]
        unfold textGo
        rw [htw]
        simp [textGo, gap]
      · rw [List.mem_singleton.1 hy]
        have hb := tokB_num htw
        simp only at hb ⊢
        omega
    have hwl := tokB_len htw
    rw [htext, bind2_of, if_neg (by decide), if_neg (by rw [ilt_iff, a1]; omega)]
    have hadd : iadd .i64 x.atF (slen (⟨w.toArray⟩ : ByteArray)) = ((n + w.length : Nat) : Int) := by
      rw [slen_eq, bs_mk, a1, iadd_in (by omega) (by omega)]; omega
    rw [hadd, if_neg (by rw [igt_iff, slen_eq, bs_mk]; omega), a1]
    obtain ⟨v, b1, b2⟩ := sslice_take ⟨u.toArray⟩ n w.length (by rw [bs_mk]; exact a4)
    rw [bs_mk] at b2
    have b2 : bs v = w := b2.trans a5
    rw [b1, bind1_of, if_neg (by rw [sne_eq, show seq v ⟨w.toArray⟩ = true by rw [seq_iff]; exact bs_inj (b2.trans (bs_mk w).symm)]; decide)]
    by_cases hi : i = 0
    · rw [if_neg (by rw [igt_iff]; omega), if_neg (by decide)]
    · rw [if_pos (by rw [igt_iff]; omega), isub_in (by have := hpl; have := (List.getElem?_eq_some_iff.1 hx).1; omega) (by have := (List.getElem?_eq_some_iff.1 hx).1; omega), show (i : Int) - 1 = ((i - 1 : Nat) : Int) by omega, lget_ofNat]
      have hlt := (List.getElem?_eq_some_iff.1 hx).1
      obtain ⟨q, hq⟩ : ∃ q, (placed 0 none L)[i - 1]? = some q := ⟨_, List.getElem?_eq_getElem (by omega)⟩
      rw [hq, bind1_of]
      have := place_lt L none 0 u u1 (i - 1) q x hq (by rw [show i - 1 + 1 = i by omega]; exact hx)
      rw [if_neg (by rw [ile_iff]; omega)]
  · rw [if_neg (show ¬ ile (llen t) 500 = true by rw [ile_iff]; exact h1)]
end Go.Mdl
