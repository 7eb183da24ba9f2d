/-
  LexisJoins: the law.
-/
import Derived.Test.YtooibjkhgdpnaaaDoorXf
set_option linter.unusedSimpArgs false
set_option linter.unusedVariables false
namespace Go.Mdl
open Go

theorem textB_len (l : List Tkn) : (bs (textB l).1).length ≤ 17 * 2048 := by
  unfold textB
  split
  · exact Nat.zero_le _
  · rename_i h
    cases hu : textGo none l with
    | none => exact Nat.zero_le _
    | some u =>
      simp only [bs_mk]
      have := textGo_len l none u hu
      omega

theorem draw_use {x : Int} {d : Smk_Deck} {F : List Tkn × Int × Smk_Deck → Option (Ctl (List Tkn × Int × Smk_Deck) (ByteArray × Smk_Deck))} {k : (List Tkn × Int × Smk_Deck) ⊕ ByteArray × Smk_Deck → Option (ByteArray × Smk_Deck)}
    {Q : Option (ByteArray × Smk_Deck) → Prop} (h0 : 0 ≤ x) (h1 : x < 12) (hd : d.wf)
    (hF : ∀ (L : List Tkn) (y : Int) (d : Smk_Deck), L.length ≤ 12 → -1 ≤ y → y < 12 → d.wf → (y < 0 → F (L, y, d) = some (.brk (L, y, d))) ∧ (0 ≤ y → ∃ (t : Tkn) (d' : Smk_Deck), d'.wf ∧ F (L, y, d) = some (.next (L ++ [t], y - 1, d'))))
    (hk : ∀ (L : List Tkn) (y : Int) (d : Smk_Deck), L.length ≤ 12 → d.wf → Q (k (.inl (L, y, d)))) : Q (bind1 (loopN F FU ([], x, d)) k) := by
  obtain ⟨o, h2, h3⟩ := loopN_inv (F := F) (fun st => -1 ≤ st.2.1 ∧ st.2.1 < 12 ∧ (st.1.length : Int) + st.2.1 ≤ 11 ∧ st.2.2.wf) (fun st => (st.2.1 + 1).toNat) (fun o => Q (k o)) (by
      rintro ⟨L, y, d⟩ ⟨a1, a2, a3, a4⟩
      simp only at a1 a2 a3 a4
      obtain ⟨b1, b2⟩ := hF L y d (by omega) a1 a2 a4
      by_cases hy : y < 0
      · exact .inr (.inl ⟨_, b1 hy, hk L y d (by omega) a4⟩)
      · obtain ⟨t, d', c1, c2⟩ := b2 (by omega)
        refine .inl ⟨_, c2, ⟨by simp only; omega, by simp only; omega, ?_, c1⟩, by simp only; omega⟩
        simp only [List.length_append, List.length_cons, List.length_nil]
        omega)
    FU ([], x, d) ⟨by simp only; omega, h1, by simp only [List.length_nil]; omega, hd⟩ (FU_lt (by simp only; omega))
  rw [h2, bind1_of]
  exact h3

theorem law14_text_some (d : Smk_Deck) (hd : d.wf) : ∃ s d', law14_text d = some (s, d') ∧ (bs s).length ≤ 17 * 2048 ∧ d'.wf := by
  unfold law14_text
  obtain ⟨x, d1, e1, x0, x1, dw⟩ := next_ok d hd 12 (by omega) (by omega)
  rw [e1, bind2_of]
  simp only [joinB_eq]
  refine draw_use (Q := fun o => ∃ s d', o = some (s, d') ∧ (bs s).length ≤ 17 * 2048 ∧ d'.wf) x0 x1 dw (fun L y d hL hy hy2 hd => ⟨fun hneg => ?_, fun hpos => ?_⟩) (fun L y d hL hd => ?_)
  · simp only [un3, ige_iff]
    rw [if_neg (by omega)]
  · simp only [un3, ige_iff]
    rw [if_pos hpos]
    obtain ⟨z, d2, e2, z0, z1, dw2⟩ := next_ok d hd 5 (by omega) (by omega)
    rw [e2, bind2_of]
    have ok : ∀ t : Tkn, okApp L [t] = true := fun t => okApp_of (by simp only [List.length_cons, List.length_nil]; omega)
    have hsub : isub .i64 y 1 = y - 1 := isub_in (by omega) (by omega)
    simp only [hsub, ok, chk_true, lapp_eq]
    split
    · obtain ⟨q, d3, e3, q0, q1, dw3⟩ := next_ok d2 dw2 7 (by omega) (by omega)
      rw [e3, bind2_of]
      obtain ⟨n, hn, _⟩ := lget_some (l := [(ByteArray.mk #[115, 117, 99, 99]), (ByteArray.mk #[108, 97, 109]), (ByteArray.mk #[110, 97, 116]), (ByteArray.mk #[120]), (ByteArray.mk #[112, 97, 105, 114]), (ByteArray.mk #[101, 113]), (ByteArray.mk #[97, 98, 99, 100, 101, 102, 103, 104, 105, 106, 107, 108, 109, 110, 111, 112])]) q0 (by simpa using q1)
      rw [hn, bind1_of]
      exact ⟨_, _, dw3, rfl⟩
    · split
      · obtain ⟨q, d3, e3, q0, q1, dw3⟩ := next_ok d2 dw2 6 (by omega) (by omega)
        rw [e3, bind2_of]
        obtain ⟨n, hn, _⟩ := lget_some (l := ([0, 1, 7, 12, 305, 999999] : List Int)) q0 (by simpa using q1)
        rw [hn, bind1_of]
        exact ⟨_, _, dw3, rfl⟩
      · exact ⟨_, _, dw2, rfl⟩
  · simp only [sumK_inl, un3]
    rw [ref14_Text_eq, bind2_of]
    exact ⟨_, _, rfl, textB_len L, hd⟩

theorem law_LexisJoins (t : List Int) (s u : ByteArray) (ls : (bs s).length ≤ 140737488355328) (lu : (bs u).length ≤ 140737488355328) : law14_LexisJoins t s u = some true := by
  unfold law14_LexisJoins
  rw [sane_eq, bind1_of, if_pos rfl]
  simp only [mk_Few, bind1_of, joinB_eq]
  by_cases h1 : (t.length : Int) ≤ 500
  · rw [if_pos (show ile (llen t) 500 = true by rw [ile_iff]; exact h1)]
    have hadd : iadd .i64 (slen s) (slen u) = ((bs s).length : Int) + (bs u).length := by rw [slen_eq, slen_eq, iadd_in (by omega) (by omega)]
    rw [hadd]
    by_cases h2 : (4000 : Int) < ((bs s).length : Int) + (bs u).length
    · rw [if_pos (by rw [igt_iff]; exact h2)]
    rw [if_neg (by rw [igt_iff]; exact h2)]
    simp only [mk_New, bind1_of]
    obtain ⟨w, d', e1, hw, _⟩ := law14_text_some ⟨t, 0⟩ ⟨by show t.length ≤ 1000; omega, by show (0 : Int) ≤ 0; omega, by show (0 : Int) ≤ t.length; omega⟩
    rw [e1, bind2_of, okLen_of (by simp), chk_true]
    refine forR_use (fun i x hx => ?_) rfl
    refine joins_round ?_
    have h3 : (bs (ByteArray.mk #[120, 49, 50, 32, 48])).length = 5 := rfl
    have h4 : (bs (ByteArray.mk #[97, 98, 99])).length = 3 := rfl
    simp only [List.mem_cons, List.mem_nil_iff, or_false] at hx
    rcases hx with rfl | rfl | rfl | rfl <;> simp only <;> omega
  · rw [if_neg (show ¬ ile (llen t) 500 = true by rw [ile_iff]; exact h1)]
    rfl
end Go.Mdl
