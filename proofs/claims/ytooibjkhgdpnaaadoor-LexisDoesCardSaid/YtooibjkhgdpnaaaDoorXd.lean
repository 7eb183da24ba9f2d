/-
  LexisNames: a text is a name exactly if it is one token, a name, with this text.
-/
import Derived.Test.YtooibjkhgdpnaaaDoorXc
import Derived.Test.YtooibjkhgdpnaaaDoorXk
set_option linter.unusedSimpArgs false
set_option linter.unusedVariables false
namespace Go.Mdl
open Go

theorem wordB_kind {i : Nat} {l : List UInt8} {t : Tkn} (h : wordB i l = some t) (hk : t.kind = 3) : nameB (bs t.text) = true := by
  unfold wordB at h
  split at h
  · rename_i hn
    rw [← Option.some.inj h, bs_mk]
    exact hn
  · split at h
    · rw [← Option.some.inj h] at hk; simp at hk
    · split at h
      · cases hq : numB l.tail with
        | none => rw [hq] at h; cases h
        | some n => rw [hq] at h; rw [← Option.some.inj h] at hk; simp at hk
      · cases h

theorem scanF_kind : ∀ (f i : Nat) (l : List UInt8) (ts : List Tkn), scanF f i l = some ts → ∀ t ∈ ts, t.kind = 3 → nameB (bs t.text) = true
  | f, i, [], ts, h => by
    rw [show scanF f i [] = some [] by cases f <;> rfl] at h
    rw [← Option.some.inj h]
    intro t ht
    cases ht
  | 0, i, b :: r, ts, h => by
    rw [show scanF 0 i (b :: r) = some [] from rfl] at h
    rw [← Option.some.inj h]
    intro t ht
    cases ht
  | f + 1, i, b :: r, ts, h => by
    have step : ∀ (x : Tkn) (j : Nat) (m : List UInt8), (x.kind = 3 → nameB (bs x.text) = true) → (scanF f j m).map (x :: ·) = some ts → ∀ t ∈ ts, t.kind = 3 → nameB (bs t.text) = true := by
      intro x j m hx hm
      cases hq : scanF f j m with
      | none => rw [hq] at hm; cases hm
      | some us =>
        rw [hq] at hm
        rw [← Option.some.inj hm]
        intro t ht hk
        rcases List.mem_cons.1 ht with rfl | ht
        · exact hx hk
        · exact scanF_kind f j m us hq t ht hk
    unfold scanF at h
    split at h
    · exact scanF_kind f (i + 1) r ts h
    split at h
    · exact step _ _ _ (fun hk => by simp at hk) h
    split at h
    · exact step _ _ _ (fun hk => by simp at hk) h
    split at h
    · cases h
    · rename_i t ht
      exact step t _ _ (fun hk => wordB_kind ht hk) h

theorem takeWhile_all {α : Type} {p q : α → Bool} (h : ∀ x, q x = true → p x = true) : ∀ {l : List α}, l.all q = true → l.takeWhile p = l
  | [], _ => rfl
  | x :: l, ha => by
    simp only [List.all_cons, Bool.and_eq_true] at ha
    rw [List.takeWhile_cons, if_pos (h x ha.1), takeWhile_all h ha.2]

theorem startW_letter {b : UInt8} (h : isL b = true) : startW b := by
  simp only [isL, decide_eq_true_iff] at h
  refine ⟨?_, ?_, ?_⟩
  · rintro (rfl | rfl) <;> revert h <;> decide
  · rintro rfl; revert h; decide
  · rintro rfl; revert h; decide

theorem scan_name {l : List UInt8} (h : nameB l = true) (i : Nat) : scan i l = some [⟨3, 0, i, ⟨l.toArray⟩⟩] := by
  have h0 := h
  simp only [nameB, Bool.and_eq_true, decide_eq_true_iff] at h
  obtain ⟨⟨h1, h2⟩, h3⟩ := h
  cases l with
  | nil => simp at h1
  | cons b r =>
    have hb : isL b = true := by simp only [List.all_cons, Bool.and_eq_true] at h3; exact h3.1
    rw [scan_word (startW_letter hb), takeWhile_all (p := isW) (q := isL) (fun x hx => by simp [isW, hx]) h3]
    unfold wordB
    rw [if_pos h0]
    simp [scan_nil]

/-- What the law asks of a text. -/
theorem names_is (s : ByteArray) : nameB (bs s) = true ↔ (tokensB (bs s)).2 = 0 ∧ (tokensB (bs s)).1.length = 1 ∧ ∃ t, (tokensB (bs s)).1[0]? = some t ∧ t.kind = 3 ∧ t.text = s := by
  constructor
  · intro h
    have h1 := scan_name h 0
    have hl : (bs s).length ≤ 16 := by
      simp only [nameB, Bool.and_eq_true, decide_eq_true_iff] at h
      exact h.1.2
    have e : tokensB (bs s) = ([⟨3, 0, (0 : Nat), ⟨(bs s).toArray⟩⟩], 0) := by
      unfold tokensB
      rw [if_neg (by omega), h1]
      rfl
    rw [e]
    exact ⟨rfl, rfl, _, rfl, rfl, bs_inj (bs_mk _)⟩
  · rintro ⟨h1, h2, t, h3, h4, h5⟩
    rw [← h5]
    have : t ∈ (tokensB (bs s)).1 := List.mem_of_getElem? h3
    unfold tokensB at this
    split at this
    · cases this
    · split at this
      · cases this
      · rename_i ts hts
        split at this
        · cases this
        · exact scanF_kind _ _ _ ts hts t this h4

theorem sane_eq : law14_sane = some true := by
  unfold law14_sane
  rw [lexis_Tokens_eq]
  have e : tokensB (bs (ByteArray.mk #[40, 115, 117, 99, 99, 32, 120, 48, 41])) = ([⟨1, 0, 0, .empty⟩, ⟨3, 0, 1, ⟨#[115, 117, 99, 99]⟩⟩, ⟨5, 0, 6, .empty⟩, ⟨2, 0, 8, .empty⟩], 0) := by
    kernel_rfl
  rw [e]
  simp [seq_iff, ieq_iff]

theorem names_round {s : ByteArray} {k : Bool → Option (Ctl Unit Bool)} (hk : k (nameB (bs s)) = some (.next ())) :
    (bind2 (lexis_Tokens s) fun x825 x826 =>
      if (ieq x826 0) = true then (
      if (ieq (llen x825) 1) = true then (
      bind1 (lget x825 0) fun x855 =>
      if (ieq x855.kind 3) = true then (
      k (seq x855.text s))
      else (
      k false))
      else (
      k false))
      else (
      k false)) = some (.next ()) := by
  rw [lexis_Tokens_eq]
  have h := names_is s
  obtain ⟨o, eo⟩ : ∃ o, tokensB (bs s) = o := ⟨_, rfl⟩
  rw [eo] at h ⊢
  obtain ⟨ts, e⟩ := o
  simp only [bind2_of, ieq_iff, llen_eq, lget_zero] at h ⊢
  by_cases h1 : e = 0
  · rw [if_pos h1]
    by_cases h2 : ts.length = 1
    · rw [if_pos (by omega)]
      obtain ⟨t, rfl⟩ := List.length_eq_one_iff.1 h2
      simp only [List.getElem?_cons_zero, bind1_of] at h ⊢
      by_cases h3 : t.kind = 3
      · rw [if_pos h3]
        have : seq t.text s = nameB (bs s) := by
          refine Bool.eq_iff_iff.2 ?_
          rw [seq_iff, h]
          exact ⟨fun h4 => ⟨h1, rfl, t, rfl, h3, h4⟩, fun ⟨_, _, u, hu, _, h5⟩ => by rw [Option.some.inj hu]; exact h5⟩
        rw [this, hk]
      · rw [if_neg h3]
        have : nameB (bs s) = false := by
          refine Bool.eq_false_iff.2 fun hn => ?_
          obtain ⟨_, _, u, hu, h4, _⟩ := h.1 hn
          rw [← Option.some.inj hu] at h4
          exact h3 h4
        rw [← this, hk]
    · rw [if_neg (by omega)]
      have : nameB (bs s) = false := Bool.eq_false_iff.2 fun hn => h2 (h.1 hn).2.1
      rw [← this, hk]
  · rw [if_neg h1]
    have : nameB (bs s) = false := Bool.eq_false_iff.2 fun hn => h1 (h.1 hn).1
    rw [← this, hk]

theorem okCat_of {s t : ByteArray} (h : (bs s).length + (bs t).length ≤ 1000000000) : okCat s t = true := by
  unfold okCat
  rw [bs_size, bs_size, decide_eq_false]
  · rfl
  · show ¬ ((((bs s).length + (bs t).length : Nat) : Int) > 9223372036854775807)
    omega

theorem forR_use {α ρ τ : Type} {F : Int → α → Unit → Option (Ctl Unit ρ)} {l : List α} {k : Unit ⊕ ρ → Option τ} {r : Option τ}
    (h : ∀ i x, x ∈ l → F i x () = some (.next ())) (hk : k (.inl ()) = r) : bind1 (forR F l 0 ()) k = r := by
  obtain ⟨s', h1, _⟩ := forR_ind (F := F) (fun _ => True) l 0 () trivial (fun k x s hx _ => ⟨(), h _ x (List.mem_of_getElem? hx), trivial⟩)
  rw [h1, bind1_of, hk]
theorem wrap8_in {n : Int} (h1 : 0 ≤ n) (h2 : n < 256) : conv .u8 n = n := by
  unfold conv IntKind.wrap
  simp only [show IntKind.u8.bits = 8 from rfl, show IntKind.u8.signed = false from rfl, Bool.false_and, Bool.false_eq_true, if_false, show ((2 : Int) ^ 8) = 256 from rfl]
  omega

theorem own_use {x : Int} {d : Smk_Deck} {s : ByteArray} {F : ByteArray × Int × Smk_Deck → Option (Ctl (ByteArray × Int × Smk_Deck) Bool)} {k : (ByteArray × Int × Smk_Deck) ⊕ Bool → Option Bool} {r : Option Bool}
    (h0 : 0 ≤ x) (h1 : x < 20) (hd : d.wf)
    (hF : ∀ (v : ByteArray) (m : Nat) (d : Smk_Deck), (bs v).length + m ≤ 20 → d.wf → F (v, (m : Int), d) = some (.brk (v, (m : Int), d)) ∨ ∃ (b : UInt8) (d' : Smk_Deck) (v' : ByteArray), 0 < m ∧ isL b = true ∧ d'.wf ∧ bs v' = bs v ++ [b] ∧ F (v, (m : Int), d) = some (.next (v', ((m - 1 : Nat) : Int), d')))
    (hk : ∀ (v : ByteArray) (m : Nat) (d : Smk_Deck), (bs v).all isL = true → (bs v).length ≤ 20 → k (.inl (v, (m : Int), d)) = r) (hs : bs s = []) : bind1 (loopN F FU (s, x, d)) k = r := by
  obtain ⟨o, h2, h3⟩ := loopN_inv (F := F) (fun st => ∃ m : Nat, st.2.1 = m ∧ (bs st.1).length + m ≤ 20 ∧ st.2.2.wf ∧ (bs st.1).all isL = true) (fun st => st.2.1.toNat)
    (fun o => k o = r) (by
      rintro ⟨v, p, d⟩ ⟨m, hm, hl, hd, ha⟩
      simp only at hm hl hd ha
      subst hm
      rcases hF v m d hl hd with h | ⟨b, d', v', hm, hb, hd', hv, h⟩
      · exact .inr (.inl ⟨_, h, hk v m d ha (by omega)⟩)
      · refine .inl ⟨_, h, ⟨m - 1, rfl, ?_, hd', ?_⟩, by simp only [Int.toNat_natCast]; omega⟩
        · rw [hv, List.length_append, List.length_cons, List.length_nil]; omega
        · rw [hv, List.all_append, ha]; simp [hb])
    FU (s, x, d) ⟨x.toNat, by simp only; omega, by simp only [hs, List.length_nil]; omega, hd, by simp only [hs]; rfl⟩ (FU_lt (by simp only; omega))
  rw [h2, bind1_of, h3]

theorem law_LexisNames (s : ByteArray) (t : List Int) : law14_LexisNames s t = some true := by
  unfold law14_LexisNames
  rw [sane_eq, bind1_of, if_pos rfl]
  simp only [joinB_eq, mk_Few, bind1_of, ile_iff, llen_eq, igt_iff, slen_eq]
  by_cases h1 : (t.length : Int) ≤ 500
  · rw [if_pos h1]
    by_cases h2 : (200 : Int) < ((bs s).length : Int)
    · rw [if_pos h2]
    rw [if_neg h2]
    simp only [mk_New, bind1_of]
    obtain ⟨x, d, e1, x0, x1, dw⟩ := next_ok ⟨t, 0⟩ ⟨by show t.length ≤ 1000; omega, by show (0 : Int) ≤ 0; omega, by show (0 : Int) ≤ t.length; omega⟩ 20 (by omega) (by omega)
    rw [e1, bind2_of]
    refine own_use (s := (ByteArray.mk #[])) x0 x1 dw (fun v m d' hl hd => ?_) (fun v m d' hv hl => ?_) rfl
    · simp only [un3]
      by_cases hm : 0 < m
      · obtain ⟨y, d2, e2, y0, y1, dw2⟩ := next_ok d' hd 26 (by omega) (by omega)
        have hy : conv .u8 (iadd .i64 97 y) = 97 + y := by
          rw [iadd_in (by omega) (by omega)]
          exact wrap8_in (by omega) (by omega)
        have hbs : bs (bstr [97 + y]) = [UInt8.ofNat (97 + y).toNat] := rfl
        have hu : (UInt8.ofNat (97 + y).toNat).toNat = (97 + y).toNat := by rw [UInt8.toNat_ofNat']; omega
        refine .inr ⟨UInt8.ofNat (97 + y).toNat, d2, v ++ bstr [97 + y], hm, ?_, dw2, ?_, ?_⟩
        · simp only [isL, hu, decide_eq_true_iff]; omega
        · rw [bs_app, hbs]
        · rw [if_pos (by omega), e2, bind2_of, hy, okCat_of (by rw [hbs]; simp only [List.length_cons, List.length_nil]; omega), chk_true, isub_in (by omega) (by omega)]
          simp only [Option.some.injEq, Ctl.next.injEq, Prod.mk.injEq, true_and, and_true]
          omega
      · exact .inl (by rw [if_neg (by omega)])
    · simp only [sumK_inl, un3]
      rw [okCat_of (by rw [show bs (ByteArray.mk #[49]) = [49] from rfl]; simp only [List.length_cons, List.length_nil]; omega), chk_true,
        okCat_of (by rw [show bs (ByteArray.mk #[32]) = [32] from rfl]; simp only [List.length_cons, List.length_nil]; omega), chk_true,
        okLen_of (by simp), chk_true]
      refine forR_use (fun i x _ => ?_) ?_
      · refine names_round (k := fun v => bind1 (lexis_Name x) fun n => if bneB n v = true then some (.ret false) else some (.next ())) ?_
        rw [lexis_Name_eq, bind1_of, if_neg (by simp)]
      · simp only [sumK_inl]
        rw [lexis_Name_eq, bind1_of]
        by_cases hc : 1 ≤ (bs v).length
        · rw [if_pos (by rw [ige_iff]; omega), Option.some.injEq, beqB_iff]
          unfold nameB
          rw [hv, Bool.and_true]
          exact Bool.eq_iff_iff.2 (by rw [decide_eq_true_iff, ile_iff]; omega)
        · rw [if_neg (by rw [ige_iff]; omega), Option.some.injEq, beqB_iff]
          unfold nameB
          rw [decide_eq_false (by omega), Bool.false_and]
  · rw [if_neg h1]
    rfl
end Go.Mdl
