/-
  lexis.Text is the reference's text (textB), in plain words.
-/
import Derived.Test.YtooibjkhgdpnaaaDoorXe
set_option linter.unusedSimpArgs false
set_option linter.unusedVariables false
namespace Go.Mdl
open Go

theorem dec_eq : ∀ (f n : Nat), n < 10 ^ f → 1 ≤ f → dec f n = Lib.decDigits n
  | 0, _, _, h => by omega
  | f + 1, n, hn, _ => by
    unfold dec
    rw [Lib.decDigits]
    by_cases h : n < 10
    · rw [if_pos h, dif_pos h]
    · rw [if_neg h, dif_neg h]
      have hf : 1 ≤ f := by
        rcases Nat.eq_zero_or_pos f with h0 | h0
        · subst h0; omega
        · exact h0
      rw [dec_eq f (n / 10) (by rw [Nat.pow_succ] at hn; omega) hf]

theorem dec6_iff (n : Nat) : (Lib.decDigits n).length ≤ 6 ↔ n ≤ 999999 := by
  constructor
  · intro h
    rw [Lib.decDigits_length] at h
    have h1 := Lib.lt_pow_nDigits n
    have h2 : 10 ^ Lib.nDigits n ≤ 10 ^ 6 := Nat.pow_le_pow_right (by decide) h
    omega
  · intro h
    rw [← dec_eq 6 n (by omega) (by decide)]
    exact dec_len 6 n

theorem itoa_some (n : Int) (h0 : -9223372036854775808 ≤ n) (h1 : n ≤ 9223372036854775807) : strconv_Itoa n = some ⟨(Lib.itoa n).toArray⟩ := by
  unfold strconv_Itoa
  rw [if_pos ⟨h0, h1⟩]

theorem itoa_len (n : Int) (h0 : -9223372036854775808 ≤ n) (h1 : n ≤ 9223372036854775807) : (Lib.itoa n).length ≤ 100 := by
  have key : ∀ k : Nat, k < 10 ^ 20 → (Lib.decDigits k).length ≤ 20 := fun k hk => by
    rw [← dec_eq 20 k hk (by decide)]
    exact dec_len 20 k
  unfold Lib.itoa
  split
  · have := key n.natAbs (by omega)
    simp only [List.length_cons]; omega
  · have := key n.toNat (by omega)
    omega

/-- The text of a token, its number's text at hand. -/
def textCase (t : Tkn) (v : ByteArray) (sh : Bool) : Option (ByteArray × Bool) :=
  if (ieq t.kind 1) = true then some ((ByteArray.mk #[40]), (sel (ieq t.num 0) (seq t.text (ByteArray.mk #[])) false))
        else if (ieq t.kind 2) = true then some ((ByteArray.mk #[41]), (sel (ieq t.num 0) (seq t.text (ByteArray.mk #[])) false))
        else if (ieq t.kind 3) = true then (if (ieq t.num 0) = true then bind1 (lexis_Name t.text) fun x295 => some (t.text, x295) else some (t.text, false))
        else if (sel (ieq t.kind 4) true (ieq t.kind 5)) = true then some (v, (sel sh (seq t.text (ByteArray.mk #[])) false))
        else some ((ByteArray.mk #[]), false)

theorem lexis_text_eq (t : Tkn) (h0 : -9223372036854775808 ≤ t.num) (h1 : t.num ≤ 9223372036854775807) : ∃ w, lexis_text t = some (w, (tokB t).isSome) ∧ ∀ u, tokB t = some u → bs w = u := by
  have hx : bs (ByteArray.mk #[120]) = [120] := rfl
  unfold lexis_text
  rw [itoa_some t.num h0 h1, bind1_of]
  simp only [joinB_eq, bind1_of]
  -- the number's text, and whether it is short
  have main : ∀ (v : ByteArray) (sh : Bool), (t.kind = 4 ∨ t.kind = 5 → bs v = if t.kind = 5 then 120 :: Lib.itoa t.num else Lib.itoa t.num) → sh = decide (0 ≤ t.num ∧ t.num ≤ 999999) →
      ∃ w, textCase t v sh = some (w, (tokB t).isSome) ∧ ∀ u, tokB t = some u → bs w = u := by
    intro v sh hv hsh
    unfold textCase tokB
    simp only [ieq_iff, sel_and, sel_or, Bool.or_eq_true, seq_nil]
    by_cases k1 : t.kind = 1
    · rw [if_pos k1, if_pos k1]
      by_cases h2 : t.num = 0 ∧ bs t.text = []
      · rw [if_pos h2]
        exact ⟨ByteArray.mk #[40], by simp [h2.1, h2.2, ieq], fun u hu => by rw [← Option.some.inj hu]; rfl⟩
      · rw [if_neg h2]
        refine ⟨ByteArray.mk #[40], ?_, fun u hu => by cases hu⟩
        have : (ieq t.num 0 && decide (bs t.text = [])) = false := Bool.eq_false_iff.2 fun hh => h2 (by simpa [ieq_iff] using hh)
        rw [this]; rfl
    rw [if_neg k1, if_neg k1]
    by_cases k2 : t.kind = 2
    · rw [if_pos k2, if_pos k2]
      by_cases h2 : t.num = 0 ∧ bs t.text = []
      · rw [if_pos h2]
        exact ⟨ByteArray.mk #[41], by simp [h2.1, h2.2, ieq], fun u hu => by rw [← Option.some.inj hu]; rfl⟩
      · rw [if_neg h2]
        refine ⟨ByteArray.mk #[41], ?_, fun u hu => by cases hu⟩
        have : (ieq t.num 0 && decide (bs t.text = [])) = false := Bool.eq_false_iff.2 fun hh => h2 (by simpa [ieq_iff] using hh)
        rw [this]; rfl
    rw [if_neg k2, if_neg k2]
    by_cases k3 : t.kind = 3
    · rw [if_pos k3, if_pos k3]
      by_cases h2 : t.num = 0
      · rw [if_pos h2, lexis_Name_eq, bind1_of]
        by_cases h3 : nameB (bs t.text) = true
        · rw [if_pos ⟨h2, h3⟩, h3]
          exact ⟨_, rfl, fun u hu => Option.some.inj hu⟩
        · rw [if_neg (fun hh => h3 hh.2), show nameB (bs t.text) = false by simpa using h3]
          exact ⟨_, rfl, fun u hu => by cases hu⟩
      · rw [if_neg h2, if_neg (fun hh => h2 hh.1)]
        exact ⟨_, rfl, fun u hu => by cases hu⟩
    rw [if_neg k3, if_neg k3]
    by_cases k4 : t.kind = 4 ∨ t.kind = 5
    · rw [if_pos k4, if_pos k4]
      by_cases h2 : (0 ≤ t.num ∧ t.num ≤ 999999) ∧ bs t.text = []
      · rw [if_pos h2, hsh, decide_eq_true h2.1, decide_eq_true h2.2]
        refine ⟨v, rfl, fun u hu => ?_⟩
        rw [← Option.some.inj hu, hv k4]
        obtain ⟨n, hn⟩ : ∃ n : Nat, t.num = n := ⟨t.num.toNat, by omega⟩
        rw [hn, Lib.itoa_nonneg, Int.toNat_natCast, dec_eq 6 n (by omega) (by decide)]
      · rw [if_neg h2, hsh]
        refine ⟨v, ?_, fun u hu => by cases hu⟩
        have : (decide (0 ≤ t.num ∧ t.num ≤ 999999) && decide (bs t.text = [])) = false := Bool.eq_false_iff.2 fun hh => h2 (by simpa using hh)
        rw [this]; rfl
    · rw [if_neg k4, if_neg k4]
      exact ⟨_, rfl, fun u hu => by cases hu⟩
  have hsh : ∀ (Q : Bool → Option (ByteArray × Bool)), (if ige t.num 0 = true then Q (ile (slen (⟨(Lib.itoa t.num).toArray⟩ : ByteArray)) 6) else Q false) = Q (decide (0 ≤ t.num ∧ t.num ≤ 999999)) := by
    intro Q
    by_cases h : 0 ≤ t.num
    · rw [if_pos (by rw [ige_iff]; exact h)]
      congr 1
      obtain ⟨n, hn⟩ : ∃ n : Nat, t.num = n := ⟨t.num.toNat, by omega⟩
      rw [slen_eq, bs_mk, hn, Lib.itoa_nonneg]
      refine Bool.eq_iff_iff.2 ?_
      rw [ile_iff, decide_eq_true_iff]
      have := dec6_iff n
      omega
    · rw [if_neg (by rw [ige_iff]; exact h), decide_eq_false (by omega)]
  have hl := itoa_len t.num h0 h1
  by_cases k5 : t.kind = 5
  · rw [if_pos (by rw [ieq_iff]; exact k5), okCat_of (by rw [hx, bs_mk]; simp only [List.length_cons, List.length_nil]; omega), chk_true]
    obtain ⟨w, e1, e2⟩ := main ((ByteArray.mk #[120]) ++ ⟨(Lib.itoa t.num).toArray⟩) (decide (0 ≤ t.num ∧ t.num ≤ 999999)) (fun _ => by rw [if_pos k5, bs_app, hx, bs_mk]; rfl) rfl
    refine ⟨w, ?_, e2⟩
    rw [← e1]
    exact hsh (textCase t ((ByteArray.mk #[120]) ++ ⟨(Lib.itoa t.num).toArray⟩))
  · rw [if_neg (by rw [ieq_iff]; exact k5)]
    obtain ⟨w, e1, e2⟩ := main ⟨(Lib.itoa t.num).toArray⟩ (decide (0 ≤ t.num ∧ t.num ≤ 999999)) (fun _ => by rw [if_neg k5, bs_mk]) rfl
    refine ⟨w, ?_, e2⟩
    rw [← e1]
    exact hsh (textCase t ⟨(Lib.itoa t.num).toArray⟩)

theorem gapT_eq (p : Option Tkn) (t : Tkn) : gapT p t = gap p t := by cases p <;> rfl

theorem ltext_eq : ∀ (l : List Tkn) (p : Option Tkn) (acc : List UInt8), (∀ t ∈ l, -9223372036854775808 ≤ t.num ∧ t.num ≤ 9223372036854775807) →
    ltext p l acc = some (match textGo p l with | some u => (⟨(acc ++ u).toArray⟩, 0) | none => (⟨#[]⟩, 2))
  | [], p, acc, _ => by simp [ltext, textGo]
  | t :: ts, p, acc, h => by
    obtain ⟨h0, h1⟩ := h t (by simp)
    obtain ⟨w, e1, e2⟩ := lexis_text_eq t h0 h1
    unfold ltext textGo
    rw [e1]
    cases hw : tokB t with
    | none => rfl
    | some u =>
      have hu := e2 u hw
      have hl := tokB_len hw
      simp only [Option.isSome_some]
      rw [if_pos (by rw [bs_size, hu]; omega), ltext_eq ts (some t) _ (fun x hx => h x (by simp [hx])), gapT_eq, show w.data.toList = u from hu]
      cases textGo (some t) ts with
      | none => rfl
      | some r => simp

theorem lexis_Text_eq (l : List Tkn) (h : ∀ t ∈ l, -9223372036854775808 ≤ t.num ∧ t.num ≤ 9223372036854775807) : lexis_Text l = some (textB l) := by
  unfold lexis_Text textB
  split
  · rfl
  · rw [ltext_eq l none [] h]
    cases textGo none l <;> rfl
end Go.Mdl
