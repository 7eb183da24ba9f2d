/-
  The tokens of the text of tokens are these.
-/
import Derived.Test.YtooibjkhgdpnaaaDoorXh
set_option linter.unusedSimpArgs false
set_option linter.unusedVariables false
namespace Go.Mdl
open Go

theorem decFrom_snoc : ∀ (l : List UInt8) (a : Nat) (b : UInt8), Lib.decFrom a (l ++ [b]) = (Lib.decFrom a l).bind fun m => (Lib.digitVal b).map fun d => m * 10 + d
  | [], a, b => by
    simp only [List.nil_append, Lib.decFrom, Option.bind_some]
    cases Lib.digitVal b <;> rfl
  | c :: l, a, b => by
    simp only [List.cons_append, Lib.decFrom]
    cases Lib.digitVal c with
    | none => rfl
    | some d => exact decFrom_snoc l _ b

theorem dig (k : Nat) (h : k < 10) : (UInt8.ofNat (48 + k)).toNat = 48 + k := by rw [UInt8.toNat_ofNat']; omega
theorem digitVal_dig (k : Nat) (h : k < 10) : Lib.digitVal (UInt8.ofNat (48 + k)) = some k := by
  unfold Lib.digitVal
  rw [dig k h, if_pos (by omega)]
  congr 1; omega

theorem dec_num : ∀ (f n : Nat), n < 10 ^ f → 1 ≤ f → (dec f n).all isD = true ∧ dec f n ≠ [] ∧ Lib.decFrom 0 (dec f n) = some n ∧ (1 ≤ n → (dec f n).head? ≠ some 48)
  | 0, _, _, h => by omega
  | f + 1, n, hn, _ => by
    unfold dec
    by_cases h : n < 10
    · rw [if_pos h]
      refine ⟨?_, by simp, ?_, ?_⟩
      · simp only [List.all_cons, List.all_nil, Bool.and_true, isD, dig n h, decide_eq_true_iff]; omega
      · simp only [Lib.decFrom, digitVal_dig n h]; congr 1; omega
      · intro h1 he
        simp only [List.head?_cons, Option.some.injEq] at he
        have := congrArg UInt8.toNat he
        rw [dig n h] at this
        have h48 : (48 : UInt8).toNat = 48 := rfl
        omega
    · rw [if_neg h]
      have hf : 1 ≤ f := by
        rcases Nat.eq_zero_or_pos f with h0 | h0
        · subst h0; omega
        · exact h0
      obtain ⟨a1, a2, a3, a4⟩ := dec_num f (n / 10) (by rw [Nat.pow_succ] at hn; omega) hf
      have hd : n % 10 < 10 := Nat.mod_lt _ (by decide)
      refine ⟨?_, by simp, ?_, ?_⟩
      · rw [List.all_append, a1]
        simp only [List.all_cons, List.all_nil, Bool.and_true, isD, dig _ hd, Bool.true_and, decide_eq_true_iff]; omega
      · rw [decFrom_snoc, a3, digitVal_dig _ hd]
        simp only [Option.bind_some, Option.map_some]
        congr 1; omega
      · intro _
        have := a4 (by omega)
        cases hq : dec f (n / 10) with
        | nil => exact absurd hq a2
        | cons b r => rw [hq] at this; simpa using this

theorem numB_dec (n : Nat) (h : n ≤ 999999) : numB (dec 6 n) = some n := by
  obtain ⟨a1, a2, a3, a4⟩ := dec_num 6 n (by omega) (by decide)
  have hl := dec_len 6 n
  have hp := List.length_pos_iff.2 a2
  unfold numB
  rw [if_pos, a3]
  refine ⟨⟨hp, hl⟩, a1, fun hh => ?_⟩
  rcases Nat.eq_zero_or_pos n with h0 | h0
  · subst h0
    have : (dec 6 0).length = 1 := rfl
    omega
  · exact a4 h0 hh.1

theorem isD_W {b : UInt8} (h : isD b = true) : isW b = true := by simp [isW, h]
theorem isL_W {b : UInt8} (h : isL b = true) : isW b = true := by simp [isW, h]
theorem isD_L {b : UInt8} (h : isD b = true) : isL b = false := by
  simp only [isD, isL, decide_eq_true_iff, decide_eq_false_iff_not] at h ⊢; omega

/-- A word of a right token is read as that token. -/
theorem word_tok {t : Tkn} {w : List UInt8} (h : tokB t = some w) (hk : ¬ (t.kind = 1 ∨ t.kind = 2)) (j : Nat) : w.all isW = true ∧ w ≠ [] ∧ wordB j w = some ⟨t.kind, t.num, j, t.text⟩ := by
  unfold tokB at h
  rw [if_neg (fun hh => hk (.inl hh)), if_neg (fun hh => hk (.inr hh))] at h
  by_cases k3 : t.kind = 3
  · rw [if_pos k3] at h
    split at h
    case isFalse => cases h
    rename_i hn
    obtain rfl := Option.some.inj h
    have hn2 := hn.2
    simp only [nameB, Bool.and_eq_true, decide_eq_true_iff] at hn2
    refine ⟨List.all_eq_true.2 fun b hb => isL_W (List.all_eq_true.1 hn2.2 b hb), by rw [← List.length_pos_iff]; omega, ?_⟩
    unfold wordB
    rw [if_pos hn.2, k3, hn.1, show (⟨(bs t.text).toArray⟩ : ByteArray) = t.text from bs_inj (bs_mk _)]
  · rw [if_neg k3] at h
    by_cases k4 : t.kind = 4 ∨ t.kind = 5
    · rw [if_pos k4] at h
      split at h
      case isFalse => cases h
      rename_i hc
      obtain ⟨⟨h0, h1⟩, h2⟩ := hc
      obtain ⟨n, hn⟩ : ∃ n : Nat, t.num = n := ⟨t.num.toNat, by omega⟩
      rw [hn, Int.toNat_natCast] at h
      obtain ⟨a1, a2, a3, a4⟩ := dec_num 6 n (by omega) (by decide)
      have hnum := numB_dec n (by omega)
      have htx : ByteArray.empty = t.text := bs_inj (by rw [h2]; rfl)
      obtain ⟨c, r, hcr⟩ : ∃ c r, dec 6 n = c :: r := by cases hq : dec 6 n with | nil => exact absurd hq a2 | cons c r => exact ⟨c, r, rfl⟩
      have hcD : isD c = true := by rw [hcr] at a1; simp only [List.all_cons, Bool.and_eq_true] at a1; exact a1.1
      have noname : ∀ p : List UInt8, nameB (p ++ dec 6 n) = false := fun p => by
        unfold nameB
        rw [List.all_append, hcr, List.all_cons, isD_L hcD]
        simp
      have hW : (dec 6 n).all isW = true := List.all_eq_true.2 fun b hb => isD_W (List.all_eq_true.1 a1 b hb)
      split at h
      · rename_i k5
        obtain rfl := Option.some.inj h
        refine ⟨by rw [List.all_cons, hW]; rfl, by simp, ?_⟩
        have hno : numB (120 :: dec 6 n) = none := by
          unfold numB
          rw [if_neg]
          rintro ⟨_, hb, _⟩
          rw [List.all_cons] at hb
          simp [isD] at hb
        unfold wordB
        rw [if_neg (by have := noname [120]; simp only [List.cons_append, List.nil_append] at this; rw [this]; decide), hno]
        simp only [List.head?_cons, if_true, List.tail_cons, hnum]
        rw [k5, hn, htx]
        rfl
      · rename_i k5
        obtain rfl := Option.some.inj h
        refine ⟨hW, a2, ?_⟩
        unfold wordB
        rw [if_neg (by have := noname []; simp only [List.nil_append] at this; rw [this]; decide), hnum]
        simp only
        rw [hn, htx, show t.kind = 4 from k4.resolve_right k5]
    · rw [if_neg k4] at h; cases h

/-- Behind a word there is a space, a closing parenthesis, or nothing. -/
theorem after_word {t : Tkn} (hk : t.kind ≠ 1) : ∀ {ts : List Tkn} {r : List UInt8}, textGo (some t) ts = some r → r = [] ∨ ∃ b r', r = b :: r' ∧ isW b = false
  | [], r, h => .inl (Option.some.inj h).symm
  | x :: ts, r, h => by
    unfold textGo at h
    cases hw : tokB x with
    | none => rw [hw] at h; cases h
    | some w =>
      rw [hw] at h
      simp only at h
      cases hr : textGo (some x) ts with
      | none => rw [hr] at h; cases h
      | some r' =>
        rw [hr] at h
        obtain rfl := Option.some.inj h
        unfold gap
        simp only
        by_cases h2 : x.kind = 2
        · rw [if_neg (fun hh => hh.2 h2)]
          have : w = [41] := by
            unfold tokB at hw
            rw [if_neg (by omega), if_pos h2] at hw
            split at hw
            · exact (Option.some.inj hw).symm
            · cases hw
          subst this
          exact .inr ⟨41, r', rfl, by decide⟩
        · rw [if_pos ⟨hk, h2⟩]
          exact .inr ⟨32, w ++ r', rfl, by decide⟩

/-- The tokens, with the places that they have in their text. -/
def placed : Nat → Option Tkn → List Tkn → List Tkn
  | _, _, [] => []
  | i, p, t :: ts => ⟨t.kind, t.num, ((i + (gap p t).length : Nat) : Int), t.text⟩ :: placed (i + (gap p t).length + ((tokB t).getD []).length) (some t) ts

theorem takeWhile_app {w r : List UInt8} (hw : w.all isW = true) (hr : r = [] ∨ ∃ b r', r = b :: r' ∧ isW b = false) : (w ++ r).takeWhile isW = w := by
  induction w with
  | nil =>
    rcases hr with rfl | ⟨b, r', rfl, hb⟩
    · rfl
    · simp [List.takeWhile_cons, hb]
  | cons b w ih =>
    simp only [List.all_cons, Bool.and_eq_true] at hw
    rw [List.cons_append, List.takeWhile_cons, if_pos hw.1, ih hw.2]

theorem startW_W {b : UInt8} (h : isW b = true) : startW b := by
  refine ⟨?_, ?_, ?_⟩
  · rintro (rfl | rfl) <;> revert h <;> decide
  · rintro rfl; revert h; decide
  · rintro rfl; revert h; decide

theorem scan_text : ∀ (L : List Tkn) (p : Option Tkn) (i : Nat) (u : List UInt8), textGo p L = some u → scan i u = some (placed i p L)
  | [], p, i, u, h => by rw [← Option.some.inj h]; rfl
  | t :: ts, p, i, u, h => by
    unfold textGo at h
    cases hw : tokB t with
    | none => rw [hw] at h; cases h
    | some w =>
      rw [hw] at h
      simp only at h
      cases hr : textGo (some t) ts with
      | none => rw [hr] at h; cases h
      | some r =>
        rw [hr] at h
        obtain rfl := Option.some.inj h
        have ih := fun j => scan_text ts (some t) j r hr
        -- the gap
        have hgap : ∀ x : List UInt8, scan i (gap p t ++ x) = scan (i + (gap p t).length) x := by
          intro x
          unfold gap
          cases p with
          | none => rfl
          | some q =>
            simp only
            split
            · exact scan_sp (.inl rfl) i x
            · rfl
        show scan i (gap p t ++ w ++ r) = _
        rw [List.append_assoc, hgap]
        unfold placed
        rw [hw]
        generalize i + (gap p t).length = j
        simp only [Option.getD_some]
        by_cases k1 : t.kind = 1
        · have hw1 := hw
          unfold tokB at hw1
          rw [if_pos k1] at hw1
          split at hw1
          case isFalse => cases hw1
          rename_i hc
          obtain rfl := Option.some.inj hw1
          rw [List.cons_append, List.nil_append, scan_open, ih]
          rw [k1, hc.1, show t.text = ByteArray.empty from bs_inj (by rw [hc.2]; rfl)]
          rfl
        by_cases k2 : t.kind = 2
        · have hw1 := hw
          unfold tokB at hw1
          rw [if_neg k1, if_pos k2] at hw1
          split at hw1
          case isFalse => cases hw1
          rename_i hc
          obtain rfl := Option.some.inj hw1
          rw [List.cons_append, List.nil_append, scan_close, ih]
          rw [k2, hc.1, show t.text = ByteArray.empty from bs_inj (by rw [hc.2]; rfl)]
          rfl
        obtain ⟨b1, b2, b3⟩ := word_tok hw (fun hh => hh.elim k1 k2) j
        have ht := takeWhile_app b1 (after_word k1 hr)
        obtain ⟨c, w', hcw⟩ : ∃ c w', w = c :: w' := by cases w with | nil => exact absurd rfl b2 | cons c w' => exact ⟨c, w', rfl⟩
        have hcW : isW c = true := by rw [hcw] at b1; simp only [List.all_cons, Bool.and_eq_true] at b1; exact b1.1
        have e : w ++ r = c :: (w' ++ r) := by rw [hcw]; rfl
        rw [e, scan_word (startW_W hcW), ← e, ht, b3]
        simp only
        rw [List.drop_left, ih]
        rfl
end Go.Mdl
