/-
  Cutting texts into tokens (lexis.Tokens), in plain words.
-/
import Derived.Test.YtooibjkhgdpnaaaDoorLM
import Derived.Test.YtooibjkhgdpnaaaDoorXa
set_option linter.unusedSimpArgs false
set_option linter.unusedVariables false
namespace Go.Mdl
open Go

def isL (b : UInt8) : Bool := decide (97 ≤ b.toNat ∧ b.toNat ≤ 122)
def isD (b : UInt8) : Bool := decide (48 ≤ b.toNat ∧ b.toNat ≤ 57)
def isW (b : UInt8) : Bool := isL b || isD b
/-- A name. -/
def nameB (l : List UInt8) : Bool := decide (1 ≤ l.length ∧ l.length ≤ 16) && l.all isL
/-- The number that a numeral of at most six digits is. -/
def numB (l : List UInt8) : Option Nat := if (1 ≤ l.length ∧ l.length ≤ 6) ∧ l.all isD = true ∧ ¬ (l.head? = some 48 ∧ 1 < l.length) then Lib.decFrom 0 l else none
/-- The token of letters and digits. -/
def wordB (i : Nat) (l : List UInt8) : Option Tkn :=
  if nameB l = true then some ⟨3, 0, i, ⟨l.toArray⟩⟩
  else match numB l with
    | some n => some ⟨4, n, i, .empty⟩
    | none => if l.head? = some 120 then (numB l.tail).map fun n => ⟨5, n, i, .empty⟩ else none
/-- The tokens of a text from a place on. -/
def scanF : Nat → Nat → List UInt8 → Option (List Tkn)
  | _, _, [] => some []
  | 0, _, _ :: _ => some []
  | f + 1, i, b :: r =>
    if b = 32 ∨ b = 10 then scanF f (i + 1) r
    else if b = 40 then (scanF f (i + 1) r).map (⟨1, 0, i, .empty⟩ :: ·)
    else if b = 41 then (scanF f (i + 1) r).map (⟨2, 0, i, .empty⟩ :: ·)
    else match wordB i ((b :: r).takeWhile isW) with
      | none => none
      | some t => (scanF f (i + ((b :: r).takeWhile isW).length) ((b :: r).drop ((b :: r).takeWhile isW).length)).map (t :: ·)
def scan (i : Nat) (l : List UInt8) : Option (List Tkn) := scanF l.length i l
def tokensB (l : List UInt8) : List Tkn × Int :=
  if 8192 < l.length then ([], 3) else match scan 0 l with
    | none => ([], 15)
    | some ts => if 2048 < ts.length then ([], 3) else (ts, 0)

theorem wordB_nil (i : Nat) : wordB i [] = none := rfl
theorem takeWhile_len {α : Type} (p : α → Bool) (l : List α) : (l.takeWhile p).length ≤ l.length := (List.takeWhile_sublist p).length_le

theorem scanF_eq : ∀ (f g i : Nat) (l : List UInt8), l.length ≤ f → l.length ≤ g → scanF f i l = scanF g i l
  | f, g, i, [], _, _ => by cases f <;> cases g <;> rfl
  | f + 1, g + 1, i, b :: r, hf, hg => by
    simp only [List.length_cons] at hf hg
    have ih : ∀ j (m : List UInt8), m.length ≤ r.length → scanF f j m = scanF g j m := fun j m hm => scanF_eq f g j m (by omega) (by omega)
    simp only [scanF]
    rw [ih (i + 1) r (Nat.le_refl _)]
    cases hw : (b :: r).takeWhile isW with
    | nil => rw [wordB_nil]
    | cons c w =>
      rw [ih _ ((b :: r).drop (c :: w).length) (by simp only [List.length_drop, List.length_cons]; omega)]

theorem scan_nil (i : Nat) : scan i [] = some [] := rfl
theorem scan_sp {b : UInt8} (h : b = 32 ∨ b = 10) (i : Nat) (r : List UInt8) : scan i (b :: r) = scan (i + 1) r := by
  unfold scan
  rw [List.length_cons, scanF, if_pos h]
theorem scan_open (i : Nat) (r : List UInt8) : scan i (40 :: r) = (scan (i + 1) r).map (⟨1, 0, i, .empty⟩ :: ·) := by
  unfold scan
  rw [List.length_cons, scanF, if_neg (by decide), if_pos rfl]
theorem scan_close (i : Nat) (r : List UInt8) : scan i (41 :: r) = (scan (i + 1) r).map (⟨2, 0, i, .empty⟩ :: ·) := by
  unfold scan
  rw [List.length_cons, scanF, if_neg (by decide), if_neg (by decide), if_pos rfl]
/-- A byte that begins a word, or nothing. -/
def startW (b : UInt8) : Prop := ¬ (b = 32 ∨ b = 10) ∧ b ≠ 40 ∧ b ≠ 41
theorem scan_word {b : UInt8} (h : startW b) (i : Nat) (r : List UInt8) : scan i (b :: r) = match wordB i ((b :: r).takeWhile isW) with
    | none => none
    | some t => (scan (i + ((b :: r).takeWhile isW).length) ((b :: r).drop ((b :: r).takeWhile isW).length)).map (t :: ·) := by
  unfold scan
  rw [List.length_cons, scanF, if_neg h.1, if_neg h.2.1, if_neg h.2.2]
  cases hw : (b :: r).takeWhile isW with
  | nil => rw [wordB_nil]
  | cons c w =>
    rw [scanF_eq r.length ((b :: r).drop (c :: w).length).length _ _ (by simp only [List.length_drop, List.length_cons]; omega) (Nat.le_refl _)]

/-! ### the program's functions -/
theorem u8_lt (b : UInt8) : b.toNat < 256 := b.toNat_lt
theorem wrap32_in {n : Int} (h1 : -2147483648 ≤ n) (h2 : n < 2147483648) : IntKind.i32.wrap n = n := by
  unfold IntKind.wrap
  simp only [show IntKind.i32.bits = 32 from rfl, show IntKind.i32.signed = true from rfl, Bool.true_and, decide_eq_true_iff, show ((2 : Int) ^ 32) = 4294967296 from rfl, show ((2 : Int) ^ (32 - 1)) = 2147483648 from rfl]
  split <;> omega
theorem conv32 (b : UInt8) : conv .i32 (b.toNat : Int) = b.toNat := by
  have := u8_lt b
  unfold conv
  exact wrap32_in (by omega) (by omega)
theorem letter_eq (b : UInt8) : lexis_letter (conv .i32 (b.toNat : Int)) = some (isL b) := by
  rw [conv32, lexis_letter, sel_and]
  simp only [ige, ile, isL, Option.some.injEq, Bool.decide_and]
  congr 1 <;> exact Bool.eq_iff_iff.2 (by simp only [decide_eq_true_iff]; omega)
theorem digit_eq (b : UInt8) : lexis_digit (conv .i32 (b.toNat : Int)) = some (isD b) := by
  rw [conv32, lexis_digit, sel_and]
  simp only [ige, ile, isD, Option.some.injEq, Bool.decide_and]
  congr 1 <;> exact Bool.eq_iff_iff.2 (by simp only [decide_eq_true_iff]; omega)

theorem trim_letter (s : ByteArray) (h : (bs s).length ≤ 1000000) : ∃ x, strings_TrimFunc_lexis_letter s = some x ∧ seq x (ByteArray.mk #[]) = (bs s).all isL := by
  unfold strings_TrimFunc_lexis_letter
  rw [if_pos (by rw [bs_size]; omega)]
  refine ⟨_, rfl, ?_⟩
  rw [seq_eq]
  have := trimF_nil (fun x => decide (97 ≤ x ∧ x ≤ 122)) (fun x hx => by simp only [decide_eq_true_iff] at hx; omega) s
  exact Bool.eq_iff_iff.2 (by rw [decide_eq_true_iff, List.all_eq_true]; exact this)
theorem trim_digit (s : ByteArray) (h : (bs s).length ≤ 1000000) : ∃ x, strings_TrimFunc_lexis_digit s = some x ∧ seq x (ByteArray.mk #[]) = (bs s).all isD := by
  unfold strings_TrimFunc_lexis_digit
  rw [if_pos (by rw [bs_size]; omega)]
  refine ⟨_, rfl, ?_⟩
  rw [seq_eq]
  have := trimF_nil (fun x => decide (48 ≤ x ∧ x ≤ 57)) (fun x hx => by simp only [decide_eq_true_iff] at hx; omega) s
  exact Bool.eq_iff_iff.2 (by rw [decide_eq_true_iff, List.all_eq_true]; exact this)

theorem lexis_Name_eq (s : ByteArray) : lexis_Name s = some (nameB (bs s)) := by
  unfold lexis_Name
  simp only [joinB_eq, slen_eq, ige_iff, ile_iff, nameB]
  by_cases h1 : (1 : Int) ≤ ((bs s).length : Int)
  · rw [if_pos h1]
    by_cases h2 : ((bs s).length : Int) ≤ 16
    · rw [if_pos h2]
      obtain ⟨x, e1, e2⟩ := trim_letter s (by omega)
      rw [e1, bind1_of, e2, decide_eq_true (by omega), Bool.true_and]
    · rw [if_neg h2, decide_eq_false (by omega), Bool.false_and]
  · rw [if_neg h1, decide_eq_false (by omega), Bool.false_and]

theorem decFrom_all : ∀ (l : List UInt8) (a : Nat), l.all isD = true → ∃ n, Lib.decFrom a l = some n
  | [], a, _ => ⟨a, rfl⟩
  | b :: r, a, h => by
    simp only [List.all_cons, Bool.and_eq_true, isD, decide_eq_true_iff] at h
    simp only [Lib.decFrom, Lib.digitVal, if_pos h.1]
    exact decFrom_all r _ (by simpa [isD] using h.2)
theorem atoi_all {l : List UInt8} (h : l.all isD = true) (hn : l ≠ []) {n : Nat} (hd : Lib.decFrom 0 l = some n) : Lib.atoi l = some (n : Int) := by
  cases l with
  | nil => exact absurd rfl hn
  | cons b r =>
    have hb : isD b = true := by simp only [List.all_cons, Bool.and_eq_true] at h; exact h.1
    simp only [isD, decide_eq_true_iff] at hb
    have h1 : (b == 45) = false := by
      rw [beq_eq_false_iff_ne]; rintro rfl; revert hb; decide
    have h2 : (b == 43) = false := by
      rw [beq_eq_false_iff_ne]; rintro rfl; revert hb; decide
    simp only [Lib.atoi, h1, h2, Bool.false_eq_true, if_false, Lib.decNat, List.isEmpty_cons]
    rw [hd]
    rfl

theorem lexis_number_eq (s : ByteArray) : lexis_number s = some (match numB (bs s) with | some n => ((n : Int), true) | none => (0, false)) := by
  unfold lexis_number
  simp only [joinB_eq, slen_eq, ilt_iff, igt_iff]
  generalize hl : bs s = l
  unfold numB
  by_cases h1 : (l.length : Int) < 1
  · rw [if_pos h1, if_pos trivial, if_neg (by omega)]
  rw [if_neg h1]
  by_cases h2 : (6 : Int) < (l.length : Int)
  · rw [if_pos h2, if_pos trivial, if_neg (by omega)]
  rw [if_neg h2]
  obtain ⟨x, e1, e2⟩ := trim_digit s (by rw [hl]; omega)
  rw [e1, bind1_of, sne_eq, e2, hl]
  by_cases h3 : l.all isD = true
  · simp only [h3, Bool.not_true, Bool.false_eq_true, if_false, true_and]
    obtain ⟨b, r, rfl⟩ : ∃ b r, l = b :: r := by cases l with | nil => simp at h1 | cons b r => exact ⟨b, r, rfl⟩
    have e3 : sget s 0 = some (b.toNat : Int) := by
      have := sget_eq s 0
      rw [hl] at this
      simpa using this
    rw [e3, bind1_of]
    have hat : strconv_Atoi s = Lib.atoi (b :: r) := by
      unfold strconv_Atoi
      rw [if_pos (by rw [bs_size, hl]; omega)]
      exact congrArg _ hl
    obtain ⟨n, hn⟩ := decFrom_all (b :: r) 0 h3
    have hat2 := atoi_all h3 (by simp) hn
    rw [hat, hat2, bind1_of]
    have hb48 : ieq (b.toNat : Int) 48 = true ↔ b = 48 := by
      rw [ieq_iff]
      constructor
      · intro h; exact UInt8.toNat.inj (by have : b.toNat = 48 := by omega
                                           rw [this]; rfl)
      · rintro rfl; rfl
    by_cases h4 : b = 48
    · rw [if_pos (hb48.2 h4)]
      subst h4
      by_cases h5 : (1 : Int) < ((48 :: r : List UInt8).length : Int)
      · rw [if_pos h5, if_neg fun hh => hh.2 ⟨rfl, by omega⟩]
      · rw [if_neg h5, if_pos ⟨⟨by omega, by omega⟩, fun hh => h5 (by omega)⟩, hn]
    · rw [if_neg (fun hh => h4 (hb48.1 hh)), if_pos ⟨⟨by omega, by omega⟩, fun hh => h4 (by simpa using hh.1)⟩, hn]
  · have h3' : l.all isD = false := by simpa using h3
    rw [h3']
    simp

theorem trimPrefix_x (l : List UInt8) : Lib.hasPrefix l [120] = decide (l.head? = some 120) ∧ (l.head? = some 120 → Lib.trimPrefix l [120] = l.tail) := by
  cases l with
  | nil => exact ⟨by decide, fun h => by simp at h⟩
  | cons b r =>
    have e : Lib.hasPrefix (b :: r) [120] = (120 == b) := by simp [Lib.hasPrefix, List.isPrefixOf]
    refine ⟨?_, fun h => ?_⟩
    · rw [e]
      exact Bool.eq_iff_iff.2 (by rw [beq_iff_eq, decide_eq_true_iff]; simp only [List.head?_cons, Option.some.injEq]; exact eq_comm)
    · simp only [List.head?_cons, Option.some.injEq] at h
      subst h
      unfold Lib.trimPrefix
      rw [e, if_pos (by decide)]
      rfl

theorem lexis_word_eq (s : ByteArray) : ∃ t, lexis_word s = some (t, (wordB 0 (bs s)).isSome) ∧ ∀ u, wordB 0 (bs s) = some u → t = u := by
  unfold lexis_word wordB
  rw [lexis_Name_eq, bind1_of]
  by_cases h1 : nameB (bs s) = true
  · rw [if_pos h1, if_pos h1]
    exact ⟨_, rfl, fun u hu => by rw [← Option.some.inj hu, show s = ⟨(bs s).toArray⟩ from bs_inj (bs_mk _).symm]; simp⟩
  rw [if_neg h1, if_neg h1, lexis_number_eq]
  cases h2 : numB (bs s) with
  | some n =>
    simp only [bind2_of, if_true]
    exact ⟨_, rfl, fun u hu => Option.some.inj hu⟩
  | none =>
    simp only [bind2_of, Bool.false_eq_true, if_false, strings_CutPrefix]
    obtain ⟨e1, e2⟩ := trimPrefix_x (bs s)
    rw [show s.data.toList = bs s from rfl, e1]
    by_cases h3 : (bs s).head? = some 120
    · rw [decide_eq_true h3, if_pos rfl, if_pos h3, lexis_number_eq, bs_mk, e2 h3]
      cases h4 : numB (bs s).tail with
      | some n => exact ⟨_, rfl, fun u hu => Option.some.inj hu⟩
      | none => exact ⟨_, rfl, fun u hu => by cases hu⟩
    · rw [decide_eq_false h3, if_neg (by decide), if_neg h3]
      exact ⟨_, rfl, fun u hu => by cases hu⟩

theorem wordB_at (i : Nat) (l : List UInt8) : wordB i l = (wordB 0 l).map fun t => ⟨t.kind, t.num, i, t.text⟩ := by
  unfold wordB
  split
  · rfl
  · cases numB l with
    | some n => rfl
    | none =>
      simp only
      split
      · cases numB l.tail <;> rfl
      · rfl
end Go.Mdl
