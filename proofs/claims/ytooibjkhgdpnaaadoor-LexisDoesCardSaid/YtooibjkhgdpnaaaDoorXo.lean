/-
  The reference's cutting of texts is cutting in plain words, and LexisDoes.
-/
import Derived.Test.YtooibjkhgdpnaaaDoorXn
set_option linter.unusedSimpArgs false
set_option linter.unusedVariables false
namespace Go.Mdl
open Go

theorem bind2_pair {α β ρ : Type} (p : α × β) (f : α → β → Option ρ) : bind2 (some p) f = f p.1 p.2 := rfl
theorem refdigit_eq (b : UInt8) : ref14_digit (b.toNat : Int) = some (isD b) := by
  rw [ref14_digit, sel_and]
  simp only [ige, ile, isD, Option.some.injEq, Bool.decide_and]
  congr 1 <;> exact Bool.eq_iff_iff.2 (by simp only [decide_eq_true_iff]; omega)

theorem digitVal_of {b : UInt8} (h : isD b = true) : Lib.digitVal b = some (b.toNat - 48) := by
  simp only [isD, decide_eq_true_iff] at h
  simp only [Lib.digitVal, if_pos h]

theorem decFrom_lt : ∀ (l : List UInt8) (a n : Nat), Lib.decFrom a l = some n → n < (a + 1) * 10 ^ l.length
  | [], a, n, h => by
    have : a = n := by simpa [Lib.decFrom] using h
    simp; omega
  | b :: r, a, n, h => by
    simp only [Lib.decFrom] at h
    cases hd : Lib.digitVal b with
    | none => rw [hd] at h; simp at h
    | some d =>
      rw [hd] at h
      simp only [Option.bind_some] at h
      have hd9 : d ≤ 9 := by
        unfold Lib.digitVal at hd
        split at hd
        · have := Option.some.inj hd; omega
        · cases hd
      have ih := decFrom_lt r (a * 10 + d) n h
      have h1 : (a * 10 + d + 1) * 10 ^ r.length ≤ ((a + 1) * 10) * 10 ^ r.length := Nat.mul_le_mul_right _ (by omega)
      have h2 : ((a + 1) * 10) * 10 ^ r.length = (a + 1) * 10 ^ (r.length + 1) := by rw [Nat.pow_succ, Nat.mul_assoc, Nat.mul_comm 10]
      rw [List.length_cons]
      omega

theorem numB_lt {l : List UInt8} {n : Nat} (h : numB l = some n) : n ≤ 999999 := by
  unfold numB at h
  split at h
  · rename_i hc
    have h1 := decFrom_lt l 0 n h
    have h2 : 10 ^ l.length ≤ 10 ^ 6 := Nat.pow_le_pow_right (by decide) hc.1.2
    omega
  · cases h

theorem num_not_name {l : List UInt8} {n : Nat} (h : numB l = some n) : nameB l = false := by
  unfold numB at h
  split at h
  · rename_i hc
    cases l with
    | nil => simp at hc
    | cons b r =>
      have hb : isD b = true := by have := hc.2.1; simp only [List.all_cons, Bool.and_eq_true] at this; exact this.1
      have := isD_L hb
      simp [nameB, this]
  · cases h
theorem tail_not_name {l : List UInt8} {n : Nat} (h : numB l.tail = some n) : nameB l = false := by
  cases l with
  | nil => rfl
  | cons b r =>
    have h1 := num_not_name h
    unfold nameB at h1 ⊢
    unfold numB at h
    split at h
    · rename_i hc
      have hc' : (1 ≤ r.length ∧ r.length ≤ 6) := hc.1
      have h1' : (decide (1 ≤ r.length ∧ r.length ≤ 16) && r.all isL) = false := h1
      rw [decide_eq_true (by omega), Bool.true_and] at h1'
      rw [List.all_cons, h1', Bool.and_false, Bool.and_false]
    · cases h

theorem numloop (s : ByteArray) (hs : (bs s).length ≤ 6) {F : Int × Int → Option (Ctl (Int × Int) (Int × Bool))} {k : (Int × Int) ⊕ (Int × Bool) → Option (Int × Bool)} {r : Option (Int × Bool)}
    (hF : ∀ v i : Nat, v < 10000000 → i ≤ (bs s).length → F ((v : Int), (i : Int)) = match (bs s)[i]? with | none => some (.brk ((v : Int), (i : Int))) | some b => if isD b = true then some (.next (((v * 10 + (b.toNat - 48) : Nat) : Int), ((i + 1 : Nat) : Int))) else some (.ret (0, false)))
    (h1 : ∀ n, (bs s).all isD = true → Lib.decFrom 0 (bs s) = some n → ∀ i, k (.inl ((n : Int), i)) = r) (h2 : (bs s).all isD = false → k (.inr (0, false)) = r) : bind1 (loopN F FU (0, 0)) k = r := by
  obtain ⟨o, e1, e2⟩ := loopN_inv (F := F) (fun st => ∃ v i : Nat, st = ((v : Int), (i : Int)) ∧ i ≤ (bs s).length ∧ (∀ b ∈ (bs s).take i, isD b = true) ∧ Lib.decFrom 0 ((bs s).take i) = some v) (fun st => (bs s).length - st.2.toNat) (fun o => k o = r) (by
    rintro st ⟨v, i, rfl, hi, ha, hv⟩
    have hvl := decFrom_lt _ 0 v hv
    have htl : ((bs s).take i).length = i := by rw [List.length_take]; omega
    have hp : 10 ^ ((bs s).take i).length ≤ 10 ^ 6 := Nat.pow_le_pow_right (by decide) (by omega)
    rw [hF v i (by omega) hi]
    cases hb : (bs s)[i]? with
    | none =>
      have hle : (bs s).length ≤ i := List.getElem?_eq_none_iff.1 hb
      rw [List.take_of_length_le hle] at ha hv
      exact .inr (.inl ⟨_, rfl, h1 v (List.all_eq_true.2 ha) hv _⟩)
    | some b =>
      have hlt : i < (bs s).length := (List.getElem?_eq_some_iff.1 hb).1
      simp only
      by_cases hq : isD b = true
      · rw [if_pos hq]
        refine .inl ⟨_, rfl, ⟨v * 10 + (b.toNat - 48), i + 1, rfl, by omega, ?_, ?_⟩, by simp only [Int.toNat_natCast]; omega⟩
        · intro c hc
          rw [List.take_add_one, hb] at hc
          rcases List.mem_append.1 hc with hc | hc
          · exact ha c hc
          · simp at hc; rw [hc]; exact hq
        · rw [List.take_add_one, hb]
          show Lib.decFrom 0 ((bs s).take i ++ [b]) = _
          rw [decFrom_snoc, hv, digitVal_of hq]
          rfl
      · rw [if_neg hq]
        exact .inr (.inr ⟨_, rfl, h2 (Bool.eq_false_iff.2 fun hall => hq (List.all_eq_true.1 hall b (List.mem_of_getElem? hb)))⟩))
    FU (0, 0) ⟨0, 0, rfl, Nat.zero_le _, by simp, by simp [Lib.decFrom]⟩ (FU_lt (by simp only [Int.toNat_zero]; omega))
  rw [e1, bind1_of, e2]

theorem ref14_number_eq (s : ByteArray) : ref14_number s = some (match numB (bs s) with | some n => ((n : Int), true) | none => (0, false)) := by
  unfold ref14_number
  simp only [joinB_eq, slen_eq, ilt_iff, igt_iff]
  unfold numB
  by_cases h1 : ((bs s).length : Int) < 1
  · rw [if_pos h1, if_pos trivial, if_neg (by omega)]
  rw [if_neg h1]
  by_cases h2 : (6 : Int) < ((bs s).length : Int)
  · rw [if_pos h2, if_pos trivial, if_neg (by omega)]
  rw [if_neg h2]
  obtain ⟨b, r, hbr⟩ : ∃ b r, bs s = b :: r := by
    cases hq : bs s with
    | nil => rw [hq] at h1; simp at h1
    | cons b r => exact ⟨b, r, rfl⟩
  have e3 : sget s 0 = some (b.toNat : Int) := by
    have := sget_eq s 0
    rw [hbr] at this
    simpa using this
  have e48 : ieq (b.toNat : Int) 48 = decide (b = 48) := ieq_byte b 48 (by decide)
  rw [e3, bind1_of, e48]
  have loop : ∀ (P : Prop) [Decidable P], (¬ P) → ((if P then some (0, false) else bind1 (loopN (un2 fun (v159 : Int) (v160 : Int) =>
      if v160 < ((bs s).length : Int) then (
      bind1 (sget s v160) fun x196 =>
      bind1 (ref14_digit x196) fun x198 =>
      if x198 = true then (
      some (.next ((isub .i64 (iadd .i64 (imul .i64 v159 10) (conv .i64 x196)) 48), (iadd .i64 v160 1))))
      else (
      some (.ret (0, false))))
      else (
      some (.brk (v159, v160))) : Int × Int → Option (Ctl (Int × Int) (Int × Bool))) FU (0, 0)) (sumK (un2 fun (v159 : Int) (v160 : Int) => some (v159, true)) (fun r => some r))) : Option (Int × Bool)) =
      some (if (bs s).all isD = true then ((match Lib.decFrom 0 (bs s) with | some n => ((n : Int), true) | none => (0, false))) else (0, false)) := by
    intro P _ hP
    rw [if_neg hP]
    refine numloop s (by omega) (fun v i hv hi => ?_) (fun n ha hn i => ?_) (fun ha => ?_)
    · simp only [un2]
      by_cases hlt : i < (bs s).length
      · rw [if_pos (by omega), sget_eq, List.getElem?_eq_getElem hlt]
        simp only [Option.map_some, bind1_of, refdigit_eq]
        generalize (bs s)[i] = c
        by_cases hq : isD c = true
        · rw [if_pos hq, if_pos hq]
          have hc := u8_lt c
          have hq' : 48 ≤ c.toNat ∧ c.toNat ≤ 57 := by simpa [isD] using hq
          have hcv : conv .i64 (c.toNat : Int) = c.toNat := wrap_in (by omega) (by omega)
          rw [hcv, imul_in (by omega) (by omega), iadd_in (a := (v : Int) * 10) (by omega) (by omega), isub_in (by omega) (by omega), iadd_in (a := (i : Int)) (by omega) (by omega)]
          congr 3 <;> omega
        · rw [if_neg hq, if_neg hq]
      · rw [if_neg (by omega), List.getElem?_eq_none (by omega)]
    · rw [if_pos ha, hn]; rfl
    · rw [if_neg (by rw [ha]; decide)]; rfl
  by_cases h4 : b = 48
  · rw [decide_eq_true h4, if_pos rfl]
    by_cases h5 : (1 : Int) < ((bs s).length : Int)
    · rw [if_pos h5, if_neg (fun hh => hh.2.2 ⟨by rw [hbr, h4]; rfl, by omega⟩)]
    · refine (loop _ h5).trans ?_
      by_cases h6 : (bs s).all isD = true
      · rw [if_pos h6, if_pos ⟨⟨by omega, by omega⟩, h6, fun hh => h5 (by omega)⟩]
      · rw [if_neg h6, if_neg (fun hh => h6 hh.2.1)]
  · rw [decide_eq_false h4, if_neg (by decide)]
    refine (loop _ (by decide)).trans ?_
    by_cases h6 : (bs s).all isD = true
    · rw [if_pos h6, if_pos ⟨⟨by omega, by omega⟩, h6, fun hh => h4 (by rw [hbr] at hh; simpa using hh.1)⟩]
    · rw [if_neg h6, if_neg (fun hh => h6 hh.2.1)]

theorem ref14_word_eq (s : ByteArray) (i : Nat) (hs : bs s ≠ []) (hl : (bs s).length ≤ 100000) : ∃ t, ref14_word s (i : Int) = some (t, (wordB i (bs s)).isSome) ∧ ∀ u, wordB i (bs s) = some u → t = u := by
  unfold ref14_word
  rw [ref14_number_eq, bind2_pair]
  cases h1 : numB (bs s) with
  | some n =>
    have h2 := num_not_name h1
    simp only [if_true]
    refine ⟨⟨4, n, i, .empty⟩, ?_, fun u hu => ?_⟩
    · rw [wordB, if_neg (by rw [h2]; decide), h1]; rfl
    · rw [wordB, if_neg (by rw [h2]; decide), h1] at hu
      exact Option.some.inj hu
  | none =>
    simp only [joinB_eq, Bool.false_eq_true, if_false]
    obtain ⟨b, r, hbr⟩ : ∃ b r, bs s = b :: r := by
      cases hq : bs s with
      | nil => exact absurd hq hs
      | cons b r => exact ⟨b, r, rfl⟩
    have e3 : sget s 0 = some (b.toNat : Int) := by
      have := sget_eq s 0
      rw [hbr] at this
      simpa using this
    have e120 : ieq (b.toNat : Int) 120 = decide (b = 120) := ieq_byte b 120 (by decide)
    rw [e3, bind1_of, e120, slen_eq]
    simp only [igt_iff, decide_eq_true_iff]
    have name : (∀ n, (bs s).head? = some 120 → numB (bs s).tail = some n → False) → ∃ t, (bind1 (ref14_Name s) fun x57 => some (Tkn.mk 3 0 (i : Int) s, x57)) = some (t, (wordB i (bs s)).isSome) ∧ ∀ u, wordB i (bs s) = some u → t = u := by
      intro hno
      rw [ref14_Name_eq, bind1_of]
      unfold wordB
      by_cases h2 : nameB (bs s) = true
      · rw [if_pos h2, h2]
        exact ⟨_, rfl, fun u hu => by rw [← Option.some.inj hu]; congr 1⟩
      · have h2' : nameB (bs s) = false := by simpa using h2
        rw [if_neg h2, h2', h1]
        simp only
        by_cases h3 : (bs s).head? = some 120
        · rw [if_pos h3]
          cases h4 : numB (bs s).tail with
          | none => exact ⟨_, rfl, fun u hu => by cases hu⟩
          | some n => exact absurd h4 (fun h => hno n h3 h)
        · rw [if_neg h3]
          exact ⟨_, rfl, fun u hu => by cases hu⟩
    by_cases h3 : b = 120
    · rw [if_pos h3]
      by_cases h5 : (1 : Int) < ((bs s).length : Int)
      · rw [if_pos h5]
        obtain ⟨t, e1, e2⟩ := sslice_eq s 1 (bs s).length (by omega) (Nat.le_refl _)
        have e2' : bs t = (bs s).tail := by rw [e2, List.take_length, List.drop_one]
        rw [show ((1 : Nat) : Int) = 1 from rfl] at e1
        rw [e1, bind1_of, ref14_number_eq, e2', bind2_pair]
        cases h4 : numB (bs s).tail with
        | some n =>
          have h2 := tail_not_name h4
          simp only [if_true]
          refine ⟨⟨5, n, i, .empty⟩, ?_, fun u hu => ?_⟩
          · rw [wordB, if_neg (by rw [h2]; decide), h1]
            simp only
            rw [if_pos (by rw [hbr, h3]; rfl), h4]; rfl
          · rw [wordB, if_neg (by rw [h2]; decide), h1] at hu
            simp only at hu
            rw [if_pos (by rw [hbr, h3]; rfl), h4] at hu
            exact Option.some.inj hu
        | none =>
          simp only [Bool.false_eq_true, if_false]
          exact name fun n _ h => by rw [h4] at h; cases h
      · rw [if_neg h5]
        refine name fun n _ h => ?_
        have : (bs s).tail = [] := by
          rw [hbr] at h5 ⊢
          cases r with
          | nil => rfl
          | cons _ _ => simp only [List.length_cons] at h5; omega
        rw [this] at h
        simp [numB] at h
    · rw [if_neg h3]
      exact name fun n h _ => h3 (by rw [hbr] at h; simpa using h)
end Go.Mdl
