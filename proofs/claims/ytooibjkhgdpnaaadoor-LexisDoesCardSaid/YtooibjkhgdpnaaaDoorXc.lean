/-
  lexis.Tokens is cutting in plain words.
-/
import Derived.Test.YtooibjkhgdpnaaaDoorXb
set_option linter.unusedSimpArgs false
set_option linter.unusedVariables false
namespace Go.Mdl
open Go

theorem takeWhile_eq (p : UInt8 → Bool) : ∀ (L : List UInt8) (m : Nat), m ≤ L.length → (∀ b ∈ L.take m, p b = true) → (∀ b, L[m]? = some b → p b = false) → (L.takeWhile p) = L.take m
  | [], m, hm, _, _ => by simp
  | b :: r, 0, _, _, h => by
    have := h b rfl
    simp [List.takeWhile_cons, this]
  | b :: r, m + 1, hm, h1, h2 => by
    have hb : p b = true := h1 b (by simp)
    rw [List.takeWhile_cons, if_pos hb, List.take_succ_cons, takeWhile_eq p r m (by simpa using hm) (fun c hc => h1 c (by simp [hc])) (fun c hc => h2 c (by simpa using hc))]

theorem loop_word (s : ByteArray) (i : Nat) (hi : i ≤ (bs s).length) (hs : (bs s).length ≤ 8192) {ρ : Type} (F : Int → Option (Ctl Int ρ))
    (hF : ∀ k : Nat, F (k : Int) = match (bs s)[k]? with | none => some (.brk (k : Int)) | some b => if isW b = true then some (.next ((k + 1 : Nat) : Int)) else some (.brk (k : Int))) :
    loopN F FU (i : Int) = some (.inl ((i + (((bs s).drop i).takeWhile isW).length : Nat) : Int)) := by
  obtain ⟨o, h1, h2⟩ := loopN_inv (F := F) (fun e => ∃ k : Nat, e = k ∧ i ≤ k ∧ k ≤ (bs s).length ∧ ∀ b ∈ ((bs s).drop i).take (k - i), isW b = true)
    (fun e => (bs s).length - e.toNat) (fun o => o = .inl ((i + (((bs s).drop i).takeWhile isW).length : Nat) : Int)) (by
      rintro e ⟨k, rfl, h1, h2, h3⟩
      have stop : (∀ b, (bs s)[k]? = some b → isW b = false) → (k : Int) = ((i + (((bs s).drop i).takeWhile isW).length : Nat) : Int) := by
        intro h
        rw [takeWhile_eq isW ((bs s).drop i) (k - i) (by rw [List.length_drop]; omega) h3 (fun b hb => h b (by rw [List.getElem?_drop] at hb; rwa [show i + (k - i) = k by omega] at hb)), List.length_take, List.length_drop]
        omega
      rw [hF k]
      cases hk : (bs s)[k]? with
      | none => exact .inr (.inl ⟨_, rfl, congrArg _ (stop fun b hb => by rw [hk] at hb; cases hb)⟩)
      | some b =>
        have hlt : k < (bs s).length := (List.getElem?_eq_some_iff.1 hk).1
        simp only
        by_cases hw : isW b = true
        · rw [if_pos hw]
          refine .inl ⟨_, rfl, ⟨k + 1, rfl, by omega, by omega, ?_⟩, by simp only [Int.toNat_natCast]; omega⟩
          intro c hc
          rw [show k + 1 - i = (k - i) + 1 by omega, List.take_add_one, List.getElem?_drop, show i + (k - i) = k by omega, hk] at hc
          rcases List.mem_append.1 hc with hc | hc
          · exact h3 c hc
          · simp at hc; rw [hc]; exact hw
        · rw [if_neg hw]
          exact .inr (.inl ⟨_, rfl, congrArg _ (stop fun c hc => by rw [hk] at hc; rw [← Option.some.inj hc]; simpa using hw)⟩))
    FU (i : Int) ⟨i, rfl, Nat.le_refl _, hi, by simp⟩ (FU_lt (by simp only [Int.toNat_natCast]; omega))
  rw [h1, h2]

theorem cons_map {α : Type} (acc : List α) (t : α) (o : Option (List α)) : (o.map (t :: ·)).map (acc ++ ·) = o.map ((acc ++ [t]) ++ ·) := by
  cases o <;> simp

/-- A round of the loop that cuts. -/
def cutStep (l : List UInt8) (acc : List Tkn) (i : Nat) : Ctl (List Tkn × Int) (List Tkn × Int) :=
  match l[i]? with
  | none => .brk (acc, (i : Int))
  | some b =>
    if b = 32 ∨ b = 10 then .next (acc, ((i + 1 : Nat) : Int))
    else if b = 40 then .next (acc ++ [⟨1, 0, i, .empty⟩], ((i + 1 : Nat) : Int))
    else if b = 41 then .next (acc ++ [⟨2, 0, i, .empty⟩], ((i + 1 : Nat) : Int))
    else match wordB i ((l.drop i).takeWhile isW) with
      | none => .ret ([], 15)
      | some t => .next (acc ++ [t], ((i + ((l.drop i).takeWhile isW).length : Nat) : Int))

theorem cut_loop (l : List UInt8) (hl : l.length ≤ 8192) {F : List Tkn × Int → Option (Ctl (List Tkn × Int) (List Tkn × Int))}
    (hF : ∀ (acc : List Tkn) (i : Nat), i ≤ l.length → acc.length ≤ i → F (acc, (i : Int)) = some (cutStep l acc i)) :
    loopN F FU ([], 0) = some (match scan 0 l with | some ts => .inl (ts, (l.length : Int)) | none => .inr ([], 15)) ∧ ∀ ts, scan 0 l = some ts → ts.length ≤ 8192 := by
  obtain ⟨o, h1, h2⟩ := loopN_inv (F := F) (fun st => ∃ i : Nat, st.2 = i ∧ i ≤ l.length ∧ st.1.length ≤ i ∧ scan 0 l = (scan i (l.drop i)).map (st.1 ++ ·))
    (fun st => l.length - st.2.toNat) (fun o => o = (match scan 0 l with | some ts => .inl (ts, (l.length : Int)) | none => .inr ([], 15)) ∧ ∀ ts, scan 0 l = some ts → ts.length ≤ 8192) (by
      rintro ⟨acc, p⟩ ⟨i, hp, hi, hacc, hs⟩
      simp only at hp hacc hs
      subst hp
      rw [hF acc i hi hacc]
      unfold cutStep
      cases hb : l[i]? with
      | none =>
        have hil : l.length ≤ i := List.getElem?_eq_none_iff.1 hb
        rw [List.drop_eq_nil_of_le hil, scan_nil] at hs
        simp only [Option.map_some, List.append_nil] at hs
        refine .inr (.inl ⟨_, rfl, ?_, fun ts ht => ?_⟩)
        · rw [hs, show i = l.length by omega]
        · rw [hs] at ht; rw [← Option.some.inj ht]; omega
      | some b =>
        have hlt : i < l.length := (List.getElem?_eq_some_iff.1 hb).1
        have hd : l.drop i = b :: l.drop (i + 1) := by rw [List.drop_eq_getElem_cons hlt, (List.getElem?_eq_some_iff.1 hb).2]
        rw [hd] at hs
        simp only
        by_cases c1 : b = 32 ∨ b = 10
        · rw [if_pos c1]
          rw [scan_sp c1] at hs
          exact .inl ⟨_, rfl, ⟨i + 1, rfl, by omega, by simp only; omega, hs⟩, by simp only [Int.toNat_natCast]; omega⟩
        rw [if_neg c1]
        by_cases c2 : b = 40
        · rw [if_pos c2]
          subst c2
          rw [scan_open, cons_map] at hs
          exact .inl ⟨_, rfl, ⟨i + 1, rfl, by omega, by simp only [List.length_append, List.length_cons, List.length_nil]; omega, hs⟩, by simp only [Int.toNat_natCast]; omega⟩
        rw [if_neg c2]
        by_cases c3 : b = 41
        · rw [if_pos c3]
          subst c3
          rw [scan_close, cons_map] at hs
          exact .inl ⟨_, rfl, ⟨i + 1, rfl, by omega, by simp only [List.length_append, List.length_cons, List.length_nil]; omega, hs⟩, by simp only [Int.toNat_natCast]; omega⟩
        rw [if_neg c3]
        rw [scan_word ⟨c1, c2, c3⟩, ← hd] at hs
        have hlen := takeWhile_len isW (l.drop i)
        rw [List.length_drop] at hlen
        cases hw : wordB i ((l.drop i).takeWhile isW) with
        | none =>
          rw [hw] at hs
          simp only [Option.map_none] at hs
          refine .inr (.inr ⟨_, rfl, ?_, fun ts ht => ?_⟩)
          · rw [hs]
          · rw [hs] at ht; cases ht
        | some t =>
          rw [hw] at hs
          simp only at hs
          have hpos : 0 < ((l.drop i).takeWhile isW).length := by
            cases hq : (l.drop i).takeWhile isW with
            | nil => rw [hq, wordB_nil] at hw; cases hw
            | cons _ _ => simp
          rw [cons_map, List.drop_drop] at hs
          exact .inl ⟨_, rfl, ⟨i + ((l.drop i).takeWhile isW).length, rfl, by omega, by simp only [List.length_append, List.length_cons, List.length_nil]; omega, hs⟩, by simp only [Int.toNat_natCast]; omega⟩)
    FU ([], 0) ⟨0, rfl, Nat.zero_le _, Nat.zero_le _, by simp⟩ (FU_lt (by simp only [Int.toNat_zero]; omega))
  exact ⟨by rw [h1, h2.1], h2.2⟩

theorem cut_use (l : List UInt8) (hl : l.length ≤ 8192) {F : List Tkn × Int → Option (Ctl (List Tkn × Int) (List Tkn × Int))} {k : (List Tkn × Int) ⊕ (List Tkn × Int) → Option (List Tkn × Int)} {r : Option (List Tkn × Int)}
    (hF : ∀ (acc : List Tkn) (i : Nat), i ≤ l.length → acc.length ≤ i → F (acc, (i : Int)) = some (cutStep l acc i))
    (hk : k (match scan 0 l with | some ts => .inl (ts, (l.length : Int)) | none => .inr ([], 15)) = r) : bind1 (loopN F FU ([], 0)) k = r := by
  rw [(cut_loop l hl hF).1, bind1_of, hk]

theorem word_use (s : ByteArray) (i : Nat) (hi : i ≤ (bs s).length) (hs : (bs s).length ≤ 8192) {ρ τ : Type} {F : Int → Option (Ctl Int ρ)} {k : Int ⊕ ρ → Option τ} {r : Option τ}
    (hF : ∀ k : Nat, F (k : Int) = match (bs s)[k]? with | none => some (.brk (k : Int)) | some b => if isW b = true then some (.next ((k + 1 : Nat) : Int)) else some (.brk (k : Int)))
    (hk : k (.inl ((i + (((bs s).drop i).takeWhile isW).length : Nat) : Int)) = r) : bind1 (loopN F FU (i : Int)) k = r := by
  rw [loop_word s i hi hs F hF, bind1_of, hk]

theorem ieq_byte (b : UInt8) (k : Nat) (hk : k < 256) : ieq (b.toNat : Int) (k : Int) = decide (b = UInt8.ofNat k) := by
  refine Bool.eq_iff_iff.2 (by rw [ieq_iff, decide_eq_true_iff]; constructor
                               · intro h
                                 apply UInt8.toNat.inj
                                 rw [UInt8.toNat_ofNat']
                                 omega
                               · rintro rfl
                                 rw [UInt8.toNat_ofNat']
                                 omega)

theorem lexis_Tokens_eq (s : ByteArray) : lexis_Tokens s = some (tokensB (bs s)) := by
  unfold lexis_Tokens tokensB
  rw [slen_eq]
  by_cases h0 : 8192 < (bs s).length
  · rw [if_pos (by rw [igt_iff]; omega), if_pos h0]
  rw [if_neg (by rw [igt_iff]; omega), if_neg h0]
  simp only [joinB_eq]
  refine cut_use (bs s) (by omega) (fun acc i hi hacc => ?_) ?_
  · simp only [un2, ilt_iff]
    unfold cutStep
    by_cases hlt : i < (bs s).length
    · rw [if_pos (by omega), sget_eq, List.getElem?_eq_getElem hlt]
      generalize hb : (bs s)[i] = b
      have hdrop : (bs s).drop i = b :: (bs s).drop (i + 1) := by rw [List.drop_eq_getElem_cons hlt, hb]
      have hadd : iadd .i64 (i : Int) 1 = ((i + 1 : Nat) : Int) := by rw [iadd_in (by omega) (by omega)]; omega
      have e32 : ieq (b.toNat : Int) 32 = decide (b = 32) := ieq_byte b 32 (by decide)
      have e10 : ieq (b.toNat : Int) 10 = decide (b = 10) := ieq_byte b 10 (by decide)
      have e40 : ieq (b.toNat : Int) 40 = decide (b = 40) := ieq_byte b 40 (by decide)
      have e41 : ieq (b.toNat : Int) 41 = decide (b = 41) := ieq_byte b 41 (by decide)
      simp only [Option.map_some, bind1_of, sel_or, Bool.or_eq_true, e32, e10, e40, e41, decide_eq_true_iff, hadd, lapp_eq]
      by_cases c1 : b = 32 ∨ b = 10
      · rw [if_pos c1, if_pos c1]
      rw [if_neg c1, if_neg c1]
      by_cases c2 : b = 40
      · rw [if_pos c2, if_pos c2, okApp_of (by simp only [List.length_cons, List.length_nil]; omega), chk_true]
      rw [if_neg c2, if_neg c2]
      by_cases c3 : b = 41
      · rw [if_pos c3, if_pos c3, okApp_of (by simp only [List.length_cons, List.length_nil]; omega), chk_true]
      rw [if_neg c3, if_neg c3]
      refine word_use s i (by omega) (by omega) (fun k => ?_) ?_
      · by_cases hk : k < (bs s).length
        · rw [if_pos (by omega), sget_eq, List.getElem?_eq_getElem hk]
          simp only [Option.map_some, bind1_of, letter_eq, digit_eq]
          unfold isW
          have hk1 : iadd .i64 (k : Int) 1 = ((k + 1 : Nat) : Int) := by rw [iadd_in (by omega) (by omega)]; omega
          rw [hk1]
          cases isL (bs s)[k] <;> cases isD (bs s)[k] <;> simp
        · rw [if_neg (by omega), List.getElem?_eq_none (by omega)]
          simp
      · simp only [sumK_inl]
        have hlen := takeWhile_len isW ((bs s).drop i)
        rw [List.length_drop] at hlen
        have htw : ((bs s).take (i + (((bs s).drop i).takeWhile isW).length)).drop i = ((bs s).drop i).takeWhile isW := by
          rw [List.drop_take, Nat.add_sub_cancel_left]
          exact (List.prefix_iff_eq_take.1 (List.takeWhile_prefix isW)).symm
        obtain ⟨w, e1, e2⟩ := sslice_eq s i (i + (((bs s).drop i).takeWhile isW).length) (by omega) (by omega)
        rw [htw] at e2
        rw [e1, bind1_of]
        obtain ⟨t, e3, e4⟩ := lexis_word_eq w
        rw [e3, bind2_of, wordB_at i]
        rw [e2] at e4 ⊢
        cases hw : wordB 0 (((bs s).drop i).takeWhile isW) with
        | none => simp
        | some u =>
          obtain rfl := e4 u hw
          simp only [Option.isSome_some, if_true, Option.map_some]
          rw [okApp_of (by simp only [List.length_cons, List.length_nil]; omega), chk_true]
    · rw [if_neg (by omega), List.getElem?_eq_none (by omega)]
  · cases hs : scan 0 (bs s) with
    | none => rfl
    | some ts =>
      simp only [sumK_inl, un2, llen_eq, igt_iff]
      by_cases hc : 2048 < ts.length
      · rw [if_pos (by omega), if_pos hc]
      · rw [if_neg (by omega), if_neg hc]
end Go.Mdl
