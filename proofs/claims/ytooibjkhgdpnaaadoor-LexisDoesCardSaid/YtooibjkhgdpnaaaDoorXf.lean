/-
  LexisJoins: the tokens of two texts with a space between are those of both.
-/
import Derived.Test.YtooibjkhgdpnaaaDoorXe
set_option linter.unusedSimpArgs false
set_option linter.unusedVariables false
namespace Go.Mdl
open Go

/-- A token at another place. -/
def Tkn.shift (k : Nat) (t : Tkn) : Tkn := ⟨t.kind, t.num, t.atF + k, t.text⟩

theorem wordB_shift (i k : Nat) (l : List UInt8) : wordB (i + k) l = (wordB i l).map (Tkn.shift k) := by
  rw [wordB_at (i + k), wordB_at i]
  cases wordB 0 l <;> simp [Tkn.shift]

theorem map_shift (k : Nat) (t : Tkn) (o : Option (List Tkn)) : (o.map (List.map (Tkn.shift k))).map (t.shift k :: ·) = (o.map (t :: ·)).map (List.map (Tkn.shift k)) := by
  cases o <;> rfl

theorem scanF_shift : ∀ (f i k : Nat) (l : List UInt8), scanF f (i + k) l = (scanF f i l).map (List.map (Tkn.shift k))
  | f, i, k, [] => by cases f <;> rfl
  | 0, i, k, b :: r => rfl
  | f + 1, i, k, b :: r => by
    have ih := fun j m => scanF_shift f j k m
    simp only [scanF]
    split
    · rw [show i + k + 1 = (i + 1) + k by omega, ih]
    split
    · rw [show i + k + 1 = (i + 1) + k by omega, ih, ← map_shift]
      rfl
    split
    · rw [show i + k + 1 = (i + 1) + k by omega, ih, ← map_shift]
      rfl
    · rw [wordB_shift]
      cases wordB i ((b :: r).takeWhile isW) with
      | none => rfl
      | some t =>
        simp only [Option.map_some]
        rw [show i + k + ((b :: r).takeWhile isW).length = i + ((b :: r).takeWhile isW).length + k by omega, ih, map_shift]

theorem scan_shift (i k : Nat) (l : List UInt8) : scan (i + k) l = (scan i l).map (List.map (Tkn.shift k)) := scanF_shift _ _ _ _

/-- Two lists of tokens, if both are there. -/
def both : Option (List Tkn) → Option (List Tkn) → Option (List Tkn)
  | some a, some b => some (a ++ b)
  | _, _ => none
theorem both_cons (t : Tkn) (x y : Option (List Tkn)) : both (x.map (t :: ·)) y = (both x y).map (t :: ·) := by
  cases x <;> cases y <;> rfl

theorem takeWhile_sp (l m : List UInt8) : (l ++ 32 :: m).takeWhile isW = l.takeWhile isW := by
  induction l with
  | nil => rfl
  | cons b l ih =>
    simp only [List.cons_append, List.takeWhile_cons]
    rw [ih]

theorem scan_join : ∀ (n i : Nat) (l m : List UInt8), l.length ≤ n → scan i (l ++ 32 :: m) = both (scan i l) (scan (i + l.length + 1) m)
  | n, i, [], m, _ => by
    rw [List.nil_append, scan_sp (.inl rfl), scan_nil]
    cases scan (i + 1) m with
    | none => simp [both, *]
    | some b => simp [both, *]
  | 0, i, b :: r, m, h => by simp at h
  | n + 1, i, b :: r, m, h => by
    have h' : r.length ≤ n := by simpa using h
    have e1 : i + 1 + r.length + 1 = i + (b :: r).length + 1 := by simp only [List.length_cons]; omega
    by_cases c1 : b = 32 ∨ b = 10
    · rw [List.cons_append, scan_sp c1, scan_sp c1, scan_join n (i + 1) r m h', e1]
    by_cases c2 : b = 40
    · subst c2
      rw [List.cons_append, scan_open, scan_open, both_cons, scan_join n (i + 1) r m h', e1]
    by_cases c3 : b = 41
    · subst c3
      rw [List.cons_append, scan_close, scan_close, both_cons, scan_join n (i + 1) r m h', e1]
    rw [List.cons_append, scan_word ⟨c1, c2, c3⟩, scan_word ⟨c1, c2, c3⟩, ← List.cons_append, takeWhile_sp]
    cases hw : wordB i ((b :: r).takeWhile isW) with
    | none => rfl
    | some t =>
      simp only
      have hpos : 0 < ((b :: r).takeWhile isW).length := by
        cases hq : (b :: r).takeWhile isW with
        | nil => rw [hq, wordB_nil] at hw; cases hw
        | cons _ _ => simp
      have hle := takeWhile_len isW (b :: r)
      rw [both_cons, List.drop_append_of_le_length hle, scan_join n _ _ m (by rw [List.length_drop]; simp only [List.length_cons] at h ⊢; omega), List.length_drop]
      congr 3
      omega

/-- The same token, but for its place. -/
def sameT (x y : Tkn) : Bool := Tkn.eqB (Tkn.mk x.kind x.num 0 x.text) (Tkn.mk y.kind y.num 0 y.text)
theorem sameT_iff (x y : Tkn) : sameT x y = true ↔ x.kind = y.kind ∧ x.num = y.num ∧ x.text = y.text := by
  simp [sameT, Tkn.eqB, seq_iff, ieq_iff]

theorem forR_twoU {F : Int → Tkn → Unit → Option (Ctl Unit (Bool × Unit))} (p : Tkn → Tkn → Bool) (M : List Tkn) : ∀ (l : List Tkn) (i : Nat) (m : List Tkn), m = M.drop i → l.length = m.length →
    (∀ (k : Nat) x y, M[k]? = some y → F (k : Int) x () = some (if p x y = true then .next () else .ret (false, ()))) →
    forR F l i () = some (if all2B p l m = true then .inl () else .inr (false, ()))
  | [], i, m, hm, hl, hF => by
    have : m = [] := List.eq_nil_of_length_eq_zero hl.symm
    subst this
    rfl
  | x :: l, i, [], hm, hl, hF => by simp at hl
  | x :: l, i, y :: m, hm, hl, hF => by
    have hy : M[i]? = some y := by
      have : (M.drop i)[0]? = some y := by rw [← hm]; rfl
      simpa using this
    have hm' : m = M.drop (i + 1) := by
      rw [← List.tail_drop, ← hm]; rfl
    rw [forR_cons, hF i x y hy]
    by_cases hp : p x y = true
    · rw [if_pos hp]
      simp only [bind1_of, ctlK_next]
      rw [forR_twoU p M l (i + 1) m hm' (by simpa using hl) hF]
      simp [all2B, hp]
    · rw [if_neg hp]
      simp [all2B, hp]

theorem lexis_Same_eq (a b : List Tkn) (ha : a.length ≤ 1000000) : lexis_Same a b = some (decide (a.length = b.length) && all2B sameT a b) := by
  unfold lexis_Same slices_EqualFunc_api_Token_api_Token_api_Token_api_Token
  simp only [llen_eq, ine_iff, joinB_eq]
  by_cases h : (a.length : Int) ≠ (b.length : Int)
  · rw [if_pos h, bind2_of, decide_eq_false (by omega), Bool.false_and]
  · rw [if_neg h, okLen_of (by omega), chk_true]
    have hl : a.length = b.length := by omega
    rw [forR_twoU sameT b a 0 b rfl hl (fun k x y hy => ?_)]
    · rw [bind1_of, decide_eq_true hl, Bool.true_and]
      by_cases hq : all2B sameT a b = true
      · rw [if_pos hq, hq]; rfl
      · rw [if_neg hq]
        have : all2B sameT a b = false := by simpa using hq
        rw [this]; rfl
    · rw [lget_ofNat, hy, bind1_of]
      have e : lexis_Same_1 x y = some (sameT x y) := rfl
      rw [e, pureW_some', bind2_of]
      cases sameT x y <;> rfl

theorem all2B_shift (k : Nat) : ∀ (a b : List Tkn), all2B sameT (a ++ b.map (Tkn.shift k)) (a ++ b) = true
  | [], [] => rfl
  | [], y :: b => by
    have : all2B sameT (b.map (Tkn.shift k)) b = true := all2B_shift k [] b
    simp only [List.nil_append, List.map_cons, all2B, this, Bool.and_true]
    rw [sameT_iff]
    exact ⟨rfl, rfl, rfl⟩
  | x :: a, b => by
    simp only [List.cons_append, all2B, all2B_shift k a b, Bool.and_true]
    rw [sameT_iff]
    exact ⟨rfl, rfl, rfl⟩

theorem tokensB_e (l : List UInt8) : (tokensB l).2 = 15 ↔ l.length ≤ 8192 ∧ scan 0 l = none := by
  unfold tokensB
  split
  · simp; omega
  · split
    · rename_i h; simp [h]; omega
    · rename_i h; split <;> simp [h]
theorem tokensB_0 (l : List UInt8) (h : (tokensB l).2 = 0) : l.length ≤ 8192 ∧ scan 0 l = some (tokensB l).1 ∧ (tokensB l).1.length ≤ 2048 := by
  unfold tokensB at h ⊢
  split at h
  · simp at h
  · rename_i h0
    split at h
    · simp at h
    · rename_i ts hs
      split at h
      · simp at h
      · rename_i h1
        rw [if_neg h0, hs]
        rw [if_neg h1]
        exact ⟨by omega, rfl, by show ts.length ≤ 2048; omega⟩

theorem scan_len : ∀ (n i : Nat) (l : List UInt8) (ts : List Tkn), l.length ≤ n → scan i l = some ts → ts.length ≤ l.length
  | n, i, [], ts, _, h => by rw [scan_nil] at h; rw [← Option.some.inj h]; simp
  | 0, i, b :: r, ts, hn, _ => by simp at hn
  | n + 1, i, b :: r, ts, hn, h => by
    have hn' : r.length ≤ n := by simpa using hn
    have step : ∀ (t : Tkn) (o : Option (List Tkn)) (k : Nat), (∀ us, o = some us → us.length ≤ k) → o.map (t :: ·) = some ts → ts.length ≤ k + 1 := by
      intro t o k ho hm
      cases o with
      | none => cases hm
      | some us =>
        rw [← Option.some.inj hm]
        have := ho us rfl
        simp only [List.length_cons]; omega
    by_cases c1 : b = 32 ∨ b = 10
    · rw [scan_sp c1] at h
      have := scan_len n _ r ts hn' h
      simp only [List.length_cons]; omega
    by_cases c2 : b = 40
    · subst c2
      rw [scan_open] at h
      exact step _ _ _ (fun us hu => scan_len n _ r us hn' hu) h
    by_cases c3 : b = 41
    · subst c3
      rw [scan_close] at h
      exact step _ _ _ (fun us hu => scan_len n _ r us hn' hu) h
    rw [scan_word ⟨c1, c2, c3⟩] at h
    cases hw : wordB i ((b :: r).takeWhile isW) with
    | none => rw [hw] at h; cases h
    | some t =>
      rw [hw] at h
      have hpos : 0 < ((b :: r).takeWhile isW).length := by
        cases hq : (b :: r).takeWhile isW with
        | nil => rw [hq, wordB_nil] at hw; cases hw
        | cons _ _ => simp
      refine step _ _ _ (fun us hu => ?_) h
      have := scan_len n _ _ us (by rw [List.length_drop]; simp only [List.length_cons] at hn ⊢; omega) hu
      rw [List.length_drop] at this
      simp only [List.length_cons] at this
      omega

/-- What the law asks of two texts. -/
theorem joins_round {s u : ByteArray} {J : Option (Ctl Unit Bool)} {R : Option (Ctl Unit Bool)} (hs : (bs s).length + (bs u).length ≤ 100000) :
    (bind2 (lexis_Tokens s) fun x1414 x1415 =>
      bind2 (lexis_Tokens u) fun x1424 x1425 =>
      chk (okCat s (ByteArray.mk #[32])) <|
      chk (okCat (s ++ (ByteArray.mk #[32])) u) <|
      bind2 (lexis_Tokens ((s ++ (ByteArray.mk #[32])) ++ u)) fun x1442 x1443 =>
      if (sel (ieq x1415 15) true (ieq x1425 15)) = true then (
      if (sel (ine x1443 15) (ine x1443 3) false) = true then R
      else J)
      else (
      if (sel (ieq x1443 3) true (sel (ine x1415 0) true (ine x1425 0))) = true then J
      else (
      if (ine x1443 0) = true then R
      else (
      chk (okApp [] x1414) <|
      chk (okApp (lapp [] x1414) x1424) <|
      bind1 (lexis_Same x1442 (lapp (lapp [] x1414) x1424)) fun x1627 =>
      if bnot x1627 = true then R else J)))) = J := by
  have hsp : bs (ByteArray.mk #[32]) = [32] := rfl
  rw [lexis_Tokens_eq, lexis_Tokens_eq]
  obtain ⟨a, e, ha⟩ : ∃ a e, tokensB (bs s) = (a, e) := ⟨_, _, rfl⟩
  obtain ⟨b, f, hb⟩ : ∃ a e, tokensB (bs u) = (a, e) := ⟨_, _, rfl⟩
  rw [ha, hb, bind2_of, bind2_of, okCat_of (by rw [hsp]; simp only [List.length_cons, List.length_nil]; omega), chk_true,
    okCat_of (by rw [bs_app, hsp, List.length_append]; simp only [List.length_cons, List.length_nil]; omega), chk_true, lexis_Tokens_eq, bs_app, bs_app, hsp]
  have hjoin : bs s ++ [32] ++ bs u = bs s ++ 32 :: bs u := by simp
  rw [hjoin]
  obtain ⟨c, g, hc⟩ : ∃ a e, tokensB (bs s ++ 32 :: bs u) = (a, e) := ⟨_, _, rfl⟩
  rw [hc, bind2_of]
  have ea := tokensB_e (bs s)
  have eb := tokensB_e (bs u)
  have za := tokensB_0 (bs s)
  have zb := tokensB_0 (bs u)
  have zc := tokensB_0 (bs s ++ 32 :: bs u)
  rw [ha] at ea za
  rw [hb] at eb zb
  rw [hc] at zc
  simp only at ea eb za zb zc
  have hsc := scan_join (bs s).length 0 (bs s) (bs u) (Nat.le_refl _)
  rw [Nat.zero_add, show (bs s).length + 1 = 0 + ((bs s).length + 1) by omega, scan_shift] at hsc
  have hlen : (bs s ++ 32 :: bs u).length = (bs s).length + (bs u).length + 1 := by simp only [List.length_append, List.length_cons]; omega
  have eg : g = if 8192 < (bs s ++ 32 :: bs u).length then 3 else match scan 0 (bs s ++ 32 :: bs u) with | none => 15 | some ts => if 2048 < ts.length then 3 else 0 := by
    have : g = (tokensB (bs s ++ 32 :: bs u)).2 := by rw [hc]
    rw [this]
    unfold tokensB
    split
    · rfl
    · cases scan 0 (bs s ++ 32 :: bs u) with
      | none => rfl
      | some ts => simp only; split <;> rfl
  simp only [sel_or, sel_and, Bool.or_eq_true, Bool.and_eq_true, ieq_iff, ine_iff, lapp_eq, List.nil_append]
  by_cases h1 : e = 15 ∨ f = 15
  · rw [if_pos h1, if_neg]
    rintro ⟨h2, h3⟩
    rw [eg] at h2 h3
    split at h2
    · rename_i hh; rw [if_pos hh] at h3; exact h3 rfl
    · rename_i hh
      rw [if_neg hh] at h3
      have hn : scan 0 (bs s ++ 32 :: bs u) = none := by
        rw [hsc]
        rcases h1 with h1 | h1
        · rw [(ea.1 h1).2]; rfl
        · rw [(eb.1 h1).2]; cases scan 0 (bs s) <;> rfl
      rw [hn] at h2
      exact h2 rfl
  · rw [if_neg h1]
    by_cases h2 : g = 3 ∨ e ≠ 0 ∨ f ≠ 0
    · rw [if_pos h2]
    rw [if_neg h2]
    have he : e = 0 := by
      by_cases h : e = 0
      · exact h
      · exact absurd (.inr (.inl h)) h2
    have hf : f = 0 := by
      by_cases h : f = 0
      · exact h
      · exact absurd (.inr (.inr h)) h2
    obtain ⟨a1, a2, a3⟩ := za he
    obtain ⟨b1, b2, b3⟩ := zb hf
    rw [a2, b2] at hsc
    have hg : g = 0 := by
      have h3 : g ≠ 3 := fun h => h2 (.inl h)
      rw [eg] at h3 ⊢
      split at h3
      · exact absurd rfl h3
      · rename_i hh
        rw [if_neg hh]
        rw [hsc] at h3 ⊢
        simp only [Option.map_some, both] at h3 ⊢
        split at h3
        · exact absurd rfl h3
        · rename_i hk; rw [if_neg hk]
    rw [if_neg (by omega)]
    obtain ⟨c1, c2, c3⟩ := zc hg
    rw [hsc] at c2
    simp only [Option.map_some, both, Option.some.injEq] at c2
    rw [okApp_of (by simp only [List.length_nil]; omega), chk_true, okApp_of (by omega), chk_true, lexis_Same_eq _ _ (by omega), ← c2, bind1_of, all2B_shift]
    simp
end Go.Mdl
