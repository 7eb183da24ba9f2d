/-
  Texts of tokens (the reference), in plain words.
-/
import Derived.Test.YtooibjkhgdpnaaaDoorXd
set_option linter.unusedSimpArgs false
set_option linter.unusedVariables false
namespace Go.Mdl
open Go

/-- A number's digits. -/
def dec : Nat → Nat → List UInt8
  | 0, _ => []
  | f + 1, n => if n < 10 then [UInt8.ofNat (48 + n)] else dec f (n / 10) ++ [UInt8.ofNat (48 + n % 10)]
theorem dec_len : ∀ (f n : Nat), (dec f n).length ≤ f
  | 0, _ => Nat.le_refl _
  | f + 1, n => by
    unfold dec
    split
    · simp
    · have := dec_len f (n / 10)
      simp only [List.length_append, List.length_cons, List.length_nil]; omega

theorem digit_bs (k : Nat) (hk : k < 10) : bs (bstr [conv .u8 (iadd .i64 48 (k : Int))]) = [UInt8.ofNat (48 + k)] := by
  rw [iadd_in (by omega) (by omega), wrap8_in (by omega) (by omega), bstr_bs]
  simp only [List.map_cons, List.map_nil]
  congr 2

theorem Decimal_eq : ∀ (f F n : Nat), n < 10 ^ f → 1 ≤ f → f ≤ F → f ≤ 18 → ∃ t, ref14_Decimal F (n : Int) = some t ∧ bs t = dec f n
  | 0, _, _, _, h, _, _ => by omega
  | f + 1, 0, _, _, _, h, _ => by omega
  | f + 1, F + 1, n, hn, _, hF, h18 => by
    have hbig : n < 1000000000000000000 := Nat.lt_of_lt_of_le hn (Nat.le_trans (Nat.pow_le_pow_right (by decide) h18) (by decide))
    unfold ref14_Decimal dec
    by_cases h : n < 10
    · rw [if_pos (by rw [ilt_iff]; omega), if_pos h]
      exact ⟨_, rfl, digit_bs n h⟩
    · rw [if_neg (by rw [ilt_iff]; omega), if_neg h]
      have hf : 1 ≤ f := by
        rcases Nat.eq_zero_or_pos f with h0 | h0
        · subst h0; omega
        · exact h0
      have hq : n / 10 < 10 ^ f := by
        rw [Nat.pow_succ] at hn
        omega
      obtain ⟨t, e1, e2⟩ := Decimal_eq f F (n / 10) hq hf (by omega) (by omega)
      have eq : iquo .i64 (n : Int) 10 = ((n / 10 : Nat) : Int) := by
        unfold iquo
        rw [show (n : Int).tdiv 10 = ((n / 10 : Nat) : Int) from rfl]
        exact wrap_in (by omega) (by omega)
      have er : irem .i64 (n : Int) 10 = ((n % 10 : Nat) : Int) := rfl
      rw [okDiv_of (by decide), chk_true, eq, e1, bind1_of, chk_true, er]
      have e3 := digit_bs (n % 10) (by omega)
      have hl := dec_len f (n / 10)
      rw [okCat_of (by rw [e2, e3]; simp only [List.length_cons, List.length_nil]; omega), chk_true]
      exact ⟨_, rfl, by rw [bs_app, e2, e3]⟩

theorem refletter_eq (b : UInt8) : ref14_letter (b.toNat : Int) = some (isL b) := by
  rw [ref14_letter, sel_and]
  simp only [ige, ile, isL, Option.some.injEq, Bool.decide_and]
  congr 1 <;> exact Bool.eq_iff_iff.2 (by simp only [decide_eq_true_iff]; omega)

theorem nameloop (s : ByteArray) (hs : (bs s).length ≤ 16) {F : Int → Option (Ctl Int Bool)} {k : Int ⊕ Bool → Option Bool} {r : Option Bool}
    (hF : ∀ i : Nat, F (i : Int) = match (bs s)[i]? with | none => some (.brk (i : Int)) | some b => if isL b = true then some (.next ((i + 1 : Nat) : Int)) else some (.ret false))
    (h1 : (bs s).all isL = true → ∀ i, k (.inl i) = r) (h2 : (bs s).all isL = false → k (.inr false) = r) : bind1 (loopN F FU 0) k = r := by
  obtain ⟨o, e1, e2⟩ := loopN_inv (F := F) (fun e => ∃ i : Nat, e = i ∧ i ≤ (bs s).length ∧ ∀ b ∈ (bs s).take i, isL b = true) (fun e => (bs s).length - e.toNat) (fun o => k o = r) (by
    rintro e ⟨i, rfl, hi, ha⟩
    rw [hF i]
    cases hb : (bs s)[i]? with
    | none =>
      refine .inr (.inl ⟨_, rfl, h1 ?_ _⟩)
      have : (bs s).length ≤ i := List.getElem?_eq_none_iff.1 hb
      rw [List.take_of_length_le this] at ha
      exact List.all_eq_true.2 ha
    | some b =>
      have hlt : i < (bs s).length := (List.getElem?_eq_some_iff.1 hb).1
      simp only
      by_cases hq : isL b = true
      · rw [if_pos hq]
        refine .inl ⟨_, rfl, ⟨i + 1, rfl, by omega, ?_⟩, by simp only [Int.toNat_natCast]; omega⟩
        intro c hc
        rw [List.take_add_one, hb] at hc
        rcases List.mem_append.1 hc with hc | hc
        · exact ha c hc
        · simp at hc; rw [hc]; exact hq
      · rw [if_neg hq]
        refine .inr (.inr ⟨_, rfl, h2 ?_⟩)
        refine Bool.eq_false_iff.2 fun hall => hq (List.all_eq_true.1 hall b (List.mem_of_getElem? hb)))
    FU 0 ⟨0, rfl, Nat.zero_le _, by simp⟩ (FU_lt (by simp only [Int.toNat_zero]; omega))
  rw [e1, bind1_of, e2]

theorem ref14_Name_eq (s : ByteArray) : ref14_Name s = some (nameB (bs s)) := by
  unfold ref14_Name nameB
  simp only [slen_eq, sel_or, Bool.or_eq_true, ilt_iff, igt_iff, joinB_eq]
  by_cases h : ((bs s).length : Int) < 1 ∨ (16 : Int) < ((bs s).length : Int)
  · rw [if_pos h, decide_eq_false (by omega), Bool.false_and]
  · rw [if_neg h, decide_eq_true (by omega), Bool.true_and]
    refine nameloop s (by omega) (fun i => ?_) (fun ha i => by rw [ha]; rfl) (fun ha => by rw [ha]; rfl)
    by_cases hi : i < (bs s).length
    · rw [if_pos (by omega), sget_eq, List.getElem?_eq_getElem hi]
      simp only [Option.map_some, bind1_of, refletter_eq]
      rw [show iadd .i64 (i : Int) 1 = ((i + 1 : Nat) : Int) by rw [iadd_in (by omega) (by omega)]; omega]
    · rw [if_neg (by omega), List.getElem?_eq_none (by omega)]

/-- The text of a token. -/
def tokB (t : Tkn) : Option (List UInt8) :=
  if t.kind = 1 then (if t.num = 0 ∧ bs t.text = [] then some [40] else none)
  else if t.kind = 2 then (if t.num = 0 ∧ bs t.text = [] then some [41] else none)
  else if t.kind = 3 then (if t.num = 0 ∧ nameB (bs t.text) = true then some (bs t.text) else none)
  else if t.kind = 4 ∨ t.kind = 5 then (if (0 ≤ t.num ∧ t.num ≤ 999999) ∧ bs t.text = [] then some (if t.kind = 5 then 120 :: dec 6 t.num.toNat else dec 6 t.num.toNat) else none)
  else none

theorem tokB_len {t : Tkn} {u : List UInt8} (h : tokB t = some u) : u.length ≤ 16 := by
  unfold tokB at h
  split at h
  · split at h
    · rw [← Option.some.inj h]; simp
    · cases h
  split at h
  · split at h
    · rw [← Option.some.inj h]; simp
    · cases h
  split at h
  · split at h
    · rename_i hn
      rw [← Option.some.inj h]
      have := hn.2
      simp only [nameB, Bool.and_eq_true, decide_eq_true_eq] at this
      exact this.1.2
    · cases h
  split at h
  · split at h
    · have hd := dec_len 6 t.num.toNat
      rw [← Option.some.inj h]
      split
      · simp only [List.length_cons]; omega
      · omega
    · cases h
  · cases h

theorem seq_nil (s : ByteArray) : seq s (ByteArray.mk #[]) = decide (bs s = []) := by rw [seq_eq]; rfl

theorem ref14_text_eq (t : Tkn) : ∃ w, ref14_text t = some (w, (tokB t).isSome) ∧ ∀ u, tokB t = some u → bs w = u := by
  unfold ref14_text tokB
  simp only [ieq_iff, sel_and, sel_or, Bool.or_eq_true, seq_nil, sne_eq, joinB_eq]
  by_cases h1 : t.kind = 1
  · rw [if_pos h1, if_pos h1]
    by_cases h2 : t.num = 0 ∧ bs t.text = []
    · rw [if_pos h2]
      exact ⟨ByteArray.mk #[40], by simp [h2.1, h2.2, ieq], fun u hu => by rw [← Option.some.inj hu]; rfl⟩
    · rw [if_neg h2]
      refine ⟨ByteArray.mk #[40], ?_, fun u hu => by cases hu⟩
      have : (ieq t.num 0 && decide (bs t.text = [])) = false := Bool.eq_false_iff.2 fun hh => h2 (by simpa [ieq_iff] using hh)
      rw [this]; rfl
  rw [if_neg h1, if_neg h1]
  by_cases h1 : t.kind = 2
  · rw [if_pos h1, if_pos h1]
    by_cases h2 : t.num = 0 ∧ bs t.text = []
    · rw [if_pos h2]
      exact ⟨ByteArray.mk #[41], by simp [h2.1, h2.2, ieq], fun u hu => by rw [← Option.some.inj hu]; rfl⟩
    · rw [if_neg h2]
      refine ⟨ByteArray.mk #[41], ?_, fun u hu => by cases hu⟩
      have : (ieq t.num 0 && decide (bs t.text = [])) = false := Bool.eq_false_iff.2 fun hh => h2 (by simpa [ieq_iff] using hh)
      rw [this]; rfl
  rw [if_neg h1, if_neg h1]
  by_cases h1 : t.kind = 3
  · rw [if_pos h1, if_pos h1]
    by_cases h2 : t.num = 0
    · rw [if_pos h2, ref14_Name_eq, bind1_of]
      by_cases h3 : nameB (bs t.text) = true
      · rw [if_pos ⟨h2, h3⟩, h3]
        exact ⟨_, rfl, fun u hu => Option.some.inj hu⟩
      · rw [if_neg (fun hh => h3 hh.2), show nameB (bs t.text) = false by simpa using h3]
        exact ⟨_, rfl, fun u hu => by cases hu⟩
    · rw [if_neg h2, if_neg (fun hh => h2 hh.1)]
      exact ⟨_, rfl, fun u hu => by cases hu⟩
  rw [if_neg h1, if_neg h1]
  by_cases h1 : t.kind = 4 ∨ t.kind = 5
  · rw [if_pos h1, if_pos h1]
    by_cases h2 : (0 ≤ t.num ∧ t.num ≤ 999999) ∧ bs t.text = []
    · obtain ⟨⟨h3, h4⟩, h5⟩ := h2
      have hc : ¬ (ilt t.num 0 = true ∨ igt t.num 999999 = true ∨ (!decide (bs t.text = [])) = true) := by
        rw [ilt_iff, igt_iff, decide_eq_true h5]
        rintro (h | h | h)
        · omega
        · omega
        · cases h
      rw [if_neg hc, if_pos (show (0 ≤ t.num ∧ t.num ≤ 999999) ∧ bs t.text = [] from ⟨⟨h3, h4⟩, h5⟩)]
      obtain ⟨n, hn⟩ : ∃ n : Nat, t.num = n := ⟨t.num.toNat, by omega⟩
      obtain ⟨w, e1, e2⟩ := Decimal_eq 6 FU n (by omega) (by decide) (by rw [FU_eq]; decide) (by decide)
      rw [hn, e1]
      simp only [bind1_of, Int.toNat_natCast]
      by_cases h6 : t.kind = 5
      · rw [if_pos h6, if_pos h6]
        have hx : bs (ByteArray.mk #[120]) = [120] := rfl
        have hd := dec_len 6 n
        rw [okCat_of (by rw [hx, e2]; simp only [List.length_cons, List.length_nil]; omega), chk_true]
        exact ⟨_, rfl, fun u hu => by rw [← Option.some.inj hu, bs_app, hx, e2]; rfl⟩
      · rw [if_neg h6, if_neg h6]
        exact ⟨_, rfl, fun u hu => by rw [← Option.some.inj hu, e2]⟩
    · have hc : ilt t.num 0 = true ∨ igt t.num 999999 = true ∨ (!decide (bs t.text = [])) = true := by
        rw [ilt_iff, igt_iff, Bool.not_eq_true', decide_eq_false_iff_not]
        by_cases h5 : bs t.text = []
        · by_cases h3 : t.num < 0
          · exact .inl h3
          · exact .inr (.inl (by
              rcases Int.lt_or_le 999999 t.num with h | h
              · exact h
              · exact absurd ⟨⟨by omega, h⟩, h5⟩ h2))
        · exact .inr (.inr h5)
      rw [if_pos hc, if_neg h2]
      exact ⟨_, rfl, fun u hu => by cases hu⟩
  · rw [if_neg h1, if_neg h1]
    exact ⟨_, rfl, fun u hu => by cases hu⟩

/-- The space ahead of a token. -/
def gap (p : Option Tkn) (t : Tkn) : List UInt8 :=
  match p with
  | none => []
  | some q => if q.kind ≠ 1 ∧ t.kind ≠ 2 then [32] else []
/-- The text of tokens, behind one. -/
def textGo : Option Tkn → List Tkn → Option (List UInt8)
  | _, [] => some []
  | p, t :: ts => match tokB t with
    | none => none
    | some w => (textGo (some t) ts).map fun r => gap p t ++ w ++ r

theorem gap_len (p : Option Tkn) (t : Tkn) : (gap p t).length ≤ 1 := by
  unfold gap
  cases p with
  | none => simp
  | some q => simp only; split <;> simp

theorem textGo_len : ∀ (l : List Tkn) (p : Option Tkn) (u : List UInt8), textGo p l = some u → u.length ≤ 17 * l.length
  | [], p, u, h => by rw [← Option.some.inj h]; simp
  | t :: ts, p, u, h => by
    unfold textGo at h
    cases hw : tokB t with
    | none => rw [hw] at h; cases h
    | some w =>
      rw [hw] at h
      simp only at h
      cases hr : textGo (some t) ts with
      | none => rw [hr] at h; cases h
      | some r =>
        rw [hr] at h
        rw [← Option.some.inj h]
        have h1 := textGo_len ts _ r hr
        have h2 := tokB_len hw
        have h3 := gap_len p t
        simp only [List.length_append, List.length_cons]
        omega

/-- Bytes as numbers. -/
def nums (u : List UInt8) : List Int := u.map fun (b : UInt8) => (b.toNat : Int)
theorem nums_app (u v : List UInt8) : nums u ++ nums v = nums (u ++ v) := by simp [nums]
theorem nums_len (u : List UInt8) : (nums u).length = u.length := by simp [nums]
theorem sbytes_eq (s : ByteArray) : sbytes s = nums (bs s) := rfl

theorem text_loop (L : List Tkn) (hL : L.length ≤ 2048) {F : Int → Tkn → List Int → Option (Ctl (List Int) (ByteArray × Int))}
    (hF : ∀ (i : Nat) (t : Tkn) (acc : List UInt8), acc.length ≤ 17 * i → i < 2048 → L[i]? = some t → F (i : Int) t (nums acc) = match tokB t with
      | none => some (.ret (ByteArray.mk #[], 2))
      | some w => some (.next (nums (acc ++ (gap (if i = 0 then none else L[i - 1]?) t ++ w))))) :
    ∀ (post pre : List Tkn) (acc : List UInt8), L = pre ++ post → acc.length ≤ 17 * pre.length →
      forR F post pre.length (nums acc) = some (match textGo pre.getLast? post with
        | some u => .inl (nums (acc ++ u))
        | none => .inr (ByteArray.mk #[], 2))
  | [], pre, acc, _, _ => by simp [textGo]
  | t :: post, pre, acc, hp, ha => by
    have hlt : pre.length < L.length := by rw [hp]; simp
    rw [forR_cons, hF _ _ _ ha (by omega) (by rw [hp]; simp)]
    unfold textGo
    have hprev : (if pre.length = 0 then none else L[pre.length - 1]?) = pre.getLast? := by
      split
      · rename_i h0
        have : pre = [] := List.eq_nil_of_length_eq_zero h0
        subst this; rfl
      · rw [hp, List.getElem?_append_left (by omega), List.getLast?_eq_getElem?]
    rw [hprev]
    cases hw : tokB t with
    | none => rfl
    | some w =>
      simp only [bind1_of, ctlK_next]
      have h1 := tokB_len hw
      have h2 := gap_len pre.getLast? t
      have ih := text_loop L hL hF post (pre ++ [t]) (acc ++ (gap pre.getLast? t ++ w)) (by rw [hp]; simp) (by
        simp only [List.length_append, List.length_cons, List.length_nil]; omega)
      rw [List.length_append, List.length_cons, List.length_nil, Nat.zero_add] at ih
      rw [ih]
      have hl : (pre ++ [t]).getLast? = some t := by simp
      rw [hl]
      cases textGo (some t) post with
      | none => rfl
      | some r => simp

/-- The text of tokens, or the error. -/
def textB (l : List Tkn) : ByteArray × Int :=
  if 2048 < l.length then (ByteArray.mk #[], 3) else match textGo none l with
    | none => (ByteArray.mk #[], 2)
    | some u => (⟨u.toArray⟩, 0)

theorem bstr_nums (u : List UInt8) : bstr (nums u) = ⟨u.toArray⟩ := by
  apply bs_inj
  rw [bstr_bs, bs_mk, nums, List.map_map]
  have : ((fun n : Int => UInt8.ofNat n.toNat) ∘ fun b : UInt8 => (b.toNat : Int)) = id := by
    funext b
    simp
  rw [this, List.map_id]

theorem text_use (L : List Tkn) (hL : L.length ≤ 2048) {F : Int → Tkn → List Int → Option (Ctl (List Int) (ByteArray × Int))} {k : List Int ⊕ ByteArray × Int → Option (ByteArray × Int)} {r : Option (ByteArray × Int)}
    (hF : ∀ (i : Nat) (t : Tkn) (acc : List UInt8), acc.length ≤ 17 * i → i < 2048 → L[i]? = some t → F (i : Int) t (nums acc) = match tokB t with
      | none => some (.ret (ByteArray.mk #[], 2))
      | some w => some (.next (nums (acc ++ (gap (if i = 0 then none else L[i - 1]?) t ++ w)))))
    (hk : k (match textGo none L with | some u => .inl (nums u) | none => .inr (ByteArray.mk #[], 2)) = r) : bind1 (forR F L 0 []) k = r := by
  have h := text_loop L hL hF L [] [] rfl (Nat.zero_le _)
  change forR F L 0 [] = _ at h
  rw [h, bind1_of]
  exact hk

theorem ref14_Text_eq (l : List Tkn) : ref14_Text l = some (textB l) := by
  unfold ref14_Text textB
  simp only [llen_eq, igt_iff, joinB_eq]
  by_cases h : 2048 < l.length
  · rw [if_pos (by omega), if_pos h]
  rw [if_neg (by omega), if_neg h, okLen_of (by omega), chk_true]
  refine text_use l (by omega) (fun i t acc ha hi ht => ?_) ?_
  · obtain ⟨w, e1, e2⟩ := ref14_text_eq t
    rw [e1, bind2_of]
    cases hw : tokB t with
    | none => simp
    | some u =>
      have hwu := e2 u hw
      have hul := tokB_len hw
      simp only [Option.isSome_some, if_true, sbytes_eq, hwu, lapp_eq]
      have hok : okApp (nums acc) [32] = true := okApp_of (by simp only [nums_len, List.length_cons, List.length_nil]; omega)
      have hok2 : ∀ g : List UInt8, g.length ≤ 1 → okApp (nums (acc ++ g)) (nums u) = true := fun g hg => okApp_of (by simp only [nums_len, List.length_append]; omega)
      have e32 : (nums acc) ++ [32] = nums (acc ++ [32]) := nums_app acc [32]
      have fin1 : (chk (okApp (nums acc) [32]) <| chk (okApp ((nums acc) ++ [32]) (nums u)) <|
          (some (.next (((nums acc) ++ [32]) ++ nums u)) : Option (Ctl (List Int) (ByteArray × Int)))) = some (.next (nums (acc ++ ([32] ++ u)))) := by
        rw [hok, chk_true, e32, hok2 [32] (by simp), chk_true, nums_app, List.append_assoc]
      have fin2 : (chk (okApp (nums acc) (nums u)) <|
          (some (.next ((nums acc) ++ nums u)) : Option (Ctl (List Int) (ByteArray × Int)))) = some (.next (nums (acc ++ ([] ++ u)))) := by
        have := hok2 [] (by simp)
        rw [List.append_nil] at this
        rw [this, chk_true, nums_app, List.nil_append]
      by_cases h0 : i = 0
      · subst h0
        rw [if_neg (by decide), if_neg (by decide), fin2]
        rfl
      · rw [if_pos (by omega), if_neg h0, isub_in (by omega) (by omega), show (i : Int) - 1 = ((i - 1 : Nat) : Int) by omega, lget_ofNat]
        have hlt : i < l.length := (List.getElem?_eq_some_iff.1 ht).1
        obtain ⟨q, hq⟩ : ∃ q, l[i - 1]? = some q := ⟨_, List.getElem?_eq_getElem (by omega)⟩
        rw [hq, bind1_of]
        unfold gap
        simp only [ine_iff]
        by_cases h1 : q.kind ≠ 1
        · rw [if_pos h1]
          by_cases h2 : t.kind ≠ 2
          · rw [if_pos h2, if_pos ⟨h1, h2⟩, fin1]
          · rw [if_neg h2, if_neg (fun hh => h2 hh.2), fin2]
        · rw [if_neg h1, if_neg (by decide), if_neg (fun hh => h1 hh.1), fin2]
  · cases textGo none l with
    | none => rfl
    | some u =>
      simp only [sumK_inl, bstr_nums]
end Go.Mdl
