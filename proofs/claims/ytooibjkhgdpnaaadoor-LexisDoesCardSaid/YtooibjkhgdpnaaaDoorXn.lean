/-
  LexisBack: the law.
-/
import Derived.Test.YtooibjkhgdpnaaaDoorXm
set_option linter.unusedSimpArgs false
set_option linter.unusedVariables false
namespace Go.Mdl
open Go

/-! ### tokens but for their places -/
theorem placed_strip : ∀ (L : List Tkn) (p : Option Tkn) (i : Nat), (placed i p L).map Tkn.strip = L.map Tkn.strip
  | [], _, _ => rfl
  | t :: ts, p, i => by
    unfold placed
    simp only [List.map_cons, placed_strip ts]
    rfl

theorem tokB_strip {a b : Tkn} (h : a.strip = b.strip) : tokB a = tokB b := by
  have e : ∀ t : Tkn, tokB t = tokB t.strip := fun t => rfl
  rw [e a, h, ← e b]
theorem strip_kind {a b : Tkn} (h : a.strip = b.strip) : a.kind = b.kind ∧ a.num = b.num ∧ a.text = b.text := by
  have h1 : a.strip.kind = b.strip.kind := by rw [h]
  have h2 : a.strip.num = b.strip.num := by rw [h]
  have h3 : a.strip.text = b.strip.text := by rw [h]
  exact ⟨h1, h2, h3⟩
theorem gap_strip {p q : Option Tkn} {a b : Tkn} (hp : p.map Tkn.strip = q.map Tkn.strip) (h : a.strip = b.strip) : gap p a = gap q b := by
  cases p with
  | none => cases q with
    | none => rfl
    | some y => cases hp
  | some x => cases q with
    | none => cases hp
    | some y =>
      have := (strip_kind (Option.some.inj hp)).1
      simp only [gap, this, (strip_kind h).1]
theorem textGo_strip : ∀ (a b : List Tkn) (p q : Option Tkn), p.map Tkn.strip = q.map Tkn.strip → a.map Tkn.strip = b.map Tkn.strip → textGo p a = textGo q b
  | [], [], _, _, _, _ => rfl
  | [], _ :: _, _, _, _, h => by cases h
  | _ :: _, [], _, _, _, h => by cases h
  | x :: a, y :: b, p, q, hp, h => by
    simp only [List.map_cons, List.cons.injEq] at h
    unfold textGo
    rw [tokB_strip h.1, gap_strip hp h.1, textGo_strip a b (some x) (some y) (by simp [h.1]) h.2]
theorem textB_strip {a b : List Tkn} (h : a.map Tkn.strip = b.map Tkn.strip) : textB a = textB b := by
  have hl : a.length = b.length := by simpa using congrArg List.length h
  unfold textB
  rw [hl, textGo_strip a b none none rfl h]
theorem same_strip : ∀ {a b : List Tkn}, a.map Tkn.strip = b.map Tkn.strip → all2B sameT a b = true
  | [], [], _ => rfl
  | [], _ :: _, h => by cases h
  | _ :: _, [], h => by cases h
  | x :: a, y :: b, h => by
    simp only [List.map_cons, List.cons.injEq] at h
    simp only [all2B, same_strip h.2, Bool.and_true]
    rw [sameT_iff]
    exact strip_kind h.1
theorem lexis_Same_strip {a b : List Tkn} (h : a.map Tkn.strip = b.map Tkn.strip) (hl : a.length ≤ 1000000) : lexis_Same a b = some true := by
  have hl2 : a.length = b.length := by simpa using congrArg List.length h
  rw [lexis_Same_eq a b hl, same_strip h, decide_eq_true hl2]
  rfl

/-! ### how many bytes more space may follow -/
def spB (b : UInt8) : Bool := b == 32 || b == 40 || b == 41
def spN (l : List UInt8) : Nat := (l.filter spB).length
theorem spN_app (a b : List UInt8) : spN (a ++ b) = spN a + spN b := by simp [spN]
theorem spN_le (l : List UInt8) : spN l ≤ l.length := by unfold spN; exact List.length_filter_le _ _
theorem spB_W {b : UInt8} (h : isW b = true) : spB b = false := by
  cases hs : spB b with
  | false => rfl
  | true =>
    simp only [spB, Bool.or_eq_true, beq_iff_eq] at hs
    have : isW b = false := notW (by rcases hs with (h1 | h1) | h1 <;> simp [h1])
    rw [h] at this; cases this
theorem spN_W : ∀ {l : List UInt8}, l.all isW = true → spN l = 0
  | [], _ => rfl
  | b :: l, h => by
    simp only [List.all_cons, Bool.and_eq_true] at h
    have := spN_W h.2
    unfold spN at this ⊢
    rw [List.filter_cons, spB_W h.1]
    exact this
theorem tokB_sp {t : Tkn} {w : List UInt8} (h : tokB t = some w) : w.length + 2 * spN w ≤ 16 := by
  by_cases hk : t.kind = 1 ∨ t.kind = 2
  · unfold tokB at h
    rcases hk with hk | hk
    · rw [hk, if_pos rfl] at h
      split at h
      · rw [← Option.some.inj h]; decide
      · cases h
    · rw [hk, if_neg (by decide), if_pos rfl] at h
      split at h
      · rw [← Option.some.inj h]; decide
      · cases h
  · have := tokB_len h
    rw [spN_W (word_tok h hk 0).1]
    omega
theorem textGo_sp : ∀ (l : List Tkn) (p : Option Tkn) (u : List UInt8), textGo p l = some u → u.length + 2 * spN u ≤ 19 * l.length
  | [], p, u, h => by rw [← Option.some.inj h]; simp [spN]
  | t :: ts, p, u, h => by
    unfold textGo at h
    cases hw : tokB t with
    | none => rw [hw] at h; cases h
    | some w =>
      rw [hw] at h
      simp only at h
      cases hr : textGo (some t) ts with
      | none => rw [hr] at h; cases h
      | some r =>
        rw [hr] at h
        rw [← Option.some.inj h]
        have h1 := textGo_sp ts _ r hr
        have h2 := tokB_sp hw
        have h3 := gap_len p t
        have h4 := spN_le (gap p t)
        simp only [List.length_append, List.length_cons, spN_app]
        omega

/-! ### the widened text -/
theorem wide_nilf : ∀ {s t : List UInt8}, Wide s t → ∀ {b : UInt8}, Wide (s ++ [b]) (t ++ [b])
  | _, _, .nil, b => .keep .nil
  | _, _, .keep h, b => .keep (wide_nilf h)
  | _, _, .fill (f := f) h1 h2 h, b => by
    have := Wide.fill h1 h2 (wide_nilf h (b := b))
    simpa using this
theorem wide_snoc : ∀ {s t : List UInt8}, Wide s t → ∀ {b : UInt8} {f : List UInt8}, (b = 32 ∨ b = 40 ∨ b = 41) → (∀ c ∈ f, c = 32 ∨ c = 10) → Wide (s ++ [b]) (t ++ b :: f)
  | _, _, .nil, b, f, hb, hf => by
    have := Wide.fill hb hf .nil
    simpa using this
  | _, _, .keep h, b, f, hb, hf => .keep (wide_snoc h hb hf)
  | _, _, .fill (f := g) h1 h2 h, b, f, hb, hf => by
    have := Wide.fill h1 h2 (wide_snoc h hb hf)
    simpa using this

/-- The loop that draws more space. -/
theorem wide_use {s : ByteArray} {d : Smk_Deck} {F : ByteArray × Int × Smk_Deck → Option (Ctl (ByteArray × Int × Smk_Deck) Bool)} {k : (ByteArray × Int × Smk_Deck) ⊕ Bool → Option Bool} {r : Option Bool} {w0 : ByteArray}
    (hs : (bs s).length ≤ 100000) (hd : d.wf) (h0 : bs w0 = [32])
    (hend : ∀ (w : ByteArray) (d : Smk_Deck), F (w, ((bs s).length : Int), d) = some (.brk (w, ((bs s).length : Int), d)))
    (hF : ∀ (w : ByteArray) (i : Nat) (b : UInt8) (d : Smk_Deck), (bs w).length ≤ 1000000 → i < 100000 → d.wf → (bs s)[i]? = some b → ∃ (f : List UInt8) (w' : ByteArray) (d' : Smk_Deck), d'.wf ∧ bs w' = bs w ++ b :: f ∧ (f = [] ∨ ((b = 32 ∨ b = 40 ∨ b = 41) ∧ ∀ c ∈ f, c = 32 ∨ c = 10)) ∧ f.length ≤ 2 ∧
      F (w, (i : Int), d) = some (.next (w', ((i + 1 : Nat) : Int), d')))
    (hk : ∀ (w : ByteArray) (u : List UInt8) (i : Int) (d : Smk_Deck), bs w = 32 :: u → Wide (bs s) u → u.length ≤ (bs s).length + 2 * spN (bs s) → k (.inl (w, i, d)) = r) : bind1 (loopN F FU (w0, 0, d)) k = r := by
  obtain ⟨o, h2, h3⟩ := loopN_inv (F := F) (fun st => ∃ (i : Nat) (u : List UInt8), st.2.1 = (i : Int) ∧ i ≤ (bs s).length ∧ bs st.1 = 32 :: u ∧ Wide ((bs s).take i) u ∧ u.length ≤ i + 2 * spN ((bs s).take i) ∧ st.2.2.wf) (fun st => (bs s).length - st.2.1.toNat)
    (fun o => k o = r) (by
      rintro ⟨w, j, d⟩ ⟨i, u, hj, hi, hw, hu, hl, hd⟩
      simp only at hj hi hw hu hl hd
      subst hj
      have hsp : spN ((bs s).take i) ≤ i := Nat.le_trans (spN_le _) (by rw [List.length_take]; omega)
      by_cases hlt : i < (bs s).length
      · obtain ⟨b, hb⟩ : ∃ b, (bs s)[i]? = some b := ⟨_, List.getElem?_eq_getElem hlt⟩
        obtain ⟨f, w', d', c1, c2, c3, c4, c5⟩ := hF w i b d (by rw [hw, List.length_cons]; omega) (by omega) hd hb
        have ht : (bs s).take (i + 1) = (bs s).take i ++ [b] := by rw [List.take_add_one, hb]; rfl
        refine .inl ⟨_, c5, ⟨i + 1, u ++ b :: f, rfl, by omega, by rw [c2, hw]; rfl, ?_, ?_, c1⟩, by simp only [Int.toNat_natCast]; omega⟩
        · rw [ht]
          rcases c3 with rfl | ⟨c6, c7⟩
          · exact wide_nilf hu
          · exact wide_snoc hu c6 c7
        · rw [ht, spN_app, List.length_append, List.length_cons]
          rcases c3 with rfl | ⟨c6, c7⟩
          · simp only [List.length_nil]; omega
          · have : spN [b] = 1 := by rcases c6 with rfl | rfl | rfl <;> decide
            omega
      · have hi' : i = (bs s).length := by omega
        subst hi'
        refine .inr (.inl ⟨_, hend w d, hk w u _ d hw ?_ ?_⟩)
        · rwa [List.take_length] at hu
        · rwa [List.take_length] at hl)
    FU (w0, 0, d) ⟨0, [], rfl, Nat.zero_le _, h0, .nil, Nat.zero_le _, hd⟩ (FU_lt (by show _ - (0 : Int).toNat < _; simp only [Int.toNat_zero]; omega))
  rw [h2, bind1_of]
  exact h3

/-- The loop that makes right tokens of raw ones. -/
theorem own_draw {F : Int → Tkn → List Tkn → Option (Ctl (List Tkn) Bool)} {l : List Tkn} {k : List Tkn ⊕ Bool → Option Bool} {r : Option Bool} (hl : l.length ≤ 300)
    (hF : ∀ (j : Int) (x : Tkn) (v : List Tkn), v.length ≤ 300 → ∃ y, (tokB y).isSome = true ∧ F j x v = some (.next (v ++ [y])))
    (hk : ∀ own : List Tkn, own.length ≤ 300 → (∀ y ∈ own, (tokB y).isSome = true) → k (.inl own) = r) : bind1 (forR F l 0 []) k = r := by
  have key : ∀ (l : List Tkn) (i : Nat) (v : List Tkn), v.length + l.length ≤ 300 → (∀ y ∈ v, (tokB y).isSome = true) → ∃ own, forR F l i v = some (.inl own) ∧ own.length ≤ 300 ∧ ∀ y ∈ own, (tokB y).isSome = true := by
    intro l
    induction l with
    | nil => intro i v h1 h2; exact ⟨v, rfl, by omega, h2⟩
    | cons x l ih =>
      intro i v h1 h2
      simp only [List.length_cons] at h1
      obtain ⟨y, hy, e⟩ := hF i x v (by omega)
      rw [forR_cons, e]
      simp only [bind1_of, ctlK_next]
      refine ih (i + 1) (v ++ [y]) (by simp only [List.length_append, List.length_cons, List.length_nil]; omega) fun z hz => ?_
      rcases List.mem_append.1 hz with hz | hz
      · exact h2 z hz
      · rw [List.mem_singleton.1 hz]; exact hy
  obtain ⟨own, e, h1, h2⟩ := key l 0 [] (by simpa using hl) (by simp)
  rw [e, bind1_of]
  exact hk own h1 h2

theorem bs_get {s : ByteArray} {i : Nat} {b : UInt8} (h : (bs s)[i]? = some b) : ∃ t, sslice s (i : Int) (iadd .i64 (i : Int) 1) = some t ∧ bs t = [b] ∨ 100000 ≤ i := by
  by_cases hi : i < 100000
  · have hlt := (List.getElem?_eq_some_iff.1 h).1
    obtain ⟨t, e1, e2⟩ := sslice_eq s i (i + 1) (by omega) (by omega)
    refine ⟨t, .inl ⟨?_, ?_⟩⟩
    · rw [iadd_in (by omega) (by omega)]; exact e1
    · rw [e2, List.take_add_one, h, List.drop_append_of_le_length (by rw [List.length_take]; omega), List.drop_eq_nil_of_le (by rw [List.length_take]; omega)]
      rfl
  · exact ⟨s, .inr (by omega)⟩

theorem law_LexisBack (t : List Int) (l : List Tkn) : law14_LexisBack t l = some true := by
  unfold law14_LexisBack
  rw [sane_eq, bind1_of, if_pos rfl]
  simp only [mk_Few, bind1_of, joinB_eq]
  by_cases h1 : (t.length : Int) ≤ 500
  rotate_left
  · rw [if_neg (show ¬ ile (llen t) 500 = true by rw [ile_iff]; exact h1), if_pos trivial]
  rw [if_pos (show ile (llen t) 500 = true by rw [ile_iff]; exact h1)]
  by_cases h2 : 300 < l.length
  · rw [if_pos (show igt (llen l) 300 = true by rw [igt_iff, llen_eq]; omega)]
  rw [if_neg (show ¬ igt (llen l) 300 = true by rw [igt_iff, llen_eq]; omega)]
  simp only [mk_New, bind1_of]
  rw [okLen_of (by omega), chk_true]
  refine own_draw (by omega) (fun j x v hv => ?_) (fun own hol hov => ?_)
  · -- a right token of a raw one
    obtain ⟨z, e1, z0, z1⟩ := mk_Mod_eq x.kind 5 (by omega) (by omega)
    have ok : ∀ t : Tkn, okApp v [t] = true := fun t => okApp_of (by simp only [List.length_cons, List.length_nil]; omega)
    have hz : iadd .i64 1 z = 1 + z := iadd_in (by omega) (by omega)
    rw [e1, bind1_of]
    simp only [ok, chk_true, lapp_eq, hz, ieq_iff, sel_or, Bool.or_eq_true]
    by_cases h3 : 1 + z = 3
    · rw [if_pos h3]
      obtain ⟨q, e2, q0, q1⟩ := mk_Mod_eq x.num 5 (by omega) (by omega)
      rw [e2, bind1_of]
      obtain ⟨n, hn, hmem⟩ := lget_some (l := [(ByteArray.mk #[97]), (ByteArray.mk #[115, 117, 99, 99]), (ByteArray.mk #[120, 121]), (ByteArray.mk #[120]), (ByteArray.mk #[101, 113])]) q0 (by simpa using q1)
      rw [hn, bind1_of]
      refine ⟨_, ?_, rfl⟩
      have hname : nameB (bs n) = true := by
        simp only [List.mem_cons, List.mem_nil_iff, or_false] at hmem
        rcases hmem with rfl | rfl | rfl | rfl | rfl <;> decide
      unfold tokB
      rw [h3, if_neg (show ¬ (3 : Int) = 1 by decide), if_neg (show ¬ (3 : Int) = 2 by decide), if_pos rfl, if_pos ⟨rfl, hname⟩]
      rfl
    · rw [if_neg h3]
      by_cases h4 : 1 + z = 4 ∨ 1 + z = 5
      · rw [if_pos h4]
        obtain ⟨q, e2, q0, q1⟩ := mk_Mod_eq x.num 1000000 (by omega) (by omega)
        rw [e2, bind1_of]
        refine ⟨_, ?_, rfl⟩
        unfold tokB
        simp only
        rw [if_neg (by omega), if_neg (by omega), if_neg (by omega), if_pos h4, if_pos ⟨⟨by omega, by omega⟩, rfl⟩]
        rfl
      · rw [if_neg h4]
        refine ⟨_, ?_, rfl⟩
        unfold tokB
        simp only
        by_cases h5 : 1 + z = 1
        · rw [if_pos h5, if_pos ⟨trivial, rfl⟩]; rfl
        · rw [if_neg h5, if_pos (by omega), if_pos ⟨trivial, rfl⟩]; rfl
  · rw [sumK_inl]
    obtain ⟨u, u1, u2, u3, u4⟩ := tokens_text own hov (by omega)
    have hnum : ∀ y ∈ own, -9223372036854775808 ≤ y.num ∧ y.num ≤ 9223372036854775807 := fun y hy => by
      have := hov y hy
      cases hw : tokB y with
      | none => rw [hw] at this; cases this
      | some w => have := tokB_num hw; omega
    rw [lexis_Text_eq own hnum, bind2_of, u2, lexis_Tokens_eq, bs_mk, u4, bind2_of]
    have husp := textGo_sp own none u u1
    refine wide_use (s := ⟨u.toArray⟩) (by rw [bs_mk]; omega) ⟨by show t.length ≤ 1000; omega, by show (0 : Int) ≤ 0; omega, by show (0 : Int) ≤ t.length; omega⟩ rfl (fun w d => ?_) (fun w i b d hw hi hd hb => ?_) (fun w v i d hwv hv hvl => ?_)
    · simp only [un3]
      rw [if_neg (by rw [ilt_iff, slen_eq]; omega)]
    · have hlt := (List.getElem?_eq_some_iff.1 hb).1
      simp only [un3]
      rw [if_pos (by rw [ilt_iff, slen_eq]; omega)]
      obtain ⟨x, ⟨ex, hx⟩ | ex⟩ := bs_get hb
      rotate_left
      · omega
      rw [ex, bind1_of, okCat_of (by rw [hx, List.length_cons, List.length_nil]; omega), chk_true, sget_eq, hb]
      simp only [Option.map_some, bind1_of]
      have hadd : iadd .i64 (i : Int) 1 = ((i + 1 : Nat) : Int) := by rw [iadd_in (by omega) (by omega)]; omega
      have hb32 : ieq (b.toNat : Int) 32 = decide (b = 32) := ieq_byte b 32 (by decide)
      have hb40 : ieq (b.toNat : Int) 40 = decide (b = 40) := ieq_byte b 40 (by decide)
      have hb41 : ieq (b.toNat : Int) 41 = decide (b = 41) := ieq_byte b 41 (by decide)
      rw [hb32, hb40, hb41, hadd]
      have fill : (b = 32 ∨ b = 40 ∨ b = 41) → ∃ (f : List UInt8) (w' : ByteArray) (d' : Smk_Deck), d'.wf ∧ bs w' = bs w ++ b :: f ∧ (f = [] ∨ ((b = 32 ∨ b = 40 ∨ b = 41) ∧ ∀ c ∈ f, c = 32 ∨ c = 10)) ∧ f.length ≤ 2 ∧
          (bind2 (mk_Deck_Next d 4) fun x2458 d2459 => bind1 (lget ([(ByteArray.mk #[32]), (ByteArray.mk #[10]), (ByteArray.mk #[]), (ByteArray.mk #[32, 32])] : List ByteArray) x2458) fun x2463 =>
            chk (okCat (w ++ x) x2463) <| (some (.next ((w ++ x) ++ x2463, ((i + 1 : Nat) : Int), d2459)) : Option (Ctl (ByteArray × Int × Smk_Deck) Bool))) = some (.next (w', ((i + 1 : Nat) : Int), d')) := by
        intro hb3
        obtain ⟨q, d2, e2, q0, q1, dw2⟩ := next_ok d hd 4 (by omega) (by omega)
        obtain ⟨n, hn, hmem⟩ := lget_some (l := [(ByteArray.mk #[32]), (ByteArray.mk #[10]), (ByteArray.mk #[]), (ByteArray.mk #[32, 32])]) q0 (by simpa using q1)
        have hn2 : (bs n).length ≤ 2 ∧ ∀ c ∈ bs n, c = 32 ∨ c = 10 := by
          simp only [List.mem_cons, List.mem_nil_iff, or_false] at hmem
          rcases hmem with rfl | rfl | rfl | rfl <;> decide
        rw [e2, bind2_of, hn, bind1_of, okCat_of (by rw [bs_app, List.length_append, hx, List.length_cons, List.length_nil]; omega), chk_true]
        exact ⟨bs n, _, d2, dw2, by rw [bs_app, bs_app, hx]; simp, .inr ⟨hb3, hn2.2⟩, hn2.1, rfl⟩
      by_cases c1 : b = 32
      · rw [if_pos (decide_eq_true c1), if_pos trivial]
        exact fill (.inl c1)
      rw [if_neg (by simpa using c1)]
      by_cases c2 : b = 40
      · rw [if_pos (decide_eq_true c2), if_pos trivial]
        exact fill (.inr (.inl c2))
      rw [if_neg (by simpa using c2)]
      by_cases c3 : b = 41
      · rw [if_pos (decide_eq_true c3)]
        exact fill (.inr (.inr c3))
      rw [if_neg (by simpa using c3)]
      exact ⟨[], w ++ x, d, hd, by rw [bs_app, hx], .inl rfl, by simp, rfl⟩
    · simp only [un3, sumK_inl]
      rw [bs_mk] at hv hvl
      have hpl := placed_len own none 0
      have hs1 : scan 0 u = some (placed 0 none own) := scan_text own none 0 u u1
      have hw1 := scan_wide u.length u v 0 1 (Nat.le_refl _) hv
      rw [hs1] at hw1
      cases hs2 : scan 1 v with
      | none => rw [hs2] at hw1; cases hw1
      | some n =>
        rw [hs2] at hw1
        have hn : n.map Tkn.strip = own.map Tkn.strip := by
          have := Option.some.inj hw1
          rw [placed_strip] at this
          exact this.symm
        have hnl : n.length = own.length := by simpa using congrArg List.length hn
        have hst : scan 0 (bs w) = some n := by rw [hwv, scan_sp (.inl rfl)]; exact hs2
        have htok : tokensB (bs w) = (n, 0) := by
          unfold tokensB
          rw [if_neg (by rw [hwv, List.length_cons]; omega), hst]
          simp only
          rw [if_neg (by omega)]
        have hnum2 : ∀ y ∈ n, -9223372036854775808 ≤ y.num ∧ y.num ≤ 9223372036854775807 := fun y hy => by
          have : y.strip ∈ own.map Tkn.strip := by rw [← hn]; exact List.mem_map_of_mem hy
          obtain ⟨z, hz, e⟩ := List.mem_map.1 this
          rw [← (strip_kind e).2.1]
          exact hnum z hz
        rw [lexis_Tokens_eq, htok, bind2_of, lexis_Text_eq n hnum2, textB_strip hn, u2, bind2_of, if_pos (by decide), if_pos (by decide), if_pos (by decide), if_pos (by decide),
          lexis_Same_strip (placed_strip own none 0) (by omega), bind1_of, if_pos rfl, lexis_Same_strip hn (by omega), bind1_of, if_pos rfl,
          show seq (⟨u.toArray⟩ : ByteArray) ⟨u.toArray⟩ = true by rw [seq_iff]]
end Go.Mdl
