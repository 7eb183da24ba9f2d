/-
  Plain laws about texts as lists of bytes, and when trimming leaves nothing. No program is named here.
-/
import Derived.Test.YtooibjkhgdpnaaaDoorLib2
import Derived.Test.YtooibjkhgdpnaaaDoorPa
import Derived.Lib.SpaceUEq
import Derived.Lib.TrimAscii
import Derived.Lib.RuneCount
set_option linter.unusedSimpArgs false
set_option linter.unusedVariables false
namespace Go.Mdl
open Go

/-- The bytes of a text. -/
def bs (s : ByteArray) : List UInt8 := s.data.toList

theorem bs_inj {s t : ByteArray} (h : bs s = bs t) : s = t := by
  obtain ⟨⟨a⟩⟩ := s
  obtain ⟨⟨b⟩⟩ := t
  simp only [bs] at h
  subst h
  rfl
theorem bs_size (s : ByteArray) : s.size = (bs s).length := Lib.size_eq s
@[simp] theorem bs_mk (l : List UInt8) : bs ⟨l.toArray⟩ = l := by simp [bs]
theorem bs_app (s t : ByteArray) : bs (s ++ t) = bs s ++ bs t := by
  simp [bs, ByteArray.data_append]
theorem slen_eq (s : ByteArray) : slen s = ((bs s).length : Int) := by rw [slen, bs_size]
theorem seq_eq (s t : ByteArray) : seq s t = decide (bs s = bs t) := by
  simp only [seq, ByteArray.toList_eq, bs]
  exact Bool.eq_iff_iff.2 (beq_iff_eq.trans decide_eq_true_iff.symm)
theorem seq_iff (s t : ByteArray) : seq s t = true ↔ s = t := by
  rw [seq_eq, decide_eq_true_iff]
  exact ⟨bs_inj, fun h => by rw [h]⟩
theorem sne_eq (s t : ByteArray) : sne s t = !seq s t := rfl
theorem sget_eq (s : ByteArray) (i : Nat) : sget s (i : Int) = ((bs s)[i]?).map fun b => (b.toNat : Int) := by
  have h : s[i]? = (bs s)[i]? := by
    by_cases hi : i < s.size
    · rw [getElem?_pos s i hi]
      have : i < (bs s).length := by rw [← bs_size]; exact hi
      rw [List.getElem?_eq_getElem this]
      rfl
    · rw [getElem?_neg s i hi, List.getElem?_eq_none (by rw [← bs_size]; omega)]
  simp [sget, h]
theorem sslice_eq (s : ByteArray) (i j : Nat) (h1 : i ≤ j) (h2 : j ≤ (bs s).length) : ∃ t, sslice s (i : Int) (j : Int) = some t ∧ bs t = ((bs s).take j).drop i := by
  refine ⟨s.extract i j, ?_, ?_⟩
  · rw [← bs_size] at h2
    simp [sslice, h1, h2]
  · rw [bs, Lib.extract_data, List.drop_take]
    rfl
theorem bstr_bs (l : List Int) : bs (bstr l) = l.map fun n => UInt8.ofNat n.toNat := rfl

/-- Runes below 128 are bytes. -/
theorem decode_low (s : ByteArray) (i : Nat) (h : (Utf8.decode s i).1 < 128) : (s.get! i).toNat < 128 ∧ Utf8.decode s i = ((s.get! i).toNat, 1) := by
  rw [Lib.decode_at] at h ⊢
  rcases Lib.decodeN_cases (s.size - i) (s.get! i).toNat (s.get! (i + 1)).toNat (s.get! (i + 2)).toNat (s.get! (i + 3)).toNat with ⟨h1, h2⟩ | ⟨_, _, _, h1, h2⟩ | ⟨_, _, _, _, h1, h2⟩ | ⟨h1, h2⟩ | h1
  · exact ⟨h1, h2⟩
  · rw [h2] at h; simp only at h; omega
  · rw [h2] at h; simp only at h; omega
  · omega
  · rw [h1] at h; simp only at h; omega
theorem decode_asc (s : ByteArray) (i : Nat) (h : (s.get! i).toNat < 128) : Utf8.decode s i = ((s.get! i).toNat, 1) := by
  rw [Lib.decode_at]
  unfold Lib.decodeN
  rw [if_pos h]
theorem get!_bs (s : ByteArray) (i : Nat) (b : UInt8) (h : (bs s)[i]? = some b) : s.get! i = b := by
  obtain ⟨⟨l⟩⟩ := s
  simp only [bs] at h
  show (Array.mk l)[i]! = b
  simp [getElem!_def, h]

theorem last_low (t : List UInt8) (b : UInt8) (h : (Lib.decodeLastL (t ++ [b])).1 < 128) : b.toNat < 128 := by
  by_cases hc : b.toNat < 128
  · exact hc
  · exfalso
    unfold Lib.decodeLastL at h
    have hg : (t ++ [b]).getD ((t ++ [b]).length - 1) 0 = b := by simp [List.getD]
    rw [if_neg (by simp), hg, if_neg hc] at h
    simp only at h
    generalize hL : t ++ [b] = L at h hg
    have hLl : L.length = t.length + 1 := by rw [← hL]; simp
    split at h
    · rename_i he
      unfold Lib.decodeL at h he
      obtain ⟨h1, h2⟩ := decode_low _ _ h
      rw [h2] at he
      simp only at he
      have hgb : (bs ⟨(L.drop (Lib.lastStart L)).toArray⟩)[0]? = some b := by
        rw [bs_mk, List.getElem?_drop]
        have : Lib.lastStart L + 0 = L.length - 1 := by omega
        rw [this]
        have h3 : L[L.length - 1]? = some (L.getD (L.length - 1) 0) := by
          rw [List.getElem?_eq_getElem (by omega)]
          simp [List.getD, List.getElem?_eq_getElem (show L.length - 1 < L.length by omega)]
        rw [h3, hg]
      rw [get!_bs _ _ _ hgb] at h1
      exact hc h1
    · simp [Utf8.runeError] at h

section
variable (p : Nat → Bool) (hp : ∀ x, p x = true → x < 128)
include hp

theorem idx_none (s : ByteArray) : ∀ (f pos : Nat), s.size ≤ pos + f → (Lib.idxFuncFrom p false s f pos = -1 ↔ ∀ b ∈ (bs s).drop pos, p b.toNat = true)
  | 0, pos, hf => by
    rw [List.drop_eq_nil_of_le (by rw [← bs_size]; omega)]
    simp [Lib.idxFuncFrom]
  | f + 1, pos, hf => by
    unfold Lib.idxFuncFrom
    by_cases hpos : pos < s.size
    · rw [if_pos hpos]
      have hl : pos < (bs s).length := by rw [← bs_size]; exact hpos
      have hg : (bs s)[pos]? = some ((bs s)[pos]) := List.getElem?_eq_getElem hl
      have hb := get!_bs s pos _ hg
      rw [List.drop_eq_getElem_cons hl]
      by_cases hq : p (Utf8.decode s pos).1 = false
      · rw [if_pos hq]
        constructor
        · intro h; omega
        · intro h
          have h1 := h _ List.mem_cons_self
          have h2 := hp _ h1
          rw [← hb] at h1 h2
          rw [decode_asc s pos h2] at hq
          simp only at hq
          rw [h1] at hq; cases hq
      · rw [if_neg hq]
        have hq' : p (Utf8.decode s pos).1 = true := by simpa using hq
        obtain ⟨h1, h2⟩ := decode_low s pos (hp _ hq')
        rw [h2] at hq' ⊢
        simp only at hq' ⊢
        rw [idx_none s f (pos + 1) (by omega)]
        rw [hb] at hq'
        simp only [List.mem_cons, forall_eq_or_imp]
        exact ⟨fun h => ⟨hq', h⟩, fun h => h.2⟩
    · rw [if_neg hpos, List.drop_eq_nil_of_le (by rw [← bs_size]; omega)]
      simp

omit hp in
theorem idx_first (s : ByteArray) : ∀ (f pos k : Nat), Lib.idxFuncFrom p false s f pos = (k : Int) → p (Utf8.decode s k).1 = false
  | 0, pos, k, h => by simp only [Lib.idxFuncFrom] at h; omega
  | f + 1, pos, k, h => by
    unfold Lib.idxFuncFrom at h
    split at h
    · split at h
      · rename_i hq
        have : pos = k := by omega
        subst this
        exact hq
      · exact idx_first s f _ k h
    · omega

theorem last_none (s : ByteArray) : ∀ (f i : Nat), i ≤ f → i ≤ s.size → Lib.lastIdxFuncFrom p false s f i = -1 → ∀ b ∈ (bs s).take i, p b.toNat = true
  | 0, i, hf, _, _ => by
    have : i = 0 := by omega
    subst this
    simp
  | f + 1, i, hf, hs, h => by
    unfold Lib.lastIdxFuncFrom at h
    by_cases hi : 0 < i
    · rw [if_pos hi] at h
      obtain ⟨j, rfl⟩ : ∃ j, i = j + 1 := ⟨i - 1, by omega⟩
      have hl : j < (bs s).length := by rw [← bs_size]; omega
      have ht : (bs s).take (j + 1) = (bs s).take j ++ [(bs s)[j]] := by rw [List.take_add_one, List.getElem?_eq_getElem hl]; rfl
      have hd : Lib.decodeLastL (s.data.toList.take (j + 1)) = Lib.decodeLastL ((bs s).take j ++ [(bs s)[j]]) := by rw [← ht]; rfl
      rw [hd] at h
      by_cases hq : p (Lib.decodeLastL ((bs s).take j ++ [(bs s)[j]])).1 = false
      · rw [if_pos hq] at h; omega
      · rw [if_neg hq] at h
        have hq' : p (Lib.decodeLastL ((bs s).take j ++ [(bs s)[j]])).1 = true := by simpa using hq
        have hlow := hp _ hq'
        have hlt : ((bs s)[j]).toNat < 128 := last_low _ _ hlow
        rw [Lib.decodeLastL_ascii _ _ hlt] at h hq'
        simp only [Nat.add_sub_cancel] at h hq'
        have ih := last_none s f j (by omega) (by omega) h
        intro b hb
        rw [ht] at hb
        rcases List.mem_append.1 hb with hb | hb
        · exact ih b hb
        · rw [List.mem_singleton.1 hb]; exact hq'
    · have : i = 0 := by omega
      subst this
      simp

/-- Trimming leaves nothing exactly if all bytes are of the kind. -/
theorem trimF_nil (s : ByteArray) : (bs (Lib.trimF p s) = [] ↔ ∀ b ∈ bs s, p b.toNat = true) := by
  have h0 : Lib.idxFunc p false s = -1 ↔ ∀ b ∈ bs s, p b.toNat = true := by
    have := idx_none p hp s s.size 0 (by omega)
    rw [List.drop_zero] at this
    exact this
  unfold Lib.trimF
  by_cases hi : Lib.idxFunc p false s = -1
  · have e : Lib.trimLeftF p s = ⟨#[]⟩ := by unfold Lib.trimLeftF; rw [if_pos hi]
    rw [e]
    refine ⟨fun _ => h0.1 hi, fun _ => ?_⟩
    unfold Lib.trimRightF
    have h1 : ((⟨#[]⟩ : ByteArray).extract 0 (Lib.rightEndF p ⟨#[]⟩)) = ⟨#[]⟩ := by
      apply bs_inj
      rw [bs, Lib.extract_data]
      simp [bs]
    rw [h1]
    rfl
  · refine ⟨fun h => absurd h ?_, fun h => absurd (h0.2 h) hi⟩
    rcases Lib.idxFunc_range p false s with h1 | ⟨h1, h2⟩
    · exact absurd h1 hi
    obtain ⟨k, hk⟩ : ∃ k : Nat, Lib.idxFunc p false s = k := ⟨(Lib.idxFunc p false s).toNat, by omega⟩
    have e : Lib.trimLeftF p s = s.extract k s.size := by unfold Lib.trimLeftF; rw [if_neg hi, hk]; rfl
    rw [e]
    have ebs : bs (s.extract k s.size) = (bs s).drop k := by
      rw [bs, Lib.extract_data, bs_size]
      exact List.take_of_length_le (by simp [bs])
    have hk2 : k < (bs s).length := by rw [← bs_size]; omega
    generalize ht : s.extract k s.size = t at ebs
    have hts : t.size = (bs s).length - k := by rw [bs_size, ebs, List.length_drop]
    have hlast : Lib.lastIdxFunc p false t ≠ -1 := by
      intro h
      have h3 := last_none p hp t t.size t.size (by omega) (by omega) h
      rw [List.take_of_length_le (by rw [← bs_size]; omega), ebs] at h3
      have h4 := (idx_none p hp s s.size k (by omega)).2 h3
      have h5 := idx_first p s s.size 0 k (by rw [← hk]; rfl)
      have hb := get!_bs s k _ (List.getElem?_eq_getElem hk2)
      have h6 := h3 ((bs s)[k]) (by rw [List.drop_eq_getElem_cons hk2]; exact List.mem_cons_self)
      have h7 := hp _ h6
      rw [← hb] at h6 h7
      rw [decode_asc s k h7] at h5
      simp only at h5
      rw [h6] at h5
      cases h5
    have hr := Lib.lastIdxFuncFrom_range p false t t.size t.size
    change Lib.lastIdxFunc p false t = -1 ∨ 0 ≤ Lib.lastIdxFunc p false t ∧ Lib.lastIdxFunc p false t ≤ _ at hr
    have hr0 : 0 ≤ Lib.lastIdxFunc p false t := by omega
    intro hnil
    have hlen : (bs (Lib.trimRightF p t)).length = min (Lib.rightEndF p t) t.size := by
      unfold Lib.trimRightF
      rw [bs, Lib.extract_data, List.drop_zero, Nat.sub_zero, List.length_take, Lib.size_eq t]
    rw [hnil] at hlen
    have hend : 0 < Lib.rightEndF p t := by
      unfold Lib.rightEndF
      rw [if_pos hr0]
      by_cases hz : (Lib.lastIdxFunc p false t).toNat = 0
      · rw [hz, Nat.zero_add]
        have hsz : 0 < (t.extract 0 t.size).size := by rw [ByteArray.size_extract]; omega
        unfold Lib.decodeGoB
        rw [if_neg (by omega)]
        exact Lib.decode_width_pos _ 0 hsz
      · omega
    simp only [List.length_nil] at hlen
    omega
end
end Go.Mdl
