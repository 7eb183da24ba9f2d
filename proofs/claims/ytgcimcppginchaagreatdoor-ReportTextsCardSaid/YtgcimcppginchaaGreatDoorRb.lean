/-
  Plain law of ReportTexts: the texts of drawn values.
-/
import Derived.Test.YtgcimcppginchaaGreatDoorRa
import Derived.Lib.Strings
set_option maxRecDepth 20000
set_option linter.unusedSimpArgs false
set_option linter.unusedVariables false
namespace Go.Mdl
open Go

def bs (s : ByteArray) : List UInt8 := s.data.toList
theorem bs_inj {s t : ByteArray} (h : bs s = bs t) : s = t := by
  cases s; cases t
  simp only [bs] at h
  congr
  exact Array.ext' h
theorem bs_mk (l : List UInt8) : bs ⟨l.toArray⟩ = l := by simp [bs]
theorem mk_app (l m : List UInt8) : (⟨l.toArray⟩ : ByteArray) ++ ⟨m.toArray⟩ = ⟨(l ++ m).toArray⟩ := bs_inj (by simp [bs, ByteArray.data_append])
theorem seq_mk (l m : List UInt8) : seq ⟨l.toArray⟩ ⟨m.toArray⟩ = decide (l = m) := by
  simp only [seq, ByteArray.toList_eq]
  by_cases h : l = m <;> simp [h]
theorem okCat_mk {l m : List UInt8} (h : l.length + m.length ≤ 1000000000) : okCat ⟨l.toArray⟩ ⟨m.toArray⟩ = true := by
  have e : IntKind.i64.max = 9223372036854775807 := rfl
  simp only [okCat, ByteArray.size, List.size_toArray, e, Bool.not_eq_true', decide_eq_false_iff_not]
  omega

def dg (x : Int) : UInt8 := UInt8.ofNat (48 + x.toNat)
theorem itoa_dg {x : Int} (h : Dg x) : strconv_Itoa x = some ⟨[dg x].toArray⟩ := by
  unfold strconv_Itoa
  rw [if_pos ⟨h.1, by have := h.2; omega⟩]
  rw [Lib.decDigits, dif_pos (by have := h.1; have := h.2; omega)]
  rfl
def joinT : List Int → List UInt8
  | [] => []
  | [x] => [dg x]
  | x :: y :: l => dg x :: 32 :: joinT (y :: l)
/-- The text of a drawn value. -/
def nmT (x : Int) : List UInt8 := [dg x]
def lsT (l : List Int) : List UInt8 := 91 :: (joinT l ++ [93])
def prT (a b : List UInt8) : List UInt8 := 40 :: (a ++ 44 :: 32 :: (b ++ [41]))
theorem joinT_len : ∀ l : List Int, (joinT l).length ≤ 2 * l.length
  | [] => by simp [joinT]
  | [x] => by simp [joinT]
  | x :: y :: l => by have := joinT_len (y :: l); simp [joinT] at *; omega

theorem words (N : Nat) {F : Int → Int → List ByteArray → Option (Ctl (List ByteArray) ByteArray)} (hF : ∀ j x v, Dg x → v.length ≤ 1000 → F j x v = some (.next (v ++ [⟨[dg x].toArray⟩]))) : ∀ (l : List Int) (i : Nat) (v : List ByteArray), (∀ x ∈ l, Dg x) → v.length + l.length ≤ 1000 →
    forR F l i v = some (.inl (v ++ l.map fun x => ⟨[dg x].toArray⟩))
  | [], i, v, _, _ => by simp
  | x :: l, i, v, h, hl => by
    simp only [List.length_cons] at hl
    rw [forR_cons, hF _ _ _ (h x (by simp)) (by omega)]
    simp only [bind1_of, ctlK_next]
    rw [words N hF l (i + 1) _ (fun y hy => h y (by simp [hy])) (by simp; omega)]
    simp
theorem join_dg : ∀ l : List Int, Lib.join (l.map fun x => [dg x]) [32] = joinT l
  | [] => rfl
  | [x] => by simp [Lib.join_one, joinT]
  | x :: y :: l => by
    have := join_dg (y :: l)
    simp only [List.map_cons, Lib.join_cons, Lib.joinTail, joinT, List.flatten_cons] at *
    rw [← this]; simp

theorem text_nm {n : Nat} {x : Int} (h : Dg x) : report_text (n + 1) (nmV x) = some ⟨(nmT x).toArray⟩ := by
  rw [report_text]
  simp [nmV, itoa_dg h, nmT]
theorem text_un {n : Nat} : report_text (n + 1) unV = some ⟨[45].toArray⟩ := by
  rw [report_text]
  simp [unV]
theorem text_ls {n : Nat} {l : List Int} (h : ∀ x ∈ l, Dg x) (hl : l.length < 4) : report_text (n + 1) (lsV l) = some ⟨(lsT l).toArray⟩ := by
  rw [report_text]
  simp only [lsV, Vl.kind_mk, ieq_iff, Int.reduceEq, if_false, if_true, Vl.list_mk, joinB_eq]
  rw [okLen_of (by omega), chk_true, words 0 (fun j x v hx hv => by simp only [itoa_dg hx, bind1_of, okApp_of (l := v) (m := [(⟨[dg x].toArray⟩ : ByteArray)]) (by simp; omega), chk_true, lapp_eq]) l 0 [] h (by simp; omega)]
  simp only [bind1_of, sumK_inl, List.nil_append]
  have e : strings_Join (l.map fun x => (⟨[dg x].toArray⟩ : ByteArray)) (ByteArray.mk #[32]) = some ⟨(joinT l).toArray⟩ := by
    unfold strings_Join
    have e1 : (l.map fun x => (⟨[dg x].toArray⟩ : ByteArray)).map (fun x => x.data.toList) = l.map fun x => [dg x] := by simp
    rw [e1, show (ByteArray.mk #[32]).data.toList = [32] from rfl, join_dg, if_pos ⟨by simp; omega, by have := joinT_len l; omega⟩]
  have hj := joinT_len l
  rw [e, bind1_of, show (ByteArray.mk #[91]) = ⟨[91].toArray⟩ from rfl, show (ByteArray.mk #[93]) = ⟨[93].toArray⟩ from rfl, okCat_mk (by simp; omega), chk_true, mk_app, okCat_mk (by simp; omega), chk_true, mk_app]
  simp [lsT]
theorem text_pr {n : Nat} {a b : Vl} {s t : List UInt8} (ha : report_text n a = some ⟨s.toArray⟩) (hb : report_text n b = some ⟨t.toArray⟩) (hs : s.length ≤ 1000) (ht : t.length ≤ 1000) :
    report_text (n + 1) (prV a b) = some ⟨(prT s t).toArray⟩ := by
  rw [report_text]
  simp only [prV, Vl.kind_mk, ieq_iff, Int.reduceEq, if_false, if_true, Vl.args_mk, lget_zero, lget_one]
  simp only [List.getElem?_cons_zero, List.getElem?_cons_succ, bind1_of, ha, hb]
  rw [show (ByteArray.mk #[40]) = ⟨[40].toArray⟩ from rfl, show (ByteArray.mk #[41]) = ⟨[41].toArray⟩ from rfl, show (ByteArray.mk #[44, 32]) = ⟨[44, 32].toArray⟩ from rfl]
  rw [okCat_mk (by simp; omega), chk_true, mk_app, okCat_mk (by simp; omega), chk_true, mk_app, okCat_mk (by simp; omega), chk_true, mk_app, okCat_mk (by simp; omega), chk_true, mk_app]
  simp [prT]
end Go.Mdl
