/-
  Plain law of ReportTexts: the sanity check, and the law.
-/
import Derived.Test.YtgcimcppginchaaGreatDoorRd
set_option maxRecDepth 20000
set_option linter.unusedSimpArgs false
set_option linter.unusedVariables false
namespace Go.Mdl
open Go

theorem itoa_1 : strconv_Itoa 1 = some ⟨[49].toArray⟩ := by
  unfold strconv_Itoa; rw [if_pos (by decide), show (1 : Int).toNat = 1 from rfl, Lib.decDigits, dif_pos (by decide)]; rfl
theorem itoa_0 : strconv_Itoa 0 = some ⟨[48].toArray⟩ := by
  unfold strconv_Itoa; rw [if_pos (by decide), show (0 : Int).toNat = 0 from rfl, Lib.decDigits, dif_pos (by decide)]; rfl
theorem itoa_12 : strconv_Itoa 12 = some ⟨[49, 50].toArray⟩ := by
  unfold strconv_Itoa; rw [if_pos (by decide), show (12 : Int).toNat = 12 from rfl, Lib.decDigits, dif_neg (by decide), Lib.decDigits, dif_pos (by decide)]; rfl
theorem itoa_20 : strconv_Itoa 20 = some ⟨[50, 48].toArray⟩ := by
  unfold strconv_Itoa; rw [if_pos (by decide), show (20 : Int).toNat = 20 from rfl, Lib.decDigits, dif_neg (by decide), Lib.decDigits, dif_pos (by decide)]; rfl

def awV : Vl := Vl.mk 3 0 [] [Vl.mk 1 12 [] [], Vl.mk 2 0 [1, 20] []]
def awT : List UInt8 := [40, 49, 50, 44, 32, 91, 49, 32, 50, 48, 93, 41]
theorem value_of {v : Vl} {t : List UInt8} {k : Int} (hk : k ≤ 64) (h1 : value_nodes FU v = some (k, true)) (h2 : report_text FU v = some ⟨t.toArray⟩) : report_Value v = some (⟨t.toArray⟩, 0) := by
  unfold report_Value value_Check
  rw [h1]
  simp [h2, show ¬ 64 < k by omega]
theorem aw_value : report_Value awV = some (⟨awT.toArray⟩, 0) := by
  obtain ⟨n, hn⟩ := fu5
  have n1 : value_nodes (n + 9) (Vl.mk 1 12 [] []) = some (1, true) := by
    rw [value_nodes]; simp [okLen_of]
  have n2 : value_nodes (n + 9) (Vl.mk 2 0 [1, 20] []) = some (1, true) := by
    rw [value_nodes]; simp [okLen_of, idx_ok (n := 0) [1, 20] (by decide) (by decide)]
  have t1 : report_text (n + 9) (Vl.mk 1 12 [] []) = some ⟨[49, 50].toArray⟩ := by
    rw [report_text]; simp [itoa_12]
  have t2 : report_text (n + 9) (Vl.mk 2 0 [1, 20] []) = some ⟨[91, 49, 32, 50, 48, 93].toArray⟩ := by
    rw [report_text]
    have e : strings_Join [(⟨[49].toArray⟩ : ByteArray), ⟨[50, 48].toArray⟩] (ByteArray.mk #[32]) = some ⟨[49, 32, 50, 48].toArray⟩ := by
      unfold strings_Join
      rw [if_pos (by decide)]
      rfl
    simp only [Vl.kind_mk, ieq_iff, Int.reduceEq, if_false, if_true, Vl.list_mk, joinB_eq]
    rw [okLen_of (by simp), chk_true]
    simp only [forR_cons, forR_nil, itoa_1, itoa_20, bind1_of, ctlK_next, sumK_inl, lapp_eq, List.nil_append, List.cons_append, okApp_of (l := ([] : List ByteArray)) (m := [(⟨[49].toArray⟩ : ByteArray)]) (by simp), okApp_of (l := [(⟨[49].toArray⟩ : ByteArray)]) (m := [(⟨[50, 48].toArray⟩ : ByteArray)]) (by simp), chk_true]
    rw [e, bind1_of, show (ByteArray.mk #[91]) = ⟨[91].toArray⟩ from rfl, show (ByteArray.mk #[93]) = ⟨[93].toArray⟩ from rfl, okCat_mk (by simp), chk_true, mk_app, okCat_mk (by simp), chk_true, mk_app]
    rfl
  refine value_of (k := 3) (by decide) ?_ ?_
  · rw [hn]; exact nodes_pr n1 n2
  · rw [hn]; exact text_pr t1 t2 (by simp) (by simp)
theorem un_value : report_Value (Vl.mk 4 0 [] []) = some (⟨[45].toArray⟩, 0) := Tx.un.value

theorem aw_row : report_Row (Sapi_Row.mk [awV] (Vl.mk 4 0 [] []) true 0) = some (⟨(awT ++ [32] ++ [45, 62, 32] ++ [45] ++ [32] ++ [116, 114, 117, 101]).toArray⟩, 0) := by
  unfold report_Row
  simp only [List.length_cons, List.length_nil, rowIn, aw_value, un_value]
  rfl
theorem aw_lib : report_Library (Thy.mk []) [] = some ([⟨[100, 101, 99, 108, 97, 114, 97, 116, 105, 111, 110, 115, 32, 48, 32, 116, 101, 114, 109, 115, 32, 48, 32, 110, 111, 100, 101, 115, 32, 48].toArray⟩], 0) := by
  have e : strings_Join [(ByteArray.mk #[100, 101, 99, 108, 97, 114, 97, 116, 105, 111, 110, 115]), (ByteArray.mk #[48]), (ByteArray.mk #[116, 101, 114, 109, 115]), (ByteArray.mk #[48]), (ByteArray.mk #[110, 111, 100, 101, 115]), (ByteArray.mk #[48])] (ByteArray.mk #[32]) = some (ByteArray.mk #[100, 101, 99, 108, 97, 114, 97, 116, 105, 111, 110, 115, 32, 48, 32, 116, 101, 114, 109, 115, 32, 48, 32, 110, 111, 100, 101, 115, 32, 48]) := by
    unfold strings_Join
    rw [if_pos (by decide)]
    rfl
  unfold report_Library library_Check theory_Check library_formulas library_list extract_Lemmas
  have hs : lslice ([] : List Dcl) 0 0 = some [] := rfl
  simp [okLen_of, itoa_0, un2, un3, okApp_of, hs, e]
theorem aw_rows : report_Rows [] = some ([], 0) := by
  unfold report_Rows
  simp [okLen_of]
theorem awake_eq : law44_awake = some true := by
  unfold law44_awake
  have h1 := aw_value
  have h2 := aw_row
  simp only [awV] at h1 h2
  rw [h1, bind2_of, h2, bind2_of, aw_lib, bind2_of, aw_rows, bind2_of]
  simp only [joinB_eq]
  rw [if_pos (by rfl), if_pos (by rfl), if_pos (by rfl), if_pos (by rfl)]
  rw [if_pos (by rw [show (ByteArray.mk #[40, 49, 50, 44, 32, 91, 49, 32, 50, 48, 93, 41]) = ⟨awT.toArray⟩ from rfl, seq_mk]; simp)]
  rw [if_pos (by rw [show (ByteArray.mk #[40, 49, 50, 44, 32, 91, 49, 32, 50, 48, 93, 41, 32, 45, 62, 32, 45, 32, 116, 114, 117, 101]) = ⟨(awT ++ [32] ++ [45, 62, 32] ++ [45] ++ [32] ++ [116, 114, 117, 101]).toArray⟩ from rfl, seq_mk]; simp)]
  rw [if_pos (by rfl), lget_zero, List.getElem?_cons_zero, bind1_of]
  rw [if_pos (by rw [show (ByteArray.mk #[100, 101, 99, 108, 97, 114, 97, 116, 105, 111, 110, 115, 32, 48, 32, 116, 101, 114, 109, 115, 32, 48, 32, 110, 111, 100, 101, 115, 32, 48]) = ⟨[100, 101, 99, 108, 97, 114, 97, 116, 105, 111, 110, 115, 32, 48, 32, 116, 101, 114, 109, 115, 32, 48, 32, 110, 111, 100, 101, 115, 32, 48].toArray⟩ from rfl, seq_mk]; simp)]
  rfl

theorem law_ReportTexts (l : List Int) : law44_ReportTexts l = some true := by
  unfold law44_ReportTexts
  simp only [joinB_eq, awake_eq, bind1_of, mk_Few, if_true]
  by_cases hl : l.length ≤ 500
  · have e : bnot (ile (llen l) 500) = false := by rw [show ile (llen l) 500 = true from (ile_iff _ _).2 (by rw [llen_eq]; omega)]; rfl
    rw [e]
    simp only [Bool.false_eq_true, if_false, mk_New, bind1_of]
    obtain ⟨t1, d1, h1, h2, h3⟩ := mk_Plain_ok (d := ⟨l, 0⟩) ⟨by show l.length ≤ 1000; omega, by show (0 : Int) ≤ 0; omega, by show (0 : Int) ≤ l.length; omega⟩
    obtain ⟨v1, d2, h4, h5, h6⟩ := mk_Value_dr h2 h3
    obtain ⟨t2, d3, h7, h8, h9⟩ := mk_Plain_ok h6
    obtain ⟨v2, d4, h10, h11, h12⟩ := mk_Value_dr h8 h9
    obtain ⟨s1, k1⟩ := h5.tx
    obtain ⟨s2, k2⟩ := h11.tx
    simp only [h1, h4, h7, h10, k1.value, k2.value, bind2_of, k1.same k2, bind1_of, seq_mk]
    simp [beqB]
  · have e : bnot (ile (llen l) 500) = true := by rw [show ile (llen l) 500 = false from by rw [← Bool.not_eq_true, ile_iff, llen_eq]; omega]; rfl
    rw [e]
    simp
end Go.Mdl
