/- Models of the functions: what they compute, in plain Lean. -/
import Derived.Test.YtooibjkhgdpnaaaDoorLT
import Derived.Test.YtooibjkhgdpnaaaDoorLib2
set_option maxRecDepth 20000
set_option linter.unusedSimpArgs false
set_option linter.unusedVariables false
namespace Go.Mdl
open Go

def lexis_letter (a0 : Int) : Option (Bool) :=
  some (sel (ige a0 97) (ile a0 122) false)

def lexis_digit (a0 : Int) : Option (Bool) :=
  some (sel (ige a0 48) (ile a0 57) false)

/-- strings.TrimFunc with the predicate of letter. -/
def strings_TrimFunc_lexis_letter (s : ByteArray) : Option ByteArray :=
  if s.size ≤ 9223372036854775807 then some (Lib.trimF (fun x => decide (97 ≤ x ∧ x ≤ 122)) s) else none
/-- strings.TrimFunc with the predicate of digit. -/
def strings_TrimFunc_lexis_digit (s : ByteArray) : Option ByteArray :=
  if s.size ≤ 9223372036854775807 then some (Lib.trimF (fun x => decide (48 ≤ x ∧ x ≤ 57)) s) else none


def lexis_Name (a0 : ByteArray) : Option (Bool) :=
  joinB (fun (v15 : Bool) =>
  some v15) fun j16 =>
  if (ige (slen a0) 1) = true then (
  if (ile (slen a0) 16) = true then (
  bind1 (strings_TrimFunc_lexis_letter a0) fun x26 =>
  j16 (seq x26 (ByteArray.mk #[])))
  else (
  j16 false))
  else (
  j16 false)

/-- strconv.Atoi of a decimal numeral. -/
def strconv_Atoi (s : ByteArray) : Option Int := if s.size ≤ 18 then Lib.atoi s.data.toList else none


def lexis_number (a0 : ByteArray) : Option (Int × Bool) :=
  joinB (fun (v79 : Bool) =>
  if v79 = true then (
  some (0, false))
  else (
  bind1 (strconv_Atoi a0) fun x116 =>
  some (x116, true))) fun j80 =>
  if (ilt (slen a0) 1) = true then (
  j80 true)
  else (
  if (igt (slen a0) 6) = true then (
  j80 true)
  else (
  bind1 (strings_TrimFunc_lexis_digit a0) fun x90 =>
  if (sne x90 (ByteArray.mk #[])) = true then (
  j80 true)
  else (
  bind1 (sget a0 0) fun x96 =>
  if (ieq x96 48) = true then (
  j80 (igt (slen a0) 1))
  else (
  j80 false))))

/-- strings.CutPrefix. -/
def strings_CutPrefix (s p : ByteArray) : Option (ByteArray × Bool) := some (⟨(Lib.trimPrefix s.data.toList p.data.toList).toArray⟩, Lib.hasPrefix s.data.toList p.data.toList)


def lexis_word (a0 : ByteArray) : Option (Tkn × Bool) :=
  bind1 (lexis_Name a0) fun x27 =>
  if x27 = true then (
  some ((Tkn.mk 3 0 0 a0), true))
  else (
  bind2 (lexis_number a0) fun x68 x69 =>
  if x69 = true then (
  some ((Tkn.mk 4 x68 0 ByteArray.empty), true))
  else (
  bind2 (strings_CutPrefix a0 (ByteArray.mk #[120])) fun x122 x123 =>
  if x123 = true then (
  bind2 (lexis_number x122) fun x141 x142 =>
  some ((Tkn.mk 5 x141 0 ByteArray.empty), x142))
  else (
  some ((Tkn.mk 0 0 0 ByteArray.empty), false))))

def lexis_Tokens (a0 : ByteArray) : Option ((List Tkn) × Int) :=
  if (igt (slen a0) 8192) = true then (
  some ([], 3))
  else (
  joinB ((un2 fun (v2289 : (List Tkn)) (v2290 : Int) =>
  if (ilt v2290 (slen a0)) = true then (
  bind1 (sget a0 v2290) fun x2406 =>
  if (sel (ieq x2406 32) true (ieq x2406 10)) = true then (
  some (.next (v2289, (iadd .i64 v2290 1))))
  else (
  if (ieq x2406 40) = true then (
  chk (okApp v2289 [(Tkn.mk 1 0 v2290 ByteArray.empty)]) <|
  some (.next ((lapp v2289 [(Tkn.mk 1 0 v2290 ByteArray.empty)]), (iadd .i64 v2290 1))))
  else (
  if (ieq x2406 41) = true then (
  chk (okApp v2289 [(Tkn.mk 2 0 v2290 ByteArray.empty)]) <|
  some (.next ((lapp v2289 [(Tkn.mk 2 0 v2290 ByteArray.empty)]), (iadd .i64 v2290 1))))
  else (
  joinB ((fun (v2819 : Int) =>
  joinB (fun (v2903 : Bool) =>
  if v2903 = true then (
  some (.next (iadd .i64 v2819 1)))
  else (
  some (.brk v2819))) fun j2904 =>
  if (ilt v2819 (slen a0)) = true then (
  bind1 (sget a0 v2819) fun x2911 =>
  bind1 (lexis_letter (conv .i32 x2911)) fun x2914 =>
  if x2914 = true then (
  j2904 true)
  else (
  bind1 (lexis_digit (conv .i32 x2911)) fun x2920 =>
  j2904 x2920))
  else (
  j2904 false)) : (Int) → (Option (Ctl (Int) ((List Tkn) × Int)))) fun F2820 =>
  bind1 (loopN F2820 FU v2290) (sumK (fun (v2819 : Int) =>
  bind1 (sslice a0 v2290 v2819) fun x2944 =>
  bind2 (lexis_word x2944) fun x2947 x2948 =>
  if x2948 = true then (
  chk (okApp v2289 [(Tkn.mk x2947.kind x2947.num v2290 x2947.text)]) <|
  some (.next ((lapp v2289 [(Tkn.mk x2947.kind x2947.num v2290 x2947.text)]), v2819)))
  else (
  some (.ret ([], 15)))) (fun r => some (.ret r)))))))
  else (
  some (.brk (v2289, v2290)))) : ((List Tkn) × Int) → (Option (Ctl ((List Tkn) × Int) ((List Tkn) × Int)))) fun F2291 =>
  bind1 (loopN F2291 FU ([], 0)) (sumK (un2 fun (v2289 : (List Tkn)) (v2290 : Int) =>
  if (igt (llen v2289) 2048) = true then (
  some ([], 3))
  else (
  some (v2289, 0))) (fun r => some r)))

def law14_sane  : Option (Bool) :=
  bind2 (lexis_Tokens (ByteArray.mk #[40, 115, 117, 99, 99, 32, 120, 48, 41])) fun x9 x10 =>
  joinB (fun (v34 : Bool) =>
  some v34) fun j35 =>
  if (ieq x10 0) = true then (
  if (ieq (llen x9) 4) = true then (
  bind1 (lget x9 1) fun x45 =>
  if (seq x45.text (ByteArray.mk #[115, 117, 99, 99])) = true then (
  bind1 (lget x9 2) fun x51 =>
  if (ieq x51.kind 5) = true then (
  j35 (ieq x51.atF 6))
  else (
  j35 false))
  else (
  j35 false))
  else (
  j35 false))
  else (
  j35 false)

def mk_Few (a0 : (List Int)) : Option (Bool) :=
  some (ile (llen a0) 500)

def mk_New (l : List Int) : Option Smk_Deck := some ⟨l, 0⟩

def mk_Mod (a0 : Int) (a1 : Int) : Option (Int) :=
  chk (okDiv a1) <|
  chk (okDiv a1) <|
  some (irem .i64 (iadd .i64 (irem .i64 a0 a1) a1) a1)

def mk_Deck_Next (a0 : Smk_Deck) (a1 : Int) : Option (Int × Smk_Deck) :=
  if (sel (ilt a1 1) true (ige a0.atF (llen a0.l))) = true then (
  some (0, a0))
  else (
  bind1 (lget a0.l a0.atF) fun x64 =>
  bind1 (mk_Mod x64 a1) fun x74 =>
  some (x74, (Smk_Deck.mk a0.l (iadd .i64 a0.atF 1))))

def law14_LexisNames (a0 : ByteArray) (a1 : (List Int)) : Option (Bool) :=
  bind1 (law14_sane) fun x27 =>
  if x27 = true then (
  joinB (fun (v77 : Bool) =>
  if v77 = true then (
  some true)
  else (
  bind1 (mk_New a1) fun x102 =>
  bind2 (mk_Deck_Next x102 20) fun x222 d223 =>
  joinB ((un3 fun (v320 : ByteArray) (v321 : Int) (v322 : Smk_Deck) =>
  if (igt v321 0) = true then (
  bind2 (mk_Deck_Next v322 26) fun x379 d380 =>
  chk (okCat v320 (bstr [(conv .u8 (iadd .i64 97 x379))])) <|
  some (.next ((v320 ++ (bstr [(conv .u8 (iadd .i64 97 x379))])), (isub .i64 v321 1), d380)))
  else (
  some (.brk (v320, v321, v322)))) : (ByteArray × Int × Smk_Deck) → (Option (Ctl (ByteArray × Int × Smk_Deck) (Bool)))) fun F323 =>
  bind1 (loopN F323 FU ((ByteArray.mk #[]), x222, d223)) (sumK (un3 fun (v320 : ByteArray) (v321 : Int) (v322 : Smk_Deck) =>
  chk (okCat v320 (ByteArray.mk #[49])) <|
  chk (okCat (ByteArray.mk #[32]) v320) <|
  joinB ([a0, v320, (v320 ++ (ByteArray.mk #[49])), ((ByteArray.mk #[32]) ++ v320), (ByteArray.mk #[120]), (ByteArray.mk #[120, 49]), (ByteArray.mk #[])] : List ByteArray) fun L559 =>
  chk (okLen L559) <|
  joinB (fun (j560 : Int) (x562 : ByteArray) => (fun (_ : Unit) =>
  bind2 (lexis_Tokens x562) fun x825 x826 =>
  joinB (fun (v844 : Bool) =>
  bind1 (lexis_Name x562) fun x866 =>
  if (bneB x866 v844) = true then (
  some (.ret false))
  else (
  some (.next ()))) fun j845 =>
  if (ieq x826 0) = true then (
  if (ieq (llen x825) 1) = true then (
  bind1 (lget x825 0) fun x855 =>
  if (ieq x855.kind 3) = true then (
  j845 (seq x855.text x562))
  else (
  j845 false))
  else (
  j845 false))
  else (
  j845 false)) : Int → ByteArray → (Unit) → (Option (Ctl (Unit) (Bool)))) fun F711 =>
  bind1 (forR F711 L559 0 ()) (sumK (fun (_ : Unit) =>
  joinB (fun (v899 : Bool) =>
  some v899) fun j900 =>
  bind1 (lexis_Name v320) fun x904 =>
  if (ige (slen v320) 1) = true then (
  j900 (beqB x904 (ile (slen v320) 16)))
  else (
  j900 (beqB x904 false))) (fun r => some r))) (fun r => some r)))) fun j78 =>
  bind1 (mk_Few a1) fun x82 =>
  if x82 = true then (
  j78 (igt (slen a0) 200))
  else (
  j78 true))
  else (
  some false)

def ref14_letter (a0 : Int) : Option (Bool) :=
  some (sel (ige a0 97) (ile a0 122) false)

def ref14_Name (a0 : ByteArray) : Option (Bool) :=
  if (sel (ilt (slen a0) 1) true (igt (slen a0) 16)) = true then (
  some false)
  else (
  joinB ((fun (v368 : Int) =>
  if (ilt v368 (slen a0)) = true then (
  bind1 (sget a0 v368) fun x450 =>
  bind1 (ref14_letter x450) fun x453 =>
  if x453 = true then (
  some (.next (iadd .i64 v368 1)))
  else (
  some (.ret false)))
  else (
  some (.brk v368))) : (Int) → (Option (Ctl (Int) (Bool)))) fun F369 =>
  bind1 (loopN F369 FU 0) (sumK (fun (v368 : Int) =>
  some true) (fun r => some r)))

def ref14_Decimal : Nat → Int → Option (ByteArray)
  | 0, _ => none
  | n + 1, a0 =>
  if (ilt a0 10) = true then (
  some (bstr [(conv .u8 (iadd .i64 48 a0))]))
  else (
  chk (okDiv 10) <|
  bind1 (ref14_Decimal n (iquo .i64 a0 10)) fun x58 =>
  chk (okDiv 10) <|
  chk (okCat x58 (bstr [(conv .u8 (iadd .i64 48 (irem .i64 a0 10)))])) <|
  some (x58 ++ (bstr [(conv .u8 (iadd .i64 48 (irem .i64 a0 10)))])))

def ref14_text (a0 : Tkn) : Option (ByteArray × Bool) :=
  if (ieq a0.kind 1) = true then (
  some ((ByteArray.mk #[40]), (sel (ieq a0.num 0) (seq a0.text (ByteArray.mk #[])) false)))
  else (
  if (ieq a0.kind 2) = true then (
  some ((ByteArray.mk #[41]), (sel (ieq a0.num 0) (seq a0.text (ByteArray.mk #[])) false)))
  else (
  if (ieq a0.kind 3) = true then (
  joinB (fun (v310 : Bool) =>
  some (a0.text, v310)) fun j311 =>
  if (ieq a0.num 0) = true then (
  bind1 (ref14_Name a0.text) fun x324 =>
  j311 x324)
  else (
  j311 false))
  else (
  if (sel (ieq a0.kind 4) true (ieq a0.kind 5)) = true then (
  if (sel (ilt a0.num 0) true (sel (igt a0.num 999999) true (sne a0.text (ByteArray.mk #[])))) = true then (
  some ((ByteArray.mk #[]), false))
  else (
  if (ieq a0.kind 5) = true then (
  bind1 (ref14_Decimal FU a0.num) fun x444 =>
  chk (okCat (ByteArray.mk #[120]) x444) <|
  some (((ByteArray.mk #[120]) ++ x444), true))
  else (
  bind1 (ref14_Decimal FU a0.num) fun x454 =>
  some (x454, true))))
  else (
  some ((ByteArray.mk #[]), false)))))

def ref14_Text (a0 : (List Tkn)) : Option (ByteArray × Int) :=
  if (igt (llen a0) 2048) = true then (
  some ((ByteArray.mk #[]), 3))
  else (
  chk (okLen a0) <|
  joinB (fun (j555 : Int) (x557 : Tkn) => (fun (v1074 : (List Int)) =>
  bind2 (ref14_text x557) fun x1244 x1245 =>
  if x1245 = true then (
  joinB (fun (v1308 : (List Int)) =>
  chk (okApp v1308 (sbytes x1244)) <|
  some (.next (lapp v1308 (sbytes x1244)))) fun j1309 =>
  joinB (fun (v1325 : Bool) =>
  if v1325 = true then (
  chk (okApp v1074 [32]) <|
  j1309 (lapp v1074 [32]))
  else (
  j1309 v1074)) fun j1326 =>
  if (igt j555 0) = true then (
  bind1 (lget a0 (isub .i64 j555 1)) fun x1333 =>
  if (ine x1333.kind 1) = true then (
  j1326 (ine x557.kind 2))
  else (
  j1326 false))
  else (
  j1326 false))
  else (
  some (.ret ((ByteArray.mk #[]), 2)))) : Int → Tkn → ((List Int)) → (Option (Ctl ((List Int)) (ByteArray × Int)))) fun F1075 =>
  bind1 (forR F1075 a0 0 []) (sumK (fun (v1074 : (List Int)) =>
  some ((bstr v1074), 0)) (fun r => some r)))

def law14_text (a0 : Smk_Deck) : Option (ByteArray × Smk_Deck) :=
  bind2 (mk_Deck_Next a0 12) fun x713 d714 =>
  joinB ((un3 fun (v1403 : (List Tkn)) (v1404 : Int) (v1405 : Smk_Deck) =>
  if (ige v1404 0) = true then (
  bind2 (mk_Deck_Next v1405 5) fun x1616 d1617 =>
  joinB (fun (v1689 : Int) (v1690 : ByteArray) (v1691 : Smk_Deck) =>
  chk (okApp v1403 [(Tkn.mk (iadd .i64 1 x1616) v1689 0 v1690)]) <|
  some (.next ((lapp v1403 [(Tkn.mk (iadd .i64 1 x1616) v1689 0 v1690)]), (isub .i64 v1404 1), v1691))) fun j1692 =>
  if (ieq (iadd .i64 1 x1616) 3) = true then (
  bind2 (mk_Deck_Next d1617 7) fun x1712 d1713 =>
  joinB ([(ByteArray.mk #[115, 117, 99, 99]), (ByteArray.mk #[108, 97, 109]), (ByteArray.mk #[110, 97, 116]), (ByteArray.mk #[120]), (ByteArray.mk #[112, 97, 105, 114]), (ByteArray.mk #[101, 113]), (ByteArray.mk #[97, 98, 99, 100, 101, 102, 103, 104, 105, 106, 107, 108, 109, 110, 111, 112])] : List ByteArray) fun L1716 =>
  bind1 (lget L1716 x1712) fun x1717 =>
  j1692 0 x1717 d1713)
  else (
  if (sel (ieq (iadd .i64 1 x1616) 4) true (ieq (iadd .i64 1 x1616) 5)) = true then (
  bind2 (mk_Deck_Next d1617 6) fun x1751 d1752 =>
  joinB ([0, 1, 7, 12, 305, 999999] : List Int) fun L1755 =>
  bind1 (lget L1755 x1751) fun x1756 =>
  j1692 x1756 ByteArray.empty d1752)
  else (
  j1692 0 ByteArray.empty d1617)))
  else (
  some (.brk (v1403, v1404, v1405)))) : ((List Tkn) × Int × Smk_Deck) → (Option (Ctl ((List Tkn) × Int × Smk_Deck) (ByteArray × Smk_Deck)))) fun F1406 =>
  bind1 (loopN F1406 FU ([], x713, d714)) (sumK (un3 fun (v1403 : (List Tkn)) (v1404 : Int) (v1405 : Smk_Deck) =>
  bind2 (ref14_Text v1403) fun x1770 x1771 =>
  some (x1770, v1405)) (fun r => some r))

def slices_EqualFunc_api_Token_api_Token_api_Token_api_Token {S : Type} (a0 : (List Tkn)) (a1 : (List Tkn)) (a2 : (S → Tkn → Tkn → Option (Bool × S))) (sv0 : S) : Option (Bool × S) :=
  if (ine (llen a0) (llen a1)) = true then (
  some (false, sv0))
  else (
  chk (okLen a0) <|
  joinB (fun (j205 : Int) (x207 : Tkn) => (fun (v376 : S) =>
  bind1 (lget a1 j205) fun x458 =>
  bind2 (a2 v376 x207 x458) fun x467 x468 =>
  if x467 = true then (
  some (.next x468))
  else (
  some (.ret (false, x468)))) : Int → Tkn → (S) → (Option (Ctl (S) (Bool × S)))) fun F377 =>
  bind1 (forR F377 a0 0 sv0) (sumK (fun (v376 : S) =>
  some (true, v376)) (fun r => some r)))

def lexis_Same_1 (a0 : Tkn) (a1 : Tkn) : Option (Bool) :=
  some (Tkn.eqB (Tkn.mk a0.kind a0.num 0 a0.text) (Tkn.mk a1.kind a1.num 0 a1.text))

def lexis_Same (a0 : (List Tkn)) (a1 : (List Tkn)) : Option (Bool) :=
  bind2 (slices_EqualFunc_api_Token_api_Token_api_Token_api_Token a0 a1 (fun (s : Unit) (y0 : Tkn) (y1 : Tkn) => pureW (lexis_Same_1 y0 y1) s) ()) fun x9 s10 =>
  some x9

def law14_LexisJoins (a0 : (List Int)) (a1 : ByteArray) (a2 : ByteArray) : Option (Bool) :=
  bind1 (law14_sane) fun x27 =>
  if x27 = true then (
  joinB (fun (v77 : Bool) =>
  if v77 = true then (
  some true)
  else (
  bind1 (mk_New a0) fun x102 =>
  bind2 (law14_text x102) fun x111 d112 =>
  joinB ([(a1, a2), (x111, x111), (x111, (ByteArray.mk #[120, 49, 50, 32, 48])), ((ByteArray.mk #[97, 98, 99]), x111)] : List (ByteArray × ByteArray)) fun L622 =>
  chk (okLen L622) <|
  joinB (fun (j623 : Int) (x625 : (ByteArray × ByteArray)) => (fun (_ : Unit) =>
  joinB (some (.next ())) fun j1397 =>
  bind2 (lexis_Tokens x625.1) fun x1414 x1415 =>
  bind2 (lexis_Tokens x625.2) fun x1424 x1425 =>
  chk (okCat x625.1 (ByteArray.mk #[32])) <|
  chk (okCat (x625.1 ++ (ByteArray.mk #[32])) x625.2) <|
  bind2 (lexis_Tokens ((x625.1 ++ (ByteArray.mk #[32])) ++ x625.2)) fun x1442 x1443 =>
  if (sel (ieq x1415 15) true (ieq x1425 15)) = true then (
  if (sel (ine x1443 15) (ine x1443 3) false) = true then (
  some (.ret false))
  else (
  j1397))
  else (
  if (sel (ieq x1443 3) true (sel (ine x1415 0) true (ine x1425 0))) = true then (
  j1397)
  else (
  joinB (fun (v1615 : Bool) =>
  if v1615 = true then (
  some (.ret false))
  else (
  j1397)) fun j1616 =>
  if (ine x1443 0) = true then (
  j1616 true)
  else (
  chk (okApp [] x1414) <|
  chk (okApp (lapp [] x1414) x1424) <|
  bind1 (lexis_Same x1442 (lapp (lapp [] x1414) x1424)) fun x1627 =>
  j1616 (bnot x1627))))) : Int → (ByteArray × ByteArray) → (Unit) → (Option (Ctl (Unit) (Bool)))) fun F1123 =>
  bind1 (forR F1123 L622 0 ()) (sumK (fun (_ : Unit) =>
  some true) (fun r => some r)))) fun j78 =>
  bind1 (mk_Few a0) fun x82 =>
  if x82 = true then (
  j78 (igt (iadd .i64 (slen a1) (slen a2)) 4000))
  else (
  j78 true))
  else (
  some false)

/-- strconv.Itoa. -/
def strconv_Itoa (n : Int) : Option ByteArray := if -9223372036854775808 ≤ n ∧ n ≤ 9223372036854775807 then some ⟨(Lib.itoa n).toArray⟩ else none


def lexis_text (a0 : Tkn) : Option (ByteArray × Bool) :=
  bind1 (strconv_Itoa a0.num) fun x8 =>
  joinB (fun (v25 : ByteArray) =>
  joinB (fun (v50 : Bool) =>
  if (ieq a0.kind 1) = true then (
  some ((ByteArray.mk #[40]), (sel (ieq a0.num 0) (seq a0.text (ByteArray.mk #[])) false)))
  else (
  if (ieq a0.kind 2) = true then (
  some ((ByteArray.mk #[41]), (sel (ieq a0.num 0) (seq a0.text (ByteArray.mk #[])) false)))
  else (
  if (ieq a0.kind 3) = true then (
  joinB (fun (v281 : Bool) =>
  some (a0.text, v281)) fun j282 =>
  if (ieq a0.num 0) = true then (
  bind1 (lexis_Name a0.text) fun x295 =>
  j282 x295)
  else (
  j282 false))
  else (
  if (sel (ieq a0.kind 4) true (ieq a0.kind 5)) = true then (
  some (v25, (sel v50 (seq a0.text (ByteArray.mk #[])) false)))
  else (
  some ((ByteArray.mk #[]), false)))))) fun j51 =>
  if (ige a0.num 0) = true then (
  bind1 (strconv_Itoa a0.num) fun x58 =>
  j51 (ile (slen x58) 6))
  else (
  j51 false)) fun j26 =>
  if (ieq a0.kind 5) = true then (
  chk (okCat (ByteArray.mk #[120]) x8) <|
  j26 ((ByteArray.mk #[120]) ++ x8))
  else (
  j26 x8)

/-- The space ahead of a token. -/
def gapT (p : Option Tkn) (t : Tkn) : List UInt8 :=
  match p with
  | none => []
  | some q => if q.kind ≠ 1 ∧ t.kind ≠ 2 then [32] else []
/-- lexis.Text, behind a token, with what is written. -/
def ltext : Option Tkn → List Tkn → List UInt8 → Option (ByteArray × Int)
  | _, [], acc => some (⟨acc.toArray⟩, 0)
  | p, t :: ts, acc => match lexis_text t with
    | none => none
    | some (w, false) => some (⟨#[]⟩, 2)
    | some (w, true) => if w.size ≤ 1000 then ltext (some t) ts (acc ++ gapT p t ++ w.data.toList) else none

def lexis_Text (a0 : List Tkn) : Option (ByteArray × Int) := if 2048 < a0.length then some (⟨#[]⟩, 3) else ltext none a0 []



def law14_LexisPlaces (a0 : (List Int)) : Option (Bool) :=
  bind1 (law14_sane) fun x27 =>
  if x27 = true then (
  bind1 (mk_Few a0) fun x61 =>
  if x61 = true then (
  bind1 (mk_New a0) fun x80 =>
  bind2 (law14_text x80) fun x83 d84 =>
  bind2 (lexis_Tokens x83) fun x93 x94 =>
  joinB (fun (v146 : Bool) =>
  if v146 = true then (
  some false)
  else (
  chk (okLen x93) <|
  joinB (fun (j354 : Int) (x356 : Tkn) => (fun (_ : Unit) =>
  bind2 (lexis_Text [(Tkn.mk x356.kind x356.num 0 x356.text)]) fun x663 x664 =>
  joinB (fun (v693 : Bool) =>
  if v693 = true then (
  some (.ret false))
  else (
  some (.next ()))) fun j694 =>
  if (ine x664 0) = true then (
  j694 true)
  else (
  if (ilt x356.atF 0) = true then (
  j694 true)
  else (
  if (igt (iadd .i64 x356.atF (slen x663)) (slen x83)) = true then (
  j694 true)
  else (
  bind1 (sslice x83 x356.atF (iadd .i64 x356.atF (slen x663))) fun x707 =>
  if (sne x707 x663) = true then (
  j694 true)
  else (
  if (igt j354 0) = true then (
  bind1 (lget x93 (isub .i64 j354 1)) fun x716 =>
  j694 (ile x356.atF x716.atF))
  else (
  j694 false)))))) : Int → Tkn → (Unit) → (Option (Ctl (Unit) (Bool)))) fun F533 =>
  bind1 (forR F533 x93 0 ()) (sumK (fun (_ : Unit) =>
  some true) (fun r => some r)))) fun j147 =>
  if (ine x94 0) = true then (
  j147 true)
  else (
  if (ieq (llen x93) 0) = true then (
  j147 true)
  else (
  bind1 (lget x93 0) fun x157 =>
  j147 (ine x157.atF 0))))
  else (
  some true))
  else (
  some false)

def ref14_digit (a0 : Int) : Option (Bool) :=
  some (sel (ige a0 48) (ile a0 57) false)

def ref14_number (a0 : ByteArray) : Option (Int × Bool) :=
  joinB (fun (v61 : Bool) =>
  if v61 = true then (
  some (0, false))
  else (
  joinB ((un2 fun (v619 : Int) (v620 : Int) =>
  if (ilt v620 (slen a0)) = true then (
  bind1 (sget a0 v620) fun x752 =>
  bind1 (ref14_digit x752) fun x755 =>
  if x755 = true then (
  some (.next ((isub .i64 (iadd .i64 (imul .i64 v619 10) (conv .i64 x752)) 48), (iadd .i64 v620 1))))
  else (
  some (.ret (0, false))))
  else (
  some (.brk (v619, v620)))) : (Int × Int) → (Option (Ctl (Int × Int) (Int × Bool)))) fun F621 =>
  bind1 (loopN F621 FU (0, 0)) (sumK (un2 fun (v619 : Int) (v620 : Int) =>
  some (v619, true)) (fun r => some r)))) fun j62 =>
  if (ilt (slen a0) 1) = true then (
  j62 true)
  else (
  if (igt (slen a0) 6) = true then (
  j62 true)
  else (
  bind1 (sget a0 0) fun x72 =>
  if (ieq x72 48) = true then (
  j62 (igt (slen a0) 1))
  else (
  j62 false)))

def ref14_word (a0 : ByteArray) (a1 : Int) : Option (Tkn × Bool) :=
  bind2 (ref14_number a0) fun x32 x33 =>
  if x33 = true then (
  some ((Tkn.mk 4 x32 a1 ByteArray.empty), true))
  else (
  joinB (bind1 (ref14_Name a0) fun x167 =>
  some ((Tkn.mk 3 0 a1 a0), x167)) fun j104 =>
  joinB (fun (v117 : Bool) =>
  if v117 = true then (
  bind1 (sslice a0 1 (slen a0)) fun x144 =>
  bind2 (ref14_number x144) fun x147 x148 =>
  if x148 = true then (
  some ((Tkn.mk 5 x147 a1 ByteArray.empty), true))
  else (
  j104))
  else (
  j104)) fun j118 =>
  bind1 (sget a0 0) fun x122 =>
  if (ieq x122 120) = true then (
  j118 (igt (slen a0) 1))
  else (
  j118 false))

def ref14_Tokens (a0 : ByteArray) : Option ((List Tkn) × Int) :=
  if (igt (slen a0) 8192) = true then (
  some ([], 3))
  else (
  joinB ((un2 fun (v2115 : (List Tkn)) (v2116 : Int) =>
  if (ilt v2116 (slen a0)) = true then (
  joinB (fun (v2174 : Bool) =>
  if v2174 = true then (
  some (.next (v2115, (iadd .i64 v2116 1))))
  else (
  bind1 (sget a0 v2116) fun x2197 =>
  if (ieq x2197 40) = true then (
  chk (okApp v2115 [(Tkn.mk 1 0 v2116 ByteArray.empty)]) <|
  some (.next ((lapp v2115 [(Tkn.mk 1 0 v2116 ByteArray.empty)]), (iadd .i64 v2116 1))))
  else (
  if (ieq x2197 41) = true then (
  chk (okApp v2115 [(Tkn.mk 2 0 v2116 ByteArray.empty)]) <|
  some (.next ((lapp v2115 [(Tkn.mk 2 0 v2116 ByteArray.empty)]), (iadd .i64 v2116 1))))
  else (
  joinB ((fun (v2581 : Int) =>
  joinB (fun (v2665 : Bool) =>
  if v2665 = true then (
  some (.next (iadd .i64 v2581 1)))
  else (
  some (.brk v2581))) fun j2666 =>
  if (ilt v2581 (slen a0)) = true then (
  bind1 (sget a0 v2581) fun x2673 =>
  bind1 (ref14_letter x2673) fun x2676 =>
  if x2676 = true then (
  j2666 true)
  else (
  bind1 (ref14_digit x2673) fun x2682 =>
  j2666 x2682))
  else (
  j2666 false)) : (Int) → (Option (Ctl (Int) ((List Tkn) × Int)))) fun F2582 =>
  bind1 (loopN F2582 FU v2116) (sumK (fun (v2581 : Int) =>
  if (ieq v2581 v2116) = true then (
  some (.ret ([], 15)))
  else (
  bind1 (sslice a0 v2116 v2581) fun x2730 =>
  bind2 (ref14_word x2730 v2116) fun x2733 x2734 =>
  if x2734 = true then (
  chk (okApp v2115 [x2733]) <|
  some (.next ((lapp v2115 [x2733]), v2581)))
  else (
  some (.ret ([], 15))))) (fun r => some (.ret r))))))) fun j2175 =>
  bind1 (sget a0 v2116) fun x2179 =>
  if (ieq x2179 32) = true then (
  j2175 true)
  else (
  j2175 (ieq x2179 10)))
  else (
  some (.brk (v2115, v2116)))) : ((List Tkn) × Int) → (Option (Ctl ((List Tkn) × Int) ((List Tkn) × Int)))) fun F2117 =>
  bind1 (loopN F2117 FU ([], 0)) (sumK (un2 fun (v2115 : (List Tkn)) (v2116 : Int) =>
  if (igt (llen v2115) 2048) = true then (
  some ([], 3))
  else (
  some (v2115, 0))) (fun r => some r)))

def law14_same (a0 : (List Tkn)) (a1 : (List Tkn)) : Option (Bool) :=
  if (ine (llen a0) (llen a1)) = true then (
  some false)
  else (
  chk (okLen a0) <|
  joinB (fun (j112 : Int) (x114 : Tkn) => (fun (_ : Unit) =>
  bind1 (lget a1 j112) fun x274 =>
  if (Tkn.eqB x114 x274) = true then (
  some (.next ()))
  else (
  some (.ret false))) : Int → Tkn → (Unit) → (Option (Ctl (Unit) (Bool)))) fun F191 =>
  bind1 (forR F191 a0 0 ()) (sumK (fun (_ : Unit) =>
  some true) (fun r => some r)))

def ref14_Same (a0 : (List Tkn)) (a1 : (List Tkn)) : Option (Bool) :=
  if (ine (llen a0) (llen a1)) = true then (
  some false)
  else (
  chk (okLen a0) <|
  joinB (fun (j172 : Int) (x174 : Tkn) => (fun (_ : Unit) =>
  joinB (fun (v434 : Bool) =>
  if v434 = true then (
  some (.ret false))
  else (
  some (.next ()))) fun j435 =>
  bind1 (lget a1 j172) fun x448 =>
  if (ine x174.kind x448.kind) = true then (
  j435 true)
  else (
  if (ine x174.num x448.num) = true then (
  j435 true)
  else (
  j435 (sne x174.text x448.text)))) : Int → Tkn → (Unit) → (Option (Ctl (Unit) (Bool)))) fun F311 =>
  bind1 (forR F311 a0 0 ()) (sumK (fun (_ : Unit) =>
  some true) (fun r => some r)))

def law14_LexisBack (a0 : (List Int)) (a1 : (List Tkn)) : Option (Bool) :=
  bind1 (law14_sane) fun x27 =>
  if x27 = true then (
  joinB (fun (v77 : Bool) =>
  if v77 = true then (
  some true)
  else (
  bind1 (mk_New a0) fun x102 =>
  chk (okLen a1) <|
  joinB (fun (j709 : Int) (x711 : Tkn) => (fun (v1304 : (List Tkn)) =>
  bind1 (mk_Mod x711.kind 5) fun x1492 =>
  joinB (fun (v1555 : Int) (v1556 : ByteArray) =>
  chk (okApp v1304 [(Tkn.mk (iadd .i64 1 x1492) v1555 0 v1556)]) <|
  some (.next (lapp v1304 [(Tkn.mk (iadd .i64 1 x1492) v1555 0 v1556)]))) fun j1557 =>
  if (ieq (iadd .i64 1 x1492) 3) = true then (
  bind1 (mk_Mod x711.num 5) fun x1577 =>
  joinB ([(ByteArray.mk #[97]), (ByteArray.mk #[115, 117, 99, 99]), (ByteArray.mk #[120, 121]), (ByteArray.mk #[120]), (ByteArray.mk #[101, 113])] : List ByteArray) fun L1580 =>
  bind1 (lget L1580 x1577) fun x1581 =>
  j1557 0 x1581)
  else (
  if (sel (ieq (iadd .i64 1 x1492) 4) true (ieq (iadd .i64 1 x1492) 5)) = true then (
  bind1 (mk_Mod x711.num 1000000) fun x1615 =>
  j1557 x1615 ByteArray.empty)
  else (
  j1557 0 ByteArray.empty))) : Int → Tkn → ((List Tkn)) → (Option (Ctl ((List Tkn)) (Bool)))) fun F1305 =>
  bind1 (forR F1305 a1 0 []) (sumK (fun (v1304 : (List Tkn)) =>
  bind2 (lexis_Text v1304) fun x1638 x1639 =>
  bind2 (lexis_Tokens x1638) fun x1648 x1649 =>
  joinB ((un3 fun (v2295 : ByteArray) (v2296 : Int) (v2297 : Smk_Deck) =>
  if (ilt v2296 (slen x1638)) = true then (
  joinB (fun (v2402 : ByteArray) (v2403 : Smk_Deck) =>
  some (.next (v2402, (iadd .i64 v2296 1), v2403))) fun j2404 =>
  bind1 (sslice x1638 v2296 (iadd .i64 v2296 1)) fun x2420 =>
  chk (okCat v2295 x2420) <|
  joinB (fun (v2437 : Bool) =>
  if v2437 = true then (
  bind2 (mk_Deck_Next v2297 4) fun x2458 d2459 =>
  joinB ([(ByteArray.mk #[32]), (ByteArray.mk #[10]), (ByteArray.mk #[]), (ByteArray.mk #[32, 32])] : List ByteArray) fun L2462 =>
  bind1 (lget L2462 x2458) fun x2463 =>
  chk (okCat (v2295 ++ x2420) x2463) <|
  j2404 ((v2295 ++ x2420) ++ x2463) d2459)
  else (
  j2404 (v2295 ++ x2420) v2297)) fun j2438 =>
  bind1 (sget x1638 v2296) fun x2442 =>
  if (ieq x2442 32) = true then (
  j2438 true)
  else (
  if (ieq x2442 40) = true then (
  j2438 true)
  else (
  j2438 (ieq x2442 41))))
  else (
  some (.brk (v2295, v2296, v2297)))) : (ByteArray × Int × Smk_Deck) → (Option (Ctl (ByteArray × Int × Smk_Deck) (Bool)))) fun F2298 =>
  bind1 (loopN F2298 FU ((ByteArray.mk #[32]), 0, x102)) (sumK (un3 fun (v2295 : ByteArray) (v2296 : Int) (v2297 : Smk_Deck) =>
  bind2 (lexis_Tokens v2295) fun x2477 x2478 =>
  bind2 (lexis_Text x2477) fun x2487 x2488 =>
  joinB (fun (v2518 : Bool) =>
  some v2518) fun j2519 =>
  if (ieq x1639 0) = true then (
  if (ieq x1649 0) = true then (
  if (ieq x2478 0) = true then (
  if (ieq x2488 0) = true then (
  bind1 (lexis_Same x1648 v1304) fun x2535 =>
  if x2535 = true then (
  bind1 (lexis_Same x2477 v1304) fun x2541 =>
  if x2541 = true then (
  j2519 (seq x2487 x1638))
  else (
  j2519 false))
  else (
  j2519 false))
  else (
  j2519 false))
  else (
  j2519 false))
  else (
  j2519 false))
  else (
  j2519 false)) (fun r => some r))) (fun r => some r)))) fun j78 =>
  bind1 (mk_Few a0) fun x82 =>
  if x82 = true then (
  j78 (igt (llen a1) 300))
  else (
  j78 true))
  else (
  some false)

end Go.Mdl
