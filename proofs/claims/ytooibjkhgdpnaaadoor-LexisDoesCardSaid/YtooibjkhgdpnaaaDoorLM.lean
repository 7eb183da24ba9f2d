/- Models of the functions: what they compute, in plain Lean. -/
import Derived.Test.YtooibjkhgdpnaaaDoorLT
import Derived.Test.YtooibjkhgdpnaaaDoorLib2
set_option maxRecDepth 20000
set_option linter.unusedSimpArgs false
set_option linter.unusedVariables false
namespace Go.Mdl
open Go

def lexis_letter (a0 : Int) : Option (Bool) :=
  some (sel (ige a0 97) (ile a0 122) false)

def lexis_digit (a0 : Int) : Option (Bool) :=
  some (sel (ige a0 48) (ile a0 57) false)

/-- strings.TrimFunc with the predicate of letter. -/
def strings_TrimFunc_lexis_letter (s : ByteArray) : Option ByteArray :=
  if s.size ≤ 9223372036854775807 then some (Lib.trimF (fun x => decide (97 ≤ x ∧ x ≤ 122)) s) else none
/-- strings.TrimFunc with the predicate of digit. -/
def strings_TrimFunc_lexis_digit (s : ByteArray) : Option ByteArray :=
  if s.size ≤ 9223372036854775807 then some (Lib.trimF (fun x => decide (48 ≤ x ∧ x ≤ 57)) s) else none


def lexis_Name (a0 : ByteArray) : Option (Bool) :=
  joinB (fun (v6 : Bool) =>
  some v6) fun j7 =>
  if (ige (slen a0) 1) = true then (
  if (ile (slen a0) 16) = true then (
  bind1 (strings_TrimFunc_lexis_letter a0) fun x8 =>
  j7 (seq x8 (ByteArray.mk #[])))
  else (
  j7 false))
  else (
  j7 false)

/-- strconv.Atoi of a decimal numeral. -/
def strconv_Atoi (s : ByteArray) : Option Int := if s.size ≤ 18 then Lib.atoi s.data.toList else none


def lexis_number (a0 : ByteArray) : Option (Int × Bool) :=
  joinB (fun (v21 : Bool) =>
  if v21 = true then (
  some (0, false))
  else (
  bind1 (strconv_Atoi a0) fun x29 =>
  some (x29, true))) fun j22 =>
  if (ilt (slen a0) 1) = true then (
  j22 true)
  else (
  if (igt (slen a0) 6) = true then (
  j22 true)
  else (
  bind1 (strings_TrimFunc_lexis_digit a0) fun x23 =>
  if (sne x23 (ByteArray.mk #[])) = true then (
  j22 true)
  else (
  bind1 (sget a0 0) fun x25 =>
  if (ieq x25 48) = true then (
  j22 (igt (slen a0) 1))
  else (
  j22 false))))

/-- strings.CutPrefix. -/
def strings_CutPrefix (s p : ByteArray) : Option (ByteArray × Bool) := some (⟨(Lib.trimPrefix s.data.toList p.data.toList).toArray⟩, Lib.hasPrefix s.data.toList p.data.toList)


def lexis_word (a0 : ByteArray) : Option (Tkn × Bool) :=
  bind1 (lexis_Name a0) fun x7 =>
  if x7 = true then (
  some ((Tkn.mk 3 0 0 a0), true))
  else (
  bind2 (lexis_number a0) fun x18 x19 =>
  if x19 = true then (
  some ((Tkn.mk 4 x18 0 ByteArray.empty), true))
  else (
  bind2 (strings_CutPrefix a0 (ByteArray.mk #[120])) fun x36 x37 =>
  if x37 = true then (
  bind2 (lexis_number x36) fun x42 x43 =>
  some ((Tkn.mk 5 x42 0 ByteArray.empty), x43))
  else (
  some ((Tkn.mk 0 0 0 ByteArray.empty), false))))

def lexis_Tokens (a0 : ByteArray) : Option ((List Tkn) × Int) :=
  if (igt (slen a0) 8192) = true then (
  some ([], 3))
  else (
  joinB ((un2 fun (v669 : (List Tkn)) (v670 : Int) =>
  if (ilt v670 (slen a0)) = true then (
  bind1 (sget a0 v670) fun x691 =>
  if (sel (ieq x691 32) true (ieq x691 10)) = true then (
  some (.next (v669, (iadd .i64 v670 1))))
  else (
  if (ieq x691 40) = true then (
  chk (okApp v669 [(Tkn.mk 1 0 v670 ByteArray.empty)]) <|
  some (.next ((lapp v669 [(Tkn.mk 1 0 v670 ByteArray.empty)]), (iadd .i64 v670 1))))
  else (
  if (ieq x691 41) = true then (
  chk (okApp v669 [(Tkn.mk 2 0 v670 ByteArray.empty)]) <|
  some (.next ((lapp v669 [(Tkn.mk 2 0 v670 ByteArray.empty)]), (iadd .i64 v670 1))))
  else (
  joinB ((fun (v829 : Int) =>
  joinB (fun (v863 : Bool) =>
  if v863 = true then (
  some (.next (iadd .i64 v829 1)))
  else (
  some (.brk v829))) fun j864 =>
  if (ilt v829 (slen a0)) = true then (
  bind1 (sget a0 v829) fun x865 =>
  bind1 (lexis_letter (conv .i32 x865)) fun x867 =>
  if x867 = true then (
  j864 true)
  else (
  bind1 (lexis_digit (conv .i32 x865)) fun x869 =>
  j864 x869))
  else (
  j864 false)) : (Int) → (Option (Ctl (Int) ((List Tkn) × Int)))) fun F830 =>
  bind1 (loopN F830 FU v670) (sumK (fun (v829 : Int) =>
  bind1 (sslice a0 v670 v829) fun x876 =>
  bind2 (lexis_word x876) fun x878 x879 =>
  if x879 = true then (
  chk (okApp v669 [(Tkn.mk x878.kind x878.num v670 x878.text)]) <|
  some (.next ((lapp v669 [(Tkn.mk x878.kind x878.num v670 x878.text)]), v829)))
  else (
  some (.ret ([], 15)))) (fun r => some (.ret r)))))))
  else (
  some (.brk (v669, v670)))) : ((List Tkn) × Int) → (Option (Ctl ((List Tkn) × Int) ((List Tkn) × Int)))) fun F671 =>
  bind1 (loopN F671 FU ([], 0)) (sumK (un2 fun (v669 : (List Tkn)) (v670 : Int) =>
  if (igt (llen v669) 2048) = true then (
  some ([], 3))
  else (
  some (v669, 0))) (fun r => some r)))

def law14_sane  : Option (Bool) :=
  bind2 (lexis_Tokens (ByteArray.mk #[40, 115, 117, 99, 99, 32, 120, 48, 41])) fun x4 x5 =>
  joinB (fun (v14 : Bool) =>
  some v14) fun j15 =>
  if (ieq x5 0) = true then (
  if (ieq (llen x4) 4) = true then (
  bind1 (lget x4 1) fun x16 =>
  if (seq x16.text (ByteArray.mk #[115, 117, 99, 99])) = true then (
  bind1 (lget x4 2) fun x18 =>
  if (ieq x18.kind 5) = true then (
  j15 (ieq x18.atF 6))
  else (
  j15 false))
  else (
  j15 false))
  else (
  j15 false))
  else (
  j15 false)

def mk_Few (a0 : (List Int)) : Option (Bool) :=
  some (ile (llen a0) 500)

def mk_New (l : List Int) : Option Smk_Deck := some ⟨l, 0⟩

def mk_Mod (a0 : Int) (a1 : Int) : Option (Int) :=
  chk (okDiv a1) <|
  chk (okDiv a1) <|
  some (irem .i64 (iadd .i64 (irem .i64 a0 a1) a1) a1)

def mk_Deck_Next (a0 : Smk_Deck) (a1 : Int) : Option (Int × Smk_Deck) :=
  if (sel (ilt a1 1) true (ige a0.atF (llen a0.l))) = true then (
  some (0, a0))
  else (
  bind1 (lget a0.l a0.atF) fun x13 =>
  bind1 (mk_Mod x13 a1) fun x17 =>
  some (x17, (Smk_Deck.mk a0.l (iadd .i64 a0.atF 1))))

def law14_LexisNames (a0 : ByteArray) (a1 : (List Int)) : Option (Bool) :=
  bind1 (law14_sane) fun x7 =>
  if x7 = true then (
  joinB (fun (v23 : Bool) =>
  if v23 = true then (
  some true)
  else (
  bind1 (mk_New a1) fun x29 =>
  bind2 (mk_Deck_Next x29 20) fun x61 d62 =>
  joinB ((un3 fun (v82 : ByteArray) (v83 : Int) (v84 : Smk_Deck) =>
  if (igt v83 0) = true then (
  bind2 (mk_Deck_Next v84 26) fun x95 d96 =>
  chk (okCat v82 (bstr [(conv .u8 (iadd .i64 97 x95))])) <|
  some (.next ((v82 ++ (bstr [(conv .u8 (iadd .i64 97 x95))])), (isub .i64 v83 1), d96)))
  else (
  some (.brk (v82, v83, v84)))) : (ByteArray × Int × Smk_Deck) → (Option (Ctl (ByteArray × Int × Smk_Deck) (Bool)))) fun F85 =>
  bind1 (loopN F85 FU ((ByteArray.mk #[]), x61, d62)) (sumK (un3 fun (v82 : ByteArray) (v83 : Int) (v84 : Smk_Deck) =>
  chk (okCat v82 (ByteArray.mk #[49])) <|
  chk (okCat (ByteArray.mk #[32]) v82) <|
  joinB ([a0, v82, (v82 ++ (ByteArray.mk #[49])), ((ByteArray.mk #[32]) ++ v82), (ByteArray.mk #[120]), (ByteArray.mk #[120, 49]), (ByteArray.mk #[])] : List ByteArray) fun L142 =>
  chk (okLen L142) <|
  joinB (fun (j143 : Int) (x145 : ByteArray) => (fun (_ : Unit) =>
  bind2 (lexis_Tokens x145) fun x215 x216 =>
  joinB (fun (v223 : Bool) =>
  bind1 (lexis_Name x145) fun x229 =>
  if (bneB x229 v223) = true then (
  some (.ret false))
  else (
  some (.next ()))) fun j224 =>
  if (ieq x216 0) = true then (
  if (ieq (llen x215) 1) = true then (
  bind1 (lget x215 0) fun x225 =>
  if (ieq x225.kind 3) = true then (
  j224 (seq x225.text x145))
  else (
  j224 false))
  else (
  j224 false))
  else (
  j224 false)) : Int → ByteArray → (Unit) → (Option (Ctl (Unit) (Bool)))) fun F186 =>
  bind1 (forR F186 L142 0 ()) (sumK (fun (_ : Unit) =>
  joinB (fun (v236 : Bool) =>
  some v236) fun j237 =>
  bind1 (lexis_Name v82) fun x238 =>
  if (ige (slen v82) 1) = true then (
  j237 (beqB x238 (ile (slen v82) 16)))
  else (
  j237 (beqB x238 false))) (fun r => some r))) (fun r => some r)))) fun j24 =>
  bind1 (mk_Few a1) fun x25 =>
  if x25 = true then (
  j24 (igt (slen a0) 200))
  else (
  j24 true))
  else (
  some false)

def ref14_letter (a0 : Int) : Option (Bool) :=
  some (sel (ige a0 97) (ile a0 122) false)

def ref14_Name (a0 : ByteArray) : Option (Bool) :=
  if (sel (ilt (slen a0) 1) true (igt (slen a0) 16)) = true then (
  some false)
  else (
  joinB ((fun (v80 : Int) =>
  if (ilt v80 (slen a0)) = true then (
  bind1 (sget a0 v80) fun x100 =>
  bind1 (ref14_letter x100) fun x102 =>
  if x102 = true then (
  some (.next (iadd .i64 v80 1)))
  else (
  some (.ret false)))
  else (
  some (.brk v80))) : (Int) → (Option (Ctl (Int) (Bool)))) fun F81 =>
  bind1 (loopN F81 FU 0) (sumK (fun (v80 : Int) =>
  some true) (fun r => some r)))

def ref14_Decimal : Nat → Int → Option (ByteArray)
  | 0, _ => none
  | n + 1, a0 =>
  if (ilt a0 10) = true then (
  some (bstr [(conv .u8 (iadd .i64 48 a0))]))
  else (
  chk (okDiv 10) <|
  bind1 (ref14_Decimal n (iquo .i64 a0 10)) fun x7 =>
  chk (okDiv 10) <|
  chk (okCat x7 (bstr [(conv .u8 (iadd .i64 48 (irem .i64 a0 10)))])) <|
  some (x7 ++ (bstr [(conv .u8 (iadd .i64 48 (irem .i64 a0 10)))])))

def ref14_text (a0 : Tkn) : Option (ByteArray × Bool) :=
  if (ieq a0.kind 1) = true then (
  some ((ByteArray.mk #[40]), (sel (ieq a0.num 0) (seq a0.text (ByteArray.mk #[])) false)))
  else (
  if (ieq a0.kind 2) = true then (
  some ((ByteArray.mk #[41]), (sel (ieq a0.num 0) (seq a0.text (ByteArray.mk #[])) false)))
  else (
  if (ieq a0.kind 3) = true then (
  joinB (fun (v54 : Bool) =>
  some (a0.text, v54)) fun j55 =>
  if (ieq a0.num 0) = true then (
  bind1 (ref14_Name a0.text) fun x58 =>
  j55 x58)
  else (
  j55 false))
  else (
  if (sel (ieq a0.kind 4) true (ieq a0.kind 5)) = true then (
  if (sel (ilt a0.num 0) true (sel (igt a0.num 999999) true (sne a0.text (ByteArray.mk #[])))) = true then (
  some ((ByteArray.mk #[]), false))
  else (
  if (ieq a0.kind 5) = true then (
  bind1 (ref14_Decimal FU a0.num) fun x75 =>
  chk (okCat (ByteArray.mk #[120]) x75) <|
  some (((ByteArray.mk #[120]) ++ x75), true))
  else (
  bind1 (ref14_Decimal FU a0.num) fun x79 =>
  some (x79, true))))
  else (
  some ((ByteArray.mk #[]), false)))))

def ref14_Text (a0 : (List Tkn)) : Option (ByteArray × Int) :=
  if (igt (llen a0) 2048) = true then (
  some ((ByteArray.mk #[]), 3))
  else (
  chk (okLen a0) <|
  joinB (fun (j137 : Int) (x139 : Tkn) => (fun (v272 : (List Int)) =>
  bind2 (ref14_text x139) fun x315 x316 =>
  if x316 = true then (
  joinB (fun (v331 : (List Int)) =>
  chk (okApp v331 (sbytes x315)) <|
  some (.next (lapp v331 (sbytes x315)))) fun j332 =>
  joinB (fun (v338 : Bool) =>
  if v338 = true then (
  chk (okApp v272 [32]) <|
  j332 (lapp v272 [32]))
  else (
  j332 v272)) fun j339 =>
  if (igt j137 0) = true then (
  bind1 (lget a0 (isub .i64 j137 1)) fun x340 =>
  if (ine x340.kind 1) = true then (
  j339 (ine x139.kind 2))
  else (
  j339 false))
  else (
  j339 false))
  else (
  some (.ret ((ByteArray.mk #[]), 2)))) : Int → Tkn → ((List Int)) → (Option (Ctl ((List Int)) (ByteArray × Int)))) fun F273 =>
  bind1 (forR F273 a0 0 []) (sumK (fun (v272 : (List Int)) =>
  some ((bstr v272), 0)) (fun r => some r)))

def law14_text (a0 : Smk_Deck) : Option (ByteArray × Smk_Deck) :=
  bind2 (mk_Deck_Next a0 12) fun x228 d229 =>
  joinB ((un3 fun (v445 : (List Tkn)) (v446 : Int) (v447 : Smk_Deck) =>
  if (ige v446 0) = true then (
  bind2 (mk_Deck_Next v447 5) fun x510 d511 =>
  joinB (fun (v535 : Int) (v536 : ByteArray) (v537 : Smk_Deck) =>
  chk (okApp v445 [(Tkn.mk (iadd .i64 1 x510) v535 0 v536)]) <|
  some (.next ((lapp v445 [(Tkn.mk (iadd .i64 1 x510) v535 0 v536)]), (isub .i64 v446 1), v537))) fun j538 =>
  if (ieq (iadd .i64 1 x510) 3) = true then (
  bind2 (mk_Deck_Next d511 7) fun x539 d540 =>
  joinB ([(ByteArray.mk #[115, 117, 99, 99]), (ByteArray.mk #[108, 97, 109]), (ByteArray.mk #[110, 97, 116]), (ByteArray.mk #[120]), (ByteArray.mk #[112, 97, 105, 114]), (ByteArray.mk #[101, 113]), (ByteArray.mk #[97, 98, 99, 100, 101, 102, 103, 104, 105, 106, 107, 108, 109, 110, 111, 112])] : List ByteArray) fun L542 =>
  bind1 (lget L542 x539) fun x543 =>
  j538 0 x543 d540)
  else (
  if (sel (ieq (iadd .i64 1 x510) 4) true (ieq (iadd .i64 1 x510) 5)) = true then (
  bind2 (mk_Deck_Next d511 6) fun x550 d551 =>
  joinB ([0, 1, 7, 12, 305, 999999] : List Int) fun L553 =>
  bind1 (lget L553 x550) fun x554 =>
  j538 x554 ByteArray.empty d551)
  else (
  j538 0 ByteArray.empty d511)))
  else (
  some (.brk (v445, v446, v447)))) : ((List Tkn) × Int × Smk_Deck) → (Option (Ctl ((List Tkn) × Int × Smk_Deck) (ByteArray × Smk_Deck)))) fun F448 =>
  bind1 (loopN F448 FU ([], x228, d229)) (sumK (un3 fun (v445 : (List Tkn)) (v446 : Int) (v447 : Smk_Deck) =>
  bind2 (ref14_Text v445) fun x562 x563 =>
  some (x562, v447)) (fun r => some r))

def slices_EqualFunc_api_Token_api_Token_api_Token_api_Token {S : Type} (a0 : (List Tkn)) (a1 : (List Tkn)) (a2 : (S → Tkn → Tkn → Option (Bool × S))) (sv0 : S) : Option (Bool × S) :=
  if (ine (llen a0) (llen a1)) = true then (
  some (false, sv0))
  else (
  chk (okLen a0) <|
  joinB (fun (j49 : Int) (x51 : Tkn) => (fun (v96 : S) =>
  bind1 (lget a1 j49) fun x116 =>
  bind2 (a2 v96 x51 x116) fun x121 x122 =>
  if x121 = true then (
  some (.next x122))
  else (
  some (.ret (false, x122)))) : Int → Tkn → (S) → (Option (Ctl (S) (Bool × S)))) fun F97 =>
  bind1 (forR F97 a0 0 sv0) (sumK (fun (v96 : S) =>
  some (true, v96)) (fun r => some r)))

def lexis_Same_1 (a0 : Tkn) (a1 : Tkn) : Option (Bool) :=
  some (Tkn.eqB (Tkn.mk a0.kind a0.num 0 a0.text) (Tkn.mk a1.kind a1.num 0 a1.text))

def lexis_Same (a0 : (List Tkn)) (a1 : (List Tkn)) : Option (Bool) :=
  bind2 (slices_EqualFunc_api_Token_api_Token_api_Token_api_Token a0 a1 (fun (s : Unit) (y0 : Tkn) (y1 : Tkn) => pureW (lexis_Same_1 y0 y1) s) ()) fun x4 s5 =>
  some x4

def law14_LexisJoins (a0 : (List Int)) (a1 : ByteArray) (a2 : ByteArray) : Option (Bool) :=
  bind1 (law14_sane) fun x7 =>
  if x7 = true then (
  joinB (fun (v23 : Bool) =>
  if v23 = true then (
  some true)
  else (
  bind1 (mk_New a0) fun x29 =>
  bind2 (law14_text x29) fun x34 d35 =>
  joinB ([(a1, a2), (x34, x34), (x34, (ByteArray.mk #[120, 49, 50, 32, 48])), ((ByteArray.mk #[97, 98, 99]), x34)] : List (ByteArray × ByteArray)) fun L157 =>
  chk (okLen L157) <|
  joinB (fun (j158 : Int) (x160 : (ByteArray × ByteArray)) => (fun (_ : Unit) =>
  joinB (some (.next ())) fun j342 =>
  bind2 (lexis_Tokens x160.1) fun x346 x347 =>
  bind2 (lexis_Tokens x160.2) fun x352 x353 =>
  chk (okCat x160.1 (ByteArray.mk #[32])) <|
  chk (okCat (x160.1 ++ (ByteArray.mk #[32])) x160.2) <|
  bind2 (lexis_Tokens ((x160.1 ++ (ByteArray.mk #[32])) ++ x160.2)) fun x358 x359 =>
  if (sel (ieq x347 15) true (ieq x353 15)) = true then (
  if (sel (ine x359 15) (ine x359 3) false) = true then (
  some (.ret false))
  else (
  j342))
  else (
  if (sel (ieq x359 3) true (sel (ine x347 0) true (ine x353 0))) = true then (
  j342)
  else (
  joinB (fun (v392 : Bool) =>
  if v392 = true then (
  some (.ret false))
  else (
  j342)) fun j393 =>
  if (ine x359 0) = true then (
  j393 true)
  else (
  chk (okApp [] x346) <|
  chk (okApp (lapp [] x346) x352) <|
  bind1 (lexis_Same x358 (lapp (lapp [] x346) x352)) fun x396 =>
  j393 (bnot x396))))) : Int → (ByteArray × ByteArray) → (Unit) → (Option (Ctl (Unit) (Bool)))) fun F277 =>
  bind1 (forR F277 L157 0 ()) (sumK (fun (_ : Unit) =>
  some true) (fun r => some r)))) fun j24 =>
  bind1 (mk_Few a0) fun x25 =>
  if x25 = true then (
  j24 (igt (iadd .i64 (slen a1) (slen a2)) 4000))
  else (
  j24 true))
  else (
  some false)

/-- strconv.Itoa. -/
def strconv_Itoa (n : Int) : Option ByteArray := if -9223372036854775808 ≤ n ∧ n ≤ 9223372036854775807 then some ⟨(Lib.itoa n).toArray⟩ else none


def lexis_text (a0 : Tkn) : Option (ByteArray × Bool) :=
  bind1 (strconv_Itoa a0.num) fun x3 =>
  joinB (fun (v8 : ByteArray) =>
  joinB (fun (v15 : Bool) =>
  if (ieq a0.kind 1) = true then (
  some ((ByteArray.mk #[40]), (sel (ieq a0.num 0) (seq a0.text (ByteArray.mk #[])) false)))
  else (
  if (ieq a0.kind 2) = true then (
  some ((ByteArray.mk #[41]), (sel (ieq a0.num 0) (seq a0.text (ByteArray.mk #[])) false)))
  else (
  if (ieq a0.kind 3) = true then (
  joinB (fun (v57 : Bool) =>
  some (a0.text, v57)) fun j58 =>
  if (ieq a0.num 0) = true then (
  bind1 (lexis_Name a0.text) fun x61 =>
  j58 x61)
  else (
  j58 false))
  else (
  if (sel (ieq a0.kind 4) true (ieq a0.kind 5)) = true then (
  some (v8, (sel v15 (seq a0.text (ByteArray.mk #[])) false)))
  else (
  some ((ByteArray.mk #[]), false)))))) fun j16 =>
  if (ige a0.num 0) = true then (
  bind1 (strconv_Itoa a0.num) fun x17 =>
  j16 (ile (slen x17) 6))
  else (
  j16 false)) fun j9 =>
  if (ieq a0.kind 5) = true then (
  chk (okCat (ByteArray.mk #[120]) x3) <|
  j9 ((ByteArray.mk #[120]) ++ x3))
  else (
  j9 x3)

/-- The space ahead of a token. -/
def gapT (p : Option Tkn) (t : Tkn) : List UInt8 :=
  match p with
  | none => []
  | some q => if q.kind ≠ 1 ∧ t.kind ≠ 2 then [32] else []
/-- lexis.Text, behind a token, with what is written. -/
def ltext : Option Tkn → List Tkn → List UInt8 → Option (ByteArray × Int)
  | _, [], acc => some (⟨acc.toArray⟩, 0)
  | p, t :: ts, acc => match lexis_text t with
    | none => none
    | some (w, false) => some (⟨#[]⟩, 2)
    | some (w, true) => if w.size ≤ 1000 then ltext (some t) ts (acc ++ gapT p t ++ w.data.toList) else none

def lexis_Text (a0 : List Tkn) : Option (ByteArray × Int) := if 2048 < a0.length then some (⟨#[]⟩, 3) else ltext none a0 []



def law14_LexisPlaces (a0 : (List Int)) : Option (Bool) :=
  bind1 (law14_sane) fun x7 =>
  if x7 = true then (
  bind1 (mk_Few a0) fun x15 =>
  if x15 = true then (
  bind1 (mk_New a0) fun x22 =>
  bind2 (law14_text x22) fun x24 d25 =>
  bind2 (lexis_Tokens x24) fun x30 x31 =>
  joinB (fun (v47 : Bool) =>
  if v47 = true then (
  some false)
  else (
  chk (okLen x30) <|
  joinB (fun (j94 : Int) (x96 : Tkn) => (fun (_ : Unit) =>
  bind2 (lexis_Text [(Tkn.mk x96.kind x96.num 0 x96.text)]) fun x166 x167 =>
  joinB (fun (v176 : Bool) =>
  if v176 = true then (
  some (.ret false))
  else (
  some (.next ()))) fun j177 =>
  if (ine x167 0) = true then (
  j177 true)
  else (
  if (ilt x96.atF 0) = true then (
  j177 true)
  else (
  if (igt (iadd .i64 x96.atF (slen x166)) (slen x24)) = true then (
  j177 true)
  else (
  bind1 (sslice x24 x96.atF (iadd .i64 x96.atF (slen x166))) fun x178 =>
  if (sne x178 x166) = true then (
  j177 true)
  else (
  if (igt j94 0) = true then (
  bind1 (lget x30 (isub .i64 j94 1)) fun x180 =>
  j177 (ile x96.atF x180.atF))
  else (
  j177 false)))))) : Int → Tkn → (Unit) → (Option (Ctl (Unit) (Bool)))) fun F137 =>
  bind1 (forR F137 x30 0 ()) (sumK (fun (_ : Unit) =>
  some true) (fun r => some r)))) fun j48 =>
  if (ine x31 0) = true then (
  j48 true)
  else (
  if (ieq (llen x30) 0) = true then (
  j48 true)
  else (
  bind1 (lget x30 0) fun x49 =>
  j48 (ine x49.atF 0))))
  else (
  some true))
  else (
  some false)

/-- The bytes of a text, where it has any. -/
def law14_bytes (s : ByteArray) : Option (List Int) := if s.size = 0 ∨ 1000000 < s.size then none else some (s.data.toList.map fun b => (b.toNat : Int))


/-- One byte is another. -/
def law14_setB (l : List Int) (i c : Int) : Option (List Int) := if 0 ≤ i ∧ i.toNat < l.length then some (l.set i.toNat c) else none


def ref14_digit (a0 : Int) : Option (Bool) :=
  some (sel (ige a0 48) (ile a0 57) false)

def ref14_number (a0 : ByteArray) : Option (Int × Bool) :=
  joinB (fun (v15 : Bool) =>
  if v15 = true then (
  some (0, false))
  else (
  joinB ((un2 fun (v159 : Int) (v160 : Int) =>
  if (ilt v160 (slen a0)) = true then (
  bind1 (sget a0 v160) fun x196 =>
  bind1 (ref14_digit x196) fun x198 =>
  if x198 = true then (
  some (.next ((isub .i64 (iadd .i64 (imul .i64 v159 10) (conv .i64 x196)) 48), (iadd .i64 v160 1))))
  else (
  some (.ret (0, false))))
  else (
  some (.brk (v159, v160)))) : (Int × Int) → (Option (Ctl (Int × Int) (Int × Bool)))) fun F161 =>
  bind1 (loopN F161 FU (0, 0)) (sumK (un2 fun (v159 : Int) (v160 : Int) =>
  some (v159, true)) (fun r => some r)))) fun j16 =>
  if (ilt (slen a0) 1) = true then (
  j16 true)
  else (
  if (igt (slen a0) 6) = true then (
  j16 true)
  else (
  bind1 (sget a0 0) fun x17 =>
  if (ieq x17 48) = true then (
  j16 (igt (slen a0) 1))
  else (
  j16 false)))

def ref14_word (a0 : ByteArray) (a1 : Int) : Option (Tkn × Bool) :=
  bind2 (ref14_number a0) fun x10 x11 =>
  if x11 = true then (
  some ((Tkn.mk 4 x10 a1 ByteArray.empty), true))
  else (
  joinB (bind1 (ref14_Name a0) fun x57 =>
  some ((Tkn.mk 3 0 a1 a0), x57)) fun j35 =>
  joinB (fun (v41 : Bool) =>
  if v41 = true then (
  bind1 (sslice a0 1 (slen a0)) fun x50 =>
  bind2 (ref14_number x50) fun x52 x53 =>
  if x53 = true then (
  some ((Tkn.mk 5 x52 a1 ByteArray.empty), true))
  else (
  j35))
  else (
  j35)) fun j42 =>
  bind1 (sget a0 0) fun x43 =>
  if (ieq x43 120) = true then (
  j42 (igt (slen a0) 1))
  else (
  j42 false))

def ref14_Tokens (a0 : ByteArray) : Option ((List Tkn) × Int) :=
  if (igt (slen a0) 8192) = true then (
  some ([], 3))
  else (
  joinB ((un2 fun (v649 : (List Tkn)) (v650 : Int) =>
  if (ilt v650 (slen a0)) = true then (
  joinB (fun (v663 : Bool) =>
  if v663 = true then (
  some (.next (v649, (iadd .i64 v650 1))))
  else (
  bind1 (sget a0 v650) fun x669 =>
  if (ieq x669 40) = true then (
  chk (okApp v649 [(Tkn.mk 1 0 v650 ByteArray.empty)]) <|
  some (.next ((lapp v649 [(Tkn.mk 1 0 v650 ByteArray.empty)]), (iadd .i64 v650 1))))
  else (
  if (ieq x669 41) = true then (
  chk (okApp v649 [(Tkn.mk 2 0 v650 ByteArray.empty)]) <|
  some (.next ((lapp v649 [(Tkn.mk 2 0 v650 ByteArray.empty)]), (iadd .i64 v650 1))))
  else (
  joinB ((fun (v804 : Int) =>
  joinB (fun (v838 : Bool) =>
  if v838 = true then (
  some (.next (iadd .i64 v804 1)))
  else (
  some (.brk v804))) fun j839 =>
  if (ilt v804 (slen a0)) = true then (
  bind1 (sget a0 v804) fun x840 =>
  bind1 (ref14_letter x840) fun x842 =>
  if x842 = true then (
  j839 true)
  else (
  bind1 (ref14_digit x840) fun x844 =>
  j839 x844))
  else (
  j839 false)) : (Int) → (Option (Ctl (Int) ((List Tkn) × Int)))) fun F805 =>
  bind1 (loopN F805 FU v650) (sumK (fun (v804 : Int) =>
  if (ieq v804 v650) = true then (
  some (.ret ([], 15)))
  else (
  bind1 (sslice a0 v650 v804) fun x851 =>
  bind2 (ref14_word x851 v650) fun x853 x854 =>
  if x854 = true then (
  chk (okApp v649 [x853]) <|
  some (.next ((lapp v649 [x853]), v804)))
  else (
  some (.ret ([], 15))))) (fun r => some (.ret r))))))) fun j664 =>
  bind1 (sget a0 v650) fun x665 =>
  if (ieq x665 32) = true then (
  j664 true)
  else (
  j664 (ieq x665 10)))
  else (
  some (.brk (v649, v650)))) : ((List Tkn) × Int) → (Option (Ctl ((List Tkn) × Int) ((List Tkn) × Int)))) fun F651 =>
  bind1 (loopN F651 FU ([], 0)) (sumK (un2 fun (v649 : (List Tkn)) (v650 : Int) =>
  if (igt (llen v649) 2048) = true then (
  some ([], 3))
  else (
  some (v649, 0))) (fun r => some r)))

/-- One token has another number. -/
def law14_setT (l : List Tkn) (i c : Int) : Option (List Tkn) := if 0 ≤ i then (match l[i.toNat]? with | some x => some (l.set i.toNat (Tkn.mk x.kind c x.atF x.text)) | none => none) else none


def law14_same (a0 : (List Tkn)) (a1 : (List Tkn)) : Option (Bool) :=
  if (ine (llen a0) (llen a1)) = true then (
  some false)
  else (
  chk (okLen a0) <|
  joinB (fun (j22 : Int) (x24 : Tkn) => (fun (_ : Unit) =>
  bind1 (lget a1 j22) fun x64 =>
  if (Tkn.eqB x24 x64) = true then (
  some (.next ()))
  else (
  some (.ret false))) : Int → Tkn → (Unit) → (Option (Ctl (Unit) (Bool)))) fun F43 =>
  bind1 (forR F43 a0 0 ()) (sumK (fun (_ : Unit) =>
  some true) (fun r => some r)))

def ref14_Same (a0 : (List Tkn)) (a1 : (List Tkn)) : Option (Bool) :=
  if (ine (llen a0) (llen a1)) = true then (
  some false)
  else (
  chk (okLen a0) <|
  joinB (fun (j32 : Int) (x34 : Tkn) => (fun (_ : Unit) =>
  joinB (fun (v90 : Bool) =>
  if v90 = true then (
  some (.ret false))
  else (
  some (.next ()))) fun j91 =>
  bind1 (lget a1 j32) fun x94 =>
  if (ine x34.kind x94.kind) = true then (
  j91 true)
  else (
  if (ine x34.num x94.num) = true then (
  j91 true)
  else (
  j91 (sne x34.text x94.text)))) : Int → Tkn → (Unit) → (Option (Ctl (Unit) (Bool)))) fun F63 =>
  bind1 (forR F63 a0 0 ()) (sumK (fun (_ : Unit) =>
  some true) (fun r => some r)))

def law14_LexisDoes (a0 : (List Int)) (a1 : ByteArray) (a2 : (List Tkn)) : Option (Bool) :=
  bind1 (law14_sane) fun x7 =>
  if x7 = true then (
  joinB (fun (v23 : Bool) =>
  if v23 = true then (
  some true)
  else (
  bind1 (mk_New a0) fun x29 =>
  bind2 (law14_text x29) fun x34 d35 =>
  bind1 (law14_bytes x34) fun x39 =>
  bind2 (mk_Deck_Next d35 (llen x39)) fun x54 d55 =>
  bind2 (mk_Deck_Next d55 10) fun x57 d58 =>
  joinB ([32, 10, 40, 41, 48, 57, 97, 120, 65, 0] : List Int) fun L60 =>
  bind1 (lget L60 x57) fun x61 =>
  bind1 (law14_setB x39 x54 (conv .u8 x61)) fun x65 =>
  bind2 (ref14_Tokens x34) fun x70 x71 =>
  bind2 (mk_Deck_Next d58 (llen x70)) fun x81 d82 =>
  bind2 (mk_Deck_Next d82 3) fun x84 d85 =>
  bind1 (law14_setT x70 x81 x84) fun x87 =>
  chk (okCat x34 a1) <|
  joinB ([a1, x34, (bstr x65), (x34 ++ a1)] : List ByteArray) fun L299 =>
  chk (okLen L299) <|
  joinB (fun (j300 : Int) (x302 : ByteArray) => (fun (_ : Unit) =>
  bind2 (lexis_Tokens x302) fun x621 x622 =>
  bind2 (ref14_Tokens x302) fun x627 x628 =>
  joinB (fun (v656 : Bool) =>
  if v656 = true then (
  some (.ret false))
  else (
  joinB ([a2, x627, x87] : List (List Tkn)) fun L664 =>
  chk (okLen L664) <|
  joinB (fun (j665 : Int) (x667 : (List Tkn)) => (fun (_ : Unit) =>
  bind2 (lexis_Text x667) fun x755 x756 =>
  bind2 (ref14_Text x667) fun x761 x762 =>
  joinB (fun (v771 : Bool) =>
  if v771 = true then (
  some (.ret false))
  else (
  some (.next ()))) fun j772 =>
  if (sne x755 x761) = true then (
  j772 true)
  else (
  if (ine x756 x762) = true then (
  j772 true)
  else (
  bind1 (lexis_Same x667 x627) fun x773 =>
  bind1 (ref14_Same x667 x627) fun x775 =>
  j772 (bneB x773 x775)))) : Int → (List Tkn) → (Unit) → (Option (Ctl (Unit) (Bool)))) fun F720 =>
  bind1 (forR F720 L664 0 ()) (sumK (fun (_ : Unit) =>
  some (.next ())) (fun r => some (.ret r))))) fun j657 =>
  if (ine x622 x628) = true then (
  j657 true)
  else (
  bind1 (law14_same x621 x627) fun x658 =>
  if x658 = true then (
  bind1 (lexis_Name x302) fun x660 =>
  bind1 (ref14_Name x302) fun x662 =>
  j657 (bneB x660 x662))
  else (
  j657 true))) : Int → ByteArray → (Unit) → (Option (Ctl (Unit) (Bool)))) fun F509 =>
  bind1 (forR F509 L299 0 ()) (sumK (fun (_ : Unit) =>
  some true) (fun r => some r)))) fun j24 =>
  bind1 (mk_Few a0) fun x25 =>
  if x25 = true then (
  if (igt (slen a1) 12000) = true then (
  j24 true)
  else (
  j24 (igt (llen a2) 3000)))
  else (
  j24 true))
  else (
  some false)

def law14_LexisBack (a0 : (List Int)) (a1 : (List Tkn)) : Option (Bool) :=
  bind1 (law14_sane) fun x7 =>
  if x7 = true then (
  joinB (fun (v23 : Bool) =>
  if v23 = true then (
  some true)
  else (
  bind1 (mk_New a0) fun x29 =>
  chk (okLen a1) <|
  joinB (fun (j180 : Int) (x182 : Tkn) => (fun (v327 : (List Tkn)) =>
  bind1 (mk_Mod x182.kind 5) fun x372 =>
  joinB (fun (v389 : Int) (v390 : ByteArray) =>
  chk (okApp v327 [(Tkn.mk (iadd .i64 1 x372) v389 0 v390)]) <|
  some (.next (lapp v327 [(Tkn.mk (iadd .i64 1 x372) v389 0 v390)]))) fun j391 =>
  if (ieq (iadd .i64 1 x372) 3) = true then (
  bind1 (mk_Mod x182.num 5) fun x392 =>
  joinB ([(ByteArray.mk #[97]), (ByteArray.mk #[115, 117, 99, 99]), (ByteArray.mk #[120, 121]), (ByteArray.mk #[120]), (ByteArray.mk #[101, 113])] : List ByteArray) fun L394 =>
  bind1 (lget L394 x392) fun x395 =>
  j391 0 x395)
  else (
  if (sel (ieq (iadd .i64 1 x372) 4) true (ieq (iadd .i64 1 x372) 5)) = true then (
  bind1 (mk_Mod x182.num 1000000) fun x402 =>
  j391 x402 ByteArray.empty)
  else (
  j391 0 ByteArray.empty))) : Int → Tkn → ((List Tkn)) → (Option (Ctl ((List Tkn)) (Bool)))) fun F328 =>
  bind1 (forR F328 a1 0 []) (sumK (fun (v327 : (List Tkn)) =>
  bind2 (lexis_Text v327) fun x408 x409 =>
  bind2 (lexis_Tokens x408) fun x414 x415 =>
  joinB ((un3 fun (v624 : ByteArray) (v625 : Int) (v626 : Smk_Deck) =>
  if (ilt v625 (slen x408)) = true then (
  joinB (fun (v658 : ByteArray) (v659 : Smk_Deck) =>
  some (.next (v658, (iadd .i64 v625 1), v659))) fun j660 =>
  bind1 (sslice x408 v625 (iadd .i64 v625 1)) fun x663 =>
  chk (okCat v624 x663) <|
  joinB (fun (v670 : Bool) =>
  if v670 = true then (
  bind2 (mk_Deck_Next v626 4) fun x674 d675 =>
  joinB ([(ByteArray.mk #[32]), (ByteArray.mk #[10]), (ByteArray.mk #[]), (ByteArray.mk #[32, 32])] : List ByteArray) fun L677 =>
  bind1 (lget L677 x674) fun x678 =>
  chk (okCat (v624 ++ x663) x678) <|
  j660 ((v624 ++ x663) ++ x678) d675)
  else (
  j660 (v624 ++ x663) v626)) fun j671 =>
  bind1 (sget x408 v625) fun x672 =>
  if (ieq x672 32) = true then (
  j671 true)
  else (
  if (ieq x672 40) = true then (
  j671 true)
  else (
  j671 (ieq x672 41))))
  else (
  some (.brk (v624, v625, v626)))) : (ByteArray × Int × Smk_Deck) → (Option (Ctl (ByteArray × Int × Smk_Deck) (Bool)))) fun F627 =>
  bind1 (loopN F627 FU ((ByteArray.mk #[32]), 0, x29)) (sumK (un3 fun (v624 : ByteArray) (v625 : Int) (v626 : Smk_Deck) =>
  bind2 (lexis_Tokens v624) fun x685 x686 =>
  bind2 (lexis_Text x685) fun x691 x692 =>
  joinB (fun (v701 : Bool) =>
  some v701) fun j702 =>
  if (ieq x409 0) = true then (
  if (ieq x415 0) = true then (
  if (ieq x686 0) = true then (
  if (ieq x692 0) = true then (
  bind1 (lexis_Same x414 v327) fun x703 =>
  if x703 = true then (
  bind1 (lexis_Same x685 v327) fun x705 =>
  if x705 = true then (
  j702 (seq x691 x408))
  else (
  j702 false))
  else (
  j702 false))
  else (
  j702 false))
  else (
  j702 false))
  else (
  j702 false))
  else (
  j702 false)) (fun r => some r))) (fun r => some r)))) fun j24 =>
  bind1 (mk_Few a0) fun x25 =>
  if x25 = true then (
  j24 (igt (llen a1) 300))
  else (
  j24 true))
  else (
  some false)

end Go.Mdl
