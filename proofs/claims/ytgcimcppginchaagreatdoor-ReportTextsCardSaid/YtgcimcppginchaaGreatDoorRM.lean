/- Models of the functions: what they compute, in plain Lean. -/
import Derived.Test.YtgcimcppginchaaGreatDoorRT
import Derived.Test.YtgcimcppginchaaGreatDoorRlib
set_option maxRecDepth 20000
set_option linter.unusedSimpArgs false
set_option linter.unusedVariables false
namespace Go.Mdl
open Go

def value_nodes_1 (a0 : Int) : Option (Bool) :=
  some (ilt a0 0)

def slices_IndexFunc_int_int {S : Type} (a0 : (List Int)) (a1 : (S → Int → Option (Bool × S))) (sv0 : S) : Option (Int × S) :=
  chk (okLen a0) <|
  joinB (fun (j33 : Int) (x35 : Int) => (fun (v64 : S) =>
  bind2 (a1 v64 x35) fun x81 x82 =>
  if x81 = true then (
  some (.ret (j33, x82)))
  else (
  some (.next x82))) : Int → Int → (S) → (Option (Ctl (S) (Int × S)))) fun F65 =>
  bind1 (forR F65 a0 0 sv0) (sumK (fun (v64 : S) =>
  some ((-1), v64)) (fun r => some r))

def slices_ContainsFunc_int_int {S : Type} (a0 : (List Int)) (a1 : (S → Int → Option (Bool × S))) (sv0 : S) : Option (Bool × S) :=
  bind2 (slices_IndexFunc_int_int a0 a1 sv0) fun x4 s5 =>
  some ((ige x4 0), s5)

def value_nodes : Nat → Vl → Option (Int × Bool)
  | 0, _ => none
  | n + 1, a0 =>
  joinB (fun (v7 : Bool) =>
  joinB (fun (v49 : Bool) (v50 : Int) =>
  some (v50, v49)) fun j51 =>
  chk (okLen a0.args) <|
  joinB (fun (j52 : Int) (x54 : Vl) => (un2 fun (v84 : Bool) (v85 : Int) =>
  if v84 = true then (
  bind2 (value_nodes n x54) fun x102 x103 =>
  some (.next (x103, (iadd .i64 v85 x102))))
  else (
  some (.brk (v84, v85)))) : Int → Vl → (Bool × Int) → (Option (Ctl (Bool × Int) (Int × Bool)))) fun F86 =>
  bind1 (forR F86 a0.args 0 (v7, 1)) (sumK (un2 fun (v84 : Bool) (v85 : Int) =>
  j51 v84 v85) (fun r => some r))) fun j8 =>
  if (ieq a0.kind 1) = true then (
  if (ige a0.num 0) = true then (
  if (ieq (llen a0.list) 0) = true then (
  j8 (ieq (llen a0.args) 0))
  else (
  j8 false))
  else (
  j8 false))
  else (
  if (ieq a0.kind 2) = true then (
  if (ieq a0.num 0) = true then (
  bind2 (slices_ContainsFunc_int_int a0.list (fun (s : Unit) (y0 : Int) => pureW (value_nodes_1 y0) s) ()) fun x9 s10 =>
  if x9 = true then (
  j8 false)
  else (
  j8 (ieq (llen a0.args) 0)))
  else (
  j8 false))
  else (
  if (ieq a0.kind 3) = true then (
  if (ieq a0.num 0) = true then (
  if (ieq (llen a0.list) 0) = true then (
  j8 (ieq (llen a0.args) 2))
  else (
  j8 false))
  else (
  j8 false))
  else (
  if (ieq a0.kind 4) = true then (
  if (ieq a0.num 0) = true then (
  if (ieq (llen a0.list) 0) = true then (
  j8 (ieq (llen a0.args) 0))
  else (
  j8 false))
  else (
  j8 false))
  else (
  j8 false))))

def value_Check (a0 : Vl) : Option (Int) :=
  bind2 (value_nodes FU a0) fun x4 x5 =>
  if x5 = true then (
  if (igt x4 64) = true then (
  some 4)
  else (
  some 0))
  else (
  some 2)

/-- strconv.Itoa of small numbers. -/
def strconv_Itoa (n : Int) : Option ByteArray := if 0 ≤ n ∧ n < 100 then some ⟨(Lib.decDigits n.toNat).toArray⟩ else none


/-- strings.Join. -/
def strings_Join (l : List ByteArray) (s : ByteArray) : Option ByteArray := if l.length ≤ 1000 ∧ (Lib.join (l.map (·.data.toList)) s.data.toList).length ≤ 1000000 then some ⟨(Lib.join (l.map (·.data.toList)) s.data.toList).toArray⟩ else none


def report_text : Nat → Vl → Option (ByteArray)
  | 0, _ => none
  | n + 1, a0 =>
  if (ieq a0.kind 1) = true then (
  bind1 (strconv_Itoa a0.num) fun x83 =>
  some x83)
  else (
  if (ieq a0.kind 2) = true then (
  chk (okLen a0.list) <|
  joinB (fun (j105 : Int) (x107 : Int) => (fun (v124 : (List ByteArray)) =>
  bind1 (strconv_Itoa x107) fun x135 =>
  chk (okApp v124 [x135]) <|
  some (.next (lapp v124 [x135]))) : Int → Int → ((List ByteArray)) → (Option (Ctl ((List ByteArray)) (ByteArray)))) fun F125 =>
  bind1 (forR F125 a0.list 0 []) (sumK (fun (v124 : (List ByteArray)) =>
  bind1 (strings_Join v124 (ByteArray.mk #[32])) fun x140 =>
  chk (okCat (ByteArray.mk #[91]) x140) <|
  chk (okCat ((ByteArray.mk #[91]) ++ x140) (ByteArray.mk #[93])) <|
  some (((ByteArray.mk #[91]) ++ x140) ++ (ByteArray.mk #[93]))) (fun r => some r)))
  else (
  if (ieq a0.kind 3) = true then (
  bind1 (lget a0.args 0) fun x166 =>
  bind1 (report_text n x166) fun x168 =>
  chk (okCat (ByteArray.mk #[40]) x168) <|
  chk (okCat ((ByteArray.mk #[40]) ++ x168) (ByteArray.mk #[44, 32])) <|
  bind1 (lget a0.args 1) fun x170 =>
  bind1 (report_text n x170) fun x172 =>
  chk (okCat (((ByteArray.mk #[40]) ++ x168) ++ (ByteArray.mk #[44, 32])) x172) <|
  chk (okCat ((((ByteArray.mk #[40]) ++ x168) ++ (ByteArray.mk #[44, 32])) ++ x172) (ByteArray.mk #[41])) <|
  some (((((ByteArray.mk #[40]) ++ x168) ++ (ByteArray.mk #[44, 32])) ++ x172) ++ (ByteArray.mk #[41])))
  else (
  some (ByteArray.mk #[45]))))

def report_Value (a0 : Vl) : Option (ByteArray × Int) :=
  bind1 (value_Check a0) fun x7 =>
  if (ine x7 0) = true then (
  some ((ByteArray.mk #[]), x7))
  else (
  bind1 (report_text FU a0) fun x11 =>
  some (x11, 0))

/-- The texts of inputs that are right, each with a space behind it. -/
def rowIn : List Vl → List UInt8 → Option (List UInt8)
  | [], acc => some acc
  | v :: vs, acc => match report_Value v with
    | some (s, e) => if e = 0 ∧ s.size ≤ 1000 then rowIn vs (acc ++ s.data.toList ++ [32]) else none
    | none => none
/-- report.Row where all is right. -/
def report_Row (r : Sapi_Row) : Option (ByteArray × Int) :=
  if r.inputs.length ≤ 1000 then (match rowIn r.inputs [] with
  | some acc => (match report_Value r.result with
    | some (s, e) => if e = 0 ∧ s.size ≤ 1000 then some (⟨(acc ++ [45, 62, 32] ++ s.data.toList ++ [32] ++ (if r.trueF then [116, 114, 117, 101] else [102, 97, 108, 115, 101])).toArray⟩, 0) else none
    | none => none)
  | none => none) else none


/-- Not reached. -/
def theory_form (a0 : List Dcl) (a1 : Int) : Option (Int) := none


def theory_formulas (a0 : (List Dcl)) : Option ((List Fm)) :=
  chk (okLen a0) <|
  joinB (fun (j13 : Int) (x15 : Dcl) => (fun (v24 : (List Fm)) =>
  chk (okApp v24 [x15.formula]) <|
  some (.next (lapp v24 [x15.formula]))) : Int → Dcl → ((List Fm)) → (Option (Ctl ((List Fm)) ((List Fm))))) fun F25 =>
  bind1 (forR F25 a0 0 []) (sumK (fun (v24 : (List Fm)) =>
  some v24) (fun r => some r))

/-- Not reached. -/
def kernel_Accepts (a0 : List Fm) (a1 : Sq) (a2 : Pf) (a3 : Fm) : Option (Int) := none


def theory_Check (a0 : Thy) : Option (Int × Int) :=
  if (igt (llen a0.declarations) 32) = true then (
  some (0, 3))
  else (
  chk (okLen a0.declarations) <|
  joinB (fun (j70 : Int) (x72 : Dcl) => (fun (_ : Unit) =>
  bind1 (theory_form a0.declarations j70) fun x184 =>
  if (ine x184 0) = true then (
  some (.ret (j70, x184)))
  else (
  bind1 (lslice a0.declarations 0 j70) fun x204 =>
  bind1 (theory_formulas x204) fun x206 =>
  bind1 (kernel_Accepts x206 (Sq.mk [] []) x72.proof x72.formula) fun x208 =>
  if (ine x208 0) = true then (
  some (.ret (j70, x208)))
  else (
  some (.next ())))) : Int → Dcl → (Unit) → (Option (Ctl (Unit) (Int × Int)))) fun F139 =>
  bind1 (forR F139 a0.declarations 0 ()) (sumK (fun (_ : Unit) =>
  some ((llen a0.declarations), 0)) (fun r => some r)))

def library_formulas (a0 : Thy) (a1 : Int) : Option ((List Fm)) :=
  bind1 (lslice a0.declarations 0 a1) fun x19 =>
  chk (okLen x19) <|
  joinB (fun (j21 : Int) (x23 : Dcl) => (fun (v32 : (List Fm)) =>
  chk (okApp v32 [x23.formula]) <|
  some (.next (lapp v32 [x23.formula]))) : Int → Dcl → ((List Fm)) → (Option (Ctl ((List Fm)) ((List Fm))))) fun F33 =>
  bind1 (forR F33 x19 0 []) (sumK (fun (v32 : (List Fm)) =>
  some v32) (fun r => some r))

def library_list (a0 : (List Sapi_Extraction)) : Option ((List Tm)) :=
  chk (okLen a0) <|
  joinB (fun (j13 : Int) (x15 : Sapi_Extraction) => (fun (v24 : (List Tm)) =>
  chk (okApp v24 [x15.term]) <|
  some (.next (lapp v24 [x15.term]))) : Int → Sapi_Extraction → ((List Tm)) → (Option (Ctl ((List Tm)) ((List Tm))))) fun F25 =>
  bind1 (forR F25 a0 0 []) (sumK (fun (v24 : (List Tm)) =>
  some v24) (fun r => some r))

/-- Not reached. -/
def content_Type (a0 : Fm) : Option (Ty × Int) := none


/-- Not reached. -/
def terms_TypeOf (a0 : List Ty) (a1 : Tm) : Option (Ty × Int) := none


def tree_SameType : Nat → Ty → Ty → Option (Bool)
  | 0, _, _ => none
  | n + 1, a0, a1 =>
  if (sel (ine a0.kind a1.kind) true (ine (llen a0.args) (llen a1.args))) = true then (
  some false)
  else (
  chk (okLen a0.args) <|
  joinB (fun (j44 : Int) (x46 : Ty) => (fun (_ : Unit) =>
  bind1 (lget a1.args j44) fun x116 =>
  bind1 (tree_SameType n x46 x116) fun x118 =>
  if x118 = true then (
  some (.next ()))
  else (
  some (.ret false))) : Int → Ty → (Unit) → (Option (Ctl (Unit) (Bool)))) fun F81 =>
  bind1 (forR F81 a0.args 0 ()) (sumK (fun (_ : Unit) =>
  some true) (fun r => some r)))

def types_Same (a0 : Ty) (a1 : Ty) : Option (Bool) :=
  bind1 (tree_SameType FU a0 a1) fun x3 =>
  some x3

def extract_Lemmas (a0 : (List Fm)) (a1 : (List Tm)) : Option (Int) :=
  if (ine (llen a0) (llen a1)) = true then (
  some 9)
  else (
  chk (okLen a0) <|
  joinB (fun (j46 : Int) (x48 : Fm) => (fun (_ : Unit) =>
  bind2 (content_Type x48) fun x121 x122 =>
  if (ine x122 0) = true then (
  some (.ret x122))
  else (
  bind1 (lget a1 j46) fun x129 =>
  bind2 (terms_TypeOf [] x129) fun x131 x132 =>
  if (ine x132 0) = true then (
  some (.ret x132))
  else (
  bind1 (types_Same x131 x121) fun x136 =>
  if x136 = true then (
  some (.next ()))
  else (
  some (.ret 7))))) : Int → Fm → (Unit) → (Option (Ctl (Unit) (Int)))) fun F91 =>
  bind1 (forR F91 a0 0 ()) (sumK (fun (_ : Unit) =>
  some 0) (fun r => some r)))

def library_Check (a0 : Thy) (a1 : (List Sapi_Extraction)) : Option (Int) :=
  bind2 (theory_Check a0) fun x10 x11 =>
  if (ine x11 0) = true then (
  some x11)
  else (
  if (ine (llen a1) (llen a0.declarations)) = true then (
  some 17)
  else (
  chk (okLen a1) <|
  joinB (fun (j34 : Int) (x36 : Sapi_Extraction) => (fun (_ : Unit) =>
  bind1 (lget a0.declarations j34) fun x76 =>
  if (sne x36.name x76.name) = true then (
  some (.ret 17))
  else (
  some (.next ()))) : Int → Sapi_Extraction → (Unit) → (Option (Ctl (Unit) (Int)))) fun F55 =>
  bind1 (forR F55 a1 0 ()) (sumK (fun (_ : Unit) =>
  bind1 (library_formulas a0 (llen a1)) fun x84 =>
  bind1 (library_list a1) fun x86 =>
  bind1 (extract_Lemmas x84 x86) fun x88 =>
  some x88) (fun r => some r))))

/-- Not reached. -/
def class_Content (a0 : Fm) : Option (Bool × Int) := none


/-- Not reached. -/
def terms_Size (a0 : Tm) : Option (Int × Int) := none


def report_Library (a0 : Thy) (a1 : (List Sapi_Extraction)) : Option ((List ByteArray) × Int) :=
  bind1 (library_Check a0 a1) fun x7 =>
  if (ine x7 0) = true then (
  some ([], x7))
  else (
  chk (okLen a0.declarations) <|
  joinB (fun (j163 : Int) (x165 : Dcl) => (un3 fun (v314 : (List ByteArray)) (v315 : Int) (v316 : Int) =>
  joinB (fun (v359 : (List ByteArray)) (v360 : Int) (v361 : Int) =>
  some (.next (v359, v360, v361))) fun j362 =>
  bind2 (class_Content x165.formula) fun x374 x375 =>
  if x374 = true then (
  bind1 (lget a1 j163) fun x382 =>
  bind2 (terms_Size x382.term) fun x384 x385 =>
  chk (okCat x165.name (ByteArray.mk #[32, 116, 101, 114, 109, 32])) <|
  bind1 (strconv_Itoa x384) fun x390 =>
  chk (okCat (x165.name ++ (ByteArray.mk #[32, 116, 101, 114, 109, 32])) x390) <|
  chk (okApp v314 [((x165.name ++ (ByteArray.mk #[32, 116, 101, 114, 109, 32])) ++ x390)]) <|
  j362 (lapp v314 [((x165.name ++ (ByteArray.mk #[32, 116, 101, 114, 109, 32])) ++ x390)]) (iadd .i64 v315 1) (iadd .i64 v316 x384))
  else (
  chk (okCat x165.name (ByteArray.mk #[32, 110, 111, 110, 101])) <|
  chk (okApp v314 [(x165.name ++ (ByteArray.mk #[32, 110, 111, 110, 101]))]) <|
  j362 (lapp v314 [(x165.name ++ (ByteArray.mk #[32, 110, 111, 110, 101]))]) v315 v316)) : Int → Dcl → ((List ByteArray) × Int × Int) → (Option (Ctl ((List ByteArray) × Int × Int) ((List ByteArray) × Int)))) fun F317 =>
  bind1 (forR F317 a0.declarations 0 ([], 0, 0)) (sumK (un3 fun (v314 : (List ByteArray)) (v315 : Int) (v316 : Int) =>
  bind1 (strconv_Itoa (llen a1)) fun x404 =>
  bind1 (strconv_Itoa v315) fun x406 =>
  bind1 (strconv_Itoa v316) fun x408 =>
  bind1 (strings_Join [(ByteArray.mk #[100, 101, 99, 108, 97, 114, 97, 116, 105, 111, 110, 115]), x404, (ByteArray.mk #[116, 101, 114, 109, 115]), x406, (ByteArray.mk #[110, 111, 100, 101, 115]), x408] (ByteArray.mk #[32])) fun x410 =>
  chk (okApp v314 [x410]) <|
  some ((lapp v314 [x410]), 0)) (fun r => some r)))

def report_Rows (a0 : (List Sapi_Row)) : Option ((List ByteArray) × Int) :=
  chk (okLen a0) <|
  joinB (fun (j37 : Int) (x39 : Sapi_Row) => (fun (v72 : (List ByteArray)) =>
  bind2 (report_Row x39) fun x90 x91 =>
  if (ine x91 0) = true then (
  some (.ret ([], x91)))
  else (
  chk (okApp v72 [x90]) <|
  some (.next (lapp v72 [x90])))) : Int → Sapi_Row → ((List ByteArray)) → (Option (Ctl ((List ByteArray)) ((List ByteArray) × Int)))) fun F73 =>
  bind1 (forR F73 a0 0 []) (sumK (fun (v72 : (List ByteArray)) =>
  some (v72, 0)) (fun r => some r))

def law44_awake  : Option (Bool) :=
  bind2 (report_Value (Vl.mk 3 0 [] [(Vl.mk 1 12 [] []), (Vl.mk 2 0 [1, 20] [])])) fun x10 x11 =>
  bind2 (report_Row (Sapi_Row.mk [(Vl.mk 3 0 [] [(Vl.mk 1 12 [] []), (Vl.mk 2 0 [1, 20] [])])] (Vl.mk 4 0 [] []) true 0)) fun x22 x23 =>
  bind2 (report_Library (Thy.mk []) []) fun x28 x29 =>
  bind2 (report_Rows []) fun x34 x35 =>
  joinB (fun (v42 : Bool) =>
  some v42) fun j43 =>
  if (ieq x11 0) = true then (
  if (ieq x23 0) = true then (
  if (ieq x29 0) = true then (
  if (ieq x35 0) = true then (
  if (seq x10 (ByteArray.mk #[40, 49, 50, 44, 32, 91, 49, 32, 50, 48, 93, 41])) = true then (
  if (seq x22 (ByteArray.mk #[40, 49, 50, 44, 32, 91, 49, 32, 50, 48, 93, 41, 32, 45, 62, 32, 45, 32, 116, 114, 117, 101])) = true then (
  if (ieq (llen x28) 1) = true then (
  bind1 (lget x28 0) fun x44 =>
  if (seq x44 (ByteArray.mk #[100, 101, 99, 108, 97, 114, 97, 116, 105, 111, 110, 115, 32, 48, 32, 116, 101, 114, 109, 115, 32, 48, 32, 110, 111, 100, 101, 115, 32, 48])) = true then (
  j43 (ieq (llen x34) 0))
  else (
  j43 false))
  else (
  j43 false))
  else (
  j43 false))
  else (
  j43 false))
  else (
  j43 false))
  else (
  j43 false))
  else (
  j43 false))
  else (
  j43 false)

def mk_Few (a0 : (List Int)) : Option (Bool) :=
  some (ile (llen a0) 500)

def mk_New (l : List Int) : Option Smk_Deck := some ⟨l, 0⟩

def mk_Mod (a0 : Int) (a1 : Int) : Option (Int) :=
  chk (okDiv a1) <|
  chk (okDiv a1) <|
  some (irem .i64 (iadd .i64 (irem .i64 a0 a1) a1) a1)

def mk_Deck_Next (a0 : Smk_Deck) (a1 : Int) : Option (Int × Smk_Deck) :=
  if (sel (ilt a1 1) true (ige a0.atF (llen a0.l))) = true then (
  some (0, a0))
  else (
  bind1 (lget a0.l a0.atF) fun x13 =>
  bind1 (mk_Mod x13 a1) fun x17 =>
  some (x17, (Smk_Deck.mk a0.l (iadd .i64 a0.atF 1))))

def ref01_Nat  : Option (Ty) :=
  some (Ty.mk 1 [])

def ref01_List  : Option (Ty) :=
  some (Ty.mk 2 [])

def ref01_Unit  : Option (Ty) :=
  some (Ty.mk 5 [])

def ref01_Copy : Nat → Ty → Option (Ty)
  | 0, _ => none
  | n + 1, a0 =>
  chk (okLen a0.args) <|
  joinB (fun (j21 : Int) (x23 : Ty) => (fun (v40 : (List Ty)) =>
  bind1 (ref01_Copy n x23) fun x51 =>
  chk (okApp v40 [x51]) <|
  some (.next (lapp v40 [x51]))) : Int → Ty → ((List Ty)) → (Option (Ctl ((List Ty)) (Ty)))) fun F41 =>
  bind1 (forR F41 a0.args 0 []) (sumK (fun (v40 : (List Ty)) =>
  some (Ty.mk a0.kind v40)) (fun r => some r))

def ref01_Two (a0 : Ty) (a1 : Ty) : Option (Ty) :=
  bind1 (ref01_Copy FU a0) fun x13 =>
  bind1 (ref01_Copy FU a1) fun x15 =>
  some (Ty.mk 3 [x13, x15])

def mk_Plain (a0 : Smk_Deck) : Option (Ty × Smk_Deck) :=
  bind2 (mk_Deck_Next a0 6) fun x37 d38 =>
  if (sel (ieq x37 0) true (ieq x37 1)) = true then (
  bind1 (ref01_Nat) fun x45 =>
  some (x45, d38))
  else (
  if (ieq x37 2) = true then (
  bind1 (ref01_List) fun x49 =>
  some (x49, d38))
  else (
  if (ieq x37 3) = true then (
  bind1 (ref01_Unit) fun x53 =>
  some (x53, d38))
  else (
  if (ieq x37 4) = true then (
  bind1 (ref01_Nat) fun x61 =>
  bind1 (ref01_List) fun x63 =>
  bind1 (ref01_Two x61 x63) fun x65 =>
  some (x65, d38))
  else (
  bind1 (ref01_Nat) fun x73 =>
  bind1 (ref01_Nat) fun x75 =>
  bind1 (ref01_Two x73 x75) fun x77 =>
  some (x77, d38)))))

def mk_Value : Nat → Smk_Deck → Ty → Option (Vl × Smk_Deck)
  | 0, _, _ => none
  | n + 1, a0, a1 =>
  if (ieq a1.kind 1) = true then (
  bind2 (mk_Deck_Next a0 5) fun x144 d145 =>
  some ((Vl.mk 1 x144 [] []), d145))
  else (
  if (ieq a1.kind 2) = true then (
  bind2 (mk_Deck_Next a0 4) fun x197 d198 =>
  joinB ((un3 fun (v238 : Int) (v239 : (List Int)) (v240 : Smk_Deck) =>
  if (igt v238 0) = true then (
  bind2 (mk_Deck_Next v240 4) fun x260 d261 =>
  chk (okApp v239 [x260]) <|
  some (.next ((isub .i64 v238 1), (lapp v239 [x260]), d261)))
  else (
  some (.brk (v238, v239, v240)))) : (Int × (List Int) × Smk_Deck) → (Option (Ctl (Int × (List Int) × Smk_Deck) (Vl × Smk_Deck)))) fun F241 =>
  bind1 (loopN F241 FU (x197, [], d198)) (sumK (un3 fun (v238 : Int) (v239 : (List Int)) (v240 : Smk_Deck) =>
  some ((Vl.mk 2 0 v239 []), v240)) (fun r => some r)))
  else (
  if (ieq a1.kind 3) = true then (
  bind1 (lget a1.args 0) fun x294 =>
  bind2 (mk_Value n a0 x294) fun x296 d297 =>
  bind1 (lget a1.args 1) fun x299 =>
  bind2 (mk_Value n d297 x299) fun x301 d302 =>
  some ((Vl.mk 3 0 [] [x296, x301]), d302))
  else (
  some ((Vl.mk 4 0 [] []), a0))))

def ref05_Ints (a0 : (List Int)) (a1 : (List Int)) : Option (Bool) :=
  if (ine (llen a0) (llen a1)) = true then (
  some false)
  else (
  chk (okLen a0) <|
  joinB (fun (j22 : Int) (x24 : Int) => (fun (_ : Unit) =>
  bind1 (lget a1 j22) fun x64 =>
  if (ine x24 x64) = true then (
  some (.ret false))
  else (
  some (.next ()))) : Int → Int → (Unit) → (Option (Ctl (Unit) (Bool)))) fun F43 =>
  bind1 (forR F43 a0 0 ()) (sumK (fun (_ : Unit) =>
  some true) (fun r => some r)))

def ref05_Same : Nat → Vl → Vl → Option (Bool)
  | 0, _, _ => none
  | n + 1, a0, a1 =>
  joinB (fun (v15 : Bool) =>
  if v15 = true then (
  some false)
  else (
  chk (okLen a0.args) <|
  joinB (fun (j56 : Int) (x58 : Vl) => (fun (_ : Unit) =>
  bind1 (lget a1.args j56) fun x128 =>
  bind1 (ref05_Same n x58 x128) fun x130 =>
  if x130 = true then (
  some (.next ()))
  else (
  some (.ret false))) : Int → Vl → (Unit) → (Option (Ctl (Unit) (Bool)))) fun F93 =>
  bind1 (forR F93 a0.args 0 ()) (sumK (fun (_ : Unit) =>
  some true) (fun r => some r)))) fun j16 =>
  if (ine a0.kind a1.kind) = true then (
  j16 true)
  else (
  if (ine a0.num a1.num) = true then (
  j16 true)
  else (
  bind1 (ref05_Ints a0.list a1.list) fun x17 =>
  if x17 = true then (
  j16 (ine (llen a0.args) (llen a1.args)))
  else (
  j16 true)))

def law44_ReportTexts (a0 : (List Int)) : Option (Bool) :=
  joinB (fun (v25 : Bool) =>
  if v25 = true then (
  bind1 (law44_awake) fun x33 =>
  some x33)
  else (
  bind1 (mk_New a0) fun x37 =>
  bind2 (mk_Plain x37) fun x51 d52 =>
  bind2 (mk_Value FU d52 x51) fun x54 d55 =>
  bind2 (mk_Plain d55) fun x57 d58 =>
  bind2 (mk_Value FU d58 x57) fun x60 d61 =>
  bind2 (report_Value x54) fun x66 x67 =>
  bind2 (report_Value x60) fun x72 x73 =>
  joinB (fun (v80 : Bool) =>
  some v80) fun j81 =>
  if (ieq x67 0) = true then (
  if (ieq x73 0) = true then (
  bind1 (ref05_Same FU x54 x60) fun x82 =>
  j81 (beqB (seq x66 x72) x82))
  else (
  j81 false))
  else (
  j81 false))) fun j26 =>
  bind1 (law44_awake) fun x27 =>
  if x27 = true then (
  bind1 (mk_Few a0) fun x29 =>
  j26 (bnot x29))
  else (
  j26 true)

def tree_typeNodes : Nat → Ty → Option (Int × Bool)
  | 0, _ => none
  | n + 1, a0 =>
  joinB (fun (v10 : Int) =>
  if (ine (llen a0.args) v10) = true then (
  some (0, false))
  else (
  chk (okLen a0.args) <|
  joinB (fun (j50 : Int) (x52 : Ty) => (fun (v81 : Int) =>
  bind2 (tree_typeNodes n x52) fun x98 x99 =>
  if x99 = true then (
  some (.next (iadd .i64 v81 x98)))
  else (
  some (.ret (0, false)))) : Int → Ty → (Int) → (Option (Ctl (Int) (Int × Bool)))) fun F82 =>
  bind1 (forR F82 a0.args 0 1) (sumK (fun (v81 : Int) =>
  some (v81, true)) (fun r => some r)))) fun j11 =>
  if (sel (ieq a0.kind 1) true (sel (ieq a0.kind 2) true (ieq a0.kind 5))) = true then (
  j11 0)
  else (
  if (sel (ieq a0.kind 3) true (ieq a0.kind 4)) = true then (
  j11 2)
  else (
  some (0, false)))

def tree_CheckType (a0 : Ty) : Option (Int × Int) :=
  bind2 (tree_typeNodes FU a0) fun x4 x5 =>
  if x5 = true then (
  if (igt x4 64) = true then (
  some (0, 4))
  else (
  some (x4, 0)))
  else (
  some (0, 2))

def tree_NoType (a0 : Ty) : Option (Bool) :=
  some (sel (ieq a0.kind 0) (ieq (llen a0.args) 0) false)

def tree_formed (a0 : Fm) : Option (Bool) :=
  joinB (fun (v10 : Int) (v11 : Int) (v12 : Bool) =>
  joinB (some (sel (ieq (llen a0.terms) v10) (ieq (llen a0.args) v11) false)) fun j33 =>
  if v12 = true then (
  bind2 (tree_CheckType a0.typeF) fun x37 x38 =>
  if (ine x38 0) = true then (
  some false)
  else (
  j33))
  else (
  bind1 (tree_NoType a0.typeF) fun x42 =>
  if x42 = true then (
  j33)
  else (
  some false))) fun j13 =>
  if (ieq a0.kind 1) = true then (
  j13 2 0 false)
  else (
  if (sel (ieq a0.kind 2) true (ieq a0.kind 3)) = true then (
  j13 0 2 false)
  else (
  if (sel (ieq a0.kind 4) true (sel (ieq a0.kind 5) true (sel (ieq a0.kind 6) true (ieq a0.kind 7)))) = true then (
  j13 0 1 true)
  else (
  some false)))

def tree_Typed (a0 : Int) : Option (Bool) :=
  some (sel (ieq a0 2) true (sel (ieq a0 6) true (ieq a0 9)))

def class_joint (a0 : Bool) : Option (Int × Int) :=
  if a0 = true then (
  some (4, 3))
  else (
  some (5, 2))

def tree_Count_1 (a0 : Int) (a1 : Int) (cv0 : Int) (cv1 : Int) : Option (Int) :=
  if (ieq (isub .i64 a0 a1) cv0) = true then (
  some (iadd .i64 cv1 1))
  else (
  some cv1)

def tree_Each_1 {S : Type} : Nat → Tm → Int → (S → Int → Int → Option (S)) → S → Option (S)
  | 0, _, _, _, _ => none
  | n + 1, a0, a1, cv0, sv0 =>
  joinB (fun (v6 : S) =>
  chk (okLen a0.args) <|
  joinB (fun (j13 : Int) (x15 : Tm) => (fun (v28 : S) =>
  bind1 (tree_Each_1 n x15 (sel (ieq a0.kind 2) (iadd .i64 a1 1) a1) cv0 v28) fun s38 =>
  some (.next s38)) : Int → Tm → (S) → (Option (Ctl (S) (S)))) fun F29 =>
  bind1 (forR F29 a0.args 0 v6) (sumK (fun (v28 : S) =>
  some v28) (fun r => some r))) fun j7 =>
  if (ieq a0.kind 1) = true then (
  bind1 (cv0 sv0 a0.index a1) fun x8 =>
  j7 x8)
  else (
  j7 sv0)

def tree_Each {S : Type} (a0 : Tm) (a1 : (S → Int → Int → Option (S))) (sv0 : S) : Option (S) :=
  bind1 (tree_Each_1 FU a0 0 a1 sv0) fun s1 =>
  some s1

def tree_Count (a0 : Tm) (a1 : Int) : Option (Int) :=
  bind1 (tree_Each a0 (fun (s : Int) (y0 : Int) (y1 : Int) => tree_Count_1 y0 y1 a1 s) 0) fun s3 =>
  some s3

def tree_Var (a0 : Int) : Option (Tm) :=
  some (Tm.mk 1 a0 (Ty.mk 0 []) [])

def tree_Of (a0 : Int) (a1 : (List Tm)) : Option (Tm) :=
  some (Tm.mk a0 0 (Ty.mk 0 []) a1)

def tree_Nat  : Option (Ty) :=
  some (Ty.mk 1 [])

def tree_Lam (a0 : Tm) (a1 : (List Ty)) : Option (Tm) :=
  joinB ((un6 fun (v57 : Int) (v58 : Int) (v59 : Int) (v60 : Int) (v61 : (List Ty)) (v62 : (List Tm)) =>
  if (ige v57 0) = true then (
  bind1 (lget a1 v57) fun x76 =>
  some (.next ((isub .i64 v57 1), 2, 0, x76.kind, x76.args, [(Tm.mk v58 v59 (Ty.mk v60 v61) v62)])))
  else (
  some (.brk (v57, v58, v59, v60, v61, v62)))) : (Int × Int × Int × Int × (List Ty) × (List Tm)) → (Option (Ctl (Int × Int × Int × Int × (List Ty) × (List Tm)) (Tm)))) fun F63 =>
  bind1 (loopN F63 FU ((isub .i64 (llen a1) 1), a0.kind, a0.index, a0.typeF.kind, a0.typeF.args, a0.args)) (sumK (un6 fun (v57 : Int) (v58 : Int) (v59 : Int) (v60 : Int) (v61 : (List Ty)) (v62 : (List Tm)) =>
  some (Tm.mk v58 v59 (Ty.mk v60 v61) v62)) (fun r => some r))

def tree_Rec (a0 : Int) (a1 : Ty) (a2 : Tm) (a3 : Tm) (a4 : Tm) : Option (Tm) :=
  some (Tm.mk a0 0 a1 [a2, a3, a4])

def value_recursion (a0 : Tm) (a1 : Tm) (a2 : Tm) : Option (Tm) :=
  bind1 (tree_Nat) fun x31 =>
  bind1 (tree_Nat) fun x33 =>
  bind1 (tree_Nat) fun x35 =>
  bind1 (tree_Lam a1 [x33, x35]) fun x37 =>
  bind1 (tree_Rec 6 x31 a0 x37 a2) fun x39 =>
  some x39

def value_Pred  : Option (Tm) :=
  bind1 (tree_Of 4 []) fun x13 =>
  bind1 (tree_Var 1) fun x15 =>
  bind1 (tree_Var 0) fun x17 =>
  bind1 (value_recursion x13 x15 x17) fun x19 =>
  bind1 (tree_Nat) fun x21 =>
  bind1 (tree_Lam x19 [x21]) fun x23 =>
  some x23

def tree_App (a0 : Tm) (a1 : (List Tm)) : Option (Tm) :=
  chk (okLen a1) <|
  joinB (fun (j25 : Int) (x27 : Tm) => (un5 fun (v44 : Int) (v45 : Int) (v46 : Int) (v47 : (List Ty)) (v48 : (List Tm)) =>
  bind1 (tree_Of 3 [(Tm.mk v44 v45 (Ty.mk v46 v47) v48), x27]) fun x58 =>
  some (.next (x58.kind, x58.index, x58.typeF.kind, x58.typeF.args, x58.args))) : Int → Tm → (Int × Int × Int × (List Ty) × (List Tm)) → (Option (Ctl (Int × Int × Int × (List Ty) × (List Tm)) (Tm)))) fun F49 =>
  bind1 (forR F49 a1 0 (a0.kind, a0.index, a0.typeF.kind, a0.typeF.args, a0.args)) (sumK (un5 fun (v44 : Int) (v45 : Int) (v46 : Int) (v47 : (List Ty)) (v48 : (List Tm)) =>
  some (Tm.mk v44 v45 (Ty.mk v46 v47) v48)) (fun r => some r))

def value_two (a0 : Tm) : Option (Tm) :=
  bind1 (tree_Nat) fun x19 =>
  bind1 (tree_Nat) fun x21 =>
  bind1 (tree_Lam a0 [x19, x21]) fun x23 =>
  some x23

def value_Sub  : Option (Tm) :=
  bind1 (tree_Var 1) fun x15 =>
  bind1 (value_Pred) fun x17 =>
  bind1 (tree_Var 0) fun x19 =>
  bind1 (tree_App x17 [x19]) fun x21 =>
  bind1 (tree_Var 0) fun x23 =>
  bind1 (value_recursion x15 x21 x23) fun x25 =>
  bind1 (value_two x25) fun x27 =>
  some x27

def tree_Equation (a0 : Tm) (a1 : Tm) : Option (Fm) :=
  some (Fm.mk 1 (Ty.mk 0 []) [a0, a1] [])

def class_less (a0 : Tm) (a1 : Tm) : Option (Fm) :=
  bind1 (value_Sub) fun x31 =>
  bind1 (tree_Of 5 [a0]) fun x33 =>
  bind1 (tree_App x31 [x33, a1]) fun x35 =>
  bind1 (tree_Of 4 []) fun x37 =>
  bind1 (tree_Equation x35 x37) fun x39 =>
  some x39

def tree_SameTerm : Nat → Tm → Tm → Option (Bool)
  | 0, _, _ => none
  | n + 1, a0, a1 =>
  joinB (fun (v15 : Bool) =>
  if v15 = true then (
  some false)
  else (
  chk (okLen a0.args) <|
  joinB (fun (j56 : Int) (x58 : Tm) => (fun (_ : Unit) =>
  bind1 (lget a1.args j56) fun x128 =>
  bind1 (tree_SameTerm n x58 x128) fun x130 =>
  if x130 = true then (
  some (.next ()))
  else (
  some (.ret false))) : Int → Tm → (Unit) → (Option (Ctl (Unit) (Bool)))) fun F93 =>
  bind1 (forR F93 a0.args 0 ()) (sumK (fun (_ : Unit) =>
  some true) (fun r => some r)))) fun j16 =>
  if (ine a0.kind a1.kind) = true then (
  j16 true)
  else (
  if (ine a0.index a1.index) = true then (
  j16 true)
  else (
  bind1 (tree_SameType FU a0.typeF a1.typeF) fun x17 =>
  if x17 = true then (
  j16 (ine (llen a0.args) (llen a1.args)))
  else (
  j16 true)))

def tree_SameFormula : Nat → Fm → Fm → Option (Bool)
  | 0, _, _ => none
  | n + 1, a0, a1 =>
  joinB (fun (v15 : Bool) =>
  if v15 = true then (
  some false)
  else (
  chk (okLen a0.terms) <|
  joinB (fun (j56 : Int) (x58 : Tm) => (fun (_ : Unit) =>
  bind1 (lget a1.terms j56) fun x128 =>
  bind1 (tree_SameTerm FU x58 x128) fun x130 =>
  if x130 = true then (
  some (.next ()))
  else (
  some (.ret false))) : Int → Tm → (Unit) → (Option (Ctl (Unit) (Bool)))) fun F93 =>
  bind1 (forR F93 a0.terms 0 ()) (sumK (fun (_ : Unit) =>
  chk (okLen a0.args) <|
  joinB (fun (j169 : Int) (x171 : Fm) => (fun (_ : Unit) =>
  bind1 (lget a1.args j169) fun x241 =>
  bind1 (tree_SameFormula n x171 x241) fun x243 =>
  if x243 = true then (
  some (.next ()))
  else (
  some (.ret false))) : Int → Fm → (Unit) → (Option (Ctl (Unit) (Bool)))) fun F206 =>
  bind1 (forR F206 a0.args 0 ()) (sumK (fun (_ : Unit) =>
  some true) (fun r => some r))) (fun r => some r)))) fun j16 =>
  if (ine a0.kind a1.kind) = true then (
  j16 true)
  else (
  bind1 (tree_SameType FU a0.typeF a1.typeF) fun x17 =>
  if x17 = true then (
  if (ine (llen a0.terms) (llen a1.terms)) = true then (
  j16 true)
  else (
  j16 (ine (llen a0.args) (llen a1.args))))
  else (
  j16 true))

def class_bound (a0 : Fm) : Option (Bool × Tm × Fm × Bool) :=
  bind2 (class_joint (ieq a0.kind 4)) fun x4 x5 =>
  joinB (fun (v27 : Bool) =>
  if v27 = true then (
  some (false, (Tm.mk 0 0 (Ty.mk 0 []) []), (Fm.mk 0 (Ty.mk 0 []) [] []), false))
  else (
  bind1 (lget a0.args 0) fun x37 =>
  bind1 (lget x37.args 0) fun x39 =>
  bind1 (lget x39.terms 0) fun x43 =>
  joinB (fun (v113 : Bool) =>
  if v113 = true then (
  some (false, (Tm.mk 0 0 (Ty.mk 0 []) []), (Fm.mk 0 (Ty.mk 0 []) [] []), false))
  else (
  bind1 (lget x43.args 1) fun x147 =>
  bind1 (lget x37.args 1) fun x149 =>
  some ((ieq a0.kind 4), x147, x149, true))) fun j114 =>
  if (ine x43.kind 3) = true then (
  j114 true)
  else (
  bind1 (lget x43.args 1) fun x125 =>
  bind1 (tree_Count x125 0) fun x127 =>
  if (igt x127 0) = true then (
  j114 true)
  else (
  bind1 (tree_Var 0) fun x129 =>
  bind1 (class_less x129 x125) fun x131 =>
  bind1 (tree_SameFormula FU x39 x131) fun x133 =>
  j114 (bnot x133))))) fun j28 =>
  if (ine a0.kind x4) = true then (
  j28 true)
  else (
  if (ine a0.typeF.kind 1) = true then (
  j28 true)
  else (
  bind1 (lget a0.args 0) fun x29 =>
  if (ine x29.kind x5) = true then (
  j28 true)
  else (
  bind1 (lget x29.args 0) fun x31 =>
  j28 (ine x31.kind 1))))

def class_of : Nat → Fm → Option (Int)
  | 0, _ => none
  | n + 1, a0 =>
  if (ieq a0.kind 1) = true then (
  some 6)
  else (
  bind1 (lget a0.args (isub .i64 (llen a0.args) 1)) fun x5 =>
  bind1 (class_of n x5) fun x7 =>
  joinB (fun (v26 : Int) =>
  joinB (fun (v57 : Int) =>
  some v57) fun j58 =>
  bind4 (class_bound a0) fun x64 x65 x66 x67 =>
  if x67 = true then (
  bind1 (class_of n x66) fun x69 =>
  j58 (ior .u8 (iand .u8 v26 1) (iand .u8 x69 4)))
  else (
  j58 (iand .u8 v26 1))) fun j27 =>
  if (sel (ieq a0.kind 2) true (ieq a0.kind 3)) = true then (
  bind1 (lget a0.args 0) fun x35 =>
  bind1 (class_of n x35) fun x37 =>
  some (ior .u8 (iand .u8 (iand .u8 x37 x7) 6) (iand .u8 (sel (ieq a0.kind 2) (ior .u8 x7 x37) x7) 1)))
  else (
  if (ieq a0.kind 5) = true then (
  j27 (ior .u8 x7 1))
  else (
  j27 x7)))

def lexis_letter (a0 : Int) : Option (Bool) :=
  some (sel (ige a0 97) (ile a0 122) false)

def slices_IndexFunc_api_Declaration_api_Declaration {S : Type} (a0 : (List Dcl)) (a1 : (S → Dcl → Option (Bool × S))) (sv0 : S) : Option (Int × S) :=
  chk (okLen a0) <|
  joinB (fun (j33 : Int) (x35 : Dcl) => (fun (v64 : S) =>
  bind2 (a1 v64 x35) fun x81 x82 =>
  if x81 = true then (
  some (.ret (j33, x82)))
  else (
  some (.next x82))) : Int → Dcl → (S) → (Option (Ctl (S) (Int × S)))) fun F65 =>
  bind1 (forR F65 a0 0 sv0) (sumK (fun (v64 : S) =>
  some ((-1), v64)) (fun r => some r))

def slices_ContainsFunc_api_Declaration_api_Declaration {S : Type} (a0 : (List Dcl)) (a1 : (S → Dcl → Option (Bool × S))) (sv0 : S) : Option (Bool × S) :=
  bind2 (slices_IndexFunc_api_Declaration_api_Declaration a0 a1 sv0) fun x4 s5 =>
  some ((ige x4 0), s5)

def types_Check (a0 : Ty) : Option (Int) :=
  bind2 (tree_CheckType a0) fun x4 x5 =>
  some x5

def types_Context (a0 : (List Ty)) : Option (Int) :=
  if (igt (llen a0) 16) = true then (
  some 3)
  else (
  chk (okLen a0) <|
  joinB (fun (j14 : Int) (x16 : Ty) => (fun (_ : Unit) =>
  bind1 (types_Check x16) fun x40 =>
  if (ine x40 0) = true then (
  some (.ret x40))
  else (
  some (.next ()))) : Int → Ty → (Unit) → (Option (Ctl (Unit) (Int)))) fun F27 =>
  bind1 (forR F27 a0 0 ()) (sumK (fun (_ : Unit) =>
  some 0) (fun r => some r)))

def typing_Of (a0 : Ty) : Option (Styping_Sized) :=
  bind2 (tree_CheckType a0) fun x4 x5 =>
  some (Styping_Sized.mk a0 x4)

def typing_From (a0 : (List Ty)) : Option ((List Styping_Sized)) :=
  chk (okLen a0) <|
  joinB (fun (j21 : Int) (x23 : Ty) => (fun (v40 : (List Styping_Sized)) =>
  bind1 (typing_Of x23) fun x51 =>
  chk (okApp v40 [x51]) <|
  some (.next (lapp v40 [x51]))) : Int → Ty → ((List Styping_Sized)) → (Option (Ctl ((List Styping_Sized)) ((List Styping_Sized))))) fun F41 =>
  bind1 (forR F41 a0 0 []) (sumK (fun (v40 : (List Styping_Sized)) =>
  some v40) (fun r => some r))

def typing_Context_With (a0 : (List Styping_Sized)) (a1 : (List Ty)) : Option ((List Styping_Sized)) :=
  bind1 (typing_From a1) fun x10 =>
  chk (okApp a0 x10) <|
  some (lapp a0 x10)

def typing_join (a0 : Int) (a1 : Styping_Sized) (a2 : Styping_Sized) : Option (Styping_Sized × Int) :=
  if (igt (iadd .i64 (iadd .i64 1 a1.nodes) a2.nodes) 64) = true then (
  some ((Styping_Sized.mk (Ty.mk 0 []) 0), 4))
  else (
  some ((Styping_Sized.mk (Ty.mk a0 [a1.typeF, a2.typeF]) (iadd .i64 (iadd .i64 1 a1.nodes) a2.nodes)), 0))

def typing_plain (a0 : Int) : Option ((List Int)) :=
  if (ieq a0 4) = true then (
  some [1])
  else (
  if (ieq a0 5) = true then (
  some [1, 1])
  else (
  if (ieq a0 7) = true then (
  some [2])
  else (
  if (ieq a0 8) = true then (
  some [2, 1, 2])
  else (
  if (ieq a0 13) = true then (
  some [5])
  else (
  some [])))))

def typing_Sized_Is (a0 : Styping_Sized) (a1 : Int) : Option (Bool) :=
  some (ieq a0.typeF.kind a1)

def typing_Sized_part (a0 : Styping_Sized) (a1 : Int) : Option (Styping_Sized) :=
  bind1 (lget a0.typeF.args a1) fun x5 =>
  bind1 (typing_Of x5) fun x7 =>
  some x7

def typing_Sized_same (a0 : Styping_Sized) (a1 : Styping_Sized) : Option (Bool) :=
  joinB (fun (v6 : Bool) =>
  some v6) fun j7 =>
  if (ieq a0.nodes a1.nodes) = true then (
  bind1 (tree_SameType FU a0.typeF a1.typeF) fun x8 =>
  j7 x8)
  else (
  j7 false)

def tree_List  : Option (Ty) :=
  some (Ty.mk 2 [])

def tree_Fun (a0 : Ty) (a1 : (List Ty)) : Option (Ty) :=
  joinB ((un3 fun (v48 : Int) (v49 : Int) (v50 : (List Ty)) =>
  if (ige v48 0) = true then (
  bind1 (lget a1 v48) fun x64 =>
  some (.next ((isub .i64 v48 1), 4, [x64, (Ty.mk v49 v50)])))
  else (
  some (.brk (v48, v49, v50)))) : (Int × Int × (List Ty)) → (Option (Ctl (Int × Int × (List Ty)) (Ty)))) fun F51 =>
  bind1 (loopN F51 FU ((isub .i64 (llen a1) 1), a0.kind, a0.args)) (sumK (un3 fun (v48 : Int) (v49 : Int) (v50 : (List Ty)) =>
  some (Ty.mk v49 v50)) (fun r => some r))

def typing_step (a0 : Tm) : Option (Ty) :=
  if (ieq a0.kind 9) = true then (
  bind1 (tree_Nat) fun x43 =>
  bind1 (tree_List) fun x45 =>
  bind1 (tree_Fun a0.typeF [x43, x45, a0.typeF]) fun x47 =>
  some x47)
  else (
  bind1 (tree_Nat) fun x61 =>
  bind1 (tree_Fun a0.typeF [x61, a0.typeF]) fun x63 =>
  some x63)

def typing_node (a0 : Tm) (a1 : (Styping_Sized × Styping_Sized × Styping_Sized)) : Option (Styping_Sized × Int) :=
  bind1 (typing_plain a0.kind) fun x101 =>
  if (igt (llen x101) 0) = true then (
  bind1 (lslice x101 1 (llen x101)) fun x148 =>
  chk (okLen x148) <|
  joinB (fun (j150 : Int) (x152 : Int) => (fun (_ : Unit) =>
  joinB (fun (v222 : Bool) =>
  if v222 = true then (
  some (.ret ((Styping_Sized.mk (Ty.mk 0 []) 0), 7)))
  else (
  some (.next ()))) fun j223 =>
  if (ieq j150 0) = true then (
  bind1 (typing_Sized_Is a1.1 x152) fun x224 =>
  j223 (bnot x224))
  else (
  if (ieq j150 1) = true then (
  bind1 (typing_Sized_Is a1.2.1 x152) fun x226 =>
  j223 (bnot x226))
  else (
  chk (ieq j150 2) <|
  bind1 (typing_Sized_Is a1.2.2 x152) fun x228 =>
  j223 (bnot x228)))) : Int → Int → (Unit) → (Option (Ctl (Unit) (Styping_Sized × Int)))) fun F189 =>
  bind1 (forR F189 x148 0 ()) (sumK (fun (_ : Unit) =>
  bind1 (lget x101 0) fun x234 =>
  bind1 (typing_Of (Ty.mk x234 [])) fun x236 =>
  some (x236, 0)) (fun r => some r)))
  else (
  if (ieq a0.kind 3) = true then (
  joinB (fun (v434 : Bool) =>
  if v434 = true then (
  some ((Styping_Sized.mk (Ty.mk 0 []) 0), 7))
  else (
  bind1 (typing_Sized_part a1.1 1) fun x450 =>
  some (x450, 0))) fun j435 =>
  bind1 (typing_Sized_Is a1.1 4) fun x442 =>
  if x442 = true then (
  bind1 (typing_Sized_part a1.1 0) fun x444 =>
  bind1 (typing_Sized_same x444 a1.2.1) fun x446 =>
  j435 (bnot x446))
  else (
  j435 true))
  else (
  if (sel (ieq a0.kind 6) true (ieq a0.kind 9)) = true then (
  bind1 (typing_Of a0.typeF) fun x457 =>
  joinB (fun (v518 : Bool) =>
  if v518 = true then (
  some ((Styping_Sized.mk (Ty.mk 0 []) 0), 7))
  else (
  some (x457, 0))) fun j519 =>
  bind1 (typing_Sized_same a1.1 x457) fun x528 =>
  if x528 = true then (
  bind1 (typing_step a0) fun x530 =>
  bind1 (tree_SameType FU a1.2.1.typeF x530) fun x532 =>
  if x532 = true then (
  bind1 (typing_Sized_Is a1.2.2 (sel (ieq a0.kind 9) 2 1)) fun x534 =>
  j519 (bnot x534))
  else (
  j519 true))
  else (
  j519 true))
  else (
  if (ieq a0.kind 10) = true then (
  bind2 (typing_join 3 a1.1 a1.2.1) fun x539 x540 =>
  some (x539, x540))
  else (
  bind1 (typing_Sized_Is a1.1 3) fun x548 =>
  if x548 = true then (
  if (ieq a0.kind 11) = true then (
  bind1 (typing_Sized_part a1.1 0) fun x556 =>
  some (x556, 0))
  else (
  bind1 (typing_Sized_part a1.1 1) fun x560 =>
  some (x560, 0)))
  else (
  some ((Styping_Sized.mk (Ty.mk 0 []) 0), 7))))))

def typing_Context_TypeOf : Nat → (List Styping_Sized) → Tm → Option (Styping_Sized × Int)
  | 0, _, _ => none
  | n + 1, a0, a1 =>
  if (ieq a1.kind 1) = true then (
  if (ige a1.index (llen a0)) = true then (
  some ((Styping_Sized.mk (Ty.mk 0 []) 0), 6))
  else (
  bind1 (lget a0 (isub .i64 (isub .i64 (llen a0) 1) a1.index)) fun x7 =>
  some (x7, 0)))
  else (
  if (ieq a1.kind 2) = true then (
  bind1 (typing_Of a1.typeF) fun x45 =>
  chk (okApp a0 [x45]) <|
  bind1 (lget a1.args 0) fun x66 =>
  bind2 (typing_Context_TypeOf n (lapp a0 [x45]) x66) fun x68 x69 =>
  if (ine x69 0) = true then (
  some ((Styping_Sized.mk (Ty.mk 0 []) 0), x69))
  else (
  bind2 (typing_join 4 x45 x68) fun x74 x75 =>
  some (x74, x75)))
  else (
  chk (okLen a1.args) <|
  joinB (fun (j151 : Int) (x153 : Tm) => (un9 fun (v216 : Int) (v217 : (List Ty)) (v218 : Int) (v219 : Int) (v220 : (List Ty)) (v221 : Int) (v222 : Int) (v223 : (List Ty)) (v224 : Int) =>
  joinB (fun (v241 : Int) (v242 : (List Ty)) (v243 : Int) (v244 : Int) (v245 : (List Ty)) (v246 : Int) (v247 : Int) (v248 : (List Ty)) (v249 : Int) =>
  some (.next (v241, v242, v243, v244, v245, v246, v247, v248, v249))) fun j250 =>
  bind2 (typing_Context_TypeOf n a0 x153) fun x254 x255 =>
  if (ine x255 0) = true then (
  some (.ret ((Styping_Sized.mk (Ty.mk 0 []) 0), x255)))
  else (
  if (ieq j151 0) = true then (
  j250 x254.typeF.kind x254.typeF.args x254.nodes v219 v220 v221 v222 v223 v224)
  else (
  if (ieq j151 1) = true then (
  j250 v216 v217 v218 x254.typeF.kind x254.typeF.args x254.nodes v222 v223 v224)
  else (
  chk (ieq j151 2) <|
  j250 v216 v217 v218 v219 v220 v221 x254.typeF.kind x254.typeF.args x254.nodes)))) : Int → Tm → (Int × (List Ty) × Int × Int × (List Ty) × Int × Int × (List Ty) × Int) → (Option (Ctl (Int × (List Ty) × Int × Int × (List Ty) × Int × Int × (List Ty) × Int) (Styping_Sized × Int)))) fun F225 =>
  bind1 (forR F225 a1.args 0 (0, [], 0, 0, [], 0, 0, [], 0)) (sumK (un9 fun (v216 : Int) (v217 : (List Ty)) (v218 : Int) (v219 : Int) (v220 : (List Ty)) (v221 : Int) (v222 : Int) (v223 : (List Ty)) (v224 : Int) =>
  bind2 (typing_node a1 ((Styping_Sized.mk (Ty.mk v216 v217) v218), (Styping_Sized.mk (Ty.mk v219 v220) v221), (Styping_Sized.mk (Ty.mk v222 v223) v224))) fun x260 x261 =>
  some (x260, x261)) (fun r => some r))))

def typing_Context_Has (a0 : (List Styping_Sized)) (a1 : Tm) (a2 : Int) : Option (Int) :=
  bind2 (typing_Context_TypeOf FU a0 a1) fun x4 x5 =>
  joinB (fun (v21 : Bool) =>
  if v21 = true then (
  some 7)
  else (
  some x5)) fun j22 =>
  if (ieq x5 0) = true then (
  bind1 (typing_Sized_Is x4 a2) fun x23 =>
  j22 (bnot x23))
  else (
  j22 false)

def typing_Context_Number (a0 : (List Styping_Sized)) (a1 : Tm) : Option (Int) :=
  bind1 (typing_Context_Has a0 a1 1) fun x3 =>
  some x3

def typing_Context_Formula : Nat → (List Styping_Sized) → Fm → Option (Int)
  | 0, _, _ => none
  | n + 1, a0, a1 =>
  joinB (fun (v259 : (List Styping_Sized)) =>
  chk (okLen a1.args) <|
  joinB (fun (j407 : Int) (x409 : Fm) => (fun (_ : Unit) =>
  bind1 (typing_Context_Formula n v259 x409) fun x433 =>
  if (ine x433 0) = true then (
  some (.ret x433))
  else (
  some (.next ()))) : Int → Fm → (Unit) → (Option (Ctl (Unit) (Int)))) fun F420 =>
  bind1 (forR F420 a1.args 0 ()) (sumK (fun (_ : Unit) =>
  some 0) (fun r => some r))) fun j260 =>
  joinB (bind1 (typing_Context_With a0 [a1.typeF]) fun x366 =>
  j260 x366) fun j294 =>
  if (sel (ieq a1.kind 4) true (ieq a1.kind 5)) = true then (
  j294)
  else (
  if (sel (ieq a1.kind 6) true (ieq a1.kind 7)) = true then (
  j294)
  else (
  if (sel (ieq a1.kind 2) true (ieq a1.kind 3)) = true then (
  j260 a0)
  else (
  chk (okLen a1.terms) <|
  joinB (fun (j338 : Int) (x340 : Tm) => (fun (_ : Unit) =>
  bind1 (typing_Context_Number a0 x340) fun x364 =>
  if (ine x364 0) = true then (
  some (.ret x364))
  else (
  some (.next ()))) : Int → Tm → (Unit) → (Option (Ctl (Unit) (Int)))) fun F351 =>
  bind1 (forR F351 a1.terms 0 ()) (sumK (fun (_ : Unit) =>
  some 0) (fun r => some r)))))

def tree_tally_count (a0 : Stree_tally) (a1 : Int) (a2 : Int) : Option (Bool × Stree_tally) :=
  some ((ine a2 2), (sel a0.large (Stree_tally.mk (iadd .i64 a0.nodes a1) true) (Stree_tally.mk (iadd .i64 a0.nodes a1) (ieq a2 4))))

def tree_Place_below (a0 : Stree_Place) (a1 : Stree_Rule) (a2 : Int) : Option (Stree_Place) :=
  some (Stree_Place.mk (sel (ieq a2 (isub .i64 a1.args 1)) (iadd .i64 a0.vars a1.vars) a0.vars) (sel (ieq a2 (isub .i64 a1.args 1)) (iadd .i64 a0.hyps a1.hyps) a0.hyps))

def proof_set_put (a0 : (List (Int × Bool))) (a1 : Int) : Option ((List (Int × Bool))) :=
  if (ige a1 0) = true then (
  some (mput a0 a1 true))
  else (
  some a0)

def theory_form_2 (a0 : Int) (cv0 : Int) : Option (Bool) :=
  some (ige a0 cv0)

def kernel_place_with (a0 : Skernel_place) (a1 : Fm) : Option (Skernel_place) :=
  chk (okApp a0.known [(Skernel_hypothesis.mk a1 a0.limits.vars)]) <|
  some (Skernel_place.mk (Skernel_limits.mk a0.limits.vars (iadd .i64 a0.limits.hyps 1)) a0.types (lapp a0.known [(Skernel_hypothesis.mk a1 a0.limits.vars)]))

def kernel_start (a0 : Sq) : Option (Skernel_place) :=
  bind1 (typing_From a0.types) fun x3 =>
  chk (okLen a0.hyps) <|
  joinB (fun (j27 : Int) (x29 : Fm) => (un4 fun (v45 : Int) (v46 : Int) (v47 : (List Styping_Sized)) (v48 : (List Skernel_hypothesis)) =>
  bind1 (kernel_place_with (Skernel_place.mk (Skernel_limits.mk v45 v46) v47 v48) x29) fun x58 =>
  some (.next (x58.limits.vars, x58.limits.hyps, x58.types, x58.known))) : Int → Fm → (Int × Int × (List Styping_Sized) × (List Skernel_hypothesis)) → (Option (Ctl (Int × Int × (List Styping_Sized) × (List Skernel_hypothesis)) (Skernel_place)))) fun F49 =>
  bind1 (forR F49 a0.hyps 0 ((llen a0.types), 0, x3, [])) (sumK (un4 fun (v45 : Int) (v46 : Int) (v47 : (List Styping_Sized)) (v48 : (List Skernel_hypothesis)) =>
  some (Skernel_place.mk (Skernel_limits.mk v45 v46) v47 v48)) (fun r => some r))

def tree_OwnType : Nat → Ty → Option (Ty)
  | 0, _ => none
  | n + 1, a0 =>
  chk (okLen a0.args) <|
  joinB (fun (j33 : Int) (x35 : Ty) => (fun (v64 : (List Ty)) =>
  bind1 (tree_OwnType n x35) fun x81 =>
  chk (okApp v64 [x81]) <|
  some (.next (lapp v64 [x81]))) : Int → Ty → ((List Ty)) → (Option (Ctl ((List Ty)) (Ty)))) fun F65 =>
  bind1 (forR F65 a0.args 0 []) (sumK (fun (v64 : (List Ty)) =>
  some (Ty.mk a0.kind v64)) (fun r => some r))

def tree_Quantifier (a0 : Int) : Option (Bool) :=
  some (sel (ige a0 4) (ile a0 7) false)

def tree_RebuildFormula {S : Type} : Nat → Fm → Int → (S → Tm → Int → Option (Tm × S)) → S → Option (Fm × S)
  | 0, _, _, _, _ => none
  | n + 1, a0, a1, a2, sv0 =>
  bind1 (tree_OwnType FU a0.typeF) fun x7 =>
  chk (okLen a0.terms) <|
  joinB (fun (j51 : Int) (x53 : Tm) => (un2 fun (v91 : (List Tm)) (v92 : S) =>
  bind2 (a2 v92 x53 a1) fun x112 x113 =>
  chk (okApp v91 [x112]) <|
  some (.next ((lapp v91 [x112]), x113))) : Int → Tm → ((List Tm) × S) → (Option (Ctl ((List Tm) × S) (Fm × S)))) fun F93 =>
  bind1 (forR F93 a0.terms 0 ([], sv0)) (sumK (un2 fun (v91 : (List Tm)) (v92 : S) =>
  joinB (fun (v123 : Int) =>
  chk (okLen a0.args) <|
  joinB (fun (j171 : Int) (x173 : Fm) => (un2 fun (v211 : (List Fm)) (v212 : S) =>
  bind2 (tree_RebuildFormula n x173 v123 a2 v212) fun x232 s233 =>
  chk (okApp v211 [x232]) <|
  some (.next ((lapp v211 [x232]), s233))) : Int → Fm → ((List Fm) × S) → (Option (Ctl ((List Fm) × S) (Fm × S)))) fun F213 =>
  bind1 (forR F213 a0.args 0 ([], v92)) (sumK (un2 fun (v211 : (List Fm)) (v212 : S) =>
  some ((Fm.mk a0.kind x7 v91 v211), v212)) (fun r => some r))) fun j124 =>
  bind1 (tree_Quantifier a0.kind) fun x127 =>
  if x127 = true then (
  j124 (iadd .i64 a1 1))
  else (
  j124 a1)) (fun r => some r))

def tree_Own : Nat → Tm → Option (Tm)
  | 0, _ => none
  | n + 1, a0 =>
  bind1 (tree_OwnType FU a0.typeF) fun x7 =>
  chk (okLen a0.args) <|
  joinB (fun (j41 : Int) (x43 : Tm) => (fun (v72 : (List Tm)) =>
  bind1 (tree_Own n x43) fun x89 =>
  chk (okApp v72 [x89]) <|
  some (.next (lapp v72 [x89]))) : Int → Tm → ((List Tm)) → (Option (Ctl ((List Tm)) (Tm)))) fun F73 =>
  bind1 (forR F73 a0.args 0 []) (sumK (fun (v72 : (List Tm)) =>
  some (Tm.mk a0.kind a0.index x7 v72)) (fun r => some r))

def tree_OwnFormula_1 (a0 : Tm) (a1 : Int) : Option (Tm) :=
  bind1 (tree_Own FU a0) fun x3 =>
  some x3

def tree_OwnFormula (a0 : Fm) : Option (Fm) :=
  bind2 (tree_RebuildFormula FU a0 0 (fun (s : Unit) (y0 : Tm) (y1 : Int) => pureW (tree_OwnFormula_1 y0 y1) s) ()) fun x4 s5 =>
  some x4

def terms_Same (a0 : Tm) (a1 : Tm) : Option (Bool) :=
  bind1 (tree_SameTerm FU a0 a1) fun x3 =>
  some x3

def tree_Near_1 (a0 : Int) (a1 : Int) (cv0 : Bool) : Option (Bool) :=
  if cv0 = true then (
  some (ile a0 536870912))
  else (
  some false)

def tree_Near (a0 : Tm) : Option (Bool) :=
  bind1 (tree_Each a0 (fun (s : Bool) (y0 : Int) (y1 : Int) => tree_Near_1 y0 y1 s) true) fun s3 =>
  some s3

def content_join (a0 : Int) (a1 : Ty) (a2 : Ty) : Option (Ty × Bool × Int) :=
  bind1 (types_Check (Ty.mk a0 [a1, a2])) fun x15 =>
  if (ine x15 0) = true then (
  some ((Ty.mk 0 []), false, x15))
  else (
  some ((Ty.mk a0 [a1, a2]), true, 0))

def content_of : Nat → Fm → Option (Ty × Bool × Int)
  | 0, _ => none
  | n + 1, a0 =>
  if (ieq a0.kind 1) = true then (
  some ((Ty.mk 0 []), false, 0))
  else (
  bind1 (lget a0.args (isub .i64 (llen a0.args) 1)) fun x7 =>
  bind3 (content_of n x7) fun x9 x10 x11 =>
  if (ine x11 0) = true then (
  some ((Ty.mk 0 []), false, x11))
  else (
  if (ieq a0.kind 2) = true then (
  bind1 (lget a0.args 0) fun x53 =>
  bind3 (content_of n x53) fun x55 x56 x57 =>
  if (sel (ine x57 0) true (bnot x56)) = true then (
  some (x9, x10, x57))
  else (
  if x10 = true then (
  bind3 (content_join 3 x55 x9) fun x69 x70 x71 =>
  some (x69, x70, x71))
  else (
  some (x55, true, 0))))
  else (
  if (ieq a0.kind 5) = true then (
  if x10 = true then (
  bind3 (content_join 3 a0.typeF x9) fun x77 x78 x79 =>
  some (x77, x78, x79))
  else (
  some (a0.typeF, true, 0)))
  else (
  if x10 = true then (
  if (ieq a0.kind 3) = true then (
  bind1 (lget a0.args 0) fun x121 =>
  bind3 (content_of n x121) fun x123 x124 x125 =>
  if (sel (ine x125 0) true (bnot x124)) = true then (
  some (x9, true, x125))
  else (
  bind3 (content_join 4 x123 x9) fun x137 x138 x139 =>
  some (x137, x138, x139)))
  else (
  if (ieq a0.kind 4) = true then (
  bind3 (content_join 4 a0.typeF x9) fun x145 x146 x147 =>
  some (x145, x146, x147))
  else (
  some (x9, true, 0))))
  else (
  some ((Ty.mk 0 []), false, 0))))))

def tree_Lift_1 (a0 : Int) (a1 : Int) (cv0 : Int) (cv1 : Int) : Option (Tm) :=
  bind1 (tree_Var (sel (ige (isub .i64 a0 a1) cv0) (iadd .i64 a0 cv1) a0)) fun x6 =>
  some x6

def tree_Rebuild_1 {S : Type} : Nat → Tm → Int → (S → Int → Int → Option (Tm × S)) → S → Option (Tm × S)
  | 0, _, _, _, _ => none
  | n + 1, a0, a1, cv0, sv0 =>
  if (ieq a0.kind 1) = true then (
  bind2 (cv0 sv0 a0.index a1) fun x10 x11 =>
  some (x10, x11))
  else (
  bind1 (tree_OwnType FU a0.typeF) fun x19 =>
  chk (okLen a0.args) <|
  joinB (fun (j66 : Int) (x68 : Tm) => (un2 fun (v106 : (List Tm)) (v107 : S) =>
  bind2 (tree_Rebuild_1 n x68 (sel (ieq a0.kind 2) (iadd .i64 a1 1) a1) cv0 v107) fun x127 s128 =>
  chk (okApp v106 [x127]) <|
  some (.next ((lapp v106 [x127]), s128))) : Int → Tm → ((List Tm) × S) → (Option (Ctl ((List Tm) × S) (Tm × S)))) fun F108 =>
  bind1 (forR F108 a0.args 0 ([], sv0)) (sumK (un2 fun (v106 : (List Tm)) (v107 : S) =>
  some ((Tm.mk a0.kind a0.index x19 v106), v107)) (fun r => some r)))

def tree_Rebuild {S : Type} (a0 : Tm) (a1 : (S → Int → Int → Option (Tm × S))) (sv0 : S) : Option (Tm × S) :=
  bind2 (tree_Rebuild_1 FU a0 0 a1 sv0) fun x4 s5 =>
  some (x4, s5)

def tree_Lift (a0 : Tm) (a1 : Int) (a2 : Int) : Option (Tm) :=
  bind2 (tree_Rebuild a0 (fun (s : Unit) (y0 : Int) (y1 : Int) => pureW (tree_Lift_1 y0 y1 a1 a2) s) ()) fun x4 s5 =>
  some x4

def tree_LiftFormula_1 (a0 : Tm) (a1 : Int) (cv0 : Int) (cv1 : Int) : Option (Tm) :=
  bind1 (tree_Lift a0 (iadd .i64 cv0 a1) cv1) fun x3 =>
  some x3

def tree_LiftFormula (a0 : Fm) (a1 : Int) (a2 : Int) : Option (Fm) :=
  bind2 (tree_RebuildFormula FU a0 0 (fun (s : Unit) (y0 : Tm) (y1 : Int) => pureW (tree_LiftFormula_1 y0 y1 a1 a2) s) ()) fun x4 s5 =>
  some x4

def kernel_place_hyp (a0 : Skernel_place) (a1 : Int) : Option (Fm × Bool) :=
  if (ige a1 (llen a0.known)) = true then (
  some ((Fm.mk 0 (Ty.mk 0 []) [] []), false))
  else (
  bind1 (lget a0.known (isub .i64 (isub .i64 (llen a0.known) 1) a1)) fun x3 =>
  bind1 (tree_LiftFormula x3.formula 0 (isub .i64 a0.limits.vars x3.vars)) fun x7 =>
  some (x7, true))

def tree_Form (a0 : Int) (a1 : (List Fm)) : Option (Fm) :=
  some (Fm.mk a0 (Ty.mk 0 []) [] a1)

def kernel_limits_more (a0 : Skernel_limits) (a1 : Int) (a2 : Int) : Option (Int) :=
  if (sel (igt (iadd .i64 a0.vars a1) 16) true (igt (iadd .i64 a0.hyps a2) 16)) = true then (
  some 3)
  else (
  some 0)

def kernel_place_below (a0 : Skernel_place) (a1 : (List Ty)) : Option (Skernel_place) :=
  bind1 (typing_Context_With a0.types a1) fun x3 =>
  some (Skernel_place.mk (Skernel_limits.mk (iadd .i64 a0.limits.vars (llen a1)) a0.limits.hyps) x3 a0.known)

def tree_Quantified (a0 : Int) (a1 : Ty) (a2 : Fm) : Option (Fm) :=
  some (Fm.mk a0 a1 [] [a2])

def kernel_variables_out (a0 : Int) (a1 : Int) : Option (Int) :=
  chk (okSh a1) <|
  some (ishr .u32 a0 a1)

def kernel_free_1 (a0 : Int) (a1 : Int) (cv0 : Int) : Option (Int) :=
  if (ige a0 a1) = true then (
  chk (okSh (isub .i64 a0 a1)) <|
  some (ior .u32 cv0 (ishl .u32 1 (isub .i64 a0 a1))))
  else (
  some cv0)

def kernel_free (a0 : Tm) : Option (Int) :=
  bind1 (tree_Each a0 (fun (s : Int) (y0 : Int) (y1 : Int) => kernel_free_1 y0 y1 s) 0) fun s3 =>
  some s3

def typing_Sized_Same (a0 : Styping_Sized) (a1 : Ty) : Option (Bool) :=
  bind1 (typing_Of a1) fun x13 =>
  bind1 (typing_Sized_same a0 x13) fun x15 =>
  some x15

def tree_CountFormula_1 (a0 : Tm) (a1 : Int) (cv0 : Int) (cv1 : Int) : Option (Int) :=
  bind1 (tree_Count a0 (iadd .i64 cv1 a1)) fun x3 =>
  some (iadd .i64 cv0 x3)

def tree_EachTerm {S : Type} : Nat → Fm → Int → (S → Tm → Int → Option (S)) → S → Option (S)
  | 0, _, _, _, _ => none
  | n + 1, a0, a1, a2, sv0 =>
  chk (okLen a0.terms) <|
  joinB (fun (j17 : Int) (x19 : Tm) => (fun (v32 : S) =>
  bind1 (a2 v32 x19 a1) fun x42 =>
  some (.next x42)) : Int → Tm → (S) → (Option (Ctl (S) (S)))) fun F33 =>
  bind1 (forR F33 a0.terms 0 sv0) (sumK (fun (v32 : S) =>
  joinB (fun (v51 : Int) =>
  chk (okLen a0.args) <|
  joinB (fun (j57 : Int) (x59 : Fm) => (fun (v72 : S) =>
  bind1 (tree_EachTerm n x59 v51 a2 v72) fun s82 =>
  some (.next s82)) : Int → Fm → (S) → (Option (Ctl (S) (S)))) fun F73 =>
  bind1 (forR F73 a0.args 0 v32) (sumK (fun (v72 : S) =>
  some v72) (fun r => some r))) fun j52 =>
  bind1 (tree_Quantifier a0.kind) fun x55 =>
  if x55 = true then (
  j52 (iadd .i64 a1 1))
  else (
  j52 a1)) (fun r => some r))

def tree_CountFormula (a0 : Fm) (a1 : Int) : Option (Int) :=
  bind1 (tree_EachTerm FU a0 0 (fun (s : Int) (y0 : Tm) (y1 : Int) => tree_CountFormula_1 y0 y1 s a1) 0) fun s3 =>
  some s3

def tree_Put_1 (a0 : Int) (a1 : Int) (cv0 : Int) (cv1 : Tm) : Option (Tm) :=
  if (ieq (isub .i64 a0 a1) cv0) = true then (
  bind1 (tree_Lift cv1 0 (iadd .i64 cv0 a1)) fun x11 =>
  some x11)
  else (
  if (igt (isub .i64 a0 a1) cv0) = true then (
  bind1 (tree_Var (isub .i64 a0 1)) fun x15 =>
  some x15)
  else (
  bind1 (tree_Var a0) fun x19 =>
  some x19))

def tree_Put (a0 : Tm) (a1 : Int) (a2 : Tm) : Option (Tm) :=
  bind2 (tree_Rebuild a0 (fun (s : Unit) (y0 : Int) (y1 : Int) => pureW (tree_Put_1 y0 y1 a1 a2) s) ()) fun x4 s5 =>
  some x4

def tree_PutFormula_1 (a0 : Tm) (a1 : Int) (cv0 : Int) (cv1 : Tm) : Option (Tm) :=
  bind1 (tree_Put a0 (iadd .i64 cv0 a1) cv1) fun x3 =>
  some x3

def tree_PutFormula (a0 : Fm) (a1 : Int) (a2 : Tm) : Option (Fm) :=
  bind2 (tree_RebuildFormula FU a0 0 (fun (s : Unit) (y0 : Tm) (y1 : Int) => pureW (tree_PutFormula_1 y0 y1 a1 a2) s) ()) fun x4 s5 =>
  some x4

def kernel_checker_exI_1 (a0 : Tm) : Option (Int) :=
  some 0

def kernel_inductionOf (a0 : Int) : Option (Skernel_induction) :=
  if (ieq a0 16) = true then (
  bind1 (tree_Of 4 []) fun x25 =>
  bind1 (tree_Nat) fun x27 =>
  bind1 (tree_Var 0) fun x29 =>
  bind1 (tree_Of 5 [x29]) fun x31 =>
  some (Skernel_induction.mk 1 x25 [x27] x31))
  else (
  bind1 (tree_Of 7 []) fun x47 =>
  bind1 (tree_Nat) fun x49 =>
  bind1 (tree_List) fun x51 =>
  bind1 (tree_Var 1) fun x53 =>
  bind1 (tree_Var 0) fun x55 =>
  bind1 (tree_Of 8 [x53, x55]) fun x57 =>
  some (Skernel_induction.mk 2 x47 [x49, x51] x57))

end Go.Mdl
