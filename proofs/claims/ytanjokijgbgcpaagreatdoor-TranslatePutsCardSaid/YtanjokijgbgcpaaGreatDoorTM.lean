/- Models of the functions: what they compute, in plain Lean. -/
import Derived.Test.YtanjokijgbgcpaaGreatDoorTT
import Derived.Test.YtanjokijgbgcpaaGreatDoorSort
set_option maxRecDepth 20000
set_option linter.unusedSimpArgs false
set_option linter.unusedVariables false
namespace Go.Mdl
open Go

def ref01_Copy : Nat → Ty → Option (Ty)
  | 0, _ => none
  | n + 1, a0 =>
  chk (okLen a0.args) <|
  joinB (fun (j21 : Int) (x23 : Ty) => (fun (v40 : (List Ty)) =>
  bind1 (ref01_Copy n x23) fun x51 =>
  chk (okApp v40 [x51]) <|
  some (.next (lapp v40 [x51]))) : Int → Ty → ((List Ty)) → (Option (Ctl ((List Ty)) (Ty)))) fun F41 =>
  bind1 (forR F41 a0.args 0 []) (sumK (fun (v40 : (List Ty)) =>
  some (Ty.mk a0.kind v40)) (fun r => some r))

def ref02_Copy : Nat → Tm → Option (Tm)
  | 0, _ => none
  | n + 1, a0 =>
  chk (okLen a0.args) <|
  joinB (fun (j21 : Int) (x23 : Tm) => (fun (v40 : (List Tm)) =>
  bind1 (ref02_Copy n x23) fun x51 =>
  chk (okApp v40 [x51]) <|
  some (.next (lapp v40 [x51]))) : Int → Tm → ((List Tm)) → (Option (Ctl ((List Tm)) (Tm)))) fun F41 =>
  bind1 (forR F41 a0.args 0 []) (sumK (fun (v40 : (List Tm)) =>
  bind1 (ref01_Copy FU a0.typeF) fun x60 =>
  some (Tm.mk a0.kind a0.index x60 v40)) (fun r => some r))

def ref02_N (a0 : Int) (a1 : (List Tm)) : Option (Tm) :=
  chk (okLen a1) <|
  joinB (fun (j21 : Int) (x23 : Tm) => (fun (v40 : (List Tm)) =>
  bind1 (ref02_Copy FU x23) fun x51 =>
  chk (okApp v40 [x51]) <|
  some (.next (lapp v40 [x51]))) : Int → Tm → ((List Tm)) → (Option (Ctl ((List Tm)) (Tm)))) fun F41 =>
  bind1 (forR F41 a1 0 []) (sumK (fun (v40 : (List Tm)) =>
  some (Tm.mk a0 0 (Ty.mk 0 []) v40)) (fun r => some r))

def ref05_numeral (a0 : Int) : Option (Tm) :=
  bind1 (ref02_N 4 []) fun x3 =>
  joinB ((un6 fun (v29 : Int) (v30 : Int) (v31 : Int) (v32 : Int) (v33 : (List Ty)) (v34 : (List Tm)) =>
  if (igt v29 0) = true then (
  some (.next ((isub .i64 v29 1), 5, 0, 0, [], [(Tm.mk v30 v31 (Ty.mk v32 v33) v34)])))
  else (
  some (.brk (v29, v30, v31, v32, v33, v34)))) : (Int × Int × Int × Int × (List Ty) × (List Tm)) → (Option (Ctl (Int × Int × Int × Int × (List Ty) × (List Tm)) (Tm)))) fun F35 =>
  bind1 (loopN F35 FU (a0, x3.kind, x3.index, x3.typeF.kind, x3.typeF.args, x3.args)) (sumK (un6 fun (v29 : Int) (v30 : Int) (v31 : Int) (v32 : Int) (v33 : (List Ty)) (v34 : (List Tm)) =>
  some (Tm.mk v30 v31 (Ty.mk v32 v33) v34)) (fun r => some r))

def ref05_Number (a0 : Int) : Option (Tm × Int) :=
  if (ilt a0 0) = true then (
  some ((Tm.mk 0 0 (Ty.mk 0 []) []), 1))
  else (
  if (ige a0 4096) = true then (
  some ((Tm.mk 0 0 (Ty.mk 0 []) []), 4))
  else (
  bind1 (ref05_numeral a0) fun x3 =>
  some (x3, 0)))

def mk_Num (a0 : Int) : Option (Tm) :=
  bind2 (ref05_Number a0) fun x4 x5 =>
  some x4

def ref07_Eq (a0 : Tm) (a1 : Tm) : Option (Fm) :=
  bind1 (ref02_Copy FU a0) fun x13 =>
  bind1 (ref02_Copy FU a1) fun x15 =>
  some (Fm.mk 1 (Ty.mk 0 []) [x13, x15] [])

def tree_typeNodes : Nat → Ty → Option (Int × Bool)
  | 0, _ => none
  | n + 1, a0 =>
  joinB (fun (v10 : Int) =>
  if (ine (llen a0.args) v10) = true then (
  some (0, false))
  else (
  chk (okLen a0.args) <|
  joinB (fun (j50 : Int) (x52 : Ty) => (fun (v81 : Int) =>
  bind2 (tree_typeNodes n x52) fun x98 x99 =>
  if x99 = true then (
  some (.next (iadd .i64 v81 x98)))
  else (
  some (.ret (0, false)))) : Int → Ty → (Int) → (Option (Ctl (Int) (Int × Bool)))) fun F82 =>
  bind1 (forR F82 a0.args 0 1) (sumK (fun (v81 : Int) =>
  some (v81, true)) (fun r => some r)))) fun j11 =>
  if (sel (ieq a0.kind 1) true (sel (ieq a0.kind 2) true (ieq a0.kind 5))) = true then (
  j11 0)
  else (
  if (sel (ieq a0.kind 3) true (ieq a0.kind 4)) = true then (
  j11 2)
  else (
  some (0, false)))

def tree_CheckType (a0 : Ty) : Option (Int × Int) :=
  bind2 (tree_typeNodes FU a0) fun x4 x5 =>
  if x5 = true then (
  if (igt x4 64) = true then (
  some (0, 4))
  else (
  some (x4, 0)))
  else (
  some (0, 2))

def tree_NoType (a0 : Ty) : Option (Bool) :=
  some (sel (ieq a0.kind 0) (ieq (llen a0.args) 0) false)

def tree_formed (a0 : Fm) : Option (Bool) :=
  joinB (fun (v10 : Int) (v11 : Int) (v12 : Bool) =>
  joinB (some (sel (ieq (llen a0.terms) v10) (ieq (llen a0.args) v11) false)) fun j33 =>
  if v12 = true then (
  bind2 (tree_CheckType a0.typeF) fun x37 x38 =>
  if (ine x38 0) = true then (
  some false)
  else (
  j33))
  else (
  bind1 (tree_NoType a0.typeF) fun x42 =>
  if x42 = true then (
  j33)
  else (
  some false))) fun j13 =>
  if (ieq a0.kind 1) = true then (
  j13 2 0 false)
  else (
  if (sel (ieq a0.kind 2) true (ieq a0.kind 3)) = true then (
  j13 0 2 false)
  else (
  if (sel (ieq a0.kind 4) true (sel (ieq a0.kind 5) true (sel (ieq a0.kind 6) true (ieq a0.kind 7)))) = true then (
  j13 0 1 true)
  else (
  some false)))

def tree_Arity (a0 : Int) : Option (Int × Bool) :=
  if (sel (ilt a0 1) true (ige a0 14)) = true then (
  some (0, false))
  else (
  bind1 (lget tree_arities a0) fun x9 =>
  some (x9, true))

def tree_Typed (a0 : Int) : Option (Bool) :=
  some (sel (ieq a0 2) true (sel (ieq a0 6) true (ieq a0 9)))

def tree_termNodes : Nat → Tm → Option (Int × Bool)
  | 0, _ => none
  | n + 1, a0 =>
  bind2 (tree_Arity a0.kind) fun x4 x5 =>
  if (sel x5 (sel (ine (llen a0.args) x4) true (sel (ilt a0.index 0) true (sel (ine a0.index 0) (ine a0.kind 1) false))) true) = true then (
  some (0, false))
  else (
  joinB (chk (okLen a0.args) <|
  joinB (fun (j77 : Int) (x79 : Tm) => (fun (v108 : Int) =>
  bind2 (tree_termNodes n x79) fun x125 x126 =>
  if x126 = true then (
  some (.next (iadd .i64 v108 x125)))
  else (
  some (.ret (0, false)))) : Int → Tm → (Int) → (Option (Ctl (Int) (Int × Bool)))) fun F109 =>
  bind1 (forR F109 a0.args 0 1) (sumK (fun (v108 : Int) =>
  some (v108, true)) (fun r => some r))) fun j30 =>
  bind1 (tree_Typed a0.kind) fun x33 =>
  if x33 = true then (
  bind2 (tree_CheckType a0.typeF) fun x38 x39 =>
  if (ine x39 0) = true then (
  some (0, false))
  else (
  j30))
  else (
  bind1 (tree_NoType a0.typeF) fun x43 =>
  if x43 = true then (
  j30)
  else (
  some (0, false))))

def tree_formulaNodes : Nat → Fm → Option (Int × Bool)
  | 0, _ => none
  | n + 1, a0 =>
  bind1 (tree_formed a0) fun x7 =>
  if x7 = true then (
  chk (okLen a0.terms) <|
  joinB (fun (j41 : Int) (x43 : Tm) => (fun (v72 : Int) =>
  bind2 (tree_termNodes FU x43) fun x89 x90 =>
  if x90 = true then (
  some (.next (iadd .i64 v72 x89)))
  else (
  some (.ret (0, false)))) : Int → Tm → (Int) → (Option (Ctl (Int) (Int × Bool)))) fun F73 =>
  bind1 (forR F73 a0.terms 0 1) (sumK (fun (v72 : Int) =>
  chk (okLen a0.args) <|
  joinB (fun (j124 : Int) (x126 : Fm) => (fun (v155 : Int) =>
  bind2 (tree_formulaNodes n x126) fun x172 x173 =>
  if x173 = true then (
  some (.next (iadd .i64 v155 x172)))
  else (
  some (.ret (0, false)))) : Int → Fm → (Int) → (Option (Ctl (Int) (Int × Bool)))) fun F156 =>
  bind1 (forR F156 a0.args 0 v72) (sumK (fun (v155 : Int) =>
  some (v155, true)) (fun r => some r))) (fun r => some r)))
  else (
  some (0, false))

def tree_CheckFormula (a0 : Fm) : Option (Int × Int) :=
  bind2 (tree_formulaNodes FU a0) fun x4 x5 =>
  if x5 = true then (
  if (igt x4 4096) = true then (
  some (0, 4))
  else (
  some (x4, 0)))
  else (
  some (0, 2))

def formula_Check (a0 : Fm) : Option (Int) :=
  bind2 (tree_CheckFormula a0) fun x4 x5 =>
  some x5

def translate_uniform : Nat → Fm → Option (Bool)
  | 0, _ => none
  | n + 1, a0 =>
  if (sel (ieq a0.kind 6) true (ieq a0.kind 7)) = true then (
  some true)
  else (
  chk (okLen a0.args) <|
  joinB (fun (j20 : Int) (x22 : Fm) => (fun (_ : Unit) =>
  bind1 (translate_uniform n x22) fun x46 =>
  if x46 = true then (
  some (.ret true))
  else (
  some (.next ()))) : Int → Fm → (Unit) → (Option (Ctl (Unit) (Bool)))) fun F33 =>
  bind1 (forR F33 a0.args 0 ()) (sumK (fun (_ : Unit) =>
  some false) (fun r => some r)))

def formula_within (a0 : Int) : Option (Bool) :=
  some (sel (ige a0 0) (ile a0 4096) false)

def tree_Near_1 (a0 : Int) (a1 : Int) (cv0 : Bool) : Option (Bool) :=
  if cv0 = true then (
  some (ile a0 536870912))
  else (
  some false)

def tree_Each_1 {S : Type} : Nat → Tm → Int → (S → Int → Int → Option (S)) → S → Option (S)
  | 0, _, _, _, _ => none
  | n + 1, a0, a1, cv0, sv0 =>
  joinB (fun (v6 : S) =>
  chk (okLen a0.args) <|
  joinB (fun (j13 : Int) (x15 : Tm) => (fun (v28 : S) =>
  bind1 (tree_Each_1 n x15 (sel (ieq a0.kind 2) (iadd .i64 a1 1) a1) cv0 v28) fun s38 =>
  some (.next s38)) : Int → Tm → (S) → (Option (Ctl (S) (S)))) fun F29 =>
  bind1 (forR F29 a0.args 0 v6) (sumK (fun (v28 : S) =>
  some v28) (fun r => some r))) fun j7 =>
  if (ieq a0.kind 1) = true then (
  bind1 (cv0 sv0 a0.index a1) fun x8 =>
  j7 x8)
  else (
  j7 sv0)

def tree_Each {S : Type} (a0 : Tm) (a1 : (S → Int → Int → Option (S))) (sv0 : S) : Option (S) :=
  bind1 (tree_Each_1 FU a0 0 a1 sv0) fun s1 =>
  some s1

def tree_Near (a0 : Tm) : Option (Bool) :=
  bind1 (tree_Each a0 (fun (s : Bool) (y0 : Int) (y1 : Int) => tree_Near_1 y0 y1 s) true) fun s3 =>
  some s3

def tree_NearFormula_1 (a0 : Tm) (a1 : Int) (cv0 : Bool) : Option (Bool) :=
  if cv0 = true then (
  bind1 (tree_Near a0) fun x1 =>
  some x1)
  else (
  some false)

def tree_Quantifier (a0 : Int) : Option (Bool) :=
  some (sel (ige a0 4) (ile a0 7) false)

def tree_EachTerm {S : Type} : Nat → Fm → Int → (S → Tm → Int → Option (S)) → S → Option (S)
  | 0, _, _, _, _ => none
  | n + 1, a0, a1, a2, sv0 =>
  chk (okLen a0.terms) <|
  joinB (fun (j17 : Int) (x19 : Tm) => (fun (v32 : S) =>
  bind1 (a2 v32 x19 a1) fun x42 =>
  some (.next x42)) : Int → Tm → (S) → (Option (Ctl (S) (S)))) fun F33 =>
  bind1 (forR F33 a0.terms 0 sv0) (sumK (fun (v32 : S) =>
  joinB (fun (v51 : Int) =>
  chk (okLen a0.args) <|
  joinB (fun (j57 : Int) (x59 : Fm) => (fun (v72 : S) =>
  bind1 (tree_EachTerm n x59 v51 a2 v72) fun s82 =>
  some (.next s82)) : Int → Fm → (S) → (Option (Ctl (S) (S)))) fun F73 =>
  bind1 (forR F73 a0.args 0 v32) (sumK (fun (v72 : S) =>
  some v72) (fun r => some r))) fun j52 =>
  bind1 (tree_Quantifier a0.kind) fun x55 =>
  if x55 = true then (
  j52 (iadd .i64 a1 1))
  else (
  j52 a1)) (fun r => some r))

def tree_NearFormula (a0 : Fm) : Option (Bool) :=
  bind1 (tree_EachTerm FU a0 0 (fun (s : Bool) (y0 : Tm) (y1 : Int) => tree_NearFormula_1 y0 y1 s) true) fun s3 =>
  some s3

def tree_Var (a0 : Int) : Option (Tm) :=
  some (Tm.mk 1 a0 (Ty.mk 0 []) [])

def tree_Lift_1 (a0 : Int) (a1 : Int) (cv0 : Int) (cv1 : Int) : Option (Tm) :=
  bind1 (tree_Var (sel (ige (isub .i64 a0 a1) cv0) (iadd .i64 a0 cv1) a0)) fun x6 =>
  some x6

def tree_OwnType : Nat → Ty → Option (Ty)
  | 0, _ => none
  | n + 1, a0 =>
  chk (okLen a0.args) <|
  joinB (fun (j33 : Int) (x35 : Ty) => (fun (v64 : (List Ty)) =>
  bind1 (tree_OwnType n x35) fun x81 =>
  chk (okApp v64 [x81]) <|
  some (.next (lapp v64 [x81]))) : Int → Ty → ((List Ty)) → (Option (Ctl ((List Ty)) (Ty)))) fun F65 =>
  bind1 (forR F65 a0.args 0 []) (sumK (fun (v64 : (List Ty)) =>
  some (Ty.mk a0.kind v64)) (fun r => some r))

def tree_Rebuild_1 {S : Type} : Nat → Tm → Int → (S → Int → Int → Option (Tm × S)) → S → Option (Tm × S)
  | 0, _, _, _, _ => none
  | n + 1, a0, a1, cv0, sv0 =>
  if (ieq a0.kind 1) = true then (
  bind2 (cv0 sv0 a0.index a1) fun x10 x11 =>
  some (x10, x11))
  else (
  bind1 (tree_OwnType FU a0.typeF) fun x19 =>
  chk (okLen a0.args) <|
  joinB (fun (j66 : Int) (x68 : Tm) => (un2 fun (v106 : (List Tm)) (v107 : S) =>
  bind2 (tree_Rebuild_1 n x68 (sel (ieq a0.kind 2) (iadd .i64 a1 1) a1) cv0 v107) fun x127 s128 =>
  chk (okApp v106 [x127]) <|
  some (.next ((lapp v106 [x127]), s128))) : Int → Tm → ((List Tm) × S) → (Option (Ctl ((List Tm) × S) (Tm × S)))) fun F108 =>
  bind1 (forR F108 a0.args 0 ([], sv0)) (sumK (un2 fun (v106 : (List Tm)) (v107 : S) =>
  some ((Tm.mk a0.kind a0.index x19 v106), v107)) (fun r => some r)))

def tree_Rebuild {S : Type} (a0 : Tm) (a1 : (S → Int → Int → Option (Tm × S))) (sv0 : S) : Option (Tm × S) :=
  bind2 (tree_Rebuild_1 FU a0 0 a1 sv0) fun x4 s5 =>
  some (x4, s5)

def tree_Lift (a0 : Tm) (a1 : Int) (a2 : Int) : Option (Tm) :=
  bind2 (tree_Rebuild a0 (fun (s : Unit) (y0 : Int) (y1 : Int) => pureW (tree_Lift_1 y0 y1 a1 a2) s) ()) fun x4 s5 =>
  some x4

def tree_LiftFormula_1 (a0 : Tm) (a1 : Int) (cv0 : Int) (cv1 : Int) : Option (Tm) :=
  bind1 (tree_Lift a0 (iadd .i64 cv0 a1) cv1) fun x3 =>
  some x3

def tree_RebuildFormula {S : Type} : Nat → Fm → Int → (S → Tm → Int → Option (Tm × S)) → S → Option (Fm × S)
  | 0, _, _, _, _ => none
  | n + 1, a0, a1, a2, sv0 =>
  bind1 (tree_OwnType FU a0.typeF) fun x7 =>
  chk (okLen a0.terms) <|
  joinB (fun (j51 : Int) (x53 : Tm) => (un2 fun (v91 : (List Tm)) (v92 : S) =>
  bind2 (a2 v92 x53 a1) fun x112 x113 =>
  chk (okApp v91 [x112]) <|
  some (.next ((lapp v91 [x112]), x113))) : Int → Tm → ((List Tm) × S) → (Option (Ctl ((List Tm) × S) (Fm × S)))) fun F93 =>
  bind1 (forR F93 a0.terms 0 ([], sv0)) (sumK (un2 fun (v91 : (List Tm)) (v92 : S) =>
  joinB (fun (v123 : Int) =>
  chk (okLen a0.args) <|
  joinB (fun (j171 : Int) (x173 : Fm) => (un2 fun (v211 : (List Fm)) (v212 : S) =>
  bind2 (tree_RebuildFormula n x173 v123 a2 v212) fun x232 s233 =>
  chk (okApp v211 [x232]) <|
  some (.next ((lapp v211 [x232]), s233))) : Int → Fm → ((List Fm) × S) → (Option (Ctl ((List Fm) × S) (Fm × S)))) fun F213 =>
  bind1 (forR F213 a0.args 0 ([], v92)) (sumK (un2 fun (v211 : (List Fm)) (v212 : S) =>
  some ((Fm.mk a0.kind x7 v91 v211), v212)) (fun r => some r))) fun j124 =>
  bind1 (tree_Quantifier a0.kind) fun x127 =>
  if x127 = true then (
  j124 (iadd .i64 a1 1))
  else (
  j124 a1)) (fun r => some r))

def tree_LiftFormula (a0 : Fm) (a1 : Int) (a2 : Int) : Option (Fm) :=
  bind2 (tree_RebuildFormula FU a0 0 (fun (s : Unit) (y0 : Tm) (y1 : Int) => pureW (tree_LiftFormula_1 y0 y1 a1 a2) s) ()) fun x4 s5 =>
  some x4

def formula_Lift (a0 : Fm) (a1 : Int) (a2 : Int) : Option (Fm × Int) :=
  bind1 (formula_Check a0) fun x7 =>
  if (ine x7 0) = true then (
  some ((Fm.mk 0 (Ty.mk 0 []) [] []), x7))
  else (
  joinB (fun (v35 : Bool) =>
  if v35 = true then (
  some ((Fm.mk 0 (Ty.mk 0 []) [] []), 1))
  else (
  bind1 (tree_LiftFormula a0 a1 a2) fun x45 =>
  some (x45, 0))) fun j36 =>
  bind1 (formula_within a1) fun x37 =>
  if x37 = true then (
  bind1 (formula_within a2) fun x39 =>
  if x39 = true then (
  bind1 (tree_NearFormula a0) fun x41 =>
  j36 (bnot x41))
  else (
  j36 true))
  else (
  j36 true))

def translate_size : Nat → Fm → Int → Option (Int)
  | 0, _, _ => none
  | n + 1, a0, a1 =>
  bind2 (tree_CheckFormula a0) fun x4 x5 =>
  if (ieq a0.kind 1) = true then (
  some (iadd .i64 (iadd .i64 x4 2) (imul .i64 2 a1)))
  else (
  if (ieq a0.kind 5) = true then (
  bind1 (lget a0.args 0) fun x19 =>
  bind1 (translate_size n x19 a1) fun x21 =>
  some (iadd .i64 (iadd .i64 x21 3) (imul .i64 2 a1)))
  else (
  chk (okLen a0.args) <|
  joinB (fun (j39 : Int) (x41 : Fm) => (fun (v54 : Int) =>
  bind1 (translate_size n x41 a1) fun x64 =>
  some (.next (iadd .i64 v54 x64))) : Int → Fm → (Int) → (Option (Ctl (Int) (Int)))) fun F55 =>
  bind1 (forR F55 a0.args 0 1) (sumK (fun (v54 : Int) =>
  some v54) (fun r => some r))))

def translate_look (a0 : Fm) (a1 : Fm) : Option (Int) :=
  bind1 (formula_Check a0) fun x7 =>
  if (ine x7 0) = true then (
  some x7)
  else (
  bind1 (formula_Check a1) fun x15 =>
  if (ine x15 0) = true then (
  some x15)
  else (
  bind1 (translate_uniform FU a1) fun x23 =>
  if x23 = true then (
  some 10)
  else (
  bind2 (formula_Lift a0 0 1) fun x34 x35 =>
  if (ine x35 0) = true then (
  some x35)
  else (
  bind2 (tree_CheckFormula a0) fun x40 x41 =>
  bind1 (translate_size FU a1 x40) fun x49 =>
  if (igt x49 4096) = true then (
  some 4)
  else (
  some 0)))))

def tree_Form (a0 : Int) (a1 : (List Fm)) : Option (Fm) :=
  some (Fm.mk a0 (Ty.mk 0 []) [] a1)

def translate_imp (a0 : Fm) (a1 : Fm) : Option (Fm) :=
  bind1 (tree_Form 3 [a0, a1]) fun x3 =>
  some x3

def tree_Own : Nat → Tm → Option (Tm)
  | 0, _ => none
  | n + 1, a0 =>
  bind1 (tree_OwnType FU a0.typeF) fun x7 =>
  chk (okLen a0.args) <|
  joinB (fun (j41 : Int) (x43 : Tm) => (fun (v72 : (List Tm)) =>
  bind1 (tree_Own n x43) fun x89 =>
  chk (okApp v72 [x89]) <|
  some (.next (lapp v72 [x89]))) : Int → Tm → ((List Tm)) → (Option (Ctl ((List Tm)) (Tm)))) fun F73 =>
  bind1 (forR F73 a0.args 0 []) (sumK (fun (v72 : (List Tm)) =>
  some (Tm.mk a0.kind a0.index x7 v72)) (fun r => some r))

def tree_OwnFormula_1 (a0 : Tm) (a1 : Int) : Option (Tm) :=
  bind1 (tree_Own FU a0) fun x3 =>
  some x3

def tree_OwnFormula (a0 : Fm) : Option (Fm) :=
  bind2 (tree_RebuildFormula FU a0 0 (fun (s : Unit) (y0 : Tm) (y1 : Int) => pureW (tree_OwnFormula_1 y0 y1) s) ()) fun x4 s5 =>
  some x4

def tree_Quantified (a0 : Int) (a1 : Ty) (a2 : Fm) : Option (Fm) :=
  some (Fm.mk a0 a1 [] [a2])

def tr_ans : Nat → Fm → Option (Fm)
  | 0, a => some a
  | k + 1, a => bind1 (tr_ans k a) fun x => tree_LiftFormula x 0 1
def tr_formula : Nat → Fm → Fm → Nat → Option (Fm)
  | 0, _, _, _ => none
  | n + 1, a, f, k =>
  if (ieq f.kind 1) = true then (
  bind1 (tr_ans k a) fun x =>
  bind1 (translate_imp f x) fun y =>
  bind1 (translate_imp y x) fun z =>
  some z)
  else (
  if (sel (ieq f.kind 2) true (ieq f.kind 3)) = true then (
  bind1 (lget f.args 0) fun x =>
  bind1 (tr_formula n a x k) fun y =>
  bind1 (lget f.args 1) fun u =>
  bind1 (tr_formula n a u k) fun v =>
  bind1 (tree_Form f.kind [y, v]) fun z =>
  some z)
  else (
  if (ieq f.kind 4) = true then (
  bind1 (lget f.args 0) fun x =>
  bind1 (tr_formula n a x (k + 1)) fun y =>
  bind1 (tree_Quantified 4 f.typeF y) fun z =>
  some z)
  else (
  bind1 (lget f.args 0) fun x =>
  bind1 (tr_formula n a x (k + 1)) fun y =>
  bind1 (tr_ans (k + 1) a) fun u =>
  bind1 (translate_imp y u) fun v =>
  bind1 (tree_Quantified 4 f.typeF v) fun w =>
  bind1 (tr_ans k a) fun q =>
  bind1 (translate_imp w q) fun z =>
  some z)))
def translate_Formula (a0 : Fm) (a1 : Fm) : Option (Fm × Int) :=
  bind1 (translate_look a0 a1) fun e =>
  if (ine e 0) = true then (
  some ((Fm.mk 0 (Ty.mk 0 []) [] []), e))
  else (
  bind1 (tr_formula FU a0 a1 0) fun x =>
  bind1 (tree_OwnFormula x) fun y =>
  some (y, 0))

def ref07_Copy : Nat → Fm → Option (Fm)
  | 0, _ => none
  | n + 1, a0 =>
  bind1 (ref01_Copy FU a0.typeF) fun x7 =>
  chk (okLen a0.terms) <|
  joinB (fun (j41 : Int) (x43 : Tm) => (fun (v72 : (List Tm)) =>
  bind1 (ref02_Copy FU x43) fun x89 =>
  chk (okApp v72 [x89]) <|
  some (.next (lapp v72 [x89]))) : Int → Tm → ((List Tm)) → (Option (Ctl ((List Tm)) (Fm)))) fun F73 =>
  bind1 (forR F73 a0.terms 0 []) (sumK (fun (v72 : (List Tm)) =>
  chk (okLen a0.args) <|
  joinB (fun (j124 : Int) (x126 : Fm) => (fun (v155 : (List Fm)) =>
  bind1 (ref07_Copy n x126) fun x172 =>
  chk (okApp v155 [x172]) <|
  some (.next (lapp v155 [x172]))) : Int → Fm → ((List Fm)) → (Option (Ctl ((List Fm)) (Fm)))) fun F156 =>
  bind1 (forR F156 a0.args 0 []) (sumK (fun (v155 : (List Fm)) =>
  some (Fm.mk a0.kind x7 v72 v155)) (fun r => some r))) (fun r => some r))

def ref07_Two (a0 : Int) (a1 : Fm) (a2 : Fm) : Option (Fm) :=
  bind1 (ref07_Copy FU a1) fun x13 =>
  bind1 (ref07_Copy FU a2) fun x15 =>
  some (Fm.mk a0 (Ty.mk 0 []) [] [x13, x15])

def ref01_Same : Nat → Ty → Ty → Option (Bool)
  | 0, _, _ => none
  | n + 1, a0, a1 =>
  if (sel (ine a0.kind a1.kind) true (ine (llen a0.args) (llen a1.args))) = true then (
  some false)
  else (
  chk (okLen a0.args) <|
  joinB (fun (j44 : Int) (x46 : Ty) => (fun (_ : Unit) =>
  bind1 (lget a1.args j44) fun x116 =>
  bind1 (ref01_Same n x46 x116) fun x118 =>
  if x118 = true then (
  some (.next ()))
  else (
  some (.ret false))) : Int → Ty → (Unit) → (Option (Ctl (Unit) (Bool)))) fun F81 =>
  bind1 (forR F81 a0.args 0 ()) (sumK (fun (_ : Unit) =>
  some true) (fun r => some r)))

def ref02_Same : Nat → Tm → Tm → Option (Bool)
  | 0, _, _ => none
  | n + 1, a0, a1 =>
  joinB (fun (v15 : Bool) =>
  if v15 = true then (
  some false)
  else (
  chk (okLen a0.args) <|
  joinB (fun (j56 : Int) (x58 : Tm) => (fun (_ : Unit) =>
  bind1 (lget a1.args j56) fun x128 =>
  bind1 (ref02_Same n x58 x128) fun x130 =>
  if x130 = true then (
  some (.next ()))
  else (
  some (.ret false))) : Int → Tm → (Unit) → (Option (Ctl (Unit) (Bool)))) fun F93 =>
  bind1 (forR F93 a0.args 0 ()) (sumK (fun (_ : Unit) =>
  some true) (fun r => some r)))) fun j16 =>
  if (ine a0.kind a1.kind) = true then (
  j16 true)
  else (
  if (ine a0.index a1.index) = true then (
  j16 true)
  else (
  bind1 (ref01_Same FU a0.typeF a1.typeF) fun x17 =>
  if x17 = true then (
  j16 (ine (llen a0.args) (llen a1.args)))
  else (
  j16 true)))

def ref02_SameAll (a0 : (List Tm)) (a1 : (List Tm)) : Option (Bool) :=
  if (ine (llen a0) (llen a1)) = true then (
  some false)
  else (
  chk (okLen a0) <|
  joinB (fun (j38 : Int) (x40 : Tm) => (fun (_ : Unit) =>
  bind1 (lget a1 j38) fun x110 =>
  bind1 (ref02_Same FU x40 x110) fun x112 =>
  if x112 = true then (
  some (.next ()))
  else (
  some (.ret false))) : Int → Tm → (Unit) → (Option (Ctl (Unit) (Bool)))) fun F75 =>
  bind1 (forR F75 a0 0 ()) (sumK (fun (_ : Unit) =>
  some true) (fun r => some r)))

def ref07_Same : Nat → Fm → Fm → Option (Bool)
  | 0, _, _ => none
  | n + 1, a0, a1 =>
  joinB (fun (v21 : Bool) =>
  if v21 = true then (
  some false)
  else (
  chk (okLen a0.args) <|
  joinB (fun (j64 : Int) (x66 : Fm) => (fun (_ : Unit) =>
  bind1 (lget a1.args j64) fun x136 =>
  bind1 (ref07_Same n x66 x136) fun x138 =>
  if x138 = true then (
  some (.next ()))
  else (
  some (.ret false))) : Int → Fm → (Unit) → (Option (Ctl (Unit) (Bool)))) fun F101 =>
  bind1 (forR F101 a0.args 0 ()) (sumK (fun (_ : Unit) =>
  some true) (fun r => some r)))) fun j22 =>
  if (ine a0.kind a1.kind) = true then (
  j22 true)
  else (
  bind1 (ref01_Same FU a0.typeF a1.typeF) fun x23 =>
  if x23 = true then (
  bind1 (ref02_SameAll a0.terms a1.terms) fun x25 =>
  if x25 = true then (
  j22 (ine (llen a0.args) (llen a1.args)))
  else (
  j22 true))
  else (
  j22 true))

def law20_sane  : Option (Bool) :=
  bind1 (mk_Num 0) fun x13 =>
  bind1 (mk_Num 0) fun x15 =>
  bind1 (ref07_Eq x13 x15) fun x17 =>
  bind1 (mk_Num 1) fun x19 =>
  bind1 (mk_Num 2) fun x21 =>
  bind1 (ref07_Eq x19 x21) fun x23 =>
  bind2 (translate_Formula x23 x17) fun x28 x29 =>
  joinB (fun (v46 : Bool) =>
  some v46) fun j47 =>
  if (ieq x29 0) = true then (
  bind1 (ref07_Two 3 x17 x23) fun x54 =>
  bind1 (ref07_Two 3 x54 x23) fun x56 =>
  bind1 (ref07_Same FU x28 x56) fun x58 =>
  j47 x58)
  else (
  j47 false)

def mk_Few (a0 : (List Int)) : Option (Bool) :=
  some (ile (llen a0) 500)

def mk_CountType : Nat → Ty → Int → Option (Int)
  | 0, _, _ => none
  | n + 1, a0, a1 =>
  joinB ((un2 fun (v69 : Int) (v70 : Int) =>
  if (sel (ilt v70 (llen a0.args)) (ile v69 a1) false) = true then (
  bind1 (lget a0.args v70) fun x88 =>
  bind1 (mk_CountType n x88 (isub .i64 a1 v69)) fun x90 =>
  some (.next ((iadd .i64 v69 x90), (iadd .i64 v70 1))))
  else (
  some (.brk (v69, v70)))) : (Int × Int) → (Option (Ctl (Int × Int) (Int)))) fun F71 =>
  bind1 (loopN F71 FU (1, 0)) (sumK (un2 fun (v69 : Int) (v70 : Int) =>
  some v69) (fun r => some r))

def mk_CountTerm : Nat → Tm → Int → Option (Int)
  | 0, _, _ => none
  | n + 1, a0, a1 =>
  bind1 (mk_CountType FU a0.typeF (isub .i64 a1 1)) fun x3 =>
  joinB ((un2 fun (v73 : Int) (v74 : Int) =>
  if (sel (ilt v74 (llen a0.args)) (ile v73 a1) false) = true then (
  bind1 (lget a0.args v74) fun x92 =>
  bind1 (mk_CountTerm n x92 (isub .i64 a1 v73)) fun x94 =>
  some (.next ((iadd .i64 v73 x94), (iadd .i64 v74 1))))
  else (
  some (.brk (v73, v74)))) : (Int × Int) → (Option (Ctl (Int × Int) (Int)))) fun F75 =>
  bind1 (loopN F75 FU ((iadd .i64 1 x3), 0)) (sumK (un2 fun (v73 : Int) (v74 : Int) =>
  some v73) (fun r => some r))

def mk_CountFormula : Nat → Fm → Int → Option (Int)
  | 0, _, _ => none
  | n + 1, a0, a1 =>
  bind1 (mk_CountType FU a0.typeF (isub .i64 a1 1)) fun x3 =>
  joinB ((un2 fun (v73 : Int) (v74 : Int) =>
  if (sel (ilt v74 (llen a0.terms)) (ile v73 a1) false) = true then (
  bind1 (lget a0.terms v74) fun x92 =>
  bind1 (mk_CountTerm FU x92 (isub .i64 a1 v73)) fun x94 =>
  some (.next ((iadd .i64 v73 x94), (iadd .i64 v74 1))))
  else (
  some (.brk (v73, v74)))) : (Int × Int) → (Option (Ctl (Int × Int) (Int)))) fun F75 =>
  bind1 (loopN F75 FU ((iadd .i64 1 x3), 0)) (sumK (un2 fun (v73 : Int) (v74 : Int) =>
  joinB ((un2 fun (v164 : Int) (v165 : Int) =>
  if (sel (ilt v165 (llen a0.args)) (ile v164 a1) false) = true then (
  bind1 (lget a0.args v165) fun x183 =>
  bind1 (mk_CountFormula n x183 (isub .i64 a1 v164)) fun x185 =>
  some (.next ((iadd .i64 v164 x185), (iadd .i64 v165 1))))
  else (
  some (.brk (v164, v165)))) : (Int × Int) → (Option (Ctl (Int × Int) (Int)))) fun F166 =>
  bind1 (loopN F166 FU (v73, 0)) (sumK (un2 fun (v164 : Int) (v165 : Int) =>
  some v164) (fun r => some r))) (fun r => some r))

def law20_forms (a0 : Fm) : Option (Int) :=
  bind1 (mk_CountFormula FU a0 20000) fun x3 =>
  some x3

def mk_New (l : List Int) : Option Smk_Deck := some ⟨l, 0⟩

def mk_Mod (a0 : Int) (a1 : Int) : Option (Int) :=
  chk (okDiv a1) <|
  chk (okDiv a1) <|
  some (irem .i64 (iadd .i64 (irem .i64 a0 a1) a1) a1)

def mk_Deck_Next (a0 : Smk_Deck) (a1 : Int) : Option (Int × Smk_Deck) :=
  if (sel (ilt a1 1) true (ige a0.atF (llen a0.l))) = true then (
  some (0, a0))
  else (
  bind1 (lget a0.l a0.atF) fun x13 =>
  bind1 (mk_Mod x13 a1) fun x17 =>
  some (x17, (Smk_Deck.mk a0.l (iadd .i64 a0.atF 1))))

def ref01_Nat  : Option (Ty) :=
  some (Ty.mk 1 [])

def ref01_List  : Option (Ty) :=
  some (Ty.mk 2 [])

def ref01_Unit  : Option (Ty) :=
  some (Ty.mk 5 [])

def ref01_Two (a0 : Ty) (a1 : Ty) : Option (Ty) :=
  bind1 (ref01_Copy FU a0) fun x13 =>
  bind1 (ref01_Copy FU a1) fun x15 =>
  some (Ty.mk 3 [x13, x15])

def ref01_Fun (a0 : Ty) (a1 : Ty) : Option (Ty) :=
  bind1 (ref01_Copy FU a0) fun x13 =>
  bind1 (ref01_Copy FU a1) fun x15 =>
  some (Ty.mk 4 [x13, x15])

def mk_Type : Nat → Smk_Deck → Int → Option (Ty × Smk_Deck)
  | 0, _, _ => none
  | n + 1, a0, a1 =>
  joinB (fun (v57 : Smk_Deck) =>
  bind1 (ref01_Nat) fun x114 =>
  some (x114, v57)) fun j58 =>
  bind2 (mk_Deck_Next a0 7) fun x62 d63 =>
  if (sel (ieq x62 0) true (sel (ieq x62 1) true (ieq x62 2))) = true then (
  bind1 (ref01_Nat) fun x70 =>
  some (x70, d63))
  else (
  if (ieq x62 3) = true then (
  bind1 (ref01_List) fun x74 =>
  some (x74, d63))
  else (
  if (ieq x62 4) = true then (
  bind1 (ref01_Unit) fun x78 =>
  some (x78, d63))
  else (
  if (ieq x62 5) = true then (
  if (igt a1 0) = true then (
  bind2 (mk_Type n d63 (isub .i64 a1 1)) fun x88 d89 =>
  bind2 (mk_Type n d89 (isub .i64 a1 1)) fun x91 d92 =>
  bind1 (ref01_Two x88 x91) fun x94 =>
  some (x94, d92))
  else (
  j58 d63))
  else (
  if (ieq x62 6) = true then (
  if (igt a1 0) = true then (
  bind2 (mk_Type n d63 (isub .i64 a1 1)) fun x104 d105 =>
  bind2 (mk_Type n d105 (isub .i64 a1 1)) fun x107 d108 =>
  bind1 (ref01_Fun x104 x107) fun x110 =>
  some (x110, d108))
  else (
  j58 d63))
  else (
  j58 d63)))))

def mk_Context (a0 : Smk_Deck) : Option ((List Ty) × Smk_Deck) :=
  bind2 (mk_Deck_Next a0 4) fun x35 d36 =>
  joinB ((un3 fun (v60 : (List Ty)) (v61 : Int) (v62 : Smk_Deck) =>
  if (igt v61 0) = true then (
  bind2 (mk_Type FU v62 1) fun x74 d75 =>
  chk (okApp v60 [x74]) <|
  some (.next ((lapp v60 [x74]), (isub .i64 v61 1), d75)))
  else (
  some (.brk (v60, v61, v62)))) : ((List Ty) × Int × Smk_Deck) → (Option (Ctl ((List Ty) × Int × Smk_Deck) ((List Ty) × Smk_Deck)))) fun F63 =>
  bind1 (loopN F63 FU ([], x35, d36)) (sumK (un3 fun (v60 : (List Ty)) (v61 : Int) (v62 : Smk_Deck) =>
  some (v60, v62)) (fun r => some r))

def mk_longer (a0 : (List Ty)) (a1 : (List Ty)) : Option ((List Ty)) :=
  chk (okApp [] a0) <|
  chk (okApp (lapp [] a0) a1) <|
  some (lapp (lapp [] a0) a1)

def ref07_Q (a0 : Int) (a1 : Ty) (a2 : Fm) : Option (Fm) :=
  bind1 (ref01_Copy FU a1) fun x13 =>
  bind1 (ref07_Copy FU a2) fun x15 =>
  some (Fm.mk a0 x13 [] [x15])

def mk_vars (a0 : (List Ty)) (a1 : Ty) : Option ((List Int)) :=
  chk (okLen a0) <|
  joinB (fun (j87 : Int) (x89 : Ty) => (fun (v172 : (List Int)) =>
  joinB (fun (v200 : (List Int)) =>
  some (.next v200)) fun j201 =>
  bind1 (lget a0 (isub .i64 (isub .i64 (llen a0) 1) j87)) fun x214 =>
  bind1 (ref01_Same FU x214 a1) fun x216 =>
  if x216 = true then (
  chk (okApp v172 [j87]) <|
  j201 (lapp v172 [j87]))
  else (
  j201 v172)) : Int → Ty → ((List Int)) → (Option (Ctl ((List Int)) ((List Int))))) fun F173 =>
  bind1 (forR F173 a0 0 []) (sumK (fun (v172 : (List Int)) =>
  some v172) (fun r => some r))

def ref02_Var (a0 : Int) : Option (Tm) :=
  some (Tm.mk 1 a0 (Ty.mk 0 []) [])

def ref02_T (a0 : Int) (a1 : Ty) (a2 : (List Tm)) : Option (Tm) :=
  bind1 (ref02_N a0 a2) fun x3 =>
  bind1 (ref01_Copy FU a1) fun x7 =>
  some (Tm.mk x3.kind x3.index x7 x3.args)

def ref05_lam (a0 : Tm) : Option (Tm) :=
  bind1 (ref01_Nat) fun x13 =>
  bind1 (ref02_T 2 x13 [a0]) fun x15 =>
  some x15

def ref05_rec (a0 : Tm) (a1 : Tm) (a2 : Tm) : Option (Tm) :=
  bind1 (ref01_Nat) fun x13 =>
  bind1 (ref02_T 6 x13 [a0, a1, a2]) fun x15 =>
  some x15

def ref05_Plus  : Option (Tm) :=
  bind1 (ref02_Var 1) fun x19 =>
  bind1 (ref02_Var 0) fun x21 =>
  bind1 (ref02_N 5 [x21]) fun x23 =>
  bind1 (ref05_lam x23) fun x25 =>
  bind1 (ref05_lam x25) fun x27 =>
  bind1 (ref02_Var 0) fun x29 =>
  bind1 (ref05_rec x19 x27 x29) fun x31 =>
  bind1 (ref05_lam x31) fun x33 =>
  bind1 (ref05_lam x33) fun x35 =>
  some x35

def mk_App (a0 : Tm) (a1 : (List Tm)) : Option (Tm) :=
  chk (okLen a1) <|
  joinB (fun (j25 : Int) (x27 : Tm) => (un5 fun (v44 : Int) (v45 : Int) (v46 : Int) (v47 : (List Ty)) (v48 : (List Tm)) =>
  bind1 (ref02_N 3 [(Tm.mk v44 v45 (Ty.mk v46 v47) v48), x27]) fun x58 =>
  some (.next (x58.kind, x58.index, x58.typeF.kind, x58.typeF.args, x58.args))) : Int → Tm → (Int × Int × Int × (List Ty) × (List Tm)) → (Option (Ctl (Int × Int × Int × (List Ty) × (List Tm)) (Tm)))) fun F49 =>
  bind1 (forR F49 a1 0 (a0.kind, a0.index, a0.typeF.kind, a0.typeF.args, a0.args)) (sumK (un5 fun (v44 : Int) (v45 : Int) (v46 : Int) (v47 : (List Ty)) (v48 : (List Tm)) =>
  some (Tm.mk v44 v45 (Ty.mk v46 v47) v48)) (fun r => some r))

def ref05_Pred  : Option (Tm) :=
  bind1 (ref02_N 4 []) fun x15 =>
  bind1 (ref02_Var 1) fun x17 =>
  bind1 (ref05_lam x17) fun x19 =>
  bind1 (ref05_lam x19) fun x21 =>
  bind1 (ref02_Var 0) fun x23 =>
  bind1 (ref05_rec x15 x21 x23) fun x25 =>
  bind1 (ref05_lam x25) fun x27 =>
  some x27

def ref05_Sub  : Option (Tm) :=
  bind1 (ref02_Var 1) fun x21 =>
  bind1 (ref05_Pred) fun x23 =>
  bind1 (ref02_Var 0) fun x25 =>
  bind1 (ref02_N 3 [x23, x25]) fun x27 =>
  bind1 (ref05_lam x27) fun x29 =>
  bind1 (ref05_lam x29) fun x31 =>
  bind1 (ref02_Var 0) fun x33 =>
  bind1 (ref05_rec x21 x31 x33) fun x35 =>
  bind1 (ref05_lam x35) fun x37 =>
  bind1 (ref05_lam x37) fun x39 =>
  some x39

def mk_Term : Nat → Smk_Deck → (List Ty) → Ty → Int → Option (Tm × Smk_Deck)
  | 0, _, _, _, _ => none
  | n + 1, a0, a1, a2, a3 =>
  bind1 (mk_vars a1 a2) fun x3 =>
  joinB (fun (v37 : Bool) (v38 : Smk_Deck) =>
  if v37 = true then (
  bind2 (mk_Deck_Next v38 (llen x3)) fun x50 d51 =>
  bind1 (lget x3 x50) fun x53 =>
  bind1 (ref02_Var x53) fun x55 =>
  some (x55, d51))
  else (
  joinB (fun (v547 : Smk_Deck) =>
  if (ieq a2.kind 1) = true then (
  joinB (fun (v1671 : Smk_Deck) =>
  bind2 (mk_Deck_Next v1671 3) fun x1774 d1775 =>
  bind1 (mk_Num x1774) fun x1777 =>
  some (x1777, d1775)) fun j1672 =>
  if (igt a3 0) = true then (
  bind2 (mk_Deck_Next v547 5) fun x1676 d1677 =>
  if (ieq x1676 0) = true then (
  bind2 (mk_Term n d1677 a1 a2 (isub .i64 a3 1)) fun x1684 d1685 =>
  bind1 (ref02_N 5 [x1684]) fun x1687 =>
  some (x1687, d1685))
  else (
  if (ieq x1676 1) = true then (
  bind1 (ref05_Plus) fun x1719 =>
  bind2 (mk_Term n d1677 a1 a2 (isub .i64 a3 1)) fun x1721 d1722 =>
  bind2 (mk_Term n d1722 a1 a2 (isub .i64 a3 1)) fun x1724 d1725 =>
  bind1 (mk_App x1719 [x1721, x1724]) fun x1727 =>
  some (x1727, d1725))
  else (
  if (ieq x1676 2) = true then (
  bind1 (ref05_Sub) fun x1759 =>
  bind2 (mk_Term n d1677 a1 a2 (isub .i64 a3 1)) fun x1761 d1762 =>
  bind2 (mk_Term n d1762 a1 a2 (isub .i64 a3 1)) fun x1764 d1765 =>
  bind1 (mk_App x1759 [x1761, x1764]) fun x1767 =>
  some (x1767, d1765))
  else (
  j1672 d1677))))
  else (
  j1672 v547))
  else (
  if (ieq a2.kind 2) = true then (
  joinB (fun (v1837 : Bool) (v1838 : Smk_Deck) =>
  if v1837 = true then (
  bind1 (ref01_Nat) fun x1873 =>
  bind2 (mk_Term n v1838 a1 x1873 (isub .i64 a3 1)) fun x1875 d1876 =>
  bind2 (mk_Term n d1876 a1 a2 (isub .i64 a3 1)) fun x1878 d1879 =>
  bind1 (ref02_N 8 [x1875, x1878]) fun x1881 =>
  some (x1881, d1879))
  else (
  bind1 (ref02_N 7 []) fun x1885 =>
  some (x1885, v1838))) fun j1839 =>
  if (igt a3 0) = true then (
  bind2 (mk_Deck_Next v547 2) fun x1840 d1841 =>
  j1839 (ieq x1840 0) d1841)
  else (
  j1839 false v547))
  else (
  if (ieq a2.kind 3) = true then (
  bind1 (lget a2.args 0) fun x1923 =>
  bind2 (mk_Term n v547 a1 x1923 (isub .i64 a3 1)) fun x1925 d1926 =>
  bind1 (lget a2.args 1) fun x1928 =>
  bind2 (mk_Term n d1926 a1 x1928 (isub .i64 a3 1)) fun x1930 d1931 =>
  bind1 (ref02_N 10 [x1925, x1930]) fun x1933 =>
  some (x1933, d1931))
  else (
  if (ieq a2.kind 4) = true then (
  bind1 (lget a2.args 0) fun x1968 =>
  bind1 (mk_longer a1 [x1968]) fun x1970 =>
  bind1 (lget a2.args 1) fun x1972 =>
  bind2 (mk_Term n v547 x1970 x1972 (isub .i64 a3 1)) fun x1974 d1975 =>
  bind1 (ref02_T 2 x1968 [x1974]) fun x1977 =>
  some (x1977, d1975))
  else (
  bind1 (ref02_N 13 []) fun x1981 =>
  some (x1981, v547)))))) fun j548 =>
  if (igt a3 0) = true then (
  bind2 (mk_Deck_Next v38 8) fun x552 d553 =>
  if (ieq x552 0) = true then (
  bind2 (mk_Type FU d553 0) fun x558 d559 =>
  bind1 (mk_longer a1 [x558]) fun x597 =>
  bind2 (mk_Term n d559 x597 a2 (isub .i64 a3 1)) fun x599 d600 =>
  bind1 (ref02_T 2 x558 [x599]) fun x602 =>
  bind2 (mk_Term n d600 a1 x558 (isub .i64 a3 1)) fun x604 d605 =>
  bind1 (ref02_N 3 [x602, x604]) fun x607 =>
  some (x607, d605))
  else (
  if (ieq x552 1) = true then (
  bind2 (mk_Type FU d553 0) fun x612 d613 =>
  bind2 (mk_Term n d613 a1 a2 (isub .i64 a3 1)) fun x645 d646 =>
  bind2 (mk_Term n d646 a1 x612 (isub .i64 a3 1)) fun x648 d649 =>
  bind1 (ref02_N 10 [x645, x648]) fun x651 =>
  bind1 (ref02_N 11 [x651]) fun x653 =>
  some (x653, d649))
  else (
  if (ieq x552 2) = true then (
  bind1 (ref01_Nat) fun x694 =>
  bind1 (ref01_Nat) fun x696 =>
  bind1 (mk_longer a1 [x696, a2]) fun x698 =>
  bind2 (mk_Term n d553 x698 a2 (isub .i64 a3 1)) fun x700 d701 =>
  bind1 (ref02_T 2 a2 [x700]) fun x703 =>
  bind1 (ref02_T 2 x694 [x703]) fun x705 =>
  bind2 (mk_Term n d701 a1 a2 (isub .i64 a3 1)) fun x737 d738 =>
  bind2 (mk_Deck_Next d738 3) fun x740 d741 =>
  bind1 (mk_Num x740) fun x743 =>
  bind1 (ref02_T 6 a2 [x737, x705, x743]) fun x745 =>
  some (x745, d741))
  else (
  if (ieq x552 3) = true then (
  bind1 (ref01_Nat) fun x804 =>
  bind1 (ref01_List) fun x806 =>
  bind1 (ref01_Nat) fun x808 =>
  bind1 (ref01_List) fun x810 =>
  bind1 (mk_longer a1 [x808, x810, a2]) fun x812 =>
  bind2 (mk_Term n d553 x812 a2 (isub .i64 a3 1)) fun x814 d815 =>
  bind1 (ref02_T 2 a2 [x814]) fun x817 =>
  bind1 (ref02_T 2 x806 [x817]) fun x819 =>
  bind1 (ref02_T 2 x804 [x819]) fun x821 =>
  bind2 (mk_Term n d815 a1 a2 (isub .i64 a3 1)) fun x853 d854 =>
  bind1 (ref01_List) fun x856 =>
  bind2 (mk_Term n d854 a1 x856 (isub .i64 a3 1)) fun x858 d859 =>
  bind1 (ref02_T 9 a2 [x853, x821, x858]) fun x861 =>
  some (x861, d859))
  else (
  if (ieq x552 4) = true then (
  bind2 (mk_Type FU d553 0) fun x866 d867 =>
  bind2 (mk_Term n d867 a1 x866 (isub .i64 a3 1)) fun x899 d900 =>
  bind2 (mk_Term n d900 a1 a2 (isub .i64 a3 1)) fun x902 d903 =>
  bind1 (ref02_N 10 [x899, x902]) fun x905 =>
  bind1 (ref02_N 12 [x905]) fun x907 =>
  some (x907, d903))
  else (
  if (ieq x552 5) = true then (
  chk (okLen a1) <|
  joinB (fun (j909 : Int) (x911 : Ty) => (fun (_ : Unit) =>
  bind1 (lget a1 (isub .i64 (isub .i64 (llen a1) 1) j909)) fun x1106 =>
  joinB (fun (v1119 : Bool) =>
  if v1119 = true then (
  bind1 (ref02_Var j909) fun x1156 =>
  bind1 (lget x1106.args 0) fun x1158 =>
  bind2 (mk_Term n d553 a1 x1158 (isub .i64 a3 1)) fun x1160 d1161 =>
  bind1 (ref02_N 3 [x1156, x1160]) fun x1163 =>
  some (.ret (x1163, d1161)))
  else (
  some (.next ()))) fun j1120 =>
  if (ieq x1106.kind 4) = true then (
  bind1 (lget x1106.args 1) fun x1125 =>
  bind1 (ref01_Same FU x1125 a2) fun x1127 =>
  j1120 x1127)
  else (
  j1120 false)) : Int → Ty → (Unit) → (Option (Ctl (Unit) (Tm × Smk_Deck)))) fun F1036 =>
  bind1 (forR F1036 a1 0 ()) (sumK (fun (_ : Unit) =>
  j548 d553) (fun r => some r)))
  else (
  j548 d553)))))))
  else (
  j548 v38))) fun j39 =>
  if (igt (llen x3) 0) = true then (
  bind2 (mk_Deck_Next a0 3) fun x40 d41 =>
  j39 (igt x40 0) d41)
  else (
  j39 false a0)

def mk_Pure : Nat → Smk_Deck → (List Ty) → Int → Option (Fm × Smk_Deck)
  | 0, _, _, _ => none
  | n + 1, a0, a1, a2 =>
  joinB (fun (v116 : Smk_Deck) =>
  bind1 (ref01_Nat) fun x232 =>
  bind2 (mk_Term FU v116 a1 x232 1) fun x258 d259 =>
  bind2 (mk_Term FU d259 a1 x232 1) fun x261 d262 =>
  bind1 (ref07_Eq x258 x261) fun x264 =>
  some (x264, d262)) fun j117 =>
  if (igt a2 0) = true then (
  bind2 (mk_Deck_Next a0 7) fun x121 d122 =>
  if (ieq x121 0) = true then (
  bind2 (mk_Pure n d122 a1 (isub .i64 a2 1)) fun x132 d133 =>
  bind2 (mk_Pure n d133 a1 (isub .i64 a2 1)) fun x135 d136 =>
  bind1 (ref07_Two 2 x132 x135) fun x138 =>
  some (x138, d136))
  else (
  if (sel (ieq x121 1) true (ieq x121 2)) = true then (
  bind2 (mk_Pure n d122 a1 (isub .i64 a2 1)) fun x151 d152 =>
  bind2 (mk_Pure n d152 a1 (isub .i64 a2 1)) fun x154 d155 =>
  bind1 (ref07_Two 3 x151 x154) fun x157 =>
  some (x157, d155))
  else (
  if (sel (ieq x121 3) true (ieq x121 4)) = true then (
  bind2 (mk_Type FU d122 0) fun x165 d166 =>
  bind1 (mk_longer a1 [x165]) fun x189 =>
  bind2 (mk_Pure n d166 x189 (isub .i64 a2 1)) fun x191 d192 =>
  bind1 (ref07_Q 4 x165 x191) fun x194 =>
  some (x194, d192))
  else (
  if (ieq x121 5) = true then (
  bind2 (mk_Type FU d122 0) fun x199 d200 =>
  bind1 (mk_longer a1 [x199]) fun x223 =>
  bind2 (mk_Pure n d200 x223 (isub .i64 a2 1)) fun x225 d226 =>
  bind1 (ref07_Q 5 x199 x225) fun x228 =>
  some (x228, d226))
  else (
  j117 d122)))))
  else (
  j117 a0)

def mk_Formula : Nat → Smk_Deck → (List Ty) → Int → Option (Fm × Smk_Deck)
  | 0, _, _, _ => none
  | n + 1, a0, a1, a2 =>
  joinB (fun (v162 : Smk_Deck) =>
  bind1 (ref01_Nat) fun x324 =>
  bind2 (mk_Term FU v162 a1 x324 1) fun x350 d351 =>
  bind2 (mk_Term FU d351 a1 x324 1) fun x353 d354 =>
  bind1 (ref07_Eq x350 x353) fun x356 =>
  some (x356, d354)) fun j163 =>
  if (igt a2 0) = true then (
  bind2 (mk_Deck_Next a0 9) fun x167 d168 =>
  if (ieq x167 0) = true then (
  bind2 (mk_Formula n d168 a1 (isub .i64 a2 1)) fun x178 d179 =>
  bind2 (mk_Formula n d179 a1 (isub .i64 a2 1)) fun x181 d182 =>
  bind1 (ref07_Two 2 x178 x181) fun x184 =>
  some (x184, d182))
  else (
  if (sel (ieq x167 1) true (ieq x167 2)) = true then (
  bind2 (mk_Formula n d168 a1 (isub .i64 a2 1)) fun x197 d198 =>
  bind2 (mk_Formula n d198 a1 (isub .i64 a2 1)) fun x200 d201 =>
  bind1 (ref07_Two 3 x197 x200) fun x203 =>
  some (x203, d201))
  else (
  if (sel (ieq x167 3) true (ieq x167 4)) = true then (
  bind2 (mk_Type FU d168 1) fun x211 d212 =>
  bind1 (mk_longer a1 [x211]) fun x235 =>
  bind2 (mk_Formula n d212 x235 (isub .i64 a2 1)) fun x237 d238 =>
  bind1 (ref07_Q 4 x211 x237) fun x240 =>
  some (x240, d238))
  else (
  if (ieq x167 5) = true then (
  bind2 (mk_Type FU d168 1) fun x245 d246 =>
  bind1 (mk_longer a1 [x245]) fun x269 =>
  bind2 (mk_Formula n d246 x269 (isub .i64 a2 1)) fun x271 d272 =>
  bind1 (ref07_Q 5 x245 x271) fun x274 =>
  some (x274, d272))
  else (
  if (ieq x167 6) = true then (
  bind2 (mk_Type FU d168 0) fun x279 d280 =>
  bind2 (mk_Deck_Next d280 2) fun x312 d313 =>
  bind1 (mk_longer a1 [x279]) fun x315 =>
  bind2 (mk_Formula n d313 x315 (isub .i64 a2 1)) fun x317 d318 =>
  bind1 (ref07_Q (iadd .i64 6 x312) x279 x317) fun x320 =>
  some (x320, d318))
  else (
  j163 d168))))))
  else (
  j163 a0)

def ref01_Zero (a0 : Ty) : Option (Bool) :=
  some (sel (ieq a0.kind 0) (ieq (llen a0.args) 0) false)

def ref02_args (a0 : Int) : Option (Int) :=
  if (sel (ieq a0 1) true (sel (ieq a0 4) true (sel (ieq a0 7) true (ieq a0 13)))) = true then (
  some 0)
  else (
  if (sel (ieq a0 2) true (sel (ieq a0 5) true (sel (ieq a0 11) true (ieq a0 12)))) = true then (
  some 1)
  else (
  if (sel (ieq a0 3) true (sel (ieq a0 8) true (ieq a0 10))) = true then (
  some 2)
  else (
  if (sel (ieq a0 6) true (ieq a0 9)) = true then (
  some 3)
  else (
  some (-1)))))

def ref01_shape : Nat → Ty → Option (Bool)
  | 0, _ => none
  | n + 1, a0 =>
  joinB (fun (v10 : Int) =>
  if (ine (llen a0.args) v10) = true then (
  some false)
  else (
  chk (okLen a0.args) <|
  joinB (fun (j31 : Int) (x33 : Ty) => (fun (_ : Unit) =>
  bind1 (ref01_shape n x33) fun x57 =>
  if x57 = true then (
  some (.next ()))
  else (
  some (.ret false))) : Int → Ty → (Unit) → (Option (Ctl (Unit) (Bool)))) fun F44 =>
  bind1 (forR F44 a0.args 0 ()) (sumK (fun (_ : Unit) =>
  some true) (fun r => some r)))) fun j11 =>
  if (sel (ieq a0.kind 1) true (sel (ieq a0.kind 2) true (ieq a0.kind 5))) = true then (
  j11 0)
  else (
  if (sel (ieq a0.kind 3) true (ieq a0.kind 4)) = true then (
  j11 2)
  else (
  some false))

def ref01_size : Nat → Ty → Option (Int)
  | 0, _ => none
  | n + 1, a0 =>
  chk (okLen a0.args) <|
  joinB (fun (j17 : Int) (x19 : Ty) => (fun (v32 : Int) =>
  bind1 (ref01_size n x19) fun x42 =>
  some (.next (iadd .i64 v32 x42))) : Int → Ty → (Int) → (Option (Ctl (Int) (Int)))) fun F33 =>
  bind1 (forR F33 a0.args 0 1) (sumK (fun (v32 : Int) =>
  some v32) (fun r => some r))

def ref01_Check (a0 : Ty) : Option (Int) :=
  bind1 (ref01_shape FU a0) fun x7 =>
  if x7 = true then (
  bind1 (ref01_size FU a0) fun x15 =>
  if (igt x15 64) = true then (
  some 4)
  else (
  some 0))
  else (
  some 2)

def ref02_Shape : Nat → Tm → Option (Bool)
  | 0, _ => none
  | n + 1, a0 =>
  joinB (fun (v21 : Bool) =>
  if v21 = true then (
  some false)
  else (
  joinB (chk (okLen a0.args) <|
  joinB (fun (j66 : Int) (x68 : Tm) => (fun (_ : Unit) =>
  bind1 (ref02_Shape n x68) fun x92 =>
  if x92 = true then (
  some (.next ()))
  else (
  some (.ret false))) : Int → Tm → (Unit) → (Option (Ctl (Unit) (Bool)))) fun F79 =>
  bind1 (forR F79 a0.args 0 ()) (sumK (fun (_ : Unit) =>
  some true) (fun r => some r))) fun j41 =>
  if (sel (ieq a0.kind 2) true (sel (ieq a0.kind 6) true (ieq a0.kind 9))) = true then (
  bind1 (ref01_Check a0.typeF) fun x47 =>
  if (ine x47 0) = true then (
  some false)
  else (
  j41))
  else (
  bind1 (ref01_Zero a0.typeF) fun x51 =>
  if x51 = true then (
  j41)
  else (
  some false)))) fun j22 =>
  bind1 (ref02_args a0.kind) fun x25 =>
  if (ine (llen a0.args) x25) = true then (
  j22 true)
  else (
  if (ilt a0.index 0) = true then (
  j22 true)
  else (
  if (ine a0.kind 1) = true then (
  j22 (ine a0.index 0))
  else (
  j22 false)))

def ref07_quantifier (a0 : Int) : Option (Bool) :=
  some (sel (ieq a0 4) true (sel (ieq a0 5) true (sel (ieq a0 6) true (ieq a0 7))))

def ref07_Shape : Nat → Fm → Option (Bool)
  | 0, _ => none
  | n + 1, a0 =>
  if (ieq a0.kind 1) = true then (
  joinB (fun (v88 : Bool) =>
  some v88) fun j89 =>
  if (ieq (llen a0.args) 0) = true then (
  bind1 (ref01_Zero a0.typeF) fun x90 =>
  if x90 = true then (
  if (ieq (llen a0.terms) 2) = true then (
  bind1 (lget a0.terms 0) fun x92 =>
  bind1 (ref02_Shape FU x92) fun x94 =>
  if x94 = true then (
  bind1 (lget a0.terms 1) fun x96 =>
  bind1 (ref02_Shape FU x96) fun x98 =>
  j89 x98)
  else (
  j89 false))
  else (
  j89 false))
  else (
  j89 false))
  else (
  j89 false))
  else (
  if (sel (ieq a0.kind 2) true (ieq a0.kind 3)) = true then (
  joinB (fun (v116 : Bool) =>
  some v116) fun j117 =>
  if (ieq (llen a0.terms) 0) = true then (
  bind1 (ref01_Zero a0.typeF) fun x118 =>
  if x118 = true then (
  if (ieq (llen a0.args) 2) = true then (
  bind1 (lget a0.args 0) fun x120 =>
  bind1 (ref07_Shape n x120) fun x122 =>
  if x122 = true then (
  bind1 (lget a0.args 1) fun x124 =>
  bind1 (ref07_Shape n x124) fun x126 =>
  j117 x126)
  else (
  j117 false))
  else (
  j117 false))
  else (
  j117 false))
  else (
  j117 false))
  else (
  bind1 (ref07_quantifier a0.kind) fun x130 =>
  if x130 = true then (
  joinB (fun (v141 : Bool) =>
  some v141) fun j142 =>
  if (ieq (llen a0.terms) 0) = true then (
  bind1 (ref01_Check a0.typeF) fun x143 =>
  if (ieq x143 0) = true then (
  if (ieq (llen a0.args) 1) = true then (
  bind1 (lget a0.args 0) fun x145 =>
  bind1 (ref07_Shape n x145) fun x147 =>
  j142 x147)
  else (
  j142 false))
  else (
  j142 false))
  else (
  j142 false))
  else (
  some false)))

def ref02_Count : Nat → Tm → Option (Int)
  | 0, _ => none
  | n + 1, a0 =>
  chk (okLen a0.args) <|
  joinB (fun (j17 : Int) (x19 : Tm) => (fun (v32 : Int) =>
  bind1 (ref02_Count n x19) fun x42 =>
  some (.next (iadd .i64 v32 x42))) : Int → Tm → (Int) → (Option (Ctl (Int) (Int)))) fun F33 =>
  bind1 (forR F33 a0.args 0 1) (sumK (fun (v32 : Int) =>
  some v32) (fun r => some r))

def ref07_Count : Nat → Fm → Option (Int)
  | 0, _ => none
  | n + 1, a0 =>
  chk (okLen a0.terms) <|
  joinB (fun (j17 : Int) (x19 : Tm) => (fun (v32 : Int) =>
  bind1 (ref02_Count FU x19) fun x42 =>
  some (.next (iadd .i64 v32 x42))) : Int → Tm → (Int) → (Option (Ctl (Int) (Int)))) fun F33 =>
  bind1 (forR F33 a0.terms 0 1) (sumK (fun (v32 : Int) =>
  chk (okLen a0.args) <|
  joinB (fun (j60 : Int) (x62 : Fm) => (fun (v75 : Int) =>
  bind1 (ref07_Count n x62) fun x85 =>
  some (.next (iadd .i64 v75 x85))) : Int → Fm → (Int) → (Option (Ctl (Int) (Int)))) fun F76 =>
  bind1 (forR F76 a0.args 0 v32) (sumK (fun (v75 : Int) =>
  some v75) (fun r => some r))) (fun r => some r))

def ref07_Check (a0 : Fm) : Option (Int) :=
  bind1 (ref07_Shape FU a0) fun x7 =>
  if x7 = true then (
  bind1 (ref07_Count FU a0) fun x15 =>
  if (igt x15 4096) = true then (
  some 4)
  else (
  some 0))
  else (
  some 2)

def ref20_uniform : Nat → Fm → Option (Bool)
  | 0, _ => none
  | n + 1, a0 =>
  if (sel (ieq a0.kind 6) true (ieq a0.kind 7)) = true then (
  some true)
  else (
  chk (okLen a0.args) <|
  joinB (fun (j20 : Int) (x22 : Fm) => (fun (_ : Unit) =>
  bind1 (ref20_uniform n x22) fun x46 =>
  if x46 = true then (
  some (.ret true))
  else (
  some (.next ()))) : Int → Fm → (Unit) → (Option (Ctl (Unit) (Bool)))) fun F33 =>
  bind1 (forR F33 a0.args 0 ()) (sumK (fun (_ : Unit) =>
  some false) (fun r => some r)))

def ref03_Least : Nat → Tm → Int → Option (Bool)
  | 0, _, _ => none
  | n + 1, a0, a1 =>
  if (igt a0.index a1) = true then (
  some false)
  else (
  chk (okLen a0.args) <|
  joinB (fun (j14 : Int) (x16 : Tm) => (fun (_ : Unit) =>
  bind1 (ref03_Least n x16 a1) fun x40 =>
  if x40 = true then (
  some (.next ()))
  else (
  some (.ret false))) : Int → Tm → (Unit) → (Option (Ctl (Unit) (Bool)))) fun F27 =>
  bind1 (forR F27 a0.args 0 ()) (sumK (fun (_ : Unit) =>
  some true) (fun r => some r)))

def ref07_Least : Nat → Fm → Int → Option (Bool)
  | 0, _, _ => none
  | n + 1, a0, a1 =>
  chk (okLen a0.terms) <|
  joinB (fun (j14 : Int) (x16 : Tm) => (fun (_ : Unit) =>
  bind1 (ref03_Least FU x16 a1) fun x40 =>
  if x40 = true then (
  some (.next ()))
  else (
  some (.ret false))) : Int → Tm → (Unit) → (Option (Ctl (Unit) (Bool)))) fun F27 =>
  bind1 (forR F27 a0.terms 0 ()) (sumK (fun (_ : Unit) =>
  chk (okLen a0.args) <|
  joinB (fun (j55 : Int) (x57 : Fm) => (fun (_ : Unit) =>
  bind1 (ref07_Least n x57 a1) fun x81 =>
  if x81 = true then (
  some (.next ()))
  else (
  some (.ret false))) : Int → Fm → (Unit) → (Option (Ctl (Unit) (Bool)))) fun F68 =>
  bind1 (forR F68 a0.args 0 ()) (sumK (fun (_ : Unit) =>
  some true) (fun r => some r))) (fun r => some r))

def ref20_count : Nat → Fm → Int → Option (Int)
  | 0, _, _ => none
  | n + 1, a0, a1 =>
  joinB (fun (v26 : Int) =>
  some (imin v26 4097)) fun j27 =>
  if (ieq a0.kind 1) = true then (
  bind1 (ref07_Count FU a0) fun x28 =>
  j27 (iadd .i64 (iadd .i64 x28 (imul .i64 2 a1)) 2))
  else (
  if (ieq a0.kind 5) = true then (
  bind1 (lget a0.args 0) fun x30 =>
  bind1 (ref20_count n x30 a1) fun x32 =>
  j27 (iadd .i64 (iadd .i64 x32 (imul .i64 2 a1)) 3))
  else (
  chk (okLen a0.args) <|
  joinB (fun (j34 : Int) (x36 : Fm) => (fun (v49 : Int) =>
  bind1 (ref20_count n x36 a1) fun x59 =>
  some (.next (iadd .i64 v49 x59))) : Int → Fm → (Int) → (Option (Ctl (Int) (Int)))) fun F50 =>
  bind1 (forR F50 a0.args 0 1) (sumK (fun (v49 : Int) =>
  j27 v49) (fun r => some r))))

def ref20_checked (a0 : Fm) (a1 : Fm) : Option (Int) :=
  bind1 (ref07_Check a0) fun x7 =>
  if (ine x7 0) = true then (
  some x7)
  else (
  bind1 (ref07_Check a1) fun x15 =>
  if (ine x15 0) = true then (
  some x15)
  else (
  bind1 (ref20_uniform FU a1) fun x23 =>
  if x23 = true then (
  some 10)
  else (
  bind1 (ref07_Least FU a0 536870912) fun x31 =>
  if x31 = true then (
  bind1 (ref07_Count FU a0) fun x61 =>
  bind1 (ref20_count FU a1 x61) fun x63 =>
  if (igt x63 4096) = true then (
  some 4)
  else (
  some 0))
  else (
  some 1))))

def ref20_imp (a0 : Fm) (a1 : Fm) : Option (Fm) :=
  bind1 (ref07_Two 3 a0 a1) fun x3 =>
  some x3

def ref03_below (a0 : Tm) : Option (Int) :=
  if (ieq a0.kind 2) = true then (
  some 1)
  else (
  some 0)

def ref03_Up : Nat → Tm → Int → Int → Option (Tm)
  | 0, _, _, _ => none
  | n + 1, a0, a1, a2 =>
  chk (okLen a0.args) <|
  joinB (fun (j58 : Int) (x60 : Tm) => (fun (v105 : (List Tm)) =>
  bind1 (ref03_below a0) fun x128 =>
  bind1 (ref03_Up n x60 (iadd .i64 a1 x128) a2) fun x130 =>
  chk (okApp v105 [x130]) <|
  some (.next (lapp v105 [x130]))) : Int → Tm → ((List Tm)) → (Option (Ctl ((List Tm)) (Tm)))) fun F106 =>
  bind1 (forR F106 a0.args 0 []) (sumK (fun (v105 : (List Tm)) =>
  some (Tm.mk a0.kind (sel (sel (ieq a0.kind 1) (ige a0.index a1) false) (iadd .i64 a0.index a2) a0.index) a0.typeF v105)) (fun r => some r))

def ref07_below (a0 : Fm) : Option (Int) :=
  bind1 (ref07_quantifier a0.kind) fun x7 =>
  if x7 = true then (
  some 1)
  else (
  some 0)

def ref07_Up : Nat → Fm → Int → Int → Option (Fm)
  | 0, _, _, _ => none
  | n + 1, a0, a1, a2 =>
  chk (okLen a0.terms) <|
  joinB (fun (j33 : Int) (x35 : Tm) => (fun (v64 : (List Tm)) =>
  bind1 (ref03_Up FU x35 a1 a2) fun x81 =>
  chk (okApp v64 [x81]) <|
  some (.next (lapp v64 [x81]))) : Int → Tm → ((List Tm)) → (Option (Ctl ((List Tm)) (Fm)))) fun F65 =>
  bind1 (forR F65 a0.terms 0 []) (sumK (fun (v64 : (List Tm)) =>
  chk (okLen a0.args) <|
  joinB (fun (j132 : Int) (x134 : Fm) => (fun (v179 : (List Fm)) =>
  bind1 (ref07_below a0) fun x202 =>
  bind1 (ref07_Up n x134 (iadd .i64 a1 x202) a2) fun x204 =>
  chk (okApp v179 [x204]) <|
  some (.next (lapp v179 [x204]))) : Int → Fm → ((List Fm)) → (Option (Ctl ((List Fm)) (Fm)))) fun F180 =>
  bind1 (forR F180 a0.args 0 []) (sumK (fun (v179 : (List Fm)) =>
  some (Fm.mk a0.kind a0.typeF v64 v179)) (fun r => some r))) (fun r => some r))

def ref20_up (a0 : Fm) : Option (Fm) :=
  bind1 (ref07_Up FU a0 0 1) fun x3 =>
  some x3

mutual
def ref20_T : Nat → Fm → Fm → Option (Fm)
  | 0, _, _ => none
  | n + 1, a0, a1 =>
  if (ieq a1.kind 1) = true then (
  bind1 (ref20_imp a1 a0) fun x104 =>
  bind1 (ref20_imp x104 a0) fun x106 =>
  some x106)
  else (
  if (sel (ieq a1.kind 2) true (ieq a1.kind 3)) = true then (
  bind1 (lget a1.args 0) fun x141 =>
  bind1 (ref20_T n a0 x141) fun x143 =>
  bind1 (lget a1.args 1) fun x145 =>
  bind1 (ref20_T n a0 x145) fun x147 =>
  bind1 (ref07_Two a1.kind x143 x147) fun x149 =>
  some x149)
  else (
  if (ieq a1.kind 4) = true then (
  bind1 (ref20_up a0) fun x175 =>
  bind1 (lget a1.args 0) fun x177 =>
  bind1 (ref20_T n x175 x177) fun x179 =>
  bind1 (ref07_Q 4 a1.typeF x179) fun x181 =>
  some x181)
  else (
  bind1 (ref20_premise n a0 a1) fun x195 =>
  bind1 (ref20_imp x195 a0) fun x197 =>
  some x197)))
def ref20_premise : Nat → Fm → Fm → Option (Fm)
  | 0, _, _ => none
  | n + 1, a0, a1 =>
  bind1 (ref20_up a0) fun x37 =>
  bind1 (lget a1.args 0) fun x39 =>
  bind1 (ref20_T n x37 x39) fun x41 =>
  bind1 (ref20_up a0) fun x43 =>
  bind1 (ref20_imp x41 x43) fun x45 =>
  bind1 (ref07_Q 4 a1.typeF x45) fun x47 =>
  some x47
end

def ref20_Formula (a0 : Fm) (a1 : Fm) : Option (Fm × Int) :=
  bind1 (ref20_checked a0 a1) fun x7 =>
  if (ine x7 0) = true then (
  some ((Fm.mk 0 (Ty.mk 0 []) [] []), x7))
  else (
  bind1 (ref20_T FU a0 a1) fun x13 =>
  bind1 (ref07_Copy FU x13) fun x15 =>
  some (x15, 0))

def law20_TranslateDoes (a0 : (List Int)) (a1 : Fm) (a2 : Fm) : Option (Bool) :=
  bind1 (law20_sane) fun x7 =>
  if x7 = true then (
  joinB (fun (v35 : Bool) =>
  if v35 = true then (
  some true)
  else (
  bind1 (mk_New a0) fun x45 =>
  bind2 (mk_Context x45) fun x50 d51 =>
  bind2 (mk_Pure FU d51 x50 1) fun x59 d60 =>
  bind2 (mk_Pure FU d60 x50 3) fun x62 d63 =>
  joinB ([a1, x59, a2] : List Fm) fun L314 =>
  chk (okLen L314) <|
  joinB (fun (j315 : Int) (x317 : Fm) => (fun (v562 : Smk_Deck) =>
  bind2 (mk_Formula FU v562 x50 2) fun x639 d640 =>
  joinB ([a2, x62, x639] : List Fm) fun L642 =>
  chk (okLen L642) <|
  joinB (fun (j643 : Int) (x645 : Fm) => (fun (_ : Unit) =>
  bind2 (translate_Formula x317 x645) fun x721 x722 =>
  bind2 (ref20_Formula x317 x645) fun x727 x728 =>
  joinB (fun (v735 : Bool) =>
  if v735 = true then (
  some (.ret false))
  else (
  some (.next ()))) fun j736 =>
  if (ine x722 x728) = true then (
  j736 true)
  else (
  bind1 (ref07_Same FU x721 x727) fun x737 =>
  j736 (bnot x737))) : Int → Fm → (Unit) → (Option (Ctl (Unit) (Bool)))) fun F690 =>
  bind1 (forR F690 L642 0 ()) (sumK (fun (_ : Unit) =>
  some (.next d640)) (fun r => some (.ret r)))) : Int → Fm → (Smk_Deck) → (Option (Ctl (Smk_Deck) (Bool)))) fun F563 =>
  bind1 (forR F563 L314 0 d63) (sumK (fun (v562 : Smk_Deck) =>
  some true) (fun r => some r)))) fun j36 =>
  bind1 (mk_Few a0) fun x37 =>
  if x37 = true then (
  bind1 (law20_forms a1) fun x39 =>
  if (igt x39 400) = true then (
  j36 true)
  else (
  bind1 (law20_forms a2) fun x41 =>
  j36 (igt x41 400)))
  else (
  j36 true))
  else (
  some false)

def ref02_Check (a0 : Tm) : Option (Int) :=
  bind1 (ref02_Shape FU a0) fun x7 =>
  if x7 = true then (
  bind1 (ref02_Count FU a0) fun x15 =>
  if (igt x15 4096) = true then (
  some 4)
  else (
  some 0))
  else (
  some 2)

def ref03_Times : Nat → Tm → Int → Option (Int)
  | 0, _, _ => none
  | n + 1, a0, a1 =>
  chk (okLen a0.args) <|
  joinB (fun (j50 : Int) (x52 : Tm) => (fun (v89 : Int) =>
  bind1 (ref03_below a0) fun x109 =>
  bind1 (ref03_Times n x52 (iadd .i64 a1 x109)) fun x111 =>
  some (.next (iadd .i64 v89 x111))) : Int → Tm → (Int) → (Option (Ctl (Int) (Int)))) fun F90 =>
  bind1 (forR F90 a0.args 0 (sel (sel (ieq a0.kind 1) (ieq a0.index a1) false) (iadd .i64 0 1) 0)) (sumK (fun (v89 : Int) =>
  some v89) (fun r => some r))

def ref07_times : Nat → Fm → Int → Option (Int)
  | 0, _, _ => none
  | n + 1, a0, a1 =>
  chk (okLen a0.terms) <|
  joinB (fun (j17 : Int) (x19 : Tm) => (fun (v32 : Int) =>
  bind1 (ref03_Times FU x19 a1) fun x42 =>
  some (.next (iadd .i64 v32 x42))) : Int → Tm → (Int) → (Option (Ctl (Int) (Int)))) fun F33 =>
  bind1 (forR F33 a0.terms 0 0) (sumK (fun (v32 : Int) =>
  chk (okLen a0.args) <|
  joinB (fun (j84 : Int) (x86 : Fm) => (fun (v123 : Int) =>
  bind1 (ref07_below a0) fun x143 =>
  bind1 (ref07_times n x86 (iadd .i64 a1 x143)) fun x145 =>
  some (.next (iadd .i64 v123 x145))) : Int → Fm → (Int) → (Option (Ctl (Int) (Int)))) fun F124 =>
  bind1 (forR F124 a0.args 0 v32) (sumK (fun (v123 : Int) =>
  some v123) (fun r => some r))) (fun r => some r))

def ref03_In : Nat → Tm → Int → Int → Tm → Option (Tm)
  | 0, _, _, _, _ => none
  | n + 1, a0, a1, a2, a3 =>
  if (ieq a0.kind 1) = true then (
  if (ieq a0.index (iadd .i64 a1 a2)) = true then (
  bind1 (ref03_Up FU a3 0 (iadd .i64 a1 a2)) fun x23 =>
  some x23)
  else (
  if (igt a0.index (iadd .i64 a1 a2)) = true then (
  bind1 (ref02_Var (isub .i64 a0.index 1)) fun x31 =>
  some x31)
  else (
  some a0)))
  else (
  chk (okLen a0.args) <|
  joinB (fun (j81 : Int) (x83 : Tm) => (fun (v128 : (List Tm)) =>
  bind1 (ref03_below a0) fun x151 =>
  bind1 (ref03_In n x83 a1 (iadd .i64 a2 x151) a3) fun x153 =>
  chk (okApp v128 [x153]) <|
  some (.next (lapp v128 [x153]))) : Int → Tm → ((List Tm)) → (Option (Ctl ((List Tm)) (Tm)))) fun F129 =>
  bind1 (forR F129 a0.args 0 []) (sumK (fun (v128 : (List Tm)) =>
  some (Tm.mk a0.kind a0.index a0.typeF v128)) (fun r => some r)))

def ref07_In : Nat → Fm → Int → Int → Tm → Option (Fm)
  | 0, _, _, _, _ => none
  | n + 1, a0, a1, a2, a3 =>
  chk (okLen a0.terms) <|
  joinB (fun (j33 : Int) (x35 : Tm) => (fun (v64 : (List Tm)) =>
  bind1 (ref03_In FU x35 a1 a2 a3) fun x81 =>
  chk (okApp v64 [x81]) <|
  some (.next (lapp v64 [x81]))) : Int → Tm → ((List Tm)) → (Option (Ctl ((List Tm)) (Fm)))) fun F65 =>
  bind1 (forR F65 a0.terms 0 []) (sumK (fun (v64 : (List Tm)) =>
  chk (okLen a0.args) <|
  joinB (fun (j132 : Int) (x134 : Fm) => (fun (v179 : (List Fm)) =>
  bind1 (ref07_below a0) fun x202 =>
  bind1 (ref07_In n x134 a1 (iadd .i64 a2 x202) a3) fun x204 =>
  chk (okApp v179 [x204]) <|
  some (.next (lapp v179 [x204]))) : Int → Fm → ((List Fm)) → (Option (Ctl ((List Fm)) (Fm)))) fun F180 =>
  bind1 (forR F180 a0.args 0 []) (sumK (fun (v179 : (List Fm)) =>
  some (Fm.mk a0.kind a0.typeF v64 v179)) (fun r => some r))) (fun r => some r))

def ref07_Put (a0 : Fm) (a1 : Int) (a2 : Tm) : Option (Fm × Int) :=
  bind1 (ref07_Check a0) fun x7 =>
  if (ine x7 0) = true then (
  some ((Fm.mk 0 (Ty.mk 0 []) [] []), x7))
  else (
  if (sel (ilt a1 0) true (igt a1 4096)) = true then (
  some ((Fm.mk 0 (Ty.mk 0 []) [] []), 1))
  else (
  bind1 (ref02_Check a2) fun x21 =>
  if (ine x21 0) = true then (
  some ((Fm.mk 0 (Ty.mk 0 []) [] []), x21))
  else (
  joinB (fun (v43 : Bool) =>
  if v43 = true then (
  some ((Fm.mk 0 (Ty.mk 0 []) [] []), 1))
  else (
  bind1 (ref07_Count FU a0) fun x91 =>
  bind1 (ref07_times FU a0 a1) fun x93 =>
  bind1 (ref02_Count FU a2) fun x95 =>
  if (igt (iadd .i64 x91 (imul .i64 x93 (isub .i64 x95 1))) 4096) = true then (
  some ((Fm.mk 0 (Ty.mk 0 []) [] []), 4))
  else (
  bind1 (ref07_In FU a0 a1 0 a2) fun x101 =>
  bind1 (ref07_Copy FU x101) fun x103 =>
  some (x103, 0)))) fun j44 =>
  bind1 (ref07_Least FU a0 536870912) fun x45 =>
  if x45 = true then (
  bind1 (ref03_Least FU a2 536870912) fun x47 =>
  j44 (bnot x47))
  else (
  j44 true))))

def ref03_Mark : Nat → Tm → Int → (List (Int × Bool)) → Option ((List (Int × Bool)))
  | 0, _, _, _ => none
  | n + 1, a0, a1, a2 =>
  joinB (fun (v7 : (List (Int × Bool))) =>
  chk (okLen a0.args) <|
  joinB (fun (j12 : Int) (x14 : Tm) => (fun (v51 : (List (Int × Bool))) =>
  bind1 (ref03_below a0) fun x71 =>
  bind1 (ref03_Mark n x14 (iadd .i64 a1 x71) v51) fun d73 =>
  some (.next d73)) : Int → Tm → ((List (Int × Bool))) → (Option (Ctl ((List (Int × Bool))) ((List (Int × Bool)))))) fun F52 =>
  bind1 (forR F52 a0.args 0 v7) (sumK (fun (v51 : (List (Int × Bool))) =>
  some v51) (fun r => some r))) fun j8 =>
  if (sel (ieq a0.kind 1) (ige a0.index a1) false) = true then (
  j8 (mput a2 (isub .i64 a0.index a1) true))
  else (
  j8 a2)

def ref07_Mark : Nat → Fm → Int → (List (Int × Bool)) → Option ((List (Int × Bool)))
  | 0, _, _, _ => none
  | n + 1, a0, a1, a2 =>
  chk (okLen a0.terms) <|
  joinB (fun (j17 : Int) (x19 : Tm) => (fun (v32 : (List (Int × Bool))) =>
  bind1 (ref03_Mark FU x19 a1 v32) fun d42 =>
  some (.next d42)) : Int → Tm → ((List (Int × Bool))) → (Option (Ctl ((List (Int × Bool))) ((List (Int × Bool)))))) fun F33 =>
  bind1 (forR F33 a0.terms 0 a2) (sumK (fun (v32 : (List (Int × Bool))) =>
  chk (okLen a0.args) <|
  joinB (fun (j44 : Int) (x46 : Fm) => (fun (v83 : (List (Int × Bool))) =>
  bind1 (ref07_below a0) fun x103 =>
  bind1 (ref07_Mark n x46 (iadd .i64 a1 x103) v83) fun d105 =>
  some (.next d105)) : Int → Fm → ((List (Int × Bool))) → (Option (Ctl ((List (Int × Bool))) ((List (Int × Bool)))))) fun F84 =>
  bind1 (forR F84 a0.args 0 v32) (sumK (fun (v83 : (List (Int × Bool))) =>
  some v83) (fun r => some r))) (fun r => some r))

def ref03_Sorted (a0 : List (Int × Bool)) : Option (List Int × List (Int × Bool)) :=
  chk (okLen a0) <| chk (distinctB (a0.map (·.1))) <| some (sortS [] (a0.map (·.1)), a0)

def ref07_Uses (a0 : Fm) : Option ((List Int) × Int) :=
  bind1 (ref07_Check a0) fun x7 =>
  if (ine x7 0) = true then (
  some ([], x7))
  else (
  bind1 (ref07_Mark FU a0 0 []) fun d11 =>
  bind2 (ref03_Sorted d11) fun x16 d17 =>
  some (x16, 0))

def ref01_Context (a0 : (List Ty)) : Option (Int) :=
  if (igt (llen a0) 16) = true then (
  some 3)
  else (
  chk (okLen a0) <|
  joinB (fun (j14 : Int) (x16 : Ty) => (fun (_ : Unit) =>
  bind1 (ref01_Check x16) fun x40 =>
  if (ine x40 0) = true then (
  some (.ret x40))
  else (
  some (.next ()))) : Int → Ty → (Unit) → (Option (Ctl (Unit) (Int)))) fun F27 =>
  bind1 (forR F27 a0 0 ()) (sumK (fun (_ : Unit) =>
  some 0) (fun r => some r)))

def ref02_ok (a0 : Ty) : Option (Ty × Int) :=
  bind1 (ref01_Check a0) fun x7 =>
  if (ine x7 0) = true then (
  some ((Ty.mk 0 []), 4))
  else (
  some (a0, 0))

def ref02_infer : Nat → (List Ty) → Tm → Option (Ty × Int)
  | 0, _, _ => none
  | n + 1, a0, a1 =>
  if (ieq a1.kind 1) = true then (
  if (ige a1.index (llen a0)) = true then (
  some ((Ty.mk 0 []), 6))
  else (
  bind1 (lget a0 (isub .i64 (isub .i64 (llen a0) 1) a1.index)) fun x13 =>
  bind1 (ref01_Copy FU x13) fun x15 =>
  some (x15, 0)))
  else (
  if (ieq a1.kind 2) = true then (
  chk (okApp a0 [a1.typeF]) <|
  bind1 (lget a1.args 0) fun x70 =>
  bind2 (ref02_infer n (lapp a0 [a1.typeF]) x70) fun x72 x73 =>
  if (ine x73 0) = true then (
  some ((Ty.mk 0 []), x73))
  else (
  bind1 (ref01_Fun a1.typeF x72) fun x80 =>
  bind2 (ref02_ok x80) fun x82 x83 =>
  some (x82, x83)))
  else (
  chk (okLen a1.args) <|
  joinB (fun (j121 : Int) (x123 : Tm) => (fun (v156 : (List Ty)) =>
  bind2 (ref02_infer n a0 x123) fun x174 x175 =>
  if (ine x175 0) = true then (
  some (.ret ((Ty.mk 0 []), x175)))
  else (
  chk (okApp v156 [x174]) <|
  some (.next (lapp v156 [x174])))) : Int → Tm → ((List Ty)) → (Option (Ctl ((List Ty)) (Ty × Int)))) fun F157 =>
  bind1 (forR F157 a1.args 0 []) (sumK (fun (v156 : (List Ty)) =>
  bind1 (ref01_Nat) fun x182 =>
  bind1 (ref01_List) fun x184 =>
  if (ieq a1.kind 3) = true then (
  joinB (fun (v789 : Bool) =>
  if v789 = true then (
  some ((Ty.mk 0 []), 7))
  else (
  bind1 (lget v156 0) fun x811 =>
  bind1 (lget x811.args 1) fun x813 =>
  some (x813, 0))) fun j790 =>
  bind1 (lget v156 0) fun x799 =>
  if (ine x799.kind 4) = true then (
  j790 true)
  else (
  bind1 (lget x799.args 0) fun x801 =>
  bind1 (lget v156 1) fun x803 =>
  bind1 (ref01_Same FU x801 x803) fun x805 =>
  j790 (bnot x805)))
  else (
  if (ieq a1.kind 4) = true then (
  some (x182, 0))
  else (
  if (ieq a1.kind 5) = true then (
  bind1 (lget v156 0) fun x843 =>
  bind1 (ref01_Same FU x843 x182) fun x845 =>
  if x845 = true then (
  some (x182, 0))
  else (
  some ((Ty.mk 0 []), 7)))
  else (
  if (ieq a1.kind 6) = true then (
  joinB (fun (v951 : Bool) =>
  if v951 = true then (
  some ((Ty.mk 0 []), 7))
  else (
  bind1 (ref01_Copy FU a1.typeF) fun x987 =>
  some (x987, 0))) fun j952 =>
  bind1 (lget v156 0) fun x969 =>
  bind1 (ref01_Same FU x969 a1.typeF) fun x971 =>
  if x971 = true then (
  bind1 (lget v156 1) fun x973 =>
  bind1 (ref01_Fun a1.typeF a1.typeF) fun x975 =>
  bind1 (ref01_Fun x182 x975) fun x977 =>
  bind1 (ref01_Same FU x973 x977) fun x979 =>
  if x979 = true then (
  bind1 (lget v156 2) fun x981 =>
  bind1 (ref01_Same FU x981 x182) fun x983 =>
  j952 (bnot x983))
  else (
  j952 true))
  else (
  j952 true))
  else (
  if (ieq a1.kind 7) = true then (
  some (x184, 0))
  else (
  if (ieq a1.kind 8) = true then (
  joinB (fun (v1045 : Bool) =>
  if v1045 = true then (
  some ((Ty.mk 0 []), 7))
  else (
  some (x184, 0))) fun j1046 =>
  bind1 (lget v156 0) fun x1055 =>
  bind1 (ref01_Same FU x1055 x182) fun x1057 =>
  if x1057 = true then (
  bind1 (lget v156 1) fun x1059 =>
  bind1 (ref01_Same FU x1059 x184) fun x1061 =>
  j1046 (bnot x1061))
  else (
  j1046 true))
  else (
  if (ieq a1.kind 9) = true then (
  joinB (fun (v1179 : Bool) =>
  if v1179 = true then (
  some ((Ty.mk 0 []), 7))
  else (
  bind1 (ref01_Copy FU a1.typeF) fun x1219 =>
  some (x1219, 0))) fun j1180 =>
  bind1 (lget v156 0) fun x1199 =>
  bind1 (ref01_Same FU x1199 a1.typeF) fun x1201 =>
  if x1201 = true then (
  bind1 (lget v156 1) fun x1203 =>
  bind1 (ref01_Fun a1.typeF a1.typeF) fun x1205 =>
  bind1 (ref01_Fun x184 x1205) fun x1207 =>
  bind1 (ref01_Fun x182 x1207) fun x1209 =>
  bind1 (ref01_Same FU x1203 x1209) fun x1211 =>
  if x1211 = true then (
  bind1 (lget v156 2) fun x1213 =>
  bind1 (ref01_Same FU x1213 x184) fun x1215 =>
  j1180 (bnot x1215))
  else (
  j1180 true))
  else (
  j1180 true))
  else (
  if (ieq a1.kind 10) = true then (
  bind1 (lget v156 0) fun x1248 =>
  bind1 (lget v156 1) fun x1250 =>
  bind1 (ref01_Two x1248 x1250) fun x1252 =>
  bind2 (ref02_ok x1252) fun x1254 x1255 =>
  some (x1254, x1255))
  else (
  if (sel (ieq a1.kind 11) true (ieq a1.kind 12)) = true then (
  bind1 (lget v156 0) fun x1266 =>
  if (ine x1266.kind 3) = true then (
  some ((Ty.mk 0 []), 7))
  else (
  if (ieq a1.kind 11) = true then (
  bind1 (lget x1266.args 0) fun x1274 =>
  some (x1274, 0))
  else (
  bind1 (lget x1266.args 1) fun x1278 =>
  some (x1278, 0))))
  else (
  bind1 (ref01_Unit) fun x1282 =>
  some (x1282, 0))))))))))) (fun r => some r))))

def ref02_Typed (a0 : (List Ty)) (a1 : Tm) : Option (Ty × Int) :=
  bind1 (ref02_Check a1) fun x7 =>
  if (ine x7 0) = true then (
  some ((Ty.mk 0 []), x7))
  else (
  bind2 (ref02_infer FU a0 a1) fun x12 x13 =>
  some (x12, x13))

def ref07_typed : Nat → (List Ty) → Fm → Option (Int)
  | 0, _, _ => none
  | n + 1, a0, a1 =>
  chk (okLen a1.terms) <|
  joinB (fun (j18 : Int) (x20 : Tm) => (fun (_ : Unit) =>
  bind2 (ref02_Typed a0 x20) fun x51 x52 =>
  if (ine x52 0) = true then (
  some (.ret x52))
  else (
  if (ine x51.kind 1) = true then (
  some (.ret 7))
  else (
  some (.next ())))) : Int → Tm → (Unit) → (Option (Ctl (Unit) (Int)))) fun F35 =>
  bind1 (forR F35 a1.terms 0 ()) (sumK (fun (_ : Unit) =>
  joinB (fun (v63 : (List Ty)) =>
  chk (okLen a1.args) <|
  joinB (fun (j84 : Int) (x86 : Fm) => (fun (_ : Unit) =>
  bind1 (ref07_typed n v63 x86) fun x110 =>
  if (ine x110 0) = true then (
  some (.ret x110))
  else (
  some (.next ()))) : Int → Fm → (Unit) → (Option (Ctl (Unit) (Int)))) fun F97 =>
  bind1 (forR F97 a1.args 0 ()) (sumK (fun (_ : Unit) =>
  some 0) (fun r => some r))) fun j64 =>
  bind1 (ref07_quantifier a1.kind) fun x67 =>
  if x67 = true then (
  chk (okApp a0 [a1.typeF]) <|
  j64 (lapp a0 [a1.typeF]))
  else (
  j64 a0)) (fun r => some r))

def ref07_Below (a0 : (List Ty)) (a1 : Fm) : Option (Int) :=
  bind1 (ref07_Check a1) fun x7 =>
  if (ine x7 0) = true then (
  some x7)
  else (
  bind1 (ref07_typed FU a0 a1) fun x11 =>
  some x11)

def ref07_Typed (a0 : (List Ty)) (a1 : Fm) : Option (Int) :=
  bind1 (ref01_Context a0) fun x7 =>
  if (ine x7 0) = true then (
  some x7)
  else (
  bind1 (ref07_Below a0 a1) fun x11 =>
  some x11)

def law20_TranslatePuts (a0 : (List Int)) : Option (Bool) :=
  bind1 (law20_sane) fun x7 =>
  if x7 = true then (
  bind1 (mk_Few a0) fun x15 =>
  if x15 = true then (
  bind1 (mk_New a0) fun x19 =>
  bind2 (mk_Context x19) fun x24 d25 =>
  bind2 (mk_Type FU d25 1) fun x30 d31 =>
  bind2 (mk_Pure FU d31 [] 1) fun x36 d37 =>
  chk (okApp [] x24) <|
  chk (okApp (lapp [] x24) [x30]) <|
  bind2 (mk_Pure FU d37 (lapp (lapp [] x24) [x30]) 2) fun x56 d57 =>
  bind2 (mk_Term FU d57 x24 x30 2) fun x62 d63 =>
  bind2 (ref07_Put x56 0 x62) fun x68 x69 =>
  bind2 (translate_Formula x36 x56) fun x74 x75 =>
  if (sel (ine x69 0) true (ine x75 0)) = true then (
  some (sel (ieq x69 0) (sel (ieq x75 0) true (ieq x75 4)) (sel (ieq x69 4) (sel (ieq x75 0) true (ieq x75 4)) false)))
  else (
  bind2 (translate_Formula x36 x68) fun x92 x93 =>
  bind2 (ref07_Put x74 0 x62) fun x98 x99 =>
  if (sel (ine x93 0) true (ine x99 0)) = true then (
  some (sel (ieq x93 0) (sel (ieq x99 0) true (ieq x99 4)) (sel (ieq x93 4) (sel (ieq x99 0) true (ieq x99 4)) false)))
  else (
  bind2 (ref07_Uses x56) fun x116 x117 =>
  bind2 (ref07_Uses x74) fun x122 x123 =>
  joinB (fun (v139 : Bool) =>
  if v139 = true then (
  some false)
  else (
  chk (okLen x116) <|
  joinB (fun (j164 : Int) (x166 : Int) => (fun (_ : Unit) =>
  bind1 (lget x122 j164) fun x206 =>
  if (ine x166 x206) = true then (
  some (.ret false))
  else (
  some (.next ()))) : Int → Int → (Unit) → (Option (Ctl (Unit) (Bool)))) fun F185 =>
  bind1 (forR F185 x116 0 ()) (sumK (fun (_ : Unit) =>
  joinB (fun (v223 : Bool) =>
  some v223) fun j224 =>
  chk (okApp [] x24) <|
  chk (okApp (lapp [] x24) [x30]) <|
  bind1 (ref07_Typed (lapp (lapp [] x24) [x30]) x74) fun x233 =>
  if (ieq x233 0) = true then (
  bind1 (ref02_Check x62) fun x235 =>
  j224 (ieq x235 0))
  else (
  j224 false)) (fun r => some r)))) fun j140 =>
  if (ine x117 0) = true then (
  j140 true)
  else (
  if (ine x123 0) = true then (
  j140 true)
  else (
  if (ine (llen x116) (llen x122)) = true then (
  j140 true)
  else (
  bind1 (ref07_Same FU x92 x98) fun x141 =>
  j140 (bnot x141)))))))
  else (
  some true))
  else (
  some false)

end Go.Mdl
