/- Models of the functions: what they compute, in plain Lean. -/
import Derived.Test.YtdihelfnjememaaDoorCT
set_option maxRecDepth 20000
set_option linter.unusedSimpArgs false
set_option linter.unusedVariables false
namespace Go.Mdl
open Go

def ref01_Copy : Nat → Ty → Option (Ty)
  | 0, _ => none
  | n + 1, a0 =>
  chk (okLen a0.args) <|
  joinB (fun (j95 : Int) (x97 : Ty) => (fun (v178 : (List Ty)) =>
  bind1 (ref01_Copy n x97) fun x233 =>
  chk (okApp v178 [x233]) <|
  some (.next (lapp v178 [x233]))) : Int → Ty → ((List Ty)) → (Option (Ctl ((List Ty)) (Ty)))) fun F179 =>
  bind1 (forR F179 a0.args 0 []) (sumK (fun (v178 : (List Ty)) =>
  some (Ty.mk a0.kind v178)) (fun r => some r))

def ref02_Copy : Nat → Tm → Option (Tm)
  | 0, _ => none
  | n + 1, a0 =>
  chk (okLen a0.args) <|
  joinB (fun (j95 : Int) (x97 : Tm) => (fun (v178 : (List Tm)) =>
  bind1 (ref02_Copy n x97) fun x233 =>
  chk (okApp v178 [x233]) <|
  some (.next (lapp v178 [x233]))) : Int → Tm → ((List Tm)) → (Option (Ctl ((List Tm)) (Tm)))) fun F179 =>
  bind1 (forR F179 a0.args 0 []) (sumK (fun (v178 : (List Tm)) =>
  bind1 (ref01_Copy FU a0.typeF) fun x255 =>
  some (Tm.mk a0.kind a0.index x255 v178)) (fun r => some r))

def ref02_N (a0 : Int) (a1 : (List Tm)) : Option (Tm) :=
  chk (okLen a1) <|
  joinB (fun (j95 : Int) (x97 : Tm) => (fun (v178 : (List Tm)) =>
  bind1 (ref02_Copy FU x97) fun x233 =>
  chk (okApp v178 [x233]) <|
  some (.next (lapp v178 [x233]))) : Int → Tm → ((List Tm)) → (Option (Ctl ((List Tm)) (Tm)))) fun F179 =>
  bind1 (forR F179 a1 0 []) (sumK (fun (v178 : (List Tm)) =>
  some (Tm.mk a0 0 (Ty.mk 0 []) v178)) (fun r => some r))

def ref07_Eq (a0 : Tm) (a1 : Tm) : Option (Fm) :=
  bind1 (ref02_Copy FU a0) fun x11 =>
  bind1 (ref02_Copy FU a1) fun x14 =>
  some (Fm.mk 1 (Ty.mk 0 []) [x11, x14] [])

def ref07_False  : Option (Fm) :=
  bind1 (ref02_N 4 []) fun x17 =>
  bind1 (ref02_N 4 []) fun x20 =>
  bind1 (ref02_N 5 [x20]) fun x23 =>
  bind1 (ref07_Eq x17 x23) fun x26 =>
  some x26

def tree_typeNodes : Nat → Ty → Option (Int × Bool)
  | 0, _ => none
  | n + 1, a0 =>
  joinB (fun (v91 : Int) =>
  if (ine (llen a0.args) v91) = true then (
  some (0, false))
  else (
  chk (okLen a0.args) <|
  joinB (fun (j411 : Int) (x413 : Ty) => (fun (v610 : Int) =>
  bind2 (tree_typeNodes n x413) fun x700 x701 =>
  if x701 = true then (
  some (.next (iadd .i64 v610 x700)))
  else (
  some (.ret (0, false)))) : Int → Ty → (Int) → (Option (Ctl (Int) (Int × Bool)))) fun F611 =>
  bind1 (forR F611 a0.args 0 1) (sumK (fun (v610 : Int) =>
  some (v610, true)) (fun r => some r)))) fun j92 =>
  if (sel (ieq a0.kind 1) true (sel (ieq a0.kind 2) true (ieq a0.kind 5))) = true then (
  j92 0)
  else (
  if (sel (ieq a0.kind 3) true (ieq a0.kind 4)) = true then (
  j92 2)
  else (
  some (0, false)))

def tree_CheckType (a0 : Ty) : Option (Int × Int) :=
  bind2 (tree_typeNodes FU a0) fun x9 x10 =>
  if x10 = true then (
  if (igt x9 64) = true then (
  some (0, 4))
  else (
  some (x9, 0)))
  else (
  some (0, 2))

def tree_NoType (a0 : Ty) : Option (Bool) :=
  some (sel (ieq a0.kind 0) (ieq (llen a0.args) 0) false)

def tree_formed (a0 : Fm) : Option (Bool) :=
  joinB (fun (v118 : Int) (v119 : Int) (v120 : Bool) =>
  joinB (some (sel (ieq (llen a0.terms) v118) (ieq (llen a0.args) v119) false)) fun j285 =>
  if v120 = true then (
  bind2 (tree_CheckType a0.typeF) fun x304 x305 =>
  if (ine x305 0) = true then (
  some false)
  else (
  j285))
  else (
  bind1 (tree_NoType a0.typeF) fun x324 =>
  if x324 = true then (
  j285)
  else (
  some false))) fun j121 =>
  if (ieq a0.kind 1) = true then (
  j121 2 0 false)
  else (
  if (sel (ieq a0.kind 2) true (ieq a0.kind 3)) = true then (
  j121 0 2 false)
  else (
  if (sel (ieq a0.kind 4) true (sel (ieq a0.kind 5) true (sel (ieq a0.kind 6) true (ieq a0.kind 7)))) = true then (
  j121 0 1 true)
  else (
  some false)))

def tree_Arity (a0 : Int) : Option (Int × Bool) :=
  if (sel (ilt a0 1) true (ige a0 14)) = true then (
  some (0, false))
  else (
  bind1 (lget tree_arities a0) fun x46 =>
  some (x46, true))

def tree_Typed (a0 : Int) : Option (Bool) :=
  some (sel (ieq a0 2) true (sel (ieq a0 6) true (ieq a0 9)))

def tree_termNodes : Nat → Tm → Option (Int × Bool)
  | 0, _ => none
  | n + 1, a0 =>
  bind2 (tree_Arity a0.kind) fun x9 x10 =>
  if (sel x10 (sel (ine (llen a0.args) x9) true (sel (ilt a0.index 0) true (sel (ine a0.index 0) (ine a0.kind 1) false))) true) = true then (
  some (0, false))
  else (
  joinB (chk (okLen a0.args) <|
  joinB (fun (j408 : Int) (x410 : Tm) => (fun (v607 : Int) =>
  bind2 (tree_termNodes n x410) fun x697 x698 =>
  if x698 = true then (
  some (.next (iadd .i64 v607 x697)))
  else (
  some (.ret (0, false)))) : Int → Tm → (Int) → (Option (Ctl (Int) (Int × Bool)))) fun F608 =>
  bind1 (forR F608 a0.args 0 1) (sumK (fun (v607 : Int) =>
  some (v607, true)) (fun r => some r))) fun j143 =>
  bind1 (tree_Typed a0.kind) fun x152 =>
  if x152 = true then (
  bind2 (tree_CheckType a0.typeF) fun x168 x169 =>
  if (ine x169 0) = true then (
  some (0, false))
  else (
  j143))
  else (
  bind1 (tree_NoType a0.typeF) fun x188 =>
  if x188 = true then (
  j143)
  else (
  some (0, false))))

def tree_formulaNodes : Nat → Fm → Option (Int × Bool)
  | 0, _ => none
  | n + 1, a0 =>
  bind1 (tree_formed a0) fun x27 =>
  if x27 = true then (
  chk (okLen a0.terms) <|
  joinB (fun (j245 : Int) (x247 : Tm) => (fun (v444 : Int) =>
  bind2 (tree_termNodes FU x247) fun x534 x535 =>
  if x535 = true then (
  some (.next (iadd .i64 v444 x534)))
  else (
  some (.ret (0, false)))) : Int → Tm → (Int) → (Option (Ctl (Int) (Int × Bool)))) fun F445 =>
  bind1 (forR F445 a0.terms 0 1) (sumK (fun (v444 : Int) =>
  chk (okLen a0.args) <|
  joinB (fun (j780 : Int) (x782 : Fm) => (fun (v979 : Int) =>
  bind2 (tree_formulaNodes n x782) fun x1069 x1070 =>
  if x1070 = true then (
  some (.next (iadd .i64 v979 x1069)))
  else (
  some (.ret (0, false)))) : Int → Fm → (Int) → (Option (Ctl (Int) (Int × Bool)))) fun F980 =>
  bind1 (forR F980 a0.args 0 v444) (sumK (fun (v979 : Int) =>
  some (v979, true)) (fun r => some r))) (fun r => some r)))
  else (
  some (0, false))

def tree_CheckFormula (a0 : Fm) : Option (Int × Int) :=
  bind2 (tree_formulaNodes FU a0) fun x9 x10 =>
  if x10 = true then (
  if (igt x9 4096) = true then (
  some (0, 4))
  else (
  some (x9, 0)))
  else (
  some (0, 2))

def formula_Check (a0 : Fm) : Option (Int) :=
  bind2 (tree_CheckFormula a0) fun x9 x10 =>
  some x10

def types_Check (a0 : Ty) : Option (Int) :=
  bind2 (tree_CheckType a0) fun x9 x10 =>
  some x10

def content_join (a0 : Int) (a1 : Ty) (a2 : Ty) : Option (Ty × Bool × Int) :=
  bind1 (types_Check (Ty.mk a0 [a1, a2])) fun x39 =>
  if (ine x39 0) = true then (
  some ((Ty.mk 0 []), false, x39))
  else (
  some ((Ty.mk a0 [a1, a2]), true, 0))

def content_of : Nat → Fm → Option (Ty × Bool × Int)
  | 0, _ => none
  | n + 1, a0 =>
  if (ieq a0.kind 1) = true then (
  some ((Ty.mk 0 []), false, 0))
  else (
  bind1 (lget a0.args (isub .i64 (llen a0.args) 1)) fun x37 =>
  bind3 (content_of n x37) fun x40 x41 x42 =>
  if (ine x42 0) = true then (
  some ((Ty.mk 0 []), false, x42))
  else (
  if (ieq a0.kind 2) = true then (
  bind1 (lget a0.args 0) fun x250 =>
  bind3 (content_of n x250) fun x253 x254 x255 =>
  if (sel (ine x255 0) true (bnot x254)) = true then (
  some (x40, x41, x255))
  else (
  if x41 = true then (
  bind3 (content_join 3 x253 x40) fun x325 x326 x327 =>
  some (x325, x326, x327))
  else (
  some (x253, true, 0))))
  else (
  if (ieq a0.kind 5) = true then (
  if x41 = true then (
  bind3 (content_join 3 a0.typeF x40) fun x370 x371 x372 =>
  some (x370, x371, x372))
  else (
  some (a0.typeF, true, 0)))
  else (
  if x41 = true then (
  if (ieq a0.kind 3) = true then (
  bind1 (lget a0.args 0) fun x532 =>
  bind3 (content_of n x532) fun x535 x536 x537 =>
  if (sel (ine x537 0) true (bnot x536)) = true then (
  some (x40, true, x537))
  else (
  bind3 (content_join 4 x535 x40) fun x585 x586 x587 =>
  some (x585, x586, x587)))
  else (
  if (ieq a0.kind 4) = true then (
  bind3 (content_join 4 a0.typeF x40) fun x606 x607 x608 =>
  some (x606, x607, x608))
  else (
  some (x40, true, 0))))
  else (
  some ((Ty.mk 0 []), false, 0))))))

def content_Type (a0 : Fm) : Option (Ty × Int) :=
  bind1 (formula_Check a0) fun x29 =>
  if (ine x29 0) = true then (
  some ((Ty.mk 0 []), x29))
  else (
  bind3 (content_of FU a0) fun x50 x51 x52 =>
  if (ine x52 0) = true then (
  some ((Ty.mk 0 []), x52))
  else (
  some ((Ty.mk (sel x51 x50.kind 5) (sel x51 x50.args [])), 0)))

def types_Context (a0 : (List Ty)) : Option (Int) :=
  if (igt (llen a0) 16) = true then (
  some 3)
  else (
  chk (okLen a0) <|
  joinB (fun (j104 : Int) (x106 : Ty) => (fun (_ : Unit) =>
  bind1 (types_Check x106) fun x248 =>
  if (ine x248 0) = true then (
  some (.ret x248))
  else (
  some (.next ()))) : Int → Ty → (Unit) → (Option (Ctl (Unit) (Int)))) fun F175 =>
  bind1 (forR F175 a0 0 ()) (sumK (fun (_ : Unit) =>
  some 0) (fun r => some r)))

def content_look (a0 : Sq) : Option ((List Ty) × (List Int) × Int) :=
  bind1 (types_Context a0.types) fun x29 =>
  if (ine x29 0) = true then (
  some ([], [], x29))
  else (
  if (igt (llen a0.hyps) 16) = true then (
  some ([], [], 3))
  else (
  chk (okApp [] a0.types) <|
  chk (okLen a0.hyps) <|
  joinB (fun (j507 : Int) (x509 : Fm) => (un2 fun (v933 : (List Ty)) (v934 : (List Int)) =>
  joinB (fun (v1065 : (List Ty)) (v1066 : (List Int)) =>
  some (.next (v1065, v1066))) fun j1067 =>
  bind1 (formula_Check x509) fun x1104 =>
  if (ine x1104 0) = true then (
  some (.ret ([], [], x1104)))
  else (
  bind3 (content_of FU x509) fun x1125 x1126 x1127 =>
  if (ine x1127 0) = true then (
  some (.ret ([], [], x1127)))
  else (
  if x1126 = true then (
  chk (okApp v934 [(llen v933)]) <|
  chk (okApp v933 [x1125]) <|
  j1067 (lapp v933 [x1125]) (lapp v934 [(llen v933)]))
  else (
  chk (okApp v934 [(-1)]) <|
  j1067 v933 (lapp v934 [(-1)]))))) : Int → Fm → ((List Ty) × (List Int)) → (Option (Ctl ((List Ty) × (List Int)) ((List Ty) × (List Int) × Int)))) fun F935 =>
  bind1 (forR F935 a0.hyps 0 ((lapp [] a0.types), [])) (sumK (un2 fun (v933 : (List Ty)) (v934 : (List Int)) =>
  some (v933, v934, 0)) (fun r => some r))))

def content_Context (a0 : Sq) : Option ((List Ty) × Int) :=
  bind3 (content_look a0) fun x10 x11 x12 =>
  some (x10, x12)

def content_Places (a0 : Sq) : Option ((List Int) × Int) :=
  bind3 (content_look a0) fun x10 x11 x12 =>
  some (x11, x12)

def ref23_Fun (a0 : Ty) (a1 : Ty) : Option (Ty) :=
  some (Ty.mk 4 [a0, a1])

def ref01_Same : Nat → Ty → Ty → Option (Bool)
  | 0, _, _ => none
  | n + 1, a0, a1 =>
  if (sel (ine a0.kind a1.kind) true (ine (llen a0.args) (llen a1.args))) = true then (
  some false)
  else (
  chk (okLen a0.args) <|
  joinB (fun (j126 : Int) (x128 : Ty) => (fun (_ : Unit) =>
  bind1 (lget a1.args j126) fun x285 =>
  bind1 (ref01_Same n x128 x285) fun x288 =>
  if x288 = true then (
  some (.next ()))
  else (
  some (.ret false))) : Int → Ty → (Unit) → (Option (Ctl (Unit) (Bool)))) fun F205 =>
  bind1 (forR F205 a0.args 0 ()) (sumK (fun (_ : Unit) =>
  some true) (fun r => some r)))

def law23_awake  : Option (Bool) :=
  bind1 (ref07_False) fun x11 =>
  bind2 (content_Type (Fm.mk 4 (Ty.mk 1 []) [] [(Fm.mk 5 (Ty.mk 1 []) [] [x11])])) fun x25 x26 =>
  bind1 (ref07_False) fun x41 =>
  bind2 (content_Context (Sq.mk [(Ty.mk 1 [])] [x41, (Fm.mk 4 (Ty.mk 1 []) [] [(Fm.mk 5 (Ty.mk 1 []) [] [x11])])])) fun x47 x48 =>
  bind1 (ref07_False) fun x63 =>
  bind2 (content_Places (Sq.mk [(Ty.mk 1 [])] [x63, (Fm.mk 4 (Ty.mk 1 []) [] [(Fm.mk 5 (Ty.mk 1 []) [] [x11])])])) fun x69 x70 =>
  joinB (fun (v109 : Bool) =>
  some v109) fun j110 =>
  if (ieq x26 0) = true then (
  if (ieq x48 0) = true then (
  if (ieq x70 0) = true then (
  bind1 (ref23_Fun (Ty.mk 1 []) (Ty.mk 1 [])) fun x123 =>
  bind1 (ref01_Same FU x25 x123) fun x126 =>
  if x126 = true then (
  if (ieq (llen x47) 2) = true then (
  if (ieq (llen x69) 2) = true then (
  bind1 (lget x69 0) fun x138 =>
  if (ieq x138 (-1)) = true then (
  bind1 (lget x69 1) fun x144 =>
  j110 (ieq x144 1))
  else (
  j110 false))
  else (
  j110 false))
  else (
  j110 false))
  else (
  j110 false))
  else (
  j110 false))
  else (
  j110 false))
  else (
  j110 false)

def mk_Few (a0 : (List Int)) : Option (Bool) :=
  some (ile (llen a0) 500)

def play_Count  : Option (Splay_Sum) :=
  some (Splay_Sum.mk 0)

def play_Sum_Few (a0 : Splay_Sum) : Option (Bool) :=
  some (ile a0.n 20000)

def mk_CountType : Nat → Ty → Int → Option (Int)
  | 0, _, _ => none
  | n + 1, a0, a1 =>
  joinB ((un2 fun (v255 : Int) (v256 : Int) =>
  if (sel (ilt v256 (llen a0.args)) (ile v255 a1) false) = true then (
  bind1 (lget a0.args v256) fun x327 =>
  bind1 (mk_CountType n x327 (isub .i64 a1 v255)) fun x330 =>
  some (.next ((iadd .i64 v255 x330), (iadd .i64 v256 1))))
  else (
  some (.brk (v255, v256)))) : (Int × Int) → (Option (Ctl (Int × Int) (Int)))) fun F257 =>
  bind1 (loopN F257 FU (1, 0)) (sumK (un2 fun (v255 : Int) (v256 : Int) =>
  some v255) (fun r => some r))

def mk_CountTerm : Nat → Tm → Int → Option (Int)
  | 0, _, _ => none
  | n + 1, a0, a1 =>
  bind1 (mk_CountType FU a0.typeF (isub .i64 a1 1)) fun x8 =>
  joinB ((un2 fun (v261 : Int) (v262 : Int) =>
  if (sel (ilt v262 (llen a0.args)) (ile v261 a1) false) = true then (
  bind1 (lget a0.args v262) fun x333 =>
  bind1 (mk_CountTerm n x333 (isub .i64 a1 v261)) fun x336 =>
  some (.next ((iadd .i64 v261 x336), (iadd .i64 v262 1))))
  else (
  some (.brk (v261, v262)))) : (Int × Int) → (Option (Ctl (Int × Int) (Int)))) fun F263 =>
  bind1 (loopN F263 FU ((iadd .i64 1 x8), 0)) (sumK (un2 fun (v261 : Int) (v262 : Int) =>
  some v261) (fun r => some r))

def mk_CountFormula : Nat → Fm → Int → Option (Int)
  | 0, _, _ => none
  | n + 1, a0, a1 =>
  bind1 (mk_CountType FU a0.typeF (isub .i64 a1 1)) fun x8 =>
  joinB ((un2 fun (v261 : Int) (v262 : Int) =>
  if (sel (ilt v262 (llen a0.terms)) (ile v261 a1) false) = true then (
  bind1 (lget a0.terms v262) fun x333 =>
  bind1 (mk_CountTerm FU x333 (isub .i64 a1 v261)) fun x336 =>
  some (.next ((iadd .i64 v261 x336), (iadd .i64 v262 1))))
  else (
  some (.brk (v261, v262)))) : (Int × Int) → (Option (Ctl (Int × Int) (Int)))) fun F263 =>
  bind1 (loopN F263 FU ((iadd .i64 1 x8), 0)) (sumK (un2 fun (v261 : Int) (v262 : Int) =>
  joinB ((un2 fun (v589 : Int) (v590 : Int) =>
  if (sel (ilt v590 (llen a0.args)) (ile v589 a1) false) = true then (
  bind1 (lget a0.args v590) fun x661 =>
  bind1 (mk_CountFormula n x661 (isub .i64 a1 v589)) fun x664 =>
  some (.next ((iadd .i64 v589 x664), (iadd .i64 v590 1))))
  else (
  some (.brk (v589, v590)))) : (Int × Int) → (Option (Ctl (Int × Int) (Int)))) fun F591 =>
  bind1 (loopN F591 FU (v261, 0)) (sumK (un2 fun (v589 : Int) (v590 : Int) =>
  some v589) (fun r => some r))) (fun r => some r))

def play_Sum_Formula (a0 : Splay_Sum) (a1 : (List Fm)) : Option (Splay_Sum) :=
  joinB ((un2 fun (v341 : Int) (v342 : Int) =>
  joinB (fun (v399 : Bool) =>
  if v399 = true then (
  bind1 (lget a1 v341) fun x435 =>
  bind1 (mk_CountFormula FU x435 20000) fun x438 =>
  some (.next ((iadd .i64 v341 1), (iadd .i64 v342 x438))))
  else (
  some (.brk (v341, v342)))) fun j400 =>
  if (ilt v341 (llen a1)) = true then (
  bind1 (play_Sum_Few (Splay_Sum.mk v342)) fun x407 =>
  j400 x407)
  else (
  j400 false)) : (Int × Int) → (Option (Ctl (Int × Int) (Splay_Sum)))) fun F343 =>
  bind1 (loopN F343 FU (0, a0.n)) (sumK (un2 fun (v341 : Int) (v342 : Int) =>
  some (Splay_Sum.mk v342)) (fun r => some r))

def play_Sum_Type (a0 : Splay_Sum) (a1 : (List Ty)) : Option (Splay_Sum) :=
  joinB ((un2 fun (v341 : Int) (v342 : Int) =>
  joinB (fun (v399 : Bool) =>
  if v399 = true then (
  bind1 (lget a1 v341) fun x435 =>
  bind1 (mk_CountType FU x435 20000) fun x438 =>
  some (.next ((iadd .i64 v341 1), (iadd .i64 v342 x438))))
  else (
  some (.brk (v341, v342)))) fun j400 =>
  if (ilt v341 (llen a1)) = true then (
  bind1 (play_Sum_Few (Splay_Sum.mk v342)) fun x407 =>
  j400 x407)
  else (
  j400 false)) : (Int × Int) → (Option (Ctl (Int × Int) (Splay_Sum)))) fun F343 =>
  bind1 (loopN F343 FU (0, a0.n)) (sumK (un2 fun (v341 : Int) (v342 : Int) =>
  some (Splay_Sum.mk v342)) (fun r => some r))

def play_Sum_Sequent (a0 : Splay_Sum) (a1 : Sq) : Option (Splay_Sum) :=
  bind1 (play_Sum_Type a0 a1.types) fun x11 =>
  bind1 (play_Sum_Formula x11 a1.hyps) fun x14 =>
  some x14

def mk_New (l : List Int) : Option Smk_Deck := some ⟨l, 0⟩

def mk_Mod (a0 : Int) (a1 : Int) : Option (Int) :=
  chk (okDiv a1) <|
  chk (okDiv a1) <|
  some (irem .i64 (iadd .i64 (irem .i64 a0 a1) a1) a1)

def mk_Deck_Next (a0 : Smk_Deck) (a1 : Int) : Option (Int × Smk_Deck) :=
  if (sel (ilt a1 1) true (ige a0.atF (llen a0.l))) = true then (
  some (0, a0))
  else (
  bind1 (lget a0.l a0.atF) fun x46 =>
  bind1 (mk_Mod x46 a1) fun x56 =>
  some (x56, (Smk_Deck.mk a0.l (iadd .i64 a0.atF 1))))

def ref01_Nat  : Option (Ty) :=
  some (Ty.mk 1 [])

def ref01_List  : Option (Ty) :=
  some (Ty.mk 2 [])

def ref01_Unit  : Option (Ty) :=
  some (Ty.mk 5 [])

def ref01_Two (a0 : Ty) (a1 : Ty) : Option (Ty) :=
  bind1 (ref01_Copy FU a0) fun x11 =>
  bind1 (ref01_Copy FU a1) fun x14 =>
  some (Ty.mk 3 [x11, x14])

def ref01_Fun (a0 : Ty) (a1 : Ty) : Option (Ty) :=
  bind1 (ref01_Copy FU a0) fun x11 =>
  bind1 (ref01_Copy FU a1) fun x14 =>
  some (Ty.mk 4 [x11, x14])

def mk_Type : Nat → Smk_Deck → Int → Option (Ty × Smk_Deck)
  | 0, _, _ => none
  | n + 1, a0, a1 =>
  joinB (fun (v193 : Smk_Deck) =>
  bind1 (ref01_Nat) fun x390 =>
  some (x390, v193)) fun j194 =>
  bind2 (mk_Deck_Next a0 7) fun x204 d205 =>
  if (sel (ieq x204 0) true (sel (ieq x204 1) true (ieq x204 2))) = true then (
  bind1 (ref01_Nat) fun x264 =>
  some (x264, d205))
  else (
  if (ieq x204 3) = true then (
  bind1 (ref01_List) fun x281 =>
  some (x281, d205))
  else (
  if (ieq x204 4) = true then (
  bind1 (ref01_Unit) fun x298 =>
  some (x298, d205))
  else (
  if (ieq x204 5) = true then (
  if (igt a1 0) = true then (
  bind2 (mk_Type n d205 (isub .i64 a1 1)) fun x332 d333 =>
  bind2 (mk_Type n d333 (isub .i64 a1 1)) fun x336 d337 =>
  bind1 (ref01_Two x332 x336) fun x340 =>
  some (x340, d337))
  else (
  j194 d205))
  else (
  if (ieq x204 6) = true then (
  if (igt a1 0) = true then (
  bind2 (mk_Type n d205 (isub .i64 a1 1)) fun x374 d375 =>
  bind2 (mk_Type n d375 (isub .i64 a1 1)) fun x378 d379 =>
  bind1 (ref01_Fun x374 x378) fun x382 =>
  some (x382, d379))
  else (
  j194 d205))
  else (
  j194 d205)))))

def mk_Context (a0 : Smk_Deck) : Option ((List Ty) × Smk_Deck) :=
  bind2 (mk_Deck_Next a0 4) fun x120 d121 =>
  joinB ((un3 fun (v218 : (List Ty)) (v219 : Int) (v220 : Smk_Deck) =>
  if (igt v219 0) = true then (
  bind2 (mk_Type FU v220 1) fun x277 d278 =>
  chk (okApp v218 [x277]) <|
  some (.next ((lapp v218 [x277]), (isub .i64 v219 1), d278)))
  else (
  some (.brk (v218, v219, v220)))) : ((List Ty) × Int × Smk_Deck) → (Option (Ctl ((List Ty) × Int × Smk_Deck) ((List Ty) × Smk_Deck)))) fun F221 =>
  bind1 (loopN F221 FU ([], x120, d121)) (sumK (un3 fun (v218 : (List Ty)) (v219 : Int) (v220 : Smk_Deck) =>
  some (v218, v220)) (fun r => some r))

def ref07_Copy : Nat → Fm → Option (Fm)
  | 0, _ => none
  | n + 1, a0 =>
  bind1 (ref01_Copy FU a0.typeF) fun x8 =>
  chk (okLen a0.terms) <|
  joinB (fun (j101 : Int) (x103 : Tm) => (fun (v184 : (List Tm)) =>
  bind1 (ref02_Copy FU x103) fun x239 =>
  chk (okApp v184 [x239]) <|
  some (.next (lapp v184 [x239]))) : Int → Tm → ((List Tm)) → (Option (Ctl ((List Tm)) (Fm)))) fun F185 =>
  bind1 (forR F185 a0.terms 0 []) (sumK (fun (v184 : (List Tm)) =>
  chk (okLen a0.args) <|
  joinB (fun (j346 : Int) (x348 : Fm) => (fun (v429 : (List Fm)) =>
  bind1 (ref07_Copy n x348) fun x484 =>
  chk (okApp v429 [x484]) <|
  some (.next (lapp v429 [x484]))) : Int → Fm → ((List Fm)) → (Option (Ctl ((List Fm)) (Fm)))) fun F430 =>
  bind1 (forR F430 a0.args 0 []) (sumK (fun (v429 : (List Fm)) =>
  some (Fm.mk a0.kind x8 v184 v429)) (fun r => some r))) (fun r => some r))

def ref07_Two (a0 : Int) (a1 : Fm) (a2 : Fm) : Option (Fm) :=
  bind1 (ref07_Copy FU a1) fun x11 =>
  bind1 (ref07_Copy FU a2) fun x14 =>
  some (Fm.mk a0 (Ty.mk 0 []) [] [x11, x14])

def mk_longer (a0 : (List Ty)) (a1 : (List Ty)) : Option ((List Ty)) :=
  chk (okApp [] a0) <|
  chk (okApp (lapp [] a0) a1) <|
  some (lapp (lapp [] a0) a1)

def ref07_Q (a0 : Int) (a1 : Ty) (a2 : Fm) : Option (Fm) :=
  bind1 (ref01_Copy FU a1) fun x11 =>
  bind1 (ref07_Copy FU a2) fun x14 =>
  some (Fm.mk a0 x11 [] [x14])

def mk_vars (a0 : (List Ty)) (a1 : Ty) : Option ((List Int)) :=
  chk (okLen a0) <|
  joinB (fun (j179 : Int) (x181 : Ty) => (fun (v346 : (List Int)) =>
  joinB (fun (v413 : (List Int)) =>
  some (.next v413)) fun j414 =>
  bind1 (lget a0 (isub .i64 (isub .i64 (llen a0) 1) j179)) fun x433 =>
  bind1 (ref01_Same FU x433 a1) fun x436 =>
  if x436 = true then (
  chk (okApp v346 [j179]) <|
  j414 (lapp v346 [j179]))
  else (
  j414 v346)) : Int → Ty → ((List Int)) → (Option (Ctl ((List Int)) ((List Int))))) fun F347 =>
  bind1 (forR F347 a0 0 []) (sumK (fun (v346 : (List Int)) =>
  some v346) (fun r => some r))

def ref02_Var (a0 : Int) : Option (Tm) :=
  some (Tm.mk 1 a0 (Ty.mk 0 []) [])

def ref02_T (a0 : Int) (a1 : Ty) (a2 : (List Tm)) : Option (Tm) :=
  bind1 (ref02_N a0 a2) fun x8 =>
  bind1 (ref01_Copy FU a1) fun x16 =>
  some (Tm.mk x8.kind x8.index x16 x8.args)

def ref05_numeral (a0 : Int) : Option (Tm) :=
  bind1 (ref02_N 4 []) fun x8 =>
  joinB ((un6 fun (v165 : Int) (v166 : Int) (v167 : Int) (v168 : Int) (v169 : (List Ty)) (v170 : (List Tm)) =>
  if (igt v165 0) = true then (
  some (.next ((isub .i64 v165 1), 5, 0, 0, [], [(Tm.mk v166 v167 (Ty.mk v168 v169) v170)])))
  else (
  some (.brk (v165, v166, v167, v168, v169, v170)))) : (Int × Int × Int × Int × (List Ty) × (List Tm)) → (Option (Ctl (Int × Int × Int × Int × (List Ty) × (List Tm)) (Tm)))) fun F171 =>
  bind1 (loopN F171 FU (a0, x8.kind, x8.index, x8.typeF.kind, x8.typeF.args, x8.args)) (sumK (un6 fun (v165 : Int) (v166 : Int) (v167 : Int) (v168 : Int) (v169 : (List Ty)) (v170 : (List Tm)) =>
  some (Tm.mk v166 v167 (Ty.mk v168 v169) v170)) (fun r => some r))

def ref05_Number (a0 : Int) : Option (Tm × Int) :=
  if (ilt a0 0) = true then (
  some ((Tm.mk 0 0 (Ty.mk 0 []) []), 1))
  else (
  if (ige a0 4096) = true then (
  some ((Tm.mk 0 0 (Ty.mk 0 []) []), 4))
  else (
  bind1 (ref05_numeral a0) fun x56 =>
  some (x56, 0)))

def mk_Num (a0 : Int) : Option (Tm) :=
  bind2 (ref05_Number a0) fun x9 x10 =>
  some x9

def ref05_lam (a0 : Tm) : Option (Tm) :=
  bind1 (ref01_Nat) fun x11 =>
  bind1 (ref02_T 2 x11 [a0]) fun x14 =>
  some x14

def ref05_rec (a0 : Tm) (a1 : Tm) (a2 : Tm) : Option (Tm) :=
  bind1 (ref01_Nat) fun x11 =>
  bind1 (ref02_T 6 x11 [a0, a1, a2]) fun x14 =>
  some x14

def ref05_Plus  : Option (Tm) :=
  bind1 (ref02_Var 1) fun x32 =>
  bind1 (ref02_Var 0) fun x35 =>
  bind1 (ref02_N 5 [x35]) fun x38 =>
  bind1 (ref05_lam x38) fun x41 =>
  bind1 (ref05_lam x41) fun x44 =>
  bind1 (ref02_Var 0) fun x47 =>
  bind1 (ref05_rec x32 x44 x47) fun x50 =>
  bind1 (ref05_lam x50) fun x53 =>
  bind1 (ref05_lam x53) fun x56 =>
  some x56

def mk_App (a0 : Tm) (a1 : (List Tm)) : Option (Tm) :=
  chk (okLen a1) <|
  joinB (fun (j93 : Int) (x95 : Tm) => (un5 fun (v172 : Int) (v173 : Int) (v174 : Int) (v175 : (List Ty)) (v176 : (List Tm)) =>
  bind1 (ref02_N 3 [(Tm.mk v172 v173 (Ty.mk v174 v175) v176), x95]) fun x229 =>
  some (.next (x229.kind, x229.index, x229.typeF.kind, x229.typeF.args, x229.args))) : Int → Tm → (Int × Int × Int × (List Ty) × (List Tm)) → (Option (Ctl (Int × Int × Int × (List Ty) × (List Tm)) (Tm)))) fun F177 =>
  bind1 (forR F177 a1 0 (a0.kind, a0.index, a0.typeF.kind, a0.typeF.args, a0.args)) (sumK (un5 fun (v172 : Int) (v173 : Int) (v174 : Int) (v175 : (List Ty)) (v176 : (List Tm)) =>
  some (Tm.mk v172 v173 (Ty.mk v174 v175) v176)) (fun r => some r))

def ref05_Pred  : Option (Tm) :=
  bind1 (ref02_N 4 []) fun x26 =>
  bind1 (ref02_Var 1) fun x29 =>
  bind1 (ref05_lam x29) fun x32 =>
  bind1 (ref05_lam x32) fun x35 =>
  bind1 (ref02_Var 0) fun x38 =>
  bind1 (ref05_rec x26 x35 x38) fun x41 =>
  bind1 (ref05_lam x41) fun x44 =>
  some x44

def ref05_Sub  : Option (Tm) :=
  bind1 (ref02_Var 1) fun x35 =>
  bind1 (ref05_Pred) fun x38 =>
  bind1 (ref02_Var 0) fun x41 =>
  bind1 (ref02_N 3 [x38, x41]) fun x44 =>
  bind1 (ref05_lam x44) fun x47 =>
  bind1 (ref05_lam x47) fun x50 =>
  bind1 (ref02_Var 0) fun x53 =>
  bind1 (ref05_rec x35 x50 x53) fun x56 =>
  bind1 (ref05_lam x56) fun x59 =>
  bind1 (ref05_lam x59) fun x62 =>
  some x62

def mk_Term : Nat → Smk_Deck → (List Ty) → Ty → Int → Option (Tm × Smk_Deck)
  | 0, _, _, _, _ => none
  | n + 1, a0, a1, a2, a3 =>
  bind1 (mk_vars a1 a2) fun x8 =>
  joinB (fun (v75 : Bool) (v76 : Smk_Deck) =>
  if v75 = true then (
  bind2 (mk_Deck_Next v76 (llen x8)) fun x107 d108 =>
  bind1 (lget x8 x107) fun x111 =>
  bind1 (ref02_Var x111) fun x114 =>
  some (x114, d108))
  else (
  joinB (fun (v655 : Smk_Deck) =>
  if (ieq a2.kind 1) = true then (
  joinB (fun (v2065 : Smk_Deck) =>
  bind2 (mk_Deck_Next v2065 3) fun x2206 d2207 =>
  bind1 (mk_Num x2206) fun x2210 =>
  some (x2210, d2207)) fun j2066 =>
  if (igt a3 0) = true then (
  bind2 (mk_Deck_Next v655 5) fun x2085 d2086 =>
  if (ieq x2085 0) = true then (
  bind2 (mk_Term n d2086 a1 a2 (isub .i64 a3 1)) fun x2112 d2113 =>
  bind1 (ref02_N 5 [x2112]) fun x2116 =>
  some (x2116, d2113))
  else (
  if (ieq x2085 1) = true then (
  bind1 (ref05_Plus) fun x2144 =>
  bind2 (mk_Term n d2086 a1 a2 (isub .i64 a3 1)) fun x2147 d2148 =>
  bind2 (mk_Term n d2148 a1 a2 (isub .i64 a3 1)) fun x2151 d2152 =>
  bind1 (mk_App x2144 [x2147, x2151]) fun x2155 =>
  some (x2155, d2152))
  else (
  if (ieq x2085 2) = true then (
  bind1 (ref05_Sub) fun x2183 =>
  bind2 (mk_Term n d2086 a1 a2 (isub .i64 a3 1)) fun x2186 d2187 =>
  bind2 (mk_Term n d2187 a1 a2 (isub .i64 a3 1)) fun x2190 d2191 =>
  bind1 (mk_App x2183 [x2186, x2190]) fun x2194 =>
  some (x2194, d2191))
  else (
  j2066 d2086))))
  else (
  j2066 v655))
  else (
  if (ieq a2.kind 2) = true then (
  joinB (fun (v2294 : Bool) (v2295 : Smk_Deck) =>
  if v2294 = true then (
  bind1 (ref01_Nat) fun x2330 =>
  bind2 (mk_Term n v2295 a1 x2330 (isub .i64 a3 1)) fun x2333 d2334 =>
  bind2 (mk_Term n d2334 a1 a2 (isub .i64 a3 1)) fun x2337 d2338 =>
  bind1 (ref02_N 8 [x2333, x2337]) fun x2341 =>
  some (x2341, d2338))
  else (
  bind1 (ref02_N 7 []) fun x2349 =>
  some (x2349, v2295))) fun j2296 =>
  if (igt a3 0) = true then (
  bind2 (mk_Deck_Next v655 2) fun x2303 d2304 =>
  j2296 (ieq x2303 0) d2304)
  else (
  j2296 false v655))
  else (
  if (ieq a2.kind 3) = true then (
  bind1 (lget a2.args 0) fun x2380 =>
  bind2 (mk_Term n v655 a1 x2380 (isub .i64 a3 1)) fun x2383 d2384 =>
  bind1 (lget a2.args 1) fun x2387 =>
  bind2 (mk_Term n d2384 a1 x2387 (isub .i64 a3 1)) fun x2390 d2391 =>
  bind1 (ref02_N 10 [x2383, x2390]) fun x2394 =>
  some (x2394, d2391))
  else (
  if (ieq a2.kind 4) = true then (
  bind1 (lget a2.args 0) fun x2424 =>
  bind1 (mk_longer a1 [x2424]) fun x2427 =>
  bind1 (lget a2.args 1) fun x2430 =>
  bind2 (mk_Term n v655 x2427 x2430 (isub .i64 a3 1)) fun x2433 d2434 =>
  bind1 (ref02_T 2 x2424 [x2433]) fun x2437 =>
  some (x2437, d2434))
  else (
  bind1 (ref02_N 13 []) fun x2445 =>
  some (x2445, v655)))))) fun j656 =>
  if (igt a3 0) = true then (
  bind2 (mk_Deck_Next v76 8) fun x675 d676 =>
  if (ieq x675 0) = true then (
  bind2 (mk_Type FU d676 0) fun x699 d700 =>
  bind1 (mk_longer a1 [x699]) fun x722 =>
  bind2 (mk_Term n d700 x722 a2 (isub .i64 a3 1)) fun x725 d726 =>
  bind1 (ref02_T 2 x699 [x725]) fun x729 =>
  bind2 (mk_Term n d726 a1 x699 (isub .i64 a3 1)) fun x732 d733 =>
  bind1 (ref02_N 3 [x729, x732]) fun x736 =>
  some (x736, d733))
  else (
  if (ieq x675 1) = true then (
  bind2 (mk_Type FU d676 0) fun x754 d755 =>
  bind2 (mk_Term n d755 a1 a2 (isub .i64 a3 1)) fun x774 d775 =>
  bind2 (mk_Term n d775 a1 x754 (isub .i64 a3 1)) fun x778 d779 =>
  bind1 (ref02_N 10 [x774, x778]) fun x782 =>
  bind1 (ref02_N 11 [x782]) fun x785 =>
  some (x785, d779))
  else (
  if (ieq x675 2) = true then (
  bind1 (ref01_Nat) fun x818 =>
  bind1 (ref01_Nat) fun x821 =>
  bind1 (mk_longer a1 [x821, a2]) fun x824 =>
  bind2 (mk_Term n d676 x824 a2 (isub .i64 a3 1)) fun x827 d828 =>
  bind1 (ref02_T 2 a2 [x827]) fun x831 =>
  bind1 (ref02_T 2 x818 [x831]) fun x834 =>
  bind2 (mk_Term n d828 a1 a2 (isub .i64 a3 1)) fun x853 d854 =>
  bind2 (mk_Deck_Next d854 3) fun x857 d858 =>
  bind1 (mk_Num x857) fun x861 =>
  bind1 (ref02_T 6 a2 [x853, x834, x861]) fun x864 =>
  some (x864, d858))
  else (
  if (ieq x675 3) = true then (
  bind1 (ref01_Nat) fun x906 =>
  bind1 (ref01_List) fun x909 =>
  bind1 (ref01_Nat) fun x912 =>
  bind1 (ref01_List) fun x915 =>
  bind1 (mk_longer a1 [x912, x915, a2]) fun x918 =>
  bind2 (mk_Term n d676 x918 a2 (isub .i64 a3 1)) fun x921 d922 =>
  bind1 (ref02_T 2 a2 [x921]) fun x925 =>
  bind1 (ref02_T 2 x909 [x925]) fun x928 =>
  bind1 (ref02_T 2 x906 [x928]) fun x931 =>
  bind2 (mk_Term n d922 a1 a2 (isub .i64 a3 1)) fun x950 d951 =>
  bind1 (ref01_List) fun x954 =>
  bind2 (mk_Term n d951 a1 x954 (isub .i64 a3 1)) fun x957 d958 =>
  bind1 (ref02_T 9 a2 [x950, x931, x957]) fun x961 =>
  some (x961, d958))
  else (
  if (ieq x675 4) = true then (
  bind2 (mk_Type FU d676 0) fun x979 d980 =>
  bind2 (mk_Term n d980 a1 x979 (isub .i64 a3 1)) fun x999 d1000 =>
  bind2 (mk_Term n d1000 a1 a2 (isub .i64 a3 1)) fun x1003 d1004 =>
  bind1 (ref02_N 10 [x999, x1003]) fun x1007 =>
  bind1 (ref02_N 12 [x1007]) fun x1010 =>
  some (x1010, d1004))
  else (
  if (ieq x675 5) = true then (
  chk (okLen a1) <|
  joinB (fun (j1024 : Int) (x1026 : Ty) => (fun (_ : Unit) =>
  bind1 (lget a1 (isub .i64 (isub .i64 (llen a1) 1) j1024)) fun x1318 =>
  joinB (fun (v1333 : Bool) =>
  if v1333 = true then (
  bind1 (ref02_Var j1024) fun x1369 =>
  bind1 (lget x1318.args 0) fun x1372 =>
  bind2 (mk_Term n d676 a1 x1372 (isub .i64 a3 1)) fun x1375 d1376 =>
  bind1 (ref02_N 3 [x1369, x1375]) fun x1379 =>
  some (.ret (x1379, d1376)))
  else (
  some (.next ()))) fun j1334 =>
  if (ieq x1318.kind 4) = true then (
  bind1 (lget x1318.args 1) fun x1341 =>
  bind1 (ref01_Same FU x1341 a2) fun x1344 =>
  j1334 x1344)
  else (
  j1334 false)) : Int → Ty → (Unit) → (Option (Ctl (Unit) (Tm × Smk_Deck)))) fun F1195 =>
  bind1 (forR F1195 a1 0 ()) (sumK (fun (_ : Unit) =>
  j656 d676) (fun r => some r)))
  else (
  j656 d676)))))))
  else (
  j656 v76))) fun j77 =>
  if (igt (llen x8) 0) = true then (
  bind2 (mk_Deck_Next a0 3) fun x84 d85 =>
  j77 (igt x84 0) d85)
  else (
  j77 false a0)

def mk_Formula : Nat → Smk_Deck → (List Ty) → Int → Option (Fm × Smk_Deck)
  | 0, _, _, _ => none
  | n + 1, a0, a1, a2 =>
  joinB (fun (v265 : Smk_Deck) =>
  bind1 (ref01_Nat) fun x534 =>
  bind2 (mk_Term FU v265 a1 x534 1) fun x550 d551 =>
  bind2 (mk_Term FU d551 a1 x534 1) fun x554 d555 =>
  bind1 (ref07_Eq x550 x554) fun x558 =>
  some (x558, d555)) fun j266 =>
  if (igt a2 0) = true then (
  bind2 (mk_Deck_Next a0 9) fun x285 d286 =>
  if (ieq x285 0) = true then (
  bind2 (mk_Formula n d286 a1 (isub .i64 a2 1)) fun x316 d317 =>
  bind2 (mk_Formula n d317 a1 (isub .i64 a2 1)) fun x320 d321 =>
  bind1 (ref07_Two 2 x316 x320) fun x324 =>
  some (x324, d321))
  else (
  if (sel (ieq x285 1) true (ieq x285 2)) = true then (
  bind2 (mk_Formula n d286 a1 (isub .i64 a2 1)) fun x368 d369 =>
  bind2 (mk_Formula n d369 a1 (isub .i64 a2 1)) fun x372 d373 =>
  bind1 (ref07_Two 3 x368 x372) fun x376 =>
  some (x376, d373))
  else (
  if (sel (ieq x285 3) true (ieq x285 4)) = true then (
  bind2 (mk_Type FU d286 1) fun x413 d414 =>
  bind1 (mk_longer a1 [x413]) fun x429 =>
  bind2 (mk_Formula n d414 x429 (isub .i64 a2 1)) fun x432 d433 =>
  bind1 (ref07_Q 4 x413 x432) fun x436 =>
  some (x436, d433))
  else (
  if (ieq x285 5) = true then (
  bind2 (mk_Type FU d286 1) fun x454 d455 =>
  bind1 (mk_longer a1 [x454]) fun x470 =>
  bind2 (mk_Formula n d455 x470 (isub .i64 a2 1)) fun x473 d474 =>
  bind1 (ref07_Q 5 x454 x473) fun x477 =>
  some (x477, d474))
  else (
  if (ieq x285 6) = true then (
  bind2 (mk_Type FU d286 0) fun x495 d496 =>
  bind2 (mk_Deck_Next d496 2) fun x515 d516 =>
  bind1 (mk_longer a1 [x495]) fun x519 =>
  bind2 (mk_Formula n d516 x519 (isub .i64 a2 1)) fun x522 d523 =>
  bind1 (ref07_Q (iadd .i64 6 x515) x495 x522) fun x526 =>
  some (x526, d523))
  else (
  j266 d286))))))
  else (
  j266 a0)

def mk_Sequent (a0 : Smk_Deck) : Option (Sq × Smk_Deck) :=
  bind2 (mk_Context a0) fun x9 d10 =>
  bind2 (mk_Deck_Next d10 3) fun x128 d129 =>
  joinB ((un3 fun (v226 : Int) (v227 : (List Fm)) (v228 : Smk_Deck) =>
  if (igt v226 0) = true then (
  bind2 (mk_Formula FU v228 x9 2) fun x285 d286 =>
  chk (okApp v227 [x285]) <|
  some (.next ((isub .i64 v226 1), (lapp v227 [x285]), d286)))
  else (
  some (.brk (v226, v227, v228)))) : (Int × (List Fm) × Smk_Deck) → (Option (Ctl (Int × (List Fm) × Smk_Deck) (Sq × Smk_Deck)))) fun F229 =>
  bind1 (loopN F229 FU (x128, [], d129)) (sumK (un3 fun (v226 : Int) (v227 : (List Fm)) (v228 : Smk_Deck) =>
  some ((Sq.mk x9 v227), v228)) (fun r => some r))

def ref01_Zero (a0 : Ty) : Option (Bool) :=
  some (sel (ieq a0.kind 0) (ieq (llen a0.args) 0) false)

def ref02_args (a0 : Int) : Option (Int) :=
  if (sel (ieq a0 1) true (sel (ieq a0 4) true (sel (ieq a0 7) true (ieq a0 13)))) = true then (
  some 0)
  else (
  if (sel (ieq a0 2) true (sel (ieq a0 5) true (sel (ieq a0 11) true (ieq a0 12)))) = true then (
  some 1)
  else (
  if (sel (ieq a0 3) true (sel (ieq a0 8) true (ieq a0 10))) = true then (
  some 2)
  else (
  if (sel (ieq a0 6) true (ieq a0 9)) = true then (
  some 3)
  else (
  some (-1)))))

def ref01_shape : Nat → Ty → Option (Bool)
  | 0, _ => none
  | n + 1, a0 =>
  joinB (fun (v91 : Int) =>
  if (ine (llen a0.args) v91) = true then (
  some false)
  else (
  chk (okLen a0.args) <|
  joinB (fun (j276 : Int) (x278 : Ty) => (fun (_ : Unit) =>
  bind1 (ref01_shape n x278) fun x414 =>
  if x414 = true then (
  some (.next ()))
  else (
  some (.ret false))) : Int → Ty → (Unit) → (Option (Ctl (Unit) (Bool)))) fun F343 =>
  bind1 (forR F343 a0.args 0 ()) (sumK (fun (_ : Unit) =>
  some true) (fun r => some r)))) fun j92 =>
  if (sel (ieq a0.kind 1) true (sel (ieq a0.kind 2) true (ieq a0.kind 5))) = true then (
  j92 0)
  else (
  if (sel (ieq a0.kind 3) true (ieq a0.kind 4)) = true then (
  j92 2)
  else (
  some false))

def ref01_size : Nat → Ty → Option (Int)
  | 0, _ => none
  | n + 1, a0 =>
  chk (okLen a0.args) <|
  joinB (fun (j87 : Int) (x89 : Ty) => (fun (v162 : Int) =>
  bind1 (ref01_size n x89) fun x215 =>
  some (.next (iadd .i64 v162 x215))) : Int → Ty → (Int) → (Option (Ctl (Int) (Int)))) fun F163 =>
  bind1 (forR F163 a0.args 0 1) (sumK (fun (v162 : Int) =>
  some v162) (fun r => some r))

def ref01_Check (a0 : Ty) : Option (Int) :=
  bind1 (ref01_shape FU a0) fun x27 =>
  if x27 = true then (
  bind1 (ref01_size FU a0) fun x61 =>
  if (igt x61 64) = true then (
  some 4)
  else (
  some 0))
  else (
  some 2)

def ref02_Shape : Nat → Tm → Option (Bool)
  | 0, _ => none
  | n + 1, a0 =>
  joinB (fun (v61 : Bool) =>
  if v61 = true then (
  some false)
  else (
  joinB (chk (okLen a0.args) <|
  joinB (fun (j341 : Int) (x343 : Tm) => (fun (_ : Unit) =>
  bind1 (ref02_Shape n x343) fun x479 =>
  if x479 = true then (
  some (.next ()))
  else (
  some (.ret false))) : Int → Tm → (Unit) → (Option (Ctl (Unit) (Bool)))) fun F408 =>
  bind1 (forR F408 a0.args 0 ()) (sumK (fun (_ : Unit) =>
  some true) (fun r => some r))) fun j177 =>
  if (sel (ieq a0.kind 2) true (sel (ieq a0.kind 6) true (ieq a0.kind 9))) = true then (
  bind1 (ref01_Check a0.typeF) fun x239 =>
  if (ine x239 0) = true then (
  some false)
  else (
  j177))
  else (
  bind1 (ref01_Zero a0.typeF) fun x256 =>
  if x256 = true then (
  j177)
  else (
  some false)))) fun j62 =>
  bind1 (ref02_args a0.kind) fun x66 =>
  if (ine (llen a0.args) x66) = true then (
  j62 true)
  else (
  if (ilt a0.index 0) = true then (
  j62 true)
  else (
  if (ine a0.kind 1) = true then (
  j62 (ine a0.index 0))
  else (
  j62 false)))

def ref07_quantifier (a0 : Int) : Option (Bool) :=
  some (sel (ieq a0 4) true (sel (ieq a0 5) true (sel (ieq a0 6) true (ieq a0 7))))

def ref07_Shape : Nat → Fm → Option (Bool)
  | 0, _ => none
  | n + 1, a0 =>
  if (ieq a0.kind 1) = true then (
  joinB (fun (v262 : Bool) =>
  some v262) fun j263 =>
  if (ieq (llen a0.args) 0) = true then (
  bind1 (ref01_Zero a0.typeF) fun x270 =>
  if x270 = true then (
  if (ieq (llen a0.terms) 2) = true then (
  bind1 (lget a0.terms 0) fun x279 =>
  bind1 (ref02_Shape FU x279) fun x282 =>
  if x282 = true then (
  bind1 (lget a0.terms 1) fun x288 =>
  bind1 (ref02_Shape FU x288) fun x291 =>
  j263 x291)
  else (
  j263 false))
  else (
  j263 false))
  else (
  j263 false))
  else (
  j263 false))
  else (
  if (sel (ieq a0.kind 2) true (ieq a0.kind 3)) = true then (
  joinB (fun (v340 : Bool) =>
  some v340) fun j341 =>
  if (ieq (llen a0.terms) 0) = true then (
  bind1 (ref01_Zero a0.typeF) fun x348 =>
  if x348 = true then (
  if (ieq (llen a0.args) 2) = true then (
  bind1 (lget a0.args 0) fun x357 =>
  bind1 (ref07_Shape n x357) fun x360 =>
  if x360 = true then (
  bind1 (lget a0.args 1) fun x366 =>
  bind1 (ref07_Shape n x366) fun x369 =>
  j341 x369)
  else (
  j341 false))
  else (
  j341 false))
  else (
  j341 false))
  else (
  j341 false))
  else (
  bind1 (ref07_quantifier a0.kind) fun x377 =>
  if x377 = true then (
  joinB (fun (v408 : Bool) =>
  some v408) fun j409 =>
  if (ieq (llen a0.terms) 0) = true then (
  bind1 (ref01_Check a0.typeF) fun x416 =>
  if (ieq x416 0) = true then (
  if (ieq (llen a0.args) 1) = true then (
  bind1 (lget a0.args 0) fun x425 =>
  bind1 (ref07_Shape n x425) fun x428 =>
  j409 x428)
  else (
  j409 false))
  else (
  j409 false))
  else (
  j409 false))
  else (
  some false)))

def ref02_Count : Nat → Tm → Option (Int)
  | 0, _ => none
  | n + 1, a0 =>
  chk (okLen a0.args) <|
  joinB (fun (j87 : Int) (x89 : Tm) => (fun (v162 : Int) =>
  bind1 (ref02_Count n x89) fun x215 =>
  some (.next (iadd .i64 v162 x215))) : Int → Tm → (Int) → (Option (Ctl (Int) (Int)))) fun F163 =>
  bind1 (forR F163 a0.args 0 1) (sumK (fun (v162 : Int) =>
  some v162) (fun r => some r))

def ref07_Count : Nat → Fm → Option (Int)
  | 0, _ => none
  | n + 1, a0 =>
  chk (okLen a0.terms) <|
  joinB (fun (j87 : Int) (x89 : Tm) => (fun (v162 : Int) =>
  bind1 (ref02_Count FU x89) fun x215 =>
  some (.next (iadd .i64 v162 x215))) : Int → Tm → (Int) → (Option (Ctl (Int) (Int)))) fun F163 =>
  bind1 (forR F163 a0.terms 0 1) (sumK (fun (v162 : Int) =>
  chk (okLen a0.args) <|
  joinB (fun (j312 : Int) (x314 : Fm) => (fun (v387 : Int) =>
  bind1 (ref07_Count n x314) fun x440 =>
  some (.next (iadd .i64 v387 x440))) : Int → Fm → (Int) → (Option (Ctl (Int) (Int)))) fun F388 =>
  bind1 (forR F388 a0.args 0 v162) (sumK (fun (v387 : Int) =>
  some v387) (fun r => some r))) (fun r => some r))

def ref07_Check (a0 : Fm) : Option (Int) :=
  bind1 (ref07_Shape FU a0) fun x27 =>
  if x27 = true then (
  bind1 (ref07_Count FU a0) fun x61 =>
  if (igt x61 4096) = true then (
  some 4)
  else (
  some 0))
  else (
  some 2)

def ref08_content : Nat → Fm → Option (Bool)
  | 0, _ => none
  | n + 1, a0 =>
  if (ieq a0.kind 1) = true then (
  some false)
  else (
  if (ieq a0.kind 2) = true then (
  joinB (fun (v126 : Bool) =>
  some v126) fun j127 =>
  bind1 (lget a0.args 0) fun x131 =>
  bind1 (ref08_content n x131) fun x134 =>
  if x134 = true then (
  j127 true)
  else (
  bind1 (lget a0.args 1) fun x140 =>
  bind1 (ref08_content n x140) fun x143 =>
  j127 x143))
  else (
  if (ieq a0.kind 5) = true then (
  some true)
  else (
  bind1 (lget a0.args (isub .i64 (llen a0.args) 1)) fun x165 =>
  bind1 (ref08_content n x165) fun x168 =>
  some x168)))

def ref08_Content (a0 : Fm) : Option (Bool × Int) :=
  bind1 (ref07_Check a0) fun x29 =>
  if (ine x29 0) = true then (
  some (false, x29))
  else (
  bind1 (ref08_content FU a0) fun x48 =>
  some (x48, 0))

def ref23_Has (a0 : Fm) : Option (Bool) :=
  bind2 (ref08_Content a0) fun x9 x10 =>
  some x9

def ref23_Unit  : Option (Ty) :=
  some (Ty.mk 5 [])

def ref23_Pair (a0 : Ty) (a1 : Ty) : Option (Ty) :=
  some (Ty.mk 3 [a0, a1])

def ref01_Size (a0 : Ty) : Option (Int × Int) :=
  bind1 (ref01_Check a0) fun x29 =>
  if (ine x29 0) = true then (
  some (0, x29))
  else (
  bind1 (ref01_size FU a0) fun x48 =>
  some (x48, 0))

def ref23_fits (a0 : Ty) (a1 : Int) : Option (Ty × Int) :=
  if (ine a1 0) = true then (
  some ((Ty.mk 0 []), a1))
  else (
  bind2 (ref01_Size a0) fun x56 x57 =>
  if (ine x57 0) = true then (
  some ((Ty.mk 0 []), x57))
  else (
  some (a0, 0)))

def ref23_of : Nat → Fm → Option (Ty × Int)
  | 0, _ => none
  | n + 1, a0 =>
  bind1 (ref23_Has a0) fun x33 =>
  if x33 = true then (
  if (ieq a0.kind 2) = true then (
  bind1 (lget a0.args 0) fun x599 =>
  bind1 (ref23_Has x599) fun x602 =>
  if x602 = true then (
  bind1 (lget a0.args 1) fun x653 =>
  bind1 (ref23_Has x653) fun x656 =>
  if x656 = true then (
  bind2 (ref23_of n x599) fun x672 x673 =>
  if (ine x673 0) = true then (
  some ((Ty.mk 0 []), x673))
  else (
  bind2 (ref23_of n x653) fun x706 x707 =>
  bind1 (ref23_Pair x672 x706) fun x719 =>
  bind2 (ref23_fits x719 x707) fun x722 x723 =>
  some (x722, x723)))
  else (
  bind2 (ref23_of n x599) fun x732 x733 =>
  some (x732, x733)))
  else (
  bind1 (lget a0.args 1) fun x745 =>
  bind2 (ref23_of n x745) fun x748 x749 =>
  some (x748, x749)))
  else (
  if (ieq a0.kind 3) = true then (
  bind1 (lget a0.args 0) fun x808 =>
  bind1 (ref23_Has x808) fun x811 =>
  if x811 = true then (
  bind2 (ref23_of n x808) fun x827 x828 =>
  if (ine x828 0) = true then (
  some ((Ty.mk 0 []), x828))
  else (
  bind1 (lget a0.args 1) fun x864 =>
  bind2 (ref23_of n x864) fun x867 x868 =>
  bind1 (ref23_Fun x827 x867) fun x880 =>
  bind2 (ref23_fits x880 x868) fun x883 x884 =>
  some (x883, x884)))
  else (
  bind1 (lget a0.args 1) fun x896 =>
  bind2 (ref23_of n x896) fun x899 x900 =>
  some (x899, x900)))
  else (
  if (ieq a0.kind 4) = true then (
  bind1 (lget a0.args 0) fun x921 =>
  bind2 (ref23_of n x921) fun x924 x925 =>
  bind1 (ref23_Fun a0.typeF x924) fun x937 =>
  bind2 (ref23_fits x937 x925) fun x940 x941 =>
  some (x940, x941))
  else (
  if (ieq a0.kind 5) = true then (
  bind1 (lget a0.args 0) fun x986 =>
  bind1 (ref23_Has x986) fun x989 =>
  if x989 = true then (
  bind2 (ref23_of n x986) fun x1005 x1006 =>
  bind1 (ref23_Pair a0.typeF x1005) fun x1018 =>
  bind2 (ref23_fits x1018 x1006) fun x1021 x1022 =>
  some (x1021, x1022))
  else (
  some (a0.typeF, 0)))
  else (
  bind1 (lget a0.args 0) fun x1036 =>
  bind2 (ref23_of n x1036) fun x1039 x1040 =>
  some (x1039, x1040))))))
  else (
  bind1 (ref23_Unit) fun x1048 =>
  some (x1048, 0))

def ref23_Type (a0 : Fm) : Option (Ty × Int) :=
  bind1 (ref07_Check a0) fun x29 =>
  if (ine x29 0) = true then (
  some ((Ty.mk 0 []), x29))
  else (
  bind2 (ref23_of FU a0) fun x49 x50 =>
  some (x49, x50))

def ref01_Context (a0 : (List Ty)) : Option (Int) :=
  if (igt (llen a0) 16) = true then (
  some 3)
  else (
  chk (okLen a0) <|
  joinB (fun (j104 : Int) (x106 : Ty) => (fun (_ : Unit) =>
  bind1 (ref01_Check x106) fun x248 =>
  if (ine x248 0) = true then (
  some (.ret x248))
  else (
  some (.next ()))) : Int → Ty → (Unit) → (Option (Ctl (Unit) (Int)))) fun F175 =>
  bind1 (forR F175 a0 0 ()) (sumK (fun (_ : Unit) =>
  some 0) (fun r => some r)))

def ref23_Context (a0 : Sq) : Option ((List Ty) × Int) :=
  bind1 (ref01_Context a0.types) fun x29 =>
  if (ine x29 0) = true then (
  some ([], x29))
  else (
  if (igt (llen a0.hyps) 16) = true then (
  some ([], 3))
  else (
  chk (okApp [] a0.types) <|
  joinB ((un2 fun (v699 : (List Ty)) (v700 : Int) =>
  if (ilt v700 (llen a0.hyps)) = true then (
  joinB (fun (v804 : (List Ty)) =>
  some (.next (v804, (iadd .i64 v700 1)))) fun j805 =>
  bind1 (lget a0.hyps v700) fun x823 =>
  bind2 (ref23_Type x823) fun x826 x827 =>
  if (ine x827 0) = true then (
  some (.ret ([], x827)))
  else (
  bind1 (ref23_Has x823) fun x859 =>
  if x859 = true then (
  chk (okApp v699 [x826]) <|
  j805 (lapp v699 [x826]))
  else (
  j805 v699)))
  else (
  some (.brk (v699, v700)))) : ((List Ty) × Int) → (Option (Ctl ((List Ty) × Int) ((List Ty) × Int)))) fun F701 =>
  bind1 (loopN F701 FU ((lapp [] a0.types), 0)) (sumK (un2 fun (v699 : (List Ty)) (v700 : Int) =>
  some (v699, 0)) (fun r => some r))))

def ref23_Places (a0 : Sq) : Option ((List Int) × Int) :=
  bind2 (ref23_Context a0) fun x32 x33 =>
  if (ine x33 0) = true then (
  some ([], x33))
  else (
  joinB ((un3 fun (v460 : (List Int)) (v461 : Int) (v462 : Int) =>
  if (ilt v462 (llen a0.hyps)) = true then (
  joinB (fun (v538 : (List Int)) (v539 : Int) =>
  some (.next (v538, v539, (iadd .i64 v462 1)))) fun j540 =>
  bind1 (lget a0.hyps v462) fun x557 =>
  bind1 (ref23_Has x557) fun x560 =>
  if x560 = true then (
  chk (okApp v460 [v461]) <|
  j540 (lapp v460 [v461]) (iadd .i64 v461 1))
  else (
  chk (okApp v460 [(-1)]) <|
  j540 (lapp v460 [(-1)]) v461))
  else (
  some (.brk (v460, v461, v462)))) : ((List Int) × Int × Int) → (Option (Ctl ((List Int) × Int × Int) ((List Int) × Int)))) fun F463 =>
  bind1 (loopN F463 FU ([], (llen a0.types), 0)) (sumK (un3 fun (v460 : (List Int)) (v461 : Int) (v462 : Int) =>
  some (v460, 0)) (fun r => some r)))

def ref01_SameAll (a0 : (List Ty)) (a1 : (List Ty)) : Option (Bool) :=
  if (ine (llen a0) (llen a1)) = true then (
  some false)
  else (
  chk (okLen a0) <|
  joinB (fun (j112 : Int) (x114 : Ty) => (fun (_ : Unit) =>
  bind1 (lget a1 j112) fun x271 =>
  bind1 (ref01_Same FU x114 x271) fun x274 =>
  if x274 = true then (
  some (.next ()))
  else (
  some (.ret false))) : Int → Ty → (Unit) → (Option (Ctl (Unit) (Bool)))) fun F191 =>
  bind1 (forR F191 a0 0 ()) (sumK (fun (_ : Unit) =>
  some true) (fun r => some r)))

def ref05_Ints (a0 : (List Int)) (a1 : (List Int)) : Option (Bool) :=
  if (ine (llen a0) (llen a1)) = true then (
  some false)
  else (
  chk (okLen a0) <|
  joinB (fun (j100 : Int) (x102 : Int) => (fun (_ : Unit) =>
  bind1 (lget a1 j100) fun x238 =>
  if (ine x102 x238) = true then (
  some (.ret false))
  else (
  some (.next ()))) : Int → Int → (Unit) → (Option (Ctl (Unit) (Bool)))) fun F167 =>
  bind1 (forR F167 a0 0 ()) (sumK (fun (_ : Unit) =>
  some true) (fun r => some r)))

def law23_ContentExact (a0 : (List Int)) (a1 : Fm) (a2 : Sq) : Option (Bool) :=
  joinB (fun (v121 : Bool) =>
  if v121 = true then (
  bind1 (law23_awake) fun x168 =>
  some x168)
  else (
  bind1 (mk_New a0) fun x176 =>
  bind2 (mk_Sequent x176) fun x185 d186 =>
  bind2 (mk_Formula FU d186 x185.types 4) fun x339 d340 =>
  joinB ([a1, x339] : List Fm) fun L343 =>
  chk (okLen L343) <|
  joinB (fun (j344 : Int) (x346 : Fm) => (fun (_ : Unit) =>
  bind2 (content_Type x346) fun x579 x580 =>
  bind2 (ref23_Type x346) fun x589 x590 =>
  joinB (fun (v602 : Bool) =>
  if v602 = true then (
  some (.ret false))
  else (
  some (.next ()))) fun j603 =>
  if (ine x580 x590) = true then (
  j603 true)
  else (
  bind1 (ref01_Same FU x579 x589) fun x610 =>
  j603 (bnot x610))) : Int → Fm → (Unit) → (Option (Ctl (Unit) (Bool)))) fun F475 =>
  bind1 (forR F475 L343 0 ()) (sumK (fun (_ : Unit) =>
  joinB ([a2, x185] : List Sq) fun L848 =>
  chk (okLen L848) <|
  joinB (fun (j849 : Int) (x851 : Sq) => (fun (_ : Unit) =>
  bind2 (content_Context x851) fun x1198 x1199 =>
  bind2 (ref23_Context x851) fun x1208 x1209 =>
  bind2 (content_Places x851) fun x1218 x1219 =>
  bind2 (ref23_Places x851) fun x1228 x1229 =>
  joinB (fun (v1250 : Bool) =>
  if v1250 = true then (
  some (.ret false))
  else (
  some (.next ()))) fun j1251 =>
  if (ine x1199 x1209) = true then (
  j1251 true)
  else (
  if (ine x1219 x1229) = true then (
  j1251 true)
  else (
  bind1 (ref01_SameAll x1198 x1208) fun x1261 =>
  if x1261 = true then (
  bind1 (ref05_Ints x1218 x1228) fun x1267 =>
  j1251 (bnot x1267))
  else (
  j1251 true)))) : Int → Sq → (Unit) → (Option (Ctl (Unit) (Bool)))) fun F1056 =>
  bind1 (forR F1056 L848 0 ()) (sumK (fun (_ : Unit) =>
  some true) (fun r => some r))) (fun r => some r)))) fun j122 =>
  bind1 (law23_awake) fun x126 =>
  if x126 = true then (
  bind1 (mk_Few a0) fun x132 =>
  if x132 = true then (
  bind1 (play_Count) fun x138 =>
  bind1 (play_Sum_Formula x138 [a1]) fun x141 =>
  bind1 (play_Sum_Sequent x141 a2) fun x144 =>
  bind1 (play_Sum_Few x144) fun x147 =>
  if x147 = true then (
  if (igt (llen a2.types) 40) = true then (
  j122 true)
  else (
  j122 (igt (llen a2.hyps) 30)))
  else (
  j122 true))
  else (
  j122 true))
  else (
  j122 true)

def ref23_Nat  : Option (Ty) :=
  some (Ty.mk 1 [])

def play_Nat  : Option (Ty) :=
  bind1 (ref23_Nat) fun x8 =>
  some x8

def ref03_Least : Nat → Tm → Int → Option (Bool)
  | 0, _, _ => none
  | n + 1, a0, a1 =>
  if (igt a0.index a1) = true then (
  some false)
  else (
  chk (okLen a0.args) <|
  joinB (fun (j100 : Int) (x102 : Tm) => (fun (_ : Unit) =>
  bind1 (ref03_Least n x102 a1) fun x238 =>
  if x238 = true then (
  some (.next ()))
  else (
  some (.ret false))) : Int → Tm → (Unit) → (Option (Ctl (Unit) (Bool)))) fun F167 =>
  bind1 (forR F167 a0.args 0 ()) (sumK (fun (_ : Unit) =>
  some true) (fun r => some r)))

def ref07_Least : Nat → Fm → Int → Option (Bool)
  | 0, _, _ => none
  | n + 1, a0, a1 =>
  chk (okLen a0.terms) <|
  joinB (fun (j76 : Int) (x78 : Tm) => (fun (_ : Unit) =>
  bind1 (ref03_Least FU x78 a1) fun x214 =>
  if x214 = true then (
  some (.next ()))
  else (
  some (.ret false))) : Int → Tm → (Unit) → (Option (Ctl (Unit) (Bool)))) fun F143 =>
  bind1 (forR F143 a0.terms 0 ()) (sumK (fun (_ : Unit) =>
  chk (okLen a0.args) <|
  joinB (fun (j311 : Int) (x313 : Fm) => (fun (_ : Unit) =>
  bind1 (ref07_Least n x313 a1) fun x449 =>
  if x449 = true then (
  some (.next ()))
  else (
  some (.ret false))) : Int → Fm → (Unit) → (Option (Ctl (Unit) (Bool)))) fun F378 =>
  bind1 (forR F378 a0.args 0 ()) (sumK (fun (_ : Unit) =>
  some true) (fun r => some r))) (fun r => some r))

def ref03_below (a0 : Tm) : Option (Int) :=
  if (ieq a0.kind 2) = true then (
  some 1)
  else (
  some 0)

def ref03_Up : Nat → Tm → Int → Int → Option (Tm)
  | 0, _, _, _ => none
  | n + 1, a0, a1, a2 =>
  chk (okLen a0.args) <|
  joinB (fun (j142 : Int) (x144 : Tm) => (fun (v237 : (List Tm)) =>
  bind1 (ref03_below a0) fun x295 =>
  bind1 (ref03_Up n x144 (iadd .i64 a1 x295) a2) fun x298 =>
  chk (okApp v237 [x298]) <|
  some (.next (lapp v237 [x298]))) : Int → Tm → ((List Tm)) → (Option (Ctl ((List Tm)) (Tm)))) fun F238 =>
  bind1 (forR F238 a0.args 0 []) (sumK (fun (v237 : (List Tm)) =>
  some (Tm.mk a0.kind (sel (sel (ieq a0.kind 1) (ige a0.index a1) false) (iadd .i64 a0.index a2) a0.index) a0.typeF v237)) (fun r => some r))

def ref07_below (a0 : Fm) : Option (Int) :=
  bind1 (ref07_quantifier a0.kind) fun x27 =>
  if x27 = true then (
  some 1)
  else (
  some 0)

def ref07_Up : Nat → Fm → Int → Int → Option (Fm)
  | 0, _, _, _ => none
  | n + 1, a0, a1, a2 =>
  chk (okLen a0.terms) <|
  joinB (fun (j95 : Int) (x97 : Tm) => (fun (v178 : (List Tm)) =>
  bind1 (ref03_Up FU x97 a1 a2) fun x233 =>
  chk (okApp v178 [x233]) <|
  some (.next (lapp v178 [x233]))) : Int → Tm → ((List Tm)) → (Option (Ctl ((List Tm)) (Fm)))) fun F179 =>
  bind1 (forR F179 a0.terms 0 []) (sumK (fun (v178 : (List Tm)) =>
  chk (okLen a0.args) <|
  joinB (fun (j352 : Int) (x354 : Fm) => (fun (v447 : (List Fm)) =>
  bind1 (ref07_below a0) fun x505 =>
  bind1 (ref07_Up n x354 (iadd .i64 a1 x505) a2) fun x508 =>
  chk (okApp v447 [x508]) <|
  some (.next (lapp v447 [x508]))) : Int → Fm → ((List Fm)) → (Option (Ctl ((List Fm)) (Fm)))) fun F448 =>
  bind1 (forR F448 a0.args 0 []) (sumK (fun (v447 : (List Fm)) =>
  some (Fm.mk a0.kind a0.typeF v178 v447)) (fun r => some r))) (fun r => some r))

def ref07_Lift (a0 : Fm) (a1 : Int) (a2 : Int) : Option (Fm × Int) :=
  bind1 (ref07_Check a0) fun x29 =>
  if (ine x29 0) = true then (
  some ((Fm.mk 0 (Ty.mk 0 []) [] []), x29))
  else (
  joinB (fun (v110 : Bool) =>
  if v110 = true then (
  some ((Fm.mk 0 (Ty.mk 0 []) [] []), 1))
  else (
  bind1 (ref07_Up FU a0 a1 a2) fun x147 =>
  bind1 (ref07_Copy FU x147) fun x150 =>
  some (x150, 0))) fun j111 =>
  if (ilt a1 0) = true then (
  j111 true)
  else (
  if (igt a1 4096) = true then (
  j111 true)
  else (
  if (ilt a2 0) = true then (
  j111 true)
  else (
  if (igt a2 4096) = true then (
  j111 true)
  else (
  bind1 (ref07_Least FU a0 536870912) fun x127 =>
  j111 (bnot x127))))))

def ref02_Check (a0 : Tm) : Option (Int) :=
  bind1 (ref02_Shape FU a0) fun x27 =>
  if x27 = true then (
  bind1 (ref02_Count FU a0) fun x61 =>
  if (igt x61 4096) = true then (
  some 4)
  else (
  some 0))
  else (
  some 2)

def ref03_Times : Nat → Tm → Int → Option (Int)
  | 0, _, _ => none
  | n + 1, a0, a1 =>
  chk (okLen a0.args) <|
  joinB (fun (j134 : Int) (x136 : Tm) => (fun (v221 : Int) =>
  bind1 (ref03_below a0) fun x277 =>
  bind1 (ref03_Times n x136 (iadd .i64 a1 x277)) fun x280 =>
  some (.next (iadd .i64 v221 x280))) : Int → Tm → (Int) → (Option (Ctl (Int) (Int)))) fun F222 =>
  bind1 (forR F222 a0.args 0 (sel (sel (ieq a0.kind 1) (ieq a0.index a1) false) (iadd .i64 0 1) 0)) (sumK (fun (v221 : Int) =>
  some v221) (fun r => some r))

def ref07_times : Nat → Fm → Int → Option (Int)
  | 0, _, _ => none
  | n + 1, a0, a1 =>
  chk (okLen a0.terms) <|
  joinB (fun (j87 : Int) (x89 : Tm) => (fun (v162 : Int) =>
  bind1 (ref03_Times FU x89 a1) fun x215 =>
  some (.next (iadd .i64 v162 x215))) : Int → Tm → (Int) → (Option (Ctl (Int) (Int)))) fun F163 =>
  bind1 (forR F163 a0.terms 0 0) (sumK (fun (v162 : Int) =>
  chk (okLen a0.args) <|
  joinB (fun (j324 : Int) (x326 : Fm) => (fun (v411 : Int) =>
  bind1 (ref07_below a0) fun x467 =>
  bind1 (ref07_times n x326 (iadd .i64 a1 x467)) fun x470 =>
  some (.next (iadd .i64 v411 x470))) : Int → Fm → (Int) → (Option (Ctl (Int) (Int)))) fun F412 =>
  bind1 (forR F412 a0.args 0 v162) (sumK (fun (v411 : Int) =>
  some v411) (fun r => some r))) (fun r => some r))

def ref03_In : Nat → Tm → Int → Int → Tm → Option (Tm)
  | 0, _, _, _, _ => none
  | n + 1, a0, a1, a2, a3 =>
  if (ieq a0.kind 1) = true then (
  if (ieq a0.index (iadd .i64 a1 a2)) = true then (
  bind1 (ref03_Up FU a3 0 (iadd .i64 a1 a2)) fun x130 =>
  some x130)
  else (
  if (igt a0.index (iadd .i64 a1 a2)) = true then (
  bind1 (ref02_Var (isub .i64 a0.index 1)) fun x166 =>
  some x166)
  else (
  some a0)))
  else (
  chk (okLen a0.args) <|
  joinB (fun (j275 : Int) (x277 : Tm) => (fun (v370 : (List Tm)) =>
  bind1 (ref03_below a0) fun x428 =>
  bind1 (ref03_In n x277 a1 (iadd .i64 a2 x428) a3) fun x431 =>
  chk (okApp v370 [x431]) <|
  some (.next (lapp v370 [x431]))) : Int → Tm → ((List Tm)) → (Option (Ctl ((List Tm)) (Tm)))) fun F371 =>
  bind1 (forR F371 a0.args 0 []) (sumK (fun (v370 : (List Tm)) =>
  some (Tm.mk a0.kind a0.index a0.typeF v370)) (fun r => some r)))

def ref07_In : Nat → Fm → Int → Int → Tm → Option (Fm)
  | 0, _, _, _, _ => none
  | n + 1, a0, a1, a2, a3 =>
  chk (okLen a0.terms) <|
  joinB (fun (j95 : Int) (x97 : Tm) => (fun (v178 : (List Tm)) =>
  bind1 (ref03_In FU x97 a1 a2 a3) fun x233 =>
  chk (okApp v178 [x233]) <|
  some (.next (lapp v178 [x233]))) : Int → Tm → ((List Tm)) → (Option (Ctl ((List Tm)) (Fm)))) fun F179 =>
  bind1 (forR F179 a0.terms 0 []) (sumK (fun (v178 : (List Tm)) =>
  chk (okLen a0.args) <|
  joinB (fun (j352 : Int) (x354 : Fm) => (fun (v447 : (List Fm)) =>
  bind1 (ref07_below a0) fun x505 =>
  bind1 (ref07_In n x354 a1 (iadd .i64 a2 x505) a3) fun x508 =>
  chk (okApp v447 [x508]) <|
  some (.next (lapp v447 [x508]))) : Int → Fm → ((List Fm)) → (Option (Ctl ((List Fm)) (Fm)))) fun F448 =>
  bind1 (forR F448 a0.args 0 []) (sumK (fun (v447 : (List Fm)) =>
  some (Fm.mk a0.kind a0.typeF v178 v447)) (fun r => some r))) (fun r => some r))

def ref07_Put (a0 : Fm) (a1 : Int) (a2 : Tm) : Option (Fm × Int) :=
  bind1 (ref07_Check a0) fun x29 =>
  if (ine x29 0) = true then (
  some ((Fm.mk 0 (Ty.mk 0 []) [] []), x29))
  else (
  if (sel (ilt a1 0) true (igt a1 4096)) = true then (
  some ((Fm.mk 0 (Ty.mk 0 []) [] []), 1))
  else (
  bind1 (ref02_Check a2) fun x107 =>
  if (ine x107 0) = true then (
  some ((Fm.mk 0 (Ty.mk 0 []) [] []), x107))
  else (
  joinB (fun (v170 : Bool) =>
  if v170 = true then (
  some ((Fm.mk 0 (Ty.mk 0 []) [] []), 1))
  else (
  bind1 (ref07_Count FU a0) fun x235 =>
  bind1 (ref07_times FU a0 a1) fun x238 =>
  bind1 (ref02_Count FU a2) fun x241 =>
  if (igt (iadd .i64 x235 (imul .i64 x238 (isub .i64 x241 1))) 4096) = true then (
  some ((Fm.mk 0 (Ty.mk 0 []) [] []), 4))
  else (
  bind1 (ref07_In FU a0 a1 0 a2) fun x261 =>
  bind1 (ref07_Copy FU x261) fun x264 =>
  some (x264, 0)))) fun j171 =>
  bind1 (ref07_Least FU a0 536870912) fun x175 =>
  if x175 = true then (
  bind1 (ref03_Least FU a2 536870912) fun x181 =>
  j171 (bnot x181))
  else (
  j171 true))))

def law23_ContentKeeps (a0 : (List Int)) : Option (Bool) :=
  joinB (fun (v58 : Bool) =>
  if v58 = true then (
  bind1 (law23_awake) fun x84 =>
  some x84)
  else (
  bind1 (mk_New a0) fun x92 =>
  bind2 (mk_Context x92) fun x101 d102 =>
  chk (okApp [] x101) <|
  bind1 (play_Nat) fun x120 =>
  chk (okApp (lapp [] x101) [x120]) <|
  bind2 (mk_Formula FU d102 (lapp (lapp [] x101) [x120]) 3) fun x125 d126 =>
  bind2 (content_Type x125) fun x135 x136 =>
  bind2 (mk_Deck_Next d126 3) fun x149 d150 =>
  bind2 (ref07_Lift x125 0 (iadd .i64 1 x149)) fun x153 x154 =>
  bind1 (play_Nat) fun x170 =>
  bind2 (mk_Term FU d150 x101 x170 2) fun x173 d174 =>
  bind2 (ref07_Put x125 0 x173) fun x177 x178 =>
  if (sel (ine x154 0) true (ine x178 0)) = true then (
  some (sel (ieq x154 4) true (ieq x178 4)))
  else (
  bind2 (content_Type x153) fun x239 x240 =>
  bind2 (content_Type x177) fun x249 x250 =>
  joinB (fun (v271 : Bool) =>
  some v271) fun j272 =>
  if (ieq x136 x240) = true then (
  if (ieq x136 x250) = true then (
  bind1 (ref01_Same FU x135 x239) fun x282 =>
  if x282 = true then (
  bind1 (ref01_Same FU x135 x249) fun x288 =>
  j272 x288)
  else (
  j272 false))
  else (
  j272 false))
  else (
  j272 false)))) fun j59 =>
  bind1 (law23_awake) fun x63 =>
  if x63 = true then (
  bind1 (mk_Few a0) fun x69 =>
  j59 (bnot x69))
  else (
  j59 true)

def law23_limits (a0 : Int) : Option (Bool) :=
  some (sel (ieq a0 4) true (sel (ieq a0 5) true (ieq a0 3)))

def law23_ContentNone (a0 : (List Int)) : Option (Bool) :=
  joinB (fun (v58 : Bool) =>
  if v58 = true then (
  bind1 (law23_awake) fun x84 =>
  some x84)
  else (
  bind1 (mk_New a0) fun x92 =>
  bind2 (mk_Formula FU x92 [] 3) fun x105 d106 =>
  bind2 (mk_Formula FU d106 [] 2) fun x109 d110 =>
  bind2 (ref08_Content x105) fun x119 x120 =>
  bind2 (content_Type x105) fun x129 x130 =>
  bind2 (content_Type x109) fun x139 x140 =>
  bind2 (content_Type (Fm.mk 3 (Ty.mk 0 []) [] [x105, x109])) fun x151 x152 =>
  if (sel (ine x120 0) true (sel (ine x130 0) true (sel (ine x140 0) true (ine x152 0)))) = true then (
  joinB (fun (v269 : Bool) =>
  some v269) fun j270 =>
  bind1 (law23_limits x130) fun x274 =>
  if x274 = true then (
  j270 true)
  else (
  bind1 (law23_limits x140) fun x280 =>
  if x280 = true then (
  j270 true)
  else (
  bind1 (law23_limits x152) fun x286 =>
  j270 x286)))
  else (
  if x119 = true then (
  bind2 (ref08_Content x109) fun x335 x336 =>
  joinB (fun (v357 : Bool) =>
  some v357) fun j358 =>
  if (ieq x336 0) = true then (
  if x335 = true then (
  bind1 (ref23_Fun x129 x139) fun x368 =>
  bind1 (ref01_Same FU x151 x368) fun x371 =>
  if x371 = true then (
  j358 true)
  else (
  j358 false))
  else (
  j358 (ieq x151.kind 5)))
  else (
  j358 false))
  else (
  joinB (fun (v386 : Bool) =>
  some v386) fun j387 =>
  if (ieq x129.kind 5) = true then (
  bind1 (ref01_Same FU x139 x151) fun x394 =>
  j387 x394)
  else (
  j387 false))))) fun j59 =>
  bind1 (law23_awake) fun x63 =>
  if x63 = true then (
  bind1 (mk_Few a0) fun x69 =>
  j59 (bnot x69))
  else (
  j59 true)

def law23_ContentUniform (a0 : (List Int)) : Option (Bool) :=
  joinB (fun (v58 : Bool) =>
  if v58 = true then (
  bind1 (law23_awake) fun x84 =>
  some x84)
  else (
  bind1 (mk_New a0) fun x92 =>
  bind2 (mk_Type FU x92 1) fun x101 d102 =>
  bind2 (mk_Formula FU d102 [x101] 3) fun x111 d112 =>
  bind2 (content_Type x111) fun x121 x122 =>
  bind2 (ref08_Content x111) fun x131 x132 =>
  if (sel (ine x122 0) true (ine x132 0)) = true then (
  bind1 (law23_limits x122) fun x182 =>
  some x182)
  else (
  joinB ([6, 7] : List Int) fun L307 =>
  chk (okLen L307) <|
  joinB (fun (j308 : Int) (x310 : Int) => (fun (_ : Unit) =>
  bind2 (content_Type (Fm.mk x310 x101 [] [x111])) fun x521 x522 =>
  joinB (fun (v534 : Bool) =>
  if v534 = true then (
  some (.ret false))
  else (
  some (.next ()))) fun j535 =>
  if (ine x522 0) = true then (
  j535 true)
  else (
  bind1 (ref01_Same FU x521 x121) fun x542 =>
  j535 (bnot x542))) : Int → Int → (Unit) → (Option (Ctl (Unit) (Bool)))) fun F423 =>
  bind1 (forR F423 L307 0 ()) (sumK (fun (_ : Unit) =>
  bind2 (content_Type (Fm.mk 4 x101 [] [x111])) fun x574 x575 =>
  bind2 (content_Type (Fm.mk 5 x101 [] [x111])) fun x586 x587 =>
  if (sel (ine x575 0) true (ine x587 0)) = true then (
  joinB (fun (v662 : Bool) =>
  some v662) fun j663 =>
  bind1 (law23_limits x575) fun x667 =>
  if x667 = true then (
  j663 true)
  else (
  bind1 (law23_limits x587) fun x673 =>
  j663 x673))
  else (
  if x131 = true then (
  joinB (fun (v734 : Bool) =>
  some v734) fun j735 =>
  bind1 (ref23_Fun x101 x121) fun x739 =>
  bind1 (ref01_Same FU x574 x739) fun x742 =>
  if x742 = true then (
  bind1 (ref23_Pair x101 x121) fun x748 =>
  bind1 (ref01_Same FU x586 x748) fun x751 =>
  j735 x751)
  else (
  j735 false))
  else (
  joinB (fun (v763 : Bool) =>
  some v763) fun j764 =>
  if (ieq x574.kind 5) = true then (
  bind1 (ref01_Same FU x586 x101) fun x771 =>
  j764 x771)
  else (
  j764 false)))) (fun r => some r))))) fun j59 =>
  bind1 (law23_awake) fun x63 =>
  if x63 = true then (
  bind1 (mk_Few a0) fun x69 =>
  j59 (bnot x69))
  else (
  j59 true)

end Go.Mdl
