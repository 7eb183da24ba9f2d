/- Models of the functions: what they compute, in plain Lean. -/
import Derived.Test.YtnabbjnhemmkhaaDoorRT
import Derived.Test.YtnabbjnhemmkhaaDoorSort
set_option maxRecDepth 20000
set_option linter.unusedSimpArgs false
set_option linter.unusedVariables false
namespace Go.Mdl
open Go

def ref01_Nat  : Option (Ty) :=
  some (Ty.mk 1 [])

def ref02_Var (a0 : Int) : Option (Tm) :=
  some (Tm.mk 1 a0 (Ty.mk 0 []) [])

def ref01_Copy : Nat → Ty → Option (Ty)
  | 0, _ => none
  | n + 1, a0 =>
  chk (okLen a0.args) <|
  joinB (fun (j95 : Int) (x97 : Ty) => (fun (v178 : (List Ty)) =>
  bind1 (ref01_Copy n x97) fun x233 =>
  chk (okApp v178 [x233]) <|
  some (.next (lapp v178 [x233]))) : Int → Ty → ((List Ty)) → (Option (Ctl ((List Ty)) (Ty)))) fun F179 =>
  bind1 (forR F179 a0.args 0 []) (sumK (fun (v178 : (List Ty)) =>
  some (Ty.mk a0.kind v178)) (fun r => some r))

def ref02_Copy : Nat → Tm → Option (Tm)
  | 0, _ => none
  | n + 1, a0 =>
  chk (okLen a0.args) <|
  joinB (fun (j95 : Int) (x97 : Tm) => (fun (v178 : (List Tm)) =>
  bind1 (ref02_Copy n x97) fun x233 =>
  chk (okApp v178 [x233]) <|
  some (.next (lapp v178 [x233]))) : Int → Tm → ((List Tm)) → (Option (Ctl ((List Tm)) (Tm)))) fun F179 =>
  bind1 (forR F179 a0.args 0 []) (sumK (fun (v178 : (List Tm)) =>
  bind1 (ref01_Copy FU a0.typeF) fun x261 =>
  some (Tm.mk a0.kind a0.index x261 v178)) (fun r => some r))

def ref02_N (a0 : Int) (a1 : (List Tm)) : Option (Tm) :=
  chk (okLen a1) <|
  joinB (fun (j95 : Int) (x97 : Tm) => (fun (v178 : (List Tm)) =>
  bind1 (ref02_Copy FU x97) fun x233 =>
  chk (okApp v178 [x233]) <|
  some (.next (lapp v178 [x233]))) : Int → Tm → ((List Tm)) → (Option (Ctl ((List Tm)) (Tm)))) fun F179 =>
  bind1 (forR F179 a1 0 []) (sumK (fun (v178 : (List Tm)) =>
  some (Tm.mk a0 0 (Ty.mk 0 []) v178)) (fun r => some r))

def ref02_T (a0 : Int) (a1 : Ty) (a2 : (List Tm)) : Option (Tm) :=
  bind1 (ref02_N a0 a2) fun x8 =>
  bind1 (ref01_Copy FU a1) fun x16 =>
  some (Tm.mk x8.kind x8.index x16 x8.args)

def tree_Arity (a0 : Int) : Option (Int × Bool) :=
  if (sel (ilt a0 1) true (ige a0 14)) = true then (
  some (0, false))
  else (
  bind1 (lget tree_arities a0) fun x46 =>
  some (x46, true))

def tree_Typed (a0 : Int) : Option (Bool) :=
  some (sel (ieq a0 2) true (sel (ieq a0 6) true (ieq a0 9)))

def tree_typeNodes : Nat → Ty → Option (Int × Bool)
  | 0, _ => none
  | n + 1, a0 =>
  joinB (fun (v91 : Int) =>
  if (ine (llen a0.args) v91) = true then (
  some (0, false))
  else (
  chk (okLen a0.args) <|
  joinB (fun (j411 : Int) (x413 : Ty) => (fun (v610 : Int) =>
  bind2 (tree_typeNodes n x413) fun x700 x701 =>
  if x701 = true then (
  some (.next (iadd .i64 v610 x700)))
  else (
  some (.ret (0, false)))) : Int → Ty → (Int) → (Option (Ctl (Int) (Int × Bool)))) fun F611 =>
  bind1 (forR F611 a0.args 0 1) (sumK (fun (v610 : Int) =>
  some (v610, true)) (fun r => some r)))) fun j92 =>
  if (sel (ieq a0.kind 1) true (sel (ieq a0.kind 2) true (ieq a0.kind 5))) = true then (
  j92 0)
  else (
  if (sel (ieq a0.kind 3) true (ieq a0.kind 4)) = true then (
  j92 2)
  else (
  some (0, false)))

def tree_CheckType (a0 : Ty) : Option (Int × Int) :=
  bind2 (tree_typeNodes FU a0) fun x9 x10 =>
  if x10 = true then (
  if (igt x9 64) = true then (
  some (0, 4))
  else (
  some (x9, 0)))
  else (
  some (0, 2))

def tree_NoType (a0 : Ty) : Option (Bool) :=
  some (sel (ieq a0.kind 0) (ieq (llen a0.args) 0) false)

def tree_termNodes : Nat → Tm → Option (Int × Bool)
  | 0, _ => none
  | n + 1, a0 =>
  bind2 (tree_Arity a0.kind) fun x9 x10 =>
  if (sel x10 (sel (ine (llen a0.args) x9) true (sel (ilt a0.index 0) true (sel (ine a0.index 0) (ine a0.kind 1) false))) true) = true then (
  some (0, false))
  else (
  joinB (chk (okLen a0.args) <|
  joinB (fun (j408 : Int) (x410 : Tm) => (fun (v607 : Int) =>
  bind2 (tree_termNodes n x410) fun x697 x698 =>
  if x698 = true then (
  some (.next (iadd .i64 v607 x697)))
  else (
  some (.ret (0, false)))) : Int → Tm → (Int) → (Option (Ctl (Int) (Int × Bool)))) fun F608 =>
  bind1 (forR F608 a0.args 0 1) (sumK (fun (v607 : Int) =>
  some (v607, true)) (fun r => some r))) fun j143 =>
  bind1 (tree_Typed a0.kind) fun x152 =>
  if x152 = true then (
  bind2 (tree_CheckType a0.typeF) fun x168 x169 =>
  if (ine x169 0) = true then (
  some (0, false))
  else (
  j143))
  else (
  bind1 (tree_NoType a0.typeF) fun x188 =>
  if x188 = true then (
  j143)
  else (
  some (0, false))))

def tree_CheckTerm (a0 : Tm) : Option (Int × Int) :=
  bind2 (tree_termNodes FU a0) fun x9 x10 =>
  if x10 = true then (
  if (igt x9 4096) = true then (
  some (0, 4))
  else (
  some (x9, 0)))
  else (
  some (0, 2))

def terms_Check (a0 : Tm) : Option (Int) :=
  bind2 (tree_CheckTerm a0) fun x9 x10 =>
  some x10

def tree_Near_1 (a0 : Int) (a1 : Int) (cv0 : Bool) : Option (Bool) :=
  if cv0 = true then (
  some (ile a0 536870912))
  else (
  some false)

def tree_Each_1 {S : Type} : Nat → Tm → Int → (S → Int → Int → Option (S)) → S → Option (S)
  | 0, _, _, _, _ => none
  | n + 1, a0, a1, cv0, s0 =>
  joinB (fun (v18 : S) =>
  chk (okLen a0.args) <|
  joinB (fun (j58 : Int) (x60 : Tm) => (fun (v133 : S) =>
  bind1 (tree_Each_1 n x60 (sel (ieq a0.kind 2) (iadd .i64 a1 1) a1) cv0 v133) fun s186 =>
  some (.next s186)) : Int → Tm → (S) → (Option (Ctl (S) (S)))) fun F134 =>
  bind1 (forR F134 a0.args 0 v18) (sumK (fun (v133 : S) =>
  some v133) (fun r => some r))) fun j19 =>
  if (ieq a0.kind 1) = true then (
  bind1 (cv0 s0 a0.index a1) fun x32 =>
  j19 x32)
  else (
  j19 s0)

def tree_Each {S : Type} (a0 : Tm) (a1 : (S → Int → Int → Option (S))) (s0 : S) : Option (S) :=
  bind1 (tree_Each_1 FU a0 0 a1 s0) fun s7 =>
  some s7

def tree_Near (a0 : Tm) : Option (Bool) :=
  bind1 (tree_Each a0 (fun (s : Bool) (y0 : Int) (y1 : Int) => tree_Near_1 y0 y1 s) true) fun s10 =>
  some s10

def graph_build (a0 : Int) (a1 : Int) (a2 : Ty) (a3 : (List (Option Nat))) (nh : List HC) : Option ((Option Nat) × List HC) :=
  chk (okLen a3) <|
  joinB (fun (j279 : Int) (x281 : (Option Nat)) => (fun (v542 : List HC) =>
  bind1 (HC.get_cgraph_Node v542 (List.length nh)) fun x683 =>
  bind1 (x281) fun x686 =>
  bind1 (HC.get_cgraph_Node v542 x686) fun x689 =>
  bind1 (HC.get_cgraph_Node (hput v542 (List.length nh) (HC.cgraph_Node (Sgraph_Node.mk x683.kind x683.index x683.typ x683.args (iadd .i64 x683.size x689.size) x683.free x683.normal))) x686) fun x699 =>
  some (.next (hput (hput v542 (List.length nh) (HC.cgraph_Node (Sgraph_Node.mk x683.kind x683.index x683.typ x683.args (iadd .i64 x683.size x689.size) x683.free x683.normal))) (List.length nh) (HC.cgraph_Node (Sgraph_Node.mk x683.kind x683.index x683.typ x683.args (iadd .i64 x683.size x689.size) (imax x683.free x699.free) x683.normal))))) : Int → (Option Nat) → (List HC) → (Option (Ctl (List HC) ((Option Nat) × List HC)))) fun F543 =>
  bind1 (forR F543 a3 0 (nh ++ [HC.cgraph_Node (Sgraph_Node.mk a0 a1 a2 a3 1 0 false)])) (sumK (fun (v542 : List HC) =>
  joinB (fun (v754 : List HC) =>
  some ((some (List.length nh)), v754)) fun j755 =>
  if (ieq a0 1) = true then (
  bind1 (HC.get_cgraph_Node v542 (List.length nh)) fun x775 =>
  j755 (hput v542 (List.length nh) (HC.cgraph_Node (Sgraph_Node.mk x775.kind x775.index x775.typ x775.args x775.size (iadd .i64 a1 1) x775.normal))))
  else (
  if (ieq a0 2) = true then (
  bind1 (HC.get_cgraph_Node v542 (List.length nh)) fun x789 =>
  j755 (hput v542 (List.length nh) (HC.cgraph_Node (Sgraph_Node.mk x789.kind x789.index x789.typ x789.args x789.size (imax 0 (isub .i64 x789.free 1)) x789.normal))))
  else (
  j755 v542))) (fun r => some r))

def graph_From : Nat → Tm → List HC → Option ((Option Nat) × List HC)
  | 0, _, _ => none
  | n + 1, a0, nh =>
  chk (okLen a0.args) <|
  joinB (fun (j101 : Int) (x103 : Tm) => (un2 fun (v189 : (List (Option Nat))) (v190 : List HC) =>
  bind2 (graph_From n x103 v190) fun x246 nh247 =>
  chk (okApp v189 [x246]) <|
  some (.next ((lapp v189 [x246]), nh247))) : Int → Tm → ((List (Option Nat)) × List HC) → (Option (Ctl ((List (Option Nat)) × List HC) ((Option Nat) × List HC)))) fun F191 =>
  bind1 (forR F191 a0.args 0 ([], nh)) (sumK (un2 fun (v189 : (List (Option Nat))) (v190 : List HC) =>
  bind2 (graph_build a0.kind a0.index a0.typeF v189 v190) fun x270 nh271 =>
  some (x270, nh271)) (fun r => some r))

def graph_Node_Size (a0 : (Option Nat)) (nh : List HC) : Option (Int) :=
  bind1 (a0) fun x11 =>
  bind1 (HC.get_cgraph_Node nh x11) fun x14 =>
  some x14.size

def graph_Node_redex (a0 : (Option Nat)) (nh : List HC) : Option (Bool) :=
  bind1 (a0) fun x191 =>
  bind1 (HC.get_cgraph_Node nh x191) fun x194 =>
  if (ieq x194.kind 3) = true then (
  bind1 (lget x194.args 0) fun x222 =>
  bind1 (x222) fun x225 =>
  bind1 (HC.get_cgraph_Node nh x225) fun x228 =>
  some (ieq x228.kind 2))
  else (
  if (ieq x194.kind 6) = true then (
  joinB (fun (v255 : Bool) =>
  some v255) fun j256 =>
  bind1 (lget x194.args 2) fun x260 =>
  bind1 (x260) fun x263 =>
  bind1 (HC.get_cgraph_Node nh x263) fun x266 =>
  if (ieq x266.kind 4) = true then (
  j256 true)
  else (
  j256 (ieq x266.kind 5)))
  else (
  if (ieq x194.kind 9) = true then (
  joinB (fun (v296 : Bool) =>
  some v296) fun j297 =>
  bind1 (lget x194.args 2) fun x301 =>
  bind1 (x301) fun x304 =>
  bind1 (HC.get_cgraph_Node nh x304) fun x307 =>
  if (ieq x307.kind 7) = true then (
  j297 true)
  else (
  j297 (ieq x307.kind 8)))
  else (
  if (sel (ieq x194.kind 11) true (ieq x194.kind 12)) = true then (
  bind1 (lget x194.args 0) fun x352 =>
  bind1 (x352) fun x355 =>
  bind1 (HC.get_cgraph_Node nh x355) fun x358 =>
  some (ieq x358.kind 10))
  else (
  some false))))

def graph_Node_below (a0 : (Option Nat)) (nh : List HC) : Option (Int) :=
  bind1 (a0) fun x36 =>
  bind1 (HC.get_cgraph_Node nh x36) fun x39 =>
  if (ieq x39.kind 2) = true then (
  some 1)
  else (
  some 0)

def graph_Node_count : Nat → (Option Nat) → Int → List HC → Option (Int)
  | 0, _, _, _ => none
  | n + 1, a0, a1, nh =>
  bind1 (a0) fun x36 =>
  bind1 (HC.get_cgraph_Node nh x36) fun x39 =>
  if (ile x39.free a1) = true then (
  some 0)
  else (
  if (ieq x39.kind 1) = true then (
  if (ieq x39.index a1) = true then (
  some 1)
  else (
  some 0))
  else (
  chk (okLen x39.args) <|
  joinB (fun (j219 : Int) (x221 : (Option Nat)) => (fun (v306 : Int) =>
  bind1 (graph_Node_below (some x36) nh) fun x362 =>
  bind1 (graph_Node_count n x221 (iadd .i64 a1 x362) nh) fun x365 =>
  some (.next (iadd .i64 v306 x365))) : Int → (Option Nat) → (Int) → (Option (Ctl (Int) (Int)))) fun F307 =>
  bind1 (forR F307 x39.args 0 0) (sumK (fun (v306 : Int) =>
  some v306) (fun r => some r))))

def graph_Node_with (a0 : (Option Nat)) (a1 : (List (Option Nat))) (nh : List HC) : Option ((Option Nat) × List HC) :=
  bind1 (a0) fun x35 =>
  bind1 (HC.get_cgraph_Node nh x35) fun x38 =>
  bind2 (graph_build x38.kind x38.index x38.typ a1 nh) fun x41 nh42 =>
  some (x41, nh42)

def graph_Node_lift : Nat → (Option Nat) → Int → Int → List HC → Option ((Option Nat) × List HC)
  | 0, _, _, _, _ => none
  | n + 1, a0, a1, a2, nh =>
  joinB (fun (v52 : Bool) =>
  if v52 = true then (
  some (a0, nh))
  else (
  bind1 (a0) fun x124 =>
  bind1 (HC.get_cgraph_Node nh x124) fun x127 =>
  if (ieq x127.kind 1) = true then (
  bind2 (graph_build x127.kind (iadd .i64 x127.index a2) x127.typ [] nh) fun x151 nh152 =>
  some (x151, nh152))
  else (
  chk (okLen x127.args) <|
  joinB (fun (j265 : Int) (x267 : (Option Nat)) => (un2 fun (v365 : (List (Option Nat))) (v366 : List HC) =>
  bind1 (graph_Node_below (some x124) v366) fun x425 =>
  bind2 (graph_Node_lift n x267 (iadd .i64 a1 x425) a2 v366) fun x428 nh429 =>
  chk (okApp v365 [x428]) <|
  some (.next ((lapp v365 [x428]), nh429))) : Int → (Option Nat) → ((List (Option Nat)) × List HC) → (Option (Ctl ((List (Option Nat)) × List HC) ((Option Nat) × List HC)))) fun F367 =>
  bind1 (forR F367 x127.args 0 ([], nh)) (sumK (un2 fun (v365 : (List (Option Nat))) (v366 : List HC) =>
  bind2 (graph_Node_with (some x124) v365 v366) fun x452 nh453 =>
  some (x452, nh453)) (fun r => some r))))) fun j53 =>
  bind1 (a0) fun x57 =>
  bind1 (HC.get_cgraph_Node nh x57) fun x60 =>
  if (ile x60.free a1) = true then (
  j53 true)
  else (
  j53 (ieq a2 0))

def graph_Node_put : Nat → (Option Nat) → Int → (Option Nat) → List HC → Option ((Option Nat) × List HC)
  | 0, _, _, _, _ => none
  | n + 1, a0, a1, a2, nh =>
  bind1 (a0) fun x36 =>
  bind1 (HC.get_cgraph_Node nh x36) fun x39 =>
  if (ile x39.free a1) = true then (
  some (a0, nh))
  else (
  if (ieq x39.kind 1) = true then (
  if (ieq x39.index a1) = true then (
  bind2 (graph_Node_lift FU a2 0 a1 nh) fun x165 nh166 =>
  some (x165, nh166))
  else (
  bind2 (graph_build x39.kind (isub .i64 x39.index 1) x39.typ [] nh) fun x183 nh184 =>
  some (x183, nh184)))
  else (
  chk (okLen x39.args) <|
  joinB (fun (j297 : Int) (x299 : (Option Nat)) => (un2 fun (v397 : (List (Option Nat))) (v398 : List HC) =>
  bind1 (graph_Node_below (some x36) v398) fun x457 =>
  bind2 (graph_Node_put n x299 (iadd .i64 a1 x457) a2 v398) fun x460 nh461 =>
  chk (okApp v397 [x460]) <|
  some (.next ((lapp v397 [x460]), nh461))) : Int → (Option Nat) → ((List (Option Nat)) × List HC) → (Option (Ctl ((List (Option Nat)) × List HC) ((Option Nat) × List HC)))) fun F399 =>
  bind1 (forR F399 x39.args 0 ([], nh)) (sumK (un2 fun (v397 : (List (Option Nat))) (v398 : List HC) =>
  bind2 (graph_Node_with (some x36) v397 v398) fun x484 nh485 =>
  some (x484, nh485)) (fun r => some r))))

def graph_app (a0 : (Option Nat)) (a1 : (List (Option Nat))) (nh : List HC) : Option ((Option Nat) × List HC) :=
  chk (okLen a1) <|
  joinB (fun (j91 : Int) (x93 : (Option Nat)) => (un2 fun (v171 : (Option Nat)) (v172 : List HC) =>
  bind2 (graph_build 3 0 (Ty.mk 0 []) [v171, x93] v172) fun x226 nh227 =>
  some (.next (x226, nh227))) : Int → (Option Nat) → ((Option Nat) × List HC) → (Option (Ctl ((Option Nat) × List HC) ((Option Nat) × List HC)))) fun F173 =>
  bind1 (forR F173 a1 0 (a0, nh)) (sumK (un2 fun (v171 : (Option Nat)) (v172 : List HC) =>
  some (v171, v172)) (fun r => some r))

def graph_Node_contract (a0 : (Option Nat)) (nh : List HC) : Option ((Option Nat) × List HC) :=
  bind1 (a0) fun x189 =>
  bind1 (HC.get_cgraph_Node nh x189) fun x192 =>
  if (ieq x192.kind 3) = true then (
  bind1 (lget x192.args 0) fun x268 =>
  bind1 (x268) fun x271 =>
  bind1 (HC.get_cgraph_Node nh x271) fun x274 =>
  bind1 (lget x274.args 0) fun x277 =>
  bind1 (lget x192.args 1) fun x280 =>
  bind2 (graph_Node_put FU x277 0 x280 nh) fun x283 nh284 =>
  some (x283, nh284))
  else (
  if (ieq x192.kind 11) = true then (
  bind1 (lget x192.args 0) fun x310 =>
  bind1 (x310) fun x313 =>
  bind1 (HC.get_cgraph_Node nh x313) fun x316 =>
  bind1 (lget x316.args 0) fun x319 =>
  some (x319, nh))
  else (
  if (ieq x192.kind 12) = true then (
  bind1 (lget x192.args 0) fun x345 =>
  bind1 (x345) fun x348 =>
  bind1 (HC.get_cgraph_Node nh x348) fun x351 =>
  bind1 (lget x351.args 1) fun x354 =>
  some (x354, nh))
  else (
  bind1 (lget x192.args 0) fun x386 =>
  bind1 (lget x192.args 1) fun x389 =>
  bind1 (lget x192.args 2) fun x392 =>
  bind1 (x392) fun x428 =>
  bind1 (HC.get_cgraph_Node nh x428) fun x431 =>
  if (ieq (llen x431.args) 0) = true then (
  some (x386, nh))
  else (
  bind1 (lget x431.args (isub .i64 (llen x431.args) 1)) fun x466 =>
  bind2 (graph_Node_with (some x189) [x386, x389, x466] nh) fun x469 nh470 =>
  bind1 (HC.get_cgraph_Node nh470 x428) fun x486 =>
  bind2 (graph_app x389 x486.args nh470) fun x489 nh490 =>
  bind2 (graph_app x489 [x469] nh490) fun x493 nh494 =>
  some (x493, nh494)))))

def graph_Node_grown (a0 : (Option Nat)) (nh : List HC) : Option (Int × List HC) :=
  bind1 (a0) fun x827 =>
  bind1 (HC.get_cgraph_Node nh x827) fun x830 =>
  if (ieq x830.kind 3) = true then (
  bind1 (lget x830.args 0) fun x861 =>
  bind1 (x861) fun x864 =>
  bind1 (HC.get_cgraph_Node nh x864) fun x867 =>
  bind1 (lget x867.args 0) fun x870 =>
  bind1 (x870) fun x929 =>
  bind1 (HC.get_cgraph_Node nh x929) fun x932 =>
  bind1 (graph_Node_count FU (some x929) 0 nh) fun x935 =>
  bind1 (lget x830.args 1) fun x938 =>
  bind1 (x938) fun x941 =>
  bind1 (HC.get_cgraph_Node nh x941) fun x944 =>
  some ((iadd .i64 x932.size (imul .i64 x935 (isub .i64 x944.size 1))), nh))
  else (
  if (ieq x830.kind 6) = true then (
  bind1 (lget x830.args 2) fun x1106 =>
  bind1 (x1106) fun x1109 =>
  bind1 (HC.get_cgraph_Node nh x1109) fun x1112 =>
  if (ieq x1112.kind 5) = true then (
  bind1 (lget x830.args 1) fun x1205 =>
  bind1 (x1205) fun x1208 =>
  bind1 (HC.get_cgraph_Node nh x1208) fun x1211 =>
  bind1 (lget x1112.args 0) fun x1214 =>
  bind1 (x1214) fun x1217 =>
  bind1 (HC.get_cgraph_Node nh x1217) fun x1220 =>
  bind1 (lget x830.args 0) fun x1223 =>
  bind1 (x1223) fun x1226 =>
  bind1 (HC.get_cgraph_Node nh x1226) fun x1229 =>
  some ((iadd .i64 (iadd .i64 (iadd .i64 (iadd .i64 (iadd .i64 2 x1211.size) (imul .i64 2 x1220.size)) 1) x1229.size) x1211.size), nh))
  else (
  bind1 (lget x830.args 0) fun x1243 =>
  bind1 (x1243) fun x1246 =>
  bind1 (HC.get_cgraph_Node nh x1246) fun x1249 =>
  some (x1249.size, nh)))
  else (
  if (ieq x830.kind 9) = true then (
  bind1 (lget x830.args 2) fun x1443 =>
  bind1 (x1443) fun x1454 =>
  bind1 (HC.get_cgraph_Node nh x1454) fun x1457 =>
  if (ieq x1457.kind 8) = true then (
  bind1 (lget x830.args 1) fun x1577 =>
  bind1 (x1577) fun x1580 =>
  bind1 (HC.get_cgraph_Node nh x1580) fun x1583 =>
  bind1 (lget x1457.args 0) fun x1586 =>
  bind1 (x1586) fun x1589 =>
  bind1 (HC.get_cgraph_Node nh x1589) fun x1592 =>
  bind1 (lget x1457.args 1) fun x1595 =>
  bind1 (x1595) fun x1598 =>
  bind1 (HC.get_cgraph_Node nh x1598) fun x1601 =>
  bind1 (lget x830.args 0) fun x1604 =>
  bind1 (x1604) fun x1607 =>
  bind1 (HC.get_cgraph_Node nh x1607) fun x1610 =>
  some ((iadd .i64 (iadd .i64 (iadd .i64 (iadd .i64 (iadd .i64 (iadd .i64 3 x1583.size) x1592.size) (imul .i64 2 x1601.size)) 1) x1610.size) x1583.size), nh))
  else (
  bind1 (lget x830.args 0) fun x1624 =>
  bind1 (x1624) fun x1627 =>
  bind1 (HC.get_cgraph_Node nh x1627) fun x1630 =>
  some (x1630.size, nh)))
  else (
  bind2 (graph_Node_contract (some x827) nh) fun x1645 nh1646 =>
  bind1 (x1645) fun x1649 =>
  bind1 (HC.get_cgraph_Node nh1646 x1649) fun x1652 =>
  some (x1652.size, nh1646))))
def graph_Node_grownR (a0 : (Option Nat)) (nh : List HC) : Option (Int) := bind2 (graph_Node_grown a0 nh) fun r _ => some r

def graph_Node_Step : Nat → (Option Nat) → Int → List HC → Option ((Option Nat) × Int × List HC)
  | 0, _, _, _ => none
  | n + 1, a0, a1, nh =>
  bind1 (a0) fun x36 =>
  bind1 (HC.get_cgraph_Node nh x36) fun x39 =>
  if x39.normal = true then (
  some (none, 0, nh))
  else (
  bind1 (graph_Node_redex (some x36) nh) fun x131 =>
  if x131 = true then (
  bind1 (graph_Node_grownR (some x36) nh) fun x177 =>
  if (igt (isub .i64 x177 x39.size) a1) = true then (
  some (none, 4, nh))
  else (
  bind2 (graph_Node_contract (some x36) nh) fun x195 nh196 =>
  some (x195, 0, nh196)))
  else (
  chk (okLen x39.args) <|
  joinB (fun (j625 : Int) (x627 : (Option Nat)) => (fun (v1044 : List HC) =>
  bind3 (graph_Node_Step n x627 a1 v1044) fun x1190 x1191 nh1192 =>
  if (ine x1191 0) = true then (
  some (.ret (none, x1191, nh1192)))
  else (
  if (Option.isSome x1190) = true then (
  bind1 (HC.get_cgraph_Node nh1192 x36) fun x1237 =>
  chk (okNew x1237.args) <|
  bind1 (lget x1237.args j625) fun x1258 =>
  bind2 (graph_Node_with (some x36) (lset x1237.args j625 x1190) nh1192) fun x1268 nh1269 =>
  some (.ret (x1268, 0, nh1269)))
  else (
  some (.next nh1192)))) : Int → (Option Nat) → (List HC) → (Option (Ctl (List HC) ((Option Nat) × Int × List HC)))) fun F1045 =>
  bind1 (forR F1045 x39.args 0 nh) (sumK (fun (v1044 : List HC) =>
  bind1 (HC.get_cgraph_Node v1044 x36) fun x1291 =>
  some (none, 0, (hput v1044 x36 (HC.cgraph_Node (Sgraph_Node.mk x1291.kind x1291.index x1291.typ x1291.args x1291.size x1291.free true))))) (fun r => some r))))

def reduce_state_next (a0 : (Option Nat)) (nh : List HC) : Option (Bool × Int × List HC) :=
  bind1 (a0) fun x47 =>
  bind1 (HC.get_creduce_state nh x47) fun x50 =>
  bind1 (graph_Node_Size x50.term nh) fun x53 =>
  bind3 (graph_Node_Step FU x50.term (isub .i64 4096 x53) nh) fun x56 x57 nh58 =>
  if (sel (ine x57 0) true (Option.isNone x56)) = true then (
  some (false, x57, nh58))
  else (
  bind1 (HC.get_creduce_state nh58 x47) fun x106 =>
  some (true, 0, (hput (hput nh58 x47 (HC.creduce_state (Sreduce_state.mk x56 x106.steps))) x47 (HC.creduce_state (Sreduce_state.mk x56 (iadd .i64 x106.steps 1))))))

def tree_OwnType : Nat → Ty → Option (Ty)
  | 0, _ => none
  | n + 1, a0 =>
  chk (okLen a0.args) <|
  joinB (fun (j115 : Int) (x117 : Ty) => (fun (v218 : (List Ty)) =>
  bind1 (tree_OwnType n x117) fun x283 =>
  chk (okApp v218 [x283]) <|
  some (.next (lapp v218 [x283]))) : Int → Ty → ((List Ty)) → (Option (Ctl ((List Ty)) (Ty)))) fun F219 =>
  bind1 (forR F219 a0.args 0 []) (sumK (fun (v218 : (List Ty)) =>
  some (Ty.mk a0.kind v218)) (fun r => some r))

def graph_Node_Term : Nat → (Option Nat) → List HC → Option (Tm)
  | 0, _, _ => none
  | n + 1, a0, nh =>
  bind1 (a0) fun x32 =>
  bind1 (HC.get_cgraph_Node nh x32) fun x35 =>
  bind1 (tree_OwnType FU x35.typ) fun x38 =>
  chk (okLen x35.args) <|
  joinB (fun (j151 : Int) (x153 : (Option Nat)) => (fun (v254 : (List Tm)) =>
  bind1 (graph_Node_Term n x153 nh) fun x319 =>
  chk (okApp v254 [x319]) <|
  some (.next (lapp v254 [x319]))) : Int → (Option Nat) → ((List Tm)) → (Option (Ctl ((List Tm)) (Tm)))) fun F255 =>
  bind1 (forR F255 x35.args 0 []) (sumK (fun (v254 : (List Tm)) =>
  some (Tm.mk x35.kind x35.index x38 v254)) (fun r => some r))

def reduce_Step (a0 : Tm) : Option (Tm × Bool × Int) :=
  bind1 (terms_Check a0) fun x29 =>
  if (ine x29 0) = true then (
  some ((Tm.mk 0 0 (Ty.mk 0 []) []), false, x29))
  else (
  bind1 (tree_Near a0) fun x67 =>
  if x67 = true then (
  bind2 (graph_From FU a0 ([] : List HC)) fun x85 nh86 =>
  bind3 (reduce_state_next (some (List.length nh86)) (nh86 ++ [HC.creduce_state (Sreduce_state.mk x85 0)])) fun x98 x99 nh100 =>
  if (ine x99 0) = true then (
  some ((Tm.mk 0 0 (Ty.mk 0 []) []), false, x99))
  else (
  bind1 (HC.get_creduce_state nh100 (List.length nh86)) fun x135 =>
  bind1 (graph_Node_Term FU x135.term nh100) fun x138 =>
  some (x138, x98, 0)))
  else (
  some ((Tm.mk 0 0 (Ty.mk 0 []) []), false, 1)))

def ref01_Same : Nat → Ty → Ty → Option (Bool)
  | 0, _, _ => none
  | n + 1, a0, a1 =>
  if (sel (ine a0.kind a1.kind) true (ine (llen a0.args) (llen a1.args))) = true then (
  some false)
  else (
  chk (okLen a0.args) <|
  joinB (fun (j150 : Int) (x152 : Ty) => (fun (_ : Unit) =>
  bind1 (lget a1.args j150) fun x357 =>
  bind1 (ref01_Same n x152 x357) fun x360 =>
  if x360 = true then (
  some (.next ()))
  else (
  some (.ret false))) : Int → Ty → (Unit) → (Option (Ctl (Unit) (Bool)))) fun F253 =>
  bind1 (forR F253 a0.args 0 ()) (sumK (fun (_ : Unit) =>
  some true) (fun r => some r)))

def ref02_Same : Nat → Tm → Tm → Option (Bool)
  | 0, _, _ => none
  | n + 1, a0, a1 =>
  joinB (fun (v61 : Bool) =>
  if v61 = true then (
  some false)
  else (
  chk (okLen a0.args) <|
  joinB (fun (j196 : Int) (x198 : Tm) => (fun (_ : Unit) =>
  bind1 (lget a1.args j196) fun x403 =>
  bind1 (ref02_Same n x198 x403) fun x406 =>
  if x406 = true then (
  some (.next ()))
  else (
  some (.ret false))) : Int → Tm → (Unit) → (Option (Ctl (Unit) (Bool)))) fun F299 =>
  bind1 (forR F299 a0.args 0 ()) (sumK (fun (_ : Unit) =>
  some true) (fun r => some r)))) fun j62 =>
  if (ine a0.kind a1.kind) = true then (
  j62 true)
  else (
  if (ine a0.index a1.index) = true then (
  j62 true)
  else (
  bind1 (ref01_Same FU a0.typeF a1.typeF) fun x72 =>
  if x72 = true then (
  j62 (ine (llen a0.args) (llen a1.args)))
  else (
  j62 true)))

def law04_sane  : Option (Bool) :=
  bind1 (ref01_Nat) fun x28 =>
  bind1 (ref02_Var 0) fun x31 =>
  bind1 (ref02_N 5 [x31]) fun x34 =>
  bind1 (ref02_T 2 x28 [x34]) fun x37 =>
  bind1 (ref02_N 4 []) fun x40 =>
  bind1 (ref02_N 3 [x37, x40]) fun x43 =>
  bind3 (reduce_Step x43) fun x46 x47 x48 =>
  joinB (fun (v84 : Bool) =>
  some v84) fun j85 =>
  if (ieq x48 0) = true then (
  if x47 = true then (
  bind1 (ref02_N 4 []) fun x110 =>
  bind1 (ref02_N 5 [x110]) fun x113 =>
  bind1 (ref02_Same FU x46 x113) fun x116 =>
  j85 x116)
  else (
  j85 false))
  else (
  j85 false)

def mk_Few (a0 : (List Int)) : Option (Bool) :=
  some (ile (llen a0) 500)

def mk_New (l : List Int) : Option Smk_Deck := some ⟨l, 0⟩

def mk_Mod (a0 : Int) (a1 : Int) : Option (Int) :=
  chk (okDiv a1) <|
  chk (okDiv a1) <|
  some (irem .i64 (iadd .i64 (irem .i64 a0 a1) a1) a1)

def mk_Deck_Next (a0 : Smk_Deck) (a1 : Int) : Option (Int × Smk_Deck) :=
  if (sel (ilt a1 1) true (ige a0.atF (llen a0.l))) = true then (
  some (0, a0))
  else (
  bind1 (lget a0.l a0.atF) fun x64 =>
  bind1 (mk_Mod x64 a1) fun x74 =>
  some (x74, (Smk_Deck.mk a0.l (iadd .i64 a0.atF 1))))

def ref01_List  : Option (Ty) :=
  some (Ty.mk 2 [])

def ref01_Unit  : Option (Ty) :=
  some (Ty.mk 5 [])

def ref01_Two (a0 : Ty) (a1 : Ty) : Option (Ty) :=
  bind1 (ref01_Copy FU a0) fun x23 =>
  bind1 (ref01_Copy FU a1) fun x26 =>
  some (Ty.mk 3 [x23, x26])

def ref01_Fun (a0 : Ty) (a1 : Ty) : Option (Ty) :=
  bind1 (ref01_Copy FU a0) fun x23 =>
  bind1 (ref01_Copy FU a1) fun x26 =>
  some (Ty.mk 4 [x23, x26])

def mk_Type : Nat → Smk_Deck → Int → Option (Ty × Smk_Deck)
  | 0, _, _ => none
  | n + 1, a0, a1 =>
  joinB (fun (v193 : Smk_Deck) =>
  bind1 (ref01_Nat) fun x390 =>
  some (x390, v193)) fun j194 =>
  bind2 (mk_Deck_Next a0 7) fun x204 d205 =>
  if (sel (ieq x204 0) true (sel (ieq x204 1) true (ieq x204 2))) = true then (
  bind1 (ref01_Nat) fun x264 =>
  some (x264, d205))
  else (
  if (ieq x204 3) = true then (
  bind1 (ref01_List) fun x281 =>
  some (x281, d205))
  else (
  if (ieq x204 4) = true then (
  bind1 (ref01_Unit) fun x298 =>
  some (x298, d205))
  else (
  if (ieq x204 5) = true then (
  if (igt a1 0) = true then (
  bind2 (mk_Type n d205 (isub .i64 a1 1)) fun x332 d333 =>
  bind2 (mk_Type n d333 (isub .i64 a1 1)) fun x336 d337 =>
  bind1 (ref01_Two x332 x336) fun x340 =>
  some (x340, d337))
  else (
  j194 d205))
  else (
  if (ieq x204 6) = true then (
  if (igt a1 0) = true then (
  bind2 (mk_Type n d205 (isub .i64 a1 1)) fun x374 d375 =>
  bind2 (mk_Type n d375 (isub .i64 a1 1)) fun x378 d379 =>
  bind1 (ref01_Fun x374 x378) fun x382 =>
  some (x382, d379))
  else (
  j194 d205))
  else (
  j194 d205)))))

def mk_Context (a0 : Smk_Deck) : Option ((List Ty) × Smk_Deck) :=
  bind2 (mk_Deck_Next a0 4) fun x120 d121 =>
  joinB ((un3 fun (v218 : (List Ty)) (v219 : Int) (v220 : Smk_Deck) =>
  if (igt v219 0) = true then (
  bind2 (mk_Type FU v220 1) fun x277 d278 =>
  chk (okApp v218 [x277]) <|
  some (.next ((lapp v218 [x277]), (isub .i64 v219 1), d278)))
  else (
  some (.brk (v218, v219, v220)))) : ((List Ty) × Int × Smk_Deck) → (Option (Ctl ((List Ty) × Int × Smk_Deck) ((List Ty) × Smk_Deck)))) fun F221 =>
  bind1 (loopN F221 FU ([], x120, d121)) (sumK (un3 fun (v218 : (List Ty)) (v219 : Int) (v220 : Smk_Deck) =>
  some (v218, v220)) (fun r => some r))

def mk_vars (a0 : (List Ty)) (a1 : Ty) : Option ((List Int)) :=
  chk (okLen a0) <|
  joinB (fun (j227 : Int) (x229 : Ty) => (fun (v442 : (List Int)) =>
  joinB (fun (v521 : (List Int)) =>
  some (.next v521)) fun j522 =>
  bind1 (lget a0 (isub .i64 (isub .i64 (llen a0) 1) j227)) fun x553 =>
  bind1 (ref01_Same FU x553 a1) fun x556 =>
  if x556 = true then (
  chk (okApp v442 [j227]) <|
  j522 (lapp v442 [j227]))
  else (
  j522 v442)) : Int → Ty → ((List Int)) → (Option (Ctl ((List Int)) ((List Int))))) fun F443 =>
  bind1 (forR F443 a0 0 []) (sumK (fun (v442 : (List Int)) =>
  some v442) (fun r => some r))

def mk_longer (a0 : (List Ty)) (a1 : (List Ty)) : Option ((List Ty)) :=
  chk (okApp [] a0) <|
  chk (okApp (lapp [] a0) a1) <|
  some (lapp (lapp [] a0) a1)

def ref05_numeral (a0 : Int) : Option (Tm) :=
  bind1 (ref02_N 4 []) fun x8 =>
  joinB ((un6 fun (v165 : Int) (v166 : Int) (v167 : Int) (v168 : Int) (v169 : (List Ty)) (v170 : (List Tm)) =>
  if (igt v165 0) = true then (
  some (.next ((isub .i64 v165 1), 5, 0, 0, [], [(Tm.mk v166 v167 (Ty.mk v168 v169) v170)])))
  else (
  some (.brk (v165, v166, v167, v168, v169, v170)))) : (Int × Int × Int × Int × (List Ty) × (List Tm)) → (Option (Ctl (Int × Int × Int × Int × (List Ty) × (List Tm)) (Tm)))) fun F171 =>
  bind1 (loopN F171 FU (a0, x8.kind, x8.index, x8.typeF.kind, x8.typeF.args, x8.args)) (sumK (un6 fun (v165 : Int) (v166 : Int) (v167 : Int) (v168 : Int) (v169 : (List Ty)) (v170 : (List Tm)) =>
  some (Tm.mk v166 v167 (Ty.mk v168 v169) v170)) (fun r => some r))

def ref05_Number (a0 : Int) : Option (Tm × Int) :=
  if (ilt a0 0) = true then (
  some ((Tm.mk 0 0 (Ty.mk 0 []) []), 1))
  else (
  if (ige a0 4096) = true then (
  some ((Tm.mk 0 0 (Ty.mk 0 []) []), 4))
  else (
  bind1 (ref05_numeral a0) fun x56 =>
  some (x56, 0)))

def mk_Num (a0 : Int) : Option (Tm) :=
  bind2 (ref05_Number a0) fun x9 x10 =>
  some x9

def ref05_lam (a0 : Tm) : Option (Tm) :=
  bind1 (ref01_Nat) fun x23 =>
  bind1 (ref02_T 2 x23 [a0]) fun x26 =>
  some x26

def ref05_rec (a0 : Tm) (a1 : Tm) (a2 : Tm) : Option (Tm) :=
  bind1 (ref01_Nat) fun x23 =>
  bind1 (ref02_T 6 x23 [a0, a1, a2]) fun x26 =>
  some x26

def ref05_Plus  : Option (Tm) :=
  bind1 (ref02_Var 1) fun x32 =>
  bind1 (ref02_Var 0) fun x35 =>
  bind1 (ref02_N 5 [x35]) fun x38 =>
  bind1 (ref05_lam x38) fun x41 =>
  bind1 (ref05_lam x41) fun x44 =>
  bind1 (ref02_Var 0) fun x47 =>
  bind1 (ref05_rec x32 x44 x47) fun x50 =>
  bind1 (ref05_lam x50) fun x53 =>
  bind1 (ref05_lam x53) fun x56 =>
  some x56

def mk_App (a0 : Tm) (a1 : (List Tm)) : Option (Tm) :=
  chk (okLen a1) <|
  joinB (fun (j93 : Int) (x95 : Tm) => (un5 fun (v172 : Int) (v173 : Int) (v174 : Int) (v175 : (List Ty)) (v176 : (List Tm)) =>
  bind1 (ref02_N 3 [(Tm.mk v172 v173 (Ty.mk v174 v175) v176), x95]) fun x229 =>
  some (.next (x229.kind, x229.index, x229.typeF.kind, x229.typeF.args, x229.args))) : Int → Tm → (Int × Int × Int × (List Ty) × (List Tm)) → (Option (Ctl (Int × Int × Int × (List Ty) × (List Tm)) (Tm)))) fun F177 =>
  bind1 (forR F177 a1 0 (a0.kind, a0.index, a0.typeF.kind, a0.typeF.args, a0.args)) (sumK (un5 fun (v172 : Int) (v173 : Int) (v174 : Int) (v175 : (List Ty)) (v176 : (List Tm)) =>
  some (Tm.mk v172 v173 (Ty.mk v174 v175) v176)) (fun r => some r))

def ref05_Pred  : Option (Tm) :=
  bind1 (ref02_N 4 []) fun x26 =>
  bind1 (ref02_Var 1) fun x29 =>
  bind1 (ref05_lam x29) fun x32 =>
  bind1 (ref05_lam x32) fun x35 =>
  bind1 (ref02_Var 0) fun x38 =>
  bind1 (ref05_rec x26 x35 x38) fun x41 =>
  bind1 (ref05_lam x41) fun x44 =>
  some x44

def ref05_Sub  : Option (Tm) :=
  bind1 (ref02_Var 1) fun x35 =>
  bind1 (ref05_Pred) fun x38 =>
  bind1 (ref02_Var 0) fun x41 =>
  bind1 (ref02_N 3 [x38, x41]) fun x44 =>
  bind1 (ref05_lam x44) fun x47 =>
  bind1 (ref05_lam x47) fun x50 =>
  bind1 (ref02_Var 0) fun x53 =>
  bind1 (ref05_rec x35 x50 x53) fun x56 =>
  bind1 (ref05_lam x56) fun x59 =>
  bind1 (ref05_lam x59) fun x62 =>
  some x62

def mk_Term : Nat → Smk_Deck → (List Ty) → Ty → Int → Option (Tm × Smk_Deck)
  | 0, _, _, _, _ => none
  | n + 1, a0, a1, a2, a3 =>
  bind1 (mk_vars a1 a2) fun x8 =>
  joinB (fun (v75 : Bool) (v76 : Smk_Deck) =>
  if v75 = true then (
  bind2 (mk_Deck_Next v76 (llen x8)) fun x107 d108 =>
  bind1 (lget x8 x107) fun x111 =>
  bind1 (ref02_Var x111) fun x114 =>
  some (x114, d108))
  else (
  joinB (fun (v983 : Smk_Deck) =>
  if (ieq a2.kind 1) = true then (
  joinB (fun (v3099 : Smk_Deck) =>
  bind2 (mk_Deck_Next v3099 3) fun x3296 d3297 =>
  bind1 (mk_Num x3296) fun x3300 =>
  some (x3300, d3297)) fun j3100 =>
  if (igt a3 0) = true then (
  bind2 (mk_Deck_Next v983 5) fun x3119 d3120 =>
  if (ieq x3119 0) = true then (
  bind2 (mk_Term n d3120 a1 a2 (isub .i64 a3 1)) fun x3146 d3147 =>
  bind1 (ref02_N 5 [x3146]) fun x3150 =>
  some (x3150, d3147))
  else (
  if (ieq x3119 1) = true then (
  bind1 (ref05_Plus) fun x3206 =>
  bind2 (mk_Term n d3120 a1 a2 (isub .i64 a3 1)) fun x3209 d3210 =>
  bind2 (mk_Term n d3210 a1 a2 (isub .i64 a3 1)) fun x3213 d3214 =>
  bind1 (mk_App x3206 [x3209, x3213]) fun x3217 =>
  some (x3217, d3214))
  else (
  if (ieq x3119 2) = true then (
  bind1 (ref05_Sub) fun x3273 =>
  bind2 (mk_Term n d3120 a1 a2 (isub .i64 a3 1)) fun x3276 d3277 =>
  bind2 (mk_Term n d3277 a1 a2 (isub .i64 a3 1)) fun x3280 d3281 =>
  bind1 (mk_App x3273 [x3276, x3280]) fun x3284 =>
  some (x3284, d3281))
  else (
  j3100 d3120))))
  else (
  j3100 v983))
  else (
  if (ieq a2.kind 2) = true then (
  joinB (fun (v3412 : Bool) (v3413 : Smk_Deck) =>
  if v3412 = true then (
  bind1 (ref01_Nat) fun x3476 =>
  bind2 (mk_Term n v3413 a1 x3476 (isub .i64 a3 1)) fun x3479 d3480 =>
  bind2 (mk_Term n d3480 a1 a2 (isub .i64 a3 1)) fun x3483 d3484 =>
  bind1 (ref02_N 8 [x3479, x3483]) fun x3487 =>
  some (x3487, d3484))
  else (
  bind1 (ref02_N 7 []) fun x3495 =>
  some (x3495, v3413))) fun j3414 =>
  if (igt a3 0) = true then (
  bind2 (mk_Deck_Next v983 2) fun x3421 d3422 =>
  j3414 (ieq x3421 0) d3422)
  else (
  j3414 false v983))
  else (
  if (ieq a2.kind 3) = true then (
  bind1 (lget a2.args 0) fun x3560 =>
  bind2 (mk_Term n v983 a1 x3560 (isub .i64 a3 1)) fun x3563 d3564 =>
  bind1 (lget a2.args 1) fun x3567 =>
  bind2 (mk_Term n d3564 a1 x3567 (isub .i64 a3 1)) fun x3570 d3571 =>
  bind1 (ref02_N 10 [x3563, x3570]) fun x3574 =>
  some (x3574, d3571))
  else (
  if (ieq a2.kind 4) = true then (
  bind1 (lget a2.args 0) fun x3636 =>
  bind1 (mk_longer a1 [x3636]) fun x3639 =>
  bind1 (lget a2.args 1) fun x3642 =>
  bind2 (mk_Term n v983 x3639 x3642 (isub .i64 a3 1)) fun x3645 d3646 =>
  bind1 (ref02_T 2 x3636 [x3645]) fun x3649 =>
  some (x3649, d3646))
  else (
  bind1 (ref02_N 13 []) fun x3657 =>
  some (x3657, v983)))))) fun j984 =>
  if (igt a3 0) = true then (
  bind2 (mk_Deck_Next v76 8) fun x1003 d1004 =>
  if (ieq x1003 0) = true then (
  bind2 (mk_Type FU d1004 0) fun x1027 d1028 =>
  bind1 (mk_longer a1 [x1027]) fun x1084 =>
  bind2 (mk_Term n d1028 x1084 a2 (isub .i64 a3 1)) fun x1087 d1088 =>
  bind1 (ref02_T 2 x1027 [x1087]) fun x1091 =>
  bind2 (mk_Term n d1088 a1 x1027 (isub .i64 a3 1)) fun x1094 d1095 =>
  bind1 (ref02_N 3 [x1091, x1094]) fun x1098 =>
  some (x1098, d1095))
  else (
  if (ieq x1003 1) = true then (
  bind2 (mk_Type FU d1004 0) fun x1116 d1117 =>
  bind2 (mk_Term n d1117 a1 a2 (isub .i64 a3 1)) fun x1164 d1165 =>
  bind2 (mk_Term n d1165 a1 x1116 (isub .i64 a3 1)) fun x1168 d1169 =>
  bind1 (ref02_N 10 [x1164, x1168]) fun x1172 =>
  bind1 (ref02_N 11 [x1172]) fun x1175 =>
  some (x1175, d1169))
  else (
  if (ieq x1003 2) = true then (
  bind1 (ref01_Nat) fun x1246 =>
  bind1 (ref01_Nat) fun x1249 =>
  bind1 (mk_longer a1 [x1249, a2]) fun x1252 =>
  bind2 (mk_Term n d1004 x1252 a2 (isub .i64 a3 1)) fun x1255 d1256 =>
  bind1 (ref02_T 2 a2 [x1255]) fun x1259 =>
  bind1 (ref02_T 2 x1246 [x1259]) fun x1262 =>
  bind2 (mk_Term n d1256 a1 a2 (isub .i64 a3 1)) fun x1309 d1310 =>
  bind2 (mk_Deck_Next d1310 3) fun x1313 d1314 =>
  bind1 (mk_Num x1313) fun x1317 =>
  bind1 (ref02_T 6 a2 [x1309, x1262, x1317]) fun x1320 =>
  some (x1320, d1314))
  else (
  if (ieq x1003 3) = true then (
  bind1 (ref01_Nat) fun x1418 =>
  bind1 (ref01_List) fun x1421 =>
  bind1 (ref01_Nat) fun x1424 =>
  bind1 (ref01_List) fun x1427 =>
  bind1 (mk_longer a1 [x1424, x1427, a2]) fun x1430 =>
  bind2 (mk_Term n d1004 x1430 a2 (isub .i64 a3 1)) fun x1433 d1434 =>
  bind1 (ref02_T 2 a2 [x1433]) fun x1437 =>
  bind1 (ref02_T 2 x1421 [x1437]) fun x1440 =>
  bind1 (ref02_T 2 x1418 [x1440]) fun x1443 =>
  bind2 (mk_Term n d1434 a1 a2 (isub .i64 a3 1)) fun x1490 d1491 =>
  bind1 (ref01_List) fun x1494 =>
  bind2 (mk_Term n d1491 a1 x1494 (isub .i64 a3 1)) fun x1497 d1498 =>
  bind1 (ref02_T 9 a2 [x1490, x1443, x1497]) fun x1501 =>
  some (x1501, d1498))
  else (
  if (ieq x1003 4) = true then (
  bind2 (mk_Type FU d1004 0) fun x1519 d1520 =>
  bind2 (mk_Term n d1520 a1 x1519 (isub .i64 a3 1)) fun x1567 d1568 =>
  bind2 (mk_Term n d1568 a1 a2 (isub .i64 a3 1)) fun x1571 d1572 =>
  bind1 (ref02_N 10 [x1567, x1571]) fun x1575 =>
  bind1 (ref02_N 12 [x1575]) fun x1578 =>
  some (x1578, d1572))
  else (
  if (ieq x1003 5) = true then (
  chk (okLen a1) <|
  joinB (fun (j1592 : Int) (x1594 : Ty) => (fun (_ : Unit) =>
  bind1 (lget a1 (isub .i64 (isub .i64 (llen a1) 1) j1592)) fun x2018 =>
  joinB (fun (v2042 : Bool) =>
  if v2042 = true then (
  bind1 (ref02_Var j1592) fun x2113 =>
  bind1 (lget x2018.args 0) fun x2116 =>
  bind2 (mk_Term n d1004 a1 x2116 (isub .i64 a3 1)) fun x2119 d2120 =>
  bind1 (ref02_N 3 [x2113, x2119]) fun x2123 =>
  some (.ret (x2123, d2120)))
  else (
  some (.next ()))) fun j2043 =>
  if (ieq x2018.kind 4) = true then (
  bind1 (lget x2018.args 1) fun x2059 =>
  bind1 (ref01_Same FU x2059 a2) fun x2062 =>
  j2043 x2062)
  else (
  j2043 false)) : Int → Ty → (Unit) → (Option (Ctl (Unit) (Tm × Smk_Deck)))) fun F1851 =>
  bind1 (forR F1851 a1 0 ()) (sumK (fun (_ : Unit) =>
  j984 d1004) (fun r => some r)))
  else (
  j984 d1004)))))))
  else (
  j984 v76))) fun j77 =>
  if (igt (llen x8) 0) = true then (
  bind2 (mk_Deck_Next a0 3) fun x84 d85 =>
  j77 (igt x84 0) d85)
  else (
  j77 false a0)

def graph_Node_Normal : Nat → (Option Nat) → List HC → Option (Bool × List HC)
  | 0, _, _ => none
  | n + 1, a0, nh =>
  bind1 (a0) fun x36 =>
  bind1 (HC.get_cgraph_Node nh x36) fun x39 =>
  if x39.normal = true then (
  some (true, nh))
  else (
  bind1 (graph_Node_redex (some x36) nh) fun x75 =>
  if x75 = true then (
  some (false, nh))
  else (
  chk (okLen x39.args) <|
  joinB (fun (j233 : Int) (x235 : (Option Nat)) => (fun (v372 : List HC) =>
  bind2 (graph_Node_Normal n x235 v372) fun x447 nh448 =>
  if x447 = true then (
  some (.next nh448))
  else (
  some (.ret (false, nh448)))) : Int → (Option Nat) → (List HC) → (Option (Ctl (List HC) (Bool × List HC)))) fun F373 =>
  bind1 (forR F373 x39.args 0 nh) (sumK (fun (v372 : List HC) =>
  bind1 (HC.get_cgraph_Node v372 x36) fun x479 =>
  some (true, (hput v372 x36 (HC.cgraph_Node (Sgraph_Node.mk x479.kind x479.index x479.typ x479.args x479.size x479.free true))))) (fun r => some r))))

def reduce_Normal (a0 : Tm) (a1 : Int) : Option (Tm × Int × Int) :=
  bind1 (terms_Check a0) fun x29 =>
  if (ine x29 0) = true then (
  some ((Tm.mk 0 0 (Ty.mk 0 []) []), 0, x29))
  else (
  joinB (fun (v92 : Bool) =>
  if v92 = true then (
  some ((Tm.mk 0 0 (Ty.mk 0 []) []), 0, 1))
  else (
  bind2 (graph_From FU a0 ([] : List HC)) fun x123 nh124 =>
  joinB ((fun (v548 : List HC) =>
  bind1 (HC.get_creduce_state v548 (List.length nh124)) fun x589 =>
  if (ilt x589.steps a1) = true then (
  bind3 (reduce_state_next (some (List.length nh124)) v548) fun x611 x612 nh613 =>
  if (ine x612 0) = true then (
  some (.ret ((Tm.mk 0 0 (Ty.mk 0 []) []), 0, x612)))
  else (
  if x611 = true then (
  some (.next nh613))
  else (
  bind1 (HC.get_creduce_state nh613 (List.length nh124)) fun x669 =>
  bind1 (graph_Node_Term FU x669.term nh613) fun x672 =>
  some (.ret (x672, x669.steps, 0)))))
  else (
  some (.brk v548))) : (List HC) → (Option (Ctl (List HC) (Tm × Int × Int)))) fun F549 =>
  bind1 (loopN F549 FU (nh124 ++ [HC.creduce_state (Sreduce_state.mk x123 0)])) (sumK (fun (v548 : List HC) =>
  bind1 (HC.get_creduce_state v548 (List.length nh124)) fun x711 =>
  bind2 (graph_Node_Normal FU x711.term v548) fun x714 nh715 =>
  if x714 = true then (
  bind1 (HC.get_creduce_state nh715 (List.length nh124)) fun x745 =>
  bind1 (graph_Node_Term FU x745.term nh715) fun x748 =>
  some (x748, x745.steps, 0))
  else (
  some ((Tm.mk 0 0 (Ty.mk 0 []) []), 0, 5))) (fun r => some r)))) fun j93 =>
  if (ilt a1 0) = true then (
  j93 true)
  else (
  if (igt a1 65536) = true then (
  j93 true)
  else (
  bind1 (tree_Near a0) fun x103 =>
  j93 (bnot x103))))

def ref01_shape : Nat → Ty → Option (Bool)
  | 0, _ => none
  | n + 1, a0 =>
  joinB (fun (v91 : Int) =>
  if (ine (llen a0.args) v91) = true then (
  some false)
  else (
  chk (okLen a0.args) <|
  joinB (fun (j276 : Int) (x278 : Ty) => (fun (_ : Unit) =>
  bind1 (ref01_shape n x278) fun x414 =>
  if x414 = true then (
  some (.next ()))
  else (
  some (.ret false))) : Int → Ty → (Unit) → (Option (Ctl (Unit) (Bool)))) fun F343 =>
  bind1 (forR F343 a0.args 0 ()) (sumK (fun (_ : Unit) =>
  some true) (fun r => some r)))) fun j92 =>
  if (sel (ieq a0.kind 1) true (sel (ieq a0.kind 2) true (ieq a0.kind 5))) = true then (
  j92 0)
  else (
  if (sel (ieq a0.kind 3) true (ieq a0.kind 4)) = true then (
  j92 2)
  else (
  some false))

def ref01_size : Nat → Ty → Option (Int)
  | 0, _ => none
  | n + 1, a0 =>
  chk (okLen a0.args) <|
  joinB (fun (j87 : Int) (x89 : Ty) => (fun (v162 : Int) =>
  bind1 (ref01_size n x89) fun x215 =>
  some (.next (iadd .i64 v162 x215))) : Int → Ty → (Int) → (Option (Ctl (Int) (Int)))) fun F163 =>
  bind1 (forR F163 a0.args 0 1) (sumK (fun (v162 : Int) =>
  some v162) (fun r => some r))

def ref01_Check (a0 : Ty) : Option (Int) :=
  bind1 (ref01_shape FU a0) fun x27 =>
  if x27 = true then (
  bind1 (ref01_size FU a0) fun x61 =>
  if (igt x61 64) = true then (
  some 4)
  else (
  some 0))
  else (
  some 2)

def ref01_Context (a0 : (List Ty)) : Option (Int) :=
  if (igt (llen a0) 16) = true then (
  some 3)
  else (
  chk (okLen a0) <|
  joinB (fun (j104 : Int) (x106 : Ty) => (fun (_ : Unit) =>
  bind1 (ref01_Check x106) fun x248 =>
  if (ine x248 0) = true then (
  some (.ret x248))
  else (
  some (.next ()))) : Int → Ty → (Unit) → (Option (Ctl (Unit) (Int)))) fun F175 =>
  bind1 (forR F175 a0 0 ()) (sumK (fun (_ : Unit) =>
  some 0) (fun r => some r)))

def ref02_args (a0 : Int) : Option (Int) :=
  if (sel (ieq a0 1) true (sel (ieq a0 4) true (sel (ieq a0 7) true (ieq a0 13)))) = true then (
  some 0)
  else (
  if (sel (ieq a0 2) true (sel (ieq a0 5) true (sel (ieq a0 11) true (ieq a0 12)))) = true then (
  some 1)
  else (
  if (sel (ieq a0 3) true (sel (ieq a0 8) true (ieq a0 10))) = true then (
  some 2)
  else (
  if (sel (ieq a0 6) true (ieq a0 9)) = true then (
  some 3)
  else (
  some (-1)))))

def ref01_Zero (a0 : Ty) : Option (Bool) :=
  some (sel (ieq a0.kind 0) (ieq (llen a0.args) 0) false)

def ref02_Shape : Nat → Tm → Option (Bool)
  | 0, _ => none
  | n + 1, a0 =>
  joinB (fun (v97 : Bool) =>
  if v97 = true then (
  some false)
  else (
  joinB (chk (okLen a0.args) <|
  joinB (fun (j389 : Int) (x391 : Tm) => (fun (_ : Unit) =>
  bind1 (ref02_Shape n x391) fun x527 =>
  if x527 = true then (
  some (.next ()))
  else (
  some (.ret false))) : Int → Tm → (Unit) → (Option (Ctl (Unit) (Bool)))) fun F456 =>
  bind1 (forR F456 a0.args 0 ()) (sumK (fun (_ : Unit) =>
  some true) (fun r => some r))) fun j225 =>
  if (sel (ieq a0.kind 2) true (sel (ieq a0.kind 6) true (ieq a0.kind 9))) = true then (
  bind1 (ref01_Check a0.typeF) fun x287 =>
  if (ine x287 0) = true then (
  some false)
  else (
  j225))
  else (
  bind1 (ref01_Zero a0.typeF) fun x304 =>
  if x304 = true then (
  j225)
  else (
  some false)))) fun j98 =>
  bind1 (ref02_args a0.kind) fun x114 =>
  if (ine (llen a0.args) x114) = true then (
  j98 true)
  else (
  if (ilt a0.index 0) = true then (
  j98 true)
  else (
  if (ine a0.kind 1) = true then (
  j98 (ine a0.index 0))
  else (
  j98 false)))

def ref02_Count : Nat → Tm → Option (Int)
  | 0, _ => none
  | n + 1, a0 =>
  chk (okLen a0.args) <|
  joinB (fun (j87 : Int) (x89 : Tm) => (fun (v162 : Int) =>
  bind1 (ref02_Count n x89) fun x215 =>
  some (.next (iadd .i64 v162 x215))) : Int → Tm → (Int) → (Option (Ctl (Int) (Int)))) fun F163 =>
  bind1 (forR F163 a0.args 0 1) (sumK (fun (v162 : Int) =>
  some v162) (fun r => some r))

def ref02_Check (a0 : Tm) : Option (Int) :=
  bind1 (ref02_Shape FU a0) fun x27 =>
  if x27 = true then (
  bind1 (ref02_Count FU a0) fun x61 =>
  if (igt x61 4096) = true then (
  some 4)
  else (
  some 0))
  else (
  some 2)

def ref02_ok (a0 : Ty) : Option (Ty × Int) :=
  bind1 (ref01_Check a0) fun x27 =>
  if (ine x27 0) = true then (
  some ((Ty.mk 0 []), 4))
  else (
  some (a0, 0))

def ref02_infer : Nat → (List Ty) → Tm → Option (Ty × Int)
  | 0, _, _ => none
  | n + 1, a0, a1 =>
  if (ieq a1.kind 1) = true then (
  if (ige a1.index (llen a0)) = true then (
  some ((Ty.mk 0 []), 6))
  else (
  bind1 (lget a0 (isub .i64 (isub .i64 (llen a0) 1) a1.index)) fun x93 =>
  bind1 (ref01_Copy FU x93) fun x96 =>
  some (x96, 0)))
  else (
  if (ieq a1.kind 2) = true then (
  chk (okApp a0 [a1.typeF]) <|
  bind1 (lget a1.args 0) fun x228 =>
  bind2 (ref02_infer n (lapp a0 [a1.typeF]) x228) fun x231 x232 =>
  if (ine x232 0) = true then (
  some ((Ty.mk 0 []), x232))
  else (
  bind1 (ref01_Fun a1.typeF x231) fun x268 =>
  bind2 (ref02_ok x268) fun x271 x272 =>
  some (x271, x272)))
  else (
  chk (okLen a1.args) <|
  joinB (fun (j491 : Int) (x493 : Tm) => (fun (v698 : (List Ty)) =>
  bind2 (ref02_infer n a0 x493) fun x790 x791 =>
  if (ine x791 0) = true then (
  some (.ret ((Ty.mk 0 []), x791)))
  else (
  chk (okApp v698 [x790]) <|
  some (.next (lapp v698 [x790])))) : Int → Tm → ((List Ty)) → (Option (Ctl ((List Ty)) (Ty × Int)))) fun F699 =>
  bind1 (forR F699 a1.args 0 []) (sumK (fun (v698 : (List Ty)) =>
  bind1 (ref01_Nat) fun x840 =>
  bind1 (ref01_List) fun x843 =>
  if (ieq a1.kind 3) = true then (
  joinB (fun (v2215 : Bool) =>
  if v2215 = true then (
  some ((Ty.mk 0 []), 7))
  else (
  bind1 (lget v698 0) fun x2267 =>
  bind1 (lget x2267.args 1) fun x2270 =>
  some (x2270, 0))) fun j2216 =>
  bind1 (lget v698 0) fun x2235 =>
  if (ine x2235.kind 4) = true then (
  j2216 true)
  else (
  bind1 (lget x2235.args 0) fun x2241 =>
  bind1 (lget v698 1) fun x2244 =>
  bind1 (ref01_Same FU x2241 x2244) fun x2247 =>
  j2216 (bnot x2247)))
  else (
  if (ieq a1.kind 4) = true then (
  some (x840, 0))
  else (
  if (ieq a1.kind 5) = true then (
  bind1 (lget v698 0) fun x2350 =>
  bind1 (ref01_Same FU x2350 x840) fun x2353 =>
  if x2353 = true then (
  some (x840, 0))
  else (
  some ((Ty.mk 0 []), 7)))
  else (
  if (ieq a1.kind 6) = true then (
  joinB (fun (v2578 : Bool) =>
  if v2578 = true then (
  some ((Ty.mk 0 []), 7))
  else (
  bind1 (ref01_Copy FU a1.typeF) fun x2657 =>
  some (x2657, 0))) fun j2579 =>
  bind1 (lget v698 0) fun x2613 =>
  bind1 (ref01_Same FU x2613 a1.typeF) fun x2616 =>
  if x2616 = true then (
  bind1 (lget v698 1) fun x2622 =>
  bind1 (ref01_Fun a1.typeF a1.typeF) fun x2625 =>
  bind1 (ref01_Fun x840 x2625) fun x2628 =>
  bind1 (ref01_Same FU x2622 x2628) fun x2631 =>
  if x2631 = true then (
  bind1 (lget v698 2) fun x2637 =>
  bind1 (ref01_Same FU x2637 x840) fun x2640 =>
  j2579 (bnot x2640))
  else (
  j2579 true))
  else (
  j2579 true))
  else (
  if (ieq a1.kind 7) = true then (
  some (x843, 0))
  else (
  if (ieq a1.kind 8) = true then (
  joinB (fun (v2792 : Bool) =>
  if v2792 = true then (
  some ((Ty.mk 0 []), 7))
  else (
  some (x843, 0))) fun j2793 =>
  bind1 (lget v698 0) fun x2812 =>
  bind1 (ref01_Same FU x2812 x840) fun x2815 =>
  if x2815 = true then (
  bind1 (lget v698 1) fun x2821 =>
  bind1 (ref01_Same FU x2821 x843) fun x2824 =>
  j2793 (bnot x2824))
  else (
  j2793 true))
  else (
  if (ieq a1.kind 9) = true then (
  joinB (fun (v3067 : Bool) =>
  if v3067 = true then (
  some ((Ty.mk 0 []), 7))
  else (
  bind1 (ref01_Copy FU a1.typeF) fun x3152 =>
  some (x3152, 0))) fun j3068 =>
  bind1 (lget v698 0) fun x3105 =>
  bind1 (ref01_Same FU x3105 a1.typeF) fun x3108 =>
  if x3108 = true then (
  bind1 (lget v698 1) fun x3114 =>
  bind1 (ref01_Fun a1.typeF a1.typeF) fun x3117 =>
  bind1 (ref01_Fun x843 x3117) fun x3120 =>
  bind1 (ref01_Fun x840 x3120) fun x3123 =>
  bind1 (ref01_Same FU x3114 x3123) fun x3126 =>
  if x3126 = true then (
  bind1 (lget v698 2) fun x3132 =>
  bind1 (ref01_Same FU x3132 x843) fun x3135 =>
  j3068 (bnot x3135))
  else (
  j3068 true))
  else (
  j3068 true))
  else (
  if (ieq a1.kind 10) = true then (
  bind1 (lget v698 0) fun x3205 =>
  bind1 (lget v698 1) fun x3208 =>
  bind1 (ref01_Two x3205 x3208) fun x3211 =>
  bind2 (ref02_ok x3211) fun x3214 x3215 =>
  some (x3214, x3215))
  else (
  if (sel (ieq a1.kind 11) true (ieq a1.kind 12)) = true then (
  bind1 (lget v698 0) fun x3270 =>
  if (ine x3270.kind 3) = true then (
  some ((Ty.mk 0 []), 7))
  else (
  if (ieq a1.kind 11) = true then (
  bind1 (lget x3270.args 0) fun x3315 =>
  some (x3315, 0))
  else (
  bind1 (lget x3270.args 1) fun x3323 =>
  some (x3323, 0))))
  else (
  bind1 (ref01_Unit) fun x3331 =>
  some (x3331, 0))))))))))) (fun r => some r))))

def ref02_Typed (a0 : (List Ty)) (a1 : Tm) : Option (Ty × Int) :=
  bind1 (ref02_Check a1) fun x29 =>
  if (ine x29 0) = true then (
  some ((Ty.mk 0 []), x29))
  else (
  bind2 (ref02_infer FU a0 a1) fun x49 x50 =>
  some (x49, x50))

def ref02_TypeOf (a0 : (List Ty)) (a1 : Tm) : Option (Ty × Int) :=
  bind1 (ref01_Context a0) fun x29 =>
  if (ine x29 0) = true then (
  some ((Ty.mk 0 []), x29))
  else (
  bind2 (ref02_Typed a0 a1) fun x49 x50 =>
  some (x49, x50))

def ref03_below (a0 : Tm) : Option (Int) :=
  if (ieq a0.kind 2) = true then (
  some 1)
  else (
  some 0)

def ref03_Mark : Nat → Tm → Int → (List (Int × Bool)) → Option ((List (Int × Bool)))
  | 0, _, _, _ => none
  | n + 1, a0, a1, a2 =>
  joinB (fun (v22 : (List (Int × Bool))) =>
  chk (okLen a0.args) <|
  joinB (fun (j45 : Int) (x47 : Tm) => (fun (v156 : (List (Int × Bool))) =>
  bind1 (ref03_below a0) fun x224 =>
  bind1 (ref03_Mark n x47 (iadd .i64 a1 x224) v156) fun d227 =>
  some (.next d227)) : Int → Tm → ((List (Int × Bool))) → (Option (Ctl ((List (Int × Bool))) ((List (Int × Bool)))))) fun F157 =>
  bind1 (forR F157 a0.args 0 v22) (sumK (fun (v156 : (List (Int × Bool))) =>
  some v156) (fun r => some r))) fun j23 =>
  if (sel (ieq a0.kind 1) (ige a0.index a1) false) = true then (
  j23 (mput a2 (isub .i64 a0.index a1) true))
  else (
  j23 a2)

def ref03_Sorted (a0 : List (Int × Bool)) : Option (List Int × List (Int × Bool)) :=
  chk (okLen a0) <| chk (distinctB (a0.map (·.1))) <| some (sortS [] (a0.map (·.1)), a0)

def ref03_Uses (a0 : Tm) : Option ((List Int) × Int) :=
  bind1 (ref02_Check a0) fun x29 =>
  if (ine x29 0) = true then (
  some ([], x29))
  else (
  bind1 (ref03_Mark FU a0 0 []) fun d50 =>
  bind2 (ref03_Sorted d50) fun x59 d60 =>
  some (x59, 0))

def law04_ReduceTypes (a0 : (List Int)) : Option (Bool) :=
  bind1 (law04_sane) fun x27 =>
  if x27 = true then (
  bind1 (mk_Few a0) fun x61 =>
  if x61 = true then (
  bind1 (mk_New a0) fun x76 =>
  bind2 (mk_Context x76) fun x85 d86 =>
  bind2 (mk_Type FU d86 1) fun x95 d96 =>
  bind2 (mk_Term FU d96 x85 x95 3) fun x105 d106 =>
  joinB ((un6 fun (v7955 : Int) (v7956 : Int) (v7957 : Int) (v7958 : Int) (v7959 : (List Ty)) (v7960 : (List Tm)) =>
  if (ilt v7955 12) = true then (
  bind3 (reduce_Step (Tm.mk v7956 v7957 (Ty.mk v7958 v7959) v7960)) fun x8978 x8979 x8980 =>
  if (ine x8980 0) = true then (
  some (.ret (ieq x8980 4)))
  else (
  if x8979 = true then (
  bind2 (ref02_TypeOf x85 x8978) fun x9083 x9084 =>
  joinB (fun (v9127 : Bool) =>
  if v9127 = true then (
  some (.ret false))
  else (
  bind2 (ref03_Uses (Tm.mk v7956 v7957 (Ty.mk v7958 v7959) v7960)) fun x9153 x9154 =>
  bind2 (ref03_Uses x8978) fun x9163 x9164 =>
  chk (okLen x9163) <|
  joinB (fun (j9528 : Int) (x9530 : Int) => (fun (_ : Unit) =>
  chk (okLen x9153) <|
  joinB (fun (j10172 : Int) (x10174 : Int) => (fun (v10242 : Bool) =>
  some (.next (sel v10242 true (ieq x9530 x10174)))) : Int → Int → (Bool) → (Option (Ctl (Bool) (Bool)))) fun F10243 =>
  bind1 (forR F10243 x9153 0 false) (sumK (fun (v10242 : Bool) =>
  if v10242 = true then (
  some (.next ()))
  else (
  some (.ret false))) (fun r => some (.ret r)))) : Int → Int → (Unit) → (Option (Ctl (Unit) (Bool)))) fun F9883 =>
  bind1 (forR F9883 x9163 0 ()) (sumK (fun (_ : Unit) =>
  some (.next ((iadd .i64 v7955 1), x8978.kind, x8978.index, x8978.typeF.kind, x8978.typeF.args, x8978.args))) (fun r => some (.ret r))))) fun j9128 =>
  if (ine x9084 0) = true then (
  j9128 true)
  else (
  bind1 (ref01_Same FU x9083 x95) fun x9135 =>
  j9128 (bnot x9135)))
  else (
  bind3 (reduce_Normal (Tm.mk v7956 v7957 (Ty.mk v7958 v7959) v7960) 0) fun x10345 x10346 x10347 =>
  joinB (fun (v10368 : Bool) =>
  some (.ret v10368)) fun j10369 =>
  bind1 (ref02_Same FU (Tm.mk v7956 v7957 (Ty.mk v7958 v7959) v7960) x8978) fun x10373 =>
  if x10373 = true then (
  if (ieq x10347 0) = true then (
  if (ieq x10346 0) = true then (
  bind1 (ref02_Same FU (Tm.mk v7956 v7957 (Ty.mk v7958 v7959) v7960) x10345) fun x10385 =>
  j10369 x10385)
  else (
  j10369 false))
  else (
  j10369 false))
  else (
  j10369 false))))
  else (
  some (.brk (v7955, v7956, v7957, v7958, v7959, v7960)))) : (Int × Int × Int × Int × (List Ty) × (List Tm)) → (Option (Ctl (Int × Int × Int × Int × (List Ty) × (List Tm)) (Bool)))) fun F7961 =>
  bind1 (loopN F7961 FU (0, x105.kind, x105.index, x105.typeF.kind, x105.typeF.args, x105.args)) (sumK (un6 fun (v7955 : Int) (v7956 : Int) (v7957 : Int) (v7958 : Int) (v7959 : (List Ty)) (v7960 : (List Tm)) =>
  some true) (fun r => some r)))
  else (
  some true))
  else (
  some false)

def mk_Closed (a0 : Smk_Deck) : Option (Tm × Ty × Smk_Deck) :=
  bind2 (mk_Type FU a0 1) fun x9 d10 =>
  bind2 (mk_Term FU d10 [] x9 3) fun x27 d28 =>
  some (x27, x9, d28)

def law04_canonical : Nat → Tm → Ty → Option (Bool)
  | 0, _, _ => none
  | n + 1, a0, a1 =>
  if (ieq a1.kind 1) = true then (
  joinB ((un5 fun (v973 : Int) (v974 : Int) (v975 : Int) (v976 : (List Ty)) (v977 : (List Tm)) =>
  if (ieq v973 5) = true then (
  bind1 (lget v977 0) fun x1021 =>
  some (.next (x1021.kind, x1021.index, x1021.typeF.kind, x1021.typeF.args, x1021.args)))
  else (
  some (.brk (v973, v974, v975, v976, v977)))) : (Int × Int × Int × (List Ty) × (List Tm)) → (Option (Ctl (Int × Int × Int × (List Ty) × (List Tm)) (Bool)))) fun F978 =>
  bind1 (loopN F978 FU (a0.kind, a0.index, a0.typeF.kind, a0.typeF.args, a0.args)) (sumK (un5 fun (v973 : Int) (v974 : Int) (v975 : Int) (v976 : (List Ty)) (v977 : (List Tm)) =>
  some (ieq v973 4)) (fun r => some r)))
  else (
  if (ieq a1.kind 2) = true then (
  joinB ((un5 fun (v1555 : Int) (v1556 : Int) (v1557 : Int) (v1558 : (List Ty)) (v1559 : (List Tm)) =>
  if (ieq v1555 8) = true then (
  bind1 (lget v1559 0) fun x1681 =>
  bind1 (ref01_Nat) fun x1684 =>
  bind1 (law04_canonical n x1681 x1684) fun x1687 =>
  if x1687 = true then (
  bind1 (lget v1559 1) fun x1697 =>
  some (.next (x1697.kind, x1697.index, x1697.typeF.kind, x1697.typeF.args, x1697.args)))
  else (
  some (.ret false)))
  else (
  some (.brk (v1555, v1556, v1557, v1558, v1559)))) : (Int × Int × Int × (List Ty) × (List Tm)) → (Option (Ctl (Int × Int × Int × (List Ty) × (List Tm)) (Bool)))) fun F1560 =>
  bind1 (loopN F1560 FU (a0.kind, a0.index, a0.typeF.kind, a0.typeF.args, a0.args)) (sumK (un5 fun (v1555 : Int) (v1556 : Int) (v1557 : Int) (v1558 : (List Ty)) (v1559 : (List Tm)) =>
  some (ieq v1555 7)) (fun r => some r)))
  else (
  if (ieq a1.kind 5) = true then (
  some (ieq a0.kind 13))
  else (
  if (ieq a1.kind 3) = true then (
  joinB (fun (v1776 : Bool) =>
  some v1776) fun j1777 =>
  if (ieq a0.kind 10) = true then (
  bind1 (lget a0.args 0) fun x1808 =>
  bind1 (lget a1.args 0) fun x1811 =>
  bind1 (law04_canonical n x1808 x1811) fun x1814 =>
  if x1814 = true then (
  bind1 (lget a0.args 1) fun x1820 =>
  bind1 (lget a1.args 1) fun x1823 =>
  bind1 (law04_canonical n x1820 x1823) fun x1826 =>
  j1777 x1826)
  else (
  j1777 false))
  else (
  j1777 false))
  else (
  some (ieq a0.kind 2)))))

def law04_ReduceCloses (a0 : (List Int)) : Option (Bool) :=
  bind1 (law04_sane) fun x27 =>
  if x27 = true then (
  bind1 (mk_Few a0) fun x61 =>
  if x61 = true then (
  bind1 (mk_New a0) fun x81 =>
  bind3 (mk_Closed x81) fun x84 x85 d86 =>
  bind3 (reduce_Normal x84 400) fun x96 x97 x98 =>
  if (ine x98 0) = true then (
  some (sel (ieq x98 4) true (ieq x98 5)))
  else (
  if (sel (ilt x97 0) true (igt x97 400)) = true then (
  some false)
  else (
  bind1 (law04_canonical FU x96 x85) fun x182 =>
  some x182)))
  else (
  some true))
  else (
  some false)

def law04_ReduceAdds (a0 : (List Int)) (a1 : Int) : Option (Bool) :=
  bind1 (law04_sane) fun x27 =>
  if x27 = true then (
  bind1 (mk_Few a0) fun x61 =>
  if x61 = true then (
  bind1 (mk_New a0) fun x81 =>
  bind3 (mk_Closed x81) fun x84 x85 d86 =>
  bind3 (reduce_Normal x84 300) fun x96 x97 x98 =>
  if (ine x98 0) = true then (
  some (sel (ieq x98 4) true (ieq x98 5)))
  else (
  bind3 (reduce_Normal x84 (iadd .i64 x97 (conv .i64 a1))) fun x146 x147 x148 =>
  joinB (fun (v200 : Bool) =>
  if v200 = true then (
  some false)
  else (
  bind3 (reduce_Normal x84 (isub .i64 x97 1)) fun x230 x231 x232 =>
  some (sel (ieq x97 0) (sel (ieq x232 1) true (sel (igt x97 0) (ieq x232 5) false)) (sel (igt x97 0) (ieq x232 5) false)))) fun j201 =>
  if (ine x148 0) = true then (
  j201 true)
  else (
  if (ine x147 x97) = true then (
  j201 true)
  else (
  bind1 (ref02_Same FU x96 x146) fun x211 =>
  j201 (bnot x211)))))
  else (
  some true))
  else (
  some false)

def law04_ReduceParts (a0 : (List Int)) : Option (Bool) :=
  bind1 (law04_sane) fun x27 =>
  if x27 = true then (
  bind1 (mk_Few a0) fun x61 =>
  if x61 = true then (
  bind1 (mk_New a0) fun x76 =>
  bind2 (mk_Context x76) fun x85 d86 =>
  bind2 (mk_Type FU d86 0) fun x95 d96 =>
  bind2 (mk_Type FU d96 1) fun x161 d162 =>
  bind2 (mk_Term FU d162 x85 x161 2) fun x165 d166 =>
  chk (okApp [] x85) <|
  chk (okApp (lapp [] x85) [x95]) <|
  bind2 (mk_Type FU d166 1) fun x173 d174 =>
  bind2 (mk_Term FU d174 (lapp (lapp [] x85) [x95]) x173 2) fun x177 d178 =>
  bind3 (reduce_Normal x165 300) fun x188 x189 x190 =>
  bind3 (reduce_Normal x177 300) fun x200 x201 x202 =>
  if (sel (ine x190 0) true (ine x202 0)) = true then (
  some (sel (ieq x190 0) (sel (ieq x202 0) true (sel (ieq x202 4) true (ieq x202 5))) (sel (ieq x190 4) (sel (ieq x202 0) true (sel (ieq x202 4) true (ieq x202 5))) (sel (ieq x190 5) (sel (ieq x202 0) true (sel (ieq x202 4) true (ieq x202 5))) false))))
  else (
  bind1 (ref02_T 2 x95 [x177]) fun x388 =>
  bind1 (ref02_N 10 [x165, x388]) fun x391 =>
  bind3 (reduce_Normal x391 700) fun x394 x395 x396 =>
  if (ine x396 0) = true then (
  some (ieq x396 4))
  else (
  joinB (fun (v450 : Bool) =>
  some v450) fun j451 =>
  if (ieq x395 (iadd .i64 x189 x201)) = true then (
  bind1 (ref02_T 2 x95 [x200]) fun x470 =>
  bind1 (ref02_N 10 [x188, x470]) fun x473 =>
  bind1 (ref02_Same FU x394 x473) fun x476 =>
  j451 x476)
  else (
  j451 false))))
  else (
  some true))
  else (
  some false)

def tree_SameType : Nat → Ty → Ty → Option (Bool)
  | 0, _, _ => none
  | n + 1, a0, a1 =>
  if (sel (ine a0.kind a1.kind) true (ine (llen a0.args) (llen a1.args))) = true then (
  some false)
  else (
  chk (okLen a0.args) <|
  joinB (fun (j150 : Int) (x152 : Ty) => (fun (_ : Unit) =>
  bind1 (lget a1.args j150) fun x357 =>
  bind1 (tree_SameType n x152 x357) fun x360 =>
  if x360 = true then (
  some (.next ()))
  else (
  some (.ret false))) : Int → Ty → (Unit) → (Option (Ctl (Unit) (Bool)))) fun F253 =>
  bind1 (forR F253 a0.args 0 ()) (sumK (fun (_ : Unit) =>
  some true) (fun r => some r)))

def tree_SameTerm : Nat → Tm → Tm → Option (Bool)
  | 0, _, _ => none
  | n + 1, a0, a1 =>
  joinB (fun (v61 : Bool) =>
  if v61 = true then (
  some false)
  else (
  chk (okLen a0.args) <|
  joinB (fun (j196 : Int) (x198 : Tm) => (fun (_ : Unit) =>
  bind1 (lget a1.args j196) fun x403 =>
  bind1 (tree_SameTerm n x198 x403) fun x406 =>
  if x406 = true then (
  some (.next ()))
  else (
  some (.ret false))) : Int → Tm → (Unit) → (Option (Ctl (Unit) (Bool)))) fun F299 =>
  bind1 (forR F299 a0.args 0 ()) (sumK (fun (_ : Unit) =>
  some true) (fun r => some r)))) fun j62 =>
  if (ine a0.kind a1.kind) = true then (
  j62 true)
  else (
  if (ine a0.index a1.index) = true then (
  j62 true)
  else (
  bind1 (tree_SameType FU a0.typeF a1.typeF) fun x72 =>
  if x72 = true then (
  j62 (ine (llen a0.args) (llen a1.args)))
  else (
  j62 true)))

def terms_Same (a0 : Tm) (a1 : Tm) : Option (Bool) :=
  bind1 (tree_SameTerm FU a0 a1) fun x8 =>
  some x8

def reduce_Match (a0 : Tm) (a1 : Tm) (a2 : Int) : Option (Int) :=
  bind1 (terms_Check a0) fun x29 =>
  if (ine x29 0) = true then (
  some x29)
  else (
  bind1 (terms_Check a1) fun x69 =>
  if (ine x69 0) = true then (
  some x69)
  else (
  bind1 (terms_Same a0 a1) fun x107 =>
  if x107 = true then (
  some 0)
  else (
  bind3 (reduce_Normal a0 a2) fun x126 x127 x128 =>
  if (ine x128 0) = true then (
  some x128)
  else (
  bind3 (reduce_Normal a1 a2) fun x162 x163 x164 =>
  if (ine x164 0) = true then (
  some x164)
  else (
  bind1 (terms_Same x126 x162) fun x215 =>
  if x215 = true then (
  some 0)
  else (
  some 11))))))

def law04_ReduceMatches (a0 : (List Int)) (a1 : Int) : Option (Bool) :=
  bind1 (law04_sane) fun x27 =>
  if x27 = true then (
  bind1 (mk_Few a0) fun x61 =>
  if x61 = true then (
  bind1 (mk_New a0) fun x76 =>
  bind2 (mk_Context x76) fun x85 d86 =>
  bind2 (mk_Type FU d86 1) fun x95 d96 =>
  bind2 (mk_Term FU d96 x85 x95 3) fun x125 d126 =>
  bind2 (mk_Term FU d126 x85 x95 2) fun x129 d130 =>
  chk (okDiv 6) <|
  joinB ((un6 fun (v581 : Int) (v582 : Int) (v583 : Int) (v584 : Int) (v585 : (List Ty)) (v586 : (List Tm)) =>
  if (ilt v581 (conv .i64 (irem .u8 a1 6))) = true then (
  bind3 (reduce_Step (Tm.mk v582 v583 (Ty.mk v584 v585) v586)) fun x678 x679 x680 =>
  if (ine x680 0) = true then (
  some (.ret (ieq x680 4)))
  else (
  some (.next ((iadd .i64 v581 1), x678.kind, x678.index, x678.typeF.kind, x678.typeF.args, x678.args))))
  else (
  some (.brk (v581, v582, v583, v584, v585, v586)))) : (Int × Int × Int × Int × (List Ty) × (List Tm)) → (Option (Ctl (Int × Int × Int × Int × (List Ty) × (List Tm)) (Bool)))) fun F587 =>
  bind1 (loopN F587 FU (0, x125.kind, x125.index, x125.typeF.kind, x125.typeF.args, x125.args)) (sumK (un6 fun (v581 : Int) (v582 : Int) (v583 : Int) (v584 : Int) (v585 : (List Ty)) (v586 : (List Tm)) =>
  bind1 (reduce_Match x125 x129 300) fun x727 =>
  bind1 (reduce_Match x129 x125 300) fun x730 =>
  bind1 (reduce_Match x125 (Tm.mk v582 v583 (Ty.mk v584 v585) v586) 300) fun x738 =>
  joinB (fun (v781 : Bool) =>
  if v781 = true then (
  some false)
  else (
  some (sel (ieq x738 0) true (sel (ieq x738 5) true (ieq x738 4))))) fun j782 =>
  if (bneB (ieq x727 0) (ieq x730 0)) = true then (
  j782 true)
  else (
  bind1 (reduce_Match x125 x125 0) fun x789 =>
  j782 (ine x789 0))) (fun r => some r)))
  else (
  some true))
  else (
  some false)

def mk_CountType : Nat → Ty → Int → Option (Int)
  | 0, _, _ => none
  | n + 1, a0, a1 =>
  joinB ((un2 fun (v255 : Int) (v256 : Int) =>
  if (sel (ilt v256 (llen a0.args)) (ile v255 a1) false) = true then (
  bind1 (lget a0.args v256) fun x327 =>
  bind1 (mk_CountType n x327 (isub .i64 a1 v255)) fun x330 =>
  some (.next ((iadd .i64 v255 x330), (iadd .i64 v256 1))))
  else (
  some (.brk (v255, v256)))) : (Int × Int) → (Option (Ctl (Int × Int) (Int)))) fun F257 =>
  bind1 (loopN F257 FU (1, 0)) (sumK (un2 fun (v255 : Int) (v256 : Int) =>
  some v255) (fun r => some r))

def mk_CountTerm : Nat → Tm → Int → Option (Int)
  | 0, _, _ => none
  | n + 1, a0, a1 =>
  bind1 (mk_CountType FU a0.typeF (isub .i64 a1 1)) fun x8 =>
  joinB ((un2 fun (v261 : Int) (v262 : Int) =>
  if (sel (ilt v262 (llen a0.args)) (ile v261 a1) false) = true then (
  bind1 (lget a0.args v262) fun x333 =>
  bind1 (mk_CountTerm n x333 (isub .i64 a1 v261)) fun x336 =>
  some (.next ((iadd .i64 v261 x336), (iadd .i64 v262 1))))
  else (
  some (.brk (v261, v262)))) : (Int × Int) → (Option (Ctl (Int × Int) (Int)))) fun F263 =>
  bind1 (loopN F263 FU ((iadd .i64 1 x8), 0)) (sumK (un2 fun (v261 : Int) (v262 : Int) =>
  some v261) (fun r => some r))

def law04_nodes (a0 : Tm) : Option (Int) :=
  bind1 (mk_CountTerm FU a0 20000) fun x8 =>
  some x8

def law04_few (a0 : (List Tm)) : Option (Bool) :=
  chk (okLen a0) <|
  joinB (fun (j87 : Int) (x89 : Tm) => (fun (v162 : Int) =>
  bind1 (law04_nodes x89) fun x215 =>
  some (.next (iadd .i64 v162 x215))) : Int → Tm → (Int) → (Option (Ctl (Int) (Bool)))) fun F163 =>
  bind1 (forR F163 a0 0 0) (sumK (fun (v162 : Int) =>
  some (ilt v162 400)) (fun r => some r))

def graph_Node_Redex (a0 : (Option Nat)) (nh : List HC) : Option (Bool) :=
  bind1 (graph_Node_redex a0 nh) fun x8 =>
  some x8

def reduce_Redex (a0 : Tm) : Option (Bool × Int) :=
  bind1 (terms_Check a0) fun x29 =>
  if (ine x29 0) = true then (
  some (false, x29))
  else (
  bind2 (graph_From FU a0 ([] : List HC)) fun x52 nh53 =>
  bind1 (graph_Node_Redex x52 nh53) fun x56 =>
  some (x56, 0))

def ref04_Root (a0 : Tm) : Option (Bool) :=
  if (ieq a0.kind 3) = true then (
  bind1 (lget a0.args 0) fun x144 =>
  some (ieq x144.kind 2))
  else (
  if (ieq a0.kind 6) = true then (
  joinB (fun (v165 : Bool) =>
  some v165) fun j166 =>
  bind1 (lget a0.args 2) fun x170 =>
  if (ieq x170.kind 4) = true then (
  j166 true)
  else (
  j166 (ieq x170.kind 5)))
  else (
  if (ieq a0.kind 9) = true then (
  joinB (fun (v194 : Bool) =>
  some v194) fun j195 =>
  bind1 (lget a0.args 2) fun x199 =>
  if (ieq x199.kind 7) = true then (
  j195 true)
  else (
  j195 (ieq x199.kind 8)))
  else (
  if (sel (ieq a0.kind 11) true (ieq a0.kind 12)) = true then (
  bind1 (lget a0.args 0) fun x238 =>
  some (ieq x238.kind 10))
  else (
  some false))))

def ref04_Redex (a0 : Tm) : Option (Bool × Int) :=
  bind1 (ref02_Check a0) fun x29 =>
  if (ine x29 0) = true then (
  some (false, x29))
  else (
  bind1 (ref04_Root a0) fun x48 =>
  some (x48, 0))

def graph_Node_Contract (a0 : (Option Nat)) (nh : List HC) : Option ((Option Nat) × Bool × List HC) :=
  bind1 (graph_Node_grownR a0 nh) fun x27 =>
  if (igt x27 4096) = true then (
  some (none, false, nh))
  else (
  bind2 (graph_Node_contract a0 nh) fun x45 nh46 =>
  some (x45, true, nh46))

def reduce_Contract (a0 : Tm) : Option (Tm × Int) :=
  bind2 (reduce_Redex a0) fun x9 x10 =>
  if (ine x10 0) = true then (
  some ((Tm.mk 0 0 (Ty.mk 0 []) []), x10))
  else (
  if x9 = true then (
  bind1 (tree_Near a0) fun x89 =>
  if x89 = true then (
  bind2 (graph_From FU a0 ([] : List HC)) fun x110 nh111 =>
  bind3 (graph_Node_Contract x110 nh111) fun x114 x115 nh116 =>
  if x115 = true then (
  bind1 (graph_Node_Term FU x114 nh116) fun x146 =>
  some (x146, 0))
  else (
  some ((Tm.mk 0 0 (Ty.mk 0 []) []), 4)))
  else (
  some ((Tm.mk 0 0 (Ty.mk 0 []) []), 1)))
  else (
  some ((Tm.mk 0 0 (Ty.mk 0 []) []), 21)))

def ref03_Least : Nat → Tm → Int → Option (Bool)
  | 0, _, _ => none
  | n + 1, a0, a1 =>
  if (igt a0.index a1) = true then (
  some false)
  else (
  chk (okLen a0.args) <|
  joinB (fun (j100 : Int) (x102 : Tm) => (fun (_ : Unit) =>
  bind1 (ref03_Least n x102 a1) fun x238 =>
  if x238 = true then (
  some (.next ()))
  else (
  some (.ret false))) : Int → Tm → (Unit) → (Option (Ctl (Unit) (Bool)))) fun F167 =>
  bind1 (forR F167 a0.args 0 ()) (sumK (fun (_ : Unit) =>
  some true) (fun r => some r)))

def ref03_Times : Nat → Tm → Int → Option (Int)
  | 0, _, _ => none
  | n + 1, a0, a1 =>
  chk (okLen a0.args) <|
  joinB (fun (j158 : Int) (x160 : Tm) => (fun (v269 : Int) =>
  bind1 (ref03_below a0) fun x337 =>
  bind1 (ref03_Times n x160 (iadd .i64 a1 x337)) fun x340 =>
  some (.next (iadd .i64 v269 x340))) : Int → Tm → (Int) → (Option (Ctl (Int) (Int)))) fun F270 =>
  bind1 (forR F270 a0.args 0 (sel (sel (ieq a0.kind 1) (ieq a0.index a1) false) (iadd .i64 0 1) 0)) (sumK (fun (v269 : Int) =>
  some v269) (fun r => some r))

def ref04_growth (a0 : Tm) : Option (Int) :=
  bind1 (ref02_Count FU a0) fun x8 =>
  if (ieq a0.kind 3) = true then (
  bind1 (lget a0.args 0) fun x455 =>
  bind1 (lget x455.args 0) fun x458 =>
  bind1 (lget a0.args 1) fun x461 =>
  bind1 (ref02_Count FU x458) fun x493 =>
  bind1 (ref03_Times FU x458 0) fun x496 =>
  bind1 (ref02_Count FU x461) fun x499 =>
  some (isub .i64 (iadd .i64 x493 (imul .i64 x496 (isub .i64 x499 1))) x8))
  else (
  if (ieq a0.kind 6) = true then (
  bind1 (lget a0.args 2) fun x547 =>
  if (ieq x547.kind 4) = true then (
  bind1 (lget a0.args 0) fun x565 =>
  bind1 (ref02_Count FU x565) fun x568 =>
  some (isub .i64 x568 x8))
  else (
  bind1 (lget a0.args 1) fun x609 =>
  bind1 (ref02_Count FU x609) fun x612 =>
  bind1 (lget x547.args 0) fun x615 =>
  bind1 (ref02_Count FU x615) fun x618 =>
  some (isub .i64 (isub .i64 (iadd .i64 (iadd .i64 (iadd .i64 2 x612) x618) x8) 1) x8)))
  else (
  if (ieq a0.kind 9) = true then (
  bind1 (lget a0.args 2) fun x666 =>
  if (ieq x666.kind 7) = true then (
  bind1 (lget a0.args 0) fun x684 =>
  bind1 (ref02_Count FU x684) fun x687 =>
  some (isub .i64 x687 x8))
  else (
  bind1 (lget x666.args 0) fun x710 =>
  bind1 (lget x666.args 1) fun x713 =>
  bind1 (lget a0.args 1) fun x763 =>
  bind1 (ref02_Count FU x763) fun x766 =>
  bind1 (ref02_Count FU x710) fun x769 =>
  bind1 (ref02_Count FU x713) fun x772 =>
  bind1 (ref02_Count FU x710) fun x775 =>
  some (isub .i64 (isub .i64 (isub .i64 (iadd .i64 (iadd .i64 (iadd .i64 (iadd .i64 3 x766) x769) x772) x8) 1) x775) x8)))
  else (
  if (ieq a0.kind 11) = true then (
  bind1 (lget a0.args 0) fun x798 =>
  bind1 (lget x798.args 0) fun x801 =>
  bind1 (ref02_Count FU x801) fun x804 =>
  some (isub .i64 x804 x8))
  else (
  bind1 (lget a0.args 0) fun x818 =>
  bind1 (lget x818.args 1) fun x821 =>
  bind1 (ref02_Count FU x821) fun x824 =>
  some (isub .i64 x824 x8)))))

def ref03_Up : Nat → Tm → Int → Int → Option (Tm)
  | 0, _, _, _ => none
  | n + 1, a0, a1, a2 =>
  chk (okLen a0.args) <|
  joinB (fun (j174 : Int) (x176 : Tm) => (fun (v301 : (List Tm)) =>
  bind1 (ref03_below a0) fun x375 =>
  bind1 (ref03_Up n x176 (iadd .i64 a1 x375) a2) fun x378 =>
  chk (okApp v301 [x378]) <|
  some (.next (lapp v301 [x378]))) : Int → Tm → ((List Tm)) → (Option (Ctl ((List Tm)) (Tm)))) fun F302 =>
  bind1 (forR F302 a0.args 0 []) (sumK (fun (v301 : (List Tm)) =>
  some (Tm.mk a0.kind (sel (sel (ieq a0.kind 1) (ige a0.index a1) false) (iadd .i64 a0.index a2) a0.index) a0.typeF v301)) (fun r => some r))

def ref03_In : Nat → Tm → Int → Int → Tm → Option (Tm)
  | 0, _, _, _, _ => none
  | n + 1, a0, a1, a2, a3 =>
  if (ieq a0.kind 1) = true then (
  if (ieq a0.index (iadd .i64 a1 a2)) = true then (
  bind1 (ref03_Up FU a3 0 (iadd .i64 a1 a2)) fun x130 =>
  some x130)
  else (
  if (igt a0.index (iadd .i64 a1 a2)) = true then (
  bind1 (ref02_Var (isub .i64 a0.index 1)) fun x166 =>
  some x166)
  else (
  some a0)))
  else (
  chk (okLen a0.args) <|
  joinB (fun (j307 : Int) (x309 : Tm) => (fun (v434 : (List Tm)) =>
  bind1 (ref03_below a0) fun x508 =>
  bind1 (ref03_In n x309 a1 (iadd .i64 a2 x508) a3) fun x511 =>
  chk (okApp v434 [x511]) <|
  some (.next (lapp v434 [x511]))) : Int → Tm → ((List Tm)) → (Option (Ctl ((List Tm)) (Tm)))) fun F435 =>
  bind1 (forR F435 a0.args 0 []) (sumK (fun (v434 : (List Tm)) =>
  some (Tm.mk a0.kind a0.index a0.typeF v434)) (fun r => some r)))

def ref04_reduced (a0 : Tm) : Option (Tm) :=
  if (ieq a0.kind 3) = true then (
  bind1 (lget a0.args 0) fun x432 =>
  bind1 (lget x432.args 0) fun x435 =>
  bind1 (lget a0.args 1) fun x438 =>
  bind1 (ref03_In FU x435 0 0 x438) fun x441 =>
  some x441)
  else (
  if (ieq a0.kind 6) = true then (
  bind1 (lget a0.args 2) fun x483 =>
  if (ieq x483.kind 4) = true then (
  bind1 (lget a0.args 0) fun x498 =>
  some x498)
  else (
  bind1 (lget x483.args 0) fun x506 =>
  bind1 (lget a0.args 1) fun x556 =>
  bind1 (ref02_N 3 [x556, x506]) fun x559 =>
  bind1 (lget a0.args 0) fun x562 =>
  bind1 (ref02_T 6 a0.typeF [x562, x556, x506]) fun x565 =>
  bind1 (ref02_N 3 [x559, x565]) fun x568 =>
  some x568))
  else (
  if (ieq a0.kind 9) = true then (
  bind1 (lget a0.args 2) fun x610 =>
  if (ieq x610.kind 7) = true then (
  bind1 (lget a0.args 0) fun x625 =>
  some x625)
  else (
  bind1 (lget x610.args 0) fun x648 =>
  bind1 (lget x610.args 1) fun x651 =>
  bind1 (lget a0.args 1) fun x710 =>
  bind1 (ref02_N 3 [x710, x648]) fun x713 =>
  bind1 (ref02_N 3 [x713, x651]) fun x716 =>
  bind1 (lget a0.args 0) fun x719 =>
  bind1 (ref02_T 9 a0.typeF [x719, x710, x651]) fun x722 =>
  bind1 (ref02_N 3 [x716, x722]) fun x725 =>
  some x725))
  else (
  if (ieq a0.kind 11) = true then (
  bind1 (lget a0.args 0) fun x745 =>
  bind1 (lget x745.args 0) fun x748 =>
  some x748)
  else (
  bind1 (lget a0.args 0) fun x759 =>
  bind1 (lget x759.args 1) fun x762 =>
  some x762))))

def ref04_Contract (a0 : Tm) : Option (Tm × Int) :=
  bind1 (ref02_Check a0) fun x29 =>
  if (ine x29 0) = true then (
  some ((Tm.mk 0 0 (Ty.mk 0 []) []), x29))
  else (
  bind1 (ref04_Root a0) fun x67 =>
  if x67 = true then (
  bind1 (ref03_Least FU a0 536870912) fun x101 =>
  if x101 = true then (
  bind1 (ref02_Count FU a0) fun x168 =>
  bind1 (ref04_growth a0) fun x171 =>
  if (igt (iadd .i64 x168 x171) 4096) = true then (
  some ((Tm.mk 0 0 (Ty.mk 0 []) []), 4))
  else (
  bind1 (ref04_reduced a0) fun x191 =>
  bind1 (ref02_Copy FU x191) fun x194 =>
  some (x194, 0)))
  else (
  some ((Tm.mk 0 0 (Ty.mk 0 []) []), 1)))
  else (
  some ((Tm.mk 0 0 (Ty.mk 0 []) []), 21)))

def ref04_next : Nat → Tm → Int → Option (Tm × Bool × Bool)
  | 0, _, _ => none
  | n + 1, a0, a1 =>
  bind1 (ref04_Root a0) fun x69 =>
  if x69 = true then (
  bind1 (ref04_growth a0) fun x103 =>
  if (igt x103 a1) = true then (
  some ((Tm.mk 0 0 (Ty.mk 0 []) []), true, false))
  else (
  bind1 (ref04_reduced a0) fun x120 =>
  some (x120, true, true)))
  else (
  chk (okLen a0.args) <|
  joinB (fun (j290 : Int) (x292 : Tm) => (fun (_ : Unit) =>
  bind3 (ref04_next n x292 a1) fun x571 x572 x573 =>
  if x572 = true then (
  chk (okNew a0.args) <|
  bind1 (lget a0.args j290) fun x622 =>
  some (.ret ((Tm.mk a0.kind a0.index a0.typeF (lset a0.args j290 x571)), true, x573)))
  else (
  some (.next ()))) : Int → Tm → (Unit) → (Option (Ctl (Unit) (Tm × Bool × Bool)))) fun F451 =>
  bind1 (forR F451 a0.args 0 ()) (sumK (fun (_ : Unit) =>
  some (a0, false, true)) (fun r => some r)))

def ref04_Step (a0 : Tm) : Option (Tm × Bool × Int) :=
  bind1 (ref02_Check a0) fun x29 =>
  if (ine x29 0) = true then (
  some ((Tm.mk 0 0 (Ty.mk 0 []) []), false, x29))
  else (
  bind1 (ref03_Least FU a0 536870912) fun x67 =>
  if x67 = true then (
  bind1 (ref02_Count FU a0) fun x103 =>
  bind3 (ref04_next FU a0 (isub .i64 4096 x103)) fun x106 x107 x108 =>
  if x108 = true then (
  bind1 (ref02_Copy FU x106) fun x138 =>
  some (x138, x107, 0))
  else (
  some ((Tm.mk 0 0 (Ty.mk 0 []) []), false, 4)))
  else (
  some ((Tm.mk 0 0 (Ty.mk 0 []) []), false, 1)))

def ref04_Normal (a0 : Tm) (a1 : Int) : Option (Tm × Int × Int) :=
  bind1 (ref02_Check a0) fun x29 =>
  if (ine x29 0) = true then (
  some ((Tm.mk 0 0 (Ty.mk 0 []) []), 0, x29))
  else (
  joinB (fun (v92 : Bool) =>
  if v92 = true then (
  some ((Tm.mk 0 0 (Ty.mk 0 []) []), 0, 1))
  else (
  joinB ((un6 fun (v622 : Int) (v623 : Int) (v624 : Int) (v625 : Int) (v626 : (List Ty)) (v627 : (List Tm)) =>
  bind1 (ref02_Count FU (Tm.mk v623 v624 (Ty.mk v625 v626) v627)) fun x802 =>
  bind3 (ref04_next FU (Tm.mk v623 v624 (Ty.mk v625 v626) v627) (isub .i64 4096 x802)) fun x805 x806 x807 =>
  if x806 = true then (
  if (ieq v622 a1) = true then (
  some (.ret ((Tm.mk 0 0 (Ty.mk 0 []) []), 0, 5)))
  else (
  if x807 = true then (
  some (.next ((iadd .i64 v622 1), x805.kind, x805.index, x805.typeF.kind, x805.typeF.args, x805.args)))
  else (
  some (.ret ((Tm.mk 0 0 (Ty.mk 0 []) []), 0, 4)))))
  else (
  bind1 (ref02_Copy FU (Tm.mk v623 v624 (Ty.mk v625 v626) v627)) fun x891 =>
  some (.ret (x891, v622, 0)))) : (Int × Int × Int × Int × (List Ty) × (List Tm)) → (Option (Ctl (Int × Int × Int × Int × (List Ty) × (List Tm)) (Tm × Int × Int)))) fun F628 =>
  bind1 (loopN F628 FU (0, a0.kind, a0.index, a0.typeF.kind, a0.typeF.args, a0.args)) (sumK (un6 fun (v622 : Int) (v623 : Int) (v624 : Int) (v625 : Int) (v626 : (List Ty)) (v627 : (List Tm)) =>
  none) (fun r => some r)))) fun j93 =>
  if (ilt a1 0) = true then (
  j93 true)
  else (
  if (igt a1 65536) = true then (
  j93 true)
  else (
  bind1 (ref03_Least FU a0 536870912) fun x103 =>
  j93 (bnot x103))))

def ref04_Match (a0 : Tm) (a1 : Tm) (a2 : Int) : Option (Int) :=
  bind1 (ref02_Check a0) fun x29 =>
  if (ine x29 0) = true then (
  some x29)
  else (
  bind1 (ref02_Check a1) fun x69 =>
  if (ine x69 0) = true then (
  some x69)
  else (
  bind1 (ref02_Same FU a0 a1) fun x107 =>
  if x107 = true then (
  some 0)
  else (
  bind3 (ref04_Normal a0 a2) fun x126 x127 x128 =>
  if (ine x128 0) = true then (
  some x128)
  else (
  bind3 (ref04_Normal a1 a2) fun x162 x163 x164 =>
  if (ine x164 0) = true then (
  some x164)
  else (
  bind1 (ref02_Same FU x126 x162) fun x215 =>
  if x215 = true then (
  some 0)
  else (
  some 11))))))

def law04_ReduceDoes (a0 : (List Int)) (a1 : Tm) (a2 : Tm) (a3 : Int) : Option (Bool) :=
  bind1 (law04_sane) fun x27 =>
  if x27 = true then (
  joinB (fun (v86 : Bool) =>
  if v86 = true then (
  some true)
  else (
  bind1 (mk_New a0) fun x114 =>
  bind2 (mk_Context x114) fun x123 d124 =>
  bind2 (mk_Type FU d124 1) fun x133 d134 =>
  bind2 (mk_Term FU d134 x123 x133 3) fun x163 d164 =>
  bind2 (mk_Term FU d164 x123 x133 2) fun x167 d168 =>
  joinB ([a1, x163, x167] : List Tm) fun L1283 =>
  chk (okLen L1283) <|
  joinB (fun (j1284 : Int) (x1286 : Tm) => (fun (_ : Unit) =>
  bind2 (reduce_Redex x1286) fun x2980 x2981 =>
  bind2 (ref04_Redex x1286) fun x2990 x2991 =>
  bind2 (reduce_Contract x1286) fun x3000 x3001 =>
  bind2 (ref04_Contract x1286) fun x3010 x3011 =>
  bind3 (reduce_Step x1286) fun x3021 x3022 x3023 =>
  bind3 (ref04_Step x1286) fun x3033 x3034 x3035 =>
  joinB (fun (v3132 : Bool) =>
  if v3132 = true then (
  some (.ret false))
  else (
  bind1 (mk_Mod a3 40) fun x3175 =>
  joinB ([x3175, (imin a3 60)] : List Int) fun L3178 =>
  chk (okLen L3178) <|
  joinB (fun (j3179 : Int) (x3181 : Int) => (fun (_ : Unit) =>
  bind3 (reduce_Normal x1286 x3181) fun x3715 x3716 x3717 =>
  bind3 (ref04_Normal x1286 x3181) fun x3727 x3728 x3729 =>
  joinB (fun (v3789 : Bool) =>
  if v3789 = true then (
  some (.ret false))
  else (
  some (.next ()))) fun j3790 =>
  if (ine x3716 x3728) = true then (
  j3790 true)
  else (
  if (ine x3717 x3729) = true then (
  j3790 true)
  else (
  bind1 (ref02_Same FU x3715 x3727) fun x3827 =>
  if x3827 = true then (
  bind1 (reduce_Match x1286 x163 x3181) fun x3833 =>
  bind1 (ref04_Match x1286 x163 x3181) fun x3836 =>
  if (ine x3833 x3836) = true then (
  j3790 true)
  else (
  bind1 (reduce_Match x1286 a2 x3181) fun x3842 =>
  bind1 (ref04_Match x1286 a2 x3181) fun x3845 =>
  j3790 (ine x3842 x3845)))
  else (
  j3790 true)))) : Int → Int → (Unit) → (Option (Ctl (Unit) (Bool)))) fun F3510 =>
  bind1 (forR F3510 L3178 0 ()) (sumK (fun (_ : Unit) =>
  some (.next ())) (fun r => some (.ret r))))) fun j3133 =>
  if (bneB x2980 x2990) = true then (
  j3133 true)
  else (
  if (ine x2981 x2991) = true then (
  j3133 true)
  else (
  if (ine x3001 x3011) = true then (
  j3133 true)
  else (
  bind1 (ref02_Same FU x3000 x3010) fun x3146 =>
  if x3146 = true then (
  if (bneB x3022 x3034) = true then (
  j3133 true)
  else (
  if (ine x3023 x3035) = true then (
  j3133 true)
  else (
  bind1 (ref02_Same FU x3021 x3033) fun x3158 =>
  j3133 (bnot x3158))))
  else (
  j3133 true))))) : Int → Tm → (Unit) → (Option (Ctl (Unit) (Bool)))) fun F2389 =>
  bind1 (forR F2389 L1283 0 ()) (sumK (fun (_ : Unit) =>
  some true) (fun r => some r)))) fun j87 =>
  bind1 (mk_Few a0) fun x91 =>
  if x91 = true then (
  bind1 (law04_few [a1, a2]) fun x97 =>
  j87 (bnot x97))
  else (
  j87 true))
  else (
  some false)

def law04_inner : Nat → Smk_Deck → Tm → Option (Tm × Bool × Smk_Deck)
  | 0, _, _ => none
  | n + 1, a0, a1 =>
  joinB (fun (v73 : Smk_Deck) =>
  bind2 (mk_Deck_Next v73 (iadd .i64 (llen a1.args) 1)) fun x470 d471 =>
  joinB ((un2 fun (v779 : Int) (v780 : Smk_Deck) =>
  if (ilt v779 (llen a1.args)) = true then (
  bind1 (lget a1.args v779) fun x900 =>
  bind3 (law04_inner n v780 x900) fun x903 x904 d905 =>
  if x904 = true then (
  chk (okNew a1.args) <|
  bind1 (lget a1.args v779) fun x943 =>
  some (.ret ((Tm.mk a1.kind a1.index a1.typeF (lset a1.args v779 x903)), true, d905)))
  else (
  some (.next ((iadd .i64 v779 1), d905))))
  else (
  some (.brk (v779, v780)))) : (Int × Smk_Deck) → (Option (Ctl (Int × Smk_Deck) (Tm × Bool × Smk_Deck)))) fun F781 =>
  bind1 (loopN F781 FU (x470, d471)) (sumK (un2 fun (v779 : Int) (v780 : Smk_Deck) =>
  some (a1, false, v780)) (fun r => some r))) fun j74 =>
  bind2 (reduce_Redex a1) fun x84 x85 =>
  joinB (fun (v101 : Bool) (v102 : Smk_Deck) =>
  if v101 = true then (
  bind2 (reduce_Contract a1) fun x130 x131 =>
  if (ieq x131 0) = true then (
  some (x130, true, v102))
  else (
  j74 v102))
  else (
  j74 v102)) fun j103 =>
  if (ieq x85 0) = true then (
  if x84 = true then (
  bind2 (mk_Deck_Next a0 2) fun x113 d114 =>
  j103 (ieq x113 0) d114)
  else (
  j103 false a0))
  else (
  j103 false a0)

def law04_ReduceUnique (a0 : (List Int)) : Option (Bool) :=
  bind1 (law04_sane) fun x27 =>
  if x27 = true then (
  bind1 (mk_Few a0) fun x61 =>
  if x61 = true then (
  bind1 (mk_New a0) fun x76 =>
  bind2 (mk_Context x76) fun x85 d86 =>
  bind2 (mk_Type FU d86 1) fun x99 d100 =>
  bind2 (mk_Term FU d100 x85 x99 3) fun x103 d104 =>
  joinB ((un7 fun (v302 : Int) (v303 : Int) (v304 : Int) (v305 : Int) (v306 : (List Ty)) (v307 : (List Tm)) (v308 : Smk_Deck) =>
  if (ilt v302 5) = true then (
  bind3 (law04_inner FU v308 (Tm.mk v303 v304 (Ty.mk v305 v306) v307)) fun x362 x363 d364 =>
  some (.next ((iadd .i64 v302 1), x362.kind, x362.index, x362.typeF.kind, x362.typeF.args, x362.args, d364)))
  else (
  some (.brk (v302, v303, v304, v305, v306, v307, v308)))) : (Int × Int × Int × Int × (List Ty) × (List Tm) × Smk_Deck) → (Option (Ctl (Int × Int × Int × Int × (List Ty) × (List Tm) × Smk_Deck) (Bool)))) fun F309 =>
  bind1 (loopN F309 FU (0, x103.kind, x103.index, x103.typeF.kind, x103.typeF.args, x103.args, d104)) (sumK (un7 fun (v302 : Int) (v303 : Int) (v304 : Int) (v305 : Int) (v306 : (List Ty)) (v307 : (List Tm)) (v308 : Smk_Deck) =>
  bind3 (reduce_Normal x103 400) fun x374 x375 x376 =>
  bind3 (reduce_Normal (Tm.mk v303 v304 (Ty.mk v305 v306) v307) 400) fun x386 x387 x388 =>
  if (sel (ine x376 0) true (ine x388 0)) = true then (
  some (sel (ieq x376 0) (sel (ieq x388 0) true (sel (ieq x388 4) true (ieq x388 5))) (sel (ieq x376 4) (sel (ieq x388 0) true (sel (ieq x388 4) true (ieq x388 5))) (sel (ieq x376 5) (sel (ieq x388 0) true (sel (ieq x388 4) true (ieq x388 5))) false))))
  else (
  bind1 (reduce_Match x103 (Tm.mk v303 v304 (Ty.mk v305 v306) v307) 400) fun x544 =>
  joinB (fun (v556 : Bool) =>
  some v556) fun j557 =>
  bind1 (ref02_Same FU x374 x386) fun x561 =>
  if x561 = true then (
  j557 (ieq x544 0))
  else (
  j557 false))) (fun r => some r)))
  else (
  some true))
  else (
  some false)

end Go.Mdl
