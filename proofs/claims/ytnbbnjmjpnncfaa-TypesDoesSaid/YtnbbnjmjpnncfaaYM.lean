/- Models of the functions: what they compute, in plain Lean. -/
import Derived.Test.YtnbbnjmjpnncfaaYT
import Derived.Test.YtnbbnjmjpnncfaaTyN
set_option maxRecDepth 20000
set_option linter.unusedSimpArgs false
set_option linter.unusedVariables false
namespace Go.Mdl
open Go

def ref01_Nat  : Option (Ty) :=
  some (Ty.mk 1 [])

def ref01_Copy : Nat → Ty → Option (Ty)
  | 0, _ => none
  | n + 1, a0 =>
  chk (okLen a0.args) <|
  joinB (fun (j21 : Int) (x23 : Ty) => (fun (v40 : (List Ty)) =>
  bind1 (ref01_Copy n x23) fun x51 =>
  chk (okApp v40 [x51]) <|
  some (.next (lapp v40 [x51]))) : Int → Ty → ((List Ty)) → (Option (Ctl ((List Ty)) (Ty)))) fun F41 =>
  bind1 (forR F41 a0.args 0 []) (sumK (fun (v40 : (List Ty)) =>
  some (Ty.mk a0.kind v40)) (fun r => some r))

def ref01_Fun (a0 : Ty) (a1 : Ty) : Option (Ty) :=
  bind1 (ref01_Copy FU a0) fun x13 =>
  bind1 (ref01_Copy FU a1) fun x15 =>
  some (Ty.mk 4 [x13, x15])

def tree_typeNodes : Nat → Ty → Option (Int × Bool)
  | 0, _ => none
  | n + 1, a0 =>
  joinB (fun (v10 : Int) =>
  if (ine (llen a0.args) v10) = true then (
  some (0, false))
  else (
  chk (okLen a0.args) <|
  joinB (fun (j50 : Int) (x52 : Ty) => (fun (v81 : Int) =>
  bind2 (tree_typeNodes n x52) fun x98 x99 =>
  if x99 = true then (
  some (.next (iadd .i64 v81 x98)))
  else (
  some (.ret (0, false)))) : Int → Ty → (Int) → (Option (Ctl (Int) (Int × Bool)))) fun F82 =>
  bind1 (forR F82 a0.args 0 1) (sumK (fun (v81 : Int) =>
  some (v81, true)) (fun r => some r)))) fun j11 =>
  if (sel (ieq a0.kind 1) true (sel (ieq a0.kind 2) true (ieq a0.kind 5))) = true then (
  j11 0)
  else (
  if (sel (ieq a0.kind 3) true (ieq a0.kind 4)) = true then (
  j11 2)
  else (
  some (0, false)))

def tree_CheckType (a0 : Ty) : Option (Int × Int) :=
  bind2 (tree_typeNodes FU a0) fun x4 x5 =>
  if x5 = true then (
  if (igt x4 64) = true then (
  some (0, 4))
  else (
  some (x4, 0)))
  else (
  some (0, 2))

def types_Check (a0 : Ty) : Option (Int) :=
  bind2 (tree_CheckType a0) fun x4 x5 =>
  some x5

def types_level : Nat → Ty → Option (Int)
  | 0, _ => none
  | n + 1, a0 =>
  if (ieq a0.kind 3) = true then (
  bind1 (lget a0.args 0) fun x89 =>
  bind1 (types_level n x89) fun x91 =>
  bind1 (lget a0.args 1) fun x93 =>
  bind1 (types_level n x93) fun x95 =>
  some (imax x91 x95))
  else (
  if (ieq a0.kind 4) = true then (
  bind1 (lget a0.args 0) fun x121 =>
  bind1 (types_level n x121) fun x123 =>
  bind1 (lget a0.args 1) fun x125 =>
  bind1 (types_level n x125) fun x127 =>
  some (imax (iadd .i64 x123 1) x127))
  else (
  some 0))

def types_Level (a0 : Ty) : Option (Int × Int) :=
  bind1 (types_Check a0) fun x7 =>
  if (ine x7 0) = true then (
  some (0, x7))
  else (
  bind1 (types_level FU a0) fun x11 =>
  some (x11, 0))

def law01_sane  : Option (Bool) :=
  bind1 (ref01_Nat) fun x7 =>
  bind1 (ref01_Nat) fun x9 =>
  bind1 (ref01_Fun x7 x9) fun x11 =>
  bind2 (types_Level x11) fun x16 x17 =>
  bind1 (ref01_Nat) fun x40 =>
  bind1 (ref01_Fun x11 x40) fun x42 =>
  bind2 (types_Level x42) fun x44 x45 =>
  some (sel (ieq x17 0) (sel (ieq x45 0) (sel (ieq x16 1) (ieq x44 2) false) false) false)

def mk_Few (a0 : (List Int)) : Option (Bool) :=
  some (ile (llen a0) 500)

def mk_New (l : List Int) : Option Smk_Deck := some ⟨l, 0⟩

def mk_Mod (a0 : Int) (a1 : Int) : Option (Int) :=
  chk (okDiv a1) <|
  chk (okDiv a1) <|
  some (irem .i64 (iadd .i64 (irem .i64 a0 a1) a1) a1)

def mk_Deck_Next (a0 : Smk_Deck) (a1 : Int) : Option (Int × Smk_Deck) :=
  if (sel (ilt a1 1) true (ige a0.atF (llen a0.l))) = true then (
  some (0, a0))
  else (
  bind1 (lget a0.l a0.atF) fun x13 =>
  bind1 (mk_Mod x13 a1) fun x17 =>
  some (x17, (Smk_Deck.mk a0.l (iadd .i64 a0.atF 1))))

def ref01_List  : Option (Ty) :=
  some (Ty.mk 2 [])

def ref01_Unit  : Option (Ty) :=
  some (Ty.mk 5 [])

def ref01_Two (a0 : Ty) (a1 : Ty) : Option (Ty) :=
  bind1 (ref01_Copy FU a0) fun x13 =>
  bind1 (ref01_Copy FU a1) fun x15 =>
  some (Ty.mk 3 [x13, x15])

def mk_Type : Nat → Smk_Deck → Int → Option (Ty × Smk_Deck)
  | 0, _, _ => none
  | n + 1, a0, a1 =>
  joinB (fun (v57 : Smk_Deck) =>
  bind1 (ref01_Nat) fun x114 =>
  some (x114, v57)) fun j58 =>
  bind2 (mk_Deck_Next a0 7) fun x62 d63 =>
  if (sel (ieq x62 0) true (sel (ieq x62 1) true (ieq x62 2))) = true then (
  bind1 (ref01_Nat) fun x70 =>
  some (x70, d63))
  else (
  if (ieq x62 3) = true then (
  bind1 (ref01_List) fun x74 =>
  some (x74, d63))
  else (
  if (ieq x62 4) = true then (
  bind1 (ref01_Unit) fun x78 =>
  some (x78, d63))
  else (
  if (ieq x62 5) = true then (
  if (igt a1 0) = true then (
  bind2 (mk_Type n d63 (isub .i64 a1 1)) fun x88 d89 =>
  bind2 (mk_Type n d89 (isub .i64 a1 1)) fun x91 d92 =>
  bind1 (ref01_Two x88 x91) fun x94 =>
  some (x94, d92))
  else (
  j58 d63))
  else (
  if (ieq x62 6) = true then (
  if (igt a1 0) = true then (
  bind2 (mk_Type n d63 (isub .i64 a1 1)) fun x104 d105 =>
  bind2 (mk_Type n d105 (isub .i64 a1 1)) fun x107 d108 =>
  bind1 (ref01_Fun x104 x107) fun x110 =>
  some (x110, d108))
  else (
  j58 d63))
  else (
  j58 d63)))))

def tree_Fun (a0 : Ty) (a1 : (List Ty)) : Option (Ty) :=
  joinB ((un3 fun (v48 : Int) (v49 : Int) (v50 : (List Ty)) =>
  if (ige v48 0) = true then (
  bind1 (lget a1 v48) fun x64 =>
  some (.next ((isub .i64 v48 1), 4, [x64, (Ty.mk v49 v50)])))
  else (
  some (.brk (v48, v49, v50)))) : (Int × Int × (List Ty)) → (Option (Ctl (Int × Int × (List Ty)) (Ty)))) fun F51 =>
  bind1 (loopN F51 FU ((isub .i64 (llen a1) 1), a0.kind, a0.args)) (sumK (un3 fun (v48 : Int) (v49 : Int) (v50 : (List Ty)) =>
  some (Ty.mk v49 v50)) (fun r => some r))

def tree_OwnType : Nat → Ty → Option (Ty)
  | 0, _ => none
  | n + 1, a0 =>
  chk (okLen a0.args) <|
  joinB (fun (j33 : Int) (x35 : Ty) => (fun (v64 : (List Ty)) =>
  bind1 (tree_OwnType n x35) fun x81 =>
  chk (okApp v64 [x81]) <|
  some (.next (lapp v64 [x81]))) : Int → Ty → ((List Ty)) → (Option (Ctl ((List Ty)) (Ty)))) fun F65 =>
  bind1 (forR F65 a0.args 0 []) (sumK (fun (v64 : (List Ty)) =>
  some (Ty.mk a0.kind v64)) (fun r => some r))

def types_Function (a0 : (List Ty)) (a1 : Ty) : Option (Ty × Int) :=
  chk (okApp [] a0) <|
  chk (okApp (lapp [] a0) [a1]) <|
  chk (okLen (lapp (lapp [] a0) [a1])) <|
  joinB (fun (j49 : Int) (x51 : Ty) => (fun (v80 : Int) =>
  bind2 (tree_CheckType x51) fun x97 x98 =>
  if (ine x98 0) = true then (
  some (.ret ((Ty.mk 0 []), x98)))
  else (
  some (.next (iadd .i64 v80 x97)))) : Int → Ty → (Int) → (Option (Ctl (Int) (Ty × Int)))) fun F81 =>
  bind1 (forR F81 (lapp (lapp [] a0) [a1]) 0 0) (sumK (fun (v80 : Int) =>
  if (igt (iadd .i64 v80 (llen a0)) 64) = true then (
  some ((Ty.mk 0 []), 4))
  else (
  bind1 (tree_Fun a1 a0) fun x104 =>
  bind1 (tree_OwnType FU x104) fun x106 =>
  some (x106, 0))) (fun r => some r))

def types_Size (a0 : Ty) : Option (Int × Int) :=
  bind2 (tree_CheckType a0) fun x4 x5 =>
  some (x4, x5)

def law01_TypesLevels (a0 : (List Int)) : Option (Bool) :=
  bind1 (law01_sane) fun x7 =>
  if x7 = true then (
  bind1 (mk_Few a0) fun x15 =>
  if x15 = true then (
  bind1 (mk_New a0) fun x19 =>
  bind2 (mk_Type FU x19 2) fun x27 d28 =>
  bind2 (mk_Type FU d28 2) fun x30 d31 =>
  bind2 (types_Function [x27] x30) fun x36 x37 =>
  bind2 (types_Level x27) fun x42 x43 =>
  bind2 (types_Level x30) fun x48 x49 =>
  bind2 (types_Level x36) fun x54 x55 =>
  bind2 (types_Size x27) fun x60 x61 =>
  bind2 (types_Size x30) fun x66 x67 =>
  bind2 (types_Size x36) fun x72 x73 =>
  some (sel (ieq x37 0) (sel (ieq x43 0) (sel (ieq x49 0) (sel (ieq x55 0) (sel (ieq x61 0) (sel (ieq x67 0) (sel (ieq x73 0) (sel (ieq x54 (imax (iadd .i64 x42 1) x48)) (ieq x72 (iadd .i64 (iadd .i64 x60 x66) 1)) false) false) false) false) false) false) false) false))
  else (
  some true))
  else (
  some false)

def types_Result (a0 : Ty) : Option ((List Ty) × Ty × Int) :=
  bind1 (types_Check a0) fun x7 =>
  if (ine x7 0) = true then (
  some ([], (Ty.mk 0 []), x7))
  else (
  joinB ((un3 fun (v80 : (List Ty)) (v81 : Int) (v82 : (List Ty)) =>
  if (ieq v81 4) = true then (
  bind1 (lget v82 0) fun x97 =>
  bind1 (tree_OwnType FU x97) fun x99 =>
  chk (okApp v80 [x99]) <|
  bind1 (lget v82 1) fun x102 =>
  some (.next ((lapp v80 [x99]), x102.kind, x102.args)))
  else (
  some (.brk (v80, v81, v82)))) : ((List Ty) × Int × (List Ty)) → (Option (Ctl ((List Ty) × Int × (List Ty)) ((List Ty) × Ty × Int)))) fun F83 =>
  bind1 (loopN F83 FU ([], a0.kind, a0.args)) (sumK (un3 fun (v80 : (List Ty)) (v81 : Int) (v82 : (List Ty)) =>
  bind1 (tree_OwnType FU (Ty.mk v81 v82)) fun x106 =>
  some (v80, x106, 0)) (fun r => some r)))

def types_Data (a0 : Ty) : Option (Bool × Int) :=
  bind1 (types_Check a0) fun e =>
  if ine e 0 = true then some (false, e) else
  chk (decide (a0.cnt ≤ 1000000)) <|
  some (bnot (a0.anyK fun k => k == 4), 0)

def tree_SameType : Nat → Ty → Ty → Option (Bool)
  | 0, _, _ => none
  | n + 1, a0, a1 =>
  if (sel (ine a0.kind a1.kind) true (ine (llen a0.args) (llen a1.args))) = true then (
  some false)
  else (
  chk (okLen a0.args) <|
  joinB (fun (j44 : Int) (x46 : Ty) => (fun (_ : Unit) =>
  bind1 (lget a1.args j44) fun x116 =>
  bind1 (tree_SameType n x46 x116) fun x118 =>
  if x118 = true then (
  some (.next ()))
  else (
  some (.ret false))) : Int → Ty → (Unit) → (Option (Ctl (Unit) (Bool)))) fun F81 =>
  bind1 (forR F81 a0.args 0 ()) (sumK (fun (_ : Unit) =>
  some true) (fun r => some r)))

def types_Same (a0 : Ty) (a1 : Ty) : Option (Bool) :=
  bind1 (tree_SameType FU a0 a1) fun x3 =>
  some x3

def law01_TypesFunctions (a0 : (List Int)) : Option (Bool) :=
  bind1 (law01_sane) fun x7 =>
  if x7 = true then (
  bind1 (mk_Few a0) fun x15 =>
  if x15 = true then (
  bind1 (mk_New a0) fun x19 =>
  bind2 (mk_Type FU x19 3) fun x24 d25 =>
  bind3 (types_Result x24) fun x31 x32 x33 =>
  bind2 (types_Function x31 x32) fun x38 x39 =>
  bind2 (types_Level x24) fun x44 x45 =>
  bind2 (types_Data x24) fun x50 x51 =>
  joinB (fun (v58 : Bool) =>
  some v58) fun j59 =>
  if (ieq x33 0) = true then (
  if (ieq x39 0) = true then (
  if (ieq x45 0) = true then (
  if (ieq x51 0) = true then (
  bind1 (types_Same x24 x38) fun x60 =>
  if x60 = true then (
  if (beqB x50 (ieq x44 0)) = true then (
  j59 (ine x32.kind 4))
  else (
  j59 false))
  else (
  j59 false))
  else (
  j59 false))
  else (
  j59 false))
  else (
  j59 false))
  else (
  j59 false))
  else (
  some true))
  else (
  some false)

def mk_CountType : Nat → Ty → Int → Option (Int)
  | 0, _, _ => none
  | n + 1, a0, a1 =>
  joinB ((un2 fun (v69 : Int) (v70 : Int) =>
  if (sel (ilt v70 (llen a0.args)) (ile v69 a1) false) = true then (
  bind1 (lget a0.args v70) fun x88 =>
  bind1 (mk_CountType n x88 (isub .i64 a1 v69)) fun x90 =>
  some (.next ((iadd .i64 v69 x90), (iadd .i64 v70 1))))
  else (
  some (.brk (v69, v70)))) : (Int × Int) → (Option (Ctl (Int × Int) (Int)))) fun F71 =>
  bind1 (loopN F71 FU (1, 0)) (sumK (un2 fun (v69 : Int) (v70 : Int) =>
  some v69) (fun r => some r))

def law01_nodes (a0 : Ty) : Option (Int) :=
  bind1 (mk_CountType FU a0 20000) fun x3 =>
  some x3

def law01_few (a0 : (List Ty)) : Option (Bool) :=
  chk (okLen a0) <|
  joinB (fun (j17 : Int) (x19 : Ty) => (fun (v32 : Int) =>
  bind1 (law01_nodes x19) fun x42 =>
  some (.next (iadd .i64 v32 x42))) : Int → Ty → (Int) → (Option (Ctl (Int) (Bool)))) fun F33 =>
  bind1 (forR F33 a0 0 0) (sumK (fun (v32 : Int) =>
  some (ilt v32 800)) (fun r => some r))

def ref01_shape : Nat → Ty → Option (Bool)
  | 0, _ => none
  | n + 1, a0 =>
  joinB (fun (v10 : Int) =>
  if (ine (llen a0.args) v10) = true then (
  some false)
  else (
  chk (okLen a0.args) <|
  joinB (fun (j31 : Int) (x33 : Ty) => (fun (_ : Unit) =>
  bind1 (ref01_shape n x33) fun x57 =>
  if x57 = true then (
  some (.next ()))
  else (
  some (.ret false))) : Int → Ty → (Unit) → (Option (Ctl (Unit) (Bool)))) fun F44 =>
  bind1 (forR F44 a0.args 0 ()) (sumK (fun (_ : Unit) =>
  some true) (fun r => some r)))) fun j11 =>
  if (sel (ieq a0.kind 1) true (sel (ieq a0.kind 2) true (ieq a0.kind 5))) = true then (
  j11 0)
  else (
  if (sel (ieq a0.kind 3) true (ieq a0.kind 4)) = true then (
  j11 2)
  else (
  some false))

def ref01_size : Nat → Ty → Option (Int)
  | 0, _ => none
  | n + 1, a0 =>
  chk (okLen a0.args) <|
  joinB (fun (j17 : Int) (x19 : Ty) => (fun (v32 : Int) =>
  bind1 (ref01_size n x19) fun x42 =>
  some (.next (iadd .i64 v32 x42))) : Int → Ty → (Int) → (Option (Ctl (Int) (Int)))) fun F33 =>
  bind1 (forR F33 a0.args 0 1) (sumK (fun (v32 : Int) =>
  some v32) (fun r => some r))

def ref01_Check (a0 : Ty) : Option (Int) :=
  bind1 (ref01_shape FU a0) fun x7 =>
  if x7 = true then (
  bind1 (ref01_size FU a0) fun x15 =>
  if (igt x15 64) = true then (
  some 4)
  else (
  some 0))
  else (
  some 2)

def ref01_Size (a0 : Ty) : Option (Int × Int) :=
  bind1 (ref01_Check a0) fun x7 =>
  if (ine x7 0) = true then (
  some (0, x7))
  else (
  bind1 (ref01_size FU a0) fun x11 =>
  some (x11, 0))

def ref01_level : Nat → Ty → Option (Int)
  | 0, _ => none
  | n + 1, a0 =>
  if (ieq a0.kind 3) = true then (
  bind1 (lget a0.args 0) fun x89 =>
  bind1 (ref01_level n x89) fun x91 =>
  bind1 (lget a0.args 1) fun x93 =>
  bind1 (ref01_level n x93) fun x95 =>
  some (imax x91 x95))
  else (
  if (ieq a0.kind 4) = true then (
  bind1 (lget a0.args 0) fun x121 =>
  bind1 (ref01_level n x121) fun x123 =>
  bind1 (lget a0.args 1) fun x125 =>
  bind1 (ref01_level n x125) fun x127 =>
  some (imax (iadd .i64 x123 1) x127))
  else (
  some 0))

def ref01_Level (a0 : Ty) : Option (Int × Int) :=
  bind1 (ref01_Check a0) fun x7 =>
  if (ine x7 0) = true then (
  some (0, x7))
  else (
  bind1 (ref01_level FU a0) fun x11 =>
  some (x11, 0))

def ref01_Data (a0 : Ty) : Option (Bool × Int) :=
  bind1 (ref01_Check a0) fun x7 =>
  if (ine x7 0) = true then (
  some (false, x7))
  else (
  bind1 (ref01_level FU a0) fun x11 =>
  some ((ieq x11 0), 0))

def ref01_Result (a0 : Ty) : Option ((List Ty) × Ty × Int) :=
  bind1 (ref01_Check a0) fun x7 =>
  if (ine x7 0) = true then (
  some ([], (Ty.mk 0 []), x7))
  else (
  joinB ((un3 fun (v72 : (List Ty)) (v73 : Int) (v74 : (List Ty)) =>
  if (ieq v73 4) = true then (
  bind1 (lget v74 0) fun x87 =>
  bind1 (ref01_Copy FU x87) fun x89 =>
  chk (okApp v72 [x89]) <|
  bind1 (lget v74 1) fun x92 =>
  some (.next ((lapp v72 [x89]), x92.kind, x92.args)))
  else (
  some (.brk (v72, v73, v74)))) : ((List Ty) × Int × (List Ty)) → (Option (Ctl ((List Ty) × Int × (List Ty)) ((List Ty) × Ty × Int)))) fun F75 =>
  bind1 (loopN F75 FU ([], a0.kind, a0.args)) (sumK (un3 fun (v72 : (List Ty)) (v73 : Int) (v74 : (List Ty)) =>
  bind1 (ref01_Copy FU (Ty.mk v73 v74)) fun x96 =>
  some (v72, x96, 0)) (fun r => some r)))

def ref01_Same : Nat → Ty → Ty → Option (Bool)
  | 0, _, _ => none
  | n + 1, a0, a1 =>
  if (sel (ine a0.kind a1.kind) true (ine (llen a0.args) (llen a1.args))) = true then (
  some false)
  else (
  chk (okLen a0.args) <|
  joinB (fun (j44 : Int) (x46 : Ty) => (fun (_ : Unit) =>
  bind1 (lget a1.args j44) fun x116 =>
  bind1 (ref01_Same n x46 x116) fun x118 =>
  if x118 = true then (
  some (.next ()))
  else (
  some (.ret false))) : Int → Ty → (Unit) → (Option (Ctl (Unit) (Bool)))) fun F81 =>
  bind1 (forR F81 a0.args 0 ()) (sumK (fun (_ : Unit) =>
  some true) (fun r => some r)))

def ref01_SameAll (a0 : (List Ty)) (a1 : (List Ty)) : Option (Bool) :=
  if (ine (llen a0) (llen a1)) = true then (
  some false)
  else (
  chk (okLen a0) <|
  joinB (fun (j38 : Int) (x40 : Ty) => (fun (_ : Unit) =>
  bind1 (lget a1 j38) fun x110 =>
  bind1 (ref01_Same FU x40 x110) fun x112 =>
  if x112 = true then (
  some (.next ()))
  else (
  some (.ret false))) : Int → Ty → (Unit) → (Option (Ctl (Unit) (Bool)))) fun F75 =>
  bind1 (forR F75 a0 0 ()) (sumK (fun (_ : Unit) =>
  some true) (fun r => some r)))

def ref01_Function (a0 : (List Ty)) (a1 : Ty) : Option (Ty × Int) :=
  chk (okLen a0) <|
  joinB (fun (j14 : Int) (x16 : Ty) => (fun (_ : Unit) =>
  bind1 (ref01_Check x16) fun x40 =>
  if (ine x40 0) = true then (
  some (.ret ((Ty.mk 0 []), x40)))
  else (
  some (.next ()))) : Int → Ty → (Unit) → (Option (Ctl (Unit) (Ty × Int)))) fun F27 =>
  bind1 (forR F27 a0 0 ()) (sumK (fun (_ : Unit) =>
  bind1 (ref01_Check a1) fun x48 =>
  if (ine x48 0) = true then (
  some ((Ty.mk 0 []), x48))
  else (
  bind1 (ref01_size FU a1) fun x52 =>
  chk (okLen a0) <|
  joinB (fun (j70 : Int) (x72 : Ty) => (fun (v85 : Int) =>
  bind1 (ref01_size FU x72) fun x95 =>
  some (.next (iadd .i64 v85 (iadd .i64 1 x95)))) : Int → Ty → (Int) → (Option (Ctl (Int) (Ty × Int)))) fun F86 =>
  bind1 (forR F86 a0 0 x52) (sumK (fun (v85 : Int) =>
  if (igt v85 64) = true then (
  some ((Ty.mk 0 []), 4))
  else (
  bind1 (ref01_Copy FU a1) fun x99 =>
  joinB ((un3 fun (v180 : Int) (v181 : Int) (v182 : (List Ty)) =>
  if (ige v180 0) = true then (
  bind1 (lget a0 v180) fun x202 =>
  bind1 (ref01_Fun x202 (Ty.mk v181 v182)) fun x204 =>
  some (.next ((isub .i64 v180 1), x204.kind, x204.args)))
  else (
  some (.brk (v180, v181, v182)))) : (Int × Int × (List Ty)) → (Option (Ctl (Int × Int × (List Ty)) (Ty × Int)))) fun F183 =>
  bind1 (loopN F183 FU ((isub .i64 (llen a0) 1), x99.kind, x99.args)) (sumK (un3 fun (v180 : Int) (v181 : Int) (v182 : (List Ty)) =>
  some ((Ty.mk v181 v182), 0)) (fun r => some r)))) (fun r => some r)))) (fun r => some r))

def types_Context (a0 : (List Ty)) : Option (Int) :=
  if (igt (llen a0) 16) = true then (
  some 3)
  else (
  chk (okLen a0) <|
  joinB (fun (j14 : Int) (x16 : Ty) => (fun (_ : Unit) =>
  bind1 (types_Check x16) fun x40 =>
  if (ine x40 0) = true then (
  some (.ret x40))
  else (
  some (.next ()))) : Int → Ty → (Unit) → (Option (Ctl (Unit) (Int)))) fun F27 =>
  bind1 (forR F27 a0 0 ()) (sumK (fun (_ : Unit) =>
  some 0) (fun r => some r)))

def ref01_Context (a0 : (List Ty)) : Option (Int) :=
  if (igt (llen a0) 16) = true then (
  some 3)
  else (
  chk (okLen a0) <|
  joinB (fun (j14 : Int) (x16 : Ty) => (fun (_ : Unit) =>
  bind1 (ref01_Check x16) fun x40 =>
  if (ine x40 0) = true then (
  some (.ret x40))
  else (
  some (.next ()))) : Int → Ty → (Unit) → (Option (Ctl (Unit) (Int)))) fun F27 =>
  bind1 (forR F27 a0 0 ()) (sumK (fun (_ : Unit) =>
  some 0) (fun r => some r)))

end Go.Mdl
