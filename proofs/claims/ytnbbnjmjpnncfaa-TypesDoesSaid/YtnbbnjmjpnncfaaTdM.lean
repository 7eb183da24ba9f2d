/-
  TypesDoes as a model: what comes behind bent, and the law with a word for it.
-/
import Derived.Test.YtnbbnjmjpnncfaaYM
set_option maxRecDepth 20000
set_option linter.unusedSimpArgs false
set_option linter.unusedVariables false
namespace Go.Mdl
open Go
/-- What comes behind bent. -/
def tdRest (a1 : Ty) (a2 : List Ty) (x53 x56 x530 : Ty) : Option Bool :=
  joinB ([a1, x53, x530] : List Ty) fun L533 =>
  chk (okLen L533) <|
  joinB (fun (j534 : Int) (x536 : Ty) => (fun (_ : Unit) =>
  bind2 (types_Size x536) fun x1215 x1216 =>
  bind2 (ref01_Size x536) fun x1221 x1222 =>
  bind2 (types_Level x536) fun x1227 x1228 =>
  bind2 (ref01_Level x536) fun x1233 x1234 =>
  bind2 (types_Data x536) fun x1239 x1240 =>
  bind2 (ref01_Data x536) fun x1245 x1246 =>
  bind3 (types_Result x536) fun x1252 x1253 x1254 =>
  bind3 (ref01_Result x536) fun x1260 x1261 x1262 =>
  joinB (fun (v1344 : Bool) =>
  if v1344 = true then (
  some (.ret false))
  else (
  joinB ([a2, [x53], [x56, x536, x53], []] : List (List Ty)) fun L1370 =>
  chk (okLen L1370) <|
  joinB (fun (j1371 : Int) (x1373 : (List Ty)) => (fun (_ : Unit) =>
  bind2 (types_Function x1373 x536) fun x1473 x1474 =>
  bind2 (ref01_Function x1373 x536) fun x1479 x1480 =>
  joinB (fun (v1491 : Bool) =>
  if v1491 = true then (
  some (.ret false))
  else (
  some (.next ()))) fun j1492 =>
  if (ine x1474 x1480) = true then (
  j1492 true)
  else (
  bind1 (ref01_Same FU x1473 x1479) fun x1493 =>
  if x1493 = true then (
  bind1 (types_Context x1373) fun x1495 =>
  bind1 (ref01_Context x1373) fun x1497 =>
  j1492 (ine x1495 x1497))
  else (
  j1492 true))) : Int → (List Ty) → (Unit) → (Option (Ctl (Unit) (Bool)))) fun F1434 =>
  bind1 (forR F1434 L1370 0 ()) (sumK (fun (_ : Unit) =>
  some (.next ())) (fun r => some (.ret r))))) fun j1345 =>
  bind1 (types_Check x536) fun x1358 =>
  bind1 (ref01_Check x536) fun x1360 =>
  if (ine x1358 x1360) = true then (
  j1345 true)
  else (
  if (ine x1215 x1221) = true then (
  j1345 true)
  else (
  if (ine x1216 x1222) = true then (
  j1345 true)
  else (
  if (ine x1227 x1233) = true then (
  j1345 true)
  else (
  if (ine x1228 x1234) = true then (
  j1345 true)
  else (
  if (bneB x1239 x1245) = true then (
  j1345 true)
  else (
  if (ine x1240 x1246) = true then (
  j1345 true)
  else (
  if (ine x1254 x1262) = true then (
  j1345 true)
  else (
  bind1 (ref01_SameAll x1252 x1260) fun x1362 =>
  if x1362 = true then (
  bind1 (ref01_Same FU x1253 x1261) fun x1364 =>
  if x1364 = true then (
  bind1 (types_Same x536 x53) fun x1366 =>
  bind1 (ref01_Same FU x536 x53) fun x1368 =>
  j1345 (bneB x1366 x1368))
  else (
  j1345 true))
  else (
  j1345 true)))))))))) : Int → Ty → (Unit) → (Option (Ctl (Unit) (Bool)))) fun F983 =>
  bind1 (forR F983 L533 0 ()) (sumK (fun (_ : Unit) =>
  some true) (fun r => some r))
def law01_TypesDoesR (a0 : (List Int)) (a1 : Ty) (a2 : (List Ty)) (K : Smk_Deck → Ty → Ty → Option Bool) : Option (Bool) :=
  bind1 (law01_sane) fun x7 =>
  if x7 = true then (
  joinB (fun (v35 : Bool) =>
  if v35 = true then (
  some true)
  else (
  bind1 (mk_New a0) fun x45 =>
  bind2 (mk_Type FU x45 3) fun x53 d54 =>
  bind2 (mk_Type FU d54 2) fun x56 d57 =>
  K d57 x53 x56)) fun j36 =>
  bind1 (mk_Few a0) fun x37 =>
  if x37 = true then (
  bind1 (law01_few [a1]) fun x39 =>
  if x39 = true then (
  bind1 (law01_few a2) fun x41 =>
  j36 (bnot x41))
  else (
  j36 true))
  else (
  j36 true))
  else (
  some false)
end Go.Mdl
