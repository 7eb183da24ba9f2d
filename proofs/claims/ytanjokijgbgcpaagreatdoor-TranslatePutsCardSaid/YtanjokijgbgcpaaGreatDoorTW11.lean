/- The program's functions do what the models say. -/
import Derived.Test.YtanjokijgbgcpaaGreatDoorTW10
import Derived.Test.YtanjokijgbgcpaaGreatDoorTM
set_option maxRecDepth 20000
set_option maxHeartbeats 4000000
set_option linter.unusedSimpArgs false
set_option linter.unusedVariables false
namespace Go.Proofs.YtanjokijgbgcpaaGreatDoor
open Go Go.Abs Go.Mdl

theorem r_ref02_Typed : C2 Tryz.prog 111 ref02_Typed (t2 Ty.av sI) (sL Ty.av) Tm.av := by
 intro T H a0 a1 r hm
 rw [ref02_Typed] at hm
 have e:=trivial
 refine wi mixed Tryz.func111 [] [] 999 ?_
 obtain ⟨x1,e,m⟩:=Bo1 e hm
 simp[e]
 refine Cf (r_ref02_Check e.2) ?_
 rcases Io e m with ⟨e,m⟩|⟨e,m⟩
 ·cases m;simp[e]
 obtain ⟨x2,x3,e,m⟩:=Bo2 e m
 simp[e]
 refine Cf (r_ref02_infer e.2) ?_
 cases m;simp[e]


theorem rg_ref07_typed : ∀ (n : Nat), C2 Tryz.prog 95 (ref07_typed n) sI (sL Ty.av) Fm.av := by
  intro n
  induction n with
  | zero =>
    skip
    all_goals (intro _ _;intros;rename_i hm;cases hm)
  | succ n ih =>
 intro T H a0 a1 r hm
 rw [ref07_typed] at hm
 have e:=trivial
 refine wi mixed Tryz.func95 [] [] 999 ?_
 simp[e]
 refine Wr e hm 0 (fun j1 s2 f h=>h=H∧f.1 0=sL Ty.av a0∧f.1 3=AV.lptr 3 (f.gen 3) 0∧f.1 13=sL Tm.av a1.terms∧f.1 14=sI (llen a1.terms)∧f.1 15=sI j1∧f.box 3=some (Fm.av a1).cells) (by simp[e]) (fun s2 fr3 h3 K4 E m=>?_) (fun j1 x5 s2 fr3 h3 K4 n6 c7 E e m z8 hK9=>?_)
 rotate_left
 ·have e:=Aj e E
  apply wg 999
  obtain ⟨x10,x11,e,m⟩:=Bo2 e m
  simp[e]
  refine Cf (r_ref02_Typed e.2) ?_
  rcases Io e m with ⟨e,m⟩|⟨e,m⟩
  ·cases m;cases z8;simp[e]
  rcases Io e m with ⟨e,m⟩|⟨e,m⟩
  ·cases m;cases z8;simp[e]
  simp[e]
  cases m;exact hK9 _ _ _ (by simp[e]) z8
 have e:=Aj e E
 apply wg 5
 dsimp only[sumK_inl]at m
 simp[e]
 refine Wj m 999 999 (fun j12 f h=>∃ (v13:(List Ty)) (tg0_17:Tag),(h=H∧f.1 0=sT tg0_17 Ty.av v13∧f.1 3=AV.lptr 3 (f.gen 3) 0∧f.box 3=some (Fm.av a1).cells)∧j12 v13=some r) (fun j12 K14 hk15 m=>?_) ?_
 ·obtain ⟨x16,e,m⟩:=Bo1 e m
  simp[e]
  refine Cf (r_ref07_quantifier e.2) ?_
  rcases Io e m with ⟨e,m⟩|⟨e,m⟩
  rotate_left
  ·simp[e]
   exact hk15 _ _ ⟨a0,.frz,by simp[e],m⟩
  obtain ⟨e,m⟩:=Ck e m
  simp[e]
  refine Ad (f:=Ty.av) a0 [a1.typeF] (OwnT.full (D:=[])) ap23 e.2 ?_
  simp[e]
  exact hk15 _ _ ⟨(lapp a0 [a1.typeF]),(.loc 44 (fr3.tgen 44 + 1)),by simp[e],m⟩
 rintro fr17 h17 ⟨v13,tg0_17,E,m⟩
 have e:=Aj e E
 simp[e]
 refine Wr e m 999 (fun j18 s19 f h=>∃ (tg0_20:Tag),h=H∧f.1 0=sT tg0_20 Ty.av v13∧f.1 46=sL Fm.av a1.args∧f.1 47=sI (llen a1.args)∧f.1 48=sI j18) ⟨tg0_17,by simp[e]⟩ (fun s19 fr20 h20 K21 E m=>?_) (fun j18 x22 s19 fr20 h20 K21 n23 c24 E e m z25 hK26=>?_)
 ·obtain ⟨tg0_20,E⟩:=E
  have e:=Aj e E
  dsimp only[sumK_inl]at m
  cases m;simp[e]
 obtain ⟨tg0_20,E⟩:=E
 have e:=Aj e E
 obtain ⟨x27,e,m⟩:=Bo1 e m
 simp[e]
 refine Cf (ih e.2) ?_
 rcases Io e m with ⟨e,m⟩|⟨e,m⟩
 ·cases m;cases z25;simp[e]
 simp[e]
 cases m;exact hK26 _ _ _ ⟨tg0_20,by simp[e]⟩ z25
theorem r_ref07_typed {n : Nat} : C2 Tryz.prog 95 (ref07_typed n) sI (sL Ty.av) Fm.av := (rg_ref07_typed n)

theorem r_ref07_Below : C2 Tryz.prog 59 ref07_Below sI (sL Ty.av) Fm.av := by
 intro T H a0 a1 r hm
 rw [ref07_Below] at hm
 have e:=trivial
 refine wi mixed Tryz.func59 [] [] 999 ?_
 obtain ⟨x1,e,m⟩:=Bo1 e hm
 simp[e]
 refine Cf (r_ref07_Check e.2) ?_
 rcases Io e m with ⟨e,m⟩|⟨e,m⟩
 ·cases m;simp[e]
 obtain ⟨x2,e,m⟩:=Bo1 e m
 simp[e]
 refine Cf (r_ref07_typed e.2) ?_
 cases m;simp[e]

theorem r_ref07_Typed : C2 Tryz.prog 19 ref07_Typed sI (sL Ty.av) Fm.av := by
 intro T H a0 a1 r hm
 rw [ref07_Typed] at hm
 have e:=trivial
 refine wi mixed Tryz.func19 [] [] 999 ?_
 obtain ⟨x1,e,m⟩:=Bo1 e hm
 simp[e]
 refine Cf (r_ref01_Context e.2) ?_
 rcases Io e m with ⟨e,m⟩|⟨e,m⟩
 ·cases m;simp[e]
 obtain ⟨x2,e,m⟩:=Bo1 e m
 simp[e]
 refine Cf (r_ref07_Below e.2) ?_
 cases m;simp[e]


theorem r_law20_TranslatePuts (T : Tabs) (hT : T 0 = some (AV.agg (List.map (fun n => AV.sc (Value.int .i64 n)) tree_arities))) {a0 : (List Int)} {r0 : Bool} (hm : law20_TranslatePuts a0 = some r0) : ACallP Tryz.prog T 4 [sL sI a0] [] (fun x _ => x = sB r0) := by
 rw [law20_TranslatePuts] at hm
 have e:=hT
 refine wi mixed Tryz.func4 [] [] 5 ?_
 obtain ⟨x1,e,m⟩:=Bo1 e hm
 simp[e]
 refine Cf (r_law20_sane T hT e.2) ?_
 simp[e]
 rcases Io e m with ⟨e,m⟩|⟨e,m⟩
 rotate_left
 ·apply wg 999
  cases m;simp[e]
 apply wg 5
 obtain ⟨x2,e,m⟩:=Bo1 e m
 simp[e]
 refine Cf (r_mk_Few e.2) ?_
 simp[e]
 rcases Io e m with ⟨e,m⟩|⟨e,m⟩
 rotate_left
 ·apply wg 999
  cases m;simp[e]
 apply wg 19
 obtain ⟨x3,e,m⟩:=Bo1 e m
 simp[e]
 refine Cf (r_mk_New T e.2) ?_
 obtain ⟨x4,d5,e,m⟩:=Bo2 e m
 simp[e]
 refine Cf (r_mk_Context T (by simp[e]) e.2) ?_
 obtain ⟨x6,d7,e,m⟩:=Bo2 e m
 simp[e]
 refine Cf (r_mk_Type T (by simp[e]) e.2) ?_
 obtain ⟨x8,d9,e,m⟩:=Bo2 e m
 simp[e]
 refine Cf (r_mk_Pure T (by simp[e]) e.2) ?_
 obtain ⟨e,m⟩:=Ck e m
 simp[e]
 refine Ad (f:=Ty.av) [] x4 (OwnT.full (D:=[])) ap23 e.2 ?_
 obtain ⟨e,m⟩:=Ck e m
 simp[e]
 refine Ad (f:=Ty.av) (lapp [] x4) [x6] (OwnT.new (D:=[37]) (d:=37) (by decide)) ap23 e.2 ?_
 obtain ⟨x10,d11,e,m⟩:=Bo2 e m
 simp[e]
 refine Cs (r_mk_Pure T (by simp[e]) e.2) ?_
 obtain ⟨x12,d13,e,m⟩:=Bo2 e m
 simp[e]
 refine Cf (r_mk_Term T (by simp[e]) e.2) ?_
 obtain ⟨x14,x15,e,m⟩:=Bo2 e m
 simp[e]
 refine Cf (r_ref07_Put e.2) ?_
 obtain ⟨x16,x17,e,m⟩:=Bo2 e m
 simp[e]
 refine Cf (r_translate_Formula T hT e.2) ?_
 simp[e]
 refine wj 999 0 (fun f h=>h=hset [[]] 0 [sL sI d13.l,sI d13.atF]∧f.1 4=sL Ty.av x4∧f.1 5=AV.lptr 5 (f.gen 5) 0∧f.1 6=AV.lptr 6 (f.gen 6) 0∧f.1 7=AV.lptr 7 (f.gen 7) 0∧f.1 8=AV.lptr 8 (f.gen 8) 0∧f.1 9=AV.lptr 9 (f.gen 9) 0∧f.1 10=sI x15∧f.1 11=AV.lptr 11 (f.gen 11) 0∧f.1 12=sI x17∧f.1 63=sB (sel (ine x15 0) true (ine x17 0))∧f.box 5=some (Ty.av x6).cells∧f.box 6=some (Fm.av x8).cells∧f.box 7=some (Fm.av x10).cells∧f.box 8=some (Tm.av x12).cells∧f.box 9=some (Fm.av x14).cells∧f.box 11=some (Fm.av x16).cells) (fun K18 hk19=>?_) ?_
 ·rcases Pb (ine x15 0) e with e|e
  ·simp[e]
   exact hk19 _ _ (by simp[e])
  simp[e]
  exact hk19 _ _ (by simp[e])
 rintro fr20 h20 E
 have e:=Aj e E
 rcases Io e m with ⟨e,m⟩|⟨e,m⟩
 ·apply wg 1
  simp[e]
  refine wj 999 999 (fun f h=>h=hset [[]] 0 [sL sI d13.l,sI d13.atF]∧f.1 2=sB (sel (ieq x15 0) (sel (ieq x17 0) true (ieq x17 4)) (sel (ieq x15 4) (sel (ieq x17 0) true (ieq x17 4)) false))) (fun K21 hk22=>?_) ?_
  rotate_left
  ·rintro fr23 h23 E
   have e:=Aj e E
   cases m;simp[e]
  rcases Pb (ieq x15 0) e with e|e
  ·rcases Pb (ieq x17 0) e with e|e
   ·simp[e]
    exact hk22 _ _ (by simp[e])
   simp[e]
   exact hk22 _ _ (by simp[e])
  rcases Pb (ieq x15 4) e with e|e
  rotate_left
  ·simp[e]
   exact hk22 _ _ (by simp[e])
  rcases Pb (ieq x17 0) e with e|e
  ·simp[e]
   exact hk22 _ _ (by simp[e])
  simp[e]
  exact hk22 _ _ (by simp[e])
 apply wg 7
 obtain ⟨x24,x25,e,m⟩:=Bo2 e m
 simp[e]
 refine Cf (r_translate_Formula T hT e.2) ?_
 obtain ⟨x26,x27,e,m⟩:=Bo2 e m
 simp[e]
 refine Cf (r_ref07_Put e.2) ?_
 simp[e]
 refine wj 999 0 (fun f h=>h=hset [[]] 0 [sL sI d13.l,sI d13.atF]∧f.1 4=sL Ty.av x4∧f.1 5=AV.lptr 5 (f.gen 5) 0∧f.1 7=AV.lptr 7 (f.gen 7) 0∧f.1 8=AV.lptr 8 (f.gen 8) 0∧f.1 11=AV.lptr 11 (f.gen 11) 0∧f.1 13=AV.lptr 13 (f.gen 13) 0∧f.1 14=sI x25∧f.1 15=AV.lptr 15 (f.gen 15) 0∧f.1 16=sI x27∧f.1 95=sB (sel (ine x25 0) true (ine x27 0))∧f.box 5=some (Ty.av x6).cells∧f.box 7=some (Fm.av x10).cells∧f.box 8=some (Tm.av x12).cells∧f.box 11=some (Fm.av x16).cells∧f.box 13=some (Fm.av x24).cells∧f.box 15=some (Fm.av x26).cells) (fun K28 hk29=>?_) ?_
 ·rcases Pb (ine x25 0) e with e|e
  ·simp[e]
   exact hk29 _ _ (by simp[e])
  simp[e]
  exact hk29 _ _ (by simp[e])
 rintro fr30 h30 E
 have e:=Aj e E
 rcases Io e m with ⟨e,m⟩|⟨e,m⟩
 ·apply wg 1
  simp[e]
  refine wj 999 999 (fun f h=>h=hset [[]] 0 [sL sI d13.l,sI d13.atF]∧f.1 2=sB (sel (ieq x25 0) (sel (ieq x27 0) true (ieq x27 4)) (sel (ieq x25 4) (sel (ieq x27 0) true (ieq x27 4)) false))) (fun K31 hk32=>?_) ?_
  rotate_left
  ·rintro fr33 h33 E
   have e:=Aj e E
   cases m;simp[e]
  rcases Pb (ieq x25 0) e with e|e
  ·rcases Pb (ieq x27 0) e with e|e
   ·simp[e]
    exact hk32 _ _ (by simp[e])
   simp[e]
   exact hk32 _ _ (by simp[e])
  rcases Pb (ieq x25 4) e with e|e
  rotate_left
  ·simp[e]
   exact hk32 _ _ (by simp[e])
  rcases Pb (ieq x27 0) e with e|e
  ·simp[e]
   exact hk32 _ _ (by simp[e])
  simp[e]
  exact hk32 _ _ (by simp[e])
 apply wg 7
 obtain ⟨x34,x35,e,m⟩:=Bo2 e m
 simp[e]
 refine Cf (r_ref07_Uses T e.2) ?_
 obtain ⟨x36,x37,e,m⟩:=Bo2 e m
 simp[e]
 refine Cf (r_ref07_Uses T e.2) ?_
 simp[e]
 refine Wj m 999 999 (fun j38 f h=>∃ (v39:Bool),(h=hset [[]] 0 [sL sI d13.l,sI d13.atF]∧f.1 4=sL Ty.av x4∧f.1 5=AV.lptr 5 (f.gen 5) 0∧f.1 8=AV.lptr 8 (f.gen 8) 0∧f.1 11=AV.lptr 11 (f.gen 11) 0∧f.1 17=sL sI x34∧f.1 19=sL sI x36∧f.1 138=sB v39∧f.box 5=some (Ty.av x6).cells∧f.box 8=some (Tm.av x12).cells∧f.box 11=some (Fm.av x16).cells)∧j38 v39=some r0) (fun j38 K40 hk41 m=>?_) ?_
 ·rcases Io e m with ⟨e,m⟩|⟨e,m⟩
  ·simp[e]
   exact hk41 _ _ ⟨true,by simp[e],m⟩
  rcases Io e m with ⟨e,m⟩|⟨e,m⟩
  ·simp[e]
   exact hk41 _ _ ⟨true,by simp[e],m⟩
  rcases Io e m with ⟨e,m⟩|⟨e,m⟩
  ·simp[e]
   exact hk41 _ _ ⟨true,by simp[e],m⟩
  obtain ⟨x42,e,m⟩:=Bo1 e m
  simp[e]
  refine Cf (r_ref07_Same e.2) ?_
  simp[e]
  exact hk41 _ _ ⟨(bnot x42),by simp[e],m⟩
 rintro fr43 h43 ⟨v39,E,m⟩
 have e:=Aj e E
 rcases Io e m with ⟨e,m⟩|⟨e,m⟩
 ·cases m;simp[e]
 simp[e]
 refine Wr e m 0 (fun j44 s45 f h=>h=hset [[]] 0 [sL sI d13.l,sI d13.atF]∧f.1 4=sL Ty.av x4∧f.1 5=AV.lptr 5 (f.gen 5) 0∧f.1 8=AV.lptr 8 (f.gen 8) 0∧f.1 11=AV.lptr 11 (f.gen 11) 0∧f.1 17=sL sI x34∧f.1 19=sL sI x36∧f.1 140=sI (llen x34)∧f.1 141=sI j44∧f.box 5=some (Ty.av x6).cells∧f.box 8=some (Tm.av x12).cells∧f.box 11=some (Fm.av x16).cells) (by simp[e]) (fun s45 fr46 h46 K47 E m=>?_) (fun j44 x48 s45 fr46 h46 K47 n49 c50 E e m z51 hK52=>?_)
 rotate_left
 ·have e:=Aj e E
  apply wg 999
  obtain ⟨x53,e,m⟩:=Bo1 e m
  rcases Io e m with ⟨e,m⟩|⟨e,m⟩
  ·cases m;cases z51;simp[e]
  simp[e]
  cases m;exact hK52 _ _ _ (by simp[e]) z51
 have e:=Aj e E
 apply wg 5
 dsimp only[sumK_inl]at m
 simp[e]
 refine Wj m 999 999 (fun j54 f h=>∃ (v55:Bool),(h=hset [[]] 0 [sL sI d13.l,sI d13.atF]∧f.1 2=sB v55)∧j54 v55=some r0) (fun j54 K56 hk57 m=>?_) ?_
 rotate_left
 ·rintro fr58 h58 ⟨v55,E,m⟩
  have e:=Aj e E
  cases m;simp[e]
 obtain ⟨e,m⟩:=Ck e m
 simp[e]
 refine Ad (f:=Ty.av) [] x4 (OwnT.full (D:=[])) ap23 e.2 ?_
 obtain ⟨e,m⟩:=Ck e m
 simp[e]
 refine Ad (f:=Ty.av) (lapp [] x4) [x6] (OwnT.new (D:=[155]) (d:=155) (by decide)) ap23 e.2 ?_
 obtain ⟨x59,e,m⟩:=Bo1 e m
 simp[e]
 refine Cs (r_ref07_Typed e.2) ?_
 rcases Io e m with ⟨e,m⟩|⟨e,m⟩
 rotate_left
 ·simp[e]
  exact hk57 _ _ ⟨false,by simp[e],m⟩
 obtain ⟨x60,e,m⟩:=Bo1 e m
 simp[e]
 refine Cs (r_ref02_Check e.2) ?_
 simp[e]
 exact hk57 _ _ ⟨(ieq x60 0),by simp[e],m⟩

end Go.Proofs.YtanjokijgbgcpaaGreatDoor
