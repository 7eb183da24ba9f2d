/- The program's functions do what the models say. -/
import Derived.Test.YtanjokijgbgcpaaGreatDoorTE
import Derived.Test.YtanjokijgbgcpaaGreatDoorTM
set_option maxRecDepth 20000
set_option maxHeartbeats 4000000
set_option linter.unusedSimpArgs false
set_option linter.unusedVariables false
namespace Go.Proofs.YtanjokijgbgcpaaGreatDoor
open Go Go.Abs Go.Mdl


theorem rg_ref01_Copy : ∀ (n : Nat), C1 Tryz.prog 66 (ref01_Copy n) Ty.av Ty.av := by
  intro n
  induction n with
  | zero =>
    skip
    all_goals (intro _ _;intros;rename_i hm;cases hm)
  | succ n ih =>
 intro T H a0 r hm
 rw [ref01_Copy] at hm
 have e:=trivial
 refine wi mixed Tryz.func66 [] [] 999 ?_
 simp[e]
 refine Wr e hm 999 (fun j1 s2 f h=>∃ (tg0_3:Tag),(h=H∧f.1 1=AV.lptr 1 (f.gen 1) 0∧f.1 2=AV.lptr 2 (f.gen 2) 0∧f.1 3=sT tg0_3 Ty.av s2∧f.1 7=sL Ty.av a0.args∧f.1 8=sI (llen a0.args)∧f.1 9=sI j1∧f.box 1=some (Ty.av a0).cells∧f.box 2=some [sI 0,AV.slice .full []])∧Ow f [17] tg0_3 s2) (by exact ⟨.full,by simp[e],OwnT.full⟩) (fun s2 fr3 h3 K4 E m=>?_) (fun j1 x5 s2 fr3 h3 K4 n6 c7 E e m z8 hK9=>?_)
 ·obtain ⟨tg0_3,E,o0_3⟩:=E
  have e:=Aj e E
  dsimp only[sumK_inl]at m
  cases m;simp[e]
 obtain ⟨tg0_3,E,o0_3⟩:=E
 have e:=Aj e E
 obtain ⟨x10,e,m⟩:=Bo1 e m
 simp[e]
 refine Cf (ih e.2) ?_
 obtain ⟨e,m⟩:=Ck e m
 simp[e]
 refine Ao (f:=Ty.av) s2 [x10] o0_3 ap23 e.2 ?_
 simp[e]
 cases m;exact hK9 _ _ _ ⟨(.loc 17 (fr3.tgen 17 + 1)),by simp[e],(On 17)⟩ z8
theorem r_ref01_Copy {n : Nat} : C1 Tryz.prog 66 (ref01_Copy n) Ty.av Ty.av := (rg_ref01_Copy n)


theorem rg_ref02_Copy : ∀ (n : Nat), C1 Tryz.prog 61 (ref02_Copy n) Tm.av Tm.av := by
  intro n
  induction n with
  | zero =>
    skip
    all_goals (intro _ _;intros;rename_i hm;cases hm)
  | succ n ih =>
 intro T H a0 r hm
 rw [ref02_Copy] at hm
 have e:=trivial
 refine wi mixed Tryz.func61 [] [] 999 ?_
 simp[e]
 refine Wr e hm 999 (fun j1 s2 f h=>∃ (tg0_3:Tag),(h=H∧f.1 1=AV.lptr 1 (f.gen 1) 0∧f.1 2=AV.lptr 2 (f.gen 2) 0∧f.1 3=sT tg0_3 Tm.av s2∧f.1 7=sL Tm.av a0.args∧f.1 8=sI (llen a0.args)∧f.1 9=sI j1∧f.box 1=some (Tm.av a0).cells∧f.box 2=some [sI 0,sI 0,sI 0,AV.slice .full [],AV.slice .full []])∧Ow f [17] tg0_3 s2) (by exact ⟨.full,by simp[e],OwnT.full⟩) (fun s2 fr3 h3 K4 E m=>?_) (fun j1 x5 s2 fr3 h3 K4 n6 c7 E e m z8 hK9=>?_)
 ·obtain ⟨tg0_3,E,o0_3⟩:=E
  have e:=Aj e E
  dsimp only[sumK_inl]at m
  obtain ⟨x10,e,m⟩:=Bo1 e m
  simp[e]
  refine Cs (r_ref01_Copy e.2) ?_
  cases m;simp[e]
 obtain ⟨tg0_3,E,o0_3⟩:=E
 have e:=Aj e E
 obtain ⟨x11,e,m⟩:=Bo1 e m
 simp[e]
 refine Cf (ih e.2) ?_
 obtain ⟨e,m⟩:=Ck e m
 simp[e]
 refine Ao (f:=Tm.av) s2 [x11] o0_3 ap26 e.2 ?_
 simp[e]
 cases m;exact hK9 _ _ _ ⟨(.loc 17 (fr3.tgen 17 + 1)),by simp[e],(On 17)⟩ z8
theorem r_ref02_Copy {n : Nat} : C1 Tryz.prog 61 (ref02_Copy n) Tm.av Tm.av := (rg_ref02_Copy n)

theorem r_ref02_N : C2 Tryz.prog 44 ref02_N Tm.av sI (sL Tm.av) := by
 intro T H a0 a1 r hm
 rw [ref02_N] at hm
 have e:=trivial
 refine wi mixed Tryz.func44 [] [] 999 ?_
 simp[e]
 refine Wr e hm 999 (fun j1 s2 f h=>∃ (tg0_3:Tag),(h=H∧f.1 0=sI a0∧f.1 4=AV.lptr 4 (f.gen 4) 0∧f.1 5=sT tg0_3 Tm.av s2∧f.1 8=sL Tm.av a1∧f.1 9=sI (llen a1)∧f.1 10=sI j1∧f.box 4=some [sI 0,sI 0,sI 0,AV.slice .full [],AV.slice .full []])∧Ow f [18] tg0_3 s2) (by exact ⟨.full,by simp[e],OwnT.full⟩) (fun s2 fr3 h3 K4 E m=>?_) (fun j1 x5 s2 fr3 h3 K4 n6 c7 E e m z8 hK9=>?_)
 ·obtain ⟨tg0_3,E,o0_3⟩:=E
  have e:=Aj e E
  dsimp only[sumK_inl]at m
  cases m;simp[e]
 obtain ⟨tg0_3,E,o0_3⟩:=E
 have e:=Aj e E
 obtain ⟨x10,e,m⟩:=Bo1 e m
 simp[e]
 refine Cf (r_ref02_Copy e.2) ?_
 obtain ⟨e,m⟩:=Ck e m
 simp[e]
 refine Ao (f:=Tm.av) s2 [x10] o0_3 ap26 e.2 ?_
 simp[e]
 cases m;exact hK9 _ _ _ ⟨(.loc 18 (fr3.tgen 18 + 1)),by simp[e],(On 18)⟩ z8

theorem r_ref05_numeral : C1 Tryz.prog 98 ref05_numeral Tm.av sI := by
 intro T H a0 r hm
 rw [ref05_numeral] at hm
 have e:=trivial
 refine wi mixed Tryz.func98 [] [] 999 ?_
 obtain ⟨x1,e,m⟩:=Bo1 e hm
 simp[e]
 refine Cf (r_ref02_N e.2) ?_
 simp[e]
 refine Wn m 999 (fun s2 f h=>∃ (tg0_3:Tag) (tg1_3:Tag),h=H∧f.1 0=sI s2.1∧f.1 2=AV.lptr 2 (f.gen 2) 0∧f.1 3=AV.lptr 3 (f.gen 3) 0∧f.box 2=some [sI 0,sI 0,sI 0,AV.slice .full [],AV.slice .full []]∧f.box 3=some [sI s2.2.1,sI s2.2.2.1,sI s2.2.2.2.1,sT tg0_3 Ty.av s2.2.2.2.2.1,sT tg1_3 Tm.av s2.2.2.2.2.2]) ⟨.frz,.frz,by simp[e]⟩ (fun s2 fr3 h3 K4 n5 c6 E m z7 hK8=>?_)
 obtain ⟨v9,v10,v11,v12,v13,v14⟩:=s2
 obtain ⟨tg0_3,tg1_3,E⟩:=E
 have e:=Aj e E
 dsimp only[un6_mk]at m
 rcases Io e m with ⟨e,m⟩|⟨e,m⟩
 rotate_left
 ·cases m
  have m:=Qb z7
  dsimp only[un6_mk]at m
  cases m;simp[e]
 simp[e]
 cases m;exact hK8 _ _ _ ⟨.full,.full,by simp[e]⟩ z7

theorem r_ref05_Number : C1 Tryz.prog 62 ref05_Number (t2 Tm.av sI) sI := by
 intro T H a0 r hm
 rw [ref05_Number] at hm
 have e:=trivial
 refine wi mixed Tryz.func62 [] [] 999 ?_
 rcases Io e hm with ⟨e,m⟩|⟨e,m⟩
 ·cases m;simp[e]
 rcases Io e m with ⟨e,m⟩|⟨e,m⟩
 ·cases m;simp[e]
 obtain ⟨x1,e,m⟩:=Bo1 e m
 simp[e]
 refine Cf (r_ref05_numeral e.2) ?_
 cases m;simp[e]

theorem r_mk_Num : C1 Tryz.prog 22 mk_Num Tm.av sI := by
 intro T H a0 r hm
 rw [mk_Num] at hm
 have e:=trivial
 refine wi mixed Tryz.func22 [] [] 999 ?_
 obtain ⟨x1,x2,e,m⟩:=Bo2 e hm
 simp[e]
 refine Cf (r_ref05_Number e.2) ?_
 cases m;simp[e]

theorem r_ref07_Eq : C2 Tryz.prog 21 ref07_Eq Fm.av Tm.av Tm.av := by
 intro T H a0 a1 r hm
 rw [ref07_Eq] at hm
 have e:=trivial
 refine wi mixed Tryz.func21 [] [] 999 ?_
 obtain ⟨x1,e,m⟩:=Bo1 e hm
 simp[e]
 refine Cs (r_ref02_Copy e.2) ?_
 obtain ⟨x2,e,m⟩:=Bo1 e m
 simp[e]
 refine Cs (r_ref02_Copy e.2) ?_
 have e:=Aj e (show AV.agg [sI 1,sI 0,AV.slice .frz [],AV.slice .frz [Tm.av x1,Tm.av x2],AV.slice .frz []]=Fm.av (Fm.mk 1 (Ty.mk 0 []) [x1,x2] []) by rw[Fm.av_mk];rfl)
 cases m;simp[e]


theorem rg_tree_typeNodes : ∀ (n : Nat), C1 Tryz.prog 132 (tree_typeNodes n) (t2 sI sB) Ty.av := by
  intro n
  induction n with
  | zero =>
    skip
    all_goals (intro _ _;intros;rename_i hm;cases hm)
  | succ n ih =>
 intro T H a0 r hm
 rw [tree_typeNodes] at hm
 have e:=trivial
 refine wi mixed Tryz.func132 [] [] 4 ?_
 simp[e]
 refine Wj hm 3 999 (fun j1 f h=>∃ (v2:Int),(h=H∧f.1 1=AV.lptr 1 (f.gen 1) 0∧f.1 4=sI v2∧f.box 1=some (Ty.av a0).cells)∧j1 v2=some r) (fun j1 K3 hk4 m=>?_) ?_
 rotate_left
 ·rintro fr5 h5 ⟨v2,E,m⟩
  have e:=Aj e E
  rcases Io e m with ⟨e,m⟩|⟨e,m⟩
  ·cases m;simp[e]
  simp[e]
  refine Wr e m 999 (fun j6 s7 f h=>h=H∧f.1 5=sI s7∧f.1 25=sL Ty.av a0.args∧f.1 26=sI (llen a0.args)∧f.1 27=sI j6) (by simp[e]) (fun s7 fr8 h8 K9 E m=>?_) (fun j6 x10 s7 fr8 h8 K9 n11 c12 E e m z13 hK14=>?_)
  ·have e:=Aj e E
   dsimp only[sumK_inl]at m
   cases m;simp[e]
  have e:=Aj e E
  obtain ⟨x15,x16,e,m⟩:=Bo2 e m
  simp[e]
  refine Cf (ih e.2) ?_
  rcases Io e m with ⟨e,m⟩|⟨e,m⟩
  rotate_left
  ·cases m;cases z13;simp[e]
  simp[e]
  cases m;exact hK14 _ _ _ (by simp[e]) z13
 simp[e]
 refine wj 999 0 (fun f h=>h=H∧f.1 1=AV.lptr 1 (f.gen 1) 0∧f.1 4=sI 0∧f.1 11=sI a0.kind∧f.1 12=sB (sel (ieq a0.kind 1) true (sel (ieq a0.kind 2) true (ieq a0.kind 5)))∧f.box 1=some (Ty.av a0).cells) (fun K17 hk18=>?_) ?_
 ·rcases Pb (ieq a0.kind 1) e with e|e
  ·simp[e]
   exact hk18 _ _ (by simp[e])
  rcases Pb (ieq a0.kind 2) e with e|e
  ·simp[e]
   exact hk18 _ _ (by simp[e])
  simp[e]
  exact hk18 _ _ (by simp[e])
 rintro fr19 h19 E
 have e:=Aj e E
 rcases Io e m with ⟨e,m⟩|⟨e,m⟩
 ·apply wg 999
  simp[e]
  exact hk4 _ _ ⟨0,by simp[e],m⟩
 apply wg 1
 simp[e]
 refine wj 999 999 (fun f h=>h=H∧f.1 1=AV.lptr 1 (f.gen 1) 0∧f.1 16=sB (sel (ieq a0.kind 3) true (ieq a0.kind 4))∧f.box 1=some (Ty.av a0).cells) (fun K20 hk21=>?_) ?_
 ·rcases Pb (ieq a0.kind 3) e with e|e
  ·simp[e]
   exact hk21 _ _ (by simp[e])
  simp[e]
  exact hk21 _ _ (by simp[e])
 rintro fr22 h22 E
 have e:=Aj e E
 rcases Io e m with ⟨e,m⟩|⟨e,m⟩
 rotate_left
 ·cases m;simp[e]
 simp[e]
 exact hk4 _ _ ⟨2,by simp[e],m⟩
theorem r_tree_typeNodes {n : Nat} : C1 Tryz.prog 132 (tree_typeNodes n) (t2 sI sB) Ty.av := (rg_tree_typeNodes n)

theorem r_tree_CheckType : C1 Tryz.prog 125 tree_CheckType (t2 sI sI) Ty.av := by
 intro T H a0 r hm
 rw [tree_CheckType] at hm
 have e:=trivial
 refine wi mixed Tryz.func125 [] [] 999 ?_
 obtain ⟨x1,x2,e,m⟩:=Bo2 e hm
 simp[e]
 refine Cf (r_tree_typeNodes e.2) ?_
 rcases Io e m with ⟨e,m⟩|⟨e,m⟩
 rotate_left
 ·cases m;simp[e]
 rcases Io e m with ⟨e,m⟩|⟨e,m⟩
 ·cases m;simp[e]
 cases m;simp[e]

theorem r_tree_NoType : C1 Tryz.prog 126 tree_NoType sB Ty.av := by
 intro T H a0 r hm
 rw [tree_NoType] at hm
 have e:=trivial
 refine wi mixed Tryz.func126 [] [] 2 ?_
 simp[e]
 refine wj 999 999 (fun f h=>h=H∧f.1 2=sB (sel (ieq a0.kind 0) (ieq (llen a0.args) 0) false)) (fun K1 hk2=>?_) ?_
 rotate_left
 ·rintro fr3 h3 E
  have e:=Aj e E
  cases hm;simp[e]
 rcases Pb (ieq a0.kind 0) e with e|e
 ·simp[e]
  exact hk2 _ _ (by simp[e])
 simp[e]
 exact hk2 _ _ (by simp[e])

theorem r_tree_formed : C1 Tryz.prog 117 tree_formed sB Fm.av := by
 intro T H a0 r hm
 rw [tree_formed] at hm
 have e:=trivial
 refine wi mixed Tryz.func117 [] [] 4 ?_
 simp[e]
 refine Wj hm 5 0 (fun j1 f h=>∃ (v2:Int) (v3:Int) (v4:Bool),(h=H∧f.1 1=AV.lptr 1 (f.gen 1) 0∧f.1 3=sI v2∧f.1 4=sI v3∧f.1 5=sB v4∧f.box 1=some (Fm.av a0).cells)∧j1 v2 v3 v4=some r) (fun j1 K5 hk6 m=>?_) ?_
 rotate_left
 ·rintro fr7 h7 ⟨v2,v3,v4,E,m⟩
  have e:=Aj e E
  refine Wj m 999 0 (fun j8 f h=>(h=H∧f.1 1=AV.lptr 1 (f.gen 1) 0∧f.1 3=sI v2∧f.1 4=sI v3∧f.box 1=some (Fm.av a0).cells)∧j8=some r) (fun j8 K9 hk10 m=>?_) ?_
  rotate_left
  ·rintro fr11 h11 ⟨E,m⟩
   have e:=Aj e E
   refine wj 999 999 (fun f h=>h=H∧f.1 2=sB (sel (ieq (llen a0.terms) v2) (ieq (llen a0.args) v3) false)) (fun K12 hk13=>?_) ?_
   rotate_left
   ·rintro fr14 h14 E
    have e:=Aj e E
    cases m;simp[e]
   rcases Pb (ieq (llen a0.terms) v2) e with e|e
   ·simp[e]
    exact hk13 _ _ (by simp[e])
   simp[e]
   exact hk13 _ _ (by simp[e])
  rcases Io e m with ⟨e,m⟩|⟨e,m⟩
  ·obtain ⟨x15,x16,e,m⟩:=Bo2 e m
   simp[e]
   refine Cf (r_tree_CheckType e.2) ?_
   rcases Io e m with ⟨e,m⟩|⟨e,m⟩
   ·cases m;simp[e]
   simp[e]
   exact hk10 _ _ ⟨by simp[e],m⟩
  obtain ⟨x17,e,m⟩:=Bo1 e m
  simp[e]
  refine Cf (r_tree_NoType e.2) ?_
  rcases Io e m with ⟨e,m⟩|⟨e,m⟩
  rotate_left
  ·cases m;simp[e]
  simp[e]
  exact hk10 _ _ ⟨by simp[e],m⟩
 simp[e]
 rcases Io e m with ⟨e,m⟩|⟨e,m⟩
 ·apply wg 999
  simp[e]
  exact hk6 _ _ ⟨2,0,false,by simp[e],m⟩
 apply wg 1
 simp[e]
 refine wj 999 0 (fun f h=>h=H∧f.1 1=AV.lptr 1 (f.gen 1) 0∧f.1 3=sI 0∧f.1 5=sB false∧f.1 9=sI a0.kind∧f.1 12=sB (sel (ieq a0.kind 2) true (ieq a0.kind 3))∧f.box 1=some (Fm.av a0).cells) (fun K18 hk19=>?_) ?_
 ·rcases Pb (ieq a0.kind 2) e with e|e
  ·simp[e]
   exact hk19 _ _ (by simp[e])
  simp[e]
  exact hk19 _ _ (by simp[e])
 rintro fr20 h20 E
 have e:=Aj e E
 rcases Io e m with ⟨e,m⟩|⟨e,m⟩
 ·apply wg 999
  simp[e]
  exact hk6 _ _ ⟨0,2,false,by simp[e],m⟩
 apply wg 1
 simp[e]
 refine wj 999 999 (fun f h=>h=H∧f.1 1=AV.lptr 1 (f.gen 1) 0∧f.1 3=sI 0∧f.1 15=sB (sel (ieq a0.kind 4) true (sel (ieq a0.kind 5) true (sel (ieq a0.kind 6) true (ieq a0.kind 7))))∧f.box 1=some (Fm.av a0).cells) (fun K21 hk22=>?_) ?_
 rotate_left
 ·rintro fr23 h23 E
  have e:=Aj e E
  rcases Io e m with ⟨e,m⟩|⟨e,m⟩
  rotate_left
  ·cases m;simp[e]
  simp[e]
  exact hk6 _ _ ⟨0,1,true,by simp[e],m⟩
 rcases Pb (ieq a0.kind 4) e with e|e
 ·simp[e]
  exact hk22 _ _ (by simp[e])
 rcases Pb (ieq a0.kind 5) e with e|e
 ·simp[e]
  exact hk22 _ _ (by simp[e])
 rcases Pb (ieq a0.kind 6) e with e|e
 ·simp[e]
  exact hk22 _ _ (by simp[e])
 simp[e]
 exact hk22 _ _ (by simp[e])


theorem r_tree_Arity (T : Tabs) (hT : T 0 = some (AV.agg (List.map (fun n => AV.sc (Value.int .i64 n)) tree_arities))) {H : Heap} {a0 : Int} {r0 : Int} {r1 : Bool} (hm : tree_Arity a0 = some (r0, r1)) : ACall Tryz.prog T 127 [sI a0] H (AV.tuple [sI r0, sB r1]) H := by
 rw [tree_Arity] at hm
 have e:=hT
 refine wi mixed Tryz.func127 [] [] 3 ?_
 simp[e]
 refine wj 999 999 (fun f h=>h=H∧f.1 0=sI a0∧f.1 9=sB (sel (ilt a0 1) true (ige a0 14))) (fun K1 hk2=>?_) ?_
 ·rcases Pb (ilt a0 1) e with e|e
  ·simp[e]
   exact hk2 _ _ (by simp[e])
  simp[e]
  exact hk2 _ _ (by simp[e])
 rintro fr3 h3 E
 have e:=Aj e E
 rcases Io e hm with ⟨e,m⟩|⟨e,m⟩
 ·cases m;simp[e]
 obtain ⟨x4,e,m⟩:=Bo1 e m
 cases m;simp[e]

end Go.Proofs.YtanjokijgbgcpaaGreatDoor
