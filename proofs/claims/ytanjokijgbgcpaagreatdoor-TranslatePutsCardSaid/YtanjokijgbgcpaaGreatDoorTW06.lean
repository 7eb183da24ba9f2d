/- The program's functions do what the models say. -/
import Derived.Test.YtanjokijgbgcpaaGreatDoorTW05
import Derived.Test.YtanjokijgbgcpaaGreatDoorTM
set_option maxRecDepth 20000
set_option maxHeartbeats 4000000
set_option linter.unusedSimpArgs false
set_option linter.unusedVariables false
namespace Go.Proofs.YtanjokijgbgcpaaGreatDoor
open Go Go.Abs Go.Mdl


theorem r_mk_Deck_Next (T : Tabs) {H : Heap} {a0 : Smk_Deck} {a1 : Int} {r0 : Int} {do0 : Smk_Deck} {o0 : Nat} (ho0 : H[o0]? = some [sL sI a0.l, sI a0.atF]) (hm : mk_Deck_Next a0 a1 = some (r0, do0)) : ACall Tryz.prog T 25 [AV.gptr o0 0, sI a1] H (sI r0) (hset H o0 [sL sI do0.l, sI do0.atF]) := by
 rw [mk_Deck_Next] at hm
 have lo0:=inb_of_get ho0
 refine ACallP.at1 ho0 ?_
 have e:=lo0
 refine wi mixed Tryz.func25 [] [(1,true,[]),(3,true,[])] 3 ?_
 simp[e]
 refine wj 999 999 (fun f h=>h=hset H o0 [sL sI a0.l,sI a0.atF]∧f.1 0=AV.gptr o0 0∧f.1 1=sI a1∧f.1 19=sB (sel (ilt a1 1) true (ige a0.atF (llen a0.l)))) (fun K1 hk2=>?_) ?_
 ·rcases Pb (ilt a1 1) e with e|e
  ·simp[e]
   exact hk2 _ _ (by simp[e])
  simp[e]
  exact hk2 _ _ (by simp[e])
 rintro fr3 h3 E
 have e:=Aj e E
 rcases Io e hm with ⟨e,m⟩|⟨e,m⟩
 ·cases m;simp[e]
 obtain ⟨x4,e,m⟩:=Bo1 e m
 obtain ⟨x5,e,m⟩:=Bo1 e m
 simp[e]
 refine Cf (r_mk_Mod e.2) ?_
 cases m;simp[e]

theorem r_ref01_Nat : C0 Tryz.prog 28 ref01_Nat Ty.av := by
 intro T H r hm
 rw [ref01_Nat] at hm
 have e:=trivial
 refine wi mixed Tryz.func28 [] [] 999 ?_
 cases hm;simp[e]

theorem r_ref01_List : C0 Tryz.prog 38 ref01_List Ty.av := by
 intro T H r hm
 rw [ref01_List] at hm
 have e:=trivial
 refine wi mixed Tryz.func38 [] [] 999 ?_
 cases hm;simp[e]

theorem r_ref01_Unit : C0 Tryz.prog 39 ref01_Unit Ty.av := by
 intro T H r hm
 rw [ref01_Unit] at hm
 have e:=trivial
 refine wi mixed Tryz.func39 [] [] 999 ?_
 cases hm;simp[e]

theorem r_ref01_Two : C2 Tryz.prog 40 ref01_Two Ty.av Ty.av Ty.av := by
 intro T H a0 a1 r hm
 rw [ref01_Two] at hm
 have e:=trivial
 refine wi mixed Tryz.func40 [] [] 999 ?_
 obtain ⟨x1,e,m⟩:=Bo1 e hm
 simp[e]
 refine Cs (r_ref01_Copy e.2) ?_
 obtain ⟨x2,e,m⟩:=Bo1 e m
 simp[e]
 refine Cs (r_ref01_Copy e.2) ?_
 have e:=Aj e (show AV.agg [sI 3,AV.slice .frz [Ty.av x1,Ty.av x2]]=Ty.av (Ty.mk 3 [x1,x2]) by rw[Ty.av_mk];rfl)
 cases m;simp[e]

theorem r_ref01_Fun : C2 Tryz.prog 41 ref01_Fun Ty.av Ty.av Ty.av := by
 intro T H a0 a1 r hm
 rw [ref01_Fun] at hm
 have e:=trivial
 refine wi mixed Tryz.func41 [] [] 999 ?_
 obtain ⟨x1,e,m⟩:=Bo1 e hm
 simp[e]
 refine Cs (r_ref01_Copy e.2) ?_
 obtain ⟨x2,e,m⟩:=Bo1 e m
 simp[e]
 refine Cs (r_ref01_Copy e.2) ?_
 have e:=Aj e (show AV.agg [sI 4,AV.slice .frz [Ty.av x1,Ty.av x2]]=Ty.av (Ty.mk 4 [x1,x2]) by rw[Ty.av_mk];rfl)
 cases m;simp[e]


theorem rg_mk_Type (T : Tabs) : ∀ (n : Nat), (∀ {H : Heap} {a0 : Smk_Deck} {a1 : Int} {r0 : Ty} {do0 : Smk_Deck} {o0 : Nat} (ho0 : H[o0]? = some [sL sI a0.l, sI a0.atF]) (hm : mk_Type n a0 a1 = some (r0, do0)), ACall Tryz.prog T 15 [AV.gptr o0 0, sI a1] H (Ty.av r0) (hset H o0 [sL sI do0.l, sI do0.atF])) := by
  intro n
  induction n with
  | zero =>
    skip
    all_goals (intro _ _;intros;rename_i hm;cases hm)
  | succ n ih =>
 intro H a0 a1 r0 do0 o0 ho0 hm
 rw [mk_Type] at hm
 have lo0:=inb_of_get ho0
 refine ACallP.at1 ho0 ?_
 have e:=lo0
 refine wi mixed Tryz.func15 [] [] 2 ?_
 simp[e]
 refine Wj hm 3 999 (fun j1 f h=>∃ (v2:Smk_Deck),(h=hset H o0 [sL sI v2.l,sI v2.atF]∧f.1 4=AV.lptr 4 (f.gen 4) 0∧f.box 4=some [sI 0,AV.slice .full []])∧j1 v2=some (r0,do0)) (fun j1 K3 hk4 m=>?_) ?_
 rotate_left
 ·rintro fr5 h5 ⟨v2,E,m⟩
  have e:=Aj e E
  obtain ⟨x6,e,m⟩:=Bo1 e m
  simp[e]
  refine Cf (r_ref01_Nat e.2) ?_
  cases m;simp[e]
 obtain ⟨x7,d8,e,m⟩:=Bo2 e m
 simp[e]
 refine Cf (r_mk_Deck_Next T (by simp[e]) e.2) ?_
 simp[e]
 refine wj 999 999 (fun f h=>h=hset H o0 [sL sI d8.l,sI d8.atF]∧f.1 0=AV.gptr o0 0∧f.1 1=sI a1∧f.1 4=AV.lptr 4 (f.gen 4) 0∧f.1 6=sI x7∧f.1 7=sB (sel (ieq x7 0) true (sel (ieq x7 1) true (ieq x7 2)))∧f.box 4=some [sI 0,AV.slice .full []]) (fun K9 hk10=>?_) ?_
 ·rcases Pb (ieq x7 0) e with e|e
  ·simp[e]
   exact hk10 _ _ (by simp[e])
  rcases Pb (ieq x7 1) e with e|e
  ·simp[e]
   exact hk10 _ _ (by simp[e])
  simp[e]
  exact hk10 _ _ (by simp[e])
 rintro fr11 h11 E
 have e:=Aj e E
 rcases Io e m with ⟨e,m⟩|⟨e,m⟩
 ·obtain ⟨x12,e,m⟩:=Bo1 e m
  simp[e]
  refine Cf (r_ref01_Nat e.2) ?_
  cases m;simp[e]
 rcases Io e m with ⟨e,m⟩|⟨e,m⟩
 ·obtain ⟨x13,e,m⟩:=Bo1 e m
  simp[e]
  refine Cf (r_ref01_List e.2) ?_
  cases m;simp[e]
 rcases Io e m with ⟨e,m⟩|⟨e,m⟩
 ·obtain ⟨x14,e,m⟩:=Bo1 e m
  simp[e]
  refine Cf (r_ref01_Unit e.2) ?_
  cases m;simp[e]
 rcases Io e m with ⟨e,m⟩|⟨e,m⟩
 ·rcases Io e m with ⟨e,m⟩|⟨e,m⟩
  rotate_left
  ·simp[e]
   exact hk4 _ _ ⟨d8,by simp[e],m⟩
  obtain ⟨x15,d16,e,m⟩:=Bo2 e m
  simp[e]
  refine Cf (ih (by simp[e]) e.2) ?_
  obtain ⟨x17,d18,e,m⟩:=Bo2 e m
  simp[e]
  refine Cf (ih (by simp[e]) e.2) ?_
  obtain ⟨x19,e,m⟩:=Bo1 e m
  simp[e]
  refine Cf (r_ref01_Two e.2) ?_
  cases m;simp[e]
 rcases Io e m with ⟨e,m⟩|⟨e,m⟩
 rotate_left
 ·simp[e]
  exact hk4 _ _ ⟨d8,by simp[e],m⟩
 rcases Io e m with ⟨e,m⟩|⟨e,m⟩
 rotate_left
 ·simp[e]
  exact hk4 _ _ ⟨d8,by simp[e],m⟩
 obtain ⟨x20,d21,e,m⟩:=Bo2 e m
 simp[e]
 refine Cf (ih (by simp[e]) e.2) ?_
 obtain ⟨x22,d23,e,m⟩:=Bo2 e m
 simp[e]
 refine Cf (ih (by simp[e]) e.2) ?_
 obtain ⟨x24,e,m⟩:=Bo1 e m
 simp[e]
 refine Cf (r_ref01_Fun e.2) ?_
 cases m;simp[e]
theorem r_mk_Type (T : Tabs) {H : Heap} {a0 : Smk_Deck} {a1 : Int} {r0 : Ty} {do0 : Smk_Deck} {o0 : Nat} (ho0 : H[o0]? = some [sL sI a0.l, sI a0.atF]) {n : Nat} (hm : mk_Type n a0 a1 = some (r0, do0)) : ACall Tryz.prog T 15 [AV.gptr o0 0, sI a1] H (Ty.av r0) (hset H o0 [sL sI do0.l, sI do0.atF]) := (rg_mk_Type T n) ho0 hm


theorem r_mk_Context (T : Tabs) {H : Heap} {a0 : Smk_Deck} {r0 : (List Ty)} {do0 : Smk_Deck} {o0 : Nat} (ho0 : H[o0]? = some [sL sI a0.l, sI a0.atF]) (hm : mk_Context a0 = some (r0, do0)) : ACall Tryz.prog T 9 [AV.gptr o0 0] H (sL Ty.av r0) (hset H o0 [sL sI do0.l, sI do0.atF]) := by
 rw [mk_Context] at hm
 have lo0:=inb_of_get ho0
 refine ACallP.at1 ho0 ?_
 have e:=lo0
 refine wi mixed Tryz.func9 [] [] 999 ?_
 obtain ⟨x1,d2,e,m⟩:=Bo2 e hm
 simp[e]
 refine Cf (r_mk_Deck_Next T (by simp[e]) e.2) ?_
 simp[e]
 refine Wn m 999 (fun s3 f h=>∃ (tg0_4:Tag),(h=hset H o0 [sL sI s3.2.2.l,sI s3.2.2.atF]∧f.1 0=AV.gptr o0 0∧f.1 3=sT tg0_4 Ty.av s3.1∧f.1 4=sI s3.2.1)∧Ow f [15] tg0_4 s3.1) (by exact ⟨.full,by simp[e],OwnT.full⟩) (fun s3 fr4 h4 K5 n6 c7 E m z8 hK9=>?_)
 obtain ⟨v10,v11,v12⟩:=s3
 obtain ⟨tg0_4,E,o0_4⟩:=E
 have e:=Aj e E
 dsimp only[un3_mk]at m
 rcases Io e m with ⟨e,m⟩|⟨e,m⟩
 rotate_left
 ·cases m
  have m:=Qb z8
  dsimp only[un3_mk]at m
  cases m;simp[e]
 obtain ⟨x13,d14,e,m⟩:=Bo2 e m
 simp[e]
 refine Cf (r_mk_Type T (by simp[e]) e.2) ?_
 obtain ⟨e,m⟩:=Ck e m
 simp[e]
 refine Ao (f:=Ty.av) v10 [x13] o0_4 ap23 e.2 ?_
 simp[e]
 cases m;exact hK9 _ _ _ ⟨(.loc 15 (fr4.tgen 15 + 1)),by simp[e],(On 15)⟩ z8

theorem r_mk_longer : C2 Tryz.prog 27 mk_longer (sL Ty.av) (sL Ty.av) (sL Ty.av) := by
 intro T H a0 a1 r hm
 rw [mk_longer] at hm
 have e:=trivial
 refine wi mixed Tryz.func27 [] [] 999 ?_
 obtain ⟨e,m⟩:=Ck e hm
 simp[e]
 refine Ao (f:=Ty.av) [] a0 (OwnT.full (D:=[])) ap23 e.2 ?_
 obtain ⟨e,m⟩:=Ck e m
 simp[e]
 refine Ao (f:=Ty.av) (lapp [] a0) a1 (OwnT.new (D:=[6]) (d:=6) (by decide)) ap23 e.2 ?_
 cases m;simp[e]

theorem r_ref07_Q : C3 Tryz.prog 26 ref07_Q Fm.av sI Ty.av Fm.av := by
 intro T H a0 a1 a2 r hm
 rw [ref07_Q] at hm
 have e:=trivial
 refine wi mixed Tryz.func26 [] [] 999 ?_
 obtain ⟨x1,e,m⟩:=Bo1 e hm
 simp[e]
 refine Cs (r_ref01_Copy e.2) ?_
 obtain ⟨x2,e,m⟩:=Bo1 e m
 simp[e]
 refine Cs (r_ref07_Copy e.2) ?_
 have e:=Aj e (show AV.agg [sI a0,sI x1.kind,sL Ty.av x1.args,AV.slice .frz [],AV.slice .frz [Fm.av x2]]=Fm.av (Fm.mk a0 x1 [] [x2]) by rw[Fm.av_mk];rfl)
 cases m;simp[e]

theorem r_mk_vars : C2 Tryz.prog 42 mk_vars (sL sI) (sL Ty.av) Ty.av := by
 intro T H a0 a1 r hm
 rw [mk_vars] at hm
 have e:=trivial
 refine wi mixed Tryz.func42 [] [] 999 ?_
 simp[e]
 refine Wr e hm 0 (fun j1 s2 f h=>∃ (tg0_3:Tag),(h=H∧f.1 0=sL Ty.av a0∧f.1 3=AV.lptr 3 (f.gen 3) 0∧f.1 5=sT tg0_3 sI s2∧f.1 8=sI (llen a0)∧f.1 9=sI j1∧f.box 3=some (Ty.av a1).cells)∧Ow f [25] tg0_3 s2) (by exact ⟨.full,by simp[e],OwnT.full⟩) (fun s2 fr3 h3 K4 E m=>?_) (fun j1 x5 s2 fr3 h3 K4 n6 c7 E e m z8 hK9=>?_)
 ·obtain ⟨tg0_3,E,o0_3⟩:=E
  have e:=Aj e E
  apply wg 999
  dsimp only[sumK_inl]at m
  cases m;simp[e]
 obtain ⟨tg0_3,E,o0_3⟩:=E
 have e:=Aj e E
 apply wg 5
 simp[e]
 refine Wj m 999 999 (fun j10 f h=>∃ (v11:(List Int)) (tg0_14:Tag),(h=H∧f.1 0=sL Ty.av a0∧f.1 3=AV.lptr 3 (f.gen 3) 0∧f.1 5=sT tg0_14 sI v11∧f.1 8=sI (llen a0)∧f.1 9=sI j1∧f.box 3=some (Ty.av a1).cells)∧Ow f [25] tg0_14 v11∧j10 v11=some c7) (fun j10 K12 hk13 m=>?_) ?_
 rotate_left
 ·rintro fr14 h14 ⟨v11,tg0_14,E,o0_14,m⟩
  have e:=Aj e E
  simp[e]
  cases m;exact hK9 _ _ _ ⟨tg0_14,by simp[e],o0_14⟩ z8
 obtain ⟨x15,e,m⟩:=Bo1 e m
 obtain ⟨x16,e,m⟩:=Bo1 e m
 simp[e]
 refine Cs (r_ref01_Same e.2) ?_
 rcases Io e m with ⟨e,m⟩|⟨e,m⟩
 rotate_left
 ·simp[e]
  exact hk13 _ _ ⟨s2,tg0_3,by simp[e],o0_3,m⟩
 obtain ⟨e,m⟩:=Ck e m
 simp[e]
 refine Ao (f:=sI) s2 [j1] o0_3 ap22 e.2 ?_
 simp[e]
 exact hk13 _ _ ⟨(lapp s2 [j1]),(.loc 25 (fr3.tgen 25 + 1)),by simp[e],(On 25),m⟩

theorem r_ref02_Var : C1 Tryz.prog 43 ref02_Var Tm.av sI := by
 intro T H a0 r hm
 rw [ref02_Var] at hm
 have e:=trivial
 refine wi mixed Tryz.func43 [] [] 999 ?_
 cases hm;simp[e]

end Go.Proofs.YtanjokijgbgcpaaGreatDoor
