/- The program's functions do what the models say. -/
import Derived.Test.YtgcimcppginchaaGreatDoorRW02
import Derived.Test.YtgcimcppginchaaGreatDoorRM
set_option maxRecDepth 20000
set_option maxHeartbeats 4000000
set_option linter.unusedSimpArgs false
set_option linter.unusedVariables false
namespace Go.Proofs.YtgcimcppginchaaGreatDoor
open Go Go.Abs Go.Mdl

theorem r_report_Library : C2 Tryz.prog 12 report_Library (t2 (sL sS) sI) Thy.av (sL Sapi_Extraction.av) := by
 intro T H a0 a1 r hm
 rw [report_Library] at hm
 have e:=trivial
 refine wi mixed Tryz.func12 [] [] 999 ?_
 obtain ⟨x1,e,m⟩:=Bo1 e hm
 simp[e]
 refine Cf (r_library_Check e.2) ?_
 rcases Io e m with ⟨e,m⟩|⟨e,m⟩
 ·cases m;simp[e]
 simp[e]
 refine Wr e m 0 (fun j2 s3 f h=>∃ (tg0_4:Tag),(h=H∧f.1 1=sL Sapi_Extraction.av a1∧f.1 7=sT tg0_4 sS s3.1∧f.1 8=sI s3.2.1∧f.1 9=sI s3.2.2∧f.1 23=sL Dcl.av a0.declarations∧f.1 24=sI (llen a0.declarations)∧f.1 25=sI j2)∧Ow f [43,66] tg0_4 s3.1) (by exact ⟨.full,by simp[e],OwnT.full⟩) (fun s3 fr4 h4 K5 E m=>?_) (fun j2 x6 s3 fr4 h4 K5 n7 c8 E e m z9 hK10=>?_)
 ·obtain ⟨v11,v12,v13⟩:=s3
  obtain ⟨tg0_4,E,o0_4⟩:=E
  have e:=Aj e E
  apply wg 999
  dsimp only[sumK_inl,un3_mk]at m
  obtain ⟨x14,e,m⟩:=Bo1 e m
  simp[e]
  refine Cf (r_strconv_Itoa T e.2) ?_
  obtain ⟨x15,e,m⟩:=Bo1 e m
  simp[e]
  refine Cf (r_strconv_Itoa T e.2) ?_
  obtain ⟨x16,e,m⟩:=Bo1 e m
  simp[e]
  refine Cf (r_strconv_Itoa T e.2) ?_
  obtain ⟨x17,e,m⟩:=Bo1 e m
  simp[e]
  refine Cf (r_strings_Join T e.2) ?_
  obtain ⟨e,m⟩:=Ck e m
  simp[e]
  refine Ao (f:=sS) v11 [x17] o0_4 ap42 e.2 ?_
  cases m;simp[e]
 obtain ⟨v11,v12,v13⟩:=s3
 obtain ⟨tg0_4,E,o0_4⟩:=E
 have e:=Aj e E
 dsimp only[un3_mk]at m
 apply wg 5
 simp[e]
 refine Wj m 999 999 (fun j18 f h=>∃ (v19:(List ByteArray)) (v20:Int) (v21:Int) (tg0_24:Tag),(h=H∧f.1 1=sL Sapi_Extraction.av a1∧f.1 7=sT tg0_24 sS v19∧f.1 8=sI v20∧f.1 9=sI v21∧f.1 23=sL Dcl.av a0.declarations∧f.1 24=sI (llen a0.declarations)∧f.1 25=sI j2)∧Ow f [43,66] tg0_24 v19∧j18 v19 v20 v21=some c8) (fun j18 K22 hk23 m=>?_) ?_
 rotate_left
 ·rintro fr24 h24 ⟨v19,v20,v21,tg0_24,E,o0_24,m⟩
  have e:=Aj e E
  simp[e]
  cases m;exact hK10 _ _ _ ⟨tg0_24,by simp[e],o0_24⟩ z9
 obtain ⟨x25,x26,e,m⟩:=Bo2 e m
 simp[e]
 refine Cf (r_class_Content T e.2) ?_
 rcases Io e m with ⟨e,m⟩|⟨e,m⟩
 rotate_left
 ·obtain ⟨e,m⟩:=Ck e m
  obtain ⟨e,m⟩:=Ck e m
  simp[e]
  refine Ao (f:=sS) v11 [(x6.name ++ (ByteArray.mk #[32,110,111,110,101]))] o0_4 ap42 e.2 ?_
  simp[e]
  exact hk23 _ _ ⟨(lapp v11 [(x6.name ++ (ByteArray.mk #[32,110,111,110,101]))]),v12,v13,(.loc 43 (fr4.tgen 43 + 1)),by simp[e],(On 43),m⟩
 obtain ⟨x27,e,m⟩:=Bo1 e m
 obtain ⟨x28,x29,e,m⟩:=Bo2 e m
 simp[e]
 refine Cf (r_terms_Size T e.2) ?_
 obtain ⟨e,m⟩:=Ck e m
 obtain ⟨x30,e,m⟩:=Bo1 e m
 simp[e]
 refine Cs (r_strconv_Itoa T e.2) ?_
 obtain ⟨e,m⟩:=Ck e m
 obtain ⟨e,m⟩:=Ck e m
 simp[e]
 refine Ad (f:=sS) v11 [((x6.name ++ (ByteArray.mk #[32,116,101,114,109,32])) ++ x30)] o0_4 ap42 e.2 ?_
 simp[e]
 exact hk23 _ _ ⟨(lapp v11 [((x6.name ++ (ByteArray.mk #[32,116,101,114,109,32])) ++ x30)]),(iadd .i64 v12 1),(iadd .i64 v13 x28),(.loc 66 (fr4.tgen 66 + 1)),by simp[e],(On 66),m⟩

theorem r_report_Rows : C1 Tryz.prog 13 report_Rows (t2 (sL sS) sI) (sL Sapi_Row.av) := by
 intro T H a0 r hm
 rw [report_Rows] at hm
 have e:=trivial
 refine wi mixed Tryz.func13 [] [] 999 ?_
 simp[e]
 refine Wr e hm 999 (fun j1 s2 f h=>∃ (tg0_3:Tag),(h=H∧f.1 4=sT tg0_3 sS s2∧f.1 9=sL Sapi_Row.av a0∧f.1 10=sI (llen a0)∧f.1 11=sI j1)∧Ow f [26] tg0_3 s2) (by exact ⟨.full,by simp[e],OwnT.full⟩) (fun s2 fr3 h3 K4 E m=>?_) (fun j1 x5 s2 fr3 h3 K4 n6 c7 E e m z8 hK9=>?_)
 ·obtain ⟨tg0_3,E,o0_3⟩:=E
  have e:=Aj e E
  dsimp only[sumK_inl]at m
  cases m;simp[e]
 obtain ⟨tg0_3,E,o0_3⟩:=E
 have e:=Aj e E
 obtain ⟨x10,x11,e,m⟩:=Bo2 e m
 simp[e]
 refine Cf (r_report_Row T e.2) ?_
 rcases Io e m with ⟨e,m⟩|⟨e,m⟩
 ·cases m;cases z8;simp[e]
 obtain ⟨e,m⟩:=Ck e m
 simp[e]
 refine Ao (f:=sS) s2 [x10] o0_3 ap42 e.2 ?_
 simp[e]
 cases m;exact hK9 _ _ _ ⟨(.loc 26 (fr3.tgen 26 + 1)),by simp[e],(On 26)⟩ z8

theorem r_law44_awake : C0 Tryz.prog 4 law44_awake sB := by
 intro T H r hm
 rw [law44_awake] at hm
 have e:=trivial
 refine wi mixed Tryz.func4 [] [] 12 ?_
 have e:=Aj e (show AV.agg [sI 2,sI 0,AV.slice .frz [sI 1,sI 20],AV.slice .frz []]=Vl.av (Vl.mk 2 0 [1,20] []) by rw[Vl.av_mk];rfl)
 have e:=Aj e (show AV.agg [sI 3,sI 0,AV.slice .frz [],AV.slice .frz [Vl.av (Vl.mk 1 12 [] []),Vl.av (Vl.mk 2 0 [1,20] [])]]=Vl.av (Vl.mk 3 0 [] [(Vl.mk 1 12 [] []),(Vl.mk 2 0 [1,20] [])]) by rw[Vl.av_mk];rfl)
 obtain ⟨x1,x2,e,m⟩:=Bo2 e hm
 simp[e]
 refine Cf (r_report_Value e.2) ?_
 have e:=Aj e (show AV.agg [sI 3,sI 0,AV.slice .frz [],AV.slice .frz [Vl.av (Vl.mk 1 12 [] []),Vl.av (Vl.mk 2 0 [1,20] [])]]=Vl.av (Vl.mk 3 0 [] [(Vl.mk 1 12 [] []),(Vl.mk 2 0 [1,20] [])]) by rw[Vl.av_mk];rfl)
 have e:=Aj e (show AV.agg [AV.slice .frz [Vl.av (Vl.mk 3 0 [] [(Vl.mk 1 12 [] []),(Vl.mk 2 0 [1,20] [])])],sI 4,sI 0,AV.slice .frz [],AV.slice .frz [],sB true,sI 0]=Sapi_Row.av (Sapi_Row.mk [(Vl.mk 3 0 [] [(Vl.mk 1 12 [] []),(Vl.mk 2 0 [1,20] [])])] (Vl.mk 4 0 [] []) true 0) by rw[Sapi_Row.av_mk];rfl)
 obtain ⟨x3,x4,e,m⟩:=Bo2 e m
 simp[e]
 refine Cf (r_report_Row T e.2) ?_
 obtain ⟨x5,x6,e,m⟩:=Bo2 e m
 simp[e]
 refine Cf (r_report_Library e.2) ?_
 obtain ⟨x7,x8,e,m⟩:=Bo2 e m
 simp[e]
 refine Cf (r_report_Rows e.2) ?_
 simp[e]
 refine Wj m 999 999 (fun j9 f h=>∃ (v10:Bool),(h=H∧f.1 0=sB v10)∧j9 v10=some r) (fun j9 K11 hk12 m=>?_) ?_
 rotate_left
 ·rintro fr13 h13 ⟨v10,E,m⟩
  have e:=Aj e E
  cases m;simp[e]
 rcases Io e m with ⟨e,m⟩|⟨e,m⟩
 rotate_left
 ·simp[e]
  exact hk12 _ _ ⟨false,by simp[e],m⟩
 rcases Io e m with ⟨e,m⟩|⟨e,m⟩
 rotate_left
 ·simp[e]
  exact hk12 _ _ ⟨false,by simp[e],m⟩
 rcases Io e m with ⟨e,m⟩|⟨e,m⟩
 rotate_left
 ·simp[e]
  exact hk12 _ _ ⟨false,by simp[e],m⟩
 rcases Io e m with ⟨e,m⟩|⟨e,m⟩
 rotate_left
 ·simp[e]
  exact hk12 _ _ ⟨false,by simp[e],m⟩
 rcases Io e m with ⟨e,m⟩|⟨e,m⟩
 rotate_left
 ·simp[e]
  exact hk12 _ _ ⟨false,by simp[e],m⟩
 rcases Io e m with ⟨e,m⟩|⟨e,m⟩
 rotate_left
 ·simp[e]
  exact hk12 _ _ ⟨false,by simp[e],m⟩
 rcases Io e m with ⟨e,m⟩|⟨e,m⟩
 rotate_left
 ·simp[e]
  exact hk12 _ _ ⟨false,by simp[e],m⟩
 obtain ⟨x14,e,m⟩:=Bo1 e m
 rcases Io e m with ⟨e,m⟩|⟨e,m⟩
 rotate_left
 ·simp[e]
  exact hk12 _ _ ⟨false,by simp[e],m⟩
 simp[e]
 exact hk12 _ _ ⟨(ieq (llen x7) 0),by simp[e],m⟩

theorem r_mk_Few : C1 Tryz.prog 5 mk_Few sB (sL sI) := by
 intro T H a0 r hm
 rw [mk_Few] at hm
 have e:=trivial
 refine wi mixed Tryz.func5 [] [] 999 ?_
 cases hm;simp[e]

theorem enters6 : entersB Tryz.prog 6 = true := by kernel_rfl
theorem r_mk_New (T : Tabs) {a0 : List Int} {r0 : Smk_Deck} (hm : mk_New a0 = some r0) : ACall Tryz.prog T 6 [AV.slice .frz (List.map (fun n => AV.sc (Value.int .i64 n)) a0)] [] (AV.gptr 0 0) (hset [[]] 0 [AV.slice .frz (List.map (fun n => AV.sc (Value.int .i64 n)) r0.l), AV.sc (.int .i64 r0.atF)]) := by
  obtain rfl := Option.some.inj hm
  refine ACallP.intro (fn := Tryz.f6) Tryz.func6 rfl enters6 (Nat.le_of_ble_eq_true rfl) ?_
  refine AWp.seqK fun K1 hk1 => ?_
  refine AWp.region [] (by decide +kernel) ?_
  simp
  refine hk1 _ _ ?_
  refine AWp.seqK fun K1 hk1 => ?_
  refine AWp.region [5] (by decide +kernel) ?_
  simp
  refine hk1 _ _ ?_
  refine AWp.ret ?_
  simp [retQ, hset]

theorem r_mk_Mod : C2 Tryz.prog 31 mk_Mod sI sI sI := by
 intro T H a0 a1 r hm
 rw [mk_Mod] at hm
 have e:=trivial
 refine wi mixed Tryz.func31 [] [] 999 ?_
 obtain ⟨e,m⟩:=Ck e hm
 obtain ⟨e,m⟩:=Ck e m
 cases m;simp[e]


theorem r_mk_Deck_Next (T : Tabs) {H : Heap} {a0 : Smk_Deck} {a1 : Int} {r0 : Int} {do0 : Smk_Deck} {o0 : Nat} (ho0 : H[o0]? = some [sL sI a0.l, sI a0.atF]) (hm : mk_Deck_Next a0 a1 = some (r0, do0)) : ACall Tryz.prog T 14 [AV.gptr o0 0, sI a1] H (sI r0) (hset H o0 [sL sI do0.l, sI do0.atF]) := by
 rw [mk_Deck_Next] at hm
 have lo0:=inb_of_get ho0
 refine ACallP.at1 ho0 ?_
 have e:=lo0
 refine wi mixed Tryz.func14 [] [(1,true,[]),(3,true,[])] 3 ?_
 simp[e]
 refine wj 999 999 (fun f h=>h=hset H o0 [sL sI a0.l,sI a0.atF]∧f.1 0=AV.gptr o0 0∧f.1 1=sI a1∧f.1 19=sB (sel (ilt a1 1) true (ige a0.atF (llen a0.l)))) (fun K1 hk2=>?_) ?_
 ·rcases Pb (ilt a1 1) e with e|e
  ·simp[e]
   exact hk2 _ _ (by simp[e])
  simp[e]
  exact hk2 _ _ (by simp[e])
 rintro fr3 h3 E
 have e:=Aj e E
 rcases Io e hm with ⟨e,m⟩|⟨e,m⟩
 ·cases m;simp[e]
 obtain ⟨x4,e,m⟩:=Bo1 e m
 obtain ⟨x5,e,m⟩:=Bo1 e m
 simp[e]
 refine Cf (r_mk_Mod e.2) ?_
 cases m;simp[e]

theorem r_ref01_Nat : C0 Tryz.prog 15 ref01_Nat Ty.av := by
 intro T H r hm
 rw [ref01_Nat] at hm
 have e:=trivial
 refine wi mixed Tryz.func15 [] [] 999 ?_
 cases hm;simp[e]

theorem r_ref01_List : C0 Tryz.prog 16 ref01_List Ty.av := by
 intro T H r hm
 rw [ref01_List] at hm
 have e:=trivial
 refine wi mixed Tryz.func16 [] [] 999 ?_
 cases hm;simp[e]

theorem r_ref01_Unit : C0 Tryz.prog 17 ref01_Unit Ty.av := by
 intro T H r hm
 rw [ref01_Unit] at hm
 have e:=trivial
 refine wi mixed Tryz.func17 [] [] 999 ?_
 cases hm;simp[e]


theorem rg_ref01_Copy : ∀ (n : Nat), C1 Tryz.prog 32 (ref01_Copy n) Ty.av Ty.av := by
  intro n
  induction n with
  | zero =>
    skip
    all_goals (intro _ _;intros;rename_i hm;cases hm)
  | succ n ih =>
 intro T H a0 r hm
 rw [ref01_Copy] at hm
 have e:=trivial
 refine wi mixed Tryz.func32 [] [] 999 ?_
 simp[e]
 refine Wr e hm 999 (fun j1 s2 f h=>∃ (tg0_3:Tag),(h=H∧f.1 1=AV.lptr 1 (f.gen 1) 0∧f.1 2=AV.lptr 2 (f.gen 2) 0∧f.1 3=sT tg0_3 Ty.av s2∧f.1 7=sL Ty.av a0.args∧f.1 8=sI (llen a0.args)∧f.1 9=sI j1∧f.box 1=some (Ty.av a0).cells∧f.box 2=some [sI 0,AV.slice .full []])∧Ow f [17] tg0_3 s2) (by exact ⟨.full,by simp[e],OwnT.full⟩) (fun s2 fr3 h3 K4 E m=>?_) (fun j1 x5 s2 fr3 h3 K4 n6 c7 E e m z8 hK9=>?_)
 ·obtain ⟨tg0_3,E,o0_3⟩:=E
  have e:=Aj e E
  dsimp only[sumK_inl]at m
  cases m;simp[e]
 obtain ⟨tg0_3,E,o0_3⟩:=E
 have e:=Aj e E
 obtain ⟨x10,e,m⟩:=Bo1 e m
 simp[e]
 refine Cf (ih e.2) ?_
 obtain ⟨e,m⟩:=Ck e m
 simp[e]
 refine Ao (f:=Ty.av) s2 [x10] o0_3 ap31 e.2 ?_
 simp[e]
 cases m;exact hK9 _ _ _ ⟨(.loc 17 (fr3.tgen 17 + 1)),by simp[e],(On 17)⟩ z8
theorem r_ref01_Copy {n : Nat} : C1 Tryz.prog 32 (ref01_Copy n) Ty.av Ty.av := (rg_ref01_Copy n)

theorem r_ref01_Two : C2 Tryz.prog 18 ref01_Two Ty.av Ty.av Ty.av := by
 intro T H a0 a1 r hm
 rw [ref01_Two] at hm
 have e:=trivial
 refine wi mixed Tryz.func18 [] [] 999 ?_
 obtain ⟨x1,e,m⟩:=Bo1 e hm
 simp[e]
 refine Cs (r_ref01_Copy e.2) ?_
 obtain ⟨x2,e,m⟩:=Bo1 e m
 simp[e]
 refine Cs (r_ref01_Copy e.2) ?_
 have e:=Aj e (show AV.agg [sI 3,AV.slice .frz [Ty.av x1,Ty.av x2]]=Ty.av (Ty.mk 3 [x1,x2]) by rw[Ty.av_mk];rfl)
 cases m;simp[e]

end Go.Proofs.YtgcimcppginchaaGreatDoor
