/- The program's functions do what the models say. -/
import Derived.Test.YtnbbnjmjpnncfaaYW01
import Derived.Test.YtnbbnjmjpnncfaaYM
import Derived.Test.YtnbbnjmjpnncfaaDat
set_option maxRecDepth 20000
set_option maxHeartbeats 4000000
set_option linter.unusedSimpArgs false
set_option linter.unusedVariables false
namespace Go.Proofs.Ytnbbnjmjpnncfaa
open Go Go.Abs Go.Mdl


theorem r_mk_Deck_Next (T : Tabs) {H : Heap} {a0 : Smk_Deck} {a1 : Int} {r0 : Int} {do0 : Smk_Deck} {o0 : Nat} (ho0 : H[o0]? = some [sL sI a0.l, sI a0.atF]) (hm : mk_Deck_Next a0 a1 = some (r0, do0)) : ACall Try.prog T 31 [AV.gptr o0 0, sI a1] H (sI r0) (hset H o0 [sL sI do0.l, sI do0.atF]) := by
 rw [mk_Deck_Next] at hm
 have lo0:=inb_of_get ho0
 refine ACallP.at1 ho0 ?_
 have e:=lo0
 refine wi mixed Try.func31 [] [(1,true,[]),(3,true,[])] 3 ?_
 simp[e]
 refine wj 999 999 (fun f h=>h=hset H o0 [sL sI a0.l,sI a0.atF]∧f.1 0=AV.gptr o0 0∧f.1 1=sI a1∧f.1 19=sB (sel (ilt a1 1) true (ige a0.atF (llen a0.l)))) (fun K1 hk2=>?_) ?_
 ·rcases Pb (ilt a1 1) e with e|e
  ·simp[e]
   exact hk2 _ _ (by simp[e])
  simp[e]
  exact hk2 _ _ (by simp[e])
 rintro fr3 h3 E
 have e:=Aj e E
 rcases Io e hm with ⟨e,m⟩|⟨e,m⟩
 ·cases m;simp[e]
 obtain ⟨x4,e,m⟩:=Bo1 e m
 obtain ⟨x5,e,m⟩:=Bo1 e m
 simp[e]
 refine Cf (r_mk_Mod e.2) ?_
 cases m;simp[e]

theorem r_ref01_List : C0 Try.prog 32 ref01_List Ty.av := by
 intro T H r hm
 rw [ref01_List] at hm
 have e:=trivial
 refine wi mixed Try.func32 [] [] 999 ?_
 cases hm;simp[e]

theorem r_ref01_Unit : C0 Try.prog 33 ref01_Unit Ty.av := by
 intro T H r hm
 rw [ref01_Unit] at hm
 have e:=trivial
 refine wi mixed Try.func33 [] [] 999 ?_
 cases hm;simp[e]

theorem r_ref01_Two : C2 Try.prog 34 ref01_Two Ty.av Ty.av Ty.av := by
 intro T H a0 a1 r hm
 rw [ref01_Two] at hm
 have e:=trivial
 refine wi mixed Try.func34 [] [] 999 ?_
 obtain ⟨x1,e,m⟩:=Bo1 e hm
 simp[e]
 refine Cs (r_ref01_Copy e.2) ?_
 obtain ⟨x2,e,m⟩:=Bo1 e m
 simp[e]
 refine Cs (r_ref01_Copy e.2) ?_
 have e:=Aj e (show AV.agg [sI 3,AV.slice .frz [Ty.av x1,Ty.av x2]]=Ty.av (Ty.mk 3 [x1,x2]) by rw[Ty.av_mk];rfl)
 cases m;simp[e]


theorem rg_mk_Type (T : Tabs) : ∀ (n : Nat), (∀ {H : Heap} {a0 : Smk_Deck} {a1 : Int} {r0 : Ty} {do0 : Smk_Deck} {o0 : Nat} (ho0 : H[o0]? = some [sL sI a0.l, sI a0.atF]) (hm : mk_Type n a0 a1 = some (r0, do0)), ACall Try.prog T 9 [AV.gptr o0 0, sI a1] H (Ty.av r0) (hset H o0 [sL sI do0.l, sI do0.atF])) := by
  intro n
  induction n with
  | zero =>
    skip
    all_goals (intro _ _;intros;rename_i hm;cases hm)
  | succ n ih =>
 intro H a0 a1 r0 do0 o0 ho0 hm
 rw [mk_Type] at hm
 have lo0:=inb_of_get ho0
 refine ACallP.at1 ho0 ?_
 have e:=lo0
 refine wi mixed Try.func9 [] [] 2 ?_
 simp[e]
 refine Wj hm 3 999 (fun j1 f h=>∃ (v2:Smk_Deck),(h=hset H o0 [sL sI v2.l,sI v2.atF]∧f.1 4=AV.lptr 4 (f.gen 4) 0∧f.box 4=some [sI 0,AV.slice .full []])∧j1 v2=some (r0,do0)) (fun j1 K3 hk4 m=>?_) ?_
 rotate_left
 ·rintro fr5 h5 ⟨v2,E,m⟩
  have e:=Aj e E
  obtain ⟨x6,e,m⟩:=Bo1 e m
  simp[e]
  refine Cf (r_ref01_Nat e.2) ?_
  cases m;simp[e]
 obtain ⟨x7,d8,e,m⟩:=Bo2 e m
 simp[e]
 refine Cf (r_mk_Deck_Next T (by simp[e]) e.2) ?_
 simp[e]
 refine wj 999 999 (fun f h=>h=hset H o0 [sL sI d8.l,sI d8.atF]∧f.1 0=AV.gptr o0 0∧f.1 1=sI a1∧f.1 4=AV.lptr 4 (f.gen 4) 0∧f.1 6=sI x7∧f.1 7=sB (sel (ieq x7 0) true (sel (ieq x7 1) true (ieq x7 2)))∧f.box 4=some [sI 0,AV.slice .full []]) (fun K9 hk10=>?_) ?_
 ·rcases Pb (ieq x7 0) e with e|e
  ·simp[e]
   exact hk10 _ _ (by simp[e])
  rcases Pb (ieq x7 1) e with e|e
  ·simp[e]
   exact hk10 _ _ (by simp[e])
  simp[e]
  exact hk10 _ _ (by simp[e])
 rintro fr11 h11 E
 have e:=Aj e E
 rcases Io e m with ⟨e,m⟩|⟨e,m⟩
 ·obtain ⟨x12,e,m⟩:=Bo1 e m
  simp[e]
  refine Cf (r_ref01_Nat e.2) ?_
  cases m;simp[e]
 rcases Io e m with ⟨e,m⟩|⟨e,m⟩
 ·obtain ⟨x13,e,m⟩:=Bo1 e m
  simp[e]
  refine Cf (r_ref01_List e.2) ?_
  cases m;simp[e]
 rcases Io e m with ⟨e,m⟩|⟨e,m⟩
 ·obtain ⟨x14,e,m⟩:=Bo1 e m
  simp[e]
  refine Cf (r_ref01_Unit e.2) ?_
  cases m;simp[e]
 rcases Io e m with ⟨e,m⟩|⟨e,m⟩
 ·rcases Io e m with ⟨e,m⟩|⟨e,m⟩
  rotate_left
  ·simp[e]
   exact hk4 _ _ ⟨d8,by simp[e],m⟩
  obtain ⟨x15,d16,e,m⟩:=Bo2 e m
  simp[e]
  refine Cf (ih (by simp[e]) e.2) ?_
  obtain ⟨x17,d18,e,m⟩:=Bo2 e m
  simp[e]
  refine Cf (ih (by simp[e]) e.2) ?_
  obtain ⟨x19,e,m⟩:=Bo1 e m
  simp[e]
  refine Cf (r_ref01_Two e.2) ?_
  cases m;simp[e]
 rcases Io e m with ⟨e,m⟩|⟨e,m⟩
 rotate_left
 ·simp[e]
  exact hk4 _ _ ⟨d8,by simp[e],m⟩
 rcases Io e m with ⟨e,m⟩|⟨e,m⟩
 rotate_left
 ·simp[e]
  exact hk4 _ _ ⟨d8,by simp[e],m⟩
 obtain ⟨x20,d21,e,m⟩:=Bo2 e m
 simp[e]
 refine Cf (ih (by simp[e]) e.2) ?_
 obtain ⟨x22,d23,e,m⟩:=Bo2 e m
 simp[e]
 refine Cf (ih (by simp[e]) e.2) ?_
 obtain ⟨x24,e,m⟩:=Bo1 e m
 simp[e]
 refine Cf (r_ref01_Fun e.2) ?_
 cases m;simp[e]
theorem r_mk_Type (T : Tabs) {H : Heap} {a0 : Smk_Deck} {a1 : Int} {r0 : Ty} {do0 : Smk_Deck} {o0 : Nat} (ho0 : H[o0]? = some [sL sI a0.l, sI a0.atF]) {n : Nat} (hm : mk_Type n a0 a1 = some (r0, do0)) : ACall Try.prog T 9 [AV.gptr o0 0, sI a1] H (Ty.av r0) (hset H o0 [sL sI do0.l, sI do0.atF]) := (rg_mk_Type T n) ho0 hm

theorem r_tree_Fun : C2 Try.prog 37 tree_Fun Ty.av Ty.av (sL Ty.av) := by
 intro T H a0 a1 r hm
 rw [tree_Fun] at hm
 have e:=trivial
 refine wi mixed Try.func37 [] [] 999 ?_
 simp[e]
 refine Wn hm 999 (fun s1 f h=>∃ (tg0_2:Tag),h=H∧f.1 1=sL Ty.av a1∧f.1 2=AV.lptr 2 (f.gen 2) 0∧f.1 4=AV.lptr 4 (f.gen 4) 0∧f.1 5=sI s1.1∧f.box 2=some [sI s1.2.1,sT tg0_2 Ty.av s1.2.2]∧f.box 4=some [sI 0,AV.slice .full []]) ⟨.frz,by simp[e]⟩ (fun s1 fr2 h2 K3 n4 c5 E m z6 hK7=>?_)
 obtain ⟨v8,v9,v10⟩:=s1
 obtain ⟨tg0_2,E⟩:=E
 have e:=Aj e E
 dsimp only[un3_mk]at m
 rcases Io e m with ⟨e,m⟩|⟨e,m⟩
 rotate_left
 ·cases m
  have m:=Qb z6
  dsimp only[un3_mk]at m
  cases m;simp[e]
 obtain ⟨x11,e,m⟩:=Bo1 e m
 simp[e]
 cases m;exact hK7 _ _ _ ⟨.full,by simp[e]⟩ z6


theorem rg_tree_OwnType : ∀ (n : Nat), C1 Try.prog 36 (tree_OwnType n) Ty.av Ty.av := by
  intro n
  induction n with
  | zero =>
    skip
    all_goals (intro _ _;intros;rename_i hm;cases hm)
  | succ n ih =>
 intro T H a0 r hm
 rw [tree_OwnType] at hm
 have e:=trivial
 refine wi mixed Try.func36 [] [] 999 ?_
 simp[e]
 refine Wr e hm 999 (fun j1 s2 f h=>∃ (tg0_3:Tag),(h=H∧f.1 2=AV.lptr 2 (f.gen 2) 0∧f.1 3=AV.lptr 3 (f.gen 3) 0∧f.1 10=sL Ty.av a0.args∧f.1 11=sI (llen a0.args)∧f.1 12=sI j1∧f.box 2=some [sI 0,AV.slice .full []]∧f.box 3=some [sI a0.kind,sT tg0_3 Ty.av s2])∧Ow f [21] tg0_3 s2) (by exact ⟨.full,by simp[e],OwnT.full⟩) (fun s2 fr3 h3 K4 E m=>?_) (fun j1 x5 s2 fr3 h3 K4 n6 c7 E e m z8 hK9=>?_)
 ·obtain ⟨tg0_3,E,o0_3⟩:=E
  have e:=Aj e E
  dsimp only[sumK_inl]at m
  cases m;simp[e]
 obtain ⟨tg0_3,E,o0_3⟩:=E
 have e:=Aj e E
 obtain ⟨x10,e,m⟩:=Bo1 e m
 simp[e]
 refine Cs (ih e.2) ?_
 obtain ⟨e,m⟩:=Ck e m
 simp[e]
 refine Ad (f:=Ty.av) s2 [x10] o0_3 ap27 e.2 ?_
 simp[e]
 cases m;exact hK9 _ _ _ ⟨(.loc 21 (fr3.tgen 21 + 1)),by simp[e],(On 21)⟩ z8
theorem r_tree_OwnType {n : Nat} : C1 Try.prog 36 (tree_OwnType n) Ty.av Ty.av := (rg_tree_OwnType n)

theorem r_types_Function : C2 Try.prog 10 types_Function (t2 Ty.av sI) (sL Ty.av) Ty.av := by
 intro T H a0 a1 r hm
 rw [types_Function] at hm
 have e:=trivial
 refine wi mixed Try.func10 [] [] 999 ?_
 obtain ⟨e,m⟩:=Ck e hm
 simp[e]
 refine Ad (f:=Ty.av) [] a0 (OwnT.full (D:=[])) ap27 e.2 ?_
 obtain ⟨e,m⟩:=Ck e m
 simp[e]
 refine Ad (f:=Ty.av) (lapp [] a0) [a1] (OwnT.new (D:=[12]) (d:=12) (by decide)) ap27 e.2 ?_
 simp[e]
 refine Wr e m 999 (fun j1 s2 f h=>∃ (tg0_3:Tag),(h=H∧f.1 0=sL Ty.av a0∧f.1 3=AV.lptr 3 (f.gen 3) 0∧f.1 4=AV.lptr 4 (f.gen 4) 0∧f.1 6=sI s2∧f.1 15=sT tg0_3 Ty.av (lapp (lapp [] a0) [a1])∧f.1 16=sI (llen (lapp (lapp [] a0) [a1]))∧f.1 17=sI j1∧f.box 3=some (Ty.av a1).cells∧f.box 4=some [sI 0,AV.slice .full []])∧Ow f [15] tg0_3 (lapp (lapp [] a0) [a1])) (by exact ⟨(.loc 15 1),by simp[e],(On 15)⟩) (fun s2 fr3 h3 K4 E m=>?_) (fun j1 x5 s2 fr3 h3 K4 n6 c7 E e m z8 hK9=>?_)
 rotate_left
 ·obtain ⟨tg0_3,E,o0_3⟩:=E
  have e:=Aj e E
  obtain ⟨x10,x11,e,m⟩:=Bo2 e m
  simp[e]
  refine Cf (r_tree_CheckType e.2) ?_
  rcases Io e m with ⟨e,m⟩|⟨e,m⟩
  ·cases m;cases z8;simp[e]
  simp[e]
  cases m;exact hK9 _ _ _ ⟨tg0_3,by simp[e],o0_3⟩ z8
 obtain ⟨tg0_3,E,o0_3⟩:=E
 have e:=Aj e E
 dsimp only[sumK_inl]at m
 rcases Io e m with ⟨e,m⟩|⟨e,m⟩
 ·cases m;simp[e]
 obtain ⟨x12,e,m⟩:=Bo1 e m
 simp[e]
 refine Cf (r_tree_Fun e.2) ?_
 obtain ⟨x13,e,m⟩:=Bo1 e m
 simp[e]
 refine Cf (r_tree_OwnType e.2) ?_
 cases m;simp[e]

theorem r_types_Size : C1 Try.prog 12 types_Size (t2 sI sI) Ty.av := by
 intro T H a0 r hm
 rw [types_Size] at hm
 have e:=trivial
 refine wi mixed Try.func12 [] [] 999 ?_
 obtain ⟨x1,x2,e,m⟩:=Bo2 e hm
 simp[e]
 refine Cf (r_tree_CheckType e.2) ?_
 cases m;simp[e]


theorem r_law01_TypesLevels (T : Tabs) {a0 : (List Int)} {r0 : Bool} (hm : law01_TypesLevels a0 = some r0) : ACallP Try.prog T 3 [sL sI a0] [] (fun x _ => x = sB r0) := by
 rw [law01_TypesLevels] at hm
 have e:=trivial
 refine wi mixed Try.func3 [] [] 5 ?_
 obtain ⟨x1,e,m⟩:=Bo1 e hm
 simp[e]
 refine Cf (r_law01_sane e.2) ?_
 simp[e]
 rcases Io e m with ⟨e,m⟩|⟨e,m⟩
 rotate_left
 ·apply wg 999
  cases m;simp[e]
 apply wg 5
 obtain ⟨x2,e,m⟩:=Bo1 e m
 simp[e]
 refine Cf (r_mk_Few e.2) ?_
 simp[e]
 rcases Io e m with ⟨e,m⟩|⟨e,m⟩
 rotate_left
 ·apply wg 999
  cases m;simp[e]
 apply wg 20
 obtain ⟨x3,e,m⟩:=Bo1 e m
 simp[e]
 refine Cf (r_mk_New T e.2) ?_
 obtain ⟨x4,d5,e,m⟩:=Bo2 e m
 simp[e]
 refine Cf (r_mk_Type T (by simp[e]) e.2) ?_
 obtain ⟨x6,d7,e,m⟩:=Bo2 e m
 simp[e]
 refine Cf (r_mk_Type T (by simp[e]) e.2) ?_
 obtain ⟨x8,x9,e,m⟩:=Bo2 e m
 simp[e]
 refine Cf (r_types_Function e.2) ?_
 obtain ⟨x10,x11,e,m⟩:=Bo2 e m
 simp[e]
 refine Cf (r_types_Level e.2) ?_
 obtain ⟨x12,x13,e,m⟩:=Bo2 e m
 simp[e]
 refine Cf (r_types_Level e.2) ?_
 obtain ⟨x14,x15,e,m⟩:=Bo2 e m
 simp[e]
 refine Cf (r_types_Level e.2) ?_
 obtain ⟨x16,x17,e,m⟩:=Bo2 e m
 simp[e]
 refine Cf (r_types_Size e.2) ?_
 obtain ⟨x18,x19,e,m⟩:=Bo2 e m
 simp[e]
 refine Cf (r_types_Size e.2) ?_
 obtain ⟨x20,x21,e,m⟩:=Bo2 e m
 simp[e]
 refine Cf (r_types_Size e.2) ?_
 simp[e]
 refine wj 999 999 (fun f h=>h=hset [[]] 0 [sL sI d7.l,sI d7.atF]∧f.1 2=sB (sel (ieq x9 0) (sel (ieq x11 0) (sel (ieq x13 0) (sel (ieq x15 0) (sel (ieq x17 0) (sel (ieq x19 0) (sel (ieq x21 0) (sel (ieq x14 (imax (iadd .i64 x10 1) x12)) (ieq x20 (iadd .i64 (iadd .i64 x16 x18) 1)) false) false) false) false) false) false) false) false)) (fun K22 hk23=>?_) ?_
 rotate_left
 ·rintro fr24 h24 E
  have e:=Aj e E
  cases m;simp[e]
 rcases Pb (ieq x9 0) e with e|e
 rotate_left
 ·simp[e]
  exact hk23 _ _ (by simp[e])
 rcases Pb (ieq x11 0) e with e|e
 rotate_left
 ·simp[e]
  exact hk23 _ _ (by simp[e])
 rcases Pb (ieq x13 0) e with e|e
 rotate_left
 ·simp[e]
  exact hk23 _ _ (by simp[e])
 rcases Pb (ieq x15 0) e with e|e
 rotate_left
 ·simp[e]
  exact hk23 _ _ (by simp[e])
 rcases Pb (ieq x17 0) e with e|e
 rotate_left
 ·simp[e]
  exact hk23 _ _ (by simp[e])
 rcases Pb (ieq x19 0) e with e|e
 rotate_left
 ·simp[e]
  exact hk23 _ _ (by simp[e])
 rcases Pb (ieq x21 0) e with e|e
 rotate_left
 ·simp[e]
  exact hk23 _ _ (by simp[e])
 rcases Pb (ieq x14 (imax (iadd .i64 x10 1) x12)) e with e|e
 ·simp[e]
  exact hk23 _ _ (by simp[e])
 simp[e]
 exact hk23 _ _ (by simp[e])

theorem r_types_Result : C1 Try.prog 13 types_Result (t3 (sL Ty.av) Ty.av sI) Ty.av := by
 intro T H a0 r hm
 rw [types_Result] at hm
 have e:=trivial
 refine wi mixed Try.func13 [] [] 999 ?_
 obtain ⟨x1,e,m⟩:=Bo1 e hm
 simp[e]
 refine Cf (r_types_Check e.2) ?_
 rcases Io e m with ⟨e,m⟩|⟨e,m⟩
 ·cases m;simp[e]
 simp[e]
 refine Wn m 999 (fun s2 f h=>∃ (tg0_3:Tag),(h=H∧f.1 1=AV.lptr 1 (f.gen 1) 0∧f.1 3=AV.lptr 3 (f.gen 3) 0∧f.1 6=sT tg0_3 Ty.av s2.1∧f.box 1=some [sI s2.2.1,sL Ty.av s2.2.2]∧f.box 3=some [sI 0,AV.slice .full []])∧Ow f [23] tg0_3 s2.1) (by exact ⟨.full,by simp[e],OwnT.full⟩) (fun s2 fr3 h3 K4 n5 c6 E m z7 hK8=>?_)
 obtain ⟨v9,v10,v11⟩:=s2
 obtain ⟨tg0_3,E,o0_3⟩:=E
 have e:=Aj e E
 dsimp only[un3_mk]at m
 rcases Io e m with ⟨e,m⟩|⟨e,m⟩
 rotate_left
 ·cases m
  have m:=Qb z7
  dsimp only[un3_mk]at m
  obtain ⟨x12,e,m⟩:=Bo1 e m
  simp[e]
  refine Cf (r_tree_OwnType e.2) ?_
  cases m;simp[e]
 obtain ⟨x13,e,m⟩:=Bo1 e m
 obtain ⟨x14,e,m⟩:=Bo1 e m
 simp[e]
 refine Cs (r_tree_OwnType e.2) ?_
 obtain ⟨e,m⟩:=Ck e m
 simp[e]
 refine Ad (f:=Ty.av) v9 [x14] o0_3 ap27 e.2 ?_
 obtain ⟨x15,e,m⟩:=Bo1 e m
 simp[e]
 cases m;exact hK8 _ _ _ ⟨(.loc 23 (fr3.tgen 23 + 1)),by simp[e],(On 23)⟩ z7

theorem r_types_Data (T : Tabs) {H : Heap} {a0 : Ty} {r0 : Bool} {r1 : Int} (hm : types_Data a0 = some (r0, r1)) : ACall Try.prog T 14 [Ty.av a0] H (AV.tuple [AV.sc (.bool r0), AV.sc (.int .i64 r1)]) H := Go.Proofs.Try.data_C hm

end Go.Proofs.Ytnbbnjmjpnncfaa
