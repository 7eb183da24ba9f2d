/- The program's functions do what the models say. -/
import Derived.Test.YtgcimcppginchaaGreatDoorRW03
import Derived.Test.YtgcimcppginchaaGreatDoorRM
set_option maxRecDepth 20000
set_option maxHeartbeats 4000000
set_option linter.unusedSimpArgs false
set_option linter.unusedVariables false
namespace Go.Proofs.YtgcimcppginchaaGreatDoor
open Go Go.Abs Go.Mdl


theorem r_mk_Plain (T : Tabs) {H : Heap} {a0 : Smk_Deck} {r0 : Ty} {do0 : Smk_Deck} {o0 : Nat} (ho0 : H[o0]? = some [sL sI a0.l, sI a0.atF]) (hm : mk_Plain a0 = some (r0, do0)) : ACall Tryz.prog T 8 [AV.gptr o0 0] H (Ty.av r0) (hset H o0 [sL sI do0.l, sI do0.atF]) := by
 rw [mk_Plain] at hm
 have lo0:=inb_of_get ho0
 refine ACallP.at1 ho0 ?_
 have e:=lo0
 refine wi mixed Tryz.func8 [] [] 6 ?_
 obtain ⟨x1,d2,e,m⟩:=Bo2 e hm
 simp[e]
 refine Cf (r_mk_Deck_Next T (by simp[e]) e.2) ?_
 simp[e]
 refine wj 999 999 (fun f h=>h=hset H o0 [sL sI d2.l,sI d2.atF]∧f.1 2=AV.lptr 2 (f.gen 2) 0∧f.1 4=sI x1∧f.1 5=sB (sel (ieq x1 0) true (ieq x1 1))∧f.box 2=some [sI 0,AV.slice .full []]) (fun K3 hk4=>?_) ?_
 ·rcases Pb (ieq x1 0) e with e|e
  ·simp[e]
   exact hk4 _ _ (by simp[e])
  simp[e]
  exact hk4 _ _ (by simp[e])
 rintro fr5 h5 E
 have e:=Aj e E
 rcases Io e m with ⟨e,m⟩|⟨e,m⟩
 ·obtain ⟨x6,e,m⟩:=Bo1 e m
  simp[e]
  refine Cf (r_ref01_Nat e.2) ?_
  cases m;simp[e]
 rcases Io e m with ⟨e,m⟩|⟨e,m⟩
 ·obtain ⟨x7,e,m⟩:=Bo1 e m
  simp[e]
  refine Cf (r_ref01_List e.2) ?_
  cases m;simp[e]
 rcases Io e m with ⟨e,m⟩|⟨e,m⟩
 ·obtain ⟨x8,e,m⟩:=Bo1 e m
  simp[e]
  refine Cf (r_ref01_Unit e.2) ?_
  cases m;simp[e]
 rcases Io e m with ⟨e,m⟩|⟨e,m⟩
 rotate_left
 ·obtain ⟨x9,e,m⟩:=Bo1 e m
  simp[e]
  refine Cf (r_ref01_Nat e.2) ?_
  obtain ⟨x10,e,m⟩:=Bo1 e m
  simp[e]
  refine Cf (r_ref01_Nat e.2) ?_
  obtain ⟨x11,e,m⟩:=Bo1 e m
  simp[e]
  refine Cf (r_ref01_Two e.2) ?_
  cases m;simp[e]
 obtain ⟨x12,e,m⟩:=Bo1 e m
 simp[e]
 refine Cf (r_ref01_Nat e.2) ?_
 obtain ⟨x13,e,m⟩:=Bo1 e m
 simp[e]
 refine Cf (r_ref01_List e.2) ?_
 obtain ⟨x14,e,m⟩:=Bo1 e m
 simp[e]
 refine Cf (r_ref01_Two e.2) ?_
 cases m;simp[e]


theorem rg_mk_Value (T : Tabs) : ∀ (n : Nat), (∀ {H : Heap} {a0 : Smk_Deck} {a1 : Ty} {r0 : Vl} {do0 : Smk_Deck} {o0 : Nat} (ho0 : H[o0]? = some [sL sI a0.l, sI a0.atF]) (hm : mk_Value n a0 a1 = some (r0, do0)), ACall Tryz.prog T 7 [AV.gptr o0 0, Ty.av a1] H (Vl.av r0) (hset H o0 [sL sI do0.l, sI do0.atF])) := by
  intro n
  induction n with
  | zero =>
    skip
    all_goals (intro _ _;intros;rename_i hm;cases hm)
  | succ n ih =>
 intro H a0 a1 r0 do0 o0 ho0 hm
 rw [mk_Value] at hm
 have lo0:=inb_of_get ho0
 refine ACallP.at1 ho0 ?_
 have e:=lo0
 refine wi mixed Tryz.func7 [] [] 999 ?_
 rcases Io e hm with ⟨e,m⟩|⟨e,m⟩
 ·obtain ⟨x1,d2,e,m⟩:=Bo2 e m
  simp[e]
  refine Cf (r_mk_Deck_Next T (by simp[e]) e.2) ?_
  cases m;simp[e]
 rcases Io e m with ⟨e,m⟩|⟨e,m⟩
 rotate_left
 ·rcases Io e m with ⟨e,m⟩|⟨e,m⟩
  rotate_left
  ·cases m;simp[e]
  obtain ⟨x3,e,m⟩:=Bo1 e m
  obtain ⟨x4,d5,e,m⟩:=Bo2 e m
  simp[e]
  refine Cs (ih (by simp[e]) e.2) ?_
  obtain ⟨x6,e,m⟩:=Bo1 e m
  obtain ⟨x7,d8,e,m⟩:=Bo2 e m
  simp[e]
  refine Cs (ih (by simp[e]) e.2) ?_
  have e:=Aj e (show AV.agg [sI 3,sI 0,AV.slice .frz [],AV.slice .frz [Vl.av x4,Vl.av x7]]=Vl.av (Vl.mk 3 0 [] [x4,x7]) by rw[Vl.av_mk];rfl)
  cases m;simp[e]
 obtain ⟨x9,d10,e,m⟩:=Bo2 e m
 simp[e]
 refine Cf (r_mk_Deck_Next T (by simp[e]) e.2) ?_
 simp[e]
 refine Wn m 999 (fun s11 f h=>∃ (tg0_12:Tag),(h=hset H o0 [sL sI s11.2.2.l,sI s11.2.2.atF]∧f.1 0=AV.gptr o0 0∧f.1 4=AV.lptr 4 (f.gen 4) 0∧f.1 5=AV.lptr 5 (f.gen 5) 0∧f.1 6=sI s11.1∧f.box 4=some [sI 0,sI 0,AV.slice .full [],AV.slice .full []]∧f.box 5=some [sI 2,sI 0,sT tg0_12 sI s11.2.1,AV.slice .full []])∧Ow f [28] tg0_12 s11.2.1) (by exact ⟨.full,by simp[e],OwnT.full⟩) (fun s11 fr12 h12 K13 n14 c15 E m z16 hK17=>?_)
 obtain ⟨v18,v19,v20⟩:=s11
 obtain ⟨tg0_12,E,o0_12⟩:=E
 have e:=Aj e E
 dsimp only[un3_mk]at m
 rcases Io e m with ⟨e,m⟩|⟨e,m⟩
 rotate_left
 ·cases m
  have m:=Qb z16
  dsimp only[un3_mk]at m
  cases m;simp[e]
 obtain ⟨x21,d22,e,m⟩:=Bo2 e m
 simp[e]
 refine Cs (r_mk_Deck_Next T (by simp[e]) e.2) ?_
 obtain ⟨e,m⟩:=Ck e m
 simp[e]
 refine Ad (f:=sI) v19 [x21] o0_12 ap22 e.2 ?_
 simp[e]
 cases m;exact hK17 _ _ _ ⟨(.loc 28 (fr12.tgen 28 + 1)),by simp[e],(On 28)⟩ z16
theorem r_mk_Value (T : Tabs) {H : Heap} {a0 : Smk_Deck} {a1 : Ty} {r0 : Vl} {do0 : Smk_Deck} {o0 : Nat} (ho0 : H[o0]? = some [sL sI a0.l, sI a0.atF]) {n : Nat} (hm : mk_Value n a0 a1 = some (r0, do0)) : ACall Tryz.prog T 7 [AV.gptr o0 0, Ty.av a1] H (Vl.av r0) (hset H o0 [sL sI do0.l, sI do0.atF]) := (rg_mk_Value T n) ho0 hm

theorem r_ref05_Ints : C2 Tryz.prog 21 ref05_Ints sB (sL sI) (sL sI) := by
 intro T H a0 a1 r hm
 rw [ref05_Ints] at hm
 have e:=trivial
 refine wi mixed Tryz.func21 [] [] 999 ?_
 rcases Io e hm with ⟨e,m⟩|⟨e,m⟩
 ·cases m;simp[e]
 simp[e]
 refine Wr e m 999 (fun j1 s2 f h=>h=H∧f.1 0=sL sI a0∧f.1 1=sL sI a1∧f.1 12=sI (llen a0)∧f.1 13=sI j1) (by simp[e]) (fun s2 fr3 h3 K4 E m=>?_) (fun j1 x5 s2 fr3 h3 K4 n6 c7 E e m z8 hK9=>?_)
 ·have e:=Aj e E
  dsimp only[sumK_inl]at m
  cases m;simp[e]
 have e:=Aj e E
 obtain ⟨x10,e,m⟩:=Bo1 e m
 rcases Io e m with ⟨e,m⟩|⟨e,m⟩
 ·cases m;cases z8;simp[e]
 simp[e]
 cases m;exact hK9 _ _ _ (by simp[e]) z8


theorem rg_ref05_Same : ∀ (n : Nat), C2 Tryz.prog 10 (ref05_Same n) sB Vl.av Vl.av := by
  intro n
  induction n with
  | zero =>
    skip
    all_goals (intro _ _;intros;rename_i hm;cases hm)
  | succ n ih =>
 intro T H a0 a1 r hm
 rw [ref05_Same] at hm
 have e:=trivial
 refine wi mixed Tryz.func10 [] [] 3 ?_
 simp[e]
 refine Wj hm 999 999 (fun j1 f h=>∃ (v2:Bool),(h=H∧f.1 2=AV.lptr 2 (f.gen 2) 0∧f.1 3=AV.lptr 3 (f.gen 3) 0∧f.1 34=sB v2∧f.box 2=some (Vl.av a0).cells∧f.box 3=some (Vl.av a1).cells)∧j1 v2=some r) (fun j1 K3 hk4 m=>?_) ?_
 ·rcases Io e m with ⟨e,m⟩|⟨e,m⟩
  ·simp[e]
   exact hk4 _ _ ⟨true,by simp[e],m⟩
  rcases Io e m with ⟨e,m⟩|⟨e,m⟩
  ·simp[e]
   exact hk4 _ _ ⟨true,by simp[e],m⟩
  obtain ⟨x5,e,m⟩:=Bo1 e m
  simp[e]
  refine Cf (r_ref05_Ints e.2) ?_
  rcases Io e m with ⟨e,m⟩|⟨e,m⟩
  rotate_left
  ·simp[e]
   exact hk4 _ _ ⟨true,by simp[e],m⟩
  simp[e]
  exact hk4 _ _ ⟨(ine (llen a0.args) (llen a1.args)),by simp[e],m⟩
 rintro fr6 h6 ⟨v2,E,m⟩
 have e:=Aj e E
 rcases Io e m with ⟨e,m⟩|⟨e,m⟩
 ·cases m;simp[e]
 simp[e]
 refine Wr e m 999 (fun j7 s8 f h=>h=H∧f.1 2=AV.lptr 2 (f.gen 2) 0∧f.1 3=AV.lptr 3 (f.gen 3) 0∧f.1 37=sI (llen a0.args)∧f.1 38=sI j7∧f.box 2=some (Vl.av a0).cells∧f.box 3=some (Vl.av a1).cells) (by simp[e]) (fun s8 fr9 h9 K10 E m=>?_) (fun j7 x11 s8 fr9 h9 K10 n12 c13 E e m z14 hK15=>?_)
 ·have e:=Aj e E
  dsimp only[sumK_inl]at m
  cases m;simp[e]
 have e:=Aj e E
 obtain ⟨x16,e,m⟩:=Bo1 e m
 obtain ⟨x17,e,m⟩:=Bo1 e m
 simp[e]
 refine Cs (ih e.2) ?_
 rcases Io e m with ⟨e,m⟩|⟨e,m⟩
 rotate_left
 ·cases m;cases z14;simp[e]
 simp[e]
 cases m;exact hK15 _ _ _ (by simp[e]) z14
theorem r_ref05_Same {n : Nat} : C2 Tryz.prog 10 (ref05_Same n) sB Vl.av Vl.av := (rg_ref05_Same n)


theorem r_law44_ReportTexts (T : Tabs) {a0 : (List Int)} {r0 : Bool} (hm : law44_ReportTexts a0 = some r0) : ACallP Tryz.prog T 3 [sL sI a0] [] (fun x _ => x = sB r0) := by
 rw [law44_ReportTexts] at hm
 have e:=trivial
 refine wi mixed Tryz.func3 [] [] 3 ?_
 simp[e]
 refine Wj hm 999 0 (fun j1 f h=>∃ (v2:Bool),(h=([]:Heap)∧f.1 0=sL sI a0∧f.1 16=sB v2)∧j1 v2=some r0) (fun j1 K3 hk4 m=>?_) ?_
 ·obtain ⟨x5,e,m⟩:=Bo1 e m
  simp[e]
  refine Cf (r_law44_awake e.2) ?_
  rcases Io e m with ⟨e,m⟩|⟨e,m⟩
  rotate_left
  ·simp[e]
   exact hk4 _ _ ⟨true,by simp[e],m⟩
  obtain ⟨x6,e,m⟩:=Bo1 e m
  simp[e]
  refine Cf (r_mk_Few e.2) ?_
  simp[e]
  exact hk4 _ _ ⟨(bnot x6),by simp[e],m⟩
 rintro fr7 h7 ⟨v2,E,m⟩
 have e:=Aj e E
 rcases Io e m with ⟨e,m⟩|⟨e,m⟩
 ·apply wg 999
  obtain ⟨x8,e,m⟩:=Bo1 e m
  simp[e]
  refine Cf (r_law44_awake e.2) ?_
  cases m;simp[e]
 apply wg 10
 obtain ⟨x9,e,m⟩:=Bo1 e m
 simp[e]
 refine Cf (r_mk_New T e.2) ?_
 obtain ⟨x10,d11,e,m⟩:=Bo2 e m
 simp[e]
 refine Cf (r_mk_Plain T (by simp[e]) e.2) ?_
 obtain ⟨x12,d13,e,m⟩:=Bo2 e m
 simp[e]
 refine Cf (r_mk_Value T (by simp[e]) e.2) ?_
 obtain ⟨x14,d15,e,m⟩:=Bo2 e m
 simp[e]
 refine Cf (r_mk_Plain T (by simp[e]) e.2) ?_
 obtain ⟨x16,d17,e,m⟩:=Bo2 e m
 simp[e]
 refine Cf (r_mk_Value T (by simp[e]) e.2) ?_
 obtain ⟨x18,x19,e,m⟩:=Bo2 e m
 simp[e]
 refine Cf (r_report_Value e.2) ?_
 obtain ⟨x20,x21,e,m⟩:=Bo2 e m
 simp[e]
 refine Cf (r_report_Value e.2) ?_
 simp[e]
 refine Wj m 999 999 (fun j22 f h=>∃ (v23:Bool),(h=hset [[]] 0 [sL sI d17.l,sI d17.atF]∧f.1 2=sB v23)∧j22 v23=some r0) (fun j22 K24 hk25 m=>?_) ?_
 rotate_left
 ·rintro fr26 h26 ⟨v23,E,m⟩
  have e:=Aj e E
  cases m;simp[e]
 rcases Io e m with ⟨e,m⟩|⟨e,m⟩
 rotate_left
 ·simp[e]
  exact hk25 _ _ ⟨false,by simp[e],m⟩
 rcases Io e m with ⟨e,m⟩|⟨e,m⟩
 rotate_left
 ·simp[e]
  exact hk25 _ _ ⟨false,by simp[e],m⟩
 obtain ⟨x27,e,m⟩:=Bo1 e m
 simp[e]
 refine Cf (r_ref05_Same e.2) ?_
 simp[e]
 exact hk25 _ _ ⟨(beqB (seq x18 x20) x27),by simp[e],m⟩


theorem rg_tree_typeNodes : ∀ (n : Nat), C1 Tryz.prog 114 (tree_typeNodes n) (t2 sI sB) Ty.av := by
  intro n
  induction n with
  | zero =>
    skip
    all_goals (intro _ _;intros;rename_i hm;cases hm)
  | succ n ih =>
 intro T H a0 r hm
 rw [tree_typeNodes] at hm
 have e:=trivial
 refine wi mixed Tryz.func114 [] [] 4 ?_
 simp[e]
 refine Wj hm 3 999 (fun j1 f h=>∃ (v2:Int),(h=H∧f.1 1=AV.lptr 1 (f.gen 1) 0∧f.1 4=sI v2∧f.box 1=some (Ty.av a0).cells)∧j1 v2=some r) (fun j1 K3 hk4 m=>?_) ?_
 rotate_left
 ·rintro fr5 h5 ⟨v2,E,m⟩
  have e:=Aj e E
  rcases Io e m with ⟨e,m⟩|⟨e,m⟩
  ·cases m;simp[e]
  simp[e]
  refine Wr e m 999 (fun j6 s7 f h=>h=H∧f.1 5=sI s7∧f.1 25=sL Ty.av a0.args∧f.1 26=sI (llen a0.args)∧f.1 27=sI j6) (by simp[e]) (fun s7 fr8 h8 K9 E m=>?_) (fun j6 x10 s7 fr8 h8 K9 n11 c12 E e m z13 hK14=>?_)
  ·have e:=Aj e E
   dsimp only[sumK_inl]at m
   cases m;simp[e]
  have e:=Aj e E
  obtain ⟨x15,x16,e,m⟩:=Bo2 e m
  simp[e]
  refine Cf (ih e.2) ?_
  rcases Io e m with ⟨e,m⟩|⟨e,m⟩
  rotate_left
  ·cases m;cases z13;simp[e]
  simp[e]
  cases m;exact hK14 _ _ _ (by simp[e]) z13
 simp[e]
 refine wj 999 0 (fun f h=>h=H∧f.1 1=AV.lptr 1 (f.gen 1) 0∧f.1 4=sI 0∧f.1 11=sI a0.kind∧f.1 12=sB (sel (ieq a0.kind 1) true (sel (ieq a0.kind 2) true (ieq a0.kind 5)))∧f.box 1=some (Ty.av a0).cells) (fun K17 hk18=>?_) ?_
 ·rcases Pb (ieq a0.kind 1) e with e|e
  ·simp[e]
   exact hk18 _ _ (by simp[e])
  rcases Pb (ieq a0.kind 2) e with e|e
  ·simp[e]
   exact hk18 _ _ (by simp[e])
  simp[e]
  exact hk18 _ _ (by simp[e])
 rintro fr19 h19 E
 have e:=Aj e E
 rcases Io e m with ⟨e,m⟩|⟨e,m⟩
 ·apply wg 999
  simp[e]
  exact hk4 _ _ ⟨0,by simp[e],m⟩
 apply wg 1
 simp[e]
 refine wj 999 999 (fun f h=>h=H∧f.1 1=AV.lptr 1 (f.gen 1) 0∧f.1 16=sB (sel (ieq a0.kind 3) true (ieq a0.kind 4))∧f.box 1=some (Ty.av a0).cells) (fun K20 hk21=>?_) ?_
 ·rcases Pb (ieq a0.kind 3) e with e|e
  ·simp[e]
   exact hk21 _ _ (by simp[e])
  simp[e]
  exact hk21 _ _ (by simp[e])
 rintro fr22 h22 E
 have e:=Aj e E
 rcases Io e m with ⟨e,m⟩|⟨e,m⟩
 rotate_left
 ·cases m;simp[e]
 simp[e]
 exact hk4 _ _ ⟨2,by simp[e],m⟩
theorem r_tree_typeNodes {n : Nat} : C1 Tryz.prog 114 (tree_typeNodes n) (t2 sI sB) Ty.av := (rg_tree_typeNodes n)

theorem r_tree_CheckType : C1 Tryz.prog 80 tree_CheckType (t2 sI sI) Ty.av := by
 intro T H a0 r hm
 rw [tree_CheckType] at hm
 have e:=trivial
 refine wi mixed Tryz.func80 [] [] 999 ?_
 obtain ⟨x1,x2,e,m⟩:=Bo2 e hm
 simp[e]
 refine Cf (r_tree_typeNodes e.2) ?_
 rcases Io e m with ⟨e,m⟩|⟨e,m⟩
 rotate_left
 ·cases m;simp[e]
 rcases Io e m with ⟨e,m⟩|⟨e,m⟩
 ·cases m;simp[e]
 cases m;simp[e]

theorem r_tree_NoType : C1 Tryz.prog 81 tree_NoType sB Ty.av := by
 intro T H a0 r hm
 rw [tree_NoType] at hm
 have e:=trivial
 refine wi mixed Tryz.func81 [] [] 2 ?_
 simp[e]
 refine wj 999 999 (fun f h=>h=H∧f.1 2=sB (sel (ieq a0.kind 0) (ieq (llen a0.args) 0) false)) (fun K1 hk2=>?_) ?_
 rotate_left
 ·rintro fr3 h3 E
  have e:=Aj e E
  cases hm;simp[e]
 rcases Pb (ieq a0.kind 0) e with e|e
 ·simp[e]
  exact hk2 _ _ (by simp[e])
 simp[e]
 exact hk2 _ _ (by simp[e])

theorem r_tree_formed : C1 Tryz.prog 152 tree_formed sB Fm.av := by
 intro T H a0 r hm
 rw [tree_formed] at hm
 have e:=trivial
 refine wi mixed Tryz.func152 [] [] 4 ?_
 simp[e]
 refine Wj hm 5 0 (fun j1 f h=>∃ (v2:Int) (v3:Int) (v4:Bool),(h=H∧f.1 1=AV.lptr 1 (f.gen 1) 0∧f.1 3=sI v2∧f.1 4=sI v3∧f.1 5=sB v4∧f.box 1=some (Fm.av a0).cells)∧j1 v2 v3 v4=some r) (fun j1 K5 hk6 m=>?_) ?_
 rotate_left
 ·rintro fr7 h7 ⟨v2,v3,v4,E,m⟩
  have e:=Aj e E
  refine Wj m 999 0 (fun j8 f h=>(h=H∧f.1 1=AV.lptr 1 (f.gen 1) 0∧f.1 3=sI v2∧f.1 4=sI v3∧f.box 1=some (Fm.av a0).cells)∧j8=some r) (fun j8 K9 hk10 m=>?_) ?_
  rotate_left
  ·rintro fr11 h11 ⟨E,m⟩
   have e:=Aj e E
   refine wj 999 999 (fun f h=>h=H∧f.1 2=sB (sel (ieq (llen a0.terms) v2) (ieq (llen a0.args) v3) false)) (fun K12 hk13=>?_) ?_
   rotate_left
   ·rintro fr14 h14 E
    have e:=Aj e E
    cases m;simp[e]
   rcases Pb (ieq (llen a0.terms) v2) e with e|e
   ·simp[e]
    exact hk13 _ _ (by simp[e])
   simp[e]
   exact hk13 _ _ (by simp[e])
  rcases Io e m with ⟨e,m⟩|⟨e,m⟩
  ·obtain ⟨x15,x16,e,m⟩:=Bo2 e m
   simp[e]
   refine Cf (r_tree_CheckType e.2) ?_
   rcases Io e m with ⟨e,m⟩|⟨e,m⟩
   ·cases m;simp[e]
   simp[e]
   exact hk10 _ _ ⟨by simp[e],m⟩
  obtain ⟨x17,e,m⟩:=Bo1 e m
  simp[e]
  refine Cf (r_tree_NoType e.2) ?_
  rcases Io e m with ⟨e,m⟩|⟨e,m⟩
  rotate_left
  ·cases m;simp[e]
  simp[e]
  exact hk10 _ _ ⟨by simp[e],m⟩
 simp[e]
 rcases Io e m with ⟨e,m⟩|⟨e,m⟩
 ·apply wg 999
  simp[e]
  exact hk6 _ _ ⟨2,0,false,by simp[e],m⟩
 apply wg 1
 simp[e]
 refine wj 999 0 (fun f h=>h=H∧f.1 1=AV.lptr 1 (f.gen 1) 0∧f.1 3=sI 0∧f.1 5=sB false∧f.1 9=sI a0.kind∧f.1 12=sB (sel (ieq a0.kind 2) true (ieq a0.kind 3))∧f.box 1=some (Fm.av a0).cells) (fun K18 hk19=>?_) ?_
 ·rcases Pb (ieq a0.kind 2) e with e|e
  ·simp[e]
   exact hk19 _ _ (by simp[e])
  simp[e]
  exact hk19 _ _ (by simp[e])
 rintro fr20 h20 E
 have e:=Aj e E
 rcases Io e m with ⟨e,m⟩|⟨e,m⟩
 ·apply wg 999
  simp[e]
  exact hk6 _ _ ⟨0,2,false,by simp[e],m⟩
 apply wg 1
 simp[e]
 refine wj 999 999 (fun f h=>h=H∧f.1 1=AV.lptr 1 (f.gen 1) 0∧f.1 3=sI 0∧f.1 15=sB (sel (ieq a0.kind 4) true (sel (ieq a0.kind 5) true (sel (ieq a0.kind 6) true (ieq a0.kind 7))))∧f.box 1=some (Fm.av a0).cells) (fun K21 hk22=>?_) ?_
 rotate_left
 ·rintro fr23 h23 E
  have e:=Aj e E
  rcases Io e m with ⟨e,m⟩|⟨e,m⟩
  rotate_left
  ·cases m;simp[e]
  simp[e]
  exact hk6 _ _ ⟨0,1,true,by simp[e],m⟩
 rcases Pb (ieq a0.kind 4) e with e|e
 ·simp[e]
  exact hk22 _ _ (by simp[e])
 rcases Pb (ieq a0.kind 5) e with e|e
 ·simp[e]
  exact hk22 _ _ (by simp[e])
 rcases Pb (ieq a0.kind 6) e with e|e
 ·simp[e]
  exact hk22 _ _ (by simp[e])
 simp[e]
 exact hk22 _ _ (by simp[e])

theorem r_tree_Typed : C1 Tryz.prog 79 tree_Typed sB sI := by
 intro T H a0 r hm
 rw [tree_Typed] at hm
 have e:=trivial
 refine wi mixed Tryz.func79 [] [] 2 ?_
 simp[e]
 refine wj 999 999 (fun f h=>h=H∧f.1 2=sB (sel (ieq a0 2) true (sel (ieq a0 6) true (ieq a0 9)))) (fun K1 hk2=>?_) ?_
 rotate_left
 ·rintro fr3 h3 E
  have e:=Aj e E
  cases hm;simp[e]
 rcases Pb (ieq a0 2) e with e|e
 ·simp[e]
  exact hk2 _ _ (by simp[e])
 rcases Pb (ieq a0 6) e with e|e
 ·simp[e]
  exact hk2 _ _ (by simp[e])
 simp[e]
 exact hk2 _ _ (by simp[e])

theorem r_class_joint : C1 Tryz.prog 109 class_joint (t2 sI sI) sB := by
 intro T H a0 r hm
 rw [class_joint] at hm
 have e:=trivial
 refine wi mixed Tryz.func109 [] [] 999 ?_
 rcases Io e hm with ⟨e,m⟩|⟨e,m⟩
 ·cases m;simp[e]
 cases m;simp[e]


theorem r_tree_Count_1 (T : Tabs) {H : Heap} {a0 : Int} {a1 : Int} {cv0 : Int} {cv1 : Int} {dq1 : Int} {q0 : Nat} {q1 : Nat} (kq0 : H[q0]? = some [sI cv0]) (kq1 : H[q1]? = some [sI cv1]) (hn0 : q0 ≠ q1) (hm : tree_Count_1 a0 a1 cv0 cv1 = some dq1) : ACall Tryz.prog T 154 [sI a0, sI a1, AV.gptr q0 0, AV.gptr q1 0] H (AV.tuple []) (hset H q1 [sI dq1]) := by
 rw [tree_Count_1] at hm
 have lq0:=inb_of_get kq0
 have lq1:=inb_of_get kq1
 refine ACallP.at1 kq1 ?_
 have e:=Aj (Aj (Aj (Aj lq0 kq0) lq1) hn0) hn0.symm
 refine wi mixed Tryz.func154 [] [] 999 ?_
 rcases Io e hm with ⟨e,m⟩|⟨e,m⟩
 ·cases m;simp[e]
 cases m;simp[e]

end Go.Proofs.YtgcimcppginchaaGreatDoor
