/- The program's functions do what the models say. -/
import Derived.Test.YtanjokijgbgcpaaGreatDoorTW09
import Derived.Test.YtanjokijgbgcpaaGreatDoorTM
set_option maxRecDepth 20000
set_option maxHeartbeats 4000000
set_option linter.unusedSimpArgs false
set_option linter.unusedVariables false
namespace Go.Proofs.YtanjokijgbgcpaaGreatDoor
open Go Go.Abs Go.Mdl


theorem rg_ref03_Times : ∀ (n : Nat), C2 Tryz.prog 90 (ref03_Times n) sI Tm.av sI := by
  intro n
  induction n with
  | zero =>
    skip
    all_goals (intro _ _;intros;rename_i hm;cases hm)
  | succ n ih =>
 intro T H a0 a1 r hm
 rw [ref03_Times] at hm
 have e:=trivial
 refine wi mixed Tryz.func90 [] [] 4 ?_
 simp[e]
 refine wj 0 999 (fun f h=>h=H∧f.1 1=sI a1∧f.1 2=AV.lptr 2 (f.gen 2) 0∧f.1 5=sI (sel (sel (ieq a0.kind 1) (ieq a0.index a1) false) (iadd .i64 0 1) 0)∧f.box 2=some (Tm.av a0).cells) (fun K1 hk2=>?_) ?_
 ·refine wj 999 999 (fun f h=>h=H∧f.1 1=sI a1∧f.1 2=AV.lptr 2 (f.gen 2) 0∧f.1 5=sI 0∧f.1 16=sB (sel (ieq a0.kind 1) (ieq a0.index a1) false)∧f.box 2=some (Tm.av a0).cells) (fun K3 hk4=>?_) ?_
  ·rcases Pb (ieq a0.kind 1) e with e|e
   ·simp[e]
    exact hk4 _ _ (by simp[e])
   simp[e]
   exact hk4 _ _ (by simp[e])
  rintro fr5 h5 E
  have e:=Aj e E
  rcases Pb (sel (ieq a0.kind 1) (ieq a0.index a1) false) e with e|e
  ·simp[e]
   exact hk2 _ _ (by simp[e])
  simp[e]
  exact hk2 _ _ (by simp[e])
 rintro fr6 h6 E
 have e:=Aj e E
 simp[e]
 refine Wr e hm 999 (fun j7 s8 f h=>h=H∧f.1 1=sI a1∧f.1 2=AV.lptr 2 (f.gen 2) 0∧f.1 5=sI s8∧f.1 20=sL Tm.av a0.args∧f.1 21=sI (llen a0.args)∧f.1 22=sI j7∧f.box 2=some (Tm.av a0).cells) (by simp[e]) (fun s8 fr9 h9 K10 E m=>?_) (fun j7 x11 s8 fr9 h9 K10 n12 c13 E e m z14 hK15=>?_)
 ·have e:=Aj e E
  dsimp only[sumK_inl]at m
  cases m;simp[e]
 have e:=Aj e E
 obtain ⟨x16,e,m⟩:=Bo1 e m
 simp[e]
 refine Cs (r_ref03_below e.2) ?_
 obtain ⟨x17,e,m⟩:=Bo1 e m
 simp[e]
 refine Cs (ih e.2) ?_
 simp[e]
 cases m;exact hK15 _ _ _ (by simp[e]) z14
theorem r_ref03_Times {n : Nat} : C2 Tryz.prog 90 (ref03_Times n) sI Tm.av sI := (rg_ref03_Times n)


theorem rg_ref07_times : ∀ (n : Nat), C2 Tryz.prog 53 (ref07_times n) sI Fm.av sI := by
  intro n
  induction n with
  | zero =>
    skip
    all_goals (intro _ _;intros;rename_i hm;cases hm)
  | succ n ih =>
 intro T H a0 a1 r hm
 rw [ref07_times] at hm
 have e:=trivial
 refine wi mixed Tryz.func53 [] [] 999 ?_
 simp[e]
 refine Wr e hm 999 (fun j1 s2 f h=>h=H∧f.1 1=sI a1∧f.1 2=AV.lptr 2 (f.gen 2) 0∧f.1 5=sI s2∧f.1 11=sL Tm.av a0.terms∧f.1 12=sI (llen a0.terms)∧f.1 13=sI j1∧f.box 2=some (Fm.av a0).cells) (by simp[e]) (fun s2 fr3 h3 K4 E m=>?_) (fun j1 x5 s2 fr3 h3 K4 n6 c7 E e m z8 hK9=>?_)
 rotate_left
 ·have e:=Aj e E
  obtain ⟨x10,e,m⟩:=Bo1 e m
  simp[e]
  refine Cf (r_ref03_Times e.2) ?_
  simp[e]
  cases m;exact hK9 _ _ _ (by simp[e]) z8
 have e:=Aj e E
 dsimp only[sumK_inl]at m
 simp[e]
 refine Wr e m 999 (fun j11 s12 f h=>h=H∧f.1 1=sI a1∧f.1 2=AV.lptr 2 (f.gen 2) 0∧f.1 5=sI s12∧f.1 24=sL Fm.av a0.args∧f.1 25=sI (llen a0.args)∧f.1 26=sI j11∧f.box 2=some (Fm.av a0).cells) (by simp[e]) (fun s12 fr13 h13 K14 E m=>?_) (fun j11 x15 s12 fr13 h13 K14 n16 c17 E e m z18 hK19=>?_)
 ·have e:=Aj e E
  dsimp only[sumK_inl]at m
  cases m;simp[e]
 have e:=Aj e E
 obtain ⟨x20,e,m⟩:=Bo1 e m
 simp[e]
 refine Cs (r_ref07_below e.2) ?_
 obtain ⟨x21,e,m⟩:=Bo1 e m
 simp[e]
 refine Cs (ih e.2) ?_
 simp[e]
 cases m;exact hK19 _ _ _ (by simp[e]) z18
theorem r_ref07_times {n : Nat} : C2 Tryz.prog 53 (ref07_times n) sI Fm.av sI := (rg_ref07_times n)


theorem rg_ref03_In : ∀ (n : Nat), C4 Tryz.prog 92 (ref03_In n) Tm.av Tm.av sI sI Tm.av := by
  intro n
  induction n with
  | zero =>
    skip
    all_goals (intro _ _;intros;rename_i hm;cases hm)
  | succ n ih =>
 intro T H a0 a1 a2 a3 r hm
 rw [ref03_In] at hm
 have e:=trivial
 refine wi mixed Tryz.func92 [] [] 999 ?_
 rcases Io e hm with ⟨e,m⟩|⟨e,m⟩
 ·rcases Io e m with ⟨e,m⟩|⟨e,m⟩
  ·obtain ⟨x1,e,m⟩:=Bo1 e m
   simp[e]
   refine Cf (r_ref03_Up e.2) ?_
   cases m;simp[e]
  rcases Io e m with ⟨e,m⟩|⟨e,m⟩
  rotate_left
  ·cases m;simp[e]
  obtain ⟨x2,e,m⟩:=Bo1 e m
  simp[e]
  refine Cf (r_ref02_Var e.2) ?_
  cases m;simp[e]
 simp[e]
 refine Wr e m 999 (fun j3 s4 f h=>∃ (tg0_5:Tag),(h=H∧f.1 1=sI a1∧f.1 2=sI a2∧f.1 4=AV.lptr 4 (f.gen 4) 0∧f.1 7=AV.lptr 7 (f.gen 7) 0∧f.1 8=AV.lptr 8 (f.gen 8) 0∧f.1 9=AV.lptr 9 (f.gen 9) 0∧f.1 45=sL Tm.av a0.args∧f.1 46=sI (llen a0.args)∧f.1 47=sI j3∧f.box 4=some (Tm.av a0).cells∧f.box 7=some (Tm.av a3).cells∧f.box 8=some [sI 0,sI 0,sI 0,AV.slice .full [],AV.slice .full []]∧f.box 9=some [sI a0.kind,sI a0.index,sI a0.typeF.kind,sL Ty.av a0.typeF.args,sT tg0_5 Tm.av s4])∧Ow f [62] tg0_5 s4) (by exact ⟨.full,by simp[e],OwnT.full⟩) (fun s4 fr5 h5 K6 E m=>?_) (fun j3 x7 s4 fr5 h5 K6 n8 c9 E e m z10 hK11=>?_)
 ·obtain ⟨tg0_5,E,o0_5⟩:=E
  have e:=Aj e E
  dsimp only[sumK_inl]at m
  cases m;simp[e]
 obtain ⟨tg0_5,E,o0_5⟩:=E
 have e:=Aj e E
 obtain ⟨x12,e,m⟩:=Bo1 e m
 simp[e]
 refine Cs (r_ref03_below e.2) ?_
 obtain ⟨x13,e,m⟩:=Bo1 e m
 simp[e]
 refine Cs (ih e.2) ?_
 obtain ⟨e,m⟩:=Ck e m
 simp[e]
 refine Ad (f:=Tm.av) s4 [x13] o0_5 ap26 e.2 ?_
 simp[e]
 cases m;exact hK11 _ _ _ ⟨(.loc 62 (fr5.tgen 62 + 1)),by simp[e],(On 62)⟩ z10
theorem r_ref03_In {n : Nat} : C4 Tryz.prog 92 (ref03_In n) Tm.av Tm.av sI sI Tm.av := (rg_ref03_In n)


theorem rg_ref07_In : ∀ (n : Nat), C4 Tryz.prog 55 (ref07_In n) Fm.av Fm.av sI sI Tm.av := by
  intro n
  induction n with
  | zero =>
    skip
    all_goals (intro _ _;intros;rename_i hm;cases hm)
  | succ n ih =>
 intro T H a0 a1 a2 a3 r hm
 rw [ref07_In] at hm
 have e:=trivial
 refine wi mixed Tryz.func55 [] [] 999 ?_
 simp[e]
 refine Wr e hm 999 (fun j1 s2 f h=>∃ (tg0_3:Tag),(h=H∧f.1 1=sI a1∧f.1 2=sI a2∧f.1 4=AV.lptr 4 (f.gen 4) 0∧f.1 7=AV.lptr 7 (f.gen 7) 0∧f.1 8=AV.lptr 8 (f.gen 8) 0∧f.1 9=AV.lptr 9 (f.gen 9) 0∧f.1 20=sL Tm.av a0.terms∧f.1 21=sI (llen a0.terms)∧f.1 22=sI j1∧f.box 4=some (Fm.av a0).cells∧f.box 7=some (Tm.av a3).cells∧f.box 8=some [sI 0,sI 0,AV.slice .full [],AV.slice .full [],AV.slice .full []]∧f.box 9=some [sI a0.kind,sI a0.typeF.kind,sL Ty.av a0.typeF.args,sT tg0_3 Tm.av s2,AV.slice .full []])∧Ow f [34] tg0_3 s2) (by exact ⟨.full,by simp[e],OwnT.full⟩) (fun s2 fr3 h3 K4 E m=>?_) (fun j1 x5 s2 fr3 h3 K4 n6 c7 E e m z8 hK9=>?_)
 rotate_left
 ·obtain ⟨tg0_3,E,o0_3⟩:=E
  have e:=Aj e E
  obtain ⟨x10,e,m⟩:=Bo1 e m
  simp[e]
  refine Cs (r_ref03_In e.2) ?_
  obtain ⟨e,m⟩:=Ck e m
  simp[e]
  refine Ad (f:=Tm.av) s2 [x10] o0_3 ap26 e.2 ?_
  simp[e]
  cases m;exact hK9 _ _ _ ⟨(.loc 34 (fr3.tgen 34 + 1)),by simp[e],(On 34)⟩ z8
 obtain ⟨tg0_3,E,o0_3⟩:=E
 have e:=Aj e E
 dsimp only[sumK_inl]at m
 simp[e]
 refine Wr e m 999 (fun j11 s12 f h=>∃ (tg0_13:Tag) (tg1_13:Tag),(h=H∧f.1 1=sI a1∧f.1 2=sI a2∧f.1 4=AV.lptr 4 (f.gen 4) 0∧f.1 7=AV.lptr 7 (f.gen 7) 0∧f.1 8=AV.lptr 8 (f.gen 8) 0∧f.1 9=AV.lptr 9 (f.gen 9) 0∧f.1 38=sL Fm.av a0.args∧f.1 39=sI (llen a0.args)∧f.1 40=sI j11∧f.box 4=some (Fm.av a0).cells∧f.box 7=some (Tm.av a3).cells∧f.box 8=some [sI 0,sI 0,AV.slice .full [],AV.slice .full [],AV.slice .full []]∧f.box 9=some [sI a0.kind,sI a0.typeF.kind,sL Ty.av a0.typeF.args,sT tg0_13 Tm.av s2,sT tg1_13 Fm.av s12])∧Ow f [34] tg0_13 s2∧Ow f [55] tg1_13 s12) (by exact ⟨tg0_3,.full,by simp[e],o0_3,OwnT.full⟩) (fun s12 fr13 h13 K14 E m=>?_) (fun j11 x15 s12 fr13 h13 K14 n16 c17 E e m z18 hK19=>?_)
 ·obtain ⟨tg0_13,tg1_13,E,o0_13,o1_13⟩:=E
  have e:=Aj e E
  dsimp only[sumK_inl]at m
  cases m;simp[e]
 obtain ⟨tg0_13,tg1_13,E,o0_13,o1_13⟩:=E
 have e:=Aj e E
 obtain ⟨x20,e,m⟩:=Bo1 e m
 simp[e]
 refine Cs (r_ref07_below e.2) ?_
 obtain ⟨x21,e,m⟩:=Bo1 e m
 simp[e]
 refine Cs (ih e.2) ?_
 obtain ⟨e,m⟩:=Ck e m
 simp[e]
 refine Ad (f:=Fm.av) s12 [x21] o1_13 ap27 e.2 ?_
 simp[e]
 cases m;exact hK19 _ _ _ ⟨tg0_13,(.loc 55 (fr13.tgen 55 + 1)),by simp[e],(OwnT.other o0_13 o1_13 (by decide) (by decide)),(On 55)⟩ z18
theorem r_ref07_In {n : Nat} : C4 Tryz.prog 55 (ref07_In n) Fm.av Fm.av sI sI Tm.av := (rg_ref07_In n)

theorem r_ref07_Put : C3 Tryz.prog 17 ref07_Put (t2 Fm.av sI) Fm.av sI Tm.av := by
 intro T H a0 a1 a2 r hm
 rw [ref07_Put] at hm
 have e:=trivial
 refine wi mixed Tryz.func17 [] [] 7 ?_
 obtain ⟨x1,e,m⟩:=Bo1 e hm
 simp[e]
 refine Cf (r_ref07_Check e.2) ?_
 simp[e]
 rcases Io e m with ⟨e,m⟩|⟨e,m⟩
 ·apply wg 999
  cases m;simp[e]
 apply wg 3
 simp[e]
 refine wj 999 0 (fun f h=>h=H∧f.1 1=sI a1∧f.1 3=AV.lptr 3 (f.gen 3) 0∧f.1 5=AV.lptr 5 (f.gen 5) 0∧f.1 6=AV.lptr 6 (f.gen 6) 0∧f.1 21=sB (sel (ilt a1 0) true (igt a1 4096))∧f.box 3=some (Fm.av a0).cells∧f.box 5=some (Tm.av a2).cells∧f.box 6=some [sI 0,sI 0,AV.slice .full [],AV.slice .full [],AV.slice .full []]) (fun K2 hk3=>?_) ?_
 ·rcases Pb (ilt a1 0) e with e|e
  ·simp[e]
   exact hk3 _ _ (by simp[e])
  simp[e]
  exact hk3 _ _ (by simp[e])
 rintro fr4 h4 E
 have e:=Aj e E
 rcases Io e m with ⟨e,m⟩|⟨e,m⟩
 ·apply wg 999
  cases m;simp[e]
 apply wg 7
 obtain ⟨x5,e,m⟩:=Bo1 e m
 simp[e]
 refine Cf (r_ref02_Check e.2) ?_
 simp[e]
 rcases Io e m with ⟨e,m⟩|⟨e,m⟩
 ·apply wg 999
  cases m;simp[e]
 apply wg 3
 simp[e]
 refine Wj m 999 999 (fun j6 f h=>∃ (v7:Bool),(h=H∧f.1 1=sI a1∧f.1 3=AV.lptr 3 (f.gen 3) 0∧f.1 5=AV.lptr 5 (f.gen 5) 0∧f.1 6=AV.lptr 6 (f.gen 6) 0∧f.1 36=sB v7∧f.box 3=some (Fm.av a0).cells∧f.box 5=some (Tm.av a2).cells∧f.box 6=some [sI 0,sI 0,AV.slice .full [],AV.slice .full [],AV.slice .full []])∧j6 v7=some r) (fun j6 K8 hk9 m=>?_) ?_
 ·obtain ⟨x10,e,m⟩:=Bo1 e m
  simp[e]
  refine Cf (r_ref07_Least e.2) ?_
  rcases Io e m with ⟨e,m⟩|⟨e,m⟩
  rotate_left
  ·simp[e]
   exact hk9 _ _ ⟨true,by simp[e],m⟩
  obtain ⟨x11,e,m⟩:=Bo1 e m
  simp[e]
  refine Cf (r_ref03_Least e.2) ?_
  simp[e]
  exact hk9 _ _ ⟨(bnot x11),by simp[e],m⟩
 rintro fr12 h12 ⟨v7,E,m⟩
 have e:=Aj e E
 rcases Io e m with ⟨e,m⟩|⟨e,m⟩
 ·cases m;simp[e]
 obtain ⟨x13,e,m⟩:=Bo1 e m
 simp[e]
 refine Cs (r_ref07_Count e.2) ?_
 obtain ⟨x14,e,m⟩:=Bo1 e m
 simp[e]
 refine Cs (r_ref07_times e.2) ?_
 obtain ⟨x15,e,m⟩:=Bo1 e m
 simp[e]
 refine Cs (r_ref02_Count e.2) ?_
 rcases Io e m with ⟨e,m⟩|⟨e,m⟩
 ·cases m;simp[e]
 obtain ⟨x16,e,m⟩:=Bo1 e m
 simp[e]
 refine Cf (r_ref07_In e.2) ?_
 obtain ⟨x17,e,m⟩:=Bo1 e m
 simp[e]
 refine Cf (r_ref07_Copy e.2) ?_
 cases m;simp[e]


theorem rg_ref03_Mark (T : Tabs) : ∀ (n : Nat), (∀ {H : Heap} {a0 : Tm} {a1 : Int} {a2 : (List (Int × Bool))} {do2 : (List (Int × Bool))} {o2 : Nat} (ho2 : H[o2]? = some [mapC sB a2]) (hm : ref03_Mark n a0 a1 a2 = some do2), ACall Tryz.prog T 93 [Tm.av a0, sI a1, AV.mptr o2] H (AV.tuple []) (hset H o2 [mapC sB do2])) := by
  intro n
  induction n with
  | zero =>
    skip
    all_goals (intro _ _;intros;rename_i hm;cases hm)
  | succ n ih =>
 intro H a0 a1 a2 do2 o2 ho2 hm
 rw [ref03_Mark] at hm
 have lo2:=inb_of_get ho2
 refine ACallP.at1 ho2 ?_
 have e:=lo2
 refine wi mixed Tryz.func93 [] [] 2 ?_
 simp[e]
 refine Wj hm 0 999 (fun j1 f h=>∃ (v2:(List (Int × Bool))),(h=hset H o2 [mapC sB v2]∧f.1 1=sI a1∧f.1 2=AV.mptr o2∧f.1 3=AV.lptr 3 (f.gen 3) 0∧f.box 3=some (Tm.av a0).cells)∧j1 v2=some do2) (fun j1 K3 hk4 m=>?_) ?_
 ·refine wj 999 999 (fun f h=>h=hset H o2 [mapC sB a2]∧f.1 1=sI a1∧f.1 2=AV.mptr o2∧f.1 3=AV.lptr 3 (f.gen 3) 0∧f.1 16=sB (sel (ieq a0.kind 1) (ige a0.index a1) false)∧f.box 3=some (Tm.av a0).cells) (fun K5 hk6=>?_) ?_
  ·rcases Pb (ieq a0.kind 1) e with e|e
   ·simp[e]
    exact hk6 _ _ (by simp[e])
   simp[e]
   exact hk6 _ _ (by simp[e])
  rintro fr7 h7 E
  have e:=Aj e E
  rcases Io e m with ⟨e,m⟩|⟨e,m⟩
  rotate_left
  ·simp[e]
   exact hk4 _ _ ⟨a2,by simp[e],m⟩
  simp[e]
  refine MapU.i64 (f:=sB) a2 true und80 und3 (by simp[e]) (by simp[e]) ?_
  simp[e]
  exact hk4 _ _ ⟨(mput a2 (isub .i64 a0.index a1) true),by simp[e],m⟩
 rintro fr8 h8 ⟨v2,E,m⟩
 have e:=Aj e E
 simp[e]
 refine Wr e m 999 (fun j9 s10 f h=>h=hset H o2 [mapC sB s10]∧f.1 1=sI a1∧f.1 2=AV.mptr o2∧f.1 3=AV.lptr 3 (f.gen 3) 0∧f.1 23=sL Tm.av a0.args∧f.1 24=sI (llen a0.args)∧f.1 25=sI j9∧f.box 3=some (Tm.av a0).cells) (by simp[e]) (fun s10 fr11 h11 K12 E m=>?_) (fun j9 x13 s10 fr11 h11 K12 n14 c15 E e m z16 hK17=>?_)
 ·have e:=Aj e E
  dsimp only[sumK_inl]at m
  cases m;simp[e]
 have e:=Aj e E
 obtain ⟨x18,e,m⟩:=Bo1 e m
 simp[e]
 refine Cs (r_ref03_below e.2) ?_
 obtain ⟨d19,e,m⟩:=Bo1 e m
 simp[e]
 refine Cs (ih (by simp[e]) e.2) ?_
 simp[e]
 cases m;exact hK17 _ _ _ (by simp[e]) z16
theorem r_ref03_Mark (T : Tabs) {H : Heap} {a0 : Tm} {a1 : Int} {a2 : (List (Int × Bool))} {do2 : (List (Int × Bool))} {o2 : Nat} (ho2 : H[o2]? = some [mapC sB a2]) {n : Nat} (hm : ref03_Mark n a0 a1 a2 = some do2) : ACall Tryz.prog T 93 [Tm.av a0, sI a1, AV.mptr o2] H (AV.tuple []) (hset H o2 [mapC sB do2]) := (rg_ref03_Mark T n) ho2 hm


theorem rg_ref07_Mark (T : Tabs) : ∀ (n : Nat), (∀ {H : Heap} {a0 : Fm} {a1 : Int} {a2 : (List (Int × Bool))} {do2 : (List (Int × Bool))} {o2 : Nat} (ho2 : H[o2]? = some [mapC sB a2]) (hm : ref07_Mark n a0 a1 a2 = some do2), ACall Tryz.prog T 56 [Fm.av a0, sI a1, AV.mptr o2] H (AV.tuple []) (hset H o2 [mapC sB do2])) := by
  intro n
  induction n with
  | zero =>
    skip
    all_goals (intro _ _;intros;rename_i hm;cases hm)
  | succ n ih =>
 intro H a0 a1 a2 do2 o2 ho2 hm
 rw [ref07_Mark] at hm
 have lo2:=inb_of_get ho2
 refine ACallP.at1 ho2 ?_
 have e:=lo2
 refine wi mixed Tryz.func56 [] [] 999 ?_
 simp[e]
 refine Wr e hm 999 (fun j1 s2 f h=>h=hset H o2 [mapC sB s2]∧f.1 1=sI a1∧f.1 2=AV.mptr o2∧f.1 3=AV.lptr 3 (f.gen 3) 0∧f.1 11=sL Tm.av a0.terms∧f.1 12=sI (llen a0.terms)∧f.1 13=sI j1∧f.box 3=some (Fm.av a0).cells) (by simp[e]) (fun s2 fr3 h3 K4 E m=>?_) (fun j1 x5 s2 fr3 h3 K4 n6 c7 E e m z8 hK9=>?_)
 rotate_left
 ·have e:=Aj e E
  obtain ⟨d10,e,m⟩:=Bo1 e m
  simp[e]
  refine Cf (r_ref03_Mark T (by simp[e]) e.2) ?_
  simp[e]
  cases m;exact hK9 _ _ _ (by simp[e]) z8
 have e:=Aj e E
 dsimp only[sumK_inl]at m
 simp[e]
 refine Wr e m 999 (fun j11 s12 f h=>h=hset H o2 [mapC sB s12]∧f.1 1=sI a1∧f.1 2=AV.mptr o2∧f.1 3=AV.lptr 3 (f.gen 3) 0∧f.1 23=sL Fm.av a0.args∧f.1 24=sI (llen a0.args)∧f.1 25=sI j11∧f.box 3=some (Fm.av a0).cells) (by simp[e]) (fun s12 fr13 h13 K14 E m=>?_) (fun j11 x15 s12 fr13 h13 K14 n16 c17 E e m z18 hK19=>?_)
 ·have e:=Aj e E
  dsimp only[sumK_inl]at m
  cases m;simp[e]
 have e:=Aj e E
 obtain ⟨x20,e,m⟩:=Bo1 e m
 simp[e]
 refine Cs (r_ref07_below e.2) ?_
 obtain ⟨d21,e,m⟩:=Bo1 e m
 simp[e]
 refine Cs (ih (by simp[e]) e.2) ?_
 simp[e]
 cases m;exact hK19 _ _ _ (by simp[e]) z18
theorem r_ref07_Mark (T : Tabs) {H : Heap} {a0 : Fm} {a1 : Int} {a2 : (List (Int × Bool))} {do2 : (List (Int × Bool))} {o2 : Nat} (ho2 : H[o2]? = some [mapC sB a2]) {n : Nat} (hm : ref07_Mark n a0 a1 a2 = some do2) : ACall Tryz.prog T 56 [Fm.av a0, sI a1, AV.mptr o2] H (AV.tuple []) (hset H o2 [mapC sB do2]) := (rg_ref07_Mark T n) ho2 hm

theorem enters57 : entersB Tryz.prog 57 = true := by kernel_rfl

/-- The slot of the slice: still nil, or a row. -/
def SoSl (fr : Fr) (L : List Int) : Prop :=
  (L = [] ∧ fr.env 3 = .slice .full []) ∨ ∃ cap, fr.env 3 = .lsl 17 (fr.gen 17) L.length cap ∧ fr.box 17 = some (arrC (fun n => AV.sc (Value.int .i64 n)) L ((cap - L.length) * 1)) ∧ L.length ≤ cap

theorem r_ref03_Sorted (T : Tabs) {H : Heap} {a0 : List (Int × Bool)} {r0 : List Int} {do0 : List (Int × Bool)} {o0 : Nat} (ho0 : H[o0]? = some [mapC (fun b => AV.sc (Value.bool b)) a0]) (hm : ref03_Sorted a0 = some (r0, do0)) :
    ACall Tryz.prog T 57 [AV.mptr o0] H (AV.slice .frz (List.map (fun n => AV.sc (Value.int .i64 n)) r0)) (hset H o0 [mapC (fun b => AV.sc (Value.bool b)) do0]) := by
  unfold ref03_Sorted at hm
  obtain ⟨hok, hm⟩ := chk_some hm
  obtain ⟨hnd, hm⟩ := chk_some hm
  have hlo := inb_of_get ho0
  simp only [Option.some.injEq, Prod.mk.injEq] at hm
  obtain ⟨e1, e2⟩ := hm
  subst e2
  rw [hset_self ho0]
  have hnd : (a0.map (·.1)).Nodup := by simpa [distinctB] using hnd
  refine ACallP.drop0 (Post := fun x K => x = AV.slice .frz (List.map (fun n => AV.sc (Value.int .i64 n)) r0) ∧ ∃ X, K = H ++ X) ?_ (fun _ _ h => ⟨_, h.2.choose_spec, by rw [h.1]; simp [AV.low, AV.lowL], h.1, rfl⟩)
  refine ACallP.intro (fn := Tryz.f57) Tryz.func57 rfl enters57 (Nat.le_of_ble_eq_true rfl) ?_
  refine AWp.sr [] fun K1 hk1 => ?_
  simp
  apply hk1
  refine AWp.sr [] fun K1 hk1 => ?_
  simp
  apply hk1
  refine AWp.seqK fun K1 hk1 => ?_
  refine AWp.sr [] fun K2 hk2 => ?_
  simp [rangeA, ho0, mapC]
  apply hk2
  refine AWp.blockK fun Q nn ex x r => ?_
  refine AWp.loopF (fun m fr h => ∃ (seen : List Nat) (L : List Int), m = unseen a0.length seen ∧ L.length + m ≤ a0.length ∧ Asc L ∧ (∀ x, x ∈ L ↔ ∃ j ∈ seen, ∃ p, a0[j]? = some p ∧ p.1 = x) ∧
    H ++ [[.miter o0 a0.length seen]] = h ∧ fr.env 7 = .gptr H.length 0 ∧ SoSl fr L) a0.length ?_ ?_
  · exact ⟨[], [], (unseen_nil _).symm, by simp, .nil, by simp, by simp, rfl, .inl ⟨rfl, rfl⟩⟩
  rintro m fr h ⟨seen, L, hm1, hm2, hA, hL, rfl, e7, hs⟩ K3 hk3
  have hi : (H ++ [[AV.miter o0 a0.length seen]])[H.length]? = some [AV.miter o0 a0.length seen] := by simp
  have ho : (H ++ [[AV.miter o0 a0.length seen]])[o0]? = some [mapC (fun b => AV.sc (Value.bool b)) a0] := by simp [hlo, ho0]
  refine AWp.sr [] fun K4 hk4 => ?_
  simp only [arun_next, ev, e7]
  refine nextA_mapC a0 hi ho (fun hall => ?_) (fun j p hp hj => ?_)
  · -- the end
    simp
    apply hk4
    refine AWp.seqK fun K5 hk5 => ?_
    refine AWp.condK fun A B ga gb => ?_
    simp
    apply gb
    refine AWp.exit ?_
    apply ex
    apply hk1
    have hr : sortS [] (a0.map (·.1)) = L := by
      refine Asc.eq (sortS_asc _ [] .nil hnd (by simp)) hA fun x => ?_
      rw [sortS_mem, hL]
      simp only [List.not_mem_nil, false_or, List.mem_map]
      constructor
      · rintro ⟨p, hp, rfl⟩
        obtain ⟨j, hj⟩ := List.mem_iff_getElem?.1 hp
        exact ⟨j, hall j (List.getElem?_eq_some_iff.1 hj).1, p, hj, rfl⟩
      · rintro ⟨j, _, p, hp, rfl⟩
        exact ⟨p, List.mem_of_getElem? hp, rfl⟩
    rw [hr] at e1
    subst e1
    rcases hs with ⟨rfl, e3⟩ | ⟨cap, e3, e17, hle⟩
    · refine AWp.sr [] fun K6 hk6 => ?_
      simp [e3]
      apply hk6
      refine AWp.ret ?_
      simp [retQ, e3]
    · refine AWp.frzE 3 (f := fun n => AV.sc (Value.int .i64 n)) (L := L) (k := (cap - L.length) * 1) (sz := 1) (d := 17) (g := fr.gen 17) (cap := cap) (by intro x; simp) (by intro x; simp) (by simp [e3]) (by simp) (by simp [e17]) ?_
      refine AWp.sr [] fun K6 hk6 => ?_
      simp
      apply hk6
      refine AWp.ret ?_
      simp [retQ]
  -- a round
  have hjl : j < a0.length := (List.getElem?_eq_some_iff.1 hp).1
  have hlt := unseen_lt hjl hj
  have hih : (H ++ [[AV.miter o0 a0.length (seen ++ [j])]])[H.length]? = some [AV.miter o0 a0.length (seen ++ [j])] := by simp
  have hoh : (H ++ [[AV.miter o0 a0.length (seen ++ [j])]])[o0]? = some [mapC (fun b => AV.sc (Value.bool b)) a0] := by simp [hlo, ho0]
  have hset : hset (H ++ [[AV.miter o0 a0.length seen]]) H.length [AV.miter o0 a0.length (seen ++ [j])] = H ++ [[AV.miter o0 a0.length (seen ++ [j])]] := by simp
  rw [hset]
  have hent := entryA_mapC (f := fun b => AV.sc (Value.bool b)) a0 hih hoh hp
  have hnL : p.1 ∉ L := by
    rw [hL]
    rintro ⟨j', hj', p', hp', he⟩
    have h1 : (a0.map (·.1))[j]? = some p.1 := by rw [List.getElem?_map, hp]; rfl
    have h2 : (a0.map (·.1))[j']? = some p.1 := by rw [List.getElem?_map, hp']; simp [he]
    have : j = j' := by
      have hl1 : j < (a0.map (·.1)).length := by simpa using hjl
      exact (List.getElem?_inj hl1 hnd).1 (h1.trans h2.symm)
    subst this
    exact hj hj'
  have hlim : a0.length ≤ lim := okLen_le hok
  simp
  apply hk4
  refine AWp.seqK fun K5 hk5 => ?_
  refine AWp.condK fun A B ga gb => ?_
  simp
  apply ga
  refine AWp.skip ?_
  apply hk5
  refine AWp.blockK fun Q1 nn1 ex1 x1 r1 => ?_
  refine AWp.sr [] fun K6 hk6 => ?_
  simp [e7, hent]
  apply hk6
  refine AWp.sr [] fun K6 hk6 => ?_
  have hlen : ∃ y, fr.env 3 = y ∧ lenA Tryz.prog 22 y = some (.sc (.int .i64 L.length)) := by
    rcases hs with ⟨rfl, e3⟩ | ⟨cap, e3, e17, hle⟩
    · exact ⟨_, e3, by simp⟩
    · exact ⟨_, e3, by simp⟩
  obtain ⟨y, hy, hyl⟩ := hlen
  simp [hy, hyl]
  apply hk6
  refine AWp.seqP (fun fr h => H ++ [[.miter o0 a0.length (seen ++ [j])]] = h ∧ fr.env 7 = .gptr H.length 0 ∧ fr.env 4 = .sc (.int .i64 p.1) ∧ fr.env 5 = .sc (.int .i64 (L.length : Int)) ∧ ∃ cap, fr.env 3 = .lsl 17 (fr.gen 17) (L.length + 1) cap ∧
    fr.box 17 = some (arrC (fun n => AV.sc (Value.int .i64 n)) (L.take L.length ++ p.1 :: L.drop L.length) ((cap - (L.length + 1)) * 1)) ∧ L.length + 1 ≤ cap) (fun K6 hk6 => ?_) ?_
  · refine AWp.region [] (by decide +kernel) ?_
    have hla : lapp L [p.1] = L.take L.length ++ p.1 :: L.drop L.length := by simp [lapp]
    have hll : (lapp L [p.1]).length = L.length + 1 := by simp [lapp]
    rcases hs with ⟨rfl, e3⟩ | ⟨cap, e3, e17, hle⟩
    · simp [e3]
      refine AppAt2.newL (f := fun n => AV.sc (Value.int .i64 n)) [p.1] ap22 ⟨_, zero3⟩ (by intro x; simp) (by simp [okNew, lim]) rfl (by first | rfl | simp) fun cap hcap => ?_
      simp
      apply hk6
      refine ⟨rfl, ?_, ?_, ?_, cap, ?_, ?_, by simpa using hcap⟩ <;> simp [e7]
    · simp [e3]
      refine AppAt2.appL (f := fun n => AV.sc (Value.int .i64 n)) L [p.1] (cap := cap) ap22 ⟨_, zero3⟩ (by intro x; simp) (by simp [okApp]; omega) (by simp) rfl (by first | rfl | simp) (by simp [e17]) hle fun g' cap' hcap => ?_
      rw [hla] at hcap
      simp only [hla]
      simp
      apply hk6
      refine ⟨rfl, ?_, ?_, ?_, cap', ?_, ?_, by simpa using hcap⟩ <;> simp [e7]
  rintro fr6 h6 ⟨rfl, f7, f4, f5, cap, f3, f17, fle⟩
  refine AWp.seqP (fun fr h => H ++ [[.miter o0 a0.length (seen ++ [j])]] = h ∧ fr.env 7 = .gptr H.length 0 ∧ fr.env 4 = .sc (.int .i64 p.1) ∧ ∃ (i : Nat) (z : Int), fr.env 5 = .sc (.int .i64 (i : Int)) ∧ i ≤ L.length ∧ (∀ a ∈ L.drop i, a > p.1) ∧ (i = 0 ∨ ∃ a, L[i - 1]? = some a ∧ ¬ a > p.1) ∧
    ∃ cap, fr.env 3 = .lsl 17 (fr.gen 17) (L.length + 1) cap ∧ fr.box 17 = some (arrC (fun n => AV.sc (Value.int .i64 n)) (L.take i ++ z :: L.drop i) ((cap - (L.length + 1)) * 1)) ∧ L.length + 1 ≤ cap) (fun K7 hk7 => ?_) ?_
  · refine AWp.blockK fun Q2 nn2 ex2 x2 r2 => ?_
    refine AWp.loopF (fun i fr h => H ++ [[.miter o0 a0.length (seen ++ [j])]] = h ∧ fr.env 7 = .gptr H.length 0 ∧ fr.env 4 = .sc (.int .i64 p.1) ∧ ∃ (z : Int), fr.env 5 = .sc (.int .i64 (i : Int)) ∧ i ≤ L.length ∧ (∀ a ∈ L.drop i, a > p.1) ∧
      ∃ cap, fr.env 3 = .lsl 17 (fr.gen 17) (L.length + 1) cap ∧ fr.box 17 = some (arrC (fun n => AV.sc (Value.int .i64 n)) (L.take i ++ z :: L.drop i) ((cap - (L.length + 1)) * 1)) ∧ L.length + 1 ≤ cap) L.length ?_ ?_
    · exact ⟨rfl, f7, f4, p.1, f5, Nat.le_refl _, by simp, cap, f3, f17, fle⟩
    clear f7 f4 f5 f3 f17 fle hy hyl e7 hs
    rintro i fr h ⟨rfl, e7, e4, z, e5, hil, hgt, cap, e3, e17, hle⟩ K8 hk8
    have stop : ∀ fr' : Fr, fr'.env 7 = .gptr H.length 0 → fr'.env 4 = .sc (.int .i64 p.1) → fr'.env 5 = .sc (.int .i64 (i : Int)) → fr'.env 3 = fr.env 3 → fr'.gen = fr.gen → fr'.box = fr.box → (i = 0 ∨ ∃ a, L[i - 1]? = some a ∧ ¬ a > p.1) →
        K7 fr' (H ++ [[.miter o0 a0.length (seen ++ [j])]]) := by
      intro fr' g7 g4 g5 g3 gg gb h0
      exact hk7 _ _ ⟨rfl, g7, g4, i, z, g5, hil, hgt, h0, cap, by rw [g3, e3, gg], by rw [gb, e17], hle⟩
    refine AWp.seqK fun K9 hk9 => ?_
    refine AWp.sr [] fun K10 hk10 => ?_
    obtain ⟨c, hc⟩ : ∃ c : Int, c = (i : Int) := ⟨_, rfl⟩
    rw [← hc] at e5
    cases i with
    | zero =>
      have h0 : igt c 0 = false := by rw [hc]; decide
      simp [e5, h0]
      apply hk10
      refine AWp.condK fun A B ga gb => ?_
      simp
      apply gb
      refine AWp.exit ?_
      apply ex2
      refine stop _ ?_ ?_ ?_ ?_ ?_ ?_ (.inl rfl) <;> simp [e7, e4, e5, hc]
    | succ i =>
      have h0 : igt c 0 = true := by rw [hc]; simp [igt]
      obtain ⟨c', hc'⟩ : ∃ c' : Int, c' = (i : Int) := ⟨_, rfl⟩
      have hsub : isub .i64 c 1 = c' := by rw [hc, hc']; exact isub_one (by omega)
      obtain ⟨x, hx⟩ : ∃ x, L[i]? = some x := ⟨_, List.getElem?_eq_getElem (by omega)⟩
      have hml : (L.take (i + 1) ++ z :: L.drop (i + 1)).length = L.length + 1 := by simp; omega
      have hget : lget (L.take (i + 1) ++ z :: L.drop (i + 1)) c' = some x := by
        unfold lget
        rw [if_pos (by omega), hc', Int.toNat_natCast, List.getElem?_append_left (by rw [List.length_take]; omega), List.getElem?_take, if_pos (by omega), hx]
      have hrng : 0 ≤ c' ∧ c' < ((L.length + 1 : Nat) : Int) := by omega
      have hrng2 : 0 ≤ c ∧ c < ((L.length + 1 : Nat) : Int) := by omega
      have hrd := readAt_arrC (P := Tryz.prog) (t := 3) (f := fun n => AV.sc (Value.int .i64 n)) (k := (cap - (L.length + 1)) * 1) lay3 (by intro x; simp) hget
      generalize hM : L.take (i + 1) ++ z :: L.drop (i + 1) = M at e17 hml hget hrd
      generalize hN : L.length + 1 = N at e3 e17 hle hml hrng hrng2 hrd
      have hld : ∀ fr' : Fr, fr'.gen 17 = fr.gen 17 → fr'.box 17 = fr.box 17 → loadA Tryz.prog fr' (H ++ [[AV.miter o0 a0.length (seen ++ [j])]]) 3 (.lptr 17 (fr.gen 17) (eoff c'.toNat 1)) = some (.sc (.int .i64 x)) := by
        intro fr' g1 g2
        show (if fr.gen 17 = fr'.gen 17 then (match fr'.box 17 with | some cs => readAt Tryz.prog 3 cs (eoff c'.toNat 1) | none => none) else none) = _
        rw [if_pos g1.symm, g2, e17]
        exact hrd
      simp [e5, e3, h0, hsub, hrng, hld, e4, -loadA]
      apply hk10
      have hMs : M.length = N := hml
      have hget2 : lget M c = some z := by
        unfold lget
        rw [if_pos (by omega), hc, Int.toNat_natCast, ← hM, List.getElem?_append_right (by simp; omega)]
        simp [List.length_take, show min (i + 1) L.length = i + 1 from by omega]
      have hset1 : lset M c x = L.take i ++ x :: L.drop i := by
        have hd : L.drop i = x :: L.drop (i + 1) := by
          rw [List.drop_eq_getElem_cons (by omega : i < L.length)]
          congr 1
          exact (List.getElem?_eq_some_iff.1 hx).2
        have ht : L.take (i + 1) = L.take i ++ [x] := by rw [List.take_add_one, hx]; rfl
        unfold lset
        rw [hc, Int.toNat_natCast, ← hM, hd, List.set_append_right _ _ (by simp; omega)]
        rw [List.length_take, show min (i + 1) L.length = i + 1 from by omega, Nat.sub_self, List.set_cons_zero, ht, List.append_assoc]
        rfl
      refine AWp.condK fun A B ga gb => ?_
      rcases Bool.eq_false_or_eq_true (igt x p.1) with hgx | hgx
      · simp [hgx]
        apply ga
        refine AWp.skip ?_
        apply hk9
        refine AWp.blockK fun Q3 nn3 ex3 x3 r3 => ?_
        refine AWp.sr [] fun K11 hk11 => ?_
        simp [e5, e3, hsub, hrng, hrng2, hld, e4, -loadA]
        refine StoreE.arr (f := fun n => AV.sc (Value.int .i64 n)) (L := M) (k := (cap - N) * 1) x lay3 (by intro x; simp) (by simp) (x := z) hget2 (by simp) (by simp [e17]) (by simp) ?_
        simp
        apply hk11
        refine AWp.region [] (by decide +kernel) ?_
        simp [e5, hsub]
        apply nn3
        rw [hset1]
        refine hk8 _ _ i (Nat.lt_succ_self _) ⟨rfl, ?_, ?_, x, ?_, by omega, ?_, cap, ?_, ?_, by rw [hN]; exact hle⟩
        · simp [e7]
        · simp [e4]
        · simp [hc']
        · intro a ha
          have hd : L.drop i = x :: L.drop (i + 1) := by
            rw [List.drop_eq_getElem_cons (by omega : i < L.length)]
            congr 1
            exact (List.getElem?_eq_some_iff.1 hx).2
          rw [hd] at ha
          rcases List.mem_cons.1 ha with rfl | ha
          · simpa [igt] using hgx
          · exact hgt a ha
        · simp [e3, hN]
        · simp [hN]
      · simp [hgx]
        apply gb
        refine AWp.exit ?_
        apply ex2
        refine stop _ ?_ ?_ ?_ ?_ ?_ ?_ (.inr ⟨x, by simpa using hx, by simpa [igt] using hgx⟩) <;> simp [e7, e4, e5, e3, hc]
  rintro fr h ⟨rfl, e7, e4, i, z, e5, hil, hgt, h0, cap, e3, e17, hle⟩
  refine AWp.region [] (by decide +kernel) ?_
  obtain ⟨c, hc⟩ : ∃ c : Int, c = (i : Int) := ⟨_, rfl⟩
  rw [← hc] at e5
  have hml : (L.take i ++ z :: L.drop i).length = L.length + 1 := by simp; omega
  have hget2 : lget (L.take i ++ z :: L.drop i) c = some z := by
    unfold lget
    rw [if_pos (by omega), hc, Int.toNat_natCast, List.getElem?_append_right (by simp; omega)]
    simp [List.length_take, Nat.min_eq_left hil]
  have hset1 : lset (L.take i ++ z :: L.drop i) c p.1 = insS p.1 L := by
    rw [so_ins L i hA hnL hil hgt h0]
    unfold lset
    rw [hc, Int.toNat_natCast, List.set_append_right _ _ (by simp; omega), List.length_take, Nat.min_eq_left hil, Nat.sub_self, List.set_cons_zero]
  have hrng2 : 0 ≤ c ∧ c < ((L.length + 1 : Nat) : Int) := by omega
  have hlen : (insS p.1 L).length = L.length + 1 := by rw [so_ins L i hA hnL hil hgt h0]; simp; omega
  generalize hM : L.take i ++ z :: L.drop i = M at e17 hml hget2 hset1
  generalize hN : L.length + 1 = N at e3 e17 hle hml hrng2 hlen
  simp [e5, e3, e4, hrng2]
  refine StoreE.arr (f := fun n => AV.sc (Value.int .i64 n)) (L := M) (k := (cap - N) * 1) p.1 lay3 (by intro x; simp) (by simp) (x := z) hget2 (by simp) (by simp [e17]) (by simp) ?_
  simp
  apply nn1
  rw [hset1]
  refine hk3 _ _ _ (by rw [hm1]; exact hlt) ⟨seen ++ [j], insS p.1 L, rfl, by omega, insS_asc p.1 L hnL hA, ?_, rfl, ?_, .inr ⟨cap, ?_, ?_, by rw [hlen]; exact hle⟩⟩
  · intro x
    rw [insS_mem, hL]
    constructor
    · rintro (rfl | ⟨j', h1, p', h2, h3⟩)
      · exact ⟨j, by simp, p, hp, rfl⟩
      · exact ⟨j', by simp [h1], p', h2, h3⟩
    · rintro ⟨j', h1, p', h2, h3⟩
      rcases List.mem_append.1 h1 with h1 | h1
      · exact .inr ⟨j', h1, p', h2, h3⟩
      · simp only [List.mem_singleton] at h1
        subst h1
        rw [hp] at h2
        obtain rfl := Option.some.inj h2
        exact .inl h3.symm
  · simp [e7]
  · simp [e3, hlen]
  · simp [hlen]



theorem r_ref07_Uses (T : Tabs) {H : Heap} {a0 : Fm} {r0 : (List Int)} {r1 : Int} (hm : ref07_Uses a0 = some (r0, r1)) : ACall Tryz.prog T 18 [Fm.av a0] H (AV.tuple [sL sI r0, sI r1]) H := by
 rw [ref07_Uses] at hm
 refine ACallP.drop0 (Post:=fun x K => x=AV.tuple [sL sI r0,sI r1]∧∃ X,K=H ++ X) ?_ (fun _ _ h => ⟨_,h.2.choose_spec,by rw [h.1]; simp [AV.low,AV.lowL],h.1,rfl⟩)
 have e:=trivial
 refine wi mixed Tryz.func18 [] [] 999 ?_
 obtain ⟨x1,e,m⟩:=Bo1 e hm
 simp[e]
 refine Cf (r_ref07_Check e.2) ?_
 rcases Io e m with ⟨e,m⟩|⟨e,m⟩
 ·cases m;simp[e]
 obtain ⟨d2,e,m⟩:=Bo1 e m
 simp[e]
 refine Cf (r_ref07_Mark T (by simp[e]) e.2) ?_
 obtain ⟨x3,d4,e,m⟩:=Bo2 e m
 simp[e]
 refine Cf (r_ref03_Sorted T (by simp[e]) e.2) ?_
 cases m;simp[e]

theorem r_ref01_Context : C1 Tryz.prog 58 ref01_Context sI (sL Ty.av) := by
 intro T H a0 r hm
 rw [ref01_Context] at hm
 have e:=trivial
 refine wi mixed Tryz.func58 [] [] 999 ?_
 rcases Io e hm with ⟨e,m⟩|⟨e,m⟩
 ·cases m;simp[e]
 simp[e]
 refine Wr e m 999 (fun j1 s2 f h=>h=H∧f.1 9=sL Ty.av a0∧f.1 10=sI (llen a0)∧f.1 11=sI j1) (by simp[e]) (fun s2 fr3 h3 K4 E m=>?_) (fun j1 x5 s2 fr3 h3 K4 n6 c7 E e m z8 hK9=>?_)
 ·have e:=Aj e E
  dsimp only[sumK_inl]at m
  cases m;simp[e]
 have e:=Aj e E
 obtain ⟨x10,e,m⟩:=Bo1 e m
 simp[e]
 refine Cf (r_ref01_Check e.2) ?_
 rcases Io e m with ⟨e,m⟩|⟨e,m⟩
 ·cases m;cases z8;simp[e]
 simp[e]
 cases m;exact hK9 _ _ _ (by simp[e]) z8

theorem r_ref02_ok : C1 Tryz.prog 129 ref02_ok (t2 Ty.av sI) Ty.av := by
 intro T H a0 r hm
 rw [ref02_ok] at hm
 have e:=trivial
 refine wi mixed Tryz.func129 [] [] 999 ?_
 obtain ⟨x1,e,m⟩:=Bo1 e hm
 simp[e]
 refine Cf (r_ref01_Check e.2) ?_
 rcases Io e m with ⟨e,m⟩|⟨e,m⟩
 ·cases m;simp[e]
 cases m;simp[e]


theorem rg_ref02_infer : ∀ (n : Nat), C2 Tryz.prog 119 (ref02_infer n) (t2 Ty.av sI) (sL Ty.av) Tm.av := by
  intro n
  induction n with
  | zero =>
    skip
    all_goals (intro _ _;intros;rename_i hm;cases hm)
  | succ n ih =>
 intro T H a0 a1 r hm
 rw [ref02_infer] at hm
 have e:=trivial
 refine wi mixed Tryz.func119 [] [] 999 ?_
 rcases Io e hm with ⟨e,m⟩|⟨e,m⟩
 ·rcases Io e m with ⟨e,m⟩|⟨e,m⟩
  ·cases m;simp[e]
  obtain ⟨x1,e,m⟩:=Bo1 e m
  obtain ⟨x2,e,m⟩:=Bo1 e m
  simp[e]
  refine Cf (r_ref01_Copy e.2) ?_
  cases m;simp[e]
 rcases Io e m with ⟨e,m⟩|⟨e,m⟩
 ·obtain ⟨e,m⟩:=Ck e m
  simp[e]
  refine Ad (f:=Ty.av) a0 [a1.typeF] (OwnT.full (D:=[])) ap23 e.2 ?_
  obtain ⟨x3,e,m⟩:=Bo1 e m
  obtain ⟨x4,x5,e,m⟩:=Bo2 e m
  simp[e]
  refine Cs (ih e.2) ?_
  rcases Io e m with ⟨e,m⟩|⟨e,m⟩
  ·cases m;simp[e]
  obtain ⟨x6,e,m⟩:=Bo1 e m
  simp[e]
  refine Cf (r_ref01_Fun e.2) ?_
  obtain ⟨x7,x8,e,m⟩:=Bo2 e m
  simp[e]
  refine Cf (r_ref02_ok e.2) ?_
  cases m;simp[e]
 simp[e]
 refine Wr e m 0 (fun j9 s10 f h=>∃ (tg0_11:Tag),(h=H∧f.1 0=sL Ty.av a0∧f.1 3=AV.lptr 3 (f.gen 3) 0∧f.1 4=AV.lptr 4 (f.gen 4) 0∧f.1 8=sT tg0_11 Ty.av s10∧f.1 67=sL Tm.av a1.args∧f.1 68=sI (llen a1.args)∧f.1 69=sI j9∧f.box 3=some (Tm.av a1).cells∧f.box 4=some [sI 0,AV.slice .full []])∧Ow f [86] tg0_11 s10) (by exact ⟨.full,by simp[e],OwnT.full⟩) (fun s10 fr11 h11 K12 E m=>?_) (fun j9 x13 s10 fr11 h11 K12 n14 c15 E e m z16 hK17=>?_)
 rotate_left
 ·obtain ⟨tg0_11,E,o0_11⟩:=E
  have e:=Aj e E
  apply wg 999
  obtain ⟨x18,x19,e,m⟩:=Bo2 e m
  simp[e]
  refine Cf (ih e.2) ?_
  rcases Io e m with ⟨e,m⟩|⟨e,m⟩
  ·cases m;cases z16;simp[e]
  obtain ⟨e,m⟩:=Ck e m
  simp[e]
  refine Ao (f:=Ty.av) s10 [x18] o0_11 ap23 e.2 ?_
  simp[e]
  cases m;exact hK17 _ _ _ ⟨(.loc 86 (fr11.tgen 86 + 1)),by simp[e],(On 86)⟩ z16
 obtain ⟨tg0_11,E,o0_11⟩:=E
 have e:=Aj e E
 apply wg 13
 dsimp only[sumK_inl]at m
 obtain ⟨x20,e,m⟩:=Bo1 e m
 simp[e]
 refine Cf (r_ref01_Nat e.2) ?_
 obtain ⟨x21,e,m⟩:=Bo1 e m
 simp[e]
 refine Cf (r_ref01_List e.2) ?_
 simp[e]
 rcases Io e m with ⟨e,m⟩|⟨e,m⟩
 ·apply wg 2
  simp[e]
  refine Wj m 999 999 (fun j22 f h=>∃ (v23:Bool) (tg0_26:Tag),(h=H∧f.1 4=AV.lptr 4 (f.gen 4) 0∧f.1 8=sT tg0_26 Ty.av s10∧f.1 111=sB v23∧f.box 4=some [sI 0,AV.slice .full []])∧Ow f [86] tg0_26 s10∧j22 v23=some r) (fun j22 K24 hk25 m=>?_) ?_
  rotate_left
  ·rintro fr26 h26 ⟨v23,tg0_26,E,o0_26,m⟩
   have e:=Aj e E
   rcases Io e m with ⟨e,m⟩|⟨e,m⟩
   ·cases m;simp[e]
   obtain ⟨x27,e,m⟩:=Bo1 e m
   obtain ⟨x28,e,m⟩:=Bo1 e m
   cases m;simp[e]
  obtain ⟨x29,e,m⟩:=Bo1 e m
  rcases Io e m with ⟨e,m⟩|⟨e,m⟩
  ·simp[e]
   exact hk25 _ _ ⟨true,tg0_11,by simp[e],o0_11,m⟩
  obtain ⟨x30,e,m⟩:=Bo1 e m
  obtain ⟨x31,e,m⟩:=Bo1 e m
  obtain ⟨x32,e,m⟩:=Bo1 e m
  simp[e]
  refine Cs (r_ref01_Same e.2) ?_
  simp[e]
  exact hk25 _ _ ⟨(bnot x32),tg0_11,by simp[e],o0_11,m⟩
 apply wg 3
 simp[e]
 rcases Io e m with ⟨e,m⟩|⟨e,m⟩
 ·apply wg 999
  cases m;simp[e]
 apply wg 3
 simp[e]
 rcases Io e m with ⟨e,m⟩|⟨e,m⟩
 ·apply wg 999
  obtain ⟨x33,e,m⟩:=Bo1 e m
  obtain ⟨x34,e,m⟩:=Bo1 e m
  simp[e]
  refine Cs (r_ref01_Same e.2) ?_
  rcases Io e m with ⟨e,m⟩|⟨e,m⟩
  ·cases m;simp[e]
  cases m;simp[e]
 apply wg 3
 simp[e]
 rcases Io e m with ⟨e,m⟩|⟨e,m⟩
 ·apply wg 2
  simp[e]
  refine Wj m 999 999 (fun j35 f h=>∃ (v36:Bool),(h=H∧f.1 3=AV.lptr 3 (f.gen 3) 0∧f.1 4=AV.lptr 4 (f.gen 4) 0∧f.1 162=sB v36∧f.box 3=some (Tm.av a1).cells∧f.box 4=some [sI 0,AV.slice .full []])∧j35 v36=some r) (fun j35 K37 hk38 m=>?_) ?_
  rotate_left
  ·rintro fr39 h39 ⟨v36,E,m⟩
   have e:=Aj e E
   rcases Io e m with ⟨e,m⟩|⟨e,m⟩
   ·cases m;simp[e]
   obtain ⟨x40,e,m⟩:=Bo1 e m
   simp[e]
   refine Cf (r_ref01_Copy e.2) ?_
   cases m;simp[e]
  obtain ⟨x41,e,m⟩:=Bo1 e m
  obtain ⟨x42,e,m⟩:=Bo1 e m
  simp[e]
  refine Cs (r_ref01_Same e.2) ?_
  rcases Io e m with ⟨e,m⟩|⟨e,m⟩
  rotate_left
  ·simp[e]
   exact hk38 _ _ ⟨true,by simp[e],m⟩
  obtain ⟨x43,e,m⟩:=Bo1 e m
  obtain ⟨x44,e,m⟩:=Bo1 e m
  simp[e]
  refine Cs (r_ref01_Fun e.2) ?_
  obtain ⟨x45,e,m⟩:=Bo1 e m
  simp[e]
  refine Cs (r_ref01_Fun e.2) ?_
  obtain ⟨x46,e,m⟩:=Bo1 e m
  simp[e]
  refine Cs (r_ref01_Same e.2) ?_
  rcases Io e m with ⟨e,m⟩|⟨e,m⟩
  rotate_left
  ·simp[e]
   exact hk38 _ _ ⟨true,by simp[e],m⟩
  obtain ⟨x47,e,m⟩:=Bo1 e m
  obtain ⟨x48,e,m⟩:=Bo1 e m
  simp[e]
  refine Cs (r_ref01_Same e.2) ?_
  simp[e]
  exact hk38 _ _ ⟨(bnot x48),by simp[e],m⟩
 apply wg 3
 simp[e]
 rcases Io e m with ⟨e,m⟩|⟨e,m⟩
 ·apply wg 999
  cases m;simp[e]
 apply wg 3
 simp[e]
 rcases Io e m with ⟨e,m⟩|⟨e,m⟩
 ·apply wg 2
  simp[e]
  refine Wj m 999 999 (fun j49 f h=>∃ (v50:Bool),(h=H∧f.1 4=AV.lptr 4 (f.gen 4) 0∧f.1 14=AV.lptr 14 (f.gen 14) 0∧f.1 185=sB v50∧f.box 4=some [sI 0,AV.slice .full []]∧f.box 14=some (Ty.av x21).cells)∧j49 v50=some r) (fun j49 K51 hk52 m=>?_) ?_
  rotate_left
  ·rintro fr53 h53 ⟨v50,E,m⟩
   have e:=Aj e E
   rcases Io e m with ⟨e,m⟩|⟨e,m⟩
   ·cases m;simp[e]
   cases m;simp[e]
  obtain ⟨x54,e,m⟩:=Bo1 e m
  obtain ⟨x55,e,m⟩:=Bo1 e m
  simp[e]
  refine Cs (r_ref01_Same e.2) ?_
  rcases Io e m with ⟨e,m⟩|⟨e,m⟩
  rotate_left
  ·simp[e]
   exact hk52 _ _ ⟨true,by simp[e],m⟩
  obtain ⟨x56,e,m⟩:=Bo1 e m
  obtain ⟨x57,e,m⟩:=Bo1 e m
  simp[e]
  refine Cs (r_ref01_Same e.2) ?_
  simp[e]
  exact hk52 _ _ ⟨(bnot x57),by simp[e],m⟩
 apply wg 3
 simp[e]
 rcases Io e m with ⟨e,m⟩|⟨e,m⟩
 ·apply wg 2
  simp[e]
  refine Wj m 999 999 (fun j58 f h=>∃ (v59:Bool),(h=H∧f.1 3=AV.lptr 3 (f.gen 3) 0∧f.1 4=AV.lptr 4 (f.gen 4) 0∧f.1 220=sB v59∧f.box 3=some (Tm.av a1).cells∧f.box 4=some [sI 0,AV.slice .full []])∧j58 v59=some r) (fun j58 K60 hk61 m=>?_) ?_
  rotate_left
  ·rintro fr62 h62 ⟨v59,E,m⟩
   have e:=Aj e E
   rcases Io e m with ⟨e,m⟩|⟨e,m⟩
   ·cases m;simp[e]
   obtain ⟨x63,e,m⟩:=Bo1 e m
   simp[e]
   refine Cf (r_ref01_Copy e.2) ?_
   cases m;simp[e]
  obtain ⟨x64,e,m⟩:=Bo1 e m
  obtain ⟨x65,e,m⟩:=Bo1 e m
  simp[e]
  refine Cs (r_ref01_Same e.2) ?_
  rcases Io e m with ⟨e,m⟩|⟨e,m⟩
  rotate_left
  ·simp[e]
   exact hk61 _ _ ⟨true,by simp[e],m⟩
  obtain ⟨x66,e,m⟩:=Bo1 e m
  obtain ⟨x67,e,m⟩:=Bo1 e m
  simp[e]
  refine Cs (r_ref01_Fun e.2) ?_
  obtain ⟨x68,e,m⟩:=Bo1 e m
  simp[e]
  refine Cs (r_ref01_Fun e.2) ?_
  obtain ⟨x69,e,m⟩:=Bo1 e m
  simp[e]
  refine Cs (r_ref01_Fun e.2) ?_
  obtain ⟨x70,e,m⟩:=Bo1 e m
  simp[e]
  refine Cs (r_ref01_Same e.2) ?_
  rcases Io e m with ⟨e,m⟩|⟨e,m⟩
  rotate_left
  ·simp[e]
   exact hk61 _ _ ⟨true,by simp[e],m⟩
  obtain ⟨x71,e,m⟩:=Bo1 e m
  obtain ⟨x72,e,m⟩:=Bo1 e m
  simp[e]
  refine Cs (r_ref01_Same e.2) ?_
  simp[e]
  exact hk61 _ _ ⟨(bnot x72),by simp[e],m⟩
 apply wg 3
 simp[e]
 rcases Io e m with ⟨e,m⟩|⟨e,m⟩
 ·apply wg 999
  obtain ⟨x73,e,m⟩:=Bo1 e m
  obtain ⟨x74,e,m⟩:=Bo1 e m
  obtain ⟨x75,e,m⟩:=Bo1 e m
  simp[e]
  refine Cs (r_ref01_Two e.2) ?_
  obtain ⟨x76,x77,e,m⟩:=Bo2 e m
  simp[e]
  refine Cs (r_ref02_ok e.2) ?_
  cases m;simp[e]
 apply wg 1
 simp[e]
 refine wj 999 0 (fun f h=>∃ (tg0_80:Tag),(h=H∧f.1 3=AV.lptr 3 (f.gen 3) 0∧f.1 4=AV.lptr 4 (f.gen 4) 0∧f.1 8=sT tg0_80 Ty.av s10∧f.1 237=sB (sel (ieq a1.kind 11) true (ieq a1.kind 12))∧f.box 3=some (Tm.av a1).cells∧f.box 4=some [sI 0,AV.slice .full []])∧Ow f [86] tg0_80 s10) (fun K78 hk79=>?_) ?_
 ·rcases Pb (ieq a1.kind 11) e with e|e
  ·simp[e]
   exact hk79 _ _ ⟨tg0_11,by simp[e],o0_11⟩
  simp[e]
  exact hk79 _ _ ⟨tg0_11,by simp[e],o0_11⟩
 rintro fr80 h80 ⟨tg0_80,E,o0_80⟩
 have e:=Aj e E
 rcases Io e m with ⟨e,m⟩|⟨e,m⟩
 rotate_left
 ·apply wg 999
  obtain ⟨x81,e,m⟩:=Bo1 e m
  simp[e]
  refine Cf (r_ref01_Unit e.2) ?_
  cases m;simp[e]
 apply wg 4
 obtain ⟨x82,e,m⟩:=Bo1 e m
 simp[e]
 rcases Io e m with ⟨e,m⟩|⟨e,m⟩
 ·apply wg 999
  cases m;simp[e]
 apply wg 5
 simp[e]
 rcases Io e m with ⟨e,m⟩|⟨e,m⟩
 ·apply wg 999
  obtain ⟨x83,e,m⟩:=Bo1 e m
  cases m;simp[e]
 apply wg 999
 obtain ⟨x84,e,m⟩:=Bo1 e m
 cases m;simp[e]
theorem r_ref02_infer {n : Nat} : C2 Tryz.prog 119 (ref02_infer n) (t2 Ty.av sI) (sL Ty.av) Tm.av := (rg_ref02_infer n)

end Go.Proofs.YtanjokijgbgcpaaGreatDoor
