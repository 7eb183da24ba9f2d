/- Part of the proof of SchemeLists: walks. -/
import Derived.Test.YtpgdkkomegalnaaGreatDoorLW2
set_option linter.all false
set_option maxRecDepth 20000
set_option maxHeartbeats 4000000
namespace Go.Proofs.YtpgdkkomegalnaaGreatDoor
open Go Go.kY Go.fD Tryz
def DK:C4 prog 225 pt er.av er.av Pf.av (sL sI) Tm.av:=by
 refine v4 func225 λT H a0 a1 a2 a3 r m e=>?_;rw[pt] at m;exact aa
@[reducible,instance] def ZF:=@Kc.mk prog 225 _ @DK
def EY:C5 prog 158 tp Tm.av Pf.av Ty.av Tm.av Tm.av Tm.av:=by
 refine u5 4 func158 λT H a0 a1 a2 a3 a4 r m e=>?_;rw[tp] at m;simp[e];refine wA 999 999 [] [6,7,8,9,10] (λf=>f.1 11=sI (fv (eo a0.ak5 17) 9 6)) [] (λ_ g=>?_) ?_
 ·rcases Pb (eo a0.ak5 17) e with e|e
  ·exact aj
  exact aj
 intro _ e m;have e:=Aj e (show AV.agg [sI (fv (eo a0.ak5 17) 9 6),sI 0,sI a1.ak5,sL Ty.av a1.ak6,AV.slice .gI [Tm.av a2,Tm.av a3,Tm.av a4]]=Tm.av (Tm.mk (fv (eo a0.ak5 17) 9 6) 0 a1 [a2,a3,a4]) by rw[Tm.eR];rfl);exact au
@[reducible,instance] def aaW:=@Kc.mk prog 158 _ @EY
def EB{n:Nat}:C1 prog 159 (pz n) sI Tm.av:=by
 refine i1 λn ih=>v1 func159 λT H a0 r m e=>?_;rw[pz] at m;simp[e];refine Wn m 999 (λs1 f h=>h=H/\f.1 3=sI s1.1/\f.1 4=sI s1.2/\bx f 1 (Tm.av a0).cells) abE (λs1 _ _ _ _ _ E m z p=>?_);have⟨a,v9⟩:=s1;have e:=Aj e E;dsimp only[kp]at m;apply Ir e m<;>intro e m
 ·cases m;have m:=Qb z;dsimp only[kp]at m;exact au
 exact aa
@[reducible,instance] def Zi:=@Kc.mk prog 159 _ @EB
def Co:C2 prog 116 mR (t2 Tm.av sI) Tm.av sI:=by
 refine v2 func116 λT H a0 a1 r m e=>?_;rw[mR] at m;exact aa
@[reducible,instance] def YX:=@Kc.mk prog 116 _ @Co
section
attribute [-simp] Go.kY.Di
@[local simp] theorem aiw(x:Fm):Di prog 36 x.av 3=some (sL Fm.av x.ak6):=by rw[Fm.fN];kernel_rfl
def dL(T:eN):∀(n:Nat),(∀{H:dY} {a0:dT} {a1:er} {a2:Pf} {j:Tm} {k:Int} {a:dT} {b:Nat} (c:H[b]?=some [sL Fm.av a0.lemmas,sL Tm.av a0.eh,sI a0.next]) (hm:ed n a0 a1 a2=some (j,k,a)),eO prog T 75 [AV.fb b 0,er.av a1,Pf.av a2] H (AV.tuple [Tm.av j,sI k]) (gk H b [sL Fm.av a.lemmas,sL Tm.av a.eh,sI a.next]))/\(∀{H:dY} {a0:dT} {a1:er} {a2:Pf} {j:Tm} {k:Int} {a:dT} {b:Nat} (c:H[b]?=some [sL Fm.av a0.lemmas,sL Tm.av a0.eh,sI a0.next]) (hm:jR n a0 a1 a2=some (j,k,a)),eO prog T 115 [AV.fb b 0,er.av a1,Pf.av a2] H (AV.tuple [Tm.av j,sI k]) (gk H b [sL Fm.av a.lemmas,sL Tm.av a.eh,sI a.next]))/\(∀{H:dY} {a0:dT} {a1:er} {a2:Pf} {j:Ty} {k:Tm} {R:Tm} {S:Int} {a:dT} {b:Nat} (c:H[b]?=some [sL Fm.av a0.lemmas,sL Tm.av a0.eh,sI a0.next]) (hm:jU n a0 a1 a2=some (j,k,R,S,a)),eO prog T 157 [AV.fb b 0,er.av a1,Pf.av a2] H (AV.tuple [Ty.av j,Tm.av k,Tm.av R,sI S]) (gk H b [sL Fm.av a.lemmas,sL Tm.av a.eh,sI a.next])):=by
  intro n
  induction n with
  |zero=>
    refine⟨?_,?_,?_⟩
    all_goals(intro _ _;intros;rename_i hm;cases hm)
  |succ n ih=>
 refine⟨?_,?_,?_⟩
 ·intro H a0 a1 a2 j k a b c hm;rw[ed] at hm;have l:=eU c;refine fC.Lo c ?_;have e:=l;refine wi ak_ func75 [] [] 999 ?_;simp-implicitDefEqProofs[e];refine Ud hm (ih.2.1 (by simp-implicitDefEqProofs[e])) λ_ x2 d3 m=>?_;exact aa
 ·intro H a0 a1 a2 j k a b c hm;rw[jR] at hm;have l:=eU c;refine fC.Lo c ?_;have e:=l;refine wi ak_ func115 [] [(5,false,[true,true,true,true,false,true,true,true,true,true,true,true])] 8 ?_;simp-implicitDefEqProofs[e];have m:=hm;refine sw [13] ?_;intro e m;apply wg 3;simp-implicitDefEqProofs[e];apply Iq e m<;>intro e m
  ·refine sg 999 [8] ?_;intro x7 e m;simp-implicitDefEqProofs[e];refine sw [5] ?_;intro _ d9 e m;exact au
  apply wg 3;simp-implicitDefEqProofs[e];apply Iq e m<;>intro e m
  ·refine sg 6 [8] ?_;intro aS e m;simp-implicitDefEqProofs[e];refine sw [5] ?_;intro _ d12 e m;simp-implicitDefEqProofs[e];refine sw [4,8] ?_;intro _ aT e m;simp-implicitDefEqProofs[e];refine sw [5] ?_;intro _ d16 e m;simp-implicitDefEqProofs[e];refine sw [4] ?_;intro U e m;simp-implicitDefEqProofs[e];apply Ir e m<;>intro e m
   ·apply wg 999;simp-implicitDefEqProofs[e];refine IX m (ih.1 (by simp-implicitDefEqProofs[e])) λ_ _ d20 m=>?_;exact au
   apply wg 5;simp-implicitDefEqProofs[e];refine IX m (ih.1 (by simp-implicitDefEqProofs[e])) λaU V d23 m=>?_;simp-implicitDefEqProofs[e];refine wA 999 999 [11] [4,5,6,10] (λf=>f.1 0=AV.fb b 0/\f.1 131=sB (fv (eP V 0) true (lJ U))) [7] (λ_ g=>?_) ?_
   ·exact aa
   intro _ e m;simp-implicitDefEqProofs[e];refine IX m (ih.1 (by simp-implicitDefEqProofs[e])) λ_ _ d30 m=>?_;exact aa
  apply wg 1;simp-implicitDefEqProofs[e];refine wA 999 0 [61] [4,5,6] (λf=>f.1 0=AV.fb b 0/\f.1 149=sB (fv (eo a2.ak5 4) true (eo a2.ak5 5))) [] (λ_ g=>?_) ?_
  ·rcases Pb (eo a2.ak5 4) e with e|e
   ·exact aj
   exact aj
  intro _ e m;apply Iq e m<;>intro e m
  ·refine sg 5 [8] ?_;intro aV e m;simp-implicitDefEqProofs[e];refine sw [5] ?_;intro _ d37 e m;simp-implicitDefEqProofs[e];refine IX m (ih.1 (by simp-implicitDefEqProofs[e])) λaW W d40 m=>?_;simp-implicitDefEqProofs[e];refine Dt m 0 999 (λJ f h=>∃C D F G v46,(h=gk H b [sL Fm.av d40.lemmas,sL Tm.av d40.eh,sI d40.next]/\f.1 15=sI W/\bx f 6 [sI 0,sI 0,sI 0,nL,nL]/\bx f 14 [sI C,sI D,sI F,sL Ty.av G,sL Tm.av v46])/\J C D F G v46=some (j,k,a)) ?_ (λJ _ g m=>?_)
   ·rintro _ _ ⟨C,D,F,G,v46,E,m⟩;exact aa
   refine WA m 999 0 [15] [5,6,14] (λv51 f=>f.1 184=sB v51) [] (λaX _ g m=>?_) ?_
   ·apply Ir e m<;>intro e m
    ·exact jj
    have⟨aY,e,m⟩:=Ou e m;simp-implicitDefEqProofs[e];refine sS m rN λ_ m=>?_;apply Ir e m<;>intro e m
    ·exact jj
    have⟨aZ,e,m⟩:=Ou e m;simp-implicitDefEqProofs[e];refine sS m rN λ_ m=>?_;exact jj
   intro _ v51 e m;apply Ir e m<;>intro e m
   ·apply wg 999;simp-implicitDefEqProofs[e];exact g _ _ ⟨_,_,_,_,_,by simp-implicitDefEqProofs[e],m⟩
   apply wg 3;simp-implicitDefEqProofs[e];refine wA 2 999 [15] [6,14] (λf=>f.1 16=sI (fv (eo a2.ak5 5) 12 11)) [] (λ_ g=>?_) ?_
   ·simp-implicitDefEqProofs[e];rcases Pb (eo a2.ak5 5) e with e|e
    ·apply wg 999;exact aj
    apply wg 999;exact aj
   intro _ e m;simp-implicitDefEqProofs[e];refine sw [1] ?_;intro _ e m;simp-implicitDefEqProofs[e];exact g _ _ ⟨_,_,_,_,_,by simp-implicitDefEqProofs[e],m⟩
  apply wg 3;simp-implicitDefEqProofs[e];apply Iq e m<;>intro e m
  ·refine sg 999 [8] ?_;intro a6 e m;simp-implicitDefEqProofs[e];refine sw [1] ?_;intro _ e m;apply Ir e m<;>intro e m
   ·simp-implicitDefEqProofs[e];refine sw [4,8] ?_;intro _ a7 e m;simp-implicitDefEqProofs[e];refine IX m (ih.1 (by simp-implicitDefEqProofs[e])) λ_ _ d69 m=>?_;exact au
   simp-implicitDefEqProofs[e];refine sw [2,7] ?_;intro _ _ e m;simp-implicitDefEqProofs[e];refine sw [2] ?_;intro _ d73 e m;simp-implicitDefEqProofs[e];refine sw [4] ?_;intro _ e m;simp-implicitDefEqProofs[e];refine sw [4,8] ?_;intro _ a8 e m;simp-implicitDefEqProofs[e];refine IX m (ih.1 (by simp-implicitDefEqProofs[e])) λ_ _ d79 m=>?_;exact aa
  apply wg 3;simp-implicitDefEqProofs[e];apply Iq e m<;>intro e m
  ·refine sg 4 [8] ?_;intro a_ e m;simp-implicitDefEqProofs[e];refine IX m (ih.1 (by simp-implicitDefEqProofs[e])) λX Y d84 m=>?_;simp-implicitDefEqProofs[e];refine Dt m 999 999 (λK f h=>∃I v87,(h=gk H b [sL Fm.av v87.lemmas,sL Tm.av v87.eh,sI v87.next]/\f.1 0=AV.fb b 0/\f.1 22=sI Y/\f.1 280=sB I/\bx f 4 [sL Ty.av a1.ir.ak9,sL Fm.av a1.ir.ala,sL Tm.av a1.vars,sL Tm.av a1.ala]/\bx f 5 (Pf.av a2).cells/\bx f 6 [sI 0,sI 0,sI 0,nL,nL]/\bx f 21 (Tm.av X).cells)/\K I v87=some (j,k,a)) ?_ (λK _ g m=>?_)
   ·rintro _ _ ⟨I,v87,E,m⟩;refine sw [10,7,8] ?_;intro a' e m;simp-implicitDefEqProofs[e];refine IX m (ih.1 (by simp-implicitDefEqProofs[e])) λ_ _ d94 m=>?_;exact aa
   apply Iq e m<;>intro e m
   ·exact ak2
   simp-implicitDefEqProofs[e];refine sw [5,8] ?_;intro _ d97 ba e m;simp-implicitDefEqProofs[e];refine qO m rN λ_ m=>?_;exact ak2
  apply wg 3;simp-implicitDefEqProofs[e];apply Iq e m<;>intro e m
  ·apply wg 999;simp-implicitDefEqProofs[e];refine sw [2] ?_;intro _ d101 e m;simp-implicitDefEqProofs[e];refine sw [4] ?_;intro _ e m;simp-implicitDefEqProofs[e];refine sw [4,8] ?_;intro _ Z e m;simp-implicitDefEqProofs[e];refine IX m (ih.1 (by simp-implicitDefEqProofs[e])) λ_ _ d107 m=>?_;exact aa
  apply wg 3;simp-implicitDefEqProofs[e];apply Iq e m<;>intro e m
  ·refine sg 999 [8] ?_;intro ad e m;simp-implicitDefEqProofs[e];refine IX m (ih.1 (by simp-implicitDefEqProofs[e])) λ_ _ d112 m=>?_;have⟨ae,e,m⟩:=Ou e m;simp-implicitDefEqProofs[e];refine sw [5] ?_;intro _ d115 e m;exact aa
  apply wg 3;simp-implicitDefEqProofs[e];apply Iq e m<;>intro e m
  ·refine sg 999 [8] ?_;intro af e m;simp-implicitDefEqProofs[e];refine sw [5,8,8] ?_;intro _ d119 ah ai e m;simp-implicitDefEqProofs[e];refine sw [1,12,8] ?_;intro _ ak e m;simp-implicitDefEqProofs[e];refine IX m (ih.1 (by simp-implicitDefEqProofs[e])) λ_ _ d126 m=>?_;exact aa
  apply wg 3;simp-implicitDefEqProofs[e];apply Iq e m<;>intro e m
  ·refine sg 8 [8] ?_;intro an e m;simp-implicitDefEqProofs[e];refine sw [5] ?_;intro L d130 e m;simp-implicitDefEqProofs[e];refine IX m (ih.1 (by simp-implicitDefEqProofs[e])) λM _ d133 m=>?_;simp-implicitDefEqProofs[e];refine sw [13] ?_;intro e m;apply wg 6;simp-implicitDefEqProofs[e];refine sw [2] ?_;intro N d135 e m;simp-implicitDefEqProofs[e];refine sw [4] ?_;intro _ e m;simp-implicitDefEqProofs[e];refine Dt m 999 999 (λA f h=>∃v138 v139 o v141 q v143 r v145 v146 s v148 t d i,(h=gk H b [sL Fm.av d135.lemmas,sL Tm.av d135.eh,sI d135.next]/\f.1 0=AV.fb b 0/\f.1 35=sI N/\bx f 4 [sL Ty.av a1.ir.ak9,sL Fm.av a1.ir.ala,sL Tm.av a1.vars,sL Tm.av a1.ala]/\bx f 5 (Pf.av a2).cells/\bx f 6 [sI 0,sI 0,sI 0,nL,nL]/\bx f 32 (Fm.av L).cells/\bx f 33 (Tm.av M).cells/\bx f 36 [sI v138,sL Ty.av v139]/\bx f 37 [sI o,sI v141,sI q,sL Ty.av v143,sL Tm.av r]/\bx f 38 [sI v145,sI v146,sI s,sT d Ty.av v148,sT i Tm.av t])/\A v138 v139 o v141 q v143 r v145 v146 s v148 t=some (j,k,a)) ?_ (λA _ g m=>?_)
   ·rintro _ _ ⟨v138,v139,o,v141,q,v143,r,v145,v146,s,v148,t,d,i,E,m⟩;have e:=Aj e E;simp-implicitDefEqProofs[e];refine sw [4,8] ?_;intro _ ao e m;simp-implicitDefEqProofs[e];refine sw [4,8] ?_;intro _ aq e m;simp-implicitDefEqProofs[e];refine IX m (ih.1 (by simp-implicitDefEqProofs[e])) λ_ _ d159 m=>?_;exact aa
   have⟨ar,e,m⟩:=Ou e m;simp-implicitDefEqProofs[e];refine sw [1] ?_;intro _ e m;apply Ir e m<;>intro e m
   ·simp-implicitDefEqProofs[e];exact g _ _ ⟨_,_,_,_,_,_,_,_,_,_,_,_,.full,.full,by simp-implicitDefEqProofs[e],m⟩
   simp-implicitDefEqProofs[e];refine sw [2,7] ?_;intro _ _ e m;simp-implicitDefEqProofs[e];refine sw [1] ?_;intro _ e m;simp-implicitDefEqProofs[e];refine sw [1] ?_;intro _ e m;simp-implicitDefEqProofs[e];refine sw [1] ?_;intro _ e m;simp-implicitDefEqProofs[e];refine sw [1] ?_;intro _ e m;simp-implicitDefEqProofs[e];exact g _ _ ⟨_,_,_,_,_,_,_,_,_,_,_,_,.gI,.gI,by simp-implicitDefEqProofs[e],m⟩
  apply wg 3;simp-implicitDefEqProofs[e];apply Iq e m<;>intro e m
  ·apply wg 999;simp-implicitDefEqProofs[e];refine sw [4] ?_;intro _ e m;simp-implicitDefEqProofs[e];refine sw [5] ?_;intro _ d172 e m;simp-implicitDefEqProofs[e];refine sw [4,8] ?_;intro _ aw e m;simp-implicitDefEqProofs[e];refine IX m (ih.1 (by simp-implicitDefEqProofs[e])) λ_ _ d177 m=>?_;exact au
  apply wg 3;simp-implicitDefEqProofs[e];apply Iq e m<;>intro e m
  ·refine sg 999 [8] ?_;intro ax e m;simp-implicitDefEqProofs[e];refine sw [5] ?_;intro _ d180 e m;simp-implicitDefEqProofs[e];refine sw [1] ?_;intro _ e m;simp-implicitDefEqProofs[e];refine sw [2] ?_;intro _ d183 e m;simp-implicitDefEqProofs[e];refine sw [1] ?_;intro _ e m;apply Ir e m<;>intro e m
   ·simp-implicitDefEqProofs[e];refine sw [4,8] ?_;intro _ ay e m;simp-implicitDefEqProofs[e];refine sw [4,8] ?_;intro _ az e m;simp-implicitDefEqProofs[e];refine IX m (ih.1 (by simp-implicitDefEqProofs[e])) λ_ _ d191 m=>?_;exact au
   simp-implicitDefEqProofs[e];refine IX m (ih.1 (by simp-implicitDefEqProofs[e])) λ_ _ d194 m=>?_;refine Il e m λe m=>?_;simp-implicitDefEqProofs[e];refine sw [2,7] ?_;intro _ _ e m;simp-implicitDefEqProofs[e];refine sw [2] ?_;intro _ d198 e m;simp-implicitDefEqProofs[e];refine sw [4,8] ?_;intro _ aA e m;simp-implicitDefEqProofs[e];refine sw [4] ?_;intro _ e m;simp-implicitDefEqProofs[e];refine sw [4,8] ?_;intro _ aB e m;simp-implicitDefEqProofs[e];refine IX m (ih.1 (by simp-implicitDefEqProofs[e])) λ_ _ d206 m=>?_;exact aa
  apply wg 1;simp-implicitDefEqProofs[e];refine wA 999 0 [61] [4,5,6] (λf=>f.1 0=AV.fb b 0/\f.1 567=sB (fv (eo a2.ak5 16) true (eo a2.ak5 17))) [] (λ_ g=>?_) ?_
  ·rcases Pb (eo a2.ak5 16) e with e|e
   ·exact aj
   exact aj
  intro _ e m;apply Iq e m<;>intro e m
  ·apply wg 999;have⟨aC,aD,aE,aF,d216,e,m⟩:=Bo5 e m;simp-implicitDefEqProofs[e];refine Cf (ih.2.2 (by simp-implicitDefEqProofs[e]) e.2) ?_;refine sw [7,8] ?_;intro aG e m;simp-implicitDefEqProofs[e];refine sw [5] ?_;intro _ d219 e m;exact aa
  apply wg 3;simp-implicitDefEqProofs[e];apply Iq e m<;>intro e m
  ·refine sg 999 [8] ?_;intro aH e m;simp-implicitDefEqProofs[e];refine IX m (ih.1 (by simp-implicitDefEqProofs[e])) λ_ _ d224 m=>?_;exact au
  apply wg 3;simp-implicitDefEqProofs[e];apply Ir e m<;>intro e m
  ·refine sg 999 [8] ?_;intro aI e m;simp-implicitDefEqProofs[e];refine IX m (ih.1 (by simp-implicitDefEqProofs[e])) λ_ _ d228 m=>?_;exact au
  refine sg 6 [8] ?_;intro aJ e m;simp-implicitDefEqProofs[e];refine IX m (ih.1 (by simp-implicitDefEqProofs[e])) λaK aL d232 m=>?_;simp-implicitDefEqProofs[e];refine sw [5] ?_;intro aM d234 e m;simp-implicitDefEqProofs[e];refine WA m 999 999 [52] [6,51,53] (λv236 f=>f.1 0=AV.fb b 0/\f.1 638=sB v236) [7] (λaN _ g m=>?_) ?_
  ·apply Iq e m<;>intro e m
   ·exact jj
   refine sw [8,8] ?_;intro aO aP e m;simp-implicitDefEqProofs[e];refine sS m rN λ_ m=>?_;exact jj
  intro _ v236 e m;simp-implicitDefEqProofs[e];refine sw [2,7] ?_;intro _ _ e m;simp-implicitDefEqProofs[e];refine sw [2] ?_;intro _ d246 e m;simp-implicitDefEqProofs[e];refine sw [2] ?_;intro _ d248 e m;simp-implicitDefEqProofs[e];refine sw [2] ?_;intro _ d250 e m;exact aa
 ·intro H a0 a1 a2 j k R S a b c hm;rw[jU] at hm;have l:=eU c;refine fC.Lo c ?_;have e:=l;refine wi ak_ func157 [] [] 7 ?_;have⟨x2,e,m⟩:=Ou e hm;simp-implicitDefEqProofs[e];refine sw [2] ?_;intro O _ e m;simp-implicitDefEqProofs[e];refine sw [13] ?_;intro e m;refine sg 7 [8] ?_;intro aQ e m;simp-implicitDefEqProofs[e];refine IX m (ih.1 (by simp-implicitDefEqProofs[e])) λP _ d269 m=>?_;simp-implicitDefEqProofs[e];refine sw [13] ?_;intro e m;apply wg 9;simp-implicitDefEqProofs[e];refine sw [2] ?_;intro Q d271 e m;simp-implicitDefEqProofs[e];refine sw [2] ?_;intro _ d273 e m;simp-implicitDefEqProofs[e];refine sw [2] ?_;intro _ d275 e m;simp-implicitDefEqProofs[e];refine sw [4] ?_;intro _ e m;simp-implicitDefEqProofs[e];refine sw [4,8] ?_;intro _ aR e m;simp-implicitDefEqProofs[e];refine IX m (ih.1 (by simp-implicitDefEqProofs[e])) λ_ _ d281 m=>?_;simp-implicitDefEqProofs[e];refine sw [13] ?_;intro e m;apply wg 4;simp-implicitDefEqProofs[e];refine sw [1] ?_;intro _ e m;simp-implicitDefEqProofs[e];refine Dt m 999 999 (λB f h=>∃u v w x y,(h=gk H b [sL Fm.av d281.lemmas,sL Tm.av d281.eh,sI d281.next]/\f.1 13=sI Q/\bx f 6 [sI 0,nL]/\bx f 7 [sI 0,sI 0,sI 0,nL,nL]/\bx f 8 [sI 0,sI 0,sI 0,nL,nL]/\bx f 10 (Ty.av O).cells/\bx f 12 (Tm.av P).cells/\bx f 16 [sI u,sI v,sI w,sL Ty.av x,sL Tm.av y])/\B u v w x y=some (j,k,R,S,a)) ?_ (λB _ g m=>?_)
  ·rintro _ _ ⟨u,v,w,x,y,E,m⟩;exact aa
  apply Ir e m<;>intro e m
  ·simp-implicitDefEqProofs[e];exact g _ _ ⟨_,_,_,_,_,by simp-implicitDefEqProofs[e],m⟩
  simp-implicitDefEqProofs[e];refine sw [4] ?_;intro _ e m;simp-implicitDefEqProofs[e];refine sw [4] ?_;intro _ e m;simp-implicitDefEqProofs[e];exact g _ _ ⟨_,_,_,_,_,by simp-implicitDefEqProofs[e],m⟩
def Dk(T:eN){H:dY}{a0:dT}{a1:er}{a2:Pf}{d:Tm}{f:Int}{a:dT}{b:Nat}(c:H[b]?=some [sL Fm.av a0.lemmas,sL Tm.av a0.eh,sI a0.next]){n:Nat}(hm:ed n a0 a1 a2=some (d,f,a)):eO prog T 75 [AV.fb b 0,er.av a1,Pf.av a2] H (AV.tuple [Tm.av d,sI f]) (gk H b [sL Fm.av a.lemmas,sL Tm.av a.eh,sI a.next]):=(dL T n).1 c hm
@[reducible,instance] def QG:=@Kc.mk prog 75 _ @Dk
end
def qy{n:Nat}:C2 prog 76 (jt n) Tm.av Tm.av (sL sI):=by
 refine i2 λn ih=>u2 5 func76 λT H a0 a1 r m e=>?_;rw[jt] at m;simp[e];apply Iq e m<;>intro e m
 ·apply wg 999;simp[e];refine Wn m 999 (λs1 f h=>h=H/\f.1 1=sL sI a1/\f.1 5=sI s1/\bx f 2 (Tm.av a0).cells/\bx f 4 [sI 0,sI 0,sI 0,nL,nL]) abE (λs1 _ _ _ _ _ E m z p=>?_);have e:=Aj e E;apply Ir e m<;>intro e m
  ·cases m;have m:=Qb z
   try dsimp only at m
   exact au
  exact aa
 apply wg 6;simp[e];refine Wj m 999 999 (λk f h=>∃v12 a,(h=H/\f.1 7=sT a sI v12/\bx f 2 (Tm.av a0).cells/\bx f 4 [sI 0,sI 0,sI 0,nL,nL]/\bx f 6 [sI a0.ak5,sI 0,sI a0.dM.ak5,sL Ty.av a0.dM.ak6,nL])/\k v12=some r) (λk _ g m=>?_) ?_
 ·apply Ir e m<;>intro e m
  ·simp[e];exact g _ _ ⟨_,.gI,abE,m⟩
  refine sw [9,0] ?_;intro e m;refine Ad (f:=sI) [] a1 (hS.full (D:=[])) Fb e.2 ?_;refine sw [9,0] ?_;intro e m;refine Ad (f:=sI) (fR [] a1) [a0.ak8] (hS.new (D:=[43]) (d:=43) aak) Fb e.2 ?_;simp[e];exact g _ _ ⟨_,(.loc 47 1),abE,m⟩
 rintro _ _ ⟨v12,a,E,m⟩;have e:=Aj e E;simp[e];refine Wn m 999 (λi f h=>∃b c,(h=H/\f.1 7=sT b sI v12/\f.1 8=sI i.1/\bx f 2 (Tm.av a0).cells/\bx f 4 [sI 0,sI 0,sI 0,nL,nL]/\bx f 6 [sI a0.ak5,sI 0,sI a0.dM.ak5,sL Ty.av a0.dM.ak6,sT c Tm.av i.2])/\Ow f [65] c i.2) (by exact⟨a,.full,abE,hS.full⟩) (λi l _ _ _ _ E m z p=>?_);have⟨v24,o⟩:=i;have⟨b,c,E,j⟩:=E;have e:=Aj e E;dsimp only[kp]at m;apply Ir e m<;>intro e m
 ·cases m;have m:=Qb z;dsimp only[kp]at m;exact au
 refine sw [8,0,18,9,0] ?_;intro s q e m;refine Ad (f:=Tm.av) o [q] j zl e.2 ?_;simp[e];cases m;exact p _ _ _ ⟨b,(.loc 65 (l.fi 65+1)),abE,(On 65)⟩ z
@[reducible,instance] def YS:=@Kc.mk prog 76 _ @qy
def yM(T:eN){H:dY}{a0:List Fm}{a1:List Tm}{a2:Sq}{a3:Pf}{a:Tm}{b:Int}(hm:oh a0 a1 a2 a3=some (a,b)):eO prog T 23 [sL Fm.av a0,sL Tm.av a1,Sq.av a2,Pf.av a3] H (AV.tuple [Tm.av a,sI b]) H:=by
 rw[oh] at hm;refine fC.vt (Post:=λx K=>x=AV.tuple [Tm.av a,sI b]/\∃X,K=H++X) ?_ (λ_ _ h=>⟨_,h.2.choose_spec,by rw[h.1];simp[AV.low,AV.iE],h.1,rfl⟩);have e:=trivial;refine wi ak_ func23 [42] [] 999 ?_;have m:=hm;refine sw [0,2,7,0,1,7,0,1,12,0,3,0,3] ?_;intro _ _ _ _ _ _ d7 _ _ d10 e m;exact aa
@[reducible,instance] def aa5:=@Kc.mk prog 23 _ @yM
def ja{n:Nat}:C1 prog 162 (pw n) sB Vl.av:=by
 refine i1 λn ih=>u1 8 func162 λT H a0 r m e=>?_;rw[pw] at m;simp[e];apply Iq e m<;>intro e m
 ·apply wg 1;simp[e];refine wB 999 999 [] [] (λf=>f.1 2=sB (fv (pd a0.num 0) (fv (eo (eA a0.list) 0) (eo (eA a0.ak6) 0) false) false)) λ_ g=>?_;rcases Pb (pd a0.num 0) e with e|e;rotate_left
  ·exact aj
  rcases Pb (eo (eA a0.list) 0) e with e|e
  ·exact aj
  exact aj
 apply wg 3;simp[e];apply Iq e m<;>intro e m
 ·apply wg 999;simp[e];refine YI e m 0 (λa _ f h=>h=H/\f.1 27=sL sI a0.list/\f.1 28=sI (eA a0.list)/\f.1 29=sI a/\bx f 1 (Vl.av a0).cells) abE (λa _ _ _ _ _ _ _ E e m z p=>?_) (λ_ _ _ _ E m=>?_)
  ·exact aa
  have e:=Aj e E;refine sg 5 [11,0] ?_;intro e m;refine wB 999 999 [] [] (λf=>f.1 2=sB (fv (eo a0.num 0) (eo (eA a0.ak6) 0) false)) λ_ g=>?_;exact aa
 apply wg 3;simp[e];apply Iq e m<;>intro e m
 ·apply wg 1;simp[e];refine wB 999 999 [] [] (λf=>f.1 2=sB (fv (eo a0.num 0) (fv (eo (eA a0.list) 0) (eo (eA a0.ak6) 0) false) false)) λ_ g=>?_;rcases Pb (eo a0.num 0) e with e|e;rotate_left
  ·exact aj
  rcases Pb (eo (eA a0.list) 0) e with e|e
  ·exact aj
  exact aj
 refine sg 3 [0,14] ?_;intro e m;apply wg 1;simp[e];refine WB m 999 999 [] [] (λv21 f=>f.1 2=sB v21) λb _ g m=>?_;apply Ir e m<;>intro e m
 ·exact jj
 apply Ir e m<;>intro e m
 ·exact jj
 apply Ir e m<;>intro e m
 ·exact jj
 refine sw [8,0,15] ?_;intro c _ e m;apply Ir e m<;>intro e m
 ·exact jj
 refine sw [8,0,15] ?_;intro d _ e m;exact jj
@[reducible,instance] def Yt:=@Kc.mk prog 162 _ @ja
def Cp{n:Nat}:C1 prog 163 (xa n) sI Vl.av:=by
 refine i1 λn ih=>v1 func163 λT H a0 r m e=>?_;rw[xa] at m;simp[e];exact Wb e m 999 9 [7,8] [] (λs2 f=>f.1 3=sI s2)
@[reducible,instance] def YN:=@Kc.mk prog 163 _ @Cp
def Cy:C1 prog 119 uI sI Vl.av:=by
 refine v1 func119 λT H a0 r m e=>?_;rw[uI] at m;exact aa
@[reducible,instance] def X7:=@Kc.mk prog 119 _ @Cy
def Ce{n:Nat}:C1 prog 120 (uL n) Ty.av Vl.av:=by
 refine i1 λn ih=>v1 func120 λT H a0 r m e=>?_;rw[uL] at m;exact aa
@[reducible,instance] def Yb:=@Kc.mk prog 120 _ @Ce
def AE:C1 prog 78 og (t2 Ty.av sI) Vl.av:=by
 refine v1 func78 λT H a0 r m e=>?_;rw[og] at m;exact aa
@[reducible,instance] def Wx:=@Kc.mk prog 78 _ @AE
def CA{n:Nat}:C1 prog 122 (pQ n) sI Ty.av:=by
 refine i1 λn ih=>v1 func122 λT H a0 r m e=>?_;rw[pQ] at m;exact aa
@[reducible,instance] def YO:=@Kc.mk prog 122 _ @CA
def D6:C1 prog 80 yW (t2 sB sI) Ty.av:=by
 refine v1 func80 λT H a0 r m e=>?_;rw[yW] at m;exact aa
@[reducible,instance] def abl:=@Kc.mk prog 80 _ @D6
def fq(T:eN):∀(n:Nat),(∀{H:dY} {a0:dV} {a1:Tm} {a2:List dJ} {r0:dJ} {w:dV} {u:Nat} (B:H[u]?=some [sI a0.used,sI a0.qQ,sB a0.out]) (hm:fu n a0 a1 a2=some (r0,w)),eO prog T 81 [AV.fb u 0,Tm.av a1,sL dJ.av a2] H (dJ.av r0) (gk H u [sI w.used,sI w.qQ,sB w.out]))/\(∀{H:dY} {a0:dV} {a1:dJ} {a2:dJ} {r0:dJ} {w:dV} {u:Nat} (B:H[u]?=some [sI a0.used,sI a0.qQ,sB a0.out]) (hm:eJ n a0 a1 a2=some (r0,w)),eO prog T 82 [AV.fb u 0,dJ.av a1,dJ.av a2] H (dJ.av r0) (gk H u [sI w.used,sI w.qQ,sB w.out])):=by
  intro n
  induction n with
  |zero=>
    refine⟨?_,?_⟩
    all_goals(intro _ _;intros;rename_i hm;cases hm)
  |succ n ih=>
 refine⟨?_,?_⟩
 ·intro H a0 a1 a2 r0 w u B hm;rw[fu] at hm;have ak:=eU B;refine fC.Lo B ?_;have e:=ak;refine wi ak_ func81 [] [(1,true,[])] 3 ?_;simp[e];refine wA 999 999 [2] [4,6] (λf=>f.1 0=AV.fb u 0/\f.1 30=sB (fv a0.out true (eo a0.used a0.qQ))) [7,13,13,0] (λ_ g=>?_) ?_
  ·exact aa
  intro _ e m;refine YI e m 999 (λj7 s8 f h=>∃t,(h=gk H u [sI s8.2.used,sI s8.2.qQ,sB s8.2.out]/\f.1 0=AV.fb u 0/\f.1 2=sL dJ.av a2/\f.1 7=sT t dJ.av s8.1/\f.1 64=sL Tm.av a1.ak6/\f.1 65=sI (eA a1.ak6)/\f.1 66=sI j7/\bx f 4 (Tm.av a1).cells/\bx f 6 [sI 0,nL,nL,sI 0,sI 0,sI 0,nL,nL,nL])/\Ow f [76] t s8.1) (by exact⟨.full,abE,hS.full⟩) (λj7 _ s8 aG _ _ _ _ E e m z p=>?_) (λs8 aG _ _ E m=>?_)
  ·have⟨b,aU⟩:=s8;have⟨t,E,C⟩:=E;have e:=Aj e E;dsimp only[kp]at m;simp[e];refine E9 m (ih.1 abE) λaV d19 m=>?_;refine sw [9,0] ?_;intro e m;refine Ao (f:=dJ.av) b [aV] C V6 e.2 ?_;refine sw [7,0] ?_;intro e m;cases m;exact p _ _ _ ⟨(.loc 76 (aG.fi 76+1)),abE,(On 76)⟩ z
  have⟨b,aU⟩:=s8;have⟨t,E,C⟩:=E;have e:=Aj e E;dsimp only[eB,kp]at m;apply Iq e m<;>intro e m
  ·refine sw [8,8,0] ?_;intro a7 a8 e m;refine sZ m (ih.2 abE) λ_ d23 m=>?_;exact au
  refine sw [13] ?_;intro e m;apply Iq e m<;>intro e m
  ·refine sw [8,0] ?_;intro a_ e m;refine Wn m 1 (λc f h=>∃i,(h=gk H u [sI c.2.2.2.2.2.2.2.2.2.2.used,sI c.2.2.2.2.2.2.2.2.2.2.qQ,sB c.2.2.2.2.2.2.2.2.2.2.out]/\f.1 0=AV.fb u 0/\f.1 7=sT i dJ.av b/\f.1 11=sI c.1/\bx f 6 [sI 0,nL,nL,sI 0,sI 0,sI 0,nL,nL,nL]/\bx f 10 [sI c.2.1,sL sI c.2.2.1,sL dJ.av c.2.2.2.1,sI c.2.2.2.2.1,sI c.2.2.2.2.2.1,sI c.2.2.2.2.2.2.1,sL Ty.av c.2.2.2.2.2.2.2.1,sL Tm.av c.2.2.2.2.2.2.2.2.1,sL dJ.av c.2.2.2.2.2.2.2.2.2.1])/\Ow f [76] i b) (by exact⟨t,abE,C⟩) (λc _ _ _ _ aH E m z p=>?_);have⟨aI,aJ,aK,aL,v37,aM,aN,v40,aO,aP,ae⟩:=c;have⟨i,E,G⟩:=E;have e:=Aj e E;dsimp only[vJ]at m;simp[e];refine Wj m 999 0 (λaQ f h=>∃an j,(h=gk H u [sI ae.used,sI ae.qQ,sB ae.out]/\f.1 0=AV.fb u 0/\f.1 7=sT j dJ.av b/\f.1 11=sI aI/\f.1 120=sB an/\bx f 6 [sI 0,nL,nL,sI 0,sI 0,sI 0,nL,nL,nL]/\bx f 10 [sI aJ,sL sI aK,sL dJ.av aL,sI v37,sI aM,sI aN,sL Ty.av v40,sL Tm.av aO,sL dJ.av aP])/\Ow f [76] j b/\aQ an=some aH) (λaQ _ g m=>?_) ?_
   ·have⟨a',e,m⟩:=Ou e m;apply Ir e m<;>intro e m
    ·simp[e];exact g _ _ ⟨false,i,abE,G,m⟩
    simp[e];exact g _ _ ⟨(lJ ae.out),i,abE,G,m⟩
   rintro _ _ ⟨an,j,E,I,m⟩;have e:=Aj e E;apply Ir e m<;>intro e m
   ·apply wg 999;cases m;have m:=Qb z;dsimp only[vJ]at m;exact au
   apply wg 2;simp[e];refine Dt m 999 999 (λaR f h=>∃v51 ao v53 aq ar aw ax ay v59 J v,(h=gk H u [sI J.used,sI J.qQ,sB J.out]/\f.1 0=AV.fb u 0/\f.1 7=sT v dJ.av b/\f.1 11=sI aI/\bx f 6 [sI 0,nL,nL,sI 0,sI 0,sI 0,nL,nL,nL]/\bx f 10 [sI v51,sL sI ao,sL dJ.av v53,sI aq,sI ar,sI aw,sL Ty.av ax,sL Tm.av ay,sL dJ.av v59])/\Ow f [76] v b/\aR v51 ao v53 aq ar aw ax ay v59 J=some aH) ?_ (λaR _ g m=>?_)
   ·rintro _ _ ⟨v51,ao,v53,aq,ar,aw,ax,ay,v59,J,v,E,az,m⟩;have e:=Aj e E;simp[e];cases m;exact p _ _ _ ⟨v,abE,az⟩ z
   refine sw [8,0] ?_;intro ba e m;refine E9 m (ih.2 abE) λ_ d66 m=>?_;apply Iq e m<;>intro e m
   ·simp[e];exact g _ _ ⟨aJ,aK,aL,v37,aM,aN,v40,aO,aP,d66,j,abE,I,m⟩
   simp[e];refine E9 m (ih.2 abE) λy d68 m=>?_;simp[e];exact g _ _ ⟨y.num,y.list,y.pair,y.body.ak5,y.body.ak8,y.body.dM.ak5,y.body.dM.ak6,y.body.ak6,y.env,d68,j,abE,I,m⟩
  apply Iq e m<;>intro e m
  ·refine sw [8,8,9,0] ?_;intro aW aX e m;refine Ad (f:=sI) [aW.num] aX.list (hS.full (D:=[])) Fb e.2 ?_;exact au
  refine sw [14,8,8,0] ?_;intro bb bc e m;refine Wn m 1 (λd f h=>∃k,(h=gk H u [sI d.2.2.2.2.2.2.2.2.2.2.used,sI d.2.2.2.2.2.2.2.2.2.2.qQ,sB d.2.2.2.2.2.2.2.2.2.2.out]/\f.1 0=AV.fb u 0/\f.1 7=sT k dJ.av b/\f.1 14=sI d.1/\bx f 6 [sI 0,nL,nL,sI 0,sI 0,sI 0,nL,nL,nL]/\bx f 13 [sI d.2.1,sL sI d.2.2.1,sL dJ.av d.2.2.2.1,sI d.2.2.2.2.1,sI d.2.2.2.2.2.1,sI d.2.2.2.2.2.2.1,sL Ty.av d.2.2.2.2.2.2.2.1,sL Tm.av d.2.2.2.2.2.2.2.2.1,sL dJ.av d.2.2.2.2.2.2.2.2.2.1])/\Ow f [76] k b) (by exact⟨t,abE,C⟩) (λd _ _ _ _ aS E m z p=>?_);have⟨K,v85,aA,v87,aB,aC,aD,v91,aE,v93,af⟩:=d;have⟨k,E,L⟩:=E;have e:=Aj e E;dsimp only[vJ]at m;simp[e];refine wj 999 0 (λf h=>∃l,(h=gk H u [sI af.used,sI af.qQ,sB af.out]/\f.1 0=AV.fb u 0/\f.1 7=sT l dJ.av b/\f.1 14=sI K/\f.1 172=sB (fv (pd K 0) (lJ af.out) false)/\bx f 6 [sI 0,nL,nL,sI 0,sI 0,sI 0,nL,nL,nL]/\bx f 13 [sI v85,sL sI aA,sL dJ.av v87,sI aB,sI aC,sI aD,sL Ty.av v91,sL Tm.av aE,sL dJ.av v93])/\Ow f [76] l b) (λ_ g=>?_) ?_
  ·rcases Pb (pd K 0) e with e|e
   ·simp[e];exact g _ _ ⟨k,abE,L⟩
   simp[e];exact g _ _ ⟨k,abE,L⟩
  rintro _ _ ⟨l,E,M⟩;have e:=Aj e E;apply Ir e m<;>intro e m
  ·apply wg 999;cases m;have m:=Qb z;dsimp only[vJ]at m;exact au
  apply wg 2;simp[e];refine Dt m 3 999 (λaT f h=>∃aF N O P Q R v105 S v107 A o,(h=gk H u [sI A.used,sI A.qQ,sB A.out]/\f.1 0=AV.fb u 0/\f.1 7=sT o dJ.av b/\f.1 14=sI K/\bx f 6 [sI 0,nL,nL,sI 0,sI 0,sI 0,nL,nL,nL]/\bx f 13 [sI aF,sL sI N,sL dJ.av O,sI P,sI Q,sI R,sL Ty.av v105,sL Tm.av S,sL dJ.av v107])/\Ow f [76] o b/\aT aF N O P Q R v105 S v107 A=some aS) ?_ (λaT _ g m=>?_)
  ·rintro _ _ ⟨aF,N,O,P,Q,R,v105,S,v107,A,o,E,ah,m⟩;have e:=Aj e E;simp[e];cases m;exact p _ _ _ ⟨o,abE,ah⟩ z
  refine sw [8,8,0] ?_;intro aY aZ e m;refine sZ m (ih.2 abE) λq d115 m=>?_;simp[e];refine Wj m 999 999 (λai f h=>∃v117 U V W X Y Z v124 ad x a,(h=gk H u [sI x.used,sI x.qQ,sB x.out]/\f.1 0=AV.fb u 0/\f.1 7=sT a dJ.av b/\f.1 14=sI K/\bx f 6 [sI 0,nL,nL,sI 0,sI 0,sI 0,nL,nL,nL]/\bx f 13 [sI v85,sL sI aA,sL dJ.av v87,sI aB,sI aC,sI aD,sL Ty.av v91,sL Tm.av aE,sL dJ.av v93]/\bx f 15 [sI v117,sL sI U,sL dJ.av V,sI W,sI X,sI Y,sL Ty.av Z,sL Tm.av v124,sL dJ.av ad])/\Ow f [76] a b/\ai v117 U V W X Y Z v124 ad x=some aS) (λai _ g m=>?_) ?_
  ·apply Iq e m<;>intro e m
   ·simp[e];exact g _ _ ⟨q.num,q.list,q.pair,q.body.ak5,q.body.ak8,q.body.dM.ak5,q.body.dM.ak6,q.body.ak6,q.env,d115,l,abE,M,m⟩
   refine sw [8,0] ?_;intro a6 e m;refine sZ m (ih.2 abE) λr d131 m=>?_;simp[e];exact g _ _ ⟨r.num,r.list,r.pair,r.body.ak5,r.body.ak8,r.body.dM.ak5,r.body.dM.ak6,r.body.ak6,r.env,d131,l,abE,M,m⟩
  rintro _ _ ⟨v117,U,V,W,X,Y,Z,v124,ad,x,a,E,F,m⟩;have e:=Aj e E;apply Iq e m<;>intro e m
  ·simp[e];exact g _ _ ⟨v85,aA,v87,aB,aC,aD,v91,aE,v93,x,a,abE,F,m⟩
  simp[e];refine E9 m (ih.2 abE) λs d134 m=>?_;simp[e];exact g _ _ ⟨s.num,s.list,s.pair,s.body.ak5,s.body.ak8,s.body.dM.ak5,s.body.dM.ak6,s.body.ak6,s.env,d134,a,abE,F,m⟩
 ·intro H a0 a1 a2 r0 w u B hm;rw[eJ] at hm;have ak:=eU B;refine fC.Lo B ?_;have e:=ak;refine wi ak_ func82 [] [] 999 ?_;have⟨e,m⟩:=Ck e hm;simp[e];refine Ad (f:=dJ.av) a1.env [a2] (hS.full (D:=[])) V6 e.2 ?_;simp[e];refine sZ m (ih.1 abE) λ_ d136 m=>?_;exact au
def Ar(T:eN){H:dY}{a0:dV}{a1:Tm}{a2:List dJ}{d:dJ}{a:dV}{b:Nat}(c:H[b]?=some [sI a0.used,sI a0.qQ,sB a0.out]){n:Nat}(hm:fu n a0 a1 a2=some (d,a)):eO prog T 81 [AV.fb b 0,Tm.av a1,sL dJ.av a2] H (dJ.av d) (gk H b [sI a.used,sI a.qQ,sB a.out]):=(fq T n).1 c hm
@[reducible,instance] def Od:=@Kc.mk prog 81 _ @Ar
def AN(T:eN){H:dY}{a0:dV}{a1 a2 d:dJ}{a:dV}{b:Nat}(c:H[b]?=some [sI a0.used,sI a0.qQ,sB a0.out]){n:Nat}(hm:eJ n a0 a1 a2=some (d,a)):eO prog T 82 [AV.fb b 0,dJ.av a1,dJ.av a2] H (dJ.av d) (gk H b [sI a.used,sI a.qQ,sB a.out]):=(fq T n).2 c hm
@[reducible,instance] def NB:=@Kc.mk prog 82 _ @AN
def Dm{n:Nat}:C1 prog 83 (yr n) dJ.av Vl.av:=by
 refine i1 λn ih=>v1 func83 λT H a0 r m e=>?_;rw[yr] at m;simp[e];refine Td e m 999 14 [12,13] [2] [23] (λs2=>s2) (λs2 a f=>bx f 3 [sI a0.num,sL sI a0.list,sT a dJ.av s2,sI 0,sI 0,sI 0,nL,nL,nL]) λh _ s2 c _ _ _ _ E e m z p=>?_;have⟨a,E,b⟩:=E;refine sw [20,0,18,9,0] ?_;intro d e m;refine Ad (f:=dJ.av) s2 [d] b V6 e.2 ?_;simp[e];cases m;exact p _ _ _ ⟨(.loc 23 (c.fi 23+1)),abE,(On 23)⟩ z
@[reducible,instance] def adO:=@Kc.mk prog 83 _ @Dm
def xC{n:Nat}:C2 prog 84 (n8 n) Vl.av dJ.av Ty.av:=by
 refine i2 λn ih=>v2 func84 λT H a0 a1 r m e=>?_;rw[n8] at m;refine Il e m λe m=>?_;apply Iq e m<;>intro e m
 ·refine sw [9,0] ?_;intro e m;refine Ao (f:=sI) [] a0.list (hS.full (D:=[])) Fb e.2 ?_;exact au
 refine sw [12,8,8,0,18,8,8,0,18] ?_;intro c d a h i b e m;have e:=Aj e (show AV.agg [sI 3,sI 0,AV.slice .gI [],AV.slice .gI [Vl.av a,Vl.av b]]=Vl.av (Vl.mk 3 0 [] [a,b]) by rw[Vl.eR];rfl);exact au
@[reducible,instance] def Yl:=@Kc.mk prog 84 _ @xC
def jK(T:eN){H:dY}{a0:Tm}{a1:List Vl}{a2:Int}{B:Vl}{C D:Int}(hm:mi a0 a1 a2=some (B,C,D)):eO prog T 24 [Tm.av a0,sL Vl.av a1,sI a2] H (AV.tuple [Vl.av B,sI C,sI D]) H:=by
 rw[mi] at hm;refine fC.vt (Post:=λx K=>x=AV.tuple [Vl.av B,sI C,sI D]/\∃X,K=H++X) ?_ (λ_ _ h=>⟨_,h.2.choose_spec,by rw[h.1];simp[AV.low,AV.iE],h.1,rfl⟩);have e:=trivial;refine wi ak_ func24 [80] [(29,true,[])] 999 ?_;have m:=hm;refine sw [0,2,7,0] ?_;intro _ _ e m;refine YI e m 0 (λF w f h=>h=H/\f.1 1=sL Vl.av a1/\f.1 2=sI a2/\f.1 30=sL Vl.av a1/\f.1 31=sI (eA a1)/\f.1 32=sI F/\bx f 3 (Tm.av a0).cells/\bx f 6 [sI 0,sI 0,nL,nL]/\bx f 9 [sI w.1,sL Ty.av w.2]) abE (λF _ w _ _ _ _ G E e m z p=>?_) (λw _ _ _ E m=>?_)
 ·have⟨b,c⟩:=w;have e:=Aj e E;dsimp only[kp]at m;refine sg 14 [0,2,0,13] ?_;intro _ _ e m;apply wg 3;simp[e];refine Dt m 999 999 (λy f h=>∃d,(h=H/\f.1 1=sL Vl.av a1/\f.1 2=sI a2/\f.1 30=sL Vl.av a1/\f.1 31=sI (eA a1)/\f.1 32=sI F/\f.1 56=sB d/\bx f 3 (Tm.av a0).cells/\bx f 6 [sI 0,sI 0,nL,nL]/\bx f 9 [sI b,sL Ty.av c])/\y d=some G) ?_ (λy _ g m=>?_)
  ·rintro _ _ ⟨d,E,m⟩;exact aa
  apply Iq e m<;>intro e m
  ·exact jj
  refine sw [8,0] ?_;intro S e m;refine qO m im λ_ m=>?_;exact jj
 have⟨b,c⟩:=w;have e:=Aj e E;apply wg 10;dsimp only[eB,kp]at m;refine sw [0,2,0,14] ?_;intro _ _ e m;apply wg 3;simp[e];refine wj 999 999 (λf h=>h=H/\f.1 1=sL Vl.av a1/\f.1 2=sI a2/\f.1 76=sB (fv (o7 a2 0) true (oQ a2 65536))/\bx f 3 (Tm.av a0).cells/\bx f 6 [sI 0,sI 0,nL,nL]/\bx f 9 [sI b,sL Ty.av c]) (λ_ g=>?_) ?_
 ·rcases Pb (o7 a2 0) e with e|e
  ·exact aj
  exact aj
 rintro _ _ E;refine sw [10,7,0,2,0] ?_;intro _ d31 e m;refine Wr e m 0 (λi a f h=>h=H++[[sI a.2.2.2.2.2.2.2.2.2.1,sI a.2.2.2.2.2.2.2.2.2.2.1,sB a.2.2.2.2.2.2.2.2.2.2.2]]/\f.1 17=AV.fb (List.length H) 0/\f.1 84=sL Vl.av a1/\f.1 85=sI (eA a1)/\f.1 86=sI i/\bx f 6 [sI 0,sI 0,nL,nL]/\bx f 9 [sI b,sL Ty.av c]/\bx f 18 [sI a.1,sL sI a.2.1,sL dJ.av a.2.2.1,sI a.2.2.2.1,sI a.2.2.2.2.1,sI a.2.2.2.2.2.1,sL Ty.av a.2.2.2.2.2.2.1,sL Tm.av a.2.2.2.2.2.2.2.1,sL dJ.av a.2.2.2.2.2.2.2.2.1]) abE (λa _ _ _ E m=>?_) (λi _ a _ _ _ _ I E e m z p=>?_)
 ·have⟨J,L,M,N,v46,O,P,v49,Q,v51,R,v53⟩:=a;have e:=Aj e E;apply wg 999;dsimp only[eB,HF]at m;exact aa
 have⟨J,L,M,N,v46,O,P,v49,Q,v51,R,v53⟩:=a;have e:=Aj e E;dsimp only[HF]at m;apply wg 5;simp[e];refine Dt m 999 999 (λA f h=>∃j k l v59 n o q r s t u v,(h=H++[[sI t,sI u,sB v]]/\f.1 17=AV.fb (List.length H) 0/\f.1 84=sL Vl.av a1/\f.1 85=sI (eA a1)/\f.1 86=sI i/\bx f 6 [sI 0,sI 0,nL,nL]/\bx f 9 [sI b,sL Ty.av c]/\bx f 18 [sI j,sL sI k,sL dJ.av l,sI v59,sI n,sI o,sL Ty.av q,sL Tm.av r,sL dJ.av s])/\A j k l v59 n o q r s t u v=some I) ?_ (λA _ g m=>?_)
 ·rintro _ _ ⟨j,k,l,v59,n,o,q,r,s,t,u,v,E,m⟩;exact aa
 apply Iq e m<;>intro e m
 ·simp[e];exact g _ _ ⟨_,_,_,_,_,_,_,_,_,_,_,_,abE,m⟩
 refine sw [0,4,0,5] ?_;intro _ _ d73 e m;simp[e];exact g _ _ ⟨_,_,_,_,_,_,_,_,_,_,_,_,abE,m⟩
@[reducible,instance] def abg:=@Kc.mk prog 24 _ @jK
def gj(T:eN)(o:nX T){H:dY}{n:Bool}(hm:uJ=some n):eO prog T 7 [] H (sB n) H:=by
 rw[uJ] at hm;have e:=o;refine wi ak_ func7 [] [] 24 ?_;simp[e];refine Ak hm λ_ m=>?_;simp[e];refine Ak m λ_ m=>?_;simp[e];refine Ak m λ_ m=>?_;simp[e];refine Ak m λ_ m=>?_;simp[e];refine Ak m λ_ m=>?_;simp[e];refine Ak m λ_ m=>?_;simp[e];refine Ak m λ_ m=>?_;simp[e];refine Ak m λ_ m=>?_;simp[e];refine Ak m λ_ m=>?_;simp[e];refine Ak m λ_ m=>?_;simp[e];refine Ak m λ_ m=>?_;simp[e];refine Ak m λ_ m=>?_;simp[e];refine Ak m λ_ m=>?_;simp[e];refine Kf3 m λa _ b m=>?_;simp[e];refine Kf3 m λ_ _ c m=>?_;simp[e];refine Ak m λ_ m=>?_;simp[e];refine Ks3 m λ_ _ d m=>?_;refine sw [0,4,0,6,0,1,0,1,0,1,0,3,0,2,0,3,0] ?_;intro _ _ _ h _ _ _ _ _ i _ j l _ k e m;refine wB 999 999 [] [] (λf=>f.1 0=sB (fv (eo b 0) (fv (eo c 0) (fv (eo d 0) (fv (eo h 0) (fv (eo i 0) (fv (eo j 0) (fv (eo k 0) (fv (eo a.ak5 4) (eo l.num 5) false) false) false) false) false) false) false) false)) λ_ g=>?_;rcases Pb (eo b 0) e with e|e;rotate_left
 ·exact aj
 rcases Pb (eo c 0) e with e|e;rotate_left
 ·exact aj
 rcases Pb (eo d 0) e with e|e;rotate_left
 ·exact aj
 rcases Pb (eo h 0) e with e|e;rotate_left
 ·exact aj
 rcases Pb (eo i 0) e with e|e;rotate_left
 ·exact aj
 rcases Pb (eo j 0) e with e|e;rotate_left
 ·exact aj
 rcases Pb (eo k 0) e with e|e;rotate_left
 ·exact aj
 rcases Pb (eo a.ak5 4) e with e|e
 ·exact aj
 exact aj
@[reducible,instance] def YG:=@Kc.mk prog 7 _ @gj
def XJ:C1 prog 8 IN sB (sL sI):=by
 refine v1 func8 λT H a0 r m e=>?_;rw[IN] at m;exact au
def aa0:kN prog 9=true:=by kernel_rfl
def WL(T:eN){a0:List Int}{b:eF}(hm:Rj a0=some b):eO prog T 9 [AV.slice .gI (List.map (λn=>AV.sc (Value.int .i64 n)) a0)] [] (AV.fb 0 0) (gk [[]] 0 [AV.slice .gI (List.map (λn=>AV.sc (Value.int .i64 n)) b.l),AV.sc (.int .i64 b.xX)]):=by
 obtain rfl:=kR hm;refine fC.intro (fn:=f9) func9 rfl aa0 (EV rfl) ?_;refine hZ.Da λc a=>?_;refine hZ.region [] acS ?_;simp;refine a _ _ ?_;refine hZ.Da λc a=>?_;refine hZ.region [5] acS ?_;simp;refine a _ _ ?_;refine hZ.ret ?_;simp[Aw,gk]
@[reducible,instance] def agz:=@Kc.mk prog 9 _ @WL
def IC:C0 prog 27 Et Ty.av:=by
 refine v0 func27 λT H r m e=>?_;rw[Et] at m;exact aa
@[reducible,instance] def adu:=@Kc.mk prog 27 _ @IC
def BP:C2 prog 90 E5 (sL sI) (sL Ty.av) Ty.av:=by
 refine v2 func90 λT H a0 a1 r m e=>?_;rw[E5] at m;simp[e];refine Td e m 0 9 [0,8] [3] [25] (λs2=>s2) (λs2 b f=>f.1 5=sT b sI s2) λj _ s2 k _ _ _ l E e m z p=>?_;have⟨b,E,c⟩:=E;simp[e]at E;have e:=Aj e E;apply wg 5;simp[e];refine Dt m 999 999 (λi f h=>∃v12 a,(h=H/\f.1 0=sL Ty.av a0/\f.1 5=sT a sI v12/\f.1 8=sI (eA a0)/\f.1 9=sI j/\bx f 3 (Ty.av a1).cells)/\Ow f [25] a v12/\i v12=some l) ?_ (λi _ g m=>?_)
 ·rintro _ _ ⟨v12,a,E,d,m⟩;have e:=Aj e E;simp[e];cases m;exact p _ _ _ ⟨a,abE,d⟩ z
 refine sw [8,0,4] ?_;intro n _ e m;apply Ir e m<;>intro e m
 ·simp[e];exact g _ _ ⟨s2,b,abE,c,m⟩
 refine sw [9,0] ?_;intro e m;refine Ao (f:=sI) s2 [j] c Fb e.2 ?_;simp[e];exact g _ _ ⟨(fR s2 [j]),(.loc 25 (k.fi 25+1)),abE,(On 25),m⟩
@[reducible,instance] def afY:=@Kc.mk prog 90 _ @BP
def OQ:C2 prog 70 JA sI sI sI:=by
 refine v2 func70 λT H a0 a1 r m e=>?_;rw[JA] at m;refine sw [9,9] ?_;intro e m;exact au
@[reducible,instance] def aht:=@Kc.mk prog 70 _ @OQ
def so(T:eN){H:dY}{a0:eF}{a1 h:Int}{a:eF}{c:Nat}(b:H[c]?=some [sL sI a0.l,sI a0.xX])(hm:hJ a0 a1=some (h,a)):eO prog T 22 [AV.fb c 0,sI a1] H (sI h) (gk H c [sL sI a.l,sI a.xX]):=by
 rw[hJ] at hm;have d:=eU b;refine fC.Lo b ?_;have e:=d;refine wi ak_ func22 [] [(1,true,[]),(3,true,[])] 3 ?_;simp[e];refine wA 999 999 [1] [] (λf=>f.1 0=AV.fb c 0/\f.1 19=sB (fv (o7 a1 1) true (pd a0.xX (eA a0.l)))) [] (λ_ g=>?_) ?_
 ·exact aa
 intro _ e m;have m:=hm;exact aa
@[reducible,instance] def U0:=@Kc.mk prog 22 _ @so
def tN(T:eN):∀(n:Nat),(∀{H:dY} {a0:eF} {a1:Int} {i:Ty} {a:eF} {c:Nat} (b:H[c]?=some [sL sI a0.l,sI a0.xX]) (hm:nD n a0 a1=some (i,a)),eO prog T 91 [AV.fb c 0,sI a1] H (Ty.av i) (gk H c [sL sI a.l,sI a.xX])):=by
  intro n
  induction n with
  |zero=>
    skip
    all_goals(intro _ _;intros;rename_i hm;cases hm)
  |succ n ih=>
 intro H a0 a1 i a c b hm;rw[nD] at hm;have j:=eU b;refine fC.Lo b ?_;have e:=j;refine wi ak_ func91 [] [] 2 ?_;simp[e];refine Dt hm 3 999 (λk f h=>∃v2,(h=gk H c [sL sI v2.l,sI v2.xX]/\f.1 4=AV.h9 4 (f.gen 4) 0/\f.box 4=some [sI 0,nL])/\k v2=some (i,a)) ?_ (λk _ g m=>?_)
 ·rintro _ _ ⟨v2,E,m⟩;exact aa
 refine sw [0,2,0] ?_;intro d d8 e m;refine wA 999 999 [1,6] [4] (λf=>f.1 0=AV.fb c 0/\f.1 7=sB (fv (eo d 0) true (fv (eo d 1) true (eo d 2)))) [13,13,13] (λ_ g=>?_) ?_
 ·rcases Pb (eo d 0) e with e|e
  ·exact aj
  rcases Pb (eo d 1) e with e|e
  ·exact aj
  exact aj
 intro _ e m;apply Iq e m<;>intro e m
 ·apply Ir e m<;>intro e m
  ·exact jj
  simp[e];refine E9 m (ih abE) λ_ d17 m=>?_;simp[e];refine E9 m (ih abE) λ_ d19 m=>?_;exact aa
 apply Ir e m<;>intro e m
 ·exact jj
 apply Ir e m<;>intro e m
 ·exact jj
 simp[e];refine E9 m (ih abE) λ_ d22 m=>?_;simp[e];refine E9 m (ih abE) λ_ d24 m=>?_;exact aa
def Un(T:eN){H:dY}{a0:eF}{a1:Int}{d:Ty}{a:eF}{b:Nat}(c:H[b]?=some [sL sI a0.l,sI a0.xX]){n:Nat}(hm:nD n a0 a1=some (d,a)):eO prog T 91 [AV.fb b 0,sI a1] H (Ty.av d) (gk H b [sL sI a.l,sI a.xX]):=(tN T n) c hm
@[reducible,instance] def afP:=@Kc.mk prog 91 _ @Un
def As:C2 prog 93 rP (sL Ty.av) (sL Ty.av) (sL Ty.av):=by
 refine v2 func93 λT H a0 a1 r m e=>?_;rw[rP] at m;refine sw [9,0] ?_;intro e m;refine Ao (f:=Ty.av) [] a0 (hS.full (D:=[])) FV e.2 ?_;refine sw [9,0] ?_;intro e m;refine Ao (f:=Ty.av) (fR [] a0) a1 (hS.new (D:=[6]) (d:=6) aak) FV e.2 ?_;exact au
@[reducible,instance] def acC:=@Kc.mk prog 93 _ @As
def O6:C2 prog 59 Bj Tm.av Tm.av (sL Tm.av):=by
 refine v2 func59 λT H a0 a1 r m e=>?_;rw[Bj] at m;simp[e];refine Wr e m 999 (λd s2 f h=>h=H/\f.1 7=sL Tm.av a1/\f.1 8=sI (eA a1)/\f.1 9=sI d/\bx f 2 [sI s2.1,sI s2.2.1,sI s2.2.2.1,sL Ty.av s2.2.2.2.1,sL Tm.av s2.2.2.2.2]/\bx f 4 [sI 0,sI 0,sI 0,nL,nL]) abE (λs2 _ _ _ E m=>?_) (λd _ s2 _ _ _ _ _ E e m z p=>?_)
 ·have⟨v11,v12,a,b,c⟩:=s2;have e:=Aj e E;dsimp only[eB,C6]at m;exact au
 have⟨v11,v12,a,b,c⟩:=s2;have e:=Aj e E;dsimp only[C6]at m;exact aa
@[reducible,instance] def ahc:=@Kc.mk prog 59 _ @O6
def DT:C0 prog 105 v7 Tm.av:=by
 refine v0 func105 λT H r m e=>?_;rw[v7] at m;exact aa
@[reducible,instance] def ZZ:=@Kc.mk prog 105 _ @DT
def GN:C0 prog 60 tw Tm.av:=by
 refine v0 func60 λT H r m e=>?_;rw[tw] at m;exact aa
@[reducible,instance] def acr:=@Kc.mk prog 60 _ @GN
def eT(T:eN):∀(n:Nat),(∀{H:dY} {a0:eF} {a1:List Ty} {a2:Ty} {a3:Int} {j:Tm} {a:eF} {b:Nat} (k:H[b]?=some [sL sI a0.l,sI a0.xX]) (hm:ie n a0 a1 a2 a3=some (j,a)),eO prog T 33 [AV.fb b 0,sL Ty.av a1,Ty.av a2,sI a3] H (Tm.av j) (gk H b [sL sI a.l,sI a.xX])):=by
  intro n
  induction n with
  |zero=>
    skip
    all_goals(intro _ _;intros;rename_i hm;cases hm)
  |succ n ih=>
 intro H a0 a1 a2 a3 j a b k hm;rw[ie] at hm;have t:=eU k;refine fC.Lo k ?_;have e:=t;refine wi ak_ func33 [] [] 5 ?_;have m:=hm;refine sw [0,1,0] ?_;intro B e m;refine Wj m 999 0 (λu f h=>∃v3 v4,(h=gk H b [sL sI v4.l,sI v4.xX]/\f.1 0=AV.fb b 0/\f.1 1=sL Ty.av a1/\f.1 3=sI a3/\f.1 9=sL sI B/\f.1 27=sB v3/\bx f 6 (Ty.av a2).cells/\bx f 8 [sI 0,sI 0,sI 0,nL,nL])/\u v3 v4=some (j,a)) (λu _ g m=>?_) ?_
 ·apply Ir e m<;>intro e m
  ·exact ak2
  refine sw [0,2] ?_;intro _ d9 e m;exact ak2
 rintro _ _ ⟨v3,v4,E,m⟩;have e:=Aj e E;apply Iq e m<;>intro e m
 ·refine sg 999 [0,2] ?_;intro _ d12 e m;exact aa
 apply wg 2;simp[e];refine Dt m 999 6 (λq f h=>∃c,(h=gk H b [sL sI c.l,sI c.xX]/\f.1 0=AV.fb b 0/\f.1 1=sL Ty.av a1/\f.1 3=sI a3/\bx f 6 (Ty.av a2).cells/\bx f 8 [sI 0,sI 0,sI 0,nL,nL])/\q c=some (j,a)) ?_ (λq _ g m=>?_)
 ·rintro _ _ ⟨c,E,m⟩;have e:=Aj e E;simp[e];apply Iq e m<;>intro e m
  ·apply wg 1;simp[e];refine Dt m 999 999 (λr f h=>∃v21,(h=gk H b [sL sI v21.l,sI v21.xX]/\f.1 0=AV.fb b 0/\f.1 8=AV.h9 8 (f.gen 8) 0/\f.box 8=some [sI 0,sI 0,sI 0,nL,nL])/\r v21=some (j,a)) ?_ (λr _ g m=>?_)
   ·rintro _ _ ⟨v21,E,m⟩;refine sw [10,0,2] ?_;intro _ d26 e m;exact aa
   apply Ir e m<;>intro e m
   ·exact jj
   refine sw [0,2] ?_;intro _ d29 e m;apply Iq e m<;>intro e m
   ·simp[e];refine E9 m (ih abE) λ_ d31 m=>?_;exact aa
   apply Iq e m<;>intro e m
   ·refine sw [0,4,0] ?_;intro _ e m;refine sZ m (ih abE) λ_ d35 m=>?_;simp[e];refine sZ m (ih abE) λ_ d37 m=>?_;exact aa
   apply Ir e m<;>intro e m
   ·exact jj
   refine sw [0,4,0] ?_;intro _ e m;refine sZ m (ih abE) λ_ d41 m=>?_;simp[e];refine sZ m (ih abE) λ_ d43 m=>?_;exact aa
  apply wg 3;simp[e];apply Ir e m<;>intro e m
  ·apply wg 999;apply Iq e m<;>intro e m
   ·refine sw [8,0] ?_;intro C e m;refine sZ m (ih abE) λ_ d47 m=>?_;refine sw [8,0] ?_;intro D e m;refine sZ m (ih abE) λ_ d50 m=>?_;exact aa
   refine sw [14,8,0,4,8,0] ?_;intro F _ G e m;refine sZ m (ih abE) λ_ d57 m=>?_;exact aa
  apply wg 2;simp[e];refine Wj m 999 999 (λs f h=>∃o d,(h=gk H b [sL sI d.l,sI d.xX]/\f.1 0=AV.fb b 0/\f.1 1=sL Ty.av a1/\f.1 3=sI a3/\f.1 276=sB o/\bx f 6 (Ty.av a2).cells/\bx f 8 [sI 0,sI 0,sI 0,nL,nL])/\s o d=some (j,a)) (λs _ g m=>?_) ?_
  ·apply Ir e m<;>intro e m
   ·exact ak2
   refine sw [0,2] ?_;intro _ d65 e m;exact ak2
  rintro _ _ ⟨o,d,E,m⟩;refine sw [10,14,0,4,0] ?_;intro _ e m;refine sZ m (ih abE) λ_ d70 m=>?_;simp[e];refine sZ m (ih abE) λ_ d72 m=>?_;exact aa
 apply Ir e m<;>intro e m
 ·exact jj
 refine sw [0,2] ?_;intro _ d75 e m;apply Iq e m<;>intro e m
 ·refine sw [0,2,0,4,0] ?_;intro _ d77 _ e m;refine sZ m (ih abE) λ_ d80 m=>?_;refine sw [0,4,0] ?_;intro _ e m;refine sZ m (ih abE) λ_ d83 m=>?_;exact aa
 apply Iq e m<;>intro e m
 ·refine sw [0,2,0] ?_;intro _ d86 e m;refine sZ m (ih abE) λ_ d88 m=>?_;simp[e];refine sZ m (ih abE) λ_ d90 m=>?_;exact aa
 apply Iq e m<;>intro e m
 ·refine sw [0,4,0,4,0,4,0] ?_;intro _ _ _ e m;refine sZ m (ih abE) λ_ d97 m=>?_;refine sw [0,4,0,4,0] ?_;intro _ _ e m;refine sZ m (ih abE) λ_ d101 m=>?_;refine sw [0,5] ?_;intro _ d103 e m;exact aa
 apply Iq e m<;>intro e m
 ·refine sw [0,4,0,4,0,4,0,4,0,4,0] ?_;intro _ _ _ _ _ e m;refine sZ m (ih abE) λ_ d112 m=>?_;refine sw [0,4,0,4,0,4,0] ?_;intro _ _ _ e m;refine sZ m (ih abE) λ_ d117 m=>?_;refine sw [0,4,0] ?_;intro _ e m;refine sZ m (ih abE) λ_ d120 m=>?_;exact aa
 apply Iq e m<;>intro e m
 ·refine sw [0,2,0] ?_;intro _ d123 e m;refine sZ m (ih abE) λ_ d125 m=>?_;simp[e];refine sZ m (ih abE) λ_ d127 m=>?_;exact aa
 apply Ir e m<;>intro e m
 ·exact jj
 simp[e];refine Wr e m 0 (λi _ f h=>h=gk H b [sL sI d75.l,sI d75.xX]/\f.1 0=AV.fb b 0/\f.1 1=sL Ty.av a1/\f.1 3=sI a3/\f.1 176=sI (eA a1)/\f.1 177=sI i/\bx f 6 (Ty.av a2).cells/\bx f 8 [sI 0,sI 0,sI 0,nL,nL]) abE (λ_ _ _ _ E m=>?_) (λi _ _ _ _ _ _ v E e m z p=>?_)
 ·have e:=Aj e E;refine sg 999 [11] ?_;intro e m;exact jj
 have e:=Aj e E;refine sg 11 [8,0] ?_;intro w e m;refine WA m 999 999 [1,3,15,176,177] [6,8,16] (λv141 f=>f.1 0=AV.fb b 0/\f.1 198=sB v141) [] (λx _ g m=>?_) ?_
 ·apply Ir e m<;>intro e m
  ·exact jj
  refine sw [8,0] ?_;intro y e m;refine qO m im λ_ m=>?_;exact jj
 intro _ v141 e m;apply Ir e m<;>intro e m
 ·exact al
 refine sw [0,4,8,0] ?_;intro _ A e m;refine sZ m (ih abE) λ_ d150 m=>?_;exact aa
def T_(T:eN){H:dY}{a0:eF}{a1:List Ty}{a2:Ty}{a3:Int}{d:Tm}{a:eF}{b:Nat}(c:H[b]?=some [sL sI a0.l,sI a0.xX]){n:Nat}(hm:ie n a0 a1 a2 a3=some (d,a)):eO prog T 33 [AV.fb b 0,sL Ty.av a1,Ty.av a2,sI a3] H (Tm.av d) (gk H b [sL sI a.l,sI a.xX]):=(eT T n) c hm
@[reducible,instance] def af2:=@Kc.mk prog 33 _ @T_
def si:C1 prog 13 kr sB sI:=by
 refine u1 2 func13 λT H a0 r m e=>?_;rw[kr] at m;simp[e];refine wB 999 999 [] [] (λf=>f.1 2=sB (fv (eo a0 4) true (fv (eo a0 5) true (eo a0 3)))) λ_ g=>?_;exact aa
@[reducible,instance] def X2:=@Kc.mk prog 13 _ @si
def Gu:C3 prog 106 yn Tm.av Tm.av Tm.av Tm.av:=by
 refine v3 func106 λT H a0 a1 a2 r m e=>?_;rw[yn] at m;exact aa
@[reducible,instance] def acB:=@Kc.mk prog 106 _ @Gu
def yq:C0 prog 61 sd Tm.av:=by
 refine v0 func61 λT H r m e=>?_;rw[sd] at m;exact aa
@[reducible,instance] def Tr:=@Kc.mk prog 61 _ @yq
def kS(T:eN){H:dY}{a0:eF}{d:Tm}{a:eF}{c:Nat}(b:H[c]?=some [sL sI a0.l,sI a0.xX])(hm:pU a0=some (d,a)):eO prog T 19 [AV.fb c 0] H (Tm.av d) (gk H c [sL sI a.l,sI a.xX]):=by
 rw[pU] at hm;have i:=eU b;refine fC.Lo b ?_;have e:=i;refine wi ak_ func19 [] [] 6 ?_;have m:=hm;refine sw [0,1,0,1,0,1,0] ?_;intro o _ _ e m;refine Dt m 999 999 (λn f h=>∃v5 v6 j k v9 v10,(h=gk H c [sL sI v10.l,sI v10.xX]/\bx f 2 [sI 0,sI 0,sI 0,nL,nL]/\bx f 3 (Ty.av o).cells/\bx f 4 [sI v5,sI v6,sI j,sL Ty.av k,sL Tm.av v9])/\n v5 v6 j k v9 v10=some (d,a)) ?_ (λn _ g m=>?_)
 ·rintro _ _ ⟨v5,v6,j,k,v9,v10,E,m⟩;exact aa
 refine sw [0,2] ?_;intro _ d20 e m;apply Iq e m<;>intro e m
 ·refine sw [0,1,0,1,0,1,0,1] ?_;intro _ _ _ _ e m;simp[e];exact g _ _ ⟨_,_,_,_,_,_,abE,m⟩
 apply Iq e m<;>intro e m
 ·refine sw [0,1,0,1,0,1,0,1] ?_;intro _ _ _ _ e m;simp[e];exact g _ _ ⟨_,_,_,_,_,_,abE,m⟩
 apply Ir e m<;>intro e m
 ·simp[e];exact g _ _ ⟨_,_,_,_,_,_,abE,m⟩
 refine sw [0,4,0,5] ?_;intro _ _ d31 e m;simp[e];exact g _ _ ⟨_,_,_,_,_,_,abE,m⟩
@[reducible,instance] def TF:=@Kc.mk prog 19 _ @kS
def rJ(T:eN):∀(n:Nat),(∀{H:dY} {a0:eF} {a1:Ty} {o:Vl} {c:eF} {j:Nat} (d:H[j]?=some [sL sI a0.l,sI a0.xX]) (hm:qF n a0 a1=some (o,c)),eO prog T 25 [AV.fb j 0,Ty.av a1] H (Vl.av o) (gk H j [sL sI c.l,sI c.xX])):=by
  intro n
  induction n with
  |zero=>
   skip
   all_goals(intro _ _;intros;rename_i hm;cases hm)
  |succ n ih=>
 intro H a0 a1 o c j d hm;rw[qF] at hm;have q:=eU d;refine fC.Lo d ?_;have e:=q;refine wi ak_ func25 [] [] 999 ?_;apply Iq e hm<;>intro e m
 ·refine sw [0,2] ?_;intro _ d2 e m;exact au
 apply Ir e m<;>intro e m
 ·refine sw [12,8,0] ?_;intro v e m;refine sZ m (ih abE) λs d5 m=>?_;refine sw [8,0] ?_;intro w e m;refine sZ m (ih abE) λt d8 m=>?_;have e:=Aj e (show AV.agg [sI 3,sI 0,AV.slice .gI [],AV.slice .gI [Vl.av s,Vl.av t]]=Vl.av (Vl.mk 3 0 [] [s,t]) by rw[Vl.eR];rfl);exact au
 refine sw [0,2,0] ?_;intro _ d10 e m;refine Wn m 999 (λb f h=>∃a,(h=gk H j [sL sI b.2.2.l,sI b.2.2.xX]/\f.1 0=AV.fb j 0/\f.1 6=sI b.1/\bx f 4 [sI 0,sI 0,nL,nL]/\bx f 5 [sI 2,sI 0,sT a sI b.2.1,nL])/\Ow f [28] a b.2.1) (by exact⟨.full,abE,hS.full⟩) (λb k _ _ _ _ E m z p=>?_);have⟨u,v20,v21⟩:=b;have⟨a,E,i⟩:=E;have e:=Aj e E;dsimp only[xP]at m;apply Ir e m<;>intro e m
 ·cases m;have m:=Qb z;dsimp only[xP]at m;exact au
 refine sw [0,5,9,0] ?_;intro r d23 e m;refine Ad (f:=sI) v20 [r] i Fb e.2 ?_;simp[e];cases m;exact p _ _ _ ⟨(.loc 28 (k.fi 28+1)),abE,(On 28)⟩ z
def Rr(T:eN){H:dY}{a0:eF}{a1:Ty}{d:Vl}{a:eF}{b:Nat}(c:H[b]?=some [sL sI a0.l,sI a0.xX]){n:Nat}(hm:qF n a0 a1=some (d,a)):eO prog T 25 [AV.fb b 0,Ty.av a1] H (Vl.av d) (gk H b [sL sI a.l,sI a.xX]):=(rJ T n) c hm
@[reducible,instance] def acI:=@Kc.mk prog 25 _ @Rr
def kz(T:eN)(j:nX T){a0:List Int}{k:Bool}(hm:oY a0=some k):fC prog T 5 [sL sI a0] [] (λx _=>x=sB k):=by
 rw[oY] at hm;have e:=j;refine wi ak_ func5 [] [] 3 ?_;simp[e];refine WA hm 999 999 [0] [] (λv2 f=>f.1 27=sB v2) [13,0,1,0,2,0,2,0,4,0,6,13,0,2,13,0,1,0,2,0] (λr _ g m=>?_) ?_
 ·simp[e];refine sS m (gj T j) λ_ m=>?_;apply Ir e m<;>intro e m
  ·exact jj
  simp[e];refine sS m XJ λ_ m=>?_;exact jj
 intro _ v2 _ _ d11 b d13 _ _ _ _ c _ _ d d24 e m;refine Wn m 3 (λa f h=>h=gk [[]] 0 [sL sI d24.l,sI d24.xX]/\f.1 12=sI a.1/\f.1 13=sI a.2/\bx f 5 (Tm.av b).cells/\bx f 9 (Tm.av c).cells/\bx f 11 (Vl.av d).cells) abE (λa _ _ _ _ _ E m z p=>?_);have⟨n,o⟩:=a;have e:=Aj e E;dsimp only[kp]at m;refine sw [0,13] ?_;intro e m;apply wg 4;cases m;have m:=Qb z;dsimp only[kp]at m;refine sw [0,3,0] ?_;intro _ _ _ e m;refine WB m 999 999 [] [] (λi f=>f.1 2=sB i) λq _ g m=>?_;simp[e];refine sS m si λ_ m=>?_;apply Iq e m<;>intro e m
 ·exact jj
 apply Ir e m<;>intro e m
 ·exact jj
 exact jj
end Go.Proofs.YtpgdkkomegalnaaGreatDoor
