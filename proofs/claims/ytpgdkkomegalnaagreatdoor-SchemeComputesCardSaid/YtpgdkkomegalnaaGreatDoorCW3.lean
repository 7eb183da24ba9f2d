/- Part of the proof of SchemeComputes: walks. -/
import Derived.Test.YtpgdkkomegalnaaGreatDoorCW2
set_option linter.all false
set_option maxRecDepth 20000
set_option maxHeartbeats 4000000
namespace Go.Proofs.YtpgdkkomegalnaaGreatDoor
open Go Go.ld Go.fF Tryz
def Fo:C4 prog 225 pw er.av er.av Pf.av (sL sI) Tm.av:=by
 refine v4 func225 λT H a0 a1 a2 a3 r m e=>?_;rw[pw] at m;exact aa
@[reducible,instance] def abW:=@Kc.mk prog 225 _ @Fo
def EG:C5 prog 158 tK Tm.av Pf.av Ty.av Tm.av Tm.av Tm.av:=by
 refine u5 4 func158 λT H a0 a1 a2 a3 a4 r m e=>?_;rw[tK] at m;simp[e];refine wA 999 999 [] [6,7,8,9,10] (λf=>f.1 11=sI (fp (eo a0.alX 17) 9 6)) [] (λ_ g=>?_) ?_
 ·rcases Pb (eo a0.alX 17) e with e|e
  ·exact aj
  exact aj
 intro _ e m;have e:=Aj e (show AV.agg [sI (fp (eo a0.alX 17) 9 6),sI 0,sI a1.alX,sL Ty.av a1.alY,AV.slice .gK [Tm.av a2,Tm.av a3,Tm.av a4]]=Tm.av (Tm.mk (fp (eo a0.alX 17) 9 6) 0 a1 [a2,a3,a4]) by rw[Tm.eU];rfl);exact au
@[reducible,instance] def aa5:=@Kc.mk prog 158 _ @EG
def EB{n:Nat}:C1 prog 159 (pJ n) sI Tm.av:=by
 refine i1 λn ih=>v1 func159 λT H a0 r m e=>?_;rw[pJ] at m;simp[e];refine Wn m 999 (λs1 f h=>h=H/\f.1 3=sI s1.1/\f.1 4=sI s1.2/\bx f 1 (Tm.av a0).cells) aaD (λs1 _ _ _ _ _ E m z p=>?_);have⟨a,v9⟩:=s1;have e:=Aj e E;dsimp only[lS]at m;apply Ir e m<;>intro e m
 ·cases m;have m:=Qb z;dsimp only[lS]at m;exact au
 exact aa
@[reducible,instance] def aax:=@Kc.mk prog 159 _ @EB
def CW:C2 prog 116 nt (t2 Tm.av sI) Tm.av sI:=by
 refine v2 func116 λT H a0 a1 r m e=>?_;rw[nt] at m;exact aa
@[reducible,instance] def ZR:=@Kc.mk prog 116 _ @CW
section
attribute [-simp] Go.ld.DJ
@[local simp] theorem ajc(x:Fm):DJ prog 36 x.av 3=some (sL Fm.av x.alY):=by rw[Fm.fP];kernel_rfl
def dL(T:eO):∀(n:Nat),(∀{H:dZ} {a0:dT} {a1:er} {a2:Pf} {j:Tm} {k:Int} {a:dT} {b:Nat} (c:H[b]?=some [sL Fm.av a0.lemmas,sL Tm.av a0.ei,sI a0.next]) (hm:eg n a0 a1 a2=some (j,k,a)),eP prog T 75 [AV.fh b 0,er.av a1,Pf.av a2] H (AV.tuple [Tm.av j,sI k]) (gx H b [sL Fm.av a.lemmas,sL Tm.av a.ei,sI a.next]))/\(∀{H:dZ} {a0:dT} {a1:er} {a2:Pf} {j:Tm} {k:Int} {a:dT} {b:Nat} (c:H[b]?=some [sL Fm.av a0.lemmas,sL Tm.av a0.ei,sI a0.next]) (hm:j4 n a0 a1 a2=some (j,k,a)),eP prog T 115 [AV.fh b 0,er.av a1,Pf.av a2] H (AV.tuple [Tm.av j,sI k]) (gx H b [sL Fm.av a.lemmas,sL Tm.av a.ei,sI a.next]))/\(∀{H:dZ} {a0:dT} {a1:er} {a2:Pf} {j:Ty} {k:Tm} {R:Tm} {S:Int} {a:dT} {b:Nat} (c:H[b]?=some [sL Fm.av a0.lemmas,sL Tm.av a0.ei,sI a0.next]) (hm:kb n a0 a1 a2=some (j,k,R,S,a)),eP prog T 157 [AV.fh b 0,er.av a1,Pf.av a2] H (AV.tuple [Ty.av j,Tm.av k,Tm.av R,sI S]) (gx H b [sL Fm.av a.lemmas,sL Tm.av a.ei,sI a.next])):=by
  intro n
  induction n with
  |zero=>
    refine⟨?_,?_,?_⟩
    all_goals(intro _ _;intros;rename_i hm;cases hm)
  |succ n ih=>
 refine⟨?_,?_,?_⟩
 ·intro H a0 a1 a2 j k a b c hm;rw[eg] at hm;have l:=e9 c;refine fH.Ng c ?_;have e:=l;refine wi al2 func75 [] [] 999 ?_;simp-implicitDefEqProofs[e];refine U5 hm (ih.2.1 (by simp-implicitDefEqProofs[e])) λ_ x2 d3 m=>?_;exact aa
 ·intro H a0 a1 a2 j k a b c hm;rw[j4] at hm;have l:=e9 c;refine fH.Ng c ?_;have e:=l;refine wi al2 func115 [] [(5,false,[true,true,true,true,false,true,true,true,true,true,true,true])] 8 ?_;simp-implicitDefEqProofs[e];have m:=hm;refine sw [13] ?_;intro e m;apply wg 3;simp-implicitDefEqProofs[e];apply Iq e m<;>intro e m
  ·refine sg 999 [8] ?_;intro x7 e m;simp-implicitDefEqProofs[e];refine sw [5] ?_;intro _ d9 e m;exact au
  apply wg 3;simp-implicitDefEqProofs[e];apply Iq e m<;>intro e m
  ·refine sg 6 [8] ?_;intro aS e m;simp-implicitDefEqProofs[e];refine sw [5] ?_;intro _ d12 e m;simp-implicitDefEqProofs[e];refine sw [4,8] ?_;intro _ aT e m;simp-implicitDefEqProofs[e];refine sw [5] ?_;intro _ d16 e m;simp-implicitDefEqProofs[e];refine sw [4] ?_;intro U e m;simp-implicitDefEqProofs[e];apply Ir e m<;>intro e m
   ·apply wg 999;simp-implicitDefEqProofs[e];refine JH m (ih.1 (by simp-implicitDefEqProofs[e])) λ_ _ d20 m=>?_;exact au
   apply wg 5;simp-implicitDefEqProofs[e];refine JH m (ih.1 (by simp-implicitDefEqProofs[e])) λaU V d23 m=>?_;simp-implicitDefEqProofs[e];refine wA 999 999 [11] [4,5,6,10] (λf=>f.1 0=AV.fh b 0/\f.1 131=sB (fp (eL V 0) true (lV U))) [7] (λ_ g=>?_) ?_
   ·exact aa
   intro _ e m;simp-implicitDefEqProofs[e];refine JH m (ih.1 (by simp-implicitDefEqProofs[e])) λ_ _ d30 m=>?_;exact aa
  apply wg 1;simp-implicitDefEqProofs[e];refine wA 999 0 [61] [4,5,6] (λf=>f.1 0=AV.fh b 0/\f.1 149=sB (fp (eo a2.alX 4) true (eo a2.alX 5))) [] (λ_ g=>?_) ?_
  ·rcases Pb (eo a2.alX 4) e with e|e
   ·exact aj
   exact aj
  intro _ e m;apply Iq e m<;>intro e m
  ·refine sg 5 [8] ?_;intro aV e m;simp-implicitDefEqProofs[e];refine sw [5] ?_;intro _ d37 e m;simp-implicitDefEqProofs[e];refine JH m (ih.1 (by simp-implicitDefEqProofs[e])) λaW W d40 m=>?_;simp-implicitDefEqProofs[e];refine D3 m 0 999 (λJ f h=>∃C D F G v46,(h=gx H b [sL Fm.av d40.lemmas,sL Tm.av d40.ei,sI d40.next]/\f.1 15=sI W/\bx f 6 [sI 0,sI 0,sI 0,nL,nL]/\bx f 14 [sI C,sI D,sI F,sL Ty.av G,sL Tm.av v46])/\J C D F G v46=some (j,k,a)) ?_ (λJ _ g m=>?_)
   ·rintro _ _ ⟨C,D,F,G,v46,E,m⟩;exact aa
   refine WA m 999 0 [15] [5,6,14] (λv51 f=>f.1 184=sB v51) [] (λaX _ g m=>?_) ?_
   ·apply Ir e m<;>intro e m
    ·exact jo
    have⟨aY,e,m⟩:=OQ e m;simp-implicitDefEqProofs[e];refine qK m rQ λ_ m=>?_;apply Ir e m<;>intro e m
    ·exact jo
    have⟨aZ,e,m⟩:=OQ e m;simp-implicitDefEqProofs[e];refine qK m rQ λ_ m=>?_;exact jo
   intro _ v51 e m;apply Ir e m<;>intro e m
   ·apply wg 999;simp-implicitDefEqProofs[e];exact g _ _ ⟨_,_,_,_,_,by simp-implicitDefEqProofs[e],m⟩
   apply wg 3;simp-implicitDefEqProofs[e];refine wA 2 999 [15] [6,14] (λf=>f.1 16=sI (fp (eo a2.alX 5) 12 11)) [] (λ_ g=>?_) ?_
   ·simp-implicitDefEqProofs[e];rcases Pb (eo a2.alX 5) e with e|e
    ·apply wg 999;exact aj
    apply wg 999;exact aj
   intro _ e m;simp-implicitDefEqProofs[e];refine sw [1] ?_;intro _ e m;simp-implicitDefEqProofs[e];exact g _ _ ⟨_,_,_,_,_,by simp-implicitDefEqProofs[e],m⟩
  apply wg 3;simp-implicitDefEqProofs[e];apply Iq e m<;>intro e m
  ·refine sg 999 [8] ?_;intro a6 e m;simp-implicitDefEqProofs[e];refine sw [1] ?_;intro _ e m;apply Ir e m<;>intro e m
   ·simp-implicitDefEqProofs[e];refine sw [4,8] ?_;intro _ a7 e m;simp-implicitDefEqProofs[e];refine JH m (ih.1 (by simp-implicitDefEqProofs[e])) λ_ _ d69 m=>?_;exact au
   simp-implicitDefEqProofs[e];refine sw [2,7] ?_;intro _ _ e m;simp-implicitDefEqProofs[e];refine sw [2] ?_;intro _ d73 e m;simp-implicitDefEqProofs[e];refine sw [4] ?_;intro _ e m;simp-implicitDefEqProofs[e];refine sw [4,8] ?_;intro _ a8 e m;simp-implicitDefEqProofs[e];refine JH m (ih.1 (by simp-implicitDefEqProofs[e])) λ_ _ d79 m=>?_;exact aa
  apply wg 3;simp-implicitDefEqProofs[e];apply Iq e m<;>intro e m
  ·refine sg 4 [8] ?_;intro a_ e m;simp-implicitDefEqProofs[e];refine JH m (ih.1 (by simp-implicitDefEqProofs[e])) λX Y d84 m=>?_;simp-implicitDefEqProofs[e];refine D3 m 999 999 (λK f h=>∃I v87,(h=gx H b [sL Fm.av v87.lemmas,sL Tm.av v87.ei,sI v87.next]/\f.1 0=AV.fh b 0/\f.1 22=sI Y/\f.1 280=sB I/\bx f 4 [sL Ty.av a1.iz.al1,sL Fm.av a1.iz.al4,sL Tm.av a1.vars,sL Tm.av a1.al4]/\bx f 5 (Pf.av a2).cells/\bx f 6 [sI 0,sI 0,sI 0,nL,nL]/\bx f 21 (Tm.av X).cells)/\K I v87=some (j,k,a)) ?_ (λK _ g m=>?_)
   ·rintro _ _ ⟨I,v87,E,m⟩;refine sw [10,7,8] ?_;intro a' e m;simp-implicitDefEqProofs[e];refine JH m (ih.1 (by simp-implicitDefEqProofs[e])) λ_ _ d94 m=>?_;exact aa
   apply Iq e m<;>intro e m
   ·exact ak2
   simp-implicitDefEqProofs[e];refine sw [5,8] ?_;intro _ d97 ba e m;simp-implicitDefEqProofs[e];refine qH m rQ λ_ m=>?_;exact ak2
  apply wg 3;simp-implicitDefEqProofs[e];apply Iq e m<;>intro e m
  ·apply wg 999;simp-implicitDefEqProofs[e];refine sw [2] ?_;intro _ d101 e m;simp-implicitDefEqProofs[e];refine sw [4] ?_;intro _ e m;simp-implicitDefEqProofs[e];refine sw [4,8] ?_;intro _ Z e m;simp-implicitDefEqProofs[e];refine JH m (ih.1 (by simp-implicitDefEqProofs[e])) λ_ _ d107 m=>?_;exact aa
  apply wg 3;simp-implicitDefEqProofs[e];apply Iq e m<;>intro e m
  ·refine sg 999 [8] ?_;intro ad e m;simp-implicitDefEqProofs[e];refine JH m (ih.1 (by simp-implicitDefEqProofs[e])) λ_ _ d112 m=>?_;have⟨ae,e,m⟩:=OQ e m;simp-implicitDefEqProofs[e];refine sw [5] ?_;intro _ d115 e m;exact aa
  apply wg 3;simp-implicitDefEqProofs[e];apply Iq e m<;>intro e m
  ·refine sg 999 [8] ?_;intro af e m;simp-implicitDefEqProofs[e];refine sw [5,8,8] ?_;intro _ d119 ah ai e m;simp-implicitDefEqProofs[e];refine sw [1,12,8] ?_;intro _ ak e m;simp-implicitDefEqProofs[e];refine JH m (ih.1 (by simp-implicitDefEqProofs[e])) λ_ _ d126 m=>?_;exact aa
  apply wg 3;simp-implicitDefEqProofs[e];apply Iq e m<;>intro e m
  ·refine sg 8 [8] ?_;intro an e m;simp-implicitDefEqProofs[e];refine sw [5] ?_;intro L d130 e m;simp-implicitDefEqProofs[e];refine JH m (ih.1 (by simp-implicitDefEqProofs[e])) λM _ d133 m=>?_;simp-implicitDefEqProofs[e];refine sw [13] ?_;intro e m;apply wg 6;simp-implicitDefEqProofs[e];refine sw [2] ?_;intro N d135 e m;simp-implicitDefEqProofs[e];refine sw [4] ?_;intro _ e m;simp-implicitDefEqProofs[e];refine D3 m 999 999 (λA f h=>∃v138 v139 o v141 q v143 r v145 v146 s v148 t d i,(h=gx H b [sL Fm.av d135.lemmas,sL Tm.av d135.ei,sI d135.next]/\f.1 0=AV.fh b 0/\f.1 35=sI N/\bx f 4 [sL Ty.av a1.iz.al1,sL Fm.av a1.iz.al4,sL Tm.av a1.vars,sL Tm.av a1.al4]/\bx f 5 (Pf.av a2).cells/\bx f 6 [sI 0,sI 0,sI 0,nL,nL]/\bx f 32 (Fm.av L).cells/\bx f 33 (Tm.av M).cells/\bx f 36 [sI v138,sL Ty.av v139]/\bx f 37 [sI o,sI v141,sI q,sL Ty.av v143,sL Tm.av r]/\bx f 38 [sI v145,sI v146,sI s,sT d Ty.av v148,sT i Tm.av t])/\A v138 v139 o v141 q v143 r v145 v146 s v148 t=some (j,k,a)) ?_ (λA _ g m=>?_)
   ·rintro _ _ ⟨v138,v139,o,v141,q,v143,r,v145,v146,s,v148,t,d,i,E,m⟩;have e:=Aj e E;simp-implicitDefEqProofs[e];refine sw [4,8] ?_;intro _ ao e m;simp-implicitDefEqProofs[e];refine sw [4,8] ?_;intro _ aq e m;simp-implicitDefEqProofs[e];refine JH m (ih.1 (by simp-implicitDefEqProofs[e])) λ_ _ d159 m=>?_;exact aa
   have⟨ar,e,m⟩:=OQ e m;simp-implicitDefEqProofs[e];refine sw [1] ?_;intro _ e m;apply Ir e m<;>intro e m
   ·simp-implicitDefEqProofs[e];exact g _ _ ⟨_,_,_,_,_,_,_,_,_,_,_,_,.full,.full,by simp-implicitDefEqProofs[e],m⟩
   simp-implicitDefEqProofs[e];refine sw [2,7] ?_;intro _ _ e m;simp-implicitDefEqProofs[e];refine sw [1] ?_;intro _ e m;simp-implicitDefEqProofs[e];refine sw [1] ?_;intro _ e m;simp-implicitDefEqProofs[e];refine sw [1] ?_;intro _ e m;simp-implicitDefEqProofs[e];refine sw [1] ?_;intro _ e m;simp-implicitDefEqProofs[e];exact g _ _ ⟨_,_,_,_,_,_,_,_,_,_,_,_,.gK,.gK,by simp-implicitDefEqProofs[e],m⟩
  apply wg 3;simp-implicitDefEqProofs[e];apply Iq e m<;>intro e m
  ·apply wg 999;simp-implicitDefEqProofs[e];refine sw [4] ?_;intro _ e m;simp-implicitDefEqProofs[e];refine sw [5] ?_;intro _ d172 e m;simp-implicitDefEqProofs[e];refine sw [4,8] ?_;intro _ aw e m;simp-implicitDefEqProofs[e];refine JH m (ih.1 (by simp-implicitDefEqProofs[e])) λ_ _ d177 m=>?_;exact au
  apply wg 3;simp-implicitDefEqProofs[e];apply Iq e m<;>intro e m
  ·refine sg 999 [8] ?_;intro ax e m;simp-implicitDefEqProofs[e];refine sw [5] ?_;intro _ d180 e m;simp-implicitDefEqProofs[e];refine sw [1] ?_;intro _ e m;simp-implicitDefEqProofs[e];refine sw [2] ?_;intro _ d183 e m;simp-implicitDefEqProofs[e];refine sw [1] ?_;intro _ e m;apply Ir e m<;>intro e m
   ·simp-implicitDefEqProofs[e];refine sw [4,8] ?_;intro _ ay e m;simp-implicitDefEqProofs[e];refine sw [4,8] ?_;intro _ az e m;simp-implicitDefEqProofs[e];refine JH m (ih.1 (by simp-implicitDefEqProofs[e])) λ_ _ d191 m=>?_;exact au
   simp-implicitDefEqProofs[e];refine JH m (ih.1 (by simp-implicitDefEqProofs[e])) λ_ _ d194 m=>?_;refine Il e m λe m=>?_;simp-implicitDefEqProofs[e];refine sw [2,7] ?_;intro _ _ e m;simp-implicitDefEqProofs[e];refine sw [2] ?_;intro _ d198 e m;simp-implicitDefEqProofs[e];refine sw [4,8] ?_;intro _ aA e m;simp-implicitDefEqProofs[e];refine sw [4] ?_;intro _ e m;simp-implicitDefEqProofs[e];refine sw [4,8] ?_;intro _ aB e m;simp-implicitDefEqProofs[e];refine JH m (ih.1 (by simp-implicitDefEqProofs[e])) λ_ _ d206 m=>?_;exact aa
  apply wg 1;simp-implicitDefEqProofs[e];refine wA 999 0 [61] [4,5,6] (λf=>f.1 0=AV.fh b 0/\f.1 567=sB (fp (eo a2.alX 16) true (eo a2.alX 17))) [] (λ_ g=>?_) ?_
  ·rcases Pb (eo a2.alX 16) e with e|e
   ·exact aj
   exact aj
  intro _ e m;apply Iq e m<;>intro e m
  ·apply wg 999;have⟨aC,aD,aE,aF,d216,e,m⟩:=Bo5 e m;simp-implicitDefEqProofs[e];refine Cf (ih.2.2 (by simp-implicitDefEqProofs[e]) e.2) ?_;refine sw [7,8] ?_;intro aG e m;simp-implicitDefEqProofs[e];refine sw [5] ?_;intro _ d219 e m;exact aa
  apply wg 3;simp-implicitDefEqProofs[e];apply Iq e m<;>intro e m
  ·refine sg 999 [8] ?_;intro aH e m;simp-implicitDefEqProofs[e];refine JH m (ih.1 (by simp-implicitDefEqProofs[e])) λ_ _ d224 m=>?_;exact au
  apply wg 3;simp-implicitDefEqProofs[e];apply Ir e m<;>intro e m
  ·refine sg 999 [8] ?_;intro aI e m;simp-implicitDefEqProofs[e];refine JH m (ih.1 (by simp-implicitDefEqProofs[e])) λ_ _ d228 m=>?_;exact au
  refine sg 6 [8] ?_;intro aJ e m;simp-implicitDefEqProofs[e];refine JH m (ih.1 (by simp-implicitDefEqProofs[e])) λaK aL d232 m=>?_;simp-implicitDefEqProofs[e];refine sw [5] ?_;intro aM d234 e m;simp-implicitDefEqProofs[e];refine WA m 999 999 [52] [6,51,53] (λv236 f=>f.1 0=AV.fh b 0/\f.1 638=sB v236) [7] (λaN _ g m=>?_) ?_
  ·apply Iq e m<;>intro e m
   ·exact jo
   refine sw [8,8] ?_;intro aO aP e m;simp-implicitDefEqProofs[e];refine qK m rQ λ_ m=>?_;exact jo
  intro _ v236 e m;simp-implicitDefEqProofs[e];refine sw [2,7] ?_;intro _ _ e m;simp-implicitDefEqProofs[e];refine sw [2] ?_;intro _ d246 e m;simp-implicitDefEqProofs[e];refine sw [2] ?_;intro _ d248 e m;simp-implicitDefEqProofs[e];refine sw [2] ?_;intro _ d250 e m;exact aa
 ·intro H a0 a1 a2 j k R S a b c hm;rw[kb] at hm;have l:=e9 c;refine fH.Ng c ?_;have e:=l;refine wi al2 func157 [] [] 7 ?_;have⟨x2,e,m⟩:=OQ e hm;simp-implicitDefEqProofs[e];refine sw [2] ?_;intro O _ e m;simp-implicitDefEqProofs[e];refine sw [13] ?_;intro e m;refine sg 7 [8] ?_;intro aQ e m;simp-implicitDefEqProofs[e];refine JH m (ih.1 (by simp-implicitDefEqProofs[e])) λP _ d269 m=>?_;simp-implicitDefEqProofs[e];refine sw [13] ?_;intro e m;apply wg 9;simp-implicitDefEqProofs[e];refine sw [2] ?_;intro Q d271 e m;simp-implicitDefEqProofs[e];refine sw [2] ?_;intro _ d273 e m;simp-implicitDefEqProofs[e];refine sw [2] ?_;intro _ d275 e m;simp-implicitDefEqProofs[e];refine sw [4] ?_;intro _ e m;simp-implicitDefEqProofs[e];refine sw [4,8] ?_;intro _ aR e m;simp-implicitDefEqProofs[e];refine JH m (ih.1 (by simp-implicitDefEqProofs[e])) λ_ _ d281 m=>?_;simp-implicitDefEqProofs[e];refine sw [13] ?_;intro e m;apply wg 4;simp-implicitDefEqProofs[e];refine sw [1] ?_;intro _ e m;simp-implicitDefEqProofs[e];refine D3 m 999 999 (λB f h=>∃u v w x y,(h=gx H b [sL Fm.av d281.lemmas,sL Tm.av d281.ei,sI d281.next]/\f.1 13=sI Q/\bx f 6 [sI 0,nL]/\bx f 7 [sI 0,sI 0,sI 0,nL,nL]/\bx f 8 [sI 0,sI 0,sI 0,nL,nL]/\bx f 10 (Ty.av O).cells/\bx f 12 (Tm.av P).cells/\bx f 16 [sI u,sI v,sI w,sL Ty.av x,sL Tm.av y])/\B u v w x y=some (j,k,R,S,a)) ?_ (λB _ g m=>?_)
  ·rintro _ _ ⟨u,v,w,x,y,E,m⟩;exact aa
  apply Ir e m<;>intro e m
  ·simp-implicitDefEqProofs[e];exact g _ _ ⟨_,_,_,_,_,by simp-implicitDefEqProofs[e],m⟩
  simp-implicitDefEqProofs[e];refine sw [4] ?_;intro _ e m;simp-implicitDefEqProofs[e];refine sw [4] ?_;intro _ e m;simp-implicitDefEqProofs[e];exact g _ _ ⟨_,_,_,_,_,by simp-implicitDefEqProofs[e],m⟩
def Dm(T:eO){H:dZ}{a0:dT}{a1:er}{a2:Pf}{d:Tm}{f:Int}{a:dT}{b:Nat}(c:H[b]?=some [sL Fm.av a0.lemmas,sL Tm.av a0.ei,sI a0.next]){n:Nat}(hm:eg n a0 a1 a2=some (d,f,a)):eP prog T 75 [AV.fh b 0,er.av a1,Pf.av a2] H (AV.tuple [Tm.av d,sI f]) (gx H b [sL Fm.av a.lemmas,sL Tm.av a.ei,sI a.next]):=(dL T n).1 c hm
@[reducible,instance] def QZ:=@Kc.mk prog 75 _ @Dm
end
def qV{n:Nat}:C2 prog 76 (jz n) Tm.av Tm.av (sL sI):=by
 refine i2 λn ih=>u2 5 func76 λT H a0 a1 r m e=>?_;rw[jz] at m;simp[e];apply Iq e m<;>intro e m
 ·apply wg 999;simp[e];refine Wn m 999 (λs1 f h=>h=H/\f.1 1=sL sI a1/\f.1 5=sI s1/\bx f 2 (Tm.av a0).cells/\bx f 4 [sI 0,sI 0,sI 0,nL,nL]) aaD (λs1 _ _ _ _ _ E m z p=>?_);have e:=Aj e E;apply Ir e m<;>intro e m
  ·cases m;have m:=Qb z
   try dsimp only at m
   exact au
  exact aa
 apply wg 6;simp[e];refine Wj m 999 999 (λk f h=>∃v12 a,(h=H/\f.1 7=sT a sI v12/\bx f 2 (Tm.av a0).cells/\bx f 4 [sI 0,sI 0,sI 0,nL,nL]/\bx f 6 [sI a0.alX,sI 0,sI a0.dN.alX,sL Ty.av a0.dN.alY,nL])/\k v12=some r) (λk _ g m=>?_) ?_
 ·apply Ir e m<;>intro e m
  ·simp[e];exact g _ _ ⟨_,.gK,aaD,m⟩
  refine sw [9,0] ?_;intro e m;refine Ad (f:=sI) [] a1 (hX.full (D:=[])) H4 e.2 ?_;refine sw [9,0] ?_;intro e m;refine Ad (f:=sI) (fU [] a1) [a0.al0] (hX.new (D:=[43]) (d:=43) aar) H4 e.2 ?_;simp[e];exact g _ _ ⟨_,(.loc 47 1),aaD,m⟩
 rintro _ _ ⟨v12,a,E,m⟩;have e:=Aj e E;simp[e];refine Wn m 999 (λi f h=>∃b c,(h=H/\f.1 7=sT b sI v12/\f.1 8=sI i.1/\bx f 2 (Tm.av a0).cells/\bx f 4 [sI 0,sI 0,sI 0,nL,nL]/\bx f 6 [sI a0.alX,sI 0,sI a0.dN.alX,sL Ty.av a0.dN.alY,sT c Tm.av i.2])/\Ow f [65] c i.2) (by exact⟨a,.full,aaD,hX.full⟩) (λi l _ _ _ _ E m z p=>?_);have⟨v24,o⟩:=i;have⟨b,c,E,j⟩:=E;have e:=Aj e E;dsimp only[lS]at m;apply Ir e m<;>intro e m
 ·cases m;have m:=Qb z;dsimp only[lS]at m;exact au
 refine sw [8,0,18,9,0] ?_;intro s q e m;refine Ad (f:=Tm.av) o [q] j zY e.2 ?_;simp[e];cases m;exact p _ _ _ ⟨b,(.loc 65 (l.fo 65+1)),aaD,(On 65)⟩ z
@[reducible,instance] def Y4:=@Kc.mk prog 76 _ @qV
def zq(T:eO){H:dZ}{a0:List Fm}{a1:List Tm}{a2:Sq}{a3:Pf}{a:Tm}{b:Int}(hm:nE a0 a1 a2 a3=some (a,b)):eP prog T 23 [sL Fm.av a0,sL Tm.av a1,Sq.av a2,Pf.av a3] H (AV.tuple [Tm.av a,sI b]) H:=by
 rw[nE] at hm;refine fH.vG (Post:=λx K=>x=AV.tuple [Tm.av a,sI b]/\∃X,K=H++X) ?_ (λ_ _ h=>⟨_,h.2.choose_spec,by rw[h.1];simp[AV.low,AV.iL],h.1,rfl⟩);have e:=trivial;refine wi al2 func23 [42] [] 999 ?_;have m:=hm;refine sw [0,2,7,0,1,7,0,1,12,0,3,0,3] ?_;intro _ _ _ _ _ _ d7 _ _ d10 e m;exact aa
@[reducible,instance] def aaI:=@Kc.mk prog 23 _ @zq
def ji{n:Nat}:C1 prog 162 (r6 n) sB Vl.av:=by
 refine i1 λn ih=>u1 8 func162 λT H a0 r m e=>?_;rw[r6] at m;simp[e];apply Iq e m<;>intro e m
 ·apply wg 1;simp[e];refine wB 999 999 [] [] (λf=>f.1 2=sB (fp (qa a0.num 0) (fp (eo (eA a0.list) 0) (eo (eA a0.alY) 0) false) false)) λ_ g=>?_;rcases Pb (qa a0.num 0) e with e|e;rotate_left
  ·exact aj
  rcases Pb (eo (eA a0.list) 0) e with e|e
  ·exact aj
  exact aj
 apply wg 3;simp[e];apply Iq e m<;>intro e m
 ·apply wg 999;simp[e];refine Zy e m 0 (λa _ f h=>h=H/\f.1 27=sL sI a0.list/\f.1 28=sI (eA a0.list)/\f.1 29=sI a/\bx f 1 (Vl.av a0).cells) aaD (λa _ _ _ _ _ _ _ E e m z p=>?_) (λ_ _ _ _ E m=>?_)
  ·exact aa
  have e:=Aj e E;refine sg 5 [11,0] ?_;intro e m;refine wB 999 999 [] [] (λf=>f.1 2=sB (fp (eo a0.num 0) (eo (eA a0.alY) 0) false)) λ_ g=>?_;exact aa
 apply wg 3;simp[e];apply Iq e m<;>intro e m
 ·apply wg 1;simp[e];refine wB 999 999 [] [] (λf=>f.1 2=sB (fp (eo a0.num 0) (fp (eo (eA a0.list) 0) (eo (eA a0.alY) 0) false) false)) λ_ g=>?_;rcases Pb (eo a0.num 0) e with e|e;rotate_left
  ·exact aj
  rcases Pb (eo (eA a0.list) 0) e with e|e
  ·exact aj
  exact aj
 refine sg 3 [0,14] ?_;intro e m;apply wg 1;simp[e];refine WB m 999 999 [] [] (λv21 f=>f.1 2=sB v21) λb _ g m=>?_;apply Ir e m<;>intro e m
 ·exact jo
 apply Ir e m<;>intro e m
 ·exact jo
 apply Ir e m<;>intro e m
 ·exact jo
 refine sw [8,0,15] ?_;intro c _ e m;apply Ir e m<;>intro e m
 ·exact jo
 refine sw [8,0,15] ?_;intro d _ e m;exact jo
@[reducible,instance] def Z1:=@Kc.mk prog 162 _ @ji
def Df{n:Nat}:C1 prog 163 (xy n) sI Vl.av:=by
 refine i1 λn ih=>v1 func163 λT H a0 r m e=>?_;rw[xy] at m;simp[e];exact Wb e m 999 9 [7,8] [] (λs2 f=>f.1 3=sI s2)
@[reducible,instance] def Zs:=@Kc.mk prog 163 _ @Df
def CP:C1 prog 119 xC sI Vl.av:=by
 refine v1 func119 λT H a0 r m e=>?_;rw[xC] at m;exact aa
@[reducible,instance] def Zq:=@Kc.mk prog 119 _ @CP
def Dg{n:Nat}:C1 prog 120 (uQ n) Ty.av Vl.av:=by
 refine i1 λn ih=>v1 func120 λT H a0 r m e=>?_;rw[uQ] at m;exact aa
@[reducible,instance] def Zd:=@Kc.mk prog 120 _ @Dg
def A':C1 prog 78 p_ (t2 Ty.av sI) Vl.av:=by
 refine v1 func78 λT H a0 r m e=>?_;rw[p_] at m;exact aa
@[reducible,instance] def YX:=@Kc.mk prog 78 _ @A'
def CG{n:Nat}:C1 prog 122 (p4 n) sI Ty.av:=by
 refine i1 λn ih=>v1 func122 λT H a0 r m e=>?_;rw[p4] at m;exact aa
@[reducible,instance] def Za:=@Kc.mk prog 122 _ @CG
def Fp:C1 prog 80 yV (t2 sB sI) Ty.av:=by
 refine v1 func80 λT H a0 r m e=>?_;rw[yV] at m;exact aa
@[reducible,instance] def Z_:=@Kc.mk prog 80 _ @Fp
def fy(T:eO):∀(n:Nat),(∀{H:dZ} {a0:dW} {a1:Tm} {a2:List dJ} {r0:dJ} {w:dW} {u:Nat} (B:H[u]?=some [sI a0.used,sI a0.qN,sB a0.out]) (hm:fB n a0 a1 a2=some (r0,w)),eP prog T 81 [AV.fh u 0,Tm.av a1,sL dJ.av a2] H (dJ.av r0) (gx H u [sI w.used,sI w.qN,sB w.out]))/\(∀{H:dZ} {a0:dW} {a1:dJ} {a2:dJ} {r0:dJ} {w:dW} {u:Nat} (B:H[u]?=some [sI a0.used,sI a0.qN,sB a0.out]) (hm:eI n a0 a1 a2=some (r0,w)),eP prog T 82 [AV.fh u 0,dJ.av a1,dJ.av a2] H (dJ.av r0) (gx H u [sI w.used,sI w.qN,sB w.out])):=by
  intro n
  induction n with
  |zero=>
    refine⟨?_,?_⟩
    all_goals(intro _ _;intros;rename_i hm;cases hm)
  |succ n ih=>
 refine⟨?_,?_⟩
 ·intro H a0 a1 a2 r0 w u B hm;rw[fB] at hm;have ak:=e9 B;refine fH.Ng B ?_;have e:=ak;refine wi al2 func81 [] [(1,true,[])] 3 ?_;simp[e];refine wA 999 999 [2] [4,6] (λf=>f.1 0=AV.fh u 0/\f.1 30=sB (fp a0.out true (eo a0.used a0.qN))) [7,13,13,0] (λ_ g=>?_) ?_
  ·exact aa
  intro _ e m;refine Zy e m 999 (λj7 s8 f h=>∃t,(h=gx H u [sI s8.2.used,sI s8.2.qN,sB s8.2.out]/\f.1 0=AV.fh u 0/\f.1 2=sL dJ.av a2/\f.1 7=sT t dJ.av s8.1/\f.1 64=sL Tm.av a1.alY/\f.1 65=sI (eA a1.alY)/\f.1 66=sI j7/\bx f 4 (Tm.av a1).cells/\bx f 6 [sI 0,nL,nL,sI 0,sI 0,sI 0,nL,nL,nL])/\Ow f [76] t s8.1) (by exact⟨.full,aaD,hX.full⟩) (λj7 _ s8 aG _ _ _ _ E e m z p=>?_) (λs8 aG _ _ E m=>?_)
  ·have⟨b,aU⟩:=s8;have⟨t,E,C⟩:=E;have e:=Aj e E;dsimp only[lS]at m;simp[e];refine EJ m (ih.1 aaD) λaV d19 m=>?_;refine sw [9,0] ?_;intro e m;refine Ao (f:=dJ.av) b [aV] C Wl e.2 ?_;refine sw [7,0] ?_;intro e m;cases m;exact p _ _ _ ⟨(.loc 76 (aG.fo 76+1)),aaD,(On 76)⟩ z
  have⟨b,aU⟩:=s8;have⟨t,E,C⟩:=E;have e:=Aj e E;dsimp only[eC,lS]at m;apply Iq e m<;>intro e m
  ·refine sw [8,8,0] ?_;intro a7 a8 e m;refine uq m (ih.2 aaD) λ_ d23 m=>?_;exact au
  refine sw [13] ?_;intro e m;apply Iq e m<;>intro e m
  ·refine sw [8,0] ?_;intro a_ e m;refine Wn m 1 (λc f h=>∃i,(h=gx H u [sI c.2.2.2.2.2.2.2.2.2.2.used,sI c.2.2.2.2.2.2.2.2.2.2.qN,sB c.2.2.2.2.2.2.2.2.2.2.out]/\f.1 0=AV.fh u 0/\f.1 7=sT i dJ.av b/\f.1 11=sI c.1/\bx f 6 [sI 0,nL,nL,sI 0,sI 0,sI 0,nL,nL,nL]/\bx f 10 [sI c.2.1,sL sI c.2.2.1,sL dJ.av c.2.2.2.1,sI c.2.2.2.2.1,sI c.2.2.2.2.2.1,sI c.2.2.2.2.2.2.1,sL Ty.av c.2.2.2.2.2.2.2.1,sL Tm.av c.2.2.2.2.2.2.2.2.1,sL dJ.av c.2.2.2.2.2.2.2.2.2.1])/\Ow f [76] i b) (by exact⟨t,aaD,C⟩) (λc _ _ _ _ aH E m z p=>?_);have⟨aI,aJ,aK,aL,v37,aM,aN,v40,aO,aP,ae⟩:=c;have⟨i,E,G⟩:=E;have e:=Aj e E;dsimp only[vS]at m;simp[e];refine Wj m 999 0 (λaQ f h=>∃an j,(h=gx H u [sI ae.used,sI ae.qN,sB ae.out]/\f.1 0=AV.fh u 0/\f.1 7=sT j dJ.av b/\f.1 11=sI aI/\f.1 120=sB an/\bx f 6 [sI 0,nL,nL,sI 0,sI 0,sI 0,nL,nL,nL]/\bx f 10 [sI aJ,sL sI aK,sL dJ.av aL,sI v37,sI aM,sI aN,sL Ty.av v40,sL Tm.av aO,sL dJ.av aP])/\Ow f [76] j b/\aQ an=some aH) (λaQ _ g m=>?_) ?_
   ·have⟨a',e,m⟩:=OQ e m;apply Ir e m<;>intro e m
    ·simp[e];exact g _ _ ⟨false,i,aaD,G,m⟩
    simp[e];exact g _ _ ⟨(lV ae.out),i,aaD,G,m⟩
   rintro _ _ ⟨an,j,E,I,m⟩;have e:=Aj e E;apply Ir e m<;>intro e m
   ·apply wg 999;cases m;have m:=Qb z;dsimp only[vS]at m;exact au
   apply wg 2;simp[e];refine D3 m 999 999 (λaR f h=>∃v51 ao v53 aq ar aw ax ay v59 J v,(h=gx H u [sI J.used,sI J.qN,sB J.out]/\f.1 0=AV.fh u 0/\f.1 7=sT v dJ.av b/\f.1 11=sI aI/\bx f 6 [sI 0,nL,nL,sI 0,sI 0,sI 0,nL,nL,nL]/\bx f 10 [sI v51,sL sI ao,sL dJ.av v53,sI aq,sI ar,sI aw,sL Ty.av ax,sL Tm.av ay,sL dJ.av v59])/\Ow f [76] v b/\aR v51 ao v53 aq ar aw ax ay v59 J=some aH) ?_ (λaR _ g m=>?_)
   ·rintro _ _ ⟨v51,ao,v53,aq,ar,aw,ax,ay,v59,J,v,E,az,m⟩;have e:=Aj e E;simp[e];cases m;exact p _ _ _ ⟨v,aaD,az⟩ z
   refine sw [8,0] ?_;intro ba e m;refine EJ m (ih.2 aaD) λ_ d66 m=>?_;apply Iq e m<;>intro e m
   ·simp[e];exact g _ _ ⟨aJ,aK,aL,v37,aM,aN,v40,aO,aP,d66,j,aaD,I,m⟩
   simp[e];refine EJ m (ih.2 aaD) λy d68 m=>?_;simp[e];exact g _ _ ⟨y.num,y.list,y.pair,y.body.alX,y.body.al0,y.body.dN.alX,y.body.dN.alY,y.body.alY,y.env,d68,j,aaD,I,m⟩
  apply Iq e m<;>intro e m
  ·refine sw [8,8,9,0] ?_;intro aW aX e m;refine Ad (f:=sI) [aW.num] aX.list (hX.full (D:=[])) H4 e.2 ?_;exact au
  refine sw [14,8,8,0] ?_;intro bb bc e m;refine Wn m 1 (λd f h=>∃k,(h=gx H u [sI d.2.2.2.2.2.2.2.2.2.2.used,sI d.2.2.2.2.2.2.2.2.2.2.qN,sB d.2.2.2.2.2.2.2.2.2.2.out]/\f.1 0=AV.fh u 0/\f.1 7=sT k dJ.av b/\f.1 14=sI d.1/\bx f 6 [sI 0,nL,nL,sI 0,sI 0,sI 0,nL,nL,nL]/\bx f 13 [sI d.2.1,sL sI d.2.2.1,sL dJ.av d.2.2.2.1,sI d.2.2.2.2.1,sI d.2.2.2.2.2.1,sI d.2.2.2.2.2.2.1,sL Ty.av d.2.2.2.2.2.2.2.1,sL Tm.av d.2.2.2.2.2.2.2.2.1,sL dJ.av d.2.2.2.2.2.2.2.2.2.1])/\Ow f [76] k b) (by exact⟨t,aaD,C⟩) (λd _ _ _ _ aS E m z p=>?_);have⟨K,v85,aA,v87,aB,aC,aD,v91,aE,v93,af⟩:=d;have⟨k,E,L⟩:=E;have e:=Aj e E;dsimp only[vS]at m;simp[e];refine wj 999 0 (λf h=>∃l,(h=gx H u [sI af.used,sI af.qN,sB af.out]/\f.1 0=AV.fh u 0/\f.1 7=sT l dJ.av b/\f.1 14=sI K/\f.1 172=sB (fp (qa K 0) (lV af.out) false)/\bx f 6 [sI 0,nL,nL,sI 0,sI 0,sI 0,nL,nL,nL]/\bx f 13 [sI v85,sL sI aA,sL dJ.av v87,sI aB,sI aC,sI aD,sL Ty.av v91,sL Tm.av aE,sL dJ.av v93])/\Ow f [76] l b) (λ_ g=>?_) ?_
  ·rcases Pb (qa K 0) e with e|e
   ·simp[e];exact g _ _ ⟨k,aaD,L⟩
   simp[e];exact g _ _ ⟨k,aaD,L⟩
  rintro _ _ ⟨l,E,M⟩;have e:=Aj e E;apply Ir e m<;>intro e m
  ·apply wg 999;cases m;have m:=Qb z;dsimp only[vS]at m;exact au
  apply wg 2;simp[e];refine D3 m 3 999 (λaT f h=>∃aF N O P Q R v105 S v107 A o,(h=gx H u [sI A.used,sI A.qN,sB A.out]/\f.1 0=AV.fh u 0/\f.1 7=sT o dJ.av b/\f.1 14=sI K/\bx f 6 [sI 0,nL,nL,sI 0,sI 0,sI 0,nL,nL,nL]/\bx f 13 [sI aF,sL sI N,sL dJ.av O,sI P,sI Q,sI R,sL Ty.av v105,sL Tm.av S,sL dJ.av v107])/\Ow f [76] o b/\aT aF N O P Q R v105 S v107 A=some aS) ?_ (λaT _ g m=>?_)
  ·rintro _ _ ⟨aF,N,O,P,Q,R,v105,S,v107,A,o,E,ah,m⟩;have e:=Aj e E;simp[e];cases m;exact p _ _ _ ⟨o,aaD,ah⟩ z
  refine sw [8,8,0] ?_;intro aY aZ e m;refine uq m (ih.2 aaD) λq d115 m=>?_;simp[e];refine Wj m 999 999 (λai f h=>∃v117 U V W X Y Z v124 ad x a,(h=gx H u [sI x.used,sI x.qN,sB x.out]/\f.1 0=AV.fh u 0/\f.1 7=sT a dJ.av b/\f.1 14=sI K/\bx f 6 [sI 0,nL,nL,sI 0,sI 0,sI 0,nL,nL,nL]/\bx f 13 [sI v85,sL sI aA,sL dJ.av v87,sI aB,sI aC,sI aD,sL Ty.av v91,sL Tm.av aE,sL dJ.av v93]/\bx f 15 [sI v117,sL sI U,sL dJ.av V,sI W,sI X,sI Y,sL Ty.av Z,sL Tm.av v124,sL dJ.av ad])/\Ow f [76] a b/\ai v117 U V W X Y Z v124 ad x=some aS) (λai _ g m=>?_) ?_
  ·apply Iq e m<;>intro e m
   ·simp[e];exact g _ _ ⟨q.num,q.list,q.pair,q.body.alX,q.body.al0,q.body.dN.alX,q.body.dN.alY,q.body.alY,q.env,d115,l,aaD,M,m⟩
   refine sw [8,0] ?_;intro a6 e m;refine uq m (ih.2 aaD) λr d131 m=>?_;simp[e];exact g _ _ ⟨r.num,r.list,r.pair,r.body.alX,r.body.al0,r.body.dN.alX,r.body.dN.alY,r.body.alY,r.env,d131,l,aaD,M,m⟩
  rintro _ _ ⟨v117,U,V,W,X,Y,Z,v124,ad,x,a,E,F,m⟩;have e:=Aj e E;apply Iq e m<;>intro e m
  ·simp[e];exact g _ _ ⟨v85,aA,v87,aB,aC,aD,v91,aE,v93,x,a,aaD,F,m⟩
  simp[e];refine EJ m (ih.2 aaD) λs d134 m=>?_;simp[e];exact g _ _ ⟨s.num,s.list,s.pair,s.body.alX,s.body.al0,s.body.dN.alX,s.body.dN.alY,s.body.alY,s.env,d134,a,aaD,F,m⟩
 ·intro H a0 a1 a2 r0 w u B hm;rw[eI] at hm;have ak:=e9 B;refine fH.Ng B ?_;have e:=ak;refine wi al2 func82 [] [] 999 ?_;have⟨e,m⟩:=Ck e hm;simp[e];refine Ad (f:=dJ.av) a1.env [a2] (hX.full (D:=[])) Wl e.2 ?_;simp[e];refine uq m (ih.1 aaD) λ_ d136 m=>?_;exact au
def BB(T:eO){H:dZ}{a0:dW}{a1:Tm}{a2:List dJ}{d:dJ}{a:dW}{b:Nat}(c:H[b]?=some [sI a0.used,sI a0.qN,sB a0.out]){n:Nat}(hm:fB n a0 a1 a2=some (d,a)):eP prog T 81 [AV.fh b 0,Tm.av a1,sL dJ.av a2] H (dJ.av d) (gx H b [sI a.used,sI a.qN,sB a.out]):=(fy T n).1 c hm
@[reducible,instance] def O3:=@Kc.mk prog 81 _ @BB
def A_(T:eO){H:dZ}{a0:dW}{a1 a2 d:dJ}{a:dW}{b:Nat}(c:H[b]?=some [sI a0.used,sI a0.qN,sB a0.out]){n:Nat}(hm:eI n a0 a1 a2=some (d,a)):eP prog T 82 [AV.fh b 0,dJ.av a1,dJ.av a2] H (dJ.av d) (gx H b [sI a.used,sI a.qN,sB a.out]):=(fy T n).2 c hm
@[reducible,instance] def Ol:=@Kc.mk prog 82 _ @A_
def Dt{n:Nat}:C1 prog 83 (yS n) dJ.av Vl.av:=by
 refine i1 λn ih=>v1 func83 λT H a0 r m e=>?_;rw[yS] at m;simp[e];refine Td e m 999 14 [12,13] [2] [23] (λs2=>s2) (λs2 a f=>bx f 3 [sI a0.num,sL sI a0.list,sT a dJ.av s2,sI 0,sI 0,sI 0,nL,nL,nL]) λh _ s2 c _ _ _ _ E e m z p=>?_;have⟨a,E,b⟩:=E;refine sw [20,0,18,9,0] ?_;intro d e m;refine Ad (f:=dJ.av) s2 [d] b Wl e.2 ?_;simp[e];cases m;exact p _ _ _ ⟨(.loc 23 (c.fo 23+1)),aaD,(On 23)⟩ z
@[reducible,instance] def af9:=@Kc.mk prog 83 _ @Dt
def x0{n:Nat}:C2 prog 84 (og n) Vl.av dJ.av Ty.av:=by
 refine i2 λn ih=>v2 func84 λT H a0 a1 r m e=>?_;rw[og] at m;refine Il e m λe m=>?_;apply Iq e m<;>intro e m
 ·refine sw [9,0] ?_;intro e m;refine Ao (f:=sI) [] a0.list (hX.full (D:=[])) H4 e.2 ?_;exact au
 refine sw [12,8,8,0,18,8,8,0,18] ?_;intro c d a h i b e m;have e:=Aj e (show AV.agg [sI 3,sI 0,AV.slice .gK [],AV.slice .gK [Vl.av a,Vl.av b]]=Vl.av (Vl.mk 3 0 [] [a,b]) by rw[Vl.eU];rfl);exact au
@[reducible,instance] def Y8:=@Kc.mk prog 84 _ @x0
def jV(T:eO){H:dZ}{a0:Tm}{a1:List Vl}{a2:Int}{B:Vl}{C D:Int}(hm:iV a0 a1 a2=some (B,C,D)):eP prog T 24 [Tm.av a0,sL Vl.av a1,sI a2] H (AV.tuple [Vl.av B,sI C,sI D]) H:=by
 rw[iV] at hm;refine fH.vG (Post:=λx K=>x=AV.tuple [Vl.av B,sI C,sI D]/\∃X,K=H++X) ?_ (λ_ _ h=>⟨_,h.2.choose_spec,by rw[h.1];simp[AV.low,AV.iL],h.1,rfl⟩);have e:=trivial;refine wi al2 func24 [80] [(29,true,[])] 999 ?_;have m:=hm;refine sw [0,2,7,0] ?_;intro _ _ e m;refine Zy e m 0 (λF w f h=>h=H/\f.1 1=sL Vl.av a1/\f.1 2=sI a2/\f.1 30=sL Vl.av a1/\f.1 31=sI (eA a1)/\f.1 32=sI F/\bx f 3 (Tm.av a0).cells/\bx f 6 [sI 0,sI 0,nL,nL]/\bx f 9 [sI w.1,sL Ty.av w.2]) aaD (λF _ w _ _ _ _ G E e m z p=>?_) (λw _ _ _ E m=>?_)
 ·have⟨b,c⟩:=w;have e:=Aj e E;dsimp only[lS]at m;refine sg 14 [0,2,0,13] ?_;intro _ _ e m;apply wg 3;simp[e];refine D3 m 999 999 (λy f h=>∃d,(h=H/\f.1 1=sL Vl.av a1/\f.1 2=sI a2/\f.1 30=sL Vl.av a1/\f.1 31=sI (eA a1)/\f.1 32=sI F/\f.1 56=sB d/\bx f 3 (Tm.av a0).cells/\bx f 6 [sI 0,sI 0,nL,nL]/\bx f 9 [sI b,sL Ty.av c])/\y d=some G) ?_ (λy _ g m=>?_)
  ·rintro _ _ ⟨d,E,m⟩;exact aa
  apply Iq e m<;>intro e m
  ·exact jo
  refine sw [8,0] ?_;intro S e m;refine qH m iw λ_ m=>?_;exact jo
 have⟨b,c⟩:=w;have e:=Aj e E;apply wg 10;dsimp only[eC,lS]at m;refine sw [0,2,0,14] ?_;intro _ _ e m;apply wg 3;simp[e];refine wj 999 999 (λf h=>h=H/\f.1 1=sL Vl.av a1/\f.1 2=sI a2/\f.1 76=sB (fp (pg a2 0) true (pj a2 65536))/\bx f 3 (Tm.av a0).cells/\bx f 6 [sI 0,sI 0,nL,nL]/\bx f 9 [sI b,sL Ty.av c]) (λ_ g=>?_) ?_
 ·rcases Pb (pg a2 0) e with e|e
  ·exact aj
  exact aj
 rintro _ _ E;refine sw [10,7,0,2,0] ?_;intro _ d31 e m;refine Wr e m 0 (λi a f h=>h=H++[[sI a.2.2.2.2.2.2.2.2.2.1,sI a.2.2.2.2.2.2.2.2.2.2.1,sB a.2.2.2.2.2.2.2.2.2.2.2]]/\f.1 17=AV.fh (List.length H) 0/\f.1 84=sL Vl.av a1/\f.1 85=sI (eA a1)/\f.1 86=sI i/\bx f 6 [sI 0,sI 0,nL,nL]/\bx f 9 [sI b,sL Ty.av c]/\bx f 18 [sI a.1,sL sI a.2.1,sL dJ.av a.2.2.1,sI a.2.2.2.1,sI a.2.2.2.2.1,sI a.2.2.2.2.2.1,sL Ty.av a.2.2.2.2.2.2.1,sL Tm.av a.2.2.2.2.2.2.2.1,sL dJ.av a.2.2.2.2.2.2.2.2.1]) aaD (λa _ _ _ E m=>?_) (λi _ a _ _ _ _ I E e m z p=>?_)
 ·have⟨J,L,M,N,v46,O,P,v49,Q,v51,R,v53⟩:=a;have e:=Aj e E;apply wg 999;dsimp only[eC,Iv]at m;exact aa
 have⟨J,L,M,N,v46,O,P,v49,Q,v51,R,v53⟩:=a;have e:=Aj e E;dsimp only[Iv]at m;apply wg 5;simp[e];refine D3 m 999 999 (λA f h=>∃j k l v59 n o q r s t u v,(h=H++[[sI t,sI u,sB v]]/\f.1 17=AV.fh (List.length H) 0/\f.1 84=sL Vl.av a1/\f.1 85=sI (eA a1)/\f.1 86=sI i/\bx f 6 [sI 0,sI 0,nL,nL]/\bx f 9 [sI b,sL Ty.av c]/\bx f 18 [sI j,sL sI k,sL dJ.av l,sI v59,sI n,sI o,sL Ty.av q,sL Tm.av r,sL dJ.av s])/\A j k l v59 n o q r s t u v=some I) ?_ (λA _ g m=>?_)
 ·rintro _ _ ⟨j,k,l,v59,n,o,q,r,s,t,u,v,E,m⟩;exact aa
 apply Iq e m<;>intro e m
 ·simp[e];exact g _ _ ⟨_,_,_,_,_,_,_,_,_,_,_,_,aaD,m⟩
 refine sw [0,4,0,5] ?_;intro _ _ d73 e m;simp[e];exact g _ _ ⟨_,_,_,_,_,_,_,_,_,_,_,_,aaD,m⟩
@[reducible,instance] def abR:=@Kc.mk prog 24 _ @jV
def gm(T:eO)(o:oc T){H:dZ}{n:Bool}(hm:uU=some n):eP prog T 7 [] H (sB n) H:=by
 rw[uU] at hm;have e:=o;refine wi al2 func7 [] [] 24 ?_;simp[e];refine AK hm λ_ m=>?_;simp[e];refine AK m λ_ m=>?_;simp[e];refine AK m λ_ m=>?_;simp[e];refine AK m λ_ m=>?_;simp[e];refine AK m λ_ m=>?_;simp[e];refine AK m λ_ m=>?_;simp[e];refine AK m λ_ m=>?_;simp[e];refine AK m λ_ m=>?_;simp[e];refine AK m λ_ m=>?_;simp[e];refine AK m λ_ m=>?_;simp[e];refine AK m λ_ m=>?_;simp[e];refine AK m λ_ m=>?_;simp[e];refine AK m λ_ m=>?_;simp[e];refine Kf3 m λa _ b m=>?_;simp[e];refine Kf3 m λ_ _ c m=>?_;simp[e];refine AK m λ_ m=>?_;simp[e];refine Ks3 m λ_ _ d m=>?_;refine sw [0,4,0,6,0,1,0,1,0,1,0,3,0,2,0,3,0] ?_;intro _ _ _ h _ _ _ _ _ i _ j l _ k e m;refine wB 999 999 [] [] (λf=>f.1 0=sB (fp (eo b 0) (fp (eo c 0) (fp (eo d 0) (fp (eo h 0) (fp (eo i 0) (fp (eo j 0) (fp (eo k 0) (fp (eo a.alX 4) (eo l.num 5) false) false) false) false) false) false) false) false)) λ_ g=>?_;rcases Pb (eo b 0) e with e|e;rotate_left
 ·exact aj
 rcases Pb (eo c 0) e with e|e;rotate_left
 ·exact aj
 rcases Pb (eo d 0) e with e|e;rotate_left
 ·exact aj
 rcases Pb (eo h 0) e with e|e;rotate_left
 ·exact aj
 rcases Pb (eo i 0) e with e|e;rotate_left
 ·exact aj
 rcases Pb (eo j 0) e with e|e;rotate_left
 ·exact aj
 rcases Pb (eo k 0) e with e|e;rotate_left
 ·exact aj
 rcases Pb (eo a.alX 4) e with e|e
 ·exact aj
 exact aj
@[reducible,instance] def ZD:=@Kc.mk prog 7 _ @gm
def XA:C1 prog 8 JI sB (sL sI):=by
 refine v1 func8 λT H a0 r m e=>?_;rw[JI] at m;exact au
def abg:kW prog 9=true:=by kernel_rfl
def Yr(T:eO){a0:List Int}{b:eR}(hm:Rz a0=some b):eP prog T 9 [AV.slice .gK (List.map (λn=>AV.sc (Value.int .i64 n)) a0)] [] (AV.fh 0 0) (gx [[]] 0 [AV.slice .gK (List.map (λn=>AV.sc (Value.int .i64 n)) b.l),AV.sc (.int .i64 b.AM)]):=by
 obtain rfl:=kX hm;refine fH.intro (fn:=f9) func9 rfl abg (EX rfl) ?_;refine h9.DM λc a=>?_;refine h9.region [] aby ?_;simp;refine a _ _ ?_;refine h9.DM λc a=>?_;refine h9.region [5] aby ?_;simp;refine a _ _ ?_;refine h9.ret ?_;simp[BI,gx]
@[reducible,instance] def aip:=@Kc.mk prog 9 _ @Yr
def Kn:C0 prog 27 EA Ty.av:=by
 refine v0 func27 λT H r m e=>?_;rw[EA] at m;exact aa
@[reducible,instance] def aeu:=@Kc.mk prog 27 _ @Kn
def B1:C2 prog 90 Em (sL sI) (sL Ty.av) Ty.av:=by
 refine v2 func90 λT H a0 a1 r m e=>?_;rw[Em] at m;simp[e];refine Td e m 0 9 [0,8] [3] [25] (λs2=>s2) (λs2 b f=>f.1 5=sT b sI s2) λj _ s2 k _ _ _ l E e m z p=>?_;have⟨b,E,c⟩:=E;simp[e]at E;have e:=Aj e E;apply wg 5;simp[e];refine D3 m 999 999 (λi f h=>∃v12 a,(h=H/\f.1 0=sL Ty.av a0/\f.1 5=sT a sI v12/\f.1 8=sI (eA a0)/\f.1 9=sI j/\bx f 3 (Ty.av a1).cells)/\Ow f [25] a v12/\i v12=some l) ?_ (λi _ g m=>?_)
 ·rintro _ _ ⟨v12,a,E,d,m⟩;have e:=Aj e E;simp[e];cases m;exact p _ _ _ ⟨a,aaD,d⟩ z
 refine sw [8,0,4] ?_;intro n _ e m;apply Ir e m<;>intro e m
 ·simp[e];exact g _ _ ⟨s2,b,aaD,c,m⟩
 refine sw [9,0] ?_;intro e m;refine Ao (f:=sI) s2 [j] c H4 e.2 ?_;simp[e];exact g _ _ ⟨(fU s2 [j]),(.loc 25 (k.fo 25+1)),aaD,(On 25),m⟩
@[reducible,instance] def agX:=@Kc.mk prog 90 _ @B1
def Py:C2 prog 70 Jx sI sI sI:=by
 refine v2 func70 λT H a0 a1 r m e=>?_;rw[Jx] at m;refine sw [9,9] ?_;intro e m;exact au
@[reducible,instance] def ahz:=@Kc.mk prog 70 _ @Py
def sl(T:eO){H:dZ}{a0:eR}{a1 h:Int}{a:eR}{c:Nat}(b:H[c]?=some [sL sI a0.l,sI a0.AM])(hm:ir a0 a1=some (h,a)):eP prog T 22 [AV.fh c 0,sI a1] H (sI h) (gx H c [sL sI a.l,sI a.AM]):=by
 rw[ir] at hm;have d:=e9 b;refine fH.Ng b ?_;have e:=d;refine wi al2 func22 [] [(1,true,[]),(3,true,[])] 3 ?_;simp[e];refine wA 999 999 [1] [] (λf=>f.1 0=AV.fh c 0/\f.1 19=sB (fp (pg a1 1) true (qa a0.AM (eA a0.l)))) [] (λ_ g=>?_) ?_
 ·exact aa
 intro _ e m;have m:=hm;exact aa
@[reducible,instance] def Xz:=@Kc.mk prog 22 _ @sl
def tV(T:eO):∀(n:Nat),(∀{H:dZ} {a0:eR} {a1:Int} {i:Ty} {a:eR} {c:Nat} (b:H[c]?=some [sL sI a0.l,sI a0.AM]) (hm:nN n a0 a1=some (i,a)),eP prog T 91 [AV.fh c 0,sI a1] H (Ty.av i) (gx H c [sL sI a.l,sI a.AM])):=by
  intro n
  induction n with
  |zero=>
    skip
    all_goals(intro _ _;intros;rename_i hm;cases hm)
  |succ n ih=>
 intro H a0 a1 i a c b hm;rw[nN] at hm;have j:=e9 b;refine fH.Ng b ?_;have e:=j;refine wi al2 func91 [] [] 2 ?_;simp[e];refine D3 hm 3 999 (λk f h=>∃v2,(h=gx H c [sL sI v2.l,sI v2.AM]/\f.1 4=AV.ie 4 (f.gen 4) 0/\f.box 4=some [sI 0,nL])/\k v2=some (i,a)) ?_ (λk _ g m=>?_)
 ·rintro _ _ ⟨v2,E,m⟩;exact aa
 refine sw [0,2,0] ?_;intro d d8 e m;refine wA 999 999 [1,6] [4] (λf=>f.1 0=AV.fh c 0/\f.1 7=sB (fp (eo d 0) true (fp (eo d 1) true (eo d 2)))) [13,13,13] (λ_ g=>?_) ?_
 ·rcases Pb (eo d 0) e with e|e
  ·exact aj
  rcases Pb (eo d 1) e with e|e
  ·exact aj
  exact aj
 intro _ e m;apply Iq e m<;>intro e m
 ·apply Ir e m<;>intro e m
  ·exact jo
  simp[e];refine EJ m (ih aaD) λ_ d17 m=>?_;simp[e];refine EJ m (ih aaD) λ_ d19 m=>?_;exact aa
 apply Ir e m<;>intro e m
 ·exact jo
 apply Ir e m<;>intro e m
 ·exact jo
 simp[e];refine EJ m (ih aaD) λ_ d22 m=>?_;simp[e];refine EJ m (ih aaD) λ_ d24 m=>?_;exact aa
def UY(T:eO){H:dZ}{a0:eR}{a1:Int}{d:Ty}{a:eR}{b:Nat}(c:H[b]?=some [sL sI a0.l,sI a0.AM]){n:Nat}(hm:nN n a0 a1=some (d,a)):eP prog T 91 [AV.fh b 0,sI a1] H (Ty.av d) (gx H b [sL sI a.l,sI a.AM]):=(tV T n) c hm
@[reducible,instance] def agt:=@Kc.mk prog 91 _ @UY
def BK:C2 prog 93 rL (sL Ty.av) (sL Ty.av) (sL Ty.av):=by
 refine v2 func93 λT H a0 a1 r m e=>?_;rw[rL] at m;refine sw [9,0] ?_;intro e m;refine Ao (f:=Ty.av) [] a0 (hX.full (D:=[])) FZ e.2 ?_;refine sw [9,0] ?_;intro e m;refine Ao (f:=Ty.av) (fU [] a0) a1 (hX.new (D:=[6]) (d:=6) aar) FZ e.2 ?_;exact au
@[reducible,instance] def acS:=@Kc.mk prog 93 _ @BK
def OG:C2 prog 59 zG Tm.av Tm.av (sL Tm.av):=by
 refine v2 func59 λT H a0 a1 r m e=>?_;rw[zG] at m;simp[e];refine Wr e m 999 (λd s2 f h=>h=H/\f.1 7=sL Tm.av a1/\f.1 8=sI (eA a1)/\f.1 9=sI d/\bx f 2 [sI s2.1,sI s2.2.1,sI s2.2.2.1,sL Ty.av s2.2.2.2.1,sL Tm.av s2.2.2.2.2]/\bx f 4 [sI 0,sI 0,sI 0,nL,nL]) aaD (λs2 _ _ _ E m=>?_) (λd _ s2 _ _ _ _ _ E e m z p=>?_)
 ·have⟨v11,v12,a,b,c⟩:=s2;have e:=Aj e E;dsimp only[eC,Dn]at m;exact au
 have⟨v11,v12,a,b,c⟩:=s2;have e:=Aj e E;dsimp only[Dn]at m;exact aa
@[reducible,instance] def ai2:=@Kc.mk prog 59 _ @OG
def Eb:C0 prog 105 xd Tm.av:=by
 refine v0 func105 λT H r m e=>?_;rw[xd] at m;exact aa
@[reducible,instance] def abZ:=@Kc.mk prog 105 _ @Eb
def Hp:C0 prog 60 rK Tm.av:=by
 refine v0 func60 λT H r m e=>?_;rw[rK] at m;exact aa
@[reducible,instance] def adk:=@Kc.mk prog 60 _ @Hp
def eV(T:eO):∀(n:Nat),(∀{H:dZ} {a0:eR} {a1:List Ty} {a2:Ty} {a3:Int} {j:Tm} {a:eR} {b:Nat} (k:H[b]?=some [sL sI a0.l,sI a0.AM]) (hm:ik n a0 a1 a2 a3=some (j,a)),eP prog T 33 [AV.fh b 0,sL Ty.av a1,Ty.av a2,sI a3] H (Tm.av j) (gx H b [sL sI a.l,sI a.AM])):=by
  intro n
  induction n with
  |zero=>
    skip
    all_goals(intro _ _;intros;rename_i hm;cases hm)
  |succ n ih=>
 intro H a0 a1 a2 a3 j a b k hm;rw[ik] at hm;have t:=e9 k;refine fH.Ng k ?_;have e:=t;refine wi al2 func33 [] [] 5 ?_;have m:=hm;refine sw [0,1,0] ?_;intro B e m;refine Wj m 999 0 (λu f h=>∃v3 v4,(h=gx H b [sL sI v4.l,sI v4.AM]/\f.1 0=AV.fh b 0/\f.1 1=sL Ty.av a1/\f.1 3=sI a3/\f.1 9=sL sI B/\f.1 27=sB v3/\bx f 6 (Ty.av a2).cells/\bx f 8 [sI 0,sI 0,sI 0,nL,nL])/\u v3 v4=some (j,a)) (λu _ g m=>?_) ?_
 ·apply Ir e m<;>intro e m
  ·exact ak2
  refine sw [0,2] ?_;intro _ d9 e m;exact ak2
 rintro _ _ ⟨v3,v4,E,m⟩;have e:=Aj e E;apply Iq e m<;>intro e m
 ·refine sg 999 [0,2] ?_;intro _ d12 e m;exact aa
 apply wg 2;simp[e];refine D3 m 999 6 (λq f h=>∃c,(h=gx H b [sL sI c.l,sI c.AM]/\f.1 0=AV.fh b 0/\f.1 1=sL Ty.av a1/\f.1 3=sI a3/\bx f 6 (Ty.av a2).cells/\bx f 8 [sI 0,sI 0,sI 0,nL,nL])/\q c=some (j,a)) ?_ (λq _ g m=>?_)
 ·rintro _ _ ⟨c,E,m⟩;have e:=Aj e E;simp[e];apply Iq e m<;>intro e m
  ·apply wg 1;simp[e];refine D3 m 999 999 (λr f h=>∃v21,(h=gx H b [sL sI v21.l,sI v21.AM]/\f.1 0=AV.fh b 0/\f.1 8=AV.ie 8 (f.gen 8) 0/\f.box 8=some [sI 0,sI 0,sI 0,nL,nL])/\r v21=some (j,a)) ?_ (λr _ g m=>?_)
   ·rintro _ _ ⟨v21,E,m⟩;refine sw [10,0,2] ?_;intro _ d26 e m;exact aa
   apply Ir e m<;>intro e m
   ·exact jo
   refine sw [0,2] ?_;intro _ d29 e m;apply Iq e m<;>intro e m
   ·simp[e];refine EJ m (ih aaD) λ_ d31 m=>?_;exact aa
   apply Iq e m<;>intro e m
   ·refine sw [0,4,0] ?_;intro _ e m;refine uq m (ih aaD) λ_ d35 m=>?_;simp[e];refine uq m (ih aaD) λ_ d37 m=>?_;exact aa
   apply Ir e m<;>intro e m
   ·exact jo
   refine sw [0,4,0] ?_;intro _ e m;refine uq m (ih aaD) λ_ d41 m=>?_;simp[e];refine uq m (ih aaD) λ_ d43 m=>?_;exact aa
  apply wg 3;simp[e];apply Ir e m<;>intro e m
  ·apply wg 999;apply Iq e m<;>intro e m
   ·refine sw [8,0] ?_;intro C e m;refine uq m (ih aaD) λ_ d47 m=>?_;refine sw [8,0] ?_;intro D e m;refine uq m (ih aaD) λ_ d50 m=>?_;exact aa
   refine sw [14,8,0,4,8,0] ?_;intro F _ G e m;refine uq m (ih aaD) λ_ d57 m=>?_;exact aa
  apply wg 2;simp[e];refine Wj m 999 999 (λs f h=>∃o d,(h=gx H b [sL sI d.l,sI d.AM]/\f.1 0=AV.fh b 0/\f.1 1=sL Ty.av a1/\f.1 3=sI a3/\f.1 276=sB o/\bx f 6 (Ty.av a2).cells/\bx f 8 [sI 0,sI 0,sI 0,nL,nL])/\s o d=some (j,a)) (λs _ g m=>?_) ?_
  ·apply Ir e m<;>intro e m
   ·exact ak2
   refine sw [0,2] ?_;intro _ d65 e m;exact ak2
  rintro _ _ ⟨o,d,E,m⟩;refine sw [10,14,0,4,0] ?_;intro _ e m;refine uq m (ih aaD) λ_ d70 m=>?_;simp[e];refine uq m (ih aaD) λ_ d72 m=>?_;exact aa
 apply Ir e m<;>intro e m
 ·exact jo
 refine sw [0,2] ?_;intro _ d75 e m;apply Iq e m<;>intro e m
 ·refine sw [0,2,0,4,0] ?_;intro _ d77 _ e m;refine uq m (ih aaD) λ_ d80 m=>?_;refine sw [0,4,0] ?_;intro _ e m;refine uq m (ih aaD) λ_ d83 m=>?_;exact aa
 apply Iq e m<;>intro e m
 ·refine sw [0,2,0] ?_;intro _ d86 e m;refine uq m (ih aaD) λ_ d88 m=>?_;simp[e];refine uq m (ih aaD) λ_ d90 m=>?_;exact aa
 apply Iq e m<;>intro e m
 ·refine sw [0,4,0,4,0,4,0] ?_;intro _ _ _ e m;refine uq m (ih aaD) λ_ d97 m=>?_;refine sw [0,4,0,4,0] ?_;intro _ _ e m;refine uq m (ih aaD) λ_ d101 m=>?_;refine sw [0,5] ?_;intro _ d103 e m;exact aa
 apply Iq e m<;>intro e m
 ·refine sw [0,4,0,4,0,4,0,4,0,4,0] ?_;intro _ _ _ _ _ e m;refine uq m (ih aaD) λ_ d112 m=>?_;refine sw [0,4,0,4,0,4,0] ?_;intro _ _ _ e m;refine uq m (ih aaD) λ_ d117 m=>?_;refine sw [0,4,0] ?_;intro _ e m;refine uq m (ih aaD) λ_ d120 m=>?_;exact aa
 apply Iq e m<;>intro e m
 ·refine sw [0,2,0] ?_;intro _ d123 e m;refine uq m (ih aaD) λ_ d125 m=>?_;simp[e];refine uq m (ih aaD) λ_ d127 m=>?_;exact aa
 apply Ir e m<;>intro e m
 ·exact jo
 simp[e];refine Wr e m 0 (λi _ f h=>h=gx H b [sL sI d75.l,sI d75.AM]/\f.1 0=AV.fh b 0/\f.1 1=sL Ty.av a1/\f.1 3=sI a3/\f.1 176=sI (eA a1)/\f.1 177=sI i/\bx f 6 (Ty.av a2).cells/\bx f 8 [sI 0,sI 0,sI 0,nL,nL]) aaD (λ_ _ _ _ E m=>?_) (λi _ _ _ _ _ _ v E e m z p=>?_)
 ·have e:=Aj e E;refine sg 999 [11] ?_;intro e m;exact jo
 have e:=Aj e E;refine sg 11 [8,0] ?_;intro w e m;refine WA m 999 999 [1,3,15,176,177] [6,8,16] (λv141 f=>f.1 0=AV.fh b 0/\f.1 198=sB v141) [] (λx _ g m=>?_) ?_
 ·apply Ir e m<;>intro e m
  ·exact jo
  refine sw [8,0] ?_;intro y e m;refine qH m iw λ_ m=>?_;exact jo
 intro _ v141 e m;apply Ir e m<;>intro e m
 ·exact al
 refine sw [0,4,8,0] ?_;intro _ A e m;refine uq m (ih aaD) λ_ d150 m=>?_;exact aa
def Ve(T:eO){H:dZ}{a0:eR}{a1:List Ty}{a2:Ty}{a3:Int}{d:Tm}{a:eR}{b:Nat}(c:H[b]?=some [sL sI a0.l,sI a0.AM]){n:Nat}(hm:ik n a0 a1 a2 a3=some (d,a)):eP prog T 33 [AV.fh b 0,sL Ty.av a1,Ty.av a2,sI a3] H (Tm.av d) (gx H b [sL sI a.l,sI a.AM]):=(eV T n) c hm
@[reducible,instance] def agv:=@Kc.mk prog 33 _ @Ve
def jP:C1 prog 13 hZ sB sI:=by
 refine u1 2 func13 λT H a0 r m e=>?_;rw[hZ] at m;simp[e];refine wB 999 999 [] [] (λf=>f.1 2=sB (fp (eo a0 4) true (fp (eo a0 5) true (eo a0 3)))) λ_ g=>?_;exact aa
def Hu:C1 prog 58 we Tm.av Tm.av:=by
 refine v1 func58 λT H a0 r m e=>?_;rw[we] at m;exact aa
@[reducible,instance] def acI:=@Kc.mk prog 58 _ @Hu
def G1:C3 prog 106 yr Tm.av Tm.av Tm.av Tm.av:=by
 refine v3 func106 λT H a0 a1 a2 r m e=>?_;rw[yr] at m;exact aa
@[reducible,instance] def adf:=@Kc.mk prog 106 _ @G1
def yu:C0 prog 61 su Tm.av:=by
 refine v0 func61 λT H r m e=>?_;rw[su] at m;exact aa
@[reducible,instance] def UM:=@Kc.mk prog 61 _ @yu
def ku(T:eO){H:dZ}{a0:eR}{f:Tm}{a:eR}{c:Nat}(b:H[c]?=some [sL sI a0.l,sI a0.AM])(hm:wQ a0=some (f,a)):eP prog T 17 [AV.fh c 0] H (Tm.av f) (gx H c [sL sI a.l,sI a.AM]):=by
 rw[wQ] at hm;have d:=e9 b;refine fH.Ng b ?_;have e:=d;refine wi al2 func17 [] [] 999 ?_;have m:=hm;refine sw [0,1,0,2,13,13] ?_;intro _ _ d3 e m;apply Iq e m<;>intro e m
 ·refine sw [0,4,0,4,0,5] ?_;intro _ _ _ d17 e m;exact aa
 refine sw [13] ?_;intro e m;apply Iq e m<;>intro e m
 ·refine sw [0,5] ?_;intro _ d28 e m;exact aa
 exact aa
@[reducible,instance] def aba:=@Kc.mk prog 17 _ @ku
def eN(T:eO)(A:oc T){a0:List Int}{B:Bool}(hm:mV a0=some B):fH prog T 4 [sL sI a0] [] (λx _=>x=sB B):=by
 rw[mV] at hm;have e:=A;refine wi al2 func4 [] [] 3 ?_;simp[e];refine WA hm 999 0 [0] [] (λv2 f=>f.1 39=sB v2) [13] (λP _ g m=>?_) ?_
 ·simp[e];refine qK m (gm T A) λ_ m=>?_;apply Ir e m<;>intro e m
  ·exact jo
  simp[e];refine qK m XA λ_ m=>?_;exact jo
 intro _ v2 e m;refine sg 11 [0,1,0,2,0,2,0,2,0,4,0,6,0,4,0,4,0,6,0] ?_;intro _ b d11 C d13 c d15 _ _ D d _ _ _ F i e m;refine wA 999 0 [5,9,12] [6,8,11] (λf=>f.1 4=sI b/\f.1 72=sB (fp (eL d 0) true (eL i 0))) [] (λ_ g=>?_) ?_
 ·exact aa
 intro _ e m;apply Iq e m<;>intro e m
 ·apply wg 1;simp[e];refine WB m 999 999 [] [] (λv30 f=>f.1 2=sB v30) λG _ g m=>?_;simp[e];refine qK m jP λ_ m=>?_;apply Iq e m<;>intro e m
  ·exact jo
  simp[e];refine qK m jP λ_ m=>?_;exact jo
 refine sg 7 [0,2,0,2,0] ?_;intro j k n o e m;refine wA 999 0 [5,14,16] [6,13,15] (λf=>f.1 4=sI b/\f.1 96=sB (fp (eL k 0) true (eL o 0))) [] (λ_ g=>?_) ?_
 ·exact aa
 intro _ e m;apply Iq e m<;>intro e m
 ·apply wg 1;simp[e];refine WB m 999 999 [] [] (λq f=>f.1 2=sB q) λH _ g m=>?_;simp[e];refine qK m jP λ_ m=>?_;apply Iq e m<;>intro e m
  ·exact jo
  simp[e];refine qK m jP λ_ m=>?_;exact jo
 apply wg 999;simp[e];refine Wn m 3 (λa f h=>h=gx [[]] 0 [sL sI d15.l,sI d15.AM]/\f.1 17=sI a.1/\f.1 18=sI a.2.1/\f.1 19=sI a.2.2.1/\f.1 20=sI a.2.2.2/\bx f 6 (Tm.av c).cells/\bx f 13 (Tm.av j).cells/\bx f 15 (Tm.av n).cells) aaD (λa _ _ _ _ I E m z p=>?_);have⟨r,v59,J,K⟩:=a;have e:=Aj e E;dsimp only[vq]at m;simp[e];apply Ir e m<;>intro e m
 ·apply wg 999;cases m;have m:=Qb z;dsimp only[vq]at m;exact au
 refine sg 9 [0,3,0,3,0] ?_;intro s _ t u _ v e m;refine wA 999 0 [17,18,19,20,23,26] [6,13,15,21,24] (λf=>f.1 133=sB (fp (eL t 0) true (eL v 0))) [] (λ_ g=>?_) ?_
 ·exact aa
 intro _ e m;apply Iq e m<;>intro e m
 ·apply wg 1;simp[e];refine WB m 999 999 [] [] (λv72 f=>f.1 2=sB v72) λL _ g m=>?_;simp[e];refine qK m jP λ_ m=>?_;apply Iq e m<;>intro e m
  ·exact jo
  simp[e];refine qK m jP λ_ m=>?_;exact jo
 apply wg 3;simp[e];refine wA 999 0 [17,18,19,20] [6,13,15] (λf=>f.1 149=sB (fp (eL s.num r) true (eL u.num v59))) [13] (λ_ g=>?_) ?_
 ·exact aa
 intro _ e m;refine sg 7 [0,3,0,3,0] ?_;intro M _ w N _ y e m;refine wA 999 0 [19,20,29,32] [6,13,15,27,30] (λf=>f.1 177=sB (fp (eL w 0) true (eL y 0))) [14] (λ_ g=>?_) ?_
 ·exact aa
 intro _ e m;apply wg 1;simp[e];refine WB m 999 999 [] [] (λv91 f=>f.1 2=sB v91) λO _ g m=>?_;simp[e];refine qK m jP λ_ m=>?_;apply Iq e m<;>intro e m
 ·exact jo
 simp[e];refine qK m jP λ_ m=>?_;exact jo
end Go.Proofs.YtpgdkkomegalnaaGreatDoor
