/- Part of the proof of SchemeAccepted: walks. -/
import Derived.Test.YtpgdkkomegalnaaGreatDoorAW2
set_option linter.all false
set_option maxRecDepth 20000
set_option maxHeartbeats 4000000
namespace Go.Proofs.YtpgdkkomegalnaaGreatDoor
open Go Go.kY Go.fH Tryz
def Ej:C4 prog 225 CN en.av en.av Pf.av (sL sI) Tm.av:=by
 refine v4 func225 λT H a0 a a2 a3 r m e=>?_;rw[CN] at m;exact aa
@[reducible,instance] def Y1:=@Kc.mk prog 225 _ @Ej
def EJ:C5 prog 158 Ct Tm.av Pf.av Ty.av Tm.av Tm.av Tm.av:=by
 refine u5 4 func158 λT H a0 a a2 a3 a4 r m e=>?_;rw[Ct] at m;simp[e];refine wA 999 999 [] [6,7,8,9,10] (λf=>f.1 11=sI (e_ (ei a0.aiI 17) 9 6)) [] (λ_ g=>?_) ?_
 ·rcases Pb (ei a0.aiI 17) e with e|e
  ·exact aj
  exact aj
 intro _ e m;have e:=Aj e (show AV.agg [sI (e_ (ei a0.aiI 17) 9 6),sI 0,sI a.aiI,sL Ty.av a.aiJ,AV.slice .gx [Tm.av a2,Tm.av a3,Tm.av a4]]=Tm.av (Tm.mk (e_ (ei a0.aiI 17) 9 6) 0 a [a2,a3,a4]) by rw[Tm.eO];rfl);exact au
@[reducible,instance] def Yp:=@Kc.mk prog 158 _ @EJ
def Dr{n:Nat}:C1 prog 159 (yq n) sI Tm.av:=by
 refine i1 λn ih=>v1 func159 λT H a0 r m e=>?_;rw[yq] at m;simp[e];refine Wn m 999 (λs1 f h=>h=H/\f.1 3=sI s1.1/\f.1 4=sI s1.2/\bx f 1 (Tm.av a0).cells) abx (λs1 _ _ _ _ _ E m z p=>?_);have⟨a,v9⟩:=s1;have e:=Aj e E;dsimp only[oO]at m;apply Ir e m<;>intro e m
 ·cases m;have m:=Qb z;dsimp only[oO]at m;exact au
 exact aa
@[reducible,instance] def Zy:=@Kc.mk prog 159 _ @Dr
def Cm:C2 prog 116 zN (t2 Tm.av sI) Tm.av sI:=by
 refine v2 func116 λT H a0 a r m e=>?_;rw[zN] at m;exact aa
@[reducible,instance] def W3:=@Kc.mk prog 116 _ @Cm
section
attribute [-simp] Go.kY.CG
@[local simp] theorem agA(x:Fm):CG prog 36 x.av 3=some (sL Fm.av x.aiJ):=by rw[Fm.fy];kernel_rfl
def dH(T:eH):∀(n:Nat),(∀{H:dT} {a0:dU} {d:en} {a2:Pf} {k:Tm} {l:Int} {a:dU} {b:Nat} (c:H[b]?=some [sL Fm.av a0.lemmas,sL Tm.av a0.ef,sI a0.next]) (hm:eN n a0 d a2=some (k,l,a)),eI prog T 75 [AV.eT b 0,en.av d,Pf.av a2] H (AV.tuple [Tm.av k,sI l]) (gb H b [sL Fm.av a.lemmas,sL Tm.av a.ef,sI a.next]))/\(∀{H:dT} {a0:dU} {d:en} {a2:Pf} {k:Tm} {l:Int} {a:dU} {b:Nat} (c:H[b]?=some [sL Fm.av a0.lemmas,sL Tm.av a0.ef,sI a0.next]) (hm:sM n a0 d a2=some (k,l,a)),eI prog T 115 [AV.eT b 0,en.av d,Pf.av a2] H (AV.tuple [Tm.av k,sI l]) (gb H b [sL Fm.av a.lemmas,sL Tm.av a.ef,sI a.next]))/\(∀{H:dT} {a0:dU} {d:en} {a2:Pf} {k:Ty} {l:Tm} {S:Tm} {U:Int} {a:dU} {b:Nat} (c:H[b]?=some [sL Fm.av a0.lemmas,sL Tm.av a0.ef,sI a0.next]) (hm:o9 n a0 d a2=some (k,l,S,U,a)),eI prog T 157 [AV.eT b 0,en.av d,Pf.av a2] H (AV.tuple [Ty.av k,Tm.av l,Tm.av S,sI U]) (gb H b [sL Fm.av a.lemmas,sL Tm.av a.ef,sI a.next])):=by
  intro n
  induction n with
  |zero=>
    refine⟨?_,?_,?_⟩
    all_goals(intro _ _;intros;rename_i hm;cases hm)
  |succ n ih=>
 refine⟨?_,?_,?_⟩
 ·intro H a0 d a2 k l a b c hm;rw[eN] at hm;have o:=eK c;refine fo.Jr c ?_;have e:=o;refine wi aiN func75 [] [] 999 ?_;simp-implicitDefEqProofs[e];refine RO hm (ih.2.1 (by simp-implicitDefEqProofs[e])) λ_ x2 d3 m=>?_;exact aa
 ·intro H a0 d a2 k l a b c hm;rw[sM] at hm;have o:=eK c;refine fo.Jr c ?_;have e:=o;refine wi aiN func115 [] [(5,false,[true,true,true,true,false,true,true,true,true,true,true,true])] 8 ?_;simp-implicitDefEqProofs[e];have m:=hm;refine sw [13] ?_;intro e m;apply wg 3;simp-implicitDefEqProofs[e];apply Iq e m<;>intro e m
  ·refine sg 999 [8] ?_;intro x7 e m;simp-implicitDefEqProofs[e];refine sw [5] ?_;intro _ d9 e m;exact au
  apply wg 3;simp-implicitDefEqProofs[e];apply Iq e m<;>intro e m
  ·refine sg 6 [8] ?_;intro aT e m;simp-implicitDefEqProofs[e];refine sw [5] ?_;intro _ d12 e m;simp-implicitDefEqProofs[e];refine sw [4,8] ?_;intro _ aU e m;simp-implicitDefEqProofs[e];refine sw [5] ?_;intro _ d16 e m;simp-implicitDefEqProofs[e];refine sw [4] ?_;intro V e m;simp-implicitDefEqProofs[e];apply Ir e m<;>intro e m
   ·apply wg 999;simp-implicitDefEqProofs[e];refine HP m (ih.1 (by simp-implicitDefEqProofs[e])) λ_ _ d20 m=>?_;exact au
   apply wg 5;simp-implicitDefEqProofs[e];refine HP m (ih.1 (by simp-implicitDefEqProofs[e])) λaV W d23 m=>?_;simp-implicitDefEqProofs[e];refine wA 999 999 [11] [4,5,6,10] (λf=>f.1 0=AV.eT b 0/\f.1 131=sB (e_ (eE W 0) true (mS V))) [7] (λ_ g=>?_) ?_
   ·exact aa
   intro _ e m;simp-implicitDefEqProofs[e];refine HP m (ih.1 (by simp-implicitDefEqProofs[e])) λ_ _ d30 m=>?_;exact aa
  apply wg 1;simp-implicitDefEqProofs[e];refine wA 999 0 [61] [4,5,6] (λf=>f.1 0=AV.eT b 0/\f.1 149=sB (e_ (ei a2.aiI 4) true (ei a2.aiI 5))) [] (λ_ g=>?_) ?_
  ·rcases Pb (ei a2.aiI 4) e with e|e
   ·exact aj
   exact aj
  intro _ e m;apply Iq e m<;>intro e m
  ·refine sg 5 [8] ?_;intro aW e m;simp-implicitDefEqProofs[e];refine sw [5] ?_;intro _ d37 e m;simp-implicitDefEqProofs[e];refine HP m (ih.1 (by simp-implicitDefEqProofs[e])) λaX X d40 m=>?_;simp-implicitDefEqProofs[e];refine CP m 0 999 (λK f h=>∃D F G I v46,(h=gb H b [sL Fm.av d40.lemmas,sL Tm.av d40.ef,sI d40.next]/\f.1 15=sI X/\bx f 6 [sI 0,sI 0,sI 0,nL,nL]/\bx f 14 [sI D,sI F,sI G,sL Ty.av I,sL Tm.av v46])/\K D F G I v46=some (k,l,a)) ?_ (λK _ g m=>?_)
   ·rintro _ _ ⟨D,F,G,I,v46,E,m⟩;exact aa
   refine WA m 999 0 [15] [5,6,14] (λv51 f=>f.1 184=sB v51) [] (λaY _ g m=>?_) ?_
   ·apply Ir e m<;>intro e m
    ·exact iO
    have⟨aZ,e,m⟩:=MX e m;simp-implicitDefEqProofs[e];refine pS m rK λ_ m=>?_;apply Ir e m<;>intro e m
    ·exact iO
    have⟨a6,e,m⟩:=MX e m;simp-implicitDefEqProofs[e];refine pS m rK λ_ m=>?_;exact iO
   intro _ v51 e m;apply Ir e m<;>intro e m
   ·apply wg 999;simp-implicitDefEqProofs[e];exact g _ _ ⟨_,_,_,_,_,by simp-implicitDefEqProofs[e],m⟩
   apply wg 3;simp-implicitDefEqProofs[e];refine wA 2 999 [15] [6,14] (λf=>f.1 16=sI (e_ (ei a2.aiI 5) 12 11)) [] (λ_ g=>?_) ?_
   ·simp-implicitDefEqProofs[e];rcases Pb (ei a2.aiI 5) e with e|e
    ·apply wg 999;exact aj
    apply wg 999;exact aj
   intro _ e m;simp-implicitDefEqProofs[e];refine sw [1] ?_;intro _ e m;simp-implicitDefEqProofs[e];exact g _ _ ⟨_,_,_,_,_,by simp-implicitDefEqProofs[e],m⟩
  apply wg 3;simp-implicitDefEqProofs[e];apply Iq e m<;>intro e m
  ·refine sg 999 [8] ?_;intro a7 e m;simp-implicitDefEqProofs[e];refine sw [1] ?_;intro _ e m;apply Ir e m<;>intro e m
   ·simp-implicitDefEqProofs[e];refine sw [4,8] ?_;intro _ a8 e m;simp-implicitDefEqProofs[e];refine HP m (ih.1 (by simp-implicitDefEqProofs[e])) λ_ _ d69 m=>?_;exact au
   simp-implicitDefEqProofs[e];refine sw [2,7] ?_;intro _ _ e m;simp-implicitDefEqProofs[e];refine sw [2] ?_;intro _ d73 e m;simp-implicitDefEqProofs[e];refine sw [4] ?_;intro _ e m;simp-implicitDefEqProofs[e];refine sw [4,8] ?_;intro _ a_ e m;simp-implicitDefEqProofs[e];refine HP m (ih.1 (by simp-implicitDefEqProofs[e])) λ_ _ d79 m=>?_;exact aa
  apply wg 3;simp-implicitDefEqProofs[e];apply Iq e m<;>intro e m
  ·refine sg 4 [8] ?_;intro a' e m;simp-implicitDefEqProofs[e];refine HP m (ih.1 (by simp-implicitDefEqProofs[e])) λY Z d84 m=>?_;simp-implicitDefEqProofs[e];refine CP m 999 999 (λL f h=>∃J v87,(h=gb H b [sL Fm.av v87.lemmas,sL Tm.av v87.ef,sI v87.next]/\f.1 0=AV.eT b 0/\f.1 22=sI Z/\f.1 280=sB J/\bx f 4 [sL Ty.av d.ie.aiM,sL Fm.av d.ie.aiP,sL Tm.av d.vars,sL Tm.av d.aiP]/\bx f 5 (Pf.av a2).cells/\bx f 6 [sI 0,sI 0,sI 0,nL,nL]/\bx f 21 (Tm.av Y).cells)/\L J v87=some (k,l,a)) ?_ (λL _ g m=>?_)
   ·rintro _ _ ⟨J,v87,E,m⟩;refine sw [10,7,8] ?_;intro ba e m;simp-implicitDefEqProofs[e];refine HP m (ih.1 (by simp-implicitDefEqProofs[e])) λ_ _ d94 m=>?_;exact aa
   apply Iq e m<;>intro e m
   ·exact ak2
   simp-implicitDefEqProofs[e];refine sw [5,8] ?_;intro _ d97 bb e m;simp-implicitDefEqProofs[e];refine qI m rK λ_ m=>?_;exact ak2
  apply wg 3;simp-implicitDefEqProofs[e];apply Iq e m<;>intro e m
  ·apply wg 999;simp-implicitDefEqProofs[e];refine sw [2] ?_;intro _ d101 e m;simp-implicitDefEqProofs[e];refine sw [4] ?_;intro _ e m;simp-implicitDefEqProofs[e];refine sw [4,8] ?_;intro _ ad e m;simp-implicitDefEqProofs[e];refine HP m (ih.1 (by simp-implicitDefEqProofs[e])) λ_ _ d107 m=>?_;exact aa
  apply wg 3;simp-implicitDefEqProofs[e];apply Iq e m<;>intro e m
  ·refine sg 999 [8] ?_;intro ae e m;simp-implicitDefEqProofs[e];refine HP m (ih.1 (by simp-implicitDefEqProofs[e])) λ_ _ d112 m=>?_;have⟨af,e,m⟩:=MX e m;simp-implicitDefEqProofs[e];refine sw [5] ?_;intro _ d115 e m;exact aa
  apply wg 3;simp-implicitDefEqProofs[e];apply Iq e m<;>intro e m
  ·refine sg 999 [8] ?_;intro ah e m;simp-implicitDefEqProofs[e];refine sw [5,8,8] ?_;intro _ d119 ai ak e m;simp-implicitDefEqProofs[e];refine sw [1,12,8] ?_;intro _ an e m;simp-implicitDefEqProofs[e];refine HP m (ih.1 (by simp-implicitDefEqProofs[e])) λ_ _ d126 m=>?_;exact aa
  apply wg 3;simp-implicitDefEqProofs[e];apply Iq e m<;>intro e m
  ·refine sg 8 [8] ?_;intro ao e m;simp-implicitDefEqProofs[e];refine sw [5] ?_;intro M d130 e m;simp-implicitDefEqProofs[e];refine HP m (ih.1 (by simp-implicitDefEqProofs[e])) λN _ d133 m=>?_;simp-implicitDefEqProofs[e];refine sw [13] ?_;intro e m;apply wg 6;simp-implicitDefEqProofs[e];refine sw [2] ?_;intro O d135 e m;simp-implicitDefEqProofs[e];refine sw [4] ?_;intro _ e m;simp-implicitDefEqProofs[e];refine CP m 999 999 (λB f h=>∃v138 v139 q v141 r v143 s v145 v146 t v148 u i j,(h=gb H b [sL Fm.av d135.lemmas,sL Tm.av d135.ef,sI d135.next]/\f.1 0=AV.eT b 0/\f.1 35=sI O/\bx f 4 [sL Ty.av d.ie.aiM,sL Fm.av d.ie.aiP,sL Tm.av d.vars,sL Tm.av d.aiP]/\bx f 5 (Pf.av a2).cells/\bx f 6 [sI 0,sI 0,sI 0,nL,nL]/\bx f 32 (Fm.av M).cells/\bx f 33 (Tm.av N).cells/\bx f 36 [sI v138,sL Ty.av v139]/\bx f 37 [sI q,sI v141,sI r,sL Ty.av v143,sL Tm.av s]/\bx f 38 [sI v145,sI v146,sI t,sT i Ty.av v148,sT j Tm.av u])/\B v138 v139 q v141 r v143 s v145 v146 t v148 u=some (k,l,a)) ?_ (λB _ g m=>?_)
   ·rintro _ _ ⟨v138,v139,q,v141,r,v143,s,v145,v146,t,v148,u,i,j,E,m⟩;have e:=Aj e E;simp-implicitDefEqProofs[e];refine sw [4,8] ?_;intro _ aq e m;simp-implicitDefEqProofs[e];refine sw [4,8] ?_;intro _ ar e m;simp-implicitDefEqProofs[e];refine HP m (ih.1 (by simp-implicitDefEqProofs[e])) λ_ _ d159 m=>?_;exact aa
   have⟨aw,e,m⟩:=MX e m;simp-implicitDefEqProofs[e];refine sw [1] ?_;intro _ e m;apply Ir e m<;>intro e m
   ·simp-implicitDefEqProofs[e];exact g _ _ ⟨_,_,_,_,_,_,_,_,_,_,_,_,.full,.full,by simp-implicitDefEqProofs[e],m⟩
   simp-implicitDefEqProofs[e];refine sw [2,7] ?_;intro _ _ e m;simp-implicitDefEqProofs[e];refine sw [1] ?_;intro _ e m;simp-implicitDefEqProofs[e];refine sw [1] ?_;intro _ e m;simp-implicitDefEqProofs[e];refine sw [1] ?_;intro _ e m;simp-implicitDefEqProofs[e];refine sw [1] ?_;intro _ e m;simp-implicitDefEqProofs[e];exact g _ _ ⟨_,_,_,_,_,_,_,_,_,_,_,_,.gx,.gx,by simp-implicitDefEqProofs[e],m⟩
  apply wg 3;simp-implicitDefEqProofs[e];apply Iq e m<;>intro e m
  ·apply wg 999;simp-implicitDefEqProofs[e];refine sw [4] ?_;intro _ e m;simp-implicitDefEqProofs[e];refine sw [5] ?_;intro _ d172 e m;simp-implicitDefEqProofs[e];refine sw [4,8] ?_;intro _ ax e m;simp-implicitDefEqProofs[e];refine HP m (ih.1 (by simp-implicitDefEqProofs[e])) λ_ _ d177 m=>?_;exact au
  apply wg 3;simp-implicitDefEqProofs[e];apply Iq e m<;>intro e m
  ·refine sg 999 [8] ?_;intro ay e m;simp-implicitDefEqProofs[e];refine sw [5] ?_;intro _ d180 e m;simp-implicitDefEqProofs[e];refine sw [1] ?_;intro _ e m;simp-implicitDefEqProofs[e];refine sw [2] ?_;intro _ d183 e m;simp-implicitDefEqProofs[e];refine sw [1] ?_;intro _ e m;apply Ir e m<;>intro e m
   ·simp-implicitDefEqProofs[e];refine sw [4,8] ?_;intro _ az e m;simp-implicitDefEqProofs[e];refine sw [4,8] ?_;intro _ aA e m;simp-implicitDefEqProofs[e];refine HP m (ih.1 (by simp-implicitDefEqProofs[e])) λ_ _ d191 m=>?_;exact au
   simp-implicitDefEqProofs[e];refine HP m (ih.1 (by simp-implicitDefEqProofs[e])) λ_ _ d194 m=>?_;refine Il e m λe m=>?_;simp-implicitDefEqProofs[e];refine sw [2,7] ?_;intro _ _ e m;simp-implicitDefEqProofs[e];refine sw [2] ?_;intro _ d198 e m;simp-implicitDefEqProofs[e];refine sw [4,8] ?_;intro _ aB e m;simp-implicitDefEqProofs[e];refine sw [4] ?_;intro _ e m;simp-implicitDefEqProofs[e];refine sw [4,8] ?_;intro _ aC e m;simp-implicitDefEqProofs[e];refine HP m (ih.1 (by simp-implicitDefEqProofs[e])) λ_ _ d206 m=>?_;exact aa
  apply wg 1;simp-implicitDefEqProofs[e];refine wA 999 0 [61] [4,5,6] (λf=>f.1 0=AV.eT b 0/\f.1 567=sB (e_ (ei a2.aiI 16) true (ei a2.aiI 17))) [] (λ_ g=>?_) ?_
  ·rcases Pb (ei a2.aiI 16) e with e|e
   ·exact aj
   exact aj
  intro _ e m;apply Iq e m<;>intro e m
  ·apply wg 999;have⟨aD,aE,aF,aG,d216,e,m⟩:=Bo5 e m;simp-implicitDefEqProofs[e];refine Cf (ih.2.2 (by simp-implicitDefEqProofs[e]) e.2) ?_;refine sw [7,8] ?_;intro aH e m;simp-implicitDefEqProofs[e];refine sw [5] ?_;intro _ d219 e m;exact aa
  apply wg 3;simp-implicitDefEqProofs[e];apply Iq e m<;>intro e m
  ·refine sg 999 [8] ?_;intro aI e m;simp-implicitDefEqProofs[e];refine HP m (ih.1 (by simp-implicitDefEqProofs[e])) λ_ _ d224 m=>?_;exact au
  apply wg 3;simp-implicitDefEqProofs[e];apply Ir e m<;>intro e m
  ·refine sg 999 [8] ?_;intro aJ e m;simp-implicitDefEqProofs[e];refine HP m (ih.1 (by simp-implicitDefEqProofs[e])) λ_ _ d228 m=>?_;exact au
  refine sg 6 [8] ?_;intro aK e m;simp-implicitDefEqProofs[e];refine HP m (ih.1 (by simp-implicitDefEqProofs[e])) λaL aM d232 m=>?_;simp-implicitDefEqProofs[e];refine sw [5] ?_;intro aN d234 e m;simp-implicitDefEqProofs[e];refine WA m 999 999 [52] [6,51,53] (λv236 f=>f.1 0=AV.eT b 0/\f.1 638=sB v236) [7] (λaO _ g m=>?_) ?_
  ·apply Iq e m<;>intro e m
   ·exact iO
   refine sw [8,8] ?_;intro aP aQ e m;simp-implicitDefEqProofs[e];refine pS m rK λ_ m=>?_;exact iO
  intro _ v236 e m;simp-implicitDefEqProofs[e];refine sw [2,7] ?_;intro _ _ e m;simp-implicitDefEqProofs[e];refine sw [2] ?_;intro _ d246 e m;simp-implicitDefEqProofs[e];refine sw [2] ?_;intro _ d248 e m;simp-implicitDefEqProofs[e];refine sw [2] ?_;intro _ d250 e m;exact aa
 ·intro H a0 d a2 k l S U a b c hm;rw[o9] at hm;have o:=eK c;refine fo.Jr c ?_;have e:=o;refine wi aiN func157 [] [] 7 ?_;have⟨x2,e,m⟩:=MX e hm;simp-implicitDefEqProofs[e];refine sw [2] ?_;intro P _ e m;simp-implicitDefEqProofs[e];refine sw [13] ?_;intro e m;refine sg 7 [8] ?_;intro aR e m;simp-implicitDefEqProofs[e];refine HP m (ih.1 (by simp-implicitDefEqProofs[e])) λQ _ d269 m=>?_;simp-implicitDefEqProofs[e];refine sw [13] ?_;intro e m;apply wg 9;simp-implicitDefEqProofs[e];refine sw [2] ?_;intro R d271 e m;simp-implicitDefEqProofs[e];refine sw [2] ?_;intro _ d273 e m;simp-implicitDefEqProofs[e];refine sw [2] ?_;intro _ d275 e m;simp-implicitDefEqProofs[e];refine sw [4] ?_;intro _ e m;simp-implicitDefEqProofs[e];refine sw [4,8] ?_;intro _ aS e m;simp-implicitDefEqProofs[e];refine HP m (ih.1 (by simp-implicitDefEqProofs[e])) λ_ _ d281 m=>?_;simp-implicitDefEqProofs[e];refine sw [13] ?_;intro e m;apply wg 4;simp-implicitDefEqProofs[e];refine sw [1] ?_;intro _ e m;simp-implicitDefEqProofs[e];refine CP m 999 999 (λC f h=>∃v w x y A,(h=gb H b [sL Fm.av d281.lemmas,sL Tm.av d281.ef,sI d281.next]/\f.1 13=sI R/\bx f 6 [sI 0,nL]/\bx f 7 [sI 0,sI 0,sI 0,nL,nL]/\bx f 8 [sI 0,sI 0,sI 0,nL,nL]/\bx f 10 (Ty.av P).cells/\bx f 12 (Tm.av Q).cells/\bx f 16 [sI v,sI w,sI x,sL Ty.av y,sL Tm.av A])/\C v w x y A=some (k,l,S,U,a)) ?_ (λC _ g m=>?_)
  ·rintro _ _ ⟨v,w,x,y,A,E,m⟩;exact aa
  apply Ir e m<;>intro e m
  ·simp-implicitDefEqProofs[e];exact g _ _ ⟨_,_,_,_,_,by simp-implicitDefEqProofs[e],m⟩
  simp-implicitDefEqProofs[e];refine sw [4] ?_;intro _ e m;simp-implicitDefEqProofs[e];refine sw [4] ?_;intro _ e m;simp-implicitDefEqProofs[e];exact g _ _ ⟨_,_,_,_,_,by simp-implicitDefEqProofs[e],m⟩
def Cq(T:eH){H:dT}{a0:dU}{d:en}{a2:Pf}{f:Tm}{h:Int}{a:dU}{b:Nat}(c:H[b]?=some [sL Fm.av a0.lemmas,sL Tm.av a0.ef,sI a0.next]){n:Nat}(hm:eN n a0 d a2=some (f,h,a)):eI prog T 75 [AV.eT b 0,en.av d,Pf.av a2] H (AV.tuple [Tm.av f,sI h]) (gb H b [sL Fm.av a.lemmas,sL Tm.av a.ef,sI a.next]):=(dH T n).1 c hm
@[reducible,instance] def PX:=@Kc.mk prog 75 _ @Cq
end
def qK{n:Nat}:C2 prog 76 (wY n) Tm.av Tm.av (sL sI):=by
 refine i2 λn ih=>u2 5 func76 λT H a0 o r m e=>?_;rw[wY] at m;simp[e];apply Iq e m<;>intro e m
 ·apply wg 999;simp[e];refine Wn m 999 (λs1 f h=>h=H/\f.1 1=sL sI o/\f.1 5=sI s1/\bx f 2 (Tm.av a0).cells/\bx f 4 [sI 0,sI 0,sI 0,nL,nL]) abx (λs1 _ _ _ _ _ E m z p=>?_);have e:=Aj e E;apply Ir e m<;>intro e m
  ·cases m;have m:=Qb z
   try dsimp only at m
   exact au
  exact aa
 apply wg 6;simp[e];refine Wj m 999 999 (λk f h=>∃v12 a,(h=H/\f.1 7=sT a sI v12/\bx f 2 (Tm.av a0).cells/\bx f 4 [sI 0,sI 0,sI 0,nL,nL]/\bx f 6 [sI a0.aiI,sI 0,sI a0.dM.aiI,sL Ty.av a0.dM.aiJ,nL])/\k v12=some r) (λk _ g m=>?_) ?_
 ·apply Ir e m<;>intro e m
  ·simp[e];exact g _ _ ⟨_,.gx,abx,m⟩
  refine sw [9,0] ?_;intro e m;refine Ad (f:=sI) [] o (hD.full (D:=[])) GX e.2 ?_;refine sw [9,0] ?_;intro e m;refine Ad (f:=sI) (fT [] o) [a0.aiL] (hD.new (D:=[43]) (d:=43) aak) GX e.2 ?_;simp[e];exact g _ _ ⟨_,(.loc 47 1),abx,m⟩
 rintro _ _ ⟨v12,a,E,m⟩;have e:=Aj e E;simp[e];refine Wn m 999 (λi f h=>∃b c,(h=H/\f.1 7=sT b sI v12/\f.1 8=sI i.1/\bx f 2 (Tm.av a0).cells/\bx f 4 [sI 0,sI 0,sI 0,nL,nL]/\bx f 6 [sI a0.aiI,sI 0,sI a0.dM.aiI,sL Ty.av a0.dM.aiJ,sT c Tm.av i.2])/\Ow f [65] c i.2) (by exact⟨a,.full,abx,hD.full⟩) (λi l _ _ _ _ E m z p=>?_);have⟨v24,q⟩:=i;have⟨b,c,E,j⟩:=E;have e:=Aj e E;dsimp only[oO]at m;apply Ir e m<;>intro e m
 ·cases m;have m:=Qb z;dsimp only[oO]at m;exact au
 refine sw [8,0,18,9,0] ?_;intro t s e m;refine Ad (f:=Tm.av) q [s] j y5 e.2 ?_;simp[e];cases m;exact p _ _ _ ⟨b,(.loc 65 (l.e8 65+1)),abx,(On 65)⟩ z
@[reducible,instance] def WX:=@Kc.mk prog 76 _ @qK
def y_(T:eH){H:dT}{a0:List Fm}{c:List Tm}{a2:Sq}{a3:Pf}{a:Tm}{b:Int}(hm:C7 a0 c a2 a3=some (a,b)):eI prog T 23 [sL Fm.av a0,sL Tm.av c,Sq.av a2,Pf.av a3] H (AV.tuple [Tm.av a,sI b]) H:=by
 rw[C7] at hm;refine fo.uI (Post:=λx K=>x=AV.tuple [Tm.av a,sI b]/\∃X,K=H++X) ?_ (λ_ _ h=>⟨_,h.2.choose_spec,by rw[h.1];simp[AV.low,AV.iu],h.1,rfl⟩);have e:=trivial;refine wi aiN func23 [42] [] 999 ?_;have m:=hm;refine sw [0,2,7,0,1,7,0,1,12,0,3,0,3] ?_;intro _ _ _ _ _ _ d7 _ _ d10 e m;exact aa
@[reducible,instance] def Yg:=@Kc.mk prog 23 _ @y_
def iU{n:Nat}:C1 prog 162 (uc n) sB Vl.av:=by
 refine i1 λn ih=>u1 8 func162 λT H a0 r m e=>?_;rw[uc] at m;simp[e];apply Iq e m<;>intro e m
 ·apply wg 1;simp[e];refine wB 999 999 [] [] (λf=>f.1 2=sB (e_ (rb a0.num 0) (e_ (ei (ez a0.list) 0) (ei (ez a0.aiJ) 0) false) false)) λ_ g=>?_;rcases Pb (rb a0.num 0) e with e|e;rotate_left
  ·exact aj
  rcases Pb (ei (ez a0.list) 0) e with e|e
  ·exact aj
  exact aj
 apply wg 3;simp[e];apply Iq e m<;>intro e m
 ·apply wg 999;simp[e];refine Xe e m 0 (λa _ f h=>h=H/\f.1 27=sL sI a0.list/\f.1 28=sI (ez a0.list)/\f.1 29=sI a/\bx f 1 (Vl.av a0).cells) abx (λa _ _ _ _ _ _ _ E e m z p=>?_) (λ_ _ _ _ E m=>?_)
  ·exact aa
  have e:=Aj e E;refine sg 5 [11,0] ?_;intro e m;refine wB 999 999 [] [] (λf=>f.1 2=sB (e_ (ei a0.num 0) (ei (ez a0.aiJ) 0) false)) λ_ g=>?_;exact aa
 apply wg 3;simp[e];apply Iq e m<;>intro e m
 ·apply wg 1;simp[e];refine wB 999 999 [] [] (λf=>f.1 2=sB (e_ (ei a0.num 0) (e_ (ei (ez a0.list) 0) (ei (ez a0.aiJ) 0) false) false)) λ_ g=>?_;rcases Pb (ei a0.num 0) e with e|e;rotate_left
  ·exact aj
  rcases Pb (ei (ez a0.list) 0) e with e|e
  ·exact aj
  exact aj
 refine sg 3 [0,14] ?_;intro e m;apply wg 1;simp[e];refine WB m 999 999 [] [] (λv21 f=>f.1 2=sB v21) λb _ g m=>?_;apply Ir e m<;>intro e m
 ·exact iO
 apply Ir e m<;>intro e m
 ·exact iO
 apply Ir e m<;>intro e m
 ·exact iO
 refine sw [8,0,15] ?_;intro c _ e m;apply Ir e m<;>intro e m
 ·exact iO
 refine sw [8,0,15] ?_;intro d _ e m;exact iO
@[reducible,instance] def Xw:=@Kc.mk prog 162 _ @iU
def B6{n:Nat}:C1 prog 163 (wJ n) sI Vl.av:=by
 refine i1 λn ih=>v1 func163 λT H a0 r m e=>?_;rw[wJ] at m;simp[e];exact Wb e m 999 9 [7,8] [] (λs2 f=>f.1 3=sI s2)
@[reducible,instance] def W':=@Kc.mk prog 163 _ @B6
def BO:C1 prog 119 A5 sI Vl.av:=by
 refine v1 func119 λT H a0 r m e=>?_;rw[A5] at m;exact aa
@[reducible,instance] def W6:=@Kc.mk prog 119 _ @BO
def B4{n:Nat}:C1 prog 120 (tS n) Ty.av Vl.av:=by
 refine i1 λn ih=>v1 func120 λT H a0 r m e=>?_;rw[tS] at m;exact aa
@[reducible,instance] def Xd:=@Kc.mk prog 120 _ @B4
def Af:C1 prog 78 yt (t2 Ty.av sI) Vl.av:=by
 refine v1 func78 λT H a0 r m e=>?_;rw[yt] at m;exact aa
@[reducible,instance] def VQ:=@Kc.mk prog 78 _ @Af
def BU{n:Nat}:C1 prog 122 (pg n) sI Ty.av:=by
 refine i1 λn ih=>v1 func122 λT H a0 r m e=>?_;rw[pg] at m;exact aa
@[reducible,instance] def Xa:=@Kc.mk prog 122 _ @BU
def Ex:C1 prog 80 C8 (t2 sB sI) Ty.av:=by
 refine v1 func80 λT H a0 r m e=>?_;rw[C8] at m;exact aa
@[reducible,instance] def YJ:=@Kc.mk prog 80 _ @Ex
def fc(T:eH):∀(n:Nat),(∀{H:dT} {a0:eg} {G:Tm} {a2:List dG} {r0:dG} {w:eg} {u:Nat} (B:H[u]?=some [sI a0.used,sI a0.ra,sB a0.out]) (hm:kP n a0 G a2=some (r0,w)),eI prog T 81 [AV.eT u 0,Tm.av G,sL dG.av a2] H (dG.av r0) (gb H u [sI w.used,sI w.ra,sB w.out]))/\(∀{H:dT} {a0:eg} {G:dG} {a2:dG} {r0:dG} {w:eg} {u:Nat} (B:H[u]?=some [sI a0.used,sI a0.ra,sB a0.out]) (hm:hW n a0 G a2=some (r0,w)),eI prog T 82 [AV.eT u 0,dG.av G,dG.av a2] H (dG.av r0) (gb H u [sI w.used,sI w.ra,sB w.out])):=by
  intro n
  induction n with
  |zero=>
    refine⟨?_,?_⟩
    all_goals(intro _ _;intros;rename_i hm;cases hm)
  |succ n ih=>
 refine⟨?_,?_⟩
 ·intro H a0 G a2 r0 w u B hm;rw[kP] at hm;have an:=eK B;refine fo.Jr B ?_;have e:=an;refine wi aiN func81 [] [(1,true,[])] 3 ?_;simp[e];refine wA 999 999 [2] [4,6] (λf=>f.1 0=AV.eT u 0/\f.1 30=sB (e_ a0.out true (ei a0.used a0.ra))) [7,13,13,0] (λ_ g=>?_) ?_
  ·exact aa
  intro _ e m;refine Xe e m 999 (λj7 s8 f h=>∃t,(h=gb H u [sI s8.2.used,sI s8.2.ra,sB s8.2.out]/\f.1 0=AV.eT u 0/\f.1 2=sL dG.av a2/\f.1 7=sT t dG.av s8.1/\f.1 64=sL Tm.av G.aiJ/\f.1 65=sI (ez G.aiJ)/\f.1 66=sI j7/\bx f 4 (Tm.av G).cells/\bx f 6 [sI 0,nL,nL,sI 0,sI 0,sI 0,nL,nL,nL])/\Ow f [76] t s8.1) (by exact⟨.full,abx,hD.full⟩) (λj7 _ s8 aH _ _ _ _ E e m z p=>?_) (λs8 aH _ _ E m=>?_)
  ·have⟨b,aV⟩:=s8;have⟨t,E,C⟩:=E;have e:=Aj e E;dsimp only[oO]at m;simp[e];refine Ds m (ih.1 abx) λaW d19 m=>?_;refine sw [9,0] ?_;intro e m;refine Ao (f:=dG.av) b [aW] C Ww e.2 ?_;refine sw [7,0] ?_;intro e m;cases m;exact p _ _ _ ⟨(.loc 76 (aH.e8 76+1)),abx,(On 76)⟩ z
  have⟨b,aV⟩:=s8;have⟨t,E,C⟩:=E;have e:=Aj e E;dsimp only[ew,oO]at m;apply Iq e m<;>intro e m
  ·refine sw [8,8,0] ?_;intro a8 a_ e m;refine tq m (ih.2 abx) λ_ d23 m=>?_;exact au
  refine sw [13] ?_;intro e m;apply Iq e m<;>intro e m
  ·refine sw [8,0] ?_;intro a' e m;refine Wn m 1 (λc f h=>∃i,(h=gb H u [sI c.2.2.2.2.2.2.2.2.2.2.used,sI c.2.2.2.2.2.2.2.2.2.2.ra,sB c.2.2.2.2.2.2.2.2.2.2.out]/\f.1 0=AV.eT u 0/\f.1 7=sT i dG.av b/\f.1 11=sI c.1/\bx f 6 [sI 0,nL,nL,sI 0,sI 0,sI 0,nL,nL,nL]/\bx f 10 [sI c.2.1,sL sI c.2.2.1,sL dG.av c.2.2.2.1,sI c.2.2.2.2.1,sI c.2.2.2.2.2.1,sI c.2.2.2.2.2.2.1,sL Ty.av c.2.2.2.2.2.2.2.1,sL Tm.av c.2.2.2.2.2.2.2.2.1,sL dG.av c.2.2.2.2.2.2.2.2.2.1])/\Ow f [76] i b) (by exact⟨t,abx,C⟩) (λc _ _ _ _ aI E m z p=>?_);have⟨aJ,aK,aL,aM,v37,aN,aO,v40,aP,aQ,af⟩:=c;have⟨i,E,I⟩:=E;have e:=Aj e E;dsimp only[Ht]at m;simp[e];refine Wj m 999 0 (λaR f h=>∃ao j,(h=gb H u [sI af.used,sI af.ra,sB af.out]/\f.1 0=AV.eT u 0/\f.1 7=sT j dG.av b/\f.1 11=sI aJ/\f.1 120=sB ao/\bx f 6 [sI 0,nL,nL,sI 0,sI 0,sI 0,nL,nL,nL]/\bx f 10 [sI aK,sL sI aL,sL dG.av aM,sI v37,sI aN,sI aO,sL Ty.av v40,sL Tm.av aP,sL dG.av aQ])/\Ow f [76] j b/\aR ao=some aI) (λaR _ g m=>?_) ?_
   ·have⟨ba,e,m⟩:=MX e m;apply Ir e m<;>intro e m
    ·simp[e];exact g _ _ ⟨false,i,abx,I,m⟩
    simp[e];exact g _ _ ⟨(mS af.out),i,abx,I,m⟩
   rintro _ _ ⟨ao,j,E,J,m⟩;have e:=Aj e E;apply Ir e m<;>intro e m
   ·apply wg 999;cases m;have m:=Qb z;dsimp only[Ht]at m;exact au
   apply wg 2;simp[e];refine CP m 999 999 (λaS f h=>∃v51 aq v53 ar aw ax ay az v59 K v,(h=gb H u [sI K.used,sI K.ra,sB K.out]/\f.1 0=AV.eT u 0/\f.1 7=sT v dG.av b/\f.1 11=sI aJ/\bx f 6 [sI 0,nL,nL,sI 0,sI 0,sI 0,nL,nL,nL]/\bx f 10 [sI v51,sL sI aq,sL dG.av v53,sI ar,sI aw,sI ax,sL Ty.av ay,sL Tm.av az,sL dG.av v59])/\Ow f [76] v b/\aS v51 aq v53 ar aw ax ay az v59 K=some aI) ?_ (λaS _ g m=>?_)
   ·rintro _ _ ⟨v51,aq,v53,ar,aw,ax,ay,az,v59,K,v,E,aA,m⟩;have e:=Aj e E;simp[e];cases m;exact p _ _ _ ⟨v,abx,aA⟩ z
   refine sw [8,0] ?_;intro bb e m;refine Ds m (ih.2 abx) λ_ d66 m=>?_;apply Iq e m<;>intro e m
   ·simp[e];exact g _ _ ⟨aK,aL,aM,v37,aN,aO,v40,aP,aQ,d66,j,abx,J,m⟩
   simp[e];refine Ds m (ih.2 abx) λy d68 m=>?_;simp[e];exact g _ _ ⟨y.num,y.list,y.pair,y.body.aiI,y.body.aiL,y.body.dM.aiI,y.body.dM.aiJ,y.body.aiJ,y.env,d68,j,abx,J,m⟩
  apply Iq e m<;>intro e m
  ·refine sw [8,8,9,0] ?_;intro aX aY e m;refine Ad (f:=sI) [aX.num] aY.list (hD.full (D:=[])) GX e.2 ?_;exact au
  refine sw [14,8,8,0] ?_;intro bc bd e m;refine Wn m 1 (λd f h=>∃k,(h=gb H u [sI d.2.2.2.2.2.2.2.2.2.2.used,sI d.2.2.2.2.2.2.2.2.2.2.ra,sB d.2.2.2.2.2.2.2.2.2.2.out]/\f.1 0=AV.eT u 0/\f.1 7=sT k dG.av b/\f.1 14=sI d.1/\bx f 6 [sI 0,nL,nL,sI 0,sI 0,sI 0,nL,nL,nL]/\bx f 13 [sI d.2.1,sL sI d.2.2.1,sL dG.av d.2.2.2.1,sI d.2.2.2.2.1,sI d.2.2.2.2.2.1,sI d.2.2.2.2.2.2.1,sL Ty.av d.2.2.2.2.2.2.2.1,sL Tm.av d.2.2.2.2.2.2.2.2.1,sL dG.av d.2.2.2.2.2.2.2.2.2.1])/\Ow f [76] k b) (by exact⟨t,abx,C⟩) (λd _ _ _ _ aT E m z p=>?_);have⟨L,v85,aB,v87,aC,aD,aE,v91,aF,v93,ah⟩:=d;have⟨k,E,M⟩:=E;have e:=Aj e E;dsimp only[Ht]at m;simp[e];refine wj 999 0 (λf h=>∃l,(h=gb H u [sI ah.used,sI ah.ra,sB ah.out]/\f.1 0=AV.eT u 0/\f.1 7=sT l dG.av b/\f.1 14=sI L/\f.1 172=sB (e_ (rb L 0) (mS ah.out) false)/\bx f 6 [sI 0,nL,nL,sI 0,sI 0,sI 0,nL,nL,nL]/\bx f 13 [sI v85,sL sI aB,sL dG.av v87,sI aC,sI aD,sI aE,sL Ty.av v91,sL Tm.av aF,sL dG.av v93])/\Ow f [76] l b) (λ_ g=>?_) ?_
  ·rcases Pb (rb L 0) e with e|e
   ·simp[e];exact g _ _ ⟨k,abx,M⟩
   simp[e];exact g _ _ ⟨k,abx,M⟩
  rintro _ _ ⟨l,E,N⟩;have e:=Aj e E;apply Ir e m<;>intro e m
  ·apply wg 999;cases m;have m:=Qb z;dsimp only[Ht]at m;exact au
  apply wg 2;simp[e];refine CP m 3 999 (λaU f h=>∃aG O P Q R S v105 U v107 A o,(h=gb H u [sI A.used,sI A.ra,sB A.out]/\f.1 0=AV.eT u 0/\f.1 7=sT o dG.av b/\f.1 14=sI L/\bx f 6 [sI 0,nL,nL,sI 0,sI 0,sI 0,nL,nL,nL]/\bx f 13 [sI aG,sL sI O,sL dG.av P,sI Q,sI R,sI S,sL Ty.av v105,sL Tm.av U,sL dG.av v107])/\Ow f [76] o b/\aU aG O P Q R S v105 U v107 A=some aT) ?_ (λaU _ g m=>?_)
  ·rintro _ _ ⟨aG,O,P,Q,R,S,v105,U,v107,A,o,E,ai,m⟩;have e:=Aj e E;simp[e];cases m;exact p _ _ _ ⟨o,abx,ai⟩ z
  refine sw [8,8,0] ?_;intro aZ a6 e m;refine tq m (ih.2 abx) λq d115 m=>?_;simp[e];refine Wj m 999 999 (λak f h=>∃v117 V W X Y Z ad v124 ae x a,(h=gb H u [sI x.used,sI x.ra,sB x.out]/\f.1 0=AV.eT u 0/\f.1 7=sT a dG.av b/\f.1 14=sI L/\bx f 6 [sI 0,nL,nL,sI 0,sI 0,sI 0,nL,nL,nL]/\bx f 13 [sI v85,sL sI aB,sL dG.av v87,sI aC,sI aD,sI aE,sL Ty.av v91,sL Tm.av aF,sL dG.av v93]/\bx f 15 [sI v117,sL sI V,sL dG.av W,sI X,sI Y,sI Z,sL Ty.av ad,sL Tm.av v124,sL dG.av ae])/\Ow f [76] a b/\ak v117 V W X Y Z ad v124 ae x=some aT) (λak _ g m=>?_) ?_
  ·apply Iq e m<;>intro e m
   ·simp[e];exact g _ _ ⟨q.num,q.list,q.pair,q.body.aiI,q.body.aiL,q.body.dM.aiI,q.body.dM.aiJ,q.body.aiJ,q.env,d115,l,abx,N,m⟩
   refine sw [8,0] ?_;intro a7 e m;refine tq m (ih.2 abx) λr d131 m=>?_;simp[e];exact g _ _ ⟨r.num,r.list,r.pair,r.body.aiI,r.body.aiL,r.body.dM.aiI,r.body.dM.aiJ,r.body.aiJ,r.env,d131,l,abx,N,m⟩
  rintro _ _ ⟨v117,V,W,X,Y,Z,ad,v124,ae,x,a,E,F,m⟩;have e:=Aj e E;apply Iq e m<;>intro e m
  ·simp[e];exact g _ _ ⟨v85,aB,v87,aC,aD,aE,v91,aF,v93,x,a,abx,F,m⟩
  simp[e];refine Ds m (ih.2 abx) λs d134 m=>?_;simp[e];exact g _ _ ⟨s.num,s.list,s.pair,s.body.aiI,s.body.aiL,s.body.dM.aiI,s.body.dM.aiJ,s.body.aiJ,s.env,d134,a,abx,F,m⟩
 ·intro H a0 G a2 r0 w u B hm;rw[hW] at hm;have an:=eK B;refine fo.Jr B ?_;have e:=an;refine wi aiN func82 [] [] 999 ?_;have⟨e,m⟩:=Ck e hm;simp[e];refine Ad (f:=dG.av) G.env [a2] (hD.full (D:=[])) Ww e.2 ?_;simp[e];refine tq m (ih.1 abx) λ_ d136 m=>?_;exact au
def A3(T:eH){H:dT}{a0:eg}{d:Tm}{a2:List dG}{f:dG}{a:eg}{b:Nat}(c:H[b]?=some [sI a0.used,sI a0.ra,sB a0.out]){n:Nat}(hm:kP n a0 d a2=some (f,a)):eI prog T 81 [AV.eT b 0,Tm.av d,sL dG.av a2] H (dG.av f) (gb H b [sI a.used,sI a.ra,sB a.out]):=(fc T n).1 c hm
@[reducible,instance] def N1:=@Kc.mk prog 81 _ @A3
def Am(T:eH){H:dT}{a0:eg}{d a2 f:dG}{a:eg}{b:Nat}(c:H[b]?=some [sI a0.used,sI a0.ra,sB a0.out]){n:Nat}(hm:hW n a0 d a2=some (f,a)):eI prog T 82 [AV.eT b 0,dG.av d,dG.av a2] H (dG.av f) (gb H b [sI a.used,sI a.ra,sB a.out]):=(fc T n).2 c hm
@[reducible,instance] def OD:=@Kc.mk prog 82 _ @Am
def CO{n:Nat}:C1 prog 83 (D5 n) dG.av Vl.av:=by
 refine i1 λn ih=>v1 func83 λT H a0 r m e=>?_;rw[D5] at m;simp[e];refine Td e m 999 14 [12,13] [2] [23] (λs2=>s2) (λs2 a f=>bx f 3 [sI a0.num,sL sI a0.list,sT a dG.av s2,sI 0,sI 0,sI 0,nL,nL,nL]) λh _ s2 c _ _ _ _ E e m z p=>?_;have⟨a,E,b⟩:=E;refine sw [20,0,18,9,0] ?_;intro d e m;refine Ad (f:=dG.av) s2 [d] b Ww e.2 ?_;simp[e];cases m;exact p _ _ _ ⟨(.loc 23 (c.e8 23+1)),abx,(On 23)⟩ z
@[reducible,instance] def ac1:=@Kc.mk prog 83 _ @CO
def xn{n:Nat}:C2 prog 84 (tP n) Vl.av dG.av Ty.av:=by
 refine i2 λn ih=>v2 func84 λT H a0 c r m e=>?_;rw[tP] at m;refine Il e m λe m=>?_;apply Iq e m<;>intro e m
 ·refine sw [9,0] ?_;intro e m;refine Ao (f:=sI) [] a0.list (hD.full (D:=[])) GX e.2 ?_;exact au
 refine sw [12,8,8,0,18,8,8,0,18] ?_;intro d h a i j b e m;have e:=Aj e (show AV.agg [sI 3,sI 0,AV.slice .gx [],AV.slice .gx [Vl.av a,Vl.av b]]=Vl.av (Vl.mk 3 0 [] [a,b]) by rw[Vl.eO];rfl);exact au
@[reducible,instance] def W_:=@Kc.mk prog 84 _ @xn
def jC(T:eH){H:dT}{a0:Tm}{b:List Vl}{a2:Int}{C:Vl}{D F:Int}(hm:CY a0 b a2=some (C,D,F)):eI prog T 24 [Tm.av a0,sL Vl.av b,sI a2] H (AV.tuple [Vl.av C,sI D,sI F]) H:=by
 rw[CY] at hm;refine fo.uI (Post:=λx K=>x=AV.tuple [Vl.av C,sI D,sI F]/\∃X,K=H++X) ?_ (λ_ _ h=>⟨_,h.2.choose_spec,by rw[h.1];simp[AV.low,AV.iu],h.1,rfl⟩);have e:=trivial;refine wi aiN func24 [80] [(29,true,[])] 999 ?_;have m:=hm;refine sw [0,2,7,0] ?_;intro _ _ e m;refine Xe e m 0 (λG y f h=>h=H/\f.1 1=sL Vl.av b/\f.1 2=sI a2/\f.1 30=sL Vl.av b/\f.1 31=sI (ez b)/\f.1 32=sI G/\bx f 3 (Tm.av a0).cells/\bx f 6 [sI 0,sI 0,nL,nL]/\bx f 9 [sI y.1,sL Ty.av y.2]) abx (λG _ y _ _ _ _ I E e m z p=>?_) (λy _ _ _ E m=>?_)
 ·have⟨c,d⟩:=y;have e:=Aj e E;dsimp only[oO]at m;refine sg 14 [0,2,0,13] ?_;intro _ _ e m;apply wg 3;simp[e];refine CP m 999 999 (λA f h=>∃i,(h=H/\f.1 1=sL Vl.av b/\f.1 2=sI a2/\f.1 30=sL Vl.av b/\f.1 31=sI (ez b)/\f.1 32=sI G/\f.1 56=sB i/\bx f 3 (Tm.av a0).cells/\bx f 6 [sI 0,sI 0,nL,nL]/\bx f 9 [sI c,sL Ty.av d])/\A i=some I) ?_ (λA _ g m=>?_)
  ·rintro _ _ ⟨i,E,m⟩;exact aa
  apply Iq e m<;>intro e m
  ·exact iO
  refine sw [8,0] ?_;intro U e m;refine qI m ic λ_ m=>?_;exact iO
 have⟨c,d⟩:=y;have e:=Aj e E;apply wg 10;dsimp only[ew,oO]at m;refine sw [0,2,0,14] ?_;intro _ _ e m;apply wg 3;simp[e];refine wj 999 999 (λf h=>h=H/\f.1 1=sL Vl.av b/\f.1 2=sI a2/\f.1 76=sB (e_ (sx a2 0) true (o0 a2 65536))/\bx f 3 (Tm.av a0).cells/\bx f 6 [sI 0,sI 0,nL,nL]/\bx f 9 [sI c,sL Ty.av d]) (λ_ g=>?_) ?_
 ·rcases Pb (sx a2 0) e with e|e
  ·exact aj
  exact aj
 rintro _ _ E;refine sw [10,7,0,2,0] ?_;intro _ d31 e m;refine Wr e m 0 (λj a f h=>h=H++[[sI a.2.2.2.2.2.2.2.2.2.1,sI a.2.2.2.2.2.2.2.2.2.2.1,sB a.2.2.2.2.2.2.2.2.2.2.2]]/\f.1 17=AV.eT (List.length H) 0/\f.1 84=sL Vl.av b/\f.1 85=sI (ez b)/\f.1 86=sI j/\bx f 6 [sI 0,sI 0,nL,nL]/\bx f 9 [sI c,sL Ty.av d]/\bx f 18 [sI a.1,sL sI a.2.1,sL dG.av a.2.2.1,sI a.2.2.2.1,sI a.2.2.2.2.1,sI a.2.2.2.2.2.1,sL Ty.av a.2.2.2.2.2.2.1,sL Tm.av a.2.2.2.2.2.2.2.1,sL dG.av a.2.2.2.2.2.2.2.2.1]) abx (λa _ _ _ E m=>?_) (λj _ a _ _ _ _ J E e m z p=>?_)
 ·have⟨L,M,N,O,v46,P,Q,v49,R,v51,S,v53⟩:=a;have e:=Aj e E;apply wg 999;dsimp only[ew,Q8]at m;exact aa
 have⟨L,M,N,O,v46,P,Q,v49,R,v51,S,v53⟩:=a;have e:=Aj e E;dsimp only[Q8]at m;apply wg 5;simp[e];refine CP m 999 999 (λB f h=>∃k l n v59 o q r s t u v w,(h=H++[[sI u,sI v,sB w]]/\f.1 17=AV.eT (List.length H) 0/\f.1 84=sL Vl.av b/\f.1 85=sI (ez b)/\f.1 86=sI j/\bx f 6 [sI 0,sI 0,nL,nL]/\bx f 9 [sI c,sL Ty.av d]/\bx f 18 [sI k,sL sI l,sL dG.av n,sI v59,sI o,sI q,sL Ty.av r,sL Tm.av s,sL dG.av t])/\B k l n v59 o q r s t u v w=some J) ?_ (λB _ g m=>?_)
 ·rintro _ _ ⟨k,l,n,v59,o,q,r,s,t,u,v,w,E,m⟩;exact aa
 apply Iq e m<;>intro e m
 ·simp[e];exact g _ _ ⟨_,_,_,_,_,_,_,_,_,_,_,_,abx,m⟩
 refine sw [0,4,0,5] ?_;intro _ _ d73 e m;simp[e];exact g _ _ ⟨_,_,_,_,_,_,_,_,_,_,_,_,abx,m⟩
@[reducible,instance] def X':=@Kc.mk prog 24 _ @jC
def fW(T:eH)(o:nV T){H:dT}{n:Bool}(hm:ui=some n):eI prog T 7 [] H (sB n) H:=by
 rw[ui] at hm;have e:=o;refine wi aiN func7 [] [] 24 ?_;simp[e];refine zJ hm λ_ m=>?_;simp[e];refine zJ m λ_ m=>?_;simp[e];refine zJ m λ_ m=>?_;simp[e];refine zJ m λ_ m=>?_;simp[e];refine zJ m λ_ m=>?_;simp[e];refine zJ m λ_ m=>?_;simp[e];refine zJ m λ_ m=>?_;simp[e];refine zJ m λ_ m=>?_;simp[e];refine zJ m λ_ m=>?_;simp[e];refine zJ m λ_ m=>?_;simp[e];refine zJ m λ_ m=>?_;simp[e];refine zJ m λ_ m=>?_;simp[e];refine zJ m λ_ m=>?_;simp[e];refine Kf3 m λa _ b m=>?_;simp[e];refine Kf3 m λ_ _ c m=>?_;simp[e];refine zJ m λ_ m=>?_;simp[e];refine Ks3 m λ_ _ d m=>?_;refine sw [0,4,0,6,0,1,0,1,0,1,0,3,0,2,0,3,0] ?_;intro _ _ _ h _ _ _ _ _ i _ j l _ k e m;refine wB 999 999 [] [] (λf=>f.1 0=sB (e_ (ei b 0) (e_ (ei c 0) (e_ (ei d 0) (e_ (ei h 0) (e_ (ei i 0) (e_ (ei j 0) (e_ (ei k 0) (e_ (ei a.aiI 4) (ei l.num 5) false) false) false) false) false) false) false) false)) λ_ g=>?_;rcases Pb (ei b 0) e with e|e;rotate_left
 ·exact aj
 rcases Pb (ei c 0) e with e|e;rotate_left
 ·exact aj
 rcases Pb (ei d 0) e with e|e;rotate_left
 ·exact aj
 rcases Pb (ei h 0) e with e|e;rotate_left
 ·exact aj
 rcases Pb (ei i 0) e with e|e;rotate_left
 ·exact aj
 rcases Pb (ei j 0) e with e|e;rotate_left
 ·exact aj
 rcases Pb (ei k 0) e with e|e;rotate_left
 ·exact aj
 rcases Pb (ei a.aiI 4) e with e|e
 ·exact aj
 exact aj
@[reducible,instance] def Xt:=@Kc.mk prog 7 _ @fW
def U9:C1 prog 8 Ji sB (sL sI):=by
 refine v1 func8 λT H a0 r m e=>?_;rw[Ji] at m;exact au
def YI:kI prog 9=true:=by kernel_rfl
def TW(T:eH){a0:List Int}{b:ey}(hm:Qq a0=some b):eI prog T 9 [AV.slice .gx (List.map (λn=>AV.sc (Value.int .i64 n)) a0)] [] (AV.eT 0 0) (gb [[]] 0 [AV.slice .gx (List.map (λn=>AV.sc (Value.int .i64 n)) b.l),AV.sc (.int .i64 b.xy)]):=by
 obtain rfl:=lE hm;refine fo.intro (fn:=f9) func9 rfl YI (DV rfl) ?_;refine hQ.C9 λc a=>?_;refine hQ.region [] abB ?_;simp;refine a _ _ ?_;refine hQ.C9 λc a=>?_;refine hQ.region [5] abB ?_;simp;refine a _ _ ?_;refine hQ.ret ?_;simp[AO,gb]
@[reducible,instance] def aer:=@Kc.mk prog 9 _ @TW
def IA:C0 prog 27 oF Ty.av:=by
 refine v0 func27 λT H r m e=>?_;rw[oF] at m;exact aa
@[reducible,instance] def abu:=@Kc.mk prog 27 _ @IA
def Bs:C2 prog 90 Dq (sL sI) (sL Ty.av) Ty.av:=by
 refine v2 func90 λT H a0 l r m e=>?_;rw[Dq] at m;simp[e];refine Td e m 0 9 [0,8] [3] [25] (λs2=>s2) (λs2 b f=>f.1 5=sT b sI s2) λj _ s2 k _ _ _ n E e m z p=>?_;have⟨b,E,c⟩:=E;simp[e]at E;have e:=Aj e E;apply wg 5;simp[e];refine CP m 999 999 (λi f h=>∃v12 a,(h=H/\f.1 0=sL Ty.av a0/\f.1 5=sT a sI v12/\f.1 8=sI (ez a0)/\f.1 9=sI j/\bx f 3 (Ty.av l).cells)/\Ow f [25] a v12/\i v12=some n) ?_ (λi _ g m=>?_)
 ·rintro _ _ ⟨v12,a,E,d,m⟩;have e:=Aj e E;simp[e];cases m;exact p _ _ _ ⟨a,abx,d⟩ z
 refine sw [8,0,4] ?_;intro o _ e m;apply Ir e m<;>intro e m
 ·simp[e];exact g _ _ ⟨s2,b,abx,c,m⟩
 refine sw [9,0] ?_;intro e m;refine Ao (f:=sI) s2 [j] c GX e.2 ?_;simp[e];exact g _ _ ⟨(fT s2 [j]),(.loc 25 (k.e8 25+1)),abx,(On 25),m⟩
@[reducible,instance] def adD:=@Kc.mk prog 90 _ @Bs
def NC:C2 prog 70 I_ sI sI sI:=by
 refine v2 func70 λT H a0 a r m e=>?_;rw[I_] at m;refine sw [9,9] ?_;intro e m;exact au
@[reducible,instance] def af2:=@Kc.mk prog 70 _ @NC
def sq(T:eH){H:dT}{a0:ey}{d i:Int}{a:ey}{c:Nat}(b:H[c]?=some [sL sI a0.l,sI a0.xy])(hm:h9 a0 d=some (i,a)):eI prog T 22 [AV.eT c 0,sI d] H (sI i) (gb H c [sL sI a.l,sI a.xy]):=by
 rw[h9] at hm;have h:=eK b;refine fo.Jr b ?_;have e:=h;refine wi aiN func22 [] [(1,true,[]),(3,true,[])] 3 ?_;simp[e];refine wA 999 999 [1] [] (λf=>f.1 0=AV.eT c 0/\f.1 19=sB (e_ (sx d 1) true (rb a0.xy (ez a0.l)))) [] (λ_ g=>?_) ?_
 ·exact aa
 intro _ e m;have m:=hm;exact aa
@[reducible,instance] def Uc:=@Kc.mk prog 22 _ @sq
def sV(T:eH):∀(n:Nat),(∀{H:dT} {a0:ey} {j:Int} {i:Ty} {a:ey} {c:Nat} (b:H[c]?=some [sL sI a0.l,sI a0.xy]) (hm:nE n a0 j=some (i,a)),eI prog T 91 [AV.eT c 0,sI j] H (Ty.av i) (gb H c [sL sI a.l,sI a.xy])):=by
  intro n
  induction n with
  |zero=>
    skip
    all_goals(intro _ _;intros;rename_i hm;cases hm)
  |succ n ih=>
 intro H a0 j i a c b hm;rw[nE] at hm;have k:=eK b;refine fo.Jr b ?_;have e:=k;refine wi aiN func91 [] [] 2 ?_;simp[e];refine CP hm 3 999 (λo f h=>∃v2,(h=gb H c [sL sI v2.l,sI v2.xy]/\f.1 4=AV.hU 4 (f.gen 4) 0/\f.box 4=some [sI 0,nL])/\o v2=some (i,a)) ?_ (λo _ g m=>?_)
 ·rintro _ _ ⟨v2,E,m⟩;exact aa
 refine sw [0,2,0] ?_;intro d d8 e m;refine wA 999 999 [1,6] [4] (λf=>f.1 0=AV.eT c 0/\f.1 7=sB (e_ (ei d 0) true (e_ (ei d 1) true (ei d 2)))) [13,13,13] (λ_ g=>?_) ?_
 ·rcases Pb (ei d 0) e with e|e
  ·exact aj
  rcases Pb (ei d 1) e with e|e
  ·exact aj
  exact aj
 intro _ e m;apply Iq e m<;>intro e m
 ·apply Ir e m<;>intro e m
  ·exact iO
  simp[e];refine Ds m (ih abx) λ_ d17 m=>?_;simp[e];refine Ds m (ih abx) λ_ d19 m=>?_;exact aa
 apply Ir e m<;>intro e m
 ·exact iO
 apply Ir e m<;>intro e m
 ·exact iO
 simp[e];refine Ds m (ih abx) λ_ d22 m=>?_;simp[e];refine Ds m (ih abx) λ_ d24 m=>?_;exact aa
def RJ(T:eH){H:dT}{a0:ey}{d:Int}{f:Ty}{a:ey}{b:Nat}(c:H[b]?=some [sL sI a0.l,sI a0.xy]){n:Nat}(hm:nE n a0 d=some (f,a)):eI prog T 91 [AV.eT b 0,sI d] H (Ty.av f) (gb H b [sL sI a.l,sI a.xy]):=(sV T n) c hm
@[reducible,instance] def adA:=@Kc.mk prog 91 _ @RJ
def z8:C2 prog 93 rE (sL Ty.av) (sL Ty.av) (sL Ty.av):=by
 refine v2 func93 λT H a0 a r m e=>?_;rw[rE] at m;refine sw [9,0] ?_;intro e m;refine Ao (f:=Ty.av) [] a0 (hD.full (D:=[])) FG e.2 ?_;refine sw [9,0] ?_;intro e m;refine Ao (f:=Ty.av) (fT [] a0) a (hD.new (D:=[6]) (d:=6) aak) FG e.2 ?_;exact au
@[reducible,instance] def ZM:=@Kc.mk prog 93 _ @z8
def Ou:C2 prog 59 vW Tm.av Tm.av (sL Tm.av):=by
 refine v2 func59 λT H a0 d r m e=>?_;rw[vW] at m;simp[e];refine Wr e m 999 (λi s2 f h=>h=H/\f.1 7=sL Tm.av d/\f.1 8=sI (ez d)/\f.1 9=sI i/\bx f 2 [sI s2.1,sI s2.2.1,sI s2.2.2.1,sL Ty.av s2.2.2.2.1,sL Tm.av s2.2.2.2.2]/\bx f 4 [sI 0,sI 0,sI 0,nL,nL]) abx (λs2 _ _ _ E m=>?_) (λi _ s2 _ _ _ _ _ E e m z p=>?_)
 ·have⟨v11,v12,a,b,c⟩:=s2;have e:=Aj e E;dsimp only[ew,CJ]at m;exact au
 have⟨v11,v12,a,b,c⟩:=s2;have e:=Aj e E;dsimp only[CJ]at m;exact aa
@[reducible,instance] def afg:=@Kc.mk prog 59 _ @Ou
def EI:C0 prog 105 vt Tm.av:=by
 refine v0 func105 λT H r m e=>?_;rw[vt] at m;exact aa
@[reducible,instance] def YC:=@Kc.mk prog 105 _ @EI
def Gn:C0 prog 60 ru Tm.av:=by
 refine v0 func60 λT H r m e=>?_;rw[ru] at m;exact aa
@[reducible,instance] def aaa:=@Kc.mk prog 60 _ @Gn
def eQ(T:eH):∀(n:Nat),(∀{H:dT} {a0:ey} {i:List Ty} {a2:Ty} {a3:Int} {k:Tm} {a:ey} {b:Nat} (o:H[b]?=some [sL sI a0.l,sI a0.xy]) (hm:gJ n a0 i a2 a3=some (k,a)),eI prog T 33 [AV.eT b 0,sL Ty.av i,Ty.av a2,sI a3] H (Tm.av k) (gb H b [sL sI a.l,sI a.xy])):=by
  intro n
  induction n with
  |zero=>
    skip
    all_goals(intro _ _;intros;rename_i hm;cases hm)
  |succ n ih=>
 intro H a0 i a2 a3 k a b o hm;rw[gJ] at hm;have u:=eK o;refine fo.Jr o ?_;have e:=u;refine wi aiN func33 [] [] 5 ?_;have m:=hm;refine sw [0,1,0] ?_;intro C e m;refine Wj m 999 0 (λv f h=>∃v3 v4,(h=gb H b [sL sI v4.l,sI v4.xy]/\f.1 0=AV.eT b 0/\f.1 1=sL Ty.av i/\f.1 3=sI a3/\f.1 9=sL sI C/\f.1 27=sB v3/\bx f 6 (Ty.av a2).cells/\bx f 8 [sI 0,sI 0,sI 0,nL,nL])/\v v3 v4=some (k,a)) (λv _ g m=>?_) ?_
 ·apply Ir e m<;>intro e m
  ·exact ak2
  refine sw [0,2] ?_;intro _ d9 e m;exact ak2
 rintro _ _ ⟨v3,v4,E,m⟩;have e:=Aj e E;apply Iq e m<;>intro e m
 ·refine sg 999 [0,2] ?_;intro _ d12 e m;exact aa
 apply wg 2;simp[e];refine CP m 999 6 (λr f h=>∃c,(h=gb H b [sL sI c.l,sI c.xy]/\f.1 0=AV.eT b 0/\f.1 1=sL Ty.av i/\f.1 3=sI a3/\bx f 6 (Ty.av a2).cells/\bx f 8 [sI 0,sI 0,sI 0,nL,nL])/\r c=some (k,a)) ?_ (λr _ g m=>?_)
 ·rintro _ _ ⟨c,E,m⟩;have e:=Aj e E;simp[e];apply Iq e m<;>intro e m
  ·apply wg 1;simp[e];refine CP m 999 999 (λs f h=>∃v21,(h=gb H b [sL sI v21.l,sI v21.xy]/\f.1 0=AV.eT b 0/\f.1 8=AV.hU 8 (f.gen 8) 0/\f.box 8=some [sI 0,sI 0,sI 0,nL,nL])/\s v21=some (k,a)) ?_ (λs _ g m=>?_)
   ·rintro _ _ ⟨v21,E,m⟩;refine sw [10,0,2] ?_;intro _ d26 e m;exact aa
   apply Ir e m<;>intro e m
   ·exact iO
   refine sw [0,2] ?_;intro _ d29 e m;apply Iq e m<;>intro e m
   ·simp[e];refine Ds m (ih abx) λ_ d31 m=>?_;exact aa
   apply Iq e m<;>intro e m
   ·refine sw [0,4,0] ?_;intro _ e m;refine tq m (ih abx) λ_ d35 m=>?_;simp[e];refine tq m (ih abx) λ_ d37 m=>?_;exact aa
   apply Ir e m<;>intro e m
   ·exact iO
   refine sw [0,4,0] ?_;intro _ e m;refine tq m (ih abx) λ_ d41 m=>?_;simp[e];refine tq m (ih abx) λ_ d43 m=>?_;exact aa
  apply wg 3;simp[e];apply Ir e m<;>intro e m
  ·apply wg 999;apply Iq e m<;>intro e m
   ·refine sw [8,0] ?_;intro D e m;refine tq m (ih abx) λ_ d47 m=>?_;refine sw [8,0] ?_;intro F e m;refine tq m (ih abx) λ_ d50 m=>?_;exact aa
   refine sw [14,8,0,4,8,0] ?_;intro G _ I e m;refine tq m (ih abx) λ_ d57 m=>?_;exact aa
  apply wg 2;simp[e];refine Wj m 999 999 (λt f h=>∃q d,(h=gb H b [sL sI d.l,sI d.xy]/\f.1 0=AV.eT b 0/\f.1 1=sL Ty.av i/\f.1 3=sI a3/\f.1 276=sB q/\bx f 6 (Ty.av a2).cells/\bx f 8 [sI 0,sI 0,sI 0,nL,nL])/\t q d=some (k,a)) (λt _ g m=>?_) ?_
  ·apply Ir e m<;>intro e m
   ·exact ak2
   refine sw [0,2] ?_;intro _ d65 e m;exact ak2
  rintro _ _ ⟨q,d,E,m⟩;refine sw [10,14,0,4,0] ?_;intro _ e m;refine tq m (ih abx) λ_ d70 m=>?_;simp[e];refine tq m (ih abx) λ_ d72 m=>?_;exact aa
 apply Ir e m<;>intro e m
 ·exact iO
 refine sw [0,2] ?_;intro _ d75 e m;apply Iq e m<;>intro e m
 ·refine sw [0,2,0,4,0] ?_;intro _ d77 _ e m;refine tq m (ih abx) λ_ d80 m=>?_;refine sw [0,4,0] ?_;intro _ e m;refine tq m (ih abx) λ_ d83 m=>?_;exact aa
 apply Iq e m<;>intro e m
 ·refine sw [0,2,0] ?_;intro _ d86 e m;refine tq m (ih abx) λ_ d88 m=>?_;simp[e];refine tq m (ih abx) λ_ d90 m=>?_;exact aa
 apply Iq e m<;>intro e m
 ·refine sw [0,4,0,4,0,4,0] ?_;intro _ _ _ e m;refine tq m (ih abx) λ_ d97 m=>?_;refine sw [0,4,0,4,0] ?_;intro _ _ e m;refine tq m (ih abx) λ_ d101 m=>?_;refine sw [0,5] ?_;intro _ d103 e m;exact aa
 apply Iq e m<;>intro e m
 ·refine sw [0,4,0,4,0,4,0,4,0,4,0] ?_;intro _ _ _ _ _ e m;refine tq m (ih abx) λ_ d112 m=>?_;refine sw [0,4,0,4,0,4,0] ?_;intro _ _ _ e m;refine tq m (ih abx) λ_ d117 m=>?_;refine sw [0,4,0] ?_;intro _ e m;refine tq m (ih abx) λ_ d120 m=>?_;exact aa
 apply Iq e m<;>intro e m
 ·refine sw [0,2,0] ?_;intro _ d123 e m;refine tq m (ih abx) λ_ d125 m=>?_;simp[e];refine tq m (ih abx) λ_ d127 m=>?_;exact aa
 apply Ir e m<;>intro e m
 ·exact iO
 simp[e];refine Wr e m 0 (λj _ f h=>h=gb H b [sL sI d75.l,sI d75.xy]/\f.1 0=AV.eT b 0/\f.1 1=sL Ty.av i/\f.1 3=sI a3/\f.1 176=sI (ez i)/\f.1 177=sI j/\bx f 6 (Ty.av a2).cells/\bx f 8 [sI 0,sI 0,sI 0,nL,nL]) abx (λ_ _ _ _ E m=>?_) (λj _ _ _ _ _ _ w E e m z p=>?_)
 ·have e:=Aj e E;refine sg 999 [11] ?_;intro e m;exact iO
 have e:=Aj e E;refine sg 11 [8,0] ?_;intro x e m;refine WA m 999 999 [1,3,15,176,177] [6,8,16] (λv141 f=>f.1 0=AV.eT b 0/\f.1 198=sB v141) [] (λy _ g m=>?_) ?_
 ·apply Ir e m<;>intro e m
  ·exact iO
  refine sw [8,0] ?_;intro A e m;refine qI m ic λ_ m=>?_;exact iO
 intro _ v141 e m;apply Ir e m<;>intro e m
 ·exact al
 refine sw [0,4,8,0] ?_;intro _ B e m;refine tq m (ih abx) λ_ d150 m=>?_;exact aa
def RR(T:eH){H:dT}{a0:ey}{d:List Ty}{a2:Ty}{a3:Int}{f:Tm}{a:ey}{b:Nat}(c:H[b]?=some [sL sI a0.l,sI a0.xy]){n:Nat}(hm:gJ n a0 d a2 a3=some (f,a)):eI prog T 33 [AV.eT b 0,sL Ty.av d,Ty.av a2,sI a3] H (Tm.av f) (gb H b [sL sI a.l,sI a.xy]):=(eQ T n) c hm
@[reducible,instance] def adz:=@Kc.mk prog 33 _ @RR
def Aw(T:eH){H:dT}{a0:ey}{f:Tm}{a:ey}{c:Nat}(b:H[c]?=some [sL sI a0.l,sI a0.xy])(hm:u9 a0=some (f,a)):eI prog T 10 [AV.eT c 0] H (Tm.av f) (gb H c [sL sI a.l,sI a.xy]):=by
 rw[u9] at hm;have d:=eK b;refine fo.Jr b ?_;have e:=d;refine wi aiN func10 [] [] 999 ?_;have m:=hm;refine sw [0,1,0,1,0,1,0,2] ?_;intro _ _ _ _ d5 e m;exact aa
@[reducible,instance] def aae:=@Kc.mk prog 10 _ @Aw
def j6:C1 prog 13 hI sB sI:=by
 refine u1 2 func13 λT H a0 r m e=>?_;rw[hI] at m;simp[e];refine wB 999 999 [] [] (λf=>f.1 2=sB (e_ (ei a0 4) true (e_ (ei a0 5) true (ei a0 3)))) λ_ g=>?_;exact aa
def zk:C4 prog 52 nk sI (sL Fm.av) Sq.av Pf.av Fm.av:=by
 refine v4 func52 λT H a0 a a2 a3 r m e=>?_;rw[nk] at m;exact aa
@[reducible,instance] def Tv:=@Kc.mk prog 52 _ @zk
def jO:C2 prog 14 jv sB Fm.av Pf.av:=by
 refine u2 4 func14 λT H a0 a r m e=>?_;rw[jv] at m;refine sw [0,1,0] ?_;intro _ e m;refine WB m 999 999 [] [] (λv3 f=>f.1 4=sB v3) λb _ g m=>?_;apply Iq e m<;>intro e m
 ·exact iO
 simp[e];refine pS m j6 λ_ m=>?_;exact iO
def BT(T:eH){H:dT}{a0:ey}{f:Tm}{a:ey}{c:Nat}(b:H[c]?=some [sL sI a0.l,sI a0.xy])(hm:pN a0=some (f,a)):eI prog T 16 [AV.eT c 0] H (Tm.av f) (gb H c [sL sI a.l,sI a.xy]):=by
 rw[pN] at hm;have d:=eK b;refine fo.Jr b ?_;have e:=d;refine wi aiN func16 [] [] 999 ?_;have m:=hm;refine sw [0,1,0,2] ?_;intro _ _ d3 e m;exact au
@[reducible,instance] def WS:=@Kc.mk prog 16 _ @BT
def Gs:C1 prog 58 vj Tm.av Tm.av:=by
 refine v1 func58 λT H a0 r m e=>?_;rw[vj] at m;exact aa
@[reducible,instance] def aaE:=@Kc.mk prog 58 _ @Gs
def Gk:C3 prog 106 xB Tm.av Tm.av Tm.av Tm.av:=by
 refine v3 func106 λT H a0 a a2 r m e=>?_;rw[xB] at m;exact aa
@[reducible,instance] def ZD:=@Kc.mk prog 106 _ @Gk
def xG:C0 prog 61 pH Tm.av:=by
 refine v0 func61 λT H r m e=>?_;rw[pH] at m;exact aa
@[reducible,instance] def SF:=@Kc.mk prog 61 _ @xG
def kf(T:eH){H:dT}{a0:ey}{f:Tm}{a:ey}{c:Nat}(b:H[c]?=some [sL sI a0.l,sI a0.xy])(hm:s0 a0=some (f,a)):eI prog T 17 [AV.eT c 0] H (Tm.av f) (gb H c [sL sI a.l,sI a.xy]):=by
 rw[s0] at hm;have d:=eK b;refine fo.Jr b ?_;have e:=d;refine wi aiN func17 [] [] 999 ?_;have m:=hm;refine sw [0,1,0,2,13,13] ?_;intro _ _ d3 e m;apply Iq e m<;>intro e m
 ·refine sw [0,4,0,4,0,5] ?_;intro _ _ _ d17 e m;exact aa
 refine sw [13] ?_;intro e m;apply Iq e m<;>intro e m
 ·refine sw [0,5] ?_;intro _ d28 e m;exact aa
 exact aa
@[reducible,instance] def Yn:=@Kc.mk prog 17 _ @kf
def kL(T:eH){H:dT}{a0:ey}{d:Tm}{a:ey}{c:Nat}(b:H[c]?=some [sL sI a0.l,sI a0.xy])(hm:pQ a0=some (d,a)):eI prog T 19 [AV.eT c 0] H (Tm.av d) (gb H c [sL sI a.l,sI a.xy]):=by
 rw[pQ] at hm;have i:=eK b;refine fo.Jr b ?_;have e:=i;refine wi aiN func19 [] [] 6 ?_;have m:=hm;refine sw [0,1,0,1,0,1,0] ?_;intro o _ _ e m;refine CP m 999 999 (λn f h=>∃v5 v6 j k v9 v10,(h=gb H c [sL sI v10.l,sI v10.xy]/\bx f 2 [sI 0,sI 0,sI 0,nL,nL]/\bx f 3 (Ty.av o).cells/\bx f 4 [sI v5,sI v6,sI j,sL Ty.av k,sL Tm.av v9])/\n v5 v6 j k v9 v10=some (d,a)) ?_ (λn _ g m=>?_)
 ·rintro _ _ ⟨v5,v6,j,k,v9,v10,E,m⟩;exact aa
 refine sw [0,2] ?_;intro _ d20 e m;apply Iq e m<;>intro e m
 ·refine sw [0,1,0,1,0,1,0,1] ?_;intro _ _ _ _ e m;simp[e];exact g _ _ ⟨_,_,_,_,_,_,abx,m⟩
 apply Iq e m<;>intro e m
 ·refine sw [0,1,0,1,0,1,0,1] ?_;intro _ _ _ _ e m;simp[e];exact g _ _ ⟨_,_,_,_,_,_,abx,m⟩
 apply Ir e m<;>intro e m
 ·simp[e];exact g _ _ ⟨_,_,_,_,_,_,abx,m⟩
 refine sw [0,4,0,5] ?_;intro _ _ d31 e m;simp[e];exact g _ _ ⟨_,_,_,_,_,_,abx,m⟩
@[reducible,instance] def RX:=@Kc.mk prog 19 _ @kL
def ft(T:eH)(l:nV T){a0:List Int}{n:Bool}(hm:m0 a0=some n):fo prog T 3 [sL sI a0] [] (λx _=>x=sB n):=by
 rw[m0] at hm;have e:=l;refine wi aiN func3 [] [] 3 ?_;simp[e];refine WA hm 999 0 [0] [] (λv2 f=>f.1 21=sB v2) [13] (λI _ g m=>?_) ?_
 ·simp[e];refine pS m (fW T l) λ_ m=>?_;apply Ir e m<;>intro e m
  ·exact iO
  simp[e];refine pS m U9 λ_ m=>?_;exact iO
 intro _ v2 e m;refine sg 13 [0,1,0,2,0,2,0,3,0,3,0,3,0] ?_;intro _ _ d11 _ d13 o q a r s b t u i e m;refine wA 999 0 [8,11,14] [6,7,9,10,12,13] (λf=>f.1 3=AV.eT 0 0/\f.1 59=sB (e_ (eE a 0) true (e_ (eE b 0) true (eE i 0)))) [] (λ_ g=>?_) ?_
 ·rcases Pb (eE a 0) e with e|e
  ·exact aj
  rcases Pb (eE b 0) e with e|e
  ·exact aj
  exact aj
 intro _ e m;apply Iq e m<;>intro e m
 ·apply wg 1;simp[e];refine WB m 999 999 [] [] (λv28 f=>f.1 2=sB v28) λv _ g m=>?_;simp[e];refine pS m j6 λ_ m=>?_;apply Iq e m<;>intro e m
  ·exact iO
  simp[e];refine pS m j6 λ_ m=>?_;apply Iq e m<;>intro e m
  ·exact iO
  simp[e];refine pS m j6 λ_ m=>?_;exact iO
 apply wg 3;simp[e];refine WA m 999 0 [] [6,7,9,10,12,13] (λc f=>f.1 3=AV.eT 0 0/\f.1 85=sB c) [13] (λw _ g m=>?_) ?_
 ·simp[e];refine pS m jO λ_ m=>?_;apply Ir e m<;>intro e m
  ·exact iO
  simp[e];refine pS m jO λ_ m=>?_;apply Ir e m<;>intro e m
  ·exact iO
  simp[e];refine pS m jO λ_ m=>?_;exact iO
 intro _ c e m;apply wg 9;simp[e];refine Kf2 m λ_ d44 m=>?_;simp[e];refine Kf2 m λ_ d46 m=>?_;simp[e];refine Kf3 m λy A d m=>?_;simp[e];refine Kf2 m λ_ d51 m=>?_;refine sw [0,2,0,3,0,2,0,1,0,2,0,2,0,3,0] ?_;intro _ d53 B C h _ d58 _ _ d61 _ d63 D F j e m;refine wA 999 0 [8,11,14] [6,7,9,10,12,13] (λf=>f.1 125=sB (e_ (eE d 0) true (e_ (eE h 0) true (eE j 0)))) [] (λ_ g=>?_) ?_
 ·rcases Pb (eE d 0) e with e|e
  ·exact aj
  rcases Pb (eE h 0) e with e|e
  ·exact aj
  exact aj
 intro _ e m;apply Iq e m<;>intro e m
 ·apply wg 1;simp[e];refine WB m 999 999 [] [] (λv72 f=>f.1 2=sB v72) λG _ g m=>?_;simp[e];refine pS m j6 λ_ m=>?_;apply Iq e m<;>intro e m
  ·exact iO
  simp[e];refine pS m j6 λ_ m=>?_;apply Iq e m<;>intro e m
  ·exact iO
  simp[e];refine pS m j6 λ_ m=>?_;exact iO
 apply wg 2;simp[e];refine WB m 999 999 [] [] (λk f=>f.1 2=sB k) λH _ g m=>?_;simp[e];refine pS m jO λ_ m=>?_;apply Ir e m<;>intro e m
 ·exact iO
 simp[e];refine pS m jO λ_ m=>?_;apply Ir e m<;>intro e m
 ·exact iO
 simp[e];refine pS m jO λ_ m=>?_;exact iO
end Go.Proofs.YtpgdkkomegalnaaGreatDoor
