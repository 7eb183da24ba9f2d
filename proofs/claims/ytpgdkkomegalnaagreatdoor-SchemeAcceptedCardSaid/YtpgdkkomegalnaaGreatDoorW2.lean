/- Part of the proof of SchemeAccepted: walks. -/
import Derived.Test.YtpgdkkomegalnaaGreatDoorW1
set_option linter.all false
set_option maxRecDepth 20000
set_option maxHeartbeats 4000000
namespace Go.Proofs.YtpgdkkomegalnaaGreatDoor
open Go Go.kY Go.fN Tryz
def NZ:C2 prog 222 u6 (sL Tm.av) (sL Tm.av) Tm.av:=by
 refine v2 func222 λT H a0 a r m e=>?_;rw[u6] at m;refine sw [9,0] ?_;intro e m;refine Ad (f:=Tm.av) [] a0 (gL.full (D:=[])) xS e.2 ?_;refine sw [9,0] ?_;intro e m;refine Ad (f:=Tm.av) (fT [] a0) [a] (gL.new (D:=[6]) (d:=6) Df) xS e.2 ?_;exact au
@[instance] def adk:=@Kc.mk prog 222 _ @NZ
def zh(T:eA):∀(n:Nat),(∀{H:dS} {a0:dW} {b:Tm} {a2:List Tm} {o:Tm} {c:dW} {k:Nat} (i:H[k]?=some [sL Fm.av a0.lemmas,sL Tm.av a0.ea,sI a0.next]) (hm:gS n a0 b a2=some (o,c)),et prog T 151 [AV.eK k 0,Tm.av b,sL Tm.av a2] H (Tm.av o) (fo H k [sL Fm.av c.lemmas,sL Tm.av c.ea,sI c.next])):=by
  intro n
  induction n with
  |zero=>
   skip
   all_goals(intro _ _;intros;rename_i hm;cases hm)
  |succ n ih=>
 intro H a0 b a2 o c k i hm;rw[gS] at hm;have q:=eJ i;refine fb.Gl i ?_;have e:=q;refine wi an' func151 [] [] 999 ?_;have m:=hm;refine sw [13] ?_;intro e m;apply Iq e m<;>intro e m
 ·refine sw [0,2,8,0,4,0,4,0] ?_;intro t d3 y _ _ e m;refine o4 m (ih VW) λu d8 m=>?_;have e:=Aj e (show AV.agg [sI b.an6,sI t,sI b.dL.an6,sL Ty.av b.dL.an7,AV.slice .gx [Tm.av u]]=Tm.av (Tm.mk b.an6 t b.dL [u]) by rw[Tm.eQ];rfl);exact au
 simp[e];refine Wn m 999 (λd f h=>∃a,(h=fo H k [sL Fm.av d.2.2.lemmas,sL Tm.av d.2.2.ea,sI d.2.2.next]/\f.1 0=AV.eK k 0/\f.1 2=sL Tm.av a2/\f.1 8=sI d.1/\bx f 4 (Tm.av b).cells/\bx f 6 [sI 0,sI 0,sI 0,nL,nL]/\bx f 7 [sI b.an6,sI 0,sI b.dL.an6,sL Ty.av b.dL.an7,sT a Tm.av d.2.1])/\Ow f [64] a d.2.1) (by exact⟨.full,VW,gL.full⟩) (λd l _ _ _ _ E m z p=>?_);have⟨v,r,w⟩:=d;have⟨a,E,j⟩:=E;have e:=Aj e E;dsimp only[Af]at m;apply Ir e m<;>intro e m
 ·cases m;have m:=Qb z;dsimp only[Af]at m;exact au
 refine sw [8,0] ?_;intro x e m;refine o4 m (ih VW) λs d22 m=>?_;refine sw [9,0] ?_;intro e m;refine Ad (f:=Tm.av) r [s] j xS e.2 ?_;simp[e];cases m;exact p _ _ _ ⟨(.loc 64 (l.fa 64+1)),VW,(On 64)⟩ z
def zK(T:eA){H:dS}{a0:dW}{d:Tm}{a2:List Tm}{f:Tm}{a:dW}{b:Nat}(c:H[b]?=some [sL Fm.av a0.lemmas,sL Tm.av a0.ea,sI a0.next]){n:Nat}(hm:gS n a0 d a2=some (f,a)):et prog T 151 [AV.eK b 0,Tm.av d,sL Tm.av a2] H (Tm.av f) (fo H b [sL Fm.av a.lemmas,sL Tm.av a.ea,sI a.next]):=(zh T n) c hm
@[instance] def Oy:=@Kc.mk prog 151 _ @zK
def xr(T:eA){H:dS}{a0:dW}{f:ej}{a2:Pf}{h:Fm}{a:dW}{c:Nat}(b:H[c]?=some [sL Fm.av a0.lemmas,sL Tm.av a0.ea,sI a0.next])(hm:gT a0 f a2=some (h,a)):et prog T 152 [AV.eK c 0,ej.av f,Pf.av a2] H (Fm.av h) (fo H c [sL Fm.av a.lemmas,sL Tm.av a.ea,sI a.next]):=by
 rw[gT] at hm;have d:=eJ b;refine fb.Gl b ?_;have e:=d;refine wi an' func152 [] [(1,true,[])] 999 ?_;have m:=hm;exact aa
@[instance] def Ll:=@Kc.mk prog 152 _ @xr
def Jw:C3 prog 153 l0 ej.av ej.av Fm.av Tm.av:=by
 refine v3 func153 λT H a0 a a2 r m e=>?_;rw[l0] at m;refine sw [0,4,9,0] ?_;intro _ e m;refine Ad (f:=Fm.av) [] a0.gK.aob (gL.full (D:=[])) KT e.2 ?_;refine sw [9,0] ?_;intro e m;refine Ad (f:=Fm.av) (fT [] a0.gK.aob) [a] (gL.new (D:=[21]) (d:=21) Df) KT e.2 ?_;exact au
@[instance] def Zh:=@Kc.mk prog 153 _ @Jw
def Q6:C3 prog 154 mR Tm.av Ty.av sI Tm.av:=by
 refine v3 func154 λT H a0 a a2 r m e=>?_;rw[mR] at m;have e:=Aj e (show AV.agg [sI 2,sI a,sI a0.an6,sL Ty.av a0.an7,AV.slice .gx [Tm.av a2]]=Tm.av (Tm.mk 2 a a0 [a2]) by rw[Tm.eQ];rfl);exact au
@[instance] def adF:=@Kc.mk prog 154 _ @Q6
def PJ:C2 prog 29 p3 Tm.av Tm.av Tm.av:=by
 refine v2 func29 λT H a0 a r m e=>?_;rw[p3] at m;exact aa
@[instance] def aed:=@Kc.mk prog 29 _ @PJ
def M7:C3 prog 223 yt (t2 Fm.av sI) Fm.av sI sI:=by
 refine u3 7 func223 λT H a0 a a2 r m e=>?_;rw[yt] at m;refine sw [0,1,0,13] ?_;intro _ e m;apply wg 3;simp[e];refine WB m 999 999 [2] [3,6] (λv3 f=>f.1 1=sI a/\f.1 33=sB v3) λb _ g m=>?_;apply Iq e m<;>intro e m
 ·exact iC
 apply Iq e m<;>intro e m
 ·exact iC
 apply Iq e m<;>intro e m
 ·exact iC
 apply Iq e m<;>intro e m
 ·exact iC
 refine sw [0,1] ?_;intro _ e m;exact iC
@[instance] def adr:=@Kc.mk prog 223 _ @M7
def Lb:C3 prog 155 l_ ej.av ej.av Ty.av Tm.av:=by
 refine v3 func155 λT H a0 j a2 r m e=>?_;rw[l_] at m;refine sw [0,4,9,0] ?_;intro n e m;refine Ad (f:=Ty.av) [] a0.gK.an_ (gL.full (D:=[])) Fw e.2 ?_;refine sw [9,0] ?_;intro e m;refine Ad (f:=Ty.av) (fT [] a0.gK.an_) [j] (gL.new (D:=[21]) (d:=21) Df) Fw e.2 ?_;simp[e];refine Wn m 999 (λs2 f h=>∃a b,(h=H/\f.1 8=sI s2.1/\bx f 3 [sL Ty.av a0.gK.an_,sL Fm.av a0.gK.aob,sL Tm.av a0.vars,sL Tm.av a0.aob]/\bx f 6 [nL,nL,nL,nL]/\bx f 7 [sT a Ty.av (fT (fT [] a0.gK.an_) [j]),sT b Fm.av s2.2,sL Tm.av n,sL Tm.av a0.aob])/\Ow f [24] a (fT (fT [] a0.gK.an_) [j])/\Ow f [50] b s2.2) (by exact⟨(.loc 24 1),.full,VW,(On 24),gL.full⟩) (λs2 k _ _ _ _ E m z p=>?_);have⟨v10,v11⟩:=s2;have⟨a,b,E,i,c⟩:=E;have e:=Aj e E;dsimp only[lk]at m;apply Ir e m<;>intro e m
 ·cases m;have m:=Qb z;dsimp only[lk]at m;exact au
 refine sw [8,0,2,9,0] ?_;intro o l _ e m;refine Ao (f:=Fm.av) v11 [l] c KT e.2 ?_;simp[e];cases m;exact p _ _ _ ⟨a,(.loc 50 (k.fa 50+1)),VW,(gL.other i c Df Df),(On 50)⟩ z
@[instance] def aaq:=@Kc.mk prog 155 _ @Lb
def II{n:Nat}:C1 prog 284 (p7 n) Tm.av Ty.av:=by
 refine i1 λn ih=>v1 func284 λT H a0 r m e=>?_;rw[p7] at m;exact aa
@[instance] def ZT:=@Kc.mk prog 284 _ @II
def Gs:C1 prog 224 xa (t2 Tm.av sI) Ty.av:=by
 refine v1 func224 λT H a0 r m e=>?_;rw[xa] at m;exact aa
@[instance] def W2:=@Kc.mk prog 224 _ @Gs
def Gp:C1 prog 156 tc Tm.av Ty.av:=by
 refine v1 func156 λT H a0 r m e=>?_;rw[tc] at m;exact aa
@[instance] def WY:=@Kc.mk prog 156 _ @Gp
def PW:C0 prog 85 uR Ty.av:=by
 refine v0 func85 λT H r m e=>?_;rw[uR] at m;exact au
@[instance] def ad0:=@Kc.mk prog 85 _ @PW
def NN:C4 prog 225 Cw ej.av ej.av Pf.av (sL sI) Tm.av:=by
 refine v4 func225 λT H a0 a a2 a3 r m e=>?_;rw[Cw] at m;exact aa
@[instance] def abk:=@Kc.mk prog 225 _ @NN
def M4:C5 prog 158 Cn Tm.av Pf.av Ty.av Tm.av Tm.av Tm.av:=by
 refine u5 4 func158 λT H a0 a a2 a3 a4 r m e=>?_;rw[Cn] at m;simp[e];refine wj 999 999 (λf h=>h=H/\f.1 11=sI (e_ (ee a0.an6 17) 9 6)/\bx f 6 (Ty.av a).cells/\bx f 7 (Tm.av a2).cells/\bx f 8 (Tm.av a3).cells/\bx f 9 (Tm.av a4).cells/\bx f 10 [sI 0,sI 0,sI 0,nL,nL]) (λ_ g=>?_) ?_
 ·rcases Pb (ee a0.an6 17) e with e|e
  ·exact aj
  exact aj
 rintro _ _ E;have e:=Aj e E;have e:=Aj e (show AV.agg [sI (e_ (ee a0.an6 17) 9 6),sI 0,sI a.an6,sL Ty.av a.an7,AV.slice .gx [Tm.av a2,Tm.av a3,Tm.av a4]]=Tm.av (Tm.mk (e_ (ee a0.an6 17) 9 6) 0 a [a2,a3,a4]) by rw[Tm.eQ];rfl);exact au
@[instance] def acd:=@Kc.mk prog 158 _ @M4
def ND{n:Nat}:C1 prog 159 (yJ n) sI Tm.av:=by
 refine i1 λn ih=>v1 func159 λT H a0 r m e=>?_;rw[yJ] at m;simp[e];refine Wn m 999 (λs1 f h=>h=H/\f.1 3=sI s1.1/\f.1 4=sI s1.2/\bx f 1 (Tm.av a0).cells) VW (λs1 _ _ _ _ _ E m z p=>?_);have⟨a,v9⟩:=s1;have e:=Aj e E;dsimp only[lk]at m;apply Ir e m<;>intro e m
 ·cases m;have m:=Qb z;dsimp only[lk]at m;exact au
 exact aa
@[instance] def abH:=@Kc.mk prog 159 _ @ND
def J_:C2 prog 116 z6 (t2 Tm.av sI) Tm.av sI:=by
 refine v2 func116 λT H a0 a r m e=>?_;rw[z6] at m;exact aa
@[instance] def aaa:=@Kc.mk prog 116 _ @J_
section
attribute [-simp] Go.kY.zP
@[local simp] theorem al3(x:Fm):zP prog 36 x.av 3=some (sL Fm.av x.an7):=by rw[Fm.fC];kernel_rfl
def qd(T:eA):∀(n:Nat),(∀{H:dS} {a0:dW} {b:ej} {a2:Pf} {i:Tm} {j:Int} {a:dW} {c:Nat} (d:H[c]?=some [sL Fm.av a0.lemmas,sL Tm.av a0.ea,sI a0.next]) (hm:eR n a0 b a2=some (i,j,a)),et prog T 75 [AV.eK c 0,ej.av b,Pf.av a2] H (AV.tuple [Tm.av i,sI j]) (fo H c [sL Fm.av a.lemmas,sL Tm.av a.ea,sI a.next]))/\(∀{H:dS} {a0:dW} {b:ej} {a2:Pf} {i:Tm} {j:Int} {a:dW} {c:Nat} (d:H[c]?=some [sL Fm.av a0.lemmas,sL Tm.av a0.ea,sI a0.next]) (hm:p4 n a0 b a2=some (i,j,a)),et prog T 115 [AV.eK c 0,ej.av b,Pf.av a2] H (AV.tuple [Tm.av i,sI j]) (fo H c [sL Fm.av a.lemmas,sL Tm.av a.ea,sI a.next]))/\(∀{H:dS} {a0:dW} {b:ej} {a2:Pf} {i:Ty} {j:Tm} {r2:Tm} {r3:Int} {a:dW} {c:Nat} (d:H[c]?=some [sL Fm.av a0.lemmas,sL Tm.av a0.ea,sI a0.next]) (hm:nt n a0 b a2=some (i,j,r2,r3,a)),et prog T 157 [AV.eK c 0,ej.av b,Pf.av a2] H (AV.tuple [Ty.av i,Tm.av j,Tm.av r2,sI r3]) (fo H c [sL Fm.av a.lemmas,sL Tm.av a.ea,sI a.next])):=by
  intro n
  induction n with
  |zero=>
    refine⟨?_,?_,?_⟩
    all_goals(intro _ _;intros;rename_i hm;cases hm)
  |succ n ih=>
 refine⟨?_,?_,?_⟩
 ·intro H a0 b a2 i j a c d hm;rw[eR] at hm;have o:=eJ d;refine fb.Gl d ?_;have e:=o;refine wi an' func75 [] [] 999 ?_;simp-implicitDefEqProofs[e];refine VR hm (ih.2.1 (by simp-implicitDefEqProofs[e])) λ_ x2 d3 m=>?_;exact aa
 ·intro H a0 b a2 i j a c d hm;rw[p4] at hm;have o:=eJ d;refine fb.Gl d ?_;have e:=o;refine wi an' func115 [] [(5,false,[true,true,true,true,false,true,true,true,true,true,true,true])] 8 ?_;simp-implicitDefEqProofs[e];apply Iq e hm<;>intro e m
  ·exact aa
  apply wg 3;simp-implicitDefEqProofs[e];apply Iq e m<;>intro e m
  ·apply wg 999;have⟨x7,e,m⟩:=iR e m;simp-implicitDefEqProofs[e];refine L4 m λ_ d9 m=>?_;exact au
  apply wg 3;simp-implicitDefEqProofs[e];apply Iq e m<;>intro e m
  ·apply wg 6;have⟨aX,e,m⟩:=iR e m;simp-implicitDefEqProofs[e];refine L4 m λ_ d12 m=>?_;simp-implicitDefEqProofs[e];refine fO m λ_ m=>?_;have⟨aY,e,m⟩:=iR e m;simp-implicitDefEqProofs[e];refine L4 m λ_ d16 m=>?_;simp-implicitDefEqProofs[e];refine fO m λai m=>?_;simp-implicitDefEqProofs[e];apply Ir e m<;>intro e m
   ·apply wg 999;simp-implicitDefEqProofs[e];refine Ie m (ih.1 (by simp-implicitDefEqProofs[e])) λ_ _ d20 m=>?_;exact au
   apply wg 5;simp-implicitDefEqProofs[e];refine Ie m (ih.1 (by simp-implicitDefEqProofs[e])) λak I d23 m=>?_;simp-implicitDefEqProofs[e];refine wj 999 999 (λf h=>h=fo H c [sL Fm.av d23.lemmas,sL Tm.av d23.ea,sI d23.next]/\f.1 0=AV.eK c 0/\f.1 11=sI I/\f.1 131=sB (e_ (eD I 0) true (m6 ai))/\bx f 4 [sL Ty.av b.gK.an_,sL Fm.av b.gK.aob,sL Tm.av b.vars,sL Tm.av b.aob]/\bx f 5 (Pf.av a2).cells/\bx f 6 [sI 0,sI 0,sI 0,nL,nL]/\bx f 10 (Tm.av ak).cells) (λ_ g=>?_) ?_
   ·rcases Pb (eD I 0) e with e|e
    ·exact aj
    exact aj
   rintro _ _ E;have e:=Aj e E;refine Il e m λe m=>?_;simp-implicitDefEqProofs[e];refine Ie m (ih.1 (by simp-implicitDefEqProofs[e])) λ_ _ d29 m=>?_;exact aa
  apply wg 1;simp-implicitDefEqProofs[e];refine wj 999 0 (λf h=>h=fo H c [sL Fm.av a0.lemmas,sL Tm.av a0.ea,sI a0.next]/\f.1 0=AV.eK c 0/\f.1 61=sI a2.an6/\f.1 149=sB (e_ (ee a2.an6 4) true (ee a2.an6 5))/\bx f 4 [sL Ty.av b.gK.an_,sL Fm.av b.gK.aob,sL Tm.av b.vars,sL Tm.av b.aob]/\bx f 5 (Pf.av a2).cells/\bx f 6 [sI 0,sI 0,sI 0,nL,nL]) (λ_ g=>?_) ?_
  ·rcases Pb (ee a2.an6 4) e with e|e
   ·exact aj
   exact aj
  rintro _ _ E;have e:=Aj e E;apply Iq e m<;>intro e m
  ·apply wg 5;have⟨aZ,e,m⟩:=iR e m;simp-implicitDefEqProofs[e];refine L4 m λ_ d36 m=>?_;simp-implicitDefEqProofs[e];refine Ie m (ih.1 (by simp-implicitDefEqProofs[e])) λQ J d39 m=>?_;simp-implicitDefEqProofs[e];refine yC m 0 999 (λR f h=>∃K L M N O,(h=fo H c [sL Fm.av d39.lemmas,sL Tm.av d39.ea,sI d39.next]/\f.1 15=sI J/\bx f 6 [sI 0,sI 0,sI 0,nL,nL]/\bx f 14 [sI K,sI L,sI M,sL Ty.av N,sL Tm.av O])/\R K L M N O=some (i,j,a)) ?_ (λR _ g m=>?_)
   ·rintro _ _ ⟨K,L,M,N,O,E,m⟩;exact aa
   refine Wj m 999 0 (λS f h=>∃P,(h=fo H c [sL Fm.av d39.lemmas,sL Tm.av d39.ea,sI d39.next]/\f.1 15=sI J/\f.1 184=sB P/\bx f 5 (Pf.av a2).cells/\bx f 6 [sI 0,sI 0,sI 0,nL,nL]/\bx f 14 (Tm.av Q).cells)/\S P=some (i,j,a)) (λS _ g m=>?_) ?_
   ·apply Ir e m<;>intro e m
    ·exact iC
    have⟨a6,e,m⟩:=iR e m;simp-implicitDefEqProofs[e];refine oo m λ_ m=>?_;apply Ir e m<;>intro e m
    ·exact iC
    have⟨a7,e,m⟩:=iR e m;simp-implicitDefEqProofs[e];refine oo m λ_ m=>?_;exact iC
   rintro _ _ ⟨P,E,m⟩;have e:=Aj e E;apply Ir e m<;>intro e m
   ·apply wg 999;simp-implicitDefEqProofs[e];exact g _ _ ⟨_,_,_,_,_,by simp-implicitDefEqProofs[e],m⟩
   apply wg 3;simp-implicitDefEqProofs[e];refine wj 2 999 (λf h=>h=fo H c [sL Fm.av d39.lemmas,sL Tm.av d39.ea,sI d39.next]/\f.1 15=sI J/\f.1 16=sI (e_ (ee a2.an6 5) 12 11)/\bx f 6 [sI 0,sI 0,sI 0,nL,nL]/\bx f 14 (Tm.av Q).cells) (λ_ g=>?_) ?_
   ·simp-implicitDefEqProofs[e];rcases Pb (ee a2.an6 5) e with e|e
    ·exact aa
    exact aa
   rintro _ _ E;have e:=Aj e E;simp-implicitDefEqProofs[e];refine oo m λ_ m=>?_;simp-implicitDefEqProofs[e];exact g _ _ ⟨_,_,_,_,_,by simp-implicitDefEqProofs[e],m⟩
  apply wg 3;simp-implicitDefEqProofs[e];apply Iq e m<;>intro e m
  ·apply wg 999;have⟨a8,e,m⟩:=iR e m;simp-implicitDefEqProofs[e];refine oo m λ_ m=>?_;apply Ir e m<;>intro e m
   ·simp-implicitDefEqProofs[e];refine fO m λ_ m=>?_;have⟨a_,e,m⟩:=iR e m;simp-implicitDefEqProofs[e];refine Ie m (ih.1 (by simp-implicitDefEqProofs[e])) λ_ _ d68 m=>?_;exact au
   simp-implicitDefEqProofs[e];refine tw m λ_ _ m=>?_;refine Il e m λe m=>?_;simp-implicitDefEqProofs[e];refine tw m λ_ d72 m=>?_;simp-implicitDefEqProofs[e];refine fO m λ_ m=>?_;simp-implicitDefEqProofs[e];refine fO m λ_ m=>?_;have⟨a',e,m⟩:=iR e m;simp-implicitDefEqProofs[e];refine Ie m (ih.1 (by simp-implicitDefEqProofs[e])) λ_ _ d78 m=>?_;exact aa
  apply wg 3;simp-implicitDefEqProofs[e];apply Iq e m<;>intro e m
  ·apply wg 4;have⟨ba,e,m⟩:=iR e m;simp-implicitDefEqProofs[e];refine Ie m (ih.1 (by simp-implicitDefEqProofs[e])) λan ao d83 m=>?_;simp-implicitDefEqProofs[e];refine yC m 999 999 (λU f h=>∃v85 q,(h=fo H c [sL Fm.av q.lemmas,sL Tm.av q.ea,sI q.next]/\f.1 0=AV.eK c 0/\f.1 22=sI ao/\f.1 280=sB v85/\bx f 4 [sL Ty.av b.gK.an_,sL Fm.av b.gK.aob,sL Tm.av b.vars,sL Tm.av b.aob]/\bx f 5 (Pf.av a2).cells/\bx f 6 [sI 0,sI 0,sI 0,nL,nL]/\bx f 21 (Tm.av an).cells)/\U v85 q=some (i,j,a)) ?_ (λU _ g m=>?_)
   ·rintro _ _ ⟨v85,q,E,m⟩;have e:=Aj e E;refine Il e m λe m=>?_;have⟨bb,e,m⟩:=iR e m;simp-implicitDefEqProofs[e];refine Ie m (ih.1 (by simp-implicitDefEqProofs[e])) λ_ _ d93 m=>?_;exact aa
   apply Iq e m<;>intro e m
   ·exact ak2
   simp-implicitDefEqProofs[e];refine L4 m λ_ d96 m=>?_;have⟨bc,e,m⟩:=iR e m;simp-implicitDefEqProofs[e];refine fO m λ_ m=>?_;exact ak2
  apply wg 3;simp-implicitDefEqProofs[e];apply Iq e m<;>intro e m
  ·apply wg 999;simp-implicitDefEqProofs[e];refine tw m λ_ d100 m=>?_;simp-implicitDefEqProofs[e];refine fO m λ_ m=>?_;simp-implicitDefEqProofs[e];refine fO m λ_ m=>?_;have⟨aq,e,m⟩:=iR e m;simp-implicitDefEqProofs[e];refine Ie m (ih.1 (by simp-implicitDefEqProofs[e])) λ_ _ d106 m=>?_;exact aa
  apply wg 3;simp-implicitDefEqProofs[e];apply Iq e m<;>intro e m
  ·apply wg 999;have⟨ar,e,m⟩:=iR e m;simp-implicitDefEqProofs[e];refine Ie m (ih.1 (by simp-implicitDefEqProofs[e])) λ_ _ d111 m=>?_;have⟨aw,e,m⟩:=iR e m;simp-implicitDefEqProofs[e];refine L4 m λ_ d114 m=>?_;exact aa
  apply wg 3;simp-implicitDefEqProofs[e];apply Iq e m<;>intro e m
  ·apply wg 999;have⟨ax,e,m⟩:=iR e m;simp-implicitDefEqProofs[e];refine L4 m λ_ d118 m=>?_;have⟨ay,e,m⟩:=iR e m;have⟨az,e,m⟩:=iR e m;simp-implicitDefEqProofs[e];refine oo m λ_ m=>?_;refine Im e m λe m=>?_;have⟨aA,e,m⟩:=iR e m;simp-implicitDefEqProofs[e];refine Ie m (ih.1 (by simp-implicitDefEqProofs[e])) λ_ _ d125 m=>?_;exact aa
  apply wg 3;simp-implicitDefEqProofs[e];apply Iq e m<;>intro e m
  ·apply wg 8;have⟨aB,e,m⟩:=iR e m;simp-implicitDefEqProofs[e];refine L4 m λV d129 m=>?_;simp-implicitDefEqProofs[e];refine Ie m (ih.1 (by simp-implicitDefEqProofs[e])) λW _ d132 m=>?_;simp-implicitDefEqProofs[e];apply Iq e m<;>intro e m
   ·exact aa
   apply wg 6;simp-implicitDefEqProofs[e];refine tw m λX d134 m=>?_;simp-implicitDefEqProofs[e];refine fO m λ_ m=>?_;simp-implicitDefEqProofs[e];refine yC m 999 999 (λD f h=>∃r v138 v139 s v141 t v143 u v145 v146 v v148 k l,(h=fo H c [sL Fm.av d134.lemmas,sL Tm.av d134.ea,sI d134.next]/\f.1 0=AV.eK c 0/\f.1 35=sI X/\bx f 4 [sL Ty.av b.gK.an_,sL Fm.av b.gK.aob,sL Tm.av b.vars,sL Tm.av b.aob]/\bx f 5 (Pf.av a2).cells/\bx f 6 [sI 0,sI 0,sI 0,nL,nL]/\bx f 32 (Fm.av V).cells/\bx f 33 (Tm.av W).cells/\bx f 36 [sI r,sL Ty.av v138]/\bx f 37 [sI v139,sI s,sI v141,sL Ty.av t,sL Tm.av v143]/\bx f 38 [sI u,sI v145,sI v146,sT k Ty.av v,sT l Tm.av v148])/\D r v138 v139 s v141 t v143 u v145 v146 v v148=some (i,j,a)) ?_ (λD _ g m=>?_)
   ·rintro _ _ ⟨r,v138,v139,s,v141,t,v143,u,v145,v146,v,v148,k,l,E,m⟩;have e:=Aj e E;simp-implicitDefEqProofs[e];refine fO m λ_ m=>?_;have⟨aC,e,m⟩:=iR e m;simp-implicitDefEqProofs[e];refine fO m λ_ m=>?_;have⟨aD,e,m⟩:=iR e m;simp-implicitDefEqProofs[e];refine Ie m (ih.1 (by simp-implicitDefEqProofs[e])) λ_ _ d158 m=>?_;exact aa
   have⟨aE,e,m⟩:=iR e m;simp-implicitDefEqProofs[e];refine oo m λ_ m=>?_;apply Ir e m<;>intro e m
   ·simp-implicitDefEqProofs[e];exact g _ _ ⟨_,_,_,_,_,_,_,_,_,_,_,_,.full,.full,by simp-implicitDefEqProofs[e],m⟩
   simp-implicitDefEqProofs[e];refine tw m λ_ _ m=>?_;refine Il e m λe m=>?_;simp-implicitDefEqProofs[e];refine oo m λ_ m=>?_;simp-implicitDefEqProofs[e];refine oo m λ_ m=>?_;simp-implicitDefEqProofs[e];refine oo m λ_ m=>?_;simp-implicitDefEqProofs[e];refine oo m λ_ m=>?_;simp-implicitDefEqProofs[e];exact g _ _ ⟨_,_,_,_,_,_,_,_,_,_,_,_,.gx,.gx,by simp-implicitDefEqProofs[e],m⟩
  apply wg 3;simp-implicitDefEqProofs[e];apply Iq e m<;>intro e m
  ·apply wg 999;simp-implicitDefEqProofs[e];refine fO m λ_ m=>?_;simp-implicitDefEqProofs[e];refine L4 m λ_ d171 m=>?_;simp-implicitDefEqProofs[e];refine fO m λ_ m=>?_;have⟨aF,e,m⟩:=iR e m;simp-implicitDefEqProofs[e];refine Ie m (ih.1 (by simp-implicitDefEqProofs[e])) λ_ _ d176 m=>?_;exact au
  apply wg 3;simp-implicitDefEqProofs[e];apply Iq e m<;>intro e m
  ·apply wg 999;have⟨aG,e,m⟩:=iR e m;simp-implicitDefEqProofs[e];refine L4 m λ_ d179 m=>?_;simp-implicitDefEqProofs[e];refine oo m λ_ m=>?_;simp-implicitDefEqProofs[e];refine tw m λ_ d182 m=>?_;simp-implicitDefEqProofs[e];refine oo m λ_ m=>?_;apply Ir e m<;>intro e m
   ·simp-implicitDefEqProofs[e];refine fO m λ_ m=>?_;have⟨aH,e,m⟩:=iR e m;simp-implicitDefEqProofs[e];refine fO m λ_ m=>?_;have⟨aI,e,m⟩:=iR e m;simp-implicitDefEqProofs[e];refine Ie m (ih.1 (by simp-implicitDefEqProofs[e])) λ_ _ d190 m=>?_;exact au
   simp-implicitDefEqProofs[e];refine Ie m (ih.1 (by simp-implicitDefEqProofs[e])) λ_ _ d193 m=>?_;refine Il e m λe m=>?_;simp-implicitDefEqProofs[e];refine tw m λ_ _ m=>?_;refine Il e m λe m=>?_;simp-implicitDefEqProofs[e];refine tw m λ_ d197 m=>?_;simp-implicitDefEqProofs[e];refine fO m λ_ m=>?_;have⟨aJ,e,m⟩:=iR e m;simp-implicitDefEqProofs[e];refine fO m λ_ m=>?_;simp-implicitDefEqProofs[e];refine fO m λ_ m=>?_;have⟨aK,e,m⟩:=iR e m;simp-implicitDefEqProofs[e];refine Ie m (ih.1 (by simp-implicitDefEqProofs[e])) λ_ _ d205 m=>?_;exact aa
  apply wg 1;simp-implicitDefEqProofs[e];refine wj 999 0 (λf h=>h=fo H c [sL Fm.av a0.lemmas,sL Tm.av a0.ea,sI a0.next]/\f.1 0=AV.eK c 0/\f.1 61=sI a2.an6/\f.1 567=sB (e_ (ee a2.an6 16) true (ee a2.an6 17))/\bx f 4 [sL Ty.av b.gK.an_,sL Fm.av b.gK.aob,sL Tm.av b.vars,sL Tm.av b.aob]/\bx f 5 (Pf.av a2).cells/\bx f 6 [sI 0,sI 0,sI 0,nL,nL]) (λ_ g=>?_) ?_
  ·rcases Pb (ee a2.an6 16) e with e|e
   ·exact aj
   exact aj
  rintro _ _ E;have e:=Aj e E;apply Iq e m<;>intro e m
  ·apply wg 999;have⟨aL,aM,aN,aO,d215,e,m⟩:=Bo5 e m;simp-implicitDefEqProofs[e];refine Cf (ih.2.2 (by simp-implicitDefEqProofs[e]) e.2) ?_;refine Il e m λe m=>?_;have⟨aP,e,m⟩:=iR e m;simp-implicitDefEqProofs[e];refine L4 m λ_ d218 m=>?_;exact aa
  apply wg 3;simp-implicitDefEqProofs[e];apply Iq e m<;>intro e m
  ·apply wg 999;have⟨aQ,e,m⟩:=iR e m;simp-implicitDefEqProofs[e];refine Ie m (ih.1 (by simp-implicitDefEqProofs[e])) λ_ _ d223 m=>?_;exact au
  apply wg 3;simp-implicitDefEqProofs[e];apply Ir e m<;>intro e m
  ·apply wg 999;have⟨aR,e,m⟩:=iR e m;simp-implicitDefEqProofs[e];refine Ie m (ih.1 (by simp-implicitDefEqProofs[e])) λ_ _ d227 m=>?_;exact au
  apply wg 6;have⟨aS,e,m⟩:=iR e m;simp-implicitDefEqProofs[e];refine Ie m (ih.1 (by simp-implicitDefEqProofs[e])) λY Z d231 m=>?_;simp-implicitDefEqProofs[e];refine L4 m λad d233 m=>?_;simp-implicitDefEqProofs[e];refine Wj m 999 999 (λF f h=>∃w,(h=fo H c [sL Fm.av d233.lemmas,sL Tm.av d233.ea,sI d233.next]/\f.1 0=AV.eK c 0/\f.1 52=sI Z/\f.1 638=sB w/\bx f 6 [sI 0,sI 0,sI 0,nL,nL]/\bx f 51 (Tm.av Y).cells/\bx f 53 (Fm.av ad).cells)/\F w=some (i,j,a)) (λF _ g m=>?_) ?_
  ·apply Iq e m<;>intro e m
   ·exact iC
   have⟨aT,e,m⟩:=iR e m;have⟨aU,e,m⟩:=iR e m;simp-implicitDefEqProofs[e];refine oo m λ_ m=>?_;exact iC
  rintro _ _ ⟨w,E,m⟩;have e:=Aj e E;refine Il e m λe m=>?_;simp-implicitDefEqProofs[e];refine tw m λ_ _ m=>?_;refine Il e m λe m=>?_;simp-implicitDefEqProofs[e];refine tw m λ_ d245 m=>?_;simp-implicitDefEqProofs[e];refine tw m λ_ d247 m=>?_;simp-implicitDefEqProofs[e];refine tw m λ_ d249 m=>?_;exact aa
 ·intro H a0 b a2 i j r2 r3 a c d hm;rw[nt] at hm;have o:=eJ d;refine fb.Gl d ?_;have e:=o;refine wi an' func157 [] [] 7 ?_;have⟨x2,e,m⟩:=iR e hm;simp-implicitDefEqProofs[e];refine tw m λae _ m=>?_;simp-implicitDefEqProofs[e];apply Iq e m<;>intro e m
  ·exact aa
  apply wg 7;have⟨aV,e,m⟩:=iR e m;simp-implicitDefEqProofs[e];refine Ie m (ih.1 (by simp-implicitDefEqProofs[e])) λaf _ d268 m=>?_;simp-implicitDefEqProofs[e];apply Iq e m<;>intro e m
  ·exact aa
  apply wg 9;simp-implicitDefEqProofs[e];refine tw m λah d270 m=>?_;simp-implicitDefEqProofs[e];refine tw m λ_ d272 m=>?_;simp-implicitDefEqProofs[e];refine tw m λ_ d274 m=>?_;simp-implicitDefEqProofs[e];refine fO m λ_ m=>?_;simp-implicitDefEqProofs[e];refine fO m λ_ m=>?_;have⟨aW,e,m⟩:=iR e m;simp-implicitDefEqProofs[e];refine Ie m (ih.1 (by simp-implicitDefEqProofs[e])) λ_ _ d280 m=>?_;simp-implicitDefEqProofs[e];apply Iq e m<;>intro e m
  ·exact aa
  apply wg 4;simp-implicitDefEqProofs[e];refine oo m λ_ m=>?_;simp-implicitDefEqProofs[e];refine yC m 999 999 (λG f h=>∃x y A B C,(h=fo H c [sL Fm.av d280.lemmas,sL Tm.av d280.ea,sI d280.next]/\f.1 13=sI ah/\bx f 6 [sI 0,nL]/\bx f 7 [sI 0,sI 0,sI 0,nL,nL]/\bx f 8 [sI 0,sI 0,sI 0,nL,nL]/\bx f 10 (Ty.av ae).cells/\bx f 12 (Tm.av af).cells/\bx f 16 [sI x,sI y,sI A,sL Ty.av B,sL Tm.av C])/\G x y A B C=some (i,j,r2,r3,a)) ?_ (λG _ g m=>?_)
  ·rintro _ _ ⟨x,y,A,B,C,E,m⟩;exact aa
  apply Ir e m<;>intro e m
  ·simp-implicitDefEqProofs[e];exact g _ _ ⟨_,_,_,_,_,by simp-implicitDefEqProofs[e],m⟩
  simp-implicitDefEqProofs[e];refine fO m λ_ m=>?_;simp-implicitDefEqProofs[e];refine fO m λ_ m=>?_;simp-implicitDefEqProofs[e];exact g _ _ ⟨_,_,_,_,_,by simp-implicitDefEqProofs[e],m⟩
def Cq(T:eA){H:dS}{a0:dW}{d:ej}{a2:Pf}{f:Tm}{h:Int}{a:dW}{b:Nat}(c:H[b]?=some [sL Fm.av a0.lemmas,sL Tm.av a0.ea,sI a0.next]){n:Nat}(hm:eR n a0 d a2=some (f,h,a)):et prog T 75 [AV.eK b 0,ej.av d,Pf.av a2] H (AV.tuple [Tm.av f,sI h]) (fo H b [sL Fm.av a.lemmas,sL Tm.av a.ea,sI a.next]):=(qd T n).1 c hm
@[instance] def Ta:=@Kc.mk prog 75 _ @Cq
def B6(T:eA){H:dS}{a0:dW}{d:ej}{a2:Pf}{f:Tm}{h:Int}{a:dW}{b:Nat}(c:H[b]?=some [sL Fm.av a0.lemmas,sL Tm.av a0.ea,sI a0.next]){n:Nat}(hm:p4 n a0 d a2=some (f,h,a)):et prog T 115 [AV.eK b 0,ej.av d,Pf.av a2] H (AV.tuple [Tm.av f,sI h]) (fo H b [sL Fm.av a.lemmas,sL Tm.av a.ea,sI a.next]):=(qd T n).2.1 c hm
@[instance] def Sy:=@Kc.mk prog 115 _ @B6
def yS(T:eA){H:dS}{a0:dW}{d:ej}{a2:Pf}{f:Ty}{h i:Tm}{j:Int}{a:dW}{b:Nat}(c:H[b]?=some [sL Fm.av a0.lemmas,sL Tm.av a0.ea,sI a0.next]){n:Nat}(hm:nt n a0 d a2=some (f,h,i,j,a)):et prog T 157 [AV.eK b 0,ej.av d,Pf.av a2] H (AV.tuple [Ty.av f,Tm.av h,Tm.av i,sI j]) (fo H b [sL Fm.av a.lemmas,sL Tm.av a.ea,sI a.next]):=(qd T n).2.2 c hm
@[instance] def NH:=@Kc.mk prog 157 _ @yS
end
def J4{n:Nat}:C2 prog 76 (wR n) Tm.av Tm.av (sL sI):=by
 refine i2 λn ih=>u2 5 func76 λT H a0 o r m e=>?_;rw[wR] at m;simp[e];apply Iq e m<;>intro e m
 ·apply wg 999;simp[e];refine Wn m 999 (λs1 f h=>h=H/\f.1 1=sL sI o/\f.1 5=sI s1/\bx f 2 (Tm.av a0).cells/\bx f 4 [sI 0,sI 0,sI 0,nL,nL]) VW (λs1 _ _ _ _ _ E m z p=>?_);have e:=Aj e E;apply Ir e m<;>intro e m
  ·cases m;have m:=Qb z
   try dsimp only at m
   exact au
  exact aa
 apply wg 6;simp[e];refine Wj m 999 999 (λk f h=>∃v11 a,(h=H/\f.1 7=sT a sI v11/\bx f 2 (Tm.av a0).cells/\bx f 4 [sI 0,sI 0,sI 0,nL,nL]/\bx f 6 [sI a0.an6,sI 0,sI a0.dL.an6,sL Ty.av a0.dL.an7,nL])/\k v11=some r) (λk _ g m=>?_) ?_
 ·apply Ir e m<;>intro e m
  ·simp[e];exact g _ _ ⟨_,.gx,VW,m⟩
  have⟨e,m⟩:=Ck e m;simp[e];refine Ad (f:=sI) [] o (gL.full (D:=[])) EB e.2 ?_;have⟨e,m⟩:=Ck e m;simp[e];refine Ad (f:=sI) (fT [] o) [a0.an9] (gL.new (D:=[43]) (d:=43) Df) EB e.2 ?_;simp[e];exact g _ _ ⟨_,(.loc 47 1),VW,m⟩
 rintro _ _ ⟨v11,a,E,m⟩;have e:=Aj e E;simp[e];refine Wn m 999 (λi f h=>∃b c,(h=H/\f.1 7=sT b sI v11/\f.1 8=sI i.1/\bx f 2 (Tm.av a0).cells/\bx f 4 [sI 0,sI 0,sI 0,nL,nL]/\bx f 6 [sI a0.an6,sI 0,sI a0.dL.an6,sL Ty.av a0.dL.an7,sT c Tm.av i.2])/\Ow f [65] c i.2) (by exact⟨a,.full,VW,gL.full⟩) (λi l _ _ _ _ E m z p=>?_);have⟨t,q⟩:=i;have⟨b,c,E,j⟩:=E;have e:=Aj e E;dsimp only[lk]at m;apply Ir e m<;>intro e m
 ·cases m;have m:=Qb z;dsimp only[lk]at m;exact au
 have⟨u,e,m⟩:=iR e m;simp[e];refine qP m ih λs m=>?_;have⟨e,m⟩:=Ck e m;simp[e];refine Ad (f:=Tm.av) q [s] j xS e.2 ?_;simp[e];cases m;exact p _ _ _ ⟨b,(.loc 65 (l.fa 65+1)),VW,(On 65)⟩ z
@[instance] def aaP:=@Kc.mk prog 76 _ @J4
def M'(T:eA){H:dS}{a0:List Fm}{c:List Tm}{a2:Sq}{a3:Pf}{a:Tm}{b:Int}(hm:CO a0 c a2 a3=some (a,b)):et prog T 23 [sL Fm.av a0,sL Tm.av c,Sq.av a2,Pf.av a3] H (AV.tuple [Tm.av a,sI b]) H:=by
 rw[CO] at hm;refine fb.rm (Post:=λx K=>x=AV.tuple [Tm.av a,sI b]/\∃X,K=H++X) ?_ (λ_ _ h=>⟨_,h.2.choose_spec,by rw[h.1];simp[AV.low,AV.ir],h.1,rfl⟩);have e:=trivial;refine wi an' func23 [42] [] 999 ?_;simp[e];refine tw hm λ_ _ m=>?_;refine Il e m λe m=>?_;simp[e];refine oo m λ_ m=>?_;refine Il e m λe m=>?_;simp[e];refine oo m λ_ m=>?_;refine Im e m λe m=>?_;simp[e];refine RC m λ_ _ d7 m=>?_;simp[e];refine RC m λ_ _ d10 m=>?_;exact aa
@[instance] def acG:=@Kc.mk prog 23 _ @M'
def KB{n:Nat}:C1 prog 162 (tI n) sB Vl.av:=by
 refine i1 λn ih=>u1 8 func162 λT H a0 r m e=>?_;rw[tI] at m;simp[e];apply Iq e m<;>intro e m
 ·apply wg 1;simp[e];refine wjs 999 999 (λf h=>h=H/\f.1 2=sB (e_ (qn a0.num 0) (e_ (ee (ey a0.list) 0) (ee (ey a0.an7) 0) false) false)) ?_ (λ_ g=>?_)
  ·rintro _ _ E;exact aa
  rcases Pb (qn a0.num 0) e with e|e;rotate_left
  ·exact aj
  rcases Pb (ee (ey a0.list) 0) e with e|e
  ·exact aj
  exact aj
 apply wg 3;simp[e];apply Iq e m<;>intro e m
 ·apply wg 999;simp[e];refine Re e m 0 (λb _ f h=>h=H/\f.1 27=sL sI a0.list/\f.1 28=sI (ey a0.list)/\f.1 29=sI b/\bx f 1 (Vl.av a0).cells) VW (λb _ _ _ _ _ _ _ E e m z p=>?_) (λ_ _ _ _ E m=>?_)
  ·exact aa
  have e:=Aj e E;apply wg 5;dsimp only[eo]at m;simp[e];refine wjs 999 999 (λf h=>h=H/\f.1 2=sB (e_ (ee a0.num 0) (ee (ey a0.an7) 0) false)) ?_ (λ_ g=>?_)
  ·rintro _ _ E;exact aa
  rcases Pb (ee a0.num 0) e with e|e
  ·exact aj
  exact aj
 apply wg 3;simp[e];apply Iq e m<;>intro e m
 ·apply wg 1;simp[e];refine wjs 999 999 (λf h=>h=H/\f.1 2=sB (e_ (ee a0.num 0) (e_ (ee (ey a0.list) 0) (ee (ey a0.an7) 0) false) false)) ?_ (λ_ g=>?_)
  ·rintro _ _ E;exact aa
  rcases Pb (ee a0.num 0) e with e|e;rotate_left
  ·exact aj
  rcases Pb (ee (ey a0.list) 0) e with e|e
  ·exact aj
  exact aj
 apply wg 3;simp[e];apply Ir e m<;>intro e m
 ·exact aa
 apply wg 1;simp[e];refine yC m 999 999 (λa f h=>∃v20,(h=H/\f.1 2=sB v20)/\a v20=some r) ?_ (λa _ g m=>?_)
 ·rintro _ _ ⟨v20,E,m⟩;exact aa
 apply Ir e m<;>intro e m
 ·exact iC
 apply Ir e m<;>intro e m
 ·exact iC
 apply Ir e m<;>intro e m
 ·exact iC
 have⟨c,e,m⟩:=iR e m;simp[e];refine zq m ih λ_ m=>?_;apply Ir e m<;>intro e m
 ·exact iC
 have⟨d,e,m⟩:=iR e m;simp[e];refine zq m ih λ_ m=>?_;exact iC
@[instance] def abb:=@Kc.mk prog 162 _ @KB
def JV{n:Nat}:C1 prog 163 (wv n) sI Vl.av:=by
 refine i1 λn ih=>v1 func163 λT H a0 r m e=>?_;rw[wv] at m;simp[e];refine Wr e m 999 (λa s2 f h=>h=H/\f.1 3=sI s2/\f.1 7=sL Vl.av a0.an7/\f.1 8=sI (ey a0.an7)/\f.1 9=sI a) VW (λs2 _ _ _ E m=>?_) (λa _ s2 _ _ _ _ _ E e m z p=>?_)
 ·exact aa
 exact aa
@[instance] def aaO:=@Kc.mk prog 163 _ @JV
def Kl:C1 prog 119 As sI Vl.av:=by
 refine v1 func119 λT H a0 r m e=>?_;rw[As] at m;exact aa
@[instance] def aav:=@Kc.mk prog 119 _ @Kl
def Km{n:Nat}:C1 prog 120 (th n) Ty.av Vl.av:=by
 refine i1 λn ih=>v1 func120 λT H a0 r m e=>?_;rw[th] at m;exact aa
@[instance] def abd:=@Kc.mk prog 120 _ @Km
def HD:C1 prog 78 x' (t2 Ty.av sI) Vl.av:=by
 refine v1 func78 λT H a0 r m e=>?_;rw[x'] at m;exact aa
@[instance] def Z0:=@Kc.mk prog 78 _ @HD
def Kr{n:Nat}:C1 prog 122 (pz n) sI Ty.av:=by
 refine i1 λn ih=>v1 func122 λT H a0 r m e=>?_;rw[pz] at m;exact aa
@[instance] def aac:=@Kc.mk prog 122 _ @Kr
def NW:C1 prog 80 CL (t2 sB sI) Ty.av:=by
 refine v1 func80 λT H a0 r m e=>?_;rw[CL] at m;exact aa
@[instance] def abI:=@Kc.mk prog 80 _ @NW
def sb(T:eA):∀(n:Nat),(∀{H:dS} {a0:eh} {F:Tm} {a2:List dG} {r0:dG} {w:eh} {t:Nat} (A:H[t]?=some [sI a0.used,sI a0.qD,sB a0.out]) (hm:kQ n a0 F a2=some (r0,w)),et prog T 81 [AV.eK t 0,Tm.av F,sL dG.av a2] H (dG.av r0) (fo H t [sI w.used,sI w.qD,sB w.out]))/\(∀{H:dS} {a0:eh} {F:dG} {a2:dG} {r0:dG} {w:eh} {t:Nat} (A:H[t]?=some [sI a0.used,sI a0.qD,sB a0.out]) (hm:hX n a0 F a2=some (r0,w)),et prog T 82 [AV.eK t 0,dG.av F,dG.av a2] H (dG.av r0) (fo H t [sI w.used,sI w.qD,sB w.out])):=by
  intro n
  induction n with
  |zero=>
    refine⟨?_,?_⟩
    all_goals(intro _ _;intros;rename_i hm;cases hm)
  |succ n ih=>
 refine⟨?_,?_⟩
 ·intro H a0 F a2 r0 w t A hm;rw[kQ] at hm;have ah:=eJ A;refine fb.Gl A ?_;have e:=ah;refine wi an' func81 [] [(1,true,[])] 3 ?_;simp[e];refine wj 999 999 (λf h=>h=fo H t [sI a0.used,sI a0.qD,sB a0.out]/\f.1 0=AV.eK t 0/\f.1 2=sL dG.av a2/\f.1 30=sB (e_ a0.out true (ee a0.used a0.qD))/\bx f 4 (Tm.av F).cells/\bx f 6 [sI 0,nL,nL,sI 0,sI 0,sI 0,nL,nL,nL]) (λ_ g=>?_) ?_
  ·rcases Pb a0.out e with e|e
   ·exact aj
   exact aj
  rintro _ _ E;have e:=Aj e E;refine Il e hm λe m=>?_;apply Iq e m<;>intro e m
  ·exact aa
  apply Iq e m<;>intro e m
  ·exact aa
  simp[e];refine Re e m 999 (λj6 s7 f h=>∃u,(h=fo H t [sI s7.2.used,sI s7.2.qD,sB s7.2.out]/\f.1 0=AV.eK t 0/\f.1 2=sL dG.av a2/\f.1 7=sT u dG.av s7.1/\f.1 64=sL Tm.av F.an7/\f.1 65=sI (ey F.an7)/\f.1 66=sI j6/\bx f 4 (Tm.av F).cells/\bx f 6 [sI 0,nL,nL,sI 0,sI 0,sI 0,nL,nL,nL])/\Ow f [76] u s7.1) (by exact⟨.full,VW,gL.full⟩) (λj6 _ s7 aH _ _ _ _ E e m z p=>?_) (λs7 aH _ _ E m=>?_)
  ·have⟨b,aV⟩:=s7;have⟨u,E,B⟩:=E;have e:=Aj e E;dsimp only[lk]at m;simp[e];refine zp m (ih.1 VW) λaW d18 m=>?_;have⟨e,m⟩:=Ck e m;simp[e];refine Ao (f:=dG.av) b [aW] B Zm e.2 ?_;refine Il e m λe m=>?_;simp[e];cases m;exact p _ _ _ ⟨(.loc 76 (aH.fa 76+1)),VW,(On 76)⟩ z
  have⟨b,aV⟩:=s7;have⟨u,E,B⟩:=E;have e:=Aj e E;dsimp only[eo,lk]at m;apply Iq e m<;>intro e m
  ·have⟨a8,e,m⟩:=iR e m;have⟨a_,e,m⟩:=iR e m;simp[e];refine o4 m (ih.2 VW) λ_ d22 m=>?_;exact au
  apply Iq e m<;>intro e m
  ·exact aa
  apply Iq e m<;>intro e m
  ·have⟨a',e,m⟩:=iR e m;simp[e];refine Wn m 1 (λc f h=>∃i,(h=fo H t [sI c.2.2.2.2.2.2.2.2.2.2.used,sI c.2.2.2.2.2.2.2.2.2.2.qD,sB c.2.2.2.2.2.2.2.2.2.2.out]/\f.1 0=AV.eK t 0/\f.1 7=sT i dG.av b/\f.1 11=sI c.1/\bx f 6 [sI 0,nL,nL,sI 0,sI 0,sI 0,nL,nL,nL]/\bx f 10 [sI c.2.1,sL sI c.2.2.1,sL dG.av c.2.2.2.1,sI c.2.2.2.2.1,sI c.2.2.2.2.2.1,sI c.2.2.2.2.2.2.1,sL Ty.av c.2.2.2.2.2.2.2.1,sL Tm.av c.2.2.2.2.2.2.2.2.1,sL dG.av c.2.2.2.2.2.2.2.2.2.1])/\Ow f [76] i b) (by exact⟨u,VW,B⟩) (λc _ _ _ _ aI E m z p=>?_);have⟨aJ,aK,aL,aM,aN,v37,aO,aP,v40,aQ,ad⟩:=c;have⟨i,E,G⟩:=E;have e:=Aj e E;dsimp only[Ho]at m;simp[e];refine Wj m 999 0 (λaR f h=>∃ai j,(h=fo H t [sI ad.used,sI ad.qD,sB ad.out]/\f.1 0=AV.eK t 0/\f.1 7=sT j dG.av b/\f.1 11=sI aJ/\f.1 120=sB ai/\bx f 6 [sI 0,nL,nL,sI 0,sI 0,sI 0,nL,nL,nL]/\bx f 10 [sI aK,sL sI aL,sL dG.av aM,sI aN,sI v37,sI aO,sL Ty.av aP,sL Tm.av v40,sL dG.av aQ])/\Ow f [76] j b/\aR ai=some aI) (λaR _ g m=>?_) ?_
   ·have⟨ba,e,m⟩:=iR e m;apply Ir e m<;>intro e m
    ·simp[e];exact g _ _ ⟨false,i,VW,G,m⟩
    simp[e];exact g _ _ ⟨(m6 ad.out),i,VW,G,m⟩
   rintro _ _ ⟨ai,j,E,I,m⟩;have e:=Aj e E;apply Ir e m<;>intro e m
   ·apply wg 999;cases m;have m:=Qb z;dsimp only[Ho]at m;exact au
   apply wg 2;simp[e];refine yC m 999 999 (λaS f h=>∃ak v51 an v53 ao aq ar aw ax v59 v,(h=fo H t [sI v59.used,sI v59.qD,sB v59.out]/\f.1 0=AV.eK t 0/\f.1 7=sT v dG.av b/\f.1 11=sI aJ/\bx f 6 [sI 0,nL,nL,sI 0,sI 0,sI 0,nL,nL,nL]/\bx f 10 [sI ak,sL sI v51,sL dG.av an,sI v53,sI ao,sI aq,sL Ty.av ar,sL Tm.av aw,sL dG.av ax])/\Ow f [76] v b/\aS ak v51 an v53 ao aq ar aw ax v59=some aI) ?_ (λaS _ g m=>?_)
   ·rintro _ _ ⟨ak,v51,an,v53,ao,aq,ar,aw,ax,v59,v,E,ay,m⟩;have e:=Aj e E;simp[e];cases m;exact p _ _ _ ⟨v,VW,ay⟩ z
   have⟨bb,e,m⟩:=iR e m;simp[e];refine zp m (ih.2 VW) λ_ d65 m=>?_;apply Iq e m<;>intro e m
   ·simp[e];exact g _ _ ⟨aK,aL,aM,aN,v37,aO,aP,v40,aQ,d65,j,VW,I,m⟩
   simp[e];refine zp m (ih.2 VW) λy d67 m=>?_;simp[e];exact g _ _ ⟨y.num,y.list,y.pair,y.body.an6,y.body.an9,y.body.dL.an6,y.body.dL.an7,y.body.an7,y.env,d67,j,VW,I,m⟩
  apply Iq e m<;>intro e m
  ·have⟨aX,e,m⟩:=iR e m;have⟨aY,e,m⟩:=iR e m;have⟨e,m⟩:=Ck e m;simp[e];refine Ad (f:=sI) [aX.num] aY.list (gL.full (D:=[])) EB e.2 ?_;exact au
  apply Ir e m<;>intro e m
  ·exact aa
  have⟨bc,e,m⟩:=iR e m;have⟨bd,e,m⟩:=iR e m;simp[e];refine Wn m 1 (λd f h=>∃k,(h=fo H t [sI d.2.2.2.2.2.2.2.2.2.2.used,sI d.2.2.2.2.2.2.2.2.2.2.qD,sB d.2.2.2.2.2.2.2.2.2.2.out]/\f.1 0=AV.eK t 0/\f.1 7=sT k dG.av b/\f.1 14=sI d.1/\bx f 6 [sI 0,nL,nL,sI 0,sI 0,sI 0,nL,nL,nL]/\bx f 13 [sI d.2.1,sL sI d.2.2.1,sL dG.av d.2.2.2.1,sI d.2.2.2.2.1,sI d.2.2.2.2.2.1,sI d.2.2.2.2.2.2.1,sL Ty.av d.2.2.2.2.2.2.2.1,sL Tm.av d.2.2.2.2.2.2.2.2.1,sL dG.av d.2.2.2.2.2.2.2.2.2.1])/\Ow f [76] k b) (by exact⟨u,VW,B⟩) (λd _ _ _ _ aT E m z p=>?_);have⟨J,az,v85,aA,v87,aB,aC,aD,v91,aE,v93⟩:=d;have⟨k,E,K⟩:=E;have e:=Aj e E;dsimp only[Ho]at m;simp[e];refine wj 999 0 (λf h=>∃l,(h=fo H t [sI v93.used,sI v93.qD,sB v93.out]/\f.1 0=AV.eK t 0/\f.1 7=sT l dG.av b/\f.1 14=sI J/\f.1 172=sB (e_ (qn J 0) (m6 v93.out) false)/\bx f 6 [sI 0,nL,nL,sI 0,sI 0,sI 0,nL,nL,nL]/\bx f 13 [sI az,sL sI v85,sL dG.av aA,sI v87,sI aB,sI aC,sL Ty.av aD,sL Tm.av v91,sL dG.av aE])/\Ow f [76] l b) (λ_ g=>?_) ?_
  ·rcases Pb (qn J 0) e with e|e
   ·simp[e];exact g _ _ ⟨k,VW,K⟩
   simp[e];exact g _ _ ⟨k,VW,K⟩
  rintro _ _ ⟨l,E,L⟩;have e:=Aj e E;apply Ir e m<;>intro e m
  ·apply wg 999;cases m;have m:=Qb z;dsimp only[Ho]at m;exact au
  apply wg 2;simp[e];refine yC m 3 999 (λaU f h=>∃aF aG M N O P Q v105 R v107 o,(h=fo H t [sI v107.used,sI v107.qD,sB v107.out]/\f.1 0=AV.eK t 0/\f.1 7=sT o dG.av b/\f.1 14=sI J/\bx f 6 [sI 0,nL,nL,sI 0,sI 0,sI 0,nL,nL,nL]/\bx f 13 [sI aF,sL sI aG,sL dG.av M,sI N,sI O,sI P,sL Ty.av Q,sL Tm.av v105,sL dG.av R])/\Ow f [76] o b/\aU aF aG M N O P Q v105 R v107=some aT) ?_ (λaU _ g m=>?_)
  ·rintro _ _ ⟨aF,aG,M,N,O,P,Q,v105,R,v107,o,E,ae,m⟩;have e:=Aj e E;simp[e];cases m;exact p _ _ _ ⟨o,VW,ae⟩ z
  have⟨aZ,e,m⟩:=iR e m;have⟨a6,e,m⟩:=iR e m;simp[e];refine o4 m (ih.2 VW) λq d114 m=>?_;simp[e];refine Wj m 999 999 (λaf f h=>∃S v117 U V W X Y Z v124 x a,(h=fo H t [sI x.used,sI x.qD,sB x.out]/\f.1 0=AV.eK t 0/\f.1 7=sT a dG.av b/\f.1 14=sI J/\bx f 6 [sI 0,nL,nL,sI 0,sI 0,sI 0,nL,nL,nL]/\bx f 13 [sI az,sL sI v85,sL dG.av aA,sI v87,sI aB,sI aC,sL Ty.av aD,sL Tm.av v91,sL dG.av aE]/\bx f 15 [sI S,sL sI v117,sL dG.av U,sI V,sI W,sI X,sL Ty.av Y,sL Tm.av Z,sL dG.av v124])/\Ow f [76] a b/\af S v117 U V W X Y Z v124 x=some aT) (λaf _ g m=>?_) ?_
  ·apply Iq e m<;>intro e m
   ·simp[e];exact g _ _ ⟨q.num,q.list,q.pair,q.body.an6,q.body.an9,q.body.dL.an6,q.body.dL.an7,q.body.an7,q.env,d114,l,VW,L,m⟩
   have⟨a7,e,m⟩:=iR e m;simp[e];refine o4 m (ih.2 VW) λr d130 m=>?_;simp[e];exact g _ _ ⟨r.num,r.list,r.pair,r.body.an6,r.body.an9,r.body.dL.an6,r.body.dL.an7,r.body.an7,r.env,d130,l,VW,L,m⟩
  rintro _ _ ⟨S,v117,U,V,W,X,Y,Z,v124,x,a,E,C,m⟩;have e:=Aj e E;apply Iq e m<;>intro e m
  ·simp[e];exact g _ _ ⟨az,v85,aA,v87,aB,aC,aD,v91,aE,x,a,VW,C,m⟩
  simp[e];refine zp m (ih.2 VW) λs d133 m=>?_;simp[e];exact g _ _ ⟨s.num,s.list,s.pair,s.body.an6,s.body.an9,s.body.dL.an6,s.body.dL.an7,s.body.an7,s.env,d133,a,VW,C,m⟩
 ·intro H a0 F a2 r0 w t A hm;rw[hX] at hm;have ah:=eJ A;refine fb.Gl A ?_;have e:=ah;refine wi an' func82 [] [] 999 ?_;have⟨e,m⟩:=Ck e hm;simp[e];refine Ad (f:=dG.av) F.env [a2] (gL.full (D:=[])) Zm e.2 ?_;simp[e];refine o4 m (ih.1 VW) λ_ d135 m=>?_;exact au
def AQ(T:eA){H:dS}{a0:eh}{d:Tm}{a2:List dG}{f:dG}{a:eh}{b:Nat}(c:H[b]?=some [sI a0.used,sI a0.qD,sB a0.out]){n:Nat}(hm:kQ n a0 d a2=some (f,a)):et prog T 81 [AV.eK b 0,Tm.av d,sL dG.av a2] H (dG.av f) (fo H b [sI a.used,sI a.qD,sB a.out]):=(sb T n).1 c hm
@[instance] def OB:=@Kc.mk prog 81 _ @AQ
def AD(T:eA){H:dS}{a0:eh}{d a2 f:dG}{a:eh}{b:Nat}(c:H[b]?=some [sI a0.used,sI a0.qD,sB a0.out]){n:Nat}(hm:hX n a0 d a2=some (f,a)):et prog T 82 [AV.eK b 0,dG.av d,dG.av a2] H (dG.av f) (fo H b [sI a.used,sI a.qD,sB a.out]):=(sb T n).2 c hm
@[instance] def Qf:=@Kc.mk prog 82 _ @AD
def R2{n:Nat}:C1 prog 83 (DV n) dG.av Vl.av:=by
 refine i1 λn ih=>v1 func83 λT H a0 r m e=>?_;rw[DV] at m;simp[e];refine Wr e m 999 (λi s2 f h=>∃a,(h=H/\f.1 12=sL Vl.av a0.an7/\f.1 13=sI (ey a0.an7)/\f.1 14=sI i/\bx f 2 [sI 0,nL,nL,sI 0,sI 0,sI 0,nL,nL,nL]/\bx f 3 [sI a0.num,sL sI a0.list,sT a dG.av s2,sI 0,sI 0,sI 0,nL,nL,nL])/\Ow f [23] a s2) (by exact⟨.full,VW,gL.full⟩) (λs2 c _ _ E m=>?_) (λi _ s2 c _ _ _ _ E e m z p=>?_)
 ·have⟨a,E,b⟩:=E;exact aa
 have⟨a,E,b⟩:=E;have e:=Aj e E;simp[e];refine qP m ih λd m=>?_;have⟨e,m⟩:=Ck e m;simp[e];refine Ad (f:=dG.av) s2 [d] b Zm e.2 ?_;simp[e];cases m;exact p _ _ _ ⟨(.loc 23 (c.fa 23+1)),VW,(On 23)⟩ z
@[instance] def agn:=@Kc.mk prog 83 _ @R2
def Kh{n:Nat}:C2 prog 84 (tK n) Vl.av dG.av Ty.av:=by
 refine i2 λn ih=>v2 func84 λT H a0 c r m e=>?_;rw[tK] at m;refine Il e m λe m=>?_;apply Iq e m<;>intro e m
 ·have⟨e,m⟩:=Ck e m;simp[e];refine Ao (f:=sI) [] a0.list (gL.full (D:=[])) EB e.2 ?_;exact au
 refine Im e m λe m=>?_;have⟨d,e,m⟩:=iR e m;have⟨h,e,m⟩:=iR e m;simp[e];refine qP m ih λa m=>?_;have⟨i,e,m⟩:=iR e m;have⟨j,e,m⟩:=iR e m;simp[e];refine qP m ih λb m=>?_;have e:=Aj e (show AV.agg [sI 3,sI 0,AV.slice .gx [],AV.slice .gx [Vl.av a,Vl.av b]]=Vl.av (Vl.mk 3 0 [] [a,b]) by rw[Vl.eQ];rfl);exact au
@[instance] def aag:=@Kc.mk prog 84 _ @Kh
def Nz(T:eA){H:dS}{a0:Tm}{b:List Vl}{a2:Int}{B:Vl}{C D:Int}(hm:C7 a0 b a2=some (B,C,D)):et prog T 24 [Tm.av a0,sL Vl.av b,sI a2] H (AV.tuple [Vl.av B,sI C,sI D]) H:=by
 rw[C7] at hm;refine fb.rm (Post:=λx K=>x=AV.tuple [Vl.av B,sI C,sI D]/\∃X,K=H++X) ?_ (λ_ _ h=>⟨_,h.2.choose_spec,by rw[h.1];simp[AV.low,AV.ir],h.1,rfl⟩);have e:=trivial;refine wi an' func24 [80] [(29,true,[])] 999 ?_;simp[e];refine tw hm λ_ _ m=>?_;refine Il e m λe m=>?_;simp[e];refine Re e m 0 (λF w f h=>h=H/\f.1 1=sL Vl.av b/\f.1 2=sI a2/\f.1 30=sL Vl.av b/\f.1 31=sI (ey b)/\f.1 32=sI F/\bx f 3 (Tm.av a0).cells/\bx f 6 [sI 0,sI 0,nL,nL]/\bx f 9 [sI w.1,sL Ty.av w.2]) VW (λF _ w _ _ _ _ R E e m z p=>?_) (λw _ _ _ E m=>?_)
 ·have⟨v12,c⟩:=w;have e:=Aj e E;dsimp only[lk]at m;apply wg 14;simp[e];refine tw m λ_ _ m=>?_;simp[e];apply Iq e m<;>intro e m
  ·exact aa
  apply wg 3;simp[e];refine yC m 999 999 (λy f h=>∃d,(h=H/\f.1 1=sL Vl.av b/\f.1 2=sI a2/\f.1 30=sL Vl.av b/\f.1 31=sI (ey b)/\f.1 32=sI F/\f.1 56=sB d/\bx f 3 (Tm.av a0).cells/\bx f 6 [sI 0,sI 0,nL,nL]/\bx f 9 [sI v12,sL Ty.av c])/\y d=some R) ?_ (λy _ g m=>?_)
  ·rintro _ _ ⟨d,E,m⟩;exact aa
  apply Iq e m<;>intro e m
  ·exact iC
  have⟨S,e,m⟩:=iR e m;simp[e];refine fO m λ_ m=>?_;exact iC
 have⟨v12,c⟩:=w;have e:=Aj e E;apply wg 10;dsimp only[eo,lk]at m;simp[e];refine tw m λ_ _ m=>?_;simp[e];apply Ir e m<;>intro e m
 ·exact aa
 apply wg 3;simp[e];refine wj 999 999 (λf h=>h=H/\f.1 1=sL Vl.av b/\f.1 2=sI a2/\f.1 76=sB (e_ (rA a2 0) true (oC a2 65536))/\bx f 3 (Tm.av a0).cells/\bx f 6 [sI 0,sI 0,nL,nL]/\bx f 9 [sI v12,sL Ty.av c]) (λ_ g=>?_) ?_
 ·rcases Pb (rA a2 0) e with e|e
  ·exact aj
  exact aj
 rintro _ _ E;have e:=Aj e E;refine Il e m λe m=>?_;simp[e];refine tw m λ_ d30 m=>?_;simp[e];refine Wr e m 0 (λi a f h=>h=H++[[sI a.2.2.2.2.2.2.2.2.2.1,sI a.2.2.2.2.2.2.2.2.2.2.1,sB a.2.2.2.2.2.2.2.2.2.2.2]]/\f.1 17=AV.eK (List.length H) 0/\f.1 84=sL Vl.av b/\f.1 85=sI (ey b)/\f.1 86=sI i/\bx f 6 [sI 0,sI 0,nL,nL]/\bx f 9 [sI v12,sL Ty.av c]/\bx f 18 [sI a.1,sL sI a.2.1,sL dG.av a.2.2.1,sI a.2.2.2.1,sI a.2.2.2.2.1,sI a.2.2.2.2.2.1,sL Ty.av a.2.2.2.2.2.2.1,sL Tm.av a.2.2.2.2.2.2.2.1,sL dG.av a.2.2.2.2.2.2.2.2.1]) VW (λa _ _ _ E m=>?_) (λi _ a _ _ _ _ G E e m z p=>?_)
 ·have⟨v40,I,J,L,M,N,v46,O,P,v49,Q,v51⟩:=a;have e:=Aj e E;apply wg 999;dsimp only[eo,UT]at m;exact aa
 have⟨v40,I,J,L,M,N,v46,O,P,v49,Q,v51⟩:=a;have e:=Aj e E;dsimp only[UT]at m;apply wg 5;simp[e];refine yC m 999 999 (λA f h=>∃j k l n o v59 q r s t u v,(h=H++[[sI t,sI u,sB v]]/\f.1 17=AV.eK (List.length H) 0/\f.1 84=sL Vl.av b/\f.1 85=sI (ey b)/\f.1 86=sI i/\bx f 6 [sI 0,sI 0,nL,nL]/\bx f 9 [sI v12,sL Ty.av c]/\bx f 18 [sI j,sL sI k,sL dG.av l,sI n,sI o,sI v59,sL Ty.av q,sL Tm.av r,sL dG.av s])/\A j k l n o v59 q r s t u v=some G) ?_ (λA _ g m=>?_)
 ·rintro _ _ ⟨j,k,l,n,o,v59,q,r,s,t,u,v,E,m⟩;exact aa
 apply Iq e m<;>intro e m
 ·simp[e];exact g _ _ ⟨_,_,_,_,_,_,_,_,_,_,_,_,VW,m⟩
 simp[e];refine fO m λ_ m=>?_;simp[e];refine L4 m λ_ d71 m=>?_;simp[e];exact g _ _ ⟨_,_,_,_,_,_,_,_,_,_,_,_,VW,m⟩
@[instance] def abX:=@Kc.mk prog 24 _ @Nz
def Kq(T:eA)(q:k5 T){H:dS}{o:Bool}(hm:tL=some o):et prog T 7 [] H (sB o) H:=by
 rw[tL] at hm;have e:=q;refine wi an' func7 [] [] 24 ?_;simp[e];refine fO hm λ_ m=>?_;simp[e];refine fO m λ_ m=>?_;simp[e];refine fO m λ_ m=>?_;simp[e];refine fO m λ_ m=>?_;simp[e];refine fO m λ_ m=>?_;simp[e];refine fO m λ_ m=>?_;simp[e];refine fO m λ_ m=>?_;simp[e];refine fO m λ_ m=>?_;simp[e];refine fO m λ_ m=>?_;simp[e];refine fO m λ_ m=>?_;simp[e];refine fO m λ_ m=>?_;simp[e];refine fO m λ_ m=>?_;simp[e];refine fO m λ_ m=>?_;simp[e];refine RC m λa _ b m=>?_;simp[e];refine RC m λ_ _ c m=>?_;simp[e];refine fO m λ_ m=>?_;simp[e];refine Ks3 m λ_ _ d m=>?_;simp[e];refine fO m λ_ m=>?_;simp[e];refine Ks3 m λ_ _ i m=>?_;simp[e];refine oo m λ_ m=>?_;simp[e];refine oo m λ_ m=>?_;simp[e];refine oo m λ_ m=>?_;simp[e];refine RC m λ_ _ j m=>?_;simp[e];refine tw m λ_ k m=>?_;simp[e];refine RC m λn _ l m=>?_;simp[e];refine wjs 999 999 (λf h=>h=H/\f.1 0=sB (e_ (ee b 0) (e_ (ee c 0) (e_ (ee d 0) (e_ (ee i 0) (e_ (ee j 0) (e_ (ee k 0) (e_ (ee l 0) (e_ (ee a.an6 4) (ee n.num 5) false) false) false) false) false) false) false) false)) ?_ (λ_ g=>?_)
 ·rintro _ _ E;exact aa
 rcases Pb (ee b 0) e with e|e;rotate_left
 ·exact aj
 rcases Pb (ee c 0) e with e|e;rotate_left
 ·exact aj
 rcases Pb (ee d 0) e with e|e;rotate_left
 ·exact aj
 rcases Pb (ee i 0) e with e|e;rotate_left
 ·exact aj
 rcases Pb (ee j 0) e with e|e;rotate_left
 ·exact aj
 rcases Pb (ee k 0) e with e|e;rotate_left
 ·exact aj
 rcases Pb (ee l 0) e with e|e;rotate_left
 ·exact aj
 rcases Pb (ee a.an6 4) e with e|e
 ·exact aj
 exact aj
@[instance] def Z_:=@Kc.mk prog 7 _ @Kq
def XC:C1 prog 8 H3 sB (sL sI):=by
 refine v1 func8 λT H a0 r m e=>?_;rw[H3] at m;exact au
@[instance] def aln:=@Kc.mk prog 8 _ @XC
def abD:kj prog 9=true:=by kernel_rfl
def Z8(T:eA){a0:List Int}{b:eu}(hm:Tq a0=some b):et prog T 9 [AV.slice .gx (List.map (λn=>AV.sc (Value.int .i64 n)) a0)] [] (AV.eK 0 0) (fo [[]] 0 [AV.slice .gx (List.map (λn=>AV.sc (Value.int .i64 n)) b.l),AV.sc (.int .i64 b.se)]):=by
 obtain rfl:=iq hm;refine fb.intro (fn:=f9) func9 rfl abD (B5 rfl) ?_;refine gd.tR λc a=>?_;refine gd.region [] Yx ?_;simp;refine a _ _ ?_;refine gd.tR λc a=>?_;refine gd.region [5] Yx ?_;simp;refine a _ _ ?_;refine gd.ret ?_;simp[vB,fo]
@[instance] def aj_:=@Kc.mk prog 9 _ @Z8
def Tn:C0 prog 27 oE Ty.av:=by
 refine v0 func27 λT H r m e=>?_;rw[oE] at m;exact aa
@[instance] def ags:=@Kc.mk prog 27 _ @Tn
def Vi:C2 prog 90 Dr (sL sI) (sL Ty.av) Ty.av:=by
 refine v2 func90 λT H a0 l r m e=>?_;rw[Dr] at m;simp[e];refine Wr e m 0 (λi s2 f h=>∃b,(h=H/\f.1 0=sL Ty.av a0/\f.1 5=sT b sI s2/\f.1 8=sI (ey a0)/\f.1 9=sI i/\bx f 3 (Ty.av l).cells)/\Ow f [25] b s2) (by exact⟨.full,VW,gL.full⟩) (λs2 j _ _ E m=>?_) (λi _ s2 j _ _ _ n E e m z p=>?_)
 ·have⟨b,E,c⟩:=E;exact aa
 have⟨b,E,c⟩:=E;have e:=Aj e E;apply wg 5;simp[e];refine yC m 999 999 (λk f h=>∃v11 a,(h=H/\f.1 0=sL Ty.av a0/\f.1 5=sT a sI v11/\f.1 8=sI (ey a0)/\f.1 9=sI i/\bx f 3 (Ty.av l).cells)/\Ow f [25] a v11/\k v11=some n) ?_ (λk _ g m=>?_)
 ·rintro _ _ ⟨v11,a,E,d,m⟩;have e:=Aj e E;simp[e];cases m;exact p _ _ _ ⟨a,VW,d⟩ z
 have⟨o,e,m⟩:=iR e m;simp[e];refine fO m λ_ m=>?_;apply Ir e m<;>intro e m
 ·simp[e];exact g _ _ ⟨s2,b,VW,c,m⟩
 have⟨e,m⟩:=Ck e m;simp[e];refine Ao (f:=sI) s2 [i] c EB e.2 ?_;simp[e];exact g _ _ ⟨(fT s2 [i]),(.loc 25 (j.fa 25+1)),VW,(On 25),m⟩
@[instance] def aiT:=@Kc.mk prog 90 _ @Vi
def XM:C2 prog 70 Jy sI sI sI:=by
 refine v2 func70 λT H a0 a r m e=>?_;rw[Jy] at m;have⟨e,m⟩:=Ck e m;have⟨e,m⟩:=Ck e m;exact au
@[instance] def ajy:=@Kc.mk prog 70 _ @XM
def JA(T:eA){H:dS}{a0:eu}{b j:Int}{a:eu}{c:Nat}(d:H[c]?=some [sL sI a0.l,sI a0.se])(hm:gN a0 b=some (j,a)):et prog T 22 [AV.eK c 0,sI b] H (sI j) (fo H c [sL sI a.l,sI a.se]):=by
 rw[gN] at hm;have i:=eJ d;refine fb.Gl d ?_;have e:=i;refine wi an' func22 [] [(1,true,[]),(3,true,[])] 3 ?_;simp[e];refine wj 999 999 (λf h=>h=fo H c [sL sI a0.l,sI a0.se]/\f.1 0=AV.eK c 0/\f.1 1=sI b/\f.1 19=sB (e_ (rA b 1) true (qn a0.se (ey a0.l)))) (λ_ g=>?_) ?_
 ·rcases Pb (rA b 1) e with e|e
  ·exact aj
  exact aj
 rintro _ _ E;have m:=hm;exact aa
@[instance] def XO:=@Kc.mk prog 22 _ @JA
def RR(T:eA):∀(n:Nat),(∀{H:dS} {a0:eu} {i:Int} {j:Ty} {a:eu} {b:Nat} (c:H[b]?=some [sL sI a0.l,sI a0.se]) (hm:nM n a0 i=some (j,a)),et prog T 91 [AV.eK b 0,sI i] H (Ty.av j) (fo H b [sL sI a.l,sI a.se])):=by
  intro n
  induction n with
  |zero=>
    skip
    all_goals(intro _ _;intros;rename_i hm;cases hm)
  |succ n ih=>
 intro H a0 i j a b c hm;rw[nM] at hm;have k:=eJ c;refine fb.Gl c ?_;have e:=k;refine wi an' func91 [] [] 2 ?_;simp[e];refine yC hm 3 999 (λo f h=>∃v2,(h=fo H b [sL sI v2.l,sI v2.se]/\f.1 4=AV.gX 4 (f.gen 4) 0/\f.box 4=some [sI 0,nL])/\o v2=some (j,a)) ?_ (λo _ g m=>?_)
 ·rintro _ _ ⟨v2,E,m⟩;exact aa
 simp[e];refine tw m λd d8 m=>?_;simp[e];refine wj 999 999 (λf h=>h=fo H b [sL sI d8.l,sI d8.se]/\f.1 0=AV.eK b 0/\f.1 1=sI i/\f.1 6=sI d/\f.1 7=sB (e_ (ee d 0) true (e_ (ee d 1) true (ee d 2)))/\bx f 4 [sI 0,nL]) (λ_ g=>?_) ?_
 ·rcases Pb (ee d 0) e with e|e
  ·exact aj
  rcases Pb (ee d 1) e with e|e
  ·exact aj
  exact aj
 rintro _ _ E;have e:=Aj e E;apply Iq e m<;>intro e m
 ·exact aa
 apply Iq e m<;>intro e m
 ·exact aa
 apply Iq e m<;>intro e m
 ·exact aa
 apply Iq e m<;>intro e m
 ·apply Ir e m<;>intro e m
  ·exact iC
  simp[e];refine zp m (ih VW) λ_ d16 m=>?_;simp[e];refine zp m (ih VW) λ_ d18 m=>?_;exact aa
 apply Ir e m<;>intro e m
 ·exact iC
 apply Ir e m<;>intro e m
 ·exact iC
 simp[e];refine zp m (ih VW) λ_ d21 m=>?_;simp[e];refine zp m (ih VW) λ_ d23 m=>?_;exact aa
def Wl(T:eA){H:dS}{a0:eu}{d:Int}{f:Ty}{a:eu}{b:Nat}(c:H[b]?=some [sL sI a0.l,sI a0.se]){n:Nat}(hm:nM n a0 d=some (f,a)):et prog T 91 [AV.eK b 0,sI d] H (Ty.av f) (fo H b [sL sI a.l,sI a.se]):=(RR T n) c hm
@[instance] def aiO:=@Kc.mk prog 91 _ @Wl
def QM:C2 prog 93 re (sL Ty.av) (sL Ty.av) (sL Ty.av):=by
 refine v2 func93 λT H a0 a r m e=>?_;rw[re] at m;have⟨e,m⟩:=Ck e m;simp[e];refine Ao (f:=Ty.av) [] a0 (gL.full (D:=[])) Fw e.2 ?_;have⟨e,m⟩:=Ck e m;simp[e];refine Ao (f:=Ty.av) (fT [] a0) a (gL.new (D:=[6]) (d:=6) Df) Fw e.2 ?_;exact au
@[instance] def ad6:=@Kc.mk prog 93 _ @QM
def ZP:C2 prog 59 vJ Tm.av Tm.av (sL Tm.av):=by
 refine v2 func59 λT H a0 c r m e=>?_;rw[vJ] at m;simp[e];refine Wr e m 999 (λd s2 f h=>h=H/\f.1 7=sL Tm.av c/\f.1 8=sI (ey c)/\f.1 9=sI d/\bx f 2 [sI s2.1,sI s2.2.1,sI s2.2.2.1,sL Ty.av s2.2.2.2.1,sL Tm.av s2.2.2.2.2]/\bx f 4 [sI 0,sI 0,sI 0,nL,nL]) VW (λs2 _ _ _ E m=>?_) (λd _ s2 _ _ _ _ _ E e m z p=>?_)
 ·have⟨v10,v11,v12,a,b⟩:=s2;have e:=Aj e E;dsimp only[eo,Cg]at m;exact au
 have⟨v10,v11,v12,a,b⟩:=s2;have e:=Aj e E;dsimp only[Cg]at m;exact aa
@[instance] def ajO:=@Kc.mk prog 59 _ @ZP
def MC:C0 prog 105 vt Tm.av:=by
 refine v0 func105 λT H r m e=>?_;rw[vt] at m;exact aa
@[instance] def acJ:=@Kc.mk prog 105 _ @MC
def P7:C0 prog 60 rq Tm.av:=by
 refine v0 func60 λT H r m e=>?_;rw[rq] at m;exact aa
@[instance] def aer:=@Kc.mk prog 60 _ @P7
def Ru(T:eA):∀(n:Nat),(∀{H:dS} {a0:eu} {i:List Ty} {a2:Ty} {a3:Int} {q:Tm} {a:eu} {b:Nat} (r:H[b]?=some [sL sI a0.l,sI a0.se]) (hm:gH n a0 i a2 a3=some (q,a)),et prog T 33 [AV.eK b 0,sL Ty.av i,Ty.av a2,sI a3] H (Tm.av q) (fo H b [sL sI a.l,sI a.se])):=by
  intro n
  induction n with
  |zero=>
    skip
    all_goals(intro _ _;intros;rename_i hm;cases hm)
  |succ n ih=>
 intro H a0 i a2 a3 q a b r hm;rw[gH] at hm;have x:=eJ r;refine fb.Gl r ?_;have e:=x;refine wi an' func33 [] [] 5 ?_;simp[e];refine oo hm λC m=>?_;simp[e];refine Wj m 999 0 (λy f h=>∃v3 v4,(h=fo H b [sL sI v4.l,sI v4.se]/\f.1 0=AV.eK b 0/\f.1 1=sL Ty.av i/\f.1 3=sI a3/\f.1 9=sL sI C/\f.1 27=sB v3/\bx f 6 (Ty.av a2).cells/\bx f 8 [sI 0,sI 0,sI 0,nL,nL])/\y v3 v4=some (q,a)) (λy _ g m=>?_) ?_
 ·apply Ir e m<;>intro e m
  ·exact ak2
  simp[e];refine tw m λ_ d8 m=>?_;exact ak2
 rintro _ _ ⟨v3,v4,E,m⟩;have e:=Aj e E;apply Iq e m<;>intro e m
 ·apply wg 999;simp[e];refine tw m λ_ d11 m=>?_;exact aa
 apply wg 2;simp[e];refine yC m 999 6 (λs f h=>∃j,(h=fo H b [sL sI j.l,sI j.se]/\f.1 0=AV.eK b 0/\f.1 1=sL Ty.av i/\f.1 3=sI a3/\bx f 6 (Ty.av a2).cells/\bx f 8 [sI 0,sI 0,sI 0,nL,nL])/\s j=some (q,a)) ?_ (λs _ g m=>?_)
 ·rintro _ _ ⟨j,E,m⟩;have e:=Aj e E;simp[e];apply Iq e m<;>intro e m
  ·apply wg 1;simp[e];refine yC m 999 999 (λt f h=>∃v20,(h=fo H b [sL sI v20.l,sI v20.se]/\f.1 0=AV.eK b 0/\f.1 8=AV.gX 8 (f.gen 8) 0/\f.box 8=some [sI 0,sI 0,sI 0,nL,nL])/\t v20=some (q,a)) ?_ (λt _ g m=>?_)
   ·rintro _ _ ⟨v20,E,m⟩;have e:=Aj e E;simp[e];refine tw m λ_ d25 m=>?_;exact aa
   apply Ir e m<;>intro e m
   ·exact iC
   simp[e];refine tw m λ_ d28 m=>?_;apply Iq e m<;>intro e m
   ·simp[e];refine zp m (ih VW) λ_ d30 m=>?_;exact aa
   apply Iq e m<;>intro e m
   ·simp[e];refine fO m λ_ m=>?_;simp[e];refine o4 m (ih VW) λ_ d34 m=>?_;simp[e];refine o4 m (ih VW) λ_ d36 m=>?_;exact aa
   apply Ir e m<;>intro e m
   ·exact iC
   simp[e];refine fO m λ_ m=>?_;simp[e];refine o4 m (ih VW) λ_ d40 m=>?_;simp[e];refine o4 m (ih VW) λ_ d42 m=>?_;exact aa
  apply wg 3;simp[e];apply Ir e m<;>intro e m
  ·apply wg 999;apply Iq e m<;>intro e m
   ·have⟨D,e,m⟩:=iR e m;simp[e];refine o4 m (ih VW) λ_ d46 m=>?_;have⟨F,e,m⟩:=iR e m;simp[e];refine o4 m (ih VW) λ_ d49 m=>?_;exact aa
   apply Ir e m<;>intro e m
   ·exact aa
   have⟨G,e,m⟩:=iR e m;simp[e];refine fO m λ_ m=>?_;have⟨I,e,m⟩:=iR e m;simp[e];refine o4 m (ih VW) λ_ d56 m=>?_;exact aa
  apply wg 2;simp[e];refine Wj m 999 999 (λu f h=>∃v59 k,(h=fo H b [sL sI k.l,sI k.se]/\f.1 0=AV.eK b 0/\f.1 1=sL Ty.av i/\f.1 3=sI a3/\f.1 276=sB v59/\bx f 6 (Ty.av a2).cells/\bx f 8 [sI 0,sI 0,sI 0,nL,nL])/\u v59 k=some (q,a)) (λu _ g m=>?_) ?_
  ·apply Ir e m<;>intro e m
   ·exact ak2
   simp[e];refine tw m λ_ d64 m=>?_;exact ak2
  rintro _ _ ⟨v59,k,E,m⟩;have e:=Aj e E;apply Ir e m<;>intro e m
  ·exact aa
  simp[e];refine fO m λ_ m=>?_;simp[e];refine o4 m (ih VW) λ_ d69 m=>?_;simp[e];refine o4 m (ih VW) λ_ d71 m=>?_;exact aa
 apply Ir e m<;>intro e m
 ·exact iC
 simp[e];refine tw m λ_ d74 m=>?_;apply Iq e m<;>intro e m
 ·simp[e];refine tw m λ_ d76 m=>?_;simp[e];refine fO m λ_ m=>?_;simp[e];refine o4 m (ih VW) λ_ d79 m=>?_;simp[e];refine fO m λ_ m=>?_;simp[e];refine o4 m (ih VW) λ_ d82 m=>?_;exact aa
 apply Iq e m<;>intro e m
 ·simp[e];refine tw m λ_ d85 m=>?_;simp[e];refine o4 m (ih VW) λ_ d87 m=>?_;simp[e];refine o4 m (ih VW) λ_ d89 m=>?_;exact aa
 apply Iq e m<;>intro e m
 ·simp[e];refine fO m λ_ m=>?_;simp[e];refine fO m λ_ m=>?_;simp[e];refine fO m λ_ m=>?_;simp[e];refine o4 m (ih VW) λ_ d96 m=>?_;simp[e];refine fO m λ_ m=>?_;simp[e];refine fO m λ_ m=>?_;simp[e];refine o4 m (ih VW) λ_ d100 m=>?_;simp[e];refine L4 m λ_ d102 m=>?_;exact aa
 apply Iq e m<;>intro e m
 ·simp[e];refine fO m λ_ m=>?_;simp[e];refine fO m λ_ m=>?_;simp[e];refine fO m λ_ m=>?_;simp[e];refine fO m λ_ m=>?_;simp[e];refine fO m λ_ m=>?_;simp[e];refine o4 m (ih VW) λ_ d111 m=>?_;simp[e];refine fO m λ_ m=>?_;simp[e];refine fO m λ_ m=>?_;simp[e];refine fO m λ_ m=>?_;simp[e];refine o4 m (ih VW) λ_ d116 m=>?_;simp[e];refine fO m λ_ m=>?_;simp[e];refine o4 m (ih VW) λ_ d119 m=>?_;exact aa
 apply Iq e m<;>intro e m
 ·simp[e];refine tw m λ_ d122 m=>?_;simp[e];refine o4 m (ih VW) λ_ d124 m=>?_;simp[e];refine o4 m (ih VW) λ_ d126 m=>?_;exact aa
 apply Ir e m<;>intro e m
 ·exact iC
 simp[e];refine Wr e m 0 (λc _ f h=>h=fo H b [sL sI d74.l,sI d74.se]/\f.1 0=AV.eK b 0/\f.1 1=sL Ty.av i/\f.1 3=sI a3/\f.1 176=sI (ey i)/\f.1 177=sI c/\bx f 6 (Ty.av a2).cells/\bx f 8 [sI 0,sI 0,sI 0,nL,nL]) VW (λ_ _ _ _ E m=>?_) (λc _ _ _ _ _ _ v E e m z p=>?_)
 ·have e:=Aj e E;apply wg 999;dsimp only[eo]at m;exact iC
 have e:=Aj e E;apply wg 11;have⟨w,e,m⟩:=iR e m;simp[e];refine Wj m 999 999 (λo f h=>∃d,(h=fo H b [sL sI d74.l,sI d74.se]/\f.1 0=AV.eK b 0/\f.1 1=sL Ty.av i/\f.1 3=sI a3/\f.1 15=sI c/\f.1 176=sI (ey i)/\f.1 177=sI c/\f.1 198=sB d/\bx f 6 (Ty.av a2).cells/\bx f 8 [sI 0,sI 0,sI 0,nL,nL]/\bx f 16 (Ty.av w).cells)/\o d=some v) (λo _ g m=>?_) ?_
 ·apply Ir e m<;>intro e m
  ·exact iC
  have⟨A,e,m⟩:=iR e m;simp[e];refine fO m λ_ m=>?_;exact iC
 rintro _ _ ⟨d,E,m⟩;have e:=Aj e E;apply Ir e m<;>intro e m
 ·exact al
 simp[e];refine fO m λ_ m=>?_;have⟨B,e,m⟩:=iR e m;simp[e];refine o4 m (ih VW) λ_ d149 m=>?_;exact aa
def Vp(T:eA){H:dS}{a0:eu}{d:List Ty}{a2:Ty}{a3:Int}{f:Tm}{a:eu}{b:Nat}(c:H[b]?=some [sL sI a0.l,sI a0.se]){n:Nat}(hm:gH n a0 d a2 a3=some (f,a)):et prog T 33 [AV.eK b 0,sL Ty.av d,Ty.av a2,sI a3] H (Tm.av f) (fo H b [sL sI a.l,sI a.se]):=(Ru T n) c hm
@[instance] def aiy:=@Kc.mk prog 33 _ @Vp
def Ov(T:eA){H:dS}{a0:eu}{f:Tm}{a:eu}{c:Nat}(b:H[c]?=some [sL sI a0.l,sI a0.se])(hm:uG a0=some (f,a)):et prog T 10 [AV.eK c 0] H (Tm.av f) (fo H c [sL sI a.l,sI a.se]):=by
 rw[uG] at hm;have d:=eJ b;refine fb.Gl b ?_;have e:=d;refine wi an' func10 [] [] 999 ?_;simp[e];refine oo hm λ_ m=>?_;simp[e];refine oo m λ_ m=>?_;simp[e];refine oo m λ_ m=>?_;simp[e];refine tw m λ_ d5 m=>?_;exact aa
@[instance] def ad9:=@Kc.mk prog 10 _ @Ov
def H5:C1 prog 13 hV sB sI:=by
 refine u1 2 func13 λT H a0 r m e=>?_;rw[hV] at m;simp[e];refine wjs 999 999 (λf h=>h=H/\f.1 2=sB (e_ (ee a0 4) true (e_ (ee a0 5) true (ee a0 3)))) ?_ (λ_ g=>?_)
 ·rintro _ _ E;exact aa
 rcases Pb (ee a0 4) e with e|e
 ·exact aj
 rcases Pb (ee a0 5) e with e|e
 ·exact aj
 exact aj
@[instance] def YH:=@Kc.mk prog 13 _ @H5
def Gi:C4 prog 52 nA sI (sL Fm.av) Sq.av Pf.av Fm.av:=by
 refine v4 func52 λT H a0 a a2 a3 r m e=>?_;rw[nA] at m;exact aa
@[instance] def WK:=@Kc.mk prog 52 _ @Gi
def Fv:C2 prog 14 jB sB Fm.av Pf.av:=by
 refine u2 4 func14 λT H a0 b r m e=>?_;rw[jB] at m;simp[e];refine oo m λ_ m=>?_;simp[e];refine yC m 999 999 (λa f h=>∃v3,(h=H/\f.1 4=sB v3)/\a v3=some r) ?_ (λa _ g m=>?_)
 ·rintro _ _ ⟨v3,E,m⟩;exact aa
 apply Iq e m<;>intro e m
 ·exact iC
 simp[e];refine oo m λ_ m=>?_;exact iC
@[instance] def U4:=@Kc.mk prog 14 _ @Fv
def JS(T:eA){H:dS}{a0:eu}{f:Tm}{a:eu}{c:Nat}(b:H[c]?=some [sL sI a0.l,sI a0.se])(hm:py a0=some (f,a)):et prog T 16 [AV.eK c 0] H (Tm.av f) (fo H c [sL sI a.l,sI a.se]):=by
 rw[py] at hm;have d:=eJ b;refine fb.Gl b ?_;have e:=d;refine wi an' func16 [] [] 999 ?_;simp[e];refine oo hm λ_ m=>?_;simp[e];refine tw m λ_ d3 m=>?_;exact au
@[instance] def abg:=@Kc.mk prog 16 _ @JS
def OM:C1 prog 58 uJ Tm.av Tm.av:=by
 refine v1 func58 λT H a0 r m e=>?_;rw[uJ] at m;exact aa
@[instance] def adQ:=@Kc.mk prog 58 _ @OM
def PL:C3 prog 106 xi Tm.av Tm.av Tm.av Tm.av:=by
 refine v3 func106 λT H a0 a a2 r m e=>?_;rw[xi] at m;exact aa
@[instance] def aeL:=@Kc.mk prog 106 _ @PL
def E8:C0 prog 61 o5 Tm.av:=by
 refine v0 func61 λT H r m e=>?_;rw[o5] at m;exact aa
@[instance] def VG:=@Kc.mk prog 61 _ @E8
def Mf(T:eA){H:dS}{a0:eu}{f:Tm}{a:eu}{c:Nat}(b:H[c]?=some [sL sI a0.l,sI a0.se])(hm:so a0=some (f,a)):et prog T 17 [AV.eK c 0] H (Tm.av f) (fo H c [sL sI a.l,sI a.se]):=by
 rw[so] at hm;have d:=eJ b;refine fb.Gl b ?_;have e:=d;refine wi an' func17 [] [] 999 ?_;simp[e];refine oo hm λ_ m=>?_;simp[e];refine tw m λ_ d3 m=>?_;apply Iq e m<;>intro e m
 ·exact aa
 apply Iq e m<;>intro e m
 ·exact aa
 apply Iq e m<;>intro e m
 ·simp[e];refine fO m λ_ m=>?_;simp[e];refine fO m λ_ m=>?_;simp[e];refine L4 m λ_ d17 m=>?_;exact aa
 apply Iq e m<;>intro e m
 ·exact aa
 apply Iq e m<;>intro e m
 ·simp[e];refine L4 m λ_ d28 m=>?_;exact aa
 exact aa
@[instance] def adp:=@Kc.mk prog 17 _ @Mf
def Fg(T:eA){H:dS}{a0:eu}{d:Tm}{a:eu}{c:Nat}(b:H[c]?=some [sL sI a0.l,sI a0.se])(hm:pk a0=some (d,a)):et prog T 19 [AV.eK c 0] H (Tm.av d) (fo H c [sL sI a.l,sI a.se]):=by
 rw[pk] at hm;have i:=eJ b;refine fb.Gl b ?_;have e:=i;refine wi an' func19 [] [] 6 ?_;simp[e];refine oo hm λo m=>?_;simp[e];refine oo m λ_ m=>?_;simp[e];refine oo m λ_ m=>?_;simp[e];refine yC m 999 999 (λn f h=>∃v5 v6 j k v9 v10,(h=fo H c [sL sI v10.l,sI v10.se]/\bx f 2 [sI 0,sI 0,sI 0,nL,nL]/\bx f 3 (Ty.av o).cells/\bx f 4 [sI v5,sI v6,sI j,sL Ty.av k,sL Tm.av v9])/\n v5 v6 j k v9 v10=some (d,a)) ?_ (λn _ g m=>?_)
 ·rintro _ _ ⟨v5,v6,j,k,v9,v10,E,m⟩;exact aa
 simp[e];refine tw m λ_ d19 m=>?_;apply Iq e m<;>intro e m
 ·simp[e];refine oo m λ_ m=>?_;simp[e];refine oo m λ_ m=>?_;simp[e];refine oo m λ_ m=>?_;simp[e];refine oo m λ_ m=>?_;simp[e];exact g _ _ ⟨_,_,_,_,_,_,VW,m⟩
 apply Iq e m<;>intro e m
 ·simp[e];refine oo m λ_ m=>?_;simp[e];refine oo m λ_ m=>?_;simp[e];refine oo m λ_ m=>?_;simp[e];refine oo m λ_ m=>?_;simp[e];exact g _ _ ⟨_,_,_,_,_,_,VW,m⟩
 apply Ir e m<;>intro e m
 ·simp[e];exact g _ _ ⟨_,_,_,_,_,_,VW,m⟩
 simp[e];refine fO m λ_ m=>?_;simp[e];refine L4 m λ_ d30 m=>?_;simp[e];exact g _ _ ⟨_,_,_,_,_,_,VW,m⟩
@[instance] def Wx:=@Kc.mk prog 19 _ @Fg
def yp(T:eA)(L:k5 T){a0:List Int}{a:Bool}(hm:ni a0=some a):fb prog T 3 [sL sI a0] [] (λx _=>x=sB a):=by
 rw[ni] at hm;have e:=L;refine wi an' func3 [] [] 3 ?_;simp[e];refine Wj hm 999 0 (λK f h=>∃v2,(h=([]:dS)/\f.1 0=sL sI a0/\f.1 21=sB v2)/\K v2=some a) (λK _ g m=>?_) ?_
 ·simp[e];refine oo m λ_ m=>?_;apply Ir e m<;>intro e m
  ·exact iC
  simp[e];refine oo m λ_ m=>?_;exact iC
 rintro _ _ ⟨v2,E,m⟩;have e:=Aj e E;apply Iq e m<;>intro e m
 ·exact aa
 apply wg 13;simp[e];refine oo m λ_ m=>?_;simp[e];refine tw m λ_ d11 m=>?_;simp[e];refine tw m λ_ d13 m=>?_;simp[e];refine RC m λo q b m=>?_;simp[e];refine RC m λr s c m=>?_;simp[e];refine RC m λt u v m=>?_;simp[e];refine wj 999 0 (λf h=>h=fo [[]] 0 [sL sI d13.l,sI d13.se]/\f.1 3=AV.eK 0 0/\f.1 8=sI b/\f.1 11=sI c/\f.1 14=sI v/\f.1 59=sB (e_ (eD b 0) true (e_ (eD c 0) true (eD v 0)))/\bx f 6 (Fm.av o).cells/\bx f 7 (Pf.av q).cells/\bx f 9 (Fm.av r).cells/\bx f 10 (Pf.av s).cells/\bx f 12 (Fm.av t).cells/\bx f 13 (Pf.av u).cells) (λ_ g=>?_) ?_
 ·rcases Pb (eD b 0) e with e|e
  ·exact aj
  rcases Pb (eD c 0) e with e|e
  ·exact aj
  exact aj
 rintro _ _ E;have e:=Aj e E;apply Iq e m<;>intro e m
 ·apply wg 1;simp[e];refine yC m 999 999 (λw f h=>∃d,(h=fo [[]] 0 [sL sI d13.l,sI d13.se]/\f.1 2=sB d)/\w d=some a) ?_ (λw _ g m=>?_)
  ·rintro _ _ ⟨d,E,m⟩;exact aa
  simp[e];refine oo m λ_ m=>?_;apply Iq e m<;>intro e m
  ·exact iC
  simp[e];refine oo m λ_ m=>?_;apply Iq e m<;>intro e m
  ·exact iC
  simp[e];refine oo m λ_ m=>?_;exact iC
 apply wg 3;simp[e];refine Wj m 999 0 (λy f h=>∃i,(h=fo [[]] 0 [sL sI d13.l,sI d13.se]/\f.1 3=AV.eK 0 0/\f.1 85=sB i/\bx f 6 (Fm.av o).cells/\bx f 7 (Pf.av q).cells/\bx f 9 (Fm.av r).cells/\bx f 10 (Pf.av s).cells/\bx f 12 (Fm.av t).cells/\bx f 13 (Pf.av u).cells)/\y i=some a) (λy _ g m=>?_) ?_
 ·simp[e];refine oo m λ_ m=>?_;apply Ir e m<;>intro e m
  ·exact iC
  simp[e];refine oo m λ_ m=>?_;apply Ir e m<;>intro e m
  ·exact iC
  simp[e];refine oo m λ_ m=>?_;exact iC
 rintro _ _ ⟨i,E,m⟩;have e:=Aj e E;apply Iq e m<;>intro e m
 ·exact aa
 apply wg 9;simp[e];refine tw m λ_ d43 m=>?_;simp[e];refine tw m λ_ d45 m=>?_;simp[e];refine RC m λD F j m=>?_;simp[e];refine tw m λ_ d50 m=>?_;simp[e];refine tw m λ_ d52 m=>?_;simp[e];refine RC m λG H k m=>?_;simp[e];refine tw m λ_ d57 m=>?_;simp[e];refine oo m λ_ m=>?_;simp[e];refine tw m λ_ d60 m=>?_;simp[e];refine tw m λ_ d62 m=>?_;simp[e];refine RC m λI J A m=>?_;simp[e];refine wj 999 0 (λf h=>h=fo [[]] 0 [sL sI d62.l,sI d62.se]/\f.1 8=sI j/\f.1 11=sI k/\f.1 14=sI A/\f.1 125=sB (e_ (eD j 0) true (e_ (eD k 0) true (eD A 0)))/\bx f 6 (Fm.av D).cells/\bx f 7 (Pf.av F).cells/\bx f 9 (Fm.av G).cells/\bx f 10 (Pf.av H).cells/\bx f 12 (Fm.av I).cells/\bx f 13 (Pf.av J).cells) (λ_ g=>?_) ?_
 ·rcases Pb (eD j 0) e with e|e
  ·exact aj
  rcases Pb (eD k 0) e with e|e
  ·exact aj
  exact aj
 rintro _ _ E;have e:=Aj e E;apply Iq e m<;>intro e m
 ·apply wg 1;simp[e];refine yC m 999 999 (λB f h=>∃v70,(h=fo [[]] 0 [sL sI d62.l,sI d62.se]/\f.1 2=sB v70)/\B v70=some a) ?_ (λB _ g m=>?_)
  ·rintro _ _ ⟨v70,E,m⟩;exact aa
  simp[e];refine oo m λ_ m=>?_;apply Iq e m<;>intro e m
  ·exact iC
  simp[e];refine oo m λ_ m=>?_;apply Iq e m<;>intro e m
  ·exact iC
  simp[e];refine oo m λ_ m=>?_;exact iC
 apply wg 2;simp[e];refine yC m 999 999 (λC f h=>∃n,(h=fo [[]] 0 [sL sI d62.l,sI d62.se]/\f.1 2=sB n)/\C n=some a) ?_ (λC _ g m=>?_)
 ·rintro _ _ ⟨n,E,m⟩;exact aa
 simp[e];refine oo m λ_ m=>?_;apply Ir e m<;>intro e m
 ·exact iC
 simp[e];refine oo m λ_ m=>?_;apply Ir e m<;>intro e m
 ·exact iC
 simp[e];refine oo m λ_ m=>?_;exact iC
def PV(T:eA):∀(n:Nat),(∀{H:dS} {a0:eu} {o:Ty} {q:Vl} {c:eu} {j:Nat} (d:H[j]?=some [sL sI a0.l,sI a0.se]) (hm:AB n a0 o=some (q,c)),et prog T 25 [AV.eK j 0,Ty.av o] H (Vl.av q) (fo H j [sL sI c.l,sI c.se])):=by
  intro n
  induction n with
  |zero=>
   skip
   all_goals(intro _ _;intros;rename_i hm;cases hm)
  |succ n ih=>
 intro H a0 o q c j d hm;rw[AB] at hm;have r:=eJ d;refine fb.Gl d ?_;have e:=r;refine wi an' func25 [] [] 999 ?_;apply Iq e hm<;>intro e m
 ·simp[e];refine tw m λ_ d2 m=>?_;exact au
 apply Ir e m<;>intro e m
 ·refine Im e m λe m=>?_;have⟨x,e,m⟩:=iR e m;simp[e];refine o4 m (ih VW) λu d5 m=>?_;have⟨y,e,m⟩:=iR e m;simp[e];refine o4 m (ih VW) λv d8 m=>?_;have e:=Aj e (show AV.agg [sI 3,sI 0,AV.slice .gx [],AV.slice .gx [Vl.av u,Vl.av v]]=Vl.av (Vl.mk 3 0 [] [u,v]) by rw[Vl.eQ];rfl);exact au
 simp[e];refine tw m λ_ d10 m=>?_;simp[e];refine Wn m 999 (λb f h=>∃a,(h=fo H j [sL sI b.2.2.l,sI b.2.2.se]/\f.1 0=AV.eK j 0/\f.1 6=sI b.1/\bx f 4 [sI 0,sI 0,nL,nL]/\bx f 5 [sI 2,sI 0,sT a sI b.2.1,nL])/\Ow f [28] a b.2.1) (by exact⟨.full,VW,gL.full⟩) (λb k _ _ _ _ E m z p=>?_);have⟨w,s,v20⟩:=b;have⟨a,E,i⟩:=E;have e:=Aj e E;dsimp only[Af]at m;apply Ir e m<;>intro e m
 ·cases m;have m:=Qb z;dsimp only[Af]at m;exact au
 simp[e];refine L4 m λt d22 m=>?_;have⟨e,m⟩:=Ck e m;simp[e];refine Ad (f:=sI) s [t] i EB e.2 ?_;simp[e];cases m;exact p _ _ _ ⟨(.loc 28 (k.fa 28+1)),VW,(On 28)⟩ z
def SL(T:eA){H:dS}{a0:eu}{d:Ty}{f:Vl}{a:eu}{b:Nat}(c:H[b]?=some [sL sI a0.l,sI a0.se]){n:Nat}(hm:AB n a0 d=some (f,a)):et prog T 25 [AV.eK b 0,Ty.av d] H (Vl.av f) (fo H b [sL sI a.l,sI a.se]):=(PV T n) c hm
@[instance] def af8:=@Kc.mk prog 25 _ @SL
def tB(T:eA){H:dS}{a0:Tm}{i a b:Int}{j:Tm}{q0 q1:Nat}(c:H[q0]?=some [sI a])(d:H[q1]?=some [sI b])(hm:mu a0 i a b=some j):et prog T 295 [Tm.av a0,sI i,AV.eK q0 0,AV.eK q1 0] H (Tm.av j) H:=by
 rw[mu] at hm;have f:=eJ c;have h:=eJ d;have e:=Aj (Aj (Aj f c) h) d;refine wi an' func295 [] [] 999 ?_;have m:=hm;exact aa
@[instance] def PH:=@Kc.mk prog 295 _ @tB
def qM(T:eA){H:dS}{a0:Fm}{a a2:Int}{b:Fm}(hm:iF a0 a a2=some b):et prog T 256 [Fm.av a0,sI a,sI a2] H (Fm.av b) H:=by
 rw[iF] at hm;refine fb.rm (Post:=λx K=>x=Fm.av b/\∃X,K=H++X) ?_ (λ_ _ h=>⟨_,h.2.choose_spec,by rw[h.1];simp[AV.low,AV.ir],h.1,rfl⟩);have e:=trivial;refine wi an' func256 [4,5] [] 999 ?_;simp[e];refine zp hm (kI T (st:=λ_:Unit=>H++[[sI a],[sI a2]]) (Db.const _) (λX _ _ _ _ _ h=>by obtain⟨c,rfl⟩:=uZ h;exact tB T (q0:=(List.length H)) (q1:=(List.length H+1)) VW VW c)) λ_ _ m=>?_;exact au
@[instance] def SM:=@Kc.mk prog 256 _ @qM
def C6:C2 prog 240 sP (t2 Fm.av sB) dP.av sI:=by
 refine v2 func240 λT H a0 a r m e=>?_;rw[sP] at m;exact aa
@[instance] def Se:=@Kc.mk prog 240 _ @C6
def Ae(T:eA){H:dS}{a0:List Fm}{b:Pf}{a2:dP}{c:dH}{d:Int}{f:Nat}(a:KC H f a0)(hm:va a0 b a2=some (c,d)):et prog T 174 [AV.eK f 0,Pf.av b,dP.av a2] H (AV.tuple [dH.av c,sI d]) H:=by
 rw[va] at hm;have e:=a;refine wi an' func174 [] [] 999 ?_;have m:=hm;exact aa
@[instance] def OC:=@Kc.mk prog 174 _ @Ae
def yq(T:eA){H:dS}{a0:List Fm}{b:Pf}{a2:dP}{c:dH}{d:Int}{f:Nat}(a:KC H f a0)(hm:ti a0 b a2=some (c,d)):et prog T 175 [AV.eK f 0,Pf.av b,dP.av a2] H (AV.tuple [dH.av c,sI d]) H:=by
 rw[ti] at hm;have e:=a;refine wi an' func175 [] [(1,true,[]),(3,true,[])] 999 ?_;have m:=hm;exact aa
@[instance] def NP:=@Kc.mk prog 175 _ @yq
def At:C2 prog 241 Bg Fm.av sI (sL Fm.av):=by
 refine v2 func241 λT H a0 a r m e=>?_;rw[Bg] at m;exact au
@[instance] def aeS:=@Kc.mk prog 241 _ @At
def zm(T:eA)(b:k5 T){H:dS}{a0:List Fm}{c:Pf}{a2:dP}{d:dH}{f:Int}{h:Nat}(a:KC H h a0)(hm:um a0 c a2=some (d,f)):et prog T 176 [AV.eK h 0,Pf.av c,dP.av a2] H (AV.tuple [dH.av d,sI f]) H:=by
 rw[um] at hm;have e:=Aj b a;refine wi an' func176 [] [] 999 ?_;have⟨i,e,m⟩:=iR e hm;simp[e];refine o4 m (hS T b a) λ_ _ m=>?_;refine sw [7,8,0] ?_;intro j e m;refine o4 m (hS T b a) λ_ _ m=>?_;refine sw [7,0] ?_;intro e m;refine qP m At λ_ m=>?_;exact au
@[instance] def Ok:=@Kc.mk prog 176 _ @zm
def il(T:eA)(b:k5 T){H:dS}{a0:List Fm}{c:Pf}{a2:dP}{a3:Int}{d:dH}{h:Int}{i:Nat}(a:KC H i a0)(hm:ia a0 c a2 a3=some (d,h)):et prog T 242 [AV.eK i 0,Pf.av c,dP.av a2,sI a3] H (AV.tuple [dH.av d,sI h]) H:=by
 rw[ia] at hm;have e:=Aj b a;refine wi an' func242 [] [] 5 ?_;simp[e];refine zp hm (hS T b a) λk j m=>?_;simp[e];refine wB 999 999 [11] [8,10] (λf=>f.1 27=sB (e_ (ee j 0) (eD k.dT.an6 a3) false)) λ_ g=>?_;rcases Pb (ee j 0) e with e|e
 ·exact aj
 exact aj
@[instance] def Lj:=@Kc.mk prog 242 _ @il
def zM(T:eA)(c:k5 T){H:dS}{a0:List Fm}{b:Pf}{a2:dP}{d:dH}{h:Int}{i:Nat}(a:KC H i a0)(hm:uX a0 b a2=some (d,h)):et prog T 177 [AV.eK i 0,Pf.av b,dP.av a2] H (AV.tuple [dH.av d,sI h]) H:=by
 rw[uX] at hm;have e:=Aj c a;refine wi an' func177 [] [] 7 ?_;have⟨j,e,m⟩:=iR e hm;simp[e];refine o4 m (il T c a) λk _ m=>?_;refine sw [0,13] ?_;intro e m;apply wg 4;simp[e];refine wB 999 999 [] [6,8] (λf=>f.1 10=sI (e_ (ee b.an6 5) 1 0)) λ_ g=>?_;rcases Pb (ee b.an6 5) e with e|e
 ·exact aj
 exact aj
@[instance] def P0:=@Kc.mk prog 177 _ @zM
def zo(T:eA)(b:k5 T){H:dS}{a0:List Fm}{c:Pf}{a2:dP}{d:dH}{f:Int}{h:Nat}(a:KC H h a0)(hm:uh a0 c a2=some (d,f)):et prog T 178 [AV.eK h 0,Pf.av c,dP.av a2] H (AV.tuple [dH.av d,sI f]) H:=by
 rw[uh] at hm;have e:=Aj b a;refine wi an' func178 [] [] 999 ?_;have⟨i,e,m⟩:=iR e hm;simp[e];refine zq m iH λ_ m=>?_;refine sw [7,0] ?_;intro e m;refine zq m pM λ_ m=>?_;refine sw [7,8,0] ?_;intro j e m;refine qP m qi λ_ m=>?_;simp[e];refine o4 m (hS T b a) λ_ _ m=>?_;refine sw [7,0] ?_;intro e m;refine qP m At λ_ m=>?_;exact au
@[instance] def Oa:=@Kc.mk prog 178 _ @zo
def zi(T:eA)(b:k5 T){H:dS}{a0:List Fm}{c:Pf}{a2:dP}{d:dH}{f:Int}{h:Nat}(a:KC H h a0)(hm:ui a0 c a2=some (d,f)):et prog T 179 [AV.eK h 0,Pf.av c,dP.av a2] H (AV.tuple [dH.av d,sI f]) H:=by
 rw[ui] at hm;have e:=Aj b a;refine wi an' func179 [] [] 999 ?_;have⟨i,e,m⟩:=iR e hm;simp[e];refine o4 m (il T b a) λ_ _ m=>?_;refine sw [7,8,0] ?_;intro j e m;refine o4 m (hS T b a) λ_ _ m=>?_;refine sw [7,8,0] ?_;intro k e m;refine qP m (yZ T b) λ_ m=>?_;refine sw [7,8] ?_;intro l e m;exact au
@[instance] def Ob:=@Kc.mk prog 179 _ @zi
def zg(T:eA)(c:k5 T){H:dS}{a0:List Fm}{a:Pf}{a2:dP}{h:dH}{i:Int}{d:Nat}(b:KC H d a0)(hm:uo a0 a a2=some (h,i)):et prog T 181 [AV.eK d 0,Pf.av a,dP.av a2] H (AV.tuple [dH.av h,sI i]) H:=by
 rw[uo] at hm;have e:=Aj c b;refine wi an' func181 [] [] 9 ?_;have m:=hm;refine sw [8,0,2,0,13] ?_;intro l n _ e m;refine sg 4 [0,1,0] ?_;intro j e m;refine wA 999 999 [] [4,5,6,8,9] (λf=>f.1 0=AV.eK d 0/\f.1 11=sI (e_ (ee a.an6 13) 6 4)/\f.1 12=AV.sc (.int .u32 (e_ (ee a.an6 13) 0 j))) [8,0] (λ_ g=>?_) ?_
 ·rcases Pb (ee a.an6 13) e with e|e
  ·exact aj
  exact aj
 intro _ o e m;refine o4 m (il T c b) λ_ _ m=>?_;refine sw [7,0] ?_;intro e m;refine zq m nJ λ_ m=>?_;refine sw [12,8,0] ?_;intro k e m;refine o4 m (uw T c) λ_ _ m=>?_;exact au
@[instance] def Og:=@Kc.mk prog 181 _ @zg
def vx(T:eA){H:dS}{a0:Tm}{f a:Int}{h:Tm}{b:Int}{q0:Nat}(c:H[q0]?=some [sI a])(hm:sK a0 f a=some (h,b)):et prog T 293 [Tm.av a0,sI f,AV.eK q0 0] H (Tm.av h) (fo H q0 [sI b]):=by
 rw[sK] at hm;have d:=eJ c;refine fb.Gl c ?_;have e:=d;refine wi an' func293 [] [] 999 ?_;have m:=hm;exact aa
@[instance] def RY:=@Kc.mk prog 293 _ @vx
def ED(T:eA){H:dS}{a0 a:Fm}{b:Int}(hm:vn a0=some (a,b)):et prog T 252 [Fm.av a0] H (AV.tuple [Fm.av a,sI b]) H:=by
 rw[vn] at hm;refine fb.rm (Post:=λx K=>x=AV.tuple [Fm.av a,sI b]/\∃X,K=H++X) ?_ (λ_ _ h=>⟨_,h.2.choose_spec,by rw[h.1];simp[AV.low,AV.ir],h.1,rfl⟩);have e:=trivial;refine wi an' func252 [4] [(6,true,[])] 999 ?_;simp[e];refine zq hm (qh T) λ_ m=>?_;apply Iq e m<;>intro e m
 ·simp[e];refine zq m (r7 T) λ_ m=>?_;exact au
 simp[e];refine zp m (kI T (st:=λs:Int=>H++[[sI s]]) (Db.Xt H (λs:Int=>[[sI s]]) 1 (λ_=>rfl) (by simp[AV.low,AV.ir])) (λX s _ _ _ c h=>by have:=vx T (H:=H++[[sI s]]++X) (q0:=(List.length H)) VW h;simpa using this)) λ_ _ m=>?_;refine sw [7,0] ?_;intro e m;refine zq m (qh T) λ_ m=>?_;refine sw [7,0] ?_;intro e m;refine zq m (r7 T) λ_ m=>?_;exact au
@[instance] def VA:=@Kc.mk prog 252 _ @ED
def Aq(T:eA)(c:k5 T){H:dS}{a0:List Fm}{b:Pf}{a2:dP}{i:dH}{j:Int}{d:Nat}(a:KC H d a0)(hm:vp a0 b a2=some (i,j)):et prog T 183 [AV.eK d 0,Pf.av b,dP.av a2] H (AV.tuple [dH.av i,sI j]) H:=by
 rw[vp] at hm;have e:=Aj c a;refine wi an' func183 [] [] 6 ?_;simp[e];refine wA 999 5 [8] [4,5,6] (λf=>f.1 0=AV.eK d 0/\f.1 9=sI (e_ (ee b.an6 15) 7 5)) [8,0] (λ_ g=>?_) ?_
 ·rcases Pb (ee b.an6 15) e with e|e
  ·exact aj
  exact aj
 intro _ n e m;refine o4 m (il T c a) λo _ m=>?_;refine sw [0,13] ?_;intro e m;refine sg 7 [0,1,0,13] ?_;intro _ e m;refine sg 7 [8,0,4,8,0,4,0] ?_;intro q _ k _ e m;refine o4 m (hS T c a) λh _ m=>?_;refine sw [0,13] ?_;intro e m;refine sg 7 [0,2,0,13] ?_;intro l _ e m;apply wg 3;simp[e];refine wA 999 999 [] [6,10,13,14] (λf=>f.1 82=sB (e_ (ee b.an6 15) (eD (tF .u32 h.iu 1) 0) false)) [] (λ_ g=>?_) ?_
 ·rcases Pb (ee b.an6 15) e with e|e
  ·exact aj
  exact aj
 intro _ e m;exact aa
@[instance] def Q8:=@Kc.mk prog 183 _ @Aq
def tD:C1 prog 253 qN dV.av sI:=by
 refine v1 func253 λT H a0 r m e=>?_;rw[qN] at m;apply Iq e m<;>intro e m
 ·refine sw [0,1,0,1,0,1,0,1] ?_;intro b f _ c e m;have e:=Aj e (show AV.agg [sI 1,sI b.an6,sI b.an9,sI b.dL.an6,sL Ty.av b.dL.an7,sL Tm.av b.an7,AV.slice .gx [Ty.av f],sI c.an6,sI c.an9,sI c.dL.an6,sL Ty.av c.dL.an7,sL Tm.av c.an7]=dV.av (dV.mk 1 b [f] c) by rw[dV.eQ];rfl);exact au
 refine sw [0,1,0,1,0,1,0,1,0,1,0,1] ?_;intro d h i _ _ a e m;have e:=Aj e (show AV.agg [sI 2,sI d.an6,sI d.an9,sI d.dL.an6,sL Ty.av d.dL.an7,sL Tm.av d.an7,AV.slice .gx [Ty.av h,Ty.av i],sI a.an6,sI a.an9,sI a.dL.an6,sL Ty.av a.dL.an7,sL Tm.av a.an7]=dV.av (dV.mk 2 d [h,i] a) by rw[dV.eQ];rfl);exact au
@[instance] def OO:=@Kc.mk prog 253 _ @tD
def Ah(T:eA)(b:k5 T){H:dS}{a0:List Fm}{c:Pf}{a2:dP}{d:dH}{f:Int}{h:Nat}(a:KC H h a0)(hm:vE a0 c a2=some (d,f)):et prog T 184 [AV.eK h 0,Pf.av c,dP.av a2] H (AV.tuple [dH.av d,sI f]) H:=by
 rw[vE] at hm;have e:=Aj b a;refine wi an' func184 [] [] 999 ?_;have m:=hm;refine sw [8,8,0] ?_;intro j k e m;refine qP m tD λ_ m=>?_;simp[e];refine qP m oP λ_ m=>?_;simp[e];refine qP m iH λ_ m=>?_;refine sw [7,0] ?_;intro e m;refine zq m tE λ_ m=>?_;refine sw [7,8,0] ?_;intro l e m;refine o4 m (k1 T b a) λ_ _ m=>?_;refine sw [7,0] ?_;intro e m;refine zq m pM λ_ m=>?_;refine sw [7,0] ?_;intro e m;refine qP m tk λ_ m=>?_;simp[e];refine qP m (qM T) λ_ m=>?_;simp[e];refine qP m qi λ_ m=>?_;refine sw [8,0] ?_;intro i e m;refine qP m (qM T) λ_ m=>?_;simp[e];refine o4 m (k1 T b a) λ_ _ m=>?_;refine sw [7,0] ?_;intro e m;refine zp m (uw T b) λ_ _ m=>?_;simp[e];refine qP m (w6 T) λ_ m=>?_;simp[e];refine qP m rH λ_ m=>?_;exact au
@[instance] def QH:=@Kc.mk prog 184 _ @Ah
def yT(T:eA)(b:k5 T){H:dS}{a0:List Fm}{c:Pf}{a2:dP}{d:dH}{f:Int}{h:Nat}(a:KC H h a0)(hm:tv a0 c a2=some (d,f)):et prog T 186 [AV.eK h 0,Pf.av c,dP.av a2] H (AV.tuple [dH.av d,sI f]) H:=by
 rw[tv] at hm;have e:=Aj b a;refine wi an' func186 [] [] 999 ?_;have⟨j,e,m⟩:=iR e hm;simp[e];refine qP m HR λ_ m=>?_;simp[e];refine qP m oP λ_ m=>?_;simp[e];refine qP m iH λ_ m=>?_;refine sw [7,8,0] ?_;intro k e m;refine o4 m (il T b a) λ_ _ m=>?_;refine sw [7,8,8,0] ?_;intro l n e m;refine o4 m (k1 T b a) λ_ _ m=>?_;refine sw [7,8,0] ?_;intro i e m;refine o4 m (uw T b) λ_ _ m=>?_;exact au
@[instance] def MM:=@Kc.mk prog 186 _ @yT
def xc(T:eA)(c:k5 T){H:dS}{a0:List Fm}{d:Pf}{a2:dP}{h:dH}{i:Int}{j:Nat}(a:KC H j a0)(hm:sj a0 d a2=some (h,i)):et prog T 187 [AV.eK j 0,Pf.av d,dP.av a2] H (AV.tuple [dH.av h,sI i]) H:=by
 rw[sj] at hm;have e:=Aj c a;refine wi an' func187 [] [] 7 ?_;have⟨n,e,m⟩:=iR e hm;simp[e];refine o4 m (il T c a) λo _ m=>?_;refine sw [0,13] ?_;intro e m;refine sg 9 [8,0,13] ?_;intro q e m;refine sg 7 [0,1,8,0,1,0,1,0,1,0,1,0,2,0] ?_;intro r s _ _ _ _ k _ e m;refine WA m 999 999 [] [6,8,10,12,13] (λb f=>f.1 63=sB b) [] (λl _ g m=>?_) ?_
 ·apply Iq e m<;>intro e m
  ·exact iC
  refine sw [0,1] ?_;intro _ e m;exact iC
 intro _ b e m;exact aa
@[instance] def Lk:=@Kc.mk prog 187 _ @xc
def BK(T:eA){H:dS}{a0 f:Int}{a b:Bool}{q0:Nat}(c:H[q0]?=some [sB a])(hm:Ar a0 f a=some b):et prog T 320 [sI a0,sI f,AV.eK q0 0] H (AV.tuple []) (fo H q0 [sB b]):=by
 rw[Ar] at hm;have d:=eJ c;refine fb.Gl c ?_;have e:=d;refine wi an' func320 [] [] 999 ?_;have m:=hm;exact aa
@[instance] def aaK:=@Kc.mk prog 320 _ @BK
def QQ(T:eA){H:dS}{a0:Tm}{a:Bool}(hm:Lv a0=some a):et prog T 299 [Tm.av a0] H (sB a) H:=by
 rw[Lv] at hm;refine fb.rm (Post:=λx K=>x=sB a/\∃X,K=H++X) ?_ (λ_ _ h=>⟨_,h.2.choose_spec,by rw[h.1];simp[AV.low,AV.ir],h.1,rfl⟩);have e:=trivial;refine wi an' func299 [3] [] 999 ?_;simp[e];refine zq hm (wH T (st:=λs:Bool=>H++[[sB s]]) (Db.Xt H (λs:Bool=>[[sB s]]) 1 (λ_=>rfl) (by simp[AV.low,AV.ir])) (λX s _ _ b h=>by have:=BK T (H:=H++[[sB s]]++X) (q0:=(List.length H)) VW h;simpa using this)) λ_ m=>?_;exact au
@[instance] def aei:=@Kc.mk prog 299 _ @QQ
def J8(T:eA){H:dS}{a0 j:Int}{a2:Ty}{a3:(List (Option Nat))}{nh:List HC}{F:Option Nat}{r:List HC}(hm:mc a0 j a2 a3 nh=some (F,r)):et prog T 321 [sI a0,sI j,Ty.av a2,sL (o3 (List.length H)) a3] (H++iN (List.length H) nh) (o3 (List.length H) F) (H++iN (List.length H) r):=by
 rw[mc] at hm;have e:=trivial;refine wi an' func321 [17] [(5,false,[true,true,true,false,true,true,true,false,true,true,true,false]),(6,false,[true,true,true,true,false,true,true,true,false,true,true,true,false])] 999 ?_;have G:iN (List.length H) nh++[[sI a0,sI j,sI a2.an6,sL Ty.av a2.an7,sL (o3 (List.length H)) a3,sI 1,sI 0,sB false]]=iN (List.length H) (nh++[HC.eZ (eS.mk a0 j a2 a3 1 0 false)]):=Wt rfl;have e:=Aj e G;have I:(nh++[HC.eZ (eS.mk a0 j a2 a3 1 0 false)])[(List.length nh)]?=some (HC.eZ (eS.mk a0 j a2 a3 1 0 false)):=acs;have e:=Aj e I;simp[e];refine Re e hm 0 (λJ i f h=>h=H++iN (List.length H) i/\f.1 0=sI a0/\f.1 1=sI j/\f.1 9=AV.eK (List.length H+(List.length nh)) 0/\f.1 18=sL (o3 (List.length H)) a3/\f.1 19=sI (ey a3)/\f.1 20=sI J) VW (λJ _ i _ _ _ _ _ E e m z p=>?_) (λi _ _ _ E m=>?_)
 ·have e:=Aj e E;have K:=e;refine sg 999 [8] ?_;intro a e m;have l:=HC.dZ e.2;have e:=Aj e.1 l;refine sw [8,8] ?_;intro L d e m;have t:=HC.dZ e.2;have e:=Aj e.1 t;have u:fo (iN (List.length H) i) (List.length nh) [sI a.an6,sI a.an9,sI a.rf.an6,sL Ty.av a.rf.an7,sL (o3 (List.length H)) a.an7,sI (eL .i64 a.size d.size),sI a.free,sB a.normal]=iN (List.length H) (n5 i (List.length nh) (HC.eZ (eS.mk a.an6 a.an9 a.rf a.an7 (eL .i64 a.size d.size) a.free a.normal))):=pG rfl;have e:=Aj e u;have n:(n5 i (List.length nh) (HC.eZ (eS.mk a.an6 a.an9 a.rf a.an7 (eL .i64 a.size d.size) a.free a.normal)))[(List.length nh)]?=some (HC.eZ (eS.mk a.an6 a.an9 a.rf a.an7 (eL .i64 a.size d.size) a.free a.normal)):=wQ l;have e:=Aj e n;have⟨k,e,m⟩:=iR e m;have v:=HC.dZ e.2;have e:=Aj e.1 v;have w:fo (iN (List.length H) (n5 i (List.length nh) (HC.eZ (eS.mk a.an6 a.an9 a.rf a.an7 (eL .i64 a.size d.size) a.free a.normal)))) (List.length nh) [sI a.an6,sI a.an9,sI a.rf.an6,sL Ty.av a.rf.an7,sL (o3 (List.length H)) a.an7,sI (eL .i64 a.size d.size),sI (imax a.free k.free),sB a.normal]=iN (List.length H) (n5 (n5 i (List.length nh) (HC.eZ (eS.mk a.an6 a.an9 a.rf a.an7 (eL .i64 a.size d.size) a.free a.normal))) (List.length nh) (HC.eZ (eS.mk a.an6 a.an9 a.rf a.an7 (eL .i64 a.size d.size) (imax a.free k.free) a.normal))):=pG rfl;have e:=Aj e w;have x:(n5 (n5 i (List.length nh) (HC.eZ (eS.mk a.an6 a.an9 a.rf a.an7 (eL .i64 a.size d.size) a.free a.normal))) (List.length nh) (HC.eZ (eS.mk a.an6 a.an9 a.rf a.an7 (eL .i64 a.size d.size) (imax a.free k.free) a.normal)))[(List.length nh)]?=some (HC.eZ (eS.mk a.an6 a.an9 a.rf a.an7 (eL .i64 a.size d.size) (imax a.free k.free) a.normal)):=wQ n;have e:=Aj e x;exact al
 have e:=Aj e E;refine sg 5 [11,0] ?_;intro e m;refine yC m 999 999 (λy f h=>∃s,(h=H++iN (List.length H) s/\f.1 9=AV.eK (List.length H+(List.length nh)) 0)/\y s=some (F,r)) ?_ (λy _ g m=>?_)
 ·rintro _ _ ⟨s,E,m⟩;exact aa
 apply Iq e m<;>intro e m
 ·have⟨c,e,m⟩:=iR e m;have o:=HC.dZ e.2;have e:=Aj e.1 o;have A:fo (iN (List.length H) i) (List.length nh) [sI c.an6,sI c.an9,sI c.rf.an6,sL Ty.av c.rf.an7,sL (o3 (List.length H)) c.an7,sI c.size,sI (eL .i64 j 1),sB c.normal]=iN (List.length H) (n5 i (List.length nh) (HC.eZ (eS.mk c.an6 c.an9 c.rf c.an7 c.size (eL .i64 j 1) c.normal))):=pG rfl;have e:=Aj e A;have B:(n5 i (List.length nh) (HC.eZ (eS.mk c.an6 c.an9 c.rf c.an7 c.size (eL .i64 j 1) c.normal)))[(List.length nh)]?=some (HC.eZ (eS.mk c.an6 c.an9 c.rf c.an7 c.size (eL .i64 j 1) c.normal)):=wQ o;have e:=Aj e B;exact iC
 apply Ir e m<;>intro e m
 ·exact iC
 have⟨b,e,m⟩:=iR e m;have q:=HC.dZ e.2;have e:=Aj e.1 q;have C:fo (iN (List.length H) i) (List.length nh) [sI b.an6,sI b.an9,sI b.rf.an6,sL Ty.av b.rf.an7,sL (o3 (List.length H)) b.an7,sI b.size,sI (imax 0 (fH .i64 b.free 1)),sB b.normal]=iN (List.length H) (n5 i (List.length nh) (HC.eZ (eS.mk b.an6 b.an9 b.rf b.an7 b.size (imax 0 (fH .i64 b.free 1)) b.normal))):=pG rfl;have e:=Aj e C;have D:(n5 i (List.length nh) (HC.eZ (eS.mk b.an6 b.an9 b.rf b.an7 b.size (imax 0 (fH .i64 b.free 1)) b.normal)))[(List.length nh)]?=some (HC.eZ (eS.mk b.an6 b.an9 b.rf b.an7 b.size (imax 0 (fH .i64 b.free 1)) b.normal)):=wQ q;have e:=Aj e D;exact iC
@[instance] def abf:=@Kc.mk prog 321 _ @J8
def Kv(T:eA):∀(n:Nat),(∀{H:dS} {a0:Tm} {nh:List HC} {i:Option Nat} {c:List HC} (hm:yO n a0 nh=some (i,c)),et prog T 300 [Tm.av a0] (H++iN (List.length H) nh) (o3 (List.length H) i) (H++iN (List.length H) c)):=by
  intro n
  induction n with
  |zero=>
   skip
   all_goals(intro _ _;intros;rename_i hm;cases hm)
  |succ n ih=>
 intro H a0 nh i c hm;rw[yO] at hm;have e:=trivial;refine wi an' func300 [] [] 999 ?_;simp[e];refine Wr e hm 999 (λk s2 f h=>∃a,(h=H++iN (List.length H) s2.2/\f.1 3=sT a (o3 (List.length H)) s2.1/\f.1 7=sL Tm.av a0.an7/\f.1 8=sI (ey a0.an7)/\f.1 9=sI k/\bx f 1 (Tm.av a0).cells)/\Ow f [17] a s2.1) (by exact⟨.full,VW,gL.full⟩) (λs2 d _ _ E m=>?_) (λk _ s2 d _ _ _ _ E e m z p=>?_)
 ·have⟨v11,v12⟩:=s2;have⟨a,E,b⟩:=E;have e:=Aj e E;dsimp only[eo,lk]at m;refine sw [0,2] ?_;intro _ l e m;exact au
 have⟨v11,v12⟩:=s2;have⟨a,E,b⟩:=E;have e:=Aj e E;have o:=e;dsimp only[lk]at m;simp[e];refine zp m (ih (H:=H)) λj q m=>?_;refine sw [9,0] ?_;intro e m;refine Ao (f:=(o3 (List.length H))) v11 [j] b Uj e.2 ?_;simp[e];cases m;exact p _ _ _ ⟨(.loc 17 (d.fa 17+1)),VW,(On 17)⟩ z
def Mt(T:eA){H:dS}{a0:Tm}{nh:List HC}{b:Option Nat}{a:List HC}{n:Nat}(hm:yO n a0 nh=some (b,a)):et prog T 300 [Tm.av a0] (H++iN (List.length H) nh) (o3 (List.length H) b) (H++iN (List.length H) a):=(Kv T n) hm
@[instance] def ade:=@Kc.mk prog 300 _ @Mt
def D0(T:eA){H:dS}{a0:Option Nat}{nh:List HC}{b:Int}(hm:tX a0 nh=some b):et prog T 323 [o3 (List.length H) a0] (H++iN (List.length H) nh) (sI b) (H++iN (List.length H) nh):=by
 rw[tX] at hm;have e:=trivial;refine wi an' func323 [] [] 999 ?_;have m:=hm;refine sw [8,8] ?_;intro c d e m;have a:=HC.dZ e.2;have e:=Aj e.1 a;exact au
@[instance] def TJ:=@Kc.mk prog 323 _ @D0
def vU(T:eA){H:dS}{a0:Option Nat}{nh:List HC}{k:Bool}(hm:pT a0 nh=some k):et prog T 324 [o3 (List.length H) a0] (H++iN (List.length H) nh) (sB k) (H++iN (List.length H) nh):=by
 rw[pT] at hm;have e:=trivial;refine wi an' func324 [] [] 8 ?_;have m:=hm;refine sw [8,8] ?_;intro x d e m;have h:=HC.dZ e.2;have e:=Aj e.1 h;simp[e];apply Iq e m<;>intro e m
 ·refine sg 999 [8,8,8] ?_;intro y A B e m;have i:=HC.dZ e.2;have e:=Aj e.1 i;exact au
 apply wg 3;simp[e];apply Iq e m<;>intro e m
 ·apply wg 1;simp[e];refine WB m 999 999 [] [] (λv9 f=>f.1 2=sB v9) λC _ g m=>?_;refine sw [8,8,8] ?_;intro l n o e m;have a:=HC.dZ e.2;have e:=Aj e.1 a;apply Iq e m<;>intro e m
  ·exact iC
  exact iC
 apply wg 4;apply Iq e m<;>intro e m
 ·simp[e];refine WB m 999 999 [] [] (λj f=>f.1 2=sB j) λq _ g m=>?_;refine sw [8,8,8] ?_;intro r s t e m;have b:=HC.dZ e.2;have e:=Aj e.1 b;apply Iq e m<;>intro e m
  ·exact iC
  exact iC
 simp[e];refine wA 999 999 [0] [] (λf=>f.1 67=sB (e_ (ee d.an6 11) true (ee d.an6 12))) [12,8,8,8] (λ_ g=>?_) ?_
 ·rcases Pb (ee d.an6 11) e with e|e
  ·exact aj
  exact aj
 intro _ u v w e m;have c:=HC.dZ e.2;have e:=Aj e.1 c;exact au
@[instance] def SS:=@Kc.mk prog 324 _ @vU
def Cc(T:eA){H:dS}{a0:Option Nat}{nh:List HC}{b:Int}(hm:nY a0 nh=some b):et prog T 350 [o3 (List.length H) a0] (H++iN (List.length H) nh) (sI b) (H++iN (List.length H) nh):=by
 rw[nY] at hm;have e:=trivial;refine wi an' func350 [] [] 999 ?_;have m:=hm;refine sw [8,8] ?_;intro c d e m;have a:=HC.dZ e.2;have e:=Aj e.1 a;exact aa
@[instance] def SH:=@Kc.mk prog 350 _ @Cc
def BB(T:eA):∀(n:Nat),(∀{H:dS} {a0:Option Nat} {a:Int} {nh:List HC} {b:Int} (hm:nO n a0 a nh=some b),et prog T 344 [o3 (List.length H) a0,sI a] (H++iN (List.length H) nh) (sI b) (H++iN (List.length H) nh)):=by
  intro n
  induction n with
  |zero=>
   skip
   all_goals(intro _ _;intros;rename_i hm;cases hm)
  |succ n ih=>
 intro H a0 a nh b hm;rw[nO] at hm;have e:=trivial;refine wi an' func344 [] [] 999 ?_;have m:=hm;refine sw [8,8] ?_;intro i j e m;have c:=HC.dZ e.2;have e:=Aj e.1 c;refine sw [7,13,0] ?_;intro e m;refine Wd e m 999 30 [0,1,28,29] [] (λd f=>f.1 5=sI d) λk _ d _ _ _ _ _ E e m z p=>?_;simp[e]at E;have e:=Aj e E;have h:=e;exact aa
def CC(T:eA){H:dS}{a0:Option Nat}{a:Int}{nh:List HC}{b:Int}{n:Nat}(hm:nO n a0 a nh=some b):et prog T 344 [o3 (List.length H) a0,sI a] (H++iN (List.length H) nh) (sI b) (H++iN (List.length H) nh):=(BB T n) hm
@[instance] def SF:=@Kc.mk prog 344 _ @CC
def wD(T:eA){H:dS}{a0:Option Nat}{c:(List (Option Nat))}{nh:List HC}{d:Option Nat}{a:List HC}(hm:ky a0 c nh=some (d,a)):et prog T 340 [o3 (List.length H) a0,sL (o3 (List.length H)) c] (H++iN (List.length H) nh) (o3 (List.length H) d) (H++iN (List.length H) a):=by
 rw[ky] at hm;have e:=trivial;refine wi an' func340 [] [(1,false,[true,true,true,false,true,true,true,false,true,true,true,false,true,true,true])] 999 ?_;have m:=hm;refine sw [8,8] ?_;intro h i e m;have b:=HC.dZ e.2;have e:=Aj e.1 b;refine sw [0,5] ?_;intro _ f e m;exact au
@[instance] def TW:=@Kc.mk prog 340 _ @wD
def CP(T:eA):∀(n:Nat),(∀{H:dS} {a0:Option Nat} {o:Int} {a2:Int} {nh:List HC} {q:Option Nat} {i:List HC} (hm:lL n a0 o a2 nh=some (q,i)),et prog T 351 [o3 (List.length H) a0,sI o,sI a2] (H++iN (List.length H) nh) (o3 (List.length H) q) (H++iN (List.length H) i)):=by
  intro n
  induction n with
  |zero=>
    skip
    all_goals(intro _ _;intros;rename_i hm;cases hm)
  |succ n ih=>
 intro H a0 o a2 nh q i hm;rw[lL] at hm;have e:=trivial;refine wi an' func351 [] [(4,false,[true,true,true,false,true,true,true,false,true,true,true,true,true,false,true,true])] 3 ?_;simp[e];refine WA hm 999 999 [1,2] [] (λv2 f=>f.1 0=o3 (List.length H) a0/\f.1 19=sB v2) [7,8,8] (λA _ g m=>?_) ?_
 ·refine sw [8,8] ?_;intro B C e m;have r:=HC.dZ e.2;have e:=Aj e.1 r;apply Iq e m<;>intro e m
  ·exact iC
  exact iC
 intro _ v2 y j e m;have k:=HC.dZ e.2;have e:=Aj e.1 k;apply Iq e m<;>intro e m
 ·refine sw [0,5] ?_;intro _ u e m;exact au
 simp[e];refine Wr e m 999 (λl b f h=>∃a,(h=H++iN (List.length H) b.2/\f.1 0=o3 (List.length H) a0/\f.1 1=sI o/\f.1 2=sI a2/\f.1 7=sT a (o3 (List.length H)) b.1/\f.1 44=sL (o3 (List.length H)) j.an7/\f.1 45=sI (ey j.an7)/\f.1 46=sI l)/\Ow f [59] a b.1) (by exact⟨.full,VW,gL.full⟩) (λb d _ _ E m=>?_) (λl _ b d _ _ _ _ E e m z p=>?_)
 ·have⟨v24,s⟩:=b;have⟨a,E,c⟩:=E;have e:=Aj e E;dsimp only[eo,lk]at m;refine sw [0,2] ?_;intro _ v e m;exact au
 have⟨v24,s⟩:=b;have⟨a,E,c⟩:=E;have e:=Aj e E;have w:=e;dsimp only[lk]at m;refine sw [0,1,0] ?_;intro _ e m;refine zp m (ih (H:=H)) λt x m=>?_;refine sw [9,0] ?_;intro e m;refine Ao (f:=(o3 (List.length H))) v24 [t] c Uj e.2 ?_;simp[e];cases m;exact p _ _ _ ⟨(.loc 59 (d.fa 59+1)),VW,(On 59)⟩ z
def Eo(T:eA){H:dS}{a0:Option Nat}{b a2:Int}{nh:List HC}{c:Option Nat}{a:List HC}{n:Nat}(hm:lL n a0 b a2 nh=some (c,a)):et prog T 351 [o3 (List.length H) a0,sI b,sI a2] (H++iN (List.length H) nh) (o3 (List.length H) c) (H++iN (List.length H) a):=(CP T n) hm
@[instance] def TS:=@Kc.mk prog 351 _ @Eo
def Dg(T:eA):∀(n:Nat),(∀{H:dS} {a0:Option Nat} {k:Int} {a2:Option Nat} {nh:List HC} {l:Option Nat} {d:List HC} (hm:my n a0 k a2 nh=some (l,d)),et prog T 345 [o3 (List.length H) a0,sI k,o3 (List.length H) a2] (H++iN (List.length H) nh) (o3 (List.length H) l) (H++iN (List.length H) d)):=by
  intro n
  induction n with
  |zero=>
    skip
    all_goals(intro _ _;intros;rename_i hm;cases hm)
  |succ n ih=>
 intro H a0 k a2 nh l d hm;rw[my] at hm;have e:=trivial;refine wi an' func345 [] [(6,false,[true,true,true,false,true,true,true,false,true,true,true,true,false,true,true])] 999 ?_;have m:=hm;refine sw [8,8] ?_;intro A s e m;have o:=HC.dZ e.2;have e:=Aj e.1 o;refine Il e m λe m=>?_;apply Iq e m<;>intro e m
 ·apply Ir e m<;>intro e m
  ·refine sw [0,5] ?_;intro _ x e m;exact au
  refine sw [0,2] ?_;intro _ y e m;exact au
 simp[e];refine Wr e m 999 (λt i f h=>∃a,(h=H++iN (List.length H) i.2/\f.1 0=o3 (List.length H) a0/\f.1 1=sI k/\f.1 2=o3 (List.length H) a2/\f.1 7=sT a (o3 (List.length H)) i.1/\f.1 48=sL (o3 (List.length H)) s.an7/\f.1 49=sI (ey s.an7)/\f.1 50=sI t)/\Ow f [63] a i.1) (by exact⟨.full,VW,gL.full⟩) (λi c _ _ E m=>?_) (λt _ i c _ _ _ _ E e m z p=>?_)
 ·have⟨j,q⟩:=i;have⟨a,E,b⟩:=E;have e:=Aj e E;dsimp only[eo,lk]at m;refine sw [0,2] ?_;intro _ u e m;exact au
 have⟨j,q⟩:=i;have⟨a,E,b⟩:=E;have e:=Aj e E;have v:=e;dsimp only[lk]at m;refine sw [0,1,0] ?_;intro _ e m;refine zp m (ih (H:=H)) λr w m=>?_;refine sw [9,0] ?_;intro e m;refine Ao (f:=(o3 (List.length H))) j [r] b Uj e.2 ?_;simp[e];cases m;exact p _ _ _ ⟨(.loc 63 (c.fa 63+1)),VW,(On 63)⟩ z
def E9(T:eA){H:dS}{a0:Option Nat}{b:Int}{a2:Option Nat}{nh:List HC}{c:Option Nat}{a:List HC}{n:Nat}(hm:my n a0 b a2 nh=some (c,a)):et prog T 345 [o3 (List.length H) a0,sI b,o3 (List.length H) a2] (H++iN (List.length H) nh) (o3 (List.length H) c) (H++iN (List.length H) a):=(Dg T n) hm
@[instance] def Vk:=@Kc.mk prog 345 _ @E9
def Pm(T:eA){H:dS}{a0:Option Nat}{b:(List (Option Nat))}{nh:List HC}{c:Option Nat}{a:List HC}(hm:uI a0 b nh=some (c,a)):et prog T 346 [o3 (List.length H) a0,sL (o3 (List.length H)) b] (H++iN (List.length H) nh) (o3 (List.length H) c) (H++iN (List.length H) a):=by
 rw[uI] at hm;have e:=trivial;refine wi an' func346 [] [] 999 ?_;simp[e];refine Wr e hm 999 (λd s2 f h=>h=H++iN (List.length H) s2.2/\f.1 0=o3 (List.length H) s2.1/\f.1 7=sL (o3 (List.length H)) b/\f.1 8=sI (ey b)/\f.1 9=sI d) VW (λs2 _ _ _ E m=>?_) (λd _ s2 _ _ _ _ _ E e m z p=>?_)
 ·have⟨v11,v12⟩:=s2;have e:=Aj e E;dsimp only[eo,lk]at m;exact au
 have⟨v11,v12⟩:=s2;have e:=Aj e E;have i:=e;dsimp only[lk]at m;refine sw [0,2] ?_;intro _ j e m;exact al
@[instance] def ae8:=@Kc.mk prog 346 _ @Pm
def sd(T:eA){H:dS}{a0:Option Nat}{nh:List HC}{j:Option Nat}{a:List HC}(hm:kl a0 nh=some (j,a)):et prog T 339 [o3 (List.length H) a0] (H++iN (List.length H) nh) (o3 (List.length H) j) (H++iN (List.length H) a):=by
 rw[kl] at hm;have e:=trivial;refine wi an' func339 [] [(3,false,[true,true,true,false,true,true,true,true,false,true,true,true,true,true,false,true,true,true,true]),(8,true,[]),(11,false,[true,true,true,true,true,true,false,true,true,true,false,true,true,true,true,true,true,true])] 999 ?_;have m:=hm;refine sw [8,8] ?_;intro F G e m;have h:=HC.dZ e.2;have e:=Aj e.1 h;apply Iq e m<;>intro e m
 ·refine sw [8,8,8] ?_;intro I J K e m;have i:=HC.dZ e.2;have e:=Aj e.1 i;refine sw [8,8] ?_;intro L M e m;simp-implicitDefEqProofs[e];refine sw [5] ?_;intro _ k e m;exact au
 apply Iq e m<;>intro e m
 ·refine sw [8,8,8] ?_;intro q r s e m;have b:=HC.dZ e.2;have e:=Aj e.1 b;exact aa
 apply Iq e m<;>intro e m
 ·refine sw [8,8,8] ?_;intro t u v e m;have c:=HC.dZ e.2;have e:=Aj e.1 c;exact aa
 refine sw [8,8,8,8,8] ?_;intro w x y A B e m;have d:=HC.dZ e.2;have e:=Aj e.1 d;refine sw [7,8,0,5,8] ?_;intro C _ l D e m;have f:=HC.dZ e.2;have e:=Aj e.1 f;refine sw [0,2,0,2] ?_;intro _ n _ o e m;exact au
@[instance] def N9:=@Kc.mk prog 339 _ @sd
def vO(T:eA){H:dS}{a0:Option Nat}{nh:List HC}{v:Int}{a:List HC}(hm:nX a0 nh=some (v,a)):et prog T 338 [o3 (List.length H) a0] (H++iN (List.length H) nh) (sI v) (H++iN (List.length H) a):=by
 rw[nX] at hm;have e:=trivial;refine wi an' func338 [] [(4,true,[]),(7,true,[]),(12,true,[])] 999 ?_;have m:=hm;refine sw [8,8] ?_;intro x1 x2 e m;have t:=HC.dZ e.2;have e:=Aj e.1 t;apply Iq e m<;>intro e m
 ·refine sw [8,8,8] ?_;intro x4 x5 x6 e m;have u:=HC.dZ e.2;have e:=Aj e.1 u;refine sw [8,8,8] ?_;intro x8 x9 x e m;have b:=HC.dZ e.2;have e:=Aj e.1 b;refine sw [0,4,8,8,8] ?_;intro _ y A B e m;have c:=HC.dZ e.2;have e:=Aj e.1 c;exact au
 apply Iq e m<;>intro e m
 ·refine sw [8,8,8] ?_;intro C D F e m;have d:=HC.dZ e.2;have e:=Aj e.1 d;apply Ir e m<;>intro e m
  ·refine sw [8,8,8] ?_;intro G I J e m;have f:=HC.dZ e.2;have e:=Aj e.1 f;exact au
  refine sw [8,8,8] ?_;intro K L M e m;have h:=HC.dZ e.2;have e:=Aj e.1 h;refine sw [8,8,8] ?_;intro N O P e m;have i:=HC.dZ e.2;have e:=Aj e.1 i;refine sw [8,8,8] ?_;intro Q R S e m;have j:=HC.dZ e.2;have e:=Aj e.1 j;exact au
 apply Ir e m<;>intro e m
 ·refine sw [0,2,8,8] ?_;intro _ w U V e m;have k:=HC.dZ e.2;have e:=Aj e.1 k;exact au
 refine sw [8,8,8] ?_;intro W X Y e m;have l:=HC.dZ e.2;have e:=Aj e.1 l;apply Ir e m<;>intro e m
 ·refine sw [8,8,8] ?_;intro Z ad ae e m;have n:=HC.dZ e.2;have e:=Aj e.1 n;exact au
 refine sw [8,8,8] ?_;intro af ah ai e m;have o:=HC.dZ e.2;have e:=Aj e.1 o;refine sw [8,8,8] ?_;intro ak an ao e m;have q:=HC.dZ e.2;have e:=Aj e.1 q;refine sw [8,8,8] ?_;intro aq ar aw e m;have r:=HC.dZ e.2;have e:=Aj e.1 r;refine sw [8,8,8] ?_;intro ax ay az e m;have s:=HC.dZ e.2;have e:=Aj e.1 s;exact au
@[instance] def Sz:=@Kc.mk prog 338 _ @vO
def uk(T:eA){H:dS}{a0:Option Nat}{nh:List HC}{a:Int}(hm:wT a0 nh=some a):et prog T 338 [o3 (List.length H) a0] (H++iN (List.length H) nh) (sI a) (H++iN (List.length H) nh):=by
 have⟨r,c,b,d⟩:=ik hm;obtain rfl:=iq d;obtain⟨X,rfl⟩:=Ep b;exact fb.rm (vO T b) (λ_ _ h=>⟨iN (List.length H) X,by rw[h.2];simp[FN],by rw[h.1];rfl,h.1,rfl⟩)
@[instance] def Ri:=@Kc.mk prog 338 _ @uk
def VT:kj prog 322=true:=by kernel_rfl
def C'(T:eA):∀(n:Nat),(∀{H:dS} {a0:Option Nat} {a1:Int} {nh:List HC} {r0:Option Nat} {r1:Int} {aA:List HC} (hm:oF n a0 a1 nh=some (r0,r1,aA)),et prog T 322 [o3 (List.length H) a0,sI a1] (H++iN (List.length H) nh) (AV.tuple [o3 (List.length H) r0,sI r1]) (H++iN (List.length H) aA)):=by
  intro n
  induction n with
  |zero=>
    skip
    all_goals(intro _ _;intros;rename_i hm;cases hm)
  |succ n ih=>
 intro H a0 a1 nh r0 r1 aA hm;rw[oF] at hm;refine fb.intro (fn:=f322) func322 rfl VT (B5 rfl) ?_;refine gd.sr [] λK1 bF=>?_;simp;apply bF;refine gd.tR λK3 bG=>?_;refine gd.sr [] λK5 bH=>?_;have⟨x7,o,aB⟩:=ep hm;clear hm
 try dsimp only at aB
 have⟨I,a,Q⟩:=ep aB;replace a:=HC.dZ a;clear aB
 try dsimp only at Q
 simp[o,a];apply bH;refine gd.tA λcg ch a' ba=>?_;rcases iS Q with⟨b,ak⟩|⟨b,an⟩
 ·clear Q;simp[o,a,b];apply a';refine gd.sr [] λcj bb=>?_;simp[o,a,b];apply bb;refine gd.ret ?_;simp only[wc,G7] at ak;obtain⟨rfl,rfl,rfl⟩:=ak;simp[vB,o,a,b]
 clear Q;simp[o,a,b];apply ba;refine gd.skip ?_;apply bG;refine gd.tR λck bc=>?_;refine gd.sr [] λcm bd=>?_;have⟨cn,bf,R⟩:=ep an;clear an
 try dsimp only at R
 simp[o,a,b];refine kB.fn (vU T (H:=H) bf) ?_;simp[o,a,b];apply bd;refine gd.tA λcp cq bg bh=>?_;rcases iS R with⟨c,ao⟩|⟨c,aq⟩
 ·clear R;simp[o,a,b,c];apply bg;refine gd.tR λcr bj=>?_;refine gd.tR λcu bk=>?_;refine gd.abq [] true an' Yx Yx ?_;have⟨cw,bl,S⟩:=ep ao;clear ao
  try dsimp only at S
  simp[o,a,b,c];refine yj.fn (uk T (H:=H) bl) LA ?_;simp[o,a,b,c];apply bk;refine gd.tA λcx cy bm bn=>?_;rcases iS S with⟨B,ar⟩|⟨B,aw⟩
  ·clear S;simp[o,a,b,c,B];apply bm;refine gd.sr [] λcz bo=>?_;simp[o,a,b,c,B];apply bo;refine gd.ret ?_;simp only[wc,G7] at ar;obtain⟨rfl,rfl,rfl⟩:=ar;simp[vB,o,a,b,c,B]
  clear S;simp[o,a,b,c,B];apply bn;refine gd.skip ?_;apply bj;refine gd.sr [] λcA bp=>?_;have⟨cB,bN,bq,V⟩:=ik aw;clear aw
  try dsimp only at V
  simp[o,a,b,c,B];refine kB.fn (sd T (H:=H) bq) ?_;simp[o,a,b,c,B];apply bp;refine gd.ret ?_;simp only[wc,G7] at V;obtain⟨rfl,rfl,rfl⟩:=V;simp[vB,o,a,b,c,B]
 clear R;simp[o,a,b,c];apply bh;refine gd.skip ?_;apply bc;refine gd.tR λcD br=>?_;refine gd.sr [] λcE bs=>?_;simp[o,a,b,c];apply bs;have⟨aC,ax⟩:=lh aq;clear aq;have⟨bI,bt,W⟩:=nC ax;clear ax
 try dsimp only at W
 have⟨aD,C,v⟩:=ep W;clear W;refine gd.AL λcF bO bu bP ay=>?_;refine gd.Pl (λn75 fr h=>∃(i76:Nat) (X:Int) (U:List HC),H++iN (List.length H) U=h/\(fr.env 0=o3 (List.length H) a0/\fr.env 1=sI a1/\fr.env 31=sL (o3 (List.length H)) I.an7/\fr.env 32=sI (ey I.an7)/\fr.env 33=sI X)/\X=(i76:Int)/\i76+n75=List.length I.an7/\eV bI (List.drop i76 I.an7) i76 U=some aD) (List.length I.an7) ?_ ?_
 ·refine⟨0,0,nh,?_,⟨?_,?_,?_,?_,?_⟩,rfl,LA,C⟩<;>first|rfl|simp[o,a,b,c]
 rintro n75 bw cG ⟨i76,X,U,rfl,s,J,bQ,C⟩ cH bz;rcases n75 with _|n75
 ·have i:=Pd (l:=I.an7) J xL;refine gd.sr [] λcI bA=>?_;simp[s,o,a,i,b,c];apply bA;refine gd.tR λcJ bR=>?_;refine gd.tA λcK cL bS bB=>?_;simp[s,o,a,i,b,c];apply bB;refine gd.exit ?_;apply bu;rw[Ku xL,oH] at C;obtain rfl:=iq C;rw[eo] at v
  try dsimp only at v
  apply br;refine gd.sr [] λcM bC=>?_;have⟨w,D,Y⟩:=ep v;replace D:=HC.dZ D;clear v
  try dsimp only at Y
  have Z:fo (iN (List.length H) U) x7 [sI w.an6,sI w.an9,sI w.rf.an6,sL Ty.av w.rf.an7,sL (o3 (List.length H)) w.an7,sI w.size,sI w.free,sB true]=iN (List.length H) (n5 U x7 (HC.eZ (eS.mk w.an6 w.an9 w.rf w.an7 w.size w.free true))):=pG rfl;have ad:(n5 U x7 (HC.eZ (eS.mk w.an6 w.an9 w.rf w.an7 w.size w.free true)))[x7]?=some (HC.eZ (eS.mk w.an6 w.an9 w.rf w.an7 w.size w.free true)):=wQ D;simp[s,o,a,i,D,Z,ad,b,c];apply bC;refine gd.sr [] λbT aE=>?_;simp[s,o,a,i,D,Z,ad,b,c];apply aE;refine gd.ret ?_;simp only[wc,G7] at Y;obtain⟨rfl,rfl,rfl⟩:=Y;simp[vB,s,o,a,i,D,Z,ad,b,c]
 have i:=TD (l:=I.an7) J xL;have⟨bU,aF,j⟩:=Q7 (l:=I.an7) J xL;rw[aF,fm] at C;have⟨bV,F,A⟩:=ep C;clear C;rw[bt,<-J] at F
 try dsimp only at F
 refine gd.sr [] λbW aG=>?_;simp[s,o,a,i,j,b,c];apply aG;refine gd.tR λbX aH=>?_;refine gd.tA λbY bZ aI bJ=>?_;simp[s,o,a,i,j,b,c];apply aI;refine gd.skip ?_;apply aH;refine gd.tR λb0 aJ=>?_;refine gd.AL λb1 aK bK bL ae=>?_;refine gd.sr [] λb2 aL=>?_;simp[s,o,a,i,j,b,c];apply aL;refine gd.sr [] λb3 aM=>?_;have⟨az,b4,aN,aO,G⟩:=vQ F;clear F
 try dsimp only at G
 simp[s,o,a,i,j,b,c];refine kB.fn (ih (H:=H) aO) ?_;simp[s,o,a,i,j,b,c];apply aM;refine gd.tR λb5 aP=>?_;refine gd.sr [] λb6 aQ=>?_;simp[s,o,a,i,j,b,c];apply aQ;refine gd.tA λb7 b8 aR aS=>?_;rcases iS G with⟨q,aT⟩|⟨q,M⟩
 ·clear G;simp[s,o,a,i,j,b,c,q];apply aR;refine gd.sr [] λb9 aU=>?_;simp[s,o,a,i,j,b,c,q];apply aU;refine gd.ret ?_;apply ae;apply ay;obtain rfl:=iq aT;rw[Dq] at A;obtain rfl:=iq A;rw[pn] at v
  try dsimp only at v
  simp only[wc,G7] at v;obtain⟨rfl,rfl,rfl⟩:=v;simp[vB,s,o,a,i,j,b,c,q]
 clear G;simp[s,o,a,i,j,b,c,q];apply aS;refine gd.skip ?_;apply aP;refine gd.sr [] λb_ aV=>?_;simp[s,o,a,i,j,b,c,q];apply aV;refine gd.tA λb' ca aW aX=>?_;rcases iS M with⟨r,af⟩|⟨r,aY⟩;rotate_left
 ·clear M;simp[s,o,a,i,j,b,c,q,r];apply aX;refine gd.skip ?_;apply aK;apply aJ;refine gd.region [] Yx ?_;simp[s,o,a,i,j,b,c,q,r];obtain rfl:=iq aY;rw[fy] at A
  refine bz _ _ n75 (X7 _) ⟨(i76+1),(eL .i64 X 1),aN,?_,⟨?_,?_,?_,?_,?_⟩,(L9 J xL aC),xL,A⟩<;>first|rfl|simp[s,o,a,i,j,b,c,q,r]
 clear M;simp[s,o,a,i,j,b,c,q,r];apply aW;refine gd.sr [] λcb aZ=>?_;have⟨K,t,N⟩:=ep af;replace t:=HC.dZ t;clear af
 try dsimp only at N
 have⟨a6,ah⟩:=lh N;clear N;simp[s,o,a,i,j,t,b,c,q,r];refine rC.afw (f:=(o3 (List.length H))) K.an7 Uj ⟨_,acu⟩ (by intro x;simp) a6 (by first|rfl|simp) (by first|rfl|simp) λO bD=>?_;simp[s,o,a,i,j,t,b,c,q,r];apply aZ;refine gd.sr [] λcc a7=>?_;have⟨bE,u,P⟩:=ep ah;clear ah
 try dsimp only at P
 have y:=HG u;simp[s,o,a,i,j,t,u,y,b,c,q,r];refine AE.arr (f:=(o3 (List.length H))) (L:=K.an7) (k:=((O-List.length K.an7)*1)) az ahi (by intro x;simp) (by simp[s,o,a,i,j,t,u,y,b,c,q,r]) (x:=bE) (by assumption) (by simp[s,o,a,i,j,t,u,y,b,c,q,r]) (by simp[s,o,a,i,j,t,u,y,b,c,q,r]) (by simp[s,o,a,i,j,t,u,y,b,c,q,r]) ?_;simp[s,o,a,i,j,t,u,y,b,c,q,r];apply a7;refine gd.tR λcd a8=>?_;refine gd.ajM 10 (f:=(o3 (List.length H))) (L:=(CN K.an7 X az)) (k:=((O-List.length K.an7)*1)) (sz:=1) (d:=53) (g:=(bw.gen 53+1)) (cap:=O) (by intro x;simp) (by intro x;simp) (by simp[s,o,a,i,j,t,u,y,b,c,q,r]) (by simp[s,o,a,i,j,t,u,y,b,c,q,r]) (by simp[s,o,a,i,j,t,u,y,b,c,q,r]) ?_;refine gd.region [] Yx ?_;have⟨cf,bM,a_,ai⟩:=ik P;clear P
 try dsimp only at ai
 simp[s,o,a,i,j,t,u,y,b,c,q,r];refine kB.fn (wD T (H:=H) a_) ?_;simp[s,o,a,i,j,t,u,y,b,c,q,r];apply a8;refine gd.ret ?_;apply ae;apply ay;obtain rfl:=iq ai;rw[Dq] at A;obtain rfl:=iq A;rw[pn] at v
 try dsimp only at v
 simp only[wc,G7] at v;obtain⟨rfl,rfl,rfl⟩:=v;simp[vB,s,o,a,i,j,t,u,y,b,c,q,r]
def wI(T:eA){H:dS}{a0:Option Nat}{b:Int}{nh:List HC}{c:Option Nat}{d:Int}{a:List HC}{n:Nat}(hm:oF n a0 b nh=some (c,d,a)):et prog T 322 [o3 (List.length H) a0,sI b] (H++iN (List.length H) nh) (AV.tuple [o3 (List.length H) c,sI d]) (H++iN (List.length H) a):=(C' T n) hm
@[instance] def T_:=@Kc.mk prog 322 _ @wI
def BE(T:eA){H:dS}{a0:Option Nat}{nh:List HC}{q:Bool}{r:Int}{j:List HC}(hm:wq a0 nh=some (q,r,j)):et prog T 301 [o3 (List.length H) a0] (H++iN (List.length H) nh) (AV.tuple [sB q,sI r]) (H++iN (List.length H) j):=by
 rw[wq] at hm;have e:=trivial;refine wi an' func301 [] [(1,true,[true,true,true,true,true,true,true,true,true,true,false,true,true,true,true,true])] 5 ?_;have m:=hm;refine sw [8,8] ?_;intro d t e m;have o:=HC.rI e.2;have e:=Aj e.1 o;refine sw [0,4] ?_;intro _ e m;have⟨c,s,b,e,m⟩:=Bo3 e m;simp[e];refine yR.fn (wI T (H:=H) e.2) ?_;simp[e];refine wA 999 999 [4,5] [] (λf=>f.1 0=o3 (List.length H) a0/\f.1 25=sB (e_ (eD s 0) true (Option.isNone c))) [7,8] (λ_ g=>?_) ?_
 ·rcases Pb (eD s 0) e with e|e
  ·exact aj
  exact aj
 intro _ a e m;have h:=HC.rI e.2;have e:=Aj e.1 h;have k:fo (iN (List.length H) b) d [o3 (List.length H) c,sI a.steps]=iN (List.length H) (n5 b d (HC.iv (gP.mk c a.steps))):=pG rfl;have e:=Aj e k;have i:(n5 b d (HC.iv (gP.mk c a.steps)))[d]?=some (HC.iv (gP.mk c a.steps)):=wQ h;have e:=Aj e i;have l:fo (iN (List.length H) (n5 b d (HC.iv (gP.mk c a.steps)))) d [o3 (List.length H) c,sI (eL .i64 a.steps 1)]=iN (List.length H) (n5 (n5 b d (HC.iv (gP.mk c a.steps))) d (HC.iv (gP.mk c (eL .i64 a.steps 1)))):=pG rfl;have e:=Aj e l;have n:(n5 (n5 b d (HC.iv (gP.mk c a.steps))) d (HC.iv (gP.mk c (eL .i64 a.steps 1))))[d]?=some (HC.iv (gP.mk c (eL .i64 a.steps 1))):=wQ i;have e:=Aj e n;exact au
@[instance] def Rb:=@Kc.mk prog 301 _ @BE
def B4(T:eA):∀(n:Nat),(∀{H:dS} {a0:Option Nat} {nh:List HC} {d:Tm} (hm:qH n a0 nh=some d),et prog T 302 [o3 (List.length H) a0] (H++iN (List.length H) nh) (Tm.av d) (H++iN (List.length H) nh)):=by
  intro n
  induction n with
  |zero=>
   skip
   all_goals(intro _ _;intros;rename_i hm;cases hm)
  |succ n ih=>
 intro H a0 nh d hm;rw[qH] at hm;have e:=trivial;refine wi an' func302 [] [(1,true,[])] 999 ?_;have m:=hm;refine sw [8,8] ?_;intro q k e m;have h:=HC.dZ e.2;have e:=Aj e.1 h;refine sw [0,4,0] ?_;intro l e m;refine Td e m 999 25 [23,24] [2] [34] (λb=>b) (λb a f=>bx f 3 [sI k.an6,sI k.an9,sI l.an6,sL Ty.av l.an7,sT a Tm.av b]) λr _ b i _ _ _ _ E e m z p=>?_;have⟨a,E,c⟩:=E;simp[e]at E;have e:=Aj e E;have o:=e;simp[e];refine qP m (ih (H:=H)) λj m=>?_;refine sw [9,0] ?_;intro e m;refine Ad (f:=Tm.av) b [j] c xS e.2 ?_;simp[e];cases m;exact p _ _ _ ⟨(.loc 34 (i.fa 34+1)),VW,(On 34)⟩ z
def DB(T:eA){H:dS}{a0:Option Nat}{nh:List HC}{a:Tm}{n:Nat}(hm:qH n a0 nh=some a):et prog T 302 [o3 (List.length H) a0] (H++iN (List.length H) nh) (Tm.av a) (H++iN (List.length H) nh):=(B4 T n) hm
@[instance] def Ug:=@Kc.mk prog 302 _ @DB
def zz(T:eA):∀(n:Nat),(∀{H:dS} {a0:Option Nat} {nh:List HC} {l:Bool} {c:List HC} (hm:oV n a0 nh=some (l,c)),et prog T 303 [o3 (List.length H) a0] (H++iN (List.length H) nh) (sB l) (H++iN (List.length H) c)):=by
  intro n
  induction n with
  |zero=>
   skip
   all_goals(intro _ _;intros;rename_i hm;cases hm)
  |succ n ih=>
 intro H a0 nh l c hm;rw[oV] at hm;have e:=trivial;refine wi an' func303 [] [] 999 ?_;have m:=hm;refine sw [8,8] ?_;intro k q e m;have o:=HC.dZ e.2;have e:=Aj e.1 o;refine sw [7,0,1,7,0] ?_;intro _ e m;refine Re e m 999 (λr d f h=>h=H++iN (List.length H) d/\f.1 0=o3 (List.length H) a0/\f.1 14=sL (o3 (List.length H)) q.an7/\f.1 15=sI (ey q.an7)/\f.1 16=sI r) VW (λr _ d _ _ _ _ _ E e m z p=>?_) (λd _ _ _ E m=>?_)
 ·have e:=Aj e E;have s:=e;simp[e];refine zp m (ih (H:=H)) λ_ t m=>?_;exact aa
 refine sw [10,11,8] ?_;intro a e m;have b:=HC.dZ e.2;have e:=Aj e.1 b;have i:fo (iN (List.length H) d) k [sI a.an6,sI a.an9,sI a.rf.an6,sL Ty.av a.rf.an7,sL (o3 (List.length H)) a.an7,sI a.size,sI a.free,sB true]=iN (List.length H) (n5 d k (HC.eZ (eS.mk a.an6 a.an9 a.rf a.an7 a.size a.free true))):=pG rfl;have e:=Aj e i;have j:(n5 d k (HC.eZ (eS.mk a.an6 a.an9 a.rf a.an7 a.size a.free true)))[k]?=some (HC.eZ (eS.mk a.an6 a.an9 a.rf a.an7 a.size a.free true)):=wQ b;have e:=Aj e j;exact au
def By(T:eA){H:dS}{a0:Option Nat}{nh:List HC}{b:Bool}{a:List HC}{n:Nat}(hm:oV n a0 nh=some (b,a)):et prog T 303 [o3 (List.length H) a0] (H++iN (List.length H) nh) (sB b) (H++iN (List.length H) a):=(zz T n) hm
@[instance] def Rc:=@Kc.mk prog 303 _ @By
end Go.Proofs.YtpgdkkomegalnaaGreatDoor
