/- Part of the proof of TranslateWitness: walks. -/
import Derived.Test.YtffcgfpaakhbjaaGreatDoorW1
set_option linter.all false
set_option maxRecDepth 20000
set_option maxHeartbeats 4000000
namespace Go.Proofs.YtffcgfpaakhbjaaGreatDoor
open Go Go.jX Go.dF Tryz
def pC:C2 prog 229 gU (t2 Fm.av sI) Fm.av Tm.av:=by
 refine v2 func229 λT H a0 a1 r m e=>?_;rw[gU] at m;simp[e];refine lZ m I8 λ_ _ m=>?_;exact au
def Kg{n:Nat}:C2 prog 244 (si n) sB Tm.av sI:=by
 refine i2 λn b=>u2 3 func244 λT H a0 a1 r m e=>?_;rw[si] at m;simp[e];refine wj 999 999 (λf h=>h=H/\f.1 1=sI a1/\f.1 15=sB (dq (cr a0.acH 1) (cr a0.acK a1) false)/\bx f 2 (Tm.av a0).cells) (λ_ g=>?_) ?_
 ·rcases Pb (cr a0.acH 1) e with e|e
  ·exact aj
  exact aj
 rintro _ _ E;have e:=Aj e E;refine Il e m λe m=>?_;simp[e];refine Wr e m 999 (λa _ f h=>h=H/\f.1 1=sI a1/\f.1 17=sL Tm.av a0.acI/\f.1 18=sI (cE a0.acI)/\f.1 19=sI a/\bx f 2 (Tm.av a0).cells) VW (λ_ _ _ _ E m=>?_) (λa _ _ _ _ _ _ _ E e m z p=>?_)
 ·have e:=Aj e E;dsimp only[b9]at m;exact au
 have e:=Aj e E;simp[e];refine d_ m oB λ_ m=>?_;simp[e];refine d_ m b λ_ m=>?_;refine Il e m λe m=>?_;exact al
def Cn{n:Nat}:C2 prog 231 (nW n) sB Fm.av sI:=by
 refine i2 λn c=>v2 func231 λT H a0 a1 r m e=>?_;rw[nW] at m;simp[e];refine Bu e m 999 (λb _ f h=>h=H/\f.1 1=sI a1/\f.1 10=sL Tm.av a0.cv/\f.1 11=sI (cE a0.cv)/\f.1 12=sI b/\bx f 2 (Fm.av a0).cells) VW (λb _ _ _ _ _ _ _ E e m z p=>?_) (λ_ _ _ _ E m=>?_)
 ·have e:=Aj e E;simp[e];refine dM m Kg λ_ m=>?_;refine Il e m λe m=>?_;exact al
 have e:=Aj e E;dsimp only[b9]at m;simp[e];refine Wr e m 999 (λa _ f h=>h=H/\f.1 1=sI a1/\f.1 21=sL Fm.av a0.acI/\f.1 22=sI (cE a0.acI)/\f.1 23=sI a/\bx f 2 (Fm.av a0).cells) VW (λ_ _ _ _ E m=>?_) (λa _ _ _ _ _ _ _ E e m z p=>?_)
 ·have e:=Aj e E;dsimp only[b9]at m;exact au
 have e:=Aj e E;simp[e];refine d_ m qR λ_ m=>?_;simp[e];refine d_ m c λ_ m=>?_;refine Il e m λe m=>?_;exact al
def EV{n:Nat}:C1 prog 232 (kR n) (t2 Fm.av sI) Fm.av:=by
 refine i1 λn v=>v1 func232 λT H a0 r m e=>?_;rw[kR] at m;simp[e];refine Bu e m 999 (λu s2 f h=>∃c,(h=H/\f.1 20=sL Tm.av a0.cv/\f.1 21=sI (cE a0.cv)/\f.1 22=sI u/\bx f 1 (Fm.av a0).cells/\bx f 2 [sI 0,sI 0,nL,nL,nL]/\bx f 4 [sI a0.acH,sI a0.b7.acH,sL Ty.av a0.b7.acI,sT c Tm.av s2,nL])/\Ow f [40] c s2) (by exact⟨.full,VW,hD.full⟩) (λu _ s2 o _ _ _ _ E e m z p=>?_) (λs2 o _ _ E m=>?_)
 ·have⟨c,E,i⟩:=E;have e:=Aj e E;simp[e];refine Pc m sN λs _ _ m=>?_;refine Il e m λe m=>?_;have⟨e,m⟩:=Ck e m;simp[e];refine Ao (f:=Tm.av) s2 [s] i Bl e.2 ?_;simp[e];cases m;exact p _ _ _ ⟨(.loc 40 (o.ds 40+1)),VW,(On 40)⟩ z
 have⟨c,E,i⟩:=E;have e:=Aj e E;dsimp only[b9]at m;simp[e];refine Wr e m 999 (λq j f h=>∃a b,(h=H/\f.1 44=sL Fm.av a0.acI/\f.1 45=sI (cE a0.acI)/\f.1 46=sI q/\bx f 2 [sI 0,sI 0,nL,nL,nL]/\bx f 4 [sI a0.acH,sI a0.b7.acH,sL Ty.av a0.b7.acI,sT a Tm.av s2,sT b Fm.av j])/\Ow f [40] a s2/\Ow f [63] b j) (by exact⟨c,.full,VW,i,hD.full⟩) (λj l _ _ E m=>?_) (λq _ j l _ _ _ _ E e m z p=>?_)
 ·have⟨a,b,E,k,d⟩:=E;have e:=Aj e E;dsimp only[b9]at m;exact au
 have⟨a,b,E,k,d⟩:=E;have e:=Aj e E;simp[e];refine lZ m v λt _ m=>?_;refine Il e m λe m=>?_;have⟨e,m⟩:=Ck e m;simp[e];refine Ao (f:=Fm.av) j [t] d Ix e.2 ?_;simp[e];cases m;exact p _ _ _ ⟨a,(.loc 63 (l.ds 63+1)),VW,(hD.other k d gw gw),(On 63)⟩ z
def mX:C3 prog 200 eR sI bZ.av Tm.av sI:=by
 refine v3 func200 λT H a0 a1 a2 r m e=>?_;rw[eR] at m;simp[e];refine lZ m ti λ_ _ m=>?_;refine Il e m λe m=>?_;refine Il e m λe m=>?_;exact au
def CV{n:Nat}:C1 prog 203 (gY n) sB Fm.av:=by
 refine i1 λn a=>u1 8 func203 λT H a0 r m e=>?_;rw[gY] at m;simp[e];apply Iq e m<;>intro e m
 ·apply wg 999;exact au
 apply wg 3;simp[e];apply Ir e m<;>intro e m
 ·apply wg 999;refine Il e m λe m=>?_;have⟨d,e,m⟩:=fJ e m;simp[e];refine dM m a λ_ m=>?_;exact au
 apply wg 1;simp[e];refine yJ m 999 999 (λb f h=>∃v4,(h=H/\f.1 2=sB v4)/\b v4=some r) ?_ (λb _ g m=>?_)
 ·rintro _ _ ⟨v4,E,m⟩;have e:=Aj e E;exact au
 have⟨i,e,m⟩:=fJ e m;simp[e];refine dM m a λ_ m=>?_;apply Iq e m<;>intro e m
 ·exact iO
 have⟨c,e,m⟩:=fJ e m;simp[e];refine dM m a λ_ m=>?_;exact iO
def CZ:C1 prog 162 mQ (t2 sB sI) Fm.av:=by
 refine v1 func162 λT H a0 r m e=>?_;rw[mQ] at m;simp[e];refine dM m j9 λ_ m=>?_;refine Il e m λe m=>?_;simp[e];refine dM m CV λ_ m=>?_;exact au
def wz:∀(n:Nat),C2 prog 133 (cA n) (t2 sh.av sI) bZ.av Pf.av/\C2 prog 161 (cp n) (t3 Fm.av (sL sI) sI) bZ.av Pf.av/\C2 prog 194 (lh n) (t3 Fm.av (sL sI) sI) bZ.av Pf.av/\C2 prog 195 (lH n) (t3 Fm.av (sL sI) sI) bZ.av Pf.av/\C2 prog 196 (lR n) (t3 Fm.av (sL sI) sI) bZ.av Pf.av/\C2 prog 197 (kB n) (t3 Fm.av (sL sI) sI) bZ.av Pf.av/\C2 prog 198 (mY n) (t3 Fm.av (sL sI) sI) bZ.av Pf.av/\C2 prog 199 (lz n) (t3 Fm.av (sL sI) sI) bZ.av Pf.av/\C2 prog 201 (lD n) (t3 Fm.av (sL sI) sI) bZ.av Pf.av/\C2 prog 202 (kT n) (t3 Fm.av (sL sI) sI) bZ.av Pf.av/\C4 prog 230 (dd n) (t2 (sL sI) sI) bZ.av Pf.av Fm.av Tm.av:=by
  intro n
  induction n with
  |zero=>
    refine⟨?_,?_,?_,?_,?_,?_,?_,?_,?_,?_,?_⟩
    all_goals(intro _ _;intros;rename_i hm;cases hm)
  |succ n c=>
 refine⟨?_,?_,?_,?_,?_,?_,?_,?_,?_,?_,?_⟩
 ·intro T H a0 a1 r hm;rw[cA] at hm;have e:=trivial;refine wi acM func133 [] [] 7 ?_;simp[e];refine Pc hm c.2.1 λQ _ _ m=>?_;simp[e];apply Iq e m<;>intro e m
  ·apply wg 999;exact au
  apply wg 5;simp[e];refine dM m j9 λO m=>?_;simp[e];apply Iq e m<;>intro e m
  ·apply wg 999;exact au
  apply wg 2;simp[e];refine yJ m 999 999 (λR f h=>∃v6 o,(h=H/\f.1 7=sT o sI v6/\bx f 4 [sI 0,sI 0,nL,nL,nL,nL]/\bx f 6 (Fm.av Q).cells)/\R v6=some r) ?_ (λR _ g m=>?_)
  ·rintro _ _ ⟨v6,o,E,m⟩;have e:=Aj e E;exact au
  simp[e];refine lZ m CZ λ_ I m=>?_;apply Iq e m<;>intro e m
  ·simp[e];exact g _ _ ⟨_,.ja,VW,m⟩
  simp[e];exact g _ _ ⟨_,.full,VW,m⟩
 ·intro T H a0 a1 r hm;rw[cp] at hm;have e:=trivial;refine wi acM func161 [] [] 10 ?_;simp[e];apply Iq e hm<;>intro e m
  ·apply wg 999;refine Il e m λe m=>?_;have⟨aa,e,m⟩:=fJ e m;exact au
  apply wg 3;simp[e];apply Iq e m<;>intro e m
  ·apply wg 999;refine Il e m λe m=>?_;have⟨ab,e,m⟩:=fJ e m;exact au
  apply wg 3;simp[e];apply Iq e m<;>intro e m
  ·apply wg 999;have⟨ad,e,m⟩:=fJ e m;simp[e];refine sm m c.1 λ_ _ m=>?_;refine Il e m λe m=>?_;have⟨ae,e,m⟩:=fJ e m;simp[e];refine sm m c.1 λ_ _ m=>?_;simp[e];refine d_ m lj λ_ m=>?_;simp[e];refine d_ m (jq T) λ_ m=>?_;exact au
  apply wg 1;simp[e];refine wj 999 0 (λf h=>h=H/\f.1 22=sI a1.acH/\f.1 93=sB (dq (cr a1.acH 4) true (cr a1.acH 5))/\bx f 2 (bZ.av a0).cells/\bx f 3 (Pf.av a1).cells/\bx f 4 [sI 0,sI 0,nL,nL,nL]/\bx f 7 [sI 0,sI 0,nL,nL,nL]) (λ_ g=>?_) ?_
  ·rcases Pb (cr a1.acH 4) e with e|e
   ·exact aj
   exact aj
  rintro _ _ E;have e:=Aj e E;apply Iq e m<;>intro e m
  ·apply wg 999;have⟨af,e,m⟩:=fJ e m;simp[e];refine sm m c.1 λ_ _ m=>?_;refine Il e m λe m=>?_;refine Il e m λe m=>?_;have⟨ah,e,m⟩:=fJ e m;exact au
  apply wg 3;simp[e];apply Iq e m<;>intro e m
  ·apply wg 999;have⟨ai,e,m⟩:=fJ e m;simp[e];refine d_ m oH λ_ m=>?_;refine Il e m λe m=>?_;simp[e];refine dM m jy λ_ m=>?_;refine Il e m λe m=>?_;simp[e];refine d_ m kZ λ_ m=>?_;have⟨ak,e,m⟩:=fJ e m;simp[e];refine sm m c.1 λ_ _ m=>?_;simp[e];refine d_ m lj λ_ m=>?_;exact au
  apply wg 3;simp[e];apply Iq e m<;>intro e m
  ·apply wg 999;have⟨an,e,m⟩:=fJ e m;simp[e];refine sm m c.1 λ_ _ m=>?_;refine Il e m λe m=>?_;refine Il e m λe m=>?_;have⟨ao,e,m⟩:=fJ e m;simp[e];refine sm m c.1 λ_ _ m=>?_;refine Il e m λe m=>?_;have⟨aq,e,m⟩:=fJ e m;simp[e];refine d_ m (jq T) λ_ m=>?_;have⟨ar,e,m⟩:=fJ e m;simp[e];refine d_ m uF λ_ m=>?_;exact au
  apply wg 1;simp[e];refine wj 999 0 (λf h=>h=H/\f.1 22=sI a1.acH/\f.1 218=sB (dq (cr a1.acH 8) true (cr a1.acH 12))/\bx f 2 (bZ.av a0).cells/\bx f 3 (Pf.av a1).cells/\bx f 4 [sI 0,sI 0,nL,nL,nL]) (λ_ g=>?_) ?_
  ·rcases Pb (cr a1.acH 8) e with e|e
   ·exact aj
   exact aj
  rintro _ _ E;have e:=Aj e E;apply Iq e m<;>intro e m
  ·apply wg 999;simp[e];refine Pc m c.2.2.1 λ_ _ _ m=>?_;exact au
  apply wg 1;simp[e];refine wj 999 0 (λf h=>h=H/\f.1 22=sI a1.acH/\f.1 227=sB (dq (cr a1.acH 9) true (cr a1.acH 13))/\bx f 2 (bZ.av a0).cells/\bx f 3 (Pf.av a1).cells/\bx f 4 [sI 0,sI 0,nL,nL,nL]) (λ_ g=>?_) ?_
  ·rcases Pb (cr a1.acH 9) e with e|e
   ·exact aj
   exact aj
  rintro _ _ E;have e:=Aj e E;apply Iq e m<;>intro e m
  ·apply wg 999;simp[e];refine Pc m c.2.2.2.1 λ_ _ _ m=>?_;exact au
  apply wg 1;simp[e];refine wj 999 0 (λf h=>h=H/\f.1 22=sI a1.acH/\f.1 236=sB (dq (cr a1.acH 10) true (cr a1.acH 14))/\bx f 2 (bZ.av a0).cells/\bx f 3 (Pf.av a1).cells/\bx f 4 [sI 0,sI 0,nL,nL,nL]) (λ_ g=>?_) ?_
  ·rcases Pb (cr a1.acH 10) e with e|e
   ·exact aj
   exact aj
  rintro _ _ E;have e:=Aj e E;apply Iq e m<;>intro e m
  ·apply wg 999;simp[e];refine Pc m c.2.2.2.2.1 λ_ _ _ m=>?_;exact au
  apply wg 1;simp[e];refine wj 999 999 (λf h=>h=H/\f.1 22=sI a1.acH/\f.1 245=sB (dq (cr a1.acH 11) true (cr a1.acH 15))/\bx f 2 (bZ.av a0).cells/\bx f 3 (Pf.av a1).cells/\bx f 4 [sI 0,sI 0,nL,nL,nL]) (λ_ g=>?_) ?_
  ·rcases Pb (cr a1.acH 11) e with e|e
   ·exact aj
   exact aj
  rintro _ _ E;have e:=Aj e E;apply Iq e m<;>intro e m
  ·simp[e];refine Pc m c.2.2.2.2.2.1 λ_ _ _ m=>?_;exact au
  apply Iq e m<;>intro e m
  ·simp[e];refine Pc m c.2.2.2.2.2.2.1 λ_ _ _ m=>?_;exact au
  apply Iq e m<;>intro e m
  ·simp[e];refine Pc m c.2.2.2.2.2.2.2.1 λ_ _ _ m=>?_;exact au
  apply Iq e m<;>intro e m
  ·have⟨aw,e,m⟩:=fJ e m;simp[e];refine d_ m s6 λ_ m=>?_;simp[e];refine d_ m mX λ_ m=>?_;exact au
  apply Iq e m<;>intro e m
  ·simp[e];refine Pc m c.2.2.2.2.2.2.2.2.1 λ_ _ _ m=>?_;exact au
  simp[e];refine Pc m c.2.2.2.2.2.2.2.2.2.1 λ_ _ _ m=>?_;exact au
 ·intro T H a0 a1 r hm;rw[lh] at hm;have e:=trivial;refine wi acM func194 [] [] 999 ?_;simp[e];refine dM hm jy λ_ m=>?_;refine Il e m λe m=>?_;simp[e];refine d_ m kE λ_ m=>?_;have⟨I,e,m⟩:=fJ e m;simp[e];refine sm m c.1 λ_ _ m=>?_;refine Il e m λe m=>?_;apply Iq e m<;>intro e m
  ·simp[e];refine d_ m pz λJ m=>?_;simp[e];refine d_ m mE λK m=>?_;exact au
  simp[e];refine dM m Cd λ_ m=>?_;refine Il e m λe m=>?_;simp[e];refine d_ m pz λ_ m=>?_;simp[e];refine d_ m mE λ_ m=>?_;exact au
 ·intro T H a0 a1 r hm;rw[lH] at hm;have e:=trivial;refine wi acM func195 [] [] 9 ?_;have⟨L,e,m⟩:=fJ e hm;simp[e];refine lZ m ti λP _ m=>?_;simp[e];apply Iq e m<;>intro e m
  ·apply wg 999;exact au
  apply wg 7;have⟨x6,e,m⟩:=fJ e m;simp[e];refine sm m c.1 λd _ m=>?_;simp[e];apply Iq e m<;>intro e m
  ·apply wg 999;exact au
  apply wg 4;simp[e];refine d_ m rQ λ_ m=>?_;simp[e];refine d_ m (jq T) λv m=>?_;simp[e];refine wj 999 999 (λf h=>h=H/\f.1 11=sI (dq (cr a1.acH 13) 6 4)/\f.1 12=sL sI (dq (cr a1.acH 13) d.eD v)/\bx f 4 [sI 0,sI 0,nL,nL,nL]/\bx f 7 (Tm.av L).cells/\bx f 8 (Ty.av P).cells/\bx f 10 [sI d.cf.acH,sI d.cf.b7.acH,sL Ty.av d.cf.b7.acI,sL Tm.av d.cf.cv,sL Fm.av d.cf.acI,sL sI d.eD]) (λ_ g=>?_) ?_
  ·rcases Pb (cr a1.acH 13) e with e|e
   ·exact aj
   exact aj
  rintro _ _ E;have e:=Aj e E;refine Il e m λe m=>?_;simp[e];refine dM m eZ λ_ m=>?_;refine Im e m λe m=>?_;have⟨b,e,m⟩:=fJ e m;simp[e];refine sm m pC λ_ _ m=>?_;exact au
 ·intro T H a0 a1 r hm;rw[lR] at hm;have e:=trivial;refine wi acM func196 [] [] 9 ?_;have⟨i,e,m⟩:=fJ e hm;have⟨O,e,m⟩:=fJ e m;simp[e];refine dM m oH λ_ m=>?_;simp[e];apply Iq e m<;>intro e m
  ·apply wg 999;exact au
  apply wg 4;simp[e];refine wj 999 3 (λf h=>h=H/\f.1 10=sI (dq (cr a1.acH 14) 7 5)/\bx f 2 (bZ.av a0).cells/\bx f 3 (Pf.av a1).cells/\bx f 4 [sI 0,sI 0,nL,nL,nL]/\bx f 7 (Fm.av i).cells/\bx f 8 (Tm.av O).cells) (λ_ g=>?_) ?_
  ·rcases Pb (cr a1.acH 14) e with e|e
   ·exact aj
   exact aj
  rintro _ _ E;have e:=Aj e E;simp[e];apply Iq e m<;>intro e m
  ·apply wg 999;exact au
  apply wg 7;simp[e];refine lZ m ti λ_ I m=>?_;simp[e];apply Iq e m<;>intro e m
  ·apply wg 999;exact au
  apply wg 5;simp[e];refine dM m eZ λw m=>?_;simp[e];apply Ir e m<;>intro e m
  ·apply wg 999;exact au
  apply wg 4;have⟨q,e,m⟩:=fJ e m;have⟨J,e,m⟩:=fJ e m;simp[e];refine sm m c.2.2.2.2.2.2.2.2.2.2 λK M m=>?_;simp[e];refine yJ m 999 999 (λx f h=>∃s,(h=H/\f.1 12=sI M/\f.1 13=sL sI s/\bx f 4 [sI 0,sI 0,nL,nL,nL]/\bx f 7 (Fm.av i).cells)/\x s=some r) ?_ (λx _ g m=>?_)
  ·rintro _ _ ⟨s,E,m⟩;have e:=Aj e E;exact au
  apply Ir e m<;>intro e m
  ·exact iO
  simp[e];refine dM m rQ λ_ m=>?_;simp[e];refine dM m (jq T) λ_ m=>?_;exact iO
 ·intro T H a0 a1 r hm;rw[kB] at hm;have e:=trivial;refine wi acM func197 [] [] 7 ?_;have⟨N,e,m⟩:=fJ e hm;simp[e];refine sm m c.1 λa _ m=>?_;simp[e];apply Iq e m<;>intro e m
  ·apply wg 999;exact au
  apply wg 4;simp[e];refine wj 999 3 (λf h=>h=H/\f.1 9=sI (dq (cr a1.acH 15) 7 5)/\bx f 2 (bZ.av a0).cells/\bx f 3 (Pf.av a1).cells/\bx f 4 [sI 0,sI 0,nL,nL,nL]/\bx f 7 [sI a.cf.acH,sI a.cf.b7.acH,sL Ty.av a.cf.b7.acI,sL Tm.av a.cf.cv,sL Fm.av a.cf.acI,sL sI a.eD]) (λ_ g=>?_) ?_
  ·rcases Pb (cr a1.acH 15) e with e|e
   ·exact aj
   exact aj
  rintro _ _ E;have e:=Aj e E;simp[e];apply Iq e m<;>intro e m
  ·apply wg 999;exact au
  apply wg 7;simp[e];refine dM m jy λ_ m=>?_;simp[e];apply Iq e m<;>intro e m
  ·apply wg 999;exact au
  apply wg 7;simp[e];refine d_ m kE λJ m=>?_;have⟨K,e,m⟩:=fJ e m;simp[e];refine d_ m kZ λ_ m=>?_;have⟨S,e,m⟩:=fJ e m;simp[e];refine sm m c.1 λb _ m=>?_;simp[e];apply Iq e m<;>intro e m
  ·apply wg 999;exact au
  apply wg 4;simp[e];refine Wj m 999 1 (λy f h=>∃v124 j k v127 l,(h=H/\f.1 9=sI (dq (cr a1.acH 15) 7 5)/\bx f 4 [sI 0,sI 0,nL,nL,nL]/\bx f 7 [sI a.cf.acH,sI a.cf.b7.acH,sL Ty.av a.cf.b7.acI,sL Tm.av a.cf.cv,sL Fm.av a.cf.acI,sL sI a.eD]/\bx f 11 [sI b.cf.acH,sI b.cf.b7.acH,sL Ty.av b.cf.b7.acI,sL Tm.av b.cf.cv,sL Fm.av b.cf.acI,sL sI b.eD]/\bx f 12 [sI v124,sI j,sL Ty.av k,sL Tm.av v127,sL Fm.av l])/\y v124 j k v127 l=some r) (λy _ g m=>?_) ?_
  ·simp[e];refine dM m Cn λ_ m=>?_;apply Ir e m<;>intro e m
   ·simp[e];exact g _ _ ⟨_,_,_,_,_,VW,m⟩
   simp[e];refine lZ m EV λ_ _ m=>?_;refine Il e m λe m=>?_;simp[e];refine dM m Cn λ_ m=>?_;refine Il e m λe m=>?_;simp[e];exact g _ _ ⟨_,_,_,_,_,VW,m⟩
  rintro _ _ ⟨v124,j,k,v127,l,E,m⟩;have e:=Aj e E;simp[e];refine Wj m 999 999 (λA f h=>∃t,(h=H/\f.1 87=sB t/\bx f 4 [sI 0,sI 0,nL,nL,nL]/\bx f 7 [sI a.cf.acH,sI a.cf.b7.acH,sL Ty.av a.cf.b7.acI,sL Tm.av a.cf.cv,sL Fm.av a.cf.acI,sL sI a.eD]/\bx f 11 [sI b.cf.acH,sI b.cf.b7.acH,sL Ty.av b.cf.b7.acI,sL Tm.av b.cf.cv,sL Fm.av b.cf.acI,sL sI b.eD]/\bx f 12 [sI v124,sI j,sL Ty.av k,sL Tm.av v127,sL Fm.av l])/\A t=some r) (λA _ g m=>?_) ?_
  ·apply Ir e m<;>intro e m
   ·exact iO
   simp[e];refine dM m Cd λ_ m=>?_;exact iO
  rintro _ _ ⟨t,E,m⟩;have e:=Aj e E;refine Il e m λe m=>?_;simp[e];refine d_ m oQ λ_ m=>?_;simp[e];refine d_ m mE λ_ m=>?_;simp[e];refine d_ m (jq T) λ_ m=>?_;exact au
 ·intro T H a0 a1 r hm;rw[mY] at hm;have e:=trivial;refine wi acM func198 [] [] 999 ?_;have⟨i,e,m⟩:=fJ e hm;have⟨O,e,m⟩:=fJ e m;simp[e];refine d_ m gR λu m=>?_;have⟨e,m⟩:=Ck e m;simp[e];refine Ad (f:=Ty.av) a0.acL [u] (hD.full (D:=[])) AO e.2 ?_;simp[e];refine d_ m qT λ_ m=>?_;refine Il e m λe m=>?_;simp[e];refine dM m mX λq m=>?_;refine Il e m λe m=>?_;have⟨B,e,m⟩:=fJ e m;simp[e];refine d_ m eK λC m=>?_;simp[e];refine sm m c.2.2.2.2.2.2.2.2.2.2 λ_ _ m=>?_;refine Il e m λe m=>?_;simp[e];refine dM m jy λ_ m=>?_;refine Il e m λe m=>?_;simp[e];refine d_ m gR λ_ m=>?_;simp[e];refine d_ m kE λ_ m=>?_;simp[e];refine d_ m kZ λ_ m=>?_;have⟨U,e,m⟩:=fJ e m;simp[e];refine d_ m oQ λ_ m=>?_;simp[e];refine d_ m fX λ_ m=>?_;simp[e];refine d_ m eK λ_ m=>?_;simp[e];refine sm m c.2.2.2.2.2.2.2.2.2.2 λ_ _ m=>?_;refine Il e m λe m=>?_;simp[e];refine lZ m pC λ_ _ m=>?_;simp[e];refine d_ m rQ λ_ m=>?_;simp[e];refine d_ m (jq T) λ_ m=>?_;simp[e];refine d_ m mE λ_ m=>?_;simp[e];refine d_ m (jq T) λ_ m=>?_;exact au
 ·intro T H a0 a1 r hm;rw[lz] at hm;have e:=trivial;refine wi acM func199 [] [] 999 ?_;have⟨i,e,m⟩:=fJ e hm;have⟨O,e,m⟩:=fJ e m;simp[e];refine d_ m mv λu m=>?_;have⟨e,m⟩:=Ck e m;simp[e];refine Ad (f:=Ty.av) a0.acL [u] (hD.full (D:=[])) AO e.2 ?_;simp[e];refine d_ m qT λ_ m=>?_;refine Il e m λe m=>?_;simp[e];refine dM m mX λq m=>?_;refine Il e m λe m=>?_;have⟨B,e,m⟩:=fJ e m;simp[e];refine d_ m eK λC m=>?_;simp[e];refine sm m c.2.2.2.2.2.2.2.2.2.2 λ_ _ m=>?_;refine Il e m λe m=>?_;simp[e];refine dM m jy λ_ m=>?_;refine Il e m λe m=>?_;simp[e];refine d_ m gR λ_ m=>?_;simp[e];refine d_ m mv λ_ m=>?_;simp[e];refine d_ m kE λ_ m=>?_;simp[e];refine d_ m oQ λ_ m=>?_;simp[e];refine d_ m kZ λ_ m=>?_;have⟨V,e,m⟩:=fJ e m;simp[e];refine d_ m oQ λ_ m=>?_;simp[e];refine d_ m fX λ_ m=>?_;simp[e];refine d_ m fX λ_ m=>?_;simp[e];refine d_ m eK λ_ m=>?_;simp[e];refine sm m c.2.2.2.2.2.2.2.2.2.2 λ_ _ m=>?_;refine Il e m λe m=>?_;simp[e];refine lZ m pC λ_ _ m=>?_;simp[e];refine d_ m rQ λ_ m=>?_;simp[e];refine d_ m (jq T) λ_ m=>?_;simp[e];refine d_ m mE λ_ m=>?_;simp[e];refine d_ m (jq T) λ_ m=>?_;exact au
 ·intro T H a0 a1 r hm;rw[lD] at hm;have e:=trivial;refine wi acM func201 [] [] 999 ?_;have⟨L,e,m⟩:=fJ e hm;simp[e];refine d_ m gR λw m=>?_;have⟨e,m⟩:=Ck e m;simp[e];refine Ad (f:=Ty.av) a0.acL [w] (hD.full (D:=[])) AO e.2 ?_;simp[e];refine d_ m qT λ_ m=>?_;refine Il e m λe m=>?_;have⟨W,e,m⟩:=fJ e m;simp[e];refine sm m c.1 λ_ q m=>?_;refine Il e m λe m=>?_;refine Il e m λe m=>?_;have⟨B,e,m⟩:=fJ e m;have⟨C,e,m⟩:=fJ e m;simp[e];refine sm m c.2.2.2.2.2.2.2.2.2.2 λ_ _ m=>?_;refine Il e m λe m=>?_;have⟨X,e,m⟩:=fJ e m;simp[e];refine sm m pC λ_ _ m=>?_;exact au
 ·intro T H a0 a1 r hm;rw[kT] at hm;have e:=trivial;refine wi acM func202 [] [] 7 ?_;have⟨N,e,m⟩:=fJ e hm;simp[e];refine sm m c.1 λa _ m=>?_;simp[e];apply Iq e m<;>intro e m
  ·apply wg 999;exact au
  apply wg 3;simp[e];refine Wj m 999 999 (λF f h=>∃G,(h=H/\f.1 38=sB G/\bx f 4 [sI 0,sI 0,nL,nL,nL]/\bx f 7 [sI a.cf.acH,sI a.cf.b7.acH,sL Ty.av a.cf.b7.acI,sL Tm.av a.cf.cv,sL Fm.av a.cf.acI,sL sI a.eD])/\F G=some r) (λF _ g m=>?_) ?_
  ·apply Iq e m<;>intro e m
   ·exact iO
   have⟨Y,e,m⟩:=fJ e m;exact iO
  rintro _ _ ⟨G,E,m⟩;have e:=Aj e E;refine Il e m λe m=>?_;have⟨v,e,m⟩:=fJ e m;simp[e];refine dM m l7 λ_ m=>?_;simp[e];refine dM m mO λ_ m=>?_;refine Il e m λe m=>?_;have⟨Z,e,m⟩:=fJ e m;simp[e];refine dM m oQ λ_ m=>?_;simp[e];refine dM m fX λ_ m=>?_;simp[e];refine dM m fX λ_ m=>?_;simp[e];refine dM m eK λ_ m=>?_;simp[e];refine lZ m pC λ_ _ m=>?_;simp[e];refine d_ m pz λ_ m=>?_;simp[e];refine d_ m pz λ_ m=>?_;exact au
 ·intro T H a0 a1 a2 a3 r hm;rw[dd] at hm;have e:=trivial;refine wi acM func230 [] [] 999 ?_;simp[e];refine lZ hm c.1 λ_ Q m=>?_;refine Il e m λe m=>?_;simp[e];refine lZ m pC λ_ _ m=>?_;refine Il e m λe m=>?_;simp[e];refine d_ m uF λ_ m=>?_;exact au
def wS{n:Nat}:C2 prog 133 (cA n) (t2 sh.av sI) bZ.av Pf.av:=(wz n).1
def Gc:C3 prog 104 j_ (t2 sh.av sI) (sL Fm.av) Sq.av Pf.av:=by
 refine v3 func104 λT H a0 a1 a2 r m e=>?_;rw[j_] at m;simp[e];refine dM m De λ_ m=>?_;refine Il e m λe m=>?_;simp[e];refine dM m Ga λ_ m=>?_;refine Il e m λe m=>?_;simp[e];refine lZ m wS λa _ m=>?_;refine Il e m λe m=>?_;simp[e];refine d_ m n_ λ_ m=>?_;have⟨e,m⟩:=Ck e m;simp[e];refine Ad (f:=sI) [] a.eD (hD.full (D:=[])) Ry e.2 ?_;exact au
def Di:C4 prog 64 lp sI (sL Fm.av) Sq.av Pf.av Fm.av:=by
 refine v4 func64 λT H a0 a1 a2 a3 r m e=>?_;rw[lp] at m;simp[e];refine lZ m Gc λ_ _ m=>?_;refine Il e m λe m=>?_;simp[e];refine dM m oH λ_ m=>?_;refine Il e m λe m=>?_;simp[e];refine dM m uF λ_ m=>?_;exact au
def Gb:C4 prog 19 rz sB (sL Fm.av) Sq.av Pf.av Fm.av:=by
 refine u4 4 func19 λT H a0 a1 a2 a3 r m e=>?_;rw[rz] at m;simp[e];refine dM m Di λa m=>?_;simp[e];refine I5 999 999 (λf h=>h=H/\f.1 8=sB (dq (cr a 0) true (dq (cr a 4) true (dq (cr a 5) true (cr a 3))))) ?_ (λ_ g=>?_)
 ·rintro _ _ E;have e:=Aj e E;exact au
 rcases Pb (cr a 0) e with e|e
 ·exact aj
 rcases Pb (cr a 4) e with e|e
 ·exact aj
 rcases Pb (cr a 5) e with e|e
 ·exact aj
 exact aj
def uq(T:cW)(A:qc T){a0:List Int}{F:Bool}(hm:j4 a0=some F):du prog T 3 [sL sI a0] [] (λx _=>x=sB F):=by
 rw[j4] at hm;have e:=A;refine wi acM func3 [] [] 999 ?_;simp[e];refine dM hm (Iw T A) λ_ m=>?_;refine Im e m λe m=>?_;simp[e];refine dM m Po λ_ m=>?_;refine Im e m λe m=>?_;simp[e];refine dM m (P_ T) λ_ m=>?_;simp[e];refine lZ m (HD T VW) λk d5 m=>?_;simp[e];refine lZ m (vm T VW) λs d7 m=>?_;have⟨e,m⟩:=Ck e m;simp[e];refine Ad (f:=Ty.av) [] k (hD.full (D:=[])) AO e.2 ?_;have⟨e,m⟩:=Ck e m;simp[e];refine Ad (f:=Ty.av) (dN [] k) [s] (hD.new (D:=[31]) (d:=31) gw) AO e.2 ?_;simp[e];refine lZ m (BV T VW) λ_ d9 m=>?_;simp[e];refine lZ m (BV T VW) λ_ d11 m=>?_;simp[e];refine dM m s6 λ_ m=>?_;simp[e];refine lZ m (fK T VW) λ_ d14 m=>?_;simp[e];refine Wn m 3 (λc f h=>∃a,(h=dC [[]] 0 [sL sI c.2.2.2.2.2.2.l,sI c.2.2.2.2.2.2.ua]/\f.1 3=AV.de 0 0/\f.1 4=sL Ty.av k/\f.1 6=sT a Ty.av (dN (dN [] k) [s])/\f.1 8=sI c.1/\bx f 5 (Ty.av s).cells/\bx f 7 [sI c.2.1,sI c.2.2.1,sL Ty.av c.2.2.2.1,sL Tm.av c.2.2.2.2.1,sL Fm.av c.2.2.2.2.2.1])/\Ow f [34] a (dN (dN [] k) [s])) (by exact⟨(.loc 34 1),VW,(On 34)⟩) (λc _ _ _ _ G E m z p=>?_);have⟨H,M,v24,N,O,P,v28⟩:=c;have⟨a,E,n⟩:=E;have e:=Aj e E;dsimp only[PO]at m;simp[e];apply Iq e m<;>intro e m
 ·apply wg 2;simp[e];refine yJ m 999 999 (λB f h=>∃v30 v31 t u v r b,(h=dC [[]] 0 [sL sI r.l,sI r.ua]/\f.1 3=AV.de 0 0/\f.1 4=sL Ty.av k/\f.1 6=sT b Ty.av (dN (dN [] k) [s])/\f.1 8=sI H/\bx f 5 (Ty.av s).cells/\bx f 7 [sI v30,sI v31,sL Ty.av t,sL Tm.av u,sL Fm.av v])/\Ow f [34] b (dN (dN [] k) [s])/\B v30 v31 t u v r=some G) ?_ (λB _ g m=>?_)
  ·rintro _ _ ⟨v30,v31,t,u,v,r,b,E,w,m⟩;have e:=Aj e E;simp[e];cases m;exact p _ _ _ ⟨b,VW,w⟩ z
  simp[e];refine lZ m (BV T VW) λ_ d40 m=>?_;simp[e];refine lZ m (fK T VW) λ_ d42 m=>?_;simp[e];refine dM m sZ λ_ m=>?_;simp[e];refine dM m s6 λ_ m=>?_;simp[e];refine lZ m (fK T VW) λ_ d46 m=>?_;apply Iq e m<;>intro e m
  ·simp[e];refine dM m lj λo m=>?_;simp[e];exact g _ _ ⟨o.acH,o.b7.acH,o.b7.acI,o.cv,o.acI,d46,a,VW,n,m⟩
  simp[e];refine dM m lj λq m=>?_;simp[e];exact g _ _ ⟨q.acH,q.b7.acH,q.b7.acI,q.cv,q.acI,d46,a,VW,n,m⟩
 apply wg 13;cases m;have m:=Qb z;dsimp only[PO]at m;simp[e];refine dM m pz λI m=>?_;simp[e];refine lZ m C_ λy j m=>?_;simp[e];refine d_ m xW λ_ m=>?_;simp[e];refine sm m (ot T A) λJ i m=>?_;simp[e];refine d_ m xW λ_ m=>?_;simp[e];refine sm m (ot T A) λ_ K m=>?_;simp[e];refine d_ m lj λ_ m=>?_;simp[e];refine d_ m pz λ_ m=>?_;simp[e];refine d_ m xW λ_ m=>?_;simp[e];refine sm m (ot T A) λ_ L m=>?_;simp[e];refine wj 999 0 (λf h=>h=dC [[]] 0 [sL sI v28.l,sI v28.ua]/\f.1 4=sL Ty.av k/\f.1 12=sI j/\f.1 14=sI i/\f.1 16=sI K/\f.1 18=sI L/\f.1 103=sB (dq (cG j 0) true (cG i 0))/\bx f 10 (Fm.av I).cells/\bx f 11 (Fm.av y).cells/\bx f 13 (Pf.av J).cells) (λ_ g=>?_) ?_
 ·rcases Pb (cG j 0) e with e|e
  ·exact aj
  exact aj
 rintro _ _ E;have e:=Aj e E;apply Iq e m<;>intro e m
 ·apply wg 1;simp[e];refine I5 999 999 (λf h=>h=dC [[]] 0 [sL sI v28.l,sI v28.ua]/\f.1 2=sB (dq (cr j 0) (dq (cr i 0) true (cr i 4)) (dq (cr j 4) (dq (cr i 0) true (cr i 4)) false))) ?_ (λ_ g=>?_)
  ·rintro _ _ E;have e:=Aj e E;exact au
  rcases Pb (cr j 0) e with e|e
  ·rcases Pb (cr i 0) e with e|e
   ·exact aj
   exact aj
  rcases Pb (cr j 4) e with e|e;rotate_left
  ·exact aj
  rcases Pb (cr i 0) e with e|e
  ·exact aj
  exact aj
 apply wg 2;simp[e];refine yJ m 999 999 (λC f h=>∃v70,(h=dC [[]] 0 [sL sI v28.l,sI v28.ua]/\f.1 2=sB v70)/\C v70=some F) ?_ (λC _ g m=>?_)
 ·rintro _ _ ⟨v70,E,m⟩;have e:=Aj e E;exact au
 apply Ir e m<;>intro e m
 ·exact iO
 apply Ir e m<;>intro e m
 ·exact iO
 have e:=Aj e (show AV.agg [sL Ty.av k,AV.slice .ja [Fm.av y]]=Sq.av (Sq.mk k [y]) by rw[Sq.ez];rfl);simp[e];refine dM m Gb λ_ m=>?_;exact iO
end Go.Proofs.YtffcgfpaakhbjaaGreatDoor
