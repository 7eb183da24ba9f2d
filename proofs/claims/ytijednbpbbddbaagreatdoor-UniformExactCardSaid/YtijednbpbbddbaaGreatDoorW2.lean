/- Part of the proof of UniformExact, UniformAccepted: walks. -/
import Derived.Test.YtijednbpbbddbaaGreatDoorW1
set_option linter.all false
set_option maxRecDepth 20000
set_option maxHeartbeats 4000000
namespace Go.Proofs.YtijednbpbbddbaaGreatDoor
open Go Go.ns Go.ek Tryz
def zv:C1 prog 144 qN sB Ty.av:=by
 refine u1 2 func144 λT H a0 r m e=>?_;rw[qN] at m;simp[e];refine OV 999 999 (λf h=>h=H/\f.1 2=sB (eH (dm a0.agj 0) (dm (dn a0.agk) 0) false)) ?_ (λ_ g=>?_)
 ·rintro _ _ E;have e:=Aj e E;exact au
 rcases Pb (dm a0.agj 0) e with e|e
 ·exact aj
 exact aj
def PF:C1 prog 220 vE sI sI:=by
 refine u1 6 func220 λT H a0 r m e=>?_;rw[vE] at m;simp[e];refine wj 999 0 (λf h=>h=H/\f.1 3=sI a0/\f.1 4=sB (eH (dm a0 1) true (eH (dm a0 4) true (eH (dm a0 7) true (dm a0 13))))) (λ_ g=>?_) ?_
 ·rcases Pb (dm a0 1) e with e|e
  ·exact aj
  rcases Pb (dm a0 4) e with e|e
  ·exact aj
  rcases Pb (dm a0 7) e with e|e
  ·exact aj
  exact aj
 rintro _ _ E;have e:=Aj e E;apply Iq e m<;>intro e m
 ·apply wg 999;exact au
 apply wg 1;simp[e];refine wj 999 0 (λf h=>h=H/\f.1 3=sI a0/\f.1 9=sB (eH (dm a0 2) true (eH (dm a0 5) true (eH (dm a0 11) true (dm a0 12))))) (λ_ g=>?_) ?_
 ·rcases Pb (dm a0 2) e with e|e
  ·exact aj
  rcases Pb (dm a0 5) e with e|e
  ·exact aj
  rcases Pb (dm a0 11) e with e|e
  ·exact aj
  exact aj
 rintro _ _ E;have e:=Aj e E;apply Iq e m<;>intro e m
 ·apply wg 999;exact au
 apply wg 1;simp[e];refine wj 999 0 (λf h=>h=H/\f.1 3=sI a0/\f.1 14=sB (eH (dm a0 3) true (eH (dm a0 8) true (dm a0 10)))) (λ_ g=>?_) ?_
 ·rcases Pb (dm a0 3) e with e|e
  ·exact aj
  rcases Pb (dm a0 8) e with e|e
  ·exact aj
  exact aj
 rintro _ _ E;have e:=Aj e E;apply Iq e m<;>intro e m
 ·apply wg 999;exact au
 apply wg 1;simp[e];refine OV 999 999 (λf h=>h=H/\f.1 18=sB (eH (dm a0 6) true (dm a0 9))) ?_ (λ_ g=>?_)
 ·rintro _ _ E;have e:=Aj e E;refine Il e m λe m=>?_;exact au
 rcases Pb (dm a0 6) e with e|e
 ·exact aj
 exact aj
def yg{n:Nat}:C1 prog 145 (kh n) sB Tm.av:=by
 refine i1 λn d=>u1 3 func145 λT H a0 r m e=>?_;rw[kh] at m;simp[e];refine Wj m 999 0 (λb f h=>∃v2,(h=H/\f.1 26=sB v2/\bx f 1 (Tm.av a0).cells)/\b v2=some r) (λb _ g m=>?_) ?_
 ·simp[e];refine eO m PF λ_ m=>?_;apply Iq e m<;>intro e m
  ·exact iO
  apply Iq e m<;>intro e m
  ·exact iO
  apply Ir e m<;>intro e m
  ·exact iO
  exact iO
 rintro _ _ ⟨v2,E,m⟩;have e:=Aj e E;apply Iq e m<;>intro e m
 ·apply wg 999;exact au
 apply wg 2;simp[e];refine yU m 3 999 (λc f h=>(h=H/\f.1 1=AV.jo 1 (f.gen 1) 0/\f.box 1=some (Tm.av a0).cells)/\c=some r) ?_ (λc _ g m=>?_)
 ·rintro _ _ ⟨E,m⟩;have e:=Aj e E;simp[e];refine Wr e m 999 (λa _ f h=>h=H/\f.1 42=sL Tm.av a0.agk/\f.1 43=sI (dn a0.agk)/\f.1 44=sI a) aaN (λ_ _ _ _ E m=>?_) (λa _ _ _ _ _ _ _ E e m z p=>?_)
  ·have e:=Aj e E;dsimp only[cS]at m;exact au
  have e:=Aj e E;simp[e];refine eI m d λ_ m=>?_;refine Im e m λe m=>?_;exact al
 simp[e];refine wj 999 999 (λf h=>h=H/\f.1 33=sB (eH (dm a0.agj 2) true (eH (dm a0.agj 6) true (dm a0.agj 9)))/\bx f 1 (Tm.av a0).cells) (λ_ g=>?_) ?_
 ·rcases Pb (dm a0.agj 2) e with e|e
  ·exact aj
  rcases Pb (dm a0.agj 6) e with e|e
  ·exact aj
  exact aj
 rintro _ _ E;have e:=Aj e E;apply Iq e m<;>intro e m
 ·simp[e];refine eI m sS λ_ m=>?_;refine Il e m λe m=>?_;exact ZF
 simp[e];refine eI m zv λ_ m=>?_;refine Im e m λe m=>?_;exact ZF
def vr:C1 prog 165 lB sB sI:=by
 refine u1 2 func165 λT H a0 r m e=>?_;rw[lB] at m;simp[e];refine OV 999 999 (λf h=>h=H/\f.1 2=sB (eH (dm a0 4) true (eH (dm a0 5) true (eH (dm a0 6) true (dm a0 7))))) ?_ (λ_ g=>?_)
 ·rintro _ _ E;have e:=Aj e E;exact au
 rcases Pb (dm a0 4) e with e|e
 ·exact aj
 rcases Pb (dm a0 5) e with e|e
 ·exact aj
 rcases Pb (dm a0 6) e with e|e
 ·exact aj
 exact aj
def Gn{n:Nat}:C1 prog 89 (mo n) sB Fm.av:=by
 refine i1 λn d=>u1 7 func89 λT H a0 r m e=>?_;rw[mo] at m;apply Iq e m<;>intro e m
 ·simp[e];refine yU m 999 999 (λi f h=>∃v2,(h=H/\f.1 2=sB v2)/\i v2=some r) ?_ (λi _ g m=>?_)
  ·rintro _ _ ⟨v2,E,m⟩;have e:=Aj e E;exact au
  apply Ir e m<;>intro e m
  ·exact iO
  simp[e];refine eI m zv λ_ m=>?_;apply Ir e m<;>intro e m
  ·exact iO
  apply Ir e m<;>intro e m
  ·exact iO
  have⟨o,e,m⟩:=fh e m;simp[e];refine eI m yg λ_ m=>?_;apply Ir e m<;>intro e m
  ·exact iO
  have⟨q,e,m⟩:=fh e m;simp[e];refine eI m yg λ_ m=>?_;exact iO
 simp[e];refine wj 999 0 (λf h=>h=H/\f.1 36=sB (eH (dm a0.agj 2) true (dm a0.agj 3))/\bx f 1 (Fm.av a0).cells) (λ_ g=>?_) ?_
 ·rcases Pb (dm a0.agj 2) e with e|e
  ·exact aj
  exact aj
 rintro _ _ E;have e:=Aj e E;apply Ir e m<;>intro e m
 ·apply wg 3;simp[e];refine eI m vr λ_ m=>?_;simp[e];apply Ir e m<;>intro e m
  ·apply wg 999;exact au
  apply wg 1;simp[e];refine yU m 999 999 (λb f h=>∃a,(h=H/\f.1 2=sB a)/\b a=some r) ?_ (λb _ g m=>?_)
  ·rintro _ _ ⟨a,E,m⟩;have e:=Aj e E;exact au
  apply Ir e m<;>intro e m
  ·exact iO
  simp[e];refine eI m sS λ_ m=>?_;apply Ir e m<;>intro e m
  ·exact iO
  apply Ir e m<;>intro e m
  ·exact iO
  have⟨j,e,m⟩:=fh e m;simp[e];refine eI m d λ_ m=>?_;exact iO
 apply wg 1;simp[e];refine yU m 999 999 (λc f h=>∃v24,(h=H/\f.1 2=sB v24)/\c v24=some r) ?_ (λc _ g m=>?_)
 ·rintro _ _ ⟨v24,E,m⟩;have e:=Aj e E;exact au
 apply Ir e m<;>intro e m
 ·exact iO
 simp[e];refine eI m zv λ_ m=>?_;apply Ir e m<;>intro e m
 ·exact iO
 apply Ir e m<;>intro e m
 ·exact iO
 have⟨k,e,m⟩:=fh e m;simp[e];refine eI m d λ_ m=>?_;apply Ir e m<;>intro e m
 ·exact iO
 have⟨l,e,m⟩:=fh e m;simp[e];refine eI m d λ_ m=>?_;exact iO
def h7{n:Nat}:C1 prog 166 (fx n) sI Tm.av:=by
 refine i1 λn b=>v1 func166 λT H a0 r m e=>?_;rw[fx] at m;simp[e];refine Wr e m 999 (λa s2 f h=>h=H/\f.1 3=sI s2/\f.1 7=sL Tm.av a0.agk/\f.1 8=sI (dn a0.agk)/\f.1 9=sI a) aaN (λs2 _ _ _ E m=>?_) (λa _ s2 _ _ _ _ _ E e m z p=>?_)
 ·have e:=Aj e E;dsimp only[cS]at m;exact au
 have e:=Aj e E;simp[e];refine eI m b λ_ m=>?_;exact al
def ye{n:Nat}:C1 prog 90 (ml n) sI Fm.av:=by
 refine i1 λn d=>v1 func90 λT H a0 r m e=>?_;rw[ml] at m;simp[e];refine FC e m 999 (λc s2 f h=>h=H/\f.1 3=sI s2/\f.1 9=sL Tm.av a0.dc/\f.1 10=sI (dn a0.dc)/\f.1 11=sI c/\bx f 1 (Fm.av a0).cells) aaN (λc _ s2 _ _ _ _ _ E e m z p=>?_) (λs2 _ _ _ E m=>?_)
 ·have e:=Aj e E;simp[e];refine eI m h7 λ_ m=>?_;exact al
 have e:=Aj e E;dsimp only[cS]at m;simp[e];refine Wr e m 999 (λb a f h=>h=H/\f.1 3=sI a/\f.1 21=sL Fm.av a0.agk/\f.1 22=sI (dn a0.agk)/\f.1 23=sI b) aaN (λa _ _ _ E m=>?_) (λb _ a _ _ _ _ _ E e m z p=>?_)
 ·have e:=Aj e E;dsimp only[cS]at m;exact au
 have e:=Aj e E;simp[e];refine eI m d λ_ m=>?_;exact al
def n8:C1 prog 51 kg sI Fm.av:=by
 refine v1 func51 λT H a0 r m e=>?_;rw[kg] at m;simp[e];refine eI m Gn λ_ m=>?_;refine Im e m λe m=>?_;simp[e];refine eI m ye λ_ m=>?_;refine Il e m λe m=>?_;exact au
def qW:C1 prog 268 mh sI Tm.av:=by
 refine v1 func268 λT H a0 r m e=>?_;rw[mh] at m;simp[e];refine eI m yg λ_ m=>?_;refine Im e m λe m=>?_;simp[e];refine eI m h7 λ_ m=>?_;refine Il e m λe m=>?_;exact au
def Nv:C1 prog 299 sJ (t2 Ty.av sI) Ty.av:=by
 refine v1 func299 λT H a0 r m e=>?_;rw[sJ] at m;simp[e];refine eI m sS λ_ m=>?_;refine Il e m λe m=>?_;exact au
def Of{n:Nat}:C2 prog 284 (dT n) (t2 Ty.av sI) (sL Ty.av) Tm.av:=by
 refine i2 λn B=>v2 func284 λT H a0 a1 r m e=>?_;rw[dT] at m;apply Iq e m<;>intro e m
 ·refine Il e m λe m=>?_;have⟨x1,e,m⟩:=fh e m;simp[e];refine eI m lD λ_ m=>?_;exact au
 apply Iq e m<;>intro e m
 ·have⟨e,m⟩:=Ck e m;simp[e];refine Ad (f:=Ty.av) a0 [a1.cO] (jj.full (D:=[])) GR e.2 ?_;have⟨x3,e,m⟩:=fh e m;simp[e];refine oA m B λ_ _ m=>?_;refine Il e m λe m=>?_;simp[e];refine eI m r8 λ_ m=>?_;simp[e];refine ke m Nv λ_ _ m=>?_;exact au
 simp[e];refine FC e m 0 (λC c f h=>∃a,(h=H/\f.1 0=sL Ty.av a0/\f.1 8=sT a Ty.av c/\f.1 67=sL Tm.av a1.agk/\f.1 68=sI (dn a1.agk)/\f.1 69=sI C/\bx f 3 (Tm.av a1).cells/\bx f 4 [sI 0,nL])/\Ow f [86] a c) (by exact⟨.full,aaN,jj.full⟩) (λC _ c j _ _ _ _ E e m z p=>?_) (λc j _ _ E m=>?_)
 ·have⟨a,E,b⟩:=E;have e:=Aj e E;apply wg 999;simp[e];refine ke m B λv _ m=>?_;refine Il e m λe m=>?_;have⟨e,m⟩:=Ck e m;simp[e];refine Ao (f:=Ty.av) c [v] b GR e.2 ?_;simp[e];cases m;exact p _ _ _ ⟨(.loc 86 (j.fu 86+1)),aaN,(On 86)⟩ z
 have⟨a,E,b⟩:=E;have e:=Aj e E;apply wg 13;dsimp only[cS]at m;simp[e];refine eI m ji λ_ m=>?_;simp[e];refine eI m qD λw m=>?_;simp[e];apply Iq e m<;>intro e m
 ·apply wg 2;simp[e];refine yU m 999 999 (λq f h=>∃k d,(h=H/\f.1 8=sT d Ty.av c/\f.1 111=sB k/\bx f 4 [sI 0,nL])/\Ow f [86] d c/\q k=some r) ?_ (λq _ g m=>?_)
  ·rintro _ _ ⟨k,d,E,x,m⟩;have e:=Aj e E;refine Il e m λe m=>?_;have⟨F,e,m⟩:=fh e m;have⟨G,e,m⟩:=fh e m;exact au
  have⟨I,e,m⟩:=fh e m;apply Iq e m<;>intro e m
  ·simp[e];exact g _ _ ⟨true,a,aaN,b,m⟩
  have⟨J,e,m⟩:=fh e m;have⟨K,e,m⟩:=fh e m;simp[e];refine eO m jg λy m=>?_;simp[e];exact g _ _ ⟨(m9 y),a,aaN,b,m⟩
 apply wg 3;simp[e];apply Iq e m<;>intro e m
 ·apply wg 999;exact au
 apply wg 3;simp[e];apply Iq e m<;>intro e m
 ·apply wg 999;have⟨L,e,m⟩:=fh e m;simp[e];refine eO m jg λ_ m=>?_;refine Il e m λe m=>?_;exact au
 apply wg 3;simp[e];apply Iq e m<;>intro e m
 ·apply wg 2;simp[e];refine yU m 999 999 (λs f h=>∃l,(h=H/\f.1 162=sB l/\bx f 3 (Tm.av a1).cells/\bx f 4 [sI 0,nL])/\s l=some r) ?_ (λs _ g m=>?_)
  ·rintro _ _ ⟨l,E,m⟩;have e:=Aj e E;refine Il e m λe m=>?_;simp[e];refine eI m lD λ_ m=>?_;exact au
  have⟨M,e,m⟩:=fh e m;simp[e];refine eO m jg λ_ m=>?_;apply Ir e m<;>intro e m
  ·exact iO
  have⟨N,e,m⟩:=fh e m;simp[e];refine eO m r8 λ_ m=>?_;simp[e];refine eO m r8 λ_ m=>?_;simp[e];refine eO m jg λ_ m=>?_;apply Ir e m<;>intro e m
  ·exact iO
  have⟨O,e,m⟩:=fh e m;simp[e];refine eO m jg λ_ m=>?_;exact iO
 apply wg 3;simp[e];apply Iq e m<;>intro e m
 ·apply wg 999;exact au
 apply wg 3;simp[e];apply Iq e m<;>intro e m
 ·apply wg 2;simp[e];refine yU m 999 999 (λt f h=>∃o,(h=H/\f.1 185=sB o/\bx f 4 [sI 0,nL]/\bx f 14 (Ty.av w).cells)/\t o=some r) ?_ (λt _ g m=>?_)
  ·rintro _ _ ⟨o,E,m⟩;have e:=Aj e E;refine Il e m λe m=>?_;exact au
  have⟨P,e,m⟩:=fh e m;simp[e];refine eO m jg λ_ m=>?_;apply Ir e m<;>intro e m
  ·exact iO
  have⟨Q,e,m⟩:=fh e m;simp[e];refine eO m jg λ_ m=>?_;exact iO
 apply wg 3;simp[e];apply Iq e m<;>intro e m
 ·apply wg 2;simp[e];refine yU m 999 999 (λu f h=>∃v59,(h=H/\f.1 220=sB v59/\bx f 3 (Tm.av a1).cells/\bx f 4 [sI 0,nL])/\u v59=some r) ?_ (λu _ g m=>?_)
  ·rintro _ _ ⟨v59,E,m⟩;have e:=Aj e E;refine Il e m λe m=>?_;simp[e];refine eI m lD λ_ m=>?_;exact au
  have⟨R,e,m⟩:=fh e m;simp[e];refine eO m jg λ_ m=>?_;apply Ir e m<;>intro e m
  ·exact iO
  have⟨S,e,m⟩:=fh e m;simp[e];refine eO m r8 λ_ m=>?_;simp[e];refine eO m r8 λ_ m=>?_;simp[e];refine eO m r8 λ_ m=>?_;simp[e];refine eO m jg λ_ m=>?_;apply Ir e m<;>intro e m
  ·exact iO
  have⟨U,e,m⟩:=fh e m;simp[e];refine eO m jg λ_ m=>?_;exact iO
 apply wg 3;simp[e];apply Iq e m<;>intro e m
 ·apply wg 999;have⟨V,e,m⟩:=fh e m;have⟨W,e,m⟩:=fh e m;simp[e];refine eO m KY λ_ m=>?_;simp[e];refine oA m Nv λ_ _ m=>?_;exact au
 apply wg 1;simp[e];refine wj 999 0 (λf h=>∃i,(h=H/\f.1 8=sT i Ty.av c/\f.1 237=sB (eH (dm a1.agj 11) true (dm a1.agj 12))/\bx f 3 (Tm.av a1).cells/\bx f 4 [sI 0,nL])/\Ow f [86] i c) (λ_ g=>?_) ?_
 ·rcases Pb (dm a1.agj 11) e with e|e
  ·simp[e];exact g _ _ ⟨a,aaN,b⟩
  simp[e];exact g _ _ ⟨a,aaN,b⟩
 rintro _ _ ⟨i,E,A⟩;have e:=Aj e E;apply Ir e m<;>intro e m
 ·apply wg 999;simp[e];refine eI m IQ λ_ m=>?_;exact au
 apply wg 4;have⟨X,e,m⟩:=fh e m;simp[e];apply Iq e m<;>intro e m
 ·apply wg 999;exact au
 apply wg 5;simp[e];apply Iq e m<;>intro e m
 ·apply wg 999;have⟨Y,e,m⟩:=fh e m;exact au
 apply wg 999;have⟨Z,e,m⟩:=fh e m;exact au
def Gq:C2 prog 259 pe (t2 Ty.av sI) (sL Ty.av) Tm.av:=by
 refine v2 func259 λT H a0 a1 r m e=>?_;rw[pe] at m;simp[e];refine eI m qW λ_ m=>?_;refine Il e m λe m=>?_;simp[e];refine ke m Of λ_ _ m=>?_;exact au
def OG{n:Nat}:C2 prog 221 (lM n) sI (sL Ty.av) Fm.av:=by
 refine i2 λn l=>v2 func221 λT H a0 a1 r m e=>?_;rw[lM] at m;simp[e];refine FC e m 0 (λk _ f h=>h=H/\f.1 0=sL Ty.av a0/\f.1 13=sL Tm.av a1.dc/\f.1 14=sI (dn a1.dc)/\f.1 15=sI k/\bx f 3 (Fm.av a1).cells) aaN (λk _ _ d _ _ _ _ E e m z p=>?_) (λ_ d _ _ E m=>?_)
 ·have e:=Aj e E;apply wg 999;simp[e];refine ke m Gq λ_ _ m=>?_;refine Il e m λe m=>?_;refine Il e m λe m=>?_;exact al
 have e:=Aj e E;apply wg 5;dsimp only[cS]at m;simp[e];refine Wj m 999 999 (λi f h=>∃c b,(h=H/\f.1 0=sT b Ty.av c/\f.1 3=AV.jo 3 (f.gen 3) 0/\f.box 3=some (Fm.av a1).cells)/\i c=some r) (λi _ g m=>?_) ?_
 ·simp[e];refine eI m vr λ_ m=>?_;apply Ir e m<;>intro e m
  ·simp[e];exact g _ _ ⟨_,.jU,aaN,m⟩
  have⟨e,m⟩:=Ck e m;simp[e];refine Ad (f:=Ty.av) a0 [a1.cO] (jj.full (D:=[])) GR e.2 ?_;simp[e];exact g _ _ ⟨_,(.loc 44 (d.fu 44+1)),aaN,m⟩
 rintro _ _ ⟨c,b,E,m⟩;have e:=Aj e E;simp[e];refine Wr e m 999 (λj _ f h=>∃a,h=H/\f.1 0=sT a Ty.av c/\f.1 46=sL Fm.av a1.agk/\f.1 47=sI (dn a1.agk)/\f.1 48=sI j) ⟨b,aaN⟩ (λ_ _ _ _ E m=>?_) (λj _ _ _ _ _ _ _ E e m z p=>?_)
 ·have⟨a,E⟩:=E;have e:=Aj e E;dsimp only[cS]at m;exact au
 have⟨a,E⟩:=E;have e:=Aj e E;simp[e];refine eI m l λ_ m=>?_;refine Il e m λe m=>?_;simp[e];cases m;exact p _ _ _ ⟨a,aaN⟩ z
def yi:C2 prog 148 jP sI (sL Ty.av) Fm.av:=by
 refine v2 func148 λT H a0 a1 r m e=>?_;rw[jP] at m;simp[e];refine eI m n8 λ_ m=>?_;refine Il e m λe m=>?_;simp[e];refine eI m OG λ_ m=>?_;exact au
def yj:C2 prog 82 jh sI (sL Ty.av) Fm.av:=by
 refine v2 func82 λT H a0 a1 r m e=>?_;rw[jh] at m;simp[e];refine eI m y0 λ_ m=>?_;refine Il e m λe m=>?_;simp[e];refine eI m yi λ_ m=>?_;exact au
def Ln:C2 prog 47 uV sI (sL Fm.av) Sq.av:=by
 refine v2 func47 λT H a0 a1 r m e=>?_;rw[uV] at m;refine Il e m λe m=>?_;simp[e];refine FC e m 999 (λb _ f h=>h=H/\f.1 15=sL Fm.av a0/\f.1 16=sI (dn a0)/\f.1 17=sI b/\bx f 3 (Sq.av a1).cells) aaN (λb _ _ _ _ _ _ _ E e m z p=>?_) (λ_ _ _ _ E m=>?_)
 ·have e:=Aj e E;simp[e];refine eI m yj λ_ m=>?_;refine Il e m λe m=>?_;exact al
 have e:=Aj e E;dsimp only[cS]at m;simp[e];refine eI m y0 λ_ m=>?_;refine Il e m λe m=>?_;refine Il e m λe m=>?_;simp[e];refine Wr e m 999 (λa _ f h=>h=H/\f.1 38=sL Fm.av a1.agq/\f.1 39=sI (dn a1.agq)/\f.1 40=sI a/\bx f 3 (Sq.av a1).cells) aaN (λ_ _ _ _ E m=>?_) (λa _ _ _ _ _ _ _ E e m z p=>?_)
 ·have e:=Aj e E;dsimp only[cS]at m;exact au
 have e:=Aj e E;simp[e];refine eI m yj λ_ m=>?_;refine Il e m λe m=>?_;exact al
def NT:C1 prog 142 oq (t2 eW.av sB) sI:=by
 refine u1 6 func142 λT H a0 r m e=>?_;rw[oq] at m;simp[e];refine wj 999 0 (λf h=>h=H/\f.1 4=sI a0/\f.1 5=sB (eH (dm a0 1) true (dm a0 2))/\bx f 2 [sI 0,sI 0,sI 0,sB false,sB false]) (λ_ g=>?_) ?_
 ·rcases Pb (dm a0 1) e with e|e
  ·exact aj
  exact aj
 rintro _ _ E;have e:=Aj e E;apply Iq e m<;>intro e m
 ·apply wg 999;exact au
 apply wg 1;simp[e];refine wj 999 0 (λf h=>h=H/\f.1 4=sI a0/\f.1 9=sB (eH (dm a0 3) true (dm a0 7))/\bx f 2 [sI 0,sI 0,sI 0,sB false,sB false]) (λ_ g=>?_) ?_
 ·rcases Pb (dm a0 3) e with e|e
  ·exact aj
  exact aj
 rintro _ _ E;have e:=Aj e E;apply Iq e m<;>intro e m
 ·apply wg 999;exact au
 apply wg 1;simp[e];refine wj 999 0 (λf h=>h=H/\f.1 4=sI a0/\f.1 13=sB (eH (dm a0 4) true (eH (dm a0 5) true (dm a0 20)))/\bx f 2 [sI 0,sI 0,sI 0,sB false,sB false]) (λ_ g=>?_) ?_
 ·rcases Pb (dm a0 4) e with e|e
  ·exact aj
  rcases Pb (dm a0 5) e with e|e
  ·exact aj
  exact aj
 rintro _ _ E;have e:=Aj e E;apply Iq e m<;>intro e m
 ·apply wg 999;exact au
 apply wg 3;simp[e];apply Iq e m<;>intro e m
 ·apply wg 999;exact au
 apply wg 1;simp[e];refine wj 999 0 (λf h=>h=H/\f.1 4=sI a0/\f.1 21=sB (eH (dm a0 8) true (dm a0 12))/\bx f 2 [sI 0,sI 0,sI 0,sB false,sB false]) (λ_ g=>?_) ?_
 ·rcases Pb (dm a0 8) e with e|e
  ·exact aj
  exact aj
 rintro _ _ E;have e:=Aj e E;apply Iq e m<;>intro e m
 ·apply wg 999;exact au
 apply wg 1;simp[e];refine wj 999 0 (λf h=>h=H/\f.1 4=sI a0/\f.1 25=sB (eH (dm a0 9) true (dm a0 13))/\bx f 2 [sI 0,sI 0,sI 0,sB false,sB false]) (λ_ g=>?_) ?_
 ·rcases Pb (dm a0 9) e with e|e
  ·exact aj
  exact aj
 rintro _ _ E;have e:=Aj e E;apply Iq e m<;>intro e m
 ·apply wg 999;exact au
 apply wg 1;simp[e];refine wj 999 0 (λf h=>h=H/\f.1 4=sI a0/\f.1 29=sB (eH (dm a0 10) true (dm a0 14))/\bx f 2 [sI 0,sI 0,sI 0,sB false,sB false]) (λ_ g=>?_) ?_
 ·rcases Pb (dm a0 10) e with e|e
  ·exact aj
  exact aj
 rintro _ _ E;have e:=Aj e E;apply Iq e m<;>intro e m
 ·apply wg 999;exact au
 apply wg 1;simp[e];refine wj 999 0 (λf h=>h=H/\f.1 4=sI a0/\f.1 33=sB (eH (dm a0 11) true (dm a0 15))/\bx f 2 [sI 0,sI 0,sI 0,sB false,sB false]) (λ_ g=>?_) ?_
 ·rcases Pb (dm a0 11) e with e|e
  ·exact aj
  exact aj
 rintro _ _ E;have e:=Aj e E;apply Iq e m<;>intro e m
 ·apply wg 999;exact au
 apply wg 1;simp[e];refine wj 999 999 (λf h=>h=H/\f.1 4=sI a0/\f.1 37=sB (eH (dm a0 16) true (dm a0 17))/\bx f 2 [sI 0,sI 0,sI 0,sB false,sB false]) (λ_ g=>?_) ?_
 ·rcases Pb (dm a0 16) e with e|e
  ·exact aj
  exact aj
 rintro _ _ E;have e:=Aj e E;refine Il e m λe m=>?_;refine Il e m λe m=>?_;refine Il e m λe m=>?_;exact au
def N0{n:Nat}:C1 prog 80 (nj n) sB Pf.av:=by
 refine i1 λn l=>u1 5 func80 λT H a0 r m e=>?_;rw[nj] at m;simp[e];refine ke m NT λa j m=>?_;simp[e];refine wj 999 0 (λf h=>h=H/\f.1 57=sB (eH j (eH (dw (dn a0.dc) a.dc) true (eH (dw (dn a0.eo) a.eo) true (eH (dw (dn a0.agk) a.agk) true (eH (pP a0.agm 0) true (eH a.agm false (dw a0.agm 0)))))) true)/\bx f 1 (Pf.av a0).cells/\bx f 3 (eW.av a).cells) (λ_ g=>?_) ?_
 ·rcases Pb j e with e|e;rotate_left
  ·exact aj
  rcases Pb (dw (dn a0.dc) a.dc) e with e|e
  ·exact aj
  rcases Pb (dw (dn a0.eo) a.eo) e with e|e
  ·exact aj
  rcases Pb (dw (dn a0.agk) a.agk) e with e|e
  ·exact aj
  rcases Pb (pP a0.agm 0) e with e|e
  ·exact aj
  rcases Pb a.agm e with e|e
  ·exact aj
  exact aj
 rintro _ _ E;have e:=Aj e E;apply Iq e m<;>intro e m
 ·apply wg 999;exact au
 apply wg 3;simp[e];refine Wj m 999 999 (λk f h=>∃i,(h=H/\f.1 76=sB i/\bx f 1 (Pf.av a0).cells)/\k i=some r) (λk _ g m=>?_) ?_
 ·apply Ir e m<;>intro e m
  ·simp[e];refine eI m zv λ_ m=>?_;exact iO
  simp[e];refine eI m sS λ_ m=>?_;apply Iq e m<;>intro e m
  ·exact iO
  exact iO
 rintro _ _ ⟨i,E,m⟩;have e:=Aj e E;refine Il e m λe m=>?_;simp[e];refine FC e m 999 (λb _ f h=>h=H/\f.1 78=sL Tm.av a0.dc/\f.1 79=sI (dn a0.dc)/\f.1 80=sI b/\bx f 1 (Pf.av a0).cells) aaN (λb _ _ _ _ _ _ _ E e m z p=>?_) (λ_ _ _ _ E m=>?_)
 ·have e:=Aj e E;simp[e];refine eI m yg λ_ m=>?_;refine Im e m λe m=>?_;exact al
 have e:=Aj e E;dsimp only[cS]at m;simp[e];refine FC e m 999 (λc _ f h=>h=H/\f.1 89=sL Fm.av a0.eo/\f.1 90=sI (dn a0.eo)/\f.1 91=sI c/\bx f 1 (Pf.av a0).cells) aaN (λc _ _ _ _ _ _ _ E e m z p=>?_) (λ_ _ _ _ E m=>?_)
 ·have e:=Aj e E;simp[e];refine eI m Gn λ_ m=>?_;refine Im e m λe m=>?_;exact al
 have e:=Aj e E;dsimp only[cS]at m;simp[e];refine Wr e m 999 (λd _ f h=>h=H/\f.1 100=sL Pf.av a0.agk/\f.1 101=sI (dn a0.agk)/\f.1 102=sI d) aaN (λ_ _ _ _ E m=>?_) (λd _ _ _ _ _ _ _ E e m z p=>?_)
 ·have e:=Aj e E;dsimp only[cS]at m;exact au
 have e:=Aj e E;simp[e];refine eI m l λ_ m=>?_;refine Im e m λe m=>?_;exact al
def Oo{n:Nat}:C1 prog 146 (rY n) sB Pf.av:=by
 refine i1 λn d=>v1 func146 λT H a0 r m e=>?_;rw[rY] at m;simp[e];refine FC e m 999 (λc _ f h=>h=H/\f.1 10=sL Tm.av a0.dc/\f.1 11=sI (dn a0.dc)/\f.1 12=sI c/\bx f 1 (Pf.av a0).cells) aaN (λc _ _ _ _ _ _ _ E e m z p=>?_) (λ_ _ _ _ E m=>?_)
 ·have e:=Aj e E;simp[e];refine eI m h7 λ_ m=>?_;refine Il e m λe m=>?_;exact al
 have e:=Aj e E;dsimp only[cS]at m;simp[e];refine FC e m 999 (λa _ f h=>h=H/\f.1 21=sL Fm.av a0.eo/\f.1 22=sI (dn a0.eo)/\f.1 23=sI a/\bx f 1 (Pf.av a0).cells) aaN (λa _ _ _ _ _ _ _ E e m z p=>?_) (λ_ _ _ _ E m=>?_)
 ·have e:=Aj e E;simp[e];refine eI m ye λ_ m=>?_;refine Il e m λe m=>?_;exact al
 have e:=Aj e E;dsimp only[cS]at m;simp[e];refine Wr e m 999 (λb _ f h=>h=H/\f.1 32=sL Pf.av a0.agk/\f.1 33=sI (dn a0.agk)/\f.1 34=sI b) aaN (λ_ _ _ _ E m=>?_) (λb _ _ _ _ _ _ _ E e m z p=>?_)
 ·have e:=Aj e E;dsimp only[cS]at m;exact au
 have e:=Aj e E;simp[e];refine eI m d λ_ m=>?_;refine Im e m λe m=>?_;exact al
def NY{n:Nat}:C1 prog 147 (rV n) sI Pf.av:=by
 refine i1 λn j=>v1 func147 λT H a0 r m e=>?_;rw[rV] at m;simp[e];refine FC e m 999 (λi s2 f h=>h=H/\f.1 3=sI s2/\f.1 11=sL Tm.av a0.dc/\f.1 12=sI (dn a0.dc)/\f.1 13=sI i/\bx f 1 (Pf.av a0).cells) aaN (λi _ s2 _ _ _ _ _ E e m z p=>?_) (λs2 _ _ _ E m=>?_)
 ·have e:=Aj e E;simp[e];refine eI m h7 λ_ m=>?_;exact al
 have e:=Aj e E;dsimp only[cS]at m;simp[e];refine FC e m 999 (λc a f h=>h=H/\f.1 3=sI a/\f.1 23=sL Fm.av a0.eo/\f.1 24=sI (dn a0.eo)/\f.1 25=sI c/\bx f 1 (Pf.av a0).cells) aaN (λc _ a _ _ _ _ _ E e m z p=>?_) (λa _ _ _ E m=>?_)
 ·have e:=Aj e E;simp[e];refine eI m ye λ_ m=>?_;exact al
 have e:=Aj e E;dsimp only[cS]at m;simp[e];refine Wr e m 999 (λd b f h=>h=H/\f.1 3=sI b/\f.1 35=sL Pf.av a0.agk/\f.1 36=sI (dn a0.agk)/\f.1 37=sI d) aaN (λb _ _ _ E m=>?_) (λd _ b _ _ _ _ _ E e m z p=>?_)
 ·have e:=Aj e E;dsimp only[cS]at m;exact au
 have e:=Aj e E;simp[e];refine eI m j λ_ m=>?_;exact al
def Ij:C1 prog 81 tm sB Pf.av:=by
 refine u1 2 func81 λT H a0 r m e=>?_;rw[tm] at m;simp[e];refine yU m 999 999 (λa f h=>∃v2,(h=H/\f.1 2=sB v2)/\a v2=some r) ?_ (λa _ g m=>?_)
 ·rintro _ _ ⟨v2,E,m⟩;have e:=Aj e E;exact au
 simp[e];refine eI m Oo λ_ m=>?_;apply Ir e m<;>intro e m
 ·exact iO
 simp[e];refine eI m NY λ_ m=>?_;exact iO
def Bw:C1 prog 45 qw sI Pf.av:=by
 refine v1 func45 λT H a0 r m e=>?_;rw[qw] at m;simp[e];refine eI m N0 λ_ m=>?_;refine Im e m λe m=>?_;simp[e];refine eI m Ij λ_ m=>?_;refine Il e m λe m=>?_;exact au
def UY:mX prog 222=true:=by kernel_rfl
def af2(fr:Fr)(L:List Int):Prop:=
 (L=[]/\fr.env 3=.slice .full [])\/∃cap,fr.env 3=.A3 17 (fr.gen 17) L.length cap/\fr.box 17=some (yA (λn=>AV.sc (Value.int .i64 n)) L ((cap-L.length)*1))/\L.length<=cap
def E0(T:ec){H:dd}{a0:List (Int×Bool)}{r0:List Int}{af:List (Int×Bool)}{s:Nat}(E:H[s]?=some [xu (λb=>AV.sc (Value.bool b)) a0])(hm:qn a0=some (r0,af)):dY prog T 222 [AV.qZ s] H (AV.slice .jU (List.map (λn=>AV.sc (Value.int .i64 n)) r0)) (fH H s [xu (λb=>AV.sc (Value.bool b)) af]):=by
 unfold qn at hm;have⟨aC,hm⟩:=oR hm;have⟨S,hm⟩:=oR hm;have ah:=fI E;simp only[wh,M0] at hm;have⟨e1,e2⟩:=hm;subst e2;rw[OS E]
 have S:(a0.map (·.1)).Nodup:=by simpa[v8] using S
 refine fl.xm (Post:=λx K=>x=AV.slice .jU (List.map (λn=>AV.sc (Value.int .i64 n)) r0)/\∃X,K=H++X) ?_ (λ_ _ h=>⟨_,h.2.choose_spec,by rw[h.1];simp[AV.low,AV.kx],h.1,rfl⟩);refine fl.intro (fn:=f222) func222 rfl UY (G4 rfl) ?_;refine gM.sr [] λK1 F=>?_;simp;apply F;refine gM.sr [] λK1 F=>?_;simp;apply F;refine gM.yV λK1 F=>?_;refine gM.sr [] λK2 aD=>?_;simp[MI,E,xu];apply aD;refine gM.FE λQ nn ex x r=>?_
 refine gM.RB (λm fr h=>∃(seen:List Nat) (L:List Int),m=MC a0.length seen/\L.length+m<=a0.length/\FI L/\(∀x,x∈L↔∃j∈seen,∃p,a0[j]?=some p/\p.1=x)/\H++[[.p_ s a0.length seen]]=h/\fr.env 7=.eS H.length 0/\af2 fr L) a0.length ?_ ?_
 ·exact⟨[],[],(Tb _).symm,aaB,.nil,aaB,aaB,rfl,.inl ⟨rfl,rfl⟩⟩
 rintro m fr h ⟨seen,L,aE,aS,hA,hL,rfl,G,hs⟩ K3 aF
 have hi:(H++[[AV.p_ s a0.length seen]])[H.length]?=some [AV.p_ s a0.length seen]:=aaB
 have ho:(H++[[AV.p_ s a0.length seen]])[s]?=some [xu (λb=>AV.sc (Value.bool b)) a0]:=by simp[ah,E]
 refine gM.sr [] λK4 ai=>?_;simp only[UF,ev,G];refine S6 a0 hi ho (λak=>?_) (λj p U hj=>?_)
 ·--aT end
  simp;apply ai;refine gM.yV λK5 an=>?_;refine gM.yE λA B ga V=>?_;simp;apply V;refine gM.exit ?_;apply ex;apply F
  have hr:yN [] (a0.map (·.1))=L:=by
   refine FI.eq (zI _ [] .nil S aaB) hA λx=>?_;rw[zJ,hL];simp only[pt,YG,nU];constructor
   ·rintro⟨p,U,rfl⟩;have⟨j,hj⟩:=Yr.1 U;exact⟨j,ak j (qb.1 hj).1,p,hj,rfl⟩
   ·rintro⟨j,_,p,U,rfl⟩;exact⟨p,D8 U,rfl⟩
  rw[hr] at e1;subst e1;rcases hs with⟨rfl,l⟩|⟨cap,l,e,hle⟩
  ·refine gM.sr [] λK6 q=>?_;simp[l];apply q;refine gM.ret ?_;simp[Ai,l]
  ·refine gM.adG 3 (f:=λn=>AV.sc (Value.int .i64 n)) (L:=L) (k:=(cap-L.length)*1) (sz:=1) (d:=17) (g:=fr.gen 17) (cap:=cap) (by intro x;simp) (by intro x;simp) (by simp[l]) aaB aaN ?_;refine gM.sr [] λK6 q=>?_;simp;apply q;refine gM.ret ?_;simp[Ai]
 have ao:j<a0.length:=(qb.1 U).1;have aG:=Vo ao hj
 have aH:(H++[[AV.p_ s a0.length (seen++[j])]])[H.length]?=some [AV.p_ s a0.length (seen++[j])]:=aaB
 have aI:(H++[[AV.p_ s a0.length (seen++[j])]])[s]?=some [xu (λb=>AV.sc (Value.bool b)) a0]:=by simp[ah,E]
 have fH:fH (H++[[AV.p_ s a0.length seen]]) H.length [AV.p_ s a0.length (seen++[j])]=H++[[AV.p_ s a0.length (seen++[j])]]:=aaB
 rw[fH];have aq:=RW (f:=λb=>AV.sc (Value.bool b)) a0 aH aI U
 have ab:p.1∉L:=by
  rw[hL];rintro⟨j',aJ,p',aK,he⟩
  have h1:(a0.map (·.1))[j]?=some p.1:=by rw[xr,U];rfl
  have h2:(a0.map (·.1))[j']?=some p.1:=by rw[xr,aK];simp[he]
  have:j=j':=by
   have aL:j<(a0.map (·.1)).length:=by simpa using ao
   exact(List.getElem?_inj aL S).1 (h1.trans h2.symm)
  subst this;exact hj aJ
 have aR:a0.length<=NS:=QO aC;simp;apply ai;refine gM.yV λK5 an=>?_;refine gM.yE λA B ga V=>?_;simp;apply ga;refine gM.skip ?_;apply an;refine gM.FE λQ1 aM aU x1 r1=>?_;refine gM.sr [] λK6 q=>?_;simp[G,aq];apply q;refine gM.sr [] λK6 q=>?_
 have hlen:∃y,fr.env 3=y/\Lm prog 22 y=some (.sc (.int .i64 L.length)):=by
  rcases hs with⟨rfl,l⟩|⟨cap,l,e,hle⟩
  ·exact⟨_,l,aaB⟩
  ·exact⟨_,l,aaB⟩
 have⟨y,hy,ar⟩:=hlen;simp[hy,ar];apply q
 refine gM.aex (λfr h=>H++[[.p_ s a0.length (seen++[j])]]=h/\fr.env 7=.eS H.length 0/\fr.env 4=.sc (.int .i64 p.1)/\fr.env 5=.sc (.int .i64 (L.length:Int))/\∃cap,fr.env 3=.A3 17 (fr.gen 17) (L.length+1) cap/\fr.box 17=some (yA (λn=>AV.sc (Value.int .i64 n)) (L.take L.length++p.1::L.drop L.length) ((cap-(L.length+1))*1))/\L.length+1<=cap) (λK6 q=>?_) ?_
 ·refine gM.region [] aa6 ?_
  have aw:eV L [p.1]=L.take L.length++p.1::L.drop L.length:=by simp[eV]
  have aV:(eV L [p.1]).length=L.length+1:=by simp[eV]
  rcases hs with⟨rfl,l⟩|⟨cap,l,e,hle⟩
  ·simp[l];refine w_.aah (f:=λn=>AV.sc (Value.int .i64 n)) [p.1] Vh ⟨_,ZY⟩ (by intro x;simp) (by simp[wx,NS]) rfl (by first|rfl|simp) λcap Gc=>?_;simp;apply q;refine⟨rfl,?_,?_,?_,cap,?_,?_,by simpa using Gc⟩<;>simp[G]
  ·simp[l];refine w_.i_ (f:=λn=>AV.sc (Value.int .i64 n)) L [p.1] (cap:=cap) Vh ⟨_,ZY⟩ (by intro x;simp) (by simp[eM];omega) aaB rfl (by first|rfl|simp) aaN hle λg' ax Gc=>?_;rw[aw] at Gc;simp only[aw];simp;apply q;refine⟨rfl,?_,?_,?_,ax,?_,?_,by simpa using Gc⟩<;>simp[G]
 rintro aW h6 ⟨rfl,f7,f4,f5,cap,f3,f17,ay⟩
 refine gM.aex (λfr h=>H++[[.p_ s a0.length (seen++[j])]]=h/\fr.env 7=.eS H.length 0/\fr.env 4=.sc (.int .i64 p.1)/\∃(i:Nat) (z:Int),fr.env 5=.sc (.int .i64 (i:Int))/\i<=L.length/\(∀a∈L.drop i,a>p.1)/\(i=0\/∃a,L[i-1]?=some a/\¬a>p.1)/\∃cap,fr.env 3=.A3 17 (fr.gen 17) (L.length+1) cap/\fr.box 17=some (yA (λn=>AV.sc (Value.int .i64 n)) (L.take i++z::L.drop i) ((cap-(L.length+1))*1))/\L.length+1<=cap) (λK7 aN=>?_) ?_
 ·refine gM.FE λQ2 aX az x2 r2=>?_
  refine gM.RB (λi fr h=>H++[[.p_ s a0.length (seen++[j])]]=h/\fr.env 7=.eS H.length 0/\fr.env 4=.sc (.int .i64 p.1)/\∃(z:Int),fr.env 5=.sc (.int .i64 (i:Int))/\i<=L.length/\(∀a∈L.drop i,a>p.1)/\∃cap,fr.env 3=.A3 17 (fr.gen 17) (L.length+1) cap/\fr.box 17=some (yA (λn=>AV.sc (Value.int .i64 n)) (L.take i++z::L.drop i) ((cap-(L.length+1))*1))/\L.length+1<=cap) L.length ?_ ?_
  ·exact⟨rfl,f7,f4,p.1,f5,ig _,aaB,cap,f3,f17,ay⟩
  clear f7 f4 f5 f3 f17 ay hy ar G hs;rintro i fr h ⟨rfl,G,e4,z,R,w,I,cap,l,e,hle⟩ K8 aO
  have stop:∀fr':Fr,fr'.env 7=.eS H.length 0->fr'.env 4=.sc (.int .i64 p.1)->fr'.env 5=.sc (.int .i64 (i:Int))->fr'.env 3=fr.env 3->fr'.gen=fr.gen->fr'.box=fr.box->(i=0\/∃a,L[i-1]?=some a/\¬a>p.1)->K7 fr' (H++[[.p_ s a0.length (seen++[j])]]):=by
   intro fr' g7 g4 g5 g3 gg V W;exact aN _ _ ⟨rfl,g7,g4,i,z,g5,w,I,W,cap,by rw[g3,l,gg],by rw[V,e],hle⟩
  refine gM.yV λK9 aP=>?_;refine gM.sr [] λaY Y=>?_;obtain⟨c,D⟩:∃c:Int,c=(i:Int):=⟨_,rfl⟩;rw[<-D] at R;cases i with
  |zero=>
   have W:nW c 0=false:=by rw[D];decide
   simp[R,W];apply Y;refine gM.yE λA B ga V=>?_;simp;apply V;refine gM.exit ?_;apply az;refine stop _ ?_ ?_ ?_ ?_ ?_ ?_ (.inl rfl)<;>simp[G,e4,R,D]
  |succ i=>
   have W:nW c 0=true:=by rw[D];simp[nW]
   obtain⟨Z,ad⟩:∃Z:Int,Z=(i:Int):=⟨_,rfl⟩
   have J:ea .i64 c 1=Z:=by rw[D,ad];exact WH VW
   obtain⟨x,hx⟩:∃x,L[i]?=some x:=⟨_,nw VW⟩
   have C:(L.take (i+1)++z::L.drop (i+1)).length=L.length+1:=aaP
   have aa:df (L.take (i+1)++z::L.drop (i+1)) Z=some x:=by
    unfold df;rw[cK VW,ad,yz,s_ (by rw[Dr];omega),Me,cK VW,hx]
   have O:0<=Z/\Z<((L.length+1:Nat):Int):=VW
   have o:0<=c/\c<((L.length+1:Nat):Int):=VW
   have ae:=RK (P:=prog) (t:=3) (f:=λn=>AV.sc (Value.int .i64 n)) (k:=(cap-(L.length+1))*1) V4 (by intro x;simp) aa;generalize hM:L.take (i+1)++z::L.drop (i+1)=M at e C aa ae;generalize hN:L.length+1=N at l e hle C O o ae
   have aA:∀fr':Fr,fr'.gen 17=fr.gen 17->fr'.box 17=fr.box 17->yp prog fr' (H++[[AV.p_ s a0.length (seen++[j])]]) 3 (.jo 17 (fr.gen 17) (QU Z.toNat 1))=some (.sc (.int .i64 x)):=by
    intro fr' g1 g2;show(if fr.gen 17=fr'.gen 17 then(match fr'.box 17 with|some cs=>p0 prog 3 cs (QU Z.toNat 1)|none=>none)else none)=_;rw[cK g1.symm,g2,e];exact ae
   simp[R,l,W,J,O,aA,e4,-yp];apply Y;have aZ:M.length=N:=C
   have u:df M c=some z:=by
    unfold df;rw[cK VW,D,yz,<-hM,xj aaP];simp[Dr,show min (i+1) L.length=i+1 from by omega]
   have v:xk M c x=L.take i++x::L.drop i:=by
    have hd:L.drop i=x::L.drop (i+1):=by
     rw[L2 (by omega:i<L.length)]
     congr 1
     exact(qb.1 hx).2
    have ht:L.take (i+1)=L.take i++[x]:=by rw[Ww,hx];rfl
    unfold xk;rw[D,yz,<-hM,hd,aeA _ _ aaP];rw[Dr,show min (i+1) L.length=i+1 from by omega,Tj,ad8,ht,ry];rfl
   refine gM.yE λA B ga V=>?_;rcases Bool.eq_false_or_eq_true (nW x p.1)with hgx|hgx
   ·simp[hgx];apply ga;refine gM.skip ?_;apply aP;refine gM.FE λQ3 aQ a1 x3 r3=>?_;refine gM.sr [] λa6 aB=>?_;simp[R,l,J,O,o,aA,e4,-yp];refine EC.arr (f:=λn=>AV.sc (Value.int .i64 n)) (L:=M) (k:=(cap-N)*1) x V4 (by intro x;simp) aaB (x:=z) u aaB aaN aaB ?_;simp;apply aB;refine gM.region [] aa6 ?_;simp[R,J];apply aQ;rw[v];refine aO _ _ i (Oc _) ⟨rfl,?_,?_,x,?_,VW,?_,cap,?_,?_,by rw[hN];exact hle⟩
    ·simp[G]
    ·simp[e4]
    ·simp[ad]
    ·intro a ha
     have hd:L.drop i=x::L.drop (i+1):=by
      rw[L2 (by omega:i<L.length)]
      congr 1
      exact(qb.1 hx).2
     rw[hd] at ha;rcases iL.1 ha with rfl|ha
     ·simpa[nW] using hgx
     ·exact I a ha
    ·simp[l,hN]
    ·simp[hN]
   ·simp[hgx];apply V;refine gM.exit ?_;apply az;refine stop _ ?_ ?_ ?_ ?_ ?_ ?_ (.inr ⟨x,by simpa using hx,by simpa[nW] using hgx⟩)<;>simp[G,e4,R,l,D]
 rintro fr h ⟨rfl,G,e4,i,z,R,w,I,W,cap,l,e,hle⟩;refine gM.region [] aa6 ?_;obtain⟨c,D⟩:∃c:Int,c=(i:Int):=⟨_,rfl⟩;rw[<-D] at R
 have C:(L.take i++z::L.drop i).length=L.length+1:=aaP
 have u:df (L.take i++z::L.drop i) c=some z:=by
  unfold df;rw[cK VW,D,yz,xj aaP];simp[Dr,Ts w]
 have v:xk (L.take i++z::L.drop i) c p.1=El p.1 L:=by
  rw[SM L i hA ab w I W];unfold xk;rw[D,yz,aeA _ _ aaP,Dr,Ts w,Tj,ad8]
 have o:0<=c/\c<((L.length+1:Nat):Int):=VW
 have hlen:(El p.1 L).length=L.length+1:=by rw[SM L i hA ab w I W];simp;omega
 generalize hM:L.take i++z::L.drop i=M at e C u v;generalize hN:L.length+1=N at l e hle C o hlen;simp[R,l,e4,o];refine EC.arr (f:=λn=>AV.sc (Value.int .i64 n)) (L:=M) (k:=(cap-N)*1) p.1 V4 (by intro x;simp) aaB (x:=z) u aaB aaN aaB ?_;simp;apply aM;rw[v];refine aF _ _ _ (by rw[aE];exact aG) ⟨seen++[j],El p.1 L,rfl,VW,LY p.1 L ab hA,?_,rfl,?_,.inr ⟨cap,?_,?_,by rw[hlen];exact hle⟩⟩
 ·intro x;rw[EM,hL];constructor
  ·rintro(rfl|⟨j',h1,p',h2,h3⟩)
   ·exact⟨j,aaB,p,U,rfl⟩
   ·exact⟨j',by simp[h1],p',h2,h3⟩
  ·rintro⟨j',h1,p',h2,h3⟩;rcases rS.1 h1 with h1|h1
   ·exact .inr ⟨j',h1,p',h2,h3⟩
   ·simp only[uR] at h1;subst h1;rw[U] at h2;obtain rfl:=gB h2;exact .inl h3.symm
 ·simp[G]
 ·simp[l,hlen]
 ·simp[hlen]
def oc(T:ec){H:dd}{a0 a1 c:List Int}(hm:eY a0 a1=some c):dY prog T 150 [sL sI a0,sL sI a1] H (sL sI c) H:=by
 rw[eY] at hm;refine fl.xm (Post:=λx K=>x=sL sI c/\∃X,K=H++X) ?_ (λ_ _ h=>⟨_,h.2.choose_spec,by rw[h.1];simp[AV.low,AV.kx],h.1,rfl⟩);have e:=trivial;refine wi ago func150 [] [] 999 ?_;simp[e];refine FC e hm 999 (λd s2 f h=>h=H++[[xu sB s2]]/\f.1 1=sL sI a1/\f.1 5=AV.qZ (List.length H)/\f.1 11=sL sI a0/\f.1 12=sI (dn a0)/\f.1 13=sI d) aaN (λd _ s2 _ _ _ _ _ E e m z p=>?_) (λs2 _ _ _ E m=>?_)
 ·have e:=Aj e E;simp[e];refine yo.i64 (f:=sB) s2 true Tp zC aaN aaN ?_;exact al
 have e:=Aj e E;dsimp only[cS]at m;simp[e];refine Wr e m 999 (λb a f h=>h=H++[[xu sB a]]/\f.1 5=AV.qZ (List.length H)/\f.1 20=sL sI a1/\f.1 21=sI (dn a1)/\f.1 22=sI b) aaN (λa _ _ _ E m=>?_) (λb _ a _ _ _ _ _ E e m z p=>?_)
 ·have e:=Aj e E;dsimp only[cS]at m;simp[e];refine ke m (E0 T aaN) λ_ d20 m=>?_;exact au
 have e:=Aj e E;simp[e];refine yo.i64 (f:=sB) a true Tp zC aaN aaN ?_;exact al
def oi:C3 prog 151 di sI cW.av sI sI:=by
 refine u3 3 func151 λT H a0 a1 a2 r m e=>?_;rw[di] at m;simp[e];refine OV 999 999 (λf h=>h=H/\f.1 20=sB (eH (nW (dR .i64 (dn a0.agn) a1) 16) true (nW (dR .i64 (dn a0.agq) a2) 16))) ?_ (λ_ g=>?_)
 ·rintro _ _ E;have e:=Aj e E;refine Il e m λe m=>?_;exact au
 rcases Pb (nW (dR .i64 (dn a0.agn) a1) 16) e with e|e
 ·exact aj
 exact aj
def qv:C2 prog 152 eT cW.av cW.av Fm.av:=by
 refine v2 func152 λT H a0 a1 r m e=>?_;rw[eT] at m;have⟨e,m⟩:=Ck e m;simp[e];refine Ad (f:=Fm.av) a0.agq [a1] (jj.full (D:=[])) Jv e.2 ?_;exact au
def DD{n:Nat}:C2 prog 78 (iK n) sB Tm.av Tm.av:=by
 refine i2 λn c=>u2 3 func78 λT H a0 a1 r m e=>?_;rw[iK] at m;simp[e];refine Wj m 999 999 (λa f h=>∃v2,(h=H/\f.1 34=sB v2/\bx f 2 (Tm.av a0).cells/\bx f 3 (Tm.av a1).cells)/\a v2=some r) (λa _ g m=>?_) ?_
 ·apply Iq e m<;>intro e m
  ·exact iO
  apply Iq e m<;>intro e m
  ·exact iO
  simp[e];refine eI m jg λ_ m=>?_;apply Ir e m<;>intro e m
  ·exact iO
  exact iO
 rintro _ _ ⟨v2,E,m⟩;have e:=Aj e E;refine Il e m λe m=>?_;simp[e];refine Wr e m 999 (λb _ f h=>h=H/\f.1 37=sI (dn a0.agk)/\f.1 38=sI b/\bx f 2 (Tm.av a0).cells/\bx f 3 (Tm.av a1).cells) aaN (λ_ _ _ _ E m=>?_) (λb _ _ _ _ _ _ _ E e m z p=>?_)
 ·have e:=Aj e E;dsimp only[cS]at m;exact au
 have e:=Aj e E;have⟨d,e,m⟩:=fh e m;simp[e];refine eO m c λ_ m=>?_;refine Im e m λe m=>?_;exact al
def BC{n:Nat}:C2 prog 257 (kJ n) sB Tm.av sI:=by
 refine i2 λn b=>v2 func257 λT H a0 a1 r m e=>?_;rw[kJ] at m;refine Il e m λe m=>?_;simp[e];refine Wr e m 999 (λa _ f h=>h=H/\f.1 1=sI a1/\f.1 12=sL Tm.av a0.agk/\f.1 13=sI (dn a0.agk)/\f.1 14=sI a) aaN (λ_ _ _ _ E m=>?_) (λa _ _ _ _ _ _ _ E e m z p=>?_)
 ·have e:=Aj e E;dsimp only[cS]at m;exact au
 have e:=Aj e E;simp[e];refine eI m b λ_ m=>?_;refine Im e m λe m=>?_;exact al
def P4:C1 prog 302 vt sB Tm.av:=by
 refine u1 8 func302 λT H a0 r m e=>?_;rw[vt] at m;simp[e];apply Iq e m<;>intro e m
 ·apply wg 999;have⟨i,e,m⟩:=fh e m;exact au
 apply wg 3;simp[e];apply Iq e m<;>intro e m
 ·apply wg 1;simp[e];refine yU m 999 999 (λa f h=>∃v3,(h=H/\f.1 2=sB v3)/\a v3=some r) ?_ (λa _ g m=>?_)
  ·rintro _ _ ⟨v3,E,m⟩;have e:=Aj e E;exact au
  have⟨j,e,m⟩:=fh e m;apply Iq e m<;>intro e m
  ·exact iO
  exact iO
 apply wg 4;apply Iq e m<;>intro e m
 ·simp[e];refine yU m 999 999 (λb f h=>∃v9,(h=H/\f.1 2=sB v9)/\b v9=some r) ?_ (λb _ g m=>?_)
  ·rintro _ _ ⟨v9,E,m⟩;have e:=Aj e E;exact au
  have⟨c,e,m⟩:=fh e m;apply Iq e m<;>intro e m
  ·exact iO
  exact iO
 simp[e];refine wj 999 999 (λf h=>h=H/\f.1 45=sB (eH (dm a0.agj 11) true (dm a0.agj 12))/\bx f 1 (Tm.av a0).cells) (λ_ g=>?_) ?_
 ·rcases Pb (dm a0.agj 11) e with e|e
  ·exact aj
  exact aj
 rintro _ _ E;have e:=Aj e E;refine Im e m λe m=>?_;have⟨d,e,m⟩:=fh e m;exact au
def uW:C1 prog 238 lb sI Tm.av:=by
 refine v1 func238 λT H a0 r m e=>?_;rw[lb] at m;refine Il e m λe m=>?_;exact au
def Gj{n:Nat}:C2 prog 300 (mm n) sI Tm.av sI:=by
 refine i2 λn c=>u2 4 func300 λT H a0 a1 r m e=>?_;rw[mm] at m;simp[e];refine wj 0 999 (λf h=>h=H/\f.1 1=sI a1/\f.1 5=sI (eH (eH (dm a0.agj 1) (dm a0.agm a1) false) (dR .i64 0 1) 0)/\bx f 2 (Tm.av a0).cells) (λ_ g=>?_) ?_
 ·refine wj 999 999 (λf h=>h=H/\f.1 1=sI a1/\f.1 5=sI 0/\f.1 16=sB (eH (dm a0.agj 1) (dm a0.agm a1) false)/\bx f 2 (Tm.av a0).cells) (λ_ g=>?_) ?_
  ·rcases Pb (dm a0.agj 1) e with e|e
   ·exact aj
   exact aj
  rintro _ _ E;have e:=Aj e E;rcases Pb (eH (dm a0.agj 1) (dm a0.agm a1) false) e with e|e
  ·exact aj
  exact aj
 rintro _ _ E;have e:=Aj e E;simp[e];refine Wr e m 999 (λb a f h=>h=H/\f.1 1=sI a1/\f.1 5=sI a/\f.1 20=sL Tm.av a0.agk/\f.1 21=sI (dn a0.agk)/\f.1 22=sI b/\bx f 2 (Tm.av a0).cells) aaN (λa _ _ _ E m=>?_) (λb _ a _ _ _ _ _ E e m z p=>?_)
 ·have e:=Aj e E;dsimp only[cS]at m;exact au
 have e:=Aj e E;simp[e];refine eO m uW λ_ m=>?_;simp[e];refine eO m c λ_ m=>?_;exact al
def Mu:C1 prog 303 sb sI Tm.av:=by
 refine v1 func303 λT H a0 r m e=>?_;rw[sb] at m;simp[e];refine eI m h7 λ_ m=>?_;apply Iq e m<;>intro e m
 ·have⟨o,e,m⟩:=fh e m;have⟨q,e,m⟩:=fh e m;have⟨s,e,m⟩:=fh e m;simp[e];refine eO m h7 λ_ m=>?_;simp[e];refine eO m Gj λ_ m=>?_;simp[e];refine eO m h7 λ_ m=>?_;exact au
 apply Iq e m<;>intro e m
 ·have⟨t,e,m⟩:=fh e m;apply Iq e m<;>intro e m
  ·have⟨u,e,m⟩:=fh e m;simp[e];refine eI m h7 λ_ m=>?_;exact au
  have⟨a,e,m⟩:=fh e m;simp[e];refine eO m h7 λ_ m=>?_;have⟨b,e,m⟩:=fh e m;simp[e];refine eO m h7 λ_ m=>?_;exact au
 apply Ir e m<;>intro e m
 ·apply Iq e m<;>intro e m
  ·have⟨c,e,m⟩:=fh e m;have⟨d,e,m⟩:=fh e m;simp[e];refine eI m h7 λ_ m=>?_;exact au
  have⟨f,e,m⟩:=fh e m;have⟨h,e,m⟩:=fh e m;simp[e];refine eI m h7 λ_ m=>?_;exact au
 have⟨i,e,m⟩:=fh e m;apply Iq e m<;>intro e m
 ·have⟨j,e,m⟩:=fh e m;simp[e];refine eI m h7 λ_ m=>?_;exact au
 have⟨k,e,m⟩:=fh e m;have⟨l,e,m⟩:=fh e m;have⟨n,e,m⟩:=fh e m;simp[e];refine eO m h7 λ_ m=>?_;simp[e];refine eO m h7 λ_ m=>?_;simp[e];refine eO m h7 λ_ m=>?_;simp[e];refine eO m h7 λ_ m=>?_;exact au
def GC{n:Nat}:C3 prog 174 (qH n) Tm.av Tm.av sI sI:=by
 refine i3 λn k=>u3 4 func174 λT H a0 a1 a2 r m e=>?_;rw[qH] at m;simp[e];refine wj 0 999 (λf h=>h=H/\f.1 1=sI a1/\f.1 2=sI a2/\bx f 3 (Tm.av a0).cells/\bx f 6 [sI 0,sI 0,sI 0,nL,nL]/\bx f 7 [sI a0.agj,sI (eH (eH (dm a0.agj 1) (rZ a0.agm a1) false) (dR .i64 a0.agm a2) a0.agm),sI a0.cO.agj,sL Ty.av a0.cO.agk,nL]) (λ_ g=>?_) ?_
 ·refine wj 999 999 (λf h=>h=H/\f.1 1=sI a1/\f.1 2=sI a2/\f.1 25=sB (eH (dm a0.agj 1) (rZ a0.agm a1) false)/\bx f 3 (Tm.av a0).cells/\bx f 6 [sI 0,sI 0,sI 0,nL,nL]/\bx f 7 [sI a0.agj,sI a0.agm,sI a0.cO.agj,sL Ty.av a0.cO.agk,nL]) (λ_ g=>?_) ?_
  ·rcases Pb (dm a0.agj 1) e with e|e
   ·exact aj
   exact aj
  rintro _ _ E;have e:=Aj e E;rcases Pb (eH (dm a0.agj 1) (rZ a0.agm a1) false) e with e|e
  ·exact aj
  exact aj
 rintro _ _ E;have e:=Aj e E;simp[e];refine Wr e m 999 (λj c f h=>∃a,(h=H/\f.1 1=sI a1/\f.1 2=sI a2/\f.1 32=sL Tm.av a0.agk/\f.1 33=sI (dn a0.agk)/\f.1 34=sI j/\bx f 3 (Tm.av a0).cells/\bx f 6 [sI 0,sI 0,sI 0,nL,nL]/\bx f 7 [sI a0.agj,sI (eH (eH (dm a0.agj 1) (rZ a0.agm a1) false) (dR .i64 a0.agm a2) a0.agm),sI a0.cO.agj,sL Ty.av a0.cO.agk,sT a Tm.av c])/\Ow f [48] a c) (by exact⟨.full,aaN,jj.full⟩) (λc d _ _ E m=>?_) (λj _ c d _ _ _ _ E e m z p=>?_)
 ·have⟨a,E,b⟩:=E;have e:=Aj e E;dsimp only[cS]at m;exact au
 have⟨a,E,b⟩:=E;have e:=Aj e E;simp[e];refine eO m uW λ_ m=>?_;simp[e];refine eO m k λi m=>?_;have⟨e,m⟩:=Ck e m;simp[e];refine Ad (f:=Tm.av) c [i] b F1 e.2 ?_;simp[e];cases m;exact p _ _ _ ⟨(.loc 48 (d.fu 48+1)),aaN,(On 48)⟩ z
def Nk{n:Nat}:C4 prog 301 (wQ n) Tm.av Tm.av sI sI Tm.av:=by
 refine i4 λn k=>v4 func301 λT H a0 a1 a2 a3 r m e=>?_;rw[wQ] at m;apply Iq e m<;>intro e m
 ·apply Iq e m<;>intro e m
  ·simp[e];refine eI m GC λ_ m=>?_;exact au
  refine Im e m λe m=>?_;simp[e];refine eI m gV λ_ m=>?_;exact au
 simp[e];refine Wr e m 999 (λj c f h=>∃a,(h=H/\f.1 1=sI a1/\f.1 2=sI a2/\f.1 45=sL Tm.av a0.agk/\f.1 46=sI (dn a0.agk)/\f.1 47=sI j/\bx f 4 (Tm.av a0).cells/\bx f 7 (Tm.av a3).cells/\bx f 8 [sI 0,sI 0,sI 0,nL,nL]/\bx f 9 [sI a0.agj,sI a0.agm,sI a0.cO.agj,sL Ty.av a0.cO.agk,sT a Tm.av c])/\Ow f [62] a c) (by exact⟨.full,aaN,jj.full⟩) (λc d _ _ E m=>?_) (λj _ c d _ _ _ _ E e m z p=>?_)
 ·have⟨a,E,b⟩:=E;have e:=Aj e E;dsimp only[cS]at m;exact au
 have⟨a,E,b⟩:=E;have e:=Aj e E;simp[e];refine eO m uW λ_ m=>?_;simp[e];refine eO m k λi m=>?_;have⟨e,m⟩:=Ck e m;simp[e];refine Ad (f:=Tm.av) c [i] b F1 e.2 ?_;simp[e];cases m;exact p _ _ _ ⟨(.loc 62 (d.fu 62+1)),aaN,(On 62)⟩ z
def Ly:C1 prog 304 q9 Tm.av Tm.av:=by
 refine v1 func304 λT H a0 r m e=>?_;rw[q9] at m;apply Iq e m<;>intro e m
 ·have⟨o,e,m⟩:=fh e m;have⟨q,e,m⟩:=fh e m;have⟨s,e,m⟩:=fh e m;simp[e];refine eO m Nk λ_ m=>?_;exact au
 apply Iq e m<;>intro e m
 ·have⟨t,e,m⟩:=fh e m;apply Iq e m<;>intro e m
  ·have⟨u,e,m⟩:=fh e m;exact au
  have⟨v,e,m⟩:=fh e m;have⟨w,e,m⟩:=fh e m;simp[e];refine eO m gL λ_ m=>?_;have⟨a,e,m⟩:=fh e m;simp[e];refine eO m oG λ_ m=>?_;simp[e];refine eO m gL λ_ m=>?_;exact au
 apply Ir e m<;>intro e m
 ·apply Iq e m<;>intro e m
  ·have⟨b,e,m⟩:=fh e m;have⟨c,e,m⟩:=fh e m;exact au
  have⟨d,e,m⟩:=fh e m;have⟨f,e,m⟩:=fh e m;exact au
 have⟨h,e,m⟩:=fh e m;apply Iq e m<;>intro e m
 ·have⟨i,e,m⟩:=fh e m;exact au
 have⟨j,e,m⟩:=fh e m;have⟨k,e,m⟩:=fh e m;have⟨l,e,m⟩:=fh e m;simp[e];refine eO m gL λ_ m=>?_;simp[e];refine eO m gL λ_ m=>?_;have⟨n,e,m⟩:=fh e m;simp[e];refine eO m oG λ_ m=>?_;simp[e];refine eO m gL λ_ m=>?_;exact au
def Vx:mX prog 288=true:=by kernel_rfl
def Od:∀(n:Nat),C2 prog 288 (nC n) (t3 Tm.av sB sB) Tm.av sI:=by
  intro n
  induction n with
  |zero=>
    skip
    all_goals(intro _ _;intros;rename_i hm;cases hm)
  |succ n ih=>
 rintro T H a0 a1 ⟨r0,r1,r2⟩ hm;rw[nC] at hm;refine fl.intro (fn:=f288) func288 rfl Vx (G4 rfl) ?_;refine gM.sr [] λK1 aS=>?_;simp;apply aS;refine gM.yV λK3 aT=>?_;refine gM.sr [] λK5 aU=>?_;have⟨x7,aV,G⟩:=dJ hm;clear hm
 try dsimp only at G
 simp;refine nM.fn (P4 aV) ?_;simp;apply aU;refine gM.yE λbl bm ah ai=>?_;rcases kU G with⟨a,I⟩|⟨a,J⟩
 ·clear G;simp[a];apply ah;refine gM.yV λbn ak=>?_;refine gM.sr [] λbo an=>?_;have⟨bp,ao,w⟩:=dJ I;clear I
  try dsimp only at w
  simp[a];refine nM.fn (Mu ao) ?_;simp[a];apply an;refine gM.yE λbq br aq ar=>?_;rcases kU w with⟨p,K⟩|⟨p,M⟩
  ·clear w;simp[a,p];apply aq;refine gM.sr [] λbs aw=>?_;simp[a,p];apply aw;refine gM.ret ?_;simp only[wh,M0] at K;obtain⟨rfl,rfl,rfl⟩:=K;simp[Ai,a,p]
  clear w;simp[a,p];apply ar;refine gM.skip ?_;apply ak;refine gM.sr [] λbt ax=>?_;have⟨bu,ay,B⟩:=dJ M;clear M
  try dsimp only at B
  simp[a,p];refine nM.fn (Ly ay) ?_;simp[a,p];apply ax;refine gM.ret ?_;simp only[wh,M0] at B;obtain⟨rfl,rfl,rfl⟩:=B;simp[Ai,a,p]
 clear G;simp[a];apply ai;refine gM.skip ?_;apply aT;refine gM.yV λbw az=>?_;refine gM.sr [] λbz aA=>?_;simp[a];apply aA;have⟨P,N⟩:=oR J;clear J;have⟨aW,aB,C⟩:=lK N;clear N
 try dsimp only at C
 have⟨Q,q,o⟩:=dJ C;clear C;refine gM.FE λbA aX aC aY aD=>?_;refine gM.RB (λn55 fr h=>∃(i56:Nat) (A:Int) (r:Nat) (s:Nat),H=h/\(fr.env 1=sI a1/\fr.env 2=AV.jo 2 r 0/\fr.env 4=AV.jo 4 s 0/\fr.env 23=sL Tm.av a0.agk/\fr.env 24=sI (dn a0.agk)/\fr.env 25=sI A/\fr.gen 2=r/\fr.box 2=some [sI a0.agj,sI a0.agm,sI a0.cO.agj,sL Ty.av a0.cO.agk,sL Tm.av a0.agk]/\fr.gen 4=s/\fr.box 4=some [sI 0,sI 0,sI 0,nL,nL])/\A=(i56:Int)/\i56+n55=List.length a0.agk/\dP aW (List.drop i56 a0.agk) i56 ()=some Q) (List.length a0.agk) ?_ ?_
 ·refine⟨0,0,1,1,?_,⟨?_,?_,?_,?_,?_,?_,?_,?_,?_,?_⟩,rfl,aaB,q⟩<;>first|rfl|simp[a]
 rintro n55 O bB ⟨i56,A,r,s,rfl,i,v,aZ,q⟩ bC aE;rcases n55 with _|n55
 ·have b:=RG (l:=a0.agk) v VW;refine gM.sr [] λbD aF=>?_;simp[i,b,a];apply aF;refine gM.yV λbE a6=>?_;refine gM.yE λbF bG a7 aG=>?_;simp[i,b,a];apply aG;refine gM.exit ?_;apply aC;rw[H9 VW,lT] at q;obtain rfl:=gB q;rw[cS] at o
  try dsimp only at o
  apply az;refine gM.sr [] λbH aH=>?_;simp[i,b,a];apply aH;refine gM.ret ?_;simp only[wh,M0] at o;obtain⟨rfl,rfl,rfl⟩:=o;simp[Ai,i,b,a]
 have b:=Uk (l:=a0.agk) v VW;have⟨bI,R,e⟩:=Rb (l:=a0.agk) v VW;rw[R,dq] at q;have⟨bJ,y,z⟩:=dJ q;clear q;rw[aB,<-v] at y
 try dsimp only at y
 refine gM.sr [] λbK aI=>?_;simp[i,b,e,a];apply aI;refine gM.yV λbL aJ=>?_;refine gM.yE λbM bN aK a8=>?_;simp[i,b,e,a];apply aK;refine gM.skip ?_;apply aJ;refine gM.yV λbO aL=>?_;refine gM.FE λbP a_ aM a' aN=>?_;refine gM.sr [] λbQ aO=>?_;simp[i,b,e,a];apply aO;refine gM.sr [] λbR aP=>?_;have⟨S,bS,ba,U,t⟩:=AX y;clear y
 try dsimp only at t
 simp[i,b,e,a];refine nM.fn (ih U) ?_;simp[i,b,e,a];apply aP;refine gM.yV λbb V=>?_;refine gM.sr [] λbc W=>?_;simp[i,b,e,a];apply W;refine gM.yE λbd bf X Y=>?_;rcases kU t with⟨c,D⟩|⟨c,Z⟩;rotate_left
 ·clear t;simp[i,b,e,a,c];apply X;refine gM.exit ?_;apply aM;apply aL;refine gM.region [] aa6 ?_;simp[i,b,e,a,c];obtain rfl:=gB Z;rw[dr] at z
  refine aE _ _ n55 (Oc _) ⟨(i56+1),(dR .i64 A 1),r,s,?_,⟨?_,?_,?_,?_,?_,?_,?_,?_,?_,?_⟩,(OW v VW P),VW,z⟩<;>first|rfl|simp[i,b,e,a,c]
 clear t;simp[i,b,e,a,c];apply Y;refine gM.skip ?_;apply V;refine gM.sr [] λbg aa=>?_;simp[i,b,e,a,c];apply aa;refine gM.sr [] λbh ab=>?_;have⟨ad,E⟩:=oR D;clear D;simp[i,b,e,a,c];refine w_.aah (f:=Tm.av) a0.agk F1 ⟨_,abQ⟩ (by intro x;simp) ad (by first|rfl|simp) (by first|rfl|simp) λu aQ=>?_;simp[i,b,e,a,c];apply ab;refine gM.sr [] λbj ae=>?_;have⟨aR,j,F⟩:=dJ E;clear E
 try dsimp only at F
 have m:=M_ j;simp[i,b,e,j,m,a,c];refine EC.arr (f:=Tm.av) (L:=a0.agk) (k:=((u-List.length a0.agk)*5)) S ZW (by intro x;simp) (by simp[i,b,e,j,m,a,c]) (x:=aR) (by assumption) (by simp[i,b,e,j,m,a,c]) (by simp[i,b,e,j,m,a,c]) (by simp[i,b,e,j,m,a,c]) ?_;simp[i,b,e,j,m,a,c];apply ae;refine gM.yV λbk af=>?_;refine gM.afK 12 4 (cs2:=[sI a0.agj,sI a0.agm,sI a0.cO.agj,sL Ty.av a0.cO.agk,AV.A3 42 (O.gen 42+1) (List.length (xk a0.agk A S)) u]) (f:=Tm.av) (L:=(xk a0.agk A S)) (k:=((u-List.length a0.agk)*5)) (sz:=5) (d:=42) (g:=(O.gen 42+1)) (cap:=u) (by intro x;simp) (by intro x;simp) aaa (by simp[i,b,e,j,m,a,c]) (by simp[i,b,e,j,m,a,c]) (by simp[i,b,e,j,m,a,c]) (by simp[i,b,e,j,m,a,c]) ?_;refine gM.region [] aa6 ?_;simp[i,b,e,j,m,a,c];apply af;refine gM.ret ?_;apply aN;apply aD;obtain rfl:=gB F;rw[EO] at z;obtain rfl:=gB z;rw[mV] at o
 try dsimp only at o
 simp only[wh,M0] at o;obtain⟨rfl,rfl,rfl⟩:=o;simp[Ai,i,b,e,j,m,a,c]
def PL{n:Nat}:C2 prog 288 (nC n) (t3 Tm.av sB sB) Tm.av sI:=(Od n)
def AH:C2 prog 264 lA (t3 Tm.av sI sI) Tm.av sI:=by
 refine u2 7 func264 λT H a0 a1 r m e=>?_;rw[lA] at m;simp[e];refine eI m qW λ_ m=>?_;simp[e];apply Iq e m<;>intro e m
 ·apply wg 999;exact au
 apply wg 3;simp[e];refine Wj m 999 999 (λb f h=>∃v3,(h=H/\f.1 1=sI a1/\f.1 28=sB v3/\bx f 2 (Tm.av a0).cells/\bx f 4 [sI 0,sI 0,sI 0,nL,nL])/\b v3=some r) (λb _ g m=>?_) ?_
 ·apply Iq e m<;>intro e m
  ·exact iO
  apply Iq e m<;>intro e m
  ·exact iO
  simp[e];refine eI m BC λ_ m=>?_;exact iO
 rintro _ _ ⟨v3,E,m⟩;have e:=Aj e E;refine Il e m λe m=>?_;simp[e];refine Wn m 999 (λa f h=>h=H/\f.1 1=sI a1/\f.1 8=sI a.1/\bx f 2 [sI a.2.1,sI a.2.2.1,sI a.2.2.2.1,sL Ty.av a.2.2.2.2.1,sL Tm.av a.2.2.2.2.2]/\bx f 4 [sI 0,sI 0,sI 0,nL,nL]) aaN (λa _ _ _ _ _ E m z p=>?_);have⟨c,d,i,j,k,v20⟩:=a;have e:=Aj e E;dsimp only[Aw]at m;simp[e];refine eO m h7 λ_ m=>?_;simp[e];refine Cs3 m PL λ_ _ _ m=>?_;apply Ir e m<;>intro e m
 ·simp[e];refine eI m oX λ_ m=>?_;exact au
 refine Il e m λe m=>?_;refine Im e m λe m=>?_;exact al
def Oy:C3 prog 260 qm sI Tm.av Tm.av sI:=by
 refine v3 func260 λT H a0 a1 a2 r m e=>?_;rw[qm] at m;simp[e];refine eI m qW λ_ m=>?_;refine Il e m λe m=>?_;simp[e];refine eI m qW λ_ m=>?_;refine Il e m λe m=>?_;simp[e];refine eI m DD λ_ m=>?_;refine Il e m λe m=>?_;simp[e];refine KE m AH λ_ _ _ m=>?_;refine Il e m λe m=>?_;simp[e];refine KE m AH λ_ _ _ m=>?_;refine Il e m λe m=>?_;simp[e];refine eI m DD λ_ m=>?_;refine Il e m λe m=>?_;exact au
def Oa{n:Nat}:C2 prog 223 (o8 n) sI Fm.av Fm.av:=by
 refine i2 λn d=>u2 3 func223 λT H a0 a1 r m e=>?_;rw[o8] at m;simp[e];refine Wj m 999 999 (λb f h=>∃v2,(h=H/\f.1 21=sB v2/\bx f 2 (Fm.av a0).cells/\bx f 3 (Fm.av a1).cells)/\b v2=some r) (λb _ g m=>?_) ?_
 ·apply Iq e m<;>intro e m
  ·exact iO
  simp[e];refine eI m jg λ_ m=>?_;exact iO
 rintro _ _ ⟨v2,E,m⟩;have e:=Aj e E;refine Il e m λe m=>?_;simp[e];refine FC e m 999 (λc _ f h=>h=H/\f.1 24=sI (dn a0.dc)/\f.1 25=sI c/\bx f 2 (Fm.av a0).cells/\bx f 3 (Fm.av a1).cells) aaN (λc _ _ _ _ _ _ _ E e m z p=>?_) (λ_ _ _ _ E m=>?_)
 ·have e:=Aj e E;have⟨i,e,m⟩:=fh e m;simp[e];refine eO m Oy λ_ m=>?_;refine Il e m λe m=>?_;exact al
 have e:=Aj e E;dsimp only[cS]at m;simp[e];refine Wr e m 999 (λa _ f h=>h=H/\f.1 45=sI (dn a0.agk)/\f.1 46=sI a/\bx f 2 (Fm.av a0).cells/\bx f 3 (Fm.av a1).cells) aaN (λ_ _ _ _ E m=>?_) (λa _ _ _ _ _ _ _ E e m z p=>?_)
 ·have e:=Aj e E;dsimp only[cS]at m;exact au
 have e:=Aj e E;have⟨j,e,m⟩:=fh e m;simp[e];refine eO m d λ_ m=>?_;refine Il e m λe m=>?_;exact al
def Gd:C2 prog 153 ni sI Fm.av Fm.av:=by
 refine v2 func153 λT H a0 a1 r m e=>?_;rw[ni] at m;simp[e];refine eI m n8 λ_ m=>?_;refine Il e m λe m=>?_;simp[e];refine eI m n8 λ_ m=>?_;refine Il e m λe m=>?_;simp[e];refine eI m Oa λ_ m=>?_;exact au
def yd:C1 prog 175 ng sI Fm.av:=by
 refine v1 func175 λT H a0 r m e=>?_;rw[ng] at m;simp[e];refine eI m vr λ_ m=>?_;refine Il e m λe m=>?_;exact au
def nR{n:Nat}:C3 prog 103 (fq n) Fm.av Fm.av sI sI:=by
 refine i3 λn v=>v3 func103 λT H a0 a1 a2 r m e=>?_;rw[fq] at m;simp[e];refine FC e m 999 (λu s2 f h=>∃c,(h=H/\f.1 1=sI a1/\f.1 2=sI a2/\f.1 18=sL Tm.av a0.dc/\f.1 19=sI (dn a0.dc)/\f.1 20=sI u/\bx f 3 (Fm.av a0).cells/\bx f 6 [sI 0,sI 0,nL,nL,nL]/\bx f 7 [sI a0.agj,sI a0.cO.agj,sL Ty.av a0.cO.agk,sT c Tm.av s2,nL])/\Ow f [31] c s2) (by exact⟨.full,aaN,jj.full⟩) (λu _ s2 o _ _ _ _ E e m z p=>?_) (λs2 o _ _ E m=>?_)
 ·have⟨c,E,i⟩:=E;have e:=Aj e E;simp[e];refine eO m GC λs m=>?_;have⟨e,m⟩:=Ck e m;simp[e];refine Ad (f:=Tm.av) s2 [s] i F1 e.2 ?_;simp[e];cases m;exact p _ _ _ ⟨(.loc 31 (o.fu 31+1)),aaN,(On 31)⟩ z
 have⟨c,E,i⟩:=E;have e:=Aj e E;dsimp only[cS]at m;simp[e];refine Wr e m 999 (λq j f h=>∃a b,(h=H/\f.1 1=sI a1/\f.1 2=sI a2/\f.1 35=sL Fm.av a0.agk/\f.1 36=sI (dn a0.agk)/\f.1 37=sI q/\bx f 3 (Fm.av a0).cells/\bx f 6 [sI 0,sI 0,nL,nL,nL]/\bx f 7 [sI a0.agj,sI a0.cO.agj,sL Ty.av a0.cO.agk,sT a Tm.av s2,sT b Fm.av j])/\Ow f [31] a s2/\Ow f [51] b j) (by exact⟨c,.full,aaN,i,jj.full⟩) (λj l _ _ E m=>?_) (λq _ j l _ _ _ _ E e m z p=>?_)
 ·have⟨a,b,E,k,d⟩:=E;have e:=Aj e E;dsimp only[cS]at m;exact au
 have⟨a,b,E,k,d⟩:=E;have e:=Aj e E;simp[e];refine eO m yd λ_ m=>?_;simp[e];refine eO m v λt m=>?_;have⟨e,m⟩:=Ck e m;simp[e];refine Ad (f:=Fm.av) j [t] d Jv e.2 ?_;simp[e];cases m;exact p _ _ _ ⟨a,(.loc 51 (l.fu 51+1)),aaN,(jj.other k d aaa aaa),(On 51)⟩ z
def p4:C2 prog 224 dV cW.av cW.av (sL Ty.av):=by
 refine v2 func224 λT H a0 a1 r m e=>?_;rw[dV] at m;have⟨e,m⟩:=Ck e m;simp[e];refine Ad (f:=Ty.av) a0.agn a1 (jj.full (D:=[])) GR e.2 ?_;simp[e];refine Wr e m 999 (λk s2 f h=>∃a b,(h=H/\f.1 1=sL Ty.av a1/\f.1 23=sL Fm.av a0.agq/\f.1 24=sI (dn a0.agq)/\f.1 25=sI k/\bx f 4 [nL,nL,nL]/\bx f 5 [sL Fm.av a0.lemmas,sT a Ty.av (eV a0.agn a1),sT b Fm.av s2])/\Ow f [20] a (eV a0.agn a1)/\Ow f [36] b s2) (by exact⟨(.loc 20 1),.full,aaN,(On 20),jj.full⟩) (λs2 i _ _ E m=>?_) (λk _ s2 i _ _ _ _ E e m z p=>?_)
 ·have⟨a,b,E,d,c⟩:=E;have e:=Aj e E;dsimp only[cS]at m;exact au
 have⟨a,b,E,d,c⟩:=E;have e:=Aj e E;simp[e];refine eO m nR λj m=>?_;have⟨e,m⟩:=Ck e m;simp[e];refine Ad (f:=Fm.av) s2 [j] c Jv e.2 ?_;simp[e];cases m;exact p _ _ _ ⟨a,(.loc 36 (i.fu 36+1)),aaN,(jj.other d c aaa aaa),(On 36)⟩ z
def sG:C2 prog 225 eR (sL sI) (sL sI) sI:=by
 refine v2 func225 λT H a0 a1 r m e=>?_;rw[eR] at m;simp[e];refine Wr e m 0 (λk s2 f h=>∃b,(h=H/\f.1 1=sI a1/\f.1 5=sT b sI s2/\f.1 8=sL sI a0/\f.1 9=sI (dn a0)/\f.1 10=sI k)/\Ow f [22] b s2) (by exact⟨.full,aaN,jj.full⟩) (λs2 i _ _ E m=>?_) (λk l s2 i _ _ _ n E e m z p=>?_)
 ·have⟨b,E,c⟩:=E;have e:=Aj e E;apply wg 999;dsimp only[cS]at m;exact au
 have⟨b,E,c⟩:=E;have e:=Aj e E;apply wg 5;simp[e];refine yU m 999 999 (λj f h=>∃v11 a,(h=H/\f.1 1=sI a1/\f.1 5=sT a sI v11/\f.1 8=sL sI a0/\f.1 9=sI (dn a0)/\f.1 10=sI k)/\Ow f [22] a v11/\j v11=some n) ?_ (λj _ g m=>?_)
 ·rintro _ _ ⟨v11,a,E,d,m⟩;have e:=Aj e E;simp[e];cases m;exact p _ _ _ ⟨a,aaN,d⟩ z
 apply Ir e m<;>intro e m
 ·simp[e];exact g _ _ ⟨s2,b,aaN,c,m⟩
 have⟨e,m⟩:=Ck e m;simp[e];refine Ao (f:=sI) s2 [(ea .i64 l a1)] c Vh e.2 ?_;simp[e];exact g _ _ ⟨(eV s2 [(ea .i64 l a1)]),(.loc 22 (i.fu 22+1)),aaN,(On 22),m⟩
def KT:C1 prog 226 oE sB (sL sI):=by
 refine u1 2 func226 λT H a0 r m e=>?_;rw[oE] at m;simp[e];refine yU m 999 999 (λa f h=>∃v2,(h=H/\f.1 2=sB v2)/\a v2=some r) ?_ (λa _ g m=>?_)
 ·rintro _ _ ⟨v2,E,m⟩;have e:=Aj e E;exact au
 apply Ir e m<;>intro e m
 ·exact iO
 have⟨b,e,m⟩:=fh e m;exact iO
def AQ:C2 prog 227 jz (t2 Ty.av sI) (sL Ty.av) Tm.av:=by
 refine v2 func227 λT H a0 a1 r m e=>?_;rw[jz] at m;simp[e];refine eI m y0 λ_ m=>?_;refine Il e m λe m=>?_;simp[e];refine ke m Gq λ_ _ m=>?_;exact au
def N'(T:ec):∀(n:Nat),(∀{H:dd} {a0:Tm} {a1:Int} {a2:(List (Int×Bool))} {a:(List (Int×Bool))} {o2:Nat} (b:H[o2]?=some [xu sB a2]) (hm:pQ n a0 a1 a2=some a),dY prog T 285 [Tm.av a0,sI a1,AV.qZ o2] H (AV.tuple []) (fH H o2 [xu sB a])):=by
  intro n
  induction n with
  |zero=>
    skip
    all_goals(intro _ _;intros;rename_i hm;cases hm)
  |succ n k=>
 intro H a0 a1 a2 a o2 b hm;rw[pQ] at hm;have d:=fI b;refine fl.Ph b ?_;have e:=d;refine wi ago func285 [] [] 2 ?_;simp[e];refine Wj hm 0 999 (λi f h=>∃(v2:(List (Int×Bool))),(h=fH H o2 [xu sB v2]/\f.1 1=sI a1/\f.1 2=AV.qZ o2/\f.1 3=AV.jo 3 (f.gen 3) 0/\f.box 3=some (Tm.av a0).cells)/\i v2=some a) (λi _ g m=>?_) ?_
 ·refine wj 999 999 (λf h=>h=fH H o2 [xu sB a2]/\f.1 1=sI a1/\f.1 2=AV.qZ o2/\f.1 16=sB (eH (dm a0.agj 1) (rZ a0.agm a1) false)/\bx f 3 (Tm.av a0).cells) (λ_ g=>?_) ?_
  ·rcases Pb (dm a0.agj 1) e with e|e
   ·exact aj
   exact aj
  rintro _ _ E;have e:=Aj e E;apply Ir e m<;>intro e m
  ·exact iO
  simp[e];refine yo.i64 (f:=sB) a2 true Tp zC aaN aaN ?_;exact iO
 rintro _ _ ⟨v2,E,m⟩;have e:=Aj e E;simp[e];refine Wr e m 999 (λj c f h=>h=fH H o2 [xu sB c]/\f.1 1=sI a1/\f.1 2=AV.qZ o2/\f.1 23=sL Tm.av a0.agk/\f.1 24=sI (dn a0.agk)/\f.1 25=sI j/\bx f 3 (Tm.av a0).cells) aaN (λc _ _ _ E m=>?_) (λj _ c _ _ _ _ _ E e m z p=>?_)
 ·have e:=Aj e E;dsimp only[cS]at m;exact au
 have e:=Aj e E;simp[e];refine eO m uW λ_ m=>?_;simp[e];refine eO m (k aaN) λd19 m=>?_;exact al
def QF(T:ec){H:dd}{a0:Tm}{a1:Int}{a2:(List (Int×Bool))}{a:(List (Int×Bool))}{o2:Nat}(b:H[o2]?=some [xu sB a2]){n:Nat}(hm:pQ n a0 a1 a2=some a):dY prog T 285 [Tm.av a0,sI a1,AV.qZ o2] H (AV.tuple []) (fH H o2 [xu sB a]):=(N' T n) b hm
def PB(T:ec){H:dd}{a0:Tm}{a:List Int}{b:Int}(hm:vD a0=some (a,b)):dY prog T 261 [Tm.av a0] H (AV.tuple [sL sI a,sI b]) H:=by
 rw[vD] at hm;refine fl.xm (Post:=λx K=>x=AV.tuple [sL sI a,sI b]/\∃X,K=H++X) ?_ (λ_ _ h=>⟨_,h.2.choose_spec,by rw[h.1];simp[AV.low,AV.kx],h.1,rfl⟩);have e:=trivial;refine wi ago func261 [] [] 999 ?_;simp[e];refine eI hm qW λ_ m=>?_;refine Il e m λe m=>?_;simp[e];refine eI m (QF T aaN) λd2 m=>?_;simp[e];refine ke m (E0 T aaN) λ_ d4 m=>?_;exact au
def zt:C1 prog 228 jr (sL sI) Tm.av:=by
 refine v1 func228 λT H a0 r m e=>?_;rw[jr] at m;simp[e];refine ke m (PB T) λ_ _ m=>?_;exact au
def Gf{n:Nat}:C2 prog 212 (oo n) sB Fm.av sI:=by
 refine i2 λn c=>v2 func212 λT H a0 a1 r m e=>?_;rw[oo] at m;simp[e];refine FC e m 999 (λb _ f h=>h=H/\f.1 1=sI a1/\f.1 10=sL Tm.av a0.dc/\f.1 11=sI (dn a0.dc)/\f.1 12=sI b/\bx f 2 (Fm.av a0).cells) aaN (λb _ _ _ _ _ _ _ E e m z p=>?_) (λ_ _ _ _ E m=>?_)
 ·have e:=Aj e E;simp[e];refine eI m BC λ_ m=>?_;refine Im e m λe m=>?_;exact al
 have e:=Aj e E;dsimp only[cS]at m;simp[e];refine Wr e m 999 (λa _ f h=>h=H/\f.1 1=sI a1/\f.1 22=sL Fm.av a0.agk/\f.1 23=sI (dn a0.agk)/\f.1 24=sI a) aaN (λ_ _ _ _ E m=>?_) (λa _ _ _ _ _ _ _ E e m z p=>?_)
 ·have e:=Aj e E;dsimp only[cS]at m;exact au
 have e:=Aj e E;simp[e];refine eI m c λ_ m=>?_;refine Im e m λe m=>?_;exact al
def Ot{n:Nat}:C2 prog 286 (pj n) sI Fm.av sI:=by
 refine i2 λn d=>v2 func286 λT H a0 a1 r m e=>?_;rw[pj] at m;simp[e];refine FC e m 999 (λc s2 f h=>h=H/\f.1 1=sI a1/\f.1 5=sI s2/\f.1 11=sL Tm.av a0.dc/\f.1 12=sI (dn a0.dc)/\f.1 13=sI c/\bx f 2 (Fm.av a0).cells) aaN (λc _ s2 _ _ _ _ _ E e m z p=>?_) (λs2 _ _ _ E m=>?_)
 ·have e:=Aj e E;simp[e];refine eI m Gj λ_ m=>?_;exact al
 have e:=Aj e E;dsimp only[cS]at m;simp[e];refine Wr e m 999 (λb a f h=>h=H/\f.1 1=sI a1/\f.1 5=sI a/\f.1 24=sL Fm.av a0.agk/\f.1 25=sI (dn a0.agk)/\f.1 26=sI b/\bx f 2 (Fm.av a0).cells) aaN (λa _ _ _ E m=>?_) (λb _ a _ _ _ _ _ E e m z p=>?_)
 ·have e:=Aj e E;dsimp only[cS]at m;exact au
 have e:=Aj e E;simp[e];refine eO m yd λ_ m=>?_;simp[e];refine eO m d λ_ m=>?_;exact al
def SE{n:Nat}:C4 prog 287 (yK n) Fm.av Fm.av sI sI Tm.av:=by
 refine i4 λn v=>v4 func287 λT H a0 a1 a2 a3 r m e=>?_;rw[yK] at m;simp[e];refine FC e m 999 (λu s2 f h=>∃c,(h=H/\f.1 1=sI a1/\f.1 2=sI a2/\f.1 20=sL Tm.av a0.dc/\f.1 21=sI (dn a0.dc)/\f.1 22=sI u/\bx f 4 (Fm.av a0).cells/\bx f 7 (Tm.av a3).cells/\bx f 8 [sI 0,sI 0,nL,nL,nL]/\bx f 9 [sI a0.agj,sI a0.cO.agj,sL Ty.av a0.cO.agk,sT c Tm.av s2,nL])/\Ow f [34] c s2) (by exact⟨.full,aaN,jj.full⟩) (λu _ s2 o _ _ _ _ E e m z p=>?_) (λs2 o _ _ E m=>?_)
 ·have⟨c,E,i⟩:=E;have e:=Aj e E;simp[e];refine eO m Nk λs m=>?_;have⟨e,m⟩:=Ck e m;simp[e];refine Ad (f:=Tm.av) s2 [s] i F1 e.2 ?_;simp[e];cases m;exact p _ _ _ ⟨(.loc 34 (o.fu 34+1)),aaN,(On 34)⟩ z
 have⟨c,E,i⟩:=E;have e:=Aj e E;dsimp only[cS]at m;simp[e];refine Wr e m 999 (λq j f h=>∃a b,(h=H/\f.1 1=sI a1/\f.1 2=sI a2/\f.1 38=sL Fm.av a0.agk/\f.1 39=sI (dn a0.agk)/\f.1 40=sI q/\bx f 4 (Fm.av a0).cells/\bx f 7 (Tm.av a3).cells/\bx f 8 [sI 0,sI 0,nL,nL,nL]/\bx f 9 [sI a0.agj,sI a0.cO.agj,sL Ty.av a0.cO.agk,sT a Tm.av s2,sT b Fm.av j])/\Ow f [34] a s2/\Ow f [55] b j) (by exact⟨c,.full,aaN,i,jj.full⟩) (λj l _ _ E m=>?_) (λq _ j l _ _ _ _ E e m z p=>?_)
 ·have⟨a,b,E,k,d⟩:=E;have e:=Aj e E;dsimp only[cS]at m;exact au
 have⟨a,b,E,k,d⟩:=E;have e:=Aj e E;simp[e];refine eO m yd λ_ m=>?_;simp[e];refine eO m v λt m=>?_;have⟨e,m⟩:=Ck e m;simp[e];refine Ad (f:=Fm.av) j [t] d Jv e.2 ?_;simp[e];cases m;exact p _ _ _ ⟨a,(.loc 55 (l.fu 55+1)),aaN,(jj.other k d aaa aaa),(On 55)⟩ z
def RV:C3 prog 262 xU (t2 Fm.av sI) Fm.av sI Tm.av:=by
 refine u3 7 func262 λT H a0 a1 a2 r m e=>?_;rw[xU] at m;simp[e];refine eI m n8 λ_ m=>?_;simp[e];apply Iq e m<;>intro e m
 ·apply wg 999;exact au
 apply wg 3;simp[e];refine wj 999 0 (λf h=>h=H/\f.1 1=sI a1/\f.1 21=sB (eH (pP a1 0) true (nW a1 4096))/\bx f 3 (Fm.av a0).cells/\bx f 5 (Tm.av a2).cells/\bx f 6 [sI 0,sI 0,nL,nL,nL]) (λ_ g=>?_) ?_
 ·rcases Pb (pP a1 0) e with e|e
  ·exact aj
  exact aj
 rintro _ _ E;have e:=Aj e E;apply Iq e m<;>intro e m
 ·apply wg 999;exact au
 apply wg 7;simp[e];refine eI m qW λ_ m=>?_;simp[e];apply Iq e m<;>intro e m
 ·apply wg 999;exact au
 apply wg 3;simp[e];refine Wj m 999 999 (λb f h=>∃a,(h=H/\f.1 1=sI a1/\f.1 36=sB a/\bx f 3 (Fm.av a0).cells/\bx f 5 (Tm.av a2).cells/\bx f 6 [sI 0,sI 0,nL,nL,nL])/\b a=some r) (λb _ g m=>?_) ?_
 ·simp[e];refine eI m Gf λ_ m=>?_;apply Ir e m<;>intro e m
  ·exact iO
  simp[e];refine eI m BC λ_ m=>?_;exact iO
 rintro _ _ ⟨a,E,m⟩;have e:=Aj e E;refine Il e m λe m=>?_;simp[e];refine eO m ye λ_ m=>?_;simp[e];refine eO m Ot λ_ m=>?_;simp[e];refine eO m h7 λ_ m=>?_;refine Il e m λe m=>?_;simp[e];refine eI m SE λ_ m=>?_;simp[e];refine eI m lZ λ_ m=>?_;exact au
def vS:C2 prog 229 iJ (t2 Fm.av sI) Fm.av Tm.av:=by
 refine v2 func229 λT H a0 a1 r m e=>?_;rw[iJ] at m;simp[e];refine ke m RV λ_ _ m=>?_;exact au
def RU{n:Nat}:C2 prog 263 (vY n) sB Tm.av sI:=by
 refine i2 λn b=>u2 3 func263 λT H a0 a1 r m e=>?_;rw[vY] at m;simp[e];refine wj 999 999 (λf h=>h=H/\f.1 1=sI a1/\f.1 15=sB (eH (dm a0.agj 1) (dm a0.agm a1) false)/\bx f 2 (Tm.av a0).cells) (λ_ g=>?_) ?_
 ·rcases Pb (dm a0.agj 1) e with e|e
  ·exact aj
  exact aj
 rintro _ _ E;have e:=Aj e E;refine Il e m λe m=>?_;simp[e];refine Wr e m 999 (λa _ f h=>h=H/\f.1 1=sI a1/\f.1 17=sL Tm.av a0.agk/\f.1 18=sI (dn a0.agk)/\f.1 19=sI a/\bx f 2 (Tm.av a0).cells) aaN (λ_ _ _ _ E m=>?_) (λa _ _ _ _ _ _ _ E e m z p=>?_)
 ·have e:=Aj e E;dsimp only[cS]at m;exact au
 have e:=Aj e E;simp[e];refine eO m uW λ_ m=>?_;simp[e];refine eO m b λ_ m=>?_;refine Il e m λe m=>?_;exact al
def KL{n:Nat}:C2 prog 231 (py n) sB Fm.av sI:=by
 refine i2 λn c=>v2 func231 λT H a0 a1 r m e=>?_;rw[py] at m;simp[e];refine FC e m 999 (λb _ f h=>h=H/\f.1 1=sI a1/\f.1 10=sL Tm.av a0.dc/\f.1 11=sI (dn a0.dc)/\f.1 12=sI b/\bx f 2 (Fm.av a0).cells) aaN (λb _ _ _ _ _ _ _ E e m z p=>?_) (λ_ _ _ _ E m=>?_)
 ·have e:=Aj e E;simp[e];refine eI m RU λ_ m=>?_;refine Il e m λe m=>?_;exact al
 have e:=Aj e E;dsimp only[cS]at m;simp[e];refine Wr e m 999 (λa _ f h=>h=H/\f.1 1=sI a1/\f.1 21=sL Fm.av a0.agk/\f.1 22=sI (dn a0.agk)/\f.1 23=sI a/\bx f 2 (Fm.av a0).cells) aaN (λ_ _ _ _ E m=>?_) (λa _ _ _ _ _ _ _ E e m z p=>?_)
 ·have e:=Aj e E;dsimp only[cS]at m;exact au
 have e:=Aj e E;simp[e];refine eO m yd λ_ m=>?_;simp[e];refine eO m c λ_ m=>?_;refine Il e m λe m=>?_;exact al
def Mb{n:Nat}:C1 prog 232 (l0 n) (t2 Fm.av sI) Fm.av:=by
 refine i1 λn v=>v1 func232 λT H a0 r m e=>?_;rw[l0] at m;simp[e];refine FC e m 999 (λu s2 f h=>∃c,(h=H/\f.1 20=sL Tm.av a0.dc/\f.1 21=sI (dn a0.dc)/\f.1 22=sI u/\bx f 1 (Fm.av a0).cells/\bx f 2 [sI 0,sI 0,nL,nL,nL]/\bx f 4 [sI a0.agj,sI a0.cO.agj,sL Ty.av a0.cO.agk,sT c Tm.av s2,nL])/\Ow f [40] c s2) (by exact⟨.full,aaN,jj.full⟩) (λu _ s2 o _ _ _ _ E e m z p=>?_) (λs2 o _ _ E m=>?_)
 ·have⟨c,E,i⟩:=E;have e:=Aj e E;simp[e];refine KE m AH λs _ _ m=>?_;refine Il e m λe m=>?_;have⟨e,m⟩:=Ck e m;simp[e];refine Ao (f:=Tm.av) s2 [s] i F1 e.2 ?_;simp[e];cases m;exact p _ _ _ ⟨(.loc 40 (o.fu 40+1)),aaN,(On 40)⟩ z
 have⟨c,E,i⟩:=E;have e:=Aj e E;dsimp only[cS]at m;simp[e];refine Wr e m 999 (λq j f h=>∃a b,(h=H/\f.1 44=sL Fm.av a0.agk/\f.1 45=sI (dn a0.agk)/\f.1 46=sI q/\bx f 2 [sI 0,sI 0,nL,nL,nL]/\bx f 4 [sI a0.agj,sI a0.cO.agj,sL Ty.av a0.cO.agk,sT a Tm.av s2,sT b Fm.av j])/\Ow f [40] a s2/\Ow f [63] b j) (by exact⟨c,.full,aaN,i,jj.full⟩) (λj l _ _ E m=>?_) (λq _ j l _ _ _ _ E e m z p=>?_)
 ·have⟨a,b,E,k,d⟩:=E;have e:=Aj e E;dsimp only[cS]at m;exact au
 have⟨a,b,E,k,d⟩:=E;have e:=Aj e E;simp[e];refine ke m v λt _ m=>?_;refine Il e m λe m=>?_;have⟨e,m⟩:=Ck e m;simp[e];refine Ao (f:=Fm.av) j [t] d Jv e.2 ?_;simp[e];cases m;exact p _ _ _ ⟨a,(.loc 63 (l.fu 63+1)),aaN,(jj.other k d aaa aaa),(On 63)⟩ z
def sV:C3 prog 160 gi sI cW.av Tm.av sI:=by
 refine v3 func160 λT H a0 a1 a2 r m e=>?_;rw[gi] at m;simp[e];refine ke m AQ λ_ _ m=>?_;refine Il e m λe m=>?_;refine Il e m λe m=>?_;exact au
def K_{n:Nat}:C1 prog 163 (jl n) sB Fm.av:=by
 refine i1 λn a=>u1 8 func163 λT H a0 r m e=>?_;rw[jl] at m;simp[e];apply Iq e m<;>intro e m
 ·apply wg 999;exact au
 apply wg 3;simp[e];apply Ir e m<;>intro e m
 ·apply wg 999;refine Il e m λe m=>?_;have⟨d,e,m⟩:=fh e m;simp[e];refine eI m a λ_ m=>?_;exact au
 apply wg 1;simp[e];refine yU m 999 999 (λb f h=>∃v4,(h=H/\f.1 2=sB v4)/\b v4=some r) ?_ (λb _ g m=>?_)
 ·rintro _ _ ⟨v4,E,m⟩;have e:=Aj e E;exact au
 have⟨i,e,m⟩:=fh e m;simp[e];refine eI m a λ_ m=>?_;apply Iq e m<;>intro e m
 ·exact iO
 have⟨c,e,m⟩:=fh e m;simp[e];refine eI m a λ_ m=>?_;exact iO
def Lh:C1 prog 85 n7 (t2 sB sI) Fm.av:=by
 refine v1 func85 λT H a0 r m e=>?_;rw[n7] at m;simp[e];refine eI m n8 λ_ m=>?_;refine Il e m λe m=>?_;simp[e];refine eI m K_ λ_ m=>?_;exact au
def CK:∀(n:Nat),C2 prog 48 (de n) (t2 ur.av sI) cW.av Pf.av/\C2 prog 84 (c0 n) (t3 Fm.av (sL sI) sI) cW.av Pf.av/\C2 prog 154 (mS n) (t3 Fm.av (sL sI) sI) cW.av Pf.av/\C2 prog 155 (nV n) (t3 Fm.av (sL sI) sI) cW.av Pf.av/\C2 prog 156 (nQ n) (t3 Fm.av (sL sI) sI) cW.av Pf.av/\C2 prog 157 (mc n) (t3 Fm.av (sL sI) sI) cW.av Pf.av/\C2 prog 158 (qq n) (t3 Fm.av (sL sI) sI) cW.av Pf.av/\C2 prog 159 (oO n) (t3 Fm.av (sL sI) sI) cW.av Pf.av/\C2 prog 161 (oP n) (t3 Fm.av (sL sI) sI) cW.av Pf.av/\C2 prog 162 (om n) (t3 Fm.av (sL sI) sI) cW.av Pf.av/\C4 prog 230 (dQ n) (t2 (sL sI) sI) cW.av Pf.av Fm.av Tm.av:=by
  intro n
  induction n with
  |zero=>
    refine⟨?_,?_,?_,?_,?_,?_,?_,?_,?_,?_,?_⟩
    all_goals(intro _ _;intros;rename_i hm;cases hm)
  |succ n c=>
 refine⟨?_,?_,?_,?_,?_,?_,?_,?_,?_,?_,?_⟩
 ·intro T H a0 a1 r hm;rw[de] at hm;have e:=trivial;refine wi ago func48 [] [] 7 ?_;simp[e];refine KE hm c.2.1 λQ _ _ m=>?_;simp[e];apply Iq e m<;>intro e m
  ·apply wg 999;exact au
  apply wg 5;simp[e];refine eI m n8 λO m=>?_;simp[e];apply Iq e m<;>intro e m
  ·apply wg 999;exact au
  apply wg 2;simp[e];refine yU m 999 999 (λR f h=>∃v6 o,(h=H/\f.1 7=sT o sI v6/\bx f 4 [sI 0,sI 0,nL,nL,nL,nL]/\bx f 6 (Fm.av Q).cells)/\R v6=some r) ?_ (λR _ g m=>?_)
  ·rintro _ _ ⟨v6,o,E,m⟩;have e:=Aj e E;exact au
  simp[e];refine ke m Lh λ_ I m=>?_;apply Iq e m<;>intro e m
  ·simp[e];exact g _ _ ⟨_,.jU,aaN,m⟩
  simp[e];exact g _ _ ⟨_,.full,aaN,m⟩
 ·intro T H a0 a1 r hm;rw[c0] at hm;have e:=trivial;refine wi ago func84 [] [] 10 ?_;simp[e];apply Iq e hm<;>intro e m
  ·apply wg 999;refine Il e m λe m=>?_;have⟨aa,e,m⟩:=fh e m;exact au
  apply wg 3;simp[e];apply Iq e m<;>intro e m
  ·apply wg 999;refine Il e m λe m=>?_;have⟨ab,e,m⟩:=fh e m;exact au
  apply wg 3;simp[e];apply Iq e m<;>intro e m
  ·apply wg 999;have⟨ad,e,m⟩:=fh e m;simp[e];refine oA m c.1 λ_ _ m=>?_;refine Il e m λe m=>?_;have⟨ae,e,m⟩:=fh e m;simp[e];refine oA m c.1 λ_ _ m=>?_;simp[e];refine eO m A_ λ_ m=>?_;simp[e];refine eO m (oc T) λ_ m=>?_;exact au
  apply wg 1;simp[e];refine wj 999 0 (λf h=>h=H/\f.1 22=sI a1.agj/\f.1 93=sB (eH (dm a1.agj 4) true (dm a1.agj 5))/\bx f 2 (cW.av a0).cells/\bx f 3 (Pf.av a1).cells/\bx f 4 [sI 0,sI 0,nL,nL,nL]/\bx f 7 [sI 0,sI 0,nL,nL,nL]) (λ_ g=>?_) ?_
  ·rcases Pb (dm a1.agj 4) e with e|e
   ·exact aj
   exact aj
  rintro _ _ E;have e:=Aj e E;apply Iq e m<;>intro e m
  ·apply wg 999;have⟨af,e,m⟩:=fh e m;simp[e];refine oA m c.1 λ_ _ m=>?_;refine Il e m λe m=>?_;refine Il e m λe m=>?_;have⟨ah,e,m⟩:=fh e m;exact au
  apply wg 3;simp[e];apply Iq e m<;>intro e m
  ·apply wg 999;have⟨ai,e,m⟩:=fh e m;simp[e];refine eO m yj λ_ m=>?_;refine Il e m λe m=>?_;simp[e];refine eI m oi λ_ m=>?_;refine Il e m λe m=>?_;simp[e];refine eO m qv λ_ m=>?_;have⟨ak,e,m⟩:=fh e m;simp[e];refine oA m c.1 λ_ _ m=>?_;simp[e];refine eO m A_ λ_ m=>?_;exact au
  apply wg 3;simp[e];apply Iq e m<;>intro e m
  ·apply wg 999;have⟨an,e,m⟩:=fh e m;simp[e];refine oA m c.1 λ_ _ m=>?_;refine Il e m λe m=>?_;refine Il e m λe m=>?_;have⟨ao,e,m⟩:=fh e m;simp[e];refine oA m c.1 λ_ _ m=>?_;refine Il e m λe m=>?_;have⟨aq,e,m⟩:=fh e m;simp[e];refine eO m (oc T) λ_ m=>?_;have⟨ar,e,m⟩:=fh e m;simp[e];refine eO m Gd λ_ m=>?_;exact au
  apply wg 1;simp[e];refine wj 999 0 (λf h=>h=H/\f.1 22=sI a1.agj/\f.1 218=sB (eH (dm a1.agj 8) true (dm a1.agj 12))/\bx f 2 (cW.av a0).cells/\bx f 3 (Pf.av a1).cells/\bx f 4 [sI 0,sI 0,nL,nL,nL]) (λ_ g=>?_) ?_
  ·rcases Pb (dm a1.agj 8) e with e|e
   ·exact aj
   exact aj
  rintro _ _ E;have e:=Aj e E;apply Iq e m<;>intro e m
  ·apply wg 999;simp[e];refine KE m c.2.2.1 λ_ _ _ m=>?_;exact au
  apply wg 1;simp[e];refine wj 999 0 (λf h=>h=H/\f.1 22=sI a1.agj/\f.1 227=sB (eH (dm a1.agj 9) true (dm a1.agj 13))/\bx f 2 (cW.av a0).cells/\bx f 3 (Pf.av a1).cells/\bx f 4 [sI 0,sI 0,nL,nL,nL]) (λ_ g=>?_) ?_
  ·rcases Pb (dm a1.agj 9) e with e|e
   ·exact aj
   exact aj
  rintro _ _ E;have e:=Aj e E;apply Iq e m<;>intro e m
  ·apply wg 999;simp[e];refine KE m c.2.2.2.1 λ_ _ _ m=>?_;exact au
  apply wg 1;simp[e];refine wj 999 0 (λf h=>h=H/\f.1 22=sI a1.agj/\f.1 236=sB (eH (dm a1.agj 10) true (dm a1.agj 14))/\bx f 2 (cW.av a0).cells/\bx f 3 (Pf.av a1).cells/\bx f 4 [sI 0,sI 0,nL,nL,nL]) (λ_ g=>?_) ?_
  ·rcases Pb (dm a1.agj 10) e with e|e
   ·exact aj
   exact aj
  rintro _ _ E;have e:=Aj e E;apply Iq e m<;>intro e m
  ·apply wg 999;simp[e];refine KE m c.2.2.2.2.1 λ_ _ _ m=>?_;exact au
  apply wg 1;simp[e];refine wj 999 999 (λf h=>h=H/\f.1 22=sI a1.agj/\f.1 245=sB (eH (dm a1.agj 11) true (dm a1.agj 15))/\bx f 2 (cW.av a0).cells/\bx f 3 (Pf.av a1).cells/\bx f 4 [sI 0,sI 0,nL,nL,nL]) (λ_ g=>?_) ?_
  ·rcases Pb (dm a1.agj 11) e with e|e
   ·exact aj
   exact aj
  rintro _ _ E;have e:=Aj e E;apply Iq e m<;>intro e m
  ·simp[e];refine KE m c.2.2.2.2.2.1 λ_ _ _ m=>?_;exact au
  apply Iq e m<;>intro e m
  ·simp[e];refine KE m c.2.2.2.2.2.2.1 λ_ _ _ m=>?_;exact au
  apply Iq e m<;>intro e m
  ·simp[e];refine KE m c.2.2.2.2.2.2.2.1 λ_ _ _ m=>?_;exact au
  apply Iq e m<;>intro e m
  ·have⟨aw,e,m⟩:=fh e m;simp[e];refine eO m qQ λ_ m=>?_;simp[e];refine eO m sV λ_ m=>?_;exact au
  apply Iq e m<;>intro e m
  ·simp[e];refine KE m c.2.2.2.2.2.2.2.2.1 λ_ _ _ m=>?_;exact au
  simp[e];refine KE m c.2.2.2.2.2.2.2.2.2.1 λ_ _ _ m=>?_;exact au
 ·intro T H a0 a1 r hm;rw[mS] at hm;have e:=trivial;refine wi ago func154 [] [] 999 ?_;simp[e];refine eI hm oi λ_ m=>?_;refine Il e m λe m=>?_;simp[e];refine eO m p4 λ_ m=>?_;have⟨I,e,m⟩:=fh e m;simp[e];refine oA m c.1 λ_ _ m=>?_;refine Il e m λe m=>?_;apply Iq e m<;>intro e m
  ·simp[e];refine eO m rz λJ m=>?_;simp[e];refine eO m sG λK m=>?_;exact au
  simp[e];refine eI m KT λ_ m=>?_;refine Il e m λe m=>?_;simp[e];refine eO m rz λ_ m=>?_;simp[e];refine eO m sG λ_ m=>?_;exact au
 ·intro T H a0 a1 r hm;rw[nV] at hm;have e:=trivial;refine wi ago func155 [] [] 9 ?_;have⟨L,e,m⟩:=fh e hm;simp[e];refine ke m AQ λP _ m=>?_;simp[e];apply Iq e m<;>intro e m
  ·apply wg 999;exact au
  apply wg 7;have⟨x6,e,m⟩:=fh e m;simp[e];refine oA m c.1 λd _ m=>?_;simp[e];apply Iq e m<;>intro e m
  ·apply wg 999;exact au
  apply wg 4;simp[e];refine eO m zt λ_ m=>?_;simp[e];refine eO m (oc T) λv m=>?_;simp[e];refine wj 999 999 (λf h=>h=H/\f.1 11=sI (eH (dm a1.agj 13) 6 4)/\f.1 12=sL sI (eH (dm a1.agj 13) d.eX v)/\bx f 4 [sI 0,sI 0,nL,nL,nL]/\bx f 7 (Tm.av L).cells/\bx f 8 (Ty.av P).cells/\bx f 10 [sI d.cR.agj,sI d.cR.cO.agj,sL Ty.av d.cR.cO.agk,sL Tm.av d.cR.dc,sL Fm.av d.cR.agk,sL sI d.eX]) (λ_ g=>?_) ?_
  ·rcases Pb (dm a1.agj 13) e with e|e
   ·exact aj
   exact aj
  rintro _ _ E;have e:=Aj e E;refine Il e m λe m=>?_;simp[e];refine eI m jg λ_ m=>?_;refine Im e m λe m=>?_;have⟨b,e,m⟩:=fh e m;simp[e];refine oA m vS λ_ _ m=>?_;exact au
 ·intro T H a0 a1 r hm;rw[nQ] at hm;have e:=trivial;refine wi ago func156 [] [] 9 ?_;have⟨i,e,m⟩:=fh e hm;have⟨O,e,m⟩:=fh e m;simp[e];refine eI m yj λ_ m=>?_;simp[e];apply Iq e m<;>intro e m
  ·apply wg 999;exact au
  apply wg 4;simp[e];refine wj 999 3 (λf h=>h=H/\f.1 10=sI (eH (dm a1.agj 14) 7 5)/\bx f 2 (cW.av a0).cells/\bx f 3 (Pf.av a1).cells/\bx f 4 [sI 0,sI 0,nL,nL,nL]/\bx f 7 (Fm.av i).cells/\bx f 8 (Tm.av O).cells) (λ_ g=>?_) ?_
  ·rcases Pb (dm a1.agj 14) e with e|e
   ·exact aj
   exact aj
  rintro _ _ E;have e:=Aj e E;simp[e];apply Iq e m<;>intro e m
  ·apply wg 999;exact au
  apply wg 7;simp[e];refine ke m AQ λ_ I m=>?_;simp[e];apply Iq e m<;>intro e m
  ·apply wg 999;exact au
  apply wg 5;simp[e];refine eI m jg λw m=>?_;simp[e];apply Ir e m<;>intro e m
  ·apply wg 999;exact au
  apply wg 4;have⟨q,e,m⟩:=fh e m;have⟨J,e,m⟩:=fh e m;simp[e];refine oA m c.2.2.2.2.2.2.2.2.2.2 λK M m=>?_;simp[e];refine yU m 999 999 (λx f h=>∃s,(h=H/\f.1 12=sI M/\f.1 13=sL sI s/\bx f 4 [sI 0,sI 0,nL,nL,nL]/\bx f 7 (Fm.av i).cells)/\x s=some r) ?_ (λx _ g m=>?_)
  ·rintro _ _ ⟨s,E,m⟩;have e:=Aj e E;exact au
  apply Ir e m<;>intro e m
  ·exact iO
  simp[e];refine eI m zt λ_ m=>?_;simp[e];refine eI m (oc T) λ_ m=>?_;exact iO
 ·intro T H a0 a1 r hm;rw[mc] at hm;have e:=trivial;refine wi ago func157 [] [] 7 ?_;have⟨N,e,m⟩:=fh e hm;simp[e];refine oA m c.1 λa _ m=>?_;simp[e];apply Iq e m<;>intro e m
  ·apply wg 999;exact au
  apply wg 4;simp[e];refine wj 999 3 (λf h=>h=H/\f.1 9=sI (eH (dm a1.agj 15) 7 5)/\bx f 2 (cW.av a0).cells/\bx f 3 (Pf.av a1).cells/\bx f 4 [sI 0,sI 0,nL,nL,nL]/\bx f 7 [sI a.cR.agj,sI a.cR.cO.agj,sL Ty.av a.cR.cO.agk,sL Tm.av a.cR.dc,sL Fm.av a.cR.agk,sL sI a.eX]) (λ_ g=>?_) ?_
  ·rcases Pb (dm a1.agj 15) e with e|e
   ·exact aj
   exact aj
  rintro _ _ E;have e:=Aj e E;simp[e];apply Iq e m<;>intro e m
  ·apply wg 999;exact au
  apply wg 7;simp[e];refine eI m oi λ_ m=>?_;simp[e];apply Iq e m<;>intro e m
  ·apply wg 999;exact au
  apply wg 7;simp[e];refine eO m p4 λJ m=>?_;have⟨K,e,m⟩:=fh e m;simp[e];refine eO m qv λ_ m=>?_;have⟨S,e,m⟩:=fh e m;simp[e];refine oA m c.1 λb _ m=>?_;simp[e];apply Iq e m<;>intro e m
  ·apply wg 999;exact au
  apply wg 4;simp[e];refine Wj m 999 1 (λy f h=>∃v124 j k v127 l,(h=H/\f.1 9=sI (eH (dm a1.agj 15) 7 5)/\bx f 4 [sI 0,sI 0,nL,nL,nL]/\bx f 7 [sI a.cR.agj,sI a.cR.cO.agj,sL Ty.av a.cR.cO.agk,sL Tm.av a.cR.dc,sL Fm.av a.cR.agk,sL sI a.eX]/\bx f 11 [sI b.cR.agj,sI b.cR.cO.agj,sL Ty.av b.cR.cO.agk,sL Tm.av b.cR.dc,sL Fm.av b.cR.agk,sL sI b.eX]/\bx f 12 [sI v124,sI j,sL Ty.av k,sL Tm.av v127,sL Fm.av l])/\y v124 j k v127 l=some r) (λy _ g m=>?_) ?_
  ·simp[e];refine eI m KL λ_ m=>?_;apply Ir e m<;>intro e m
   ·simp[e];exact g _ _ ⟨_,_,_,_,_,aaN,m⟩
   simp[e];refine ke m Mb λ_ _ m=>?_;refine Il e m λe m=>?_;simp[e];refine eI m KL λ_ m=>?_;refine Il e m λe m=>?_;simp[e];exact g _ _ ⟨_,_,_,_,_,aaN,m⟩
  rintro _ _ ⟨v124,j,k,v127,l,E,m⟩;have e:=Aj e E;simp[e];refine Wj m 999 999 (λA f h=>∃t,(h=H/\f.1 87=sB t/\bx f 4 [sI 0,sI 0,nL,nL,nL]/\bx f 7 [sI a.cR.agj,sI a.cR.cO.agj,sL Ty.av a.cR.cO.agk,sL Tm.av a.cR.dc,sL Fm.av a.cR.agk,sL sI a.eX]/\bx f 11 [sI b.cR.agj,sI b.cR.cO.agj,sL Ty.av b.cR.cO.agk,sL Tm.av b.cR.dc,sL Fm.av b.cR.agk,sL sI b.eX]/\bx f 12 [sI v124,sI j,sL Ty.av k,sL Tm.av v127,sL Fm.av l])/\A t=some r) (λA _ g m=>?_) ?_
  ·apply Ir e m<;>intro e m
   ·exact iO
   simp[e];refine eI m KT λ_ m=>?_;exact iO
  rintro _ _ ⟨t,E,m⟩;have e:=Aj e E;refine Il e m λe m=>?_;simp[e];refine eO m nR λ_ m=>?_;simp[e];refine eO m sG λ_ m=>?_;simp[e];refine eO m (oc T) λ_ m=>?_;exact au
 ·intro T H a0 a1 r hm;rw[qq] at hm;have e:=trivial;refine wi ago func158 [] [] 999 ?_;have⟨i,e,m⟩:=fh e hm;have⟨O,e,m⟩:=fh e m;simp[e];refine eO m ji λu m=>?_;have⟨e,m⟩:=Ck e m;simp[e];refine Ad (f:=Ty.av) a0.agn [u] (jj.full (D:=[])) GR e.2 ?_;simp[e];refine eO m yi λ_ m=>?_;refine Il e m λe m=>?_;simp[e];refine eI m sV λq m=>?_;refine Il e m λe m=>?_;have⟨B,e,m⟩:=fh e m;simp[e];refine eO m gL λC m=>?_;simp[e];refine oA m c.2.2.2.2.2.2.2.2.2.2 λ_ _ m=>?_;refine Il e m λe m=>?_;simp[e];refine eI m oi λ_ m=>?_;refine Il e m λe m=>?_;simp[e];refine eO m ji λ_ m=>?_;simp[e];refine eO m p4 λ_ m=>?_;simp[e];refine eO m qv λ_ m=>?_;have⟨U,e,m⟩:=fh e m;simp[e];refine eO m nR λ_ m=>?_;simp[e];refine eO m gV λ_ m=>?_;simp[e];refine eO m gL λ_ m=>?_;simp[e];refine oA m c.2.2.2.2.2.2.2.2.2.2 λ_ _ m=>?_;refine Il e m λe m=>?_;simp[e];refine ke m vS λ_ _ m=>?_;simp[e];refine eO m zt λ_ m=>?_;simp[e];refine eO m (oc T) λ_ m=>?_;simp[e];refine eO m sG λ_ m=>?_;simp[e];refine eO m (oc T) λ_ m=>?_;exact au
 ·intro T H a0 a1 r hm;rw[oO] at hm;have e:=trivial;refine wi ago func159 [] [] 999 ?_;have⟨i,e,m⟩:=fh e hm;have⟨O,e,m⟩:=fh e m;simp[e];refine eO m qD λu m=>?_;have⟨e,m⟩:=Ck e m;simp[e];refine Ad (f:=Ty.av) a0.agn [u] (jj.full (D:=[])) GR e.2 ?_;simp[e];refine eO m yi λ_ m=>?_;refine Il e m λe m=>?_;simp[e];refine eI m sV λq m=>?_;refine Il e m λe m=>?_;have⟨B,e,m⟩:=fh e m;simp[e];refine eO m gL λC m=>?_;simp[e];refine oA m c.2.2.2.2.2.2.2.2.2.2 λ_ _ m=>?_;refine Il e m λe m=>?_;simp[e];refine eI m oi λ_ m=>?_;refine Il e m λe m=>?_;simp[e];refine eO m ji λ_ m=>?_;simp[e];refine eO m qD λ_ m=>?_;simp[e];refine eO m p4 λ_ m=>?_;simp[e];refine eO m nR λ_ m=>?_;simp[e];refine eO m qv λ_ m=>?_;have⟨V,e,m⟩:=fh e m;simp[e];refine eO m nR λ_ m=>?_;simp[e];refine eO m gV λ_ m=>?_;simp[e];refine eO m gV λ_ m=>?_;simp[e];refine eO m gL λ_ m=>?_;simp[e];refine oA m c.2.2.2.2.2.2.2.2.2.2 λ_ _ m=>?_;refine Il e m λe m=>?_;simp[e];refine ke m vS λ_ _ m=>?_;simp[e];refine eO m zt λ_ m=>?_;simp[e];refine eO m (oc T) λ_ m=>?_;simp[e];refine eO m sG λ_ m=>?_;simp[e];refine eO m (oc T) λ_ m=>?_;exact au
 ·intro T H a0 a1 r hm;rw[oP] at hm;have e:=trivial;refine wi ago func161 [] [] 999 ?_;have⟨L,e,m⟩:=fh e hm;simp[e];refine eO m ji λw m=>?_;have⟨e,m⟩:=Ck e m;simp[e];refine Ad (f:=Ty.av) a0.agn [w] (jj.full (D:=[])) GR e.2 ?_;simp[e];refine eO m yi λ_ m=>?_;refine Il e m λe m=>?_;have⟨W,e,m⟩:=fh e m;simp[e];refine oA m c.1 λ_ q m=>?_;refine Il e m λe m=>?_;refine Il e m λe m=>?_;have⟨B,e,m⟩:=fh e m;have⟨C,e,m⟩:=fh e m;simp[e];refine oA m c.2.2.2.2.2.2.2.2.2.2 λ_ _ m=>?_;refine Il e m λe m=>?_;have⟨X,e,m⟩:=fh e m;simp[e];refine oA m vS λ_ _ m=>?_;exact au
 ·intro T H a0 a1 r hm;rw[om] at hm;have e:=trivial;refine wi ago func162 [] [] 7 ?_;have⟨N,e,m⟩:=fh e hm;simp[e];refine oA m c.1 λa _ m=>?_;simp[e];apply Iq e m<;>intro e m
  ·apply wg 999;exact au
  apply wg 3;simp[e];refine Wj m 999 999 (λF f h=>∃G,(h=H/\f.1 38=sB G/\bx f 4 [sI 0,sI 0,nL,nL,nL]/\bx f 7 [sI a.cR.agj,sI a.cR.cO.agj,sL Ty.av a.cR.cO.agk,sL Tm.av a.cR.dc,sL Fm.av a.cR.agk,sL sI a.eX])/\F G=some r) (λF _ g m=>?_) ?_
  ·apply Iq e m<;>intro e m
   ·exact iO
   have⟨Y,e,m⟩:=fh e m;exact iO
  rintro _ _ ⟨G,E,m⟩;have e:=Aj e E;refine Il e m λe m=>?_;have⟨v,e,m⟩:=fh e m;simp[e];refine eI m r8 λ_ m=>?_;simp[e];refine eI m sS λ_ m=>?_;refine Il e m λe m=>?_;have⟨Z,e,m⟩:=fh e m;simp[e];refine eI m nR λ_ m=>?_;simp[e];refine eI m gV λ_ m=>?_;simp[e];refine eI m gV λ_ m=>?_;simp[e];refine eI m gL λ_ m=>?_;simp[e];refine ke m vS λ_ _ m=>?_;simp[e];refine eO m rz λ_ m=>?_;simp[e];refine eO m rz λ_ m=>?_;exact au
 ·intro T H a0 a1 a2 a3 r hm;rw[dQ] at hm;have e:=trivial;refine wi ago func230 [] [] 999 ?_;simp[e];refine ke hm c.1 λ_ Q m=>?_;refine Il e m λe m=>?_;simp[e];refine ke m vS λ_ _ m=>?_;refine Il e m λe m=>?_;simp[e];refine eO m Gd λ_ m=>?_;exact au
def D_{n:Nat}:C2 prog 48 (de n) (t2 ur.av sI) cW.av Pf.av:=(CK n).1
def lq:C3 prog 22 gl (t2 ur.av sI) (sL Fm.av) Sq.av Pf.av:=by
 refine v3 func22 λT H a0 a1 a2 r m e=>?_;rw[gl] at m;simp[e];refine eI m Ln λ_ m=>?_;refine Il e m λe m=>?_;simp[e];refine eI m Bw λ_ m=>?_;refine Il e m λe m=>?_;simp[e];refine ke m D_ λa _ m=>?_;refine Il e m λe m=>?_;simp[e];refine eO m lZ λ_ m=>?_;have⟨e,m⟩:=Ck e m;simp[e];refine Ad (f:=sI) [] a.eX (jj.full (D:=[])) Vh e.2 ?_;exact au
def xX:C2 prog 96 qE Sq.av Sq.av (sL Ty.av):=by
 refine v2 func96 λT H a0 a1 r m e=>?_;rw[qE] at m;simp[e];refine eI m r5 λk m=>?_;simp[e];refine Wr e m 999 (λj c f h=>∃a,(h=H/\f.1 1=sL Ty.av a1/\f.1 14=sL Fm.av a0.agq/\f.1 15=sI (dn a0.agq)/\f.1 16=sI j/\bx f 4 [nL,nL]/\bx f 5 [sL Ty.av k,sT a Fm.av c])/\Ow f [27] a c) (by exact⟨.full,aaN,jj.full⟩) (λc d _ _ E m=>?_) (λj _ c d _ _ _ _ E e m z p=>?_)
 ·have⟨a,E,b⟩:=E;have e:=Aj e E;dsimp only[cS]at m;exact au
 have⟨a,E,b⟩:=E;have e:=Aj e E;simp[e];refine eO m nR λi m=>?_;have⟨e,m⟩:=Ck e m;simp[e];refine Ad (f:=Fm.av) c [i] b Jv e.2 ?_;simp[e];cases m;exact p _ _ _ ⟨(.loc 27 (d.fu 27+1)),aaN,(On 27)⟩ z
def yt:C3 prog 95 rk Pf.av sI Ty.av Pf.av:=by
 refine v3 func95 λT H a0 a1 a2 r m e=>?_;rw[rk] at m;simp[e];refine eI m rL λ_ m=>?_;simp[e];refine eI m lD λ_ m=>?_;exact au
def DG:C3 prog 97 u_ Pf.av sI Tm.av Pf.av:=by
 refine v3 func97 λT H a0 a1 a2 r m e=>?_;rw[u_] at m;simp[e];refine eI m rL λa m=>?_;simp[e];refine eI m oX λb m=>?_;have e:=Aj e (show AV.agg [sI a.agj,sI a.agm,sI a.cO.agj,sL Ty.av a.cO.agk,AV.slice .jU [Tm.av b],sL Fm.av a.eo,sL Pf.av a.agk]=Pf.av (Pf.mk a.agj a.agm a.cO [b] a.eo a.agk) by rw[Pf.fE];rfl);exact au
section
attribute [-simp] Go.ns.DM
@[local simp] theorem ae9(x:Fm):DM prog 34 x.av 2=some (sL Tm.av x.dc):=by rw[Fm.gx];kernel_rfl
def rN:C1 prog 100 j4 Tm.av Tm.av:=by
 refine v1 func100 λT H a0 r m e=>?_;rw[j4] at m;simp[e];refine eI m qQ λ_ m=>?_;simp[e];refine eI m nR λ_ m=>?_;have⟨a,e,m⟩:=fh e m;exact au
end
def oT:C1 prog 64 l8 Pf.av Tm.av:=by
 refine v1 func64 λT H a0 r m e=>?_;rw[l8] at m;simp[e];refine eI m oX λa m=>?_;have e:=Aj e (show AV.agg [sI 18,sI 0,sI 0,AV.slice .jU [],AV.slice .jU [Tm.av a],AV.slice .jU [],AV.slice .jU []]=Pf.av (Pf.mk 18 0 (Ty.mk 0 []) [a] [] []) by rw[Pf.fE];rfl);exact au
def Dn:C4 prog 102 vb Pf.av sI Fm.av Tm.av Pf.av:=by
 refine v4 func102 λT H a0 a1 a2 a3 r m e=>?_;rw[vb] at m;simp[e];refine eI m DG λa m=>?_;simp[e];refine eI m lZ λb m=>?_;have e:=Aj e (show AV.agg [sI a.agj,sI a.agm,sI a.cO.agj,sL Ty.av a.cO.agk,sL Tm.av a.dc,AV.slice .jU [Fm.av b],sL Pf.av a.agk]=Pf.av (Pf.mk a.agj a.agm a.cO a.dc [b] a.agk) by rw[Pf.fE];rfl);exact au
def Nc(T:ec){H:dd}{a0:Int}{a1:Fm}{a2:Tm}{a3 a:Pf}{f0:Fm}(hm:sk a0 a1 a2 a3=some (a,f0)):dY prog T 102 [sI a0,Fm.av a1,Tm.av a2,Pf.av a3] H (AV.agg [sI a.agj,sI a.agm,sI a.cO.agj,sL Ty.av a.cO.agk,sL Tm.av a.dc,AV.xx (List.length H) 0 1 1,sL Pf.av a.agk]) (H++[[sI f0.agj,sI f0.cO.agj,sL Ty.av f0.cO.agk,sL Tm.av f0.dc,sL Fm.av f0.agk]]):=by
 rw[sk] at hm;have e:=trivial;refine wi ago func102 [16] [] 999 ?_;simp[e];refine eI hm DG λ_ m=>?_;simp[e];refine eI m lZ λ_ m=>?_;exact au
def Ox(T:ec){H:dd}{a0:c9}{a1:Sq}{a:Pf}{f0:Fm}{b:c9}{d:Nat}(c:H[d]?=some [sL sI a0.l,sI a0.rB])(hm:tj a0 a1=some (a,f0,b)):dY prog T 109 [AV.eS d 0,Sq.av a1] H (AV.agg [sI a.agj,sI a.agm,sI a.cO.agj,sL Ty.av a.cO.agk,sL Tm.av a.dc,AV.xx (List.length H) 0 1 1,sL Pf.av a.agk]) ((fH H d [sL sI b.l,sI b.rB])++[[sI f0.agj,sI f0.cO.agj,sL Ty.av f0.cO.agk,sL Tm.av f0.dc,sL Fm.av f0.agk]]):=by
 rw[tj] at hm;have f:=fI c;refine fl.Ph c ?_;have e:=f;refine wi ago func109 [] [] 999 ?_;simp[e];refine eI hm ji λ_ m=>?_;simp[e];refine ke m (oC T aaN) λ_ d3 m=>?_;simp[e];refine eO m rN λ_ m=>?_;simp[e];refine eO m gV λ_ m=>?_;simp[e];refine eO m qQ λ_ m=>?_;simp[e];refine eO m rz λ_ m=>?_;simp[e];refine eO m oT λ_ m=>?_;simp[e];refine oA m (Nc T) λ_ _ m=>?_;exact au
def yw:C1 prog 106 mj Pf.av sI:=by
 refine v1 func106 λT H a0 r m e=>?_;rw[mj] at m;exact au
def Fq:C5 prog 105 uE Pf.av sI Fm.av Tm.av Pf.av Pf.av:=by
 refine v5 func105 λT H a0 a1 a2 a3 a4 r m e=>?_;rw[uE] at m;simp[e];refine eI m rL λa m=>?_;simp[e];refine eI m oX λb m=>?_;simp[e];refine eI m lZ λc m=>?_;have e:=Aj e (show AV.agg [sI a.agj,sI a.agm,sI a.cO.agj,sL Ty.av a.cO.agk,AV.slice .jU [Tm.av b],AV.slice .jU [Fm.av c],sL Pf.av a.agk]=Pf.av (Pf.mk a.agj a.agm a.cO [b] [c] a.agk) by rw[Pf.fE];rfl);exact au
def GF:C2 prog 267 wN Tm.av Tm.av sI:=by
 refine v2 func267 λT H a0 a1 r m e=>?_;rw[wN] at m;simp[e];refine eI m GC λ_ m=>?_;exact au
def Gm:C3 prog 108 rU Pf.av Fm.av Pf.av Pf.av:=by
 refine v3 func108 λT H a0 a1 a2 r m e=>?_;rw[rU] at m;simp[e];refine eI m rL λa m=>?_;simp[e];refine eI m lZ λb m=>?_;have e:=Aj e (show AV.agg [sI a.agj,sI a.agm,sI a.cO.agj,sL Ty.av a.cO.agk,sL Tm.av a.dc,AV.slice .jU [Fm.av b],sL Pf.av a.agk]=Pf.av (Pf.mk a.agj a.agm a.cO a.dc [b] a.agk) by rw[Pf.fE];rfl);exact au
def Qq:C3 prog 240 vk Pf.av Tm.av Tm.av Pf.av:=by
 refine v3 func240 λT H a0 a1 a2 r m e=>?_;rw[vk] at m;simp[e];refine eO m GF λ_ m=>?_;simp[e];refine eO m GF λ_ m=>?_;simp[e];refine eO m gL λ_ m=>?_;simp[e];refine eO m GF λ_ m=>?_;simp[e];refine eO m gV λ_ m=>?_;simp[e];refine eO m gL λ_ m=>?_;simp[e];refine eO m qQ λ_ m=>?_;simp[e];refine eO m gL λ_ m=>?_;simp[e];refine eO m oT λ_ m=>?_;simp[e];refine eO m Gm λ_ m=>?_;exact au
def LX:C3 prog 241 su sI (sL Tm.av) (sL Fm.av) (sL Pf.av):=by
 refine v3 func241 λT H a0 a1 a2 r m e=>?_;rw[su] at m;simp[e];refine FC e m 999 (λc _ f h=>h=H/\f.1 1=sL Fm.av a1/\f.1 2=sL Pf.av a2/\f.1 16=sL Tm.av a0/\f.1 17=sI (dn a0)/\f.1 18=sI c) aaN (λc _ _ _ _ _ _ _ E e m z p=>?_) (λ_ _ _ _ E m=>?_)
 ·have e:=Aj e E;simp[e];refine eI m qW λ_ m=>?_;refine Il e m λe m=>?_;exact al
 have e:=Aj e E;dsimp only[cS]at m;simp[e];refine FC e m 999 (λa _ f h=>h=H/\f.1 2=sL Pf.av a2/\f.1 28=sL Fm.av a1/\f.1 29=sI (dn a1)/\f.1 30=sI a) aaN (λa _ _ _ _ _ _ _ E e m z p=>?_) (λ_ _ _ _ E m=>?_)
 ·have e:=Aj e E;simp[e];refine eI m n8 λ_ m=>?_;refine Il e m λe m=>?_;exact al
 have e:=Aj e E;dsimp only[cS]at m;simp[e];refine Wr e m 999 (λb _ f h=>h=H/\f.1 40=sL Pf.av a2/\f.1 41=sI (dn a2)/\f.1 42=sI b) aaN (λ_ _ _ _ E m=>?_) (λb _ _ _ _ _ _ _ E e m z p=>?_)
 ·have e:=Aj e E;dsimp only[cS]at m;exact au
 have e:=Aj e E;simp[e];refine eI m Bw λ_ m=>?_;refine Il e m λe m=>?_;exact al
def Ok:C2 prog 239 tS (t2 Pf.av sI) Pf.av sI:=by
 refine v2 func239 λT H a0 a1 r m e=>?_;rw[tS] at m;refine Il e m λe m=>?_;simp[e];refine eI m Ij λ_ m=>?_;refine Im e m λe m=>?_;simp[e];refine eI m H8 λ_ m=>?_;exact au
def PI:C4 prog 176 vp (t2 Pf.av sI) Tm.av Tm.av Tm.av Pf.av:=by
 refine v4 func176 λT H a0 a1 a2 a3 r m e=>?_;rw[vp] at m;simp[e];refine eO m Qq λ_ m=>?_;simp[e];refine eO m LX λ_ m=>?_;simp[e];refine oA m Ok λ_ _ m=>?_;exact au
def Ub:C1 prog 107 zS Pf.av Tm.av:=by
 refine v1 func107 λT H a0 r m e=>?_;rw[zS] at m;simp[e];refine eI m I4 λ_ m=>?_;simp[e];refine eI m EP λ_ m=>?_;simp[e];refine eI m gV λ_ m=>?_;simp[e];refine eI m Ni λ_ m=>?_;simp[e];refine eO m gV λ_ m=>?_;simp[e];refine eO m qQ λ_ m=>?_;simp[e];refine eO m ji λ_ m=>?_;simp[e];refine eO m gV λ_ m=>?_;simp[e];refine eO m gL λ_ m=>?_;simp[e];refine eO m oG λ_ m=>?_;simp[e];refine eO m gV λ_ m=>?_;simp[e];refine eO m yw λ_ m=>?_;simp[e];refine oA m PI λ_ _ m=>?_;simp[e];refine eO m EP λ_ m=>?_;simp[e];refine eO m oT λ_ m=>?_;simp[e];refine eO m Fq λ_ m=>?_;exact au
def Vz(T:ec){H:dd}{a0:c9}{a1:Sq}{f:Pf}{a:c9}{c:Nat}(b:H[c]?=some [sL sI a0.l,sI a0.rB])(hm:CU a0 a1=some (f,a)):dY prog T 109 [AV.eS c 0,Sq.av a1] H (Pf.av f) (fH H c [sL sI a.l,sI a.rB]):=by
 rw[CU] at hm;have d:=fI b;refine fl.Ph b ?_;have e:=d;refine wi ago func109 [] [] 999 ?_;simp[e];refine eI hm ji λ_ m=>?_;simp[e];refine ke m (oC T aaN) λ_ d3 m=>?_;simp[e];refine eO m rN λ_ m=>?_;simp[e];refine eO m gV λ_ m=>?_;simp[e];refine eO m qQ λ_ m=>?_;simp[e];refine eO m rz λ_ m=>?_;simp[e];refine eO m oT λ_ m=>?_;simp[e];refine eO m Dn λ_ m=>?_;exact au
def Q4(T:ec):∀(n:Nat),(∀{H:dd} {a0:c9} {a1:List Fm} {a2:Sq} {a3:Int} {t:Pf} {c:c9} {j:Nat} (q:H[j]?=some [sL sI a0.l,sI a0.rB]) (hm:jx n a0 a1 a2 a3=some (t,c)),dY prog T 63 [AV.eS j 0,sL Fm.av a1,Sq.av a2,sI a3] H (Pf.av t) (fH H j [sL sI c.l,sI c.rB]))/\(∀{H:dd} {a0:c9} {a1:List Fm} {a2:Sq} {a3:Int} {t:Pf} {c:c9} {j:Nat} (q:H[j]?=some [sL sI a0.l,sI a0.rB]) (hm:xP n a0 a1 a2 a3=some (t,c)),dY prog T 104 [AV.eS j 0,sL Fm.av a1,Sq.av a2,sI a3] H (Pf.av t) (fH H j [sL sI c.l,sI c.rB])):=by
  intro n
  induction n with
  |zero=>
    refine⟨?_,?_⟩
    all_goals(intro _ _;intros;rename_i hm;cases hm)
  |succ n k=>
 refine⟨?_,?_⟩
 ·intro H a0 a1 a2 a3 t c j q hm;rw[jx] at hm;have D:=fI q;refine fl.Ph q ?_;have e:=D;refine wi ago func63 [] [] 4 ?_;simp[e];refine eI hm ji λM m=>?_;simp[e];refine yU m 0 0 (λR f h=>∃v3,(h=fH H j [sL sI v3.l,sI v3.rB]/\f.1 0=AV.eS j 0/\f.1 1=sL Fm.av a1/\bx f 6 (Sq.av a2).cells/\bx f 8 [sI 0,sI 0,sI 0,nL,nL,nL,nL]/\bx f 9 (Ty.av M).cells)/\R v3=some (t,c)) ?_ (λR _ g m=>?_)
  ·rintro _ _ ⟨v3,E,m⟩;have e:=Aj e E;refine yU m 999 999 (λS f h=>∃L,(h=fH H j [sL sI L.l,sI L.rB]/\f.1 0=AV.eS j 0/\bx f 6 (Sq.av a2).cells/\bx f 8 [sI 0,sI 0,sI 0,nL,nL,nL,nL]/\bx f 9 (Ty.av M).cells)/\S L=some (t,c)) ?_ (λS _ g m=>?_)
   ·rintro _ _ ⟨L,E,m⟩;have e:=Aj e E;simp[e];refine ke m (oC T aaN) λ_ d13 m=>?_;simp[e];refine eI m oT λ_ m=>?_;exact au
   simp[e];refine ke m (gf T aaN) λ_ d16 m=>?_;apply Iq e m<;>intro e m
   ·apply Ir e m<;>intro e m
    ·exact iO
    simp[e];refine ke m (gf T aaN) λ_ d18 m=>?_;simp[e];refine eI m yw λ_ m=>?_;exact au
   apply Ir e m<;>intro e m
   ·exact iO
   apply Ir e m<;>intro e m
   ·exact iO
   simp[e];refine ke m (gf T aaN) λ_ d21 m=>?_;exact au
  refine wj 999 999 (λf h=>h=fH H j [sL sI a0.l,sI a0.rB]/\f.1 0=AV.eS j 0/\f.1 1=sL Fm.av a1/\f.1 3=sI a3/\f.1 50=sB (eH (nW a3 0) (eH (pP (dn a2.agn) 10) (pP (dn a2.agq) 10) false) false)/\bx f 6 (Sq.av a2).cells/\bx f 8 [sI 0,sI 0,sI 0,nL,nL,nL,nL]/\bx f 9 (Ty.av M).cells) (λ_ g=>?_) ?_
  ·rcases Pb (nW a3 0) e with e|e;rotate_left
   ·exact aj
   rcases Pb (pP (dn a2.agn) 10) e with e|e
   ·exact aj
   exact aj
  rintro _ _ E;have e:=Aj e E;apply Ir e m<;>intro e m
  ·exact iO
  simp[e];refine ke m (gf T aaN) λ_ d26 m=>?_;apply Iq e m<;>intro e m
  ·simp[e];refine oA m (k.1 aaN) λ_ d28 m=>?_;simp[e];refine oA m (k.1 aaN) λ_ d30 m=>?_;simp[e];refine eO m rL λ_ m=>?_;exact au
  apply Iq e m<;>intro e m
  ·simp[e];refine oA m (gf T aaN) λ_ d33 m=>?_;simp[e];refine oA m (k.1 aaN) λ_ d35 m=>?_;simp[e];refine oA m (k.1 aaN) λ_ d37 m=>?_;simp[e];refine eO m rL λ_ m=>?_;simp[e];refine eO m rL λ_ m=>?_;exact au
  apply Iq e m<;>intro e m
  ·simp[e];refine ke m (Pr T aaN) λ_ d41 m=>?_;simp[e];refine eO m Ka λ_ m=>?_;simp[e];refine oA m (k.1 aaN) λ_ d44 m=>?_;simp[e];refine eO m KB λ_ m=>?_;exact au
  apply Iq e m<;>intro e m
  ·simp[e];refine ke m (k.1 aaN) λ_ d47 m=>?_;simp[e];refine ke m lq λ_ _ m=>?_;apply Ir e m<;>intro e m
   ·exact iO
   simp[e];refine eO m Ka λ_ m=>?_;simp[e];refine oA m (k.1 aaN) λ_ d52 m=>?_;simp[e];refine eO m KB λ_ m=>?_;simp[e];refine eO m rL λ_ m=>?_;exact au
  apply Iq e m<;>intro e m
  ·simp[e];refine ke m (pA T aaN) λ_ d56 m=>?_;simp[e];refine eO m xX λ_ m=>?_;simp[e];refine oA m (k.1 aaN) λ_ d59 m=>?_;simp[e];refine eO m yt λ_ m=>?_;exact au
  apply Iq e m<;>intro e m
  ·simp[e];refine ke m (pA T aaN) λ_ d62 m=>?_;simp[e];refine oA m (oC T aaN) λ_ d64 m=>?_;simp[e];refine eO m xX λ_ m=>?_;simp[e];refine oA m (k.1 aaN) λ_ d67 m=>?_;simp[e];refine eO m yt λ_ m=>?_;simp[e];refine eO m DG λ_ m=>?_;exact au
  apply Iq e m<;>intro e m
  ·simp[e];refine ke m (oC T aaN) λ_ d71 m=>?_;simp[e];refine ke m (gf T aaN) λ_ d73 m=>?_;have⟨N,G,m⟩:=lK m;have e:=Aj e (show[sI 5,sI 7]=List.map sI N by rw[G];rfl);have⟨W,e,m⟩:=fh e m;simp[e];refine eO m rN λ_ m=>?_;simp[e];refine eO m gV λ_ m=>?_;simp[e];refine eO m qQ λ_ m=>?_;simp[e];refine eO m rz λ_ m=>?_;have⟨O,I,m⟩:=lK m;have e:=Aj e (show[sI 10,sI 14]=List.map sI O by rw[I];rfl);have⟨Y,e,m⟩:=fh e m;simp[e];refine eO m oT λ_ m=>?_;simp[e];refine eO m Dn λ_ m=>?_;exact au
  apply Iq e m<;>intro e m
  ·simp[e];refine ke m (k.1 aaN) λ_ d87 m=>?_;simp[e];refine ke m lq λ_ _ m=>?_;apply Ir e m<;>intro e m
   ·exact iO
   simp[e];refine ke m (pA T aaN) λ_ d91 m=>?_;simp[e];refine ke m (gf T aaN) λ_ d93 m=>?_;have⟨P,J,m⟩:=lK m;have e:=Aj e (show[sI 5,sI 7]=List.map sI P by rw[J];rfl);have⟨Z,e,m⟩:=fh e m;simp[e];refine eO m nR λ_ m=>?_;simp[e];refine eO m rz λ_ m=>?_;have⟨Q,F,m⟩:=lK m;have e:=Aj e (show[sI 10,sI 14]=List.map sI Q by rw[F];rfl);have⟨U,e,m⟩:=fh e m;simp[e];refine oA m (oC T aaN) λ_ d103 m=>?_;simp[e];refine eO m Dn λ_ m=>?_;exact au
  apply Iq e m<;>intro e m
  ·simp[e];refine ke m (k.2 aaN) λ_ d106 m=>?_;exact au
  apply Iq e m<;>intro e m
  ·simp[e];refine ke m (k.1 aaN) λ_ d108 m=>?_;simp[e];refine ke m lq λ_ _ m=>?_;apply Ir e m<;>intro e m
   ·exact iO
   simp[e];refine eO m nR λ_ m=>?_;simp[e];refine oA m (oC T aaN) λ_ d113 m=>?_;simp[e];refine eO m yw λ_ m=>?_;simp[e];refine eO m Fq λ_ m=>?_;exact au
  apply Iq e m<;>intro e m
  ·simp[e];refine ke m (k.1 aaN) λ_ d117 m=>?_;simp[e];refine ke m lq λ_ _ m=>?_;apply Ir e m<;>intro e m
   ·exact iO
   simp[e];refine eO m nR λ_ m=>?_;simp[e];refine eO m qD λ_ m=>?_;simp[e];refine oA m (oC T aaN) λ_ d123 m=>?_;simp[e];refine eO m yw λ_ m=>?_;simp[e];refine eO m Fq λ_ m=>?_;exact au
  apply Iq e m<;>intro e m
  ·simp[e];refine ke m (oC T aaN) λ_ d127 m=>?_;simp[e];refine eI m Ub λ_ m=>?_;exact au
  apply Iq e m<;>intro e m
  ·simp[e];refine oA m (oC T aaN) λ_ d130 m=>?_;simp[e];refine oA m (oC T aaN) λ_ d132 m=>?_;simp[e];refine eO m rN λ_ m=>?_;simp[e];refine eO m rN λ_ m=>?_;simp[e];refine eO m qQ λ_ m=>?_;simp[e];refine eO m oT λ_ m=>?_;simp[e];refine eO m oT λ_ m=>?_;simp[e];refine eO m Gm λ_ m=>?_;exact au
  apply Iq e m<;>intro e m
  ·simp[e];refine ke m (pA T aaN) λ_ d140 m=>?_;simp[e];refine eO m xX λ_ m=>?_;simp[e];refine oA m (Vz T aaN) λ_ d143 m=>?_;simp[e];refine eO m yt λ_ m=>?_;simp[e];refine eO m rL λ_ m=>?_;exact au
  apply Iq e m<;>intro e m
  ·simp[e];refine ke m (pA T aaN) λ_ d147 m=>?_;simp[e];refine eO m xX λ_ m=>?_;simp[e];refine oA m (k.1 aaN) λ_ d150 m=>?_;simp[e];refine eO m yt λ_ m=>?_;exact au
  apply Ir e m<;>intro e m
  ·exact iO
  simp[e];refine ke m (pA T aaN) λ_ d153 m=>?_;simp[e];refine oA m (oC T aaN) λ_ d155 m=>?_;simp[e];refine eO m xX λ_ m=>?_;simp[e];refine oA m (k.1 aaN) λ_ d158 m=>?_;simp[e];refine eO m yt λ_ m=>?_;simp[e];refine eO m DG λ_ m=>?_;exact au
 ·intro H a0 a1 a2 a3 t c j q hm;rw[xP] at hm;have D:=fI q;refine fl.Z6 (Post:=λx K=>x=Pf.av t/\∃X,K=(fH H j [sL sI c.l,sI c.rB])++X) ?_ (λ_ _ h=>⟨_,h.2.choose,h.2.choose_spec,aaB,by rw[h.1];simp[AV.low,AV.kx],λcs h=>by rcases Wb h with h|h<;>first|exact .inl h|(rw[h];simp[AV.low,AV.kx]),h.1,rfl⟩);refine fl.Ph q ?_;have e:=D;refine wi ago func104 [] [] 6 ?_;simp[e];refine KE hm (Ox T aaN) λa b d163 m=>?_;simp[e];refine Wj m 999 4 (λB f h=>∃r i v167 v168,(h=(fH H j [sL sI v167.l,sI v167.rB])++[[sI v168,sI b.cO.agj,sL Ty.av b.cO.agk,sL Tm.av b.dc,sL Fm.av b.agk]]/\f.1 0=AV.eS j 0/\f.1 1=sL Fm.av a1/\f.1 3=sI a3/\f.1 10=sI r/\bx f 6 (Sq.av a2).cells/\bx f 8 [sI 0,sI 0,sI 0,nL,nL,nL,nL]/\bx f 9 [sI i,sI a.agm,sI a.cO.agj,sL Ty.av a.cO.agk,sL Tm.av a.dc,AV.xx (List.length H) 0 1 1,sL Pf.av a.agk])/\B r i v167 v168=some (t,c)) (λB _ g m=>?_) ?_
  ·simp[e];refine ke m (gf T aaN) λ_ d172 m=>?_;apply Iq e m<;>intro e m
   ·simp[e];exact g _ _ ⟨_,_,_,_,aaN,m⟩
   simp[e];exact g _ _ ⟨_,_,_,_,aaN,m⟩
  rintro _ _ ⟨r,i,v167,v168,E,m⟩;have e:=Aj e E;have⟨V,e,m⟩:=fh e m;simp[e];refine eO m ji λ_ m=>?_;simp[e];refine eO m xX λ_ m=>?_;simp[e];refine eO m Ka λ_ m=>?_;simp[e];refine oA m (k.1 aaN) λ_ d179 m=>?_;simp[e];refine Wj m 999 1 (λC f h=>∃u v182 v183 v w y A s,(h=(fH H j [sL sI s.l,sI s.rB])++[[sI v168,sI b.cO.agj,sL Ty.av b.cO.agk,sL Tm.av b.dc,sL Fm.av b.agk]]/\f.1 10=sI r/\bx f 8 [sI 0,sI 0,sI 0,nL,nL,nL,nL]/\bx f 9 [sI i,sI a.agm,sI a.cO.agj,sL Ty.av a.cO.agk,sL Tm.av a.dc,AV.xx (List.length H) 0 1 1,sL Pf.av a.agk]/\bx f 12 [sI u,sI v182,sI v183,sL Ty.av v,sL Tm.av w,sL Fm.av y,sL Pf.av A])/\C u v182 v183 v w y A s=some (t,c)) (λC _ g m=>?_) ?_
  ·simp[e];refine ke m (gf T aaN) λ_ d192 m=>?_;apply Ir e m<;>intro e m
   ·simp[e];exact g _ _ ⟨_,_,_,_,_,_,_,_,aaN,m⟩
   simp[e];refine eI m nR λ_ m=>?_;simp[e];refine eO m gV λ_ m=>?_;simp[e];refine eO m yw λ_ m=>?_;simp[e];refine eO m Dn λ_ m=>?_;simp[e];exact g _ _ ⟨_,_,_,_,_,_,_,_,aaN,m⟩
  rintro _ _ ⟨u,v182,v183,v,w,y,A,s,E,m⟩;have e:=Aj e E;simp[e];refine aeO 999 (o:=(List.length H)) (d:=9) (pre:=[sI i,sI a.agm,sI a.cO.agj,sL Ty.av a.cO.agk,sL Tm.av a.dc]) (post:=[sL Pf.av a.agk]) (x:=Fm.av (Fm.mk v168 b.cO b.dc b.agk)) aaN aaN aaB (by simp;rfl) ?_;have e:=Aj e (show AV.agg [sI i,sI a.agm,sI a.cO.agj,sL Ty.av a.cO.agk,sL Tm.av a.dc,AV.slice .jU [Fm.av (Fm.mk v168 b.cO b.dc b.agk)],sL Pf.av a.agk]=Pf.av (Pf.mk i a.agm a.cO a.dc [(Fm.mk v168 b.cO b.dc b.agk)] a.agk) by rw[Pf.fE];rfl);simp[e];refine eI m rL λ_ m=>?_;exact au
def S4(T:ec){H:dd}{a0:c9}{a1:List Fm}{a2:Sq}{a3:Int}{d:Pf}{a:c9}{b:Nat}(c:H[b]?=some [sL sI a0.l,sI a0.rB]){n:Nat}(hm:jx n a0 a1 a2 a3=some (d,a)):dY prog T 63 [AV.eS b 0,sL Fm.av a1,Sq.av a2,sI a3] H (Pf.av d) (fH H b [sL sI a.l,sI a.rB]):=(Q4 T n).1 c hm
def Su(T:ec){H:dd}{a0:c9}{a1:List Fm}{a2:Sq}{a3:Int}{i:Pf}{j:ur}{a:c9}{b:Nat}(c:H[b]?=some [sL sI a0.l,sI a0.rB])(hm:AM a0 a1 a2 a3=some (i,j,a)):dY prog T 32 [AV.eS b 0,sL Fm.av a1,Sq.av a2,sI a3] H (AV.tuple [Pf.av i,ur.av j]) (fH H b [sL sI a.l,sI a.rB]):=by
 rw[AM] at hm;have d:=fI c;refine fl.Ph c ?_;have e:=d;refine wi ago func32 [] [] 999 ?_;simp[e];refine Wn hm 999 (λs1 f h=>h=fH H b [sL sI s1.2.l,sI s1.2.rB]/\f.1 0=AV.eS b 0/\f.1 1=sL Fm.av a1/\f.1 3=sI a3/\f.1 16=sI s1.1/\bx f 6 (Sq.av a2).cells/\bx f 8 [sI 0,sI 0,sI 0,nL,nL,nL,nL]/\bx f 9 [sI 0,sI 0,nL,nL,nL,nL]) aaN (λs1 _ _ _ _ _ E m z p=>?_);have⟨k,v9⟩:=s1;have e:=Aj e E;dsimp only[gD]at m;apply Iq e m<;>intro e m
 ·simp[e];refine ke m (S4 T aaN) λ_ d11 m=>?_;simp[e];refine ke m lq λ_ _ m=>?_;refine Il e m λe m=>?_;exact al
 cases m;have m:=Qb z;dsimp only[gD]at m;simp[e];refine ke m (gf T aaN) λ_ d15 m=>?_;simp[e];refine eI m EP λ_ m=>?_;simp[e];refine eI m oT λ_ m=>?_;simp[e];refine ke m lq λ_ _ m=>?_;exact au
def D5(T:ec){H:dd}{a0:c9}{r0:Pf}{r1:List Ty}{V:c9}{D:Nat}(ae:H[D]?=some [sL sI a0.l,sI a0.rB])(hm:pd a0=some (r0,r1,V)):dY prog T 13 [AV.eS D 0] H (AV.tuple [Pf.av r0,sL Ty.av r1]) (fH H D [sL sI V.l,sI V.rB]):=by
 rw[pd] at hm;have ak:=fI ae;refine fl.Ph ae ?_;have e:=ak;refine wi ago func13 [] [] 999 ?_;simp[e];refine ke hm (gf T aaN) λ_ d2 m=>?_;simp[e];refine Wn m 999 (λW f h=>∃v,(h=fH H D [sL sI W.2.2.l,sI W.2.2.rB]/\f.1 0=AV.eS D 0/\f.1 4=sT v Ty.av W.1/\f.1 5=sI W.2.1/\bx f 2 [sI 0,sI 0,sI 0,nL,nL,nL,nL])/\Ow f [23] v W.1) (by exact⟨.full,aaN,jj.full⟩) (λW an _ _ _ _ E m z p=>?_);have⟨v10,v11,v12⟩:=W;have⟨v,E,U⟩:=E;have e:=Aj e E;dsimp only[PT]at m;apply Iq e m<;>intro e m
 ·simp[e];refine ke m (pA T aaN) λao d14 m=>?_;have⟨e,m⟩:=Ck e m;simp[e];refine Ao (f:=Ty.av) v10 [ao] U GR e.2 ?_;simp[e];cases m;exact p _ _ _ ⟨(.loc 23 (an.fu 23+1)),aaN,(On 23)⟩ z
 cases m;have m:=Qb z;dsimp only[PT]at m;simp[e];refine KE m (Su T aaN) λ_ a d17 m=>?_;simp[e];refine Wn m 999 (λk f h=>∃n w x y,(h=fH H D [sL sI k.2.2.2.2.2.2.2.2.l,sI k.2.2.2.2.2.2.2.2.rB]/\f.1 0=AV.eS D 0/\f.1 4=sT n Ty.av v10/\f.1 8=sI k.1/\bx f 2 [sI 0,sI 0,sI 0,nL,nL,nL,nL]/\bx f 6 [sI k.2.1,sI k.2.2.1,sI k.2.2.2.1,sL Ty.av k.2.2.2.2.1,sT w Tm.av k.2.2.2.2.2.1,sT x Fm.av k.2.2.2.2.2.2.1,sT y Pf.av k.2.2.2.2.2.2.2.1]/\bx f 7 [sI a.cR.agj,sI a.cR.cO.agj,sL Ty.av a.cR.cO.agk,sL Tm.av a.cR.dc,sL Fm.av a.cR.agk,sL sI a.eX])/\Ow f [23] n v10) (by exact⟨v,.jU,.jU,.jU,aaN,U⟩) (λk _ _ _ _ af E m z p=>?_);have⟨K,O,P,v28,Q,v30,v31,R,L⟩:=k;have⟨n,w,x,y,E,X⟩:=E;have e:=Aj e E;dsimp only[QD]at m;apply Ir e m<;>intro e m
 ·cases m;have m:=Qb z;dsimp only[QD]at m;exact au
 simp[e];refine FC e m 5 (λY M f h=>∃b c d i,(h=fH H D [sL sI L.l,sI L.rB]/\f.1 0=AV.eS D 0/\f.1 4=sT b Ty.av v10/\f.1 8=sI K/\f.1 9=sI 8/\f.1 10=sB M/\f.1 39=sL sI a.eX/\f.1 40=sI (dn a.eX)/\f.1 41=sI Y/\bx f 2 [sI 0,sI 0,sI 0,nL,nL,nL,nL]/\bx f 6 [sI O,sI P,sI v28,sL Ty.av Q,sT c Tm.av v30,sT d Fm.av v31,sT i Pf.av R]/\bx f 7 [sI a.cR.agj,sI a.cR.cO.agj,sL Ty.av a.cR.cO.agk,sL Tm.av a.cR.dc,sL Fm.av a.cR.agk,sL sI a.eX])/\Ow f [23] b v10) (by exact⟨n,w,x,y,aaN,X⟩) (λY aq M _ _ _ _ _ E e m z p=>?_) (λM _ _ _ E m=>?_)
 ·have⟨b,c,d,i,E,u⟩:=E;have e:=Aj e E;simp[e];refine OV 999 999 (λf h=>∃o A B C,(h=fH H D [sL sI L.l,sI L.rB]/\f.1 0=AV.eS D 0/\f.1 4=sT o Ty.av v10/\f.1 8=sI K/\f.1 9=sI 8/\f.1 10=sB (eH M true (dm aq (ea .i64 (ea .i64 (dn v10) 1) K)))/\f.1 39=sL sI a.eX/\f.1 40=sI (dn a.eX)/\f.1 41=sI Y/\bx f 2 [sI 0,sI 0,sI 0,nL,nL,nL,nL]/\bx f 6 [sI O,sI P,sI v28,sL Ty.av Q,sT A Tm.av v30,sT B Fm.av v31,sT C Pf.av R]/\bx f 7 [sI a.cR.agj,sI a.cR.cO.agj,sL Ty.av a.cR.cO.agk,sL Tm.av a.cR.dc,sL Fm.av a.cR.agk,sL sI a.eX])/\Ow f [23] o v10) ?_ (λ_ g=>?_)
  ·rintro _ _ ⟨o,A,B,C,E,Z⟩;have e:=Aj e E;simp[e];cases m;exact p _ _ _ ⟨o,A,B,C,aaN,Z⟩ z
  rcases Pb M e with e|e
  ·simp[e];exact g _ _ ⟨b,c,d,i,aaN,u⟩
  simp[e];exact g _ _ ⟨b,c,d,i,aaN,u⟩
 have⟨b,c,d,i,E,u⟩:=E;have e:=Aj e E;dsimp only[cS]at m;simp[e];refine yU m 0 999 (λah f h=>∃aa S q F G I,(h=fH H D [sL sI S.l,sI S.rB]/\f.1 0=AV.eS D 0/\f.1 4=sT q Ty.av v10/\f.1 8=sI K/\f.1 9=sI aa/\bx f 2 [sI 0,sI 0,sI 0,nL,nL,nL,nL]/\bx f 6 [sI O,sI P,sI v28,sL Ty.av Q,sT F Tm.av v30,sT G Fm.av v31,sT I Pf.av R]/\bx f 7 [sI a.cR.agj,sI a.cR.cO.agj,sL Ty.av a.cR.cO.agk,sL Tm.av a.cR.dc,sL Fm.av a.cR.agk,sL sI a.eX])/\Ow f [23] q v10/\ah aa S=some af) ?_ (λah _ g m=>?_)
 ·rintro _ _ ⟨aa,S,q,F,G,I,E,ab,m⟩;have e:=Aj e E;have⟨aw,e,m⟩:=fh e m;simp[e];cases m;exact p _ _ _ ⟨q,.full,.full,.full,aaN,ab⟩ z
 refine yU m 999 999 (λai f h=>∃ad J j r s t,(h=fH H D [sL sI J.l,sI J.rB]/\f.1 0=AV.eS D 0/\f.1 4=sT j Ty.av v10/\f.1 8=sI K/\f.1 9=sI 8/\f.1 62=sB ad/\bx f 2 [sI 0,sI 0,sI 0,nL,nL,nL,nL]/\bx f 6 [sI O,sI P,sI v28,sL Ty.av Q,sT r Tm.av v30,sT s Fm.av v31,sT t Pf.av R]/\bx f 7 [sI a.cR.agj,sI a.cR.cO.agj,sL Ty.av a.cR.cO.agk,sL Tm.av a.cR.dc,sL Fm.av a.cR.agk,sL sI a.eX])/\Ow f [23] j v10/\ai ad J=some af) ?_ (λai _ g m=>?_)
 ·rintro _ _ ⟨ad,J,j,r,s,t,E,N,m⟩;have e:=Aj e E;apply Ir e m<;>intro e m
  ·simp[e];exact g _ _ ⟨8,J,j,r,s,t,aaN,N,m⟩
  simp[e];exact g _ _ ⟨12,J,j,r,s,t,aaN,N,m⟩
 apply Iq e m<;>intro e m
 ·simp[e];exact g _ _ ⟨false,L,b,c,d,i,aaN,u,m⟩
 simp[e];refine ke m (gf T aaN) λar d60 m=>?_;simp[e];exact g _ _ ⟨(dm ar 0),d60,b,c,d,i,aaN,u,m⟩
def vK:C1 prog 34 nF sB Pf.av:=by
 refine u1 2 func34 λT H a0 r m e=>?_;rw[nF] at m;simp[e];refine OV 999 999 (λf h=>h=H/\f.1 2=sB (eH (dm a0.agj 8) (dm (dn a0.agk) 1) (eH (dm a0.agj 12) (dm (dn a0.agk) 1) false))) ?_ (λ_ g=>?_)
 ·rintro _ _ E;have e:=Aj e E;exact au
 rcases Pb (dm a0.agj 8) e with e|e
 ·exact aj
 rcases Pb (dm a0.agj 12) e with e|e
 ·exact aj
 exact aj
def N_:C1 prog 15 vP sI Pf.av:=by
 refine v1 func15 λT H a0 r m e=>?_;rw[vP] at m;simp[e];refine Wn m 999 (λs1 f h=>h=H/\f.1 3=sI s1.1/\bx f 1 [sI s1.2.1,sI s1.2.2.1,sI s1.2.2.2.1,sL Ty.av s1.2.2.2.2.1,sL Tm.av s1.2.2.2.2.2.1,sL Fm.av s1.2.2.2.2.2.2.1,sL Pf.av s1.2.2.2.2.2.2.2]) aaN (λs1 _ _ _ _ _ E m z p=>?_);have⟨i,v9,v10,v11,v12,a,b,c⟩:=s1;have e:=Aj e E;dsimp only[PQ]at m;simp[e];refine eI m vK λ_ m=>?_;apply Ir e m<;>intro e m
 ·cases m;have m:=Qb z;dsimp only[PQ]at m;exact au
 have⟨d,e,m⟩:=fh e m;exact al
def Py:C2 prog 139 DB (sL Tm.av) (sL Tm.av) Tm.av:=by
 refine v2 func139 λT H a0 a1 r m e=>?_;rw[DB] at m;have⟨e,m⟩:=Ck e m;simp[e];refine Ad (f:=Tm.av) [] a0 (jj.full (D:=[])) F1 e.2 ?_;have⟨e,m⟩:=Ck e m;simp[e];refine Ad (f:=Tm.av) (eV [] a0) [a1] (jj.new (D:=[6]) (d:=6) aaa) F1 e.2 ?_;exact au
def Qu:C3 prog 140 vL (t2 Fm.av sI) Fm.av sI sI:=by
 refine u3 7 func140 λT H a0 a1 a2 r m e=>?_;rw[vL] at m;simp[e];refine eI m n8 λ_ m=>?_;simp[e];apply Iq e m<;>intro e m
 ·apply wg 999;exact au
 apply wg 3;simp[e];refine yU m 999 999 (λa f h=>∃v3,(h=H/\f.1 1=sI a1/\f.1 2=sI a2/\f.1 33=sB v3/\bx f 3 (Fm.av a0).cells/\bx f 6 [sI 0,sI 0,nL,nL,nL])/\a v3=some r) ?_ (λa _ g m=>?_)
 ·rintro _ _ ⟨v3,E,m⟩;have e:=Aj e E;refine Il e m λe m=>?_;simp[e];refine eI m nR λ_ m=>?_;simp[e];refine eI m lZ λ_ m=>?_;exact au
 apply Iq e m<;>intro e m
 ·exact iO
 apply Iq e m<;>intro e m
 ·exact iO
 apply Iq e m<;>intro e m
 ·exact iO
 apply Iq e m<;>intro e m
 ·exact iO
 simp[e];refine eI m Gf λ_ m=>?_;exact iO
def N9:C3 prog 76 yG eK.av eK.av Ty.av Tm.av:=by
 refine v3 func76 λT H a0 a1 a2 r m e=>?_;rw[yG] at m;simp[e];refine eO m Py λl m=>?_;have⟨e,m⟩:=Ck e m;simp[e];refine Ad (f:=Ty.av) [] a0.mD.agn (jj.full (D:=[])) GR e.2 ?_;have⟨e,m⟩:=Ck e m;simp[e];refine Ad (f:=Ty.av) (eV [] a0.mD.agn) [a1] (jj.new (D:=[21]) (d:=21) aaa) GR e.2 ?_;simp[e];refine Wn m 999 (λs2 f h=>∃a b,(h=H/\f.1 8=sI s2.1/\bx f 3 [sL Ty.av a0.mD.agn,sL Fm.av a0.mD.agq,sL Tm.av a0.vars,sL Tm.av a0.agq]/\bx f 6 [nL,nL,nL,nL]/\bx f 7 [sT a Ty.av (eV (eV [] a0.mD.agn) [a1]),sT b Fm.av s2.2,sL Tm.av l,sL Tm.av a0.agq])/\Ow f [24] a (eV (eV [] a0.mD.agn) [a1])/\Ow f [50] b s2.2) (by exact⟨(.loc 24 1),.full,aaN,(On 24),jj.full⟩) (λs2 j _ _ _ _ E m z p=>?_);have⟨v9,v10⟩:=s2;have⟨a,b,E,i,c⟩:=E;have e:=Aj e E;dsimp only[gD]at m;apply Ir e m<;>intro e m
 ·cases m;have m:=Qb z;dsimp only[gD]at m;exact au
 have⟨n,e,m⟩:=fh e m;simp[e];refine ke m Qu λk _ m=>?_;have⟨e,m⟩:=Ck e m;simp[e];refine Ao (f:=Fm.av) v10 [k] c Jv e.2 ?_;simp[e];cases m;exact p _ _ _ ⟨a,(.loc 50 (j.fu 50+1)),aaN,(jj.other i c aaa aaa),(On 50)⟩ z
def PE:C3 prog 77 AD sB (sL Fm.av) Sq.av Pf.av:=by
 refine v3 func77 λT H a0 a1 a2 r m e=>?_;rw[AD] at m;simp[e];refine ke m lq λa _ m=>?_;simp[e];refine Wn m 999 (λb f h=>h=H/\f.1 9=sI b/\bx f 7 [sI a.cR.agj,sI a.cR.cO.agj,sL Ty.av a.cR.cO.agk,sL Tm.av a.cR.dc,sL Fm.av a.cR.agk,sL sI a.eX]) aaN (λb _ _ _ _ _ E m z p=>?_);have e:=Aj e E;apply Ir e m<;>intro e m
 ·cases m;have m:=Qb z
  try dsimp only at m
  exact au
 have⟨c,e,m⟩:=fh e m;refine Il e m λe m=>?_;exact al
def Oq{n:Nat}:C3 prog 39 (tQ n) (t2 Pf.av (sL sB)) (sL Fm.av) eK.av Pf.av:=by
 refine i3 λn i=>u3 5 func39 λT H a0 a1 a2 r m e=>?_;rw[tQ] at m;simp[e];refine eI m vK λ_ m=>?_;simp[e];apply Ir e m<;>intro e m
 ·apply wg 999;exact au
 apply wg 8;simp[e];refine eI m N9 λ_ m=>?_;have⟨j,e,m⟩:=fh e m;simp[e];refine oA m i λb c m=>?_;simp[e];refine Wj m 999 999 (λd f h=>∃a,(h=H/\f.1 10=sL sB c/\bx f 6 [sI 0,sI 0,sI 0,nL,nL,nL,nL]/\bx f 11 [sI a,sI 0,sI a2.cO.agj,sL Ty.av a2.cO.agk,nL,nL,AV.slice .full [Pf.av b]])/\d a=some r) (λd _ g m=>?_) ?_
 ·simp[e];refine eO m PE λ_ m=>?_;apply Ir e m<;>intro e m
  ·exact iO
  exact iO
 rintro _ _ ⟨a,E,m⟩;have e:=Aj e E;have e:=Aj e (show AV.agg [sI a,sI 0,sI a2.cO.agj,sL Ty.av a2.cO.agk,AV.slice .jU [],AV.slice .jU [],AV.slice .jU [Pf.av b]]=Pf.av (Pf.mk a 0 a2.cO [] [] [b]) by rw[Pf.fE];rfl);have⟨e,m⟩:=Ck e m;simp[e];refine Ad (f:=sB) [(dm a 12)] c (jj.full (D:=[])) Ym e.2 ?_;have e:=Aj e (show AV.agg [sI a,sI 0,sI a2.cO.agj,sL Ty.av a2.cO.agk,AV.slice .jU [],AV.slice .jU [],AV.slice .jU [Pf.av b]]=Pf.av (Pf.mk a 0 a2.cO [] [] [b]) by rw[Pf.fE];rfl);exact au
def IW:C3 prog 17 tX (t3 Pf.av (sL sB) sI) (sL Fm.av) Sq.av Pf.av:=by
 refine v3 func17 λT H a0 a1 a2 r m e=>?_;rw[tX] at m;simp[e];refine ke m lq λ_ _ m=>?_;refine Il e m λe m=>?_;simp[e];refine ke m Oq λ_ _ m=>?_;exact au
def Gk:C2 prog 18 rW sB (sL sB) (sL sB):=by
 refine v2 func18 λT H a0 a1 r m e=>?_;rw[rW] at m;refine Il e m λe m=>?_;simp[e];refine Wr e m 999 (λa _ f h=>h=H/\f.1 0=sL sB a0/\f.1 1=sL sB a1/\f.1 12=sI (dn a0)/\f.1 13=sI a) aaN (λ_ _ _ _ E m=>?_) (λa _ _ _ _ _ _ _ E e m z p=>?_)
 ·have e:=Aj e E;dsimp only[cS]at m;exact au
 have e:=Aj e E;have⟨b,e,m⟩:=fh e m;refine Il e m λe m=>?_;exact al
def D0:C2 prog 41 lp sB (sL Tm.av) (sL Tm.av):=by
 refine v2 func41 λT H a0 a1 r m e=>?_;rw[lp] at m;refine Il e m λe m=>?_;simp[e];refine Wr e m 999 (λa _ f h=>h=H/\f.1 0=sL Tm.av a0/\f.1 1=sL Tm.av a1/\f.1 12=sI (dn a0)/\f.1 13=sI a) aaN (λ_ _ _ _ E m=>?_) (λa _ _ _ _ _ _ _ E e m z p=>?_)
 ·have e:=Aj e E;dsimp only[cS]at m;exact au
 have e:=Aj e E;have⟨b,e,m⟩:=fh e m;simp[e];refine eO m DD λ_ m=>?_;refine Im e m λe m=>?_;exact al
def zj{n:Nat}:C2 prog 25 (k9 n) sB Fm.av Fm.av:=by
 refine i2 λn c=>u2 3 func25 λT H a0 a1 r m e=>?_;rw[k9] at m;simp[e];refine Wj m 999 999 (λa f h=>∃v2,(h=H/\f.1 35=sB v2/\bx f 2 (Fm.av a0).cells/\bx f 3 (Fm.av a1).cells)/\a v2=some r) (λa _ g m=>?_) ?_
 ·apply Iq e m<;>intro e m
  ·exact iO
  simp[e];refine eI m jg λ_ m=>?_;apply Ir e m<;>intro e m
  ·exact iO
  simp[e];refine eI m D0 λ_ m=>?_;apply Ir e m<;>intro e m
  ·exact iO
  exact iO
 rintro _ _ ⟨v2,E,m⟩;have e:=Aj e E;refine Il e m λe m=>?_;simp[e];refine Wr e m 999 (λb _ f h=>h=H/\f.1 38=sI (dn a0.agk)/\f.1 39=sI b/\bx f 2 (Fm.av a0).cells/\bx f 3 (Fm.av a1).cells) aaN (λ_ _ _ _ E m=>?_) (λb _ _ _ _ _ _ _ E e m z p=>?_)
 ·have e:=Aj e E;dsimp only[cS]at m;exact au
 have e:=Aj e E;have⟨d,e,m⟩:=fh e m;simp[e];refine eO m c λ_ m=>?_;refine Im e m λe m=>?_;exact al
def Lb:C2 prog 42 q7 sB (sL Fm.av) (sL Fm.av):=by
 refine v2 func42 λT H a0 a1 r m e=>?_;rw[q7] at m;refine Il e m λe m=>?_;simp[e];refine Wr e m 999 (λa _ f h=>h=H/\f.1 0=sL Fm.av a0/\f.1 1=sL Fm.av a1/\f.1 12=sI (dn a0)/\f.1 13=sI a) aaN (λ_ _ _ _ E m=>?_) (λa _ _ _ _ _ _ _ E e m z p=>?_)
 ·have e:=Aj e E;dsimp only[cS]at m;exact au
 have e:=Aj e E;have⟨b,e,m⟩:=fh e m;simp[e];refine eO m zj λ_ m=>?_;refine Im e m λe m=>?_;exact al
def C9{n:Nat}:C2 prog 19 (mP n) sB Pf.av Pf.av:=by
 refine i2 λn c=>u2 3 func19 λT H a0 a1 r m e=>?_;rw[mP] at m;simp[e];refine Wj m 999 999 (λa f h=>∃v2,(h=H/\f.1 50=sB v2/\bx f 2 (Pf.av a0).cells/\bx f 3 (Pf.av a1).cells)/\a v2=some r) (λa _ g m=>?_) ?_
 ·apply Iq e m<;>intro e m
  ·exact iO
  apply Iq e m<;>intro e m
  ·exact iO
  simp[e];refine eI m jg λ_ m=>?_;apply Ir e m<;>intro e m
  ·exact iO
  simp[e];refine eI m D0 λ_ m=>?_;apply Ir e m<;>intro e m
  ·exact iO
  simp[e];refine eI m Lb λ_ m=>?_;apply Ir e m<;>intro e m
  ·exact iO
  exact iO
 rintro _ _ ⟨v2,E,m⟩;have e:=Aj e E;refine Il e m λe m=>?_;simp[e];refine Wr e m 999 (λb _ f h=>h=H/\f.1 53=sI (dn a0.agk)/\f.1 54=sI b/\bx f 2 (Pf.av a0).cells/\bx f 3 (Pf.av a1).cells) aaN (λ_ _ _ _ E m=>?_) (λb _ _ _ _ _ _ _ E e m z p=>?_)
 ·have e:=Aj e E;dsimp only[cS]at m;exact au
 have e:=Aj e E;have⟨d,e,m⟩:=fh e m;simp[e];refine eO m c λ_ m=>?_;refine Im e m λe m=>?_;exact al
def Pc{n:Nat}:C1 prog 46 (q8 n) Pf.av Pf.av:=by
 refine i1 λn b=>v1 func46 λT H a0 r m e=>?_;rw[q8] at m;simp[e];refine eI m vK λ_ m=>?_;refine Im e m λe m=>?_;have⟨c,e,m⟩:=fh e m;simp[e];refine eO m b λa m=>?_;have e:=Aj e (show AV.agg [sI 8,sI 0,sI a0.cO.agj,sL Ty.av a0.cO.agk,AV.slice .jU [],AV.slice .jU [],AV.slice .jU [Pf.av a]]=Pf.av (Pf.mk 8 0 a0.cO [] [] [a]) by rw[Pf.fE];rfl);exact au
def O':C1 prog 21 r9 (t2 Pf.av sI) Pf.av:=by
 refine v1 func21 λT H a0 r m e=>?_;rw[r9] at m;simp[e];refine eI m Bw λ_ m=>?_;refine Il e m λe m=>?_;simp[e];refine eI m Pc λ_ m=>?_;exact au
end Go.Proofs.YtijednbpbbddbaaGreatDoor
