/- Part of the proof of UniformExact, UniformAccepted: walks. -/
import Derived.Test.YtijednbpbbddbaaGreatDoorW2
set_option linter.all false
set_option maxRecDepth 20000
set_option maxHeartbeats 4000000
namespace Go.Proofs.YtijednbpbbddbaaGreatDoor
open Go Go.ns Go.ek Tryz
def S1{n:Nat}:C2 prog 52 (rR n) (t2 Fm.av sB) Fm.av (sL sB):=by
 refine i2 λn c=>u2 5 func52 λT H a0 a1 r m e=>?_;rw[rR] at m;simp[e];apply Iq e m<;>intro e m
 ·apply wg 999;exact au
 apply wg 3;simp[e];refine wj 999 0 (λf h=>h=H/\f.1 1=sL sB a1/\f.1 20=sB (eH (dw a0.agj 4) (dw a0.agj 6) false)/\bx f 2 (Fm.av a0).cells/\bx f 4 [sI 0,sI 0,nL,nL,nL]) (λ_ g=>?_) ?_
 ·rcases Pb (dw a0.agj 4) e with e|e
  ·exact aj
  exact aj
 rintro _ _ E;have e:=Aj e E;apply Iq e m<;>intro e m
 ·apply wg 999;exact au
 apply wg 6;have⟨j,e,m⟩:=fh e m;have⟨k,e,m⟩:=fh e m;simp[e];refine oA m c λa d m=>?_;simp[e];refine Wj m 999 999 (λb f h=>∃v9,(h=H/\f.1 7=sB d/\bx f 4 [sI 0,sI 0,nL,nL,nL]/\bx f 8 [sI v9,sI a0.cO.agj,sL Ty.av a0.cO.agk,nL,AV.slice .full [Fm.av a]])/\b v9=some r) (λb _ g m=>?_) ?_
 ·have⟨i,e,m⟩:=fh e m;apply Iq e m<;>intro e m
  ·exact iO
  exact iO
 rintro _ _ ⟨v9,E,m⟩;have e:=Aj e E;have e:=Aj e (show AV.agg [sI v9,sI a0.cO.agj,sL Ty.av a0.cO.agk,AV.slice .jU [],AV.slice .jU [Fm.av a]]=Fm.av (Fm.mk v9 a0.cO [] [a]) by rw[Fm.fE];rfl);exact au
def Lf:C2 prog 24 sQ (t2 Fm.av sI) Fm.av (sL sB):=by
 refine v2 func24 λT H a0 a1 r m e=>?_;rw[sQ] at m;simp[e];refine eI m n8 λ_ m=>?_;refine Il e m λe m=>?_;simp[e];refine ke m S1 λ_ _ m=>?_;refine Il e m λe m=>?_;exact au
def FB(T:ec)(A:rG T){a0:List Int}{a1:Pf}{a2:Sq}{a3:Fm}{a4:List Bool}{H:Bool}(hm:sn a0 a1 a2 a3 a4=some H):fl prog T 3 [sL sI a0,Pf.av a1,Sq.av a2,Fm.av a3,sL sB a4] [] (λx _=>x=sB H):=by
 rw[sn] at hm;have e:=A;refine wi ago func3 [] [] 3 ?_;simp[e];refine Wj hm 999 999 (λL f h=>∃v2,(h=([]:dd)/\f.1 0=sL sI a0/\f.1 4=sL sB a4/\f.1 77=sB v2/\bx f 6 (Pf.av a1).cells/\bx f 7 (Sq.av a2).cells/\bx f 8 (Fm.av a3).cells)/\L v2=some H) (λL _ g m=>?_) ?_
 ·simp[e];refine eO m (ym T A) λ_ m=>?_;apply Ir e m<;>intro e m
  ·exact iO
  simp[e];refine eO m RO λ_ m=>?_;apply Ir e m<;>intro e m
  ·exact iO
  simp[e];refine eO m P8 λ_ m=>?_;simp[e];refine eO m Ji λ_ m=>?_;simp[e];refine eO m HE λ_ m=>?_;simp[e];refine eO m z_ λ_ m=>?_;simp[e];refine eO m wX λ_ m=>?_;apply Ir e m<;>intro e m
  ·exact iO
  apply Iq e m<;>intro e m
  ·exact iO
  apply Iq e m<;>intro e m
  ·exact iO
  exact iO
 rintro _ _ ⟨v2,E,m⟩;have e:=Aj e E;apply Iq e m<;>intro e m
 ·simp[e];refine eI m (ym T A) λ_ m=>?_;exact au
 simp[e];refine eI m (QR T) λ_ m=>?_;simp[e];refine KE m (D5 T aaN) λd _ d17 m=>?_;simp[e];have⟨a,n,m⟩:=lK m;refine Wr e m 999 (λc _ f h=>h=fH [[]] 0 [sL sI d17.l,sI d17.rB]/\f.1 4=sL sB a4/\f.1 88=sT .full Pf.av a/\f.1 89=sI (dn a)/\f.1 90=sI c/\bx f 7 (Sq.av a2).cells/\bx f 8 (Fm.av a3).cells/\bx f 12 (Pf.av d).cells) (by(repeat' apply And.intro)<;>first|rfl|(rw[n];rfl)|simp[e,n,dn]) (λ_ _ _ _ E m=>?_) (λc B _ _ _ _ _ I E e m z p=>?_)
 ·have e:=Aj e E;dsimp only[cS]at m;simp[e];refine ke m lq λ_ _ m=>?_;simp[e];refine KE m IW λ_ s _ m=>?_;simp[e];have⟨b,o,m⟩:=lK m;refine Wr e m 999 (λi _ f h=>h=fH [[]] 0 [sL sI d17.l,sI d17.rB]/\f.1 4=sL sB a4/\f.1 31=sL sB s/\f.1 173=sT .full Fm.av b/\f.1 174=sI (dn b)/\f.1 175=sI i) (by(repeat' apply And.intro)<;>first|rfl|(rw[o];rfl)|simp[e,o,dn]) (λ_ _ _ _ E m=>?_) (λi C _ _ _ _ _ _ E e m z p=>?_)
  ·have e:=Aj e E;dsimp only[cS]at m;exact au
  have e:=Aj e E;simp[e];have⟨j,q,m⟩:=lK m;refine Wr e m 0 (λt _ f h=>h=fH [[]] 0 [sL sI d17.l,sI d17.rB]/\f.1 4=sL sB a4/\f.1 31=sL sB s/\f.1 173=sT .full Fm.av b/\f.1 174=sI (dn b)/\f.1 175=sI i/\f.1 181=sT .full (sL sB) j/\f.1 182=sI (dn j)/\f.1 183=sI t/\bx f 34 (Fm.av C).cells) (by(repeat' apply And.intro)<;>first|rfl|(rw[q];rfl)|simp[e,q,dn]) (λ_ _ _ _ E m=>?_) (λt _ _ _ _ _ _ J E e m z p=>?_)
  ·have e:=Aj e E;apply wg 999;dsimp only[cS]at m;exact al
  have e:=Aj e E;apply wg 13;simp[e];refine ke m (s9 T A) λ_ _ m=>?_;simp[e];refine ke m Lf λ_ _ m=>?_;simp[e];refine yU m 999 999 (λD f h=>∃u,(h=fH [[]] 0 [sL sI d17.l,sI d17.rB]/\f.1 4=sL sB a4/\f.1 31=sL sB s/\f.1 173=sT .full Fm.av b/\f.1 174=sI (dn b)/\f.1 175=sI i/\f.1 181=sT .full (sL sB) j/\f.1 182=sI (dn j)/\f.1 183=sI t/\f.1 207=sB u/\bx f 34 (Fm.av C).cells)/\D u=some J) ?_ (λD _ g m=>?_)
  ·rintro _ _ ⟨u,E,m⟩;have e:=Aj e E;refine Il e m λe m=>?_;exact al
  apply Iq e m<;>intro e m
  ·exact iO
  simp[e];refine eI m zj λ_ m=>?_;exact iO
 have e:=Aj e E;simp[e];refine eO m vg λ_ m=>?_;simp[e];refine eO m N_ λ_ m=>?_;refine Il e m λe m=>?_;simp[e];have⟨k,r,m⟩:=lK m;refine Wr e m 0 (λv _ f h=>h=fH [[]] 0 [sL sI d17.l,sI d17.rB]/\f.1 4=sL sB a4/\f.1 88=sT .full Pf.av a/\f.1 89=sI (dn a)/\f.1 90=sI c/\f.1 101=sT .full Sq.av k/\f.1 102=sI (dn k)/\f.1 103=sI v/\bx f 7 (Sq.av a2).cells/\bx f 8 (Fm.av a3).cells/\bx f 12 (Pf.av d).cells/\bx f 15 (Pf.av B).cells) (by(repeat' apply And.intro)<;>first|rfl|(rw[r];rfl)|simp[e,r,dn]) (λ_ _ _ _ E m=>?_) (λv _ _ _ _ _ _ K E e m z p=>?_)
 ·have e:=Aj e E;apply wg 9;dsimp only[cS]at m;simp[e];refine ke m (Af T A) λ_ _ m=>?_;simp[e];refine ke m O' λ_ _ m=>?_;simp[e];refine yU m 999 999 (λF f h=>∃w,(h=fH [[]] 0 [sL sI d17.l,sI d17.rB]/\f.1 4=sL sB a4/\f.1 88=sT .full Pf.av a/\f.1 89=sI (dn a)/\f.1 90=sI c/\f.1 155=sB w/\bx f 7 (Sq.av a2).cells/\bx f 8 (Fm.av a3).cells/\bx f 12 (Pf.av d).cells)/\F w=some I) ?_ (λF _ g m=>?_)
  ·rintro _ _ ⟨w,E,m⟩;have e:=Aj e E;refine Il e m λe m=>?_;exact al
  apply Iq e m<;>intro e m
  ·exact iO
  simp[e];refine eI m C9 λ_ m=>?_;exact iO
 have e:=Aj e E;apply wg 13;simp[e];refine KE m (wy T A) λ_ _ _ m=>?_;simp[e];refine KE m IW λ_ _ _ m=>?_;simp[e];refine yU m 999 999 (λG f h=>∃y,(h=fH [[]] 0 [sL sI d17.l,sI d17.rB]/\f.1 4=sL sB a4/\f.1 88=sT .full Pf.av a/\f.1 89=sI (dn a)/\f.1 90=sI c/\f.1 101=sT .full Sq.av k/\f.1 102=sI (dn k)/\f.1 103=sI v/\f.1 135=sB y/\bx f 7 (Sq.av a2).cells/\bx f 8 (Fm.av a3).cells/\bx f 12 (Pf.av d).cells/\bx f 15 (Pf.av B).cells)/\G y=some K) ?_ (λG _ g m=>?_)
 ·rintro _ _ ⟨y,E,m⟩;have e:=Aj e E;refine Il e m λe m=>?_;exact al
 apply Iq e m<;>intro e m
 ·exact iO
 simp[e];refine eI m Gk λ_ m=>?_;apply Ir e m<;>intro e m
 ·exact iO
 simp[e];refine eI m C9 λ_ m=>?_;exact iO
def adq{n:Int}{l:List Bool}(h:wY n=some l):uc prog 35 (sI n) (sI n)=some (.slice .full (l.map λb=>AV.sc (.bool b))):=by
 unfold wY at h;have⟨a,c⟩:=oR h;cases c;have a:=M' a
 have d:zeroOf prog 4=some (.bool false):=by kernel_rfl
 unfold uc;rw[Ym];show(match zeroOf prog 4 with|some z=>if n=n/\0<=n/\n<=1099511627776/\BD z=true/\(1:Nat)=1 then some (AV.slice .full (List.replicate n.toNat (.sc z)))else none|none=>none)=_;rw[d];show(if n=n/\0<=n/\n<=1099511627776/\BD (.bool false)=true/\(1:Nat)=1 then some (AV.slice .full (List.replicate n.toNat (.sc (.bool false))))else none)=_;rw[cK ⟨rfl,a.1,a.2,rfl,rfl⟩,List.map_replicate]
def CC(T:ec)(a:rG T){a0:List Int}{d:Bool}(hm:p6 a0=some d):fl prog T 4 [sL sI a0] [] (λx _=>x=sB d):=by
 rw[p6] at hm;have e:=a;refine wi ago func4 [] [] 3 ?_;simp[e];refine Wj hm 999 0 (λi f h=>∃v2,(h=([]:dd)/\f.1 0=sL sI a0/\f.1 29=sB v2)/\i v2=some d) (λi _ g m=>?_) ?_
 ·simp[e];refine eI m (ym T a) λ_ m=>?_;apply Ir e m<;>intro e m
  ·exact iO
  simp[e];refine eI m RO λ_ m=>?_;exact iO
 rintro _ _ ⟨v2,E,m⟩;have e:=Aj e E;apply Iq e m<;>intro e m
 ·apply wg 999;simp[e];refine eI m (ym T a) λ_ m=>?_;exact au
 apply wg 11;simp[e];refine eI m (QR T) λ_ m=>?_;simp[e];refine KE m (D5 T aaN) λ_ _ d12 m=>?_;simp[e];refine ke m lq λ_ _ m=>?_;simp[e];refine KE m (wy T a) λ_ _ _ m=>?_;simp[e];apply Iq e m<;>intro e m
 ·apply wg 999;exact au
 apply wg 14;simp[e];refine ke m lq λ_ _ m=>?_;simp[e];refine ke m (s9 T a) λ_ _ m=>?_;simp[e];refine KE m (wy T a) λ_ _ _ m=>?_;simp[e];refine ke m (Af T a) λ_ _ m=>?_;simp[e];refine ke m lq λ_ _ m=>?_;have⟨_,e,m⟩:=fh e m;have e:=Aj e (adq e.2);simp[e];refine oA m (s9 T a) λ_ _ m=>?_;simp[e];refine yU m 999 999 (λc f h=>∃b,(h=fH [[]] 0 [sL sI d12.l,sI d12.rB]/\f.1 2=sB b)/\c b=some d) ?_ (λc _ g m=>?_)
 ·rintro _ _ ⟨b,E,m⟩;have e:=Aj e E;exact au
 apply Ir e m<;>intro e m
 ·exact iO
 apply Ir e m<;>intro e m
 ·exact iO
 apply Ir e m<;>intro e m
 ·exact iO
 apply Ir e m<;>intro e m
 ·exact iO
 apply Ir e m<;>intro e m
 ·exact iO
 apply Ir e m<;>intro e m
 ·exact iO
 apply Ir e m<;>intro e m
 ·exact iO
 simp[e];refine eO m zj λ_ m=>?_;apply Ir e m<;>intro e m
 ·exact iO
 simp[e];refine eO m C9 λ_ m=>?_;apply Ir e m<;>intro e m
 ·exact iO
 simp[e];refine eO m Gk λ_ m=>?_;apply Ir e m<;>intro e m
 ·exact iO
 simp[e];refine eO m zj λ_ m=>?_;apply Ir e m<;>intro e m
 ·exact iO
 simp[e];refine eO m vg λ_ m=>?_;simp[e];refine eO m vg λ_ m=>?_;exact iO
end Go.Proofs.YtijednbpbbddbaaGreatDoor
