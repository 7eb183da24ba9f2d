/- Part of the proof of UniformExact: plain facts. -/
import Derived.Test.YtijednbpbbddbaaGreatDoorPE2
set_option linter.all false
namespace Go.ek
open Go
structure TR (d d':cY) (s:Bool) (n:Nat):Prop where
 lo:d.agl<=d'.agl
 hi:d'.agl<=d.agl+n
 eq:s=true->d'.agl=d.agl+n
 hR:d'.hR=(d.hR||!s)
def TR.trans{d c a:cY}{s e:Bool}{n n':Nat}(h:TR d c s n)(b:TR c a e n'):TR d a (s&&e) (n+n'):=by
 refine⟨by have:=h.lo;have:=b.lo;omega,by have:=h.hi;have:=b.hi;omega,λhs=>?_,?_⟩
 ·rw[ez] at hs;have:=h.eq hs.1;have:=b.eq hs.2;omega
 ·rw[b.hR,h.hR,Bool.not_and,Bool.or_assoc]
def r_{α:Type}{F:Int->α->cY->Option (eu cY (Bool×cY))}(ok small:α->Bool)(sz:α->Nat):∀(l:List α) (i:Nat) (d:cY),0<=d.agl->d.agl+cU sz l<=4000000000->(∀(j:Int) (x:α) (d:cY),x∈l->0<=d.agl->d.agl+sz x<=4000000000->if ok x then∃a,F j x d=some (.next a)/\TR d a (small x) (sz x)else∃a,F j x d=some (.ret (false,a)))->if l.all ok then∃a,dP F l i d=some (.inl a)/\TR d a (l.all small) (cU sz l)else∃a,dP F l i d=some (.inr (false,a))
 |[],i,d,_,_,_=>⟨d,rfl,⟨VW,by simp[cU],λ_=>by simp[cU],aaB⟩⟩|x::l,i,d,m,n,h=>by
  simp only[cU] at n;have b:=h i x d aaB m VW;rw[sC]
  by_cases c:ok x=true
  ·rw[cK c] at b;obtain⟨d1,e,f⟩:=b;have g:=r_ ok small sz l (i+1) d1 (by have:=f.lo;omega) (by have:=f.hi;omega) (λj y d hy=>h j y d (by simp[hy]));rw[dq,e];simp only[cv,dr,cU]
   by_cases k:l.all ok=true
   ·rw[cK k] at g;obtain⟨d2,o,p⟩:=g;rw[cK (by rw[ez];exact⟨c,k⟩)];exact⟨d2,o,f.trans p⟩
   ·grind
  ·rw[cI c] at b;obtain⟨d1,e⟩:=b;rw[cI (by rw[ez];exactλh=>c h.1),dq,e];exact⟨d1,rfl⟩
def B7{d:cY}{n e:Int}(a:-1000000000000<=d.agl+n)(b:d.agl+n<=1000000000000):fP d n e=some (dw e 2,⟨d.agl+n,d.hR||dm e 4⟩):=by
 unfold fP;rw[ds VW VW];cases d.hR<;>rfl
def Tm.yb(t:Tm):t.err=2/\t.ok=false\/t.ok=true/\J' t=true/\t.err=0\/t.ok=true/\J' t=false/\t.err=4:=by
 unfold Tm.err J';cases h:t.ok with
 |false=>grind|true=>grind
def Fm.yb(t:Fm):t.err=2/\t.ok=false\/t.ok=true/\M5 t=true/\t.err=0\/t.ok=true/\M5 t=false/\t.err=4:=by
 unfold Fm.err M5;cases h:t.ok with
 |false=>grind|true=>grind
def AB{sz:Nat}{e:Int}{ok small:Bool}(c:e=2/\ok=false\/ok=true/\small=true/\e=0\/ok=true/\small=false/\e=4)(hs:sz<=1000000000){d:cY}(f:0<=d.agl)(g:d.agl+sz<=4000000000):if ok then∃b,(cX (fP d (if e=0 then(sz:Int)else 0) e) λa d179=>if a then some (.next d179)else some ((.ret (false,d179)):eu cY (Bool×cY)))=some (.next b)/\TR d b small sz else∃b,(cX (fP d (if e=0 then(sz:Int)else 0) e) λa d179=>if a then some (.next d179)else some ((.ret (false,d179)):eu cY (Bool×cY)))=some (.ret (false,b)):=by
 rcases c with⟨rfl,rfl⟩|⟨rfl,rfl,rfl⟩|⟨rfl,rfl,rfl⟩
 ·exact⟨_,rfl⟩
 ·rw[cK rfl,cK rfl,B7 VW VW,cH,cK aaa];refine⟨_,rfl,⟨?_,?_,λ_=>rfl,?_⟩⟩
  all_goals grind[dm]
 ·rw[cK rfl,cI aaa,B7 VW VW,cH,cK aaa];refine⟨_,rfl,⟨?_,?_,λh=>by(cases h),?_⟩⟩
  all_goals grind[dm]
def AY{f:Bool}{i a b c d nf e:Int}:eH true (eH (pP i 0) true (eH (dw i 0) (eH f (eH (dw d a) true (eH (dw nf b) true (dw e c))) true) (eH (dw d a) true (eH (dw nf b) true (dw e c))))) true=true↔¬(d=a/\nf=b/\e=c/\0<=i/\(f=true\/i=0)):=by
 grind[yL,ja,dw,v7,gH]
def AW{d:Bool}{i a b c e nf f:Int}:eH true (eH (dw e a) true (eH (dw nf b) true (eH (dw f c) true (eH (pP i 0) true (eH d false (dw i 0)))))) true=true↔¬(e=a/\nf=b/\f=c/\0<=i/\(d=true\/i=0)):=by
 cases d with
 |true=>
  grind[yL,ja,gH,cV]
 |false=>grind[yL,v7,ja,gH,cV]
def Ld(ty:Bool)(s:Ty):Bool:=if ty then decide (s.err=0)else s.mg
theorem zz{k i:Int}{s:Ty}{d nf e:Nat}{f ty:Bool}{a b c:Nat}(hs:Pf.sig k=some (f,ty,a,b,c)):Pf.node k i s d nf e=true↔((d:Int)=a/\(nf:Int)=b/\(e:Int)=c/\0<=i/\(f=true\/i=0))/\Ld ty s=true:=by
 grind[Pf.node,Ld]
def TG(d:cY)(A s:Bool)(n:Nat)(o:Option (Bool×cY)):Prop:=(A=true->∃a,o=some (true,a)/\TR d a s n)/\(A=false->∃a,o=some (false,a))
theorem TG.no{d a:cY}{A s:Bool}{n:Nat}(h:A=false):TG d A s n (some (false,a)):=⟨λb=>(by rw[h] at b;cases b),λ_=>⟨a,rfl⟩⟩
def J1(n:Nat)(d:cY)(k i:Int)(s:Ty)(ts:List Tm)(g:List Fm)(l:List Pf):hP (n+1) d (.mk k i s ts g l)=(cX (oe k) λe G=>
 if(eH G (eH (pP i 0) true (eH (dw i 0) (eH e.agm (eH (dw (dn ts) e.dc) true (eH (dw (dn g) e.eo) true (dw (dn l) e.agk))) true) (eH (dw (dn ts) e.dc) true (eH (dw (dn g) e.eo) true (dw (dn l) e.agk))))) true) then(
 some (false,d))
 else(dj (λ(A:cY)=>
 fY (eg ts)<|dj (λ(H:Int) (B:Tm)=>(λ(a:cY)=>
 cX (jZ B) λh j=>
 cX (fP a h j) λm d179=>
 if m then(
 some (.next d179))
 else(some (.ret (false,d179)))):Int->Tm->(cY)->(Option (eu (cY) (Bool×cY)))) λo=>
 cG (dP o ts 0 A) (fi (λ(a:cY)=>
 fY (eg g)<|dj (λ(E:Int) (p:Fm)=>(λ(b:cY)=>
 cX (ik p) λq t=>
 cX (fP b q t) λu d322=>
 if u then(
 some (.next d322))
 else(some (.ret (false,d322)))):Int->Fm->(cY)->(Option (eu (cY) (Bool×cY)))) λv=>
 cG (dP v g 0 a) (fi (λ(b:cY)=>
 fY (eg l)<|dj (λ(F:Int) (w:Pf)=>(λ(c:cY)=>
 cX (hP n c w) λx f=>
 if x then(
 some (.next f))
 else(some (.ret (false,f)))):Int->Pf->(cY)->(Option (eu (cY) (Bool×cY)))) λy=>
 cG (dP y l 0 b) (fi (λ(c:cY)=>
 some (true,c)) (λr=>some r))) (λr=>some r))) (λr=>some r))) λz=>
 if e.typed then(
 cX (je s) λI C=>
 if(dw C 0) then(
 some (false,(cY.mk (dR .i64 d.agl 1) d.hR)))
 else(z (cY.mk (dR .i64 d.agl 1) d.hR)))
 else(cG (og s) λD=>
 if D then(
 z (cY.mk (dR .i64 d.agl 1) d.hR))
 else(some (false,(cY.mk (dR .i64 d.agl 1) d.hR)))))):=by
 rw[hP];rfl
def Nz:∀(n:Nat) (P:Pf) (d:cY),P.wt<=n->P.wt<=1000000000->0<=d.agl->d.agl+P.agl<=4000000000->TG d P.ok P.small P.agl (hP n d P):=by
 intro n
 induction n with
 |zero=>intro P d h;have:=P.fO;omega
 |succ n ih=>
  intro P d hn hb h0 hd;cases P with
  |mk k i s ts p l=>
   rw[Pf.dC] at hn hb;rw[Pf.cJ] at hd|-;have aa:=eG Tm.wt ts λt _=>t.fO;have ab:=eG Fm.wt p λt _=>t.fO;have ad:=eG Pf.wt l λt _=>t.fO;have m1:=gP (l:=ts) (λx _=>Tm.fp x);have m2:=gP (l:=p) (λx _=>Fm.fp x);have m3:=gP (l:=l) (λx _=>Pf.fp x);rw[Pf.eD,Pf.rH,J1];rcases JZ k with⟨I,r,K⟩|⟨ix,ty,a,b,c,r,I,K,g1,g2,g3,g4,g5⟩
   ·rw[K,cH,v7,cK rfl];exact TG.no (by simp[Pf.node,I])
   ·rw[K,cH,g1,g2,g3,g4,g5,dz,dz,dz]
    by_cases J:(ts.length:Int)=a/\(p.length:Int)=b/\(l.length:Int)=c/\0<=i/\(ix=true\/i=0)
    ·rw[cI (λh=>AY.1 h J)]
     have q:Pf.node k i s ts.length p.length l.length=Ld ty s:=by
      rw[xi,zz I];exact⟨λh=>h.2,λh=>⟨J,h⟩⟩
     rw[q];cases f:Ld ty s with
     |false=>
      have e:∀j:cY->Option (Bool×cY),(if ty then cX (je s) λae L=>if(dw L 0) then some (false,(cY.mk (dR .i64 d.agl 1) d.hR))else j (cY.mk (dR .i64 d.agl 1) d.hR)else cG (og s) λM=>if M then j (cY.mk (dR .i64 d.agl 1) d.hR)else some (false,(cY.mk (dR .i64 d.agl 1) d.hR)))=some (false,(cY.mk (dR .i64 d.agl 1) d.hR)):=by grind[Ld,dw,cV,im,cH,m4,cv]
      refine lx (λ_=>False) (λ_ h=>h.elim) (λj _=>?_);rw[e j];exact TG.no aaB
     |true=>
      refine lx (λd1=>d1.agl=d.agl+1/\d1.hR=d.hR) (λd1 g=>?_) (λj hj=>?_)
      ·have t1:=r_ (F:=λ(af:Int) (N:Tm)=>(λ(u:cY)=>cX (jZ N) λv w=>cX (fP u v w) λy d179=>if y then some (.next d179)else some (.ret (false,d179)))) Tm.ok J' Tm.agl ts 0 d1 VW VW (λj x d m q0 q1=>by
        have:=c6 Tm.wt m;have:=x.fp;rw[mI VW,cH]
        exact AB x.yb VW q0 q1)
       rw[cT VW,cL,cN];cases a1:ts.all Tm.ok with
       |false=>
        rw[a1,cI aaa] at t1;obtain⟨d2,O⟩:=t1;rw[O,cv,mV];exact TG.no aaB
       |true=>
        rw[a1,cK rfl] at t1;obtain⟨d2,O,Q⟩:=t1;have u1:=Q.lo;have u2:=Q.hi;rw[O,cv,cS,cT VW,cL,cN]
        have t2:=r_ (F:=λ(W:Int) (z:Fm)=>(λ(A:cY)=>cX (ik z) λB C=>cX (fP A B C) λD d322=>if D then some (.next d322)else some (.ret (false,d322)))) Fm.ok M5 Fm.agl p 0 d2 VW VW (λj x d m q0 q1=>by
         have:=c6 Fm.wt m;have:=x.fp;rw[k7 VW,cH]
         exact AB x.yb VW q0 q1)
        cases a2:p.all Fm.ok with
        |false=>
         rw[a2,cI aaa] at t2;obtain⟨d3,R⟩:=t2;rw[R,cv,mV];exact TG.no aaB
        |true=>
         rw[a2,cK rfl] at t2;obtain⟨d3,R,S⟩:=t2;have u3:=S.lo;have u4:=S.hi;rw[R,cv,cS,cT VW,cL,cN]
         have t3:=r_ (F:=λ(X:Int) (E:Pf)=>(λ(G:cY)=>cX (hP n G E) λH o=>if H then some (.next o)else some (.ret (false,o)))) Pf.ok Pf.small Pf.agl l 0 d3 VW VW (λj x d m q0 q1=>by
          have:=c6 Pf.wt m;have:=c6 Pf.agl m;have:=x.fp;have m:=ih x d VW VW q0 VW;cases Y:x.ok with
          |true=>
           obtain⟨T,U,w2⟩:=m.1 Y;rw[cK rfl,U,cH,cK rfl];exact⟨T,rfl,w2⟩
          |false=>
           obtain⟨T,U⟩:=m.2 Y;rw[cI aaa,U,cH,cI aaa]
           exact⟨T,rfl⟩)
         cases a3:l.all Pf.ok with
         |false=>
          rw[a3,cI aaa] at t3;obtain⟨d4,V⟩:=t3;rw[V,cv,mV];exact TG.no aaB
         |true=>
          rw[a3,cK rfl] at t3;obtain⟨d4,V,r4⟩:=t3;rw[V,cv,cS];refine⟨λ_=>⟨d4,rfl,?_⟩,λh=>by simp at h⟩;have r0:TR d d1 true 1:=⟨VW,VW,λ_=>by omega,by simp[g.2]⟩;have:=((r0.trans Q).trans S).trans r4;rw[uQ] at this;exact this
      ·have g:=hj (cY.mk (dR .i64 d.agl 1) d.hR) ⟨by show dR .i64 d.agl 1=_;rw[ds VW VW],rfl⟩;unfold Ld at f
       by_cases Z:ty=true
       ·rw[cK Z] at f|-
        have hz:¬dw s.err 0=true:=by rw[cV];simpa using f
        rw[im VW,cH,cI hz];exact g
       ·rw[cI Z] at f|-;rw[m4,cv,f,cK rfl];exact g
    ·rw[cK (AY.2 J)];refine TG.no ?_
     have:Pf.node k i s ts.length p.length l.length=false:=by
      rw[H5]
      exactλh=>J ((zz I).1 h).1
     rw[this];simp
def rQ{P:Pf}(h:P.wt<=1000000000):r6 P=some P.err:=by
 have hn:=P.fp;have b:=Nz FU P (cY.mk 0 false) (by rw[dp];omega) h (by show(0:Int)<=0;omega) (by show(0:Int)+_<=_;omega);unfold r6 sH Pf.err;cases c:P.ok with
 |false=>
  obtain⟨a,e⟩:=b.2 c
  grind[cH]
 |true=>
  obtain⟨a,e,r⟩:=b.1 c;rw[e,cH,cK rfl,cK rfl];have d:a.hR=!P.small:=r.hR;rw[d,ja];cases hs:P.small with
  |false=>grind[cH]|true=>
   have f:a.agl=(0:Int)+P.agl:=r.eq hs
   grind[ei,cH]
def Je(n:Nat)(k i:Int)(s:Ty)(ts:List Tm)(h:List Fm)(l:List Pf):nj (n+1) (.mk k i s ts h l)=(cX (oq k) λb w=>
 if(eH w (eH (dw (dn ts) b.dc) true (eH (dw (dn h) b.eo) true (eH (dw (dn l) b.agk) true (eH (pP i 0) true (eH b.agm false (dw i 0)))))) true) then(
 some false)
 else(dj (λ(j:Bool)=>
 if j then(
 some false)
 else(fY (eg ts)<|dj (λ(x:Int) (m:Tm)=>(λ(_:Unit)=>
 cG (kh FU m) λo=>
 if o then(
 some (.next ()))
 else(some (.ret false))):Int->Tm->(Unit)->(Option (eu (Unit) (Bool)))) λp=>
 cG (dP p ts 0 ()) (fi (λ(_:Unit)=>
 fY (eg h)<|dj (λ(y:Int) (q:Fm)=>(λ(_:Unit)=>
 cG (mo FU q) λc=>
 if c then(
 some (.next ()))
 else(some (.ret false))):Int->Fm->(Unit)->(Option (eu (Unit) (Bool)))) λd=>
 cG (dP d h 0 ()) (fi (λ(_:Unit)=>
 fY (eg l)<|dj (λ(v:Int) (e:Pf)=>(λ(_:Unit)=>
 cG (nj n e) λf=>
 if f then(
 some (.next ()))
 else(some (.ret false))):Int->Pf->(Unit)->(Option (eu (Unit) (Bool)))) λg=>
 cG (dP g l 0 ()) (fi (λ(_:Unit)=>
 some true) (λr=>some r))) (λr=>some r))) (λr=>some r)))) λa=>
 if b.rf then(
 cG (iA s) λt=>
 if(dw t 0) then(
 a true)
 else(a false))
 else(cG (qN s) λu=>
 a (m9 u)))):=by
 rw[nj];rfl
def AZ:∀(n:Nat) (P:Pf),P.wt<=n->P.wt<=1000000000->nj n P=some P.ok:=by
 intro n
 induction n with
 |zero=>intro P h;have:=P.fO;omega
 |succ n w=>
  intro P hn y;cases P with
  |mk k i s ts f l=>
   rw[Pf.dC] at hn y;have z:=eG Tm.wt ts λt _=>t.fO;have A:=eG Fm.wt f λt _=>t.fO;have B:=eG Pf.wt l λt _=>t.fO;rw[Pf.eD,Je];rcases HL k with⟨p,r,q⟩|⟨C,ty,a,b,c,r,p,q,g1,g2,g3,g4,g5⟩
   ·rw[q,cH,v7,cK rfl];simp[Pf.node,p]
   ·rw[q,cH,g1,g2,g3,g4,g5,dz,dz,dz]
    by_cases u:(ts.length:Int)=a/\(f.length:Int)=b/\(l.length:Int)=c/\0<=i/\(C=true\/i=0)
    ·rw[cI (λh=>AW.1 h u)]
     have e:Pf.node k i s ts.length f.length l.length=Ld ty s:=by
      rw[xi,zz p];exact⟨λh=>h.2,λh=>⟨u,h⟩⟩
     rw[e];refine lx (G:=λo=>o=some (Ld ty s&&ts.all Tm.ok&&f.all Fm.ok&&l.all Pf.ok)) (λv=>v=!Ld ty s) (λv D=>?_) (λj E=>?_)
     ·rw[D];cases Ld ty s with
      |false=>rfl|true=>
       rw[cI aaa,cT VW,cL,cN,l5 Tm.ok false ts 0 (λj x m=>by
        have:=c6 Tm.wt m
        rw[sl VW,cv]),uQ]
       cases ts.all Tm.ok with
       |false=>rfl|true=>
        rw[cK rfl,cv,cS,cT VW,cL,cN,l5 Fm.ok false f 0 (λj x m=>by
         have:=c6 Fm.wt m
         rw[tO FU x (by rw[dp];omega) VW,cv]),uQ]
        cases f.all Fm.ok with
        |false=>rfl|true=>
         rw[cK rfl,cv,cS,cT VW,cL,cN,l5 Pf.ok false l 0 (λj x m=>by
          have:=c6 Pf.wt m
          rw[w x VW VW,cv]),uQ]
         cases l.all Pf.ok with
         |false=>rfl|true=>rfl
     ·have d:=E (!Ld ty s) rfl;unfold Ld at d|-
      by_cases g:ty=true
      ·rw[cK g] at d;rw[cK g,cK g,jd VW,cv]
       grind[dw,cV]
      ·rw[cI g] at d;rw[cI g,cI g,qX,cv,Pu];exact d
    ·rw[cK (AW.2 u)]
     grind[Pf.node,zz]
def tW:∀(n:Nat) (P:Pf),P.wt<=n->P.wt<=1000000000->rY n P=some P.small:=by
 intro n
 induction n with
 |zero=>intro P h;have:=P.fO;omega
 |succ n c=>
  intro P hn d;cases P with
  |mk k i s ts b l=>
   rw[Pf.dC] at hn d;have e:=eG Tm.wt ts λt _=>t.fO;have f:=eG Fm.wt b λt _=>t.fO;have g:=eG Pf.wt l λt _=>t.fO;rw[Pf.rH,rY];simp only[Pf.eN,Pf.yJ,Pf.cZ,cN]
   rw[cT VW,cL,l5 J' false ts 0 (λj x a=>by
    have:=c6 Tm.wt a;have:=x.fp;rw[j_ FU x (by rw[dp];omega) VW,cv]
    by_cases hs:x.agl<=4096
    ·grind[ei,J']
    ·rw[cK (by rw[ei];omega),cI (by simpa[J'] using hs)])]
   cases ts.all J' with
   |false=>rfl|true=>
    rw[cK rfl,cv,cS,cT VW,cL,l5 M5 false b 0 (λj x a=>by
     have:=c6 Fm.wt a;have:=x.fp;rw[mW FU x (by rw[dp];omega) VW,cv]
     by_cases hs:x.agl<=4096
     ·rw[cI (by rw[ei];omega),cK (show M5 x=true from qk hs)]
     ·rw[cK (by rw[ei];omega),cI (by simpa[M5] using hs)]),uQ]
    cases b.all M5 with
    |false=>rfl|true=>
     rw[cK rfl,cv,cS,cT VW,cL,l5 Pf.small false l 0 (λj x a=>by
      have:=c6 Pf.wt a
      rw[c x VW VW,cv]),uQ]
     cases l.all Pf.small with
     |false=>rfl|true=>rfl
theorem th:∀(n:Nat) (P:Pf),P.wt<=n->P.wt<=1000000000->rV n P=some (P.agl:Int):=by
 intro n
 induction n with
 |zero=>intro P h;have:=P.fO;omega
 |succ n c=>
  intro P hn d;cases P with
  |mk k i s ts b l=>
   rw[Pf.dC] at hn d;have e:=eG Tm.wt ts λt _=>t.fO;have f:=eG Fm.wt b λt _=>t.fO;have g:=eG Pf.wt l λt _=>t.fO;have m:=gP (l:=ts) (λx _=>Tm.fp x);have o:=gP (l:=b) (λx _=>Fm.fp x);have p:=gP (l:=l) (λx _=>Pf.fp x);rw[Pf.cJ,rV];simp only[Pf.eN,Pf.yJ,Pf.cZ,cN]
   rw[cT VW,cL,show(1:Int)=((1:Nat):Int)from rfl,ll Tm.agl ts 0 1 VW (λj x v a=>by
    have:=c6 Tm.wt a;have:=x.fp
    rw[j_ FU x (by rw[dp];omega) VW,cv]),cv,cS,cT VW,cL,ll Fm.agl b 0 _ VW (λj x v a=>by
    have:=c6 Fm.wt a;have:=x.fp
    rw[mW FU x (by rw[dp];omega) VW,cv]),cv,cS,cT VW,cL,ll Pf.agl l 0 _ VW (λj x v a=>by
    have:=c6 Pf.wt a
    rw[c x VW VW,cv]),cv,cS]
def oz{P:Pf}(h:P.wt<=1000000000):qw P=some P.err:=by
 unfold qw tm Pf.err;rw[AZ FU P (by rw[dp];omega) h,cv];cases P.ok with
 |false=>rfl|true=>
  rw[cK rfl,cK rfl,cN,tW FU P (by rw[dp];omega) h,cv];cases P.small with
  |false=>rfl|true=>grind[th,FU,dp,cv,r']
def Pf.My{P:Pf}(h:P.err=0):tf P/\P.agl<=16384:=by
 unfold Pf.err at h;cases b:P.ok with
 |false=>grind|true=>
  by_cases a:P.small=true/\P.agl<=16384
  ·exact⟨P.w b a.1,a.2⟩
  ·grind
def MW{k q m:Nat}(hm:m=2^(k+1)*q+2^k)(j:Nat):(m&&&(m-1)).testBit j=(m.testBit j&&!decide (j=k)):=by
 have c:2^k<2^(k+1):=Rz aaa VW;have d:0<2^k:=Nat.two_pow_pos k
 have e:m-1=2^(k+1)*q+(2^k-1):=VW
 rw[Nat.testBit_and,e,hm,Vt _ c,Vt _ VW]
 by_cases a:j<k+1
 ·rw[cK a,cK a,QZ,aeZ]
  by_cases b:j=k
  ·simp[b]
  ·rw[zu (show¬k=j by omega)];simp
 ·rw[cI a,cI a,zu (show¬j=k by omega)];simp
def QL{a:Int}{l:List Int}{m:Nat}(h:Us (a::l) m):m≠0/\((Lib.ctz 32 m:Nat):Int)=a/\Us l (m&&&(m-1)):=by
 have s:=h.pos a aaB;obtain⟨k,rfl⟩:∃k:Nat,a=k:=⟨a.toNat,VW⟩;have d:m.testBit k=true:=(h.mem k).1 aaB
 have f:m≠0:=by rintro rfl;simp at d
 cases h.X7 with
 |cons s1 s2=>
  have g:∀i,i<k->m.testBit i=false:=λi hi=>by
   rw[H5];intro t;rcases iL.1 ((h.mem i).2 t)with e|e
   ·omega
   ·have:=s1 _ e;omega
  have n:Lib.ctz 32 m=Lib.ctzFrom 32 m:=by unfold Lib.ctz;rw[cI f]
  obtain⟨q,p,_⟩:=Lib.ctzFrom_spec 32 m VW (by have:=h.lt;omega);rw[<-n] at p
  have c:m=2^(Lib.ctz 32 m+1)*q+2^Lib.ctz 32 m:=by
   rw[Y3,Nat.mul_assoc,<-Nat.mul_succ];exact p
  have r:Lib.ctz 32 m=k:=by
   have b:∀j,j<=Lib.ctz 32 m->m.testBit j=decide (Lib.ctz 32 m=j):=λj y=>by
    have u:2^Lib.ctz 32 m<2^(Lib.ctz 32 m+1):=Rz aaa VW
    conv=>lhs;rw[c]
    rw[Vt _ u,cK VW,QZ]
   rcases abc (Lib.ctz 32 m) k with o|heq|hgt
   ·have:=b _ (ig _);rw[g _ o] at this;simp at this
   ·exact heq
   ·have:=b k VW;rw[d,zu VW] at this;cases this
  rw[r] at c;refine⟨f,by rw[r],⟨YU Nat.and_le_left h.lt,λx v=>h.pos x (by simp[v]),s2,λi=>?_⟩⟩;rw[MW c,ez,<-h.mem i];simp only[UK,UU];constructor
  ·intro hi;refine⟨by simp[hi],?_⟩;rintro rfl;have:=s1 _ hi;omega
  ·rintro⟨hi,w⟩;rcases iL.1 hi with e|e
   ·omega
   ·exact e
def Us.zero{m:Nat}(h:Us [] m):m=0:=by
 refine YF λi=>?_;rw[Nat.zero_testBit,H5];intro a;have:=(h.mem i).2 a;simp at this
def yF:∀(l:List Int) (m:Nat) (v:List Int) (n:Nat),Us l m->l.length<n->v.length+l.length<=1000000->jb (nk λ(v37:Int) (b:List Int)=>
   if(dw v37 0) then(
   cG (gY v37) λc=>
   fY (eM b [c])<|some ((.next ((pS .u32 v37 (ea .u32 v37 1)),(eV b [c]))):eu (Int×List Int) (List Int)))
   else(some (.vN (v37,b)))) n ((m:Int),v)=some (.inl (0,v++l))
 |l,m,v,0,_,hn,_=>by omega|[],m,v,n+1,h,_,_=>by
  rw[h.zero,jb];simp only[nk];rw[cI (show¬dw ((0:Nat):Int) 0=true by decide)];simp
 |a::l,m,v,n+1,h,hn,e=>by
  simp only[hW] at hn e;obtain⟨i,f,hu⟩:=QL h;have d:=h.lt
  have g:dw (m:Int) 0=true:=by rw[cV];omega
  rw[jb];simp only[nk];rw[cK g];rw[show gY (m:Int)=some a by unfold gY;rw[cK VW,yz,f],cv,dt aaP,cL,cv,dr,eb];rw[show ea .u32 (m:Int) 1=((m-1:Nat):Int) by unfold ea;rw[zg VW VW];omega,E6 d VW];rw[yF l _ (v++[a]) n hu VW aaP];simp
def Kd{l:List Int}{m:Nat}(h:Us l m):j6 (m:Int)=some l:=by
 have a:=h.len;unfold j6;rw[cN,yF l m [] FU h (by rw[dp];omega) aaP,cv];simp[nk]
def EN:∀(n:Nat) (t:Tm),t.agl<=n->t.agl<=50000000->t.ok=true->yx n t=some t:=by
 intro n
 induction n with
 |zero=>intro t h;have:=t.db;omega
 |succ n c=>
  intro t hn d a;cases t with
  |mk k i s l=>
   rw[Tm.cJ] at hn d;have g:=Tm.dK l;have hi:=Tm.ib a;rw[Tm.eD,ez] at a;have e:=Ty.qY a.1;rw[yx];simp only[Tm.da,Tm.dW,Tm.dv,Tm.cZ,cN]
   rw[kF VW,cv,cT VW,cL,fy id l 0 [] aaP (λj x v b f=>by
    have:=c6 Tm.agl b
    rw[c x VW VW (hi.2.2.2.1 x b),cv,dt (by simpa using f),cL,eb];rfl)]
   simp
def Fm.TD:∀(f:Fm) (b:Int),f.zG (λt _=>t) b=f:=by
 intro f
 induction f using Fm.ind with
 |h k s ts l a=>
  intro b;rw[Fm.tr,tg (g:=id) (λx c=>a x c _)];simp
def vm{f:Fm}(h:f.err=0)(c:f.agp 1000000000000=true):oJ f=some f:=by
 obtain⟨d,hn⟩:=Fm.eJ h;unfold oJ;rw[kq (h:=λe g=>mB e g) (ψ:=λt _=>t) (λt b a _ _=>?_) FU f 0 (by rw[dp];omega) VW d c VW VW]
 ·rw[cH,Fm.TD]
 ·have:=a.agl;unfold mB;rw[EN FU t (by rw[dp];omega) a.agl a.ok];rfl
noncomputable def Bv (L:List Fm) (q:Sq):Int:=if 32<L.length then 3 else if eC (L.map λf=>A5 f [])≠0 then eC (L.map λf=>A5 f [])else if rb q.agn≠0 then rb q.agn else if 16<q.agq.length then 3 else eC (q.agq.map λf=>A5 f q.agn)
structure XQ (L:List Fm) (q:Sq):Prop where
 F8:∀f∈L,f.wt<=1000000000
 OU:∀t∈q.agn,t.agl<=1000000000
 YW:q.agn.length<=1000000
 agq:∀f∈q.agq,f.wt<=1000000000
def sd{e:Int}:(cG (some e) λa=>if(dw a 0) then some (.ret a)else some ((.next ()):eu Unit Int))=if e≠0 then some (.ret e)else some (.next ()):=by
 rw[cv]
 by_cases h:e=0
 ·subst h;rfl
 ·rw[cK (by rw[cV];exact h),cK h]
def IA{C:List Ty->Option Int}{T:List Ty->Fm->Option Int}{L:List Fm}{q:Sq}(o:C q.agn=some (rb q.agn))(p:∀f∈L,T [] f=some (A5 f []))(s:∀f∈q.agq,T q.agn f=some (A5 f q.agn)):(if(nW (dn L) 32) then some 3 else fY (eg L)<|dj (λ(t:Int) (e:Fm)=>(λ(_:Unit)=>cG (T [] e) λa=>if(dw a 0) then some (.ret a)else some ((.next ()):eu Unit Int))) λg=>
   cG (dP g L 0 ()) (fi (λ(_:Unit)=>cG (C q.agn) λb=>if(dw b 0) then some b else if(nW (dn q.agq) 16) then some 3 else fY (eg q.agq)<|dj (λ(u:Int) (i:Fm)=>(λ(_:Unit)=>cG (T q.agn i) λc=>if(dw c 0) then some (.ret c)else some ((.next ()):eu Unit Int))) λk=>
    cG (dP k q.agq 0 ()) (fi (λ(_:Unit)=>some 0) (λr=>some r))) (λr=>some r)))=some (Bv L q):=by
 unfold Bv;rw[dz]
 by_cases m:32<L.length
 ·rw[cK (by rw[ei];omega),cK m]
 ·have v:¬nW (L.length:Int) 32=true:=by rw[ei];omega
  rw[cI v,cI m,cT VW,cL,cN];rw[hQ (λf=>A5 f []) L 0 (λj x l=>by rw[p x l];exact sd)]
  by_cases d:eC (L.map λf=>A5 f [])=0
  ·rw[cK d,cI (show¬(eC (L.map λf=>A5 f [])≠0)fromλh=>h d),cv,cS,o,cv]
   by_cases c3:rb q.agn=0
   ·have z2:¬dw (rb q.agn) 0=true:=by rw[cV];simpa using c3
    rw[cI z2,cI (show¬(rb q.agn≠0)fromλh=>h c3),dz]
    by_cases n:16<q.agq.length
    ·rw[cK (by rw[ei];omega),cK n]
    ·have z3:¬nW (q.agq.length:Int) 16=true:=by rw[ei];omega
     rw[cI z3,cI n,cT VW,cL,cN];rw[hQ (λf=>A5 f q.agn) q.agq 0 (λj x l=>by rw[s x l];exact sd)]
     by_cases c5:eC (q.agq.map λf=>A5 f q.agn)=0
     ·rw[cK c5,c5];rfl
     ·rw[cI c5];rfl
   ·have z2:dw (rb q.agn) 0=true:=by rw[cV];exact c3
    rw[cK z2,cK c3]
  ·rw[cI d,cK d];rfl
def wT{L:List Fm}{q:Sq}(h:XQ L q):tR L q=some (Bv L q)/\uV L q=some (Bv L q):=by
 have a:∀t∈([]:List Ty),t.agl<=1000000000:=λt c=>by simp at c
 exact⟨IA (C:=mx) (T:=my) (rv q.agn h.YW h.OU) (λx b=>rD (h.F8 x b) aaB a) (λx b=>rD (h.agq x b) h.YW h.OU),IA (C:=lW) (T:=jh) (nK q.agn h.YW h.OU) (λx b=>pF (h.F8 x b) aaB a) (λx b=>pF (h.agq x b) h.YW h.OU)⟩
def ui:∀{l:List Int},(∀e∈l,e=0)->eC l=0
 |[],_=>rfl|a::l,h=>by
  rw[eC,cK (h a aaB)];exact ui λe he=>h e (by simp[he])
def ub:∀{l:List Int},eC l=0->∀e∈l,e=0
 |[],_,e,he=>by simp at he
 |a::l,h,e,he=>by
  rw[eC] at h
  by_cases b:a=0
  ·rw[cK b] at h;rcases iL.1 he with rfl|he
   ·exact b
   ·exact ub h e he
  ·rw[cI b] at h;exact absurd h b
def M9{f:Fm}{g:List Ty}(h:A5 f g=0):Hg g f:=by
 unfold A5 at h
 by_cases b:rb g=0
 ·rw[cI (λh=>h b)] at h
  by_cases a:f.err=0
  ·rw[cI (λh=>h a)] at h;exact⟨a,nS f (Fm.eJ a).1 g (gA.of b).1 h⟩
  ·rw[cK a] at h;exact absurd h a
 ·rw[cK b] at h;exact absurd h b
structure v_ (L:List Fm) (q:Sq):Prop where
 ln:L.length<=32
 F8:∀f∈L,Hg [] f
 ctx:gA q.agn
 nv:q.agn.length<=16
 nh:q.agq.length<=16
 agq:∀f∈q.agq,Hg q.agn f
def J9{L:List Fm}{q:Sq}(h:Bv L q=0):v_ L q:=by
 unfold Bv at h
 by_cases d:32<L.length
 ·rw[cK d] at h;cases h
 ·rw[cI d] at h
  by_cases a:eC (L.map λf=>A5 f [])=0
  ·rw[cI (λh=>h a)] at h
   by_cases b:rb q.agn=0
   ·rw[cI (λh=>h b)] at h
    by_cases e:16<q.agq.length
    ·rw[cK e] at h;cases h
    ·rw[cI e] at h;obtain⟨g,i⟩:=gA.of b;exact⟨VW,λf c=>M9 (ub a _ (nU.2 ⟨f,c,rfl⟩)),g,i,VW,λf c=>M9 (ub h _ (nU.2 ⟨f,c,rfl⟩))⟩
   ·rw[cK b] at h;exact absurd h b
  ·rw[cK a] at h;exact absurd h a
def v_.zero{L:List Fm}{q:Sq}(h:v_ L q):Bv L q=0:=by
 have c:∀{g:List Ty} {f:Fm},gA g->g.length<=16->Hg g f->A5 f g=0:=λhg b a=>by
  unfold A5;rw[zF hg b,cI aaa,cI (λh=>h a.err)];exact DJ a.ty hg (by have:=a.agl;omega)
 have d:eC (L.map λf=>A5 f [])=0:=ui λe he=>by
  obtain⟨f,a,rfl⟩:=nU.1 he;exact c (λ_ h=>by simp at h) aaB (h.F8 f a)
 have i:eC (q.agq.map λf=>A5 f q.agn)=0:=ui λe he=>by
  obtain⟨f,a,rfl⟩:=nU.1 he;exact c h.ctx h.nv (h.agq f a)
 unfold Bv;have:=h.ln;have:=h.nh;rw[cI VW,d,cI aaa,zF h.ctx h.nv,cI aaa,cI VW,i]
def AT{T:List cP}{N:Nat}(g:N<=1000000):∀(l:List Fm) (j:Nat) (k:List c_),k.length+l.length<=1000000->dP (λ(i:Int) (b:Fm)=>(Yw λ(c:Int) (v46:Int) (d:List cP) (e:List c_)=>
   cG (ep (cQ.mk (ef.mk c v46) d e) b) λa=>
   some ((.next (a.eB.vars,a.eB.agq,a.agn,a.known)):eu (Int×Int×(List cP)×(List c_)) (cQ)))) l j ((N:Int),(k.length:Int),T,k)=some (.inl ((N:Int),((k.length+l.length:Nat):Int),T,k++l.map λf=>c_.mk f N))
 |[],j,k,_=>by simp|f::l,j,k,h=>by
  simp only[hW] at h;rw[dq];simp only[Yw];unfold ep;rw[dt aaP,cL,cv];simp only[cv,dr,eb];rw[ds VW VW];have:=AT (T:=T) g l (j+1) (k++[c_.mk f N]) aaP;rw[show(k.length:Int)+1=((k++[c_.mk f N]).length:Int) by simp];unfold ep at this;simp only[eb] at this;rw[this];simp;omega
def start_eq{L:List Fm}{q:Sq}(h:v_ L q):∃p,se q=some p/\PG L p (cW.mk L q.agn q.agq):=by
 have d:=h.nh;have a:=h.nv;refine⟨cQ.mk (ef.mk (q.agn.length:Int) (q.agq.length:Int)) (q.agn.map nI) (q.agq.map λf=>c_.mk f q.agn.length),?_,⟨⟨rfl,rfl,rfl,h.ctx,a,d,aaB,?_⟩,rfl,h.F8,h.agq⟩⟩
 ·unfold se;rw[pK h.ctx VW,cv,cT VW,cL,cN,dz];have:=AT (T:=q.agn.map nI) (N:=q.agn.length) VW q.agq 0 [] aaP;rw[show(([]:List c_).length:Int)=0 from rfl] at this;rw[this,cv];simp[Yw]
 ·intro i x g b c;have b:(q.agq.map λf=>c_.mk f q.agn.length)[i]?=some x:=b;have c:q.agq[i]?=some g:=c;rw[xr,c] at b;obtain rfl:=gB b;have hg:=h.agq g (D8 c);refine⟨hg.hy a,by show(0:Int)<=(q.agn.length:Int);omega,by show((q.agn.length:Nat):Int)<=(q.agn.length:Int);omega,?_⟩;show g=g.up 0 ((q.agn.length:Int)-(q.agn.length:Int));rw[X9,Fm.sj]
def Pf.IL:∀(l:List Pf),(∀x∈l,x.ta<=x.agl)->Pf.qe l<=cU Pf.agl l
 |[],_=>by simp[Pf.qe]|a::l,b=>by
  have d:=b a aaB;have e:=Pf.IL l (λx c=>b x (by simp[c]));simp only[Pf.qe,cU];omega
def Pf.JV(p:Pf):p.ta<=p.agl:=by
 induction p using Pf.ind with
 |h k i s ts b l a=>
  rw[Pf.cJ,Pf.ta];have:=Pf.IL l a;omega
noncomputable def MJ (L:List Fm) (q:Sq) (P:Pf):PR:=iN (Bv L q) (iN P.err (P.inf L q.agn q.agq))
def nB{L:List Fm}{q:Sq}{P:Pf}(h:XQ L q)(j:P.wt<=1000000000):(∃e,e≠0/\MJ L q P=.inr e/\jS L q P=some (⟨eL,[]⟩,e)/\gl L q P=some (⟨eL,[]⟩,e))\/∃(f:Fm) (m:Nat) (l:List Int),MJ L q P=.inl (f,m)/\jS L q P=some (⟨f,l⟩,0)/\gl L q P=some (⟨f,l⟩,0)/\Us l m/\Hg q.agn f/\v_ L q/\P.err=0:=by
 unfold jS gl MJ;rw[(wT h).1,(wT h).2,cv,cv]
 by_cases b:Bv L q=0
 ·have d:=J9 b;rw[b,cI nz,cI nz,fR rfl,rQ j,oz j,cv,cv]
  by_cases c:P.err=0
  ·obtain⟨hw,hn⟩:=Pf.My c;obtain⟨p,k,n⟩:=start_eq d;have o:=P.JV;rw[c,cI nz,cI nz,fR rfl,show zy=some ()from rfl,cv,k,cv];rcases Nu hw FU FU (by rw[dp];omega) (by rw[dp];omega) p _ n with⟨e,he,q1,g,i⟩|⟨f,m,l,q1,g,i,hu,a⟩
   ·rw[g,i,cH,cH,cK (by rw[cV];exact he),cK (by rw[cV];exact he)];exact .inl ⟨e,he,q1,rfl,rfl⟩
   ·have a:Hg q.agn f:=a;have r:=hu.len;have s:=f.gm a.ok;have t:=a.agl;rw[g,i,cH,cH,cI nz,cI nz];simp only[];rw[vm a.err (a.agp d.nv VW),cv,Kd hu,cv,hI VW,cv,dt aaP,cL,eb,kW];exact .inr ⟨f,m,l,q1,rfl,rfl,hu,a,d,by trivial⟩
  ·rw[cK (by rw[cV];exact c),cK (by rw[cV];exact c),gG c];exact .inl ⟨_,c,rfl,rfl,rfl⟩
 ·rw[cK (by rw[cV];exact b),cK (by rw[cV];exact b),gG b];exact .inl ⟨_,b,rfl,rfl,rfl⟩
def Pf.jc(l:List Pf):l.length<=cU Pf.wt l:=eG Pf.wt l λt _=>t.fO
def uY:∀(n:Nat) (P:Pf),P.wt<=n->P.wt<=1000000000->sa n P=some P:=by
 intro n
 induction n with
 |zero=>intro P h;have:=P.fO;omega
 |succ n d=>
  intro P hn e;cases P with
  |mk k i s ts c l=>
   rw[Pf.dC] at hn e;have f:=eG Tm.wt ts λt _=>t.fO;have g:=eG Fm.wt c λt _=>t.fO;have m:=Pf.jc l;rw[sa];simp only[Pf.da,Pf.dW,Pf.dv,Pf.eN,Pf.yJ,Pf.cZ,cN]
   rw[fF VW,cv,cT VW,cL,fy id ts 0 [] aaP (λj x v a b=>by
    have:=c6 Tm.wt a
    rw[jB VW,cv,dt (by simpa using b),cL,eb];rfl),cv,cS,cT VW,cL,fy id c 0 [] aaP (λj x v a b=>by
    have:=c6 Fm.wt a
    rw[hI VW,cv,dt (by simpa using b),cL,eb];rfl),cv,cS,cT VW,cL,fy id l 0 [] aaP (λj x v a b=>by
    have:=c6 Pf.wt a
    rw[d x VW VW,cv,dt (by simpa using b),cL,eb];rfl),cv,cS]
   simp
def WQ{k:Int}{l:List Pf}(h:cU Pf.wt l<=1000000000):mC k l=some (.mk k 0 .z [] [] l):=by
 have c:=Pf.jc l;unfold mC
 rw[cT VW,cL,cN,fy id l 0 [] aaP (λj x v a b=>by
  have:=c6 Pf.wt a
  rw[uY FU x (by rw[dp];omega) VW,cv,dt (by simpa using b),cL,eb];rfl),cv,cS]
 simp[Ty.z]
def FF{k:Int}{a:Pf}(h:a.wt<=500000000):mC k [a]=some (.mk k 0 .z [] [] [a]):=WQ (by simp[cU];omega)
def B8{k:Int}{a b:Pf}(h:a.wt<=400000000)(c:b.wt<=400000000):mC k [a,b]=some (.mk k 0 .z [] [] [a,b]):=WQ (by simp[cU];omega)
def Mj{F:Fm}{a:Pf}(hF:F.wt<=1000000000)(h:a.wt<=500000000):vQ F a=some (.mk 6 0 .z [] [F] [a]):=by
 unfold vQ;rw[FF h,cv,hI hF];rfl
def zN{k:Int}{s:Ty}{a:Pf}(hs:s.agl<=1000000000)(h:a.wt<=500000000):rk k s a=some (.mk k 0 s [] [] [a]):=by
 unfold rk;rw[FF h,cv,fF hs];rfl
def Iz{k:Int}{t:Tm}{a:Pf}(b:t.wt<=1000000000)(h:a.wt<=500000000):u_ k t a=some (.mk k 0 .z [t] [] [a]):=by
 unfold u_;rw[FF h,cv,jB b];rfl
def Jb{k:Int}{F:Fm}{t:Tm}{a:Pf}(hF:F.wt<=1000000000)(b:t.wt<=1000000000)(h:a.wt<=500000000):vb k F t a=some (.mk k 0 .z [t] [F] [a]):=by
 unfold vb;rw[Iz b h,cv,hI hF];rfl
def Jc{k:Int}{F:Fm}{t:Tm}{a:Pf}(hF:F.wt<=1000000000)(b:t.wt<=1000000000)(h:a.wt<=500000000):sk k F t a=some (.mk k 0 .z [t] [F] [a],F):=by
 unfold sk;rw[Iz b h,cv,hI hF];rfl
def GX{k:Int}{F:Fm}{t:Tm}{a b:Pf}(hF:F.wt<=1000000000)(c:t.wt<=1000000000)(h:a.wt<=400000000)(d:b.wt<=400000000):uE k F t a b=some (.mk k 0 .z [t] [F] [a,b]):=by
 unfold uE;rw[B8 h d,cv,jB c,cv,hI hF];rfl
def EK{F:Fm}{a b:Pf}(hF:F.wt<=1000000000)(h:a.wt<=400000000)(c:b.wt<=400000000):rU F a b=some (.mk 19 0 .z [] [F] [a,b]):=by
 unfold rU;rw[B8 h c,cv,hI hF];rfl
def o7{t:Tm}(a:t.wt<=1000000000):l8 t=some (.mk 18 0 .z [t] [] []):=by
 unfold l8;rw[jB a];rfl
def tA{t:Tm}{g:List Ty}{s:Ty}(h:du g t s)(hg:g.length<=1000)(hn:t.agl<=4096):j4 t=some (t.up 0 1):=by
 have hw:=t.gm h.ok;have a:t.agp 1000000000000=true:=h.agp _ VW;unfold j4;rw[yP VW VW,cv,nd FU _ 0 1 (by rw[dp,Fm.cJ];simp only[cU];omega) (by rw[Fm.cJ];simp only[cU];omega) VW (by rw[Fm.cJ];simp only[cU];omega) VW VW (by rw[Fm.dI];simp[a]),cv,Fm.ir];rfl
def vM{q:Sq}{f:Fm}(h:q.agq.length<=1000):zr q f=some ⟨q.agn,q.agq++[f]⟩:=by
 unfold zr;rw[dt aaP,cL,dt (by simp[eb];omega),cL];simp[eb]
def Ej{L:List Fm}{q:Sq}(h:v_ L q){l:List Ty}(e:l.length<=1000):qE q l=some ⟨q.agn++l,q.agq.map (Fm.up 0 l.length)⟩:=by
 have b:=h.nh;have a:=h.nv;unfold qE
 rw[kr _ _ VW,cv,cT VW,cL,cN,fy (Fm.up 0 l.length) q.agq 0 [] aaP (λj x v c d=>by
  have hg:=h.agq x c;have hn:=hg.agl
  rw[dz,nd FU x 0 l.length (by rw[dp];omega) VW VW VW VW VW (hg.agp a VW),cv,dt (by simpa using d),cL,eb]),cv,cS,kW]
def v_.below{L:List Fm}{q:Sq}(h:v_ L q){l:List Ty}(b:gA l)(hn:q.agn.length+l.length<=16):v_ L ⟨q.agn++l,q.agq.map (Fm.up 0 l.length)⟩:=by
 refine⟨h.ln,h.F8,h.ctx.append b,by simpa using hn,by simpa using h.nh,λf c=>?_⟩;obtain⟨f0,a,rfl⟩:=nU.1 c;exact(h.agq f0 a).up l
def v_.with{L:List Fm}{q:Sq}(h:v_ L q){f:Fm}(a:Hg q.agn f)(hn:q.agq.length+1<=16):v_ L ⟨q.agn,q.agq++[f]⟩:=by
 refine⟨h.ln,h.F8,h.ctx,h.nv,by simpa using hn,λx hx=>?_⟩;rcases rS.1 hx with hx|hx
 ·exact h.agq x hx
 ·rw[uR.1 hx];exact a
def Hg.wt{g:List Ty}{f:Fm}(h:Hg g f):f.wt<=266240:=by
 have:=f.gm h.ok;have:=h.agl;omega
def v_.b{L:List Fm}{q:Sq}(h:v_ L q):XQ L q:=by
 refine⟨λf a=>by have:=(h.F8 f a).wt;omega,λt c=>by have:=dE (h.ctx t c);omega,by have:=h.nv;omega,λf a=>by have:=(h.agq f a).wt;omega⟩
def pb:Nat->Nat
 |0=>10000|k+1=>3*pb k+1000000
def HO:∀k,k<=4->10000<=pb k/\pb k<=50000000
 |0,_=>by decide|1,_=>by decide|2,_=>by decide|3,_=>by decide|4,_=>by decide|k+5,h=>by omega
def fG(b:Nat)(o:Option (Pf×c9)):Prop:=∃x a,o=some (x,a)/\a.wf/\x.wt<=b
def fG.of{b:Nat}{x:Pf}{d:c9}(a:d.wf)(h:x.wt<=b):fG b (some (x,d)):=⟨x,d,rfl,a,h⟩
def fV{β:Type}{G:Option β->Prop}{c:Bool}{a b:Option β}(d:c=true->G a)(e:c=false->G b):G (if c then a else b):=by
 cases c with
 |true=>exact d rfl|false=>exact e rfl
def kz{g:List Ty}{t:Ty}{d:c9}(e:g.length<=600)(hg:nu 3 g)(f:t.err=0)(c:t.agl<=3)(h:d.wf):∃x a,f_ FU d g t 1=some (x,a)/\a.wf/\du g x t/\x.agl<=57/\x.wt<=3705/\x.err=0:=by
 obtain⟨x,a,i,j,b⟩:=An 3 VW VW 1 VW g t d e hg f c h;have hn:x.agl<=57:=b.agl;have hw:=x.gm b.ty.ok;exact⟨x,a,i,j,b.ty,hn,VW,Tm.sg b.ty.ok VW⟩
def tZ{d:c9}(b:d.wf):∃t a,iE FU d 1=some (t,a)/\t.err=0/\t.agl<=3/\a.wf:=by
 obtain⟨t,a,c,e,g,f⟩:=tn d b 1 VW;exact⟨t,a,c,e,VW,f⟩
def Fb{d:c9}(b:d.wf):∃t a,iE FU d 0=some (t,a)/\t.err=0/\t.agl<=3/\a.wf:=by
 obtain⟨t,a,c,e,g,f⟩:=tn d b 0 VW;exact⟨t,a,c,e,VW,f⟩
theorem Ty.dZ:Ty.z.agl=1:=aaa
def zi:fg 0=some v0:=rfl
def MZ{P:Pf}{e:Int}(h:P.wt<=1000000000):∃b c,tS P e=some (b,c)/\b.wt<=P.wt+1:=by
 have a:(Pf.mk 0 0 (Ty.mk 0 []) [] [] []).wt<=P.wt+1:=by have:=P.fO;rw[Pf.dC];simp[cU,Ty.cJ];omega
 unfold tS
 by_cases he:e=0
 ·subst he;rw[cI nz];unfold tm;rw[cN,tW FU P (by rw[dp];omega) h,cv,th FU P (by rw[dp];omega) h];cases P.small with
  |false=>exact⟨_,_,rfl,a⟩|true=>
   rw[cK rfl,cv,cv];cases A8 (P.agl:Int) 16384 with
   |false=>exact⟨_,_,rfl,a⟩|true=>
    rw[cK rfl,uY FU P (by rw[dp];omega) h];exact⟨_,_,rfl,VW⟩
 ·rw[cK (by rw[cV];exact he)];exact⟨_,_,rfl,a⟩
def J0{ts:List Tm}{ps:List Pf}(d:∀t∈ts,t.wt<=1000000000)(f:∀p∈ps,p.wt<=1000000000)(g:ts.length<=1000)(h:ps.length<=1000):∃e,su ts [] ps=some e:=by
 unfold su;rw[cT VW,cL,cN,hQ Tm.err ts 0 (λj x a=>by rw[iY (d x a)];exact sd)]
 by_cases b:eC (ts.map Tm.err)=0
 ·rw[cK b,cv,cS,cT aaB,cL,cN,lT,cv,cS,cT VW,cL,cN,hQ Pf.err ps 0 (λj x a=>by rw[oz (f x a)];exact sd)]
  by_cases c:eC (ps.map Pf.err)=0
  ·rw[cK c];exact⟨_,rfl⟩
  ·rw[cI c];exact⟨_,rfl⟩
 ·rw[cI b];exact⟨_,rfl⟩
def yu{t:Tm}{g:List Ty}{s:Ty}(h:du g t s)(hg:g.length<=1000)(hn:t.agl<=4096):wN t 1=some (t.up 0 1):=by
 unfold wN;rw[tN FU t 0 1 (by rw[dp];omega) VW VW VW VW VW (h.agp _ VW)];rfl
def E4{t:Tm}(a:t.wt<=3705):∃P,zS t=some P/\P.wt<=20000:=by
 obtain⟨z,h,z2⟩:=uA 0 VW VW;have c:=(z2 [.nat]).1;have p:=(z2 [.nat]).2;have b:=xd;have i:du [.nat] v0 .nat:=sD (g:=[]);have d:du [.nat] (gp (gp jI z) v0) .nat:=.app (.app (yc _) c) i;have f:du [] (iZ .nat (gu v0)) (.fn .nat .nat):=.lam tB (.succ sD)
 have q:(gp (gp jI z) v0).agl<=20:=by
  unfold gp v0;rw[Tm.cJ,cU,cU,Tm.cJ,cU,cU,Tm.cJ];simp only[cU];omega
 have nL:(iZ .nat (gu v0)).agl=3:=aaa
 have r:=Tm.gm _ d.ok;have s:=Tm.gm _ f.ok;have u:=Tm.gm _ c.ok
 have v:v0.wt<=10:=aaa
 have wp:jI.wt<=585:=by have:=Tm.gm _ (yc []).ok;omega
 unfold zS;rw[uX,cv,h,cv,zi,cv,DT VW VW VW,cv,show Tm.mk 3 0 .z [.mk 3 0 .z [jI,z],v0]=gp (gp jI z) v0 from rfl,cv,yP VW VW,cv,dN,cv,cv,Aa VW,cv,show Tm.mk 5 0 .z [v0]=gu v0 from rfl,uU aaa aaa,cv,show Tm.mk 2 0 .nat [gu v0]=iZ .nat (gu v0)from rfl,cv,show mj 0=some (Pf.mk 1 0 .z [] [] [])from rfl,cv]
 have w:(Pf.mk 1 0 .z [] [] []).wt<=10:=aaa
 have j:∃P e,vp (iZ .nat (gu v0)) (gp (gp jI z) v0) v0 (Pf.mk 1 0 .z [] [] [])=some (P,e)/\P.wt<=12000:=by
  have x:=Tm.zd (gp (gp jI z) v0) 0 1;have y:=Tm.zd (iZ .nat (gu v0)) 0 1
  have A:(Tm.mk 3 0 .z [iZ .nat (gu v0),gp (gp jI z) v0]).wt<=1600:=by rw[Tm.dC];simp only[cU,Ty.dZ];omega
  have B:(Tm.mk 3 0 .z [(iZ .nat (gu v0)).up 0 1,(gp (gp jI z) v0).up 0 1]).wt<=1600:=by rw[Tm.dC];simp only[cU,Ty.dZ];omega
  have C:(Tm.mk 3 0 .z [(iZ .nat (gu v0)).up 0 1,v0]).wt<=1600:=by rw[Tm.dC];simp only[cU,Ty.dZ];omega
  have wf:(Fm.mk 1 .z [Tm.mk 3 0 .z [(iZ .nat (gu v0)).up 0 1,(gp (gp jI z) v0).up 0 1],Tm.mk 3 0 .z [(iZ .nat (gu v0)).up 0 1,v0]] []).wt<=4000:=by rw[Fm.dC];simp only[cU,Ty.dZ];omega
  have wr:(Pf.mk 18 0 .z [Tm.mk 3 0 .z [iZ .nat (gu v0),gp (gp jI z) v0]] [] []).wt<=2000:=by rw[Pf.dC];simp only[cU,Ty.dZ];omega
  have hg:vk (iZ .nat (gu v0)) (gp (gp jI z) v0) (Pf.mk 1 0 .z [] [] [])=some (.mk 19 0 .z [] [Fm.mk 1 .z [Tm.mk 3 0 .z [(iZ .nat (gu v0)).up 0 1,(gp (gp jI z) v0).up 0 1],Tm.mk 3 0 .z [(iZ .nat (gu v0)).up 0 1,v0]] []] [.mk 1 0 .z [] [] [],.mk 18 0 .z [Tm.mk 3 0 .z [iZ .nat (gu v0),gp (gp jI z) v0]] [] []]):=by
   unfold vk;rw[yu f aaB VW,cv,yu d aaB VW,cv,ov VW VW,cv,cv,zi,cv,ov VW VW,cv,yP VW VW,cv,ov VW VW,cv,o7 VW,cv,EK VW VW VW];rfl
  unfold vp
  obtain⟨e,he⟩:=J0 (ts:=[iZ .nat (gu v0),gp (gp jI z) v0,v0]) (ps:=[Pf.mk 1 0 .z [] [] []]) (by
   intro t a;simp only[iL,pt,mQ] at a
   rcases a with rfl|rfl|rfl<;>omega) (by
   intro t a
   rw[uR.1 a];omega) aaB aaB
  have k:(Pf.mk 19 0 .z [] [Fm.mk 1 .z [Tm.mk 3 0 .z [(iZ .nat (gu v0)).up 0 1,(gp (gp jI z) v0).up 0 1],Tm.mk 3 0 .z [(iZ .nat (gu v0)).up 0 1,v0]] []] [.mk 1 0 .z [] [] [],.mk 18 0 .z [Tm.mk 3 0 .z [iZ .nat (gu v0),gp (gp jI z) v0]] [] []]).wt<=11000:=by rw[Pf.dC];simp only[cU,Ty.dZ] at*;omega
  rw[hg,cv,he,cv];obtain⟨l,m,n,D⟩:=MZ (e:=e) (show _<=1000000000 from CJ k VW);rw[n,cH];exact⟨l,m,rfl,VW⟩
 obtain⟨P,e,o,E⟩:=j
 have F:(Fm.mk 1 .z [gp (gp jI z) v0,v0] []).wt<=2000:=by rw[Fm.dC];simp only[cU,Ty.dZ];omega
 have G:(Pf.mk 18 0 .z [z] [] []).wt<=200:=by rw[Pf.dC];simp only[cU,Ty.dZ];omega
 rw[o,cH,cv,o7 VW,cv,GX VW VW VW VW];refine⟨_,rfl,?_⟩;rw[Pf.dC];simp only[cU,Ty.dZ] at*;omega
def du.lift{g:List Ty}{x:Tm}{t:Ty}(h:du g x t)(e:List Ty):du (g++e) (x.up 0 e.length) t:=by
 have:=h.up g [] e aaB
 grind
def eqv(t:Tm):Fm:=.mk 1 .z [t.up 0 1,v0] []
def DA{g:List Ty}{t:Tm}(h:du g t .nat)(hn:t.agl<=57):Hg (g++[.nat]) (eqv t)/\(eqv t).agl<=59/\(eqv t).wt<=3900:=by
 have hu:du (g++[.nat]) (t.up 0 1) .nat:=by
  exact h.lift [.nat]
 have a:hD (g++[.nat]) (eqv t):=.eq hu sD
 have hm:(eqv t).agl<=59:=by
  unfold eqv;rw[Fm.cJ];simp only[cU];rw[Tm.lO]
  have:v0.agl=1:=aaa
  omega
 have hw:=Fm.gm _ a.ok;refine⟨⟨?_,a⟩,hm,VW⟩;unfold Fm.err;rw[cK a.ok,cI VW]
def Ak{g:List Ty}{t:Tm}(h:du g t .nat)(hg:g.length<=600)(hn:t.agl<=57){β:Type}(k:Fm->Option β):(cG (j4 t) λa=>cG (fg 0) λb=>cG (mf a b) λc=>k c)=k (eqv t):=by
 have hw:=t.gm h.ok;have hu:=Tm.zd t 0 1
 have d:v0.wt<=10:=aaa
 rw[tA h VW VW,cv,zi,cv,yP VW VW];rfl
def T6{g:List Ty}{f:Fm}{k:Int}(b:k=5\/k=7)(h:Hg (g++[.nat]) f)(hn:f.agl<=4000):Hg g (.mk k .nat [] [f]):=by
 have a:hD g (.mk k .nat [] [f]):=.q VW Ty.ew h.ty;refine⟨?_,a⟩;unfold Fm.err;rw[cK a.ok,cI (by rw[Fm.cJ];simp only[cU];omega)]
def G5{q:Sq}{d:c9}(a:q.agn.length<=600)(hg:nu 3 q.agn)(b:d.wf):fG 12000 (CU d q):=by
 obtain⟨t,d1,t1,t2,t3,t4,t5,t6⟩:=kz a hg Ty.ew aaa b;obtain⟨c,e,f⟩:=DA t3 t4
 have g:(Pf.mk 18 0 .z [t] [] []).wt<=3800:=by grind[Pf.dC,cU,Ty.dZ]
 have h:(Fm.mk 5 .nat [] [eqv t]).wt<=4000:=by rw[Fm.dC];simp only[cU,Ty.eU];omega
 unfold CU;rw[dN,cv,t1,cH,Ak t3 a t4,y9 aaa VW,cv,o7 VW,cv,Jb VW VW VW,cv];refine fG.of t2 ?_;rw[Pf.dC];simp only[cU,Ty.dZ];omega
def EA{q:Sq}{d:c9}(a:q.agn.length<=600)(hg:nu 3 q.agn)(c:d.wf):∃t b,tj d q=some (.mk 10 0 .z [t] [.mk 5 .nat [] [eqv t]] [.mk 18 0 .z [t] [] []],.mk 5 .nat [] [eqv t],b)/\b.wf/\du q.agn t .nat/\t.agl<=57/\t.wt<=3705:=by
 obtain⟨t,d1,t1,t2,t3,t4,t5,t6⟩:=kz a hg Ty.ew aaa c;obtain⟨e,f,g⟩:=DA t3 t4
 have h:(Pf.mk 18 0 .z [t] [] []).wt<=3800:=by grind[Pf.dC,cU,Ty.dZ]
 have i:(Fm.mk 5 .nat [] [eqv t]).wt<=4000:=by rw[Fm.dC];simp only[cU,Ty.eU];omega
 unfold tj;rw[dN,cv,t1,cH,Ak t3 a t4,y9 aaa VW,cv,o7 VW,cv,Jc VW VW VW,cH];exact⟨t,d1,rfl,t2,t3,t4,t5⟩
def qS{L:List Fm}{q:Sq}(h:v_ L q){P:Pf}(a:P.wt<=1000000000):(∃e,e≠0/\gl L q P=some (⟨eL,[]⟩,e))\/∃f l,gl L q P=some (⟨f,l⟩,0)/\Hg q.agn f:=by
 rcases nB h.b a with⟨e,he,_,_,c⟩|⟨f,m,l,_,_,c,_,d,_⟩
 all_goals grind
def wS{g:List Ty}{f:Fm}(h:Hg g f)(hg:g.length<=16):fq FU f 0 1=some (f.up 0 1)/\(f.up 0 1).wt<=266240:=by
 have hn:=h.agl;refine⟨nd FU f 0 1 (by rw[dp];omega) VW VW VW VW VW (h.agp hg VW),?_⟩;have a:=h.wt
 grind[Fm.zd]
def HU{a b x:Int}(c:0<=x)(d:x<2):∃y,df [a,b] x=some y/\(x=0/\y=a\/x=1/\y=b):=by
 have:x=0\/x=1:=VW
 rcases this with rfl|rfl
 ·exact⟨a,rfl,.inl ⟨rfl,rfl⟩⟩
 ·exact⟨b,rfl,.inr ⟨rfl,rfl⟩⟩
structure Mq (L:List Fm) (q:Sq):Prop where
 v:v_ L q
 c:nu 3 q.agn
def Mq.below{L:List Fm}{q:Sq}(h:Mq L q){s:Ty}(hs:s.err=0)(a:s.agl<=3)(hn:q.agn.length+1<=16):Mq L ⟨q.agn++[s],q.agq.map (Fm.up 0 1)⟩:=
 ⟨h.v.below (l:=[s]) (λx b=>by rw[uR.1 b];exact hs) hn,h.c.app λx b=>by rw[uR.1 b];exact⟨hs,a⟩⟩
def Mq.with{L:List Fm}{q:Sq}(h:Mq L q){f:Fm}(a:Hg q.agn f)(hn:q.agq.length+1<=16):Mq L ⟨q.agn,q.agq++[f]⟩:=⟨h.v.with a hn,h.c⟩
def Mq.U1{L:List Fm}{q:Sq}(h:Mq L q)(s:Ty):qE q [s]=some ⟨q.agn++[s],q.agq.map (Fm.up 0 1)⟩:=Ej h.v (l:=[s]) aaB
def AO{κ β:Type}{G:Option β->Prop}(Q:κ->Prop){k:κ}{b:κ->Option β}(a:Q k)(c:∀j,Q j->G (b j)):G (dj k b):=c k a
def JU{n k:Nat}(S:k<=3){L:List Fm}(C:∀(d:c9) (q:Sq),d.wf->Mq L q->fG (pb k) (jx n d L q (k:Int))){d:c9}(D:d.wf){q:Sq}(h:Mq L q)(E:q.agn.length<10)(A:q.agq.length<10):fG (pb (k+1)) (xP (n+1) d L q ((k+1:Nat):Int)):=by
 have F:=HO k VW;have H:pb (k+1)=3*pb k+1000000:=rfl;obtain⟨t,d1,s1,s2,I,K,T⟩:=EA VW h.c D;obtain⟨g1,g2,g3⟩:=DA I K
 have U:(Pf.mk 18 0 .z [t] [] []).wt<=3800:=by rw[Pf.dC];simp only[cU,Ty.dZ];omega
 have s:∀i:Int,(Fm.mk i .nat [] [eqv t]).wt<=4000:=λi=>by rw[Fm.dC];simp only[cU,Ty.eU];omega
 have u:∀i j:Int,(Pf.mk j 0 .z [t] [Fm.mk i .nat [] [eqv t]] [Pf.mk 18 0 .z [t] [] []]).wt<=20000:=λi j=>by have:=s i;rw[Pf.dC];simp only[cU,Ty.dZ];omega
 rw[xP,s1,ij];refine AO (G:=fG (pb (k+1))) (λJ=>∀(v24 m:Int) (o:c9) (a:Int),o.wf->(a=5\/a=7)->fG (pb (k+1)) (J v24 m o a)) ?_ ?_
 ·intro v24 m o a v M;have N:Hg q.agn (.mk a .nat [] [eqv t]):=T6 M g1 VW;have hm:Mq L ⟨q.agn++[.nat],q.agq.map (Fm.up 0 1)++[eqv t]⟩:=(h.below Ty.ew aaa VW).with g1 (by show(q.agq.map (Fm.up 0 1)).length+1<=16;simp;omega);obtain⟨Q,d3,q1,O,V⟩:=C o _ v hm;show fG _ (cG (df [eqv t] 0) λP=>_);rw[show df [eqv t] 0=some (eqv t)from rfl,cv,dN,cv,h.U1 .nat,cv,vM (by show(q.agq.map (Fm.up 0 1)).length<=1000;simp;omega),cv,dF VW VW,show((k+1:Nat):Int)-1=(k:Int) by omega,q1,cH];refine AO (G:=fG (pb (k+1))) (λJ=>∀(b v145 v146:Int) (e:List Ty) (v148:List Tm) (f:List Fm) (g:List Pf) (l:c9),l.wf->(Pf.mk b v145 (.mk v146 e) v148 f g).wt<=pb k+300000->fG (pb (k+1)) (J b v145 v146 e v148 f g l)) ?_ ?_
  ·intro b v145 v146 e v148 f g l w hw;have:=u a m;show fG _ (cG (mC v24 [Pf.mk m 0 .z [t] [Fm.mk a .nat [] [eqv t]] [Pf.mk 18 0 .z [t] [] []],Pf.mk b v145 (.mk v146 e) v148 f g]) λp=>some (p,l));rw[B8 VW VW,cv];refine fG.of w ?_;rw[Pf.dC];simp only[cU,Ty.dZ];omega
  ·intro J r;obtain⟨y,d4,x,R,y3,y4⟩:=gX d3 O 2 VW VW;rw[x,cH];refine fV (λ_=>?_) (λ_=>?_)
   ·obtain⟨u1,u2⟩:=wS N VW;show fG _ (cG (fq FU (.mk a .nat [] [eqv t]) 0 1) λB=>_)
    have W:v0.wt<=10:=aaa
    rw[u1,cv,zi,cv,show mj 0=some (Pf.mk 1 0 .z [] [] [])from rfl,cv,Jb VW VW aaa,cv];refine r _ _ _ _ _ _ _ _ y4 ?_;show(Pf.mk m 0 .z [v0] [(Fm.mk a .nat [] [eqv t]).up 0 1] [Pf.mk 1 0 .z [] [] []]).wt<=_;rw[Pf.dC];simp only[cU,Ty.dZ];rw[Pf.dC];simp only[cU,Ty.dZ];omega
   ·refine r _ _ _ _ _ _ _ _ y4 ?_;rw[Ty.kf,Pf.kf];omega
 ·intro J r;obtain⟨y,d4,x,R,y3,y4⟩:=gX d1 s2 3 VW VW;rw[x,cH];exact fV (λ_=>r _ _ _ _ y4 (.inr rfl)) (λ_=>r _ _ _ _ y4 (.inl rfl))
def Fa:∀(n k:Nat) (L:List Fm) (d:c9) (q:Sq),2*k<n->k<=4->d.wf->Mq L q->fG (pb k) (jx n d L q (k:Int)):=by
 intro n
 induction n using Nat.strongRecOn with
 |_ n S=>
 intro k L d q hn X D h;cases n with
 |zero=>omega|succ n=>
 have J:=h.v.nv;have Y:=h.v.nh;have Z:=h.v.ln;have aa:=HO k X;rw[jx,dN,cv];refine lx (G:=fG (pb k)) (λd=>d.wf) (λd D=>?_) (λj E=>?_)
 ·--a leaf
  refine lx (G:=fG (pb k)) (λd=>d.wf) (λd D=>?_) (λj E=>?_)
  ·obtain⟨t,d1,t1,t2,t3,t4,t5,t6⟩:=kz VW h.c Ty.ew aaa D;rw[t1,cH,o7 VW,cv];refine fG.of t2 ?_;rw[Pf.dC];simp only[cU,Ty.dZ];omega
  ·obtain⟨x,d1,N,x2,x3,p⟩:=gX d D 4 VW VW;rw[N,cH];refine fV (λ_=>fV (λK=>?_) (λ_=>E _ p)) (λ_=>fV (λ_=>fV (λK=>?_) (λ_=>E _ p)) (λ_=>E _ p))
   ·rw[ei,dz] at K;obtain⟨y,d2,H,I,y3,y4⟩:=gX d1 p q.agq.length VW VW;rw[dz,H,cH,show mj y=some (Pf.mk 1 y .z [] [] [])from rfl,cv];refine fG.of y4 ?_;rw[Pf.dC];simp only[cU,Ty.dZ];omega
   ·rw[ei,dz] at K;obtain⟨y,d2,H,I,y3,y4⟩:=gX d1 p L.length VW VW;rw[dz,H,cH];refine fG.of y4 ?_;show(Pf.mk 2 y .z [] [] []).wt<=_;rw[Pf.dC];simp only[cU,Ty.dZ];omega
 ·refine fV (λK=>?_) (λ_=>E _ D);rw[kS,kS,ez,ez,ei,gH,gH,dz,dz] at K;obtain⟨ab,T,U⟩:=K;obtain⟨m,rfl⟩:∃m,k=m+1:=⟨k-1,VW⟩;rw[dF VW VW,show((m+1:Nat):Int)-1=(m:Int) by omega];have ad:=HO m VW;have ae:pb (m+1)=3*pb m+1000000:=rfl;have g:∀(d:c9) (q:Sq),d.wf->Mq L q->fG (pb m) (jx n d L q (m:Int)):=λd q D h=>S n VW m L d q VW VW D h;obtain⟨x,d1,N,x2,x3,p⟩:=gX d D 17 VW VW;rw[N,cH];refine fV (λ_=>?_) (λ_=>?_)
  ·--and
   obtain⟨P,d2,o,i,w⟩:=g d1 q p h;obtain⟨Q,d3,q1,M,V⟩:=g d2 q i h;rw[o,cH,q1,cH,B8 VW VW,cv];refine fG.of M ?_;rw[Pf.dC];simp only[cU,Ty.dZ];omega
  refine fV (λ_=>?_) (λ_=>?_)
  ·obtain⟨y,d2,H,I,y3,y4⟩:=gX d1 p 2 VW VW;obtain⟨P,d3,o,i,w⟩:=g d2 q y4 h;obtain⟨Q,d4,q1,M,V⟩:=g d3 q i h
   have hw:(Pf.mk 3 0 .z [] [] [P,Q]).wt<=200000000:=by rw[Pf.dC];simp only[cU,Ty.dZ];omega
   rw[H,cH,o,cH,q1,cH,B8 VW VW,cv,FF VW,cv];refine fG.of M ?_;rw[Pf.dC];simp only[cU,Ty.dZ];rw[Pf.dC];simp only[cU,Ty.dZ];omega
  refine fV (λ_=>?_) (λ_=>?_)
  ·obtain⟨F,d2,f1,f2,f3⟩:=EW 1 VW q.agn d1 VW h.c p;have B:Hg q.agn F:=⟨f3.err aaa,f3.ty⟩;have O:=B.wt;obtain⟨P,d3,o,i,w⟩:=g d2 _ f2 (h.with B VW);rw[show(1:Int)=((1:Nat):Int)from rfl,f1,cH,vM VW,cv,o,cH,Mj VW VW,cv];refine fG.of i ?_;rw[Pf.dC];simp only[cU,Ty.dZ];omega
  refine fV (λ_=>?_) (λ_=>?_)
  ·obtain⟨P,d2,o,i,w⟩:=g d1 q p h;rw[o,cH];rcases qS h.v (P:=P) VW with⟨e,he,r⟩|⟨f,l,r,B⟩
   ·rw[r,cH,cI (by rw[dO];exact he)];exact E _ i
   ·have O:=B.wt;obtain⟨Q,d3,q1,M,V⟩:=g d2 _ i (h.with B VW)
    have hw:(Pf.mk 6 0 .z [] [f] [Q]).wt<=200000000:=by rw[Pf.dC];simp only[cU,Ty.dZ];omega
    rw[r,cH,cK aa7];simp only[];rw[vM VW,cv,q1,cH,Mj VW VW,cv,B8 VW VW,cv];refine fG.of M ?_;rw[Pf.dC];simp only[cU,Ty.dZ];rw[Pf.dC];simp only[cU,Ty.dZ];omega
  refine fV (λ_=>?_) (λ_=>?_)
  ·obtain⟨s,d2,s1,s2,A,C⟩:=tZ p;obtain⟨P,d3,o,i,w⟩:=g d2 _ C (h.below s2 A VW);rw[s1,cH,h.U1 s,cv,o,cH,zN VW VW,cv];refine fG.of i ?_;rw[Pf.dC];simp only[cU];omega
  refine fV (λ_=>?_) (λ_=>?_)
  ·obtain⟨s,d2,s1,s2,A,C⟩:=tZ p;obtain⟨t,d3,t1,t2,t3,t4,t5,t6⟩:=kz VW h.c s2 A C;obtain⟨P,d4,o,i,w⟩:=g d3 _ t2 (h.below s2 A VW)
   have hw:(Pf.mk 8 0 s [] [] [P]).wt<=200000000:=by rw[Pf.dC];simp only[cU];omega
   rw[s1,cH,t1,cH,h.U1 s,cv,o,cH,zN VW VW,cv,Iz VW VW,cv];refine fG.of i ?_;rw[Pf.dC];simp only[cU,Ty.dZ];rw[Pf.dC];simp only[cU];omega
  refine fV (λ_=>?_) (λ_=>?_)
  ·--there is a number W is equal to a term
   obtain⟨t,d2,t1,t2,t3,t4,t5,t6⟩:=kz VW h.c Ty.ew aaa p;obtain⟨y,d3,H,I,y3,y4⟩:=gX d2 t2 2 VW VW;obtain⟨a,a1,_⟩:=HU (a:=5) (b:=7) I y3;obtain⟨b,R,_⟩:=HU (a:=10) (b:=14) I y3;obtain⟨g1,g2,g3⟩:=DA t3 t4
   have hr:(Pf.mk 18 0 .z [t] [] []).wt<=3800:=by rw[Pf.dC];simp only[cU,Ty.dZ];omega
   have B:(Fm.mk a .nat [] [eqv t]).wt<=4000:=by rw[Fm.dC];simp only[cU,Ty.eU];omega
   rw[t1,cH,H,cH,cN,a1,cv,Ak t3 VW t4,y9 aaa VW,cv,cN,R,cv,o7 VW,cv,Jb VW VW VW,cv];refine fG.of y4 ?_;rw[Pf.dC];simp only[cU,Ty.dZ];omega
  refine fV (λ_=>?_) (λ_=>?_)
  ·obtain⟨P,d2,o,i,w⟩:=g d1 q p h;rw[o,cH];rcases qS h.v (P:=P) VW with⟨e,he,r⟩|⟨f,l,r,B⟩
   ·rw[r,cH,cI (by rw[dO];exact he)];exact E _ i
   ·obtain⟨u1,u2⟩:=wS B J;obtain⟨s,d3,s1,s2,A,C⟩:=tZ i;obtain⟨y,d4,H,I,y3,y4⟩:=gX d3 C 2 VW VW;obtain⟨a,a1,_⟩:=HU (a:=5) (b:=7) I y3;obtain⟨b,R,_⟩:=HU (a:=10) (b:=14) I y3;obtain⟨t,d5,t1,t2,t3,t4,t5,t6⟩:=kz VW h.c s2 A y4
    have hw:(Fm.mk a s [] [f.up 0 1]).wt<=300000:=by rw[Fm.dC];simp only[cU];omega
    rw[r,cH,cK aa7,s1,cH,H,cH,cN,a1,cv,u1,cv,y9 VW VW,cv,cN,R,cv,t1,cH,Jb VW VW VW,cv];refine fG.of t2 ?_;rw[Pf.dC];simp only[cU,Ty.dZ];omega
  refine fV (λ_=>?_) (λ_=>?_)
  ·obtain⟨n',rfl⟩:∃n',n=n'+1:=⟨n-1,VW⟩;obtain⟨P,d2,o,i,w⟩:=JU (n:=n') (k:=m) VW (λd q D h=>S n' VW m L d q VW VW D h) p h VW VW;rw[o,cH];exact fG.of i w
  refine fV (λ_=>?_) (λ_=>?_)
  ·obtain⟨P,d2,o,i,w⟩:=g d1 q p h;rw[o,cH];rcases qS h.v (P:=P) VW with⟨e,he,r⟩|⟨f,l,r,B⟩
   ·rw[r,cH,cI (by rw[dO];exact he)];exact E _ i
   ·obtain⟨u1,u2⟩:=wS B J;obtain⟨t,d5,t1,t2,t3,t4,t5,t6⟩:=kz VW h.c Ty.ew aaa i
    have hH:(Pf.mk 1 0 .z [] [] []).wt<=10:=aaa
    rw[r,cH,cK aa7,u1,cv,t1,cH,show mj 0=some (Pf.mk 1 0 .z [] [] [])from rfl,cv,GX VW VW VW VW,cv];refine fG.of t2 ?_;rw[Pf.dC];simp only[cU,Ty.dZ];omega
  refine fV (λ_=>?_) (λ_=>?_)
  ·obtain⟨P,d2,o,i,w⟩:=g d1 q p h;rw[o,cH];rcases qS h.v (P:=P) VW with⟨e,he,r⟩|⟨f,l,r,B⟩
   ·rw[r,cH,cI (by rw[dO];exact he)];exact E _ i
   ·obtain⟨u1,u2⟩:=wS B J;obtain⟨t,d5,t1,t2,t3,t4,t5,t6⟩:=kz VW h.c Ty.kT aaa i
    have hH:(Pf.mk 1 0 .z [] [] []).wt<=10:=aaa
    rw[r,cH,cK aa7,u1,cv,en,cv,t1,cH,show mj 0=some (Pf.mk 1 0 .z [] [] [])from rfl,cv,GX VW VW VW VW,cv];refine fG.of t2 ?_;rw[Pf.dC];simp only[cU,Ty.dZ];omega
  refine fV (λ_=>?_) (λ_=>?_)
  ·obtain⟨t,d2,t1,t2,t3,t4,t5,t6⟩:=kz VW h.c Ty.ew aaa p;obtain⟨P,o,i⟩:=E4 t5;rw[t1,cH,o,cv];exact fG.of t2 VW
  refine fV (λ_=>?_) (λ_=>?_)
  ·obtain⟨t,d2,t1,t2,t3,t4,t5,t6⟩:=kz VW h.c Ty.ew aaa p;obtain⟨u,d3,u1,u2,u3,u4,u5,u6⟩:=kz VW h.c Ty.ew aaa t2;have af:=Tm.zd u 0 1
   have r1:(Pf.mk 18 0 .z [t] [] []).wt<=3800:=by rw[Pf.dC];simp only[cU,Ty.dZ];omega
   have r2:(Pf.mk 18 0 .z [u] [] []).wt<=3800:=by rw[Pf.dC];simp only[cU,Ty.dZ];omega
   have r3:(Fm.mk 1 .z [u.up 0 1,u.up 0 1] []).wt<=8000:=by rw[Fm.dC];simp only[cU,Ty.dZ];omega
   rw[t1,cH,u1,cH,tA u3 VW VW,cv,cv,yP VW VW,cv,o7 VW,cv,o7 VW,cv,EK VW VW VW,cv];refine fG.of u2 ?_;rw[Pf.dC];simp only[cU,Ty.dZ];omega
  refine fV (λ_=>?_) (λ_=>?_)
  ·obtain⟨s,d2,s1,s2,A,C⟩:=Fb p;have hb:=h.below s2 A VW;obtain⟨P,d3,o,i,w⟩:=G5 (q:=⟨q.agn++[s],q.agq.map (Fm.up 0 1)⟩) (by show(q.agn++[s]).length<=600;simp;omega) hb.c C
   have hw:(Pf.mk 8 0 s [] [] [P]).wt<=13000:=by rw[Pf.dC];simp only[cU];omega
   rw[s1,cH,h.U1 s,cv,o,cH,zN VW VW,cv,FF VW,cv];refine fG.of i ?_;rw[Pf.dC];simp only[cU,Ty.dZ];omega
  refine fV (λ_=>?_) (λ_=>?_)
  ·obtain⟨s,d2,s1,s2,A,C⟩:=tZ p;obtain⟨P,d3,o,i,w⟩:=g d2 _ C (h.below s2 A VW);rw[s1,cH,h.U1 s,cv,o,cH,zN VW VW,cv];refine fG.of i ?_;rw[Pf.dC];simp only[cU];omega
  refine fV (λ_=>?_) (λ_=>E _ p)
  ·obtain⟨s,d2,s1,s2,A,C⟩:=tZ p;obtain⟨t,d3,t1,t2,t3,t4,t5,t6⟩:=kz VW h.c s2 A C;obtain⟨P,d4,o,i,w⟩:=g d3 _ t2 (h.below s2 A VW)
   have hw:(Pf.mk 12 0 s [] [] [P]).wt<=200000000:=by rw[Pf.dC];simp only[cU];omega
   rw[s1,cH,t1,cH,h.U1 s,cv,o,cH,zN VW VW,cv,Iz VW VW,cv];refine fG.of i ?_;rw[Pf.dC];simp only[cU,Ty.dZ];rw[Pf.dC];simp only[cU];omega
def Fm.sg{f:Fm}(h:f.ok=true)(hn:f.agl<=4096):f.err=0:=by
 unfold Fm.err;rw[cK h,cI VW]
def zP{P:Pf}(hw:P.ok=true)(hs:P.small=true):P.err=if P.agl<=16384 then 0 else 4:=by
 unfold Pf.err;rw[cK hw]
 by_cases h:P.agl<=16384
 ·rw[cK ⟨hs,h⟩,cK h]
 ·rw[cI (λa=>h a.2),cI h]
theorem gZ{P:Pf}(h:P.err=0):P.ok=true/\P.small=true/\P.agl<=16384:=by
 unfold Pf.err at h;cases b:P.ok with
 |false=>rw[b] at h;cases h
 |true=>
  rw[b,cK rfl] at h
  by_cases a:P.small=true/\P.agl<=16384
  ·exact⟨rfl,a.1,a.2⟩
  ·rw[cI a] at h;cases h
def S'{t:Tm}(h:t.err=0):t.ok=true/\J' t=true:=by
 obtain⟨a,b⟩:=Tm.eJ h;exact⟨a,by simpa[J'] using b⟩
def I_{g:List Ty}{hs L:List Fm}{t:Tm}(h:du g t .nat)(c:gA g)(hg:g.length<=16)(hn:t.agl<=1000):(Pf.mk 18 0 .z [t] [] []).inf L g hs=.inl (.mk 1 .z [t,t] [],0)/\(Pf.mk 18 0 .z [t] [] []).err=0:=by
 have he:t.err=0:=Tm.sg h.ok VW;have d:(Fm.mk 1 .z [t,t] []).err=0:=Fm.sg (hD.eq h h).ok (by rw[Fm.cJ];simp only[cU];omega);constructor
 ·rw[Pf.CO,NC,fR (Dp h c VW)];unfold Ab;rw[eF,cK d];cases (Fm.mk 1 .z [t,t] []).has<;>rfl
 ·obtain⟨a,b⟩:=S' he;rw[zP (by rw[Pf.eD];simp[a,Pf.node,Pf.sig,Ty.lC]) (by rw[Pf.rH];simp[b]),cK (by rw[Pf.cJ];simp only[cU];omega)]
def qK{L:List Fm}{q:Sq}(h:v_ L q){P:Pf}(a:P.err=0):MJ L q P=P.inf L q.agn q.agq:=by
 unfold MJ;rw[fR h.zero,fR a]
structure Rt (L:List Fm) (q:Sq) (P:Pf) (f:Fm) (m:Nat):Prop where
 err:P.err=0
 inf:P.inf L q.agn q.agq=.inl (f,m)
 hg:Hg q.agn f
 wt:P.wt<=50000000
def Fo{L:List Fm}{q:Sq}(h:Mq L q){d:c9}(C:d.wf){k:Nat}(y:k<=4):∃P f l g m,AM d L q (k:Int)=some (P,⟨f,l⟩,g)/\g.wf/\Rt L q P f m/\Us l m:=by
 have D:=HO k y;unfold AM;rw[cN]
 obtain⟨o,E,A⟩:=rJ (ρ:=Pf×ur×c9) (F:=nk λ(v109:Int) (a:c9)=>
   if(pP v109 4) then(
   cX (jx FU a L q (k:Int)) λc d134=>
   cX (gl L q c) λn p=>
   if(dm p 0) then(
   some (.ret (c,n,d134)))
   else(some (.next ((dR .i64 v109 1),d134))))
   else(some (.vN (v109,a))))
  (λs=>0<=s.1/\s.1<=4/\s.2.wf) (λs=>(4-s.1).toNat)
  (λo=>match o with|.inl s=>s.2.wf|.inr r=>∃P f l g m,r=(P,⟨f,l⟩,g)/\g.wf/\Rt L q P f m/\Us l m)
  (by
   rintro⟨i,e⟩ ⟨i1,i2,i3⟩;simp only at i1 i2 i3
   by_cases hi:i<4
   ·obtain⟨P,d1,G,B,S⟩:=Fa FU k L e q (by rw[dp];omega) y i3 h;simp only[nk,gH,hi,if_true,G,cH];rcases nB h.v.b (P:=P) VW with⟨e,he,_,_,j⟩|⟨f,m,l,q1,_,j,hu,w,_,he⟩
    ·left;refine⟨(i+1,d1),?_,⟨?_,?_,B⟩,?_⟩
     ·rw[j,cH,cI (by rw[dO];exact he),ds VW VW]
     ·show 0<=i+1;omega
     ·show i+1<=4;omega
     ·show(4-(i+1)).toNat<(4-i).toNat;omega
    ·right;right;refine⟨(P,⟨f,l⟩,d1),?_,P,f,l,d1,m,rfl,B,⟨he,?_,w,VW⟩,hu⟩
     ·rw[j,cH,cK aa7]
     ·rw[<-qK h.v he];exact q1
   ·right;left
    exact⟨(i,e),by simp only[nk,gH,hi,jC],i3⟩)
  FU (0,d) ⟨by show(0:Int)<=0;omega,by show(0:Int)<=4;omega,C⟩ (by show(4-(0:Int)).toNat<FU;rw[dp];omega)
 rw[E];cases o with
 |inr r=>
  obtain⟨P,f,l,g,m,rfl,H,I,J⟩:=A;exact⟨P,f,l,g,m,rfl,H,I,J⟩
 |inl s=>
  obtain⟨i,e⟩:=s;have he:e.wf:=A;obtain⟨x,d1,K,M,T,N⟩:=gX e he 4 VW VW;obtain⟨t,t1,t2⟩:=uA x M VW;obtain⟨u,hn⟩:=t2 q.agn;have hw:=t.gm u.ok;obtain⟨O,Q⟩:=I_ (L:=L) (hs:=q.agq) u h.v.ctx h.v.nv VW
  have R:(Pf.mk 18 0 .z [t] [] []).wt<=1000:=by rw[Pf.dC];simp only[cU,Ty.dZ];omega
  rcases nB h.v.b (P:=Pf.mk 18 0 .z [t] [] []) VW with⟨e,he,q1,_,j⟩|⟨f,m,l,q1,_,j,hu,w,_,he⟩
  ·rw[qK h.v Q,O] at q1;cases q1
  ·rw[cv,cS];simp only[nk];rw[K,cH,t1,cv,o7 VW,cv,j,cH];exact⟨_,f,l,d1,m,rfl,N,⟨he,by rw[<-qK h.v he];exact q1,w,VW⟩,hu⟩
def S3(g:List Ty)(s:Ty):du (g++[s]) v0 s:=sD
def zp{f:Fm}{m:Nat}(h:f.err=0):Ab (.inl (f,m))=.inl (f,if f.has then m else 0):=by
 unfold Ab;rw[eF,cK h]
theorem PK{f:Fm}{m:Nat}(h:f.err≠0):Ab (.inl (f,m))=.inr 4:=by
 unfold Ab;rw[eF,cI h]
@[simp] theorem Xs(e:Int):Ab (.inr e)=.inr e:=rfl
def P7:v_ [] ⟨[],[]⟩:=⟨aaB,λf h=>by simp at h,λs h=>by simp at h,aaB,aaB,λf h=>by simp at h⟩
def fin(f:Fm)(m:Nat):Nat:=if f.has then m else 0
def LN{r:PR}{f:Fm}{m:Nat}(h:Ab r=.inl (f,m)):∃a,r=.inl (f,a)/\f.err=0/\m=fin f a:=by
 cases r with
 |inr e=>cases h
 |inl p=>
  obtain⟨f0,a⟩:=p
  by_cases b:f0.err=0
  ·rw[zp b] at h;obtain⟨rfl,rfl⟩:=gE (Lr h);exact⟨a,rfl,b,rfl⟩
  ·grind[PK]
def Ca{r:PR}{k:Fm->Nat->PR}{p:Fm×Nat}(h:pbind r k=.inl p):∃f m,r=.inl (f,m)/\k f m=.inl p:=by
 cases r with
 |inr e=>cases h
 |inl q=>exact⟨q.1,q.2,rfl,h⟩
def CV{c:Prop}[Decidable c]{e:Int}{r:PR}{p:Fm×Nat}(h:qR c e r=.inl p):¬c/\r=.inl p:=by grind[hZ,iy]
def v_.L4{L:List Fm}{g:List Ty}{hs:List Fm}(h:v_ L ⟨g,hs⟩){s:Ty}(a:s.err=0)(hn:g.length+1<=16):v_ L ⟨g++[s],hs.map (Fm.up 0 1)⟩:=h.below (l:=[s]) (λx b=>by rw[uR.1 b];exact a) hn
def Mi{L:List Fm}{q:Sq}{P:Pf}(h:v_ L q)(c:P.wt<=1000000000)(he:P.err=0){f:Fm}{m:Nat}(hi:P.inf L q.agn q.agq=.inl (f,m)):∃l,jS L q P=some (⟨f,l⟩,0)/\Us l m/\Hg q.agn f:=by
 rcases nB h.b c with⟨e,_,q1,a,_⟩|⟨g,i,l,q1,a,_,hu,d,_⟩
 ·rw[qK h he,hi] at q1;cases q1
 ·rw[qK h he,hi] at q1;obtain⟨rfl,rfl⟩:=gE (Lr q1);exact⟨l,a,hu,d⟩
def LW{k:Int}(d:k=8\/k=12){s:Ty}(hs:s.err=0){P:Pf}(e:P.err=0):(Pf.mk k 0 s [] [] [P]).err=if 1+P.agl<=16384 then 0 else 4:=by
 obtain⟨a,b,c⟩:=gZ e
 have hn:(Pf.mk k 0 s [] [] [P]).agl=1+P.agl:=by rw[Pf.cJ];simp only[cU];omega
 rw[zP (by rw[Pf.eD];rcases d with rfl|rfl<;>simp[a,Pf.node,Pf.sig,hs]) (by rw[Pf.rH];simp[b]),hn]
def GN(s:Ty):s.jO s=true:=(Ty.iV s s).2 rfl
def vrs(k:Int)(i:Nat):Nat:=if k=8\/k=12 then 1 else if k=11\/k=15\/k=16 then i else if k=17 then 2*i else 0
def mot(k:Int):Nat:=if k=16\/k=17\/k=19 then 1 else 0
mutual
def Pf.agp(m:Int):Pf->Bool
 |.mk _ _ _ ts a l=>ts.all (Tm.agp m)&&a.all (Fm.agp m)&&Pf.oI m l
def Pf.oI(m:Int):List Pf->Bool
 |[]=>true|p::l=>p.agp m&&Pf.oI m l
end
end Go.ek
namespace Go.ek
open Go
section
variable{G G':List Ty} {ψ:Tm->Int->Tm}
def Om(k:Int)(i:Nat):Nat:=if k=6 then 1 else if k=11\/k=15\/k=16\/k=17 then i else 0
mutual
def Pf.zG(ψ:Tm->Int->Tm)(η:Nat->Nat->Int->Pf):Nat->Nat->Pf->Pf
 |d,h,.mk k i s ts a l=>if k=1 then η d h i else .mk k i s (ts.map λt=>ψ t d) (a.map λf=>f.zG ψ ((d+mot k:Nat):Int)) (Pf.Xi ψ η k 0 d h l)
def Pf.Xi(ψ:Tm->Int->Tm)(η:Nat->Nat->Int->Pf)(k:Int):Nat->Nat->Nat->List Pf->List Pf
 |_,_,_,[]=>[]|i,d,h,p::l=>p.zG ψ η (d+vrs k i) (h+Om k i)::Pf.Xi ψ η k (i+1) d h l
end
end
end Go.ek
namespace Go.ek
open Go
end Go.ek
namespace Go.ek
open Go
section
variable{L:List Fm} {g:List Ty} {hs:List Fm}
end
end Go.ek
namespace Go.ek
open Go
def M3{L:List Fm}{q:Sq}{P:Pf}(h:v_ L q)(c:P.wt<=1000000000)(he:P.err=0){f:Fm}{m:Nat}(hi:P.inf L q.agn q.agq=.inl (f,m)):∃l,gl L q P=some (⟨f,l⟩,0)/\Us l m/\Hg q.agn f:=by
 rcases nB h.b c with⟨e,_,q1,_,a⟩|⟨g,i,l,q1,_,a,hu,d,_⟩
 ·rw[qK h he,hi] at q1;cases q1
 ·rw[qK h he,hi] at q1;obtain⟨rfl,rfl⟩:=gE (Lr q1);exact⟨l,a,hu,d⟩
end Go.ek
set_option maxRecDepth 20000
namespace Go.ek
open Go
def IS{P:Pf}(hw:tf P){k i:Int}{s:Ty}{ts:List Tm}{a:List Fm}{l:List Pf}(h:P=.mk k i s ts a l)(c:k=8\/k=12):i=0/\ts=[]/\a=[]/\s.err=0/\∃Q,l=[Q]/\tf Q:=by
 cases hw with
 |all _ hs b=>cases h;exact⟨rfl,rfl,rfl,hs,_,rfl,b⟩
 |hyp=>cases h;omega
 |F8=>cases h;omega
 |Sz=>cases h;omega
 |«and»=>cases h;omega
 |Tc=>cases h;omega
 |Ta=>cases h;omega
 |Y2=>cases h;omega
 |ex=>cases h;omega
 |Ys=>cases h;omega
 |ind=>cases h;omega
 |refl=>cases h;omega
 |subst=>cases h;omega
 |choice=>cases h;omega
def Cd{L:List Fm}{g:List Ty}{hs:List Fm}{k:Int}{s:Ty}{Q:Pf}(i:k=8\/k=12){f:Fm}{m:Nat}(hi:(Pf.mk k 0 s [] [] [Q]).inf L g hs=.inl (f,m)):g.length+1<=16/\∃b a,Q.inf L (g++[s]) (hs.map (Fm.up 0 1))=.inl (b,a)/\f=.mk (if k=8 then 4 else 6) s [] [b]/\(k=12->a.testBit 0=false)/\f.err=0/\m=fin f (a/2):=by
 rw[Pf.CO] at hi;obtain⟨o,c,he,hm⟩:=LN hi;rcases i with rfl|rfl
 ·rw[DH] at c;obtain⟨j,d⟩:=CV c;obtain⟨b,a,q,e⟩:=Ca d;obtain⟨rfl,rfl⟩:=gE (Lr e);exact⟨VW,b,a,q,rfl,(λh=>absurd h aaa),he,hm⟩
 ·rw[Dv] at c;obtain⟨j,d⟩:=CV c;obtain⟨b,a,q,e⟩:=Ca d;obtain⟨l,n⟩:=CV e;obtain⟨rfl,rfl⟩:=gE (Lr n);exact⟨VW,b,a,q,rfl,λ_=>by simpa using l,he,hm⟩
def MU{L:List Fm}{g:List Ty}{hs:List Fm}{k:Int}{s:Ty}{Q:Pf}(d:k=8\/k=12){a:Fm}{b:Nat}(f:g.length+1<=16)(c:Q.inf L (g++[s]) (hs.map (Fm.up 0 1))=.inl (a,b))(e:k=12->b.testBit 0=false)(he:(Fm.mk (if k=8 then 4 else 6) s [] [a]).err=0):
  (Pf.mk k 0 s [] [] [Q]).inf L g hs=.inl (.mk (if k=8 then 4 else 6) s [] [a],fin (.mk (if k=8 then 4 else 6) s [] [a]) (b/2)):=by
 rw[Pf.CO];rcases d with rfl|rfl
 ·rw[DH,iy VW,c,eF,cK rfl];exact zp (by simpa using he)
 ·rw[Dv,iy VW,c,eF,iy (by rw[e rfl];decide),cI aaa];exact zp (by simpa using he)
def M4(i b:Int)(s:Bool):kj i b s=some (s&&decide (i<=536870912)):=by
 unfold kj A8;cases s<;>simp
def Jl:∀(n:Nat) (t:Tm) (b:Int) (s:Bool),t.agl<=n->t.agl<=10000000->t.ok=true->gn n t b (λ(s:Bool) (e:Int) (f:Int)=>kj e f s) s=some (s&&t.agp 536870912):=by
 intro n
 induction n with
 |zero=>intro t b s h;have:=t.db;omega
 |succ n w=>
  intro t b s hn x d;cases t with
  |mk k i ty l=>
   rw[Tm.cJ] at hn x;have y:=eG Tm.agl l λt _=>t.db;rw[Tm.eD] at d;simp only[ez,iC] at d
   have loop:∀(us:List Tm) (g:Int) (j:Nat) (v:Bool),(∀t∈us,t∈l)->dP (λ(z:Int) (m:Tm)=>(λ(v28:Bool)=>
      cG (gn n m g (λ(s:Bool) (e:Int) (f:Int)=>kj e f s) v28) λo=>
      some ((.next o):eu Bool Bool))) us j v=some (.inl (v&&us.all (Tm.agp 536870912))):=by
    intro us g
    induction us with
    |nil=>intro j v _;simp|cons t us p=>
     intro j v hm;have c:=hm t aaB;have A:=c6 Tm.agl c;rw[dq,w t g v VW VW (d.2 t c)];simp only[cv,dr];rw[p (j+1) _ (λu hu=>hm u (by simp[hu])),sC,II]
   rw[gn,Tm.dI];have hinv:=Tm.ib (k:=k) (i:=i) (s:=ty) (l:=l) (by rw[Tm.eD];simp only[ez,iC];exact d);simp only[Tm.cZ,Tm.da,Tm.dW,cN,cT (l:=l) VW,cL,cv];have a:=loop l (eH (dm k 2) (dR .i64 b 1) b) 0
   by_cases q:k=1
   ·have r:dm k 1=true:=by rw[q];rfl
    simp only[r,if_true];rw[M4];simp only[cv];rw[a _ (λt h=>h)];simp[II]
   ·have r:dm k 1=false:=by simpa[dm] using q
    have hi:=hinv.2.2.1 q;simp only[r,lU,jC];rw[a _ (λt h=>h)];simp[hi]
def Qx{t:Tm}(a:t.ok=true)(hn:t.agl<=10000000):qf t=some (t.agp 536870912):=by
 unfold qf pq;rw[Jl FU t 0 true (by rw[dp];omega) hn a];simp
def BS:∀(n:Nat) (f:Fm) (b:Int) (s:Bool),f.agl<=n->f.agl<=10000000->f.ok=true->iu n f b (λ(s:Bool) (i:Tm) (m:Int)=>hO i m s) s=some (s&&f.agp 536870912):=by
 intro n
 induction n with
 |zero=>intro f b s h;have:=f.db;omega
 |succ n C=>
  intro f b s hn D E;cases f with
  |mk k ty ts l=>
   rw[Fm.cJ] at hn D;have F:=eG Tm.agl ts λt _=>t.db;have G:=eG Fm.agl l λt _=>t.db;obtain⟨_,o,p⟩:=Fm.mY E
   have one:∀t∈ts,∀(e:Int) (v:Bool),hO t e v=some (v&&t.agp 536870912):=by
    intro t A e v;have q:=c6 Tm.agl A;unfold hO;cases v with
    |true=>simp[Qx (o t A) VW]|false=>simp
   have c:∀(us:List Tm) (j:Nat) (v:Bool),(∀t∈us,t∈ts)->dP (λ(H:Int) (r:Tm)=>(λ(w:Bool)=>
      cG (hO r b w) λx=>
      some ((.next x):eu Bool Bool))) us j v=some (.inl (v&&us.all (Tm.agp 536870912))):=by
    intro us
    induction us with
    |nil=>intro j v _;simp|cons t us d=>
     intro j v hm;rw[dq,one t (hm t aaB)];simp only[cv,dr];rw[d (j+1) _ (λu hu=>hm u (by simp[hu])),sC,II]
   have a:∀(e:Int) (us:List Fm) (j:Nat) (v:Bool),(∀t∈us,t∈l)->dP (λ(I:Int) (y:Fm)=>(λ(v72:Bool)=>
      cG (iu n y e (λ(s:Bool) (i:Tm) (m:Int)=>hO i m s) v72) λz=>
      some ((.next z):eu Bool Bool))) us j v=some (.inl (v&&us.all (Fm.agp 536870912))):=by
    intro e us
    induction us with
    |nil=>intro j v _;simp|cons t us d=>
     intro j v hm;have g:=hm t aaB;have q:=c6 Fm.agl g;rw[dq,C t e v VW VW (p t g)];simp only[cv,dr];rw[d (j+1) _ (λu hu=>hm u (by simp[hu])),sC,II]
   rw[iu,Fm.dI];simp only[Fm.cZ,Fm.da,Fm.eN,cN];rw[cT VW,cL,c ts 0 s (λt h=>h)];simp only[cv,cS];rw[jf,cv]
   by_cases B:gy k=true
   ·rw[cK B,cT VW,cL,a _ l 0 _ (λt h=>h)];simp[II]
   ·rw[cI B,cT VW,cL,a _ l 0 _ (λt h=>h)];simp[II]
def MM{f:Fm}(a:f.ok=true)(hn:f.agl<=10000000):nP f=some (f.agp 536870912):=by
 unfold nP;rw[BS FU f 0 true (by rw[dp];omega) hn a];simp
def NF{g:List Ty}{f:Fm}(h:Hg g f)(hg:g.length<=16):oV f 0 1=some (f.up 0 1,0):=by
 have hn:=h.agl;have hw:=h.wt;unfold oV;rw[fQ VW,cv,h.err,cI nz,cN,show oh 0=some true from rfl,show oh 1=some true from rfl,cv,cv,cK rfl,cK rfl,MM h.ok VW,cv,h.agp hg VW,show m9 true=false from rfl];simp only[lU,jC];rw[lJ h.ok VW (h.agp hg VW) VW VW VW VW,cv]
def Ws{g:List Ty}{f:Fm}(h:Hg g f)(hg:g.length<=16):vL f 0 1=some (f.up 0 1,0):=
 Og (by have:=h.wt;omega) h.err VW VW VW VW (h.agp hg VW)
def vo(p:Pf):eA p=some (decide ((p.agj=8\/p.agj=12)/\p.agk.length=1)):=by
 unfold eA;rw[dz,kS]
 congr 1
 rw[xi];unfold eH
 split
 ·rename_i h;rw[dO] at h;simp only[dO,kn];omega
 ·rename_i h;rw[dO] at h;simp only[ez,dO,kn];omega
def AF(p:Pf):nF p=eA p:=rfl
def va(p:Pf):eA p=some true\/eA p=some false:=by
 rw[vo];cases decide ((p.agj=8\/p.agj=12)/\p.agk.length=1)<;>simp
def yH{p:Pf}(h:eA p=some true):(p.agj=8\/p.agj=12)/\∃q,p.agk=[q]/\q.wt<p.wt:=by
 rw[vo] at h;have h:=M' (gB h);refine⟨h.1,?_⟩;obtain⟨q,a⟩:=Yv.1 h.2;refine⟨q,a,?_⟩;obtain⟨k,i,s,ts,b,l⟩:=p;have a:l=[q]:=a;subst a;rw[Pf.dC];simp only[cU];omega
def pR{k:Int}(a:k=8\/k=12)(i:Int)(s:Ty)(ts:List Tm)(b:List Fm)(q:Pf):eA (.mk k i s ts b [q])=some true:=by
 rw[vo];exact congrArg some (qk ⟨a,rfl⟩)
inductive Mp:Pf->List Bool->Pf->Prop
 |stop {P:Pf}:eA P=some false->Mp P [] P|step {P Q Q':Pf} {b:Bool} {l:List Bool}:eA P=some true->P.agk=[Q]->Mp Q l Q'->Mp P (b::l) (.mk (if b then 12 else 8) 0 P.cO [] [] [Q'])
def Yp(b:Bool):(if b then(12:Int)else 8)=8\/(if b then(12:Int)else 8)=12:=by cases b<;>simp
def Mp.ex:∀(n:Nat) (P:Pf),P.wt<n->∃m,m<=P.wt/\∀l:List Bool,l.length=m->∃d,Mp P l d/\d.wt<=P.wt
 |0,P,h=>by omega|n+1,P,h=>by
  rcases va P with hf|hf
  ·obtain⟨_,Q,c,hw⟩:=yH hf;obtain⟨m,hm,f⟩:=Mp.ex n Q VW;refine⟨m+1,VW,λl e=>?_⟩;cases l with
   |nil=>cases e
   |cons b l=>
    obtain⟨Q',g,j⟩:=f l (by simpa using e);refine⟨_,.step hf c g,?_⟩;obtain⟨k,i,s,ts,o,a⟩:=P;have c:a=[Q]:=c;subst c;rw[Pf.dC,Pf.dC];simp only[cU,Pf.dv];omega
  ·refine⟨0,VW,λl e=>?_⟩;cases l with
   |nil=>exact⟨P,.stop hf,ig _⟩|cons b l=>cases e
def frF:(Int×Int×Int×Int×(List Ty)×(List Tm)×(List Fm)×(List Pf))->Option (eu (Int×Int×Int×Int×(List Ty)×(List Tm)×(List Fm)×(List Pf)) Int):=
 un8 λ(c:Int) (d:Int) (e:Int) (f:Int) (g:List Ty) (h:List Tm) (v85:List Fm) (b:List Pf)=>
  cG (eA (Pf.mk d e (Ty.mk f g) h v85 b)) λi=>
  if i then(
  cG (df b 0) λa=>
  some (.next ((dR .i64 c 1),a.agj,a.agm,a.cO.agj,a.cO.agk,a.dc,a.eo,a.agk)))
  else(some (.vN (c,d,e,f,g,h,v85,b)))
def NI(v:Int)(p:Pf):frF (v,p.agj,p.agm,p.cO.agj,p.cO.agk,p.dc,p.eo,p.agk)=cG (eA p) λx=>if x then cG (df p.agk 0) λq=>some (.next (dR .i64 v 1,q.agj,q.agm,q.cO.agj,q.cO.agk,q.dc,q.eo,q.agk))else some (.vN (v,p.agj,p.agm,p.cO.agj,p.cO.agk,p.dc,p.eo,p.agk)):=by
 obtain⟨k,i,s,ts,c,l⟩:=p;obtain⟨a,b⟩:=s;rfl
def G1{p c:Pf}{l:List Bool}(h:Mp p l c):∀(n:Nat) (v:Int),l.length<n->0<=v->v+l.length<=2000000000->∃s,jb frF n (v,p.agj,p.agm,p.cO.agj,p.cO.agk,p.dc,p.eo,p.agk)=some (.inl s)/\s.1=v+l.length:=by
 induction h with
 |@stop P h=>
  intro n v hn d a;obtain⟨n,rfl⟩:∃m,n=m+1:=⟨n-1,VW⟩;rw[gb,NI,h];exact⟨_,rfl,aaB⟩
 |@step P Q Q' b l h e _ f=>
  intro n v hn d a;obtain⟨n,rfl⟩:∃m,n=m+1:=⟨n-1,VW⟩;simp only[hW] at hn a;rw[gb,NI,h,cv,cK rfl,e,show df [Q] 0=some Q from rfl,cv,cv,dr,ds VW VW];obtain⟨s,hs,he⟩:=f n (v+1) VW VW VW;exact⟨s,hs,by rw[he,hW];omega⟩
def B3{p a:Pf}{l:List Bool}(h:Mp p l a)(b:l.length<=900000000):jJ p=some (l.length:Int)/\vP p=some (l.length:Int):=by
 obtain⟨s,hs,he⟩:=G1 h FU 0 (by rw[dp];omega) VW VW
 have e:jJ p=some s.1:=by
  unfold jJ;rw[cN];show cG (jb frF FU (0,p.agj,p.agm,p.cO.agj,p.cO.agk,p.dc,p.eo,p.agk)) _=_;rw[hs];rfl
 rw[show(0:Int)+l.length=l.length by omega] at he;rw[he] at e;exact⟨e,e⟩
def T4{p:Pf}(h:p.wt<=900000000):∃r,jJ p=some r/\vP p=some r:=by
 obtain⟨m,hm,c⟩:=Mp.ex _ p (Oc _);obtain⟨e,d,_⟩:=c (List.replicate m false) aaB;obtain⟨a,b⟩:=B3 d aaP;exact⟨_,a,b⟩
def CB{G:Int->Option Int}{P d:Pf}{l:List Bool}(h:Mp P l d):∀(n:Nat) (a:Int),l.length<n->0<=a->a+l.length<=1000000000->(∀i b,l[i]?=some b->G (a+(i:Nat))=some (if b then 12 else 8))->
  kG n P a (λ(s:Unit) (e:Int)=>mr (G e) s) ()=some (d,()):=by
 induction h with
 |stop h=>
  intro n a hn _ _ _;obtain⟨n,rfl⟩:∃m,n=m+1:=⟨n-1,VW⟩;rw[kG,h,cv];rfl
 |@step P Q Q' b l h f _ g=>
  intro n a hn k j hG;obtain⟨n,rfl⟩:∃m,n=m+1:=⟨n-1,VW⟩;simp only[hW] at hn j;have g0:=hG 0 b rfl;rw[show a+((0:Nat):Int)=a by omega] at g0
  rw[kG,h,cv,cI aaa,f,show df [Q] 0=some Q from rfl,g0,wc,cH,cv,ds VW VW,g n (a+1) VW VW VW (λi c hi=>by
   have:=hG (i+1) c (by simpa using hi);rw[show a+((i+1:Nat):Int)=a+1+(i:Int) by omega] at this
   exact this),cH]
def back_eq{P a:Pf}{m:Nat}(h:Mp P (List.replicate m false) a)(hm:m<=900000000)(hw:P.wt<=1000000000)(he:P.err=0):mz P=some (a,0)/\r9 P=some (a,0):=by
 have d:∀{l:List Bool} {P a:Pf},Mp P l a->(∀b∈l,b=false)->∀n,l.length<n->q8 n P=some a:=by
  intro l P a h
  induction h with
  |stop h=>
   intro _ n hn;obtain⟨n,rfl⟩:∃m,n=m+1:=⟨n-1,VW⟩;rw[q8,AF,h,cv];rfl
  |@step P Q Q' b l h e _ f=>
   intro c n hn;obtain⟨n,rfl⟩:∃m,n=m+1:=⟨n-1,VW⟩;simp only[hW] at hn;obtain rfl:=c b aaB;rw[q8,AF,h,cv,cK rfl,e,show df [Q] 0=some Q from rfl,cv,f (λb h=>c b (by simp[h])) n VW,cv];rfl
 constructor
 ·unfold mz lP
  rw[rQ hw,cv,he,cI nz,CB (G:=ti) h FU 0 (by rw[dp];simp;omega) VW aaP (λi b hi=>by
   obtain rfl:b=false:=(U6.1 (D8 hi)).2
   rfl),cH]
 ·unfold r9;rw[oz hw,cv,he,cI nz,d h (λb h=>(U6.1 h).2) FU (by rw[dp];simp;omega),cv]
def Vf{P:Pf}(hw:P.wt<=900000000):∃Q e,mz P=some (Q,e)/\r9 P=some (Q,e)/\Q.wt<=900000000:=by
 by_cases he:P.err=0
 ·obtain⟨m,hm,c⟩:=Mp.ex _ P (Oc _);obtain⟨d,f,g⟩:=c (List.replicate m false) aaB;obtain⟨a,b⟩:=back_eq f VW VW he;exact⟨d,0,a,b,VW⟩
 ·refine⟨.mk 0 0 (.mk 0 []) [] [] [],P.err,?_,?_,aaa⟩
  ·unfold mz;rw[rQ VW,cv,cK (by rw[cV];exact he)]
  ·unfold r9;rw[oz VW,cv,cK (by rw[cV];exact he)]
def wa{α:Type}(b:α)(l:List α):tu (b::l) 1 (dn (b::l))=some l:=by
 rw[dz];unfold tu;rw[cK ⟨VW,VW,aaB,aaB⟩];simp
inductive Lc:Fm->List Bool->Fm->Prop
 |nil {f:Fm}:Lc f [] f|cons {k:Int} {s:Ty} {x x':Fm} {b:Bool} {l:List Bool}:k=4\/k=6->Lc x l x'->Lc (.mk k s [] [x]) (b::l) (.mk (if b then 6 else 4) s [] [x'])
def Lc.U2{f d:Fm}{l:List Bool}(h:Lc f l d):d.ok=f.ok/\d.agl=f.agl/\d.has=f.has:=by
 induction h with
 |nil=>exact⟨rfl,rfl,rfl⟩|@cons k s x j b l g _ i=>
  obtain⟨a,c,e⟩:=i;refine⟨?_,?_,?_⟩
  ·rcases g with rfl|rfl<;>cases b<;>simp[Fm.eD,Fm.node,gy,a]
  ·rw[Fm.cJ,Fm.cJ];simp only[cU,c]
  ·rw[Fm.zD,Fm.zD,e];rcases g with rfl|rfl<;>cases b<;>rfl
theorem Lc.err{f c:Fm}{l:List Bool}(h:Lc f l c):c.err=f.err:=by
 obtain⟨a,b,_⟩:=h.U2;unfold Fm.err;rw[a,b]
def X1{f:Fm}(he:f.err=0)(a:f.agj=4\/f.agj=6):∃k s x,f=.mk k s [] [x]/\(k=4\/k=6)/\x.err=0:=by
 obtain⟨b,hn⟩:=Fm.eJ he;obtain⟨k,s,ts,l⟩:=f;have a:k=4\/k=6:=a;rw[Fm.eD] at b
 have c:¬k=1:=VW
 have d:¬(k=2\/k=3):=VW
 simp only[Fm.node,c,d,jC,ez,kn,iC] at b;obtain⟨⟨⟨⟨_,e⟩,g⟩,_⟩,h⟩:=b;obtain rfl:=Oj.1 e;obtain⟨x,rfl⟩:=Yv.1 g;rw[Fm.cJ] at hn;simp only[cU] at hn;exact⟨k,s,x,rfl,a,Fm.qO (h x aaB) VW⟩
def RM(k:Int)(s:Ty)(x:Fm):(Fm.mk k s [] [x]).wt=1+s.agl+x.wt:=by
 rw[Fm.dC];simp only[cU];omega
def zY{f a:Fm}{l:List Bool}(h:Lc f l a):f.err=0->f.wt<=1000000000->∀n,l.length<n->fW n f l=some (a,0)/\rR n f l=some (a,true):=by
 induction h with
 |@nil f=>
  intro he hw n hn;obtain⟨n,rfl⟩:∃m,n=m+1:=⟨n-1,VW⟩;rw[fW,rR,fQ hw,cv,he,cI nz];exact⟨rfl,rfl⟩
 |@cons k s x o b l c h g=>
  intro he hw n hn;obtain⟨n,rfl⟩:∃m,n=m+1:=⟨n-1,VW⟩;simp only[hW] at hn;obtain⟨k2,s2,p,i,_,j⟩:=X1 he c;cases i;rw[RM] at hw;obtain⟨i1,i2⟩:=g j VW n VW
  have d:¬dm (dn (b::l)) 0=true:=by rw[dO,dz,hW];omega
  have e:¬eH (dw k 4) (dw k 6) false=true:=by rcases c with rfl|rfl<;>decide
  constructor
  ·rw[fW,fQ (by rw[RM];omega),cv,he,cI nz,cI d,cI (show¬eH (dw (Fm.mk k s [] [x]).agj 4) (dw (Fm.mk k s [] [x]).agj 6) false=true from e)];simp only[Fm.da,Fm.cZ,Fm.dv];rw[show df [x] 0=some x from rfl,cv,wa,cv,i1,cH,cI nz,show df (b::l) 0=some b from rfl];cases b<;>rfl
  ·rw[rR,cI d,cI (show¬eH (dw (Fm.mk k s [] [x]).agj 4) (dw (Fm.mk k s [] [x]).agj 6) false=true from e)];simp only[Fm.da,Fm.cZ,Fm.dv];rw[show df [x] 0=some x from rfl,cv,wa,cv,i2,cH,show df (b::l) 0=some b from rfl];cases b<;>rfl
def Uo:∀(n:Nat) (f:Fm) (l:List Bool),l.length<n->f.err=0->f.wt<=1000000000->∃x b,rR n f l=some (x,b)/\fW n f l=some (if b then x else .mk 0 (.mk 0 []) [] [],if b then 0 else 10)/\x.wt<=f.wt
 |0,f,l,h,_,_=>by omega|n+1,f,[],h,he,hw=>by
  rw[fW,rR,fQ hw,cv,he,cI nz];exact⟨f,true,rfl,rfl,ig _⟩
 |n+1,f,b::l,h,he,hw=>by
  simp only[hW] at h
  have e:¬dm (dn (b::l)) 0=true:=by rw[dO,dz,hW];omega
  rw[fW,rR,fQ hw,cv,he,cI nz,cI e,cI e]
  by_cases d:f.agj=4\/f.agj=6
  ·obtain⟨k,s,x,rfl,d,i⟩:=X1 he d
   have a:¬eH (dw k 4) (dw k 6) false=true:=by rcases d with rfl|rfl<;>decide
   rw[RM] at hw;obtain⟨y,c,i1,i2,i3⟩:=Uo n x l VW i VW;have g:¬eH (dw (Fm.mk k s [] [x]).agj 4) (dw (Fm.mk k s [] [x]).agj 6) false=true:=a;rw[cI g,cI g];simp only[Fm.da,Fm.cZ,Fm.dv];rw[show df [x] 0=some x from rfl,cv,cv,wa,cv,cv,i1,i2,cH,cH,show df (b::l) 0=some b from rfl];refine⟨.mk (if b then 6 else 4) s [] [y],c,?_,?_,?_⟩
   ·cases b<;>rfl
   ·cases c
    ·rfl
    ·cases b<;>rfl
   ·rw[RM,RM];omega
  ·have a:eH (dw f.agj 4) (dw f.agj 6) false=true:=by
    have a1:dw f.agj 4=true:=by rw[cV];omega
    have a2:dw f.agj 6=true:=by rw[cV];omega
    rw[a1,a2];rfl
   rw[cK a,cK a];refine⟨.mk 0 (.mk 0 []) [] [],false,rfl,rfl,?_⟩
   have j:(Fm.mk 0 (.mk 0 []) [] []).wt=2:=aaa
   have:1+f.cO.agl<=f.wt:=by rw[Fm.FN];omega
   have:=f.cO.db;omega
def VI:(Fm.mk 0 (.mk 0 []) [] []).wt=2:=aaa
def Pd{f:Fm}(l:List Bool)(d:l.length<=900000000)(hw:f.wt<=900000000):∃x e,fW FU f l=some (x,e)/\sQ f l=some (x,e)/\x.wt<=900000000:=by
 by_cases he:f.err=0
 ·obtain⟨x,b,a,c,g⟩:=Uo FU f l (by rw[dp];omega) he VW;refine⟨if b then x else .mk 0 (.mk 0 []) [] [],if b then 0 else 10,c,?_,?_⟩
  ·unfold sQ;rw[g_ VW,cv,he,cI nz,a,cH];cases b<;>rfl
  ·cases b
   ·rw[cI aaa,VI];omega
   ·rw[cK rfl];omega
 ·refine⟨.mk 0 (.mk 0 []) [] [],f.err,?_,?_,by rw[VI];omega⟩
  ·obtain⟨n,hn⟩:∃m,FU=m+1:=⟨999999999,dp⟩;rw[hn,fW,fQ VW,cv,cK (by rw[cV];exact he)]
  ·unfold sQ;rw[g_ VW,cv,cK (by rw[cV];exact he)]
def uz{α:Type}{E:α->α->Option Bool}(L:List α):∀(l:List α) (j:Nat),L.drop j=l->(∀x∈l,E x x=some true)->dP (λ(j:Int) (x:α) (_:Unit)=>cG (df L j) λy=>cG (E x y) λz=>if z then(some (eu.next ()):Option (eu Unit Bool))else some (eu.ret false)) l j ()=some (.inl ())
 |[],j,_,_=>rfl|x::l,j,a,h=>by
  obtain⟨d,b,c⟩:=xo a;rw[dq,e_,b,cv,h x aaB,cv,cK rfl,cv,dr];exact uz L l (j+1) c λy hy=>h y (by simp[hy])
def EH(l:List Tm)(b:l.length<=1000000000)(h:∀x∈l,x.wt<=1000000000):lp l l=some true:=by
 unfold lp
 rw[cI (by simp[dw]),cT b,cL,cN,uz (E:=λx y=>iK FU x y) l l 0 rfl (λx a=>by
  obtain⟨r,c,d⟩:=ra FU x x (by rw[dp];exact h x a) (h x a)
  rw[c,d.2 rfl]),cv,cS]
def E1(l:List Fm)(b:l.length<=1000000000)(h:∀x∈l,x.wt<=1000000000):q7 l l=some true:=by
 unfold q7
 rw[cI (by simp[dw]),cT b,cL,cN,uz (E:=λx y=>k9 FU x y) l l 0 rfl (λx a=>by
  obtain⟨r,c,d⟩:=u7 FU x x (by rw[dp];exact h x a) (h x a)
  rw[c,d.2 rfl]),cv,cS]
def HV{x:Fm}(h:x.wt<=1000000000):k9 FU x x=some true:=by
 obtain⟨r,a,b⟩:=u7 FU x x (by rw[dp];exact h) h;rw[a,b.2 rfl]
def Et:∀(n:Nat) (P:Pf),P.wt<n->P.wt<=1000000000->mP n P P=some true
 |0,P,h,_=>by omega|n+1,.mk k i s ts b l,h,hw=>by
  rw[Pf.dC] at h hw;have c:=Pf.jc l;have d:=Tm.jc ts;have e:=Fm.jc b;rw[mP];simp only[Pf.da,Pf.dW,Pf.dv,Pf.eN,Pf.yJ,Pf.cZ,cN]
  rw[cI (by simp[dw]),cI (by simp[dw]),fv VW,cv,cK (GN s),EH ts VW (λx a=>by have:=c6 Tm.wt a;omega),cv,cK rfl,E1 b VW (λx a=>by have:=c6 Fm.wt a;omega),cv,cK rfl,cI (by simp[dw]),cT VW,cL,uz (E:=λx y=>mP n x y) l l 0 rfl (λx a=>by have:=c6 Pf.wt a;exact Et n x VW VW),cv,cS]
def LD{P:Pf}(h:P.wt<=900000000):mP FU P P=some true:=Et FU P (by rw[dp];omega) VW
def Hu(l:List Bool)(h:l.length<=1000000000):rW l l=some true:=by
 have key:∀(m:List Bool) (j:Nat),l.drop j=m->dP (λ(a:Int) (b:Bool)=>(λ(_:Unit)=>
   cG (df l a) λc=>
   if(We b c) then(
   some (.ret false))
   else(some (.next ())))) m j ()=(some (.inl ()):Option (Unit⊕Bool)):=by
  intro m
  induction m with
  |nil=>intro j _;rfl|cons x m d=>
   intro j e;obtain⟨i,f,g⟩:=xo e;rw[dq,e_,f,cv,cI (by cases x<;>decide),cv,dr];exact d (j+1) g
 unfold rW;rw[cI (by simp[dw]),cT h,cL,cN,key l 0 rfl,cv,cS]
inductive Vd (L:List Fm):List Ty->List Fm->Pf->List Bool->Prop
 |stop {g:List Ty} {hs:List Fm} {P:Pf}:eA P=some false->Vd L g hs P []|step {g:List Ty} {hs:List Fm} {k:Int} {s:Ty} {Q:Pf} {f:Fm} {m:Nat} {l:List Bool}:k=8\/k=12->v_ L ⟨g++[s],hs.map (Fm.up 0 1)⟩->Q.err=0->Q.inf L (g++[s]) (hs.map (Fm.up 0 1))=.inl (f,m)->(k=12->m.testBit 0=false)->Vd L (g++[s]) (hs.map (Fm.up 0 1)) Q l->Vd L g hs (.mk k 0 s [] [] [Q]) ((!m.testBit 0)::l)
def LZ{k:Int}(d:k=8\/k=12){s:Ty}{Q:Pf}(h:(Pf.mk k 0 s [] [] [Q]).err=0):Q.err=0:=by
 obtain⟨a,b,c⟩:=gZ h;rw[Pf.eD] at a;rw[Pf.rH] at b;rw[Pf.cJ] at c;simp only[ez,sC,IT,TC] at a b;simp only[cU] at c;rw[zP a.2 b.2,cK VW]
def Vd.ex{L:List Fm}:∀(n:Nat) (g:List Ty) (hs:List Fm) (P:Pf) (f:Fm) (m:Nat),P.wt<n->v_ L ⟨g,hs⟩->P.err=0->P.inf L g hs=.inl (f,m)->∃l,l.length<=P.wt/\Vd L g hs P l
 |0,_,_,P,_,_,h,_,_,_=>by omega|n+1,g,hs,P,f,m,h,q,he,hi=>by
  rcases va P with hf|hf
  ·obtain⟨b,Q,c,hw⟩:=yH hf;obtain⟨k,i,s,ts,w,a⟩:=P;have c:a=[Q]:=c;subst c;have b:k=8\/k=12:=b;obtain⟨rfl,rfl,rfl,j,Q',c,_⟩:=IS (Pf.My he).1 rfl b
   obtain rfl:Q=Q':=by simpa using c
   obtain⟨o,r,t,p,_,u,_,_⟩:=Cd b hi;have d:=q.L4 j o;have e:=LZ b he;obtain⟨l,x,v⟩:=Vd.ex n _ _ Q r t VW d e p;exact⟨_,by rw[hW];omega,.step b d e p u v⟩
  ·exact⟨[],aaB,.stop hf⟩
def Vd.mp{L:List Fm}{g:List Ty}{hs:List Fm}{P:Pf}{l:List Bool}(h:Vd L g hs P l):∃a,Mp P l a:=by
 induction h with
 |stop h=>exact⟨_,.stop h⟩|step b _ _ _ _ _ c=>
  obtain⟨Q',d⟩:=c;exact⟨_,.step (pR b _ _ _ _ _) rfl d⟩
inductive Le:List Bool->List Bool->Prop
 |nil:Le [] []|cons {a b:Bool} {l m:List Bool}:(a=true->b=true)->Le l m->Le (a::l) (b::m)
def Le.refl:∀l:List Bool,Le l l
 |[]=>.nil|_::l=>.cons id (Le.refl l)
def Vd.inf{L:List Fm}{g:List Ty}{hs:List Fm}{P:Pf}{t:List Bool}(h:Vd L g hs P t):∀{l:List Bool} {a:Pf} {f:Fm} {m:Nat},Le l t->Mp P l a->P.err=0->P.inf L g hs=.inl (f,m)->∃d,Lc f l d/\a.inf L g hs=.inl (d,m)/\a.err=0/\a.agl=P.agl/\a.wt=P.wt/\Vd L g hs a t:=by
 induction h with
 |stop h=>
  intro l a f m e hm he hi;cases e;cases hm;exact⟨f,.nil,hi,he,rfl,rfl,.stop h⟩
 |@step g hs k s Q f0 T t u F i j G _ H=>
  intro l a f m e hm he hi;cases e with
  |@cons b _ l _ y e=>
  cases hm with
  |@step _ I Q' _ _ _ J hm=>
  obtain rfl:Q=I:=by simpa using J
  obtain⟨v,f1,U,z,K,_,M,N⟩:=Cd u hi;rw[j] at z;obtain⟨rfl,rfl⟩:=gE (Lr z);obtain⟨d,O,A,B,C,R,S⟩:=H e hm i j;have c:(if b then(12:Int)else 8)=8\/(if b then(12:Int)else 8)=12:=Yp b
  have n:(if(if b then(12:Int)else 8)=8 then(4:Int)else 6)=if b then 6 else 4:=by cases b<;>rfl
  have o:(if k=8 then(4:Int)else 6)=4\/(if k=8 then(4:Int)else 6)=6:=by rcases u with rfl|rfl<;>decide
  have hF:Lc f (b::l) (.mk (if b then 6 else 4) s [] [d]):=by rw[K];exact .cons o O
  have w:(Fm.mk (if b then 6 else 4) s [] [d]).err=0:=by rw[hF.err];exact M
  have p:=MU (k:=if b then 12 else 8) c v A (λx=>by
   cases b with
   |false=>cases x
   |true=>have:=y rfl;simpa using this) (by rw[n];exact w)
  rw[n] at p
  have r:s.err=0:=by
   obtain⟨_,_,_,q,_⟩:=IS (Pf.My he).1 rfl u;exact q
  have hn:(Pf.mk (if b then 12 else 8) 0 s [] [] [Q']).agl=(Pf.mk k 0 s [] [] [Q]).agl:=by
   rw[Pf.cJ,Pf.cJ];simp only[cU,C]
  refine⟨_,hF,?_,?_,hn,?_,?_⟩
  ·show(Pf.mk (if b then 12 else 8) 0 s [] [] [Q']).inf L g hs=_;rw[p,N];unfold fin;rw[hF.U2.2.2]
  ·show(Pf.mk (if b then 12 else 8) 0 s [] [] [Q']).err=0;have D:=LW u r i;rw[he] at D;have E:=LW c r B;rw[C,<-D] at E;exact E
  ·show(Pf.mk (if b then 12 else 8) 0 s [] [] [Q']).wt=_;rw[Pf.dC,Pf.dC];simp only[cU,R]
  ·refine .step c F B A (λx=>?_) S;cases b with
   |false=>cases x
   |true=>have:=y rfl;simpa using this
def HA{ρ:Type}{l:List Int}{m:Nat}(h:Us l m)(K:Bool->Option ρ):(dj K λj=>if(nW (dn l) 0) then cG (df l 0) λu=>j (dm u 0)else j false)=K (m.testBit 0):=by
 rw[cN];have:=h.has.1;unfold oE at this;rw[cN] at this
 by_cases b:nW (dn l) 0=true
 ·rw[cK b] at this|-;obtain⟨a,c,d⟩:=dJ this;rw[c,cv,gB d]
 ·rw[cI b] at this|-;rw[gB this]
def SF(a0:List Fm):((List Bool)×(List Ty)×(List Fm)×Int×Int×Int×(List Ty)×(List Tm)×(List Fm)×(List Pf))->(Option (eu ((List Bool)×(List Ty)×(List Fm)×Int×Int×Int×(List Ty)×(List Tm)×(List Fm)×(List Pf)) (Pf×(List Bool)×Int))):=
(VU λ(v0:List Bool) (v1:List Ty) (v2:List Fm) (v3:Int) (v4:Int) (v5:Int) (v6:List Ty) (c:List Tm) (d:List Fm) (v9:List Pf)=>
 cG (eA (Pf.mk v3 v4 (Ty.mk v5 v6) c d v9)) λi=>
 if i then(
 dj (λ(v10:List Bool) (v11:List Fm)=>
 cG (df v9 0) λa=>
 some (.next (v10,(eV v1 [(Ty.mk v5 v6)]),v11,a.agj,a.agm,a.cO.agj,a.cO.agk,a.dc,a.eo,a.agk))) λj0=>
 fY (eM v1 [(Ty.mk v5 v6)])<|fY (eg v2)<|dj (λ(m:Int) (j:Fm)=>(λ(v12:List Fm)=>
 cX (oV j 0 1) λe n=>
 fY (eM v12 [e])<|some (.next (eV v12 [e]))):Int->Fm->((List Fm))->(Option (eu ((List Fm)) (Pf×(List Bool)×Int)))) λF0=>
 cG (dP F0 v2 0 []) (fi (λ(v12:List Fm)=>
 cG (df v9 0) λk=>
 cX (jS a0 (Sq.mk (eV v1 [(Ty.mk v5 v6)]) v12) k) λf g=>
 if(dw g 0) then(
 some (.ret ((Pf.mk 0 0 (Ty.mk 0 []) [] [] []),[],g)))
 else(dj (λ(b:Bool)=>
 if(dm v3 12) then(
 fY (eM v0 [true])<|j0 (eV v0 [true]) v12)
 else(fY (eM v0 [(m9 b)])<|j0 (eV v0 [(m9 b)]) v12)) λh=>
 if(nW (dn f.eX) 0) then(
 cG (df f.eX 0) λl=>
 h (dm l 0))
 else(h false))) (λr=>some (.ret r))))
 else(some (.vN (v0,v1,v2,v3,v4,v5,v6,c,d,v9))))
abbrev MkS:Type:=(List Bool)×(List Ty)×(List Fm)×Int×Int×Int×(List Ty)×(List Tm)×(List Fm)×(List Pf)
def QV(free:List Bool)(g:List Ty)(hs:List Fm)(P:Pf):MkS:=(free,g,hs,P.agj,P.agm,P.cO.agj,P.cO.agk,P.dc,P.eo,P.agk)
def Ko{L:List Fm}{g:List Ty}{hs:List Fm}{P:Pf}{l:List Bool}(h:Vd L g hs P l):v_ L ⟨g,hs⟩->P.wt<=1000000000->∀(n:Nat) (free:List Bool),l.length<n->free.length+l.length<=1000000000->∃s:MkS,jb (SF L) n (QV free g hs P)=some (.inl s)/\s.1=free++l:=by
 induction h with
 |@stop g hs P h=>
  intro _ _ n free hn _;obtain⟨n,rfl⟩:∃m,n=m+1:=⟨n-1,VW⟩
  have e:Pf.mk P.agj P.agm (Ty.mk P.cO.agj P.cO.agk) P.dc P.eo P.agk=P:=by obtain⟨k,i,⟨a,b⟩,ts,F,l⟩:=P;rfl
  have d:SF L (QV free g hs P)=some (.vN (QV free g hs P)):=by
   unfold SF QV;rw[FQ,e,h,cv,cI aaa]
  rw[gb,d];exact⟨_,rfl,(zk _).symm⟩
 |@step g hs k s Q f m l A z t u w _ B=>
  intro o hw n free hn hlen;obtain⟨n,rfl⟩:∃m,n=m+1:=⟨n-1,VW⟩;simp only[hW] at hn hlen;rw[Pf.dC] at hw;simp only[cU] at hw;have p:=o.nv;have q:=o.nh;have p:g.length<=16:=p;have q:hs.length<=16:=q;obtain⟨us,C,k2,_⟩:=Mi z (P:=Q) VW t u
  have e:Ty.mk s.agj s.agk=s:=by obtain⟨a,b⟩:=s;rfl
  have r:SF L (free,g,hs,k,0,s.agj,s.agk,[],[],[Q])=some (.next (QV (free++[!m.testBit 0]) (g++[s]) (hs.map (Fm.up 0 1)) Q)):=by
   unfold SF
   rw[FQ,e,pR A,cv,cK rfl,cN,dt aaP,cL,cT VW,cL,cN,fy (Fm.up 0 1) hs 0 [] aaP (λj x v D y=>by
    rw[NF (o.agq x D) p,cH,dt (by simpa using y),cL,eb]),cv,cS,kW,show df [Q] 0=some Q from rfl,cv,eb,C,cH,cI nz]
   simp only[];rw[HA k2]
   by_cases c:k=12
   ·rw[cK (by rw[dO];exact c),dt aaP,cL,eb,cv,w c];rfl
   ·rw[cI (by rw[dO];exact c),dt aaP,cL,eb,cv];rfl
  have d:SF L (QV free g hs (.mk k 0 s [] [] [Q]))=some (.next (QV (free++[!m.testBit 0]) (g++[s]) (hs.map (Fm.up 0 1)) Q)):=r;obtain⟨E,i1,i2⟩:=B z VW n (free++[!m.testBit 0]) VW aaP;rw[gb,d,cv,dr,i1];exact⟨E,rfl,by rw[i2,ry];rfl⟩
def FJ{L:List Fm}{g:List Ty}{hs:List Fm}{P c:Pf}{l:List Bool}{f:Fm}{m:Nat}(h:Vd L g hs P l)(d:v_ L ⟨g,hs⟩)(hw:P.wt<=1000000000)(n:l.length<=900000000)(he:P.err=0)(hi:P.inf L g hs=.inl (f,m))(hm:Mp P l c):jR L ⟨g,hs⟩ P=some (c,l,0):=by
 obtain⟨us,j,_⟩:=Mi d hw he hi;obtain⟨s,i1,i2⟩:=Ko h d hw FU [] (by rw[dp];omega) aaP;obtain⟨fr,s⟩:=s;obtain rfl:fr=l:=i2;have hu:jR L ⟨g,hs⟩ P=cX (jS L ⟨g,hs⟩ P) λx e=>if(dw e 0) then some (.mk 0 0 (.mk 0 []) [] [] [],[],e)else cG (jb (SF L) FU (QV [] g hs P)) (fi (λs:MkS=>cX (lP P (λ(u:Unit) (a:Int)=>mr (mL a s.1) u) ()) λy _=>some (y,s.1,0)) (λr=>some r)):=rfl;rw[hu];unfold lP
 rw[j,cH,cI nz,i1,cv,cS,CB (G:=λa=>mL a fr) hm FU 0 (by rw[dp];omega) VW VW (λi b k=>by
   unfold mL;rw[show(0:Int)+(i:Nat)=(i:Int) by omega,e_,k,cv]
   cases b<;>rfl),cH]
def Sb{g:List Ty}{ρ:Type}(hg:g.length<=16):∀(l p:List Fm) (n:Nat),(∀f∈l,Hg g f)->(p++l).length<=1000000->l.length<n->jb (ρ:=ρ) (nk λ(v117:Int) (a:List Fm)=>
   if(pP v117 (dn (p++l))) then(
   cG (df (p++l) v117) λc=>
   cX (vL c 0 1) λb e=>
   fY (eM a [b])<|some (.next ((dR .i64 v117 1),(eV a [b]))))
   else(some (.vN (v117,a)))) n ((p.length:Int),p.map (Fm.up 0 1))=some (.inl (((p++l).length:Int),(p++l).map (Fm.up 0 1)))
 |[],p,n,h,i,hn=>by
  obtain⟨n,rfl⟩:∃m,n=m+1:=⟨n-1,VW⟩;rw[gb,zk];simp only[nk];rw[cI (by rw[gH,dz];omega)];rfl
 |x::l,p,n,h,i,hn=>by
  obtain⟨n,rfl⟩:∃m,n=m+1:=⟨n-1,VW⟩;simp only[hW] at hn;simp only[qI,hW] at i;have d:=Sb (ρ:=ρ) hg l (p++[x]) n (λf j=>h f (by simp[j])) aaP VW;rw[show p++[x]++l=p++x::l by simp] at d;rw[gb];simp only[nk] at d|-;rw[cK (by rw[gH,dz];simp;omega),e_,show(p++x::l)[p.length]?=some x by simp,cv,Ws (h x aaB) hg,cH,dt aaP,cL,cv,dr,eb,ds VW VW];rw[show((p.length:Int)+1,p.map (Fm.up 0 1)++[x.up 0 1])=(((p++[x]).length:Int),(p++[x]).map (Fm.up 0 1)) by simp];exact d
def Wv{L:List Fm}{g:List Ty}{hs:List Fm}(a:v_ L ⟨g,hs⟩)(s:Ty)(t:Tm)(vars hy:List Tm)(hw:vars.length<=900000000):yG ⟨⟨g,hs⟩,vars,hy⟩ s t=some ⟨⟨g++[s],hs.map (Fm.up 0 1)⟩,vars++[t],hy⟩:=by
 have b:g.length<=16:=a.nv;have c:hs.length<=16:=a.nh;have loop:=Sb (ρ:=eK) b hs [] FU a.agq aaP (by rw[dp];omega);rw[show(([]:List Fm).length:Int)=0 from rfl,show([]:List Fm).map (Fm.up 0 1)=[] from rfl,kW] at loop;unfold yG DB;simp only[];rw[dt aaP,cL,dt aaP,cL,cv,dt aaP,cL,dt aaP,cL,cN,loop,cv,cS];simp only[nk,eb,kW]
def QT:∀(l p:List Int) (n:Nat),(p++l).length<=1000000->l.length<n->jb (λ(a:Int)=>
   if(pP a (dn (p++l))) then(
   cG (df (p++l) a) λb=>
   if(dm b 0) then(
   some (.ret true))
   else(some (.next (dR .i64 a 1))))
   else(some ((.vN a):eu Int Bool))) n (p.length:Int)=some (if 0∈l then .inr true else .inl ((p++l).length:Int))
 |[],p,n,d,hn=>by
  obtain⟨n,rfl⟩:∃m,n=m+1:=⟨n-1,VW⟩;rw[gb,zk,cI (by rw[gH,dz];omega)];rfl
 |x::l,p,n,d,hn=>by
  obtain⟨n,rfl⟩:∃m,n=m+1:=⟨n-1,VW⟩;simp only[hW] at hn;simp only[qI,hW] at d;have e:=QT l (p++[x]) n aaP VW;rw[show p++[x]++l=p++x::l by simp] at e;rw[gb,cK (by rw[gH,dz];simp;omega),e_,show(p++x::l)[p.length]?=some x by simp,cv]
  by_cases c:x=0
  ·subst c;rw[cK (show dm (0:Int) 0=true from rfl),cK aaB];rfl
  ·rw[cI (by rw[dO];exact c),cv,dr,ds VW VW];rw[show(p.length:Int)+1=((p++[x]).length:Int) by simp,e]
   have:(0∈x::l)↔0∈l:=by simp[iL,Ne.symm c]
   simp only[this]
def YE{L:List Fm}{q:Sq}{P:Pf}(h:v_ L q)(b:P.wt<=1000000000)(he:P.err=0){f:Fm}{m:Nat}(hi:P.inf L q.agn q.agq=.inl (f,m)):AD L q P=some (m.testBit 0):=by
 obtain⟨l,c,k2,_⟩:=M3 h b he hi;have e:=k2.len;have loop:=QT l [] FU aaP (by rw[dp];omega);rw[show(([]:List Int).length:Int)=0 from rfl,kW] at loop;unfold AD;rw[c,cH,cN];simp only[];rw[loop,cv];have hm:(0:Int)∈l↔m.testBit 0=true:=k2.mem 0
 by_cases a:(0:Int)∈l
 ·rw[cK a,hm.1 a];rfl
 ·rw[cI a]
  have:m.testBit 0=false:=by
   cases d:m.testBit 0 with
   |false=>rfl|true=>exact absurd (hm.2 d) a
  rw[this];rfl
def Yj{L:List Fm}{g:List Ty}{hs:List Fm}{P:Pf}{l:List Bool}(h:Vd L g hs P l):v_ L ⟨g,hs⟩->P.wt<=1000000000->∀(n:Nat) (vars hy:List Tm) (a:Pf),l.length<n->vars.length+l.length<=900000000->Mp P l a->tQ n L ⟨⟨g,hs⟩,vars,hy⟩ P=some (a,l):=by
 induction h with
 |stop h=>
  intro _ _ n vars hy a hn _ hm;obtain⟨n,rfl⟩:∃m,n=m+1:=⟨n-1,VW⟩;cases hm;rw[tQ,AF,h,cv,cI aaa]
 |@step g hs k s Q f m l i j b c d _ p=>
  intro e hw n vars hy a hn hlen hm;obtain⟨n,rfl⟩:∃m,n=m+1:=⟨n-1,VW⟩;simp only[hW] at hn hlen;rw[Pf.dC] at hw;simp only[cU] at hw;cases hm with
  |@step _ q Q' _ _ _ r hm=>
  obtain rfl:Q=q:=by simpa using r
  rw[tQ,AF,pR i,cv,cK rfl];simp only[Pf.dv,Pf.da,Pf.cZ];rw[Wv e s _ vars hy VW,cv,show df [Q] 0=some Q from rfl,cv,p j VW n (vars++[Tm.mk 0 0 (Ty.mk 0 []) []]) hy Q' VW aaP hm,cH,cN];simp only[];rw[YE j VW b c,cv];cases o:m.testBit 0 with
  |true=>
   have t:k=8:=by
    rcases i with h|h
    ·exact h
    ·rw[d h] at o;cases o
   subst t;rw[cK rfl,dt aaP,cL];rfl
  |false=>
   rw[cI aaa,dt aaP,cL];rfl
def Vr{L:List Fm}{g:List Ty}{hs:List Fm}{P a:Pf}{l:List Bool}{f:Fm}{m:Nat}(h:Vd L g hs P l)(b:v_ L ⟨g,hs⟩)(hw:P.wt<=1000000000)(d:l.length<=900000000)(he:P.err=0)(hi:P.inf L g hs=.inl (f,m))(hm:Mp P l a):tX L ⟨g,hs⟩ P=some (a,l,0):=by
 obtain⟨us,c,_⟩:=M3 b hw he hi;unfold tX;rw[c,cH,cI nz,Yj h b hw FU [] [] a (by rw[dp];omega) aaP hm,cH]
def O8{q:Sq}{P:Pf}(i:XQ [] q)(hw:P.wt<=900000000):∃a l e,jR [] q P=some (a,l,e)/\tX [] q P=some (a,l,e)/\a.wt<=900000000/\l.length<=900000000:=by
 rcases nB i (P:=P) VW with⟨e,he,_,h,k2⟩|⟨f,m,us,b,h,k2,_,_,c,he⟩
 ·refine⟨.mk 0 0 (.mk 0 []) [] [] [],[],e,?_,?_,aaa,aaB⟩
  ·unfold jR;rw[h,cH,cK (by rw[cV];exact he)]
  ·unfold tX;rw[k2,cH,cK (by rw[cV];exact he)]
 ·rw[qK c he] at b;obtain⟨g,hs⟩:=q;obtain⟨l,j,d⟩:=Vd.ex _ g hs P f m (Oc _) c he b;obtain⟨a,hm⟩:=d.mp;obtain⟨_,_,_,_,_,w,_⟩:=d.inf (Le.refl l) hm he b;exact⟨a,l,0,FJ d c VW VW he b hm,Vr d c VW VW he b hm,VW,VW⟩
def zU{α ρ:Type}{F:Int->α->Unit->Option (eu Unit ρ)}:∀(l:List α) (i:Nat),(∀j x,x∈l->F j x ()=some (.next ()))->dP F l i ()=some (.inl ())
 |[],_,_=>rfl|x::l,i,h=>by
  rw[dq,h _ x aaB,cv,dr];exact zU l (i+1) λj y hy=>h j y (by simp[hy])
def Pf.FN(p:Pf):p.wt=1+p.cO.agl+cU Tm.wt p.dc+cU Fm.wt p.eo+cU Pf.wt p.agk:=by cases p;rw[Pf.dC];rfl
def J_:∀(n:Nat) (t:Pf) (m:Int),0<=m->m<=20000->m+1<n->∃r,o9 n t m=some r/\1<=r/\r<=m+2/\(r<=m->r=t.wt):=by
 intro n
 induction n with
 |zero=>intro t m f a g;omega|succ n i=>
  intro t m f a g;rw[o9,dF VW VW];obtain⟨c,j,y,c3,k⟩:=vi FU t.cO (m-1) VW VW (by rw[dp];omega);rw[j];simp only[cN,cv];rw[ds VW VW];obtain⟨l,z,o,A,B,p⟩:=Ax (ρ:=Int) t.dc Tm.wt m 1 (1+c) (nX FU) VW a VW VW VW (λx b d e=>DU FU x b VW VW (by rw[dp];omega));rw[o];simp only[cv,cS,gD];obtain⟨w',C,q1,D,E,q⟩:=Ax (ρ:=Int) t.eo Fm.wt m 1 l (lu FU) VW a VW VW VW (λx b d e=>AN FU x b VW VW (by rw[dp];omega));rw[q1];simp only[cv,cS,gD];obtain⟨s,F,u,k2,v,w⟩:=Ax (ρ:=Int) t.agk Pf.wt m 1 w' (o9 n) VW a VW VW VW (λx b d e=>i x b VW VW VW);rw[u];refine⟨s,rfl,VW,v,λh=>?_⟩;rw[Pf.FN,w h,q VW,p VW,k VW];omega
def IF(v:Int)(l:List Pf)(d:0<=v)(b:v<=40002):∃a,tL (.mk v) l=some (.mk a)/\v<=a/\a<=40002/\(a<=20000->a=v+cU Pf.wt l):=by
 obtain⟨a,g,c,k2,e,f⟩:=L8 (ρ:=eE) l Pf.wt v (o9 FU) d b (λx=>J_ FU x 20000 VW VW (by rw[dp];omega));refine⟨a,?_,k2,e,f⟩;unfold tL;simp only[cN] at c|-;rw[c];rfl
def Hm(d:c9)(hd:d.wf):∃P g d',pd d=some (P,g,d')/\P.wt<=60000000:=by
 unfold pd;obtain⟨x,d1,h1,h2,h3,h4⟩:=gX d hd 4 VW VW;rw[h1,cH,cN]
 obtain⟨o,ho,Q⟩:=rJ (ρ:=Pf×(List Ty)×c9) (F:=PV λ(L:List Ty) (M:Int) (R:c9)=>
   if(nW M 0) then(
   cX (iE FU R 0) λS d75=>
   fY (eM L [S])<|some (.next ((eV L [S]),(ea .i64 M 1),d75)))
   else(some (.vN (L,M,R))))
  (λs=>0<=s.2.1/\(s.1.length:Int)+s.2.1<=3/\(∀t∈s.1,t.err=0/\t.agl<=3)/\s.2.2.wf) (λs=>s.2.1.toNat)
  (λo=>match o with|.inl s=>s.1.length<=3/\(∀t∈s.1,t.err=0/\t.agl<=3)/\s.2.2.wf|.inr _=>False)
  (by
   rintro⟨l,i,e⟩ ⟨i1,i2,i3,i4⟩;simp only at i1 i2 i3 i4
   by_cases hi:0<i
   ·left;obtain⟨s,d3,s1,s2,s3,s4⟩:=Fb i4;refine⟨(l++[s],i-1,d3),?_,⟨?_,?_,?_,s4⟩,?_⟩
    ·simp only[PV,ei,hi,if_true,s1,cH];rw[dt aaP,cL,dF VW VW];rfl
    ·show 0<=i-1;omega
    ·simp;omega
    ·intro f N;rcases rS.1 N with h|h
     ·exact i3 f h
     ·rw[uR] at h;subst h;exact⟨s2,s3⟩
    ·show(i-1).toNat<i.toNat;omega
   ·right;left
    exact⟨(l,i,e),by simp only[PV,ei,hi,jC],by show l.length<=3;omega,i3,i4⟩)
  FU ([],x,d1) ⟨h2,aaP,λf N=>by simp at N,h4⟩ (by show x.toNat<FU;rw[dp];omega)
 rw[ho];cases o with
 |inr r=>exact absurd Q aaB|inl s=>
  obtain⟨g,i,e⟩:=s;obtain⟨q1,T,q3⟩:=Q;have q1:g.length<=3:=q1;have T:∀t∈g,t.err=0/\t.agl<=3:=T;have hm:Mq [] ⟨g,[]⟩:=⟨⟨aaB,λf N=>by simp at N,λs hs=>(T s hs).1,by show g.length<=16;omega,aaB,λf N=>by simp at N⟩,⟨T⟩⟩;obtain⟨P,f,us,d2,m,r1,r2,r3,r4⟩:=Fo hm q3 (k:=2) VW;rw[show((2:Nat):Int)=2 from rfl] at r1;have af:=r4.len;have ah:=r3.wt;rw[cv,cS];simp only[PV];rw[r1,ij,cN];simp only[]
  obtain⟨o,ho,Q⟩:=rJ (ρ:=Pf×(List Ty)×c9) (F:=QQ λ(n:Int) (A:Int) (B:Int) (C:Int) (D:List Ty) (E:List Tm) (G:List Fm) (H:List Pf) (w:c9)=>
    if(rZ n 0) then(
    fY (eg us)<|dj (λ(U:Int) (z:Int)=>(λ(p:Bool)=>
    some (.next (eH p true (dm z (ea .i64 (ea .i64 (dn g) 1) n))))):Int->Int->(Bool)->(Option (eu (Bool) (Pf×(List Ty)×c9)))) λV=>
    cG (dP V us 0 false) (fi (λ(p:Bool)=>
    dj (λ(W:Int) (X:c9)=>
    cG (df g n) λq=>
    some (.next ((ea .i64 n 1),W,0,q.agj,q.agk,[],[],[(Pf.mk A B (Ty.mk C D) E G H)],X))) λI=>
    dj (λ(Y:Bool) (J:c9)=>
    if Y then(
    I 12 J)
    else(I 8 J)) λK=>
    if p then(
    K false w)
    else(cX (fB w 3) λZ aa=>
    K (dm Z 0) aa)) (λr=>some (.ret r))))
    else(some (.vN (n,A,B,C,D,E,G,H,w))))
   (λs=>-1<=s.1/\s.1<g.length/\((Pf.mk s.2.1 s.2.2.1 (Ty.mk s.2.2.2.1 s.2.2.2.2.1) s.2.2.2.2.2.1 s.2.2.2.2.2.2.1 s.2.2.2.2.2.2.2.1).wt:Int)+10*s.1<=50000100/\s.2.2.2.2.2.2.2.2.wf) (λs=>(s.1+1).toNat)
   (λo=>match o with|.inl s=>(Pf.mk s.2.1 s.2.2.1 (Ty.mk s.2.2.2.1 s.2.2.2.2.1) s.2.2.2.2.2.1 s.2.2.2.2.2.2.1 s.2.2.2.2.2.2.2.1).wt<=60000000|.inr _=>False)
   (by
    rintro⟨i,k,j,a,b,ts,O,l,e⟩ ⟨i1,i2,i3,i4⟩;simp only at i1 i2 i3 i4
    by_cases hi:0<=i
    ·left
     obtain⟨v,hv,_⟩:=Fz (ρ:=Pf×(List Ty)×c9) (F:=λ(U:Int) (z:Int)=>(λ(p:Bool)=>
      some (.next (eH p true (dm z (ea .i64 (ea .i64 (dn g) 1) i)))))) (λ_=>True) us 0 false trivial (λk x s _ _=>⟨_,rfl,trivial⟩)
     obtain⟨s,ab,ad⟩:=xY (l:=g) hi i2;have ai:=(T s ad).2
     have fin:∀(c:Int) (e':c9),e'.wf->∃u:Int×Int×Int×Int×(List Ty)×(List Tm)×(List Fm)×(List Pf)×c9,(cG (df g i) λq=>
       (some (.next ((ea .i64 i 1),c,0,q.agj,q.agk,[],[],[(Pf.mk k j (Ty.mk a b) ts O l)],e')):Option (eu (Int×Int×Int×Int×(List Ty)×(List Tm)×(List Fm)×(List Pf)×c9) (Pf×(List Ty)×c9))))=some (.next u)/\(-1<=u.1/\u.1<g.length/\((Pf.mk u.2.1 u.2.2.1 (Ty.mk u.2.2.2.1 u.2.2.2.2.1) u.2.2.2.2.2.1 u.2.2.2.2.2.2.1 u.2.2.2.2.2.2.2.1).wt:Int)+10*u.1<=50000100/\u.2.2.2.2.2.2.2.2.wf)/\(u.1+1).toNat<(i+1).toNat:=by
      intro c e' ae;refine⟨(i-1,c,0,s.agj,s.agk,[],[],[Pf.mk k j (Ty.mk a b) ts O l],e'),?_,⟨?_,?_,?_,ae⟩,?_⟩
      ·rw[ab,cv,dF VW VW]
      ·show-1<=i-1;omega
      ·show i-1<g.length;omega
      ·show((Pf.mk c 0 (Ty.mk s.agj s.agk) [] [] [Pf.mk k j (Ty.mk a b) ts O l]).wt:Int)+10*(i-1)<=50000100;rw[Pf.dC]
       have:(Ty.mk s.agj s.agk).agl=s.agl:=by cases s;rfl
       rw[this];simp only[cU];omega
      ·show(i-1+1).toNat<(i+1).toNat;omega
     simp only[QQ];rw[cK (by rw[fC];exact hi),cT VW,cL,cN,hv,cv,cS,cN,cN];cases v with
     |true=>
      rw[cK rfl];dsimp only;rw[cI aaa];exact fin 8 e i4
     |false=>
      obtain⟨y,d3,y1,_,_,y4⟩:=gX e i4 3 VW VW;rw[cI aaa,y1,cH];dsimp only
      by_cases hy:dm y 0=true
      ·rw[cK hy];exact fin 12 d3 y4
      ·rw[cI hy];exact fin 8 d3 y4
    ·right;left;refine⟨(i,k,j,a,b,ts,O,l,e),by simp only[QQ];rw[cI (by rw[fC];exact hi)],?_⟩;show(Pf.mk k j (Ty.mk a b) ts O l).wt<=60000000
     omega)
   FU (ea .i64 (dn g) 1,P.agj,P.agm,P.cO.agj,P.cO.agk,P.dc,P.eo,P.agk,d2) (by
    rw[dz,dF VW VW];refine⟨by show(-1:Int)<=(g.length:Int)-1;omega,by show(g.length:Int)-1<g.length;omega,?_,r2⟩;show((Pf.mk P.agj P.agm (Ty.mk P.cO.agj P.cO.agk) P.dc P.eo P.agk).wt:Int)+10*((g.length:Int)-1)<=50000100
    have:Pf.mk P.agj P.agm (Ty.mk P.cO.agj P.cO.agk) P.dc P.eo P.agk=P:=by
     obtain⟨k,i,s,ts,O,l⟩:=P;obtain⟨a,b⟩:=s;rfl
    rw[this]
    omega) (by
    show(ea .i64 (dn g) 1+1).toNat<FU;rw[dz,dF VW VW,dp]
    omega)
  rw[ho];cases o with
  |inr r=>exact absurd Q aaB|inl s=>exact⟨_,_,_,rfl,Q⟩
def IN:pg=some true:=by
 have d:gA [Ty.nat]:=λs hs=>by rw[uR.1 hs];exact Ty.ew
 obtain⟨a,e⟩:=I_ (L:=[]) (hs:=[]) (S3 [] .nat) d aaB aaa
 have he:(Pf.mk 8 0 .nat [] [] [.mk 18 0 .z [v0] [] []]).err=0:=aaa
 have hi:(Pf.mk 8 0 .nat [] [] [.mk 18 0 .z [v0] [] []]).inf [] [] []=.inl (.mk 4 .nat [] [.mk 1 .z [v0,v0] []],0):=by
  rw[Pf.CO,DH,iy aaa];have a:(Pf.mk 18 0 .z [v0] [] []).inf [] ([]++[.nat]) (List.map (Fm.up 0 1) [])=.inl (.mk 1 .z [v0,v0] [],0):=a;rw[a,eF,zp aaa];rw[show(Fm.mk 4 .nat [] [.mk 1 .z [v0,v0] []]).has=false by decide];rfl
 have c:v_ [] ⟨[]++[Ty.nat],List.map (Fm.up 0 1) []⟩:=P7.L4 (s:=.nat) Ty.ew aaB
 have f:Vd [] [] [] (Pf.mk 8 0 .nat [] [] [.mk 18 0 .z [v0] [] []]) [true]:=
  Vd.step (m:=0) (l:=[]) (.inl rfl) c e a (λh=>by cases h) (.stop aaa)
 have hm:Mp (Pf.mk 8 0 .nat [] [] [.mk 18 0 .z [v0] [] []]) [true] (Pf.mk 12 0 .nat [] [] [.mk 18 0 .z [v0] [] []]):=
  Mp.step (b:=true) (l:=[]) (pR (.inl rfl) _ _ _ _ _) rfl (.stop aaa)
 have g:Mp (Pf.mk 12 0 .nat [] [] [.mk 18 0 .z [v0] [] []]) (List.replicate 1 false) (Pf.mk 8 0 .nat [] [] [.mk 18 0 .z [v0] [] []]):=
  Mp.step (b:=false) (l:=[]) (pR (.inr rfl) _ _ _ _ _) rfl (.stop aaa)
 have i:=FJ f P7 aaa aaa he hi hm;have k2:=(back_eq g VW aaa aaa).1;have j:=(B3 hm aaa).1;have k:Lc (.mk 4 .nat [] [.mk 1 .z [mb,gu mb] []]) [true] (.mk 6 .nat [] [.mk 1 .z [mb,gu mb] []]):=Lc.cons (b:=true) (.inl rfl) .nil;have n:=(zY k aaa aaa FU (by rw[dp];decide)).1;unfold pg
 rw[show jR [] (Sq.mk [] []) (Pf.mk 8 0 (Ty.mk 1 []) [] [] [(Pf.mk 18 0 (Ty.mk 0 []) [(Tm.mk 1 0 (Ty.mk 0 []) [])] [] [])])=_ from i,ij,k2,cH,LP,cv,show fW FU (Fm.mk 4 (Ty.mk 1 []) [] [Fm.mk 1 .z [mb,gu mb] []]) [true]=_ from n,cH,cN,cK aaa,cK aaa,cK aaa,cK aaa,show df [true] 0=some true from rfl,cv,cK rfl,cK aaa,cK aaa,cK aaa,show jJ (Pf.mk 8 0 (Ty.mk 1 []) [] [] [(Pf.mk 18 0 (Ty.mk 0 []) [(Tm.mk 1 0 (Ty.mk 0 []) [])] [] [])])=_ from j,cv]
 rfl
def J8(a0:List Int)(a1:Pf)(a2:Sq)(a3:Fm)(a4:List Bool):sn a0 a1 a2 a3 a4=some true:=by
 unfold sn;refine lx (G:=λo=>o=some true) (λa=>a=false->a0.length<=500/\a1.wt<=1000000/\XQ [] a2/\a3.wt<=1000000/\a4.length<=30) ?_ ?_
 ·intro a F;cases a with
  |true=>simp[IN]|false=>
   obtain⟨k,hp,H,d,hb⟩:=F rfl;simp only[lU,jC];obtain⟨P,g,d',I,p2⟩:=Hm ⟨a0,0⟩ (S2 a0 VW);rw[show Ml a0=some ⟨a0,0⟩from rfl,cv,I,ij,cN,cT aaB,cL,cN];rw[zU [a1,P] 0 (λj x i=>?_),cv,cS]
   ·obtain⟨P',own,e,m1,J,_,K⟩:=O8 (q:=⟨[],[]⟩) P7.b (P:=P) VW
    have m:∃X e,gl [] ⟨[],[]⟩ P=some (X,e)/\X.cR.wt<=1000000:=by
     rcases qS P7 (P:=P) VW with⟨e,_,n⟩|⟨f,l,n,hg⟩
     ·exact⟨_,e,n,by show eL.wt<=1000000;decide⟩
     ·exact⟨_,0,n,by have:=hg.wt;show f.wt<=1000000;omega⟩
    obtain⟨X,e',i1,i2⟩:=m;rw[i1,cH,J,ij,cN,cT aaB,cL,cN,zU [a3,X.cR] 0 (λj x i=>?_)]
    ·rfl
    ·have s:x.wt<=1000000:=by
      simp only[iL,pt,mQ] at i;rcases i with rfl|rfl
      ·exact d
      ·exact i2
     rw[cN,cT aaB,cL,cN,zU [a4,own,[]] 0 (λj y hy=>?_)]
     ·rfl
     ·have A:y.length<=900000000:=by
       simp only[iL,pt,mQ] at hy;rcases hy with rfl|rfl|rfl
       ·omega
       ·exact K
       ·simp
      obtain⟨z,D,L,z2,z3⟩:=Pd (f:=x) y A VW;rw[L,cH,z2,cH,cN,cI (by simp[dw]),HV VW,cv];rfl
   ·have s:x.wt<=60000000:=by
     simp only[iL,pt,mQ] at i;rcases i with rfl|rfl
     ·omega
     ·omega
    obtain⟨r,f1,f2⟩:=T4 (p:=x) VW;obtain⟨B,D,M,N,O⟩:=Vf (P:=x) VW;rw[f1,cv,f2,cv,cI (by simp[dw]),cN,cT aaB,cL,cN,zU [a2,Sq.mk [] []] 0 (λj y hy=>?_),cv,cS,M,cH,N,cH,cN,cI (by simp[dw]),LD O,cv]
    ·rfl
    ·have C:XQ [] y:=by
      simp only[iL,pt,mQ] at hy;rcases hy with rfl|rfl
      ·exact H
      ·exact P7.b
     obtain⟨Q,l,R,S,k2,T,k4⟩:=O8 C (P:=x) VW;rw[S,ij,k2,ij,cN,cI (by simp[dw]),Hu l VW,cv,cK rfl,LD T,cv];rfl
 ·intro j E;have c:j true=some true:=E true (λh=>by cases h);rw[IN,cv,cK rfl,JK,cv]
  by_cases k:a0.length<=500
  ·rw[cK (qk k)];obtain⟨t,t1,t2,t3,t4⟩:=IF 0 [a1] VW VW;obtain⟨u,u1,u2,u3,u4⟩:=Kh t a2.agn VW VW;obtain⟨v,v1,v2,v3,v4⟩:=zb u a2.agq VW VW;obtain⟨w,U,w2,w3,V⟩:=zb v [a3] VW VW;simp only[DO,t1,cv,um,u1,v1,U,n9]
   by_cases hw:w<=20000
   ·rw[cK (by rw[r'];exact hw)]
    by_cases h4:a2.agn.length<=40
    ·rw[cI (by simp[nW];omega)]
     by_cases h5:a2.agq.length<=30
     ·rw[cI (by simp[nW];omega)];refine E _ λh=>?_
      have h6:(a4.length:Int)<=30:=by simpa[nW] using h
      have W:=t4 VW;have D:=u4 VW;have R:=v4 VW;have Y:=V VW;simp only[cU] at W Y;exact⟨k,VW,⟨λf d=>by simp at d,λt Z=>by have:=c6 Ty.agl Z;omega,VW,λf d=>by have:=c6 Fm.wt d;omega⟩,VW,VW⟩
     ·rw[cK (by simp[nW];omega)];exact c
    ·rw[cK (by simp[nW];omega)];exact c
   ·rw[cI (by rw[r'];exact hw)];exact c
  ·rw[cI (by simpa using k)];exact c
end Go.ek
