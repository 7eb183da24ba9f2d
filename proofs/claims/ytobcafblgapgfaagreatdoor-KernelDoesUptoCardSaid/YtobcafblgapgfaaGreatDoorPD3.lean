/- Part of the proof of KernelDoes: plain facts. -/
import Derived.Test.YtobcafblgapgfaaGreatDoorPD2
set_option linter.all false
namespace Go.fB
open Go
structure TR (d d':c0) (s:Bool) (n:Nat):Prop where
 lo:d.acU<=d'.acU
 hi:d'.acU<=d.acU+n
 eq:s=true->d'.acU=d.acU+n
 gJ:d'.gJ=(d.gJ||!s)
def TR.trans{d c a:c0}{s e:Bool}{n n':Nat}(h:TR d c s n)(b:TR c a e n'):TR d a (s&&e) (n+n'):=by
 refine⟨by have:=h.lo;have:=b.lo;omega,by have:=h.hi;have:=b.hi;omega,λhs=>?_,?_⟩
 ·rw[ft] at hs;have:=h.eq hs.1;have:=b.eq hs.2;omega
 ·rw[b.gJ,h.gJ,Bool.not_and,Bool.or_assoc]
def xn{α:Type}{F:Int->α->c0->Option (eL c0 (Bool×c0))}(ok small:α->Bool)(sz:α->Nat):∀(l:List α) (i:Nat) (d:c0),0<=d.acU->d.acU+c_ sz l<=4000000000->(∀(j:Int) (x:α) (d:c0),x∈l->0<=d.acU->d.acU+sz x<=4000000000->if ok x then∃a,F j x d=some (.next a)/\TR d a (small x) (sz x)else∃a,F j x d=some (.ret (false,a)))->if l.all ok then∃a,dN F l i d=some (.inl a)/\TR d a (l.all small) (c_ sz l)else∃a,dN F l i d=some (.inr (false,a))
 |[],i,d,_,_,_=>⟨d,rfl,⟨VW,by simp[c_],λ_=>by simp[c_],aa4⟩⟩|x::l,i,d,m,n,h=>by
  simp only[c_] at n;have b:=h i x d aa4 m VW;rw[AX]
  by_cases c:ok x=true
  ·rw[cO c] at b;obtain⟨d1,e,f⟩:=b;have g:=xn ok small sz l (i+1) d1 (by have:=f.lo;omega) (by have:=f.hi;omega) (λj y d hy=>h j y d (by simp[hy]));rw[dJ,e];simp only[cH,dW,c_]
   by_cases k:l.all ok=true
   ·rw[cO k] at g;obtain⟨d2,o,p⟩:=g;rw[cO (by rw[ft];exact⟨c,k⟩)];exact⟨d2,o,f.trans p⟩
   ·grind
  ·rw[cK c] at b;obtain⟨d1,e⟩:=b;rw[cK (by rw[ft];exactλh=>c h.1),dJ,e];exact⟨d1,rfl⟩
def I5{d:c0}{n e:Int}(h1:-1000000000000<=d.acU+n)(a:d.acU+n<=1000000000000):gf d n e=some (dw e 2,⟨d.acU+n,d.gJ||dg e 4⟩):=by
 unfold gf;rw[dI VW VW];cases d.gJ<;>rfl
def Tm.Dp(t:Tm):t.err=2/\t.ok=false\/t.ok=true/\PY t=true/\t.err=0\/t.ok=true/\PY t=false/\t.err=4:=by
 unfold Tm.err PY;cases h:t.ok with
 |false=>grind|true=>grind
def Fm.Dp(t:Fm):t.err=2/\t.ok=false\/t.ok=true/\SO t=true/\t.err=0\/t.ok=true/\SO t=false/\t.err=4:=by
 unfold Fm.err SO;cases h:t.ok with
 |false=>grind|true=>grind
def Fx{sz:Nat}{e:Int}{ok small:Bool}(c:e=2/\ok=false\/ok=true/\small=true/\e=0\/ok=true/\small=false/\e=4)(hs:sz<=1000000000){d:c0}(f:0<=d.acU)(h1:d.acU+sz<=4000000000):if ok then∃b,(cT (gf d (if e=0 then(sz:Int)else 0) e) λa d179=>if a then some (.next d179)else some ((.ret (false,d179)):eL c0 (Bool×c0)))=some (.next b)/\TR d b small sz else∃b,(cT (gf d (if e=0 then(sz:Int)else 0) e) λa d179=>if a then some (.next d179)else some ((.ret (false,d179)):eL c0 (Bool×c0)))=some (.ret (false,b)):=by
 rcases c with⟨rfl,rfl⟩|⟨rfl,rfl,rfl⟩|⟨rfl,rfl,rfl⟩
 ·exact⟨_,rfl⟩
 ·rw[cO rfl,cO rfl,I5 VW VW,cJ,cO aaK];refine⟨_,rfl,⟨?_,?_,λ_=>rfl,?_⟩⟩
  all_goals grind[dg]
 ·rw[cO rfl,cK aaK,I5 VW VW,cJ,cO aaK];refine⟨_,rfl,⟨?_,?_,λh=>by(cases h),?_⟩⟩
  all_goals grind[dg]
def Gj{f:Bool}{i a b c d nf e:Int}:eu true (eu (qj i 0) true (eu (dw i 0) (eu f (eu (dw d a) true (eu (dw nf b) true (dw e c))) true) (eu (dw d a) true (eu (dw nf b) true (dw e c))))) true=true↔¬(d=a/\nf=b/\e=c/\0<=i/\(f=true\/i=0)):=by
 grind[BY,lN,dw,zF,ki]
def Gc{d:Bool}{i a b c e nf f:Int}:eu true (eu (dw e a) true (eu (dw nf b) true (eu (dw f c) true (eu (qj i 0) true (eu d false (dw i 0)))))) true=true↔¬(e=a/\nf=b/\f=c/\0<=i/\(d=true\/i=0)):=by
 cases d with
 |true=>
  grind[BY,lN,ki,da]
 |false=>grind[BY,zF,lN,ki,da]
def Qx(ty:Bool)(s:Ty):Bool:=if ty then decide (s.err=0)else s.rq
theorem Fh{k i:Int}{s:Ty}{d nf e:Nat}{f ty:Bool}{a b c:Nat}(hs:Pf.sig k=some (f,ty,a,b,c)):Pf.node k i s d nf e=true↔((d:Int)=a/\(nf:Int)=b/\(e:Int)=c/\0<=i/\(f=true\/i=0))/\Qx ty s=true:=by
 grind[Pf.node,Qx]
def TG(d:c0)(A s:Bool)(n:Nat)(o:Option (Bool×c0)):Prop:=(A=true->∃a,o=some (true,a)/\TR d a s n)/\(A=false->∃a,o=some (false,a))
theorem TG.no{d a:c0}{A s:Bool}{n:Nat}(h:A=false):TG d A s n (some (false,a)):=⟨λb=>(by rw[h] at b;cases b),λ_=>⟨a,rfl⟩⟩
def PB(n:Nat)(d:c0)(k i:Int)(s:Ty)(ts:List Tm)(g:List Fm)(l:List Pf):gR (n+1) d (.mk k i s ts g l)=(cT (o9 k) λe G=>
 if(eu G (eu (qj i 0) true (eu (dw i 0) (eu e.acV (eu (dw (di ts) e.c9) true (eu (dw (di g) e.dV) true (dw (di l) e.acT))) true) (eu (dw (di ts) e.c9) true (eu (dw (di g) e.dV) true (dw (di l) e.acT))))) true) then(
 some (false,d))
 else(df (λ(A:c0)=>
 fD (dK ts)<|df (λ(H:Int) (B:Tm)=>(λ(a:c0)=>
 cT (jB B) λh j=>
 cT (gf a h j) λm d179=>
 if m then(
 some (.next d179))
 else(some (.ret (false,d179)))):Int->Tm->(c0)->(Option (eL (c0) (Bool×c0)))) λo=>
 cI (dN o ts 0 A) (eG (λ(a:c0)=>
 fD (dK g)<|df (λ(E:Int) (p:Fm)=>(λ(b:c0)=>
 cT (hB p) λq t=>
 cT (gf b q t) λu d322=>
 if u then(
 some (.next d322))
 else(some (.ret (false,d322)))):Int->Fm->(c0)->(Option (eL (c0) (Bool×c0)))) λv=>
 cI (dN v g 0 a) (eG (λ(b:c0)=>
 fD (dK l)<|df (λ(F:Int) (w:Pf)=>(λ(c:c0)=>
 cT (gR n c w) λx f=>
 if x then(
 some (.next f))
 else(some (.ret (false,f)))):Int->Pf->(c0)->(Option (eL (c0) (Bool×c0)))) λy=>
 cI (dN y l 0 b) (eG (λ(c:c0)=>
 some (true,c)) (λr=>some r))) (λr=>some r))) (λr=>some r))) λz=>
 if e.typed then(
 cT (ir s) λI C=>
 if(dw C 0) then(
 some (false,(c0.mk (dF .i64 d.acU 1) d.gJ)))
 else(z (c0.mk (dF .i64 d.acU 1) d.gJ)))
 else(cI (nN s) λD=>
 if D then(
 z (c0.mk (dF .i64 d.acU 1) d.gJ))
 else(some (false,(c0.mk (dF .i64 d.acU 1) d.gJ)))))):=by
 rw[gR];rfl
def Ry:∀(n:Nat) (P:Pf) (d:c0),P.wt<=n->P.wt<=1000000000->0<=d.acU->d.acU+P.acU<=4000000000->TG d P.ok P.small P.acU (gR n d P):=by
 intro n
 induction n with
 |zero=>intro P d h;have:=P.gX;omega
 |succ n ih=>
  intro P d hn hb h0 hd;cases P with
  |mk k i s ts p l=>
   rw[Pf.ea] at hn hb;rw[Pf.cN] at hd|-;have aa:=gk Tm.wt ts λt _=>t.gX;have ab:=gk Fm.wt p λt _=>t.gX;have ad:=gk Pf.wt l λt _=>t.gX;have m1:=jK (l:=ts) (λx _=>Tm.gC x);have m2:=jK (l:=p) (λx _=>Fm.gC x);have m3:=jK (l:=l) (λx _=>Pf.gC x);rw[Pf.fV,Pf.CJ,PB];rcases Qd k with⟨I,r,K⟩|⟨ix,ty,a,b,c,r,I,K,g1,g2,g3,g4,g5⟩
   ·rw[K,cJ,zF,cO rfl];exact TG.no (by simp[Pf.node,I])
   ·rw[K,cJ,g1,g2,g3,g4,g5,ej,ej,ej]
    by_cases J:(ts.length:Int)=a/\(p.length:Int)=b/\(l.length:Int)=c/\0<=i/\(ix=true\/i=0)
    ·rw[cK (λh=>Gj.1 h J)]
     have q:Pf.node k i s ts.length p.length l.length=Qx ty s:=by
      rw[DQ,Fh I];exact⟨λh=>h.2,λh=>⟨J,h⟩⟩
     rw[q];cases f:Qx ty s with
     |false=>
      have e:∀j:c0->Option (Bool×c0),(if ty then cT (ir s) λae L=>if(dw L 0) then some (false,(c0.mk (dF .i64 d.acU 1) d.gJ))else j (c0.mk (dF .i64 d.acU 1) d.gJ)else cI (nN s) λM=>if M then j (c0.mk (dF .i64 d.acU 1) d.gJ)else some (false,(c0.mk (dF .i64 d.acU 1) d.gJ)))=some (false,(c0.mk (dF .i64 d.acU 1) d.gJ)):=by grind[Qx,dw,da,kM,cJ,rR,cH]
      refine rk (λ_=>False) (λ_ h=>h.elim) (λj _=>?_);rw[e j];exact TG.no aa4
     |true=>
      refine rk (λd1=>d1.acU=d.acU+1/\d1.gJ=d.gJ) (λd1 g=>?_) (λj hj=>?_)
      ·have t1:=xn (F:=λ(af:Int) (N:Tm)=>(λ(u:c0)=>cT (jB N) λv w=>cT (gf u v w) λy d179=>if y then some (.next d179)else some (.ret (false,d179)))) Tm.ok PY Tm.acU ts 0 d1 VW VW (λj x d m q0 q1=>by
        have:=dh Tm.wt m;have:=x.gC;rw[rW VW,cJ]
        exact Fx x.Dp VW q0 q1)
       rw[db VW,cX,c6];cases a1:ts.all Tm.ok with
       |false=>
        rw[a1,cK aaK] at t1;obtain⟨d2,O⟩:=t1;rw[O,cH,pK];exact TG.no aa4
       |true=>
        rw[a1,cO rfl] at t1;obtain⟨d2,O,Q⟩:=t1;have u1:=Q.lo;have u2:=Q.hi;rw[O,cH,cU,db VW,cX,c6]
        have t2:=xn (F:=λ(W:Int) (z:Fm)=>(λ(A:c0)=>cT (hB z) λB C=>cT (gf A B C) λD d322=>if D then some (.next d322)else some (.ret (false,d322)))) Fm.ok SO Fm.acU p 0 d2 VW VW (λj x d m q0 q1=>by
         have:=dh Fm.wt m;have:=x.gC;rw[pN VW,cJ]
         exact Fx x.Dp VW q0 q1)
        cases a2:p.all Fm.ok with
        |false=>
         rw[a2,cK aaK] at t2;obtain⟨d3,R⟩:=t2;rw[R,cH,pK];exact TG.no aa4
        |true=>
         rw[a2,cO rfl] at t2;obtain⟨d3,R,S⟩:=t2;have u3:=S.lo;have u4:=S.hi;rw[R,cH,cU,db VW,cX,c6]
         have t3:=xn (F:=λ(X:Int) (E:Pf)=>(λ(G:c0)=>cT (gR n G E) λH o=>if H then some (.next o)else some (.ret (false,o)))) Pf.ok Pf.small Pf.acU l 0 d3 VW VW (λj x d m q0 q1=>by
          have:=dh Pf.wt m;have:=dh Pf.acU m;have:=x.gC;have m:=ih x d VW VW q0 VW;cases Y:x.ok with
          |true=>
           obtain⟨T,U,w2⟩:=m.1 Y;rw[cO rfl,U,cJ,cO rfl];exact⟨T,rfl,w2⟩
          |false=>
           obtain⟨T,U⟩:=m.2 Y;rw[cK aaK,U,cJ,cK aaK]
           exact⟨T,rfl⟩)
         cases a3:l.all Pf.ok with
         |false=>
          rw[a3,cK aaK] at t3;obtain⟨d4,V⟩:=t3;rw[V,cH,pK];exact TG.no aa4
         |true=>
          rw[a3,cO rfl] at t3;obtain⟨d4,V,r4⟩:=t3;rw[V,cH,cU];refine⟨λ_=>⟨d4,rfl,?_⟩,λh=>by simp at h⟩;have r0:TR d d1 true 1:=⟨VW,VW,λ_=>by omega,by simp[g.2]⟩;have:=((r0.trans Q).trans S).trans r4;rw[Ai] at this;exact this
      ·have g:=hj (c0.mk (dF .i64 d.acU 1) d.gJ) ⟨by show dF .i64 d.acU 1=_;rw[dI VW VW],rfl⟩;unfold Qx at f
       by_cases Z:ty=true
       ·rw[cO Z] at f|-
        have hz:¬dw s.err 0=true:=by rw[da];simpa using f
        rw[kM VW,cJ,cK hz];exact g
       ·rw[cK Z] at f|-;rw[rR,cH,f,cO rfl];exact g
    ·rw[cO (Gj.2 J)];refine TG.no ?_
     have:Pf.node k i s ts.length p.length l.length=false:=by
      rw[UO]
      exactλh=>J ((Fh I).1 h).1
     rw[this];simp
def F9{P:Pf}(h:P.wt<=1000000000):ta P=some P.err:=by
 have hn:=P.gC;have b:=Ry FU P (c0.mk 0 false) (by rw[dO];omega) h (by show(0:Int)<=0;omega) (by show(0:Int)+_<=_;omega);unfold ta qG Pf.err;cases c:P.ok with
 |false=>
  obtain⟨a,e⟩:=b.2 c
  grind[cJ]
 |true=>
  obtain⟨a,e,r⟩:=b.1 c;rw[e,cJ,cO rfl,cO rfl];have d:a.gJ=!P.small:=r.gJ;rw[d,lN];cases hs:P.small with
  |false=>grind[cJ]|true=>
   have f:a.acU=(0:Int)+P.acU:=r.eq hs
   grind[eV,cJ]
def PO(n:Nat)(k i:Int)(s:Ty)(ts:List Tm)(h:List Fm)(l:List Pf):nO (n+1) (.mk k i s ts h l)=(cT (px k) λb w=>
 if(eu w (eu (dw (di ts) b.c9) true (eu (dw (di h) b.dV) true (eu (dw (di l) b.acT) true (eu (qj i 0) true (eu b.acV false (dw i 0)))))) true) then(
 some false)
 else(df (λ(j:Bool)=>
 if j then(
 some false)
 else(fD (dK ts)<|df (λ(x:Int) (m:Tm)=>(λ(_:Unit)=>
 cI (jR FU m) λo=>
 if o then(
 some (.next ()))
 else(some (.ret false))):Int->Tm->(Unit)->(Option (eL (Unit) (Bool)))) λp=>
 cI (dN p ts 0 ()) (eG (λ(_:Unit)=>
 fD (dK h)<|df (λ(y:Int) (q:Fm)=>(λ(_:Unit)=>
 cI (lv FU q) λc=>
 if c then(
 some (.next ()))
 else(some (.ret false))):Int->Fm->(Unit)->(Option (eL (Unit) (Bool)))) λd=>
 cI (dN d h 0 ()) (eG (λ(_:Unit)=>
 fD (dK l)<|df (λ(v:Int) (e:Pf)=>(λ(_:Unit)=>
 cI (nO n e) λf=>
 if f then(
 some (.next ()))
 else(some (.ret false))):Int->Pf->(Unit)->(Option (eL (Unit) (Bool)))) λg=>
 cI (dN g l 0 ()) (eG (λ(_:Unit)=>
 some true) (λr=>some r))) (λr=>some r))) (λr=>some r)))) λa=>
 if b.o0 then(
 cI (ig s) λt=>
 if(dw t 0) then(
 a true)
 else(a false))
 else(cI (pg s) λu=>
 a (qf u)))):=by
 rw[nO];rfl
def Gy:∀(n:Nat) (P:Pf),P.wt<=n->P.wt<=1000000000->nO n P=some P.ok:=by
 intro n
 induction n with
 |zero=>intro P h;have:=P.gX;omega
 |succ n w=>
  intro P hn y;cases P with
  |mk k i s ts f l=>
   rw[Pf.ea] at hn y;have z:=gk Tm.wt ts λt _=>t.gX;have A:=gk Fm.wt f λt _=>t.gX;have B:=gk Pf.wt l λt _=>t.gX;rw[Pf.fV,PO];rcases MN k with⟨p,r,q⟩|⟨C,ty,a,b,c,r,p,q,g1,g2,g3,g4,g5⟩
   ·rw[q,cJ,zF,cO rfl];simp[Pf.node,p]
   ·rw[q,cJ,g1,g2,g3,g4,g5,ej,ej,ej]
    by_cases u:(ts.length:Int)=a/\(f.length:Int)=b/\(l.length:Int)=c/\0<=i/\(C=true\/i=0)
    ·rw[cK (λh=>Gc.1 h u)]
     have e:Pf.node k i s ts.length f.length l.length=Qx ty s:=by
      rw[DQ,Fh p];exact⟨λh=>h.2,λh=>⟨u,h⟩⟩
     rw[e];refine rk (G:=λo=>o=some (Qx ty s&&ts.all Tm.ok&&f.all Fm.ok&&l.all Pf.ok)) (λv=>v=!Qx ty s) (λv D=>?_) (λj E=>?_)
     ·rw[D];cases Qx ty s with
      |false=>rfl|true=>
       rw[cK aaK,db VW,cX,c6,qI Tm.ok false ts 0 (λj x m=>by
        have:=dh Tm.wt m
        rw[xz VW,cH]),Ai]
       cases ts.all Tm.ok with
       |false=>rfl|true=>
        rw[cO rfl,cH,cU,db VW,cX,c6,qI Fm.ok false f 0 (λj x m=>by
         have:=dh Fm.wt m
         rw[y' FU x (by rw[dO];omega) VW,cH]),Ai]
        cases f.all Fm.ok with
        |false=>rfl|true=>
         rw[cO rfl,cH,cU,db VW,cX,c6,qI Pf.ok false l 0 (λj x m=>by
          have:=dh Pf.wt m
          rw[w x VW VW,cH]),Ai]
         cases l.all Pf.ok with
         |false=>rfl|true=>rfl
     ·have d:=E (!Qx ty s) rfl;unfold Qx at d|-
      by_cases g:ty=true
      ·rw[cO g] at d;rw[cO g,cO g,lO VW,cH]
       grind[dw,da]
      ·rw[cK g] at d;rw[cK g,cK g,vY,cH,U0];exact d
    ·rw[cO (Gc.2 u)]
     grind[Pf.node,Fh]
def zi:∀(n:Nat) (P:Pf),P.wt<=n->P.wt<=1000000000->ra n P=some P.small:=by
 intro n
 induction n with
 |zero=>intro P h;have:=P.gX;omega
 |succ n c=>
  intro P hn d;cases P with
  |mk k i s ts b l=>
   rw[Pf.ea] at hn d;have e:=gk Tm.wt ts λt _=>t.gX;have f:=gk Fm.wt b λt _=>t.gX;have g:=gk Pf.wt l λt _=>t.gX;rw[Pf.CJ,ra];simp only[Pf.fU,Pf.Cg,Pf.dd,c6]
   rw[db VW,cX,qI PY false ts 0 (λj x a=>by
    have:=dh Tm.wt a;have:=x.gC;rw[nr FU x (by rw[dO];omega) VW,cH]
    by_cases hs:x.acU<=4096
    ·grind[eV,PY]
    ·rw[cO (by rw[eV];omega),cK (by simpa[PY] using hs)])]
   cases ts.all PY with
   |false=>rfl|true=>
    rw[cO rfl,cH,cU,db VW,cX,qI SO false b 0 (λj x a=>by
     have:=dh Fm.wt a;have:=x.gC;rw[rF FU x (by rw[dO];omega) VW,cH]
     by_cases hs:x.acU<=4096
     ·rw[cK (by rw[eV];omega),cO (show SO x=true from xa hs)]
     ·rw[cO (by rw[eV];omega),cK (by simpa[SO] using hs)]),Ai]
    cases b.all SO with
    |false=>rfl|true=>
     rw[cO rfl,cH,cU,db VW,cX,qI Pf.small false l 0 (λj x a=>by
      have:=dh Pf.wt a
      rw[c x VW VW,cH]),Ai]
     cases l.all Pf.small with
     |false=>rfl|true=>rfl
theorem yw:∀(n:Nat) (P:Pf),P.wt<=n->P.wt<=1000000000->rb n P=some (P.acU:Int):=by
 intro n
 induction n with
 |zero=>intro P h;have:=P.gX;omega
 |succ n c=>
  intro P hn d;cases P with
  |mk k i s ts b l=>
   rw[Pf.ea] at hn d;have e:=gk Tm.wt ts λt _=>t.gX;have f:=gk Fm.wt b λt _=>t.gX;have g:=gk Pf.wt l λt _=>t.gX;have m:=jK (l:=ts) (λx _=>Tm.gC x);have o:=jK (l:=b) (λx _=>Fm.gC x);have p:=jK (l:=l) (λx _=>Pf.gC x);rw[Pf.cN,rb];simp only[Pf.fU,Pf.Cg,Pf.dd,c6]
   rw[db VW,cX,show(1:Int)=((1:Nat):Int)from rfl,pG Tm.acU ts 0 1 VW (λj x v a=>by
    have:=dh Tm.wt a;have:=x.gC
    rw[nr FU x (by rw[dO];omega) VW,cH]),cH,cU,db VW,cX,pG Fm.acU b 0 _ VW (λj x v a=>by
    have:=dh Fm.wt a;have:=x.gC
    rw[rF FU x (by rw[dO];omega) VW,cH]),cH,cU,db VW,cX,pG Pf.acU l 0 _ VW (λj x v a=>by
    have:=dh Pf.wt a
    rw[c x VW VW,cH]),cH,cU]
def ze{P:Pf}(h:P.wt<=1000000000):ri P=some P.err:=by
 unfold ri sE Pf.err;rw[Gy FU P (by rw[dO];omega) h,cH];cases P.ok with
 |false=>rfl|true=>
  rw[cO rfl,cO rfl,c6,zi FU P (by rw[dO];omega) h,cH];cases P.small with
  |false=>rfl|true=>grind[yw,FU,dO,cH,zL]
def Pf.Z4{P:Pf}(h:P.err=0):zU P/\P.acU<=16384:=by
 unfold Pf.err at h;cases b:P.ok with
 |false=>grind|true=>
  by_cases a:P.small=true/\P.acU<=16384
  ·exact⟨P.w b a.1,a.2⟩
  ·grind
def Us.OV{l:List Int}{m:Nat}(h:Us l m)(x:Int):x∈l↔0<=x/\m.testBit x.toNat=true:=by
 constructor
 ·intro b;have a:=h.pos x b;refine⟨a,(h.mem x.toNat).1 ?_⟩
  rwa [adP a]
 ·rintro⟨a,c⟩;have:=(h.mem x.toNat).2 c
  rwa [adP a] at this
def Us.ext{l a:List Int}{m:Nat}(h:Us l m)(b:Us a m):l=a:=EC.eq h.Yq b.Yq λx=>by rw[h.OV,b.OV]
def Rv{k q m:Nat}(hm:m=2^(k+1)*q+2^k)(j:Nat):(m&&&(m-1)).testBit j=(m.testBit j&&!decide (j=k)):=by
 have h1:2^k<2^(k+1):=adv aaK VW;have c:0<2^k:=Nat.two_pow_pos k
 have e:m-1=2^(k+1)*q+(2^k-1):=VW
 rw[Nat.testBit_and,e,hm,ady _ h1,ady _ VW]
 by_cases a:j<k+1
 ·rw[cO a,cO a,adu,adW]
  by_cases b:j=k
  ·simp[b]
  ·rw[EY (show¬k=j by omega)];simp
 ·rw[cK a,cK a,EY (show¬j=k by omega)];simp
def UU{a:Int}{l:List Int}{m:Nat}(h:Us (a::l) m):m≠0/\((Lib.ctz 32 m:Nat):Int)=a/\Us l (m&&&(m-1)):=by
 have s:=h.pos a aa4;obtain⟨k,rfl⟩:∃k:Nat,a=k:=⟨a.toNat,VW⟩;have d:m.testBit k=true:=(h.mem k).1 aa4
 have f:m≠0:=by rintro rfl;simp at d
 cases h.Yq with
 |cons s1 s2=>
  have g:∀i,i<k->m.testBit i=false:=λi hi=>by
   rw[UO];intro t;rcases j0.1 ((h.mem i).2 t)with e|e
   ·omega
   ·have:=s1 _ e;omega
  have n:Lib.ctz 32 m=Lib.ctzFrom 32 m:=by unfold Lib.ctz;rw[cK f]
  obtain⟨q,p,_⟩:=Lib.ctzFrom_spec 32 m VW (by have:=h.lt;omega);rw[<-n] at p
  have c:m=2^(Lib.ctz 32 m+1)*q+2^Lib.ctz 32 m:=by
   rw[P7,Nat.mul_assoc,<-Nat.mul_succ];exact p
  have r:Lib.ctz 32 m=k:=by
   have b:∀j,j<=Lib.ctz 32 m->m.testBit j=decide (Lib.ctz 32 m=j):=λj w=>by
    have h1:2^Lib.ctz 32 m<2^(Lib.ctz 32 m+1):=adv aaK VW
    conv=>lhs;rw[c]
    rw[ady _ h1,cO VW,adu]
   rcases aaY (Lib.ctz 32 m) k with o|heq|hgt
   ·have:=b _ (gu _);rw[g _ o] at this;simp at this
   ·exact heq
   ·have:=b k VW;rw[d,EY VW] at this;cases this
  rw[r] at c;refine⟨f,by rw[r],⟨adM Nat.and_le_left h.lt,λx u=>h.pos x (by simp[u]),s2,λi=>?_⟩⟩;rw[Rv c,ft,<-h.mem i];simp only[U1,UC];constructor
  ·intro hi;refine⟨by simp[hi],?_⟩;rintro rfl;have:=s1 _ hi;omega
  ·rintro⟨hi,v⟩;rcases j0.1 hi with e|e
   ·omega
   ·exact e
def Us.zero{m:Nat}(h:Us [] m):m=0:=by
 refine adJ λi=>?_;rw[Nat.zero_testBit,UO];intro a;have:=(h.mem i).2 a;simp at this
def Ej:∀(l:List Int) (m:Nat) (v:List Int) (n:Nat),Us l m->l.length<n->v.length+l.length<=1000000->lp (qw λ(v37:Int) (b:List Int)=>
   if(dw v37 0) then(
   cI (gD v37) λc=>
   fD (eJ b [c])<|some ((.next ((qP .u32 v37 (dZ .u32 v37 1)),(fa b [c]))):eL (Int×List Int) (List Int)))
   else(some (.AI (v37,b)))) n ((m:Int),v)=some (.inl (0,v++l))
 |l,m,v,0,_,hn,_=>by omega|[],m,v,n+1,h,_,_=>by
  rw[h.zero,lp];simp only[qw];rw[cK (show¬dw ((0:Nat):Int) 0=true by decide)];simp
 |a::l,m,v,n+1,h,hn,e=>by
  simp only[kN] at hn e;obtain⟨i,f,hu⟩:=UU h;have d:=h.lt
  have g:dw (m:Int) 0=true:=by rw[da];omega
  rw[lp];simp only[qw];rw[cO g];rw[show gD (m:Int)=some a by unfold gD;rw[cO VW,AN,f],cH,dS aa_,cX,cH,dW,fx];rw[show dZ .u32 (m:Int) 1=((m-1:Nat):Int) by unfold dZ;rw[Fb VW VW];omega,Lc d VW];rw[Ej l _ (v++[a]) n hu VW aa_];simp
def PC{l:List Int}{m:Nat}(h:Us l m):je (m:Int)=some l:=by
 have a:=h.len;unfold je;rw[c6,Ej l m [] FU h (by rw[dO];omega) aa_,cH];simp[qw]
def KM:∀(n:Nat) (t:Tm),t.acU<=n->t.acU<=50000000->t.ok=true->w6 n t=some t:=by
 intro n
 induction n with
 |zero=>intro t h;have:=t.dp;omega
 |succ n c=>
  intro t hn d a;cases t with
  |mk k i s l=>
   rw[Tm.cN] at hn d;have g:=Tm.ek l;have hi:=Tm.kT a;rw[Tm.fV,ft] at a;have e:=Ty.vZ a.1;rw[w6];simp only[Tm.dn,Tm.eP,Tm.dR,Tm.dd,c6]
   rw[oB VW,cH,db VW,cX,hS id l 0 [] aa_ (λj x v b f=>by
    have:=dh Tm.acU b
    rw[c x VW VW (hi.2.2.2.1 x b),cH,dS (by simpa using f),cX,fx];rfl)]
   simp
def Fm.W9:∀(f:Fm) (b:Int),f.HV (λt _=>t) b=f:=by
 intro f
 induction f using Fm.ind with
 |h k s ts l a=>
  intro b;rw[Fm.yx,vW (g:=id) (λx c=>a x c _)];simp
def Bg{f:Fm}(h:f.err=0)(c:f.acY 1000000000000=true):ox f=some f:=by
 obtain⟨d,hn⟩:=Fm.fS h;unfold ox;rw[od (h:=λe g=>mw e g) (ψ:=λt _=>t) (λt b a _ _=>?_) FU f 0 (by rw[dO];omega) VW d c VW VW]
 ·rw[cJ,Fm.W9]
 ·have:=a.acU;unfold mw;rw[KM FU t (by rw[dO];omega) a.acU a.ok];rfl
noncomputable def HH (L:List Fm) (q:Sq):Int:=if 32<L.length then 3 else if fK (L.map λf=>F3 f [])≠0 then fK (L.map λf=>F3 f [])else if wh q.acW≠0 then wh q.acW else if 16<q.acZ.length then 3 else fK (q.acZ.map λf=>F3 f q.acW)
structure SqB (L:List Fm) (q:Sq):Prop where
 N9:∀f∈L,f.wt<=1000000000
 Mn:∀t∈q.acW,t.acU<=1000000000
 Ya:q.acW.length<=1000000
 acZ:∀f∈q.acZ,f.wt<=1000000000
def xg{e:Int}:(cI (some e) λa=>if(dw a 0) then some (.ret a)else some ((.next ()):eL Unit Int))=if e≠0 then some (.ret e)else some (.next ()):=by
 rw[cH]
 by_cases h:e=0
 ·subst h;rfl
 ·rw[cO (by rw[da];exact h),cO h]
def Oo{C:List Ty->Option Int}{T:List Ty->Fm->Option Int}{L:List Fm}{q:Sq}(o:C q.acW=some (wh q.acW))(p:∀f∈L,T [] f=some (F3 f []))(h1:∀f∈q.acZ,T q.acW f=some (F3 f q.acW)):(if(kZ (di L) 32) then some 3 else fD (dK L)<|df (λ(s:Int) (e:Fm)=>(λ(_:Unit)=>cI (T [] e) λa=>if(dw a 0) then some (.ret a)else some ((.next ()):eL Unit Int))) λg=>
   cI (dN g L 0 ()) (eG (λ(_:Unit)=>cI (C q.acW) λb=>if(dw b 0) then some b else if(kZ (di q.acZ) 16) then some 3 else fD (dK q.acZ)<|df (λ(t:Int) (i:Fm)=>(λ(_:Unit)=>cI (T q.acW i) λc=>if(dw c 0) then some (.ret c)else some ((.next ()):eL Unit Int))) λk=>
    cI (dN k q.acZ 0 ()) (eG (λ(_:Unit)=>some 0) (λr=>some r))) (λr=>some r)))=some (HH L q):=by
 unfold HH;rw[ej]
 by_cases m:32<L.length
 ·rw[cO (by rw[eV];omega),cO m]
 ·have u:¬kZ (L.length:Int) 32=true:=by rw[eV];omega
  rw[cK u,cK m,db VW,cX,c6];rw[ka (λf=>F3 f []) L 0 (λj x l=>by rw[p x l];exact xg)]
  by_cases d:fK (L.map λf=>F3 f [])=0
  ·rw[cO d,cK (show¬(fK (L.map λf=>F3 f [])≠0)fromλh=>h d),cH,cU,o,cH]
   by_cases c3:wh q.acW=0
   ·have z2:¬dw (wh q.acW) 0=true:=by rw[da];simpa using c3
    rw[cK z2,cK (show¬(wh q.acW≠0)fromλh=>h c3),ej]
    by_cases n:16<q.acZ.length
    ·rw[cO (by rw[eV];omega),cO n]
    ·have z3:¬kZ (q.acZ.length:Int) 16=true:=by rw[eV];omega
     rw[cK z3,cK n,db VW,cX,c6];rw[ka (λf=>F3 f q.acW) q.acZ 0 (λj x l=>by rw[h1 x l];exact xg)]
     by_cases c5:fK (q.acZ.map λf=>F3 f q.acW)=0
     ·rw[cO c5,c5];rfl
     ·rw[cK c5];rfl
   ·have z2:dw (wh q.acW) 0=true:=by rw[da];exact c3
    rw[cO z2,cO c3]
  ·rw[cK d,cO d];rfl
def B3{L:List Fm}{q:Sq}(h:SqB L q):rM L q=some (HH L q)/\sN L q=some (HH L q):=by
 have a:∀t∈([]:List Ty),t.acU<=1000000000:=λt c=>by simp at c
 exact⟨Oo (C:=m0) (T:=lz) (wx q.acW h.Ya h.Mn) (λx b=>se (h.N9 x b) aa4 a) (λx b=>se (h.acZ x b) h.Ya h.Mn),Oo (C:=lh) (T:=iH) (sx q.acW h.Ya h.Mn) (λx b=>r7 (h.N9 x b) aa4 a) (λx b=>r7 (h.acZ x b) h.Ya h.Mn)⟩
def zr:∀{l:List Int},(∀e∈l,e=0)->fK l=0
 |[],_=>rfl|a::l,h=>by
  rw[fK,cO (h a aa4)];exact zr λe he=>h e (by simp[he])
def zp:∀{l:List Int},fK l=0->∀e∈l,e=0
 |[],_,e,he=>by simp at he
 |a::l,h,e,he=>by
  rw[fK] at h
  by_cases b:a=0
  ·rw[cO b] at h;rcases j0.1 he with rfl|he
   ·exact b
   ·exact zp h e he
  ·rw[cK b] at h;exact absurd h b
def S1{f:Fm}{g:List Ty}(h:F3 f g=0):Hg g f:=by
 unfold F3 at h
 by_cases h1:wh g=0
 ·rw[cK (λh=>h h1)] at h
  by_cases a:f.err=0
  ·rw[cK (λh=>h a)] at h;exact⟨a,sq f (Fm.fS a).1 g (jd.of h1).1 h⟩
  ·rw[cO a] at h;exact absurd h a
 ·rw[cO h1] at h;exact absurd h h1
structure KH (L:List Fm) (q:Sq):Prop where
 ln:L.length<=32
 N9:∀f∈L,Hg [] f
 ctx:jd q.acW
 nv:q.acW.length<=16
 nh:q.acZ.length<=16
 acZ:∀f∈q.acZ,Hg q.acW f
def O2{L:List Fm}{q:Sq}(h:HH L q=0):KH L q:=by
 unfold HH at h
 by_cases h1:32<L.length
 ·rw[cO h1] at h;cases h
 ·rw[cK h1] at h
  by_cases a:fK (L.map λf=>F3 f [])=0
  ·rw[cK (λh=>h a)] at h
   by_cases b:wh q.acW=0
   ·rw[cK (λh=>h b)] at h
    by_cases d:16<q.acZ.length
    ·rw[cO d] at h;cases h
    ·rw[cK d] at h;obtain⟨e,g⟩:=jd.of b;exact⟨VW,λf c=>S1 (zp a _ (l8.2 ⟨f,c,rfl⟩)),e,g,VW,λf c=>S1 (zp h _ (l8.2 ⟨f,c,rfl⟩))⟩
   ·rw[cO b] at h;exact absurd h b
  ·rw[cO a] at h;exact absurd h a
def KH.zero{L:List Fm}{q:Sq}(h:KH L q):HH L q=0:=by
 have c:∀{g:List Ty} {f:Fm},jd g->g.length<=16->Hg g f->F3 f g=0:=λhg b a=>by
  unfold F3;rw[Fc hg b,cK aaK,cK (λh=>h a.err)];exact JE a.ty hg (by have:=a.acU;omega)
 have d:fK (L.map λf=>F3 f [])=0:=zr λe he=>by
  obtain⟨f,a,rfl⟩:=l8.1 he;exact c (λ_ h=>by simp at h) aa4 (h.N9 f a)
 have i:fK (q.acZ.map λf=>F3 f q.acW)=0:=zr λe he=>by
  obtain⟨f,a,rfl⟩:=l8.1 he;exact c h.ctx h.nv (h.acZ f a)
 unfold HH;have:=h.ln;have:=h.nh;rw[cK VW,d,cK aaK,Fc h.ctx h.nv,cK aaK,cK VW,i]
def Gf{T:List cM}{N:Nat}(g:N<=1000000):∀(l:List Fm) (j:Nat) (k:List cZ),k.length+l.length<=1000000->dN (λ(i:Int) (b:Fm)=>(Yg λ(c:Int) (v46:Int) (d:List cM) (e:List cZ)=>
   cI (eI (cQ.mk (dA.mk c v46) d e) b) λa=>
   some ((.next (a.eK.vars,a.eK.acZ,a.acW,a.known)):eL (Int×Int×(List cM)×(List cZ)) (cQ)))) l j ((N:Int),(k.length:Int),T,k)=some (.inl ((N:Int),((k.length+l.length:Nat):Int),T,k++l.map λf=>cZ.mk f N))
 |[],j,k,_=>by simp|f::l,j,k,h=>by
  simp only[kN] at h;rw[dJ];simp only[Yg];unfold eI;rw[dS aa_,cX,cH];simp only[cH,dW,fx];rw[dI VW VW];have:=Gf (T:=T) g l (j+1) (k++[cZ.mk f N]) aa_;rw[show(k.length:Int)+1=((k++[cZ.mk f N]).length:Int) by simp];unfold eI at this;simp only[fx] at this;rw[this];simp;omega
def start_eq{L:List Fm}{q:Sq}(h:KH L q):∃p,rO q=some p/\PG L p (cS.mk L q.acW q.acZ):=by
 have c:=h.nh;have a:=h.nv;refine⟨cQ.mk (dA.mk (q.acW.length:Int) (q.acZ.length:Int)) (q.acW.map sg) (q.acZ.map λf=>cZ.mk f q.acW.length),?_,⟨⟨rfl,rfl,rfl,h.ctx,a,c,aa4,?_⟩,rfl,h.N9,h.acZ⟩⟩
 ·unfold rO;rw[vb h.ctx VW,cH,db VW,cX,c6,ej];have:=Gf (T:=q.acW.map sg) (N:=q.acW.length) VW q.acZ 0 [] aa_;rw[show(([]:List cZ).length:Int)=0 from rfl] at this;rw[this,cH];simp[Yg]
 ·intro i x g h1 b;have h1:(q.acZ.map λf=>cZ.mk f q.acW.length)[i]?=some x:=h1;have b:q.acZ[i]?=some g:=b;rw[tM,b] at h1;obtain rfl:=gh h1;have hg:=h.acZ g (z6 b);refine⟨hg.hy a,by show(0:Int)<=(q.acW.length:Int);omega,by show((q.acW.length:Nat):Int)<=(q.acW.length:Int);omega,?_⟩;show g=g.up 0 ((q.acW.length:Int)-(q.acW.length:Int));rw[adN,Fm.xR]
def Pf.OR:∀(l:List Pf),(∀x∈l,x.yt<=x.acU)->Pf.vq l<=c_ Pf.acU l
 |[],_=>by simp[Pf.vq]|a::l,b=>by
  have h1:=b a aa4;have d:=Pf.OR l (λx c=>b x (by simp[c]));simp only[Pf.vq,c_];omega
def Pf.Pq(p:Pf):p.yt<=p.acU:=by
 induction p using Pf.ind with
 |h k i s ts b l a=>
  rw[Pf.cN,Pf.yt];have:=Pf.OR l a;omega
noncomputable def QM (L:List Fm) (q:Sq) (P:Pf):PR:=k_ (HH L q) (k_ P.err (P.inf L q.acW q.acZ))
def uT{L:List Fm}{q:Sq}{P:Pf}(h:SqB L q)(i:P.wt<=1000000000):(∃e,e≠0/\QM L q P=.inr e/\n9 L q P=some (⟨fR,[]⟩,e)/\ij L q P=some (⟨fR,[]⟩,e))\/∃(f:Fm) (m:Nat) (l:List Int),QM L q P=.inl (f,m)/\n9 L q P=some (⟨f,l⟩,0)/\ij L q P=some (⟨f,l⟩,0)/\Us l m/\Hg q.acW f/\KH L q/\P.err=0:=by
 unfold n9 ij QM;rw[(B3 h).1,(B3 h).2,cH,cH]
 by_cases h1:HH L q=0
 ·have c:=O2 h1;rw[h1,cK nz,cK nz,ic rfl,F9 i,ze i,cH,cH]
  by_cases b:P.err=0
  ·obtain⟨hw,hn⟩:=Pf.Z4 b;obtain⟨p,j,k⟩:=start_eq c;have n:=P.Pq;rw[b,cK nz,cK nz,ic rfl,show xx=some ()from rfl,cH,j,cH];rcases RG hw FU FU (by rw[dO];omega) (by rw[dO];omega) p _ k with⟨e,he,q1,d,g⟩|⟨f,m,l,q1,d,g,hu,a⟩
   ·rw[d,g,cJ,cJ,cO (by rw[da];exact he),cO (by rw[da];exact he)];exact .inl ⟨e,he,q1,rfl,rfl⟩
   ·have a:Hg q.acW f:=a;have o:=hu.len;have r:=f.iN a.ok;have s:=a.acU;rw[d,g,cJ,cJ,cK nz,cK nz];simp only[];rw[Bg a.err (a.acY c.nv VW),cH,PC hu,cH,kD VW,cH,dS aa_,cX,fx,mR];exact .inr ⟨f,m,l,q1,rfl,rfl,hu,a,c,by trivial⟩
  ·rw[cO (by rw[da];exact b),cO (by rw[da];exact b),jo b];exact .inl ⟨_,b,rfl,rfl,rfl⟩
 ·rw[cO (by rw[da];exact h1),cO (by rw[da];exact h1),jo h1];exact .inl ⟨_,h1,rfl,rfl,rfl⟩
def Pf.mQ(l:List Pf):l.length<=c_ Pf.wt l:=gk Pf.wt l λt _=>t.gX
def vV:∀(n:Nat) (P:Pf),P.wt<=n->P.wt<=1000000000->kS n P=some P:=by
 intro n
 induction n with
 |zero=>intro P h;have:=P.gX;omega
 |succ n d=>
  intro P hn e;cases P with
  |mk k i s ts c l=>
   rw[Pf.ea] at hn e;have f:=gk Tm.wt ts λt _=>t.gX;have g:=gk Fm.wt c λt _=>t.gX;have m:=Pf.mQ l;rw[kS];simp only[Pf.dn,Pf.eP,Pf.dR,Pf.fU,Pf.Cg,Pf.dd,c6]
   rw[gT VW,cH,db VW,cX,hS id ts 0 [] aa_ (λj x v a b=>by
    have:=dh Tm.wt a
    rw[mM VW,cH,dS (by simpa using b),cX,fx];rfl),cH,cU,db VW,cX,hS id c 0 [] aa_ (λj x v a b=>by
    have:=dh Fm.wt a
    rw[kD VW,cH,dS (by simpa using b),cX,fx];rfl),cH,cU,db VW,cX,hS id l 0 [] aa_ (λj x v a b=>by
    have:=dh Pf.wt a
    rw[d x VW VW,cH,dS (by simpa using b),cX,fx];rfl),cH,cU]
   simp
def aaU{k:Int}{l:List Pf}(h:c_ Pf.wt l<=1000000000):lZ k l=some (.mk k 0 .z [] [] l):=by
 have c:=Pf.mQ l;unfold lZ
 rw[db VW,cX,c6,hS id l 0 [] aa_ (λj x v a b=>by
  have:=dh Pf.wt a
  rw[vV FU x (by rw[dO];omega) VW,cH,dS (by simpa using b),cX,fx];rfl),cH,cU]
 simp[Ty.z]
def LY{k:Int}{a:Pf}(h:a.wt<=500000000):lZ k [a]=some (.mk k 0 .z [] [] [a]):=aaU (by simp[c_];omega)
def Jd{k:Int}{a b:Pf}(h:a.wt<=400000000)(c:b.wt<=400000000):lZ k [a,b]=some (.mk k 0 .z [] [] [a,b]):=aaU (by simp[c_];omega)
def Q4{F:Fm}{a:Pf}(hF:F.wt<=1000000000)(h:a.wt<=500000000):uf F a=some (.mk 6 0 .z [] [F] [a]):=by
 unfold uf;rw[LY h,cH,kD hF];rfl
def Dn{k:Int}{s:Ty}{a:Pf}(hs:s.acU<=1000000000)(h:a.wt<=500000000):oG k s a=some (.mk k 0 s [] [] [a]):=by
 unfold oG;rw[LY h,cH,gT hs];rfl
def OW{k:Int}{t:Tm}{a:Pf}(b:t.wt<=1000000000)(h:a.wt<=500000000):tf k t a=some (.mk k 0 .z [t] [] [a]):=by
 unfold tf;rw[LY h,cH,mM b];rfl
def OQ{k:Int}{F:Fm}{t:Tm}{a:Pf}(hF:F.wt<=1000000000)(b:t.wt<=1000000000)(h:a.wt<=500000000):s_ k F t a=some (.mk k 0 .z [t] [F] [a]):=by
 unfold s_;rw[OW b h,cH,kD hF];rfl
def Qn{k:Int}{F:Fm}{t:Tm}{a:Pf}(hF:F.wt<=1000000000)(b:t.wt<=1000000000)(h:a.wt<=500000000):rZ k F t a=some (.mk k 0 .z [t] [F] [a],F):=by
 unfold rZ;rw[OW b h,cH,kD hF];rfl
def M3{k:Int}{F:Fm}{t:Tm}{a b:Pf}(hF:F.wt<=1000000000)(c:t.wt<=1000000000)(h:a.wt<=400000000)(d:b.wt<=400000000):sG k F t a b=some (.mk k 0 .z [t] [F] [a,b]):=by
 unfold sG;rw[Jd h d,cH,mM c,cH,kD hF];rfl
def Ls{F:Fm}{a b:Pf}(hF:F.wt<=1000000000)(h:a.wt<=400000000)(c:b.wt<=400000000):q9 F a b=some (.mk 19 0 .z [] [F] [a,b]):=by
 unfold q9;rw[Jd h c,cH,kD hF];rfl
def sV{t:Tm}(a:t.wt<=1000000000):jE t=some (.mk 18 0 .z [t] [] []):=by
 unfold jE;rw[mM a];rfl
def yX{t:Tm}{g:List Ty}{s:Ty}(h:dG g t s)(hg:g.length<=1000)(hn:t.acU<=4096):iY t=some (t.up 0 1):=by
 have hw:=t.iN h.ok;have a:t.acY 1000000000000=true:=h.acY _ VW;unfold iY;rw[Bx VW VW,cH,sX FU _ 0 1 (by rw[dO,Fm.cN];simp only[c_];omega) (by rw[Fm.cN];simp only[c_];omega) VW (by rw[Fm.cN];simp only[c_];omega) VW VW (by rw[Fm.er];simp[a]),cH,Fm.kJ];rfl
def Bf{q:Sq}{f:Fm}(h:q.acZ.length<=1000):xT q f=some ⟨q.acW,q.acZ++[f]⟩:=by
 unfold xT;rw[dS aa_,cX,dS (by simp[fx];omega),cX];simp[fx]
def LQ{L:List Fm}{q:Sq}(h:KH L q){l:List Ty}(e:l.length<=1000):pJ q l=some ⟨q.acW++l,q.acZ.map (Fm.up 0 l.length)⟩:=by
 have b:=h.nh;have a:=h.nv;unfold pJ
 rw[oi _ _ VW,cH,db VW,cX,c6,hS (Fm.up 0 l.length) q.acZ 0 [] aa_ (λj x v c d=>by
  have hg:=h.acZ x c;have hn:=hg.acU
  rw[ej,sX FU x 0 l.length (by rw[dO];omega) VW VW VW VW VW (hg.acY a VW),cH,dS (by simpa using d),cX,fx]),cH,cU,mR]
def KH.below{L:List Fm}{q:Sq}(h:KH L q){l:List Ty}(b:jd l)(hn:q.acW.length+l.length<=16):KH L ⟨q.acW++l,q.acZ.map (Fm.up 0 l.length)⟩:=by
 refine⟨h.ln,h.N9,h.ctx.append b,by simpa using hn,by simpa using h.nh,λf c=>?_⟩;obtain⟨f0,a,rfl⟩:=l8.1 c;exact(h.acZ f0 a).up l
def KH.with{L:List Fm}{q:Sq}(h:KH L q){f:Fm}(a:Hg q.acW f)(hn:q.acZ.length+1<=16):KH L ⟨q.acW,q.acZ++[f]⟩:=by
 refine⟨h.ln,h.N9,h.ctx,h.nv,by simpa using hn,λx hx=>?_⟩;rcases qA.1 hx with hx|hx
 ·exact h.acZ x hx
 ·rw[yo.1 hx];exact a
def Hg.wt{g:List Ty}{f:Fm}(h:Hg g f):f.wt<=266240:=by
 have:=f.iN h.ok;have:=h.acU;omega
def KH.b{L:List Fm}{q:Sq}(h:KH L q):SqB L q:=by
 refine⟨λf a=>by have:=(h.N9 f a).wt;omega,λt c=>by have:=ec (h.ctx t c);omega,by have:=h.nv;omega,λf a=>by have:=(h.acZ f a).wt;omega⟩
def pb:Nat->Nat
 |0=>10000|k+1=>3*pb k+1000000
def LR:∀k,k<=4->10000<=pb k/\pb k<=50000000
 |0,_=>by decide|1,_=>by decide|2,_=>by decide|3,_=>by decide|4,_=>by decide|k+5,h=>by omega
def gY(b:Nat)(o:Option (Pf×cV)):Prop:=∃x a,o=some (x,a)/\a.wf/\x.wt<=b
def gY.of{b:Nat}{x:Pf}{d:cV}(hd:d.wf)(h:x.wt<=b):gY b (some (x,d)):=⟨x,d,rfl,hd,h⟩
def iu{β:Type}{G:Option β->Prop}{c:Bool}{a b:Option β}(h1:c=true->G a)(d:c=false->G b):G (if c then a else b):=by
 cases c with
 |true=>exact h1 rfl|false=>exact d rfl
def nt{g:List Ty}{t:Ty}{d:cV}(e:g.length<=600)(hg:pw 3 g)(f:t.err=0)(c:t.acU<=3)(hd:d.wf):∃x a,eY FU d g t 1=some (x,a)/\a.wf/\dG g x t/\x.acU<=57/\x.wt<=3705/\x.err=0:=by
 obtain⟨x,a,h1,h,b⟩:=F1 3 VW VW 1 VW g t d e hg f c hd;have hn:x.acU<=57:=b.acU;have hw:=x.iN b.ty.ok;exact⟨x,a,h1,h,b.ty,hn,VW,Tm.xw b.ty.ok VW⟩
def wu{d:cV}(hd:d.wf):∃t a,gI FU d 1=some (t,a)/\t.err=0/\t.acU<=3/\a.wf:=by
 obtain⟨t,a,h1,b,e,c⟩:=wM d hd 1 VW;exact⟨t,a,h1,b,VW,c⟩
def Sk{d:cV}(hd:d.wf):∃t a,gI FU d 0=some (t,a)/\t.err=0/\t.acU<=3/\a.wf:=by
 obtain⟨t,a,h1,b,e,c⟩:=wM d hd 0 VW;exact⟨t,a,h1,b,VW,c⟩
theorem Ty.eS:Ty.z.acU=1:=aaK
def Bs:ez 0=some v0:=rfl
def RT{P:Pf}{e:Int}(h:P.wt<=1000000000):∃b c,ti P e=some (b,c)/\b.wt<=P.wt+1:=by
 have a:(Pf.mk 0 0 (Ty.mk 0 []) [] [] []).wt<=P.wt+1:=by have:=P.gX;rw[Pf.ea];simp[c_,Ty.cN];omega
 unfold ti
 by_cases he:e=0
 ·subst he;rw[cK nz];unfold sE;rw[c6,zi FU P (by rw[dO];omega) h,cH,yw FU P (by rw[dO];omega) h];cases P.small with
  |false=>exact⟨_,_,rfl,a⟩|true=>
   rw[cO rfl,cH,cH];cases Em (P.acU:Int) 16384 with
   |false=>exact⟨_,_,rfl,a⟩|true=>
    rw[cO rfl,vV FU P (by rw[dO];omega) h];exact⟨_,_,rfl,VW⟩
 ·rw[cO (by rw[da];exact he)];exact⟨_,_,rfl,a⟩
def Pn{ts:List Tm}{ps:List Pf}(h1:∀t∈ts,t.wt<=1000000000)(d:∀p∈ps,p.wt<=1000000000)(f:ts.length<=1000)(g:ps.length<=1000):∃e,rA ts [] ps=some e:=by
 unfold rA;rw[db VW,cX,c6,ka Tm.err ts 0 (λj x a=>by rw[lL (h1 x a)];exact xg)]
 by_cases b:fK (ts.map Tm.err)=0
 ·rw[cO b,cH,cU,db aa4,cX,c6,om,cH,cU,db VW,cX,c6,ka Pf.err ps 0 (λj x a=>by rw[ze (d x a)];exact xg)]
  by_cases c:fK (ps.map Pf.err)=0
  ·rw[cO c];exact⟨_,rfl⟩
  ·rw[cK c];exact⟨_,rfl⟩
 ·rw[cK b];exact⟨_,rfl⟩
def Er{t:Tm}{g:List Ty}{s:Ty}(h:dG g t s)(hg:g.length<=1000)(hn:t.acU<=4096):u7 t 1=some (t.up 0 1):=by
 unfold u7;rw[y0 FU t 0 1 (by rw[dO];omega) VW VW VW VW VW (h.acY _ VW)];rfl
def KU{t:Tm}(a:t.wt<=3705):∃P,zA t=some P/\P.wt<=20000:=by
 obtain⟨z,h,z2⟩:=zM 0 VW VW;have c:=(z2 [.nat]).1;have o:=(z2 [.nat]).2;have b:=CE;have i:dG [.nat] v0 .nat:=ya (g:=[]);have d:dG [.nat] (iI (iI mW z) v0) .nat:=.app (.app (CZ _) c) i;have f:dG [] (lQ .nat (jL v0)) (.fn .nat .nat):=.lam zc (.succ ya)
 have p:(iI (iI mW z) v0).acU<=20:=by
  unfold iI v0;rw[Tm.cN,c_,c_,Tm.cN,c_,c_,Tm.cN];simp only[c_];omega
 have nL:(lQ .nat (jL v0)).acU=3:=aaK
 have q:=Tm.iN _ d.ok;have r:=Tm.iN _ f.ok;have s:=Tm.iN _ c.ok
 have u:v0.wt<=10:=aaK
 have wp:mW.wt<=585:=by have:=Tm.iN _ (CZ []).ok;omega
 unfold zA;rw[AD,cH,h,cH,Bs,cH,JL VW VW VW,cH,show Tm.mk 3 0 .z [.mk 3 0 .z [mW,z],v0]=iI (iI mW z) v0 from rfl,cH,Bx VW VW,cH,ep,cH,cH,GL VW,cH,show Tm.mk 5 0 .z [v0]=jL v0 from rfl,Ar aaK aaK,cH,show Tm.mk 2 0 .nat [jL v0]=lQ .nat (jL v0)from rfl,cH,show me 0=some (Pf.mk 1 0 .z [] [] [])from rfl,cH]
 have v:(Pf.mk 1 0 .z [] [] []).wt<=10:=aaK
 have j:∃P e,uP (lQ .nat (jL v0)) (iI (iI mW z) v0) v0 (Pf.mk 1 0 .z [] [] [])=some (P,e)/\P.wt<=12000:=by
  have w:=Tm.Gv (iI (iI mW z) v0) 0 1;have x:=Tm.Gv (lQ .nat (jL v0)) 0 1
  have y:(Tm.mk 3 0 .z [lQ .nat (jL v0),iI (iI mW z) v0]).wt<=1600:=by rw[Tm.ea];simp only[c_,Ty.eS];omega
  have A:(Tm.mk 3 0 .z [(lQ .nat (jL v0)).up 0 1,(iI (iI mW z) v0).up 0 1]).wt<=1600:=by rw[Tm.ea];simp only[c_,Ty.eS];omega
  have B:(Tm.mk 3 0 .z [(lQ .nat (jL v0)).up 0 1,v0]).wt<=1600:=by rw[Tm.ea];simp only[c_,Ty.eS];omega
  have wf:(Fm.mk 1 .z [Tm.mk 3 0 .z [(lQ .nat (jL v0)).up 0 1,(iI (iI mW z) v0).up 0 1],Tm.mk 3 0 .z [(lQ .nat (jL v0)).up 0 1,v0]] []).wt<=4000:=by rw[Fm.ea];simp only[c_,Ty.eS];omega
  have wr:(Pf.mk 18 0 .z [Tm.mk 3 0 .z [lQ .nat (jL v0),iI (iI mW z) v0]] [] []).wt<=2000:=by rw[Pf.ea];simp only[c_,Ty.eS];omega
  have hg:uU (lQ .nat (jL v0)) (iI (iI mW z) v0) (Pf.mk 1 0 .z [] [] [])=some (.mk 19 0 .z [] [Fm.mk 1 .z [Tm.mk 3 0 .z [(lQ .nat (jL v0)).up 0 1,(iI (iI mW z) v0).up 0 1],Tm.mk 3 0 .z [(lQ .nat (jL v0)).up 0 1,v0]] []] [.mk 1 0 .z [] [] [],.mk 18 0 .z [Tm.mk 3 0 .z [lQ .nat (jL v0),iI (iI mW z) v0]] [] []]):=by
   unfold uU;rw[Er f aa4 VW,cH,Er d aa4 VW,cH,tc VW VW,cH,cH,Bs,cH,tc VW VW,cH,Bx VW VW,cH,tc VW VW,cH,sV VW,cH,Ls VW VW VW];rfl
  unfold uP
  obtain⟨e,he⟩:=Pn (ts:=[lQ .nat (jL v0),iI (iI mW z) v0,v0]) (ps:=[Pf.mk 1 0 .z [] [] []]) (by
   intro t a;simp only[j0,tw,TI] at a
   rcases a with rfl|rfl|rfl<;>omega) (by
   intro t a
   rw[yo.1 a];omega) aa4 aa4
  have k:(Pf.mk 19 0 .z [] [Fm.mk 1 .z [Tm.mk 3 0 .z [(lQ .nat (jL v0)).up 0 1,(iI (iI mW z) v0).up 0 1],Tm.mk 3 0 .z [(lQ .nat (jL v0)).up 0 1,v0]] []] [.mk 1 0 .z [] [] [],.mk 18 0 .z [Tm.mk 3 0 .z [lQ .nat (jL v0),iI (iI mW z) v0]] [] []]).wt<=11000:=by rw[Pf.ea];simp only[c_,Ty.eS] at*;omega
  rw[hg,cH,he,cH];obtain⟨l,m,h1,C⟩:=RT (e:=e) (show _<=1000000000 from uJ k VW);rw[h1,cJ];exact⟨l,m,rfl,VW⟩
 obtain⟨P,e,n,D⟩:=j
 have E:(Fm.mk 1 .z [iI (iI mW z) v0,v0] []).wt<=2000:=by rw[Fm.ea];simp only[c_,Ty.eS];omega
 have F:(Pf.mk 18 0 .z [z] [] []).wt<=200:=by rw[Pf.ea];simp only[c_,Ty.eS];omega
 rw[n,cJ,cH,sV VW,cH,M3 VW VW VW VW];refine⟨_,rfl,?_⟩;rw[Pf.ea];simp only[c_,Ty.eS] at*;omega
def dG.lift{g:List Ty}{x:Tm}{t:Ty}(h:dG g x t)(e:List Ty):dG (g++e) (x.up 0 e.length) t:=by
 have:=h.up g [] e aa4
 grind
def eqv(t:Tm):Fm:=.mk 1 .z [t.up 0 1,v0] []
def Jy{g:List Ty}{t:Tm}(h:dG g t .nat)(hn:t.acU<=57):Hg (g++[.nat]) (eqv t)/\(eqv t).acU<=59/\(eqv t).wt<=3900:=by
 have hu:dG (g++[.nat]) (t.up 0 1) .nat:=by
  exact h.lift [.nat]
 have a:j1 (g++[.nat]) (eqv t):=.eq hu ya
 have hm:(eqv t).acU<=59:=by
  unfold eqv;rw[Fm.cN];simp only[c_];rw[Tm.qt]
  have:v0.acU=1:=aaK
  omega
 have hw:=Fm.iN _ a.ok;refine⟨⟨?_,a⟩,hm,VW⟩;unfold Fm.err;rw[cO a.ok,cK VW]
def F8{g:List Ty}{t:Tm}(h:dG g t .nat)(hg:g.length<=600)(hn:t.acU<=57){β:Type}(k:Fm->Option β):(cI (iY t) λa=>cI (ez 0) λb=>cI (kv a b) λc=>k c)=k (eqv t):=by
 have hw:=t.iN h.ok;have hu:=Tm.Gv t 0 1
 have d:v0.wt<=10:=aaK
 rw[yX h VW VW,cH,Bs,cH,Bx VW VW];rfl
def WI{g:List Ty}{f:Fm}{k:Int}(b:k=5\/k=7)(h:Hg (g++[.nat]) f)(hn:f.acU<=4000):Hg g (.mk k .nat [] [f]):=by
 have a:j1 g (.mk k .nat [] [f]):=.q VW Ty.fL h.ty;refine⟨?_,a⟩;unfold Fm.err;rw[cO a.ok,cK (by rw[Fm.cN];simp only[c_];omega)]
def Nr{q:Sq}{d:cV}(a:q.acW.length<=600)(hg:pw 3 q.acW)(hd:d.wf):gY 12000 (B9 d q):=by
 obtain⟨t,d1,t1,t2,t3,t4,t5,t6⟩:=nt a hg Ty.fL aaK hd;obtain⟨b,c,e⟩:=Jy t3 t4
 have f:(Pf.mk 18 0 .z [t] [] []).wt<=3800:=by grind[Pf.ea,c_,Ty.eS]
 have g:(Fm.mk 5 .nat [] [eqv t]).wt<=4000:=by rw[Fm.ea];simp only[c_,Ty.gd];omega
 unfold B9;rw[ep,cH,t1,cJ,F8 t3 a t4,Dz aaK VW,cH,sV VW,cH,OQ VW VW VW,cH];refine gY.of t2 ?_;rw[Pf.ea];simp only[c_,Ty.eS];omega
def Mt{q:Sq}{d:cV}(a:q.acW.length<=600)(hg:pw 3 q.acW)(hd:d.wf):∃t b,tp d q=some (.mk 10 0 .z [t] [.mk 5 .nat [] [eqv t]] [.mk 18 0 .z [t] [] []],.mk 5 .nat [] [eqv t],b)/\b.wf/\dG q.acW t .nat/\t.acU<=57/\t.wt<=3705:=by
 obtain⟨t,d1,t1,t2,t3,t4,t5,t6⟩:=nt a hg Ty.fL aaK hd;obtain⟨c,e,f⟩:=Jy t3 t4
 have g:(Pf.mk 18 0 .z [t] [] []).wt<=3800:=by grind[Pf.ea,c_,Ty.eS]
 have h:(Fm.mk 5 .nat [] [eqv t]).wt<=4000:=by rw[Fm.ea];simp only[c_,Ty.gd];omega
 unfold tp;rw[ep,cH,t1,cJ,F8 t3 a t4,Dz aaK VW,cH,sV VW,cH,Qn VW VW VW,cJ];exact⟨t,d1,rfl,t2,t3,t4,t5⟩
def xX{L:List Fm}{q:Sq}(h:KH L q){P:Pf}(a:P.wt<=1000000000):(∃e,e≠0/\ij L q P=some (⟨fR,[]⟩,e))\/∃f l,ij L q P=some (⟨f,l⟩,0)/\Hg q.acW f:=by
 rcases uT h.b a with⟨e,he,_,_,h1⟩|⟨f,m,l,_,_,h1,_,c,_⟩
 all_goals grind
def Br{g:List Ty}{f:Fm}(h:Hg g f)(hg:g.length<=16):fH FU f 0 1=some (f.up 0 1)/\(f.up 0 1).wt<=266240:=by
 have hn:=h.acU;refine⟨sX FU f 0 1 (by rw[dO];omega) VW VW VW VW VW (h.acY hg VW),?_⟩;have h1:=h.wt
 grind[Fm.Gv]
def OJ{a b x:Int}(c:0<=x)(h1:x<2):∃y,de [a,b] x=some y/\(x=0/\y=a\/x=1/\y=b):=by
 have:x=0\/x=1:=VW
 rcases this with rfl|rfl
 ·exact⟨a,rfl,.inl ⟨rfl,rfl⟩⟩
 ·exact⟨b,rfl,.inr ⟨rfl,rfl⟩⟩
structure Mq (L:List Fm) (q:Sq):Prop where
 v:KH L q
 c:pw 3 q.acW
def Mq.below{L:List Fm}{q:Sq}(h:Mq L q){s:Ty}(hs:s.err=0)(a:s.acU<=3)(hn:q.acW.length+1<=16):Mq L ⟨q.acW++[s],q.acZ.map (Fm.up 0 1)⟩:=
 ⟨h.v.below (l:=[s]) (λx b=>by rw[yo.1 b];exact hs) hn,h.c.app λx b=>by rw[yo.1 b];exact⟨hs,a⟩⟩
def Mq.with{L:List Fm}{q:Sq}(h:Mq L q){f:Fm}(a:Hg q.acW f)(hn:q.acZ.length+1<=16):Mq L ⟨q.acW,q.acZ++[f]⟩:=⟨h.v.with a hn,h.c⟩
def Mq.Yr{L:List Fm}{q:Sq}(h:Mq L q)(s:Ty):pJ q [s]=some ⟨q.acW++[s],q.acZ.map (Fm.up 0 1)⟩:=LQ h.v (l:=[s]) aa4
def G1{κ β:Type}{G:Option β->Prop}(Q:κ->Prop){k:κ}{b:κ->Option β}(a:Q k)(c:∀j,Q j->G (b j)):G (df k b):=c k a
def O'{n k:Nat}(R:k<=3){L:List Fm}(C:∀(d:cV) (q:Sq),d.wf->Mq L q->gY (pb k) (gN n d L q (k:Int))){d:cV}(hd:d.wf){q:Sq}(h:Mq L q)(D:q.acW.length<10)(A:q.acZ.length<10):gY (pb (k+1)) (wU (n+1) d L q ((k+1:Nat):Int)):=by
 have E:=LR k VW;have F:pb (k+1)=3*pb k+1000000:=rfl;obtain⟨t,d1,s1,s2,H,I,S⟩:=Mt VW h.c hd;obtain⟨g1,g2,g3⟩:=Jy H I
 have T:(Pf.mk 18 0 .z [t] [] []).wt<=3800:=by rw[Pf.ea];simp only[c_,Ty.eS];omega
 have s:∀i:Int,(Fm.mk i .nat [] [eqv t]).wt<=4000:=λi=>by rw[Fm.ea];simp only[c_,Ty.gd];omega
 have u:∀i j:Int,(Pf.mk j 0 .z [t] [Fm.mk i .nat [] [eqv t]] [Pf.mk 18 0 .z [t] [] []]).wt<=20000:=λi j=>by have:=s i;rw[Pf.ea];simp only[c_,Ty.eS];omega
 rw[wU,s1,ov];refine G1 (G:=gY (pb (k+1))) (λJ=>∀(v24 m:Int) (o:cV) (a:Int),o.wf->(a=5\/a=7)->gY (pb (k+1)) (J v24 m o a)) ?_ ?_
 ·intro v24 m o a v K;have M:Hg q.acW (.mk a .nat [] [eqv t]):=WI K g1 VW;have hm:Mq L ⟨q.acW++[.nat],q.acZ.map (Fm.up 0 1)++[eqv t]⟩:=(h.below Ty.fL aaK VW).with g1 (by show(q.acZ.map (Fm.up 0 1)).length+1<=16;simp;omega);obtain⟨Q,d3,q1,N,U⟩:=C o _ v hm;show gY _ (cI (de [eqv t] 0) λO=>_);rw[show de [eqv t] 0=some (eqv t)from rfl,cH,ep,cH,h.Yr .nat,cH,Bf (by show(q.acZ.map (Fm.up 0 1)).length<=1000;simp;omega),cH,ed VW VW,show((k+1:Nat):Int)-1=(k:Int) by omega,q1,cJ];refine G1 (G:=gY (pb (k+1))) (λJ=>∀(b v145 v146:Int) (e:List Ty) (v148:List Tm) (f:List Fm) (g:List Pf) (l:cV),l.wf->(Pf.mk b v145 (.mk v146 e) v148 f g).wt<=pb k+300000->gY (pb (k+1)) (J b v145 v146 e v148 f g l)) ?_ ?_
  ·intro b v145 v146 e v148 f g l w hw;have:=u a m;show gY _ (cI (lZ v24 [Pf.mk m 0 .z [t] [Fm.mk a .nat [] [eqv t]] [Pf.mk 18 0 .z [t] [] []],Pf.mk b v145 (.mk v146 e) v148 f g]) λp=>some (p,l));rw[Jd VW VW,cH];refine gY.of w ?_;rw[Pf.ea];simp only[c_,Ty.eS];omega
  ·intro J r;obtain⟨y,d4,x,P,y3,y4⟩:=jn d3 N 2 VW VW;rw[x,cJ];refine iu (λ_=>?_) (λ_=>?_)
   ·obtain⟨u1,u2⟩:=Br M VW;show gY _ (cI (fH FU (.mk a .nat [] [eqv t]) 0 1) λB=>_)
    have V:v0.wt<=10:=aaK
    rw[u1,cH,Bs,cH,show me 0=some (Pf.mk 1 0 .z [] [] [])from rfl,cH,OQ VW VW aaK,cH];refine r _ _ _ _ _ _ _ _ y4 ?_;show(Pf.mk m 0 .z [v0] [(Fm.mk a .nat [] [eqv t]).up 0 1] [Pf.mk 1 0 .z [] [] []]).wt<=_;rw[Pf.ea];simp only[c_,Ty.eS];rw[Pf.ea];simp only[c_,Ty.eS];omega
   ·refine r _ _ _ _ _ _ _ _ y4 ?_;rw[Ty.ku,Pf.ku];omega
 ·intro J r;obtain⟨y,d4,x,P,y3,y4⟩:=jn d1 s2 3 VW VW;rw[x,cJ];exact iu (λ_=>r _ _ _ _ y4 (.inr rfl)) (λ_=>r _ _ _ _ y4 (.inl rfl))
def Ew:∀(n k:Nat) (L:List Fm) (d:cV) (q:Sq),2*k<n->k<=4->d.wf->Mq L q->gY (pb k) (gN n d L q (k:Int)):=by
 intro n
 induction n using Nat.strongRecOn with
 |_ n O=>
 intro k L d q hn V hd h;cases n with
 |zero=>omega|succ n=>
 have H:=h.v.nv;have W:=h.v.nh;have X:=h.v.ln;have Y:=LR k V;rw[gN,ep,cH];refine rk (G:=gY (pb k)) (λd=>d.wf) (λd hd=>?_) (λj C=>?_)
 ·--a leaf
  refine rk (G:=gY (pb k)) (λd=>d.wf) (λd hd=>?_) (λj C=>?_)
  ·obtain⟨t,d1,t1,t2,t3,t4,t5,t6⟩:=nt VW h.c Ty.fL aaK hd;rw[t1,cJ,sV VW,cH];refine gY.of t2 ?_;rw[Pf.ea];simp only[c_,Ty.eS];omega
  ·obtain⟨x,d1,K,Z,x3,p⟩:=jn d hd 4 VW VW;rw[K,cJ];refine iu (λ_=>iu (λI=>?_) (λ_=>C _ p)) (λ_=>iu (λ_=>iu (λI=>?_) (λ_=>C _ p)) (λ_=>C _ p))
   ·rw[eV,ej] at I;obtain⟨y,d2,D,E,y3,y4⟩:=jn d1 p q.acZ.length VW VW;rw[ej,D,cJ,show me y=some (Pf.mk 1 y .z [] [] [])from rfl,cH];refine gY.of y4 ?_;rw[Pf.ea];simp only[c_,Ty.eS];omega
   ·rw[eV,ej] at I;obtain⟨y,d2,D,E,y3,y4⟩:=jn d1 p L.length VW VW;rw[ej,D,cJ];refine gY.of y4 ?_;show(Pf.mk 2 y .z [] [] []).wt<=_;rw[Pf.ea];simp only[c_,Ty.eS];omega
 ·refine iu (λI=>?_) (λ_=>C _ hd);rw[oR,oR,ft,ft,eV,ki,ki,ej,ej] at I;obtain⟨aa,R,S⟩:=I;obtain⟨m,rfl⟩:∃m,k=m+1:=⟨k-1,VW⟩;rw[ed VW VW,show((m+1:Nat):Int)-1=(m:Int) by omega];have ab:=LR m VW;have ad:pb (m+1)=3*pb m+1000000:=rfl;have g:∀(d:cV) (q:Sq),d.wf->Mq L q->gY (pb m) (gN n d L q (m:Int)):=λd q hd h=>O n VW m L d q VW VW hd h;obtain⟨x,d1,K,Z,x3,p⟩:=jn d hd 17 VW VW;rw[K,cJ];refine iu (λ_=>?_) (λ_=>?_)
  ·--and
   obtain⟨P,d2,o,i,r⟩:=g d1 q p h;obtain⟨Q,d3,q1,J,T⟩:=g d2 q i h;rw[o,cJ,q1,cJ,Jd VW VW,cH];refine gY.of J ?_;rw[Pf.ea];simp only[c_,Ty.eS];omega
  refine iu (λ_=>?_) (λ_=>?_)
  ·obtain⟨y,d2,D,E,y3,y4⟩:=jn d1 p 2 VW VW;obtain⟨P,d3,o,i,r⟩:=g d2 q y4 h;obtain⟨Q,d4,q1,J,T⟩:=g d3 q i h
   have hw:(Pf.mk 3 0 .z [] [] [P,Q]).wt<=200000000:=by rw[Pf.ea];simp only[c_,Ty.eS];omega
   rw[D,cJ,o,cJ,q1,cJ,Jd VW VW,cH,LY VW,cH];refine gY.of J ?_;rw[Pf.ea];simp only[c_,Ty.eS];rw[Pf.ea];simp only[c_,Ty.eS];omega
  refine iu (λ_=>?_) (λ_=>?_)
  ·obtain⟨F,d2,f1,f2,f3⟩:=yG 1 VW q.acW d1 VW h.c p;have A:Hg q.acW F:=⟨f3.err aaK,f3.ty⟩;have M:=A.wt;obtain⟨P,d3,o,i,r⟩:=g d2 _ f2 (h.with A VW);rw[show(1:Int)=((1:Nat):Int)from rfl,f1,cJ,Bf VW,cH,o,cJ,Q4 VW VW,cH];refine gY.of i ?_;rw[Pf.ea];simp only[c_,Ty.eS];omega
  refine iu (λ_=>?_) (λ_=>?_)
  ·obtain⟨P,d2,o,i,r⟩:=g d1 q p h;rw[o,cJ];rcases xX h.v (P:=P) VW with⟨e,he,h1⟩|⟨f,l,h1,A⟩
   ·rw[h1,cJ,cK (by rw[eW];exact he)];exact C _ i
   ·have M:=A.wt;obtain⟨Q,d3,q1,J,T⟩:=g d2 _ i (h.with A VW)
    have hw:(Pf.mk 6 0 .z [] [f] [Q]).wt<=200000000:=by rw[Pf.ea];simp only[c_,Ty.eS];omega
    rw[h1,cJ,cO abq];simp only[];rw[Bf VW,cH,q1,cJ,Q4 VW VW,cH,Jd VW VW,cH];refine gY.of J ?_;rw[Pf.ea];simp only[c_,Ty.eS];rw[Pf.ea];simp only[c_,Ty.eS];omega
  refine iu (λ_=>?_) (λ_=>?_)
  ·obtain⟨s,d2,s1,s2,w,B⟩:=wu p;obtain⟨P,d3,o,i,r⟩:=g d2 _ B (h.below s2 w VW);rw[s1,cJ,h.Yr s,cH,o,cJ,Dn VW VW,cH];refine gY.of i ?_;rw[Pf.ea];simp only[c_];omega
  refine iu (λ_=>?_) (λ_=>?_)
  ·obtain⟨s,d2,s1,s2,w,B⟩:=wu p;obtain⟨t,d3,t1,t2,t3,t4,t5,t6⟩:=nt VW h.c s2 w B;obtain⟨P,d4,o,i,r⟩:=g d3 _ t2 (h.below s2 w VW)
   have hw:(Pf.mk 8 0 s [] [] [P]).wt<=200000000:=by rw[Pf.ea];simp only[c_];omega
   rw[s1,cJ,t1,cJ,h.Yr s,cH,o,cJ,Dn VW VW,cH,OW VW VW,cH];refine gY.of i ?_;rw[Pf.ea];simp only[c_,Ty.eS];rw[Pf.ea];simp only[c_];omega
  refine iu (λ_=>?_) (λ_=>?_)
  ·--there is a number U is equal to a term
   obtain⟨t,d2,t1,t2,t3,t4,t5,t6⟩:=nt VW h.c Ty.fL aaK p;obtain⟨y,d3,D,E,y3,y4⟩:=jn d2 t2 2 VW VW;obtain⟨a,a1,_⟩:=OJ (a:=5) (b:=7) E y3;obtain⟨b,N,_⟩:=OJ (a:=10) (b:=14) E y3;obtain⟨g1,g2,g3⟩:=Jy t3 t4
   have hr:(Pf.mk 18 0 .z [t] [] []).wt<=3800:=by rw[Pf.ea];simp only[c_,Ty.eS];omega
   have A:(Fm.mk a .nat [] [eqv t]).wt<=4000:=by rw[Fm.ea];simp only[c_,Ty.gd];omega
   rw[t1,cJ,D,cJ,c6,a1,cH,F8 t3 VW t4,Dz aaK VW,cH,c6,N,cH,sV VW,cH,OQ VW VW VW,cH];refine gY.of y4 ?_;rw[Pf.ea];simp only[c_,Ty.eS];omega
  refine iu (λ_=>?_) (λ_=>?_)
  ·obtain⟨P,d2,o,i,r⟩:=g d1 q p h;rw[o,cJ];rcases xX h.v (P:=P) VW with⟨e,he,h1⟩|⟨f,l,h1,A⟩
   ·rw[h1,cJ,cK (by rw[eW];exact he)];exact C _ i
   ·obtain⟨u1,u2⟩:=Br A H;obtain⟨s,d3,s1,s2,w,B⟩:=wu i;obtain⟨y,d4,D,E,y3,y4⟩:=jn d3 B 2 VW VW;obtain⟨a,a1,_⟩:=OJ (a:=5) (b:=7) E y3;obtain⟨b,N,_⟩:=OJ (a:=10) (b:=14) E y3;obtain⟨t,d5,t1,t2,t3,t4,t5,t6⟩:=nt VW h.c s2 w y4
    have hw:(Fm.mk a s [] [f.up 0 1]).wt<=300000:=by rw[Fm.ea];simp only[c_];omega
    rw[h1,cJ,cO abq,s1,cJ,D,cJ,c6,a1,cH,u1,cH,Dz VW VW,cH,c6,N,cH,t1,cJ,OQ VW VW VW,cH];refine gY.of t2 ?_;rw[Pf.ea];simp only[c_,Ty.eS];omega
  refine iu (λ_=>?_) (λ_=>?_)
  ·obtain⟨n',rfl⟩:∃n',n=n'+1:=⟨n-1,VW⟩;obtain⟨P,d2,o,i,r⟩:=O' (n:=n') (k:=m) VW (λd q hd h=>O n' VW m L d q VW VW hd h) p h VW VW;rw[o,cJ];exact gY.of i r
  refine iu (λ_=>?_) (λ_=>?_)
  ·obtain⟨P,d2,o,i,r⟩:=g d1 q p h;rw[o,cJ];rcases xX h.v (P:=P) VW with⟨e,he,h1⟩|⟨f,l,h1,A⟩
   ·rw[h1,cJ,cK (by rw[eW];exact he)];exact C _ i
   ·obtain⟨u1,u2⟩:=Br A H;obtain⟨t,d5,t1,t2,t3,t4,t5,t6⟩:=nt VW h.c Ty.fL aaK i
    have hH:(Pf.mk 1 0 .z [] [] []).wt<=10:=aaK
    rw[h1,cJ,cO abq,u1,cH,t1,cJ,show me 0=some (Pf.mk 1 0 .z [] [] [])from rfl,cH,M3 VW VW VW VW,cH];refine gY.of t2 ?_;rw[Pf.ea];simp only[c_,Ty.eS];omega
  refine iu (λ_=>?_) (λ_=>?_)
  ·obtain⟨P,d2,o,i,r⟩:=g d1 q p h;rw[o,cJ];rcases xX h.v (P:=P) VW with⟨e,he,h1⟩|⟨f,l,h1,A⟩
   ·rw[h1,cJ,cK (by rw[eW];exact he)];exact C _ i
   ·obtain⟨u1,u2⟩:=Br A H;obtain⟨t,d5,t1,t2,t3,t4,t5,t6⟩:=nt VW h.c Ty.oS aaK i
    have hH:(Pf.mk 1 0 .z [] [] []).wt<=10:=aaK
    rw[h1,cJ,cO abq,u1,cH,fA,cH,t1,cJ,show me 0=some (Pf.mk 1 0 .z [] [] [])from rfl,cH,M3 VW VW VW VW,cH];refine gY.of t2 ?_;rw[Pf.ea];simp only[c_,Ty.eS];omega
  refine iu (λ_=>?_) (λ_=>?_)
  ·obtain⟨t,d2,t1,t2,t3,t4,t5,t6⟩:=nt VW h.c Ty.fL aaK p;obtain⟨P,o,i⟩:=KU t5;rw[t1,cJ,o,cH];exact gY.of t2 VW
  refine iu (λ_=>?_) (λ_=>?_)
  ·obtain⟨t,d2,t1,t2,t3,t4,t5,t6⟩:=nt VW h.c Ty.fL aaK p;obtain⟨u,d3,u1,u2,u3,u4,u5,u6⟩:=nt VW h.c Ty.fL aaK t2;have ae:=Tm.Gv u 0 1
   have r1:(Pf.mk 18 0 .z [t] [] []).wt<=3800:=by rw[Pf.ea];simp only[c_,Ty.eS];omega
   have r2:(Pf.mk 18 0 .z [u] [] []).wt<=3800:=by rw[Pf.ea];simp only[c_,Ty.eS];omega
   have r3:(Fm.mk 1 .z [u.up 0 1,u.up 0 1] []).wt<=8000:=by rw[Fm.ea];simp only[c_,Ty.eS];omega
   rw[t1,cJ,u1,cJ,yX u3 VW VW,cH,cH,Bx VW VW,cH,sV VW,cH,sV VW,cH,Ls VW VW VW,cH];refine gY.of u2 ?_;rw[Pf.ea];simp only[c_,Ty.eS];omega
  refine iu (λ_=>?_) (λ_=>?_)
  ·obtain⟨s,d2,s1,s2,w,B⟩:=Sk p;have hb:=h.below s2 w VW;obtain⟨P,d3,o,i,r⟩:=Nr (q:=⟨q.acW++[s],q.acZ.map (Fm.up 0 1)⟩) (by show(q.acW++[s]).length<=600;simp;omega) hb.c B
   have hw:(Pf.mk 8 0 s [] [] [P]).wt<=13000:=by rw[Pf.ea];simp only[c_];omega
   rw[s1,cJ,h.Yr s,cH,o,cJ,Dn VW VW,cH,LY VW,cH];refine gY.of i ?_;rw[Pf.ea];simp only[c_,Ty.eS];omega
  refine iu (λ_=>?_) (λ_=>?_)
  ·obtain⟨s,d2,s1,s2,w,B⟩:=wu p;obtain⟨P,d3,o,i,r⟩:=g d2 _ B (h.below s2 w VW);rw[s1,cJ,h.Yr s,cH,o,cJ,Dn VW VW,cH];refine gY.of i ?_;rw[Pf.ea];simp only[c_];omega
  refine iu (λ_=>?_) (λ_=>C _ p)
  ·obtain⟨s,d2,s1,s2,w,B⟩:=wu p;obtain⟨t,d3,t1,t2,t3,t4,t5,t6⟩:=nt VW h.c s2 w B;obtain⟨P,d4,o,i,r⟩:=g d3 _ t2 (h.below s2 w VW)
   have hw:(Pf.mk 12 0 s [] [] [P]).wt<=200000000:=by rw[Pf.ea];simp only[c_];omega
   rw[s1,cJ,t1,cJ,h.Yr s,cH,o,cJ,Dn VW VW,cH,OW VW VW,cH];refine gY.of i ?_;rw[Pf.ea];simp only[c_,Ty.eS];rw[Pf.ea];simp only[c_];omega
def DN.hg{g:List Ty}{f:Fm}{n:Nat}(h:DN g f n)(hn:n<=4096):Hg g f:=⟨h.err hn,h.ty⟩
def Jr(d:cV)(hd:d.wf):∃L m,uh d=some (L,m)/\m.wf/\L.length<=2/\∀f∈L,DN [] f (fb 2):=by
 have n:pw 3 ([]:List Ty):=⟨λs hs=>by simp at hs⟩;unfold uh;obtain⟨x,d1,h1,p,v,q⟩:=jn d hd 3 VW VW;rw[h1];simp only[cJ,c6]
 obtain⟨o,t,j⟩:=ug (ρ:=List Fm×cV) (F:=Mp λ(a:List Fm) (b:Int) (c:cV)=>
   if kZ b 0 then cT (fJ FU c [] 2) λg d75=>fD (eJ a [g])<|some (eL.next (fa a [g],dZ .i64 b 1,d75))else some (eL.AI (a,b,c)))
  (λs=>0<=s.2.1/\(s.1.length:Int)+s.2.1<=2/\(∀f∈s.1,DN [] f (fb 2))/\s.2.2.wf) (λs=>s.2.1.toNat)
  (λo=>match o with|.inl s=>s.1.length<=2/\(∀f∈s.1,DN [] f (fb 2))/\s.2.2.wf|.inr _=>False)
  (by
   rintro⟨l,i,e⟩ ⟨i1,i2,i3,i4⟩;simp only at i1 i2 i3 i4
   by_cases hi:0<i
   ·left;obtain⟨s,d3,s1,s2,u⟩:=yG 2 VW [] e aa4 n i4;rw[show((2:Nat):Int)=2 from rfl] at s1;refine⟨(l++[s],i-1,d3),?_,⟨?_,?_,?_,s2⟩,?_⟩
    ·simp only[Mp,eV,hi,if_true,s1,cJ];rw[dS aa_,cX,ed VW VW];rfl
    ·show 0<=i-1;omega
    ·simp;omega
    ·intro f k;rcases qA.1 k with h|h
     ·exact i3 f h
     ·rw[yo] at h;subst h;exact u
    ·show(i-1).toNat<i.toNat;omega
   ·right;left
    exact⟨(l,i,e),by simp only[Mp,eV,hi,kY],by show l.length<=2;omega,i3,i4⟩)
  FU ([],x,d1) ⟨p,aa_,λf k=>by simp at k,q⟩ (by show x.toNat<FU;rw[dO];omega)
 rw[t];cases o with
 |inr r=>exact absurd j aa4|inl s=>
  obtain⟨l,i,e⟩:=s;exact⟨l,e,rfl,j.2.2,j.1,j.2.1⟩
def made(l:List Int)(g:l.length<=500):∃L d1 q d2,uh ⟨l,0⟩=some (L,d1)/\sC d1=some (q,d2)/\d2.wf/\Mq L q/\q.acW.length<=3/\q.acZ.length<=2/\L.length<=2:=by
 obtain⟨L,d1,h1,c,d,e⟩:=Jr ⟨l,0⟩ (XR l VW);obtain⟨q,d2,g1,g2,g3,g4,g5,g6⟩:=HP d1 c
 have b:fb 2<=4096:=aaK
 refine⟨L,d1,q,d2,h1,g1,g2,⟨⟨VW,λf a=>(e f a).hg b,λs hs=>(g4.all s hs).1,VW,VW,λf a=>(g6 f a).hg b⟩,g4⟩,g3,g5,d⟩
def Fm.xw{f:Fm}(h:f.ok=true)(hn:f.acU<=4096):f.err=0:=by
 unfold Fm.err;rw[cO h,cK VW]
def Rk{P:Pf}(hw:P.ok=true)(hs:P.small=true):P.err=if P.acU<=16384 then 0 else 4:=by
 unfold Pf.err;rw[cO hw]
 by_cases h:P.acU<=16384
 ·rw[cO ⟨hs,h⟩,cO h]
 ·rw[cK (λa=>h a.2),cK h]
def XT{t:Tm}(h:t.err=0):t.ok=true/\PY t=true:=by
 obtain⟨a,b⟩:=Tm.fS h;exact⟨a,by simpa[PY] using b⟩
def OY{g:List Ty}{hs L:List Fm}{t:Tm}(h:dG g t .nat)(c:jd g)(hg:g.length<=16)(hn:t.acU<=1000):(Pf.mk 18 0 .z [t] [] []).inf L g hs=.inl (.mk 1 .z [t,t] [],0)/\(Pf.mk 18 0 .z [t] [] []).err=0:=by
 have he:t.err=0:=Tm.xw h.ok VW;have d:(Fm.mk 1 .z [t,t] []).err=0:=Fm.xw (j1.eq h h).ok (by rw[Fm.cN];simp only[c_];omega);constructor
 ·rw[Pf.QZ,Rx,ic (Ko h c VW)];unfold Nh;rw[fZ,cO d];cases (Fm.mk 1 .z [t,t] []).has<;>rfl
 ·obtain⟨a,b⟩:=XT he;rw[Rk (by rw[Pf.fV];simp[a,Pf.node,Pf.sig,Ty.p0]) (by rw[Pf.CJ];simp[b]),cO (by rw[Pf.cN];simp only[c_];omega)]
def CD{L:List Fm}{q:Sq}(h:KH L q){P:Pf}(a:P.err=0):QM L q P=P.inf L q.acW q.acZ:=by
 unfold QM;rw[ic h.zero,ic a]
def Xc(g:List Ty)(s:Ty):dG (g++[s]) v0 s:=ya
def UI{f:Fm}{m:Nat}(h:f.err=0):Nh (.inl (f,m))=.inl (f,if f.has then m else 0):=by
 unfold Nh;rw[fZ,cO h]
def Wh:KH [] ⟨[],[]⟩:=⟨aa4,λf h=>by simp at h,λs h=>by simp at h,aa4,aa4,λf h=>by simp at h⟩
def UF:uu=some true:=by
 have g:jd [Ty.nat]:=λs hs=>by rw[yo.1 hs];exact Ty.fL
 obtain⟨a,d⟩:=OY (L:=[]) (hs:=[]) (Xc [] .nat) g aa4 aaK
 have he:(Pf.mk 8 0 .nat [] [] [.mk 18 0 .z [v0] [] []]).err=0:=aaK
 have hi:(Pf.mk 8 0 .nat [] [] [.mk 18 0 .z [v0] [] []]).inf [] [] []=.inl (.mk 4 .nat [] [.mk 1 .z [v0,v0] []],0):=by
  rw[Pf.QZ,SK,mY aaK];have a:(Pf.mk 18 0 .z [v0] [] []).inf [] ([]++[.nat]) (List.map (Fm.up 0 1) [])=.inl (.mk 1 .z [v0,v0] [],0):=a;rw[a,fZ,UI aaK];rw[show(Fm.mk 4 .nat [] [.mk 1 .z [v0,v0] []]).has=false by decide];rfl
 have hw:(Pf.mk 8 0 .nat [] [] [.mk 18 0 .z [v0] [] []]).wt<=100:=aaK
 unfold uu;rw[ep,cH,Bs,cH,sV aaK,cH,Dn aaK aaK,cH];rcases uT Wh.b (P:=.mk 8 0 .nat [] [] [.mk 18 0 .z [v0] [] []]) VW with⟨e,c,q1,_,h⟩|⟨f,m,l,q1,i,h,hu,k,_,c⟩
 ·rw[CD Wh he] at q1;have q1:(Pf.mk 8 0 .nat [] [] [.mk 18 0 .z [v0] [] []]).inf [] [] []=.inr e:=q1;rw[hi] at q1;cases q1
 ·rw[CD Wh he] at q1;have q1:(Pf.mk 8 0 .nat [] [] [.mk 18 0 .z [v0] [] []]).inf [] [] []=.inl (f,m):=q1;rw[hi] at q1;obtain⟨rfl,rfl⟩:=iE (Sum.inl.inj q1);have j:=hu.ext .nil;subst j;rw[i,cJ,c6,cO abq,cO abq,cH,cH,Bx aaK aaK,cH,Dz aaK aaK,cH];obtain⟨r,a,d⟩:=HX FU (.mk 4 .nat [] [.mk 1 .z [v0,v0] []]) (.mk 4 .nat [] [.mk 1 .z [v0,v0] []]) (by rw[dO];decide) aaK;have:=d.2 rfl;subst this;simp only[];rw[a];rfl
end Go.fB
set_option maxRecDepth 20000
namespace Go.fB
open Go
def Pf.adF(p:Pf):p.wt=1+p.cP.acU+c_ Tm.wt p.c9+c_ Fm.wt p.dV+c_ Pf.wt p.acT:=by cases p;exact Pf.ea _ _ _ _ _ _
def ade:∀(n:Nat) (t:Pf) (m:Int),0<=m->m<=20000->m+1<n->∃r,ac2 n t m=some r/\1<=r/\r<=m+2/\(r<=m->r=t.wt):=by
 intro n
 induction n with
 |zero=>intro t m h1 a f;omega|succ n g=>
  intro t m h1 a f;rw[ac2,ed VW VW];obtain⟨c,i,w,c3,j⟩:=ye FU t.cP (m-1) VW VW (by rw[dO];omega);rw[i];simp only[c6,cH];rw[dI VW VW];obtain⟨k,y,l,z,A,o⟩:=BZ (ρ:=Int) t.c9 Tm.wt m 1 (1+c) (mB FU) VW a VW VW VW (λx b d e=>EU FU x b VW VW (by rw[dO];omega));rw[l];simp only[cH,cU,h7];obtain⟨w',k',q1,B,C,p⟩:=BZ (ρ:=Int) t.dV Fm.wt m 1 k (kR FU) VW a VW VW VW (λx b d e=>Bh FU x b VW VW (by rw[dO];omega));rw[q1];simp only[cH,cU,h7];obtain⟨q,D,s,k2,u,v⟩:=BZ (ρ:=Int) t.acT Pf.wt m 1 w' (ac2 n) VW a VW VW VW (λx b d e=>g x b VW VW VW);rw[s];refine⟨q,rfl,VW,u,λh=>?_⟩;rw[Pf.adF,v h,p VW,o VW,j VW];omega
def adm(p:Pf):∃r:Int,ac4 p=some r/\(r<=400->p.wt<=400):=by
 obtain⟨r,h1,b,c,a⟩:=ade FU p 20000 VW VW (by rw[dO];omega);refine⟨r,?_,λh=>by have:=a VW;omega⟩;unfold ac4;rw[h1];rfl
def Gb(f:Fm):∃r:Nat,tj f=some (r:Int)/\1<=r/\r<=20002/\(r<=20000->r=f.wt):=by
 obtain⟨r,h1,b,c,a⟩:=Bh FU f 20000 VW VW (by rw[dO];omega);obtain⟨n,rfl⟩:∃n:Nat,r=(n:Int):=⟨r.toNat,VW⟩;refine⟨n,?_,VW,VW,λh=>by have:=a VW;omega⟩;unfold tj;rw[h1];rfl
def adk(L:List Fm)(q:Sq)(h1:L.length<=10000000)(i:q.acZ.length<=10000000)(k:q.acW.length<=10000000):∃b,ac5 L q=some b/\(b=true->q.acW.length<=500/\∀f∈L++q.acZ,f.wt<=500):=by
 let g:Fm->Nat:=λx=>Classical.choose (Gb x)
 have hg:∀x,tj x=some (g x:Int)/\1<=g x/\g x<=20002/\(g x<=20000->g x=x.wt):=λx=>Classical.choose_spec (Gb x)
 have c:∀m:List Fm,c_ g m<=m.length*20002:=by
  intro m
  induction m with
  |nil=>simp[c_]|cons x m l=>simp only[c_,kN];have:=(hg x).2.2.1;omega
 have hs:=c (L++q.acZ);rw[oJ] at hs;have d:fa L q.acZ=L++q.acZ:=rfl
 have key:=pG (ρ:=Bool) (F:=λ(j:Int) (x:Fm) (v:Int)=>cI (tj x) λa=>some (.next (dF .i64 v a))) g (L++q.acZ) 0 q.acW.length VW (by
  intro j x v n;rw[(hg x).1]
  rfl)
 unfold ac5;rw[show eJ L q.acZ=true by unfold eJ JV;simp only[oI];omega,cX,d,db (by rw[oJ];omega),cX,c6];rw[ej,key,cH,cU];refine⟨_,rfl,λe=>?_⟩;rw[ki] at e;refine⟨VW,λf h=>?_⟩;have:=dh g h;have o:=(hg f).2.2.2 VW;omega
def yB{α:Type}(g:α->Nat):∀(l:List α) (q:Nat) (y:α),c_ g (l.set q y)<=c_ g l+g y
 |[],q,y=>by simp[c_]|a::l,0,y=>by simp only[Jx,c_];omega|a::l,q+1,y=>by
  have:=yB g l q y;simp only[adO,c_];omega
def DY{α:Type}(g:α->Nat):∀(l:List α) (q:Nat) (x y:α),l[q]?=some x->c_ g (l.set q y)+g x=c_ g l+g y
 |a::l,0,x,y,h=>by obtain rfl:=gh h;simp only[Jx,c_];omega
 |a::l,q+1,x,y,h=>by
  have:=DY g l q x y h;simp only[adO,c_];omega
def yl.wt{p c x r:Pf}(h:yl p c x r):r.wt+c.wt=p.wt+x.wt:=by
 induction h with
 |here=>omega|@arg k i ty ts d l q a c x b h1 _ e=>
  rw[Pf.ea,Pf.ea];have:=DY Pf.wt _ _ _ b h1;omega
def Np.wt{M:Nat}{c x:Pf}(h:Np (λt=>t.wt<=M) (λf=>f.wt<=M) (λp=>p.wt<=M) c x):x.wt<=c.wt+M:=by
 cases h with
 |term h=>rw[Pf.ea,Pf.ea];rename_i ts _ _ t;have:=yB Tm.wt ts 0 t;omega
 |form h=>rw[Pf.ea,Pf.ea];rename_i a _ f;have:=yB Fm.wt a 0 f;omega
 |acS=>rw[Pf.ea,Pf.ea];omega|new h=>omega
def Jb:∀(n:Nat) (p:Pf),p.wt<=n->n<=1000000000->tz p
 |0,p,h,_=>by have:=p.gX;omega
 |n+1,.mk k i ty ts b l,h,hn=>by
  rw[Pf.ea] at h;have:=Pf.mQ l;exact .mk VW λx a=>Jb n x (by have:=dh Pf.wt a;omega) VW
abbrev YH:Tm->Prop:=λt=>t.wt<=50000000
abbrev Yf:Fm->Prop:=λt=>t.wt<=50000000
abbrev Yy:Pf->Prop:=λt=>t.wt<=50000000
def Pj{L:List Fm}{q:Sq}(h:Mq L q){d:cV}(hd:d.wf){p:Pf}(a:p.wt<=50000000):Fk cV.wf YH Yf Yy d L q p:=by
 have b:=h.v.nv;refine⟨hd,vV FU p (by rw[dO];omega) VW,Jb _ p a VW,λd hd n h1 e=>jn d hd n h1 e,λd hd=>?_,λd hd=>?_,λd hd=>?_⟩
 ·obtain⟨y,d1,i,j,y3,y4⟩:=wu hd;obtain⟨t,d2,t1,t2,t3,t4,t5⟩:=nt (g:=q.acW) VW h.c j y3 y4;exact⟨y,d1,t,d2,i,t1,t2,by have:=t5.1;show t.wt<=_;omega⟩
 ·obtain⟨f,d1,f1,f2,f3⟩:=vN FU 1 q.acW d (by rw[dO];omega) VW VW h.c hd;have:=f3.wt
  have o:fb 1<=100000:=aaK
  exact⟨f,d1,f1,f2,by show f.wt<=_;omega⟩
 ·obtain⟨P,d3,k,l,r⟩:=Ew FU 1 L d q (by rw[dO];omega) VW hd h;have m:=LR 1 VW;exact⟨P,d3,k,l,by show P.wt<=_;omega⟩
def Xx{p a:Pf}(d:p.wt<=50000000)(h:∃c x,Np YH Yf Yy c x/\yl p c x a):a.wt<=100000000:=by
 obtain⟨c,x,h1,b⟩:=h;have:=Np.wt h1;have:=b.wt;omega
def ac9{f:Fm}{l:List Int}(e:f.wt<=1000000000)(j:l.length<=1000000):ac1 ⟨f,l⟩ ⟨f,l⟩=some true:=by
 obtain⟨r,h1,g⟩:=HX FU f f (by rw[dO];omega) e;have h:r=true:=g.2 rfl;subst h
 have a:dw (di l) (di l)=false:=by simp[dw]
 unfold ac1;simp only[c6,h1,cH,if_true,a,oZ,kY];rw[db VW,cX]
 obtain⟨m,g1,g2⟩:=ads (ρ:=Bool) (F:=λ(b:Int) (c:Int)=>(λ(_:Unit)=>
  cI (de l b) λd=>
  if(dw c d) then(
  some (.ret false))
  else(some (.next ())))) (λ_=>True) l 0 () trivial (λk x s i _=>⟨(),by
   simp only[r_,im,i,cH]
   rw[cK (by simp[dw])],trivial⟩)
 rw[g1];rfl
def adn{L:List Fm}{q:Sq}{P:Pf}(h:SqB L q)(b:P.wt<=1000000000):∃v e,n9 L q P=some (v,e)/\ij L q P=some (v,e)/\ac1 v v=some true:=by
 rcases uT h b with⟨e,_,_,h1,a⟩|⟨f,m,l,_,h1,a,hu,c,_⟩
 ·exact⟨_,e,h1,a,ac9 (by have:=NT;omega) aa4⟩
 ·have:=c.wt;have:=hu.len;exact⟨_,0,h1,a,ac9 VW VW⟩
def DE{α ρ:Type}{F:Int->α->Unit->Option (eL Unit ρ)}:∀{l:List α} {i:Nat},(∀j x,x∈l->F j x ()=some (.next ()))->dN F l i ()=some (.inl ())
 |[],i,_=>rfl|x::l,i,h=>by
  rw[dJ,h _ x aa4];simp only[cH,dW];exact DE λj y hy=>h j y (by simp[hy])
def adr(a:Int):dw a a=false:=by simp[dw]
def adt{a1:List Fm}{a2:Sq}{a3:Pf}{L:List Fm}{q:Sq}{p a:Pf}(h1:SqB a1 a2)(b:SqB L q)(f:a3.wt<=1000000000)(g:p.wt<=1000000000)(h:a.wt<=1000000000):adg a1 a2 a3 L q p a=some true:=by
 unfold adg;simp only[c6,(B3 h1).1,(B3 h1).2,(B3 b).1,(B3 b).2,cH,adr,oZ,kY,db (l:=[a3,p,a]) aa4,cX];rw[DE]
 ·rfl
 intro j s hs
 have hs:s.wt<=1000000000:=by
  simp only[j0,tw,TI] at hs;rcases hs with rfl|rfl|rfl<;>assumption
 obtain⟨v,e,g1,g2,g3⟩:=adn b hs;obtain⟨i,k,c,k2,d⟩:=adn h1 hs;simp only[g1,g2,g3,c,k2,d,cJ,cH,adr,oZ,kY,if_true];rfl
noncomputable def kdK (a1:List Fm) (a2:Sq) (a3:Pf) (d:cV) (L:List Fm) (q:Sq) (p:Pf):Option Bool:=
 @ite _ (Fk cV.wf YH Yf Yy d L q p/\∀p' d',cV.wf d'->(∃c x,Np YH Yf Yy c x/\yl p c x p')->adg a1 a2 a3 L q p p'=some true) (Classical.propDecidable _) (some true) none
def adD{a1:List Fm}{a2:Sq}{a3:Pf}(d:cV)(L:List Fm)(q:Sq)(p:Pf)(r:Bool)(h:kdK a1 a2 a3 d L q p=some r):Fk cV.wf YH Yf Yy d L q p/\∀a b,cV.wf b->(∃c x,Np YH Yf Yy c x/\yl p c x a)->adg a1 a2 a3 L q p a=some r:=by
 unfold kdK at h
 split at h
 ·cases h;assumption
 ·cases h
def adh(a0:List Int)(a1:List Fm)(a2:Sq)(a3:Pf)(i:a1.length<=10000000)(j:a2.acZ.length<=10000000)(k:a2.acW.length<=10000000)(l:∀t∈a2.acW,t.acU<=1000000000):ac3 a0 a1 a2 a3 (kdK a1 a2 a3)=some true:=by
 unfold ac3;rw[UF,cH,cO rfl,c6,Qq,cH]
 by_cases a:500<a0.length
 ·rw[cK (by simpa using a)];exact cO rfl
 have g:a0.length<=500:=VW
 obtain⟨r,n1,n2⟩:=adm a3;rw[cO (by simpa using g),n1,cH]
 by_cases c:kZ r 400=true
 ·rw[cO c];exact cO rfl
 rw[cK c];rw[eV] at c;have hw:=n2 VW;obtain⟨b,s1,s2⟩:=adk a1 a2 i j k;rw[s1,cH];cases b with
 |false=>exact cO rfl|true=>
  obtain⟨x,h⟩:=s2 rfl;simp only[];rw[cK aaK,show M0 a0=some ⟨a0,0⟩from rfl,cH];obtain⟨L,d1,q,d2,m,n,o,hm,_⟩:=made a0 g;obtain⟨P,d3,d,p,y⟩:=Ew FU 3 L d2 q (by rw[dO];omega) VW o hm;have d:gN FU d2 L q 3=some (P,d3):=d;have s:=LR 3 VW;rw[m,cJ,n,cJ,d,cJ];unfold kdK;refine cO ⟨Pj hm p VW,λz A u w=>adt ⟨λf e=>?_,l,VW,λf e=>?_⟩ hm.v.b VW VW (by have:=Xx VW w;omega)⟩
  ·have:=h f aa8;omega
  ·have:=h f aa8;omega
end Go.fB
