/- Part of the proof of KernelUniform: plain facts. -/
import Derived.Test.YtobcafblgapgfaaGreatDoorP2
set_option linter.all false
namespace Go.hJ
open Go
structure TR (d d':et) (s:Bool) (n:Nat):Prop where
 lo:d.abc<=d'.abc
 hi:d'.abc<=d.abc+n
 eq:s=true->d'.abc=d.abc+n
 iz:d'.iz=(d.iz||!s)
def TR.trans{d c a:et}{s e:Bool}{n n':Nat}(h:TR d c s n)(b:TR c a e n'):TR d a (s&&e) (n+n'):=by
 refine⟨by have:=h.lo;have:=b.lo;omega,by have:=h.hi;have:=b.hi;omega,λhs=>?_,?_⟩
 ·rw[gL] at hs;have:=h.eq hs.1;have:=b.eq hs.2;omega
 ·rw[b.iz,h.iz,Bool.not_and,Bool.or_assoc]
def xA{α:Type}{F:Int->α->et->Option (gu et (Bool×et))}(ok small:α->Bool)(sz:α->Nat):∀(l:List α) (i:Nat) (d:et),0<=d.abc->d.abc+eC sz l<=4000000000->(∀(j:Int) (x:α) (d:et),x∈l->0<=d.abc->d.abc+sz x<=4000000000->if ok x=true then∃a,F j x d=some (.next a)/\TR d a (small x) (sz x)else∃a,F j x d=some (.ret (false,a)))->if l.all ok=true then∃a,ft F l i d=some (.inl a)/\TR d a (l.all small) (eC sz l)else∃a,ft F l i d=some (.inr (false,a))
 |[],i,d,_,_,_=>⟨d,rfl,⟨by omega,by simp[eC],λ_=>by simp[eC],by simp⟩⟩|x::l,i,d,m,n,h=>by
  simp only[eC] at n;have b:=h i x d (by simp) m (by omega);rw[xd,xd]
  by_cases c:ok x=true
  ·rw[ee c] at b;obtain⟨d1,g,k⟩:=b;have e:=xA ok small sz l (i+1) d1 (by have:=k.lo;omega) (by have:=k.hi;omega) (λj y d hy=>h j y d (by simp[hy]));rw[fm,g];simp only[cl,fA,eC]
   by_cases f:l.all ok=true
   ·rw[ee f] at e;obtain⟨d2,o,p⟩:=e;rw[ee (by rw[gL];exact⟨c,f⟩)];exact⟨d2,o,k.trans p⟩
   ·rw[ea f] at e;rw[ea (by rw[gL];exactλh=>f h.2)];exact e
  ·rw[ea c] at b;obtain⟨d1,g⟩:=b;rw[ea (by rw[gL];exactλh=>c h.1),fm,g];exact⟨d1,rfl⟩
def CN{d:et}{n e:Int}(a:-1000000000000<=d.abc+n)(b:d.abc+n<=1000000000000):il d n e=some (eW e 2,⟨d.abc+n,d.iz||eH e 4⟩):=by
 unfold il;rw[fu (by omega) (by omega)];cases d.iz<;>rfl
def Tm.Dz(t:Tm):t.err=2/\t.ok=false\/t.ok=true/\Ph t=true/\t.err=0\/t.ok=true/\Ph t=false/\t.err=4:=by
 unfold Tm.err Ph;cases h:t.ok with
 |false=>exact .inl ⟨by simp,rfl⟩|true=>
  by_cases hn:4096<t.abc
  ·exact .inr (.inr ⟨rfl,by simpa using hn,by rw[ee rfl,ee hn]⟩)
  ·exact .inr (.inl ⟨rfl,by simp;omega,by rw[ee rfl,ea hn]⟩)
def Fm.Dz(t:Fm):t.err=2/\t.ok=false\/t.ok=true/\Qn t=true/\t.err=0\/t.ok=true/\Qn t=false/\t.err=4:=by
 unfold Fm.err Qn;cases h:t.ok with
 |false=>exact .inl ⟨by simp,rfl⟩|true=>
  by_cases hn:4096<t.abc
  ·exact .inr (.inr ⟨rfl,by simpa using hn,by rw[ee rfl,ee hn]⟩)
  ·exact .inr (.inl ⟨rfl,by simp;omega,by rw[ee rfl,ea hn]⟩)
def FG{sz:Nat}{e:Int}{ok small:Bool}(c:e=2/\ok=false\/ok=true/\small=true/\e=0\/ok=true/\small=false/\e=4)(hs:sz<=1000000000){d:et}(f:0<=d.abc)(g:d.abc+sz<=4000000000):if ok=true then∃b,(ei (il d (if e=0 then(sz:Int)else 0) e) λa d179=>if a=true then some (.next d179)else some ((.ret (false,d179)):gu et (Bool×et)))=some (.next b)/\TR d b small sz else∃b,(ei (il d (if e=0 then(sz:Int)else 0) e) λa d179=>if a=true then some (.next d179)else some ((.ret (false,d179)):gu et (Bool×et)))=some (.ret (false,b)):=by
 rcases c with⟨rfl,rfl⟩|⟨rfl,rfl,rfl⟩|⟨rfl,rfl,rfl⟩
 ·rw[ea (by decide),ea (by decide),CN (by omega) (by omega),eb,ea (by decide)];exact⟨_,rfl⟩
 ·rw[ee rfl,ee rfl,CN (by omega) (by omega),eb,ee (by decide)];refine⟨_,rfl,⟨?_,?_,λ_=>rfl,?_⟩⟩
  ·show d.abc<=d.abc+sz;omega
  ·exact Int.le_refl _
  ·show(d.iz||eH 0 4)=(d.iz||!true);rfl
 ·rw[ee rfl,ea (by decide),CN (by omega) (by omega),eb,ee (by decide)];refine⟨_,rfl,⟨?_,?_,λh=>by(cases h),?_⟩⟩
  ·show d.abc<=d.abc+0;omega
  ·show d.abc+0<=d.abc+sz;omega
  ·show(d.iz||eH 4 4)=(d.iz||!false);rfl
def GA{d:Bool}{i a b c e nf f:Int}:fU true (fU (tW i 0) true (fU (eW i 0) (fU d (fU (eW e a) true (fU (eW nf b) true (eW f c))) true) (fU (eW e a) true (fU (eW nf b) true (eW f c))))) true=true↔¬(e=a/\nf=b/\f=c/\0<=i/\(d=true\/i=0)):=by
 rw[w7,l7]
 by_cases g:i=0
 ·subst g;rw[show eW 0 0=false from rfl,xo];simp only[l7,p8,lS,eA,or_true,Pr];omega
 ·rw[show eW i 0=true by rw[eA];exact g,w7];cases d with
  |true=>
   simp only[w7,l7,p8,lS,eA,true_or,Pr];omega
  |false=>
   simp only[xo,Bool.or_true,Rw];rintro⟨_,_,_,_,h|h⟩
   ·cases h
   ·exact g h
def Fa{d:Bool}{i a b c e nf f:Int}:fU true (fU (eW e a) true (fU (eW nf b) true (fU (eW f c) true (fU (tW i 0) true (fU d false (eW i 0)))))) true=true↔¬(e=a/\nf=b/\f=c/\0<=i/\(d=true\/i=0)):=by
 cases d with
 |true=>
  simp only[w7,l7,p8,lS,eA,true_or,Pr,tp,sN];omega
 |false=>
  simp only[w7,xo,l7,p8,lS,eA,tp,false_or];omega
def P5(ty:Bool)(s:Ty):Bool:=if ty=true then decide (s.err=0)else s.rq
def E3{k i:Int}{s:Ty}{g nf h:Nat}{j ty:Bool}{a b c:Nat}(hs:Pf.sig k=some (j,ty,a,b,c)):Pf.node k i s g nf h=true↔((g:Int)=a/\(nf:Int)=b/\(h:Int)=c/\0<=i/\(j=true\/i=0))/\P5 ty s=true:=by
 unfold Pf.node P5;rw[hs];simp only[gL,ni,p8];constructor
 ·rintro⟨⟨⟨⟨⟨l,m⟩,n⟩,d⟩,e⟩,f⟩;exact⟨⟨by omega,by omega,by omega,d,e⟩,f⟩
 ·rintro⟨⟨l,m,n,d,e⟩,f⟩;exact⟨⟨⟨⟨⟨by omega,by omega⟩,by omega⟩,d⟩,e⟩,f⟩
def TG(d:et)(A s:Bool)(n:Nat)(o:Option (Bool×et)):Prop:=(A=true->∃a,o=some (true,a)/\TR d a s n)/\(A=false->∃a,o=some (false,a))
def TG.no{d a:et}{A s:Bool}{n:Nat}(h:A=false):TG d A s n (some (false,a)):=⟨λb=>(by rw[h] at b;cases b),λ_=>⟨a,rfl⟩⟩
def O9(n:Nat)(d:et)(k i:Int)(s:Ty)(ts:List Tm)(fs:List Fm)(l:List Pf):iX (n+1) d (.mk k i s ts fs l)=(ei (pR k) λe F=>
 if(fU F (fU (tW i 0) true (fU (eW i 0) (fU e.abd (fU (eW (eM ts) e.ek) true (fU (eW (eM fs) e.fi) true (eW (eM l) e.abb))) true) (fU (eW (eM ts) e.ek) true (fU (eW (eM fs) e.fi) true (eW (eM l) e.abb))))) true)=true then(
 some (false,d))
 else(eJ (λ(z:et)=>
 g_ (fo ts)<|eJ (λ(G:Int) (A:Tm)=>(λ(a:et)=>
 ei (kS A) λg h=>
 ei (il a g h) λj d179=>
 if j=true then(
 some (.next d179))
 else(some (.ret (false,d179)))):Int->Tm->(et)->(Option (gu (et) (Bool×et)))) λm=>
 cv (ft m ts 0 z) (gm (λ(a:et)=>
 g_ (fo fs)<|eJ (λ(D:Int) (o:Fm)=>(λ(b:et)=>
 ei (jr o) λp q=>
 ei (il b p q) λt d322=>
 if t=true then(
 some (.next d322))
 else(some (.ret (false,d322)))):Int->Fm->(et)->(Option (gu (et) (Bool×et)))) λu=>
 cv (ft u fs 0 a) (gm (λ(b:et)=>
 g_ (fo l)<|eJ (λ(E:Int) (v:Pf)=>(λ(c:et)=>
 ei (iX n c v) λw f=>
 if w=true then(
 some (.next f))
 else(some (.ret (false,f)))):Int->Pf->(et)->(Option (gu (et) (Bool×et)))) λx=>
 cv (ft x l 0 b) (gm (λ(c:et)=>
 some (true,c)) (λr=>some r))) (λr=>some r))) (λr=>some r))) λy=>
 if e.typed=true then(
 ei (jy s) λH B=>
 if(eW B 0)=true then(
 some (false,(et.mk (fj .i64 d.abc 1) d.iz)))
 else(y (et.mk (fj .i64 d.abc 1) d.iz)))
 else(cv (oK s) λC=>
 if C=true then(
 y (et.mk (fj .i64 d.abc 1) d.iz))
 else(some (false,(et.mk (fj .i64 d.abc 1) d.iz)))))):=by
 rw[iX];rfl
def Qs:∀(n:Nat) (P:Pf) (d:et),P.wt<=n->P.wt<=1000000000->0<=d.abc->d.abc+P.abc<=4000000000->TG d P.ok P.small P.abc (iX n d P):=by
 intro n
 induction n with
 |zero=>intro P d h;have:=P.jt;omega
 |succ n ih=>
  intro P d hn hb h0 hd;cases P with
  |mk k i s ts fs l=>
   rw[Pf.fI] at hn hb;rw[Pf.ef] at hd|-;have aa:=iu Tm.wt ts λt _=>t.jt;have ab:=iu Fm.wt fs λt _=>t.jt;have ad:=iu Pf.wt l λt _=>t.jt;have m1:=kJ (l:=ts) (λx _=>Tm.iO x);have m2:=kJ (l:=fs) (λx _=>Fm.iO x);have m3:=kJ (l:=l) (λx _=>Pf.iO x);rw[Pf.hY,Pf.xt,O9];rcases PK k with⟨I,r,K⟩|⟨ix,ty,a,b,c,r,I,K,g1,g2,g3,g4,g5⟩
   ·rw[K,eb,xo,ee rfl];exact TG.no (by simp[Pf.node,I])
   ·rw[K,eb,g1,g2,g3,g4,g5,fO,fO,fO]
    by_cases J:(ts.length:Int)=a/\(fs.length:Int)=b/\(l.length:Int)=c/\0<=i/\(ix=true\/i=0)
    ·rw[ea (λh=>GA.1 h J)]
     have p:Pf.node k i s ts.length fs.length l.length=P5 ty s:=by
      rw[By,E3 I];exact⟨λh=>h.2,λh=>⟨J,h⟩⟩
     rw[p];cases f:P5 ty s with
     |false=>
      have e:∀j:et->Option (Bool×et),(if ty=true then ei (jy s) λae L=>if(eW L 0)=true then some (false,(et.mk (fj .i64 d.abc 1) d.iz))else j (et.mk (fj .i64 d.abc 1) d.iz)else cv (oK s) λM=>if M=true then j (et.mk (fj .i64 d.abc 1) d.iz)else some (false,(et.mk (fj .i64 d.abc 1) d.iz)))=some (false,(et.mk (fj .i64 d.abc 1) d.iz)):=by
       intro j;unfold P5 at f
       by_cases q:ty=true
       ·rw[ee q] at f|-
        have N:eW s.err 0=true:=by rw[eA];simpa using f
        rw[lV (by omega),eb,ee N]
       ·rw[ea q] at f|-;rw[sj,cl,f,ea (by decide)]
      refine rD (λ_=>False) (λ_ h=>h.elim) (λj _=>?_);rw[e j];exact TG.no (by simp)
     |true=>
      refine rD (λd1=>d1.abc=d.abc+1/\d1.iz=d.iz) (λd1 g=>?_) (λj hj=>?_)
      ·have t1:=xA (F:=λ(af:Int) (O:Tm)=>(λ(u:et)=>ei (kS O) λv w=>ei (il u v w) λy d179=>if y=true then some (.next d179)else some (.ret (false,d179)))) Tm.ok Ph Tm.abc ts 0 d1 (by omega) (by omega) (λj x d m q0 q1=>by
        have:=eL Tm.wt m;have:=x.iO;rw[sq (by omega),eb]
        exact FG x.Dz (by omega) q0 q1)
       rw[eE (by omega),eo,ey];cases a1:ts.all Tm.ok with
       |false=>
        rw[a1,ea (by decide)] at t1;obtain⟨d2,Q⟩:=t1;rw[Q,cl,qi];exact TG.no (by simp)
       |true=>
        rw[a1,ee rfl] at t1;obtain⟨d2,Q,R⟩:=t1;have u1:=R.lo;have u2:=R.hi;rw[Q,cl,en,eE (by omega),eo,ey]
        have t2:=xA (F:=λ(X:Int) (z:Fm)=>(λ(A:et)=>ei (jr z) λB C=>ei (il A B C) λD d322=>if D=true then some (.next d322)else some (.ret (false,d322)))) Fm.ok Qn Fm.abc fs 0 d2 (by omega) (by omega) (λj x d m q0 q1=>by
         have:=eL Fm.wt m;have:=x.iO;rw[qf (by omega),eb]
         exact FG x.Dz (by omega) q0 q1)
        cases a2:fs.all Fm.ok with
        |false=>
         rw[a2,ea (by decide)] at t2;obtain⟨d3,S⟩:=t2;rw[S,cl,qi];exact TG.no (by simp)
        |true=>
         rw[a2,ee rfl] at t2;obtain⟨d3,S,T⟩:=t2;have u3:=T.lo;have u4:=T.hi;rw[S,cl,en,eE (by omega),eo,ey]
         have t3:=xA (F:=λ(Y:Int) (E:Pf)=>(λ(G:et)=>ei (iX n G E) λH o=>if H=true then some (.next o)else some (.ret (false,o)))) Pf.ok Pf.small Pf.abc l 0 d3 (by omega) (by omega) (λj x d m q0 q1=>by
          have:=eL Pf.wt m;have:=eL Pf.abc m;have:=x.iO;have m:=ih x d (by omega) (by omega) q0 (by omega);cases Z:x.ok with
          |true=>
           obtain⟨U,V,w2⟩:=m.1 Z;rw[ee rfl,V,eb,ee rfl];exact⟨U,rfl,w2⟩
          |false=>
           obtain⟨U,V⟩:=m.2 Z;rw[ea (by decide),V,eb,ea (by decide)]
           exact⟨U,rfl⟩)
         cases a3:l.all Pf.ok with
         |false=>
          rw[a3,ea (by decide)] at t3;obtain⟨d4,W⟩:=t3;rw[W,cl,qi];exact TG.no (by simp)
         |true=>
          rw[a3,ee rfl] at t3;obtain⟨d4,W,r4⟩:=t3;rw[W,cl,en];refine⟨λ_=>⟨d4,rfl,?_⟩,λh=>by simp at h⟩;have r0:TR d d1 true 1:=⟨by omega,by omega,λ_=>by omega,by simp[g.2]⟩;have:=((r0.trans R).trans T).trans r4;rw[z8] at this;exact this
      ·have g:=hj (et.mk (fj .i64 d.abc 1) d.iz) ⟨by show fj .i64 d.abc 1=_;rw[fu (by omega) (by omega)],rfl⟩;unfold P5 at f
       by_cases q:ty=true
       ·rw[ee q] at f|-
        have N:¬eW s.err 0=true:=by rw[eA];simpa using f
        rw[lV (by omega),eb,ea N];exact g
       ·rw[ea q] at f|-;rw[sj,cl,f,ee rfl];exact g
    ·rw[ee (GA.2 J)];refine TG.no ?_
     have:Pf.node k i s ts.length fs.length l.length=false:=by
      rw[MT]
      exactλh=>J ((E3 I).1 h).1
     rw[this];simp
def FN{P:Pf}(h:P.wt<=1000000000):tO P=some P.err:=by
 have hn:=P.iO;have c:=Qs FU P (et.mk 0 false) (by rw[fy];omega) h (by show(0:Int)<=0;omega) (by show(0:Int)+_<=_;omega);unfold tO ra Pf.err;cases d:P.ok with
 |false=>
  obtain⟨b,e⟩:=c.2 d;rw[e,eb,ea (by decide),eb,ea (by decide)]
 |true=>
  obtain⟨b,e,r⟩:=c.1 d;rw[e,eb,ee rfl,ee rfl];have f:b.iz=!P.small:=r.iz;rw[f,l7];cases hs:P.small with
  |false=>rw[ee (by rfl),eb,ea (λh=>by cases h.1)]
  |true=>
   have g:b.abc=(0:Int)+P.abc:=r.eq hs
   by_cases a:P.abc<=16384
   ·rw[ea (by rw[PC,KL,gD];omega),eb,ee ⟨rfl,a⟩]
   ·rw[ee (by rw[PC,KL,gD];omega),eb,ea (λh=>a h.2)]
def OX(n:Nat)(k i:Int)(s:Ty)(ts:List Tm)(fs:List Fm)(l:List Pf):nE (n+1) (.mk k i s ts fs l)=(ei (pX k) λb v=>
 if(fU v (fU (eW (eM ts) b.ek) true (fU (eW (eM fs) b.fi) true (fU (eW (eM l) b.abb) true (fU (tW i 0) true (fU b.abd false (eW i 0)))))) true)=true then(
 some false)
 else(eJ (λ(h:Bool)=>
 if h=true then(
 some false)
 else(g_ (fo ts)<|eJ (λ(w:Int) (j:Tm)=>(λ(_:Unit)=>
 cv (ku FU j) λm=>
 if m=true then(
 some (.next ()))
 else(some (.ret false))):Int->Tm->(Unit)->(Option (gu (Unit) (Bool)))) λo=>
 cv (ft o ts 0 ()) (gm (λ(_:Unit)=>
 g_ (fo fs)<|eJ (λ(x:Int) (p:Fm)=>(λ(_:Unit)=>
 cv (lJ FU p) λc=>
 if c=true then(
 some (.next ()))
 else(some (.ret false))):Int->Fm->(Unit)->(Option (gu (Unit) (Bool)))) λd=>
 cv (ft d fs 0 ()) (gm (λ(_:Unit)=>
 g_ (fo l)<|eJ (λ(u:Int) (e:Pf)=>(λ(_:Unit)=>
 cv (nE n e) λf=>
 if f=true then(
 some (.next ()))
 else(some (.ret false))):Int->Pf->(Unit)->(Option (gu (Unit) (Bool)))) λg=>
 cv (ft g l 0 ()) (gm (λ(_:Unit)=>
 some true) (λr=>some r))) (λr=>some r))) (λr=>some r)))) λa=>
 if b.pF=true then(
 cv (jw s) λq=>
 if(eW q 0)=true then(
 a true)
 else(a false))
 else(cv (p_ s) λt=>
 a (nC t)))):=by
 rw[nE];rfl
def Fw:∀(n:Nat) (P:Pf),P.wt<=n->P.wt<=1000000000->nE n P=some P.ok:=by
 intro n
 induction n with
 |zero=>intro P h;have:=P.jt;omega
 |succ n w=>
  intro P hn y;cases P with
  |mk k i s ts fs l=>
   rw[Pf.fI] at hn y;have z:=iu Tm.wt ts λt _=>t.jt;have A:=iu Fm.wt fs λt _=>t.jt;have B:=iu Pf.wt l λt _=>t.jt;rw[Pf.hY,OX];rcases NN k with⟨m,r,q⟩|⟨C,ty,a,b,c,r,m,q,g1,g2,g3,g4,g5⟩
   ·rw[q,eb,xo,ee rfl];simp[Pf.node,m]
   ·rw[q,eb,g1,g2,g3,g4,g5,fO,fO,fO]
    by_cases p:(ts.length:Int)=a/\(fs.length:Int)=b/\(l.length:Int)=c/\0<=i/\(C=true\/i=0)
    ·rw[ea (λh=>Fa.1 h p)]
     have e:Pf.node k i s ts.length fs.length l.length=P5 ty s:=by
      rw[By,E3 m];exact⟨λh=>h.2,λh=>⟨p,h⟩⟩
     rw[e];refine rD (G:=λo=>o=some (P5 ty s&&ts.all Tm.ok&&fs.all Fm.ok&&l.all Pf.ok)) (λv=>v=!P5 ty s) (λv D=>?_) (λj E=>?_)
     ·rw[D];cases P5 ty s with
      |false=>rfl|true=>
       rw[ea (by decide),eE (by omega),eo,ey,q9 Tm.ok false ts 0 (λj x g=>by
        have:=eL Tm.wt g
        rw[xE (by omega),cl]),z8]
       cases ts.all Tm.ok with
       |false=>rfl|true=>
        rw[ee rfl,cl,en,eE (by omega),eo,ey,q9 Fm.ok false fs 0 (λj x g=>by
         have:=eL Fm.wt g
         rw[zh FU x (by rw[fy];omega) (by omega),cl]),z8]
        cases fs.all Fm.ok with
        |false=>rfl|true=>
         rw[ee rfl,cl,en,eE (by omega),eo,ey,q9 Pf.ok false l 0 (λj x g=>by
          have:=eL Pf.wt g
          rw[w x (by omega) (by omega),cl]),z8]
         cases l.all Pf.ok with
         |false=>rfl|true=>rfl
     ·have d:=E (!P5 ty s) rfl;unfold P5 at d|-
      by_cases f:ty=true
      ·rw[ee f] at d;rw[ee f,ee f,mO (by omega),cl]
       by_cases he:s.err=0
       ·have u:¬eW s.err 0=true:=by rw[eA];simpa using he
        rw[ea u];rw[vF he] at d|-;exact d
       ·have u:eW s.err 0=true:=by rw[eA];exact he
        rw[ee u];rw[Dw he] at d|-;exact d
      ·rw[ea f] at d;rw[ea f,ea f,wD,cl,Tl];exact d
    ·rw[ee (Fa.2 p)]
     have:Pf.node k i s ts.length fs.length l.length=false:=by
      rw[MT]
      exactλh=>p ((E3 m).1 h).1
     rw[this];simp
def zz:∀(n:Nat) (P:Pf),P.wt<=n->P.wt<=1000000000->qh n P=some P.small:=by
 intro n
 induction n with
 |zero=>intro P h;have:=P.jt;omega
 |succ n b=>
  intro P hn c;cases P with
  |mk k i s ts fs l=>
   rw[Pf.fI] at hn c;have d:=iu Tm.wt ts λt _=>t.jt;have e:=iu Fm.wt fs λt _=>t.jt;have f:=iu Pf.wt l λt _=>t.jt;rw[Pf.xt,qh];simp only[Pf.hU,Pf.y5,Pf.eG,ey]
   rw[eE (by omega),eo,q9 Ph false ts 0 (λj x a=>by
    have:=eL Tm.wt a;have:=x.iO;rw[oe FU x (by rw[fy];omega) (by omega),cl]
    by_cases hs:x.abc<=4096
    ·rw[ea (by rw[gD];omega),ee (show Ph x=true from vF hs)]
    ·rw[ee (by rw[gD];omega),ea (by simpa[Ph] using hs)])]
   cases ts.all Ph with
   |false=>rfl|true=>
    rw[ee rfl,cl,en,eE (by omega),eo,q9 Qn false fs 0 (λj x a=>by
     have:=eL Fm.wt a;have:=x.iO;rw[sh FU x (by rw[fy];omega) (by omega),cl]
     by_cases hs:x.abc<=4096
     ·rw[ea (by rw[gD];omega),ee (show Qn x=true from vF hs)]
     ·rw[ee (by rw[gD];omega),ea (by simpa[Qn] using hs)]),z8]
    cases fs.all Qn with
    |false=>rfl|true=>
     rw[ee rfl,cl,en,eE (by omega),eo,q9 Pf.small false l 0 (λj x a=>by
      have:=eL Pf.wt a
      rw[b x (by omega) (by omega),cl]),z8]
     cases l.all Pf.small with
     |false=>rfl|true=>rfl
def yB:∀(n:Nat) (P:Pf),P.wt<=n->P.wt<=1000000000->pU n P=some (P.abc:Int):=by
 intro n
 induction n with
 |zero=>intro P h;have:=P.jt;omega
 |succ n b=>
  intro P hn c;cases P with
  |mk k i s ts fs l=>
   rw[Pf.fI] at hn c;have d:=iu Tm.wt ts λt _=>t.jt;have e:=iu Fm.wt fs λt _=>t.jt;have f:=iu Pf.wt l λt _=>t.jt;have g:=kJ (l:=ts) (λx _=>Tm.iO x);have m:=kJ (l:=fs) (λx _=>Fm.iO x);have o:=kJ (l:=l) (λx _=>Pf.iO x);rw[Pf.ef,pU];simp only[Pf.hU,Pf.y5,Pf.eG,ey]
   rw[eE (by omega),eo,show(1:Int)=((1:Nat):Int)from rfl,qk Tm.abc ts 0 1 (by omega) (λj x v a=>by
    have:=eL Tm.wt a;have:=x.iO
    rw[oe FU x (by rw[fy];omega) (by omega),cl]),cl,en,eE (by omega),eo,qk Fm.abc fs 0 _ (by omega) (λj x v a=>by
    have:=eL Fm.wt a;have:=x.iO
    rw[sh FU x (by rw[fy];omega) (by omega),cl]),cl,en,eE (by omega),eo,qk Pf.abc l 0 _ (by omega) (λj x v a=>by
    have:=eL Pf.wt a
    rw[b x (by omega) (by omega),cl]),cl,en]
def yM{P:Pf}(h:P.wt<=1000000000):rJ P=some P.err:=by
 unfold rJ s_ Pf.err;rw[Fw FU P (by rw[fy];omega) h,cl];cases P.ok with
 |false=>rfl|true=>
  rw[ee rfl,ee rfl,ey,zz FU P (by rw[fy];omega) h,cl];cases P.small with
  |false=>rfl|true=>
   rw[ee rfl,yB FU P (by rw[fy];omega) h,cl,cl]
   by_cases a:P.abc<=16384
   ·rw[ee (by rw[zJ];omega),ee ⟨rfl,a⟩]
   ·rw[ea (by rw[zJ];omega),ea (λh=>a h.2)]
def Pf.Y3{P:Pf}(h:P.err=0):zR P/\P.abc<=16384:=by
 unfold Pf.err at h;cases a:P.ok with
 |false=>rw[a] at h;cases h
 |true=>
  rw[a,ee rfl] at h
  by_cases b:P.small=true/\P.abc<=16384
  ·exact⟨P.w a b.1,b.2⟩
  ·rw[ea b] at h;cases h
def Us.E0{l:List Int}{m:Nat}(h:Us l m)(x:Int):x∈l↔0<=x/\m.testBit x.toNat=true:=by
 constructor
 ·intro b;have a:=h.pos x b;refine⟨a,(h.mem x.toNat).1 ?_⟩
  rwa [YE a]
 ·rintro⟨a,c⟩;have:=(h.mem x.toNat).2 c
  rwa [YE a] at this
def Us.ext{l a:List Int}{m:Nat}(h:Us l m)(b:Us a m):l=a:=Bk.eq h.UH b.UH λx=>by rw[h.E0,b.E0]
def P7{k q m:Nat}(hm:m=2^(k+1)*q+2^k)(j:Nat):(m&&&(m-1)).testBit j=(m.testBit j&&!decide (j=k)):=by
 have c:2^k<2^(k+1):=TM (by decide) (by omega);have d:0<2^k:=Nat.two_pow_pos k
 have e:m-1=2^(k+1)*q+(2^k-1):=by omega
 rw[Nat.testBit_and,e,hm,V9 _ c,V9 _ (by omega)]
 by_cases a:j<k+1
 ·rw[ee a,ee a,Tc,Nat.testBit_two_pow_sub_one]
  by_cases b:j=k
  ·simp[b]
  ·rw[Dw (show¬k=j by omega)];simp
 ·rw[ea a,ea a,Dw (show¬j=k by omega)];simp
def TZ{a:Int}{l:List Int}{m:Nat}(h:Us (a::l) m):m≠0/\((Lib.ctz 32 m:Nat):Int)=a/\Us l (m&&&(m-1)):=by
 have s:=h.pos a (by simp);obtain⟨k,rfl⟩:∃k:Nat,a=k:=⟨a.toNat,by omega⟩;have d:m.testBit k=true:=(h.mem k).1 (by simp)
 have f:m≠0:=by rintro rfl;simp at d
 cases h.UH with
 |cons s1 s2=>
  have g:∀i,i<k->m.testBit i=false:=λi hi=>by
   rw[MT];intro t;rcases lF.1 ((h.mem i).2 t)with e|e
   ·omega
   ·have:=s1 _ e;omega
  have n:Lib.ctz 32 m=Lib.ctzFrom 32 m:=by unfold Lib.ctz;rw[ea f]
  obtain⟨q,p,_⟩:=Lib.ctzFrom_spec 32 m (by omega) (by have:=h.lt;omega);rw[<-n] at p
  have c:m=2^(Lib.ctz 32 m+1)*q+2^Lib.ctz 32 m:=by
   rw[V4,Nat.mul_assoc,<-Nat.mul_succ];exact p
  have r:Lib.ctz 32 m=k:=by
   have b:∀j,j<=Lib.ctz 32 m->m.testBit j=decide (Lib.ctz 32 m=j):=λj y=>by
    have u:2^Lib.ctz 32 m<2^(Lib.ctz 32 m+1):=TM (by decide) (by omega)
    conv=>lhs;rw[c]
    rw[V9 _ u,ee (by omega),Tc]
   rcases X5 (Lib.ctz 32 m) k with o|heq|hgt
   ·have:=b _ (jh _);rw[g _ o] at this;simp at this
   ·exact heq
   ·have:=b k (by omega);rw[d,Dw (by omega)] at this;cases this
  rw[r] at c;refine⟨f,by rw[r],⟨Zv Nat.and_le_left h.lt,λx v=>h.pos x (by simp[v]),s2,λi=>?_⟩⟩;rw[P7 c,gL,<-h.mem i];simp only[WC,Th];constructor
  ·intro hi;refine⟨by simp[hi],?_⟩;rintro rfl;have:=s1 _ hi;omega
  ·rintro⟨hi,w⟩;rcases lF.1 hi with e|e
   ·omega
   ·exact e
def Us.zero{m:Nat}(h:Us [] m):m=0:=by
 refine YB λi=>?_;rw[Nat.zero_testBit,MT];intro a;have:=(h.mem i).2 a;simp at this
def D4:∀(l:List Int) (m:Nat) (v:List Int) (n:Nat),Us l m->l.length<n->v.length+l.length<=1000000->oH (sD λ(v37:Int) (b:List Int)=>
   if(eW v37 0)=true then(
   cv (iP v37) λc=>
   g_ (gf b [c])<|some ((.next ((qA .u32 v37 (fB .u32 v37 1)),(gv b [c]))):gu (Int×List Int) (List Int)))
   else(some (.DQ (v37,b)))) n ((m:Int),v)=some (.inl (0,v++l))
 |l,m,v,0,_,hn,_=>by omega|[],m,v,n+1,h,_,_=>by
  rw[h.zero,oH];simp only[sD];rw[ea (show¬eW ((0:Nat):Int) 0=true by decide)];simp
 |a::l,m,v,n+1,h,hn,e=>by
  simp only[lL] at hn e;obtain⟨i,f,hu⟩:=TZ h;have d:=h.lt
  have g:eW (m:Int) 0=true:=by rw[eA];omega
  rw[oH];simp only[sD];rw[ee g];rw[show iP (m:Int)=some a by unfold iP;rw[ee (by omega),As,f],cl,fl (by simp;omega),eo,cl,fA,gG];rw[show fB .u32 (m:Int) 1=((m-1:Nat):Int) by unfold fB;rw[E_ (by omega) (by omega)];omega,L5 d (by omega)];rw[D4 l _ (v++[a]) n hu (by omega) (by simp;omega)];simp
def PE{l:List Int}{m:Nat}(h:Us l m):kj (m:Int)=some l:=by
 have a:=h.len;unfold kj;rw[ey,D4 l m [] FU h (by rw[fy];omega) (by simp;omega),cl];simp[sD]
def Mc:∀(n:Nat) (t:Tm),t.abc<=n->t.abc<=50000000->t.ok=true->vA n t=some t:=by
 intro n
 induction n with
 |zero=>intro t h;have:=t.eQ;omega
 |succ n c=>
  intro t hn d a;cases t with
  |mk k i s l=>
   rw[Tm.ef] at hn d;have g:=Tm.fQ l;have hi:=Tm.l6 a;rw[Tm.hY,gL] at a;have e:=Ty.wc a.1;rw[vA];simp only[Tm.eN,Tm.gy,Tm.fv,Tm.eG,ey]
   rw[py (by omega),cl,eE (by omega),eo,iT id l 0 [] (by simp;omega) (λj x v b f=>by
    have:=eL Tm.abc b
    rw[c x (by omega) (by omega) (hi.2.2.2.1 x b),cl,fl (by simpa using f),eo,gG];rfl)]
   simp
def Fm.VF:∀(f:Fm) (b:Int),f.Hr (λt _=>t) b=f:=by
 intro f
 induction f using Fm.ind with
 |h k s ts l a=>
  intro b;rw[Fm.yC,xx (g:=id) (λx c=>a x c _)];simp
def AQ{f:Fm}(h:f.err=0)(c:f.abg 1000000000000=true):pj f=some f:=by
 obtain⟨d,hn⟩:=Fm.hZ h;unfold pj;rw[oS (h:=λe g=>ny e g) (ψ:=λt _=>t) (λt b a _ _=>?_) FU f 0 (by rw[fy];omega) (by omega) d c (by omega) (by omega)]
 ·rw[eb,Fm.VF]
 ·have:=a.abc;unfold ny;rw[Mc FU t (by rw[fy];omega) a.abc a.ok];rfl
noncomputable def Hc (L:List Fm) (q:Sq):Int:=if 32<L.length then 3 else if hE (L.map λf=>G6 f [])≠0 then hE (L.map λf=>G6 f [])else if wx q.abe≠0 then wx q.abe else if 16<q.abh.length then 3 else hE (q.abh.map λf=>G6 f q.abe)
structure Z0 (L:List Fm) (q:Sq):Prop where
 NF:∀f∈L,f.wt<=1000000000
 MZ:∀t∈q.abe,t.abc<=1000000000
 ZC:q.abe.length<=1000000
 abh:∀f∈q.abh,f.wt<=1000000000
def xZ{e:Int}:(cv (some e) λa=>if(eW a 0)=true then some (.ret a)else some ((.next ()):gu Unit Int))=if e≠0 then some (.ret e)else some (.next ()):=by
 rw[cl]
 by_cases h:e=0
 ·subst h;rfl
 ·rw[ee (by rw[eA];exact h),ee h]
def Og{C:List Ty->Option Int}{T:List Ty->Fm->Option Int}{L:List Fm}{q:Sq}(o:C q.abe=some (wx q.abe))(p:∀f∈L,T [] f=some (G6 f []))(s:∀f∈q.abh,T q.abe f=some (G6 f q.abe)):(if(nS (eM L) 32)=true then some 3 else g_ (fo L)<|eJ (λ(t:Int) (e:Fm)=>(λ(_:Unit)=>cv (T [] e) λa=>if(eW a 0)=true then some (.ret a)else some ((.next ()):gu Unit Int))) λg=>
   cv (ft g L 0 ()) (gm (λ(_:Unit)=>cv (C q.abe) λb=>if(eW b 0)=true then some b else if(nS (eM q.abh) 16)=true then some 3 else g_ (fo q.abh)<|eJ (λ(u:Int) (i:Fm)=>(λ(_:Unit)=>cv (T q.abe i) λc=>if(eW c 0)=true then some (.ret c)else some ((.next ()):gu Unit Int))) λk=>
    cv (ft k q.abh 0 ()) (gm (λ(_:Unit)=>some 0) (λr=>some r))) (λr=>some r)))=some (Hc L q):=by
 unfold Hc;rw[fO]
 by_cases m:32<L.length
 ·rw[ee (by rw[gD];omega),ee m]
 ·have v:¬nS (L.length:Int) 32=true:=by rw[gD];omega
  rw[ea v,ea m,eE (by omega),eo,ey];rw[lj (λf=>G6 f []) L 0 (λj x l=>by rw[p x l];exact xZ)]
  by_cases d:hE (L.map λf=>G6 f [])=0
  ·rw[ee d,ea (show¬(hE (L.map λf=>G6 f [])≠0)fromλh=>h d),cl,en,o,cl]
   by_cases c3:wx q.abe=0
   ·have z2:¬eW (wx q.abe) 0=true:=by rw[eA];simpa using c3
    rw[ea z2,ea (show¬(wx q.abe≠0)fromλh=>h c3),fO]
    by_cases n:16<q.abh.length
    ·rw[ee (by rw[gD];omega),ee n]
    ·have z3:¬nS (q.abh.length:Int) 16=true:=by rw[gD];omega
     rw[ea z3,ea n,eE (by omega),eo,ey];rw[lj (λf=>G6 f q.abe) q.abh 0 (λj x l=>by rw[s x l];exact xZ)]
     by_cases c5:hE (q.abh.map λf=>G6 f q.abe)=0
     ·rw[ee c5,c5];rfl
     ·rw[ea c5];rfl
   ·have z2:eW (wx q.abe) 0=true:=by rw[eA];exact c3
    rw[ee z2,ee c3]
  ·rw[ea d,ee d];rfl
def Bx{L:List Fm}{q:Sq}(h:Z0 L q):sk L q=some (Hc L q)/\tm L q=some (Hc L q):=by
 have a:∀t∈([]:List Ty),t.abc<=1000000000:=λt c=>by simp at c
 exact⟨Og (C:=nQ) (T:=nO) (xe q.abe h.ZC h.MZ) (λx b=>wZ (h.NF x b) (by simp) a) (λx b=>wZ (h.abh x b) h.ZC h.MZ),Og (C:=mH) (T:=ki) (sG q.abe h.ZC h.MZ) (λx b=>uH (h.NF x b) (by simp) a) (λx b=>uH (h.abh x b) h.ZC h.MZ)⟩
def yV:∀{l:List Int},(∀e∈l,e=0)->hE l=0
 |[],_=>rfl|a::l,h=>by
  rw[hE,ee (h a (by simp))];exact yV λe he=>h e (by simp[he])
def y9:∀{l:List Int},hE l=0->∀e∈l,e=0
 |[],_,e,he=>by simp at he
 |a::l,h,e,he=>by
  rw[hE] at h
  by_cases b:a=0
  ·rw[ee b] at h;rcases lF.1 he with rfl|he
   ·exact b
   ·exact y9 h e he
  ·rw[ea b] at h;exact absurd h b
def RW{f:Fm}{g:List Ty}(h:G6 f g=0):Hg g f:=by
 unfold G6 at h
 by_cases b:wx g=0
 ·rw[ea (λh=>h b)] at h
  by_cases a:f.err=0
  ·rw[ea (λh=>h a)] at h;exact⟨a,sJ f (Fm.hZ a).1 g (kf.of b).1 h⟩
  ·rw[ee a] at h;exact absurd h a
 ·rw[ee b] at h;exact absurd h b
structure HS (L:List Fm) (q:Sq):Prop where
 ln:L.length<=32
 NF:∀f∈L,Hg [] f
 ctx:kf q.abe
 nv:q.abe.length<=16
 nh:q.abh.length<=16
 abh:∀f∈q.abh,Hg q.abe f
def OH{L:List Fm}{q:Sq}(h:Hc L q=0):HS L q:=by
 unfold Hc at h
 by_cases d:32<L.length
 ·rw[ee d] at h;cases h
 ·rw[ea d] at h
  by_cases a:hE (L.map λf=>G6 f [])=0
  ·rw[ea (λh=>h a)] at h
   by_cases b:wx q.abe=0
   ·rw[ea (λh=>h b)] at h
    by_cases e:16<q.abh.length
    ·rw[ee e] at h;cases h
    ·rw[ea e] at h;obtain⟨g,i⟩:=kf.of b;exact⟨by omega,λf c=>RW (y9 a _ (od.2 ⟨f,c,rfl⟩)),g,i,by omega,λf c=>RW (y9 h _ (od.2 ⟨f,c,rfl⟩))⟩
   ·rw[ee b] at h;exact absurd h b
  ·rw[ee a] at h;exact absurd h a
def HS.zero{L:List Fm}{q:Sq}(h:HS L q):Hc L q=0:=by
 have c:∀{g:List Ty} {f:Fm},kf g->g.length<=16->Hg g f->G6 f g=0:=λhg b a=>by
  unfold G6;rw[E8 hg b,ea (by decide),ea (λh=>h a.err)];exact JG a.ty hg (by have:=a.abc;omega)
 have d:hE (L.map λf=>G6 f [])=0:=yV λe he=>by
  obtain⟨f,a,rfl⟩:=od.1 he;exact c (λ_ h=>by simp at h) (by simp) (h.NF f a)
 have i:hE (q.abh.map λf=>G6 f q.abe)=0:=yV λe he=>by
  obtain⟨f,a,rfl⟩:=od.1 he;exact c h.ctx h.nv (h.abh f a)
 unfold Hc;have:=h.ln;have:=h.nh;rw[ea (by omega),d,ea (by decide),E8 h.ctx h.nv,ea (by decide),ea (by omega),i]
def F_{T:List ed}{N:Nat}(g:N<=1000000):∀(l:List Fm) (j:Nat) (k:List ew),k.length+l.length<=1000000->ft (λ(i:Int) (b:Fm)=>(Xc λ(c:Int) (v46:Int) (d:List ed) (e:List ew)=>
   cv (gi (eh.mk (e_.mk c v46) d e) b) λa=>
   some ((.next (a.gk.vars,a.gk.abh,a.abe,a.known)):gu (Int×Int×(List ed)×(List ew)) (eh)))) l j ((N:Int),(k.length:Int),T,k)=some (.inl ((N:Int),((k.length+l.length:Nat):Int),T,k++l.map λf=>ew.mk f N))
 |[],j,k,_=>by simp|f::l,j,k,h=>by
  simp only[lL] at h;rw[fm];simp only[Xc];unfold gi;rw[fl (by simp;omega),eo,cl];simp only[cl,fA,gG];rw[fu (by omega) (by omega)];have:=F_ (T:=T) g l (j+1) (k++[ew.mk f N]) (by simp;omega);rw[show(k.length:Int)+1=((k++[ew.mk f N]).length:Int) by simp];unfold gi at this;simp only[gG] at this;rw[this];simp;omega
def start_eq{L:List Fm}{q:Sq}(h:HS L q):∃p,r5 q=some p/\PG L p (ej.mk L q.abe q.abh):=by
 have d:=h.nh;have a:=h.nv;refine⟨eh.mk (e_.mk (q.abe.length:Int) (q.abh.length:Int)) (q.abe.map s9) (q.abh.map λf=>ew.mk f q.abe.length),?_,⟨⟨rfl,rfl,rfl,h.ctx,a,d,by simp,?_⟩,rfl,h.NF,h.abh⟩⟩
 ·unfold r5;rw[vj h.ctx (by omega),cl,eE (by omega),eo,ey,fO];have:=F_ (T:=q.abe.map s9) (N:=q.abe.length) (by omega) q.abh 0 [] (by simp;omega);rw[show(([]:List ew).length:Int)=0 from rfl] at this;rw[this,cl];simp[Xc]
 ·intro i x g b c;have b:(q.abh.map λf=>ew.mk f q.abe.length)[i]?=some x:=b;have c:q.abh[i]?=some g:=c;rw[ur,c] at b;obtain rfl:=iw b;have hg:=h.abh g (Dc c);refine⟨hg.hy a,by show(0:Int)<=(q.abe.length:Int);omega,by show((q.abe.length:Nat):Int)<=(q.abe.length:Int);omega,?_⟩;show g=g.up 0 ((q.abe.length:Int)-(q.abe.length:Int));rw[Int.sub_self,Fm.xL]
def Pf.OD:∀(l:List Pf),(∀x∈l,x.yx<=x.abc)->Pf.vG l<=eC Pf.abc l
 |[],_=>by simp[Pf.vG]|a::l,b=>by
  have d:=b a (by simp);have e:=Pf.OD l (λx c=>b x (by simp[c]));simp only[Pf.vG,eC];omega
def Pf.PY(p:Pf):p.yx<=p.abc:=by
 induction p using Pf.ind with
 |h k i s ts fs l a=>
  rw[Pf.ef,Pf.yx];have:=Pf.OD l a;omega
noncomputable def Nf (L:List Fm) (q:Sq) (P:Pf):PR:=ma (Hc L q) (ma P.err (P.inf L q.abe q.abh))
def rn{L:List Fm}{q:Sq}{P:Pf}(h:Z0 L q)(j:P.wt<=1000000000):(∃e,e≠0/\Nf L q P=.inr e/\jH L q P=some (⟨hW,[]⟩,e)/\jL L q P=some (⟨hW,[]⟩,e))\/∃(f:Fm) (m:Nat) (l:List Int),Nf L q P=.inl (f,m)/\jH L q P=some (⟨f,l⟩,0)/\jL L q P=some (⟨f,l⟩,0)/\Us l m/\Hg q.abe f/\HS L q/\P.err=0:=by
 unfold jH jL Nf;rw[(Bx h).1,(Bx h).2,cl,cl]
 by_cases b:Hc L q=0
 ·have d:=OH b;rw[b,ea nz,ea nz,iL rfl,FN j,yM j,cl,cl]
  by_cases c:P.err=0
  ·obtain⟨hw,hn⟩:=Pf.Y3 c;obtain⟨p,k,n⟩:=start_eq d;have o:=P.PY;rw[c,ea nz,ea nz,iL rfl,show xF=some ()from rfl,cl,k,cl];rcases Q_ hw FU FU (by rw[fy];omega) (by rw[fy];omega) p _ n with⟨e,he,q1,g,i⟩|⟨f,m,l,q1,g,i,hu,a⟩
   ·rw[g,i,eb,eb,ee (by rw[eA];exact he),ee (by rw[eA];exact he)];exact .inl ⟨e,he,q1,rfl,rfl⟩
   ·have a:Hg q.abe f:=a;have r:=hu.len;have s:=f.jx a.ok;have t:=a.abc;rw[g,i,eb,eb,ea nz,ea nz];simp only[];rw[AQ a.err (a.abg d.nv (by omega)),cl,PE hu,cl,lK (by omega),cl,fl (by simp;omega),eo,gG,oh];exact .inr ⟨f,m,l,q1,rfl,rfl,hu,a,d,by trivial⟩
  ·rw[ee (by rw[eA];exact c),ee (by rw[eA];exact c),jP c];exact .inl ⟨_,c,rfl,rfl,rfl⟩
 ·rw[ee (by rw[eA];exact b),ee (by rw[eA];exact b),jP b];exact .inl ⟨_,b,rfl,rfl,rfl⟩
def Pf.oo(l:List Pf):l.length<=eC Pf.wt l:=iu Pf.wt l λt _=>t.jt
def AN:∀(n:Nat) (P:Pf),P.wt<=n->P.wt<=1000000000->qt n P=some P:=by
 intro n
 induction n with
 |zero=>intro P h;have:=P.jt;omega
 |succ n c=>
  intro P hn d;cases P with
  |mk k i s ts fs l=>
   rw[Pf.fI] at hn d;have e:=iu Tm.wt ts λt _=>t.jt;have f:=iu Fm.wt fs λt _=>t.jt;have g:=Pf.oo l;rw[qt];simp only[Pf.eN,Pf.gy,Pf.fv,Pf.hU,Pf.y5,Pf.eG,ey]
   rw[ja (by omega),cl,eE (by omega),eo,iT id ts 0 [] (by simp;omega) (λj x v a b=>by
    have:=eL Tm.wt a
    rw[nH (by omega),cl,fl (by simpa using b),eo,gG];rfl),cl,en,eE (by omega),eo,iT id fs 0 [] (by simp;omega) (λj x v a b=>by
    have:=eL Fm.wt a
    rw[lK (by omega),cl,fl (by simpa using b),eo,gG];rfl),cl,en,eE (by omega),eo,iT id l 0 [] (by simp;omega) (λj x v a b=>by
    have:=eL Pf.wt a
    rw[c x (by omega) (by omega),cl,fl (by simpa using b),eo,gG];rfl),cl,en]
   simp
def X1{k:Int}{l:List Pf}(h:eC Pf.wt l<=1000000000):m9 k l=some (.mk k 0 .z [] [] l):=by
 have c:=Pf.oo l;unfold m9
 rw[eE (by omega),eo,ey,iT id l 0 [] (by simp;omega) (λj x v a b=>by
  have:=eL Pf.wt a
  rw[AN FU x (by rw[fy];omega) (by omega),cl,fl (by simpa using b),eo,gG];rfl),cl,en]
 simp[Ty.z]
def Mi{k:Int}{a:Pf}(h:a.wt<=500000000):m9 k [a]=some (.mk k 0 .z [] [] [a]):=X1 (by simp[eC];omega)
def IH{k:Int}{a b:Pf}(h:a.wt<=400000000)(c:b.wt<=400000000):m9 k [a,b]=some (.mk k 0 .z [] [] [a,b]):=X1 (by simp[eC];omega)
def QS{F:Fm}{a:Pf}(hF:F.wt<=1000000000)(h:a.wt<=500000000):uD F a=some (.mk 6 0 .z [] [F] [a]):=by
 unfold uD;rw[Mi h,cl,lK hF];rfl
def zm{k:Int}{s:Ty}{a:Pf}(hs:s.abc<=1000000000)(h:a.wt<=500000000):k6 k s a=some (.mk k 0 s [] [] [a]):=by
 unfold k6;rw[Mi h,cl,ja hs];rfl
def IP{k:Int}{t:Tm}{a:Pf}(b:t.wt<=1000000000)(h:a.wt<=500000000):qW k t a=some (.mk k 0 .z [t] [] [a]):=by
 unfold qW;rw[Mi h,cl,nH b];rfl
def Oo{k:Int}{F:Fm}{t:Tm}{a:Pf}(hF:F.wt<=1000000000)(b:t.wt<=1000000000)(h:a.wt<=500000000):tw k F t a=some (.mk k 0 .z [t] [F] [a]):=by
 unfold tw;rw[IP b h,cl,lK hF];rfl
def PV{k:Int}{F:Fm}{t:Tm}{a:Pf}(hF:F.wt<=1000000000)(b:t.wt<=1000000000)(h:a.wt<=500000000):r' k F t a=some (.mk k 0 .z [t] [F] [a],F):=by
 unfold r';rw[IP b h,cl,lK hF];rfl
def MP{k:Int}{F:Fm}{t:Tm}{a b:Pf}(hF:F.wt<=1000000000)(c:t.wt<=1000000000)(h:a.wt<=400000000)(d:b.wt<=400000000):sX k F t a b=some (.mk k 0 .z [t] [F] [a,b]):=by
 unfold sX;rw[IH h d,cl,nH c,cl,lK hF];rfl
def LX{F:Fm}{a b:Pf}(hF:F.wt<=1000000000)(h:a.wt<=400000000)(c:b.wt<=400000000):rS F a b=some (.mk 19 0 .z [] [F] [a,b]):=by
 unfold rS;rw[IH h c,cl,lK hF];rfl
def tg{t:Tm}(a:t.wt<=1000000000):kF t=some (.mk 18 0 .z [t] [] []):=by
 unfold kF;rw[nH a];rfl
def yG{t:Tm}{g:List Ty}{s:Ty}(h:fk g t s)(hg:g.length<=1000)(hn:t.abc<=4096):j0 t=some (t.up 0 1):=by
 have hw:=t.jx h.ok;have a:t.abg 1000000000000=true:=h.abg _ (by omega);unfold j0;rw[DO (by omega) (by omega),cl,tA FU _ 0 1 (by rw[fy,Fm.ef];simp only[eC];omega) (by rw[Fm.ef];simp only[eC];omega) (by omega) (by rw[Fm.ef];simp only[eC];omega) (by omega) (by omega) (by rw[Fm.fT];simp[a]),cl,Fm.l0];rfl
def A8{q:Sq}{f:Fm}(h:q.abh.length<=1000):xC q f=some ⟨q.abe,q.abh++[f]⟩:=by
 unfold xC;rw[fl (by simp;omega),eo,fl (by simp[gG];omega),eo];simp[gG]
def Lo{L:List Fm}{q:Sq}(h:HS L q){l:List Ty}(e:l.length<=1000):p7 q l=some ⟨q.abe++l,q.abh.map (Fm.up 0 l.length)⟩:=by
 have b:=h.nh;have a:=h.nv;unfold p7
 rw[oX _ _ (by omega),cl,eE (by omega),eo,ey,iT (Fm.up 0 l.length) q.abh 0 [] (by simp;omega) (λj x v c d=>by
  have hg:=h.abh x c;have hn:=hg.abc
  rw[fO,tA FU x 0 l.length (by rw[fy];omega) (by omega) (by omega) (by omega) (by omega) (by omega) (hg.abg a (by omega)),cl,fl (by simpa using d),eo,gG]),cl,en,oh]
def HS.below{L:List Fm}{q:Sq}(h:HS L q){l:List Ty}(b:kf l)(hn:q.abe.length+l.length<=16):HS L ⟨q.abe++l,q.abh.map (Fm.up 0 l.length)⟩:=by
 refine⟨h.ln,h.NF,h.ctx.append b,by simpa using hn,by simpa using h.nh,λf c=>?_⟩;obtain⟨f0,a,rfl⟩:=od.1 c;exact(h.abh f0 a).up l
def HS.with{L:List Fm}{q:Sq}(h:HS L q){f:Fm}(a:Hg q.abe f)(hn:q.abh.length+1<=16):HS L ⟨q.abe,q.abh++[f]⟩:=by
 refine⟨h.ln,h.NF,h.ctx,h.nv,by simpa using hn,λx hx=>?_⟩;rcases sy.1 hx with hx|hx
 ·exact h.abh x hx
 ·rw[xG.1 hx];exact a
def Hg.wt{g:List Ty}{f:Fm}(h:Hg g f):f.wt<=266240:=by
 have:=f.jx h.ok;have:=h.abc;omega
def HS.b{L:List Fm}{q:Sq}(h:HS L q):Z0 L q:=by
 refine⟨λf a=>by have:=(h.NF f a).wt;omega,λt c=>by have:=fD (h.ctx t c);omega,by have:=h.nv;omega,λf a=>by have:=(h.abh f a).wt;omega⟩
def pb:Nat->Nat
 |0=>10000|k+1=>3*pb k+1000000
def N3:∀k,k<=4->10000<=pb k/\pb k<=50000000
 |0,_=>by decide|1,_=>by decide|2,_=>by decide|3,_=>by decide|4,_=>by decide|k+5,h=>by omega
def jc(b:Nat)(o:Option (Pf×eu)):Prop:=∃x a,o=some (x,a)/\a.wf/\x.wt<=b
def jc.of{b:Nat}{x:Pf}{d:eu}(a:d.wf)(h:x.wt<=b):jc b (some (x,d)):=⟨x,d,rfl,a,h⟩
def jz{β:Type}{G:Option β->Prop}{c:Bool}{a b:Option β}(d:c=true->G a)(e:c=false->G b):G (if c=true then a else b):=by
 cases c with
 |true=>exact d rfl|false=>exact e rfl
def o7{g:List Ty}{t:Ty}{d:eu}(e:g.length<=600)(hg:qa 3 g)(f:t.err=0)(c:t.abc<=3)(h:d.wf):∃x a,gA FU d g t 1=some (x,a)/\a.wf/\fk g x t/\x.abc<=57/\x.wt<=3705/\x.err=0:=by
 obtain⟨x,a,i,j,b⟩:=Bu 3 (by omega) (by omega) 1 (by omega) g t d e hg f c h;have hn:x.abc<=57:=b.abc;have hw:=x.jx b.ty.ok;exact⟨x,a,i,j,b.ty,hn,by omega,Tm.rU b.ty.ok (by omega)⟩
def w9{d:eu}(b:d.wf):∃t a,iQ FU d 1=some (t,a)/\t.err=0/\t.abc<=3/\a.wf:=by
 obtain⟨t,a,c,e,g,f⟩:=wM d b 1 (by omega);exact⟨t,a,c,e,by omega,f⟩
def Qi{d:eu}(b:d.wf):∃t a,iQ FU d 0=some (t,a)/\t.err=0/\t.abc<=3/\a.wf:=by
 obtain⟨t,a,c,e,g,f⟩:=wM d b 0 (by omega);exact⟨t,a,c,e,by omega,f⟩
def Ty.gw:Ty.z.abc=1:=by decide
def BY:fW 0=some v0:=rfl
def QR{P:Pf}{e:Int}(h:P.wt<=1000000000):∃b c,tH P e=some (b,c)/\b.wt<=P.wt+1:=by
 have a:(Pf.mk 0 0 (Ty.mk 0 []) [] [] []).wt<=P.wt+1:=by have:=P.jt;rw[Pf.fI];simp[eC,Ty.ef];omega
 unfold tH
 by_cases he:e=0
 ·subst he;rw[ea nz];unfold s_;rw[ey,zz FU P (by rw[fy];omega) h,cl,yB FU P (by rw[fy];omega) h];cases P.small with
  |false=>exact⟨_,_,rfl,a⟩|true=>
   rw[ee rfl,cl,cl];cases Jx (P.abc:Int) 16384 with
   |false=>exact⟨_,_,rfl,a⟩|true=>
    rw[ee rfl,AN FU P (by rw[fy];omega) h];exact⟨_,_,rfl,by omega⟩
 ·rw[ee (by rw[eA];exact he)];exact⟨_,_,rfl,a⟩
def PD{ts:List Tm}{ps:List Pf}(d:∀t∈ts,t.wt<=1000000000)(f:∀p∈ps,p.wt<=1000000000)(g:ts.length<=1000)(h:ps.length<=1000):∃e,r7 ts [] ps=some e:=by
 unfold r7;rw[eE (by omega),eo,ey,lj Tm.err ts 0 (λj x a=>by rw[mQ (d x a)];exact xZ)]
 by_cases b:hE (ts.map Tm.err)=0
 ·rw[ee b,cl,en,eE (by simp),eo,ey,pe,cl,en,eE (by omega),eo,ey,lj Pf.err ps 0 (λj x a=>by rw[yM (f x a)];exact xZ)]
  by_cases c:hE (ps.map Pf.err)=0
  ·rw[ee c];exact⟨_,rfl⟩
  ·rw[ea c];exact⟨_,rfl⟩
 ·rw[ea b];exact⟨_,rfl⟩
def D_{t:Tm}{g:List Ty}{s:Ty}(h:fk g t s)(hg:g.length<=1000)(hn:t.abc<=4096):u7 t 1=some (t.up 0 1):=by
 unfold u7;rw[zG FU t 0 1 (by rw[fy];omega) (by omega) (by omega) (by omega) (by omega) (by omega) (h.abg _ (by omega))];rfl
def Lf{t:Tm}(a:t.wt<=3705):∃P,za t=some P/\P.wt<=20000:=by
 obtain⟨z,h,z2⟩:=zX 0 (by omega) (by omega);have c:=(z2 [.nat]).1;have p:=(z2 [.nat]).2;have b:=B9;have i:fk [.nat] v0 .nat:=yg (g:=[]);have d:fk [.nat] (jS (jS nV z) v0) .nat:=.app (.app (Dt _) c) i;have f:fk [] (mX .nat (kQ v0)) (.fn .nat .nat):=.lam zC (.succ yg)
 have q:(jS (jS nV z) v0).abc<=20:=by
  unfold jS v0;rw[Tm.ef,eC,eC,Tm.ef,eC,eC,Tm.ef];simp only[eC];omega
 have r:(mX .nat (kQ v0)).abc=3:=by decide
 have s:=Tm.jx _ d.ok;have u:=Tm.jx _ f.ok;have v:=Tm.jx _ c.ok
 have w:v0.wt<=10:=by decide
 have wp:nV.wt<=585:=by have:=Tm.jx _ (Dt []).ok;omega
 unfold za;rw[AI,cl,h,cl,BY,cl,JX (by omega) (by omega) (by omega),cl,show Tm.mk 3 0 .z [.mk 3 0 .z [nV,z],v0]=jS (jS nV z) v0 from rfl,cl,DO (by omega) (by omega),cl,fF,cl,cl,IF (by omega),cl,show Tm.mk 5 0 .z [v0]=kQ v0 from rfl,Aw (by decide) (by decide),cl,show Tm.mk 2 0 .nat [kQ v0]=mX .nat (kQ v0)from rfl,cl,show np 0=some (Pf.mk 1 0 .z [] [] [])from rfl,cl]
 have x:(Pf.mk 1 0 .z [] [] []).wt<=10:=by decide
 have j:∃P e,vo (mX .nat (kQ v0)) (jS (jS nV z) v0) v0 (Pf.mk 1 0 .z [] [] [])=some (P,e)/\P.wt<=12000:=by
  have y:=Tm.G4 (jS (jS nV z) v0) 0 1;have A:=Tm.G4 (mX .nat (kQ v0)) 0 1
  have B:(Tm.mk 3 0 .z [mX .nat (kQ v0),jS (jS nV z) v0]).wt<=1600:=by rw[Tm.fI];simp only[eC,Ty.gw];omega
  have C:(Tm.mk 3 0 .z [(mX .nat (kQ v0)).up 0 1,(jS (jS nV z) v0).up 0 1]).wt<=1600:=by rw[Tm.fI];simp only[eC,Ty.gw];omega
  have D:(Tm.mk 3 0 .z [(mX .nat (kQ v0)).up 0 1,v0]).wt<=1600:=by rw[Tm.fI];simp only[eC,Ty.gw];omega
  have wf:(Fm.mk 1 .z [Tm.mk 3 0 .z [(mX .nat (kQ v0)).up 0 1,(jS (jS nV z) v0).up 0 1],Tm.mk 3 0 .z [(mX .nat (kQ v0)).up 0 1,v0]] []).wt<=4000:=by rw[Fm.fI];simp only[eC,Ty.gw];omega
  have wr:(Pf.mk 18 0 .z [Tm.mk 3 0 .z [mX .nat (kQ v0),jS (jS nV z) v0]] [] []).wt<=2000:=by rw[Pf.fI];simp only[eC,Ty.gw];omega
  have hg:u0 (mX .nat (kQ v0)) (jS (jS nV z) v0) (Pf.mk 1 0 .z [] [] [])=some (.mk 19 0 .z [] [Fm.mk 1 .z [Tm.mk 3 0 .z [(mX .nat (kQ v0)).up 0 1,(jS (jS nV z) v0).up 0 1],Tm.mk 3 0 .z [(mX .nat (kQ v0)).up 0 1,v0]] []] [.mk 1 0 .z [] [] [],.mk 18 0 .z [Tm.mk 3 0 .z [mX .nat (kQ v0),jS (jS nV z) v0]] [] []]):=by
   unfold u0;rw[D_ f (by simp) (by omega),cl,D_ d (by simp) (by omega),cl,tN (by omega) (by omega),cl,cl,BY,cl,tN (by omega) (by omega),cl,DO (by omega) (by omega),cl,tN (by omega) (by omega),cl,tg (by omega),cl,LX (by omega) (by omega) (by omega)];rfl
  unfold vo
  obtain⟨e,he⟩:=PD (ts:=[mX .nat (kQ v0),jS (jS nV z) v0,v0]) (ps:=[Pf.mk 1 0 .z [] [] []]) (by
   intro t a;simp only[lF,w4,sN] at a
   rcases a with rfl|rfl|rfl<;>omega) (by
   intro t a
   rw[xG.1 a];omega) (by simp) (by simp)
  have k:(Pf.mk 19 0 .z [] [Fm.mk 1 .z [Tm.mk 3 0 .z [(mX .nat (kQ v0)).up 0 1,(jS (jS nV z) v0).up 0 1],Tm.mk 3 0 .z [(mX .nat (kQ v0)).up 0 1,v0]] []] [.mk 1 0 .z [] [] [],.mk 18 0 .z [Tm.mk 3 0 .z [mX .nat (kQ v0),jS (jS nV z) v0]] [] []]).wt<=11000:=by rw[Pf.fI];simp only[eC,Ty.gw] at*;omega
  rw[hg,cl,he,cl];obtain⟨l,m,n,E⟩:=QR (e:=e) (show _<=1000000000 from B4 k (by omega));rw[n,eb];exact⟨l,m,rfl,by omega⟩
 obtain⟨P,e,o,F⟩:=j
 have G:(Fm.mk 1 .z [jS (jS nV z) v0,v0] []).wt<=2000:=by rw[Fm.fI];simp only[eC,Ty.gw];omega
 have H:(Pf.mk 18 0 .z [z] [] []).wt<=200:=by rw[Pf.fI];simp only[eC,Ty.gw];omega
 rw[o,eb,cl,tg (by omega),cl,MP (by omega) (by omega) (by omega) (by omega)];refine⟨_,rfl,?_⟩;rw[Pf.fI];simp only[eC,Ty.gw] at*;omega
def fk.lift{g:List Ty}{x:Tm}{t:Ty}(h:fk g x t)(e:List Ty):fk (g++e) (x.up 0 e.length) t:=by
 have:=h.up g [] e (by simp);simpa using this
def eqv(t:Tm):Fm:=.mk 1 .z [t.up 0 1,v0] []
def Kk{g:List Ty}{t:Tm}(h:fk g t .nat)(hn:t.abc<=57):Hg (g++[.nat]) (eqv t)/\(eqv t).abc<=59/\(eqv t).wt<=3900:=by
 have hu:fk (g++[.nat]) (t.up 0 1) .nat:=by
  exact h.lift [.nat]
 have a:kM (g++[.nat]) (eqv t):=.eq hu yg
 have hm:(eqv t).abc<=59:=by
  unfold eqv;rw[Fm.ef];simp only[eC];rw[Tm.qV]
  have:v0.abc=1:=by decide
  omega
 have hw:=Fm.jx _ a.ok;refine⟨⟨?_,a⟩,hm,by omega⟩;unfold Fm.err;rw[ee a.ok,ea (by omega)]
def GH{g:List Ty}{t:Tm}(h:fk g t .nat)(hg:g.length<=600)(hn:t.abc<=57){β:Type}(k:Fm->Option β):(cv (j0 t) λa=>cv (fW 0) λb=>cv (mr a b) λc=>k c)=k (eqv t):=by
 have hw:=t.jx h.ok;have hu:=Tm.G4 t 0 1
 have d:v0.wt<=10:=by decide
 rw[yG h (by omega) (by omega),cl,BY,cl,DO (by omega) (by omega),cl];rfl
def WA{g:List Ty}{f:Fm}{k:Int}(b:k=5\/k=7)(h:Hg (g++[.nat]) f)(hn:f.abc<=4000):Hg g (.mk k .nat [] [f]):=by
 have a:kM g (.mk k .nat [] [f]):=.q (by omega) Ty.hO h.ty;refine⟨?_,a⟩;unfold Fm.err;rw[ee a.ok,ea (by rw[Fm.ef];simp only[eC];omega)]
def M6{q:Sq}{d:eu}(a:q.abe.length<=600)(hg:qa 3 q.abe)(b:d.wf):jc 12000 (Cb d q):=by
 obtain⟨t,d1,t1,t2,t3,t4,t5,t6⟩:=o7 a hg Ty.hO (by decide) b;obtain⟨c,e,f⟩:=Kk t3 t4
 have g:(Pf.mk 18 0 .z [t] [] []).wt<=3800:=by rw[Pf.fI];simp only[eC,Ty.gw];omega
 have h:(Fm.mk 5 .nat [] [eqv t]).wt<=4000:=by rw[Fm.fI];simp only[eC,Ty.im];omega
 unfold Cb;rw[fF,cl,t1,eb,GH t3 a t4,Dx (by decide) (by omega),cl,tg (by omega),cl,Oo (by omega) (by omega) (by omega),cl];refine jc.of t2 ?_;rw[Pf.fI];simp only[eC,Ty.gw];omega
def LD{q:Sq}{d:eu}(a:q.abe.length<=600)(hg:qa 3 q.abe)(c:d.wf):∃t b,tJ d q=some (.mk 10 0 .z [t] [.mk 5 .nat [] [eqv t]] [.mk 18 0 .z [t] [] []],.mk 5 .nat [] [eqv t],b)/\b.wf/\fk q.abe t .nat/\t.abc<=57/\t.wt<=3705:=by
 obtain⟨t,d1,t1,t2,t3,t4,t5,t6⟩:=o7 a hg Ty.hO (by decide) c;obtain⟨e,f,g⟩:=Kk t3 t4
 have h:(Pf.mk 18 0 .z [t] [] []).wt<=3800:=by rw[Pf.fI];simp only[eC,Ty.gw];omega
 have i:(Fm.mk 5 .nat [] [eqv t]).wt<=4000:=by rw[Fm.fI];simp only[eC,Ty.im];omega
 unfold tJ;rw[fF,cl,t1,eb,GH t3 a t4,Dx (by decide) (by omega),cl,tg (by omega),cl,PV (by omega) (by omega) (by omega),eb];exact⟨t,d1,rfl,t2,t3,t4,t5⟩
def xX{L:List Fm}{q:Sq}(h:HS L q){P:Pf}(c:P.wt<=1000000000):(∃e,e≠0/\jL L q P=some (⟨hW,[]⟩,e))\/∃f l,jL L q P=some (⟨f,l⟩,0)/\Hg q.abe f:=by
 rcases rn h.b c with⟨e,he,_,_,a⟩|⟨f,m,l,_,_,a,_,d,_⟩
 ·exact .inl ⟨e,he,a⟩
 ·exact .inr ⟨f,l,a,d⟩
def zp{g:List Ty}{f:Fm}(h:Hg g f)(hg:g.length<=16):gT FU f 0 1=some (f.up 0 1)/\(f.up 0 1).wt<=266240:=by
 have hn:=h.abc;refine⟨tA FU f 0 1 (by rw[fy];omega) (by omega) (by omega) (by omega) (by omega) (by omega) (h.abg hg (by omega)),?_⟩;have a:=h.wt;have:(f.up 0 1).wt=f.wt:=Fm.G4 f 0 1;omega
def N6{a b x:Int}(c:0<=x)(d:x<2):∃y,eI [a,b] x=some y/\(x=0/\y=a\/x=1/\y=b):=by
 have:x=0\/x=1:=by omega
 rcases this with rfl|rfl
 ·exact⟨a,rfl,.inl ⟨rfl,rfl⟩⟩
 ·exact⟨b,rfl,.inr ⟨rfl,rfl⟩⟩
structure Mq (L:List Fm) (q:Sq):Prop where
 v:HS L q
 c:qa 3 q.abe
def Mq.below{L:List Fm}{q:Sq}(h:Mq L q){s:Ty}(hs:s.err=0)(a:s.abc<=3)(hn:q.abe.length+1<=16):Mq L ⟨q.abe++[s],q.abh.map (Fm.up 0 1)⟩:=
 ⟨h.v.below (l:=[s]) (λx b=>by rw[xG.1 b];exact hs) hn,h.c.app λx b=>by rw[xG.1 b];exact⟨hs,a⟩⟩
def Mq.with{L:List Fm}{q:Sq}(h:Mq L q){f:Fm}(a:Hg q.abe f)(hn:q.abh.length+1<=16):Mq L ⟨q.abe,q.abh++[f]⟩:=⟨h.v.with a hn,h.c⟩
def Mq.W5{L:List Fm}{q:Sq}(h:Mq L q)(s:Ty):p7 q [s]=some ⟨q.abe++[s],q.abh.map (Fm.up 0 1)⟩:=Lo h.v (l:=[s]) (by simp)
def Fh{κ β:Type}{G:Option β->Prop}(Q:κ->Prop){k:κ}{b:κ->Option β}(a:Q k)(c:∀j,Q j->G (b j)):G (eJ k b):=c k a
def Pc{n k:Nat}(T:k<=3){L:List Fm}(C:∀(d:eu) (q:Sq),d.wf->Mq L q->jc (pb k) (jo n d L q (k:Int))){d:eu}(D:d.wf){q:Sq}(h:Mq L q)(E:q.abe.length<10)(A:q.abh.length<10):jc (pb (k+1)) (w6 (n+1) d L q ((k+1:Nat):Int)):=by
 have F:=N3 k (by omega);have H:pb (k+1)=3*pb k+1000000:=rfl;obtain⟨t,d1,s1,s2,I,K,U⟩:=LD (by omega) h.c D;obtain⟨g1,g2,g3⟩:=Kk I K
 have V:(Pf.mk 18 0 .z [t] [] []).wt<=3800:=by rw[Pf.fI];simp only[eC,Ty.gw];omega
 have s:∀i:Int,(Fm.mk i .nat [] [eqv t]).wt<=4000:=λi=>by rw[Fm.fI];simp only[eC,Ty.im];omega
 have u:∀i j:Int,(Pf.mk j 0 .z [t] [Fm.mk i .nat [] [eqv t]] [Pf.mk 18 0 .z [t] [] []]).wt<=20000:=λi j=>by have:=s i;rw[Pf.fI];simp only[eC,Ty.gw];omega
 rw[w6,s1,o_];refine Fh (G:=jc (pb (k+1))) (λJ=>∀(v24 m:Int) (o:eu) (a:Int),o.wf->(a=5\/a=7)->jc (pb (k+1)) (J v24 m o a)) ?_ ?_
 ·intro v24 m o a v M;have N:Hg q.abe (.mk a .nat [] [eqv t]):=WA M g1 (by omega);have hm:Mq L ⟨q.abe++[.nat],q.abh.map (Fm.up 0 1)++[eqv t]⟩:=(h.below Ty.hO (by decide) (by omega)).with g1 (by show(q.abh.map (Fm.up 0 1)).length+1<=16;simp;omega);obtain⟨Q,d3,q1,O,W⟩:=C o _ v hm;show jc _ (cv (eI [eqv t] 0) λP=>_);rw[show eI [eqv t] 0=some (eqv t)from rfl,cl,fF,cl,h.W5 .nat,cl,A8 (by show(q.abh.map (Fm.up 0 1)).length<=1000;simp;omega),cl,fG (by omega) (by omega),show((k+1:Nat):Int)-1=(k:Int) by omega,q1,eb];refine Fh (G:=jc (pb (k+1))) (λJ=>∀(b v145 v146:Int) (e:List Ty) (v148:List Tm) (f:List Fm) (g:List Pf) (l:eu),l.wf->(Pf.mk b v145 (.mk v146 e) v148 f g).wt<=pb k+300000->jc (pb (k+1)) (J b v145 v146 e v148 f g l)) ?_ ?_
  ·intro b v145 v146 e v148 f g l w hw;have:=u a m;show jc _ (cv (m9 v24 [Pf.mk m 0 .z [t] [Fm.mk a .nat [] [eqv t]] [Pf.mk 18 0 .z [t] [] []],Pf.mk b v145 (.mk v146 e) v148 f g]) λp=>some (p,l));rw[IH (by omega) (by omega),cl];refine jc.of w ?_;rw[Pf.fI];simp only[eC,Ty.gw];omega
  ·intro J r;obtain⟨y,d4,x,R,y3,y4⟩:=kK d3 O 2 (by omega) (by omega);rw[x,eb];refine jz (λ_=>?_) (λ_=>?_)
   ·obtain⟨S,X⟩:=zp N (by omega);show jc _ (cv (gT FU (.mk a .nat [] [eqv t]) 0 1) λB=>_)
    have Y:v0.wt<=10:=by decide
    rw[S,cl,BY,cl,show np 0=some (Pf.mk 1 0 .z [] [] [])from rfl,cl,Oo (by omega) (by omega) (by decide),cl];refine r _ _ _ _ _ _ _ _ y4 ?_;show(Pf.mk m 0 .z [v0] [(Fm.mk a .nat [] [eqv t]).up 0 1] [Pf.mk 1 0 .z [] [] []]).wt<=_;rw[Pf.fI];simp only[eC,Ty.gw];rw[Pf.fI];simp only[eC,Ty.gw];omega
   ·refine r _ _ _ _ _ _ _ _ y4 ?_;rw[Ty.lG,Pf.lG];omega
 ·intro J r;obtain⟨y,d4,x,R,y3,y4⟩:=kK d1 s2 3 (by omega) (by omega);rw[x,eb];exact jz (λ_=>r _ _ _ _ y4 (.inr rfl)) (λ_=>r _ _ _ _ y4 (.inl rfl))
def KF:∀(n k:Nat) (L:List Fm) (d:eu) (q:Sq),2*k<n->k<=4->d.wf->Mq L q->jc (pb k) (jo n d L q (k:Int)):=by
 intro n
 induction n using Nat.strongRecOn with
 |_ n U=>
 intro k L d q hn Z D h;cases n with
 |zero=>omega|succ n=>
 have J:=h.v.nv;have aa:=h.v.nh;have ab:=h.v.ln;have ad:=N3 k Z;rw[jo,fF,cl];refine rD (G:=jc (pb k)) (λd=>d.wf) (λd D=>?_) (λj E=>?_)
 ·--a leaf
  refine rD (G:=jc (pb k)) (λd=>d.wf) (λd D=>?_) (λj E=>?_)
  ·obtain⟨t,d1,t1,t2,t3,t4,t5,t6⟩:=o7 (by omega) h.c Ty.hO (by decide) D;rw[t1,eb,tg (by omega),cl];refine jc.of t2 ?_;rw[Pf.fI];simp only[eC,Ty.gw];omega
  ·obtain⟨x,d1,R,x2,x3,p⟩:=kK d D 4 (by omega) (by omega);rw[R,eb];refine jz (λ_=>jz (λM=>?_) (λ_=>E _ p)) (λ_=>jz (λ_=>jz (λM=>?_) (λ_=>E _ p)) (λ_=>E _ p))
   ·rw[gD,fO] at M;obtain⟨y,d2,H,I,y3,y4⟩:=kK d1 p q.abh.length (by omega) (by omega);rw[fO,H,eb,show np y=some (Pf.mk 1 y .z [] [] [])from rfl,cl];refine jc.of y4 ?_;rw[Pf.fI];simp only[eC,Ty.gw];omega
   ·rw[gD,fO] at M;obtain⟨y,d2,H,I,y3,y4⟩:=kK d1 p L.length (by omega) (by omega);rw[fO,H,eb];refine jc.of y4 ?_;show(Pf.mk 2 y .z [] [] []).wt<=_;rw[Pf.fI];simp only[eC,Ty.gw];omega
 ·refine jz (λM=>?_) (λ_=>E _ D);rw[q_,q_,gL,gL,gD,lS,lS,fO,fO] at M;obtain⟨ae,V,W⟩:=M;obtain⟨m,rfl⟩:∃m,k=m+1:=⟨k-1,by omega⟩;rw[fG (by omega) (by omega),show((m+1:Nat):Int)-1=(m:Int) by omega];have af:=N3 m (by omega);have ah:pb (m+1)=3*pb m+1000000:=rfl;have g:∀(d:eu) (q:Sq),d.wf->Mq L q->jc (pb m) (jo n d L q (m:Int)):=λd q D h=>U n (by omega) m L d q (by omega) (by omega) D h;obtain⟨x,d1,R,x2,x3,p⟩:=kK d D 17 (by omega) (by omega);rw[R,eb];refine jz (λ_=>?_) (λ_=>?_)
  ·--and
   obtain⟨P,d2,o,i,w⟩:=g d1 q p h;obtain⟨Q,d3,q1,N,X⟩:=g d2 q i h;rw[o,eb,q1,eb,IH (by omega) (by omega),cl];refine jc.of N ?_;rw[Pf.fI];simp only[eC,Ty.gw];omega
  refine jz (λ_=>?_) (λ_=>?_)
  ·obtain⟨y,d2,H,I,y3,y4⟩:=kK d1 p 2 (by omega) (by omega);obtain⟨P,d3,o,i,w⟩:=g d2 q y4 h;obtain⟨Q,d4,q1,N,X⟩:=g d3 q i h
   have hw:(Pf.mk 3 0 .z [] [] [P,Q]).wt<=200000000:=by rw[Pf.fI];simp only[eC,Ty.gw];omega
   rw[H,eb,o,eb,q1,eb,IH (by omega) (by omega),cl,Mi (by omega),cl];refine jc.of N ?_;rw[Pf.fI];simp only[eC,Ty.gw];rw[Pf.fI];simp only[eC,Ty.gw];omega
  refine jz (λ_=>?_) (λ_=>?_)
  ·obtain⟨F,d2,f1,f2,f3⟩:=zb 1 (by omega) q.abe d1 (by omega) h.c p;have B:Hg q.abe F:=⟨f3.err (by decide),f3.ty⟩;have S:=B.wt;obtain⟨P,d3,o,i,w⟩:=g d2 _ f2 (h.with B (by omega));rw[show(1:Int)=((1:Nat):Int)from rfl,f1,eb,A8 (by omega),cl,o,eb,QS (by omega) (by omega),cl];refine jc.of i ?_;rw[Pf.fI];simp only[eC,Ty.gw];omega
  refine jz (λ_=>?_) (λ_=>?_)
  ·obtain⟨P,d2,o,i,w⟩:=g d1 q p h;rw[o,eb];rcases xX h.v (P:=P) (by omega)with⟨e,he,r⟩|⟨f,l,r,B⟩
   ·rw[r,eb,ea (by rw[gB];exact he)];exact E _ i
   ·have S:=B.wt;obtain⟨Q,d3,q1,N,X⟩:=g d2 _ i (h.with B (by omega))
    have hw:(Pf.mk 6 0 .z [] [f] [Q]).wt<=200000000:=by rw[Pf.fI];simp only[eC,Ty.gw];omega
    rw[r,eb,ee (by rfl)];simp only[];rw[A8 (by omega),cl,q1,eb,QS (by omega) (by omega),cl,IH (by omega) (by omega),cl];refine jc.of N ?_;rw[Pf.fI];simp only[eC,Ty.gw];rw[Pf.fI];simp only[eC,Ty.gw];omega
  refine jz (λ_=>?_) (λ_=>?_)
  ·obtain⟨s,d2,s1,s2,A,C⟩:=w9 p;obtain⟨P,d3,o,i,w⟩:=g d2 _ C (h.below s2 A (by omega));rw[s1,eb,h.W5 s,cl,o,eb,zm (by omega) (by omega),cl];refine jc.of i ?_;rw[Pf.fI];simp only[eC];omega
  refine jz (λ_=>?_) (λ_=>?_)
  ·obtain⟨s,d2,s1,s2,A,C⟩:=w9 p;obtain⟨t,d3,t1,t2,t3,t4,t5,t6⟩:=o7 (by omega) h.c s2 A C;obtain⟨P,d4,o,i,w⟩:=g d3 _ t2 (h.below s2 A (by omega))
   have hw:(Pf.mk 8 0 s [] [] [P]).wt<=200000000:=by rw[Pf.fI];simp only[eC];omega
   rw[s1,eb,t1,eb,h.W5 s,cl,o,eb,zm (by omega) (by omega),cl,IP (by omega) (by omega),cl];refine jc.of i ?_;rw[Pf.fI];simp only[eC,Ty.gw];rw[Pf.fI];simp only[eC];omega
  refine jz (λ_=>?_) (λ_=>?_)
  ·--there is a number Y is equal to a term
   obtain⟨t,d2,t1,t2,t3,t4,t5,t6⟩:=o7 (by omega) h.c Ty.hO (by decide) p;obtain⟨y,d3,H,I,y3,y4⟩:=kK d2 t2 2 (by omega) (by omega);obtain⟨a,a1,_⟩:=N6 (a:=5) (b:=7) I y3;obtain⟨b,T,_⟩:=N6 (a:=10) (b:=14) I y3;obtain⟨g1,g2,g3⟩:=Kk t3 t4
   have hr:(Pf.mk 18 0 .z [t] [] []).wt<=3800:=by rw[Pf.fI];simp only[eC,Ty.gw];omega
   have B:(Fm.mk a .nat [] [eqv t]).wt<=4000:=by rw[Fm.fI];simp only[eC,Ty.im];omega
   rw[t1,eb,H,eb,ey,a1,cl,GH t3 (by omega) t4,Dx (by decide) (by omega),cl,ey,T,cl,tg (by omega),cl,Oo (by omega) (by omega) (by omega),cl];refine jc.of y4 ?_;rw[Pf.fI];simp only[eC,Ty.gw];omega
  refine jz (λ_=>?_) (λ_=>?_)
  ·obtain⟨P,d2,o,i,w⟩:=g d1 q p h;rw[o,eb];rcases xX h.v (P:=P) (by omega)with⟨e,he,r⟩|⟨f,l,r,B⟩
   ·rw[r,eb,ea (by rw[gB];exact he)];exact E _ i
   ·obtain⟨K,O⟩:=zp B J;obtain⟨s,d3,s1,s2,A,C⟩:=w9 i;obtain⟨y,d4,H,I,y3,y4⟩:=kK d3 C 2 (by omega) (by omega);obtain⟨a,a1,_⟩:=N6 (a:=5) (b:=7) I y3;obtain⟨b,T,_⟩:=N6 (a:=10) (b:=14) I y3;obtain⟨t,d5,t1,t2,t3,t4,t5,t6⟩:=o7 (by omega) h.c s2 A y4
    have hw:(Fm.mk a s [] [f.up 0 1]).wt<=300000:=by rw[Fm.fI];simp only[eC];omega
    rw[r,eb,ee (by rfl),s1,eb,H,eb,ey,a1,cl,K,cl,Dx (by omega) (by omega),cl,ey,T,cl,t1,eb,Oo (by omega) (by omega) (by omega),cl];refine jc.of t2 ?_;rw[Pf.fI];simp only[eC,Ty.gw];omega
  refine jz (λ_=>?_) (λ_=>?_)
  ·obtain⟨n',rfl⟩:∃n',n=n'+1:=⟨n-1,by omega⟩;obtain⟨P,d2,o,i,w⟩:=Pc (n:=n') (k:=m) (by omega) (λd q D h=>U n' (by omega) m L d q (by omega) (by omega) D h) p h (by omega) (by omega);rw[o,eb];exact jc.of i w
  refine jz (λ_=>?_) (λ_=>?_)
  ·obtain⟨P,d2,o,i,w⟩:=g d1 q p h;rw[o,eb];rcases xX h.v (P:=P) (by omega)with⟨e,he,r⟩|⟨f,l,r,B⟩
   ·rw[r,eb,ea (by rw[gB];exact he)];exact E _ i
   ·obtain⟨K,O⟩:=zp B J;obtain⟨t,d5,t1,t2,t3,t4,t5,t6⟩:=o7 (by omega) h.c Ty.hO (by decide) i
    have hH:(Pf.mk 1 0 .z [] [] []).wt<=10:=by decide
    rw[r,eb,ee (by rfl),K,cl,t1,eb,show np 0=some (Pf.mk 1 0 .z [] [] [])from rfl,cl,MP (by omega) (by omega) (by omega) (by omega),cl];refine jc.of t2 ?_;rw[Pf.fI];simp only[eC,Ty.gw];omega
  refine jz (λ_=>?_) (λ_=>?_)
  ·obtain⟨P,d2,o,i,w⟩:=g d1 q p h;rw[o,eb];rcases xX h.v (P:=P) (by omega)with⟨e,he,r⟩|⟨f,l,r,B⟩
   ·rw[r,eb,ea (by rw[gB];exact he)];exact E _ i
   ·obtain⟨K,O⟩:=zp B J;obtain⟨t,d5,t1,t2,t3,t4,t5,t6⟩:=o7 (by omega) h.c Ty.pO (by decide) i
    have hH:(Pf.mk 1 0 .z [] [] []).wt<=10:=by decide
    rw[r,eb,ee (by rfl),K,cl,gO,cl,t1,eb,show np 0=some (Pf.mk 1 0 .z [] [] [])from rfl,cl,MP (by omega) (by omega) (by omega) (by omega),cl];refine jc.of t2 ?_;rw[Pf.fI];simp only[eC,Ty.gw];omega
  refine jz (λ_=>?_) (λ_=>?_)
  ·obtain⟨t,d2,t1,t2,t3,t4,t5,t6⟩:=o7 (by omega) h.c Ty.hO (by decide) p;obtain⟨P,o,i⟩:=Lf t5;rw[t1,eb,o,cl];exact jc.of t2 (by omega)
  refine jz (λ_=>?_) (λ_=>?_)
  ·obtain⟨t,d2,t1,t2,t3,t4,t5,t6⟩:=o7 (by omega) h.c Ty.hO (by decide) p;obtain⟨u,d3,K,O,u3,u4,u5,u6⟩:=o7 (by omega) h.c Ty.hO (by decide) t2;have ai:=Tm.G4 u 0 1
   have r1:(Pf.mk 18 0 .z [t] [] []).wt<=3800:=by rw[Pf.fI];simp only[eC,Ty.gw];omega
   have r2:(Pf.mk 18 0 .z [u] [] []).wt<=3800:=by rw[Pf.fI];simp only[eC,Ty.gw];omega
   have r3:(Fm.mk 1 .z [u.up 0 1,u.up 0 1] []).wt<=8000:=by rw[Fm.fI];simp only[eC,Ty.gw];omega
   rw[t1,eb,K,eb,yG u3 (by omega) (by omega),cl,cl,DO (by omega) (by omega),cl,tg (by omega),cl,tg (by omega),cl,LX (by omega) (by omega) (by omega),cl];refine jc.of O ?_;rw[Pf.fI];simp only[eC,Ty.gw];omega
  refine jz (λ_=>?_) (λ_=>?_)
  ·obtain⟨s,d2,s1,s2,A,C⟩:=Qi p;have hb:=h.below s2 A (by omega);obtain⟨P,d3,o,i,w⟩:=M6 (q:=⟨q.abe++[s],q.abh.map (Fm.up 0 1)⟩) (by show(q.abe++[s]).length<=600;simp;omega) hb.c C
   have hw:(Pf.mk 8 0 s [] [] [P]).wt<=13000:=by rw[Pf.fI];simp only[eC];omega
   rw[s1,eb,h.W5 s,cl,o,eb,zm (by omega) (by omega),cl,Mi (by omega),cl];refine jc.of i ?_;rw[Pf.fI];simp only[eC,Ty.gw];omega
  refine jz (λ_=>?_) (λ_=>?_)
  ·obtain⟨s,d2,s1,s2,A,C⟩:=w9 p;obtain⟨P,d3,o,i,w⟩:=g d2 _ C (h.below s2 A (by omega));rw[s1,eb,h.W5 s,cl,o,eb,zm (by omega) (by omega),cl];refine jc.of i ?_;rw[Pf.fI];simp only[eC];omega
  refine jz (λ_=>?_) (λ_=>E _ p)
  ·obtain⟨s,d2,s1,s2,A,C⟩:=w9 p;obtain⟨t,d3,t1,t2,t3,t4,t5,t6⟩:=o7 (by omega) h.c s2 A C;obtain⟨P,d4,o,i,w⟩:=g d3 _ t2 (h.below s2 A (by omega))
   have hw:(Pf.mk 12 0 s [] [] [P]).wt<=200000000:=by rw[Pf.fI];simp only[eC];omega
   rw[s1,eb,t1,eb,h.W5 s,cl,o,eb,zm (by omega) (by omega),cl,IP (by omega) (by omega),cl];refine jc.of i ?_;rw[Pf.fI];simp only[eC,Ty.gw];rw[Pf.fI];simp only[eC];omega
def CP.hg{g:List Ty}{f:Fm}{n:Nat}(h:CP g f n)(hn:n<=4096):Hg g f:=⟨h.err hn,h.ty⟩
def JV(d:eu)(n:d.wf):∃L m,uF d=some (L,m)/\m.wf/\L.length<=2/\∀f∈L,CP [] f (fb 2):=by
 have p:qa 3 ([]:List Ty):=⟨λs hs=>by simp at hs⟩;unfold uF;obtain⟨x,d1,q,t,y,u⟩:=kK d n 3 (by omega) (by omega);rw[q];simp only[eb,ey]
 obtain⟨o,v,j⟩:=uG (ρ:=List Fm×eu) (F:=La λ(a:List Fm) (b:Int) (c:eu)=>
   if nS b 0=true then ei (ik FU c [] 2) λg d75=>g_ (gf a [g])<|some (gu.next (gv a [g],fB .i64 b 1,d75))else some (gu.DQ (a,b,c)))
  (λs=>0<=s.2.1/\(s.1.length:Int)+s.2.1<=2/\(∀f∈s.1,CP [] f (fb 2))/\s.2.2.wf) (λs=>s.2.1.toNat)
  (λo=>match o with|.inl s=>s.1.length<=2/\(∀f∈s.1,CP [] f (fb 2))/\s.2.2.wf|.inr _=>False)
  (by
   rintro⟨l,i,e⟩ ⟨i1,i2,i3,i4⟩;simp only at i1 i2 i3 i4
   by_cases hi:0<i
   ·left;obtain⟨s,d3,s1,s2,w⟩:=zb 2 (by omega) [] e (by simp) p i4;rw[show((2:Nat):Int)=2 from rfl] at s1;refine⟨(l++[s],i-1,d3),?_,⟨?_,?_,?_,s2⟩,?_⟩
    ·simp only[La,gD,hi,if_true,s1,eb];rw[fl (by simp;omega),eo,fG (by omega) (by omega)];rfl
    ·show 0<=i-1;omega
    ·simp;omega
    ·intro f k;rcases sy.1 k with h|h
     ·exact i3 f h
     ·rw[xG] at h;subst h;exact w
    ·show(i-1).toNat<i.toNat;omega
   ·right;left
    exact⟨(l,i,e),by simp only[La,gD,hi,pE],by show l.length<=2;omega,i3,i4⟩)
  FU ([],x,d1) ⟨t,by simp;omega,λf k=>by simp at k,u⟩ (by show x.toNat<FU;rw[fy];omega)
 rw[v];cases o with
 |inr r=>exact absurd j (by simp)|inl s=>
  obtain⟨l,i,e⟩:=s;exact⟨l,e,rfl,j.2.2,j.1,j.2.1⟩
def made(l:List Int)(h:l.length<=500):∃L d1 q d2,uF ⟨l,0⟩=some (L,d1)/\sF d1=some (q,d2)/\d2.wf/\Mq L q/\q.abe.length<=3/\q.abh.length<=2/\L.length<=2:=by
 obtain⟨L,d1,c,d,e,g⟩:=JV ⟨l,0⟩ (UT l (by omega));obtain⟨q,d2,g1,g2,g3,g4,g5,g6⟩:=Hf d1 d
 have b:fb 2<=4096:=by decide
 refine⟨L,d1,q,d2,c,g1,g2,⟨⟨by omega,λf a=>(g f a).hg b,λs hs=>(g4.all s hs).1,by omega,by omega,λf a=>(g6 f a).hg b⟩,g4⟩,g3,g5,e⟩
def Fm.rU{f:Fm}(h:f.ok=true)(hn:f.abc<=4096):f.err=0:=by
 unfold Fm.err;rw[ee h,ea (by omega)]
def Gm{P:Pf}(hw:P.ok=true)(hs:P.small=true):P.err=if P.abc<=16384 then 0 else 4:=by
 unfold Pf.err;rw[ee hw]
 by_cases h:P.abc<=16384
 ·rw[ee ⟨hs,h⟩,ee h]
 ·rw[ea (λa=>h a.2),ea h]
def kH{P:Pf}(h:P.err=0):P.ok=true/\P.small=true/\P.abc<=16384:=by
 unfold Pf.err at h;cases b:P.ok with
 |false=>rw[b] at h;cases h
 |true=>
  rw[b,ee rfl] at h
  by_cases a:P.small=true/\P.abc<=16384
  ·exact⟨rfl,a.1,a.2⟩
  ·rw[ea a] at h;cases h
def Re{t:Tm}(h:t.err=0):t.ok=true/\Ph t=true:=by
 obtain⟨a,b⟩:=Tm.hZ h;exact⟨a,by simpa[Ph] using b⟩
def Od{g:List Ty}{hs L:List Fm}{t:Tm}(h:fk g t .nat)(c:kf g)(hg:g.length<=16)(hn:t.abc<=1000):(Pf.mk 18 0 .z [t] [] []).inf L g hs=.inl (.mk 1 .z [t,t] [],0)/\(Pf.mk 18 0 .z [t] [] []).err=0:=by
 have he:t.err=0:=Tm.rU h.ok (by omega);have d:(Fm.mk 1 .z [t,t] []).err=0:=Fm.rU (kM.eq h h).ok (by rw[Fm.ef];simp only[eC];omega);constructor
 ·rw[Pf.AY,P',iL (Jo h c (by omega))];unfold DG;rw[gS,ee d];cases (Fm.mk 1 .z [t,t] []).has<;>rfl
 ·obtain⟨a,b⟩:=Re he;rw[Gm (by rw[Pf.hY];simp[a,Pf.node,Pf.sig,Ty.pK]) (by rw[Pf.xt];simp[b]),ee (by rw[Pf.ef];simp only[eC];omega)]
def uf{L:List Fm}{q:Sq}(h:HS L q){P:Pf}(a:P.err=0):Nf L q P=P.inf L q.abe q.abh:=by
 unfold Nf;rw[iL h.zero,iL a]
structure Rt (L:List Fm) (q:Sq) (P:Pf) (f:Fm) (m:Nat):Prop where
 err:P.err=0
 inf:P.inf L q.abe q.abh=.inl (f,m)
 hg:Hg q.abe f
 wt:P.wt<=50000000
def KZ{L:List Fm}{q:Sq}(h:Mq L q){d:eu}(C:d.wf){k:Nat}(y:k<=4):∃P f l g m,w_ d L q (k:Int)=some (P,⟨f,l⟩,g)/\g.wf/\Rt L q P f m/\Us l m:=by
 have D:=N3 k y;unfold w_;rw[ey]
 obtain⟨o,E,A⟩:=uG (ρ:=Pf×rN×eu) (F:=sD λ(v109:Int) (a:eu)=>
   if(tW v109 4)=true then(
   ei (jo FU a L q (k:Int)) λc d134=>
   ei (jL L q c) λn p=>
   if(eH p 0)=true then(
   some (.ret (c,n,d134)))
   else(some (.next ((fj .i64 v109 1),d134))))
   else(some (.DQ (v109,a))))
  (λs=>0<=s.1/\s.1<=4/\s.2.wf) (λs=>(4-s.1).toNat)
  (λo=>match o with|.inl s=>s.2.wf|.inr r=>∃P f l g m,r=(P,⟨f,l⟩,g)/\g.wf/\Rt L q P f m/\Us l m)
  (by
   rintro⟨i,e⟩ ⟨i1,i2,i3⟩;simp only at i1 i2 i3
   by_cases hi:i<4
   ·obtain⟨P,d1,G,B,S⟩:=KF FU k L e q (by rw[fy];omega) y i3 h;simp only[sD,lS,hi,if_true,G,eb];rcases rn h.v.b (P:=P) (by omega)with⟨e,he,_,_,j⟩|⟨f,m,l,q1,_,j,hu,w,_,he⟩
    ·left;refine⟨(i+1,d1),?_,⟨?_,?_,B⟩,?_⟩
     ·rw[j,eb,ea (by rw[gB];exact he),fu (by omega) (by omega)]
     ·show 0<=i+1;omega
     ·show i+1<=4;omega
     ·show(4-(i+1)).toNat<(4-i).toNat;omega
    ·right;right;refine⟨(P,⟨f,l⟩,d1),?_,P,f,l,d1,m,rfl,B,⟨he,?_,w,by omega⟩,hu⟩
     ·rw[j,eb,ee (by rfl)]
     ·rw[<-uf h.v he];exact q1
   ·right;left
    exact⟨(i,e),by simp only[sD,lS,hi,pE],i3⟩)
  FU (0,d) ⟨by show(0:Int)<=0;omega,by show(0:Int)<=4;omega,C⟩ (by show(4-(0:Int)).toNat<FU;rw[fy];omega)
 rw[E];cases o with
 |inr r=>
  obtain⟨P,f,l,g,m,rfl,H,I,J⟩:=A;exact⟨P,f,l,g,m,rfl,H,I,J⟩
 |inl s=>
  obtain⟨i,e⟩:=s;have he:e.wf:=A;obtain⟨x,d1,K,M,T,N⟩:=kK e he 4 (by omega) (by omega);obtain⟨t,t1,t2⟩:=zX x M (by omega);obtain⟨u,hn⟩:=t2 q.abe;have hw:=t.jx u.ok;obtain⟨O,Q⟩:=Od (L:=L) (hs:=q.abh) u h.v.ctx h.v.nv (by omega)
  have R:(Pf.mk 18 0 .z [t] [] []).wt<=1000:=by rw[Pf.fI];simp only[eC,Ty.gw];omega
  rcases rn h.v.b (P:=Pf.mk 18 0 .z [t] [] []) (by omega)with⟨e,he,q1,_,j⟩|⟨f,m,l,q1,_,j,hu,w,_,he⟩
  ·rw[uf h.v Q,O] at q1;cases q1
  ·rw[cl,en];simp only[sD];rw[K,eb,t1,cl,tg (by omega),cl,j,eb];exact⟨_,f,l,d1,m,rfl,N,⟨he,by rw[<-uf h.v he];exact q1,w,by omega⟩,hu⟩
def VK(g:List Ty)(s:Ty):fk (g++[s]) v0 s:=yg
def EZ{f:Fm}{m:Nat}(h:f.err=0):DG (.inl (f,m))=.inl (f,if f.has=true then m else 0):=by
 unfold DG;rw[gS,ee h]
def Of{f:Fm}{m:Nat}(h:f.err≠0):DG (.inl (f,m))=.inr 4:=by
 unfold DG;rw[gS,ea h]
def We:HS [] ⟨[],[]⟩:=⟨by simp,λf h=>by simp at h,λs h=>by simp at h,by simp,by simp,λf h=>by simp at h⟩
def S4:uY=some true:=by
 have g:kf [Ty.nat]:=λs hs=>by rw[xG.1 hs];exact Ty.hO
 obtain⟨a,d⟩:=Od (L:=[]) (hs:=[]) (VK [] .nat) g (by simp) (by decide)
 have he:(Pf.mk 8 0 .nat [] [] [.mk 18 0 .z [v0] [] []]).err=0:=by decide
 have hi:(Pf.mk 8 0 .nat [] [] [.mk 18 0 .z [v0] [] []]).inf [] [] []=.inl (.mk 4 .nat [] [.mk 1 .z [v0,v0] []],0):=by
  rw[Pf.AY,MC,lq (by decide)];have a:(Pf.mk 18 0 .z [v0] [] []).inf [] ([]++[.nat]) (List.map (Fm.up 0 1) [])=.inl (.mk 1 .z [v0,v0] [],0):=a;rw[a,gS,EZ (by decide)];rw[show(Fm.mk 4 .nat [] [.mk 1 .z [v0,v0] []]).has=false by decide];rfl
 have hw:(Pf.mk 8 0 .nat [] [] [.mk 18 0 .z [v0] [] []]).wt<=100:=by decide
 unfold uY;rw[fF,cl,BY,cl,tg (by decide),cl,zm (by decide) (by decide),cl];rcases rn We.b (P:=.mk 8 0 .nat [] [] [.mk 18 0 .z [v0] [] []]) (by omega)with⟨e,c,q1,_,h⟩|⟨f,m,l,q1,i,h,hu,k,_,c⟩
 ·rw[uf We he] at q1;have q1:(Pf.mk 8 0 .nat [] [] [.mk 18 0 .z [v0] [] []]).inf [] [] []=.inr e:=q1;rw[hi] at q1;cases q1
 ·rw[uf We he] at q1;have q1:(Pf.mk 8 0 .nat [] [] [.mk 18 0 .z [v0] [] []]).inf [] [] []=.inl (f,m):=q1;rw[hi] at q1;obtain⟨rfl,rfl⟩:=jI (Sum.inl.inj q1);have j:=hu.ext .nil;subst j;rw[i,eb,ey,ee (by rfl),ee (by rfl),cl,cl,DO (by decide) (by decide),cl,Dx (by decide) (by decide),cl];obtain⟨r,a,d⟩:=AK FU (.mk 4 .nat [] [.mk 1 .z [v0,v0] []]) (.mk 4 .nat [] [.mk 1 .z [v0,v0] []]) (by rw[fy];decide) (by decide);have:=d.2 rfl;subst this;simp only[];rw[a];rfl
def JY{L:List Fm}{q:Sq}{P:Pf}(h:HS L q)(a:P.wt<=1000000000)(he:P.err≠0):jH L q P=some (⟨hW,[]⟩,P.err):=by
 have e:Nf L q P=.inr P.err:=by unfold Nf;rw[iL h.zero,jP he]
 rcases rn h.b a with⟨d,_,q1,c,_⟩|⟨f,m,l,q1,_⟩
 ·rw[e] at q1;rw[c,Sum.inr.inj q1]
 ·rw[e] at q1;cases q1
def LQ{L:List Fm}{q:Sq}{P:Pf}(h:HS L q)(a:P.wt<=1000000000)(he:P.err=0){e:Int}(hi:P.inf L q.abe q.abh=.inr e):jH L q P=some (⟨hW,[]⟩,e):=by
 rcases rn h.b a with⟨d,_,q1,c,_⟩|⟨f,m,l,q1,_⟩
 ·rw[uf h he,hi] at q1;rw[c,Sum.inr.inj q1]
 ·rw[uf h he,hi] at q1;cases q1
def J0{L:List Fm}{q:Sq}{P:Pf}(h:HS L q)(c:P.wt<=1000000000)(he:P.err=0){f:Fm}{m:Nat}(hi:P.inf L q.abe q.abh=.inl (f,m)):∃l,jH L q P=some (⟨f,l⟩,0)/\Us l m/\Hg q.abe f:=by
 rcases rn h.b c with⟨e,_,q1,a,_⟩|⟨g,i,l,q1,a,_,hu,d,_⟩
 ·rw[uf h he,hi] at q1;cases q1
 ·rw[uf h he,hi] at q1;obtain⟨rfl,rfl⟩:=jI (Sum.inl.inj q1);exact⟨l,a,hu,d⟩
def Bk.F1:∀{m l:List Int},Bk l->Bk m->(∀x∈l,x∈m)->l.length<=m.length
 |[],[],_,_,_=>by simp|[],a::l,_,_,h=>by have:=h a (by simp);simp at this
 |b::m,[],_,_,_=>by simp|b::m,a::l,.cons f i,.cons k j,h=>by
  by_cases c:a=b
  ·subst c
   have:=Bk.F1 (m:=m) (l:=l) i j (λx d=>by
    rcases lF.1 (h x (by simp[d]))with e|e
    ·have:=f x d;omega
    ·exact e)
   simp only[lL];omega
  ·have g:a∈m:=(lF.1 (h a (by simp))).resolve_left c
   have:=Bk.F1 (m:=m) (l:=a::l) (.cons f i) j (λx d=>by
    rcases lF.1 (h x d)with e|e
    ·subst e;have:=k a g;rcases lF.1 d with e|e
     ·exact absurd e.symm c
     ·have:=f x e;omega
    ·exact e)
   simp only[lL] at this|-;omega
def Us.F1{l b:List Int}{m c:Nat}(h:Us l m)(d:Us b c)(hs:∀i,m.testBit i=true->c.testBit i=true):l.length<=b.length:=
 Bk.F1 h.UH d.UH λx a=>by
  rw[h.E0] at a;rw[d.E0];exact⟨a.1,hs _ a.2⟩
def PM{l:List Int}{m:Nat}(h:Us l m)(K:Bool->Option Bool):(eJ K λb=>if(nS (eM l) 0)=true then cv (eI l 0) λc=>b (eH c 0)else b false)=K (m.testBit 0):=by
 rw[ey];have:=h.has.1;unfold qE at this;rw[ey] at this
 by_cases d:nS (eM l) 0=true
 ·rw[ee d] at this|-;obtain⟨a,e,f⟩:=eO this;rw[e,cl,iw f]
 ·rw[ea d] at this|-;rw[iw this]
def Rx{k:Int}(d:k=8\/k=12){s:Ty}(hs:s.err=0){P:Pf}(e:P.err=0):(Pf.mk k 0 s [] [] [P]).err=if 1+P.abc<=16384 then 0 else 4:=by
 obtain⟨a,b,c⟩:=kH e
 have hn:(Pf.mk k 0 s [] [] [P]).abc=1+P.abc:=by rw[Pf.ef];simp only[eC];omega
 rw[Gm (by rw[Pf.hY];rcases d with rfl|rfl<;>simp[a,Pf.node,Pf.sig,hs]) (by rw[Pf.xt];simp[b]),hn]
def T'{k:Int}(c:k=9\/k=13){t:Tm}(d:t.err=0){P:Pf}(e:P.ok=true)(hs:P.small=true):(Pf.mk k 0 .z [t] [] [P]).err=if 1+t.abc+P.abc<=16384 then 0 else 4:=by
 obtain⟨a,b⟩:=Re d
 have hn:(Pf.mk k 0 .z [t] [] [P]).abc=1+t.abc+P.abc:=by rw[Pf.ef];simp only[eC];omega
 rw[Gm (by rw[Pf.hY];rcases c with rfl|rfl<;>simp[a,e,Pf.node,Pf.sig,Ty.pK]) (by rw[Pf.xt];simp[b,hs]),hn]
def GU(s:Ty):s.nx s=true:=(Ty.lX s s).2 rfl
def BF(l:List Int):n9 l=some true:=by
 unfold n9;rw[S4,cl,ee rfl,O1,cl]
 by_cases N:500<l.length
 ·rw[ea (by simpa using N)]
 have hl:l.length<=500:=by omega
 rw[ee (by simpa using hl),show MW l=some ⟨l,0⟩from rfl,cl];obtain⟨L,d1,q,d2,a1,a2,a3,hm,n1,n2,n3⟩:=made l hl;obtain⟨s,d3,s1,s2,s3,s4⟩:=w9 a3;have b:=hm.v;rw[a1,eb,a2,eb,s1,eb,fl (by simp;omega),eo,fl (by simp[gG];omega),eo,eE (by omega),eo,ey]
 rw[iT (Fm.up 0 1) q.abh 0 [] (by simp;omega) (λj x v hx O=>by
  rw[(zp (b.abh x hx) (by omega)).1,cl,fl (by simpa using O),eo,gG]),cl,en,gG,gG,oh,oh]
 have p:=hm.below s2 s3 (by omega);obtain⟨P,f,lu,d4,m,Q,r2,A,r4⟩:=KZ p s4 (k:=3) (by omega);have Q:w_ d3 L ⟨q.abe++[s],q.abh.map (Fm.up 0 1)⟩ 3=some (P,⟨f,lu⟩,d4):=Q;have B:P.inf L (q.abe++[s]) (q.abh.map (Fm.up 0 1))=.inl (f,m):=A.inf;have M:Hg (q.abe++[s]) f:=A.hg;have ab:=A.wt;have ad:=M.abc
 have hw:∀k:Int,(Pf.mk k 0 s [] [] [P]).wt<=100000000:=λk=>by rw[Pf.fI];simp only[eC];omega
 rw[Q,o_];refine(PM r4 _).trans ?_;show(cv (k6 8 s P) λaa=>_)=_;rw[zm (by omega) (by omega),zm (by omega) (by omega)];simp only[cl];have t:=Rx (.inl rfl) s2 A.err;have a:=Rx (.inr rfl) s2 A.err
 by_cases ae:16384<1+P.abc
 ·rw[ea (by omega)] at t a;rw[JY b (by have:=hw 8;omega) (by rw[t];decide),JY b (by have:=hw 12;omega) (by rw[a];decide),t,a];rfl
 have hn:1+P.abc<=16384:=by omega
 rw[ee hn] at t a;have C:(Fm.mk 4 s [] [f]).ok=true:=(kM.q (.inl rfl) s2 M.ty).ok;have o:(Fm.mk 6 s [] [f]).ok=true:=(kM.q (.inr (.inr (.inl rfl))) s2 M.ty).ok
 have g:∀k:Int,(Fm.mk k s [] [f]).abc=1+f.abc:=λk=>by rw[Fm.ef];simp only[eC];omega
 have i8:(Pf.mk 8 0 s [] [] [P]).inf L q.abe q.abh=DG (.inl (.mk 4 s [] [f],m/2)):=by
  rw[Pf.AY,MC,lq (by omega),B,gS]
 have i12:(Pf.mk 12 0 s [] [] [P]).inf L q.abe q.abh=DG (wF (m.testBit 0=true) 12 (.inl (.mk 6 s [] [f],m/2))):=by
  rw[Pf.AY,OA,lq (by omega),B,gS]
 by_cases af:4096<1+f.abc
 ·have R:(Fm.mk 4 s [] [f]).err≠0:=by unfold Fm.err;rw[ee C,g,ee (by omega)];decide
  rw[Of R] at i8;rw[LQ b (by have:=hw 8;omega) t i8]
  have:∃e,e≠0/\(Pf.mk 12 0 s [] [] [P]).inf L q.abe q.abh=.inr e:=by
   have z12:(Fm.mk 6 s [] [f]).err≠0:=by unfold Fm.err;rw[ee o,g,ee (by omega)];decide
   rw[i12]
   by_cases p:m.testBit 0=true
   ·rw[k5 p];exact⟨12,by decide,rfl⟩
   ·rw[lq p,Of z12];exact⟨4,by decide,rfl⟩
  obtain⟨e,he,hi⟩:=this;rw[LQ b (by have:=hw 12;omega) a hi];rfl
 have R:(Fm.mk 4 s [] [f]).err=0:=Fm.rU C (by rw[g];omega);have z12:(Fm.mk 6 s [] [f]).err=0:=Fm.rU o (by rw[g];omega)
 have h8:(Fm.mk 4 s [] [f]).has=f.has:=by rw[Fm.E4];rfl
 have S:(Fm.mk 6 s [] [f]).has=f.has:=by rw[Fm.E4];rfl
 rw[EZ R,h8] at i8;obtain⟨l8,k8,u8,g8⟩:=J0 b (by have:=hw 8;omega) t i8;rw[k8];cases p:m.testBit 0 with
 |true=>
  rw[k5 p] at i12;rw[LQ b (by have:=hw 12;omega) a i12];rfl
 |false=>
  rw[lq (by rw[p];decide),EZ z12,S] at i12;obtain⟨D,T,h,g12⟩:=J0 b (by have:=hw 12;omega) a i12;rw[T];simp only[eb,cl,ey];rw[show rK 0=some true from rfl,cl,ee rfl,ee (by rfl),ea (by decide),ea (by decide),ea (by decide),ea (by decide)];obtain⟨u,d5,t1,t2,t3⟩:=Bu 3 (by omega) (by omega) 2 (by omega) q.abe s d4 (by omega) hm.c s2 s3 r2;have t1:gA FU d4 q.abe s 2=some (u,d5):=t1
  have ah:tb 3 2=201:=by decide
  have ai:u.abc<=201:=by have:=t3.abc;omega
  have aj:=u.jx t3.ty.ok;have E:u.err=0:=Tm.rU t3.ty.ok (by omega);have F:u.ty q.abe=(s,0):=Em t3.ty b.ctx (by omega)
  have y:∀k k':Int,(Pf.mk k 0 .z [u] [] [.mk k' 0 s [] [] [P]]).wt<=200000000:=λk k'=>by
   have:=hw k';rw[Pf.fI];simp only[eC,Ty.gw];omega
  rw[t1,eb,IP (by omega) (by have:=hw 8;omega),cl,IP (by omega) (by have:=hw 12;omega)];simp only[cl];have o8:=kH t;have G:=kH a;have w:=T' (.inl rfl) E o8.1 o8.2.1;have d:=T' (.inr rfl) E G.1 G.2.1
  have U:∀k:Int,(Pf.mk k 0 s [] [] [P]).abc=1+P.abc:=λk=>by rw[Pf.ef];simp only[eC];omega
  rw[U] at w d
  by_cases hN:16384<1+u.abc+(1+P.abc)
  ·rw[ea (by omega)] at w d;rw[JY b (by have:=y 9 8;omega) (by rw[w];decide),JY b (by have:=y 13 12;omega) (by rw[d];decide),w,d];rfl
  ·rw[ee (by omega)] at w d
   have i9:(Pf.mk 9 0 .z [u] [] [.mk 8 0 s [] [] [P]]).inf L q.abe q.abh=DG (ma (ot f u).2 (.inl ((ot f u).1,(if f.has=true then m/2 else 0)|||wK u))):=by
    rw[Pf.AY,Ub,F,iL rfl,i8];rw[RU (k:=4) (Fm.eN 4 s [] [f]),gS,lq (by rw[show(Fm.mk 4 s [] [f]).dv=s from rfl,GU];decide)];rfl
   have i13:(Pf.mk 13 0 .z [u] [] [.mk 12 0 s [] [] [P]]).inf L q.abe q.abh=DG (ma (ot f u).2 (.inl ((ot f u).1,(if f.has=true then m/2 else 0)))):=by
    rw[Pf.AY,Qu,F,iL rfl,i12];rw[RU (k:=6) (Fm.eN 6 s [] [f]),gS,lq (by rw[show(Fm.mk 6 s [] [f]).dv=s from rfl,GU];decide)];rfl
   rcases qo f u with V|⟨W,V⟩
   ·rw[V,jP (by decide)] at i9 i13;rw[LQ b (by have:=y 9 8;omega) w i9,LQ b (by have:=y 13 12;omega) d i13];rfl
   ·have H:kM q.abe (Fm.m7 0 f u):=M.ty.put t3.ty;have X:(Fm.m7 0 f u).err=0:=Fm.rU H.ok W;have Y:(Fm.m7 0 f u).has=f.has:=(Fm.UZ u f 0).2;rw[V,iL rfl,EZ X,Y] at i9 i13;obtain⟨l9,k9,u9,g9⟩:=J0 b (by have:=y 9 8;omega) w i9;obtain⟨n,Z,I,g13⟩:=J0 b (by have:=y 13 12;omega) d i13;have ak:=Fm.jx _ H.ok;obtain⟨r,q1,q2⟩:=AK FU (Fm.m7 0 f u) (Fm.m7 0 f u) (by rw[fy];omega) (by omega);have hr:=q2.2 rfl;subst hr
    have hle:n.length<=l9.length:=I.F1 u9 (λi hi=>by
     cases J:f.has with
     |false=>rw[J] at hi;simp at hi
     |true=>
      rw[J] at hi;simp only[if_true] at hi|-;rw[SS,p8]
      exact .inl hi)
    have heq:n=D:=by
     refine I.ext ?_;cases J:f.has with
     |false=>rw[J] at h;exact h
     |true=>rw[J] at h;exact h
    rw[k9,Z];show(cv (nR FU (Fm.m7 0 f u) (Fm.m7 0 f u)) λK=>if K=true then(if(Jx (eM n) (eM l9))=true then some (eH (eM n) (eM D))else some false)else some false)=some true;rw[q1,cl,ee rfl,heq,ee (by rw[zJ,fO,fO,<-heq];omega)]
    congr 1
    rw[gB]
end Go.hJ
