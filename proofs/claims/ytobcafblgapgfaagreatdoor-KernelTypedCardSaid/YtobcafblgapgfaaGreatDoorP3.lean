/- Part of the proof of KernelTyped: plain facts. -/
import Derived.Test.YtobcafblgapgfaaGreatDoorP2
set_option linter.all false
namespace Go.hI
open Go
structure TR (d d':et) (s:Bool) (n:Nat):Prop where
 lo:d.ab'<=d'.ab'
 hi:d'.ab'<=d.ab'+n
 eq:s=true->d'.ab'=d.ab'+n
 iB:d'.iB=(d.iB||!s)
def TR.trans{d c a:et}{s e:Bool}{n n':Nat}(h:TR d c s n)(b:TR c a e n'):TR d a (s&&e) (n+n'):=by
 refine⟨by have:=h.lo;have:=b.lo;omega,by have:=h.hi;have:=b.hi;omega,λhs=>?_,?_⟩
 ·rw[gI] at hs;have:=h.eq hs.1;have:=b.eq hs.2;omega
 ·rw[b.iB,h.iB,Bool.not_and,Bool.or_assoc]
def yq{α:Type}{F:Int->α->et->Option (gj et (Bool×et))}(ok small:α->Bool)(sz:α->Nat):∀(l:List α) (i:Nat) (d:et),0<=d.ab'->d.ab'+eE sz l<=4000000000->(∀(j:Int) (x:α) (d:et),x∈l->0<=d.ab'->d.ab'+sz x<=4000000000->if ok x=true then∃a,F j x d=some (.next a)/\TR d a (small x) (sz x)else∃a,F j x d=some (.ret (false,a)))->if l.all ok=true then∃a,fp F l i d=some (.inl a)/\TR d a (l.all small) (eE sz l)else∃a,fp F l i d=some (.inr (false,a))
 |[],i,d,_,_,_=>⟨d,rfl,⟨by omega,by simp[eE],λ_=>by simp[eE],by simp⟩⟩|x::l,i,d,m,n,h=>by
  simp only[eE] at n;have b:=h i x d (by simp) m (by omega);rw[xc]
  by_cases c:ok x=true
  ·rw[ee c] at b;obtain⟨d1,e,f⟩:=b;have g:=yq ok small sz l (i+1) d1 (by have:=f.lo;omega) (by have:=f.hi;omega) (λj y d hy=>h j y d (by simp[hy]));rw[fl,e];simp only[cl,ft,eE]
   by_cases k:l.all ok=true
   ·rw[ee k] at g;obtain⟨d2,o,p⟩:=g;rw[ee (by rw[gI];exact⟨c,k⟩)];exact⟨d2,o,f.trans p⟩
   ·grind
  ·rw[ea c] at b;obtain⟨d1,e⟩:=b;rw[ea (by rw[gI];exactλh=>c h.1),fl,e];exact⟨d1,rfl⟩
def DE{d:et}{n e:Int}(a:-1000000000000<=d.ab'+n)(b:d.ab'+n<=1000000000000):iq d n e=some (eW e 2,⟨d.ab'+n,d.iB||eH e 4⟩):=by
 unfold iq;rw[fq (by omega) (by omega)];cases d.iB<;>rfl
def Tm.D0(t:Tm):t.err=2/\t.ok=false\/t.ok=true/\QD t=true/\t.err=0\/t.ok=true/\QD t=false/\t.err=4:=by
 unfold Tm.err QD;cases h:t.ok with
 |false=>grind|true=>grind
def Fm.D0(t:Fm):t.err=2/\t.ok=false\/t.ok=true/\QU t=true/\t.err=0\/t.ok=true/\QU t=false/\t.err=4:=by
 unfold Fm.err QU;cases h:t.ok with
 |false=>grind|true=>grind
def FT{sz:Nat}{e:Int}{ok small:Bool}(c:e=2/\ok=false\/ok=true/\small=true/\e=0\/ok=true/\small=false/\e=4)(hs:sz<=1000000000){d:et}(f:0<=d.ab')(g:d.ab'+sz<=4000000000):if ok=true then∃b,(ek (iq d (if e=0 then(sz:Int)else 0) e) λa d179=>if a=true then some (.next d179)else some ((.ret (false,d179)):gj et (Bool×et)))=some (.next b)/\TR d b small sz else∃b,(ek (iq d (if e=0 then(sz:Int)else 0) e) λa d179=>if a=true then some (.next d179)else some ((.ret (false,d179)):gj et (Bool×et)))=some (.ret (false,b)):=by
 rcases c with⟨rfl,rfl⟩|⟨rfl,rfl,rfl⟩|⟨rfl,rfl,rfl⟩
 ·exact⟨_,rfl⟩
 ·rw[ee rfl,ee rfl,DE (by omega) (by omega),eb,ee (by decide)];refine⟨_,rfl,⟨?_,?_,λ_=>rfl,?_⟩⟩
  all_goals grind[eH]
 ·rw[ee rfl,ea (by decide),DE (by omega) (by omega),eb,ee (by decide)];refine⟨_,rfl,⟨?_,?_,λh=>by(cases h),?_⟩⟩
  all_goals grind[eH]
def Ga{f:Bool}{i a b c d nf e:Int}:fU true (fU (ue i 0) true (fU (eW i 0) (fU f (fU (eW d a) true (fU (eW nf b) true (eW e c))) true) (fU (eW d a) true (fU (eW nf b) true (eW e c))))) true=true↔¬(d=a/\nf=b/\e=c/\0<=i/\(f=true\/i=0)):=by
 grind[xG,la,eW,xy,mE]
def Ho{d:Bool}{i a b c e nf f:Int}:fU true (fU (eW e a) true (fU (eW nf b) true (fU (eW f c) true (fU (ue i 0) true (fU d false (eW i 0)))))) true=true↔¬(e=a/\nf=b/\f=c/\0<=i/\(d=true\/i=0)):=by
 cases d with
 |true=>
  grind[xG,la,mE,ey]
 |false=>grind[xG,xy,la,mE,ey]
def QW(ty:Bool)(s:Ty):Bool:=if ty=true then decide (s.err=0)else s.rQ
theorem Fu{k i:Int}{s:Ty}{d nf e:Nat}{f ty:Bool}{a b c:Nat}(hs:Pf.sig k=some (f,ty,a,b,c)):Pf.node k i s d nf e=true↔((d:Int)=a/\(nf:Int)=b/\(e:Int)=c/\0<=i/\(f=true\/i=0))/\QW ty s=true:=by
 grind[Pf.node,QW]
def TG(d:et)(A s:Bool)(n:Nat)(o:Option (Bool×et)):Prop:=(A=true->∃a,o=some (true,a)/\TR d a s n)/\(A=false->∃a,o=some (false,a))
theorem TG.no{d a:et}{A s:Bool}{n:Nat}(h:A=false):TG d A s n (some (false,a)):=⟨λb=>(by rw[h] at b;cases b),λ_=>⟨a,rfl⟩⟩
def PZ(n:Nat)(d:et)(k i:Int)(s:Ty)(ts:List Tm)(fs:List Fm)(l:List Pf):i_ (n+1) d (.mk k i s ts fs l)=(ek (qa k) λe F=>
 if(fU F (fU (ue i 0) true (fU (eW i 0) (fU e.aca (fU (eW (eM ts) e.ej) true (fU (eW (eM fs) e.fj) true (eW (eM l) e.ab_))) true) (fU (eW (eM ts) e.ej) true (fU (eW (eM fs) e.fj) true (eW (eM l) e.ab_))))) true)=true then(
 some (false,d))
 else(eK (λ(z:et)=>
 gS (fm ts)<|eK (λ(G:Int) (A:Tm)=>(λ(a:et)=>
 ek (kK A) λg h=>
 ek (iq a g h) λj d179=>
 if j=true then(
 some (.next d179))
 else(some (.ret (false,d179)))):Int->Tm->(et)->(Option (gj (et) (Bool×et)))) λm=>
 cv (fp m ts 0 z) (gd (λ(a:et)=>
 gS (fm fs)<|eK (λ(D:Int) (o:Fm)=>(λ(b:et)=>
 ek (js o) λp q=>
 ek (iq b p q) λt d322=>
 if t=true then(
 some (.next d322))
 else(some (.ret (false,d322)))):Int->Fm->(et)->(Option (gj (et) (Bool×et)))) λu=>
 cv (fp u fs 0 a) (gd (λ(b:et)=>
 gS (fm l)<|eK (λ(E:Int) (v:Pf)=>(λ(c:et)=>
 ek (i_ n c v) λw f=>
 if w=true then(
 some (.next f))
 else(some (.ret (false,f)))):Int->Pf->(et)->(Option (gj (et) (Bool×et)))) λx=>
 cv (fp x l 0 b) (gd (λ(c:et)=>
 some (true,c)) (λr=>some r))) (λr=>some r))) (λr=>some r))) λy=>
 if e.typed=true then(
 ek (jC s) λH B=>
 if(eW B 0)=true then(
 some (false,(et.mk (fk .i64 d.ab' 1) d.iB)))
 else(y (et.mk (fk .i64 d.ab' 1) d.iB)))
 else(cv (oM s) λC=>
 if C=true then(
 y (et.mk (fk .i64 d.ab' 1) d.iB))
 else(some (false,(et.mk (fk .i64 d.ab' 1) d.iB)))))):=by
 rw[i_];rfl
def Sj:∀(n:Nat) (P:Pf) (d:et),P.wt<=n->P.wt<=1000000000->0<=d.ab'->d.ab'+P.ab'<=4000000000->TG d P.ok P.small P.ab' (i_ n d P):=by
 intro n
 induction n with
 |zero=>intro P d h;have:=P.iS;omega
 |succ n Z=>
  intro P d hn hb h0 hd;cases P with
  |mk k i s ts fs l=>
   rw[Pf.fP] at hn hb;rw[Pf.ef] at hd|-;have aa:=ic Tm.wt ts λt _=>t.iS;have ab:=ic Fm.wt fs λt _=>t.iS;have ad:=ic Pf.wt l λt _=>t.iS;have m1:=kR (l:=ts) (λx _=>Tm.iI x);have m2:=kR (l:=fs) (λx _=>Fm.iI x);have m3:=kR (l:=l) (λx _=>Pf.iI x);rw[Pf.h_,Pf.zK,PZ];rcases PW k with⟨H,r,J⟩|⟨ix,ty,a,b,c,r,H,J,g1,g2,g3,g4,g5⟩
   ·rw[J,eb,xy,ee rfl];exact TG.no (by simp[Pf.node,H])
   ·rw[J,eb,g1,g2,g3,g4,g5,fR,fR,fR]
    by_cases I:(ts.length:Int)=a/\(fs.length:Int)=b/\(l.length:Int)=c/\0<=i/\(ix=true\/i=0)
    ·rw[ea (λh=>Ga.1 h I)]
     have p:Pf.node k i s ts.length fs.length l.length=QW ty s:=by
      rw[B5,Fu H];exact⟨λh=>h.2,λh=>⟨I,h⟩⟩
     rw[p];cases f:QW ty s with
     |false=>
      have e:∀j:et->Option (Bool×et),(if ty=true then ek (jC s) λae K=>if(eW K 0)=true then some (false,(et.mk (fk .i64 d.ab' 1) d.iB))else j (et.mk (fk .i64 d.ab' 1) d.iB)else cv (oM s) λL=>if L=true then j (et.mk (fk .i64 d.ab' 1) d.iB)else some (false,(et.mk (fk .i64 d.ab' 1) d.iB)))=some (false,(et.mk (fk .i64 d.ab' 1) d.iB)):=by grind[QW,eW,ey,l8,eb,sM,cl]
      refine pJ (λ_=>False) (λ_ h=>h.elim) (λj _=>?_);rw[e j];exact TG.no (by simp)
     |true=>
      refine pJ (λd1=>d1.ab'=d.ab'+1/\d1.iB=d.iB) (λd1 g=>?_) (λj hj=>?_)
      ·have t1:=yq (F:=λ(af:Int) (M:Tm)=>(λ(q:et)=>ek (kK M) λu v=>ek (iq q u v) λw d179=>if w=true then some (.next d179)else some (.ret (false,d179)))) Tm.ok QD Tm.ab' ts 0 d1 (by omega) (by omega) (λj x d m q0 q1=>by
        have:=eI Tm.wt m;have:=x.iI;rw[so (by omega),eb]
        exact FT x.D0 (by omega) q0 q1)
       rw[eB (by omega),eo,ez];cases a1:ts.all Tm.ok with
       |false=>
        rw[a1,ea (by decide)] at t1;obtain⟨d2,N⟩:=t1;rw[N,cl,p0];exact TG.no (by simp)
       |true=>
        rw[a1,ee rfl] at t1;obtain⟨d2,N,O⟩:=t1;have u1:=O.lo;have u2:=O.hi;rw[N,cl,ei,eB (by omega),eo,ez]
        have t2:=yq (F:=λ(V:Int) (y:Fm)=>(λ(z:et)=>ek (js y) λA B=>ek (iq z A B) λC d322=>if C=true then some (.next d322)else some (.ret (false,d322)))) Fm.ok QU Fm.ab' fs 0 d2 (by omega) (by omega) (λj x d m q0 q1=>by
         have:=eI Fm.wt m;have:=x.iI;rw[qh (by omega),eb]
         exact FT x.D0 (by omega) q0 q1)
        cases a2:fs.all Fm.ok with
        |false=>
         rw[a2,ea (by decide)] at t2;obtain⟨d3,Q⟩:=t2;rw[Q,cl,p0];exact TG.no (by simp)
        |true=>
         rw[a2,ee rfl] at t2;obtain⟨d3,Q,R⟩:=t2;have u3:=R.lo;have u4:=R.hi;rw[Q,cl,ei,eB (by omega),eo,ez]
         have t3:=yq (F:=λ(W:Int) (D:Pf)=>(λ(E:et)=>ek (i_ n E D) λG o=>if G=true then some (.next o)else some (.ret (false,o)))) Pf.ok Pf.small Pf.ab' l 0 d3 (by omega) (by omega) (λj x d m q0 q1=>by
          have:=eI Pf.wt m;have:=eI Pf.ab' m;have:=x.iI;have m:=Z x d (by omega) (by omega) q0 (by omega);cases X:x.ok with
          |true=>
           obtain⟨S,T,w2⟩:=m.1 X;rw[ee rfl,T,eb,ee rfl];exact⟨S,rfl,w2⟩
          |false=>
           obtain⟨S,T⟩:=m.2 X;rw[ea (by decide),T,eb,ea (by decide)]
           exact⟨S,rfl⟩)
         cases a3:l.all Pf.ok with
         |false=>
          rw[a3,ea (by decide)] at t3;obtain⟨d4,U⟩:=t3;rw[U,cl,p0];exact TG.no (by simp)
         |true=>
          rw[a3,ee rfl] at t3;obtain⟨d4,U,r4⟩:=t3;rw[U,cl,ei];refine⟨λ_=>⟨d4,rfl,?_⟩,λh=>by simp at h⟩;have r0:TR d d1 true 1:=⟨by omega,by omega,λ_=>by omega,by simp[g.2]⟩;have:=((r0.trans O).trans R).trans r4;rw[AJ] at this;exact this
      ·have g:=hj (et.mk (fk .i64 d.ab' 1) d.iB) ⟨by show fk .i64 d.ab' 1=_;rw[fq (by omega) (by omega)],rfl⟩;unfold QW at f
       by_cases Y:ty=true
       ·rw[ee Y] at f|-
        have hz:¬eW s.err 0=true:=by rw[ey];simpa using f
        rw[l8 (by omega),eb,ea hz];exact g
       ·rw[ea Y] at f|-;rw[sM,cl,f,ee rfl];exact g
    ·rw[ee (Ga.2 I)];refine TG.no ?_
     have:Pf.node k i s ts.length fs.length l.length=false:=by
      rw[Ww]
      exactλh=>I ((Fu H).1 h).1
     rw[this];simp
def GI{P:Pf}(h:P.wt<=1000000000):t_ P=some P.err:=by
 have hn:=P.iI;have b:=Sj FU P (et.mk 0 false) (by rw[fy];omega) h (by show(0:Int)<=0;omega) (by show(0:Int)+_<=_;omega);unfold t_ ry Pf.err;cases c:P.ok with
 |false=>
  obtain⟨a,e⟩:=b.2 c
  grind[eb]
 |true=>
  obtain⟨a,e,r⟩:=b.1 c;rw[e,eb,ee rfl,ee rfl];have d:a.iB=!P.small:=r.iB;rw[d,la];cases hs:P.small with
  |false=>grind[eb]|true=>
   have f:a.ab'=(0:Int)+P.ab':=r.eq hs
   grind[gA,eb]
def Qi(n:Nat)(k i:Int)(s:Ty)(ts:List Tm)(fs:List Fm)(l:List Pf):nT (n+1) (.mk k i s ts fs l)=(ek (ql k) λb v=>
 if(fU v (fU (eW (eM ts) b.ej) true (fU (eW (eM fs) b.fj) true (fU (eW (eM l) b.ab_) true (fU (ue i 0) true (fU b.aca false (eW i 0)))))) true)=true then(
 some false)
 else(eK (λ(h:Bool)=>
 if h=true then(
 some false)
 else(gS (fm ts)<|eK (λ(w:Int) (j:Tm)=>(λ(_:Unit)=>
 cv (kr FU j) λm=>
 if m=true then(
 some (.next ()))
 else(some (.ret false))):Int->Tm->(Unit)->(Option (gj (Unit) (Bool)))) λo=>
 cv (fp o ts 0 ()) (gd (λ(_:Unit)=>
 gS (fm fs)<|eK (λ(x:Int) (p:Fm)=>(λ(_:Unit)=>
 cv (lV FU p) λc=>
 if c=true then(
 some (.next ()))
 else(some (.ret false))):Int->Fm->(Unit)->(Option (gj (Unit) (Bool)))) λd=>
 cv (fp d fs 0 ()) (gd (λ(_:Unit)=>
 gS (fm l)<|eK (λ(u:Int) (e:Pf)=>(λ(_:Unit)=>
 cv (nT n e) λf=>
 if f=true then(
 some (.next ()))
 else(some (.ret false))):Int->Pf->(Unit)->(Option (gj (Unit) (Bool)))) λg=>
 cv (fp g l 0 ()) (gd (λ(_:Unit)=>
 some true) (λr=>some r))) (λr=>some r))) (λr=>some r)))) λa=>
 if b.pN=true then(
 cv (jH s) λq=>
 if(eW q 0)=true then(
 a true)
 else(a false))
 else(cv (qt s) λt=>
 a (nt t)))):=by
 rw[nT];rfl
def FL:∀(n:Nat) (P:Pf),P.wt<=n->P.wt<=1000000000->nT n P=some P.ok:=by
 intro n
 induction n with
 |zero=>intro P h;have:=P.iS;omega
 |succ n u=>
  intro P hn w;cases P with
  |mk k i s ts fs l=>
   rw[Pf.fP] at hn w;have y:=ic Tm.wt ts λt _=>t.iS;have z:=ic Fm.wt fs λt _=>t.iS;have A:=ic Pf.wt l λt _=>t.iS;rw[Pf.h_,Qi];rcases Of k with⟨m,r,p⟩|⟨B,ty,a,b,c,r,m,p,g1,g2,g3,g4,g5⟩
   ·rw[p,eb,xy,ee rfl];simp[Pf.node,m]
   ·rw[p,eb,g1,g2,g3,g4,g5,fR,fR,fR]
    by_cases q:(ts.length:Int)=a/\(fs.length:Int)=b/\(l.length:Int)=c/\0<=i/\(B=true\/i=0)
    ·rw[ea (λh=>Ho.1 h q)]
     have e:Pf.node k i s ts.length fs.length l.length=QW ty s:=by
      rw[B5,Fu m];exact⟨λh=>h.2,λh=>⟨q,h⟩⟩
     rw[e];refine pJ (G:=λo=>o=some (QW ty s&&ts.all Tm.ok&&fs.all Fm.ok&&l.all Pf.ok)) (λv=>v=!QW ty s) (λv C=>?_) (λj D=>?_)
     ·rw[C];cases QW ty s with
      |false=>rfl|true=>
       rw[ea (by decide),eB (by omega),eo,ez,rp Tm.ok false ts 0 (λj x g=>by
        have:=eI Tm.wt g
        rw[yo (by omega),cl]),AJ]
       cases ts.all Tm.ok with
       |false=>rfl|true=>
        rw[ee rfl,cl,ei,eB (by omega),eo,ez,rp Fm.ok false fs 0 (λj x g=>by
         have:=eI Fm.wt g
         rw[yW FU x (by rw[fy];omega) (by omega),cl]),AJ]
        cases fs.all Fm.ok with
        |false=>rfl|true=>
         rw[ee rfl,cl,ei,eB (by omega),eo,ez,rp Pf.ok false l 0 (λj x g=>by
          have:=eI Pf.wt g
          rw[u x (by omega) (by omega),cl]),AJ]
         cases l.all Pf.ok with
         |false=>rfl|true=>rfl
     ·have d:=D (!QW ty s) rfl;unfold QW at d|-
      by_cases f:ty=true
      ·rw[ee f] at d;rw[ee f,ee f,m4 (by omega),cl]
       grind[eW,ey]
      ·rw[ea f] at d;rw[ea f,ea f,wR,cl,Pq];exact d
    ·rw[ee (Ho.2 q)]
     grind[Pf.node,Fu]
def zq:∀(n:Nat) (P:Pf),P.wt<=n->P.wt<=1000000000->qc n P=some P.small:=by
 intro n
 induction n with
 |zero=>intro P h;have:=P.iS;omega
 |succ n b=>
  intro P hn c;cases P with
  |mk k i s ts fs l=>
   rw[Pf.fP] at hn c;have d:=ic Tm.wt ts λt _=>t.iS;have e:=ic Fm.wt fs λt _=>t.iS;have f:=ic Pf.wt l λt _=>t.iS;rw[Pf.zK,qc];simp only[Pf.hJ,Pf.xY,Pf.eG,ez]
   rw[eB (by omega),eo,rp QD false ts 0 (λj x a=>by
    have:=eI Tm.wt a;have:=x.iI;rw[oB FU x (by rw[fy];omega) (by omega),cl]
    by_cases hs:x.ab'<=4096
    ·grind[gA,QD]
    ·rw[ee (by rw[gA];omega),ea (by simpa[QD] using hs)])]
   cases ts.all QD with
   |false=>rfl|true=>
    rw[ee rfl,cl,ei,eB (by omega),eo,rp QU false fs 0 (λj x a=>by
     have:=eI Fm.wt a;have:=x.iI;rw[sn FU x (by rw[fy];omega) (by omega),cl]
     by_cases hs:x.ab'<=4096
     ·rw[ea (by rw[gA];omega),ee (show QU x=true from wa hs)]
     ·rw[ee (by rw[gA];omega),ea (by simpa[QU] using hs)]),AJ]
    cases fs.all QU with
    |false=>rfl|true=>
     rw[ee rfl,cl,ei,eB (by omega),eo,rp Pf.small false l 0 (λj x a=>by
      have:=eI Pf.wt a
      rw[b x (by omega) (by omega),cl]),AJ]
     cases l.all Pf.small with
     |false=>rfl|true=>rfl
theorem zj:∀(n:Nat) (P:Pf),P.wt<=n->P.wt<=1000000000->qd n P=some (P.ab':Int):=by
 intro n
 induction n with
 |zero=>intro P h;have:=P.iS;omega
 |succ n b=>
  intro P hn c;cases P with
  |mk k i s ts fs l=>
   rw[Pf.fP] at hn c;have d:=ic Tm.wt ts λt _=>t.iS;have e:=ic Fm.wt fs λt _=>t.iS;have f:=ic Pf.wt l λt _=>t.iS;have g:=kR (l:=ts) (λx _=>Tm.iI x);have m:=kR (l:=fs) (λx _=>Fm.iI x);have o:=kR (l:=l) (λx _=>Pf.iI x);rw[Pf.ef,qd];simp only[Pf.hJ,Pf.xY,Pf.eG,ez]
   rw[eB (by omega),eo,show(1:Int)=((1:Nat):Int)from rfl,qe Tm.ab' ts 0 1 (by omega) (λj x v a=>by
    have:=eI Tm.wt a;have:=x.iI
    rw[oB FU x (by rw[fy];omega) (by omega),cl]),cl,ei,eB (by omega),eo,qe Fm.ab' fs 0 _ (by omega) (λj x v a=>by
    have:=eI Fm.wt a;have:=x.iI
    rw[sn FU x (by rw[fy];omega) (by omega),cl]),cl,ei,eB (by omega),eo,qe Pf.ab' l 0 _ (by omega) (λj x v a=>by
    have:=eI Pf.wt a
    rw[b x (by omega) (by omega),cl]),cl,ei]
def vG{P:Pf}(h:P.wt<=1000000000):p6 P=some P.err:=by
 unfold p6 s9 Pf.err;rw[FL FU P (by rw[fy];omega) h,cl];cases P.ok with
 |false=>rfl|true=>
  rw[ee rfl,ee rfl,ez,zq FU P (by rw[fy];omega) h,cl];cases P.small with
  |false=>rfl|true=>grind[zj,FU,fy,cl,Dd]
def Pf.Ve{P:Pf}(h:P.err=0):y7 P/\P.ab'<=16384:=by
 unfold Pf.err at h;cases b:P.ok with
 |false=>grind|true=>
  by_cases a:P.small=true/\P.ab'<=16384
  ·exact⟨P.w b a.1,a.2⟩
  ·grind
def Us.Ld{l:List Int}{m:Nat}(h:Us l m)(x:Int):x∈l↔0<=x/\m.testBit x.toNat=true:=by
 constructor
 ·intro b;have a:=h.pos x b;refine⟨a,(h.mem x.toNat).1 ?_⟩
  rwa [Un a]
 ·rintro⟨a,c⟩;have:=(h.mem x.toNat).2 c
  rwa [Un a] at this
def Us.ext{l a:List Int}{m:Nat}(h:Us l m)(b:Us a m):l=a:=CS.eq h.XB b.XB λx=>by rw[h.Ld,b.Ld]
def RM{k q m:Nat}(hm:m=2^(k+1)*q+2^k)(j:Nat):(m&&&(m-1)).testBit j=(m.testBit j&&!decide (j=k)):=by
 have c:2^k<2^(k+1):=aae (by decide) (by omega);have d:0<2^k:=Nat.two_pow_pos k
 have e:m-1=2^(k+1)*q+(2^k-1):=by omega
 rw[Nat.testBit_and,e,hm,TH _ c,TH _ (by omega)]
 by_cases a:j<k+1
 ·rw[ee a,ee a,OG,Nat.testBit_two_pow_sub_one]
  by_cases b:j=k
  ·simp[b]
  ·rw[Dx (show¬k=j by omega)];simp
 ·rw[ea a,ea a,Dx (show¬j=k by omega)];simp
def Uz{a:Int}{l:List Int}{m:Nat}(h:Us (a::l) m):m≠0/\((Lib.ctz 32 m:Nat):Int)=a/\Us l (m&&&(m-1)):=by
 have s:=h.pos a (by simp);obtain⟨k,rfl⟩:∃k:Nat,a=k:=⟨a.toNat,by omega⟩;have d:m.testBit k=true:=(h.mem k).1 (by simp)
 have f:m≠0:=by rintro rfl;simp at d
 cases h.XB with
 |cons s1 s2=>
  have g:∀i,i<k->m.testBit i=false:=λi hi=>by
   rw[Ww];intro t;rcases ma.1 ((h.mem i).2 t)with e|e
   ·omega
   ·have:=s1 _ e;omega
  have n:Lib.ctz 32 m=Lib.ctzFrom 32 m:=by unfold Lib.ctz;rw[ea f]
  obtain⟨q,p,_⟩:=Lib.ctzFrom_spec 32 m (by omega) (by have:=h.lt;omega);rw[<-n] at p
  have c:m=2^(Lib.ctz 32 m+1)*q+2^Lib.ctz 32 m:=by
   rw[Nat.pow_succ,Nat.mul_assoc,<-Nat.mul_succ];exact p
  have r:Lib.ctz 32 m=k:=by
   have b:∀j,j<=Lib.ctz 32 m->m.testBit j=decide (Lib.ctz 32 m=j):=λj y=>by
    have u:2^Lib.ctz 32 m<2^(Lib.ctz 32 m+1):=aae (by decide) (by omega)
    conv=>lhs;rw[c]
    rw[TH _ u,ee (by omega),OG]
   rcases QP (Lib.ctz 32 m) k with o|heq|hgt
   ·have:=b _ (jo _);rw[g _ o] at this;simp at this
   ·exact heq
   ·have:=b k (by omega);rw[d,Dx (by omega)] at this;cases this
  rw[r] at c;refine⟨f,by rw[r],⟨VO Nat.and_le_left h.lt,λx v=>h.pos x (by simp[v]),s2,λi=>?_⟩⟩;rw[RM c,gI,<-h.mem i];simp only[Qm,Y0];constructor
  ·intro hi;refine⟨by simp[hi],?_⟩;rintro rfl;have:=s1 _ hi;omega
  ·rintro⟨hi,w⟩;rcases ma.1 hi with e|e
   ·omega
   ·exact e
def Us.zero{m:Nat}(h:Us [] m):m=0:=by
 refine Uv λi=>?_;rw[Nat.zero_testBit,Ww];intro a;have:=(h.mem i).2 a;simp at this
def Ew:∀(l:List Int) (m:Nat) (v:List Int) (n:Nat),Us l m->l.length<n->v.length+l.length<=1000000->pw (uv λ(v37:Int) (b:List Int)=>
   if(eW v37 0)=true then(
   cv (iQ v37) λc=>
   gS (gr b [c])<|some ((.next ((qN .u32 v37 (fD .u32 v37 1)),(gG b [c]))):gj (Int×List Int) (List Int)))
   else(some (.Ft (v37,b)))) n ((m:Int),v)=some (.inl (0,v++l))
 |l,m,v,0,_,hn,_=>by omega|[],m,v,n+1,h,_,_=>by
  rw[h.zero,pw];simp only[uv];rw[ea (show¬eW ((0:Nat):Int) 0=true by decide)];simp
 |a::l,m,v,n+1,h,hn,e=>by
  simp only[ld] at hn e;obtain⟨i,f,hu⟩:=Uz h;have d:=h.lt
  have g:eW (m:Int) 0=true:=by rw[ey];omega
  rw[pw];simp only[uv];rw[ee g];rw[show iQ (m:Int)=some a by unfold iQ;rw[ee (by omega),AP,f],cl,fx (by simp;omega),eo,cl,ft,gY];rw[show fD .u32 (m:Int) 1=((m-1:Nat):Int) by unfold fD;rw[Fw (by omega) (by omega)];omega,L3 d (by omega)];rw[Ew l _ (v++[a]) n hu (by omega) (by simp;omega)];simp
def QC{l:List Int}{m:Nat}(h:Us l m):kB (m:Int)=some l:=by
 have a:=h.len;unfold kB;rw[ez,Ew l m [] FU h (by rw[fy];omega) (by simp;omega),cl];simp[uv]
def M0:∀(n:Nat) (t:Tm),t.ab'<=n->t.ab'<=50000000->t.ok=true->vz n t=some t:=by
 intro n
 induction n with
 |zero=>intro t h;have:=t.eP;omega
 |succ n c=>
  intro t hn d a;cases t with
  |mk k i s l=>
   rw[Tm.ef] at hn d;have g:=Tm.fF l;have hi:=Tm.l_ a;rw[Tm.h_,gI] at a;have e:=Ty.wY a.1;rw[vz];simp only[Tm.eN,Tm.gx,Tm.fw,Tm.eG,ez]
   rw[pK (by omega),cl,eB (by omega),eo,jz id l 0 [] (by simp;omega) (λj x v b f=>by
    have:=eI Tm.ab' b
    rw[c x (by omega) (by omega) (hi.2.2.2.1 x b),cl,fx (by simpa using f),eo,gY];rfl)]
   simp
def Fm.XN:∀(f:Fm) (b:Int),f.Ii (λt _=>t) b=f:=by
 intro f
 induction f using Fm.ind with
 |h k s ts l a=>
  intro b;rw[Fm.zS,xV (g:=id) (λx c=>a x c _)];simp
def Bn{f:Fm}(h:f.err=0)(c:f.ace 1000000000000=true):px f=some f:=by
 obtain⟨d,hn⟩:=Fm.hV h;unfold px;rw[pg (h:=λe g=>nE e g) (ψ:=λt _=>t) (λt b a _ _=>?_) FU f 0 (by rw[fy];omega) (by omega) d c (by omega) (by omega)]
 ·rw[eb,Fm.XN]
 ·have:=a.ab';unfold nE;rw[M0 FU t (by rw[fy];omega) a.ab' a.ok];rfl
noncomputable def HG (L:List Fm) (q:Sq):Int:=if 32<L.length then 3 else if fX (L.map λf=>EY f [])≠0 then fX (L.map λf=>EY f [])else if w_ q.acb≠0 then w_ q.acb else if 16<q.acf.length then 3 else fX (q.acf.map λf=>EY f q.acb)
structure SqB (L:List Fm) (q:Sq):Prop where
 HU:∀f∈L,f.wt<=1000000000
 N7:∀t∈q.acb,t.ab'<=1000000000
 tyl:q.acb.length<=1000000
 acf:∀f∈q.acf,f.wt<=1000000000
def yc{e:Int}:(cv (some e) λa=>if(eW a 0)=true then some (.ret a)else some ((.next ()):gj Unit Int))=if e≠0 then some (.ret e)else some (.next ()):=by
 rw[cl]
 by_cases h:e=0
 ·subst h;rfl
 ·rw[ee (by rw[ey];exact h),ee h]
def OV{C:List Ty->Option Int}{T:List Ty->Fm->Option Int}{L:List Fm}{q:Sq}(o:C q.acb=some (w_ q.acb))(p:∀f∈L,T [] f=some (EY f []))(s:∀f∈q.acf,T q.acb f=some (EY f q.acb)):(if(nX (eM L) 32)=true then some 3 else gS (fm L)<|eK (λ(t:Int) (e:Fm)=>(λ(_:Unit)=>cv (T [] e) λa=>if(eW a 0)=true then some (.ret a)else some ((.next ()):gj Unit Int))) λg=>
   cv (fp g L 0 ()) (gd (λ(_:Unit)=>cv (C q.acb) λb=>if(eW b 0)=true then some b else if(nX (eM q.acf) 16)=true then some 3 else gS (fm q.acf)<|eK (λ(u:Int) (i:Fm)=>(λ(_:Unit)=>cv (T q.acb i) λc=>if(eW c 0)=true then some (.ret c)else some ((.next ()):gj Unit Int))) λk=>
    cv (fp k q.acf 0 ()) (gd (λ(_:Unit)=>some 0) (λr=>some r))) (λr=>some r)))=some (HG L q):=by
 unfold HG;rw[fR]
 by_cases m:32<L.length
 ·rw[ee (by rw[gA];omega),ee m]
 ·have v:¬nX (L.length:Int) 32=true:=by rw[gA];omega
  rw[ea v,ea m,eB (by omega),eo,ez];rw[lk (λf=>EY f []) L 0 (λj x l=>by rw[p x l];exact yc)]
  by_cases d:fX (L.map λf=>EY f [])=0
  ·rw[ee d,ea (show¬(fX (L.map λf=>EY f [])≠0)fromλh=>h d),cl,ei,o,cl]
   by_cases c3:w_ q.acb=0
   ·have z2:¬eW (w_ q.acb) 0=true:=by rw[ey];simpa using c3
    rw[ea z2,ea (show¬(w_ q.acb≠0)fromλh=>h c3),fR]
    by_cases n:16<q.acf.length
    ·rw[ee (by rw[gA];omega),ee n]
    ·have z3:¬nX (q.acf.length:Int) 16=true:=by rw[gA];omega
     rw[ea z3,ea n,eB (by omega),eo,ez];rw[lk (λf=>EY f q.acb) q.acf 0 (λj x l=>by rw[s x l];exact yc)]
     by_cases c5:fX (q.acf.map λf=>EY f q.acb)=0
     ·rw[ee c5,c5];rfl
     ·rw[ea c5];rfl
   ·have z2:eW (w_ q.acb) 0=true:=by rw[ey];exact c3
    rw[ee z2,ee c3]
  ·rw[ea d,ee d];rfl
def CY{L:List Fm}{q:Sq}(h:SqB L q):sJ L q=some (HG L q)/\tD L q=some (HG L q):=by
 have a:∀t∈([]:List Ty),t.ab'<=1000000000:=λt c=>by simp at c
 exact⟨OV (C:=nY) (T:=mJ) (xL q.acb h.tyl h.N7) (λx b=>sZ (h.HU x b) (by simp) a) (λx b=>sZ (h.acf x b) h.tyl h.N7),OV (C:=mI) (T:=jR) (td q.acb h.tyl h.N7) (λx b=>sj (h.HU x b) (by simp) a) (λx b=>sj (h.acf x b) h.tyl h.N7)⟩
def y':∀{l:List Int},(∀e∈l,e=0)->fX l=0
 |[],_=>rfl|a::l,h=>by
  rw[fX,ee (h a (by simp))];exact y' λe he=>h e (by simp[he])
def zV:∀{l:List Int},fX l=0->∀e∈l,e=0
 |[],_,e,he=>by simp at he
 |a::l,h,e,he=>by
  rw[fX] at h
  by_cases b:a=0
  ·rw[ee b] at h;rcases ma.1 he with rfl|he
   ·exact b
   ·exact zV h e he
  ·rw[ea b] at h;exact absurd h b
def RE{f:Fm}{g:List Ty}(h:EY f g=0):Hg g f:=by
 unfold EY at h
 by_cases b:w_ g=0
 ·rw[ea (λh=>h b)] at h
  by_cases a:f.err=0
  ·rw[ea (λh=>h a)] at h;exact⟨a,rV f (Fm.hV a).1 g (iR.of b).1 h⟩
  ·rw[ee a] at h;exact absurd h a
 ·rw[ee b] at h;exact absurd h b
structure EO (L:List Fm) (q:Sq):Prop where
 ln:L.length<=32
 HU:∀f∈L,Hg [] f
 ctx:iR q.acb
 nv:q.acb.length<=16
 nh:q.acf.length<=16
 acf:∀f∈q.acf,Hg q.acb f
def Qo{L:List Fm}{q:Sq}(h:HG L q=0):EO L q:=by
 unfold HG at h
 by_cases d:32<L.length
 ·rw[ee d] at h;cases h
 ·rw[ea d] at h
  by_cases a:fX (L.map λf=>EY f [])=0
  ·rw[ea (λh=>h a)] at h
   by_cases b:w_ q.acb=0
   ·rw[ea (λh=>h b)] at h
    by_cases e:16<q.acf.length
    ·rw[ee e] at h;cases h
    ·rw[ea e] at h;obtain⟨g,i⟩:=iR.of b;exact⟨by omega,λf c=>RE (zV a _ (oy.2 ⟨f,c,rfl⟩)),g,i,by omega,λf c=>RE (zV h _ (oy.2 ⟨f,c,rfl⟩))⟩
   ·rw[ee b] at h;exact absurd h b
  ·rw[ee a] at h;exact absurd h a
def EO.zero{L:List Fm}{q:Sq}(h:EO L q):HG L q=0:=by
 have c:∀{g:List Ty} {f:Fm},iR g->g.length<=16->Hg g f->EY f g=0:=λhg b a=>by
  unfold EY;rw[C8 hg b,ea (by decide),ea (λh=>h a.err)];exact Cr a.ty hg (by have:=a.ab';omega)
 have d:fX (L.map λf=>EY f [])=0:=y' λe he=>by
  obtain⟨f,a,rfl⟩:=oy.1 he;exact c (λ_ h=>by simp at h) (by simp) (h.HU f a)
 have i:fX (q.acf.map λf=>EY f q.acb)=0:=y' λe he=>by
  obtain⟨f,a,rfl⟩:=oy.1 he;exact c h.ctx h.nv (h.acf f a)
 unfold HG;have:=h.ln;have:=h.nh;rw[ea (by omega),d,ea (by decide),C8 h.ctx h.nv,ea (by decide),ea (by omega),i]
def GH{T:List ed}{N:Nat}(g:N<=1000000):∀(l:List Fm) (j:Nat) (k:List eu),k.length+l.length<=1000000->fp (λ(i:Int) (b:Fm)=>(Ys λ(c:Int) (v46:Int) (d:List ed) (e:List eu)=>
   cv (gm (eh.mk (fg.mk c v46) d e) b) λa=>
   some ((.next (a.gn.vars,a.gn.acf,a.acb,a.known)):gj (Int×Int×(List ed)×(List eu)) (eh)))) l j ((N:Int),(k.length:Int),T,k)=some (.inl ((N:Int),((k.length+l.length:Nat):Int),T,k++l.map λf=>eu.mk f N))
 |[],j,k,_=>by simp|f::l,j,k,h=>by
  simp only[ld] at h;rw[fl];simp only[Ys];unfold gm;rw[fx (by simp;omega),eo,cl];simp only[cl,ft,gY];rw[fq (by omega) (by omega)];have:=GH (T:=T) g l (j+1) (k++[eu.mk f N]) (by simp;omega);rw[show(k.length:Int)+1=((k++[eu.mk f N]).length:Int) by simp];unfold gm at this;simp only[gY] at this;rw[this];simp;omega
def start_eq{L:List Fm}{q:Sq}(h:EO L q):∃p,sa q=some p/\PG L p (en.mk L q.acb q.acf):=by
 have d:=h.nh;have a:=h.nv;refine⟨eh.mk (fg.mk (q.acb.length:Int) (q.acf.length:Int)) (q.acb.map ti) (q.acf.map λf=>eu.mk f q.acb.length),?_,⟨⟨rfl,rfl,rfl,h.ctx,a,d,by simp,?_⟩,rfl,h.HU,h.acf⟩⟩
 ·unfold sa;rw[vo h.ctx (by omega),cl,eB (by omega),eo,ez,fR];have:=GH (T:=q.acb.map ti) (N:=q.acb.length) (by omega) q.acf 0 [] (by simp;omega);rw[show(([]:List eu).length:Int)=0 from rfl] at this;rw[this,cl];simp[Ys]
 ·intro i x g b c;have b:(q.acf.map λf=>eu.mk f q.acb.length)[i]?=some x:=b;have c:q.acf[i]?=some g:=c;rw[uA,c] at b;obtain rfl:=iy b;have hg:=h.acf g (Be c);refine⟨hg.hy a,by show(0:Int)<=(q.acb.length:Int);omega,by show((q.acb.length:Nat):Int)<=(q.acb.length:Int);omega,?_⟩;show g=g.up 0 ((q.acb.length:Int)-(q.acb.length:Int));rw[Int.sub_self,Fm.yp]
def Pf.Pd:∀(l:List Pf),(∀x∈l,x.yV<=x.ab')->Pf.v_ l<=eE Pf.ab' l
 |[],_=>by simp[Pf.v_]|a::l,b=>by
  have d:=b a (by simp);have e:=Pf.Pd l (λx c=>b x (by simp[c]));simp only[Pf.v_,eE];omega
def Pf.PU(p:Pf):p.yV<=p.ab':=by
 induction p using Pf.ind with
 |h k i s ts fs l a=>
  rw[Pf.ef,Pf.yV];have:=Pf.Pd l a;omega
noncomputable def Sa (L:List Fm) (q:Sq) (P:Pf):PR:=lC (HG L q) (lC P.err (P.inf L q.acb q.acf))
def Bh{L:List Fm}{q:Sq}{P:Pf}(h:SqB L q)(j:P.wt<=1000000000):(∃e,e≠0/\Sa L q P=.inr e/\mx L q P=some (⟨hY,[]⟩,e)/\lP L q P=some (⟨hY,[]⟩,e))\/∃(f:Fm) (m:Nat) (l:List Int),Sa L q P=.inl (f,m)/\mx L q P=some (⟨f,l⟩,0)/\lP L q P=some (⟨f,l⟩,0)/\Us l m/\Hg q.acb f/\EO L q/\P.err=0:=by
 unfold mx lP Sa;rw[(CY h).1,(CY h).2,cl,cl]
 by_cases b:HG L q=0
 ·have d:=Qo b;rw[b,ea nz,ea nz,jt rfl,GI j,vG j,cl,cl]
  by_cases c:P.err=0
  ·obtain⟨hw,hn⟩:=Pf.Ve c;obtain⟨p,k,n⟩:=start_eq d;have o:=P.PU;rw[c,ea nz,ea nz,jt rfl,show yr=some ()from rfl,cl,k,cl];rcases Sv hw FU FU (by rw[fy];omega) (by rw[fy];omega) p _ n with⟨e,he,q1,g,i⟩|⟨f,m,l,q1,g,i,hu,a⟩
   ·rw[g,i,eb,eb,ee (by rw[ey];exact he),ee (by rw[ey];exact he)];exact .inl ⟨e,he,q1,rfl,rfl⟩
   ·have a:Hg q.acb f:=a;have r:=hu.len;have s:=f.jF a.ok;have t:=a.ab';rw[g,i,eb,eb,ea nz,ea nz];simp only[];rw[Bn a.err (a.ace d.nv (by omega)),cl,QC hu,cl,lL (by omega),cl,fx (by simp;omega),eo,gY,o_];exact .inr ⟨f,m,l,q1,rfl,rfl,hu,a,d,by trivial⟩
  ·rw[ee (by rw[ey];exact c),ee (by rw[ey];exact c),kg c];exact .inl ⟨_,c,rfl,rfl,rfl⟩
 ·rw[ee (by rw[ey];exact b),ee (by rw[ey];exact b),kg b];exact .inl ⟨_,b,rfl,rfl,rfl⟩
def Pf.n5(l:List Pf):l.length<=eE Pf.wt l:=ic Pf.wt l λt _=>t.iS
def AW:∀(n:Nat) (P:Pf),P.wt<=n->P.wt<=1000000000->p9 n P=some P:=by
 intro n
 induction n with
 |zero=>intro P h;have:=P.iS;omega
 |succ n c=>
  intro P hn d;cases P with
  |mk k i s ts fs l=>
   rw[Pf.fP] at hn d;have e:=ic Tm.wt ts λt _=>t.iS;have f:=ic Fm.wt fs λt _=>t.iS;have g:=Pf.n5 l;rw[p9];simp only[Pf.eN,Pf.gx,Pf.fw,Pf.hJ,Pf.xY,Pf.eG,ez]
   rw[jg (by omega),cl,eB (by omega),eo,jz id ts 0 [] (by simp;omega) (λj x v a b=>by
    have:=eI Tm.wt a
    rw[nI (by omega),cl,fx (by simpa using b),eo,gY];rfl),cl,ei,eB (by omega),eo,jz id fs 0 [] (by simp;omega) (λj x v a b=>by
    have:=eI Fm.wt a
    rw[lL (by omega),cl,fx (by simpa using b),eo,gY];rfl),cl,ei,eB (by omega),eo,jz id l 0 [] (by simp;omega) (λj x v a b=>by
    have:=eI Pf.wt a
    rw[c x (by omega) (by omega),cl,fx (by simpa using b),eo,gY];rfl),cl,ei]
   simp
def aad{k:Int}{l:List Pf}(h:eE Pf.wt l<=1000000000):ng k l=some (.mk k 0 .z [] [] l):=by
 have c:=Pf.n5 l;unfold ng
 rw[eB (by omega),eo,ez,jz id l 0 [] (by simp;omega) (λj x v a b=>by
  have:=eI Pf.wt a
  rw[AW FU x (by rw[fy];omega) (by omega),cl,fx (by simpa using b),eo,gY];rfl),cl,ei]
 simp[Ty.z]
def M'{k:Int}{a:Pf}(h:a.wt<=500000000):ng k [a]=some (.mk k 0 .z [] [] [a]):=aad (by simp[eE];omega)
def Jl{k:Int}{a b:Pf}(h:a.wt<=400000000)(c:b.wt<=400000000):ng k [a,b]=some (.mk k 0 .z [] [] [a,b]):=aad (by simp[eE];omega)
def S0{F:Fm}{a:Pf}(hF:F.wt<=1000000000)(h:a.wt<=500000000):uY F a=some (.mk 6 0 .z [] [F] [a]):=by
 unfold uY;rw[M' h,cl,lL hF];rfl
def Dy{k:Int}{s:Ty}{a:Pf}(hs:s.ab'<=1000000000)(h:a.wt<=500000000):pH k s a=some (.mk k 0 s [] [] [a]):=by
 unfold pH;rw[M' h,cl,jg hs];rfl
def O_{k:Int}{t:Tm}{a:Pf}(b:t.wt<=1000000000)(h:a.wt<=500000000):tG k t a=some (.mk k 0 .z [t] [] [a]):=by
 unfold tG;rw[M' h,cl,nI b];rfl
def O0{k:Int}{F:Fm}{t:Tm}{a:Pf}(hF:F.wt<=1000000000)(b:t.wt<=1000000000)(h:a.wt<=500000000):tH k F t a=some (.mk k 0 .z [t] [F] [a]):=by
 unfold tH;rw[O_ b h,cl,lL hF];rfl
def PF{k:Int}{F:Fm}{t:Tm}{a:Pf}(hF:F.wt<=1000000000)(b:t.wt<=1000000000)(h:a.wt<=500000000):sE k F t a=some (.mk k 0 .z [t] [F] [a],F):=by
 unfold sE;rw[O_ b h,cl,lL hF];rfl
def Nw{k:Int}{F:Fm}{t:Tm}{a b:Pf}(hF:F.wt<=1000000000)(c:t.wt<=1000000000)(h:a.wt<=400000000)(d:b.wt<=400000000):tj k F t a b=some (.mk k 0 .z [t] [F] [a,b]):=by
 unfold tj;rw[Jl h d,cl,nI c,cl,lL hF];rfl
def M6{F:Fm}{a b:Pf}(hF:F.wt<=1000000000)(h:a.wt<=400000000)(c:b.wt<=400000000):r5 F a b=some (.mk 19 0 .z [] [F] [a,b]):=by
 unfold r5;rw[Jl h c,cl,lL hF];rfl
def uw{t:Tm}(a:t.wt<=1000000000):ll t=some (.mk 18 0 .z [t] [] []):=by
 unfold ll;rw[nI a];rfl
def zy{t:Tm}{g:List Ty}{s:Ty}(h:e_ g t s)(hg:g.length<=1000)(hn:t.ab'<=4096):j4 t=some (t.up 0 1):=by
 have hw:=t.jF h.ok;have a:t.ace 1000000000000=true:=h.ace _ (by omega);unfold j4;rw[En (by omega) (by omega),cl,tX FU _ 0 1 (by rw[fy,Fm.ef];simp only[eE];omega) (by rw[Fm.ef];simp only[eE];omega) (by omega) (by rw[Fm.ef];simp only[eE];omega) (by omega) (by omega) (by rw[Fm.fo];simp[a]),cl,Fm.l7];rfl
def Bf{q:Sq}{f:Fm}(h:q.acf.length<=1000):yD q f=some ⟨q.acb,q.acf++[f]⟩:=by
 unfold yD;rw[fx (by simp;omega),eo,fx (by simp[gY];omega),eo];simp[gY]
def Mn{L:List Fm}{q:Sq}(h:EO L q){l:List Ty}(e:l.length<=1000):qn q l=some ⟨q.acb++l,q.acf.map (Fm.up 0 l.length)⟩:=by
 have b:=h.nh;have a:=h.nv;unfold qn
 rw[oV _ _ (by omega),cl,eB (by omega),eo,ez,jz (Fm.up 0 l.length) q.acf 0 [] (by simp;omega) (λj x v c d=>by
  have hg:=h.acf x c;have hn:=hg.ab'
  rw[fR,tX FU x 0 l.length (by rw[fy];omega) (by omega) (by omega) (by omega) (by omega) (by omega) (hg.ace a (by omega)),cl,fx (by simpa using d),eo,gY]),cl,ei,o_]
def EO.below{L:List Fm}{q:Sq}(h:EO L q){l:List Ty}(b:iR l)(hn:q.acb.length+l.length<=16):EO L ⟨q.acb++l,q.acf.map (Fm.up 0 l.length)⟩:=by
 refine⟨h.ln,h.HU,h.ctx.append b,by simpa using hn,by simpa using h.nh,λf c=>?_⟩;obtain⟨f0,a,rfl⟩:=oy.1 c;exact(h.acf f0 a).up l
def EO.with{L:List Fm}{q:Sq}(h:EO L q){f:Fm}(a:Hg q.acb f)(hn:q.acf.length+1<=16):EO L ⟨q.acb,q.acf++[f]⟩:=by
 refine⟨h.ln,h.HU,h.ctx,h.nv,by simpa using hn,λx hx=>?_⟩;rcases sR.1 hx with hx|hx
 ·exact h.acf x hx
 ·rw[w4.1 hx];exact a
def Hg.wt{g:List Ty}{f:Fm}(h:Hg g f):f.wt<=266240:=by
 have:=f.jF h.ok;have:=h.ab';omega
def EO.b{L:List Fm}{q:Sq}(h:EO L q):SqB L q:=by
 refine⟨λf a=>by have:=(h.HU f a).wt;omega,λt c=>by have:=fC (h.ctx t c);omega,by have:=h.nv;omega,λf a=>by have:=(h.acf f a).wt;omega⟩
def pb:Nat->Nat
 |0=>10000|k+1=>3*pb k+1000000
def Pl:∀k,k<=4->10000<=pb k/\pb k<=50000000
 |0,_=>by decide|1,_=>by decide|2,_=>by decide|3,_=>by decide|4,_=>by decide|k+5,h=>by omega
def jn(b:Nat)(o:Option (Pf×ew)):Prop:=∃x a,o=some (x,a)/\a.wf/\x.wt<=b
def jn.of{b:Nat}{x:Pf}{d:ew}(a:d.wf)(h:x.wt<=b):jn b (some (x,d)):=⟨x,d,rfl,a,h⟩
def jG{β:Type}{G:Option β->Prop}{c:Bool}{a b:Option β}(d:c=true->G a)(e:c=false->G b):G (if c=true then a else b):=by
 cases c with
 |true=>exact d rfl|false=>exact e rfl
def pC{g:List Ty}{t:Ty}{d:ew}(e:g.length<=600)(hg:qD 3 g)(f:t.err=0)(c:t.ab'<=3)(h:d.wf):∃x a,gD FU d g t 1=some (x,a)/\a.wf/\e_ g x t/\x.ab'<=57/\x.wt<=3705/\x.err=0:=by
 obtain⟨x,a,i,j,b⟩:=GU 3 (by omega) (by omega) 1 (by omega) g t d e hg f c h;have hn:x.ab'<=57:=b.ab';have hw:=x.jF b.ty.ok;exact⟨x,a,i,j,b.ty,hn,by omega,Tm.tA b.ty.ok (by omega)⟩
def za{d:ew}(b:d.wf):∃t a,iY FU d 1=some (t,a)/\t.err=0/\t.ab'<=3/\a.wf:=by
 obtain⟨t,a,c,e,g,f⟩:=xw d b 1 (by omega);exact⟨t,a,c,e,by omega,f⟩
def RF{d:ew}(b:d.wf):∃t a,iY FU d 0=some (t,a)/\t.err=0/\t.ab'<=3/\a.wf:=by
 obtain⟨t,a,c,e,g,f⟩:=xw d b 0 (by omega);exact⟨t,a,c,e,by omega,f⟩
theorem Ty.gC:Ty.z.ab'=1:=by decide
def B_:fY 0=some v0:=rfl
def Rh{P:Pf}{e:Int}(h:P.wt<=1000000000):∃b c,tQ P e=some (b,c)/\b.wt<=P.wt+1:=by
 have a:(Pf.mk 0 0 (Ty.mk 0 []) [] [] []).wt<=P.wt+1:=by have:=P.iS;rw[Pf.fP];simp[eE,Ty.ef];omega
 unfold tQ
 by_cases he:e=0
 ·subst he;rw[ea nz];unfold s9;rw[ez,zq FU P (by rw[fy];omega) h,cl,zj FU P (by rw[fy];omega) h];cases P.small with
  |false=>exact⟨_,_,rfl,a⟩|true=>
   rw[ee rfl,cl,cl];cases MV (P.ab':Int) 16384 with
   |false=>exact⟨_,_,rfl,a⟩|true=>
    rw[ee rfl,AW FU P (by rw[fy];omega) h];exact⟨_,_,rfl,by omega⟩
 ·rw[ee (by rw[ey];exact he)];exact⟨_,_,rfl,a⟩
def Pz{ts:List Tm}{ps:List Pf}(d:∀t∈ts,t.wt<=1000000000)(f:∀p∈ps,p.wt<=1000000000)(g:ts.length<=1000)(h:ps.length<=1000):∃e,ss ts [] ps=some e:=by
 unfold ss;rw[eB (by omega),eo,ez,lk Tm.err ts 0 (λj x a=>by rw[na (d x a)];exact yc)]
 by_cases b:fX (ts.map Tm.err)=0
 ·rw[ee b,cl,ei,eB (by simp),eo,ez,pq,cl,ei,eB (by omega),eo,ez,lk Pf.err ps 0 (λj x a=>by rw[vG (f x a)];exact yc)]
  by_cases c:fX (ps.map Pf.err)=0
  ·rw[ee c];exact⟨_,rfl⟩
  ·rw[ea c];exact⟨_,rfl⟩
 ·rw[ea b];exact⟨_,rfl⟩
def EC{t:Tm}{g:List Ty}{s:Ty}(h:e_ g t s)(hg:g.length<=1000)(hn:t.ab'<=4096):vV t 1=some (t.up 0 1):=by
 unfold vV;rw[zT FU t 0 1 (by rw[fy];omega) (by omega) (by omega) (by omega) (by omega) (by omega) (h.ace _ (by omega))];rfl
def MC{t:Tm}(a:t.wt<=3705):∃P,zR t=some P/\P.wt<=20000:=by
 obtain⟨z,h,z2⟩:=D7 0 (by omega) (by omega);have c:=(z2 [.nat]).1;have p:=(z2 [.nat]).2;have b:=C_;have i:e_ [.nat] v0 .nat:=vA (g:=[]);have d:e_ [.nat] (iV (iV oc z) v0) .nat:=.app (.app (D6 _) c) i;have f:e_ [] (mW .nat (kc v0)) (.fn .nat .nat):=.lam zX (.succ vA)
 have q:(iV (iV oc z) v0).ab'<=20:=by
  unfold iV v0;rw[Tm.ef,eE,eE,Tm.ef,eE,eE,Tm.ef];simp only[eE];omega
 have r:(mW .nat (kc v0)).ab'=3:=by decide
 have s:=Tm.jF _ d.ok;have u:=Tm.jF _ f.ok;have v:=Tm.jF _ c.ok
 have w:v0.wt<=10:=by decide
 have wp:oc.wt<=585:=by have:=Tm.jF _ (D6 []).ok;omega
 unfold zR;rw[A7,cl,h,cl,B_,cl,Kk (by omega) (by omega) (by omega),cl,show Tm.mk 3 0 .z [.mk 3 0 .z [oc,z],v0]=iV (iV oc z) v0 from rfl,cl,En (by omega) (by omega),cl,fI,cl,cl,Jz (by omega),cl,show Tm.mk 5 0 .z [v0]=kc v0 from rfl,A_ (by decide) (by decide),cl,show Tm.mk 2 0 .nat [kc v0]=mW .nat (kc v0)from rfl,cl,show ny 0=some (Pf.mk 1 0 .z [] [] [])from rfl,cl]
 have x:(Pf.mk 1 0 .z [] [] []).wt<=10:=by decide
 have j:∃P e,uZ (mW .nat (kc v0)) (iV (iV oc z) v0) v0 (Pf.mk 1 0 .z [] [] [])=some (P,e)/\P.wt<=12000:=by
  have y:=Tm.FJ (iV (iV oc z) v0) 0 1;have A:=Tm.FJ (mW .nat (kc v0)) 0 1
  have B:(Tm.mk 3 0 .z [mW .nat (kc v0),iV (iV oc z) v0]).wt<=1600:=by rw[Tm.fP];simp only[eE,Ty.gC];omega
  have C:(Tm.mk 3 0 .z [(mW .nat (kc v0)).up 0 1,(iV (iV oc z) v0).up 0 1]).wt<=1600:=by rw[Tm.fP];simp only[eE,Ty.gC];omega
  have D:(Tm.mk 3 0 .z [(mW .nat (kc v0)).up 0 1,v0]).wt<=1600:=by rw[Tm.fP];simp only[eE,Ty.gC];omega
  have wf:(Fm.mk 1 .z [Tm.mk 3 0 .z [(mW .nat (kc v0)).up 0 1,(iV (iV oc z) v0).up 0 1],Tm.mk 3 0 .z [(mW .nat (kc v0)).up 0 1,v0]] []).wt<=4000:=by rw[Fm.fP];simp only[eE,Ty.gC];omega
  have wr:(Pf.mk 18 0 .z [Tm.mk 3 0 .z [mW .nat (kc v0),iV (iV oc z) v0]] [] []).wt<=2000:=by rw[Pf.fP];simp only[eE,Ty.gC];omega
  have hg:vn (mW .nat (kc v0)) (iV (iV oc z) v0) (Pf.mk 1 0 .z [] [] [])=some (.mk 19 0 .z [] [Fm.mk 1 .z [Tm.mk 3 0 .z [(mW .nat (kc v0)).up 0 1,(iV (iV oc z) v0).up 0 1],Tm.mk 3 0 .z [(mW .nat (kc v0)).up 0 1,v0]] []] [.mk 1 0 .z [] [] [],.mk 18 0 .z [Tm.mk 3 0 .z [mW .nat (kc v0),iV (iV oc z) v0]] [] []]):=by
   unfold vn;rw[EC f (by simp) (by omega),cl,EC d (by simp) (by omega),cl,tR (by omega) (by omega),cl,cl,B_,cl,tR (by omega) (by omega),cl,En (by omega) (by omega),cl,tR (by omega) (by omega),cl,uw (by omega),cl,M6 (by omega) (by omega) (by omega)];rfl
  unfold uZ
  obtain⟨e,he⟩:=Pz (ts:=[mW .nat (kc v0),iV (iV oc z) v0,v0]) (ps:=[Pf.mk 1 0 .z [] [] []]) (by
   intro t a;simp only[ma,xg,Zf] at a
   rcases a with rfl|rfl|rfl<;>omega) (by
   intro t a
   rw[w4.1 a];omega) (by simp) (by simp)
  have k:(Pf.mk 19 0 .z [] [Fm.mk 1 .z [Tm.mk 3 0 .z [(mW .nat (kc v0)).up 0 1,(iV (iV oc z) v0).up 0 1],Tm.mk 3 0 .z [(mW .nat (kc v0)).up 0 1,v0]] []] [.mk 1 0 .z [] [] [],.mk 18 0 .z [Tm.mk 3 0 .z [mW .nat (kc v0),iV (iV oc z) v0]] [] []]).wt<=11000:=by rw[Pf.fP];simp only[eE,Ty.gC] at*;omega
  rw[hg,cl,he,cl];obtain⟨l,m,n,E⟩:=Rh (e:=e) (show _<=1000000000 from C7 k (by omega));rw[n,eb];exact⟨l,m,rfl,by omega⟩
 obtain⟨P,e,o,F⟩:=j
 have G:(Fm.mk 1 .z [iV (iV oc z) v0,v0] []).wt<=2000:=by rw[Fm.fP];simp only[eE,Ty.gC];omega
 have H:(Pf.mk 18 0 .z [z] [] []).wt<=200:=by rw[Pf.fP];simp only[eE,Ty.gC];omega
 rw[o,eb,cl,uw (by omega),cl,Nw (by omega) (by omega) (by omega) (by omega)];refine⟨_,rfl,?_⟩;rw[Pf.fP];simp only[eE,Ty.gC] at*;omega
def e_.lift{g:List Ty}{x:Tm}{t:Ty}(h:e_ g x t)(e:List Ty):e_ (g++e) (x.up 0 e.length) t:=by
 have:=h.up g [] e (by simp)
 grind
def eqv(t:Tm):Fm:=.mk 1 .z [t.up 0 1,v0] []
def Km{g:List Ty}{t:Tm}(h:e_ g t .nat)(hn:t.ab'<=57):Hg (g++[.nat]) (eqv t)/\(eqv t).ab'<=59/\(eqv t).wt<=3900:=by
 have hu:e_ (g++[.nat]) (t.up 0 1) .nat:=by
  exact h.lift [.nat]
 have a:k4 (g++[.nat]) (eqv t):=.eq hu vA
 have hm:(eqv t).ab'<=59:=by
  unfold eqv;rw[Fm.ef];simp only[eE];rw[Tm.rj]
  have:v0.ab'=1:=by decide
  omega
 have hw:=Fm.jF _ a.ok;refine⟨⟨?_,a⟩,hm,by omega⟩;unfold Fm.err;rw[ee a.ok,ea (by omega)]
def Gu{g:List Ty}{t:Tm}(h:e_ g t .nat)(hg:g.length<=600)(hn:t.ab'<=57){β:Type}(k:Fm->Option β):(cv (j4 t) λa=>cv (fY 0) λb=>cv (ml a b) λc=>k c)=k (eqv t):=by
 have hw:=t.jF h.ok;have hu:=Tm.FJ t 0 1
 have d:v0.wt<=10:=by decide
 rw[zy h (by omega) (by omega),cl,B_,cl,En (by omega) (by omega)];rfl
def W2{g:List Ty}{f:Fm}{k:Int}(b:k=5\/k=7)(h:Hg (g++[.nat]) f)(hn:f.ab'<=4000):Hg g (.mk k .nat [] [f]):=by
 have a:k4 g (.mk k .nat [] [f]):=.q (by omega) Ty.hE h.ty;refine⟨?_,a⟩;unfold Fm.err;rw[ee a.ok,ea (by rw[Fm.ef];simp only[eE];omega)]
def NG{q:Sq}{d:ew}(a:q.acb.length<=600)(hg:qD 3 q.acb)(b:d.wf):jn 12000 (BT d q):=by
 obtain⟨t,d1,t1,t2,t3,t4,t5,t6⟩:=pC a hg Ty.hE (by decide) b;obtain⟨c,e,f⟩:=Km t3 t4
 have g:(Pf.mk 18 0 .z [t] [] []).wt<=3800:=by grind[Pf.fP,eE,Ty.gC]
 have h:(Fm.mk 5 .nat [] [eqv t]).wt<=4000:=by rw[Fm.fP];simp only[eE,Ty.ir];omega
 unfold BT;rw[fI,cl,t1,eb,Gu t3 a t4,D8 (by decide) (by omega),cl,uw (by omega),cl,O0 (by omega) (by omega) (by omega),cl];refine jn.of t2 ?_;rw[Pf.fP];simp only[eE,Ty.gC];omega
def Mg{q:Sq}{d:ew}(a:q.acb.length<=600)(hg:qD 3 q.acb)(c:d.wf):∃t b,tL d q=some (.mk 10 0 .z [t] [.mk 5 .nat [] [eqv t]] [.mk 18 0 .z [t] [] []],.mk 5 .nat [] [eqv t],b)/\b.wf/\e_ q.acb t .nat/\t.ab'<=57/\t.wt<=3705:=by
 obtain⟨t,d1,t1,t2,t3,t4,t5,t6⟩:=pC a hg Ty.hE (by decide) c;obtain⟨e,f,g⟩:=Km t3 t4
 have h:(Pf.mk 18 0 .z [t] [] []).wt<=3800:=by grind[Pf.fP,eE,Ty.gC]
 have i:(Fm.mk 5 .nat [] [eqv t]).wt<=4000:=by rw[Fm.fP];simp only[eE,Ty.ir];omega
 unfold tL;rw[fI,cl,t1,eb,Gu t3 a t4,D8 (by decide) (by omega),cl,uw (by omega),cl,PF (by omega) (by omega) (by omega),eb];exact⟨t,d1,rfl,t2,t3,t4,t5⟩
def yj{L:List Fm}{q:Sq}(h:EO L q){P:Pf}(a:P.wt<=1000000000):(∃e,e≠0/\lP L q P=some (⟨hY,[]⟩,e))\/∃f l,lP L q P=some (⟨f,l⟩,0)/\Hg q.acb f:=by
 rcases Bh h.b a with⟨e,he,_,_,c⟩|⟨f,m,l,_,_,c,_,d,_⟩
 all_goals grind
def Da{g:List Ty}{f:Fm}(h:Hg g f)(hg:g.length<=16):hB FU f 0 1=some (f.up 0 1)/\(f.up 0 1).wt<=266240:=by
 have hn:=h.ab';refine⟨tX FU f 0 1 (by rw[fy];omega) (by omega) (by omega) (by omega) (by omega) (by omega) (h.ace hg (by omega)),?_⟩;have a:=h.wt
 grind[Fm.FJ]
def O'{a b x:Int}(c:0<=x)(d:x<2):∃y,eJ [a,b] x=some y/\(x=0/\y=a\/x=1/\y=b):=by
 have:x=0\/x=1:=by omega
 rcases this with rfl|rfl
 ·exact⟨a,rfl,.inl ⟨rfl,rfl⟩⟩
 ·exact⟨b,rfl,.inr ⟨rfl,rfl⟩⟩
structure Mq (L:List Fm) (q:Sq):Prop where
 v:EO L q
 c:qD 3 q.acb
def Mq.below{L:List Fm}{q:Sq}(h:Mq L q){s:Ty}(hs:s.err=0)(a:s.ab'<=3)(hn:q.acb.length+1<=16):Mq L ⟨q.acb++[s],q.acf.map (Fm.up 0 1)⟩:=
 ⟨h.v.below (l:=[s]) (λx b=>by rw[w4.1 b];exact hs) hn,h.c.app λx b=>by rw[w4.1 b];exact⟨hs,a⟩⟩
def Mq.with{L:List Fm}{q:Sq}(h:Mq L q){f:Fm}(a:Hg q.acb f)(hn:q.acf.length+1<=16):Mq L ⟨q.acb,q.acf++[f]⟩:=⟨h.v.with a hn,h.c⟩
def Mq.Yr{L:List Fm}{q:Sq}(h:Mq L q)(s:Ty):qn q [s]=some ⟨q.acb++[s],q.acf.map (Fm.up 0 1)⟩:=Mn h.v (l:=[s]) (by simp)
def GF{κ β:Type}{G:Option β->Prop}(Q:κ->Prop){k:κ}{b:κ->Option β}(a:Q k)(c:∀j,Q j->G (b j)):G (eK k b):=c k a
def PX{n k:Nat}(T:k<=3){L:List Fm}(C:∀(d:ew) (q:Sq),d.wf->Mq L q->jn (pb k) (jy n d L q (k:Int))){d:ew}(D:d.wf){q:Sq}(h:Mq L q)(E:q.acb.length<10)(A:q.acf.length<10):jn (pb (k+1)) (xK (n+1) d L q ((k+1:Nat):Int)):=by
 have F:=Pl k (by omega);have H:pb (k+1)=3*pb k+1000000:=rfl;obtain⟨t,d1,s1,s2,I,K,U⟩:=Mg (by omega) h.c D;obtain⟨g1,g2,g3⟩:=Km I K
 have V:(Pf.mk 18 0 .z [t] [] []).wt<=3800:=by rw[Pf.fP];simp only[eE,Ty.gC];omega
 have s:∀i:Int,(Fm.mk i .nat [] [eqv t]).wt<=4000:=λi=>by rw[Fm.fP];simp only[eE,Ty.ir];omega
 have u:∀i j:Int,(Pf.mk j 0 .z [t] [Fm.mk i .nat [] [eqv t]] [Pf.mk 18 0 .z [t] [] []]).wt<=20000:=λi j=>by have:=s i;rw[Pf.fP];simp only[eE,Ty.gC];omega
 rw[xK,s1,ov];refine GF (G:=jn (pb (k+1))) (λJ=>∀(v24 m:Int) (o:ew) (a:Int),o.wf->(a=5\/a=7)->jn (pb (k+1)) (J v24 m o a)) ?_ ?_
 ·intro v24 m o a v M;have N:Hg q.acb (.mk a .nat [] [eqv t]):=W2 M g1 (by omega);have hm:Mq L ⟨q.acb++[.nat],q.acf.map (Fm.up 0 1)++[eqv t]⟩:=(h.below Ty.hE (by decide) (by omega)).with g1 (by show(q.acf.map (Fm.up 0 1)).length+1<=16;simp;omega);obtain⟨Q,d3,q1,O,W⟩:=C o _ v hm;show jn _ (cv (eJ [eqv t] 0) λP=>_);rw[show eJ [eqv t] 0=some (eqv t)from rfl,cl,fI,cl,h.Yr .nat,cl,Bf (by show(q.acf.map (Fm.up 0 1)).length<=1000;simp;omega),cl,fH (by omega) (by omega),show((k+1:Nat):Int)-1=(k:Int) by omega,q1,eb];refine GF (G:=jn (pb (k+1))) (λJ=>∀(b v145 v146:Int) (e:List Ty) (v148:List Tm) (f:List Fm) (g:List Pf) (l:ew),l.wf->(Pf.mk b v145 (.mk v146 e) v148 f g).wt<=pb k+300000->jn (pb (k+1)) (J b v145 v146 e v148 f g l)) ?_ ?_
  ·intro b v145 v146 e v148 f g l w hw;have:=u a m;show jn _ (cv (ng v24 [Pf.mk m 0 .z [t] [Fm.mk a .nat [] [eqv t]] [Pf.mk 18 0 .z [t] [] []],Pf.mk b v145 (.mk v146 e) v148 f g]) λp=>some (p,l));rw[Jl (by omega) (by omega),cl];refine jn.of w ?_;rw[Pf.fP];simp only[eE,Ty.gC];omega
  ·intro J r;obtain⟨y,d4,x,R,y3,y4⟩:=lb d3 O 2 (by omega) (by omega);rw[x,eb];refine jG (λ_=>?_) (λ_=>?_)
   ·obtain⟨S,X⟩:=Da N (by omega);show jn _ (cv (hB FU (.mk a .nat [] [eqv t]) 0 1) λB=>_)
    have Y:v0.wt<=10:=by decide
    rw[S,cl,B_,cl,show ny 0=some (Pf.mk 1 0 .z [] [] [])from rfl,cl,O0 (by omega) (by omega) (by decide),cl];refine r _ _ _ _ _ _ _ _ y4 ?_;show(Pf.mk m 0 .z [v0] [(Fm.mk a .nat [] [eqv t]).up 0 1] [Pf.mk 1 0 .z [] [] []]).wt<=_;rw[Pf.fP];simp only[eE,Ty.gC];rw[Pf.fP];simp only[eE,Ty.gC];omega
   ·refine r _ _ _ _ _ _ _ _ y4 ?_;rw[Ty.lM,Pf.lM];omega
 ·intro J r;obtain⟨y,d4,x,R,y3,y4⟩:=lb d1 s2 3 (by omega) (by omega);rw[x,eb];exact jG (λ_=>r _ _ _ _ y4 (.inr rfl)) (λ_=>r _ _ _ _ y4 (.inl rfl))
def Ly:∀(n k:Nat) (L:List Fm) (d:ew) (q:Sq),2*k<n->k<=4->d.wf->Mq L q->jn (pb k) (jy n d L q (k:Int)):=by
 intro n
 induction n using Nat.strongRecOn with
 |_ n U=>
 intro k L d q hn Z D h;cases n with
 |zero=>omega|succ n=>
 have J:=h.v.nv;have aa:=h.v.nh;have ab:=h.v.ln;have ad:=Pl k Z;rw[jy,fI,cl];refine pJ (G:=jn (pb k)) (λd=>d.wf) (λd D=>?_) (λj E=>?_)
 ·--a leaf
  refine pJ (G:=jn (pb k)) (λd=>d.wf) (λd D=>?_) (λj E=>?_)
  ·obtain⟨t,d1,t1,t2,t3,t4,t5,t6⟩:=pC (by omega) h.c Ty.hE (by decide) D;rw[t1,eb,uw (by omega),cl];refine jn.of t2 ?_;rw[Pf.fP];simp only[eE,Ty.gC];omega
  ·obtain⟨x,d1,R,x2,x3,p⟩:=lb d D 4 (by omega) (by omega);rw[R,eb];refine jG (λ_=>jG (λM=>?_) (λ_=>E _ p)) (λ_=>jG (λ_=>jG (λM=>?_) (λ_=>E _ p)) (λ_=>E _ p))
   ·rw[gA,fR] at M;obtain⟨y,d2,H,I,y3,y4⟩:=lb d1 p q.acf.length (by omega) (by omega);rw[fR,H,eb,show ny y=some (Pf.mk 1 y .z [] [] [])from rfl,cl];refine jn.of y4 ?_;rw[Pf.fP];simp only[eE,Ty.gC];omega
   ·rw[gA,fR] at M;obtain⟨y,d2,H,I,y3,y4⟩:=lb d1 p L.length (by omega) (by omega);rw[fR,H,eb];refine jn.of y4 ?_;show(Pf.mk 2 y .z [] [] []).wt<=_;rw[Pf.fP];simp only[eE,Ty.gC];omega
 ·refine jG (λM=>?_) (λ_=>E _ D);rw[ru,ru,gI,gI,gA,mE,mE,fR,fR] at M;obtain⟨ae,V,W⟩:=M;obtain⟨m,rfl⟩:∃m,k=m+1:=⟨k-1,by omega⟩;rw[fH (by omega) (by omega),show((m+1:Nat):Int)-1=(m:Int) by omega];have af:=Pl m (by omega);have ah:pb (m+1)=3*pb m+1000000:=rfl;have g:∀(d:ew) (q:Sq),d.wf->Mq L q->jn (pb m) (jy n d L q (m:Int)):=λd q D h=>U n (by omega) m L d q (by omega) (by omega) D h;obtain⟨x,d1,R,x2,x3,p⟩:=lb d D 17 (by omega) (by omega);rw[R,eb];refine jG (λ_=>?_) (λ_=>?_)
  ·--and
   obtain⟨P,d2,o,i,w⟩:=g d1 q p h;obtain⟨Q,d3,q1,N,X⟩:=g d2 q i h;rw[o,eb,q1,eb,Jl (by omega) (by omega),cl];refine jn.of N ?_;rw[Pf.fP];simp only[eE,Ty.gC];omega
  refine jG (λ_=>?_) (λ_=>?_)
  ·obtain⟨y,d2,H,I,y3,y4⟩:=lb d1 p 2 (by omega) (by omega);obtain⟨P,d3,o,i,w⟩:=g d2 q y4 h;obtain⟨Q,d4,q1,N,X⟩:=g d3 q i h
   have hw:(Pf.mk 3 0 .z [] [] [P,Q]).wt<=200000000:=by rw[Pf.fP];simp only[eE,Ty.gC];omega
   rw[H,eb,o,eb,q1,eb,Jl (by omega) (by omega),cl,M' (by omega),cl];refine jn.of N ?_;rw[Pf.fP];simp only[eE,Ty.gC];rw[Pf.fP];simp only[eE,Ty.gC];omega
  refine jG (λ_=>?_) (λ_=>?_)
  ·obtain⟨F,d2,f1,f2,f3⟩:=y_ 1 (by omega) q.acb d1 (by omega) h.c p;have B:Hg q.acb F:=⟨f3.err (by decide),f3.ty⟩;have S:=B.wt;obtain⟨P,d3,o,i,w⟩:=g d2 _ f2 (h.with B (by omega));rw[show(1:Int)=((1:Nat):Int)from rfl,f1,eb,Bf (by omega),cl,o,eb,S0 (by omega) (by omega),cl];refine jn.of i ?_;rw[Pf.fP];simp only[eE,Ty.gC];omega
  refine jG (λ_=>?_) (λ_=>?_)
  ·obtain⟨P,d2,o,i,w⟩:=g d1 q p h;rw[o,eb];rcases yj h.v (P:=P) (by omega)with⟨e,he,r⟩|⟨f,l,r,B⟩
   ·rw[r,eb,ea (by rw[gw];exact he)];exact E _ i
   ·have S:=B.wt;obtain⟨Q,d3,q1,N,X⟩:=g d2 _ i (h.with B (by omega))
    have hw:(Pf.mk 6 0 .z [] [f] [Q]).wt<=200000000:=by rw[Pf.fP];simp only[eE,Ty.gC];omega
    rw[r,eb,ee (by rfl)];simp only[];rw[Bf (by omega),cl,q1,eb,S0 (by omega) (by omega),cl,Jl (by omega) (by omega),cl];refine jn.of N ?_;rw[Pf.fP];simp only[eE,Ty.gC];rw[Pf.fP];simp only[eE,Ty.gC];omega
  refine jG (λ_=>?_) (λ_=>?_)
  ·obtain⟨s,d2,s1,s2,A,C⟩:=za p;obtain⟨P,d3,o,i,w⟩:=g d2 _ C (h.below s2 A (by omega));rw[s1,eb,h.Yr s,cl,o,eb,Dy (by omega) (by omega),cl];refine jn.of i ?_;rw[Pf.fP];simp only[eE];omega
  refine jG (λ_=>?_) (λ_=>?_)
  ·obtain⟨s,d2,s1,s2,A,C⟩:=za p;obtain⟨t,d3,t1,t2,t3,t4,t5,t6⟩:=pC (by omega) h.c s2 A C;obtain⟨P,d4,o,i,w⟩:=g d3 _ t2 (h.below s2 A (by omega))
   have hw:(Pf.mk 8 0 s [] [] [P]).wt<=200000000:=by rw[Pf.fP];simp only[eE];omega
   rw[s1,eb,t1,eb,h.Yr s,cl,o,eb,Dy (by omega) (by omega),cl,O_ (by omega) (by omega),cl];refine jn.of i ?_;rw[Pf.fP];simp only[eE,Ty.gC];rw[Pf.fP];simp only[eE];omega
  refine jG (λ_=>?_) (λ_=>?_)
  ·--there is a number Y is equal to a term
   obtain⟨t,d2,t1,t2,t3,t4,t5,t6⟩:=pC (by omega) h.c Ty.hE (by decide) p;obtain⟨y,d3,H,I,y3,y4⟩:=lb d2 t2 2 (by omega) (by omega);obtain⟨a,a1,_⟩:=O' (a:=5) (b:=7) I y3;obtain⟨b,T,_⟩:=O' (a:=10) (b:=14) I y3;obtain⟨g1,g2,g3⟩:=Km t3 t4
   have hr:(Pf.mk 18 0 .z [t] [] []).wt<=3800:=by rw[Pf.fP];simp only[eE,Ty.gC];omega
   have B:(Fm.mk a .nat [] [eqv t]).wt<=4000:=by rw[Fm.fP];simp only[eE,Ty.ir];omega
   rw[t1,eb,H,eb,ez,a1,cl,Gu t3 (by omega) t4,D8 (by decide) (by omega),cl,ez,T,cl,uw (by omega),cl,O0 (by omega) (by omega) (by omega),cl];refine jn.of y4 ?_;rw[Pf.fP];simp only[eE,Ty.gC];omega
  refine jG (λ_=>?_) (λ_=>?_)
  ·obtain⟨P,d2,o,i,w⟩:=g d1 q p h;rw[o,eb];rcases yj h.v (P:=P) (by omega)with⟨e,he,r⟩|⟨f,l,r,B⟩
   ·rw[r,eb,ea (by rw[gw];exact he)];exact E _ i
   ·obtain⟨K,O⟩:=Da B J;obtain⟨s,d3,s1,s2,A,C⟩:=za i;obtain⟨y,d4,H,I,y3,y4⟩:=lb d3 C 2 (by omega) (by omega);obtain⟨a,a1,_⟩:=O' (a:=5) (b:=7) I y3;obtain⟨b,T,_⟩:=O' (a:=10) (b:=14) I y3;obtain⟨t,d5,t1,t2,t3,t4,t5,t6⟩:=pC (by omega) h.c s2 A y4
    have hw:(Fm.mk a s [] [f.up 0 1]).wt<=300000:=by rw[Fm.fP];simp only[eE];omega
    rw[r,eb,ee (by rfl),s1,eb,H,eb,ez,a1,cl,K,cl,D8 (by omega) (by omega),cl,ez,T,cl,t1,eb,O0 (by omega) (by omega) (by omega),cl];refine jn.of t2 ?_;rw[Pf.fP];simp only[eE,Ty.gC];omega
  refine jG (λ_=>?_) (λ_=>?_)
  ·obtain⟨n',rfl⟩:∃n',n=n'+1:=⟨n-1,by omega⟩;obtain⟨P,d2,o,i,w⟩:=PX (n:=n') (k:=m) (by omega) (λd q D h=>U n' (by omega) m L d q (by omega) (by omega) D h) p h (by omega) (by omega);rw[o,eb];exact jn.of i w
  refine jG (λ_=>?_) (λ_=>?_)
  ·obtain⟨P,d2,o,i,w⟩:=g d1 q p h;rw[o,eb];rcases yj h.v (P:=P) (by omega)with⟨e,he,r⟩|⟨f,l,r,B⟩
   ·rw[r,eb,ea (by rw[gw];exact he)];exact E _ i
   ·obtain⟨K,O⟩:=Da B J;obtain⟨t,d5,t1,t2,t3,t4,t5,t6⟩:=pC (by omega) h.c Ty.hE (by decide) i
    have hH:(Pf.mk 1 0 .z [] [] []).wt<=10:=by decide
    rw[r,eb,ee (by rfl),K,cl,t1,eb,show ny 0=some (Pf.mk 1 0 .z [] [] [])from rfl,cl,Nw (by omega) (by omega) (by omega) (by omega),cl];refine jn.of t2 ?_;rw[Pf.fP];simp only[eE,Ty.gC];omega
  refine jG (λ_=>?_) (λ_=>?_)
  ·obtain⟨P,d2,o,i,w⟩:=g d1 q p h;rw[o,eb];rcases yj h.v (P:=P) (by omega)with⟨e,he,r⟩|⟨f,l,r,B⟩
   ·rw[r,eb,ea (by rw[gw];exact he)];exact E _ i
   ·obtain⟨K,O⟩:=Da B J;obtain⟨t,d5,t1,t2,t3,t4,t5,t6⟩:=pC (by omega) h.c Ty.o7 (by decide) i
    have hH:(Pf.mk 1 0 .z [] [] []).wt<=10:=by decide
    rw[r,eb,ee (by rfl),K,cl,gQ,cl,t1,eb,show ny 0=some (Pf.mk 1 0 .z [] [] [])from rfl,cl,Nw (by omega) (by omega) (by omega) (by omega),cl];refine jn.of t2 ?_;rw[Pf.fP];simp only[eE,Ty.gC];omega
  refine jG (λ_=>?_) (λ_=>?_)
  ·obtain⟨t,d2,t1,t2,t3,t4,t5,t6⟩:=pC (by omega) h.c Ty.hE (by decide) p;obtain⟨P,o,i⟩:=MC t5;rw[t1,eb,o,cl];exact jn.of t2 (by omega)
  refine jG (λ_=>?_) (λ_=>?_)
  ·obtain⟨t,d2,t1,t2,t3,t4,t5,t6⟩:=pC (by omega) h.c Ty.hE (by decide) p;obtain⟨u,d3,K,O,u3,u4,u5,u6⟩:=pC (by omega) h.c Ty.hE (by decide) t2;have ai:=Tm.FJ u 0 1
   have r1:(Pf.mk 18 0 .z [t] [] []).wt<=3800:=by rw[Pf.fP];simp only[eE,Ty.gC];omega
   have r2:(Pf.mk 18 0 .z [u] [] []).wt<=3800:=by rw[Pf.fP];simp only[eE,Ty.gC];omega
   have r3:(Fm.mk 1 .z [u.up 0 1,u.up 0 1] []).wt<=8000:=by rw[Fm.fP];simp only[eE,Ty.gC];omega
   rw[t1,eb,K,eb,zy u3 (by omega) (by omega),cl,cl,En (by omega) (by omega),cl,uw (by omega),cl,uw (by omega),cl,M6 (by omega) (by omega) (by omega),cl];refine jn.of O ?_;rw[Pf.fP];simp only[eE,Ty.gC];omega
  refine jG (λ_=>?_) (λ_=>?_)
  ·obtain⟨s,d2,s1,s2,A,C⟩:=RF p;have hb:=h.below s2 A (by omega);obtain⟨P,d3,o,i,w⟩:=NG (q:=⟨q.acb++[s],q.acf.map (Fm.up 0 1)⟩) (by show(q.acb++[s]).length<=600;simp;omega) hb.c C
   have hw:(Pf.mk 8 0 s [] [] [P]).wt<=13000:=by rw[Pf.fP];simp only[eE];omega
   rw[s1,eb,h.Yr s,cl,o,eb,Dy (by omega) (by omega),cl,M' (by omega),cl];refine jn.of i ?_;rw[Pf.fP];simp only[eE,Ty.gC];omega
  refine jG (λ_=>?_) (λ_=>?_)
  ·obtain⟨s,d2,s1,s2,A,C⟩:=za p;obtain⟨P,d3,o,i,w⟩:=g d2 _ C (h.below s2 A (by omega));rw[s1,eb,h.Yr s,cl,o,eb,Dy (by omega) (by omega),cl];refine jn.of i ?_;rw[Pf.fP];simp only[eE];omega
  refine jG (λ_=>?_) (λ_=>E _ p)
  ·obtain⟨s,d2,s1,s2,A,C⟩:=za p;obtain⟨t,d3,t1,t2,t3,t4,t5,t6⟩:=pC (by omega) h.c s2 A C;obtain⟨P,d4,o,i,w⟩:=g d3 _ t2 (h.below s2 A (by omega))
   have hw:(Pf.mk 12 0 s [] [] [P]).wt<=200000000:=by rw[Pf.fP];simp only[eE];omega
   rw[s1,eb,t1,eb,h.Yr s,cl,o,eb,Dy (by omega) (by omega),cl,O_ (by omega) (by omega),cl];refine jn.of i ?_;rw[Pf.fP];simp only[eE,Ty.gC];rw[Pf.fP];simp only[eE];omega
def DN.hg{g:List Ty}{f:Fm}{n:Nat}(h:DN g f n)(hn:n<=4096):Hg g f:=⟨h.err hn,h.ty⟩
def Kv(d:ew)(n:d.wf):∃L m,uX d=some (L,m)/\m.wf/\L.length<=2/\∀f∈L,DN [] f (fb 2):=by
 have p:qD 3 ([]:List Ty):=⟨λs hs=>by simp at hs⟩;unfold uX;obtain⟨x,d1,q,t,y,u⟩:=lb d n 3 (by omega) (by omega);rw[q];simp only[eb,ez]
 obtain⟨o,v,j⟩:=xp (ρ:=List Fm×ew) (F:=MT λ(a:List Fm) (b:Int) (c:ew)=>
   if nX b 0=true then ek (im FU c [] 2) λg d75=>gS (gr a [g])<|some (gj.next (gG a [g],fD .i64 b 1,d75))else some (gj.Ft (a,b,c)))
  (λs=>0<=s.2.1/\(s.1.length:Int)+s.2.1<=2/\(∀f∈s.1,DN [] f (fb 2))/\s.2.2.wf) (λs=>s.2.1.toNat)
  (λo=>match o with|.inl s=>s.1.length<=2/\(∀f∈s.1,DN [] f (fb 2))/\s.2.2.wf|.inr _=>False)
  (by
   rintro⟨l,i,e⟩ ⟨i1,i2,i3,i4⟩;simp only at i1 i2 i3 i4
   by_cases hi:0<i
   ·left;obtain⟨s,d3,s1,s2,w⟩:=y_ 2 (by omega) [] e (by simp) p i4;rw[show((2:Nat):Int)=2 from rfl] at s1;refine⟨(l++[s],i-1,d3),?_,⟨?_,?_,?_,s2⟩,?_⟩
    ·simp only[MT,gA,hi,if_true,s1,eb];rw[fx (by simp;omega),eo,fH (by omega) (by omega)];rfl
    ·show 0<=i-1;omega
    ·simp;omega
    ·intro f k;rcases sR.1 k with h|h
     ·exact i3 f h
     ·rw[w4] at h;subst h;exact w
    ·show(i-1).toNat<i.toNat;omega
   ·right;left
    exact⟨(l,i,e),by simp only[MT,gA,hi,P5],by show l.length<=2;omega,i3,i4⟩)
  FU ([],x,d1) ⟨t,by simp;omega,λf k=>by simp at k,u⟩ (by show x.toNat<FU;rw[fy];omega)
 rw[v];cases o with
 |inr r=>exact absurd j (by simp)|inl s=>
  obtain⟨l,i,e⟩:=s;exact⟨l,e,rfl,j.2.2,j.1,j.2.1⟩
def made(l:List Int)(h:l.length<=500):∃L d1 q d2,uX ⟨l,0⟩=some (L,d1)/\tm d1=some (q,d2)/\d2.wf/\Mq L q/\q.acb.length<=3/\q.acf.length<=2/\L.length<=2:=by
 obtain⟨L,d1,c,d,e,g⟩:=Kv ⟨l,0⟩ (WG l (by omega));obtain⟨q,d2,g1,g2,g3,g4,g5,g6⟩:=I1 d1 d
 have b:fb 2<=4096:=by decide
 refine⟨L,d1,q,d2,c,g1,g2,⟨⟨by omega,λf a=>(g f a).hg b,λs hs=>(g4.all s hs).1,by omega,by omega,λf a=>(g6 f a).hg b⟩,g4⟩,g3,g5,e⟩
def Fm.tA{f:Fm}(h:f.ok=true)(hn:f.ab'<=4096):f.err=0:=by
 unfold Fm.err;rw[ee h,ea (by omega)]
def Rc{P:Pf}(hw:P.ok=true)(hs:P.small=true):P.err=if P.ab'<=16384 then 0 else 4:=by
 unfold Pf.err;rw[ee hw]
 by_cases h:P.ab'<=16384
 ·rw[ee ⟨hs,h⟩,ee h]
 ·rw[ea (λa=>h a.2),ea h]
theorem lW{P:Pf}(h:P.err=0):P.ok=true/\P.small=true/\P.ab'<=16384:=by
 unfold Pf.err at h;cases b:P.ok with
 |false=>rw[b] at h;cases h
 |true=>
  rw[b,ee rfl] at h
  by_cases a:P.small=true/\P.ab'<=16384
  ·exact⟨rfl,a.1,a.2⟩
  ·rw[ea a] at h;cases h
def Xh{t:Tm}(h:t.err=0):t.ok=true/\QD t=true:=by
 obtain⟨a,b⟩:=Tm.hV h;exact⟨a,by simpa[QD] using b⟩
def Uy{g:List Ty}{hs L:List Fm}{t:Tm}(h:e_ g t .nat)(c:iR g)(hg:g.length<=16)(hn:t.ab'<=1000):(Pf.mk 18 0 .z [t] [] []).inf L g hs=.inl (.mk 1 .z [t,t] [],0)/\(Pf.mk 18 0 .z [t] [] []).err=0:=by
 have he:t.err=0:=Tm.tA h.ok (by omega);have d:(Fm.mk 1 .z [t,t] []).err=0:=Fm.tA (k4.eq h h).ok (by rw[Fm.ef];simp only[eE];omega);constructor
 ·rw[Pf.m_,Oo,jt (JU h c (by omega))];unfold Im;rw[hR,ee d];cases (Fm.mk 1 .z [t,t] []).has<;>rfl
 ·obtain⟨a,b⟩:=Xh he;rw[Rc (by rw[Pf.h_];simp[a,Pf.node,Pf.sig,Ty.qK]) (by rw[Pf.zK];simp[b]),ee (by rw[Pf.ef];simp only[eE];omega)]
def J9{L:List Fm}{q:Sq}(h:EO L q){P:Pf}(a:P.err=0):Sa L q P=P.inf L q.acb q.acf:=by
 unfold Sa;rw[jt h.zero,jt a]
def Xp(g:List Ty)(s:Ty):e_ (g++[s]) v0 s:=vA
def OW{f:Fm}{m:Nat}(h:f.err=0):Im (.inl (f,m))=.inl (f,if f.has=true then m else 0):=by
 unfold Im;rw[hR,ee h]
theorem Ub{f:Fm}{m:Nat}(h:f.err≠0):Im (.inl (f,m))=.inr 4:=by
 unfold Im;rw[hR,ea h]
def V4:EO [] ⟨[],[]⟩:=⟨by simp,λf h=>by simp at h,λs h=>by simp at h,by simp,by simp,λf h=>by simp at h⟩
def Ug:vH=some true:=by
 have g:iR [Ty.nat]:=λs hs=>by rw[w4.1 hs];exact Ty.hE
 obtain⟨a,d⟩:=Uy (L:=[]) (hs:=[]) (Xp [] .nat) g (by simp) (by decide)
 have he:(Pf.mk 8 0 .nat [] [] [.mk 18 0 .z [v0] [] []]).err=0:=by decide
 have hi:(Pf.mk 8 0 .nat [] [] [.mk 18 0 .z [v0] [] []]).inf [] [] []=.inl (.mk 4 .nat [] [.mk 1 .z [v0,v0] []],0):=by
  rw[Pf.m_,OC,nx (by decide)];have a:(Pf.mk 18 0 .z [v0] [] []).inf [] ([]++[.nat]) (List.map (Fm.up 0 1) [])=.inl (.mk 1 .z [v0,v0] [],0):=a;rw[a,hR,OW (by decide)];rw[show(Fm.mk 4 .nat [] [.mk 1 .z [v0,v0] []]).has=false by decide];rfl
 have hw:(Pf.mk 8 0 .nat [] [] [.mk 18 0 .z [v0] [] []]).wt<=100:=by decide
 unfold vH;rw[fI,cl,B_,cl,uw (by decide),cl,Dy (by decide) (by decide),cl];rcases Bh V4.b (P:=.mk 8 0 .nat [] [] [.mk 18 0 .z [v0] [] []]) (by omega)with⟨e,c,q1,_,h⟩|⟨f,m,l,q1,i,h,hu,k,_,c⟩
 ·rw[J9 V4 he] at q1;have q1:(Pf.mk 8 0 .nat [] [] [.mk 18 0 .z [v0] [] []]).inf [] [] []=.inr e:=q1;rw[hi] at q1;cases q1
 ·rw[J9 V4 he] at q1;have q1:(Pf.mk 8 0 .nat [] [] [.mk 18 0 .z [v0] [] []]).inf [] [] []=.inl (f,m):=q1;rw[hi] at q1;obtain⟨rfl,rfl⟩:=iz (YW q1);have j:=hu.ext .nil;subst j;rw[i,eb,ez,ee (by rfl),ee (by rfl),cl,cl,En (by decide) (by decide),cl,D8 (by decide) (by decide),cl];obtain⟨r,a,d⟩:=IC FU (.mk 4 .nat [] [.mk 1 .z [v0,v0] []]) (.mk 4 .nat [] [.mk 1 .z [v0,v0] []]) (by rw[fy];decide) (by decide);have:=d.2 rfl;subst this;simp only[];rw[a];rfl
noncomputable def Hn (a b:Tm):Int:=@ite Int (a=b) (Classical.propDecidable _) 0 (if(a.norm 1000 0).2.2≠0 then(a.norm 1000 0).2.2 else if(b.norm 1000 0).2.2≠0 then(b.norm 1000 0).2.2 else@ite Int ((a.norm 1000 0).1=(b.norm 1000 0).1) (Classical.propDecidable _) 0 11)
def JA(a:Tm):Hn a a=0:=ee rfl
def Um{a b:Tm}(h:a≠b):Hn a b=if(a.norm 1000 0).2.2≠0 then(a.norm 1000 0).2.2 else if(b.norm 1000 0).2.2≠0 then(b.norm 1000 0).2.2 else@ite Int ((a.norm 1000 0).1=(b.norm 1000 0).1) (Classical.propDecidable _) 0 11:=ea h
def Nm.UA{a:Tm}(h:Nm a)(b:(a.norm 1000 0).2.2=0):(a.norm 1000 0).1.ok=true/\(a.norm 1000 0).1.ab'<=4096:=by
 obtain⟨p,n,e,c⟩:∃p n e,a.norm 1000 0=(p,n,e):=⟨_,_,_,rfl⟩;rw[c] at b|-;have b:e=0:=b;subst b;have:=Fz 1000 536870912 0 a p n (by omega) (Sm.start h.err h.ace) (tf h.err).2 c;exact⟨this.1.ok,this.2⟩
def EV{a b:Tm}(f:Nm a)(g:Nm b):lG a b 1000=some (Hn a b):=by
 have v:=a.jF (tf f.err).1;have w:=b.jF (tf g.err).1;have x:=(tf f.err).2;have y:=(tf g.err).2;unfold lG;rw[p4 (by omega),f.err,cl,ea nz,p4 (by omega),g.err,cl,ea nz];obtain⟨r,s,l⟩:=wZ (a:=a) (b:=b) (by omega);rw[s,cl]
 by_cases c:a=b
 ·rw[ee (l.2 c),c,JA]
 ·rw[ea (λh=>c (l.1 h)),Um c,f.both.1,g.both.1];obtain⟨p,n,e,t⟩:∃p n e,a.norm 1000 0=(p,n,e):=⟨_,_,_,rfl⟩;obtain⟨m,n',u,k⟩:∃p n e,b.norm 1000 0=(p,n,e):=⟨_,_,_,rfl⟩;have i:=f.UA;rw[t] at i|-;rw[k,ov];simp only[] at i|-
  by_cases he:e=0
  ·subst he;rw[ea nz,ea (by decide),ov]
   by_cases d:u=0
   ·subst d;rw[ea nz,ea (by decide)];have z:=p.jF (i rfl).1;have A:=(i rfl).2;obtain⟨q,q1,o⟩:=wZ (a:=p) (b:=m) (by omega);rw[q1,cl]
    by_cases j:p=m
    ·rw[ee (o.2 j),ee j]
    ·rw[ea (λh=>j (o.1 h)),ea j]
   ·rw[ee (by rw[ey];exact d),ee d]
  ·rw[ee (by rw[ey];exact he),ee he]
mutual
noncomputable def Fm.Ik:Fm->Fm->Int
 |.mk k s ts l,b=>if k≠b.ab9\/s.lS b.dv=false then 11 else if fX (List.zipWith Hn ts b.ej)≠0 then fX (List.zipWith Hn ts b.ej)else fX (Fm.Qf l b.ab_)
noncomputable def Fm.Qf:List Fm->List Fm->List Int
 |a::l,b::m=>a.Ik b::Fm.Qf l m|_,_=>[]
end
def Fm.OP:∀(l m:List Fm),Fm.Qf l m=List.zipWith Fm.Ik l m
 |[],m=>by rw[Fm.Qf];rfl;intros;simp_all|a::l,[]=>by rw[Fm.Qf];rfl;intros;simp_all|a::l,b::m=>by rw[Fm.Qf,Fm.OP l m];rfl
def Fm.R_(k k':Int)(s b:Ty)(ts a:List Tm)(l c:List Fm):(Fm.mk k s ts l).Ik (.mk k' b a c)=if k≠k'\/s.lS b=false then 11 else if fX (List.zipWith Hn ts a)≠0 then fX (List.zipWith Hn ts a)else fX (List.zipWith Fm.Ik l c):=by rw[Fm.Ik,Fm.OP];rfl
def GM{α:Type}{E:α->α->Option Int}{e:α->α->Int}{M:List α}:∀(l:List α) (i:Nat),l.length+i=M.length->(∀x∈l,∀y∈M,E x y=some (e x y))->fp (λ(d:Int) (f:α)=>(λ(_:Unit)=>cv (eJ M d) λb=>cv (E f b) λa=>if(eW a 0)=true then(some (.ret a))else(some ((.next ()):gj Unit Int)))) l i ()=some (if fX (List.zipWith e l (M.drop i))=0 then .inl ()else .inr (fX (List.zipWith e l (M.drop i))))
 |[],i,_,_=>by simp[fX]|x::l,i,k,h=>by
  simp only[ld] at k
  have hi:i<M.length:=by omega
  have m:=GM (E:=E) (e:=e) (M:=M) l (i+1) (by omega) (λy hy=>h y (by simp[hy]));have n:M.drop i=M[i]::M.drop (i+1):=(J1 hi)
  have o:List.zipWith e (x::l) (M.drop i)=e x M[i]::List.zipWith e l (M.drop (i+1)):=by rw[n];rfl
  rw[o,fl,jj,oD hi,cl,h x (by simp) _ (CG hi),cl]
  by_cases c:e x M[i]=0
  ·have g:¬eW (e x M[i]) 0=true:=by rw[ey];simpa using c
   have j:fX (e x M[i]::List.zipWith e l (M.drop (i+1)))=fX (List.zipWith e l (M.drop (i+1))):=by rw[fX,ee c]
   rw[ea g,cl,ft,j];exact m
  ·have g:eW (e x M[i]) 0=true:=by rw[ey];exact c
   have j:fX (e x M[i]::List.zipWith e l (M.drop (i+1)))=e x M[i]:=by rw[fX,ea c]
   rw[ee g,cl,zL,j,ea c]
def Du:∀(n:Nat) (a b:Fm),a.ab'<=n->a.ab'<=4096->b.ab'<=4096->a.ok=true->b.ok=true->QE a->QE b->jI n a b=some (a.Ik b):=by
 intro n
 induction n with
 |zero=>intro a b h;have:=a.eP;omega
 |succ n S=>
  intro a b hn z A O P T U;cases a with
  |mk k s ts l=>
  cases b with
  |mk k' t c B=>
   cases T with
   |mk C D=>
   cases U with
   |mk F H=>
   rw[Fm.ef] at hn z A;obtain⟨a1,a2,a3⟩:=Fm.rm O;obtain⟨W,X,V⟩:=Fm.rm P;have Y:=Tm.fF ts;have Z:=Fm.fF l;rw[jI,Fm.R_];refine pJ (G:=λo=>o=some (if k≠k'\/s.lS t=false then 11 else if fX (List.zipWith Hn ts c)≠0 then fX (List.zipWith Hn ts c)else fX (List.zipWith Fm.Ik l B))) (λv=>v=true↔(k≠k'\/s.lS t=false)) (λv Q=>?_) (λj R=>?_)
   ·by_cases g:k≠k'\/s.lS t=false
    ·rw[ee (Q.2 g),ee g]
    ·rw[ea (λh=>g (Q.1 h)),ea g];have I:k=k':=ZO λh=>g (.inl h);subst I;obtain⟨e1,e2⟩:=Fm.shape O P;show(gS (fm ts) _:Option Int)=_;rw[eB (by omega),eo,ez];show cv (fp (λ(J:Int) (K:Tm)=>(λ(_:Unit)=>cv (eJ c J) λi=>cv (lG K i 1000) λd=>if(eW d 0)=true then(some (.ret d))else(some ((.next ()):gj Unit Int)))) ts 0 ()) _=_;rw[GM (E:=λx y=>lG x y 1000) (e:=Hn) ts 0 (by omega) (λx m y hy=>EV (C x m) (F y hy)),Tn]
     by_cases u:fX (List.zipWith Hn ts c)=0
     ·rw[ee u,cl,ei,ea (λh=>h u)];show(gS (fm l) _:Option Int)=_;rw[eB (by omega),eo,ez];show cv (fp (λ(p:Int) (q:Fm)=>(λ(_:Unit)=>cv (eJ B p) λr=>cv (jI n q r) λf=>if(eW f 0)=true then(some (.ret f))else(some ((.next ()):gj Unit Int)))) l 0 ()) _=_
      rw[GM (E:=λx y=>jI n x y) (e:=Fm.Ik) l 0 (by omega) (λx m y hy=>by
       have m1:=eI Fm.ab' m;have m2:=eI Fm.ab' hy
       exact S x y (by omega) (by omega) (by omega) (a3 x m) (V y hy) (D x m) (H y hy)),Tn]
      by_cases L:fX (List.zipWith Fm.Ik l B)=0
      ·rw[ee L,L];rfl
      ·rw[ea L];rfl
     ·rw[ea u,ee u];rfl
   ·show(if(eW k k')=true then j true else cv (gZ FU s t) λM=>j (nt M))=_
    by_cases w:k=k'
    ·have N:¬eW k k'=true:=by rw[ey];simpa using w
     rw[ea N,qz (by omega),cl];exact R _ (by rw[Pq];simp[w])
    ·have N:eW k k'=true:=by rw[ey];exact w
     rw[ee N];exact R _ (by simp[w])
def Hg.nmF{g:List Ty}{f:Fm}(h:Hg g f)(hg:g.length<=1000000):QE f:=QE.of f h.ab' h.ok (h.ty.ace _ (by have:=h.ab';omega))
theorem Mt{g f:List Ty}{a b:Fm}(c:Hg g a)(d:Hg f b)(h:g.length<=1000000)(i:f.length<=1000000):y0 a b=a.Ik b:=by
 have j:=c.wt;have k:=d.wt
 have e:jd a b=some (a.Ik b):=by
  unfold jd;rw[lp (by omega),c.err,cl,ea nz,lp (by omega),d.err,cl,ea nz,Du FU a b (by rw[fy];have:=c.ab';omega) c.ab' d.ab' c.ok d.ok (c.nmF h) (d.nmF i)];rfl
 unfold y0;rw[e];rfl
def uf{α:Type}{e:α->α->Int}:∀(l:List α),(∀x∈l,e x x=0)->fX (List.zipWith e l l)=0
 |[],_=>rfl|x::l,h=>by
  have a:=h x (by simp);show fX (e x x::List.zipWith e l l)=0;rw[fX,ee a];exact uf l λy hy=>h y (by simp[hy])
def Fm.Ta(f:Fm):f.Ik f=0:=by
 induction f using Fm.ind with
 |h k s ts l a=>
  rw[Fm.R_,ea (by rintro(h|h);exact h rfl;rw[(Ty.k0 s s).2 rfl] at h;cases h),uf ts (λx _=>JA x),ea (by decide),uf l a]
def fin(f:Fm)(m:Nat):Nat:=if f.has=true then m else 0
def kC{r:PR}{f:Fm}{m:Nat}(h:Im r=.inl (f,m)):∃a,r=.inl (f,a)/\f.err=0/\m=fin f a:=by
 cases r with
 |inr e=>cases h
 |inl p=>
  obtain⟨f0,a⟩:=p
  by_cases b:f0.err=0
  ·rw[OW b] at h;obtain⟨rfl,rfl⟩:=iz (YW h);exact⟨a,rfl,b,rfl⟩
  ·grind[Ub]
def iH{r:PR}{k:Fm->Nat->PR}{p:Fm×Nat}(h:pbind r k=.inl p):∃f m,r=.inl (f,m)/\k f m=.inl p:=by
 cases r with
 |inr e=>cases h
 |inl q=>exact⟨q.1,q.2,rfl,h⟩
theorem kL{e:Int}{r:PR}{p:Fm×Nat}(h:lC e r=.inl p):e=0/\r=.inl p:=by grind[jt,kg]
def nR{c:Prop}[Decidable c]{e:Int}{r:PR}{p:Fm×Nat}(h:vZ c e r=.inl p):¬c/\r=.inl p:=by grind[lD,nx]
def wF{r:PR}{k:Int}{f:Fm}{m:Nat}(h:Dg r k=.inl (f,m)):r=.inl (f,m)/\f.ab9=k:=by
 obtain⟨f0,a,rfl,b⟩:=iH h
 grind
theorem xR{F:Fm}{t:Tm}(h:(oe F t).2=0):oe F t=(Fm.jX 0 F t,0)/\(Fm.jX 0 F t).ab'<=4096:=by grind[p7]
def Ah{r:PR}{F:Fm}{t:Tm}{f:Fm}{m:Nat}(h:IZ r F t=.inl (f,m)):r=.inl (f,m)/\(Fm.jX 0 F t).ab'<=4096/\y0 (Fm.jX 0 F t) f=0:=by
 obtain⟨f0,a,rfl,b⟩:=iH h
 grind[kL,xR]
inductive Dv (L:List Fm):List Ty->List Fm->Pf->Fm->Nat->Prop
 |hyp {g hs i f}:0<=i->i<(hs.length:Int)->hs[hs.length-1-i.toNat]?=some f->Hg g f->Dv L g hs (.mk 1 i .z [] [] []) f 0|HU {g hs i f}:0<=i->L[i.toNat]?=some f->Hg [] f->Dv L g hs (.mk 2 i .z [] [] []) f 0|NM {g hs a b x y m n}:Dv L g hs a x m->Dv L g hs b y n->Hg g (.mk 2 .z [] [x,y])->Dv L g hs (.mk 3 0 .z [] [] [a,b]) (.mk 2 .z [] [x,y]) (fin (.mk 2 .z [] [x,y]) (m|||n))|Wz {g hs a x y m}:Dv L g hs a (.mk 2 .z [] [x,y]) m->Hg g x->Dv L g hs (.mk 4 0 .z [] [] [a]) x (fin x m)|W6 {g hs a x y m}:Dv L g hs a (.mk 2 .z [] [x,y]) m->Hg g y->Dv L g hs (.mk 5 0 .z [] [] [a]) y (fin y m)|Ou {g hs F a y m}:Hg g F->hs.length+1<=16->Dv L g (hs++[F]) a y m->Hg g (.mk 3 .z [] [F,y])->Dv L g hs (.mk 6 0 .z [] [F] [a]) (.mk 3 .z [] [F,y]) (fin (.mk 3 .z [] [F,y]) m)|NH {g hs a b x y f m n}:Dv L g hs a (.mk 3 .z [] [x,y]) m->Dv L g hs b f n->Hg g x->Hg g f->x.Ik f=0->Hg g y->Dv L g hs (.mk 7 0 .z [] [] [a,b]) y (fin y (m|||n))|all {g hs k k' s a f m}:(k=8/\k'=4\/k=12/\k'=6/\m.testBit 0=false)->s.err=0->g.length+1<=16->Dv L (g++[s]) (hs.map (Fm.up 0 1)) a f m->Hg g (.mk k' s [] [f])->Dv L g hs (.mk k 0 s [] [] [a]) (.mk k' s [] [f]) (fin (.mk k' s [] [f]) (m/2))|T3 {g hs k k' t s a x m u}:(k=9/\k'=4/\u=m|||q4 t\/k=13/\k'=6/\u=m)->e_ g t s->t.err=0->Dv L g hs a (.mk k' s [] [x]) m->Hg (g++[s]) x->(Fm.jX 0 x t).ab'<=4096->Dv L g hs (.mk k 0 .z [t] [] [a]) (Fm.jX 0 x t) (fin (Fm.jX 0 x t) u)|ex {g hs k k' t s a x f m u}:(k=10/\k'=5/\u=m|||q4 t\/k=14/\k'=7/\u=m)->Hg g (.mk k' s [] [x])->e_ g t s->t.err=0->Hg (g++[s]) x->Dv L g hs a f m->Hg g f->(Fm.jX 0 x t).ab'<=4096->(Fm.jX 0 x t).Ik f=0->Dv L g hs (.mk k 0 .z [t] [.mk k' s [] [x]] [a]) (.mk k' s [] [x]) (fin (.mk k' s [] [x]) u)|Uc {g hs k k' s a b x f m n}:(k=11/\k'=5\/k=15/\k'=7/\n.testBit 0=false)->Dv L g hs a (.mk k' s [] [x]) m->s.err=0->g.length+1<=16->hs.length+1<=16->Hg (g++[s]) x->Dv L (g++[s]) (hs.map (Fm.up 0 1)++[x]) b f n->Hg (g++[s]) f->(Cc f).2=0->Hg g (Cc f).1->Dv L g hs (.mk k 0 .z [] [] [a,b]) (Cc f).1 (fin (Cc f).1 (m|||n/2))|ind {g hs t F a b x y m n}:Hg (g++[.nat]) F->e_ g t .nat->t.err=0->Dv L g hs a x m->Hg g x->(Fm.jX 0 F ve).ab'<=4096->(Fm.jX 0 F ve).Ik x=0->g.length+1<=16->hs.length+1<=16->Dv L (g++[.nat]) (hs.map (Fm.up 0 1)++[F]) b y n->Hg (g++[.nat]) y->(Fm.jX 0 (F.up 1 1) (kc v0)).ab'<=4096->(Fm.jX 0 (F.up 1 1) (kc v0)).Ik y=0->(Fm.jX 0 F t).ab'<=4096->Dv L g hs (.mk 16 0 .z [t] [F] [a,b]) (Fm.jX 0 F t) (fin (Fm.jX 0 F t) ((q4 t|||m)|||n/2))|lists {g hs t F a b x y m n}:Hg (g++[.nK]) F->e_ g t .nK->t.err=0->Dv L g hs a x m->Hg g x->(Fm.jX 0 F (.mk 7 0 .z [])).ab'<=4096->(Fm.jX 0 F (.mk 7 0 .z [])).Ik x=0->g.length+2<=16->hs.length+1<=16->Dv L (g++[.nat]++[.nK]) (hs.map (Fm.up 0 2)++[F.up 1 1]) b y n->Hg (g++[.nat]++[.nK]) y->(Fm.jX 0 (F.up 1 2) (.mk 8 0 .z [v1,v0])).ab'<=4096->(Fm.jX 0 (F.up 1 2) (.mk 8 0 .z [v1,v0])).Ik y=0->(Fm.jX 0 F t).ab'<=4096->Dv L g hs (.mk 17 0 .z [t] [F] [a,b]) (Fm.jX 0 F t) (fin (Fm.jX 0 F t) ((q4 t|||m)|||n/4))|refl {g hs t}:e_ g t .nat->t.err=0->Hg g (.mk 1 .z [t,t] [])->Dv L g hs (.mk 18 0 .z [t] [] []) (.mk 1 .z [t,t] []) 0|subst {g hs F a b t u f m n}:Hg (g++[.nat]) F->Dv L g hs a (.mk 1 .z [t,u] []) m->e_ g t .nat->e_ g u .nat->t.err=0->u.err=0->Dv L g hs b f n->Hg g f->(Fm.jX 0 F t).ab'<=4096->(Fm.jX 0 F t).Ik f=0->(Fm.jX 0 F u).ab'<=4096->Dv L g hs (.mk 19 0 .z [] [F] [a,b]) (Fm.jX 0 F u) (fin (Fm.jX 0 F u) n)|choice {g hs a s u y m}:Dv L g hs a (.mk 4 s [] [.mk 5 u [] [y]]) m->s.err=0->u.err=0->Hg (g++[s]++[u]) y->(Ty.fn s u).err=0->(Fm.jX 0 (y.up 2 1) (iV v1 v0)).ab'<=4096->Hg g (.mk 5 (.fn s u) [] [.mk 4 s [] [Fm.jX 0 (y.up 2 1) (iV v1 v0)]])->Dv L g hs (.mk 20 0 .z [] [] [a]) (.mk 5 (.fn s u) [] [.mk 4 s [] [Fm.jX 0 (y.up 2 1) (iV v1 v0)]]) (fin (.mk 5 (.fn s u) [] [.mk 4 s [] [Fm.jX 0 (y.up 2 1) (iV v1 v0)]]) m)
def Gp(f:Fm):fin f 0=0:=by grind[fin]
def Bj{g c:List Ty}{a b:Fm}(d:Hg g a)(e:Hg c b)(f:g.length<=1000000)(i:c.length<=1000000)(h:y0 a b=0):a.Ik b=0:=by grind[Mt]
def vj{g:List Ty}{s:Ty}{F:Fm}{t:Tm}(hF:k4 (g++[s]) F)(a:e_ g t s)(hn:(Fm.jX 0 F t).ab'<=4096):Hg g (Fm.jX 0 F t):=⟨Fm.tA (hF.put a).ok hn,hF.put a⟩
def Hg.abl{g:List Ty}{F:Fm}(h:Hg (g++[.nat]) F):Hg (g++[.nat]++[.nat]) (F.up 1 1):=⟨BB h.err (by omega) (by omega),by have:=h.ty.up g [.nat] [.nat] rfl;simpa using this⟩
def Hg.aaX{g:List Ty}{F:Fm}(h:Hg (g++[.nK]) F):Hg (g++[.nat]++[.nK]++[.nK]) (F.up 1 2):=⟨BB h.err (by omega) (by omega),by have:=h.ty.up g [.nK] [.nat,.nK] rfl;simpa using this⟩
def Hg.upl{g:List Ty}{F:Fm}(h:Hg (g++[.nK]) F):Hg (g++[.nat]++[.nK]) (F.up 1 1):=⟨BB h.err (by omega) (by omega),by have:=h.ty.up g [.nK] [.nat] rfl;simpa using this⟩
def EO.HF{L:List Fm}{g:List Ty}{hs:List Fm}(h:EO L ⟨g,hs⟩){s:Ty}(a:s.err=0)(hn:g.length+1<=16):EO L ⟨g++[s],hs.map (Fm.up 0 1)⟩:=h.below (l:=[s]) (λx b=>by rw[w4.1 b];exact a) hn
def EO.XH{L:List Fm}{g:List Ty}{hs:List Fm}(h:EO L ⟨g,hs⟩)(hn:g.length+2<=16):EO L ⟨g++[.nat]++[.nK],hs.map (Fm.up 0 2)⟩:=by
 have:=h.below (l:=[.nat,.nK]) (λx hx=>by
  rcases ma.1 hx with rfl|hx
  ·exact Ty.hE
  ·rw[w4.1 hx];exact Ty.o7) hn
 grind
def yY{F:Fm}(hF:F.err=0){g:List Ty}(a:iR g)(h:F.vw g=0):Hg g F:=⟨hF,rV F (Fm.hV hF).1 g a h⟩
def Dv.of{L:List Fm}{P:Pf}(hP:y7 P):∀(g:List Ty) (hs:List Fm) (f:Fm) (m:Nat),EO L ⟨g,hs⟩->P.inf L g hs=.inl (f,m)->Dv L g hs P f m/\Hg g f:=by
 induction hP with
 |@hyp i hi=>
  intro g hs f m d h;have D:iR g:=d.ctx;rw[Pf.m_,Vx] at h;obtain⟨J,o,he,c⟩:=kC h;rw[c];clear h c;have h:=o;clear o;obtain⟨j,E⟩:=nR h;obtain⟨T,rfl⟩:=iz (YW E)
  have N:hs.length-1-i.toNat<hs.length:=by omega
  rw[NF,oD N] at T;have T:hs[hs.length-1-i.toNat]=f:=T;have A:Hg g f:=d.acf f (by rw[<-T];exact CG N);rw[Gp];exact⟨.hyp hi (by omega) (by rw[oD N,T]) A,A⟩
 |@HU i hi=>
  intro g hs f m d h;have D:iR g:=d.ctx;rw[Pf.m_,Vf] at h;obtain⟨J,o,he,c⟩:=kC h;rw[c];clear h c;have h:=o;clear o;obtain⟨j,E⟩:=nR h;obtain⟨T,rfl⟩:=iz (YW E)
  have N:i.toNat<L.length:=by omega
  rw[NF,oD N] at T;have T:L[i.toNat]=f:=T;have A:Hg [] f:=d.HU f (by rw[<-T];exact CG N);rw[Gp];exact⟨.HU hi (by rw[oD N,T]) A,he,by simpa using A.ty.front g⟩
 |@NM a b _ _ l G=>
  intro g hs f m d h;have D:iR g:=d.ctx;rw[Pf.m_,R8] at h;obtain⟨J,o,he,c⟩:=kC h;rw[c];clear h c;have h:=o;clear o;obtain⟨x,n1,j,h⟩:=iH h;obtain⟨y,n2,E,h⟩:=iH h;obtain⟨rfl,rfl⟩:=iz (YW h);obtain⟨B,v⟩:=l g hs x n1 d j;obtain⟨R,tb⟩:=G g hs y n2 d E;have A:Hg g (.mk 2 .z [] [x,y]):=⟨he,.two (.inl rfl) v.ty tb.ty⟩;exact⟨.NM B R A,A⟩
 |@and k a w _ l=>
  intro g hs f m d h;have D:iR g:=d.ctx;rcases w with rfl|rfl
  ·rw[Pf.m_,Sr] at h;obtain⟨J,o,he,c⟩:=kC h;rw[c];clear h c;have h:=o;clear o;obtain⟨x,n1,j,h⟩:=iH h;obtain⟨j,w⟩:=wF j;obtain⟨rfl,rfl⟩:=iz (YW h);obtain⟨B,v⟩:=l g hs x n1 d j;obtain⟨x,y,rfl,O,hy⟩:=v.ty.Jx w (.inl rfl);exact⟨.Wz B ⟨he,O⟩,he,O⟩
  ·rw[Pf.m_,Ri] at h;obtain⟨J,o,he,c⟩:=kC h;rw[c];clear h c;have h:=o;clear o;obtain⟨x,n1,j,h⟩:=iH h;obtain⟨j,w⟩:=wF j;obtain⟨rfl,rfl⟩:=iz (YW h);obtain⟨B,v⟩:=l g hs x n1 d j;obtain⟨x,y,rfl,O,hy⟩:=v.ty.Jx w (.inl rfl);exact⟨.W6 B ⟨he,hy⟩,he,hy⟩
 |@Ou F a hF _ l=>
  intro g hs f m d h;have D:iR g:=d.ctx;rw[Pf.m_,R3] at h;obtain⟨J,o,he,c⟩:=kC h;rw[c];clear h c;have h:=o;clear o;obtain⟨I,h⟩:=kL h;obtain⟨hn,h⟩:=nR h;obtain⟨y,n1,j,h⟩:=iH h;obtain⟨rfl,rfl⟩:=iz (YW h);have p:=yY hF D I;obtain⟨B,v⟩:=l g _ y n1 (d.with p (by show hs.length+1<=16;omega)) j;have A:Hg g (.mk 3 .z [] [F,y]):=⟨he,.two (.inr rfl) p.ty v.ty⟩;exact⟨.Ou p (by omega) B A,A⟩
 |@NH a b _ _ l G=>
  intro g hs f m d h;have D:iR g:=d.ctx;have S:=d.nv;have S:g.length<=16:=S;rw[Pf.m_,R1] at h;obtain⟨J,o,he,c⟩:=kC h;rw[c];clear h c;have h:=o;clear o;obtain⟨x,n1,j,h⟩:=iH h;obtain⟨j,w⟩:=wF j;obtain⟨z,n2,E,h⟩:=iH h;obtain⟨hm,h⟩:=kL h;obtain⟨rfl,rfl⟩:=iz (YW h);obtain⟨B,v⟩:=l g hs x n1 d j;obtain⟨R,tb⟩:=G g hs z n2 d E;obtain⟨x,y,rfl,O,hy⟩:=v.ty.Jx w (.inr rfl);have C:=v.sub (x:=x) (by simp) O;exact⟨.NH B R C tb (Bj C tb (by omega) (by omega) hm) ⟨he,hy⟩,he,hy⟩
 |@all k s a w r _ l=>
  intro g hs f m d h;have D:iR g:=d.ctx;rcases w with rfl|rfl
  ·rw[Pf.m_,OC] at h;obtain⟨J,o,he,c⟩:=kC h;rw[c];clear h c;have h:=o;clear o;obtain⟨hn,h⟩:=nR h;obtain⟨x,n1,j,h⟩:=iH h;obtain⟨rfl,rfl⟩:=iz (YW h);obtain⟨B,v⟩:=l _ _ x n1 (d.HF r (by omega)) j;have A:Hg g (.mk 4 s [] [x]):=⟨he,.q (.inl rfl) r v.ty⟩;exact⟨.all (.inl ⟨rfl,rfl⟩) r (by omega) B A,A⟩
  ·rw[Pf.m_,OY] at h;obtain⟨J,o,he,c⟩:=kC h;rw[c];clear h c;have h:=o;clear o;obtain⟨hn,h⟩:=nR h;obtain⟨x,n1,j,h⟩:=iH h;obtain⟨hb,h⟩:=nR h;obtain⟨rfl,rfl⟩:=iz (YW h);obtain⟨B,v⟩:=l _ _ x n1 (d.HF r (by omega)) j;have A:Hg g (.mk 6 s [] [x]):=⟨he,.q (.inr (.inr (.inl rfl))) r v.ty⟩;exact⟨.all (.inr ⟨rfl,rfl,by simpa using hb⟩) r (by omega) B A,A⟩
 |@T3 k t a w I _ l=>
  intro g hs f m d h;have D:iR g:=d.ctx
  have key:∀(k':Int) (f:Fm) (m:Nat),(k'=4\/k'=6)->∀u:Nat->Nat,(lC (t.ty g).2 (pbind (Dg (a.inf L g hs) k') λa m=>vZ ((t.ty g).1.lS a.dv=false) 7 (lC (oe (a.ab_.getD 0 hY) t).2 (.inl ((oe (a.ab_.getD 0 hY) t).1,u m)))))=.inl (f,m)->∃s x n,e_ g t s/\Dv L g hs a (.mk k' s [] [x]) n/\Hg (g++[s]) x/\(Fm.jX 0 x t).ab'<=4096/\f=Fm.jX 0 x t/\m=u n:=by
   intro k' f m ah u h;obtain⟨ad,h⟩:=kL h;obtain⟨x,n1,j,h⟩:=iH h;obtain⟨j,w⟩:=wF j;obtain⟨U,h⟩:=nR h;obtain⟨X,h⟩:=kL h;obtain⟨rfl,rfl⟩:=iz (YW h);obtain⟨B,v⟩:=l g hs x n1 d j;obtain⟨s,y,rfl,r,hy⟩:=v.ty.wB w (by omega);have ae:=v.sub (x:=y) (by simp) hy;obtain⟨V,K⟩:=xR X;rcases vh I D with⟨e,he,q1,_⟩|⟨s1,q1,M,ai⟩
   ·exact absurd (q1.symm.trans ad) he
   ·have q1:t.ty g=(s1,0):=q1;rw[q1] at U;have:s1=s:=(Ty.k0 _ _).1 (by simpa using U);subst this;have V:oe y t=(Fm.jX 0 y t,0):=V;refine⟨s1,y,n1,M,B,ae,K,?_,rfl⟩;show(oe y t).1=_;rw[V]
  rcases w with rfl|rfl
  ·rw[Pf.m_,Vc] at h;obtain⟨J,o,he,c⟩:=kC h;rw[c];clear h c;have h:=o;clear o;obtain⟨s,x,n,q1,q2,Y,Z,rfl,rfl⟩:=key 4 _ _ (.inl rfl) (λm=>m|||q4 t) h;exact⟨.T3 (.inl ⟨rfl,rfl,rfl⟩) q1 I q2 Y Z,vj Y.ty q1 Z⟩
  ·rw[Pf.m_,Q5] at h;obtain⟨J,o,he,c⟩:=kC h;rw[c];obtain⟨s,x,n,q1,q2,Y,Z,rfl,rfl⟩:=key 6 _ _ (.inr rfl) (λm=>m) o;exact⟨.T3 (.inr ⟨rfl,rfl,rfl⟩) q1 I q2 Y Z,vj Y.ty q1 Z⟩
 |@ex k t F a w I hF _ l=>
  intro g hs f m d h;have D:iR g:=d.ctx;have S:g.length<=16:=d.nv
  have key:∀(k':Int) (f:Fm) (m:Nat),(k'=5\/k'=7)->∀u:Nat->Nat,(lC (F.vw g) (vZ (F.ab9≠k') 10 (lC (t.ty g).2 (vZ ((t.ty g).1.lS F.dv=false) 7 (pbind (IZ (a.inf L g hs) (F.ab_.getD 0 hY) t) λ_ m=>.inl (F,u m))))))=.inl (f,m)->∃s x y n,F=.mk k' s [] [x]/\Hg g F/\e_ g t s/\Hg (g++[s]) x/\Dv L g hs a y n/\Hg g y/\(Fm.jX 0 x t).ab'<=4096/\(Fm.jX 0 x t).Ik y=0/\f=F/\m=u n:=by
   intro k' f m ah u h;obtain⟨M,h⟩:=kL h;obtain⟨w,h⟩:=nR h;obtain⟨ad,h⟩:=kL h;obtain⟨U,h⟩:=nR h;obtain⟨y,n,j,h⟩:=iH h;obtain⟨rfl,rfl⟩:=iz (YW h);have p:=yY hF D M;obtain⟨s,x,rfl,r,O⟩:=p.ty.wB (w7.1 w) (by omega);have C:=p.sub (x:=x) (by simp) O;obtain⟨j,K,hm⟩:=Ah j;obtain⟨B,v⟩:=l g hs y n d j;rcases vh I D with⟨e,he,q1,_⟩|⟨s1,q1,ab,ai⟩
   ·exact absurd (q1.symm.trans ad) he
   ·rw[q1] at U;have:s1=s:=(Ty.k0 _ _).1 (by simpa using U);subst this;exact⟨s1,x,y,n,rfl,p,ab,C,B,v,K,Bj (vj O ab K) v (by omega) (by omega) hm,rfl,rfl⟩
  rcases w with rfl|rfl
  ·rw[Pf.m_,RD] at h;obtain⟨J,o,he,c⟩:=kC h;rw[c];obtain⟨s,x,y,n,rfl,q1,q2,Y,Z,q5,q6,q7,rfl,rfl⟩:=key 5 _ _ (.inl rfl) (λm=>m|||q4 t) o;exact⟨.ex (.inl ⟨rfl,rfl,rfl⟩) q1 q2 I Y Z q5 q6 q7,q1⟩
  ·rw[Pf.m_,Rp] at h;obtain⟨J,o,he,c⟩:=kC h;rw[c];obtain⟨s,x,y,n,rfl,q1,q2,Y,Z,q5,q6,q7,rfl,rfl⟩:=key 7 _ _ (.inr rfl) (λm=>m) o;exact⟨.ex (.inr ⟨rfl,rfl,rfl⟩) q1 q2 I Y Z q5 q6 q7,q1⟩
 |@Uc k a b w _ _ l G=>
  intro g hs f m d h;have D:iR g:=d.ctx;have S:g.length<=16:=d.nv;rcases w with rfl|rfl
  ·rw[Pf.m_,ME] at h;obtain⟨J,o,he,c⟩:=kC h;rw[c];clear h c;obtain⟨x,n1,j,h⟩:=iH o;obtain⟨j,w⟩:=wF j;obtain⟨hn,h⟩:=nR h;obtain⟨y,n2,E,h⟩:=iH h;obtain⟨hw,h⟩:=kL h;obtain⟨rfl,rfl⟩:=iz (YW h);obtain⟨B,v⟩:=l g hs x n1 d j;obtain⟨s,x,rfl,r,O⟩:=v.ty.wB w (.inr (.inl rfl));have C:=v.sub (x:=x) (by simp) O;have Q:=(d.HF r (by omega)).with (f:=x) C (by show(hs.map (Fm.up 0 1)).length+1<=16;simp;omega);obtain⟨R,tb⟩:=G _ _ y n2 Q E;have A:Hg g (Cc y).1:=⟨he,(JR tb (by omega) r hw).1⟩;exact⟨.Uc (.inl ⟨rfl,rfl⟩) B r (by omega) (by omega) C R tb hw A,A⟩
  ·rw[Pf.m_,Mz] at h;obtain⟨J,o,he,c⟩:=kC h;rw[c];clear h c;obtain⟨x,n1,j,h⟩:=iH o;obtain⟨j,w⟩:=wF j;obtain⟨hn,h⟩:=nR h;obtain⟨y,n2,E,h⟩:=iH h;obtain⟨hw,h⟩:=kL h;obtain⟨hb,h⟩:=nR h;obtain⟨rfl,rfl⟩:=iz (YW h);obtain⟨B,v⟩:=l g hs x n1 d j;obtain⟨s,x,rfl,r,O⟩:=v.ty.wB w (.inr (.inr (.inr rfl)));have C:=v.sub (x:=x) (by simp) O;have Q:=(d.HF r (by omega)).with (f:=x) C (by show(hs.map (Fm.up 0 1)).length+1<=16;simp;omega);obtain⟨R,tb⟩:=G _ _ y n2 Q E;have A:Hg g (Cc y).1:=⟨he,(JR tb (by omega) r hw).1⟩;exact⟨.Uc (.inr ⟨rfl,rfl,by simpa using hb⟩) B r (by omega) (by omega) C R tb hw A,A⟩
 |@ind k t F a b w I hF _ _ l G=>
  intro g hs f m d h;have D:iR g:=d.ctx;have S:g.length<=16:=d.nv;rcases w with rfl|rfl
  ·rw[Pf.m_,Pv] at h;obtain⟨J,o,he,c⟩:=kC h;rw[c];clear h c;obtain⟨M,h⟩:=kL o;obtain⟨w,h⟩:=kL h;obtain⟨x,n1,j,h⟩:=iH h;obtain⟨hn,h⟩:=nR h;obtain⟨y,n2,E,h⟩:=iH h;obtain⟨X,h⟩:=kL h;obtain⟨V,K⟩:=xR X;rw[V] at h;obtain⟨rfl,rfl⟩:=iz (YW h);have p:=yY hF D.nat M;have H:e_ g t .nat:=Ac D I (.inl rfl) w;obtain⟨j,a2,a3⟩:=Ah j;obtain⟨E,W,b3⟩:=Ah E;obtain⟨B,v⟩:=l g hs x n1 d j;have Q:=(d.HF Ty.hE (by omega)).with (f:=F) p (by show(hs.map (Fm.up 0 1)).length+1<=16;simp;omega);obtain⟨R,tb⟩:=G _ _ y n2 Q E;have hz:=vj p.ty (t:=ve) .zero a2;have af:=vj (Hg.abl p).ty (t:=kc v0) (.succ vA) W;have A:Hg g (Fm.jX 0 F t):=vj p.ty H K;exact⟨.ind p H I B v a2 (Bj hz v (by omega) (by omega) a3) (by omega) (by omega) R tb W (Bj af tb (by simp;omega) (by simp;omega) b3) K,A⟩
  ·rw[Pf.m_,O3] at h;obtain⟨J,o,he,c⟩:=kC h;rw[c];clear h c;obtain⟨M,h⟩:=kL o;obtain⟨w,h⟩:=kL h;obtain⟨x,n1,j,h⟩:=iH h;obtain⟨hn,h⟩:=nR h;obtain⟨y,n2,E,h⟩:=iH h;obtain⟨X,h⟩:=kL h;obtain⟨V,K⟩:=xR X;rw[V] at h;obtain⟨rfl,rfl⟩:=iz (YW h);have p:=yY hF D.nK M;have H:e_ g t .nK:=Ac D I (.inr rfl) w;obtain⟨j,a2,a3⟩:=Ah j;obtain⟨E,W,b3⟩:=Ah E;obtain⟨B,v⟩:=l g hs x n1 d j;have Q:=(d.XH (by omega)).with (f:=F.up 1 1) (Hg.upl p) (by show(hs.map (Fm.up 0 2)).length+1<=16;simp;omega);obtain⟨R,tb⟩:=G _ _ y n2 Q E;have hz:=vj p.ty (t:=.mk 7 0 .z []) .nil a2;have af:=vj (Hg.aaX p).ty (t:=.mk 8 0 .z [v1,v0]) (.cons Gb vA) W;have A:Hg g (Fm.jX 0 F t):=vj p.ty H K;exact⟨.lists p H I B v a2 (Bj hz v (by omega) (by omega) a3) (by omega) (by omega) R tb W (Bj af tb (by simp;omega) (by simp;omega) b3) K,A⟩
 |@refl t I=>
  intro g hs f m d h;have D:iR g:=d.ctx;rw[Pf.m_,Oo] at h;obtain⟨J,o,he,c⟩:=kC h;rw[c];clear h c;obtain⟨w,h⟩:=kL o;obtain⟨rfl,rfl⟩:=iz (YW h);have H:e_ g t .nat:=Ac D I (.inl rfl) w;rw[Gp];exact⟨.refl H I ⟨he,.eq H H⟩,he,.eq H H⟩
 |@subst F a b hF _ _ l G=>
  intro g hs f m d h;have D:iR g:=d.ctx;have S:g.length<=16:=d.nv;rw[Pf.m_,OU] at h;obtain⟨J,o,he,c⟩:=kC h;rw[c];clear h c;obtain⟨M,h⟩:=kL o;obtain⟨x,n1,j,h⟩:=iH h;obtain⟨j,w⟩:=wF j;obtain⟨y,n2,E,h⟩:=iH h;obtain⟨X,h⟩:=kL h;obtain⟨V,K⟩:=xR X;rw[V] at h;obtain⟨rfl,rfl⟩:=iz (YW h);have p:=yY hF D.nat M;obtain⟨B,v⟩:=l g hs x n1 d j;obtain⟨t,u,rfl,I,hu⟩:=v.ty.Vv w;have hn:=v.ab';rw[Fm.ef] at hn;simp only[eE] at hn;obtain⟨E,W,b3⟩:=Ah E;obtain⟨R,tb⟩:=G g hs y n2 d E;have W:(Fm.jX 0 F t).ab'<=4096:=W;have b3:y0 (Fm.jX 0 F t) y=0:=b3;have K:(Fm.jX 0 F u).ab'<=4096:=K;have A:Hg g (Fm.jX 0 F u):=vj p.ty hu K;show Dv L g hs _ (Fm.jX 0 F u) (fin (Fm.jX 0 F u) n2)/\Hg g (Fm.jX 0 F u);exact⟨.subst p B I hu (Tm.tA I.ok (by omega)) (Tm.tA hu.ok (by omega)) R tb W (Bj (vj p.ty I W) tb (by omega) (by omega) b3) K,A⟩
 |@choice a _ l=>
  intro g hs f m d h;have D:iR g:=d.ctx;rw[Pf.m_,MW] at h;obtain⟨J,o,he,c⟩:=kC h;rw[c];clear h c;obtain⟨x,n1,j,h⟩:=iH o;obtain⟨j,w⟩:=wF j;obtain⟨h5,h⟩:=nR h;obtain⟨aa,h⟩:=nR h;obtain⟨X,h⟩:=nR h;obtain⟨V,K⟩:=xR (w7.1 X);rw[V] at h;obtain⟨rfl,rfl⟩:=iz (YW h);obtain⟨B,v⟩:=l g hs x n1 d j;obtain⟨s,x,rfl,r,O⟩:=v.ty.wB w (.inl rfl);have C:=v.sub (x:=x) (by simp) O;obtain⟨u,y,rfl,aj,hy⟩:=O.wB (w7.1 h5) (.inr (.inl rfl));have ae:=C.sub (x:=y) (by simp) hy;have K:(Fm.jX 0 (y.up 2 1) (iV v1 v0)).ab'<=4096:=K;have aa:(Ty.fn s u).err=0:=w7.1 aa
  have ak:k4 (g++[.fn s u]++[s]++[u]) (y.up 2 1):=by
   have:=hy.up g [s,u] [.fn s u] (by simp);simpa using this
  have al:e_ (g++[.fn s u]++[s]) (iV v1 v0) u:=.app Gb vA;have A:Hg g (.mk 5 (.fn s u) [] [.mk 4 s [] [Fm.jX 0 (y.up 2 1) (iV v1 v0)]]):=⟨he,.q (.inr (.inl rfl)) aa (.q (.inl rfl) r (ak.put al))⟩;exact⟨.choice B r aj ae aa K A,A⟩
def CR(k:Int)(i:Nat):Nat:=if k=8\/k=12 then 1 else if k=11\/k=15\/k=16 then i else if k=17 then 2*i else 0
def Yj(k:Int):Nat:=if k=16\/k=17\/k=19 then 1 else 0
def I0(k:Int)(i:Nat)(hi:i<=1000):rB k (i:Int)=some ((CR k i:Nat):Int):=by
 grind[rB,CR,la,gw,yG]
def Fi(k:Int):o8 k=some ((Yj k:Nat):Int):=by
 grind[o8,Yj,la,gw]
mutual
def Pf.Wp:Pf->Int->Prop
 |.mk k _ _ ts _ l,v=>(∃t∈ts,0<t.acg v)\/Pf.Ro k 0 l v
def Pf.Ro(k:Int):Nat->List Pf->Int->Prop
 |_,[],_=>False|i,p::l,v=>p.Wp (v+CR k i)\/Pf.Ro k (i+1) l v
end
mutual
def Pf.ace(m:Int):Pf->Bool
 |.mk _ _ _ ts fs l=>ts.all (Tm.ace m)&&fs.all (Fm.ace m)&&Pf.rE m l
def Pf.rE(m:Int):List Pf->Bool
 |[]=>true|p::l=>p.ace m&&Pf.rE m l
end
def Pf.uQ(m:Int):∀l:List Pf,Pf.rE m l=l.all (Pf.ace m)
 |[]=>by rw[Pf.rE];rfl|p::l=>by rw[Pf.rE,Pf.uQ m l];rfl
theorem Pf.fo(m k i:Int)(s:Ty)(ts:List Tm)(fs:List Fm)(l:List Pf):(Pf.mk k i s ts fs l).ace m=(ts.all (Tm.ace m)&&fs.all (Fm.ace m)&&l.all (Pf.ace m)):=by rw[Pf.ace,Pf.uQ]
structure MG (m m':List (Int×Bool)) (n:Nat):Prop where
 nd:(jP m').Nodup
 len:m'.length<=m.length+n
 sub:∀x∈jP m,x∈jP m'
def MG.trans{a b c:List (Int×Bool)}{n k:Nat}(h:MG a b n)(d:MG b c k):MG a c (n+k):=⟨d.nd,by have:=h.len;have:=d.len;omega,λx e=>d.sub x (h.sub x e)⟩
def OT{t:Tm}{d:Int}{m:List (Int×Bool)}(hn:t.ab'<=100000000)(f:0<=d)(c:d<=800000000)(g:t.ace 1000000000000=true)(hm:(jP m).Nodup):∃a,kj FU t d m=some a/\MG m a t.ab'/\∀x,0<=x->0<t.acg (x+d)->x∈jP a:=by
 obtain⟨a,c,h,i,e⟩:=A4 FU t d m (by rw[fy];omega) hn f (by omega) (Tm.mg t (by omega) g) hm;exact⟨a,c,⟨h,i,λx b=>(e x).2 (.inl b)⟩,λx b j=>(e x).2 (.inr ⟨b,j⟩)⟩
def uU{α ρ:Type}{E:Nat->α->List (Int×Bool)->Option (List (Int×Bool))}{w:α->Nat}{Q:Nat->α->Int->Prop}:∀(l:List α) (i:Nat) (m:List (Int×Bool)),(jP m).Nodup->(∀(j:Nat) (x:α) (m:List (Int×Bool)),x∈l->j<i+l.length->(jP m).Nodup->∃b,E j x m=some b/\MG m b (w x)/\∀y,0<=y->Q j x y->y∈jP b)->∀{F:Int->α->List (Int×Bool)->Option (gj (List (Int×Bool)) ρ)},(∀(j:Nat) (x:α) (v:List (Int×Bool)),j<i+l.length->F (j:Int) x v=cv (E j x v) λd=>some (.next d))->∃b,fp F l i m=some (.inl b)/\MG m b (eE w l)/\∀(k:Nat) (x:α),l[k]?=some x->∀y,0<=y->Q (i+k) x y->y∈jP b
 |[],i,m,hm,_,F,_=>⟨m,rfl,⟨hm,by simp[eE],λx c=>c⟩,λk x h=>by simp at h⟩
 |a::l,i,m,hm,h,F,hF=>by
  obtain⟨g,q,g1,q1⟩:=h i a m (by simp) (by simp) hm;obtain⟨n,r,g2,o⟩:=uU (w:=w) (Q:=Q) l (i+1) g g1.nd (λj x m c p=>h j x m (by simp[c]) (by simp;omega)) (F:=F) (λj x v p=>hF j x v (by simp;omega));refine⟨n,?_,g1.trans g2,λk x e y hy f=>?_⟩
  ·grind[fl,cl,ft]
  ·cases k with
   |zero=>
    obtain rfl:=iy e;exact g2.sub y (q1 y hy f)
   |succ k=>exact o k x e y hy (by rw[show i+1+k=i+(k+1) by omega];exact f)
def T_:∀(n:Nat) (f:Fm) (d:Int) (m:List (Int×Bool)),f.ab'<=n->f.ab'<=100000->0<=d->d+f.ab'<=700000000->f.ace 1000000000000=true->(jP m).Nodup->∃c,lq n f d m=some c/\MG m c f.ab':=by
 intro n
 induction n with
 |zero=>intro f d m h;have:=f.eP;omega
 |succ n u=>
  intro f d m hn y z A i hm;cases f with
  |mk k s ts l=>
   rw[Fm.ef] at hn y A|-;have B:=Tm.fF ts;have C:=Fm.fF l;have L:=A5 k;rw[Fm.fo,gI,kF,kF] at i;rw[lq];simp only[Fm.hJ,Fm.eG,ez];rw[eB (by omega),eo]
   obtain⟨D,G,g1,_⟩:=uU (ρ:=List (Int×Bool)) (E:=λ_ x m=>kj FU x d m) (w:=Tm.ab') (Q:=λ_ _ _=>False) ts 0 m hm (λj x m e _ hm=>by
    have:=eI Tm.ab' e;obtain⟨c,a,b,_⟩:=OT (t:=x) (d:=d) (by omega) z (by omega) (i.1 x e) hm
    exact⟨c,a,b,λ_ _ h=>h.elim⟩) (F:=λ(H:Int) (o:Tm)=>(λ(p:(List (Int×Bool)))=>cv (kj FU o d p) λd42=>some (.next d42))) (λj x v _=>rfl)
   rw[G,cl,ei,eB (by omega),eo]
   obtain⟨I,J,g2,_⟩:=uU (ρ:=List (Int×Bool)) (E:=λ_ x m=>lq n x (d+qB k) m) (w:=Fm.ab') (Q:=λ_ _ _=>False) l 0 D g1.nd (λj x m e _ hm=>by
    have:=eI Fm.ab' e;obtain⟨c,a,b⟩:=u x (d+qB k) m (by omega) (by omega) (by omega) (by omega) (i.2 x e) hm
    exact⟨c,a,b,λ_ _ h=>h.elim⟩) (F:=λ(K:Int) (q:Fm)=>(λ(r:(List (Int×Bool)))=>cv (k8 (Fm.mk k s ts l)) λg=>cv (lq n q (fk .i64 d g) r) λd105=>some (.next d105))) (λj x v _=>by
    rw[ou,cl,Fm.eN,fq (by omega) (by omega)])
   rw[J,cl,ei];have:=g1.trans g2;exact⟨I,rfl,⟨this.nd,by have:=this.len;omega,this.sub⟩⟩
def Pc(k:Int):∀(l:List Pf) (i:Nat) (v:Int),Pf.Ro k i l v->∃(j:Nat) (p:Pf),l[j]?=some p/\p.Wp (v+CR k (i+j))
 |[],_,_,h=>by simp[Pf.Ro] at h
 |a::l,i,v,h=>by
  rcases h with h|h
  ·exact⟨0,a,rfl,h⟩
  ·obtain⟨j,p,b,c⟩:=Pc k l (i+1) v h;exact⟨j+1,p,b,by rw[show i+(j+1)=i+1+j by omega];exact c⟩
def RP(k:Int)(i:Nat):CR k i<=2*i+1:=by
 grind[CR]
def Ux:∀(n:Nat) (P:Pf) (d:Int) (m:List (Int×Bool)),P.wt<=n->P.wt<=100000000->P.ok=true->P.small=true->0<=d->d+10*P.wt<=600000000->P.ace 1000000000000=true->(jP m).Nodup->∃q,mL n P d m=some q/\MG m q P.ab'/\∀y,0<=y->P.Wp (y+d)->y∈jP q:=by
 intro n
 induction n with
 |zero=>intro P d m h;have:=P.iS;omega
 |succ n L=>
  intro P d m hn M r g N D u hm;cases P with
  |mk k i s ts fs l=>
   rw[Pf.fP] at hn M D;rw[Pf.ef];rw[Pf.h_] at r;rw[Pf.zK] at g;rw[Pf.fo] at u;simp only[gI,kF] at r g u;have O:=ic Tm.wt ts λt _=>t.iS;have R:=ic Fm.wt fs λt _=>t.iS;have S:=Pf.n5 l
   have hlen:l.length<=2:=by
    have T:=Rq (k:=k) (λhn=>by have:=r.1.1.1;unfold Pf.node at this;rw[hn] at this;cases this);rcases T with rfl|rfl|rfl|rfl|rfl|rfl|rfl|rfl|rfl|rfl|rfl|rfl|rfl|rfl|rfl|rfl|rfl|rfl|rfl|rfl<;>(have:=(ka r.1.1.1 rfl).2.2.1;omega)
   have U:Yj k<=1:=by unfold Yj;split<;>omega
   rw[mL];simp only[Pf.hJ,Pf.xY,Pf.eG,ez];rw[eB (by omega),eo]
   obtain⟨V,W,g1,q1⟩:=uU (ρ:=List (Int×Bool)) (E:=λ_ x m=>kj FU x d m) (w:=Tm.ab') (Q:=λ_ x y=>0<x.acg (y+d)) ts 0 m hm (λj x m c _ hm=>by
    have:=eI Tm.wt c;have:=x.iI
    exact OT (t:=x) (d:=d) (by omega) N (by omega) (u.1.1 x c) hm) (F:=λ(X:Int) (G:Tm)=>(λ(H:(List (Int×Bool)))=>cv (kj FU G d H) λd42=>some (.next d42))) (λj x v _=>rfl)
   rw[W,cl,ei,eB (by omega),eo]
   obtain⟨Y,Z,g2,_⟩:=uU (ρ:=List (Int×Bool)) (E:=λ_ x m=>lq FU x (d+Yj k) m) (w:=Fm.ab') (Q:=λ_ _ _=>False) fs 0 V g1.nd (λj x m c _ hm=>by
    have:=eI Fm.wt c;have:=x.iI;have I:=g.1.2 x c;simp only[QU,nq] at I;obtain⟨q,a,b⟩:=T_ FU x (d+Yj k) m (by rw[fy];omega) (by omega) (by omega) (by omega) (u.1.2 x c) hm
    exact⟨q,a,b,λ_ _ h=>h.elim⟩) (F:=λ(aa:Int) (J:Fm)=>(λ(z:(List (Int×Bool)))=>cv (o8 (Pf.mk k i s ts fs l).ab9) λe=>cv (lq FU J (fk .i64 d e) z) λd145=>some (.next d145))) (λj x v _=>by
    show(cv (o8 k) λe=>cv (lq FU x (fk .i64 d e) v) λd145=>some (gj.next d145))=_
    rw[Fi,cl,fq (by omega) (by omega)])
   rw[Z,cl,ei,eB (by omega),eo]
   obtain⟨m3,e3,g3,q3⟩:=uU (ρ:=List (Int×Bool)) (E:=λj x m=>mL n x (d+CR k j) m) (w:=Pf.ab') (Q:=λj x y=>x.Wp (y+(d+CR k j))) l 0 Y g2.nd (λj x m c K hm=>by
    have:=eI Pf.wt c;have hv:=RP k j
    exact L x (d+CR k j) m (by omega) (by omega) (r.2 x c) (g.2 x c) (by omega) (by omega) (u.2 x c) hm) (F:=λ(A:Int) (B:Pf)=>(λ(C:(List (Int×Bool)))=>cv (rB (Pf.mk k i s ts fs l).ab9 A) λf=>cv (mL n B (fk .i64 d f) C) λd208=>some (.next d208))) (λj x v K=>by
    have hv:=RP k j;show(cv (rB k (j:Int)) λf=>cv (mL n x (fk .i64 d f) v) λd208=>some (gj.next d208))=_
    rw[I0 k j (by omega),cl,fq (by omega) (by omega)])
   rw[e3,cl,ei];have hg:=(g1.trans g2).trans g3;refine⟨m3,rfl,⟨hg.nd,by have:=hg.len;omega,hg.sub⟩,λy hy o=>?_⟩;rw[Pf.Wp] at o;rcases o with⟨t,ht,h⟩|h
   ·obtain⟨j,K⟩:=List.getElem?_of_mem ht;exact g3.sub y (g2.sub y (q1 j t K y hy h))
   ·obtain⟨j,p,D,h2⟩:=Pc k l 0 (y+d) h;exact q3 j p D y hy (by rw[show y+(d+((CR k (0+j):Nat):Int))=y+d+CR k (0+j) by omega];exact h2)
def HH{P:Pf}(hw:P.wt<=50000000)(he:P.err=0)(c:P.ace 1000000000000=true):∃l,vg P=some (l,0)/\l.length<=20000/\∀x,0<=x->P.Wp x->x∈l:=by
 obtain⟨o1,o2,f⟩:=lW he;obtain⟨m,d,b,g⟩:=Ux FU P 0 [] (by rw[fy];omega) (by omega) o1 o2 (by omega) (by omega) c (by simp[jP])
 have a:(m.map (·.1)).Nodup:=b.nd
 have e:m.length<=16384:=by have:=b.len;simp at this;omega
 refine⟨xW [] (jP m),?_,?_,λx h i=>?_⟩
 ·unfold vg;rw[vG (by omega),he,cl,ea nz,d,cl];unfold nV
  rw[eB (by omega),eo,show tk (m.map (·.1))=true from by simp[tk,a],eo]
  rfl
 all_goals grind[D2,jP,xM]
def qM{f:Fm}{m i:Nat}(h:(fin f m).testBit i=true):m.testBit i=true:=by
 grind[fin]
def x_{a b i:Nat}(h:(a|||b).testBit i=true):a.testBit i=true\/b.testBit i=true:=by rwa [ZQ,pO] at h
def GC{a i:Nat}(h:(a/2).testBit i=true):a.testBit (i+1)=true:=by rwa [Nat.testBit_succ]
def Mx{a i:Nat}(h:(a/4).testBit i=true):a.testBit (i+2)=true:=by
 grind
def CH{t:Tm}{g:List Ty}{s:Ty}(b:e_ g t s){i:Nat}(h:(q4 t).testBit i=true):i<g.length/\0<t.acg i:=by
 obtain⟨_,a⟩:=(Jh t i).1 h;refine⟨?_,a⟩;rcases sH i g.length with hh|hh
 ·exact hh
 ·rw[b.G8 i (by omega)] at a;omega
def Dv.gi{L:List Fm}{g:List Ty}{hs:List Fm}{P:Pf}{f:Fm}{m:Nat}(h:Dv L g hs P f m):∀i,m.testBit i=true->i<g.length/\P.Wp i:=by
 induction h with
 |hyp _ _ _ _=>intro i h;simp at h
 |HU _ _ _=>intro i h;simp at h
 |NM _ _ _ c d=>
  intro i h;rcases x_ (qM h)with h|h
  ·obtain⟨a,b⟩:=c i h;exact⟨a,.inr (.inl (by simpa[CR] using b))⟩
  ·obtain⟨a,b⟩:=d i h;exact⟨a,.inr (.inr (.inl (by simpa[CR] using b)))⟩
 |Wz _ _ c=>
  intro i h;obtain⟨a,b⟩:=c i (qM h);exact⟨a,.inr (.inl (by simpa[CR] using b))⟩
 |W6 _ _ c=>
  intro i h;obtain⟨a,b⟩:=c i (qM h);exact⟨a,.inr (.inl (by simpa[CR] using b))⟩
 |Ou _ _ _ _ c=>
  intro i h;obtain⟨a,b⟩:=c i (qM h);exact⟨a,.inr (.inl (by simpa[CR] using b))⟩
 |NH _ _ _ _ _ _ c d=>
  intro i h;rcases x_ (qM h)with h|h
  ·obtain⟨a,b⟩:=c i h;exact⟨a,.inr (.inl (by simpa[CR] using b))⟩
  ·obtain⟨a,b⟩:=d i h;exact⟨a,.inr (.inr (.inl (by simpa[CR] using b)))⟩
 |all e _ _ _ _ c=>
  intro i h;obtain⟨a,b⟩:=c (i+1) (GC (qM h));simp only[qY,ld,um] at a;rcases e with⟨rfl,_⟩|⟨rfl,_⟩<;>exact⟨by omega,.inr (.inl (by simpa[CR] using b))⟩
 |@T3 g hs k k' t s a x m u e j _ _ _ _ c=>
  intro i h;have h:=qM h
  have hu:m.testBit i=true\/(q4 t).testBit i=true:=by
   rcases e with⟨_,_,rfl⟩|⟨_,_,rfl⟩
   ·exact x_ h
   ·exact .inl h
  have l:CR k 0=0:=by rcases e with⟨rfl,_⟩|⟨rfl,_⟩<;>rfl
  rcases hu with h|h
  ·obtain⟨a,b⟩:=c i h;exact⟨a,.inr (.inl (by rw[l];simpa using b))⟩
  ·obtain⟨a,b⟩:=CH j h;exact⟨a,.inl ⟨t,by simp,b⟩⟩
 |@ex g hs k k' t s a x f m u e _ j _ _ _ _ _ _ c=>
  intro i h;have h:=qM h
  have hu:m.testBit i=true\/(q4 t).testBit i=true:=by
   rcases e with⟨_,_,rfl⟩|⟨_,_,rfl⟩
   ·exact x_ h
   ·exact .inl h
  have l:CR k 0=0:=by rcases e with⟨rfl,_⟩|⟨rfl,_⟩<;>rfl
  rcases hu with h|h
  ·obtain⟨a,b⟩:=c i h;exact⟨a,.inr (.inl (by rw[l];simpa using b))⟩
  ·obtain⟨a,b⟩:=CH j h;exact⟨a,.inl ⟨t,by simp,b⟩⟩
 |@Uc g hs k k' s a b x f m n e _ _ _ _ _ _ _ _ _ c d=>
  intro i h
  have l:CR k 0=0/\CR k 1=1:=by rcases e with⟨rfl,_⟩|⟨rfl,_⟩<;>exact⟨rfl,rfl⟩
  rcases x_ (qM h)with h|h
  ·obtain⟨a,b⟩:=c i h;exact⟨a,.inr (.inl (by rw[l.1];simpa using b))⟩
  ·obtain⟨a,b⟩:=d (i+1) (GC h);simp only[qY,ld,um] at a;exact⟨by omega,.inr (.inr (.inl (by rw[l.2];simpa using b)))⟩
 |ind _ j _ _ _ _ _ _ _ _ _ _ _ _ c d=>
  intro i h;rcases x_ (qM h)with h|h
  ·rcases x_ h with h|h
   ·obtain⟨a,b⟩:=CH j h;exact⟨a,.inl ⟨_,by simp,b⟩⟩
   ·obtain⟨a,b⟩:=c i h;exact⟨a,.inr (.inl (by simpa[CR] using b))⟩
  ·obtain⟨a,b⟩:=d (i+1) (GC h);simp only[qY,ld,um] at a;exact⟨by omega,.inr (.inr (.inl (by simpa[CR] using b)))⟩
 |lists _ j _ _ _ _ _ _ _ _ _ _ _ _ c d=>
  intro i h;rcases x_ (qM h)with h|h
  ·rcases x_ h with h|h
   ·obtain⟨a,b⟩:=CH j h;exact⟨a,.inl ⟨_,by simp,b⟩⟩
   ·obtain⟨a,b⟩:=c i h;exact⟨a,.inr (.inl (by simpa[CR] using b))⟩
  ·obtain⟨a,b⟩:=d (i+2) (Mx h);simp only[qY,ld,um] at a;exact⟨by omega,.inr (.inr (.inl (by simpa[CR] using b)))⟩
 |refl _ _ _=>intro i h;simp at h
 |subst _ _ _ _ _ _ _ _ _ _ _ _ d=>
  intro i h;obtain⟨a,b⟩:=d i (qM h);exact⟨a,.inr (.inr (.inl (by simpa[CR] using b)))⟩
 |choice _ _ _ _ _ _ _ c=>
  intro i h;obtain⟨a,b⟩:=c i (qM h);exact⟨a,.inr (.inl (by simpa[CR] using b))⟩
theorem zo{M:Int}(a:5000<=M){g:List Ty}{t:Tm}{s:Ty}(h:e_ g t s)(he:t.err=0)(hg:g.length<=100):t.ace M=true:=h.ace _ (by have:=(Tm.hV he).2;omega)
theorem zk{M:Int}(a:5000<=M){g:List Ty}{f:Fm}(h:Hg g f)(hg:g.length<=100):f.ace M=true:=h.ty.ace _ (by have:=h.ab';omega)
def Dv.abz{M:Int}(d:5000<=M){L:List Fm}{g:List Ty}{hs:List Fm}{P:Pf}{f:Fm}{m:Nat}(h:Dv L g hs P f m):g.length<=16->P.ace M=true:=by
 induction h with
 |hyp _ _ _ _=>intro _;rfl|HU _ _ _=>intro _;rfl|NM _ _ _ a b=>intro h;rw[Pf.fo];simp[a h,b h]|Wz _ _ a=>intro h;rw[Pf.fo];simp[a h]|W6 _ _ a=>intro h;rw[Pf.fo];simp[a h]|Ou hF _ _ _ a=>intro h;rw[Pf.fo];simp[a h,zk d hF (by omega)]|NH _ _ _ _ _ _ a b=>intro h;rw[Pf.fo];simp[a h,b h]|all e _ hn _ _ a=>intro h;rw[Pf.fo];simp[a (by simpa using hn)]|T3 e c he _ _ _ a=>grind[Pf.fo,zo]|ex e hF c he _ _ _ _ _ a=>grind[Pf.fo,zo,zk]|Uc e _ _ hn _ _ _ _ _ _ a b=>grind[Pf.fo]|ind hF c he _ _ _ _ hn _ _ _ _ _ _ a b=>grind[Pf.fo,zo,zk]|lists hF c he _ _ _ _ hn _ _ _ _ _ _ a b=>grind[Pf.fo,zo,zk]|refl c he _=>intro h;rw[Pf.fo];simp[zo d c he (by omega)]|subst hF _ _ _ _ _ _ _ _ _ _ a b=>intro h;rw[Pf.fo];simp[a h,b h,zk d hF (by simp;omega)]|choice _ _ _ _ _ _ _ a=>intro h;rw[Pf.fo];simp[a h]
def Dv.lea{L:List Fm}{g:List Ty}{hs:List Fm}{P:Pf}{f:Fm}{m:Nat}(h:Dv L g hs P f m):g.length<=16->P.ace 1000000000000=true:=h.abz (by omega)
def Dv.none{L:List Fm}{g:List Ty}{hs:List Fm}{P:Pf}{f:Fm}{m:Nat}(h:Dv L g hs P f m)(a:f.has=false):m=0:=by
 have b:∀u,fin f u=0:=λu=>by unfold fin;rw[a];rfl
 cases h<;>first|rfl|exact b _
def CS.lt:∀{l:List Int},CS l->∀(i j:Nat) (a b:Int),l[i]?=some a->l[j]?=some b->i<j->a<b
 |[],_,i,j,a,b,d,_,_=>by simp at d
 |c::l,.cons s1 s2,i,j,a,b,d,e,f=>by
  cases j with
  |zero=>omega|succ j=>
   simp only[mP] at e;cases i with
   |zero=>
    obtain rfl:=iy d;exact s1 b (Be e)
   |succ i=>exact CS.lt s2 i j a b (by simpa using d) e (by omega)
def LV{ρ:Type}(x:Int):∀(l:List Int) (i:Nat) (b:Bool),fp (λ(d:Int) (a:Int)=>(λ(c:Bool)=>some ((.next (fU c true (eH x a))):gj Bool ρ))) l i b=some (.inl (b||l.any λy=>eH x y))
 |[],i,b=>by simp|y::l,i,b=>by
  rw[fl,cl,ft,LV x l (i+1),la,List.any_cons,Bool.or_assoc]
def Mb{g:List Ty}{f:Fm}(b:iR g)(hg:g.length<=16)(a:Hg g f):EY f g=0:=by
 unfold EY;rw[C8 b hg,ea (by decide),ea (λh=>h a.err)];exact Cr a.ty b (by have:=a.ab';omega)
def Kj{L:List Fm}{q:Sq}(c:EO L q){P:Pf}{f:Fm}{l:List Int}(e:mx L q P=some (⟨f,l⟩,0))(d:Hg q.acb f):oF L q P f=some 0:=by
 have hw:=d.wt;have g:=c.nv;unfold oF;rw[e,eb,sZ (by omega) (by omega) (λt h=>by have:=fC (c.ctx t h);omega),Mb c.ctx c.nv d,cl,ea nz];rw[(J7 (a:=f) (b:=f) (by omega) (by omega)).1,Mt d d (by omega) (by omega),Fm.Ta];rfl
def E7(l:List Int):pV l=some true:=by
 unfold pV;rw[Ug,cl,ee rfl,QK,cl]
 by_cases D:500<l.length
 ·rw[ea (by simpa using D)]
 have R:l.length<=500:=by omega
 rw[ee (by simpa using R),show NO l=some ⟨l,0⟩from rfl,cl];obtain⟨L,d1,q,d2,a1,a2,a3,hm,n1,n2,n3⟩:=made l R;have g:=hm.v;obtain⟨P,d3,E,p2,p3⟩:=Ly FU 4 L d2 q (by rw[fy];omega) (by omega) a3 hm;have E:jy FU d2 L q 4=some (P,d3):=E;have W:=Pl 4 (by omega);rw[a1,eb,a2,eb,E,eb];rcases Bh g.b (P:=P) (by omega)with⟨e,he,_,B,_⟩|⟨f,m,us,X,B,_,hu,C,_,n⟩
 ·rw[B,eb,ee (by rw[ey];exact he)]
 have hi:P.inf L q.acb q.acf=.inl (f,m):=by rw[<-J9 g n];exact X
 obtain⟨H,_⟩:=Dv.of (Pf.Ve n).1 q.acb q.acf f m g hi;obtain⟨I,f1,f2,f3⟩:=HH (P:=P) (by omega) n (H.lea g.nv);have hw:=C.wt;have Y:=hu.len;have Z:=g.nv;rw[B,eb,ea nz,f1,eb,xo f (by omega),ea (λh=>h C.err),eb];refine pJ (G:=λo=>o=some true) (λv=>v=false) (λv J=>?_) (λj S=>?_)
 ·rw[J,ea (by decide),eB (by show us.length<=_;omega),eo,ez]
  obtain⟨s,e1,_⟩:=Lx (ρ:=Bool) (F:=λ(i:Int) (c:Int)=>(λ(_:Unit)=>
   gS (fm I)<|eK (λ(T:Int) (p:Int)=>(λ(d:Bool)=>
   some (.next (fU d true (eH c p)))):Int->Int->(Bool)->(Option (gj (Bool) (Bool)))) λu=>
   cv (fp u I 0 false) (gd (λ(d:Bool)=>
   eK (λ(w:Bool)=>
   if w=true then(
   some (.ret false))
   else(some (.next ()))) λa=>
   if d=true then(
   if(ue c 0)=true then(
   a true)
   else(if(sN c (eM q.acb))=true then(
   a true)
   else(if(nX i 0)=true then(
   cv (eJ us (fD .i64 i 1)) λz=>
   a (sN z c))
   else(a false))))
   else(a true)) (λr=>some (.ret r))))) (λ_=>True) us 0 () trivial (λk x s K _=>by
    refine⟨(),?_,trivial⟩;have hx:x∈us:=Be K;obtain⟨U,xb⟩:=(hu.Ld x).1 hx;obtain⟨b1,V⟩:=H.gi _ xb;rw[Un U] at V;have M:(I.any λy=>eH x y)=true:=List.any_eq_true.2 ⟨x,f3 x U V,by rw[gw]⟩;have aa:k<us.length:=(pz.1 K).1;rw[eB (by omega),eo,ez,LV,cl,ei,M,ez,Sd,ee rfl,ea (by rw[mE];omega),ea (by rw[iU,fR];omega)]
    by_cases N:k=0
    ·subst N;rw[ea (by decide)];rfl
    ·have O:k-1<us.length:=by omega
     have A:us[k-1]?=some us[k-1]:=oD O;have:=CS.lt hu.XB (k-1) k _ _ A K (by omega);rw[uK,ee (by rw[gA];omega),fH (by omega) (by omega),show(k:Int)-1=((k-1:Nat):Int) by omega,jj,A,cl,show sN us[k-1] x=false by rw[Ww];intro h;rw[iU] at h;omega]
     rfl)
  show cv (fp _ us 0 ()) _=some true;rw[e1];rfl
 ·rw[ea nz,ea nz,sj (by show f.wt<=_;omega) (by omega) (λt ht=>by have:=fC (g.ctx t ht);omega)];show(cv (some (EY f q.acb)) λab=>_)=some true;rw[Mb g.ctx g.nv C,cl,ea nz];show(cv (oF L q P f) λad=>_)=some true;rw[Kj g B C,cl,ea nz];cases hh:f.has with
  |true=>exact S _ rfl|false=>
   have Q:=H.none hh;subst Q;have:=hu.ext .nil;subst this;exact S _ rfl
end Go.hI
