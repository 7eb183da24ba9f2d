/- Part of the proof of SchemeChains: plain facts. -/
import Derived.KernelRfl
import Derived.Test.YtpgdkkomegalnaaGreatDoorHPC2
set_option linter.all false
namespace Go.fP
open Go
def fin(f:Fm)(m:Nat):Nat:=if f.has then m else 0
def wM{r:PR}{f:Fm}{m:Nat}(h:vO r=.inl (f,m)):∃a,r=.inl (f,a)/\f.err=0/\m=fin f a:=by
 cases r with
 |inr e=>cases h
 |inl p=>
  obtain⟨f0,a⟩:=p
  by_cases b:f0.err=0
  .rw[Ia b] at h;obtain⟨rfl,rfl⟩:=iO (Ob h);exact⟨a,rfl,b,rfl⟩
  .grind[UE]
def qO{r:PR}{k:Fm->Nat->PR}{p:Fm×Nat}(h:pbind r k=.inl p):∃f m,r=.inl (f,m)/\k f m=.inl p:=by
 cases r with
 |inr e=>cases h
 |inl q=>exact⟨q.1,q.2,rfl,h⟩
theorem sU{e:Int}{r:PR}{p:Fm×Nat}(h:mf e r=.inl p):e=0/\r=.inl p:=by grind[iv,pY]
def BJ{c:Prop}[Decidable c]{e:Int}{r:PR}{p:Fm×Nat}(h:Co c e r=.inl p):¬c/\r=.inl p:=by grind[vl,ox]
def OQ{r:PR}{k:Int}{f:Fm}{m:Nat}(h:KS r k=.inl (f,m)):r=.inl (f,m)/\f.aop=k:=by
 obtain⟨f0,a,rfl,b⟩:=qO h
 grind
theorem Jt{F:Fm}{t:Tm}(h:(l9 F t).2=0):l9 F t=(Fm.gP 0 F t,0)/\(Fm.gP 0 F t).aor<=4096:=by grind[rX]
def U4{r:PR}{F:Fm}{t:Tm}{f:Fm}{m:Nat}(h:GR r F t=.inl (f,m)):r=.inl (f,m)/\(Fm.gP 0 F t).aor<=4096/\B2 (Fm.gP 0 F t) f=0:=by
 obtain⟨f0,a,rfl,b⟩:=qO h
 grind[sU,Jt]
inductive Dv (L:List Fm):List Ty->List Fm->Pf->Fm->Nat->Prop
 |hyp {g hs i f}:0<=i->i<(hs.length:Int)->hs[hs.length-1-i.toNat]?=some f->Hg g f->Dv L g hs (.mk 1 i .z [] [] []) f 0|all {g hs k k' s a f m}:(k=8/\k'=4)->s.err=0->g.length+1<=16->Dv L (g++[s]) (hs.map (Fm.up 0 1)) a f m->Hg g (.mk k' s [] [f])->Dv L g hs (.mk k 0 s [] [] [a]) (.mk k' s [] [f]) (fin (.mk k' s [] [f]) (m/2))|Zx {g hs k k' t s a x m u}:(k=9/\k'=4/\u=m|||xb t)->eg g t s->t.err=0->Dv L g hs a (.mk k' s [] [x]) m->Hg (g++[s]) x->(Fm.gP 0 x t).aor<=4096->Dv L g hs (.mk k 0 .z [t] [] [a]) (Fm.gP 0 x t) (fin (Fm.gP 0 x t) u)|ex {g hs k k' t s a x f m u}:(k=10/\k'=5/\u=m|||xb t)->Hg g (.mk k' s [] [x])->eg g t s->t.err=0->Hg (g++[s]) x->Dv L g hs a f m->Hg g f->(Fm.gP 0 x t).aor<=4096->(Fm.gP 0 x t).Fh f=0->Dv L g hs (.mk k 0 .z [t] [.mk k' s [] [x]] [a]) (.mk k' s [] [x]) (fin (.mk k' s [] [x]) u)|opn {g hs k k' s a b x f m n}:(k=11/\k'=5)->Dv L g hs a (.mk k' s [] [x]) m->s.err=0->g.length+1<=16->hs.length+1<=16->Hg (g++[s]) x->Dv L (g++[s]) (hs.map (Fm.up 0 1)++[x]) b f n->Hg (g++[s]) f->(yz f).2=0->Hg g (yz f).1->Dv L g hs (.mk k 0 .z [] [] [a,b]) (yz f).1 (fin (yz f).1 (m|||n/2))|refl {g hs t}:eg g t .nat->t.err=0->Hg g (.mk 1 .z [t,t] [])->Dv L g hs (.mk 18 0 .z [t] [] []) (.mk 1 .z [t,t] []) 0|subst {g hs F a b t u f m n}:Hg (g++[.nat]) F->Dv L g hs a (.mk 1 .z [t,u] []) m->eg g t .nat->eg g u .nat->t.err=0->u.err=0->Dv L g hs b f n->Hg g f->(Fm.gP 0 F t).aor<=4096->(Fm.gP 0 F t).Fh f=0->(Fm.gP 0 F u).aor<=4096->Dv L g hs (.mk 19 0 .z [] [F] [a,b]) (Fm.gP 0 F u) (fin (Fm.gP 0 F u) n)
def EL(f:Fm):fin f 0=0:=by grind[fin]
def Zt{g c:List Ty}{a b:Fm}(d:Hg g a)(f:Hg c b)(i:g.length<=1000000)(j:c.length<=1000000)(h:B2 a b=0):a.Fh b=0:=by grind[Ex]
def tB{g:List Ty}{s:Ty}{F:Fm}{t:Tm}(hF:jy (g++[s]) F)(a:eg g t s)(hn:(Fm.gP 0 F t).aor<=4096):Hg g (Fm.gP 0 F t):=⟨Fm.jx (hF.put a).ok hn,hF.put a⟩
def zA.xR{L:List Fm}{g:List Ty}{hs:List Fm}(h:zA L ⟨g,hs⟩){s:Ty}(a:s.err=0)(hn:g.length+1<=16):zA L ⟨g++[s],hs.map (Fm.up 0 1)⟩:=h.below (l:=[s]) (λx b=>by rw[Hf.1 b];exact a) hn
def Rh{F:Fm}(hF:F.err=0){g:List Ty}(a:jf g)(h:F.zC g=0):Hg g F:=⟨hF,BP F (Fm.iK hF).1 g a h⟩
def Dv.of{L:List Fm}{P:Pf}(hP:Ku P):∀(g:List Ty) (hs:List Fm) (f:Fm) (m:Nat),zA L ⟨g,hs⟩->P.inf L g hs=.inl (f,m)->Dv L g hs P f m/\Hg g f:=by
 induction hP with
 |@hyp i hi=>
  intro g hs f m d h;have C:jf g:=d.ctx;rw[Pf.nQ,Vr] at h;obtain⟨T,v,he,c⟩:=wM h;rw[c];clear h c;have h:=v;clear v;obtain⟨o,O⟩:=BJ h;obtain⟨U,rfl⟩:=iO (Ob O)
  have Q:hs.length-1-i.toNat<hs.length:=VW
  rw[A2,pE Q] at U;have U:hs[hs.length-1-i.toNat]=f:=U;have I:Hg g f:=d.aow f (by rw[<-U];exact Ek Q);rw[EL];exact⟨.hyp hi VW (by rw[pE Q,U]) I,I⟩
 |@all k s a r j _ l=>
  intro g hs f m d h;have C:jf g:=d.ctx;obtain rfl:=r
  .rw[Pf.nQ,FQ] at h;obtain⟨T,v,he,c⟩:=wM h;rw[c];clear h c;have h:=v;clear v;obtain⟨hn,h⟩:=BJ h;obtain⟨x,n1,o,h⟩:=qO h;obtain⟨rfl,rfl⟩:=iO (Ob h);obtain⟨J,A⟩:=l _ _ x n1 (d.xR j VW) o;have I:Hg g (.mk 4 s [] [x]):=⟨he,.q (.inl rfl) j A.ty⟩;exact⟨.all ⟨rfl,rfl⟩ j VW J I,I⟩
 |@Zx k t a r B _ l=>
  intro g hs f m d h;have C:jf g:=d.ctx
  have key:∀(k':Int) (f:Fm) (m:Nat),(k'=4\/k'=6)->∀u:Nat->Nat,(mf (t.ty g).2 (pbind (KS (a.inf L g hs) k') λa m=>Co ((t.ty g).1.lj a.dM=false) 7 (mf (l9 (a.aoq.getD 0 oE) t).2 (.inl ((l9 (a.aoq.getD 0 oE) t).1,u m)))))=.inl (f,m)->∃s x n,eg g t s/\Dv L g hs a (.mk k' s [] [x]) n/\Hg (g++[s]) x/\(Fm.gP 0 x t).aor<=4096/\f=Fm.gP 0 x t/\m=u n:=by
   intro k' f m ad u h;obtain⟨R,h⟩:=sU h;obtain⟨x,n1,o,h⟩:=qO h;obtain⟨o,r⟩:=OQ o;obtain⟨D,h⟩:=BJ h;obtain⟨hp,h⟩:=sU h;obtain⟨rfl,rfl⟩:=iO (Ob h);obtain⟨J,A⟩:=l g hs x n1 d o;obtain⟨s,y,rfl,j,hy⟩:=A.ty.Jk r VW;have ae:=A.sub (x:=y) abm hy;obtain⟨V,K⟩:=Jt hp;rcases A_ B C with⟨e,he,q1,_⟩|⟨s1,q1,G,af⟩
   .exact absurd (q1.symm.trans R) he
   .have q1:t.ty g=(s1,0):=q1;rw[q1] at D;have:s1=s:=(Ty.lq _ _).1 (by simpa using D);subst this;have V:l9 y t=(Fm.gP 0 y t,0):=V;refine⟨s1,y,n1,G,J,ae,K,?_,rfl⟩;show(l9 y t).1=_;rw[V]
  obtain rfl:=r
  .rw[Pf.nQ,VI] at h;obtain⟨T,v,he,c⟩:=wM h;rw[c];clear h c;have h:=v;clear v;obtain⟨s,x,n,q1,q2,X,Y,rfl,rfl⟩:=key 4 _ _ (.inl rfl) (λm=>m|||xb t) h;exact⟨.Zx ⟨rfl,rfl,rfl⟩ q1 B q2 X Y,tB X.ty q1 Y⟩
 |@ex k t F a r B hF _ l=>
  intro g hs f m d h;have C:jf g:=d.ctx;have W:g.length<=16:=d.nv
  have key:∀(k':Int) (f:Fm) (m:Nat),(k'=5\/k'=7)->∀u:Nat->Nat,(mf (F.zC g) (Co (F.aop≠k') 10 (mf (t.ty g).2 (Co ((t.ty g).1.lj F.dM=false) 7 (pbind (GR (a.inf L g hs) (F.aoq.getD 0 oE) t) λ_ m=>.inl (F,u m))))))=.inl (f,m)->∃s x y n,F=.mk k' s [] [x]/\Hg g F/\eg g t s/\Hg (g++[s]) x/\Dv L g hs a y n/\Hg g y/\(Fm.gP 0 x t).aor<=4096/\(Fm.gP 0 x t).Fh y=0/\f=F/\m=u n:=by
   intro k' f m ad u h;obtain⟨G,h⟩:=sU h;obtain⟨r,h⟩:=BJ h;obtain⟨R,h⟩:=sU h;obtain⟨D,h⟩:=BJ h;obtain⟨y,n,o,h⟩:=qO h;obtain⟨rfl,rfl⟩:=iO (Ob h);have w:=Rh hF C G;obtain⟨s,x,rfl,j,Z⟩:=w.ty.Jk (yU.1 r) VW;have M:=w.sub (x:=x) abm Z;obtain⟨o,K,hm⟩:=U4 o;obtain⟨J,A⟩:=l g hs y n d o;rcases A_ B C with⟨e,he,q1,_⟩|⟨s1,q1,N,af⟩
   .exact absurd (q1.symm.trans R) he
   .rw[q1] at D;have:s1=s:=(Ty.lq _ _).1 (by simpa using D);subst this;exact⟨s1,x,y,n,rfl,w,N,M,J,A,K,Zt (tB Z N K) A VW VW hm,rfl,rfl⟩
  obtain rfl:=r
  .rw[Pf.nQ,OJ] at h;obtain⟨T,v,he,c⟩:=wM h;rw[c];obtain⟨s,x,y,n,rfl,q1,q2,X,Y,q5,q6,q7,rfl,rfl⟩:=key 5 _ _ (.inl rfl) (λm=>m|||xb t) v;exact⟨.ex ⟨rfl,rfl,rfl⟩ q1 q2 B X Y q5 q6 q7,q1⟩
 |@opn k a b r _ _ l S=>
  intro g hs f m d h;have C:jf g:=d.ctx;have W:g.length<=16:=d.nv;obtain rfl:=r
  .rw[Pf.nQ,Ei] at h;obtain⟨T,v,he,c⟩:=wM h;rw[c];clear h c;obtain⟨x,n1,o,h⟩:=qO v;obtain⟨o,r⟩:=OQ o;obtain⟨hn,h⟩:=BJ h;obtain⟨y,n2,O,h⟩:=qO h;obtain⟨hw,h⟩:=sU h;obtain⟨rfl,rfl⟩:=iO (Ob h);obtain⟨J,A⟩:=l g hs x n1 d o;obtain⟨s,x,rfl,j,Z⟩:=A.ty.Jk r (.inr (.inl rfl));have M:=A.sub (x:=x) abm Z;have ah:=(d.xR j VW).with (f:=x) M (by show(hs.map (Fm.up 0 1)).length+1<=16;simp;omega);obtain⟨db,tb⟩:=S _ _ y n2 ah O;have I:Hg g (yz y).1:=⟨he,(SM tb VW j hw).1⟩;exact⟨.opn ⟨rfl,rfl⟩ J j VW VW M db tb hw I,I⟩
 |@refl t B=>
  intro g hs f m d h;have C:jf g:=d.ctx;rw[Pf.nQ,O0] at h;obtain⟨T,v,he,c⟩:=wM h;rw[c];clear h c;obtain⟨r,h⟩:=sU v;obtain⟨rfl,rfl⟩:=iO (Ob h);have H:eg g t .nat:=VF C B (.inl rfl) r;rw[EL];exact⟨.refl H B ⟨he,.eq H H⟩,he,.eq H H⟩
 |@subst F a b hF _ _ l S=>
  intro g hs f m d h;have C:jf g:=d.ctx;have W:g.length<=16:=d.nv;rw[Pf.nQ,Ig] at h;obtain⟨T,v,he,c⟩:=wM h;rw[c];clear h c;obtain⟨G,h⟩:=sU v;obtain⟨x,n1,o,h⟩:=qO h;obtain⟨o,r⟩:=OQ o;obtain⟨y,n2,O,h⟩:=qO h;obtain⟨hp,h⟩:=sU h;obtain⟨V,K⟩:=Jt hp;rw[V] at h;obtain⟨rfl,rfl⟩:=iO (Ob h);have w:=Rh hF C.nat G;obtain⟨J,A⟩:=l g hs x n1 d o;obtain⟨t,u,rfl,B,hu⟩:=A.ty.Y8 r;have hn:=A.aor;rw[Fm.dL] at hn;simp only[ee] at hn;obtain⟨O,b2,b3⟩:=U4 O;obtain⟨db,tb⟩:=S g hs y n2 d O;have b2:(Fm.gP 0 F t).aor<=4096:=b2;have b3:B2 (Fm.gP 0 F t) y=0:=b3;have K:(Fm.gP 0 F u).aor<=4096:=K;have I:Hg g (Fm.gP 0 F u):=tB w.ty hu K;show Dv L g hs _ (Fm.gP 0 F u) (fin (Fm.gP 0 F u) n2)/\Hg g (Fm.gP 0 F u);exact⟨.subst w J B hu (Tm.jx B.ok VW) (Tm.jx hu.ok VW) db tb b2 (Zt (tB w.ty B b2) tb VW VW b3) K,I⟩
def Dv.w{L:List Fm}{g:List Ty}{hs:List Fm}{P:Pf}{f:Fm}{m:Nat}(h:Dv L g hs P f m):Ku P:=by
 induction h with
 |hyp c _ _ _=>exact .hyp c|all a b _ _ _ ih=>obtain⟨rfl,rfl⟩:=a;exact .all rfl b ih
 |Zx a _ he _ _ _ ih=>obtain⟨rfl,rfl,rfl⟩:=a;exact .Zx rfl he ih
 |ex a hF _ he _ _ _ _ _ ih=>obtain⟨rfl,rfl,rfl⟩:=a;exact .ex rfl he hF.err ih
 |opn a _ _ _ _ _ _ _ _ _ i1 i2=>obtain⟨rfl,rfl⟩:=a;exact .opn rfl i1 i2
 |refl _ he _=>exact .refl he|subst hF _ _ _ _ _ _ _ _ _ _ i1 i2=>exact .subst hF.err i1 i2
def Z0(t:Tm):∀f b v:Int,0<=f->0<=b->f+b<=v->(t.up f b).aox v=t.aox (v-b):=by
 induction t using Tm.ind with
 |h k i s l ih=>
  intro f b v o j q;have r:=hV k;rw[Tm.fE,Tm.fu,Tm.fu,lH]
  congr 1
  .by_cases a:k=1
   .subst a;simp only[zT]
    by_cases c:f<=i
    .rw[dO c]
     by_cases d:i+b=v
     .rw[dO d,dO VW]
     .rw[dK d,dK VW]
    .rw[dK c,dK VW,dK VW]
   .simp only[a,Iv,jt]
  .refine pd λx n=>?_;rw[ih x n (f+eT k) b (v+eT k) VW j VW,show v+eT k-b=v-b+eT k by omega]
def PY{α:Type}(f g:α->Nat)(c:Nat):∀l:List α,ee (λx=>f x+g x*c) l=ee f l+ee g l*c
 |[]=>by simp[ee]|x::l=>by
  simp only[ee];rw[PY f g c l,Ce];omega
def Xk(a t:Tm):∀n v:Int,t.ok=true->0<=n->n<=v->(Tm.gP n t a).aox v=t.aox (v+1)+t.aox n*a.aox (v-n):=by
 induction t using Tm.ind with
 |h k i s l ih=>
  intro n v d hn q;have r:=hV k
  by_cases c:k=1
  .subst c;obtain⟨rfl,rfl⟩:=Iz d;rw[Tm.fN,dO rfl];unfold Tm.lz;rw[Tm.fu,Tm.fu];simp only[zT,ee,Gg]
   by_cases b:i=n
   .rw[dO b,dK (show¬i=v+1 by omega),dO b,Z0 a 0 n v VW hn VW];omega
   .rw[dK b,dK b]
    by_cases f:n<i
    .rw[dO f,Tm.fu];simp only[zT,ee,Gg]
     by_cases j:i=v+1
     .rw[dO j,dO VW];omega
     .rw[dK j,dK VW];omega
    .rw[dK f,Tm.fu];simp only[zT,ee,Gg];rw[dK VW,dK VW];omega
  .rw[Tm.fN,dK c,Tm.fu,Tm.fu,Tm.fu,lH];simp only[c,Iv,jt,vo];rw[<-PY];refine pd λx o=>?_;rw[ih x o (n+eT k) (v+eT k) (Tm.ez d x o) VW VW,show v+eT k-(n+eT k)=v-n by omega,show v+eT k+1=v+1+eT k by omega]
def QR{α:Type}{f:α->Nat}:∀{l:List α},0<ee f l->∃x∈l,0<f x
 |[],h=>by simp[ee] at h
 |x::l,h=>by
  simp only[ee] at h
  by_cases a:0<f x
  .exact⟨x,abm,a⟩
  .obtain⟨y,hy,b⟩:=QR (f:=f) (l:=l) VW;exact⟨y,by simp[hy],b⟩
def Tm.In(t:Tm)(v:Int):Prop:=0<t.aox v
def mg{k i:Int}{s:Ty}{l:List Tm}{x:Tm}{v:Int}(a:eT k=0)(b:x∈l)(h:x.In v):(Tm.mk k i s l).In v:=by
 unfold Tm.In at*;rw[Tm.fu,a,ti];have:=eu (Tm.aox v) b;omega
def Di{k i:Int}{s:Ty}{l:List Tm}{v:Int}(a:k≠1)(b:eT k=0)(h:(Tm.mk k i s l).In v):∃x∈l,x.In v:=by
 unfold Tm.In at*;rw[Tm.fu,b,ti,dK (λh=>a h.1),vo] at h;exact QR h
def IF{t:Tm}{v:Int}(q:t.ok=true)(w:t.root=true)(y:0<=v)(h:t.fh.In v):t.In v:=by
 cases Tm.GF q w with
 |@app i s j u b a=>
  rw[show(Tm.mk 3 i s [.mk 2 j u [b],a]).fh=Tm.gP 0 b a by simp[Tm.fh]] at h;unfold Tm.In at h;rw[Xk a b 0 v (Tm.ez (Tm.ez q (.mk 2 j u [b]) abm) b abm) VW y,agl] at h
  by_cases l:0<b.aox (v+1)
  .refine mg rfl (x:=.mk 2 j u [b]) abm ?_;unfold Tm.In;rw[Tm.fu];simp only[ee,show eT 2=1 from rfl];omega
  .have d:0<a.aox v:=by
    rcases ajy (a.aox v)with h0|h0
    .rw[h0,Nat.mul_zero] at h;omega
    .exact h0
   exact mg rfl (x:=a) abm d
 |@zero k A i s j u b st o=>
  rcases o with⟨rfl,rfl⟩|⟨rfl,rfl⟩
  .rw[show(Tm.mk 6 i s [b,st,.mk 4 j u []]).fh=b by simp[Tm.fh]] at h;exact mg rfl abm h
  .rw[show(Tm.mk 9 i s [b,st,.mk 7 j u []]).fh=b by simp[Tm.fh]] at h;exact mg rfl abm h
 |@succ i s j u b st n=>
  rw[show(Tm.mk 6 i s [b,st,.mk 5 j u [n]]).fh=.mk 3 0 (.mk 0 []) [.mk 3 0 (.mk 0 []) [st,n],.mk 6 i s [b,st,n]] by simp[Tm.fh,kC]] at h
  have key:∀x,(x=b\/x=st\/x=n)->x.In v->(Tm.mk 6 i s [b,st,.mk 5 j u [n]]).In v:=by
   intro x c f;rcases c with rfl|rfl|rfl
   .exact mg rfl (x:=x) abm f
   .exact mg rfl (x:=x) abm f
   .exact mg rfl (x:=.mk 5 j u [x]) abm (mg rfl abm f)
  obtain⟨x,c,l⟩:=Di aal rfl h;simp only[kX,ry,pM] at c;rcases c with rfl|rfl
  .obtain⟨x,c,d⟩:=Di aal rfl l;simp only[kX,ry,pM] at c;exact key x (.inr c) d
  .obtain⟨x,c,d⟩:=Di aal rfl l;simp only[kX,ry,pM] at c;exact key x c d
 |@cons i s j u b st p n=>
  rw[show(Tm.mk 9 i s [b,st,.mk 8 j u [p,n]]).fh=.mk 3 0 (.mk 0 []) [.mk 3 0 (.mk 0 []) [.mk 3 0 (.mk 0 []) [st,p],n],.mk 9 i s [b,st,n]] by simp[Tm.fh,kC]] at h
  have key:∀x,(x=b\/x=st\/x=p\/x=n)->x.In v->(Tm.mk 9 i s [b,st,.mk 8 j u [p,n]]).In v:=by
   intro x c f;rcases c with rfl|rfl|rfl|rfl
   .exact mg rfl (x:=x) abm f
   .exact mg rfl (x:=x) abm f
   .exact mg rfl (x:=.mk 8 j u [x,n]) abm (mg rfl abm f)
   .exact mg rfl (x:=.mk 8 j u [p,x]) abm (mg rfl abm f)
  obtain⟨x,c,l⟩:=Di aal rfl h;simp only[kX,ry,pM] at c;rcases c with rfl|rfl
  .obtain⟨x,c,d⟩:=Di aal rfl l;simp only[kX,ry,pM] at c;rcases c with rfl|rfl
   .obtain⟨x,c,r⟩:=Di aal rfl d;simp only[kX,ry,pM] at c;rcases c with rfl|rfl
    .exact key _ (.inr (.inl rfl)) r
    .exact key _ (.inr (.inr (.inl rfl))) r
   .exact key _ (.inr (.inr (.inr rfl))) d
  .obtain⟨x,c,d⟩:=Di aal rfl l;simp only[kX,ry,pM] at c;rcases c with rfl|rfl|rfl
   .exact key _ (.inl rfl) d
   .exact key _ (.inr (.inl rfl)) d
   .exact key _ (.inr (.inr (.inr rfl))) d
 |@proj k i s j u a b o=>
  rcases o with rfl|rfl
  .rw[show(Tm.mk 11 i s [.mk 10 j u [a,b]]).fh=a by simp[Tm.fh]] at h;exact mg rfl (x:=.mk 10 j u [a,b]) abm (mg rfl abm h)
  .rw[show(Tm.mk 12 i s [.mk 10 j u [a,b]]).fh=b by simp[Tm.fh]] at h;exact mg rfl (x:=.mk 10 j u [a,b]) abm (mg rfl abm h)
def yx(t:Tm):∀f b v:Int,f<=v->v<f+b->(t.up f b).aox v=0:=by
 induction t using Tm.ind with
 |h k i s l ih=>
  intro f b v j n;rw[Tm.fE,Tm.fu,lH,By λx d=>ih x d (f+eT k) b (v+eT k) VW VW]
  by_cases a:k=1
  .subst a;simp only[zT]
   by_cases c:f<=i
   .rw[dO c,dK VW]
   .rw[dK c,dK VW]
  .simp only[a,Iv,jt]
def BG{k i:Int}{s:Ty}{l m:List Tm}(v:Int)(h:0<ee (Tm.aox (v+eT k)) m->0<ee (Tm.aox (v+eT k)) l)(a:(Tm.mk k i s m).In v):(Tm.mk k i s l).In v:=by
 unfold Tm.In at*;rw[Tm.fu] at a|-
 by_cases b:0<ee (Tm.aox (v+eT k)) m
 .have:=h b;omega
 .omega
def mP.In{t u:Tm}(h:mP t u):t.ok=true->∀v:Int,0<=v->u.In v->t.In v:=by
 induction h with
 |n0=>intro _ _ _ h;exact h|@n1 k i s a D F o=>
  intro d v l h;refine BG v (λq=>?_) h;have:=o (Tm.ez d _ abm) (v+eT k) (by have:=hV k;omega);unfold Tm.In at this;simp only[ee] at q|-;omega
 |@n2 k i s a D b w F y o f=>
  intro d v l h;refine BG v (λq=>?_) h;have J:=o (Tm.ez d _ abm) (v+eT k) (by have:=hV k;omega);have A:=f (Tm.ez d _ abm) (v+eT k) (by have:=hV k;omega);unfold Tm.In at J A;simp only[ee] at q|-;omega
 |@n3 k i s a D b w c H F y I o f r=>
  intro d v l h;refine BG v (λq=>?_) h;have J:=o (Tm.ez d _ abm) (v+eT k) (by have:=hV k;omega);have A:=f (Tm.ez d _ abm) (v+eT k) (by have:=hV k;omega);have B:=r (Tm.ez d _ abm) (v+eT k) (by have:=hV k;omega);unfold Tm.In at J A B;simp only[ee] at q|-;omega
 |@beta i s j u b w a D y F f o=>
  intro d v l h;have M:=Tm.ez (Tm.ez d (.mk 2 j u [b]) abm) b abm;have A:(Tm.mk 3 i s [.mk 2 j u [w],D]).In v:=IF ((mP.n2 3 i s (.n1 2 j u y) F).ok d) (by simp[Tm.root,Tm.kd]) l (by simpa[Tm.fh] using h);have B:=f M (v+1) VW;have G:=o (Tm.ez d a abm) v l;refine BG v (λq=>?_) A;unfold Tm.In at B G;simp only[ee,show eT 3=0 from rfl,ti] at q|-;rw[Tm.fu] at q|-;simp only[ee,show eT 2=1 from rfl] at q|-;omega
 |@NW i s j u c b w y f=>intro d v l h;exact mg rfl (x:=b) abm (f (Tm.ez d b abm) v l h)|@D6 i s j u c b w y f=>intro d v l h;exact mg rfl (x:=b) abm (f (Tm.ez d b abm) v l h)|@O7 i s j u b w c H n n' y I hn f r C=>
  intro d v l h;have A:(Tm.mk 6 i s [w,H,.mk 5 j u [n']]).In v:=IF ((mP.n3 6 i s y I (.n1 5 j u hn)).ok d) (by simp[Tm.root,Tm.kd]) l (by simpa[Tm.fh] using h);have B:=f (Tm.ez d b abm) v l;have G:=r (Tm.ez d c abm) v l;have K:=C (Tm.ez (Tm.ez d (.mk 5 j u [n]) abm) n abm) v l;refine BG v (λq=>?_) A;unfold Tm.In at B G K;simp only[ee,show eT 6=0 from rfl,ti] at q|-;rw[Tm.fu] at q|-;simp only[ee,show eT 5=0 from rfl,ti] at q|-;omega
 |@EV i s j u b w c H n n' t N y I hn O f r C L=>
  intro d v l h;have A:(Tm.mk 9 i s [w,H,.mk 8 j u [n',N]]).In v:=IF ((mP.n3 9 i s y I (.n2 8 j u hn O)).ok d) (by simp[Tm.root,Tm.kd]) l (by simpa[Tm.fh] using h);have B:=f (Tm.ez d b abm) v l;have G:=r (Tm.ez d c abm) v l;have K:=C (Tm.ez (Tm.ez d (.mk 8 j u [n,t]) abm) n abm) v l;have P:=L (Tm.ez (Tm.ez d (.mk 8 j u [n,t]) abm) t abm) v l;refine BG v (λq=>?_) A;unfold Tm.In at B G K P;simp only[ee,show eT 9=0 from rfl,ti] at q|-;rw[Tm.fu] at q|-;simp only[ee,show eT 8=0 from rfl,ti] at q|-;omega
 |@fst i s j u b a D F o=>intro d v l h;exact mg rfl (x:=.mk 10 j u [a,b]) abm (mg rfl (x:=a) abm (o (Tm.ez (Tm.ez d (.mk 10 j u [a,b]) abm) a abm) v l h))|@snd i s j u a b w y f=>intro d v l h;exact mg rfl (x:=.mk 10 j u [a,b]) abm (mg rfl (x:=b) abm (f (Tm.ez (Tm.ez d (.mk 10 j u [a,b]) abm) b abm) v l h))
def oo.In{t u:Tm}(h:oo t u):t.ok=true->∀v:Int,0<=v->u.In v->t.In v:=by
 induction h with
 |refl t=>intro _ _ _ h;exact h|step a _ ih=>intro b v c h;exact a.In b v c (ih (a.ok b) v c h)
def DB.nf{a x p:Tm}{n:Int}(h:DB a x)(d:x.norm 1000 0=(p,n,0)):oo a p:=by
 obtain⟨l,b,c,f,i⟩:=h;obtain⟨n1,s1⟩:=Et d b;obtain⟨w,j,k⟩:=s1.meet c b i;have:=j.nf n1;subst this;exact f.trans k
def PD{x:Tm}{e:Int}(h:(DI x e).2=0):e=0/\∃n,x.norm 1000 0=((DI x e).1,n,0):=by
 by_cases he:e=0
 .subst he;refine⟨rfl,?_⟩;unfold DI at h|-;simp only[if_true] at h|-;refine⟨(x.norm 1000 0).2.1,?_⟩;obtain⟨p,n,e,a⟩:∃p n e,x.norm 1000 0=(p,n,e):=⟨_,_,_,rfl⟩;rw[a] at h|-;simp only at h|-;rw[h]
 .rw[Bc he] at h;exact absurd h he
def rl.nr{a f:Fm}(h:rl a f):∀e:Int,(f.tX e).2=0->rl a (f.tX e).1/\∀v:Int,0<=v->a.aox v=0->(f.tX e).1.aox v=0:=by
 induction h with
 |@eq a d b j l n=>
  intro e he;rw[VO] at he|-;obtain⟨w,n1,q1⟩:=PD he;obtain⟨A,n2,x⟩:=PD w;have s1:=l.nf x;have s2:=n.nf q1;refine⟨.eq (.star l.1 s1) (.star n.1 s2),λv i c=>?_⟩;rw[Fm.fu] at c|-;simp only[ee] at c|-;have t1:=s1.In l.1 v i;have t2:=s2.In n.1 v i;unfold Tm.In at t1 t2;omega
 |@two k a d b j _ _ o r=>
  intro e he;rw[UY] at he|-;have he:(j.tX (d.tX e).2).2=0:=he;obtain⟨y,t2⟩:=r _ he;have t:(d.tX e).2=0:=agA λh=>h (by rw[Fm.Jv j _ h] at he;exact he);obtain⟨u,t1⟩:=o e t;refine⟨.two u y,λv i c=>?_⟩;have:=uI k;rw[Fm.fu] at c|-;simp only[ee] at c|-;have:=t1 (v+qB k) VW VW;have:=t2 (v+qB k) VW VW;omega
 |@q k s a d _ ih=>
  intro e he;rw[aeS] at he|-;obtain⟨u,t1⟩:=ih e he;refine⟨.q u,λv i c=>?_⟩;have:=uI k;rw[Fm.fu] at c|-;simp only[ee] at c|-;have:=t1 (v+qB k) VW VW;omega
def Tm.adl(t:Tm):∀n:Int,t.aox n=0->(t.up (n+1) (-1)).up n 1=t:=by
 induction t using Tm.ind with
 |h k i s l ih=>
  intro n a;rw[Tm.fu] at a;rw[Tm.fE,Tm.fE,F6]
  congr 1
  .by_cases b:k=1
   .subst b;simp only[zT] at a|-
    have:¬i=n:=λh=>by rw[dO h] at a;omega
    by_cases c:n+1<=i
    .rw[dO c,dO VW];omega
    .rw[dK c,dK VW]
   .simp only[b,Iv,jt]
  .refine map_id' λx d=>?_;have:=eu (Tm.aox (n+eT k)) d;have:=ih x d (n+eT k) VW;rw[show n+eT k+1=n+1+eT k by omega] at this;exact this
def Fm.adl(f:Fm):∀n:Int,f.aox n=0->(f.up (n+1) (-1)).up n 1=f:=by
 induction f using Fm.ind with
 |h k s ts l ih=>
  intro n b;rw[Fm.fu] at b;rw[Fm.fE,Fm.fE,F6,F6]
  congr 1
  .refine map_id' λx a=>?_;have:=eu (Tm.aox n) a;exact x.adl n VW
  .refine map_id' λx a=>?_;have:=eu (Fm.aox (n+qB k)) a;have:=ih x a (n+qB k) VW;rw[show n+qB k+1=n+1+qB k by omega] at this;exact this
def Fm.yx(t:Fm):∀f b v:Int,f<=v->v<f+b->(t.up f b).aox v=0:=by
 induction t using Fm.ind with
 |h k s ts l ih=>
  intro f b v a c;rw[Fm.fE,Fm.fu,lH,lH,By λx _=>Go.fP.yx x f b v a c,By λx d=>ih x d (f+qB k) b (v+qB k) VW VW]
def Fm.U'{g:List Ty}{f:Fm}(h:jy g f)(x:Tm):∀n:Int,0<=n->Fm.gP n (f.up n 1) x=f:=by
 have key:∀{g:List Ty} {t:Tm} {s:Ty},eg g t s->∀n:Int,0<=n->Tm.gP n (t.up n 1) x=t:=by
  intro g t s h n hn;have:=SZ x t n n 0 h.ok hn VW VW;rw[Tm.Ee] at this;exact this
 induction h with
 |eq c d=>intro n hn;rw[Fm.fE,Fm.fN];simp[key c n hn,key d n hn]|@two _ k _ _ _ _ _ a b=>intro n hn;have:=uI k;rw[Fm.fE,Fm.fN];simp[a (n+qB k) VW,b (n+qB k) VW]
 |@q _ k _ _ _ _ _ ih=>intro n hn;have:=uI k;rw[Fm.fE,Fm.fN];simp[ih (n+qB k) VW]
def rl.down{g c:List Ty}{a b:Fm}(d:jy g a)(f:jy c b)(h:rl (a.up 0 1) (b.up 0 1)):rl a b:=by
 have:=h.gP (DB.refl (a:=NN) aal) (n:=0) VW
 rwa [Fm.U' d _ 0 VW,Fm.U' f _ 0 VW] at this
def aaR{g:List Ty}{s:Ty}{f:Fm}(h:Hg (g++[s]) f)(hg:g.length<=1000)(a:(yz f).2=0):rl f ((yz f).1.up 0 1):=by
 unfold yz at a|-
 by_cases c:f.aox 0=0
 .rw[dO c];show rl f ((f.up 1 (-1)).up 0 1);rw[show(f.up 1 (-1)).up 0 1=f from f.adl 0 c];exact .refl h.ty
 .rw[dK c] at a|-
  by_cases b:(f.tX 0).2≠0
  .rw[dO b] at a;exact absurd a b
  .rw[dK b] at a|-;have b:(f.tX 0).2=0:=yU.1 b
   by_cases d:(f.tX 0).1.aox 0≠0
   .rw[dO d] at a;cases a
   .rw[dK d];show rl f (((f.tX 0).1.up 1 (-1)).up 0 1);rw[show((f.tX 0).1.up 1 (-1)).up 0 1=(f.tX 0).1 from Fm.adl _ 0 (yU.1 d)];exact((rl.refl h.ty).nr 0 b).1
def J7{α:Type}{f:α->Int->α×Int}:∀(l:List α) (e:Int),(∀x∈l,∀e,e=0\/pD e->(f x e).2=0\/pD (f x e).2)->e=0\/pD e->(rN f l e).2=0\/pD (rN f l e).2
 |[],e,_,he=>he|x::l,e,h,he=>J7 l _ (λy hy=>h y (by simp[hy])) (h x abm e he)
def ads(f:Fm):∀e:Int,e=0\/pD e->(f.tX e).2=0\/pD (f.tX e).2:=by
 induction f using Fm.ind with
 |h k s ts l ih=>
  intro e he;rw[Fm.FP];refine J7 l _ ih (J7 ts e (λx _ e he=>?_) he)
  by_cases a:e=0
  .unfold DI;rw[dO a];rcases Ez 1000 0 x with h|h|h
   .exact .inl h
   .exact .inr (.inr (.inl h))
   .exact .inr (.inr (.inr h))
  .rw[Bc a];exact he
def acK{g:List Ty}{s:Ty}{f y:Fm}(h:Hg (g++[s]) f)(hg:g.length<=1000)(hs:s.err=0)(hy:jy g y)(c:rl f (y.up 0 1)):pD (yz f).2\/(yz f).2=0/\rl (yz f).1 y:=by
 have key:(yz f).2=0->rl (yz f).1 y:=λa=>rl.down (SM h hg hs a).1 hy ((aaR h hg a).symm.trans c)
 by_cases a:(yz f).2=0
 .exact .inr ⟨a,key a⟩
 .left;unfold yz at a|-
  by_cases d:f.aox 0=0
  .rw[dO d] at a;exact absurd rfl a
  .rw[dK d] at a|-
   by_cases b:(f.tX 0).2≠0
   .rw[dO b];exact(ads f 0 (.inl rfl)).resolve_left b
   .rw[dK b] at a;have b:(f.tX 0).2=0:=yU.1 b
    by_cases i:(f.tX 0).1.aox 0≠0
    .exact absurd ((c.symm.nr 0 b).2 0 VW (y.yx 0 1 0 VW VW)) i
    .rw[dK i] at a;exact absurd rfl a
def vM(s:Ty):s.lj s=true:=(Ty.lq s s).2 rfl
def vrs(k:Int)(i:Nat):Nat:=if k=8\/k=12 then 1 else if k=11\/k=15\/k=16 then i else if k=17 then 2*i else 0
def mot(k:Int):Nat:=if k=16\/k=17\/k=19 then 1 else 0
mutual
def Pf.aov(m:Int):Pf->Bool
 |.mk _ _ _ ts fs l=>ts.all (Tm.aov m)&&fs.all (Fm.aov m)&&Pf.uS m l
def Pf.uS(m:Int):List Pf->Bool
 |[]=>true|p::l=>p.aov m&&Pf.uS m l
end
end Go.fP
namespace Go.fP
open Go
section
variable{G G':List Ty} {ψ:Tm->Int->Tm}
def O1(k:Int)(i:Nat):Nat:=if k=6 then 1 else if k=11\/k=15\/k=16\/k=17 then i else 0
mutual
def Pf.HW(ψ:Tm->Int->Tm)(η:Nat->Nat->Int->Pf):Nat->Nat->Pf->Pf
 |d,h,.mk k i s ts fs l=>if k=1 then η d h i else .mk k i s (ts.map λt=>ψ t d) (fs.map λf=>f.HW ψ ((d+mot k:Nat):Int)) (Pf.aky ψ η k 0 d h l)
def Pf.aky(ψ:Tm->Int->Tm)(η:Nat->Nat->Int->Pf)(k:Int):Nat->Nat->Nat->List Pf->List Pf
 |_,_,_,[]=>[]|i,d,h,p::l=>p.HW ψ η (d+vrs k i) (h+O1 k i)::Pf.aky ψ η k (i+1) d h l
end
def Pf.Ws(P:Pf):Prop:=(P.ok=true/\P.small=true)/\Ku P
def Y9:pD 3:=.inl rfl
def OS:pD 4:=.inr (.inl rfl)
def rl.eq_inv{c:Fm}{a b:Tm}(h:rl c (.mk 1 .z [a,b] [])):∃d f,c=.mk 1 .z [d,f] []/\DB d a/\DB f b:=by
 generalize hy:Fm.mk 1 .z [a,b] []=y at h;cases h with
 |eq i j=>simp at hy;obtain⟨rfl,rfl⟩:=hy;exact⟨_,_,rfl,i,j⟩
 |two=>simp at hy
 |q=>simp at hy
def rl.ZO{k:Int}{s:Ty}{b a:Fm}(h:rl b (.mk k s [] [a])):∃c,b=.mk k s [] [c]/\rl c a:=by
 generalize hy:Fm.mk k s [] [a]=y at h;cases h with
 |eq=>simp at hy
 |two=>simp at hy
 |q d=>simp at hy;obtain⟨rfl,rfl,rfl⟩:=hy;exact⟨_,rfl,d⟩
def Dv.hg{L:List Fm}{g:List Ty}{hs:List Fm}{P:Pf}{f:Fm}{m:Nat}(h:Dv L g hs P f m):Hg g f:=by
 cases h with
 |hyp _ _ _ h=>exact h|all _ _ _ _ h=>exact h|Zx _ a _ _ b hn=>exact tB b.ty a hn|ex _ h=>exact h|opn _ _ _ _ _ _ _ _ _ h=>exact h|refl _ _ h=>exact h|subst hF _ _ hu _ _ _ _ _ _ hn=>exact tB hF.ty hu hn
end
def F7{g:List Ty}{x:Tm}{s:Ty}(h:eg g x s)(hg:jf g)(a:g.length+x.aor<=1000000):qu x g s.aop=0:=by
 unfold qu;rw[mo h hg a,dK (λh=>h.2 rfl)]
def UC{g c:List Ty}{a b:Fm}(d:Hg g a)(f:Hg c b)(i:g.length<=1000000)(j:c.length<=1000000)(h:rl a b):B2 a b=0\/pD (B2 a b):=by rw[Ex d f i j];exact h.Fh
end Go.fP
namespace Go.fP
open Go
def Pf.MV{k i:Int}{s:Ty}{ts:List Tm}{fs:List Fm}{l:List Pf}(h:(Pf.mk k i s ts fs l).ok=true/\(Pf.mk k i s ts fs l).small=true):(∀t∈ts,t.err=0)/\(∀f∈fs,f.err=0)/\∀p∈l,p.ok=true/\p.small=true:=by
 obtain⟨a,b⟩:=h;rw[Pf.gX] at a;rw[Pf.Ej] at b;simp only[gJ,kZ] at a b;refine⟨λt d=>Tm.jx (a.1.1.2 t d) ?_,λf j=>Fm.jx (a.1.2 f j) ?_,λp c=>⟨a.2 p c,b.2 p c⟩⟩
 .grind[XB]
 .grind[XW]
def Pf.Ws.parts{k i:Int}{s:Ty}{ts:List Tm}{fs:List Fm}{l:List Pf}(h:(Pf.mk k i s ts fs l).Ws):(∀t∈ts,t.err=0)/\(∀f∈fs,f.err=0)/\∀p∈l,p.Ws:=by
 obtain⟨j,n⟩:=h;obtain⟨a,b,c⟩:=Pf.MV j;refine⟨a,b,λp d=>⟨c p d,?_⟩⟩
 cases n<;>simp at d<;>first|(subst d;assumption)|(rcases d with rfl|rfl<;>assumption)
def aeb{g:List Ty}{s:Ty}{F f:Fm}{t:Tm}{m:Nat}(hF:jy (g++[s]) F)(b:eg g t s)(c:Hg g f)(hg:g.length<=1000000)(d:rl (Fm.gP 0 F t) f):(∃e,pD e/\GR (.inl (f,m)) F t=.inr e)\/GR (.inl (f,m)) F t=.inl (f,m):=by
 unfold GR;rw[iP];rcases rX F t with a|⟨hn,a⟩
 .rw[a];exact .inl ⟨4,OS,rfl⟩
 .rw[a,iv rfl];rcases UC (tB hF b hn) c hg hg d with e|e
  .grind[iv]
  .rw[pY (by rcases e with e|e|e<;>rw[e]<;>decide)];exact .inl ⟨_,e,rfl⟩
def eg.fix{g:List Ty}{t:Tm}{s:Ty}(h:eg g t s):∀d:Int,(g.length:Int)<=d->(∀c,t.up d c=t)/\∀a,Tm.gP d t a=t:=by
 induction h with
 |@var g s i hi hs=>
  intro d b;refine⟨λc=>by rw[Tm.fE,dK VW];rfl,λa=>?_⟩;rw[Tm.fN,dO rfl];unfold Tm.lz;rw[dK VW,dK VW]
 |lam hs _ ih=>
  intro d b;have:=ih (d+1) abv;exact⟨λc=>by rw[Tm.fE];simp[show eT 2=1 from rfl,this.1],λa=>by rw[Tm.fN];simp[show eT 2=1 from rfl,this.2]⟩
 |app _ _ f j=>intro d b;exact⟨λc=>by rw[Tm.fE];simp[show eT 3=0 from rfl,(f d b).1,(j d b).1],λa=>by rw[Tm.fN];simp[show eT 3=0 from rfl,(f d b).2,(j d b).2]⟩|zero=>intro d b;exact⟨λc=>by rw[Tm.fE];simp,λa=>by rw[Tm.fN];simp⟩|succ _ ih=>intro d b;exact⟨λc=>by rw[Tm.fE];simp[show eT 5=0 from rfl,(ih d b).1],λa=>by rw[Tm.fN];simp[show eT 5=0 from rfl,(ih d b).2]⟩|sF _ _ _ _ f j k=>intro d b;exact⟨λc=>by rw[Tm.fE];simp[show eT 6=0 from rfl,(f d b).1,(j d b).1,(k d b).1],λa=>by rw[Tm.fN];simp[show eT 6=0 from rfl,(f d b).2,(j d b).2,(k d b).2]⟩|nil=>intro d b;exact⟨λc=>by rw[Tm.fE];simp,λa=>by rw[Tm.fN];simp⟩|cons _ _ f j=>intro d b;exact⟨λc=>by rw[Tm.fE];simp[show eT 8=0 from rfl,(f d b).1,(j d b).1],λa=>by rw[Tm.fN];simp[show eT 8=0 from rfl,(f d b).2,(j d b).2]⟩|fold _ _ _ _ f j k=>intro d b;exact⟨λc=>by rw[Tm.fE];simp[show eT 9=0 from rfl,(f d b).1,(j d b).1,(k d b).1],λa=>by rw[Tm.fN];simp[show eT 9=0 from rfl,(f d b).2,(j d b).2,(k d b).2]⟩|pair _ _ _ f j=>intro d b;exact⟨λc=>by rw[Tm.fE];simp[show eT 10=0 from rfl,(f d b).1,(j d b).1],λa=>by rw[Tm.fN];simp[show eT 10=0 from rfl,(f d b).2,(j d b).2]⟩|fst _ ih=>intro d b;exact⟨λc=>by rw[Tm.fE];simp[show eT 11=0 from rfl,(ih d b).1],λa=>by rw[Tm.fN];simp[show eT 11=0 from rfl,(ih d b).2]⟩|snd _ ih=>intro d b;exact⟨λc=>by rw[Tm.fE];simp[show eT 12=0 from rfl,(ih d b).1],λa=>by rw[Tm.fN];simp[show eT 12=0 from rfl,(ih d b).2]⟩|unit=>intro d b;exact⟨λc=>by rw[Tm.fE];simp,λa=>by rw[Tm.fN];simp⟩
def adf{L:List Fm}{g:List Ty}{hs:List Fm}(a:zA L ⟨g,hs⟩){i:Nat}{f:Fm}(h:hs.reverse[i]?=some f):(Pf.mk 1 (i:Int) .z [] [] []).inf L g hs=.inl (f,0):=by
 have hi:i<hs.length:=by simpa using(ru.1 h).1
 rw[ahn hi] at h;have b:Hg g f:=a.aow f (HP h);rw[Pf.nQ,Vr,ox VW,show((i:Nat):Int).toNat=i from rfl,A2,h];show vO (.inl (f,0))=_;rw[Ia b.err]
 split<;>rfl
end Go.fP
namespace Go.fP
open Go
section
variable{L:List Fm} {g:List Ty} {hs:List Fm}
def JD(r:PR)(f:Fm):Prop:=(∃e,pD e/\r=.inr e)\/∃a b,r=.inl (a,b)/\rl a f
def Tk(L:List Fm)(g:List Ty)(hs:List Fm)(P:Pf)(f:Fm):Prop:=zA L ⟨g,hs⟩->P.Ws->(∃e,pD e/\P.inf L g hs=.inr e)\/∃a b,P.inf L g hs=.inl (a,b)/\rl a f/\Hg g a
def JD.BR{e:Int}{f:Fm}(h:pD e):JD (vO (.inr e)) f:=.inl ⟨e,h,rfl⟩
def JD.gq{a f:Fm}{m:Nat}(h:rl a f):JD (vO (.inl (a,m))) f:=by
 by_cases he:a.err=0
 .rw[Ia he];exact .inr ⟨_,_,rfl,h⟩
 .rw[UE he];exact .inl ⟨4,OS,rfl⟩
def Tk.of{P:Pf}{f:Fm}(h:zA L ⟨g,hs⟩->P.Ws->JD (P.inf L g hs) f):Tk L g hs P f:=λa hw=>by
 rcases h a hw with h|⟨b,c,d,i⟩
 .exact .inl h
 .exact .inr ⟨b,c,d,i,(Dv.of hw.2 g hs b c a d).2⟩
def Tk.cv{P:Pf}{f a:Fm}(h:Tk L g hs P f)(b:rl f a):Tk L g hs P a:=λc hw=>by
 rcases h c hw with h|⟨x,m,d,i,j⟩
 .exact .inl h
 .exact .inr ⟨x,m,d,i.trans b,j⟩
def AE{e:Int}(h:pD e):e≠0:=by rcases h with h|h|h<;>rw[h]<;>decide
def Q6{g:List Ty}{s:Ty}{F f:Fm}{t:Tm}{m:Nat}(hF:jy (g++[s]) F)(a:eg g t s)(b:Hg g f)(hg:g.length<=1000000)(c:rl (Fm.gP 0 F t) f):(∃e,pD e/\GR (.inl (f,m)) F t=.inr e)\/GR (.inl (f,m)) F t=.inl (f,m):=aeb hF a b hg c
def Tk.hyp{i:Nat}{a f:Fm}(h:hs.reverse[i]?=some a)(b:rl a f):Tk L g hs (.mk 1 (i:Int) .z [] [] []) f:=
 .of λc _=>.inr ⟨a,0,adf c h,b⟩
def Tk.allI{s:Ty}{a:Pf}{f:Fm}(b:s.err=0)(d:Tk L (g++[s]) (hs.map (Fm.up 0 1)) a f):Tk L g hs (.mk 8 0 s [] [] [a]) (.mk 4 s [] [f]):=.of λh hw=>by
 obtain⟨_,_,wp⟩:=hw.parts;rw[Pf.nQ]
 by_cases c:16<g.length+1
 .rw[FQ,vl c];exact .BR Y9
 rcases d (h.xR b VW) (wp _ abm)with⟨e,he,q⟩|⟨j,k,q,i,t1⟩
 .rw[FQ,ox c,q];exact .BR he
 rw[FQ,ox c,q,iP];exact .gq (.q i)
def Tk.adR{t:Tm}{s:Ty}{a:Pf}{x:Fm}(h:eg g t s)(i:Tk L g hs a (.mk 4 s [] [x])):Tk L g hs (.mk 9 0 .z [t] [] [a]) (Fm.gP 0 x t):=.of λb hw=>by
 obtain⟨wt,_,wp⟩:=hw.parts;have j:g.length<=16:=b.nv;have c:t.err=0:=wt _ abm;obtain⟨k,l⟩:=kV c;rw[Pf.nQ,VI,mo h b.ctx VW,iv rfl];rcases i b (wp _ abm)with⟨e,he,q⟩|⟨v,o,q,r,t1⟩
 .rw[q];exact .BR he
 obtain⟨d,rfl,u⟩:=r.ZO;rw[q,Df (Fm.eD 4 s [] _),iP,ox (by show¬s.lj s=false;rw[vM];decide)];show JD (vO (mf (l9 d t).2 (.inl ((l9 d t).1,o|||xb t)))) _;rcases rX d t with f|⟨_,f⟩
 .rw[f];exact .BR OS
 rw[f,iv rfl];exact .gq (u.gP (n:=0) (.refl k) (Hu 0))
theorem Tk.refl{t:Tm}(f:eg g t .nat):Tk L g hs (.mk 18 0 .z [t] [] []) (.mk 1 .z [t,t] []):=.of λb hw=>by
 obtain⟨wt,_,wp⟩:=hw.parts;have h:g.length<=16:=b.nv;have a:t.err=0:=wt _ abm;obtain⟨c,i⟩:=kV a;have d:=F7 f b.ctx VW;rw[show Ty.nat.aop=1 from rfl] at d;rw[Pf.nQ,O0,iv d];exact .gq (.eq (.refl c) (.refl c))
def Tk.exI{t:Tm}{s:Ty}{a:Pf}{x:Fm}(f:eg g t s)(hF:jy g (.mk 5 s [] [x]))(h:jy (g++[s]) x)(i:Tk L g hs a (Fm.gP 0 x t)):Tk L g hs (.mk 10 0 .z [t] [.mk 5 s [] [x]] [a]) (.mk 5 s [] [x]):=.of λc hw=>by
 obtain⟨wt,wf,wp⟩:=hw.parts;have j:g.length<=16:=c.nv;have d:t.err=0:=wt _ abm;obtain⟨r,k⟩:=kV d;have b:Hg g (.mk 5 s [] [x]):=⟨wf _ abm,hF⟩;have:=b.aor;rw[Pf.nQ,OJ,iv (o0 b.ty c.ctx VW),ox abm,mo f c.ctx VW,iv rfl,ox (by show¬s.lj s=false;rw[vM];decide)];rcases i c (wp _ abm)with⟨e,he,q⟩|⟨l,n,q,o,t1⟩
 .rw[q];exact .BR he
 rw[q];show JD (vO (pbind (GR (.inl (l,n)) x t) λ_ m=>.inl (.mk 5 s [] [x],m|||xb t))) _;rcases Q6 h f t1 VW o.symm with⟨e,he,q2⟩|q2
 .rw[q2];exact .BR he
 .rw[q2,iP];exact .gq (.refl hF)
def Tk.subst{F:Fm}{a b:Pf}{t u:Tm}(hF:jy (g++[.nat]) F)(l:Tk L g hs a (.mk 1 .z [t,u] []))(o:Tk L g hs b (Fm.gP 0 F t)):Tk L g hs (.mk 19 0 .z [] [F] [a,b]) (Fm.gP 0 F u):=.of λd hw=>by
 obtain⟨_,wf,wp⟩:=hw.parts;have r:g.length<=16:=d.nv;have c:Hg (g++[.nat]) F:=⟨wf _ abm,hF⟩;have s:=c.aor;rw[Pf.nQ,Ig,iv (o0 c.ty d.ctx.nat (by simp only[oV,kY,wZ];omega))];rcases l d (wp _ abm)with⟨e,he,q⟩|⟨I,J,q,v,t1⟩
 .rw[q];exact .BR he
 obtain⟨h,f,rfl,ct,w⟩:=v.eq_inv
 obtain⟨i,A⟩:eg g h .nat/\eg g f .nat:=by
  obtain⟨x,y,e,B,C⟩:=t1.ty.Y8 (Fm.eD _ _ _ _);simp at e;obtain⟨rfl,rfl⟩:=e;exact⟨B,C⟩
 rw[q,Df (Fm.eD 1 .z _ _),iP];show JD (vO (pbind (GR (b.inf L g hs) F h) λ_ n=>mf (l9 F f).2 (.inl ((l9 F f).1,n)))) _;rcases o d (wp _ abm)with⟨e,he,j⟩|⟨D,n',j,G,t2⟩
 .rw[j];exact .BR he
 have H:rl (Fm.gP 0 F h) D:=((rl.refl hF).gP ct VW).trans G.symm;rw[j];rcases Q6 hF i t2 VW H with⟨e,he,q3⟩|q3
 .rw[q3];exact .BR he
 rw[q3,iP];rcases rX F f with k|⟨_,k⟩
 .rw[k];exact .BR OS
 rw[k,iv rfl];exact .gq ((rl.refl hF).gP w VW)
def Tk.exE{s:Ty}{a b:Pf}{x y:Fm}(d:s.err=0)(A:Tk L g hs a (.mk 5 s [] [x]))(hy:jy g y)(B:∀c,rl c x->jy (g++[s]) c->Tk L (g++[s]) (hs.map (Fm.up 0 1)++[c]) b (y.up 0 1)):Tk L g hs (.mk 11 0 .z [] [] [a,b]) y:=.of λj hw=>by
 obtain⟨_,_,wp⟩:=hw.parts;have C:g.length<=16:=j.nv;rw[Pf.nQ,Ei];rcases A j (wp _ abm)with⟨e,he,q⟩|⟨J,k,q,D,t1⟩
 .rw[q];exact .BR he
 obtain⟨c,rfl,F⟩:=D.ZO
 have h:Hg (g++[s]) c:=by
  obtain⟨u,v,e,K,G⟩:=t1.ty.Jk (Fm.eD _ _ _ _) (.inr (.inl rfl));simp at e;obtain⟨rfl,rfl⟩:=e;exact t1.sub abm G
 have i:KS (.inl (Fm.mk 5 s [] [c],k)) 5=.inl (Fm.mk 5 s [] [c],k):=Df (Fm.eD _ _ _ _);rw[q,i,iP]
 by_cases t:16<g.length+1\/16<hs.length+1
 .rw[vl t];exact .BR Y9
 rw[ox t];have l:=(j.xR d VW).with (f:=c) h (by show(hs.map (Fm.up 0 1)).length+1<=16;simp;omega);rcases B c F h.ty l (wp _ abm)with⟨e,he,n⟩|⟨o,n',n,H,t2⟩
 .exact(congrArg (λr=>JD (vO (pbind r _)) _) n).mpr (.BR he)
 refine(congrArg (λr=>JD (vO (pbind r _)) _) n).mpr ?_
 have key:∀w:PR,((yz o).2=0->w=.inl ((yz o).1,k|||n'/2))->JD (vO (mf (yz o).2 w)) y:=by
  intro w hw;rcases acK t2 VW d hy H with e|⟨e,I⟩
  .rw[pY (AE e)];exact .BR e
  .rw[iv e,hw e];exact .gq I
 exact key _ λ_=>rfl
end
end Go.fP
namespace Go.fP
open Go
def akV{L:List Fm}{q:Sq}{P:Pf}(h:zA L q)(a:P.wt<=1000000000)(he:P.err=0)(c:Ku P){e:Int}(hi:P.inf L q.aot q.aow=.inr e):ny L q P=some (⟨oE,[]⟩,e):=by
 rcases Jf h.b a c with⟨i,_,q1,d⟩|⟨f,m,l,q1,_⟩
 .rw[Ij h he,hi] at q1;rw[d,Sum.inr.inj q1]
 .rw[Ij h he,hi] at q1;cases q1
def ZR{L:List Fm}{q:Sq}{P:Pf}(h:zA L q)(c:P.wt<=1000000000)(he:P.err=0)(d:Ku P){f:Fm}{m:Nat}(hi:P.inf L q.aot q.aow=.inl (f,m)):∃l,ny L q P=some (⟨f,l⟩,0)/\Us l m/\Hg q.aot f:=by
 rcases Jf h.b c d with⟨j,_,q1,a⟩|⟨k,n,l,q1,a,hu,i,_⟩
 .rw[Ij h he,hi] at q1;cases q1
 .rw[Ij h he,hi] at q1;obtain⟨rfl,rfl⟩:=iO (Ob q1);exact⟨l,a,hu,i⟩
end Go.fP
set_option maxRecDepth 20000
namespace Go.fP
open Go
section
variable{a:Fm} {g:List Ty}
section
variable{L:List Fm} {g:List Ty} {hs:List Fm} {F G K:Fm}
end
end
end Go.fP
set_option maxRecDepth 20000
namespace Go.fP
open Go
def rS(t:Tm):∀f,t.up f 0=t:=by
 induction t using Tm.ind with
 |h k i s l ih=>
  intro f
  have:l.map (Tm.up (f+eT k) 0)=l:=by
   refine(th (g:=id) λx a=>?_).trans abm;exact ih x a _
  rw[Tm.fE,this]
  congr 1
  split<;>omega
def adS{g:List Ty}{t:Tm}{s:Ty}(h:eg g t s)(x:Tm):Tm.gP 0 (t.up 0 1) x=t:=by
 have:=SZ x t 0 0 0 h.ok VW VW VW
 rwa [show(0:Int)+1=1 from rfl,rS] at this
end Go.fP
set_option maxRecDepth 20000
namespace Go.fP
open Go
section
variable{L:List Fm} {g:List Ty} {hs:List Fm}
end
structure Cl (t:Tm):Prop where
 up:∀n c:Int,0<=n->t.up n c=t
 gP:∀(n:Int) (a:Tm),0<=n->Tm.gP n t a=t
def eg.cl{t:Tm}{s:Ty}(h:eg [] t s):Cl t:=⟨λn c hn=>(h.fix n (by simpa using hn)).1 c,λn a hn=>(h.fix n (by simpa using hn)).2 a⟩
def eg.cls{t:Tm}{s:Ty}(h:eg [] t s)(g:List Ty):eg g t s:=by
 have:=h.lift g
 rwa [h.cl.up 0 _ VW,n9] at this
def v2:Tm:=.mk 1 2 (.mk 0 []) []
def v3:Tm:=.mk 1 3 (.mk 0 []) []
def U7{g:List Ty}{t a b:Ty}:eg (g++[t]++[a]++[b]) v2 t:=eg.var 2 abm abm
abbrev oC(a b:Tm):Fm:=.mk 1 .z [a,b] []
abbrev qW(s:Tm):Fm:=.mk 5 .nat [] [oC v0 (s.up 0 1)]
abbrev DP(t:Tm):Pf:=.mk 18 0 .z [t] [] []
abbrev zt(i:Int):Pf:=.mk 1 i .z [] [] []
abbrev qX(s t:Tm)(p:Pf):Pf:=.mk 10 0 .z [t] [qW s] [p]
abbrev xg(f:Fm)(p q:Pf):Pf:=.mk 19 0 .z [] [f] [p,q]
abbrev BV(p q:Pf):Pf:=.mk 11 0 .z [] [] [p,q]
def YL{g:List Ty}{s t:Tm}(hs:eg g s .nat):Fm.gP 0 (oC v0 (s.up 0 1)) t=oC t s:=by
 rw[Fm.fN];simp only[pP,rQ,adS hs]
 have a:Tm.gP 0 v0 t=t:=by
  unfold v0;rw[Tm.fN,dO rfl];unfold Tm.lz;rw[dO rfl,rS]
 rw[a]
def X9{g:List Ty}{s:Tm}(hs:eg g s .nat):jy (g++[.nat]) (oC v0 (s.up 0 1)):=.eq jI (hs.lift [.nat])
def tz{g:List Ty}{s:Tm}(hs:eg g s .nat):jy g (qW s):=.q (.inr (.inl rfl)) Ty.gC (X9 hs)
def Tk.shown{L:List Fm}{g:List Ty}{hs:List Fm}{s t:Tm}{P:Pf}(a:eg g s .nat)(b:eg g t .nat)(h:Tk L g hs P (oC t s)):Tk L g hs (qX s t P) (qW s):=Tk.exI b (tz a) (X9 a) (by rw[YL a];exact h)
abbrev zv(f:Tm):Fm:=.mk 4 .nat [] [qW (ef f v0)]
abbrev pN(f:Tm):Pf:=.mk 8 0 .nat [] [] [qX (ef f v0) (ef f v0) (DP (ef f v0))]
def Hm{f:Tm}(a:eg [] f (.fn .nat .nat))(L:List Fm)(g:List Ty)(hs:List Fm):Tk L g hs (pN f) (zv f):=by
 have h:eg (g++[.nat]) (ef f v0) .nat:=.app (a.cls _) jI;exact Tk.allI Ty.gC (Tk.shown h h (Tk.refl h))
end Go.fP
set_option maxRecDepth 20000
set_option maxHeartbeats 1000000
namespace Go.fP
open Go
abbrev EA(f h:Tm):Fm:=.mk 4 .nat [] [qW (ef h (ef f v0))]
abbrev z7(f:Tm)(x:Pf)(h:Tm)(y:Pf):Pf:=.mk 8 0 .nat [] [] [BV (.mk 9 0 .z [v0] [] [x]) (BV (.mk 9 0 .z [v0] [] [y])
 (qX (ef h (ef f v2)) v0 (xg (oC v1 (ef h v0)) (zt 1) (zt 0))))]
def ad7{f h:Tm}(l:eg [] f (.fn .nat .nat))(n:eg [] h (.fn .nat .nat)){x y:Pf}(L:List Fm)(g:List Ty)(hs:List Fm)(v:∀g hs,Tk L g hs x (zv f))(hy:∀g hs,Tk L g hs y (zv h)):Tk L g hs (z7 f x h y) (EA f h):=by
 have F:=l.cl;have G:=n.cl;have A:∀{g:List Ty} {x:Tm},eg g x .nat->eg g (ef f x) .nat:=λh=>.app (l.cls _) h;have C:∀{g:List Ty} {x:Tm},eg g x .nat->eg g (ef h x) .nat:=λh=>.app (n.cls _) h;have o:eg (g++[.nat]) v0 .nat:=jI;have w:eg (g++[.nat]++[.nat]) v0 .nat:=jI;have B:eg (g++[.nat]++[.nat]) v1 .nat:=Be;have D:eg (g++[.nat]++[.nat]++[.nat]) v0 .nat:=jI;have S:eg (g++[.nat]++[.nat]++[.nat]) v1 .nat:=Be;have k2:eg (g++[.nat]++[.nat]++[.nat]) v2 .nat:=U7
 have q:∀{k:Tm},Cl k->Fm.gP 0 (qW (ef k v0)) v0=qW (ef k v0):=λ{k} K=>by
  simp[Fm.fN,Tm.fE,Tm.fN,v0,Tm.lz,eT,qB,i_,K.up,K.gP,ef]
 have r:∀{k:Tm},Cl k->(ef k v0).up 0 1=ef k v1:=λ{k} K=>by
  simp[Tm.fE,v0,v1,eT,K.up,ef]
 refine Tk.allI Ty.gC (Tk.exE (s:=.nat) Ty.gC (x:=oC v0 (ef f v1)) ?_ (tz (C (A o))) λd H T=>?_)
 .have:=Tk.adR o (v (g++[.nat]) (hs.map (Fm.up 0 1)));rw[q F,qW,r F] at this;exact this
 have I:(qW (ef h (ef f v0))).up 0 1=qW (ef h (ef f v1)):=by
  simp[Fm.fE,Tm.fE,v0,v1,eT,qB,i_,F.up,G.up,ef]
 have J:(qW (ef h (ef f v1))).up 0 1=qW (ef h (ef f v2)):=by
  simp[Fm.fE,Tm.fE,v0,v1,v2,eT,qB,i_,F.up,G.up,ef]
 rw[I];refine Tk.exE (s:=.nat) Ty.gC (x:=oC v0 (ef h v1)) ?_ (tz (C (A B))) λM N ty=>?_
 .have:=Tk.adR w (hy (g++[.nat]++[.nat]) ((hs.map (Fm.up 0 1)).map (Fm.up 0 1)++[d]));rw[q G,qW,r G] at this;exact this
 rw[J];refine Tk.shown (C (A k2)) D ?_;have O:jy (g++[.nat]++[.nat]++[.nat]++[.nat]) (oC v1 (ef h v0)):=.eq Be (C jI)
 have P:Fm.gP 0 (oC v1 (ef h v0)) v1=oC v0 (ef h v1):=by
  simp[Fm.fN,Tm.fN,v0,v1,Tm.lz,eT,G.gP,ef,rS]
 have Q:Fm.gP 0 (oC v1 (ef h v0)) (ef f v2)=oC v0 (ef h (ef f v2)):=by
  simp[Fm.fN,Tm.fN,v0,v1,v2,Tm.lz,eT,G.gP,ef,rS]
 have j:rl (d.up 0 1) (oC v1 (ef f v2)):=by
  have:=H.up (f:=0) (c:=1) VW VW
  have R:(oC v0 (ef f v1)).up 0 1=oC v1 (ef f v2):=by
   simp[Fm.fE,Tm.fE,v0,v1,v2,eT,F.up,ef]
  rwa [R] at this
 have k:=Tk.subst (L:=L) (hs:=List.map (Fm.up 0 1) (List.map (Fm.up 0 1) (List.map (Fm.up 0 1) hs)++[d])++[M]) O (a:=zt 1) (b:=zt 0) (t:=v1) (u:=ef f v2) (Tk.hyp (i:=1) abm j) (by rw[P];exact Tk.hyp (i:=0) abm N);rw[Q] at k;exact k
end Go.fP
set_option maxRecDepth 20000
set_option maxHeartbeats 1000000
namespace Go.fP
open Go
section
variable{b c f:Tm}
end
end Go.fP
set_option maxRecDepth 20000
set_option maxHeartbeats 1000000
namespace Go.fP
open Go
def L4:∀(n:Nat) (t:Tm) (f:Int),t.aor<=n->t.ok=true->t.aor<=1000000000->0<=f->f+t.aor<=10000000000->t.aov 1000000000000=true->nX n t f 1=some (t.up f 1):=by
 intro n
 induction n with
 |zero=>intro t f h;have:=t.eF;omega
 |succ n ih=>
  intro t f h y o C q hi;cases t with
  |mk k i s l=>
   rw[Tm.dL] at h o q;rw[Tm.fo] at hi;simp only[gJ,oU,kZ] at hi;have D:=Tm.fA l;have F:=hV k;have b:=y;rw[Tm.gX] at b;simp only[gJ,kZ] at b
   have A:0<=i:=by
    have:=b.1;simp only[Tm.node,gJ,oU] at this;exact this.1.1.2
   rw[nX,dK aal,Tm.fE];simp only[Tm.ey,Tm.gn,Tm.eD,Tm.fx,gi]
   by_cases r:k=1
   .subst r
    have d:l=[]:=by
     have:=b.1;simp only[Tm.node,gW,gJ,oU] at this;cases l with
     |nil=>rfl|cons a l=>simp at this;omega
    subst d;rw[dO rfl]
    by_cases c:f<=i
    .rw[e9 VW VW,dO ⟨rfl,c⟩,show qz i f=true by rw[ju];exact c];rfl
    .rw[dK (λh=>c h.2),show qz i f=false by
      cases u:qz i f with
      |false=>rfl|true=>exact absurd ((ju _ _).1 u) c];rfl
   .rw[dK r,dK (λh=>r h.1)];simp only[dY,ei (l:=l) VW,dU];rw[kh (Tm.up (f+eT k) 1) l 0 [] abv]
    .simp only[dI,ew,n9]
    .intro j x v w B;have:=eu Tm.aor w
     have e:fq (eo k 2) (eH .i64 f 1) f=f+eT k:=by
      unfold eT
      by_cases c:k=2
      .rw[dO c,show eo k 2=true by rw[gi];exact c,e9 VW VW];rfl
      .rw[dK c,show eo k 2=false by
        cases u:eo k 2 with
        |false=>rfl|true=>exact absurd ((gi _ _).1 u) c,ti];rfl
     rw[e,ih x (f+eT k) VW (b.2 x w) VW VW VW (hi.2 x w)];simp[fk (l:=v) (m:=[x.up (f+eT k) 1]) (by simpa using B)]
def exists_eq{g:List Ty}{s:Tm}(h:eg g s .nat)(hg:g.length<=1000)(hn:s.aor<=1000000):fY s=some (qW s):=by
 unfold fY;have e:nX FU s 0 1=some (s.up 0 1):=L4 FU s 0 (by rw[fl];omega) h.ok VW VW VW (h.aov _ VW);rw[e];rfl
def HJ{t:Tm}{s:Ty}(h:eg [] t s)(hn:t.aor<=4096)(hs:s.aor<=64):tg [] t=some (s,0):=by
 have he:t.err=0:=Tm.jx h.ok hn;have hw:=t.kQ h.ok
 have a:jf []:=λs hs=>by simp at hs
 unfold tg;rw[FH [] abm abm,dI,show xP []=0 from rfl,dK nz,s6 VW,dI,he,dK nz,Kd a abm,dI,qS h.ok a abv,mo h a abv,q9,dP,dK nz];show dH (jY FU s) _=_;rw[pK VW,dI]
def Fi{t:Tm}{s:Ty}(h:eg [] t s)(hn:t.aor<=4096)(hs:s.aor<=64):iW t s=some 0:=by
 unfold iW;rw[HJ h hn hs,dP,dY,dO aal];unfold zf;rw[qh VW,vM];rfl
def NV:gz=some .nat:=rfl
def Zg:qv=some (.fn .nat .nat):=by kernel_rfl
def UD:fB 0=some v0:=rfl
def akd:fB 1=some v1:=rfl
def ald:fB 2=some v2:=rfl
def ED(f x:Tm):hY f [x]=some (ef f x):=by
 cases f with|mk k i s l=>cases s;rfl
def ak'(a b:Tm):m6 a b=some (oC a b):=rfl
def adm(k:Int)(s:Ty)(f:Fm):qq k s f=some (.mk k s [] [f]):=rfl
def acS(t:Tm):k8 t=some (DP t):=rfl
def Qn(f:Fm)(t:Tm)(p:Pf):j0 f t p=some (.mk 10 0 .z [t] [f] [p]):=rfl
def Zf(s:Ty)(p:Pf):p6 s p=some (.mk 8 0 s [] [] [p]):=rfl
def af_(i:Int):kM i=some (zt i):=rfl
def aej(f:Fm)(p q:Pf):jZ f p q=some (xg f p q):=rfl
def aha(t:Tm)(p:Pf):vT t p=some (.mk 9 0 .z [t] [] [p]):=rfl
def amJ(k:Int)(l:List Pf):mL k l=some (.mk k 0 .z [] [] l):=rfl
abbrev af8:Pf:=.mk 0 0 .z [] [] []
def ac2{f:Fm}{P:Pf}(c:f.wt<=1000000000)(d:P.wt<=1000000000):jO f P=some (if f.err=0/\P.err=0 then(f,P,0)else(.mk 0 .z [] [],af8,4)):=by
 unfold jO;rw[oh c,dI,dY]
 by_cases a:f.err=0
 .rw[a,dO aal,AM d,dI];dsimp only
  by_cases b:P.err=0
  .rw[b,dK nz,dO ⟨rfl,rfl⟩]
  .rw[dO (by rw[eW];exact b),dK (λh=>b h.2)];rfl
 .rw[dK (by rw[gi];exact a)];dsimp only;rw[dO (by rw[eW];exact a),dK (λh=>a h.1)];rfl
section
variable{b c f h:Tm}
def AX(a:eg [] f (.fn .nat .nat))(hn:f.aor<=4096):k7 f=jO (zv f) (pN f):=by
 have b:fY (ef f v0)=some (qW (ef f v0)):=exists_eq (g:=[.nat]) (.app (a.cls _) (jI (g:=[]))) abm (by rw[ef,Tm.dL];simp only[ee];rw[show v0.aor=1 from rfl];omega);unfold k7;simp only[Zg,dI,Fi a hn aal,dK nz,UD,ED,NV,b,adm,acS,Qn,Zf];cases hm:jO (.mk 4 .nat [] [qW (ef f v0)]) (.mk 8 0 .nat [] [] [.mk 10 0 .z [ef f v0] [qW (ef f v0)] [DP (ef f v0)]])with
 |none=>rfl|some r=>rfl
def Z5{s:Ty}(q:eg [] f s)(r:eg [] h s)(j:f.aor<=4096)(l:h.aor<=4096)(hs:s.aor<=64){n:Option Ty}(hn:n=some s)(k:Unit⊕(Fm×Pf×Int)->Option (Fm×Pf×Int)):dH (fa (λ(t:Int) (o:Tm) (_:Unit)=>dH n λb=>dH (iW o b) λa=>if(eR a 0) then fm (iR a) λc d i=>some (fp.ret (c,d,i))else some (.next ())) [f,h] 0 ()) k=k (.inl ()):=by
 subst hn;rw[eV,dI,Fi q j hs,dI,dK nz,dI,eQ,eV,dI,Fi r l hs,dI,dK nz,dI,eQ,oz,dI]
end
end Go.fP
set_option maxRecDepth 20000
set_option maxHeartbeats 2000000
namespace Go.fP
open Go
end Go.fP
namespace Go.fP
open Go
structure PfP (k j:Int) (u:Ty) (us:List Tm) (gs:List Fm) (ps:List Pf):Prop where
 s:u.aor<=64
 n:ps.length<=2
 i:0<=j
 ts:∀t∈us,t.ok=true
 fs:∀f∈gs,f.ok=true
 l:∀p∈ps,p.ok=true
 hyp:k=1->u=.z/\us=[]/\gs=[]/\ps=[]
def Pf.okP{k i:Int}{s:Ty}{ts:List Tm}{fs:List Fm}{l:List Pf}(h:(Pf.mk k i s ts fs l).ok=true):PfP k i s ts fs l:=by
 rw[Pf.gX] at h;simp only[gJ,kZ] at h;obtain⟨⟨⟨f,o⟩,q⟩,t⟩:=h;cases d:Pf.sig k with
 |none=>unfold Pf.node at f;rw[d] at f;cases f
 |some r=>
  obtain⟨A,ty,a,b,c⟩:=r;obtain⟨q1,u,v,w,B,x,j⟩:=X_ f d
  have y:c<=2/\(k=1->a=0/\b=0/\c=0/\ty=false):=by
   unfold Pf.sig at d
   repeat' split at d
   all_goals first
    |(cases d;done)
    |(simp only[w5,HL] at d
      obtain⟨rfl,rfl,rfl,rfl,rfl⟩:=d;refine⟨VW,λn=>?_⟩
      first|(refine⟨rfl,rfl,rfl,rfl⟩;done)|omega)
  refine⟨?_,VW,w,o,q,t,λn=>?_⟩
  .cases ty with
   |true=>exact fI (x rfl)|false=>rw[j rfl];decide
  .obtain⟨rfl,rfl,rfl,rfl⟩:=y.2 n;exact⟨j rfl,ux.1 q1,ux.1 u,ux.1 v⟩
def Pf.kQ(P:Pf):P.ok=true->P.wt<=65*P.aor:=by
 induction P using Pf.ind with
 |h k i s ts fs l ih=>
  intro d;have b:=Pf.okP d;rw[Pf.iE,Pf.dL];have j:=wk (f:=Tm.wt) (g:=Tm.aor) (c:=65) (l:=ts) λx a=>x.kQ (b.ts x a);have n:=wk (f:=Fm.wt) (g:=Fm.aor) (c:=65) (l:=fs) λx a=>x.kQ (b.fs x a);have o:=wk (f:=Pf.wt) (g:=Pf.aor) (c:=65) (l:=l) λx a=>ih x a (b.l x a);have:=b.s;omega
end Go.fP
set_option maxRecDepth 20000
set_option maxHeartbeats 2000000
namespace Go.fP
open Go
def CU{k i:Int}{s:Ty}{ts:List Tm}{fs:List Fm}{l:List Pf}(hn:Pf.node k i s ts.length fs.length l.length=true)(a:∀t∈ts,t.ok=true/\t.aor<=4096)(b:∀f∈fs,f.ok=true/\f.aor<=4096)(c:∀p∈l,p.ok=true/\p.small=true):(Pf.mk k i s ts fs l).ok=true/\(Pf.mk k i s ts fs l).small=true:=by
 rw[Pf.gX,Pf.Ej];simp only[gJ,kZ,XB,XW,oU];exact⟨⟨⟨⟨hn,λt h=>(a t h).1⟩,λf h=>(b f h).1⟩,λp h=>(c p h).1⟩,⟨λt h=>(a t h).2,λf h=>(b f h).2⟩,λp h=>(c p h).2⟩
def FA{P:Pf}(h:P.ok=true/\P.small=true)(hn:P.aor<=16384):P.err=0:=by
 unfold Pf.err;rw[dO h.1,dO ⟨h.2,hn⟩]
def DR{α:Type}{p:α->Prop}:∀x∈([]:List α),p x:=λx h=>by simp at h
def IA{α:Type}{p:α->Prop}{a:α}(h:p a):∀x∈[a],p x:=λx b=>by rw[Hf] at b;subst b;exact h
def rV{α:Type}{p:α->Prop}{a b:α}(h:p a)(d:p b):∀x∈[a,b],p x:=λx c=>by
 simp only[kX,ry,pM] at c;rcases c with rfl|rfl
 .exact h
 .exact d
def Ik(P:Pf):Prop:=(P.ok=true/\P.small=true)/\Ku P
def Okf(f:Fm):Prop:=f.ok=true/\f.aor<=4096
def Okt(t:Tm):Prop:=t.ok=true/\t.aor<=4096
def aam{t:Tm}(h:Okt t):Ik (DP t):=⟨CU rfl (IA h) DR DR,.refl (Tm.jx h.1 h.2)⟩
def Vn{i:Nat}:Ik (zt i):=⟨CU (by simp[Pf.node,Pf.sig,Ty.qN]) DR DR DR,.hyp VW⟩
def Z3{s:Fm}{t:Tm}{p:Pf}(h:Okf s)(a:Okt t)(b:Ik p):Ik (.mk 10 0 .z [t] [s] [p]):=⟨CU rfl (IA a) (IA h) (IA b.1),.ex rfl (Tm.jx a.1 a.2) (Fm.jx h.1 h.2) b.2⟩
def YW{f:Fm}{p q:Pf}(h:Okf f)(a:Ik p)(b:Ik q):Ik (xg f p q):=⟨CU rfl DR (IA h) (rV a.1 b.1),.subst (Fm.jx h.1 h.2) a.2 b.2⟩
def Vu{p q:Pf}(a:Ik p)(b:Ik q):Ik (BV p q):=⟨CU rfl DR DR (rV a.1 b.1),.opn rfl a.2 b.2⟩
def Is{t:Tm}{p:Pf}(h:Okt t)(a:Ik p):Ik (.mk 9 0 .z [t] [] [p]):=⟨CU rfl (IA h) DR (IA a.1),.Zx rfl (Tm.jx h.1 h.2) a.2⟩
def Vm{s:Ty}(hs:s.err=0){p:Pf}(h:Ik p):Ik (.mk 8 0 s [] [] [p]):=⟨CU (by simp[Pf.node,Pf.sig,hs]) DR DR (IA h.1),.all rfl hs h.2⟩
def okt{g:List Ty}{t:Tm}{s:Ty}(h:eg g t s)(hn:t.aor<=4000):Okt t:=⟨h.ok,VW⟩
def Um{g:List Ty}{t:Tm}(h:eg g t .nat)(hn:t.aor<=4000):Okf (qW t):=⟨(tz h).ok,by
 have:=Tm.kJ t 0 1
 simp only[Fm.dL,ee,this];rw[show v0.aor=1 from rfl];omega⟩
def agm{g:List Ty}{a b:Tm}(h:eg g a .nat)(c:eg g b .nat)(hn:a.aor+b.aor<=4000):Okf (oC a b):=⟨(jy.eq h c).ok,by simp only[Fm.dL,ee];omega⟩
def U0{g:List Ty}{s:Ty}(hs:s.err=0){t:Tm}(h:eg (g++[s]) t .nat)(hn:t.aor<=4000):Okf (.mk 4 s [] [qW t]):=⟨(jy.q (g:=g) (.inl rfl) hs (tz h)).ok,by
 have:=Tm.kJ t 0 1
 simp only[Fm.dL,ee,this];rw[show v0.aor=1 from rfl];omega⟩
def nv0:v0.aor=1:=rfl
def nv1:v1.aor=1:=rfl
def nv2:v2.aor=1:=rfl
def nv3:v3.aor=1:=rfl
def yQ{f:Fm}{P:Pf}(h:Okf f)(a:Ik P)(hn:P.aor<=16000):jO f P=some (f,P,0):=by
 have w:=f.kQ h.1;have b:=P.kQ a.1.1;have e:=h.2;rw[ac2 VW VW,dO ⟨Fm.jx h.1 h.2,FA a.1 VW⟩]
section
variable{b c f h:Tm}
def y8(a:eg [] f (.fn .nat .nat))(hn:f.aor<=1000):Okf (zv f)/\Ik (pN f)/\(pN f).aor<=16000:=by
 have t1:eg [.nat] (ef f v0) .nat:=.app (a.cls _) (jI (g:=[]))
 have n1:(ef f v0).aor<=4000:=by simp only[ef,Tm.dL,ee,nv0];omega
 exact⟨U0 (g:=[]) Ty.gC t1 n1,Vm Ty.gC (Z3 (Um t1 n1) (okt t1 n1) (aam (okt t1 n1))),by simp only[Pf.dL,Fm.dL,Tm.dL,Tm.kJ,ef,ee,nv0];omega⟩
def Kr(c:eg [] f (.fn .nat .nat))(b:eg [] h (.fn .nat .nat))(hn:f.aor<=900)(d:h.aor<=900){x y:Pf}(j:Ik x)(hy:Ik y)(l:x.aor<=3000)(o:y.aor<=3000):Okf (EA f h)/\Ik (z7 f x h y)/\(z7 f x h y).aor<=16000:=by
 have A:∀{g:List Ty} {x:Tm},eg g x .nat->eg g (ef h (ef f x)) .nat:=λk=>.app (b.cls _) (.app (c.cls _) k)
 have n1:∀{n:Tm},n.aor<=10->(ef h (ef f n)).aor<=4000:=λ{n} h=>by simp only[ef,Tm.dL,ee];omega
 have n2:∀{n:Tm},n.aor<=10->(ef h n).aor<=2000:=λ{n} h=>by simp only[ef,Tm.dL,ee];omega
 have a0:eg [.nat] v0 .nat:=jI (g:=[]);have a2:eg [.nat,.nat,.nat] v2 .nat:=U7 (g:=[]);have a1:eg [.nat,.nat] v1 .nat:=Be (g:=[]);have a:eg [.nat,.nat] v0 .nat:=jI (g:=[.nat]);refine⟨U0 (g:=[]) Ty.gC (A a0) (n1 aal),Vm Ty.gC (Vu (Is (okt a0 aal) j) (Vu (Is (okt a0 aal) hy) (Z3 (Um (A a2) (n1 aal)) (okt a0 aal) (YW (agm a1 (.app (b.cls _) a) ?_) (Vn (i:=1)) (Vn (i:=0)))))),?_⟩
 .have:=n2 (n:=v0) aal;rw[nv1];omega
 .simp only[Pf.dL,Fm.dL,Tm.dL,Tm.kJ,ef,Ut,NN,ee,nv0,nv1,nv2,nv3];omega
end
end Go.fP
set_option maxRecDepth 20000
set_option maxHeartbeats 2000000
namespace Go.fP
open Go
def GO{t:Tm}(hw:t.wt<=1000000)(steps:Int):∃p m e,mv t steps=some (p,m,e)/\kO t steps=some (p,m,e)/\p.wt<=1000000000:=by
 obtain⟨p,m,e,a,b⟩:=CZ hw steps;refine⟨p,m,e,?_,a,b⟩;rw[Fx VW,<-uT hw,a]
def SP{a b:Tm}(o:a.wt<=1000000)(u:b.wt<=1000000)(steps:Int):∃c,qP a b steps=some c/\ki a b steps=some c:=by
 unfold qP ki;rw[s6 VW,s6 (t:=b) VW,jQ VW,jQ (t:=b) VW];simp only[dI]
 by_cases d:eR a.err 0=true
 .rw[dO d,dO d];exact⟨_,rfl,rfl⟩
 .rw[dK d,dK d]
  by_cases h:eR b.err 0=true
  .rw[dO h,dO h];exact⟨_,rfl,rfl⟩
  .rw[dK h,dK h];obtain⟨r,v,w⟩:=Bl (a:=a) (b:=b) VW;rw[v,w];simp only[dI]
   by_cases i:r=true
   .rw[dO i,dO i];exact⟨_,rfl,rfl⟩
   .rw[dK i,dK i];obtain⟨p,m,e,x,y,A⟩:=GO o steps;obtain⟨q,n,f,q1,B,C⟩:=GO u steps;rw[x,y,q1,B];simp only[gw]
    by_cases j:eR e 0=true
    .rw[dO j,dO j];exact⟨_,rfl,rfl⟩
    .rw[dK j,dK j]
     by_cases k:eR f 0=true
     .rw[dO k,dO k];exact⟨_,rfl,rfl⟩
     .rw[dK k,dK k];obtain⟨s,s1,s2⟩:=Bl (a:=p) (b:=q) A;rw[s1,s2];simp only[dI]
      by_cases l:s=true
      .rw[dO l];exact⟨_,rfl,rfl⟩
      .rw[dK l];exact⟨_,rfl,rfl⟩
def Ga{α:Type}{E E':α->α->Option Int}{M:List α}:∀(l:List α) (i:Nat),(∀x∈l,∀y∈M,∃c,E x y=some c/\E' x y=some c)->i+l.length<=M.length->∃o,fa (λ(d:Int) (f:α)=>(λ(_:Unit)=>dH (dW M d) λb=>dH (E f b) λa=>if(eR a 0) then(some (.ret a))else(some ((.next ()):fp Unit Int)))) l i ()=some o/\fa (λ(d:Int) (f:α)=>(λ(_:Unit)=>dH (dW M d) λb=>dH (E' f b) λa=>if(eR a 0) then(some (.ret a))else(some ((.next ()):fp Unit Int)))) l i ()=some o
 |[],i,_,_=>⟨.inl (),abm,abm⟩|x::l,i,h,k=>by
  simp only[kY] at k;obtain⟨c,n,q⟩:=h x abm M[i] (Ek VW);rw[eV,eV,gS,pE VW];simp only[dI,n,q]
  by_cases j:eR c 0=true
  .rw[dO j];exact⟨.inr c,rfl,rfl⟩
  .rw[dK j];simp only[dI,eQ];exact Ga l (i+1) (λy hy=>h y (by simp[hy])) VW
def Uw:∀(n:Nat) (a b:Fm),a.wt<=n->a.wt<=1000000->b.wt<=1000000->a.ok=true->b.ok=true->∃c,mm n a b=some c/\jK n a b=some c:=by
 intro n
 induction n with
 |zero=>intro t b h;have:=t.kf;omega
 |succ n ih=>
  intro a b h C j w d;cases a with
  |mk k s ts l=>
  cases b with
  |mk k' D us m=>
   rw[Fm.iE] at h C j;have H:=Fm.p7 l;have F:=Tm.p7 ts;rw[mm,jK];simp only[Fm.ey,Fm.eD,Fm.ik,Fm.fx,dY,ei (l:=l) VW,ei (l:=ts) VW,dU,eW]
   by_cases f:k≠k'
   .rw[dO f,dO f];exact⟨11,rfl,rfl⟩
   .rw[dK f,dK f,qh VW,im VW];simp only[dI];have q:k=k':=yU.1 f;subst q;obtain⟨s1,s2⟩:=Fm.shape w d;obtain⟨_,I,ol⟩:=Fm.p_ w;obtain⟨_,G,v⟩:=Fm.p_ d;cases s.lj D with
    |false=>exact⟨11,rfl,rfl⟩|true=>
     obtain⟨o,A,k2⟩:=Ga (E:=λx y=>qP x y 1000) (E':=λx y=>ki x y 1000) (M:=us) ts 0 (λx i y hy=>SP (by have:=eu Tm.wt i;omega) (by have:=eu Tm.wt hy;omega) 1000) VW;simp only[eW] at A k2;rw[dK aal,dK aal,A,k2];cases o with
     |inr r=>exact⟨r,rfl,rfl⟩|inl u=>
      simp only[dI,ew];obtain⟨o,q1,B⟩:=Ga (E:=λx y=>mm n x y) (E':=λx y=>jK n x y) (M:=m) l 0 (λx i y hy=>ih x y (by have:=eu Fm.wt i;omega) (by have:=eu Fm.wt i;omega) (by have:=eu Fm.wt hy;omega) (ol x i) (v y hy)) VW;simp only[eW] at q1 B;rw[q1,B];cases o with
      |inr r=>exact⟨r,rfl,rfl⟩|inl u=>exact⟨0,rfl,rfl⟩
def wK{a b:Fm}(h:a.wt<=1000000000)(i:b.wt<=1000000000):∃c,lB a b=some c/\k4 a b=some c:=by
 unfold lB k4;rw[oh h,oh i,iz h,iz i];simp only[dI,eW]
 by_cases d:a.err≠0
 .rw[dO d,dO d];exact⟨_,rfl,rfl⟩
 .rw[dK d,dK d]
  by_cases f:b.err≠0
  .rw[dO f,dO f];exact⟨_,rfl,rfl⟩
  .rw[dK f,dK f];obtain⟨o1,n1⟩:=Fm.iK (yU.1 d);obtain⟨o2,n2⟩:=Fm.iK (yU.1 f);have l:=a.kQ o1;have n:=b.kQ o2;obtain⟨c,j,k⟩:=Uw FU a b (by rw[fl];omega) VW VW o1 o2;rw[j,k];exact⟨c,rfl,rfl⟩
def ac_{g d:List Ty}{a b:Fm}(f:Hg g a)(i:Hg d b)(k:g.length<=1000000)(l:d.length<=1000000)(h:rl a b):∃e,lB a b=some e/\(e=0\/pD e):=by
 have q:=f.wt;have r:=i.wt;obtain⟨c,n,o⟩:=wK (a:=a) (b:=b) VW VW;have j:=Oo (a:=a) (b:=b) VW VW;rw[o] at j;cases j;exact⟨_,n,UC f i k l h⟩
def Gj{g:List Ty}{a:Fm}(d:Hg g a)(f:g.length<=1000000):lB a a=some 0:=by
 have k:=d.wt;obtain⟨c,i,j⟩:=wK (a:=a) (b:=a) VW VW;have h:=Oo (a:=a) (b:=a) VW VW;rw[j] at h;cases h;rw[i,Ex d d f f,Fm.aai]
end Go.fP
set_option maxRecDepth 20000
set_option maxHeartbeats 400000
namespace Go.fP
open Go
abbrev kdR(n:Nat)(L:List Fm)(P:Pf)(p:dZ):Option (dQ×Int):=if eo P.aop 1 then jn L P p else(if eo P.aop 8 then kS n L P p else(if eo P.aop 9 then kW n L P p else(if eo P.aop 10 then lr n L P p else(if eo P.aop 11 then lu n L P p else(if eo P.aop 18 then kU L P p else(if eo P.aop 19 then kn n L P p else none))))))
def uo{L:List Fm}{P:Pf}{p:dZ}{n:Nat}{f:Fm}{u:Int}{g:List Ty}(c:kdR n L P p=some (⟨f,u⟩,0))(b:Hg g f)(hg:g.length<=16):eC (n+1) L P p=some (⟨f,if f.has then u else 0⟩,0):=by
 have w:=b.wt;have a:=c;unfold kdR at a;rw[eC,a,dP,dK nz,oh (by show f.wt<=_;omega),dI,b.err,dK nz,dY,E_ (by show f.wt<=_;omega) (b.aov hg VW),b.err,dK aal,dP];cases f.has<;>rfl
def Iu{g:List Ty}{s t:Tm}(hs:eg g s .nat)(a:eg g t .nat)(hn:s.aor+t.aor<=4000):Hg g (oC s t):=by
 have h:jy g (oC s t):=.eq hs a;exact⟨Fm.jx h.ok (by rw[Fm.dL];simp only[ee];omega),h⟩
def DN{g:List Ty}{t:Tm}(a:eg g t .nat)(hn:t.aor<=4000):Hg g (qW t):=by
 have o:=Um a hn;exact⟨Fm.jx o.1 o.2,tz a⟩
def alm{g:List Ty}{t:Tm}(a:eg g t .nat)(hn:t.aor<=2000)(b:jf g)(hg:g.length<=16){p:dZ}(c:p.aot=g.map pZ){L:List Fm}{n:Nat}:eC (n+1) L (DP t) p=some (⟨oC t t,0⟩,0):=by
 have h:=uo (L:=L) (P:=DP t) (p:=p) (n:=n) (f:=oC t t) (u:=0) (g:=g) (by
  show kU L (DP t) p=_;unfold kU;have d:qu t g 1=0:=F7 a b VW;rw[show dW (DP t).ek 0=some t from rfl,dI,c,yl a.ok b VW,d,dI,dK nz]
  rfl) (Iu a a VW) hg
 rw[h,show(oC t t).has=false from Fm.has_eq _ _ _];rfl
def PB{g b:List Ty}{X:Pf}{f F:Fm}{t:Tm}{c:Nat}{p:dZ}{L:List Fm}(i:∀n,eC (n+c) L X p=some (⟨F,0⟩,0))(d:Hg b f)(a:b.length<=16)(hF:Hg g F)(hg:g.length<=16){s:Ty}(h:eg g t s)(j:t.aor<=4000)(hi:Fm.gP 0 f t=F)(n:Nat):iG (n+c+1) L X p f t=some (⟨F,0⟩,0):=by
 have k:l9 f t=(F,0):=by
  unfold l9;rw[hi,dK (by have:=hF.aor;omega)]
 rw[iG,i,dP,dK nz,xI d.err (Tm.jx h.ok VW) (d.aov a VW) (h.aov _ VW),k,dP,dK nz];show dH (lB F F) _=_;rw[Gj hF VW,dI]
def ali{g:List Ty}{t:Tm}{s:Ty}(a:eg g t s)(d:t.aor<=2000)(hg:g.length<=16):∃m:Nat,oF t=some (m:Int)/\m<4294967296/\∀j:Nat,m.testBit j=true↔0<t.aox j:=by
 have b:∀j:Int,32<=j->t.aox j=0:=λj c=>a.Dp j VW;obtain⟨m,f1,f2,f3⟩:=J5 FU t 0 0 (by rw[fl];omega) VW a.ok (a.aov _ VW) VW VW aal (λj c=>by rw[ti];exact b j c);refine⟨m,?_,f2,λj=>by rw[f3];simp⟩;unfold oF sq;rw[show(0:Int)=((0:Nat):Int)from rfl] at*;rw[f1];rfl
def kex{g:List Ty}{s t:Tm}{X:Pf}{c m:Nat}(hs:eg g s .nat)(l:s.aor<=2000)(j:eg g t .nat)(o:t.aor<=2000)(k:jf g)(hg:g.length<=15){p:dZ}(q:p.aot=g.map pZ){L:List Fm}(r:∀n,eC (n+c) L X p=some (⟨oC t s,0⟩,0))(d:oF t=some (m:Int))(f2:m<4294967296)(n:Nat):eC (n+c+3) L (qX s t X) p=some (⟨qW s,(m:Int)⟩,0):=by
 have i:Hg g (qW s):=DN hs VW
 have v:Hg (g++[.nat]) (oC v0 (s.up 0 1)):=by
  have h:=X9 hs;have e:=Tm.kJ s 0 1;exact⟨Fm.jx h.ok (by rw[Fm.dL];simp only[ee,e];rw[show v0.aor=1 from rfl];omega),h⟩
 have h:=uo (L:=L) (P:=qX s t X) (p:=p) (n:=n+c+2) (f:=qW s) (u:=(m:Int)) (g:=g) (by
  show lr (n+c+1+1) L (qX s t X) p=_;rw[lr];have w:fK FU (g.map pZ) (qW s)=some ((qW s).zC g):=xc _ i.ok FU (by rw[fl];have:=i.aor;omega) g k (by have:=i.aor;omega) i.aor;have x:(qW s).zC g=0:=o0 (tz hs) k (by have:=i.aor;omega)
  have y:eU FU (g.map pZ) t=some (pZ .nat,0):=by
   rw[qS j.ok k VW,mo j k VW,q9]
  rw[show dW (qX s t X).gh 0=some (qW s)from rfl,dI,show dW (qX s t X).ek 0=some t from rfl,dI,dK (show¬eo (qX s t X).aop 14=true fromλh=>by cases h),q,w,dI,x,dK nz,dK (show¬eR (qW s).aop 5=true fromλh=>by cases h),y,dP,dK nz,show jF (pZ .nat) (qW s).dM=some true by kernel_rfl,dI,dO rfl,
   show dW (qX s t X).aoq 0=some X from rfl,dI,show dW (qW s).aoq 0=some (oC v0 (s.up 0 1))from rfl,dI,PB r v abv (Iu j hs VW) VW j VW (YL hs),dP,dK nz,d,dI]
  show some (dQ.mk (qW s) (F8 .u32 0 (m:Int)),(0:Int))=_;have:=NY (a:=0) (b:=m) VW f2
  rw[show(0:Int)=((0:Nat):Int)from rfl,this,Nat.zero_or]) i VW
 rw[h,show(qW s).has=true by rw[Fm.ug];rfl,dO rfl]
def V_{a k:Nat}(b:k<=32):aah .u32 (a:Int) (k:Int)=((a/2^k:Nat):Int):=by
 unfold aah;rw[show IntKind.u32.bits=32 from rfl,BS,YJ b];rw[show((2:Int)^k)=((2^k:Nat):Int) by push_cast;rfl];rw[Int.fdiv_eq_ediv_of_nonneg _ (ajV _)];rfl
def acR:lU 0=some []:=by decide+kernel
def amd(m:Nat):iC (m:Int) 1=some ((m/2:Nat):Int):=by
 unfold iC;have:=V_ (a:=m) (k:=1) VW;rw[show Ox 1=true by rfl,dU,show(1:Int)=((1:Nat):Int)from rfl,this]
def Q7{p:dZ}{g:List Ty}(a:p.aot=g.map pZ)(hg:g.length<=900000):ke p [.nat]=some ⟨⟨eH .i64 p.iA.vars 1,p.iA.aow⟩,(g++[Ty.nat]).map pZ,p.known⟩:=by
 unfold ke;rw[a,wN Ty.gC hg];rfl
def Ic(s:Tm):(qW s).has=true:=by rw[Fm.ug];rfl
def ajH{a:Pf}{F:Fm}{m c:Nat}{g:List Ty}{p:dZ}{L:List Fm}(i:p.aot=g.map pZ)(hg:g.length<=15)(hm:kg p.iA 1 0=some 0)(j:∀n,eC (n+c) L a ⟨⟨eH .i64 p.iA.vars 1,p.iA.aow⟩,(g++[Ty.nat]).map pZ,p.known⟩=some (⟨F,(m:Int)⟩,0))(hF:Hg g (.mk 4 .nat [] [F]))(k:m/2=0)(n:Nat):eC (n+c+2) L (.mk 8 0 .nat [] [] [a]) p=some (⟨.mk 4 .nat [] [F],0⟩,0):=by
 have h:=uo (L:=L) (P:=.mk 8 0 .nat [] [] [a]) (p:=p) (n:=n+c+1) (f:=.mk 4 .nat [] [F]) (u:=0) (g:=g) (by
  show kS (n+c+1) L (.mk 8 0 .nat [] [] [a]) p=_;rw[kS,hm,dI,dK nz,show dW (Pf.mk 8 0 .nat [] [] [a]).aoq 0=some a from rfl,dI,show(Pf.mk 8 0 .nat [] [] [a]).dM=Ty.nat from rfl,Q7 i VW,dI,j,dP,dK nz,dY,dK (show¬eo (Pf.mk 8 0 .nat [] [] [a]).aop 12=true fromλh=>by cases h)];show dH (pF 4 Ty.nat F) (λb=>dH (iC (m:Int) 1) λd=>some (dQ.mk b d,(0:Int)))=_
  rw[show pF 4 Ty.nat F=some (.mk 4 .nat [] [F])from rfl,dI,amd,dI,k];rfl) hF VW
 rw[h];split<;>rfl
def ah2{f:Tm}(d:eg [] f (.fn .nat .nat))(hn:f.aor<=1000){g:List Ty}(k:jf g)(hg:g.length<=14){p:dZ}(l:p.aot=g.map pZ)(hm:kg p.iA 1 0=some 0){L:List Fm}(n:Nat):eC (n+6) L (pN f) p=some (⟨zv f,0⟩,0):=by
 have b:eg (g++[.nat]) (ef f v0) .nat:=.app (d.cls _) jI;have h:eg ([]++[.nat]) (ef f v0) .nat:=.app (d.cls _) jI
 have a:(ef f v0).aor<=2000:=by simp only[ef,Tm.dL,ee];rw[show v0.aor=1 from rfl];omega
 obtain⟨o1,_,_⟩:=y8 d hn;have hF:Hg g (zv f):=⟨Fm.jx o1.1 o1.2,.q (.inl rfl) Ty.gC (tz b)⟩;obtain⟨m,o,r,s⟩:=ali b a abv
 have j:m/2=0:=by
  refine Nat.eq_of_testBit_eq λi=>?_;rw[Nat.testBit_div_two,Nat.zero_testBit,<-ags,s];have:(ef f v0).aox ((i+1:Nat):Int)=0:=h.Dp _ abv;omega
 exact ajH l VW hm (c:=4) (kex (p:=⟨⟨eH .i64 p.iA.vars 1,p.iA.aow⟩,(g++[Ty.nat]).map pZ,p.known⟩) (c:=1) (X:=DP (ef f v0)) b a b a k.nat abv rfl (L:=L) (λn=>alm b a k.nat abv rfl) o r) hF j n
def Vo:oF v0=some 1:=by decide+kernel
def kat{X:Pf}{B B':Fm}{c:Nat}{g:List Ty}(b:jf g)(hg:g.length<=14){p:dZ}(j:p.aot=(g++[Ty.nat]).map pZ){L:List Fm}(k:∀n,eC (n+c) L X p=some (⟨.mk 4 .nat [] [B],0⟩,0))(d:Hg (g++[.nat]++[.nat]) B)(hi:Fm.gP 0 B v0=B')(a:Hg (g++[.nat]) B')(l:B'.has=true)(n:Nat):eC (n+c+3) L (.mk 9 0 .z [v0] [] [X]) p=some (⟨B',1⟩,0):=by
 have i:eg (g++[.nat]) v0 .nat:=jI
 have o:l9 B v0=(B',0):=by
  unfold l9;rw[hi,dK (by have:=a.aor;omega)]
 have q:eU FU ((g++[Ty.nat]).map pZ) v0=some (pZ .nat,0):=by
  rw[qS i.ok b.nat (by simp;rw[show v0.aor=1 from rfl];omega),mo i b.nat (by simp;rw[show v0.aor=1 from rfl];omega),q9]
 have hs:gD (n+c+1) L X p 4=some (⟨.mk 4 .nat [] [B],0⟩,0):=by
  rw[gD,k,dP];rfl
 have h:=uo (L:=L) (P:=.mk 9 0 .z [v0] [] [X]) (p:=p) (n:=n+c+2) (f:=B') (u:=1) (g:=g++[.nat]) (by
  show kW (n+c+1+1) L (.mk 9 0 .z [v0] [] [X]) p=_;rw[kW,show dW (Pf.mk 9 0 .z [v0] [] [X]).ek 0=some v0 from rfl,dI,j,q,dP,dK nz,Vo,dI,show dW (Pf.mk 9 0 .z [v0] [] [X]).aoq 0=some X from rfl,dI,show(fq (eo (Pf.mk 9 0 .z [v0] [] [X]).aop 13) 6 4:Int)=4 from rfl,hs,dP,dK nz];show dH (jF (pZ .nat) Ty.nat) _=_;rw[show jF (pZ .nat) Ty.nat=some true by kernel_rfl,dI,dO rfl];show dH (some B) _=_;rw[dI,xI d.err aal (d.aov abv VW) aal,o,dP];show some (dQ.mk B' (F8 .u32 0 1),(0:Int))=_
  rw[show F8 .u32 0 1=1 by kernel_rfl]) a abv
 rw[h,l,dO rfl]
def aeW{a b:Pf}{A F F':Fm}{c:Nat}{g:List Ty}{p:dZ}{L:List Fm}(k:p.aot=g.map pZ)(hg:g.length<=14)(s:p.known.length<=16)(hm:kg p.iA 1 1=some 0)(l:∀n,eC (n+c) L a p=some (⟨.mk 5 .nat [] [A],1⟩,0))
  (o:∀n,eC (n+c) L b ⟨⟨eH .i64 p.iA.vars 1,eH .i64 p.iA.aow 1⟩,(g++[Ty.nat]).map pZ,p.known++[⟨A,eH .i64 p.iA.vars 1⟩]⟩=some (⟨F,1⟩,0)) (hF:Hg (g++[.nat]) F) (j:F.aox 0=0) (q:F.up 1 (-1)=F') (d:Hg g F') (r:F'.has=true) (n:Nat):eC (n+c+3) L (BV a b) p=some (⟨F',1⟩,0):=by
 have hs:gD (n+c+1) L a p 5=some (⟨.mk 5 .nat [] [A],1⟩,0):=by
  rw[gD,l,dP];rfl
 have hw:oy F=some (F',0):=by
  have:=hF.aor;unfold oy;rw[uB hF.ok VW (hF.aov abv VW) VW VW,j,dI,dO abE,AK hF.ok VW (hF.aov abv VW) j,q,dI]
 have i:lR ⟨⟨eH .i64 p.iA.vars 1,p.iA.aow⟩,(g++[Ty.nat]).map pZ,p.known⟩ A=some ⟨⟨eH .i64 p.iA.vars 1,eH .i64 p.iA.aow 1⟩,(g++[Ty.nat]).map pZ,p.known++[⟨A,eH .i64 p.iA.vars 1⟩]⟩:=by
  unfold lR;rw[fk (by show p.known.length+1<=_;omega),dU];rfl
 have h:=uo (L:=L) (P:=BV a b) (p:=p) (n:=n+c+2) (f:=F') (u:=1) (g:=g) (by
  show lu (n+c+1+1) L (BV a b) p=_;rw[lu,show dW (BV a b).aoq 0=some a from rfl,dI,show(fq (eo (BV a b).aop 15) 7 5:Int)=5 from rfl,hs,dP,dK nz,hm,dI,dK nz,show dW (BV a b).aoq 1=some b from rfl,dI];show dH (ke p [Ty.nat]) _=_;rw[Q7 k VW,dI];show dH (some A) _=_;rw[dI,i,dI,show n+c+1=n+1+c by omega,o,dP,dK nz];show dR (oy F) _=_;rw[hw,dP,dK nz,dK (show¬fq (eo (BV a b).aop 15) (eR (um .u32 1 1) 0) false=true fromλh=>by cases h),show iC 1 1=some 0 by kernel_rfl,dI];show some (dQ.mk F' (F8 .u32 1 0),(0:Int))=_
  rw[show F8 .u32 1 0=1 by kernel_rfl]) d VW
 rw[h,r,dO rfl]
abbrev kP0:dZ:=⟨⟨0,0⟩,List.map pZ [],[]⟩
abbrev kP1:dZ:=⟨⟨eH .i64 0 1,0⟩,([]++[Ty.nat]).map pZ,[]⟩
abbrev kP2(A:Fm):dZ:=⟨⟨eH .i64 (eH .i64 0 1) 1,eH .i64 0 1⟩,([]++[Ty.nat]++[Ty.nat]).map pZ,[]++[⟨A,eH .i64 (eH .i64 0 1) 1⟩]⟩
abbrev VP(A B:Fm):dZ:=⟨⟨eH .i64 (eH .i64 (eH .i64 0 1) 1) 1,eH .i64 (eH .i64 0 1) 1⟩,([]++[Ty.nat]++[Ty.nat]++[Ty.nat]).map pZ,[]++[⟨A,eH .i64 (eH .i64 0 1) 1⟩]++[⟨B,eH .i64 (eH .i64 (eH .i64 0 1) 1) 1⟩]⟩
def akT{A B:Fm}{g:List Ty}(a:Hg g A)(hg:g.length<=16)(hu:Hg [.nat,.nat,.nat] (A.up 0 1))(b:(A.up 0 1).has=false){L:List Fm}(n:Nat):eC (n+1) L (zt 1) (VP A B)=some (⟨A.up 0 1,0⟩,0):=by
 have hn:=a.aor
 have h:=uo (L:=L) (P:=zt 1) (p:=VP A B) (n:=n) (f:=A.up 0 1) (u:=0) (g:=[.nat,.nat,.nat]) (by
  show jn L (zt 1) (VP A B)=_;unfold jn;rw[show ow (VP A B) (zt 1).aos=dH (lk A 0 1) λc=>some (c,true) by kernel_rfl,uX a.ok VW (a.aov hg VW) VW VW VW VW,dI,dP]
  rfl) hu abm
 rw[h,b];rfl
def akP{A B:Fm}(a:Hg [.nat,.nat,.nat] B)(b:B.has=false){L:List Fm}(n:Nat):eC (n+1) L (zt 0) (VP A B)=some (⟨B,0⟩,0):=by
 have hn:=a.aor
 have h:=uo (L:=L) (P:=zt 0) (p:=VP A B) (n:=n) (f:=B) (u:=0) (g:=[.nat,.nat,.nat]) (by
  show jn L (zt 0) (VP A B)=_;unfold jn;rw[show ow (VP A B) (zt 0).aos=dH (lk B 0 0) λc=>some (c,true) by kernel_rfl,uX a.ok VW (a.aov abm VW) VW VW VW VW,Fm.Ee,dI,dP]
  rfl) a abm
 rw[h,b];rfl
def NZ(a b:Tm):(oC a b).has=false:=Fm.has_eq _ _ _
def agO:jf [.nat,.nat,.nat]:=λs hs=>by
 simp at hs;subst hs;exact Ty.gC
def am4{f h:Tm}(l:eg [] f (.fn .nat .nat))(o:eg [] h (.fn .nat .nat))(R:f.aor<=900)(S:h.aor<=900){L:List Fm}(n:Nat):eC (n+30) L (z7 f (pN f) h (pN h)) kP0=some (⟨EA f h,0⟩,0):=by
 have F:=l.cl;have G:=o.cl;have A:∀{g:List Ty} {x:Tm},eg g x .nat->eg g (ef f x) .nat:=λh=>.app (l.cls _) h;have C:∀{g:List Ty} {x:Tm},eg g x .nat->eg g (ef h x) .nat:=λh=>.app (o.cls _) h;have r:eg [.nat,.nat,.nat] v0 .nat:=jI (g:=[.nat,.nat]);have t:eg [.nat,.nat,.nat] v1 .nat:=Be (g:=[.nat]);have k2:eg [.nat,.nat,.nat] v2 .nat:=U7 (g:=[]);have w:eg [.nat,.nat] v0 .nat:=jI (g:=[.nat]);have D:eg [.nat,.nat] v1 .nat:=Be (g:=[]);have i0:eg [.nat] v0 .nat:=jI (g:=[]);have nv0:v0.aor=1:=rfl;have nv1:v1.aor=1:=rfl;have nv2:v2.aor=1:=rfl
 have a:∀{x y:Tm},(ef x y).aor=1+(x.aor+y.aor):=λ{x y}=>by simp only[ef,Tm.dL,ee];omega
 have H:jf []:=λs hs=>by simp at hs
 have O:∀{k:Tm},Cl k->Fm.gP 0 (qW (ef k v0)) v0=qW (ef k v0):=λ{k} K=>by
  simp[Fm.fN,Tm.fE,Tm.fN,v0,Tm.lz,eT,qB,i_,K.up,K.gP,ef]
 have T:∀{k:Tm},Cl k->(ef k v0).up 0 1=ef k v1:=λ{k} K=>by
  simp[Tm.fE,v0,v1,eT,K.up,ef]
 have U:Fm.gP 0 (oC v1 (ef h v0)) v1=oC v0 (ef h v1):=by
  simp[Fm.fN,Tm.fN,v0,v1,Tm.lz,eT,G.gP,ef,rS]
 have V:Fm.gP 0 (oC v1 (ef h v0)) (ef f v2)=oC v0 (ef h (ef f v2)):=by
  simp[Fm.fN,Tm.fN,v0,v1,v2,Tm.lz,eT,G.gP,ef,rS]
 have I:(oC v0 (ef f v1)).up 0 1=oC v1 (ef f v2):=by
  simp[Fm.fE,Tm.fE,v0,v1,v2,eT,qB,i_,F.up,ef]
 have W:jy ([.nat,.nat,.nat]++[.nat]) (oC v1 (ef h v0)):=.eq (Be (g:=[Ty.nat,.nat])) (C jI);have b:Hg ([.nat,.nat,.nat]++[.nat]) (oC v1 (ef h v0)):=Iu (Be (g:=[Ty.nat,.nat])) (C jI) (by rw[a];omega);have J:Hg [.nat,.nat] (oC v0 (ef f v1)):=Iu w (A D) (by rw[a];omega);have d:Hg [.nat,.nat,.nat] (oC v0 (ef h v1)):=Iu r (C t) (by rw[a];omega);have M:Hg [.nat,.nat,.nat] (oC v1 (ef f v2)):=Iu t (A k2) (by rw[a];omega);have i:Hg [.nat,.nat,.nat] (oC v0 (ef h (ef f v2))):=Iu r (C (A k2)) (by rw[a,a];omega)
 have Z:∀n,eC (n+4) L (xg (oC v1 (ef h v0)) (zt 1) (zt 0)) (VP (oC v0 (ef f v1)) (oC v0 (ef h v1)))=some (⟨oC v0 (ef h (ef f v2)),0⟩,0):=λn=>by
  have q1:=akT (A:=oC v0 (ef f v1)) (B:=oC v0 (ef h v1)) J abm (by rw[I];exact M) (by rw[I];exact NZ _ _) (L:=L);rw[I] at q1;have q0:=akP (A:=oC v0 (ef f v1)) d (NZ _ _) (L:=L)
  have hs:gD (n+2) L (zt 1) (VP (oC v0 (ef f v1)) (oC v0 (ef h v1))) 1=some (⟨oC v1 (ef f v2),0⟩,0):=by
   rw[gD,q1,dP];rfl
  have hq:l9 (oC v1 (ef h v0)) (ef f v2)=(oC v0 (ef h (ef f v2)),0):=by
   unfold l9;rw[V,dK (by have:=i.aor;omega)]
  have hF:fK FU (([Ty.nat,.nat,.nat]++[Ty.nat]).map pZ) (oC v1 (ef h v0))=some 0:=by
   rw[xc _ b.ok FU (by rw[fl];have:=b.aor;omega) _ agO.nat (by have:=b.aor;simp only[oV,kY,wZ];omega) b.aor,o0 W agO.nat (by have:=b.aor;simp only[oV,kY,wZ];omega)]
  have h:=uo (L:=L) (P:=xg (oC v1 (ef h v0)) (zt 1) (zt 0)) (p:=VP (oC v0 (ef f v1)) (oC v0 (ef h v1))) (n:=n+3) (f:=oC v0 (ef h (ef f v2))) (u:=0) (g:=[.nat,.nat,.nat]) (by
   show kn (n+2+1) L (xg (oC v1 (ef h v0)) (zt 1) (zt 0)) (VP (oC v0 (ef f v1)) (oC v0 (ef h v1)))=_;rw[kn,show dW (xg (oC v1 (ef h v0)) (zt 1) (zt 0)).gh 0=some (oC v1 (ef h v0))from rfl,dI,show ot=some .nat from rfl,dI,show(VP (oC v0 (ef f v1)) (oC v0 (ef h v1))).aot=List.map pZ [Ty.nat,.nat,.nat] from rfl,wN Ty.gC abm,dI,hF,dI,dK nz,show dW (xg (oC v1 (ef h v0)) (zt 1) (zt 0)).aoq 0=some (zt 1)from rfl,dI,hs,dP,dK nz,show dW (xg (oC v1 (ef h v0)) (zt 1) (zt 0)).aoq 1=some (zt 0)from rfl,dI];show dH (some v1) _=_;rw[dI,show n+2=n+1+1 from rfl,PB q0 b abm d abm t VW U n,dP,dK nz];show dH (some (ef f v2)) _=_
   rw[dI,xI b.err (Tm.jx (A k2).ok (by rw[a];omega)) (b.aov abm VW) ((A k2).aov _ (by rw[a];simp;omega)),hq,dP]) i abm
  rw[h,NZ];rfl
 have kl:∀n,eC (n+7) L (qX (ef h (ef f v2)) v0 (xg (oC v1 (ef h v0)) (zt 1) (zt 0))) (VP (oC v0 (ef f v1)) (oC v0 (ef h v1)))=some (⟨qW (ef h (ef f v2)),1⟩,0):=λn=>
  kex (c:=4) (m:=1) (C (A k2)) (by rw[a,a];omega) r VW agO abm rfl Z Vo VW n
 have z3:∀{x y:Tm} (u v:Tm),Cl x->Cl y->u.up 1 (-1)=v->(u.up 0 1).up 2 (-1)=v.up 0 1->(qW (ef y (ef x u))).up 1 (-1)=qW (ef y (ef x v)):=λ{x y} u v X Y h1 h2=>by
  simp[Fm.fE,Tm.fE,v0,eT,qB,i_,X.up,Y.up,ef,h2]
 have d2:(qW (ef h (ef f v2))).up 1 (-1)=qW (ef h (ef f v1)):=z3 v2 v1 F G (by simp[v1,v2,Tm.fE]) (by simp[v1,v2,Tm.fE]);have d1:(qW (ef h (ef f v1))).up 1 (-1)=qW (ef h (ef f v0)):=z3 v1 v0 F G (by simp[v0,v1,Tm.fE]) (by simp[v0,v1,Tm.fE])
 have u2:(qW (ef h (ef f v1))).up 0 1=qW (ef h (ef f v2)):=by
  simp[Fm.fE,Tm.fE,v0,v1,v2,eT,qB,i_,F.up,G.up,ef]
 have u1:(qW (ef h (ef f v0))).up 0 1=qW (ef h (ef f v1)):=by
  simp[Fm.fE,Tm.fE,v0,v1,eT,qB,i_,F.up,G.up,ef]
 have t2:(qW (ef h (ef f v2))).aox 0=0:=by rw[<-u2];exact Fm.yx _ 0 1 0 VW VW
 have t1:(qW (ef h (ef f v1))).aox 0=0:=by rw[<-u1];exact Fm.yx _ 0 1 0 VW VW
 have j:∀{k:Tm},eg [] k (.fn .nat .nat)->qW (ef k v0)=.mk 5 .nat [] [oC v0 (ef k v1)]:=λ{k} hk=>by rw[qW,T hk.cl]
 have b2:∀n,eC (n+9) L (.mk 9 0 .z [v0] [] [pN h]) (kP2 (oC v0 (ef f v1)))=some (⟨.mk 5 .nat [] [oC v0 (ef h v1)],1⟩,0):=λn=>by
  rw[<-j o];have Q:jf [Ty.nat]:=H.nat;exact kat (c:=6) (g:=[.nat]) Q abm (p:=kP2 (oC v0 (ef f v1))) rfl (λn=>ah2 o VW (g:=[.nat,.nat]) Q.nat abm rfl (by kernel_rfl) n) (DN (C r) (by rw[a];omega)) (O G) (DN (C w) (by rw[a];omega)) (Ic _) n
 have o2:∀n,eC (n+12) L (BV (.mk 9 0 .z [v0] [] [pN h]) (qX (ef h (ef f v2)) v0 (xg (oC v1 (ef h v0)) (zt 1) (zt 0)))) (kP2 (oC v0 (ef f v1)))=some (⟨qW (ef h (ef f v1)),1⟩,0):=λn=>
  aeW (c:=9) (g:=[.nat,.nat]) (p:=kP2 (oC v0 (ef f v1))) rfl abm abm (by kernel_rfl) b2 (λn=>kl (n+2)) (DN (C (A k2)) (by rw[a,a];omega)) t2 d2 (DN (C (A D)) (by rw[a,a];omega)) (Ic _) n
 have b1:∀n,eC (n+12) L (.mk 9 0 .z [v0] [] [pN f]) kP1=some (⟨.mk 5 .nat [] [oC v0 (ef f v1)],1⟩,0):=λn=>by
  rw[<-j l];exact kat (c:=6) (g:=[]) H abm (p:=kP1) rfl (λn=>ah2 l VW (g:=[.nat]) H.nat abm rfl (by kernel_rfl) n) (DN (A w) (by rw[a];omega)) (O F) (DN (A i0) (by rw[a];omega)) (Ic _) (n+3)
 have o1:∀n,eC (n+15) L (BV (.mk 9 0 .z [v0] [] [pN f]) (BV (.mk 9 0 .z [v0] [] [pN h]) (qX (ef h (ef f v2)) v0 (xg (oC v1 (ef h v0)) (zt 1) (zt 0))))) kP1=some (⟨qW (ef h (ef f v0)),1⟩,0):=λn=>
  aeW (c:=12) (g:=[.nat]) (p:=kP1) rfl abm abm (by kernel_rfl) b1 o2 (DN (C (A D)) (by rw[a,a];omega)) t1 d1 (DN (C (A i0)) (by rw[a,a];omega)) (Ic _) n
 have N:Hg [] (EA f h):=by
  have this:jy ([]++[Ty.nat]) (qW (ef h (ef f v0))):=tz (C (A i0));have this:jy [] (EA f h):=.q (.inl rfl) Ty.gC this;refine⟨Fm.jx this.ok ?_,this⟩;have e:=Tm.kJ (ef h (ef f v0)) 0 1;simp only[Fm.dL,ee,e,a];omega
 exact ajH (c:=15) (m:=1) (g:=[]) (p:=kP0) rfl abm (by kernel_rfl) o1 N aal (n+13)
end Go.fP
namespace Go.fP
open Go
inductive EZ
 |n|l|u|p (a b:EZ)|f (a b:EZ)
def EZ.D:EZ->Type
 |.n=>Nat|.l=>List Nat|.u=>Unit|.p a b=>a.D×b.D|.f a b=>a.D->b.D
def EZ.dft:(s:EZ)->s.D
 |.n=>(0:Nat)|.l=>([]:List Nat)|.u=>()|.p a b=>(a.dft,b.dft)|.f _ b=>λ_=>b.dft
structure Vw where
 s:EZ
 d:s.D
def Vw.no:Vw:=⟨.u,()⟩
noncomputable def Vw.at (v:Vw) (s:EZ):s.D:=@dite _ (v.s=s) (Classical.propDecidable _) (λh=>h▸v.d) (λ_=>s.dft)
def Vw.GU(s:EZ)(d:s.D):(Vw.mk s d).at s=d:=by unfold Vw.at;rw[dif_pos rfl]
def Vw.eta{v:Vw}{s:EZ}(h:v.s=s):(⟨s,v.at s⟩:Vw)=v:=by
 subst h;cases v;rw[Vw.GU]
def Mi(k:Int):List EZ->EZ
 |[a,b]=>if k=3 then .p a b else .f a b|_=>if k=1 then .n else if k=2 then .l else .u
mutual
def Ty.S:Ty->EZ
 |.mk k l=>Mi k (Ty.SL l)
def Ty.SL:List Ty->List EZ
 |[]=>[]|t::l=>t.S::Ty.SL l
end
def wo:Ty.nat.S=.n:=by unfold Ty.nat;simp[Ty.S,Ty.SL,Mi]
def P3:Ty.uK.S=.l:=by unfold Ty.uK;simp[Ty.S,Ty.SL,Mi]
def ahb:Ty.unit.S=.u:=by unfold Ty.unit;simp[Ty.S,Ty.SL,Mi]
def BY(a b:Ty):(Ty.fn a b).S=.f a.S b.S:=by unfold Ty.fn;simp[Ty.S,Ty.SL,Mi]
def aaQ(a b:Ty):(Ty.pr a b).S=.p a.S b.S:=by unfold Ty.pr;simp[Ty.S,Ty.SL,Mi]
noncomputable def aib (s:EZ) (φ:s.D->Vw):Vw:=⟨.f s (φ s.dft).s,λx=>(φ x).at (φ s.dft).s⟩
noncomputable def mU (f a:Vw):Vw:=match f with
 |⟨.f s t,φ⟩=>⟨t,φ (a.at s)⟩
 |_=>.no
noncomputable def Uv (b s:Vw):Nat->Vw
 |0=>b|k+1=>mU (mU s ⟨.n,k⟩) (Uv b s k)
noncomputable def IJ (b s:Vw):List Nat->Vw
 |[]=>b|h::t=>mU (mU (mU s ⟨.n,h⟩) ⟨.l,t⟩) (IJ b s t)
def ahY(v:Vw):Vw:=match v with
 |⟨.p a _,x⟩=>⟨a,x.1⟩|_=>.no
def aht(v:Vw):Vw:=match v with
 |⟨.p _ b,x⟩=>⟨b,x.2⟩|_=>.no
noncomputable def Dz (v:Vw):Nat:=v.at .n
noncomputable def NF (v:Vw):List Nat:=v.at .l
noncomputable def opV (k:Int):List Vw->Vw
 |[]=>if k=4 then⟨.n,(0:Nat)⟩else if k=7 then⟨.l,([]:List Nat)⟩else⟨.u,()⟩|[a]=>if k=5 then⟨.n,Dz a+1⟩else if k=11 then ahY a else aht a|[a,b]=>if k=3 then mU a b else if k=8 then⟨.l,Dz a::NF b⟩else⟨.p a.s b.s,(a.d,b.d)⟩|a::b::c::_=>if k=6 then Uv a b (Dz c)else IJ a b (NF c)
def ae5:List Vw->Vw
 |[]=>.no|v::_=>v
mutual
noncomputable def Tm.val:Tm->List Vw->Vw
 |.mk k i s l,ρ=>if k=1 then(ρ.reverse[i.toNat]?).getD .no else if k=2 then aib s.S λx=>Tm.adF l (ρ++[⟨s.S,x⟩])else opV k (Tm.YV l ρ)
noncomputable def Tm.adF:List Tm->List Vw->Vw
 |[],_=>.no|t::_,ρ=>t.val ρ
noncomputable def Tm.YV:List Tm->List Vw->List Vw
 |[],_=>[]|t::l,ρ=>t.val ρ::Tm.YV l ρ
end
def adb:∀(l:List Tm) (ρ:List Vw),Tm.adF l ρ=ae5 (l.map λt=>t.val ρ)
 |[],_=>by rw[Tm.adF];rfl|t::l,ρ=>by rw[Tm.adF];rfl
def Vp:∀(l:List Tm) (ρ:List Vw),Tm.YV l ρ=l.map λt=>t.val ρ
 |[],_=>by rw[Tm.YV];rfl|t::l,ρ=>by rw[Tm.YV,Vp l];rfl
def Tm.val_mk(k i:Int)(s:Ty)(l:List Tm)(ρ:List Vw):(Tm.mk k i s l).val ρ=if k=1 then(ρ.reverse[i.toNat]?).getD .no else if k=2 then aib s.S λx=>ae5 (l.map λt=>t.val (ρ++[⟨s.S,x⟩]))else opV k (l.map λt=>t.val ρ):=by
 rw[Tm.val,Vp];simp only[adb]
def adz{k:Int}(h:k≠2):eT k=0:=by unfold eT;rw[dK h]
def aik(t:Tm):∀ρ1 e ρ2:List Vw,t.ok=true->(t.up ρ2.length e.length).val (ρ1++e++ρ2)=t.val (ρ1++ρ2):=by
 induction t using Tm.ind with
 |h k i s l ih=>
  intro ρ1 e ρ2 b;have hi:=(Tm.lM b).2.1;rw[Tm.fE,Tm.val_mk,Tm.val_mk]
  by_cases c:k=1
  .subst c;rw[dO rfl,dO rfl]
   congr 1
   rw[ag0,ag0,ag0]
   by_cases d:(ρ2.length:Int)<=i
   .rw[dO ⟨rfl,d⟩,tS abv,tS abv,tS abv]
    congr 1
    simp;omega
   .rw[dK (λh=>d h.2),uJ abv,uJ abv]
  .rw[dK c,dK c]
   by_cases a:k=2
   .subst a;rw[dO rfl,dO rfl]
    congr 1
    funext x
    rw[F6]
    congr 1
    refine th λy hy=>?_;have:=ih y hy ρ1 e (ρ2++[⟨s.S,x⟩]) (Tm.ez b y hy);rw[show(((ρ2++[(⟨s.S,x⟩:Vw)]).length:Nat):Int)=(ρ2.length:Int)+eT 2 by simp[show eT 2=1 from rfl],<-tv,<-tv] at this;exact this
   .rw[dK a,dK a,adz a,ti,F6]
    congr 1
    exact th λy hy=>ih y hy ρ1 e ρ2 (Tm.ez b y hy)
def YY(t:Tm)(ρ e:List Vw)(a:t.ok=true):(t.up 0 e.length).val (ρ++e)=t.val ρ:=by
 have:=aik t ρ e [] a;simpa using this
def zJ(ρ:List Vw)(g:List Ty):Prop:=ρ.map Vw.s=g.map Ty.S
def zJ.app{ρ:List Vw}{g:List Ty}(h:zJ ρ g){v:Vw}{s:Ty}(a:v.s=s.S):zJ (ρ++[v]) (g++[s]):=by
 unfold zJ at*;rw[ahx,ahx,h];simp[a]
def Ju{v:Vw}{a b:EZ}(h:v.s=.f a b):∃φ:a.D->b.D,v=⟨.f a b,φ⟩:=by
 cases v with
 |mk s d=>simp only at h;subst h;exact⟨d,rfl⟩
def H5{v:Vw}{a b:EZ}(h:v.s=.p a b):∃(x:a.D) (y:b.D),v=⟨.p a b,(x,y)⟩:=by
 cases v with
 |mk s d=>simp only at h;subst h;exact⟨d.1,d.2,rfl⟩
def zO{f a:Vw}{s t:EZ}(h:f.s=.f s t):(mU f a).s=t:=by
 obtain⟨φ,rfl⟩:=Ju h;rfl
def oT{g:List Ty}{x:Tm}{t:Ty}(h:eg g x t):∀ρ:List Vw,zJ ρ g->(x.val ρ).s=t.S:=by
 induction h with
 |@var g t i hi hg=>
  intro ρ he
  have q:ρ.length=g.length:=by have:=congrArg List.length he;simpa using this
  rw[Tm.val_mk,dO rfl,show((i:Nat):Int).toNat=i from rfl,ahn VW,q]
  have l:(ρ.map Vw.s)[g.length-1-i]?=(g.map Ty.S)[g.length-1-i]?:=by rw[he]
  rw[y',y',hg] at l;cases j:ρ[g.length-1-i]?with
  |none=>rw[j] at l;cases l
  |some v=>rw[j] at l;exact hU l
 |@lam g s b t hs _ ih=>
  intro ρ he;rw[Tm.val_mk,dK aal,dO rfl,BY];show EZ.f s.S _=_
  congr 1
  exact ih _ (he.app rfl)
 |app _ _ c d=>
  intro ρ he;rw[Tm.val_mk,dK aal,dK aal];exact zO (by rw[<-BY];exact c ρ he)
 |zero=>intro ρ _;rw[Tm.val_mk,dK aal,dK aal,wo];rfl|succ _ _=>intro ρ _;rw[Tm.val_mk,dK aal,dK aal,wo];rfl|@sF g t b s n _ _ _ _ c d o=>
  intro ρ he;rw[Tm.val_mk,dK aal,dK aal];show(Uv (b.val ρ) (s.val ρ) _).s=_;have j:=d ρ he;rw[BY,BY] at j;generalize Dz (n.val ρ)=k
  induction k with
  |zero=>exact c ρ he|succ k _=>exact zO (zO j)
 |nil=>intro ρ _;rw[Tm.val_mk,dK aal,dK aal,P3];rfl|cons _ _ _ _=>intro ρ _;rw[Tm.val_mk,dK aal,dK aal,P3];rfl|@fold g t b s n _ _ _ _ c d o=>
  intro ρ he;rw[Tm.val_mk,dK aal,dK aal];show(IJ (b.val ρ) (s.val ρ) _).s=_;have j:=d ρ he;rw[BY,BY,BY] at j;generalize NF (n.val ρ)=k
  induction k with
  |nil=>exact c ρ he|cons h k _=>exact zO (zO (zO j))
 |pair _ _ _ c d=>
  intro ρ he;rw[Tm.val_mk,dK aal,dK aal,aaQ,<-c ρ he,<-d ρ he];rfl
 |@fst g a s t _ ih=>
  intro ρ he;rw[Tm.val_mk,dK aal,dK aal];show(ahY (a.val ρ)).s=_;obtain⟨x,y,e⟩:=H5 (v:=a.val ρ) (by rw[<-aaQ];exact ih ρ he);rw[e];rfl
 |@snd g a s t _ ih=>
  intro ρ he;rw[Tm.val_mk,dK aal,dK aal];show(aht (a.val ρ)).s=_;obtain⟨x,y,e⟩:=H5 (v:=a.val ρ) (by rw[<-aaQ];exact ih ρ he);rw[e];rfl
 |unit=>intro ρ _;rw[Tm.val_mk,dK aal,dK aal,ahb];rfl
def aa1{s:EZ}{φ:s.D->Vw}{a:Vw}(b:a.s=s)(h:∀x,(φ x).s=(φ s.dft).s):mU (aib s φ) a=φ (a.at s):=Vw.eta (h _)
end Go.fP
set_option maxRecDepth 20000
set_option maxHeartbeats 2000000
namespace Go.fP
open Go
abbrev uY:=dJ
abbrev VB:=d_
abbrev zRs:uY:=.mk 0 [] [] (Tm.mk 0 0 (Ty.mk 0 []) []) []
abbrev mc(M u:Nat)(o:Bool):VB:=⟨(u:Int),(M:Int),o⟩
def Oc(M:Nat)(o:Option (uY×VB))(u B:Nat)(K:uY->Nat->Prop):Prop:=∃r a out,o=some (r,mc M a out)/\u<=a/\a<=M/\(out=false->u<a/\K r (B+(a-u)))
def Rnm(d:Nat)(r:uY)(B:Nat):Prop:=r.num=(d:Int)/\d<=B
def Rls(d:List Nat)(r:uY)(B:Nat):Prop:=r.list=d.map (λ(x:Nat)=>(x:Int))/\d.length<=B/\∀x∈d,x<=B
def RT(M:Nat):(s:EZ)->s.D->uY->Nat->Prop
 |.n,d,r,B=>Rnm d r B|.l,d,r,B=>Rls d r B|.u,_,_,_=>True|.p a b,d,r,B=>∃x y,r.pair=[x,y]/\RT M a d.1 x B/\RT M b d.2 y B|.f a b,φ,r,B=>∀(x:a.D) (c:uY) (B' u n:Nat),B<=B'->B'+(M-u)<=100000000->RT M a x c B'->u<=M->2*(M-u)+2<=n->Oc M (eL n (mc M u false) r c) u B' (RT M b (φ x))
theorem RT.mono{M:Nat}:∀(s:EZ) {d:s.D} {r:uY} {B B':Nat},RT M s d r B->B<=B'->RT M s d r B'
 |.n,_,_,_,_,h,c=>⟨h.1,z8 h.2 c⟩|.l,_,_,_,_,h,c=>⟨h.1,z8 h.2.1 c,λx j=>z8 (h.2.2 x j) c⟩|.u,_,_,_,_,_,_=>trivial|.p a b,_,_,_,_,h,c=>by
  obtain⟨x,y,i,k,o⟩:=h;exact⟨x,y,i,RT.mono a k c,RT.mono b o c⟩
 |.f a b,_,_,_,_,h,c=>λx q B' u n i=>h x q B' u n (z8 c i)
def RV(M:Nat)(v:Vw)(r:uY)(B:Nat):Prop:=RT M v.s v.d r B
theorem RV.mono{M:Nat}{v:Vw}{r:uY}{B B':Nat}(h:RV M v r B)(a:B<=B'):RV M v r B':=RT.mono _ h a
def RV.at{M:Nat}{v:Vw}{s:EZ}{r:uY}{B:Nat}(h:RV M v r B)(hs:v.s=s):RT M s (v.at s) r B:=by
 subst hs;cases v;rw[Vw.GU];exact h
def RE(M:Nat)(ρ:List Vw)(env:List uY)(B:Nat):Prop:=ρ.length=env.length/\∀(i:Nat) v r,ρ[i]?=some v->env[i]?=some r->RV M v r B
theorem RE.mono{M:Nat}{ρ:List Vw}{env:List uY}{B B':Nat}(h:RE M ρ env B)(a:B<=B'):RE M ρ env B':=⟨h.1,λi v r b c=>(h.2 i v r b c).mono a⟩
def RE.app{M:Nat}{ρ:List Vw}{env:List uY}{B:Nat}(h:RE M ρ env B){v:Vw}{r:uY}(c:RV M v r B):RE M (ρ++[v]) (env++[r]) B:=by
 refine⟨by simp[h.1],λi d f a b=>?_⟩
 by_cases hi:i<ρ.length
 .rw[uJ hi] at a;rw[uJ (by rw[<-h.1];exact hi)] at b;exact h.2 i d f a b
 .rw[tS VW] at a;rw[tS (by rw[<-h.1];omega),<-h.1] at b;generalize i-ρ.length=j at a b;cases j with
  |zero=>simp at a b;subst a;subst b;exact c
  |succ j=>simp at a
def Oc.out{M u u0 B:Nat}{r:uY}{K:uY->Nat->Prop}(h:u0<=u)(a:u<=M):Oc M (some (r,mc M u true)) u0 B K:=⟨r,u,true,rfl,h,a,λh=>by cases h⟩
def Oc.is{M u u0 B:Nat}{r:uY}{K:uY->Nat->Prop}(h:u0<u)(a:u<=M)(b:K r (B+(u-u0))):Oc M (some (r,mc M u false)) u0 B K:=⟨r,u,false,rfl,VW,a,λ_=>⟨h,b⟩⟩
def ad3(n:Nat)(env:List uY):Int->Tm->(List uY×VB)->Option (fp (List uY×VB) (uY×VB)):=λ_ c=>re λv105 b=>
 dR (fJ n b c env) λa d127=>
 gq (fM v105 [a])<|if d127.out then some (.ret (zRs,d127))else some (.next (fW v105 [a],d127))
def U6{M n:Nat}{env:List uY}{ρ:List Vw}(Z:List uY×VB->Option (uY×VB)):∀(l:List Tm) (j:Nat) (acc:List uY) (u B:Nat),u<=M->acc.length+l.length<=1000->(∀a∈l,∀c,u<=c->c<=M->Oc M (fJ n (mc M c false) a env) c (B+(c-u)) (RV M (a.val ρ)))->(∃c,u<=c/\c<=M/\dH (fa (ad3 n env) l j (acc,mc M u false)) (fQ Z (λr=>some r))=some (zRs,mc M c true))\/∃rs c,u<=c/\c<=M/\dH (fa (ad3 n env) l j (acc,mc M u false)) (fQ Z (λr=>some r))=Z (acc++rs,mc M c false)/\rs.length=l.length/\∀(i:Nat) a r,l[i]?=some a->rs[i]?=some r->RV M (a.val ρ) r (B+(c-u))
 |[],j,acc,u,B,hu,k,h=>.inr ⟨[],u,gY u,hu,by rw[oz,dI,ew,yc],rfl,λi a r d _=>by simp at d⟩
 |a::l,j,acc,u,B,hu,k,h=>by
  obtain⟨r,u1,out,q,s,o,t⟩:=h a abm u (gY u) hu;rw[kY] at k;rw[eV];unfold ad3;rw[iB,q,dP,fk abv,dU];cases out with
  |true=>left;exact⟨u1,s,o,rfl⟩|false=>
   obtain⟨y,v⟩:=t rfl;rw[dK abm,dI,eQ]
   have hn:∀b∈l,∀c,u1<=c->c<=M->Oc M (fJ n (mc M c false) b env) c (B+(u1-u)+(c-u1)) (RV M (b.val ρ)):=λb w c d f=>by
    have:=h b (by simp[w]) c VW f
    rwa [show B+(u1-u)+(c-u1)=B+(c-u) by omega]
   rcases U6 Z l (j+1) (fW acc [r]) u1 (B+(u1-u)) o (by simp[ig];omega) hn with⟨c,a1,a2,a3⟩|⟨rs,c,a1,a2,a3,a4,a5⟩
   .left;exact⟨c,VW,a2,a3⟩
   .right;refine⟨r::rs,c,VW,a2,by rw[show(fW acc [r]++rs)=acc++r::rs by simp[ig]] at a3;exact a3,by simp[a4],λi b x d f=>?_⟩;cases i with
    |zero=>
     simp at d f;subst d;subst f
     have:B+(u-u)=B:=VW
     exact v.mono VW
    |succ i=>
     simp at d f;exact(a5 i b x d f).mono VW
def TB(n:Nat)(v105:List dJ):(Int×Int×(List Int)×(List dJ)×Int×Int×Int×(List Ty)×(List Tm)×(List dJ)×d_)->(Option (fp (Int×Int×(List Int)×(List dJ)×Int×Int×Int×(List Ty)×(List Tm)×(List dJ)×d_) (dJ×d_))):=
 ((KA λ(b:Int) (c:Int) (d:List Int) (f:List dJ) (h:Int) (i:Int) (j:Int) (k:List Ty) (l:List Tm) (o:List dJ) (q:d_)=>
 en (λ(u:Bool)=>
 if u then(
 en (λ(v:Int) (w:List Int) (x:List dJ) (y:Int) (A:Int) (B:Int) (C:List Ty) (D:List Tm) (F:List dJ) (G:d_)=>
 some (.next ((eH .i64 b 1),v,w,x,y,A,B,C,D,F,G))) λs=>
 dH (dW v105 1) λH=>
 dR (eL n q H (dJ.mk b [] [] (Tm.mk 0 0 (Ty.mk 0 []) []) [])) λI r=>
 if r.out then(
 s c d f h i j k l o r)
 else(dR (eL n r I (dJ.mk c d f (Tm.mk h i (Ty.mk j k) l) o)) λa J=>
 s a.num a.list a.pair a.body.aop a.body.aos a.body.dM.aop a.body.dM.aoq a.body.aoq a.env J))
 else(some (.xA (b,c,d,f,h,i,j,k,l,o,q)))) λt=>
 dH (dW v105 2) λK=>
 if(pH b K.num) then(
 t (lF q.out))
 else(t false)):(Int×Int×(List Int)×(List dJ)×Int×Int×Int×(List Ty)×(List Tm)×(List dJ)×d_)->(Option (fp (Int×Int×(List Int)×(List dJ)×Int×Int×Int×(List Ty)×(List Tm)×(List dJ)×d_) (dJ×d_))))
def Jd(n:Nat)(v105:List dJ)(f:dJ):(Int×Int×(List Int)×(List dJ)×Int×Int×Int×(List Ty)×(List Tm)×(List dJ)×d_)->(Option (fp (Int×Int×(List Int)×(List dJ)×Int×Int×Int×(List Ty)×(List Tm)×(List dJ)×d_) (dJ×d_))):=
 ((KA λ(d:Int) (h:Int) (i:List Int) (j:List dJ) (k:Int) (l:Int) (o:Int) (q:List Ty) (r:List Tm) (s:List dJ) (t:d_)=>
 if(fq (qz d 0) (lF t.out) false) then(
 en (λ(y:Int) (A:List Int) (B:List dJ) (C:Int) (D:Int) (F:Int) (G:List Ty) (H:List Tm) (I:List dJ) (J:d_)=>
 some (.next ((fD .i64 d 1),y,A,B,C,D,F,G,H,I,J))) λw=>
 dH (dW v105 1) λK=>
 dH (dW f.list d) λL=>
 dR (eL n t K (dJ.mk L [] [] (Tm.mk 0 0 (Ty.mk 0 []) []) [])) λa u=>
 en (λ(M:Int) (N:List Int) (O:List dJ) (P:Int) (Q:Int) (R:Int) (S:List Ty) (T:List Tm) (U:List dJ) (v:d_)=>
 if v.out then(
 w h i j k l o q r s v)
 else(dR (eL n v (dJ.mk M N O (Tm.mk P Q (Ty.mk R S) T) U) (dJ.mk h i j (Tm.mk k l (Ty.mk o q) r) s)) λb V=>
 w b.num b.list b.pair b.body.aop b.body.aos b.body.dM.aop b.body.dM.aoq b.body.aoq b.env V)) λx=>
 if u.out then(
 x a.num a.list a.pair a.body.aop a.body.aos a.body.dM.aop a.body.dM.aoq a.body.aoq a.env u)
 else(dH (tD f.list (eH .i64 d 1) (eE f.list)) λW=>
 dR (eL n u a (dJ.mk 0 W [] (Tm.mk 0 0 (Ty.mk 0 []) []) [])) λc X=>
 x c.num c.list c.pair c.body.aop c.body.aos c.body.dM.aop c.body.dM.aoq c.body.aoq c.env X))
 else(some (.xA (d,h,i,j,k,l,o,q,r,s,t)))):(Int×Int×(List Int)×(List dJ)×Int×Int×Int×(List Ty)×(List Tm)×(List dJ)×d_)->(Option (fp (Int×Int×(List Int)×(List dJ)×Int×Int×Int×(List Ty)×(List Tm)×(List dJ)×d_) (dJ×d_))))
def abk(n:Nat)(k:Int)(v105:List dJ)(c:d_):Option (dJ×d_):=
 if(eo k 3) then(
 dH (dW v105 0) λi=>
 dH (dW v105 1) λj=>
 dR (eL n c i j) λl o=>
 some (l,o))
 else(if(eo k 5) then(
 dH (dW v105 0) λq=>
 some ((dJ.mk (eH .i64 q.num 1) [] [] (Tm.mk 0 0 (Ty.mk 0 []) []) []),c))
 else(if(eo k 6) then(
 dH (dW v105 0) λa=>
 en (TB n v105) λs=>
 dH (jL s FU (0,a.num,a.list,a.pair,a.body.aop,a.body.aos,a.body.dM.aop,a.body.dM.aoq,a.body.aoq,a.env,c)) (fQ (KA λ(U:Int) (t:Int) (u:List Int) (v:List dJ) (w:Int) (x:Int) (y:Int) (A:List Ty) (B:List Tm) (C:List dJ) (D:d_)=>
 some ((dJ.mk t u v (Tm.mk w x (Ty.mk y A) B) C),D)) (λr=>some r)))
 else(if(eo k 8) then(
 dH (dW v105 0) λd=>
 dH (dW v105 1) λf=>
 gq (fM [d.num] f.list)<|some ((dJ.mk 0 (fW [d.num] f.list) [] (Tm.mk 0 0 (Ty.mk 0 []) []) []),c))
 else(if(eo k 9) then(
 dH (dW v105 0) λb=>
 dH (dW v105 2) λh=>
 en (Jd n v105 h) λF=>
 dH (jL F FU ((fD .i64 (eE h.list) 1),b.num,b.list,b.pair,b.body.aop,b.body.aos,b.body.dM.aop,b.body.dM.aoq,b.body.aoq,b.env,c)) (fQ (KA λ(V:Int) (G:Int) (H:List Int) (I:List dJ) (J:Int) (K:Int) (L:Int) (M:List Ty) (N:List Tm) (O:List dJ) (P:d_)=>
 some ((dJ.mk G H I (Tm.mk J K (Ty.mk L M) N) O),P)) (λr=>some r)))
 else(if(eo k 10) then(
 some ((dJ.mk 0 [] v105 (Tm.mk 0 0 (Ty.mk 0 []) []) []),c))
 else(if(eo k 11) then(
 dH (dW v105 0) λQ=>
 dH (dW Q.pair 0) λR=>
 some (R,c))
 else(if(eo k 12) then(
 dH (dW v105 0) λS=>
 dH (dW S.pair 1) λT=>
 some (T,c))
 else(some ((dJ.mk 0 [] [] (Tm.mk 0 0 (Ty.mk 0 []) []) []),c)))))))))
abbrev LSt:=Int×Int×(List Int)×(List dJ)×Int×Int×Int×(List Ty)×(List Tm)×(List dJ)×d_
def pk(j:Int)(r:uY)(m:VB):LSt:=(j,r.num,r.list,r.pair,r.body.aop,r.body.aos,r.body.dM.aop,r.body.dM.aoq,r.body.aoq,r.env,m)
def pkE:LSt->Option (uY×VB):=KA λ(_:Int) (a:Int) (b:List Int) (c:List dJ) (d:Int) (f:Int) (h:Int) (i:List Ty) (j:List Tm) (k:List dJ) (l:d_)=>some ((dJ.mk a b c (Tm.mk d f (Ty.mk h i) j) k),l)
def NM(j:Int)(r:uY)(m:VB):pkE (pk j r m)=some (r,m):=by
 unfold pkE pk;rw[vk,Ty.hR,Tm.hR,dJ.hR]
abbrev aac(k:Int):uY:=.mk k [] [] (Tm.mk 0 0 (Ty.mk 0 []) []) []
abbrev ahT(l:List Int):uY:=.mk 0 l [] (Tm.mk 0 0 (Ty.mk 0 []) []) []
def adL{n:Nat}{b s nn r:uY}{j:Int}{m:VB}(h:pH j nn.num=true)(a:m.out=false):TB n [b,s,nn] (pk j r m)=dR (eL n m s (aac j)) λf d=>if d.out then some (.next (pk (eH .i64 j 1) r d))else dR (eL n d f r) λc i=>some (.next (pk (eH .i64 j 1) c i)):=by
 unfold TB
 conv=>lhs;unfold pk
 rw[vk,dY,show dW [b,s,nn] 2=some nn from rfl,dI,dO h,a];dsimp only;rw[dO abE,dY,show dW [b,s,nn] 1=some s from rfl,dI,Ty.hR,Tm.hR,dJ.hR];rfl
def P5{n:Nat}{b s nn r:uY}{j:Int}{m:VB}(h:pH j nn.num=false\/m.out=true):TB n [b,s,nn] (pk j r m)=some (.xA (pk j r m)):=by
 unfold TB
 conv=>lhs;unfold pk
 rw[vk,dY,show dW [b,s,nn] 2=some nn from rfl,dI];rcases h with h|h
 .rw[h,dK aal];dsimp only;rw[dK aal];rfl
 .by_cases a:pH j nn.num=true
  .rw[dO a,h];dsimp only;rw[dK aal];rfl
  .rw[dK a];dsimp only;rw[dK aal];rfl
def ZM{n:Nat}{b s nn r:uY}{i:Int}{m:VB}{h:Int}(hi:0<=i)(l:m.out=false)(o:dW nn.list i=some h):Jd n [b,s,nn] nn (pk i r m)=dR (eL n m s (aac h)) λf d=>if d.out then some (.next (pk (fD .i64 i 1) r d))else dH (tD nn.list (eH .i64 i 1) (eE nn.list)) λj=>dR (eL n d f (ahT j)) λf2 d2=>if d2.out then some (.next (pk (fD .i64 i 1) r d2))else dR (eL n d2 f2 r) λq t=>some (.next (pk (fD .i64 i 1) q t)):=by
 unfold Jd
 conv=>lhs;unfold pk
 rw[vk,dO (by rw[u6,l];simp[hi,lF]),dY,show dW [b,s,nn] 1=some s from rfl,dI,o,dI];cases v:eL n m s (aac h)with
 |none=>rfl|some fd=>
  obtain⟨f,d⟩:=fd;rw[dP,dP,dY]
  by_cases c:d.out=true
  .rw[dO c,dO c];dsimp only;rw[dO c];rfl
  .rw[dK c,dK c];cases hs:tD nn.list (eH .i64 i 1) (eE nn.list)with
   |none=>rfl|some j=>
    rw[dI,dI];cases u:eL n d f (ahT j)with
    |none=>rfl|some k=>
     obtain⟨f2,d2⟩:=k;rw[dP,dP]
     by_cases a:d2.out=true
     .rw[dO a];dsimp only;rw[dO a];rfl
     .rw[dK a];dsimp only;rw[dK a];simp only[Ty.hR,Tm.hR,dJ.hR];rfl
def Mh{n:Nat}{b s nn r:uY}{i:Int}{m:VB}(h:i<0\/m.out=true):Jd n [b,s,nn] nn (pk i r m)=some (.xA (pk i r m)):=by
 unfold Jd
 conv=>lhs;unfold pk
 rw[vk,dK (by
  rw[u6,gJ,ju];rintro⟨c,a⟩;rcases h with h|h
  .omega
  .rw[h] at a;exact absurd a aal)]
 rfl
def aav{M n:Nat}{b s nn:uY}{σ:EZ}{φ:Nat->σ.D->σ.D}{B0 d:Nat}(hs:RT M (.f .n (.f σ σ)) φ s B0)(hn:nn.num=(d:Int))(R:d<=B0)(V:Nat->σ.D)(w:∀k,V (k+1)=φ k (V k)):∀(q j:Nat) (r:uY) (u B:Nat),j<=d->RT M σ (V j) r B->B0<=B->B+(M-u)<=100000000->u<=M->2*(M-u)+2<=n->(M-u)+2<=q->∃i a out,dH (jL (TB n [b,s,nn]) q (pk (j:Int) r (mc M u false))) (fQ pkE (λr=>some r))=some (i,mc M a out)/\u<=a/\a<=M/\(out=false->RT M σ (V d) i (B+(a-u))):=by
 intro q
 induction q with
 |zero=>intro j r u B _ _ _ _ _ _ h;omega|succ q ih=>
  intro j r u B S t x l hu o T;rw[gM]
  by_cases y:j<d
  .rw[adL (by rw[jA,hn];omega) rfl]
   have A:eH .i64 (j:Int) 1=((j+1:Nat):Int):=by rw[e9 VW VW];omega
   have stop:∀(r:uY) (a:Nat),u<=a->a<=M->∃i c out,dH (dH (some (fp.next (pk (eH .i64 (j:Int) 1) r (mc M a true)))) (LS (jL (TB n [b,s,nn]) q))) (fQ pkE (λr=>some r))=some (i,mc M c out)/\u<=c/\c<=M/\(out=false->RT M σ (V d) i (B+(c-u))):=λr a C F=>by
    obtain⟨v,rfl⟩:∃v,q=v+1:=⟨q-1,VW⟩;rw[dI,eQ,gM,P5 (.inr rfl),dI,sC,dI,ew,NM];exact⟨r,a,true,rfl,C,F,λh=>by cases h⟩
   obtain⟨f,u1,o1,G,H,c3,I⟩:=hs j (aac (j:Int)) B u n x l ⟨rfl,VW⟩ hu o;rw[G,dP];cases o1 with
   |true=>rw[dO rfl];exact stop r u1 H c3|false=>
    obtain⟨c5,J⟩:=I rfl;rw[dK abm];obtain⟨i,u2,o2,g1,g2,g3,g4⟩:=J (V j) r (B+(u1-u)) u1 n (gY _) VW (t.mono _ VW) c3 VW;rw[g1,dP];cases o2 with
    |true=>exact stop i u2 VW g3|false=>
     obtain⟨g5,g6⟩:=g4 rfl;rw[dI,eQ,A];rw[<-w j] at g6;obtain⟨K,u3,L,N,k2,O,P⟩:=ih (j+1) i u2 (B+(u2-u)) VW (g6.mono _ VW) VW VW g3 VW VW;exact⟨K,u3,L,N,VW,O,λh=>(P h).mono _ VW⟩
  .have:j=d:=VW
   subst this
   have Q:pH (j:Int) nn.num=false:=by
    cases h:pH (j:Int) nn.num with
    |false=>rfl|true=>rw[jA,hn] at h;omega
   rw[P5 (.inl Q),dI,sC,dI,ew,NM];exact⟨r,u,false,rfl,gY _,hu,λ_=>t.mono _ VW⟩
def W1{M n:Nat}{b s nn:uY}{σ:EZ}{φ:Nat->List Nat->σ.D->σ.D}{B0:Nat}{a:List Nat}(hs:RT M (.f .n (.f .l (.f σ σ))) φ s B0)(hn:nn.list=a.map (λ(x:Nat)=>(x:Int)))(C:a.length<=B0/\∀x∈a,x<=B0)(V:List Nat->σ.D)(K:∀h t,V (h::t)=φ h t (V t)):∀(q j:Nat) (r:uY) (u B:Nat),j<=a.length->RT M σ (V (a.drop j)) r B->B0<=B->B+(M-u)<=100000000->u<=M->2*(M-u)+2<=n->(M-u)+2<=q->∃i c out,dH (jL (Jd n [b,s,nn] nn) q (pk ((j:Int)-1) r (mc M u false))) (fQ pkE (λr=>some r))=some (i,mc M c out)/\u<=c/\c<=M/\(out=false->RT M σ (V a) i (B+(c-u))):=by
 intro q
 induction q with
 |zero=>intro j r u B _ _ _ _ _ _ h;omega|succ q ih=>
  intro j r u B hj F L o hu v hq;rw[gM];cases j with
  |succ j=>
   have k:j<a.length:=VW
   have w:a.drop j=a[j]::a.drop (j+1):=K0 k;rw[show(((j+1:Nat):Int)-1)=(j:Int) by omega]
   have N:dW nn.list (j:Int)=some ((a[j]:Nat):Int):=by rw[gS,hn];simp[k]
   rw[ZM VW rfl N];have O:fD .i64 (j:Int) 1=(j:Int)-1:=fF VW VW
   have stop:∀(r:uY) (c:Nat),u<=c->c<=M->∃i d out,dH (dH (some (fp.next (pk (fD .i64 (j:Int) 1) r (mc M c true)))) (LS (jL (Jd n [b,s,nn] nn) q))) (fQ pkE (λr=>some r))=some (i,mc M d out)/\u<=d/\d<=M/\(out=false->RT M σ (V a) i (B+(d-u))):=λr c P Q=>by
    obtain⟨G,rfl⟩:∃G,q=G+1:=⟨q-1,VW⟩;rw[dI,eQ,gM,Mh (.inr rfl),dI,sC,dI,ew,NM];exact⟨r,c,true,rfl,P,Q,λh=>by cases h⟩
   have H:a[j]<=B0:=C.2 _ (Ek k);obtain⟨f,u1,o1,R,S,c3,T⟩:=hs a[j] (aac ((a[j]:Nat):Int)) B u n L o ⟨rfl,VW⟩ hu v;rw[R,dP];cases o1 with
   |true=>rw[dO rfl];exact stop r u1 S c3|false=>
    obtain⟨c5,U⟩:=T rfl;rw[dK abm]
    have y:tD nn.list (eH .i64 (j:Int) 1) (eE nn.list)=some ((a.drop (j+1)).map (λ(x:Nat)=>(x:Int))):=by
     rw[e9 VW VW,fV,hn];unfold tD;rw[dO abv]
     have e:((j:Int)+1).toNat=j+1:=VW
     simp[List.map_drop,e,akq]
    rw[y,dI]
    have A:RT M .l (a.drop (j+1)) (ahT ((a.drop (j+1)).map (λ(x:Nat)=>(x:Int)))) (B+(u1-u)):=by
     refine⟨rfl,by rw[WL];omega,λx H=>?_⟩;have:=C.2 x (Hp H);omega
    obtain⟨f2,u2,o2,g1,g2,g3,g4⟩:=U (a.drop (j+1)) _ (B+(u1-u)) u1 n (gY _) VW A c3 VW;rw[g1,dP];cases o2 with
    |true=>rw[dO rfl];exact stop r u2 VW g3|false=>
     obtain⟨g5,g6⟩:=g4 rfl;rw[dK abm];obtain⟨i,u3,W,X,k2,I,Y⟩:=g6 (V (a.drop (j+1))) r (B+(u1-u)+(u2-u1)) u2 n (gY _) VW (F.mono _ VW) g3 VW;rw[X,dP];cases W with
     |true=>exact stop i u3 VW I|false=>
      obtain⟨k5,J⟩:=Y rfl;rw[dI,eQ,O];rw[<-K,<-w] at J;obtain⟨Z,u4,o4,l1,l2,l3,l4⟩:=ih j i u3 (B+(u3-u)) VW (J.mono _ VW) VW VW I VW VW;exact⟨Z,u4,o4,l1,VW,l3,λh=>(l4 h).mono _ VW⟩
  |zero=>
   rw[Mh (.inl VW),dI,sC,dI,ew,NM];exact⟨r,u,false,rfl,gY _,hu,λ_=>F.mono _ VW⟩
def ltO{M u:Nat}(h:u<M):(fq false true (eo (u:Int) (M:Int)))=false:=by
 rw[lW,PN];cases a:eo (u:Int) (M:Int)with
 |false=>rfl|true=>rw[gi] at a;omega
def Kq(n M:Nat)(t:Tm)(env:List uY):fJ (n+1) (mc M M false) t env=some (zRs,mc M M true):=by
 rw[fJ,dO (by rw[lW];simp[eo])]
def WJ{n M u:Nat}{k i:Int}{s:Ty}{l:List Tm}{env:List uY}(hu:u<M)(d:M<=65536)(a:k≠1)(b:k≠2)(f:l.length<=3):fJ (n+1) (mc M u false) (.mk k i s l) env=dH (fa (ad3 n env) l 0 ([],mc M (u+1) false)) (fQ (re (abk n k)) (λr=>some r)):=by
 have c:eH .i64 (u:Int) 1=((u+1:Nat):Int):=by rw[e9 VW VW];omega
 rw[fJ,dK (by rw[ltO hu];decide),dK (by rw[gi];exact a),dK (by rw[gi];exact b),show(Tm.mk k i s l).aoq=l from rfl,ei VW,dU,dY,c];rfl
def sJ{M n u B:Nat}{ρ:List Vw}{env:List uY}{k i:Int}{s:Ty}{l:List Tm}{K:uY->Nat->Prop}(hu:u<=M)(f:M<=65536)(h:k≠1)(j:k≠2)(o:l.length<=3)
  (q:u<M->∀a∈l,∀b,u+1<=b->b<=M->Oc M (fJ n (mc M b false) a env) b (B+(b-(u+1))) (RV M (a.val ρ)))
  (t:∀rs b,u+1<=b->b<=M->rs.length=l.length->(∀(i:Nat) a r,l[i]?=some a->rs[i]?=some r->RV M (a.val ρ) r (B+(b-(u+1))))->∃d c out,abk n k rs (mc M b false)=some (d,mc M c out)/\b<=c/\c<=M/\(out=false->K d (B+(c-u)))):Oc M (fJ (n+1) (mc M u false) (.mk k i s l) env) u B K:=by
 by_cases hm:u<M
 .rw[WJ hm f h j o];rcases U6 (M:=M) (n:=n) (env:=env) (ρ:=ρ) (re (abk n k)) l 0 [] (u+1) B VW abv (q hm)with⟨b,a1,a2,a3⟩|⟨rs,b,a1,a2,a3,a4,a5⟩
  .rw[a3];exact .out VW a2
  .rw[a3,n9,iB];obtain⟨d,c,out,v,A,w,x⟩:=t rs b a1 a2 a4 a5;rw[v];exact⟨d,c,out,rfl,VW,w,λy=>⟨VW,x y⟩⟩
 .have:u=M:=VW
  subst this;rw[Kq];exact .out (gY _) (gY _)
def RV.aeO{M:Nat}{v:Vw}{s:EZ}{r:uY}{B:Nat}(h:RT M s (v.at s) r B)(hs:v.s=s):RV M v r B:=by
 subst hs;cases v;rw[Vw.GU] at h;exact h
def ln1{α:Type}{l:List α}(h:l.length=1):∃a,l=[a]:=by
 match l,h with
 |[a],_=>exact⟨a,rfl⟩
def ln2{α:Type}{l:List α}(h:l.length=2):∃a b,l=[a,b]:=by
 match l,h with
 |[a,b],_=>exact⟨a,b,rfl⟩
def ln3{α:Type}{l:List α}(h:l.length=3):∃a b c,l=[a,b,c]:=by
 match l,h with
 |[a,b,c],_=>exact⟨a,b,c,rfl⟩
def py{k i:Int}{s:Ty}{l:List Tm}(a:k≠1)(b:k≠2)(ρ:List Vw):(Tm.mk k i s l).val ρ=opV k (l.map λt=>t.val ρ):=by rw[Tm.val_mk,dK a,dK b]
def al'{M:Nat}(N:M<=65536){g:List Ty}{t:Tm}{T:Ty}(h:eg g t T):∀(ρ:List Vw) (env:List uY) (B u n:Nat),zJ ρ g->RE M ρ env B->g.length+t.aor<=1000000->B+(M-u)<=100000000->u<=M->2*(M-u)+1<=n->Oc M (fJ n (mc M u false) t env) u B (RV M (t.val ρ)):=by
 induction h with
 |@var g t i hi hg=>
  intro ρ env B u n he j o K hu hn;obtain⟨n,rfl⟩:∃m,n=m+1:=⟨n-1,VW⟩
  by_cases hm:u<M
  .have hlen:ρ.length=g.length:=by have:=congrArg List.length he;simpa using this
   have e1:eH .i64 (u:Int) 1=((u+1:Nat):Int):=by rw[e9 VW VW];omega
   have ah:g.length-1-i<env.length:=by rw[<-j.1,hlen];omega
   have e2:dW env (fD .i64 (fD .i64 (eE env) 1) (i:Int))=some env[g.length-1-i]:=by
    have:=j.1;rw[fV,fF (a:=(env.length:Int)) (b:=1) VW VW,fF VW VW,show(env.length:Int)-1-(i:Int)=((g.length-1-i:Nat):Int) by omega,gS];simp[ah]
   rw[fJ,dK (by rw[ltO hm];decide),dO abE,show(Tm.mk 1 (i:Int) Ty.z []).aos=(i:Int)from rfl,e2,dI,e1];refine .is VW VW ?_;rw[Tm.val_mk,dO rfl,show((i:Nat):Int).toNat=i from rfl,ahn VW,hlen]
   have R:g.length-1-i<ρ.length:=VW
   rw[pE R];exact(j.2 _ _ _ (pE R) (pE ah)).mono VW
  .have:u=M:=VW
   subst this;rw[Kq];exact .out (gY _) (gY _)
 |@lam g s b t hs U ih=>
  intro ρ env B u n he j o K hu hn;obtain⟨n,rfl⟩:∃m,n=m+1:=⟨n-1,VW⟩;rw[Tm.dL] at o;simp only[ee] at o
  by_cases hm:u<M
  .have e1:eH .i64 (u:Int) 1=((u+1:Nat):Int):=by rw[e9 VW VW];omega
   rw[fJ,dK (by rw[ltO hm];decide),dK (by show¬eo 2 1=true;decide),dO abE,show dW (Tm.mk 2 0 s [b]).aoq 0=some b from rfl,dI,e1];refine .is VW VW ?_;rw[Tm.val_mk,dK aal,dO rfl];have ai:∀x,(b.val (ρ++[⟨s.S,x⟩])).s=t.S:=λx=>oT U _ (he.app rfl);show RT M (.f s.S (b.val (ρ++[⟨s.S,s.S.dft⟩])).s) _ _ _;intro x A B' c n' C d D w h5;obtain⟨n',rfl⟩:∃m,n'=m+1:=⟨n'-1,VW⟩
   have hlen:ρ.length=g.length:=by have:=congrArg List.length he;simpa using this
   have an:=j.1;rw[eL,show(dJ.mk 0 [] [] b env).env=env from rfl,show(dJ.mk 0 [] [] b env).body=b from rfl,fk abv,dU,ig];have k:=ih (ρ++[⟨s.S,x⟩]) (env++[A]) B' c n' (he.app rfl) ((j.mono VW).app (v:=⟨s.S,x⟩) D) abv d w VW;obtain⟨r,J,out,H,k2,L,X⟩:=k;rw[H,dP];refine⟨r,J,out,rfl,k2,L,λV=>⟨(X V).1,?_⟩⟩;have k5:=(X V).2;show RT M _ (((b.val (ρ++[⟨s.S,x⟩]))).at (b.val (ρ++[⟨s.S,s.S.dft⟩])).s) r _;exact k5.at (by rw[ai,ai])
  .have:u=M:=VW
   subst this;rw[Kq];exact .out (gY _) (gY _)
 |@app g f a s t hf P F G=>
  intro ρ env B u n he j o K hu hn;obtain⟨n,rfl⟩:∃m,n=m+1:=⟨n-1,VW⟩;rw[Tm.dL] at o;simp only[ee] at o
  have hF:(f.val ρ).s=.f s.S t.S:=by rw[<-BY];exact oT hf ρ he
  have hA:(a.val ρ).s=s.S:=oT P ρ he;obtain⟨φ,Q⟩:=Ju hF;refine sJ hu N aal aal abm (λhm=>rV (λc C d=>F ρ env _ c n he (j.mono VW) VW VW d VW) (λc C d=>G ρ env _ c n he (j.mono VW) VW VW d VW)) λrs c C d D w=>?_;obtain⟨rf,A,rfl⟩:=ln2 D;have H:=w 0 f rf rfl rfl;have k2:=(w 1 a A rfl rfl).at hA;rw[Q] at H;obtain⟨r,J,out,c1,c2,c3,c4⟩:=H ((a.val ρ).at s.S) A _ c n (gY _) VW k2 d VW;refine⟨r,J,out,?_,c2,c3,λV=>?_⟩
  .show dR (eL n (mc M c false) rf A) _=_;rw[c1];rfl
  .rw[py aal aal];show RV M (mU (f.val ρ) (a.val ρ)) r _;rw[Q];exact((c4 V).2).mono _ VW
 |@zero g=>
  intro ρ env B u n he j o K hu hn;obtain⟨n,rfl⟩:∃m,n=m+1:=⟨n-1,VW⟩;refine sJ (ρ:=ρ) hu N aal aal abm (λ_=>DR) λrs c C d D w=>⟨_,c,false,rfl,gY _,d,λ_=>?_⟩;rw[py aal aal];exact(⟨rfl,PS _⟩:Rnm 0 zRs _)
 |@succ g a P ih=>
  intro ρ env B u n he j o K hu hn;obtain⟨n,rfl⟩:∃m,n=m+1:=⟨n-1,VW⟩;rw[Tm.dL] at o;simp only[ee] at o
  have hA:(a.val ρ).s=.n:=by rw[<-wo];exact oT P ρ he
  refine sJ hu N aal aal abm (λhm=>IA (λc C d=>ih ρ env _ c n he (j.mono VW) VW VW d VW)) λrs c C d D w=>?_;obtain⟨A,rfl⟩:=ln1 D;obtain⟨H,k2⟩:Rnm (Dz (a.val ρ)) A _:=(w 0 a A rfl rfl).at hA;refine⟨_,c,false,rfl,gY _,d,λ_=>?_⟩;rw[py aal aal];refine⟨?_,?_⟩
  .show eH .i64 A.num 1=((Dz (a.val ρ)+1:Nat):Int);rw[H,e9 VW VW];omega
  .show Dz (a.val ρ)+1<=_;omega
 |@sF g t b s m ht U hs Y F G Z=>
  intro ρ env B u n he j o K hu hn;obtain⟨n,rfl⟩:∃m,n=m+1:=⟨n-1,VW⟩;rw[Tm.dL] at o;simp only[ee] at o;have O:(b.val ρ).s=t.S:=oT U ρ he
  have ad:(s.val ρ).s=.f .n (.f t.S t.S):=by have:=oT hs ρ he;rwa [BY,BY,wo] at this
  have ae:(m.val ρ).s=.n:=by rw[<-wo];exact oT Y ρ he
  obtain⟨φ,Q⟩:=Ju ad;refine sJ (ρ:=ρ) hu N aal aal abm (λhm=>?_) λrs c C d D w=>?_
  .intro a hx c C d;simp only[kX,ry,pM] at hx;rcases hx with rfl|rfl|rfl
   .exact F ρ env _ c n he (j.mono VW) VW VW d VW
   .exact G ρ env _ c n he (j.mono VW) VW VW d VW
   .exact Z ρ env _ c n he (j.mono VW) VW VW d VW
  obtain⟨I,rf,W,rfl⟩:=ln3 D;have H:=(w 0 b I rfl rfl).at O;have k2:=w 1 s rf rfl rfl;obtain⟨L,X⟩:Rnm (Dz (m.val ρ)) W _:=(w 2 m W rfl rfl).at ae;rw[Q] at k2
  have af:∀k,(Uv (b.val ρ) (s.val ρ) k).s=t.S:=λk=>by
   cases k with
   |zero=>exact O|succ k=>rw[Q];rfl
  obtain⟨r,J,out,c1,c2,c3,c4⟩:=aav (n:=n) (b:=I) (s:=rf) (nn:=W) (σ:=t.S) (φ:=φ) k2 L X (λk=>(Uv (b.val ρ) (s.val ρ) k).at t.S) (λk=>by
   show(mU (mU (s.val ρ) ⟨.n,k⟩) (Uv (b.val ρ) (s.val ρ) k)).at t.S=_;rw[Q];show(Vw.mk t.S (φ ((Vw.mk EZ.n k).at .n) ((Uv (b.val ρ) ⟨.f .n (.f t.S t.S),φ⟩ k).at t.S))).at t.S=_;rw[Vw.GU]
   exact congrArg (λz=>φ z _) (Vw.GU .n k)) FU 0 I c _ (PS _) H (gY _) VW d VW (by rw[fl];omega)
  refine⟨r,J,out,?_,c2,c3,λV=>?_⟩
  .exact c1
  .rw[py aal aal];exact RV.aeO ((c4 V).mono _ VW) (af _)
 |@nil g=>
  intro ρ env B u n he j o K hu hn;obtain⟨n,rfl⟩:∃m,n=m+1:=⟨n-1,VW⟩;refine sJ (ρ:=ρ) hu N aal aal abm (λ_=>DR) λrs c C d D w=>⟨_,c,false,rfl,gY _,d,λ_=>?_⟩;rw[py aal aal];exact(⟨rfl,PS _,λx hx=>by simp at hx⟩:Rls [] zRs _)
 |@cons g a b P U F G=>
  intro ρ env B u n he j o K hu hn;obtain⟨n,rfl⟩:∃m,n=m+1:=⟨n-1,VW⟩;rw[Tm.dL] at o;simp only[ee] at o
  have hA:(a.val ρ).s=.n:=by rw[<-wo];exact oT P ρ he
  have ak:(b.val ρ).s=.l:=by rw[<-P3];exact oT U ρ he
  refine sJ hu N aal aal abm (λhm=>rV (λc C d=>F ρ env _ c n he (j.mono VW) VW VW d VW) (λc C d=>G ρ env _ c n he (j.mono VW) VW VW d VW)) λrs c C d D w=>?_;obtain⟨A,I,rfl⟩:=ln2 D;obtain⟨H,k2⟩:Rnm (Dz (a.val ρ)) A _:=(w 0 a A rfl rfl).at hA;obtain⟨L,X,k5⟩:Rls (NF (b.val ρ)) I _:=(w 1 b I rfl rfl).at ak;refine⟨.mk 0 (A.num::I.list) [] (Tm.mk 0 0 (Ty.mk 0 []) []) [],c,false,?_,gY _,d,λ_=>?_⟩
  .show gq (fM [A.num] I.list) _=_;rw[fk (by rw[L];simp;omega),dU];rfl
  rw[py aal aal];refine⟨?_,?_,?_⟩
  .show A.num::I.list=(Dz (a.val ρ)::NF (b.val ρ)).map _;rw[H,L];rfl
  .show(Dz (a.val ρ)::NF (b.val ρ)).length<=_;rw[kY];omega
  .intro x hx;rcases kX.1 hx with rfl|hx
   .show Dz (a.val ρ)<=_;omega
   .have:=k5 x hx;omega
 |@fold g t b s m ht U hs Y F G Z=>
  intro ρ env B u n he j o K hu hn;obtain⟨n,rfl⟩:∃m,n=m+1:=⟨n-1,VW⟩;rw[Tm.dL] at o;simp only[ee] at o;have O:(b.val ρ).s=t.S:=oT U ρ he
  have ad:(s.val ρ).s=.f .n (.f .l (.f t.S t.S)):=by have:=oT hs ρ he;rwa [BY,BY,BY,wo,P3] at this
  have ae:(m.val ρ).s=.l:=by rw[<-P3];exact oT Y ρ he
  obtain⟨φ,Q⟩:=Ju ad;refine sJ (ρ:=ρ) hu N aal aal abm (λhm=>?_) λrs c C d D w=>?_
  .intro a hx c C d;simp only[kX,ry,pM] at hx;rcases hx with rfl|rfl|rfl
   .exact F ρ env _ c n he (j.mono VW) VW VW d VW
   .exact G ρ env _ c n he (j.mono VW) VW VW d VW
   .exact Z ρ env _ c n he (j.mono VW) VW VW d VW
  obtain⟨I,rf,W,rfl⟩:=ln3 D;have H:=(w 0 b I rfl rfl).at O;have k2:=w 1 s rf rfl rfl;obtain⟨L,X⟩:Rls (NF (m.val ρ)) W _:=(w 2 m W rfl rfl).at ae;rw[Q] at k2
  have af:∀k,(IJ (b.val ρ) (s.val ρ) k).s=t.S:=λk=>by
   cases k with
   |nil=>exact O|cons h k=>rw[Q];rfl
  obtain⟨r,J,out,c1,c2,c3,c4⟩:=W1 (n:=n) (b:=I) (s:=rf) (nn:=W) (σ:=t.S) (φ:=φ) k2 L X (λk=>(IJ (b.val ρ) (s.val ρ) k).at t.S) (λh k=>by
   show(mU (mU (mU (s.val ρ) ⟨.n,h⟩) ⟨.l,k⟩) (IJ (b.val ρ) (s.val ρ) k)).at t.S=_;rw[Q];show(Vw.mk t.S (φ ((Vw.mk EZ.n h).at .n) ((Vw.mk EZ.l k).at .l) ((IJ (b.val ρ) ⟨.f .n (.f .l (.f t.S t.S)),φ⟩ k).at t.S))).at t.S=_;rw[Vw.GU]
   exact congrFun (congr (congrArg φ (Vw.GU .n h)) (Vw.GU .l k)) _) FU (NF (m.val ρ)).length I c _ (gY _) (by rw[List.drop_length];exact H) (gY _) VW d VW (by rw[fl];omega)
  refine⟨r,J,out,?_,c2,c3,λV=>?_⟩
  .have e:fD .i64 (eE W.list) 1=((NF (m.val ρ)).length:Int)-1:=by
    rw[fV,L,Hn,fF VW VW]
   rw[<-e] at c1;exact c1
  .rw[py aal aal];exact RV.aeO ((c4 V).mono _ VW) (af _)
 |@pair g a b s t ao P U F G=>
  intro ρ env B u n he j o K hu hn;obtain⟨n,rfl⟩:∃m,n=m+1:=⟨n-1,VW⟩;rw[Tm.dL] at o;simp only[ee] at o;refine sJ hu N aal aal abm (λhm=>rV (λc C d=>F ρ env _ c n he (j.mono VW) VW VW d VW) (λc C d=>G ρ env _ c n he (j.mono VW) VW VW d VW)) λrs c C d D w=>?_;obtain⟨A,I,rfl⟩:=ln2 D;refine⟨_,c,false,rfl,gY _,d,λ_=>?_⟩;rw[py aal aal];exact⟨A,I,rfl,(w 0 a A rfl rfl).mono VW,(w 1 b I rfl rfl).mono VW⟩
 |@fst g a s t P ih=>
  intro ρ env B u n he j o K hu hn;obtain⟨n,rfl⟩:∃m,n=m+1:=⟨n-1,VW⟩;rw[Tm.dL] at o;simp only[ee] at o;obtain⟨x,y,ep⟩:=H5 (v:=a.val ρ) (by rw[<-aaQ];exact oT P ρ he);refine sJ hu N aal aal abm (λhm=>IA (λc C d=>ih ρ env _ c n he (j.mono VW) VW VW d VW)) λrs c C d D w=>?_;obtain⟨A,rfl⟩:=ln1 D;have k:=w 0 a A rfl rfl;rw[ep] at k;obtain⟨p,q,H,k2,L⟩:=k;refine⟨p,c,false,?_,gY _,d,λ_=>?_⟩
  .show dH (dW A.pair 0) _=_;rw[H];rfl
  .rw[py aal aal];show RV M (ahY (a.val ρ)) p _;rw[ep];exact k2.mono _ VW
 |@snd g a s t P ih=>
  intro ρ env B u n he j o K hu hn;obtain⟨n,rfl⟩:∃m,n=m+1:=⟨n-1,VW⟩;rw[Tm.dL] at o;simp only[ee] at o;obtain⟨x,y,ep⟩:=H5 (v:=a.val ρ) (by rw[<-aaQ];exact oT P ρ he);refine sJ hu N aal aal abm (λhm=>IA (λc C d=>ih ρ env _ c n he (j.mono VW) VW VW d VW)) λrs c C d D w=>?_;obtain⟨A,rfl⟩:=ln1 D;have k:=w 0 a A rfl rfl;rw[ep] at k;obtain⟨p,q,H,k2,L⟩:=k;refine⟨q,c,false,?_,gY _,d,λ_=>?_⟩
  .show dH (dW A.pair 1) _=_;rw[H];rfl
  .rw[py aal aal];show RV M (aht (a.val ρ)) q _;rw[ep];exact L.mono _ VW
 |@unit g=>
  intro ρ env B u n he j o K hu hn;obtain⟨n,rfl⟩:∃m,n=m+1:=⟨n-1,VW⟩;refine sJ (ρ:=ρ) hu N aal aal abm (λ_=>DR) λrs c C d D w=>⟨_,c,false,rfl,gY _,d,λ_=>?_⟩;rw[py aal aal];exact trivial
def tmT{g:List Ty}(hg:g.length<=10)(h:∀s∈g,s=.nat\/s=.uK)(k:Nat)(n:k<=2){d:eN}(i:d.wf):∃x b,ic FU d g .nat (k:Int)=some (x,b)/\b.wf/\eg g x .nat/\x.aor<=200:=by
 have a:Cr 1 g:=⟨λs hs=>by
  rcases h s hs with rfl|rfl
  .exact⟨Ty.gC,aal⟩
  .exact⟨Ty.sO,aal⟩⟩
 have e:(k:Int).toNat=k:=abm
 obtain⟨x,b,j,l,f⟩:=T4 1 VW VW FU (k:Int) g .nat d (by rw[fl,e,Ty.ie];omega) VW (by rw[Ty.ie];omega) (by rw[e,Ty.ie];omega) a Ty.gC (by rw[Ty.ie];omega) i;refine⟨x,b,j,l,f.ty,?_⟩;have:=f.aor;rw[e,Ty.ie] at this
 have c:k=0\/k=1\/k=2:=VW
 rcases c with rfl|rfl|rfl<;>simp[tb] at this<;>omega
def Nv{d:eN}(b:d.wf):∃x a,tY d=some (x,a)/\a.wf/\eg [] x (.fn .nat .nat)/\x.aor<=201:=by
 obtain⟨x,a,c,f,h,i⟩:=tmT (g:=[.nat]) abm abm 2 VW b;refine⟨.mk 2 0 .nat [x],a,?_,f,.lam AJ h,by simp only[Tm.dL,ee];omega⟩;unfold tY;rw[show ur=some .nat from rfl,dI,dI,dI];rw[show ic FU d [.nat] .nat 2=_ from c,dP];rfl
def aa7:uF=some true:=by decide+kernel
def MB{e:Int}(h:pD e):hZ e=some true:=by rcases h with rfl|rfl|rfl<;>decide
def Ip:hZ 0=some false:=aal
end Go.fP
set_option maxRecDepth 20000
namespace Go.fP
open Go
def aaD{g:List Ty}{f:Fm}(h:Hg g f)(hg:g.length<=16):qg f 0 1=some (f.up 0 1,0):=
 LH (by have:=h.wt;omega) h.err VW VW VW VW (h.aov hg VW)
def PC{g:List Ty}{ρ:Type}(hg:g.length<=16):∀(l p:List Fm) (n:Nat),(∀f∈l,Hg g f)->(p++l).length<=1000000->l.length<n->jL (ρ:=ρ) (re λ(v117:Int) (a:List Fm)=>
   if(pH v117 (eE (p++l))) then(
   dH (dW (p++l) v117) λc=>
   dR (qg c 0 1) λb d=>
   gq (fM a [b])<|some (.next ((eH .i64 v117 1),(fW a [b]))))
   else(some (.xA (v117,a)))) n ((p.length:Int),p.map (Fm.up 0 1))=some (.inl (((p++l).length:Int),(p++l).map (Fm.up 0 1)))
 |[],p,n,h,i,hn=>by
  obtain⟨n,rfl⟩:∃m,n=m+1:=⟨n-1,VW⟩;rw[gM,yc];simp only[re];rw[dK (by rw[jA,fV];omega)];rfl
 |x::l,p,n,h,i,hn=>by
  obtain⟨n,rfl⟩:∃m,n=m+1:=⟨n-1,VW⟩;simp only[kY] at hn;simp only[oV,kY] at i;have ih:=PC (ρ:=ρ) hg l (p++[x]) n (λf j=>h f (by simp[j])) abv VW;rw[show p++[x]++l=p++x::l by simp] at ih;rw[gM];simp only[re] at ih|-;rw[dO (by rw[jA,fV];simp;omega),gS,show(p++x::l)[p.length]?=some x by simp,dI,aaD (h x abm) hg,dP,fk abv,dU,dI,eQ,ig,e9 VW VW];rw[show((p.length:Int)+1,p.map (Fm.up 0 1)++[x.up 0 1])=(((p++[x]).length:Int),(p++[x]).map (Fm.up 0 1)) by simp];exact ih
def Qj{L:List Fm}{g:List Ty}{hs:List Fm}(a:zA L ⟨g,hs⟩)(s:Ty)(t:Tm)(vars hy:List Tm)(hw:vars.length<=900000000):h7 ⟨⟨g,hs⟩,vars,hy⟩ s t=some ⟨⟨g++[s],hs.map (Fm.up 0 1)⟩,vars++[t],hy⟩:=by
 have b:g.length<=16:=a.nv;have c:hs.length<=16:=a.nh;have loop:=PC (ρ:=eA) b hs [] FU a.aow abv (by rw[fl];omega);rw[show(([]:List Fm).length:Int)=0 from rfl,show([]:List Fm).map (Fm.up 0 1)=[] from rfl,n9] at loop;unfold h7 oW;simp only[];rw[fk abv,dU,fk abv,dU,dI,fk abv,dU,fk abv,dU,dY,loop,dI,ew];simp only[re,ig,n9]
end Go.fP
namespace Go.fP
open Go
mutual
def Tm.sb(σ:List Tm):Tm->Tm
 |.mk k i s l=>if k=1 then σ.getD (σ.length-1-i.toNat) Tm.z else .mk k 0 s (Tm.sbL (if k=2 then σ.map (Tm.up 0 1)++[oX 0] else σ) l)
def Tm.sbL(σ:List Tm):List Tm->List Tm
 |[]=>[]|t::l=>Tm.sb σ t::Tm.sbL σ l
end
def Tm.ag_(σ l:List Tm):Tm.sbL σ l=l.map (Tm.sb σ):=by
 induction l with
 |nil=>rfl|cons a l ih=>rw[Tm.sbL,ih];rfl
def Tm.JP(σ:List Tm)(k i:Int)(s:Ty)(l:List Tm):(Tm.mk k i s l).sb σ=if k=1 then σ.getD (σ.length-1-i.toNat) Tm.z else .mk k 0 s (l.map (Tm.sb (if k=2 then σ.map (Tm.up 0 1)++[oX 0] else σ))):=by rw[Tm.sb,Tm.ag_]
def SB(σ:List Tm)(i:Nat):(Tm.mk 1 (i:Int) .z []).sb σ=σ.getD (σ.length-1-i) Tm.z:=by rw[Tm.JP,dO rfl,BS]
def aaA(σ:List Tm)(s:Ty)(b:Tm):(Tm.mk 2 0 s [b]).sb σ=.mk 2 0 s [b.sb (σ.map (Tm.up 0 1)++[oX 0])]:=by rw[Tm.JP,dK aal,dO rfl];rfl
def aes(σ:List Tm){k:Int}(s:Ty)(a:k≠1)(b:k≠2):(Tm.mk k 0 s []).sb σ=.mk k 0 s []:=by rw[Tm.JP,dK a,dK b];rfl
def adO(σ:List Tm){k:Int}(s:Ty)(a:Tm)(b:k≠1)(c:k≠2):(Tm.mk k 0 s [a]).sb σ=.mk k 0 s [a.sb σ]:=by rw[Tm.JP,dK b,dK c];rfl
def aaa(σ:List Tm){k:Int}(s:Ty)(a b:Tm)(c:k≠1)(d:k≠2):(Tm.mk k 0 s [a,b]).sb σ=.mk k 0 s [a.sb σ,b.sb σ]:=by rw[Tm.JP,dK c,dK d];rfl
def agt(σ:List Tm){k:Int}(s:Ty)(a b c:Tm)(d:k≠1)(f:k≠2):(Tm.mk k 0 s [a,b,c]).sb σ=.mk k 0 s [a.sb σ,b.sb σ,c.sb σ]:=by rw[Tm.JP,dK d,dK f];rfl
def am7(f b:Int){k:Int}(s:Ty)(a:k≠1):(Tm.mk k 0 s []).up f b=.mk k 0 s []:=by rw[Tm.fE,dK (λh=>a h.1)];rfl
def amy(f b:Int){k:Int}(s:Ty)(a:Tm)(c:k≠1)(d:k≠2):(Tm.mk k 0 s [a]).up f b=.mk k 0 s [a.up f b]:=by
 rw[Tm.fE,dK (λh=>c h.1),show eT k=0 from dK d,ti];rfl
def anb(f b:Int){k:Int}(s:Ty)(x y:Tm)(a:k≠1)(c:k≠2):(Tm.mk k 0 s [x,y]).up f b=.mk k 0 s [x.up f b,y.up f b]:=by
 rw[Tm.fE,dK (λh=>a h.1),show eT k=0 from dK c,ti];rfl
def amj(f b:Int){k:Int}(s:Ty)(x y z:Tm)(a:k≠1)(c:k≠2):(Tm.mk k 0 s [x,y,z]).up f b=.mk k 0 s [x.up f b,y.up f b,z.up f b]:=by
 rw[Tm.fE,dK (λh=>a h.1),show eT k=0 from dK c,ti];rfl
def ajL(f b:Int)(s:Ty)(x:Tm):(Tm.mk 2 0 s [x]).up f b=.mk 2 0 s [x.up (f+1) b]:=by
 rw[Tm.fE,dK (λh=>absurd h.1 aal)];rfl
def ais(f b:Int)(i:Nat):(oX i).up f b=if f<=(i:Int)then .mk 1 (i+b) .z [] else oX i:=by
 unfold oX;rw[Tm.fE]
 by_cases h:f<=(i:Int)
 .rw[dO ⟨rfl,h⟩,dO h];rfl
 .rw[dK (λx=>h x.2),dK h];rfl
def getD_map{α β:Type}(f:α->β)(l:List α)(i:Nat)(d:α)(e:β)(h:i<l.length):(l.map f).getD i e=f (l.getD i d):=by
 rw[A2,A2,y',pE h];rfl
def U9{α:Type}(l m:List α)(i:Nat)(d:α)(h:i<l.length):(l++m).getD i d=l.getD i d:=by
 rw[A2,A2,uJ h]
def Mm{α:Type}(l:List α)(a:α)(i:Nat)(d:α)(h:i=l.length):(l++[a]).getD i d=a:=by
 subst h;rw[A2,tS (gY _)];simp
inductive Lk:List Int->Int->Nat->Prop
 |here {R i}:Lk (i::R) i 0|next {R i v j}:v≠i->Lk R i j->Lk (v::R) i (j+1)
theorem Lk.put{A:List Int}{i v:Int}(a:v≠i):∀{B:List Int} {j:Nat},Lk (B++A) i j->Lk (B++v::A) i (if B.length<=j then j+1 else j)
 |[],j,h=>by rw[dO (show([]:List Int).length<=j from PS _)];exact .next a h|b::B,_,.here=>by rw[dK abm];exact .here|b::B,_,.next (j:=j) c h=>by
  have:=Lk.put a (B:=B) h
  by_cases d:B.length<=j
  .rw[dO d] at this;rw[dO abv];exact .next c this
  .rw[dK d] at this;rw[dK abv];exact .next c this
inductive z_:List Int->Tm->Tm->Prop
 |var {R i j}:Lk R i j->z_ R (.mk 1 i .z []) (oX j)|lam {R v s b d}:z_ (v::R) b d->z_ R (.mk 2 v s [b]) (.mk 2 0 s [d])|n0 {R k s}:k≠1->k≠2->z_ R (.mk k 0 s []) (.mk k 0 s [])|n1 {R k s a a'}:k≠1->k≠2->z_ R a a'->z_ R (.mk k 0 s [a]) (.mk k 0 s [a'])|n2 {R k s a a' b b'}:k≠1->k≠2->z_ R a a'->z_ R b b'->z_ R (.mk k 0 s [a,b]) (.mk k 0 s [a',b'])|n3 {R k s a a' b b' c c'}:k≠1->k≠2->z_ R a a'->z_ R b b'->z_ R c c'->z_ R (.mk k 0 s [a,b,c]) (.mk k 0 s [a',b',c'])
def z_.zero{R:List Int}:z_ R Tm.z Tm.z:=.n0 aal aal
def z_.aor{R:List Int}{t d:Tm}(h:z_ R t d):t.aor=d.aor:=by
 induction h with
 |var _=>rw[oX,Tm.dL,Tm.dL]|lam _ ih=>rw[Tm.dL,Tm.dL];simp[ee,ih]|n0=>rfl|n1 _ _ _ i1=>rw[Tm.dL,Tm.dL];simp[ee,i1]|n2 _ _ _ _ i1 i2=>rw[Tm.dL,Tm.dL];simp[ee,i1,i2]|n3 _ _ _ _ _ i1 i2 i3=>rw[Tm.dL,Tm.dL];simp[ee,i1,i2,i3]
theorem z_.put{A:List Int}{v c:Int}(o:c<v){R:List Int}{t d:Tm}(h:z_ R t d):∀B:List Int,R=B++A->t.aov c=true->z_ (B++v::A) t (d.up B.length 1):=by
 induction h with
 |@var R i j h=>
  intro B f a;subst f;rw[Tm.fo] at a;simp at a;have:=h.put (A:=A) (v:=v) VW;rw[ais]
  by_cases n:B.length<=j
  .rw[dO n] at this;rw[dO VW];exact .var this
  .rw[dK n] at this;rw[dK VW];exact .var this
 |@lam R w s b d _ ih=>
  intro B f a;subst f;rw[Tm.fo] at a;simp at a;rw[ajL];have:=ih (w::B) rfl a.2;rw[kY] at this;exact .lam this
 |n0 k l=>intro B f a;rw[am7 _ _ _ k];exact .n0 k l|n1 k l _ i1=>
  intro B f a;rw[Tm.fo] at a;simp at a;rw[amy _ _ _ _ k l];exact .n1 k l (i1 B f a.2)
 |n2 k l _ _ i1 i2=>
  intro B f a;rw[Tm.fo] at a;simp at a;rw[anb _ _ _ _ _ k l];exact .n2 k l (i1 B f a.2.1) (i2 B f a.2.2)
 |n3 k l _ _ _ i1 i2 i3=>
  intro B f a;rw[Tm.fo] at a;simp at a;rw[amj _ _ _ _ _ _ k l];exact .n3 k l (i1 B f a.2.1) (i2 B f a.2.2.1) (i3 B f a.2.2.2)
def z_.up{R:List Int}{t d:Tm}(h:z_ R t d){v c:Int}(a:c<v)(b:t.aov c=true):z_ (v::R) t (d.up 0 1):=h.put a [] rfl b
def LC(R:List Int)(c:Int)(e σ:List Tm):Prop:=e.length=σ.length/\∀i,i<e.length->z_ R (e.getD i Tm.z) (σ.getD i Tm.z)/\(e.getD i Tm.z).aov c=true
def LC.up{R:List Int}{c:Int}{e σ:List Tm}(h:LC R c e σ){v:Int}(b:c<v):LC (v::R) c e (σ.map (Tm.up 0 1)):=by
 refine⟨by rw[Hn];exact h.1,λi hi=>?_⟩;obtain⟨d,a⟩:=h.2 i hi;rw[getD_map _ _ _ Tm.z _ (by rw[<-h.1];exact hi)];exact⟨d.up b a,a⟩
theorem LC.mono{R:List Int}{c a:Int}{e σ:List Tm}(h:LC R c e σ)(b:c<=a):LC R a e σ:=⟨h.1,λi hi=>⟨(h.2 i hi).1,Tm.o6 _ b (h.2 i hi).2⟩⟩
def LC.add{R:List Int}{c:Int}{e σ:List Tm}(h:LC R c e σ){t d:Tm}(a:z_ R t d)(b:t.aov c=true):LC R c (e++[t]) (σ++[d]):=by
 refine⟨by simp[h.1],λi hi=>?_⟩;rw[oV,Xo] at hi;rcases uC i e.length with h'|h'
 .rw[U9 _ _ _ _ h',U9 _ _ _ _ (by rw[<-h.1];exact h')];exact h.2 i h'
 .obtain rfl:i=e.length:=VW
  rw[Mm _ _ _ _ rfl,Mm _ _ _ _ h.1];exact⟨a,b⟩
def LC.nil{R:List Int}{c:Int}:LC R c [] []:=⟨rfl,λi hi=>by simp at hi⟩
end Go.fP
set_option maxRecDepth 20000
namespace Go.fP
open Go
def wV{f:Fm}{m:Nat}(h:f.err=0):vO (.inl (f,m))=.inl (f,fin f m):=by rw[Ia h];rfl
def Dj{x:Fm}{t:Tm}(hn:(Fm.gP 0 x t).aor<=4096):l9 x t=(Fm.gP 0 x t,0):=by unfold l9;rw[dK VW]
def MT{g b:List Ty}{r:PR}{F f:Fm}{t:Tm}{m:Nat}(c:r=.inl (f,m))(hn:(Fm.gP 0 F t).aor<=4096)(d:Hg g (Fm.gP 0 F t))(h:Hg b f)(hg:g.length<=1000000)(a:b.length<=1000000)(hm:(Fm.gP 0 F t).Fh f=0):GR r F t=.inl (f,m):=by
 subst c;show mf (l9 F t).2 (mf (B2 (l9 F t).1 f) (.inl (f,m)))=_;rw[Dj hn];show mf 0 (mf (B2 (Fm.gP 0 F t) f) (.inl (f,m)))=_;rw[iv rfl,Ex d h hg a,iv hm]
def ET{L:List Fm}{g:List Ty}{hs:List Fm}(h:zA L ⟨g,hs⟩):g.length<=16:=h.nv
def Dv.inf{L:List Fm}{g:List Ty}{hs:List Fm}{P:Pf}{f:Fm}{m:Nat}(h:Dv L g hs P f m):zA L ⟨g,hs⟩->P.inf L g hs=.inl (f,m):=by
 induction h with
 |@hyp g hs i f H y A w=>
  intro c;rw[Pf.nQ,Vr,ox VW,A2,A,Option.getD_some,wV w.err,EL]
 |@all g hs k k' s a f m d o B _ l i1=>
  intro c;obtain⟨rfl,rfl⟩:=d
  .rw[Pf.nQ,FQ,ox VW,i1 (c.xR o B)];exact wV l.err
 |@Zx g hs k k' t s a x m u d j he _ q hn i1=>
  intro c;have:=ET c;obtain⟨D,r⟩:=kV he;have v:=tB q.ty j hn;obtain⟨rfl,rfl,rfl⟩:=d
  .rw[Pf.nQ,VI,mo j c.ctx VW,iv rfl,i1 c,Df (Fm.eD _ _ _ _),iP,ox (by show¬s.lj s=false;rw[vM];decide)];show vO (mf (l9 x t).2 (.inl ((l9 x t).1,_)))=_;rw[Dj hn];exact wV v.err
 |@ex g hs k k' t s a x f m u d hF j he q _ l hn hm i1=>
  intro c;have:=ET c;have:=hF.aor;obtain⟨D,r⟩:=kV he;have v:=tB q.ty j hn;obtain⟨rfl,rfl,rfl⟩:=d
  .rw[Pf.nQ,OJ,iv (o0 hF.ty c.ctx VW),ox abm,mo j c.ctx VW,iv rfl,ox (by show¬s.lj s=false;rw[vM];decide)];show vO (pbind (GR (a.inf L g hs) x t) _)=_;rw[MT (i1 c) hn v l VW VW hm];exact wV hF.err
 |@opn g hs k k' s a b x f m n d _ o B I q _ l hw v i1 i2=>
  intro c;have C:zA L ⟨g++[s],hs.map (Fm.up 0 1)++[x]⟩:=(c.xR o B).with q (by show(hs.map (Fm.up 0 1)).length+1<=16;simp;omega);obtain⟨rfl,rfl⟩:=d
  .rw[Pf.nQ,Ei,i1 c,Df (Fm.eD _ _ _ _),iP,ox VW];show vO (pbind (b.inf L (g++[s]) (hs.map (Fm.up 0 1)++[x])) _)=_;rw[i2 C,iP,iv hw];exact wV v.err
 |@refl g hs t j he l=>
  intro c;have:=ET c;obtain⟨D,r⟩:=kV he;have d:=F7 j c.ctx VW;rw[show Ty.nat.aop=1 from rfl] at d;rw[Pf.nQ,O0,iv d,wV l.err,EL]
 |@subst g hs F a b t u f m n hF _ j hu het G _ l y A w i1 i2=>
  intro c;have:=ET c;have:=hF.aor;rw[Pf.nQ,Ig,iv (o0 hF.ty c.ctx.nat (by simp only[oV,kY,wZ];omega)),i1 c,Df (Fm.eD _ _ _ _),iP];show vO (pbind (GR (b.inf L g hs) F t) λ_ n=>mf (l9 F u).2 (.inl ((l9 F u).1,n)))=_;rw[MT (i2 c) y (tB hF.ty j y) l VW VW A,iP,Dj w];exact wV (tB hF.ty hu w).err
mutual
def Fm.H4:Fm->Ty
 |.mk k s _ l=>
  if k=2 then(if Fm.CR l then(if Fm.oc l then .mk 3 [Fm.Ax l,Fm.sR l] else Fm.Ax l)else Fm.sR l)
  else if k=3 then(if Fm.CR l then .mk 4 [Fm.Ax l,Fm.sR l] else Fm.sR l)
  else if k=4 then .mk 4 [s,Fm.sR l]
  else if k=5 then(if Fm.oc l then .mk 3 [s,Fm.sR l] else s)
  else Fm.sR l
def Fm.Ax:List Fm->Ty
 |[]=>.mk 5 []|f::_=>f.H4
def Fm.sR:List Fm->Ty
 |[]=>.mk 5 []|[f]=>f.H4|_::f::l=>Fm.sR (f::l)
def Fm.CR:List Fm->Bool
 |[]=>false|f::_=>f.has
end
def aaK(x:Fm)(s:Ty)(ts:List Tm):(Fm.mk 5 s ts [x]).has=true:=by rw[Fm.ug];rfl
def UT{k:Int}(a:k=4\/k=6\/k=7)(x:Fm)(s:Ty)(ts:List Tm):(Fm.mk k s ts [x]).has=x.has:=by rw[Fm.ug,dK VW,dK VW]
def csF(f:Fm):Nat:=if f.has then f.H4.aor else 0
def fOf(r:PR):Fm:=match r with|.inl p=>p.1|.inr _=>oE
@[simp] theorem UW(f:Fm)(m:Nat):fOf (.inl (f,m))=f:=rfl
def Tr(r:Option Tm):Option Tm:=r.bind λt=>if t.aor<=4096 then some t else none
def aaT{r:Option Tm}{d:Tm}(h:Tr r=some d):r=some d/\d.aor<=4096:=by
 unfold Tr at h;cases r with
 |none=>cases h
 |some t=>
  simp only[Nf] at h
  split at h
  .obtain rfl:=hU h;exact⟨rfl,‹_›⟩
  .cases h
def Fj{d:Tm}(h:d.aor<=4096):Tr (some d)=some d:=by unfold Tr;rw[Nf,dO h]
def ctO(f:Fm)(k:Ty->Option Tm):Option Tm:=if f.Pn.2=0 then k f.Pn.1 else none
noncomputable def dfl (s:Ty):Tm:=(pq FU s).getD Tm.z
def tn(σ:List Tm):List Tm:=σ.map (Tm.up 0 1)
noncomputable def exR (Ts:List Tm) (k i:Int) (s:Ty) (ts:List Tm) (fs:List Fm) (inf:Nat->List Ty->List Fm->PR) (sub:Nat->List Ty->List Fm->List Tm->List Tm->Option Tm) (g:List Ty) (hs:List Fm) (σ τ:List Tm):Option Tm:=
 let t:=(ts.getD 0 Tm.z).sb σ
 let F:=fs.getD 0 oE
 let f:=fOf (inf 0 g hs)
 let a:=f.aoq.getD 0 oE
 if k=1 then some (τ.getD (τ.length-1-i.toNat) Tm.z)
 else if k=2 then some (Ts.getD i.toNat Tm.z)
 else if k=3 then(if f.has then(sub 0 g hs σ τ).bind λx=>if(fOf (inf 1 g hs)).has then(sub 1 g hs σ τ).bind λy=>some (.mk 10 0 .z [x,y])else some x else sub 1 g hs σ τ)
 else if k=4 then(sub 0 g hs σ τ).bind λx=>some (if a.has=true/\(f.aoq.getD 1 oE).has then .mk 11 0 .z [x] else x)
 else if k=5 then(sub 0 g hs σ τ).bind λx=>some (if a.has=true/\(f.aoq.getD 1 oE).has then .mk 12 0 .z [x] else x)
 else if k=6 then(if F.has then ctO F λu=>(sub 0 g (hs++[F]) (tn σ) (tn τ++[oX 0])).bind λx=>some (.mk 2 0 u [x])else sub 0 g (hs++[F]) σ (τ++[Tm.z]))
 else if k=7 then(sub 0 g hs σ τ).bind λx=>if a.has then(sub 1 g hs σ τ).bind λy=>some (ef x y)else some x
 else if k=8 then(sub 0 (g++[s]) (hs.map (Fm.up 0 1)) (tn σ++[oX 0]) (tn τ)).bind λx=>some (.mk 2 0 s [x])
 else if k=9 then(sub 0 g hs σ τ).bind λx=>some (ef x t)
 else if k=10 then(if(F.aoq.getD 0 oE).has then(sub 0 g hs σ τ).bind λx=>some (.mk 10 0 .z [t,x])else some t)
 else if k=11 then(sub 0 g hs σ τ).bind λx=>
  if a.has then ctO f λu=>(sub 1 (g++[f.dM]) (hs.map (Fm.up 0 1)++[a]) (tn σ++[.mk 11 0 .z [oX 0]]) (tn τ++[.mk 12 0 .z [oX 0]])).bind λy=>some (ef (.mk 2 0 u [y]) x)
  else(sub 1 (g++[f.dM]) (hs.map (Fm.up 0 1)++[a]) (tn σ++[oX 0]) (tn τ++[Tm.z])).bind λy=>some (ef (.mk 2 0 f.dM [y]) x)
 else if k=12 then sub 0 (g++[s]) (hs.map (Fm.up 0 1)) (σ++[dfl s]) τ
 else if k=15 then(if f.has then(sub 0 g hs σ τ).bind λx=>ctO f λu=>(sub 1 (g++[f.dM]) (hs.map (Fm.up 0 1)++[a]) (tn σ++[dfl f.dM]) (tn τ++[oX 0])).bind λy=>some (ef (.mk 2 0 u [y]) x)
  else sub 1 (g++[f.dM]) (hs.map (Fm.up 0 1)++[a]) (σ++[dfl f.dM]) (τ++[Tm.z]))
 else if k=16 then ctO F λu=>(sub 0 g hs σ τ).bind λx=>(sub 1 (g++[.nat]) (hs.map (Fm.up 0 1)++[F]) (tn (tn σ++[oX 0])) (tn (tn τ)++[oX 0])).bind λy=>some (.mk 6 0 u [x,.mk 2 0 .nat [.mk 2 0 u [y]],t])
 else if k=17 then ctO F λu=>(sub 0 g hs σ τ).bind λx=>(sub 1 (g++[.nat]++[.uK]) (hs.map (Fm.up 0 2)++[F.up 1 1]) (tn (tn (tn σ++[oX 0])++[oX 0])) (tn (tn (tn τ))++[oX 0])).bind λy=>some (.mk 9 0 u [x,.mk 2 0 .nat [.mk 2 0 .uK [.mk 2 0 u [y]]],t])
 else if k=19 then sub 1 g hs σ τ
 else if k=20 then(sub 0 g hs σ τ).bind λx=>if(a.aoq.getD 0 oE).has then ctO f λu=>some (ef (.mk 2 0 u [.mk 10 0 .z [.mk 2 0 f.dM [.mk 11 0 .z [ef (oX 1) (oX 0)]],.mk 2 0 f.dM [.mk 12 0 .z [ef (oX 1) (oX 0)]]]]) x)else some x
 else sub 0 g hs σ τ
mutual
noncomputable def Pf.ex (L:List Fm) (Ts:List Tm):Pf->List Ty->List Fm->List Tm->List Tm->Option Tm
 |.mk k i s ts fs l,g,hs,σ,τ=>Tr (exR Ts k i s ts fs (Pf.Hl L l) (Pf.exL L Ts l) g hs σ τ)
noncomputable def Pf.exL (L:List Fm) (Ts:List Tm):List Pf->Nat->List Ty->List Fm->List Tm->List Tm->Option Tm
 |[],_,_,_,_,_=>none|p::_,0,g,hs,σ,τ=>p.ex L Ts g hs σ τ|_::l,n+1,g,hs,σ,τ=>Pf.exL L Ts l n g hs σ τ
end
def Fm.X'{g:Fm->Fm}{k:Int}{s:Ty}{ts us:List Tm}{l:List Fm}(h:∀x∈l,(g x).H4=x.H4/\(g x).has=x.has):(Fm.mk k s us (l.map g)).H4=(Fm.mk k s ts l).H4:=by
 rw[Fm.H4,Fm.H4]
 have a:Fm.Ax (l.map g)=Fm.Ax l:=by cases l with|nil=>rfl|cons x l=>simp[Fm.Ax,(h x abm).1]
 have b:Fm.CR (l.map g)=Fm.CR l:=by cases l with|nil=>rfl|cons x l=>simp[Fm.CR,(h x abm).2]
 have c:Fm.sR (l.map g)=Fm.sR l/\Fm.oc (l.map g)=Fm.oc l:=by
  clear a b
  induction l with
  |nil=>exact⟨rfl,rfl⟩|cons x l ih=>
   cases l with
   |nil=>simp[Fm.sR,Fm.oc,h x abm]|cons y l=>simpa[Fm.sR,Fm.oc] using ih λz d=>h z (by simp[d])
 rw[a,c.1,c.2,b]
def Fm.af3(t:Fm):∀f b,(t.up f b).H4=t.H4:=by
 induction t using Fm.ind with
 |h k s ts l ih=>intro f b;rw[Fm.fE];exact Fm.X' λx a=>⟨ih x a _ _,(x.ae2 _ _).2⟩
def rl.H4{a b:Fm}(h:rl a b):a.H4=b.H4:=by
 induction h with
 |eq _ _=>rw[Fm.H4,Fm.H4]|@two k a d b i c f i1 i2=>
  rw[Fm.H4,Fm.H4];simp only[Fm.Ax,Fm.sR,Fm.CR,Fm.oc,i1,i2,c.has,f.has];rfl
 |@q k s a d c i1=>
  rw[Fm.H4,Fm.H4];simp only[Fm.Ax,Fm.sR,Fm.CR,Fm.oc,i1,c.has];rfl
def V6{g:List Ty}{s:Ty}{f:Fm}(h:Hg (g++[s]) f)(hg:g.length<=1000)(d:(yz f).2=0):(yz f).1.has=f.has/\(yz f).1.H4=f.H4:=by
 have c:=aaR h hg d;have a:=c.has;have b:=c.H4;rw[((yz f).1.ae2 0 1).2] at a;rw[(yz f).1.af3 0 1] at b;exact⟨a.symm,b.symm⟩
mutual
def Pf.cs(B:Nat):Pf->Nat->Nat
 |.mk k _ s _ fs l,H=>
  if k=1 then H
  else if k=2 then B
  else if k=3 then 1+Pf.VZ B l 0 H+Pf.VZ B l 1 H
  else if k=6 then 1+csF (fs.getD 0 oE)+Pf.VZ B l 0 (max H (csF (fs.getD 0 oE)))
  else if k=8\/k=12 then 1+s.aor+Pf.VZ B l 0 H
  else if k=11\/k=15 then 1+Pf.VZ B l 0 H+Pf.VZ B l 1 (max H (Pf.VZ B l 0 H))
  else if k=16\/k=17 then max (5+2*csF (fs.getD 0 oE)) (max (Pf.VZ B l 0 H) (Pf.VZ B l 1 (max H (csF (fs.getD 0 oE)))))
  else if k=20 then 1+3*Pf.VZ B l 0 H
  else max (csF (fs.getD 0 oE)) (max (Pf.VZ B l 0 H) (Pf.VZ B l 1 H))
def Pf.VZ(B:Nat):List Pf->Nat->Nat->Nat
 |[],_,_=>0|p::_,0,H=>p.cs B H|_::l,n+1,H=>Pf.VZ B l n H
end
end Go.fP
set_option maxRecDepth 20000
namespace Go.fP
open Go
section
variable(L:List Fm) (Ts:List Tm) (g:List Ty) (hs:List Fm) (σ τ:List Tm)
def U8(s:Ty)(a:Pf):(Pf.mk 8 0 s [] [] [a]).ex L Ts g hs σ τ=Tr ((a.ex L Ts (g++[s]) (hs.map (Fm.up 0 1)) (tn σ++[oX 0]) (tn τ)).bind λx=>some (.mk 2 0 s [x])):=rfl
def ahH(t:Tm)(a:Pf):(Pf.mk 9 0 .z [t] [] [a]).ex L Ts g hs σ τ=Tr ((a.ex L Ts g hs σ τ).bind λx=>some (ef x (t.sb σ))):=rfl
def acP(t:Tm)(F:Fm)(a:Pf):(Pf.mk 10 0 .z [t] [F] [a]).ex L Ts g hs σ τ=Tr (if(F.aoq.getD 0 oE).has then(a.ex L Ts g hs σ τ).bind λx=>some (.mk 10 0 .z [t.sb σ,x])else some (t.sb σ)):=rfl
def RA(a b:Pf):(Pf.mk 11 0 .z [] [] [a,b]).ex L Ts g hs σ τ=Tr ((a.ex L Ts g hs σ τ).bind λx=>
 if((fOf (a.inf L g hs)).aoq.getD 0 oE).has then ctO (fOf (a.inf L g hs)) λu=>(b.ex L Ts (g++[(fOf (a.inf L g hs)).dM]) (hs.map (Fm.up 0 1)++[(fOf (a.inf L g hs)).aoq.getD 0 oE]) (tn σ++[.mk 11 0 .z [oX 0]]) (tn τ++[.mk 12 0 .z [oX 0]])).bind λy=>some (ef (.mk 2 0 u [y]) x)
 else(b.ex L Ts (g++[(fOf (a.inf L g hs)).dM]) (hs.map (Fm.up 0 1)++[(fOf (a.inf L g hs)).aoq.getD 0 oE]) (tn σ++[oX 0]) (tn τ++[Tm.z])).bind λy=>some (ef (.mk 2 0 (fOf (a.inf L g hs)).dM [y]) x)):=rfl
end
def Rl{r:Option Tm}{k:Tm->Option Tm}{d:Tm}(h:r.bind k=some d):∃x,r=some x/\k x=some d:=by
 cases r with
 |none=>cases h
 |some x=>exact⟨x,rfl,h⟩
end Go.fP
set_option maxRecDepth 20000
namespace Go.fP
open Go
def Rz{n:Int}(a:0<=n)(h:n<=4000000000000000000):eH .i64 n 1=n+1:=e9 VW VW
def tF{t:Tm}{c a:Int}(h:t.aov c=true)(b:c<=a):t.aov a=true:=Tm.o6 t b h
def Nt{k:Int}{s:Ty}{a:Tm}{c:Int}(b:0<=c)(h:a.aov c=true):(Tm.mk k 0 s [a]).aov c=true:=by rw[Tm.fo];simp[b,h]
def D7{k:Int}{s:Ty}{a b:Tm}{c:Int}(d:0<=c)(h:a.aov c=true)(f:b.aov c=true):(Tm.mk k 0 s [a,b]).aov c=true:=by rw[Tm.fo];simp[d,h,f]
def aeq{k:Int}{s:Ty}{a b d:Tm}{c:Int}(i:0<=c)(h:a.aov c=true)(j:b.aov c=true)(f:d.aov c=true):(Tm.mk k 0 s [a,b,d]).aov c=true:=by rw[Tm.fo];simp[i,h,j,f]
def BB{v:Int}{s:Ty}{a:Tm}{c:Int}(b:v<=c)(h:a.aov c=true):(Tm.mk 2 v s [a]).aov c=true:=by rw[Tm.fo];simp[b,h]
def Fz{v c:Int}(a:v<=c):(Tm.mk 1 v .z []).aov c=true:=by rw[Tm.fo];simp[a]
def UG{k:Int}{s:Ty}{c:Int}(a:0<=c):(Tm.mk k 0 s []).aov c=true:=by rw[Tm.fo];simp[a]
inductive Run {β:Type} (E:β->Tm->Option (Tm×β)):List Tm->β->List Tm->β->Prop
 |nil {b}:Run E [] b [] b|cons {x y l m b b1 b2}:E b x=some (y,b1)->Run E l b1 m b2->Run E (x::l) b (y::m) b2
def Run.loop{β ρ:Type}{E:β->Tm->Option (Tm×β)}{aoq:List Tm}{F:Int×List Tm×β->Option (fp (Int×List Tm×β) ρ)}
  (hF:∀i out b,F (i,out,b)=if pH i (eE aoq) then dH (dW aoq i) λx=>dR (E b x) λy c=>gq (fM out [y]) (some (.next (eH .i64 i 1,fW out [y],c)))else some (.xA (i,out,b)))
  (j:aoq.length<=100000) {l:List Tm} {b:β} {m:List Tm} {c:β} (h:Run E l b m c):∀(pre out:List Tm) (n:Nat),aoq=pre++l->out.length<=pre.length->l.length<n->jL F n ((pre.length:Int),out,b)=some (.inl ((aoq.length:Int),out++m,c)):=by
 induction h with
 |@nil b=>
  intro pre out n a d hn;obtain⟨n,rfl⟩:∃k,n=k+1:=⟨n-1,VW⟩
  have e:pre.length=aoq.length:=by rw[a];simp
  rw[gM,hF,e,dK (by rw[jA,fV];omega),dI,sC,yc]
 |@cons x y l m b o q f _ ih=>
  intro pre out n a d hn;obtain⟨n,rfl⟩:∃k,n=k+1:=⟨n-1,VW⟩
  have e:aoq.length=pre.length+1+l.length:=by rw[a];simp;omega
  have hg:dW aoq (pre.length:Int)=some x:=by rw[gS,a,tS (gY _)];simp
  rw[gM,hF,dO (by rw[jA,fV];omega),hg,dI,f,dP,fk abv,dU,dI,eQ,Rz VW VW,ig];have:=ih (pre++[x]) (out++[y]) n (by rw[a];simp) abv (by simp at hn;omega);rw[oV,Xo] at this;rw[show((pre.length:Int)+1)=((pre.length+1:Nat):Int) by omega,this];simp
def RC{ρ:Type}{E:Tm->Option Tm}{aoq:List Tm}{F:Int×List Tm->Option (fp (Int×List Tm) ρ)}
  (hF:∀i out,F (i,out)=if pH i (eE aoq) then dH (dW aoq i) λx=>dH (E x) λy=>gq (fM out [y]) (some (.next (eH .i64 i 1,fW out [y])))else some (.xA (i,out)))
  (d:aoq.length<=100000):∀(l m pre out:List Tm) (n:Nat),l.map E=m.map some->aoq=pre++l->out.length<=pre.length->l.length<n->jL F n ((pre.length:Int),out)=some (.inl ((aoq.length:Int),out++m)):=by
 intro l
 induction l with
 |nil=>
  intro m pre out n hm a b hn;obtain⟨n,rfl⟩:∃k,n=k+1:=⟨n-1,VW⟩
  obtain rfl:m=[]:=by cases m with|nil=>rfl|cons _ _=>simp at hm
  have e:pre.length=aoq.length:=by rw[a];simp
  rw[gM,hF,e,dK (by rw[jA,fV];omega),dI,sC,yc]
 |cons x l ih=>
  intro m pre out n hm a b hn;obtain⟨n,rfl⟩:∃k,n=k+1:=⟨n-1,VW⟩
  obtain⟨y,m,rfl⟩:∃y c,m=y::c:=by cases m with|nil=>simp at hm|cons y m=>exact⟨y,m,rfl⟩
  simp only[pP,QT] at hm
  have e:aoq.length=pre.length+1+l.length:=by rw[a];simp;omega
  have hg:dW aoq (pre.length:Int)=some x:=by rw[gS,a,tS (gY _)];simp
  rw[gM,hF,dO (by rw[jA,fV];omega),hg,dI,hm.1,dI,fk abv,dU,dI,eQ,Rz VW VW,ig];have:=ih m (pre++[x]) (out++[y]) n hm.2 (by rw[a];simp) abv (by simp at hn;omega);rw[oV,Xo] at this;rw[show((pre.length:Int)+1)=((pre.length+1:Nat):Int) by omega,this];simp
def U3{l:List Tm}{t:Tm}(h:l.length<=900000000):oW l t=some (l++[t]):=by
 unfold oW;rw[fk abv,dU,fk abv,dU];simp
structure NmR (b b':dS) (R:List Int) (t d:Tm) (k:Nat):Prop where
 Ag:b'.lemmas=b.lemmas
 HY:b'.ek=b.ek
 lo:b.next<=b'.next
 hi:b'.next<=b.next+k
 nm:z_ R t d
 le:t.aov b'.next=true
def IX(n:Nat)(b:dS)(k i:Int)(s:Ty)(l e:List Tm):eP (n+1) b (.mk k i s l) e=if(eo k 1) then(dH (dW e (fD .i64 (fD .i64 (eE e) 1) i)) λt=>some (t,b))
 else(if(eo k 2) then(dR (eM b) λd d57=>dH (dW l 0) λh=>dH (fS d) λj=>dH (oW e j) λo=>dR (eP n d57 h o) λq d93=>some ((Tm.mk k d s [q]),d93))
 else(dH (jL (ρ:=Tm×dS) (T3 λ(v210:Int) (a:List Tm) (v212:dS)=>if(pH v210 (eE l)) then(dH (dW l v210) λf=>dR (eP n v212 f e) λc d241=>gq (fM a [c])<|some (.next ((eH .i64 v210 1),(fW a [c]),d241)))else(some (.xA (v210,a,v212)))) FU (0,[],b))
  (fQ (T3 λ(v210:Int) (a:List Tm) (v212:dS)=>some ((Tm.mk k 0 s a),v212)) (λr=>some r)))):=by rw[eP];rfl
def BL{n:Nat}{k:Int}{s:Ty}{l m:List Tm}{b f:dS}{e:List Tm}(j:k≠1)(o:k≠2)(q:l.length<=3)(h:Run (λb x=>eP n b x e) l b m f):eP (n+1) b (.mk k 0 s l) e=some (.mk k 0 s m,f):=by
 rw[IX,dK (by rw[gi];exact j),dK (by rw[gi];exact o)]
 have:=h.loop (ρ:=Tm×dS) (aoq:=l) (F:=T3 λ(v210:Int) (a:List Tm) (v212:dS)=>if(pH v210 (eE l)) then(dH (dW l v210) λd=>dR (eP n v212 d e) λc d241=>gq (fM a [c])<|some (.next ((eH .i64 v210 1),(fW a [c]),d241)))else(some (.xA (v210,a,v212))))
  (λi out b=>rfl) VW [] [] FU rfl abm (by rw[fl];omega)
 rw[show(([]:List Tm).length:Int)=0 from rfl] at this;rw[this,dI,ew,n9];rfl
def vX(g:List Ty)(t:Tm):Prop:=∀(n:Nat) (b:dS) (R:List Int) (e σ:List Tm),t.aor<=n->LC R b.next e σ->e.length=g.length->g.length+t.aor<=1000000->0<=b.next->b.next+t.aor<=4000000000000000000->∃a c,eP n b t e=some (a,c)/\NmR b c R a (t.sb σ) t.aor
def vX.none{g:List Ty}{k:Int}{s:Ty}(a:k≠1)(c:k≠2):vX g (.mk k 0 s []):=by
 intro n b R e σ hn he f hg d h;obtain⟨n,rfl⟩:∃k,n=k+1:=⟨n-1,by have:=(Tm.mk k 0 s []).eF;omega⟩;exact⟨_,b,BL a c abm .nil,rfl,rfl,Hu _,VW,by rw[aes _ _ a c];exact .n0 a c,UG d⟩
def vX.one{g:List Ty}{k:Int}{s:Ty}{x:Tm}(c:k≠1)(d:k≠2)(f:vX g x):vX g (.mk k 0 s [x]):=by
 intro n b R e σ hn he h hg i j
 have l:(Tm.mk k 0 s [x]).aor=1+x.aor:=by rw[Tm.dL];simp[ee]
 rw[l] at hn hg j|-;obtain⟨n,rfl⟩:∃k,n=k+1:=⟨n-1,VW⟩;obtain⟨q,o,q1,a⟩:=f n b R e σ VW he h VW i VW;have:=a.lo;have:=a.hi;exact⟨_,o,BL c d abm (.cons q1 .nil),a.Ag,a.HY,VW,VW,by rw[adO _ _ _ c d];exact .n1 c d a.nm,Nt VW a.le⟩
def vX.two{g:List Ty}{k:Int}{s:Ty}{x y:Tm}(d:k≠1)(f:k≠2)(i:vX g x)(hy:vX g y):vX g (.mk k 0 s [x,y]):=by
 intro n b R e σ hn he h hg j l
 have o:(Tm.mk k 0 s [x,y]).aor=1+x.aor+y.aor:=by rw[Tm.dL];simp[ee];omega
 rw[o] at hn hg l|-;obtain⟨n,rfl⟩:∃k,n=k+1:=⟨n-1,VW⟩;obtain⟨u,q,q1,a⟩:=i n b R e σ VW he h VW j VW;have:=a.lo;have:=a.hi;obtain⟨v,r,t,c⟩:=hy n q R e σ VW (he.mono VW) h VW VW VW;have:=c.lo;have:=c.hi;exact⟨_,r,BL d f abm (.cons q1 (.cons t .nil)),c.Ag.trans a.Ag,c.HY.trans a.HY,VW,VW,by rw[aaa _ _ _ _ d f];exact .n2 d f a.nm c.nm,D7 VW (tF a.le VW) c.le⟩
def vX.three{g:List Ty}{k:Int}{s:Ty}{x y z:Tm}(f:k≠1)(h:k≠2)(j:vX g x)(hy:vX g y)(l:vX g z):vX g (.mk k 0 s [x,y,z]):=by
 intro n b R e σ hn he i hg o q
 have r:(Tm.mk k 0 s [x,y,z]).aor=1+x.aor+y.aor+z.aor:=by rw[Tm.dL];simp[ee];omega
 rw[r] at hn hg q|-;obtain⟨n,rfl⟩:∃k,n=k+1:=⟨n-1,VW⟩;obtain⟨B,t,q1,a⟩:=j n b R e σ VW he i VW o VW;have:=a.lo;have:=a.hi;obtain⟨C,u,v,c⟩:=hy n t R e σ VW (he.mono VW) i VW VW VW;have:=c.lo;have:=c.hi;obtain⟨D,w,A,d⟩:=l n u R e σ VW (he.mono VW) i VW VW VW;have:=d.lo;have:=d.hi;exact⟨_,w,BL f h abm (.cons q1 (.cons v (.cons A .nil))),d.Ag.trans (c.Ag.trans a.Ag),d.HY.trans (c.HY.trans a.HY),VW,VW,by rw[agt _ _ _ _ _ f h];exact .n3 f h a.nm c.nm d.nm,aeq VW (tF a.le VW) (tF c.le VW) d.le⟩
def acT{g:List Ty}{t:Tm}{s:Ty}(h:eg g t s):vX g t:=by
 induction h with
 |@var g t i f c=>
  intro n b R e σ hn he j hg l o;obtain⟨n,rfl⟩:∃k,n=k+1:=⟨n-1,by have:=(Tm.mk 1 (i:Int) .z []).eF;omega⟩;obtain⟨a1,a2⟩:=he.2 (e.length-1-i) VW;refine⟨e.getD (e.length-1-i) Tm.z,b,?_,rfl,rfl,Hu _,VW,?_,a2⟩
  .rw[IX]
   have q:fD .i64 (fD .i64 (eE e) 1) (i:Int)=((e.length-1-i:Nat):Int):=by
    rw[fV,fF (a:=(e.length:Int)) (b:=1) VW VW,fF VW VW];omega
   rw[dO aal,q,gS,pE VW,dI,A2,pE VW];rfl
  .rw[SB,<-he.1];exact a1
 |@lam g s x t r A ih=>
  intro n b R e σ hn he j hg l o
  have u:(Tm.mk 2 0 s [x]).aor=1+x.aor:=by rw[Tm.dL];simp[ee]
  rw[u] at hn hg o|-;obtain⟨n,rfl⟩:∃k,n=k+1:=⟨n-1,VW⟩;have w:LC ((b.next+1)::R) (b.next+1) (e++[.mk 1 (b.next+1) .z []]) (σ.map (Tm.up 0 1)++[oX 0]):=((he.up (v:=b.next+1) VW).mono VW).add (.var .here) (Fz (Hu _));obtain⟨y,d,f,c⟩:=ih n ⟨b.lemmas,b.ek,b.next+1⟩ ((b.next+1)::R) _ _ VW w (by simp[j]) abv (by show 0<=b.next+1;omega) (by show b.next+1+_<=_;omega)
  have B:b.next+1<=d.next:=c.lo
  have C:d.next<=b.next+1+x.aor:=c.hi
  refine⟨.mk 2 (b.next+1) s [y],d,?_,c.Ag,c.HY,VW,VW,?_,BB VW c.le⟩
  .rw[IX,dK aal,dO aal];unfold eM fS;rw[dP,Rz l VW,show dW [x] 0=some x from rfl,dI,dI,U3 VW,dI];show dR (eP n ⟨b.lemmas,b.ek,b.next+1⟩ x (e++[.mk 1 (b.next+1) .z []])) _=_;rw[f,dP]
  .rw[aaA];exact .lam c.nm
 |app _ _ i1 i2=>exact .two aal aal i1 i2|zero=>exact .none aal aal|succ _ i1=>exact .one aal aal i1|sF _ _ _ _ i1 i2 i3=>exact .three aal aal i1 i2 i3|nil=>exact .none aal aal|cons _ _ i1 i2=>exact .two aal aal i1 i2|fold _ _ _ _ i1 i2 i3=>exact .three aal aal i1 i2 i3|pair _ _ _ i1 i2=>exact .two aal aal i1 i2|fst _ i1=>exact .one aal aal i1|snd _ i1=>exact .one aal aal i1|unit=>exact .none aal aal
def FO(n:Nat)(k i:Int)(s:Ty)(l:List Tm)(a1:List Int):jJ (n+1) (.mk k i s l) a1=if(eo k 1) then(dH (jL (ρ:=Tm) (λ(v212:Int)=>if(qz v212 0) then(dH (dW a1 v212) λd=>if(eo d i) then(dH (fS (fD .i64 (fD .i64 (eE a1) 1) v212)) λf=>some (.ret f))else(some (.next (fD .i64 v212 1))))else(some (.xA v212))) FU (fD .i64 (eE a1) 1)) (fQ (λ(v212:Int)=>some (.mk k i s l)) (λr=>some r)))
 else en (λ(h:List Int)=>dH (jL (ρ:=Tm) (re λ(a:Int) (b:List Tm)=>if(pH a (eE l)) then(dH (dW l a) λj=>dH (jJ n j h) λc=>gq (fM b [c])<|some (.next ((eH .i64 a 1),(fW b [c]))))else(some (.xA (a,b)))) FU (0,[])) (fQ (re λ(a:Int) (b:List Tm)=>some (Tm.mk k 0 s b)) (λr=>some r))) λj252=>
  if(eo k 2) then(gq (fM [] a1)<|gq (fM (fW [] a1) [i])<|j252 (fW (fW [] a1) [i]))else(j252 a1):=by rw[jJ];rfl
def Sy{i:Int}{a1:List Int}(hlen:a1.length<=1000000):∀{R:List Int} {j:Nat},Lk R i j->∀(q:List Int) (n:Nat),a1=R.reverse++q->R.length<n->jL (ρ:=Tm) (λ(v212:Int)=>if(qz v212 0) then(dH (dW a1 v212) λd=>if(eo d i) then(dH (fS (fD .i64 (fD .i64 (eE a1) 1) v212)) λf=>some (.ret f))else(some (.next (fD .i64 v212 1))))else(some (.xA v212))) n ((R.length:Int)-1)=some (.inr (oX (q.length+j))):=by
 intro R j h
 induction h with
 |@here R i=>
  intro q n c hn;obtain⟨n,rfl⟩:∃k,n=k+1:=⟨n-1,VW⟩
  have el:a1.length=R.length+1+q.length:=by rw[c];simp;omega
  have e:(((i::R).length:Int)-1)=((R.length:Nat):Int):=by rw[kY];omega
  have hg:dW a1 ((R.length:Nat):Int)=some i:=by rw[gS,c,agE,tv,tS abm];simp
  rw[e,gM,dO (by unfold qz;simp),hg,dI,dO (by rw[gi]),fV,fF (a:=(a1.length:Int)) (b:=1) VW VW,fF VW VW];show some (Sum.inr _)=_;unfold oX;rw[show(a1.length:Int)-1-(R.length:Int)=((q.length+0:Nat):Int) by omega];rfl
 |@next R i v j l _ ih=>
  intro q n c hn;obtain⟨n,rfl⟩:∃k,n=k+1:=⟨n-1,VW⟩
  have el:a1.length=R.length+1+q.length:=by rw[c];simp;omega
  have e:(((v::R).length:Int)-1)=((R.length:Nat):Int):=by rw[kY];omega
  have hg:dW a1 ((R.length:Nat):Int)=some v:=by rw[gS,c,agE,tv,tS abm];simp
  have:=ih (v::q) n (by rw[c];simp) (by simp at hn;omega);rw[e,gM,dO (by unfold qz;simp),hg,dI,dK (by rw[gi];exact l),dI,eQ,fF (a:=(R.length:Int)) (b:=1) VW VW,this,kY];rw[show q.length+1+j=q.length+(j+1) by omega]
def yT{n:Nat}{k:Int}{s:Ty}{l m:List Tm}{sc:List Int}(f:k≠1)(j:k≠2)(o:l.length<=3)(h:l.map (λx=>jJ n x sc)=m.map some):jJ (n+1) (.mk k 0 s l) sc=some (.mk k 0 s m):=by
 rw[FO,dK (by rw[gi];exact f),dY,dK (by rw[gi];exact j)]
 have:=RC (ρ:=Tm) (aoq:=l) (E:=λx=>jJ n x sc) (F:=re λ(a:Int) (b:List Tm)=>if(pH a (eE l)) then(dH (dW l a) λd=>dH (jJ n d sc) λc=>gq (fM b [c])<|some (.next ((eH .i64 a 1),(fW b [c]))))else(some (.xA (a,b))))
  (λi out=>rfl) VW l m [] [] FU h rfl abm (by rw[fl];omega)
 rw[show(([]:List Tm).length:Int)=0 from rfl] at this
 refine(congrArg (dH · _) this).trans ?_
 rw[dI,ew,n9];rfl
def YQ{R:List Int}{t d:Tm}(h:z_ R t d):∀n,t.aor<=n->R.length+t.aor<=1000000->jJ n t R.reverse=some d:=by
 have pos:=λt:Tm=>t.eF
 induction h with
 |@var R i j h=>
  intro n hn o;obtain⟨n,rfl⟩:∃k,n=k+1:=⟨n-1,by have:=pos (.mk 1 i .z []);omega⟩
  have e:fD .i64 (eE R.reverse) 1=(R.length:Int)-1:=by rw[fV,List.length_reverse,fF VW VW]
  have A:=Sy (a1:=R.reverse) abv h [] FU abm (by rw[fl];omega);rw[<-e] at A;rw[FO,dO aal,A,dI];simp[fQ]
 |@lam R v s b d _ ih=>
  intro n hn o
  have r:(Tm.mk 2 v s [b]).aor=1+b.aor:=by rw[Tm.dL];simp[ee]
  rw[r] at hn o;obtain⟨n,rfl⟩:∃k,n=k+1:=⟨n-1,VW⟩;have hi:=ih n VW abv;rw[agE] at hi;rw[FO,dK aal,dY,dO aal,fk abv,dU,fk abv,dU,ig,ig,n9]
  have:=RC (ρ:=Tm) (aoq:=[b]) (E:=λx=>jJ n x (R.reverse++[v])) (F:=re λ(f:Int) (l:List Tm)=>if(pH f (eE [b])) then(dH (dW [b] f) λy=>dH (jJ n y (R.reverse++[v])) λq=>gq (fM l [q])<|some (.next ((eH .i64 f 1),(fW l [q]))))else(some (.xA (f,l))))
   (λi out=>rfl) abm [b] [d] [] [] FU (by simp[hi]) rfl abm (by rw[fl];simp)
  rw[show(([]:List Tm).length:Int)=0 from rfl] at this
  refine(congrArg (dH · _) this).trans ?_
  rw[dI,ew];rfl
 |@n0 R k s u w=>intro n hn o;obtain⟨n,rfl⟩:∃k,n=k+1:=⟨n-1,by have:=pos (.mk k 0 s []);omega⟩;exact yT u w abm rfl
 |@n1 R k s a B u w _ i1=>
  intro n hn o
  have r:(Tm.mk k 0 s [a]).aor=1+a.aor:=by rw[Tm.dL];simp[ee]
  rw[r] at hn o;obtain⟨n,rfl⟩:∃k,n=k+1:=⟨n-1,VW⟩;exact yT u w abm (by simp[i1 n VW VW])
 |@n2 R k s a B b C u w _ _ i1 i2=>
  intro n hn o
  have r:(Tm.mk k 0 s [a,b]).aor=1+a.aor+b.aor:=by rw[Tm.dL];simp[ee];omega
  rw[r] at hn o;obtain⟨n,rfl⟩:∃k,n=k+1:=⟨n-1,VW⟩;exact yT u w abm (by simp[i1 n VW VW,i2 n VW VW])
 |@n3 R k s a B b C c D u w _ _ _ i1 i2 i3=>
  intro n hn o
  have r:(Tm.mk k 0 s [a,b,c]).aor=1+a.aor+b.aor+c.aor:=by rw[Tm.dL];simp[ee];omega
  rw[r] at hn o;obtain⟨n,rfl⟩:∃k,n=k+1:=⟨n-1,VW⟩;exact yT u w abm (by simp[i1 n VW VW,i2 n VW VW,i3 n VW VW])
def Wl{n:Nat}{aoq:List Tm}(j:ee Tm.aor aoq<=1000000000)(h:∀x∈aoq,qn n x=some (x.aor:Int)):∀(l pre:List Tm) (m:Nat),aoq=pre++l->l.length<m->jL (ρ:=Int) (re λ(b:Int) (v46:Int)=>if(pH v46 (eE aoq)) then(dH (dW aoq v46) λc=>dH (qn n c) λd=>some (.next ((eH .i64 b d),(eH .i64 v46 1))))else(some (.xA (b,v46)))) m (1+(ee Tm.aor pre:Nat),(pre.length:Int))=some (.inl (1+(ee Tm.aor aoq:Nat),(aoq.length:Int))):=by
 intro l
 induction l with
 |nil=>
  intro pre m a hm;obtain⟨m,rfl⟩:∃k,m=k+1:=⟨m-1,VW⟩
  have e:pre=aoq:=by rw[a];simp
  subst e;rw[gM,iB,dK (by rw[jA,fV];omega),dI,sC]
 |cons x l ih=>
  intro pre m a hm;obtain⟨m,rfl⟩:∃k,m=k+1:=⟨m-1,VW⟩
  have e:aoq.length=pre.length+1+l.length:=by rw[a];simp;omega
  have hg:dW aoq (pre.length:Int)=some x:=by rw[gS,a,tS (gY _)];simp
  have f:x∈aoq:=by rw[a];simp
  have hs:ee Tm.aor aoq=ee Tm.aor pre+x.aor+ee Tm.aor l:=by rw[a,xo];simp[ee];omega
  have i:=Tm.fA aoq;have:=ih (pre++[x]) m (by rw[a];simp) (by simp at hm;omega);rw[xo,oV,Xo] at this;simp only[ee,Gg] at this;rw[gM,iB,dO (by rw[jA,fV];omega),hg,dI,h x f,dI,dI,eQ,e9 VW VW,Rz VW VW];rw[show(1+((ee Tm.aor pre:Nat):Int)+(x.aor:Int))=1+((ee Tm.aor pre+x.aor:Nat):Int) by omega,show((pre.length:Int)+1)=((pre.length+1:Nat):Int) by omega,this]
def Xv:∀(n:Nat) (t:Tm),t.aor<=n->t.aor<=1000000000->qn n t=some (t.aor:Int):=by
 intro n
 induction n with
 |zero=>intro t h;have:=t.eF;omega
 |succ n ih=>
  intro t h a;obtain⟨k,i,s,l⟩:=t;rw[Tm.dL] at h a|-;have:=Wl (n:=n) (aoq:=l) VW (λx b=>by have:=eu Tm.aor b;exact ih x VW VW) l [] FU rfl (by have:=Tm.fA l;rw[fl];omega);rw[show(1+((ee Tm.aor ([]:List Tm):Nat):Int))=1 from rfl,show(([]:List Tm).length:Int)=0 from rfl] at this;rw[qn,dY]
  refine(congrArg (dH · _) this).trans ?_
  rw[dI,ew,iB];exact congrArg some VW
def ac7{t:Tm}(h:t.aor<=1000000000):nB t 0=some (if t.aor<=4096 then(t,0)else(.mk 0 0 (.mk 0 []) [],4)):=by
 unfold nB;rw[dK nz,Xv FU t (by rw[fl];omega) h,dI]
 by_cases hn:t.aor<=4096
 .rw[dK (by unfold pw;simp;omega),dO hn]
 .rw[dO (by unfold pw;simp;omega),dK hn]
def TH{t:Tm}{e:Int}(h:e≠0):nB t e=some (.mk 0 0 (.mk 0 []) [],e):=by
 unfold nB;rw[dO (by rw[eW];exact h)]
def afe(i:Int):fS i=some (.mk 1 i .z []):=rfl
def Ti(k:Int)(l:List Tm):g_ k l=some (.mk k 0 .z l):=rfl
def Y2(x y:Tm):hW x y=some (ef x y):=rfl
def Zb(s:Ty)(v:Int)(x:Tm):ji s v x=some (.mk 2 v s [x]):=rfl
def UK(b:dS)(a:0<=b.next)(h:b.next<=4000000000000000000):eM b=some (b.next+1,⟨b.lemmas,b.ek,b.next+1⟩):=by unfold eM;rw[Rz a h]
def M7{q:Sq}{vars hy:List Tm}(F:Fm)(t:Tm)(b:q.aow.length<=900000000)(a:hy.length<=900000000):iq ⟨q,vars,hy⟩ F t=some ⟨⟨q.aot,q.aow++[F]⟩,vars,hy++[t]⟩:=by
 unfold iq;rw[U3 a,dI,fk abv,dU,fk abv,dU];simp
def ZZ{g:List Ty}{f:Fm}(h:Hg g f):gA f=some f.has:=oO f (by have:=h.wt;omega) h.err
def ag1{g:List Ty}{f:Fm}(h:Hg g f):j9 f=some f.Pn:=Ld f (by have:=h.wt;omega)
def aee{g:List Ty}{f:Fm}(h:Hg g f):f.Pn.2=0\/f.Pn.2=4:=by
 unfold Fm.Pn;rw[dK (λx=>x h.err)];have:=(I9 f h.ok).e
 split
 .exact this
 .exact .inl rfl
def aif{L:List Fm}{g:List Ty}{hs:List Fm}{P:Pf}{f:Fm}{m:Nat}(a:Dv L g hs P f m)(c:zA L ⟨g,hs⟩)(hw:P.wt<=1000000000)(he:P.err=0){b:dS}(d:b.lemmas=L)(vars hy:List Tm):ft b ⟨⟨g,hs⟩,vars,hy⟩ P=some (f,b):=by
 unfold ft;obtain⟨l,h,_⟩:=ZR c hw he a.w (a.inf c);rw[d,h,dP]
structure OfR (b b':dS) (R:List Int) (t:Tm) (e:Int) (r:Option Tm) (k:Nat):Prop where
 Ag:b'.lemmas=b.lemmas
 HY:b'.ek=b.ek
 lo:b.next<=b'.next
 hi:b'.next<=b.next+k
 yes:∀d,r=some d->e=0/\z_ R t d/\t.aov b'.next=true/\d.aor<=4096
 no:r=none->e=4
structure OfQ (b b':dS) (R:List Int) (t:Tm) (e:Int) (r:Option Tm) (k:Nat):Prop where
 Ag:b'.lemmas=b.lemmas
 HY:b'.ek=b.ek
 lo:b.next<=b'.next
 hi:b'.next<=b.next+k
 yes:∀d,r=some d->e=0/\z_ R t d/\t.aov b'.next=true/\d.aor<=1000000
 no:r=none->e=4
def OfR.q{b f:dS}{R:List Int}{t:Tm}{e:Int}{r:Option Tm}{k k':Nat}(h:OfR b f R t e r k)(j:k<=k'):OfQ b f R t e r k':=
 ⟨h.Ag,h.HY,h.lo,by have:=h.hi;omega,λd i=>by obtain⟨a,b,c,d⟩:=h.yes d i;exact⟨a,b,c,VW⟩,h.no⟩
def OfQ.Tr{b c:dS}{R:List Int}{t:Tm}{e:Int}{r:Option Tm}{k:Nat}(h:OfQ b c R t e r k):∃f i,nB t e=some (f,i)/\OfR b c R f i (Tr r) k:=by
 cases r with
 |none=>
  obtain rfl:=h.no rfl;exact⟨_,4,TH aal,h.Ag,h.HY,h.lo,h.hi,λd a=>(by cases a),λ_=>rfl⟩
 |some d=>
  obtain⟨rfl,j,l,s⟩:=h.yes d rfl;have hn:=j.aor;rw[ac7 VW]
  by_cases hs:d.aor<=4096
  .rw[dO VW,Fj hs];exact⟨t,0,rfl,h.Ag,h.HY,h.lo,h.hi,λn a=>by obtain rfl:=hU a;exact⟨rfl,j,l,hs⟩,λa=>by cases a⟩
  .rw[dK VW];refine⟨_,4,rfl,h.Ag,h.HY,h.lo,h.hi,λn a=>?_,λ_=>rfl⟩;obtain⟨o,q⟩:=aaT a;obtain rfl:=hU o;exact absurd q hs
def P7(σ:List Tm):Prop:=∀x∈σ,x.aor<=64
def P7.getD{σ:List Tm}(h:P7 σ)(i:Nat):(σ.getD i Tm.z).aor<=64:=by
 rw[A2];cases a:σ[i]?with
 |none=>rw[Option.getD_none];decide|some x=>exact h x (HP a)
def P7.up{σ:List Tm}(h:P7 σ):P7 (tn σ):=λx a=>by obtain⟨y,hy,rfl⟩:=ql.1 a;rw[Tm.kJ];exact h y hy
def P7.add{σ:List Tm}(h:P7 σ){x:Tm}(a:x.aor<=64):P7 (σ++[x]):=λy hy=>by rcases tl.1 hy with hy|hy;exact h y hy;rw[Hf.1 hy];exact a
def P7.var{σ:List Tm}(h:P7 σ):P7 (tn σ++[oX 0]):=h.up.add aal
def P2(t:Tm):∀{σ:List Tm},P7 σ->(t.sb σ).aor<=64*t.aor:=by
 induction t using Tm.ind with
 |h k i s l ih=>
  intro σ a;rw[Tm.JP]
  by_cases b:k=1
  .rw[dO b];have:=a.getD (σ.length-1-i.toNat);have:=(Tm.mk k i s l).eF;omega
  .rw[dK b,Tm.dL,Tm.dL,lH]
   have d:P7 (if k=2 then σ.map (Tm.up 0 1)++[oX 0] else σ):=by split;exact a.var;exact a
   have:=wk (c:=64) (f:=λx=>(Tm.sb (if k=2 then σ.map (Tm.up 0 1)++[oX 0] else σ) x).aor) (g:=Tm.aor) (l:=l) λx j=>ih x j d;omega
theorem OfR.fin{b f a:dS}{R j:List Int}{t i:Tm}{e:Int}{r:Option Tm}{k K:Nat}(h:OfR f a R t e r k)(l:f.lemmas=b.lemmas)(n:f.ek=b.ek)(lo:b.next<=f.next)(hi:a.next<=b.next+K){G:Tm->Tm}
  (hG:∀d,z_ R t d->t.aov a.next=true->d.aor<=4096->z_ j i (G d)/\i.aov a.next=true/\(G d).aor<=1000000):OfQ b a j i e (r.bind λd=>some (G d)) K:=by
 refine⟨h.Ag.trans l,h.HY.trans n,Int.le_trans lo h.lo,hi,λd c=>?_,λc=>?_⟩
 .obtain⟨x,o,c⟩:=Rl c;obtain rfl:=hU c;obtain⟨rfl,q,s,y3⟩:=h.yes x o;obtain⟨u,z2,z3⟩:=hG x q s y3;exact⟨rfl,u,z2,z3⟩
 .refine h.no ?_;cases r with
  |none=>rfl|some x=>cases c
def OfQ.bad{b a:dS}{R:List Int}{t:Tm}{K:Nat}(c:a.lemmas=b.lemmas)(f:a.ek=b.ek)(lo:b.next<=a.next)(hi:a.next<=b.next+K):OfQ b a R t 4 none K:=⟨c,f,lo,hi,λd h=>(by cases h),λ_=>rfl⟩
def OfQ.ajI{b a:dS}{R:List Int}{t d:Tm}{K:Nat}(f:a.lemmas=b.lemmas)(h:a.ek=b.ek)(lo:b.next<=a.next)(hi:a.next<=b.next+K)(i:z_ R t d)(j:t.aov a.next=true)(k:d.aor<=1000000):OfQ b a R t 0 (some d) K:=
 ⟨f,h,lo,hi,λl c=>(by obtain rfl:=hU c;exact⟨rfl,i,j,k⟩),λc=>(by cases c)⟩
def Kt(L:List Fm)(Ts:List Tm)(g:List Ty)(hs:List Fm)(P:Pf):Prop:=∀(n:Nat) (b:dS) (R:List Int) (e η σ τ:List Tm),3*P.aor+3<=n->b.lemmas=L->b.ek=Ts->LC R b.next e σ->LC R b.next η τ->P7 σ->P7 τ->e.length=g.length->η.length=hs.length->0<=b.next->b.next+10000*P.aor<=4000000000000000000->∃t a c,er n b ⟨⟨g,hs⟩,e,η⟩ P=some (t,a,c)/\OfR b c R t a (P.ex L Ts g hs σ τ) (10000*P.aor)
def air(n:Nat)(b:dS)(x:eA)(P:Pf):er (n+1) b x P=fm (kq n b x P) λd f d7=>dR (nB d f) λa c=>some (a,c,d7):=by rw[er]
def Kt.of{L:List Fm}{Ts:List Tm}{g:List Ty}{hs:List Fm}{P:Pf}{r:List Tm->List Tm->Option Tm}(d:∀σ τ,P.ex L Ts g hs σ τ=Tr (r σ τ))
  (h:∀(n:Nat) (b:dS) (R:List Int) (e η σ τ:List Tm),3*P.aor+1<=n->b.lemmas=L->b.ek=Ts->LC R b.next e σ->LC R b.next η τ->P7 σ->P7 τ->e.length=g.length->η.length=hs.length->0<=b.next->b.next+10000*P.aor<=4000000000000000000->∃t c a,kq (n+1) b ⟨⟨g,hs⟩,e,η⟩ P=some (t,c,a)/\OfQ b a R t c (r σ τ) (10000*P.aor)):Kt L Ts g hs P:=by
 intro n b R e η σ τ hn f i j l s1 s2 o q s u;obtain⟨n,rfl⟩:∃k,n=k+2:=⟨n-2,VW⟩;obtain⟨t,c,a,q1,v⟩:=h n b R e η σ τ VW f i j l s1 s2 o q s u;obtain⟨w,x,y,A⟩:=v.Tr;refine⟨w,x,a,?_,by rw[d];exact A⟩;rw[air,q1,gw,y,dP]
def ofK(n:Nat)(a0:dS)(a1:eA)(k i:Int)(s:Ty)(ts:List Tm)(fs:List Fm)(l:List Pf):kq (n+1) a0 a1 (.mk k i s ts fs l)=(if(eo k 1) then(
 dH (dW a1.aow (fD .i64 (fD .i64 (eE a1.aow) 1) i)) λaC=>
 some (aC,0,a0))
 else(if(eo k 2) then(
 dH (dW a0.ek i) λaD=>
 dR (eP FU a0 aD []) λaE aF=>
 some (aE,0,aF))
 else(if(eo k 3) then(
 dH (dW l 0) λy=>
 dR (ft a0 a1 y) λaG aH=>
 dH (gA aG) λaI=>
 dH (dW l 1) λt=>
 dR (ft aH a1 t) λaJ A=>
 dH (gA aJ) λaK=>
 if aI then(
 fm (er n A a1 y) λB C D=>
 if(fq (eR C 0) true (lF aK)) then(
 some (B,C,D))
 else(fm (er n D a1 t) λaL aM aN=>
 dH (g_ 10 [B,aL]) λaO=>
 some (aO,aM,aN)))
 else(fm (er n A a1 t) λaP aQ aR=>
 some (aP,aQ,aR)))
 else(if(fq (eo k 4) true (eo k 5)) then(
 dH (dW l 0) λF=>
 dR (ft a0 a1 F) λG aS=>
 fm (er n aS a1 F) λb H aT=>
 en (λ(aU:Int) (aV:Int) (aW:Int) (aX:List Ty) (aY:List Tm)=>
 some ((Tm.mk aU aV (Ty.mk aW aX) aY),H,aT)) λI=>
 en (λ(aZ:Bool)=>
 if aZ then(
 dH (g_ (fq (eo k 5) 12 11) [b]) λd=>
 I d.aop d.aos d.dM.aop d.dM.aoq d.aoq)
 else(I b.aop b.aos b.dM.aop b.dM.aoq b.aoq)) λu=>
 if(eo H 0) then(
 dH (dW G.aoq 0) λa6=>
 dH (gA a6) λa7=>
 if a7 then(
 dH (dW G.aoq 1) λa8=>
 dH (gA a8) λa_=>
 u a_)
 else(u false))
 else(u false))
 else(if(eo k 6) then(
 dH (dW fs 0) λo=>
 dH (gA o) λa'=>
 if a' then(
 dR (j9 o) λba J=>
 if(eR J 0) then(
 some ((Tm.mk 0 0 (Ty.mk 0 []) []),J,a0))
 else(dR (eM a0) λK bb=>
 dH (fS K) λbc=>
 dH (iq a1 o bc) λbd=>
 dH (dW l 0) λbf=>
 fm (er n bb bd bf) λbg bh bj=>
 dH (ji ba K bg) λbk=>
 some (bk,bh,bj)))
 else(dH (iq a1 o (Tm.mk 0 0 (Ty.mk 0 []) [])) λbl=>
 dH (dW l 0) λbm=>
 fm (er n a0 bl bm) λbn bo bp=>
 some (bn,bo,bp)))
 else(if(eo k 7) then(
 dH (dW l 0) λL=>
 fm (er n a0 a1 L) λM N O=>
 en (λ(bq:Bool) (P:dS)=>
 if bq then(
 some (M,N,P))
 else(dH (dW l 1) λbr=>
 fm (er n P a1 br) λbs bt bu=>
 dH (hW M bs) λbw=>
 some (bw,bt,bu))) λQ=>
 if(eR N 0) then(
 Q true O)
 else(dR (ft O a1 L) λbz bA=>
 dH (dW bz.aoq 0) λbB=>
 dH (gA bB) λbC=>
 Q (lF bC) bA))
 else(if(eo k 8) then(
 dR (eM a0) λR bD=>
 dH (fS R) λbE=>
 dH (h7 a1 s bE) λbF=>
 dH (dW l 0) λbG=>
 fm (er n bD bF bG) λbH bI bJ=>
 dH (ji s R bH) λbK=>
 some (bK,bI,bJ))
 else(if(eo k 9) then(
 dH (dW l 0) λbL=>
 fm (er n a0 a1 bL) λbM bN bO=>
 dH (dW ts 0) λbP=>
 dR (eP FU bO bP a1.vars) λbQ bR=>
 dH (hW bM bQ) λbS=>
 some (bS,bN,bR))
 else(if(eo k 10) then(
 dH (dW ts 0) λbT=>
 dR (eP FU a0 bT a1.vars) λS T=>
 dH (dW fs 0) λbU=>
 dH (dW bU.aoq 0) λbV=>
 dH (gA bV) λbW=>
 if bW then(
 dH (dW l 0) λbX=>
 fm (er n T a1 bX) λbY bZ b0=>
 dH (g_ 10 [S,bY]) λb1=>
 some (b1,bZ,b0))
 else(some (S,0,T)))
 else(if(eo k 11) then(
 dH (dW l 0) λU=>
 dR (ft a0 a1 U) λc b2=>
 fm (er n b2 a1 U) λb3 V W=>
 if(eR V 0) then(
 some ((Tm.mk 0 0 (Ty.mk 0 []) []),V,W))
 else(dR (eM W) λq X=>
 dH (fS q) λf=>
 en (λ(b4:Int) (b5:List Ty) (b6:Int) (b7:Int) (b8:Int) (b9:List Ty) (b_:List Tm) (b':Int) (ca:Int) (cb:Int) (cc:List Ty) (cd:List Tm)=>
 dH (h7 a1 c.dM (Tm.mk b6 b7 (Ty.mk b8 b9) b_)) λcf=>
 dH (dW c.aoq 0) λcg=>
 dH (iq cf cg (Tm.mk b' ca (Ty.mk cb cc) cd)) λch=>
 dH (dW l 1) λcj=>
 fm (er n X ch cj) λck cm cn=>
 dH (ji (Ty.mk b4 b5) q ck) λcp=>
 dH (hW cp b3) λcq=>
 some (cq,cm,cn)) λY=>
 dH (dW c.aoq 0) λcr=>
 dH (gA cr) λcu=>
 if cu then(
 dR (j9 c) λZ ad=>
 if(eR ad 0) then(
 some ((Tm.mk 0 0 (Ty.mk 0 []) []),ad,X))
 else(dH (fS q) λcw=>
 dH (g_ 11 [cw]) λh=>
 dH (fS q) λcx=>
 dH (g_ 12 [cx]) λj=>
 Y Z.aop Z.aoq h.aop h.aos h.dM.aop h.dM.aoq h.aoq j.aop j.aos j.dM.aop j.dM.aoq j.aoq))
 else(Y c.dM.aop c.dM.aoq f.aop f.aos f.dM.aop f.dM.aoq f.aoq 0 0 0 [] [])))
 else(if(eo k 12) then(
 dH (pJ s) λcy=>
 dR (eP FU a0 cy []) λcz cA=>
 dH (h7 a1 s cz) λcB=>
 dH (dW l 0) λcD=>
 fm (er n cA cB cD) λcE cF cG=>
 some (cE,cF,cG))
 else(if(eo k 15) then(
 dH (dW l 0) λae=>
 dR (ft a0 a1 ae) λa cH=>
 dH (pJ a.dM) λcI=>
 dR (eP FU cH cI []) λaf ah=>
 dH (gA a) λcJ=>
 if cJ then(
 fm (er n ah a1 ae) λcK ai v=>
 if(eR ai 0) then(
 some ((Tm.mk 0 0 (Ty.mk 0 []) []),ai,v))
 else(dR (j9 a) λcL ak=>
 if(eR ak 0) then(
 some ((Tm.mk 0 0 (Ty.mk 0 []) []),ak,v))
 else(dR (eM v) λan cM=>
 dH (h7 a1 a.dM af) λcN=>
 dH (dW a.aoq 0) λcO=>
 dH (fS an) λcP=>
 dH (iq cN cO cP) λcQ=>
 dH (dW l 1) λcR=>
 fm (er n cM cQ cR) λcS cT cU=>
 dH (ji cL an cS) λcV=>
 dH (hW cV cK) λcW=>
 some (cW,cT,cU))))
 else(dH (h7 a1 a.dM af) λcX=>
 dH (dW a.aoq 0) λcY=>
 dH (iq cX cY (Tm.mk 0 0 (Ty.mk 0 []) [])) λcZ=>
 dH (dW l 1) λc0=>
 fm (er n ah cZ c0) λc1 c2 c4=>
 some (c1,c2,c4)))
 else(if(fq (eo k 16) true (eo k 17)) then(
 R1 (nD n a0 a1 (.mk k i s ts fs l)) λc6 c7 c8 ao aq=>
 if(eR ao 0) then(
 some ((Tm.mk 0 0 (Ty.mk 0 []) []),ao,aq))
 else(dH (dW ts 0) λc9=>
 dR (eP FU aq c9 a1.vars) λc_ c'=>
 dH (zh (.mk k i s ts fs l) c6 c7 c8 c_) λda=>
 some (da,0,c')))
 else(if(eo k 19) then(
 dH (dW l 1) λdb=>
 fm (er n a0 a1 db) λdc dd de=>
 some (dc,dd,de))
 else(if(eo k 20) then(
 dH (dW l 0) λar=>
 fm (er n a0 a1 ar) λaw ax df=>
 dR (ft df a1 ar) λr w=>
 en (λ(dg:Bool)=>
 if dg then(
 some (aw,ax,w))
 else(dR (j9 r) λdh ay=>
 if(eR ay 0) then(
 some ((Tm.mk 0 0 (Ty.mk 0 []) []),ay,w))
 else(dR (eM w) λx di=>
 dR (eM di) λaz dj=>
 dR (eM dj) λaA dk=>
 dH (fS x) λdm=>
 dH (fS az) λdn=>
 dH (hW dm dn) λdp=>
 dH (g_ 11 [dp]) λdq=>
 dH (ji r.dM az dq) λdr=>
 dH (fS x) λds=>
 dH (fS aA) λdt=>
 dH (hW ds dt) λdu=>
 dH (g_ 12 [du]) λdv=>
 dH (ji r.dM aA dv) λdw=>
 dH (g_ 10 [dr,dw]) λdx=>
 dH (ji dh x dx) λdy=>
 dH (hW dy aw) λdz=>
 some (dz,0,dk)))) λaB=>
 if(eR ax 0) then(
 aB true)
 else(dH (dW r.aoq 0) λdA=>
 dH (dW dA.aoq 0) λdB=>
 dH (gA dB) λdC=>
 aB (lF dC)))
 else(dH (dW l 0) λdD=>
 fm (er n a0 a1 dD) λdE dF dG=>
 some (dE,dF,dG))))))))))))))))):=by rw[kq];rfl
end Go.fP
set_option maxRecDepth 20000
namespace Go.fP
open Go
def Aw{k i:Int}{s:Ty}{ts:List Tm}{fs:List Fm}{l:List Pf}(h:(Pf.mk k i s ts fs l).err=0){p:Pf}(a:p∈l):p.err=0:=by
 obtain⟨b,c,d⟩:=il h;obtain⟨_,_,wp⟩:=Pf.MV (⟨b,c⟩:(Pf.mk k i s ts fs l).ok=true/\(Pf.mk k i s ts fs l).small=true);obtain⟨f,j⟩:=wp p a;rw[Pf.dL] at d;have:=eu Pf.aor a;unfold Pf.err;rw[dO f,dO ⟨j,VW⟩]
def F3{k i:Int}{s:Ty}{ts:List Tm}{fs:List Fm}{a:Pf}(hw:(Pf.mk k i s ts fs [a]).wt<=1000000000)(he:(Pf.mk k i s ts fs [a]).err=0):a.wt<=1000000000/\a.err=0/\(Pf.mk k i s ts fs [a]).aor=1+ee Tm.aor ts+ee Fm.aor fs+a.aor:=by
 rw[Pf.iE] at hw;simp only[ee] at hw;exact⟨VW,Aw he abm,by rw[Pf.dL];simp[ee]⟩
def T2{k i:Int}{s:Ty}{ts:List Tm}{fs:List Fm}{a b:Pf}(hw:(Pf.mk k i s ts fs [a,b]).wt<=1000000000)(he:(Pf.mk k i s ts fs [a,b]).err=0):a.wt<=1000000000/\a.err=0/\b.wt<=1000000000/\b.err=0/\(Pf.mk k i s ts fs [a,b]).aor=1+ee Tm.aor ts+ee Fm.aor fs+(a.aor+b.aor):=by
 rw[Pf.iE] at hw;simp only[ee] at hw;exact⟨VW,Aw he abm,VW,Aw he abm,by rw[Pf.dL];simp[ee]⟩
def Kt.pass{L:List Fm}{Ts:List Tm}{g:List Ty}{hs:List Fm}{P a:Pf}(k:Kt L Ts g hs a)(hn:a.aor+1<=P.aor)(l:∀σ τ,P.ex L Ts g hs σ τ=Tr (a.ex L Ts g hs σ τ))
  (h:∀n b x,kq (n+1) b x P=fm (er n b x a) λx y d=>some (x,y,d)):Kt L Ts g hs P:=by
 refine Kt.of (r:=λσ τ=>a.ex L Ts g hs σ τ) l ?_;intro n b R e η σ τ o c f s t u v i j w B;obtain⟨t1,C,D,q1,A⟩:=k n b R e η σ τ VW c f s t u v i j w VW;rw[h,q1,gw];exact⟨_,_,_,rfl,A.q VW⟩
def aia{f:Fm}{k:Ty->Option Tm}(h:f.Pn.2=0):ctO f k=k f.Pn.1:=dO h
def adT{f:Fm}{k:Ty->Option Tm}(h:f.Pn.2≠0):ctO f k=none:=dK h
def nd1(k:Int)(s:Ty)(a:Tm):(Tm.mk k 0 s [a]).aor=1+a.aor:=by rw[Tm.dL];simp[ee]
def nd2(k:Int)(s:Ty)(a b:Tm):(Tm.mk k 0 s [a,b]).aor=1+a.aor+b.aor:=by rw[Tm.dL];simp[ee];omega
def ndA(x y:Tm):(ef x y).aor=1+x.aor+y.aor:=nd2 _ _ _ _
theorem LC.new{R:List Int}{c v:Int}{e σ:List Tm}(h:LC R c e σ)(a:c<v):LC (v::R) v (e++[.mk 1 v .z []]) (tn σ++[oX 0]):=((h.up a).mono VW).add (.var .here) (Fz (Hu _))
def afF{g:List Ty}{t:Tm}{s:Ty}(d:eg g t s)(hg:g.length<=16)(hn:t.aor<=4096){b:dS}{R:List Int}{e σ:List Tm}(he:LC R b.next e σ)(f:e.length=g.length)(h:0<=b.next)(i:b.next+t.aor<=4000000000000000000):∃a c,eP FU b t e=some (a,c)/\NmR b c R a (t.sb σ) t.aor:=acT d FU b R e σ (by rw[fl];omega) he f VW h i
section
variable{L:List Fm} {Ts:List Tm} {g:List Ty} {hs:List Fm}
def ahU{i:Int}(t:0<=i)(u:i<(hs.length:Int))(v:hs.length<=16):Kt L Ts g hs (.mk 1 i .z [] [] []):=by
 refine Kt.of (r:=λσ τ=>some (τ.getD (τ.length-1-i.toNat) Tm.z)) (λσ τ=>rfl) ?_;intro n f R e η σ τ hn h j w c x k l o q y;obtain⟨a1,a2⟩:=c.2 (η.length-1-i.toNat) VW;have a3:=k.getD (η.length-1-i.toNat);refine⟨η.getD (η.length-1-i.toNat) Tm.z,0,f,?_,?_⟩
 .have s:fD .i64 (fD .i64 (eE η) 1) i=((η.length-1-i.toNat:Nat):Int):=by
   rw[fV,fF (a:=(η.length:Int)) (b:=1) VW VW,fF VW VW];omega
  rw[ofK,dO aal];show dH (dW η (fD .i64 (fD .i64 (eE η) 1) i)) _=_;rw[s,gS,pE VW,dI,A2,pE VW];rfl
 .rw[<-c.1];exact OfQ.ajI (d:=τ.getD (η.length-1-i.toNat) Tm.z) rfl rfl (Hu _) VW a1 a2 VW
def ad4{s:Ty}{a:Pf}(o:zA L ⟨g,hs⟩)(hw:(Pf.mk 8 0 s [] [] [a]).wt<=1000000000)(he:(Pf.mk 8 0 s [] [] [a]).err=0)(i1:Kt L Ts (g++[s]) (hs.map (Fm.up 0 1)) a):Kt L Ts g hs (.mk 8 0 s [] [] [a]):=by
 obtain⟨C,D,q⟩:=F3 hw he;simp only[ee] at q;have hg:=ET o;refine Kt.of (r:=λσ τ=>(a.ex L Ts (g++[s]) (hs.map (Fm.up 0 1)) (tn σ++[oX 0]) (tn τ)).bind λx=>some (.mk 2 0 s [x])) (λσ τ=>rfl) ?_;intro n c R e η σ τ hn f h u v w y i j k A;rw[q] at hn A|-;rw[ofK,dK aal,dK aal,dK aal,dK aal,dK aal,dK aal,dO aal,UK c k VW,dP,afe,dI,Qj o s _ e η VW,dI,show dW [a] 0=some a from rfl,dI];obtain⟨t1,F,t,q1,l⟩:=i1 n ⟨c.lemmas,c.ek,c.next+1⟩ ((c.next+1)::R) (e++[.mk 1 (c.next+1) .z []]) η (tn σ++[oX 0]) (tn τ) VW f h (u.new VW) ((v.up VW).mono (by show _<=c.next+1;omega)) w.var y.up (by simp[i]) (by simp[j]) (by show 0<=c.next+1;omega) (by show c.next+1+_<=_;omega)
 have G:c.next+1<=t.next:=l.lo
 have H:t.next<=c.next+1+_:=l.hi
 rw[q1,gw,Zb,dI];exact⟨_,_,_,rfl,l.fin (b:=c) rfl rfl (by show c.next<=c.next+1;omega) VW λd B z2 z3=>⟨.lam B,BB VW z2,by rw[nd1];omega⟩⟩
def agv{t:Tm}{s:Ty}{a:Pf}(A:eg g t s)(i:t.aor<=4096)(B:zA L ⟨g,hs⟩)(hw:(Pf.mk 9 0 .z [t] [] [a]).wt<=1000000000)(he:(Pf.mk 9 0 .z [t] [] [a]).err=0)(i1:Kt L Ts g hs a):Kt L Ts g hs (.mk 9 0 .z [t] [] [a]):=by
 obtain⟨O,P,q⟩:=F3 hw he;simp only[ee] at q;have hg:=ET B;refine Kt.of (r:=λσ τ=>(a.ex L Ts g hs σ τ).bind λx=>some (ef x (t.sb σ))) (λσ τ=>rfl) ?_;intro n v R e η σ τ hn j k w C y D h l o F;rw[q] at hn F|-;obtain⟨t1,Q,G,q1,b⟩:=i1 n v R e η σ τ VW j k w C y D h l o VW;have S:=b.lo;have T:=b.hi;obtain⟨u,U,H,c⟩:=afF A hg i (w.mono (by omega:v.next<=G.next)) h VW VW;have V:=c.lo;have W:=c.hi;have I:=P2 t y;rw[ofK,dK aal,dK aal,dK aal,dK aal,dK aal,dK aal,dK aal,dO aal,show dW [a] 0=some a from rfl,dI,q1,gw,show dW [t] 0=some t from rfl,dI,H,dP,Y2,dI];refine⟨_,_,_,rfl,c.Ag.trans b.Ag,c.HY.trans b.HY,VW,VW,λd f=>?_,λf=>?_⟩
 .obtain⟨x,J,f⟩:=Rl f;obtain rfl:=hU f;obtain⟨rfl,K,M,y3⟩:=b.yes x J;exact⟨rfl,.n2 aal aal K c.nm,D7 VW (tF M VW) c.le,by rw[ndA];omega⟩
 .refine b.no ?_;cases N:a.ex L Ts g hs σ τ with
  |none=>rfl|some x=>rw[N] at f;cases f
def aeA{t:Tm}{s:Ty}{x:Fm}{a:Pf}(w:eg g t s)(h:t.aor<=4096)(A:Hg (g++[s]) x)(B:zA L ⟨g,hs⟩)(hw:(Pf.mk 10 0 .z [t] [.mk 5 s [] [x]] [a]).wt<=1000000000)(he:(Pf.mk 10 0 .z [t] [.mk 5 s [] [x]] [a]).err=0)(i1:x.has=true->Kt L Ts g hs a):Kt L Ts g hs (.mk 10 0 .z [t] [.mk 5 s [] [x]] [a]):=by
 obtain⟨M,N,o⟩:=F3 hw he;simp only[ee] at o;have hg:=ET B;refine Kt.of (r:=λσ τ=>if x.has then(a.ex L Ts g hs σ τ).bind λy=>some (.mk 10 0 .z [t.sb σ,y])else some (t.sb σ)) (λσ τ=>rfl) ?_;intro n O R e η σ τ hn i j q C v D f k F G;rw[o] at hn G|-;obtain⟨u,H,I,b⟩:=afF w hg h q f VW VW;have P:=b.lo;have Q:=b.hi;have J:=P2 t v;rw[ofK,dK aal,dK aal,dK aal,dK aal,dK aal,dK aal,dK aal,dK aal,dO aal,show dW [t] 0=some t from rfl,dI,I,dP,show dW [Fm.mk 5 s [] [x]] 0=some (.mk 5 s [] [x])from rfl,dI,show dW (Fm.mk 5 s [] [x]).aoq 0=some x from rfl,dI,ZZ A,dI]
 by_cases c:x.has=true
 .rw[dO c,show dW [a] 0=some a from rfl,dI];simp only[dO c];obtain⟨t1,S,T,q1,l⟩:=i1 c n H R e η σ τ VW (b.Ag.trans i) (b.HY.trans j) (q.mono VW) (C.mono VW) v D f k VW VW;have U:=l.lo;have V:=l.hi;rw[q1,gw,Ti,dI];exact⟨_,_,_,rfl,l.fin b.Ag b.HY VW VW λd K z2 z3=>⟨.n2 aal aal b.nm K,D7 VW (tF b.le VW) z2,by rw[nd2];omega⟩⟩
 .rw[dK c];simp only[dK c];exact⟨_,_,_,rfl,.ajI b.Ag b.HY VW VW b.nm b.le VW⟩
def aay{s:Ty}{a b:Pf}{x:Fm}{m:Nat}(G:Dv L g hs a (.mk 5 s [] [x]) m)(hx:Hg (g++[s]) x)(B:zA L ⟨g,hs⟩)(hw:(Pf.mk 11 0 .z [] [] [a,b]).wt<=1000000000)(he:(Pf.mk 11 0 .z [] [] [a,b]).err=0)
  (i1:Kt L Ts g hs a) (i2:Kt L Ts (g++[s]) (hs.map (Fm.up 0 1)++[x]) b):Kt L Ts g hs (.mk 11 0 .z [] [] [a,b]):=by
 obtain⟨wa,ea,wb,eb,T⟩:=T2 hw he;simp only[ee] at T;have hg:=ET B;have ad:hs.length<=16:=B.nh
 refine Kt.of (r:=λσ τ=>(a.ex L Ts g hs σ τ).bind λu=>
  if x.has then ctO (.mk 5 s [] [x]) λw=>(b.ex L Ts (g++[s]) (hs.map (Fm.up 0 1)++[x]) (tn σ++[.mk 11 0 .z [oX 0]]) (tn τ++[.mk 12 0 .z [oX 0]])).bind λy=>some (ef (.mk 2 0 w [y]) u)
  else(b.ex L Ts (g++[s]) (hs.map (Fm.up 0 1)++[x]) (tn σ++[oX 0]) (tn τ++[Tm.z])).bind λy=>some (ef (.mk 2 0 s [y]) u)) (λσ τ=>by rw[RA,G.inf B,UW];rfl) ?_
 intro n o R e η σ τ hn q C U V W X D F I hb;rw[T] at hn hb|-;have f1:=aif G B wa ea q e η;obtain⟨t1,e1,c,q1,f⟩:=i1 n o R e η σ τ VW q C U V W X D F I VW;have Y:=f.lo;have l2:=f.hi;rw[ofK,dK aal,dK aal,dK aal,dK aal,dK aal,dK aal,dK aal,dK aal,dK aal,dO aal,show dW [a,b] 0=some a from rfl,dI,f1,dP,q1,gw];cases Z:a.ex L Ts g hs σ τ with
 |none=>
  obtain rfl:=f.no Z;rw[dO aal];exact⟨_,_,_,rfl,.bad f.Ag f.HY VW VW⟩
 |some d1=>
  obtain⟨rfl,y1,y2,y3⟩:=f.yes d1 Z;have k:=λv:Tm=>Qj B s v e η VW
  have h:=λ(J K M N:Tm) (O:z_ ((c.next+1)::R) J M) (P:z_ ((c.next+1)::R) K N) (k1:J.aov (c.next+1)=true) (k2:K.aov (c.next+1)=true) (m1:M.aor<=64) (m2:N.aor<=64)=>
   i2 n ⟨c.lemmas,c.ek,c.next+1⟩ ((c.next+1)::R) (e++[J]) (η++[K]) (tn σ++[M]) (tn τ++[N]) VW (f.Ag.trans q) (f.HY.trans C)
    ((((U.mono Y).up (v:=c.next+1) VW).mono (by show _<=c.next+1;omega)).add O k1) ((((V.mono Y).up (v:=c.next+1) VW).mono (by show _<=c.next+1;omega)).add P k2) (W.up.add m1) (X.up.add m2) (by simp[D]) (by simp[F]) (by show 0<=c.next+1;omega) (by show c.next+1+_<=_;omega)
  rw[dK nz,UK c VW VW,dP,afe,dI,Nf,dY,show dW (Fm.mk 5 s [] [x]).aoq 0=some x from rfl,dI,ZZ hx,dI];have i:z_ ((c.next+1)::R) (.mk 1 (c.next+1) .z []) (oX 0):=.var .here;have t:(Tm.mk 1 (c.next+1) .z []).aov (c.next+1)=true:=Fz (Hu _)
  by_cases j:x.has=true
  .rw[dO j,dO j,ag1 G.hg,dP];rcases aee G.hg with hc|hc
   .rw[hc,dK nz,aia hc,dI,Ti,dI,dI,Ti,dI];obtain⟨t2,H,l,Q,A⟩:=h (.mk 11 0 .z [.mk 1 (c.next+1) .z []]) (.mk 12 0 .z [.mk 1 (c.next+1) .z []]) (.mk 11 0 .z [oX 0]) (.mk 12 0 .z [oX 0]) (.n1 aal aal i) (.n1 aal aal i) (Nt VW t) (Nt VW t) aal aal
    have l3:c.next+1<=l.next:=A.lo
    have l4:l.next<=c.next+1+_:=A.hi
    refine⟨ef (.mk 2 (c.next+1) (Fm.mk 5 s [] [x]).Pn.1 [t2]) t1,H,l,?_,A.fin (b:=o) f.Ag f.HY (by show o.next<=c.next+1;omega) VW λd S z2 z3=>⟨.n2 aal aal (.lam S) y1,D7 VW (BB VW z2) (tF y2 VW),by rw[ndA,nd1];omega⟩⟩;show dH (h7 ⟨⟨g,hs⟩,e,η⟩ s (.mk 11 0 .z [.mk 1 (c.next+1) .z []])) _=_;rw[k,dI,dI,M7 x _ abv VW,dI,show dW [a,b] 1=some b from rfl,dI];show fm (er n ⟨c.lemmas,c.ek,c.next+1⟩ ⟨⟨g++[s],hs.map (Fm.up 0 1)++[x]⟩,e++[.mk 11 0 .z [.mk 1 (c.next+1) .z []]],η++[.mk 12 0 .z [.mk 1 (c.next+1) .z []]]⟩ b) _=_;rw[Q,gw,Zb,dI,Y2,dI,Ty.hR]
   .rw[hc,dO aal,adT (by rw[hc];decide)];exact⟨_,_,_,rfl,.bad (b:=o) f.Ag f.HY (by show o.next<=c.next+1;omega) (by show c.next+1<=_;omega)⟩
  .rw[dK j,dK j];obtain⟨t2,H,l,Q,A⟩:=h (.mk 1 (c.next+1) .z []) Tm.z (oX 0) Tm.z i .zero t (UG VW) aal aal
   have l3:c.next+1<=l.next:=A.lo
   have l4:l.next<=c.next+1+_:=A.hi
   refine⟨ef (.mk 2 (c.next+1) s [t2]) t1,H,l,?_,A.fin (b:=o) f.Ag f.HY (by show o.next<=c.next+1;omega) VW λd S z2 z3=>⟨.n2 aal aal (.lam S) y1,D7 VW (BB VW z2) (tF y2 VW),by rw[ndA,nd1];omega⟩⟩;show dH (h7 ⟨⟨g,hs⟩,e,η⟩ s (.mk 1 (c.next+1) .z [])) _=_;rw[k,dI,dI,M7 x _ abv VW,dI,show dW [a,b] 1=some b from rfl,dI];show fm (er n ⟨c.lemmas,c.ek,c.next+1⟩ ⟨⟨g++[s],hs.map (Fm.up 0 1)++[x]⟩,e++[.mk 1 (c.next+1) .z []],η++[Tm.z]⟩ b) _=_;rw[Q,gw,Zb,dI,Y2,dI];exact congrArg (λz=>some (ef (Tm.mk 2 (c.next+1) z [t2]) t1,H,l)) (Ty.hR s)
end
end Go.fP
set_option maxRecDepth 20000
namespace Go.fP
open Go
def acv(L:List Fm)(Ts:List Tm):Prop:=Ts.length=L.length/\∀i f,L[i]?=some f->f.has=true->eg [] (Ts.getD i Tm.z) f.H4/\(Ts.getD i Tm.z).aor<=4096
def acv.nil:acv [] []:=⟨rfl,λi f h=>by simp at h⟩
def Dv.run{L:List Fm}{Ts:List Tm}(T:acv L Ts){g:List Ty}{hs:List Fm}{P:Pf}{f:Fm}{m:Nat}(h:Dv L g hs P f m):zA L ⟨g,hs⟩->P.wt<=1000000000->P.err=0->f.has=true->Kt L Ts g hs P:=by
 induction h with
 |@hyp g hs i f N D K O=>intro j hw he l;exact ahU N D j.nh|@all g hs k k' s a f m r v G C l i1=>
  intro j hw he d;obtain⟨o,q,_⟩:=F3 hw he;have w:=j.xR v G;obtain⟨rfl,rfl⟩:=r
  .rw[UT (.inl rfl)] at d;exact ad4 j hw he (i1 w o q d)
 |@Zx g hs k k' t s a x m u r y A C B hn i1=>
  intro j hw he d;obtain⟨o,q,M⟩:=F3 hw he;rw[(x.N8 t 0).2] at d;obtain⟨rfl,rfl,_⟩:=r
  .exact agv y (kV A).2 j hw he (i1 j o q (by rw[UT (.inl rfl)];exact d))
 |@ex g hs k k' t s a x f m u r hF y A B C l hn hm i1=>
  intro j hw he d;obtain⟨o,q,M⟩:=F3 hw he;have c:=(QM (tB B.ty y hn).ty l.ty hm).has;rw[(x.N8 t 0).2] at c;obtain⟨rfl,rfl,_⟩:=r
  .exact aeA y (kV A).2 B j hw he λh=>i1 j o q (by rw[<-c];exact h)
 |@opn g hs k k' s a b x f m n r C v G U B Q l H V i1 i2=>
  intro j hw he d;have hg:=ET j;obtain⟨o,q,I,J,_⟩:=T2 hw he;obtain⟨R,W⟩:=V6 l VW H;rw[R] at d;have w:zA L ⟨g++[s],hs.map (Fm.up 0 1)++[x]⟩:=(j.xR v G).with B (by show(hs.map (Fm.up 0 1)).length+1<=16;simp;omega);obtain⟨rfl,rfl⟩:=r
  .exact aay C B j hw he (i1 j o q (aaK _ _ _)) (i2 w I J d)
 |@refl g hs t y he l=>intro j hw he d;rw[Fm.has_eq] at d;cases d
 |@subst g hs F a b t u f m n hF C y hu het S Q l D K O i1 i2=>
  intro j hw he d;obtain⟨o,q,I,J,M⟩:=T2 hw he;rw[(F.N8 u 0).2] at d;have c:=(QM (tB hF.ty y D).ty l.ty K).has;rw[(F.N8 t 0).2] at c;refine(i2 j I J (by rw[<-c];exact d)).pass VW (λσ τ=>rfl) λn X x=>?_;rw[ofK,dK aal,dK aal,dK aal,dK aal,dK aal,dK aal,dK aal,dK aal,dK aal,dK aal,dK aal,dK aal,dK aal,dO aal,show dW [a,b] 1=some b from rfl,dI]
def ada(b:dS):mb b ⟨[],[]⟩=some (⟨⟨[],[]⟩,[],[]⟩,[],b):=by
 obtain⟨m,hm⟩:∃m,FU=m+1:=⟨FU-1,by rw[fl]⟩;unfold mb;rw[dY,hm,gM,zc,dK aal,dI,sC,dI,ew,zc,dY,gM,zc,dK aal,dI,sC,dI,ew];rfl
def ahw{L:List Fm}{Ts:List Tm}(o:acv L Ts)(q:vr L Ts=some 0){P:Pf}{f:Fm}{m:Nat}(h:Dv L [] [] P f m)(b:zA L ⟨[],[]⟩)(hw:P.wt<=1000000000)(he:P.err=0):nP L Ts ⟨[],[]⟩ P=some (if f.has then(match P.ex L Ts [] [] [] [] with|some d=>(d,(0:Int))|none=>(.mk 0 0 (.mk 0 []) [],4))else(.mk 0 0 (.mk 0 []) [],40)):=by
 obtain⟨l,r,_⟩:=ZR b hw he h.w (h.inf b);unfold nP;rw[r,dP,dK nz,q,dI,dK nz,ZZ h.hg,dI]
 by_cases a:f.has=true
 .rw[dO a,dO a,ada,gw];have s:P.aor<=16384:=(il he).2.2;obtain⟨t,u,v,q1,i⟩:=h.run o b hw he a FU ⟨L,Ts,0⟩ [] [] [] [] [] (by rw[fl];omega) rfl rfl .nil .nil (λx c=>by simp at c) (λx c=>by simp at c) rfl rfl (Hu 0) (by show(0:Int)+_<=_;omega);rw[q1,gw];cases j:P.ex L Ts [] [] [] [] with
  |none=>
   obtain rfl:=i.no j;rw[dO aal]
  |some d=>
   obtain⟨rfl,k,_,y3⟩:=i.yes d j;have hn:=k.aor;have n:=YQ k FU (by rw[fl];omega) abv;rw[List.reverse_nil] at n;rw[dK nz,n,dI]
 .rw[dK a,dK a]
end Go.fP
set_option maxRecDepth 20000
set_option maxHeartbeats 2000000
namespace Go.fP
open Go
def agz{g:List Ty}{t:Tm}{s:Ty}(h:eg g t s):∀σ:List Tm,(∀i,i<g.length->i<σ.length/\σ[σ.length-1-i]?=some (oX i))->t.sb σ=t:=by
 induction h with
 |@var g t i hi hg=>
  intro σ a;obtain⟨k,j⟩:=a i hi;rw[SB,A2,j];rfl
 |@lam g s b t hs l ih=>
  intro σ a;rw[aaA,ih];intro i hi;rw[oV,Hn,Xo];simp only[oV,Xo] at hi;cases i with
  |zero=>
   refine⟨VW,?_⟩;rw[tS (by rw[Hn];omega)];simp
  |succ i=>
   obtain⟨k,j⟩:=a i VW;refine⟨VW,?_⟩;rw[uJ abv,y',show σ.length+1-1-(i+1)=σ.length-1-i by omega,j];simp[oX,Tm.fE]
 |app _ _ c d=>intro σ a;rw[aaa _ _ _ _ aal aal,c σ a,d σ a]|zero=>intro σ _;rw[aes _ _ aal aal]|succ _ ih=>intro σ a;rw[adO _ _ _ aal aal,ih σ a]|sF _ _ _ _ c d f=>intro σ a;rw[agt _ _ _ _ _ aal aal,c σ a,d σ a,f σ a]|nil=>intro σ _;rw[aes _ _ aal aal]|cons _ _ c d=>intro σ a;rw[aaa _ _ _ _ aal aal,c σ a,d σ a]|fold _ _ _ _ c d f=>intro σ a;rw[agt _ _ _ _ _ aal aal,c σ a,d σ a,f σ a]|pair _ _ _ c d=>intro σ a;rw[aaa _ _ _ _ aal aal,c σ a,d σ a]|fst _ ih=>intro σ a;rw[adO _ _ _ aal aal,ih σ a]|snd _ ih=>intro σ a;rw[adO _ _ _ aal aal,ih σ a]|unit=>intro σ _;rw[aes _ _ aal aal]
def eg.sbc{t:Tm}{s:Ty}(h:eg [] t s)(σ:List Tm):t.sb σ=t:=agz h σ λi hi=>by simp at hi
def Z6{P:Pf}{f:Fm}(a:Ik P)(hn:P.aor<=16000)(k:f.has=true)(h:Tk [] [] [] P f):(∃e t,pD e/\nP [] [] ⟨[],[]⟩ P=some (t,e))\/∃b m,Dv [] [] [] P b m/\nP [] [] ⟨[],[]⟩ P=some (match P.ex [] [] [] [] [] [] with|some d=>(d,(0:Int))|none=>(.mk 0 0 (.mk 0 []) [],4)):=by
 have hw:=P.kQ a.1.1;have he:=FA a.1 VW;rcases h SX a with⟨e,c,i⟩|⟨b,m,c,i,l⟩
 .refine .inl ⟨e,.mk 0 0 (.mk 0 []) [],c,?_⟩;unfold nP;rw[akV SX VW he a.2 i,dP,dO (by rw[eW];exact AE c)]
 .have j:=(Dv.of a.2 [] [] b m SX c).1;refine .inr ⟨b,m,j,?_⟩;rw[ahw .nil abx j SX VW he,dO (by rw[i.has];exact k)]<;>rfl
def aaO(s:Tm):(qW s).has=true:=aaK _ _ _
def ZN(a b:Tm):(oC a b).has=false:=Fm.has_eq _ _ _
def Rs(s t:Tm)(p:Pf)(L:List Fm)(Ts:List Tm)(g:List Ty)(hs:List Fm)(σ τ:List Tm)(hn:(t.sb σ).aor<=4096):(qX s t p).ex L Ts g hs σ τ=some (t.sb σ):=by
 rw[acP,dK (by show¬(oC v0 (s.up 0 1)).has=true;rw[ZN];decide),Fj hn]
section
variable{b c f:Tm}
def vh(σ:List Tm):v0.sb σ=σ.getD (σ.length-1-0) Tm.z:=SB σ 0
def u0:v0.up 0 1=v1:=by simp[Tm.fE,v0,v1]
def u1:v1.up 0 1=v2:=by simp[Tm.fE,v1,v2]
def u2:v2.up 0 1=v3:=by simp[Tm.fE,v2,v3]
end
end Go.fP
set_option maxRecDepth 20000
set_option maxHeartbeats 2000000
namespace Go.fP
open Go
def acJ:Int->Vl->(Int×(List Ty))->(Option (fp (Int×(List Ty)) (Vl×Int×Int))):=
 λ(n:Int) (f:Vl)=>(re λ(h:Int) (a:List Ty)=>
 dR (qD f) λi b=>
 if(eR b 0) then(
 some (.ret ((Vl.mk 0 0 [] []),0,b)))
 else(en (λ(j:Bool)=>
 if j then(
 some (.ret ((Vl.mk 0 0 [] []),0,7)))
 else(dH (dW a 1) λc=>
 some (.next (c.aop,c.aoq)))) λd=>
 if(eR h 4) then(
 d true)
 else(dH (dW a 0) λk=>
 dH (fO FU k i) λl=>
 d (lF l))))
def N5:Int->Vl->(Int×(List Int)×(List dJ)×Int×Int×Int×(List Ty)×(List Tm)×(List dJ)×Int×Int×Bool)->(Option (fp (Int×(List Int)×(List dJ)×Int×Int×Int×(List Ty)×(List Tm)×(List dJ)×Int×Int×Bool) (Vl×Int×Int))):=
 λ(J:Int) (t:Vl)=>(Zk λ(d:Int) (f:List Int) (h:List dJ) (i:Int) (j:Int) (k:Int) (l:List Ty) (n:List Tm) (o:List dJ) (q:Int) (r:Int) (b:Bool)=>
 en (λ(u:Int) (v:List Int) (w:List dJ) (x:Int) (y:Int) (A:Int) (B:List Ty) (C:List Tm) (D:List dJ) (F:Int) (G:Int) (H:Bool)=>
 some (.next (u,v,w,x,y,A,B,C,D,F,G,H))) λs=>
 if b then(
 s d f h i j k l n o q r b)
 else(dH (x0 FU t) λI=>
 dR (eL FU (d_.mk q r b) (dJ.mk d f h (Tm.mk i j (Ty.mk k l) n) o) I) λa c=>
 s a.num a.list a.pair a.body.aop a.body.aos a.body.dM.aop a.body.dM.aoq a.body.aoq a.env c.used c.rE c.out))
abbrev CSt:=Int×(List Int)×(List dJ)×Int×Int×Int×(List Ty)×(List Tm)×(List dJ)×Int×Int×Bool
def cpk(r:uY)(M u:Nat)(o:Bool):CSt:=(r.num,r.list,r.pair,r.body.aop,r.body.aos,r.body.dM.aop,r.body.dM.aoq,r.body.aoq,r.env,(u:Int),(M:Int),o)
def afA(M B:Nat)(v:Vl)(s:Ty)(w:Vw):Prop:=s.aor<=64/\qD v=some (s,0)/\w.s=s.S/\∃r,x0 FU v=some r/\RV M w r B
inductive tM (M B:Nat):List Vl->List Ty->List Vw->Prop
 |nil:tM M B [] [] []|cons {v s w l ss ws}:afA M B v s w->tM M B l ss ws->tM M B (v::l) (s::ss) (w::ws)
theorem tM.mono{M B B':Nat}{l:List Vl}{ss:List Ty}{ws:List Vw}(h:tM M B l ss ws)(a:B<=B'):tM M B' l ss ws:=by
 induction h with
 |nil=>exact .nil|cons b h ih=>
  obtain⟨q0,q1,c,q,d,f⟩:=b;exact .cons ⟨q0,q1,c,q,d,f.mono a⟩ ih
def LZ(T:Ty):List Ty->Ty
 |[]=>T|s::ss=>.fn s (LZ T ss)
noncomputable def CB:Vw->List Vw->Vw
 |f,[]=>f|f,w::ws=>CB (mU f w) ws
def acQ{M B:Nat}{T:Ty}{l:List Vl}{ss:List Ty}{ws:List Vw}(h:tM M B l ss ws):∀j:Nat,fa acJ l j ((LZ T ss).aop,(LZ T ss).aoq)=some (.inl (T.aop,T.aoq)):=by
 induction h with
 |nil=>intro j;rfl|@cons v s w l ss ws a h ih=>
  intro j;obtain⟨hs,b,_⟩:=a
  have e:acJ (j:Int) v ((LZ T (s::ss)).aop,(LZ T (s::ss)).aoq)=some (.next ((LZ T ss).aop,(LZ T ss).aoq)):=by
   unfold acJ;rw[iB,b,dP,dK nz,dY,dK (by show¬eR 4 4=true;decide),show dW (LZ T (s::ss)).aoq 0=some s from rfl,dI,im VW,dI,(Ty.lq s s).2 rfl];dsimp only;rw[dK aal,show dW (LZ T (s::ss)).aoq 1=some (LZ T ss)from rfl,dI]
  rw[eV,e,dI,eQ];exact ih (j+1)
def Fo{M:Nat}{T:Ty}:∀(l:List Vl) (ss:List Ty) (ws:List Vw) (j:Nat) (r:uY) (u B:Nat) (o:Bool) (w:Vw),tM M B l ss ws->w.s=(LZ T ss).S->u<=M->M<=65536->B+(M-u)<=100000000->(o=false->RV M w r B)->∃b a o',fa N5 l j (cpk r M u o)=some (.inl (cpk b M a o'))/\u<=a/\a<=M/\(o'=false->RV M (CB w ws) b (B+(a-u)))
 |_,_,_,j,r,u,B,o,w,.nil,hw,hu,c,d,i=>⟨r,u,o,rfl,gY u,hu,λh=>(i h).mono VW⟩|_,_,_,j,r,u,B,o,w,@tM.cons _ _ v s x l ss ws y h,hw,hu,c,d,i=>by
  obtain⟨_,_,A,q,C,D⟩:=y;rw[show LZ T (s::ss)=.fn s (LZ T ss)from rfl,BY] at hw;rw[eV];cases o with
  |true=>
   have e:N5 (j:Int) v (cpk r M u true)=some (.next (cpk r M u true)):=rfl;rw[e,dI,eQ];obtain⟨b,a,o',a1,a2,a3,a4⟩:=Fo (T:=T) l ss ws (j+1) r u B true (mU w x) h (zO hw) hu c d (λh=>by cases h);exact⟨b,a,o',a1,a2,a3,a4⟩
  |false=>
   obtain⟨φ,rfl⟩:=Ju hw;have F:=i rfl;obtain⟨t,u1,o1,G,I,c3,H⟩:=F (x.at s.S) q B u FU (gY _) d (D.at A) hu (by rw[fl];omega)
   have e:N5 (j:Int) v (cpk r M u false)=some (.next (cpk t M u1 o1)):=by
    unfold N5 cpk;rw[HS,dY,dK aal,C,dI,Ty.hR,Tm.hR,dJ.hR];rw[show eL FU (d_.mk (u:Int) (M:Int) false) r q=_ from G,dP]
   rw[e,dI,eQ];have k:tM M (B+(u1-u)) l ss ws:=h.mono VW;obtain⟨b,a,o',a1,a2,a3,a4⟩:=Fo (T:=T) l ss ws (j+1) t u1 (B+(u1-u)) o1 (mU ⟨.f s.S (LZ T ss).S,φ⟩ x) k rfl c3 c VW (λn=>(H n).2);exact⟨b,a,o',a1,VW,a3,λn=>(a4 n).mono VW⟩
def Kh{f:Tm}{ss:List Ty}{l:List Vl}{ws:List Vw}{M B:Nat}(a:eg [] f (LZ .nat ss))(hn:f.aor<=4096)(G:tM M B l ss ws)(hl:l.length<=1000)(J:M<=65536)(hB:B<=90000000):∃v k e,lY f l (M:Int)=some (v,k,e)/\(e=5\/e=0/\v.num=((Dz (CB (f.val []) ws):Nat):Int)/\Dz (CB (f.val []) ws)<=B+M):=by
 have he:f.err=0:=Tm.jx a.ok hn
 have K:jf []:=λs hs=>by simp at hs
 have O:j4 [] f=some (LZ .nat ss,0):=by rw[(xf K abm he),mo a K abv]
 have I:zJ [] []:=rfl;obtain⟨r,u,o,P,e2,Q,R⟩:=al' (M:=M) J a [] [] B 0 FU I ⟨rfl,λi v r h=>by simp at h⟩ abv VW (PS _) (by rw[fl];omega);obtain⟨H,U,o',V,c2,c3,W⟩:=Fo (T:=.nat) l ss ws 0 r u (B+u) o (f.val []) (G.mono VW) (oT a [] I) Q J VW (λX=>by simpa using(R X).2)
 have hu:lY f l (M:Int)=dH (some (.inl (cpk H M U o'))) (fQ (Zk λ(b:Int) (c:List Int) (d:List dJ) (j:Int) (q:Int) (t:Int) (x:List Ty) (y:List Tm) (A:List dJ) (C:Int) (N:Int) (D:Bool)=>
   if D then some ((Vl.mk 0 0 [] []),0,5)else dH (oI FU (dJ.mk b c d (Tm.mk j q (Ty.mk t x) y) A) .nat) λF=>some (F,C,0)) (λr=>some r)):=by
  rw[<-V];unfold lY;rw[O,dP,dK nz,ei VW,dU,dY];have L:=acQ (T:=.nat) G 0;show dH (fa acJ l 0 ((LZ .nat ss).aop,(LZ .nat ss).aoq)) _=_;rw[L,dI,ew,iB];rw[show yW (Ty.mk Ty.nat.aop Ty.nat.aoq)=some (true,0) by kernel_rfl,dP,dO rfl];rw[dK (by rw[lW,sx,jA,hJ];omega)];rw[show fJ FU (d_.mk 0 (M:Int) false) f []=_ from P,dP,dU,dY];rfl
 rw[hu,dI,ew];unfold cpk;rw[HS];cases o' with
 |true=>exact⟨_,_,5,rfl,.inl rfl⟩|false=>
  have k:=W rfl
  have hs:(CB (f.val []) ws).s=.n:=by
   have:∀(ws:List Vw) (ss:List Ty) (l:List Vl) (w:Vw),tM M B l ss ws->w.s=(LZ .nat ss).S->(CB w ws).s=.n:=by
    intro ws ss l w h
    induction h generalizing w with
    |nil=>intro h;rw[<-wo];exact h|cons G h ih=>intro hw;rw[show LZ Ty.nat (_::_)=.fn _ (LZ .nat _)from rfl,BY] at hw;exact ih _ (zO hw)
   exact this ws ss l _ G (oT a [] I)
  obtain⟨Y,k2⟩:Rnm (Dz (CB (f.val []) ws)) H _:=k.at hs;rw[dK aal,Ty.hR,Tm.hR,dJ.hR]
  have Z:oI FU H .nat=some (Vl.mk 1 H.num [] []):=by
   obtain⟨m,hm⟩:∃m,FU=m+1:=⟨FU-1,by rw[fl]⟩;rw[hm,oI,dO abE]
  rw[Z,dI];exact⟨_,_,0,rfl,.inr ⟨rfl,Y,VW⟩⟩
end Go.fP
set_option maxRecDepth 20000
set_option maxHeartbeats 2000000
namespace Go.fP
open Go
def FV{t:Tm}{s:Ty}(h:eg [] t s)(ρ:List Vw):t.val ρ=t.val []:=by
 have:=YY t [] ρ h.ok
 rwa [h.cl.up 0 _ VW,n9] at this
def Ev{g:List Ty}{s t:Ty}{b:Tm}(h:eg (g++[s]) b t){ρ:List Vw}(he:zJ ρ g){v:Vw}(a:v.s=s.S):mU ((Tm.mk 2 0 s [b]).val ρ) v=b.val (ρ++[v]):=by
 rw[Tm.val_mk,dK aal,dO rfl]
 rw[aa1 a (λx=>by
  have c:=oT h (ρ++[⟨s.S,x⟩]) (he.app rfl);have d:=oT h (ρ++[⟨s.S,s.S.dft⟩]) (he.app rfl)
  exact c.trans d.symm)]
 show b.val (ρ++[⟨s.S,v.at s.S⟩])=_;rw[Vw.eta a]
def xd(f a:Tm)(ρ:List Vw):(ef f a).val ρ=mU (f.val ρ) (a.val ρ):=py aal aal ρ
def Ks(ρ:List Vw)(v:Vw):v0.val (ρ++[v])=v:=by
 unfold v0;rw[Tm.val_mk,dO rfl];simp
abbrev nV(k:Nat):Vw:=⟨.n,k⟩
section
variable{b c f:Tm}
end
def arg_num{M B k:Nat}(h:k<=B):afA M B (.mk 1 (k:Int) [] []) .nat (nV k):=by
 obtain⟨m,hm⟩:∃m,FU=m+1:=⟨FU-1,by rw[fl]⟩;refine⟨aal,?_,by rw[wo],.mk (k:Int) [] [] (Tm.mk 0 0 (Ty.mk 0 []) []) [],?_,(⟨rfl,h⟩:Rnm k _ B)⟩
 .unfold qD xi;rw[hm,sm,dO abE];show dH (dH (some (fq (qz (k:Int) 0) (fq true true false) false)) _) _=_;rw[show qz (k:Int) 0=true by rw[ju];omega];rfl
 .rw[hm];rfl
end Go.fP
set_option maxRecDepth 20000
set_option maxHeartbeats 400000
namespace Go.fP
open Go
def Yx{P:Pf}{F:Fm}(a:Ik P)(hn:P.aor<=16000)(hi:eC FU [] P kP0=some (⟨F,0⟩,0))(hF:Hg [] F):nG [] ⟨[],[]⟩ P=some (⟨F,[]⟩,0):=by
 have he:=FA a.1 VW;have b:=P.kQ a.1.1;unfold nG;rw[show ta [] ⟨[],[]⟩=some 0 by kernel_rfl,dI,dK nz,AM VW,he,dI,dK nz,show zp=some ()from rfl,dI,show u9 ⟨[],[]⟩=some kP0 by kernel_rfl,dI,hi,dP,dK nz,Dm hF.err (hF.aov abm VW),dI,acR,dI]
def MY{G:Tm}{P:Pf}{F:Fm}(hG:eg [] G (.fn .nat .nat))(a:G.aor<=1000)(d:nG [] ⟨[],[]⟩ P=some (⟨F,[]⟩,0))(hF:Hg [] F)(f:rl F (zv G)):∃e,kE G P=some e/\(e=0\/pD e):=by
 have c:eg ([]++[.nat]) (ef G v0) .nat:=.app (hG.cls _) jI;have h:fY (ef G v0)=some (qW (ef G v0)):=exists_eq (g:=[.nat]) c abm (by rw[ef,Tm.dL];simp only[ee];rw[show v0.aor=1 from rfl];omega);have o1:=(y8 hG a).1;have b:Hg [] (zv G):=⟨Fm.jx o1.1 o1.2,.q (.inl rfl) Ty.gC (tz c)⟩;obtain⟨e,i,j⟩:=ac_ hF b abm abm f;refine⟨e,?_,j⟩;unfold kE;simp only[d,dP,dK nz,NV,dI,UD,ED,h,adm];rw[show(Fm.mk 4 .nat [] [qW (ef G v0)])=zv G from rfl,i,dI]
def DL{f h:Tm}{x y:Pf}(i:eg [] f (.fn .nat .nat))(j:eg [] h (.fn .nat .nat))(l:f.aor<=4000)(o:h.aor<=4000){c d:Int}(q:kE f x=some c)(s:kE h y=some d):mh f x h y=if c=0 then(if d=0 then jO (EA f h) (z7 f x h y)else some (.mk 0 .z [] [],af8,d))else some (.mk 0 .z [] [],af8,c):=by
 have A:∀{g:List Ty} {x:Tm},eg g x .nat->eg g (ef h (ef f x)) .nat:=λk=>.app (j.cls _) (.app (i.cls _) k)
 have n1:∀{n:Tm},n.aor<=10->(ef h (ef f n)).aor<=1000000:=λ{n} k=>by
  simp only[ef,Tm.dL,ee];omega
 have q1:fY (ef h (ef f v2))=some (qW (ef h (ef f v2))):=exists_eq (g:=[.nat,.nat,.nat]) (A (U7 (g:=[]))) abm (n1 aal);have t:fY (ef h (ef f v0))=some (qW (ef h (ef f v0))):=exists_eq (g:=[.nat]) (A (jI (g:=[]))) abm (n1 aal);unfold mh;rw[dY,ei abm,dU,dY,Z5 i j VW VW aal Zg,ew,q,dI]
 by_cases a:c=0
 .subst a;rw[dK nz,s,dI,dO rfl]
  by_cases b:d=0
  .subst b;rw[dK nz,dO rfl];simp only[NV,dI,UD,akd,ald,ED,q1,t,ak',af_,aej,Qn,aha,amJ,Zf,adm];cases hm:jO (EA f h) (z7 f x h y)with
   |none=>rfl|some r=>rfl
  .rw[dO (by rw[eW];exact b),dK b];rfl
 .rw[dO (by rw[eW];exact a),dK a];rfl
abbrev Fq(a b:Tm):Tm:=.mk 2 0 .nat [ef b (ef a v0)]
section
variable{a b:Tm}
def y9{x y:Tm}:(ef x y).aor=1+(x.aor+y.aor):=by simp only[ef,Tm.dL,ee];omega
def yF:v0.aor=1:=rfl
def u_{s:Ty}{x:Tm}:(Tm.mk 2 0 s [x]).aor=1+x.aor:=by simp only[Tm.dL,ee];omega
def vR(c:eg [] a (.fn .nat .nat))(d:eg [] b (.fn .nat .nat)):eg [] (Fq a b) (.fn .nat .nat):=.lam aal (.app (d.cls _) (.app (c.cls _) (jI (g:=[]))))
def aak(c:eg [] a (.fn .nat .nat))(d:eg [] b (.fn .nat .nat)){g:List Ty}{x:Tm}(h:eg g x .nat):DB (ef (Fq a b) x) (ef b (ef a x)):=by
 have A:=c.cl;have B:=d.cl
 have e:Tm.gP 0 (ef b (ef a v0)) x=ef b (ef a x):=by
  simp[Tm.fN,v0,Tm.lz,eT,A.gP,B.gP,ef,rS]
 have f:eg ([]++[.nat]) (ef b (ef a v0)) .nat:=.app (d.cls _) (.app (c.cls _) jI);have s:oo (ef (Fq a b) x) (Tm.gP 0 (ef b (ef a v0)) x):=.step (.beta 0 _ 0 _ (mP.refl _ f.ok) (mP.refl _ h.ok)) (.refl _);rw[e] at s;exact .star (eg.app ((vR c d).cls g) h).ok s
def abb{s t:Tm}(h:DB s t):rl (.mk 4 .nat [] [qW s]) (.mk 4 .nat [] [qW t]):=.q (.q (.eq (.refl abE) (h.up VW VW)))
def SY(c:eg [] a (.fn .nat .nat))(d:eg [] b (.fn .nat .nat))(f:a.aor<=900)(h:b.aor<=900):Hg [] (EA a b):=by
 have this:jy ([]++[Ty.nat]) (qW (ef b (ef a v0))):=tz (.app (d.cls _) (.app (c.cls _) jI));have this:jy [] (EA a b):=.q (.inl rfl) Ty.gC this;refine⟨Fm.jx this.ok ?_,this⟩;have e:=Tm.kJ (ef b (ef a v0)) 0 1;simp only[Fm.dL,ee,e,y9,yF];omega
def v_{f:Tm}(hn:f.aor<=500):(pN f).aor<=2000:=by simp only[Pf.dL,Fm.dL,Tm.dL,Tm.kJ,ef,ee,yF];omega
def Jr{f h:Tm}{x y:Pf}{n:Nat}(a:f.aor<=210)(b:h.aor<=210)(c:x.aor<=n)(hy:y.aor<=n):(z7 f x h y).aor<=2*n+1000:=by
 have nv1:v1.aor=1:=rfl;have nv2:v2.aor=1:=rfl;simp only[Pf.dL,Fm.dL,Tm.dL,Tm.kJ,ef,ee,yF,nv1,nv2];omega
def ah8{f:Tm}(a:eg [] f (.fn .nat .nat))(hn:f.aor<=900):nG [] ⟨[],[]⟩ (pN f)=some (⟨zv f,[]⟩,0):=by
 obtain⟨o1,o2,b⟩:=y8 a VW;obtain⟨k,c⟩:∃k,FU=k+6:=⟨FU-6,by rw[fl]⟩;have d:eg ([]++[.nat]) (ef f v0) .nat:=.app (a.cls _) jI;refine Yx o2 b ?_ ⟨Fm.jx o1.1 o1.2,.q (.inl rfl) Ty.gC (tz d)⟩;rw[c];exact ah2 a VW (g:=[]) (λs hs=>by simp at hs) abm rfl (by kernel_rfl) k
def YX(c:eg [] a (.fn .nat .nat))(d:eg [] b (.fn .nat .nat))(h:a.aor<=210)(i:b.aor<=210):nG [] ⟨[],[]⟩ (z7 a (pN a) b (pN b))=some (⟨EA a b,[]⟩,0):=by
 obtain⟨_,o2,_⟩:=y8 c VW;obtain⟨_,j,_⟩:=y8 d VW;obtain⟨_,l,n⟩:=Kr c d VW VW o2 j (by have:=v_ (f:=a) VW;omega) (by have:=v_ (f:=b) VW;omega);obtain⟨k,o⟩:∃k,FU=k+30:=⟨FU-30,by rw[fl]⟩;refine Yx l n ?_ (SY c d VW VW);rw[o];exact am4 c d VW VW k
end
def Exc(d:Nat)(P:Pf)(t:Tm):Prop:=∀(g:List Ty) (hs:List Fm) (F:Fm) (m:Nat) (σ τ:List Tm),g.length<=d->hs.length<=d->zA [] ⟨g,hs⟩->Dv [] g hs P F m->P.ex [] [] g hs σ τ=some t
abbrev nx(f:Tm):Tm:=.mk 2 0 .nat [ef f v0]
abbrev vI(x y:Tm):Tm:=.mk 2 0 .nat [ef (.mk 2 0 .nat [ef (.mk 2 0 .nat [v0]) (ef y v0)]) (ef x v0)]
def RK(σ:List Tm):v0.sb (σ++[oX 0])=v0:=by
 rw[vh,A2];simp;rfl
def Gd{f:Tm}(a:eg [] f (.fn .nat .nat))(hn:f.aor<=1000)(d:Nat):Exc d (pN f) (nx f):=λg hs F m σ τ _ _ _ _=>by
 have e:(ef f v0).sb (tn σ++[oX 0])=ef f v0:=by
  rw[ef,aaa _ _ _ _ aal aal,a.sbc,RK]
 rw[U8,Rs _ _ _ _ _ _ _ _ _ (by rw[e,y9,yF];omega),e,Nf];exact Fj (by rw[u_,y9,yF];omega)
def Xx{L:List Fm}{g:List Ty}{hs:List Fm}{s:Ty}{a:Pf}{f:Fm}{m:Nat}(h:Dv L g hs (.mk 8 0 s [] [] [a]) f m):∃b c,Dv L (g++[s]) (hs.map (Fm.up 0 1)) a b c:=by
 cases h with
 |all j d k i l=>exact⟨_,_,i⟩
def Qh{L:List Fm}{g:List Ty}{hs:List Fm}{t:Tm}{a:Pf}{f:Fm}{m:Nat}(h:Dv L g hs (.mk 9 0 .z [t] [] [a]) f m):∃b c,Dv L g hs a b c:=by
 cases h with
 |Zx i j he d k hn=>exact⟨_,_,d⟩
def Px{L:List Fm}{g:List Ty}{hs:List Fm}{a b:Pf}{f:Fm}{m:Nat}(h:Dv L g hs (.mk 11 0 .z [] [] [a,b]) f m):∃s x c d n,Dv L g hs a (.mk 5 s [] [x]) d/\Hg (g++[s]) x/\Dv L (g++[s]) (hs.map (Fm.up 0 1)++[x]) b c n:=by
 cases h with
 |opn i j k l o q r t u hw=>
  obtain⟨_,rfl⟩:=i;exact⟨_,_,_,_,_,j,q,r⟩
def aaP{g:List Ty}{hs:List Fm}{a:Pf}{s:Ty}{x:Fm}{t:Tm}{m:Nat}(T:Tk [] g hs a (qW t))(b:zA [] ⟨g,hs⟩)(w:Ik a)(hi:a.inf [] g hs=.inl (.mk 5 s [] [x],m)):s=.nat/\x.has=false:=by
 rcases T b w with⟨e,_,q⟩|⟨d,f,q,c,_⟩
 .rw[hi] at q;cases q
 .rw[hi] at q
  obtain⟨rfl,rfl⟩:Fm.mk 5 s [] [x]=d/\m=f:=by simpa using q
  obtain⟨h,e,i⟩:=c.ZO
  obtain⟨rfl,rfl⟩:s=.nat/\x=h:=by simpa using e
  exact⟨rfl,by rw[i.has];exact ZN _ _⟩
def aeT{x:Pf}{a:Tm}{g:List Ty}{hs:List Fm}{σ τ:List Tm}(h:x.ex [] [] g hs σ τ=some a)(b:v0.sb σ=v0)(hn:a.aor<=4000):(Pf.mk 9 0 .z [v0] [] [x]).ex [] [] g hs σ τ=some (ef a v0):=by
 rw[ahH,h,Nf,b];exact Fj (by rw[y9,yF];omega)
def Yq{a b:Pf}{g:List Ty}{hs:List Fm}{σ τ:List Tm}{c:Fm}{m:Nat}{f tb:Tm}(hi:a.inf [] g hs=.inl (.mk 5 .nat [] [c],m))(h:c.has=false)(i:a.ex [] [] g hs σ τ=some f)(j:b.ex [] [] (g++[.nat]) (hs.map (Fm.up 0 1)++[c]) (tn σ++[oX 0]) (tn τ++[Tm.z])=some tb)(hn:f.aor+tb.aor<=4000):(BV a b).ex [] [] g hs σ τ=some (ef (.mk 2 0 .nat [tb]) f):=by
 have d:¬((Fm.mk 5 .nat [] [c]).aoq.getD 0 oE).has=true:=by show¬c.has=true;rw[h];decide
 rw[RA,hi,UW,i,Nf,dK d];show Tr ((b.ex [] [] (g++[.nat]) (hs.map (Fm.up 0 1)++[c]) (tn σ++[oX 0]) (tn τ++[Tm.z])).bind λy=>some (ef (.mk 2 0 .nat [y]) f))=_;rw[j,Nf];exact Fj (by rw[y9,u_];omega)
def Og{f h:Tm}(u:eg [] f (.fn .nat .nat))(v:eg [] h (.fn .nat .nat)){x y:Pf}{j ty:Tm}{d:Nat}(V:d<=10)(w:Ik x)(A:Ik y)(B:∀g hs,Tk [] g hs x (zv f))(hy:∀g hs,Tk [] g hs y (zv h))(ex:Exc (d+3) x j)(C:Exc (d+3) y ty)(W:j.aor<=1500)(X:ty.aor<=1500):Exc d (z7 f x h y) (vI j ty):=by
 intro g hs F m σ τ lg lh D G
 have s:∀{k:Tm},Cl k->Fm.gP 0 (qW (ef k v0)) v0=qW (ef k v0):=λ{k} K=>by
  simp[Fm.fN,Tm.fE,Tm.fN,v0,Tm.lz,eT,qB,i_,K.up,K.gP,ef]
 have t:Okt v0:=⟨rfl,aal⟩;obtain⟨_,_,d1⟩:=Xx G;obtain⟨s1,i,f1,Y,n1,l,n,H⟩:=Px d1;have a:zA [] ⟨g++[.nat],hs.map (Fm.up 0 1)⟩:=D.xR Ty.gC VW
 have I:Tk [] (g++[.nat]) (hs.map (Fm.up 0 1)) (.mk 9 0 .z [v0] [] [x]) (qW (ef f v0)):=by
  have o:eg (g++[.nat]) v0 .nat:=jI;have:=Tk.adR o (B (g++[.nat]) (hs.map (Fm.up 0 1)))
  rwa [s u.cl] at this
 obtain⟨rfl,q⟩:=aaP I a (Is t w) (l.inf a);obtain⟨s2,J,f2,Z,n2,c,L,M⟩:=Px H;have b:zA [] ⟨g++[.nat]++[.nat],(hs.map (Fm.up 0 1)).map (Fm.up 0 1)++[i]⟩:=(a.xR Ty.gC abv).with n abv
 have N:Tk [] (g++[.nat]++[.nat]) ((hs.map (Fm.up 0 1)).map (Fm.up 0 1)++[i]) (.mk 9 0 .z [v0] [] [y]) (qW (ef h v0)):=by
  have o:eg (g++[.nat]++[.nat]) v0 .nat:=jI;have:=Tk.adR o (hy (g++[.nat]++[.nat]) ((hs.map (Fm.up 0 1)).map (Fm.up 0 1)++[i]))
  rwa [s v.cl] at this
 obtain⟨rfl,r⟩:=aaP N b (Is t A) (c.inf b);obtain⟨_,_,O⟩:=Qh l;obtain⟨_,_,P⟩:=Qh c;have Q:=ex _ _ _ _ (tn σ++[oX 0]) (tn τ) abv abv a O;have R:=C _ _ _ _ (tn (tn σ++[oX 0])++[oX 0]) (tn (tn τ)++[Tm.z]) abv abv b P;show(Pf.mk 8 0 .nat [] [] [BV (.mk 9 0 .z [v0] [] [x]) (BV (.mk 9 0 .z [v0] [] [y]) (qX (ef h (ef f v2)) v0 (xg (oC v1 (ef h v0)) (zt 1) (zt 0))))]).ex [] [] g hs σ τ=_
 have S:(qX (ef h (ef f v2)) v0 (xg (oC v1 (ef h v0)) (zt 1) (zt 0))).ex [] [] (g++[.nat]++[.nat]++[.nat]) (((hs.map (Fm.up 0 1)).map (Fm.up 0 1)++[i]).map (Fm.up 0 1)++[J]) (tn (tn (tn σ++[oX 0])++[oX 0])++[oX 0]) (tn (tn (tn τ)++[Tm.z])++[Tm.z])=some v0:=by
  rw[Rs _ _ _ _ _ _ _ _ _ (by rw[RK];decide),RK]
 have T:=Yq (c.inf b) r (aeT R (RK _) VW) S (by rw[y9,yF];omega);have U:=Yq (l.inf a) q (aeT Q (RK _) VW) T (by rw[y9,y9,u_,y9,yF];omega);rw[U8,U,Nf];exact Fj (by rw[u_,y9,u_,y9,u_,y9,y9,yF];omega)
def NA{f:Tm}(a:eg [] f (.fn .nat .nat)):eg [] (nx f) (.fn .nat .nat):=.lam aal (.app (a.cls _) (jI (g:=[])))
def BA{x y:Tm}(a:eg [] x (.fn .nat .nat))(hy:eg [] y (.fn .nat .nat)):eg [] (vI x y) (.fn .nat .nat):=
 .lam aal (.app (.lam (g:=[.nat]) aal (.app (.lam (g:=[.nat,.nat]) aal (jI (g:=[.nat,.nat]))) (.app (hy.cls _) (jI (g:=[.nat]))))) (.app (a.cls _) (jI (g:=[]))))
def fs{f:Tm}(a:eg [] f (.fn .nat .nat)):(f.val []).s=.f .n .n:=by
 have:=oT a [] rfl
 rwa [BY,wo] at this
def yE{f:Tm}(a:eg [] f (.fn .nat .nat)){v:Vw}(b:v.s=Ty.nat.S):mU ((nx f).val []) v=mU (f.val []) v:=by
 have c:eg ([]++[.nat]) (ef f v0) .nat:=.app (a.cls _) jI;have d:zJ [] []:=rfl;rw[Ev c d b,xd,FV a,Ks]
def EU{x y:Tm}(a:eg [] x (.fn .nat .nat))(hy:eg [] y (.fn .nat .nat)){v:Vw}(b:v.s=Ty.nat.S):mU ((vI x y).val []) v=mU (y.val []) (mU (x.val []) v):=by
 have c:zJ [] []:=rfl;have d:zJ ([]++[v]) ([]++[.nat]):=c.app (s:=.nat) b;have f:eg ([]++[.nat]++[.nat]++[.nat]) v0 .nat:=jI;have h:eg ([]++[.nat]++[.nat]) (ef (.mk 2 0 .nat [v0]) (ef y v0)) .nat:=.app (.lam aal f) (.app (hy.cls _) jI);have i:eg ([]++[.nat]) (ef (.mk 2 0 .nat [ef (.mk 2 0 .nat [v0]) (ef y v0)]) (ef x v0)) .nat:=.app (.lam aal h) (.app (a.cls _) jI)
 have w:(mU (x.val []) v).s=Ty.nat.S:=by rw[wo];exact zO (fs a)
 have j:(mU (y.val []) (mU (x.val []) v)).s=Ty.nat.S:=by rw[wo];exact zO (fs hy)
 have k:=d.app w;rw[Ev i c b,xd,xd,FV a,Ks,Ev h d w,xd,xd,FV hy,Ks,Ev f k j,Ks]
abbrev aaC(a b c:Tm):Tm:=.mk 2 0 .nat [ef c (ef b (ef a v0))]
def acz{a b c:Tm}(d:eg [] a (.fn .nat .nat))(f:eg [] b (.fn .nat .nat))(h:eg [] c (.fn .nat .nat)):eg [] (aaC a b c) (.fn .nat .nat):=.lam aal (.app (h.cls _) (.app (f.cls _) (.app (d.cls _) (jI (g:=[])))))
def Zy{a b c:Tm}(d:eg [] a (.fn .nat .nat))(f:eg [] b (.fn .nat .nat))(i:eg [] c (.fn .nat .nat)){v:Vw}(j:v.s=Ty.nat.S):mU ((aaC a b c).val []) v=mU (c.val []) (mU (b.val []) (mU (a.val []) v)):=by
 have h:eg ([]++[.nat]) (ef c (ef b (ef a v0))) .nat:=.app (i.cls _) (.app (f.cls _) (.app (d.cls _) jI));have k:zJ [] []:=rfl;rw[Ev h k j,xd,xd,xd,FV i,FV f,FV d,Ks]
def CX{f:Tm}(a:eg [] f (.fn .nat .nat))(hn:f.aor<=900):kE f (pN f)=some 0:=by
 have b:eg ([]++[.nat]) (ef f v0) .nat:=.app (a.cls _) jI;have c:fY (ef f v0)=some (qW (ef f v0)):=exists_eq (g:=[.nat]) b abm (by rw[ef,Tm.dL];simp only[ee];rw[show v0.aor=1 from rfl];omega);have o1:=(y8 a VW).1;have hF:Hg [] (zv f):=⟨Fm.jx o1.1 o1.2,.q (.inl rfl) Ty.gC (tz b)⟩;unfold kE;simp only[ah8 a hn,dP,dK nz,NV,dI,UD,ED,c,adm];rw[show(Fm.mk 4 .nat [] [qW (ef f v0)])=zv f from rfl,Gj hF abm,dI]
def WW{d:eN}(a:d.wf):∃(k:Nat) (b:eN),rA FU d .nat=some (.mk 1 (k:Int) [] [],b)/\k<=10:=by
 obtain⟨m,hm⟩:∃m,FU=m+1:=⟨FU-1,by rw[fl]⟩;obtain⟨k,d1,c,f,h,i⟩:=u7 d a 5 VW VW;obtain⟨k,rfl⟩:∃y:Nat,k=y:=⟨k.toNat,VW⟩;refine⟨k,d1,?_,VW⟩;rw[show rA FU d .nat=rA (m+1) d .nat by rw[hm]];rw[rA,dO abE,c,dP]
end Go.fP
set_option maxRecDepth 20000
set_option maxHeartbeats 1000000
namespace Go.fP
open Go
def OM{f:Tm}(hn:f.aor<=201):(pN f).aor<=1000:=by simp only[Pf.dL,Fm.dL,Tm.dL,Tm.kJ,ef,ee,yF];omega
def Fs(l:List Int):oN l=some true:=by
 unfold oN;rw[dY,aa7,dI,dO rfl,Xs,dI]
 by_cases ai:500<l.length
 .rw[KG VW];rfl
 have hl:l.length<=500:=VW
 rw[xG hl];dsimp only;rw[dK aal,show SS l=some ⟨l,0⟩from rfl,dI];have hd:eN.wf ⟨l,0⟩:=⟨by show l.length<=1000;omega,abm,abm⟩;obtain⟨a,d1,a1,a2,a3,a4⟩:=Nv hd;obtain⟨b,d2,b1,b2,d,b4⟩:=Nv a2;obtain⟨c,d3,c1,c2,c3,c4⟩:=Nv b2;obtain⟨R,o,T⟩:=y8 a3 VW;obtain⟨U,fb2,V⟩:=y8 d VW;obtain⟨W,r,X⟩:=y8 c3 VW;have na:=v_ (f:=a) VW;have nb:=v_ (f:=b) VW;have nc:=v_ (f:=c) VW;have vA:∀x y,hW x y=some (ef x y):=λ_ _=>rfl;have vV:fS 0=some v0:=rfl;have vL:∀x,mC .nat x=some (.mk 2 0 .nat [x]):=λ_=>rfl;rw[a1,dP,b1,dP,c1,dP,AX a3 VW,yQ R o T,gw,AX d VW,yQ U fb2 V,gw,AX c3 VW,yQ W r X,gw,dK aal,show ur=some .nat from rfl,dI];simp only[vA,vV,vL,dI];obtain⟨g1,g2,g3⟩:=Kr a3 d VW VW o fb2 VW VW;obtain⟨h1,Y,h3⟩:=Kr d c3 VW VW fb2 r VW VW
 have n1:(Fq a b).aor<=410:=by rw[u_,y9,y9,yF];omega
 have n2:(Fq b c).aor<=410:=by rw[u_,y9,y9,yF];omega
 have A:=CX a3 VW;have B:=CX d VW;have C:=CX c3 VW;rw[DL a3 d VW VW A B,dO rfl,dO rfl,yQ g1 g2 g3,gw,DL d c3 VW VW B C,dO rfl,dO rfl,yQ h1 Y h3,gw,dK aal];have I:rl (EA a b) (zv (Fq a b)):=abb (aak a3 d (jI (g:=[]))).symm;have J:rl (EA b c) (zv (Fq b c)):=abb (aak d c3 (jI (g:=[]))).symm;obtain⟨e1,p1,p2⟩:=MY (vR a3 d) VW (YX a3 d VW VW) (SY a3 d VW VW) I;obtain⟨e2,q1,q2⟩:=MY (vR d c3) VW (YX d c3 VW VW) (SY d c3 VW VW) J
 have m1:(z7 a (pN a) b (pN b)).aor<=3000:=by
  have:=Jr (f:=a) (h:=b) (x:=pN a) (y:=pN b) (n:=1000) VW VW (OM a4) (OM b4);omega
 have m2:(z7 b (pN b) c (pN c)).aor<=3000:=by
  have:=Jr (f:=b) (h:=c) (x:=pN b) (y:=pN c) (n:=1000) VW VW (OM b4) (OM c4);omega
 obtain⟨i1,i2,i3⟩:=Kr (vR a3 d) c3 VW VW g2 r m1 VW;obtain⟨j1,j2,j3⟩:=Kr a3 (vR d c3) VW VW o Y VW m2;rw[DL (vR a3 d) c3 VW VW p1 C,DL a3 (vR d c3) VW VW A q1,yQ i1 i2 i3,yQ j1 j2 j3,dO (show(0:Int)=0 from rfl),dO (show(0:Int)=0 from rfl)]
 by_cases u:e1=0
 case neg=>
  have D:=p2.resolve_left u;rw[dK u,gw]
  by_cases j:e2=0
  .rw[dO j,gw,dO (by simp[eR,AE D]),dY,MB D];rfl
  .rw[dK j,gw,dO (by simp[eR,AE D]),dY,MB D];rfl
 by_cases j:e2=0
 case neg=>
  have K:=q2.resolve_left j;rw[dO u,gw,dK j,gw,dO (by simp[eR,AE K]),dY,Ip,dI,dK aal,MB K];rfl
 rw[dO u,gw,dO j,gw,dK aal];have L:∀g hs,Tk [] g hs (z7 a (pN a) b (pN b)) (zv (Fq a b)):=λg hs=>(ad7 a3 d [] g hs (λg hs=>Hm a3 [] g hs) (λg hs=>Hm d [] g hs)).cv I;have N:∀g hs,Tk [] g hs (z7 b (pN b) c (pN c)) (zv (Fq b c)):=λg hs=>(ad7 d c3 [] g hs (λg hs=>Hm d [] g hs) (λg hs=>Hm c3 [] g hs)).cv J
 have Z:(EA (Fq a b) c).has=true:=by rw[UT (.inl rfl),aaO]
 have ad:(EA a (Fq b c)).has=true:=by rw[UT (.inl rfl),aaO]
 have O:=NA a3;have tb:=NA d;have P:=NA c3
 have ka:(nx a).aor<=210:=by rw[u_,y9,yF];omega
 have kb:(nx b).aor<=210:=by rw[u_,y9,yF];omega
 have kc:(nx c).aor<=210:=by rw[u_,y9,yF];omega
 have ae:(vI (nx a) (nx b)).aor<=450:=by
  generalize nx a=x at ka;generalize nx b=y at kb;rw[u_,y9,u_,y9,u_,y9,y9,yF];omega
 have af:(vI (nx b) (nx c)).aor<=450:=by
  generalize nx b=x at kb;generalize nx c=y at kc;rw[u_,y9,u_,y9,u_,y9,y9,yF];omega
 have X1:Exc 0 (z7 (Fq a b) (z7 a (pN a) b (pN b)) c (pN c)) (vI (vI (nx a) (nx b)) (nx c)):=
  Og (vR a3 d) c3 VW g2 r L (λg hs=>Hm c3 [] g hs) (Og a3 d VW o fb2 (λg hs=>Hm a3 [] g hs) (λg hs=>Hm d [] g hs) (Gd a3 VW _) (Gd d VW _) VW VW) (Gd c3 VW _) VW VW
 have X2:Exc 0 (z7 a (pN a) (Fq b c) (z7 b (pN b) c (pN c))) (vI (nx a) (vI (nx b) (nx c))):=
  Og a3 (vR d c3) VW o Y (λg hs=>Hm a3 [] g hs) N (Gd a3 VW _) (Og d c3 VW fb2 r (λg hs=>Hm d [] g hs) (λg hs=>Hm c3 [] g hs) (Gd d VW _) (Gd c3 VW _) VW VW) VW VW
 have t1:=Z6 i2 i3 Z (ad7 (vR a3 d) c3 [] [] [] L (λg hs=>Hm c3 [] g hs));have t2:=Z6 j2 j3 ad (ad7 a3 (vR d c3) [] [] [] (λg hs=>Hm a3 [] g hs) N);rcases t1 with⟨e,t,he,Q⟩|⟨f1,w1,ah,Q⟩
 .rcases t2 with⟨e',t',F,i⟩|⟨f2,w2,G,i⟩
  .rw[Q,dP,i,dP,dO (by simp[eR,AE he]),dY,MB he];rfl
  .rw[X2 _ _ _ _ _ _ abm abm SX G] at i;rw[Q,dP,i];dsimp only;rw[dP,dO (by simp[eR,AE he]),dY,MB he];rfl
 rw[X1 _ _ _ _ _ _ abm abm SX ah] at Q;rw[Q];dsimp only;rw[dP];rcases t2 with⟨e',t',F,i⟩|⟨f2,w2,G,i⟩
 .rw[i,dP,dO (by simp[eR,AE F]),dY,Ip,dI,dK aal,MB F];rfl
 rw[X2 _ _ _ _ _ _ abm abm SX G] at i;rw[i];dsimp only;rw[dP,dK aal];obtain⟨k,d4,v1,v2⟩:=WW c2;rw[v1,dP];have ag:tM 30000 10 [Vl.mk 1 (k:Int) [] []] [.nat] [nV k]:=.cons (arg_num v2) .nil
 have H:(nV k).s=Ty.nat.S:=by rw[wo]
 have kx:(vI (vI (nx a) (nx b)) (nx c)).aor<=4096:=by
  generalize vI (nx a) (nx b)=x at ae;generalize nx c=y at kc;rw[u_,y9,u_,y9,u_,y9,y9,yF];omega
 have ky:(vI (nx a) (vI (nx b) (nx c))).aor<=4096:=by
  generalize vI (nx b) (nx c)=x at af;generalize nx a=y at ka;rw[u_,y9,u_,y9,u_,y9,y9,yF];omega
 have kz:(aaC a b c).aor<=4096:=by rw[u_,y9,y9,y9,yF];omega
 obtain⟨v,q,e,r1,r2⟩:=Kh (M:=30000) (ss:=[.nat]) (BA (BA O tb) P) kx ag abm VW VW;obtain⟨w,q',e',s1,s2⟩:=Kh (M:=30000) (ss:=[.nat]) (BA O (BA tb P)) ky ag abm VW VW;obtain⟨z,ak,an,u1,u2⟩:=Kh (M:=30000) (ss:=[.nat]) (acz a3 d c3) kz ag abm VW VW;rw[show lY _ _ 30000=_ from r1,gw,show lY _ _ 30000=_ from s1,gw,show lY _ _ 30000=_ from u1,gw]
 have l5:hZ 5=some true:=aal
 rcases r2 with rfl|⟨rfl,r3,_⟩
 .rw[dO abE,dY,l5,dI,dO rfl]
 rcases s2 with rfl|⟨rfl,s3,_⟩
 .rw[dO abE,dY,Ip,dI,dK aal,l5,dI,dO rfl]
 rcases u2 with rfl|⟨rfl,u3,_⟩
 .rw[dO aal,dY,Ip,dI,dK aal,dI,dK aal,l5,dI]
 rw[dK aal]
 have sa:(mU (a.val []) (nV k)).s=Ty.nat.S:=by rw[wo];exact zO (fs a3)
 have sb:(mU (b.val []) (mU (a.val []) (nV k))).s=Ty.nat.S:=by rw[wo];exact zO (fs d)
 have V1:CB ((vI (vI (nx a) (nx b)) (nx c)).val []) [nV k]=mU (c.val []) (mU (b.val []) (mU (a.val []) (nV k))):=by
  show mU ((vI (vI (nx a) (nx b)) (nx c)).val []) (nV k)=_;rw[EU (BA O tb) P H,EU O tb H,yE a3 H,yE d sa,yE c3 sb]
 have V2:CB ((vI (nx a) (vI (nx b) (nx c))).val []) [nV k]=mU (c.val []) (mU (b.val []) (mU (a.val []) (nV k))):=by
  show mU ((vI (nx a) (vI (nx b) (nx c))).val []) (nV k)=_;rw[EU O (BA tb P) H,yE a3 H,EU tb P sa,yE d sa,yE c3 sb]
 have V3:CB ((aaC a b c).val []) [nV k]=mU (c.val []) (mU (b.val []) (mU (a.val []) (nV k))):=by
  show mU ((aaC a b c).val []) (nV k)=_;rw[Zy a3 d c3 H]
 rw[r3,s3,u3,V1,V2,V3];simp[eo,fq]
end Go.fP
