/- Part of the proof of KernelDoes: plain facts. -/
import Derived.Test.YtobcafblgapgfaaGreatDoorG1
set_option linter.all false
namespace Go.fB
open Go
@[simp] theorem eW(a b:Int):dg a b=true↔a=b:=by simp[dg]
@[simp] theorem da(a b:Int):dw a b=true↔a≠b:=by simp[dw]
@[simp] theorem ki(a b:Int):qj a b=true↔a<b:=by simp[qj]
@[simp] theorem zL(a b:Int):Em a b=true↔a<=b:=by simp[Em]
@[simp] theorem eV(a b:Int):kZ a b=true↔b<a:=by simp[kZ]
@[simp] theorem ib(a b:Int):sM a b=true↔b<=a:=by simp[sM]
@[simp] theorem lN(a b:Bool):eu a true b=(a||b):=by cases a<;>rfl
@[simp] theorem oR(a b:Bool):eu a b false=(a&&b):=by cases a<;>rfl
@[simp] theorem Ye(a b:Bool):eu a b true=(!a||b):=by cases a<;>rfl
@[simp] theorem U0(a:Bool):qf a=!a:=rfl
@[simp] theorem fx{α:Type}(l m:List α):fa l m=l++m:=rfl
@[simp] theorem ej{α:Type}(l:List α):di l=(l.length:Int):=rfl
theorem im{α:Type}(l:List α)(i:Nat):de l (i:Int)=l[i]?:=by simp[de]
@[simp] theorem dv{α:Type}(l:List α):de l 0=l[0]?:=by simp[de]
@[simp] theorem e9{α:Type}(l:List α):de l 1=l[1]?:=by simp[de]
@[simp] theorem il{α:Type}(l:List α):de l 2=l[2]?:=by simp[de]
def Jg{α:Type}{l:List α}{i:Int}(b:0<=i)(h1:i<l.length):∃x,de l i=some x/\x∈l:=by
 obtain⟨k,rfl⟩:=XN b
 have a:k<l.length:=VW
 exact⟨l[k],by rw[im];simp[a],GH a⟩
def db{α:Type}{l:List α}(h:l.length<=1000000000):dK l=true:=by unfold dK JV;exact xa VW
def dS{α:Type}{l m:List α}(h:l.length+m.length<=1000000000):eJ l m=true:=by unfold eJ JV;exact xa VW
def SG{b:Int}(h:b≠0):I8 b=true:=by simp[I8,h]
def E_{n:Int}(h1:-9223372036854775808<=n)(a:n<9223372036854775808):IntKind.i64.wrap n=n:=by
 rw[IntKind.wrap_i64];omega
def dI{a b:Int}(h1:-9223372036854775808<=a+b)(c:a+b<9223372036854775808):dF .i64 a b=a+b:=E_ h1 c
theorem ed{a b:Int}(h1:-9223372036854775808<=a-b)(c:a-b<9223372036854775808):dZ .i64 a b=a-b:=E_ h1 c
def zJ{a b:Int}(h1:-9223372036854775808<=a*b)(c:a*b<9223372036854775808):J0 .i64 a b=a*b:=E_ h1 c
section
variable{α β σ ρ:Type}
def ads{F:Int->α->σ->Option (eL σ ρ)}(I:σ->Prop):∀(l:List α) (i:Nat) (s:σ),I s->(∀k x s,l[k]?=some x->I s->∃a,F ((i+k:Nat):Int) x s=some (.next a)/\I a)->∃a,dN F l i s=some (.inl a)/\I a
 |[],i,s,hs,_=>⟨s,rfl,hs⟩|x::l,i,s,hs,h=>by
  obtain⟨s1,h1,c⟩:=h 0 x s rfl hs;rw[ER] at h1;rw[dJ,h1];simp only[cH,dW];refine ads I l (i+1) s1 c λk y a d b=>?_;have:=h (k+1) y a (by simpa using d) b;rw[show i+(k+1)=i+1+k by omega] at this;exact this
def I'{F:Int->α->σ->Option (eL σ ρ)}(I:σ->Prop)(Q:ρ->Prop):∀(l:List α) (i:Nat) (s:σ),I s->(∀k x s,l[k]?=some x->I s->(∃a,F ((i+k:Nat):Int) x s=some (.next a)/\I a)\/(∃r,F ((i+k:Nat):Int) x s=some (.ret r)/\Q r))->(∃a,dN F l i s=some (.inl a)/\I a)\/(∃r,dN F l i s=some (.inr r)/\Q r)
 |[],i,s,hs,_=>.inl ⟨s,rfl,hs⟩|x::l,i,s,hs,h=>by
  have d:=h 0 x s rfl hs;rw[ER] at d;rw[dJ];rcases d with⟨s1,h1,b⟩|⟨r,h1,b⟩
  ·rw[h1];simp only[cH,dW];refine I' I Q l (i+1) s1 b λk y a e c=>?_;have:=h (k+1) y a (by simpa using e) c;rw[show i+(k+1)=i+1+k by omega] at this;exact this
  ·rw[h1];exact .inr ⟨r,rfl,b⟩
def hS{F:Int->α->List β->Option (eL (List β) ρ)}(g:α->β):∀(l:List α) (i:Nat) (v:List β),v.length+l.length<=1000000000->(∀j x v,x∈l->v.length+1<=1000000000->F j x v=some (.next (v++[g x])))->dN F l i v=some (.inl (v++l.map g))
 |[],i,v,_,_=>by simp|x::l,i,v,a,h=>by
  simp only[kN] at a;rw[dJ,h i x v aa4 VW];simp only[cH,dW];rw[hS g l (i+1) (v++[g x]) aa_ λj y v hy b=>h j y v (by simp[hy]) b];simp
def c_(g:α->Nat):List α->Nat
 |[]=>0|x::l=>g x+c_ g l
def dh(g:α->Nat){l:List α}{x:α}(h:x∈l):g x<=c_ g l:=by
 induction l with
 |nil=>cases h
 |cons y l a=>
  simp only[c_];rcases j0.1 h with rfl|h
  ·omega
  ·have:=a h;omega
def gk(g:α->Nat)(l:List α)(h:∀x∈l,1<=g x):l.length<=c_ g l:=by
 induction l with
 |nil=>simp|cons y l a=>simp only[c_,kN];have:=h y aa4;have:=a λx b=>h x (by simp[b]);omega
def pG{F:Int->α->Int->Option (eL Int ρ)}(g:α->Nat):∀(l:List α) (i v:Nat),v+c_ g l<=4611686018427387904->(∀j x (v:Int),x∈l->F j x v=some (.next (dF .i64 v (g x))))->dN F l i (v:Int)=some (.inl ((v+c_ g l:Nat):Int))
 |[],i,v,_,_=>by simp[c_]|x::l,i,v,a,h=>by
  simp only[c_] at a|-;rw[dJ,h i x v aa4,dI VW VW];simp only[cH,dW];have:=pG g l (i+1) (v+g x) VW λj y v hy=>h j y v (by simp[hy]);rw[show(v:Int)+(g x:Int)=((v+g x:Nat):Int) by omega,this];rw[MX]
def uw{F:Int->α->Int->Option (eL Int ρ)}(g:α->Nat)(ok:α->Bool)(r:ρ):∀(l:List α) (i v:Nat),v+c_ g l<=4611686018427387904->(∀j x (v:Int),x∈l->F j x v=if ok x then some (.next (dF .i64 v (g x)))else some (.ret r))->dN F l i (v:Int)=if l.all ok then some (.inl ((v+c_ g l:Nat):Int))else some (.inr r)
 |[],i,v,_,_=>by simp[c_]|x::l,i,v,b,h=>by
  simp only[c_] at b|-;rw[dJ,h i x v aa4,dI VW VW];cases a:ok x with
  |false=>simp[a]|true=>
   simp only[if_true,cH,dW,AX,a,Ai];have:=uw g ok r l (i+1) (v+g x) VW λj y v hy=>h j y v (by simp[hy]);rw[show(v:Int)+(g x:Int)=((v+g x:Nat):Int) by omega,this,MX]
def qI{F:Int->α->Unit->Option (eL Unit ρ)}(ok:α->Bool)(r:ρ):∀(l:List α) (i:Nat),(∀j x,x∈l->F j x ()=if ok x then some (.next ())else some (.ret r))->dN F l i ()=if l.all ok then some (.inl ())else some (.inr r)
 |[],i,_=>by simp|x::l,i,h=>by
  rw[dJ,h i x aa4];cases a:ok x with
  |false=>simp[a]|true=>
   simp only[if_true,cH,dW,AX,a,Ai];exact qI ok r l (i+1) λj y hy=>h j y (by simp[hy])
def fK:List Int->Int
 |[]=>0|e::l=>if e=0 then fK l else e
def ka{F:Int->α->Unit->Option (eL Unit Int)}(e:α->Int):∀(l:List α) (i:Nat),(∀j x,x∈l->F j x ()=if e x≠0 then some (.ret (e x))else some (.next ()))->dN F l i ()=if fK (l.map e)=0 then some (.inl ())else some (.inr (fK (l.map e)))
 |[],i,_=>by simp[fK]|x::l,i,h=>by
  rw[dJ,h i x aa4]
  by_cases he:e x=0
  ·simp only[he,fK,wb,ne_eq,NL,kY,cH,dW,if_true];exact ka e l (i+1) λj y hy=>h j y (by simp[hy])
  ·simp[he,fK]
def uF(p:α->β->Bool):List α->List β->Bool
 |x::l,y::m=>p x y&&uF p l m|[],[]=>true|_,_=>false
def w9{F:Int->α->Unit->Option (eL Unit Bool)}(p:α->β->Bool)(M:List β):∀(l:List α) (i:Nat) (m:List β),m=M.drop i->l.length=m.length->(∀(k:Nat) x y,x∈l->M[k]?=some y->F (k:Int) x ()=if p x y then some (.next ())else some (.ret false))->dN F l i ()=if uF p l m then some (.inl ())else some (.inr false)
 |[],i,m,_,d,_=>by
  cases m with
  |nil=>simp[uF]|cons y m=>simp at d
 |x::l,i,m,hm,d,h=>by
  cases m with
  |nil=>simp at d
  |cons y m=>
   have c:i<M.length:=by
    rcases qu i M.length with h'|h'
    ·exact h'
    ·rw[Da h'] at hm;cases hm
   rw[JK c] at hm;injection hm with h1 f;rw[dJ,h i x y aa4 (by simp[c,h1])];cases e:p x y with
   |false=>simp[uF,e]|true=>
    simp only[if_true,cH,dW,uF,e,Ai];exact w9 p M l (i+1) m f (by simpa using d) λk a b g j=>h k a b (by simp[g]) j
def wW(p:α->α->Bool):∀(l m:List α),(∀x∈l,∀y,p x y=true↔x=y)->(uF p l m=true↔l=m)
 |[],[],_=>by simp[uF]|[],_::_,_=>by simp[uF]|_::_,[],_=>by simp[uF]|x::l,y::m,h=>by simp[uF,h x aa4 y,wW p l m λa b=>h a (by simp[b])]
def ug{F:σ->Option (eL σ ρ)}(I:σ->Prop)(μ:σ->Nat)(Q:σ⊕ρ->Prop)
  (h:∀s,I s->(∃a,F s=some (.next a)/\I a/\μ a<μ s)\/(∃a,F s=some (.AI a)/\Q (.inl a))\/(∃r,F s=some (.ret r)/\Q (.inr r))):∀(n:Nat) (s:σ),I s->μ s<n->∃o,lp F n s=some o/\Q o
 |0,s,_,hn=>by omega|n+1,s,hs,hn=>by
  rw[kc];rcases h s hs with⟨a,h1,b,c⟩|⟨a,h1,b⟩|⟨r,h1,b⟩
  ·rw[h1];simp only[cH,dW];exact ug I μ Q h n a b VW
  ·rw[h1];exact⟨_,rfl,b⟩
  ·rw[h1];exact⟨_,rfl,b⟩
def Vt{n:Nat}(h:n<1000000000):n<FU:=by rw[dO];exact h
end
end Go.fB
namespace Go.fB
open Go
mutual
def Ty.acU:Ty->Nat
 |.mk _ l=>1+Ty.nc l
def Ty.nc:List Ty->Nat
 |[]=>0|t::l=>t.acU+Ty.nc l
end
def Ty.q7(l:List Ty):Ty.nc l=c_ Ty.acU l:=by
 induction l with
 |nil=>rfl|cons t l a=>simp[Ty.nc,c_,a]
theorem Ty.cN(k:Int)(l:List Ty):(Ty.mk k l).acU=1+c_ Ty.acU l:=by rw[Ty.acU,Ty.q7]
def Ty.dp(t:Ty):1<=t.acU:=by cases t;rw[Ty.acU];omega
def Ty.ek(l:List Ty):l.length<=c_ Ty.acU l:=gk _ _ λt _=>t.dp
def Ty.want(k:Int):Option Nat:=if k=1\/k=2\/k=5 then some 0 else if k=3\/k=4 then some 2 else none
mutual
def Ty.ok:Ty->Bool
 |.mk k l=>decide (Ty.want k=some l.length)&&Ty.Iz l
def Ty.Iz:List Ty->Bool
 |[]=>true|t::l=>t.ok&&Ty.Iz l
end
def Ty.yy(l:List Ty):Ty.Iz l=l.all Ty.ok:=by
 induction l with
 |nil=>rfl|cons t l a=>simp[Ty.Iz,a]
theorem Ty.fV(k:Int)(l:List Ty):(Ty.mk k l).ok=(decide (Ty.want k=some l.length)&&l.all Ty.ok):=by rw[Ty.ok,Ty.yy]
def Ty.err(t:Ty):Int:=if t.ok then(if 64<t.acU then 4 else 0)else 2
def HE:∀(n:Nat) (t:Ty),t.acU<=n->t.acU<=1000000000->gE n t=some t:=by
 intro n
 induction n with
 |zero=>intro t h;have:=t.dp;omega
 |succ n a=>
  intro t h b;cases t with
  |mk k l=>
   rw[Ty.cN] at h b;have e:=Ty.ek l;rw[gE];simp only[Ty.dd,Ty.dn,c6,db (l:=l) VW,cX];rw[hS id l 0 [] aa_]
   ·simp
   ·intro j x v c d;have:=dh Ty.acU c;rw[a x VW VW];simp[dS (l:=v) (m:=[x]) (by simpa using d)]
def gT{t:Ty}(h:t.acU<=1000000000):gE FU t=some t:=HE FU t (by rw[dO];exact h) h
def Co:∀(n:Nat) (t:Ty),t.acU<=n->t.acU<=1000000000->lS n t=some (if t.ok then((t.acU:Int),true)else(0,false)):=by
 intro n
 induction n with
 |zero=>intro t h;have:=t.dp;omega
 |succ n o=>
  intro t h p;cases t with
  |mk k l=>
   rw[Ty.cN] at h p;have s:=Ty.ek l
   have key:dN (λ(i:Int) (c:Ty) (d:Int)=>cT (lS n c) λe f=>if f then some (eL.next (dF .i64 d e))else some (eL.ret ((0:Int),false))) l 0 1=if l.all Ty.ok then some (.inl ((1+c_ Ty.acU l:Nat):Int))else some (.inr (0,false)):=by
    refine uw Ty.acU Ty.ok _ l 0 1 VW ?_;intro j x v q;have:=dh Ty.acU q;rw[o x VW VW];cases x.ok<;>simp
   rw[lS];simp only[Ty.dd,Ty.dn,c6,db (l:=l) VW,cX,key,lN,r5,eW,da,ej,Ty.fV,Ty.cN,Ty.want]
   by_cases h1:k=1\/k=2\/k=5
   ·simp only[h1,if_true]
    by_cases b:l=[]
    ·subst b;simp[c_]
    ·have:¬(0=l.length):=by cases l with|nil=>exact absurd rfl b|cons a l=>simp
     have g:(l.length:Int)≠0:=VW
     simp[this,g,b]
   ·simp only[h1,kY]
    by_cases b:k=3\/k=4
    ·simp only[b,if_true]
     by_cases g:l.length=2
     ·cases m:l.all Ty.ok<;>simp[g]
     ·have m:(l.length:Int)≠2:=VW
      have r:¬2=l.length:=VW
      simp[m,r]
    ·simp[b]
theorem kM{t:Ty}(h:t.acU<=1000000000):ir t=some (if t.err=0 then(t.acU:Int)else 0,t.err):=by
 unfold ir Ty.err;rw[Co FU t (by rw[dO];exact h) h];cases t.ok with
 |false=>simp|true=>
  by_cases h1:64<t.acU
  ·simp[h1];omega
  ·simp[h1];omega
def y5{t:Ty}(h:t.acU<=1000000000):ll t=some t.err:=by
 unfold ll;rw[kM h];rfl
def Ty.rq(t:Ty):Bool:=eu (dg t.acS 0) (dg (di t.acT) 0) false
theorem Ty.lB(t:Ty):t.rq=true↔t=.mk 0 []:=by
 cases t with
 |mk k l=>unfold Ty.rq;simp
theorem rR(t:Ty):nN t=some t.rq:=rfl
def vY(t:Ty):pg t=some t.rq:=rfl
def FZ:∀(n:Nat) (t:Ty),t.acU<=n->t.acU<=1000000000->pI n t=some t.ok:=by
 intro n
 induction n with
 |zero=>intro t h;have:=t.dp;omega
 |succ n i=>
  intro t h m;cases t with
  |mk k l=>
   rw[Ty.cN] at h m;have q:=Ty.ek l
   have key:dN (λ(f:Int) (c:Ty) (_:Unit)=>cI (pI n c) λd=>if d then some (eL.next ())else some (eL.ret false)) l 0 ()=if l.all Ty.ok then some (.inl ())else some (.inr false):=by
    refine qI Ty.ok _ l 0 ?_;intro j x o;have:=dh Ty.acU o;rw[i x VW VW];rfl
   rw[pI];simp only[Ty.dd,Ty.dn,c6,db (l:=l) VW,cX,key,lN,r5,eW,da,ej,Ty.fV,Ty.want]
   by_cases h1:k=1\/k=2\/k=5
   ·simp only[h1,if_true]
    by_cases b:l=[]
    ·subst b;simp
    ·have:¬(0=l.length):=by cases l with|nil=>exact absurd rfl b|cons a l=>simp
     have e:(l.length:Int)≠0:=VW
     simp[this,e,b]
   ·simp only[h1,kY]
    by_cases b:k=3\/k=4
    ·simp only[b,if_true]
     by_cases e:l.length=2
     ·cases g:l.all Ty.ok<;>simp[e]
     ·have g:(l.length:Int)≠2:=VW
      have p:¬2=l.length:=VW
      simp[g,p]
    ·simp[b]
def H0:∀(n:Nat) (t:Ty),t.acU<=n->t.acU<=1000000000->qK n t=some (t.acU:Int):=by
 intro n
 induction n with
 |zero=>intro t h;have:=t.dp;omega
 |succ n a=>
  intro t h b;cases t with
  |mk k l=>
   rw[Ty.cN] at h b;have d:=Ty.ek l;rw[qK];simp only[Ty.dd,c6,db (l:=l) VW,cX]
   have key:=pG (ρ:=Int) (F:=λ(j:Int) (x:Ty) (v:Int)=>cI (qK n x) λy=>some (eL.next (dF .i64 v y))) Ty.acU l 0 1 VW (by
    intro j x v c;have:=dh Ty.acU c;rw[a x VW VW]
    rfl)
   rw[show(1:Int)=((1:Nat):Int)from rfl,key];simp[Ty.cN]
def lO{t:Ty}(h:t.acU<=1000000000):ig t=some t.err:=by
 unfold ig Ty.err;rw[FZ FU t (by rw[dO];exact h) h,H0 FU t (by rw[dO];exact h) h];cases t.ok with
 |false=>simp|true=>by_cases h1:64<t.acU<;>simp[h1]<;>omega
def v7:∀(n:Nat) (a b:Ty),a.acU<=n->a.acU<=1000000000->∃r,eo n a b=some r/\(r=true↔a=b):=by
 intro n
 induction n with
 |zero=>intro t b h;have:=t.dp;omega
 |succ n o=>
  intro a b h q;cases a with
  |mk k l=>
  cases b with
  |mk k' m=>
   rw[Ty.cN] at h q;have s:=Ty.ek l;rw[eo];simp only[Ty.dd,Ty.dn,c6,db (l:=l) VW,cX,lN,r5,da,ej]
   by_cases d:k≠k'\/(l.length:Int)≠m.length
   ·rw[cO d];refine⟨false,rfl,?_⟩;simp only[oZ,Tz,Ty.mk.injEq,not_and];rintro rfl rfl;simp at d
   ·rw[cK d];simp only[not_or,zq] at d;obtain⟨rfl,hlen⟩:=d
    have c:l.length=m.length:=VW
    let p:Ty->Ty->Bool:=λx y=>(eo n x y).getD false
    have i:∀x∈l,∀y,eo n x y=some (p x y)/\(p x y=true↔x=y):=by
     intro x f y;have:=dh Ty.acU f;obtain⟨r,h1,g⟩:=o x y VW VW
     have e:p x y=r:=by show(eo n x y).getD false=r;rw[h1];rfl
     rw[e];exact⟨h1,g⟩
    have key:=w9 (F:=λ(j:Int) (x:Ty) (_:Unit)=>cI (de m j) λy=>cI (eo n x y) λz=>if z then some (eL.next ())else some (eL.ret false)) p m l 0 m rfl c (by
     intro k x y f hy;rw[im,hy];simp only[cH];rw[(i x f y).1]
     rfl)
    rw[key];have he:=wW p l m λx f y=>(i x f y).2;cases g:uF p l m with
    |false=>exact⟨false,rfl,by rw[g] at he;simpa using he⟩
    |true=>exact⟨true,rfl,by rw[g] at he;simpa using he⟩
noncomputable def Ty.nw (a b:Ty):Bool:=@decide (a=b) (Classical.propDecidable _)
theorem Ty.mi(a b:Ty):a.nw b=true↔a=b:=by unfold Ty.nw;simp
theorem gU{a b:Ty}(h:a.acU<=1000000000):eo FU a b=some (a.nw b):=by
 obtain⟨r,h1,c⟩:=v7 FU a b (by rw[dO];exact h) h;rw[h1]
 congr 1
 rw[DQ,c,Ty.mi]
mutual
def Tm.acU:Tm->Nat
 |.mk _ _ _ l=>1+Tm.nc l
def Tm.nc:List Tm->Nat
 |[]=>0|t::l=>t.acU+Tm.nc l
end
def Tm.q7(l:List Tm):Tm.nc l=c_ Tm.acU l:=by
 induction l with
 |nil=>rfl|cons t l a=>simp[Tm.nc,c_,a]
theorem Tm.cN(k i:Int)(s:Ty)(l:List Tm):(Tm.mk k i s l).acU=1+c_ Tm.acU l:=by rw[Tm.acU,Tm.q7]
def Tm.dp(t:Tm):1<=t.acU:=by cases t;rw[Tm.acU];omega
def Tm.ek(l:List Tm):l.length<=c_ Tm.acU l:=gk _ _ λt _=>t.dp
mutual
def Tm.wt:Tm->Nat
 |.mk _ _ s l=>1+s.acU+Tm.NW l
def Tm.NW:List Tm->Nat
 |[]=>0|t::l=>t.wt+Tm.NW l
end
def Tm.DH(l:List Tm):Tm.NW l=c_ Tm.wt l:=by
 induction l with
 |nil=>rfl|cons t l a=>simp[Tm.NW,c_,a]
theorem Tm.ea(k i:Int)(s:Ty)(l:List Tm):(Tm.mk k i s l).wt=1+s.acU+c_ Tm.wt l:=by rw[Tm.wt,Tm.DH]
def Tm.gX(t:Tm):1<=t.wt:=by cases t;rw[Tm.wt];omega
def Tm.mQ(l:List Tm):l.length<=c_ Tm.wt l:=gk _ _ λt _=>t.gX
def jK{α:Type}{f g:α->Nat}{l:List α}(h:∀x∈l,f x<=g x):c_ f l<=c_ g l:=by
 induction l with
 |nil=>simp[c_]|cons x l a=>simp only[c_];have:=h x aa4;have:=a λy hy=>h y (by simp[hy]);omega
def pL{α β:Type}(f:β->Nat)(g:α->β)(l:List α):c_ f (l.map g)=c_ (λx=>f (g x)) l:=by
 induction l with
 |nil=>rfl|cons x l a=>simp[c_,a]
def qV{α:Type}{f g:α->Nat}{l:List α}(h:∀x∈l,f x=g x):c_ f l=c_ g l:=by
 induction l with
 |nil=>rfl|cons x l a=>simp[c_,h x aa4,a λy hy=>h y (by simp[hy])]
def D2{α:Type}(f:α->Nat)(l m:List α):c_ f (l++m)=c_ f l+c_ f m:=by
 induction l with
 |nil=>simp[c_]|cons x l a=>simp[c_,a];omega
def Tm.ind{p:Tm->Prop}(h:∀k i s l,(∀t∈l,p t)->p (.mk k i s l))(t:Tm):p t:=by
 have:∀n (t:Tm),t.acU<=n->p t:=by
  intro n
  induction n with
  |zero=>intro t a;have:=t.dp;omega
  |succ n b=>
   intro t a;cases t with
   |mk k i s l=>
    rw[Tm.cN] at a;exact h k i s l λu hu=>b u (by have:=dh Tm.acU hu;omega)
 exact this _ t (gu _)
def Tm.gC(t:Tm):t.acU<=t.wt:=by
 induction t using Tm.ind with
 |h k i s l a=>rw[Tm.cN,Tm.ea];have:=jK a;omega
def jr(k:Int):Bool:=decide (k=2\/k=6\/k=9)
def gx(k:Int):Int:=
 if k=1\/k=4\/k=7\/k=13 then 0 else if k=2\/k=5\/k=11\/k=12 then 1 else if k=3\/k=8\/k=10 then 2 else if k=6\/k=9 then 3 else-1
def Tm.node(k i:Int)(s:Ty)(n:Nat):Bool:=
 decide ((n:Int)=gx k)&&decide (0<=i)&&(decide (k=1)||decide (i=0))&&(if jr k then decide (s.err=0)else s.rq)
mutual
def Tm.ok:Tm->Bool
 |.mk k i s l=>Tm.node k i s l.length&&Tm.Iz l
def Tm.Iz:List Tm->Bool
 |[]=>true|t::l=>t.ok&&Tm.Iz l
end
def Tm.yy(l:List Tm):Tm.Iz l=l.all Tm.ok:=by
 induction l with
 |nil=>rfl|cons t l a=>simp[Tm.Iz,a]
theorem Tm.fV(k i:Int)(s:Ty)(l:List Tm):(Tm.mk k i s l).ok=(Tm.node k i s l.length&&l.all Tm.ok):=by rw[Tm.ok,Tm.yy]
def Tm.err(t:Tm):Int:=if t.ok then(if 4096<t.acU then 4 else 0)else 2
def Hu:∀(n:Nat) (t:Tm),t.wt<=n->t.wt<=1000000000->iF n t=some t:=by
 intro n
 induction n with
 |zero=>intro t h;have:=t.gX;omega
 |succ n a=>
  intro t h b;cases t with
  |mk k i s l=>
   rw[Tm.ea] at h b;have e:=Tm.mQ l;rw[iF];simp only[Tm.dd,Tm.dn,Tm.eP,Tm.dR,c6,db (l:=l) VW,cX];rw[hS id l 0 [] aa_]
   ·simp[gT (t:=s) VW]
   ·intro j x v c d;have:=dh Tm.wt c;rw[a x VW VW];simp[dS (l:=v) (m:=[x]) (by simpa using d)]
def mM{t:Tm}(h:t.wt<=1000000000):iF FU t=some t:=Hu FU t (by rw[dO];exact h) h
def pz(k:Int)(l:List Tm)(h:c_ Tm.wt l<=1000000000):eF k l=some (Tm.mk k 0 (.mk 0 []) l):=by
 have c:=Tm.mQ l;unfold eF;simp only[c6,db (l:=l) VW,cX];rw[hS id l 0 [] aa_]
 ·simp
 ·intro j x v a b;have:=dh Tm.wt a;rw[mM (t:=x) VW];simp[dS (l:=v) (m:=[x]) (by simpa using b)]
def Fy(k:Int)(s:Ty)(l:List Tm)(hs:s.acU<=1000000000)(h:c_ Tm.wt l<=1000000000):kL k s l=some (Tm.mk k 0 s l):=by
 unfold kL;rw[pz k l h];simp[gT hs]
def Hz(k:Int):u9 k=some (gx k):=by
 unfold u9 gx;simp only[lN,r5,eW]
 split<;>(try rfl)
 split<;>(try rfl)
 split<;>(try rfl)
 split<;>rfl
def nr:∀(n:Nat) (t:Tm),t.acU<=n->t.acU<=1000000000->eM n t=some (t.acU:Int):=by
 intro n
 induction n with
 |zero=>intro t h;have:=t.dp;omega
 |succ n a=>
  intro t h b;cases t with
  |mk k i s l=>
   rw[Tm.cN] at h b;have d:=Tm.ek l;rw[eM];simp only[Tm.dd,c6,db (l:=l) VW,cX]
   have key:=pG (ρ:=Int) (F:=λ(j:Int) (x:Tm) (v:Int)=>cI (eM n x) λy=>some (eL.next (dF .i64 v y))) Tm.acU l 0 1 VW (by
    intro j x v c;have:=dh Tm.acU c;rw[a x VW VW]
    rfl)
   rw[show(1:Int)=((1:Nat):Int)from rfl,key];simp[Tm.cN]
def zv:∀(n:Nat) (t:Tm),t.wt<=n->t.wt<=1000000000->jR n t=some t.ok:=by
 intro n
 induction n with
 |zero=>intro t h;have:=t.gX;omega
 |succ n o=>
  intro t h p;cases t with
  |mk k i s l=>
   rw[Tm.ea] at h p;have y:=Tm.mQ l
   have key:dN (λ(e:Int) (a:Tm) (_:Unit)=>cI (jR n a) λb=>if b then some (eL.next ())else some (eL.ret false)) l 0 ()=if l.all Tm.ok then some (.inl ())else some (.inr false):=by
    refine qI Tm.ok _ l 0 ?_;intro j x q;have:=dh Tm.wt q;rw[o x VW VW];rfl
   rw[jR]
   simp only[Tm.dd,Tm.dn,Tm.eP,Tm.dR,c6,db (l:=l) VW,cX,key,lN,r5,eW,da,ki,ej,Tm.fV,Hz,cH,lO (t:=s) VW,vY]
   by_cases h1:(l.length:Int)=gx k
   ·by_cases f:i<0
    ·have:¬0<=i:=VW
     simp[h1,f,Tm.node,this]
    ·have r:0<=i:=VW
     by_cases g:k=1
     ·subst g;cases c:s.rq<;>cases d:l.all Tm.ok<;>simp_all [Tm.node,jr]
     ·by_cases c:i=0
      ·subst c;have m:dw 0 0=false:=rfl
       by_cases d:k=2\/k=6\/k=9
       ·have u:jr k=true:=by simp[jr,d]
        by_cases v:s.err=0<;>cases w:l.all Tm.ok<;>simp_all [Tm.node]
       ·have u:jr k=false:=by simp[jr,d]
        cases v:s.rq<;>cases w:l.all Tm.ok<;>simp_all [Tm.node]
      ·have m:dw i 0=true:=by simp[c]
       simp[h1,f,g,c,m,Tm.node]
   ·simp[h1,Tm.node]
def lL{t:Tm}(h:t.wt<=1000000000):kx t=some t.err:=by
 have:=t.gC;unfold kx Tm.err;rw[zv FU t (by rw[dO];exact h) h,nr FU t (by rw[dO];omega) VW];cases t.ok with
 |false=>simp|true=>by_cases h1:4096<t.acU<;>simp[h1]<;>omega
def HI(k:Int):uG k=some (if 1<=k/\k<14 then(gx k,true)else(0,false)):=by
 unfold uG;simp only[lN,r5,ki,ib]
 by_cases h:k<1\/14<=k
 ·rw[cO h,cK VW]
 ·rw[cK h,cO VW]
  have:k=1\/k=2\/k=3\/k=4\/k=5\/k=6\/k=7\/k=8\/k=9\/k=10\/k=11\/k=12\/k=13:=VW
  rcases this with rfl|rfl|rfl|rfl|rfl|rfl|rfl|rfl|rfl|rfl|rfl|rfl|rfl<;>rfl
def Hp(k:Int):uO k=some (jr k):=by
 unfold uO jr
 congr 1
 rw[DQ];simp
def Jv{k:Int}{n:Nat}(h:(n:Int)=gx k):1<=k/\k<14:=by
 unfold gx at h
 repeat' split at h
 all_goals omega
def vD:∀(n:Nat) (t:Tm),t.wt<=n->t.wt<=1000000000->iW n t=some (if t.ok then((t.acU:Int),true)else(0,false)):=by
 intro n
 induction n with
 |zero=>intro t h;have:=t.gX;omega
 |succ n q=>
  intro t h r;cases t with
  |mk k i s l=>
   rw[Tm.ea] at h r;have C:=Tm.mQ l;have hn:c_ Tm.acU l<=c_ Tm.wt l:=jK λx _=>x.gC
   have key:dN (λ(m:Int) (a:Tm) (b:Int)=>cT (iW n a) λc d=>if d then some (eL.next (dF .i64 b c))else some (eL.ret ((0:Int),false))) l 0 1=if l.all Tm.ok then some (.inl ((1+c_ Tm.acU l:Nat):Int))else some (.inr (0,false)):=by
    refine uw Tm.acU Tm.ok _ l 0 1 VW ?_;intro j x v u;have:=dh Tm.wt u;rw[q x VW VW];cases x.ok<;>simp
   rw[iW];simp only[Tm.dd,Tm.dn,Tm.eP,Tm.dR,c6,db (l:=l) VW,cX,key,Tm.fV,Tm.cN,HI,Hp,kM (t:=s) VW,rR,cH,cJ]
   by_cases h1:(l.length:Int)=gx k
   ·have e:=Jv h1;simp only[e,and_self,if_true,cJ,BY,lN,oR,r5,ft,da,ki,ej,h1,ne_eq,NL,Xb]
    by_cases o:i<0
    ·have:¬0<=i:=VW
     simp[o,Tm.node,this]
    ·have w:0<=i:=VW
     by_cases p:k=1
     ·subst p;cases f:s.rq<;>cases g:l.all Tm.ok<;>simp_all [Tm.node,jr]
     ·by_cases f:i=0
      ·subst f
       by_cases g:k=2\/k=6\/k=9
       ·have y:jr k=true:=by simp[jr,g]
        by_cases z:s.err=0<;>cases A:l.all Tm.ok<;>simp_all [Tm.node]
       ·have y:jr k=false:=by simp[jr,g]
        cases z:s.rq<;>cases A:l.all Tm.ok<;>simp_all [Tm.node]
      ·simp[o,p,f,Tm.node]
   ·have B:Tm.node k i s l.length=false:=by simp[Tm.node,h1]
    simp only[B,U5,oZ,kY]
    by_cases e:1<=k/\k<14
    ·simp[e,h1]
    ·simp[e]
def eU(k:Int):Int:=if k=2 then 1 else 0
def kf(k:Int):0<=eU k/\eU k<=1:=by unfold eU;split<;>omega
def nu(t:Tm):kC t=some (eU t.acS):=by
 unfold kC eU;simp only[eW]
 split<;>rfl
mutual
def Tm.up(f b:Int):Tm->Tm
 |.mk k i s l=>.mk k (if k=1/\f<=i then i+b else i) s (Tm.TY (f+eU k) b l)
def Tm.TY(f b:Int):List Tm->List Tm
 |[]=>[]|t::l=>t.up f b::Tm.TY f b l
end
def Tm.MP(f b:Int)(l:List Tm):Tm.TY f b l=l.map (Tm.up f b):=by
 induction l with
 |nil=>rfl|cons t l a=>simp[Tm.TY,a]
def Tm.kJ(f b k i:Int)(s:Ty)(l:List Tm):(Tm.mk k i s l).up f b=.mk k (if k=1/\f<=i then i+b else i) s (l.map (Tm.up (f+eU k) b)):=by rw[Tm.up,Tm.MP]
mutual
def Tm.acY(m:Int):Tm->Bool
 |.mk _ i _ l=>decide (i<=m)&&Tm.xj m l
def Tm.xj(m:Int):List Tm->Bool
 |[]=>true|t::l=>t.acY m&&Tm.xj m l
end
def Tm.Df(m:Int)(l:List Tm):Tm.xj m l=l.all (Tm.acY m):=by
 induction l with
 |nil=>rfl|cons t l a=>simp[Tm.xj,a]
theorem Tm.er(m k i:Int)(s:Ty)(l:List Tm):(Tm.mk k i s l).acY m=(decide (i<=m)&&l.all (Tm.acY m)):=by rw[Tm.acY,Tm.Df]
mutual
def Tm.ac0(a:Int):Tm->Nat
 |.mk k i _ l=>(if k=1/\i=a then 1 else 0)+Tm.xK (a+eU k) l
def Tm.xK(a:Int):List Tm->Nat
 |[]=>0|t::l=>t.ac0 a+Tm.xK a l
end
def Tm.Dd(a:Int)(l:List Tm):Tm.xK a l=c_ (Tm.ac0 a) l:=by
 induction l with
 |nil=>rfl|cons t l b=>simp[Tm.xK,c_,b]
def Tm.fu(a k i:Int)(s:Ty)(l:List Tm):(Tm.mk k i s l).ac0 a=(if k=1/\i=a then 1 else 0)+c_ (Tm.ac0 (a+eU k)) l:=by rw[Tm.ac0,Tm.Dd]
def Tm.gW(t:Tm):∀a,t.ac0 a<=t.acU:=by
 induction t using Tm.ind with
 |h k i s l b=>
  intro a;rw[Tm.fu,Tm.cN];have:=jK (f:=Tm.ac0 (a+eU k)) (g:=Tm.acU) (l:=l) λx c=>b x c _
  split<;>omega
def Tm.uo(n i:Int)(s t:Tm):Tm:=if i=n then s.up 0 n else if n<i then .mk 1 (i-1) (.mk 0 []) [] else t
mutual
def Tm.nj:Int->Tm->Tm->Tm
 |n,.mk k i ty l,s=>if k=1 then Tm.uo n i s (.mk k i ty l)else .mk k i ty (Tm.J_ (n+eU k) l s)
def Tm.J_:Int->List Tm->Tm->List Tm
 |_,[],_=>[]|n,t::l,s=>Tm.nj n t s::Tm.J_ n l s
end
def Tm.Kn(n:Int)(s:Tm)(l:List Tm):Tm.J_ n l s=l.map (λx=>Tm.nj n x s):=by
 induction l with
 |nil=>rfl|cons t l a=>simp[Tm.J_,a]
def Tm.nC(n:Int)(s:Tm)(k i:Int)(ty:Ty)(l:List Tm):Tm.nj n (Tm.mk k i ty l) s=if k=1 then Tm.uo n i s (.mk k i ty l)else .mk k i ty (l.map (λx=>Tm.nj (n+eU k) x s)):=by rw[Tm.nj,Tm.Kn]
theorem Tm.qt(t:Tm):∀f b,(t.up f b).acU=t.acU:=by
 induction t using Tm.ind with
 |h k i s l a=>
  intro f b;rw[Tm.kJ,Tm.cN,Tm.cN,pL];rw[qV λx c=>a x c _ _]
theorem Tm.Gv(t:Tm):∀f b,(t.up f b).wt=t.wt:=by
 induction t using Tm.ind with
 |h k i s l a=>
  intro f b;rw[Tm.kJ,Tm.ea,Tm.ea,pL];rw[qV λx c=>a x c _ _]
def vS{α β:Type}{p:β->Bool}{q:α->Bool}{g:α->β}{l:List α}(h:∀x∈l,p (g x)=q x):(l.map g).all p=l.all q:=by
 induction l with
 |nil=>rfl|cons x l a=>simp only[wb,AX,h x aa4,a λy hy=>h y (by simp[hy])]
def Tm.MT{k i j:Int}{s:Ty}{n:Nat}(h:k=1/\0<=i/\0<=j\/i=j):Tm.node k i s n=Tm.node k j s n:=by
 rcases h with⟨rfl,h1,a⟩|rfl
 ·simp[Tm.node,h1,a]
 ·rfl
theorem Tm.IB(t:Tm):∀f b,0<=f->0<=b->(t.up f b).ok=t.ok:=by
 induction t using Tm.ind with
 |h k i s l a=>
  intro f b e c;rw[Tm.kJ,Tm.fV,Tm.fV,AP,vS λx d=>a x d (f+eU k) b (by have:=kf k;omega) c]
  congr 1
  apply Tm.MT
  split
  ·rename_i g;left;omega
  ·right;rfl
def zb:∀(n:Nat) (t:Tm) (m:Int),t.acU<=n->t.acU<=1000000000->ky n t m=some (t.acY m):=by
 intro n
 induction n with
 |zero=>intro t m h;have:=t.dp;omega
 |succ n d=>
  intro t m h e;cases t with
  |mk k i s l=>
   rw[Tm.cN] at h e;have g:=Tm.ek l
   have key:dN (λ(c:Int) (a:Tm) (_:Unit)=>cI (ky n a m) λb=>if b then some (eL.next ())else some (eL.ret false)) l 0 ()=if l.all (Tm.acY m) then some (.inl ())else some (.inr false):=by
    refine qI (Tm.acY m) _ l 0 ?_;intro j x f;have:=dh Tm.acU f;rw[d x m VW VW];rfl
   rw[ky];simp only[Tm.dd,Tm.eP,c6,db (l:=l) VW,cX,key,eV,Tm.er]
   by_cases h1:m<i
   ·have:¬i<=m:=VW
    simp[h1,this]
   ·have:i<=m:=VW
    cases o:l.all (Tm.acY m)<;>simp[h1,this]
def y0:∀(n:Nat) (t:Tm) (f b:Int),t.acU<=n->t.acU<=1000000000->0<=f->f+t.acU<=10000000000->0<=b->b<=10000000000->t.acY 1000000000000=true->qs n t f b=some (t.up f b):=by
 intro n
 induction n with
 |zero=>intro t f b h;have:=t.dp;omega
 |succ n q=>
  intro t f b h a z c r d hi;cases t with
  |mk k i s l=>
   rw[Tm.cN] at h a c;rw[Tm.er] at hi;simp only[ft,oI,j7] at hi;have A:=Tm.ek l;have B:=kf k;rw[qs];simp only[Tm.dd,Tm.eP,Tm.dn,Tm.dR,c6,db (l:=l) VW,cX];rw[hS (Tm.up (f+eU k) b) l 0 [] aa_]
   ·rw[Tm.kJ];simp only[cH,cU,mR,sy,Tm.mk.injEq,Uv,TA]
    by_cases g:k=1/\f<=i
    ·obtain⟨rfl,o⟩:=g;rw[dI VW VW];have u:dg 1 1=true:=rfl
     have w:sM i f=true:=by simp[o]
     simp[u,w,o]
    ·rw[cK g]
     have e:eu (dg k 1) (sM i f) false=false:=by
      rw[oR,UO];simp only[ne_eq,ft,eW,ib];exact g
     rw[e];rfl
   ·intro j x v p y;have:=dh Tm.acU p;rw[nu];simp only[cH,Tm.dn];rw[dI VW VW,q x (f+eU k) b VW VW VW VW r d (hi.2 x p)];simp[dS (l:=v) (m:=[x.up (f+eU k) b]) (by simpa using y)]
def yK:∀(n:Nat) (t:Tm) (a:Int),t.acU<=n->t.acU<=1000000000->0<=a->a+t.acU<=10000000000->mv n t a=some (t.ac0 a:Int):=by
 intro n
 induction n with
 |zero=>intro t a h;have:=t.dp;omega
 |succ n g=>
  intro t a h c q d;cases t with
  |mk k i s l=>
   rw[Tm.cN] at h c d;have r:=Tm.ek l;have u:=kf k;have m:c_ (Tm.ac0 (a+eU k)) l<=c_ Tm.acU l:=jK λx _=>x.gW _;rw[mv];simp only[Tm.dd,Tm.eP,Tm.dn,c6,db (l:=l) VW,cX]
   have o:eu (eu (dg k 1) (dg i a) false) (dF .i64 0 1) 0=(((if k=1/\i=a then 1 else 0:Nat)):Int):=by
    by_cases f:k=1/\i=a
    ·obtain⟨rfl,rfl⟩:=f;simp[dg,eu,dF,E_]
    ·have e:eu (dg k 1) (dg i a) false=false:=by
      rw[oR,UO];simp only[ne_eq,ft,eW];exact f
     rw[e,cK f];rfl
   have key:=pG (ρ:=Int) (F:=λ(j:Int) (x:Tm) (v:Int)=>cI (kC (Tm.mk k i s l)) λb=>cI (mv n x (dF .i64 a b)) λy=>some (eL.next (dF .i64 v y)))
    (Tm.ac0 (a+eU k)) l 0 (if k=1/\i=a then 1 else 0) (by split<;>omega) (by
    intro j x v p;have:=dh Tm.acU p;rw[nu];simp only[cH,Tm.dn];rw[dI VW VW,g x _ VW VW VW VW]
    rfl)
   rw[o,key];simp[Tm.fu]
def Eo:∀(n:Nat) (t:Tm) (a b:Int) (s:Tm),t.acU<=n->t.acU<=1000000000->0<=a->0<=b->a+b+t.acU<=5000000000->t.acY 1000000000000=true->t.ok=true->s.acU<=1000000000->s.acY 1000000000000=true->uR n t a b s=some (Tm.nj (a+b) t s):=by
 intro n
 induction n with
 |zero=>intro t a b s h;have:=t.dp;omega
 |succ n q=>
  intro t a b s h g r y o hi c hs d;cases t with
  |mk k i ty l=>
   rw[Tm.cN] at h g o;rw[Tm.er] at hi;rw[Tm.fV] at c;simp only[ft,oI,j7] at hi c;have z:=Tm.ek l;have A:=kf k
   have u:0<=i:=by
    have:=c.1;simp only[Tm.node,ft,oI] at this;exact this.1.1.2
   rw[uR,Tm.nC];simp only[Tm.dd,Tm.eP,Tm.dn,Tm.dR,c6,db (l:=l) VW,cX,eW];rw[dI VW VW]
   by_cases h1:k=1
   ·rw[cO h1,cO h1];unfold Tm.uo
    by_cases e:i=a+b
    ·rw[cO e,cO e,y0 FU s 0 (a+b) (by rw[dO];exact hs) hs VW VW VW VW d];rfl
    ·rw[cK e,cK e];simp only[eV]
     by_cases f:a+b<i
     ·rw[cO f,cO f,ed VW VW];rfl
     ·rw[cK f,cK f]
   ·rw[cK h1,cK h1];rw[hS (λx=>Tm.nj (a+b+eU k) x s) l 0 [] aa_]
    ·simp
    ·intro j x v p w;have:=dh Tm.acU p;rw[nu];simp only[cH,Tm.dn];rw[dI VW VW,q x a (b+eU k) s VW VW r VW VW (hi.2 x p) (c.2 x p) hs d];rw[show a+(b+eU k)=a+b+eU k by omega];simp[dS (l:=v) (m:=[Tm.nj (a+b+eU k) x s]) (by simpa using w)]
def Tm.q_(s t:Tm):∀n,t.ok=true->(Tm.nj n t s).acU+t.ac0 n=t.acU+t.ac0 n*s.acU:=by
 induction t using Tm.ind with
 |h k i ty l f=>
  intro n a;rw[Tm.fV] at a;simp only[ft,j7] at a;rw[Tm.nC,Tm.fu,Tm.cN]
  by_cases h1:k=1
  ·subst h1
   have g:l=[]:=by
    have:=a.1;simp only[Tm.node,ft,oI] at this;have h:=this.1.1.1;simp[gx] at h;exact h
   subst g;simp only[if_true,Tm.uo,c_,ER,TA]
   by_cases d:i=n
   ·simp[d,Tm.qt];omega
   ·by_cases j:n<i<;>simp[d,j,Tm.cN,c_]
  ·simp only[h1,kY,false_and,r_];rw[Tm.cN,pL]
   have:c_ (λx=>(Tm.nj (n+eU k) x s).acU) l+c_ (Tm.ac0 (n+eU k)) l=c_ Tm.acU l+c_ (Tm.ac0 (n+eU k)) l*s.acU:=by
    have b:∀x∈l,(Tm.nj (n+eU k) x s).acU+x.ac0 (n+eU k)=x.acU+x.ac0 (n+eU k)*s.acU:=λx c=>f x c _ (a.2 x c);clear f a
    induction l with
    |nil=>simp[c_]|cons y l e=>
     have h1:=b y aa4;have d:=e λx c=>b x (by simp[c]);simp only[c_,xu];omega
   omega
def Tm.Si(s:Tm)(hs:s.ok=true)(t:Tm):∀n,0<=n->t.ok=true->(Tm.nj n t s).ok=true:=by
 induction t using Tm.ind with
 |h k i ty l f=>
  intro n hn a;have b:=a;rw[Tm.fV] at a;simp only[ft,j7] at a;rw[Tm.nC]
  by_cases h1:k=1
  ·subst h1;simp only[if_true,Tm.uo]
   by_cases c:i=n
   ·simp only[c,if_true];rw[Tm.IB s 0 n VW hn];exact hs
   ·by_cases d:n<i
    ·simp only[c,d,kY,if_true];rw[Tm.fV]
     have g:1<=i:=VW
     simp[Tm.node,gx,jr,g,Ty.rq,dg]
    ·simp only[c,d,kY];exact b
  ·simp only[h1,kY];rw[Tm.fV,AP];simp only[ft,j7,l8];refine⟨a.1,?_⟩;rintro _ ⟨x,e,rfl⟩;exact f x e _ (by have:=kf k;omega) (a.2 x e)
mutual
def Tm.fr:Tm->Int
 |.mk k i _ l=>if k=1 then i+1 else if k=2 then imax 0 (Tm.HN 0 l-1)else Tm.HN 0 l
def Tm.HN(m:Int):List Tm->Int
 |[]=>m|t::l=>Tm.HN (imax m t.fr) l
end
theorem sO(a b:Int):imax a b=max a b:=by unfold imax;omega
def Tm.Ob(l:List Tm):∀m,m<=Tm.HN m l:=by
 induction l with
 |nil=>intro m;exact RA _|cons t l a=>intro m;rw[Tm.HN];have:=a (imax m t.fr);rw[sO] at*;omega
def Tm.T6{l:List Tm}{t:Tm}(h:t∈l):∀m,t.fr<=Tm.HN m l:=by
 induction l with
 |nil=>cases h
 |cons u l a=>
  intro m;rw[Tm.HN];rcases j0.1 h with rfl|h
  ·have:=Tm.Ob l (imax m t.fr);rw[sO] at*;omega
  ·exact a h _
def Tm.SB{M:Int}{l:List Tm}(h:∀t∈l,t.fr<=M):∀m,m<=M->Tm.HN m l<=M:=by
 induction l with
 |nil=>intro m hm;exact hm|cons u l a=>
  intro m hm;rw[Tm.HN];refine a (λt b=>h t (by simp[b])) _ ?_;have:=h u aa4;rw[sO];omega
def Tm.Q7(t:Tm):∀{M:Int},0<=M->t.ok=true->t.acY M=true->0<=t.fr/\t.fr<=M+1:=by
 induction t using Tm.ind with
 |h k i s l d=>
  intro M e a b;rw[Tm.fV] at a;rw[Tm.er] at b;simp only[ft,j7,oI,Tm.node] at a b;have h1:Tm.HN 0 l<=M+1:=Tm.SB (λt c=>(d t c e (a.2 t c) (b.2 t c)).2) 0 VW;have f:=Tm.Ob l 0;rw[Tm.fr]
  split
  ·omega
  ·split
   ·rw[sO];omega
   ·omega
def map_id'{α:Type}{g:α->α}{l:List α}(h:∀x∈l,g x=x):l.map g=l:=by
 induction l with
 |nil=>rfl|cons x l a=>simp only[wb,h x aa4,a λy hy=>h y (by simp[hy])]
def Tm.kT{k i:Int}{s:Ty}{l:List Tm}(h:(Tm.mk k i s l).ok=true):(k=1->l=[])/\0<=i/\(k≠1->i=0)/\(∀t∈l,t.ok=true)/\(l.length:Int)=gx k:=by
 rw[Tm.fV] at h;simp only[ft,j7,oI,Tm.node,r5] at h;obtain⟨⟨⟨⟨h1,a⟩,b⟩,e⟩,c⟩:=h;refine⟨?_,a,λd=>b.resolve_left d,c,h1⟩;rintro rfl;have:(l.length:Int)=0:=h1;exact Aa VW
def Tm.KB{k i:Int}{s:Ty}{l:List Tm}(a:k≠1){f:Int}(h:(Tm.mk k i s l).fr<=f)(c:0<=f):∀x∈l,x.fr<=f+eU k:=by
 intro x b;have:=Tm.T6 b 0;rw[Tm.fr,cK a] at h;unfold eU
 split at h
 ·rename_i a;rw[cO a];rw[sO] at h;omega
 ·rename_i a;rw[cK a];omega
def Tm.Ue(t:Tm):∀f b,t.ok=true->0<=f->t.fr<=f->t.up f b=t:=by
 induction t using Tm.ind with
 |h k i s l d=>
  intro f b e g h;obtain⟨o1,o2,m,j,_⟩:=Tm.kT e;rw[Tm.kJ]
  by_cases a:k=1
  ·have:=o1 a;subst this;rw[Tm.fr,cO a] at h;rw[cK VW];rfl
  ·rw[cK (λh=>a h.1)]
   congr 1
   exact map_id' λx c=>d x c _ _ (j x c) (by have:=kf k;omega) (Tm.KB a h g x c)
def Tm.xR(t:Tm):∀f,t.up f 0=t:=by
 induction t using Tm.ind with
 |h k i s l a=>
  intro f;rw[Tm.kJ,map_id' λx b=>a x b _]
  congr 1
  split<;>omega
def Tm.Sf(s t:Tm):∀n,t.ok=true->0<=n->t.fr<=n->Tm.nj n t s=t:=by
 induction t using Tm.ind with
 |h k i ty l c=>
  intro n d hn h;obtain⟨o1,o2,f,e,_⟩:=Tm.kT d;rw[Tm.nC]
  by_cases a:k=1
  ·rw[cO a];rw[Tm.fr,cO a] at h;unfold Tm.uo;rw[cK VW,cK VW]
  ·rw[cK a]
   congr 1
   exact map_id' λx b=>c x b _ (e x b) (by have:=kf k;omega) (Tm.KB a h hn x b)
def P0{α:Type}{g:α->Nat}{l:List α}(h:∀x∈l,g x=0):c_ g l=0:=by
 induction l with
 |nil=>rfl|cons x l a=>simp[c_,h x aa4,a λy hy=>h y (by simp[hy])]
def Tm.NC(t:Tm):∀n,t.ok=true->0<=n->t.fr<=n->t.ac0 n=0:=by
 induction t using Tm.ind with
 |h k i ty l c=>
  intro n d hn h;obtain⟨o1,o2,f,e,_⟩:=Tm.kT d;rw[Tm.fu]
  by_cases a:k=1
  ·have:=o1 a;subst this;rw[Tm.fr,cO a] at h;rw[cK VW];rfl
  ·rw[cK (λh=>a h.1)];simp only[r_];exact P0 λx b=>c x b _ (e x b) (by have:=kf k;omega) (Tm.KB a h hn x b)
def Tm.kd:Option Tm->Int
 |some t=>t.acS|none=>0
def Tm.root:Tm->Bool
 |.mk k _ _ l=>(decide (k=3)&&decide (Tm.kd l[0]?=2))||(decide (k=6)&&(decide (Tm.kd l[2]?=4)||decide (Tm.kd l[2]?=5)))||(decide (k=9)&&(decide (Tm.kd l[2]?=7)||decide (Tm.kd l[2]?=8)))||
  ((decide (k=11)||decide (k=12))&&decide (Tm.kd l[0]?=10))
mutual
def Tm.nf:Tm->Bool
 |.mk k i s l=>!(Tm.mk k i s l).root&&Tm.nfL l
def Tm.nfL:List Tm->Bool
 |[]=>true|t::l=>t.nf&&Tm.nfL l
end
def Tm.XG(l:List Tm):Tm.nfL l=l.all Tm.nf:=by
 induction l with
 |nil=>rfl|cons t l a=>simp[Tm.nfL,a]
def Tm.OC(k i:Int)(s:Ty)(l:List Tm):(Tm.mk k i s l).nf=(!(Tm.mk k i s l).root&&l.all Tm.nf):=by rw[Tm.nf,Tm.XG]
def lA(f:Tm):List Tm->Tm
 |[]=>f|a::l=>lA (.mk 3 0 (.mk 0 []) [f,a]) l
def Tm.eQ:Tm->Tm
 |.mk k i s l=>
  if k=3 then(match l with|[.mk _ _ _ [b],a]=>Tm.nj 0 b a|_=>.mk k i s l)
  else if k=11 then(match l with|[.mk _ _ _ (a::_)]=>a|_=>.mk k i s l)
  else if k=12 then(match l with|[.mk _ _ _ [_,b]]=>b|_=>.mk k i s l)
  else(match l with
   |[b,st,.mk _ _ _ []]=>b|[b,st,.mk _ _ _ [n]]=>lA st [n,.mk k i s [b,st,n]]|[b,st,.mk _ _ _ [h,t]]=>lA st [h,t,.mk k i s [b,st,t]]|_=>.mk k i s l)
mutual
inductive NR (nh:List HC):Nat->Tm->Prop
 |mk {p:Nat} {x:dr} {l:List Tm}:HC.cY nh p=some x->t_ nh x.acT l->x.size=((Tm.mk x.acS x.acV x.o0 l).acU:Int)->x.free=(Tm.mk x.acS x.acV x.o0 l).fr->(x.normal=true->(Tm.mk x.acS x.acV x.o0 l).nf=true)->NR nh p (.mk x.acS x.acV x.o0 l)
inductive t_ (nh:List HC):List (Option Nat)->List Tm->Prop
 |nil:t_ nh [] []|cons {p:Nat} {t:Tm} {ps:List (Option Nat)} {ts:List Tm}:NR nh p t->t_ nh ps ts->t_ nh (some p::ps) (t::ts)
end
def NR.inv{nh:List HC}{p:Nat}{t:Tm}(h:NR nh p t):∃x,HC.cY nh p=some x/\x.acS=t.acS/\x.acV=t.acV/\x.o0=t.cP/\t_ nh x.acT t.acT/\x.size=(t.acU:Int)/\x.free=t.fr/\(x.normal=true->t.nf=true):=by
 cases h with
 |mk h1 a b c d=>exact⟨_,h1,rfl,rfl,rfl,a,b,c,d⟩
def NR.of{nh:List HC}{p:Nat}{t:Tm}{x:dr}(h1:HC.cY nh p=some x)(a:x.acS=t.acS)(b:x.acV=t.acV)(c:x.o0=t.cP)(d:t_ nh x.acT t.acT)(e:x.size=(t.acU:Int))(f:x.free=t.fr)
  (g:x.normal=true->t.nf=true):NR nh p t:=by
 cases t with
 |mk k i s l=>
  simp only[Tm.dn,Tm.eP,Tm.dR,Tm.dd] at a b c d;subst a;subst b;subst c;exact .mk h1 d e f g
def t_.len{nh:List HC}:∀{ps:List (Option Nat)} {ts:List Tm},t_ nh ps ts->ps.length=ts.length
 |_,_,.nil=>rfl|_,_,.cons _ h=>by simp[h.len]
def t_.append{nh:List HC}:∀{ps a:List (Option Nat)} {ts us:List Tm},t_ nh ps ts->t_ nh a us->t_ nh (ps++a) (ts++us)
 |_,_,_,_,.nil,h=>h|_,_,_,_,.cons h1 b,h=>.cons h1 (b.append h)
structure NE (nh nh':List HC):Prop where
 node:∀p t,NR nh p t->NR nh' p t
 state:∀p st,HC.dP nh p=some st->HC.dP nh' p=some st
 get:∀p x,HC.cY nh p=some x->∃b,HC.cY nh' p=some {x with normal:=b}
def NE.refl(nh:List HC):NE nh nh:=⟨λ_ _ h=>h,λ_ _ h=>h,λ_ x h=>⟨x.normal,h⟩⟩
def NE.trans{a b c:List HC}(h1:NE a b)(d:NE b c):NE a c:=⟨λp t h=>d.node p t (h1.node p t h),λp st h=>d.state p st (h1.state p st h),λp x h=>by
 obtain⟨i,e⟩:=h1.get p x h;obtain⟨f,g⟩:=d.get p _ e
 exact⟨f,g⟩⟩
def NE.list{nh a:List HC}(h:NE nh a):∀{ps:List (Option Nat)} {ts:List Tm},t_ nh ps ts->t_ a ps ts
 |_,_,.nil=>.nil|_,_,.cons h1 b=>.cons (h.node _ _ h1) (h.list b)
def E7{nh X:List HC}{p:Nat}{x:dr}(h:HC.cY nh p=some x):HC.cY (nh++X) p=some x:=by
 have:=HC.c7 h;have a:=(kj.1 this).1;unfold HC.cY;rw[p4 a,this]
def Hx{nh X:List HC}{p:Nat}{x:ew}(h:HC.dP nh p=some x):HC.dP (nh++X) p=some x:=by
 have:=HC.fw h;have a:=(kj.1 this).1;unfold HC.dP;rw[p4 a,this]
mutual
def NR.app{nh X:List HC}:∀{p:Nat} {t:Tm},NR nh p t->NR (nh++X) p t
 |_,_,.mk h1 a b c d=>.mk (E7 h1) a.app b c d
def t_.app{nh X:List HC}:∀{ps:List (Option Nat)} {ts:List Tm},t_ nh ps ts->t_ (nh++X) ps ts
 |_,_,.nil=>.nil|_,_,.cons h1 a=>.cons h1.app a.app
end
def NE.kp{nh a:List HC}(h:Kp nh a):NE nh a:=by
 obtain⟨X,rfl⟩:=h;exact⟨λ_ _ h=>h.app,λ_ _ h=>Hx h,λp x h=>⟨x.normal,E7 h⟩⟩
def Gw{a0 a1:Int}{a2:Ty}{a3:List (Option Nat)}{nh:List HC}{F:Int->Option Nat->List HC->Option (eL (List HC) ((Option Nat)×List HC))}
  (hF:∀j q v x y,HC.cY v nh.length=some x->HC.cY v q=some y->HC.cY (jt v nh.length (HC.dt (dr.mk x.acS x.acV x.o0 x.acT (dF .i64 x.size y.size) x.free x.normal))) q=some y->F j (some q) v=some (.next (jt (jt v nh.length (HC.dt (dr.mk x.acS x.acV x.o0 x.acT (dF .i64 x.size y.size) x.free x.normal))) nh.length (HC.dt (dr.mk x.acS x.acV x.o0 x.acT (dF .i64 x.size y.size) (imax x.free y.free) x.normal))))):∀(ps:List (Option Nat)) (ts:List Tm) (i:Nat) (s:Nat) (f:Int),t_ nh ps ts->s+c_ Tm.acU ts<=1000000000->dN F ps i (nh++[HC.dt (dr.mk a0 a1 a2 a3 s f false)])=some (.inl (nh++[HC.dt (dr.mk a0 a1 a2 a3 ((s+c_ Tm.acU ts:Nat):Int) (Tm.HN f ts) false)]))
 |_,_,i,s,f,.nil,_=>by simp[c_,Tm.HN]|_,_,i,s,f,.cons (p:=p) (t:=t) h1 c,d=>by
  rw[c_] at d;obtain⟨y,b,k,l,m,n,e,g,o⟩:=h1.inv;have h:p<nh.length:=(kj.1 (HC.c7 b)).1
  have a:dF .i64 (s:Int) (t.acU:Int)=((s+t.acU:Nat):Int):=by rw[dI VW VW];omega
  rw[dJ,hF _ p _ _ y B_ (E7 b) (by rw[wR];exact E7 b)];simp only[wR,cH,dW,e,g,a];rw[Gw hF _ _ (i+1) (s+t.acU) (imax f t.fr) c VW];simp only[c_,Tm.HN,MX]
def rP{k i:Int}{s:Ty}{ps:List (Option Nat)}{ts:List Tm}{nh:List HC}(h:t_ nh ps ts)(hn:c_ Tm.acU ts<=100000000)(hi:0<=i/\i<=1000000000000)(o:∀t∈ts,0<=t.fr/\t.fr<=1000000000000):∃e,jf k i s ps nh=some (some nh.length,e)/\Kp nh e/\NR e nh.length (.mk k i s ts):=by
 have hlen:ps.length<=100000000:=by
  rw[h.len];exact uJ (Tm.ek ts) hn
 have u:0<=Tm.HN 0 ts/\Tm.HN 0 ts<=1000000000000:=⟨Tm.Ob ts 0,Tm.SB (λt w=>(o t w).2) 0 VW⟩;unfold jf;rw[db VW];simp only[cX,c6]
 have p:=Gw (a0:=k) (a1:=i) (a2:=s) (a3:=ps) (nh:=nh) (F:=λr l b=>
   cI (HC.cY b (List.length nh)) λa=>
   cI (l) λd=>
   cI (HC.cY b d) λc=>
   cI (HC.cY (jt b (List.length nh) (HC.dt (dr.mk a.acS a.acV a.o0 a.acT (dF .i64 a.size c.size) a.free a.normal))) d) λm=>
   some (.next (jt (jt b (List.length nh) (HC.dt (dr.mk a.acS a.acV a.o0 a.acT (dF .i64 a.size c.size) a.free a.normal))) (List.length nh) (HC.dt (dr.mk a.acS a.acV a.o0 a.acT (dF .i64 a.size c.size) (imax a.free m.free) a.normal)))))
  (by intro j q v x y h1 n z;simp only[h1,n,z,cH]) ps ts 0 1 0 h VW
 have A:((1:Nat):Int)=1:=rfl;rw[A] at p;rw[p];simp only[cH,cU,B_,wR]
 have g:((1+c_ Tm.acU ts:Nat):Int)=((Tm.mk k i s ts).acU:Int):=by rw[Tm.cN]
 have fin:∀f:Int,f=(Tm.mk k i s ts).fr->NR (nh++[HC.dt (dr.mk k i s ps ((1+c_ Tm.acU ts:Nat):Int) f false)]) nh.length (.mk k i s ts):=by
  intro f o;exact NR.of B_ rfl rfl rfl h.app g o (by intro h;cases h)
 by_cases h1:k=1
 ·subst h1;refine⟨_,by rw[cO aaK],⟨_,rfl⟩,fin _ ?_⟩;rw[Tm.fr,cO rfl,dI VW VW]
 ·rw[cK (by simpa using h1)]
  by_cases n:k=2
  ·subst n;refine⟨_,by rw[cO aaK],⟨_,rfl⟩,fin _ ?_⟩;rw[Tm.fr,cK aaK,cO rfl,ed VW VW]
  ·refine⟨_,by rw[cK (by simpa using n)],⟨_,rfl⟩,fin _ ?_⟩;rw[Tm.fr,cK h1,cK n]
def SE{nh:List HC}{p:Nat}{x:dr}(h:HC.cY nh p=some x):gQ (some p) nh=some (eU x.acS):=by
 unfold gQ eU;simp only[cH,h,eW]
 split<;>rfl
def NE.below{nh a:List HC}{p:Nat}{x:dr}(he:NE nh a)(h:HC.cY nh p=some x):gQ (some p) a=some (eU x.acS):=by
 obtain⟨b,e⟩:=he.get p x h;rw[SE e]
def A0{F:Int->Option Nat->List (Option Nat)×List HC->Option (eL (List (Option Nat)×List HC) ((Option Nat)×List HC))}(g:Tm->Tm)(Zo:List HC):∀(ts:List Tm)
  (_:∀t∈ts,∀p nh j v,Kp Zo nh->NR nh p t->v.length+1<=1000000000->∃q a,F j (some p) (v,nh)=some (.next (v++[some q],a))/\Kp nh a/\NR a q (g t))
  (ps:List (Option Nat)) (i:Nat) (nh:List HC) (v:List (Option Nat)) (us:List Tm),Kp Zo nh->t_ nh ps ts->t_ nh v us->v.length+ts.length<=1000000000->∃c a,dN F ps i (v,nh)=some (.inl (c,a))/\Kp nh a/\t_ a c (us++ts.map g)
 |[],_,_,i,nh,v,us,_,.nil,d,_=>⟨v,nh,rfl,Kp.refl _,by simpa using d⟩|t::ts,hF,_,i,nh,v,us,h,.cons (p:=p) (ps:=ps) h1 k,d,l=>by
  simp only[kN] at l;obtain⟨q,e,m,f,n⟩:=hF t aa4 p nh i v h h1 VW;have b:=NE.kp f;obtain⟨c,a,f1,f2,f3⟩:=A0 g Zo ts (λt o=>hF t (by simp[o])) ps (i+1) e (v++[some q]) (us++[g t]) (h.trans f) (b.list k) ((b.list d).append (.cons n .nil)) aa_;refine⟨c,a,?_,f.trans f2,by simpa using f3⟩;rw[dJ,m];simp only[cH,dW];exact f1
structure Sm (M:Int) (t:Tm):Prop where
 ok:t.ok=true
 acY:t.acY M=true
 acU:t.acU<=1000000
def Sm.arg{M k i:Int}{s:Ty}{l:List Tm}(h:Sm M (.mk k i s l)):∀t∈l,Sm M t:=by
 intro t a;have h1:=h.acY;have b:=h.acU;rw[Tm.er] at h1;simp only[ft,j7] at h1;rw[Tm.cN] at b;exact⟨(Tm.kT h.ok).2.2.2.1 t a,h1.2 t a,by have:=dh Tm.acU a;omega⟩
def Sm.idx{M k i:Int}{s:Ty}{l:List Tm}(h:Sm M (.mk k i s l)):0<=i/\i<=M:=by
 have h1:=h.acY;rw[Tm.er] at h1;simp only[ft,oI] at h1;exact⟨(Tm.kT h.ok).2.1,h1.1⟩
theorem Sm.fr{M:Int}{t:Tm}(h:Sm M t)(a:0<=M):0<=t.fr/\t.fr<=M+1:=Tm.Q7 t a h.ok h.acY
def Sm.mono{M N:Int}{t:Tm}(h:Sm M t)(hm:M<=N):Sm N t:=⟨h.ok,by
 have:∀t:Tm,t.acY M=true->t.acY N=true:=by
  intro t
  induction t using Tm.ind with
  |h k i s l b=>
   rw[Tm.er,Tm.er];simp only[ft,j7,oI]
   exactλ⟨h1,c⟩=>⟨VW,λx a=>b x a (c x a)⟩
 exact this t h.acY,h.acU⟩
def KJ{M b:Int}(d:0<=b)(t:Tm):∀f,t.acY M=true->(t.up f b).acY (M+b)=true:=by
 induction t using Tm.ind with
 |h k i s l a=>
  intro f h;rw[Tm.er] at h;simp only[ft,j7,oI] at h;rw[Tm.kJ,Tm.er];simp only[ft,j7,oI];refine⟨by split<;>omega,?_⟩;intro x c;obtain⟨y,hy,rfl⟩:=l8.1 c;exact a y hy _ (h.2 y hy)
def Sm.up{M f b:Int}{t:Tm}(h:Sm M t)(c:0<=f)(a:0<=b):Sm (M+b) (t.up f b):=
 ⟨by rw[Tm.IB t f b c a];exact h.ok,KJ a t f h.acY,by rw[Tm.qt];exact h.acU⟩
def To{M:Int}(T:0<=M/\M<=500000000000):∀(n:Nat) (t:Tm) (p:Nat) (nh:List HC) (f b:Int),t.acU<=n->NR nh p t->Sm M t->0<=f->f+t.acU<=500000000000->0<=b->b<=400000000000->∃P a,iy n (some p) f b nh=some (some P,a)/\Kp nh a/\NR a P (t.up f b):=by
 intro n
 induction n with
 |zero=>intro t p nh f b h;have:=t.dp;omega
 |succ n U=>
  intro t p nh f b hn u hs V w Q z;obtain⟨x,A,m,B,C,D,e6,W,e8⟩:=u.inv;have X:=hs.fr T.1;rw[iy];simp only[c6,cH,A,W,zL]
  by_cases h1:t.fr<=f
  ·rw[cO h1];exact⟨p,nh,rfl,Kp.refl _,by rw[Tm.Ue t f b hs.ok V h1];exact u⟩
  ·rw[cK h1]
   by_cases R:b=0
   ·subst R;exact⟨p,nh,aa4,Kp.refl _,by rw[Tm.xR];exact u⟩
   ·rw[cK (by simpa using R)];cases t with
    |mk k i s l=>
     simp only[Tm.dn,Tm.eP,Tm.dR,Tm.dd] at m B C D;have S:=hs.idx;obtain⟨o1,o2,o3,o4,o5⟩:=Tm.kT hs.ok
     by_cases E:k=1
     ·subst E;have Y:=o1 rfl;subst Y;rw[cO (by rw[m];rfl)]
      have G:f<=i:=by rw[Tm.fr,cO rfl] at h1;omega
      obtain⟨a,g1,g2,g3⟩:=rP (k:=1) (i:=i+b) (s:=s) (ps:=[]) (ts:=[]) (nh:=nh) .nil (by simp[c_]) VW aa4;refine⟨nh.length,a,?_,g2,?_⟩
      ·rw[m,B,C,dI VW VW,g1];rfl
      ·rw[Tm.kJ,cO ⟨rfl,G⟩];exact g3
     ·rw[cK (by rw[m];simpa using E)]
      have Z:1+c_ Tm.acU l<=n+1:=by rw[Tm.cN] at hn;exact hn
      have hlen:=Tm.ek l;have H:=hs.acU;rw[Tm.cN] at H w;have aa:x.acT.length=l.length:=D.len;rw[db VW];simp only[cX];have ab:=kf k
      obtain⟨v',a,g1,g2,g3⟩:=A0 (F:=λj I=>qw λc d=>
        cI (gQ (some p) d) λo=>
        cT (iy n I (dF .i64 f o) b d) λe g=>
        fD (eJ c [e])<|some (.next ((fa c [e]),g))) (Tm.up (f+eU k) b) nh l (by
        intro t r q J j v K hq hv;have L:=hs.arg t r;have hm:=dh Tm.acU r;obtain⟨q',N,a1,a2,a3⟩:=U t q J (f+eU k) b VW hq L VW VW Q z;refine⟨q',N,?_,a2,a3⟩;simp only[h7,(NE.kp K).below A,cH,m];rw[dI VW VW,a1];simp only[cJ];rw[dS (by simpa using hv)]
        rfl) x.acT 0 nh [] [] (Kp.refl _) D .nil aa_
      rw[g1];simp only[cH,cU,h7];obtain⟨x2,c1⟩:=(NE.kp g2).get p x A;unfold fv;simp only[cH,c1]
      obtain⟨O,d1,d2,d3⟩:=rP (k:=k) (i:=i) (s:=s) (ps:=v') (ts:=l.map (Tm.up (f+eU k) b)) (nh:=a) (by simpa using g3) (by
       rw[pL,qV λx _=>Tm.qt x _ _];omega) VW (by
       intro t r;obtain⟨y,hy,rfl⟩:=l8.1 r;have:=((hs.arg y hy).up (f:=f+eU k) (b:=b) VW Q).fr VW
       omega)
      refine⟨a.length,O,?_,g2.trans d2,?_⟩
      ·rw[m,B,C,d1];rfl
      ·rw[Tm.kJ,cK (λh=>E h.1)];exact d3
def count_eq{M:Int}(O:0<=M/\M<=500000000000)(nh:List HC):∀(n:Nat) (t:Tm) (p:Nat) (a:Int),t.acU<=n->NR nh p t->Sm M t->0<=a->a+t.acU<=500000000000->jh n (some p) a nh=some (t.ac0 a:Int):=by
 intro n
 induction n with
 |zero=>intro t p a h;have:=t.dp;omega
 |succ n B=>
  intro t p a hn C hs D o;obtain⟨x,y,j,z,E,q,P,F,Q⟩:=C.inv;rw[jh];simp only[cH,y,F,zL]
  by_cases h1:t.fr<=a
  ·rw[cO h1,Tm.NC t a hs.ok D h1];rfl
  ·rw[cK h1];cases t with
   |mk k i s l=>
    simp only[Tm.dn,Tm.eP,Tm.dR,Tm.dd] at j z E q;obtain⟨o1,o2,R,S,T⟩:=Tm.kT hs.ok
    by_cases r:k=1
    ·subst r;have G:=o1 rfl;subst G;rw[cO (by rw[j];rfl),Tm.fu,z];simp only[eW,c_]
     by_cases m:i=a
     ·rw[cO m,cO ⟨trivial,m⟩];rfl
     ·rw[cK m,cK (λh=>m h.2)];rfl
    ·rw[cK (by rw[j];simpa using r)];have v:=hs.acU;rw[Tm.cN] at v o hn;have hlen:=Tm.ek l;have H:x.acT.length=l.length:=q.len;rw[db VW];simp only[cX,c6];have I:=kf k
     have loop:∀(ts:List Tm) (ps:List (Option Nat)) (i c:Nat),(∀t∈ts,t∈l)->t_ nh ps ts->c+c_ Tm.acU ts<=1000000000->dN (λ(A:Int) (b:Option Nat)=>(λ(d:Int)=>
        cI (jh n b (a+eU k) nh) λe=>
        some ((.next (dF .i64 d e)):eL Int Int))) ps i (c:Int)=some (.inl ((c+c_ (Tm.ac0 (a+eU k)) ts:Nat):Int)):=by
      intro ts
      induction ts with
      |nil=>intro ps i c _ h _;cases h;rfl
      |cons t ts w=>
       intro ps i c hm h J;cases h with
       |cons q1 K=>
        rw[c_] at J;have f:=hm t aa4;have L:=dh Tm.acU f;have N:=Tm.gW t (a+eU k);rw[dJ];rw[B t _ _ VW q1 (hs.arg t f) VW VW];simp only[cH];rw[dI VW VW];simp only[dW];have:=w _ (i+1) (c+t.ac0 (a+eU k)) (λu hu=>hm u (by simp[hu])) K VW;rw[show((c+t.ac0 (a+eU k):Nat):Int)=(c:Int)+(t.ac0 (a+eU k):Int) by omega] at this;rw[this];simp only[c_,MX]
     have:=loop l x.acT 0 0 (λt h=>h) q VW;rw[show((0:Nat):Int)=0 from rfl] at this;have g:dF .i64 a (eU k)=a+eU k:=dI VW VW;simp only[SE y,cH,j,g];rw[this];simp only[cH,cU,r_];rw[Tm.fu,cK (λh=>r h.1),r_]
def Jf{M N B:Int}(w:M<=B)(s:Tm)(hs:s.acY N=true)(t:Tm):∀n,0<=n->N+n+t.acU<=B->t.acY M=true->t.ok=true->(Tm.nj n t s).acY B=true:=by
 induction t using Tm.ind with
 |h k i ty l f=>
  intro n hn g d p;have j:=d;rw[Tm.er] at d;simp only[ft,j7,oI] at d;obtain⟨o1,o2,z,q,A⟩:=Tm.kT p;rw[Tm.nC]
  have c:∀(u:Tm) {a b:Int},a<=b->u.acY a=true->u.acY b=true:=by
   intro u
   induction u using Tm.ind with
   |h k i s l f=>
    intro a b m;rw[Tm.er,Tm.er];simp only[ft,j7,oI]
    exactλ⟨h1,r⟩=>⟨VW,λx e=>f x e m (r x e)⟩
  have C:1<=(Tm.mk k i ty l).acU:=Tm.dp _
  by_cases o:k=1
  ·rw[cO o];unfold Tm.uo
   split
   ·exact c _ VW (KJ hn s 0 hs)
   ·split
    ·rw[Tm.er];simp;omega
    ·exact c _ VW j
  ·rw[cK o,Tm.er];simp only[ft,j7,oI];refine⟨VW,?_⟩;intro x e;obtain⟨y,hy,rfl⟩:=l8.1 e;have v:=kf k;have hm:=dh Tm.acU hy;rw[Tm.cN] at g;exact f y hy (n+eU k) VW VW (d.2 y hy) (q y hy)
def put_eq{M N:Int}(hM:0<=M/\M<=100000000000)(hN:0<=N/\N<=100000000000)(s:Tm)(d:Sm N s):∀(n:Nat) (t:Tm) (p q:Nat) (nh:List HC) (a:Int),t.acU<=n->NR nh p t->NR nh q s->Sm M t->0<=a->a+t.acU<=100000000000->t.acU+t.ac0 a*s.acU<=100000000->∃D b,iR n (some p) a (some q) nh=some (some D,b)/\Kp nh b/\NR b D (Tm.nj a t s):=by
 intro n
 induction n with
 |zero=>intro t p q nh a h;have:=t.dp;omega
 |succ n G=>
  intro t p q nh a hn W X hs Y H w;obtain⟨x,I,u,J,K,L,e6,e7,e8⟩:=W.inv;rw[iR];simp only[cH,I,e7,zL]
  by_cases h1:t.fr<=a
  ·rw[cO h1];exact⟨p,nh,rfl,Kp.refl _,by rw[Tm.Sf s t a hs.ok Y h1];exact W⟩
  ·rw[cK h1];cases t with
   |mk k i ty l=>
    simp only[Tm.dn,Tm.eP,Tm.dR,Tm.dd] at u J K L;have Z:=hs.idx;obtain⟨o1,o2,o3,O,o5⟩:=Tm.kT hs.ok
    by_cases E:k=1
    ·subst E;have hl:=o1 rfl;subst hl
     have aa:a<=i:=by rw[Tm.fr,cO rfl] at h1;omega
     rw[cO (by rw[u];rfl),J];simp only[eW];rw[Tm.nC,cO rfl];unfold Tm.uo
     by_cases e:i=a
     ·rw[cO e,cO e];have z:=d.acU;obtain⟨D,b,g1,g2,g3⟩:=To (M:=N) VW FU s q nh 0 a (by rw[dO];omega) X d VW VW Y VW;exact⟨D,b,by rw[g1];rfl,g2,g3⟩
     ·rw[cK e,cK e,cO VW];obtain⟨b,g1,g2,g3⟩:=rP (k:=1) (i:=i-1) (s:=ty) (ps:=[]) (ts:=[]) (nh:=nh) .nil (by simp[c_]) VW aa4;refine⟨nh.length,b,?_,g2,?_⟩
      ·rw[u,K,ed VW VW,g1];rfl
      ·have hz:ty=.mk 0 []:=by
        have:=hs.ok;rw[Tm.fV] at this;simp only[ft,Tm.node] at this
        have h4:ty.rq=true:=by simpa[jr] using this.1.2
        exact(Ty.lB ty).1 h4
       rw[<-hz];exact g3
    ·rw[cK (by rw[u];simpa using E)];have z:=hs.acU;rw[Tm.cN] at z H hn;have hlen:=Tm.ek l;have ab:x.acT.length=l.length:=L.len;rw[db VW];simp only[cX,c6];have ad:=kf k;rw[Tm.fu,cK (λh=>E h.1),r_,Tm.cN] at w
     have P:∀t∈l,t.acU+t.ac0 (a+eU k)*s.acU<=100000000:=by
      intro t c;have h1:=dh Tm.acU c;have e:=dh (Tm.ac0 (a+eU k)) c;have h3:=CP s.acU e;omega
     obtain⟨v',b,g1,g2,g3⟩:=A0 (F:=λj Q=>qw λf g=>
       cI (gQ (some p) g) λA=>
       cT (iR n Q (dF .i64 a A) (some q) g) λm o=>
       fD (eJ f [m])<|some (.next ((fa f [m]),o))) (λt=>Tm.nj (a+eU k) t s) nh l (by
       intro t c r R j v B S hv;have T:=hs.arg t c;have hm:=dh Tm.acU c;obtain⟨q',U,a1,a2,a3⟩:=G t r q R (a+eU k) VW S ((NE.kp B).node _ _ X) T VW VW (P t c);refine⟨q',U,?_,a2,a3⟩;simp only[h7,(NE.kp B).below I,cH,u];rw[dI VW VW,a1];simp only[cJ];rw[dS (by simpa using hv)]
       rfl) x.acT 0 nh [] [] (Kp.refl _) L .nil aa_
     rw[g1];simp only[cH,cU,h7];obtain⟨x2,c1⟩:=(NE.kp g2).get p x I;unfold fv;simp only[cH,c1]
     have C:∀t∈l,(Tm.nj (a+eU k) t s).acU<=t.acU+t.ac0 (a+eU k)*s.acU:=by
      intro t c;have:=Tm.q_ s t (a+eU k) (O t c);omega
     obtain⟨V,d1,d2,d3⟩:=rP (k:=k) (i:=i) (s:=ty) (ps:=v') (ts:=l.map (λt=>Tm.nj (a+eU k) t s)) (nh:=b) (by simpa using g3) (by
      rw[pL];have h1:=jK C
      have e:∀l:List Tm,c_ (λt=>t.acU+t.ac0 (a+eU k)*s.acU) l=c_ Tm.acU l+c_ (Tm.ac0 (a+eU k)) l*s.acU:=by
       intro l
       induction l with
       |nil=>simp[c_]|cons t l G=>simp only[c_,G,xu];omega
      rw[e] at h1
      omega) VW (by
      intro t c;obtain⟨y,hy,rfl⟩:=l8.1 c;have hm:=dh Tm.acU hy;have:=Tm.Q7 (Tm.nj (a+eU k) y s) (M:=M+N+(a+eU k)+y.acU) VW (Tm.Si s d.ok y _ VW (O y hy)) (Jf (M:=M) VW s d.acY y _ VW VW (hs.arg y hy).acY (O y hy))
      omega)
     refine⟨b.length,V,?_,g2.trans d2,?_⟩
     ·rw[u,J,K,d1];rfl
     ·rw[Tm.nC,cK E];exact d3
def tL(a b:Int):dg a b=decide (a=b):=by grind[dg]
def V9{α:Type}{l:List α}(h:l.length=1):∃a,l=[a]:=by
 match l,h with|[a],_=>exact⟨a,rfl⟩
def WG{α:Type}{l:List α}(h:l.length=2):∃a b,l=[a,b]:=by
 match l,h with|[a,b],_=>exact⟨a,b,rfl⟩
def ZZ{α:Type}{l:List α}(h:l.length=3):∃a b c,l=[a,b,c]:=by
 match l,h with|[a,b,c],_=>exact⟨a,b,c,rfl⟩
def t_.inv1{nh:List HC}{ps:List (Option Nat)}{a:Tm}(h:t_ nh ps [a]):∃p,ps=[some p]/\NR nh p a:=by
 cases h with|cons h1 b=>cases b;exact⟨_,rfl,h1⟩
def t_.inv2{nh:List HC}{ps:List (Option Nat)}{a b:Tm}(h:t_ nh ps [a,b]):∃p q,ps=[some p,some q]/\NR nh p a/\NR nh q b:=by
 cases h with|cons h1 c=>obtain⟨q,rfl,d⟩:=c.inv1;exact⟨_,q,rfl,h1,d⟩
def t_.Mz{nh:List HC}{ps:List (Option Nat)}{a b c:Tm}(h:t_ nh ps [a,b,c]):∃p q r,ps=[some p,some q,some r]/\NR nh p a/\NR nh q b/\NR nh r c:=by
 cases h with|cons h1 d=>obtain⟨q,r,rfl,e,f⟩:=d.inv2;exact⟨_,q,r,rfl,h1,e,f⟩
def t_.acd{nh:List HC}{ps:List (Option Nat)}(h:t_ nh ps []):ps=[]:=by cases h;rfl
def Tm.vU{k i:Int}{s:Ty}{l:List Tm}(h:(Tm.mk k i s l).ok=true):(l.length:Int)=gx k:=(Tm.kT h).2.2.2.2
def Tm.ok3{i:Int}{s:Ty}{l:List Tm}(h:(Tm.mk 3 i s l).ok=true):∃a b,l=[a,b]:=WG (by have:=Tm.vU h;have e:gx 3=2:=rfl;omega)
def Tm.ok6{i:Int}{s:Ty}{l:List Tm}(h:(Tm.mk 6 i s l).ok=true):∃a b c,l=[a,b,c]:=ZZ (by have:=Tm.vU h;have e:gx 6=3:=rfl;omega)
def Tm.ok9{i:Int}{s:Ty}{l:List Tm}(h:(Tm.mk 9 i s l).ok=true):∃a b c,l=[a,b,c]:=ZZ (by have:=Tm.vU h;have e:gx 9=3:=rfl;omega)
def Tm.ok2{i:Int}{s:Ty}{l:List Tm}(h:(Tm.mk 2 i s l).ok=true):∃a,l=[a]:=V9 (by have:=Tm.vU h;have e:gx 2=1:=rfl;omega)
def Tm.V4{k i:Int}{s:Ty}{l:List Tm}(b:k=11\/k=12)(h:(Tm.mk k i s l).ok=true):∃a,l=[a]:=V9 (by
 have:=Tm.vU h;rcases b with rfl|rfl
 ·have e:gx 11=1:=rfl;omega
 ·have e:gx 12=1:=rfl;omega)
def Tm.aby{i:Int}{s:Ty}{l:List Tm}(h:(Tm.mk 10 i s l).ok=true):∃a b,l=[a,b]:=WG (by have:=Tm.vU h;have e:gx 10=2:=rfl;omega)
def Tm.ok0{k i:Int}{s:Ty}{l:List Tm}(a:k=4\/k=7)(h:(Tm.mk k i s l).ok=true):l=[]:=Aa (by
 have:=Tm.vU h;rcases a with rfl|rfl
 ·have e:gx 4=0:=rfl;omega
 ·have e:gx 7=0:=rfl;omega)
def Tm.ok5{i:Int}{s:Ty}{l:List Tm}(h:(Tm.mk 5 i s l).ok=true):∃a,l=[a]:=V9 (by have:=Tm.vU h;have e:gx 5=1:=rfl;omega)
def Tm.ok8{i:Int}{s:Ty}{l:List Tm}(h:(Tm.mk 8 i s l).ok=true):∃a b,l=[a,b]:=WG (by have:=Tm.vU h;have e:gx 8=2:=rfl;omega)
def Tm.DI{k i:Int}{s:Ty}{l:List Tm}(h:(Tm.mk k i s l).ok=true):∀t∈l,t.ok=true:=(Tm.kT h).2.2.2.1
inductive Tm.Rd:Tm->Prop
 |app {i s i' s' b a}:Tm.Rd (.mk 3 i s [.mk 2 i' s' [b],a])|zero {k ko i s i' s' b st}:(k=6/\ko=4\/k=9/\ko=7)->Tm.Rd (.mk k i s [b,st,.mk ko i' s' []])|succ {i s i' s' b st n}:Tm.Rd (.mk 6 i s [b,st,.mk 5 i' s' [n]])|cons {i s i' s' b st h t}:Tm.Rd (.mk 9 i s [b,st,.mk 8 i' s' [h,t]])|proj {k i s i' s' a b}:(k=11\/k=12)->Tm.Rd (.mk k i s [.mk 10 i' s' [a,b]])
def Tm.IC{t:Tm}(d:t.ok=true)(h:t.root=true):t.Rd:=by
 cases t with
 |mk k i s l=>
  unfold Tm.root at h;simp only[r5,ft,oI] at h;rcases h with((⟨rfl,h⟩|⟨rfl,h⟩)|⟨rfl,h⟩)|⟨e,h⟩
  ·obtain⟨a,b,rfl⟩:=Tm.ok3 d;cases a with
   |mk k' f g j=>
    have e:k'=2:=by simpa[Tm.kd] using h
    subst e;obtain⟨q,rfl⟩:=Tm.ok2 (Tm.DI d (.mk 2 f g j) aa4);exact .app
  ·obtain⟨a,b,c,rfl⟩:=Tm.ok6 d;cases c with
   |mk k' f g j=>
    have e:k'=4\/k'=5:=by simpa[Tm.kd] using h
    have o:=Tm.DI d (.mk k' f g j) aa4;rcases e with rfl|rfl
    ·rw[Tm.ok0 (.inl rfl) o];exact .zero (.inl ⟨rfl,rfl⟩)
    ·obtain⟨n,rfl⟩:=Tm.ok5 o;exact .succ
  ·obtain⟨a,b,c,rfl⟩:=Tm.ok9 d;cases c with
   |mk k' f g j=>
    have e:k'=7\/k'=8:=by simpa[Tm.kd] using h
    have o:=Tm.DI d (.mk k' f g j) aa4;rcases e with rfl|rfl
    ·rw[Tm.ok0 (.inr rfl) o];exact .zero (.inr ⟨rfl,rfl⟩)
    ·obtain⟨n,m,rfl⟩:=Tm.ok8 o;exact .cons
  ·obtain⟨a,rfl⟩:=Tm.V4 e d;cases a with
   |mk k' f g j=>
    have p:k'=10:=by simpa[Tm.kd] using h
    subst p;obtain⟨a,b,rfl⟩:=Tm.aby (Tm.DI d (.mk 10 f g j) aa4);exact .proj e
def LV{nh:List HC}{p:Nat}{t:Tm}(v:NR nh p t)(j:t.ok=true):lF (some p) nh=some t.root:=by
 obtain⟨x,w,n,z,A,f,B,C,D⟩:=v.inv;unfold lF;simp only[cH,w,c6];cases t with
 |mk k i s l=>
  simp only[Tm.dn,Tm.dd] at n f;rw[n];unfold Tm.root
  by_cases o:k=3
  ·subst o;obtain⟨a,b,rfl⟩:=Tm.ok3 j;obtain⟨pa,pb,d,g,q⟩:=f.inv2;obtain⟨y,f1,f2,_⟩:=g.inv;rw[cO aaK,d];simp[dv,f1,f2,Tm.kd,tL]
  ·rw[cK (by simpa using o)]
   by_cases r:k=6
   ·subst r;obtain⟨a,b,c,rfl⟩:=Tm.ok6 j;obtain⟨pa,pb,pc,d,g,q,m⟩:=f.Mz;obtain⟨y,f1,f2,_⟩:=m.inv;rw[cO aaK,d];simp only[il,mc,iB,cH,f1,f2,Tm.kd,eW]
    by_cases h:c.acS=4
    ·simp[h]
    ·simp[h,tL]<;>exact Uh.2 Iff.rfl
   ·rw[cK (by simpa using r)]
    by_cases u:k=9
    ·subst u;obtain⟨a,b,c,rfl⟩:=Tm.ok9 j;obtain⟨pa,pb,pc,d,g,q,m⟩:=f.Mz;obtain⟨y,f1,f2,_⟩:=m.inv;rw[cO aaK,d];simp only[il,mc,iB,cH,f1,f2,Tm.kd,eW]
     by_cases h:c.acS=7
     ·simp[h]
     ·simp[h,tL]<;>exact Uh.2 Iff.rfl
    ·rw[cK (by simpa using u)]
     by_cases e:k=11\/k=12
     ·obtain⟨a,rfl⟩:=Tm.V4 e j;obtain⟨pa,d,g⟩:=f.inv1;obtain⟨y,f1,f2,_⟩:=g.inv;rw[cO (by rcases e with rfl|rfl<;>rfl),d];simp only[dv,iB,cH,f1,f2,Tm.kd];rcases e with rfl|rfl<;>simp[tL]<;>exact Uh.2 Iff.rfl
     ·grind[lN,eW]
theorem nZ:∀(l:List Tm) (f:Tm),(lA f l).acU=f.acU+c_ Tm.acU l+l.length
 |[],f=>by simp[lA,c_]|a::l,f=>by
  rw[lA,nZ l,Tm.cN]
  grind[c_]
def JO{M:Int}(B:0<=M/\M<=500000000000):∀(ts:List Tm) (ps:List (Option Nat)) (nh:List HC) (b:Nat) (f:Tm),t_ nh ps ts->NR nh b f->(∀t∈ts,0<=t.fr/\t.fr<=M)->0<=f.fr/\f.fr<=M->f.acU+c_ Tm.acU ts+ts.length<=10000000->∃c a,rv (some b) ps nh=some (some c,a)/\Kp nh a/\NR a c (lA f ts):=by
 intro ts ps nh b f g h d j hn;have hlen:ps.length=ts.length:=g.len;unfold rv;rw[db VW];simp only[cX,c6]
 have loop:∀(ts:List Tm) (ps:List (Option Nat)) (i:Nat) (nh:List HC) (b:Nat) (f:Tm),t_ nh ps ts->NR nh b f->(∀t∈ts,0<=t.fr/\t.fr<=M)->0<=f.fr/\f.fr<=M->f.acU+c_ Tm.acU ts+ts.length<=10000000->∃c a,dN (λ(v:Int) (o:Option Nat)=>(qw λ(v171:Option Nat) (l:List HC)=>
    cT (jf 3 0 (Ty.mk 0 []) [v171,o] l) λm e=>some ((.next (m,e)):eL ((Option Nat)×List HC) ((Option Nat)×List HC)))) ps i (some b,nh)=some (.inl (some c,a))/\Kp nh a/\NR a c (lA f ts):=by
  intro ts
  induction ts with
  |nil=>
   intro ps i nh b f g h _ _ _;cases g;exact⟨b,nh,rfl,Kp.refl _,h⟩
  |cons t ts w=>
   intro ps i nh b f g h d j hn;cases g with
   |cons h1 x=>
    rename_i p ps;simp only[c_,kN] at hn;have C:=d t aa4
    obtain⟨q,a1,a2,a3⟩:=rP (k:=3) (i:=0) (s:=.mk 0 []) (ps:=[some b,some p]) (ts:=[f,t]) (nh:=nh) (.cons h (.cons h1 .nil)) (by simp[c_];omega) VW (by
     intro u hu;simp only[j0,tw,TI] at hu
     rcases hu with rfl|rfl<;>omega)
    have r:=NE.kp a2
    have n:0<=(Tm.mk 3 0 (.mk 0 []) [f,t]).fr/\(Tm.mk 3 0 (.mk 0 []) [f,t]).fr<=M:=by grind[Tm.fr,Tm.HN,sO]
    obtain⟨c,a,y,z,A⟩:=w ps (i+1) q nh.length (.mk 3 0 (.mk 0 []) [f,t]) (r.list x) a3 (λu hu=>d u (by simp[hu])) n (by
     rw[Tm.cN];simp only[c_];omega)
    refine⟨c,a,?_,a2.trans z,A⟩;rw[dJ];simp only[h7,a1,cJ,cH,dW];exact y
 obtain⟨c,a,a1,a2,a3⟩:=loop ts ps 0 nh b f g h d j hn;rw[a1];exact⟨c,a,rfl,a2,a3⟩
def Ok{α:Type}(a:α):de [a] (dZ .i64 (di [a]) 1)=some a:=by
 have:dZ .i64 (di [a]) 1=0:=by simp only[ej,kN,vo];decide
 rw[this];rfl
def N4{α:Type}(a b:α):de [a,b] (dZ .i64 (di [a,b]) 1)=some b:=by
 have:dZ .i64 (di [a,b]) 1=1:=by simp only[ej,kN,vo];decide
 rw[this];rfl
def DZ{M:Int}(hM:0<=M/\M<=90000000000){nh:List HC}{p:Nat}{t:Tm}(hr:NR nh p t)(hs:Sm M t)(hn:t.acU<=8192)(F:t.root=true):∃R l,gV (some p) nh=some (some R,l)/\Kp nh l/\NR l R t.eQ:=by
 have U:=Tm.IC hs.ok F;obtain⟨x,V,g,S,T,w,e6,e7,e8⟩:=hr.inv;unfold gV;simp only[cH,V];have e:∀u:Tm,Sm M u->0<=u.fr/\u.fr<=M+1:=λu hu=>hu.fr hM.1;cases U with
 |app=>
  rename_i i s z A b a;simp only[Tm.dn,Tm.dd] at g w;obtain⟨pf,pa,B,W,X⟩:=w.inv2;obtain⟨y,f1,f2,f3,f4,f5,_⟩:=W.inv;simp only[Tm.dn,Tm.dd] at f2 f5;obtain⟨pb,C,D⟩:=f5.inv1;have Y:=hs.arg (.mk 2 z A [b]) aa4;have Z:=hs.arg a aa4;have m:=Y.arg b aa4;rw[Tm.cN] at hn;simp only[c_,Tm.cN] at hn;have af:=Tm.gW b 0;have hmul:b.ac0 0*a.acU<=8192*8192:=Ts VW VW;obtain⟨R,l,g1,g2,g3⟩:=put_eq (M:=M) (N:=M) VW VW a Z FU b pb pa nh 0 (by rw[dO];omega) D X m VW VW VW;refine⟨R,l,?_,g2,g3⟩;rw[g,cO aaK,B];simp only[dv,e9,iB,mc,cH,f1,C,g1,cJ]
 |proj hk=>
  rename_i k i s z A a b;simp only[Tm.dn,Tm.dd] at g w;obtain⟨pf,B,W⟩:=w.inv1;obtain⟨y,f1,f2,f3,f4,f5,_⟩:=W.inv;simp only[Tm.dn,Tm.dd] at f2 f5;obtain⟨pa,pb,C,X,D⟩:=f5.inv2;rcases hk with rfl|rfl
  ·refine⟨pa,nh,?_,Kp.refl _,by simpa[Tm.eQ] using X⟩;rw[g,cK aaK,cO aaK,B];simp only[dv,iB,cH,f1,C]
  ·refine⟨pb,nh,?_,Kp.refl _,by simpa[Tm.eQ] using D⟩;rw[g,cK aaK,cK aaK,cO aaK,B];simp only[dv,e9,iB,mc,cH,f1,C]
 |zero hk=>
  rename_i k ko i s z A b st;simp only[Tm.dn,Tm.dd] at g w;obtain⟨pb,ps,po,B,D,j,L⟩:=w.Mz;obtain⟨y,f1,f2,f3,f4,f5,_⟩:=L.inv;simp only[Tm.dn,Tm.dd] at f2 f5;have O:=f5.acd;refine⟨pb,nh,?_,Kp.refl _,?_⟩
  ·have f:k≠3/\k≠11/\k≠12:=VW
   rw[g,cK (by simpa using f.1),cK (by simpa using f.2.1),cK (by simpa using f.2.2),B];simp only[dv,e9,il,iB,mc,cH,f1,O];rfl
  ·have:(Tm.mk k i s [b,st,.mk ko z A []]).eQ=b:=by
    have f:k≠3/\k≠11/\k≠12:=VW
    simp[Tm.eQ,f.1,f.2.1,f.2.2]
   rw[this];exact D
 |succ=>
  rename_i i s z A b st n;simp only[Tm.dn,Tm.dd,Tm.eP,Tm.dR] at g S T w;obtain⟨pb,ps,po,B,D,j,L⟩:=w.Mz;obtain⟨y,f1,f2,f3,f4,f5,_⟩:=L.inv;simp only[Tm.dn,Tm.dd] at f2 f5;obtain⟨P,o,q⟩:=f5.inv1;have m:=hs.arg b aa4;have G:=hs.arg st aa4;have E:=hs.arg (.mk 5 z A [n]) aa4;have H:=E.arg n aa4;rw[Tm.cN] at hn;simp only[c_,Tm.cN] at hn;have Q:=hs.idx;have b1:=e b m;have b2:=e st G;have b3:=e n H
  obtain⟨I,a1,a2,a3⟩:=rP (k:=6) (i:=i) (s:=s) (ps:=[some pb,some ps,some P]) (ts:=[b,st,n]) (nh:=nh) (.cons D (.cons j (.cons q .nil))) (by simp[c_];omega) VW (by
   intro u hu;simp only[j0,tw,TI] at hu
   rcases hu with rfl|rfl|rfl<;>omega)
  have d:=NE.kp a2;obtain⟨c,fc⟩:=d.get _ _ f1;obtain⟨p2,J,d1,d2,d3⟩:=JO (M:=M+1) VW [n] [some P] I ps st (.cons (d.node _ _ q) .nil) (d.node _ _ j) (by intro u hu;simp only[j0,tw,TI] at hu;subst hu;omega) VW (by simp[c_];omega)
  have r:0<=(Tm.mk 6 i s [b,st,n]).fr/\(Tm.mk 6 i s [b,st,n]).fr<=M+1:=by
   rw[Tm.fr,cK aaK,cK aaK];simp only[Tm.HN,sO];omega
  have v:0<=(lA st [n]).fr/\(lA st [n]).fr<=M+1:=by
   simp only[lA];rw[Tm.fr,cK aaK,cK aaK];simp only[Tm.HN,sO];omega
  have aa:(Tm.mk 6 i s [b,st,n]).acU<=10000:=by rw[Tm.cN];simp only[c_];omega
  have ab:(lA st [n]).acU<=10000:=by rw[nZ];simp only[c_,kN,vo];omega
  obtain⟨p3,K,g1,g2,g3⟩:=JO (M:=M+1) VW [.mk 6 i s [b,st,n]] [some nh.length] J p2 (lA st [n]) (.cons ((NE.kp d2).node _ _ a3) .nil) d3 (by intro u hu;simp only[j0,tw,TI] at hu;subst hu;exact r) v (by simp only[c_,kN,vo];omega);refine⟨p3,K,?_,(a2.trans d2).trans g2,?_⟩
  ·rw[g,cK aaK,cK aaK,cK aaK,B];simp only[dv,e9,il,iB,mc,cH,f1,o];rw[cK (by simp only[ej,kN,vo];decide),Ok];unfold fv;simp only[cH,V,g,S,T,a1,cJ,fc,o,d1,g1]
  ·have:(Tm.mk 6 i s [b,st,.mk 5 z A [n]]).eQ=lA (lA st [n]) [.mk 6 i s [b,st,n]]:=by simp[Tm.eQ,lA]
   rw[this];exact g3
 |cons=>
  rename_i i s z A b st h n;simp only[Tm.dn,Tm.dd,Tm.eP,Tm.dR] at g S T w;obtain⟨pb,ps,po,B,D,j,L⟩:=w.Mz;obtain⟨y,f1,f2,f3,f4,f5,_⟩:=L.inv;simp only[Tm.dn,Tm.dd] at f2 f5;obtain⟨ph,P,o,ad,q⟩:=f5.inv2;have m:=hs.arg b aa4;have G:=hs.arg st aa4;have E:=hs.arg (.mk 8 z A [h,n]) aa4;have H:=E.arg n aa4;have ae:=E.arg h aa4;rw[Tm.cN] at hn;simp only[c_,Tm.cN] at hn;have Q:=hs.idx;have b1:=e b m;have b2:=e st G;have b3:=e n H;have b4:=e h ae
  obtain⟨I,a1,a2,a3⟩:=rP (k:=9) (i:=i) (s:=s) (ps:=[some pb,some ps,some P]) (ts:=[b,st,n]) (nh:=nh) (.cons D (.cons j (.cons q .nil))) (by simp[c_];omega) VW (by
   intro u hu;simp only[j0,tw,TI] at hu
   rcases hu with rfl|rfl|rfl<;>omega)
  have d:=NE.kp a2;obtain⟨c,fc⟩:=d.get _ _ f1;obtain⟨p2,J,d1,d2,d3⟩:=JO (M:=M+1) VW [h,n] [some ph,some P] I ps st (.cons (d.node _ _ ad) (.cons (d.node _ _ q) .nil)) (d.node _ _ j) (by intro u hu;simp only[j0,tw,TI] at hu;rcases hu with rfl|rfl<;>omega) VW (by simp[c_];omega)
  have r:0<=(Tm.mk 9 i s [b,st,n]).fr/\(Tm.mk 9 i s [b,st,n]).fr<=M+1:=by
   rw[Tm.fr,cK aaK,cK aaK];simp only[Tm.HN,sO];omega
  have v:0<=(lA st [h,n]).fr/\(lA st [h,n]).fr<=M+1:=by
   simp only[lA];rw[Tm.fr,cK aaK,cK aaK];simp only[Tm.HN];rw[Tm.fr,cK aaK,cK aaK];simp only[Tm.HN,sO];omega
  have aa:(Tm.mk 9 i s [b,st,n]).acU<=10000:=by rw[Tm.cN];simp only[c_];omega
  have ab:(lA st [h,n]).acU<=10000:=by rw[nZ];simp only[c_,kN,vo];omega
  obtain⟨p3,K,g1,g2,g3⟩:=JO (M:=M+1) VW [.mk 9 i s [b,st,n]] [some nh.length] J p2 (lA st [h,n]) (.cons ((NE.kp d2).node _ _ a3) .nil) d3 (by intro u hu;simp only[j0,tw,TI] at hu;subst hu;exact r) v (by simp only[c_,kN,vo];omega);refine⟨p3,K,?_,(a2.trans d2).trans g2,?_⟩
  ·rw[g,cK aaK,cK aaK,cK aaK,B];simp only[dv,e9,il,iB,mc,cH,f1,o];rw[cK (by simp only[ej,kN,vo];decide),N4];unfold fv;simp only[cH,V,g,S,T,a1,cJ,fc,o,d1,g1]
  ·have:(Tm.mk 9 i s [b,st,.mk 8 z A [h,n]]).eQ=lA (lA st [h,n]) [.mk 9 i s [b,st,n]]:=by simp[Tm.eQ,lA]
   rw[this];exact g3
def EP:∀(n:Nat) (t:Ty),t.acU<=n->t.acU<=1000000000->kl n t=some t:=by
 intro n
 induction n with
 |zero=>intro t h;have:=t.dp;omega
 |succ n a=>
  intro t h b;cases t with
  |mk k l=>
   rw[Ty.cN] at h b;have e:=Ty.ek l;rw[kl];simp only[Ty.dd,Ty.dn,c6,db (l:=l) VW,cX];rw[hS id l 0 [] aa_]
   ·simp
   ·intro j x v c d;have:=dh Ty.acU c;rw[a x VW VW];simp[dS (l:=v) (m:=[x]) (by simpa using d)]
def oB{t:Ty}(h:t.acU<=1000000000):kl FU t=some t:=EP FU t (by rw[dO];exact h) h
def Ty.vZ{k i:Int}{s:Ty}{n:Nat}(h:Tm.node k i s n=true):s.acU<=64:=by
 unfold Tm.node at h;simp only[ft] at h;have a:=h.2
 by_cases b:jr k=true
 ·rw[cO b] at a;simp only[oI] at a;unfold Ty.err at a
  split at a
  ·split at a
   ·omega
   ·omega
  ·omega
 ·rw[cK b] at a;rw[(Ty.lB s).1 a,Ty.cN];simp[c_]
def TQ{M:Int}(C:0<=M/\M<=500000000000):∀(n:Nat) (t:Tm) (nh:List HC),t.acU<=n->Sm M t->∃p a,pd n t nh=some (some p,a)/\Kp nh a/\NR a p t:=by
 intro n
 induction n with
 |zero=>intro t nh h;have:=t.dp;omega
 |succ n D=>
  intro t nh h hs;cases t with
  |mk k i s l=>
   have m:=hs.acU;have A:=hs.idx;rw[Tm.cN] at h m;have hlen:=Tm.ek l;rw[pd];simp only[Tm.dd,Tm.dn,Tm.eP,Tm.dR,c6,db (l:=l) VW,cX]
   have loop:∀(ts:List Tm) (i:Nat) (nh:List HC) (v:List (Option Nat)) (us:List Tm),(∀t∈ts,t∈l)->t_ nh v us->v.length+ts.length<=1000000->∃e a,dN (λ(B:Int) (f:Tm)=>(qw λ(b:(List (Option Nat))) (g:List HC)=>
      cT (pd n f g) λc d=>
      fD (eJ b [c])<|some ((.next ((fa b [c]),d)):eL ((List (Option Nat))×List HC) ((Option Nat)×List HC)))) ts i (v,nh)=some (.inl (e,a))/\Kp nh a/\t_ a e (us++ts):=by
    intro ts
    induction ts with
    |nil=>intro i nh v us _ o _;exact⟨v,nh,rfl,Kp.refl _,by simpa using o⟩|cons t ts q=>
     intro i nh v us hm o E;simp only[kN] at E;have j:=hm t aa4;have F:=dh Tm.acU j;obtain⟨p,r,a1,a2,a3⟩:=D t nh VW (hs.arg t j);obtain⟨e,a,w,x,y⟩:=q (i+1) r (v++[some p]) (us++[t]) (λu hu=>hm u (by simp[hu])) (((NE.kp a2).list o).append (.cons a3 .nil)) aa_;refine⟨e,a,?_,a2.trans x,by simpa using y⟩;rw[dJ];simp only[h7,a1,cJ];rw[dS aa_];simp only[cX,fx,cH,dW];exact w
   obtain⟨e,a,a1,a2,a3⟩:=loop l 0 nh [] [] (λt h=>h) .nil aa_;rw[a1];simp only[cH,cU,h7]
   obtain⟨z,w,x,y⟩:=rP (k:=k) (i:=i) (s:=s) (ps:=e) (ts:=l) (nh:=a) (by simpa using a3) VW VW (by
    intro t G;have:=(hs.arg t G).fr C.1
    omega)
   exact⟨a.length,z,by rw[w];rfl,a2.trans x,y⟩
def Om{M:Int}(nh:List HC):∀(n:Nat) (t:Tm) (p:Nat),t.acU<=n->Sm M t->NR nh p t->gL n (some p) nh=some t:=by
 intro n
 induction n with
 |zero=>intro t p h;have:=t.dp;omega
 |succ n w=>
  intro t p h hs y;obtain⟨x,z,m,o,q,f,F,G,H⟩:=y.inv;cases t with
  |mk k i s l=>
   simp only[Tm.dn,Tm.dd,Tm.eP,Tm.dR] at m o q f;have g:=hs.acU;rw[Tm.cN] at h g;have hlen:=Tm.ek l;have A:x.acT.length=l.length:=f.len;have c:=hs.ok;rw[Tm.fV,ft] at c;have B:=Ty.vZ c.1;rw[gL];simp only[cH,z,m,o,q,c6,db (l:=x.acT) VW,cX];rw[oB VW];simp only[cH]
   have loop:∀(ts:List Tm) (ps:List (Option Nat)) (i:Nat) (v:List Tm),(∀t∈ts,t∈l)->t_ nh ps ts->v.length+ts.length<=1000000->dN (λ(r:Int) (d:Option Nat)=>(λ(a:List Tm)=>
      cI (gL n d nh) λb=>
      fD (eJ a [b])<|some ((.next (fa a [b])):eL (List Tm) Tm))) ps i v=some (.inl (v++ts)):=by
    intro ts
    induction ts with
    |nil=>intro ps i v _ h _;cases h;simp
    |cons t ts j=>
     intro ps i v hm h C;simp only[kN] at C;have e:=hm t aa4;have D:=dh Tm.acU e;cases h with
     |cons q1 E=>
      rw[dJ,w t _ VW (hs.arg t e) q1];simp only[cH];rw[dS aa_];simp only[cX,cH,dW];rw[j _ (i+1) (fa v [t]) (λu hu=>hm u (by simp[hu])) E (by rw[y7];simp;omega)];simp
   rw[loop l x.acT 0 [] (λt h=>h) f aa_];simp
mutual
def NR.det{nh:List HC}:∀{p:Nat} {t u:Tm},NR nh p t->NR nh p u->t=u
 |_,_,_,.mk (x:=x) h1 a _ _ _,.mk (x:=y) g1 g2 _ _ _=>by
  rw[h1] at g1;obtain rfl:=gh g1;rw[t_.det a g2]
def t_.det{nh:List HC}:∀{ps:List (Option Nat)} {ts us:List Tm},t_ nh ps ts->t_ nh ps us->ts=us
 |_,_,_,.nil,.nil=>rfl|_,_,_,.cons h1 a,.cons g1 g2=>by rw[NR.det h1 g1,t_.det a g2]
end
def NE.flag{nh:List HC}{p:Nat}{t:Tm}{x:dr}(w:NR nh p t)(r:HC.cY nh p=some x)(g:t.nf=true):NE nh (jt nh p (HC.dt {x with normal:=true})):=by
 have v:=HC.c7 r;have j:=(kj.1 v).1
 have e:HC.cY (jt nh p (HC.dt {x with normal:=true})) p=some {x with normal:=true}:=by
  unfold HC.cY jt;simp[j]
 have a:∀q,q≠p->(jt nh p (HC.dt {x with normal:=true}))[q]?=nh[q]?:=by
  intro q c;unfold jt;rw[Dm (λh=>c h.symm)]
 have d:∀q y,HC.cY nh q=some y->∃b,HC.cY (jt nh p (HC.dt {x with normal:=true})) q=some {y with normal:=b}/\(b=true->y.normal=true\/q=p):=by
  intro q y hy
  by_cases c:q=p
  ·subst c;rw[r] at hy;obtain rfl:=gh hy;exact⟨true,e,λ_=>.inr rfl⟩
  ·refine⟨y.normal,?_,λh=>.inl h⟩;have:=a q c;unfold HC.cY at hy|-;rw[this];exact hy
 have key:∀n,(∀q u,u.acU<=n->NR nh q u->NR (jt nh p (HC.dt {x with normal:=true})) q u):=by
  intro n
  induction n with
  |zero=>intro q u h;have:=u.dp;omega
  |succ n z=>
   intro q u hu c;obtain⟨y,A,B,C,D,E,F,G,H⟩:=c.inv;obtain⟨b,f1,f2⟩:=d q y A
   have f:∀(ts:List Tm) (ps:List (Option Nat)),(∀t∈ts,t.acU<=n)->t_ nh ps ts->t_ (jt nh p (HC.dt {x with normal:=true})) ps ts:=by
    intro ts
    induction ts with
    |nil=>intro ps _ h;cases h;exact .nil
    |cons t ts m=>
     intro ps hm h;cases h with
     |cons g1 g2=>exact .cons (z _ _ (hm t aa4) g1) (m _ (λu hu=>hm u (by simp[hu])) g2)
   refine NR.of f1 B C D (f _ _ ?_ E) F G ?_
   ·intro t I;cases u with
    |mk k i s l=>
     rw[Tm.cN] at hu;have:=dh Tm.acU I;simp only[Tm.dd] at this;omega
   ·intro J;rcases f2 J with h|h
    ·exact H h
    ·subst h;rw[<-NR.det w c];exact g
 refine⟨λq u h=>key _ q u (gu _) h,?_,λq y h=>?_⟩
 ·intro q st c
  have o:q≠p:=by
   rintro rfl;have:=HC.fw c;rw[v] at this;cases this
  unfold HC.dP at c|-;rw[a q o];exact c
 ·obtain⟨b,h1,_⟩:=d q y h;exact⟨b,h1⟩
mutual
def Tm.IF(room:Int):Tm->Option (Option Tm)
 |.mk k i s l=>if(Tm.mk k i s l).root then(if((Tm.mk k i s l).eQ.acU:Int)-((Tm.mk k i s l).acU:Int)>room then none else some (some (Tm.mk k i s l).eQ))
  else match Tm.r9 room l with
   |none=>none|some none=>some none|some (some a)=>some (some (.mk k i s a))
def Tm.r9(room:Int):List Tm->Option (Option (List Tm))
 |[]=>some none|t::l=>match t.IF room with
  |none=>none|some (some a)=>some (some (a::l))|some none=>match Tm.r9 room l with
   |none=>none|some none=>some none|some (some b)=>some (some (t::b))
end
def KG:∀(l:List Tm) (f:Tm),f.ok=true->(∀t∈l,t.ok=true)->(lA f l).ok=true
 |[],f,h,_=>h|a::l,f,h,b=>by
  rw[lA];refine KG l _ ?_ λt d=>b t (by simp[d]);rw[Tm.fV];simp only[ft,j7];refine⟨rfl,?_⟩;intro x c;simp only[j0,tw,TI] at c;rcases c with rfl|rfl
  ·exact h
  ·exact b _ aa4
def A9{M:Int}(b:0<=M):∀(l:List Tm) (f:Tm),f.acY M=true->(∀t∈l,t.acY M=true)->(lA f l).acY M=true
 |[],f,h,_=>h|a::l,f,h,c=>by
  rw[lA];refine A9 b l _ ?_ λt e=>c t aa8;rw[Tm.er];simp only[ft,j7,oI];refine⟨b,?_⟩;intro x d;simp only[j0,tw,TI] at d;rcases d with rfl|rfl
  ·exact h
  ·exact c _ aa4
def Tm.Jq{k i:Int}{s:Ty}{l m:List Tm}(h:(Tm.mk k i s l).ok=true)(a:m.length=l.length)(hm:∀t∈m,t.ok=true):(Tm.mk k i s m).ok=true:=by
 rw[Tm.fV] at h|-;simp only[ft,j7] at h|-;rw[a];exact⟨h.1,hm⟩
def Tm.Bl{M k i:Int}{s:Ty}{l m:List Tm}(h:(Tm.mk k i s l).acY M=true)(hm:∀t∈m,t.acY M=true):(Tm.mk k i s m).acY M=true:=by
 rw[Tm.er] at h|-;simp only[ft,j7,oI] at h|-;exact⟨h.1,hm⟩
def Sh{M:Int}(A:0<=M){t:Tm}(hs:Sm M t)(hn:t.acU<=8192)(y:t.root=true):t.eQ.ok=true/\t.eQ.acY (M+8192)=true:=by
 have r:=Tm.IC hs.ok y;have up:∀u,Sm M u->u.acY (M+8192)=true:=λu hu=>(hu.mono VW).acY;cases r with
 |app=>
  rename_i i s d f b a;have v:=hs.arg (.mk 2 d f [b]) aa4;have p:=hs.arg a aa4;have l:=v.arg b aa4;rw[Tm.cN] at hn;simp only[c_,Tm.cN] at hn
  have e:(Tm.mk 3 i s [.mk 2 d f [b],a]).eQ=Tm.nj 0 b a:=by simp[Tm.eQ]
  rw[e];exact⟨Tm.Si a p.ok b 0 VW l.ok,Jf (M:=M) (N:=M) VW a p.acY b 0 VW VW l.acY l.ok⟩
 |proj w=>
  rename_i k i s d f a b;have q:=hs.arg (.mk 10 d f [a,b]) aa4;rcases w with rfl|rfl
  ·have:=q.arg a aa4;simpa[Tm.eQ] using And.intro this.ok (up _ this)
  ·have:=q.arg b aa4;simpa[Tm.eQ] using And.intro this.ok (up _ this)
 |zero w=>
  rename_i k z i s d f b st
  have m:k≠3/\k≠11/\k≠12:=VW
  have:(Tm.mk k i s [b,st,.mk z d f []]).eQ=b:=by simp[Tm.eQ,m.1,m.2.1,m.2.2]
  rw[this];have:=hs.arg b aa4;exact⟨this.ok,up _ this⟩
 |succ=>
  rename_i i s d f b st n;have h1:=hs.arg b aa4;have g:=hs.arg st aa4;have j:=(hs.arg (.mk 5 d f [n]) aa4).arg n aa4
  have e:(Tm.mk 6 i s [b,st,.mk 5 d f [n]]).eQ=lA st [n,.mk 6 i s [b,st,n]]:=by simp[Tm.eQ,lA]
  rw[e];have o:(Tm.mk 6 i s [b,st,n]).ok=true:=Tm.Jq hs.ok rfl (by intro t c;simp only[j0,tw,TI] at c;rcases c with rfl|rfl|rfl;all_goals first|exact h1.ok|exact g.ok|exact j.ok);have hle:(Tm.mk 6 i s [b,st,n]).acY (M+8192)=true:=Tm.Bl (hs.mono VW).acY (by intro t c;simp only[j0,tw,TI] at c;rcases c with rfl|rfl|rfl;all_goals first|exact up _ h1|exact up _ g|exact up _ j);refine⟨KG _ _ g.ok ?_,A9 VW _ _ (up _ g) ?_⟩<;>
  ·intro t c;simp only[j0,tw,TI] at c;rcases c with rfl|rfl
   ·first|exact j.ok|exact up _ j
   ·first|exact o|exact hle
 |cons=>
  rename_i i s d f b st h n;have h1:=hs.arg b aa4;have g:=hs.arg st aa4;have j:=(hs.arg (.mk 8 d f [h,n]) aa4).arg n aa4;have x:=(hs.arg (.mk 8 d f [h,n]) aa4).arg h aa4
  have e:(Tm.mk 9 i s [b,st,.mk 8 d f [h,n]]).eQ=lA st [h,n,.mk 9 i s [b,st,n]]:=by simp[Tm.eQ,lA]
  rw[e];have o:(Tm.mk 9 i s [b,st,n]).ok=true:=Tm.Jq hs.ok rfl (by intro t c;simp only[j0,tw,TI] at c;rcases c with rfl|rfl|rfl;all_goals first|exact h1.ok|exact g.ok|exact j.ok);have hle:(Tm.mk 9 i s [b,st,n]).acY (M+8192)=true:=Tm.Bl (hs.mono VW).acY (by intro t c;simp only[j0,tw,TI] at c;rcases c with rfl|rfl|rfl;all_goals first|exact up _ h1|exact up _ g|exact up _ j);refine⟨KG _ _ g.ok ?_,A9 VW _ _ (up _ g) ?_⟩<;>
  ·intro t c;simp only[j0,tw,TI] at c;rcases c with rfl|rfl|rfl
   ·first|exact x.ok|exact up _ x
   ·first|exact j.ok|exact up _ j
   ·first|exact o|exact hle
def Tm.Ba(room k i:Int)(s:Ty)(l:List Tm):(Tm.mk k i s l).IF room=if(Tm.mk k i s l).root then(if((Tm.mk k i s l).eQ.acU:Int)-((Tm.mk k i s l).acU:Int)>room then none else some (some (Tm.mk k i s l).eQ))
 else match Tm.r9 room l with
  |none=>none|some none=>some none|some (some a)=>some (some (.mk k i s a)):=by rw[Tm.IF]
def JA{M room:Int}(o:0<=M)(t:Tm):Sm M t->t.acU<=8192->∀e,t.IF room=some (some e)->e.ok=true/\e.acY (M+8192)=true/\(e.acU:Int)<=t.acU+room:=by
 induction t using Tm.ind with
 |h k i s l p=>
  intro hs hn e h;rw[Tm.Ba] at h
  by_cases f:(Tm.mk k i s l).root=true
  ·rw[cO f] at h
   split at h
   ·cases h
   ·obtain rfl:=gh (gh h);obtain⟨h1,q⟩:=Sh o hs hn f;exact⟨h1,q,VW⟩
  ·rw[cK f] at h;have up:∀u,Sm M u->u.acY (M+8192)=true:=λu hu=>(hu.mono VW).acY;have g:=hn;rw[Tm.cN] at g
   have r:∀(ts a:List Tm),(∀t∈ts,t∈l)->Tm.r9 room ts=some (some a)->a.length=ts.length/\(∀t∈a,t.ok=true/\t.acY (M+8192)=true)/\(c_ Tm.acU a:Int)<=c_ Tm.acU ts+room:=by
    intro ts
    induction ts with
    |nil=>intro a _ h;rw[Tm.r9] at h;cases h
    |cons t ts j=>
     intro a hm h;rw[Tm.r9] at h;have b:=hm t aa4;have w:=dh Tm.acU b;have c:=hs.arg t b
     split at h
     ·cases h
     ·rename_i u hu;obtain rfl:=gh (gh h);obtain⟨a1,a2,a3⟩:=p t b c VW u hu;refine⟨rfl,?_,by simp only[c_];omega⟩;intro v hv;rcases j0.1 hv with rfl|hv
      ·exact⟨a1,a2⟩
      ·have:=hs.arg v (hm v (by simp[hv]));exact⟨this.ok,up _ this⟩
     ·split at h
      ·cases h
      ·cases h
      ·rename_i m d;obtain rfl:=gh (gh h);obtain⟨a1,a2,a3⟩:=j m (λu hu=>hm u (by simp[hu])) d;refine⟨by simp[a1],?_,by simp only[c_];omega⟩;intro v hv;rcases j0.1 hv with rfl|hv
       ·exact⟨c.ok,up _ c⟩
       ·exact a2 v hv
   split at h
   ·cases h
   ·cases h
   ·rename_i m d;obtain rfl:=gh (gh h);obtain⟨a1,a2,a3⟩:=r l m (λt h=>h) d;refine⟨Tm.Jq hs.ok a1 λt n=>(a2 t n).1,Tm.Bl (hs.mono VW).acY λt n=>(a2 t n).2,?_⟩;rw[Tm.cN,Tm.cN];omega
def Fv(room:Int)(t:Tm):t.nf=true↔t.IF room=some none:=by
 induction t using Tm.ind with
 |h k i s l f=>
  rw[Tm.OC,Tm.Ba]
  have g:∀ts:List Tm,(∀t∈ts,t∈l)->(ts.all Tm.nf=true↔Tm.r9 room ts=some none):=by
   intro ts
   induction ts with
   |nil=>intro _;simp[Tm.r9]|cons t ts b=>
    intro hm;have h1:=f t (hm t aa4);have j:=b λu hu=>hm u (by simp[hu]);rw[AX,ft,h1,j,Tm.r9];constructor
    ·rintro⟨c,d⟩;rw[c,d]
    ·intro h
     split at h
     ·cases h
     ·cases h
     ·rename_i c
      split at h
      ·cases h
      ·rename_i d;exact⟨c,d⟩
      ·cases h
  have:=g l λt h=>h
  by_cases a:(Tm.mk k i s l).root=true
  ·rw[cO a,a];simp
   try(split<;>simp)
  ·rw[cK a];simp only[ft,U1,this];constructor
   ·rintro⟨_,e⟩;rw[e]
   ·intro h;refine⟨by simpa using a,?_⟩
    split at h
    ·cases h
    ·rename_i e;exact e
    ·cases h
def RN{M:Int}{t:Tm}(hs:Sm M t)(hn:t.acU<=8192)(c:t.root=true):(t.eQ.acU:Int)<=1000000000:=by
 have d:=Tm.IC hs.ok c;cases d with
 |app=>
  rename_i i s g h b a;rw[Tm.cN] at hn;simp only[c_,Tm.cN] at hn;have e:=hs.arg (.mk 2 g h [b]) aa4;have j:=Tm.q_ a b 0 (e.arg b aa4).ok;have k:=Tm.gW b 0;have hmul:b.ac0 0*a.acU<=8192*8192:=Ts VW VW
  grind[Tm.nj,Tm.eQ]
 |proj f=>
  rw[Tm.cN] at hn;simp only[c_,Tm.cN] at hn;rcases f with rfl|rfl<;>(simp[Tm.eQ];omega)
 |zero f=>grind[Tm.eQ,Tm.cN,c_]|succ=>grind[lA,Tm.eQ,nZ,Tm.cN,c_]|cons=>grind[lA,Tm.eQ,nZ,Tm.cN,c_]
def RM{M:Int}(P:0<=M/\M<=90000000000){nh:List HC}{p:Nat}{t:Tm}(L:NR nh p t)(hs:Sm M t)(hn:t.acU<=8192)(d:t.root=true):oW (some p) nh=some (t.eQ.acU:Int):=by
 have Q:=DZ P L hs hn d;have D:=Tm.IC hs.ok d;obtain⟨x,R,f,e3,e4,l,e6,e7,e8⟩:=L.inv;unfold oW lE;simp only[cH,R];cases D with
 |app=>
  rename_i i s m o b a;simp only[Tm.dn,Tm.dd] at f l;obtain⟨pf,pa,r,S,T⟩:=l.inv2;obtain⟨y,f1,f2,f3,f4,f5,_⟩:=S.inv;simp only[Tm.dn,Tm.dd] at f2 f5;obtain⟨pb,E,v⟩:=f5.inv1;have F:=hs.arg (.mk 2 m o [b]) aa4;have U:=hs.arg a aa4;have B:=F.arg b aa4;rw[Tm.cN] at hn;simp only[c_,Tm.cN] at hn;obtain⟨z,g1,_,_,_,_,g6,_⟩:=v.inv;obtain⟨u,g,_,_,_,_,j,_⟩:=T.inv;rw[f,cO aaK,r];simp only[dv,e9,iB,mc,cH,f1,E,g1];rw[count_eq (M:=M) VW nh FU b pb 0 (by rw[dO];omega) v B VW VW];simp only[cH,g,cJ,g6,j];have V:=Tm.gW b 0;have hmul:b.ac0 0*a.acU<=8192*8192:=Ts VW VW;have W:=Tm.q_ a b 0 B.ok;have X:=a.dp
  have e:(Tm.mk 3 i s [.mk 2 m o [b],a]).eQ=Tm.nj 0 b a:=by simp[Tm.eQ]
  rw[e]
  have hint:(b.ac0 0:Int)*((a.acU:Int)-1)=((b.ac0 0*a.acU:Nat):Int)-(b.ac0 0:Int):=by rw[Xy,yn];simp
  rw[ed VW VW,zJ (by rw[hint];omega) (by rw[hint];omega),hint,dI VW VW]
  congr 1
  omega
 |proj N=>
  rename_i k i s m o a b;obtain⟨p',Y,g1,g2,g3⟩:=Q;simp only[Tm.dn,Tm.dd] at f l;obtain⟨z,g,_,_,_,_,j,_⟩:=g3.inv
  have c:k≠3/\k≠6/\k≠9:=VW
  rw[f,cK (by simpa using c.1),cK (by simpa using c.2.1),cK (by simpa using c.2.2),g1];simp only[cJ,cH,g,j]
 |zero N=>
  rename_i k Z i s m o b st;simp only[Tm.dn,Tm.dd] at f l;obtain⟨pb,ps,O,r,v,q,C⟩:=l.Mz;obtain⟨y,f1,f2,f3,f4,f5,_⟩:=C.inv;obtain⟨z,g,_,_,_,_,j,_⟩:=v.inv;simp only[Tm.dn,Tm.dd] at f2 f5
  have c:k≠3/\k≠11/\k≠12:=VW
  have:(Tm.mk k i s [b,st,.mk Z m o []]).eQ=b:=by simp[Tm.eQ,c.1,c.2.1,c.2.2]
  rw[this];rcases N with⟨rfl,rfl⟩|⟨rfl,rfl⟩
  ·rw[f,cK aaK,cO aaK,r];simp only[dv,e9,il,iB,mc,cH,f1,f2,g,j];rw[cK aaK];rfl
  ·rw[f,cK aaK,cK aaK,cO aaK,r];simp only[dv,e9,il,iB,mc,cH,f1,f2,g,j];rw[cK aaK];rfl
 |succ=>
  rename_i i s m o b st n;simp only[Tm.dn,Tm.dd] at f l;obtain⟨pb,ps,O,r,v,q,C⟩:=l.Mz;obtain⟨y,f1,f2,f3,f4,f5,_⟩:=C.inv;simp only[Tm.dn,Tm.dd] at f2 f5;obtain⟨pn,w,A⟩:=f5.inv1;obtain⟨z1,g,_,_,_,_,j,_⟩:=v.inv;obtain⟨z2,G,_,_,_,_,H,_⟩:=q.inv;obtain⟨z3,I,_,_,_,_,J,_⟩:=A.inv;rw[Tm.cN] at hn;simp only[c_,Tm.cN] at hn
  have e:(Tm.mk 6 i s [b,st,.mk 5 m o [n]]).eQ=lA st [n,.mk 6 i s [b,st,n]]:=by simp[Tm.eQ,lA]
  rw[e,nZ];simp only[c_,Tm.cN,kN,vo];rw[f,cK aaK,cO aaK,r];simp only[dv,e9,il,iB,mc,cH,f1,f2,w,g,G,I,j,H,J];rw[cO aaK];simp only[cJ];rw[zJ (a:=2) VW VW,dI (a:=2) VW VW,dI (b:=2*(n.acU:Int)) VW VW,dI (b:=1) VW VW,dI (b:=(b.acU:Int)) VW VW,dI VW VW]
  congr 1
  omega
 |cons=>
  rename_i i s m o b st h n;simp only[Tm.dn,Tm.dd] at f l;obtain⟨pb,ps,O,r,v,q,C⟩:=l.Mz;obtain⟨y,f1,f2,f3,f4,f5,_⟩:=C.inv;simp only[Tm.dn,Tm.dd] at f2 f5;obtain⟨ph,pn,w,K,A⟩:=f5.inv2;obtain⟨z1,g,_,_,_,_,j,_⟩:=v.inv;obtain⟨z2,G,_,_,_,_,H,_⟩:=q.inv;obtain⟨z3,I,_,_,_,_,J,_⟩:=A.inv;obtain⟨z4,q1,_,_,_,_,q6,_⟩:=K.inv;rw[Tm.cN] at hn;simp only[c_,Tm.cN] at hn
  have e:(Tm.mk 9 i s [b,st,.mk 8 m o [h,n]]).eQ=lA st [h,n,.mk 9 i s [b,st,n]]:=by simp[Tm.eQ,lA]
  rw[e,nZ];simp only[c_,Tm.cN,kN,vo];rw[f,cK aaK,cK aaK,cO aaK,r];simp only[dv,e9,il,iB,mc,cH,f1,f2,w,g,G,I,q1,j,H,J,q6];rw[cO aaK];simp only[cJ];rw[zJ (a:=2) VW VW,dI (a:=3) VW VW,dI (b:=(h.acU:Int)) VW VW,dI (b:=2*(n.acU:Int)) VW VW,dI (b:=1) VW VW,dI (b:=(b.acU:Int)) VW VW,dI VW VW]
  congr 1
  omega
def Gx{α:Type}(a:List α)(x y:α)(b:List α):(a++x::b).set a.length y=a++y::b:=aa4
def Dq(room:Int)(p:Nat)(t:Tm)(nh:List HC)(o:Option ((Option Nat)×Int×List HC)):Prop:=
 match t.IF room with
 |none=>∃a,o=some (none,4,a)/\NE nh a|some none=>∃a,o=some (none,0,a)/\NE nh a|some (some c)=>∃b a,o=some (some b,0,a)/\NE nh a/\NR a b c
def U4{M room:Int}(hM:0<=M/\M<=80000000000)(X:-100000<=room/\room<=100000):∀(n:Nat) (t:Tm) (p:Nat) (nh:List HC),t.acU<=n->NR nh p t->Sm M t->t.acU<=8192->Dq room p t nh (iv n (some p) room nh):=by
 intro n
 induction n with
 |zero=>intro t p nh h;have:=t.dp;omega
 |succ n ih=>
  intro t p nh hn P hs H;obtain⟨x,Y,e2,e3,e4,Z,e6,e7,e8⟩:=P.inv;rw[iv];simp only[cH,Y]
  by_cases K:x.normal=true
  ·rw[cO K];unfold Dq;rw[(Fv room t).1 (e8 K)];exact⟨nh,rfl,NE.refl _⟩
  ·rw[cK K,LV P hs.ok];simp only[cH];cases t with
   |mk k i s l=>
    by_cases f:(Tm.mk k i s l).root=true
    ·rw[cO f,RM VW P hs H f];simp only[cH,eV,e6];obtain⟨N,c,g1,g2,g3⟩:=DZ (M:=M) VW P hs H f;have ah:=RN hs H f;rw[ed VW VW];unfold Dq;rw[Tm.Ba,cO f]
     by_cases C:((Tm.mk k i s l).eQ.acU:Int)-((Tm.mk k i s l).acU:Int)>room
     ·rw[cO C,cO C];exact⟨nh,rfl,NE.refl _⟩
     ·rw[cK C,cK C,g1];exact⟨N,c,rfl,NE.kp g2,g3⟩
    ·rw[cK f];simp only[Tm.dn,Tm.dd,Tm.eP,Tm.dR] at e2 e3 e4 Z;have F:=H;rw[Tm.cN] at hn F;have hlen:=Tm.ek l;have Q:x.acT.length=l.length:=Z.len;rw[db VW];simp only[cX,c6];have af:=hs.idx;have R:∀u:Tm,Sm M u->0<=u.fr/\u.fr<=M+1:=λu hu=>hu.fr hM.1
     have loop:∀(ts pre:List Tm) (ps I:List (Option Nat)) (j:Nat) (A:List HC),l=pre++ts->x.acT=I++ps->I.length=j->NE nh A->t_ A ps ts->t_ A I pre->match Tm.r9 room ts with
       |none=>∃c,dN (λ(v:Int) (B:Option Nat)=>(λ(w:List HC)=>
         ik (iv n B room w) λg m a=>
         if(dw m 0) then(some (.ret (none,m,a)))
         else(if(Option.isSome g) then(
         cI (HC.cY a p) λd=>
         fD (yk d.acT)<|cI (de d.acT v) λG=>
         cT (fv (some p) (wy d.acT v g) a) λy r=>
         some (.ret (y,0,r)))
         else(some ((.next a):eL (List HC) ((Option Nat)×Int×List HC)))))) ps j A=some (.inr (none,4,c))/\NE nh c
       |some none=>∃c,dN (λ(v:Int) (B:Option Nat)=>(λ(w:List HC)=>
         ik (iv n B room w) λg m a=>
         if(dw m 0) then(some (.ret (none,m,a)))
         else(if(Option.isSome g) then(
         cI (HC.cY a p) λd=>
         fD (yk d.acT)<|cI (de d.acT v) λG=>
         cT (fv (some p) (wy d.acT v g) a) λy r=>
         some (.ret (y,0,r)))
         else(some ((.next a):eL (List HC) ((Option Nat)×Int×List HC)))))) ps j A=some (.inl c)/\NE nh c
       |some (some S)=>∃N c,dN (λ(v:Int) (B:Option Nat)=>(λ(w:List HC)=>
         ik (iv n B room w) λg m a=>
         if(dw m 0) then(some (.ret (none,m,a)))
         else(if(Option.isSome g) then(
         cI (HC.cY a p) λd=>
         fD (yk d.acT)<|cI (de d.acT v) λG=>
         cT (fv (some p) (wy d.acT v g) a) λy r=>
         some (.ret (y,0,r)))
         else(some ((.next a):eL (List HC) ((Option Nat)×Int×List HC)))))) ps j A=some (.inr (some N,0,c))/\NE nh c/\NR c N (.mk k i s (pre++S)):=by
      intro ts
      induction ts with
      |nil=>
       intro pre ps I j A _ _ _ D hp _;cases hp;rw[Tm.r9];exact⟨A,rfl,D⟩
      |cons t ts aa=>
       intro pre ps I j A O hx hq D hp J;cases hp with
       |cons q1 q2=>
        rename_i q ps
        have T:t∈l:=by rw[O];simp
        have ai:=dh Tm.acU T;have U:=hs.arg t T;have z:=ih t q A VW q1 U VW;unfold Dq at z;rw[Tm.r9];rw[dJ]
        split at z
        ·rename_i E;obtain⟨c,a1,a2⟩:=z;rw[E,a1];exact⟨c,rfl,D.trans a2⟩
        ·rename_i E;obtain⟨c,a1,a2⟩:=z;rw[E,a1];have:=aa (pre++[t]) ps (I++[some q]) (j+1) c (by simp[O]) (by simp[hx]) (by simp[hq]) (D.trans a2) (a2.list q2) ((a2.list J).append (.cons (a2.node _ _ q1) .nil))
         revert this
         cases Tm.r9 room ts with
         |none=>exactλh=>h|some o=>
          cases o with
          |none=>exactλh=>h|some S=>simp only[tE,W6,mR];exactλh=>h
        ·rename_i t' E;obtain⟨W,c,a1,a2,a3⟩:=z;rw[E,a1];simp only[ov];rw[cK aaK,cO (show(some W).isSome=true from rfl)];obtain⟨b,V⟩:=(D.trans a2).get p x Y;rw[V];simp only[cH];obtain⟨s1,s2,s3⟩:=JA hM.1 t U VW t' E;rw[show yk x.acT=true from xa ⟨by rw[Q,O];simp;omega,by rw[Q];unfold JV;omega⟩]
         have ab:de x.acT (j:Int)=some (some q):=by rw[im,hx,<-hq];simp
         have ad:wy x.acT (j:Int) (some W)=I++some W::ps:=by
          unfold wy;rw[hx,<-hq];simp
         simp only[cX,ab,cH,ad];unfold fv;simp only[cH,V]
         obtain⟨ae,b1,b2,b3⟩:=rP (k:=k) (i:=i) (s:=s) (ps:=I++some W::ps) (ts:=pre++t'::ts) (nh:=c) ((a2.list J).append (.cons a3 (a2.list q2))) (by
          rw[O,D2] at F;rw[D2];simp only[c_] at F|-
          omega) VW (by
          intro u hu;rcases qA.1 hu with hu|hu
          ·have:=R u (hs.arg u (by rw[O];simp[hu]));omega
          ·rcases j0.1 hu with rfl|hu
           ·have:=Tm.Q7 u (M:=M+8192) VW s1 s2;omega
           ·have:=R u (hs.arg u (by rw[O];simp[hu]));omega)
         rw[e2,e3,e4,b1];exact⟨c.length,ae,rfl,(D.trans a2).trans (NE.kp b2),b3⟩
     have:=loop l [] x.acT [] 0 nh rfl rfl rfl (NE.refl _) Z .nil;unfold Dq;rw[Tm.Ba,cK f]
     have L:Tm.r9 room l=some none->(Tm.mk k i s l).nf=true:=by
      intro h;rw[Fv room,Tm.Ba,cK f,h]
     revert this L
     cases Tm.r9 room l with
     |none=>
      rintro⟨c,a1,a2⟩ _;have e:((0:Nat):Int)=0:=rfl;rw[a1];exact⟨c,rfl,a2⟩
     |some o=>
      cases o with
      |none=>
       rintro⟨c,a1,a2⟩ L;rw[a1];simp only[cH,cU];obtain⟨b,V⟩:=a2.get p x Y;rw[V];simp only[cH];exact⟨_,rfl,a2.trans (NE.flag (x:={x with normal:=b}) (a2.node _ _ P) V (L rfl))⟩
      |some l'=>
       rintro⟨N,c,a1,a2,a3⟩ _;rw[a1];exact⟨N,c,rfl,a2,a3⟩
def Qg{M:Int}(L:0<=M/\M<=80000000000):∀(n:Nat) (t:Tm) (p:Nat) (nh:List HC),t.acU<=n->NR nh p t->Sm M t->t.acU<=8192->∃d,hU n (some p) nh=some (t.nf,d)/\NE nh d:=by
 intro n
 induction n with
 |zero=>intro t p nh h;have:=t.dp;omega
 |succ n G=>
  intro t p nh hn z hs A;obtain⟨x,D,N,O,P,B,Q,R,H⟩:=z.inv;rw[hU];simp only[cH,D]
  by_cases o:x.normal=true
  ·rw[cO o,H o];exact⟨nh,rfl,NE.refl _⟩
  ·rw[cK o,LV z hs.ok];simp only[cH];cases t with
   |mk k i s l=>
    by_cases a:(Tm.mk k i s l).root=true
    ·rw[cO a,Tm.OC,a];exact⟨nh,rfl,NE.refl _⟩
    ·rw[cK a];simp only[Tm.dd] at B;rw[Tm.cN] at hn A;have hlen:=Tm.ek l;have I:x.acT.length=l.length:=B.len;rw[db VW];simp only[cX,c6]
     have loop:∀(ts:List Tm) (ps:List (Option Nat)) (j:Nat) (e:List HC),(∀t∈ts,t∈l)->NE nh e->t_ e ps ts->∃d,dN (λ(E:Int) (q:Option Nat)=>(λ(r:List HC)=>
        cT (hU n q r) λv g=>
        if v then(some (.next g))else(some ((.ret (false,g)):eL (List HC) (Bool×List HC))))) ps j e=some (if ts.all Tm.nf then .inl d else .inr (false,d))/\NE nh d:=by
      intro ts
      induction ts with
      |nil=>intro ps j e _ m h;cases h;exact⟨e,rfl,m⟩
      |cons t ts C=>
       intro ps j e hm m h;cases h with
       |cons q1 J=>
        have w:=hm t aa4;have K:=dh Tm.acU w;obtain⟨y,a1,a2⟩:=G t _ e VW q1 (hs.arg t w) VW;rw[dJ,a1];simp only[cJ]
        by_cases c:t.nf=true
        ·rw[cO c];simp only[cH,dW,AX,c,Ai];exact C _ (j+1) y (λu hu=>hm u (by simp[hu])) (m.trans a2) (a2.list J)
        ·rw[cK c];simp only[cH,BB,AX,c,U5];exact⟨y,rfl,m.trans a2⟩
     obtain⟨d,a1,a2⟩:=loop l x.acT 0 nh (λt h=>h) (NE.refl _) B;rw[a1]
     by_cases f:l.all Tm.nf=true
     ·rw[cO f];simp only[cH,cU];obtain⟨b,F⟩:=a2.get p x D;rw[F]
      have c:(Tm.mk k i s l).nf=true:=by
       rw[Tm.OC,f];simpa using a
      rw[c];exact⟨_,rfl,a2.trans (NE.flag (x:={x with normal:=b}) (a2.node _ _ z) F c)⟩
     ·rw[cK f]
      have c:(Tm.mk k i s l).nf=false:=by
       rw[Tm.OC];simp[f]
      rw[c];exact⟨d,rfl,a2⟩
def rW{t:Tm}(h:t.wt<=1000000000):jB t=some (if t.err=0 then(t.acU:Int)else 0,t.err):=by
 unfold jB Tm.err;rw[vD FU t (by rw[dO];exact h) h]
 by_cases a:t.ok=true
 ·simp only[a,if_true,cJ,eV]
  by_cases b:4096<t.acU
  ·rw[cO b,cO VW];rfl
  ·rw[cK b,cK VW];rfl
 ·simp only[a,cJ];rfl
def uC{t:Tm}(h:t.wt<=1000000000):pH t=some t.err:=by
 unfold pH;rw[rW h];rfl
theorem Tm.fS{t:Tm}(h:t.err=0):t.ok=true/\t.acU<=4096:=by
 unfold Tm.err at h
 split at h
 ·rename_i a
  split at h
  ·omega
  ·exact⟨a,VW⟩
 ·omega
def P_:∀(n:Nat) (t:Tm) (b:Int) (s:Bool),t.acU<=n->t.ok=true->t.acU<=1000000->0<=b->b+t.acU<=100000000->iO n t b (λ(s:Bool) (f:Int) (g:Int)=>rh f g s) s=some (s&&t.acY 536870912):=by
 intro n
 induction n with
 |zero=>intro t b s h;have:=t.dp;omega
 |succ n v=>
  intro t b s h w hn D m;cases t with
  |mk k i ty l=>
   obtain⟨o1,o2,x,y,E⟩:=Tm.kT w;rw[Tm.cN] at h hn m;have hlen:=Tm.ek l;rw[iO];simp only[Tm.dd,Tm.dn,Tm.eP,c6,eW];rw[Tm.er]
   by_cases e:k=1
   ·have z:=o1 e;subst z;rw[cO e];unfold rh;cases s with
    |true=>simp[Em];rfl|false=>simp;rfl
   ·rw[cK e];have hi:=x e;subst hi
    have o:eu (dg k 2) (dF .i64 b 1) b=b+eU k:=by
     unfold eU
     by_cases p:k=2
     ·subst p;rw[cO rfl];exact dI VW VW
     ·rw[cK p]
      have:dg k 2=false:=by simp[dg,p]
      rw[this];simp
    have A:=kf k;rw[db (l:=l) VW];simp only[cX,o]
    have loop:∀(ts:List Tm) (j:Nat) (s:Bool),(∀t∈ts,t∈l)->dN (λ(B:Int) (q:Tm)=>(λ(a:Bool)=>
      cI (iO n q (b+eU k) (λ(s:Bool) (f:Int) (g:Int)=>rh f g s) a) λc=>
      some ((.next c):eL Bool Bool))) ts j s=some (.inl (s&&ts.all (Tm.acY 536870912))):=by
     intro ts
     induction ts with
     |nil=>intro j s _;simp|cons t ts r=>
      intro j s hm;have d:=hm t aa4;have C:=dh Tm.acU d;rw[dJ,v t _ _ VW (y t d) VW VW VW];simp only[cH,dW];rw[r (j+1) _ λu hu=>hm u (by simp[hu])];simp[Bool.and_assoc]
    rw[loop l 0 s λt h=>h];simp
def JN{t:Tm}(a:t.ok=true)(hn:t.acU<=1000000):wD t=some (t.acY 536870912):=by
 unfold wD re;rw[P_ FU t 0 true (by rw[dO];omega) a hn VW VW];simp
def Tm.z:Tm:=.mk 0 0 (.mk 0 []) []
def NR.U7{nh:List HC}{c:Nat}{st a:ew}(h:HC.dP nh c=some st):∀n,(∀p t,t.acU<=n->NR nh p t->NR (jt nh c (HC.eH a)) p t):=by
 have j:=HC.fw h
 have d:∀q y,HC.cY nh q=some y->HC.cY (jt nh c (HC.eH a)) q=some y:=by
  intro q y hy;have e:=HC.c7 hy
  have f:c≠q:=by
   rintro rfl;rw[j] at e;cases e
  unfold HC.cY jt;rw[Dm f,e]
 intro n
 induction n with
 |zero=>intro p t h;have:=t.dp;omega
 |succ n m=>
  intro p t o r;obtain⟨y,v,w,x,z,A,B,C,D⟩:=r.inv
  have b:∀(ts:List Tm) (ps:List (Option Nat)),(∀t∈ts,t.acU<=n)->t_ nh ps ts->t_ (jt nh c (HC.eH a)) ps ts:=by
   intro ts
   induction ts with
   |nil=>intro ps _ h;cases h;exact .nil
   |cons t ts g=>
    intro ps hm h;cases h with
    |cons g1 g2=>exact .cons (m _ _ (hm t aa4) g1) (g _ (λu hu=>hm u (by simp[hu])) g2)
  refine NR.of (d _ _ v) w x z (b _ _ ?_ A) B C D;intro u hu;cases t with
  |mk k i s l=>
   rw[Tm.cN] at o;have:=dh Tm.acU hu;simp only[Tm.dd] at this;omega
def C9{nh:List HC}{b:Nat}{st a:ew}(h:HC.dP nh b=some st):HC.dP (jt nh b (HC.eH a)) b=some a:=by
 have d:=HC.fw h;have c:=(kj.1 d).1;unfold HC.dP jt;simp[c]
structure At (nh:List HC) (s0:Nat) (t:Tm) (m:Int):Prop where
 st:∃p,HC.dP nh s0=some ⟨some p,m⟩/\NR nh p t
def Tt{M:Int}(g:0<=M/\M<=80000000000){nh:List HC}{d:Nat}{t:Tm}{m:Int}(h:At nh d t m)(hs:Sm M t)(hn:t.acU<=4096)(hm:0<=m/\m<=1000000):match t.IF (4096-t.acU)with
  |none=>∃a,iJ (some d) nh=some (false,4,a)|some none=>∃a,iJ (some d) nh=some (false,0,a)/\At a d t m|some (some f)=>∃a,iJ (some d) nh=some (true,0,a)/\At a d f (m+1):=by
 obtain⟨p,h1,e⟩:=h.st;obtain⟨x,i,_,_,_,_,j,_⟩:=e.inv;have l:=t.dp;have b:=U4 (M:=M) (room:=4096-t.acU) g VW FU t p nh (by rw[dO];omega) e hs VW;unfold iJ qH;simp only[cH,h1,i,j];rw[ed VW VW];unfold Dq at b
 split at b
 ·rename_i c;obtain⟨a,a1,a2⟩:=b
  try rw[c]
  rw[a1];exact⟨a,rfl⟩
 ·rename_i c;obtain⟨a,a1,a2⟩:=b
  try rw[c]
  rw[a1];exact⟨a,rfl,⟨p,a2.state _ _ h1,a2.node _ _ e⟩⟩
 ·rename_i f c;obtain⟨k,a,a1,a2,a3⟩:=b
  try rw[c]
  rw[a1];have g1:=a2.state _ _ h1;simp only[ov];rw[cK (by simp[dw])];simp only[g1,cH];rw[dI VW VW];refine⟨_,rfl,⟨k,C9 (C9 g1),?_⟩⟩;exact NR.U7 (C9 g1) _ _ _ (gu _) (NR.U7 g1 _ _ _ (gu _) a3)
def Tm.norm:Nat->Int->Tm->Tm×Int×Int
 |0,m,t=>if t.nf then(t,m,0)else(Tm.z,0,5)|k+1,m,t=>match t.IF (4096-t.acU)with
  |none=>(Tm.z,0,4)|some none=>(t,m,0)|some (some a)=>Tm.norm k (m+1) a
def Mj{k:Nat}{m:Int}{t:Tm}(h:t.IF (4096-t.acU)=none):t.norm (k+1) m=(Tm.z,0,4):=by rw[Tm.norm,h]
def IV{k:Nat}{m:Int}{t:Tm}(h:t.IF (4096-t.acU)=some none):t.norm (k+1) m=(t,m,0):=by rw[Tm.norm,h]
def IM{k:Nat}{m:Int}{t a:Tm}(h:t.IF (4096-t.acU)=some (some a)):t.norm (k+1) m=a.norm k (m+1):=by rw[Tm.norm,h]
def Ge{σ ρ:Type}{F:σ->Option (eL σ ρ)}:∀{n m:Nat} {s:σ} {o:σ⊕ρ},n<=m->lp F n s=some o->lp F m s=some o
 |0,_,_,_,_,h=>by cases h
 |n+1,0,_,_,hm,_=>by omega|n+1,m+1,s,o,hm,h=>by
  rw[kc] at h|-;obtain⟨c,h1,a⟩:=dm h;rw[h1];simp only[cH];cases c with
  |next b=>exact Ge VW a|AI b=>exact a|ret r=>exact a
def KX(n:Nat)(steps:Int)(H:0<=steps/\steps<=65536):∀(k:Nat) (m:Int) (t:Tm) (nh:List HC),(k:Int)=steps-m->0<=m->At nh n t m->Sm (536870912+8192*m) t->t.acU<=4096->∃o,lp (λ(a:List HC)=>
   cI (HC.dP a n) λq=>
   if(qj q.steps steps) then(
   ik (iJ (some n) a) λs i c=>
   if(dw i 0) then(some (.ret ((Tm.mk 0 0 (Ty.mk 0 []) []),0,i)))
   else(if s then(some (.next c))
   else(cI (HC.dP c n) λj=>
   cI (gL FU j.term c) λu=>
   some (.ret (u,j.steps,0)))))
   else(some ((.AI a):eL (List HC) (Tm×Int×Int)))) (k+1) nh=some o/\eG (λ(a:List HC)=>
    cI (HC.dP a n) λv=>
    cT (hU FU v.term a) λw f=>
    if w then(
    cI (HC.dP f n) λl=>
    cI (gL FU l.term f) λx=>
    some (x,l.steps,0))
    else(some ((Tm.mk 0 0 (Ty.mk 0 []) []),0,5))) (λr=>some r) o=some (t.norm k m):=by
 intro k
 induction k with
 |zero=>
  intro m t nh A hm g hs hn;obtain⟨p,h1,y⟩:=g.st;refine⟨.inl nh,?_,?_⟩
  ·rw[kc];simp only[h1,cH];rw[cK (by rw[ki];omega)];rfl
  ·rw[cU];simp only[h1,cH];obtain⟨d,a1,a2⟩:=Qg (M:=536870912+8192*m) VW FU t p nh (by rw[dO];omega) y hs VW;rw[a1];simp only[cJ,Tm.norm]
   by_cases h:t.nf=true
   ·rw[cO h,cO h];simp only[a2.state _ _ h1,cH];rw[Om (M:=536870912+8192*m) d FU t p (by rw[dO];omega) hs (a2.node _ _ y)];rfl
   ·rw[cK h,cK h];rfl
 |succ k B=>
  intro m t nh A hm g hs hn;obtain⟨p,h1,y⟩:=g.st;have b:=Tt (M:=536870912+8192*m) VW g hs hn VW;rw[kc];simp only[h1,cH];rw[cO (by rw[ki];omega)]
  split at b
  ·rename_i e;obtain⟨d,a1⟩:=b;rw[Mj e,a1];exact⟨_,rfl,rfl⟩
  ·rename_i e;obtain⟨d,a1,a2⟩:=b;obtain⟨C,D,E⟩:=a2.st;rw[IV e,a1];simp only[ov];rw[cK aaK,cK aaK];simp only[D,cH];rw[Om (M:=536870912+8192*m) d FU t C (by rw[dO];omega) hs E];exact⟨_,rfl,rfl⟩
  ·rename_i z e;obtain⟨d,a1,a2⟩:=b;rw[IM e,a1];simp only[ov];rw[cK aaK];simp only[if_true,cH,dW];obtain⟨F,G,c3⟩:=JA (M:=536870912+8192*m) VW t hs VW z e;exact B (m+1) z d VW VW a2 ⟨F,by rw[show 536870912+8192*(m+1)=536870912+8192*m+8192 by omega];exact G,VW⟩ VW
def Sm.start{t:Tm}(h:t.err=0)(a:t.acY 536870912=true):Sm 536870912 t:=⟨(Tm.fS h).1,a,by have:=(Tm.fS h).2;omega⟩
def wO{t:Tm}(hw:t.wt<=1000000000)(steps:Int):jv t steps=some (if t.err=0 then(if 0<=steps/\steps<=65536/\t.acY 536870912 then t.norm steps.toNat 0 else(Tm.z,0,1))else(Tm.z,0,t.err)):=by
 unfold jv;rw[uC hw];simp only[cH]
 by_cases he:t.err=0
 ·rw[cK (by simp[he]),cO he];obtain⟨f,hn⟩:=Tm.fS he;simp only[c6]
  by_cases h1:steps<0
  ·rw[cO ((ki _ _).2 h1),cO trivial,cK (λh=>absurd h.1 VW)];rfl
  ·rw[cK (by rw[ki];exact h1)]
   by_cases e:65536<steps
   ·rw[cO ((eV _ _).2 e),cO trivial,cK (λh=>absurd h.2.1 VW)];rfl
   ·rw[cK (by rw[eV];exact e),JN f VW];simp only[cH]
    by_cases a:t.acY 536870912=true
    ·have c:qf (t.acY 536870912)=false:=by rw[a];rfl
     rw[cK (by rw[c];decide),cO ⟨VW,VW,a⟩];have b:=Sm.start he a;obtain⟨p,nh,a1,a2,a3⟩:=TQ (M:=536870912) VW FU t [] (by rw[dO];omega) b;rw[a1];simp only[cJ];have d:At (nh++[HC.eH (ew.mk (some p) 0)]) nh.length t 0:=⟨p,by unfold HC.dP;simp,a3.app⟩;obtain⟨o,g,i⟩:=KX nh.length steps VW steps.toNat 0 t _ VW VW d (by simpa using b) hn;have j:=Ge (m:=FU) (by rw[dO];omega) g;rw[j];exact i
    ·have c:qf (t.acY 536870912)=true:=by simp[a]
     rw[cO c,cK (λh=>a h.2.2)];rfl
 ·rw[cO (by simp[he]),cK he];rfl
mutual
def Fm.acU:Fm->Nat
 |.mk _ _ ts l=>1+c_ Tm.acU ts+Fm.nc l
def Fm.nc:List Fm->Nat
 |[]=>0|t::l=>t.acU+Fm.nc l
end
def Fm.q7(l:List Fm):Fm.nc l=c_ Fm.acU l:=by
 induction l with
 |nil=>rfl|cons t l a=>simp[Fm.nc,c_,a]
theorem Fm.cN(k:Int)(s:Ty)(ts:List Tm)(l:List Fm):(Fm.mk k s ts l).acU=1+c_ Tm.acU ts+c_ Fm.acU l:=by rw[Fm.acU,Fm.q7]
def Fm.dp(t:Fm):1<=t.acU:=by cases t;rw[Fm.acU];omega
def Fm.ek(l:List Fm):l.length<=c_ Fm.acU l:=gk _ _ λt _=>t.dp
mutual
def Fm.wt:Fm->Nat
 |.mk _ s ts l=>1+s.acU+c_ Tm.wt ts+Fm.NW l
def Fm.NW:List Fm->Nat
 |[]=>0|t::l=>t.wt+Fm.NW l
end
def Fm.DH(l:List Fm):Fm.NW l=c_ Fm.wt l:=by
 induction l with
 |nil=>rfl|cons t l a=>simp[Fm.NW,c_,a]
theorem Fm.ea(k:Int)(s:Ty)(ts:List Tm)(l:List Fm):(Fm.mk k s ts l).wt=1+s.acU+c_ Tm.wt ts+c_ Fm.wt l:=by rw[Fm.wt,Fm.DH]
def Fm.gX(t:Fm):1<=t.wt:=by cases t;rw[Fm.wt];omega
def Fm.mQ(l:List Fm):l.length<=c_ Fm.wt l:=gk _ _ λt _=>t.gX
def Fm.ind{p:Fm->Prop}(h:∀k s ts l,(∀t∈l,p t)->p (.mk k s ts l))(t:Fm):p t:=by
 have:∀n (t:Fm),t.acU<=n->p t:=by
  intro n
  induction n with
  |zero=>intro t a;have:=t.dp;omega
  |succ n b=>
   intro t a;cases t with
   |mk k s ts l=>
    rw[Fm.cN] at a;exact h k s ts l λu hu=>b u (by have:=dh Fm.acU hu;omega)
 exact this _ t (gu _)
def Fm.gC(t:Fm):t.acU<=t.wt:=by
 induction t using Fm.ind with
 |h k s ts l a=>rw[Fm.cN,Fm.ea];have:=jK a;have:=jK (f:=Tm.acU) (g:=Tm.wt) (l:=ts) λx _=>x.gC;omega
def jz(k:Int):Bool:=decide (k=4\/k=5\/k=6\/k=7)
def qB(k:Int):Int:=if jz k then 1 else 0
def B5(k:Int):0<=qB k/\qB k<=1:=by unfold qB;split<;>omega
def kX(k:Int):j3 k=some (jz k):=by
 unfold j3 jz
 congr 1
 rw[DQ];simp
def o_(f:Fm):mJ f=some (qB f.acS):=by
 unfold mJ qB;rw[kX];simp only[cH]
 split<;>rfl
def Fm.node(k:Int)(s:Ty)(a n:Nat):Bool:=
 if k=1 then s.rq&&decide (a=2)&&decide (n=0)
 else if k=2\/k=3 then s.rq&&decide (a=0)&&decide (n=2)
 else jz k&&decide (s.err=0)&&decide (a=0)&&decide (n=1)
mutual
def Fm.ok:Fm->Bool
 |.mk k s ts l=>Fm.node k s ts.length l.length&&ts.all Tm.ok&&Fm.Iz l
def Fm.Iz:List Fm->Bool
 |[]=>true|t::l=>t.ok&&Fm.Iz l
end
def Fm.yy(l:List Fm):Fm.Iz l=l.all Fm.ok:=by
 induction l with
 |nil=>rfl|cons t l a=>simp[Fm.Iz,a]
theorem Fm.fV(k:Int)(s:Ty)(ts:List Tm)(l:List Fm):(Fm.mk k s ts l).ok=(Fm.node k s ts.length l.length&&ts.all Tm.ok&&l.all Fm.ok):=by rw[Fm.ok,Fm.yy]
def Fm.err(t:Fm):Int:=if t.ok then(if 4096<t.acU then 4 else 0)else 2
def fE{α:Type}{l:List α}:(l.length:Int)=0↔l=[]:=by cases l<;>simp;omega
def iK{α:Type}{l:List α}(h:(l.length:Int)=1):∃a,l=[a]:=by
 match l,h with
 |[a],_=>exact⟨a,rfl⟩|[],h=>simp at h
 |_::_::_,h=>simp at h;omega
def p9{α:Type}{l:List α}(h:(l.length:Int)=2):∃a b,l=[a,b]:=by
 match l,h with
 |[a,b],_=>exact⟨a,b,rfl⟩|[],h=>simp at h
 |[_],h=>simp at h
 |_::_::_::_,h=>simp at h;omega
def xz{t:Tm}(h:t.wt<=1000000000):jR FU t=some t.ok:=zv FU t (by rw[dO];exact h) h
def y':∀(n:Nat) (t:Fm),t.wt<=n->t.wt<=1000000000->lv n t=some t.ok:=by
 intro n
 induction n with
 |zero=>intro t h;have:=t.gX;omega
 |succ n j=>
  intro t h i;cases t with
  |mk k s ts l=>
   rw[Fm.ea] at h i;rw[lv,Fm.fV];simp only[Fm.dd,Fm.dn,Fm.fU,Fm.dR,c6,lN,r5,eW,ej,vY,kX,lO (t:=s) VW,cH,dv,e9]
   by_cases h1:k=1
   ·simp only[h1,if_true,Fm.node]
    by_cases g:(l.length:Int)=0
    ·have:=fE.1 g;subst this;cases f:s.rq with
     |false=>simp|true=>
      by_cases d:(ts.length:Int)=2
      ·obtain⟨a,b,rfl⟩:=p9 d;simp only[c_] at h i;simp only[d,if_true,iB,mc,cH];rw[xz (t:=a) VW,xz (t:=b) VW];cases c:a.ok<;>cases e:b.ok<;>simp[c,e]
      ·have c:¬ts.length=2:=VW
       simp[d,c]
    ·have f:¬l.length=0:=VW
     simp[g,f]
   ·simp only[h1,kY,Fm.node]
    by_cases g:k=2\/k=3
    ·simp only[g,if_true]
     by_cases f:(ts.length:Int)=0
     ·have:=fE.1 f;subst this;cases d:s.rq with
      |false=>simp|true=>
       by_cases c:(l.length:Int)=2
       ·obtain⟨a,b,rfl⟩:=p9 c;simp only[c_] at h i;simp only[c,if_true,iB,mc,cH];rw[j a VW VW,j b VW VW];cases e:a.ok<;>cases m:b.ok<;>simp[e,m]
       ·have e:¬l.length=2:=VW
        simp[c,e]
     ·have d:¬ts.length=0:=VW
      simp[f,d]
    ·simp only[g,kY];cases f:jz k with
     |false=>simp|true=>
      by_cases d:(ts.length:Int)=0
      ·have:=fE.1 d;subst this
       by_cases c:s.err=0
       ·by_cases e:(l.length:Int)=1
        ·obtain⟨a,rfl⟩:=iK e;simp only[c_] at h i;simp only[c,e,if_true,iB,cH];rw[j a VW VW];simp
        ·have m:¬l.length=1:=VW
         simp[c,e,m]
       ·simp[c]
      ·have c:¬ts.length=0:=VW
       simp[d,c]
def rF:∀(n:Nat) (t:Fm),t.acU<=n->t.acU<=1000000000->lk n t=some (t.acU:Int):=by
 intro n
 induction n with
 |zero=>intro t h;have:=t.dp;omega
 |succ n b=>
  intro t h c;cases t with
  |mk k s ts l=>
   rw[Fm.cN] at h c;have f:=Fm.ek l;have d:=Tm.ek ts;rw[lk];simp only[Fm.dd,Fm.fU,c6,db (l:=l) VW,db (l:=ts) VW,cX]
   have e:=pG (ρ:=Int) (F:=λ(j:Int) (x:Tm) (v:Int)=>cI (eM FU x) λy=>some (eL.next (dF .i64 v y))) Tm.acU ts 0 1 VW (by
    intro j x v a;have:=dh Tm.acU a;rw[nr FU x (by rw[dO];omega) VW]
    rfl)
   have k2:=pG (ρ:=Int) (F:=λ(j:Int) (x:Fm) (v:Int)=>cI (lk n x) λy=>some (eL.next (dF .i64 v y))) Fm.acU l 0 (1+c_ Tm.acU ts) VW (by
    intro j x v a;have:=dh Fm.acU a;rw[b x VW VW]
    rfl)
   rw[show(1:Int)=((1:Nat):Int)from rfl,e];simp only[cH,cU];rw[k2];simp[Fm.cN]
def lU{t:Fm}(h:t.wt<=1000000000):jS t=some t.err:=by
 have:=t.gC;unfold jS Fm.err;rw[y' FU t (by rw[dO];exact h) h,rF FU t (by rw[dO];omega) VW];cases t.ok with
 |false=>simp|true=>by_cases h1:4096<t.acU<;>simp[h1]<;>omega
def Fw(f:Fm)(h:f.wt<=1000000000):qZ f=some (Fm.node f.acS f.cP f.c9.length f.acT.length):=by
 cases f with
 |mk k s ts l=>
  rw[Fm.ea] at h;show qZ (.mk k s ts l)=some (Fm.node k s ts.length l.length)
  have c:(dg (ts.length:Int) 2&&dg (l.length:Int) 0)=(decide (ts.length=2)&&decide (l.length=0)):=by
   rw[DQ];simp only[ft,eW,oI];omega
  have d:(dg (ts.length:Int) 0&&dg (l.length:Int) 2)=(decide (ts.length=0)&&decide (l.length=2)):=by
   rw[DQ];simp only[ft,eW,oI];omega
  have e:(dg (ts.length:Int) 0&&dg (l.length:Int) 1)=(decide (ts.length=0)&&decide (l.length=1)):=by
   rw[DQ];simp only[ft,eW,oI];omega
  unfold qZ;simp only[Fm.dd,Fm.dn,Fm.fU,Fm.dR,c6,lN,oR,r5,eW,ej,kM (t:=s) VW,rR,cH,cJ,da,c,d,e];unfold Fm.node
  by_cases h1:k=1
  ·cases b:s.rq<;>simp[h1]
  ·by_cases b:k=2\/k=3
   ·cases a:s.rq<;>simp[h1,b]
   ·by_cases a:k=4\/k=5\/k=6\/k=7
    ·have g:jz k=true:=by simp[jz,a]
     by_cases i:s.err=0<;>simp[h1,b,a,i,g]
    ·have g:jz k=false:=by simp[jz,a]
     simp[h1,b,a,g]
def yA:∀(n:Nat) (t:Fm),t.wt<=n->t.wt<=1000000000->iP n t=some (if t.ok then((t.acU:Int),true)else(0,false)):=by
 intro n
 induction n with
 |zero=>intro t h;have:=t.gX;omega
 |succ n i=>
  intro t h g;cases t with
  |mk k s ts l=>
   have m:=Fw (.mk k s ts l) g;rw[Fm.ea] at h g;have r:=Fm.mQ l;have o:=Tm.mQ ts;have hn:c_ Tm.acU ts<=c_ Tm.wt ts:=jK λx _=>x.gC;have p:c_ Fm.acU l<=c_ Fm.wt l:=jK λx _=>x.gC
   have q:dN (λ(e:Int) (a:Tm) (b:Int)=>cT (iW FU a) λc d=>if d then some (eL.next (dF .i64 b c))else some (eL.ret ((0:Int),false))) ts 0 1=if ts.all Tm.ok then some (.inl ((1+c_ Tm.acU ts:Nat):Int))else some (.inr (0,false)):=by
    refine uw Tm.acU Tm.ok _ ts 0 1 VW ?_;intro j x v f;have:=dh Tm.wt f;rw[vD FU x (by rw[dO];omega) VW];cases x.ok<;>simp
   have k2:dN (λ(e:Int) (a:Fm) (b:Int)=>cT (iP n a) λc d=>if d then some (eL.next (dF .i64 b c))else some (eL.ret ((0:Int),false))) l 0 ((1+c_ Tm.acU ts:Nat):Int)=if l.all Fm.ok then some (.inl ((1+c_ Tm.acU ts+c_ Fm.acU l:Nat):Int))else some (.inr (0,false)):=by
    refine uw Fm.acU Fm.ok _ l 0 _ VW ?_;intro j x v f;have:=dh Fm.wt f;rw[i x VW VW];cases x.ok<;>simp
   rw[iP,m];simp only[Fm.dd,Fm.dn,Fm.fU,Fm.dR,c6,db (l:=l) VW,db (l:=ts) VW,cX,cH,q,Fm.fV,Fm.cN];cases h1:Fm.node k s ts.length l.length with
   |false=>simp|true=>
    cases u:ts.all Tm.ok with
    |false=>simp|true=>
     simp only[if_true,cH,cU,k2,Ai];cases w:l.all Fm.ok<;>simp
def pN{t:Fm}(h:t.wt<=1000000000):hB t=some (if t.err=0 then(t.acU:Int)else 0,t.err):=by
 unfold hB Fm.err;rw[yA FU t (by rw[dO];exact h) h];cases t.ok with
 |false=>simp|true=>
  by_cases h1:4096<t.acU
  ·simp[h1];omega
  ·simp[h1];omega
def nB{t:Fm}(h:t.wt<=1000000000):ju t=some t.err:=by
 unfold ju;rw[pN h];rfl
def Ig:∀(n:Nat) (t:Fm),t.wt<=n->t.wt<=1000000000->iq n t=some t:=by
 intro n
 induction n with
 |zero=>intro t h;have:=t.gX;omega
 |succ n c=>
  intro t h d;cases t with
  |mk k s ts l=>
   rw[Fm.ea] at h d;have f:=Fm.mQ l;have e:=Tm.mQ ts;rw[iq];simp only[Fm.dd,Fm.dn,Fm.fU,Fm.dR,c6,db (l:=l) VW,db (l:=ts) VW,cX,gT (t:=s) VW,cH];rw[hS id ts 0 [] aa_]
   ·simp only[cH,cU];rw[hS id l 0 [] aa_]
    ·simp
    ·intro j x v a b;have:=dh Fm.wt a;rw[c x VW VW];simp[dS (l:=v) (m:=[x]) (by simpa using b)]
   ·intro j x v a b;have:=dh Tm.wt a;rw[mM (t:=x) VW];simp[dS (l:=v) (m:=[x]) (by simpa using b)]
def kD{t:Fm}(h:t.wt<=1000000000):iq FU t=some t:=Ig FU t (by rw[dO];exact h) h
mutual
def Fm.has:Fm->Bool
 |.mk k _ _ l=>if k=1 then false else if k=2 then Fm.J4 l else if k=5 then true else Fm.E5 l
def Fm.J4:List Fm->Bool
 |[]=>false|f::l=>f.has||Fm.J4 l
def Fm.E5:List Fm->Bool
 |[]=>false|[f]=>f.has|_::f::l=>Fm.E5 (f::l)
end
def ON(k:Int)(a b:Ty):Ty×Bool×Int:=if(Ty.mk k [a,b]).err≠0 then(.mk 0 [],false,(Ty.mk k [a,b]).err)else(.mk k [a,b],true,0)
def ZM(first last:Ty×Bool×Int):Ty×Bool×Int:=
 if first.2.2≠0\/first.2.1=false then(last.1,last.2.1,first.2.2)else if last.2.1 then ON 3 first.1 last.1 else(first.1,true,0)
def Zs(first last:Ty×Bool×Int):Ty×Bool×Int:=
 if first.2.2≠0\/first.2.1=false then(last.1,true,first.2.2)else ON 4 first.1 last.1
def WU(k:Int)(s:Ty)(first last:Ty×Bool×Int):Ty×Bool×Int:=
 if last.2.2≠0 then(.mk 0 [],false,last.2.2)
 else if k=2 then ZM first last
 else if k=5 then(if last.2.1 then ON 3 s last.1 else(s,true,0))
 else if last.2.1 then(if k=3 then Zs first last else if k=4 then ON 4 s last.1 else(last.1,true,0))
 else(.mk 0 [],false,0)
def Wg:Ty×Bool×Int:=(.mk 0 [],false,0)
mutual
def Fm.ct:Fm->Ty×Bool×Int
 |.mk k s _ l=>if k=1 then Wg else WU k s (Fm.Zl l) (Fm.VJ l)
def Fm.Zl:List Fm->Ty×Bool×Int
 |[]=>Wg|f::_=>f.ct
def Fm.VJ:List Fm->Ty×Bool×Int
 |[]=>Wg|[f]=>f.ct|_::f::l=>Fm.VJ (f::l)
end
def Fm.Oy(k:Int)(s:Ty)(ts:List Tm)(a b:Fm):(Fm.mk k s ts [a,b]).has=if k=1 then false else if k=2 then a.has||b.has else if k=5 then true else b.has:=by
 rw[Fm.has];simp[Fm.J4,Fm.E5]
def Fm.OE(k:Int)(s:Ty)(ts:List Tm)(a:Fm):(Fm.mk k s ts [a]).has=if k=1 then false else if k=5 then true else a.has:=by
 rw[Fm.has];simp only[Fm.J4,Fm.E5,NS]
 by_cases b:k=2
 ·subst b;simp
 ·simp[b]
def Fm.has_eq(s:Ty)(ts:List Tm)(l:List Fm):(Fm.mk 1 s ts l).has=false:=by rw[Fm.has];simp
def Fm.ow{p:Fm->Prop}(h1:∀a b:Tm,a.ok=true->b.ok=true->p (.mk 1 (.mk 0 []) [a,b] []))
  (n:∀(k:Int) (a b:Fm),k=2\/k=3->a.ok=true->b.ok=true->p a->p b->p (.mk k (.mk 0 []) [] [a,b]))
  (o:∀(k:Int) (s:Ty) (a:Fm),k=4\/k=5\/k=6\/k=7->s.err=0->a.ok=true->p a->p (.mk k s [] [a])) (f:Fm) (g:f.ok=true):p f:=by
 induction f using Fm.ind with
 |h k s ts l i=>
  rw[Fm.fV] at g;simp only[ft,j7] at g;obtain⟨⟨hn,d⟩,c⟩:=g;unfold Fm.node at hn
  split at hn
  ·rename_i j;subst j;simp only[ft,oI,Ty.lB] at hn;obtain⟨⟨rfl,e⟩,m⟩:=hn;obtain⟨a,b,rfl⟩:=p9 (l:=ts) VW;have:=Z8.1 m;subst this;exact h1 a b (d a aa4) (d b aa4)
  ·split at hn
   ·rename_i j;simp only[ft,oI,Ty.lB] at hn;obtain⟨⟨rfl,e⟩,m⟩:=hn;obtain⟨a,b,rfl⟩:=p9 (l:=l) VW;have:=Z8.1 e;subst this;exact n k a b j (c a aa4) (c b aa4) (i a aa4 (c a aa4)) (i b aa4 (c b aa4))
   ·simp only[ft,oI] at hn;obtain⟨⟨⟨q,hs⟩,e⟩,m⟩:=hn;obtain⟨a,rfl⟩:=iK (l:=l) VW;have:=Z8.1 e;subst this;refine o k s a ?_ hs (c a aa4) (i a aa4 (c a aa4));simpa[jz] using q
theorem Ty.lJ{t:Ty}(h:t.err=0):t.ok=true/\t.acU<=64:=by
 unfold Ty.err at h
 split at h
 ·split at h
  ·omega
  ·exact⟨‹_›,VW⟩
 ·omega
theorem Ty.xS{t:Ty}(h:t.ok=true)(a:t.acU<=64):t.err=0:=by unfold Ty.err;rw[cO h,cK VW]
def Ty.ok_two{k:Int}(c:k=3\/k=4){a b:Ty}(d:a.ok=true)(e:b.ok=true):(Ty.mk k [a,b]).ok=true:=by
 rw[Ty.fV]
 have:¬(k=1\/k=2\/k=5):=VW
 simp[Ty.want,c,this,d,e]
theorem Ty.zR(k:Int)(a b:Ty):(Ty.mk k [a,b]).acU=1+a.acU+b.acU:=by rw[Ty.cN];simp[c_];omega
theorem Fm.fS{f:Fm}(h:f.err=0):f.ok=true/\f.acU<=4096:=by
 unfold Fm.err at h
 split at h
 ·split at h
  ·omega
  ·exact⟨‹_›,VW⟩
 ·omega
def Fm.Yt(f:Fm):Ty×Int:=if f.err≠0 then(.mk 0 [],f.err)else if f.ct.2.2≠0 then(.mk 0 [],f.ct.2.2)else(if f.has then f.ct.1 else .mk 5 [],0)
def C7:∀(n:Nat) (f:Fm),f.acU<=n->f.ok=true->iU n f=some f.has:=by
 intro n
 induction n with
 |zero=>intro f h;have:=f.dp;omega
 |succ n e=>
  intro f h q;refine Fm.ow (p:=λf=>f.acU<=n+1->iU (n+1) f=some f.has) ?_ ?_ ?_ f q h
  ·intro a b _ _ _;rw[iU,Fm.has_eq];rfl
  ·intro k a b r g t _ _ hn;rw[Fm.cN] at hn;simp only[c_] at hn;have d:=e a VW g;have i:=e b VW t
   have c:k≠1:=VW
   have j:k≠5:=VW
   have l:de [a,b] (dZ .i64 (di [a,b]) 1)=some b:=by
    rw[ed aa4 aa4];rfl
   have u:de [a,b] 0=some a:=rfl;have v:de [a,b] 1=some b:=rfl;rw[iU,Fm.Oy,cK c];simp only[Fm.dd,Fm.dn,eW,c,j,kY,l,u,v,cH,i,d,c6]
   by_cases o:k=2
   ·simp only[o,if_true];cases a.has<;>simp
   ·simp[o]
  ·intro k s a r hs g _ hn;rw[Fm.cN] at hn;simp only[c_] at hn;have d:=e a VW g
   have c:k≠1:=VW
   have m:k≠2:=VW
   have l:de [a] (dZ .i64 (di [a]) 1)=some a:=by
    rw[ed aa4 aa4];rfl
   rw[iU,Fm.OE,cK c];simp only[Fm.dd,Fm.dn,eW,c,m,kY,l,cH,d]
   by_cases w:k=5<;>simp[w]
def Dc(f:Fm)(h:f.wt<=1000000000):oE f=some (if f.err≠0 then(false,f.err)else(f.has,0)):=by
 unfold oE;rw[lU h];simp only[cH,da]
 by_cases he:f.err=0
 ·rw[C7 FU f (by rw[dO];have:=f.gC;omega) (Fm.fS he).1];simp[he]
 ·simp[he]
theorem Fm.xS{f:Fm}(h:f.ok=true)(a:f.acU<=4096):f.err=0:=by unfold Fm.err;rw[cO h,cK VW]
def Ty.nat:Ty:=.mk 1 []
def Ty.o6:Ty:=.mk 2 []
def Ty.unit:Ty:=.mk 5 []
def Ty.fn(a b:Ty):Ty:=.mk 4 [a,b]
def Ty.pr(a b:Ty):Ty:=.mk 3 [a,b]
def Ty.z:Ty:=.mk 0 []
inductive dG:List Ty->Tm->Ty->Prop
 |var {g t} (i:Nat):i<g.length->g[g.length-1-i]?=some t->dG g (.mk 1 i .z []) t|lam {g s b t}:(Ty.fn s t).err=0->dG (g++[s]) b t->dG g (.mk 2 0 s [b]) (.fn s t)|app {g f a s t}:dG g f (.fn s t)->dG g a s->dG g (.mk 3 0 .z [f,a]) t|zero {g}:dG g (.mk 4 0 .z []) .nat|succ {g a}:dG g a .nat->dG g (.mk 5 0 .z [a]) .nat|tN {g t b s n}:t.err=0->dG g b t->dG g s (.fn .nat (.fn t t))->dG g n .nat->dG g (.mk 6 0 t [b,s,n]) t|nil {g}:dG g (.mk 7 0 .z []) .o6|cons {g a b}:dG g a .nat->dG g b .o6->dG g (.mk 8 0 .z [a,b]) .o6|fold {g t b s n}:t.err=0->dG g b t->dG g s (.fn .nat (.fn .o6 (.fn t t)))->dG g n .o6->dG g (.mk 9 0 t [b,s,n]) t|pair {g a b s t}:(Ty.pr s t).err=0->dG g a s->dG g b t->dG g (.mk 10 0 .z [a,b]) (.pr s t)|fst {g a s t}:dG g a (.pr s t)->dG g (.mk 11 0 .z [a]) s|snd {g a s t}:dG g a (.pr s t)->dG g (.mk 12 0 .z [a]) t|unit {g}:dG g (.mk 13 0 .z []) .unit
theorem Ty.p0:Ty.z.rq=true:=rfl
def Ty.ss{k:Int}(c:k=3\/k=4){a b:Ty}(h:(Ty.mk k [a,b]).err=0):a.err=0/\b.err=0:=by grind[Ty.lJ,Ty.fV,Ty.zR,Ty.xS]
def dG.ok{g:List Ty}{x:Tm}{t:Ty}(h:dG g x t):x.ok=true:=by
 induction h with
 |var i h1 e=>grind[Tm.fV,Tm.node,gx,jr,Ty.p0]|lam h1 _ c=>have:=(Ty.ss (.inr rfl) h1).1;simp[Tm.fV,Tm.node,gx,jr,this,c]
 |app _ _ a b=>simp[Tm.fV,Tm.node,gx,jr,Ty.p0,a,b]|zero=>simp[Tm.fV,Tm.node,gx,jr,Ty.p0]|succ _ c=>simp[Tm.fV,Tm.node,gx,jr,Ty.p0,c]|tN h1 _ _ _ a b d=>grind[Tm.fV,Tm.node,gx,jr]|nil=>simp[Tm.fV,Tm.node,gx,jr,Ty.p0]|cons _ _ a b=>simp[Tm.fV,Tm.node,gx,jr,Ty.p0,a,b]|fold h1 _ _ _ a b d=>grind[Tm.fV,Tm.node,gx,jr]|pair _ _ _ a b=>simp[Tm.fV,Tm.node,gx,jr,Ty.p0,a,b]|fst _ c=>simp[Tm.fV,Tm.node,gx,jr,Ty.p0,c]|snd _ c=>simp[Tm.fV,Tm.node,gx,jr,Ty.p0,c]|unit=>simp[Tm.fV,Tm.node,gx,jr,Ty.p0]
def Tm.lT(t:Tm):∀{m n:Int},m<=n->t.acY m=true->t.acY n=true:=by
 induction t using Tm.ind with
 |h k i s l a=>grind[Tm.er]
def dG.acY{g:List Ty}{x:Tm}{t:Ty}(h:dG g x t):∀m:Int,((g.length+x.acU:Nat):Int)<=m->x.acY m=true:=by
 induction h with
 |var i h1 e=>grind[Tm.cN,c_,Tm.er]|lam _ _ c=>grind[Tm.cN,c_,Tm.er]|zero|nil|unit=>grind[Tm.cN,c_,Tm.er]|succ _ c|fst _ c|snd _ c=>grind[Tm.cN,c_,Tm.er]|app _ _ a b|cons _ _ a b|pair _ _ _ a b=>grind[Tm.cN,c_,Tm.er]|tN _ _ _ _ a b d|fold _ _ _ _ a b d=>grind[Tm.cN,c_,Tm.er]
def GC{α:Type}{f g:α->Nat}{c:Nat}{l:List α}(h:∀x∈l,f x<=c*g x):c_ f l<=c*c_ g l:=by
 induction l with
 |nil=>simp[c_]|cons x l a=>simp only[c_,Zb];have:=h x aa4;have:=a λy hy=>h y (by simp[hy]);omega
def Tm.iN(t:Tm)(h:t.ok=true):t.wt<=65*t.acU:=by
 induction t using Tm.ind with
 |h k i s l c=>
  rw[Tm.fV] at h;simp only[ft,j7] at h;rw[Tm.ea,Tm.cN,Zb];have h1:=GC λx b=>c x b (h.2 x b)
  have d:s.acU<=64:=by
   have:=h.1;simp only[Tm.node,ft] at this;have a:=this.2
   split at a
   ·simp only[oI] at a;exact(Ty.lJ a).2
   ·grind[Ty.lB,Ty.cN,c_]
  omega
def Fm.iN(f:Fm)(h:f.ok=true):f.wt<=65*f.acU:=by
 induction f using Fm.ind with
 |h k s ts l b=>
  rw[Fm.fV] at h;simp only[ft,j7] at h;rw[Fm.ea,Fm.cN,Zb,Zb];have h1:=GC λx a=>b x a (h.2 x a);have d:=GC (f:=Tm.wt) (g:=Tm.acU) (c:=65) (l:=ts) λx a=>x.iN (h.1.2 x a)
  have e:s.acU<=64:=by
   have:=h.1.1;unfold Fm.node at this
   split at this
   ·grind[Ty.lB,Ty.cN,c_]
   ·split at this
    ·grind[Ty.lB,Ty.cN,c_]
    ·simp only[ft,oI] at this;exact(Ty.lJ this.1.1.2).2
  omega
structure cV.wf (d:cV):Prop where
 len:d.l.length<=1000
 lo:0<=d.oU
 hi:d.oU<=d.l.length
def Pl(x n:Int)(h1:1<=n)(c:n<=1000000000):∃y,Gl x n=some y/\0<=y/\y<n:=by
 unfold Gl;simp only[SG (b:=n) VW];refine⟨_,rfl,?_⟩;unfold SW
 have e:(x.tmod n).natAbs<n.natAbs:=by
  rw[Int.natAbs_tmod];exact aaC _ VW
 rw[dI VW VW]
 have a:0<=x.tmod n+n:=VW
 exact⟨Int.tmod_nonneg _ a,P2 _ VW⟩
def jn(d:cV)(hd:d.wf)(n:Int)(h1:1<=n)(b:n<=1000000000):∃x a,eA d n=some (x,a)/\0<=x/\x<n/\a.wf:=by
 unfold eA;simp only[lN,r5,ki,ib,ej]
 by_cases c:n<1\/(d.l.length:Int)<=d.oU
 ·grind
 ·rw[cK c];obtain⟨y,hy,_⟩:=Jg (l:=d.l) hd.lo VW;obtain⟨z,e,f,g⟩:=Pl y n h1 b;rw[hy];simp only[cH,e];have:=hd.len;have:=hd.lo;rw[dI VW VW];exact⟨z,_,rfl,f,g,⟨hd.len,by show 0<=d.oU+1;omega,by show d.oU+1<=(d.l.length:Int);omega⟩⟩
def ep:gr=some .nat:=rfl
def fA:lM=some .o6:=rfl
def Hw:uQ=some .unit:=rfl
def xE{a b:Ty}(c:a.acU<=1000000000)(d:b.acU<=1000000000):ua a b=some (.pr a b):=by
 unfold ua;rw[gT c,gT d];rfl
def hQ{a b:Ty}(c:a.acU<=1000000000)(d:b.acU<=1000000000):j5 a b=some (.fn a b):=by
 unfold j5;rw[gT c,gT d];rfl
def Ty.R0:Ty.nat.ok=true:=by unfold Ty.nat;rw[Ty.fV];rfl
def Ty.QY:Ty.o6.ok=true:=by unfold Ty.o6;rw[Ty.fV];rfl
def Ty.Ov:Ty.unit.ok=true:=by unfold Ty.unit;rw[Ty.fV];rfl
def Ty.gd:Ty.nat.acU=1:=by unfold Ty.nat;rw[Ty.cN];rfl
def Ty.oH:Ty.o6.acU=1:=by unfold Ty.o6;rw[Ty.cN];rfl
def Ty.Gk:Ty.unit.acU=1:=by unfold Ty.unit;rw[Ty.cN];rfl
def Ty.iX(a b:Ty):(Ty.fn a b).acU=1+a.acU+b.acU:=Ty.zR _ _ _
def Ty.vd(a b:Ty):(Ty.pr a b).acU=1+a.acU+b.acU:=Ty.zR _ _ _
theorem S_(k:Nat)(h:k<=4):1<=2^k/\2^k<=16:=by
 have:k=0\/k=1\/k=2\/k=3\/k=4:=VW
 grind
def N5:∀(n k:Nat) (d:cV),k<n->k<=4->d.wf->∃t f,gI n d (k:Int)=some (t,f)/\t.ok=true/\t.acU+1<=2^(k+1)/\f.wf:=by
 intro n
 induction n with
 |zero=>intro k d h;omega|succ n s=>
  intro k d u j hd;obtain⟨x,d1,h1,v,w,g⟩:=jn d hd 7 VW VW;have y:=S_ k j
  have z:(2:Nat)^(k+1)=2*2^k:=by rw[P7];omega
  have c:=λf (l:cV.wf f)=>(⟨Ty.nat,f,rfl,Ty.R0,by rw[Ty.gd];omega,l⟩:∃t i,some (Ty.nat,f)=some (t,i)/\t.ok=true/\t.acU+1<=2^(k+1)/\i.wf);rw[gI];simp only[c6,h1,cJ,ep,fA,Hw,cH,lN,r5,eW,eV]
  split
  ·exact c d1 g
  split
  ·exact⟨.o6,d1,rfl,Ty.QY,by rw[Ty.oH];omega,g⟩
  split
  ·exact⟨.unit,d1,rfl,Ty.Ov,by rw[Ty.Gk];omega,g⟩
  have two:0<(k:Int)->∃a b d2 d3,gI n d1 (dZ .i64 (k:Int) 1)=some (a,d2)/\gI n d2 (dZ .i64 (k:Int) 1)=some (b,d3)/\a.ok=true/\b.ok=true/\a.acU+1<=2^k/\b.acU+1<=2^k/\d3.wf:=by
   intro e;obtain⟨m,rfl⟩:∃m,k=m+1:=⟨k-1,VW⟩
   grind[ed]
  split
  ·split
   ·rename_i e;obtain⟨a,b,d2,d3,a1,o,a2,p,a3,r,q⟩:=two e;rw[a1];simp only[cJ];rw[o];simp only[cJ];rw[xE VW VW];exact⟨_,_,rfl,Ty.ok_two (.inl rfl) a2 p,by rw[Ty.vd];omega,q⟩
   ·exact c d1 g
  split
  ·split
   ·rename_i e;obtain⟨a,b,d2,d3,a1,o,a2,p,a3,r,q⟩:=two e;rw[a1];simp only[cJ];rw[o];simp only[cJ];rw[hQ VW VW];exact⟨_,_,rfl,Ty.ok_two (.inr rfl) a2 p,by rw[Ty.iX];omega,q⟩
   ·exact c d1 g
  ·exact c d1 g
def wM(d:cV)(hd:d.wf)(k:Nat)(b:k<=4):∃t a,gI FU d (k:Int)=some (t,a)/\t.err=0/\t.acU+1<=2^(k+1)/\a.wf:=by
 obtain⟨t,a,h1,c,e,f⟩:=N5 FU k d (by rw[dO];omega) b hd
 grind[S_,Ty.xS]
def Of(g:List Ty)(t:Ty)(hg:g.length<=1000000)(hn:∀s∈g,s.acU<=1000000000):∃l,B8 g t=some l/\l.length<=g.length/\∀v∈l,∃i:Nat,v=i/\i<g.length/\g[g.length-1-i]?=some t:=by
 unfold B8;simp only[db (l:=g) VW,cX,c6]
 have key:∀(l:List Ty) (i:Nat) (v:List Int),i+l.length=g.length->v.length<=i->(∀x∈v,∃j:Nat,x=j/\j<g.length/\g[g.length-1-j]?=some t)->∃a,dN (ρ:=List Int) (λ(j:Int) (q:Ty) (v:List Int)=>cI (de g (dZ .i64 (dZ .i64 (di g) 1) j)) λx=>cI (eo FU x t) λy=>if y then fD (eJ v [j]) (some (eL.next (fa v [j])))else some (eL.next v)) l i v=some (.inl a)/\a.length<=g.length/\∀x∈a,∃j:Nat,x=j/\j<g.length/\g[g.length-1-j]?=some t:=by
  intro l
  induction l with
  |nil=>
   intro i v d k c;exact⟨v,rfl,by simp at d;omega,c⟩
  |cons y l f=>
   intro i v d k c;simp only[kN] at d
   have b:g.length-1-i<g.length:=VW
   have n:de g (dZ .i64 (dZ .i64 (di g) 1) (i:Int))=some g[g.length-1-i]:=by grind[ej,ed,im]
   rw[dJ];simp only[n,cH,gU (hn _ (GH b))];cases hs:Ty.nw g[g.length-1-i] t with
   |false=>
    simp only[oZ,kY,cH,dW];exact f (i+1) v VW VW c
   |true=>
    rw[Ty.mi] at hs;simp only[if_true,dS (l:=v) (m:=[(i:Int)]) aa_,cX,cH,dW,fx];refine f (i+1) (v++[(i:Int)]) VW aa_ ?_;intro x e;rcases qA.1 e with h|h
    ·exact c x h
    ·rw[yo] at h;exact⟨i,h,VW,by rw[oO b,hs]⟩
 obtain⟨a,h1,o,p⟩:=key g 0 [] aa4 aa4 aa4;rw[h1];exact⟨a,rfl,o,p⟩
def oi(g l:List Ty)(h:g.length+l.length<=1000000):lC g l=some (g++l):=by
 unfold lC;rw[dS aa_,dS aa_];simp
def De(n:Nat)(hn:n<=1000000):∃x,ql (n:Int)=some x/\∀g,dG g x .nat/\x.acU=n+1:=by
 unfold ql;rw[pz 4 [] (by simp[c_])];simp only[cH,c6]
 obtain⟨o,h1,l⟩:=ug (ρ:=Tm) (F:=Qz λ(h:Int) (i:Int) (v167:Int) (v168:Int) (j:List Ty) (k:List Tm)=>
   if kZ h 0 then some (eL.next (dZ .i64 h 1,5,0,0,[],[Tm.mk i v167 (Ty.mk v168 j) k]))else some (eL.AI (h,i,v167,v168,j,k)))
  (λs=>0<=s.1/\s.1<=n/\(∀g,dG g (Tm.mk s.2.1 s.2.2.1 (Ty.mk s.2.2.2.1 s.2.2.2.2.1) s.2.2.2.2.2) .nat)/\(Tm.mk s.2.1 s.2.2.1 (Ty.mk s.2.2.2.1 s.2.2.2.2.1) s.2.2.2.2.2).acU+s.1=n+1)
  (λs=>s.1.toNat)
  (λo=>match o with|.inl s=>(∀g,dG g (Tm.mk s.2.1 s.2.2.1 (Ty.mk s.2.2.2.1 s.2.2.2.2.1) s.2.2.2.2.2) .nat)/\(Tm.mk s.2.1 s.2.2.1 (Ty.mk s.2.2.2.1 s.2.2.2.2.1) s.2.2.2.2.2).acU=n+1|.inr _=>False)
  (by
   rintro⟨a,b,c,d,e,f⟩ ⟨h1,l,m,q⟩;simp only at h1 l m q
   by_cases p:0<a
   ·left;refine⟨_,by simp only[y9,eV,p,if_true];rfl,⟨?_,?_,?_,?_⟩,?_⟩
    ·rw[ed VW VW];show 0<=a-1;omega
    ·rw[ed VW VW];show a-1<=n;omega
    ·intro g;exact dG.succ (m g)
    all_goals grind[ed,Tm.cN,c_]
   ·right;left;refine⟨_,by simp only[y9,eV,p,kY];rfl,m,?_⟩
    have:a=0:=VW
    subst this
    simp only;omega)
  FU ((n:Int),4,0,0,[],[]) ⟨aa4,aa4,λg=>dG.zero,by rw[Tm.cN];simp[c_];omega⟩ (by rw[dO];show(n:Int).toNat<_;omega)
 simp only[Tm.dn,Tm.eP,Tm.dR,Ty.dn,Ty.dd,Tm.dd];rw[h1];cases o with
 |inr r=>exact l.elim|inl s=>
  obtain⟨a,b,c,d,e,f⟩:=s;exact⟨_,rfl,λg=>⟨l.1 g,l.2⟩⟩
def zM(n:Int)(b:0<=n)(hn:n<=4000):∃x,xD n=some x/\∀g,dG g x .nat/\(x.acU:Int)=n+1:=by
 obtain⟨k,rfl⟩:=XN b;obtain⟨x,h1,a⟩:=De k VW;unfold xD tP;simp only[ki,ib];rw[cK VW,cK VW,h1];exact⟨x,rfl,λg=>⟨(a g).1,by rw[(a g).2];simp⟩⟩
structure M6 (g:List Ty) (x:Tm) (t:Ty) (n:Nat):Prop where
 ty:dG g x t
 acU:x.acU<=n
def M6.wt{g:List Ty}{x:Tm}{t:Ty}{n:Nat}(h:M6 g x t n):x.wt<=65*n:=by
 have:=x.iN h.ty.ok;have:=h.acU;omega
def M6.mono{g:List Ty}{x:Tm}{t:Ty}{n m:Nat}(h:M6 g x t n)(hm:n<=m):M6 g x t m:=⟨h.ty,uJ h.acU hm⟩
def GL{k:Int}{a:Tm}(b:a.wt<=100000000):eF k [a]=some (.mk k 0 .z [a]):=pz k [a] (by simp[c_];omega)
def tc{k:Int}{a b:Tm}(c:a.wt<=100000000)(d:b.wt<=100000000):eF k [a,b]=some (.mk k 0 .z [a,b]):=pz k [a,b] (by simp[c_];omega)
def Dr{k:Int}:eF k []=some (.mk k 0 .z []):=pz k [] (by simp[c_])
def Ar{k:Int}{s:Ty}{a:Tm}(hs:s.acU<=1000000000)(b:a.wt<=100000000):kL k s [a]=some (.mk k 0 s [a]):=Fy k s [a] hs (by simp[c_];omega)
def BU{k:Int}{s:Ty}{a b c:Tm}(hs:s.acU<=1000000000)(d:a.wt<=100000000)(e:b.wt<=100000000)(f:c.wt<=100000000):kL k s [a,b,c]=some (.mk k 0 s [a,b,c]):=
 Fy k s [a,b,c] hs (by simp[c_];omega)
def JL{f a b:Tm}(c:f.wt<=10000000)(d:a.wt<=10000000)(e:b.wt<=10000000):AZ f [a,b]=some (.mk 3 0 .z [.mk 3 0 .z [f,a],b]):=by
 have g:(Tm.mk 3 0 .z [f,a]).wt<=30000000:=by rw[Tm.ea];have:Ty.z.acU=1:=rfl;simp[c_,this];omega
 unfold AZ
 simp only[db (l:=[a,b]) aa4,cX,c6,dJ,om,GU,Ty.ku,Tm.ku,tc (k:=3) (a:=f) (b:=a) VW VW,cH,dW,tc (k:=3) (a:=.mk 3 0 .z [f,a]) (b:=b) VW VW,cU]
def Ty.fL:Ty.nat.err=0:=Ty.xS Ty.R0 (by rw[Ty.gd];omega)
def Ty.oS:Ty.o6.err=0:=Ty.xS Ty.QY (by rw[Ty.oH];omega)
def Ty.FL:Ty.unit.err=0:=Ty.xS Ty.Ov (by rw[Ty.Gk];omega)
def Ty.xG{a b:Ty}(c:a.err=0)(d:b.err=0)(h:a.acU+b.acU<=63):(Ty.fn a b).err=0:=Ty.xS (Ty.ok_two (.inr rfl) (Ty.lJ c).1 (Ty.lJ d).1) (by rw[Ty.iX];omega)
def Ty.Ni{a b:Ty}(c:a.err=0)(d:b.err=0)(h:a.acU+b.acU<=63):(Ty.pr a b).err=0:=Ty.xS (Ty.ok_two (.inl rfl) (Ty.lJ c).1 (Ty.lJ d).1) (by rw[Ty.vd];omega)
def Fi(i:Nat):Tm:=.mk 1 i .z []
def lQ(s:Ty)(b:Tm):Tm:=.mk 2 0 s [b]
def iI(f a:Tm):Tm:=.mk 3 0 .z [f,a]
def xP:Tm:=.mk 4 0 .z []
def jL(a:Tm):Tm:=.mk 5 0 .z [a]
def OO(t:Ty)(a b c:Tm):Tm:=.mk 6 0 t [a,b,c]
def mW:Tm:=lQ .nat (lQ .nat (OO .nat (Fi 1) (lQ .nat (lQ .nat (jL (Fi 0)))) (Fi 0)))
def N3:Tm:=lQ .nat (OO .nat xP (lQ .nat (lQ .nat (Fi 1))) (Fi 0))
def Rq:Tm:=lQ .nat (lQ .nat (OO .nat (Fi 1) (lQ .nat (lQ .nat (iI N3 (Fi 0)))) (Fi 0)))
def Cv(i:Nat):ez (i:Int)=some (Fi i):=rfl
def uW{a:Tm}(b:a.wt<=100000000):kb a=some (lQ .nat a):=by
 unfold kb;rw[ep];simp only[cH];rw[Ar (by rw[Ty.gd];omega) b];rfl
def rec_eq{a b c:Tm}(d:a.wt<=100000000)(e:b.wt<=100000000)(f:c.wt<=100000000):sj a b c=some (OO .nat a b c):=by
 unfold sj;rw[ep];simp only[cH];rw[BU (by rw[Ty.gd];omega) d e f];rfl
def AD:si=some mW:=by
 unfold si;rw[show ez 1=some (Fi 1)from rfl,show ez 0=some (Fi 0)from rfl];simp only[cH];rw[GL aaK];simp only[cH];rw[uW aaK];simp only[cH];rw[uW aaK];simp only[cH];rw[rec_eq aaK aaK aaK];simp only[cH];rw[uW aaK];simp only[cH];rw[uW aaK];rfl
def G_:uV=some N3:=by
 unfold uV;rw[show ez 1=some (Fi 1)from rfl,show ez 0=some (Fi 0)from rfl,Dr];simp only[cH];rw[uW aaK];simp only[cH];rw[uW aaK];simp only[cH];rw[rec_eq aaK aaK aaK];simp only[cH];rw[uW aaK];rfl
def JD:wH=some Rq:=by
 unfold wH;rw[show ez 1=some (Fi 1)from rfl,show ez 0=some (Fi 0)from rfl,G_];simp only[cH];rw[tc aaK aaK];simp only[cH];rw[uW aaK];simp only[cH];rw[uW aaK];simp only[cH];rw[rec_eq aaK aaK aaK];simp only[cH];rw[uW aaK];simp only[cH];rw[uW aaK];rfl
def ZV{g:List Ty}{t:Ty}(i:Nat)(h:i<g.length)(a:g[g.length-1-i]?=some t):dG g (Fi i) t:=dG.var i h a
def ya{g:List Ty}{t:Ty}:dG (g++[t]) (Fi 0) t:=dG.var 0 aa4 aa4
def K0{g:List Ty}{s t:Ty}:dG (g++[t]++[s]) (Fi 1) t:=dG.var 1 aa4 aa4
def zc:(Ty.fn .nat .nat).err=0:=Ty.xG Ty.fL Ty.fL (by rw[Ty.gd];omega)
def CF:(Ty.fn .nat (Ty.fn .nat .nat)).err=0:=Ty.xG Ty.fL zc (by rw[Ty.iX,Ty.gd];omega)
def CZ(g:List Ty):dG g mW (.fn .nat (.fn .nat .nat)):=
 .lam CF (.lam zc (.tN Ty.fL K0 (.lam CF (.lam zc (.succ ya))) ya))
def Pr(g:List Ty):dG g N3 (.fn .nat .nat):=
 .lam zc (.tN Ty.fL .zero (.lam CF (.lam zc K0)) ya)
def Rz(g:List Ty):dG g Rq (.fn .nat (.fn .nat .nat)):=
 .lam CF (.lam zc (.tN Ty.fL K0 (.lam CF (.lam zc (.app (Pr _) ya))) ya))
def CE:mW.acU=9:=aaK
def L4:Rq.acU=16:=aaK
def rk{α β:Type}{G:Option β->Prop}(P:α->Prop){k:α->Option β}{b:(α->Option β)->Option β}(c:∀a,P a->G (k a))(d:∀j:α->Option β,(∀a,P a->G (j a))->G (b j)):G (df k b):=d k c
def GD{α γ β:Type}{G:Option β->Prop}(P:α->γ->Prop){k:α->γ->Option β}{b:(α->γ->Option β)->Option β}(d:∀a c,P a c->G (k a c))(e:∀j:α->γ->Option β,(∀a c,P a c->G (j a c))->G (b j)):G (df k b):=e k d
def tb(N:Nat):Nat->Nat
 |0=>3*N|k+1=>30+3*tb N k
def YV{N:Nat}(a:N<=20):∀k,k<=5->tb N k<=18300:=by
 intro k b
 have:k=0\/k=1\/k=2\/k=3\/k=4\/k=5:=VW
 rcases this with rfl|rfl|rfl|rfl|rfl|rfl<;>simp only[tb]<;>omega
def R9{N k:Nat}:3*N<=tb N k:=by
 induction k with
 |zero=>simp[tb]|succ k a=>grind[tb]
def jG(g:List Ty)(t:Ty)(b:Nat)(o:Option (Tm×cV)):Prop:=∃x a,o=some (x,a)/\a.wf/\M6 g x t b
def jG.of{g:List Ty}{t:Ty}{b:Nat}{x:Tm}{d:cV}(hd:d.wf)(h:dG g x t)(hn:x.acU<=b):jG g t b (some (x,d)):=⟨x,d,rfl,hd,h,hn⟩
structure pw (N:Nat) (g:List Ty):Prop where
 all:∀s∈g,s.err=0/\s.acU<=N
def pw.app{N:Nat}{g l:List Ty}(h:pw N g)(a:∀s∈l,s.err=0/\s.acU<=N):pw N (g++l):=
 ⟨λs hs=>by rcases qA.1 hs with h'|h';exact h.all s h';exact a s h'⟩
def Ty.qQ{t:Ty}(h:t.err=0):t=.nat\/t=.o6\/t=.unit\/(∃a b,t=.pr a b/\a.err=0/\b.err=0)\/(∃a b,t=.fn a b/\a.err=0/\b.err=0):=by
 cases t with
 |mk k l=>
  have h1:=(Ty.lJ h).1;rw[Ty.fV] at h1;simp only[ft,oI] at h1;have c:=h1.1;unfold Ty.want at c
  split at c
  ·rename_i d;injection c with c;have:=Z8.1 c.symm;subst this;rcases d with rfl|rfl|rfl
   ·exact .inl rfl
   ·exact .inr (.inl rfl)
   ·exact .inr (.inr (.inl rfl))
  ·split at c
   ·rename_i d;injection c with c;obtain⟨a,b,rfl⟩:=p9 (l:=l) VW;have:=Ty.ss d h;rcases d with rfl|rfl
    ·exact .inr (.inr (.inr (.inl ⟨a,b,rfl,this⟩)))
    ·exact .inr (.inr (.inr (.inr ⟨a,b,rfl,this⟩)))
   ·cases c
set_option maxHeartbeats 1000000 in
def Oe(N:Nat)(aL:1<=N)(hN:N<=20):∀(n:Nat) (dep:Int) (g:List Ty) (t:Ty) (d:cV),dep.toNat*(N+1)+t.acU<n->dep<=5->-1000000<=dep-t.acU->g.length+(3+N)*dep.toNat+t.acU<=1000->pw N g->t.err=0->t.acU<=N->d.wf->jG g t (if dep<=0 then 3*t.acU else tb N dep.toNat) (eY n d g t dep):=by
 intro n
 induction n with
 |zero=>intro dep g t d h;omega|succ n ih=>
  intro dep g t d hm aM aK hlen hg q p hd;have aN:=t.dp;have an:=(Ty.lJ q).2
  have deep:0<dep->∀P M O,P.length<=g.length+3->pw N P->M.err=0->M.acU<=N->O.wf->jG P M (tb N (dep.toNat-1)) (eY n O P M (dZ .i64 dep 1)):=by
   intro e P M O h1 S W v h5;obtain⟨k,rfl⟩:∃k:Nat,dep=(k+1:Nat):=⟨dep.toNat-1,VW⟩
   have Z:((k+1:Nat):Int).toNat=k+1:=aa4
   rw[Z] at hm hlen|-;rw[ed VW VW,show((k+1:Nat):Int)-1=(k:Int) by omega]
   have hmul:(k+1)*(N+1)=k*(N+1)+N+1:=by rw[xu];omega
   have aq:(3+N)*(k+1)=(3+N)*k+3+N:=by rw[Zb];omega
   obtain⟨x,d1,a1,a2,a3⟩:=ih (k:Int) P M O aa_ VW VW aa_ S W v h5;refine⟨x,d1,a1,a2,a3.mono ?_⟩;simp only[TZ]
   split
   ·have:k=0:=VW
    subst this;simp only[tb];omega
   ·simp
  have flat:dep<=0->∀P M O,P.length<=g.length+1->M.acU+1<=t.acU->pw N P->M.err=0->O.wf->jG P M (3*M.acU) (eY n O P M (dZ .i64 dep 1)):=by
   intro e P M O h1 h0 S W h5
   have Z:dep.toNat=0:=VW
   rw[Z] at hm hlen;rw[ed VW VW]
   have e2:(dep-1).toNat=0:=VW
   have:=ih (dep-1) P M O (by rw[e2];omega) VW VW (by rw[e2];omega) S W VW h5;rw[cO VW] at this;exact this
  have T:0<dep->(if dep<=0 then 3*t.acU else tb N dep.toNat)=30+3*tb N (dep.toNat-1):=by
   intro e;rw[cK VW];obtain⟨k,hk⟩:∃k,dep.toNat=k+1:=⟨dep.toNat-1,VW⟩;rw[hk];rfl
  have ar:0<dep->tb N (dep.toNat-1)<=18300:=λ_=>YV hN _ VW
  have aa:3*t.acU<=(if dep<=0 then 3*t.acU else tb N dep.toNat):=by
   split
   ·omega
   ·have:=R9 (N:=N) (k:=dep.toNat);omega
  generalize (if dep<=0 then 3*t.acU else tb N dep.toNat)=B at T aa|-
  have m:∀{g x t},0<dep->M6 g x t (tb N (dep.toNat-1))->x.wt<=1300000:=by
   intro g x t e h;have:=h.wt;have:=ar e;omega
  obtain⟨vs,aw,aO,ax⟩:=Of g t VW (λs hs=>by have:=(hg.all s hs).2;omega);rw[eY,aw];simp only[cH];refine GD (G:=jG g t B) (λa c=>c.wf/\(a=true->vs≠[])) ?_ ?_
  ·--a variable,or ab else
   rintro a d1 ⟨ad,ay⟩;cases a with
   |true=>
    simp only[if_true];have az:=ay rfl
    have aP:1<=vs.length:=by cases vs with|nil=>exact absurd rfl az|cons _ _=>simp
    obtain⟨x,d2,h1,S,W,v⟩:=jn d1 ad (di vs) aa_ aa_;rw[h1];simp only[cJ];obtain⟨y,hy,aA⟩:=Jg (l:=vs) S (by simpa using W);rw[hy];simp only[cH];obtain⟨i,rfl,aB,aC⟩:=ax y aA;rw[Cv];refine jG.of v (ZV i aB aC) ?_
    have:(Fi i).acU=1:=by unfold Fi;rw[Tm.cN];rfl
    omega
   |false=>
    simp only[oZ,kY];refine rk (G:=jG g t B) cV.wf ?_ ?_
    ·--by ah type
     intro d2 w;rcases Ty.qQ q with rfl|rfl|rfl|⟨a,b,rfl,ha,hb⟩|⟨a,b,rfl,ha,hb⟩
     ·--numbers
      simp only[show Ty.nat.acS=1 from rfl,eW,if_true];refine rk (G:=jG g .nat B) cV.wf ?_ ?_
      ·intro d3 X;obtain⟨x,d4,h1,S,W,v⟩:=jn d3 X 3 VW VW;rw[h1];simp only[cJ];obtain⟨y,aD,ai⟩:=zM x S VW;rw[aD];refine jG.of v (ai g).1 ?_;have:=(ai g).2;rw[Ty.gd] at aa;omega
      ·intro j R;simp only[eV]
       split
       ·rename_i e;have T:=T e;obtain⟨x,d4,h1,S,W,v⟩:=jn d2 w 5 VW VW;rw[h1];simp only[cJ,eW]
        split
        ·obtain⟨a,d5,a1,a2,a3⟩:=deep e g .nat d4 VW hg Ty.fL p v;rw[a1];simp only[cJ];rw[GL (by have:=m e a3;omega)];refine jG.of a2 (.succ a3.ty) ?_;have:=a3.acU;rw[Tm.cN];simp only[c_];omega
        split
        ·rw[AD];simp only[cH];obtain⟨a,d5,a1,a2,a3⟩:=deep e g .nat d4 VW hg Ty.fL p v;rw[a1];simp only[cJ];obtain⟨b,d6,A,C,o⟩:=deep e g .nat d5 VW hg Ty.fL p a2;rw[A];simp only[cJ];rw[JL aaK (by have:=m e a3;omega) (by have:=m e o;omega)];refine jG.of C (.app (.app (CZ g) a3.ty) o.ty) ?_;have:=a3.acU;have:=o.acU;have:=CE;rw[Tm.cN];simp only[c_,Tm.cN];omega
        split
        ·rw[JD];simp only[cH];obtain⟨a,d5,a1,a2,a3⟩:=deep e g .nat d4 VW hg Ty.fL p v;rw[a1];simp only[cJ];obtain⟨b,d6,A,C,o⟩:=deep e g .nat d5 VW hg Ty.fL p a2;rw[A];simp only[cJ];rw[JL aaK (by have:=m e a3;omega) (by have:=m e o;omega)];refine jG.of C (.app (.app (Rz g) a3.ty) o.ty) ?_;have:=a3.acU;have:=o.acU;have:=L4;rw[Tm.cN];simp only[c_,Tm.cN];omega
        ·exact R d4 v
       ·exact R d2 w
     ·--lists
      simp only[show Ty.o6.acS=2 from rfl,eW,if_true,show¬(2:Int)=1 by omega,kY];refine GD (G:=jG g .o6 B) (λa c=>c.wf/\(a=true->0<dep)) ?_ ?_
      ·rintro a d3 ⟨X,e⟩;cases a with
       |true=>
        have e:=e rfl;have T:=T e;simp only[if_true];rw[ep];simp only[cH];obtain⟨a,d5,a1,a2,a3⟩:=deep e g .nat d3 VW hg Ty.fL (by rw[Ty.gd];omega) X;rw[a1];simp only[cJ];obtain⟨b,d6,A,C,o⟩:=deep e g .o6 d5 VW hg Ty.oS p a2;rw[A];simp only[cJ];rw[tc (by have:=m e a3;omega) (by have:=m e o;omega)];refine jG.of C (.cons a3.ty o.ty) ?_;have:=a3.acU;have:=o.acU;rw[Tm.cN];simp only[c_];omega
       |false=>
        simp only[oZ,kY];rw[Dr];refine jG.of X .nil ?_;rw[Tm.cN];simp only[c_];omega
      ·intro j R;simp only[eV]
       split
       ·rename_i e;obtain⟨x,d4,h1,S,W,v⟩:=jn d2 w 2 VW VW;rw[h1];simp only[cJ];exact R _ d4 ⟨v,λ_=>e⟩
       ·exact R _ d2 ⟨w,λh=>by cases h⟩
     ·simp only[show Ty.unit.acS=5 from rfl,eW,show¬(5:Int)=1 by omega,show¬(5:Int)=2 by omega,show¬(5:Int)=3 by omega,show¬(5:Int)=4 by omega,kY];rw[Dr];refine jG.of w .unit ?_;rw[Tm.cN];simp only[c_];omega
     ·simp only[show(Ty.pr a b).acS=3 from rfl,show(Ty.pr a b).acT=[a,b] from rfl,eW,show¬(3:Int)=1 by omega,show¬(3:Int)=2 by omega,if_true,kY,dv,e9,iB,mc,cH];rw[Ty.vd] at p an aa
      by_cases e:0<dep
      ·have T:=T e;obtain⟨x,d5,a1,a2,a3⟩:=deep e g a d2 VW hg ha VW w;rw[a1];simp only[cJ];obtain⟨y,d6,A,C,o⟩:=deep e g b d5 VW hg hb VW a2;rw[A];simp only[cJ];rw[tc (by have:=m e a3;omega) (by have:=m e o;omega)];refine jG.of C (.pair q a3.ty o.ty) ?_;have:=a3.acU;have:=o.acU;rw[Tm.cN];simp only[c_];omega
      ·have aE:=Ty.vd a b;obtain⟨x,d5,a1,a2,a3⟩:=flat VW g a d2 VW VW hg ha w;rw[a1];simp only[cJ];obtain⟨y,d6,A,C,o⟩:=flat VW g b d5 VW VW hg hb a2;rw[A];simp only[cJ];have:=a3.acU;have:=o.acU;rw[tc (by have:=a3.wt;omega) (by have:=o.wt;omega)];refine jG.of C (.pair q a3.ty o.ty) ?_;rw[Tm.cN];simp only[c_];omega
     ·simp only[show(Ty.fn a b).acS=4 from rfl,show(Ty.fn a b).acT=[a,b] from rfl,eW,show¬(4:Int)=1 by omega,show¬(4:Int)=2 by omega,show¬(4:Int)=3 by omega,if_true,kY,dv,e9,iB,mc,cH];have aE:=Ty.iX a b;rw[oi g [a] aa_];simp only[cH];have Q:pw N (g++[a]):=hg.app (by intro s hs;rw[yo] at hs;subst hs;exact⟨ha,VW⟩)
      by_cases e:0<dep
      ·have T:=T e;obtain⟨x,d5,a1,a2,a3⟩:=deep e (g++[a]) b d2 aa4 Q hb VW w;rw[a1];simp only[cJ];rw[Ar VW (by have:=m e a3;omega)];refine jG.of a2 (.lam q a3.ty) ?_;have:=a3.acU;rw[Tm.cN];simp only[c_];omega
      ·obtain⟨x,d5,a1,a2,a3⟩:=flat VW (g++[a]) b d2 aa4 VW Q hb w;rw[a1];simp only[cJ];have:=a3.acU;rw[Ar VW (by have:=a3.wt;omega)];refine jG.of a2 (.lam q a3.ty) ?_;rw[Tm.cN];simp only[c_];omega
    ·--a aF,or one of ah context
     intro j R;simp only[eV]
     split
     ·rename_i e;have T:=T e;obtain⟨x,d2,h1,S,W,v⟩:=jn d1 ad 8 VW VW;rw[h1];simp only[cJ,eW]
      have leaf:∀d,cV.wf d->∃s O,gI FU d 0=some (s,O)/\s.err=0/\s.acU=1/\O.wf:=by
       intro d hd;obtain⟨s,O,c1,c2,c3,c4⟩:=wM d hd 0 VW;have:=s.dp;exact⟨s,O,c1,c2,VW,c4⟩
      split
      ·obtain⟨s,d3,s1,s2,s3,s4⟩:=leaf d2 v;rw[s1];simp only[cJ];rw[oi g [s] aa_];simp only[cH];obtain⟨a,d5,a1,a2,a3⟩:=deep e (g++[s]) t d3 aa4 (hg.app (by intro u hu;rw[yo] at hu;subst hu;exact⟨s2,VW⟩)) q p s4;rw[a1];simp only[cJ];rw[Ar VW (by have:=m e a3;omega)];simp only[cH];obtain⟨b,d6,A,C,o⟩:=deep e g s d5 VW hg s2 VW a2;rw[A];simp only[cJ];have w1:=m e a3;rw[tc (by rw[Tm.ea];simp only[c_];omega) (by have:=m e o;omega)];refine jG.of C (.app (.lam (Ty.xG s2 q VW) a3.ty) o.ty) ?_;have:=a3.acU;have:=o.acU;rw[Tm.cN];simp only[c_,Tm.cN];omega
      split
      ·obtain⟨s,d3,s1,s2,s3,s4⟩:=leaf d2 v;rw[s1];simp only[cJ];obtain⟨a,d5,a1,a2,a3⟩:=deep e g t d3 VW hg q p s4;rw[a1];simp only[cJ];obtain⟨b,d6,A,C,o⟩:=deep e g s d5 VW hg s2 VW a2;rw[A];simp only[cJ];have w1:=m e a3;have w2:=m e o;rw[tc VW VW];simp only[cH];rw[GL (by rw[Tm.ea];have:Ty.z.acU=1:=rfl;simp only[c_];omega)];refine jG.of C (.fst (.pair (Ty.Ni q s2 VW) a3.ty o.ty)) ?_;have:=a3.acU;have:=o.acU;rw[Tm.cN];simp only[c_,Tm.cN];omega
      split
      ·rw[ep];simp only[cH];rw[oi g [.nat,t] aa_];simp only[cH]
       have Q:pw N (g++[.nat,t]):=hg.app (by
        intro u hu;simp only[j0,tw,TI] at hu;rcases hu with rfl|rfl
        ·exact⟨Ty.fL,by rw[Ty.gd];omega⟩
        ·exact⟨q,p⟩)
       obtain⟨a,d5,a1,a2,a3⟩:=deep e (g++[.nat,t]) t d2 aa4 Q q p v;rw[a1];simp only[cJ];have w1:=m e a3;have nn:=Ty.gd;rw[Ar VW VW];simp only[cH];rw[Ar VW (by rw[Tm.ea];simp only[c_];omega)];simp only[cH];obtain⟨b,d6,A,C,o⟩:=deep e g t d5 VW hg q p a2;rw[A];simp only[cJ];obtain⟨y,d7,y1,y2,y3,y4⟩:=jn d6 C 3 VW VW;rw[y1];simp only[cJ];obtain⟨z,z1,z2⟩:=zM y y2 VW;rw[z1];simp only[cH];have w2:=m e o;have zn:=(z2 g).2;have zw:=z.iN (z2 g).1.ok
       have Z:(Tm.mk 2 0 .nat [Tm.mk 2 0 t [a]]).wt<=2000000:=by rw[Tm.ea];simp only[c_,Tm.ea];omega
       rw[BU VW VW VW VW];have U:(Ty.fn t t).err=0:=Ty.xG q q VW;refine jG.of y4 (.tN q o.ty (.lam (Ty.xG Ty.fL U (by rw[Ty.iX];omega)) (.lam U (by simpa using a3.ty))) (z2 g).1) ?_;have:=a3.acU;have:=o.acU;rw[Tm.cN];simp only[c_,Tm.cN];omega
      split
      ·rw[ep,fA];simp only[cH];rw[oi g [.nat,.o6,t] aa_];simp only[cH]
       have Q:pw N (g++[.nat,.o6,t]):=hg.app (by
        intro u hu;simp only[j0,tw,TI] at hu;rcases hu with rfl|rfl|rfl
        ·exact⟨Ty.fL,by rw[Ty.gd];omega⟩
        ·exact⟨Ty.oS,by rw[Ty.oH];omega⟩
        ·exact⟨q,p⟩)
       obtain⟨a,d5,a1,a2,a3⟩:=deep e (g++[.nat,.o6,t]) t d2 aa4 Q q p v;rw[a1];simp only[cJ];have w1:=m e a3;have nn:=Ty.gd;have ln:=Ty.oH;rw[Ar VW VW];simp only[cH];rw[Ar VW (by rw[Tm.ea];simp only[c_];omega)];simp only[cH];rw[Ar VW (by rw[Tm.ea];simp only[c_,Tm.ea];omega)];simp only[cH];obtain⟨b,d6,A,C,o⟩:=deep e g t d5 VW hg q p a2;rw[A];simp only[cJ];obtain⟨c,d7,c1,c2,c3⟩:=deep e g .o6 d6 VW hg Ty.oS VW C;rw[c1];simp only[cJ];have w2:=m e o;have w3:=m e c3
       have Z:(Tm.mk 2 0 .nat [Tm.mk 2 0 .o6 [Tm.mk 2 0 t [a]]]).wt<=2000000:=by rw[Tm.ea];simp only[c_,Tm.ea];omega
       rw[BU VW VW VW VW];have U:(Ty.fn t t).err=0:=Ty.xG q q VW;have Y:(Ty.fn .o6 (Ty.fn t t)).err=0:=Ty.xG Ty.oS U (by rw[Ty.iX];omega);refine jG.of c2 (.fold q o.ty (.lam (Ty.xG Ty.fL Y (by rw[Ty.iX,Ty.iX];omega)) (.lam Y (.lam U (by simpa using a3.ty)))) c3.ty) ?_;have:=a3.acU;have:=o.acU;have:=c3.acU;rw[Tm.cN];simp only[c_,Tm.cN];omega
      split
      ·obtain⟨s,d3,s1,s2,s3,s4⟩:=leaf d2 v;rw[s1];simp only[cJ];obtain⟨a,d5,a1,a2,a3⟩:=deep e g s d3 VW hg s2 VW s4;rw[a1];simp only[cJ];obtain⟨b,d6,A,C,o⟩:=deep e g t d5 VW hg q p a2;rw[A];simp only[cJ];have w1:=m e a3;have w2:=m e o;rw[tc VW VW];simp only[cH];rw[GL (by rw[Tm.ea];have:Ty.z.acU=1:=rfl;simp only[c_];omega)];refine jG.of C (.snd (.pair (Ty.Ni s2 q VW) a3.ty o.ty)) ?_;have:=a3.acU;have:=o.acU;rw[Tm.cN];simp only[c_,Tm.cN];omega
      split
      ·--a function of ah context
       rw[db VW,cX];simp only[c6]
       rcases I' (λ_:Unit=>True) (λr:Tm×cV=>jG g t B (some r)) (F:=λ(E:Int) (aG:Ty) (_:Unit)=>
         cI (de g (dZ .i64 (dZ .i64 (di g) 1) E)) λD=>
          if D.acS=4 then cI (de D.acT 1) λae=>cI (eo FU ae t) λaf=>
           if af then cI (ez E) λH=>cI (de D.acT 0) λI=>cT (eY n d2 g I (dZ .i64 dep 1)) λJ K=>
            cI (eF 3 [H,J]) λL=>some (eL.ret (L,K))
           else some (eL.next ())
          else if false then cI (ez E) λH=>cI (de D.acT 0) λI=>cT (eY n d2 g I (dZ .i64 dep 1)) λJ K=>
            cI (eF 3 [H,J]) λL=>some (eL.ret (L,K))
           else some (eL.next ())) g 0 () trivial (by
        intro k u s hk _;have aH:k<g.length:=(kj.1 hk).1
        have V:g.length-1-k<g.length:=VW
        have Z:de g (dZ .i64 (dZ .i64 (di g) 1) ((0+k:Nat):Int))=some g[g.length-1-k]:=by
         rw[r_,ej,ed (a:=(g.length:Int)) (b:=1) VW VW,ed VW VW,show(g.length:Int)-1-(k:Int)=((g.length-1-k:Nat):Int) by omega,im];simp[V]
        simp only[Z,cH];have hf:=hg.all _ (GH V);have ak:g[g.length-1-k]?=some g[g.length-1-k]:=oO V;generalize g[g.length-1-k]=f at hf ak|-;rcases Ty.qQ hf.1 with rfl|rfl|rfl|⟨a,b,rfl,ha,hb⟩|⟨a,b,rfl,ha,hb⟩
        ·left;exact⟨(),rfl,trivial⟩
        ·left;exact⟨(),rfl,trivial⟩
        ·left;exact⟨(),rfl,trivial⟩
        ·left;exact⟨(),rfl,trivial⟩
        ·simp only[show(Ty.fn a b).acS=4 from rfl,show(Ty.fn a b).acT=[a,b] from rfl,eW,if_true,dv,e9,iB,mc,cH];have aI:=hf.2;rw[Ty.iX] at aI;rw[gU VW];simp only[cH];cases hs:b.nw t with
         |false=>left;exact⟨(),rfl,trivial⟩|true=>
          rw[Ty.mi] at hs;subst hs;right;simp only[if_true,r_];rw[Cv];simp only[cH];obtain⟨y,d5,a1,a2,a3⟩:=deep e g a d2 VW hg ha VW v;rw[a1];simp only[cJ];have w1:=m e a3
          have e2:(Fi k).wt=2:=by unfold Fi;rw[Tm.ea];rfl
          rw[tc VW VW];refine⟨_,rfl,jG.of a2 (.app (ZV k aH ak) a3.ty) ?_⟩;have:=a3.acU
          have e3:(Fi k).acU=1:=by unfold Fi;rw[Tm.cN];rfl
          rw[Tm.cN];simp only[c_];omega)with⟨s,hs,_⟩|⟨r,hr,aJ⟩
       ·rw[hs];exact R d2 v
       ·rw[hr];exact aJ
      ·exact R d2 v
     ·exact R d1 ad
  ·intro j R;simp only[eV,ej]
   split
   ·rename_i e;obtain⟨x,d2,h1,S,W,v⟩:=jn d hd 3 VW VW;rw[h1];simp only[cJ];exact R _ d2 ⟨v,λ_ h=>by subst h;simp at e⟩
   ·exact R _ d ⟨hd,λh=>by cases h⟩
inductive j1:List Ty->Fm->Prop
 |eq {g a b}:dG g a .nat->dG g b .nat->j1 g (.mk 1 .z [a,b] [])|two {g k a b}:k=2\/k=3->j1 g a->j1 g b->j1 g (.mk k .z [] [a,b])|q {g k s a}:k=4\/k=5\/k=6\/k=7->s.err=0->j1 (g++[s]) a->j1 g (.mk k s [] [a])
def j1.ok{g:List Ty}{f:Fm}(h:j1 g f):f.ok=true:=by
 induction h with
 |eq h1 c=>simp[Fm.fV,Fm.node,Ty.p0,h1.ok,c.ok]|two d _ _ e i=>
  rename_i k a b _ _
  have:¬k=1:=VW
  simp[Fm.fV,Fm.node,Ty.p0,d,this,e,i]
 |q d hs _ j=>
  rename_i k s a _
  have h1:¬k=1:=VW
  have c:¬(k=2\/k=3):=VW
  have l:jz k=true:=by simp[jz,d]
  simp[Fm.fV,Fm.node,h1,c,l,hs,j]
def Bx{a b:Tm}(c:a.wt<=1000000000)(d:b.wt<=1000000000):kv a b=some (.mk 1 .z [a,b] []):=by
 unfold kv;rw[mM c,mM d];rfl
def F4{k:Int}{a b:Fm}(c:a.wt<=1000000000)(d:b.wt<=1000000000):nq k a b=some (.mk k .z [] [a,b]):=by
 unfold nq;rw[kD c,kD d];rfl
def Dz{k:Int}{s:Ty}{a:Fm}(hs:s.acU<=1000000000)(b:a.wt<=1000000000):iZ k s a=some (.mk k s [] [a]):=by
 unfold iZ;rw[gT hs,kD b];rfl
def fb:Nat->Nat
 |0=>115|k+1=>1+2*fb k
def aaE:∀k,k<=5->fb k<=3711:=by
 intro k a
 have:k=0\/k=1\/k=2\/k=3\/k=4\/k=5:=VW
 rcases this with rfl|rfl|rfl|rfl|rfl|rfl<;>decide
structure DN (g:List Ty) (f:Fm) (n:Nat):Prop where
 ty:j1 g f
 acU:f.acU<=n
def DN.wt{g:List Ty}{f:Fm}{n:Nat}(h:DN g f n):f.wt<=65*n:=by
 have:=f.iN h.ty.ok;have:=h.acU;omega
theorem DN.err{g:List Ty}{f:Fm}{n:Nat}(h:DN g f n)(hn:n<=4096):f.err=0:=Fm.xS h.ty.ok (by have:=h.acU;omega)
def tu(g:List Ty)(b:Nat)(o:Option (Fm×cV)):Prop:=∃x a,o=some (x,a)/\a.wf/\DN g x b
def tu.of{g:List Ty}{b:Nat}{x:Fm}{d:cV}(hd:d.wf)(h:j1 g x)(hn:x.acU<=b):tu g b (some (x,d)):=⟨x,d,rfl,hd,h,hn⟩
def F1(N:Nat)(b:1<=N)(e:N<=20)(dep:Nat)(a:dep<=5)(g:List Ty)(t:Ty)(d:cV)(i:g.length<=600)(hg:pw N g)(f:t.err=0)(c:t.acU<=N)(hd:d.wf):jG g t (tb N dep) (eY FU d g t (dep:Int)):=by
 have h1:dep*(N+1)<=5*21:=Ts a VW;have j:(3+N)*dep<=23*5:=Ts VW a;obtain⟨x,h,a1,a2,a3⟩:=Oe N b e FU (dep:Int) g t d (by rw[dO];simp;omega) VW VW aa_ hg f c hd;refine⟨x,h,a1,a2,a3.mono ?_⟩
 split
 ·have:dep=0:=VW
  subst this;simp only[tb];omega
 ·simp
def vN:∀(n k:Nat) (g:List Ty) (d:cV),k<n->k<=5->g.length+k<=500->pw 3 g->d.wf->tu g (fb k) (fJ n d g (k:Int)):=by
 intro n
 induction n with
 |zero=>intro k g d h;omega|succ n H=>
  intro k g d P I hlen hg hd;rw[fJ];refine rk (G:=tu g (fb k)) cV.wf ?_ ?_
  ·intro d1 J;rw[ep];simp only[cH];obtain⟨a,d2,a1,a2,a3⟩:=F1 3 VW VW 1 VW g .nat d1 VW hg Ty.fL (by rw[Ty.gd];omega) J;rw[show((1:Nat):Int)=1 from rfl] at a1;rw[a1];simp only[cJ];obtain⟨b,d3,C,K,f⟩:=F1 3 VW VW 1 VW g .nat d2 VW hg Ty.fL (by rw[Ty.gd];omega) a2;rw[show((1:Nat):Int)=1 from rfl] at C;rw[C];simp only[cJ];have e:tb 3 1=57:=rfl;rw[e] at a3 f;rw[Bx (by have:=a3.wt;omega) (by have:=f.wt;omega)];refine tu.of K (.eq a3.ty f.ty) ?_;have:=a3.acU;have:=f.acU
   have U:115<=fb k:=by
    clear P I hlen H
    induction k with
    |zero=>simp[fb]|succ k H=>simp only[fb];omega
   rw[Fm.cN];simp only[c_];omega
  ·intro j M;simp only[eV]
   split
   ·rename_i N;obtain⟨m,rfl⟩:∃m,k=m+1:=⟨k-1,VW⟩
    have Q:dZ .i64 ((m+1:Nat):Int) 1=(m:Int):=by rw[ed VW VW];omega
    have R:=aaE m VW
    have deep:∀l D,l.length<=g.length+1->pw 3 l->D.wf->tu l (fb m) (fJ n D l (dZ .i64 ((m+1:Nat):Int) 1)):=by
     intro l D h1 E O;rw[Q];exact H m l D VW VW VW E O
    have ctx:∀s:Ty,s.err=0->s.acU<=3->pw 3 (g++[s]):=λs h1 E=>hg.app (by intro u hu;rw[yo] at hu;subst hu;exact⟨h1,E⟩);obtain⟨x,d2,h1,E,O,F⟩:=jn d hd 9 VW VW;rw[h1];simp only[cJ,lN,r5,eW]
    have two:∀c:Int,c=2\/c=3->tu g (fb (m+1)) (cT (fJ n d2 g (dZ .i64 ((m+1:Nat):Int) 1)) λo d317=>cT (fJ n d317 g (dZ .i64 ((m+1:Nat):Int) 1)) λp d321=>cI (nq c o p) λr=>some (r,d321)):=by
     intro c t;obtain⟨a,d3,a1,a2,a3⟩:=deep g d2 VW hg F;rw[a1];simp only[cJ];obtain⟨b,d4,C,K,f⟩:=deep g d3 VW hg a2;rw[C];simp only[cJ];rw[F4 (by have:=a3.wt;omega) (by have:=f.wt;omega)];refine tu.of K (.two t a3.ty f.ty) ?_;have:=a3.acU;have:=f.acU;rw[Fm.cN];simp only[c_,fb];omega
    split
    ·exact two 2 (.inl rfl)
    split
    ·exact two 3 (.inr rfl)
    have one:∀c:Int,c=4\/c=5->tu g (fb (m+1)) (cT (gI FU d2 1) λi v=>cI (lC g [i]) λw=>cT (fJ n v w (dZ .i64 ((m+1:Nat):Int) 1)) λz A=>cI (iZ c i z) λB=>some (B,A)):=by
     intro c t;obtain⟨s,d3,s1,s2,S,L⟩:=wM d2 F 1 VW;rw[show((1:Nat):Int)=1 from rfl] at s1;rw[s1];simp only[cJ];rw[oi g [s] aa_];simp only[cH];obtain⟨a,d4,a1,a2,a3⟩:=deep (g++[s]) d3 aa4 (ctx s s2 VW) L;rw[a1];simp only[cJ];rw[Dz VW (by have:=a3.wt;omega)];refine tu.of a2 (.q VW s2 a3.ty) ?_;have:=a3.acU;rw[Fm.cN];simp only[c_,fb];omega
    split
    ·exact one 4 (.inl rfl)
    split
    ·exact one 5 (.inr rfl)
    split
    ·obtain⟨s,d3,s1,s2,S,L⟩:=wM d2 F 0 VW;rw[show((0:Nat):Int)=0 from rfl] at s1;rw[s1];simp only[cJ];obtain⟨y,d5,T,V,y3,y4⟩:=jn d3 L 2 VW VW;rw[T];simp only[cJ];rw[oi g [s] aa_];simp only[cH];obtain⟨a,d4,a1,a2,a3⟩:=deep (g++[s]) d5 aa4 (ctx s s2 VW) y4;rw[a1];simp only[cJ];rw[dI VW VW,Dz VW (by have:=a3.wt;omega)];refine tu.of a2 (.q VW s2 a3.ty) ?_;have:=a3.acU;rw[Fm.cN];simp only[c_,fb];omega
    ·exact M d2 F
   ·exact M d hd
def yG(k:Nat)(a:k<=5)(g:List Ty)(d:cV)(b:g.length<=400)(hg:pw 3 g)(hd:d.wf):tu g (fb k) (fJ FU d g (k:Int)):=
 vN FU k g d (by rw[dO];omega) a VW hg hd
def H3(d:cV)(hd:d.wf):∃g h,vl d=some (g,h)/\h.wf/\g.length<=3/\pw 3 g:=by
 unfold vl;obtain⟨x,d1,h1,j,p,k⟩:=jn d hd 4 VW VW;rw[h1];simp only[cJ,c6]
 obtain⟨o,m,f⟩:=ug (ρ:=List Ty×cV) (F:=Mp λ(v218:List Ty) (a:Int) (b:cV)=>
   if kZ a 0 then cT (gI FU b 1) λc d278=>fD (eJ v218 [c])<|some (eL.next (fa v218 [c],dZ .i64 a 1,d278))else some (eL.AI (v218,a,b)))
  (λs=>0<=s.2.1/\(s.1.length:Int)+s.2.1<=3/\pw 3 s.1/\s.2.2.wf) (λs=>s.2.1.toNat)
  (λo=>match o with|.inl s=>s.1.length<=3/\pw 3 s.1/\s.2.2.wf|.inr _=>False)
  (by
   rintro⟨l,i,e⟩ ⟨i1,i2,i3,i4⟩;simp only at i1 i2 i3 i4
   by_cases hi:0<i
   ·left;obtain⟨s,d3,s1,s2,q,n⟩:=wM e i4 1 VW;rw[show((1:Nat):Int)=1 from rfl] at s1;refine⟨(l++[s],i-1,d3),?_,⟨?_,?_,?_,n⟩,?_⟩
    ·simp only[tv,eV,hi,if_true,s1,cJ];rw[dS aa_,cX,ed VW VW];rfl
    ·show 0<=i-1;omega
    ·simp;omega
    ·exact i3.app (by intro u hu;rw[yo] at hu;subst hu;exact⟨s2,VW⟩)
    ·show(i-1).toNat<i.toNat;omega
   ·right;left
    exact⟨(l,i,e),by simp only[tv,eV,hi,kY],by simp only;omega,i3,i4⟩)
  FU ([],x,d1) ⟨j,aa_,⟨aa4⟩,k⟩ (by rw[dO];show x.toNat<_;omega)
 rw[m];cases o with
 |inr r=>exact f.elim|inl s=>
  obtain⟨l,i,e⟩:=s;exact⟨l,e,rfl,f.2.2,f.1,f.2.1⟩
def HP(d:cV)(hd:d.wf):∃q c,sC d=some (q,c)/\c.wf/\q.acW.length<=3/\pw 3 q.acW/\q.acZ.length<=2/\∀f∈q.acZ,DN q.acW f (fb 2):=by
 unfold sC;obtain⟨g,d0,g1,g2,g3,g4⟩:=H3 d hd;rw[g1];simp only[cJ];obtain⟨x,d1,h1,j,t,k⟩:=jn d0 g2 3 VW VW;rw[h1];simp only[cJ,c6]
 obtain⟨o,m,b⟩:=ug (ρ:=Sq×cV) (F:=Mp λ(v226:Int) (v227:List Fm) (v228:cV)=>
   if kZ v226 0 then cT (fJ FU v228 g 2) λa d286=>fD (eJ v227 [a])<|some (eL.next (dZ .i64 v226 1,fa v227 [a],d286))else some (eL.AI (v226,v227,v228)))
  (λs=>0<=s.1/\(s.2.1.length:Int)+s.1<=2/\(∀f∈s.2.1,DN g f (fb 2))/\s.2.2.wf) (λs=>s.1.toNat)
  (λo=>match o with|.inl s=>s.2.1.length<=2/\(∀f∈s.2.1,DN g f (fb 2))/\s.2.2.wf|.inr _=>False)
  (by
   rintro⟨i,l,e⟩ ⟨i1,i2,i3,i4⟩;simp only at i1 i2 i3 i4
   by_cases hi:0<i
   ·left;obtain⟨s,d3,s1,s2,n⟩:=yG 2 VW g e VW g4 i4;rw[show((2:Nat):Int)=2 from rfl] at s1;refine⟨(i-1,l++[s],d3),?_,⟨?_,?_,?_,s2⟩,?_⟩
    ·simp only[tv,eV,hi,if_true,s1,cJ];rw[dS aa_,cX,ed VW VW];rfl
    ·show 0<=i-1;omega
    ·simp;omega
    ·intro f p;rcases qA.1 p with h|h
     ·exact i3 f h
     ·rw[yo] at h;subst h;exact n
    ·show(i-1).toNat<i.toNat;omega
   ·right;left
    exact⟨(i,l,e),by simp only[tv,eV,hi,kY],by simp only;omega,i3,i4⟩)
  FU (x,[],d1) ⟨j,aa_,aa4,k⟩ (by rw[dO];show x.toNat<_;omega)
 rw[m];cases o with
 |inr r=>exact b.elim|inl s=>
  obtain⟨i,l,e⟩:=s;exact⟨⟨g,l⟩,e,rfl,b.2.2,g3,g4,b.1,b.2.1⟩
def XR(l:List Int)(h:l.length<=1000):(cV.mk l 0).wf:=⟨h,aa4,aa4⟩
def wh(l:List Ty):Int:=if 16<l.length then 3 else fK (l.map Ty.err)
def wx(l:List Ty)(d:l.length<=1000000)(h:∀t∈l,t.acU<=1000000000):m0 l=some (wh l):=by
 unfold m0 wh;simp only[eV,ej,db (l:=l) VW,cX,c6]
 by_cases h1:16<l.length
 ·rw[cO VW,cO h1]
 ·rw[cK VW,cK h1]
  have key:=ka (F:=λ(j:Int) (x:Ty) (_:Unit)=>cI (ll x) λa=>if dw a 0 then some (eL.ret a)else some (eL.next ())) Ty.err l 0 (by
   intro j x c;rw[y5 (h x c)]
   simp only[cH,da])
  simp only[da] at key|-;rw[key]
  by_cases b:fK (l.map Ty.err)=0
  ·simp[b]
  ·simp[b]
def sx(l:List Ty)(d:l.length<=1000000)(h:∀t∈l,t.acU<=1000000000):lh l=some (wh l):=by
 unfold lh wh;simp only[eV,ej,db (l:=l) VW,cX,c6]
 by_cases h1:16<l.length
 ·rw[cO VW,cO h1]
 ·rw[cK VW,cK h1]
  have key:=ka (F:=λ(j:Int) (x:Ty) (_:Unit)=>cI (ig x) λa=>if dw a 0 then some (eL.ret a)else some (eL.next ())) Ty.err l 0 (by
   intro j x c;rw[lO (h x c)]
   simp only[cH,da])
  simp only[da] at key|-;rw[key]
  by_cases b:fK (l.map Ty.err)=0
  ·simp[b]
  ·simp[b]
def NU{α:Type}{l:List α}{i:Nat}{x:α}{m:List α}(h:l.drop i=x::m):i<l.length/\l[i]?=some x/\l.drop (i+1)=m:=by
 have a:i<l.length:=by
  rcases qu i l.length with h'|h'
  ·exact h'
  ·rw[Da h'] at h;cases h
 rw[JK a] at h;injection h with h1 b;exact⟨a,by rw[oO a,h1],b⟩
def wz:∀(n:Nat) (a b:Ty),a.acU<=n->a.acU<=1000000000->∃r,fP n a b=some r/\(r=true↔a=b):=by
 intro n
 induction n with
 |zero=>intro t b h;have:=t.dp;omega
 |succ n o=>
  intro a b h q;cases a with
  |mk k l=>
  cases b with
  |mk k' m=>
   rw[Ty.cN] at h q;have s:=Ty.ek l;rw[fP];simp only[Ty.dd,Ty.dn,c6,db (l:=l) VW,cX,lN,r5,da,ej]
   by_cases d:k≠k'\/(l.length:Int)≠m.length
   ·rw[cO d];refine⟨false,rfl,?_⟩;simp only[oZ,Tz,Ty.mk.injEq,not_and];rintro rfl rfl;simp at d
   ·rw[cK d];simp only[not_or,zq] at d;obtain⟨rfl,hlen⟩:=d
    have c:l.length=m.length:=VW
    let p:Ty->Ty->Bool:=λx y=>(fP n x y).getD false
    have i:∀x∈l,∀y,fP n x y=some (p x y)/\(p x y=true↔x=y):=by
     intro x f y;have:=dh Ty.acU f;obtain⟨r,h1,g⟩:=o x y VW VW
     have e:p x y=r:=by show(fP n x y).getD false=r;rw[h1];rfl
     rw[e];exact⟨h1,g⟩
    have key:=w9 (F:=λ(j:Int) (x:Ty) (_:Unit)=>cI (de m j) λy=>cI (fP n x y) λz=>if z then some (eL.next ())else some (eL.ret false)) p m l 0 m rfl c (by
     intro k x y f hy;rw[im,hy];simp only[cH];rw[(i x f y).1]
     rfl)
    rw[key];have he:=wW p l m λx f y=>(i x f y).2;cases g:uF p l m with
    |false=>exact⟨false,rfl,by rw[g] at he;simpa using he⟩
    |true=>exact⟨true,rfl,by rw[g] at he;simpa using he⟩
def w4:∀(n:Nat) (a b:Tm),a.wt<=n->a.wt<=1000000000->∃r,iz n a b=some r/\(r=true↔a=b):=by
 intro n
 induction n with
 |zero=>intro t b h;have:=t.gX;omega
 |succ n C=>
  intro a b h D;cases a with
  |mk k i s l=>
  cases b with
  |mk k' f u m=>
   rw[Tm.ea] at h D;have G:=Tm.mQ l;rw[iz];simp only[Tm.dd,Tm.dn,Tm.eP,Tm.dR,c6,db (l:=l) VW,cX,da,ej]
   have no:¬(k=k'/\i=f/\s=u/\l.length=m.length)->∃r,some false=some r/\(r=true↔Tm.mk k i s l=Tm.mk k' f u m):=by
    intro hn;refine⟨false,rfl,?_⟩;simp only[oZ,Tz,Tm.mk.injEq,not_and];rintro rfl rfl rfl rfl;exact hn ⟨rfl,rfl,rfl,rfl⟩
   by_cases g:k≠k'
   ·rw[cO g,cO trivial];exact no λh=>g h.1
   ·rw[cK g]
    by_cases hi:i≠f
    ·rw[cO hi,cO trivial];exact no λh=>hi h.2.1
    ·rw[cK hi];obtain⟨r,E,A⟩:=wz FU s u (by rw[dO];omega) VW;rw[E];simp only[cH]
     by_cases o:r=true
     ·have hs:=A.1 o;rw[cO o]
      by_cases hlen:(l.length:Int)≠m.length
      ·rw[cO hlen];exact no λh=>hlen VW
      ·rw[cK hlen]
       have c:l.length=m.length:=VW
       let p:Tm->Tm->Bool:=λx y=>(iz n x y).getD false
       have B:∀x∈l,∀y,iz n x y=some (p x y)/\(p x y=true↔x=y):=by
        intro x d y;have:=dh Tm.wt d;obtain⟨r,h1,q⟩:=C x y VW VW
        have e:p x y=r:=by show(iz n x y).getD false=r;rw[h1];rfl
        rw[e];exact⟨h1,q⟩
       have key:=w9 (F:=λ(j:Int) (x:Tm) (_:Unit)=>cI (de m j) λy=>cI (iz n x y) λz=>if z then some (eL.next ())else some (eL.ret false)) p m l 0 m rfl c (by
        intro k x y d hy;rw[im,hy];simp only[cH];rw[(B x d y).1]
        rfl)
       rw[key];have he:=wW p l m λx d y=>(B x d y).2;have v:k=k':=zq.1 g;have hi':i=f:=zq.1 hi;cases q:uF p l m with
       |false=>
        refine⟨false,rfl,?_⟩;rw[q] at he;simp only[oZ,Tz,Tm.mk.injEq,not_and];intro _ _ _ w;exact absurd (he.2 w) aa4
       |true=>
        refine⟨true,rfl,?_⟩;rw[q] at he;simp only[ZR,Tm.mk.injEq];exact⟨v,hi',hs,he.1 rfl⟩
     ·rw[cK o,cO trivial];exact no λh=>o (A.2 h.2.2.1)
def Aq:∀(n:Nat) (a b:Tm),a.wt<=n->a.wt<=1000000000->∃r,jy n a b=some r/\(r=true↔a=b):=by
 intro n
 induction n with
 |zero=>intro t b h;have:=t.gX;omega
 |succ n C=>
  intro a b h D;cases a with
  |mk k i s l=>
  cases b with
  |mk k' f u m=>
   rw[Tm.ea] at h D;have G:=Tm.mQ l;rw[jy];simp only[Tm.dd,Tm.dn,Tm.eP,Tm.dR,c6,db (l:=l) VW,cX,da,ej]
   have no:¬(k=k'/\i=f/\s=u/\l.length=m.length)->∃r,some false=some r/\(r=true↔Tm.mk k i s l=Tm.mk k' f u m):=by
    intro hn;refine⟨false,rfl,?_⟩;simp only[oZ,Tz,Tm.mk.injEq,not_and];rintro rfl rfl rfl rfl;exact hn ⟨rfl,rfl,rfl,rfl⟩
   by_cases g:k≠k'
   ·rw[cO g,cO trivial];exact no λh=>g h.1
   ·rw[cK g]
    by_cases hi:i≠f
    ·rw[cO hi,cO trivial];exact no λh=>hi h.2.1
    ·rw[cK hi];obtain⟨r,E,A⟩:=v7 FU s u (by rw[dO];omega) VW;rw[E];simp only[cH]
     by_cases o:r=true
     ·have hs:=A.1 o;rw[cO o]
      by_cases hlen:(l.length:Int)≠m.length
      ·rw[cO hlen];exact no λh=>hlen VW
      ·rw[cK hlen]
       have c:l.length=m.length:=VW
       let p:Tm->Tm->Bool:=λx y=>(jy n x y).getD false
       have B:∀x∈l,∀y,jy n x y=some (p x y)/\(p x y=true↔x=y):=by
        intro x d y;have:=dh Tm.wt d;obtain⟨r,h1,q⟩:=C x y VW VW
        have e:p x y=r:=by show(jy n x y).getD false=r;rw[h1];rfl
        rw[e];exact⟨h1,q⟩
       have key:=w9 (F:=λ(j:Int) (x:Tm) (_:Unit)=>cI (de m j) λy=>cI (jy n x y) λz=>if z then some (eL.next ())else some (eL.ret false)) p m l 0 m rfl c (by
        intro k x y d hy;rw[im,hy];simp only[cH];rw[(B x d y).1]
        rfl)
       rw[key];have he:=wW p l m λx d y=>(B x d y).2;have v:k=k':=zq.1 g;have hi':i=f:=zq.1 hi;cases q:uF p l m with
       |false=>
        refine⟨false,rfl,?_⟩;rw[q] at he;simp only[oZ,Tz,Tm.mk.injEq,not_and];intro _ _ _ w;exact absurd (he.2 w) aa4
       |true=>
        refine⟨true,rfl,?_⟩;rw[q] at he;simp only[ZR,Tm.mk.injEq];exact⟨v,hi',hs,he.1 rfl⟩
     ·rw[cK o,cO trivial];exact no λh=>o (A.2 h.2.2.1)
def HF{a b:Tm}(hw:a.wt<=1000000000):∃r,qU a b=some r/\(r=true↔a=b):=by
 obtain⟨r,h1,c⟩:=w4 FU a b (by rw[dO];exact hw) hw;exact⟨r,by unfold qU;rw[h1];rfl,c⟩
def Le:∀(k:Nat) (m:Int) (t:Tm),(t.norm k m).2.2=0\/(t.norm k m).2.2=4\/(t.norm k m).2.2=5
 |0,m,t=>by
  rw[Tm.norm]
  split
  ·exact .inl rfl
  ·exact .inr (.inr rfl)
 |k+1,m,t=>by
  rw[Tm.norm]
  split
  ·exact .inr (.inl rfl)
  ·exact .inl rfl
  ·exact Le k _ _
def Kk:∀(k:Nat) (M m:Int) (t a:Tm) (n:Int),0<=M->Sm M t->t.acU<=4096->t.norm k m=(a,n,0)->Sm (M+8192*k) a/\a.acU<=4096
 |0,M,m,t,a,n,d,hs,hn,h=>by
  rw[Tm.norm] at h
  split at h
  ·obtain⟨b,h⟩:=iE h;rw[<-b];exact⟨hs.mono VW,hn⟩
  ·cases h
 |k+1,M,m,t,a,n,d,hs,hn,h=>by
  rw[Tm.norm] at h
  split at h
  ·cases h
  ·obtain⟨b,h⟩:=iE h;rw[<-b];exact⟨hs.mono VW,hn⟩
  ·rename_i e c;obtain⟨h1,f,g⟩:=JA d t hs VW e c;obtain⟨a1,a2⟩:=Kk k (M+8192) (m+1) e a n VW ⟨h1,f,VW⟩ VW h;exact⟨a1.mono VW,a2⟩
def Qq(l:List Int):GO l=some (decide (l.length<=500)):=by
 unfold GO
 congr 1
 unfold Em di;exact Uh.2 VW
def zl{k:Int}(a:k≠1)(c:k≠2)(f b i:Int)(s:Ty)(l:List Tm):(Tm.mk k i s l).up f b=.mk k i s (l.map (Tm.up f b)):=by
 rw[Tm.kJ,cK (λh=>a h.1)];unfold eU;rw[cK c,ym]
def Wi(f b i:Int)(s:Ty)(l:List Tm):(Tm.mk 2 i s l).up f b=.mk 2 i s (l.map (Tm.up (f+1) b)):=by
 rw[Tm.kJ,cK (λh=>by have:=h.1;omega)];rfl
def uE{k:Int}(b:k≠1)(c:k≠2)(n i:Int)(a:Tm)(s:Ty)(l:List Tm):Tm.nj n (Tm.mk k i s l) a=.mk k i s (l.map λx=>Tm.nj n x a):=by
 rw[Tm.nC,cK b];unfold eU;rw[cK c,ym]
def TT(n i:Int)(a:Tm)(s:Ty)(l:List Tm):Tm.nj n (Tm.mk 2 i s l) a=.mk 2 i s (l.map λx=>Tm.nj (n+1) x a):=by
 rw[Tm.nC,cK aaK];rfl
def E4{g:List Ty}{t:Ty}{i j:Nat}(h:g[j]?=some t)(hi:i<g.length)(a:g.length-1-i=j):dG g (.mk 1 i .z []) t:=.var i hi (by rw[a];exact h)
def dG.up{g:List Ty}{x:Tm}{t:Ty}(h:dG g x t):∀g1 g2 e:List Ty,g=g1++g2->dG (g1++e++g2) (x.up g2.length e.length) t:=by
 induction h with
 |@var g t i h1 k=>
  rintro g1 g2 e rfl;rw[Tm.kJ,V2];rw[oJ] at h1
  by_cases hi:g2.length<=i
  ·rw[cO ⟨rfl,VW⟩,show(i:Int)+e.length=((i+e.length:Nat):Int) by push_cast;rfl];refine E4 (j:=g1.length+g2.length-1-i) ?_ (by simp<;>omega) (by simp<;>omega);rw[oJ,p4 VW] at k;rw[tE,p4 VW];exact k
  ·rw[cK (λh=>by have:=h.2;omega)];refine E4 (j:=g1.length+e.length+(g2.length-1-i)) ?_ (by simp<;>omega) (by simp<;>omega);rw[oJ,wc VW] at k;rw[wc (by simp<;>omega)];rw[<-k]
   congr 1
   simp;omega
 |@lam g s b t h1 _ d=>
  rintro g1 g2 e rfl;have:=d g1 (g2++[s]) e (by rw[tE]);rw[Wi];refine .lam h1 ?_;rw[oJ,<-tE] at this;exact this
 |app _ _ a c=>intro g1 g2 e hg;rw[zl aaK aaK];exact .app (a g1 g2 e hg) (c g1 g2 e hg)|zero=>intro g1 g2 e hg;rw[zl aaK aaK];exact .zero|succ _ d=>intro g1 g2 e hg;rw[zl aaK aaK];exact .succ (d g1 g2 e hg)|tN h1 _ _ _ a c f=>intro g1 g2 e hg;rw[zl aaK aaK];exact .tN h1 (a g1 g2 e hg) (c g1 g2 e hg) (f g1 g2 e hg)|nil=>intro g1 g2 e hg;rw[zl aaK aaK];exact .nil|cons _ _ a c=>intro g1 g2 e hg;rw[zl aaK aaK];exact .cons (a g1 g2 e hg) (c g1 g2 e hg)|fold h1 _ _ _ a c f=>intro g1 g2 e hg;rw[zl aaK aaK];exact .fold h1 (a g1 g2 e hg) (c g1 g2 e hg) (f g1 g2 e hg)|pair h1 _ _ a c=>intro g1 g2 e hg;rw[zl aaK aaK];exact .pair h1 (a g1 g2 e hg) (c g1 g2 e hg)|fst _ d=>intro g1 g2 e hg;rw[zl aaK aaK];exact .fst (d g1 g2 e hg)|snd _ d=>intro g1 g2 e hg;rw[zl aaK aaK];exact .snd (d g1 g2 e hg)|unit=>intro g1 g2 e hg;rw[zl aaK aaK];exact .unit
theorem dG.nj{g:List Ty}{x:Tm}{t:Ty}(h:dG g x t):∀(g1:List Ty) (s:Ty) (g2:List Ty) (a:Tm),g=g1++[s]++g2->dG g1 a s->dG (g1++g2) (Tm.nj g2.length x a) t:=by
 induction h with
 |@var g t i h1 f=>
  rintro g1 s g2 a rfl c;rw[Tm.nC,cO rfl];unfold Tm.uo;simp only[oJ,kN,vo] at h1 f
  by_cases he:(i:Int)=g2.length
  ·rw[cO he]
   have m:s=t:=by
    rw[tE,wc VW,p4 (by simp<;>omega)] at f;rw[show g1.length+(0+1)+g2.length-1-i-g1.length=0 by omega] at f;exact gh f
   subst m;have:=c.up g1 [] g2 aa4;simpa using this
  ·rw[cK he]
   by_cases hi:(g2.length:Int)<i
   ·rw[cO hi,show(i:Int)-1=((i-1:Nat):Int) by omega];refine E4 (j:=g1.length+g2.length-i) ?_ (by simp<;>omega) (by simp<;>omega);rw[tE,p4 VW] at f;rw[p4 VW,<-f]
    congr 1
    omega
   ·rw[cK hi];refine E4 (j:=g1.length+(g2.length-1-i)) ?_ (by simp<;>omega) (by simp<;>omega);rw[wc (by simp<;>omega)] at f;rw[wc VW,<-f]
    congr 1
    simp;omega
 |@lam g s b t h1 _ k=>
  rintro g1 u g2 a rfl c;have:=k g1 u (g2++[s]) a (by simp only[tE]) c;rw[TT];refine .lam h1 ?_;rw[oJ,<-tE] at this;exact this
 |app _ _ d e=>intro g1 s g2 a hg c;rw[uE aaK aaK];exact .app (d g1 s g2 a hg c) (e g1 s g2 a hg c)|zero=>intro g1 s g2 a hg c;rw[uE aaK aaK];exact .zero|succ _ k=>intro g1 s g2 a hg c;rw[uE aaK aaK];exact .succ (k g1 s g2 a hg c)|tN h1 _ _ _ d e l=>intro g1 s g2 a hg c;rw[uE aaK aaK];exact .tN h1 (d g1 s g2 a hg c) (e g1 s g2 a hg c) (l g1 s g2 a hg c)|nil=>intro g1 s g2 a hg c;rw[uE aaK aaK];exact .nil|cons _ _ d e=>intro g1 s g2 a hg c;rw[uE aaK aaK];exact .cons (d g1 s g2 a hg c) (e g1 s g2 a hg c)|fold h1 _ _ _ d e l=>intro g1 s g2 a hg c;rw[uE aaK aaK];exact .fold h1 (d g1 s g2 a hg c) (e g1 s g2 a hg c) (l g1 s g2 a hg c)|pair h1 _ _ d e=>intro g1 s g2 a hg c;rw[uE aaK aaK];exact .pair h1 (d g1 s g2 a hg c) (e g1 s g2 a hg c)|fst _ k=>intro g1 s g2 a hg c;rw[uE aaK aaK];exact .fst (k g1 s g2 a hg c)|snd _ k=>intro g1 s g2 a hg c;rw[uE aaK aaK];exact .snd (k g1 s g2 a hg c)|unit=>intro g1 s g2 a hg c;rw[uE aaK aaK];exact .unit
def Ty.XV{a b c d:Ty}(h:Ty.fn a b=Ty.fn c d):a=c/\b=d:=by unfold Ty.fn at h;simpa using h
def Ty.Sr{a b c d:Ty}(h:Ty.pr a b=Ty.pr c d):a=c/\b=d:=by unfold Ty.pr at h;simpa using h
theorem dG.eQ{g:List Ty}{x:Tm}{t:Ty}(h:dG g x t)(k:x.root=true):dG g x.eQ t:=by
 cases h with
 |@app _ f a s _ h1 i=>
  have c:f.acS=2:=by simpa[Tm.root,Tm.kd] using k
  generalize l:Ty.fn s t=q at h1
  cases h1<;>simp only[Tm.dn] at c<;>first|omega|skip
  rename_i r b o d e;obtain⟨rfl,rfl⟩:=Ty.XV l;have:=e.nj g s [] a aa4 i;simpa[Tm.eQ] using this
 |@tN _ _ b s n h1 i d e=>
  have c:n.acS=4\/n.acS=5:=by simpa[Tm.root,Tm.kd] using k
  cases e<;>simp only[Tm.dn] at c<;>first|omega|skip
  ·simpa[Tm.eQ] using i
  ·rename_i m j;have:=dG.app (.app d j) (dG.tN h1 i d j);simpa[Tm.eQ,lA,Ty.z] using this
 |@fold _ _ b s n h1 i d e=>
  have c:n.acS=7\/n.acS=8:=by simpa[Tm.root,Tm.kd] using k
  cases e<;>simp only[Tm.dn] at c<;>first|omega|skip
  ·simpa[Tm.eQ] using i
  ·rename_i u v j p;have:=dG.app (.app (.app d j) p) (dG.fold h1 i d p);simpa[Tm.eQ,lA,Ty.z] using this
 |@fst _ a s o h1=>
  have c:a.acS=10:=by simpa[Tm.root,Tm.kd] using k
  generalize l:Ty.pr t o=q at h1
  cases h1<;>simp only[Tm.dn] at c<;>first|omega|skip
  rename_i d e j;obtain⟨rfl,rfl⟩:=Ty.Sr l;simpa[Tm.eQ] using e
 |@snd _ a s o h1=>
  have c:a.acS=10:=by simpa[Tm.root,Tm.kd] using k
  generalize l:Ty.pr s t=q at h1
  cases h1<;>simp only[Tm.dn] at c<;>first|omega|skip
  rename_i d e j;obtain⟨rfl,rfl⟩:=Ty.Sr l;simpa[Tm.eQ] using j
 |_=>simp[Tm.root] at k
def lD{r k i:Int}{s:Ty}{l:List Tm}{b:Tm}(h:(Tm.mk k i s l).IF r=some (some b)):((Tm.mk k i s l).root=true/\b=(Tm.mk k i s l).eQ)\/∃a,Tm.r9 r l=some (some a)/\b=.mk k i s a:=by
 rw[Tm.Ba] at h
 by_cases c:(Tm.mk k i s l).root=true
 ·rw[cO c] at h
  split at h
  · cases h
  · exact .inl ⟨c,(gh (gh h)).symm⟩
 ·rw[cK c] at h;cases e:Tm.r9 r l with
  |none=>rw[e] at h;cases h
  |some o=>
    cases o with
    |none=>rw[e] at h;cases h
    |some a=>rw[e] at h;exact .inr ⟨a,rfl,(gh (gh h)).symm⟩
def jQ{r:Int}{a:Tm}{l c:List Tm}(h:Tm.r9 r (a::l)=some (some c)):(∃b,a.IF r=some (some b)/\c=b::l)\/∃m,Tm.r9 r l=some (some m)/\c=a::m:=by
 rw[Tm.r9] at h;cases e:a.IF r with
 |none=>rw[e] at h;cases h
 |some o=>
  cases o with
  |some b=>rw[e] at h;exact .inl ⟨b,rfl,(gh (gh h)).symm⟩
  |none=>
   rw[e] at h;dsimp only at h;cases d:Tm.r9 r l with
   |none=>rw[d] at h;cases h
   |some o2=>
    cases o2 with
    |none=>rw[d] at h;cases h
    |some m=>rw[d] at h;exact .inr ⟨m,rfl,(gh (gh h)).symm⟩
def ng{r:Int}{a:List Tm}(h:Tm.r9 r []=some (some a)):False:=by rw[Tm.r9] at h;cases h
def dG.IF{r:Int}{g:List Ty}{x:Tm}{t:Ty}(h:dG g x t):∀l,x.IF r=some (some l)->dG g l t:=by
 induction h with
 |var i h1 e=>
  intro l hs;rcases lD hs with⟨c,rfl⟩|⟨p,d,rfl⟩
  ·exact(dG.var i h1 e).eQ c
  ·exact(ng d).elim
 |lam h1 e q=>
  intro l hs;rcases lD hs with⟨c,rfl⟩|⟨p,d,rfl⟩
  ·exact(dG.lam h1 e).eQ c
  ·rcases jQ d with⟨n,a,b⟩|⟨m,a,b⟩
   ·subst_vars;exact .lam h1 (q _ a)
   ·exact(ng a).elim
 |app h1 e f j=>
  intro l hs;rcases lD hs with⟨c,rfl⟩|⟨p,d,rfl⟩
  ·exact(dG.app h1 e).eQ c
  ·rcases jQ d with⟨n,a,b⟩|⟨m,a,b⟩
   ·subst_vars;exact .app (f _ a) e
   ·rcases jQ a with⟨n,k,b⟩|⟨m,k,b⟩
    ·subst_vars;exact .app h1 (j _ k)
    ·exact(ng k).elim
 |zero=>
  intro l hs;rcases lD hs with⟨c,rfl⟩|⟨p,d,rfl⟩
  ·exact dG.zero.eQ c
  ·exact(ng d).elim
 |succ h1 q=>
  intro l hs;rcases lD hs with⟨c,rfl⟩|⟨p,d,rfl⟩
  ·exact(dG.succ h1).eQ c
  ·rcases jQ d with⟨n,a,b⟩|⟨m,a,b⟩
   ·subst_vars;exact .succ (q _ a)
   ·exact(ng a).elim
 |tN o h1 e s f j u=>
  intro l hs;rcases lD hs with⟨c,rfl⟩|⟨p,d,rfl⟩
  ·exact(dG.tN o h1 e s).eQ c
  ·rcases jQ d with⟨n,a,b⟩|⟨m,a,b⟩
   ·subst_vars;exact .tN o (f _ a) e s
   ·rcases jQ a with⟨n,k,b⟩|⟨m,k,b⟩
    ·subst_vars;exact .tN o h1 (j _ k) s
    ·rcases jQ k with⟨n,v,b⟩|⟨m,v,b⟩
     ·subst_vars;exact .tN o h1 e (u _ v)
     ·exact(ng v).elim
 |nil=>
  intro l hs;rcases lD hs with⟨c,rfl⟩|⟨p,d,rfl⟩
  ·exact dG.nil.eQ c
  ·exact(ng d).elim
 |cons h1 e f j=>
  intro l hs;rcases lD hs with⟨c,rfl⟩|⟨p,d,rfl⟩
  ·exact(dG.cons h1 e).eQ c
  ·rcases jQ d with⟨n,a,b⟩|⟨m,a,b⟩
   ·subst_vars;exact .cons (f _ a) e
   ·rcases jQ a with⟨n,k,b⟩|⟨m,k,b⟩
    ·subst_vars;exact .cons h1 (j _ k)
    ·exact(ng k).elim
 |fold o h1 e s f j u=>
  intro l hs;rcases lD hs with⟨c,rfl⟩|⟨p,d,rfl⟩
  ·exact(dG.fold o h1 e s).eQ c
  ·rcases jQ d with⟨n,a,b⟩|⟨m,a,b⟩
   ·subst_vars;exact .fold o (f _ a) e s
   ·rcases jQ a with⟨n,k,b⟩|⟨m,k,b⟩
    ·subst_vars;exact .fold o h1 (j _ k) s
    ·rcases jQ k with⟨n,v,b⟩|⟨m,v,b⟩
     ·subst_vars;exact .fold o h1 e (u _ v)
     ·exact(ng v).elim
 |pair o h1 e f j=>
  intro l hs;rcases lD hs with⟨c,rfl⟩|⟨p,d,rfl⟩
  ·exact(dG.pair o h1 e).eQ c
  ·rcases jQ d with⟨n,a,b⟩|⟨m,a,b⟩
   ·subst_vars;exact .pair o (f _ a) e
   ·rcases jQ a with⟨n,k,b⟩|⟨m,k,b⟩
    ·subst_vars;exact .pair o h1 (j _ k)
    ·exact(ng k).elim
 |fst h1 q=>
  intro l hs;rcases lD hs with⟨c,rfl⟩|⟨p,d,rfl⟩
  ·exact(dG.fst h1).eQ c
  ·rcases jQ d with⟨n,a,b⟩|⟨m,a,b⟩
   ·subst_vars;exact .fst (q _ a)
   ·exact(ng a).elim
 |snd h1 q=>
  intro l hs;rcases lD hs with⟨c,rfl⟩|⟨p,d,rfl⟩
  ·exact(dG.snd h1).eQ c
  ·rcases jQ d with⟨n,a,b⟩|⟨m,a,b⟩
   ·subst_vars;exact .snd (q _ a)
   ·exact(ng a).elim
 |unit=>
  intro l hs;rcases lD hs with⟨c,rfl⟩|⟨p,d,rfl⟩
  ·exact dG.unit.eQ c
  ·exact(ng d).elim
def dG.norm{g:List Ty}{t:Ty}:∀(k:Nat) (m:Int) (x a:Tm) (n:Int),dG g x t->x.norm k m=(a,n,0)->dG g a t
 |0,m,x,a,n,b,h=>by
  rw[Tm.norm] at h
  split at h
  ·obtain⟨c,_⟩:=iE h;rw[<-c];exact b
  ·cases h
 |k+1,m,x,a,n,b,h=>by
  rw[Tm.norm] at h
  split at h
  ·cases h
  ·obtain⟨c,_⟩:=iE h;rw[<-c];exact b
  ·rename_i d hs;exact dG.norm k (m+1) d a n (b.IF _ hs) h
def O7(k:Int):gx k<=3:=by unfold gx;repeat' (first|omega|split)
def Tm.aal{k i:Int}{s:Ty}{l:List Tm}(h:(Tm.mk k i s l).ok=true):l.length<=3:=by
 have:=Tm.vU h;have:=O7 k;omega
def WA(x:Tm):Tm.mk x.acS x.acV (Ty.mk x.cP.acS x.cP.acT) x.acT=x:=by
 cases x with
 |mk k i s l=>cases s;rfl
def lr{a:Ty}(h:a.acU<=1000000000):eo FU a a=some true:=by
 obtain⟨r,b,c⟩:=v7 FU a a (by rw[dO];exact h) h;rw[b,c.2 rfl]
def ok_eq{t:Ty}(h:t.err=0):s7 t=some (t,0):=by
 unfold s7;rw[lO (by have:=(Ty.lJ h).2;omega),h];rfl
def ec{t:Ty}(h:t.err=0):t.acU<=64:=by have:=(Ty.lJ h).2;omega
inductive TL (n:Nat) (g:List Ty):List Tm->List Ty->Prop
 |nil:TL n g [] []|cons {a:Tm} {t:Ty} {l:List Tm} {ts:List Ty}:ey n g a=some (t,0)->TL n g l ts->TL n g (a::l) (t::ts)
def oc{n:Nat}{g:List Ty}:∀{l:List Tm} {ts:List Ty} (i:Nat) (v:List Ty),TL n g l ts->v.length+l.length<=1000->dN (λ(e:Int) (d:Tm)=>(λ(a:List Ty)=>
   cT (ey n g d) λb c=>
   if(dw c 0) then(
   some (eL.ret ((Ty.mk 0 []),c)))
   else(fD (eJ a [b])<|some (.next (fa a [b])))):Int->Tm->((List Ty))->(Option (eL ((List Ty)) (Ty×Int)))) l i v=some (.inl (v++ts))
 |_,_,i,v,.nil,_=>by simp|_,_,i,v,.cons h f,j=>by
  simp only[kN] at j;rw[dJ];simp only[h,cJ];rw[cK aaK,dS aa_];simp only[cX,cH,dW];rw[oc (i+1) _ f (by rw[fx];simp;omega),fx];simp
def SS{g:List Ty}{x:Tm}{t:Ty}(h:dG g x t):(∀s∈g,s.err=0)->t.err=0/\∀n:Nat,x.acU<=n->g.length+x.acU<=1000000->ey n g x=some (t,0):=by
 induction h with
 |@var g t i h1 z=>
  intro hg;have w:=hg t (z6 z);refine⟨w,λn hn e=>?_⟩;rw[Tm.cN] at hn;obtain⟨n,rfl⟩:∃m,n=m+1:=⟨n-1,VW⟩;rw[Tm.cN] at e;rw[ey,cO abq,cK (by simp only[Tm.eP,ib,ej];omega)];simp only[Tm.eP,ej];rw[ed (a:=(g.length:Int)) VW VW,ed VW VW]
  have:de g ((g.length:Int)-1-(i:Int))=some t:=by
   unfold de;rw[cO VW,<-z]
   congr 1
   omega
  rw[this];simp only[cH];rw[gT (by have:=ec w;omega)];rfl
 |@lam g s b t h1 _ j=>
  intro hg;have hs:=(Ty.ss (.inr rfl) h1).1;have y:=(Ty.ss (.inr rfl) h1).2
  obtain⟨_,j⟩:=j (by
   intro u hu;rcases qA.1 hu with h|h
   ·exact hg u h
   ·rw[yo] at h;rw[h];exact hs)
  refine⟨h1,λn hn e=>?_⟩;rw[Tm.cN] at hn e;simp only[c_] at hn e;obtain⟨n,rfl⟩:∃m,n=m+1:=⟨n-1,VW⟩;rw[ey,cK aa4,cO abq];simp only[Tm.dR,Tm.dd,dv,iB,cH,fx];rw[dS aa_,cX,j n VW aa_];simp only[cJ];rw[cK aaK,hQ (by have:=ec hs;omega) (by have:=ec y;omega)];simp only[cH];rw[ok_eq h1];rfl
 |@app g f a s t _ _ c d=>
  intro hg;obtain⟨q,c⟩:=c hg;obtain⟨r,d⟩:=d hg;have y:=(Ty.ss (.inr rfl) q).2;refine⟨y,λn hn e=>?_⟩;rw[Tm.cN] at hn e;simp only[c_] at hn e;obtain⟨n,rfl⟩:∃m,n=m+1:=⟨n-1,VW⟩;have o:=oc (n:=n) (g:=g) (l:=[f,a]) 0 [] (.cons (c n VW VW) (.cons (d n VW VW) .nil)) aa4;rw[ey,cK aa4,cK aa4];simp only[c6,Tm.dd,db (l:=[f,a]) aa4,cX];rw[o];simp only[cH,cU,ep,fA];rw[cO abq];simp only[mR,dv,e9,iB,mc,cH];rw[cK (by simp[Ty.fn,dw]),show(Ty.fn s t).acT[0]?=some s from rfl];simp only[cH];rw[lr (by have:=ec r;omega)];simp only[cH];rw[cK aaK,show(Ty.fn s t).acT[1]?=some t from rfl];rfl
 |zero=>
  intro hg;refine⟨Ty.fL,λn hn e=>?_⟩;rw[Tm.cN] at hn;obtain⟨n,rfl⟩:∃m,n=m+1:=⟨n-1,VW⟩;rfl
 |@succ g a _ j=>
  intro hg;obtain⟨q,j⟩:=j hg;refine⟨Ty.fL,λn hn e=>?_⟩;rw[Tm.cN] at hn e;simp only[c_] at hn e;obtain⟨n,rfl⟩:∃m,n=m+1:=⟨n-1,VW⟩;have o:=oc (n:=n) (g:=g) (l:=[a]) 0 [] (.cons (j n VW VW) .nil) aa4;rw[ey,cK aa4,cK aa4];simp only[c6,Tm.dd,db (l:=[a]) aa4,cX];rw[o];simp only[cH,cU,ep,fA];rw[cK aa4,cK aa4,cO abq];simp only[mR,dv,iB,cH];rw[lr (by rw[Ty.gd];omega)];rfl
 |@tN g t b s k v _ _ _ c d p=>
  intro hg;obtain⟨q,c⟩:=c hg;obtain⟨r,d⟩:=d hg;obtain⟨A,p⟩:=p hg;refine⟨v,λn hn e=>?_⟩;rw[Tm.cN] at hn e;simp only[c_] at hn e;obtain⟨n,rfl⟩:∃m,n=m+1:=⟨n-1,VW⟩;have y:=ec v;have o:=oc (n:=n) (g:=g) (l:=[b,s,k]) 0 [] (.cons (c n VW VW) (.cons (d n VW VW) (.cons (p n VW VW) .nil))) aa4;rw[ey,cK aa4,cK aa4];simp only[c6,Tm.dd,db (l:=[b,s,k]) aa4,cX];rw[o];simp only[cH,cU,ep,fA];rw[cK aa4,cK aa4,cK aa4,cO abq];simp only[mR,dv,e9,il,iB,mc,cH,Tm.dR];rw[lr VW];simp only[cH,if_true];rw[hQ VW VW];simp only[cH];rw[hQ (by rw[Ty.gd];omega) (by rw[Ty.iX];omega)];simp only[cH];rw[lr (by have:=ec r;omega)];simp only[cH,if_true];rw[lr (by rw[Ty.gd];omega)];simp only[cH];rw[cK aaK,gT VW];rfl
 |nil=>
  intro hg;refine⟨Ty.oS,λn hn e=>?_⟩;rw[Tm.cN] at hn;obtain⟨n,rfl⟩:∃m,n=m+1:=⟨n-1,VW⟩;rfl
 |@cons g a b _ _ c d=>
  intro hg;obtain⟨q,c⟩:=c hg;obtain⟨r,d⟩:=d hg;refine⟨Ty.oS,λn hn e=>?_⟩;rw[Tm.cN] at hn e;simp only[c_] at hn e;obtain⟨n,rfl⟩:∃m,n=m+1:=⟨n-1,VW⟩;have o:=oc (n:=n) (g:=g) (l:=[a,b]) 0 [] (.cons (c n VW VW) (.cons (d n VW VW) .nil)) aa4;rw[ey,cK aa4,cK aa4];simp only[c6,Tm.dd,db (l:=[a,b]) aa4,cX];rw[o];simp only[cH,cU,ep,fA];rw[cK aa4,cK aa4,cK aa4,cK aa4,cK aa4,cO abq];simp only[mR,dv,e9,iB,mc,cH];rw[lr (by rw[Ty.gd];omega)];simp only[cH,if_true];rw[lr (by rw[Ty.oH];omega)];rfl
 |@fold g t b s k v _ _ _ c d p=>
  intro hg;obtain⟨q,c⟩:=c hg;obtain⟨r,d⟩:=d hg;obtain⟨A,p⟩:=p hg;refine⟨v,λn hn e=>?_⟩;rw[Tm.cN] at hn e;simp only[c_] at hn e;obtain⟨n,rfl⟩:∃m,n=m+1:=⟨n-1,VW⟩;have y:=ec v;have o:=oc (n:=n) (g:=g) (l:=[b,s,k]) 0 [] (.cons (c n VW VW) (.cons (d n VW VW) (.cons (p n VW VW) .nil))) aa4;rw[ey,cK aa4,cK aa4];simp only[c6,Tm.dd,db (l:=[b,s,k]) aa4,cX];rw[o];simp only[cH,cU,ep,fA];rw[cK aa4,cK aa4,cK aa4,cK aa4,cK aa4,cK aa4,cO abq];simp only[mR,dv,e9,il,iB,mc,cH,Tm.dR];rw[lr VW];simp only[cH,if_true];rw[hQ VW VW];simp only[cH];rw[hQ (by rw[Ty.oH];omega) (by rw[Ty.iX];omega)];simp only[cH];rw[hQ (by rw[Ty.gd];omega) (by rw[Ty.iX,Ty.iX,Ty.oH];omega)];simp only[cH];rw[lr (by have:=ec r;omega)];simp only[cH,if_true];rw[lr (by rw[Ty.oH];omega)];simp only[cH];rw[cK aaK,gT VW];rfl
 |@pair g a b s t v _ _ c d=>
  intro hg;obtain⟨q,c⟩:=c hg;obtain⟨r,d⟩:=d hg;refine⟨v,λn hn e=>?_⟩;rw[Tm.cN] at hn e;simp only[c_] at hn e;obtain⟨n,rfl⟩:∃m,n=m+1:=⟨n-1,VW⟩;have o:=oc (n:=n) (g:=g) (l:=[a,b]) 0 [] (.cons (c n VW VW) (.cons (d n VW VW) .nil)) aa4;rw[ey,cK aa4,cK aa4];simp only[c6,Tm.dd,db (l:=[a,b]) aa4,cX];rw[o];simp only[cH,cU,ep,fA];rw[cK aa4,cK aa4,cK aa4,cK aa4,cK aa4,cK aa4,cK aa4,cO abq];simp only[mR,dv,e9,iB,mc,cH];rw[xE (by have:=ec q;omega) (by have:=ec r;omega)];simp only[cH];rw[ok_eq v];rfl
 |@fst g a s t _ j=>
  intro hg;obtain⟨q,j⟩:=j hg;refine⟨(Ty.ss (.inl rfl) q).1,λn hn e=>?_⟩;rw[Tm.cN] at hn e;simp only[c_] at hn e;obtain⟨n,rfl⟩:∃m,n=m+1:=⟨n-1,VW⟩;have o:=oc (n:=n) (g:=g) (l:=[a]) 0 [] (.cons (j n VW VW) .nil) aa4;rw[ey,cK aa4,cK aa4];simp only[c6,Tm.dd,db (l:=[a]) aa4,cX];rw[o];simp only[cH,cU,ep,fA];rw[cK aa4,cK aa4,cK aa4,cK aa4,cK aa4,cK aa4,cK aa4,cK aa4,cO abq];simp only[mR,dv,iB,cH];rw[cK (by simp[Ty.pr,dw]),cO abq,show(Ty.pr s t).acT[0]?=some s from rfl];rfl
 |@snd g a s t _ j=>
  intro hg;obtain⟨q,j⟩:=j hg;refine⟨(Ty.ss (.inl rfl) q).2,λn hn e=>?_⟩;rw[Tm.cN] at hn e;simp only[c_] at hn e;obtain⟨n,rfl⟩:∃m,n=m+1:=⟨n-1,VW⟩;have o:=oc (n:=n) (g:=g) (l:=[a]) 0 [] (.cons (j n VW VW) .nil) aa4;rw[ey,cK aa4,cK aa4];simp only[c6,Tm.dd,db (l:=[a]) aa4,cX];rw[o];simp only[cH,cU,ep,fA];rw[cK aa4,cK aa4,cK aa4,cK aa4,cK aa4,cK aa4,cK aa4,cK aa4,cO abq];simp only[mR,dv,iB,cH];rw[cK (by simp[Ty.pr,dw]),cK aa4,show de (Ty.pr s t).acT 1=some t from rfl];rfl
 |unit=>
  intro hg;refine⟨Ty.FL,λn hn e=>?_⟩;rw[Tm.cN] at hn;obtain⟨n,rfl⟩:∃m,n=m+1:=⟨n-1,VW⟩;rfl
def Tm.ow{p:Tm->Prop}(var:∀i:Nat,p (.mk 1 i .z []))(lam:∀s b,s.err=0->b.ok=true->p (.mk 2 0 s [b]))(app:∀a b,a.ok=true->b.ok=true->p (.mk 3 0 .z [a,b]))
  (zero:p (.mk 4 0 .z [])) (succ:∀a,a.ok=true->p (.mk 5 0 .z [a])) (tN:∀s a b c,s.err=0->a.ok=true->b.ok=true->c.ok=true->p (.mk 6 0 s [a,b,c])) (nil:p (.mk 7 0 .z []))
  (cons:∀a b,a.ok=true->b.ok=true->p (.mk 8 0 .z [a,b])) (fold:∀s a b c,s.err=0->a.ok=true->b.ok=true->c.ok=true->p (.mk 9 0 s [a,b,c])) (pair:∀a b,a.ok=true->b.ok=true->p (.mk 10 0 .z [a,b]))
  (fst:∀a,a.ok=true->p (.mk 11 0 .z [a])) (snd:∀a,a.ok=true->p (.mk 12 0 .z [a])) (unit:p (.mk 13 0 .z [])) (t:Tm) (h:t.ok=true):p t:=by
 cases t with
 |mk k i s l=>
  obtain⟨_,hi,d,g,hn⟩:=Tm.kT h
  have hs:if jr k then s.err=0 else s=.z:=by
   rw[Tm.fV] at h;simp only[Tm.node,ft] at h;have:=h.1.2
   split at this
   ·rename_i e;rw[cO e];simpa using this
   ·rename_i e;rw[cK e];exact(Ty.lB s).1 this
  have n:∀{l:List Tm},(l.length:Int)=0->l=[]:=λh=>fE.1 h;unfold gx at hn
  split at hn
  ·rename_i e;obtain rfl:=fE.1 hn;rcases e with rfl|rfl|rfl|rfl
   ·rw[cK aaK] at hs;subst hs;obtain⟨j,rfl⟩:∃j:Nat,i=(j:Int):=⟨i.toNat,VW⟩;exact var j
   ·rw[cK aaK] at hs;subst hs;obtain rfl:=d aaK;exact zero
   ·rw[cK aaK] at hs;subst hs;obtain rfl:=d aaK;exact nil
   ·rw[cK aaK] at hs;subst hs;obtain rfl:=d aaK;exact unit
  ·split at hn
   ·rename_i e;obtain⟨a,rfl⟩:=iK hn;have f:=g a aa4;rcases e with rfl|rfl|rfl|rfl
    ·rw[cO aaK] at hs;obtain rfl:=d aaK;exact lam s a hs f
    ·rw[cK aaK] at hs;subst hs;obtain rfl:=d aaK;exact succ a f
    ·rw[cK aaK] at hs;subst hs;obtain rfl:=d aaK;exact fst a f
    ·rw[cK aaK] at hs;subst hs;obtain rfl:=d aaK;exact snd a f
   ·split at hn
    ·rename_i e;obtain⟨a,b,rfl⟩:=p9 hn;have f:=g a aa4;have m:=g b aa4;rcases e with rfl|rfl|rfl
     ·rw[cK aaK] at hs;subst hs;obtain rfl:=d aaK;exact app a b f m
     ·rw[cK aaK] at hs;subst hs;obtain rfl:=d aaK;exact cons a b f m
     ·rw[cK aaK] at hs;subst hs;obtain rfl:=d aaK;exact pair a b f m
    ·split at hn
     ·rename_i e
      obtain⟨a,b,c,rfl⟩:∃a b c,l=[a,b,c]:=by
       match l,hn with
       |[a,b,c],_=>exact⟨a,b,c,rfl⟩|[],h|[_],h|[_,_],h=>simp at h
       |_::_::_::_::_,h=>simp at h;omega
      have f:=g a aa4;have m:=g b aa4;have o:=g c aa4;rcases e with rfl|rfl
      ·rw[cO aaK] at hs;obtain rfl:=d aaK;exact tN s a b c hs f m o
      ·rw[cO aaK] at hs;obtain rfl:=d aaK;exact fold s a b c hs f m o
     ·omega
open Classical in
noncomputable def gp (k:Int) (s:Ty) (l:List Ty):Ty×Int:=
 if k=3 then(if(l.getD 0 .z).acS=4/\(l.getD 0 .z).acT.getD 0 .z=l.getD 1 .z then((l.getD 0 .z).acT.getD 1 .z,0)else(.z,7))
 else if k=4 then(.nat,0)
 else if k=5 then(if l.getD 0 .z=.nat then(.nat,0)else(.z,7))
 else if k=6 then(if l.getD 0 .z=s/\l.getD 1 .z=.fn .nat (.fn s s)/\l.getD 2 .z=.nat then(s,0)else(.z,7))
 else if k=7 then(.o6,0)
 else if k=8 then(if l.getD 0 .z=.nat/\l.getD 1 .z=.o6 then(.o6,0)else(.z,7))
 else if k=9 then(if l.getD 0 .z=s/\l.getD 1 .z=.fn .nat (.fn .o6 (.fn s s))/\l.getD 2 .z=.o6 then(s,0)else(.z,7))
 else if k=10 then(if 64<1+(l.getD 0 .z).acU+(l.getD 1 .z).acU then(.z,4)else(.pr (l.getD 0 .z) (l.getD 1 .z),0))
 else if k=11 then(if(l.getD 0 .z).acS=3 then((l.getD 0 .z).acT.getD 0 .z,0)else(.z,7))
 else if k=12 then(if(l.getD 0 .z).acS=3 then((l.getD 0 .z).acT.getD 1 .z,0)else(.z,7))
 else(.unit,0)
def Mr(s:Ty)(r:Ty×Int):Ty×Int:=if r.2≠0 then(.z,r.2)else if 64<1+s.acU+r.1.acU then(.z,4)else(.fn s r.1,0)
def uY(f:List Ty->Ty×Int):List Ty⊕Int->Ty×Int
 |.inl l=>f l|.inr e=>(.z,e)
def M8(r:Ty×Int)(o:List Ty⊕Int):List Ty⊕Int:=if r.2≠0 then .inr r.2 else match o with|.inl l=>.inl (r.1::l)|.inr e=>.inr e
mutual
noncomputable def Tm.ty:Tm->List Ty->Ty×Int
 |.mk k i s l,g=>if k=1 then(if i<(g.length:Int)then(g.getD (g.length-1-i.toNat) .z,0)else(.z,6))else if k=2 then Mr s (Tm.Y9 l (g++[s]))else uY (gp k s) (Tm.uk l g)
noncomputable def Tm.Y9:List Tm->List Ty->Ty×Int
 |[],_=>(.z,0)|t::_,g=>t.ty g
noncomputable def Tm.uk:List Tm->List Ty->List Ty⊕Int
 |[],_=>.inl []|t::l,g=>M8 (t.ty g) (Tm.uk l g)
end
def Tm.mD(k i:Int)(s:Ty)(l:List Tm)(g:List Ty):(Tm.mk k i s l).ty g=if k=1 then(if i<(g.length:Int)then(g.getD (g.length-1-i.toNat) .z,0)else(.z,6))else if k=2 then Mr s (Tm.Y9 l (g++[s]))else uY (gp k s) (Tm.uk l g):=by rw[Tm.ty]
def jd(g:List Ty):Prop:=∀s∈g,s.err=0
def jd.app{g:List Ty}{s:Ty}(h:jd g)(hs:s.err=0):jd (g++[s]):=by
 intro u hu;rcases qA.1 hu with h'|h'
 ·exact h u h'
 ·grind
def J'{t:Ty}(h:t.err=0)(c:t.acS=4):∃a b,t=.fn a b/\a.err=0/\b.err=0:=by
 rcases Ty.qQ h with rfl|rfl|rfl|⟨a,b,rfl,_,_⟩|h
 ·cases c
 ·cases c
 ·cases c
 ·cases c
 ·exact h
def zI{t:Ty}(h:t.err=0)(c:t.acS=3):∃a b,t=.pr a b/\a.err=0/\b.err=0:=by
 rcases Ty.qQ h with rfl|rfl|rfl|h|⟨a,b,rfl,_,_⟩
 ·cases c
 ·cases c
 ·cases c
 ·exact h
 ·cases c
def uN{t:Ty}(h:t.err=0):t.acS=1↔t=.nat:=by
 rcases Ty.qQ h with rfl|rfl|rfl|⟨a,b,rfl,_,_⟩|⟨a,b,rfl,_,_⟩
 ·exact⟨λ_=>rfl,λ_=>rfl⟩
 all_goals exact⟨λh=>(by cases h),λh=>(by cases h)⟩
def Cl{t:Ty}(h:t.err=0):t.acS=2↔t=.o6:=by
 rcases Ty.qQ h with rfl|rfl|rfl|⟨a,b,rfl,_,_⟩|⟨a,b,rfl,_,_⟩
 ·exact⟨λh=>(by cases h),λh=>(by cases h)⟩
 ·exact⟨λ_=>rfl,λ_=>rfl⟩
 all_goals exact⟨λh=>(by cases h),λh=>(by cases h)⟩
theorem p6{r:Ty×Int}{o:List Ty⊕Int}(h:r.2≠0):M8 r o=.inr r.2:=cO h
theorem p8{r:Ty×Int}{o:List Ty⊕Int}(h:r.2=0):M8 r o=match o with|.inl l=>.inl (r.1::l)|.inr e=>.inr e:=cK VW
theorem sJ{f:List Ty->Ty×Int}{e:Int}{r:Ty}(h:uY f (.inr e)=(r,0)):e=0:=(iE h).2
def yi{a:Tm}{g:List Ty}(h:(a.ty g).2=0):a.ty g=((a.ty g).1,0):=Prod.ext rfl h
def MM{a:Tm}{g:List Ty}{f:List Ty->Ty×Int}{r:Ty}(h:uY f (Tm.uk [a] g)=(r,0)):∃s,a.ty g=(s,0)/\f [s]=(r,0):=by
 rw[Tm.uk] at h
 by_cases b:(a.ty g).2=0
 ·rw[p8 b] at h;exact⟨_,yi b,h⟩
 ·grind[p6,sJ]
def Ny{a b:Tm}{g:List Ty}{f:List Ty->Ty×Int}{r:Ty}(h:uY f (Tm.uk [a,b] g)=(r,0)):∃s t,a.ty g=(s,0)/\b.ty g=(t,0)/\f [s,t]=(r,0):=by
 rw[Tm.uk,Tm.uk,Tm.uk] at h
 by_cases c:(a.ty g).2=0
 ·rw[p8 c] at h
  by_cases h1:(b.ty g).2=0
  ·rw[p8 h1] at h;exact⟨_,_,yi c,yi h1,h⟩
  ·grind[p6,sJ]
 ·grind[p6,sJ]
def Ln{a b c:Tm}{g:List Ty}{f:List Ty->Ty×Int}{r:Ty}(h:uY f (Tm.uk [a,b,c] g)=(r,0)):∃s t u,a.ty g=(s,0)/\b.ty g=(t,0)/\c.ty g=(u,0)/\f [s,t,u]=(r,0):=by
 rw[Tm.uk,Tm.uk,Tm.uk,Tm.uk] at h
 by_cases d:(a.ty g).2=0
 ·rw[p8 d] at h
  by_cases h1:(b.ty g).2=0
  ·rw[p8 h1] at h
   by_cases e:(c.ty g).2=0
   ·rw[p8 e] at h;exact⟨_,_,_,yi d,yi h1,yi e,h⟩
   ·grind[p6,sJ]
  ·rw[p6 h1] at h;exact absurd (sJ h) h1
 ·rw[p6 d] at h;exact absurd (sJ h) d
def qk:∀(n:Nat) (t:Tm),t.acU<=n->t.ok=true->∀g,jd g->∀s,t.ty g=(s,0)->dG g t s/\s.err=0:=by
 intro n
 induction n with
 |zero=>intro t h;have:=t.dp;omega
 |succ n j=>
  intro t hn D;refine Tm.ow (p:=λt=>t.acU<=n+1->∀g,jd g->∀s,t.ty g=(s,0)->dG g t s/\s.err=0) ?_ ?_ ?_ ?_ ?_ ?_ ?_ ?_ ?_ ?_ ?_ ?_ ?_ t D hn
  ·intro i _ g hg s h;rw[Tm.mD,cO rfl] at h
   split at h
   ·rename_i hi
    have q:g.length-1-(i:Int).toNat<g.length:=VW
    have e:g[g.length-1-i]?=some s:=by
     have h1:=(iE h).1;rw[Nu,AN] at h1;rw[AN] at q;rw[oO q] at h1|-;simpa using h1
    exact⟨.var i VW e,hg s (z6 e)⟩
   ·have:=(iE h).2;omega
  ·intro s b hs l hn g hg r h;rw[Tm.cN] at hn;simp only[c_] at hn;rw[Tm.mD,cK aaK,cO rfl,Tm.Y9] at h;unfold Mr at h
   split at h
   ·rename_i v;exact absurd (iE h).2 v
   ·rename_i v
    split at h
    ·have:=(iE h).2;omega
    ·rename_i h1;obtain⟨m,d⟩:=j b VW l (g++[s]) (hg.app hs) _ (yi (by simpa using v));have he:=Ty.xG hs d VW;obtain rfl:=(iE h).1;exact⟨.lam he m,he⟩
  ·intro a b k l hn g hg r h;rw[Tm.cN] at hn;simp only[c_] at hn;rw[Tm.mD,cK aaK,cK aaK] at h;obtain⟨s,t,h1,m,d⟩:=Ny h;obtain⟨a1,a2⟩:=j a VW k g hg _ h1;obtain⟨o,u⟩:=j b VW l g hg _ m;simp only[gp,if_true,Xd,Uo] at d
   split at d
   ·rename_i f;obtain⟨x,y,rfl,w,hy⟩:=J' a2 f.1;have E:x=t:=f.2;obtain rfl:=(iE d).1;subst E;exact⟨.app a1 o,hy⟩
   ·have:=(iE d).2;omega
  ·intro hn g hg r h;rw[Tm.mD,cK aaK,cK aaK,Tm.uk] at h;simp only[uY,gp,reduceIte,Int.reduceEq] at h;obtain rfl:=(iE h).1;exact⟨.zero,Ty.fL⟩
  ·intro a k hn g hg r h;rw[Tm.cN] at hn;simp only[c_] at hn;rw[Tm.mD,cK aaK,cK aaK] at h;obtain⟨s,h1,d⟩:=MM h;obtain⟨a1,a2⟩:=j a VW k g hg _ h1;simp only[gp,reduceIte,Int.reduceEq,Xd] at d
   split at d
   ·rename_i f;subst f;obtain rfl:=(iE d).1;exact⟨.succ a1,Ty.fL⟩
   ·have:=(iE d).2;omega
  ·intro s a b c hs k l A hn g hg r h;rw[Tm.cN] at hn;simp only[c_] at hn;rw[Tm.mD,cK aaK,cK aaK] at h;obtain⟨x,y,z,h1,m,B,d⟩:=Ln h;obtain⟨a1,a2⟩:=j a VW k g hg _ h1;obtain⟨o,u⟩:=j b VW l g hg _ m;obtain⟨C,F⟩:=j c VW A g hg _ B;simp only[gp,reduceIte,Int.reduceEq,Xd,Uo] at d
   split at d
   ·rename_i f;have f:x=s/\y=.fn .nat (.fn s s)/\z=.nat:=f;obtain⟨rfl,rfl,rfl⟩:=f;obtain rfl:=(iE d).1;exact⟨.tN hs a1 o C,hs⟩
   ·have:=(iE d).2;omega
  ·intro hn g hg r h;rw[Tm.mD,cK aaK,cK aaK,Tm.uk] at h;simp only[uY,gp,reduceIte,Int.reduceEq] at h;obtain rfl:=(iE h).1;exact⟨.nil,Ty.oS⟩
  ·intro a b k l hn g hg r h;rw[Tm.cN] at hn;simp only[c_] at hn;rw[Tm.mD,cK aaK,cK aaK] at h;obtain⟨s,t,h1,m,d⟩:=Ny h;obtain⟨a1,a2⟩:=j a VW k g hg _ h1;obtain⟨o,u⟩:=j b VW l g hg _ m;simp only[gp,reduceIte,Int.reduceEq,Xd,Uo] at d
   split at d
   ·rename_i f;obtain⟨rfl,rfl⟩:=f;obtain rfl:=(iE d).1;exact⟨.cons a1 o,Ty.oS⟩
   ·have:=(iE d).2;omega
  ·intro s a b c hs k l A hn g hg r h;rw[Tm.cN] at hn;simp only[c_] at hn;rw[Tm.mD,cK aaK,cK aaK] at h;obtain⟨x,y,z,h1,m,B,d⟩:=Ln h;obtain⟨a1,a2⟩:=j a VW k g hg _ h1;obtain⟨o,u⟩:=j b VW l g hg _ m;obtain⟨C,F⟩:=j c VW A g hg _ B;simp only[gp,reduceIte,Int.reduceEq,Xd,Uo] at d
   split at d
   ·rename_i f;have f:x=s/\y=.fn .nat (.fn .o6 (.fn s s))/\z=.o6:=f;obtain⟨rfl,rfl,rfl⟩:=f;obtain rfl:=(iE d).1;exact⟨.fold hs a1 o C,hs⟩
   ·have:=(iE d).2;omega
  ·intro a b k l hn g hg r h;rw[Tm.cN] at hn;simp only[c_] at hn;rw[Tm.mD,cK aaK,cK aaK] at h;obtain⟨s,t,h1,m,d⟩:=Ny h;obtain⟨a1,a2⟩:=j a VW k g hg _ h1;obtain⟨o,u⟩:=j b VW l g hg _ m;simp only[gp,reduceIte,Int.reduceEq,Xd,Uo] at d
   split at d
   ·have:=(iE d).2;omega
   ·rename_i f;have he:=Ty.Ni a2 u VW;obtain rfl:=(iE d).1;exact⟨.pair he a1 o,he⟩
  ·intro a k hn g hg r h;rw[Tm.cN] at hn;simp only[c_] at hn;rw[Tm.mD,cK aaK,cK aaK] at h;obtain⟨s,h1,d⟩:=MM h;obtain⟨a1,a2⟩:=j a VW k g hg _ h1;simp only[gp,reduceIte,Int.reduceEq,Xd] at d
   split at d
   ·rename_i f;obtain⟨x,y,rfl,w,hy⟩:=zI a2 f;obtain rfl:=(iE d).1;exact⟨.fst a1,w⟩
   ·have:=(iE d).2;omega
  ·intro a k hn g hg r h;rw[Tm.cN] at hn;simp only[c_] at hn;rw[Tm.mD,cK aaK,cK aaK] at h;obtain⟨s,h1,d⟩:=MM h;obtain⟨a1,a2⟩:=j a VW k g hg _ h1;simp only[gp,reduceIte,Int.reduceEq,Xd] at d
   split at d
   ·rename_i f;obtain⟨x,y,rfl,w,hy⟩:=zI a2 f;obtain rfl:=(iE d).1;exact⟨.snd a1,hy⟩
   ·have:=(iE d).2;omega
  ·intro hn g hg r h;rw[Tm.mD,cK aaK,cK aaK,Tm.uk] at h;simp only[uY,gp,reduceIte,Int.reduceEq] at h;obtain rfl:=(iE h).1;exact⟨.unit,Ty.FL⟩
end Go.fB
namespace Go.fB
open Go
def jc(a:Ty):a.nw a=true:=(Ty.mi a a).2 rfl
def kW{a b:Ty}(h:a≠b):a.nw b=false:=by grind[Ty.mi]
def nS{n:Nat}{g:List Ty}:∀(l:List Tm) (i:Nat) (v:List Ty),(∀a∈l,ey n g a=some (a.ty g))->v.length+l.length<=1000->dN (λ(m:Int) (j:Tm)=>(λ(c:List Ty)=>
   cT (ey n g j) λd f=>
   if(dw f 0) then(
   some (eL.ret ((Ty.mk 0 []),f)))
   else(fD (eJ c [d])<|some (.next (fa c [d])))):Int->Tm->((List Ty))->(Option (eL ((List Ty)) (Ty×Int)))) l i v=some (match Tm.uk l g with|.inl ts=>.inl (v++ts)|.inr e=>.inr (.z,e))
 |[],i,v,_,_=>by simp[Tm.uk]|a::l,i,v,h,o=>by
  simp only[kN] at o;have p:=h a aa4;rw[dJ,Tm.uk];rw[p]
  by_cases k:(a.ty g).2=0
  ·rw[yi k,p8 rfl];simp only[cJ];rw[cK aaK,dS aa_];simp only[cX,cH,dW];rw[nS l (i+1) _ (λb q=>h b (by simp[q])) (by rw[fx];simp;omega),fx];cases Tm.uk l g with
   |inl ts=>simp|inr e=>rfl
  ·rw[p6 k];generalize a.ty g=r at k;obtain⟨t,e⟩:=r;simp only[cJ];rw[cO (by simpa[dw] using k)];rfl
def zS(l:List Tm)(g:List Ty):(∃e,e≠0/\Tm.uk l g=.inr e)\/∃ts,Tm.uk l g=.inl ts/\ts.length=l.length/\∀(i:Nat) (a:Tm),l[i]?=some a->∃s,ts[i]?=some s/\a.ty g=(s,0):=by
 induction l with
 |nil=>exact .inr ⟨[],by rw[Tm.uk],rfl,aa4⟩|cons a l b=>
  rw[Tm.uk]
  grind[p8,p6]
def M9{f:List Ty->Ty×Int}{e:Int}:uY f (.inr e)=(.z,e):=rfl
def oe{f:List Ty->Ty×Int}{l:List Ty}:uY f (.inl l)=f l:=rfl
def Cj{a:Tm}{g:List Ty}(b:a.ok=true)(hg:jd g):(∃e,e≠0/\Tm.uk [a] g=.inr e)\/∃s,Tm.uk [a] g=.inl [s]/\s.err=0:=by
 rcases zS [a] g with h|⟨ts,h1,c,d⟩
 ·grind
 ·obtain⟨s,i,f⟩:=d 0 a rfl
  match ts,c with
  |[x],_=>
   obtain rfl:x=s:=by grind
   exact .inr ⟨x,h1,(qk _ a (gu _) b g hg _ f).2⟩
def BN{a b:Tm}{g:List Ty}(d:a.ok=true)(f:b.ok=true)(hg:jd g):(∃e,e≠0/\Tm.uk [a,b] g=.inr e)\/∃s t,Tm.uk [a,b] g=.inl [s,t]/\s.err=0/\t.err=0:=by
 rcases zS [a,b] g with h|⟨ts,h1,i,c⟩
 ·exact .inl h
 ·obtain⟨s,l,j⟩:=c 0 a rfl;obtain⟨t,m,k⟩:=c 1 b rfl
  match ts,i with
  |[x,y],_=>
   obtain rfl:x=s:=by grind
   obtain rfl:y=t:=by grind
   exact .inr ⟨x,y,h1,(qk _ a (gu _) d g hg _ j).2,(qk _ b (gu _) f g hg _ k).2⟩
def AY{a b c:Tm}{g:List Ty}(f:a.ok=true)(i:b.ok=true)(j:c.ok=true)(hg:jd g):(∃e,e≠0/\Tm.uk [a,b,c] g=.inr e)\/∃s t u,Tm.uk [a,b,c] g=.inl [s,t,u]/\s.err=0/\t.err=0/\u.err=0:=by
 rcases zS [a,b,c] g with h|⟨ts,h1,k,d⟩
 ·exact .inl h
 ·obtain⟨s,p,l⟩:=d 0 a rfl;obtain⟨t,q,m⟩:=d 1 b rfl;obtain⟨u,n,o⟩:=d 2 c rfl
  match ts,k with
  |[x,y,z],_=>
   obtain rfl:x=s:=by grind
   obtain rfl:y=t:=by grind
   obtain rfl:z=u:=by simpa using n
   exact .inr ⟨x,y,z,h1,(qk _ a (gu _) f g hg _ l).2,(qk _ b (gu _) i g hg _ m).2,(qk _ c (gu _) j g hg _ o).2⟩
def D0{t:Ty}(h:t.acU<=1000000000)(a:t.ok=true):s7 t=some (if 64<t.acU then(.z,4)else(t,0)):=by
 unfold s7;rw[lO h];unfold Ty.err;rw[cO a]
 split
 ·rfl
 ·rfl
section
variable{s x y z:Ty}
def zD:((x.acS=4/\x.acT.getD 0 .z=y)->gp 3 s [x,y]=(x.acT.getD 1 .z,0))/\(¬(x.acS=4/\x.acT.getD 0 .z=y)->gp 3 s [x,y]=(.z,7)):=by
 unfold gp
 grind
def E9:(x=.nat->gp 5 s [x]=(.nat,0))/\(x≠ .nat->gp 5 s [x]=(.z,7)):=by
 unfold gp
 grind
def vC:((x=s/\y=.fn .nat (.fn s s)/\z=.nat)->gp 6 s [x,y,z]=(s,0))/\(¬(x=s/\y=.fn .nat (.fn s s)/\z=.nat)->gp 6 s [x,y,z]=(.z,7)):=by
 unfold gp
 grind
def zV:((x=.nat/\y=.o6)->gp 8 s [x,y]=(.o6,0))/\(¬(x=.nat/\y=.o6)->gp 8 s [x,y]=(.z,7)):=by
 unfold gp
 grind
def vu:((x=s/\y=.fn .nat (.fn .o6 (.fn s s))/\z=.o6)->gp 9 s [x,y,z]=(s,0))/\(¬(x=s/\y=.fn .nat (.fn .o6 (.fn s s))/\z=.o6)->gp 9 s [x,y,z]=(.z,7)):=by
 unfold gp
 grind
def Lq:gp 10 s [x,y]=if 64<1+x.acU+y.acU then(.z,4)else(.pr x y,0):=by
 rfl
def L3:gp 11 s [x]=if x.acS=3 then(x.acT.getD 0 .z,0)else(.z,7):=by
 rfl
def KY:gp 12 s [x]=if x.acS=3 then(x.acT.getD 1 .z,0)else(.z,7):=by
 rfl
end
def yJ:∀(n:Nat) (t:Tm),t.acU<=n->t.ok=true->∀g,jd g->g.length+t.acU<=1000000->ey n g t=some (t.ty g):=by
 intro n
 induction n with
 |zero=>intro t h;have:=t.dp;omega
 |succ n m=>
  intro t hn K;refine Tm.ow (p:=λt=>t.acU<=n+1->∀g,jd g->g.length+t.acU<=1000000->ey (n+1) g t=some (t.ty g)) ?_ ?_ ?_ ?_ ?_ ?_ ?_ ?_ ?_ ?_ ?_ ?_ ?_ t K hn
  ·intro i _ g hg k;rw[Tm.cN] at k;rw[ey,cO abq,Tm.mD,cO rfl]
   by_cases hi:(i:Int)<(g.length:Int)
   ·rw[cK (by simp only[Tm.eP,ej,ib];omega),cO hi];simp only[Tm.eP,ej];rw[ed (a:=(g.length:Int)) VW VW,ed VW VW]
    have w:g.length-1-i<g.length:=VW
    have:de g ((g.length:Int)-1-(i:Int))=some g[g.length-1-i]:=by
     unfold de;rw[cO VW,show((g.length:Int)-1-(i:Int)).toNat=g.length-1-i by omega,oO w]
    rw[this];simp only[cH];have F:=hg _ (GH w);rw[gT (by have:=ec F;omega)];simp only[cH,AN];rw[Nu,oO w];rfl
   ·rw[cO (by simp only[Tm.eP,ej,ib];omega),cK hi];rfl
  ·intro s b hs k hn g hg d;rw[Tm.cN] at hn d;simp only[c_] at hn d;rw[ey,cK aa4,cO abq,Tm.mD,cK aaK,cO rfl,Tm.Y9];simp only[Tm.dR,Tm.dd,dv,iB,cH,fx];rw[dS aa_,cX,m b VW k (g++[s]) (hg.app hs) aa_];have I:=λh=>(qk _ b (gu _) k (g++[s]) (hg.app hs) (b.ty (g++[s])).1 (yi h)).2;generalize b.ty (g++[s])=q at I;obtain⟨r,e⟩:=q;simp only[cJ,Mr]
   by_cases G:e=0
   ·subst G;have J:r.err=0:=I rfl;have h1:=ec hs;have L:=ec J;rw[cK aaK,cK aa4,hQ VW VW];simp only[cH];rw[D0 (t:=Ty.fn s r) (by rw[Ty.iX];omega) (Ty.ok_two (.inr rfl) (Ty.lJ hs).1 (Ty.lJ J).1),Ty.iX]
    split<;>rfl
   ·rw[cO (by simpa[dw] using G),cO G];rfl
  ·intro a b j k hn g hg d;rw[Tm.cN] at hn d;simp only[c_] at hn d;rw[ey,cK aa4,cK aa4,Tm.mD,cK aaK,cK aaK];simp only[c6,Tm.dd,db (l:=[a,b]) aa4,cX];rw[nS [a,b] 0 [] (by intro x f;simp at f;rcases f with rfl|rfl<;>first|exact m _ VW j g hg VW|exact m _ VW k g hg VW) aa4];rcases BN j k hg with⟨e,he,h⟩|⟨s,t,h,hs,D⟩
   ·rw[h];rfl
   ·rw[h,oe];simp only[cH,cU,ep,fA];rw[cO abq];simp only[mR,dv,e9,iB,mc,cH]
    by_cases o:s.acS=4
    ·obtain⟨x,y,rfl,f,hy⟩:=J' hs o;rw[cK (by simp[Ty.fn,dw]),show(Ty.fn x y).acT[0]?=some x from rfl];simp only[cH];rw[gU (by have:=ec f;omega)];simp only[cH]
     by_cases A:x=t
     ·subst A;rw[jc,cK aaK,show(Ty.fn x y).acT[1]?=some y from rfl,(zD (x:=.fn x y) (y:=x)).1 ⟨rfl,rfl⟩];rfl
     ·rw[kW A,cO aaK,(zD (x:=.fn x y) (y:=t)).2 (λh=>A h.2)];rfl
    ·rw[cO (by simpa[dw] using o),cO trivial,zD.2 (λh=>o h.1)];rfl
  ·intro hn g hg d;rw[Tm.mD,cK aaK,cK aaK,Tm.uk];rfl
  ·intro a j hn g hg d;rw[Tm.cN] at hn d;simp only[c_] at hn d;rw[ey,cK aa4,cK aa4,Tm.mD,cK aaK,cK aaK];simp only[c6,Tm.dd,db (l:=[a]) aa4,cX];rw[nS [a] 0 [] (by intro x f;simp at f;subst f;exact m _ VW j g hg VW) aa4];rcases Cj j hg with⟨e,he,h⟩|⟨s,h,hs⟩
   ·rw[h];rfl
   ·rw[h,oe];simp only[cH,cU,ep,fA];rw[cK aa4,cK aa4,cO abq];simp only[mR,dv,iB,cH];rw[gU (by have:=ec hs;omega)];simp only[cH]
    by_cases B:s=.nat
    ·subst B;rw[jc,cO rfl,E9.1 rfl]
    ·rw[kW B,cK aaK,E9.2 B];rfl
  ·intro s a b c hs j k E hn g hg d;rw[Tm.cN] at hn d;simp only[c_] at hn d;rw[ey,cK aa4,cK aa4,Tm.mD,cK aaK,cK aaK];simp only[c6,Tm.dd,db (l:=[a,b,c]) aa4,cX];rw[nS [a,b,c] 0 [] (by intro x f;simp at f;rcases f with rfl|rfl|rfl<;>first|exact m _ VW j g hg VW|exact m _ VW k g hg VW|exact m _ VW E g hg VW) aa4];rcases AY j k E hg with⟨e,he,h⟩|⟨x,y,z,h,f,hy,H⟩
   ·rw[h];rfl
   ·have h1:=ec hs;rw[h,oe];simp only[cH,cU,ep,fA];rw[cK aa4,cK aa4,cK aa4,cO abq];simp only[mR,dv,e9,il,iB,mc,cH,Tm.dR];rw[gU (by have:=ec f;omega)];simp only[cH]
    by_cases u:x=s
    ·subst u;rw[jc,cO rfl,hQ VW VW];simp only[cH];rw[hQ (by rw[Ty.gd];omega) (by rw[Ty.iX];omega)];simp only[cH];rw[gU (by have:=ec hy;omega)];simp only[cH]
     by_cases v:y=.fn .nat (.fn x x)
     ·subst v;rw[jc,cO rfl,gU (by have:=ec H;omega)];simp only[cH]
      by_cases C:z=.nat
      ·subst C;rw[jc,cK aaK,gT VW,vC.1 ⟨rfl,rfl,rfl⟩];rfl
      ·rw[kW C,cO aaK,vC.2 (λh=>C h.2.2)];rfl
     ·rw[kW v,cK aaK,cO trivial,vC.2 (λh=>v h.2.1)];rfl
    ·rw[kW u,cK aaK,cO trivial,vC.2 (λh=>u h.1)];rfl
  ·intro hn g hg d;rw[Tm.mD,cK aaK,cK aaK,Tm.uk];rfl
  ·intro a b j k hn g hg d;rw[Tm.cN] at hn d;simp only[c_] at hn d;rw[ey,cK aa4,cK aa4,Tm.mD,cK aaK,cK aaK];simp only[c6,Tm.dd,db (l:=[a,b]) aa4,cX];rw[nS [a,b] 0 [] (by intro x f;simp at f;rcases f with rfl|rfl<;>first|exact m _ VW j g hg VW|exact m _ VW k g hg VW) aa4];rcases BN j k hg with⟨e,he,h⟩|⟨s,t,h,hs,D⟩
   ·rw[h];rfl
   ·rw[h,oe];simp only[cH,cU,ep,fA];rw[cK aa4,cK aa4,cK aa4,cK aa4,cK aa4,cO abq];simp only[mR,dv,e9,iB,mc,cH];rw[gU (by have:=ec hs;omega)];simp only[cH]
    by_cases u:s=.nat
    ·subst u;rw[jc,cO rfl,gU (by have:=ec D;omega)];simp only[cH]
     by_cases v:t=.o6
     ·subst v;rw[jc,cK aaK,zV.1 ⟨rfl,rfl⟩]
     ·rw[kW v,cO aaK,zV.2 (λh=>v h.2)];rfl
    ·rw[kW u,cK aaK,cO trivial,zV.2 (λh=>u h.1)];rfl
  ·intro s a b c hs j k E hn g hg d;rw[Tm.cN] at hn d;simp only[c_] at hn d;rw[ey,cK aa4,cK aa4,Tm.mD,cK aaK,cK aaK];simp only[c6,Tm.dd,db (l:=[a,b,c]) aa4,cX];rw[nS [a,b,c] 0 [] (by intro x f;simp at f;rcases f with rfl|rfl|rfl<;>first|exact m _ VW j g hg VW|exact m _ VW k g hg VW|exact m _ VW E g hg VW) aa4];rcases AY j k E hg with⟨e,he,h⟩|⟨x,y,z,h,f,hy,H⟩
   ·rw[h];rfl
   ·have h1:=ec hs;rw[h,oe];simp only[cH,cU,ep,fA];rw[cK aa4,cK aa4,cK aa4,cK aa4,cK aa4,cK aa4,cO abq];simp only[mR,dv,e9,il,iB,mc,cH,Tm.dR];rw[gU (by have:=ec f;omega)];simp only[cH]
    by_cases u:x=s
    ·subst u;rw[jc,cO rfl,hQ VW VW];simp only[cH];rw[hQ (by rw[Ty.oH];omega) (by rw[Ty.iX];omega)];simp only[cH];rw[hQ (by rw[Ty.gd];omega) (by rw[Ty.iX,Ty.iX,Ty.oH];omega)];simp only[cH];rw[gU (by have:=ec hy;omega)];simp only[cH]
     by_cases v:y=.fn .nat (.fn .o6 (.fn x x))
     ·subst v;rw[jc,cO rfl,gU (by have:=ec H;omega)];simp only[cH]
      by_cases C:z=.o6
      ·subst C;rw[jc,cK aaK,gT VW,vu.1 ⟨rfl,rfl,rfl⟩];rfl
      ·rw[kW C,cO aaK,vu.2 (λh=>C h.2.2)];rfl
     ·rw[kW v,cK aaK,cO trivial,vu.2 (λh=>v h.2.1)];rfl
    ·rw[kW u,cK aaK,cO trivial,vu.2 (λh=>u h.1)];rfl
  ·intro a b j k hn g hg d;rw[Tm.cN] at hn d;simp only[c_] at hn d;rw[ey,cK aa4,cK aa4,Tm.mD,cK aaK,cK aaK];simp only[c6,Tm.dd,db (l:=[a,b]) aa4,cX];rw[nS [a,b] 0 [] (by intro x f;simp at f;rcases f with rfl|rfl<;>first|exact m _ VW j g hg VW|exact m _ VW k g hg VW) aa4];rcases BN j k hg with⟨e,he,h⟩|⟨s,t,h,hs,D⟩
   ·rw[h];rfl
   ·have h1:=ec hs;have L:=ec D;rw[h,oe];simp only[cH,cU,ep,fA];rw[cK aa4,cK aa4,cK aa4,cK aa4,cK aa4,cK aa4,cK aa4,cO abq];simp only[mR,dv,e9,iB,mc,cH];rw[xE VW VW];simp only[cH];rw[D0 (t:=Ty.pr s t) (by rw[Ty.vd];omega) (Ty.ok_two (.inl rfl) (Ty.lJ hs).1 (Ty.lJ D).1),Ty.vd];rw[Lq]
    split<;>rfl
  ·intro a j hn g hg d;rw[Tm.cN] at hn d;simp only[c_] at hn d;rw[ey,cK aa4,cK aa4,Tm.mD,cK aaK,cK aaK];simp only[c6,Tm.dd,db (l:=[a]) aa4,cX];rw[nS [a] 0 [] (by intro x f;simp at f;subst f;exact m _ VW j g hg VW) aa4];rcases Cj j hg with⟨e,he,h⟩|⟨s,h,hs⟩
   ·rw[h];rfl
   ·rw[h,oe];simp only[cH,cU,ep,fA];rw[cK aa4,cK aa4,cK aa4,cK aa4,cK aa4,cK aa4,cK aa4,cK aa4,cO abq];simp only[mR,dv,iB,cH];rw[L3]
    by_cases o:s.acS=3
    ·obtain⟨x,y,rfl,f,hy⟩:=zI hs o;rw[cK (by simp[Ty.pr,dw]),cO abq,cO (show(Ty.pr x y).acS=3 from rfl)];rfl
    ·rw[cO (by simpa[dw] using o),cK o];rfl
  ·intro a j hn g hg d;rw[Tm.cN] at hn d;simp only[c_] at hn d;rw[ey,cK aa4,cK aa4,Tm.mD,cK aaK,cK aaK];simp only[c6,Tm.dd,db (l:=[a]) aa4,cX];rw[nS [a] 0 [] (by intro x f;simp at f;subst f;exact m _ VW j g hg VW) aa4];rcases Cj j hg with⟨e,he,h⟩|⟨s,h,hs⟩
   ·rw[h];rfl
   ·rw[h,oe];simp only[cH,cU,ep,fA];rw[cK aa4,cK aa4,cK aa4,cK aa4,cK aa4,cK aa4,cK aa4,cK aa4,cO abq];simp only[mR,dv,iB,cH];rw[KY]
    by_cases o:s.acS=3
    ·obtain⟨x,y,rfl,f,hy⟩:=zI hs o;rw[cK (by simp[Ty.pr,dw]),cK aa4,cO (show(Ty.pr x y).acS=3 from rfl)];rfl
    ·rw[cO (by simpa[dw] using o),cK o];rfl
  ·intro hn g hg d;rw[Tm.mD,cK aaK,cK aaK,Tm.uk];rfl
end Go.fB
namespace Go.fB
open Go
def HT:fP=eo:=by
 funext n
 induction n with
 |zero=>rfl|succ n c=>
  funext a b
  rw[fP,eo,c]
def rQ{a b:Ty}(h:a.acU<=1000000000):fP FU a b=some (a.nw b):=by rw[HT];exact gU h
def sg(t:Ty):cM:=⟨t,(t.acU:Int)⟩
def QD:cM:=⟨.mk 0 [],0⟩
def Hb(r:Ty×Int):cM×Int:=if r.2=0 then(sg r.1,0)else(QD,r.2)
@[simp] theorem py(t:Ty):Hb (t,0)=(sg t,0):=cO rfl
def kO{t:Ty}{e:Int}(h:e≠0):Hb (t,e)=(QD,e):=cK h
@[simp] theorem uc(t:Ty):(sg t).cP=t:=by rfl
@[simp] theorem IE(t:Ty):(sg t).acU=(t.acU:Int):=by rfl
theorem km{t:Ty}(h:t.err=0):mg t=some (sg t):=by
 unfold mg;rw[kM (by have:=ec h;omega),cO h];rfl
def zy(k:Int){a b:Ty}(c:a.acU<=1000000)(d:b.acU<=1000000):qY k (sg a) (sg b)=some (if 64<1+a.acU+b.acU then(QD,4)else(sg (.mk k [a,b]),0)):=by
 unfold qY;simp only[IE,uc];rw[dI (a:=1) VW VW,dI VW VW]
 by_cases h:64<1+a.acU+b.acU
 ·rw[cO (by simp only[eV];omega),cO h];rfl
 ·rw[cK (by simp only[eV];omega),cK h];unfold sg;rw[Ty.zR]
  congr 3
theorem rN{a b:Ty}(c:a.acU<=1000000):jx (sg a) (sg b)=some (a.nw b):=by
 unfold jx;simp only[c6,IE,uc]
 by_cases h:(a.acU:Int)=(b.acU:Int)
 ·rw[cO (by simpa[dg] using h),rQ VW];rfl
 ·rw[cK (by simpa[dg] using h),kW (by rintro rfl;exact h rfl)]
def rI{t x:Ty}{i:Int}(h:de t.acT i=some x)(a:x.err=0):iM (sg t) i=some (sg x):=by
 unfold iM;simp only[uc,h,cH,km a]
def vG:mo=some .nat:=rfl
def JT:xe=some .o6:=rfl
def RC{l:List Ty}(d:l.length<=1000):∀(i m:Nat) (k:Int) (as:List Ty),i<=l.length->i<m->lp ((Mp λ(a:Int) (v49:Int) (b:List Ty)=>
   if(sM a 0) then(
   cI (de l a) λc=>
   some (.next ((dZ .i64 a 1),4,[c,(Ty.mk v49 b)])))
   else(some (.AI (a,v49,b)))):(Int×Int×(List Ty))->(Option (eL (Int×Int×(List Ty)) (Ty)))) m ((i:Int)-1,k,as)=some (.inl (-1,((l.take i).foldr Ty.fn (.mk k as)).acS,((l.take i).foldr Ty.fn (.mk k as)).acT))
 |0,m+1,k,as,_,_=>by
  rw[kc];simp only[Mp];rw[cK (by rw[ib];omega)];rfl
 |i+1,m+1,k,as,hi,hm=>by
  rw[kc];simp only[Mp];rw[cO (by rw[ib];omega),show((i+1:Nat):Int)-1=(i:Int) by omega,im,oO VW];simp only[cH,dW];rw[ed VW VW];have h:=RC d i m 4 [l[i],.mk k as] VW VW;rw[h,Y1,oO VW];simp only[TJ,aaf,WZ,UA];rfl
def yv(t:Ty)(l:List Ty)(a:l.length<=1000):oo t l=some (l.foldr Ty.fn t):=by
 unfold oo;simp only[c6];rw[ej,ed VW VW];have h:=RC a l.length FU t.acS t.acT (gu _) (Vt VW);rw[h,cH];rw[ZB]
 have e:Ty.mk t.acS t.acT=t:=by cases t;rfl
 rw[e];generalize List.foldr Ty.fn t l=r;cases r;rfl
def PZ(a b t:Ty):oo t [a,b]=some (.fn a (.fn b t)):=yv t [a,b] aa4
def PQ(a b c t:Ty):oo t [a,b,c]=some (.fn a (.fn b (.fn c t))):=yv t [a,b,c] aa4
def PW(a t:Ty):oo t [a]=some (.fn a t):=yv t [a] aa4
def sd:List Ty->cM×cM×cM
 |[]=>(QD,QD,QD)|[a]=>(sg a,QD,QD)|[a,b]=>(sg a,sg b,QD)|a::b::c::_=>(sg a,sg b,sg c)
def Ea(x:cM)(k:Int):iw x k=some (dg x.cP.acS k):=rfl
def Ei(t:Ty)(k:Int):dg (sg t).cP.acS k=decide (t.acS=k):=by
 rw[uc];exact tL _ _
def EZ(s:Ty)(l:List Tm)(i:Int):pF (.mk 6 i s l)=some (.fn .nat (.fn s s)):=by
 unfold pF;rw[cK aa4];simp only[vG,cH];rw[PZ];rfl
def C'(s:Ty)(l:List Tm)(i:Int):pF (.mk 9 i s l)=some (.fn .nat (.fn .o6 (.fn s s))):=by
 unfold pF;rw[cO aa4];simp only[vG,JT,cH];rw[PQ];rfl
section
variable{s x y z:Ty} {i:Int} {l:List Tm}
def Rr(f:x.err=0)(hy:y.err=0):fi (.mk 3 i s l) (sd [x,y])=some (Hb (gp 3 s [x,y])):=by
 unfold fi;rw[show jb (Tm.mk 3 i s l).acS=some [] from rfl];simp only[cH];rw[cK aa4,cO abq];simp only[c6,sd,Ea,cH,Ei]
 by_cases d:x.acS=4
 ·obtain⟨a,b,rfl,e,g⟩:=J' f d;rw[cO abq,rI (t:=.fn a b) (x:=a) rfl e];simp only[cH];rw[rN (by have:=ec e;omega)];simp only[cH]
  by_cases c:a=y
  ·subst c;rw[jc,cK aa4,rI (t:=.fn a b) (x:=b) rfl g,(zD (x:=.fn a b) (y:=a)).1 ⟨rfl,rfl⟩];simp only[cH];rw[show(Ty.fn a b).acT.getD 1 .z=b from rfl,py]
  ·rw[kW c,cO aa4,(zD (x:=.fn a b) (y:=y)).2 (λh=>c h.2),kO aaK];rfl
 ·rw[cK (by simpa using d),cO trivial,zD.2 (λh=>d h.1),kO aaK];rfl
def O9(a:x.err=0)(hy:y.err=0):fi (.mk 10 i s l) (sd [x,y])=some (Hb (gp 10 s [x,y])):=by
 unfold fi;rw[show jb (Tm.mk 10 i s l).acS=some [] from rfl];simp only[cH];rw[cK aa4,cK aa4,cK aa4,cO abq];simp only[sd];rw[zy 3 (by have:=ec a;omega) (by have:=ec hy;omega),Lq]
 split
 ·simp only[cJ];rw[kO aaK]
 ·simp only[cJ];rw[py];rfl
def RS(d:x.err=0):fi (.mk 11 i s l) (sd [x])=some (Hb (gp 11 s [x])):=by
 unfold fi;rw[show jb (Tm.mk 11 i s l).acS=some [] from rfl];simp only[cH];rw[cK aa4,cK aa4,cK aa4,cK aa4];simp only[sd,Ea,cH,Ei];rw[L3]
 by_cases c:x.acS=3
 ·obtain⟨a,b,rfl,e,f⟩:=zI d c;rw[cO abq,cO abq,rI (t:=.pr a b) (x:=a) rfl e,cO (show(Ty.pr a b).acS=3 from rfl)];simp only[cH];rw[show(Ty.pr a b).acT.getD 0 .z=a from rfl,py]
 ·rw[cK (by simpa using c),cK c,kO aaK];rfl
def Rw(d:x.err=0):fi (.mk 12 i s l) (sd [x])=some (Hb (gp 12 s [x])):=by
 unfold fi;rw[show jb (Tm.mk 12 i s l).acS=some [] from rfl];simp only[cH];rw[cK aa4,cK aa4,cK aa4,cK aa4];simp only[sd,Ea,cH,Ei];rw[KY]
 by_cases c:x.acS=3
 ·obtain⟨a,b,rfl,f,e⟩:=zI d c;rw[cO abq,cK aa4,rI (t:=.pr a b) (x:=b) rfl e,cO (show(Ty.pr a b).acS=3 from rfl)];simp only[cH];rw[show(Ty.pr a b).acT.getD 1 .z=b from rfl,py]
 ·rw[cK (by simpa using c),cK c,kO aaK];rfl
end
end Go.fB
namespace Go.fB
open Go
section
variable{s x y z:Ty} {i:Int} {l:List Tm}
def yu{k t:Int}(a:jb k=some [t])(b:Ty.err (.mk t [])=0):fi (.mk k i s l) (sd [])=some (sg (.mk t []),0):=by
 unfold fi;rw[show(Tm.mk k i s l).acS=k from rfl,a,cH,cO (show kZ (di [t]) 0=true by rfl),show AT [t] 1 (di [t])=some ([]:List Int)from rfl];simp only[cH,db (l:=([]:List Int)) aa4,cX,c6,om,cU,dv,iB];rw[km b];rfl
def P8:fi (.mk 4 i s l) (sd [])=some (Hb (gp 4 s [])):=yu rfl Ty.fL
def Sc:fi (.mk 7 i s l) (sd [])=some (Hb (gp 7 s [])):=yu rfl Ty.oS
def PT:fi (.mk 13 i s l) (sd [])=some (Hb (gp 13 s [])):=yu rfl Ty.FL
def P9(b:x.err=0):fi (.mk 5 i s l) (sd [x])=some (Hb (gp 5 s [x])):=by
 unfold fi;rw[show jb (Tm.mk 5 i s l).acS=some [1,1] from rfl,cH,cO (show kZ (di ([1,1]:List Int)) 0=true by rfl),show AT ([1,1]:List Int) 1 (di ([1,1]:List Int))=some [1] from rfl];simp only[cH,db (l:=([1]:List Int)) aa4,cX,c6,sd];rw[dJ,cO abq];simp only[Ea,cH,Ei]
 by_cases a:x.acS=1
 ·have hn:=(uN b).1 a;subst hn;rw[xa abq,cK aaK];simp only[cH,dW,om,cU,dv,iB];rw[show mg (Ty.mk 1 [])=some (sg .nat)from km Ty.fL,E9.1 rfl,py];rfl
 ·rw[EY a,cO aaK,E9.2 (λh=>a ((uN b).2 h)),kO aaK];rfl
def Pz(c:x.err=0)(hy:y.err=0):fi (.mk 8 i s l) (sd [x,y])=some (Hb (gp 8 s [x,y])):=by
 unfold fi;rw[show jb (Tm.mk 8 i s l).acS=some [2,1,2] from rfl,cH,cO (show kZ (di ([2,1,2]:List Int)) 0=true by rfl),show AT ([2,1,2]:List Int) 1 (di ([2,1,2]:List Int))=some [1,2] from rfl];simp only[cH,db (l:=([1,2]:List Int)) aa4,cX,c6,sd];rw[dJ,cO abq];simp only[Ea,cH,Ei]
 by_cases b:x.acS=1
 ·have hn:=(uN c).1 b;subst hn;rw[xa abq,cK aaK];simp only[cH,dW];rw[dJ,cK aaK,cO abq]
  by_cases a:y.acS=2
  ·have hn:=(Cl hy).1 a;subst hn;rw[xa abq,cK aaK];simp only[cH,dW,om,cU,dv,iB];rw[show mg (Ty.mk 2 [])=some (sg .o6)from km Ty.oS,zV.1 ⟨rfl,rfl⟩,py];rfl
  ·rw[EY a,cO aaK,zV.2 (λh=>a ((Cl hy).2 h.2)),kO aaK];rfl
 ·rw[EY b,cO aaK,zV.2 (λh=>b ((uN c).2 h.1)),kO aaK];rfl
def RW(hs:s.err=0)(d:x.err=0)(hy:y.err=0)(e:z.err=0):fi (.mk 6 i s l) (sd [x,y,z])=some (Hb (gp 6 s [x,y,z])):=by
 unfold fi;rw[show jb (Tm.mk 6 i s l).acS=some [] from rfl];simp only[cH];rw[cK aaK,cK aa4,cO abq];simp only[c6,sd,Tm.dR,km hs,cH];rw[rN (by have:=ec d;omega)];simp only[cH]
 by_cases a:x=s
 ·subst a;rw[jc,cO rfl,EZ];simp only[cH,uc];rw[rQ (by have:=ec hy;omega)];simp only[cH]
  by_cases b:y=.fn .nat (.fn x x)
  ·subst b;rw[jc,cO rfl];simp only[Ea,cH];rw[show eu (dg (Tm.mk 6 i x l).acS 9) (2:Int) 1=1 from rfl];simp only[Ei]
   by_cases c:z=.nat
   ·subst c;rw[xa abq,cK aaK,vC.1 ⟨rfl,rfl,rfl⟩,py]
   ·rw[EY (λh=>c ((uN e).1 h)),cO aaK,vC.2 (λh=>c h.2.2),kO aaK];rfl
  ·rw[kW b,cK aaK,cO trivial,vC.2 (λh=>b h.2.1),kO aaK];rfl
 ·rw[kW a,cK aaK,cO trivial,vC.2 (λh=>a h.1),kO aaK];rfl
def Qi(hs:s.err=0)(d:x.err=0)(hy:y.err=0)(e:z.err=0):fi (.mk 9 i s l) (sd [x,y,z])=some (Hb (gp 9 s [x,y,z])):=by
 unfold fi;rw[show jb (Tm.mk 9 i s l).acS=some [] from rfl];simp only[cH];rw[cK aaK,cK aa4,cO abq];simp only[c6,sd,Tm.dR,km hs,cH];rw[rN (by have:=ec d;omega)];simp only[cH]
 by_cases a:x=s
 ·subst a;rw[jc,cO rfl,C'];simp only[cH,uc];rw[rQ (by have:=ec hy;omega)];simp only[cH]
  by_cases b:y=.fn .nat (.fn .o6 (.fn x x))
  ·subst b;rw[jc,cO rfl];simp only[Ea,cH];rw[show eu (dg (Tm.mk 9 i x l).acS 9) (2:Int) 1=2 from rfl];simp only[Ei]
   by_cases c:z=.o6
   ·subst c;rw[xa abq,cK aaK,vu.1 ⟨rfl,rfl,rfl⟩,py]
   ·rw[EY (λh=>c ((Cl e).1 h)),cO aaK,vu.2 (λh=>c h.2.2),kO aaK];rfl
  ·rw[kW b,cK aaK,cO trivial,vu.2 (λh=>b h.2.1),kO aaK];rfl
 ·rw[kW a,cK aaK,cO trivial,vu.2 (λh=>a h.1),kO aaK];rfl
end
def Vs(p:cM×cM×cM):Int×(List Ty)×Int×Int×(List Ty)×Int×Int×(List Ty)×Int:=
 (p.1.cP.acS,p.1.cP.acT,p.1.acU,p.2.1.cP.acS,p.2.1.cP.acT,p.2.1.acU,p.2.2.cP.acS,p.2.2.cP.acT,p.2.2.acU)
def Ep{n:Nat}{g:List Ty}:∀(l:List Tm) (d:List Ty),d.length+l.length<=3->(∀a∈l,dz n (g.map sg) a=some (Hb (a.ty g)))->dN (λ(f:Int) (x:Tm)=>(Yh λ(i:Int) (j:List Ty) (v218:Int) (k:Int) (m:List Ty) (o:Int) (v222:Int) (p:List Ty) (q:Int)=>
   cT (dz n (g.map sg) x) λc s=>
   if(dw s 0) then(
   some (.ret ((cM.mk (Ty.mk 0 []) 0),s)))
   else(if(dg f 0) then(
   some (.next (c.cP.acS,c.cP.acT,c.acU,k,m,o,v222,p,q)))
   else(if(dg f 1) then(
   some (.next (i,j,v218,c.cP.acS,c.cP.acT,c.acU,v222,p,q)))
   else(fD (dg f 2)<|some (.next (i,j,v218,k,m,o,c.cP.acS,c.cP.acT,c.acU)))))):Int->Tm->(Int×(List Ty)×Int×Int×(List Ty)×Int×Int×(List Ty)×Int)->(Option (eL (Int×(List Ty)×Int×Int×(List Ty)×Int×Int×(List Ty)×Int) (cM×Int)))) l d.length (Vs (sd d))=some (match Tm.uk l g with|.inl ts=>.inl (Vs (sd (d++ts)))|.inr e=>.inr (QD,e))
 |[],d,_,_=>by simp[Tm.uk]|a::l,d,hd,h=>by
  simp only[kN] at hd;rw[dJ,Tm.uk];have A:=h a aa4;simp only[Vs,Yh];rw[A]
  by_cases w:(a.ty g).2=0
  ·rw[yi w,p8 rfl,py,cJ,cK aaK];generalize (a.ty g).1=t
   have go:∀z:List Ty,z=d++[t]->(some (eL.next (Vs (sd z))):Option (eL (Int×(List Ty)×Int×Int×(List Ty)×Int×Int×(List Ty)×Int) (cM×Int)))=some (eL.next (Vs (sd (d++[t])))):=λz e=>by rw[e]
   have y:=Ep l (d++[t]) aa_ (λb B=>h b (by simp[B]));rw[oJ,kN,vo] at y
   have fin:(some (match Tm.uk l g with|.inl ts=>.inl (Vs (sd (d++[t]++ts)))|.inr e=>.inr (QD,e)):Option ((Int×(List Ty)×Int×Int×(List Ty)×Int×Int×(List Ty)×Int)⊕(cM×Int)))=some (match(match Tm.uk l g with|.inl ts=>Sum.inl (t::ts)|.inr e=>Sum.inr e:List Ty⊕Int)with|.inl ts=>.inl (Vs (sd (d++ts)))|.inr e=>.inr (QD,e)):=by
    cases Tm.uk l g with
    |inl ts=>simp|inr e=>rfl
   match d,hd with
   |[],_=>
    rw[cO abq];exact y.trans fin
   |[u],_=>
    rw[cK aa4,cO abq];exact y.trans fin
   |[u,v],_=>
    rw[cK aa4,cK aa4,show dg (([u,v].length:Nat):Int) 2=true from rfl,cX];exact y.trans fin
   |_::_::_::_,hd=>simp at hd;omega
  ·rw[p6 w];generalize a.ty g=r at w;obtain⟨t,e⟩:=r;simp only at w;rw[kO w,cJ,cO (by simpa[dw] using w)];rfl
def T5(p:cM×cM×cM):((cM.mk (Ty.mk p.1.cP.acS p.1.cP.acT) p.1.acU),(cM.mk (Ty.mk p.2.1.cP.acS p.2.1.cP.acT) p.2.1.acU),(cM.mk (Ty.mk p.2.2.cP.acS p.2.2.cP.acT) p.2.2.acU))=p:=by
 have e:∀t:Ty,Ty.mk t.acS t.acT=t:=λt=>by cases t;rfl
 obtain⟨⟨a,b⟩,⟨c,d⟩,⟨g,f⟩⟩:=p;simp only[e]
def kA{n:Nat}{g:List Ty}{k i:Int}{s:Ty}{l:List Tm}(h1:k≠1)(m:k≠2)(q:l.length<=3)(h:∀a∈l,dz n (g.map sg) a=some (Hb (a.ty g)))
  (hn:∀ts,Tm.uk l g=.inl ts->fi (.mk k i s l) (sd ts)=some (Hb (gp k s ts))):dz (n+1) (g.map sg) (.mk k i s l)=some (Hb ((Tm.mk k i s l).ty g)):=by
 rw[dz,cK (by simpa[dg] using h1),cK (by simpa[dg] using m),Tm.mD,cK h1,cK m];simp only[c6,Tm.dd];rw[db VW,cX];have f:=Ep l [] (by simpa using q) h;refine(congrArg (λo=>cI o _) f).trans ?_;simp only[cH];cases j:Tm.uk l g with
 |inr e=>
  rw[M9]
  have he:e≠0:=by
   rcases zS l g with⟨r,d,c⟩|⟨ts,d,_⟩
   ·rw[j] at c;cases c;exact d
   ·rw[j] at d;cases d
  rw[kO he];rfl
 |inl ts=>
  simp only[mR,cU,oe,Vs,Yh];rw[T5,hn ts j,show∀p:cM×Int,(cT (some p) λa b=>some (a,b))=some p fromλ_=>rfl]
end Go.fB
