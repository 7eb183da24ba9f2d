/- Part of the proof of TranslateStable: plain facts. -/
import Derived.Test.YtffcgfpaakhbjaaGreatDoorG1
set_option linter.all false
namespace Go.dG
open Go
@[simp] theorem eu(a b:Int):cn a b=true↔a=b:=by simp[cn]
@[simp] theorem cf(a b:Int):cF a b=true↔a≠b:=by simp[cF]
@[simp] theorem jC(a b:Int):sg a b=true↔a<b:=by simp[sg]
@[simp] theorem A2(a b:Int):DU a b=true↔a<=b:=by simp[DU]
@[simp] theorem eE(a b:Int):nG a b=true↔b<a:=by simp[nG]
@[simp] theorem fN(a b:Int):qJ a b=true↔b<=a:=by simp[qJ]
@[simp] theorem jB(a b:Bool):df a true b=(a||b):=by cases a<;>rfl
@[simp] theorem qi(a b:Bool):df a b false=(a&&b):=by cases a<;>rfl
@[simp] theorem Zm(a b:Bool):df a b true=(!a||b):=by cases a<;>rfl
@[simp] theorem Oq(a:Bool):nT a=!a:=rfl
@[simp] theorem eP{α:Type}(l m:List α):eA l m=l++m:=rfl
@[simp] theorem dI{α:Type}(l:List α):cI l=(l.length:Int):=rfl
theorem gQ{α:Type}(l:List α)(i:Nat):cr l (i:Int)=l[i]?:=by simp[cr]
@[simp] theorem cD{α:Type}(l:List α):cr l 0=l[0]?:=by simp[cr]
@[simp] theorem dV{α:Type}(l:List α):cr l 1=l[1]?:=by simp[cr]
@[simp] theorem gP{α:Type}(l:List α):cr l 2=l[2]?:=by simp[cr]
def Cw{α:Type}{l:List α}{i:Int}(b:0<=i)(c:i<l.length):∃x,cr l i=some x/\x∈l:=by
 obtain⟨k,rfl⟩:=WN b
 have a:k<l.length:=VW
 exact⟨l[k],by rw[gQ];simp[a],BB a⟩
def ch{α:Type}{l:List α}(h:l.length<=1000000000):cZ l=true:=by unfold cZ xy;exact tB VW
def de{α:Type}{l m:List α}(h:l.length+m.length<=1000000000):dZ l m=true:=by unfold dZ xy;exact tB VW
def Q9{b:Int}(h:b≠0):IE b=true:=by simp[IE,h]
def EM{n:Int}(a:-9223372036854775808<=n)(b:n<9223372036854775808):IntKind.i64.wrap n=n:=by
 rw[IntKind.wrap_i64];omega
def cX{a b:Int}(c:-9223372036854775808<=a+b)(d:a+b<9223372036854775808):c8 .i64 a b=a+b:=EM c d
theorem ds{a b:Int}(c:-9223372036854775808<=a-b)(d:a-b<9223372036854775808):dh .i64 a b=a-b:=EM c d
def wB{a b:Int}(c:-9223372036854775808<=a*b)(d:a*b<9223372036854775808):zL .i64 a b=a*b:=EM c d
section
variable{α β σ ρ:Type}
def HR{F:Int->α->σ->Option (dP σ ρ)}(I:σ->Prop)(Q:ρ->Prop):∀(l:List α) (i:Nat) (s:σ),I s->(∀k x s,l[k]?=some x->I s->(∃a,F ((i+k:Nat):Int) x s=some (.next a)/\I a)\/(∃r,F ((i+k:Nat):Int) x s=some (.ret r)/\Q r))->(∃a,cY F l i s=some (.inl a)/\I a)\/(∃r,cY F l i s=some (.inr r)/\Q r)
 |[],i,s,hs,_=>.inl ⟨s,rfl,hs⟩|x::l,i,s,hs,h=>by
  have e:=h 0 x s rfl hs;rw[Ec] at e;rw[cO];rcases e with⟨s1,b,c⟩|⟨r,b,c⟩
  ·rw[b];simp only[bT,cU];refine HR I Q l (i+1) s1 c λk y a f d=>?_;have:=h (k+1) y a (by simpa using f) d;rw[show i+(k+1)=i+1+k by omega] at this;exact this
  ·rw[b];exact .inr ⟨r,rfl,c⟩
def gZ{F:Int->α->List β->Option (dP (List β) ρ)}(g:α->β):∀(l:List α) (i:Nat) (v:List β),v.length+l.length<=1000000000->(∀j x v,x∈l->v.length+1<=1000000000->F j x v=some (.next (v++[g x])))->cY F l i v=some (.inl (v++l.map g))
 |[],i,v,_,_=>by simp|x::l,i,v,a,h=>by
  simp only[j0] at a;rw[cO,h i x v aas VW];simp only[bT,cU];rw[gZ g l (i+1) (v++[g x]) aaQ λj y v hy b=>h j y v (by simp[hy]) b];simp
def cm(g:α->Nat):List α->Nat
 |[]=>0|x::l=>g x+cm g l
def cy(g:α->Nat){l:List α}{x:α}(h:x∈l):g x<=cm g l:=by
 induction l with
 |nil=>cases h
 |cons y l a=>
  simp only[cm];rcases jW.1 h with rfl|h
  ·omega
  ·have:=a h;omega
def eV(g:α->Nat)(l:List α)(h:∀x∈l,1<=g x):l.length<=cm g l:=by
 induction l with
 |nil=>simp|cons y l a=>simp only[cm,j0];have:=h y aas;have:=a λx b=>h x (by simp[b]);omega
def oe{F:Int->α->Int->Option (dP Int ρ)}(g:α->Nat):∀(l:List α) (i v:Nat),v+cm g l<=4611686018427387904->(∀j x (v:Int),x∈l->F j x v=some (.next (c8 .i64 v (g x))))->cY F l i (v:Int)=some (.inl ((v+cm g l:Nat):Int))
 |[],i,v,_,_=>by simp[cm]|x::l,i,v,a,h=>by
  simp only[cm] at a|-;rw[cO,h i x v aas,cX VW VW];simp only[bT,cU];have:=oe g l (i+1) (v+g x) VW λj y v hy=>h j y v (by simp[hy]);rw[show(v:Int)+(g x:Int)=((v+g x:Nat):Int) by omega,this];rw[Pp]
def th{F:Int->α->Int->Option (dP Int ρ)}(g:α->Nat)(ok:α->Bool)(r:ρ):∀(l:List α) (i v:Nat),v+cm g l<=4611686018427387904->(∀j x (v:Int),x∈l->F j x v=if ok x then some (.next (c8 .i64 v (g x)))else some (.ret r))->cY F l i (v:Int)=if l.all ok then some (.inl ((v+cm g l:Nat):Int))else some (.inr r)
 |[],i,v,_,_=>by simp[cm]|x::l,i,v,b,h=>by
  simp only[cm] at b|-;rw[cO,h i x v aas,cX VW VW];cases a:ok x with
  |false=>simp[a]|true=>
   simp only[if_true,bT,cU,vq,a,zK];have:=th g ok r l (i+1) (v+g x) VW λj y v hy=>h j y v (by simp[hy]);rw[show(v:Int)+(g x:Int)=((v+g x:Nat):Int) by omega,this,Pp]
def oH{F:Int->α->Unit->Option (dP Unit ρ)}(ok:α->Bool)(r:ρ):∀(l:List α) (i:Nat),(∀j x,x∈l->F j x ()=if ok x then some (.next ())else some (.ret r))->cY F l i ()=if l.all ok then some (.inl ())else some (.inr r)
 |[],i,_=>by simp|x::l,i,h=>by
  rw[cO,h i x aas];cases a:ok x with
  |false=>simp[a]|true=>
   simp only[if_true,bT,cU,vq,a,zK];exact oH ok r l (i+1) λj y hy=>h j y (by simp[hy])
def dq:List Int->Int
 |[]=>0|e::l=>if e=0 then dq l else e
def kV{F:Int->α->Unit->Option (dP Unit Int)}(e:α->Int):∀(l:List α) (i:Nat),(∀j x,x∈l->F j x ()=if e x≠0 then some (.ret (e x))else some (.next ()))->cY F l i ()=if dq (l.map e)=0 then some (.inl ())else some (.inr (dq (l.map e)))
 |[],i,_=>by simp[dq]|x::l,i,h=>by
  rw[cO,h i x aas]
  by_cases he:e x=0
  ·simp only[he,dq,k_,ne_eq,TK,fL,bT,cU,if_true];exact kV e l (i+1) λj y hy=>h j y (by simp[hy])
  ·simp[he,dq]
def tp(p:α->β->Bool):List α->List β->Bool
 |x::l,y::m=>p x y&&tp p l m|[],[]=>true|_,_=>false
def wh{F:Int->α->Unit->Option (dP Unit Bool)}(p:α->β->Bool)(M:List β):∀(l:List α) (i:Nat) (m:List β),m=M.drop i->l.length=m.length->(∀(k:Nat) x y,x∈l->M[k]?=some y->F (k:Int) x ()=if p x y then some (.next ())else some (.ret false))->cY F l i ()=if tp p l m then some (.inl ())else some (.inr false)
 |[],i,m,_,d,_=>by
  cases m with
  |nil=>simp[tp]|cons y m=>simp at d
 |x::l,i,m,hm,d,h=>by
  cases m with
  |nil=>simp at d
  |cons y m=>
   have c:i<M.length:=by
    rcases sA i M.length with h'|h'
    ·exact h'
    ·rw[F_ h'] at hm;cases hm
   rw[Ma c] at hm;injection hm with f g;rw[cO,h i x y aas (by simp[c,f])];cases e:p x y with
   |false=>simp[tp,e]|true=>
    simp only[if_true,bT,cU,tp,e,zK];exact wh p M l (i+1) m g (by simpa using d) λk a b j n=>h k a b (by simp[j]) n
def vD(p:α->α->Bool):∀(l m:List α),(∀x∈l,∀y,p x y=true↔x=y)->(tp p l m=true↔l=m)
 |[],[],_=>by simp[tp]|[],_::_,_=>by simp[tp]|_::_,[],_=>by simp[tp]|x::l,y::m,h=>by simp[tp,h x aas y,vD p l m λa b=>h a (by simp[b])]
def CY{F:σ->Option (dP σ ρ)}(I:σ->Prop)(μ:σ->Nat)(Q:σ⊕ρ->Prop)
  (h:∀s,I s->(∃a,F s=some (.next a)/\I a/\μ a<μ s)\/(∃a,F s=some (.H9 a)/\Q (.inl a))\/(∃r,F s=some (.ret r)/\Q (.inr r))):∀(n:Nat) (s:σ),I s->μ s<n->∃o,nY F n s=some o/\Q o
 |0,s,_,hn=>by omega|n+1,s,hs,hn=>by
  rw[l6];rcases h s hs with⟨a,b,c,d⟩|⟨a,b,c⟩|⟨r,b,c⟩
  ·rw[b];simp only[bT,cU];exact CY I μ Q h n a c VW
  ·rw[b];exact⟨_,rfl,c⟩
  ·rw[b];exact⟨_,rfl,c⟩
def U6{n:Nat}(h:n<1000000000):n<FU:=by rw[cP];exact h
end
end Go.dG
namespace Go.dG
open Go
mutual
def Ty.aeb:Ty->Nat
 |.mk _ l=>1+Ty.mz l
def Ty.mz:List Ty->Nat
 |[]=>0|t::l=>t.aeb+Ty.mz l
end
def Ty.pR(l:List Ty):Ty.mz l=cm Ty.aeb l:=by
 induction l with
 |nil=>rfl|cons t l a=>simp[Ty.mz,cm,a]
theorem Ty.bY(k:Int)(l:List Ty):(Ty.mk k l).aeb=1+cm Ty.aeb l:=by rw[Ty.aeb,Ty.pR]
def Ty.cw(t:Ty):1<=t.aeb:=by cases t;rw[Ty.aeb];omega
def Ty.dm(l:List Ty):l.length<=cm Ty.aeb l:=eV _ _ λt _=>t.cw
def Ty.want(k:Int):Option Nat:=if k=1\/k=2\/k=5 then some 0 else if k=3\/k=4 then some 2 else none
mutual
def Ty.ok:Ty->Bool
 |.mk k l=>decide (Ty.want k=some l.length)&&Ty.H6 l
def Ty.H6:List Ty->Bool
 |[]=>true|t::l=>t.ok&&Ty.H6 l
end
def Ty.yD(l:List Ty):Ty.H6 l=l.all Ty.ok:=by
 induction l with
 |nil=>rfl|cons t l a=>simp[Ty.H6,a]
theorem Ty.ei(k:Int)(l:List Ty):(Ty.mk k l).ok=(decide (Ty.want k=some l.length)&&l.all Ty.ok):=by rw[Ty.ok,Ty.yD]
def Ty.err(t:Ty):Int:=if t.ok then(if 64<t.aeb then 4 else 0)else 2
def Ty.ind{p:Ty->Prop}(h:∀k l,(∀t∈l,p t)->p (.mk k l))(t:Ty):p t:=by
 have:∀n (t:Ty),t.aeb<=n->p t:=by
  intro n
  induction n with
  |zero=>intro t a;have:=t.cw;omega
  |succ n b=>
   intro t a;cases t with
   |mk k l=>
    rw[Ty.bY] at a;exact h k l λu hu=>b u (by have:=cy Ty.aeb hu;omega)
 exact this _ t (fT _)
def GQ:∀(n:Nat) (t:Ty),t.aeb<=n->t.aeb<=1000000000->gJ n t=some t:=by
 intro n
 induction n with
 |zero=>intro t h;have:=t.cw;omega
 |succ n a=>
  intro t h b;cases t with
  |mk k l=>
   rw[Ty.bY] at h b;have e:=Ty.dm l;rw[gJ];simp only[Ty.ck,Ty.cq,cg,ch (l:=l) VW,b9];rw[gZ id l 0 [] aaQ]
   ·simp
   ·intro j x v c d;have:=cy Ty.aeb c;rw[a x VW VW];simp[de (l:=v) (m:=[x]) (by simpa using d)]
def gI{t:Ty}(h:t.aeb<=1000000000):gJ FU t=some t:=GQ FU t (by rw[cP];exact h) h
def BK:∀(n:Nat) (t:Ty),t.aeb<=n->t.aeb<=1000000000->kY n t=some (if t.ok then((t.aeb:Int),true)else(0,false)):=by
 intro n
 induction n with
 |zero=>intro t h;have:=t.cw;omega
 |succ n p=>
  intro t h q;cases t with
  |mk k l=>
   rw[Ty.bY] at h q;have u:=Ty.dm l
   have key:cY (λ(i:Int) (c:Ty) (d:Int)=>b7 (kY n c) λe f=>if f then some (dP.next (c8 .i64 d e))else some (dP.ret ((0:Int),false))) l 0 1=if l.all Ty.ok then some (.inl ((1+cm Ty.aeb l:Nat):Int))else some (.inr (0,false)):=by
    refine th Ty.aeb Ty.ok _ l 0 1 VW ?_;intro j x v r;have:=cy Ty.aeb r;rw[p x VW VW];cases x.ok<;>simp
   rw[kY];simp only[Ty.ck,Ty.cq,cg,ch (l:=l) VW,b9,key,jB,o0,eu,cf,dI,Ty.ei,Ty.bY,Ty.want]
   by_cases m:k=1\/k=2\/k=5
   ·simp only[m,if_true]
    by_cases b:l=[]
    ·subst b;simp[cm]
    ·have:¬(0=l.length):=by cases l with|nil=>exact absurd rfl b|cons a l=>simp
     have g:(l.length:Int)≠0:=VW
     simp[this,g,b]
   ·simp only[m,fL]
    by_cases b:k=3\/k=4
    ·simp only[b,if_true]
     by_cases g:l.length=2
     ·cases o:l.all Ty.ok<;>simp[g]
     ·have o:(l.length:Int)≠2:=VW
      have s:¬2=l.length:=VW
      simp[o,s]
    ·simp[b]
theorem ka{t:Ty}(h:t.aeb<=1000000000):gH t=some (if t.err=0 then(t.aeb:Int)else 0,t.err):=by
 unfold gH Ty.err;rw[BK FU t (by rw[cP];exact h) h];cases t.ok with
 |false=>simp|true=>
  by_cases a:64<t.aeb
  ·simp[a];omega
  ·simp[a];omega
def tN{t:Ty}(h:t.aeb<=1000000000):jV t=some t.err:=by
 unfold jV;rw[ka h];rfl
def Ty.o9(t:Ty):Bool:=df (cn t.ad' 0) (cn (cI t.aea) 0) false
theorem Ty.i_(t:Ty):t.o9=true↔t=.mk 0 []:=by
 cases t with
 |mk k l=>unfold Ty.o9;simp
theorem qE(t:Ty):mC t=some t.o9:=rfl
def u9(t:Ty):oq t=some t.o9:=rfl
def F6:∀(n:Nat) (t:Ty),t.aeb<=n->t.aeb<=1000000000->oa n t=some t.ok:=by
 intro n
 induction n with
 |zero=>intro t h;have:=t.cw;omega
 |succ n m=>
  intro t h o;cases t with
  |mk k l=>
   rw[Ty.bY] at h o;have r:=Ty.dm l
   have key:cY (λ(f:Int) (c:Ty) (_:Unit)=>bU (oa n c) λd=>if d then some (dP.next ())else some (dP.ret false)) l 0 ()=if l.all Ty.ok then some (.inl ())else some (.inr false):=by
    refine oH Ty.ok _ l 0 ?_;intro j x p;have:=cy Ty.aeb p;rw[m x VW VW];rfl
   rw[oa];simp only[Ty.ck,Ty.cq,cg,ch (l:=l) VW,b9,key,jB,o0,eu,cf,dI,Ty.ei,Ty.want]
   by_cases g:k=1\/k=2\/k=5
   ·simp only[g,if_true]
    by_cases b:l=[]
    ·subst b;simp
    ·have:¬(0=l.length):=by cases l with|nil=>exact absurd rfl b|cons a l=>simp
     have e:(l.length:Int)≠0:=VW
     simp[this,e,b]
   ·simp only[g,fL]
    by_cases b:k=3\/k=4
    ·simp only[b,if_true]
     by_cases e:l.length=2
     ·cases i:l.all Ty.ok<;>simp[e]
     ·have i:(l.length:Int)≠2:=VW
      have q:¬2=l.length:=VW
      simp[i,q]
    ·simp[b]
def HJ:∀(n:Nat) (t:Ty),t.aeb<=n->t.aeb<=1000000000->pL n t=some (t.aeb:Int):=by
 intro n
 induction n with
 |zero=>intro t h;have:=t.cw;omega
 |succ n a=>
  intro t h b;cases t with
  |mk k l=>
   rw[Ty.bY] at h b;have d:=Ty.dm l;rw[pL];simp only[Ty.ck,cg,ch (l:=l) VW,b9]
   have key:=oe (ρ:=Int) (F:=λ(j:Int) (x:Ty) (v:Int)=>bU (pL n x) λy=>some (dP.next (c8 .i64 v y))) Ty.aeb l 0 1 VW (by
    intro j x v c;have:=cy Ty.aeb c;rw[a x VW VW]
    rfl)
   rw[show(1:Int)=((1:Nat):Int)from rfl,key];simp[Ty.bY]
def kU{t:Ty}(h:t.aeb<=1000000000):gO t=some t.err:=by
 unfold gO Ty.err;rw[F6 FU t (by rw[cP];exact h) h,HJ FU t (by rw[cP];exact h) h];cases t.ok with
 |false=>simp|true=>by_cases a:64<t.aeb<;>simp[a]<;>omega
def u7:∀(n:Nat) (a b:Ty),a.aeb<=n->a.aeb<=1000000000->∃r,du n a b=some r/\(r=true↔a=b):=by
 intro n
 induction n with
 |zero=>intro t b h;have:=t.cw;omega
 |succ n q=>
  intro a b h s;cases a with
  |mk k l=>
  cases b with
  |mk k' m=>
   rw[Ty.bY] at h s;have u:=Ty.dm l;rw[du];simp only[Ty.ck,Ty.cq,cg,ch (l:=l) VW,b9,jB,o0,cf,dI]
   by_cases d:k≠k'\/(l.length:Int)≠m.length
   ·rw[bX d];refine⟨false,rfl,?_⟩;simp only[gX,I7,Ty.mk.injEq,not_and];rintro rfl rfl;simp at d
   ·rw[bV d];simp only[not_or,vd] at d;obtain⟨rfl,hlen⟩:=d
    have c:l.length=m.length:=VW
    let p:Ty->Ty->Bool:=λx y=>(du n x y).getD false
    have i:∀x∈l,∀y,du n x y=some (p x y)/\(p x y=true↔x=y):=by
     intro x f y;have:=cy Ty.aeb f;obtain⟨r,o,g⟩:=q x y VW VW
     have e:p x y=r:=by show(du n x y).getD false=r;rw[o];rfl
     rw[e];exact⟨o,g⟩
    have key:=wh (F:=λ(j:Int) (x:Ty) (_:Unit)=>bU (cr m j) λy=>bU (du n x y) λz=>if z then some (dP.next ())else some (dP.ret false)) p m l 0 m rfl c (by
     intro k x y f hy;rw[gQ,hy];simp only[bT];rw[(i x f y).1]
     rfl)
    rw[key];have he:=vD p l m λx f y=>(i x f y).2;cases g:tp p l m with
    |false=>exact⟨false,rfl,by rw[g] at he;simpa using he⟩
    |true=>exact⟨true,rfl,by rw[g] at he;simpa using he⟩
noncomputable def Ty.jc (a b:Ty):Bool:=@decide (a=b) (Classical.propDecidable _)
theorem Ty.ja(a b:Ty):a.jc b=true↔a=b:=by unfold Ty.jc;simp
theorem gn{a b:Ty}(h:a.aeb<=1000000000):du FU a b=some (a.jc b):=by
 obtain⟨r,c,d⟩:=u7 FU a b (by rw[cP];exact h) h;rw[c]
 congr 1
 rw[A_,d,Ty.ja]
mutual
def Tm.aeb:Tm->Nat
 |.mk _ _ _ l=>1+Tm.mz l
def Tm.mz:List Tm->Nat
 |[]=>0|t::l=>t.aeb+Tm.mz l
end
def Tm.pR(l:List Tm):Tm.mz l=cm Tm.aeb l:=by
 induction l with
 |nil=>rfl|cons t l a=>simp[Tm.mz,cm,a]
theorem Tm.bY(k i:Int)(s:Ty)(l:List Tm):(Tm.mk k i s l).aeb=1+cm Tm.aeb l:=by rw[Tm.aeb,Tm.pR]
def Tm.cw(t:Tm):1<=t.aeb:=by cases t;rw[Tm.aeb];omega
def Tm.dm(l:List Tm):l.length<=cm Tm.aeb l:=eV _ _ λt _=>t.cw
mutual
def Tm.wt:Tm->Nat
 |.mk _ _ s l=>1+s.aeb+Tm.MK l
def Tm.MK:List Tm->Nat
 |[]=>0|t::l=>t.wt+Tm.MK l
end
def Tm.Cc(l:List Tm):Tm.MK l=cm Tm.wt l:=by
 induction l with
 |nil=>rfl|cons t l a=>simp[Tm.MK,cm,a]
def Tm.fj(k i:Int)(s:Ty)(l:List Tm):(Tm.mk k i s l).wt=1+s.aeb+cm Tm.wt l:=by rw[Tm.wt,Tm.Cc]
def Tm.hD(t:Tm):1<=t.wt:=by cases t;rw[Tm.wt];omega
def Tm.m5(l:List Tm):l.length<=cm Tm.wt l:=eV _ _ λt _=>t.hD
def iO{α:Type}{f g:α->Nat}{l:List α}(h:∀x∈l,f x<=g x):cm f l<=cm g l:=by
 induction l with
 |nil=>simp[cm]|cons x l a=>simp only[cm];have:=h x aas;have:=a λy hy=>h y (by simp[hy]);omega
def r6{α β:Type}(f:β->Nat)(g:α->β)(l:List α):cm f (l.map g)=cm (λx=>f (g x)) l:=by
 induction l with
 |nil=>rfl|cons x l a=>simp[cm,a]
def xm{α:Type}{f g:α->Nat}{l:List α}(h:∀x∈l,f x=g x):cm f l=cm g l:=by
 induction l with
 |nil=>rfl|cons x l a=>simp[cm,h x aas,a λy hy=>h y (by simp[hy])]
def DD{α:Type}(f:α->Nat)(l m:List α):cm f (l++m)=cm f l+cm f m:=by
 induction l with
 |nil=>simp[cm]|cons x l a=>simp[cm,a];omega
def Tm.ind{p:Tm->Prop}(h:∀k i s l,(∀t∈l,p t)->p (.mk k i s l))(t:Tm):p t:=by
 have:∀n (t:Tm),t.aeb<=n->p t:=by
  intro n
  induction n with
  |zero=>intro t a;have:=t.cw;omega
  |succ n b=>
   intro t a;cases t with
   |mk k i s l=>
    rw[Tm.bY] at a;exact h k i s l λu hu=>b u (by have:=cy Tm.aeb hu;omega)
 exact this _ t (fT _)
def Tm.fX(t:Tm):t.aeb<=t.wt:=by
 induction t using Tm.ind with
 |h k i s l a=>rw[Tm.bY,Tm.fj];have:=iO a;omega
def hB(k:Int):Bool:=decide (k=2\/k=6\/k=9)
def eS(k:Int):Int:=
 if k=1\/k=4\/k=7\/k=13 then 0 else if k=2\/k=5\/k=11\/k=12 then 1 else if k=3\/k=8\/k=10 then 2 else if k=6\/k=9 then 3 else-1
def Tm.node(k i:Int)(s:Ty)(n:Nat):Bool:=
 decide ((n:Int)=eS k)&&decide (0<=i)&&(decide (k=1)||decide (i=0))&&(if hB k then decide (s.err=0)else s.o9)
mutual
def Tm.ok:Tm->Bool
 |.mk k i s l=>Tm.node k i s l.length&&Tm.H6 l
def Tm.H6:List Tm->Bool
 |[]=>true|t::l=>t.ok&&Tm.H6 l
end
def Tm.yD(l:List Tm):Tm.H6 l=l.all Tm.ok:=by
 induction l with
 |nil=>rfl|cons t l a=>simp[Tm.H6,a]
theorem Tm.ei(k i:Int)(s:Ty)(l:List Tm):(Tm.mk k i s l).ok=(Tm.node k i s l.length&&l.all Tm.ok):=by rw[Tm.ok,Tm.yD]
def Tm.err(t:Tm):Int:=if t.ok then(if 4096<t.aeb then 4 else 0)else 2
def Ht:∀(n:Nat) (t:Tm),t.wt<=n->t.wt<=1000000000->kf n t=some t:=by
 intro n
 induction n with
 |zero=>intro t h;have:=t.hD;omega
 |succ n a=>
  intro t h b;cases t with
  |mk k i s l=>
   rw[Tm.fj] at h b;have e:=Tm.m5 l;rw[kf];simp only[Tm.ck,Tm.cq,Tm.dQ,Tm.cQ,cg,ch (l:=l) VW,b9];rw[gZ id l 0 [] aaQ]
   ·simp[gI (t:=s) VW]
   ·intro j x v c d;have:=cy Tm.wt c;rw[a x VW VW];simp[de (l:=v) (m:=[x]) (by simpa using d)]
def sj{t:Tm}(h:t.wt<=1000000000):kf FU t=some t:=Ht FU t (by rw[cP];exact h) h
def ow(k:Int)(l:List Tm)(h:cm Tm.wt l<=1000000000):dO k l=some (Tm.mk k 0 (.mk 0 []) l):=by
 have c:=Tm.m5 l;unfold dO;simp only[cg,ch (l:=l) VW,b9];rw[gZ id l 0 [] aaQ]
 ·simp
 ·intro j x v a b;have:=cy Tm.wt a;rw[sj (t:=x) VW];simp[de (l:=v) (m:=[x]) (by simpa using b)]
def Fs(k:Int)(s:Ty)(l:List Tm)(hs:s.aeb<=1000000000)(h:cm Tm.wt l<=1000000000):kv k s l=some (Tm.mk k 0 s l):=by
 unfold kv;rw[ow k l h];simp[gI hs]
def GS(k:Int):tv k=some (eS k):=by
 unfold tv eS;simp only[jB,o0,eu]
 split<;>(try rfl)
 split<;>(try rfl)
 split<;>(try rfl)
 split<;>rfl
def mf:∀(n:Nat) (t:Tm),t.aeb<=n->t.aeb<=1000000000->dM n t=some (t.aeb:Int):=by
 intro n
 induction n with
 |zero=>intro t h;have:=t.cw;omega
 |succ n a=>
  intro t h b;cases t with
  |mk k i s l=>
   rw[Tm.bY] at h b;have d:=Tm.dm l;rw[dM];simp only[Tm.ck,cg,ch (l:=l) VW,b9]
   have key:=oe (ρ:=Int) (F:=λ(j:Int) (x:Tm) (v:Int)=>bU (dM n x) λy=>some (dP.next (c8 .i64 v y))) Tm.aeb l 0 1 VW (by
    intro j x v c;have:=cy Tm.aeb c;rw[a x VW VW]
    rfl)
   rw[show(1:Int)=((1:Nat):Int)from rfl,key];simp[Tm.bY]
def yP:∀(n:Nat) (t:Tm),t.wt<=n->t.wt<=1000000000->je n t=some t.ok:=by
 intro n
 induction n with
 |zero=>intro t h;have:=t.hD;omega
 |succ n p=>
  intro t h q;cases t with
  |mk k i s l=>
   rw[Tm.fj] at h q;have z:=Tm.m5 l
   have key:cY (λ(f:Int) (a:Tm) (_:Unit)=>bU (je n a) λb=>if b then some (dP.next ())else some (dP.ret false)) l 0 ()=if l.all Tm.ok then some (.inl ())else some (.inr false):=by
    refine oH Tm.ok _ l 0 ?_;intro j x r;have:=cy Tm.wt r;rw[p x VW VW];rfl
   rw[je]
   simp only[Tm.ck,Tm.cq,Tm.dQ,Tm.cQ,cg,ch (l:=l) VW,b9,key,jB,o0,eu,cf,jC,dI,Tm.ei,GS,bT,kU (t:=s) VW,u9]
   by_cases d:(l.length:Int)=eS k
   ·by_cases g:i<0
    ·have:¬0<=i:=VW
     simp[d,g,Tm.node,this]
    ·have u:0<=i:=VW
     by_cases m:k=1
     ·subst m;cases c:s.o9<;>cases e:l.all Tm.ok<;>simp_all [Tm.node,hB]
     ·by_cases c:i=0
      ·subst c;have o:cF 0 0=false:=rfl
       by_cases e:k=2\/k=6\/k=9
       ·have v:hB k=true:=by simp[hB,e]
        by_cases w:s.err=0<;>cases y:l.all Tm.ok<;>simp_all [Tm.node]
       ·have v:hB k=false:=by simp[hB,e]
        cases w:s.o9<;>cases y:l.all Tm.ok<;>simp_all [Tm.node]
      ·have o:cF i 0=true:=by simp[c]
       simp[d,g,m,c,o,Tm.node]
   ·simp[d,Tm.node]
def mc{t:Tm}(h:t.wt<=1000000000):kC t=some t.err:=by
 have:=t.fX;unfold kC Tm.err;rw[yP FU t (by rw[cP];exact h) h,mf FU t (by rw[cP];omega) VW];cases t.ok with
 |false=>simp|true=>by_cases a:4096<t.aeb<;>simp[a]<;>omega
def Hu(k:Int):tT k=some (if 1<=k/\k<14 then(eS k,true)else(0,false)):=by
 unfold tT;simp only[jB,o0,jC,fN]
 by_cases h:k<1\/14<=k
 ·rw[bX h,bV VW]
 ·rw[bV h,bX VW]
  have:k=1\/k=2\/k=3\/k=4\/k=5\/k=6\/k=7\/k=8\/k=9\/k=10\/k=11\/k=12\/k=13:=VW
  rcases this with rfl|rfl|rfl|rfl|rfl|rfl|rfl|rfl|rfl|rfl|rfl|rfl|rfl<;>rfl
def Hd(k:Int):tU k=some (hB k):=by
 unfold tU hB
 congr 1
 rw[A_];simp
def Ka{k:Int}{n:Nat}(h:(n:Int)=eS k):1<=k/\k<14:=by
 unfold eS at h
 repeat' split at h
 all_goals omega
def uB:∀(n:Nat) (t:Tm),t.wt<=n->t.wt<=1000000000->ij n t=some (if t.ok then((t.aeb:Int),true)else(0,false)):=by
 intro n
 induction n with
 |zero=>intro t h;have:=t.hD;omega
 |succ n r=>
  intro t h u;cases t with
  |mk k i s l=>
   rw[Tm.fj] at h u;have D:=Tm.m5 l;have hn:cm Tm.aeb l<=cm Tm.wt l:=iO λx _=>x.fX
   have key:cY (λ(o:Int) (a:Tm) (b:Int)=>b7 (ij n a) λc d=>if d then some (dP.next (c8 .i64 b c))else some (dP.ret ((0:Int),false))) l 0 1=if l.all Tm.ok then some (.inl ((1+cm Tm.aeb l:Nat):Int))else some (.inr (0,false)):=by
    refine th Tm.aeb Tm.ok _ l 0 1 VW ?_;intro j x v w;have:=cy Tm.wt w;rw[r x VW VW];cases x.ok<;>simp
   rw[ij];simp only[Tm.ck,Tm.cq,Tm.dQ,Tm.cQ,cg,ch (l:=l) VW,b9,key,Tm.ei,Tm.bY,Hu,Hd,ka (t:=s) VW,qE,bT,bW]
   by_cases e:(l.length:Int)=eS k
   ·have f:=Ka e;simp only[f,and_self,if_true,bW,BA,jB,qi,o0,eg,cf,jC,dI,e,ne_eq,TK,false_or]
    by_cases p:i<0
    ·have:¬0<=i:=VW
     simp[p,Tm.node,this]
    ·have y:0<=i:=VW
     by_cases q:k=1
     ·subst q;cases g:s.o9<;>cases m:l.all Tm.ok<;>simp_all [Tm.node,hB]
     ·by_cases g:i=0
      ·subst g
       by_cases m:k=2\/k=6\/k=9
       ·have z:hB k=true:=by simp[hB,m]
        by_cases A:s.err=0<;>cases B:l.all Tm.ok<;>simp_all [Tm.node]
       ·have z:hB k=false:=by simp[hB,m]
        cases A:s.o9<;>cases B:l.all Tm.ok<;>simp_all [Tm.node]
      ·simp[p,q,g,Tm.node]
   ·have C:Tm.node k i s l.length=false:=by simp[Tm.node,e]
    simp only[C,X0,gX,fL]
    by_cases f:1<=k/\k<14
    ·simp[f,e]
    ·simp[f]
def dB(k:Int):Int:=if k=2 then 1 else 0
def gE(k:Int):0<=dB k/\dB k<=1:=by unfold dB;split<;>omega
def mo(t:Tm):jO t=some (dB t.ad'):=by
 unfold jO dB;simp only[eu]
 split<;>rfl
mutual
def Tm.up(f b:Int):Tm->Tm
 |.mk k i s l=>.mk k (if k=1/\f<=i then i+b else i) s (Tm.Ud (f+dB k) b l)
def Tm.Ud(f b:Int):List Tm->List Tm
 |[]=>[]|t::l=>t.up f b::Tm.Ud f b l
end
def Tm.NG(f b:Int)(l:List Tm):Tm.Ud f b l=l.map (Tm.up f b):=by
 induction l with
 |nil=>rfl|cons t l a=>simp[Tm.Ud,a]
theorem Tm.fD(f b k i:Int)(s:Ty)(l:List Tm):(Tm.mk k i s l).up f b=.mk k (if k=1/\f<=i then i+b else i) s (l.map (Tm.up (f+dB k) b)):=by rw[Tm.up,Tm.NG]
mutual
def Tm.aef(m:Int):Tm->Bool
 |.mk _ i _ l=>decide (i<=m)&&Tm.sq m l
def Tm.sq(m:Int):List Tm->Bool
 |[]=>true|t::l=>t.aef m&&Tm.sq m l
end
def Tm.Cv(m:Int)(l:List Tm):Tm.sq m l=l.all (Tm.aef m):=by
 induction l with
 |nil=>rfl|cons t l a=>simp[Tm.sq,a]
theorem Tm.dp(m k i:Int)(s:Ty)(l:List Tm):(Tm.mk k i s l).aef m=(decide (i<=m)&&l.all (Tm.aef m)):=by rw[Tm.aef,Tm.Cv]
mutual
def Tm.aeh(a:Int):Tm->Nat
 |.mk k i _ l=>(if k=1/\i=a then 1 else 0)+Tm.wZ (a+dB k) l
def Tm.wZ(a:Int):List Tm->Nat
 |[]=>0|t::l=>t.aeh a+Tm.wZ a l
end
def Tm.Ci(a:Int)(l:List Tm):Tm.wZ a l=cm (Tm.aeh a) l:=by
 induction l with
 |nil=>rfl|cons t l b=>simp[Tm.wZ,cm,b]
def Tm.eC(a k i:Int)(s:Ty)(l:List Tm):(Tm.mk k i s l).aeh a=(if k=1/\i=a then 1 else 0)+cm (Tm.aeh (a+dB k)) l:=by rw[Tm.aeh,Tm.Ci]
def Tm.fW(t:Tm):∀a,t.aeh a<=t.aeb:=by
 induction t using Tm.ind with
 |h k i s l b=>
  intro a;rw[Tm.eC,Tm.bY];have:=iO (f:=Tm.aeh (a+dB k)) (g:=Tm.aeb) (l:=l) λx c=>b x c _
  split<;>omega
def Tm.m4(n i:Int)(s t:Tm):Tm:=if i=n then s.up 0 n else if n<i then .mk 1 (i-1) (.mk 0 []) [] else t
mutual
def Tm.eG:Int->Tm->Tm->Tm
 |n,.mk k i ty l,s=>if k=1 then Tm.m4 n i s (.mk k i ty l)else .mk k i ty (Tm.D6 (n+dB k) l s)
def Tm.D6:Int->List Tm->Tm->List Tm
 |_,[],_=>[]|n,t::l,s=>Tm.eG n t s::Tm.D6 n l s
end
def Tm.Jc(n:Int)(s:Tm)(l:List Tm):Tm.D6 n l s=l.map (λx=>Tm.eG n x s):=by
 induction l with
 |nil=>rfl|cons t l a=>simp[Tm.D6,a]
theorem Tm.ey(n:Int)(s:Tm)(k i:Int)(ty:Ty)(l:List Tm):Tm.eG n (Tm.mk k i ty l) s=if k=1 then Tm.m4 n i s (.mk k i ty l)else .mk k i ty (l.map (λx=>Tm.eG (n+dB k) x s)):=by rw[Tm.eG,Tm.Jc]
theorem Tm.lS(t:Tm):∀f b,(t.up f b).aeb=t.aeb:=by
 induction t using Tm.ind with
 |h k i s l a=>
  intro f b;rw[Tm.fD,Tm.bY,Tm.bY,r6];rw[xm λx c=>a x c _ _]
def vb{α β:Type}{p:β->Bool}{q:α->Bool}{g:α->β}{l:List α}(h:∀x∈l,p (g x)=q x):(l.map g).all p=l.all q:=by
 induction l with
 |nil=>rfl|cons x l a=>simp only[k_,vq,h x aas,a λy hy=>h y (by simp[hy])]
def Tm.Nj{k i j:Int}{s:Ty}{n:Nat}(h:k=1/\0<=i/\0<=j\/i=j):Tm.node k i s n=Tm.node k j s n:=by
 rcases h with⟨rfl,a,b⟩|rfl
 ·simp[Tm.node,a,b]
 ·rfl
theorem Tm.xM(t:Tm):∀f b,0<=f->0<=b->(t.up f b).ok=t.ok:=by
 induction t using Tm.ind with
 |h k i s l a=>
  intro f b e c;rw[Tm.fD,Tm.ei,Tm.ei,Eo,vb λx d=>a x d (f+dB k) b (by have:=gE k;omega) c]
  congr 1
  apply Tm.Nj
  split
  ·rename_i g;left;omega
  ·right;rfl
def yI:∀(n:Nat) (t:Tm) (m:Int),t.aeb<=n->t.aeb<=1000000000->jX n t m=some (t.aef m):=by
 intro n
 induction n with
 |zero=>intro t m h;have:=t.cw;omega
 |succ n e=>
  intro t m h f;cases t with
  |mk k i s l=>
   rw[Tm.bY] at h f;have o:=Tm.dm l
   have key:cY (λ(c:Int) (a:Tm) (_:Unit)=>bU (jX n a m) λb=>if b then some (dP.next ())else some (dP.ret false)) l 0 ()=if l.all (Tm.aef m) then some (.inl ())else some (.inr false):=by
    refine oH (Tm.aef m) _ l 0 ?_;intro j x g;have:=cy Tm.aeb g;rw[e x m VW VW];rfl
   rw[jX];simp only[Tm.ck,Tm.dQ,cg,ch (l:=l) VW,b9,key,eE,Tm.dp]
   by_cases d:m<i
   ·have:¬i<=m:=VW
    simp[d,this]
   ·have:i<=m:=VW
    cases p:l.all (Tm.aef m)<;>simp[d,this]
def DR:∀(n:Nat) (t:Tm) (f b:Int),t.aeb<=n->t.aeb<=1000000000->0<=f->f+t.aeb<=10000000000->0<=b->b<=10000000000->t.aef 1000000000000=true->qC n t f b=some (t.up f b):=by
 intro n
 induction n with
 |zero=>intro t f b h;have:=t.cw;omega
 |succ n q=>
  intro t f b h a z c r d hi;cases t with
  |mk k i s l=>
   rw[Tm.bY] at h a c;rw[Tm.dp] at hi;simp only[eg,m0,im] at hi;have A:=Tm.dm l;have B:=gE k;rw[qC];simp only[Tm.ck,Tm.dQ,Tm.cq,Tm.cQ,cg,ch (l:=l) VW,b9];rw[gZ (Tm.up (f+dB k) b) l 0 [] aaQ]
   ·rw[Tm.fD];simp only[bT,ca,m6,uq,Tm.mk.injEq,LC,BR]
    by_cases g:k=1/\f<=i
    ·obtain⟨rfl,o⟩:=g;rw[cX VW VW];have u:cn 1 1=true:=rfl
     have w:qJ i f=true:=by simp[o]
     simp[u,w,o]
    ·rw[bV g]
     have e:df (cn k 1) (qJ i f) false=false:=by
      rw[qi,P3];simp only[ne_eq,eg,eu,fN];exact g
     rw[e];rfl
   ·intro j x v p y;have:=cy Tm.aeb p;rw[mo];simp only[bT,Tm.cq];rw[cX VW VW,q x (f+dB k) b VW VW VW VW r d (hi.2 x p)];simp[de (l:=v) (m:=[x.up (f+dB k) b]) (by simpa using y)]
def ym:∀(n:Nat) (t:Tm) (a:Int),t.aeb<=n->t.aeb<=1000000000->0<=a->a+t.aeb<=10000000000->lM n t a=some (t.aeh a:Int):=by
 intro n
 induction n with
 |zero=>intro t a h;have:=t.cw;omega
 |succ n g=>
  intro t a h c q d;cases t with
  |mk k i s l=>
   rw[Tm.bY] at h c d;have r:=Tm.dm l;have u:=gE k;have m:cm (Tm.aeh (a+dB k)) l<=cm Tm.aeb l:=iO λx _=>x.fW _;rw[lM];simp only[Tm.ck,Tm.dQ,Tm.cq,cg,ch (l:=l) VW,b9]
   have o:df (df (cn k 1) (cn i a) false) (c8 .i64 0 1) 0=(((if k=1/\i=a then 1 else 0:Nat)):Int):=by
    by_cases f:k=1/\i=a
    ·obtain⟨rfl,rfl⟩:=f;simp[cn,df,c8,EM]
    ·have e:df (cn k 1) (cn i a) false=false:=by
      rw[qi,P3];simp only[ne_eq,eg,eu];exact f
     rw[e,bV f];rfl
   have key:=oe (ρ:=Int) (F:=λ(j:Int) (x:Tm) (v:Int)=>bU (jO (Tm.mk k i s l)) λb=>bU (lM n x (c8 .i64 a b)) λy=>some (dP.next (c8 .i64 v y)))
    (Tm.aeh (a+dB k)) l 0 (if k=1/\i=a then 1 else 0) (by split<;>omega) (by
    intro j x v p;have:=cy Tm.aeb p;rw[mo];simp only[bT,Tm.cq];rw[cX VW VW,g x _ VW VW VW VW]
    rfl)
   rw[o,key];simp[Tm.eC]
def Dk:∀(n:Nat) (t:Tm) (a b:Int) (s:Tm),t.aeb<=n->t.aeb<=1000000000->0<=a->0<=b->a+b+t.aeb<=5000000000->t.aef 1000000000000=true->t.ok=true->s.aeb<=1000000000->s.aef 1000000000000=true->uh n t a b s=some (Tm.eG (a+b) t s):=by
 intro n
 induction n with
 |zero=>intro t a b s h;have:=t.cw;omega
 |succ n r=>
  intro t a b s h o u z p hi c hs d;cases t with
  |mk k i ty l=>
   rw[Tm.bY] at h o p;rw[Tm.dp] at hi;rw[Tm.ei] at c;simp only[eg,m0,im] at hi c;have A:=Tm.dm l;have B:=gE k
   have w:0<=i:=by
    have:=c.1;simp only[Tm.node,eg,m0] at this;exact this.1.1.2
   rw[uh,Tm.ey];simp only[Tm.ck,Tm.dQ,Tm.cq,Tm.cQ,cg,ch (l:=l) VW,b9,eu];rw[cX VW VW]
   by_cases e:k=1
   ·rw[bX e,bX e];unfold Tm.m4
    by_cases f:i=a+b
    ·rw[bX f,bX f,DR FU s 0 (a+b) (by rw[cP];exact hs) hs VW VW VW VW d];rfl
    ·rw[bV f,bV f];simp only[eE]
     by_cases g:a+b<i
     ·rw[bX g,bX g,ds VW VW];rfl
     ·rw[bV g,bV g]
   ·rw[bV e,bV e];rw[gZ (λx=>Tm.eG (a+b+dB k) x s) l 0 [] aaQ]
    ·simp
    ·intro j x v q y;have:=cy Tm.aeb q;rw[mo];simp only[bT,Tm.cq];rw[cX VW VW,r x a (b+dB k) s VW VW u VW VW (hi.2 x q) (c.2 x q) hs d];rw[show a+(b+dB k)=a+b+dB k by omega];simp[de (l:=v) (m:=[Tm.eG (a+b+dB k) x s]) (by simpa using y)]
def Tm.oD(s t:Tm):∀n,t.ok=true->(Tm.eG n t s).aeb+t.aeh n=t.aeb+t.aeh n*s.aeb:=by
 induction t using Tm.ind with
 |h k i ty l g=>
  intro n a;rw[Tm.ei] at a;simp only[eg,im] at a;rw[Tm.ey,Tm.eC,Tm.bY]
  by_cases d:k=1
  ·subst d
   have j:l=[]:=by
    have:=a.1;simp only[Tm.node,eg,m0] at this;have h:=this.1.1.1;simp[eS] at h;exact h
   subst j;simp only[if_true,Tm.m4,cm,Ec,BR]
   by_cases e:i=n
   ·simp[e,Tm.lS];omega
   ·by_cases m:n<i<;>simp[e,m,Tm.bY,cm]
  ·simp only[d,fL,Nw,tu];rw[Tm.bY,r6]
   have:cm (λx=>(Tm.eG (n+dB k) x s).aeb) l+cm (Tm.aeh (n+dB k)) l=cm Tm.aeb l+cm (Tm.aeh (n+dB k)) l*s.aeb:=by
    have b:∀x∈l,(Tm.eG (n+dB k) x s).aeb+x.aeh (n+dB k)=x.aeb+x.aeh (n+dB k)*s.aeb:=λx c=>g x c _ (a.2 x c);clear g a
    induction l with
    |nil=>simp[cm]|cons y l f=>
     have d:=b y aas;have e:=f λx c=>b x (by simp[c]);simp only[cm,yj];omega
   omega
def Tm.yp(s:Tm)(hs:s.ok=true)(t:Tm):∀n,0<=n->t.ok=true->(Tm.eG n t s).ok=true:=by
 induction t using Tm.ind with
 |h k i ty l g=>
  intro n hn a;have b:=a;rw[Tm.ei] at a;simp only[eg,im] at a;rw[Tm.ey]
  by_cases d:k=1
  ·subst d;simp only[if_true,Tm.m4]
   by_cases c:i=n
   ·simp only[c,if_true];rw[Tm.xM s 0 n VW hn];exact hs
   ·by_cases e:n<i
    ·simp only[c,e,fL,if_true];rw[Tm.ei]
     have j:1<=i:=VW
     simp[Tm.node,eS,hB,j,Ty.o9,cn]
    ·simp only[c,e,fL];exact b
  ·simp only[d,fL];rw[Tm.ei,Eo];simp only[eg,im,ll];refine⟨a.1,?_⟩;rintro _ ⟨x,f,rfl⟩;exact g x f _ (by have:=gE k;omega) (a.2 x f)
mutual
def Tm.fr:Tm->Int
 |.mk k i _ l=>if k=1 then i+1 else if k=2 then imax 0 (Tm.Hx 0 l-1)else Tm.Hx 0 l
def Tm.Hx(m:Int):List Tm->Int
 |[]=>m|t::l=>Tm.Hx (imax m t.fr) l
end
theorem rS(a b:Int):imax a b=max a b:=by unfold imax;omega
def Tm.Mp(l:List Tm):∀m,m<=Tm.Hx m l:=by
 induction l with
 |nil=>intro m;exact PY _|cons t l a=>intro m;rw[Tm.Hx];have:=a (imax m t.fr);rw[rS] at*;omega
def Tm.Uv{l:List Tm}{t:Tm}(h:t∈l):∀m,t.fr<=Tm.Hx m l:=by
 induction l with
 |nil=>cases h
 |cons u l a=>
  intro m;rw[Tm.Hx];rcases jW.1 h with rfl|h
  ·have:=Tm.Mp l (imax m t.fr);rw[rS] at*;omega
  ·exact a h _
def Tm.Rj{M:Int}{l:List Tm}(h:∀t∈l,t.fr<=M):∀m,m<=M->Tm.Hx m l<=M:=by
 induction l with
 |nil=>intro m hm;exact hm|cons u l a=>
  intro m hm;rw[Tm.Hx];refine a (λt b=>h t (by simp[b])) _ ?_;have:=h u aas;rw[rS];omega
def Tm.QZ(t:Tm):∀{M:Int},0<=M->t.ok=true->t.aef M=true->0<=t.fr/\t.fr<=M+1:=by
 induction t using Tm.ind with
 |h k i s l d=>
  intro M e a b;rw[Tm.ei] at a;rw[Tm.dp] at b;simp only[eg,im,m0,Tm.node] at a b;have f:Tm.Hx 0 l<=M+1:=Tm.Rj (λt c=>(d t c e (a.2 t c) (b.2 t c)).2) 0 VW;have g:=Tm.Mp l 0;rw[Tm.fr]
  split
  ·omega
  ·split
   ·rw[rS];omega
   ·omega
def map_id'{α:Type}{g:α->α}{l:List α}(h:∀x∈l,g x=x):l.map g=l:=by
 induction l with
 |nil=>rfl|cons x l a=>simp only[k_,h x aas,a λy hy=>h y (by simp[hy])]
def Tm.jz{k i:Int}{s:Ty}{l:List Tm}(h:(Tm.mk k i s l).ok=true):(k=1->l=[])/\0<=i/\(k≠1->i=0)/\(∀t∈l,t.ok=true)/\(l.length:Int)=eS k:=by
 rw[Tm.ei] at h;simp only[eg,im,m0,Tm.node,o0] at h;obtain⟨⟨⟨⟨a,b⟩,c⟩,f⟩,d⟩:=h;refine⟨?_,b,λe=>c.resolve_left e,d,a⟩;rintro rfl;have:(l.length:Int)=0:=a;exact zI VW
def Tm.JX{k i:Int}{s:Ty}{l:List Tm}(a:k≠1){f:Int}(h:(Tm.mk k i s l).fr<=f)(c:0<=f):∀x∈l,x.fr<=f+dB k:=by
 intro x b;have:=Tm.Uv b 0;rw[Tm.fr,bV a] at h;unfold dB
 split at h
 ·rename_i a;rw[bX a];rw[rS] at h;omega
 ·rename_i a;rw[bV a];omega
def Tm.Tq(t:Tm):∀f b,t.ok=true->0<=f->t.fr<=f->t.up f b=t:=by
 induction t using Tm.ind with
 |h k i s l d=>
  intro f b e g h;obtain⟨o1,o2,m,j,_⟩:=Tm.jz e;rw[Tm.fD]
  by_cases a:k=1
  ·have:=o1 a;subst this;rw[Tm.fr,bX a] at h;rw[bV VW];rfl
  ·rw[bV (λh=>a h.1)]
   congr 1
   exact map_id' λx c=>d x c _ _ (j x c) (by have:=gE k;omega) (Tm.JX a h g x c)
def Tm.pD(t:Tm):∀f,t.up f 0=t:=by
 induction t using Tm.ind with
 |h k i s l a=>
  intro f;rw[Tm.fD,map_id' λx b=>a x b _]
  congr 1
  split<;>omega
def Tm.Rv(s t:Tm):∀n,t.ok=true->0<=n->t.fr<=n->Tm.eG n t s=t:=by
 induction t using Tm.ind with
 |h k i ty l c=>
  intro n d hn h;obtain⟨o1,o2,f,e,_⟩:=Tm.jz d;rw[Tm.ey]
  by_cases a:k=1
  ·rw[bX a];rw[Tm.fr,bX a] at h;unfold Tm.m4;rw[bV VW,bV VW]
  ·rw[bV a]
   congr 1
   exact map_id' λx b=>c x b _ (e x b) (by have:=gE k;omega) (Tm.JX a h hn x b)
def Qp{α:Type}{g:α->Nat}{l:List α}(h:∀x∈l,g x=0):cm g l=0:=by
 induction l with
 |nil=>rfl|cons x l a=>simp[cm,h x aas,a λy hy=>h y (by simp[hy])]
def Tm.M4(t:Tm):∀n,t.ok=true->0<=n->t.fr<=n->t.aeh n=0:=by
 induction t using Tm.ind with
 |h k i ty l c=>
  intro n d hn h;obtain⟨o1,o2,f,e,_⟩:=Tm.jz d;rw[Tm.eC]
  by_cases a:k=1
  ·have:=o1 a;subst this;rw[Tm.fr,bX a] at h;rw[bV VW];rfl
  ·rw[bV (λh=>a h.1)];simp only[tu];exact Qp λx b=>c x b _ (e x b) (by have:=gE k;omega) (Tm.JX a h hn x b)
def Tm.kd:Option Tm->Int
 |some t=>t.ad'|none=>0
def Tm.root:Tm->Bool
 |.mk k _ _ l=>(decide (k=3)&&decide (Tm.kd l[0]?=2))||(decide (k=6)&&(decide (Tm.kd l[2]?=4)||decide (Tm.kd l[2]?=5)))||(decide (k=9)&&(decide (Tm.kd l[2]?=7)||decide (Tm.kd l[2]?=8)))||
  ((decide (k=11)||decide (k=12))&&decide (Tm.kd l[0]?=10))
mutual
def Tm.nf:Tm->Bool
 |.mk k i s l=>!(Tm.mk k i s l).root&&Tm.nfL l
def Tm.nfL:List Tm->Bool
 |[]=>true|t::l=>t.nf&&Tm.nfL l
end
def Tm.W0(l:List Tm):Tm.nfL l=l.all Tm.nf:=by
 induction l with
 |nil=>rfl|cons t l a=>simp[Tm.nfL,a]
def Tm.Lw(k i:Int)(s:Ty)(l:List Tm):(Tm.mk k i s l).nf=(!(Tm.mk k i s l).root&&l.all Tm.nf):=by rw[Tm.nf,Tm.W0]
def iH(f:Tm):List Tm->Tm
 |[]=>f|a::l=>iH (.mk 3 0 (.mk 0 []) [f,a]) l
def Tm.dg:Tm->Tm
 |.mk k i s l=>
  if k=3 then(match l with|[.mk _ _ _ [b],a]=>Tm.eG 0 b a|_=>.mk k i s l)
  else if k=11 then(match l with|[.mk _ _ _ (a::_)]=>a|_=>.mk k i s l)
  else if k=12 then(match l with|[.mk _ _ _ [_,b]]=>b|_=>.mk k i s l)
  else(match l with
   |[b,st,.mk _ _ _ []]=>b|[b,st,.mk _ _ _ [n]]=>iH st [n,.mk k i s [b,st,n]]|[b,st,.mk _ _ _ [h,t]]=>iH st [h,t,.mk k i s [b,st,t]]|_=>.mk k i s l)
mutual
inductive NR (nh:List HC):Nat->Tm->Prop
 |mk {p:Nat} {x:dC} {l:List Tm}:HC.b_ nh p=some x->s7 nh x.aea l->x.size=((Tm.mk x.ad' x.aec x.yn l).aeb:Int)->x.free=(Tm.mk x.ad' x.aec x.yn l).fr->(x.normal=true->(Tm.mk x.ad' x.aec x.yn l).nf=true)->NR nh p (.mk x.ad' x.aec x.yn l)
inductive s7 (nh:List HC):List (Option Nat)->List Tm->Prop
 |nil:s7 nh [] []|cons {p:Nat} {t:Tm} {ps:List (Option Nat)} {ts:List Tm}:NR nh p t->s7 nh ps ts->s7 nh (some p::ps) (t::ts)
end
def NR.inv{nh:List HC}{p:Nat}{t:Tm}(h:NR nh p t):∃x,HC.b_ nh p=some x/\x.ad'=t.ad'/\x.aec=t.aec/\x.yn=t.b8/\s7 nh x.aea t.aea/\x.size=(t.aeb:Int)/\x.free=t.fr/\(x.normal=true->t.nf=true):=by
 cases h with
 |mk a b c d e=>exact⟨_,a,rfl,rfl,rfl,b,c,d,e⟩
def NR.of{nh:List HC}{p:Nat}{t:Tm}{x:dC}(e:HC.b_ nh p=some x)(a:x.ad'=t.ad')(b:x.aec=t.aec)(c:x.yn=t.b8)(d:s7 nh x.aea t.aea)(f:x.size=(t.aeb:Int))(g:x.free=t.fr)
  (h:x.normal=true->t.nf=true):NR nh p t:=by
 cases t with
 |mk k i s l=>
  simp only[Tm.cq,Tm.dQ,Tm.cQ,Tm.ck] at a b c d;subst a;subst b;subst c;exact .mk e d f g h
def s7.len{nh:List HC}:∀{ps:List (Option Nat)} {ts:List Tm},s7 nh ps ts->ps.length=ts.length
 |_,_,.nil=>rfl|_,_,.cons _ h=>by simp[h.len]
def s7.append{nh:List HC}:∀{ps a:List (Option Nat)} {ts us:List Tm},s7 nh ps ts->s7 nh a us->s7 nh (ps++a) (ts++us)
 |_,_,_,_,.nil,h=>h|_,_,_,_,.cons b c,h=>.cons b (c.append h)
structure NE (nh nh':List HC):Prop where
 node:∀p t,NR nh p t->NR nh' p t
 state:∀p st,HC.c7 nh p=some st->HC.c7 nh' p=some st
 get:∀p x,HC.b_ nh p=some x->∃b,HC.b_ nh' p=some {x with normal:=b}
def NE.refl(nh:List HC):NE nh nh:=⟨λ_ _ h=>h,λ_ _ h=>h,λ_ x h=>⟨x.normal,h⟩⟩
def NE.trans{a b c:List HC}(d:NE a b)(e:NE b c):NE a c:=⟨λp t h=>e.node p t (d.node p t h),λp st h=>e.state p st (d.state p st h),λp x h=>by
 obtain⟨j,f⟩:=d.get p x h;obtain⟨g,i⟩:=e.get p _ f
 exact⟨g,i⟩⟩
def NE.list{nh a:List HC}(h:NE nh a):∀{ps:List (Option Nat)} {ts:List Tm},s7 nh ps ts->s7 a ps ts
 |_,_,.nil=>.nil|_,_,.cons b c=>.cons (h.node _ _ b) (h.list c)
def Bq{nh X:List HC}{p:Nat}{x:dC}(h:HC.b_ nh p=some x):HC.b_ (nh++X) p=some x:=by
 have:=HC.lN h;have a:=(jj.1 this).1;unfold HC.b_;rw[oy a,this]
def He{nh X:List HC}{p:Nat}{x:gj}(h:HC.c7 nh p=some x):HC.c7 (nh++X) p=some x:=by
 have:=HC.kB h;have a:=(jj.1 this).1;unfold HC.c7;rw[oy a,this]
mutual
def NR.app{nh X:List HC}:∀{p:Nat} {t:Tm},NR nh p t->NR (nh++X) p t
 |_,_,.mk a b c d e=>.mk (Bq a) b.app c d e
def s7.app{nh X:List HC}:∀{ps:List (Option Nat)} {ts:List Tm},s7 nh ps ts->s7 (nh++X) ps ts
 |_,_,.nil=>.nil|_,_,.cons a b=>.cons a.app b.app
end
def NE.kp{nh a:List HC}(h:Kp nh a):NE nh a:=by
 obtain⟨X,rfl⟩:=h;exact⟨λ_ _ h=>h.app,λ_ _ h=>He h,λp x h=>⟨x.normal,Bq h⟩⟩
def E5{a0 a1:Int}{a2:Ty}{a3:List (Option Nat)}{nh:List HC}{F:Int->Option Nat->List HC->Option (dP (List HC) ((Option Nat)×List HC))}
  (hF:∀j q v x y,HC.b_ v nh.length=some x->HC.b_ v q=some y->HC.b_ (nb v nh.length (HC.dK (dC.mk x.ad' x.aec x.yn x.aea (c8 .i64 x.size y.size) x.free x.normal))) q=some y->F j (some q) v=some (.next (nb (nb v nh.length (HC.dK (dC.mk x.ad' x.aec x.yn x.aea (c8 .i64 x.size y.size) x.free x.normal))) nh.length (HC.dK (dC.mk x.ad' x.aec x.yn x.aea (c8 .i64 x.size y.size) (imax x.free y.free) x.normal))))):∀(ps:List (Option Nat)) (ts:List Tm) (i:Nat) (s:Nat) (f:Int),s7 nh ps ts->s+cm Tm.aeb ts<=1000000000->cY F ps i (nh++[HC.dK (dC.mk a0 a1 a2 a3 s f false)])=some (.inl (nh++[HC.dK (dC.mk a0 a1 a2 a3 ((s+cm Tm.aeb ts:Nat):Int) (Tm.Hx f ts) false)]))
 |_,_,i,s,f,.nil,_=>by simp[cm,Tm.Hx]|_,_,i,s,f,.cons (p:=p) (t:=t) c d,e=>by
  rw[cm] at e;obtain⟨y,b,l,m,n,o,g,h,r⟩:=c.inv;have k:p<nh.length:=(jj.1 (HC.lN b)).1
  have a:c8 .i64 (s:Int) (t.aeb:Int)=((s+t.aeb:Nat):Int):=by rw[cX VW VW];omega
  rw[cO,hF _ p _ _ y Bw (Bq b) (by rw[vo];exact Bq b)];simp only[vo,bT,cU,g,h,a];rw[E5 hF _ _ (i+1) (s+t.aeb) (imax f t.fr) d VW];simp only[cm,Tm.Hx,Pp]
def qR{k i:Int}{s:Ty}{ps:List (Option Nat)}{ts:List Tm}{nh:List HC}(h:s7 nh ps ts)(hn:cm Tm.aeb ts<=100000000)(hi:0<=i/\i<=1000000000000)(p:∀t∈ts,0<=t.fr/\t.fr<=1000000000000):∃e,jQ k i s ps nh=some (some nh.length,e)/\Kp nh e/\NR e nh.length (.mk k i s ts):=by
 have hlen:ps.length<=100000000:=by
  rw[h.len];exact Ei (Tm.dm ts) hn
 have w:0<=Tm.Hx 0 ts/\Tm.Hx 0 ts<=1000000000000:=⟨Tm.Mp ts 0,Tm.Rj (λt z=>(p t z).2) 0 VW⟩;unfold jQ;rw[ch VW];simp only[b9,cg]
 have r:=E5 (a0:=k) (a1:=i) (a2:=s) (a3:=ps) (nh:=nh) (F:=λu l b=>
   bU (HC.b_ b (List.length nh)) λa=>
   bU (l) λd=>
   bU (HC.b_ b d) λc=>
   bU (HC.b_ (nb b (List.length nh) (HC.dK (dC.mk a.ad' a.aec a.yn a.aea (c8 .i64 a.size c.size) a.free a.normal))) d) λm=>
   some (.next (nb (nb b (List.length nh) (HC.dK (dC.mk a.ad' a.aec a.yn a.aea (c8 .i64 a.size c.size) a.free a.normal))) (List.length nh) (HC.dK (dC.mk a.ad' a.aec a.yn a.aea (c8 .i64 a.size c.size) (imax a.free m.free) a.normal)))))
  (by intro j q v x y n o A;simp only[n,o,A,bT]) ps ts 0 1 0 h VW
 have B:((1:Nat):Int)=1:=rfl;rw[B] at r;rw[r];simp only[bT,ca,Bw,vo]
 have g:((1+cm Tm.aeb ts:Nat):Int)=((Tm.mk k i s ts).aeb:Int):=by rw[Tm.bY]
 have fin:∀f:Int,f=(Tm.mk k i s ts).fr->NR (nh++[HC.dK (dC.mk k i s ps ((1+cm Tm.aeb ts:Nat):Int) f false)]) nh.length (.mk k i s ts):=by
  intro f p;exact NR.of Bw rfl rfl rfl h.app g p (by intro h;cases h)
 by_cases n:k=1
 ·subst n;refine⟨_,by rw[bX aaq],⟨_,rfl⟩,fin _ ?_⟩;rw[Tm.fr,bX rfl,cX VW VW]
 ·rw[bV (by simpa using n)]
  by_cases o:k=2
  ·subst o;refine⟨_,by rw[bX aaq],⟨_,rfl⟩,fin _ ?_⟩;rw[Tm.fr,bV aaq,bX rfl,ds VW VW]
  ·refine⟨_,by rw[bV (by simpa using o)],⟨_,rfl⟩,fin _ ?_⟩;rw[Tm.fr,bV n,bV o]
def QX{nh:List HC}{p:Nat}{x:dC}(h:HC.b_ nh p=some x):iD (some p) nh=some (dB x.ad'):=by
 unfold iD dB;simp only[bT,h,eu]
 split<;>rfl
def NE.below{nh a:List HC}{p:Nat}{x:dC}(he:NE nh a)(h:HC.b_ nh p=some x):iD (some p) a=some (dB x.ad'):=by
 obtain⟨b,e⟩:=he.get p x h;rw[QX e]
def AA{F:Int->Option Nat->List (Option Nat)×List HC->Option (dP (List (Option Nat)×List HC) ((Option Nat)×List HC))}(g:Tm->Tm)(nh0:List HC):∀(ts:List Tm)
  (_:∀t∈ts,∀p nh j v,Kp nh0 nh->NR nh p t->v.length+1<=1000000000->∃q a,F j (some p) (v,nh)=some (.next (v++[some q],a))/\Kp nh a/\NR a q (g t))
  (ps:List (Option Nat)) (i:Nat) (nh:List HC) (v:List (Option Nat)) (us:List Tm),Kp nh0 nh->s7 nh ps ts->s7 nh v us->v.length+ts.length<=1000000000->∃c a,cY F ps i (v,nh)=some (.inl (c,a))/\Kp nh a/\s7 a c (us++ts.map g)
 |[],_,_,i,nh,v,us,_,.nil,d,_=>⟨v,nh,rfl,Kp.refl _,by simpa using d⟩|t::ts,hF,_,i,nh,v,us,h,.cons (p:=p) (ps:=ps) k l,d,m=>by
  simp only[j0] at m;obtain⟨q,e,n,f,o⟩:=hF t aas p nh i v h k VW;have b:=NE.kp f;obtain⟨c,a,f1,f2,f3⟩:=AA g nh0 ts (λt r=>hF t (by simp[r])) ps (i+1) e (v++[some q]) (us++[g t]) (h.trans f) (b.list l) ((b.list d).append (.cons o .nil)) aaQ;refine⟨c,a,?_,f.trans f2,by simpa using f3⟩;rw[cO,n];simp only[bT,cU];exact f1
structure Sm (M:Int) (t:Tm):Prop where
 ok:t.ok=true
 aef:t.aef M=true
 aeb:t.aeb<=1000000
def Sm.arg{M k i:Int}{s:Ty}{l:List Tm}(h:Sm M (.mk k i s l)):∀t∈l,Sm M t:=by
 intro t a;have b:=h.aef;have c:=h.aeb;rw[Tm.dp] at b;simp only[eg,im] at b;rw[Tm.bY] at c;exact⟨(Tm.jz h.ok).2.2.2.1 t a,b.2 t a,by have:=cy Tm.aeb a;omega⟩
def Sm.idx{M k i:Int}{s:Ty}{l:List Tm}(h:Sm M (.mk k i s l)):0<=i/\i<=M:=by
 have a:=h.aef;rw[Tm.dp] at a;simp only[eg,m0] at a;exact⟨(Tm.jz h.ok).2.1,a.1⟩
theorem Sm.fr{M:Int}{t:Tm}(h:Sm M t)(a:0<=M):0<=t.fr/\t.fr<=M+1:=Tm.QZ t a h.ok h.aef
def Sm.mono{M N:Int}{t:Tm}(h:Sm M t)(hm:M<=N):Sm N t:=⟨h.ok,by
 have:∀t:Tm,t.aef M=true->t.aef N=true:=by
  intro t
  induction t using Tm.ind with
  |h k i s l b=>
   rw[Tm.dp,Tm.dp];simp only[eg,im,m0]
   exactλ⟨d,c⟩=>⟨VW,λx a=>b x a (c x a)⟩
 exact this t h.aef,h.aeb⟩
def yT{M b:Int}(d:0<=b)(t:Tm):∀f,t.aef M=true->(t.up f b).aef (M+b)=true:=by
 induction t using Tm.ind with
 |h k i s l a=>
  intro f h;rw[Tm.dp] at h;simp only[eg,im,m0] at h;rw[Tm.fD,Tm.dp];simp only[eg,im,m0];refine⟨by split<;>omega,?_⟩;intro x c;obtain⟨y,hy,rfl⟩:=ll.1 c;exact a y hy _ (h.2 y hy)
def Sm.up{M f b:Int}{t:Tm}(h:Sm M t)(c:0<=f)(a:0<=b):Sm (M+b) (t.up f b):=
 ⟨by rw[Tm.xM t f b c a];exact h.ok,yT a t f h.aef,by rw[Tm.lS];exact h.aeb⟩
def T_{M:Int}(U:0<=M/\M<=500000000000):∀(n:Nat) (t:Tm) (p:Nat) (nh:List HC) (f b:Int),t.aeb<=n->NR nh p t->Sm M t->0<=f->f+t.aeb<=500000000000->0<=b->b<=400000000000->∃Q a,ng n (some p) f b nh=some (some Q,a)/\Kp nh a/\NR a Q (t.up f b):=by
 intro n
 induction n with
 |zero=>intro t p nh f b h;have:=t.cw;omega
 |succ n V=>
  intro t p nh f b hn w hs W z R A;obtain⟨x,B,m,C,D,E,e6,X,e8⟩:=w.inv;have Y:=hs.fr U.1;rw[ng];simp only[cg,bT,B,X,A2]
  by_cases r:t.fr<=f
  ·rw[bX r];exact⟨p,nh,rfl,Kp.refl _,by rw[Tm.Tq t f b hs.ok W r];exact w⟩
  ·rw[bV r]
   by_cases S:b=0
   ·subst S;exact⟨p,nh,aas,Kp.refl _,by rw[Tm.pD];exact w⟩
   ·rw[bV (by simpa using S)];cases t with
    |mk k i s l=>
     simp only[Tm.cq,Tm.dQ,Tm.cQ,Tm.ck] at m C D E;have T:=hs.idx;obtain⟨o1,o2,o3,o4,o5⟩:=Tm.jz hs.ok
     by_cases G:k=1
     ·subst G;have Z:=o1 rfl;subst Z;rw[bX (by rw[m];rfl)]
      have H:f<=i:=by rw[Tm.fr,bX rfl] at r;omega
      obtain⟨a,g1,g2,g3⟩:=qR (k:=1) (i:=i+b) (s:=s) (ps:=[]) (ts:=[]) (nh:=nh) .nil (by simp[cm]) VW aas;refine⟨nh.length,a,?_,g2,?_⟩
      ·rw[m,C,D,cX VW VW,g1];rfl
      ·rw[Tm.fD,bX ⟨rfl,H⟩];exact g3
     ·rw[bV (by rw[m];simpa using G)]
      have aa:1+cm Tm.aeb l<=n+1:=by rw[Tm.bY] at hn;exact hn
      have hlen:=Tm.dm l;have I:=hs.aeb;rw[Tm.bY] at I z;have ab:x.aea.length=l.length:=E.len;rw[ch VW];simp only[b9];have ad:=gE k
      obtain⟨v',a,g1,g2,g3⟩:=AA (F:=λj J=>sa λc d=>
        bU (iD (some p) d) λo=>
        b7 (ng n J (c8 .i64 f o) b d) λe g=>
        eB (dZ c [e])<|some (.next ((eA c [e]),g))) (Tm.up (f+dB k) b) nh l (by
        intro t u q K j v L hq hv;have N:=hs.arg t u;have hm:=cy Tm.aeb u;obtain⟨q',O,a1,a2,a3⟩:=V t q K (f+dB k) b VW hq N VW VW R A;refine⟨q',O,?_,a2,a3⟩;simp only[ru,(NE.kp L).below B,bT,m];rw[cX VW VW,a1];simp only[bW];rw[de (by simpa using hv)]
        rfl) x.aea 0 nh [] [] (Kp.refl _) E .nil aaQ
      rw[g1];simp only[bT,ca,ru];obtain⟨x2,c1⟩:=(NE.kp g2).get p x B;unfold fO;simp only[bT,c1]
      obtain⟨P,d1,d2,d3⟩:=qR (k:=k) (i:=i) (s:=s) (ps:=v') (ts:=l.map (Tm.up (f+dB k) b)) (nh:=a) (by simpa using g3) (by
       rw[r6,xm λx _=>Tm.lS x _ _];omega) VW (by
       intro t u;obtain⟨y,hy,rfl⟩:=ll.1 u;have:=((hs.arg y hy).up (f:=f+dB k) (b:=b) VW R).fr VW
       omega)
      refine⟨a.length,P,?_,g2.trans d2,?_⟩
      ·rw[m,C,D,d1];rfl
      ·rw[Tm.fD,bV (λh=>G h.1)];exact d3
def count_eq{M:Int}(P:0<=M/\M<=500000000000)(nh:List HC):∀(n:Nat) (t:Tm) (p:Nat) (a:Int),t.aeb<=n->NR nh p t->Sm M t->0<=a->a+t.aeb<=500000000000->mh n (some p) a nh=some (t.aeh a:Int):=by
 intro n
 induction n with
 |zero=>intro t p a h;have:=t.cw;omega
 |succ n C=>
  intro t p a hn D hs E o;obtain⟨x,z,j,A,F,q,Q,G,R⟩:=D.inv;rw[mh];simp only[bT,z,G,A2]
  by_cases r:t.fr<=a
  ·rw[bX r,Tm.M4 t a hs.ok E r];rfl
  ·rw[bV r];cases t with
   |mk k i s l=>
    simp only[Tm.cq,Tm.dQ,Tm.cQ,Tm.ck] at j A F q;obtain⟨o1,o2,S,T,U⟩:=Tm.jz hs.ok
    by_cases v:k=1
    ·subst v;have H:=o1 rfl;subst H;rw[bX (by rw[j];rfl),Tm.eC,A];simp only[eu,cm]
     by_cases m:i=a
     ·rw[bX m,bX ⟨trivial,m⟩];rfl
     ·rw[bV m,bV (λh=>m h.2)];rfl
    ·rw[bV (by rw[j];simpa using v)];have w:=hs.aeb;rw[Tm.bY] at w o hn;have hlen:=Tm.dm l;have I:x.aea.length=l.length:=q.len;rw[ch VW];simp only[b9,cg];have J:=gE k
     have loop:∀(ts:List Tm) (ps:List (Option Nat)) (i c:Nat),(∀t∈ts,t∈l)->s7 nh ps ts->c+cm Tm.aeb ts<=1000000000->cY (λ(B:Int) (b:Option Nat)=>(λ(d:Int)=>
        bU (mh n b (a+dB k) nh) λe=>
        some ((.next (c8 .i64 d e)):dP Int Int))) ps i (c:Int)=some (.inl ((c+cm (Tm.aeh (a+dB k)) ts:Nat):Int)):=by
      intro ts
      induction ts with
      |nil=>intro ps i c _ h _;cases h;rfl
      |cons t ts y=>
       intro ps i c hm h K;cases h with
       |cons q1 L=>
        rw[cm] at K;have f:=hm t aas;have N:=cy Tm.aeb f;have O:=Tm.fW t (a+dB k);rw[cO];rw[C t _ _ VW q1 (hs.arg t f) VW VW];simp only[bT];rw[cX VW VW];simp only[cU];have:=y _ (i+1) (c+t.aeh (a+dB k)) (λu hu=>hm u (by simp[hu])) L VW;rw[show((c+t.aeh (a+dB k):Nat):Int)=(c:Int)+(t.aeh (a+dB k):Int) by omega] at this;rw[this];simp only[cm,Pp]
     have:=loop l x.aea 0 0 (λt h=>h) q VW;rw[show((0:Nat):Int)=0 from rfl] at this;have g:c8 .i64 a (dB k)=a+dB k:=cX VW VW;simp only[QX z,bT,j,g];rw[this];simp only[bT,ca,tu];rw[Tm.eC,bV (λh=>v h.1),tu]
def H3{M N B:Int}(w:M<=B)(s:Tm)(hs:s.aef N=true)(t:Tm):∀n,0<=n->N+n+t.aeb<=B->t.aef M=true->t.ok=true->(Tm.eG n t s).aef B=true:=by
 induction t using Tm.ind with
 |h k i ty l f=>
  intro n hn g d p;have j:=d;rw[Tm.dp] at d;simp only[eg,im,m0] at d;obtain⟨o1,o2,z,q,A⟩:=Tm.jz p;rw[Tm.ey]
  have c:∀(u:Tm) {a b:Int},a<=b->u.aef a=true->u.aef b=true:=by
   intro u
   induction u using Tm.ind with
   |h k i s l f=>
    intro a b m;rw[Tm.dp,Tm.dp];simp only[eg,im,m0]
    exactλ⟨C,r⟩=>⟨VW,λx e=>f x e m (r x e)⟩
  have D:1<=(Tm.mk k i ty l).aeb:=Tm.cw _
  by_cases o:k=1
  ·rw[bX o];unfold Tm.m4
   split
   ·exact c _ VW (yT hn s 0 hs)
   ·split
    ·rw[Tm.dp];simp;omega
    ·exact c _ VW j
  ·rw[bV o,Tm.dp];simp only[eg,im,m0];refine⟨VW,?_⟩;intro x e;obtain⟨y,hy,rfl⟩:=ll.1 e;have v:=gE k;have hm:=cy Tm.aeb hy;rw[Tm.bY] at g;exact f y hy (n+dB k) VW VW (d.2 y hy) (q y hy)
def put_eq{M N:Int}(hM:0<=M/\M<=100000000000)(hN:0<=N/\N<=100000000000)(s:Tm)(d:Sm N s):∀(n:Nat) (t:Tm) (p q:Nat) (nh:List HC) (a:Int),t.aeb<=n->NR nh p t->NR nh q s->Sm M t->0<=a->a+t.aeb<=100000000000->t.aeb+t.aeh a*s.aeb<=100000000->∃E b,oo n (some p) a (some q) nh=some (some E,b)/\Kp nh b/\NR b E (Tm.eG a t s):=by
 intro n
 induction n with
 |zero=>intro t p q nh a h;have:=t.cw;omega
 |succ n H=>
  intro t p q nh a hn X Y hs Z I z;obtain⟨x,J,w,K,L,O,e6,e7,e8⟩:=X.inv;rw[oo];simp only[bT,J,e7,A2]
  by_cases o:t.fr<=a
  ·rw[bX o];exact⟨p,nh,rfl,Kp.refl _,by rw[Tm.Rv s t a hs.ok Z o];exact X⟩
  ·rw[bV o];cases t with
   |mk k i ty l=>
    simp only[Tm.cq,Tm.dQ,Tm.cQ,Tm.ck] at w K L O;have aa:=hs.idx;obtain⟨o1,o2,o3,P,o5⟩:=Tm.jz hs.ok
    by_cases G:k=1
    ·subst G;have hl:=o1 rfl;subst hl
     have ab:a<=i:=by rw[Tm.fr,bX rfl] at o;omega
     rw[bX (by rw[w];rfl),K];simp only[eu];rw[Tm.ey,bX rfl];unfold Tm.m4
     by_cases e:i=a
     ·rw[bX e,bX e];have A:=d.aeb;obtain⟨E,b,g1,g2,g3⟩:=T_ (M:=N) VW FU s q nh 0 a (by rw[cP];omega) Y d VW VW Z VW;exact⟨E,b,by rw[g1];rfl,g2,g3⟩
     ·rw[bV e,bV e,bX VW];obtain⟨b,g1,g2,g3⟩:=qR (k:=1) (i:=i-1) (s:=ty) (ps:=[]) (ts:=[]) (nh:=nh) .nil (by simp[cm]) VW aas;refine⟨nh.length,b,?_,g2,?_⟩
      ·rw[w,L,ds VW VW,g1];rfl
      ·have hz:ty=.mk 0 []:=by
        have:=hs.ok;rw[Tm.ei] at this;simp only[eg,Tm.node] at this
        have h4:ty.o9=true:=by simpa[hB] using this.1.2
        exact(Ty.i_ ty).1 h4
       rw[<-hz];exact g3
    ·rw[bV (by rw[w];simpa using G)];have A:=hs.aeb;rw[Tm.bY] at A I hn;have hlen:=Tm.dm l;have ad:x.aea.length=l.length:=O.len;rw[ch VW];simp only[b9,cg];have ae:=gE k;rw[Tm.eC,bV (λh=>G h.1),tu,Tm.bY] at z
     have Q:∀t∈l,t.aeb+t.aeh (a+dB k)*s.aeb<=100000000:=by
      intro t c;have o:=cy Tm.aeb c;have e:=cy (Tm.aeh (a+dB k)) c;have h3:=Cb s.aeb e;omega
     obtain⟨v',b,g1,g2,g3⟩:=AA (F:=λj R=>sa λf g=>
       bU (iD (some p) g) λB=>
       b7 (oo n R (c8 .i64 a B) (some q) g) λm u=>
       eB (dZ f [m])<|some (.next ((eA f [m]),u))) (λt=>Tm.eG (a+dB k) t s) nh l (by
       intro t c r S j v C T hv;have U:=hs.arg t c;have hm:=cy Tm.aeb c;obtain⟨q',V,a1,a2,a3⟩:=H t r q S (a+dB k) VW T ((NE.kp C).node _ _ Y) U VW VW (Q t c);refine⟨q',V,?_,a2,a3⟩;simp only[ru,(NE.kp C).below J,bT,w];rw[cX VW VW,a1];simp only[bW];rw[de (by simpa using hv)]
       rfl) x.aea 0 nh [] [] (Kp.refl _) O .nil aaQ
     rw[g1];simp only[bT,ca,ru];obtain⟨x2,c1⟩:=(NE.kp g2).get p x J;unfold fO;simp only[bT,c1]
     have D:∀t∈l,(Tm.eG (a+dB k) t s).aeb<=t.aeb+t.aeh (a+dB k)*s.aeb:=by
      intro t c;have:=Tm.oD s t (a+dB k) (P t c);omega
     obtain⟨W,d1,d2,d3⟩:=qR (k:=k) (i:=i) (s:=ty) (ps:=v') (ts:=l.map (λt=>Tm.eG (a+dB k) t s)) (nh:=b) (by simpa using g3) (by
      rw[r6];have o:=iO D
      have e:∀l:List Tm,cm (λt=>t.aeb+t.aeh (a+dB k)*s.aeb) l=cm Tm.aeb l+cm (Tm.aeh (a+dB k)) l*s.aeb:=by
       intro l
       induction l with
       |nil=>simp[cm]|cons t l H=>simp only[cm,H,yj];omega
      rw[e] at o
      omega) VW (by
      intro t c;obtain⟨y,hy,rfl⟩:=ll.1 c;have hm:=cy Tm.aeb hy;have:=Tm.QZ (Tm.eG (a+dB k) y s) (M:=M+N+(a+dB k)+y.aeb) VW (Tm.yp s d.ok y _ VW (P y hy)) (H3 (M:=M) VW s d.aef y _ VW VW (hs.arg y hy).aef (P y hy))
      omega)
     refine⟨b.length,W,?_,g2.trans d2,?_⟩
     ·rw[w,K,L,d1];rfl
     ·rw[Tm.ey,bV G];exact d3
def sK(a b:Int):cn a b=decide (a=b):=by grind[cn]
def Wp{α:Type}{l:List α}(h:l.length=1):∃a,l=[a]:=by
 match l,h with|[a],_=>exact⟨a,rfl⟩
def Wd{α:Type}{l:List α}(h:l.length=2):∃a b,l=[a,b]:=by
 match l,h with|[a,b],_=>exact⟨a,b,rfl⟩
def abp{α:Type}{l:List α}(h:l.length=3):∃a b c,l=[a,b,c]:=by
 match l,h with|[a,b,c],_=>exact⟨a,b,c,rfl⟩
def s7.inv1{nh:List HC}{ps:List (Option Nat)}{a:Tm}(h:s7 nh ps [a]):∃p,ps=[some p]/\NR nh p a:=by
 cases h with|cons b c=>cases c;exact⟨_,rfl,b⟩
def s7.inv2{nh:List HC}{ps:List (Option Nat)}{a b:Tm}(h:s7 nh ps [a,b]):∃p q,ps=[some p,some q]/\NR nh p a/\NR nh q b:=by
 cases h with|cons c d=>obtain⟨q,rfl,e⟩:=d.inv1;exact⟨_,q,rfl,c,e⟩
def s7.Li{nh:List HC}{ps:List (Option Nat)}{a b c:Tm}(h:s7 nh ps [a,b,c]):∃p q r,ps=[some p,some q,some r]/\NR nh p a/\NR nh q b/\NR nh r c:=by
 cases h with|cons d e=>obtain⟨q,r,rfl,f,g⟩:=e.inv2;exact⟨_,q,r,rfl,d,f,g⟩
def s7.UI{nh:List HC}{ps:List (Option Nat)}(h:s7 nh ps []):ps=[]:=by cases h;rfl
def Tm.qs{k i:Int}{s:Ty}{l:List Tm}(h:(Tm.mk k i s l).ok=true):(l.length:Int)=eS k:=(Tm.jz h).2.2.2.2
def Tm.ok3{i:Int}{s:Ty}{l:List Tm}(h:(Tm.mk 3 i s l).ok=true):∃a b,l=[a,b]:=Wd (by have:=Tm.qs h;have e:eS 3=2:=rfl;omega)
def Tm.ok6{i:Int}{s:Ty}{l:List Tm}(h:(Tm.mk 6 i s l).ok=true):∃a b c,l=[a,b,c]:=abp (by have:=Tm.qs h;have e:eS 6=3:=rfl;omega)
def Tm.ok9{i:Int}{s:Ty}{l:List Tm}(h:(Tm.mk 9 i s l).ok=true):∃a b c,l=[a,b,c]:=abp (by have:=Tm.qs h;have e:eS 9=3:=rfl;omega)
def Tm.ok2{i:Int}{s:Ty}{l:List Tm}(h:(Tm.mk 2 i s l).ok=true):∃a,l=[a]:=Wp (by have:=Tm.qs h;have e:eS 2=1:=rfl;omega)
def Tm.W1{k i:Int}{s:Ty}{l:List Tm}(b:k=11\/k=12)(h:(Tm.mk k i s l).ok=true):∃a,l=[a]:=Wp (by
 have:=Tm.qs h;rcases b with rfl|rfl
 ·have e:eS 11=1:=rfl;omega
 ·have e:eS 12=1:=rfl;omega)
def Tm.abf{i:Int}{s:Ty}{l:List Tm}(h:(Tm.mk 10 i s l).ok=true):∃a b,l=[a,b]:=Wd (by have:=Tm.qs h;have e:eS 10=2:=rfl;omega)
def Tm.ok0{k i:Int}{s:Ty}{l:List Tm}(a:k=4\/k=7)(h:(Tm.mk k i s l).ok=true):l=[]:=zI (by
 have:=Tm.qs h;rcases a with rfl|rfl
 ·have e:eS 4=0:=rfl;omega
 ·have e:eS 7=0:=rfl;omega)
def Tm.ok5{i:Int}{s:Ty}{l:List Tm}(h:(Tm.mk 5 i s l).ok=true):∃a,l=[a]:=Wp (by have:=Tm.qs h;have e:eS 5=1:=rfl;omega)
def Tm.ok8{i:Int}{s:Ty}{l:List Tm}(h:(Tm.mk 8 i s l).ok=true):∃a b,l=[a,b]:=Wd (by have:=Tm.qs h;have e:eS 8=2:=rfl;omega)
theorem Tm.cK{k i:Int}{s:Ty}{l:List Tm}(h:(Tm.mk k i s l).ok=true):∀t∈l,t.ok=true:=(Tm.jz h).2.2.2.1
inductive Tm.Rd:Tm->Prop
 |app {i s i' s' b a}:Tm.Rd (.mk 3 i s [.mk 2 i' s' [b],a])|zero {k ko i s i' s' b st}:(k=6/\ko=4\/k=9/\ko=7)->Tm.Rd (.mk k i s [b,st,.mk ko i' s' []])|succ {i s i' s' b st n}:Tm.Rd (.mk 6 i s [b,st,.mk 5 i' s' [n]])|cons {i s i' s' b st h t}:Tm.Rd (.mk 9 i s [b,st,.mk 8 i' s' [h,t]])|proj {k i s i' s' a b}:(k=11\/k=12)->Tm.Rd (.mk k i s [.mk 10 i' s' [a,b]])
def Tm.Fk{t:Tm}(d:t.ok=true)(h:t.root=true):t.Rd:=by
 cases t with
 |mk k i s l=>
  unfold Tm.root at h;simp only[o0,eg,m0] at h;rcases h with((⟨rfl,h⟩|⟨rfl,h⟩)|⟨rfl,h⟩)|⟨e,h⟩
  ·obtain⟨a,b,rfl⟩:=Tm.ok3 d;cases a with
   |mk k' f g j=>
    have e:k'=2:=by simpa[Tm.kd] using h
    subst e;obtain⟨q,rfl⟩:=Tm.ok2 (Tm.cK d (.mk 2 f g j) aas);exact .app
  ·obtain⟨a,b,c,rfl⟩:=Tm.ok6 d;cases c with
   |mk k' f g j=>
    have e:k'=4\/k'=5:=by simpa[Tm.kd] using h
    have o:=Tm.cK d (.mk k' f g j) aas;rcases e with rfl|rfl
    ·rw[Tm.ok0 (.inl rfl) o];exact .zero (.inl ⟨rfl,rfl⟩)
    ·obtain⟨n,rfl⟩:=Tm.ok5 o;exact .succ
  ·obtain⟨a,b,c,rfl⟩:=Tm.ok9 d;cases c with
   |mk k' f g j=>
    have e:k'=7\/k'=8:=by simpa[Tm.kd] using h
    have o:=Tm.cK d (.mk k' f g j) aas;rcases e with rfl|rfl
    ·rw[Tm.ok0 (.inr rfl) o];exact .zero (.inr ⟨rfl,rfl⟩)
    ·obtain⟨n,m,rfl⟩:=Tm.ok8 o;exact .cons
  ·obtain⟨a,rfl⟩:=Tm.W1 e d;cases a with
   |mk k' f g j=>
    have p:k'=10:=by simpa[Tm.kd] using h
    subst p;obtain⟨a,b,rfl⟩:=Tm.abf (Tm.cK d (.mk 10 f g j) aas);exact .proj e
def KN{nh:List HC}{p:Nat}{t:Tm}(v:NR nh p t)(j:t.ok=true):oQ (some p) nh=some t.root:=by
 obtain⟨x,w,n,A,B,f,C,D,E⟩:=v.inv;unfold oQ;simp only[bT,w,cg];cases t with
 |mk k i s l=>
  simp only[Tm.cq,Tm.ck] at n f;rw[n];unfold Tm.root
  by_cases o:k=3
  ·subst o;obtain⟨a,b,rfl⟩:=Tm.ok3 j;obtain⟨pa,pb,d,g,q⟩:=f.inv2;obtain⟨y,f1,f2,_⟩:=g.inv;rw[bX aaq,d];simp[cD,f1,f2,Tm.kd,sK]
  ·rw[bV (by simpa using o)]
   by_cases r:k=6
   ·subst r;obtain⟨a,b,c,rfl⟩:=Tm.ok6 j;obtain⟨pa,pb,z,d,g,q,m⟩:=f.Li;obtain⟨y,f1,f2,_⟩:=m.inv;rw[bX aaq,d];simp only[gP,kW,gf,bT,f1,f2,Tm.kd,eu]
    by_cases h:c.ad'=4
    ·simp[h]
    ·simp[h,sK]<;>exact M'.2 Iff.rfl
   ·rw[bV (by simpa using r)]
    by_cases u:k=9
    ·subst u;obtain⟨a,b,c,rfl⟩:=Tm.ok9 j;obtain⟨pa,pb,z,d,g,q,m⟩:=f.Li;obtain⟨y,f1,f2,_⟩:=m.inv;rw[bX aaq,d];simp only[gP,kW,gf,bT,f1,f2,Tm.kd,eu]
     by_cases h:c.ad'=7
     ·simp[h]
     ·simp[h,sK]<;>exact M'.2 Iff.rfl
    ·rw[bV (by simpa using u)]
     by_cases e:k=11\/k=12
     ·obtain⟨a,rfl⟩:=Tm.W1 e j;obtain⟨pa,d,g⟩:=f.inv1;obtain⟨y,f1,f2,_⟩:=g.inv;rw[bX (by rcases e with rfl|rfl<;>rfl),d];simp only[cD,gf,bT,f1,f2,Tm.kd];rcases e with rfl|rfl<;>simp[sK]<;>exact M'.2 Iff.rfl
     ·grind[jB,eu]
theorem mV:∀(l:List Tm) (f:Tm),(iH f l).aeb=f.aeb+cm Tm.aeb l+l.length
 |[],f=>by simp[iH,cm]|a::l,f=>by
  rw[iH,mV l,Tm.bY]
  grind[cm]
def J4{M:Int}(C:0<=M/\M<=500000000000):∀(ts:List Tm) (ps:List (Option Nat)) (nh:List HC) (b:Nat) (f:Tm),s7 nh ps ts->NR nh b f->(∀t∈ts,0<=t.fr/\t.fr<=M)->0<=f.fr/\f.fr<=M->f.aeb+cm Tm.aeb ts+ts.length<=10000000->∃c a,sX (some b) ps nh=some (some c,a)/\Kp nh a/\NR a c (iH f ts):=by
 intro ts ps nh b f g h d j hn;have hlen:ps.length=ts.length:=g.len;unfold sX;rw[ch VW];simp only[b9,cg]
 have loop:∀(ts:List Tm) (ps:List (Option Nat)) (i:Nat) (nh:List HC) (b:Nat) (f:Tm),s7 nh ps ts->NR nh b f->(∀t∈ts,0<=t.fr/\t.fr<=M)->0<=f.fr/\f.fr<=M->f.aeb+cm Tm.aeb ts+ts.length<=10000000->∃c a,cY (λ(v:Int) (o:Option Nat)=>(sa λ(v171:Option Nat) (l:List HC)=>
    b7 (jQ 3 0 (Ty.mk 0 []) [v171,o] l) λm e=>some ((.next (m,e)):dP ((Option Nat)×List HC) ((Option Nat)×List HC)))) ps i (some b,nh)=some (.inl (some c,a))/\Kp nh a/\NR a c (iH f ts):=by
  intro ts
  induction ts with
  |nil=>
   intro ps i nh b f g h _ _ _;cases g;exact⟨b,nh,rfl,Kp.refl _,h⟩
  |cons t ts w=>
   intro ps i nh b f g h d j hn;cases g with
   |cons x y=>
    rename_i p ps;simp only[cm,j0] at hn;have D:=d t aas
    obtain⟨q,a1,a2,a3⟩:=qR (k:=3) (i:=0) (s:=.mk 0 []) (ps:=[some b,some p]) (ts:=[f,t]) (nh:=nh) (.cons h (.cons x .nil)) (by simp[cm];omega) VW (by
     intro u hu;simp only[jW,uo,qZ] at hu
     rcases hu with rfl|rfl<;>omega)
    have r:=NE.kp a2
    have n:0<=(Tm.mk 3 0 (.mk 0 []) [f,t]).fr/\(Tm.mk 3 0 (.mk 0 []) [f,t]).fr<=M:=by grind[Tm.fr,Tm.Hx,rS]
    obtain⟨c,a,z,A,B⟩:=w ps (i+1) q nh.length (.mk 3 0 (.mk 0 []) [f,t]) (r.list y) a3 (λu hu=>d u (by simp[hu])) n (by
     rw[Tm.bY];simp only[cm];omega)
    refine⟨c,a,?_,a2.trans A,B⟩;rw[cO];simp only[ru,a1,bW,bT,cU];exact z
 obtain⟨c,a,a1,a2,a3⟩:=loop ts ps 0 nh b f g h d j hn;rw[a1];exact⟨c,a,rfl,a2,a3⟩
def Nt{α:Type}(a:α):cr [a] (dh .i64 (cI [a]) 1)=some a:=by
 have:dh .i64 (cI [a]) 1=0:=by simp only[dI,j0,tP];decide
 rw[this];rfl
def NT{α:Type}(a b:α):cr [a,b] (dh .i64 (cI [a,b]) 1)=some b:=by
 have:dh .i64 (cI [a,b]) 1=1:=by simp only[dI,j0,tP];decide
 rw[this];rfl
def Dy{M:Int}(hM:0<=M/\M<=90000000000){nh:List HC}{p:Nat}{t:Tm}(hr:NR nh p t)(hs:Sm M t)(hn:t.aeb<=8192)(F:t.root=true):∃R l,l7 (some p) nh=some (some R,l)/\Kp nh l/\NR l R t.dg:=by
 have U:=Tm.Fk hs.ok F;obtain⟨x,V,g,S,T,w,e6,e7,e8⟩:=hr.inv;unfold l7;simp only[bT,V];have e:∀u:Tm,Sm M u->0<=u.fr/\u.fr<=M+1:=λu hu=>hu.fr hM.1;cases U with
 |app=>
  rename_i i s z A b a;simp only[Tm.cq,Tm.ck] at g w;obtain⟨pf,pa,B,W,X⟩:=w.inv2;obtain⟨y,f1,f2,f3,f4,f5,_⟩:=W.inv;simp only[Tm.cq,Tm.ck] at f2 f5;obtain⟨pb,C,D⟩:=f5.inv1;have Y:=hs.arg (.mk 2 z A [b]) aas;have Z:=hs.arg a aas;have m:=Y.arg b aas;rw[Tm.bY] at hn;simp only[cm,Tm.bY] at hn;have af:=Tm.fW b 0;have hmul:b.aeh 0*a.aeb<=8192*8192:=D2 VW VW;obtain⟨R,l,g1,g2,g3⟩:=put_eq (M:=M) (N:=M) VW VW a Z FU b pb pa nh 0 (by rw[cP];omega) D X m VW VW VW;refine⟨R,l,?_,g2,g3⟩;rw[g,bX aaq,B];simp only[cD,dV,gf,kW,bT,f1,C,g1,bW]
 |proj hk=>
  rename_i k i s z A a b;simp only[Tm.cq,Tm.ck] at g w;obtain⟨pf,B,W⟩:=w.inv1;obtain⟨y,f1,f2,f3,f4,f5,_⟩:=W.inv;simp only[Tm.cq,Tm.ck] at f2 f5;obtain⟨pa,pb,C,X,D⟩:=f5.inv2;rcases hk with rfl|rfl
  ·refine⟨pa,nh,?_,Kp.refl _,by simpa[Tm.dg] using X⟩;rw[g,bV aaq,bX aaq,B];simp only[cD,gf,bT,f1,C]
  ·refine⟨pb,nh,?_,Kp.refl _,by simpa[Tm.dg] using D⟩;rw[g,bV aaq,bV aaq,bX aaq,B];simp only[cD,dV,gf,kW,bT,f1,C]
 |zero hk=>
  rename_i k ko i s z A b st;simp only[Tm.cq,Tm.ck] at g w;obtain⟨pb,ps,po,B,D,j,L⟩:=w.Li;obtain⟨y,f1,f2,f3,f4,f5,_⟩:=L.inv;simp only[Tm.cq,Tm.ck] at f2 f5;have O:=f5.UI;refine⟨pb,nh,?_,Kp.refl _,?_⟩
  ·have f:k≠3/\k≠11/\k≠12:=VW
   rw[g,bV (by simpa using f.1),bV (by simpa using f.2.1),bV (by simpa using f.2.2),B];simp only[cD,dV,gP,gf,kW,bT,f1,O];rfl
  ·have:(Tm.mk k i s [b,st,.mk ko z A []]).dg=b:=by
    have f:k≠3/\k≠11/\k≠12:=VW
    simp[Tm.dg,f.1,f.2.1,f.2.2]
   rw[this];exact D
 |succ=>
  rename_i i s z A b st n;simp only[Tm.cq,Tm.ck,Tm.dQ,Tm.cQ] at g S T w;obtain⟨pb,ps,po,B,D,j,L⟩:=w.Li;obtain⟨y,f1,f2,f3,f4,f5,_⟩:=L.inv;simp only[Tm.cq,Tm.ck] at f2 f5;obtain⟨P,o,q⟩:=f5.inv1;have m:=hs.arg b aas;have G:=hs.arg st aas;have E:=hs.arg (.mk 5 z A [n]) aas;have H:=E.arg n aas;rw[Tm.bY] at hn;simp only[cm,Tm.bY] at hn;have Q:=hs.idx;have b1:=e b m;have b2:=e st G;have b3:=e n H
  obtain⟨I,a1,a2,a3⟩:=qR (k:=6) (i:=i) (s:=s) (ps:=[some pb,some ps,some P]) (ts:=[b,st,n]) (nh:=nh) (.cons D (.cons j (.cons q .nil))) (by simp[cm];omega) VW (by
   intro u hu;simp only[jW,uo,qZ] at hu
   rcases hu with rfl|rfl|rfl<;>omega)
  have d:=NE.kp a2;obtain⟨c,fc⟩:=d.get _ _ f1;obtain⟨p2,J,d1,d2,d3⟩:=J4 (M:=M+1) VW [n] [some P] I ps st (.cons (d.node _ _ q) .nil) (d.node _ _ j) (by intro u hu;simp only[jW,uo,qZ] at hu;subst hu;omega) VW (by simp[cm];omega)
  have r:0<=(Tm.mk 6 i s [b,st,n]).fr/\(Tm.mk 6 i s [b,st,n]).fr<=M+1:=by
   rw[Tm.fr,bV aaq,bV aaq];simp only[Tm.Hx,rS];omega
  have v:0<=(iH st [n]).fr/\(iH st [n]).fr<=M+1:=by
   simp only[iH];rw[Tm.fr,bV aaq,bV aaq];simp only[Tm.Hx,rS];omega
  have aa:(Tm.mk 6 i s [b,st,n]).aeb<=10000:=by rw[Tm.bY];simp only[cm];omega
  have ab:(iH st [n]).aeb<=10000:=by rw[mV];simp only[cm,j0,tP];omega
  obtain⟨p3,K,g1,g2,g3⟩:=J4 (M:=M+1) VW [.mk 6 i s [b,st,n]] [some nh.length] J p2 (iH st [n]) (.cons ((NE.kp d2).node _ _ a3) .nil) d3 (by intro u hu;simp only[jW,uo,qZ] at hu;subst hu;exact r) v (by simp only[cm,j0,tP];omega);refine⟨p3,K,?_,(a2.trans d2).trans g2,?_⟩
  ·rw[g,bV aaq,bV aaq,bV aaq,B];simp only[cD,dV,gP,gf,kW,bT,f1,o];rw[bV (by simp only[dI,j0,tP];decide),Nt];unfold fO;simp only[bT,V,g,S,T,a1,bW,fc,o,d1,g1]
  ·have:(Tm.mk 6 i s [b,st,.mk 5 z A [n]]).dg=iH (iH st [n]) [.mk 6 i s [b,st,n]]:=by simp[Tm.dg,iH]
   rw[this];exact g3
 |cons=>
  rename_i i s z A b st h n;simp only[Tm.cq,Tm.ck,Tm.dQ,Tm.cQ] at g S T w;obtain⟨pb,ps,po,B,D,j,L⟩:=w.Li;obtain⟨y,f1,f2,f3,f4,f5,_⟩:=L.inv;simp only[Tm.cq,Tm.ck] at f2 f5;obtain⟨ph,P,o,ad,q⟩:=f5.inv2;have m:=hs.arg b aas;have G:=hs.arg st aas;have E:=hs.arg (.mk 8 z A [h,n]) aas;have H:=E.arg n aas;have ae:=E.arg h aas;rw[Tm.bY] at hn;simp only[cm,Tm.bY] at hn;have Q:=hs.idx;have b1:=e b m;have b2:=e st G;have b3:=e n H;have b4:=e h ae
  obtain⟨I,a1,a2,a3⟩:=qR (k:=9) (i:=i) (s:=s) (ps:=[some pb,some ps,some P]) (ts:=[b,st,n]) (nh:=nh) (.cons D (.cons j (.cons q .nil))) (by simp[cm];omega) VW (by
   intro u hu;simp only[jW,uo,qZ] at hu
   rcases hu with rfl|rfl|rfl<;>omega)
  have d:=NE.kp a2;obtain⟨c,fc⟩:=d.get _ _ f1;obtain⟨p2,J,d1,d2,d3⟩:=J4 (M:=M+1) VW [h,n] [some ph,some P] I ps st (.cons (d.node _ _ ad) (.cons (d.node _ _ q) .nil)) (d.node _ _ j) (by intro u hu;simp only[jW,uo,qZ] at hu;rcases hu with rfl|rfl<;>omega) VW (by simp[cm];omega)
  have r:0<=(Tm.mk 9 i s [b,st,n]).fr/\(Tm.mk 9 i s [b,st,n]).fr<=M+1:=by
   rw[Tm.fr,bV aaq,bV aaq];simp only[Tm.Hx,rS];omega
  have v:0<=(iH st [h,n]).fr/\(iH st [h,n]).fr<=M+1:=by
   simp only[iH];rw[Tm.fr,bV aaq,bV aaq];simp only[Tm.Hx];rw[Tm.fr,bV aaq,bV aaq];simp only[Tm.Hx,rS];omega
  have aa:(Tm.mk 9 i s [b,st,n]).aeb<=10000:=by rw[Tm.bY];simp only[cm];omega
  have ab:(iH st [h,n]).aeb<=10000:=by rw[mV];simp only[cm,j0,tP];omega
  obtain⟨p3,K,g1,g2,g3⟩:=J4 (M:=M+1) VW [.mk 9 i s [b,st,n]] [some nh.length] J p2 (iH st [h,n]) (.cons ((NE.kp d2).node _ _ a3) .nil) d3 (by intro u hu;simp only[jW,uo,qZ] at hu;subst hu;exact r) v (by simp only[cm,j0,tP];omega);refine⟨p3,K,?_,(a2.trans d2).trans g2,?_⟩
  ·rw[g,bV aaq,bV aaq,bV aaq,B];simp only[cD,dV,gP,gf,kW,bT,f1,o];rw[bV (by simp only[dI,j0,tP];decide),NT];unfold fO;simp only[bT,V,g,S,T,a1,bW,fc,o,d1,g1]
  ·have:(Tm.mk 9 i s [b,st,.mk 8 z A [h,n]]).dg=iH (iH st [h,n]) [.mk 9 i s [b,st,n]]:=by simp[Tm.dg,iH]
   rw[this];exact g3
def Ew:∀(n:Nat) (t:Ty),t.aeb<=n->t.aeb<=1000000000->ik n t=some t:=by
 intro n
 induction n with
 |zero=>intro t h;have:=t.cw;omega
 |succ n a=>
  intro t h b;cases t with
  |mk k l=>
   rw[Ty.bY] at h b;have e:=Ty.dm l;rw[ik];simp only[Ty.ck,Ty.cq,cg,ch (l:=l) VW,b9];rw[gZ id l 0 [] aaQ]
   ·simp
   ·intro j x v c d;have:=cy Ty.aeb c;rw[a x VW VW];simp[de (l:=v) (m:=[x]) (by simpa using d)]
def jJ{t:Ty}(h:t.aeb<=1000000000):ik FU t=some t:=Ew FU t (by rw[cP];exact h) h
def Ty.va{k i:Int}{s:Ty}{n:Nat}(h:Tm.node k i s n=true):s.aeb<=64:=by
 unfold Tm.node at h;simp only[eg] at h;have a:=h.2
 by_cases b:hB k=true
 ·rw[bX b] at a;simp only[m0] at a;unfold Ty.err at a
  split at a
  ·split at a
   ·omega
   ·omega
  ·omega
 ·rw[bV b] at a;rw[(Ty.i_ s).1 a,Ty.bY];simp[cm]
def U0{M:Int}(C:0<=M/\M<=500000000000):∀(n:Nat) (t:Tm) (nh:List HC),t.aeb<=n->Sm M t->∃p a,tx n t nh=some (some p,a)/\Kp nh a/\NR a p t:=by
 intro n
 induction n with
 |zero=>intro t nh h;have:=t.cw;omega
 |succ n D=>
  intro t nh h hs;cases t with
  |mk k i s l=>
   have m:=hs.aeb;have A:=hs.idx;rw[Tm.bY] at h m;have hlen:=Tm.dm l;rw[tx];simp only[Tm.ck,Tm.cq,Tm.dQ,Tm.cQ,cg,ch (l:=l) VW,b9]
   have loop:∀(ts:List Tm) (i:Nat) (nh:List HC) (v:List (Option Nat)) (us:List Tm),(∀t∈ts,t∈l)->s7 nh v us->v.length+ts.length<=1000000->∃e a,cY (λ(B:Int) (f:Tm)=>(sa λ(b:(List (Option Nat))) (g:List HC)=>
      b7 (tx n f g) λc d=>
      eB (dZ b [c])<|some ((.next ((eA b [c]),d)):dP ((List (Option Nat))×List HC) ((Option Nat)×List HC)))) ts i (v,nh)=some (.inl (e,a))/\Kp nh a/\s7 a e (us++ts):=by
    intro ts
    induction ts with
    |nil=>intro i nh v us _ o _;exact⟨v,nh,rfl,Kp.refl _,by simpa using o⟩|cons t ts q=>
     intro i nh v us hm o E;simp only[j0] at E;have j:=hm t aas;have F:=cy Tm.aeb j;obtain⟨p,r,a1,a2,a3⟩:=D t nh VW (hs.arg t j);obtain⟨e,a,w,x,y⟩:=q (i+1) r (v++[some p]) (us++[t]) (λu hu=>hm u (by simp[hu])) (((NE.kp a2).list o).append (.cons a3 .nil)) aaQ;refine⟨e,a,?_,a2.trans x,by simpa using y⟩;rw[cO];simp only[ru,a1,bW];rw[de aaQ];simp only[b9,eP,bT,cU];exact w
   obtain⟨e,a,a1,a2,a3⟩:=loop l 0 nh [] [] (λt h=>h) .nil aaQ;rw[a1];simp only[bT,ca,ru]
   obtain⟨z,w,x,y⟩:=qR (k:=k) (i:=i) (s:=s) (ps:=e) (ts:=l) (nh:=a) (by simpa using a3) VW VW (by
    intro t G;have:=(hs.arg t G).fr C.1
    omega)
   exact⟨a.length,z,by rw[w];rfl,a2.trans x,y⟩
def OI{M:Int}(nh:List HC):∀(n:Nat) (t:Tm) (p:Nat),t.aeb<=n->Sm M t->NR nh p t->jb n (some p) nh=some t:=by
 intro n
 induction n with
 |zero=>intro t p h;have:=t.cw;omega
 |succ n w=>
  intro t p h hs y;obtain⟨x,z,m,o,q,f,F,G,H⟩:=y.inv;cases t with
  |mk k i s l=>
   simp only[Tm.cq,Tm.ck,Tm.dQ,Tm.cQ] at m o q f;have g:=hs.aeb;rw[Tm.bY] at h g;have hlen:=Tm.dm l;have A:x.aea.length=l.length:=f.len;have c:=hs.ok;rw[Tm.ei,eg] at c;have B:=Ty.va c.1;rw[jb];simp only[bT,z,m,o,q,cg,ch (l:=x.aea) VW,b9];rw[jJ VW];simp only[bT]
   have loop:∀(ts:List Tm) (ps:List (Option Nat)) (i:Nat) (v:List Tm),(∀t∈ts,t∈l)->s7 nh ps ts->v.length+ts.length<=1000000->cY (λ(r:Int) (d:Option Nat)=>(λ(a:List Tm)=>
      bU (jb n d nh) λb=>
      eB (dZ a [b])<|some ((.next (eA a [b])):dP (List Tm) Tm))) ps i v=some (.inl (v++ts)):=by
    intro ts
    induction ts with
    |nil=>intro ps i v _ h _;cases h;simp
    |cons t ts j=>
     intro ps i v hm h C;simp only[j0] at C;have e:=hm t aas;have D:=cy Tm.aeb e;cases h with
     |cons q1 E=>
      rw[cO,w t _ VW (hs.arg t e) q1];simp only[bT];rw[de aaQ];simp only[b9,bT,cU];rw[j _ (i+1) (eA v [t]) (λu hu=>hm u (by simp[hu])) E (by rw[yR];simp;omega)];simp
   rw[loop l x.aea 0 [] (λt h=>h) f aaQ];simp
mutual
def NR.Zt{nh:List HC}:∀{p:Nat} {t u:Tm},NR nh p t->NR nh p u->t=u
 |_,_,_,.mk (x:=x) a b _ _ _,.mk (x:=y) g1 g2 _ _ _=>by
  rw[a] at g1;obtain rfl:=fS g1;rw[s7.Zt b g2]
def s7.Zt{nh:List HC}:∀{ps:List (Option Nat)} {ts us:List Tm},s7 nh ps ts->s7 nh ps us->ts=us
 |_,_,_,.nil,.nil=>rfl|_,_,_,.cons a b,.cons g1 g2=>by rw[NR.Zt a g1,s7.Zt b g2]
end
def NE.flag{nh:List HC}{p:Nat}{t:Tm}{x:dC}(w:NR nh p t)(r:HC.b_ nh p=some x)(g:t.nf=true):NE nh (nb nh p (HC.dK {x with normal:=true})):=by
 have v:=HC.lN r;have j:=(jj.1 v).1
 have e:HC.b_ (nb nh p (HC.dK {x with normal:=true})) p=some {x with normal:=true}:=by
  unfold HC.b_ nb;simp[j]
 have a:∀q,q≠p->(nb nh p (HC.dK {x with normal:=true}))[q]?=nh[q]?:=by
  intro q c;unfold nb;rw[yZ (λh=>c h.symm)]
 have d:∀q y,HC.b_ nh q=some y->∃b,HC.b_ (nb nh p (HC.dK {x with normal:=true})) q=some {y with normal:=b}/\(b=true->y.normal=true\/q=p):=by
  intro q y hy
  by_cases c:q=p
  ·subst c;rw[r] at hy;obtain rfl:=fS hy;exact⟨true,e,λ_=>.inr rfl⟩
  ·refine⟨y.normal,?_,λh=>.inl h⟩;have:=a q c;unfold HC.b_ at hy|-;rw[this];exact hy
 have key:∀n,(∀q u,u.aeb<=n->NR nh q u->NR (nb nh p (HC.dK {x with normal:=true})) q u):=by
  intro n
  induction n with
  |zero=>intro q u h;have:=u.cw;omega
  |succ n z=>
   intro q u hu c;obtain⟨y,A,B,C,D,E,F,G,H⟩:=c.inv;obtain⟨b,f1,f2⟩:=d q y A
   have f:∀(ts:List Tm) (ps:List (Option Nat)),(∀t∈ts,t.aeb<=n)->s7 nh ps ts->s7 (nb nh p (HC.dK {x with normal:=true})) ps ts:=by
    intro ts
    induction ts with
    |nil=>intro ps _ h;cases h;exact .nil
    |cons t ts m=>
     intro ps hm h;cases h with
     |cons g1 g2=>exact .cons (z _ _ (hm t aas) g1) (m _ (λu hu=>hm u (by simp[hu])) g2)
   refine NR.of f1 B C D (f _ _ ?_ E) F G ?_
   ·intro t I;cases u with
    |mk k i s l=>
     rw[Tm.bY] at hu;have:=cy Tm.aeb I;simp only[Tm.ck] at this;omega
   ·intro J;rcases f2 J with h|h
    ·exact H h
    ·subst h;rw[<-NR.Zt w c];exact g
 refine⟨λq u h=>key _ q u (fT _) h,?_,λq y h=>?_⟩
 ·intro q st c
  have o:q≠p:=by
   rintro rfl;have:=HC.kB c;rw[v] at this;cases this
  unfold HC.c7 at c|-;rw[a q o];exact c
 ·obtain⟨b,K,_⟩:=d q y h;exact⟨b,K⟩
mutual
def Tm.F7(room:Int):Tm->Option (Option Tm)
 |.mk k i s l=>if(Tm.mk k i s l).root then(if((Tm.mk k i s l).dg.aeb:Int)-((Tm.mk k i s l).aeb:Int)>room then none else some (some (Tm.mk k i s l).dg))
  else match Tm.qp room l with
   |none=>none|some none=>some none|some (some a)=>some (some (.mk k i s a))
def Tm.qp(room:Int):List Tm->Option (Option (List Tm))
 |[]=>some none|t::l=>match t.F7 room with
  |none=>none|some (some a)=>some (some (a::l))|some none=>match Tm.qp room l with
   |none=>none|some none=>some none|some (some b)=>some (some (t::b))
end
theorem Bp:∀(l:List Tm) (f:Tm),f.ok=true->(∀t∈l,t.ok=true)->(iH f l).ok=true
 |[],f,h,_=>h|a::l,f,h,b=>by
  rw[iH];refine Bp l _ ?_ λt d=>b t (by simp[d]);rw[Tm.ei];simp only[eg,im];refine⟨rfl,?_⟩;intro x c;simp only[jW,uo,qZ] at c;rcases c with rfl|rfl
  ·exact h
  ·exact b _ aas
def AI{M:Int}(b:0<=M):∀(l:List Tm) (f:Tm),f.aef M=true->(∀t∈l,t.aef M=true)->(iH f l).aef M=true
 |[],f,h,_=>h|a::l,f,h,c=>by
  rw[iH];refine AI b l _ ?_ λt e=>c t aau;rw[Tm.dp];simp only[eg,im,m0];refine⟨b,?_⟩;intro x d;simp only[jW,uo,qZ] at d;rcases d with rfl|rfl
  ·exact h
  ·exact c _ aas
theorem Tm.uy{k i:Int}{s:Ty}{l m:List Tm}(h:(Tm.mk k i s l).ok=true)(a:m.length=l.length)(hm:∀t∈m,t.ok=true):(Tm.mk k i s m).ok=true:=by
 rw[Tm.ei] at h|-;simp only[eg,im] at h|-;rw[a];exact⟨h.1,hm⟩
def Tm.Af{M k i:Int}{s:Ty}{l m:List Tm}(h:(Tm.mk k i s l).aef M=true)(hm:∀t∈m,t.aef M=true):(Tm.mk k i s m).aef M=true:=by
 rw[Tm.dp] at h|-;simp only[eg,im,m0] at h|-;exact⟨h.1,hm⟩
def RN{M:Int}(B:0<=M){t:Tm}(hs:Sm M t)(hn:t.aeb<=8192)(z:t.root=true):t.dg.ok=true/\t.dg.aef (M+8192)=true:=by
 have v:=Tm.Fk hs.ok z;have up:∀u,Sm M u->u.aef (M+8192)=true:=λu hu=>(hu.mono VW).aef;cases v with
 |app=>
  rename_i i s d f b a;have w:=hs.arg (.mk 2 d f [b]) aas;have p:=hs.arg a aas;have l:=w.arg b aas;rw[Tm.bY] at hn;simp only[cm,Tm.bY] at hn
  have e:(Tm.mk 3 i s [.mk 2 d f [b],a]).dg=Tm.eG 0 b a:=by simp[Tm.dg]
  rw[e];exact⟨Tm.yp a p.ok b 0 VW l.ok,H3 (M:=M) (N:=M) VW a p.aef b 0 VW VW l.aef l.ok⟩
 |proj x=>
  rename_i k i s d f a b;have q:=hs.arg (.mk 10 d f [a,b]) aas;rcases x with rfl|rfl
  ·have:=q.arg a aas;simpa[Tm.dg] using And.intro this.ok (up _ this)
  ·have:=q.arg b aas;simpa[Tm.dg] using And.intro this.ok (up _ this)
 |zero x=>
  rename_i k A i s d f b st
  have m:k≠3/\k≠11/\k≠12:=VW
  have:(Tm.mk k i s [b,st,.mk A d f []]).dg=b:=by simp[Tm.dg,m.1,m.2.1,m.2.2]
  rw[this];have:=hs.arg b aas;exact⟨this.ok,up _ this⟩
 |succ=>
  rename_i i s d f b st n;have r:=hs.arg b aas;have g:=hs.arg st aas;have j:=(hs.arg (.mk 5 d f [n]) aas).arg n aas
  have e:(Tm.mk 6 i s [b,st,.mk 5 d f [n]]).dg=iH st [n,.mk 6 i s [b,st,n]]:=by simp[Tm.dg,iH]
  rw[e];have o:(Tm.mk 6 i s [b,st,n]).ok=true:=Tm.uy hs.ok rfl (by intro t c;simp only[jW,uo,qZ] at c;rcases c with rfl|rfl|rfl;all_goals first|exact r.ok|exact g.ok|exact j.ok);have hle:(Tm.mk 6 i s [b,st,n]).aef (M+8192)=true:=Tm.Af (hs.mono VW).aef (by intro t c;simp only[jW,uo,qZ] at c;rcases c with rfl|rfl|rfl;all_goals first|exact up _ r|exact up _ g|exact up _ j);refine⟨Bp _ _ g.ok ?_,AI VW _ _ (up _ g) ?_⟩<;>
  ·intro t c;simp only[jW,uo,qZ] at c;rcases c with rfl|rfl
   ·first|exact j.ok|exact up _ j
   ·first|exact o|exact hle
 |cons=>
  rename_i i s d f b st h n;have r:=hs.arg b aas;have g:=hs.arg st aas;have j:=(hs.arg (.mk 8 d f [h,n]) aas).arg n aas;have y:=(hs.arg (.mk 8 d f [h,n]) aas).arg h aas
  have e:(Tm.mk 9 i s [b,st,.mk 8 d f [h,n]]).dg=iH st [h,n,.mk 9 i s [b,st,n]]:=by simp[Tm.dg,iH]
  rw[e];have o:(Tm.mk 9 i s [b,st,n]).ok=true:=Tm.uy hs.ok rfl (by intro t c;simp only[jW,uo,qZ] at c;rcases c with rfl|rfl|rfl;all_goals first|exact r.ok|exact g.ok|exact j.ok);have hle:(Tm.mk 9 i s [b,st,n]).aef (M+8192)=true:=Tm.Af (hs.mono VW).aef (by intro t c;simp only[jW,uo,qZ] at c;rcases c with rfl|rfl|rfl;all_goals first|exact up _ r|exact up _ g|exact up _ j);refine⟨Bp _ _ g.ok ?_,AI VW _ _ (up _ g) ?_⟩<;>
  ·intro t c;simp only[jW,uo,qZ] at c;rcases c with rfl|rfl|rfl
   ·first|exact y.ok|exact up _ y
   ·first|exact j.ok|exact up _ j
   ·first|exact o|exact hle
def Tm.AG(room k i:Int)(s:Ty)(l:List Tm):(Tm.mk k i s l).F7 room=if(Tm.mk k i s l).root then(if((Tm.mk k i s l).dg.aeb:Int)-((Tm.mk k i s l).aeb:Int)>room then none else some (some (Tm.mk k i s l).dg))
 else match Tm.qp room l with
  |none=>none|some none=>some none|some (some a)=>some (some (.mk k i s a)):=by rw[Tm.F7]
def I8{M room:Int}(o:0<=M)(t:Tm):Sm M t->t.aeb<=8192->∀e,t.F7 room=some (some e)->e.ok=true/\e.aef (M+8192)=true/\(e.aeb:Int)<=t.aeb+room:=by
 induction t using Tm.ind with
 |h k i s l p=>
  intro hs hn e h;rw[Tm.AG] at h
  by_cases f:(Tm.mk k i s l).root=true
  ·rw[bX f] at h
   split at h
   ·cases h
   ·obtain rfl:=fS (fS h);obtain⟨q,r⟩:=RN o hs hn f;exact⟨q,r,VW⟩
  ·rw[bV f] at h;have up:∀u,Sm M u->u.aef (M+8192)=true:=λu hu=>(hu.mono VW).aef;have g:=hn;rw[Tm.bY] at g
   have w:∀(ts a:List Tm),(∀t∈ts,t∈l)->Tm.qp room ts=some (some a)->a.length=ts.length/\(∀t∈a,t.ok=true/\t.aef (M+8192)=true)/\(cm Tm.aeb a:Int)<=cm Tm.aeb ts+room:=by
    intro ts
    induction ts with
    |nil=>intro a _ h;rw[Tm.qp] at h;cases h
    |cons t ts j=>
     intro a hm h;rw[Tm.qp] at h;have b:=hm t aas;have x:=cy Tm.aeb b;have c:=hs.arg t b
     split at h
     ·cases h
     ·rename_i u hu;obtain rfl:=fS (fS h);obtain⟨a1,a2,a3⟩:=p t b c VW u hu;refine⟨rfl,?_,by simp only[cm];omega⟩;intro v hv;rcases jW.1 hv with rfl|hv
      ·exact⟨a1,a2⟩
      ·have:=hs.arg v (hm v (by simp[hv]));exact⟨this.ok,up _ this⟩
     ·split at h
      ·cases h
      ·cases h
      ·rename_i m d;obtain rfl:=fS (fS h);obtain⟨a1,a2,a3⟩:=j m (λu hu=>hm u (by simp[hu])) d;refine⟨by simp[a1],?_,by simp only[cm];omega⟩;intro v hv;rcases jW.1 hv with rfl|hv
       ·exact⟨c.ok,up _ c⟩
       ·exact a2 v hv
   split at h
   ·cases h
   ·cases h
   ·rename_i m d;obtain rfl:=fS (fS h);obtain⟨a1,a2,a3⟩:=w l m (λt h=>h) d;refine⟨Tm.uy hs.ok a1 λt n=>(a2 t n).1,Tm.Af (hs.mono VW).aef λt n=>(a2 t n).2,?_⟩;rw[Tm.bY,Tm.bY];omega
def yE(room:Int)(t:Tm):t.nf=true↔t.F7 room=some none:=by
 induction t using Tm.ind with
 |h k i s l f=>
  rw[Tm.Lw,Tm.AG]
  have g:∀ts:List Tm,(∀t∈ts,t∈l)->(ts.all Tm.nf=true↔Tm.qp room ts=some none):=by
   intro ts
   induction ts with
   |nil=>intro _;simp[Tm.qp]|cons t ts b=>
    intro hm;have j:=f t (hm t aas);have m:=b λu hu=>hm u (by simp[hu]);rw[vq,eg,j,m,Tm.qp];constructor
    ·rintro⟨c,d⟩;rw[c,d]
    ·intro h
     split at h
     ·cases h
     ·cases h
     ·rename_i c
      split at h
      ·cases h
      ·rename_i d;exact⟨c,d⟩
      ·cases h
  have:=g l λt h=>h
  by_cases a:(Tm.mk k i s l).root=true
  ·rw[bX a,a];simp
   try(split<;>simp)
  ·rw[bV a];simp only[eg,T6,this];constructor
   ·rintro⟨_,e⟩;rw[e]
   ·intro h;refine⟨by simpa using a,?_⟩
    split at h
    ·cases h
    ·rename_i e;exact e
    ·cases h
def Ru{M:Int}{t:Tm}(hs:Sm M t)(hn:t.aeb<=8192)(c:t.root=true):(t.dg.aeb:Int)<=1000000000:=by
 have d:=Tm.Fk hs.ok c;cases d with
 |app=>
  rename_i i s g h b a;rw[Tm.bY] at hn;simp only[cm,Tm.bY] at hn;have e:=hs.arg (.mk 2 g h [b]) aas;have j:=Tm.oD a b 0 (e.arg b aas).ok;have k:=Tm.fW b 0;have hmul:b.aeh 0*a.aeb<=8192*8192:=D2 VW VW
  grind[Tm.eG,Tm.dg]
 |proj f=>
  rw[Tm.bY] at hn;simp only[cm,Tm.bY] at hn;rcases f with rfl|rfl<;>(simp[Tm.dg];omega)
 |zero f=>grind[Tm.dg,Tm.bY,cm]|succ=>grind[iH,Tm.dg,mV,Tm.bY,cm]|cons=>grind[iH,Tm.dg,mV,Tm.bY,cm]
def R1{M:Int}(P:0<=M/\M<=90000000000){nh:List HC}{p:Nat}{t:Tm}(L:NR nh p t)(hs:Sm M t)(hn:t.aeb<=8192)(d:t.root=true):qx (some p) nh=some (t.dg.aeb:Int):=by
 have Q:=Dy P L hs hn d;have D:=Tm.Fk hs.ok d;obtain⟨x,R,f,e3,e4,l,e6,e7,e8⟩:=L.inv;unfold qx vK;simp only[bT,R];cases D with
 |app=>
  rename_i i s m o b a;simp only[Tm.cq,Tm.ck] at f l;obtain⟨pf,pa,r,S,T⟩:=l.inv2;obtain⟨y,f1,f2,f3,f4,f5,_⟩:=S.inv;simp only[Tm.cq,Tm.ck] at f2 f5;obtain⟨pb,E,v⟩:=f5.inv1;have F:=hs.arg (.mk 2 m o [b]) aas;have U:=hs.arg a aas;have B:=F.arg b aas;rw[Tm.bY] at hn;simp only[cm,Tm.bY] at hn;obtain⟨z,g1,_,_,_,_,g6,_⟩:=v.inv;obtain⟨u,g,_,_,_,_,j,_⟩:=T.inv;rw[f,bX aaq,r];simp only[cD,dV,gf,kW,bT,f1,E,g1];rw[count_eq (M:=M) VW nh FU b pb 0 (by rw[cP];omega) v B VW VW];simp only[bT,g,bW,g6,j];have V:=Tm.fW b 0;have hmul:b.aeh 0*a.aeb<=8192*8192:=D2 VW VW;have W:=Tm.oD a b 0 B.ok;have X:=a.cw
  have e:(Tm.mk 3 i s [.mk 2 m o [b],a]).dg=Tm.eG 0 b a:=by simp[Tm.dg]
  rw[e]
  have hint:(b.aeh 0:Int)*((a.aeb:Int)-1)=((b.aeh 0*a.aeb:Nat):Int)-(b.aeh 0:Int):=by rw[S5,Su];simp
  rw[ds VW VW,wB (by rw[hint];omega) (by rw[hint];omega),hint,cX VW VW]
  congr 1
  omega
 |proj N=>
  rename_i k i s m o a b;obtain⟨p',Y,g1,g2,g3⟩:=Q;simp only[Tm.cq,Tm.ck] at f l;obtain⟨z,g,_,_,_,_,j,_⟩:=g3.inv
  have c:k≠3/\k≠6/\k≠9:=VW
  rw[f,bV (by simpa using c.1),bV (by simpa using c.2.1),bV (by simpa using c.2.2),g1];simp only[bW,bT,g,j]
 |zero N=>
  rename_i k Z i s m o b st;simp only[Tm.cq,Tm.ck] at f l;obtain⟨pb,ps,O,r,v,q,C⟩:=l.Li;obtain⟨y,f1,f2,f3,f4,f5,_⟩:=C.inv;obtain⟨z,g,_,_,_,_,j,_⟩:=v.inv;simp only[Tm.cq,Tm.ck] at f2 f5
  have c:k≠3/\k≠11/\k≠12:=VW
  have:(Tm.mk k i s [b,st,.mk Z m o []]).dg=b:=by simp[Tm.dg,c.1,c.2.1,c.2.2]
  rw[this];rcases N with⟨rfl,rfl⟩|⟨rfl,rfl⟩
  ·rw[f,bV aaq,bX aaq,r];simp only[cD,dV,gP,gf,kW,bT,f1,f2,g,j];rw[bV aaq];rfl
  ·rw[f,bV aaq,bV aaq,bX aaq,r];simp only[cD,dV,gP,gf,kW,bT,f1,f2,g,j];rw[bV aaq];rfl
 |succ=>
  rename_i i s m o b st n;simp only[Tm.cq,Tm.ck] at f l;obtain⟨pb,ps,O,r,v,q,C⟩:=l.Li;obtain⟨y,f1,f2,f3,f4,f5,_⟩:=C.inv;simp only[Tm.cq,Tm.ck] at f2 f5;obtain⟨pn,w,A⟩:=f5.inv1;obtain⟨z1,g,_,_,_,_,j,_⟩:=v.inv;obtain⟨z2,G,_,_,_,_,H,_⟩:=q.inv;obtain⟨z3,I,_,_,_,_,J,_⟩:=A.inv;rw[Tm.bY] at hn;simp only[cm,Tm.bY] at hn
  have e:(Tm.mk 6 i s [b,st,.mk 5 m o [n]]).dg=iH st [n,.mk 6 i s [b,st,n]]:=by simp[Tm.dg,iH]
  rw[e,mV];simp only[cm,Tm.bY,j0,tP];rw[f,bV aaq,bX aaq,r];simp only[cD,dV,gP,gf,kW,bT,f1,f2,w,g,G,I,j,H,J];rw[bX aaq];simp only[bW];rw[wB (a:=2) VW VW,cX (a:=2) VW VW,cX (b:=2*(n.aeb:Int)) VW VW,cX (b:=1) VW VW,cX (b:=(b.aeb:Int)) VW VW,cX VW VW]
  congr 1
  omega
 |cons=>
  rename_i i s m o b st h n;simp only[Tm.cq,Tm.ck] at f l;obtain⟨pb,ps,O,r,v,q,C⟩:=l.Li;obtain⟨y,f1,f2,f3,f4,f5,_⟩:=C.inv;simp only[Tm.cq,Tm.ck] at f2 f5;obtain⟨ph,pn,w,K,A⟩:=f5.inv2;obtain⟨z1,g,_,_,_,_,j,_⟩:=v.inv;obtain⟨z2,G,_,_,_,_,H,_⟩:=q.inv;obtain⟨z3,I,_,_,_,_,J,_⟩:=A.inv;obtain⟨z4,q1,_,_,_,_,q6,_⟩:=K.inv;rw[Tm.bY] at hn;simp only[cm,Tm.bY] at hn
  have e:(Tm.mk 9 i s [b,st,.mk 8 m o [h,n]]).dg=iH st [h,n,.mk 9 i s [b,st,n]]:=by simp[Tm.dg,iH]
  rw[e,mV];simp only[cm,Tm.bY,j0,tP];rw[f,bV aaq,bV aaq,bX aaq,r];simp only[cD,dV,gP,gf,kW,bT,f1,f2,w,g,G,I,q1,j,H,J,q6];rw[bX aaq];simp only[bW];rw[wB (a:=2) VW VW,cX (a:=3) VW VW,cX (b:=(h.aeb:Int)) VW VW,cX (b:=2*(n.aeb:Int)) VW VW,cX (b:=1) VW VW,cX (b:=(b.aeb:Int)) VW VW,cX VW VW]
  congr 1
  omega
def EW{α:Type}(a:List α)(x y:α)(b:List α):(a++x::b).set a.length y=a++y::b:=aas
def Cr(room:Int)(p:Nat)(t:Tm)(nh:List HC)(o:Option ((Option Nat)×Int×List HC)):Prop:=
 match t.F7 room with
 |none=>∃a,o=some (none,4,a)/\NE nh a|some none=>∃a,o=some (none,0,a)/\NE nh a|some (some c)=>∃b a,o=some (some b,0,a)/\NE nh a/\NR a b c
def Tz{M room:Int}(hM:0<=M/\M<=80000000000)(X:-100000<=room/\room<=100000):∀(n:Nat) (t:Tm) (p:Nat) (nh:List HC),t.aeb<=n->NR nh p t->Sm M t->t.aeb<=8192->Cr room p t nh (kg n (some p) room nh):=by
 intro n
 induction n with
 |zero=>intro t p nh h;have:=t.cw;omega
 |succ n ih=>
  intro t p nh hn P hs H;obtain⟨x,Y,e2,e3,e4,Z,e6,e7,e8⟩:=P.inv;rw[kg];simp only[bT,Y]
  by_cases K:x.normal=true
  ·rw[bX K];unfold Cr;rw[(yE room t).1 (e8 K)];exact⟨nh,rfl,NE.refl _⟩
  ·rw[bV K,KN P hs.ok];simp only[bT];cases t with
   |mk k i s l=>
    by_cases f:(Tm.mk k i s l).root=true
    ·rw[bX f,R1 VW P hs H f];simp only[bT,eE,e6];obtain⟨N,c,g1,g2,g3⟩:=Dy (M:=M) VW P hs H f;have ah:=Ru hs H f;rw[ds VW VW];unfold Cr;rw[Tm.AG,bX f]
     by_cases C:((Tm.mk k i s l).dg.aeb:Int)-((Tm.mk k i s l).aeb:Int)>room
     ·rw[bX C,bX C];exact⟨nh,rfl,NE.refl _⟩
     ·rw[bV C,bV C,g1];exact⟨N,c,rfl,NE.kp g2,g3⟩
    ·rw[bV f];simp only[Tm.cq,Tm.ck,Tm.dQ,Tm.cQ] at e2 e3 e4 Z;have F:=H;rw[Tm.bY] at hn F;have hlen:=Tm.dm l;have Q:x.aea.length=l.length:=Z.len;rw[ch VW];simp only[b9,cg];have af:=hs.idx;have R:∀u:Tm,Sm M u->0<=u.fr/\u.fr<=M+1:=λu hu=>hu.fr hM.1
     have loop:∀(ts pre:List Tm) (ps I:List (Option Nat)) (j:Nat) (A:List HC),l=pre++ts->x.aea=I++ps->I.length=j->NE nh A->s7 A ps ts->s7 A I pre->match Tm.qp room ts with
       |none=>∃c,cY (λ(v:Int) (B:Option Nat)=>(λ(w:List HC)=>
         hU (kg n B room w) λg m a=>
         if(cF m 0) then(some (.ret (none,m,a)))
         else(if(Option.isSome g) then(
         bU (HC.b_ a p) λd=>
         eB (xH d.aea)<|bU (cr d.aea v) λG=>
         b7 (fO (some p) (xu d.aea v g) a) λy r=>
         some (.ret (y,0,r)))
         else(some ((.next a):dP (List HC) ((Option Nat)×Int×List HC)))))) ps j A=some (.inr (none,4,c))/\NE nh c
       |some none=>∃c,cY (λ(v:Int) (B:Option Nat)=>(λ(w:List HC)=>
         hU (kg n B room w) λg m a=>
         if(cF m 0) then(some (.ret (none,m,a)))
         else(if(Option.isSome g) then(
         bU (HC.b_ a p) λd=>
         eB (xH d.aea)<|bU (cr d.aea v) λG=>
         b7 (fO (some p) (xu d.aea v g) a) λy r=>
         some (.ret (y,0,r)))
         else(some ((.next a):dP (List HC) ((Option Nat)×Int×List HC)))))) ps j A=some (.inl c)/\NE nh c
       |some (some S)=>∃N c,cY (λ(v:Int) (B:Option Nat)=>(λ(w:List HC)=>
         hU (kg n B room w) λg m a=>
         if(cF m 0) then(some (.ret (none,m,a)))
         else(if(Option.isSome g) then(
         bU (HC.b_ a p) λd=>
         eB (xH d.aea)<|bU (cr d.aea v) λG=>
         b7 (fO (some p) (xu d.aea v g) a) λy r=>
         some (.ret (y,0,r)))
         else(some ((.next a):dP (List HC) ((Option Nat)×Int×List HC)))))) ps j A=some (.inr (some N,0,c))/\NE nh c/\NR c N (.mk k i s (pre++S)):=by
      intro ts
      induction ts with
      |nil=>
       intro pre ps I j A _ _ _ D hp _;cases hp;rw[Tm.qp];exact⟨A,rfl,D⟩
      |cons t ts aa=>
       intro pre ps I j A O hx hq D hp J;cases hp with
       |cons q1 q2=>
        rename_i q ps
        have T:t∈l:=by rw[O];simp
        have ai:=cy Tm.aeb T;have U:=hs.arg t T;have z:=ih t q A VW q1 U VW;unfold Cr at z;rw[Tm.qp];rw[cO]
        split at z
        ·rename_i E;obtain⟨c,a1,a2⟩:=z;rw[E,a1];exact⟨c,rfl,D.trans a2⟩
        ·rename_i E;obtain⟨c,a1,a2⟩:=z;rw[E,a1];have:=aa (pre++[t]) ps (I++[some q]) (j+1) c (by simp[O]) (by simp[hx]) (by simp[hq]) (D.trans a2) (a2.list q2) ((a2.list J).append (.cons (a2.node _ _ q1) .nil))
         revert this
         cases Tm.qp room ts with
         |none=>exactλh=>h|some o=>
          cases o with
          |none=>exactλh=>h|some S=>simp only[pQ,WO,m6];exactλh=>h
        ·rename_i t' E;obtain⟨W,c,a1,a2,a3⟩:=z;rw[E,a1];simp only[na];rw[bV aaq,bX (show(some W).isSome=true from rfl)];obtain⟨b,V⟩:=(D.trans a2).get p x Y;rw[V];simp only[bT];obtain⟨s1,s2,s3⟩:=I8 hM.1 t U VW t' E;rw[show xH x.aea=true from tB ⟨by rw[Q,O];simp;omega,by rw[Q];unfold xy;omega⟩]
         have ab:cr x.aea (j:Int)=some (some q):=by rw[gQ,hx,<-hq];simp
         have ad:xu x.aea (j:Int) (some W)=I++some W::ps:=by
          unfold xu;rw[hx,<-hq];simp
         simp only[b9,ab,bT,ad];unfold fO;simp only[bT,V]
         obtain⟨ae,b1,b2,b3⟩:=qR (k:=k) (i:=i) (s:=s) (ps:=I++some W::ps) (ts:=pre++t'::ts) (nh:=c) ((a2.list J).append (.cons a3 (a2.list q2))) (by
          rw[O,DD] at F;rw[DD];simp only[cm] at F|-
          omega) VW (by
          intro u hu;rcases qO.1 hu with hu|hu
          ·have:=R u (hs.arg u (by rw[O];simp[hu]));omega
          ·rcases jW.1 hu with rfl|hu
           ·have:=Tm.QZ u (M:=M+8192) VW s1 s2;omega
           ·have:=R u (hs.arg u (by rw[O];simp[hu]));omega)
         rw[e2,e3,e4,b1];exact⟨c.length,ae,rfl,(D.trans a2).trans (NE.kp b2),b3⟩
     have:=loop l [] x.aea [] 0 nh rfl rfl rfl (NE.refl _) Z .nil;unfold Cr;rw[Tm.AG,bV f]
     have L:Tm.qp room l=some none->(Tm.mk k i s l).nf=true:=by
      intro h;rw[yE room,Tm.AG,bV f,h]
     revert this L
     cases Tm.qp room l with
     |none=>
      rintro⟨c,a1,a2⟩ _;have e:((0:Nat):Int)=0:=rfl;rw[a1];exact⟨c,rfl,a2⟩
     |some o=>
      cases o with
      |none=>
       rintro⟨c,a1,a2⟩ L;rw[a1];simp only[bT,ca];obtain⟨b,V⟩:=a2.get p x Y;rw[V];simp only[bT];exact⟨_,rfl,a2.trans (NE.flag (x:={x with normal:=b}) (a2.node _ _ P) V (L rfl))⟩
      |some l'=>
       rintro⟨N,c,a1,a2,a3⟩ _;rw[a1];exact⟨N,c,rfl,a2,a3⟩
def Pd{M:Int}(L:0<=M/\M<=80000000000):∀(n:Nat) (t:Tm) (p:Nat) (nh:List HC),t.aeb<=n->NR nh p t->Sm M t->t.aeb<=8192->∃d,j_ n (some p) nh=some (t.nf,d)/\NE nh d:=by
 intro n
 induction n with
 |zero=>intro t p nh h;have:=t.cw;omega
 |succ n G=>
  intro t p nh hn z hs A;obtain⟨x,D,N,O,P,B,Q,R,H⟩:=z.inv;rw[j_];simp only[bT,D]
  by_cases o:x.normal=true
  ·rw[bX o,H o];exact⟨nh,rfl,NE.refl _⟩
  ·rw[bV o,KN z hs.ok];simp only[bT];cases t with
   |mk k i s l=>
    by_cases a:(Tm.mk k i s l).root=true
    ·rw[bX a,Tm.Lw,a];exact⟨nh,rfl,NE.refl _⟩
    ·rw[bV a];simp only[Tm.ck] at B;rw[Tm.bY] at hn A;have hlen:=Tm.dm l;have I:x.aea.length=l.length:=B.len;rw[ch VW];simp only[b9,cg]
     have loop:∀(ts:List Tm) (ps:List (Option Nat)) (j:Nat) (e:List HC),(∀t∈ts,t∈l)->NE nh e->s7 e ps ts->∃d,cY (λ(E:Int) (q:Option Nat)=>(λ(r:List HC)=>
        b7 (j_ n q r) λv g=>
        if v then(some (.next g))else(some ((.ret (false,g)):dP (List HC) (Bool×List HC))))) ps j e=some (if ts.all Tm.nf then .inl d else .inr (false,d))/\NE nh d:=by
      intro ts
      induction ts with
      |nil=>intro ps j e _ m h;cases h;exact⟨e,rfl,m⟩
      |cons t ts C=>
       intro ps j e hm m h;cases h with
       |cons q1 J=>
        have w:=hm t aas;have K:=cy Tm.aeb w;obtain⟨y,a1,a2⟩:=G t _ e VW q1 (hs.arg t w) VW;rw[cO,a1];simp only[bW]
        by_cases c:t.nf=true
        ·rw[bX c];simp only[bT,cU,vq,c,zK];exact C _ (j+1) y (λu hu=>hm u (by simp[hu])) (m.trans a2) (a2.list J)
        ·rw[bV c];simp only[bT,Gi,vq,c,X0];exact⟨y,rfl,m.trans a2⟩
     obtain⟨d,a1,a2⟩:=loop l x.aea 0 nh (λt h=>h) (NE.refl _) B;rw[a1]
     by_cases f:l.all Tm.nf=true
     ·rw[bX f];simp only[bT,ca];obtain⟨b,F⟩:=a2.get p x D;rw[F]
      have c:(Tm.mk k i s l).nf=true:=by
       rw[Tm.Lw,f];simpa using a
      rw[c];exact⟨_,rfl,a2.trans (NE.flag (x:={x with normal:=b}) (a2.node _ _ z) F c)⟩
     ·rw[bV f]
      have c:(Tm.mk k i s l).nf=false:=by
       rw[Tm.Lw];simp[f]
      rw[c];exact⟨d,rfl,a2⟩
def nI{t:Tm}(h:t.wt<=1000000000):ib t=some (if t.err=0 then(t.aeb:Int)else 0,t.err):=by
 unfold ib Tm.err;rw[uB FU t (by rw[cP];exact h) h]
 by_cases a:t.ok=true
 ·simp only[a,if_true,bW,eE]
  by_cases b:4096<t.aeb
  ·rw[bX b,bX VW];rfl
  ·rw[bV b,bV VW];rfl
 ·simp only[a,bW];rfl
def n_{t:Tm}(h:t.wt<=1000000000):si t=some t.err:=by
 unfold si;rw[nI h];rfl
theorem Tm.d_{t:Tm}(h:t.err=0):t.ok=true/\t.aeb<=4096:=by
 unfold Tm.err at h
 split at h
 ·rename_i a
  split at h
  ·omega
  ·exact⟨a,VW⟩
 ·omega
def O4:∀(n:Nat) (t:Tm) (b:Int) (s:Bool),t.aeb<=n->t.ok=true->t.aeb<=1000000->0<=b->b+t.aeb<=100000000->fU n t b (λ(s:Bool) (f:Int) (g:Int)=>kH f g s) s=some (s&&t.aef 536870912):=by
 intro n
 induction n with
 |zero=>intro t b s h;have:=t.cw;omega
 |succ n v=>
  intro t b s h w hn D m;cases t with
  |mk k i ty l=>
   obtain⟨o1,o2,x,y,E⟩:=Tm.jz w;rw[Tm.bY] at h hn m;have hlen:=Tm.dm l;rw[fU];simp only[Tm.ck,Tm.cq,Tm.dQ,cg,eu];rw[Tm.dp]
   by_cases e:k=1
   ·have z:=o1 e;subst z;rw[bX e];unfold kH;cases s with
    |true=>simp[DU];rfl|false=>simp;rfl
   ·rw[bV e];have hi:=x e;subst hi
    have o:df (cn k 2) (c8 .i64 b 1) b=b+dB k:=by
     unfold dB
     by_cases p:k=2
     ·subst p;rw[bX rfl];exact cX VW VW
     ·rw[bV p]
      have:cn k 2=false:=by simp[cn,p]
      rw[this];simp
    have A:=gE k;rw[ch (l:=l) VW];simp only[b9,o]
    have loop:∀(ts:List Tm) (j:Nat) (s:Bool),(∀t∈ts,t∈l)->cY (λ(B:Int) (q:Tm)=>(λ(a:Bool)=>
      bU (fU n q (b+dB k) (λ(s:Bool) (f:Int) (g:Int)=>kH f g s) a) λc=>
      some ((.next c):dP Bool Bool))) ts j s=some (.inl (s&&ts.all (Tm.aef 536870912))):=by
     intro ts
     induction ts with
     |nil=>intro j s _;simp|cons t ts r=>
      intro j s hm;have d:=hm t aas;have C:=cy Tm.aeb d;rw[cO,v t _ _ VW (y t d) VW VW VW];simp only[bT,cU];rw[r (j+1) _ λu hu=>hm u (by simp[hu])];simp[No]
    rw[loop l 0 s λt h=>h];simp
def Je{t:Tm}(a:t.ok=true)(hn:t.aeb<=1000000):oC t=some (t.aef 536870912):=by
 unfold oC oI;rw[O4 FU t 0 true (by rw[cP];omega) a hn VW VW];simp
def Tm.z:Tm:=.mk 0 0 (.mk 0 []) []
def NR.Vp{nh:List HC}{c:Nat}{st a:gj}(h:HC.c7 nh c=some st):∀n,(∀p t,t.aeb<=n->NR nh p t->NR (nb nh c (HC.iI a)) p t):=by
 have j:=HC.kB h
 have d:∀q y,HC.b_ nh q=some y->HC.b_ (nb nh c (HC.iI a)) q=some y:=by
  intro q y hy;have e:=HC.lN hy
  have f:c≠q:=by
   rintro rfl;rw[j] at e;cases e
  unfold HC.b_ nb;rw[yZ f,e]
 intro n
 induction n with
 |zero=>intro p t h;have:=t.cw;omega
 |succ n m=>
  intro p t o r;obtain⟨y,v,w,x,z,A,B,C,D⟩:=r.inv
  have b:∀(ts:List Tm) (ps:List (Option Nat)),(∀t∈ts,t.aeb<=n)->s7 nh ps ts->s7 (nb nh c (HC.iI a)) ps ts:=by
   intro ts
   induction ts with
   |nil=>intro ps _ h;cases h;exact .nil
   |cons t ts g=>
    intro ps hm h;cases h with
    |cons g1 g2=>exact .cons (m _ _ (hm t aas) g1) (g _ (λu hu=>hm u (by simp[hu])) g2)
  refine NR.of (d _ _ v) w x z (b _ _ ?_ A) B C D;intro u hu;cases t with
  |mk k i s l=>
   rw[Tm.bY] at o;have:=cy Tm.aeb hu;simp only[Tm.ck] at this;omega
def CW{nh:List HC}{b:Nat}{st a:gj}(h:HC.c7 nh b=some st):HC.c7 (nb nh b (HC.iI a)) b=some a:=by
 have d:=HC.kB h;have c:=(jj.1 d).1;unfold HC.c7 nb;simp[c]
structure At (nh:List HC) (s0:Nat) (t:Tm) (m:Int):Prop where
 st:∃p,HC.c7 nh s0=some ⟨some p,m⟩/\NR nh p t
def UL{M:Int}(i:0<=M/\M<=80000000000){nh:List HC}{d:Nat}{t:Tm}{m:Int}(h:At nh d t m)(hs:Sm M t)(hn:t.aeb<=4096)(hm:0<=m/\m<=1000000):match t.F7 (4096-t.aeb)with
  |none=>∃a,j7 (some d) nh=some (false,4,a)|some none=>∃a,j7 (some d) nh=some (false,0,a)/\At a d t m|some (some g)=>∃a,j7 (some d) nh=some (true,0,a)/\At a d g (m+1):=by
 obtain⟨p,e,f⟩:=h.st;obtain⟨x,j,_,_,_,_,k,_⟩:=f.inv;have n:=t.cw;have b:=Tz (M:=M) (room:=4096-t.aeb) i VW FU t p nh (by rw[cP];omega) f hs VW;unfold j7 xB;simp only[bT,e,j,k];rw[ds VW VW];unfold Cr at b
 split at b
 ·rename_i c;obtain⟨a,a1,a2⟩:=b
  try rw[c]
  rw[a1];exact⟨a,rfl⟩
 ·rename_i c;obtain⟨a,a1,a2⟩:=b
  try rw[c]
  rw[a1];exact⟨a,rfl,⟨p,a2.state _ _ e,a2.node _ _ f⟩⟩
 ·rename_i g c;obtain⟨l,a,a1,a2,a3⟩:=b
  try rw[c]
  rw[a1];have g1:=a2.state _ _ e;simp only[na];rw[bV (by simp[cF])];simp only[g1,bT];rw[cX VW VW];refine⟨_,rfl,⟨l,CW (CW g1),?_⟩⟩;exact NR.Vp (CW g1) _ _ _ (fT _) (NR.Vp g1 _ _ _ (fT _) a3)
def Tm.norm:Nat->Int->Tm->Tm×Int×Int
 |0,m,t=>if t.nf then(t,m,0)else(Tm.z,0,5)|k+1,m,t=>match t.F7 (4096-t.aeb)with
  |none=>(Tm.z,0,4)|some none=>(t,m,0)|some (some a)=>Tm.norm k (m+1) a
def LK{k:Nat}{m:Int}{t:Tm}(h:t.F7 (4096-t.aeb)=none):t.norm (k+1) m=(Tm.z,0,4):=by rw[Tm.norm,h]
def zj{k:Nat}{m:Int}{t:Tm}(h:t.F7 (4096-t.aeb)=some none):t.norm (k+1) m=(t,m,0):=by rw[Tm.norm,h]
def zb{k:Nat}{m:Int}{t a:Tm}(h:t.F7 (4096-t.aeb)=some (some a)):t.norm (k+1) m=a.norm k (m+1):=by rw[Tm.norm,h]
def F4{σ ρ:Type}{F:σ->Option (dP σ ρ)}:∀{n m:Nat} {s:σ} {o:σ⊕ρ},n<=m->nY F n s=some o->nY F m s=some o
 |0,_,_,_,_,h=>by cases h
 |n+1,0,_,_,hm,_=>by omega|n+1,m+1,s,o,hm,h=>by
  rw[l6] at h|-;obtain⟨c,b,a⟩:=cE h;rw[b];simp only[bT];cases c with
  |next d=>exact F4 VW a|H9 d=>exact a|ret r=>exact a
def L_(n:Nat)(steps:Int)(I:0<=steps/\steps<=65536):∀(k:Nat) (m:Int) (t:Tm) (nh:List HC),(k:Int)=steps-m->0<=m->At nh n t m->Sm (536870912+8192*m) t->t.aeb<=4096->∃o,nY (λ(a:List HC)=>
   bU (HC.c7 a n) λq=>
   if(sg q.steps steps) then(
   hU (j7 (some n) a) λs i c=>
   if(cF i 0) then(some (.ret ((Tm.mk 0 0 (Ty.mk 0 []) []),0,i)))
   else(if s then(some (.next c))
   else(bU (HC.c7 c n) λj=>
   bU (jb FU j.term c) λu=>
   some (.ret (u,j.steps,0)))))
   else(some ((.H9 a):dP (List HC) (Tm×Int×Int)))) (k+1) nh=some o/\dR (λ(a:List HC)=>
    bU (HC.c7 a n) λv=>
    b7 (j_ FU v.term a) λw f=>
    if w then(
    bU (HC.c7 f n) λl=>
    bU (jb FU l.term f) λx=>
    some (x,l.steps,0))
    else(some ((Tm.mk 0 0 (Ty.mk 0 []) []),0,5))) (λr=>some r) o=some (t.norm k m):=by
 intro k
 induction k with
 |zero=>
  intro m t nh B hm g hs hn;obtain⟨p,y,z⟩:=g.st;refine⟨.inl nh,?_,?_⟩
  ·rw[l6];simp only[y,bT];rw[bV (by rw[jC];omega)];rfl
  ·rw[ca];simp only[y,bT];obtain⟨d,a1,a2⟩:=Pd (M:=536870912+8192*m) VW FU t p nh (by rw[cP];omega) z hs VW;rw[a1];simp only[bW,Tm.norm]
   by_cases h:t.nf=true
   ·rw[bX h,bX h];simp only[a2.state _ _ y,bT];rw[OI (M:=536870912+8192*m) d FU t p (by rw[cP];omega) hs (a2.node _ _ z)];rfl
   ·rw[bV h,bV h];rfl
 |succ k C=>
  intro m t nh B hm g hs hn;obtain⟨p,y,z⟩:=g.st;have b:=UL (M:=536870912+8192*m) VW g hs hn VW;rw[l6];simp only[y,bT];rw[bX (by rw[jC];omega)]
  split at b
  ·rename_i e;obtain⟨d,a1⟩:=b;rw[LK e,a1];exact⟨_,rfl,rfl⟩
  ·rename_i e;obtain⟨d,a1,a2⟩:=b;obtain⟨D,E,F⟩:=a2.st;rw[zj e,a1];simp only[na];rw[bV aaq,bV aaq];simp only[E,bT];rw[OI (M:=536870912+8192*m) d FU t D (by rw[cP];omega) hs F];exact⟨_,rfl,rfl⟩
  ·rename_i A e;obtain⟨d,a1,a2⟩:=b;rw[zb e,a1];simp only[na];rw[bV aaq];simp only[if_true,bT,cU];obtain⟨G,H,c3⟩:=I8 (M:=536870912+8192*m) VW t hs VW A e;exact C (m+1) A d VW VW a2 ⟨G,by rw[show 536870912+8192*(m+1)=536870912+8192*m+8192 by omega];exact H,VW⟩ VW
def Sm.start{t:Tm}(h:t.err=0)(a:t.aef 536870912=true):Sm 536870912 t:=⟨(Tm.d_ h).1,a,by have:=(Tm.d_ h).2;omega⟩
def wc{t:Tm}(hw:t.wt<=1000000000)(steps:Int):kM t steps=some (if t.err=0 then(if 0<=steps/\steps<=65536/\t.aef 536870912 then t.norm steps.toNat 0 else(Tm.z,0,1))else(Tm.z,0,t.err)):=by
 unfold kM;rw[n_ hw];simp only[bT]
 by_cases he:t.err=0
 ·rw[bV (by simp[he]),bX he];obtain⟨g,hn⟩:=Tm.d_ he;simp only[cg]
  by_cases e:steps<0
  ·rw[bX ((jC _ _).2 e),bX trivial,bV (λh=>absurd h.1 VW)];rfl
  ·rw[bV (by rw[jC];exact e)]
   by_cases f:65536<steps
   ·rw[bX ((eE _ _).2 f),bX trivial,bV (λh=>absurd h.2.1 VW)];rfl
   ·rw[bV (by rw[eE];exact f),Je g VW];simp only[bT]
    by_cases a:t.aef 536870912=true
    ·have c:nT (t.aef 536870912)=false:=by rw[a];rfl
     rw[bV (by rw[c];decide),bX ⟨VW,VW,a⟩];have b:=Sm.start he a;obtain⟨p,nh,a1,a2,a3⟩:=U0 (M:=536870912) VW FU t [] (by rw[cP];omega) b;rw[a1];simp only[bW];have d:At (nh++[HC.iI (gj.mk (some p) 0)]) nh.length t 0:=⟨p,by unfold HC.c7;simp,a3.app⟩;obtain⟨o,i,j⟩:=L_ nh.length steps VW steps.toNat 0 t _ VW VW d (by simpa using b) hn;have k:=F4 (m:=FU) (by rw[cP];omega) i;rw[k];exact j
    ·have c:nT (t.aef 536870912)=true:=by simp[a]
     rw[bX c,bV (λh=>a h.2.2)];rfl
 ·rw[bX (by simp[he]),bV he];rfl
mutual
def Fm.aeb:Fm->Nat
 |.mk _ _ ts l=>1+cm Tm.aeb ts+Fm.mz l
def Fm.mz:List Fm->Nat
 |[]=>0|t::l=>t.aeb+Fm.mz l
end
def Fm.pR(l:List Fm):Fm.mz l=cm Fm.aeb l:=by
 induction l with
 |nil=>rfl|cons t l a=>simp[Fm.mz,cm,a]
theorem Fm.bY(k:Int)(s:Ty)(ts:List Tm)(l:List Fm):(Fm.mk k s ts l).aeb=1+cm Tm.aeb ts+cm Fm.aeb l:=by rw[Fm.aeb,Fm.pR]
def Fm.cw(t:Fm):1<=t.aeb:=by cases t;rw[Fm.aeb];omega
def Fm.dm(l:List Fm):l.length<=cm Fm.aeb l:=eV _ _ λt _=>t.cw
mutual
def Fm.wt:Fm->Nat
 |.mk _ s ts l=>1+s.aeb+cm Tm.wt ts+Fm.MK l
def Fm.MK:List Fm->Nat
 |[]=>0|t::l=>t.wt+Fm.MK l
end
def Fm.Cc(l:List Fm):Fm.MK l=cm Fm.wt l:=by
 induction l with
 |nil=>rfl|cons t l a=>simp[Fm.MK,cm,a]
def Fm.fj(k:Int)(s:Ty)(ts:List Tm)(l:List Fm):(Fm.mk k s ts l).wt=1+s.aeb+cm Tm.wt ts+cm Fm.wt l:=by rw[Fm.wt,Fm.Cc]
def Fm.hD(t:Fm):1<=t.wt:=by cases t;rw[Fm.wt];omega
def Fm.m5(l:List Fm):l.length<=cm Fm.wt l:=eV _ _ λt _=>t.hD
def Fm.ind{p:Fm->Prop}(h:∀k s ts l,(∀t∈l,p t)->p (.mk k s ts l))(t:Fm):p t:=by
 have:∀n (t:Fm),t.aeb<=n->p t:=by
  intro n
  induction n with
  |zero=>intro t a;have:=t.cw;omega
  |succ n b=>
   intro t a;cases t with
   |mk k s ts l=>
    rw[Fm.bY] at a;exact h k s ts l λu hu=>b u (by have:=cy Fm.aeb hu;omega)
 exact this _ t (fT _)
def Fm.fX(t:Fm):t.aeb<=t.wt:=by
 induction t using Fm.ind with
 |h k s ts l a=>rw[Fm.bY,Fm.fj];have:=iO a;have:=iO (f:=Tm.aeb) (g:=Tm.wt) (l:=ts) λx _=>x.fX;omega
def hI(k:Int):Bool:=decide (k=4\/k=5\/k=6\/k=7)
def qB(k:Int):Int:=if hI k then 1 else 0
def vV(k:Int):0<=qB k/\qB k<=1:=by unfold qB;split<;>omega
def kr(k:Int):jx k=some (hI k):=by
 unfold jx hI
 congr 1
 rw[A_];simp
def ou(f:Fm):lU f=some (qB f.ad'):=by
 unfold lU qB;rw[kr];simp only[bT]
 split<;>rfl
def Fm.node(k:Int)(s:Ty)(a n:Nat):Bool:=
 if k=1 then s.o9&&decide (a=2)&&decide (n=0)
 else if k=2\/k=3 then s.o9&&decide (a=0)&&decide (n=2)
 else hI k&&decide (s.err=0)&&decide (a=0)&&decide (n=1)
mutual
def Fm.ok:Fm->Bool
 |.mk k s ts l=>Fm.node k s ts.length l.length&&ts.all Tm.ok&&Fm.H6 l
def Fm.H6:List Fm->Bool
 |[]=>true|t::l=>t.ok&&Fm.H6 l
end
def Fm.yD(l:List Fm):Fm.H6 l=l.all Fm.ok:=by
 induction l with
 |nil=>rfl|cons t l a=>simp[Fm.H6,a]
theorem Fm.ei(k:Int)(s:Ty)(ts:List Tm)(l:List Fm):(Fm.mk k s ts l).ok=(Fm.node k s ts.length l.length&&ts.all Tm.ok&&l.all Fm.ok):=by rw[Fm.ok,Fm.yD]
def Fm.err(t:Fm):Int:=if t.ok then(if 4096<t.aeb then 4 else 0)else 2
def ek{α:Type}{l:List α}:(l.length:Int)=0↔l=[]:=by cases l<;>simp;omega
def hV{α:Type}{l:List α}(h:(l.length:Int)=1):∃a,l=[a]:=by
 match l,h with
 |[a],_=>exact⟨a,rfl⟩|[],h=>simp at h
 |_::_::_,h=>simp at h;omega
def oz{α:Type}{l:List α}(h:(l.length:Int)=2):∃a b,l=[a,b]:=by
 match l,h with
 |[a,b],_=>exact⟨a,b,rfl⟩|[],h=>simp at h
 |[_],h=>simp at h
 |_::_::_::_,h=>simp at h;omega
def xr{t:Tm}(h:t.wt<=1000000000):je FU t=some t.ok:=yP FU t (by rw[cP];exact h) h
def yu:∀(n:Nat) (t:Fm),t.wt<=n->t.wt<=1000000000->kE n t=some t.ok:=by
 intro n
 induction n with
 |zero=>intro t h;have:=t.hD;omega
 |succ n j=>
  intro t h i;cases t with
  |mk k s ts l=>
   rw[Fm.fj] at h i;rw[kE,Fm.ei];simp only[Fm.ck,Fm.cq,Fm.eY,Fm.cQ,cg,jB,o0,eu,dI,u9,kr,kU (t:=s) VW,bT,cD,dV]
   by_cases o:k=1
   ·simp only[o,if_true,Fm.node]
    by_cases g:(l.length:Int)=0
    ·have:=ek.1 g;subst this;cases f:s.o9 with
     |false=>simp|true=>
      by_cases d:(ts.length:Int)=2
      ·obtain⟨a,b,rfl⟩:=oz d;simp only[cm] at h i;simp only[d,if_true,gf,kW,bT];rw[xr (t:=a) VW,xr (t:=b) VW];cases c:a.ok<;>cases e:b.ok<;>simp[c,e]
      ·have c:¬ts.length=2:=VW
       simp[d,c]
    ·have f:¬l.length=0:=VW
     simp[g,f]
   ·simp only[o,fL,Fm.node]
    by_cases g:k=2\/k=3
    ·simp only[g,if_true]
     by_cases f:(ts.length:Int)=0
     ·have:=ek.1 f;subst this;cases d:s.o9 with
      |false=>simp|true=>
       by_cases c:(l.length:Int)=2
       ·obtain⟨a,b,rfl⟩:=oz c;simp only[cm] at h i;simp only[c,if_true,gf,kW,bT];rw[j a VW VW,j b VW VW];cases e:a.ok<;>cases m:b.ok<;>simp[e,m]
       ·have e:¬l.length=2:=VW
        simp[c,e]
     ·have d:¬ts.length=0:=VW
      simp[f,d]
    ·simp only[g,fL];cases f:hI k with
     |false=>simp|true=>
      by_cases d:(ts.length:Int)=0
      ·have:=ek.1 d;subst this
       by_cases c:s.err=0
       ·by_cases e:(l.length:Int)=1
        ·obtain⟨a,rfl⟩:=hV e;simp only[cm] at h i;simp only[c,e,if_true,gf,bT];rw[j a VW VW];simp
        ·have m:¬l.length=1:=VW
         simp[c,e,m]
       ·simp[c]
      ·have c:¬ts.length=0:=VW
       simp[d,c]
def mx:∀(n:Nat) (t:Fm),t.aeb<=n->t.aeb<=1000000000->jf n t=some (t.aeb:Int):=by
 intro n
 induction n with
 |zero=>intro t h;have:=t.cw;omega
 |succ n b=>
  intro t h c;cases t with
  |mk k s ts l=>
   rw[Fm.bY] at h c;have f:=Fm.dm l;have d:=Tm.dm ts;rw[jf];simp only[Fm.ck,Fm.eY,cg,ch (l:=l) VW,ch (l:=ts) VW,b9]
   have e:=oe (ρ:=Int) (F:=λ(j:Int) (x:Tm) (v:Int)=>bU (dM FU x) λy=>some (dP.next (c8 .i64 v y))) Tm.aeb ts 0 1 VW (by
    intro j x v a;have:=cy Tm.aeb a;rw[mf FU x (by rw[cP];omega) VW]
    rfl)
   have k2:=oe (ρ:=Int) (F:=λ(j:Int) (x:Fm) (v:Int)=>bU (jf n x) λy=>some (dP.next (c8 .i64 v y))) Fm.aeb l 0 (1+cm Tm.aeb ts) VW (by
    intro j x v a;have:=cy Fm.aeb a;rw[b x VW VW]
    rfl)
   rw[show(1:Int)=((1:Nat):Int)from rfl,e];simp only[bT,ca];rw[k2];simp[Fm.bY]
def iU{t:Fm}(h:t.wt<=1000000000):iA t=some t.err:=by
 have:=t.fX;unfold iA Fm.err;rw[yu FU t (by rw[cP];exact h) h,mx FU t (by rw[cP];omega) VW];cases t.ok with
 |false=>simp|true=>by_cases a:4096<t.aeb<;>simp[a]<;>omega
def Gk(f:Fm)(h:f.wt<=1000000000):p0 f=some (Fm.node f.ad' f.b8 f.cx.length f.aea.length):=by
 cases f with
 |mk k s ts l=>
  rw[Fm.fj] at h;show p0 (.mk k s ts l)=some (Fm.node k s ts.length l.length)
  have d:(cn (ts.length:Int) 2&&cn (l.length:Int) 0)=(decide (ts.length=2)&&decide (l.length=0)):=by
   rw[A_];simp only[eg,eu,m0];omega
  have e:(cn (ts.length:Int) 0&&cn (l.length:Int) 2)=(decide (ts.length=0)&&decide (l.length=2)):=by
   rw[A_];simp only[eg,eu,m0];omega
  have g:(cn (ts.length:Int) 0&&cn (l.length:Int) 1)=(decide (ts.length=0)&&decide (l.length=1)):=by
   rw[A_];simp only[eg,eu,m0];omega
  unfold p0;simp only[Fm.ck,Fm.cq,Fm.eY,Fm.cQ,cg,jB,qi,o0,eu,dI,ka (t:=s) VW,qE,bT,bW,cf,d,e,g];unfold Fm.node
  by_cases b:k=1
  ·cases c:s.o9<;>simp[b]
  ·by_cases c:k=2\/k=3
   ·cases a:s.o9<;>simp[b,c]
   ·by_cases a:k=4\/k=5\/k=6\/k=7
    ·have i:hI k=true:=by simp[hI,a]
     by_cases j:s.err=0<;>simp[b,c,a,j,i]
    ·have i:hI k=false:=by simp[hI,a]
     simp[b,c,a,i]
def yf:∀(n:Nat) (t:Fm),t.wt<=n->t.wt<=1000000000->hX n t=some (if t.ok then((t.aeb:Int),true)else(0,false)):=by
 intro n
 induction n with
 |zero=>intro t h;have:=t.hD;omega
 |succ n i=>
  intro t h g;cases t with
  |mk k s ts l=>
   have m:=Gk (.mk k s ts l) g;rw[Fm.fj] at h g;have r:=Fm.m5 l;have o:=Tm.m5 ts;have hn:cm Tm.aeb ts<=cm Tm.wt ts:=iO λx _=>x.fX;have p:cm Fm.aeb l<=cm Fm.wt l:=iO λx _=>x.fX
   have q:cY (λ(e:Int) (a:Tm) (b:Int)=>b7 (ij FU a) λc d=>if d then some (dP.next (c8 .i64 b c))else some (dP.ret ((0:Int),false))) ts 0 1=if ts.all Tm.ok then some (.inl ((1+cm Tm.aeb ts:Nat):Int))else some (.inr (0,false)):=by
    refine th Tm.aeb Tm.ok _ ts 0 1 VW ?_;intro j x v f;have:=cy Tm.wt f;rw[uB FU x (by rw[cP];omega) VW];cases x.ok<;>simp
   have k2:cY (λ(e:Int) (a:Fm) (b:Int)=>b7 (hX n a) λc d=>if d then some (dP.next (c8 .i64 b c))else some (dP.ret ((0:Int),false))) l 0 ((1+cm Tm.aeb ts:Nat):Int)=if l.all Fm.ok then some (.inl ((1+cm Tm.aeb ts+cm Fm.aeb l:Nat):Int))else some (.inr (0,false)):=by
    refine th Fm.aeb Fm.ok _ l 0 _ VW ?_;intro j x v f;have:=cy Fm.wt f;rw[i x VW VW];cases x.ok<;>simp
   rw[hX,m];simp only[Fm.ck,Fm.cq,Fm.eY,Fm.cQ,cg,ch (l:=l) VW,ch (l:=ts) VW,b9,bT,q,Fm.ei,Fm.bY];cases u:Fm.node k s ts.length l.length with
   |false=>simp|true=>
    cases w:ts.all Tm.ok with
    |false=>simp|true=>
     simp only[if_true,bT,ca,k2,zK];cases y:l.all Fm.ok<;>simp
def eM{t:Fm}(h:t.wt<=1000000000):ez t=some (if t.err=0 then(t.aeb:Int)else 0,t.err):=by
 unfold ez Fm.err;rw[yf FU t (by rw[cP];exact h) h];cases t.ok with
 |false=>simp|true=>
  by_cases a:4096<t.aeb
  ·simp[a];omega
  ·simp[a];omega
def fh{t:Fm}(h:t.wt<=1000000000):e9 t=some t.err:=by
 unfold e9;rw[eM h];rfl
def G1:∀(n:Nat) (t:Fm),t.wt<=n->t.wt<=1000000000->kj n t=some t:=by
 intro n
 induction n with
 |zero=>intro t h;have:=t.hD;omega
 |succ n c=>
  intro t h d;cases t with
  |mk k s ts l=>
   rw[Fm.fj] at h d;have f:=Fm.m5 l;have e:=Tm.m5 ts;rw[kj];simp only[Fm.ck,Fm.cq,Fm.eY,Fm.cQ,cg,ch (l:=l) VW,ch (l:=ts) VW,b9,gI (t:=s) VW,bT];rw[gZ id ts 0 [] aaQ]
   ·simp only[bT,ca];rw[gZ id l 0 [] aaQ]
    ·simp
    ·intro j x v a b;have:=cy Fm.wt a;rw[c x VW VW];simp[de (l:=v) (m:=[x]) (by simpa using b)]
   ·intro j x v a b;have:=cy Tm.wt a;rw[sj (t:=x) VW];simp[de (l:=v) (m:=[x]) (by simpa using b)]
def nZ{t:Fm}(h:t.wt<=1000000000):kj FU t=some t:=G1 FU t (by rw[cP];exact h) h
mutual
def Fm.has:Fm->Bool
 |.mk k _ _ l=>if k=1 then false else if k=2 then Fm.IQ l else if k=5 then true else Fm.EP l
def Fm.IQ:List Fm->Bool
 |[]=>false|f::l=>f.has||Fm.IQ l
def Fm.EP:List Fm->Bool
 |[]=>false|[f]=>f.has|_::f::l=>Fm.EP (f::l)
end
def OT(k:Int)(a b:Ty):Ty×Bool×Int:=if(Ty.mk k [a,b]).err≠0 then(.mk 0 [],false,(Ty.mk k [a,b]).err)else(.mk k [a,b],true,0)
def abk(first last:Ty×Bool×Int):Ty×Bool×Int:=
 if first.2.2≠0\/first.2.1=false then(last.1,last.2.1,first.2.2)else if last.2.1 then OT 3 first.1 last.1 else(first.1,true,0)
def aa0(first last:Ty×Bool×Int):Ty×Bool×Int:=
 if first.2.2≠0\/first.2.1=false then(last.1,true,first.2.2)else OT 4 first.1 last.1
def Xs(k:Int)(s:Ty)(first last:Ty×Bool×Int):Ty×Bool×Int:=
 if last.2.2≠0 then(.mk 0 [],false,last.2.2)
 else if k=2 then abk first last
 else if k=5 then(if last.2.1 then OT 3 s last.1 else(s,true,0))
 else if last.2.1 then(if k=3 then aa0 first last else if k=4 then OT 4 s last.1 else(last.1,true,0))
 else(.mk 0 [],false,0)
def XC:Ty×Bool×Int:=(.mk 0 [],false,0)
mutual
def Fm.ct:Fm->Ty×Bool×Int
 |.mk k s _ l=>if k=1 then XC else Xs k s (Fm.Zv l) (Fm.Vs l)
def Fm.Zv:List Fm->Ty×Bool×Int
 |[]=>XC|f::_=>f.ct
def Fm.Vs:List Fm->Ty×Bool×Int
 |[]=>XC|[f]=>f.ct|_::f::l=>Fm.Vs (f::l)
end
def Fm.Oh(k:Int)(s:Ty)(ts:List Tm)(a b:Fm):(Fm.mk k s ts [a,b]).has=if k=1 then false else if k=2 then a.has||b.has else if k=5 then true else b.has:=by
 rw[Fm.has];simp[Fm.IQ,Fm.EP]
def Fm.Og(k:Int)(s:Ty)(ts:List Tm)(a:Fm):(Fm.mk k s ts [a]).has=if k=1 then false else if k=5 then true else a.has:=by
 rw[Fm.has];simp only[Fm.IQ,Fm.EP,TN]
 by_cases b:k=2
 ·subst b;simp
 ·simp[b]
def Fm.has_eq(s:Ty)(ts:List Tm)(l:List Fm):(Fm.mk 1 s ts l).has=false:=by rw[Fm.has];simp
def Fm.lC{p:Fm->Prop}(n:∀a b:Tm,a.ok=true->b.ok=true->p (.mk 1 (.mk 0 []) [a,b] []))
  (o:∀(k:Int) (a b:Fm),k=2\/k=3->a.ok=true->b.ok=true->p a->p b->p (.mk k (.mk 0 []) [] [a,b]))
  (q:∀(k:Int) (s:Ty) (a:Fm),k=4\/k=5\/k=6\/k=7->s.err=0->a.ok=true->p a->p (.mk k s [] [a])) (f:Fm) (g:f.ok=true):p f:=by
 induction f using Fm.ind with
 |h k s ts l i=>
  rw[Fm.ei] at g;simp only[eg,im] at g;obtain⟨⟨hn,d⟩,c⟩:=g;unfold Fm.node at hn
  split at hn
  ·rename_i j;subst j;simp only[eg,m0,Ty.i_] at hn;obtain⟨⟨rfl,e⟩,m⟩:=hn;obtain⟨a,b,rfl⟩:=oz (l:=ts) VW;have:=RB.1 m;subst this;exact n a b (d a aas) (d b aas)
  ·split at hn
   ·rename_i j;simp only[eg,m0,Ty.i_] at hn;obtain⟨⟨rfl,e⟩,m⟩:=hn;obtain⟨a,b,rfl⟩:=oz (l:=l) VW;have:=RB.1 e;subst this;exact o k a b j (c a aas) (c b aas) (i a aas (c a aas)) (i b aas (c b aas))
   ·simp only[eg,m0] at hn;obtain⟨⟨⟨r,hs⟩,e⟩,m⟩:=hn;obtain⟨a,rfl⟩:=hV (l:=l) VW;have:=RB.1 e;subst this;refine q k s a ?_ hs (c a aas) (i a aas (c a aas));simpa[hI] using r
theorem Ty.fV{t:Ty}(h:t.err=0):t.ok=true/\t.aeb<=64:=by
 unfold Ty.err at h
 split at h
 ·split at h
  ·omega
  ·exact⟨‹_›,VW⟩
 ·omega
theorem Ty.nA{t:Ty}(h:t.ok=true)(a:t.aeb<=64):t.err=0:=by unfold Ty.err;rw[bX h,bV VW]
def Ty.ok_two{k:Int}(c:k=3\/k=4){a b:Ty}(d:a.ok=true)(e:b.ok=true):(Ty.mk k [a,b]).ok=true:=by
 rw[Ty.ei]
 have:¬(k=1\/k=2\/k=5):=VW
 simp[Ty.want,c,this,d,e]
theorem Ty.wb(k:Int)(a b:Ty):(Ty.mk k [a,b]).aeb=1+a.aeb+b.aeb:=by rw[Ty.bY];simp[cm];omega
theorem Fm.d_{f:Fm}(h:f.err=0):f.ok=true/\f.aeb<=4096:=by
 unfold Fm.err at h
 split at h
 ·split at h
  ·omega
  ·exact⟨‹_›,VW⟩
 ·omega
def Fm.YY(f:Fm):Ty×Int:=if f.err≠0 then(.mk 0 [],f.err)else if f.ct.2.2≠0 then(.mk 0 [],f.ct.2.2)else(if f.has then f.ct.1 else .mk 5 [],0)
def CT:∀(n:Nat) (f:Fm),f.aeb<=n->f.ok=true->h9 n f=some f.has:=by
 intro n
 induction n with
 |zero=>intro f h;have:=f.cw;omega
 |succ n e=>
  intro f h q;refine Fm.lC (p:=λf=>f.aeb<=n+1->h9 (n+1) f=some f.has) ?_ ?_ ?_ f q h
  ·intro a b _ _ _;rw[h9,Fm.has_eq];rfl
  ·intro k a b r g t _ _ hn;rw[Fm.bY] at hn;simp only[cm] at hn;have d:=e a VW g;have i:=e b VW t
   have c:k≠1:=VW
   have j:k≠5:=VW
   have l:cr [a,b] (dh .i64 (cI [a,b]) 1)=some b:=by
    rw[ds aas aas];rfl
   have u:cr [a,b] 0=some a:=rfl;have v:cr [a,b] 1=some b:=rfl;rw[h9,Fm.Oh,bV c];simp only[Fm.ck,Fm.cq,eu,c,j,fL,l,u,v,bT,i,d,cg]
   by_cases o:k=2
   ·simp only[o,if_true];cases a.has<;>simp
   ·simp[o]
  ·intro k s a r hs g _ hn;rw[Fm.bY] at hn;simp only[cm] at hn;have d:=e a VW g
   have c:k≠1:=VW
   have m:k≠2:=VW
   have l:cr [a] (dh .i64 (cI [a]) 1)=some a:=by
    rw[ds aas aas];rfl
   rw[h9,Fm.Og,bV c];simp only[Fm.ck,Fm.cq,eu,c,m,fL,l,bT,d]
   by_cases w:k=5<;>simp[w]
def CZ(f:Fm)(h:f.wt<=1000000000):ny f=some (if f.err≠0 then(false,f.err)else(f.has,0)):=by
 unfold ny;rw[iU h];simp only[bT,cf]
 by_cases he:f.err=0
 ·rw[CT FU f (by rw[cP];have:=f.fX;omega) (Fm.d_ he).1];simp[he]
 ·simp[he]
theorem Fm.nA{f:Fm}(h:f.ok=true)(a:f.aeb<=4096):f.err=0:=by unfold Fm.err;rw[bX h,bV VW]
def Ty.nat:Ty:=.mk 1 []
def Ty.lV:Ty:=.mk 2 []
def Ty.unit:Ty:=.mk 5 []
def Ty.fn(a b:Ty):Ty:=.mk 4 [a,b]
def Ty.pr(a b:Ty):Ty:=.mk 3 [a,b]
def Ty.z:Ty:=.mk 0 []
inductive cJ:List Ty->Tm->Ty->Prop
 |var {g t} (i:Nat):i<g.length->g[g.length-1-i]?=some t->cJ g (.mk 1 i .z []) t|lam {g s b t}:(Ty.fn s t).err=0->cJ (g++[s]) b t->cJ g (.mk 2 0 s [b]) (.fn s t)|app {g f a s t}:cJ g f (.fn s t)->cJ g a s->cJ g (.mk 3 0 .z [f,a]) t|zero {g}:cJ g (.mk 4 0 .z []) .nat|succ {g a}:cJ g a .nat->cJ g (.mk 5 0 .z [a]) .nat|r9 {g t b s n}:t.err=0->cJ g b t->cJ g s (.fn .nat (.fn t t))->cJ g n .nat->cJ g (.mk 6 0 t [b,s,n]) t|nil {g}:cJ g (.mk 7 0 .z []) .lV|cons {g a b}:cJ g a .nat->cJ g b .lV->cJ g (.mk 8 0 .z [a,b]) .lV|fold {g t b s n}:t.err=0->cJ g b t->cJ g s (.fn .nat (.fn .lV (.fn t t)))->cJ g n .lV->cJ g (.mk 9 0 t [b,s,n]) t|pair {g a b s t}:(Ty.pr s t).err=0->cJ g a s->cJ g b t->cJ g (.mk 10 0 .z [a,b]) (.pr s t)|fst {g a s t}:cJ g a (.pr s t)->cJ g (.mk 11 0 .z [a]) s|snd {g a s t}:cJ g a (.pr s t)->cJ g (.mk 12 0 .z [a]) t|unit {g}:cJ g (.mk 13 0 .z []) .unit
theorem Ty.pE:Ty.z.o9=true:=rfl
def Ty.qd{k:Int}(c:k=3\/k=4){a b:Ty}(h:(Ty.mk k [a,b]).err=0):a.err=0/\b.err=0:=by grind[Ty.fV,Ty.ei,Ty.wb,Ty.nA]
def cJ.ok{g:List Ty}{x:Tm}{t:Ty}(h:cJ g x t):x.ok=true:=by
 induction h with
 |var i d f=>grind[Tm.ei,Tm.node,eS,hB,Ty.pE]|lam d _ c=>have:=(Ty.qd (.inr rfl) d).1;simp[Tm.ei,Tm.node,eS,hB,this,c]
 |app _ _ a b=>simp[Tm.ei,Tm.node,eS,hB,Ty.pE,a,b]|zero=>simp[Tm.ei,Tm.node,eS,hB,Ty.pE]|succ _ c=>simp[Tm.ei,Tm.node,eS,hB,Ty.pE,c]|r9 d _ _ _ a b e=>grind[Tm.ei,Tm.node,eS,hB]|nil=>simp[Tm.ei,Tm.node,eS,hB,Ty.pE]|cons _ _ a b=>simp[Tm.ei,Tm.node,eS,hB,Ty.pE,a,b]|fold d _ _ _ a b e=>grind[Tm.ei,Tm.node,eS,hB]|pair _ _ _ a b=>simp[Tm.ei,Tm.node,eS,hB,Ty.pE,a,b]|fst _ c=>simp[Tm.ei,Tm.node,eS,hB,Ty.pE,c]|snd _ c=>simp[Tm.ei,Tm.node,eS,hB,Ty.pE,c]|unit=>simp[Tm.ei,Tm.node,eS,hB,Ty.pE]
def Tm.gT(t:Tm):∀{m n:Int},m<=n->t.aef m=true->t.aef n=true:=by
 induction t using Tm.ind with
 |h k i s l a=>grind[Tm.dp]
def cJ.aef{g:List Ty}{x:Tm}{t:Ty}(h:cJ g x t):∀m:Int,((g.length+x.aeb:Nat):Int)<=m->x.aef m=true:=by
 induction h with
 |var i e f=>grind[Tm.bY,cm,Tm.dp]|lam _ _ c=>grind[Tm.bY,cm,Tm.dp]|zero|nil|unit=>grind[Tm.bY,cm,Tm.dp]|succ _ c|fst _ c|snd _ c=>grind[Tm.bY,cm,Tm.dp]|app _ _ a b|cons _ _ a b|pair _ _ _ a b=>grind[Tm.bY,cm,Tm.dp]|r9 _ _ _ _ a b d|fold _ _ _ _ a b d=>grind[Tm.bY,cm,Tm.dp]
def wm{α:Type}{f g:α->Nat}{c:Nat}{l:List α}(h:∀x∈l,f x<=c*g x):cm f l<=c*cm g l:=by
 induction l with
 |nil=>simp[cm]|cons x l a=>simp only[cm,Ss];have:=h x aas;have:=a λy hy=>h y (by simp[hy]);omega
def Tm.er(t:Tm)(h:t.ok=true):t.wt<=65*t.aeb:=by
 induction t using Tm.ind with
 |h k i s l c=>
  rw[Tm.ei] at h;simp only[eg,im] at h;rw[Tm.fj,Tm.bY,Ss];have d:=wm λx b=>c x b (h.2 x b)
  have e:s.aeb<=64:=by
   have:=h.1;simp only[Tm.node,eg] at this;have a:=this.2
   split at a
   ·simp only[m0] at a;exact(Ty.fV a).2
   ·grind[Ty.i_,Ty.bY,cm]
  omega
def Fm.er(f:Fm)(h:f.ok=true):f.wt<=65*f.aeb:=by
 induction f using Fm.ind with
 |h k s ts l b=>
  rw[Fm.ei] at h;simp only[eg,im] at h;rw[Fm.fj,Fm.bY,Ss,Ss];have d:=wm λx a=>b x a (h.2 x a);have e:=wm (f:=Tm.wt) (g:=Tm.aeb) (c:=65) (l:=ts) λx a=>x.er (h.1.2 x a)
  have i:s.aeb<=64:=by
   have:=h.1.1;unfold Fm.node at this
   split at this
   ·grind[Ty.i_,Ty.bY,cm]
   ·split at this
    ·grind[Ty.i_,Ty.bY,cm]
    ·simp only[eg,m0] at this;exact(Ty.fV this.1.1.2).2
  omega
structure cH.wf (d:cH):Prop where
 len:d.l.length<=1000
 lo:0<=d.sE
 hi:d.sE<=d.l.length
def Qu(x n:Int)(c:1<=n)(d:n<=1000000000):∃y,F8 x n=some y/\0<=y/\y<n:=by
 unfold F8;simp only[Q9 (b:=n) VW];refine⟨_,rfl,?_⟩;unfold Ra
 have e:(x.tmod n).natAbs<n.natAbs:=by
  rw[Int.natAbs_tmod];exact UT _ VW
 rw[cX VW VW]
 have a:0<=x.tmod n+n:=VW
 exact⟨Int.tmod_nonneg _ a,Int.tmod_lt_of_pos _ VW⟩
def rQ(d:cH)(a:d.wf)(n:Int)(c:1<=n)(e:n<=1000000000):∃x b,gz d n=some (x,b)/\0<=x/\x<n/\b.wf:=by
 unfold gz;simp only[jB,o0,jC,fN,dI]
 by_cases f:n<1\/(d.l.length:Int)<=d.sE
 ·grind
 ·rw[bV f];obtain⟨y,hy,_⟩:=Cw (l:=d.l) a.lo VW;obtain⟨z,g,h,i⟩:=Qu y n c e;rw[hy];simp only[bT,g];have:=a.len;have:=a.lo;rw[cX VW VW];exact⟨z,_,rfl,h,i,⟨a.len,by show 0<=d.sE+1;omega,by show d.sE+1<=(d.l.length:Int);omega⟩⟩
def ed:h7=some .nat:=rfl
def eQ:lW=some .lV:=rfl
def GN:tA=some .unit:=rfl
def wL{a b:Ty}(c:a.aeb<=1000000000)(d:b.aeb<=1000000000):ta a b=some (.pr a b):=by
 unfold ta;rw[gI c,gI d];rfl
def gC{a b:Ty}(c:a.aeb<=1000000000)(d:b.aeb<=1000000000):jv a b=some (.fn a b):=by
 unfold jv;rw[gI c,gI d];rfl
def Ty.SO:Ty.nat.ok=true:=by unfold Ty.nat;rw[Ty.ei];rfl
def Ty.Si:Ty.lV.ok=true:=by unfold Ty.lV;rw[Ty.ei];rfl
def Ty.OC:Ty.unit.ok=true:=by unfold Ty.unit;rw[Ty.ei];rfl
def Ty.gk:Ty.nat.aeb=1:=by unfold Ty.nat;rw[Ty.bY];rfl
def Ty.nt:Ty.lV.aeb=1:=by unfold Ty.lV;rw[Ty.bY];rfl
def Ty.Gg:Ty.unit.aeb=1:=by unfold Ty.unit;rw[Ty.bY];rfl
def Ty.ie(a b:Ty):(Ty.fn a b).aeb=1+a.aeb+b.aeb:=Ty.wb _ _ _
def Ty.tn(a b:Ty):(Ty.pr a b).aeb=1+a.aeb+b.aeb:=Ty.wb _ _ _
theorem SP(k:Nat)(h:k<=4):1<=2^k/\2^k<=16:=by
 have:k=0\/k=1\/k=2\/k=3\/k=4:=VW
 grind
def ND:∀(n k:Nat) (d:cH),k<n->k<=4->d.wf->∃t f,jM n d (k:Int)=some (t,f)/\t.ok=true/\t.aeb+1<=2^(k+1)/\f.wf:=by
 intro n
 induction n with
 |zero=>intro k d h;omega|succ n v=>
  intro k d w j r;obtain⟨x,d1,s,y,z,g⟩:=rQ d r 7 VW VW;have A:=SP k j
  have B:(2:Nat)^(k+1)=2*2^k:=by rw[Nat.pow_succ];omega
  have c:=λf (l:cH.wf f)=>(⟨Ty.nat,f,rfl,Ty.SO,by rw[Ty.gk];omega,l⟩:∃t i,some (Ty.nat,f)=some (t,i)/\t.ok=true/\t.aeb+1<=2^(k+1)/\i.wf);rw[jM];simp only[cg,s,bW,ed,eQ,GN,bT,jB,o0,eu,eE]
  split
  ·exact c d1 g
  split
  ·exact⟨.lV,d1,rfl,Ty.Si,by rw[Ty.nt];omega,g⟩
  split
  ·exact⟨.unit,d1,rfl,Ty.OC,by rw[Ty.Gg];omega,g⟩
  have two:0<(k:Int)->∃a b d2 d3,jM n d1 (dh .i64 (k:Int) 1)=some (a,d2)/\jM n d2 (dh .i64 (k:Int) 1)=some (b,d3)/\a.ok=true/\b.ok=true/\a.aeb+1<=2^k/\b.aeb+1<=2^k/\d3.wf:=by
   intro e;obtain⟨m,rfl⟩:∃m,k=m+1:=⟨k-1,VW⟩
   grind[ds]
  split
  ·split
   ·rename_i e;obtain⟨a,b,d2,d3,a1,o,a2,p,a3,u,q⟩:=two e;rw[a1];simp only[bW];rw[o];simp only[bW];rw[wL VW VW];exact⟨_,_,rfl,Ty.ok_two (.inl rfl) a2 p,by rw[Ty.tn];omega,q⟩
   ·exact c d1 g
  split
  ·split
   ·rename_i e;obtain⟨a,b,d2,d3,a1,o,a2,p,a3,u,q⟩:=two e;rw[a1];simp only[bW];rw[o];simp only[bW];rw[gC VW VW];exact⟨_,_,rfl,Ty.ok_two (.inr rfl) a2 p,by rw[Ty.ie];omega,q⟩
   ·exact c d1 g
  ·exact c d1 g
def Fb(d:cH)(b:d.wf)(k:Nat)(c:k<=4):∃t a,jM FU d (k:Int)=some (t,a)/\t.err=0/\t.aeb+1<=2^(k+1)/\a.wf:=by
 obtain⟨t,a,e,f,g,h⟩:=ND FU k d (by rw[cP];omega) c b
 grind[SP,Ty.nA]
def Nl(g:List Ty)(t:Ty)(hg:g.length<=1000000)(hn:∀s∈g,s.aeb<=1000000000):∃l,A9 g t=some l/\l.length<=g.length/\∀v∈l,∃i:Nat,v=i/\i<g.length/\g[g.length-1-i]?=some t:=by
 unfold A9;simp only[ch (l:=g) VW,b9,cg]
 have key:∀(l:List Ty) (i:Nat) (v:List Int),i+l.length=g.length->v.length<=i->(∀x∈v,∃j:Nat,x=j/\j<g.length/\g[g.length-1-j]?=some t)->∃a,cY (ρ:=List Int) (λ(j:Int) (r:Ty) (v:List Int)=>bU (cr g (dh .i64 (dh .i64 (cI g) 1) j)) λx=>bU (du FU x t) λy=>if y then eB (dZ v [j]) (some (dP.next (eA v [j])))else some (dP.next v)) l i v=some (.inl a)/\a.length<=g.length/\∀x∈a,∃j:Nat,x=j/\j<g.length/\g[g.length-1-j]?=some t:=by
  intro l
  induction l with
  |nil=>
   intro i v d k c;exact⟨v,rfl,by simp at d;omega,c⟩
  |cons y l f=>
   intro i v d k c;simp only[j0] at d
   have b:g.length-1-i<g.length:=VW
   have n:cr g (dh .i64 (dh .i64 (cI g) 1) (i:Int))=some g[g.length-1-i]:=by grind[dI,ds,gQ]
   rw[cO];simp only[n,bT,gn (hn _ (BB b))];cases hs:Ty.jc g[g.length-1-i] t with
   |false=>
    simp only[gX,fL,bT,cU];exact f (i+1) v VW VW c
   |true=>
    rw[Ty.ja] at hs;simp only[if_true,de (l:=v) (m:=[(i:Int)]) aaQ,b9,bT,cU,eP];refine f (i+1) (v++[(i:Int)]) VW aaQ ?_;intro x e;rcases qO.1 e with h|h
    ·exact c x h
    ·rw[AL] at h;exact⟨i,h,VW,by rw[mi b,hs]⟩
 obtain⟨a,o,p,q⟩:=key g 0 [] aas aas aas;rw[o];exact⟨a,rfl,p,q⟩
def qH(g l:List Ty)(h:g.length+l.length<=1000000):ml g l=some (g++l):=by
 unfold ml;rw[de aaQ,de aaQ];simp
def CX(n:Nat)(hn:n<=1000000):∃x,o8 (n:Int)=some x/\∀g,cJ g x .nat/\x.aeb=n+1:=by
 unfold o8;rw[ow 4 [] (by simp[cm])];simp only[bT,cg]
 obtain⟨o,m,l⟩:=CY (ρ:=Tm) (F:=QF λ(h:Int) (i:Int) (v167:Int) (v168:Int) (j:List Ty) (k:List Tm)=>
   if nG h 0 then some (dP.next (dh .i64 h 1,5,0,0,[],[Tm.mk i v167 (Ty.mk v168 j) k]))else some (dP.H9 (h,i,v167,v168,j,k)))
  (λs=>0<=s.1/\s.1<=n/\(∀g,cJ g (Tm.mk s.2.1 s.2.2.1 (Ty.mk s.2.2.2.1 s.2.2.2.2.1) s.2.2.2.2.2) .nat)/\(Tm.mk s.2.1 s.2.2.1 (Ty.mk s.2.2.2.1 s.2.2.2.2.1) s.2.2.2.2.2).aeb+s.1=n+1)
  (λs=>s.1.toNat)
  (λo=>match o with|.inl s=>(∀g,cJ g (Tm.mk s.2.1 s.2.2.1 (Ty.mk s.2.2.2.1 s.2.2.2.2.1) s.2.2.2.2.2) .nat)/\(Tm.mk s.2.1 s.2.2.1 (Ty.mk s.2.2.2.1 s.2.2.2.2.1) s.2.2.2.2.2).aeb=n+1|.inr _=>False)
  (by
   rintro⟨a,b,c,d,e,f⟩ ⟨m,l,p,t⟩;simp only at m l p t
   by_cases q:0<a
   ·left;refine⟨_,by simp only[yO,eE,q,if_true];rfl,⟨?_,?_,?_,?_⟩,?_⟩
    ·rw[ds VW VW];show 0<=a-1;omega
    ·rw[ds VW VW];show a-1<=n;omega
    ·intro g;exact cJ.succ (p g)
    all_goals grind[ds,Tm.bY,cm]
   ·right;left;refine⟨_,by simp only[yO,eE,q,fL];rfl,p,?_⟩
    have:a=0:=VW
    subst this
    simp only;omega)
  FU ((n:Int),4,0,0,[],[]) ⟨aas,aas,λg=>cJ.zero,by rw[Tm.bY];simp[cm];omega⟩ (by rw[cP];show(n:Int).toNat<_;omega)
 simp only[Tm.cq,Tm.dQ,Tm.cQ,Ty.cq,Ty.ck,Tm.ck];rw[m];cases o with
 |inr r=>exact l.elim|inl s=>
  obtain⟨a,b,c,d,e,f⟩:=s;exact⟨_,rfl,λg=>⟨l.1 g,l.2⟩⟩
def vP(n:Int)(b:0<=n)(hn:n<=4000):∃x,vg n=some x/\∀g,cJ g x .nat/\(x.aeb:Int)=n+1:=by
 obtain⟨k,rfl⟩:=WN b;obtain⟨x,c,a⟩:=CX k VW;unfold vg sP;simp only[jC,fN];rw[bV VW,bV VW,c];exact⟨x,rfl,λg=>⟨(a g).1,by rw[(a g).2];simp⟩⟩
structure NI (g:List Ty) (x:Tm) (t:Ty) (n:Nat):Prop where
 ty:cJ g x t
 aeb:x.aeb<=n
def NI.wt{g:List Ty}{x:Tm}{t:Ty}{n:Nat}(h:NI g x t n):x.wt<=65*n:=by
 have:=x.er h.ty.ok;have:=h.aeb;omega
def NI.mono{g:List Ty}{x:Tm}{t:Ty}{n m:Nat}(h:NI g x t n)(hm:n<=m):NI g x t m:=⟨h.ty,Ei h.aeb hm⟩
def H4{k:Int}{a:Tm}(b:a.wt<=100000000):dO k [a]=some (.mk k 0 .z [a]):=ow k [a] (by simp[cm];omega)
def uE{k:Int}{a b:Tm}(c:a.wt<=100000000)(d:b.wt<=100000000):dO k [a,b]=some (.mk k 0 .z [a,b]):=ow k [a,b] (by simp[cm];omega)
def CV{k:Int}:dO k []=some (.mk k 0 .z []):=ow k [] (by simp[cm])
def Bg{k:Int}{s:Ty}{a:Tm}(hs:s.aeb<=1000000000)(b:a.wt<=100000000):kv k s [a]=some (.mk k 0 s [a]):=Fs k s [a] hs (by simp[cm];omega)
def A8{k:Int}{s:Ty}{a b c:Tm}(hs:s.aeb<=1000000000)(d:a.wt<=100000000)(e:b.wt<=100000000)(f:c.wt<=100000000):kv k s [a,b,c]=some (.mk k 0 s [a,b,c]):=
 Fs k s [a,b,c] hs (by simp[cm];omega)
def Ov{f a b:Tm}(c:f.wt<=10000000)(d:a.wt<=10000000)(e:b.wt<=10000000):C' f [a,b]=some (.mk 3 0 .z [.mk 3 0 .z [f,a],b]):=by
 have g:(Tm.mk 3 0 .z [f,a]).wt<=30000000:=by rw[Tm.fj];have:Ty.z.aeb=1:=rfl;simp[cm,this];omega
 unfold C'
 simp only[ch (l:=[a,b]) aas,b9,cg,cO,lx,NF,Ty.iG,Tm.iG,uE (k:=3) (a:=f) (b:=a) VW VW,bT,cU,uE (k:=3) (a:=.mk 3 0 .z [f,a]) (b:=b) VW VW,ca]
def Ty.fC:Ty.nat.err=0:=Ty.nA Ty.SO (by rw[Ty.gk];omega)
def Ty.nF:Ty.lV.err=0:=Ty.nA Ty.Si (by rw[Ty.nt];omega)
def Ty.Gp:Ty.unit.err=0:=Ty.nA Ty.OC (by rw[Ty.Gg];omega)
def Ty.xf{a b:Ty}(c:a.err=0)(d:b.err=0)(h:a.aeb+b.aeb<=63):(Ty.fn a b).err=0:=Ty.nA (Ty.ok_two (.inr rfl) (Ty.fV c).1 (Ty.fV d).1) (by rw[Ty.ie];omega)
def Ty.M0{a b:Ty}(c:a.err=0)(d:b.err=0)(h:a.aeb+b.aeb<=63):(Ty.pr a b).err=0:=Ty.nA (Ty.ok_two (.inl rfl) (Ty.fV c).1 (Ty.fV d).1) (by rw[Ty.tn];omega)
def EF(i:Nat):Tm:=.mk 1 i .z []
def xz(s:Ty)(b:Tm):Tm:=.mk 2 0 s [b]
def qW(f a:Tm):Tm:=.mk 3 0 .z [f,a]
def gv:Tm:=.mk 4 0 .z []
def nE(a:Tm):Tm:=.mk 5 0 .z [a]
def Ou(t:Ty)(a b c:Tm):Tm:=.mk 6 0 t [a,b,c]
def MR:Tm:=xz .nat (xz .nat (Ou .nat (EF 1) (xz .nat (xz .nat (nE (EF 0)))) (EF 0)))
def NO:Tm:=xz .nat (Ou .nat gv (xz .nat (xz .nat (EF 1))) (EF 0))
def S6:Tm:=xz .nat (xz .nat (Ou .nat (EF 1) (xz .nat (xz .nat (qW NO (EF 0)))) (EF 0)))
def BL(i:Nat):fa (i:Int)=some (EF i):=rfl
def tW{a:Tm}(b:a.wt<=100000000):jA a=some (xz .nat a):=by
 unfold jA;rw[ed];simp only[bT];rw[Bg (by rw[Ty.gk];omega) b];rfl
def rec_eq{a b c:Tm}(d:a.wt<=100000000)(e:b.wt<=100000000)(f:c.wt<=100000000):rB a b c=some (Ou .nat a b c):=by
 unfold rB;rw[ed];simp only[bT];rw[A8 (by rw[Ty.gk];omega) d e f];rfl
def Hm:tR=some MR:=by
 unfold tR;rw[show fa 1=some (EF 1)from rfl,show fa 0=some (EF 0)from rfl];simp only[bT];rw[H4 aaq];simp only[bT];rw[tW aaq];simp only[bT];rw[tW aaq];simp only[bT];rw[rec_eq aaq aaq aaq];simp only[bT];rw[tW aaq];simp only[bT];rw[tW aaq];rfl
def G2:tw=some NO:=by
 unfold tw;rw[show fa 1=some (EF 1)from rfl,show fa 0=some (EF 0)from rfl,CV];simp only[bT];rw[tW aaq];simp only[bT];rw[tW aaq];simp only[bT];rw[rec_eq aaq aaq aaq];simp only[bT];rw[tW aaq];rfl
def JP:vA=some S6:=by
 unfold vA;rw[show fa 1=some (EF 1)from rfl,show fa 0=some (EF 0)from rfl,G2];simp only[bT];rw[uE aaq aaq];simp only[bT];rw[tW aaq];simp only[bT];rw[tW aaq];simp only[bT];rw[rec_eq aaq aaq aaq];simp only[bT];rw[tW aaq];simp only[bT];rw[tW aaq];rfl
def Z4{g:List Ty}{t:Ty}(i:Nat)(h:i<g.length)(a:g[g.length-1-i]?=some t):cJ g (EF i) t:=cJ.var i h a
def uC{g:List Ty}{t:Ty}:cJ (g++[t]) (EF 0) t:=cJ.var 0 aas aas
def EU{g:List Ty}{s t:Ty}:cJ (g++[t]++[s]) (EF 1) t:=cJ.var 1 aas aas
def AQ:(Ty.fn .nat .nat).err=0:=Ty.xf Ty.fC Ty.fC (by rw[Ty.gk];omega)
def BU:(Ty.fn .nat (Ty.fn .nat .nat)).err=0:=Ty.xf Ty.fC AQ (by rw[Ty.ie,Ty.gk];omega)
def Qc(g:List Ty):cJ g MR (.fn .nat (.fn .nat .nat)):=
 .lam BU (.lam AQ (.r9 Ty.fC EU (.lam BU (.lam AQ (.succ uC))) uC))
def Qr(g:List Ty):cJ g NO (.fn .nat .nat):=
 .lam AQ (.r9 Ty.fC .zero (.lam BU (.lam AQ EU)) uC)
def SJ(g:List Ty):cJ g S6 (.fn .nat (.fn .nat .nat)):=
 .lam BU (.lam AQ (.r9 Ty.fC EU (.lam BU (.lam AQ (.app (Qr _) uC))) uC))
def JQ:MR.aeb=9:=aaq
def Le:S6.aeb=16:=aaq
def rf{α β:Type}{G:Option β->Prop}(P:α->Prop){k:α->Option β}{b:(α->Option β)->Option β}(c:∀a,P a->G (k a))(d:∀j:α->Option β,(∀a,P a->G (j a))->G (b j)):G (cB k b):=d k c
def FC{α γ β:Type}{G:Option β->Prop}(P:α->γ->Prop){k:α->γ->Option β}{b:(α->γ->Option β)->Option β}(d:∀a c,P a c->G (k a c))(e:∀j:α->γ->Option β,(∀a c,P a c->G (j a c))->G (b j)):G (cB k b):=e k d
def tb(N:Nat):Nat->Nat
 |0=>3*N|k+1=>30+3*tb N k
def Zs{N:Nat}(a:N<=20):∀k,k<=5->tb N k<=18300:=by
 intro k b
 have:k=0\/k=1\/k=2\/k=3\/k=4\/k=5:=VW
 rcases this with rfl|rfl|rfl|rfl|rfl|rfl<;>simp only[tb]<;>omega
def Ri{N k:Nat}:3*N<=tb N k:=by
 induction k with
 |zero=>simp[tb]|succ k a=>grind[tb]
def iT(g:List Ty)(t:Ty)(b:Nat)(o:Option (Tm×cH)):Prop:=∃x a,o=some (x,a)/\a.wf/\NI g x t b
def iT.of{g:List Ty}{t:Ty}{b:Nat}{x:Tm}{d:cH}(a:d.wf)(h:cJ g x t)(hn:x.aeb<=b):iT g t b (some (x,d)):=⟨x,d,rfl,a,h,hn⟩
structure se (N:Nat) (g:List Ty):Prop where
 all:∀s∈g,s.err=0/\s.aeb<=N
def se.app{N:Nat}{g l:List Ty}(h:se N g)(a:∀s∈l,s.err=0/\s.aeb<=N):se N (g++l):=
 ⟨λs hs=>by rcases qO.1 hs with h'|h';exact h.all s h';exact a s h'⟩
def Ty.pH{t:Ty}(h:t.err=0):t=.nat\/t=.lV\/t=.unit\/(∃a b,t=.pr a b/\a.err=0/\b.err=0)\/(∃a b,t=.fn a b/\a.err=0/\b.err=0):=by
 cases t with
 |mk k l=>
  have e:=(Ty.fV h).1;rw[Ty.ei] at e;simp only[eg,m0] at e;have c:=e.1;unfold Ty.want at c
  split at c
  ·rename_i d;injection c with c;have:=RB.1 c.symm;subst this;rcases d with rfl|rfl|rfl
   ·exact .inl rfl
   ·exact .inr (.inl rfl)
   ·exact .inr (.inr (.inl rfl))
  ·split at c
   ·rename_i d;injection c with c;obtain⟨a,b,rfl⟩:=oz (l:=l) VW;have:=Ty.qd d h;rcases d with rfl|rfl
    ·exact .inr (.inr (.inr (.inl ⟨a,b,rfl,this⟩)))
    ·exact .inr (.inr (.inr (.inr ⟨a,b,rfl,this⟩)))
   ·cases c
set_option maxHeartbeats 1000000 in
def Mx(N:Nat)(aK:1<=N)(hN:N<=20):∀(n:Nat) (dep:Int) (g:List Ty) (t:Ty) (d:cH),dep.toNat*(N+1)+t.aeb<n->dep<=5->-1000000<=dep-t.aeb->g.length+(3+N)*dep.toNat+t.aeb<=1000->se N g->t.err=0->t.aeb<=N->d.wf->iT g t (if dep<=0 then 3*t.aeb else tb N dep.toNat) (fH n d g t dep):=by
 intro n
 induction n with
 |zero=>intro dep g t d h;omega|succ n ih=>
  intro dep g t d hm aL aJ hlen hg q p hd;have aM:=t.cw;have an:=(Ty.fV q).2
  have deep:0<dep->∀P M O,P.length<=g.length+3->se N P->M.err=0->M.aeb<=N->O.wf->iT P M (tb N (dep.toNat-1)) (fH n O P M (dh .i64 dep 1)):=by
   intro e P M O Q T X v h5;obtain⟨k,rfl⟩:∃k:Nat,dep=(k+1:Nat):=⟨dep.toNat-1,VW⟩
   have e1:((k+1:Nat):Int).toNat=k+1:=aas
   rw[e1] at hm hlen|-;rw[ds VW VW,show((k+1:Nat):Int)-1=(k:Int) by omega]
   have hmul:(k+1)*(N+1)=k*(N+1)+N+1:=by rw[yj];omega
   have ao:(3+N)*(k+1)=(3+N)*k+3+N:=by rw[Ss];omega
   obtain⟨x,d1,a1,a2,a3⟩:=ih (k:Int) P M O aaQ VW VW aaQ T X v h5;refine⟨x,d1,a1,a2,a3.mono ?_⟩;simp only[TP]
   split
   ·have:k=0:=VW
    subst this;simp only[tb];omega
   ·simp
  have flat:dep<=0->∀P M O,P.length<=g.length+1->M.aeb+1<=t.aeb->se N P->M.err=0->O.wf->iT P M (3*M.aeb) (fH n O P M (dh .i64 dep 1)):=by
   intro e P M O Q h0 T X h5
   have e1:dep.toNat=0:=VW
   rw[e1] at hm hlen;rw[ds VW VW]
   have e2:(dep-1).toNat=0:=VW
   have:=ih (dep-1) P M O (by rw[e2];omega) VW VW (by rw[e2];omega) T X VW h5;rw[bX VW] at this;exact this
  have U:0<dep->(if dep<=0 then 3*t.aeb else tb N dep.toNat)=30+3*tb N (dep.toNat-1):=by
   intro e;rw[bV VW];obtain⟨k,hk⟩:∃k,dep.toNat=k+1:=⟨dep.toNat-1,VW⟩;rw[hk];rfl
  have aq:0<dep->tb N (dep.toNat-1)<=18300:=λ_=>Zs hN _ VW
  have aa:3*t.aeb<=(if dep<=0 then 3*t.aeb else tb N dep.toNat):=by
   split
   ·omega
   ·have:=Ri (N:=N) (k:=dep.toNat);omega
  generalize (if dep<=0 then 3*t.aeb else tb N dep.toNat)=B at U aa|-
  have m:∀{g x t},0<dep->NI g x t (tb N (dep.toNat-1))->x.wt<=1300000:=by
   intro g x t e h;have:=h.wt;have:=aq e;omega
  obtain⟨vs,ar,aN,aw⟩:=Nl g t VW (λs hs=>by have:=(hg.all s hs).2;omega);rw[fH,ar];simp only[bT];refine FC (G:=iT g t B) (λa c=>c.wf/\(a=true->vs≠[])) ?_ ?_
  ·--a variable,or ab else
   rintro a d1 ⟨ad,ax⟩;cases a with
   |true=>
    simp only[if_true];have ay:=ax rfl
    have aO:1<=vs.length:=by cases vs with|nil=>exact absurd rfl ay|cons _ _=>simp
    obtain⟨x,d2,Q,T,X,v⟩:=rQ d1 ad (cI vs) aaQ aaQ;rw[Q];simp only[bW];obtain⟨y,hy,az⟩:=Cw (l:=vs) T (by simpa using X);rw[hy];simp only[bT];obtain⟨i,rfl,aA,aB⟩:=aw y az;rw[BL];refine iT.of v (Z4 i aA aB) ?_
    have:(EF i).aeb=1:=by unfold EF;rw[Tm.bY];rfl
    omega
   |false=>
    simp only[gX,fL];refine rf (G:=iT g t B) cH.wf ?_ ?_
    ·--by ah type
     intro d2 w;rcases Ty.pH q with rfl|rfl|rfl|⟨a,b,rfl,ha,hb⟩|⟨a,b,rfl,ha,hb⟩
     ·--numbers
      simp only[show Ty.nat.ad'=1 from rfl,eu,if_true];refine rf (G:=iT g .nat B) cH.wf ?_ ?_
      ·intro d3 Y;obtain⟨x,d4,Q,T,X,v⟩:=rQ d3 Y 3 VW VW;rw[Q];simp only[bW];obtain⟨y,aC,ai⟩:=vP x T VW;rw[aC];refine iT.of v (ai g).1 ?_;have:=(ai g).2;rw[Ty.gk] at aa;omega
      ·intro j S;simp only[eE]
       split
       ·rename_i e;have U:=U e;obtain⟨x,d4,Q,T,X,v⟩:=rQ d2 w 5 VW VW;rw[Q];simp only[bW,eu]
        split
        ·obtain⟨a,d5,a1,a2,a3⟩:=deep e g .nat d4 VW hg Ty.fC p v;rw[a1];simp only[bW];rw[H4 (by have:=m e a3;omega)];refine iT.of a2 (.succ a3.ty) ?_;have:=a3.aeb;rw[Tm.bY];simp only[cm];omega
        split
        ·rw[Hm];simp only[bT];obtain⟨a,d5,a1,a2,a3⟩:=deep e g .nat d4 VW hg Ty.fC p v;rw[a1];simp only[bW];obtain⟨b,d6,A,C,o⟩:=deep e g .nat d5 VW hg Ty.fC p a2;rw[A];simp only[bW];rw[Ov aaq (by have:=m e a3;omega) (by have:=m e o;omega)];refine iT.of C (.app (.app (Qc g) a3.ty) o.ty) ?_;have:=a3.aeb;have:=o.aeb;have:=JQ;rw[Tm.bY];simp only[cm,Tm.bY];omega
        split
        ·rw[JP];simp only[bT];obtain⟨a,d5,a1,a2,a3⟩:=deep e g .nat d4 VW hg Ty.fC p v;rw[a1];simp only[bW];obtain⟨b,d6,A,C,o⟩:=deep e g .nat d5 VW hg Ty.fC p a2;rw[A];simp only[bW];rw[Ov aaq (by have:=m e a3;omega) (by have:=m e o;omega)];refine iT.of C (.app (.app (SJ g) a3.ty) o.ty) ?_;have:=a3.aeb;have:=o.aeb;have:=Le;rw[Tm.bY];simp only[cm,Tm.bY];omega
        ·exact S d4 v
       ·exact S d2 w
     ·--lists
      simp only[show Ty.lV.ad'=2 from rfl,eu,if_true,show¬(2:Int)=1 by omega,fL];refine FC (G:=iT g .lV B) (λa c=>c.wf/\(a=true->0<dep)) ?_ ?_
      ·rintro a d3 ⟨Y,e⟩;cases a with
       |true=>
        have e:=e rfl;have U:=U e;simp only[if_true];rw[ed];simp only[bT];obtain⟨a,d5,a1,a2,a3⟩:=deep e g .nat d3 VW hg Ty.fC (by rw[Ty.gk];omega) Y;rw[a1];simp only[bW];obtain⟨b,d6,A,C,o⟩:=deep e g .lV d5 VW hg Ty.nF p a2;rw[A];simp only[bW];rw[uE (by have:=m e a3;omega) (by have:=m e o;omega)];refine iT.of C (.cons a3.ty o.ty) ?_;have:=a3.aeb;have:=o.aeb;rw[Tm.bY];simp only[cm];omega
       |false=>
        simp only[gX,fL];rw[CV];refine iT.of Y .nil ?_;rw[Tm.bY];simp only[cm];omega
      ·intro j S;simp only[eE]
       split
       ·rename_i e;obtain⟨x,d4,Q,T,X,v⟩:=rQ d2 w 2 VW VW;rw[Q];simp only[bW];exact S _ d4 ⟨v,λ_=>e⟩
       ·exact S _ d2 ⟨w,λh=>by cases h⟩
     ·simp only[show Ty.unit.ad'=5 from rfl,eu,show¬(5:Int)=1 by omega,show¬(5:Int)=2 by omega,show¬(5:Int)=3 by omega,show¬(5:Int)=4 by omega,fL];rw[CV];refine iT.of w .unit ?_;rw[Tm.bY];simp only[cm];omega
     ·simp only[show(Ty.pr a b).ad'=3 from rfl,show(Ty.pr a b).aea=[a,b] from rfl,eu,show¬(3:Int)=1 by omega,show¬(3:Int)=2 by omega,if_true,fL,cD,dV,gf,kW,bT];rw[Ty.tn] at p an aa
      by_cases e:0<dep
      ·have U:=U e;obtain⟨x,d5,a1,a2,a3⟩:=deep e g a d2 VW hg ha VW w;rw[a1];simp only[bW];obtain⟨y,d6,A,C,o⟩:=deep e g b d5 VW hg hb VW a2;rw[A];simp only[bW];rw[uE (by have:=m e a3;omega) (by have:=m e o;omega)];refine iT.of C (.pair q a3.ty o.ty) ?_;have:=a3.aeb;have:=o.aeb;rw[Tm.bY];simp only[cm];omega
      ·have aD:=Ty.tn a b;obtain⟨x,d5,a1,a2,a3⟩:=flat VW g a d2 VW VW hg ha w;rw[a1];simp only[bW];obtain⟨y,d6,A,C,o⟩:=flat VW g b d5 VW VW hg hb a2;rw[A];simp only[bW];have:=a3.aeb;have:=o.aeb;rw[uE (by have:=a3.wt;omega) (by have:=o.wt;omega)];refine iT.of C (.pair q a3.ty o.ty) ?_;rw[Tm.bY];simp only[cm];omega
     ·simp only[show(Ty.fn a b).ad'=4 from rfl,show(Ty.fn a b).aea=[a,b] from rfl,eu,show¬(4:Int)=1 by omega,show¬(4:Int)=2 by omega,show¬(4:Int)=3 by omega,if_true,fL,cD,dV,gf,kW,bT];have aD:=Ty.ie a b;rw[qH g [a] aaQ];simp only[bT];have R:se N (g++[a]):=hg.app (by intro s hs;rw[AL] at hs;subst hs;exact⟨ha,VW⟩)
      by_cases e:0<dep
      ·have U:=U e;obtain⟨x,d5,a1,a2,a3⟩:=deep e (g++[a]) b d2 aas R hb VW w;rw[a1];simp only[bW];rw[Bg VW (by have:=m e a3;omega)];refine iT.of a2 (.lam q a3.ty) ?_;have:=a3.aeb;rw[Tm.bY];simp only[cm];omega
      ·obtain⟨x,d5,a1,a2,a3⟩:=flat VW (g++[a]) b d2 aas VW R hb w;rw[a1];simp only[bW];have:=a3.aeb;rw[Bg VW (by have:=a3.wt;omega)];refine iT.of a2 (.lam q a3.ty) ?_;rw[Tm.bY];simp only[cm];omega
    ·--a aE,or one of ah context
     intro j S;simp only[eE]
     split
     ·rename_i e;have U:=U e;obtain⟨x,d2,Q,T,X,v⟩:=rQ d1 ad 8 VW VW;rw[Q];simp only[bW,eu]
      have leaf:∀d,cH.wf d->∃s O,jM FU d 0=some (s,O)/\s.err=0/\s.aeb=1/\O.wf:=by
       intro d hd;obtain⟨s,O,c1,c2,c3,c4⟩:=Fb d hd 0 VW;have:=s.cw;exact⟨s,O,c1,c2,VW,c4⟩
      split
      ·obtain⟨s,d3,s1,s2,s3,s4⟩:=leaf d2 v;rw[s1];simp only[bW];rw[qH g [s] aaQ];simp only[bT];obtain⟨a,d5,a1,a2,a3⟩:=deep e (g++[s]) t d3 aas (hg.app (by intro u hu;rw[AL] at hu;subst hu;exact⟨s2,VW⟩)) q p s4;rw[a1];simp only[bW];rw[Bg VW (by have:=m e a3;omega)];simp only[bT];obtain⟨b,d6,A,C,o⟩:=deep e g s d5 VW hg s2 VW a2;rw[A];simp only[bW];have w1:=m e a3;rw[uE (by rw[Tm.fj];simp only[cm];omega) (by have:=m e o;omega)];refine iT.of C (.app (.lam (Ty.xf s2 q VW) a3.ty) o.ty) ?_;have:=a3.aeb;have:=o.aeb;rw[Tm.bY];simp only[cm,Tm.bY];omega
      split
      ·obtain⟨s,d3,s1,s2,s3,s4⟩:=leaf d2 v;rw[s1];simp only[bW];obtain⟨a,d5,a1,a2,a3⟩:=deep e g t d3 VW hg q p s4;rw[a1];simp only[bW];obtain⟨b,d6,A,C,o⟩:=deep e g s d5 VW hg s2 VW a2;rw[A];simp only[bW];have w1:=m e a3;have w2:=m e o;rw[uE VW VW];simp only[bT];rw[H4 (by rw[Tm.fj];have:Ty.z.aeb=1:=rfl;simp only[cm];omega)];refine iT.of C (.fst (.pair (Ty.M0 q s2 VW) a3.ty o.ty)) ?_;have:=a3.aeb;have:=o.aeb;rw[Tm.bY];simp only[cm,Tm.bY];omega
      split
      ·rw[ed];simp only[bT];rw[qH g [.nat,t] aaQ];simp only[bT]
       have R:se N (g++[.nat,t]):=hg.app (by
        intro u hu;simp only[jW,uo,qZ] at hu;rcases hu with rfl|rfl
        ·exact⟨Ty.fC,by rw[Ty.gk];omega⟩
        ·exact⟨q,p⟩)
       obtain⟨a,d5,a1,a2,a3⟩:=deep e (g++[.nat,t]) t d2 aas R q p v;rw[a1];simp only[bW];have w1:=m e a3;have nn:=Ty.gk;rw[Bg VW VW];simp only[bT];rw[Bg VW (by rw[Tm.fj];simp only[cm];omega)];simp only[bT];obtain⟨b,d6,A,C,o⟩:=deep e g t d5 VW hg q p a2;rw[A];simp only[bW];obtain⟨y,d7,y1,y2,y3,y4⟩:=rQ d6 C 3 VW VW;rw[y1];simp only[bW];obtain⟨z,z1,z2⟩:=vP y y2 VW;rw[z1];simp only[bT];have w2:=m e o;have zn:=(z2 g).2;have zw:=z.er (z2 g).1.ok
       have e1:(Tm.mk 2 0 .nat [Tm.mk 2 0 t [a]]).wt<=2000000:=by rw[Tm.fj];simp only[cm,Tm.fj];omega
       rw[A8 VW VW VW VW];have V:(Ty.fn t t).err=0:=Ty.xf q q VW;refine iT.of y4 (.r9 q o.ty (.lam (Ty.xf Ty.fC V (by rw[Ty.ie];omega)) (.lam V (by simpa using a3.ty))) (z2 g).1) ?_;have:=a3.aeb;have:=o.aeb;rw[Tm.bY];simp only[cm,Tm.bY];omega
      split
      ·rw[ed,eQ];simp only[bT];rw[qH g [.nat,.lV,t] aaQ];simp only[bT]
       have R:se N (g++[.nat,.lV,t]):=hg.app (by
        intro u hu;simp only[jW,uo,qZ] at hu;rcases hu with rfl|rfl|rfl
        ·exact⟨Ty.fC,by rw[Ty.gk];omega⟩
        ·exact⟨Ty.nF,by rw[Ty.nt];omega⟩
        ·exact⟨q,p⟩)
       obtain⟨a,d5,a1,a2,a3⟩:=deep e (g++[.nat,.lV,t]) t d2 aas R q p v;rw[a1];simp only[bW];have w1:=m e a3;have nn:=Ty.gk;have ln:=Ty.nt;rw[Bg VW VW];simp only[bT];rw[Bg VW (by rw[Tm.fj];simp only[cm];omega)];simp only[bT];rw[Bg VW (by rw[Tm.fj];simp only[cm,Tm.fj];omega)];simp only[bT];obtain⟨b,d6,A,C,o⟩:=deep e g t d5 VW hg q p a2;rw[A];simp only[bW];obtain⟨c,d7,c1,c2,c3⟩:=deep e g .lV d6 VW hg Ty.nF VW C;rw[c1];simp only[bW];have w2:=m e o;have w3:=m e c3
       have e1:(Tm.mk 2 0 .nat [Tm.mk 2 0 .lV [Tm.mk 2 0 t [a]]]).wt<=2000000:=by rw[Tm.fj];simp only[cm,Tm.fj];omega
       rw[A8 VW VW VW VW];have V:(Ty.fn t t).err=0:=Ty.xf q q VW;have Z:(Ty.fn .lV (Ty.fn t t)).err=0:=Ty.xf Ty.nF V (by rw[Ty.ie];omega);refine iT.of c2 (.fold q o.ty (.lam (Ty.xf Ty.fC Z (by rw[Ty.ie,Ty.ie];omega)) (.lam Z (.lam V (by simpa using a3.ty)))) c3.ty) ?_;have:=a3.aeb;have:=o.aeb;have:=c3.aeb;rw[Tm.bY];simp only[cm,Tm.bY];omega
      split
      ·obtain⟨s,d3,s1,s2,s3,s4⟩:=leaf d2 v;rw[s1];simp only[bW];obtain⟨a,d5,a1,a2,a3⟩:=deep e g s d3 VW hg s2 VW s4;rw[a1];simp only[bW];obtain⟨b,d6,A,C,o⟩:=deep e g t d5 VW hg q p a2;rw[A];simp only[bW];have w1:=m e a3;have w2:=m e o;rw[uE VW VW];simp only[bT];rw[H4 (by rw[Tm.fj];have:Ty.z.aeb=1:=rfl;simp only[cm];omega)];refine iT.of C (.snd (.pair (Ty.M0 s2 q VW) a3.ty o.ty)) ?_;have:=a3.aeb;have:=o.aeb;rw[Tm.bY];simp only[cm,Tm.bY];omega
      split
      ·--a function of ah context
       rw[ch VW,b9];simp only[cg]
       rcases HR (λ_:Unit=>True) (λr:Tm×cH=>iT g t B (some r)) (F:=λ(E:Int) (aF:Ty) (_:Unit)=>
         bU (cr g (dh .i64 (dh .i64 (cI g) 1) E)) λD=>
          if D.ad'=4 then bU (cr D.aea 1) λae=>bU (du FU ae t) λaf=>
           if af then bU (fa E) λH=>bU (cr D.aea 0) λI=>b7 (fH n d2 g I (dh .i64 dep 1)) λJ K=>
            bU (dO 3 [H,J]) λL=>some (dP.ret (L,K))
           else some (dP.next ())
          else if false then bU (fa E) λH=>bU (cr D.aea 0) λI=>b7 (fH n d2 g I (dh .i64 dep 1)) λJ K=>
            bU (dO 3 [H,J]) λL=>some (dP.ret (L,K))
           else some (dP.next ())) g 0 () trivial (by
        intro k u s hk _;have aG:k<g.length:=(jj.1 hk).1
        have W:g.length-1-k<g.length:=VW
        have e1:cr g (dh .i64 (dh .i64 (cI g) 1) ((0+k:Nat):Int))=some g[g.length-1-k]:=by
         rw[tu,dI,ds (a:=(g.length:Int)) (b:=1) VW VW,ds VW VW,show(g.length:Int)-1-(k:Int)=((g.length-1-k:Nat):Int) by omega,gQ];simp[W]
        simp only[e1,bT];have hf:=hg.all _ (BB W);have ak:g[g.length-1-k]?=some g[g.length-1-k]:=mi W;generalize g[g.length-1-k]=f at hf ak|-;rcases Ty.pH hf.1 with rfl|rfl|rfl|⟨a,b,rfl,ha,hb⟩|⟨a,b,rfl,ha,hb⟩
        ·left;exact⟨(),rfl,trivial⟩
        ·left;exact⟨(),rfl,trivial⟩
        ·left;exact⟨(),rfl,trivial⟩
        ·left;exact⟨(),rfl,trivial⟩
        ·simp only[show(Ty.fn a b).ad'=4 from rfl,show(Ty.fn a b).aea=[a,b] from rfl,eu,if_true,cD,dV,gf,kW,bT];have aH:=hf.2;rw[Ty.ie] at aH;rw[gn VW];simp only[bT];cases hs:b.jc t with
         |false=>left;exact⟨(),rfl,trivial⟩|true=>
          rw[Ty.ja] at hs;subst hs;right;simp only[if_true,tu];rw[BL];simp only[bT];obtain⟨y,d5,a1,a2,a3⟩:=deep e g a d2 VW hg ha VW v;rw[a1];simp only[bW];have w1:=m e a3
          have e2:(EF k).wt=2:=by unfold EF;rw[Tm.fj];rfl
          rw[uE VW VW];refine⟨_,rfl,iT.of a2 (.app (Z4 k aG ak) a3.ty) ?_⟩;have:=a3.aeb
          have e3:(EF k).aeb=1:=by unfold EF;rw[Tm.bY];rfl
          rw[Tm.bY];simp only[cm];omega)with⟨s,hs,_⟩|⟨r,hr,aI⟩
       ·rw[hs];exact S d2 v
       ·rw[hr];exact aI
      ·exact S d2 v
     ·exact S d1 ad
  ·intro j S;simp only[eE,dI]
   split
   ·rename_i e;obtain⟨x,d2,Q,T,X,v⟩:=rQ d hd 3 VW VW;rw[Q];simp only[bW];exact S _ d2 ⟨v,λ_ h=>by subst h;simp at e⟩
   ·exact S _ d ⟨hd,λh=>by cases h⟩
inductive fg:List Ty->Fm->Prop
 |eq {g a b}:cJ g a .nat->cJ g b .nat->fg g (.mk 1 .z [a,b] [])|two {g k a b}:k=2\/k=3->fg g a->fg g b->fg g (.mk k .z [] [a,b])|q {g k s a}:k=4\/k=5\/k=6\/k=7->s.err=0->fg (g++[s]) a->fg g (.mk k s [] [a])
def fg.ok{g:List Ty}{f:Fm}(h:fg g f):f.ok=true:=by
 induction h with
 |eq c d=>simp[Fm.ei,Fm.node,Ty.pE,c.ok,d.ok]|two e _ _ i j=>
  rename_i k a b _ _
  have:¬k=1:=VW
  simp[Fm.ei,Fm.node,Ty.pE,e,this,i,j]
 |q e hs _ l=>
  rename_i k s a _
  have c:¬k=1:=VW
  have d:¬(k=2\/k=3):=VW
  have m:hI k=true:=by simp[hI,e]
  simp[Fm.ei,Fm.node,c,d,m,hs,l]
def KL{a b:Tm}(c:a.wt<=1000000000)(d:b.wt<=1000000000):o_ a b=some (.mk 1 .z [a,b] []):=by
 unfold o_;rw[sj c,sj d];rfl
def vj{k:Int}{a b:Fm}(c:a.wt<=1000000000)(d:b.wt<=1000000000):fZ k a b=some (.mk k .z [] [a,b]):=by
 unfold fZ;rw[nZ c,nZ d];rfl
def MC{k:Int}{s:Ty}{a:Fm}(hs:s.aeb<=1000000000)(b:a.wt<=1000000000):iW k s a=some (.mk k s [] [a]):=by
 unfold iW;rw[gI hs,nZ b];rfl
def Sb:ot=some (.mk 1 .z [gv,nE gv] []):=by
 unfold ot;rw[CV];simp only[bT];rw[H4 aaq];simp only[bT];rw[KL aaq aaq];rfl
def fb:Nat->Nat
 |0=>115|k+1=>1+2*fb k
def aaD:∀k,k<=5->fb k<=3711:=by
 intro k a
 have:k=0\/k=1\/k=2\/k=3\/k=4\/k=5:=VW
 rcases this with rfl|rfl|rfl|rfl|rfl|rfl<;>decide
structure W3 (g:List Ty) (f:Fm) (n:Nat):Prop where
 ty:fg g f
 aeb:f.aeb<=n
def W3.wt{g:List Ty}{f:Fm}{n:Nat}(h:W3 g f n):f.wt<=65*n:=by
 have:=f.er h.ty.ok;have:=h.aeb;omega
def Lj(N:Nat)(b:1<=N)(e:N<=20)(dep:Nat)(a:dep<=5)(g:List Ty)(t:Ty)(d:cH)(j:g.length<=600)(hg:se N g)(f:t.err=0)(c:t.aeb<=N)(h:d.wf):iT g t (tb N dep) (fH FU d g t (dep:Int)):=by
 have k:dep*(N+1)<=5*21:=D2 a VW;have l:(3+N)*dep<=23*5:=D2 VW a;obtain⟨x,i,a1,a2,a3⟩:=Mx N b e FU (dep:Int) g t d (by rw[cP];simp;omega) VW VW aaQ hg f c h;refine⟨x,i,a1,a2,a3.mono ?_⟩
 split
 ·have:dep=0:=VW
  subst this;simp only[tb];omega
 ·simp
def Hq(d:cH)(j:d.wf):∃g h,tk d=some (g,h)/\h.wf/\g.length<=3/\se 3 g:=by
 unfold tk;obtain⟨x,d1,k,m,t,n⟩:=rQ d j 4 VW VW;rw[k];simp only[bW,cg]
 obtain⟨o,p,f⟩:=CY (ρ:=List Ty×cH) (F:=TS λ(v218:List Ty) (a:Int) (b:cH)=>
   if nG a 0 then b7 (jM FU b 1) λc d278=>eB (dZ v218 [c])<|some (dP.next (eA v218 [c],dh .i64 a 1,d278))else some (dP.H9 (v218,a,b)))
  (λs=>0<=s.2.1/\(s.1.length:Int)+s.2.1<=3/\se 3 s.1/\s.2.2.wf) (λs=>s.2.1.toNat)
  (λo=>match o with|.inl s=>s.1.length<=3/\se 3 s.1/\s.2.2.wf|.inr _=>False)
  (by
   rintro⟨l,i,e⟩ ⟨i1,i2,i3,i4⟩;simp only at i1 i2 i3 i4
   by_cases hi:0<i
   ·left;obtain⟨s,d3,s1,s2,v,q⟩:=Fb e i4 1 VW;rw[show((1:Nat):Int)=1 from rfl] at s1;refine⟨(l++[s],i-1,d3),?_,⟨?_,?_,?_,q⟩,?_⟩
    ·simp only[Kd,eE,hi,if_true,s1,bW];rw[de aaQ,b9,ds VW VW];rfl
    ·show 0<=i-1;omega
    ·simp;omega
    ·exact i3.app (by intro u hu;rw[AL] at hu;subst hu;exact⟨s2,VW⟩)
    ·show(i-1).toNat<i.toNat;omega
   ·right;left
    exact⟨(l,i,e),by simp only[Kd,eE,hi,fL],by simp only;omega,i3,i4⟩)
  FU ([],x,d1) ⟨m,aaQ,⟨aas⟩,n⟩ (by rw[cP];show x.toNat<_;omega)
 rw[p];cases o with
 |inr r=>exact f.elim|inl s=>
  obtain⟨l,i,e⟩:=s;exact⟨l,e,rfl,f.2.2,f.1,f.2.1⟩
def XS(l:List Int)(h:l.length<=1000):(cH.mk l 0).wf:=⟨h,aas,aas⟩
def uZ(l:List Ty):Int:=if 16<l.length then 3 else dq (l.map Ty.err)
def vU(l:List Ty)(e:l.length<=1000000)(h:∀t∈l,t.aeb<=1000000000):py l=some (uZ l):=by
 unfold py uZ;simp only[eE,dI,ch (l:=l) VW,b9,cg]
 by_cases b:16<l.length
 ·rw[bX VW,bX b]
 ·rw[bV VW,bV b]
  have key:=kV (F:=λ(j:Int) (x:Ty) (_:Unit)=>bU (jV x) λa=>if cF a 0 then some (dP.ret a)else some (dP.next ())) Ty.err l 0 (by
   intro j x d;rw[tN (h x d)]
   simp only[bT,cf])
  simp only[cf] at key|-;rw[key]
  by_cases c:dq (l.map Ty.err)=0
  ·simp[c]
  ·simp[c]
def rE(l:List Ty)(e:l.length<=1000000)(h:∀t∈l,t.aeb<=1000000000):kF l=some (uZ l):=by
 unfold kF uZ;simp only[eE,dI,ch (l:=l) VW,b9,cg]
 by_cases b:16<l.length
 ·rw[bX VW,bX b]
 ·rw[bV VW,bV b]
  have key:=kV (F:=λ(j:Int) (x:Ty) (_:Unit)=>bU (gO x) λa=>if cF a 0 then some (dP.ret a)else some (dP.next ())) Ty.err l 0 (by
   intro j x d;rw[kU (h x d)]
   simp only[bT,cf])
  simp only[cf] at key|-;rw[key]
  by_cases c:dq (l.map Ty.err)=0
  ·simp[c]
  ·simp[c]
def wk:∀(n:Nat) (a b:Ty),a.aeb<=n->a.aeb<=1000000000->∃r,fo n a b=some r/\(r=true↔a=b):=by
 intro n
 induction n with
 |zero=>intro t b h;have:=t.cw;omega
 |succ n q=>
  intro a b h s;cases a with
  |mk k l=>
  cases b with
  |mk k' m=>
   rw[Ty.bY] at h s;have u:=Ty.dm l;rw[fo];simp only[Ty.ck,Ty.cq,cg,ch (l:=l) VW,b9,jB,o0,cf,dI]
   by_cases d:k≠k'\/(l.length:Int)≠m.length
   ·rw[bX d];refine⟨false,rfl,?_⟩;simp only[gX,I7,Ty.mk.injEq,not_and];rintro rfl rfl;simp at d
   ·rw[bV d];simp only[not_or,vd] at d;obtain⟨rfl,hlen⟩:=d
    have c:l.length=m.length:=VW
    let p:Ty->Ty->Bool:=λx y=>(fo n x y).getD false
    have i:∀x∈l,∀y,fo n x y=some (p x y)/\(p x y=true↔x=y):=by
     intro x f y;have:=cy Ty.aeb f;obtain⟨r,o,g⟩:=q x y VW VW
     have e:p x y=r:=by show(fo n x y).getD false=r;rw[o];rfl
     rw[e];exact⟨o,g⟩
    have key:=wh (F:=λ(j:Int) (x:Ty) (_:Unit)=>bU (cr m j) λy=>bU (fo n x y) λz=>if z then some (dP.next ())else some (dP.ret false)) p m l 0 m rfl c (by
     intro k x y f hy;rw[gQ,hy];simp only[bT];rw[(i x f y).1]
     rfl)
    rw[key];have he:=vD p l m λx f y=>(i x f y).2;cases g:tp p l m with
    |false=>exact⟨false,rfl,by rw[g] at he;simpa using he⟩
    |true=>exact⟨true,rfl,by rw[g] at he;simpa using he⟩
def wy:∀(n:Nat) (a b:Tm),a.wt<=n->a.wt<=1000000000->∃r,iJ n a b=some r/\(r=true↔a=b):=by
 intro n
 induction n with
 |zero=>intro t b h;have:=t.hD;omega
 |succ n E=>
  intro a b h G;cases a with
  |mk k i s l=>
  cases b with
  |mk k' f u m=>
   rw[Tm.fj] at h G;have I:=Tm.m5 l;rw[iJ];simp only[Tm.ck,Tm.cq,Tm.dQ,Tm.cQ,cg,ch (l:=l) VW,b9,cf,dI]
   have no:¬(k=k'/\i=f/\s=u/\l.length=m.length)->∃r,some false=some r/\(r=true↔Tm.mk k i s l=Tm.mk k' f u m):=by
    intro hn;refine⟨false,rfl,?_⟩;simp only[gX,I7,Tm.mk.injEq,not_and];rintro rfl rfl rfl rfl;exact hn ⟨rfl,rfl,rfl,rfl⟩
   by_cases g:k≠k'
   ·rw[bX g,bX trivial];exact no λh=>g h.1
   ·rw[bV g]
    by_cases hi:i≠f
    ·rw[bX hi,bX trivial];exact no λh=>hi h.2.1
    ·rw[bV hi];obtain⟨r,H,B⟩:=wk FU s u (by rw[cP];omega) VW;rw[H];simp only[bT]
     by_cases o:r=true
     ·have hs:=B.1 o;rw[bX o]
      by_cases hlen:(l.length:Int)≠m.length
      ·rw[bX hlen];exact no λh=>hlen VW
      ·rw[bV hlen]
       have c:l.length=m.length:=VW
       let p:Tm->Tm->Bool:=λx y=>(iJ n x y).getD false
       have C:∀x∈l,∀y,iJ n x y=some (p x y)/\(p x y=true↔x=y):=by
        intro x d y;have:=cy Tm.wt d;obtain⟨r,D,q⟩:=E x y VW VW
        have e:p x y=r:=by show(iJ n x y).getD false=r;rw[D];rfl
        rw[e];exact⟨D,q⟩
       have key:=wh (F:=λ(j:Int) (x:Tm) (_:Unit)=>bU (cr m j) λy=>bU (iJ n x y) λz=>if z then some (dP.next ())else some (dP.ret false)) p m l 0 m rfl c (by
        intro k x y d hy;rw[gQ,hy];simp only[bT];rw[(C x d y).1]
        rfl)
       rw[key];have he:=vD p l m λx d y=>(C x d y).2;have v:k=k':=vd.1 g;have w:i=f:=vd.1 hi;cases q:tp p l m with
       |false=>
        refine⟨false,rfl,?_⟩;rw[q] at he;simp only[gX,I7,Tm.mk.injEq,not_and];intro _ _ _ A;exact absurd (he.2 A) aas
       |true=>
        refine⟨true,rfl,?_⟩;rw[q] at he;simp only[TF,Tm.mk.injEq];exact⟨v,w,hs,he.1 rfl⟩
     ·rw[bV o,bX trivial];exact no λh=>o (B.2 h.2.2.1)
def zP:∀(n:Nat) (a b:Tm),a.wt<=n->a.wt<=1000000000->∃r,iY n a b=some r/\(r=true↔a=b):=by
 intro n
 induction n with
 |zero=>intro t b h;have:=t.hD;omega
 |succ n E=>
  intro a b h G;cases a with
  |mk k i s l=>
  cases b with
  |mk k' f u m=>
   rw[Tm.fj] at h G;have I:=Tm.m5 l;rw[iY];simp only[Tm.ck,Tm.cq,Tm.dQ,Tm.cQ,cg,ch (l:=l) VW,b9,cf,dI]
   have no:¬(k=k'/\i=f/\s=u/\l.length=m.length)->∃r,some false=some r/\(r=true↔Tm.mk k i s l=Tm.mk k' f u m):=by
    intro hn;refine⟨false,rfl,?_⟩;simp only[gX,I7,Tm.mk.injEq,not_and];rintro rfl rfl rfl rfl;exact hn ⟨rfl,rfl,rfl,rfl⟩
   by_cases g:k≠k'
   ·rw[bX g,bX trivial];exact no λh=>g h.1
   ·rw[bV g]
    by_cases hi:i≠f
    ·rw[bX hi,bX trivial];exact no λh=>hi h.2.1
    ·rw[bV hi];obtain⟨r,H,B⟩:=u7 FU s u (by rw[cP];omega) VW;rw[H];simp only[bT]
     by_cases o:r=true
     ·have hs:=B.1 o;rw[bX o]
      by_cases hlen:(l.length:Int)≠m.length
      ·rw[bX hlen];exact no λh=>hlen VW
      ·rw[bV hlen]
       have c:l.length=m.length:=VW
       let p:Tm->Tm->Bool:=λx y=>(iY n x y).getD false
       have C:∀x∈l,∀y,iY n x y=some (p x y)/\(p x y=true↔x=y):=by
        intro x d y;have:=cy Tm.wt d;obtain⟨r,D,q⟩:=E x y VW VW
        have e:p x y=r:=by show(iY n x y).getD false=r;rw[D];rfl
        rw[e];exact⟨D,q⟩
       have key:=wh (F:=λ(j:Int) (x:Tm) (_:Unit)=>bU (cr m j) λy=>bU (iY n x y) λz=>if z then some (dP.next ())else some (dP.ret false)) p m l 0 m rfl c (by
        intro k x y d hy;rw[gQ,hy];simp only[bT];rw[(C x d y).1]
        rfl)
       rw[key];have he:=vD p l m λx d y=>(C x d y).2;have v:k=k':=vd.1 g;have w:i=f:=vd.1 hi;cases q:tp p l m with
       |false=>
        refine⟨false,rfl,?_⟩;rw[q] at he;simp only[gX,I7,Tm.mk.injEq,not_and];intro _ _ _ A;exact absurd (he.2 A) aas
       |true=>
        refine⟨true,rfl,?_⟩;rw[q] at he;simp only[TF,Tm.mk.injEq];exact⟨v,w,hs,he.1 rfl⟩
     ·rw[bV o,bX trivial];exact no λh=>o (B.2 h.2.2.1)
def u6{a b:Tm}(hw:a.wt<=1000000000):∃r,uc a b=some r/\(r=true↔a=b):=by
 obtain⟨r,c,d⟩:=wy FU a b (by rw[cP];exact hw) hw;exact⟨r,by unfold uc;rw[c];rfl,d⟩
def BZ:∀(k:Nat) (m:Int) (t:Tm),(t.norm k m).2.2=0\/(t.norm k m).2.2=4\/(t.norm k m).2.2=5
 |0,m,t=>by
  rw[Tm.norm]
  split
  ·exact .inl rfl
  ·exact .inr (.inr rfl)
 |k+1,m,t=>by
  rw[Tm.norm]
  split
  ·exact .inr (.inl rfl)
  ·exact .inl rfl
  ·exact BZ k _ _
def O1:∀(k:Nat) (m:Int) (t a:Tm) (n:Int),t.norm k m=(a,n,0)->a.nf=true/\m<=n/\n<=m+k/\(∀k':Nat,n<=m+k'->t.norm k' m=(a,n,0))/\∀k':Nat,m+k'<n->t.norm k' m=(Tm.z,0,5)
 |0,m,t,a,n,h=>by
  rw[Tm.norm] at h
  split at h
  ·rename_i b;obtain⟨c,h⟩:=fI h;rw[<-c];obtain⟨rfl,_⟩:=fI h;refine⟨b,PY _,VW,λk' _=>?_,λk' h=>by omega⟩;cases k' with
   |zero=>rw[Tm.norm,bX b]|succ k'=>rw[zj ((yE _ _).1 b)]
  ·cases h
 |k+1,m,t,a,n,h=>by
  rw[Tm.norm] at h
  split at h
  ·cases h
  ·rename_i hs;obtain⟨c,h⟩:=fI h;rw[<-c];obtain⟨rfl,_⟩:=fI h;have b:=(yE _ _).2 hs;refine⟨b,PY _,VW,λk' _=>?_,λk' h=>by omega⟩;cases k' with
   |zero=>rw[Tm.norm,bX b]|succ k'=>rw[zj hs]
  ·rename_i d hs;obtain⟨e,j,l,f,g⟩:=O1 k (m+1) d a n h;refine⟨e,VW,VW,λk' i=>?_,λk' i=>?_⟩
   ·cases k' with
    |zero=>omega|succ k'=>
     rw[zb hs];exact f k' VW
   ·cases k' with
    |zero=>
     rw[Tm.norm,bV];intro b;rw[(yE _ _).1 b] at hs;cases hs
    |succ k'=>
     rw[zb hs];exact g k' VW
def EG:∀(k:Nat) (M m:Int) (t a:Tm) (n:Int),0<=M->Sm M t->t.aeb<=4096->t.norm k m=(a,n,0)->Sm (M+8192*k) a/\a.aeb<=4096
 |0,M,m,t,a,n,d,hs,hn,h=>by
  rw[Tm.norm] at h
  split at h
  ·obtain⟨b,h⟩:=fI h;rw[<-b];exact⟨hs.mono VW,hn⟩
  ·cases h
 |k+1,M,m,t,a,n,d,hs,hn,h=>by
  rw[Tm.norm] at h
  split at h
  ·cases h
  ·obtain⟨b,h⟩:=fI h;rw[<-b];exact⟨hs.mono VW,hn⟩
  ·rename_i e c;obtain⟨f,g,i⟩:=I8 d t hs VW e c;obtain⟨a1,a2⟩:=EG k (M+8192) (m+1) e a n VW ⟨f,g,VW⟩ VW h;exact⟨a1.mono VW,a2⟩
def PW(l:List Int):Fy l=some (decide (l.length<=500)):=by
 unfold Fy
 congr 1
 unfold DU cI;exact M'.2 VW
def pg{k:Int}(a:k≠1)(c:k≠2)(f b i:Int)(s:Ty)(l:List Tm):(Tm.mk k i s l).up f b=.mk k i s (l.map (Tm.up f b)):=by
 rw[Tm.fD,bV (λh=>a h.1)];unfold dB;rw[bV c,wo]
def Sh(f b i:Int)(s:Ty)(l:List Tm):(Tm.mk 2 i s l).up f b=.mk 2 i s (l.map (Tm.up (f+1) b)):=by
 rw[Tm.fD,bV (λh=>by have:=h.1;omega)];rfl
def l5{k:Int}(b:k≠1)(c:k≠2)(n i:Int)(a:Tm)(s:Ty)(l:List Tm):Tm.eG n (Tm.mk k i s l) a=.mk k i s (l.map λx=>Tm.eG n x a):=by
 rw[Tm.ey,bV b];unfold dB;rw[bV c,wo]
def Ol(n i:Int)(a:Tm)(s:Ty)(l:List Tm):Tm.eG n (Tm.mk 2 i s l) a=.mk 2 i s (l.map λx=>Tm.eG (n+1) x a):=by
 rw[Tm.ey,bV aaq];rfl
def EH{g:List Ty}{t:Ty}{i j:Nat}(h:g[j]?=some t)(hi:i<g.length)(a:g.length-1-i=j):cJ g (.mk 1 i .z []) t:=.var i hi (by rw[a];exact h)
def cJ.up{g:List Ty}{x:Tm}{t:Ty}(h:cJ g x t):∀g1 g2 e:List Ty,g=g1++g2->cJ (g1++e++g2) (x.up g2.length e.length) t:=by
 induction h with
 |@var g t i d l=>
  rintro g1 g2 e rfl;rw[Tm.fD,m7];rw[ni] at d
  by_cases hi:g2.length<=i
  ·rw[bX ⟨rfl,VW⟩,show(i:Int)+e.length=((i+e.length:Nat):Int) by push_cast;rfl];refine EH (j:=g1.length+g2.length-1-i) ?_ (by simp<;>omega) (by simp<;>omega);rw[ni,oy VW] at l;rw[pQ,oy VW];exact l
  ·rw[bV (λh=>by have:=h.2;omega)];refine EH (j:=g1.length+e.length+(g2.length-1-i)) ?_ (by simp<;>omega) (by simp<;>omega);rw[ni,qU VW] at l;rw[qU (by simp<;>omega)];rw[<-l]
   congr 1
   simp;omega
 |@lam g s b t d _ f=>
  rintro g1 g2 e rfl;have:=f g1 (g2++[s]) e (by rw[pQ]);rw[Sh];refine .lam d ?_;rw[ni,<-pQ] at this;exact this
 |app _ _ a c=>intro g1 g2 e hg;rw[pg aaq aaq];exact .app (a g1 g2 e hg) (c g1 g2 e hg)|zero=>intro g1 g2 e hg;rw[pg aaq aaq];exact .zero|succ _ f=>intro g1 g2 e hg;rw[pg aaq aaq];exact .succ (f g1 g2 e hg)|r9 d _ _ _ a c k=>intro g1 g2 e hg;rw[pg aaq aaq];exact .r9 d (a g1 g2 e hg) (c g1 g2 e hg) (k g1 g2 e hg)|nil=>intro g1 g2 e hg;rw[pg aaq aaq];exact .nil|cons _ _ a c=>intro g1 g2 e hg;rw[pg aaq aaq];exact .cons (a g1 g2 e hg) (c g1 g2 e hg)|fold d _ _ _ a c k=>intro g1 g2 e hg;rw[pg aaq aaq];exact .fold d (a g1 g2 e hg) (c g1 g2 e hg) (k g1 g2 e hg)|pair d _ _ a c=>intro g1 g2 e hg;rw[pg aaq aaq];exact .pair d (a g1 g2 e hg) (c g1 g2 e hg)|fst _ f=>intro g1 g2 e hg;rw[pg aaq aaq];exact .fst (f g1 g2 e hg)|snd _ f=>intro g1 g2 e hg;rw[pg aaq aaq];exact .snd (f g1 g2 e hg)|unit=>intro g1 g2 e hg;rw[pg aaq aaq];exact .unit
theorem cJ.eG{g:List Ty}{x:Tm}{t:Ty}(h:cJ g x t):∀(g1:List Ty) (s:Ty) (g2:List Ty) (a:Tm),g=g1++[s]++g2->cJ g1 a s->cJ (g1++g2) (Tm.eG g2.length x a) t:=by
 induction h with
 |@var g t i f k=>
  rintro g1 s g2 a rfl c;rw[Tm.ey,bX rfl];unfold Tm.m4;simp only[ni,j0,tP] at f k
  by_cases he:(i:Int)=g2.length
  ·rw[bX he]
   have n:s=t:=by
    rw[pQ,qU VW,oy (by simp<;>omega)] at k;rw[show g1.length+(0+1)+g2.length-1-i-g1.length=0 by omega] at k;exact fS k
   subst n;have:=c.up g1 [] g2 aas;simpa using this
  ·rw[bV he]
   by_cases hi:(g2.length:Int)<i
   ·rw[bX hi,show(i:Int)-1=((i-1:Nat):Int) by omega];refine EH (j:=g1.length+g2.length-i) ?_ (by simp<;>omega) (by simp<;>omega);rw[pQ,oy VW] at k;rw[oy VW,<-k]
    congr 1
    omega
   ·rw[bV hi];refine EH (j:=g1.length+(g2.length-1-i)) ?_ (by simp<;>omega) (by simp<;>omega);rw[qU (by simp<;>omega)] at k;rw[qU VW,<-k]
    congr 1
    simp;omega
 |@lam g s b t f _ l=>
  rintro g1 u g2 a rfl c;have:=l g1 u (g2++[s]) a (by simp only[pQ]) c;rw[Ol];refine .lam f ?_;rw[ni,<-pQ] at this;exact this
 |app _ _ d e=>intro g1 s g2 a hg c;rw[l5 aaq aaq];exact .app (d g1 s g2 a hg c) (e g1 s g2 a hg c)|zero=>intro g1 s g2 a hg c;rw[l5 aaq aaq];exact .zero|succ _ l=>intro g1 s g2 a hg c;rw[l5 aaq aaq];exact .succ (l g1 s g2 a hg c)|r9 f _ _ _ d e m=>intro g1 s g2 a hg c;rw[l5 aaq aaq];exact .r9 f (d g1 s g2 a hg c) (e g1 s g2 a hg c) (m g1 s g2 a hg c)|nil=>intro g1 s g2 a hg c;rw[l5 aaq aaq];exact .nil|cons _ _ d e=>intro g1 s g2 a hg c;rw[l5 aaq aaq];exact .cons (d g1 s g2 a hg c) (e g1 s g2 a hg c)|fold f _ _ _ d e m=>intro g1 s g2 a hg c;rw[l5 aaq aaq];exact .fold f (d g1 s g2 a hg c) (e g1 s g2 a hg c) (m g1 s g2 a hg c)|pair f _ _ d e=>intro g1 s g2 a hg c;rw[l5 aaq aaq];exact .pair f (d g1 s g2 a hg c) (e g1 s g2 a hg c)|fst _ l=>intro g1 s g2 a hg c;rw[l5 aaq aaq];exact .fst (l g1 s g2 a hg c)|snd _ l=>intro g1 s g2 a hg c;rw[l5 aaq aaq];exact .snd (l g1 s g2 a hg c)|unit=>intro g1 s g2 a hg c;rw[l5 aaq aaq];exact .unit
def Ty.Yi{a b c d:Ty}(h:Ty.fn a b=Ty.fn c d):a=c/\b=d:=by unfold Ty.fn at h;simpa using h
def Ty.Rc{a b c d:Ty}(h:Ty.pr a b=Ty.pr c d):a=c/\b=d:=by unfold Ty.pr at h;simpa using h
theorem cJ.dg{g:List Ty}{x:Tm}{t:Ty}(h:cJ g x t)(l:x.root=true):cJ g x.dg t:=by
 cases h with
 |@app _ f a s _ c j=>
  have d:f.ad'=2:=by simpa[Tm.root,Tm.kd] using l
  generalize o:Ty.fn s t=q at c
  cases c<;>simp only[Tm.cq] at d<;>first|omega|skip
  rename_i w b p e i;obtain⟨rfl,rfl⟩:=Ty.Yi o;have:=i.eG g s [] a aas j;simpa[Tm.dg] using this
 |@r9 _ _ b s n c j e i=>
  have d:n.ad'=4\/n.ad'=5:=by simpa[Tm.root,Tm.kd] using l
  cases i<;>simp only[Tm.cq] at d<;>first|omega|skip
  ·simpa[Tm.dg] using j
  ·rename_i m k;have:=cJ.app (.app e k) (cJ.r9 c j e k);simpa[Tm.dg,iH,Ty.z] using this
 |@fold _ _ b s n c j e i=>
  have d:n.ad'=7\/n.ad'=8:=by simpa[Tm.root,Tm.kd] using l
  cases i<;>simp only[Tm.cq] at d<;>first|omega|skip
  ·simpa[Tm.dg] using j
  ·rename_i u v k r;have:=cJ.app (.app (.app e k) r) (cJ.fold c j e r);simpa[Tm.dg,iH,Ty.z] using this
 |@fst _ a s p c=>
  have d:a.ad'=10:=by simpa[Tm.root,Tm.kd] using l
  generalize o:Ty.pr t p=q at c
  cases c<;>simp only[Tm.cq] at d<;>first|omega|skip
  rename_i e i k;obtain⟨rfl,rfl⟩:=Ty.Rc o;simpa[Tm.dg] using i
 |@snd _ a s p c=>
  have d:a.ad'=10:=by simpa[Tm.root,Tm.kd] using l
  generalize o:Ty.pr s t=q at c
  cases c<;>simp only[Tm.cq] at d<;>first|omega|skip
  rename_i e i k;obtain⟨rfl,rfl⟩:=Ty.Rc o;simpa[Tm.dg] using k
 |_=>simp[Tm.root] at l
def j8{r k i:Int}{s:Ty}{l:List Tm}{b:Tm}(h:(Tm.mk k i s l).F7 r=some (some b)):((Tm.mk k i s l).root=true/\b=(Tm.mk k i s l).dg)\/∃a,Tm.qp r l=some (some a)/\b=.mk k i s a:=by
 rw[Tm.AG] at h
 by_cases c:(Tm.mk k i s l).root=true
 ·rw[bX c] at h
  split at h
  · cases h
  · exact .inl ⟨c,(fS (fS h)).symm⟩
 ·rw[bV c] at h;cases e:Tm.qp r l with
  |none=>rw[e] at h;cases h
  |some o=>
    cases o with
    |none=>rw[e] at h;cases h
    |some a=>rw[e] at h;exact .inr ⟨a,rfl,(fS (fS h)).symm⟩
def iF{r:Int}{a:Tm}{l c:List Tm}(h:Tm.qp r (a::l)=some (some c)):(∃b,a.F7 r=some (some b)/\c=b::l)\/∃m,Tm.qp r l=some (some m)/\c=a::m:=by
 rw[Tm.qp] at h;cases e:a.F7 r with
 |none=>rw[e] at h;cases h
 |some o=>
  cases o with
  |some b=>rw[e] at h;exact .inl ⟨b,rfl,(fS (fS h)).symm⟩
  |none=>
   rw[e] at h;dsimp only at h;cases d:Tm.qp r l with
   |none=>rw[d] at h;cases h
   |some o2=>
    cases o2 with
    |none=>rw[d] at h;cases h
    |some m=>rw[d] at h;exact .inr ⟨m,rfl,(fS (fS h)).symm⟩
def lA{r:Int}{a:List Tm}(h:Tm.qp r []=some (some a)):False:=by rw[Tm.qp] at h;cases h
def cJ.F7{r:Int}{g:List Ty}{x:Tm}{t:Ty}(h:cJ g x t):∀n,x.F7 r=some (some n)->cJ g n t:=by
 induction h with
 |var i c f=>
  intro n hs;rcases j8 hs with⟨d,rfl⟩|⟨q,e,rfl⟩
  ·exact(cJ.var i c f).dg d
  ·exact(lA e).elim
 |lam c f s=>
  intro n hs;rcases j8 hs with⟨d,rfl⟩|⟨q,e,rfl⟩
  ·exact(cJ.lam c f).dg d
  ·rcases iF e with⟨o,a,b⟩|⟨m,a,b⟩
   ·subst_vars;exact .lam c (s _ a)
   ·exact(lA a).elim
 |app c f j k=>
  intro n hs;rcases j8 hs with⟨d,rfl⟩|⟨q,e,rfl⟩
  ·exact(cJ.app c f).dg d
  ·rcases iF e with⟨o,a,b⟩|⟨m,a,b⟩
   ·subst_vars;exact .app (j _ a) f
   ·rcases iF a with⟨o,l,b⟩|⟨m,l,b⟩
    ·subst_vars;exact .app c (k _ l)
    ·exact(lA l).elim
 |zero=>
  intro n hs;rcases j8 hs with⟨d,rfl⟩|⟨q,e,rfl⟩
  ·exact cJ.zero.dg d
  ·exact(lA e).elim
 |succ c s=>
  intro n hs;rcases j8 hs with⟨d,rfl⟩|⟨q,e,rfl⟩
  ·exact(cJ.succ c).dg d
  ·rcases iF e with⟨o,a,b⟩|⟨m,a,b⟩
   ·subst_vars;exact .succ (s _ a)
   ·exact(lA a).elim
 |r9 p c f u j k v=>
  intro n hs;rcases j8 hs with⟨d,rfl⟩|⟨q,e,rfl⟩
  ·exact(cJ.r9 p c f u).dg d
  ·rcases iF e with⟨o,a,b⟩|⟨m,a,b⟩
   ·subst_vars;exact .r9 p (j _ a) f u
   ·rcases iF a with⟨o,l,b⟩|⟨m,l,b⟩
    ·subst_vars;exact .r9 p c (k _ l) u
    ·rcases iF l with⟨o,w,b⟩|⟨m,w,b⟩
     ·subst_vars;exact .r9 p c f (v _ w)
     ·exact(lA w).elim
 |nil=>
  intro n hs;rcases j8 hs with⟨d,rfl⟩|⟨q,e,rfl⟩
  ·exact cJ.nil.dg d
  ·exact(lA e).elim
 |cons c f j k=>
  intro n hs;rcases j8 hs with⟨d,rfl⟩|⟨q,e,rfl⟩
  ·exact(cJ.cons c f).dg d
  ·rcases iF e with⟨o,a,b⟩|⟨m,a,b⟩
   ·subst_vars;exact .cons (j _ a) f
   ·rcases iF a with⟨o,l,b⟩|⟨m,l,b⟩
    ·subst_vars;exact .cons c (k _ l)
    ·exact(lA l).elim
 |fold p c f u j k v=>
  intro n hs;rcases j8 hs with⟨d,rfl⟩|⟨q,e,rfl⟩
  ·exact(cJ.fold p c f u).dg d
  ·rcases iF e with⟨o,a,b⟩|⟨m,a,b⟩
   ·subst_vars;exact .fold p (j _ a) f u
   ·rcases iF a with⟨o,l,b⟩|⟨m,l,b⟩
    ·subst_vars;exact .fold p c (k _ l) u
    ·rcases iF l with⟨o,w,b⟩|⟨m,w,b⟩
     ·subst_vars;exact .fold p c f (v _ w)
     ·exact(lA w).elim
 |pair p c f j k=>
  intro n hs;rcases j8 hs with⟨d,rfl⟩|⟨q,e,rfl⟩
  ·exact(cJ.pair p c f).dg d
  ·rcases iF e with⟨o,a,b⟩|⟨m,a,b⟩
   ·subst_vars;exact .pair p (j _ a) f
   ·rcases iF a with⟨o,l,b⟩|⟨m,l,b⟩
    ·subst_vars;exact .pair p c (k _ l)
    ·exact(lA l).elim
 |fst c s=>
  intro n hs;rcases j8 hs with⟨d,rfl⟩|⟨q,e,rfl⟩
  ·exact(cJ.fst c).dg d
  ·rcases iF e with⟨o,a,b⟩|⟨m,a,b⟩
   ·subst_vars;exact .fst (s _ a)
   ·exact(lA a).elim
 |snd c s=>
  intro n hs;rcases j8 hs with⟨d,rfl⟩|⟨q,e,rfl⟩
  ·exact(cJ.snd c).dg d
  ·rcases iF e with⟨o,a,b⟩|⟨m,a,b⟩
   ·subst_vars;exact .snd (s _ a)
   ·exact(lA a).elim
 |unit=>
  intro n hs;rcases j8 hs with⟨d,rfl⟩|⟨q,e,rfl⟩
  ·exact cJ.unit.dg d
  ·exact(lA e).elim
def cJ.norm{g:List Ty}{t:Ty}:∀(k:Nat) (m:Int) (x a:Tm) (n:Int),cJ g x t->x.norm k m=(a,n,0)->cJ g a t
 |0,m,x,a,n,b,h=>by
  rw[Tm.norm] at h
  split at h
  ·obtain⟨c,_⟩:=fI h;rw[<-c];exact b
  ·cases h
 |k+1,m,x,a,n,b,h=>by
  rw[Tm.norm] at h
  split at h
  ·cases h
  ·obtain⟨c,_⟩:=fI h;rw[<-c];exact b
  ·rename_i d hs;exact cJ.norm k (m+1) d a n (b.F7 _ hs) h
theorem J5{i:Int}{s:Ty}{l:List Tm}(h:(Tm.mk 1 i s l).ok=true):s=.mk 0 []/\l=[]:=by
 have b:=Tm.qs h;have e:eS 1=0:=rfl;have a:l=[]:=zI VW;subst a;rw[Tm.ei] at h;cases s with
 |mk k l=>simp[Tm.node,hB,Ty.o9,cn,cI,eS] at h;refine⟨?_,rfl⟩;obtain⟨c,d⟩:=h;simp_all
theorem VU(t:Tm):∀g f n c:Int,0<=g->0<=n->0<=c->g+n<=f->(t.up g n).up f c=(t.up (f-n) c).up g n:=by
 induction t using Tm.ind with
 |h k i s l a=>
  intro g f n c hg hn b d;simp only[Tm.fD,D4]
  congr 1
  ·grind
  ·refine qf λx e=>?_
   grind[dB]
theorem up_add(t:Tm):∀g f p m:Int,0<=g->0<=p->0<=m->g<=f->f<=g+p->(t.up g p).up f m=t.up g (p+m):=by
 induction t using Tm.ind with
 |h k i s l a=>
  intro g f p m hg b hm c d;simp only[Tm.fD,D4]
  congr 1
  ·grind
  ·refine qf λx e=>?_
   grind[dB]
theorem IZ(x t:Tm):∀g m n:Int,t.ok=true->0<=g->g<=m->m<=g+n->Tm.eG m (t.up g (n+1)) x=t.up g n:=by
 induction t using Tm.ind with
 |h k i s l b=>
  intro g m n c hg d e
  by_cases a:k=1
  ·grind[J5,Tm.fD,Tm.ey,Tm.m4]
  ·simp only[Tm.fD,a,Nw,fL,Tm.ey,D4]
   congr 1
   refine qf λy hy=>?_
   grind[dB,Tm.cK]
theorem Kh(a t:Tm):∀g m n:Int,t.ok=true->0<=g->0<=m->g+m<=n->Tm.eG n (t.up g m) a=(Tm.eG (n-m) t a).up g m:=by
 induction t using Tm.ind with
 |h k i s l c=>
  intro g m n d hg hm e
  by_cases b:k=1
  ·grind[Tm.fD,Tm.ey,Tm.m4,up_add]
  ·simp only[Tm.fD,b,Nw,fL,Tm.ey,D4]
   congr 1
   refine qf λy hy=>?_
   grind[dB,Tm.cK]
def XZ(a t:Tm):∀n f c:Int,t.ok=true->0<=n->n<=f->0<=c->(Tm.eG n t a).up f c=Tm.eG n (t.up (f+1) c) (a.up (f-n) c):=by
 induction t using Tm.ind with
 |h k i s l e=>
  intro n f c d hn g j
  by_cases b:k=1
  ·subst b;obtain⟨rfl,rfl⟩:=J5 d;simp only[Tm.fD,BR,m7,Tm.ey,if_true]
   grind[Tm.m4,VU,Tm.fD]
  ·simp only[Tm.fD,b,Nw,fL,Tm.ey,D4]
   congr 1
   refine qf λy hy=>?_
   grind[dB,Tm.cK]
def UM(a s:Tm)(c:a.ok=true)(hs:s.ok=true)(t:Tm):∀m n:Int,t.ok=true->0<=m->m<=n->Tm.eG n (Tm.eG m t a) s=Tm.eG m (Tm.eG (n+1) t s) (Tm.eG (n-m) a s):=by
 induction t using Tm.ind with
 |h k i ty l d=>
  intro m n e hm hn
  by_cases b:k=1
  ·grind[J5,Tm.ey,Tm.m4,Kh,IZ]
  ·simp only[Tm.ey,b,fL,D4]
   congr 1
   refine qf λy hy=>?_
   grind[dB,Tm.cK]
inductive kh:Tm->Tm->Prop
 |n0 (k i:Int) (s:Ty):kh (.mk k i s []) (.mk k i s [])|n1 (k i:Int) (s:Ty) {a a':Tm}:kh a a'->kh (.mk k i s [a]) (.mk k i s [a'])|n2 (k i:Int) (s:Ty) {a a' b b':Tm}:kh a a'->kh b b'->kh (.mk k i s [a,b]) (.mk k i s [a',b'])|n3 (k i:Int) (s:Ty) {a a' b b' c c':Tm}:kh a a'->kh b b'->kh c c'->kh (.mk k i s [a,b,c]) (.mk k i s [a',b',c'])|beta (i:Int) (s:Ty) (j:Int) (u:Ty) {b b' a a':Tm}:kh b b'->kh a a'->kh (.mk 3 i s [.mk 2 j u [b],a]) (Tm.eG 0 b' a')|IW (i:Int) (s:Ty) (j:Int) (u:Ty) (c:Tm) {b b':Tm}:kh b b'->kh (.mk 6 i s [b,c,.mk 4 j u []]) b'|Kb (i:Int) (s:Ty) (j:Int) (u:Ty) {b b' c c' n n':Tm}:kh b b'->kh c c'->kh n n'->kh (.mk 6 i s [b,c,.mk 5 j u [n]]) (iH c' [n',.mk 6 i s [b',c',n']])|Dn (i:Int) (s:Ty) (j:Int) (u:Ty) (c:Tm) {b b':Tm}:kh b b'->kh (.mk 9 i s [b,c,.mk 7 j u []]) b'|Di (i:Int) (s:Ty) (j:Int) (u:Ty) {b b' c c' n n' t t':Tm}:kh b b'->kh c c'->kh n n'->kh t t'->kh (.mk 9 i s [b,c,.mk 8 j u [n,t]]) (iH c' [n',t',.mk 9 i s [b',c',t']])|fst (i:Int) (s:Ty) (j:Int) (u:Ty) (b:Tm) {a a':Tm}:kh a a'->kh (.mk 11 i s [.mk 10 j u [a,b]]) a'|snd (i:Int) (s:Ty) (j:Int) (u:Ty) (a:Tm) {b b':Tm}:kh b b'->kh (.mk 12 i s [.mk 10 j u [a,b]]) b'
def kh.ok{t u:Tm}(h:kh t u):t.ok=true->u.ok=true:=by
 induction h with
 |n0 k i s=>exact id|n1 k i s _ g=>intro d;exact Tm.uy d rfl (by intro t p;rw[AL] at p;subst p;exact g (Tm.cK d _ aas))
 |n2 k i s _ _ e f=>grind[Tm.uy,Tm.cK]|n3 k i s _ _ _ e f l=>
  intro d;refine Tm.uy d rfl ?_
  grind[Tm.cK]
 |@beta i s j u b m a r _ _ e f=>
  intro d;exact Tm.yp _ (f (Tm.cK d a aas)) _ 0 VW (e (Tm.cK (Tm.cK d (Tm.mk 2 j u [b]) aas) b aas))
 |IW i s j u c _ g=>intro d;exact g (Tm.cK d _ aas)|@Kb i s j u b m c v n n' _ _ _ e f l=>
  intro d;have w:=e (Tm.cK d _ aas);have x:=f (Tm.cK d _ aas);have y:=l (Tm.cK (Tm.cK d (Tm.mk 5 j u [n]) aas) _ aas)
  grind[Bp,Tm.uy]
 |Dn i s j u c _ g=>intro d;exact g (Tm.cK d _ aas)|@Di i s j u b m c v n n' t z _ _ _ _ e f l o=>
  intro d;have w:=e (Tm.cK d _ aas);have x:=f (Tm.cK d _ aas);have q:=Tm.cK d (Tm.mk 8 j u [n,t]) aas;have y:=l (Tm.cK q _ aas);have A:=o (Tm.cK q _ aas)
  grind[Bp,Tm.uy]
 |@fst i s j u b a r _ g=>intro d;exact g (Tm.cK (Tm.cK d (Tm.mk 10 j u [a,b]) aas) a aas)|@snd i s j u a b m _ g=>intro d;exact g (Tm.cK (Tm.cK d (Tm.mk 10 j u [a,b]) aas) b aas)
def up3(f b i:Int)(s:Ty)(l:List Tm):(Tm.mk 3 i s l).up f b=.mk 3 i s (l.map (Tm.up f b)):=pg aaq aaq f b i s l
def up4(f b i:Int)(s:Ty)(l:List Tm):(Tm.mk 4 i s l).up f b=.mk 4 i s (l.map (Tm.up f b)):=pg aaq aaq f b i s l
def up5(f b i:Int)(s:Ty)(l:List Tm):(Tm.mk 5 i s l).up f b=.mk 5 i s (l.map (Tm.up f b)):=pg aaq aaq f b i s l
def up6(f b i:Int)(s:Ty)(l:List Tm):(Tm.mk 6 i s l).up f b=.mk 6 i s (l.map (Tm.up f b)):=pg aaq aaq f b i s l
def up7(f b i:Int)(s:Ty)(l:List Tm):(Tm.mk 7 i s l).up f b=.mk 7 i s (l.map (Tm.up f b)):=pg aaq aaq f b i s l
def up8(f b i:Int)(s:Ty)(l:List Tm):(Tm.mk 8 i s l).up f b=.mk 8 i s (l.map (Tm.up f b)):=pg aaq aaq f b i s l
def up9(f b i:Int)(s:Ty)(l:List Tm):(Tm.mk 9 i s l).up f b=.mk 9 i s (l.map (Tm.up f b)):=pg aaq aaq f b i s l
def aay(f b i:Int)(s:Ty)(l:List Tm):(Tm.mk 10 i s l).up f b=.mk 10 i s (l.map (Tm.up f b)):=pg aaq aaq f b i s l
def XF(f b i:Int)(s:Ty)(l:List Tm):(Tm.mk 11 i s l).up f b=.mk 11 i s (l.map (Tm.up f b)):=pg aaq aaq f b i s l
def Ww(f b i:Int)(s:Ty)(l:List Tm):(Tm.mk 12 i s l).up f b=.mk 12 i s (l.map (Tm.up f b)):=pg aaq aaq f b i s l
def in3(n i:Int)(a:Tm)(s:Ty)(l:List Tm):Tm.eG n (Tm.mk 3 i s l) a=.mk 3 i s (l.map λx=>Tm.eG n x a):=l5 aaq aaq n i a s l
def in4(n i:Int)(a:Tm)(s:Ty)(l:List Tm):Tm.eG n (Tm.mk 4 i s l) a=.mk 4 i s (l.map λx=>Tm.eG n x a):=l5 aaq aaq n i a s l
def in5(n i:Int)(a:Tm)(s:Ty)(l:List Tm):Tm.eG n (Tm.mk 5 i s l) a=.mk 5 i s (l.map λx=>Tm.eG n x a):=l5 aaq aaq n i a s l
def in6(n i:Int)(a:Tm)(s:Ty)(l:List Tm):Tm.eG n (Tm.mk 6 i s l) a=.mk 6 i s (l.map λx=>Tm.eG n x a):=l5 aaq aaq n i a s l
def in7(n i:Int)(a:Tm)(s:Ty)(l:List Tm):Tm.eG n (Tm.mk 7 i s l) a=.mk 7 i s (l.map λx=>Tm.eG n x a):=l5 aaq aaq n i a s l
def in8(n i:Int)(a:Tm)(s:Ty)(l:List Tm):Tm.eG n (Tm.mk 8 i s l) a=.mk 8 i s (l.map λx=>Tm.eG n x a):=l5 aaq aaq n i a s l
def in9(n i:Int)(a:Tm)(s:Ty)(l:List Tm):Tm.eG n (Tm.mk 9 i s l) a=.mk 9 i s (l.map λx=>Tm.eG n x a):=l5 aaq aaq n i a s l
def aaF(n i:Int)(a:Tm)(s:Ty)(l:List Tm):Tm.eG n (Tm.mk 10 i s l) a=.mk 10 i s (l.map λx=>Tm.eG n x a):=l5 aaq aaq n i a s l
def acx(n i:Int)(a:Tm)(s:Ty)(l:List Tm):Tm.eG n (Tm.mk 11 i s l) a=.mk 11 i s (l.map λx=>Tm.eG n x a):=l5 aaq aaq n i a s l
def acz(n i:Int)(a:Tm)(s:Ty)(l:List Tm):Tm.eG n (Tm.mk 12 i s l) a=.mk 12 i s (l.map λx=>Tm.eG n x a):=l5 aaq aaq n i a s l
def kh.up{t u:Tm}(h:kh t u):t.ok=true->∀f c:Int,0<=f->0<=c->kh (t.up f c) (u.up f c):=by
 induction h with
 |n0 k i s=>intro _ f c _ _;rw[Tm.fD];exact .n0 _ _ _|n1 k i s _ r=>
  intro e f c g p;have z:=gE k;rw[Tm.fD,Tm.fD];exact .n1 _ _ _ (r (Tm.cK e _ aas) _ _ VW p)
 |n2 k i s _ _ l m=>
  intro e f c g p;have z:=gE k;rw[Tm.fD,Tm.fD];exact .n2 _ _ _ (l (Tm.cK e _ aas) _ _ VW p) (m (Tm.cK e _ aas) _ _ VW p)
 |n3 k i s _ _ _ l m q=>
  intro e f c g p;have z:=gE k;rw[Tm.fD,Tm.fD];exact .n3 _ _ _ (l (Tm.cK e _ aas) _ _ VW p) (m (Tm.cK e _ aas) _ _ VW p) (q (Tm.cK e _ aas) _ _ VW p)
 |@beta i s j u b x a A B D l m=>
  intro e f c g p;have v:=Tm.cK e (Tm.mk 2 j u [b]) aas;have w:=Tm.cK v b aas;rw[XZ A x 0 f c (B.ok w) VW g p,Int.sub_zero];simp only[up3,Sh,k_,m7];exact .beta _ _ _ _ (l w _ _ VW p) (m (Tm.cK e _ aas) _ _ g p)
 |IW i s j u c _ r=>
  intro e f d g o;simp only[up6,up4,k_,m7];exact .IW _ _ _ _ _ (r (Tm.cK e _ aas) _ _ g o)
 |@Kb i s j u b x c C n n' _ _ _ l m q=>
  intro e f d g o;have v:=Tm.cK e (Tm.mk 5 j u [n]) aas;simp only[iH,up3,up6,up5,k_,m7];exact .Kb _ _ _ _ (l (Tm.cK e _ aas) _ _ g o) (m (Tm.cK e _ aas) _ _ g o) (q (Tm.cK v _ aas) _ _ g o)
 |Dn i s j u c _ r=>
  intro e f d g o;simp only[up9,up7,k_,m7];exact .Dn _ _ _ _ _ (r (Tm.cK e _ aas) _ _ g o)
 |@Di i s j u b x c C n n' t E _ _ _ _ l m q y=>
  intro e f d g o;have v:=Tm.cK e (Tm.mk 8 j u [n,t]) aas;simp only[iH,up3,up9,up8,k_,m7];exact .Di _ _ _ _ (l (Tm.cK e _ aas) _ _ g o) (m (Tm.cK e _ aas) _ _ g o) (q (Tm.cK v _ aas) _ _ g o) (y (Tm.cK v _ aas) _ _ g o)
 |@fst i s j u b a A _ r=>
  intro e f d g o;simp only[XF,aay,k_,m7];exact .fst _ _ _ _ _ (r (Tm.cK (Tm.cK e (Tm.mk 10 j u [a,b]) aas) _ aas) _ _ g o)
 |@snd i s j u a b x _ r=>
  intro e f d g o;simp only[Ww,aay,k_,m7];exact .snd _ _ _ _ _ (r (Tm.cK (Tm.cK e (Tm.mk 10 j u [a,b]) aas) _ aas) _ _ g o)
def zm{k i:Int}{s:Ty}{a:Tm}{l:List Tm}(h:(Tm.mk k i s (a::l)).ok=true):k≠1:=by grind[J5]
theorem kh.eG{t u:Tm}(h:kh t u){x y:Tm}(q:kh x y)(C:x.ok=true):t.ok=true->∀n:Int,0<=n->kh (Tm.eG n t x) (Tm.eG n u y):=by
 have hy:=q.ok C
 induction h with
 |n0 k i s=>
  intro d n hn;rw[Tm.ey,Tm.ey]
  by_cases w:k=1
  ·rw[bX w,bX w];unfold Tm.m4
   by_cases o:i=n
   ·rw[bX o,bX o];exact q.up C 0 n VW hn
   ·rw[bV o,bV o]
    by_cases z:n<i
    ·rw[bX z];exact .n0 _ _ _
    ·rw[bV z];exact .n0 _ _ _
  ·rw[bV w,bV w];exact .n0 _ _ _
 |n1 k i s _ l=>
  intro d n hn;have D:=gE k;rw[Tm.ey,Tm.ey,bV (zm d),bV (zm d)];exact .n1 _ _ _ (l (Tm.cK d _ aas) _ VW)
 |n2 k i s _ _ e f=>
  intro d n hn;have D:=gE k;rw[Tm.ey,Tm.ey,bV (zm d),bV (zm d)];exact .n2 _ _ _ (e (Tm.cK d _ aas) _ VW) (f (Tm.cK d _ aas) _ VW)
 |n3 k i s _ _ _ e f g=>
  intro d n hn;have D:=gE k;rw[Tm.ey,Tm.ey,bV (zm d),bV (zm d)];exact .n3 _ _ _ (e (Tm.cK d _ aas) _ VW) (f (Tm.cK d _ aas) _ VW) (g (Tm.cK d _ aas) _ VW)
 |@beta i s j u b A a E o z e f=>
  intro d n hn;have p:=Tm.cK d (Tm.mk 2 j u [b]) aas;have r:=Tm.cK p b aas;have v:=Tm.cK d a aas;rw[UM E y (z.ok v) hy A 0 n (o.ok r) VW hn,Int.sub_zero];simp only[in3,Ol,k_,m7];exact .beta _ _ _ _ (e r _ VW) (f v _ hn)
 |IW i s j u c _ l=>
  intro d n hn;simp only[in6,in4,k_,m7];exact .IW _ _ _ _ _ (l (Tm.cK d _ aas) _ hn)
 |@Kb i s j u b A c F n n' _ _ _ e f g=>
  intro d m hm;have p:=Tm.cK d (Tm.mk 5 j u [n]) aas;simp only[iH,in3,in6,in5,k_,m7];exact .Kb _ _ _ _ (e (Tm.cK d _ aas) _ hm) (f (Tm.cK d _ aas) _ hm) (g (Tm.cK p _ aas) _ hm)
 |Dn i s j u c _ l=>
  intro d n hn;simp only[in9,in7,k_,m7];exact .Dn _ _ _ _ _ (l (Tm.cK d _ aas) _ hn)
 |@Di i s j u b A c F n n' t G _ _ _ _ e f g B=>
  intro d m hm;have p:=Tm.cK d (Tm.mk 8 j u [n,t]) aas;simp only[iH,in3,in9,in8,k_,m7];exact .Di _ _ _ _ (e (Tm.cK d _ aas) _ hm) (f (Tm.cK d _ aas) _ hm) (g (Tm.cK p _ aas) _ hm) (B (Tm.cK p _ aas) _ hm)
 |@fst i s j u b a E _ l=>
  intro d n hn;simp only[acx,aaF,k_,m7];exact .fst _ _ _ _ _ (l (Tm.cK (Tm.cK d (Tm.mk 10 j u [a,b]) aas) _ aas) _ hn)
 |@snd i s j u a b A _ l=>
  intro d n hn;simp only[acz,aaF,k_,m7];exact .snd _ _ _ _ _ (l (Tm.cK (Tm.cK d (Tm.mk 10 j u [a,b]) aas) _ aas) _ hn)
def kh.UI{k i:Int}{s:Ty}{v:Tm}(h:kh (.mk k i s []) v):v=.mk k i s []:=by
 generalize a:Tm.mk k i s []=x at h;cases h<;>simp only[Tm.mk.injEq,reduceCtorEq,and_false,Ni,Nw] at a;obtain⟨rfl,rfl,rfl,_⟩:=a;rfl
def kh.inv1{k i:Int}{s:Ty}{a v:Tm}(h:kh (.mk k i s [a]) v)(d:k≠11)(e:k≠12):∃c,v=.mk k i s [c]/\kh a c:=by
 generalize b:Tm.mk k i s [a]=x at h;cases h<;>simp only[Tm.mk.injEq,reduceCtorEq,and_false,Ni,Nw,LC] at b
 ·obtain⟨rfl,rfl,rfl,rfl⟩:=b;exact⟨_,rfl,by assumption⟩
 ·exact absurd b.1 d
 ·exact absurd b.1 e
def kh.inv2{k i:Int}{s:Ty}{a b v:Tm}(h:kh (.mk k i s [a,b]) v)(f:k≠3):∃d e,v=.mk k i s [d,e]/\kh a d/\kh b e:=by
 generalize c:Tm.mk k i s [a,b]=x at h;cases h<;>simp only[Tm.mk.injEq,reduceCtorEq,and_false,Ni,Nw,LC] at c
 ·obtain⟨rfl,rfl,rfl,rfl,rfl⟩:=c;exact⟨_,_,rfl,by assumption,by assumption⟩
 ·exact absurd c.1 f
mutual
def Tm.dev:Tm->Tm
 |.mk k i s l=>if(Tm.mk k i s l).root then(Tm.mk k i s (Tm.Sd l)).dg else .mk k i s (Tm.Sd l)
def Tm.Sd:List Tm->List Tm
 |[]=>[]|t::l=>t.dev::Tm.Sd l
end
def Tm.OW(l:List Tm):Tm.Sd l=l.map Tm.dev:=by
 induction l with
 |nil=>rfl|cons t l a=>simp[Tm.Sd,a]
def Tm.ui{k i:Int}{s:Ty}{l:List Tm}(h:(Tm.mk k i s l).root=true):(Tm.mk k i s l).dev=(Tm.mk k i s (l.map Tm.dev)).dg:=by rw[Tm.dev,Tm.OW,bX h]
def Tm.uW{k i:Int}{s:Ty}{l:List Tm}(h:¬(Tm.mk k i s l).root=true):(Tm.mk k i s l).dev=Tm.mk k i s (l.map Tm.dev):=by rw[Tm.dev,Tm.OW,bV h]
def Pt(i:Int)(s:Ty)(j:Int)(u:Ty)(l:List Tm)(a:Tm):(Tm.mk 3 i s [.mk 2 j u l,a]).root=true:=by simp[Tm.root,Tm.kd]
def Oi(j:Int)(u:Ty)(b:Tm):(Tm.mk 2 j u [b]).dev=.mk 2 j u [b.dev]:=Tm.uW (by simp[Tm.root])
def QQ(j:Int)(u:Ty):(Tm.mk 4 j u []).dev=.mk 4 j u []:=Tm.uW (by simp[Tm.root])
def KF(j:Int)(u:Ty)(b:Tm):(Tm.mk 5 j u [b]).dev=.mk 5 j u [b.dev]:=Tm.uW (by simp[Tm.root])
def Tv(j:Int)(u:Ty):(Tm.mk 7 j u []).dev=.mk 7 j u []:=Tm.uW (by simp[Tm.root])
def Kz(j:Int)(u:Ty)(a b:Tm):(Tm.mk 8 j u [a,b]).dev=.mk 8 j u [a.dev,b.dev]:=Tm.uW (by simp[Tm.root])
def EZ(j:Int)(u:Ty)(a b:Tm):(Tm.mk 10 j u [a,b]).dev=.mk 10 j u [a.dev,b.dev]:=Tm.uW (by simp[Tm.root])
def Lx(i:Int)(s:Ty)(j:Int)(u:Ty)(b a:Tm):(Tm.mk 3 i s [.mk 2 j u [b],a]).dev=Tm.eG 0 b.dev a.dev:=by
 rw[Tm.ui (Pt _ _ _ _ _ _)];simp only[k_,m7,Oi];simp[Tm.dg]
def LJ(i:Int)(s:Ty)(j:Int)(u:Ty)(b c:Tm):(Tm.mk 6 i s [b,c,.mk 4 j u []]).dev=b.dev:=by
 rw[Tm.ui (by simp[Tm.root,Tm.kd])];simp only[k_,m7,QQ];simp[Tm.dg]
def Kq(i:Int)(s:Ty)(j:Int)(u:Ty)(b c n:Tm):(Tm.mk 6 i s [b,c,.mk 5 j u [n]]).dev=iH c.dev [n.dev,.mk 6 i s [b.dev,c.dev,n.dev]]:=by
 rw[Tm.ui (by simp[Tm.root,Tm.kd])];simp only[k_,m7,KF];simp[Tm.dg]
def HQ(i:Int)(s:Ty)(j:Int)(u:Ty)(b c:Tm):(Tm.mk 9 i s [b,c,.mk 7 j u []]).dev=b.dev:=by
 rw[Tm.ui (by simp[Tm.root,Tm.kd])];simp only[k_,m7,Tv];simp[Tm.dg]
def Ib(i:Int)(s:Ty)(j:Int)(u:Ty)(b c n t:Tm):(Tm.mk 9 i s [b,c,.mk 8 j u [n,t]]).dev=iH c.dev [n.dev,t.dev,.mk 9 i s [b.dev,c.dev,t.dev]]:=by
 rw[Tm.ui (by simp[Tm.root,Tm.kd])];simp only[k_,m7,Kz];simp[Tm.dg]
def OL(i:Int)(s:Ty)(j:Int)(u:Ty)(a b:Tm):(Tm.mk 11 i s [.mk 10 j u [a,b]]).dev=a.dev:=by
 rw[Tm.ui (by simp[Tm.root,Tm.kd])];simp only[k_,m7,EZ];simp[Tm.dg]
def OO(i:Int)(s:Ty)(j:Int)(u:Ty)(a b:Tm):(Tm.mk 12 i s [.mk 10 j u [a,b]]).dev=b.dev:=by
 rw[Tm.ui (by simp[Tm.root,Tm.kd])];simp only[k_,m7,EZ];simp[Tm.dg]
def Tm.wq{t:Tm}{k:Int}(h:t.ad'=k):t=.mk k t.aec t.b8 t.aea:=by
 cases t with
 |mk k' i s l=>simp at h;subst h;rfl
def kh.tri{t u:Tm}(h:kh t u):t.ok=true->kh u t.dev:=by
 induction h with
 |n0 k i s=>intro _;rw[Tm.uW (by simp[Tm.root,Tm.kd])];exact .n0 _ _ _|@n1 k i s a H h r=>
  intro g;have m:=Tm.cK g a aas;have r:=r m
  by_cases z:(Tm.mk k i s [a]).root=true
  ·have hk:(k=11\/k=12)/\a.ad'=10:=by
    have A:=Tm.qs g;have W:eS 3=2:=rfl
    have:k≠3:=by rintro rfl;simp at A;omega
    simpa[Tm.root,Tm.kd,this] using z
   obtain⟨hk,B⟩:=hk;rw[Tm.wq B] at h m r|-;obtain⟨p,q,K⟩:=Tm.abf m;rw[K] at h m r|-;obtain⟨L,R,rfl,E,M⟩:=h.inv2 aaq;rw[EZ] at r;obtain⟨N,S,e,C,O⟩:=r.inv2 aaq;simp only[Tm.mk.injEq,Ni,LC,BR] at e;obtain⟨rfl,rfl⟩:=e;rcases hk with rfl|rfl
   ·rw[OL];exact .fst _ _ _ _ _ C
   ·rw[OO];exact .snd _ _ _ _ _ O
  ·rw[Tm.uW z];exact .n1 _ _ _ r
 |@n2 k i s a H b F I T d o=>
  intro g;have m:=Tm.cK g a aas;have d:=d m;have o:=o (Tm.cK g b aas)
  by_cases z:(Tm.mk k i s [a,b]).root=true
  ·have hk:k=3/\a.ad'=2:=by
    have A:=Tm.qs g;have U:eS 11=1:=rfl;have V:eS 12=1:=rfl
    have n1:k≠11:=by rintro rfl;simp at A;omega
    have n2:k≠12:=by rintro rfl;simp at A;omega
    simpa[Tm.root,Tm.kd,n1,n2] using z
   obtain⟨rfl,B⟩:=hk;rw[Tm.wq B] at I m d|-;obtain⟨p,y⟩:=Tm.ok2 m;rw[y] at I m d|-;obtain⟨L,rfl,E⟩:=I.inv1 aaq aaq;rw[Oi] at d;obtain⟨N,e,C⟩:=d.inv1 aaq aaq;simp only[Tm.mk.injEq,Ni,LC,BR] at e;subst e;rw[Lx];exact .beta _ _ _ _ C o
  ·rw[Tm.uW z];exact .n2 _ _ _ d o
 |@n3 k i s a H b F c Q I T v d o f=>
  intro g;have l:=Tm.cK g c aas;have d:=d (Tm.cK g a aas);have o:=o (Tm.cK g b aas);have f:=f l
  by_cases z:(Tm.mk k i s [a,b,c]).root=true
  ·have hk:(k=6/\(c.ad'=4\/c.ad'=5))\/(k=9/\(c.ad'=7\/c.ad'=8)):=by
    have A:=Tm.qs g;have X:eS 3=2:=rfl;have U:eS 11=1:=rfl;have V:eS 12=1:=rfl
    have n0:k≠3:=by rintro rfl;simp at A;omega
    have n1:k≠11:=by rintro rfl;simp at A;omega
    have n2:k≠12:=by rintro rfl;simp at A;omega
    simpa[Tm.root,Tm.kd,n0,n1,n2] using z
   rcases hk with⟨rfl,hk|hk⟩|⟨rfl,hk|hk⟩
   ·rw[Tm.wq hk] at v l f|-;have y:=Tm.ok0 (.inl rfl) l;rw[y] at v l f|-;obtain rfl:=v.UI;rw[LJ];exact .IW _ _ _ _ _ d
   ·rw[Tm.wq hk] at v l f|-;obtain⟨p,y⟩:=Tm.ok5 l;rw[y] at v l f|-;obtain⟨L,rfl,E⟩:=v.inv1 aaq aaq;rw[KF] at f;obtain⟨N,e,C⟩:=f.inv1 aaq aaq;simp only[Tm.mk.injEq,Ni,LC,BR] at e;subst e;rw[Kq];exact .Kb _ _ _ _ d o C
   ·rw[Tm.wq hk] at v l f|-;have y:=Tm.ok0 (.inr rfl) l;rw[y] at v l f|-;obtain rfl:=v.UI;rw[HQ];exact .Dn _ _ _ _ _ d
   ·rw[Tm.wq hk] at v l f|-;obtain⟨p,q,y⟩:=Tm.ok8 l;rw[y] at v l f|-;obtain⟨L,R,rfl,E,M⟩:=v.inv2 aaq;rw[Kz] at f;obtain⟨N,S,e,C,O⟩:=f.inv2 aaq;simp only[Tm.mk.injEq,Ni,LC,BR] at e;obtain⟨rfl,rfl⟩:=e;rw[Ib];exact .Di _ _ _ _ d o C O
  ·rw[Tm.uW z];exact .n3 _ _ _ d o f
 |@beta i s j u b F a H E M w x=>
  intro g;have G:=Tm.cK (Tm.cK g (Tm.mk 2 j u [b]) aas) b aas;have m:=Tm.cK g a aas;rw[Lx];exact(w G).eG (x m) (M.ok m) (E.ok G) 0 VW
 |IW i s j u c _ r=>intro g;rw[LJ];exact r (Tm.cK g _ aas)|@Kb i s j u b F c Q n n' _ _ _ w x D=>
  intro g;have J:=Tm.cK g (Tm.mk 5 j u [n]) aas;have g1:=w (Tm.cK g _ aas);have g2:=x (Tm.cK g _ aas);have g3:=D (Tm.cK J _ aas);rw[Kq];exact .n2 _ _ _ (.n2 _ _ _ g2 g3) (.n3 _ _ _ g1 g2 g3)
 |Dn i s j u c _ r=>intro g;rw[HQ];exact r (Tm.cK g _ aas)|@Di i s j u b F c Q n n' t Y _ _ _ _ w x D P=>
  intro g;have J:=Tm.cK g (Tm.mk 8 j u [n,t]) aas;have g1:=w (Tm.cK g _ aas);have g2:=x (Tm.cK g _ aas);have g3:=D (Tm.cK J _ aas);have g4:=P (Tm.cK J _ aas);rw[Ib];exact .n2 _ _ _ (.n2 _ _ _ (.n2 _ _ _ g2 g3) g4) (.n3 _ _ _ g1 g2 g4)
 |@fst i s j u b a H _ r=>intro g;rw[OL];exact r (Tm.cK (Tm.cK g (Tm.mk 10 j u [a,b]) aas) _ aas)|@snd i s j u a b F _ r=>intro g;rw[OO];exact r (Tm.cK (Tm.cK g (Tm.mk 10 j u [a,b]) aas) _ aas)
inductive oL:Tm->Tm->Prop
 |refl (t:Tm):oL t t|step {t u v:Tm}:kh t u->oL u v->oL t v
def oL.ok{t u:Tm}(h:oL t u):t.ok=true->u.ok=true:=by
 induction h with
 |refl=>exact id|step h _ a=>exactλb=>a (h.ok b)
def oL.trans{t u v:Tm}(h:oL t u)(a:oL u v):oL t v:=by
 induction h with
 |refl=>exact a|step h _ b=>exact .step h (b a)
def oL.strip{t v:Tm}(h:oL t v):∀u,t.ok=true->kh t u->∃w,oL u w/\kh v w:=by
 induction h with
 |refl t=>exactλu _ hu=>⟨u,.refl _,hu⟩|@step t a v c _ d=>
  intro u b hu;obtain⟨w,e,f⟩:=d t.dev (c.ok b) (c.tri b);exact⟨w,.step (hu.tri b) e,f⟩
def oL.meet{t u:Tm}(h:oL t u):∀v,t.ok=true->oL t v->∃w,oL u w/\oL v w:=by
 induction h with
 |refl t=>exactλv _ b=>⟨v,b,.refl _⟩|@step t a u c _ e=>
  intro v d b;obtain⟨w,f,g⟩:=b.strip a d c;obtain⟨z,i,z2⟩:=e w (c.ok d) f;exact⟨z,i,.step g z2⟩
def Ap{k i:Int}{s:Ty}{l:List Tm}(h:(Tm.mk k i s l).nf=true):(Tm.mk k i s l).root=false/\∀a∈l,a.nf=true:=by
 rw[Tm.Lw] at h;simpa using h
def kh.nf{t u:Tm}(h:kh t u):t.nf=true->u=t:=by
 induction h with
 |n0=>intro _;rfl|n1 k i s _ d=>intro hn;rw[d ((Ap hn).2 _ aas)]|n2 k i s _ _ a b=>intro hn;rw[a ((Ap hn).2 _ aas),b ((Ap hn).2 _ aas)]|n3 k i s _ _ _ a b c=>intro hn;rw[a ((Ap hn).2 _ aas),b ((Ap hn).2 _ aas),c ((Ap hn).2 _ aas)]|_=>intro hn;have:=(Ap hn).1;simp[Tm.root,Tm.kd] at this
def oL.nf{t u:Tm}(h:oL t u):t.nf=true->u=t:=by
 induction h with
 |refl=>intro _;rfl|step h _ a=>
  intro hn;have:=h.nf hn;subst this;exact a hn
def oL.unique{t a b:Tm}(c:t.ok=true)(d:oL t a)(e:oL t b)(f:a.nf=true)(g:b.nf=true):a=b:=by
 obtain⟨w,h,i⟩:=d.meet b c e;rw[<-h.nf f,<-i.nf g]
inductive NL:List Tm->List Tm->Prop
 |nil:NL [] []|cons {a b:Tm} {l m:List Tm}:kh a b->NL l m->NL (a::l) (b::m)
def kh.list{k i:Int}{s:Ty}:∀{l m:List Tm},NL l m->l.length<=3->kh (.mk k i s l) (.mk k i s m)
 |_,_,.nil,_=>.n0 _ _ _|_,_,.cons h .nil,_=>.n1 _ _ _ h|_,_,.cons h (.cons a .nil),_=>.n2 _ _ _ h a|_,_,.cons h (.cons a (.cons b .nil)),_=>.n3 _ _ _ h a b|_,_,.cons h (.cons a (.cons b (.cons d _))),c=>by simp at c
def PB(k:Int):eS k<=3:=by unfold eS;repeat' (first|omega|split)
def Tm.SC{k i:Int}{s:Ty}{l:List Tm}(h:(Tm.mk k i s l).ok=true):l.length<=3:=by
 have:=Tm.qs h;have:=PB k;omega
def kh.refl(t:Tm):t.ok=true->kh t t:=by
 induction t using Tm.ind with
 |h k i s l c=>
  intro b
  have d:∀m:List Tm,(∀t∈m,t∈l)->NL m m:=by
   intro m
   induction m with
   |nil=>exactλ_=>.nil|cons t m a=>exactλhm=>.cons (c t (hm t aas) (Tm.cK b t (hm t aas))) (a λu hu=>hm u (by simp[hu]))
  exact kh.list (d l λt h=>h) (Tm.SC b)
def kh.VJ:∀(l:List Tm),(∀t∈l,t.ok=true)->NL l l
 |[],_=>.nil|t::l,h=>.cons (kh.refl t (h t aas)) (kh.VJ l λu hu=>h u (by simp[hu]))
theorem kh.dg{t:Tm}(c:t.ok=true)(g:t.root=true):kh t t.dg:=by
 cases Tm.Fk c g with
 |@app i s j u b a=>
  rw[show(Tm.mk 3 i s [.mk 2 j u [b],a]).dg=Tm.eG 0 b a by simp[Tm.dg]];exact .beta _ _ _ _ (kh.refl b (Tm.cK (Tm.cK c (.mk 2 j u [b]) aas) b aas)) (kh.refl a (Tm.cK c a aas))
 |@zero k l i s j u b st e=>
  have f:=kh.refl b (Tm.cK c b aas);rcases e with⟨rfl,rfl⟩|⟨rfl,rfl⟩
  ·rw[show(Tm.mk 6 i s [b,st,.mk 4 j u []]).dg=b by simp[Tm.dg]];exact .IW _ _ _ _ _ f
  ·rw[show(Tm.mk 9 i s [b,st,.mk 7 j u []]).dg=b by simp[Tm.dg]];exact .Dn _ _ _ _ _ f
 |@succ i s j u b st n=>
  rw[show(Tm.mk 6 i s [b,st,.mk 5 j u [n]]).dg=iH st [n,.mk 6 i s [b,st,n]] by simp[Tm.dg]];exact .Kb _ _ _ _ (kh.refl b (Tm.cK c b aas)) (kh.refl st (Tm.cK c st aas)) (kh.refl n (Tm.cK (Tm.cK c (.mk 5 j u [n]) aas) n aas))
 |@cons i s j u b st h t=>
  have d:=Tm.cK c (.mk 8 j u [h,t]) aas;rw[show(Tm.mk 9 i s [b,st,.mk 8 j u [h,t]]).dg=iH st [h,t,.mk 9 i s [b,st,t]] by simp[Tm.dg]];exact .Di _ _ _ _ (kh.refl b (Tm.cK c b aas)) (kh.refl st (Tm.cK c st aas)) (kh.refl h (Tm.cK d h aas)) (kh.refl t (Tm.cK d t aas))
 |@proj k i s j u a b e=>
  have d:=Tm.cK c (.mk 10 j u [a,b]) aas;rcases e with rfl|rfl
  ·rw[show(Tm.mk 11 i s [.mk 10 j u [a,b]]).dg=a by simp[Tm.dg]];exact .fst _ _ _ _ _ (kh.refl a (Tm.cK d a aas))
  ·rw[show(Tm.mk 12 i s [.mk 10 j u [a,b]]).dg=b by simp[Tm.dg]];exact .snd _ _ _ _ _ (kh.refl b (Tm.cK d b aas))
def kh.F7{r:Int}(t:Tm):∀a,t.ok=true->t.F7 r=some (some a)->kh t a:=by
 induction t using Tm.ind with
 |h k i s l g=>
  intro a c h;rcases j8 h with⟨j,rfl⟩|⟨n,o,rfl⟩
  ·exact kh.dg c j
  ·refine kh.list ?_ (Tm.SC c)
   have key:∀m:List Tm,(∀t∈m,t∈l)->∀d,Tm.qp r m=some (some d)->NL m d:=by
    intro m
    induction m with
    |nil=>intro _ d h;exact(lA h).elim|cons t m f=>
     intro hm d h;have b:=Tm.cK c t (hm t aas);rcases iF h with⟨a,e,rfl⟩|⟨p,e,rfl⟩
     ·exact .cons (g t (hm t aas) a b e) (kh.VJ m λu hu=>Tm.cK c u (hm u (by simp[hu])))
     ·exact .cons (kh.refl t b) (f (λu hu=>hm u (by simp[hu])) p e)
   exact key l (λt h=>h) n o
def Ia:∀(k:Nat) (m:Int) (t a:Tm) (n:Int),t.ok=true->t.norm k m=(a,n,0)->oL t a
 |0,m,t,a,n,b,h=>by
  rw[Tm.norm] at h
  split at h
  ·obtain⟨rfl,_⟩:=fI h;exact .refl _
  ·cases h
 |k+1,m,t,a,n,b,h=>by
  rw[Tm.norm] at h
  split at h
  ·cases h
  ·obtain⟨rfl,_⟩:=fI h;exact .refl _
  ·rename_i c hs;have:=kh.F7 t c b hs;exact .step this (Ia k (m+1) c a n (this.ok b) h)
def WU(x:Tm):Tm.mk x.ad' x.aec (Ty.mk x.b8.ad' x.b8.aea) x.aea=x:=by
 cases x with
 |mk k i s l=>cases s;rfl
def kL{a:Ty}(h:a.aeb<=1000000000):du FU a a=some true:=by
 obtain⟨r,b,c⟩:=u7 FU a a (by rw[cP];exact h) h;rw[b,c.2 rfl]
def ok_eq{t:Ty}(h:t.err=0):r5 t=some (t,0):=by
 unfold r5;rw[kU (by have:=(Ty.fV h).2;omega),h];rfl
def dd{t:Ty}(h:t.err=0):t.aeb<=64:=by have:=(Ty.fV h).2;omega
inductive TL (n:Nat) (g:List Ty):List Tm->List Ty->Prop
 |nil:TL n g [] []|cons {a:Tm} {t:Ty} {l:List Tm} {ts:List Ty}:dw n g a=some (t,0)->TL n g l ts->TL n g (a::l) (t::ts)
def mQ{n:Nat}{g:List Ty}:∀{l:List Tm} {ts:List Ty} (i:Nat) (v:List Ty),TL n g l ts->v.length+l.length<=1000->cY (λ(e:Int) (d:Tm)=>(λ(a:List Ty)=>
   b7 (dw n g d) λb c=>
   if(cF c 0) then(
   some (dP.ret ((Ty.mk 0 []),c)))
   else(eB (dZ a [b])<|some (.next (eA a [b])))):Int->Tm->((List Ty))->(Option (dP ((List Ty)) (Ty×Int)))) l i v=some (.inl (v++ts))
 |_,_,i,v,.nil,_=>by simp|_,_,i,v,.cons h f,j=>by
  simp only[j0] at j;rw[cO];simp only[h,bW];rw[bV aaq,de aaQ];simp only[b9,bT,cU];rw[mQ (i+1) _ f (by rw[eP];simp;omega),eP];simp
def R8{g:List Ty}{x:Tm}{t:Ty}(h:cJ g x t):(∀s∈g,s.err=0)->t.err=0/\∀n:Nat,x.aeb<=n->g.length+x.aeb<=1000000->dw n g x=some (t,0):=by
 induction h with
 |@var g t i w A=>
  intro hg;have y:=hg t (Bh A);refine⟨y,λn hn e=>?_⟩;rw[Tm.bY] at hn;obtain⟨n,rfl⟩:∃m,n=m+1:=⟨n-1,VW⟩;rw[Tm.bY] at e;rw[dw,bX abC,bV (by simp only[Tm.dQ,fN,dI];omega)];simp only[Tm.dQ,dI];rw[ds (a:=(g.length:Int)) VW VW,ds VW VW]
  have:cr g ((g.length:Int)-1-(i:Int))=some t:=by
   unfold cr;rw[bX VW,<-A]
   congr 1
   omega
  rw[this];simp only[bT];rw[gI (by have:=dd y;omega)];rfl
 |@lam g s b t w _ j=>
  intro hg;have hs:=(Ty.qd (.inr rfl) w).1;have z:=(Ty.qd (.inr rfl) w).2
  obtain⟨_,j⟩:=j (by
   intro u hu;rcases qO.1 hu with h|h
   ·exact hg u h
   ·rw[AL] at h;rw[h];exact hs)
  refine⟨w,λn hn e=>?_⟩;rw[Tm.bY] at hn e;simp only[cm] at hn e;obtain⟨n,rfl⟩:∃m,n=m+1:=⟨n-1,VW⟩;rw[dw,bV aas,bX abC];simp only[Tm.cQ,Tm.ck,cD,gf,bT,eP];rw[de aaQ,b9,j n VW aaQ];simp only[bW];rw[bV aaq,gC (by have:=dd hs;omega) (by have:=dd z;omega)];simp only[bT];rw[ok_eq w];rfl
 |@app g f a s t _ _ c d=>
  intro hg;obtain⟨q,c⟩:=c hg;obtain⟨r,d⟩:=d hg;have z:=(Ty.qd (.inr rfl) q).2;refine⟨z,λn hn e=>?_⟩;rw[Tm.bY] at hn e;simp only[cm] at hn e;obtain⟨n,rfl⟩:∃m,n=m+1:=⟨n-1,VW⟩;have o:=mQ (n:=n) (g:=g) (l:=[f,a]) 0 [] (.cons (c n VW VW) (.cons (d n VW VW) .nil)) aas;rw[dw,bV aas,bV aas];simp only[cg,Tm.ck,ch (l:=[f,a]) aas,b9];rw[o];simp only[bT,ca,ed,eQ];rw[bX abC];simp only[m6,cD,dV,gf,kW,bT];rw[bV (by simp[Ty.fn,cF]),show(Ty.fn s t).aea[0]?=some s from rfl];simp only[bT];rw[kL (by have:=dd r;omega)];simp only[bT];rw[bV aaq,show(Ty.fn s t).aea[1]?=some t from rfl];rfl
 |zero=>
  intro hg;refine⟨Ty.fC,λn hn e=>?_⟩;rw[Tm.bY] at hn;obtain⟨n,rfl⟩:∃m,n=m+1:=⟨n-1,VW⟩;rfl
 |@succ g a _ j=>
  intro hg;obtain⟨q,j⟩:=j hg;refine⟨Ty.fC,λn hn e=>?_⟩;rw[Tm.bY] at hn e;simp only[cm] at hn e;obtain⟨n,rfl⟩:∃m,n=m+1:=⟨n-1,VW⟩;have o:=mQ (n:=n) (g:=g) (l:=[a]) 0 [] (.cons (j n VW VW) .nil) aas;rw[dw,bV aas,bV aas];simp only[cg,Tm.ck,ch (l:=[a]) aas,b9];rw[o];simp only[bT,ca,ed,eQ];rw[bV aas,bV aas,bX abC];simp only[m6,cD,gf,bT];rw[kL (by rw[Ty.gk];omega)];rfl
 |@r9 g t b s k v _ _ _ c d p=>
  intro hg;obtain⟨q,c⟩:=c hg;obtain⟨r,d⟩:=d hg;obtain⟨B,p⟩:=p hg;refine⟨v,λn hn e=>?_⟩;rw[Tm.bY] at hn e;simp only[cm] at hn e;obtain⟨n,rfl⟩:∃m,n=m+1:=⟨n-1,VW⟩;have z:=dd v;have o:=mQ (n:=n) (g:=g) (l:=[b,s,k]) 0 [] (.cons (c n VW VW) (.cons (d n VW VW) (.cons (p n VW VW) .nil))) aas;rw[dw,bV aas,bV aas];simp only[cg,Tm.ck,ch (l:=[b,s,k]) aas,b9];rw[o];simp only[bT,ca,ed,eQ];rw[bV aas,bV aas,bV aas,bX abC];simp only[m6,cD,dV,gP,gf,kW,bT,Tm.cQ];rw[kL VW];simp only[bT,if_true];rw[gC VW VW];simp only[bT];rw[gC (by rw[Ty.gk];omega) (by rw[Ty.ie];omega)];simp only[bT];rw[kL (by have:=dd r;omega)];simp only[bT,if_true];rw[kL (by rw[Ty.gk];omega)];simp only[bT];rw[bV aaq,gI VW];rfl
 |nil=>
  intro hg;refine⟨Ty.nF,λn hn e=>?_⟩;rw[Tm.bY] at hn;obtain⟨n,rfl⟩:∃m,n=m+1:=⟨n-1,VW⟩;rfl
 |@cons g a b _ _ c d=>
  intro hg;obtain⟨q,c⟩:=c hg;obtain⟨r,d⟩:=d hg;refine⟨Ty.nF,λn hn e=>?_⟩;rw[Tm.bY] at hn e;simp only[cm] at hn e;obtain⟨n,rfl⟩:∃m,n=m+1:=⟨n-1,VW⟩;have o:=mQ (n:=n) (g:=g) (l:=[a,b]) 0 [] (.cons (c n VW VW) (.cons (d n VW VW) .nil)) aas;rw[dw,bV aas,bV aas];simp only[cg,Tm.ck,ch (l:=[a,b]) aas,b9];rw[o];simp only[bT,ca,ed,eQ];rw[bV aas,bV aas,bV aas,bV aas,bV aas,bX abC];simp only[m6,cD,dV,gf,kW,bT];rw[kL (by rw[Ty.gk];omega)];simp only[bT,if_true];rw[kL (by rw[Ty.nt];omega)];rfl
 |@fold g t b s k v _ _ _ c d p=>
  intro hg;obtain⟨q,c⟩:=c hg;obtain⟨r,d⟩:=d hg;obtain⟨B,p⟩:=p hg;refine⟨v,λn hn e=>?_⟩;rw[Tm.bY] at hn e;simp only[cm] at hn e;obtain⟨n,rfl⟩:∃m,n=m+1:=⟨n-1,VW⟩;have z:=dd v;have o:=mQ (n:=n) (g:=g) (l:=[b,s,k]) 0 [] (.cons (c n VW VW) (.cons (d n VW VW) (.cons (p n VW VW) .nil))) aas;rw[dw,bV aas,bV aas];simp only[cg,Tm.ck,ch (l:=[b,s,k]) aas,b9];rw[o];simp only[bT,ca,ed,eQ];rw[bV aas,bV aas,bV aas,bV aas,bV aas,bV aas,bX abC];simp only[m6,cD,dV,gP,gf,kW,bT,Tm.cQ];rw[kL VW];simp only[bT,if_true];rw[gC VW VW];simp only[bT];rw[gC (by rw[Ty.nt];omega) (by rw[Ty.ie];omega)];simp only[bT];rw[gC (by rw[Ty.gk];omega) (by rw[Ty.ie,Ty.ie,Ty.nt];omega)];simp only[bT];rw[kL (by have:=dd r;omega)];simp only[bT,if_true];rw[kL (by rw[Ty.nt];omega)];simp only[bT];rw[bV aaq,gI VW];rfl
 |@pair g a b s t v _ _ c d=>
  intro hg;obtain⟨q,c⟩:=c hg;obtain⟨r,d⟩:=d hg;refine⟨v,λn hn e=>?_⟩;rw[Tm.bY] at hn e;simp only[cm] at hn e;obtain⟨n,rfl⟩:∃m,n=m+1:=⟨n-1,VW⟩;have o:=mQ (n:=n) (g:=g) (l:=[a,b]) 0 [] (.cons (c n VW VW) (.cons (d n VW VW) .nil)) aas;rw[dw,bV aas,bV aas];simp only[cg,Tm.ck,ch (l:=[a,b]) aas,b9];rw[o];simp only[bT,ca,ed,eQ];rw[bV aas,bV aas,bV aas,bV aas,bV aas,bV aas,bV aas,bX abC];simp only[m6,cD,dV,gf,kW,bT];rw[wL (by have:=dd q;omega) (by have:=dd r;omega)];simp only[bT];rw[ok_eq v];rfl
 |@fst g a s t _ j=>
  intro hg;obtain⟨q,j⟩:=j hg;refine⟨(Ty.qd (.inl rfl) q).1,λn hn e=>?_⟩;rw[Tm.bY] at hn e;simp only[cm] at hn e;obtain⟨n,rfl⟩:∃m,n=m+1:=⟨n-1,VW⟩;have o:=mQ (n:=n) (g:=g) (l:=[a]) 0 [] (.cons (j n VW VW) .nil) aas;rw[dw,bV aas,bV aas];simp only[cg,Tm.ck,ch (l:=[a]) aas,b9];rw[o];simp only[bT,ca,ed,eQ];rw[bV aas,bV aas,bV aas,bV aas,bV aas,bV aas,bV aas,bV aas,bX abC];simp only[m6,cD,gf,bT];rw[bV (by simp[Ty.pr,cF]),bX abC,show(Ty.pr s t).aea[0]?=some s from rfl];rfl
 |@snd g a s t _ j=>
  intro hg;obtain⟨q,j⟩:=j hg;refine⟨(Ty.qd (.inl rfl) q).2,λn hn e=>?_⟩;rw[Tm.bY] at hn e;simp only[cm] at hn e;obtain⟨n,rfl⟩:∃m,n=m+1:=⟨n-1,VW⟩;have o:=mQ (n:=n) (g:=g) (l:=[a]) 0 [] (.cons (j n VW VW) .nil) aas;rw[dw,bV aas,bV aas];simp only[cg,Tm.ck,ch (l:=[a]) aas,b9];rw[o];simp only[bT,ca,ed,eQ];rw[bV aas,bV aas,bV aas,bV aas,bV aas,bV aas,bV aas,bV aas,bX abC];simp only[m6,cD,gf,bT];rw[bV (by simp[Ty.pr,cF]),bV aas,show cr (Ty.pr s t).aea 1=some t from rfl];rfl
 |unit=>
  intro hg;refine⟨Ty.Gp,λn hn e=>?_⟩;rw[Tm.bY] at hn;obtain⟨n,rfl⟩:∃m,n=m+1:=⟨n-1,VW⟩;rfl
def Tm.lC{p:Tm->Prop}(var:∀i:Nat,p (.mk 1 i .z []))(lam:∀s b,s.err=0->b.ok=true->p (.mk 2 0 s [b]))(app:∀a b,a.ok=true->b.ok=true->p (.mk 3 0 .z [a,b]))
  (zero:p (.mk 4 0 .z [])) (succ:∀a,a.ok=true->p (.mk 5 0 .z [a])) (r9:∀s a b c,s.err=0->a.ok=true->b.ok=true->c.ok=true->p (.mk 6 0 s [a,b,c])) (nil:p (.mk 7 0 .z []))
  (cons:∀a b,a.ok=true->b.ok=true->p (.mk 8 0 .z [a,b])) (fold:∀s a b c,s.err=0->a.ok=true->b.ok=true->c.ok=true->p (.mk 9 0 s [a,b,c])) (pair:∀a b,a.ok=true->b.ok=true->p (.mk 10 0 .z [a,b]))
  (fst:∀a,a.ok=true->p (.mk 11 0 .z [a])) (snd:∀a,a.ok=true->p (.mk 12 0 .z [a])) (unit:p (.mk 13 0 .z [])) (t:Tm) (h:t.ok=true):p t:=by
 cases t with
 |mk k i s l=>
  obtain⟨_,hi,d,g,hn⟩:=Tm.jz h
  have hs:if hB k then s.err=0 else s=.z:=by
   rw[Tm.ei] at h;simp only[Tm.node,eg] at h;have:=h.1.2
   split at this
   ·rename_i e;rw[bX e];simpa using this
   ·rename_i e;rw[bV e];exact(Ty.i_ s).1 this
  have n:∀{l:List Tm},(l.length:Int)=0->l=[]:=λh=>ek.1 h;unfold eS at hn
  split at hn
  ·rename_i e;obtain rfl:=ek.1 hn;rcases e with rfl|rfl|rfl|rfl
   ·rw[bV aaq] at hs;subst hs;obtain⟨j,rfl⟩:∃j:Nat,i=(j:Int):=⟨i.toNat,VW⟩;exact var j
   ·rw[bV aaq] at hs;subst hs;obtain rfl:=d aaq;exact zero
   ·rw[bV aaq] at hs;subst hs;obtain rfl:=d aaq;exact nil
   ·rw[bV aaq] at hs;subst hs;obtain rfl:=d aaq;exact unit
  ·split at hn
   ·rename_i e;obtain⟨a,rfl⟩:=hV hn;have f:=g a aas;rcases e with rfl|rfl|rfl|rfl
    ·rw[bX aaq] at hs;obtain rfl:=d aaq;exact lam s a hs f
    ·rw[bV aaq] at hs;subst hs;obtain rfl:=d aaq;exact succ a f
    ·rw[bV aaq] at hs;subst hs;obtain rfl:=d aaq;exact fst a f
    ·rw[bV aaq] at hs;subst hs;obtain rfl:=d aaq;exact snd a f
   ·split at hn
    ·rename_i e;obtain⟨a,b,rfl⟩:=oz hn;have f:=g a aas;have m:=g b aas;rcases e with rfl|rfl|rfl
     ·rw[bV aaq] at hs;subst hs;obtain rfl:=d aaq;exact app a b f m
     ·rw[bV aaq] at hs;subst hs;obtain rfl:=d aaq;exact cons a b f m
     ·rw[bV aaq] at hs;subst hs;obtain rfl:=d aaq;exact pair a b f m
    ·split at hn
     ·rename_i e
      obtain⟨a,b,c,rfl⟩:∃a b c,l=[a,b,c]:=by
       match l,hn with
       |[a,b,c],_=>exact⟨a,b,c,rfl⟩|[],h|[_],h|[_,_],h=>simp at h
       |_::_::_::_::_,h=>simp at h;omega
      have f:=g a aas;have m:=g b aas;have o:=g c aas;rcases e with rfl|rfl
      ·rw[bX aaq] at hs;obtain rfl:=d aaq;exact r9 s a b c hs f m o
      ·rw[bX aaq] at hs;obtain rfl:=d aaq;exact fold s a b c hs f m o
     ·omega
open Classical in
noncomputable def fF (k:Int) (s:Ty) (l:List Ty):Ty×Int:=
 if k=3 then(if(l.getD 0 .z).ad'=4/\(l.getD 0 .z).aea.getD 0 .z=l.getD 1 .z then((l.getD 0 .z).aea.getD 1 .z,0)else(.z,7))
 else if k=4 then(.nat,0)
 else if k=5 then(if l.getD 0 .z=.nat then(.nat,0)else(.z,7))
 else if k=6 then(if l.getD 0 .z=s/\l.getD 1 .z=.fn .nat (.fn s s)/\l.getD 2 .z=.nat then(s,0)else(.z,7))
 else if k=7 then(.lV,0)
 else if k=8 then(if l.getD 0 .z=.nat/\l.getD 1 .z=.lV then(.lV,0)else(.z,7))
 else if k=9 then(if l.getD 0 .z=s/\l.getD 1 .z=.fn .nat (.fn .lV (.fn s s))/\l.getD 2 .z=.lV then(s,0)else(.z,7))
 else if k=10 then(if 64<1+(l.getD 0 .z).aeb+(l.getD 1 .z).aeb then(.z,4)else(.pr (l.getD 0 .z) (l.getD 1 .z),0))
 else if k=11 then(if(l.getD 0 .z).ad'=3 then((l.getD 0 .z).aea.getD 0 .z,0)else(.z,7))
 else if k=12 then(if(l.getD 0 .z).ad'=3 then((l.getD 0 .z).aea.getD 1 .z,0)else(.z,7))
 else(.unit,0)
def KS(s:Ty)(r:Ty×Int):Ty×Int:=if r.2≠0 then(.z,r.2)else if 64<1+s.aeb+r.1.aeb then(.z,4)else(.fn s r.1,0)
def tH(f:List Ty->Ty×Int):List Ty⊕Int->Ty×Int
 |.inl l=>f l|.inr e=>(.z,e)
def ME(r:Ty×Int)(o:List Ty⊕Int):List Ty⊕Int:=if r.2≠0 then .inr r.2 else match o with|.inl l=>.inl (r.1::l)|.inr e=>.inr e
mutual
noncomputable def Tm.ty:Tm->List Ty->Ty×Int
 |.mk k i s l,g=>if k=1 then(if i<(g.length:Int)then(g.getD (g.length-1-i.toNat) .z,0)else(.z,6))else if k=2 then KS s (Tm.tyH l (g++[s]))else tH (fF k s) (Tm.td l g)
noncomputable def Tm.tyH:List Tm->List Ty->Ty×Int
 |[],_=>(.z,0)|t::_,g=>t.ty g
noncomputable def Tm.td:List Tm->List Ty->List Ty⊕Int
 |[],_=>.inl []|t::l,g=>ME (t.ty g) (Tm.td l g)
end
def Tm.lE(k i:Int)(s:Ty)(l:List Tm)(g:List Ty):(Tm.mk k i s l).ty g=if k=1 then(if i<(g.length:Int)then(g.getD (g.length-1-i.toNat) .z,0)else(.z,6))else if k=2 then KS s (Tm.tyH l (g++[s]))else tH (fF k s) (Tm.td l g):=by rw[Tm.ty]
def gd(g:List Ty):Prop:=∀s∈g,s.err=0
def gd.app{g:List Ty}{s:Ty}(h:gd g)(hs:s.err=0):gd (g++[s]):=by
 intro u hu;rcases qO.1 hu with h'|h'
 ·exact h u h'
 ·grind
def JT{t:Ty}(h:t.err=0)(c:t.ad'=4):∃a b,t=.fn a b/\a.err=0/\b.err=0:=by
 rcases Ty.pH h with rfl|rfl|rfl|⟨a,b,rfl,_,_⟩|h
 ·cases c
 ·cases c
 ·cases c
 ·cases c
 ·exact h
def y_{t:Ty}(h:t.err=0)(c:t.ad'=3):∃a b,t=.pr a b/\a.err=0/\b.err=0:=by
 rcases Ty.pH h with rfl|rfl|rfl|h|⟨a,b,rfl,_,_⟩
 ·cases c
 ·cases c
 ·cases c
 ·exact h
 ·cases c
def tS{t:Ty}(h:t.err=0):t.ad'=1↔t=.nat:=by
 rcases Ty.pH h with rfl|rfl|rfl|⟨a,b,rfl,_,_⟩|⟨a,b,rfl,_,_⟩
 ·exact⟨λ_=>rfl,λ_=>rfl⟩
 all_goals exact⟨λh=>(by cases h),λh=>(by cases h)⟩
def BS{t:Ty}(h:t.err=0):t.ad'=2↔t=.lV:=by
 rcases Ty.pH h with rfl|rfl|rfl|⟨a,b,rfl,_,_⟩|⟨a,b,rfl,_,_⟩
 ·exact⟨λh=>(by cases h),λh=>(by cases h)⟩
 ·exact⟨λ_=>rfl,λ_=>rfl⟩
 all_goals exact⟨λh=>(by cases h),λh=>(by cases h)⟩
theorem oO{r:Ty×Int}{o:List Ty⊕Int}(h:r.2≠0):ME r o=.inr r.2:=bX h
theorem ox{r:Ty×Int}{o:List Ty⊕Int}(h:r.2=0):ME r o=match o with|.inl l=>.inl (r.1::l)|.inr e=>.inr e:=bV VW
theorem rn{f:List Ty->Ty×Int}{e:Int}{r:Ty}(h:tH f (.inr e)=(r,0)):e=0:=(fI h).2
def xK{a:Tm}{g:List Ty}(h:(a.ty g).2=0):a.ty g=((a.ty g).1,0):=Prod.ext rfl h
def MD{a:Tm}{g:List Ty}{f:List Ty->Ty×Int}{r:Ty}(h:tH f (Tm.td [a] g)=(r,0)):∃s,a.ty g=(s,0)/\f [s]=(r,0):=by
 rw[Tm.td] at h
 by_cases b:(a.ty g).2=0
 ·rw[ox b] at h;exact⟨_,xK b,h⟩
 ·grind[oO,rn]
def M5{a b:Tm}{g:List Ty}{f:List Ty->Ty×Int}{r:Ty}(h:tH f (Tm.td [a,b] g)=(r,0)):∃s t,a.ty g=(s,0)/\b.ty g=(t,0)/\f [s,t]=(r,0):=by
 rw[Tm.td,Tm.td,Tm.td] at h
 by_cases c:(a.ty g).2=0
 ·rw[ox c] at h
  by_cases d:(b.ty g).2=0
  ·rw[ox d] at h;exact⟨_,_,xK c,xK d,h⟩
  ·grind[oO,rn]
 ·grind[oO,rn]
def LI{a b c:Tm}{g:List Ty}{f:List Ty->Ty×Int}{r:Ty}(h:tH f (Tm.td [a,b,c] g)=(r,0)):∃s t u,a.ty g=(s,0)/\b.ty g=(t,0)/\c.ty g=(u,0)/\f [s,t,u]=(r,0):=by
 rw[Tm.td,Tm.td,Tm.td,Tm.td] at h
 by_cases d:(a.ty g).2=0
 ·rw[ox d] at h
  by_cases e:(b.ty g).2=0
  ·rw[ox e] at h
   by_cases i:(c.ty g).2=0
   ·rw[ox i] at h;exact⟨_,_,_,xK d,xK e,xK i,h⟩
   ·grind[oO,rn]
  ·rw[oO e] at h;exact absurd (rn h) e
 ·rw[oO d] at h;exact absurd (rn h) d
def pq:∀(n:Nat) (t:Tm),t.aeb<=n->t.ok=true->∀g,gd g->∀s,t.ty g=(s,0)->cJ g t s/\s.err=0:=by
 intro n
 induction n with
 |zero=>intro t h;have:=t.cw;omega
 |succ n k=>
  intro t hn E;refine Tm.lC (p:=λt=>t.aeb<=n+1->∀g,gd g->∀s,t.ty g=(s,0)->cJ g t s/\s.err=0) ?_ ?_ ?_ ?_ ?_ ?_ ?_ ?_ ?_ ?_ ?_ ?_ ?_ t E hn
  ·intro i _ g hg s h;rw[Tm.lE,bX rfl] at h
   split at h
   ·rename_i hi
    have u:g.length-1-(i:Int).toNat<g.length:=VW
    have e:g[g.length-1-i]?=some s:=by
     have f:=(fI h).1;rw[P_,AM] at f;rw[AM] at u;rw[mi u] at f|-;simpa using f
    exact⟨.var i VW e,hg s (Bh e)⟩
   ·have:=(fI h).2;omega
  ·intro s b hs m hn g hg r h;rw[Tm.bY] at hn;simp only[cm] at hn;rw[Tm.lE,bV aaq,bX rfl,Tm.tyH] at h;unfold KS at h
   split at h
   ·rename_i w;exact absurd (fI h).2 w
   ·rename_i w
    split at h
    ·have:=(fI h).2;omega
    ·rename_i f;obtain⟨o,d⟩:=k b VW m (g++[s]) (hg.app hs) _ (xK (by simpa using w));have he:=Ty.xf hs d VW;obtain rfl:=(fI h).1;exact⟨.lam he o,he⟩
  ·intro a b l m hn g hg r h;rw[Tm.bY] at hn;simp only[cm] at hn;rw[Tm.lE,bV aaq,bV aaq] at h;obtain⟨s,t,f,o,d⟩:=M5 h;obtain⟨a1,a2⟩:=k a VW l g hg _ f;obtain⟨q,v⟩:=k b VW m g hg _ o;simp only[fF,if_true,qK,AK] at d
   split at d
   ·rename_i j;obtain⟨x,y,rfl,A,hy⟩:=JT a2 j.1;have F:x=t:=j.2;obtain rfl:=(fI d).1;subst F;exact⟨.app a1 q,hy⟩
   ·have:=(fI d).2;omega
  ·intro hn g hg r h;rw[Tm.lE,bV aaq,bV aaq,Tm.td] at h;simp only[tH,fF,reduceIte,Int.reduceEq] at h;obtain rfl:=(fI h).1;exact⟨.zero,Ty.fC⟩
  ·intro a l hn g hg r h;rw[Tm.bY] at hn;simp only[cm] at hn;rw[Tm.lE,bV aaq,bV aaq] at h;obtain⟨s,f,d⟩:=MD h;obtain⟨a1,a2⟩:=k a VW l g hg _ f;simp only[fF,reduceIte,Int.reduceEq,qK] at d
   split at d
   ·rename_i j;subst j;obtain rfl:=(fI d).1;exact⟨.succ a1,Ty.fC⟩
   ·have:=(fI d).2;omega
  ·intro s a b c hs l m B hn g hg r h;rw[Tm.bY] at hn;simp only[cm] at hn;rw[Tm.lE,bV aaq,bV aaq] at h;obtain⟨x,y,z,f,o,C,d⟩:=LI h;obtain⟨a1,a2⟩:=k a VW l g hg _ f;obtain⟨q,v⟩:=k b VW m g hg _ o;obtain⟨D,G⟩:=k c VW B g hg _ C;simp only[fF,reduceIte,Int.reduceEq,qK,AK] at d
   split at d
   ·rename_i j;have j:x=s/\y=.fn .nat (.fn s s)/\z=.nat:=j;obtain⟨rfl,rfl,rfl⟩:=j;obtain rfl:=(fI d).1;exact⟨.r9 hs a1 q D,hs⟩
   ·have:=(fI d).2;omega
  ·intro hn g hg r h;rw[Tm.lE,bV aaq,bV aaq,Tm.td] at h;simp only[tH,fF,reduceIte,Int.reduceEq] at h;obtain rfl:=(fI h).1;exact⟨.nil,Ty.nF⟩
  ·intro a b l m hn g hg r h;rw[Tm.bY] at hn;simp only[cm] at hn;rw[Tm.lE,bV aaq,bV aaq] at h;obtain⟨s,t,f,o,d⟩:=M5 h;obtain⟨a1,a2⟩:=k a VW l g hg _ f;obtain⟨q,v⟩:=k b VW m g hg _ o;simp only[fF,reduceIte,Int.reduceEq,qK,AK] at d
   split at d
   ·rename_i j;obtain⟨rfl,rfl⟩:=j;obtain rfl:=(fI d).1;exact⟨.cons a1 q,Ty.nF⟩
   ·have:=(fI d).2;omega
  ·intro s a b c hs l m B hn g hg r h;rw[Tm.bY] at hn;simp only[cm] at hn;rw[Tm.lE,bV aaq,bV aaq] at h;obtain⟨x,y,z,f,o,C,d⟩:=LI h;obtain⟨a1,a2⟩:=k a VW l g hg _ f;obtain⟨q,v⟩:=k b VW m g hg _ o;obtain⟨D,G⟩:=k c VW B g hg _ C;simp only[fF,reduceIte,Int.reduceEq,qK,AK] at d
   split at d
   ·rename_i j;have j:x=s/\y=.fn .nat (.fn .lV (.fn s s))/\z=.lV:=j;obtain⟨rfl,rfl,rfl⟩:=j;obtain rfl:=(fI d).1;exact⟨.fold hs a1 q D,hs⟩
   ·have:=(fI d).2;omega
  ·intro a b l m hn g hg r h;rw[Tm.bY] at hn;simp only[cm] at hn;rw[Tm.lE,bV aaq,bV aaq] at h;obtain⟨s,t,f,o,d⟩:=M5 h;obtain⟨a1,a2⟩:=k a VW l g hg _ f;obtain⟨q,v⟩:=k b VW m g hg _ o;simp only[fF,reduceIte,Int.reduceEq,qK,AK] at d
   split at d
   ·have:=(fI d).2;omega
   ·rename_i j;have he:=Ty.M0 a2 v VW;obtain rfl:=(fI d).1;exact⟨.pair he a1 q,he⟩
  ·intro a l hn g hg r h;rw[Tm.bY] at hn;simp only[cm] at hn;rw[Tm.lE,bV aaq,bV aaq] at h;obtain⟨s,f,d⟩:=MD h;obtain⟨a1,a2⟩:=k a VW l g hg _ f;simp only[fF,reduceIte,Int.reduceEq,qK] at d
   split at d
   ·rename_i j;obtain⟨x,y,rfl,A,hy⟩:=y_ a2 j;obtain rfl:=(fI d).1;exact⟨.fst a1,A⟩
   ·have:=(fI d).2;omega
  ·intro a l hn g hg r h;rw[Tm.bY] at hn;simp only[cm] at hn;rw[Tm.lE,bV aaq,bV aaq] at h;obtain⟨s,f,d⟩:=MD h;obtain⟨a1,a2⟩:=k a VW l g hg _ f;simp only[fF,reduceIte,Int.reduceEq,qK] at d
   split at d
   ·rename_i j;obtain⟨x,y,rfl,A,hy⟩:=y_ a2 j;obtain rfl:=(fI d).1;exact⟨.snd a1,hy⟩
   ·have:=(fI d).2;omega
  ·intro hn g hg r h;rw[Tm.lE,bV aaq,bV aaq,Tm.td] at h;simp only[tH,fF,reduceIte,Int.reduceEq] at h;obtain rfl:=(fI h).1;exact⟨.unit,Ty.Gp⟩
end Go.dG
