/- Part of the proof of UniformAccepted: plain facts. -/
import Derived.Test.YtijednbpbbddbaaGreatDoorG1
set_option linter.all false
namespace Go.ek
open Go
@[simp] theorem dO(a b:Int):dm a b=true↔a=b:=by simp[dm]
@[simp] theorem cV(a b:Int):dw a b=true↔a≠b:=by simp[dw]
@[simp] theorem gH(a b:Int):pP a b=true↔a<b:=by simp[pP]
@[simp] theorem r'(a b:Int):A8 a b=true↔a<=b:=by simp[A8]
@[simp] theorem ei(a b:Int):nW a b=true↔b<a:=by simp[nW]
@[simp] theorem fC(a b:Int):rZ a b=true↔b<=a:=by simp[rZ]
@[simp] theorem ja(a b:Bool):eH a true b=(a||b):=by cases a<;>rfl
@[simp] theorem kS(a b:Bool):eH a b false=(a&&b):=by cases a<;>rfl
@[simp] theorem Va(a b:Bool):eH a b true=(!a||b):=by cases a<;>rfl
@[simp] theorem Pu(a:Bool):m9 a=!a:=rfl
@[simp] theorem eb{α:Type}(l m:List α):eV l m=l++m:=rfl
@[simp] theorem dz{α:Type}(l:List α):dn l=(l.length:Int):=rfl
theorem e_{α:Type}(l:List α)(i:Nat):df l (i:Int)=l[i]?:=by simp[df]
@[simp] theorem dg{α:Type}(l:List α):df l 0=l[0]?:=by simp[df]
@[simp] theorem ed{α:Type}(l:List α):df l 1=l[1]?:=by simp[df]
@[simp] theorem fU{α:Type}(l:List α):df l 2=l[2]?:=by simp[df]
def xY{α:Type}{l:List α}{i:Int}(b:0<=i)(c:i<l.length):∃x,df l i=some x/\x∈l:=by
 obtain⟨k,rfl⟩:=U9 b
 have a:k<l.length:=VW
 exact⟨l[k],by rw[e_];simp[a],D7 a⟩
def cT{α:Type}{l:List α}(h:l.length<=1000000000):eg l=true:=by unfold eg NS;exact qk VW
def dt{α:Type}{l m:List α}(h:l.length+m.length<=1000000000):eM l m=true:=by unfold eM NS;exact qk VW
def L3{b:Int}(h:b≠0):K0 b=true:=by simp[K0,h]
def zB{n:Int}(a:-9223372036854775808<=n)(b:n<9223372036854775808):IntKind.i64.wrap n=n:=by
 rw[IntKind.wrap_i64];omega
def ds{a b:Int}(c:-9223372036854775808<=a+b)(d:a+b<9223372036854775808):dR .i64 a b=a+b:=zB c d
theorem dF{a b:Int}(c:-9223372036854775808<=a-b)(d:a-b<9223372036854775808):ea .i64 a b=a-b:=zB c d
def ux{a b:Int}(c:-9223372036854775808<=a*b)(d:a*b<9223372036854775808):Oh .i64 a b=a*b:=zB c d
section
variable{α β σ ρ:Type}
def Fz{F:Int->α->σ->Option (eu σ ρ)}(I:σ->Prop):∀(l:List α) (i:Nat) (s:σ),I s->(∀k x s,l[k]?=some x->I s->∃a,F ((i+k:Nat):Int) x s=some (.next a)/\I a)->∃a,dP F l i s=some (.inl a)/\I a
 |[],i,s,hs,_=>⟨s,rfl,hs⟩|x::l,i,s,hs,h=>by
  obtain⟨s1,c,d⟩:=h 0 x s rfl hs;rw[FW] at c;rw[dq,c];simp only[cv,dr];refine Fz I l (i+1) s1 d λk y a e b=>?_;have:=h (k+1) y a (by simpa using e) b;rw[show i+(k+1)=i+1+k by omega] at this;exact this
def B4{F:Int->α->σ->Option (eu σ ρ)}(I:σ->Prop)(Q:ρ->Prop):∀(l:List α) (i:Nat) (s:σ),I s->(∀k x s,l[k]?=some x->I s->(∃a,F ((i+k:Nat):Int) x s=some (.next a)/\I a)\/(∃r,F ((i+k:Nat):Int) x s=some (.ret r)/\Q r))->(∃a,dP F l i s=some (.inl a)/\I a)\/(∃r,dP F l i s=some (.inr r)/\Q r)
 |[],i,s,hs,_=>.inl ⟨s,rfl,hs⟩|x::l,i,s,hs,h=>by
  have e:=h 0 x s rfl hs;rw[FW] at e;rw[dq];rcases e with⟨s1,b,c⟩|⟨r,b,c⟩
  ·rw[b];simp only[cv,dr];refine B4 I Q l (i+1) s1 c λk y a f d=>?_;have:=h (k+1) y a (by simpa using f) d;rw[show i+(k+1)=i+1+k by omega] at this;exact this
  ·rw[b];exact .inr ⟨r,rfl,c⟩
def fy{F:Int->α->List β->Option (eu (List β) ρ)}(g:α->β):∀(l:List α) (i:Nat) (v:List β),v.length+l.length<=1000000000->(∀j x v,x∈l->v.length+1<=1000000000->F j x v=some (.next (v++[g x])))->dP F l i v=some (.inl (v++l.map g))
 |[],i,v,_,_=>by simp|x::l,i,v,a,h=>by
  simp only[hW] at a;rw[dq,h i x v aaB VW];simp only[cv,dr];rw[fy g l (i+1) (v++[g x]) aaP λj y v hy b=>h j y v (by simp[hy]) b];simp
def cU(g:α->Nat):List α->Nat
 |[]=>0|x::l=>g x+cU g l
def c6(g:α->Nat){l:List α}{x:α}(h:x∈l):g x<=cU g l:=by
 induction l with
 |nil=>cases h
 |cons y l a=>
  simp only[cU];rcases iL.1 h with rfl|h
  ·omega
  ·have:=a h;omega
def eG(g:α->Nat)(l:List α)(h:∀x∈l,1<=g x):l.length<=cU g l:=by
 induction l with
 |nil=>simp|cons y l a=>simp only[cU,hW];have:=h y aaB;have:=a λx b=>h x (by simp[b]);omega
def ll{F:Int->α->Int->Option (eu Int ρ)}(g:α->Nat):∀(l:List α) (i v:Nat),v+cU g l<=4611686018427387904->(∀j x (v:Int),x∈l->F j x v=some (.next (dR .i64 v (g x))))->dP F l i (v:Int)=some (.inl ((v+cU g l:Nat):Int))
 |[],i,v,_,_=>by simp[cU]|x::l,i,v,a,h=>by
  simp only[cU] at a|-;rw[dq,h i x v aaB,ds VW VW];simp only[cv,dr];have:=ll g l (i+1) (v+g x) VW λj y v hy=>h j y v (by simp[hy]);rw[show(v:Int)+(g x:Int)=((v+g x:Nat):Int) by omega,this];rw[Nf]
def pH{F:Int->α->Int->Option (eu Int ρ)}(g:α->Nat)(ok:α->Bool)(r:ρ):∀(l:List α) (i v:Nat),v+cU g l<=4611686018427387904->(∀j x (v:Int),x∈l->F j x v=if ok x then some (.next (dR .i64 v (g x)))else some (.ret r))->dP F l i (v:Int)=if l.all ok then some (.inl ((v+cU g l:Nat):Int))else some (.inr r)
 |[],i,v,_,_=>by simp[cU]|x::l,i,v,b,h=>by
  simp only[cU] at b|-;rw[dq,h i x v aaB,ds VW VW];cases a:ok x with
  |false=>simp[a]|true=>
   simp only[if_true,cv,dr,sC,a,uQ];have:=pH g ok r l (i+1) (v+g x) VW λj y v hy=>h j y v (by simp[hy]);rw[show(v:Int)+(g x:Int)=((v+g x:Nat):Int) by omega,this,Nf]
def l5{F:Int->α->Unit->Option (eu Unit ρ)}(ok:α->Bool)(r:ρ):∀(l:List α) (i:Nat),(∀j x,x∈l->F j x ()=if ok x then some (.next ())else some (.ret r))->dP F l i ()=if l.all ok then some (.inl ())else some (.inr r)
 |[],i,_=>by simp|x::l,i,h=>by
  rw[dq,h i x aaB];cases a:ok x with
  |false=>simp[a]|true=>
   simp only[if_true,cv,dr,sC,a,uQ];exact l5 ok r l (i+1) λj y hy=>h j y (by simp[hy])
def eC:List Int->Int
 |[]=>0|e::l=>if e=0 then eC l else e
def hQ{F:Int->α->Unit->Option (eu Unit Int)}(e:α->Int):∀(l:List α) (i:Nat),(∀j x,x∈l->F j x ()=if e x≠0 then some (.ret (e x))else some (.next ()))->dP F l i ()=if eC (l.map e)=0 then some (.inl ())else some (.inr (eC (l.map e)))
 |[],i,_=>by simp[eC]|x::l,i,h=>by
  rw[dq,h i x aaB]
  by_cases he:e x=0
  ·simp only[he,eC,y5,ne_eq,PY,jC,cv,dr,if_true];exact hQ e l (i+1) λj y hy=>h j y (by simp[hy])
  ·simp[he,eC]
def pN(p:α->β->Bool):List α->List β->Bool
 |x::l,y::m=>p x y&&pN p l m|[],[]=>true|_,_=>false
def rn{F:Int->α->Unit->Option (eu Unit Bool)}(p:α->β->Bool)(M:List β):∀(l:List α) (i:Nat) (m:List β),m=M.drop i->l.length=m.length->(∀(k:Nat) x y,x∈l->M[k]?=some y->F (k:Int) x ()=if p x y then some (.next ())else some (.ret false))->dP F l i ()=if pN p l m then some (.inl ())else some (.inr false)
 |[],i,m,_,d,_=>by
  cases m with
  |nil=>simp[pN]|cons y m=>simp at d
 |x::l,i,m,hm,d,h=>by
  cases m with
  |nil=>simp at d
  |cons y m=>
   have c:i<M.length:=by
    rcases tv i M.length with h'|h'
    ·exact h'
    ·rw[H9 h'] at hm;cases hm
   rw[L2 c] at hm;injection hm with f g;rw[dq,h i x y aaB (by simp[c,f])];cases e:p x y with
   |false=>simp[pN,e]|true=>
    simp only[if_true,cv,dr,pN,e,uQ];exact rn p M l (i+1) m g (by simpa using d) λk a b j n=>h k a b (by simp[j]) n
def rK(p:α->α->Bool):∀(l m:List α),(∀x∈l,∀y,p x y=true↔x=y)->(pN p l m=true↔l=m)
 |[],[],_=>by simp[pN]|[],_::_,_=>by simp[pN]|_::_,[],_=>by simp[pN]|x::l,y::m,h=>by simp[pN,h x aaB y,rK p l m λa b=>h a (by simp[b])]
def rJ{F:σ->Option (eu σ ρ)}(I:σ->Prop)(μ:σ->Nat)(Q:σ⊕ρ->Prop)
  (h:∀s,I s->(∃a,F s=some (.next a)/\I a/\μ a<μ s)\/(∃a,F s=some (.vN a)/\Q (.inl a))\/(∃r,F s=some (.ret r)/\Q (.inr r))):∀(n:Nat) (s:σ),I s->μ s<n->∃o,jb F n s=some o/\Q o
 |0,s,_,hn=>by omega|n+1,s,hs,hn=>by
  rw[gb];rcases h s hs with⟨a,b,c,d⟩|⟨a,b,c⟩|⟨r,b,c⟩
  ·rw[b];simp only[cv,dr];exact rJ I μ Q h n a c VW
  ·rw[b];exact⟨_,rfl,c⟩
  ·rw[b];exact⟨_,rfl,c⟩
def Rn{n:Nat}(h:n<1000000000):n<FU:=by rw[dp];exact h
end
end Go.ek
namespace Go.ek
open Go
mutual
def Ty.agl:Ty->Nat
 |.mk _ l=>1+Ty.j2 l
def Ty.j2:List Ty->Nat
 |[]=>0|t::l=>t.agl+Ty.j2 l
end
def Ty.me(l:List Ty):Ty.j2 l=cU Ty.agl l:=by
 induction l with
 |nil=>rfl|cons t l a=>simp[Ty.j2,cU,a]
theorem Ty.cJ(k:Int)(l:List Ty):(Ty.mk k l).agl=1+cU Ty.agl l:=by rw[Ty.agl,Ty.me]
def Ty.db(t:Ty):1<=t.agl:=by cases t;rw[Ty.agl];omega
def Ty.dK(l:List Ty):l.length<=cU Ty.agl l:=eG _ _ λt _=>t.db
def Ty.want(k:Int):Option Nat:=if k=1\/k=2\/k=5 then some 0 else if k=3\/k=4 then some 2 else none
mutual
def Ty.ok:Ty->Bool
 |.mk k l=>decide (Ty.want k=some l.length)&&Ty.Ci l
def Ty.Ci:List Ty->Bool
 |[]=>true|t::l=>t.ok&&Ty.Ci l
end
def Ty.tz(l:List Ty):Ty.Ci l=l.all Ty.ok:=by
 induction l with
 |nil=>rfl|cons t l a=>simp[Ty.Ci,a]
theorem Ty.eD(k:Int)(l:List Ty):(Ty.mk k l).ok=(decide (Ty.want k=some l.length)&&l.all Ty.ok):=by rw[Ty.ok,Ty.tz]
def Ty.err(t:Ty):Int:=if t.ok then(if 64<t.agl then 4 else 0)else 2
def Bm:∀(n:Nat) (t:Ty),t.agl<=n->t.agl<=1000000000->jq n t=some t:=by
 intro n
 induction n with
 |zero=>intro t h;have:=t.db;omega
 |succ n a=>
  intro t h b;cases t with
  |mk k l=>
   rw[Ty.cJ] at h b;have e:=Ty.dK l;rw[jq];simp only[Ty.cZ,Ty.da,cN,cT (l:=l) VW,cL];rw[fy id l 0 [] aaP]
   ·simp
   ·intro j x v c d;have:=c6 Ty.agl c;rw[a x VW VW];simp[dt (l:=v) (m:=[x]) (by simpa using d)]
def fF{t:Ty}(h:t.agl<=1000000000):jq FU t=some t:=Bm FU t (by rw[dp];exact h) h
def wA:∀(n:Nat) (t:Ty),t.agl<=n->t.agl<=1000000000->lR n t=some (if t.ok then((t.agl:Int),true)else(0,false)):=by
 intro n
 induction n with
 |zero=>intro t h;have:=t.db;omega
 |succ n p=>
  intro t h q;cases t with
  |mk k l=>
   rw[Ty.cJ] at h q;have u:=Ty.dK l
   have key:dP (λ(i:Int) (c:Ty) (d:Int)=>cX (lR n c) λe f=>if f then some (eu.next (dR .i64 d e))else some (eu.ret ((0:Int),false))) l 0 1=if l.all Ty.ok then some (.inl ((1+cU Ty.agl l:Nat):Int))else some (.inr (0,false)):=by
    refine pH Ty.agl Ty.ok _ l 0 1 VW ?_;intro j x v r;have:=c6 Ty.agl r;rw[p x VW VW];cases x.ok<;>simp
   rw[lR];simp only[Ty.cZ,Ty.da,cN,cT (l:=l) VW,cL,key,ja,nA,dO,cV,dz,Ty.eD,Ty.cJ,Ty.want]
   by_cases m:k=1\/k=2\/k=5
   ·simp only[m,if_true]
    by_cases b:l=[]
    ·subst b;simp[cU]
    ·have:¬(0=l.length):=by cases l with|nil=>exact absurd rfl b|cons a l=>simp
     have g:(l.length:Int)≠0:=VW
     simp[this,g,b]
   ·simp only[m,jC]
    by_cases b:k=3\/k=4
    ·simp only[b,if_true]
     by_cases g:l.length=2
     ·cases o:l.all Ty.ok<;>simp[g]
     ·have o:(l.length:Int)≠2:=VW
      have s:¬2=l.length:=VW
      simp[o,s]
    ·simp[b]
theorem im{t:Ty}(h:t.agl<=1000000000):je t=some (if t.err=0 then(t.agl:Int)else 0,t.err):=by
 unfold je Ty.err;rw[wA FU t (by rw[dp];exact h) h];cases t.ok with
 |false=>simp|true=>
  by_cases a:64<t.agl
  ·simp[a];omega
  ·simp[a];omega
def tk{t:Ty}(h:t.agl<=1000000000):kL t=some t.err:=by
 unfold kL;rw[im h];rfl
def Ty.mg(t:Ty):Bool:=eH (dm t.agj 0) (dm (dn t.agk) 0) false
theorem Ty.iR(t:Ty):t.mg=true↔t=.mk 0 []:=by
 cases t with
 |mk k l=>unfold Ty.mg;simp
theorem m4(t:Ty):og t=some t.mg:=rfl
def qX(t:Ty):qN t=some t.mg:=rfl
def As:∀(n:Nat) (t:Ty),t.agl<=n->t.agl<=1000000000->pc n t=some t.ok:=by
 intro n
 induction n with
 |zero=>intro t h;have:=t.db;omega
 |succ n m=>
  intro t h o;cases t with
  |mk k l=>
   rw[Ty.cJ] at h o;have r:=Ty.dK l
   have key:dP (λ(f:Int) (c:Ty) (_:Unit)=>cG (pc n c) λd=>if d then some (eu.next ())else some (eu.ret false)) l 0 ()=if l.all Ty.ok then some (.inl ())else some (.inr false):=by
    refine l5 Ty.ok _ l 0 ?_;intro j x p;have:=c6 Ty.agl p;rw[m x VW VW];rfl
   rw[pc];simp only[Ty.cZ,Ty.da,cN,cT (l:=l) VW,cL,key,ja,nA,dO,cV,dz,Ty.eD,Ty.want]
   by_cases g:k=1\/k=2\/k=5
   ·simp only[g,if_true]
    by_cases b:l=[]
    ·subst b;simp
    ·have:¬(0=l.length):=by cases l with|nil=>exact absurd rfl b|cons a l=>simp
     have e:(l.length:Int)≠0:=VW
     simp[this,e,b]
   ·simp only[g,jC]
    by_cases b:k=3\/k=4
    ·simp only[b,if_true]
     by_cases e:l.length=2
     ·cases i:l.all Ty.ok<;>simp[e]
     ·have i:(l.length:Int)≠2:=VW
      have q:¬2=l.length:=VW
      simp[i,q]
    ·simp[b]
def BG:∀(n:Nat) (t:Ty),t.agl<=n->t.agl<=1000000000->q5 n t=some (t.agl:Int):=by
 intro n
 induction n with
 |zero=>intro t h;have:=t.db;omega
 |succ n a=>
  intro t h b;cases t with
  |mk k l=>
   rw[Ty.cJ] at h b;have d:=Ty.dK l;rw[q5];simp only[Ty.cZ,cN,cT (l:=l) VW,cL]
   have key:=ll (ρ:=Int) (F:=λ(j:Int) (x:Ty) (v:Int)=>cG (q5 n x) λy=>some (eu.next (dR .i64 v y))) Ty.agl l 0 1 VW (by
    intro j x v c;have:=c6 Ty.agl c;rw[a x VW VW]
    rfl)
   rw[show(1:Int)=((1:Nat):Int)from rfl,key];simp[Ty.cJ]
def jd{t:Ty}(h:t.agl<=1000000000):iA t=some t.err:=by
 unfold iA Ty.err;rw[As FU t (by rw[dp];exact h) h,BG FU t (by rw[dp];exact h) h];cases t.ok with
 |false=>simp|true=>by_cases a:64<t.agl<;>simp[a]<;>omega
def qP:∀(n:Nat) (a b:Ty),a.agl<=n->a.agl<=1000000000->∃r,eh n a b=some r/\(r=true↔a=b):=by
 intro n
 induction n with
 |zero=>intro t b h;have:=t.db;omega
 |succ n q=>
  intro a b h s;cases a with
  |mk k l=>
  cases b with
  |mk k' m=>
   rw[Ty.cJ] at h s;have u:=Ty.dK l;rw[eh];simp only[Ty.cZ,Ty.da,cN,cT (l:=l) VW,cL,ja,nA,cV,dz]
   by_cases d:k≠k'\/(l.length:Int)≠m.length
   ·rw[cK d];refine⟨false,rfl,?_⟩;simp only[lU,Ea,Ty.mk.injEq,not_and];rintro rfl rfl;simp at d
   ·rw[cI d];simp only[not_or,uC] at d;obtain⟨rfl,hlen⟩:=d
    have c:l.length=m.length:=VW
    let p:Ty->Ty->Bool:=λx y=>(eh n x y).getD false
    have i:∀x∈l,∀y,eh n x y=some (p x y)/\(p x y=true↔x=y):=by
     intro x f y;have:=c6 Ty.agl f;obtain⟨r,o,g⟩:=q x y VW VW
     have e:p x y=r:=by show(eh n x y).getD false=r;rw[o];rfl
     rw[e];exact⟨o,g⟩
    have key:=rn (F:=λ(j:Int) (x:Ty) (_:Unit)=>cG (df m j) λy=>cG (eh n x y) λz=>if z then some (eu.next ())else some (eu.ret false)) p m l 0 m rfl c (by
     intro k x y f hy;rw[e_,hy];simp only[cv];rw[(i x f y).1]
     rfl)
    rw[key];have he:=rK p l m λx f y=>(i x f y).2;cases g:pN p l m with
    |false=>exact⟨false,rfl,by rw[g] at he;simpa using he⟩
    |true=>exact⟨true,rfl,by rw[g] at he;simpa using he⟩
noncomputable def Ty.jO (a b:Ty):Bool:=@decide (a=b) (Classical.propDecidable _)
theorem Ty.iV(a b:Ty):a.jO b=true↔a=b:=by unfold Ty.jO;simp
theorem fv{a b:Ty}(h:a.agl<=1000000000):eh FU a b=some (a.jO b):=by
 obtain⟨r,c,d⟩:=qP FU a b (by rw[dp];exact h) h;rw[c]
 congr 1
 rw[xi,d,Ty.iV]
mutual
def Tm.agl:Tm->Nat
 |.mk _ _ _ l=>1+Tm.j2 l
def Tm.j2:List Tm->Nat
 |[]=>0|t::l=>t.agl+Tm.j2 l
end
def Tm.me(l:List Tm):Tm.j2 l=cU Tm.agl l:=by
 induction l with
 |nil=>rfl|cons t l a=>simp[Tm.j2,cU,a]
theorem Tm.cJ(k i:Int)(s:Ty)(l:List Tm):(Tm.mk k i s l).agl=1+cU Tm.agl l:=by rw[Tm.agl,Tm.me]
def Tm.db(t:Tm):1<=t.agl:=by cases t;rw[Tm.agl];omega
def Tm.dK(l:List Tm):l.length<=cU Tm.agl l:=eG _ _ λt _=>t.db
mutual
def Tm.wt:Tm->Nat
 |.mk _ _ s l=>1+s.agl+Tm.Gt l
def Tm.Gt:List Tm->Nat
 |[]=>0|t::l=>t.wt+Tm.Gt l
end
def Tm.xK(l:List Tm):Tm.Gt l=cU Tm.wt l:=by
 induction l with
 |nil=>rfl|cons t l a=>simp[Tm.Gt,cU,a]
theorem Tm.dC(k i:Int)(s:Ty)(l:List Tm):(Tm.mk k i s l).wt=1+s.agl+cU Tm.wt l:=by rw[Tm.wt,Tm.xK]
def Tm.fO(t:Tm):1<=t.wt:=by cases t;rw[Tm.wt];omega
def Tm.jc(l:List Tm):l.length<=cU Tm.wt l:=eG _ _ λt _=>t.fO
def gP{α:Type}{f g:α->Nat}{l:List α}(h:∀x∈l,f x<=g x):cU f l<=cU g l:=by
 induction l with
 |nil=>simp[cU]|cons x l a=>simp only[cU];have:=h x aaB;have:=a λy hy=>h y (by simp[hy]);omega
def k8{α β:Type}(f:β->Nat)(g:α->β)(l:List α):cU f (l.map g)=cU (λx=>f (g x)) l:=by
 induction l with
 |nil=>rfl|cons x l a=>simp[cU,a]
def l_{α:Type}{f g:α->Nat}{l:List α}(h:∀x∈l,f x=g x):cU f l=cU g l:=by
 induction l with
 |nil=>rfl|cons x l a=>simp[cU,h x aaB,a λy hy=>h y (by simp[hy])]
def yQ{α:Type}(f:α->Nat)(l m:List α):cU f (l++m)=cU f l+cU f m:=by
 induction l with
 |nil=>simp[cU]|cons x l a=>simp[cU,a];omega
def Tm.ind{p:Tm->Prop}(h:∀k i s l,(∀t∈l,p t)->p (.mk k i s l))(t:Tm):p t:=by
 have:∀n (t:Tm),t.agl<=n->p t:=by
  intro n
  induction n with
  |zero=>intro t a;have:=t.db;omega
  |succ n b=>
   intro t a;cases t with
   |mk k i s l=>
    rw[Tm.cJ] at a;exact h k i s l λu hu=>b u (by have:=c6 Tm.agl hu;omega)
 exact this _ t (ig _)
def Tm.fp(t:Tm):t.agl<=t.wt:=by
 induction t using Tm.ind with
 |h k i s l a=>rw[Tm.cJ,Tm.dC];have:=gP a;omega
def gI(k:Int):Bool:=decide (k=2\/k=6\/k=9)
def fm(k:Int):Int:=
 if k=1\/k=4\/k=7\/k=13 then 0 else if k=2\/k=5\/k=11\/k=12 then 1 else if k=3\/k=8\/k=10 then 2 else if k=6\/k=9 then 3 else-1
def Tm.node(k i:Int)(s:Ty)(n:Nat):Bool:=
 decide ((n:Int)=fm k)&&decide (0<=i)&&(decide (k=1)||decide (i=0))&&(if gI k then decide (s.err=0)else s.mg)
mutual
def Tm.ok:Tm->Bool
 |.mk k i s l=>Tm.node k i s l.length&&Tm.Ci l
def Tm.Ci:List Tm->Bool
 |[]=>true|t::l=>t.ok&&Tm.Ci l
end
def Tm.tz(l:List Tm):Tm.Ci l=l.all Tm.ok:=by
 induction l with
 |nil=>rfl|cons t l a=>simp[Tm.Ci,a]
theorem Tm.eD(k i:Int)(s:Ty)(l:List Tm):(Tm.mk k i s l).ok=(Tm.node k i s l.length&&l.all Tm.ok):=by rw[Tm.ok,Tm.tz]
def Tm.err(t:Tm):Int:=if t.ok then(if 4096<t.agl then 4 else 0)else 2
def Bs:∀(n:Nat) (t:Tm),t.wt<=n->t.wt<=1000000000->j8 n t=some t:=by
 intro n
 induction n with
 |zero=>intro t h;have:=t.fO;omega
 |succ n a=>
  intro t h b;cases t with
  |mk k i s l=>
   rw[Tm.dC] at h b;have e:=Tm.jc l;rw[j8];simp only[Tm.cZ,Tm.da,Tm.dW,Tm.dv,cN,cT (l:=l) VW,cL];rw[fy id l 0 [] aaP]
   ·simp[fF (t:=s) VW]
   ·intro j x v c d;have:=c6 Tm.wt c;rw[a x VW VW];simp[dt (l:=v) (m:=[x]) (by simpa using d)]
def jB{t:Tm}(h:t.wt<=1000000000):j8 FU t=some t:=Bs FU t (by rw[dp];exact h) h
def k_(k:Int)(l:List Tm)(h:cU Tm.wt l<=1000000000):eQ k l=some (Tm.mk k 0 (.mk 0 []) l):=by
 have c:=Tm.jc l;unfold eQ;simp only[cN,cT (l:=l) VW,cL];rw[fy id l 0 [] aaP]
 ·simp
 ·intro j x v a b;have:=c6 Tm.wt a;rw[jB (t:=x) VW];simp[dt (l:=v) (m:=[x]) (by simpa using b)]
def A2(k:Int)(s:Ty)(l:List Tm)(hs:s.agl<=1000000000)(h:cU Tm.wt l<=1000000000):mv k s l=some (Tm.mk k 0 s l):=by
 unfold mv;rw[k_ k l h];simp[fF hs]
def Bt(k:Int):vE k=some (fm k):=by
 unfold vE fm;simp only[ja,nA,dO]
 split<;>(try rfl)
 split<;>(try rfl)
 split<;>(try rfl)
 split<;>rfl
def j_:∀(n:Nat) (t:Tm),t.agl<=n->t.agl<=1000000000->fx n t=some (t.agl:Int):=by
 intro n
 induction n with
 |zero=>intro t h;have:=t.db;omega
 |succ n a=>
  intro t h b;cases t with
  |mk k i s l=>
   rw[Tm.cJ] at h b;have d:=Tm.dK l;rw[fx];simp only[Tm.cZ,cN,cT (l:=l) VW,cL]
   have key:=ll (ρ:=Int) (F:=λ(j:Int) (x:Tm) (v:Int)=>cG (fx n x) λy=>some (eu.next (dR .i64 v y))) Tm.agl l 0 1 VW (by
    intro j x v c;have:=c6 Tm.agl c;rw[a x VW VW]
    rfl)
   rw[show(1:Int)=((1:Nat):Int)from rfl,key];simp[Tm.cJ]
def tT:∀(n:Nat) (t:Tm),t.wt<=n->t.wt<=1000000000->kh n t=some t.ok:=by
 intro n
 induction n with
 |zero=>intro t h;have:=t.fO;omega
 |succ n p=>
  intro t h q;cases t with
  |mk k i s l=>
   rw[Tm.dC] at h q;have z:=Tm.jc l
   have key:dP (λ(f:Int) (a:Tm) (_:Unit)=>cG (kh n a) λb=>if b then some (eu.next ())else some (eu.ret false)) l 0 ()=if l.all Tm.ok then some (.inl ())else some (.inr false):=by
    refine l5 Tm.ok _ l 0 ?_;intro j x r;have:=c6 Tm.wt r;rw[p x VW VW];rfl
   rw[kh]
   simp only[Tm.cZ,Tm.da,Tm.dW,Tm.dv,cN,cT (l:=l) VW,cL,key,ja,nA,dO,cV,gH,dz,Tm.eD,Bt,cv,jd (t:=s) VW,qX]
   by_cases d:(l.length:Int)=fm k
   ·by_cases g:i<0
    ·have:¬0<=i:=VW
     simp[d,g,Tm.node,this]
    ·have u:0<=i:=VW
     by_cases m:k=1
     ·subst m;cases c:s.mg<;>cases e:l.all Tm.ok<;>simp_all [Tm.node,gI]
     ·by_cases c:i=0
      ·subst c;have o:dw 0 0=false:=rfl
       by_cases e:k=2\/k=6\/k=9
       ·have v:gI k=true:=by simp[gI,e]
        by_cases w:s.err=0<;>cases y:l.all Tm.ok<;>simp_all [Tm.node]
       ·have v:gI k=false:=by simp[gI,e]
        cases w:s.mg<;>cases y:l.all Tm.ok<;>simp_all [Tm.node]
      ·have o:dw i 0=true:=by simp[c]
       simp[d,g,m,c,o,Tm.node]
   ·simp[d,Tm.node]
def iY{t:Tm}(h:t.wt<=1000000000):mh t=some t.err:=by
 have:=t.fp;unfold mh Tm.err;rw[tT FU t (by rw[dp];exact h) h,j_ FU t (by rw[dp];omega) VW];cases t.ok with
 |false=>simp|true=>by_cases a:4096<t.agl<;>simp[a]<;>omega
def Bq(k:Int):vn k=some (if 1<=k/\k<14 then(fm k,true)else(0,false)):=by
 unfold vn;simp only[ja,nA,gH,fC]
 by_cases h:k<1\/14<=k
 ·rw[cK h,cI VW]
 ·rw[cI h,cK VW]
  have:k=1\/k=2\/k=3\/k=4\/k=5\/k=6\/k=7\/k=8\/k=9\/k=10\/k=11\/k=12\/k=13:=VW
  rcases this with rfl|rfl|rfl|rfl|rfl|rfl|rfl|rfl|rfl|rfl|rfl|rfl|rfl<;>rfl
def Bx(k:Int):vI k=some (gI k):=by
 unfold vI gI
 congr 1
 rw[xi];simp
def CN{k:Int}{n:Nat}(h:(n:Int)=fm k):1<=k/\k<14:=by
 unfold fm at h
 repeat' split at h
 all_goals omega
def qz:∀(n:Nat) (t:Tm),t.wt<=n->t.wt<=1000000000->jv n t=some (if t.ok then((t.agl:Int),true)else(0,false)):=by
 intro n
 induction n with
 |zero=>intro t h;have:=t.fO;omega
 |succ n r=>
  intro t h u;cases t with
  |mk k i s l=>
   rw[Tm.dC] at h u;have D:=Tm.jc l;have hn:cU Tm.agl l<=cU Tm.wt l:=gP λx _=>x.fp
   have key:dP (λ(o:Int) (a:Tm) (b:Int)=>cX (jv n a) λc d=>if d then some (eu.next (dR .i64 b c))else some (eu.ret ((0:Int),false))) l 0 1=if l.all Tm.ok then some (.inl ((1+cU Tm.agl l:Nat):Int))else some (.inr (0,false)):=by
    refine pH Tm.agl Tm.ok _ l 0 1 VW ?_;intro j x v w;have:=c6 Tm.wt w;rw[r x VW VW];cases x.ok<;>simp
   rw[jv];simp only[Tm.cZ,Tm.da,Tm.dW,Tm.dv,cN,cT (l:=l) VW,cL,key,Tm.eD,Tm.cJ,Bq,Bx,im (t:=s) VW,m4,cv,cH]
   by_cases e:(l.length:Int)=fm k
   ·have f:=CN e;simp only[f,and_self,if_true,cH,yL,ja,kS,nA,ez,cV,gH,dz,e,ne_eq,PY,YG]
    by_cases p:i<0
    ·have:¬0<=i:=VW
     simp[p,Tm.node,this]
    ·have y:0<=i:=VW
     by_cases q:k=1
     ·subst q;cases g:s.mg<;>cases m:l.all Tm.ok<;>simp_all [Tm.node,gI]
     ·by_cases g:i=0
      ·subst g
       by_cases m:k=2\/k=6\/k=9
       ·have z:gI k=true:=by simp[gI,m]
        by_cases A:s.err=0<;>cases B:l.all Tm.ok<;>simp_all [Tm.node]
       ·have z:gI k=false:=by simp[gI,m]
        cases A:s.mg<;>cases B:l.all Tm.ok<;>simp_all [Tm.node]
      ·simp[p,q,g,Tm.node]
   ·have C:Tm.node k i s l.length=false:=by simp[Tm.node,e]
    simp only[C,UJ,lU,jC]
    by_cases f:1<=k/\k<14
    ·simp[f,e]
    ·simp[f]
def d_(k:Int):Int:=if k=2 then 1 else 0
def h9(k:Int):0<=d_ k/\d_ k<=1:=by unfold d_;split<;>omega
def j1(t:Tm):lb t=some (d_ t.agj):=by
 unfold lb d_;simp only[dO]
 split<;>rfl
mutual
def Tm.up(f b:Int):Tm->Tm
 |.mk k i s l=>.mk k (if k=1/\f<=i then i+b else i) s (Tm.QN (f+d_ k) b l)
def Tm.QN(f b:Int):List Tm->List Tm
 |[]=>[]|t::l=>t.up f b::Tm.QN f b l
end
def Tm.GB(f b:Int)(l:List Tm):Tm.QN f b l=l.map (Tm.up f b):=by
 induction l with
 |nil=>rfl|cons t l a=>simp[Tm.QN,a]
def Tm.ir(f b k i:Int)(s:Ty)(l:List Tm):(Tm.mk k i s l).up f b=.mk k (if k=1/\f<=i then i+b else i) s (l.map (Tm.up (f+d_ k) b)):=by rw[Tm.up,Tm.GB]
mutual
def Tm.agp(m:Int):Tm->Bool
 |.mk _ i _ l=>decide (i<=m)&&Tm.oI m l
def Tm.oI(m:Int):List Tm->Bool
 |[]=>true|t::l=>t.agp m&&Tm.oI m l
end
def Tm.xy(m:Int)(l:List Tm):Tm.oI m l=l.all (Tm.agp m):=by
 induction l with
 |nil=>rfl|cons t l a=>simp[Tm.oI,a]
theorem Tm.dI(m k i:Int)(s:Ty)(l:List Tm):(Tm.mk k i s l).agp m=(decide (i<=m)&&l.all (Tm.agp m)):=by rw[Tm.agp,Tm.xy]
mutual
def Tm.agr(a:Int):Tm->Nat
 |.mk k i _ l=>(if k=1/\i=a then 1 else 0)+Tm.ss (a+d_ k) l
def Tm.ss(a:Int):List Tm->Nat
 |[]=>0|t::l=>t.agr a+Tm.ss a l
end
def Tm.xp(a:Int)(l:List Tm):Tm.ss a l=cU (Tm.agr a) l:=by
 induction l with
 |nil=>rfl|cons t l b=>simp[Tm.ss,cU,b]
def Tm.ej(a k i:Int)(s:Ty)(l:List Tm):(Tm.mk k i s l).agr a=(if k=1/\i=a then 1 else 0)+cU (Tm.agr (a+d_ k)) l:=by rw[Tm.agr,Tm.xp]
def Tm.fD(t:Tm):∀a,t.agr a<=t.agl:=by
 induction t using Tm.ind with
 |h k i s l b=>
  intro a;rw[Tm.ej,Tm.cJ];have:=gP (f:=Tm.agr (a+d_ k)) (g:=Tm.agl) (l:=l) λx c=>b x c _
  split<;>omega
def Tm.pC(n i:Int)(s t:Tm):Tm:=if i=n then s.up 0 n else if n<i then .mk 1 (i-1) (.mk 0 []) [] else t
mutual
def Tm.j3:Int->Tm->Tm->Tm
 |n,.mk k i ty l,s=>if k=1 then Tm.pC n i s (.mk k i ty l)else .mk k i ty (Tm.DF (n+d_ k) l s)
def Tm.DF:Int->List Tm->Tm->List Tm
 |_,[],_=>[]|n,t::l,s=>Tm.j3 n t s::Tm.DF n l s
end
def Tm.DL(n:Int)(s:Tm)(l:List Tm):Tm.DF n l s=l.map (λx=>Tm.j3 n x s):=by
 induction l with
 |nil=>rfl|cons t l a=>simp[Tm.DF,a]
def Tm.ka(n:Int)(s:Tm)(k i:Int)(ty:Ty)(l:List Tm):Tm.j3 n (Tm.mk k i ty l) s=if k=1 then Tm.pC n i s (.mk k i ty l)else .mk k i ty (l.map (λx=>Tm.j3 (n+d_ k) x s)):=by rw[Tm.j3,Tm.DL]
theorem Tm.lO(t:Tm):∀f b,(t.up f b).agl=t.agl:=by
 induction t using Tm.ind with
 |h k i s l a=>
  intro f b;rw[Tm.ir,Tm.cJ,Tm.cJ,k8];rw[l_ λx c=>a x c _ _]
theorem Tm.zd(t:Tm):∀f b,(t.up f b).wt=t.wt:=by
 induction t using Tm.ind with
 |h k i s l a=>
  intro f b;rw[Tm.ir,Tm.dC,Tm.dC,k8];rw[l_ λx c=>a x c _ _]
def qU{α β:Type}{p:β->Bool}{q:α->Bool}{g:α->β}{l:List α}(h:∀x∈l,p (g x)=q x):(l.map g).all p=l.all q:=by
 induction l with
 |nil=>rfl|cons x l a=>simp only[y5,sC,h x aaB,a λy hy=>h y (by simp[hy])]
def Tm.HD{k i j:Int}{s:Ty}{n:Nat}(h:k=1/\0<=i/\0<=j\/i=j):Tm.node k i s n=Tm.node k j s n:=by
 rcases h with⟨rfl,a,b⟩|rfl
 ·simp[Tm.node,a,b]
 ·rfl
theorem Tm.Cb(t:Tm):∀f b,0<=f->0<=b->(t.up f b).ok=t.ok:=by
 induction t using Tm.ind with
 |h k i s l a=>
  intro f b e c;rw[Tm.ir,Tm.eD,Tm.eD,Eb,qU λx d=>a x d (f+d_ k) b (by have:=h9 k;omega) c]
  congr 1
  apply Tm.HD
  split
  ·rename_i g;left;omega
  ·right;rfl
def tM:∀(n:Nat) (t:Tm) (m:Int),t.agl<=n->t.agl<=1000000000->kJ n t m=some (t.agp m):=by
 intro n
 induction n with
 |zero=>intro t m h;have:=t.db;omega
 |succ n e=>
  intro t m h f;cases t with
  |mk k i s l=>
   rw[Tm.cJ] at h f;have o:=Tm.dK l
   have key:dP (λ(c:Int) (a:Tm) (_:Unit)=>cG (kJ n a m) λb=>if b then some (eu.next ())else some (eu.ret false)) l 0 ()=if l.all (Tm.agp m) then some (.inl ())else some (.inr false):=by
    refine l5 (Tm.agp m) _ l 0 ?_;intro j x g;have:=c6 Tm.agl g;rw[e x m VW VW];rfl
   rw[kJ];simp only[Tm.cZ,Tm.dW,cN,cT (l:=l) VW,cL,key,ei,Tm.dI]
   by_cases d:m<i
   ·have:¬i<=m:=VW
    simp[d,this]
   ·have:i<=m:=VW
    cases p:l.all (Tm.agp m)<;>simp[d,this]
def tN:∀(n:Nat) (t:Tm) (f b:Int),t.agl<=n->t.agl<=1000000000->0<=f->f+t.agl<=10000000000->0<=b->b<=10000000000->t.agp 1000000000000=true->qH n t f b=some (t.up f b):=by
 intro n
 induction n with
 |zero=>intro t f b h;have:=t.db;omega
 |succ n q=>
  intro t f b h a z c r d hi;cases t with
  |mk k i s l=>
   rw[Tm.cJ] at h a c;rw[Tm.dI] at hi;simp only[ez,kn,iC] at hi;have A:=Tm.dK l;have B:=h9 k;rw[qH];simp only[Tm.cZ,Tm.dW,Tm.da,Tm.dv,cN,cT (l:=l) VW,cL];rw[fy (Tm.up (f+d_ k) b) l 0 [] aaP]
   ·rw[Tm.ir];simp only[cv,cS,kW,wh,Tm.mk.injEq,TC,Hc]
    by_cases g:k=1/\f<=i
    ·obtain⟨rfl,o⟩:=g;rw[ds VW VW];have u:dm 1 1=true:=rfl
     have w:rZ i f=true:=by simp[o]
     simp[u,w,o]
    ·rw[cI g]
     have e:eH (dm k 1) (rZ i f) false=false:=by
      rw[kS,H5];simp only[ne_eq,ez,dO,fC];exact g
     rw[e];rfl
   ·intro j x v p y;have:=c6 Tm.agl p;rw[j1];simp only[cv,Tm.da];rw[ds VW VW,q x (f+d_ k) b VW VW VW VW r d (hi.2 x p)];simp[dt (l:=v) (m:=[x.up (f+d_ k) b]) (by simpa using y)]
def ua:∀(n:Nat) (t:Tm) (a:Int),t.agl<=n->t.agl<=1000000000->0<=a->a+t.agl<=10000000000->mm n t a=some (t.agr a:Int):=by
 intro n
 induction n with
 |zero=>intro t a h;have:=t.db;omega
 |succ n g=>
  intro t a h c q d;cases t with
  |mk k i s l=>
   rw[Tm.cJ] at h c d;have r:=Tm.dK l;have u:=h9 k;have m:cU (Tm.agr (a+d_ k)) l<=cU Tm.agl l:=gP λx _=>x.fD _;rw[mm];simp only[Tm.cZ,Tm.dW,Tm.da,cN,cT (l:=l) VW,cL]
   have o:eH (eH (dm k 1) (dm i a) false) (dR .i64 0 1) 0=(((if k=1/\i=a then 1 else 0:Nat)):Int):=by
    by_cases f:k=1/\i=a
    ·obtain⟨rfl,rfl⟩:=f;simp[dm,eH,dR,zB]
    ·have e:eH (dm k 1) (dm i a) false=false:=by
      rw[kS,H5];simp only[ne_eq,ez,dO];exact f
     rw[e,cI f];rfl
   have key:=ll (ρ:=Int) (F:=λ(j:Int) (x:Tm) (v:Int)=>cG (lb (Tm.mk k i s l)) λb=>cG (mm n x (dR .i64 a b)) λy=>some (eu.next (dR .i64 v y)))
    (Tm.agr (a+d_ k)) l 0 (if k=1/\i=a then 1 else 0) (by split<;>omega) (by
    intro j x v p;have:=c6 Tm.agl p;rw[j1];simp only[cv,Tm.da];rw[ds VW VW,g x _ VW VW VW VW]
    rfl)
   rw[o,key];simp[Tm.ej]
def yv:∀(n:Nat) (t:Tm) (a b:Int) (s:Tm),t.agl<=n->t.agl<=1000000000->0<=a->0<=b->a+b+t.agl<=5000000000->t.agp 1000000000000=true->t.ok=true->s.agl<=1000000000->s.agp 1000000000000=true->wQ n t a b s=some (Tm.j3 (a+b) t s):=by
 intro n
 induction n with
 |zero=>intro t a b s h;have:=t.db;omega
 |succ n r=>
  intro t a b s h o u z p hi c hs d;cases t with
  |mk k i ty l=>
   rw[Tm.cJ] at h o p;rw[Tm.dI] at hi;rw[Tm.eD] at c;simp only[ez,kn,iC] at hi c;have A:=Tm.dK l;have B:=h9 k
   have w:0<=i:=by
    have:=c.1;simp only[Tm.node,ez,kn] at this;exact this.1.1.2
   rw[wQ,Tm.ka];simp only[Tm.cZ,Tm.dW,Tm.da,Tm.dv,cN,cT (l:=l) VW,cL,dO];rw[ds VW VW]
   by_cases e:k=1
   ·rw[cK e,cK e];unfold Tm.pC
    by_cases f:i=a+b
    ·rw[cK f,cK f,tN FU s 0 (a+b) (by rw[dp];exact hs) hs VW VW VW VW d];rfl
    ·rw[cI f,cI f];simp only[ei]
     by_cases g:a+b<i
     ·rw[cK g,cK g,dF VW VW];rfl
     ·rw[cI g,cI g]
   ·rw[cI e,cI e];rw[fy (λx=>Tm.j3 (a+b+d_ k) x s) l 0 [] aaP]
    ·simp
    ·intro j x v q y;have:=c6 Tm.agl q;rw[j1];simp only[cv,Tm.da];rw[ds VW VW,r x a (b+d_ k) s VW VW u VW VW (hi.2 x q) (c.2 x q) hs d];rw[show a+(b+d_ k)=a+b+d_ k by omega];simp[dt (l:=v) (m:=[Tm.j3 (a+b+d_ k) x s]) (by simpa using y)]
def Tm.mi(s t:Tm):∀n,t.ok=true->(Tm.j3 n t s).agl+t.agr n=t.agl+t.agr n*s.agl:=by
 induction t using Tm.ind with
 |h k i ty l g=>
  intro n a;rw[Tm.eD] at a;simp only[ez,iC] at a;rw[Tm.ka,Tm.ej,Tm.cJ]
  by_cases d:k=1
  ·subst d
   have j:l=[]:=by
    have:=a.1;simp only[Tm.node,ez,kn] at this;have h:=this.1.1.1;simp[fm] at h;exact h
   subst j;simp only[if_true,Tm.pC,cU,FW,Hc]
   by_cases e:i=n
   ·simp[e,Tm.lO];omega
   ·by_cases m:n<i<;>simp[e,m,Tm.cJ,cU]
  ·simp only[d,jC,false_and,tG];rw[Tm.cJ,k8]
   have:cU (λx=>(Tm.j3 (n+d_ k) x s).agl) l+cU (Tm.agr (n+d_ k)) l=cU Tm.agl l+cU (Tm.agr (n+d_ k)) l*s.agl:=by
    have b:∀x∈l,(Tm.j3 (n+d_ k) x s).agl+x.agr (n+d_ k)=x.agl+x.agr (n+d_ k)*s.agl:=λx c=>g x c _ (a.2 x c);clear g a
    induction l with
    |nil=>simp[cU]|cons y l f=>
     have d:=b y aaB;have e:=f λx c=>b x (by simp[c]);simp only[cU,A7];omega
   omega
def Tm.Mx(s:Tm)(hs:s.ok=true)(t:Tm):∀n,0<=n->t.ok=true->(Tm.j3 n t s).ok=true:=by
 induction t using Tm.ind with
 |h k i ty l g=>
  intro n hn a;have b:=a;rw[Tm.eD] at a;simp only[ez,iC] at a;rw[Tm.ka]
  by_cases d:k=1
  ·subst d;simp only[if_true,Tm.pC]
   by_cases c:i=n
   ·simp only[c,if_true];rw[Tm.Cb s 0 n VW hn];exact hs
   ·by_cases e:n<i
    ·simp only[c,e,jC,if_true];rw[Tm.eD]
     have j:1<=i:=VW
     simp[Tm.node,fm,gI,j,Ty.mg,dm]
    ·simp only[c,e,jC];exact b
  ·simp only[d,jC];rw[Tm.eD,Eb];simp only[ez,iC,nU];refine⟨a.1,?_⟩;rintro _ ⟨x,f,rfl⟩;exact g x f _ (by have:=h9 k;omega) (a.2 x f)
mutual
def Tm.fr:Tm->Int
 |.mk k i _ l=>if k=1 then i+1 else if k=2 then imax 0 (Tm.Bu 0 l-1)else Tm.Bu 0 l
def Tm.Bu(m:Int):List Tm->Int
 |[]=>m|t::l=>Tm.Bu (imax m t.fr) l
end
theorem nZ(a b:Int):imax a b=max a b:=by unfold imax;omega
def Tm.G7(l:List Tm):∀m,m<=Tm.Bu m l:=by
 induction l with
 |nil=>intro m;exact Xg _|cons t l a=>intro m;rw[Tm.Bu];have:=a (imax m t.fr);rw[nZ] at*;omega
def Tm.Qs{l:List Tm}{t:Tm}(h:t∈l):∀m,t.fr<=Tm.Bu m l:=by
 induction l with
 |nil=>cases h
 |cons u l a=>
  intro m;rw[Tm.Bu];rcases iL.1 h with rfl|h
  ·have:=Tm.G7 l (imax m t.fr);rw[nZ] at*;omega
  ·exact a h _
def Tm.Ny{M:Int}{l:List Tm}(h:∀t∈l,t.fr<=M):∀m,m<=M->Tm.Bu m l<=M:=by
 induction l with
 |nil=>intro m hm;exact hm|cons u l a=>
  intro m hm;rw[Tm.Bu];refine a (λt b=>h t (by simp[b])) _ ?_;have:=h u aaB;rw[nZ];omega
def Tm.No(t:Tm):∀{M:Int},0<=M->t.ok=true->t.agp M=true->0<=t.fr/\t.fr<=M+1:=by
 induction t using Tm.ind with
 |h k i s l d=>
  intro M e a b;rw[Tm.eD] at a;rw[Tm.dI] at b;simp only[ez,iC,kn,Tm.node] at a b;have f:Tm.Bu 0 l<=M+1:=Tm.Ny (λt c=>(d t c e (a.2 t c) (b.2 t c)).2) 0 VW;have g:=Tm.G7 l 0;rw[Tm.fr]
  split
  ·omega
  ·split
   ·rw[nZ];omega
   ·omega
def map_id'{α:Type}{g:α->α}{l:List α}(h:∀x∈l,g x=x):l.map g=l:=by
 induction l with
 |nil=>rfl|cons x l a=>simp only[y5,h x aaB,a λy hy=>h y (by simp[hy])]
def Tm.ib{k i:Int}{s:Ty}{l:List Tm}(h:(Tm.mk k i s l).ok=true):(k=1->l=[])/\0<=i/\(k≠1->i=0)/\(∀t∈l,t.ok=true)/\(l.length:Int)=fm k:=by
 rw[Tm.eD] at h;simp only[ez,iC,kn,Tm.node,nA] at h;obtain⟨⟨⟨⟨a,b⟩,c⟩,f⟩,d⟩:=h;refine⟨?_,b,λe=>c.resolve_left e,d,a⟩;rintro rfl;have:(l.length:Int)=0:=a;exact Dq VW
def Tm.Ds{k i:Int}{s:Ty}{l:List Tm}(a:k≠1){f:Int}(h:(Tm.mk k i s l).fr<=f)(c:0<=f):∀x∈l,x.fr<=f+d_ k:=by
 intro x b;have:=Tm.Qs b 0;rw[Tm.fr,cI a] at h;unfold d_
 split at h
 ·rename_i a;rw[cK a];rw[nZ] at h;omega
 ·rename_i a;rw[cI a];omega
def Tm.QM(t:Tm):∀f b,t.ok=true->0<=f->t.fr<=f->t.up f b=t:=by
 induction t using Tm.ind with
 |h k i s l d=>
  intro f b e g h;obtain⟨o1,o2,m,j,_⟩:=Tm.ib e;rw[Tm.ir]
  by_cases a:k=1
  ·have:=o1 a;subst this;rw[Tm.fr,cK a] at h;rw[cI VW];rfl
  ·rw[cI (λh=>a h.1)]
   congr 1
   exact map_id' λx c=>d x c _ _ (j x c) (by have:=h9 k;omega) (Tm.Ds a h g x c)
def Tm.sj(t:Tm):∀f,t.up f 0=t:=by
 induction t using Tm.ind with
 |h k i s l a=>
  intro f;rw[Tm.ir,map_id' λx b=>a x b _]
  congr 1
  split<;>omega
def Tm.ML(s t:Tm):∀n,t.ok=true->0<=n->t.fr<=n->Tm.j3 n t s=t:=by
 induction t using Tm.ind with
 |h k i ty l c=>
  intro n d hn h;obtain⟨o1,o2,f,e,_⟩:=Tm.ib d;rw[Tm.ka]
  by_cases a:k=1
  ·rw[cK a];rw[Tm.fr,cK a] at h;unfold Tm.pC;rw[cI VW,cI VW]
  ·rw[cI a]
   congr 1
   exact map_id' λx b=>c x b _ (e x b) (by have:=h9 k;omega) (Tm.Ds a h hn x b)
def JH{α:Type}{g:α->Nat}{l:List α}(h:∀x∈l,g x=0):cU g l=0:=by
 induction l with
 |nil=>rfl|cons x l a=>simp[cU,h x aaB,a λy hy=>h y (by simp[hy])]
def Tm.G3(t:Tm):∀n,t.ok=true->0<=n->t.fr<=n->t.agr n=0:=by
 induction t using Tm.ind with
 |h k i ty l c=>
  intro n d hn h;obtain⟨o1,o2,f,e,_⟩:=Tm.ib d;rw[Tm.ej]
  by_cases a:k=1
  ·have:=o1 a;subst this;rw[Tm.fr,cK a] at h;rw[cI VW];rfl
  ·rw[cI (λh=>a h.1)];simp only[tG];exact JH λx b=>c x b _ (e x b) (by have:=h9 k;omega) (Tm.Ds a h hn x b)
def Tm.kd:Option Tm->Int
 |some t=>t.agj|none=>0
def Tm.root:Tm->Bool
 |.mk k _ _ l=>(decide (k=3)&&decide (Tm.kd l[0]?=2))||(decide (k=6)&&(decide (Tm.kd l[2]?=4)||decide (Tm.kd l[2]?=5)))||(decide (k=9)&&(decide (Tm.kd l[2]?=7)||decide (Tm.kd l[2]?=8)))||
  ((decide (k=11)||decide (k=12))&&decide (Tm.kd l[0]?=10))
mutual
def Tm.nf:Tm->Bool
 |.mk k i s l=>!(Tm.mk k i s l).root&&Tm.YO l
def Tm.YO:List Tm->Bool
 |[]=>true|t::l=>t.nf&&Tm.YO l
end
def Tm.T0(l:List Tm):Tm.YO l=l.all Tm.nf:=by
 induction l with
 |nil=>rfl|cons t l a=>simp[Tm.YO,a]
def Tm.H0(k i:Int)(s:Ty)(l:List Tm):(Tm.mk k i s l).nf=(!(Tm.mk k i s l).root&&l.all Tm.nf):=by rw[Tm.nf,Tm.T0]
def i_(f:Tm):List Tm->Tm
 |[]=>f|a::l=>i_ (.mk 3 0 (.mk 0 []) [f,a]) l
def Tm.dX:Tm->Tm
 |.mk k i s l=>
  if k=3 then(match l with|[.mk _ _ _ [b],a]=>Tm.j3 0 b a|_=>.mk k i s l)
  else if k=11 then(match l with|[.mk _ _ _ (a::_)]=>a|_=>.mk k i s l)
  else if k=12 then(match l with|[.mk _ _ _ [_,b]]=>b|_=>.mk k i s l)
  else(match l with
   |[b,st,.mk _ _ _ []]=>b|[b,st,.mk _ _ _ [n]]=>i_ st [n,.mk k i s [b,st,n]]|[b,st,.mk _ _ _ [h,t]]=>i_ st [h,t,.mk k i s [b,st,t]]|_=>.mk k i s l)
mutual
inductive NR (nh:List HC):Nat->Tm->Prop
 |mk {p:Nat} {x:dG} {l:List Tm}:HC.c8 nh p=some x->pz nh x.agk l->x.size=((Tm.mk x.agj x.agm x.rf l).agl:Int)->x.free=(Tm.mk x.agj x.agm x.rf l).fr->(x.normal=true->(Tm.mk x.agj x.agm x.rf l).nf=true)->NR nh p (.mk x.agj x.agm x.rf l)
inductive pz (nh:List HC):List (Option Nat)->List Tm->Prop
 |nil:pz nh [] []|cons {p:Nat} {t:Tm} {ps:List (Option Nat)} {ts:List Tm}:NR nh p t->pz nh ps ts->pz nh (some p::ps) (t::ts)
end
def NR.inv{nh:List HC}{p:Nat}{t:Tm}(h:NR nh p t):∃x,HC.c8 nh p=some x/\x.agj=t.agj/\x.agm=t.agm/\x.rf=t.cO/\pz nh x.agk t.agk/\x.size=(t.agl:Int)/\x.free=t.fr/\(x.normal=true->t.nf=true):=by
 cases h with
 |mk a b c d e=>exact⟨_,a,rfl,rfl,rfl,b,c,d,e⟩
def NR.of{nh:List HC}{p:Nat}{t:Tm}{x:dG}(e:HC.c8 nh p=some x)(a:x.agj=t.agj)(b:x.agm=t.agm)(c:x.rf=t.cO)(d:pz nh x.agk t.agk)(f:x.size=(t.agl:Int))(g:x.free=t.fr)
  (h:x.normal=true->t.nf=true):NR nh p t:=by
 cases t with
 |mk k i s l=>
  simp only[Tm.da,Tm.dW,Tm.dv,Tm.cZ] at a b c d;subst a;subst b;subst c;exact .mk e d f g h
def pz.len{nh:List HC}:∀{ps:List (Option Nat)} {ts:List Tm},pz nh ps ts->ps.length=ts.length
 |_,_,.nil=>rfl|_,_,.cons _ h=>by simp[h.len]
def pz.append{nh:List HC}:∀{ps a:List (Option Nat)} {ts us:List Tm},pz nh ps ts->pz nh a us->pz nh (ps++a) (ts++us)
 |_,_,_,_,.nil,h=>h|_,_,_,_,.cons b c,h=>.cons b (c.append h)
structure NE (nh nh':List HC):Prop where
 node:∀p t,NR nh p t->NR nh' p t
 state:∀p st,HC.dL nh p=some st->HC.dL nh' p=some st
 get:∀p x,HC.c8 nh p=some x->∃b,HC.c8 nh' p=some {x with normal:=b}
def NE.refl(nh:List HC):NE nh nh:=⟨λ_ _ h=>h,λ_ _ h=>h,λ_ x h=>⟨x.normal,h⟩⟩
def NE.trans{a b c:List HC}(d:NE a b)(e:NE b c):NE a c:=⟨λp t h=>e.node p t (d.node p t h),λp st h=>e.state p st (d.state p st h),λp x h=>by
 obtain⟨j,f⟩:=d.get p x h;obtain⟨g,i⟩:=e.get p _ f
 exact⟨g,i⟩⟩
def NE.list{nh a:List HC}(h:NE nh a):∀{ps:List (Option Nat)} {ts:List Tm},pz nh ps ts->pz a ps ts
 |_,_,.nil=>.nil|_,_,.cons b c=>.cons (h.node _ _ b) (h.list c)
def zx{nh X:List HC}{p:Nat}{x:dG}(h:HC.c8 nh p=some x):HC.c8 (nh++X) p=some x:=by
 have:=HC.dh h;have a:=(qb.1 this).1;unfold HC.c8;rw[s_ a,this]
def BP{nh X:List HC}{p:Nat}{x:fk}(h:HC.dL nh p=some x):HC.dL (nh++X) p=some x:=by
 have:=HC.fK h;have a:=(qb.1 this).1;unfold HC.dL;rw[s_ a,this]
mutual
def NR.app{nh X:List HC}:∀{p:Nat} {t:Tm},NR nh p t->NR (nh++X) p t
 |_,_,.mk a b c d e=>.mk (zx a) b.app c d e
def pz.app{nh X:List HC}:∀{ps:List (Option Nat)} {ts:List Tm},pz nh ps ts->pz (nh++X) ps ts
 |_,_,.nil=>.nil|_,_,.cons a b=>.cons a.app b.app
end
def NE.kp{nh a:List HC}(h:Kp nh a):NE nh a:=by
 obtain⟨X,rfl⟩:=h;exact⟨λ_ _ h=>h.app,λ_ _ h=>BP h,λp x h=>⟨x.normal,zx h⟩⟩
def AE{a0 a1:Int}{a2:Ty}{a3:List (Option Nat)}{nh:List HC}{F:Int->Option Nat->List HC->Option (eu (List HC) ((Option Nat)×List HC))}
  (hF:∀j q v x y,HC.c8 v nh.length=some x->HC.c8 v q=some y->HC.c8 (ki v nh.length (HC.dH (dG.mk x.agj x.agm x.rf x.agk (dR .i64 x.size y.size) x.free x.normal))) q=some y->F j (some q) v=some (.next (ki (ki v nh.length (HC.dH (dG.mk x.agj x.agm x.rf x.agk (dR .i64 x.size y.size) x.free x.normal))) nh.length (HC.dH (dG.mk x.agj x.agm x.rf x.agk (dR .i64 x.size y.size) (imax x.free y.free) x.normal))))):∀(ps:List (Option Nat)) (ts:List Tm) (i:Nat) (s:Nat) (f:Int),pz nh ps ts->s+cU Tm.agl ts<=1000000000->dP F ps i (nh++[HC.dH (dG.mk a0 a1 a2 a3 s f false)])=some (.inl (nh++[HC.dH (dG.mk a0 a1 a2 a3 ((s+cU Tm.agl ts:Nat):Int) (Tm.Bu f ts) false)]))
 |_,_,i,s,f,.nil,_=>by simp[cU,Tm.Bu]|_,_,i,s,f,.cons (p:=p) (t:=t) c d,e=>by
  rw[cU] at e;obtain⟨y,b,l,m,n,o,g,h,r⟩:=c.inv;have k:p<nh.length:=(qb.1 (HC.dh b)).1
  have a:dR .i64 (s:Int) (t.agl:Int)=((s+t.agl:Nat):Int):=by rw[ds VW VW];omega
  rw[dq,hF _ p _ _ y z6 (zx b) (by rw[we];exact zx b)];simp only[we,cv,dr,g,h,a];rw[AE hF _ _ (i+1) (s+t.agl) (imax f t.fr) d VW];simp only[cU,Tm.Bu,Nf]
def mO{k i:Int}{s:Ty}{ps:List (Option Nat)}{ts:List Tm}{nh:List HC}(h:pz nh ps ts)(hn:cU Tm.agl ts<=100000000)(hi:0<=i/\i<=1000000000000)(p:∀t∈ts,0<=t.fr/\t.fr<=1000000000000):∃e,kK k i s ps nh=some (some nh.length,e)/\Kp nh e/\NR e nh.length (.mk k i s ts):=by
 have hlen:ps.length<=100000000:=by
  rw[h.len];exact CJ (Tm.dK ts) hn
 have w:0<=Tm.Bu 0 ts/\Tm.Bu 0 ts<=1000000000000:=⟨Tm.G7 ts 0,Tm.Ny (λt z=>(p t z).2) 0 VW⟩;unfold kK;rw[cT VW];simp only[cL,cN]
 have r:=AE (a0:=k) (a1:=i) (a2:=s) (a3:=ps) (nh:=nh) (F:=λu l b=>
   cG (HC.c8 b (List.length nh)) λa=>
   cG (l) λd=>
   cG (HC.c8 b d) λc=>
   cG (HC.c8 (ki b (List.length nh) (HC.dH (dG.mk a.agj a.agm a.rf a.agk (dR .i64 a.size c.size) a.free a.normal))) d) λm=>
   some (.next (ki (ki b (List.length nh) (HC.dH (dG.mk a.agj a.agm a.rf a.agk (dR .i64 a.size c.size) a.free a.normal))) (List.length nh) (HC.dH (dG.mk a.agj a.agm a.rf a.agk (dR .i64 a.size c.size) (imax a.free m.free) a.normal)))))
  (by intro j q v x y n o A;simp only[n,o,A,cv]) ps ts 0 1 0 h VW
 have B:((1:Nat):Int)=1:=rfl;rw[B] at r;rw[r];simp only[cv,cS,z6,we]
 have g:((1+cU Tm.agl ts:Nat):Int)=((Tm.mk k i s ts).agl:Int):=by rw[Tm.cJ]
 have fin:∀f:Int,f=(Tm.mk k i s ts).fr->NR (nh++[HC.dH (dG.mk k i s ps ((1+cU Tm.agl ts:Nat):Int) f false)]) nh.length (.mk k i s ts):=by
  intro f p;exact NR.of z6 rfl rfl rfl h.app g p (by intro h;cases h)
 by_cases n:k=1
 ·subst n;refine⟨_,by rw[cK aaa],⟨_,rfl⟩,fin _ ?_⟩;rw[Tm.fr,cK rfl,ds VW VW]
 ·rw[cI (by simpa using n)]
  by_cases o:k=2
  ·subst o;refine⟨_,by rw[cK aaa],⟨_,rfl⟩,fin _ ?_⟩;rw[Tm.fr,cI aaa,cK rfl,dF VW VW]
  ·refine⟨_,by rw[cI (by simpa using o)],⟨_,rfl⟩,fin _ ?_⟩;rw[Tm.fr,cI n,cI o]
def NB{nh:List HC}{p:Nat}{x:dG}(h:HC.c8 nh p=some x):hJ (some p) nh=some (d_ x.agj):=by
 unfold hJ d_;simp only[cv,h,dO]
 split<;>rfl
def NE.below{nh a:List HC}{p:Nat}{x:dG}(he:NE nh a)(h:HC.c8 nh p=some x):hJ (some p) a=some (d_ x.agj):=by
 obtain⟨b,e⟩:=he.get p x h;rw[NB e]
def vu{F:Int->Option Nat->List (Option Nat)×List HC->Option (eu (List (Option Nat)×List HC) ((Option Nat)×List HC))}(g:Tm->Tm)(Ze:List HC):∀(ts:List Tm)
  (_:∀t∈ts,∀p nh j v,Kp Ze nh->NR nh p t->v.length+1<=1000000000->∃q a,F j (some p) (v,nh)=some (.next (v++[some q],a))/\Kp nh a/\NR a q (g t))
  (ps:List (Option Nat)) (i:Nat) (nh:List HC) (v:List (Option Nat)) (us:List Tm),Kp Ze nh->pz nh ps ts->pz nh v us->v.length+ts.length<=1000000000->∃c a,dP F ps i (v,nh)=some (.inl (c,a))/\Kp nh a/\pz a c (us++ts.map g)
 |[],_,_,i,nh,v,us,_,.nil,d,_=>⟨v,nh,rfl,Kp.refl _,by simpa using d⟩|t::ts,hF,_,i,nh,v,us,h,.cons (p:=p) (ps:=ps) k l,d,m=>by
  simp only[hW] at m;obtain⟨q,e,n,f,o⟩:=hF t aaB p nh i v h k VW;have b:=NE.kp f;obtain⟨c,a,f1,f2,f3⟩:=vu g Ze ts (λt r=>hF t (by simp[r])) ps (i+1) e (v++[some q]) (us++[g t]) (h.trans f) (b.list l) ((b.list d).append (.cons o .nil)) aaP;refine⟨c,a,?_,f.trans f2,by simpa using f3⟩;rw[dq,n];simp only[cv,dr];exact f1
structure Sm (M:Int) (t:Tm):Prop where
 ok:t.ok=true
 agp:t.agp M=true
 agl:t.agl<=1000000
def Sm.arg{M k i:Int}{s:Ty}{l:List Tm}(h:Sm M (.mk k i s l)):∀t∈l,Sm M t:=by
 intro t a;have b:=h.agp;have c:=h.agl;rw[Tm.dI] at b;simp only[ez,iC] at b;rw[Tm.cJ] at c;exact⟨(Tm.ib h.ok).2.2.2.1 t a,b.2 t a,by have:=c6 Tm.agl a;omega⟩
def Sm.idx{M k i:Int}{s:Ty}{l:List Tm}(h:Sm M (.mk k i s l)):0<=i/\i<=M:=by
 have a:=h.agp;rw[Tm.dI] at a;simp only[ez,kn] at a;exact⟨(Tm.ib h.ok).2.1,a.1⟩
theorem Sm.fr{M:Int}{t:Tm}(h:Sm M t)(a:0<=M):0<=t.fr/\t.fr<=M+1:=Tm.No t a h.ok h.agp
def Sm.mono{M N:Int}{t:Tm}(h:Sm M t)(hm:M<=N):Sm N t:=⟨h.ok,by
 have:∀t:Tm,t.agp M=true->t.agp N=true:=by
  intro t
  induction t using Tm.ind with
  |h k i s l b=>
   rw[Tm.dI,Tm.dI];simp only[ez,iC,kn]
   exactλ⟨d,c⟩=>⟨VW,λx a=>b x a (c x a)⟩
 exact this t h.agp,h.agl⟩
def E3{M b:Int}(d:0<=b)(t:Tm):∀f,t.agp M=true->(t.up f b).agp (M+b)=true:=by
 induction t using Tm.ind with
 |h k i s l a=>
  intro f h;rw[Tm.dI] at h;simp only[ez,iC,kn] at h;rw[Tm.ir,Tm.dI];simp only[ez,iC,kn];refine⟨by split<;>omega,?_⟩;intro x c;obtain⟨y,hy,rfl⟩:=nU.1 c;exact a y hy _ (h.2 y hy)
def Sm.up{M f b:Int}{t:Tm}(h:Sm M t)(c:0<=f)(a:0<=b):Sm (M+b) (t.up f b):=
 ⟨by rw[Tm.Cb t f b c a];exact h.ok,E3 a t f h.agp,by rw[Tm.lO];exact h.agl⟩
def P2{M:Int}(U:0<=M/\M<=500000000000):∀(n:Nat) (t:Tm) (p:Nat) (nh:List HC) (f b:Int),t.agl<=n->NR nh p t->Sm M t->0<=f->f+t.agl<=500000000000->0<=b->b<=400000000000->∃Q a,js n (some p) f b nh=some (some Q,a)/\Kp nh a/\NR a Q (t.up f b):=by
 intro n
 induction n with
 |zero=>intro t p nh f b h;have:=t.db;omega
 |succ n V=>
  intro t p nh f b hn w hs W z R A;obtain⟨x,B,m,C,D,E,e6,X,e8⟩:=w.inv;have Y:=hs.fr U.1;rw[js];simp only[cN,cv,B,X,r']
  by_cases r:t.fr<=f
  ·rw[cK r];exact⟨p,nh,rfl,Kp.refl _,by rw[Tm.QM t f b hs.ok W r];exact w⟩
  ·rw[cI r]
   by_cases S:b=0
   ·subst S;exact⟨p,nh,aaB,Kp.refl _,by rw[Tm.sj];exact w⟩
   ·rw[cI (by simpa using S)];cases t with
    |mk k i s l=>
     simp only[Tm.da,Tm.dW,Tm.dv,Tm.cZ] at m C D E;have T:=hs.idx;obtain⟨o1,o2,o3,o4,o5⟩:=Tm.ib hs.ok
     by_cases G:k=1
     ·subst G;have Z:=o1 rfl;subst Z;rw[cK (by rw[m];rfl)]
      have H:f<=i:=by rw[Tm.fr,cK rfl] at r;omega
      obtain⟨a,g1,g2,g3⟩:=mO (k:=1) (i:=i+b) (s:=s) (ps:=[]) (ts:=[]) (nh:=nh) .nil (by simp[cU]) VW aaB;refine⟨nh.length,a,?_,g2,?_⟩
      ·rw[m,C,D,ds VW VW,g1];rfl
      ·rw[Tm.ir,cK ⟨rfl,H⟩];exact g3
     ·rw[cI (by rw[m];simpa using G)]
      have aa:1+cU Tm.agl l<=n+1:=by rw[Tm.cJ] at hn;exact hn
      have hlen:=Tm.dK l;have I:=hs.agl;rw[Tm.cJ] at I z;have ab:x.agk.length=l.length:=E.len;rw[cT VW];simp only[cL];have ad:=h9 k
      obtain⟨v',a,g1,g2,g3⟩:=vu (F:=λj J=>nk λc d=>
        cG (hJ (some p) d) λo=>
        cX (js n J (dR .i64 f o) b d) λe g=>
        fY (eM c [e])<|some (.next ((eV c [e]),g))) (Tm.up (f+d_ k) b) nh l (by
        intro t u q K j v L hq hv;have N:=hs.arg t u;have hm:=c6 Tm.agl u;obtain⟨q',O,a1,a2,a3⟩:=V t q K (f+d_ k) b VW hq N VW VW R A;refine⟨q',O,?_,a2,a3⟩;simp only[gD,(NE.kp L).below B,cv,m];rw[ds VW VW,a1];simp only[cH];rw[dt (by simpa using hv)]
        rfl) x.agk 0 nh [] [] (Kp.refl _) E .nil aaP
      rw[g1];simp only[cv,cS,gD];obtain⟨x2,c1⟩:=(NE.kp g2).get p x B;unfold ft;simp only[cv,c1]
      obtain⟨P,d1,d2,d3⟩:=mO (k:=k) (i:=i) (s:=s) (ps:=v') (ts:=l.map (Tm.up (f+d_ k) b)) (nh:=a) (by simpa using g3) (by
       rw[k8,l_ λx _=>Tm.lO x _ _];omega) VW (by
       intro t u;obtain⟨y,hy,rfl⟩:=nU.1 u;have:=((hs.arg y hy).up (f:=f+d_ k) (b:=b) VW R).fr VW
       omega)
      refine⟨a.length,P,?_,g2.trans d2,?_⟩
      ·rw[m,C,D,d1];rfl
      ·rw[Tm.ir,cI (λh=>G h.1)];exact d3
def count_eq{M:Int}(P:0<=M/\M<=500000000000)(nh:List HC):∀(n:Nat) (t:Tm) (p:Nat) (a:Int),t.agl<=n->NR nh p t->Sm M t->0<=a->a+t.agl<=500000000000->jY n (some p) a nh=some (t.agr a:Int):=by
 intro n
 induction n with
 |zero=>intro t p a h;have:=t.db;omega
 |succ n C=>
  intro t p a hn D hs E o;obtain⟨x,z,j,A,F,q,Q,G,R⟩:=D.inv;rw[jY];simp only[cv,z,G,r']
  by_cases r:t.fr<=a
  ·rw[cK r,Tm.G3 t a hs.ok E r];rfl
  ·rw[cI r];cases t with
   |mk k i s l=>
    simp only[Tm.da,Tm.dW,Tm.dv,Tm.cZ] at j A F q;obtain⟨o1,o2,S,T,U⟩:=Tm.ib hs.ok
    by_cases v:k=1
    ·subst v;have H:=o1 rfl;subst H;rw[cK (by rw[j];rfl),Tm.ej,A];simp only[dO,cU]
     by_cases m:i=a
     ·rw[cK m,cK ⟨trivial,m⟩];rfl
     ·rw[cI m,cI (λh=>m h.2)];rfl
    ·rw[cI (by rw[j];simpa using v)];have w:=hs.agl;rw[Tm.cJ] at w o hn;have hlen:=Tm.dK l;have I:x.agk.length=l.length:=q.len;rw[cT VW];simp only[cL,cN];have J:=h9 k
     have loop:∀(ts:List Tm) (ps:List (Option Nat)) (i c:Nat),(∀t∈ts,t∈l)->pz nh ps ts->c+cU Tm.agl ts<=1000000000->dP (λ(B:Int) (b:Option Nat)=>(λ(d:Int)=>
        cG (jY n b (a+d_ k) nh) λe=>
        some ((.next (dR .i64 d e)):eu Int Int))) ps i (c:Int)=some (.inl ((c+cU (Tm.agr (a+d_ k)) ts:Nat):Int)):=by
      intro ts
      induction ts with
      |nil=>intro ps i c _ h _;cases h;rfl
      |cons t ts y=>
       intro ps i c hm h K;cases h with
       |cons q1 L=>
        rw[cU] at K;have f:=hm t aaB;have N:=c6 Tm.agl f;have O:=Tm.fD t (a+d_ k);rw[dq];rw[C t _ _ VW q1 (hs.arg t f) VW VW];simp only[cv];rw[ds VW VW];simp only[dr];have:=y _ (i+1) (c+t.agr (a+d_ k)) (λu hu=>hm u (by simp[hu])) L VW;rw[show((c+t.agr (a+d_ k):Nat):Int)=(c:Int)+(t.agr (a+d_ k):Int) by omega] at this;rw[this];simp only[cU,Nf]
     have:=loop l x.agk 0 0 (λt h=>h) q VW;rw[show((0:Nat):Int)=0 from rfl] at this;have g:dR .i64 a (d_ k)=a+d_ k:=ds VW VW;simp only[NB z,cv,j,g];rw[this];simp only[cv,cS,tG];rw[Tm.ej,cI (λh=>v h.1),tG]
def Cm{M N B:Int}(w:M<=B)(s:Tm)(hs:s.agp N=true)(t:Tm):∀n,0<=n->N+n+t.agl<=B->t.agp M=true->t.ok=true->(Tm.j3 n t s).agp B=true:=by
 induction t using Tm.ind with
 |h k i ty l f=>
  intro n hn g d p;have j:=d;rw[Tm.dI] at d;simp only[ez,iC,kn] at d;obtain⟨o1,o2,z,q,A⟩:=Tm.ib p;rw[Tm.ka]
  have c:∀(u:Tm) {a b:Int},a<=b->u.agp a=true->u.agp b=true:=by
   intro u
   induction u using Tm.ind with
   |h k i s l f=>
    intro a b m;rw[Tm.dI,Tm.dI];simp only[ez,iC,kn]
    exactλ⟨C,r⟩=>⟨VW,λx e=>f x e m (r x e)⟩
  have D:1<=(Tm.mk k i ty l).agl:=Tm.db _
  by_cases o:k=1
  ·rw[cK o];unfold Tm.pC
   split
   ·exact c _ VW (E3 hn s 0 hs)
   ·split
    ·rw[Tm.dI];simp;omega
    ·exact c _ VW j
  ·rw[cI o,Tm.dI];simp only[ez,iC,kn];refine⟨VW,?_⟩;intro x e;obtain⟨y,hy,rfl⟩:=nU.1 e;have v:=h9 k;have hm:=c6 Tm.agl hy;rw[Tm.cJ] at g;exact f y hy (n+d_ k) VW VW (d.2 y hy) (q y hy)
def put_eq{M N:Int}(hM:0<=M/\M<=100000000000)(hN:0<=N/\N<=100000000000)(s:Tm)(d:Sm N s):∀(n:Nat) (t:Tm) (p q:Nat) (nh:List HC) (a:Int),t.agl<=n->NR nh p t->NR nh q s->Sm M t->0<=a->a+t.agl<=100000000000->t.agl+t.agr a*s.agl<=100000000->∃E b,jX n (some p) a (some q) nh=some (some E,b)/\Kp nh b/\NR b E (Tm.j3 a t s):=by
 intro n
 induction n with
 |zero=>intro t p q nh a h;have:=t.db;omega
 |succ n H=>
  intro t p q nh a hn X Y hs Z I z;obtain⟨x,J,w,K,L,O,e6,e7,e8⟩:=X.inv;rw[jX];simp only[cv,J,e7,r']
  by_cases o:t.fr<=a
  ·rw[cK o];exact⟨p,nh,rfl,Kp.refl _,by rw[Tm.ML s t a hs.ok Z o];exact X⟩
  ·rw[cI o];cases t with
   |mk k i ty l=>
    simp only[Tm.da,Tm.dW,Tm.dv,Tm.cZ] at w K L O;have aa:=hs.idx;obtain⟨o1,o2,o3,P,o5⟩:=Tm.ib hs.ok
    by_cases G:k=1
    ·subst G;have hl:=o1 rfl;subst hl
     have ab:a<=i:=by rw[Tm.fr,cK rfl] at o;omega
     rw[cK (by rw[w];rfl),K];simp only[dO];rw[Tm.ka,cK rfl];unfold Tm.pC
     by_cases e:i=a
     ·rw[cK e,cK e];have A:=d.agl;obtain⟨E,b,g1,g2,g3⟩:=P2 (M:=N) VW FU s q nh 0 a (by rw[dp];omega) Y d VW VW Z VW;exact⟨E,b,by rw[g1];rfl,g2,g3⟩
     ·rw[cI e,cI e,cK VW];obtain⟨b,g1,g2,g3⟩:=mO (k:=1) (i:=i-1) (s:=ty) (ps:=[]) (ts:=[]) (nh:=nh) .nil (by simp[cU]) VW aaB;refine⟨nh.length,b,?_,g2,?_⟩
      ·rw[w,L,dF VW VW,g1];rfl
      ·have hz:ty=.mk 0 []:=by
        have:=hs.ok;rw[Tm.eD] at this;simp only[ez,Tm.node] at this
        have h4:ty.mg=true:=by simpa[gI] using this.1.2
        exact(Ty.iR ty).1 h4
       rw[<-hz];exact g3
    ·rw[cI (by rw[w];simpa using G)];have A:=hs.agl;rw[Tm.cJ] at A I hn;have hlen:=Tm.dK l;have ad:x.agk.length=l.length:=O.len;rw[cT VW];simp only[cL,cN];have ae:=h9 k;rw[Tm.ej,cI (λh=>G h.1),tG,Tm.cJ] at z
     have Q:∀t∈l,t.agl+t.agr (a+d_ k)*s.agl<=100000000:=by
      intro t c;have o:=c6 Tm.agl c;have e:=c6 (Tm.agr (a+d_ k)) c;have h3:=Lt s.agl e;omega
     obtain⟨v',b,g1,g2,g3⟩:=vu (F:=λj R=>nk λf g=>
       cG (hJ (some p) g) λB=>
       cX (jX n R (dR .i64 a B) (some q) g) λm u=>
       fY (eM f [m])<|some (.next ((eV f [m]),u))) (λt=>Tm.j3 (a+d_ k) t s) nh l (by
       intro t c r S j v C T hv;have U:=hs.arg t c;have hm:=c6 Tm.agl c;obtain⟨q',V,a1,a2,a3⟩:=H t r q S (a+d_ k) VW T ((NE.kp C).node _ _ Y) U VW VW (Q t c);refine⟨q',V,?_,a2,a3⟩;simp only[gD,(NE.kp C).below J,cv,w];rw[ds VW VW,a1];simp only[cH];rw[dt (by simpa using hv)]
       rfl) x.agk 0 nh [] [] (Kp.refl _) O .nil aaP
     rw[g1];simp only[cv,cS,gD];obtain⟨x2,c1⟩:=(NE.kp g2).get p x J;unfold ft;simp only[cv,c1]
     have D:∀t∈l,(Tm.j3 (a+d_ k) t s).agl<=t.agl+t.agr (a+d_ k)*s.agl:=by
      intro t c;have:=Tm.mi s t (a+d_ k) (P t c);omega
     obtain⟨W,d1,d2,d3⟩:=mO (k:=k) (i:=i) (s:=ty) (ps:=v') (ts:=l.map (λt=>Tm.j3 (a+d_ k) t s)) (nh:=b) (by simpa using g3) (by
      rw[k8];have o:=gP D
      have e:∀l:List Tm,cU (λt=>t.agl+t.agr (a+d_ k)*s.agl) l=cU Tm.agl l+cU (Tm.agr (a+d_ k)) l*s.agl:=by
       intro l
       induction l with
       |nil=>simp[cU]|cons t l H=>simp only[cU,H,A7];omega
      rw[e] at o
      omega) VW (by
      intro t c;obtain⟨y,hy,rfl⟩:=nU.1 c;have hm:=c6 Tm.agl hy;have:=Tm.No (Tm.j3 (a+d_ k) y s) (M:=M+N+(a+d_ k)+y.agl) VW (Tm.Mx s d.ok y _ VW (P y hy)) (Cm (M:=M) VW s d.agp y _ VW VW (hs.arg y hy).agp (P y hy))
      omega)
     refine⟨b.length,W,?_,g2.trans d2,?_⟩
     ·rw[w,K,L,d1];rfl
     ·rw[Tm.ka,cI G];exact d3
def oU(a b:Int):dm a b=decide (a=b):=by grind[dm]
def SS{α:Type}{l:List α}(h:l.length=1):∃a,l=[a]:=by
 match l,h with|[a],_=>exact⟨a,rfl⟩
def TV{α:Type}{l:List α}(h:l.length=2):∃a b,l=[a,b]:=by
 match l,h with|[a,b],_=>exact⟨a,b,rfl⟩
def W9{α:Type}{l:List α}(h:l.length=3):∃a b c,l=[a,b,c]:=by
 match l,h with|[a,b,c],_=>exact⟨a,b,c,rfl⟩
def pz.inv1{nh:List HC}{ps:List (Option Nat)}{a:Tm}(h:pz nh ps [a]):∃p,ps=[some p]/\NR nh p a:=by
 cases h with|cons b c=>cases c;exact⟨_,rfl,b⟩
def pz.inv2{nh:List HC}{ps:List (Option Nat)}{a b:Tm}(h:pz nh ps [a,b]):∃p q,ps=[some p,some q]/\NR nh p a/\NR nh q b:=by
 cases h with|cons c d=>obtain⟨q,rfl,e⟩:=d.inv1;exact⟨_,q,rfl,c,e⟩
def pz.Fw{nh:List HC}{ps:List (Option Nat)}{a b c:Tm}(h:pz nh ps [a,b,c]):∃p q r,ps=[some p,some q,some r]/\NR nh p a/\NR nh q b/\NR nh r c:=by
 cases h with|cons d e=>obtain⟨q,r,rfl,f,g⟩:=e.inv2;exact⟨_,q,r,rfl,d,f,g⟩
def pz.abW{nh:List HC}{ps:List (Option Nat)}(h:pz nh ps []):ps=[]:=by cases h;rfl
def Tm.q_{k i:Int}{s:Ty}{l:List Tm}(h:(Tm.mk k i s l).ok=true):(l.length:Int)=fm k:=(Tm.ib h).2.2.2.2
def Tm.ok3{i:Int}{s:Ty}{l:List Tm}(h:(Tm.mk 3 i s l).ok=true):∃a b,l=[a,b]:=TV (by have:=Tm.q_ h;have e:fm 3=2:=rfl;omega)
def Tm.ok6{i:Int}{s:Ty}{l:List Tm}(h:(Tm.mk 6 i s l).ok=true):∃a b c,l=[a,b,c]:=W9 (by have:=Tm.q_ h;have e:fm 6=3:=rfl;omega)
def Tm.ok9{i:Int}{s:Ty}{l:List Tm}(h:(Tm.mk 9 i s l).ok=true):∃a b c,l=[a,b,c]:=W9 (by have:=Tm.q_ h;have e:fm 9=3:=rfl;omega)
def Tm.ok2{i:Int}{s:Ty}{l:List Tm}(h:(Tm.mk 2 i s l).ok=true):∃a,l=[a]:=SS (by have:=Tm.q_ h;have e:fm 2=1:=rfl;omega)
def Tm.T8{k i:Int}{s:Ty}{l:List Tm}(b:k=11\/k=12)(h:(Tm.mk k i s l).ok=true):∃a,l=[a]:=SS (by
 have:=Tm.q_ h;rcases b with rfl|rfl
 ·have e:fm 11=1:=rfl;omega
 ·have e:fm 12=1:=rfl;omega)
def Tm.aaw{i:Int}{s:Ty}{l:List Tm}(h:(Tm.mk 10 i s l).ok=true):∃a b,l=[a,b]:=TV (by have:=Tm.q_ h;have e:fm 10=2:=rfl;omega)
def Tm.ok0{k i:Int}{s:Ty}{l:List Tm}(a:k=4\/k=7)(h:(Tm.mk k i s l).ok=true):l=[]:=Dq (by
 have:=Tm.q_ h;rcases a with rfl|rfl
 ·have e:fm 4=0:=rfl;omega
 ·have e:fm 7=0:=rfl;omega)
def Tm.ok5{i:Int}{s:Ty}{l:List Tm}(h:(Tm.mk 5 i s l).ok=true):∃a,l=[a]:=SS (by have:=Tm.q_ h;have e:fm 5=1:=rfl;omega)
def Tm.ok8{i:Int}{s:Ty}{l:List Tm}(h:(Tm.mk 8 i s l).ok=true):∃a b,l=[a,b]:=TV (by have:=Tm.q_ h;have e:fm 8=2:=rfl;omega)
def Tm.xC{k i:Int}{s:Ty}{l:List Tm}(h:(Tm.mk k i s l).ok=true):∀t∈l,t.ok=true:=(Tm.ib h).2.2.2.1
inductive Tm.Rd:Tm->Prop
 |app {i s i' s' b a}:Tm.Rd (.mk 3 i s [.mk 2 i' s' [b],a])|zero {k ko i s i' s' b st}:(k=6/\ko=4\/k=9/\ko=7)->Tm.Rd (.mk k i s [b,st,.mk ko i' s' []])|succ {i s i' s' b st n}:Tm.Rd (.mk 6 i s [b,st,.mk 5 i' s' [n]])|cons {i s i' s' b st h t}:Tm.Rd (.mk 9 i s [b,st,.mk 8 i' s' [h,t]])|proj {k i s i' s' a b}:(k=11\/k=12)->Tm.Rd (.mk k i s [.mk 10 i' s' [a,b]])
def Tm.Cn{t:Tm}(d:t.ok=true)(h:t.root=true):t.Rd:=by
 cases t with
 |mk k i s l=>
  unfold Tm.root at h;simp only[nA,ez,kn] at h;rcases h with((⟨rfl,h⟩|⟨rfl,h⟩)|⟨rfl,h⟩)|⟨e,h⟩
  ·obtain⟨a,b,rfl⟩:=Tm.ok3 d;cases a with
   |mk k' f g j=>
    have e:k'=2:=by simpa[Tm.kd] using h
    subst e;obtain⟨q,rfl⟩:=Tm.ok2 (Tm.xC d (.mk 2 f g j) aaB);exact .app
  ·obtain⟨a,b,c,rfl⟩:=Tm.ok6 d;cases c with
   |mk k' f g j=>
    have e:k'=4\/k'=5:=by simpa[Tm.kd] using h
    have o:=Tm.xC d (.mk k' f g j) aaB;rcases e with rfl|rfl
    ·rw[Tm.ok0 (.inl rfl) o];exact .zero (.inl ⟨rfl,rfl⟩)
    ·obtain⟨n,rfl⟩:=Tm.ok5 o;exact .succ
  ·obtain⟨a,b,c,rfl⟩:=Tm.ok9 d;cases c with
   |mk k' f g j=>
    have e:k'=7\/k'=8:=by simpa[Tm.kd] using h
    have o:=Tm.xC d (.mk k' f g j) aaB;rcases e with rfl|rfl
    ·rw[Tm.ok0 (.inr rfl) o];exact .zero (.inr ⟨rfl,rfl⟩)
    ·obtain⟨n,m,rfl⟩:=Tm.ok8 o;exact .cons
  ·obtain⟨a,rfl⟩:=Tm.T8 e d;cases a with
   |mk k' f g j=>
    have p:k'=10:=by simpa[Tm.kd] using h
    subst p;obtain⟨a,b,rfl⟩:=Tm.aaw (Tm.xC d (.mk 10 f g j) aaB);exact .proj e
def Fs{nh:List HC}{p:Nat}{t:Tm}(v:NR nh p t)(j:t.ok=true):mq (some p) nh=some t.root:=by
 obtain⟨x,w,n,A,B,f,C,D,E⟩:=v.inv;unfold mq;simp only[cv,w,cN];cases t with
 |mk k i s l=>
  simp only[Tm.da,Tm.cZ] at n f;rw[n];unfold Tm.root
  by_cases o:k=3
  ·subst o;obtain⟨a,b,rfl⟩:=Tm.ok3 j;obtain⟨pa,pb,d,g,q⟩:=f.inv2;obtain⟨y,f1,f2,_⟩:=g.inv;rw[cK aaa,d];simp[dg,f1,f2,Tm.kd,oU]
  ·rw[cI (by simpa using o)]
   by_cases r:k=6
   ·subst r;obtain⟨a,b,c,rfl⟩:=Tm.ok6 j;obtain⟨pa,pb,z,d,g,q,m⟩:=f.Fw;obtain⟨y,f1,f2,_⟩:=m.inv;rw[cK aaa,d];simp only[fU,jF,gd,cv,f1,f2,Tm.kd,dO]
    by_cases h:c.agj=4
    ·simp[h]
    ·simp[h,oU]<;>exact HT.2 Iff.rfl
   ·rw[cI (by simpa using r)]
    by_cases u:k=9
    ·subst u;obtain⟨a,b,c,rfl⟩:=Tm.ok9 j;obtain⟨pa,pb,z,d,g,q,m⟩:=f.Fw;obtain⟨y,f1,f2,_⟩:=m.inv;rw[cK aaa,d];simp only[fU,jF,gd,cv,f1,f2,Tm.kd,dO]
     by_cases h:c.agj=7
     ·simp[h]
     ·simp[h,oU]<;>exact HT.2 Iff.rfl
    ·rw[cI (by simpa using u)]
     by_cases e:k=11\/k=12
     ·obtain⟨a,rfl⟩:=Tm.T8 e j;obtain⟨pa,d,g⟩:=f.inv1;obtain⟨y,f1,f2,_⟩:=g.inv;rw[cK (by rcases e with rfl|rfl<;>rfl),d];simp only[dg,gd,cv,f1,f2,Tm.kd];rcases e with rfl|rfl<;>simp[oU]<;>exact HT.2 Iff.rfl
     ·grind[ja,dO]
theorem ku:∀(l:List Tm) (f:Tm),(i_ f l).agl=f.agl+cU Tm.agl l+l.length
 |[],f=>by simp[i_,cU]|a::l,f=>by
  rw[i_,ku l,Tm.cJ]
  grind[cU]
def Du{M:Int}(C:0<=M/\M<=500000000000):∀(ts:List Tm) (ps:List (Option Nat)) (nh:List HC) (b:Nat) (f:Tm),pz nh ps ts->NR nh b f->(∀t∈ts,0<=t.fr/\t.fr<=M)->0<=f.fr/\f.fr<=M->f.agl+cU Tm.agl ts+ts.length<=10000000->∃c a,sR (some b) ps nh=some (some c,a)/\Kp nh a/\NR a c (i_ f ts):=by
 intro ts ps nh b f g h d j hn;have hlen:ps.length=ts.length:=g.len;unfold sR;rw[cT VW];simp only[cL,cN]
 have loop:∀(ts:List Tm) (ps:List (Option Nat)) (i:Nat) (nh:List HC) (b:Nat) (f:Tm),pz nh ps ts->NR nh b f->(∀t∈ts,0<=t.fr/\t.fr<=M)->0<=f.fr/\f.fr<=M->f.agl+cU Tm.agl ts+ts.length<=10000000->∃c a,dP (λ(v:Int) (o:Option Nat)=>(nk λ(v171:Option Nat) (l:List HC)=>
    cX (kK 3 0 (Ty.mk 0 []) [v171,o] l) λm e=>some ((.next (m,e)):eu ((Option Nat)×List HC) ((Option Nat)×List HC)))) ps i (some b,nh)=some (.inl (some c,a))/\Kp nh a/\NR a c (i_ f ts):=by
  intro ts
  induction ts with
  |nil=>
   intro ps i nh b f g h _ _ _;cases g;exact⟨b,nh,rfl,Kp.refl _,h⟩
  |cons t ts w=>
   intro ps i nh b f g h d j hn;cases g with
   |cons x y=>
    rename_i p ps;simp only[cU,hW] at hn;have D:=d t aaB
    obtain⟨q,a1,a2,a3⟩:=mO (k:=3) (i:=0) (s:=.mk 0 []) (ps:=[some b,some p]) (ts:=[f,t]) (nh:=nh) (.cons h (.cons x .nil)) (by simp[cU];omega) VW (by
     intro u hu;simp only[iL,pt,mQ] at hu
     rcases hu with rfl|rfl<;>omega)
    have r:=NE.kp a2
    have n:0<=(Tm.mk 3 0 (.mk 0 []) [f,t]).fr/\(Tm.mk 3 0 (.mk 0 []) [f,t]).fr<=M:=by grind[Tm.fr,Tm.Bu,nZ]
    obtain⟨c,a,z,A,B⟩:=w ps (i+1) q nh.length (.mk 3 0 (.mk 0 []) [f,t]) (r.list y) a3 (λu hu=>d u (by simp[hu])) n (by
     rw[Tm.cJ];simp only[cU];omega)
    refine⟨c,a,?_,a2.trans A,B⟩;rw[dq];simp only[gD,a1,cH,cv,dr];exact z
 obtain⟨c,a,a1,a2,a3⟩:=loop ts ps 0 nh b f g h d j hn;rw[a1];exact⟨c,a,rfl,a2,a3⟩
def Hz{α:Type}(a:α):df [a] (ea .i64 (dn [a]) 1)=some a:=by
 have:ea .i64 (dn [a]) 1=0:=by simp only[dz,hW,tY];decide
 rw[this];rfl
def Hf{α:Type}(a b:α):df [a,b] (ea .i64 (dn [a,b]) 1)=some b:=by
 have:ea .i64 (dn [a,b]) 1=1:=by simp only[dz,hW,tY];decide
 rw[this];rfl
def yq{M:Int}(hM:0<=M/\M<=90000000000){nh:List HC}{p:Nat}{t:Tm}(hr:NR nh p t)(hs:Sm M t)(hn:t.agl<=8192)(F:t.root=true):∃R l,jk (some p) nh=some (some R,l)/\Kp nh l/\NR l R t.dX:=by
 have U:=Tm.Cn hs.ok F;obtain⟨x,V,g,S,T,w,e6,e7,e8⟩:=hr.inv;unfold jk;simp only[cv,V];have e:∀u:Tm,Sm M u->0<=u.fr/\u.fr<=M+1:=λu hu=>hu.fr hM.1;cases U with
 |app=>
  rename_i i s z A b a;simp only[Tm.da,Tm.cZ] at g w;obtain⟨pf,pa,B,W,X⟩:=w.inv2;obtain⟨y,f1,f2,f3,f4,f5,_⟩:=W.inv;simp only[Tm.da,Tm.cZ] at f2 f5;obtain⟨pb,C,D⟩:=f5.inv1;have Y:=hs.arg (.mk 2 z A [b]) aaB;have Z:=hs.arg a aaB;have m:=Y.arg b aaB;rw[Tm.cJ] at hn;simp only[cU,Tm.cJ] at hn;have af:=Tm.fD b 0;have hmul:b.agr 0*a.agl<=8192*8192:=DC VW VW;obtain⟨R,l,g1,g2,g3⟩:=put_eq (M:=M) (N:=M) VW VW a Z FU b pb pa nh 0 (by rw[dp];omega) D X m VW VW VW;refine⟨R,l,?_,g2,g3⟩;rw[g,cK aaa,B];simp only[dg,ed,gd,jF,cv,f1,C,g1,cH]
 |proj hk=>
  rename_i k i s z A a b;simp only[Tm.da,Tm.cZ] at g w;obtain⟨pf,B,W⟩:=w.inv1;obtain⟨y,f1,f2,f3,f4,f5,_⟩:=W.inv;simp only[Tm.da,Tm.cZ] at f2 f5;obtain⟨pa,pb,C,X,D⟩:=f5.inv2;rcases hk with rfl|rfl
  ·refine⟨pa,nh,?_,Kp.refl _,by simpa[Tm.dX] using X⟩;rw[g,cI aaa,cK aaa,B];simp only[dg,gd,cv,f1,C]
  ·refine⟨pb,nh,?_,Kp.refl _,by simpa[Tm.dX] using D⟩;rw[g,cI aaa,cI aaa,cK aaa,B];simp only[dg,ed,gd,jF,cv,f1,C]
 |zero hk=>
  rename_i k ko i s z A b st;simp only[Tm.da,Tm.cZ] at g w;obtain⟨pb,ps,po,B,D,j,L⟩:=w.Fw;obtain⟨y,f1,f2,f3,f4,f5,_⟩:=L.inv;simp only[Tm.da,Tm.cZ] at f2 f5;have O:=f5.abW;refine⟨pb,nh,?_,Kp.refl _,?_⟩
  ·have f:k≠3/\k≠11/\k≠12:=VW
   rw[g,cI (by simpa using f.1),cI (by simpa using f.2.1),cI (by simpa using f.2.2),B];simp only[dg,ed,fU,gd,jF,cv,f1,O];rfl
  ·have:(Tm.mk k i s [b,st,.mk ko z A []]).dX=b:=by
    have f:k≠3/\k≠11/\k≠12:=VW
    simp[Tm.dX,f.1,f.2.1,f.2.2]
   rw[this];exact D
 |succ=>
  rename_i i s z A b st n;simp only[Tm.da,Tm.cZ,Tm.dW,Tm.dv] at g S T w;obtain⟨pb,ps,po,B,D,j,L⟩:=w.Fw;obtain⟨y,f1,f2,f3,f4,f5,_⟩:=L.inv;simp only[Tm.da,Tm.cZ] at f2 f5;obtain⟨P,o,q⟩:=f5.inv1;have m:=hs.arg b aaB;have G:=hs.arg st aaB;have E:=hs.arg (.mk 5 z A [n]) aaB;have H:=E.arg n aaB;rw[Tm.cJ] at hn;simp only[cU,Tm.cJ] at hn;have Q:=hs.idx;have b1:=e b m;have b2:=e st G;have b3:=e n H
  obtain⟨I,a1,a2,a3⟩:=mO (k:=6) (i:=i) (s:=s) (ps:=[some pb,some ps,some P]) (ts:=[b,st,n]) (nh:=nh) (.cons D (.cons j (.cons q .nil))) (by simp[cU];omega) VW (by
   intro u hu;simp only[iL,pt,mQ] at hu
   rcases hu with rfl|rfl|rfl<;>omega)
  have d:=NE.kp a2;obtain⟨c,fc⟩:=d.get _ _ f1;obtain⟨p2,J,d1,d2,d3⟩:=Du (M:=M+1) VW [n] [some P] I ps st (.cons (d.node _ _ q) .nil) (d.node _ _ j) (by intro u hu;simp only[iL,pt,mQ] at hu;subst hu;omega) VW (by simp[cU];omega)
  have r:0<=(Tm.mk 6 i s [b,st,n]).fr/\(Tm.mk 6 i s [b,st,n]).fr<=M+1:=by
   rw[Tm.fr,cI aaa,cI aaa];simp only[Tm.Bu,nZ];omega
  have v:0<=(i_ st [n]).fr/\(i_ st [n]).fr<=M+1:=by
   simp only[i_];rw[Tm.fr,cI aaa,cI aaa];simp only[Tm.Bu,nZ];omega
  have aa:(Tm.mk 6 i s [b,st,n]).agl<=10000:=by rw[Tm.cJ];simp only[cU];omega
  have ab:(i_ st [n]).agl<=10000:=by rw[ku];simp only[cU,hW,tY];omega
  obtain⟨p3,K,g1,g2,g3⟩:=Du (M:=M+1) VW [.mk 6 i s [b,st,n]] [some nh.length] J p2 (i_ st [n]) (.cons ((NE.kp d2).node _ _ a3) .nil) d3 (by intro u hu;simp only[iL,pt,mQ] at hu;subst hu;exact r) v (by simp only[cU,hW,tY];omega);refine⟨p3,K,?_,(a2.trans d2).trans g2,?_⟩
  ·rw[g,cI aaa,cI aaa,cI aaa,B];simp only[dg,ed,fU,gd,jF,cv,f1,o];rw[cI (by simp only[dz,hW,tY];decide),Hz];unfold ft;simp only[cv,V,g,S,T,a1,cH,fc,o,d1,g1]
  ·have:(Tm.mk 6 i s [b,st,.mk 5 z A [n]]).dX=i_ (i_ st [n]) [.mk 6 i s [b,st,n]]:=by simp[Tm.dX,i_]
   rw[this];exact g3
 |cons=>
  rename_i i s z A b st h n;simp only[Tm.da,Tm.cZ,Tm.dW,Tm.dv] at g S T w;obtain⟨pb,ps,po,B,D,j,L⟩:=w.Fw;obtain⟨y,f1,f2,f3,f4,f5,_⟩:=L.inv;simp only[Tm.da,Tm.cZ] at f2 f5;obtain⟨ph,P,o,ad,q⟩:=f5.inv2;have m:=hs.arg b aaB;have G:=hs.arg st aaB;have E:=hs.arg (.mk 8 z A [h,n]) aaB;have H:=E.arg n aaB;have ae:=E.arg h aaB;rw[Tm.cJ] at hn;simp only[cU,Tm.cJ] at hn;have Q:=hs.idx;have b1:=e b m;have b2:=e st G;have b3:=e n H;have b4:=e h ae
  obtain⟨I,a1,a2,a3⟩:=mO (k:=9) (i:=i) (s:=s) (ps:=[some pb,some ps,some P]) (ts:=[b,st,n]) (nh:=nh) (.cons D (.cons j (.cons q .nil))) (by simp[cU];omega) VW (by
   intro u hu;simp only[iL,pt,mQ] at hu
   rcases hu with rfl|rfl|rfl<;>omega)
  have d:=NE.kp a2;obtain⟨c,fc⟩:=d.get _ _ f1;obtain⟨p2,J,d1,d2,d3⟩:=Du (M:=M+1) VW [h,n] [some ph,some P] I ps st (.cons (d.node _ _ ad) (.cons (d.node _ _ q) .nil)) (d.node _ _ j) (by intro u hu;simp only[iL,pt,mQ] at hu;rcases hu with rfl|rfl<;>omega) VW (by simp[cU];omega)
  have r:0<=(Tm.mk 9 i s [b,st,n]).fr/\(Tm.mk 9 i s [b,st,n]).fr<=M+1:=by
   rw[Tm.fr,cI aaa,cI aaa];simp only[Tm.Bu,nZ];omega
  have v:0<=(i_ st [h,n]).fr/\(i_ st [h,n]).fr<=M+1:=by
   simp only[i_];rw[Tm.fr,cI aaa,cI aaa];simp only[Tm.Bu];rw[Tm.fr,cI aaa,cI aaa];simp only[Tm.Bu,nZ];omega
  have aa:(Tm.mk 9 i s [b,st,n]).agl<=10000:=by rw[Tm.cJ];simp only[cU];omega
  have ab:(i_ st [h,n]).agl<=10000:=by rw[ku];simp only[cU,hW,tY];omega
  obtain⟨p3,K,g1,g2,g3⟩:=Du (M:=M+1) VW [.mk 9 i s [b,st,n]] [some nh.length] J p2 (i_ st [h,n]) (.cons ((NE.kp d2).node _ _ a3) .nil) d3 (by intro u hu;simp only[iL,pt,mQ] at hu;subst hu;exact r) v (by simp only[cU,hW,tY];omega);refine⟨p3,K,?_,(a2.trans d2).trans g2,?_⟩
  ·rw[g,cI aaa,cI aaa,cI aaa,B];simp only[dg,ed,fU,gd,jF,cv,f1,o];rw[cI (by simp only[dz,hW,tY];decide),Hf];unfold ft;simp only[cv,V,g,S,T,a1,cH,fc,o,d1,g1]
  ·have:(Tm.mk 9 i s [b,st,.mk 8 z A [h,n]]).dX=i_ (i_ st [h,n]) [.mk 9 i s [b,st,n]]:=by simp[Tm.dX,i_]
   rw[this];exact g3
def yX:∀(n:Nat) (t:Ty),t.agl<=n->t.agl<=1000000000->lz n t=some t:=by
 intro n
 induction n with
 |zero=>intro t h;have:=t.db;omega
 |succ n a=>
  intro t h b;cases t with
  |mk k l=>
   rw[Ty.cJ] at h b;have e:=Ty.dK l;rw[lz];simp only[Ty.cZ,Ty.da,cN,cT (l:=l) VW,cL];rw[fy id l 0 [] aaP]
   ·simp
   ·intro j x v c d;have:=c6 Ty.agl c;rw[a x VW VW];simp[dt (l:=v) (m:=[x]) (by simpa using d)]
def kF{t:Ty}(h:t.agl<=1000000000):lz FU t=some t:=yX FU t (by rw[dp];exact h) h
def Ty.qY{k i:Int}{s:Ty}{n:Nat}(h:Tm.node k i s n=true):s.agl<=64:=by
 unfold Tm.node at h;simp only[ez] at h;have a:=h.2
 by_cases b:gI k=true
 ·rw[cK b] at a;simp only[kn] at a;unfold Ty.err at a
  split at a
  ·split at a
   ·omega
   ·omega
  ·omega
 ·rw[cI b] at a;rw[(Ty.iR s).1 a,Ty.cJ];simp[cU]
def Pa{M:Int}(C:0<=M/\M<=500000000000):∀(n:Nat) (t:Tm) (nh:List HC),t.agl<=n->Sm M t->∃p a,pG n t nh=some (some p,a)/\Kp nh a/\NR a p t:=by
 intro n
 induction n with
 |zero=>intro t nh h;have:=t.db;omega
 |succ n D=>
  intro t nh h hs;cases t with
  |mk k i s l=>
   have m:=hs.agl;have A:=hs.idx;rw[Tm.cJ] at h m;have hlen:=Tm.dK l;rw[pG];simp only[Tm.cZ,Tm.da,Tm.dW,Tm.dv,cN,cT (l:=l) VW,cL]
   have loop:∀(ts:List Tm) (i:Nat) (nh:List HC) (v:List (Option Nat)) (us:List Tm),(∀t∈ts,t∈l)->pz nh v us->v.length+ts.length<=1000000->∃e a,dP (λ(B:Int) (f:Tm)=>(nk λ(b:(List (Option Nat))) (g:List HC)=>
      cX (pG n f g) λc d=>
      fY (eM b [c])<|some ((.next ((eV b [c]),d)):eu ((List (Option Nat))×List HC) ((Option Nat)×List HC)))) ts i (v,nh)=some (.inl (e,a))/\Kp nh a/\pz a e (us++ts):=by
    intro ts
    induction ts with
    |nil=>intro i nh v us _ o _;exact⟨v,nh,rfl,Kp.refl _,by simpa using o⟩|cons t ts q=>
     intro i nh v us hm o E;simp only[hW] at E;have j:=hm t aaB;have F:=c6 Tm.agl j;obtain⟨p,r,a1,a2,a3⟩:=D t nh VW (hs.arg t j);obtain⟨e,a,w,x,y⟩:=q (i+1) r (v++[some p]) (us++[t]) (λu hu=>hm u (by simp[hu])) (((NE.kp a2).list o).append (.cons a3 .nil)) aaP;refine⟨e,a,?_,a2.trans x,by simpa using y⟩;rw[dq];simp only[gD,a1,cH];rw[dt aaP];simp only[cL,eb,cv,dr];exact w
   obtain⟨e,a,a1,a2,a3⟩:=loop l 0 nh [] [] (λt h=>h) .nil aaP;rw[a1];simp only[cv,cS,gD]
   obtain⟨z,w,x,y⟩:=mO (k:=k) (i:=i) (s:=s) (ps:=e) (ts:=l) (nh:=a) (by simpa using a3) VW VW (by
    intro t G;have:=(hs.arg t G).fr C.1
    omega)
   exact⟨a.length,z,by rw[w];rfl,a2.trans x,y⟩
def Iy{M:Int}(nh:List HC):∀(n:Nat) (t:Tm) (p:Nat),t.agl<=n->Sm M t->NR nh p t->hS n (some p) nh=some t:=by
 intro n
 induction n with
 |zero=>intro t p h;have:=t.db;omega
 |succ n w=>
  intro t p h hs y;obtain⟨x,z,m,o,q,f,F,G,H⟩:=y.inv;cases t with
  |mk k i s l=>
   simp only[Tm.da,Tm.cZ,Tm.dW,Tm.dv] at m o q f;have g:=hs.agl;rw[Tm.cJ] at h g;have hlen:=Tm.dK l;have A:x.agk.length=l.length:=f.len;have c:=hs.ok;rw[Tm.eD,ez] at c;have B:=Ty.qY c.1;rw[hS];simp only[cv,z,m,o,q,cN,cT (l:=x.agk) VW,cL];rw[kF VW];simp only[cv]
   have loop:∀(ts:List Tm) (ps:List (Option Nat)) (i:Nat) (v:List Tm),(∀t∈ts,t∈l)->pz nh ps ts->v.length+ts.length<=1000000->dP (λ(r:Int) (d:Option Nat)=>(λ(a:List Tm)=>
      cG (hS n d nh) λb=>
      fY (eM a [b])<|some ((.next (eV a [b])):eu (List Tm) Tm))) ps i v=some (.inl (v++ts)):=by
    intro ts
    induction ts with
    |nil=>intro ps i v _ h _;cases h;simp
    |cons t ts j=>
     intro ps i v hm h C;simp only[hW] at C;have e:=hm t aaB;have D:=c6 Tm.agl e;cases h with
     |cons q1 E=>
      rw[dq,w t _ VW (hs.arg t e) q1];simp only[cv];rw[dt aaP];simp only[cL,cv,dr];rw[j _ (i+1) (eV v [t]) (λu hu=>hm u (by simp[hu])) E (by rw[A'];simp;omega)];simp
   rw[loop l x.agk 0 [] (λt h=>h) f aaP];simp
mutual
def NR.VY{nh:List HC}:∀{p:Nat} {t u:Tm},NR nh p t->NR nh p u->t=u
 |_,_,_,.mk (x:=x) a b _ _ _,.mk (x:=y) g1 g2 _ _ _=>by
  rw[a] at g1;obtain rfl:=gB g1;rw[pz.VY b g2]
def pz.VY{nh:List HC}:∀{ps:List (Option Nat)} {ts us:List Tm},pz nh ps ts->pz nh ps us->ts=us
 |_,_,_,.nil,.nil=>rfl|_,_,_,.cons a b,.cons g1 g2=>by rw[NR.VY a g1,pz.VY b g2]
end
def NE.flag{nh:List HC}{p:Nat}{t:Tm}{x:dG}(w:NR nh p t)(r:HC.c8 nh p=some x)(g:t.nf=true):NE nh (ki nh p (HC.dH {x with normal:=true})):=by
 have v:=HC.dh r;have j:=(qb.1 v).1
 have e:HC.c8 (ki nh p (HC.dH {x with normal:=true})) p=some {x with normal:=true}:=by
  unfold HC.c8 ki;simp[j]
 have a:∀q,q≠p->(ki nh p (HC.dH {x with normal:=true}))[q]?=nh[q]?:=by
  intro q c;unfold ki;rw[Lx (λh=>c h.symm)]
 have d:∀q y,HC.c8 nh q=some y->∃b,HC.c8 (ki nh p (HC.dH {x with normal:=true})) q=some {y with normal:=b}/\(b=true->y.normal=true\/q=p):=by
  intro q y hy
  by_cases c:q=p
  ·subst c;rw[r] at hy;obtain rfl:=gB hy;exact⟨true,e,λ_=>.inr rfl⟩
  ·refine⟨y.normal,?_,λh=>.inl h⟩;have:=a q c;unfold HC.c8 at hy|-;rw[this];exact hy
 have key:∀n,(∀q u,u.agl<=n->NR nh q u->NR (ki nh p (HC.dH {x with normal:=true})) q u):=by
  intro n
  induction n with
  |zero=>intro q u h;have:=u.db;omega
  |succ n z=>
   intro q u hu c;obtain⟨y,A,B,C,D,E,F,G,H⟩:=c.inv;obtain⟨b,f1,f2⟩:=d q y A
   have f:∀(ts:List Tm) (ps:List (Option Nat)),(∀t∈ts,t.agl<=n)->pz nh ps ts->pz (ki nh p (HC.dH {x with normal:=true})) ps ts:=by
    intro ts
    induction ts with
    |nil=>intro ps _ h;cases h;exact .nil
    |cons t ts m=>
     intro ps hm h;cases h with
     |cons g1 g2=>exact .cons (z _ _ (hm t aaB) g1) (m _ (λu hu=>hm u (by simp[hu])) g2)
   refine NR.of f1 B C D (f _ _ ?_ E) F G ?_
   ·intro t I;cases u with
    |mk k i s l=>
     rw[Tm.cJ] at hu;have:=c6 Tm.agl I;simp only[Tm.cZ] at this;omega
   ·intro J;rcases f2 J with h|h
    ·exact H h
    ·subst h;rw[<-NR.VY w c];exact g
 refine⟨λq u h=>key _ q u (ig _) h,?_,λq y h=>?_⟩
 ·intro q st c
  have o:q≠p:=by
   rintro rfl;have:=HC.fK c;rw[v] at this;cases this
  unfold HC.dL at c|-;rw[a q o];exact c
 ·obtain⟨b,K,_⟩:=d q y h;exact⟨b,K⟩
mutual
def Tm.BW(room:Int):Tm->Option (Option Tm)
 |.mk k i s l=>if(Tm.mk k i s l).root then(if((Tm.mk k i s l).dX.agl:Int)-((Tm.mk k i s l).agl:Int)>room then none else some (some (Tm.mk k i s l).dX))
  else match Tm.np room l with
   |none=>none|some none=>some none|some (some a)=>some (some (.mk k i s a))
def Tm.np(room:Int):List Tm->Option (Option (List Tm))
 |[]=>some none|t::l=>match t.BW room with
  |none=>none|some (some a)=>some (some (a::l))|some none=>match Tm.np room l with
   |none=>none|some none=>some none|some (some b)=>some (some (t::b))
end
def CF:∀(l:List Tm) (f:Tm),f.ok=true->(∀t∈l,t.ok=true)->(i_ f l).ok=true
 |[],f,h,_=>h|a::l,f,h,b=>by
  rw[i_];refine CF l _ ?_ λt d=>b t (by simp[d]);rw[Tm.eD];simp only[ez,iC];refine⟨rfl,?_⟩;intro x c;simp only[iL,pt,mQ] at c;rcases c with rfl|rfl
  ·exact h
  ·exact b _ aaB
def vF{M:Int}(b:0<=M):∀(l:List Tm) (f:Tm),f.agp M=true->(∀t∈l,t.agp M=true)->(i_ f l).agp M=true
 |[],f,h,_=>h|a::l,f,h,c=>by
  rw[i_];refine vF b l _ ?_ λt e=>c t aaN;rw[Tm.dI];simp only[ez,iC,kn];refine⟨b,?_⟩;intro x d;simp only[iL,pt,mQ] at d;rcases d with rfl|rfl
  ·exact h
  ·exact c _ aaB
def Tm.Dc{k i:Int}{s:Ty}{l m:List Tm}(h:(Tm.mk k i s l).ok=true)(a:m.length=l.length)(hm:∀t∈m,t.ok=true):(Tm.mk k i s m).ok=true:=by
 rw[Tm.eD] at h|-;simp only[ez,iC] at h|-;rw[a];exact⟨h.1,hm⟩
def Tm.vx{M k i:Int}{s:Ty}{l m:List Tm}(h:(Tm.mk k i s l).agp M=true)(hm:∀t∈m,t.agp M=true):(Tm.mk k i s m).agp M=true:=by
 rw[Tm.dI] at h|-;simp only[ez,iC,kn] at h|-;exact⟨h.1,hm⟩
def Ng{M:Int}(B:0<=M){t:Tm}(hs:Sm M t)(hn:t.agl<=8192)(z:t.root=true):t.dX.ok=true/\t.dX.agp (M+8192)=true:=by
 have v:=Tm.Cn hs.ok z;have up:∀u,Sm M u->u.agp (M+8192)=true:=λu hu=>(hu.mono VW).agp;cases v with
 |app=>
  rename_i i s d f b a;have w:=hs.arg (.mk 2 d f [b]) aaB;have p:=hs.arg a aaB;have l:=w.arg b aaB;rw[Tm.cJ] at hn;simp only[cU,Tm.cJ] at hn
  have e:(Tm.mk 3 i s [.mk 2 d f [b],a]).dX=Tm.j3 0 b a:=by simp[Tm.dX]
  rw[e];exact⟨Tm.Mx a p.ok b 0 VW l.ok,Cm (M:=M) (N:=M) VW a p.agp b 0 VW VW l.agp l.ok⟩
 |proj x=>
  rename_i k i s d f a b;have q:=hs.arg (.mk 10 d f [a,b]) aaB;rcases x with rfl|rfl
  ·have:=q.arg a aaB;simpa[Tm.dX] using And.intro this.ok (up _ this)
  ·have:=q.arg b aaB;simpa[Tm.dX] using And.intro this.ok (up _ this)
 |zero x=>
  rename_i k A i s d f b st
  have m:k≠3/\k≠11/\k≠12:=VW
  have:(Tm.mk k i s [b,st,.mk A d f []]).dX=b:=by simp[Tm.dX,m.1,m.2.1,m.2.2]
  rw[this];have:=hs.arg b aaB;exact⟨this.ok,up _ this⟩
 |succ=>
  rename_i i s d f b st n;have r:=hs.arg b aaB;have g:=hs.arg st aaB;have j:=(hs.arg (.mk 5 d f [n]) aaB).arg n aaB
  have e:(Tm.mk 6 i s [b,st,.mk 5 d f [n]]).dX=i_ st [n,.mk 6 i s [b,st,n]]:=by simp[Tm.dX,i_]
  rw[e];have o:(Tm.mk 6 i s [b,st,n]).ok=true:=Tm.Dc hs.ok rfl (by intro t c;simp only[iL,pt,mQ] at c;rcases c with rfl|rfl|rfl;all_goals first|exact r.ok|exact g.ok|exact j.ok);have hle:(Tm.mk 6 i s [b,st,n]).agp (M+8192)=true:=Tm.vx (hs.mono VW).agp (by intro t c;simp only[iL,pt,mQ] at c;rcases c with rfl|rfl|rfl;all_goals first|exact up _ r|exact up _ g|exact up _ j);refine⟨CF _ _ g.ok ?_,vF VW _ _ (up _ g) ?_⟩<;>
  ·intro t c;simp only[iL,pt,mQ] at c;rcases c with rfl|rfl
   ·first|exact j.ok|exact up _ j
   ·first|exact o|exact hle
 |cons=>
  rename_i i s d f b st h n;have r:=hs.arg b aaB;have g:=hs.arg st aaB;have j:=(hs.arg (.mk 8 d f [h,n]) aaB).arg n aaB;have y:=(hs.arg (.mk 8 d f [h,n]) aaB).arg h aaB
  have e:(Tm.mk 9 i s [b,st,.mk 8 d f [h,n]]).dX=i_ st [h,n,.mk 9 i s [b,st,n]]:=by simp[Tm.dX,i_]
  rw[e];have o:(Tm.mk 9 i s [b,st,n]).ok=true:=Tm.Dc hs.ok rfl (by intro t c;simp only[iL,pt,mQ] at c;rcases c with rfl|rfl|rfl;all_goals first|exact r.ok|exact g.ok|exact j.ok);have hle:(Tm.mk 9 i s [b,st,n]).agp (M+8192)=true:=Tm.vx (hs.mono VW).agp (by intro t c;simp only[iL,pt,mQ] at c;rcases c with rfl|rfl|rfl;all_goals first|exact up _ r|exact up _ g|exact up _ j);refine⟨CF _ _ g.ok ?_,vF VW _ _ (up _ g) ?_⟩<;>
  ·intro t c;simp only[iL,pt,mQ] at c;rcases c with rfl|rfl|rfl
   ·first|exact y.ok|exact up _ y
   ·first|exact j.ok|exact up _ j
   ·first|exact o|exact hle
def Tm.vJ(room k i:Int)(s:Ty)(l:List Tm):(Tm.mk k i s l).BW room=if(Tm.mk k i s l).root then(if((Tm.mk k i s l).dX.agl:Int)-((Tm.mk k i s l).agl:Int)>room then none else some (some (Tm.mk k i s l).dX))
 else match Tm.np room l with
  |none=>none|some none=>some none|some (some a)=>some (some (.mk k i s a)):=by rw[Tm.BW]
def Dj{M room:Int}(o:0<=M)(t:Tm):Sm M t->t.agl<=8192->∀e,t.BW room=some (some e)->e.ok=true/\e.agp (M+8192)=true/\(e.agl:Int)<=t.agl+room:=by
 induction t using Tm.ind with
 |h k i s l p=>
  intro hs hn e h;rw[Tm.vJ] at h
  by_cases f:(Tm.mk k i s l).root=true
  ·rw[cK f] at h
   split at h
   ·cases h
   ·obtain rfl:=gB (gB h);obtain⟨q,r⟩:=Ng o hs hn f;exact⟨q,r,VW⟩
  ·rw[cI f] at h;have up:∀u,Sm M u->u.agp (M+8192)=true:=λu hu=>(hu.mono VW).agp;have g:=hn;rw[Tm.cJ] at g
   have w:∀(ts a:List Tm),(∀t∈ts,t∈l)->Tm.np room ts=some (some a)->a.length=ts.length/\(∀t∈a,t.ok=true/\t.agp (M+8192)=true)/\(cU Tm.agl a:Int)<=cU Tm.agl ts+room:=by
    intro ts
    induction ts with
    |nil=>intro a _ h;rw[Tm.np] at h;cases h
    |cons t ts j=>
     intro a hm h;rw[Tm.np] at h;have b:=hm t aaB;have x:=c6 Tm.agl b;have c:=hs.arg t b
     split at h
     ·cases h
     ·rename_i u hu;obtain rfl:=gB (gB h);obtain⟨a1,a2,a3⟩:=p t b c VW u hu;refine⟨rfl,?_,by simp only[cU];omega⟩;intro v hv;rcases iL.1 hv with rfl|hv
      ·exact⟨a1,a2⟩
      ·have:=hs.arg v (hm v (by simp[hv]));exact⟨this.ok,up _ this⟩
     ·split at h
      ·cases h
      ·cases h
      ·rename_i m d;obtain rfl:=gB (gB h);obtain⟨a1,a2,a3⟩:=j m (λu hu=>hm u (by simp[hu])) d;refine⟨by simp[a1],?_,by simp only[cU];omega⟩;intro v hv;rcases iL.1 hv with rfl|hv
       ·exact⟨c.ok,up _ c⟩
       ·exact a2 v hv
   split at h
   ·cases h
   ·cases h
   ·rename_i m d;obtain rfl:=gB (gB h);obtain⟨a1,a2,a3⟩:=w l m (λt h=>h) d;refine⟨Tm.Dc hs.ok a1 λt n=>(a2 t n).1,Tm.vx (hs.mono VW).agp λt n=>(a2 t n).2,?_⟩;rw[Tm.cJ,Tm.cJ];omega
def A1(room:Int)(t:Tm):t.nf=true↔t.BW room=some none:=by
 induction t using Tm.ind with
 |h k i s l f=>
  rw[Tm.H0,Tm.vJ]
  have g:∀ts:List Tm,(∀t∈ts,t∈l)->(ts.all Tm.nf=true↔Tm.np room ts=some none):=by
   intro ts
   induction ts with
   |nil=>intro _;simp[Tm.np]|cons t ts b=>
    intro hm;have j:=f t (hm t aaB);have m:=b λu hu=>hm u (by simp[hu]);rw[sC,ez,j,m,Tm.np];constructor
    ·rintro⟨c,d⟩;rw[c,d]
    ·intro h
     split at h
     ·cases h
     ·cases h
     ·rename_i c
      split at h
      ·cases h
      ·rename_i d;exact⟨c,d⟩
      ·cases h
  have:=g l λt h=>h
  by_cases a:(Tm.mk k i s l).root=true
  ·rw[cK a,a];simp
   try(split<;>simp)
  ·rw[cI a];simp only[ez,UK,this];constructor
   ·rintro⟨_,e⟩;rw[e]
   ·intro h;refine⟨by simpa using a,?_⟩
    split at h
    ·cases h
    ·rename_i e;exact e
    ·cases h
def LO{M:Int}{t:Tm}(hs:Sm M t)(hn:t.agl<=8192)(c:t.root=true):(t.dX.agl:Int)<=1000000000:=by
 have d:=Tm.Cn hs.ok c;cases d with
 |app=>
  rename_i i s g h b a;rw[Tm.cJ] at hn;simp only[cU,Tm.cJ] at hn;have e:=hs.arg (.mk 2 g h [b]) aaB;have j:=Tm.mi a b 0 (e.arg b aaB).ok;have k:=Tm.fD b 0;have hmul:b.agr 0*a.agl<=8192*8192:=DC VW VW
  grind[Tm.j3,Tm.dX]
 |proj f=>
  rw[Tm.cJ] at hn;simp only[cU,Tm.cJ] at hn;rcases f with rfl|rfl<;>(simp[Tm.dX];omega)
 |zero f=>grind[Tm.dX,Tm.cJ,cU]|succ=>grind[i_,Tm.dX,ku,Tm.cJ,cU]|cons=>grind[i_,Tm.dX,ku,Tm.cJ,cU]
def Mc{M:Int}(P:0<=M/\M<=90000000000){nh:List HC}{p:Nat}{t:Tm}(L:NR nh p t)(hs:Sm M t)(hn:t.agl<=8192)(d:t.root=true):oF (some p) nh=some (t.dX.agl:Int):=by
 have Q:=yq P L hs hn d;have D:=Tm.Cn hs.ok d;obtain⟨x,R,f,e3,e4,l,e6,e7,e8⟩:=L.inv;unfold oF nJ;simp only[cv,R];cases D with
 |app=>
  rename_i i s m o b a;simp only[Tm.da,Tm.cZ] at f l;obtain⟨pf,pa,r,S,T⟩:=l.inv2;obtain⟨y,f1,f2,f3,f4,f5,_⟩:=S.inv;simp only[Tm.da,Tm.cZ] at f2 f5;obtain⟨pb,E,v⟩:=f5.inv1;have F:=hs.arg (.mk 2 m o [b]) aaB;have U:=hs.arg a aaB;have B:=F.arg b aaB;rw[Tm.cJ] at hn;simp only[cU,Tm.cJ] at hn;obtain⟨z,g1,_,_,_,_,g6,_⟩:=v.inv;obtain⟨u,g,_,_,_,_,j,_⟩:=T.inv;rw[f,cK aaa,r];simp only[dg,ed,gd,jF,cv,f1,E,g1];rw[count_eq (M:=M) VW nh FU b pb 0 (by rw[dp];omega) v B VW VW];simp only[cv,g,cH,g6,j];have V:=Tm.fD b 0;have hmul:b.agr 0*a.agl<=8192*8192:=DC VW VW;have W:=Tm.mi a b 0 B.ok;have X:=a.db
  have e:(Tm.mk 3 i s [.mk 2 m o [b],a]).dX=Tm.j3 0 b a:=by simp[Tm.dX]
  rw[e]
  have hint:(b.agr 0:Int)*((a.agl:Int)-1)=((b.agr 0*a.agl:Nat):Int)-(b.agr 0:Int):=by rw[R5,QP];simp
  rw[dF VW VW,ux (by rw[hint];omega) (by rw[hint];omega),hint,ds VW VW]
  congr 1
  omega
 |proj N=>
  rename_i k i s m o a b;obtain⟨p',Y,g1,g2,g3⟩:=Q;simp only[Tm.da,Tm.cZ] at f l;obtain⟨z,g,_,_,_,_,j,_⟩:=g3.inv
  have c:k≠3/\k≠6/\k≠9:=VW
  rw[f,cI (by simpa using c.1),cI (by simpa using c.2.1),cI (by simpa using c.2.2),g1];simp only[cH,cv,g,j]
 |zero N=>
  rename_i k Z i s m o b st;simp only[Tm.da,Tm.cZ] at f l;obtain⟨pb,ps,O,r,v,q,C⟩:=l.Fw;obtain⟨y,f1,f2,f3,f4,f5,_⟩:=C.inv;obtain⟨z,g,_,_,_,_,j,_⟩:=v.inv;simp only[Tm.da,Tm.cZ] at f2 f5
  have c:k≠3/\k≠11/\k≠12:=VW
  have:(Tm.mk k i s [b,st,.mk Z m o []]).dX=b:=by simp[Tm.dX,c.1,c.2.1,c.2.2]
  rw[this];rcases N with⟨rfl,rfl⟩|⟨rfl,rfl⟩
  ·rw[f,cI aaa,cK aaa,r];simp only[dg,ed,fU,gd,jF,cv,f1,f2,g,j];rw[cI aaa];rfl
  ·rw[f,cI aaa,cI aaa,cK aaa,r];simp only[dg,ed,fU,gd,jF,cv,f1,f2,g,j];rw[cI aaa];rfl
 |succ=>
  rename_i i s m o b st n;simp only[Tm.da,Tm.cZ] at f l;obtain⟨pb,ps,O,r,v,q,C⟩:=l.Fw;obtain⟨y,f1,f2,f3,f4,f5,_⟩:=C.inv;simp only[Tm.da,Tm.cZ] at f2 f5;obtain⟨pn,w,A⟩:=f5.inv1;obtain⟨z1,g,_,_,_,_,j,_⟩:=v.inv;obtain⟨z2,G,_,_,_,_,H,_⟩:=q.inv;obtain⟨z3,I,_,_,_,_,J,_⟩:=A.inv;rw[Tm.cJ] at hn;simp only[cU,Tm.cJ] at hn
  have e:(Tm.mk 6 i s [b,st,.mk 5 m o [n]]).dX=i_ st [n,.mk 6 i s [b,st,n]]:=by simp[Tm.dX,i_]
  rw[e,ku];simp only[cU,Tm.cJ,hW,tY];rw[f,cI aaa,cK aaa,r];simp only[dg,ed,fU,gd,jF,cv,f1,f2,w,g,G,I,j,H,J];rw[cK aaa];simp only[cH];rw[ux (a:=2) VW VW,ds (a:=2) VW VW,ds (b:=2*(n.agl:Int)) VW VW,ds (b:=1) VW VW,ds (b:=(b.agl:Int)) VW VW,ds VW VW]
  congr 1
  omega
 |cons=>
  rename_i i s m o b st h n;simp only[Tm.da,Tm.cZ] at f l;obtain⟨pb,ps,O,r,v,q,C⟩:=l.Fw;obtain⟨y,f1,f2,f3,f4,f5,_⟩:=C.inv;simp only[Tm.da,Tm.cZ] at f2 f5;obtain⟨ph,pn,w,K,A⟩:=f5.inv2;obtain⟨z1,g,_,_,_,_,j,_⟩:=v.inv;obtain⟨z2,G,_,_,_,_,H,_⟩:=q.inv;obtain⟨z3,I,_,_,_,_,J,_⟩:=A.inv;obtain⟨z4,q1,_,_,_,_,q6,_⟩:=K.inv;rw[Tm.cJ] at hn;simp only[cU,Tm.cJ] at hn
  have e:(Tm.mk 9 i s [b,st,.mk 8 m o [h,n]]).dX=i_ st [h,n,.mk 9 i s [b,st,n]]:=by simp[Tm.dX,i_]
  rw[e,ku];simp only[cU,Tm.cJ,hW,tY];rw[f,cI aaa,cI aaa,cK aaa,r];simp only[dg,ed,fU,gd,jF,cv,f1,f2,w,g,G,I,q1,j,H,J,q6];rw[cK aaa];simp only[cH];rw[ux (a:=2) VW VW,ds (a:=3) VW VW,ds (b:=(h.agl:Int)) VW VW,ds (b:=2*(n.agl:Int)) VW VW,ds (b:=1) VW VW,ds (b:=(b.agl:Int)) VW VW,ds VW VW]
  congr 1
  omega
def zZ{α:Type}(a:List α)(x y:α)(b:List α):(a++x::b).set a.length y=a++y::b:=aaB
def xJ(room:Int)(p:Nat)(t:Tm)(nh:List HC)(o:Option ((Option Nat)×Int×List HC)):Prop:=
 match t.BW room with
 |none=>∃a,o=some (none,4,a)/\NE nh a|some none=>∃a,o=some (none,0,a)/\NE nh a|some (some c)=>∃b a,o=some (some b,0,a)/\NE nh a/\NR a b c
def PX{M room:Int}(hM:0<=M/\M<=80000000000)(X:-100000<=room/\room<=100000):∀(n:Nat) (t:Tm) (p:Nat) (nh:List HC),t.agl<=n->NR nh p t->Sm M t->t.agl<=8192->xJ room p t nh (iw n (some p) room nh):=by
 intro n
 induction n with
 |zero=>intro t p nh h;have:=t.db;omega
 |succ n ih=>
  intro t p nh hn P hs H;obtain⟨x,Y,e2,e3,e4,Z,e6,e7,e8⟩:=P.inv;rw[iw];simp only[cv,Y]
  by_cases K:x.normal=true
  ·rw[cK K];unfold xJ;rw[(A1 room t).1 (e8 K)];exact⟨nh,rfl,NE.refl _⟩
  ·rw[cI K,Fs P hs.ok];simp only[cv];cases t with
   |mk k i s l=>
    by_cases f:(Tm.mk k i s l).root=true
    ·rw[cK f,Mc VW P hs H f];simp only[cv,ei,e6];obtain⟨N,c,g1,g2,g3⟩:=yq (M:=M) VW P hs H f;have ah:=LO hs H f;rw[dF VW VW];unfold xJ;rw[Tm.vJ,cK f]
     by_cases C:((Tm.mk k i s l).dX.agl:Int)-((Tm.mk k i s l).agl:Int)>room
     ·rw[cK C,cK C];exact⟨nh,rfl,NE.refl _⟩
     ·rw[cI C,cI C,g1];exact⟨N,c,rfl,NE.kp g2,g3⟩
    ·rw[cI f];simp only[Tm.da,Tm.cZ,Tm.dW,Tm.dv] at e2 e3 e4 Z;have F:=H;rw[Tm.cJ] at hn F;have hlen:=Tm.dK l;have Q:x.agk.length=l.length:=Z.len;rw[cT VW];simp only[cL,cN];have af:=hs.idx;have R:∀u:Tm,Sm M u->0<=u.fr/\u.fr<=M+1:=λu hu=>hu.fr hM.1
     have loop:∀(ts pre:List Tm) (ps I:List (Option Nat)) (j:Nat) (A:List HC),l=pre++ts->x.agk=I++ps->I.length=j->NE nh A->pz A ps ts->pz A I pre->match Tm.np room ts with
       |none=>∃c,dP (λ(v:Int) (B:Option Nat)=>(λ(w:List HC)=>
         hB (iw n B room w) λg m a=>
         if(dw m 0) then(some (.ret (none,m,a)))
         else(if(Option.isSome g) then(
         cG (HC.c8 a p) λd=>
         fY (wx d.agk)<|cG (df d.agk v) λG=>
         cX (ft (some p) (xk d.agk v g) a) λy r=>
         some (.ret (y,0,r)))
         else(some ((.next a):eu (List HC) ((Option Nat)×Int×List HC)))))) ps j A=some (.inr (none,4,c))/\NE nh c
       |some none=>∃c,dP (λ(v:Int) (B:Option Nat)=>(λ(w:List HC)=>
         hB (iw n B room w) λg m a=>
         if(dw m 0) then(some (.ret (none,m,a)))
         else(if(Option.isSome g) then(
         cG (HC.c8 a p) λd=>
         fY (wx d.agk)<|cG (df d.agk v) λG=>
         cX (ft (some p) (xk d.agk v g) a) λy r=>
         some (.ret (y,0,r)))
         else(some ((.next a):eu (List HC) ((Option Nat)×Int×List HC)))))) ps j A=some (.inl c)/\NE nh c
       |some (some S)=>∃N c,dP (λ(v:Int) (B:Option Nat)=>(λ(w:List HC)=>
         hB (iw n B room w) λg m a=>
         if(dw m 0) then(some (.ret (none,m,a)))
         else(if(Option.isSome g) then(
         cG (HC.c8 a p) λd=>
         fY (wx d.agk)<|cG (df d.agk v) λG=>
         cX (ft (some p) (xk d.agk v g) a) λy r=>
         some (.ret (y,0,r)))
         else(some ((.next a):eu (List HC) ((Option Nat)×Int×List HC)))))) ps j A=some (.inr (some N,0,c))/\NE nh c/\NR c N (.mk k i s (pre++S)):=by
      intro ts
      induction ts with
      |nil=>
       intro pre ps I j A _ _ _ D hp _;cases hp;rw[Tm.np];exact⟨A,rfl,D⟩
      |cons t ts aa=>
       intro pre ps I j A O hx hq D hp J;cases hp with
       |cons q1 q2=>
        rename_i q ps
        have T:t∈l:=by rw[O];simp
        have ai:=c6 Tm.agl T;have U:=hs.arg t T;have z:=ih t q A VW q1 U VW;unfold xJ at z;rw[Tm.np];rw[dq]
        split at z
        ·rename_i E;obtain⟨c,a1,a2⟩:=z;rw[E,a1];exact⟨c,rfl,D.trans a2⟩
        ·rename_i E;obtain⟨c,a1,a2⟩:=z;rw[E,a1];have:=aa (pre++[t]) ps (I++[some q]) (j+1) c (by simp[O]) (by simp[hx]) (by simp[hq]) (D.trans a2) (a2.list q2) ((a2.list J).append (.cons (a2.node _ _ q1) .nil))
         revert this
         cases Tm.np room ts with
         |none=>exactλh=>h|some o=>
          cases o with
          |none=>exactλh=>h|some S=>simp only[ry,X2,kW];exactλh=>h
        ·rename_i t' E;obtain⟨W,c,a1,a2,a3⟩:=z;rw[E,a1];simp only[ij];rw[cI aaa,cK (show(some W).isSome=true from rfl)];obtain⟨b,V⟩:=(D.trans a2).get p x Y;rw[V];simp only[cv];obtain⟨s1,s2,s3⟩:=Dj hM.1 t U VW t' E;rw[show wx x.agk=true from qk ⟨by rw[Q,O];simp;omega,by rw[Q];unfold NS;omega⟩]
         have ab:df x.agk (j:Int)=some (some q):=by rw[e_,hx,<-hq];simp
         have ad:xk x.agk (j:Int) (some W)=I++some W::ps:=by
          unfold xk;rw[hx,<-hq];simp
         simp only[cL,ab,cv,ad];unfold ft;simp only[cv,V]
         obtain⟨ae,b1,b2,b3⟩:=mO (k:=k) (i:=i) (s:=s) (ps:=I++some W::ps) (ts:=pre++t'::ts) (nh:=c) ((a2.list J).append (.cons a3 (a2.list q2))) (by
          rw[O,yQ] at F;rw[yQ];simp only[cU] at F|-
          omega) VW (by
          intro u hu;rcases rS.1 hu with hu|hu
          ·have:=R u (hs.arg u (by rw[O];simp[hu]));omega
          ·rcases iL.1 hu with rfl|hu
           ·have:=Tm.No u (M:=M+8192) VW s1 s2;omega
           ·have:=R u (hs.arg u (by rw[O];simp[hu]));omega)
         rw[e2,e3,e4,b1];exact⟨c.length,ae,rfl,(D.trans a2).trans (NE.kp b2),b3⟩
     have:=loop l [] x.agk [] 0 nh rfl rfl rfl (NE.refl _) Z .nil;unfold xJ;rw[Tm.vJ,cI f]
     have L:Tm.np room l=some none->(Tm.mk k i s l).nf=true:=by
      intro h;rw[A1 room,Tm.vJ,cI f,h]
     revert this L
     cases Tm.np room l with
     |none=>
      rintro⟨c,a1,a2⟩ _;have e:((0:Nat):Int)=0:=rfl;rw[a1];exact⟨c,rfl,a2⟩
     |some o=>
      cases o with
      |none=>
       rintro⟨c,a1,a2⟩ L;rw[a1];simp only[cv,cS];obtain⟨b,V⟩:=a2.get p x Y;rw[V];simp only[cv];exact⟨_,rfl,a2.trans (NE.flag (x:={x with normal:=b}) (a2.node _ _ P) V (L rfl))⟩
      |some l'=>
       rintro⟨N,c,a1,a2,a3⟩ _;rw[a1];exact⟨N,c,rfl,a2,a3⟩
def J2{M:Int}(L:0<=M/\M<=80000000000):∀(n:Nat) (t:Tm) (p:Nat) (nh:List HC),t.agl<=n->NR nh p t->Sm M t->t.agl<=8192->∃d,il n (some p) nh=some (t.nf,d)/\NE nh d:=by
 intro n
 induction n with
 |zero=>intro t p nh h;have:=t.db;omega
 |succ n G=>
  intro t p nh hn z hs A;obtain⟨x,D,N,O,P,B,Q,R,H⟩:=z.inv;rw[il];simp only[cv,D]
  by_cases o:x.normal=true
  ·rw[cK o,H o];exact⟨nh,rfl,NE.refl _⟩
  ·rw[cI o,Fs z hs.ok];simp only[cv];cases t with
   |mk k i s l=>
    by_cases a:(Tm.mk k i s l).root=true
    ·rw[cK a,Tm.H0,a];exact⟨nh,rfl,NE.refl _⟩
    ·rw[cI a];simp only[Tm.cZ] at B;rw[Tm.cJ] at hn A;have hlen:=Tm.dK l;have I:x.agk.length=l.length:=B.len;rw[cT VW];simp only[cL,cN]
     have loop:∀(ts:List Tm) (ps:List (Option Nat)) (j:Nat) (e:List HC),(∀t∈ts,t∈l)->NE nh e->pz e ps ts->∃d,dP (λ(E:Int) (q:Option Nat)=>(λ(r:List HC)=>
        cX (il n q r) λv g=>
        if v then(some (.next g))else(some ((.ret (false,g)):eu (List HC) (Bool×List HC))))) ps j e=some (if ts.all Tm.nf then .inl d else .inr (false,d))/\NE nh d:=by
      intro ts
      induction ts with
      |nil=>intro ps j e _ m h;cases h;exact⟨e,rfl,m⟩
      |cons t ts C=>
       intro ps j e hm m h;cases h with
       |cons q1 J=>
        have w:=hm t aaB;have K:=c6 Tm.agl w;obtain⟨y,a1,a2⟩:=G t _ e VW q1 (hs.arg t w) VW;rw[dq,a1];simp only[cH]
        by_cases c:t.nf=true
        ·rw[cK c];simp only[cv,dr,sC,c,uQ];exact C _ (j+1) y (λu hu=>hm u (by simp[hu])) (m.trans a2) (a2.list J)
        ·rw[cI c];simp only[cv,EO,sC,c,UJ];exact⟨y,rfl,m.trans a2⟩
     obtain⟨d,a1,a2⟩:=loop l x.agk 0 nh (λt h=>h) (NE.refl _) B;rw[a1]
     by_cases f:l.all Tm.nf=true
     ·rw[cK f];simp only[cv,cS];obtain⟨b,F⟩:=a2.get p x D;rw[F]
      have c:(Tm.mk k i s l).nf=true:=by
       rw[Tm.H0,f];simpa using a
      rw[c];exact⟨_,rfl,a2.trans (NE.flag (x:={x with normal:=b}) (a2.node _ _ z) F c)⟩
     ·rw[cI f]
      have c:(Tm.mk k i s l).nf=false:=by
       rw[Tm.H0];simp[f]
      rw[c];exact⟨d,rfl,a2⟩
def mI{t:Tm}(h:t.wt<=1000000000):jZ t=some (if t.err=0 then(t.agl:Int)else 0,t.err):=by
 unfold jZ Tm.err;rw[qz FU t (by rw[dp];exact h) h]
 by_cases a:t.ok=true
 ·simp only[a,if_true,cH,ei]
  by_cases b:4096<t.agl
  ·rw[cK b,cK VW];rfl
  ·rw[cI b,cI VW];rfl
 ·simp only[a,cH];rfl
def pD{t:Tm}(h:t.wt<=1000000000):qy t=some t.err:=by
 unfold qy;rw[mI h];rfl
theorem Tm.eJ{t:Tm}(h:t.err=0):t.ok=true/\t.agl<=4096:=by
 unfold Tm.err at h
 split at h
 ·rename_i a
  split at h
  ·omega
  ·exact⟨a,VW⟩
 ·omega
def Ki:∀(n:Nat) (t:Tm) (b:Int) (s:Bool),t.agl<=n->t.ok=true->t.agl<=1000000->0<=b->b+t.agl<=100000000->gn n t b (λ(s:Bool) (f:Int) (g:Int)=>kj f g s) s=some (s&&t.agp 536870912):=by
 intro n
 induction n with
 |zero=>intro t b s h;have:=t.db;omega
 |succ n v=>
  intro t b s h w hn D m;cases t with
  |mk k i ty l=>
   obtain⟨o1,o2,x,y,E⟩:=Tm.ib w;rw[Tm.cJ] at h hn m;have hlen:=Tm.dK l;rw[gn];simp only[Tm.cZ,Tm.da,Tm.dW,cN,dO];rw[Tm.dI]
   by_cases e:k=1
   ·have z:=o1 e;subst z;rw[cK e];unfold kj;cases s with
    |true=>simp[A8];rfl|false=>simp;rfl
   ·rw[cI e];have hi:=x e;subst hi
    have o:eH (dm k 2) (dR .i64 b 1) b=b+d_ k:=by
     unfold d_
     by_cases p:k=2
     ·subst p;rw[cK rfl];exact ds VW VW
     ·rw[cI p]
      have:dm k 2=false:=by simp[dm,p]
      rw[this];simp
    have A:=h9 k;rw[cT (l:=l) VW];simp only[cL,o]
    have loop:∀(ts:List Tm) (j:Nat) (s:Bool),(∀t∈ts,t∈l)->dP (λ(B:Int) (q:Tm)=>(λ(a:Bool)=>
      cG (gn n q (b+d_ k) (λ(s:Bool) (f:Int) (g:Int)=>kj f g s) a) λc=>
      some ((.next c):eu Bool Bool))) ts j s=some (.inl (s&&ts.all (Tm.agp 536870912))):=by
     intro ts
     induction ts with
     |nil=>intro j s _;simp|cons t ts r=>
      intro j s hm;have d:=hm t aaB;have C:=c6 Tm.agl d;rw[dq,v t _ _ VW (y t d) VW VW VW];simp only[cv,dr];rw[r (j+1) _ λu hu=>hm u (by simp[hu])];simp[II]
    rw[loop l 0 s λt h=>h];simp
def Dd{t:Tm}(a:t.ok=true)(hn:t.agl<=1000000):qf t=some (t.agp 536870912):=by
 unfold qf pq;rw[Ki FU t 0 true (by rw[dp];omega) a hn VW VW];simp
def Tm.z:Tm:=.mk 0 0 (.mk 0 []) []
def NR.Sg{nh:List HC}{c:Nat}{st a:fk}(h:HC.dL nh c=some st):∀n,(∀p t,t.agl<=n->NR nh p t->NR (ki nh c (HC.fo a)) p t):=by
 have j:=HC.fK h
 have d:∀q y,HC.c8 nh q=some y->HC.c8 (ki nh c (HC.fo a)) q=some y:=by
  intro q y hy;have e:=HC.dh hy
  have f:c≠q:=by
   rintro rfl;rw[j] at e;cases e
  unfold HC.c8 ki;rw[Lx f,e]
 intro n
 induction n with
 |zero=>intro p t h;have:=t.db;omega
 |succ n m=>
  intro p t o r;obtain⟨y,v,w,x,z,A,B,C,D⟩:=r.inv
  have b:∀(ts:List Tm) (ps:List (Option Nat)),(∀t∈ts,t.agl<=n)->pz nh ps ts->pz (ki nh c (HC.fo a)) ps ts:=by
   intro ts
   induction ts with
   |nil=>intro ps _ h;cases h;exact .nil
   |cons t ts g=>
    intro ps hm h;cases h with
    |cons g1 g2=>exact .cons (m _ _ (hm t aaB) g1) (g _ (λu hu=>hm u (by simp[hu])) g2)
  refine NR.of (d _ _ v) w x z (b _ _ ?_ A) B C D;intro u hu;cases t with
  |mk k i s l=>
   rw[Tm.cJ] at o;have:=c6 Tm.agl hu;simp only[Tm.cZ] at this;omega
def xR{nh:List HC}{b:Nat}{st a:fk}(h:HC.dL nh b=some st):HC.dL (ki nh b (HC.fo a)) b=some a:=by
 have d:=HC.fK h;have c:=(qb.1 d).1;unfold HC.dL ki;simp[c]
structure At (nh:List HC) (s0:Nat) (t:Tm) (m:Int):Prop where
 st:∃p,HC.dL nh s0=some ⟨some p,m⟩/\NR nh p t
def Pl{M:Int}(i:0<=M/\M<=80000000000){nh:List HC}{d:Nat}{t:Tm}{m:Int}(h:At nh d t m)(hs:Sm M t)(hn:t.agl<=4096)(hm:0<=m/\m<=1000000):match t.BW (4096-t.agl)with
  |none=>∃a,iq (some d) nh=some (false,4,a)|some none=>∃a,iq (some d) nh=some (false,0,a)/\At a d t m|some (some g)=>∃a,iq (some d) nh=some (true,0,a)/\At a d g (m+1):=by
 obtain⟨p,e,f⟩:=h.st;obtain⟨x,j,_,_,_,_,k,_⟩:=f.inv;have n:=t.db;have b:=PX (M:=M) (room:=4096-t.agl) i VW FU t p nh (by rw[dp];omega) f hs VW;unfold iq sM;simp only[cv,e,j,k];rw[dF VW VW];unfold xJ at b
 split at b
 ·rename_i c;obtain⟨a,a1,a2⟩:=b
  try rw[c]
  rw[a1];exact⟨a,rfl⟩
 ·rename_i c;obtain⟨a,a1,a2⟩:=b
  try rw[c]
  rw[a1];exact⟨a,rfl,⟨p,a2.state _ _ e,a2.node _ _ f⟩⟩
 ·rename_i g c;obtain⟨l,a,a1,a2,a3⟩:=b
  try rw[c]
  rw[a1];have g1:=a2.state _ _ e;simp only[ij];rw[cI (by simp[dw])];simp only[g1,cv];rw[ds VW VW];refine⟨_,rfl,⟨l,xR (xR g1),?_⟩⟩;exact NR.Sg (xR g1) _ _ _ (ig _) (NR.Sg g1 _ _ _ (ig _) a3)
def Tm.norm:Nat->Int->Tm->Tm×Int×Int
 |0,m,t=>if t.nf then(t,m,0)else(Tm.z,0,5)|k+1,m,t=>match t.BW (4096-t.agl)with
  |none=>(Tm.z,0,4)|some none=>(t,m,0)|some (some a)=>Tm.norm k (m+1) a
def E7{k:Nat}{m:Int}{t:Tm}(h:t.BW (4096-t.agl)=none):t.norm (k+1) m=(Tm.z,0,4):=by rw[Tm.norm,h]
def Cl{k:Nat}{m:Int}{t:Tm}(h:t.BW (4096-t.agl)=some none):t.norm (k+1) m=(t,m,0):=by rw[Tm.norm,h]
def Cv{k:Nat}{m:Int}{t a:Tm}(h:t.BW (4096-t.agl)=some (some a)):t.norm (k+1) m=a.norm k (m+1):=by rw[Tm.norm,h]
def zV{σ ρ:Type}{F:σ->Option (eu σ ρ)}:∀{n m:Nat} {s:σ} {o:σ⊕ρ},n<=m->jb F n s=some o->jb F m s=some o
 |0,_,_,_,_,h=>by cases h
 |n+1,0,_,_,hm,_=>by omega|n+1,m+1,s,o,hm,h=>by
  rw[gb] at h|-;obtain⟨c,b,a⟩:=dJ h;rw[b];simp only[cv];cases c with
  |next d=>exact zV VW a|vN d=>exact a|ret r=>exact a
def Fh(n:Nat)(steps:Int)(I:0<=steps/\steps<=65536):∀(k:Nat) (m:Int) (t:Tm) (nh:List HC),(k:Int)=steps-m->0<=m->At nh n t m->Sm (536870912+8192*m) t->t.agl<=4096->∃o,jb (λ(a:List HC)=>
   cG (HC.dL a n) λq=>
   if(pP q.steps steps) then(
   hB (iq (some n) a) λs i c=>
   if(dw i 0) then(some (.ret ((Tm.mk 0 0 (Ty.mk 0 []) []),0,i)))
   else(if s then(some (.next c))
   else(cG (HC.dL c n) λj=>
   cG (hS FU j.term c) λu=>
   some (.ret (u,j.steps,0)))))
   else(some ((.vN a):eu (List HC) (Tm×Int×Int)))) (k+1) nh=some o/\fi (λ(a:List HC)=>
    cG (HC.dL a n) λv=>
    cX (il FU v.term a) λw f=>
    if w then(
    cG (HC.dL f n) λl=>
    cG (hS FU l.term f) λx=>
    some (x,l.steps,0))
    else(some ((Tm.mk 0 0 (Ty.mk 0 []) []),0,5))) (λr=>some r) o=some (t.norm k m):=by
 intro k
 induction k with
 |zero=>
  intro m t nh B hm g hs hn;obtain⟨p,y,z⟩:=g.st;refine⟨.inl nh,?_,?_⟩
  ·rw[gb];simp only[y,cv];rw[cI (by rw[gH];omega)];rfl
  ·rw[cS];simp only[y,cv];obtain⟨d,a1,a2⟩:=J2 (M:=536870912+8192*m) VW FU t p nh (by rw[dp];omega) z hs VW;rw[a1];simp only[cH,Tm.norm]
   by_cases h:t.nf=true
   ·rw[cK h,cK h];simp only[a2.state _ _ y,cv];rw[Iy (M:=536870912+8192*m) d FU t p (by rw[dp];omega) hs (a2.node _ _ z)];rfl
   ·rw[cI h,cI h];rfl
 |succ k C=>
  intro m t nh B hm g hs hn;obtain⟨p,y,z⟩:=g.st;have b:=Pl (M:=536870912+8192*m) VW g hs hn VW;rw[gb];simp only[y,cv];rw[cK (by rw[gH];omega)]
  split at b
  ·rename_i e;obtain⟨d,a1⟩:=b;rw[E7 e,a1];exact⟨_,rfl,rfl⟩
  ·rename_i e;obtain⟨d,a1,a2⟩:=b;obtain⟨D,E,F⟩:=a2.st;rw[Cl e,a1];simp only[ij];rw[cI aaa,cI aaa];simp only[E,cv];rw[Iy (M:=536870912+8192*m) d FU t D (by rw[dp];omega) hs F];exact⟨_,rfl,rfl⟩
  ·rename_i A e;obtain⟨d,a1,a2⟩:=b;rw[Cv e,a1];simp only[ij];rw[cI aaa];simp only[if_true,cv,dr];obtain⟨G,H,c3⟩:=Dj (M:=536870912+8192*m) VW t hs VW A e;exact C (m+1) A d VW VW a2 ⟨G,by rw[show 536870912+8192*(m+1)=536870912+8192*m+8192 by omega];exact H,VW⟩ VW
def Sm.start{t:Tm}(h:t.err=0)(a:t.agp 536870912=true):Sm 536870912 t:=⟨(Tm.eJ h).1,a,by have:=(Tm.eJ h).2;omega⟩
def rA{t:Tm}(hw:t.wt<=1000000000)(steps:Int):jK t steps=some (if t.err=0 then(if 0<=steps/\steps<=65536/\t.agp 536870912 then t.norm steps.toNat 0 else(Tm.z,0,1))else(Tm.z,0,t.err)):=by
 unfold jK;rw[pD hw];simp only[cv]
 by_cases he:t.err=0
 ·rw[cI (by simp[he]),cK he];obtain⟨g,hn⟩:=Tm.eJ he;simp only[cN]
  by_cases e:steps<0
  ·rw[cK ((gH _ _).2 e),cK trivial,cI (λh=>absurd h.1 VW)];rfl
  ·rw[cI (by rw[gH];exact e)]
   by_cases f:65536<steps
   ·rw[cK ((ei _ _).2 f),cK trivial,cI (λh=>absurd h.2.1 VW)];rfl
   ·rw[cI (by rw[ei];exact f),Dd g VW];simp only[cv]
    by_cases a:t.agp 536870912=true
    ·have c:m9 (t.agp 536870912)=false:=by rw[a];rfl
     rw[cI (by rw[c];decide),cK ⟨VW,VW,a⟩];have b:=Sm.start he a;obtain⟨p,nh,a1,a2,a3⟩:=Pa (M:=536870912) VW FU t [] (by rw[dp];omega) b;rw[a1];simp only[cH];have d:At (nh++[HC.fo (fk.mk (some p) 0)]) nh.length t 0:=⟨p,by unfold HC.dL;simp,a3.app⟩;obtain⟨o,i,j⟩:=Fh nh.length steps VW steps.toNat 0 t _ VW VW d (by simpa using b) hn;have k:=zV (m:=FU) (by rw[dp];omega) i;rw[k];exact j
    ·have c:m9 (t.agp 536870912)=true:=by simp[a]
     rw[cK c,cI (λh=>a h.2.2)];rfl
 ·rw[cK (by simp[he]),cI he];rfl
mutual
def Fm.agl:Fm->Nat
 |.mk _ _ ts l=>1+cU Tm.agl ts+Fm.j2 l
def Fm.j2:List Fm->Nat
 |[]=>0|t::l=>t.agl+Fm.j2 l
end
def Fm.me(l:List Fm):Fm.j2 l=cU Fm.agl l:=by
 induction l with
 |nil=>rfl|cons t l a=>simp[Fm.j2,cU,a]
theorem Fm.cJ(k:Int)(s:Ty)(ts:List Tm)(l:List Fm):(Fm.mk k s ts l).agl=1+cU Tm.agl ts+cU Fm.agl l:=by rw[Fm.agl,Fm.me]
def Fm.db(t:Fm):1<=t.agl:=by cases t;rw[Fm.agl];omega
def Fm.dK(l:List Fm):l.length<=cU Fm.agl l:=eG _ _ λt _=>t.db
mutual
def Fm.wt:Fm->Nat
 |.mk _ s ts l=>1+s.agl+cU Tm.wt ts+Fm.Gt l
def Fm.Gt:List Fm->Nat
 |[]=>0|t::l=>t.wt+Fm.Gt l
end
def Fm.xK(l:List Fm):Fm.Gt l=cU Fm.wt l:=by
 induction l with
 |nil=>rfl|cons t l a=>simp[Fm.Gt,cU,a]
theorem Fm.dC(k:Int)(s:Ty)(ts:List Tm)(l:List Fm):(Fm.mk k s ts l).wt=1+s.agl+cU Tm.wt ts+cU Fm.wt l:=by rw[Fm.wt,Fm.xK]
def Fm.fO(t:Fm):1<=t.wt:=by cases t;rw[Fm.wt];omega
def Fm.jc(l:List Fm):l.length<=cU Fm.wt l:=eG _ _ λt _=>t.fO
def Fm.ind{p:Fm->Prop}(h:∀k s ts l,(∀t∈l,p t)->p (.mk k s ts l))(t:Fm):p t:=by
 have:∀n (t:Fm),t.agl<=n->p t:=by
  intro n
  induction n with
  |zero=>intro t a;have:=t.db;omega
  |succ n b=>
   intro t a;cases t with
   |mk k s ts l=>
    rw[Fm.cJ] at a;exact h k s ts l λu hu=>b u (by have:=c6 Fm.agl hu;omega)
 exact this _ t (ig _)
def Fm.fp(t:Fm):t.agl<=t.wt:=by
 induction t using Fm.ind with
 |h k s ts l a=>rw[Fm.cJ,Fm.dC];have:=gP a;have:=gP (f:=Tm.agl) (g:=Tm.wt) (l:=ts) λx _=>x.fp;omega
def gy(k:Int):Bool:=decide (k=4\/k=5\/k=6\/k=7)
def qB(k:Int):Int:=if gy k then 1 else 0
def wG(k:Int):0<=qB k/\qB k<=1:=by unfold qB;split<;>omega
def iG(k:Int):lB k=some (gy k):=by
 unfold lB gy
 congr 1
 rw[xi];simp
def k6(f:Fm):ng f=some (qB f.agj):=by
 unfold ng qB;rw[iG];simp only[cv]
 split<;>rfl
def Fm.node(k:Int)(s:Ty)(a n:Nat):Bool:=
 if k=1 then s.mg&&decide (a=2)&&decide (n=0)
 else if k=2\/k=3 then s.mg&&decide (a=0)&&decide (n=2)
 else gy k&&decide (s.err=0)&&decide (a=0)&&decide (n=1)
mutual
def Fm.ok:Fm->Bool
 |.mk k s ts l=>Fm.node k s ts.length l.length&&ts.all Tm.ok&&Fm.Ci l
def Fm.Ci:List Fm->Bool
 |[]=>true|t::l=>t.ok&&Fm.Ci l
end
def Fm.tz(l:List Fm):Fm.Ci l=l.all Fm.ok:=by
 induction l with
 |nil=>rfl|cons t l a=>simp[Fm.Ci,a]
theorem Fm.eD(k:Int)(s:Ty)(ts:List Tm)(l:List Fm):(Fm.mk k s ts l).ok=(Fm.node k s ts.length l.length&&ts.all Tm.ok&&l.all Fm.ok):=by rw[Fm.ok,Fm.tz]
def Fm.err(t:Fm):Int:=if t.ok then(if 4096<t.agl then 4 else 0)else 2
def er{α:Type}{l:List α}:(l.length:Int)=0↔l=[]:=by cases l<;>simp;omega
def gr{α:Type}{l:List α}(h:(l.length:Int)=1):∃a,l=[a]:=by
 match l,h with
 |[a],_=>exact⟨a,rfl⟩|[],h=>simp at h
 |_::_::_,h=>simp at h;omega
def lE{α:Type}{l:List α}(h:(l.length:Int)=2):∃a b,l=[a,b]:=by
 match l,h with
 |[a,b],_=>exact⟨a,b,rfl⟩|[],h=>simp at h
 |[_],h=>simp at h
 |_::_::_::_,h=>simp at h;omega
def sl{t:Tm}(h:t.wt<=1000000000):kh FU t=some t.ok:=tT FU t (by rw[dp];exact h) h
def tO:∀(n:Nat) (t:Fm),t.wt<=n->t.wt<=1000000000->mo n t=some t.ok:=by
 intro n
 induction n with
 |zero=>intro t h;have:=t.fO;omega
 |succ n j=>
  intro t h i;cases t with
  |mk k s ts l=>
   rw[Fm.dC] at h i;rw[mo,Fm.eD];simp only[Fm.cZ,Fm.da,Fm.eN,Fm.dv,cN,ja,nA,dO,dz,qX,iG,jd (t:=s) VW,cv,dg,ed]
   by_cases o:k=1
   ·simp only[o,if_true,Fm.node]
    by_cases g:(l.length:Int)=0
    ·have:=er.1 g;subst this;cases f:s.mg with
     |false=>simp|true=>
      by_cases d:(ts.length:Int)=2
      ·obtain⟨a,b,rfl⟩:=lE d;simp only[cU] at h i;simp only[d,if_true,gd,jF,cv];rw[sl (t:=a) VW,sl (t:=b) VW];cases c:a.ok<;>cases e:b.ok<;>simp[c,e]
      ·have c:¬ts.length=2:=VW
       simp[d,c]
    ·have f:¬l.length=0:=VW
     simp[g,f]
   ·simp only[o,jC,Fm.node]
    by_cases g:k=2\/k=3
    ·simp only[g,if_true]
     by_cases f:(ts.length:Int)=0
     ·have:=er.1 f;subst this;cases d:s.mg with
      |false=>simp|true=>
       by_cases c:(l.length:Int)=2
       ·obtain⟨a,b,rfl⟩:=lE c;simp only[cU] at h i;simp only[c,if_true,gd,jF,cv];rw[j a VW VW,j b VW VW];cases e:a.ok<;>cases m:b.ok<;>simp[e,m]
       ·have e:¬l.length=2:=VW
        simp[c,e]
     ·have d:¬ts.length=0:=VW
      simp[f,d]
    ·simp only[g,jC];cases f:gy k with
     |false=>simp|true=>
      by_cases d:(ts.length:Int)=0
      ·have:=er.1 d;subst this
       by_cases c:s.err=0
       ·by_cases e:(l.length:Int)=1
        ·obtain⟨a,rfl⟩:=gr e;simp only[cU] at h i;simp only[c,e,if_true,gd,cv];rw[j a VW VW];simp
        ·have m:¬l.length=1:=VW
         simp[c,e,m]
       ·simp[c]
      ·have c:¬ts.length=0:=VW
       simp[d,c]
def mW:∀(n:Nat) (t:Fm),t.agl<=n->t.agl<=1000000000->ml n t=some (t.agl:Int):=by
 intro n
 induction n with
 |zero=>intro t h;have:=t.db;omega
 |succ n b=>
  intro t h c;cases t with
  |mk k s ts l=>
   rw[Fm.cJ] at h c;have f:=Fm.dK l;have d:=Tm.dK ts;rw[ml];simp only[Fm.cZ,Fm.eN,cN,cT (l:=l) VW,cT (l:=ts) VW,cL]
   have e:=ll (ρ:=Int) (F:=λ(j:Int) (x:Tm) (v:Int)=>cG (fx FU x) λy=>some (eu.next (dR .i64 v y))) Tm.agl ts 0 1 VW (by
    intro j x v a;have:=c6 Tm.agl a;rw[j_ FU x (by rw[dp];omega) VW]
    rfl)
   have k2:=ll (ρ:=Int) (F:=λ(j:Int) (x:Fm) (v:Int)=>cG (ml n x) λy=>some (eu.next (dR .i64 v y))) Fm.agl l 0 (1+cU Tm.agl ts) VW (by
    intro j x v a;have:=c6 Fm.agl a;rw[b x VW VW]
    rfl)
   rw[show(1:Int)=((1:Nat):Int)from rfl,e];simp only[cv,cS];rw[k2];simp[Fm.cJ]
def g_{t:Fm}(h:t.wt<=1000000000):kg t=some t.err:=by
 have:=t.fp;unfold kg Fm.err;rw[tO FU t (by rw[dp];exact h) h,mW FU t (by rw[dp];omega) VW];cases t.ok with
 |false=>simp|true=>by_cases a:4096<t.agl<;>simp[a]<;>omega
def zQ(f:Fm)(h:f.wt<=1000000000):qo f=some (Fm.node f.agj f.cO f.dc.length f.agk.length):=by
 cases f with
 |mk k s ts l=>
  rw[Fm.dC] at h;show qo (.mk k s ts l)=some (Fm.node k s ts.length l.length)
  have d:(dm (ts.length:Int) 2&&dm (l.length:Int) 0)=(decide (ts.length=2)&&decide (l.length=0)):=by
   rw[xi];simp only[ez,dO,kn];omega
  have e:(dm (ts.length:Int) 0&&dm (l.length:Int) 2)=(decide (ts.length=0)&&decide (l.length=2)):=by
   rw[xi];simp only[ez,dO,kn];omega
  have g:(dm (ts.length:Int) 0&&dm (l.length:Int) 1)=(decide (ts.length=0)&&decide (l.length=1)):=by
   rw[xi];simp only[ez,dO,kn];omega
  unfold qo;simp only[Fm.cZ,Fm.da,Fm.eN,Fm.dv,cN,ja,kS,nA,dO,dz,im (t:=s) VW,m4,cv,cH,cV,d,e,g];unfold Fm.node
  by_cases b:k=1
  ·cases c:s.mg<;>simp[b]
  ·by_cases c:k=2\/k=3
   ·cases a:s.mg<;>simp[b,c]
   ·by_cases a:k=4\/k=5\/k=6\/k=7
    ·have i:gy k=true:=by simp[gy,a]
     by_cases j:s.err=0<;>simp[b,c,a,j,i]
    ·have i:gy k=false:=by simp[gy,a]
     simp[b,c,a,i]
def tl:∀(n:Nat) (t:Fm),t.wt<=n->t.wt<=1000000000->ju n t=some (if t.ok then((t.agl:Int),true)else(0,false)):=by
 intro n
 induction n with
 |zero=>intro t h;have:=t.fO;omega
 |succ n i=>
  intro t h g;cases t with
  |mk k s ts l=>
   have m:=zQ (.mk k s ts l) g;rw[Fm.dC] at h g;have r:=Fm.jc l;have o:=Tm.jc ts;have hn:cU Tm.agl ts<=cU Tm.wt ts:=gP λx _=>x.fp;have p:cU Fm.agl l<=cU Fm.wt l:=gP λx _=>x.fp
   have q:dP (λ(e:Int) (a:Tm) (b:Int)=>cX (jv FU a) λc d=>if d then some (eu.next (dR .i64 b c))else some (eu.ret ((0:Int),false))) ts 0 1=if ts.all Tm.ok then some (.inl ((1+cU Tm.agl ts:Nat):Int))else some (.inr (0,false)):=by
    refine pH Tm.agl Tm.ok _ ts 0 1 VW ?_;intro j x v f;have:=c6 Tm.wt f;rw[qz FU x (by rw[dp];omega) VW];cases x.ok<;>simp
   have k2:dP (λ(e:Int) (a:Fm) (b:Int)=>cX (ju n a) λc d=>if d then some (eu.next (dR .i64 b c))else some (eu.ret ((0:Int),false))) l 0 ((1+cU Tm.agl ts:Nat):Int)=if l.all Fm.ok then some (.inl ((1+cU Tm.agl ts+cU Fm.agl l:Nat):Int))else some (.inr (0,false)):=by
    refine pH Fm.agl Fm.ok _ l 0 _ VW ?_;intro j x v f;have:=c6 Fm.wt f;rw[i x VW VW];cases x.ok<;>simp
   rw[ju,m];simp only[Fm.cZ,Fm.da,Fm.eN,Fm.dv,cN,cT (l:=l) VW,cT (l:=ts) VW,cL,cv,q,Fm.eD,Fm.cJ];cases u:Fm.node k s ts.length l.length with
   |false=>simp|true=>
    cases w:ts.all Tm.ok with
    |false=>simp|true=>
     simp only[if_true,cv,cS,k2,uQ];cases y:l.all Fm.ok<;>simp
def k7{t:Fm}(h:t.wt<=1000000000):ik t=some (if t.err=0 then(t.agl:Int)else 0,t.err):=by
 unfold ik Fm.err;rw[tl FU t (by rw[dp];exact h) h];cases t.ok with
 |false=>simp|true=>
  by_cases a:4096<t.agl
  ·simp[a];omega
  ·simp[a];omega
def fQ{t:Fm}(h:t.wt<=1000000000):jL t=some t.err:=by
 unfold jL;rw[k7 h];rfl
def BO:∀(n:Nat) (t:Fm),t.wt<=n->t.wt<=1000000000->jG n t=some t:=by
 intro n
 induction n with
 |zero=>intro t h;have:=t.fO;omega
 |succ n c=>
  intro t h d;cases t with
  |mk k s ts l=>
   rw[Fm.dC] at h d;have f:=Fm.jc l;have e:=Tm.jc ts;rw[jG];simp only[Fm.cZ,Fm.da,Fm.eN,Fm.dv,cN,cT (l:=l) VW,cT (l:=ts) VW,cL,fF (t:=s) VW,cv];rw[fy id ts 0 [] aaP]
   ·simp only[cv,cS];rw[fy id l 0 [] aaP]
    ·simp
    ·intro j x v a b;have:=c6 Fm.wt a;rw[c x VW VW];simp[dt (l:=v) (m:=[x]) (by simpa using b)]
   ·intro j x v a b;have:=c6 Tm.wt a;rw[jB (t:=x) VW];simp[dt (l:=v) (m:=[x]) (by simpa using b)]
def hI{t:Fm}(h:t.wt<=1000000000):jG FU t=some t:=BO FU t (by rw[dp];exact h) h
mutual
def Fm.has:Fm->Bool
 |.mk k _ _ l=>if k=1 then false else if k=2 then Fm.CT l else if k=5 then true else Fm.zH l
def Fm.CT:List Fm->Bool
 |[]=>false|f::l=>f.has||Fm.CT l
def Fm.zH:List Fm->Bool
 |[]=>false|[f]=>f.has|_::f::l=>Fm.zH (f::l)
end
def IM(k:Int)(a b:Ty):Ty×Bool×Int:=if(Ty.mk k [a,b]).err≠0 then(.mk 0 [],false,(Ty.mk k [a,b]).err)else(.mk k [a,b],true,0)
def W1(first last:Ty×Bool×Int):Ty×Bool×Int:=
 if first.2.2≠0\/first.2.1=false then(last.1,last.2.1,first.2.2)else if last.2.1 then IM 3 first.1 last.1 else(first.1,true,0)
def Xm(first last:Ty×Bool×Int):Ty×Bool×Int:=
 if first.2.2≠0\/first.2.1=false then(last.1,true,first.2.2)else IM 4 first.1 last.1
def SX(k:Int)(s:Ty)(first last:Ty×Bool×Int):Ty×Bool×Int:=
 if last.2.2≠0 then(.mk 0 [],false,last.2.2)
 else if k=2 then W1 first last
 else if k=5 then(if last.2.1 then IM 3 s last.1 else(s,true,0))
 else if last.2.1 then(if k=3 then Xm first last else if k=4 then IM 4 s last.1 else(last.1,true,0))
 else(.mk 0 [],false,0)
def S0:Ty×Bool×Int:=(.mk 0 [],false,0)
mutual
def Fm.ct:Fm->Ty×Bool×Int
 |.mk k s _ l=>if k=1 then S0 else SX k s (Fm.WJ l) (Fm.Q_ l)
def Fm.WJ:List Fm->Ty×Bool×Int
 |[]=>S0|f::_=>f.ct
def Fm.Q_:List Fm->Ty×Bool×Int
 |[]=>S0|[f]=>f.ct|_::f::l=>Fm.Q_ (f::l)
end
def Fm.I3(k:Int)(s:Ty)(ts:List Tm)(a b:Fm):(Fm.mk k s ts [a,b]).has=if k=1 then false else if k=2 then a.has||b.has else if k=5 then true else b.has:=by
 rw[Fm.has];simp[Fm.CT,Fm.zH]
def Fm.zD(k:Int)(s:Ty)(ts:List Tm)(a:Fm):(Fm.mk k s ts [a]).has=if k=1 then false else if k=5 then true else a.has:=by
 rw[Fm.has];simp only[Fm.CT,Fm.zH,Yq]
 by_cases b:k=2
 ·subst b;simp
 ·simp[b]
def Fm.has_eq(s:Ty)(ts:List Tm)(l:List Fm):(Fm.mk 1 s ts l).has=false:=by rw[Fm.has];simp
def Fm.kC{p:Fm->Prop}(n:∀a b:Tm,a.ok=true->b.ok=true->p (.mk 1 (.mk 0 []) [a,b] []))
  (o:∀(k:Int) (a b:Fm),k=2\/k=3->a.ok=true->b.ok=true->p a->p b->p (.mk k (.mk 0 []) [] [a,b]))
  (q:∀(k:Int) (s:Ty) (a:Fm),k=4\/k=5\/k=6\/k=7->s.err=0->a.ok=true->p a->p (.mk k s [] [a])) (f:Fm) (g:f.ok=true):p f:=by
 induction f using Fm.ind with
 |h k s ts l i=>
  rw[Fm.eD] at g;simp only[ez,iC] at g;obtain⟨⟨hn,d⟩,c⟩:=g;unfold Fm.node at hn
  split at hn
  ·rename_i j;subst j;simp only[ez,kn,Ty.iR] at hn;obtain⟨⟨rfl,e⟩,m⟩:=hn;obtain⟨a,b,rfl⟩:=lE (l:=ts) VW;have:=Oj.1 m;subst this;exact n a b (d a aaB) (d b aaB)
  ·split at hn
   ·rename_i j;simp only[ez,kn,Ty.iR] at hn;obtain⟨⟨rfl,e⟩,m⟩:=hn;obtain⟨a,b,rfl⟩:=lE (l:=l) VW;have:=Oj.1 e;subst this;exact o k a b j (c a aaB) (c b aaB) (i a aaB (c a aaB)) (i b aaB (c b aaB))
   ·simp only[ez,kn] at hn;obtain⟨⟨⟨r,hs⟩,e⟩,m⟩:=hn;obtain⟨a,rfl⟩:=gr (l:=l) VW;have:=Oj.1 e;subst this;refine q k s a ?_ hs (c a aaB) (i a aaB (c a aaB));simpa[gy] using r
theorem Ty.gZ{t:Ty}(h:t.err=0):t.ok=true/\t.agl<=64:=by
 unfold Ty.err at h
 split at h
 ·split at h
  ·omega
  ·exact⟨‹_›,VW⟩
 ·omega
theorem Ty.qO{t:Ty}(h:t.ok=true)(a:t.agl<=64):t.err=0:=by unfold Ty.err;rw[cK h,cI VW]
def Ty.ok_two{k:Int}(c:k=3\/k=4){a b:Ty}(d:a.ok=true)(e:b.ok=true):(Ty.mk k [a,b]).ok=true:=by
 rw[Ty.eD]
 have:¬(k=1\/k=2\/k=5):=VW
 simp[Ty.want,c,this,d,e]
theorem Ty.uy(k:Int)(a b:Ty):(Ty.mk k [a,b]).agl=1+a.agl+b.agl:=by rw[Ty.cJ];simp[cU];omega
theorem Fm.eJ{f:Fm}(h:f.err=0):f.ok=true/\f.agl<=4096:=by
 unfold Fm.err at h
 split at h
 ·split at h
  ·omega
  ·exact⟨‹_›,VW⟩
 ·omega
def Fm.cty(f:Fm):Ty×Int:=if f.err≠0 then(.mk 0 [],f.err)else if f.ct.2.2≠0 then(.mk 0 [],f.ct.2.2)else(if f.has then f.ct.1 else .mk 5 [],0)
def xT:∀(n:Nat) (f:Fm),f.agl<=n->f.ok=true->jl n f=some f.has:=by
 intro n
 induction n with
 |zero=>intro f h;have:=f.db;omega
 |succ n e=>
  intro f h q;refine Fm.kC (p:=λf=>f.agl<=n+1->jl (n+1) f=some f.has) ?_ ?_ ?_ f q h
  ·intro a b _ _ _;rw[jl,Fm.has_eq];rfl
  ·intro k a b r g t _ _ hn;rw[Fm.cJ] at hn;simp only[cU] at hn;have d:=e a VW g;have i:=e b VW t
   have c:k≠1:=VW
   have j:k≠5:=VW
   have l:df [a,b] (ea .i64 (dn [a,b]) 1)=some b:=by
    rw[dF aaB aaB];rfl
   have u:df [a,b] 0=some a:=rfl;have v:df [a,b] 1=some b:=rfl;rw[jl,Fm.I3,cI c];simp only[Fm.cZ,Fm.da,dO,c,j,jC,l,u,v,cv,i,d,cN]
   by_cases o:k=2
   ·simp only[o,if_true];cases a.has<;>simp
   ·simp[o]
  ·intro k s a r hs g _ hn;rw[Fm.cJ] at hn;simp only[cU] at hn;have d:=e a VW g
   have c:k≠1:=VW
   have m:k≠2:=VW
   have l:df [a] (ea .i64 (dn [a]) 1)=some a:=by
    rw[dF aaB aaB];rfl
   rw[jl,Fm.zD,cI c];simp only[Fm.cZ,Fm.da,dO,c,m,jC,l,cv,d]
   by_cases w:k=5<;>simp[w]
def xq(f:Fm)(h:f.wt<=1000000000):n7 f=some (if f.err≠0 then(false,f.err)else(f.has,0)):=by
 unfold n7;rw[g_ h];simp only[cv,cV]
 by_cases he:f.err=0
 ·rw[xT FU f (by rw[dp];have:=f.fp;omega) (Fm.eJ he).1];simp[he]
 ·simp[he]
theorem Fm.qO{f:Fm}(h:f.ok=true)(a:f.agl<=4096):f.err=0:=by unfold Fm.err;rw[cK h,cI VW]
def Ty.nat:Ty:=.mk 1 []
def Ty.k1:Ty:=.mk 2 []
def Ty.unit:Ty:=.mk 5 []
def Ty.fn(a b:Ty):Ty:=.mk 4 [a,b]
def Ty.pr(a b:Ty):Ty:=.mk 3 [a,b]
def Ty.z:Ty:=.mk 0 []
inductive du:List Ty->Tm->Ty->Prop
 |var {g t} (i:Nat):i<g.length->g[g.length-1-i]?=some t->du g (.mk 1 i .z []) t|lam {g s b t}:(Ty.fn s t).err=0->du (g++[s]) b t->du g (.mk 2 0 s [b]) (.fn s t)|app {g f a s t}:du g f (.fn s t)->du g a s->du g (.mk 3 0 .z [f,a]) t|zero {g}:du g (.mk 4 0 .z []) .nat|succ {g a}:du g a .nat->du g (.mk 5 0 .z [a]) .nat|oS {g t b s n}:t.err=0->du g b t->du g s (.fn .nat (.fn t t))->du g n .nat->du g (.mk 6 0 t [b,s,n]) t|nil {g}:du g (.mk 7 0 .z []) .k1|cons {g a b}:du g a .nat->du g b .k1->du g (.mk 8 0 .z [a,b]) .k1|fold {g t b s n}:t.err=0->du g b t->du g s (.fn .nat (.fn .k1 (.fn t t)))->du g n .k1->du g (.mk 9 0 t [b,s,n]) t|pair {g a b s t}:(Ty.pr s t).err=0->du g a s->du g b t->du g (.mk 10 0 .z [a,b]) (.pr s t)|fst {g a s t}:du g a (.pr s t)->du g (.mk 11 0 .z [a]) s|snd {g a s t}:du g a (.pr s t)->du g (.mk 12 0 .z [a]) t|unit {g}:du g (.mk 13 0 .z []) .unit
theorem Ty.lC:Ty.z.mg=true:=rfl
def Ty.nE{k:Int}(c:k=3\/k=4){a b:Ty}(h:(Ty.mk k [a,b]).err=0):a.err=0/\b.err=0:=by grind[Ty.gZ,Ty.eD,Ty.uy,Ty.qO]
def du.ok{g:List Ty}{x:Tm}{t:Ty}(h:du g x t):x.ok=true:=by
 induction h with
 |var i d f=>grind[Tm.eD,Tm.node,fm,gI,Ty.lC]|lam d _ c=>have:=(Ty.nE (.inr rfl) d).1;simp[Tm.eD,Tm.node,fm,gI,this,c]
 |app _ _ a b=>simp[Tm.eD,Tm.node,fm,gI,Ty.lC,a,b]|zero=>simp[Tm.eD,Tm.node,fm,gI,Ty.lC]|succ _ c=>simp[Tm.eD,Tm.node,fm,gI,Ty.lC,c]|oS d _ _ _ a b e=>grind[Tm.eD,Tm.node,fm,gI]|nil=>simp[Tm.eD,Tm.node,fm,gI,Ty.lC]|cons _ _ a b=>simp[Tm.eD,Tm.node,fm,gI,Ty.lC,a,b]|fold d _ _ _ a b e=>grind[Tm.eD,Tm.node,fm,gI]|pair _ _ _ a b=>simp[Tm.eD,Tm.node,fm,gI,Ty.lC,a,b]|fst _ c=>simp[Tm.eD,Tm.node,fm,gI,Ty.lC,c]|snd _ c=>simp[Tm.eD,Tm.node,fm,gI,Ty.lC,c]|unit=>simp[Tm.eD,Tm.node,fm,gI,Ty.lC]
def Tm.iM(t:Tm):∀{m n:Int},m<=n->t.agp m=true->t.agp n=true:=by
 induction t using Tm.ind with
 |h k i s l a=>grind[Tm.dI]
def du.agp{g:List Ty}{x:Tm}{t:Ty}(h:du g x t):∀m:Int,((g.length+x.agl:Nat):Int)<=m->x.agp m=true:=by
 induction h with
 |var i e f=>grind[Tm.cJ,cU,Tm.dI]|lam _ _ c=>grind[Tm.cJ,cU,Tm.dI]|zero|nil|unit=>grind[Tm.cJ,cU,Tm.dI]|succ _ c|fst _ c|snd _ c=>grind[Tm.cJ,cU,Tm.dI]|app _ _ a b|cons _ _ a b|pair _ _ _ a b=>grind[Tm.cJ,cU,Tm.dI]|oS _ _ _ _ a b d|fold _ _ _ _ a b d=>grind[Tm.cJ,cU,Tm.dI]
def AU{α:Type}{f g:α->Nat}{c:Nat}{l:List α}(h:∀x∈l,f x<=c*g x):cU f l<=c*cU g l:=by
 induction l with
 |nil=>simp[cU]|cons x l a=>simp only[cU,N1];have:=h x aaB;have:=a λy hy=>h y (by simp[hy]);omega
def Tm.gm(t:Tm)(h:t.ok=true):t.wt<=65*t.agl:=by
 induction t using Tm.ind with
 |h k i s l c=>
  rw[Tm.eD] at h;simp only[ez,iC] at h;rw[Tm.dC,Tm.cJ,N1];have d:=AU λx b=>c x b (h.2 x b)
  have e:s.agl<=64:=by
   have:=h.1;simp only[Tm.node,ez] at this;have a:=this.2
   split at a
   ·simp only[kn] at a;exact(Ty.gZ a).2
   ·grind[Ty.iR,Ty.cJ,cU]
  omega
def Fm.gm(f:Fm)(h:f.ok=true):f.wt<=65*f.agl:=by
 induction f using Fm.ind with
 |h k s ts l b=>
  rw[Fm.eD] at h;simp only[ez,iC] at h;rw[Fm.dC,Fm.cJ,N1,N1];have d:=AU λx a=>b x a (h.2 x a);have e:=AU (f:=Tm.wt) (g:=Tm.agl) (c:=65) (l:=ts) λx a=>x.gm (h.1.2 x a)
  have i:s.agl<=64:=by
   have:=h.1.1;unfold Fm.node at this
   split at this
   ·grind[Ty.iR,Ty.cJ,cU]
   ·split at this
    ·grind[Ty.iR,Ty.cJ,cU]
    ·simp only[ez,kn] at this;exact(Ty.gZ this.1.1.2).2
  omega
structure c9.wf (d:c9):Prop where
 len:d.l.length<=1000
 lo:0<=d.rB
 hi:d.rB<=d.l.length
def Kf(x n:Int)(c:1<=n)(d:n<=1000000000):∃y,Hs x n=some y/\0<=y/\y<n:=by
 unfold Hs;simp only[L3 (b:=n) VW];refine⟨_,rfl,?_⟩;unfold Vb
 have e:(x.tmod n).natAbs<n.natAbs:=by
  rw[Int.natAbs_tmod];exact W5 _ VW
 rw[ds VW VW]
 have a:0<=x.tmod n+n:=VW
 exact⟨Int.tmod_nonneg _ a,aeg _ VW⟩
def gX(d:c9)(a:d.wf)(n:Int)(c:1<=n)(e:n<=1000000000):∃x b,fB d n=some (x,b)/\0<=x/\x<n/\b.wf:=by
 unfold fB;simp only[ja,nA,gH,fC,dz]
 by_cases f:n<1\/(d.l.length:Int)<=d.rB
 ·grind
 ·rw[cI f];obtain⟨y,hy,_⟩:=xY (l:=d.l) a.lo VW;obtain⟨z,g,h,i⟩:=Kf y n c e;rw[hy];simp only[cv,g];have:=a.len;have:=a.lo;rw[ds VW VW];exact⟨z,_,rfl,h,i,⟨a.len,by show 0<=d.rB+1;omega,by show d.rB+1<=(d.l.length:Int);omega⟩⟩
def dN:jM=some .nat:=rfl
def en:oH=some .k1:=rfl
def BA:xH=some .unit:=rfl
def sA{a b:Ty}(c:a.agl<=1000000000)(d:b.agl<=1000000000):wb a b=some (.pr a b):=by
 unfold wb;rw[fF c,fF d];rfl
def fL{a b:Ty}(c:a.agl<=1000000000)(d:b.agl<=1000000000):kZ a b=some (.fn a b):=by
 unfold kZ;rw[fF c,fF d];rfl
def Ty.MQ:Ty.nat.ok=true:=by unfold Ty.nat;rw[Ty.eD];rfl
def Ty.Ma:Ty.k1.ok=true:=by unfold Ty.k1;rw[Ty.eD];rfl
def Ty.HY:Ty.unit.ok=true:=by unfold Ty.unit;rw[Ty.eD];rfl
def Ty.eU:Ty.nat.agl=1:=by unfold Ty.nat;rw[Ty.cJ];rfl
def Ty.kI:Ty.k1.agl=1:=by unfold Ty.k1;rw[Ty.cJ];rfl
def Ty.Al:Ty.unit.agl=1:=by unfold Ty.unit;rw[Ty.cJ];rfl
def Ty.gv(a b:Ty):(Ty.fn a b).agl=1+a.agl+b.agl:=Ty.uy _ _ _
def Ty.pV(a b:Ty):(Ty.pr a b).agl=1+a.agl+b.agl:=Ty.uy _ _ _
theorem LQ(k:Nat)(h:k<=4):1<=2^k/\2^k<=16:=by
 have:k=0\/k=1\/k=2\/k=3\/k=4:=VW
 grind
def Hd:∀(n k:Nat) (d:c9),k<n->k<=4->d.wf->∃t f,iE n d (k:Int)=some (t,f)/\t.ok=true/\t.agl+1<=2^(k+1)/\f.wf:=by
 intro n
 induction n with
 |zero=>intro k d h;omega|succ n v=>
  intro k d w j r;obtain⟨x,d1,s,y,z,g⟩:=gX d r 7 VW VW;have A:=LQ k j
  have B:(2:Nat)^(k+1)=2*2^k:=by rw[Y3];omega
  have c:=λf (l:c9.wf f)=>(⟨Ty.nat,f,rfl,Ty.MQ,by rw[Ty.eU];omega,l⟩:∃t i,some (Ty.nat,f)=some (t,i)/\t.ok=true/\t.agl+1<=2^(k+1)/\i.wf);rw[iE];simp only[cN,s,cH,dN,en,BA,cv,ja,nA,dO,ei]
  split
  ·exact c d1 g
  split
  ·exact⟨.k1,d1,rfl,Ty.Ma,by rw[Ty.kI];omega,g⟩
  split
  ·exact⟨.unit,d1,rfl,Ty.HY,by rw[Ty.Al];omega,g⟩
  have two:0<(k:Int)->∃a b d2 d3,iE n d1 (ea .i64 (k:Int) 1)=some (a,d2)/\iE n d2 (ea .i64 (k:Int) 1)=some (b,d3)/\a.ok=true/\b.ok=true/\a.agl+1<=2^k/\b.agl+1<=2^k/\d3.wf:=by
   intro e;obtain⟨m,rfl⟩:∃m,k=m+1:=⟨k-1,VW⟩
   grind[dF]
  split
  ·split
   ·rename_i e;obtain⟨a,b,d2,d3,a1,o,a2,p,a3,u,q⟩:=two e;rw[a1];simp only[cH];rw[o];simp only[cH];rw[sA VW VW];exact⟨_,_,rfl,Ty.ok_two (.inl rfl) a2 p,by rw[Ty.pV];omega,q⟩
   ·exact c d1 g
  split
  ·split
   ·rename_i e;obtain⟨a,b,d2,d3,a1,o,a2,p,a3,u,q⟩:=two e;rw[a1];simp only[cH];rw[o];simp only[cH];rw[fL VW VW];exact⟨_,_,rfl,Ty.ok_two (.inr rfl) a2 p,by rw[Ty.gv];omega,q⟩
   ·exact c d1 g
  ·exact c d1 g
def tn(d:c9)(b:d.wf)(k:Nat)(c:k<=4):∃t a,iE FU d (k:Int)=some (t,a)/\t.err=0/\t.agl+1<=2^(k+1)/\a.wf:=by
 obtain⟨t,a,e,f,g,h⟩:=Hd FU k d (by rw[dp];omega) c b
 grind[LQ,Ty.qO]
def He(g:List Ty)(t:Ty)(hg:g.length<=1000000)(hn:∀s∈g,s.agl<=1000000000):∃l,CR g t=some l/\l.length<=g.length/\∀v∈l,∃i:Nat,v=i/\i<g.length/\g[g.length-1-i]?=some t:=by
 unfold CR;simp only[cT (l:=g) VW,cL,cN]
 have key:∀(l:List Ty) (i:Nat) (v:List Int),i+l.length=g.length->v.length<=i->(∀x∈v,∃j:Nat,x=j/\j<g.length/\g[g.length-1-j]?=some t)->∃a,dP (ρ:=List Int) (λ(j:Int) (r:Ty) (v:List Int)=>cG (df g (ea .i64 (ea .i64 (dn g) 1) j)) λx=>cG (eh FU x t) λy=>if y then fY (eM v [j]) (some (eu.next (eV v [j])))else some (eu.next v)) l i v=some (.inl a)/\a.length<=g.length/\∀x∈a,∃j:Nat,x=j/\j<g.length/\g[g.length-1-j]?=some t:=by
  intro l
  induction l with
  |nil=>
   intro i v d k c;exact⟨v,rfl,by simp at d;omega,c⟩
  |cons y l f=>
   intro i v d k c;simp only[hW] at d
   have b:g.length-1-i<g.length:=VW
   have n:df g (ea .i64 (ea .i64 (dn g) 1) (i:Int))=some g[g.length-1-i]:=by grind[dz,dF,e_]
   rw[dq];simp only[n,cv,fv (hn _ (D7 b))];cases hs:Ty.jO g[g.length-1-i] t with
   |false=>
    simp only[lU,jC,cv,dr];exact f (i+1) v VW VW c
   |true=>
    rw[Ty.iV] at hs;simp only[if_true,dt (l:=v) (m:=[(i:Int)]) aaP,cL,cv,dr,eb];refine f (i+1) (v++[(i:Int)]) VW aaP ?_;intro x e;rcases rS.1 e with h|h
    ·exact c x h
    ·rw[uR] at h;exact⟨i,h,VW,by rw[nw b,hs]⟩
 obtain⟨a,o,p,q⟩:=key g 0 [] aaB aaB aaB;rw[o];exact⟨a,rfl,p,q⟩
def kr(g l:List Ty)(h:g.length+l.length<=1000000):m5 g l=some (g++l):=by
 unfold m5;rw[dt aaP,dt aaP];simp
def ya(n:Nat)(hn:n<=1000000):∃x,qT (n:Int)=some x/\∀g,du g x .nat/\x.agl=n+1:=by
 unfold qT;rw[k_ 4 [] (by simp[cU])];simp only[cv,cN]
 obtain⟨o,m,l⟩:=rJ (ρ:=Tm) (F:=Ru λ(h:Int) (i:Int) (v167:Int) (v168:Int) (j:List Ty) (k:List Tm)=>
   if nW h 0 then some (eu.next (ea .i64 h 1,5,0,0,[],[Tm.mk i v167 (Ty.mk v168 j) k]))else some (eu.vN (h,i,v167,v168,j,k)))
  (λs=>0<=s.1/\s.1<=n/\(∀g,du g (Tm.mk s.2.1 s.2.2.1 (Ty.mk s.2.2.2.1 s.2.2.2.2.1) s.2.2.2.2.2) .nat)/\(Tm.mk s.2.1 s.2.2.1 (Ty.mk s.2.2.2.1 s.2.2.2.2.1) s.2.2.2.2.2).agl+s.1=n+1)
  (λs=>s.1.toNat)
  (λo=>match o with|.inl s=>(∀g,du g (Tm.mk s.2.1 s.2.2.1 (Ty.mk s.2.2.2.1 s.2.2.2.2.1) s.2.2.2.2.2) .nat)/\(Tm.mk s.2.1 s.2.2.1 (Ty.mk s.2.2.2.1 s.2.2.2.2.1) s.2.2.2.2.2).agl=n+1|.inr _=>False)
  (by
   rintro⟨a,b,c,d,e,f⟩ ⟨m,l,p,t⟩;simp only at m l p t
   by_cases q:0<a
   ·left;refine⟨_,by simp only[Aw,ei,q,if_true];rfl,⟨?_,?_,?_,?_⟩,?_⟩
    ·rw[dF VW VW];show 0<=a-1;omega
    ·rw[dF VW VW];show a-1<=n;omega
    ·intro g;exact du.succ (p g)
    all_goals grind[dF,Tm.cJ,cU]
   ·right;left;refine⟨_,by simp only[Aw,ei,q,jC];rfl,p,?_⟩
    have:a=0:=VW
    subst this
    simp only;omega)
  FU ((n:Int),4,0,0,[],[]) ⟨aaB,aaB,λg=>du.zero,by rw[Tm.cJ];simp[cU];omega⟩ (by rw[dp];show(n:Int).toNat<_;omega)
 simp only[Tm.da,Tm.dW,Tm.dv,Ty.da,Ty.cZ,Tm.cZ];rw[m];cases o with
 |inr r=>exact l.elim|inl s=>
  obtain⟨a,b,c,d,e,f⟩:=s;exact⟨_,rfl,λg=>⟨l.1 g,l.2⟩⟩
def uA(n:Int)(b:0<=n)(hn:n<=4000):∃x,z' n=some x/\∀g,du g x .nat/\(x.agl:Int)=n+1:=by
 obtain⟨k,rfl⟩:=U9 b;obtain⟨x,c,a⟩:=ya k VW;unfold z' wM;simp only[gH,fC];rw[cI VW,cI VW,c];exact⟨x,rfl,λg=>⟨(a g).1,by rw[(a g).2];simp⟩⟩
structure GK (g:List Ty) (x:Tm) (t:Ty) (n:Nat):Prop where
 ty:du g x t
 agl:x.agl<=n
def GK.wt{g:List Ty}{x:Tm}{t:Ty}{n:Nat}(h:GK g x t n):x.wt<=65*n:=by
 have:=x.gm h.ty.ok;have:=h.agl;omega
def GK.mono{g:List Ty}{x:Tm}{t:Ty}{n m:Nat}(h:GK g x t n)(hm:n<=m):GK g x t m:=⟨h.ty,CJ h.agl hm⟩
def Aa{k:Int}{a:Tm}(b:a.wt<=100000000):eQ k [a]=some (.mk k 0 .z [a]):=k_ k [a] (by simp[cU];omega)
def ov{k:Int}{a b:Tm}(c:a.wt<=100000000)(d:b.wt<=100000000):eQ k [a,b]=some (.mk k 0 .z [a,b]):=k_ k [a,b] (by simp[cU];omega)
def xA{k:Int}:eQ k []=some (.mk k 0 .z []):=k_ k [] (by simp[cU])
def uU{k:Int}{s:Ty}{a:Tm}(hs:s.agl<=1000000000)(b:a.wt<=100000000):mv k s [a]=some (.mk k 0 s [a]):=A2 k s [a] hs (by simp[cU];omega)
def wR{k:Int}{s:Ty}{a b c:Tm}(hs:s.agl<=1000000000)(d:a.wt<=100000000)(e:b.wt<=100000000)(f:c.wt<=100000000):mv k s [a,b,c]=some (.mk k 0 s [a,b,c]):=
 A2 k s [a,b,c] hs (by simp[cU];omega)
def DT{f a b:Tm}(c:f.wt<=10000000)(d:a.wt<=10000000)(e:b.wt<=10000000):CZ f [a,b]=some (.mk 3 0 .z [.mk 3 0 .z [f,a],b]):=by
 have g:(Tm.mk 3 0 .z [f,a]).wt<=30000000:=by rw[Tm.dC];have:Ty.z.agl=1:=rfl;simp[cU,this];omega
 unfold CZ
 simp only[cT (l:=[a,b]) aaB,cL,cN,dq,lT,Kq,Ty.kf,Tm.kf,ov (k:=3) (a:=f) (b:=a) VW VW,cv,dr,ov (k:=3) (a:=.mk 3 0 .z [f,a]) (b:=b) VW VW,cS]
def Ty.ew:Ty.nat.err=0:=Ty.qO Ty.MQ (by rw[Ty.eU];omega)
def Ty.kT:Ty.k1.err=0:=Ty.qO Ty.Ma (by rw[Ty.kI];omega)
def Ty.Ae:Ty.unit.err=0:=Ty.qO Ty.HY (by rw[Ty.Al];omega)
def Ty.sw{a b:Ty}(c:a.err=0)(d:b.err=0)(h:a.agl+b.agl<=63):(Ty.fn a b).err=0:=Ty.qO (Ty.ok_two (.inr rfl) (Ty.gZ c).1 (Ty.gZ d).1) (by rw[Ty.gv];omega)
def Ty.GD{a b:Ty}(c:a.err=0)(d:b.err=0)(h:a.agl+b.agl<=63):(Ty.pr a b).err=0:=Ty.qO (Ty.ok_two (.inl rfl) (Ty.gZ c).1 (Ty.gZ d).1) (by rw[Ty.pV];omega)
def zf(i:Nat):Tm:=.mk 1 i .z []
def iZ(s:Ty)(b:Tm):Tm:=.mk 2 0 s [b]
def gp(f a:Tm):Tm:=.mk 3 0 .z [f,a]
def mb:Tm:=.mk 4 0 .z []
def gu(a:Tm):Tm:=.mk 5 0 .z [a]
def ID(t:Ty)(a b c:Tm):Tm:=.mk 6 0 t [a,b,c]
def jI:Tm:=iZ .nat (iZ .nat (ID .nat (zf 1) (iZ .nat (iZ .nat (gu (zf 0)))) (zf 0)))
def Ht:Tm:=iZ .nat (ID .nat mb (iZ .nat (iZ .nat (zf 1))) (zf 0))
def MN:Tm:=iZ .nat (iZ .nat (ID .nat (zf 1) (iZ .nat (iZ .nat (gp Ht (zf 0)))) (zf 0)))
def wL(i:Nat):fg (i:Int)=some (zf i):=rfl
def pU{a:Tm}(b:a.wt<=100000000):mu a=some (iZ .nat a):=by
 unfold mu;rw[dN];simp only[cv];rw[uU (by rw[Ty.eU];omega) b];rfl
def rec_eq{a b c:Tm}(d:a.wt<=100000000)(e:b.wt<=100000000)(f:c.wt<=100000000):uD a b c=some (ID .nat a b c):=by
 unfold uD;rw[dN];simp only[cv];rw[wR (by rw[Ty.eU];omega) d e f];rfl
def uX:tH=some jI:=by
 unfold tH;rw[show fg 1=some (zf 1)from rfl,show fg 0=some (zf 0)from rfl];simp only[cv];rw[Aa aaa];simp only[cv];rw[pU aaa];simp only[cv];rw[pU aaa];simp only[cv];rw[rec_eq aaa aaa aaa];simp only[cv];rw[pU aaa];simp only[cv];rw[pU aaa];rfl
def BN:vG=some Ht:=by
 unfold vG;rw[show fg 1=some (zf 1)from rfl,show fg 0=some (zf 0)from rfl,xA];simp only[cv];rw[pU aaa];simp only[cv];rw[pU aaa];simp only[cv];rw[rec_eq aaa aaa aaa];simp only[cv];rw[pU aaa];rfl
def Dk:xF=some MN:=by
 unfold xF;rw[show fg 1=some (zf 1)from rfl,show fg 0=some (zf 0)from rfl,BN];simp only[cv];rw[ov aaa aaa];simp only[cv];rw[pU aaa];simp only[cv];rw[pU aaa];simp only[cv];rw[rec_eq aaa aaa aaa];simp only[cv];rw[pU aaa];simp only[cv];rw[pU aaa];rfl
def Wq{g:List Ty}{t:Ty}(i:Nat)(h:i<g.length)(a:g[g.length-1-i]?=some t):du g (zf i) t:=du.var i h a
def sD{g:List Ty}{t:Ty}:du (g++[t]) (zf 0) t:=du.var 0 aaB aaB
def ET{g:List Ty}{s t:Ty}:du (g++[t]++[s]) (zf 1) t:=du.var 1 aaB aaB
def tB:(Ty.fn .nat .nat).err=0:=Ty.sw Ty.ew Ty.ew (by rw[Ty.eU];omega)
def wZ:(Ty.fn .nat (Ty.fn .nat .nat)).err=0:=Ty.sw Ty.ew tB (by rw[Ty.gv,Ty.eU];omega)
def yc(g:List Ty):du g jI (.fn .nat (.fn .nat .nat)):=
 .lam wZ (.lam tB (.oS Ty.ew ET (.lam wZ (.lam tB (.succ sD))) sD))
def J4(g:List Ty):du g Ht (.fn .nat .nat):=
 .lam tB (.oS Ty.ew .zero (.lam wZ (.lam tB ET)) sD)
def MP(g:List Ty):du g MN (.fn .nat (.fn .nat .nat)):=
 .lam wZ (.lam tB (.oS Ty.ew ET (.lam wZ (.lam tB (.app (J4 _) sD))) sD))
def xd:jI.agl=9:=aaa
def EV:MN.agl=16:=aaa
def lx{α β:Type}{G:Option β->Prop}(P:α->Prop){k:α->Option β}{b:(α->Option β)->Option β}(c:∀a,P a->G (k a))(d:∀j:α->Option β,(∀a,P a->G (j a))->G (b j)):G (dj k b):=d k c
def Ay{α γ β:Type}{G:Option β->Prop}(P:α->γ->Prop){k:α->γ->Option β}{b:(α->γ->Option β)->Option β}(d:∀a c,P a c->G (k a c))(e:∀j:α->γ->Option β,(∀a c,P a c->G (j a c))->G (b j)):G (dj k b):=e k d
def tb(N:Nat):Nat->Nat
 |0=>3*N|k+1=>30+3*tb N k
def Wh{N:Nat}(a:N<=20):∀k,k<=5->tb N k<=18300:=by
 intro k b
 have:k=0\/k=1\/k=2\/k=3\/k=4\/k=5:=VW
 rcases this with rfl|rfl|rfl|rfl|rfl|rfl<;>simp only[tb]<;>omega
def Nt{N k:Nat}:3*N<=tb N k:=by
 induction k with
 |zero=>simp[tb]|succ k a=>grind[tb]
def gN(g:List Ty)(t:Ty)(b:Nat)(o:Option (Tm×c9)):Prop:=∃x a,o=some (x,a)/\a.wf/\GK g x t b
def gN.of{g:List Ty}{t:Ty}{b:Nat}{x:Tm}{d:c9}(a:d.wf)(h:du g x t)(hn:x.agl<=b):gN g t b (some (x,d)):=⟨x,d,rfl,a,h,hn⟩
structure nu (N:Nat) (g:List Ty):Prop where
 all:∀s∈g,s.err=0/\s.agl<=N
def nu.app{N:Nat}{g l:List Ty}(h:nu N g)(a:∀s∈l,s.err=0/\s.agl<=N):nu N (g++l):=
 ⟨λs hs=>by rcases rS.1 hs with h'|h';exact h.all s h';exact a s h'⟩
def Ty.l9{t:Ty}(h:t.err=0):t=.nat\/t=.k1\/t=.unit\/(∃a b,t=.pr a b/\a.err=0/\b.err=0)\/(∃a b,t=.fn a b/\a.err=0/\b.err=0):=by
 cases t with
 |mk k l=>
  have e:=(Ty.gZ h).1;rw[Ty.eD] at e;simp only[ez,kn] at e;have c:=e.1;unfold Ty.want at c
  split at c
  ·rename_i d;injection c with c;have:=Oj.1 c.symm;subst this;rcases d with rfl|rfl|rfl
   ·exact .inl rfl
   ·exact .inr (.inl rfl)
   ·exact .inr (.inr (.inl rfl))
  ·split at c
   ·rename_i d;injection c with c;obtain⟨a,b,rfl⟩:=lE (l:=l) VW;have:=Ty.nE d h;rcases d with rfl|rfl
    ·exact .inr (.inr (.inr (.inl ⟨a,b,rfl,this⟩)))
    ·exact .inr (.inr (.inr (.inr ⟨a,b,rfl,this⟩)))
   ·cases c
set_option maxHeartbeats 1000000 in
def GA(N:Nat)(aK:1<=N)(hN:N<=20):∀(n:Nat) (dep:Int) (g:List Ty) (t:Ty) (d:c9),dep.toNat*(N+1)+t.agl<n->dep<=5->-1000000<=dep-t.agl->g.length+(3+N)*dep.toNat+t.agl<=1000->nu N g->t.err=0->t.agl<=N->d.wf->gN g t (if dep<=0 then 3*t.agl else tb N dep.toNat) (f_ n d g t dep):=by
 intro n
 induction n with
 |zero=>intro dep g t d h;omega|succ n ih=>
  intro dep g t d hm aL aJ hlen hg q p hd;have aM:=t.db;have an:=(Ty.gZ q).2
  have deep:0<dep->∀P M O,P.length<=g.length+3->nu N P->M.err=0->M.agl<=N->O.wf->gN P M (tb N (dep.toNat-1)) (f_ n O P M (ea .i64 dep 1)):=by
   intro e P M O Q T X v h5;obtain⟨k,rfl⟩:∃k:Nat,dep=(k+1:Nat):=⟨dep.toNat-1,VW⟩
   have e1:((k+1:Nat):Int).toNat=k+1:=aaB
   rw[e1] at hm hlen|-;rw[dF VW VW,show((k+1:Nat):Int)-1=(k:Int) by omega]
   have hmul:(k+1)*(N+1)=k*(N+1)+N+1:=by rw[A7];omega
   have ao:(3+N)*(k+1)=(3+N)*k+3+N:=by rw[N1];omega
   obtain⟨x,d1,a1,a2,a3⟩:=ih (k:Int) P M O aaP VW VW aaP T X v h5;refine⟨x,d1,a1,a2,a3.mono ?_⟩;simp only[XA]
   split
   ·have:k=0:=VW
    subst this;simp only[tb];omega
   ·simp
  have flat:dep<=0->∀P M O,P.length<=g.length+1->M.agl+1<=t.agl->nu N P->M.err=0->O.wf->gN P M (3*M.agl) (f_ n O P M (ea .i64 dep 1)):=by
   intro e P M O Q h0 T X h5
   have e1:dep.toNat=0:=VW
   rw[e1] at hm hlen;rw[dF VW VW]
   have e2:(dep-1).toNat=0:=VW
   have:=ih (dep-1) P M O (by rw[e2];omega) VW VW (by rw[e2];omega) T X VW h5;rw[cK VW] at this;exact this
  have U:0<dep->(if dep<=0 then 3*t.agl else tb N dep.toNat)=30+3*tb N (dep.toNat-1):=by
   intro e;rw[cI VW];obtain⟨k,hk⟩:∃k,dep.toNat=k+1:=⟨dep.toNat-1,VW⟩;rw[hk];rfl
  have aq:0<dep->tb N (dep.toNat-1)<=18300:=λ_=>Wh hN _ VW
  have aa:3*t.agl<=(if dep<=0 then 3*t.agl else tb N dep.toNat):=by
   split
   ·omega
   ·have:=Nt (N:=N) (k:=dep.toNat);omega
  generalize (if dep<=0 then 3*t.agl else tb N dep.toNat)=B at U aa|-
  have m:∀{g x t},0<dep->GK g x t (tb N (dep.toNat-1))->x.wt<=1300000:=by
   intro g x t e h;have:=h.wt;have:=aq e;omega
  obtain⟨vs,ar,aN,aw⟩:=He g t VW (λs hs=>by have:=(hg.all s hs).2;omega);rw[f_,ar];simp only[cv];refine Ay (G:=gN g t B) (λa c=>c.wf/\(a=true->vs≠[])) ?_ ?_
  ·--a variable,or ab else
   rintro a d1 ⟨ad,ax⟩;cases a with
   |true=>
    simp only[if_true];have ay:=ax rfl
    have aO:1<=vs.length:=by cases vs with|nil=>exact absurd rfl ay|cons _ _=>simp
    obtain⟨x,d2,Q,T,X,v⟩:=gX d1 ad (dn vs) aaP aaP;rw[Q];simp only[cH];obtain⟨y,hy,az⟩:=xY (l:=vs) T (by simpa using X);rw[hy];simp only[cv];obtain⟨i,rfl,aA,aB⟩:=aw y az;rw[wL];refine gN.of v (Wq i aA aB) ?_
    have:(zf i).agl=1:=by unfold zf;rw[Tm.cJ];rfl
    omega
   |false=>
    simp only[lU,jC];refine lx (G:=gN g t B) c9.wf ?_ ?_
    ·--by ah type
     intro d2 w;rcases Ty.l9 q with rfl|rfl|rfl|⟨a,b,rfl,ha,hb⟩|⟨a,b,rfl,ha,hb⟩
     ·--numbers
      simp only[show Ty.nat.agj=1 from rfl,dO,if_true];refine lx (G:=gN g .nat B) c9.wf ?_ ?_
      ·intro d3 Y;obtain⟨x,d4,Q,T,X,v⟩:=gX d3 Y 3 VW VW;rw[Q];simp only[cH];obtain⟨y,aC,ai⟩:=uA x T VW;rw[aC];refine gN.of v (ai g).1 ?_;have:=(ai g).2;rw[Ty.eU] at aa;omega
      ·intro j S;simp only[ei]
       split
       ·rename_i e;have U:=U e;obtain⟨x,d4,Q,T,X,v⟩:=gX d2 w 5 VW VW;rw[Q];simp only[cH,dO]
        split
        ·obtain⟨a,d5,a1,a2,a3⟩:=deep e g .nat d4 VW hg Ty.ew p v;rw[a1];simp only[cH];rw[Aa (by have:=m e a3;omega)];refine gN.of a2 (.succ a3.ty) ?_;have:=a3.agl;rw[Tm.cJ];simp only[cU];omega
        split
        ·rw[uX];simp only[cv];obtain⟨a,d5,a1,a2,a3⟩:=deep e g .nat d4 VW hg Ty.ew p v;rw[a1];simp only[cH];obtain⟨b,d6,A,C,o⟩:=deep e g .nat d5 VW hg Ty.ew p a2;rw[A];simp only[cH];rw[DT aaa (by have:=m e a3;omega) (by have:=m e o;omega)];refine gN.of C (.app (.app (yc g) a3.ty) o.ty) ?_;have:=a3.agl;have:=o.agl;have:=xd;rw[Tm.cJ];simp only[cU,Tm.cJ];omega
        split
        ·rw[Dk];simp only[cv];obtain⟨a,d5,a1,a2,a3⟩:=deep e g .nat d4 VW hg Ty.ew p v;rw[a1];simp only[cH];obtain⟨b,d6,A,C,o⟩:=deep e g .nat d5 VW hg Ty.ew p a2;rw[A];simp only[cH];rw[DT aaa (by have:=m e a3;omega) (by have:=m e o;omega)];refine gN.of C (.app (.app (MP g) a3.ty) o.ty) ?_;have:=a3.agl;have:=o.agl;have:=EV;rw[Tm.cJ];simp only[cU,Tm.cJ];omega
        ·exact S d4 v
       ·exact S d2 w
     ·--lists
      simp only[show Ty.k1.agj=2 from rfl,dO,if_true,show¬(2:Int)=1 by omega,jC];refine Ay (G:=gN g .k1 B) (λa c=>c.wf/\(a=true->0<dep)) ?_ ?_
      ·rintro a d3 ⟨Y,e⟩;cases a with
       |true=>
        have e:=e rfl;have U:=U e;simp only[if_true];rw[dN];simp only[cv];obtain⟨a,d5,a1,a2,a3⟩:=deep e g .nat d3 VW hg Ty.ew (by rw[Ty.eU];omega) Y;rw[a1];simp only[cH];obtain⟨b,d6,A,C,o⟩:=deep e g .k1 d5 VW hg Ty.kT p a2;rw[A];simp only[cH];rw[ov (by have:=m e a3;omega) (by have:=m e o;omega)];refine gN.of C (.cons a3.ty o.ty) ?_;have:=a3.agl;have:=o.agl;rw[Tm.cJ];simp only[cU];omega
       |false=>
        simp only[lU,jC];rw[xA];refine gN.of Y .nil ?_;rw[Tm.cJ];simp only[cU];omega
      ·intro j S;simp only[ei]
       split
       ·rename_i e;obtain⟨x,d4,Q,T,X,v⟩:=gX d2 w 2 VW VW;rw[Q];simp only[cH];exact S _ d4 ⟨v,λ_=>e⟩
       ·exact S _ d2 ⟨w,λh=>by cases h⟩
     ·simp only[show Ty.unit.agj=5 from rfl,dO,show¬(5:Int)=1 by omega,show¬(5:Int)=2 by omega,show¬(5:Int)=3 by omega,show¬(5:Int)=4 by omega,jC];rw[xA];refine gN.of w .unit ?_;rw[Tm.cJ];simp only[cU];omega
     ·simp only[show(Ty.pr a b).agj=3 from rfl,show(Ty.pr a b).agk=[a,b] from rfl,dO,show¬(3:Int)=1 by omega,show¬(3:Int)=2 by omega,if_true,jC,dg,ed,gd,jF,cv];rw[Ty.pV] at p an aa
      by_cases e:0<dep
      ·have U:=U e;obtain⟨x,d5,a1,a2,a3⟩:=deep e g a d2 VW hg ha VW w;rw[a1];simp only[cH];obtain⟨y,d6,A,C,o⟩:=deep e g b d5 VW hg hb VW a2;rw[A];simp only[cH];rw[ov (by have:=m e a3;omega) (by have:=m e o;omega)];refine gN.of C (.pair q a3.ty o.ty) ?_;have:=a3.agl;have:=o.agl;rw[Tm.cJ];simp only[cU];omega
      ·have aD:=Ty.pV a b;obtain⟨x,d5,a1,a2,a3⟩:=flat VW g a d2 VW VW hg ha w;rw[a1];simp only[cH];obtain⟨y,d6,A,C,o⟩:=flat VW g b d5 VW VW hg hb a2;rw[A];simp only[cH];have:=a3.agl;have:=o.agl;rw[ov (by have:=a3.wt;omega) (by have:=o.wt;omega)];refine gN.of C (.pair q a3.ty o.ty) ?_;rw[Tm.cJ];simp only[cU];omega
     ·simp only[show(Ty.fn a b).agj=4 from rfl,show(Ty.fn a b).agk=[a,b] from rfl,dO,show¬(4:Int)=1 by omega,show¬(4:Int)=2 by omega,show¬(4:Int)=3 by omega,if_true,jC,dg,ed,gd,jF,cv];have aD:=Ty.gv a b;rw[kr g [a] aaP];simp only[cv];have R:nu N (g++[a]):=hg.app (by intro s hs;rw[uR] at hs;subst hs;exact⟨ha,VW⟩)
      by_cases e:0<dep
      ·have U:=U e;obtain⟨x,d5,a1,a2,a3⟩:=deep e (g++[a]) b d2 aaB R hb VW w;rw[a1];simp only[cH];rw[uU VW (by have:=m e a3;omega)];refine gN.of a2 (.lam q a3.ty) ?_;have:=a3.agl;rw[Tm.cJ];simp only[cU];omega
      ·obtain⟨x,d5,a1,a2,a3⟩:=flat VW (g++[a]) b d2 aaB VW R hb w;rw[a1];simp only[cH];have:=a3.agl;rw[uU VW (by have:=a3.wt;omega)];refine gN.of a2 (.lam q a3.ty) ?_;rw[Tm.cJ];simp only[cU];omega
    ·--a aE,or one of ah context
     intro j S;simp only[ei]
     split
     ·rename_i e;have U:=U e;obtain⟨x,d2,Q,T,X,v⟩:=gX d1 ad 8 VW VW;rw[Q];simp only[cH,dO]
      have leaf:∀d,c9.wf d->∃s O,iE FU d 0=some (s,O)/\s.err=0/\s.agl=1/\O.wf:=by
       intro d hd;obtain⟨s,O,c1,c2,c3,c4⟩:=tn d hd 0 VW;have:=s.db;exact⟨s,O,c1,c2,VW,c4⟩
      split
      ·obtain⟨s,d3,s1,s2,s3,s4⟩:=leaf d2 v;rw[s1];simp only[cH];rw[kr g [s] aaP];simp only[cv];obtain⟨a,d5,a1,a2,a3⟩:=deep e (g++[s]) t d3 aaB (hg.app (by intro u hu;rw[uR] at hu;subst hu;exact⟨s2,VW⟩)) q p s4;rw[a1];simp only[cH];rw[uU VW (by have:=m e a3;omega)];simp only[cv];obtain⟨b,d6,A,C,o⟩:=deep e g s d5 VW hg s2 VW a2;rw[A];simp only[cH];have w1:=m e a3;rw[ov (by rw[Tm.dC];simp only[cU];omega) (by have:=m e o;omega)];refine gN.of C (.app (.lam (Ty.sw s2 q VW) a3.ty) o.ty) ?_;have:=a3.agl;have:=o.agl;rw[Tm.cJ];simp only[cU,Tm.cJ];omega
      split
      ·obtain⟨s,d3,s1,s2,s3,s4⟩:=leaf d2 v;rw[s1];simp only[cH];obtain⟨a,d5,a1,a2,a3⟩:=deep e g t d3 VW hg q p s4;rw[a1];simp only[cH];obtain⟨b,d6,A,C,o⟩:=deep e g s d5 VW hg s2 VW a2;rw[A];simp only[cH];have w1:=m e a3;have w2:=m e o;rw[ov VW VW];simp only[cv];rw[Aa (by rw[Tm.dC];have:Ty.z.agl=1:=rfl;simp only[cU];omega)];refine gN.of C (.fst (.pair (Ty.GD q s2 VW) a3.ty o.ty)) ?_;have:=a3.agl;have:=o.agl;rw[Tm.cJ];simp only[cU,Tm.cJ];omega
      split
      ·rw[dN];simp only[cv];rw[kr g [.nat,t] aaP];simp only[cv]
       have R:nu N (g++[.nat,t]):=hg.app (by
        intro u hu;simp only[iL,pt,mQ] at hu;rcases hu with rfl|rfl
        ·exact⟨Ty.ew,by rw[Ty.eU];omega⟩
        ·exact⟨q,p⟩)
       obtain⟨a,d5,a1,a2,a3⟩:=deep e (g++[.nat,t]) t d2 aaB R q p v;rw[a1];simp only[cH];have w1:=m e a3;have nn:=Ty.eU;rw[uU VW VW];simp only[cv];rw[uU VW (by rw[Tm.dC];simp only[cU];omega)];simp only[cv];obtain⟨b,d6,A,C,o⟩:=deep e g t d5 VW hg q p a2;rw[A];simp only[cH];obtain⟨y,d7,y1,y2,y3,y4⟩:=gX d6 C 3 VW VW;rw[y1];simp only[cH];obtain⟨z,z1,z2⟩:=uA y y2 VW;rw[z1];simp only[cv];have w2:=m e o;have zn:=(z2 g).2;have zw:=z.gm (z2 g).1.ok
       have e1:(Tm.mk 2 0 .nat [Tm.mk 2 0 t [a]]).wt<=2000000:=by rw[Tm.dC];simp only[cU,Tm.dC];omega
       rw[wR VW VW VW VW];have V:(Ty.fn t t).err=0:=Ty.sw q q VW;refine gN.of y4 (.oS q o.ty (.lam (Ty.sw Ty.ew V (by rw[Ty.gv];omega)) (.lam V (by simpa using a3.ty))) (z2 g).1) ?_;have:=a3.agl;have:=o.agl;rw[Tm.cJ];simp only[cU,Tm.cJ];omega
      split
      ·rw[dN,en];simp only[cv];rw[kr g [.nat,.k1,t] aaP];simp only[cv]
       have R:nu N (g++[.nat,.k1,t]):=hg.app (by
        intro u hu;simp only[iL,pt,mQ] at hu;rcases hu with rfl|rfl|rfl
        ·exact⟨Ty.ew,by rw[Ty.eU];omega⟩
        ·exact⟨Ty.kT,by rw[Ty.kI];omega⟩
        ·exact⟨q,p⟩)
       obtain⟨a,d5,a1,a2,a3⟩:=deep e (g++[.nat,.k1,t]) t d2 aaB R q p v;rw[a1];simp only[cH];have w1:=m e a3;have nn:=Ty.eU;have ln:=Ty.kI;rw[uU VW VW];simp only[cv];rw[uU VW (by rw[Tm.dC];simp only[cU];omega)];simp only[cv];rw[uU VW (by rw[Tm.dC];simp only[cU,Tm.dC];omega)];simp only[cv];obtain⟨b,d6,A,C,o⟩:=deep e g t d5 VW hg q p a2;rw[A];simp only[cH];obtain⟨c,d7,c1,c2,c3⟩:=deep e g .k1 d6 VW hg Ty.kT VW C;rw[c1];simp only[cH];have w2:=m e o;have w3:=m e c3
       have e1:(Tm.mk 2 0 .nat [Tm.mk 2 0 .k1 [Tm.mk 2 0 t [a]]]).wt<=2000000:=by rw[Tm.dC];simp only[cU,Tm.dC];omega
       rw[wR VW VW VW VW];have V:(Ty.fn t t).err=0:=Ty.sw q q VW;have Z:(Ty.fn .k1 (Ty.fn t t)).err=0:=Ty.sw Ty.kT V (by rw[Ty.gv];omega);refine gN.of c2 (.fold q o.ty (.lam (Ty.sw Ty.ew Z (by rw[Ty.gv,Ty.gv];omega)) (.lam Z (.lam V (by simpa using a3.ty)))) c3.ty) ?_;have:=a3.agl;have:=o.agl;have:=c3.agl;rw[Tm.cJ];simp only[cU,Tm.cJ];omega
      split
      ·obtain⟨s,d3,s1,s2,s3,s4⟩:=leaf d2 v;rw[s1];simp only[cH];obtain⟨a,d5,a1,a2,a3⟩:=deep e g s d3 VW hg s2 VW s4;rw[a1];simp only[cH];obtain⟨b,d6,A,C,o⟩:=deep e g t d5 VW hg q p a2;rw[A];simp only[cH];have w1:=m e a3;have w2:=m e o;rw[ov VW VW];simp only[cv];rw[Aa (by rw[Tm.dC];have:Ty.z.agl=1:=rfl;simp only[cU];omega)];refine gN.of C (.snd (.pair (Ty.GD s2 q VW) a3.ty o.ty)) ?_;have:=a3.agl;have:=o.agl;rw[Tm.cJ];simp only[cU,Tm.cJ];omega
      split
      ·--a function of ah context
       rw[cT VW,cL];simp only[cN]
       rcases B4 (λ_:Unit=>True) (λr:Tm×c9=>gN g t B (some r)) (F:=λ(E:Int) (aF:Ty) (_:Unit)=>
         cG (df g (ea .i64 (ea .i64 (dn g) 1) E)) λD=>
          if D.agj=4 then cG (df D.agk 1) λae=>cG (eh FU ae t) λaf=>
           if af then cG (fg E) λH=>cG (df D.agk 0) λI=>cX (f_ n d2 g I (ea .i64 dep 1)) λJ K=>
            cG (eQ 3 [H,J]) λL=>some (eu.ret (L,K))
           else some (eu.next ())
          else if false then cG (fg E) λH=>cG (df D.agk 0) λI=>cX (f_ n d2 g I (ea .i64 dep 1)) λJ K=>
            cG (eQ 3 [H,J]) λL=>some (eu.ret (L,K))
           else some (eu.next ())) g 0 () trivial (by
        intro k u s hk _;have aG:k<g.length:=(qb.1 hk).1
        have W:g.length-1-k<g.length:=VW
        have e1:df g (ea .i64 (ea .i64 (dn g) 1) ((0+k:Nat):Int))=some g[g.length-1-k]:=by
         rw[tG,dz,dF (a:=(g.length:Int)) (b:=1) VW VW,dF VW VW,show(g.length:Int)-1-(k:Int)=((g.length-1-k:Nat):Int) by omega,e_];simp[W]
        simp only[e1,cv];have hf:=hg.all _ (D7 W);have ak:g[g.length-1-k]?=some g[g.length-1-k]:=nw W;generalize g[g.length-1-k]=f at hf ak|-;rcases Ty.l9 hf.1 with rfl|rfl|rfl|⟨a,b,rfl,ha,hb⟩|⟨a,b,rfl,ha,hb⟩
        ·left;exact⟨(),rfl,trivial⟩
        ·left;exact⟨(),rfl,trivial⟩
        ·left;exact⟨(),rfl,trivial⟩
        ·left;exact⟨(),rfl,trivial⟩
        ·simp only[show(Ty.fn a b).agj=4 from rfl,show(Ty.fn a b).agk=[a,b] from rfl,dO,if_true,dg,ed,gd,jF,cv];have aH:=hf.2;rw[Ty.gv] at aH;rw[fv VW];simp only[cv];cases hs:b.jO t with
         |false=>left;exact⟨(),rfl,trivial⟩|true=>
          rw[Ty.iV] at hs;subst hs;right;simp only[if_true,tG];rw[wL];simp only[cv];obtain⟨y,d5,a1,a2,a3⟩:=deep e g a d2 VW hg ha VW v;rw[a1];simp only[cH];have w1:=m e a3
          have e2:(zf k).wt=2:=by unfold zf;rw[Tm.dC];rfl
          rw[ov VW VW];refine⟨_,rfl,gN.of a2 (.app (Wq k aG ak) a3.ty) ?_⟩;have:=a3.agl
          have e3:(zf k).agl=1:=by unfold zf;rw[Tm.cJ];rfl
          rw[Tm.cJ];simp only[cU];omega)with⟨s,hs,_⟩|⟨r,hr,aI⟩
       ·rw[hs];exact S d2 v
       ·rw[hr];exact aI
      ·exact S d2 v
     ·exact S d1 ad
  ·intro j S;simp only[ei,dz]
   split
   ·rename_i e;obtain⟨x,d2,Q,T,X,v⟩:=gX d hd 3 VW VW;rw[Q];simp only[cH];exact S _ d2 ⟨v,λ_ h=>by subst h;simp at e⟩
   ·exact S _ d ⟨hd,λh=>by cases h⟩
inductive hD:List Ty->Fm->Prop
 |eq {g a b}:du g a .nat->du g b .nat->hD g (.mk 1 .z [a,b] [])|two {g k a b}:k=2\/k=3->hD g a->hD g b->hD g (.mk k .z [] [a,b])|q {g k s a}:k=4\/k=5\/k=6\/k=7->s.err=0->hD (g++[s]) a->hD g (.mk k s [] [a])
def hD.ok{g:List Ty}{f:Fm}(h:hD g f):f.ok=true:=by
 induction h with
 |eq c d=>simp[Fm.eD,Fm.node,Ty.lC,c.ok,d.ok]|two e _ _ i j=>
  rename_i k a b _ _
  have:¬k=1:=VW
  simp[Fm.eD,Fm.node,Ty.lC,e,this,i,j]
 |q e hs _ l=>
  rename_i k s a _
  have c:¬k=1:=VW
  have d:¬(k=2\/k=3):=VW
  have m:gy k=true:=by simp[gy,e]
  simp[Fm.eD,Fm.node,c,d,m,hs,l]
def yP{a b:Tm}(c:a.wt<=1000000000)(d:b.wt<=1000000000):mf a b=some (.mk 1 .z [a,b] []):=by
 unfold mf;rw[jB c,jB d];rfl
def Ag{k:Int}{a b:Fm}(c:a.wt<=1000000000)(d:b.wt<=1000000000):m7 k a b=some (.mk k .z [] [a,b]):=by
 unfold m7;rw[hI c,hI d];rfl
def y9{k:Int}{s:Ty}{a:Fm}(hs:s.agl<=1000000000)(b:a.wt<=1000000000):jA k s a=some (.mk k s [] [a]):=by
 unfold jA;rw[fF hs,hI b];rfl
def LP:uf=some (.mk 1 .z [mb,gu mb] []):=by
 unfold uf;rw[xA];simp only[cv];rw[Aa aaa];simp only[cv];rw[yP aaa aaa];rfl
def fb:Nat->Nat
 |0=>115|k+1=>1+2*fb k
def WG:∀k,k<=5->fb k<=3711:=by
 intro k a
 have:k=0\/k=1\/k=2\/k=3\/k=4\/k=5:=VW
 rcases this with rfl|rfl|rfl|rfl|rfl|rfl<;>decide
structure Mw (g:List Ty) (f:Fm) (n:Nat):Prop where
 ty:hD g f
 agl:f.agl<=n
def Mw.wt{g:List Ty}{f:Fm}{n:Nat}(h:Mw g f n):f.wt<=65*n:=by
 have:=f.gm h.ty.ok;have:=h.agl;omega
theorem Mw.err{g:List Ty}{f:Fm}{n:Nat}(h:Mw g f n)(hn:n<=4096):f.err=0:=Fm.qO h.ty.ok (by have:=h.agl;omega)
def oM(g:List Ty)(b:Nat)(o:Option (Fm×c9)):Prop:=∃x a,o=some (x,a)/\a.wf/\Mw g x b
def oM.of{g:List Ty}{b:Nat}{x:Fm}{d:c9}(a:d.wf)(h:hD g x)(hn:x.agl<=b):oM g b (some (x,d)):=⟨x,d,rfl,a,h,hn⟩
def An(N:Nat)(b:1<=N)(e:N<=20)(dep:Nat)(a:dep<=5)(g:List Ty)(t:Ty)(d:c9)(j:g.length<=600)(hg:nu N g)(f:t.err=0)(c:t.agl<=N)(h:d.wf):gN g t (tb N dep) (f_ FU d g t (dep:Int)):=by
 have k:dep*(N+1)<=5*21:=DC a VW;have l:(3+N)*dep<=23*5:=DC VW a;obtain⟨x,i,a1,a2,a3⟩:=GA N b e FU (dep:Int) g t d (by rw[dp];simp;omega) VW VW aaP hg f c h;refine⟨x,i,a1,a2,a3.mono ?_⟩
 split
 ·have:dep=0:=VW
  subst this;simp only[tb];omega
 ·simp
def By:∀(n k:Nat) (g:List Ty) (d:c9),k<n->k<=5->g.length+k<=500->nu 3 g->d.wf->oM g (fb k) (iv n d g (k:Int)):=by
 intro n
 induction n with
 |zero=>intro k g d h;omega|succ n I=>
  intro k g d R J hlen hg N;rw[iv];refine lx (G:=oM g (fb k)) c9.wf ?_ ?_
  ·intro d1 K;rw[dN];simp only[cv];obtain⟨a,d2,a1,a2,a3⟩:=An 3 VW VW 1 VW g .nat d1 VW hg Ty.ew (by rw[Ty.eU];omega) K;rw[show((1:Nat):Int)=1 from rfl] at a1;rw[a1];simp only[cH];obtain⟨b,d3,C,L,f⟩:=An 3 VW VW 1 VW g .nat d2 VW hg Ty.ew (by rw[Ty.eU];omega) a2;rw[show((1:Nat):Int)=1 from rfl] at C;rw[C];simp only[cH];have e:tb 3 1=57:=rfl;rw[e] at a3 f;rw[yP (by have:=a3.wt;omega) (by have:=f.wt;omega)];refine oM.of L (.eq a3.ty f.ty) ?_;have:=a3.agl;have:=f.agl
   have W:115<=fb k:=by
    clear R J hlen I
    induction k with
    |zero=>simp[fb]|succ k I=>simp only[fb];omega
   rw[Fm.cJ];simp only[cU];omega
  ·intro j O;simp only[ei]
   split
   ·rename_i P;obtain⟨m,rfl⟩:∃m,k=m+1:=⟨k-1,VW⟩
    have S:ea .i64 ((m+1:Nat):Int) 1=(m:Int):=by rw[dF VW VW];omega
    have T:=WG m VW
    have deep:∀l D,l.length<=g.length+1->nu 3 l->D.wf->oM l (fb m) (iv n D l (ea .i64 ((m+1:Nat):Int) 1)):=by
     intro l D E F Q;rw[S];exact I m l D VW VW VW F Q
    have ctx:∀s:Ty,s.err=0->s.agl<=3->nu 3 (g++[s]):=λs E F=>hg.app (by intro u hu;rw[uR] at hu;subst hu;exact⟨E,F⟩);obtain⟨x,d2,E,F,Q,H⟩:=gX d N 9 VW VW;rw[E];simp only[cH,ja,nA,dO]
    have two:∀c:Int,c=2\/c=3->oM g (fb (m+1)) (cX (iv n d2 g (ea .i64 ((m+1:Nat):Int) 1)) λo d317=>cX (iv n d317 g (ea .i64 ((m+1:Nat):Int) 1)) λp d321=>cG (m7 c o p) λr=>some (r,d321)):=by
     intro c t;obtain⟨a,d3,a1,a2,a3⟩:=deep g d2 VW hg H;rw[a1];simp only[cH];obtain⟨b,d4,C,L,f⟩:=deep g d3 VW hg a2;rw[C];simp only[cH];rw[Ag (by have:=a3.wt;omega) (by have:=f.wt;omega)];refine oM.of L (.two t a3.ty f.ty) ?_;have:=a3.agl;have:=f.agl;rw[Fm.cJ];simp only[cU,fb];omega
    split
    ·exact two 2 (.inl rfl)
    split
    ·exact two 3 (.inr rfl)
    have one:∀c:Int,c=4\/c=5->oM g (fb (m+1)) (cX (iE FU d2 1) λi v=>cG (m5 g [i]) λw=>cX (iv n v w (ea .i64 ((m+1:Nat):Int) 1)) λz A=>cG (jA c i z) λB=>some (B,A)):=by
     intro c t;obtain⟨s,d3,s1,s2,U,M⟩:=tn d2 H 1 VW;rw[show((1:Nat):Int)=1 from rfl] at s1;rw[s1];simp only[cH];rw[kr g [s] aaP];simp only[cv];obtain⟨a,d4,a1,a2,a3⟩:=deep (g++[s]) d3 aaB (ctx s s2 VW) M;rw[a1];simp only[cH];rw[y9 VW (by have:=a3.wt;omega)];refine oM.of a2 (.q VW s2 a3.ty) ?_;have:=a3.agl;rw[Fm.cJ];simp only[cU,fb];omega
    split
    ·exact one 4 (.inl rfl)
    split
    ·exact one 5 (.inr rfl)
    split
    ·obtain⟨s,d3,s1,s2,U,M⟩:=tn d2 H 0 VW;rw[show((0:Nat):Int)=0 from rfl] at s1;rw[s1];simp only[cH];obtain⟨y,d5,V,X,y3,y4⟩:=gX d3 M 2 VW VW;rw[V];simp only[cH];rw[kr g [s] aaP];simp only[cv];obtain⟨a,d4,a1,a2,a3⟩:=deep (g++[s]) d5 aaB (ctx s s2 VW) y4;rw[a1];simp only[cH];rw[ds VW VW,y9 VW (by have:=a3.wt;omega)];refine oM.of a2 (.q VW s2 a3.ty) ?_;have:=a3.agl;rw[Fm.cJ];simp only[cU,fb];omega
    ·exact O d2 H
   ·exact O d N
def EW(k:Nat)(a:k<=5)(g:List Ty)(d:c9)(c:g.length<=400)(hg:nu 3 g)(b:d.wf):oM g (fb k) (iv FU d g (k:Int)):=
 By FU k g d (by rw[dp];omega) a VW hg b
def S2(l:List Int)(h:l.length<=1000):(c9.mk l 0).wf:=⟨h,aaB,aaB⟩
def rb(l:List Ty):Int:=if 16<l.length then 3 else eC (l.map Ty.err)
def rv(l:List Ty)(e:l.length<=1000000)(h:∀t∈l,t.agl<=1000000000):mx l=some (rb l):=by
 unfold mx rb;simp only[ei,dz,cT (l:=l) VW,cL,cN]
 by_cases b:16<l.length
 ·rw[cK VW,cK b]
 ·rw[cI VW,cI b]
  have key:=hQ (F:=λ(j:Int) (x:Ty) (_:Unit)=>cG (kL x) λa=>if dw a 0 then some (eu.ret a)else some (eu.next ())) Ty.err l 0 (by
   intro j x d;rw[tk (h x d)]
   simp only[cv,cV])
  simp only[cV] at key|-;rw[key]
  by_cases c:eC (l.map Ty.err)=0
  ·simp[c]
  ·simp[c]
def nK(l:List Ty)(e:l.length<=1000000)(h:∀t∈l,t.agl<=1000000000):lW l=some (rb l):=by
 unfold lW rb;simp only[ei,dz,cT (l:=l) VW,cL,cN]
 by_cases b:16<l.length
 ·rw[cK VW,cK b]
 ·rw[cI VW,cI b]
  have key:=hQ (F:=λ(j:Int) (x:Ty) (_:Unit)=>cG (iA x) λa=>if dw a 0 then some (eu.ret a)else some (eu.next ())) Ty.err l 0 (by
   intro j x d;rw[jd (h x d)]
   simp only[cv,cV])
  simp only[cV] at key|-;rw[key]
  by_cases c:eC (l.map Ty.err)=0
  ·simp[c]
  ·simp[c]
def xo{α:Type}{l:List α}{i:Nat}{x:α}{m:List α}(h:l.drop i=x::m):i<l.length/\l[i]?=some x/\l.drop (i+1)=m:=by
 have a:i<l.length:=by
  rcases tv i l.length with h'|h'
  ·exact h'
  ·rw[H9 h'] at h;cases h
 rw[L2 a] at h;injection h with b c;exact⟨a,by rw[nw a,b],c⟩
def ru:∀(n:Nat) (a b:Ty),a.agl<=n->a.agl<=1000000000->∃r,fN n a b=some r/\(r=true↔a=b):=by
 intro n
 induction n with
 |zero=>intro t b h;have:=t.db;omega
 |succ n q=>
  intro a b h s;cases a with
  |mk k l=>
  cases b with
  |mk k' m=>
   rw[Ty.cJ] at h s;have u:=Ty.dK l;rw[fN];simp only[Ty.cZ,Ty.da,cN,cT (l:=l) VW,cL,ja,nA,cV,dz]
   by_cases d:k≠k'\/(l.length:Int)≠m.length
   ·rw[cK d];refine⟨false,rfl,?_⟩;simp only[lU,Ea,Ty.mk.injEq,not_and];rintro rfl rfl;simp at d
   ·rw[cI d];simp only[not_or,uC] at d;obtain⟨rfl,hlen⟩:=d
    have c:l.length=m.length:=VW
    let p:Ty->Ty->Bool:=λx y=>(fN n x y).getD false
    have i:∀x∈l,∀y,fN n x y=some (p x y)/\(p x y=true↔x=y):=by
     intro x f y;have:=c6 Ty.agl f;obtain⟨r,o,g⟩:=q x y VW VW
     have e:p x y=r:=by show(fN n x y).getD false=r;rw[o];rfl
     rw[e];exact⟨o,g⟩
    have key:=rn (F:=λ(j:Int) (x:Ty) (_:Unit)=>cG (df m j) λy=>cG (fN n x y) λz=>if z then some (eu.next ())else some (eu.ret false)) p m l 0 m rfl c (by
     intro k x y f hy;rw[e_,hy];simp only[cv];rw[(i x f y).1]
     rfl)
    rw[key];have he:=rK p l m λx f y=>(i x f y).2;cases g:pN p l m with
    |false=>exact⟨false,rfl,by rw[g] at he;simpa using he⟩
    |true=>exact⟨true,rfl,by rw[g] at he;simpa using he⟩
def rO:∀(n:Nat) (a b:Tm),a.wt<=n->a.wt<=1000000000->∃r,hY n a b=some r/\(r=true↔a=b):=by
 intro n
 induction n with
 |zero=>intro t b h;have:=t.fO;omega
 |succ n D=>
  intro a b h E;cases a with
  |mk k i s l=>
  cases b with
  |mk k' f u m=>
   rw[Tm.dC] at h E;have H:=Tm.jc l;rw[hY];simp only[Tm.cZ,Tm.da,Tm.dW,Tm.dv,cN,cT (l:=l) VW,cL,cV,dz]
   have no:¬(k=k'/\i=f/\s=u/\l.length=m.length)->∃r,some false=some r/\(r=true↔Tm.mk k i s l=Tm.mk k' f u m):=by
    intro hn;refine⟨false,rfl,?_⟩;simp only[lU,Ea,Tm.mk.injEq,not_and];rintro rfl rfl rfl rfl;exact hn ⟨rfl,rfl,rfl,rfl⟩
   by_cases g:k≠k'
   ·rw[cK g,cK trivial];exact no λh=>g h.1
   ·rw[cI g]
    by_cases hi:i≠f
    ·rw[cK hi,cK trivial];exact no λh=>hi h.2.1
    ·rw[cI hi];obtain⟨r,G,A⟩:=ru FU s u (by rw[dp];omega) VW;rw[G];simp only[cv]
     by_cases o:r=true
     ·have hs:=A.1 o;rw[cK o]
      by_cases hlen:(l.length:Int)≠m.length
      ·rw[cK hlen];exact no λh=>hlen VW
      ·rw[cI hlen]
       have c:l.length=m.length:=VW
       let p:Tm->Tm->Bool:=λx y=>(hY n x y).getD false
       have B:∀x∈l,∀y,hY n x y=some (p x y)/\(p x y=true↔x=y):=by
        intro x d y;have:=c6 Tm.wt d;obtain⟨r,C,q⟩:=D x y VW VW
        have e:p x y=r:=by show(hY n x y).getD false=r;rw[C];rfl
        rw[e];exact⟨C,q⟩
       have key:=rn (F:=λ(j:Int) (x:Tm) (_:Unit)=>cG (df m j) λy=>cG (hY n x y) λz=>if z then some (eu.next ())else some (eu.ret false)) p m l 0 m rfl c (by
        intro k x y d hy;rw[e_,hy];simp only[cv];rw[(B x d y).1]
        rfl)
       rw[key];have he:=rK p l m λx d y=>(B x d y).2;have v:k=k':=uC.1 g;have hi':i=f:=uC.1 hi;cases q:pN p l m with
       |false=>
        refine⟨false,rfl,?_⟩;rw[q] at he;simp only[lU,Ea,Tm.mk.injEq,not_and];intro _ _ _ w;exact absurd (he.2 w) aaB
       |true=>
        refine⟨true,rfl,?_⟩;rw[q] at he;simp only[RR,Tm.mk.injEq];exact⟨v,hi',hs,he.1 rfl⟩
     ·rw[cI o,cK trivial];exact no λh=>o (A.2 h.2.2.1)
def ra:∀(n:Nat) (a b:Tm),a.wt<=n->a.wt<=1000000000->∃r,iK n a b=some r/\(r=true↔a=b):=by
 intro n
 induction n with
 |zero=>intro t b h;have:=t.fO;omega
 |succ n D=>
  intro a b h E;cases a with
  |mk k i s l=>
  cases b with
  |mk k' f u m=>
   rw[Tm.dC] at h E;have H:=Tm.jc l;rw[iK];simp only[Tm.cZ,Tm.da,Tm.dW,Tm.dv,cN,cT (l:=l) VW,cL,cV,dz]
   have no:¬(k=k'/\i=f/\s=u/\l.length=m.length)->∃r,some false=some r/\(r=true↔Tm.mk k i s l=Tm.mk k' f u m):=by
    intro hn;refine⟨false,rfl,?_⟩;simp only[lU,Ea,Tm.mk.injEq,not_and];rintro rfl rfl rfl rfl;exact hn ⟨rfl,rfl,rfl,rfl⟩
   by_cases g:k≠k'
   ·rw[cK g,cK trivial];exact no λh=>g h.1
   ·rw[cI g]
    by_cases hi:i≠f
    ·rw[cK hi,cK trivial];exact no λh=>hi h.2.1
    ·rw[cI hi];obtain⟨r,G,A⟩:=qP FU s u (by rw[dp];omega) VW;rw[G];simp only[cv]
     by_cases o:r=true
     ·have hs:=A.1 o;rw[cK o]
      by_cases hlen:(l.length:Int)≠m.length
      ·rw[cK hlen];exact no λh=>hlen VW
      ·rw[cI hlen]
       have c:l.length=m.length:=VW
       let p:Tm->Tm->Bool:=λx y=>(iK n x y).getD false
       have B:∀x∈l,∀y,iK n x y=some (p x y)/\(p x y=true↔x=y):=by
        intro x d y;have:=c6 Tm.wt d;obtain⟨r,C,q⟩:=D x y VW VW
        have e:p x y=r:=by show(iK n x y).getD false=r;rw[C];rfl
        rw[e];exact⟨C,q⟩
       have key:=rn (F:=λ(j:Int) (x:Tm) (_:Unit)=>cG (df m j) λy=>cG (iK n x y) λz=>if z then some (eu.next ())else some (eu.ret false)) p m l 0 m rfl c (by
        intro k x y d hy;rw[e_,hy];simp only[cv];rw[(B x d y).1]
        rfl)
       rw[key];have he:=rK p l m λx d y=>(B x d y).2;have v:k=k':=uC.1 g;have hi':i=f:=uC.1 hi;cases q:pN p l m with
       |false=>
        refine⟨false,rfl,?_⟩;rw[q] at he;simp only[lU,Ea,Tm.mk.injEq,not_and];intro _ _ _ w;exact absurd (he.2 w) aaB
       |true=>
        refine⟨true,rfl,?_⟩;rw[q] at he;simp only[RR,Tm.mk.injEq];exact⟨v,hi',hs,he.1 rfl⟩
     ·rw[cI o,cK trivial];exact no λh=>o (A.2 h.2.2.1)
def BF{a b:Tm}(hw:a.wt<=1000000000):∃r,qL a b=some r/\(r=true↔a=b):=by
 obtain⟨r,c,d⟩:=rO FU a b (by rw[dp];exact hw) hw;exact⟨r,by unfold qL;rw[c];rfl,d⟩
def Ez:∀(k:Nat) (m:Int) (t:Tm),(t.norm k m).2.2=0\/(t.norm k m).2.2=4\/(t.norm k m).2.2=5
 |0,m,t=>by
  rw[Tm.norm]
  split
  ·exact .inl rfl
  ·exact .inr (.inr rfl)
 |k+1,m,t=>by
  rw[Tm.norm]
  split
  ·exact .inr (.inl rfl)
  ·exact .inl rfl
  ·exact Ez k _ _
def DS:∀(k:Nat) (M m:Int) (t a:Tm) (n:Int),0<=M->Sm M t->t.agl<=4096->t.norm k m=(a,n,0)->Sm (M+8192*k) a/\a.agl<=4096
 |0,M,m,t,a,n,d,hs,hn,h=>by
  rw[Tm.norm] at h
  split at h
  ·obtain⟨b,h⟩:=gE h;rw[<-b];exact⟨hs.mono VW,hn⟩
  ·cases h
 |k+1,M,m,t,a,n,d,hs,hn,h=>by
  rw[Tm.norm] at h
  split at h
  ·cases h
  ·obtain⟨b,h⟩:=gE h;rw[<-b];exact⟨hs.mono VW,hn⟩
  ·rename_i e c;obtain⟨f,g,i⟩:=Dj d t hs VW e c;obtain⟨a1,a2⟩:=DS k (M+8192) (m+1) e a n VW ⟨f,g,VW⟩ VW h;exact⟨a1.mono VW,a2⟩
def JK(l:List Int):Ft l=some (decide (l.length<=500)):=by
 unfold Ft
 congr 1
 unfold A8 dn;exact HT.2 VW
def tP{k:Int}(a:k≠1)(c:k≠2)(f b i:Int)(s:Ty)(l:List Tm):(Tm.mk k i s l).up f b=.mk k i s (l.map (Tm.up f b)):=by
 rw[Tm.ir,cI (λh=>a h.1)];unfold d_;rw[cI c,td]
def TF(f b i:Int)(s:Ty)(l:List Tm):(Tm.mk 2 i s l).up f b=.mk 2 i s (l.map (Tm.up (f+1) b)):=by
 rw[Tm.ir,cI (λh=>by have:=h.1;omega)];rfl
def pT{k:Int}(b:k≠1)(c:k≠2)(n i:Int)(a:Tm)(s:Ty)(l:List Tm):Tm.j3 n (Tm.mk k i s l) a=.mk k i s (l.map λx=>Tm.j3 n x a):=by
 rw[Tm.ka,cI b];unfold d_;rw[cI c,td]
def Pj(n i:Int)(a:Tm)(s:Ty)(l:List Tm):Tm.j3 n (Tm.mk 2 i s l) a=.mk 2 i s (l.map λx=>Tm.j3 (n+1) x a):=by
 rw[Tm.ka,cI aaa];rfl
def zh{g:List Ty}{t:Ty}{i j:Nat}(h:g[j]?=some t)(hi:i<g.length)(a:g.length-1-i=j):du g (.mk 1 i .z []) t:=.var i hi (by rw[a];exact h)
def du.up{g:List Ty}{x:Tm}{t:Ty}(h:du g x t):∀g1 g2 e:List Ty,g=g1++g2->du (g1++e++g2) (x.up g2.length e.length) t:=by
 induction h with
 |@var g t i d l=>
  rintro g1 g2 e rfl;rw[Tm.ir,Em];rw[qI] at d
  by_cases hi:g2.length<=i
  ·rw[cK ⟨rfl,VW⟩,show(i:Int)+e.length=((i+e.length:Nat):Int) by push_cast;rfl];refine zh (j:=g1.length+g2.length-1-i) ?_ (by simp<;>omega) (by simp<;>omega);rw[qI,s_ VW] at l;rw[ry,s_ VW];exact l
  ·rw[cI (λh=>by have:=h.2;omega)];refine zh (j:=g1.length+e.length+(g2.length-1-i)) ?_ (by simp<;>omega) (by simp<;>omega);rw[qI,xj VW] at l;rw[xj (by simp<;>omega)];rw[<-l]
   congr 1
   simp;omega
 |@lam g s b t d _ f=>
  rintro g1 g2 e rfl;have:=f g1 (g2++[s]) e (by rw[ry]);rw[TF];refine .lam d ?_;rw[qI,<-ry] at this;exact this
 |app _ _ a c=>intro g1 g2 e hg;rw[tP aaa aaa];exact .app (a g1 g2 e hg) (c g1 g2 e hg)|zero=>intro g1 g2 e hg;rw[tP aaa aaa];exact .zero|succ _ f=>intro g1 g2 e hg;rw[tP aaa aaa];exact .succ (f g1 g2 e hg)|oS d _ _ _ a c k=>intro g1 g2 e hg;rw[tP aaa aaa];exact .oS d (a g1 g2 e hg) (c g1 g2 e hg) (k g1 g2 e hg)|nil=>intro g1 g2 e hg;rw[tP aaa aaa];exact .nil|cons _ _ a c=>intro g1 g2 e hg;rw[tP aaa aaa];exact .cons (a g1 g2 e hg) (c g1 g2 e hg)|fold d _ _ _ a c k=>intro g1 g2 e hg;rw[tP aaa aaa];exact .fold d (a g1 g2 e hg) (c g1 g2 e hg) (k g1 g2 e hg)|pair d _ _ a c=>intro g1 g2 e hg;rw[tP aaa aaa];exact .pair d (a g1 g2 e hg) (c g1 g2 e hg)|fst _ f=>intro g1 g2 e hg;rw[tP aaa aaa];exact .fst (f g1 g2 e hg)|snd _ f=>intro g1 g2 e hg;rw[tP aaa aaa];exact .snd (f g1 g2 e hg)|unit=>intro g1 g2 e hg;rw[tP aaa aaa];exact .unit
theorem du.j3{g:List Ty}{x:Tm}{t:Ty}(h:du g x t):∀(g1:List Ty) (s:Ty) (g2:List Ty) (a:Tm),g=g1++[s]++g2->du g1 a s->du (g1++g2) (Tm.j3 g2.length x a) t:=by
 induction h with
 |@var g t i f k=>
  rintro g1 s g2 a rfl c;rw[Tm.ka,cK rfl];unfold Tm.pC;simp only[qI,hW,tY] at f k
  by_cases he:(i:Int)=g2.length
  ·rw[cK he]
   have n:s=t:=by
    rw[ry,xj VW,s_ (by simp<;>omega)] at k;rw[show g1.length+(0+1)+g2.length-1-i-g1.length=0 by omega] at k;exact gB k
   subst n;have:=c.up g1 [] g2 aaB;simpa using this
  ·rw[cI he]
   by_cases hi:(g2.length:Int)<i
   ·rw[cK hi,show(i:Int)-1=((i-1:Nat):Int) by omega];refine zh (j:=g1.length+g2.length-i) ?_ (by simp<;>omega) (by simp<;>omega);rw[ry,s_ VW] at k;rw[s_ VW,<-k]
    congr 1
    omega
   ·rw[cI hi];refine zh (j:=g1.length+(g2.length-1-i)) ?_ (by simp<;>omega) (by simp<;>omega);rw[xj (by simp<;>omega)] at k;rw[xj VW,<-k]
    congr 1
    simp;omega
 |@lam g s b t f _ l=>
  rintro g1 u g2 a rfl c;have:=l g1 u (g2++[s]) a (by simp only[ry]) c;rw[Pj];refine .lam f ?_;rw[qI,<-ry] at this;exact this
 |app _ _ d e=>intro g1 s g2 a hg c;rw[pT aaa aaa];exact .app (d g1 s g2 a hg c) (e g1 s g2 a hg c)|zero=>intro g1 s g2 a hg c;rw[pT aaa aaa];exact .zero|succ _ l=>intro g1 s g2 a hg c;rw[pT aaa aaa];exact .succ (l g1 s g2 a hg c)|oS f _ _ _ d e m=>intro g1 s g2 a hg c;rw[pT aaa aaa];exact .oS f (d g1 s g2 a hg c) (e g1 s g2 a hg c) (m g1 s g2 a hg c)|nil=>intro g1 s g2 a hg c;rw[pT aaa aaa];exact .nil|cons _ _ d e=>intro g1 s g2 a hg c;rw[pT aaa aaa];exact .cons (d g1 s g2 a hg c) (e g1 s g2 a hg c)|fold f _ _ _ d e m=>intro g1 s g2 a hg c;rw[pT aaa aaa];exact .fold f (d g1 s g2 a hg c) (e g1 s g2 a hg c) (m g1 s g2 a hg c)|pair f _ _ d e=>intro g1 s g2 a hg c;rw[pT aaa aaa];exact .pair f (d g1 s g2 a hg c) (e g1 s g2 a hg c)|fst _ l=>intro g1 s g2 a hg c;rw[pT aaa aaa];exact .fst (l g1 s g2 a hg c)|snd _ l=>intro g1 s g2 a hg c;rw[pT aaa aaa];exact .snd (l g1 s g2 a hg c)|unit=>intro g1 s g2 a hg c;rw[pT aaa aaa];exact .unit
def Ty.Tg{a b c d:Ty}(h:Ty.fn a b=Ty.fn c d):a=c/\b=d:=by unfold Ty.fn at h;simpa using h
def Ty.MG{a b c d:Ty}(h:Ty.pr a b=Ty.pr c d):a=c/\b=d:=by unfold Ty.pr at h;simpa using h
theorem du.dX{g:List Ty}{x:Tm}{t:Ty}(h:du g x t)(l:x.root=true):du g x.dX t:=by
 cases h with
 |@app _ f a s _ c j=>
  have d:f.agj=2:=by simpa[Tm.root,Tm.kd] using l
  generalize o:Ty.fn s t=q at c
  cases c<;>simp only[Tm.da] at d<;>first|omega|skip
  rename_i w b p e i;obtain⟨rfl,rfl⟩:=Ty.Tg o;have:=i.j3 g s [] a aaB j;simpa[Tm.dX] using this
 |@oS _ _ b s n c j e i=>
  have d:n.agj=4\/n.agj=5:=by simpa[Tm.root,Tm.kd] using l
  cases i<;>simp only[Tm.da] at d<;>first|omega|skip
  ·simpa[Tm.dX] using j
  ·rename_i m k;have:=du.app (.app e k) (du.oS c j e k);simpa[Tm.dX,i_,Ty.z] using this
 |@fold _ _ b s n c j e i=>
  have d:n.agj=7\/n.agj=8:=by simpa[Tm.root,Tm.kd] using l
  cases i<;>simp only[Tm.da] at d<;>first|omega|skip
  ·simpa[Tm.dX] using j
  ·rename_i u v k r;have:=du.app (.app (.app e k) r) (du.fold c j e r);simpa[Tm.dX,i_,Ty.z] using this
 |@fst _ a s p c=>
  have d:a.agj=10:=by simpa[Tm.root,Tm.kd] using l
  generalize o:Ty.pr t p=q at c
  cases c<;>simp only[Tm.da] at d<;>first|omega|skip
  rename_i e i k;obtain⟨rfl,rfl⟩:=Ty.MG o;simpa[Tm.dX] using i
 |@snd _ a s p c=>
  have d:a.agj=10:=by simpa[Tm.root,Tm.kd] using l
  generalize o:Ty.pr s t=q at c
  cases c<;>simp only[Tm.da] at d<;>first|omega|skip
  rename_i e i k;obtain⟨rfl,rfl⟩:=Ty.MG o;simpa[Tm.dX] using k
 |_=>simp[Tm.root] at l
def iS{r k i:Int}{s:Ty}{l:List Tm}{b:Tm}(h:(Tm.mk k i s l).BW r=some (some b)):((Tm.mk k i s l).root=true/\b=(Tm.mk k i s l).dX)\/∃a,Tm.np r l=some (some a)/\b=.mk k i s a:=by
 rw[Tm.vJ] at h
 by_cases c:(Tm.mk k i s l).root=true
 ·rw[cK c] at h
  split at h
  · cases h
  · exact .inl ⟨c,(gB (gB h)).symm⟩
 ·rw[cI c] at h;cases e:Tm.np r l with
  |none=>rw[e] at h;cases h
  |some o=>
    cases o with
    |none=>rw[e] at h;cases h
    |some a=>rw[e] at h;exact .inr ⟨a,rfl,(gB (gB h)).symm⟩
def gT{r:Int}{a:Tm}{l c:List Tm}(h:Tm.np r (a::l)=some (some c)):(∃b,a.BW r=some (some b)/\c=b::l)\/∃m,Tm.np r l=some (some m)/\c=a::m:=by
 rw[Tm.np] at h;cases e:a.BW r with
 |none=>rw[e] at h;cases h
 |some o=>
  cases o with
  |some b=>rw[e] at h;exact .inl ⟨b,rfl,(gB (gB h)).symm⟩
  |none=>
   rw[e] at h;dsimp only at h;cases d:Tm.np r l with
   |none=>rw[d] at h;cases h
   |some o2=>
    cases o2 with
    |none=>rw[d] at h;cases h
    |some m=>rw[d] at h;exact .inr ⟨m,rfl,(gB (gB h)).symm⟩
def j7{r:Int}{a:List Tm}(h:Tm.np r []=some (some a)):False:=by rw[Tm.np] at h;cases h
def du.BW{r:Int}{g:List Ty}{x:Tm}{t:Ty}(h:du g x t):∀n,x.BW r=some (some n)->du g n t:=by
 induction h with
 |var i c f=>
  intro n hs;rcases iS hs with⟨d,rfl⟩|⟨q,e,rfl⟩
  ·exact(du.var i c f).dX d
  ·exact(j7 e).elim
 |lam c f s=>
  intro n hs;rcases iS hs with⟨d,rfl⟩|⟨q,e,rfl⟩
  ·exact(du.lam c f).dX d
  ·rcases gT e with⟨o,a,b⟩|⟨m,a,b⟩
   ·subst_vars;exact .lam c (s _ a)
   ·exact(j7 a).elim
 |app c f j k=>
  intro n hs;rcases iS hs with⟨d,rfl⟩|⟨q,e,rfl⟩
  ·exact(du.app c f).dX d
  ·rcases gT e with⟨o,a,b⟩|⟨m,a,b⟩
   ·subst_vars;exact .app (j _ a) f
   ·rcases gT a with⟨o,l,b⟩|⟨m,l,b⟩
    ·subst_vars;exact .app c (k _ l)
    ·exact(j7 l).elim
 |zero=>
  intro n hs;rcases iS hs with⟨d,rfl⟩|⟨q,e,rfl⟩
  ·exact du.zero.dX d
  ·exact(j7 e).elim
 |succ c s=>
  intro n hs;rcases iS hs with⟨d,rfl⟩|⟨q,e,rfl⟩
  ·exact(du.succ c).dX d
  ·rcases gT e with⟨o,a,b⟩|⟨m,a,b⟩
   ·subst_vars;exact .succ (s _ a)
   ·exact(j7 a).elim
 |oS p c f u j k v=>
  intro n hs;rcases iS hs with⟨d,rfl⟩|⟨q,e,rfl⟩
  ·exact(du.oS p c f u).dX d
  ·rcases gT e with⟨o,a,b⟩|⟨m,a,b⟩
   ·subst_vars;exact .oS p (j _ a) f u
   ·rcases gT a with⟨o,l,b⟩|⟨m,l,b⟩
    ·subst_vars;exact .oS p c (k _ l) u
    ·rcases gT l with⟨o,w,b⟩|⟨m,w,b⟩
     ·subst_vars;exact .oS p c f (v _ w)
     ·exact(j7 w).elim
 |nil=>
  intro n hs;rcases iS hs with⟨d,rfl⟩|⟨q,e,rfl⟩
  ·exact du.nil.dX d
  ·exact(j7 e).elim
 |cons c f j k=>
  intro n hs;rcases iS hs with⟨d,rfl⟩|⟨q,e,rfl⟩
  ·exact(du.cons c f).dX d
  ·rcases gT e with⟨o,a,b⟩|⟨m,a,b⟩
   ·subst_vars;exact .cons (j _ a) f
   ·rcases gT a with⟨o,l,b⟩|⟨m,l,b⟩
    ·subst_vars;exact .cons c (k _ l)
    ·exact(j7 l).elim
 |fold p c f u j k v=>
  intro n hs;rcases iS hs with⟨d,rfl⟩|⟨q,e,rfl⟩
  ·exact(du.fold p c f u).dX d
  ·rcases gT e with⟨o,a,b⟩|⟨m,a,b⟩
   ·subst_vars;exact .fold p (j _ a) f u
   ·rcases gT a with⟨o,l,b⟩|⟨m,l,b⟩
    ·subst_vars;exact .fold p c (k _ l) u
    ·rcases gT l with⟨o,w,b⟩|⟨m,w,b⟩
     ·subst_vars;exact .fold p c f (v _ w)
     ·exact(j7 w).elim
 |pair p c f j k=>
  intro n hs;rcases iS hs with⟨d,rfl⟩|⟨q,e,rfl⟩
  ·exact(du.pair p c f).dX d
  ·rcases gT e with⟨o,a,b⟩|⟨m,a,b⟩
   ·subst_vars;exact .pair p (j _ a) f
   ·rcases gT a with⟨o,l,b⟩|⟨m,l,b⟩
    ·subst_vars;exact .pair p c (k _ l)
    ·exact(j7 l).elim
 |fst c s=>
  intro n hs;rcases iS hs with⟨d,rfl⟩|⟨q,e,rfl⟩
  ·exact(du.fst c).dX d
  ·rcases gT e with⟨o,a,b⟩|⟨m,a,b⟩
   ·subst_vars;exact .fst (s _ a)
   ·exact(j7 a).elim
 |snd c s=>
  intro n hs;rcases iS hs with⟨d,rfl⟩|⟨q,e,rfl⟩
  ·exact(du.snd c).dX d
  ·rcases gT e with⟨o,a,b⟩|⟨m,a,b⟩
   ·subst_vars;exact .snd (s _ a)
   ·exact(j7 a).elim
 |unit=>
  intro n hs;rcases iS hs with⟨d,rfl⟩|⟨q,e,rfl⟩
  ·exact du.unit.dX d
  ·exact(j7 e).elim
def du.norm{g:List Ty}{t:Ty}:∀(k:Nat) (m:Int) (x a:Tm) (n:Int),du g x t->x.norm k m=(a,n,0)->du g a t
 |0,m,x,a,n,b,h=>by
  rw[Tm.norm] at h
  split at h
  ·obtain⟨c,_⟩:=gE h;rw[<-c];exact b
  ·cases h
 |k+1,m,x,a,n,b,h=>by
  rw[Tm.norm] at h
  split at h
  ·cases h
  ·obtain⟨c,_⟩:=gE h;rw[<-c];exact b
  ·rename_i d hs;exact du.norm k (m+1) d a n (b.BW _ hs) h
def J5(k:Int):fm k<=3:=by unfold fm;repeat' (first|omega|split)
def Tm.Wc{k i:Int}{s:Ty}{l:List Tm}(h:(Tm.mk k i s l).ok=true):l.length<=3:=by
 have:=Tm.q_ h;have:=J5 k;omega
def S5(x:Tm):Tm.mk x.agj x.agm (Ty.mk x.cO.agj x.cO.agk) x.agk=x:=by
 cases x with
 |mk k i s l=>cases s;rfl
def iQ{a:Ty}(h:a.agl<=1000000000):eh FU a a=some true:=by
 obtain⟨r,b,c⟩:=qP FU a a (by rw[dp];exact h) h;rw[b,c.2 rfl]
def ok_eq{t:Ty}(h:t.err=0):sJ t=some (t,0):=by
 unfold sJ;rw[jd (by have:=(Ty.gZ h).2;omega),h];rfl
def dE{t:Ty}(h:t.err=0):t.agl<=64:=by have:=(Ty.gZ h).2;omega
inductive TL (n:Nat) (g:List Ty):List Tm->List Ty->Prop
 |nil:TL n g [] []|cons {a:Tm} {t:Ty} {l:List Tm} {ts:List Ty}:dT n g a=some (t,0)->TL n g l ts->TL n g (a::l) (t::ts)
def kl{n:Nat}{g:List Ty}:∀{l:List Tm} {ts:List Ty} (i:Nat) (v:List Ty),TL n g l ts->v.length+l.length<=1000->dP (λ(e:Int) (d:Tm)=>(λ(a:List Ty)=>
   cX (dT n g d) λb c=>
   if(dw c 0) then(
   some (eu.ret ((Ty.mk 0 []),c)))
   else(fY (eM a [b])<|some (.next (eV a [b])))):Int->Tm->((List Ty))->(Option (eu ((List Ty)) (Ty×Int)))) l i v=some (.inl (v++ts))
 |_,_,i,v,.nil,_=>by simp|_,_,i,v,.cons h f,j=>by
  simp only[hW] at j;rw[dq];simp only[h,cH];rw[cI aaa,dt aaP];simp only[cL,cv,dr];rw[kl (i+1) _ f (by rw[eb];simp;omega),eb];simp
def Mt{g:List Ty}{x:Tm}{t:Ty}(h:du g x t):(∀s∈g,s.err=0)->t.err=0/\∀n:Nat,x.agl<=n->g.length+x.agl<=1000000->dT n g x=some (t,0):=by
 induction h with
 |@var g t i w A=>
  intro hg;have y:=hg t (D8 A);refine⟨y,λn hn e=>?_⟩;rw[Tm.cJ] at hn;obtain⟨n,rfl⟩:∃m,n=m+1:=⟨n-1,VW⟩;rw[Tm.cJ] at e;rw[dT,cK aa7,cI (by simp only[Tm.dW,fC,dz];omega)];simp only[Tm.dW,dz];rw[dF (a:=(g.length:Int)) VW VW,dF VW VW]
  have:df g ((g.length:Int)-1-(i:Int))=some t:=by
   unfold df;rw[cK VW,<-A]
   congr 1
   omega
  rw[this];simp only[cv];rw[fF (by have:=dE y;omega)];rfl
 |@lam g s b t w _ j=>
  intro hg;have hs:=(Ty.nE (.inr rfl) w).1;have z:=(Ty.nE (.inr rfl) w).2
  obtain⟨_,j⟩:=j (by
   intro u hu;rcases rS.1 hu with h|h
   ·exact hg u h
   ·rw[uR] at h;rw[h];exact hs)
  refine⟨w,λn hn e=>?_⟩;rw[Tm.cJ] at hn e;simp only[cU] at hn e;obtain⟨n,rfl⟩:∃m,n=m+1:=⟨n-1,VW⟩;rw[dT,cI aaB,cK aa7];simp only[Tm.dv,Tm.cZ,dg,gd,cv,eb];rw[dt aaP,cL,j n VW aaP];simp only[cH];rw[cI aaa,fL (by have:=dE hs;omega) (by have:=dE z;omega)];simp only[cv];rw[ok_eq w];rfl
 |@app g f a s t _ _ c d=>
  intro hg;obtain⟨q,c⟩:=c hg;obtain⟨r,d⟩:=d hg;have z:=(Ty.nE (.inr rfl) q).2;refine⟨z,λn hn e=>?_⟩;rw[Tm.cJ] at hn e;simp only[cU] at hn e;obtain⟨n,rfl⟩:∃m,n=m+1:=⟨n-1,VW⟩;have o:=kl (n:=n) (g:=g) (l:=[f,a]) 0 [] (.cons (c n VW VW) (.cons (d n VW VW) .nil)) aaB;rw[dT,cI aaB,cI aaB];simp only[cN,Tm.cZ,cT (l:=[f,a]) aaB,cL];rw[o];simp only[cv,cS,dN,en];rw[cK aa7];simp only[kW,dg,ed,gd,jF,cv];rw[cI (by simp[Ty.fn,dw]),show(Ty.fn s t).agk[0]?=some s from rfl];simp only[cv];rw[iQ (by have:=dE r;omega)];simp only[cv];rw[cI aaa,show(Ty.fn s t).agk[1]?=some t from rfl];rfl
 |zero=>
  intro hg;refine⟨Ty.ew,λn hn e=>?_⟩;rw[Tm.cJ] at hn;obtain⟨n,rfl⟩:∃m,n=m+1:=⟨n-1,VW⟩;rfl
 |@succ g a _ j=>
  intro hg;obtain⟨q,j⟩:=j hg;refine⟨Ty.ew,λn hn e=>?_⟩;rw[Tm.cJ] at hn e;simp only[cU] at hn e;obtain⟨n,rfl⟩:∃m,n=m+1:=⟨n-1,VW⟩;have o:=kl (n:=n) (g:=g) (l:=[a]) 0 [] (.cons (j n VW VW) .nil) aaB;rw[dT,cI aaB,cI aaB];simp only[cN,Tm.cZ,cT (l:=[a]) aaB,cL];rw[o];simp only[cv,cS,dN,en];rw[cI aaB,cI aaB,cK aa7];simp only[kW,dg,gd,cv];rw[iQ (by rw[Ty.eU];omega)];rfl
 |@oS g t b s k v _ _ _ c d p=>
  intro hg;obtain⟨q,c⟩:=c hg;obtain⟨r,d⟩:=d hg;obtain⟨B,p⟩:=p hg;refine⟨v,λn hn e=>?_⟩;rw[Tm.cJ] at hn e;simp only[cU] at hn e;obtain⟨n,rfl⟩:∃m,n=m+1:=⟨n-1,VW⟩;have z:=dE v;have o:=kl (n:=n) (g:=g) (l:=[b,s,k]) 0 [] (.cons (c n VW VW) (.cons (d n VW VW) (.cons (p n VW VW) .nil))) aaB;rw[dT,cI aaB,cI aaB];simp only[cN,Tm.cZ,cT (l:=[b,s,k]) aaB,cL];rw[o];simp only[cv,cS,dN,en];rw[cI aaB,cI aaB,cI aaB,cK aa7];simp only[kW,dg,ed,fU,gd,jF,cv,Tm.dv];rw[iQ VW];simp only[cv,if_true];rw[fL VW VW];simp only[cv];rw[fL (by rw[Ty.eU];omega) (by rw[Ty.gv];omega)];simp only[cv];rw[iQ (by have:=dE r;omega)];simp only[cv,if_true];rw[iQ (by rw[Ty.eU];omega)];simp only[cv];rw[cI aaa,fF VW];rfl
 |nil=>
  intro hg;refine⟨Ty.kT,λn hn e=>?_⟩;rw[Tm.cJ] at hn;obtain⟨n,rfl⟩:∃m,n=m+1:=⟨n-1,VW⟩;rfl
 |@cons g a b _ _ c d=>
  intro hg;obtain⟨q,c⟩:=c hg;obtain⟨r,d⟩:=d hg;refine⟨Ty.kT,λn hn e=>?_⟩;rw[Tm.cJ] at hn e;simp only[cU] at hn e;obtain⟨n,rfl⟩:∃m,n=m+1:=⟨n-1,VW⟩;have o:=kl (n:=n) (g:=g) (l:=[a,b]) 0 [] (.cons (c n VW VW) (.cons (d n VW VW) .nil)) aaB;rw[dT,cI aaB,cI aaB];simp only[cN,Tm.cZ,cT (l:=[a,b]) aaB,cL];rw[o];simp only[cv,cS,dN,en];rw[cI aaB,cI aaB,cI aaB,cI aaB,cI aaB,cK aa7];simp only[kW,dg,ed,gd,jF,cv];rw[iQ (by rw[Ty.eU];omega)];simp only[cv,if_true];rw[iQ (by rw[Ty.kI];omega)];rfl
 |@fold g t b s k v _ _ _ c d p=>
  intro hg;obtain⟨q,c⟩:=c hg;obtain⟨r,d⟩:=d hg;obtain⟨B,p⟩:=p hg;refine⟨v,λn hn e=>?_⟩;rw[Tm.cJ] at hn e;simp only[cU] at hn e;obtain⟨n,rfl⟩:∃m,n=m+1:=⟨n-1,VW⟩;have z:=dE v;have o:=kl (n:=n) (g:=g) (l:=[b,s,k]) 0 [] (.cons (c n VW VW) (.cons (d n VW VW) (.cons (p n VW VW) .nil))) aaB;rw[dT,cI aaB,cI aaB];simp only[cN,Tm.cZ,cT (l:=[b,s,k]) aaB,cL];rw[o];simp only[cv,cS,dN,en];rw[cI aaB,cI aaB,cI aaB,cI aaB,cI aaB,cI aaB,cK aa7];simp only[kW,dg,ed,fU,gd,jF,cv,Tm.dv];rw[iQ VW];simp only[cv,if_true];rw[fL VW VW];simp only[cv];rw[fL (by rw[Ty.kI];omega) (by rw[Ty.gv];omega)];simp only[cv];rw[fL (by rw[Ty.eU];omega) (by rw[Ty.gv,Ty.gv,Ty.kI];omega)];simp only[cv];rw[iQ (by have:=dE r;omega)];simp only[cv,if_true];rw[iQ (by rw[Ty.kI];omega)];simp only[cv];rw[cI aaa,fF VW];rfl
 |@pair g a b s t v _ _ c d=>
  intro hg;obtain⟨q,c⟩:=c hg;obtain⟨r,d⟩:=d hg;refine⟨v,λn hn e=>?_⟩;rw[Tm.cJ] at hn e;simp only[cU] at hn e;obtain⟨n,rfl⟩:∃m,n=m+1:=⟨n-1,VW⟩;have o:=kl (n:=n) (g:=g) (l:=[a,b]) 0 [] (.cons (c n VW VW) (.cons (d n VW VW) .nil)) aaB;rw[dT,cI aaB,cI aaB];simp only[cN,Tm.cZ,cT (l:=[a,b]) aaB,cL];rw[o];simp only[cv,cS,dN,en];rw[cI aaB,cI aaB,cI aaB,cI aaB,cI aaB,cI aaB,cI aaB,cK aa7];simp only[kW,dg,ed,gd,jF,cv];rw[sA (by have:=dE q;omega) (by have:=dE r;omega)];simp only[cv];rw[ok_eq v];rfl
 |@fst g a s t _ j=>
  intro hg;obtain⟨q,j⟩:=j hg;refine⟨(Ty.nE (.inl rfl) q).1,λn hn e=>?_⟩;rw[Tm.cJ] at hn e;simp only[cU] at hn e;obtain⟨n,rfl⟩:∃m,n=m+1:=⟨n-1,VW⟩;have o:=kl (n:=n) (g:=g) (l:=[a]) 0 [] (.cons (j n VW VW) .nil) aaB;rw[dT,cI aaB,cI aaB];simp only[cN,Tm.cZ,cT (l:=[a]) aaB,cL];rw[o];simp only[cv,cS,dN,en];rw[cI aaB,cI aaB,cI aaB,cI aaB,cI aaB,cI aaB,cI aaB,cI aaB,cK aa7];simp only[kW,dg,gd,cv];rw[cI (by simp[Ty.pr,dw]),cK aa7,show(Ty.pr s t).agk[0]?=some s from rfl];rfl
 |@snd g a s t _ j=>
  intro hg;obtain⟨q,j⟩:=j hg;refine⟨(Ty.nE (.inl rfl) q).2,λn hn e=>?_⟩;rw[Tm.cJ] at hn e;simp only[cU] at hn e;obtain⟨n,rfl⟩:∃m,n=m+1:=⟨n-1,VW⟩;have o:=kl (n:=n) (g:=g) (l:=[a]) 0 [] (.cons (j n VW VW) .nil) aaB;rw[dT,cI aaB,cI aaB];simp only[cN,Tm.cZ,cT (l:=[a]) aaB,cL];rw[o];simp only[cv,cS,dN,en];rw[cI aaB,cI aaB,cI aaB,cI aaB,cI aaB,cI aaB,cI aaB,cI aaB,cK aa7];simp only[kW,dg,gd,cv];rw[cI (by simp[Ty.pr,dw]),cI aaB,show df (Ty.pr s t).agk 1=some t from rfl];rfl
 |unit=>
  intro hg;refine⟨Ty.Ae,λn hn e=>?_⟩;rw[Tm.cJ] at hn;obtain⟨n,rfl⟩:∃m,n=m+1:=⟨n-1,VW⟩;rfl
def Tm.kC{p:Tm->Prop}(var:∀i:Nat,p (.mk 1 i .z []))(lam:∀s b,s.err=0->b.ok=true->p (.mk 2 0 s [b]))(app:∀a b,a.ok=true->b.ok=true->p (.mk 3 0 .z [a,b]))
  (zero:p (.mk 4 0 .z [])) (succ:∀a,a.ok=true->p (.mk 5 0 .z [a])) (oS:∀s a b c,s.err=0->a.ok=true->b.ok=true->c.ok=true->p (.mk 6 0 s [a,b,c])) (nil:p (.mk 7 0 .z []))
  (cons:∀a b,a.ok=true->b.ok=true->p (.mk 8 0 .z [a,b])) (fold:∀s a b c,s.err=0->a.ok=true->b.ok=true->c.ok=true->p (.mk 9 0 s [a,b,c])) (pair:∀a b,a.ok=true->b.ok=true->p (.mk 10 0 .z [a,b]))
  (fst:∀a,a.ok=true->p (.mk 11 0 .z [a])) (snd:∀a,a.ok=true->p (.mk 12 0 .z [a])) (unit:p (.mk 13 0 .z [])) (t:Tm) (h:t.ok=true):p t:=by
 cases t with
 |mk k i s l=>
  obtain⟨_,hi,d,g,hn⟩:=Tm.ib h
  have hs:if gI k then s.err=0 else s=.z:=by
   rw[Tm.eD] at h;simp only[Tm.node,ez] at h;have:=h.1.2
   split at this
   ·rename_i e;rw[cK e];simpa using this
   ·rename_i e;rw[cI e];exact(Ty.iR s).1 this
  have n:∀{l:List Tm},(l.length:Int)=0->l=[]:=λh=>er.1 h;unfold fm at hn
  split at hn
  ·rename_i e;obtain rfl:=er.1 hn;rcases e with rfl|rfl|rfl|rfl
   ·rw[cI aaa] at hs;subst hs;obtain⟨j,rfl⟩:∃j:Nat,i=(j:Int):=⟨i.toNat,VW⟩;exact var j
   ·rw[cI aaa] at hs;subst hs;obtain rfl:=d aaa;exact zero
   ·rw[cI aaa] at hs;subst hs;obtain rfl:=d aaa;exact nil
   ·rw[cI aaa] at hs;subst hs;obtain rfl:=d aaa;exact unit
  ·split at hn
   ·rename_i e;obtain⟨a,rfl⟩:=gr hn;have f:=g a aaB;rcases e with rfl|rfl|rfl|rfl
    ·rw[cK aaa] at hs;obtain rfl:=d aaa;exact lam s a hs f
    ·rw[cI aaa] at hs;subst hs;obtain rfl:=d aaa;exact succ a f
    ·rw[cI aaa] at hs;subst hs;obtain rfl:=d aaa;exact fst a f
    ·rw[cI aaa] at hs;subst hs;obtain rfl:=d aaa;exact snd a f
   ·split at hn
    ·rename_i e;obtain⟨a,b,rfl⟩:=lE hn;have f:=g a aaB;have m:=g b aaB;rcases e with rfl|rfl|rfl
     ·rw[cI aaa] at hs;subst hs;obtain rfl:=d aaa;exact app a b f m
     ·rw[cI aaa] at hs;subst hs;obtain rfl:=d aaa;exact cons a b f m
     ·rw[cI aaa] at hs;subst hs;obtain rfl:=d aaa;exact pair a b f m
    ·split at hn
     ·rename_i e
      obtain⟨a,b,c,rfl⟩:∃a b c,l=[a,b,c]:=by
       match l,hn with
       |[a,b,c],_=>exact⟨a,b,c,rfl⟩|[],h|[_],h|[_,_],h=>simp at h
       |_::_::_::_::_,h=>simp at h;omega
      have f:=g a aaB;have m:=g b aaB;have o:=g c aaB;rcases e with rfl|rfl
      ·rw[cK aaa] at hs;obtain rfl:=d aaa;exact oS s a b c hs f m o
      ·rw[cK aaa] at hs;obtain rfl:=d aaa;exact fold s a b c hs f m o
     ·omega
open Classical in
noncomputable def fa (k:Int) (s:Ty) (l:List Ty):Ty×Int:=
 if k=3 then(if(l.getD 0 .z).agj=4/\(l.getD 0 .z).agk.getD 0 .z=l.getD 1 .z then((l.getD 0 .z).agk.getD 1 .z,0)else(.z,7))
 else if k=4 then(.nat,0)
 else if k=5 then(if l.getD 0 .z=.nat then(.nat,0)else(.z,7))
 else if k=6 then(if l.getD 0 .z=s/\l.getD 1 .z=.fn .nat (.fn s s)/\l.getD 2 .z=.nat then(s,0)else(.z,7))
 else if k=7 then(.k1,0)
 else if k=8 then(if l.getD 0 .z=.nat/\l.getD 1 .z=.k1 then(.k1,0)else(.z,7))
 else if k=9 then(if l.getD 0 .z=s/\l.getD 1 .z=.fn .nat (.fn .k1 (.fn s s))/\l.getD 2 .z=.k1 then(s,0)else(.z,7))
 else if k=10 then(if 64<1+(l.getD 0 .z).agl+(l.getD 1 .z).agl then(.z,4)else(.pr (l.getD 0 .z) (l.getD 1 .z),0))
 else if k=11 then(if(l.getD 0 .z).agj=3 then((l.getD 0 .z).agk.getD 0 .z,0)else(.z,7))
 else if k=12 then(if(l.getD 0 .z).agj=3 then((l.getD 0 .z).agk.getD 1 .z,0)else(.z,7))
 else(.unit,0)
def EG(s:Ty)(r:Ty×Int):Ty×Int:=if r.2≠0 then(.z,r.2)else if 64<1+s.agl+r.1.agl then(.z,4)else(.fn s r.1,0)
def pW(f:List Ty->Ty×Int):List Ty⊕Int->Ty×Int
 |.inl l=>f l|.inr e=>(.z,e)
def HI(r:Ty×Int)(o:List Ty⊕Int):List Ty⊕Int:=if r.2≠0 then .inr r.2 else match o with|.inl l=>.inl (r.1::l)|.inr e=>.inr e
mutual
noncomputable def Tm.ty:Tm->List Ty->Ty×Int
 |.mk k i s l,g=>if k=1 then(if i<(g.length:Int)then(g.getD (g.length-1-i.toNat) .z,0)else(.z,6))else if k=2 then EG s (Tm.V7 l (g++[s]))else pW (fa k s) (Tm.pk l g)
noncomputable def Tm.V7:List Tm->List Ty->Ty×Int
 |[],_=>(.z,0)|t::_,g=>t.ty g
noncomputable def Tm.pk:List Tm->List Ty->List Ty⊕Int
 |[],_=>.inl []|t::l,g=>HI (t.ty g) (Tm.pk l g)
end
def Tm.jD(k i:Int)(s:Ty)(l:List Tm)(g:List Ty):(Tm.mk k i s l).ty g=if k=1 then(if i<(g.length:Int)then(g.getD (g.length-1-i.toNat) .z,0)else(.z,6))else if k=2 then EG s (Tm.V7 l (g++[s]))else pW (fa k s) (Tm.pk l g):=by rw[Tm.ty]
def gA(g:List Ty):Prop:=∀s∈g,s.err=0
def gA.app{g:List Ty}{s:Ty}(h:gA g)(hs:s.err=0):gA (g++[s]):=by
 intro u hu;rcases rS.1 hu with h'|h'
 ·exact h u h'
 ·grind
def DN{t:Ty}(h:t.err=0)(c:t.agj=4):∃a b,t=.fn a b/\a.err=0/\b.err=0:=by
 rcases Ty.l9 h with rfl|rfl|rfl|⟨a,b,rfl,_,_⟩|h
 ·cases c
 ·cases c
 ·cases c
 ·cases c
 ·exact h
def uo{t:Ty}(h:t.err=0)(c:t.agj=3):∃a b,t=.pr a b/\a.err=0/\b.err=0:=by
 rcases Ty.l9 h with rfl|rfl|rfl|h|⟨a,b,rfl,_,_⟩
 ·cases c
 ·cases c
 ·cases c
 ·exact h
 ·cases c
def pZ{t:Ty}(h:t.err=0):t.agj=1↔t=.nat:=by
 rcases Ty.l9 h with rfl|rfl|rfl|⟨a,b,rfl,_,_⟩|⟨a,b,rfl,_,_⟩
 ·exact⟨λ_=>rfl,λ_=>rfl⟩
 all_goals exact⟨λh=>(by cases h),λh=>(by cases h)⟩
def wP{t:Ty}(h:t.err=0):t.agj=2↔t=.k1:=by
 rcases Ty.l9 h with rfl|rfl|rfl|⟨a,b,rfl,_,_⟩|⟨a,b,rfl,_,_⟩
 ·exact⟨λh=>(by cases h),λh=>(by cases h)⟩
 ·exact⟨λ_=>rfl,λ_=>rfl⟩
 all_goals exact⟨λh=>(by cases h),λh=>(by cases h)⟩
theorem lF{r:Ty×Int}{o:List Ty⊕Int}(h:r.2≠0):HI r o=.inr r.2:=cK h
theorem ly{r:Ty×Int}{o:List Ty⊕Int}(h:r.2=0):HI r o=match o with|.inl l=>.inl (r.1::l)|.inr e=>.inr e:=cI VW
theorem nH{f:List Ty->Ty×Int}{e:Int}{r:Ty}(h:pW f (.inr e)=(r,0)):e=0:=(gE h).2
def sF{a:Tm}{g:List Ty}(h:(a.ty g).2=0):a.ty g=((a.ty g).1,0):=Prod.ext rfl h
def HH{a:Tm}{g:List Ty}{f:List Ty->Ty×Int}{r:Ty}(h:pW f (Tm.pk [a] g)=(r,0)):∃s,a.ty g=(s,0)/\f [s]=(r,0):=by
 rw[Tm.pk] at h
 by_cases b:(a.ty g).2=0
 ·rw[ly b] at h;exact⟨_,sF b,h⟩
 ·grind[lF,nH]
def GO{a b:Tm}{g:List Ty}{f:List Ty->Ty×Int}{r:Ty}(h:pW f (Tm.pk [a,b] g)=(r,0)):∃s t,a.ty g=(s,0)/\b.ty g=(t,0)/\f [s,t]=(r,0):=by
 rw[Tm.pk,Tm.pk,Tm.pk] at h
 by_cases c:(a.ty g).2=0
 ·rw[ly c] at h
  by_cases d:(b.ty g).2=0
  ·rw[ly d] at h;exact⟨_,_,sF c,sF d,h⟩
  ·grind[lF,nH]
 ·grind[lF,nH]
def EL{a b c:Tm}{g:List Ty}{f:List Ty->Ty×Int}{r:Ty}(h:pW f (Tm.pk [a,b,c] g)=(r,0)):∃s t u,a.ty g=(s,0)/\b.ty g=(t,0)/\c.ty g=(u,0)/\f [s,t,u]=(r,0):=by
 rw[Tm.pk,Tm.pk,Tm.pk,Tm.pk] at h
 by_cases d:(a.ty g).2=0
 ·rw[ly d] at h
  by_cases e:(b.ty g).2=0
  ·rw[ly e] at h
   by_cases i:(c.ty g).2=0
   ·rw[ly i] at h;exact⟨_,_,_,sF d,sF e,sF i,h⟩
   ·grind[lF,nH]
  ·rw[lF e] at h;exact absurd (nH h) e
 ·rw[lF d] at h;exact absurd (nH h) d
def lX:∀(n:Nat) (t:Tm),t.agl<=n->t.ok=true->∀g,gA g->∀s,t.ty g=(s,0)->du g t s/\s.err=0:=by
 intro n
 induction n with
 |zero=>intro t h;have:=t.db;omega
 |succ n k=>
  intro t hn E;refine Tm.kC (p:=λt=>t.agl<=n+1->∀g,gA g->∀s,t.ty g=(s,0)->du g t s/\s.err=0) ?_ ?_ ?_ ?_ ?_ ?_ ?_ ?_ ?_ ?_ ?_ ?_ ?_ t E hn
  ·intro i _ g hg s h;rw[Tm.jD,cK rfl] at h
   split at h
   ·rename_i hi
    have u:g.length-1-(i:Int).toNat<g.length:=VW
    have e:g[g.length-1-i]?=some s:=by
     have f:=(gE h).1;rw[Vp,yz] at f;rw[yz] at u;rw[nw u] at f|-;simpa using f
    exact⟨.var i VW e,hg s (D8 e)⟩
   ·have:=(gE h).2;omega
  ·intro s b hs m hn g hg r h;rw[Tm.cJ] at hn;simp only[cU] at hn;rw[Tm.jD,cI aaa,cK rfl,Tm.V7] at h;unfold EG at h
   split at h
   ·rename_i w;exact absurd (gE h).2 w
   ·rename_i w
    split at h
    ·have:=(gE h).2;omega
    ·rename_i f;obtain⟨o,d⟩:=k b VW m (g++[s]) (hg.app hs) _ (sF (by simpa using w));have he:=Ty.sw hs d VW;obtain rfl:=(gE h).1;exact⟨.lam he o,he⟩
  ·intro a b l m hn g hg r h;rw[Tm.cJ] at hn;simp only[cU] at hn;rw[Tm.jD,cI aaa,cI aaa] at h;obtain⟨s,t,f,o,d⟩:=GO h;obtain⟨a1,a2⟩:=k a VW l g hg _ f;obtain⟨q,v⟩:=k b VW m g hg _ o;simp only[fa,if_true,tc,I8] at d
   split at d
   ·rename_i j;obtain⟨x,y,rfl,A,hy⟩:=DN a2 j.1;have F:x=t:=j.2;obtain rfl:=(gE d).1;subst F;exact⟨.app a1 q,hy⟩
   ·have:=(gE d).2;omega
  ·intro hn g hg r h;rw[Tm.jD,cI aaa,cI aaa,Tm.pk] at h;simp only[pW,fa,reduceIte,Int.reduceEq] at h;obtain rfl:=(gE h).1;exact⟨.zero,Ty.ew⟩
  ·intro a l hn g hg r h;rw[Tm.cJ] at hn;simp only[cU] at hn;rw[Tm.jD,cI aaa,cI aaa] at h;obtain⟨s,f,d⟩:=HH h;obtain⟨a1,a2⟩:=k a VW l g hg _ f;simp only[fa,reduceIte,Int.reduceEq,tc] at d
   split at d
   ·rename_i j;subst j;obtain rfl:=(gE d).1;exact⟨.succ a1,Ty.ew⟩
   ·have:=(gE d).2;omega
  ·intro s a b c hs l m B hn g hg r h;rw[Tm.cJ] at hn;simp only[cU] at hn;rw[Tm.jD,cI aaa,cI aaa] at h;obtain⟨x,y,z,f,o,C,d⟩:=EL h;obtain⟨a1,a2⟩:=k a VW l g hg _ f;obtain⟨q,v⟩:=k b VW m g hg _ o;obtain⟨D,G⟩:=k c VW B g hg _ C;simp only[fa,reduceIte,Int.reduceEq,tc,I8] at d
   split at d
   ·rename_i j;have j:x=s/\y=.fn .nat (.fn s s)/\z=.nat:=j;obtain⟨rfl,rfl,rfl⟩:=j;obtain rfl:=(gE d).1;exact⟨.oS hs a1 q D,hs⟩
   ·have:=(gE d).2;omega
  ·intro hn g hg r h;rw[Tm.jD,cI aaa,cI aaa,Tm.pk] at h;simp only[pW,fa,reduceIte,Int.reduceEq] at h;obtain rfl:=(gE h).1;exact⟨.nil,Ty.kT⟩
  ·intro a b l m hn g hg r h;rw[Tm.cJ] at hn;simp only[cU] at hn;rw[Tm.jD,cI aaa,cI aaa] at h;obtain⟨s,t,f,o,d⟩:=GO h;obtain⟨a1,a2⟩:=k a VW l g hg _ f;obtain⟨q,v⟩:=k b VW m g hg _ o;simp only[fa,reduceIte,Int.reduceEq,tc,I8] at d
   split at d
   ·rename_i j;obtain⟨rfl,rfl⟩:=j;obtain rfl:=(gE d).1;exact⟨.cons a1 q,Ty.kT⟩
   ·have:=(gE d).2;omega
  ·intro s a b c hs l m B hn g hg r h;rw[Tm.cJ] at hn;simp only[cU] at hn;rw[Tm.jD,cI aaa,cI aaa] at h;obtain⟨x,y,z,f,o,C,d⟩:=EL h;obtain⟨a1,a2⟩:=k a VW l g hg _ f;obtain⟨q,v⟩:=k b VW m g hg _ o;obtain⟨D,G⟩:=k c VW B g hg _ C;simp only[fa,reduceIte,Int.reduceEq,tc,I8] at d
   split at d
   ·rename_i j;have j:x=s/\y=.fn .nat (.fn .k1 (.fn s s))/\z=.k1:=j;obtain⟨rfl,rfl,rfl⟩:=j;obtain rfl:=(gE d).1;exact⟨.fold hs a1 q D,hs⟩
   ·have:=(gE d).2;omega
  ·intro a b l m hn g hg r h;rw[Tm.cJ] at hn;simp only[cU] at hn;rw[Tm.jD,cI aaa,cI aaa] at h;obtain⟨s,t,f,o,d⟩:=GO h;obtain⟨a1,a2⟩:=k a VW l g hg _ f;obtain⟨q,v⟩:=k b VW m g hg _ o;simp only[fa,reduceIte,Int.reduceEq,tc,I8] at d
   split at d
   ·have:=(gE d).2;omega
   ·rename_i j;have he:=Ty.GD a2 v VW;obtain rfl:=(gE d).1;exact⟨.pair he a1 q,he⟩
  ·intro a l hn g hg r h;rw[Tm.cJ] at hn;simp only[cU] at hn;rw[Tm.jD,cI aaa,cI aaa] at h;obtain⟨s,f,d⟩:=HH h;obtain⟨a1,a2⟩:=k a VW l g hg _ f;simp only[fa,reduceIte,Int.reduceEq,tc] at d
   split at d
   ·rename_i j;obtain⟨x,y,rfl,A,hy⟩:=uo a2 j;obtain rfl:=(gE d).1;exact⟨.fst a1,A⟩
   ·have:=(gE d).2;omega
  ·intro a l hn g hg r h;rw[Tm.cJ] at hn;simp only[cU] at hn;rw[Tm.jD,cI aaa,cI aaa] at h;obtain⟨s,f,d⟩:=HH h;obtain⟨a1,a2⟩:=k a VW l g hg _ f;simp only[fa,reduceIte,Int.reduceEq,tc] at d
   split at d
   ·rename_i j;obtain⟨x,y,rfl,A,hy⟩:=uo a2 j;obtain rfl:=(gE d).1;exact⟨.snd a1,hy⟩
   ·have:=(gE d).2;omega
  ·intro hn g hg r h;rw[Tm.jD,cI aaa,cI aaa,Tm.pk] at h;simp only[pW,fa,reduceIte,Int.reduceEq] at h;obtain rfl:=(gE h).1;exact⟨.unit,Ty.Ae⟩
end Go.ek
namespace Go.ek
open Go
def gz(a:Ty):a.jO a=true:=(Ty.iV a a).2 rfl
def iF{a b:Ty}(h:a≠b):a.jO b=false:=by grind[Ty.iV]
def kv{n:Nat}{g:List Ty}:∀(l:List Tm) (i:Nat) (v:List Ty),(∀a∈l,dT n g a=some (a.ty g))->v.length+l.length<=1000->dP (λ(m:Int) (j:Tm)=>(λ(c:List Ty)=>
   cX (dT n g j) λd f=>
   if(dw f 0) then(
   some (eu.ret ((Ty.mk 0 []),f)))
   else(fY (eM c [d])<|some (.next (eV c [d])))):Int->Tm->((List Ty))->(Option (eu ((List Ty)) (Ty×Int)))) l i v=some (match Tm.pk l g with|.inl ts=>.inl (v++ts)|.inr e=>.inr (.z,e))
 |[],i,v,_,_=>by simp[Tm.pk]|a::l,i,v,h,o=>by
  simp only[hW] at o;have p:=h a aaB;rw[dq,Tm.pk];rw[p]
  by_cases k:(a.ty g).2=0
  ·rw[sF k,ly rfl];simp only[cH];rw[cI aaa,dt aaP];simp only[cL,cv,dr];rw[kv l (i+1) _ (λb q=>h b (by simp[q])) (by rw[eb];simp;omega),eb];cases Tm.pk l g with
   |inl ts=>simp|inr e=>rfl
  ·rw[lF k];generalize a.ty g=r at k;obtain⟨t,e⟩:=r;simp only[cH];rw[cK (by simpa[dw] using k)];rfl
def uv(l:List Tm)(g:List Ty):(∃e,e≠0/\Tm.pk l g=.inr e)\/∃ts,Tm.pk l g=.inl ts/\ts.length=l.length/\∀(i:Nat) (a:Tm),l[i]?=some a->∃s,ts[i]?=some s/\a.ty g=(s,0):=by
 induction l with
 |nil=>exact .inr ⟨[],by rw[Tm.pk],rfl,aaB⟩|cons a l b=>
  rw[Tm.pk]
  grind[ly,lF]
def Hp{f:List Ty->Ty×Int}{e:Int}:pW f (.inr e)=(.z,e):=rfl
def km{f:List Ty->Ty×Int}{l:List Ty}:pW f (.inl l)=f l:=rfl
def wo{a:Tm}{g:List Ty}(b:a.ok=true)(hg:gA g):(∃e,e≠0/\Tm.pk [a] g=.inr e)\/∃s,Tm.pk [a] g=.inl [s]/\s.err=0:=by
 rcases uv [a] g with h|⟨ts,c,d,f⟩
 ·grind
 ·obtain⟨s,j,i⟩:=f 0 a rfl
  match ts,d with
  |[x],_=>
   obtain rfl:x=s:=by grind
   exact .inr ⟨x,c,(lX _ a (ig _) b g hg _ i).2⟩
def wv{a b:Tm}{g:List Ty}(d:a.ok=true)(f:b.ok=true)(hg:gA g):(∃e,e≠0/\Tm.pk [a,b] g=.inr e)\/∃s t,Tm.pk [a,b] g=.inl [s,t]/\s.err=0/\t.err=0:=by
 rcases uv [a,b] g with h|⟨ts,i,j,c⟩
 ·exact .inl h
 ·obtain⟨s,m,k⟩:=c 0 a rfl;obtain⟨t,n,l⟩:=c 1 b rfl
  match ts,j with
  |[x,y],_=>
   obtain rfl:x=s:=by grind
   obtain rfl:y=t:=by grind
   exact .inr ⟨x,y,i,(lX _ a (ig _) d g hg _ k).2,(lX _ b (ig _) f g hg _ l).2⟩
def vj{a b c:Tm}{g:List Ty}(f:a.ok=true)(i:b.ok=true)(j:c.ok=true)(hg:gA g):(∃e,e≠0/\Tm.pk [a,b,c] g=.inr e)\/∃s t u,Tm.pk [a,b,c] g=.inl [s,t,u]/\s.err=0/\t.err=0/\u.err=0:=by
 rcases uv [a,b,c] g with h|⟨ts,k,l,d⟩
 ·exact .inl h
 ·obtain⟨s,q,m⟩:=d 0 a rfl;obtain⟨t,r,n⟩:=d 1 b rfl;obtain⟨u,o,p⟩:=d 2 c rfl
  match ts,l with
  |[x,y,z],_=>
   obtain rfl:x=s:=by grind
   obtain rfl:y=t:=by grind
   obtain rfl:z=u:=by simpa using o
   exact .inr ⟨x,y,z,k,(lX _ a (ig _) f g hg _ m).2,(lX _ b (ig _) i g hg _ n).2,(lX _ c (ig _) j g hg _ p).2⟩
def yO{t:Ty}(h:t.agl<=1000000000)(a:t.ok=true):sJ t=some (if 64<t.agl then(.z,4)else(t,0)):=by
 unfold sJ;rw[jd h];unfold Ty.err;rw[cK a]
 split
 ·rfl
 ·rfl
section
variable{s x y z:Ty}
def uk:((x.agj=4/\x.agk.getD 0 .z=y)->fa 3 s [x,y]=(x.agk.getD 1 .z,0))/\(¬(x.agj=4/\x.agk.getD 0 .z=y)->fa 3 s [x,y]=(.z,7)):=by
 unfold fa
 grind
def zl:(x=.nat->fa 5 s [x]=(.nat,0))/\(x≠ .nat->fa 5 s [x]=(.z,7)):=by
 unfold fa
 grind
def qh:((x=s/\y=.fn .nat (.fn s s)/\z=.nat)->fa 6 s [x,y,z]=(s,0))/\(¬(x=s/\y=.fn .nat (.fn s s)/\z=.nat)->fa 6 s [x,y,z]=(.z,7)):=by
 unfold fa
 grind
def uq:((x=.nat/\y=.k1)->fa 8 s [x,y]=(.k1,0))/\(¬(x=.nat/\y=.k1)->fa 8 s [x,y]=(.z,7)):=by
 unfold fa
 grind
def qt:((x=s/\y=.fn .nat (.fn .k1 (.fn s s))/\z=.k1)->fa 9 s [x,y,z]=(s,0))/\(¬(x=s/\y=.fn .nat (.fn .k1 (.fn s s))/\z=.k1)->fa 9 s [x,y,z]=(.z,7)):=by
 unfold fa
 grind
def Eo:fa 10 s [x,y]=if 64<1+x.agl+y.agl then(.z,4)else(.pr x y,0):=by
 rfl
def Ep:fa 11 s [x]=if x.agj=3 then(x.agk.getD 0 .z,0)else(.z,7):=by
 rfl
def E_:fa 12 s [x]=if x.agj=3 then(x.agk.getD 1 .z,0)else(.z,7):=by
 rfl
end
def t_:∀(n:Nat) (t:Tm),t.agl<=n->t.ok=true->∀g,gA g->g.length+t.agl<=1000000->dT n g t=some (t.ty g):=by
 intro n
 induction n with
 |zero=>intro t h;have:=t.db;omega
 |succ n m=>
  intro t hn L;refine Tm.kC (p:=λt=>t.agl<=n+1->∀g,gA g->g.length+t.agl<=1000000->dT (n+1) g t=some (t.ty g)) ?_ ?_ ?_ ?_ ?_ ?_ ?_ ?_ ?_ ?_ ?_ ?_ ?_ t L hn
  ·intro i _ g hg k;rw[Tm.cJ] at k;rw[dT,cK aa7,Tm.jD,cK rfl]
   by_cases hi:(i:Int)<(g.length:Int)
   ·rw[cI (by simp only[Tm.dW,dz,fC];omega),cK hi];simp only[Tm.dW,dz];rw[dF (a:=(g.length:Int)) VW VW,dF VW VW]
    have w:g.length-1-i<g.length:=VW
    have:df g ((g.length:Int)-1-(i:Int))=some g[g.length-1-i]:=by
     unfold df;rw[cK VW,show((g.length:Int)-1-(i:Int)).toNat=g.length-1-i by omega,nw w]
    rw[this];simp only[cv];have F:=hg _ (D7 w);rw[fF (by have:=dE F;omega)];simp only[cv,yz];rw[Vp,nw w];rfl
   ·rw[cK (by simp only[Tm.dW,dz,fC];omega),cI hi];rfl
  ·intro s b hs k hn g hg d;rw[Tm.cJ] at hn d;simp only[cU] at hn d;rw[dT,cI aaB,cK aa7,Tm.jD,cI aaa,cK rfl,Tm.V7];simp only[Tm.dv,Tm.cZ,dg,gd,cv,eb];rw[dt aaP,cL,m b VW k (g++[s]) (hg.app hs) aaP];have J:=λh=>(lX _ b (ig _) k (g++[s]) (hg.app hs) (b.ty (g++[s])).1 (sF h)).2;generalize b.ty (g++[s])=q at J;obtain⟨r,e⟩:=q;simp only[cH,EG]
   by_cases G:e=0
   ·subst G;have K:r.err=0:=J rfl;have H:=dE hs;have M:=dE K;rw[cI aaa,cI aaB,fL VW VW];simp only[cv];rw[yO (t:=Ty.fn s r) (by rw[Ty.gv];omega) (Ty.ok_two (.inr rfl) (Ty.gZ hs).1 (Ty.gZ K).1),Ty.gv]
    split<;>rfl
   ·rw[cK (by simpa[dw] using G),cK G];rfl
  ·intro a b j k hn g hg d;rw[Tm.cJ] at hn d;simp only[cU] at hn d;rw[dT,cI aaB,cI aaB,Tm.jD,cI aaa,cI aaa];simp only[cN,Tm.cZ,cT (l:=[a,b]) aaB,cL];rw[kv [a,b] 0 [] (by intro x f;simp at f;rcases f with rfl|rfl<;>first|exact m _ VW j g hg VW|exact m _ VW k g hg VW) aaB];rcases wv j k hg with⟨e,he,h⟩|⟨s,t,h,hs,D⟩
   ·rw[h];rfl
   ·rw[h,km];simp only[cv,cS,dN,en];rw[cK aa7];simp only[kW,dg,ed,gd,jF,cv]
    by_cases o:s.agj=4
    ·obtain⟨x,y,rfl,f,hy⟩:=DN hs o;rw[cI (by simp[Ty.fn,dw]),show(Ty.fn x y).agk[0]?=some x from rfl];simp only[cv];rw[fv (by have:=dE f;omega)];simp only[cv]
     by_cases A:x=t
     ·subst A;rw[gz,cI aaa,show(Ty.fn x y).agk[1]?=some y from rfl,(uk (x:=.fn x y) (y:=x)).1 ⟨rfl,rfl⟩];rfl
     ·rw[iF A,cK aaa,(uk (x:=.fn x y) (y:=t)).2 (λh=>A h.2)];rfl
    ·rw[cK (by simpa[dw] using o),cK trivial,uk.2 (λh=>o h.1)];rfl
  ·intro hn g hg d;rw[Tm.jD,cI aaa,cI aaa,Tm.pk];rfl
  ·intro a j hn g hg d;rw[Tm.cJ] at hn d;simp only[cU] at hn d;rw[dT,cI aaB,cI aaB,Tm.jD,cI aaa,cI aaa];simp only[cN,Tm.cZ,cT (l:=[a]) aaB,cL];rw[kv [a] 0 [] (by intro x f;simp at f;subst f;exact m _ VW j g hg VW) aaB];rcases wo j hg with⟨e,he,h⟩|⟨s,h,hs⟩
   ·rw[h];rfl
   ·rw[h,km];simp only[cv,cS,dN,en];rw[cI aaB,cI aaB,cK aa7];simp only[kW,dg,gd,cv];rw[fv (by have:=dE hs;omega)];simp only[cv]
    by_cases B:s=.nat
    ·subst B;rw[gz,cK rfl,zl.1 rfl]
    ·rw[iF B,cI aaa,zl.2 B];rfl
  ·intro s a b c hs j k E hn g hg d;rw[Tm.cJ] at hn d;simp only[cU] at hn d;rw[dT,cI aaB,cI aaB,Tm.jD,cI aaa,cI aaa];simp only[cN,Tm.cZ,cT (l:=[a,b,c]) aaB,cL];rw[kv [a,b,c] 0 [] (by intro x f;simp at f;rcases f with rfl|rfl|rfl<;>first|exact m _ VW j g hg VW|exact m _ VW k g hg VW|exact m _ VW E g hg VW) aaB];rcases vj j k E hg with⟨e,he,h⟩|⟨x,y,z,h,f,hy,I⟩
   ·rw[h];rfl
   ·have H:=dE hs;rw[h,km];simp only[cv,cS,dN,en];rw[cI aaB,cI aaB,cI aaB,cK aa7];simp only[kW,dg,ed,fU,gd,jF,cv,Tm.dv];rw[fv (by have:=dE f;omega)];simp only[cv]
    by_cases u:x=s
    ·subst u;rw[gz,cK rfl,fL VW VW];simp only[cv];rw[fL (by rw[Ty.eU];omega) (by rw[Ty.gv];omega)];simp only[cv];rw[fv (by have:=dE hy;omega)];simp only[cv]
     by_cases v:y=.fn .nat (.fn x x)
     ·subst v;rw[gz,cK rfl,fv (by have:=dE I;omega)];simp only[cv]
      by_cases C:z=.nat
      ·subst C;rw[gz,cI aaa,fF VW,qh.1 ⟨rfl,rfl,rfl⟩];rfl
      ·rw[iF C,cK aaa,qh.2 (λh=>C h.2.2)];rfl
     ·rw[iF v,cI aaa,cK trivial,qh.2 (λh=>v h.2.1)];rfl
    ·rw[iF u,cI aaa,cK trivial,qh.2 (λh=>u h.1)];rfl
  ·intro hn g hg d;rw[Tm.jD,cI aaa,cI aaa,Tm.pk];rfl
  ·intro a b j k hn g hg d;rw[Tm.cJ] at hn d;simp only[cU] at hn d;rw[dT,cI aaB,cI aaB,Tm.jD,cI aaa,cI aaa];simp only[cN,Tm.cZ,cT (l:=[a,b]) aaB,cL];rw[kv [a,b] 0 [] (by intro x f;simp at f;rcases f with rfl|rfl<;>first|exact m _ VW j g hg VW|exact m _ VW k g hg VW) aaB];rcases wv j k hg with⟨e,he,h⟩|⟨s,t,h,hs,D⟩
   ·rw[h];rfl
   ·rw[h,km];simp only[cv,cS,dN,en];rw[cI aaB,cI aaB,cI aaB,cI aaB,cI aaB,cK aa7];simp only[kW,dg,ed,gd,jF,cv];rw[fv (by have:=dE hs;omega)];simp only[cv]
    by_cases u:s=.nat
    ·subst u;rw[gz,cK rfl,fv (by have:=dE D;omega)];simp only[cv]
     by_cases v:t=.k1
     ·subst v;rw[gz,cI aaa,uq.1 ⟨rfl,rfl⟩]
     ·rw[iF v,cK aaa,uq.2 (λh=>v h.2)];rfl
    ·rw[iF u,cI aaa,cK trivial,uq.2 (λh=>u h.1)];rfl
  ·intro s a b c hs j k E hn g hg d;rw[Tm.cJ] at hn d;simp only[cU] at hn d;rw[dT,cI aaB,cI aaB,Tm.jD,cI aaa,cI aaa];simp only[cN,Tm.cZ,cT (l:=[a,b,c]) aaB,cL];rw[kv [a,b,c] 0 [] (by intro x f;simp at f;rcases f with rfl|rfl|rfl<;>first|exact m _ VW j g hg VW|exact m _ VW k g hg VW|exact m _ VW E g hg VW) aaB];rcases vj j k E hg with⟨e,he,h⟩|⟨x,y,z,h,f,hy,I⟩
   ·rw[h];rfl
   ·have H:=dE hs;rw[h,km];simp only[cv,cS,dN,en];rw[cI aaB,cI aaB,cI aaB,cI aaB,cI aaB,cI aaB,cK aa7];simp only[kW,dg,ed,fU,gd,jF,cv,Tm.dv];rw[fv (by have:=dE f;omega)];simp only[cv]
    by_cases u:x=s
    ·subst u;rw[gz,cK rfl,fL VW VW];simp only[cv];rw[fL (by rw[Ty.kI];omega) (by rw[Ty.gv];omega)];simp only[cv];rw[fL (by rw[Ty.eU];omega) (by rw[Ty.gv,Ty.gv,Ty.kI];omega)];simp only[cv];rw[fv (by have:=dE hy;omega)];simp only[cv]
     by_cases v:y=.fn .nat (.fn .k1 (.fn x x))
     ·subst v;rw[gz,cK rfl,fv (by have:=dE I;omega)];simp only[cv]
      by_cases C:z=.k1
      ·subst C;rw[gz,cI aaa,fF VW,qt.1 ⟨rfl,rfl,rfl⟩];rfl
      ·rw[iF C,cK aaa,qt.2 (λh=>C h.2.2)];rfl
     ·rw[iF v,cI aaa,cK trivial,qt.2 (λh=>v h.2.1)];rfl
    ·rw[iF u,cI aaa,cK trivial,qt.2 (λh=>u h.1)];rfl
  ·intro a b j k hn g hg d;rw[Tm.cJ] at hn d;simp only[cU] at hn d;rw[dT,cI aaB,cI aaB,Tm.jD,cI aaa,cI aaa];simp only[cN,Tm.cZ,cT (l:=[a,b]) aaB,cL];rw[kv [a,b] 0 [] (by intro x f;simp at f;rcases f with rfl|rfl<;>first|exact m _ VW j g hg VW|exact m _ VW k g hg VW) aaB];rcases wv j k hg with⟨e,he,h⟩|⟨s,t,h,hs,D⟩
   ·rw[h];rfl
   ·have H:=dE hs;have M:=dE D;rw[h,km];simp only[cv,cS,dN,en];rw[cI aaB,cI aaB,cI aaB,cI aaB,cI aaB,cI aaB,cI aaB,cK aa7];simp only[kW,dg,ed,gd,jF,cv];rw[sA VW VW];simp only[cv];rw[yO (t:=Ty.pr s t) (by rw[Ty.pV];omega) (Ty.ok_two (.inl rfl) (Ty.gZ hs).1 (Ty.gZ D).1),Ty.pV];rw[Eo]
    split<;>rfl
  ·intro a j hn g hg d;rw[Tm.cJ] at hn d;simp only[cU] at hn d;rw[dT,cI aaB,cI aaB,Tm.jD,cI aaa,cI aaa];simp only[cN,Tm.cZ,cT (l:=[a]) aaB,cL];rw[kv [a] 0 [] (by intro x f;simp at f;subst f;exact m _ VW j g hg VW) aaB];rcases wo j hg with⟨e,he,h⟩|⟨s,h,hs⟩
   ·rw[h];rfl
   ·rw[h,km];simp only[cv,cS,dN,en];rw[cI aaB,cI aaB,cI aaB,cI aaB,cI aaB,cI aaB,cI aaB,cI aaB,cK aa7];simp only[kW,dg,gd,cv];rw[Ep]
    by_cases o:s.agj=3
    ·obtain⟨x,y,rfl,f,hy⟩:=uo hs o;rw[cI (by simp[Ty.pr,dw]),cK aa7,cK (show(Ty.pr x y).agj=3 from rfl)];rfl
    ·rw[cK (by simpa[dw] using o),cI o];rfl
  ·intro a j hn g hg d;rw[Tm.cJ] at hn d;simp only[cU] at hn d;rw[dT,cI aaB,cI aaB,Tm.jD,cI aaa,cI aaa];simp only[cN,Tm.cZ,cT (l:=[a]) aaB,cL];rw[kv [a] 0 [] (by intro x f;simp at f;subst f;exact m _ VW j g hg VW) aaB];rcases wo j hg with⟨e,he,h⟩|⟨s,h,hs⟩
   ·rw[h];rfl
   ·rw[h,km];simp only[cv,cS,dN,en];rw[cI aaB,cI aaB,cI aaB,cI aaB,cI aaB,cI aaB,cI aaB,cI aaB,cK aa7];simp only[kW,dg,gd,cv];rw[E_]
    by_cases o:s.agj=3
    ·obtain⟨x,y,rfl,f,hy⟩:=uo hs o;rw[cI (by simp[Ty.pr,dw]),cI aaB,cK (show(Ty.pr x y).agj=3 from rfl)];rfl
    ·rw[cK (by simpa[dw] using o),cI o];rfl
  ·intro hn g hg d;rw[Tm.jD,cI aaa,cI aaa,Tm.pk];rfl
end Go.ek
namespace Go.ek
open Go
def BQ:fN=eh:=by
 funext n
 induction n with
 |zero=>rfl|succ n c=>
  funext a b
  rw[fN,eh,c]
def mK{a b:Ty}(h:a.agl<=1000000000):fN FU a b=some (a.jO b):=by rw[BQ];exact fv h
def nI(t:Ty):cP:=⟨t,(t.agl:Int)⟩
def JQ:cP:=⟨.mk 0 [],0⟩
def BR(r:Ty×Int):cP×Int:=if r.2=0 then(nI r.1,0)else(JQ,r.2)
@[simp] theorem ld(t:Ty):BR (t,0)=(nI t,0):=cK rfl
def iz{t:Ty}{e:Int}(h:e≠0):BR (t,e)=(JQ,e):=cI h
@[simp] theorem px(t:Ty):(nI t).cO=t:=by rfl
@[simp] theorem BU(t:Ty):(nI t).agl=(t.agl:Int):=by rfl
@[simp] theorem Vi:JQ.cO=.mk 0 []:=by rfl
theorem hU{t:Ty}(h:t.err=0):m6 t=some (nI t):=by
 unfold m6;rw[im (by have:=dE h;omega),cK h];rfl
def ud(k:Int){a b:Ty}(c:a.agl<=1000000)(d:b.agl<=1000000):r7 k (nI a) (nI b)=some (if 64<1+a.agl+b.agl then(JQ,4)else(nI (.mk k [a,b]),0)):=by
 unfold r7;simp only[BU,px];rw[ds (a:=1) VW VW,ds VW VW]
 by_cases h:64<1+a.agl+b.agl
 ·rw[cK (by simp only[ei];omega),cK h];rfl
 ·rw[cI (by simp only[ei];omega),cI h];unfold nI;rw[Ty.uy]
  congr 3
theorem mA{a b:Ty}(c:a.agl<=1000000):kV (nI a) (nI b)=some (a.jO b):=by
 unfold kV;simp only[cN,BU,px]
 by_cases h:(a.agl:Int)=(b.agl:Int)
 ·rw[cK (by simpa[dm] using h),mK VW];rfl
 ·rw[cI (by simpa[dm] using h),iF (by rintro rfl;exact h rfl)]
def mR{t x:Ty}{i:Int}(h:df t.agk i=some x)(a:x.err=0):kc (nI t) i=some (nI x):=by
 unfold kc;simp only[px,h,cv,hU a]
def qu:pJ=some .nat:=rfl
def DK:zK=some .k1:=rfl
def Nh{l:List Ty}(d:l.length<=1000):∀(i m:Nat) (k:Int) (as:List Ty),i<=l.length->i<m->jb ((PV λ(a:Int) (v49:Int) (b:List Ty)=>
   if(rZ a 0) then(
   cG (df l a) λc=>
   some (.next ((ea .i64 a 1),4,[c,(Ty.mk v49 b)])))
   else(some (.vN (a,v49,b)))):(Int×Int×(List Ty))->(Option (eu (Int×Int×(List Ty)) (Ty)))) m ((i:Int)-1,k,as)=some (.inl (-1,((l.take i).foldr Ty.fn (.mk k as)).agj,((l.take i).foldr Ty.fn (.mk k as)).agk))
 |0,m+1,k,as,_,_=>by
  rw[gb];simp only[PV];rw[cI (by rw[fC];omega)];rfl
 |i+1,m+1,k,as,hi,hm=>by
  rw[gb];simp only[PV];rw[cK (by rw[fC];omega),show((i+1:Nat):Int)-1=(i:Int) by omega,e_,nw VW];simp only[cv,dr];rw[dF VW VW];have h:=Nh d i m 4 [l[i],.mk k as] VW VW;rw[h,Ww,nw VW];simp only[Yl,XY,YY,YN];rfl
def uh(t:Ty)(l:List Ty)(a:l.length<=1000):mM t l=some (l.foldr Ty.fn t):=by
 unfold mM;simp only[cN];rw[dz,dF VW VW];have h:=Nh a l.length FU t.agj t.agk (ig _) (Rn VW);rw[h,cv];rw[Yy]
 have e:Ty.mk t.agj t.agk=t:=by cases t;rfl
 rw[e];generalize List.foldr Ty.fn t l=r;cases r;rfl
def Kb(a b t:Ty):mM t [a,b]=some (.fn a (.fn b t)):=uh t [a,b] aaB
def JT(a b c t:Ty):mM t [a,b,c]=some (.fn a (.fn b (.fn c t))):=uh t [a,b,c] aaB
def JS(a t:Ty):mM t [a]=some (.fn a t):=uh t [a] aaB
def nG:List Ty->cP×cP×cP
 |[]=>(JQ,JQ,JQ)|[a]=>(nI a,JQ,JQ)|[a,b]=>(nI a,nI b,JQ)|a::b::c::_=>(nI a,nI b,nI c)
def yC(x:cP)(k:Int):ky x k=some (dm x.cO.agj k):=rfl
def yR(t:Ty)(k:Int):dm (nI t).cO.agj k=decide (t.agj=k):=by
 rw[px];exact oU _ _
def y_(s:Ty)(l:List Tm)(i:Int):ot (.mk 6 i s l)=some (.fn .nat (.fn s s)):=by
 unfold ot;rw[cI aaB];simp only[qu,cv];rw[Kb];rfl
def xw(s:Ty)(l:List Tm)(i:Int):ot (.mk 9 i s l)=some (.fn .nat (.fn .k1 (.fn s s))):=by
 unfold ot;rw[cK aaB];simp only[qu,DK,cv];rw[JT];rfl
section
variable{s x y z:Ty} {i:Int} {l:List Tm}
def NN(f:x.err=0)(hy:y.err=0):et (.mk 3 i s l) (nG [x,y])=some (BR (fa 3 s [x,y])):=by
 unfold et;rw[show hX (Tm.mk 3 i s l).agj=some [] from rfl];simp only[cv];rw[cI aaB,cK aa7];simp only[cN,nG,yC,cv,yR]
 by_cases d:x.agj=4
 ·obtain⟨a,b,rfl,e,g⟩:=DN f d;rw[cK aa7,mR (t:=.fn a b) (x:=a) rfl e];simp only[cv];rw[mA (by have:=dE e;omega)];simp only[cv]
  by_cases c:a=y
  ·subst c;rw[gz,cI aaB,mR (t:=.fn a b) (x:=b) rfl g,(uk (x:=.fn a b) (y:=a)).1 ⟨rfl,rfl⟩];simp only[cv];rw[show(Ty.fn a b).agk.getD 1 .z=b from rfl,ld]
  ·rw[iF c,cK aaB,(uk (x:=.fn a b) (y:=y)).2 (λh=>c h.2),iz aaa];rfl
 ·rw[cI (by simpa using d),cK trivial,uk.2 (λh=>d h.1),iz aaa];rfl
def Jf(a:x.err=0)(hy:y.err=0):et (.mk 10 i s l) (nG [x,y])=some (BR (fa 10 s [x,y])):=by
 unfold et;rw[show hX (Tm.mk 10 i s l).agj=some [] from rfl];simp only[cv];rw[cI aaB,cI aaB,cI aaB,cK aa7];simp only[nG];rw[ud 3 (by have:=dE a;omega) (by have:=dE hy;omega),Eo]
 split
 ·simp only[cH];rw[iz aaa]
 ·simp only[cH];rw[ld];rfl
def Mm(d:x.err=0):et (.mk 11 i s l) (nG [x])=some (BR (fa 11 s [x])):=by
 unfold et;rw[show hX (Tm.mk 11 i s l).agj=some [] from rfl];simp only[cv];rw[cI aaB,cI aaB,cI aaB,cI aaB];simp only[nG,yC,cv,yR];rw[Ep]
 by_cases c:x.agj=3
 ·obtain⟨a,b,rfl,e,f⟩:=uo d c;rw[cK aa7,cK aa7,mR (t:=.pr a b) (x:=a) rfl e,cK (show(Ty.pr a b).agj=3 from rfl)];simp only[cv];rw[show(Ty.pr a b).agk.getD 0 .z=a from rfl,ld]
 ·rw[cI (by simpa using c),cI c,iz aaa];rfl
def Mz(d:x.err=0):et (.mk 12 i s l) (nG [x])=some (BR (fa 12 s [x])):=by
 unfold et;rw[show hX (Tm.mk 12 i s l).agj=some [] from rfl];simp only[cv];rw[cI aaB,cI aaB,cI aaB,cI aaB];simp only[nG,yC,cv,yR];rw[E_]
 by_cases c:x.agj=3
 ·obtain⟨a,b,rfl,f,e⟩:=uo d c;rw[cK aa7,cI aaB,mR (t:=.pr a b) (x:=b) rfl e,cK (show(Ty.pr a b).agj=3 from rfl)];simp only[cv];rw[show(Ty.pr a b).agk.getD 1 .z=b from rfl,ld]
 ·rw[cI (by simpa using c),cI c,iz aaa];rfl
end
end Go.ek
namespace Go.ek
open Go
section
variable{s x y z:Ty} {i:Int} {l:List Tm}
def tq{k t:Int}(a:hX k=some [t])(b:Ty.err (.mk t [])=0):et (.mk k i s l) (nG [])=some (nI (.mk t []),0):=by
 unfold et;rw[show(Tm.mk k i s l).agj=k from rfl,a,cv,cK (show nW (dn [t]) 0=true by rfl),show tu [t] 1 (dn [t])=some ([]:List Int)from rfl];simp only[cv,cT (l:=([]:List Int)) aaB,cL,cN,lT,cS,dg,gd];rw[hU b];rfl
def JN:et (.mk 4 i s l) (nG [])=some (BR (fa 4 s [])):=tq rfl Ty.ew
def MB:et (.mk 7 i s l) (nG [])=some (BR (fa 7 s [])):=tq rfl Ty.kT
def JB:et (.mk 13 i s l) (nG [])=some (BR (fa 13 s [])):=tq rfl Ty.Ae
def JJ(b:x.err=0):et (.mk 5 i s l) (nG [x])=some (BR (fa 5 s [x])):=by
 unfold et;rw[show hX (Tm.mk 5 i s l).agj=some [1,1] from rfl,cv,cK (show nW (dn ([1,1]:List Int)) 0=true by rfl),show tu ([1,1]:List Int) 1 (dn ([1,1]:List Int))=some [1] from rfl];simp only[cv,cT (l:=([1]:List Int)) aaB,cL,cN,nG];rw[dq,cK aa7];simp only[yC,cv,yR]
 by_cases a:x.agj=1
 ·have hn:=(pZ b).1 a;subst hn;rw[qk aa7,cI aaa];simp only[cv,dr,lT,cS,dg,gd];rw[show m6 (Ty.mk 1 [])=some (nI .nat)from hU Ty.ew,zl.1 rfl,ld];rfl
 ·rw[zu a,cK aaa,zl.2 (λh=>a ((pZ b).2 h)),iz aaa];rfl
def Kj(c:x.err=0)(hy:y.err=0):et (.mk 8 i s l) (nG [x,y])=some (BR (fa 8 s [x,y])):=by
 unfold et;rw[show hX (Tm.mk 8 i s l).agj=some [2,1,2] from rfl,cv,cK (show nW (dn ([2,1,2]:List Int)) 0=true by rfl),show tu ([2,1,2]:List Int) 1 (dn ([2,1,2]:List Int))=some [1,2] from rfl];simp only[cv,cT (l:=([1,2]:List Int)) aaB,cL,cN,nG];rw[dq,cK aa7];simp only[yC,cv,yR]
 by_cases b:x.agj=1
 ·have hn:=(pZ c).1 b;subst hn;rw[qk aa7,cI aaa];simp only[cv,dr];rw[dq,cI aaa,cK aa7]
  by_cases a:y.agj=2
  ·have hn:=(wP hy).1 a;subst hn;rw[qk aa7,cI aaa];simp only[cv,dr,lT,cS,dg,gd];rw[show m6 (Ty.mk 2 [])=some (nI .k1)from hU Ty.kT,uq.1 ⟨rfl,rfl⟩,ld];rfl
  ·rw[zu a,cK aaa,uq.2 (λh=>a ((wP hy).2 h.2)),iz aaa];rfl
 ·rw[zu b,cK aaa,uq.2 (λh=>b ((pZ c).2 h.1)),iz aaa];rfl
def Nn(hs:s.err=0)(d:x.err=0)(hy:y.err=0)(e:z.err=0):et (.mk 6 i s l) (nG [x,y,z])=some (BR (fa 6 s [x,y,z])):=by
 unfold et;rw[show hX (Tm.mk 6 i s l).agj=some [] from rfl];simp only[cv];rw[cI aaa,cI aaB,cK aa7];simp only[cN,nG,Tm.dv,hU hs,cv];rw[mA (by have:=dE d;omega)];simp only[cv]
 by_cases a:x=s
 ·subst a;rw[gz,cK rfl,y_];simp only[cv,px];rw[mK (by have:=dE hy;omega)];simp only[cv]
  by_cases b:y=.fn .nat (.fn x x)
  ·subst b;rw[gz,cK rfl];simp only[yC,cv];rw[show eH (dm (Tm.mk 6 i x l).agj 9) (2:Int) 1=1 from rfl];simp only[yR]
   by_cases c:z=.nat
   ·subst c;rw[qk aa7,cI aaa,qh.1 ⟨rfl,rfl,rfl⟩,ld]
   ·rw[zu (λh=>c ((pZ e).1 h)),cK aaa,qh.2 (λh=>c h.2.2),iz aaa];rfl
  ·rw[iF b,cI aaa,cK trivial,qh.2 (λh=>b h.2.1),iz aaa];rfl
 ·rw[iF a,cI aaa,cK trivial,qh.2 (λh=>a h.1),iz aaa];rfl
def JL(hs:s.err=0)(d:x.err=0)(hy:y.err=0)(e:z.err=0):et (.mk 9 i s l) (nG [x,y,z])=some (BR (fa 9 s [x,y,z])):=by
 unfold et;rw[show hX (Tm.mk 9 i s l).agj=some [] from rfl];simp only[cv];rw[cI aaa,cI aaB,cK aa7];simp only[cN,nG,Tm.dv,hU hs,cv];rw[mA (by have:=dE d;omega)];simp only[cv]
 by_cases a:x=s
 ·subst a;rw[gz,cK rfl,xw];simp only[cv,px];rw[mK (by have:=dE hy;omega)];simp only[cv]
  by_cases b:y=.fn .nat (.fn .k1 (.fn x x))
  ·subst b;rw[gz,cK rfl];simp only[yC,cv];rw[show eH (dm (Tm.mk 9 i x l).agj 9) (2:Int) 1=2 from rfl];simp only[yR]
   by_cases c:z=.k1
   ·subst c;rw[qk aa7,cI aaa,qt.1 ⟨rfl,rfl,rfl⟩,ld]
   ·rw[zu (λh=>c ((wP e).1 h)),cK aaa,qt.2 (λh=>c h.2.2),iz aaa];rfl
  ·rw[iF b,cI aaa,cK trivial,qt.2 (λh=>b h.2.1),iz aaa];rfl
 ·rw[iF a,cI aaa,cK trivial,qt.2 (λh=>a h.1),iz aaa];rfl
end
def RJ(p:cP×cP×cP):Int×(List Ty)×Int×Int×(List Ty)×Int×Int×(List Ty)×Int:=
 (p.1.cO.agj,p.1.cO.agk,p.1.agl,p.2.1.cO.agj,p.2.1.cO.agk,p.2.1.agl,p.2.2.cO.agj,p.2.2.cO.agk,p.2.2.agl)
def yy{n:Nat}{g:List Ty}:∀(l:List Tm) (d:List Ty),d.length+l.length<=3->(∀a∈l,dx n (g.map nI) a=some (BR (a.ty g)))->dP (λ(f:Int) (x:Tm)=>(QQ λ(i:Int) (j:List Ty) (v218:Int) (k:Int) (m:List Ty) (o:Int) (v222:Int) (p:List Ty) (q:Int)=>
   cX (dx n (g.map nI) x) λc s=>
   if(dw s 0) then(
   some (.ret ((cP.mk (Ty.mk 0 []) 0),s)))
   else(if(dm f 0) then(
   some (.next (c.cO.agj,c.cO.agk,c.agl,k,m,o,v222,p,q)))
   else(if(dm f 1) then(
   some (.next (i,j,v218,c.cO.agj,c.cO.agk,c.agl,v222,p,q)))
   else(fY (dm f 2)<|some (.next (i,j,v218,k,m,o,c.cO.agj,c.cO.agk,c.agl)))))):Int->Tm->(Int×(List Ty)×Int×Int×(List Ty)×Int×Int×(List Ty)×Int)->(Option (eu (Int×(List Ty)×Int×Int×(List Ty)×Int×Int×(List Ty)×Int) (cP×Int)))) l d.length (RJ (nG d))=some (match Tm.pk l g with|.inl ts=>.inl (RJ (nG (d++ts)))|.inr e=>.inr (JQ,e))
 |[],d,_,_=>by simp[Tm.pk]|a::l,d,y,h=>by
  simp only[hW] at y;rw[dq,Tm.pk];have B:=h a aaB;simp only[RJ,QQ];rw[B]
  by_cases w:(a.ty g).2=0
  ·rw[sF w,ly rfl,ld,cH,cI aaa];generalize (a.ty g).1=t
   have go:∀A:List Ty,A=d++[t]->(some (eu.next (RJ (nG A))):Option (eu (Int×(List Ty)×Int×Int×(List Ty)×Int×Int×(List Ty)×Int) (cP×Int)))=some (eu.next (RJ (nG (d++[t])))):=λA e=>by rw[e]
   have z:=yy l (d++[t]) aaP (λb C=>h b (by simp[C]));rw[qI,hW,tY] at z
   have fin:(some (match Tm.pk l g with|.inl ts=>.inl (RJ (nG (d++[t]++ts)))|.inr e=>.inr (JQ,e)):Option ((Int×(List Ty)×Int×Int×(List Ty)×Int×Int×(List Ty)×Int)⊕(cP×Int)))=some (match(match Tm.pk l g with|.inl ts=>Sum.inl (t::ts)|.inr e=>Sum.inr e:List Ty⊕Int)with|.inl ts=>.inl (RJ (nG (d++ts)))|.inr e=>.inr (JQ,e)):=by
    cases Tm.pk l g with
    |inl ts=>simp|inr e=>rfl
   match d,y with
   |[],_=>
    rw[cK aa7];exact z.trans fin
   |[u],_=>
    rw[cI aaB,cK aa7];exact z.trans fin
   |[u,v],_=>
    rw[cI aaB,cI aaB,show dm (([u,v].length:Nat):Int) 2=true from rfl,cL];exact z.trans fin
   |_::_::_::_,y=>simp at y;omega
  ·rw[lF w];generalize a.ty g=r at w;obtain⟨t,e⟩:=r;simp only at w;rw[iz w,cH,cK (by simpa[dw] using w)];rfl
def Ql(p:cP×cP×cP):((cP.mk (Ty.mk p.1.cO.agj p.1.cO.agk) p.1.agl),(cP.mk (Ty.mk p.2.1.cO.agj p.2.1.cO.agk) p.2.1.agl),(cP.mk (Ty.mk p.2.2.cO.agj p.2.2.cO.agk) p.2.2.agl))=p:=by
 have e:∀t:Ty,Ty.mk t.agj t.agk=t:=λt=>by cases t;rfl
 obtain⟨⟨a,b⟩,⟨c,d⟩,⟨g,f⟩⟩:=p;simp only[e]
def ie{n:Nat}{g:List Ty}{k i:Int}{s:Ty}{l:List Tm}(m:k≠1)(q:k≠2)(r:l.length<=3)(h:∀a∈l,dx n (g.map nI) a=some (BR (a.ty g)))
  (hn:∀ts,Tm.pk l g=.inl ts->et (.mk k i s l) (nG ts)=some (BR (fa k s ts))):dx (n+1) (g.map nI) (.mk k i s l)=some (BR ((Tm.mk k i s l).ty g)):=by
 rw[dx,cI (by simpa[dm] using m),cI (by simpa[dm] using q),Tm.jD,cI m,cI q];simp only[cN,Tm.cZ];rw[cT VW,cL];have f:=yy l [] (by simpa using r) h;refine(congrArg (λo=>cG o _) f).trans ?_;simp only[cv];cases j:Tm.pk l g with
 |inr e=>
  rw[Hp]
  have he:e≠0:=by
   rcases uv l g with⟨t,d,c⟩|⟨ts,d,_⟩
   ·rw[j] at c;cases c;exact d
   ·rw[j] at d;cases d
  rw[iz he];rfl
 |inl ts=>
  simp only[kW,cS,km,RJ,QQ];rw[Ql,hn ts j,show∀p:cP×Int,(cX (some p) λa b=>some (a,b))=some p fromλ_=>rfl]
end Go.ek
namespace Go.ek
open Go
def tp(g:List Ty)(s:Ty):g.map nI++[nI s]=(g++[s]).map nI:=aaB
def xG:∀(n:Nat) (t:Tm),t.agl<=n->t.ok=true->∀g,gA g->g.length+t.agl<=1000000->dx n (g.map nI) t=some (BR (t.ty g)):=by
 intro n
 induction n with
 |zero=>intro t h;have:=t.db;omega
 |succ n l=>
  intro t hn B
  have one:∀{a:Tm} {g:List Ty} {ts:List Ty},a.ok=true->gA g->Tm.pk [a] g=.inl ts->∃x,ts=[x]/\x.err=0:=by
   intro a g ts j hg h;rcases wo j hg with⟨e,_,o⟩|⟨x,o,f⟩<;>rw[h] at o<;>cases o;exact⟨x,rfl,f⟩
  have two:∀{a b:Tm} {g:List Ty} {ts:List Ty},a.ok=true->b.ok=true->gA g->Tm.pk [a,b] g=.inl ts->∃x y,ts=[x,y]/\x.err=0/\y.err=0:=by
   intro a b g ts j k hg h;rcases wv j k hg with⟨e,_,o⟩|⟨x,y,o,f,hy⟩<;>rw[h] at o<;>cases o;exact⟨x,y,rfl,f,hy⟩
  have three:∀{a b c:Tm} {g:List Ty} {ts:List Ty},a.ok=true->b.ok=true->c.ok=true->gA g->Tm.pk [a,b,c] g=.inl ts->∃x y z,ts=[x,y,z]/\x.err=0/\y.err=0/\z.err=0:=by
   intro a b c g ts j k m hg h;rcases vj j k m hg with⟨e,_,o⟩|⟨x,y,z,o,f,hy,u⟩<;>rw[h] at o<;>cases o;exact⟨x,y,z,rfl,f,hy,u⟩
  refine Tm.kC (p:=λt=>t.agl<=n+1->∀g,gA g->g.length+t.agl<=1000000->dx (n+1) (g.map nI) t=some (BR (t.ty g))) ?_ ?_ ?_ ?_ ?_ ?_ ?_ ?_ ?_ ?_ ?_ ?_ ?_ t B hn
  ·intro i _ g hg k;rw[Tm.cJ] at k;rw[dx,cK aa7,Tm.jD,cK rfl];simp only[Tm.dW,dz,Eb]
   by_cases hi:(i:Int)<(g.length:Int)
   ·rw[cI (by simp only[fC];omega),cK hi];rw[dF (a:=(g.length:Int)) VW VW,dF VW VW]
    have v:g.length-1-i<g.length:=VW
    have:df (g.map nI) ((g.length:Int)-1-(i:Int))=some (nI g[g.length-1-i]):=by
     unfold df;rw[cK VW,show((g.length:Int)-1-(i:Int)).toNat=g.length-1-i by omega,xr,nw v];rfl
    rw[this];simp only[cv,yz];rw[Vp,nw v];exact congrArg some (ld _).symm
   ·rw[cK (by simp only[fC];omega),cI hi,iz aaa];rfl
  ·intro s b hs k hn g hg d;rw[Tm.cJ] at hn d;simp only[cU] at hn d;rw[dx,cI aaB,cK aa7,Tm.jD,cI aaa,cK rfl,Tm.V7];simp only[Tm.dv,Tm.cZ,hU hs,dg,gd,cv,eb];rw[dt aaP,cL,tp,l b VW k (g++[s]) (hg.app hs) aaP];have A:=λh=>(lX _ b (ig _) k (g++[s]) (hg.app hs) (b.ty (g++[s])).1 (sF h)).2;generalize b.ty (g++[s])=q at A;obtain⟨r,e⟩:=q;simp only[EG]
   by_cases w:e=0
   ·subst w;have C:r.err=0:=A rfl;have D:=dE hs;have E:=dE C;rw[ld,cH,cI aaa,cI aaB,ud 4 VW VW]
    by_cases m:64<1+s.agl+r.agl
    ·rw[cK m,cK m,iz aaa];rfl
    ·rw[cI m,cI m,ld];rfl
   ·rw[iz w,cH,cK (by simpa[dw] using w),cK w,iz w];rfl
  ·intro a b j k hn g hg d;rw[Tm.cJ] at hn d;simp only[cU] at hn d;refine ie aaa aaa aaB (by intro x f;simp at f;rcases f with rfl|rfl<;>first|exact l _ VW j g hg VW|exact l _ VW k g hg VW) (λts h=>?_);obtain⟨x,y,rfl,f,hy⟩:=two j k hg h;exact NN f hy
  ·intro hn g hg d;exact ie aaa aaa aaB aaB (λts h=>by rw[Tm.pk] at h;cases h;exact JN)
  ·intro a j hn g hg d;rw[Tm.cJ] at hn d;simp only[cU] at hn d;refine ie aaa aaa aaB (by intro x f;simp at f;subst f;exact l _ VW j g hg VW) (λts h=>?_);obtain⟨x,rfl,f⟩:=one j hg h;exact JJ f
  ·intro s a b c hs j k m hn g hg d;rw[Tm.cJ] at hn d;simp only[cU] at hn d;refine ie aaa aaa aaB (by intro x f;simp at f;rcases f with rfl|rfl|rfl<;>first|exact l _ VW j g hg VW|exact l _ VW k g hg VW|exact l _ VW m g hg VW) (λts h=>?_);obtain⟨x,y,z,rfl,f,hy,u⟩:=three j k m hg h;exact Nn hs f hy u
  ·intro hn g hg d;exact ie aaa aaa aaB aaB (λts h=>by rw[Tm.pk] at h;cases h;exact MB)
  ·intro a b j k hn g hg d;rw[Tm.cJ] at hn d;simp only[cU] at hn d;refine ie aaa aaa aaB (by intro x f;simp at f;rcases f with rfl|rfl<;>first|exact l _ VW j g hg VW|exact l _ VW k g hg VW) (λts h=>?_);obtain⟨x,y,rfl,f,hy⟩:=two j k hg h;exact Kj f hy
  ·intro s a b c hs j k m hn g hg d;rw[Tm.cJ] at hn d;simp only[cU] at hn d;refine ie aaa aaa aaB (by intro x f;simp at f;rcases f with rfl|rfl|rfl<;>first|exact l _ VW j g hg VW|exact l _ VW k g hg VW|exact l _ VW m g hg VW) (λts h=>?_);obtain⟨x,y,z,rfl,f,hy,u⟩:=three j k m hg h;exact JL hs f hy u
  ·intro a b j k hn g hg d;rw[Tm.cJ] at hn d;simp only[cU] at hn d;refine ie aaa aaa aaB (by intro x f;simp at f;rcases f with rfl|rfl<;>first|exact l _ VW j g hg VW|exact l _ VW k g hg VW) (λts h=>?_);obtain⟨x,y,rfl,f,hy⟩:=two j k hg h;exact Jf f hy
  ·intro a j hn g hg d;rw[Tm.cJ] at hn d;simp only[cU] at hn d;refine ie aaa aaa aaB (by intro x f;simp at f;subst f;exact l _ VW j g hg VW) (λts h=>?_);obtain⟨x,rfl,f⟩:=one j hg h;exact Mm f
  ·intro a j hn g hg d;rw[Tm.cJ] at hn d;simp only[cU] at hn d;refine ie aaa aaa aaB (by intro x f;simp at f;subst f;exact l _ VW j g hg VW) (λts h=>?_);obtain⟨x,rfl,f⟩:=one j hg h;exact Mz f
  ·intro hn g hg d;exact ie aaa aaa aaB aaB (λts h=>by rw[Tm.pk] at h;cases h;exact JB)
def rE{t:Tm}{g:List Ty}(a:t.ok=true)(hg:gA g)(b:g.length+t.agl<=1000000):dx FU (g.map nI) t=some (BR (t.ty g)):=
 xG FU t (by have:=dp;omega) a g hg b
noncomputable def kO (t:Tm) (g:List Ty) (k:Int):Int:=if(t.ty g).2=0/\(t.ty g).1.agj≠k then 7 else(t.ty g).2
def vd{t:Tm}{g:List Ty}(k:Int)(c:t.ok=true)(hg:gA g)(d:g.length+t.agl<=1000000):gR (g.map nI) t k=some (kO t g k):=by
 unfold gR kO;rw[rE c hg d];generalize t.ty g=q;obtain⟨r,e⟩:=q
 by_cases a:e=0
 ·subst a;rw[ld,cH];simp only[cN];rw[cK aa7,yC,cv,yR]
  by_cases b:r.agj=k
  ·rw[qk b,cI aaa,cI (λh=>h.2 b)]
  ·rw[zu b,cK aaa,cK ⟨trivial,b⟩]
 ·rw[iz a,cH];simp only[cN];rw[cI (by simpa[dm] using a),cI aaa,cI (λh=>a h.1)]
def rq{t:Tm}{g:List Ty}(a:t.ok=true)(hg:gA g)(b:g.length+t.agl<=1000000):gJ (g.map nI) t=some (kO t g 1):=by
 unfold gJ;rw[vd 1 a hg b];rfl
end Go.ek
