/- Part of the proof of KernelUniform: plain facts. -/
import Derived.Test.YtobcafblgapgfaaGreatDoorG1
set_option linter.all false
namespace Go.hJ
open Go
@[simp] theorem gB(a b:Int):eH a b=true↔a=b:=by simp[eH]
@[simp] theorem eA(a b:Int):eW a b=true↔a≠b:=by simp[eW]
@[simp] theorem lS(a b:Int):tW a b=true↔a<b:=by simp[tW]
@[simp] theorem zJ(a b:Int):Jx a b=true↔a<=b:=by simp[Jx]
@[simp] theorem gD(a b:Int):nS a b=true↔b<a:=by simp[nS]
@[simp] theorem jk(a b:Int):tq a b=true↔b<=a:=by simp[tq]
@[simp] theorem l7(a b:Bool):fU a true b=(a||b):=by cases a<;>rfl
@[simp] theorem q_(a b:Bool):fU a b false=(a&&b):=by cases a<;>rfl
@[simp] theorem W9(a b:Bool):fU a b true=(!a||b):=by cases a<;>rfl
@[simp] theorem Tl(a:Bool):nC a=!a:=rfl
@[simp] theorem gG{α:Type}(l m:List α):gv l m=l++m:=rfl
@[simp] theorem fO{α:Type}(l:List α):eM l=(l.length:Int):=rfl
def jJ{α:Type}(l:List α)(i:Nat):eI l (i:Int)=l[i]?:=by simp[eI]
@[simp] theorem eU{α:Type}(l:List α):eI l 0=l[0]?:=by simp[eI]
@[simp] theorem gx{α:Type}(l:List α):eI l 1=l[1]?:=by simp[eI]
@[simp] theorem jv{α:Type}(l:List α):eI l 2=l[2]?:=by simp[eI]
def I5{α:Type}{l:List α}{i:Int}(b:0<=i)(c:i<l.length):∃x,eI l i=some x/\x∈l:=by
 obtain⟨k,rfl⟩:=VS b
 have a:k<l.length:=by omega
 exact⟨l[k],by rw[jJ];simp[a],Ga a⟩
def eE{α:Type}{l:List α}(h:l.length<=1000000000):fo l=true:=by unfold fo Kw;exact vF (by omega)
def fl{α:Type}{l m:List α}(h:l.length+m.length<=1000000000):gf l m=true:=by unfold gf Kw;exact vF (by omega)
def QO{b:Int}(h:b≠0):IM b=true:=by simp[IM,h]
def E9{n:Int}(a:-9223372036854775808<=n)(b:n<9223372036854775808):IntKind.i64.wrap n=n:=by
 rw[IntKind.wrap_i64];omega
def fu{a b:Int}(c:-9223372036854775808<=a+b)(d:a+b<9223372036854775808):fj .i64 a b=a+b:=E9 c d
def fG{a b:Int}(c:-9223372036854775808<=a-b)(d:a-b<9223372036854775808):fB .i64 a b=a-b:=E9 c d
def zM{a b:Int}(c:-9223372036854775808<=a*b)(d:a*b<9223372036854775808):JW .i64 a b=a*b:=E9 c d
section
variable{α β σ ρ:Type}
def IJ{F:Int->α->σ->Option (gu σ ρ)}(I:σ->Prop)(Q:ρ->Prop):∀(l:List α) (i:Nat) (s:σ),I s->(∀k x s,l[k]?=some x->I s->(∃a,F ((i+k:Nat):Int) x s=some (.next a)/\I a)\/(∃r,F ((i+k:Nat):Int) x s=some (.ret r)/\Q r))->(∃a,ft F l i s=some (.inl a)/\I a)\/(∃r,ft F l i s=some (.inr r)/\Q r)
 |[],i,s,hs,_=>.inl ⟨s,rfl,hs⟩|x::l,i,s,hs,h=>by
  have e:=h 0 x s rfl hs;rw[Gs] at e;rw[fm];rcases e with⟨s1,b,c⟩|⟨r,b,c⟩
  ·rw[b];simp only[cl,fA];refine IJ I Q l (i+1) s1 c λk y a f d=>?_;have:=h (k+1) y a (by simpa using f) d;rw[show i+(k+1)=i+1+k by omega] at this;exact this
  ·rw[b];exact .inr ⟨r,rfl,c⟩
def iT{F:Int->α->List β->Option (gu (List β) ρ)}(g:α->β):∀(l:List α) (i:Nat) (v:List β),v.length+l.length<=1000000000->(∀j x v,x∈l->v.length+1<=1000000000->F j x v=some (.next (v++[g x])))->ft F l i v=some (.inl (v++l.map g))
 |[],i,v,_,_=>by simp|x::l,i,v,a,h=>by
  simp only[lL] at a;rw[fm,h i x v (by simp) (by omega)];simp only[cl,fA];rw[iT g l (i+1) (v++[g x]) (by simp;omega) λj y v hy b=>h j y v (by simp[hy]) b];simp
def eC(g:α->Nat):List α->Nat
 |[]=>0|x::l=>g x+eC g l
def eL(g:α->Nat){l:List α}{x:α}(h:x∈l):g x<=eC g l:=by
 induction l with
 |nil=>cases h
 |cons y l a=>
  simp only[eC];rcases lF.1 h with rfl|h
  ·omega
  ·have:=a h;omega
def iu(g:α->Nat)(l:List α)(h:∀x∈l,1<=g x):l.length<=eC g l:=by
 induction l with
 |nil=>simp|cons y l a=>simp only[eC,lL];have:=h y (by simp);have:=a λx b=>h x (by simp[b]);omega
def qk{F:Int->α->Int->Option (gu Int ρ)}(g:α->Nat):∀(l:List α) (i v:Nat),v+eC g l<=4611686018427387904->(∀j x (v:Int),x∈l->F j x v=some (.next (fj .i64 v (g x))))->ft F l i (v:Int)=some (.inl ((v+eC g l:Nat):Int))
 |[],i,v,_,_=>by simp[eC]|x::l,i,v,a,h=>by
  simp only[eC] at a|-;rw[fm,h i x v (by simp),fu (by omega) (by omega)];simp only[cl,fA];have:=qk g l (i+1) (v+g x) (by omega) λj y v hy=>h j y v (by simp[hy]);rw[show(v:Int)+(g x:Int)=((v+g x:Nat):Int) by omega,this];rw[PJ]
def uW{F:Int->α->Int->Option (gu Int ρ)}(g:α->Nat)(ok:α->Bool)(r:ρ):∀(l:List α) (i v:Nat),v+eC g l<=4611686018427387904->(∀j x (v:Int),x∈l->F j x v=if ok x=true then some (.next (fj .i64 v (g x)))else some (.ret r))->ft F l i (v:Int)=if l.all ok=true then some (.inl ((v+eC g l:Nat):Int))else some (.inr r)
 |[],i,v,_,_=>by simp[eC]|x::l,i,v,b,h=>by
  simp only[eC] at b|-;rw[fm,h i x v (by simp),fu (by omega) (by omega)];cases a:ok x with
  |false=>simp[a]|true=>
   simp only[if_true,cl,fA,xd,a,z8];have:=uW g ok r l (i+1) (v+g x) (by omega) λj y v hy=>h j y v (by simp[hy]);rw[show(v:Int)+(g x:Int)=((v+g x:Nat):Int) by omega,this,PJ]
def q9{F:Int->α->Unit->Option (gu Unit ρ)}(ok:α->Bool)(r:ρ):∀(l:List α) (i:Nat),(∀j x,x∈l->F j x ()=if ok x=true then some (.next ())else some (.ret r))->ft F l i ()=if l.all ok=true then some (.inl ())else some (.inr r)
 |[],i,_=>by simp|x::l,i,h=>by
  rw[fm,h i x (by simp)];cases a:ok x with
  |false=>simp[a]|true=>
   simp only[if_true,cl,fA,xd,a,z8];exact q9 ok r l (i+1) λj y hy=>h j y (by simp[hy])
def hE:List Int->Int
 |[]=>0|e::l=>if e=0 then hE l else e
def lj{F:Int->α->Unit->Option (gu Unit Int)}(e:α->Int):∀(l:List α) (i:Nat),(∀j x,x∈l->F j x ()=if e x≠0 then some (.ret (e x))else some (.next ()))->ft F l i ()=if hE (l.map e)=0 then some (.inl ())else some (.inr (hE (l.map e)))
 |[],i,_=>by simp[hE]|x::l,i,h=>by
  rw[fm,h i x (by simp)]
  by_cases he:e x=0
  ·simp only[he,hE,zf,ne_eq,SO,pE,cl,fA,if_true];exact lj e l (i+1) λj y hy=>h j y (by simp[hy])
  ·simp[he,hE]
def vd(p:α->β->Bool):List α->List β->Bool
 |x::l,y::m=>p x y&&vd p l m|[],[]=>true|_,_=>false
def wL{F:Int->α->Unit->Option (gu Unit Bool)}(p:α->β->Bool)(M:List β):∀(l:List α) (i:Nat) (m:List β),m=M.drop i->l.length=m.length->(∀(k:Nat) x y,x∈l->M[k]?=some y->F (k:Int) x ()=if p x y=true then some (.next ())else some (.ret false))->ft F l i ()=if vd p l m=true then some (.inl ())else some (.inr false)
 |[],i,m,_,d,_=>by
  cases m with
  |nil=>simp[vd]|cons y m=>simp at d
 |x::l,i,m,hm,d,h=>by
  cases m with
  |nil=>simp at d
  |cons y m=>
   have c:i<M.length:=by
    rcases sA i M.length with h'|h'
    ·exact h'
    ·rw[Hh h'] at hm;cases hm
   rw[Lm c] at hm;injection hm with f g;rw[fm,h i x y (by simp) (by simp[c,f])];cases e:p x y with
   |false=>simp[vd,e]|true=>
    simp only[if_true,cl,fA,vd,e,z8];exact wL p M l (i+1) m g (by simpa using d) λk a b j n=>h k a b (by simp[j]) n
def xi(p:α->α->Bool):∀(l m:List α),(∀x∈l,∀y,p x y=true↔x=y)->(vd p l m=true↔l=m)
 |[],[],_=>by simp[vd]|[],_::_,_=>by simp[vd]|_::_,[],_=>by simp[vd]|x::l,y::m,h=>by simp[vd,h x (by simp) y,xi p l m λa b=>h a (by simp[b])]
def uG{F:σ->Option (gu σ ρ)}(I:σ->Prop)(μ:σ->Nat)(Q:σ⊕ρ->Prop)
  (h:∀s,I s->(∃a,F s=some (.next a)/\I a/\μ a<μ s)\/(∃a,F s=some (.DQ a)/\Q (.inl a))\/(∃r,F s=some (.ret r)/\Q (.inr r))):∀(n:Nat) (s:σ),I s->μ s<n->∃o,oH F n s=some o/\Q o
 |0,s,_,hn=>by omega|n+1,s,hs,hn=>by
  rw[nP];rcases h s hs with⟨a,b,c,d⟩|⟨a,b,c⟩|⟨r,b,c⟩
  ·rw[b];simp only[cl,fA];exact uG I μ Q h n a c (by omega)
  ·rw[b];exact⟨_,rfl,c⟩
  ·rw[b];exact⟨_,rfl,c⟩
def Uq{n:Nat}(h:n<1000000000):n<FU:=by rw[fy];exact h
end
end Go.hJ
namespace Go.hJ
open Go
mutual
def Ty.abc:Ty->Nat
 |.mk _ l=>1+Ty.oy l
def Ty.oy:List Ty->Nat
 |[]=>0|t::l=>t.abc+Ty.oy l
end
def Ty.rM(l:List Ty):Ty.oy l=eC Ty.abc l:=by
 induction l with
 |nil=>rfl|cons t l a=>simp[Ty.oy,eC,a]
def Ty.ef(k:Int)(l:List Ty):(Ty.mk k l).abc=1+eC Ty.abc l:=by rw[Ty.abc,Ty.rM]
def Ty.eQ(t:Ty):1<=t.abc:=by cases t;rw[Ty.abc];omega
def Ty.fQ(l:List Ty):l.length<=eC Ty.abc l:=iu _ _ λt _=>t.eQ
def Ty.want(k:Int):Option Nat:=if k=1\/k=2\/k=5 then some 0 else if k=3\/k=4 then some 2 else none
mutual
def Ty.ok:Ty->Bool
 |.mk k l=>decide (Ty.want k=some l.length)&&Ty.Iu l
def Ty.Iu:List Ty->Bool
 |[]=>true|t::l=>t.ok&&Ty.Iu l
end
def Ty.zo(l:List Ty):Ty.Iu l=l.all Ty.ok:=by
 induction l with
 |nil=>rfl|cons t l a=>simp[Ty.Iu,a]
def Ty.hY(k:Int)(l:List Ty):(Ty.mk k l).ok=(decide (Ty.want k=some l.length)&&l.all Ty.ok):=by rw[Ty.ok,Ty.zo]
def Ty.err(t:Ty):Int:=if t.ok=true then(if 64<t.abc then 4 else 0)else 2
def HZ:∀(n:Nat) (t:Ty),t.abc<=n->t.abc<=1000000000->iJ n t=some t:=by
 intro n
 induction n with
 |zero=>intro t h;have:=t.eQ;omega
 |succ n a=>
  intro t h b;cases t with
  |mk k l=>
   rw[Ty.ef] at h b;have e:=Ty.fQ l;rw[iJ];simp only[Ty.eG,Ty.eN,ey,eE (l:=l) (by omega),eo];rw[iT id l 0 [] (by simp;omega)]
   ·simp
   ·intro j x v c d;have:=eL Ty.abc c;rw[a x (by omega) (by omega)];simp[fl (l:=v) (m:=[x]) (by simpa using d)]
def ja{t:Ty}(h:t.abc<=1000000000):iJ FU t=some t:=HZ FU t (by rw[fy];exact h) h
def BS:∀(n:Nat) (t:Ty),t.abc<=n->t.abc<=1000000000->lH n t=some (if t.ok=true then((t.abc:Int),true)else(0,false)):=by
 intro n
 induction n with
 |zero=>intro t h;have:=t.eQ;omega
 |succ n p=>
  intro t h q;cases t with
  |mk k l=>
   rw[Ty.ef] at h q;have u:=Ty.fQ l
   have key:ft (λ(i:Int) (c:Ty) (d:Int)=>ei (lH n c) λe f=>if f=true then some (gu.next (fj .i64 d e))else some (gu.ret ((0:Int),false))) l 0 1=if l.all Ty.ok=true then some (.inl ((1+eC Ty.abc l:Nat):Int))else some (.inr (0,false)):=by
    refine uW Ty.abc Ty.ok _ l 0 1 (by omega) ?_;intro j x v r;have:=eL Ty.abc r;rw[p x (by omega) (by omega)];cases x.ok<;>simp
   rw[lH];simp only[Ty.eG,Ty.eN,ey,eE (l:=l) (by omega),eo,key,l7,p8,gB,eA,fO,Ty.hY,Ty.ef,Ty.want]
   by_cases m:k=1\/k=2\/k=5
   ·simp only[m,if_true]
    by_cases b:l=[]
    ·subst b;simp[eC]
    ·have:¬(0=l.length):=by cases l with|nil=>exact absurd rfl b|cons a l=>simp
     have g:(l.length:Int)≠0:=by omega
     simp[this,g,b]
   ·simp only[m,pE]
    by_cases b:k=3\/k=4
    ·simp only[b,if_true]
     by_cases g:l.length=2
     ·cases o:l.all Ty.ok<;>simp[g]
     ·have o:(l.length:Int)≠2:=by omega
      have s:¬2=l.length:=by omega
      simp[o,s]
    ·simp[b]
def lV{t:Ty}(h:t.abc<=1000000000):jy t=some (if t.err=0 then(t.abc:Int)else 0,t.err):=by
 unfold jy Ty.err;rw[BS FU t (by rw[fy];exact h) h];cases t.ok with
 |false=>simp|true=>
  by_cases a:64<t.abc
  ·simp[a];omega
  ·simp[a];omega
def y'{t:Ty}(h:t.abc<=1000000000):mE t=some t.err:=by
 unfold mE;rw[lV h];rfl
def Ty.rq(t:Ty):Bool:=fU (eH t.aba 0) (eH (eM t.abb) 0) false
def Ty.mL(t:Ty):t.rq=true↔t=.mk 0 []:=by
 cases t with
 |mk k l=>unfold Ty.rq;simp
def sj(t:Ty):oK t=some t.rq:=rfl
def wD(t:Ty):p_ t=some t.rq:=rfl
def GN:∀(n:Nat) (t:Ty),t.abc<=n->t.abc<=1000000000->oD n t=some t.ok:=by
 intro n
 induction n with
 |zero=>intro t h;have:=t.eQ;omega
 |succ n m=>
  intro t h o;cases t with
  |mk k l=>
   rw[Ty.ef] at h o;have r:=Ty.fQ l
   have key:ft (λ(f:Int) (c:Ty) (_:Unit)=>cv (oD n c) λd=>if d=true then some (gu.next ())else some (gu.ret false)) l 0 ()=if l.all Ty.ok=true then some (.inl ())else some (.inr false):=by
    refine q9 Ty.ok _ l 0 ?_;intro j x p;have:=eL Ty.abc p;rw[m x (by omega) (by omega)];rfl
   rw[oD];simp only[Ty.eG,Ty.eN,ey,eE (l:=l) (by omega),eo,key,l7,p8,gB,eA,fO,Ty.hY,Ty.want]
   by_cases g:k=1\/k=2\/k=5
   ·simp only[g,if_true]
    by_cases b:l=[]
    ·subst b;simp
    ·have:¬(0=l.length):=by cases l with|nil=>exact absurd rfl b|cons a l=>simp
     have e:(l.length:Int)≠0:=by omega
     simp[this,e,b]
   ·simp only[g,pE]
    by_cases b:k=3\/k=4
    ·simp only[b,if_true]
     by_cases e:l.length=2
     ·cases i:l.all Ty.ok<;>simp[e]
     ·have i:(l.length:Int)≠2:=by omega
      have q:¬2=l.length:=by omega
      simp[i,q]
    ·simp[b]
def Hq:∀(n:Nat) (t:Ty),t.abc<=n->t.abc<=1000000000->pT n t=some (t.abc:Int):=by
 intro n
 induction n with
 |zero=>intro t h;have:=t.eQ;omega
 |succ n a=>
  intro t h b;cases t with
  |mk k l=>
   rw[Ty.ef] at h b;have d:=Ty.fQ l;rw[pT];simp only[Ty.eG,ey,eE (l:=l) (by omega),eo]
   have key:=qk (ρ:=Int) (F:=λ(j:Int) (x:Ty) (v:Int)=>cv (pT n x) λy=>some (gu.next (fj .i64 v y))) Ty.abc l 0 1 (by omega) (by
    intro j x v c;have:=eL Ty.abc c;rw[a x (by omega) (by omega)]
    rfl)
   rw[show(1:Int)=((1:Nat):Int)from rfl,key];simp[Ty.ef]
def mO{t:Ty}(h:t.abc<=1000000000):jw t=some t.err:=by
 unfold jw Ty.err;rw[GN FU t (by rw[fy];exact h) h,Hq FU t (by rw[fy];exact h) h];cases t.ok with
 |false=>simp|true=>by_cases a:64<t.abc<;>simp[a]<;>omega
def wC:∀(n:Nat) (a b:Ty),a.abc<=n->a.abc<=1000000000->∃r,fP n a b=some r/\(r=true↔a=b):=by
 intro n
 induction n with
 |zero=>intro t b h;have:=t.eQ;omega
 |succ n q=>
  intro a b h s;cases a with
  |mk k l=>
  cases b with
  |mk k' m=>
   rw[Ty.ef] at h s;have u:=Ty.fQ l;rw[fP];simp only[Ty.eG,Ty.eN,ey,eE (l:=l) (by omega),eo,l7,p8,eA,fO]
   by_cases d:k≠k'\/(l.length:Int)≠m.length
   ·rw[ee d];refine⟨false,rfl,?_⟩;simp only[tp,Jl,Ty.mk.injEq,not_and];rintro rfl rfl;simp at d
   ·rw[ea d];simp only[not_or,y8] at d;obtain⟨rfl,hlen⟩:=d
    have c:l.length=m.length:=by omega
    let p:Ty->Ty->Bool:=λx y=>(fP n x y).getD false
    have i:∀x∈l,∀y,fP n x y=some (p x y)/\(p x y=true↔x=y):=by
     intro x f y;have:=eL Ty.abc f;obtain⟨r,o,g⟩:=q x y (by omega) (by omega)
     have e:p x y=r:=by show(fP n x y).getD false=r;rw[o];rfl
     rw[e];exact⟨o,g⟩
    have key:=wL (F:=λ(j:Int) (x:Ty) (_:Unit)=>cv (eI m j) λy=>cv (fP n x y) λz=>if z=true then some (gu.next ())else some (gu.ret false)) p m l 0 m rfl c (by
     intro k x y f hy;rw[jJ,hy];simp only[cl];rw[(i x f y).1]
     rfl)
    rw[key];have he:=xi p l m λx f y=>(i x f y).2;cases g:vd p l m with
    |false=>exact⟨false,rfl,by rw[g] at he;simpa using he⟩
    |true=>exact⟨true,rfl,by rw[g] at he;simpa using he⟩
noncomputable def Ty.nx (a b:Ty):Bool:=@decide (a=b) (Classical.propDecidable _)
def Ty.lX(a b:Ty):a.nx b=true↔a=b:=by unfold Ty.nx;simp
def jb{a b:Ty}(h:a.abc<=1000000000):fP FU a b=some (a.nx b):=by
 obtain⟨r,c,d⟩:=wC FU a b (by rw[fy];exact h) h;rw[c]
 congr 1
 rw[By,d,Ty.lX]
mutual
def Tm.abc:Tm->Nat
 |.mk _ _ _ l=>1+Tm.oy l
def Tm.oy:List Tm->Nat
 |[]=>0|t::l=>t.abc+Tm.oy l
end
def Tm.rM(l:List Tm):Tm.oy l=eC Tm.abc l:=by
 induction l with
 |nil=>rfl|cons t l a=>simp[Tm.oy,eC,a]
def Tm.ef(k i:Int)(s:Ty)(l:List Tm):(Tm.mk k i s l).abc=1+eC Tm.abc l:=by rw[Tm.abc,Tm.rM]
def Tm.eQ(t:Tm):1<=t.abc:=by cases t;rw[Tm.abc];omega
def Tm.fQ(l:List Tm):l.length<=eC Tm.abc l:=iu _ _ λt _=>t.eQ
mutual
def Tm.wt:Tm->Nat
 |.mk _ _ s l=>1+s.abc+Tm.M9 l
def Tm.M9:List Tm->Nat
 |[]=>0|t::l=>t.wt+Tm.M9 l
end
def Tm.DD(l:List Tm):Tm.M9 l=eC Tm.wt l:=by
 induction l with
 |nil=>rfl|cons t l a=>simp[Tm.M9,eC,a]
def Tm.fI(k i:Int)(s:Ty)(l:List Tm):(Tm.mk k i s l).wt=1+s.abc+eC Tm.wt l:=by rw[Tm.wt,Tm.DD]
def Tm.jt(t:Tm):1<=t.wt:=by cases t;rw[Tm.wt];omega
def Tm.oo(l:List Tm):l.length<=eC Tm.wt l:=iu _ _ λt _=>t.jt
def kJ{α:Type}{f g:α->Nat}{l:List α}(h:∀x∈l,f x<=g x):eC f l<=eC g l:=by
 induction l with
 |nil=>simp[eC]|cons x l a=>simp only[eC];have:=h x (by simp);have:=a λy hy=>h y (by simp[hy]);omega
def qm{α β:Type}(f:β->Nat)(g:α->β)(l:List α):eC f (l.map g)=eC (λx=>f (g x)) l:=by
 induction l with
 |nil=>rfl|cons x l a=>simp[eC,a]
def ri{α:Type}{f g:α->Nat}{l:List α}(h:∀x∈l,f x=g x):eC f l=eC g l:=by
 induction l with
 |nil=>rfl|cons x l a=>simp[eC,h x (by simp),a λy hy=>h y (by simp[hy])]
def Eo{α:Type}(f:α->Nat)(l m:List α):eC f (l++m)=eC f l+eC f m:=by
 induction l with
 |nil=>simp[eC]|cons x l a=>simp[eC,a];omega
def Tm.ind{p:Tm->Prop}(h:∀k i s l,(∀t∈l,p t)->p (.mk k i s l))(t:Tm):p t:=by
 have:∀n (t:Tm),t.abc<=n->p t:=by
  intro n
  induction n with
  |zero=>intro t a;have:=t.eQ;omega
  |succ n b=>
   intro t a;cases t with
   |mk k i s l=>
    rw[Tm.ef] at a;exact h k i s l λu hu=>b u (by have:=eL Tm.abc hu;omega)
 exact this _ t (jh _)
def Tm.iO(t:Tm):t.abc<=t.wt:=by
 induction t using Tm.ind with
 |h k i s l a=>rw[Tm.ef,Tm.fI];have:=kJ a;omega
def kv(k:Int):Bool:=decide (k=2\/k=6\/k=9)
def iI(k:Int):Int:=
 if k=1\/k=4\/k=7\/k=13 then 0 else if k=2\/k=5\/k=11\/k=12 then 1 else if k=3\/k=8\/k=10 then 2 else if k=6\/k=9 then 3 else-1
def Tm.node(k i:Int)(s:Ty)(n:Nat):Bool:=
 decide ((n:Int)=iI k)&&decide (0<=i)&&(decide (k=1)||decide (i=0))&&(if kv k=true then decide (s.err=0)else s.rq)
mutual
def Tm.ok:Tm->Bool
 |.mk k i s l=>Tm.node k i s l.length&&Tm.Iu l
def Tm.Iu:List Tm->Bool
 |[]=>true|t::l=>t.ok&&Tm.Iu l
end
def Tm.zo(l:List Tm):Tm.Iu l=l.all Tm.ok:=by
 induction l with
 |nil=>rfl|cons t l a=>simp[Tm.Iu,a]
def Tm.hY(k i:Int)(s:Ty)(l:List Tm):(Tm.mk k i s l).ok=(Tm.node k i s l.length&&l.all Tm.ok):=by rw[Tm.ok,Tm.zo]
def Tm.err(t:Tm):Int:=if t.ok=true then(if 4096<t.abc then 4 else 0)else 2
def Ir:∀(n:Nat) (t:Tm),t.wt<=n->t.wt<=1000000000->jA n t=some t:=by
 intro n
 induction n with
 |zero=>intro t h;have:=t.jt;omega
 |succ n a=>
  intro t h b;cases t with
  |mk k i s l=>
   rw[Tm.fI] at h b;have e:=Tm.oo l;rw[jA];simp only[Tm.eG,Tm.eN,Tm.gy,Tm.fv,ey,eE (l:=l) (by omega),eo];rw[iT id l 0 [] (by simp;omega)]
   ·simp[ja (t:=s) (by omega)]
   ·intro j x v c d;have:=eL Tm.wt c;rw[a x (by omega) (by omega)];simp[fl (l:=v) (m:=[x]) (by simpa using d)]
def nH{t:Tm}(h:t.wt<=1000000000):jA FU t=some t:=Ir FU t (by rw[fy];exact h) h
def pS(k:Int)(l:List Tm)(h:eC Tm.wt l<=1000000000):gn k l=some (Tm.mk k 0 (.mk 0 []) l):=by
 have c:=Tm.oo l;unfold gn;simp only[ey,eE (l:=l) (by omega),eo];rw[iT id l 0 [] (by simp;omega)]
 ·simp
 ·intro j x v a b;have:=eL Tm.wt a;rw[nH (t:=x) (by omega)];simp[fl (l:=v) (m:=[x]) (by simpa using b)]
def Gt(k:Int)(s:Ty)(l:List Tm)(hs:s.abc<=1000000000)(h:eC Tm.wt l<=1000000000):lU k s l=some (Tm.mk k 0 s l):=by
 unfold lU;rw[pS k l h];simp[ja hs]
def HY(k:Int):vy k=some (iI k):=by
 unfold vy iI;simp only[l7,p8,gB]
 split<;>(try rfl)
 split<;>(try rfl)
 split<;>(try rfl)
 split<;>rfl
def oe:∀(n:Nat) (t:Tm),t.abc<=n->t.abc<=1000000000->gh n t=some (t.abc:Int):=by
 intro n
 induction n with
 |zero=>intro t h;have:=t.eQ;omega
 |succ n a=>
  intro t h b;cases t with
  |mk k i s l=>
   rw[Tm.ef] at h b;have d:=Tm.fQ l;rw[gh];simp only[Tm.eG,ey,eE (l:=l) (by omega),eo]
   have key:=qk (ρ:=Int) (F:=λ(j:Int) (x:Tm) (v:Int)=>cv (gh n x) λy=>some (gu.next (fj .i64 v y))) Tm.abc l 0 1 (by omega) (by
    intro j x v c;have:=eL Tm.abc c;rw[a x (by omega) (by omega)]
    rfl)
   rw[show(1:Int)=((1:Nat):Int)from rfl,key];simp[Tm.ef]
def zt:∀(n:Nat) (t:Tm),t.wt<=n->t.wt<=1000000000->ku n t=some t.ok:=by
 intro n
 induction n with
 |zero=>intro t h;have:=t.jt;omega
 |succ n p=>
  intro t h q;cases t with
  |mk k i s l=>
   rw[Tm.fI] at h q;have z:=Tm.oo l
   have key:ft (λ(f:Int) (a:Tm) (_:Unit)=>cv (ku n a) λb=>if b=true then some (gu.next ())else some (gu.ret false)) l 0 ()=if l.all Tm.ok=true then some (.inl ())else some (.inr false):=by
    refine q9 Tm.ok _ l 0 ?_;intro j x r;have:=eL Tm.wt r;rw[p x (by omega) (by omega)];rfl
   rw[ku]
   simp only[Tm.eG,Tm.eN,Tm.gy,Tm.fv,ey,eE (l:=l) (by omega),eo,key,l7,p8,gB,eA,lS,fO,Tm.hY,HY,cl,mO (t:=s) (by omega),wD]
   by_cases d:(l.length:Int)=iI k
   ·by_cases g:i<0
    ·have:¬0<=i:=by omega
     simp[d,g,Tm.node,this]
    ·have u:0<=i:=by omega
     by_cases m:k=1
     ·subst m;cases c:s.rq<;>cases e:l.all Tm.ok<;>simp_all [Tm.node,kv]
     ·by_cases c:i=0
      ·subst c;have o:eW 0 0=false:=rfl
       by_cases e:k=2\/k=6\/k=9
       ·have v:kv k=true:=by simp[kv,e]
        by_cases w:s.err=0<;>cases y:l.all Tm.ok<;>simp_all [Tm.node]
       ·have v:kv k=false:=by simp[kv,e]
        cases w:s.rq<;>cases y:l.all Tm.ok<;>simp_all [Tm.node]
      ·have o:eW i 0=true:=by simp[c]
       simp[d,g,m,c,o,Tm.node]
   ·simp[d,Tm.node]
def mQ{t:Tm}(h:t.wt<=1000000000):lQ t=some t.err:=by
 have:=t.iO;unfold lQ Tm.err;rw[zt FU t (by rw[fy];exact h) h,oe FU t (by rw[fy];omega) (by omega)];cases t.ok with
 |false=>simp|true=>by_cases a:4096<t.abc<;>simp[a]<;>omega
def HB(k:Int):uS k=some (if 1<=k/\k<14 then(iI k,true)else(0,false)):=by
 unfold uS;simp only[l7,p8,lS,jk]
 by_cases h:k<1\/14<=k
 ·rw[ee h,ea (by omega)]
 ·rw[ea h,ee (by omega)]
  have:k=1\/k=2\/k=3\/k=4\/k=5\/k=6\/k=7\/k=8\/k=9\/k=10\/k=11\/k=12\/k=13:=by omega
  rcases this with rfl|rfl|rfl|rfl|rfl|rfl|rfl|rfl|rfl|rfl|rfl|rfl|rfl<;>rfl
def Hw(k:Int):uL k=some (kv k):=by
 unfold uL kv
 congr 1
 rw[By];simp
def Kl{k:Int}{n:Nat}(h:(n:Int)=iI k):1<=k/\k<14:=by
 unfold iI at h
 repeat' split at h
 all_goals omega
def vN:∀(n:Nat) (t:Tm),t.wt<=n->t.wt<=1000000000->jZ n t=some (if t.ok=true then((t.abc:Int),true)else(0,false)):=by
 intro n
 induction n with
 |zero=>intro t h;have:=t.jt;omega
 |succ n r=>
  intro t h u;cases t with
  |mk k i s l=>
   rw[Tm.fI] at h u;have D:=Tm.oo l;have hn:eC Tm.abc l<=eC Tm.wt l:=kJ λx _=>x.iO
   have key:ft (λ(o:Int) (a:Tm) (b:Int)=>ei (jZ n a) λc d=>if d=true then some (gu.next (fj .i64 b c))else some (gu.ret ((0:Int),false))) l 0 1=if l.all Tm.ok=true then some (.inl ((1+eC Tm.abc l:Nat):Int))else some (.inr (0,false)):=by
    refine uW Tm.abc Tm.ok _ l 0 1 (by omega) ?_;intro j x v w;have:=eL Tm.wt w;rw[r x (by omega) (by omega)];cases x.ok<;>simp
   rw[jZ];simp only[Tm.eG,Tm.eN,Tm.gy,Tm.fv,ey,eE (l:=l) (by omega),eo,key,Tm.hY,Tm.ef,HB,Hw,lV (t:=s) (by omega),sj,cl,eb]
   by_cases e:(l.length:Int)=iI k
   ·have f:=Kl e;simp only[f,and_self,if_true,eb,w7,l7,q_,p8,gL,eA,lS,fO,e,ne_eq,SO,false_or]
    by_cases p:i<0
    ·have:¬0<=i:=by omega
     simp[p,Tm.node,this]
    ·have y:0<=i:=by omega
     by_cases q:k=1
     ·subst q;cases g:s.rq<;>cases m:l.all Tm.ok<;>simp_all [Tm.node,kv]
     ·by_cases g:i=0
      ·subst g
       by_cases m:k=2\/k=6\/k=9
       ·have z:kv k=true:=by simp[kv,m]
        by_cases A:s.err=0<;>cases B:l.all Tm.ok<;>simp_all [Tm.node]
       ·have z:kv k=false:=by simp[kv,m]
        cases A:s.rq<;>cases B:l.all Tm.ok<;>simp_all [Tm.node]
      ·simp[p,q,g,Tm.node]
   ·have C:Tm.node k i s l.length=false:=by simp[Tm.node,e]
    simp only[C,UQ,tp,pE]
    by_cases f:1<=k/\k<14
    ·simp[f,e]
    ·simp[f]
def gC(k:Int):Int:=if k=2 then 1 else 0
def ly(k:Int):0<=gC k/\gC k<=1:=by unfold gC;split<;>omega
def ou(t:Tm):lN t=some (gC t.aba):=by
 unfold lN gC;simp only[gB]
 split<;>rfl
mutual
def Tm.up(f b:Int):Tm->Tm
 |.mk k i s l=>.mk k (if k=1/\f<=i then i+b else i) s (Tm.Ta (f+gC k) b l)
def Tm.Ta(f b:Int):List Tm->List Tm
 |[]=>[]|t::l=>t.up f b::Tm.Ta f b l
end
def Tm.NM(f b:Int)(l:List Tm):Tm.Ta f b l=l.map (Tm.up f b):=by
 induction l with
 |nil=>rfl|cons t l a=>simp[Tm.Ta,a]
def Tm.l0(f b k i:Int)(s:Ty)(l:List Tm):(Tm.mk k i s l).up f b=.mk k (if k=1/\f<=i then i+b else i) s (l.map (Tm.up (f+gC k) b)):=by rw[Tm.up,Tm.NM]
mutual
def Tm.abg(m:Int):Tm->Bool
 |.mk _ i _ l=>decide (i<=m)&&Tm.xO m l
def Tm.xO(m:Int):List Tm->Bool
 |[]=>true|t::l=>t.abg m&&Tm.xO m l
end
def Tm.CU(m:Int)(l:List Tm):Tm.xO m l=l.all (Tm.abg m):=by
 induction l with
 |nil=>rfl|cons t l a=>simp[Tm.xO,a]
def Tm.fT(m k i:Int)(s:Ty)(l:List Tm):(Tm.mk k i s l).abg m=(decide (i<=m)&&l.all (Tm.abg m)):=by rw[Tm.abg,Tm.CU]
mutual
def Tm.abi(a:Int):Tm->Nat
 |.mk k i _ l=>(if k=1/\i=a then 1 else 0)+Tm.xN (a+gC k) l
def Tm.xN(a:Int):List Tm->Nat
 |[]=>0|t::l=>t.abi a+Tm.xN a l
end
def Tm.Ds(a:Int)(l:List Tm):Tm.xN a l=eC (Tm.abi a) l:=by
 induction l with
 |nil=>rfl|cons t l b=>simp[Tm.xN,eC,b]
def Tm.gU(a k i:Int)(s:Ty)(l:List Tm):(Tm.mk k i s l).abi a=(if k=1/\i=a then 1 else 0)+eC (Tm.abi (a+gC k)) l:=by rw[Tm.abi,Tm.Ds]
def Tm.iZ(t:Tm):∀a,t.abi a<=t.abc:=by
 induction t using Tm.ind with
 |h k i s l b=>
  intro a;rw[Tm.gU,Tm.ef];have:=kJ (f:=Tm.abi (a+gC k)) (g:=Tm.abc) (l:=l) λx c=>b x c _
  split<;>omega
def Tm.vh(n i:Int)(s t:Tm):Tm:=if i=n then s.up 0 n else if n<i then .mk 1 (i-1) (.mk 0 []) [] else t
mutual
def Tm.m7:Int->Tm->Tm->Tm
 |n,.mk k i ty l,s=>if k=1 then Tm.vh n i s (.mk k i ty l)else .mk k i ty (Tm.JS (n+gC k) l s)
def Tm.JS:Int->List Tm->Tm->List Tm
 |_,[],_=>[]|n,t::l,s=>Tm.m7 n t s::Tm.JS n l s
end
def Tm.Kv(n:Int)(s:Tm)(l:List Tm):Tm.JS n l s=l.map (λx=>Tm.m7 n x s):=by
 induction l with
 |nil=>rfl|cons t l a=>simp[Tm.JS,a]
def Tm.nU(n:Int)(s:Tm)(k i:Int)(ty:Ty)(l:List Tm):Tm.m7 n (Tm.mk k i ty l) s=if k=1 then Tm.vh n i s (.mk k i ty l)else .mk k i ty (l.map (λx=>Tm.m7 (n+gC k) x s)):=by rw[Tm.m7,Tm.Kv]
def Tm.qV(t:Tm):∀f b,(t.up f b).abc=t.abc:=by
 induction t using Tm.ind with
 |h k i s l a=>
  intro f b;rw[Tm.l0,Tm.ef,Tm.ef,qm];rw[ri λx c=>a x c _ _]
def Tm.G4(t:Tm):∀f b,(t.up f b).wt=t.wt:=by
 induction t using Tm.ind with
 |h k i s l a=>
  intro f b;rw[Tm.l0,Tm.fI,Tm.fI,qm];rw[ri λx c=>a x c _ _]
def wk{α β:Type}{p:β->Bool}{q:α->Bool}{g:α->β}{l:List α}(h:∀x∈l,p (g x)=q x):(l.map g).all p=l.all q:=by
 induction l with
 |nil=>rfl|cons x l a=>simp only[zf,xd,h x (by simp),a λy hy=>h y (by simp[hy])]
def Tm.MK{k i j:Int}{s:Ty}{n:Nat}(h:k=1/\0<=i/\0<=j\/i=j):Tm.node k i s n=Tm.node k j s n:=by
 rcases h with⟨rfl,a,b⟩|rfl
 ·simp[Tm.node,a,b]
 ·rfl
def Tm.Je(t:Tm):∀f b,0<=f->0<=b->(t.up f b).ok=t.ok:=by
 induction t using Tm.ind with
 |h k i s l a=>
  intro f b e c;rw[Tm.l0,Tm.hY,Tm.hY,F8,wk λx d=>a x d (f+gC k) b (by have:=ly k;omega) c]
  congr 1
  apply Tm.MK
  split
  ·rename_i g;left;omega
  ·right;rfl
def zE:∀(n:Nat) (t:Tm) (m:Int),t.abc<=n->t.abc<=1000000000->kZ n t m=some (t.abg m):=by
 intro n
 induction n with
 |zero=>intro t m h;have:=t.eQ;omega
 |succ n e=>
  intro t m h f;cases t with
  |mk k i s l=>
   rw[Tm.ef] at h f;have o:=Tm.fQ l
   have key:ft (λ(c:Int) (a:Tm) (_:Unit)=>cv (kZ n a m) λb=>if b=true then some (gu.next ())else some (gu.ret false)) l 0 ()=if l.all (Tm.abg m)=true then some (.inl ())else some (.inr false):=by
    refine q9 (Tm.abg m) _ l 0 ?_;intro j x g;have:=eL Tm.abc g;rw[e x m (by omega) (by omega)];rfl
   rw[kZ];simp only[Tm.eG,Tm.gy,ey,eE (l:=l) (by omega),eo,key,gD,Tm.fT]
   by_cases d:m<i
   ·have:¬i<=m:=by omega
    simp[d,this]
   ·have:i<=m:=by omega
    cases p:l.all (Tm.abg m)<;>simp[d,this]
def zG:∀(n:Nat) (t:Tm) (f b:Int),t.abc<=n->t.abc<=1000000000->0<=f->f+t.abc<=10000000000->0<=b->b<=10000000000->t.abg 1000000000000=true->qg n t f b=some (t.up f b):=by
 intro n
 induction n with
 |zero=>intro t f b h;have:=t.eQ;omega
 |succ n q=>
  intro t f b h a z c r d hi;cases t with
  |mk k i s l=>
   rw[Tm.ef] at h a c;rw[Tm.fT] at hi;simp only[gL,ni,k4] at hi;have A:=Tm.fQ l;have B:=ly k;rw[qg];simp only[Tm.eG,Tm.gy,Tm.eN,Tm.fv,ey,eE (l:=l) (by omega),eo];rw[iT (Tm.up (f+gC k) b) l 0 [] (by simp;omega)]
   ·rw[Tm.l0];simp only[cl,en,oh,sH,Tm.mk.injEq,Pr,FK]
    by_cases g:k=1/\f<=i
    ·obtain⟨rfl,o⟩:=g;rw[fu (by omega) (by omega)];have u:eH 1 1=true:=rfl
     have w:tq i f=true:=by simp[o]
     simp[u,w,o]
    ·rw[ea g]
     have e:fU (eH k 1) (tq i f) false=false:=by
      rw[q_,MT];simp only[ne_eq,gL,gB,jk];exact g
     rw[e];rfl
   ·intro j x v p y;have:=eL Tm.abc p;rw[ou];simp only[cl,Tm.eN];rw[fu (by omega) (by omega),q x (f+gC k) b (by omega) (by omega) (by omega) (by omega) r d (hi.2 x p)];simp[fl (l:=v) (m:=[x.up (f+gC k) b]) (by simpa using y)]
def zH:∀(n:Nat) (t:Tm) (a:Int),t.abc<=n->t.abc<=1000000000->0<=a->a+t.abc<=10000000000->mz n t a=some (t.abi a:Int):=by
 intro n
 induction n with
 |zero=>intro t a h;have:=t.eQ;omega
 |succ n g=>
  intro t a h c q d;cases t with
  |mk k i s l=>
   rw[Tm.ef] at h c d;have r:=Tm.fQ l;have u:=ly k;have m:eC (Tm.abi (a+gC k)) l<=eC Tm.abc l:=kJ λx _=>x.iZ _;rw[mz];simp only[Tm.eG,Tm.gy,Tm.eN,ey,eE (l:=l) (by omega),eo]
   have o:fU (fU (eH k 1) (eH i a) false) (fj .i64 0 1) 0=(((if k=1/\i=a then 1 else 0:Nat)):Int):=by
    by_cases f:k=1/\i=a
    ·obtain⟨rfl,rfl⟩:=f;simp[eH,fU,fj,E9]
    ·have e:fU (eH k 1) (eH i a) false=false:=by
      rw[q_,MT];simp only[ne_eq,gL,gB];exact f
     rw[e,ea f];rfl
   have key:=qk (ρ:=Int) (F:=λ(j:Int) (x:Tm) (v:Int)=>cv (lN (Tm.mk k i s l)) λb=>cv (mz n x (fj .i64 a b)) λy=>some (gu.next (fj .i64 v y)))
    (Tm.abi (a+gC k)) l 0 (if k=1/\i=a then 1 else 0) (by split<;>omega) (by
    intro j x v p;have:=eL Tm.abc p;rw[ou];simp only[cl,Tm.eN];rw[fu (by omega) (by omega),g x _ (by omega) (by omega) (by omega) (by omega)]
    rfl)
   rw[o,key];simp[Tm.gU]
def DY:∀(n:Nat) (t:Tm) (a b:Int) (s:Tm),t.abc<=n->t.abc<=1000000000->0<=a->0<=b->a+b+t.abc<=5000000000->t.abg 1000000000000=true->t.ok=true->s.abc<=1000000000->s.abg 1000000000000=true->tK n t a b s=some (Tm.m7 (a+b) t s):=by
 intro n
 induction n with
 |zero=>intro t a b s h;have:=t.eQ;omega
 |succ n r=>
  intro t a b s h o u z p hi c hs d;cases t with
  |mk k i ty l=>
   rw[Tm.ef] at h o p;rw[Tm.fT] at hi;rw[Tm.hY] at c;simp only[gL,ni,k4] at hi c;have A:=Tm.fQ l;have B:=ly k
   have w:0<=i:=by
    have:=c.1;simp only[Tm.node,gL,ni] at this;exact this.1.1.2
   rw[tK,Tm.nU];simp only[Tm.eG,Tm.gy,Tm.eN,Tm.fv,ey,eE (l:=l) (by omega),eo,gB];rw[fu (by omega) (by omega)]
   by_cases e:k=1
   ·rw[ee e,ee e];unfold Tm.vh
    by_cases f:i=a+b
    ·rw[ee f,ee f,zG FU s 0 (a+b) (by rw[fy];exact hs) hs (by omega) (by omega) (by omega) (by omega) d];rfl
    ·rw[ea f,ea f];simp only[gD]
     by_cases g:a+b<i
     ·rw[ee g,ee g,fG (by omega) (by omega)];rfl
     ·rw[ea g,ea g]
   ·rw[ea e,ea e];rw[iT (λx=>Tm.m7 (a+b+gC k) x s) l 0 [] (by simp;omega)]
    ·simp
    ·intro j x v q y;have:=eL Tm.abc q;rw[ou];simp only[cl,Tm.eN];rw[fu (by omega) (by omega),r x a (b+gC k) s (by omega) (by omega) u (by omega) (by omega) (hi.2 x q) (c.2 x q) hs d];rw[show a+(b+gC k)=a+b+gC k by omega];simp[fl (l:=v) (m:=[Tm.m7 (a+b+gC k) x s]) (by simpa using y)]
def Tm.rP(s t:Tm):∀n,t.ok=true->(Tm.m7 n t s).abc+t.abi n=t.abc+t.abi n*s.abc:=by
 induction t using Tm.ind with
 |h k i ty l g=>
  intro n a;rw[Tm.hY] at a;simp only[gL,k4] at a;rw[Tm.nU,Tm.gU,Tm.ef]
  by_cases d:k=1
  ·subst d
   have j:l=[]:=by
    have:=a.1;simp only[Tm.node,gL,ni] at this;have h:=this.1.1.1;simp[iI] at h;exact h
   subst j;simp only[if_true,Tm.vh,eC,Gs,FK]
   by_cases e:i=n
   ·simp[e,Tm.qV];omega
   ·by_cases m:n<i<;>simp[e,m,Tm.ef,eC]
  ·simp only[d,pE,false_and,vt];rw[Tm.ef,qm]
   have:eC (λx=>(Tm.m7 (n+gC k) x s).abc) l+eC (Tm.abi (n+gC k)) l=eC Tm.abc l+eC (Tm.abi (n+gC k)) l*s.abc:=by
    have b:∀x∈l,(Tm.m7 (n+gC k) x s).abc+x.abi (n+gC k)=x.abc+x.abi (n+gC k)*s.abc:=λx c=>g x c _ (a.2 x c);clear g a
    induction l with
    |nil=>simp[eC]|cons y l f=>
     have d:=b y (by simp);have e:=f λx c=>b x (by simp[c]);simp only[eC,Au];omega
   omega
def Tm.R4(s:Tm)(hs:s.ok=true)(t:Tm):∀n,0<=n->t.ok=true->(Tm.m7 n t s).ok=true:=by
 induction t using Tm.ind with
 |h k i ty l g=>
  intro n hn a;have b:=a;rw[Tm.hY] at a;simp only[gL,k4] at a;rw[Tm.nU]
  by_cases d:k=1
  ·subst d;simp only[if_true,Tm.vh]
   by_cases c:i=n
   ·simp only[c,if_true];rw[Tm.Je s 0 n (by omega) hn];exact hs
   ·by_cases e:n<i
    ·simp only[c,e,pE,if_true];rw[Tm.hY]
     have j:1<=i:=by omega
     simp[Tm.node,iI,kv,j,Ty.rq,eH]
    ·simp only[c,e,pE];exact b
  ·simp only[d,pE];rw[Tm.hY,F8];simp only[gL,k4,od];refine⟨a.1,?_⟩;rintro _ ⟨x,f,rfl⟩;exact g x f _ (by have:=ly k;omega) (a.2 x f)
mutual
def Tm.fr:Tm->Int
 |.mk k i _ l=>if k=1 then i+1 else if k=2 then imax 0 (Tm.Ha 0 l-1)else Tm.Ha 0 l
def Tm.Ha(m:Int):List Tm->Int
 |[]=>m|t::l=>Tm.Ha (imax m t.fr) l
end
def tn(a b:Int):imax a b=max a b:=by unfold imax;omega
def Tm.MM(l:List Tm):∀m,m<=Tm.Ha m l:=by
 induction l with
 |nil=>intro m;exact Int.le_refl _|cons t l a=>intro m;rw[Tm.Ha];have:=a (imax m t.fr);rw[tn] at*;omega
def Tm.S7{l:List Tm}{t:Tm}(h:t∈l):∀m,t.fr<=Tm.Ha m l:=by
 induction l with
 |nil=>cases h
 |cons u l a=>
  intro m;rw[Tm.Ha];rcases lF.1 h with rfl|h
  ·have:=Tm.MM l (imax m t.fr);rw[tn] at*;omega
  ·exact a h _
def Tm.QU{M:Int}{l:List Tm}(h:∀t∈l,t.fr<=M):∀m,m<=M->Tm.Ha m l<=M:=by
 induction l with
 |nil=>intro m hm;exact hm|cons u l a=>
  intro m hm;rw[Tm.Ha];refine a (λt b=>h t (by simp[b])) _ ?_;have:=h u (by simp);rw[tn];omega
def Tm.Qt(t:Tm):∀{M:Int},0<=M->t.ok=true->t.abg M=true->0<=t.fr/\t.fr<=M+1:=by
 induction t using Tm.ind with
 |h k i s l d=>
  intro M e a b;rw[Tm.hY] at a;rw[Tm.fT] at b;simp only[gL,k4,ni,Tm.node] at a b;have f:Tm.Ha 0 l<=M+1:=Tm.QU (λt c=>(d t c e (a.2 t c) (b.2 t c)).2) 0 (by omega);have g:=Tm.MM l 0;rw[Tm.fr]
  split
  ·omega
  ·split
   ·rw[tn];omega
   ·omega
def map_id'{α:Type}{g:α->α}{l:List α}(h:∀x∈l,g x=x):l.map g=l:=by
 induction l with
 |nil=>rfl|cons x l a=>simp only[zf,h x (by simp),a λy hy=>h y (by simp[hy])]
def Tm.l6{k i:Int}{s:Ty}{l:List Tm}(h:(Tm.mk k i s l).ok=true):(k=1->l=[])/\0<=i/\(k≠1->i=0)/\(∀t∈l,t.ok=true)/\(l.length:Int)=iI k:=by
 rw[Tm.hY] at h;simp only[gL,k4,ni,Tm.node,p8] at h;obtain⟨⟨⟨⟨a,b⟩,c⟩,f⟩,d⟩:=h;refine⟨?_,b,λe=>c.resolve_left e,d,a⟩;rintro rfl;have:(l.length:Int)=0:=a;exact BB (by omega)
def Tm.Jf{k i:Int}{s:Ty}{l:List Tm}(a:k≠1){f:Int}(h:(Tm.mk k i s l).fr<=f)(c:0<=f):∀x∈l,x.fr<=f+gC k:=by
 intro x b;have:=Tm.S7 b 0;rw[Tm.fr,ea a] at h;unfold gC
 split at h
 ·rename_i a;rw[ee a];rw[tn] at h;omega
 ·rename_i a;rw[ea a];omega
def Tm.Tt(t:Tm):∀f b,t.ok=true->0<=f->t.fr<=f->t.up f b=t:=by
 induction t using Tm.ind with
 |h k i s l d=>
  intro f b e g h;obtain⟨o1,o2,m,j,_⟩:=Tm.l6 e;rw[Tm.l0]
  by_cases a:k=1
  ·have:=o1 a;subst this;rw[Tm.fr,ee a] at h;rw[ea (by omega)];rfl
  ·rw[ea (λh=>a h.1)]
   congr 1
   exact map_id' λx c=>d x c _ _ (j x c) (by have:=ly k;omega) (Tm.Jf a h g x c)
def Tm.xL(t:Tm):∀f,t.up f 0=t:=by
 induction t using Tm.ind with
 |h k i s l a=>
  intro f;rw[Tm.l0,map_id' λx b=>a x b _]
  congr 1
  split<;>omega
def Tm.Rh(s t:Tm):∀n,t.ok=true->0<=n->t.fr<=n->Tm.m7 n t s=t:=by
 induction t using Tm.ind with
 |h k i ty l c=>
  intro n d hn h;obtain⟨o1,o2,f,e,_⟩:=Tm.l6 d;rw[Tm.nU]
  by_cases a:k=1
  ·rw[ee a];rw[Tm.fr,ee a] at h;unfold Tm.vh;rw[ea (by omega),ea (by omega)]
  ·rw[ea a]
   congr 1
   exact map_id' λx b=>c x b _ (e x b) (by have:=ly k;omega) (Tm.Jf a h hn x b)
def OG{α:Type}{g:α->Nat}{l:List α}(h:∀x∈l,g x=0):eC g l=0:=by
 induction l with
 |nil=>rfl|cons x l a=>simp[eC,h x (by simp),a λy hy=>h y (by simp[hy])]
def Tm.NQ(t:Tm):∀n,t.ok=true->0<=n->t.fr<=n->t.abi n=0:=by
 induction t using Tm.ind with
 |h k i ty l c=>
  intro n d hn h;obtain⟨o1,o2,f,e,_⟩:=Tm.l6 d;rw[Tm.gU]
  by_cases a:k=1
  ·have:=o1 a;subst this;rw[Tm.fr,ee a] at h;rw[ea (by omega)];rfl
  ·rw[ea (λh=>a h.1)];simp only[vt];exact OG λx b=>c x b _ (e x b) (by have:=ly k;omega) (Tm.Jf a h hn x b)
def Tm.kd:Option Tm->Int
 |some t=>t.aba|none=>0
def Tm.root:Tm->Bool
 |.mk k _ _ l=>(decide (k=3)&&decide (Tm.kd l[0]?=2))||(decide (k=6)&&(decide (Tm.kd l[2]?=4)||decide (Tm.kd l[2]?=5)))||(decide (k=9)&&(decide (Tm.kd l[2]?=7)||decide (Tm.kd l[2]?=8)))||
  ((decide (k=11)||decide (k=12))&&decide (Tm.kd l[0]?=10))
mutual
def Tm.nf:Tm->Bool
 |.mk k i s l=>!(Tm.mk k i s l).root&&Tm.ZA l
def Tm.ZA:List Tm->Bool
 |[]=>true|t::l=>t.nf&&Tm.ZA l
end
def Tm.Vh(l:List Tm):Tm.ZA l=l.all Tm.nf:=by
 induction l with
 |nil=>rfl|cons t l a=>simp[Tm.ZA,a]
def Tm.Ot(k i:Int)(s:Ty)(l:List Tm):(Tm.mk k i s l).nf=(!(Tm.mk k i s l).root&&l.all Tm.nf):=by rw[Tm.nf,Tm.Vh]
def mh(f:Tm):List Tm->Tm
 |[]=>f|a::l=>mh (.mk 3 0 (.mk 0 []) [f,a]) l
def Tm.gl:Tm->Tm
 |.mk k i s l=>
  if k=3 then(match l with|[.mk _ _ _ [b],a]=>Tm.m7 0 b a|_=>.mk k i s l)
  else if k=11 then(match l with|[.mk _ _ _ (a::_)]=>a|_=>.mk k i s l)
  else if k=12 then(match l with|[.mk _ _ _ [_,b]]=>b|_=>.mk k i s l)
  else(match l with
   |[b,st,.mk _ _ _ []]=>b|[b,st,.mk _ _ _ [n]]=>mh st [n,.mk k i s [b,st,n]]|[b,st,.mk _ _ _ [h,t]]=>mh st [h,t,.mk k i s [b,st,t]]|_=>.mk k i s l)
mutual
inductive NR (nh:List HC):Nat->Tm->Prop
 |mk {p:Nat} {x:eR} {l:List Tm}:HC.er nh p=some x->uC nh x.abb l->x.size=((Tm.mk x.aba x.abd x.pF l).abc:Int)->x.free=(Tm.mk x.aba x.abd x.pF l).fr->(x.normal=true->(Tm.mk x.aba x.abd x.pF l).nf=true)->NR nh p (.mk x.aba x.abd x.pF l)
inductive uC (nh:List HC):List (Option Nat)->List Tm->Prop
 |nil:uC nh [] []|cons {p:Nat} {t:Tm} {ps:List (Option Nat)} {ts:List Tm}:NR nh p t->uC nh ps ts->uC nh (some p::ps) (t::ts)
end
def NR.inv{nh:List HC}{p:Nat}{t:Tm}(h:NR nh p t):∃x,HC.er nh p=some x/\x.aba=t.aba/\x.abd=t.abd/\x.pF=t.dv/\uC nh x.abb t.abb/\x.size=(t.abc:Int)/\x.free=t.fr/\(x.normal=true->t.nf=true):=by
 cases h with
 |mk a b c d e=>exact⟨_,a,rfl,rfl,rfl,b,c,d,e⟩
def NR.of{nh:List HC}{p:Nat}{t:Tm}{x:eR}(e:HC.er nh p=some x)(a:x.aba=t.aba)(b:x.abd=t.abd)(c:x.pF=t.dv)(d:uC nh x.abb t.abb)(f:x.size=(t.abc:Int))(g:x.free=t.fr)
  (h:x.normal=true->t.nf=true):NR nh p t:=by
 cases t with
 |mk k i s l=>
  simp only[Tm.eN,Tm.gy,Tm.fv,Tm.eG] at a b c d;subst a;subst b;subst c;exact .mk e d f g h
def uC.len{nh:List HC}:∀{ps:List (Option Nat)} {ts:List Tm},uC nh ps ts->ps.length=ts.length
 |_,_,.nil=>rfl|_,_,.cons _ h=>by simp[h.len]
def uC.append{nh:List HC}:∀{ps a:List (Option Nat)} {ts us:List Tm},uC nh ps ts->uC nh a us->uC nh (ps++a) (ts++us)
 |_,_,_,_,.nil,h=>h|_,_,_,_,.cons b c,h=>.cons b (c.append h)
structure NE (nh nh':List HC):Prop where
 node:∀p t,NR nh p t->NR nh' p t
 state:∀p st,HC.fp nh p=some st->HC.fp nh' p=some st
 get:∀p x,HC.er nh p=some x->∃b,HC.er nh' p=some {x with normal:=b}
def NE.refl(nh:List HC):NE nh nh:=⟨λ_ _ h=>h,λ_ _ h=>h,λ_ x h=>⟨x.normal,h⟩⟩
def NE.trans{a b c:List HC}(d:NE a b)(e:NE b c):NE a c:=⟨λp t h=>e.node p t (d.node p t h),λp st h=>e.state p st (d.state p st h),λp x h=>by
 obtain⟨j,f⟩:=d.get p x h;obtain⟨g,i⟩:=e.get p _ f
 exact⟨g,i⟩⟩
def NE.list{nh a:List HC}(h:NE nh a):∀{ps:List (Option Nat)} {ts:List Tm},uC nh ps ts->uC a ps ts
 |_,_,.nil=>.nil|_,_,.cons b c=>.cons (h.node _ _ b) (h.list c)
def E2{nh X:List HC}{p:Nat}{x:eR}(h:HC.er nh p=some x):HC.er (nh++X) p=some x:=by
 have:=HC.ez h;have a:=(pG.1 this).1;unfold HC.er;rw[tD a,this]
def Ih{nh X:List HC}{p:Nat}{x:fV}(h:HC.fp nh p=some x):HC.fp (nh++X) p=some x:=by
 have:=HC.gX h;have a:=(pG.1 this).1;unfold HC.fp;rw[tD a,this]
mutual
def NR.app{nh X:List HC}:∀{p:Nat} {t:Tm},NR nh p t->NR (nh++X) p t
 |_,_,.mk a b c d e=>.mk (E2 a) b.app c d e
def uC.app{nh X:List HC}:∀{ps:List (Option Nat)} {ts:List Tm},uC nh ps ts->uC (nh++X) ps ts
 |_,_,.nil=>.nil|_,_,.cons a b=>.cons a.app b.app
end
def NE.kp{nh a:List HC}(h:Kp nh a):NE nh a:=by
 obtain⟨X,rfl⟩:=h;exact⟨λ_ _ h=>h.app,λ_ _ h=>Ih h,λp x h=>⟨x.normal,E2 h⟩⟩
def GJ{a0 a1:Int}{a2:Ty}{a3:List (Option Nat)}{nh:List HC}{F:Int->Option Nat->List HC->Option (gu (List HC) ((Option Nat)×List HC))}
  (hF:∀j q v x y,HC.er v nh.length=some x->HC.er v q=some y->HC.er (kx v nh.length (HC.eS (eR.mk x.aba x.abd x.pF x.abb (fj .i64 x.size y.size) x.free x.normal))) q=some y->F j (some q) v=some (.next (kx (kx v nh.length (HC.eS (eR.mk x.aba x.abd x.pF x.abb (fj .i64 x.size y.size) x.free x.normal))) nh.length (HC.eS (eR.mk x.aba x.abd x.pF x.abb (fj .i64 x.size y.size) (imax x.free y.free) x.normal))))):∀(ps:List (Option Nat)) (ts:List Tm) (i:Nat) (s:Nat) (f:Int),uC nh ps ts->s+eC Tm.abc ts<=1000000000->ft F ps i (nh++[HC.eS (eR.mk a0 a1 a2 a3 s f false)])=some (.inl (nh++[HC.eS (eR.mk a0 a1 a2 a3 ((s+eC Tm.abc ts:Nat):Int) (Tm.Ha f ts) false)]))
 |_,_,i,s,f,.nil,_=>by simp[eC,Tm.Ha]|_,_,i,s,f,.cons (p:=p) (t:=t) c d,e=>by
  rw[eC] at e;obtain⟨y,b,l,m,n,o,g,h,r⟩:=c.inv;have k:p<nh.length:=(pG.1 (HC.ez b)).1
  have a:fj .i64 (s:Int) (t.abc:Int)=((s+t.abc:Nat):Int):=by rw[fu (by omega) (by omega)];omega
  rw[fm,hF _ p _ _ y CJ (E2 b) (by rw[xj];exact E2 b)];simp only[xj,cl,fA,g,h,a];rw[GJ hF _ _ (i+1) (s+t.abc) (imax f t.fr) d (by omega)];simp only[eC,Tm.Ha,PJ]
def r9{k i:Int}{s:Ty}{ps:List (Option Nat)}{ts:List Tm}{nh:List HC}(h:uC nh ps ts)(hn:eC Tm.abc ts<=100000000)(hi:0<=i/\i<=1000000000000)(p:∀t∈ts,0<=t.fr/\t.fr<=1000000000000):∃e,km k i s ps nh=some (some nh.length,e)/\Kp nh e/\NR e nh.length (.mk k i s ts):=by
 have hlen:ps.length<=100000000:=by
  rw[h.len];exact B4 (Tm.fQ ts) hn
 have w:0<=Tm.Ha 0 ts/\Tm.Ha 0 ts<=1000000000000:=⟨Tm.MM ts 0,Tm.QU (λt z=>(p t z).2) 0 (by omega)⟩;unfold km;rw[eE (by omega)];simp only[eo,ey]
 have r:=GJ (a0:=k) (a1:=i) (a2:=s) (a3:=ps) (nh:=nh) (F:=λu l b=>
   cv (HC.er b (List.length nh)) λa=>
   cv (l) λd=>
   cv (HC.er b d) λc=>
   cv (HC.er (kx b (List.length nh) (HC.eS (eR.mk a.aba a.abd a.pF a.abb (fj .i64 a.size c.size) a.free a.normal))) d) λm=>
   some (.next (kx (kx b (List.length nh) (HC.eS (eR.mk a.aba a.abd a.pF a.abb (fj .i64 a.size c.size) a.free a.normal))) (List.length nh) (HC.eS (eR.mk a.aba a.abd a.pF a.abb (fj .i64 a.size c.size) (imax a.free m.free) a.normal)))))
  (by intro j q v x y n o A;simp only[n,o,A,cl]) ps ts 0 1 0 h (by omega)
 have B:((1:Nat):Int)=1:=rfl;rw[B] at r;rw[r];simp only[cl,en,CJ,xj]
 have g:((1+eC Tm.abc ts:Nat):Int)=((Tm.mk k i s ts).abc:Int):=by rw[Tm.ef]
 have fin:∀f:Int,f=(Tm.mk k i s ts).fr->NR (nh++[HC.eS (eR.mk k i s ps ((1+eC Tm.abc ts:Nat):Int) f false)]) nh.length (.mk k i s ts):=by
  intro f p;exact NR.of CJ rfl rfl rfl h.app g p (by intro h;cases h)
 by_cases n:k=1
 ·subst n;refine⟨_,by rw[ee (by decide)],⟨_,rfl⟩,fin _ ?_⟩;rw[Tm.fr,ee rfl,fu (by omega) (by omega)]
 ·rw[ea (by simpa using n)]
  by_cases o:k=2
  ·subst o;refine⟨_,by rw[ee (by decide)],⟨_,rfl⟩,fin _ ?_⟩;rw[Tm.fr,ea (by decide),ee rfl,fG (by omega) (by omega)]
  ·refine⟨_,by rw[ea (by simpa using o)],⟨_,rfl⟩,fin _ ?_⟩;rw[Tm.fr,ea n,ea o]
def Qq{nh:List HC}{p:Nat}{x:eR}(h:HC.er nh p=some x):iW (some p) nh=some (gC x.aba):=by
 unfold iW gC;simp only[cl,h,gB]
 split<;>rfl
def NE.below{nh a:List HC}{p:Nat}{x:eR}(he:NE nh a)(h:HC.er nh p=some x):iW (some p) a=some (gC x.aba):=by
 obtain⟨b,e⟩:=he.get p x h;rw[Qq e]
def AR{F:Int->Option Nat->List (Option Nat)×List HC->Option (gu (List (Option Nat)×List HC) ((Option Nat)×List HC))}(g:Tm->Tm)(XP:List HC):∀(ts:List Tm)
  (_:∀t∈ts,∀p nh j v,Kp XP nh->NR nh p t->v.length+1<=1000000000->∃q a,F j (some p) (v,nh)=some (.next (v++[some q],a))/\Kp nh a/\NR a q (g t))
  (ps:List (Option Nat)) (i:Nat) (nh:List HC) (v:List (Option Nat)) (us:List Tm),Kp XP nh->uC nh ps ts->uC nh v us->v.length+ts.length<=1000000000->∃c a,ft F ps i (v,nh)=some (.inl (c,a))/\Kp nh a/\uC a c (us++ts.map g)
 |[],_,_,i,nh,v,us,_,.nil,d,_=>⟨v,nh,rfl,Kp.refl _,by simpa using d⟩|t::ts,hF,_,i,nh,v,us,h,.cons (p:=p) (ps:=ps) k l,d,m=>by
  simp only[lL] at m;obtain⟨q,e,n,f,o⟩:=hF t (by simp) p nh i v h k (by omega);have b:=NE.kp f;obtain⟨c,a,f1,f2,f3⟩:=AR g XP ts (λt r=>hF t (by simp[r])) ps (i+1) e (v++[some q]) (us++[g t]) (h.trans f) (b.list l) ((b.list d).append (.cons o .nil)) (by simp;omega);refine⟨c,a,?_,f.trans f2,by simpa using f3⟩;rw[fm,n];simp only[cl,fA];exact f1
structure Sm (M:Int) (t:Tm):Prop where
 ok:t.ok=true
 abg:t.abg M=true
 abc:t.abc<=1000000
def Sm.arg{M k i:Int}{s:Ty}{l:List Tm}(h:Sm M (.mk k i s l)):∀t∈l,Sm M t:=by
 intro t a;have b:=h.abg;have c:=h.abc;rw[Tm.fT] at b;simp only[gL,k4] at b;rw[Tm.ef] at c;exact⟨(Tm.l6 h.ok).2.2.2.1 t a,b.2 t a,by have:=eL Tm.abc a;omega⟩
def Sm.idx{M k i:Int}{s:Ty}{l:List Tm}(h:Sm M (.mk k i s l)):0<=i/\i<=M:=by
 have a:=h.abg;rw[Tm.fT] at a;simp only[gL,ni] at a;exact⟨(Tm.l6 h.ok).2.1,a.1⟩
def Sm.fr{M:Int}{t:Tm}(h:Sm M t)(a:0<=M):0<=t.fr/\t.fr<=M+1:=Tm.Qt t a h.ok h.abg
def Sm.mono{M N:Int}{t:Tm}(h:Sm M t)(hm:M<=N):Sm N t:=⟨h.ok,by
 have:∀t:Tm,t.abg M=true->t.abg N=true:=by
  intro t
  induction t using Tm.ind with
  |h k i s l b=>
   rw[Tm.fT,Tm.fT];simp only[gL,k4,ni]
   exactλ⟨d,c⟩=>⟨by omega,λx a=>b x a (c x a)⟩
 exact this t h.abg,h.abc⟩
def KS{M b:Int}(d:0<=b)(t:Tm):∀f,t.abg M=true->(t.up f b).abg (M+b)=true:=by
 induction t using Tm.ind with
 |h k i s l a=>
  intro f h;rw[Tm.fT] at h;simp only[gL,k4,ni] at h;rw[Tm.l0,Tm.fT];simp only[gL,k4,ni];refine⟨by split<;>omega,?_⟩;intro x c;obtain⟨y,hy,rfl⟩:=od.1 c;exact a y hy _ (h.2 y hy)
def Sm.up{M f b:Int}{t:Tm}(h:Sm M t)(c:0<=f)(a:0<=b):Sm (M+b) (t.up f b):=
 ⟨by rw[Tm.Je t f b c a];exact h.ok,KS a t f h.abg,by rw[Tm.qV];exact h.abc⟩
def TX{M:Int}(U:0<=M/\M<=500000000000):∀(n:Nat) (t:Tm) (p:Nat) (nh:List HC) (f b:Int),t.abc<=n->NR nh p t->Sm M t->0<=f->f+t.abc<=500000000000->0<=b->b<=400000000000->∃Q a,jD n (some p) f b nh=some (some Q,a)/\Kp nh a/\NR a Q (t.up f b):=by
 intro n
 induction n with
 |zero=>intro t p nh f b h;have:=t.eQ;omega
 |succ n V=>
  intro t p nh f b hn w hs W z R A;obtain⟨x,B,m,C,D,E,e6,X,e8⟩:=w.inv;have Y:=hs.fr U.1;rw[jD];simp only[ey,cl,B,X,zJ]
  by_cases r:t.fr<=f
  ·rw[ee r];exact⟨p,nh,rfl,Kp.refl _,by rw[Tm.Tt t f b hs.ok W r];exact w⟩
  ·rw[ea r]
   by_cases S:b=0
   ·subst S;exact⟨p,nh,by simp,Kp.refl _,by rw[Tm.xL];exact w⟩
   ·rw[ea (by simpa using S)];cases t with
    |mk k i s l=>
     simp only[Tm.eN,Tm.gy,Tm.fv,Tm.eG] at m C D E;have T:=hs.idx;obtain⟨o1,o2,o3,o4,o5⟩:=Tm.l6 hs.ok
     by_cases G:k=1
     ·subst G;have Z:=o1 rfl;subst Z;rw[ee (by rw[m];rfl)]
      have H:f<=i:=by rw[Tm.fr,ee rfl] at r;omega
      obtain⟨a,g1,g2,g3⟩:=r9 (k:=1) (i:=i+b) (s:=s) (ps:=[]) (ts:=[]) (nh:=nh) .nil (by simp[eC]) (by omega) (by simp);refine⟨nh.length,a,?_,g2,?_⟩
      ·rw[m,C,D,fu (by omega) (by omega),g1];rfl
      ·rw[Tm.l0,ee ⟨rfl,H⟩];exact g3
     ·rw[ea (by rw[m];simpa using G)]
      have aa:1+eC Tm.abc l<=n+1:=by rw[Tm.ef] at hn;exact hn
      have hlen:=Tm.fQ l;have I:=hs.abc;rw[Tm.ef] at I z;have ab:x.abb.length=l.length:=E.len;rw[eE (by omega)];simp only[eo];have ad:=ly k
      obtain⟨v',a,g1,g2,g3⟩:=AR (F:=λj J=>sD λc d=>
        cv (iW (some p) d) λo=>
        ei (jD n J (fj .i64 f o) b d) λe g=>
        g_ (gf c [e])<|some (.next ((gv c [e]),g))) (Tm.up (f+gC k) b) nh l (by
        intro t u q K j v L hq hv;have N:=hs.arg t u;have hm:=eL Tm.abc u;obtain⟨q',O,a1,a2,a3⟩:=V t q K (f+gC k) b (by omega) hq N (by omega) (by omega) R A;refine⟨q',O,?_,a2,a3⟩;simp only[mf,(NE.kp L).below B,cl,m];rw[fu (by omega) (by omega),a1];simp only[eb];rw[fl (by simpa using hv)]
        rfl) x.abb 0 nh [] [] (Kp.refl _) E .nil (by simp;omega)
      rw[g1];simp only[cl,en,mf];obtain⟨x2,c1⟩:=(NE.kp g2).get p x B;unfold gW;simp only[cl,c1]
      obtain⟨P,d1,d2,d3⟩:=r9 (k:=k) (i:=i) (s:=s) (ps:=v') (ts:=l.map (Tm.up (f+gC k) b)) (nh:=a) (by simpa using g3) (by
       rw[qm,ri λx _=>Tm.qV x _ _];omega) (by omega) (by
       intro t u;obtain⟨y,hy,rfl⟩:=od.1 u;have:=((hs.arg y hy).up (f:=f+gC k) (b:=b) (by omega) R).fr (by omega)
       omega)
      refine⟨a.length,P,?_,g2.trans d2,?_⟩
      ·rw[m,C,D,d1];rfl
      ·rw[Tm.l0,ea (λh=>G h.1)];exact d3
def count_eq{M:Int}(P:0<=M/\M<=500000000000)(nh:List HC):∀(n:Nat) (t:Tm) (p:Nat) (a:Int),t.abc<=n->NR nh p t->Sm M t->0<=a->a+t.abc<=500000000000->kh n (some p) a nh=some (t.abi a:Int):=by
 intro n
 induction n with
 |zero=>intro t p a h;have:=t.eQ;omega
 |succ n C=>
  intro t p a hn D hs E o;obtain⟨x,z,j,A,F,q,Q,G,R⟩:=D.inv;rw[kh];simp only[cl,z,G,zJ]
  by_cases r:t.fr<=a
  ·rw[ee r,Tm.NQ t a hs.ok E r];rfl
  ·rw[ea r];cases t with
   |mk k i s l=>
    simp only[Tm.eN,Tm.gy,Tm.fv,Tm.eG] at j A F q;obtain⟨o1,o2,S,T,U⟩:=Tm.l6 hs.ok
    by_cases v:k=1
    ·subst v;have H:=o1 rfl;subst H;rw[ee (by rw[j];rfl),Tm.gU,A];simp only[gB,eC]
     by_cases m:i=a
     ·rw[ee m,ee ⟨trivial,m⟩];rfl
     ·rw[ea m,ea (λh=>m h.2)];rfl
    ·rw[ea (by rw[j];simpa using v)];have w:=hs.abc;rw[Tm.ef] at w o hn;have hlen:=Tm.fQ l;have I:x.abb.length=l.length:=q.len;rw[eE (by omega)];simp only[eo,ey];have J:=ly k
     have loop:∀(ts:List Tm) (ps:List (Option Nat)) (i c:Nat),(∀t∈ts,t∈l)->uC nh ps ts->c+eC Tm.abc ts<=1000000000->ft (λ(B:Int) (b:Option Nat)=>(λ(d:Int)=>
        cv (kh n b (a+gC k) nh) λe=>
        some ((.next (fj .i64 d e)):gu Int Int))) ps i (c:Int)=some (.inl ((c+eC (Tm.abi (a+gC k)) ts:Nat):Int)):=by
      intro ts
      induction ts with
      |nil=>intro ps i c _ h _;cases h;rfl
      |cons t ts y=>
       intro ps i c hm h K;cases h with
       |cons q1 L=>
        rw[eC] at K;have f:=hm t (by simp);have N:=eL Tm.abc f;have O:=Tm.iZ t (a+gC k);rw[fm];rw[C t _ _ (by omega) q1 (hs.arg t f) (by omega) (by omega)];simp only[cl];rw[fu (by omega) (by omega)];simp only[fA];have:=y _ (i+1) (c+t.abi (a+gC k)) (λu hu=>hm u (by simp[hu])) L (by omega);rw[show((c+t.abi (a+gC k):Nat):Int)=(c:Int)+(t.abi (a+gC k):Int) by omega] at this;rw[this];simp only[eC,PJ]
     have:=loop l x.abb 0 0 (λt h=>h) q (by omega);rw[show((0:Nat):Int)=0 from rfl] at this;have g:fj .i64 a (gC k)=a+gC k:=fu (by omega) (by omega);simp only[Qq z,cl,j,g];rw[this];simp only[cl,en,vt];rw[Tm.gU,ea (λh=>v h.1),vt]
def ID{M N B:Int}(w:M<=B)(s:Tm)(hs:s.abg N=true)(t:Tm):∀n,0<=n->N+n+t.abc<=B->t.abg M=true->t.ok=true->(Tm.m7 n t s).abg B=true:=by
 induction t using Tm.ind with
 |h k i ty l f=>
  intro n hn g d p;have j:=d;rw[Tm.fT] at d;simp only[gL,k4,ni] at d;obtain⟨o1,o2,z,q,A⟩:=Tm.l6 p;rw[Tm.nU]
  have c:∀(u:Tm) {a b:Int},a<=b->u.abg a=true->u.abg b=true:=by
   intro u
   induction u using Tm.ind with
   |h k i s l f=>
    intro a b m;rw[Tm.fT,Tm.fT];simp only[gL,k4,ni]
    exactλ⟨C,r⟩=>⟨by omega,λx e=>f x e m (r x e)⟩
  have D:1<=(Tm.mk k i ty l).abc:=Tm.eQ _
  by_cases o:k=1
  ·rw[ee o];unfold Tm.vh
   split
   ·exact c _ (by omega) (KS hn s 0 hs)
   ·split
    ·rw[Tm.fT];simp;omega
    ·exact c _ (by omega) j
  ·rw[ea o,Tm.fT];simp only[gL,k4,ni];refine⟨by omega,?_⟩;intro x e;obtain⟨y,hy,rfl⟩:=od.1 e;have v:=ly k;have hm:=eL Tm.abc hy;rw[Tm.ef] at g;exact f y hy (n+gC k) (by omega) (by omega) (d.2 y hy) (q y hy)
def put_eq{M N:Int}(hM:0<=M/\M<=100000000000)(hN:0<=N/\N<=100000000000)(s:Tm)(d:Sm N s):∀(n:Nat) (t:Tm) (p q:Nat) (nh:List HC) (a:Int),t.abc<=n->NR nh p t->NR nh q s->Sm M t->0<=a->a+t.abc<=100000000000->t.abc+t.abi a*s.abc<=100000000->∃E b,jW n (some p) a (some q) nh=some (some E,b)/\Kp nh b/\NR b E (Tm.m7 a t s):=by
 intro n
 induction n with
 |zero=>intro t p q nh a h;have:=t.eQ;omega
 |succ n H=>
  intro t p q nh a hn X Y hs Z I z;obtain⟨x,J,w,K,L,O,e6,e7,e8⟩:=X.inv;rw[jW];simp only[cl,J,e7,zJ]
  by_cases o:t.fr<=a
  ·rw[ee o];exact⟨p,nh,rfl,Kp.refl _,by rw[Tm.Rh s t a hs.ok Z o];exact X⟩
  ·rw[ea o];cases t with
   |mk k i ty l=>
    simp only[Tm.eN,Tm.gy,Tm.fv,Tm.eG] at w K L O;have aa:=hs.idx;obtain⟨o1,o2,o3,P,o5⟩:=Tm.l6 hs.ok
    by_cases G:k=1
    ·subst G;have hl:=o1 rfl;subst hl
     have ab:a<=i:=by rw[Tm.fr,ee rfl] at o;omega
     rw[ee (by rw[w];rfl),K];simp only[gB];rw[Tm.nU,ee rfl];unfold Tm.vh
     by_cases e:i=a
     ·rw[ee e,ee e];have A:=d.abc;obtain⟨E,b,g1,g2,g3⟩:=TX (M:=N) (by omega) FU s q nh 0 a (by rw[fy];omega) Y d (by omega) (by omega) Z (by omega);exact⟨E,b,by rw[g1];rfl,g2,g3⟩
     ·rw[ea e,ea e,ee (by omega)];obtain⟨b,g1,g2,g3⟩:=r9 (k:=1) (i:=i-1) (s:=ty) (ps:=[]) (ts:=[]) (nh:=nh) .nil (by simp[eC]) (by omega) (by simp);refine⟨nh.length,b,?_,g2,?_⟩
      ·rw[w,L,fG (by omega) (by omega),g1];rfl
      ·have hz:ty=.mk 0 []:=by
        have:=hs.ok;rw[Tm.hY] at this;simp only[gL,Tm.node] at this
        have h4:ty.rq=true:=by simpa[kv] using this.1.2
        exact(Ty.mL ty).1 h4
       rw[<-hz];exact g3
    ·rw[ea (by rw[w];simpa using G)];have A:=hs.abc;rw[Tm.ef] at A I hn;have hlen:=Tm.fQ l;have ad:x.abb.length=l.length:=O.len;rw[eE (by omega)];simp only[eo,ey];have ae:=ly k;rw[Tm.gU,ea (λh=>G h.1),vt,Tm.ef] at z
     have Q:∀t∈l,t.abc+t.abi (a+gC k)*s.abc<=100000000:=by
      intro t c;have o:=eL Tm.abc c;have e:=eL (Tm.abi (a+gC k)) c;have h3:=JT s.abc e;omega
     obtain⟨v',b,g1,g2,g3⟩:=AR (F:=λj R=>sD λf g=>
       cv (iW (some p) g) λB=>
       ei (jW n R (fj .i64 a B) (some q) g) λm u=>
       g_ (gf f [m])<|some (.next ((gv f [m]),u))) (λt=>Tm.m7 (a+gC k) t s) nh l (by
       intro t c r S j v C T hv;have U:=hs.arg t c;have hm:=eL Tm.abc c;obtain⟨q',V,a1,a2,a3⟩:=H t r q S (a+gC k) (by omega) T ((NE.kp C).node _ _ Y) U (by omega) (by omega) (Q t c);refine⟨q',V,?_,a2,a3⟩;simp only[mf,(NE.kp C).below J,cl,w];rw[fu (by omega) (by omega),a1];simp only[eb];rw[fl (by simpa using hv)]
       rfl) x.abb 0 nh [] [] (Kp.refl _) O .nil (by simp;omega)
     rw[g1];simp only[cl,en,mf];obtain⟨x2,c1⟩:=(NE.kp g2).get p x J;unfold gW;simp only[cl,c1]
     have D:∀t∈l,(Tm.m7 (a+gC k) t s).abc<=t.abc+t.abi (a+gC k)*s.abc:=by
      intro t c;have:=Tm.rP s t (a+gC k) (P t c);omega
     obtain⟨W,d1,d2,d3⟩:=r9 (k:=k) (i:=i) (s:=ty) (ps:=v') (ts:=l.map (λt=>Tm.m7 (a+gC k) t s)) (nh:=b) (by simpa using g3) (by
      rw[qm];have o:=kJ D
      have e:∀l:List Tm,eC (λt=>t.abc+t.abi (a+gC k)*s.abc) l=eC Tm.abc l+eC (Tm.abi (a+gC k)) l*s.abc:=by
       intro l
       induction l with
       |nil=>simp[eC]|cons t l H=>simp only[eC,H,Au];omega
      rw[e] at o
      omega) (by omega) (by
      intro t c;obtain⟨y,hy,rfl⟩:=od.1 c;have hm:=eL Tm.abc hy;have:=Tm.Qt (Tm.m7 (a+gC k) y s) (M:=M+N+(a+gC k)+y.abc) (by omega) (Tm.R4 s d.ok y _ (by omega) (P y hy)) (ID (M:=M) (by omega) s d.abg y _ (by omega) (by omega) (hs.arg y hy).abg (P y hy))
      omega)
     refine⟨b.length,W,?_,g2.trans d2,?_⟩
     ·rw[w,K,L,d1];rfl
     ·rw[Tm.nU,ea G];exact d3
def uw(a b:Int):eH a b=decide (a=b):=by by_cases h:a=b<;>simp[eH,h]
def Wh{α:Type}{l:List α}(h:l.length=1):∃a,l=[a]:=by
 match l,h with|[a],_=>exact⟨a,rfl⟩
def Wy{α:Type}{l:List α}(h:l.length=2):∃a b,l=[a,b]:=by
 match l,h with|[a,b],_=>exact⟨a,b,rfl⟩
def Y'{α:Type}{l:List α}(h:l.length=3):∃a b c,l=[a,b,c]:=by
 match l,h with|[a,b,c],_=>exact⟨a,b,c,rfl⟩
def uC.inv1{nh:List HC}{ps:List (Option Nat)}{a:Tm}(h:uC nh ps [a]):∃p,ps=[some p]/\NR nh p a:=by
 cases h with|cons b c=>cases c;exact⟨_,rfl,b⟩
def uC.inv2{nh:List HC}{ps:List (Option Nat)}{a b:Tm}(h:uC nh ps [a,b]):∃p q,ps=[some p,some q]/\NR nh p a/\NR nh q b:=by
 cases h with|cons c d=>obtain⟨q,rfl,e⟩:=d.inv1;exact⟨_,q,rfl,c,e⟩
def uC.Ld{nh:List HC}{ps:List (Option Nat)}{a b c:Tm}(h:uC nh ps [a,b,c]):∃p q r,ps=[some p,some q,some r]/\NR nh p a/\NR nh q b/\NR nh r c:=by
 cases h with|cons d e=>obtain⟨q,r,rfl,f,g⟩:=e.inv2;exact⟨_,q,r,rfl,d,f,g⟩
def uC.aab{nh:List HC}{ps:List (Option Nat)}(h:uC nh ps []):ps=[]:=by cases h;rfl
def Tm.wz{k i:Int}{s:Ty}{l:List Tm}(h:(Tm.mk k i s l).ok=true):(l.length:Int)=iI k:=(Tm.l6 h).2.2.2.2
def Tm.ok3{i:Int}{s:Ty}{l:List Tm}(h:(Tm.mk 3 i s l).ok=true):∃a b,l=[a,b]:=Wy (by have:=Tm.wz h;have e:iI 3=2:=rfl;omega)
def Tm.ok6{i:Int}{s:Ty}{l:List Tm}(h:(Tm.mk 6 i s l).ok=true):∃a b c,l=[a,b,c]:=Y' (by have:=Tm.wz h;have e:iI 6=3:=rfl;omega)
def Tm.ok9{i:Int}{s:Ty}{l:List Tm}(h:(Tm.mk 9 i s l).ok=true):∃a b c,l=[a,b,c]:=Y' (by have:=Tm.wz h;have e:iI 9=3:=rfl;omega)
def Tm.ok2{i:Int}{s:Ty}{l:List Tm}(h:(Tm.mk 2 i s l).ok=true):∃a,l=[a]:=Wh (by have:=Tm.wz h;have e:iI 2=1:=rfl;omega)
def Tm.VN{k i:Int}{s:Ty}{l:List Tm}(b:k=11\/k=12)(h:(Tm.mk k i s l).ok=true):∃a,l=[a]:=Wh (by
 have:=Tm.wz h;rcases b with rfl|rfl
 ·have e:iI 11=1:=rfl;omega
 ·have e:iI 12=1:=rfl;omega)
def Tm.Z_{i:Int}{s:Ty}{l:List Tm}(h:(Tm.mk 10 i s l).ok=true):∃a b,l=[a,b]:=Wy (by have:=Tm.wz h;have e:iI 10=2:=rfl;omega)
def Tm.ok0{k i:Int}{s:Ty}{l:List Tm}(a:k=4\/k=7)(h:(Tm.mk k i s l).ok=true):l=[]:=BB (by
 have:=Tm.wz h;rcases a with rfl|rfl
 ·have e:iI 4=0:=rfl;omega
 ·have e:iI 7=0:=rfl;omega)
def Tm.ok5{i:Int}{s:Ty}{l:List Tm}(h:(Tm.mk 5 i s l).ok=true):∃a,l=[a]:=Wh (by have:=Tm.wz h;have e:iI 5=1:=rfl;omega)
def Tm.ok8{i:Int}{s:Ty}{l:List Tm}(h:(Tm.mk 8 i s l).ok=true):∃a b,l=[a,b]:=Wy (by have:=Tm.wz h;have e:iI 8=2:=rfl;omega)
def Tm.Dn{k i:Int}{s:Ty}{l:List Tm}(h:(Tm.mk k i s l).ok=true):∀t∈l,t.ok=true:=(Tm.l6 h).2.2.2.1
inductive Tm.Rd:Tm->Prop
 |app {i s i' s' b a}:Tm.Rd (.mk 3 i s [.mk 2 i' s' [b],a])|zero {k ko i s i' s' b st}:(k=6/\ko=4\/k=9/\ko=7)->Tm.Rd (.mk k i s [b,st,.mk ko i' s' []])|succ {i s i' s' b st n}:Tm.Rd (.mk 6 i s [b,st,.mk 5 i' s' [n]])|cons {i s i' s' b st h t}:Tm.Rd (.mk 9 i s [b,st,.mk 8 i' s' [h,t]])|proj {k i s i' s' a b}:(k=11\/k=12)->Tm.Rd (.mk k i s [.mk 10 i' s' [a,b]])
def Tm.IY{t:Tm}(d:t.ok=true)(h:t.root=true):t.Rd:=by
 cases t with
 |mk k i s l=>
  unfold Tm.root at h;simp only[p8,gL,ni] at h;rcases h with((⟨rfl,h⟩|⟨rfl,h⟩)|⟨rfl,h⟩)|⟨e,h⟩
  ·obtain⟨a,b,rfl⟩:=Tm.ok3 d;cases a with
   |mk k' f g j=>
    have e:k'=2:=by simpa[Tm.kd] using h
    subst e;obtain⟨q,rfl⟩:=Tm.ok2 (Tm.Dn d (.mk 2 f g j) (by simp));exact .app
  ·obtain⟨a,b,c,rfl⟩:=Tm.ok6 d;cases c with
   |mk k' f g j=>
    have e:k'=4\/k'=5:=by simpa[Tm.kd] using h
    have o:=Tm.Dn d (.mk k' f g j) (by simp);rcases e with rfl|rfl
    ·rw[Tm.ok0 (.inl rfl) o];exact .zero (.inl ⟨rfl,rfl⟩)
    ·obtain⟨n,rfl⟩:=Tm.ok5 o;exact .succ
  ·obtain⟨a,b,c,rfl⟩:=Tm.ok9 d;cases c with
   |mk k' f g j=>
    have e:k'=7\/k'=8:=by simpa[Tm.kd] using h
    have o:=Tm.Dn d (.mk k' f g j) (by simp);rcases e with rfl|rfl
    ·rw[Tm.ok0 (.inr rfl) o];exact .zero (.inr ⟨rfl,rfl⟩)
    ·obtain⟨n,m,rfl⟩:=Tm.ok8 o;exact .cons
  ·obtain⟨a,rfl⟩:=Tm.VN e d;cases a with
   |mk k' f g j=>
    have p:k'=10:=by simpa[Tm.kd] using h
    subst p;obtain⟨a,b,rfl⟩:=Tm.Z_ (Tm.Dn d (.mk 10 f g j) (by simp));exact .proj e
def LI{nh:List HC}{p:Nat}{t:Tm}(v:NR nh p t)(j:t.ok=true):mK (some p) nh=some t.root:=by
 obtain⟨x,w,r,A,B,f,C,D,E⟩:=v.inv;unfold mK;simp only[cl,w,ey];cases t with
 |mk k i s l=>
  simp only[Tm.eN,Tm.eG] at r f;rw[r];unfold Tm.root
  by_cases m:k=3
  ·subst m;obtain⟨a,b,rfl⟩:=Tm.ok3 j;obtain⟨pa,pb,e,g,u⟩:=f.inv2;obtain⟨y,f1,f2,_⟩:=g.inv;rw[ee (by decide),e];simp[eU,f1,f2,Tm.kd,uw]
  ·rw[ea (by simpa using m)]
   by_cases n:k=6
   ·subst n;obtain⟨a,b,c,rfl⟩:=Tm.ok6 j;obtain⟨pa,pb,z,e,g,u,o⟩:=f.Ld;obtain⟨y,f1,f2,_⟩:=o.inv;rw[ee (by decide),e];simp only[jv,m4,js,cl,f1,f2,Tm.kd,gB]
    by_cases h:c.aba=4
    ·simp[h]
    ·simp[h,uw]<;>exact Nx.2 Iff.rfl
   ·rw[ea (by simpa using n)]
    by_cases q:k=9
    ·subst q;obtain⟨a,b,c,rfl⟩:=Tm.ok9 j;obtain⟨pa,pb,z,e,g,u,o⟩:=f.Ld;obtain⟨y,f1,f2,_⟩:=o.inv;rw[ee (by decide),e];simp only[jv,m4,js,cl,f1,f2,Tm.kd,gB]
     by_cases h:c.aba=7
     ·simp[h]
     ·simp[h,uw]<;>exact Nx.2 Iff.rfl
    ·rw[ea (by simpa using q)]
     by_cases d:k=11\/k=12
     ·obtain⟨a,rfl⟩:=Tm.VN d j;obtain⟨pa,e,g⟩:=f.inv1;obtain⟨y,f1,f2,_⟩:=g.inv;rw[ee (by rcases d with rfl|rfl<;>rfl),e];simp only[eU,js,cl,f1,f2,Tm.kd];rcases d with rfl|rfl<;>simp[uw]<;>exact Nx.2 Iff.rfl
     ·rw[ea (by simp only[l7,p8,gB];exact d)];simp only[not_or] at d;simp[m,n,q,d.1,d.2]
def oT:∀(l:List Tm) (f:Tm),(mh f l).abc=f.abc+eC Tm.abc l+l.length
 |[],f=>by simp[mh,eC]|a::l,f=>by
  rw[mh,oT l,Tm.ef];simp only[eC,lL];omega
def JO{M:Int}(C:0<=M/\M<=500000000000):∀(ts:List Tm) (ps:List (Option Nat)) (nh:List HC) (b:Nat) (f:Tm),uC nh ps ts->NR nh b f->(∀t∈ts,0<=t.fr/\t.fr<=M)->0<=f.fr/\f.fr<=M->f.abc+eC Tm.abc ts+ts.length<=10000000->∃c a,rG (some b) ps nh=some (some c,a)/\Kp nh a/\NR a c (mh f ts):=by
 intro ts ps nh b f g h d j hn;have hlen:ps.length=ts.length:=g.len;unfold rG;rw[eE (by omega)];simp only[eo,ey]
 have loop:∀(ts:List Tm) (ps:List (Option Nat)) (i:Nat) (nh:List HC) (b:Nat) (f:Tm),uC nh ps ts->NR nh b f->(∀t∈ts,0<=t.fr/\t.fr<=M)->0<=f.fr/\f.fr<=M->f.abc+eC Tm.abc ts+ts.length<=10000000->∃c a,ft (λ(v:Int) (o:Option Nat)=>(sD λ(v171:Option Nat) (l:List HC)=>
    ei (km 3 0 (Ty.mk 0 []) [v171,o] l) λm e=>some ((.next (m,e)):gu ((Option Nat)×List HC) ((Option Nat)×List HC)))) ps i (some b,nh)=some (.inl (some c,a))/\Kp nh a/\NR a c (mh f ts):=by
  intro ts
  induction ts with
  |nil=>
   intro ps i nh b f g h _ _ _;cases g;exact⟨b,nh,rfl,Kp.refl _,h⟩
  |cons t ts w=>
   intro ps i nh b f g h d j hn;cases g with
   |cons x y=>
    rename_i p ps;simp only[eC,lL] at hn;have D:=d t (by simp)
    obtain⟨q,a1,a2,a3⟩:=r9 (k:=3) (i:=0) (s:=.mk 0 []) (ps:=[some b,some p]) (ts:=[f,t]) (nh:=nh) (.cons h (.cons x .nil)) (by simp[eC];omega) (by omega) (by
     intro u hu;simp only[lF,w4,sN] at hu
     rcases hu with rfl|rfl<;>omega)
    have r:=NE.kp a2
    have n:0<=(Tm.mk 3 0 (.mk 0 []) [f,t]).fr/\(Tm.mk 3 0 (.mk 0 []) [f,t]).fr<=M:=by
     rw[Tm.fr,ea (by decide),ea (by decide)];simp only[Tm.Ha,tn];omega
    obtain⟨c,a,z,A,B⟩:=w ps (i+1) q nh.length (.mk 3 0 (.mk 0 []) [f,t]) (r.list y) a3 (λu hu=>d u (by simp[hu])) n (by
     rw[Tm.ef];simp only[eC];omega)
    refine⟨c,a,?_,a2.trans A,B⟩;rw[fm];simp only[mf,a1,eb,cl,fA];exact z
 obtain⟨c,a,a1,a2,a3⟩:=loop ts ps 0 nh b f g h d j hn;rw[a1];exact⟨c,a,rfl,a2,a3⟩
def Nk{α:Type}(a:α):eI [a] (fB .i64 (eM [a]) 1)=some a:=by
 have:fB .i64 (eM [a]) 1=0:=by simp only[fO,lL,wE];decide
 rw[this];rfl
def MV{α:Type}(a b:α):eI [a,b] (fB .i64 (eM [a,b]) 1)=some b:=by
 have:fB .i64 (eM [a,b]) 1=1:=by simp only[fO,lL,wE];decide
 rw[this];rfl
def DT{M:Int}(hM:0<=M/\M<=90000000000){nh:List HC}{p:Nat}{t:Tm}(hr:NR nh p t)(hs:Sm M t)(hn:t.abc<=8192)(F:t.root=true):∃R l,i_ (some p) nh=some (some R,l)/\Kp nh l/\NR l R t.gl:=by
 have U:=Tm.IY hs.ok F;obtain⟨x,V,g,S,T,w,e6,e7,e8⟩:=hr.inv;unfold i_;simp only[cl,V];have e:∀u:Tm,Sm M u->0<=u.fr/\u.fr<=M+1:=λu hu=>hu.fr hM.1;cases U with
 |app=>
  rename_i i s z A b a;simp only[Tm.eN,Tm.eG] at g w;obtain⟨pf,pa,B,W,X⟩:=w.inv2;obtain⟨y,f1,f2,f3,f4,f5,_⟩:=W.inv;simp only[Tm.eN,Tm.eG] at f2 f5;obtain⟨pb,C,D⟩:=f5.inv1;have Y:=hs.arg (.mk 2 z A [b]) (by simp);have Z:=hs.arg a (by simp);have m:=Y.arg b (by simp);rw[Tm.ef] at hn;simp only[eC,Tm.ef] at hn;have af:=Tm.iZ b 0;have hmul:b.abi 0*a.abc<=8192*8192:=Fg (by omega) (by omega);obtain⟨R,l,g1,g2,g3⟩:=put_eq (M:=M) (N:=M) (by omega) (by omega) a Z FU b pb pa nh 0 (by rw[fy];omega) D X m (by omega) (by omega) (by omega);refine⟨R,l,?_,g2,g3⟩;rw[g,ee (by decide),B];simp only[eU,gx,js,m4,cl,f1,C,g1,eb]
 |proj hk=>
  rename_i k i s z A a b;simp only[Tm.eN,Tm.eG] at g w;obtain⟨pf,B,W⟩:=w.inv1;obtain⟨y,f1,f2,f3,f4,f5,_⟩:=W.inv;simp only[Tm.eN,Tm.eG] at f2 f5;obtain⟨pa,pb,C,X,D⟩:=f5.inv2;rcases hk with rfl|rfl
  ·refine⟨pa,nh,?_,Kp.refl _,by simpa[Tm.gl] using X⟩;rw[g,ea (by decide),ee (by decide),B];simp only[eU,js,cl,f1,C]
  ·refine⟨pb,nh,?_,Kp.refl _,by simpa[Tm.gl] using D⟩;rw[g,ea (by decide),ea (by decide),ee (by decide),B];simp only[eU,gx,js,m4,cl,f1,C]
 |zero hk=>
  rename_i k ko i s z A b st;simp only[Tm.eN,Tm.eG] at g w;obtain⟨pb,ps,po,B,D,j,L⟩:=w.Ld;obtain⟨y,f1,f2,f3,f4,f5,_⟩:=L.inv;simp only[Tm.eN,Tm.eG] at f2 f5;have O:=f5.aab;refine⟨pb,nh,?_,Kp.refl _,?_⟩
  ·have f:k≠3/\k≠11/\k≠12:=by omega
   rw[g,ea (by simpa using f.1),ea (by simpa using f.2.1),ea (by simpa using f.2.2),B];simp only[eU,gx,jv,js,m4,cl,f1,O];rfl
  ·have:(Tm.mk k i s [b,st,.mk ko z A []]).gl=b:=by
    have f:k≠3/\k≠11/\k≠12:=by omega
    simp[Tm.gl,f.1,f.2.1,f.2.2]
   rw[this];exact D
 |succ=>
  rename_i i s z A b st n;simp only[Tm.eN,Tm.eG,Tm.gy,Tm.fv] at g S T w;obtain⟨pb,ps,po,B,D,j,L⟩:=w.Ld;obtain⟨y,f1,f2,f3,f4,f5,_⟩:=L.inv;simp only[Tm.eN,Tm.eG] at f2 f5;obtain⟨P,o,q⟩:=f5.inv1;have m:=hs.arg b (by simp);have G:=hs.arg st (by simp);have E:=hs.arg (.mk 5 z A [n]) (by simp);have H:=E.arg n (by simp);rw[Tm.ef] at hn;simp only[eC,Tm.ef] at hn;have Q:=hs.idx;have b1:=e b m;have b2:=e st G;have b3:=e n H
  obtain⟨I,a1,a2,a3⟩:=r9 (k:=6) (i:=i) (s:=s) (ps:=[some pb,some ps,some P]) (ts:=[b,st,n]) (nh:=nh) (.cons D (.cons j (.cons q .nil))) (by simp[eC];omega) (by omega) (by
   intro u hu;simp only[lF,w4,sN] at hu
   rcases hu with rfl|rfl|rfl<;>omega)
  have d:=NE.kp a2;obtain⟨c,fc⟩:=d.get _ _ f1;obtain⟨p2,J,d1,d2,d3⟩:=JO (M:=M+1) (by omega) [n] [some P] I ps st (.cons (d.node _ _ q) .nil) (d.node _ _ j) (by intro u hu;simp only[lF,w4,sN] at hu;subst hu;omega) (by omega) (by simp[eC];omega)
  have r:0<=(Tm.mk 6 i s [b,st,n]).fr/\(Tm.mk 6 i s [b,st,n]).fr<=M+1:=by
   rw[Tm.fr,ea (by decide),ea (by decide)];simp only[Tm.Ha,tn];omega
  have v:0<=(mh st [n]).fr/\(mh st [n]).fr<=M+1:=by
   simp only[mh];rw[Tm.fr,ea (by decide),ea (by decide)];simp only[Tm.Ha,tn];omega
  have aa:(Tm.mk 6 i s [b,st,n]).abc<=10000:=by rw[Tm.ef];simp only[eC];omega
  have ab:(mh st [n]).abc<=10000:=by rw[oT];simp only[eC,lL,wE];omega
  obtain⟨p3,K,g1,g2,g3⟩:=JO (M:=M+1) (by omega) [.mk 6 i s [b,st,n]] [some nh.length] J p2 (mh st [n]) (.cons ((NE.kp d2).node _ _ a3) .nil) d3 (by intro u hu;simp only[lF,w4,sN] at hu;subst hu;exact r) v (by simp only[eC,lL,wE];omega);refine⟨p3,K,?_,(a2.trans d2).trans g2,?_⟩
  ·rw[g,ea (by decide),ea (by decide),ea (by decide),B];simp only[eU,gx,jv,js,m4,cl,f1,o];rw[ea (by simp only[fO,lL,wE];decide),Nk];unfold gW;simp only[cl,V,g,S,T,a1,eb,fc,o,d1,g1]
  ·have:(Tm.mk 6 i s [b,st,.mk 5 z A [n]]).gl=mh (mh st [n]) [.mk 6 i s [b,st,n]]:=by simp[Tm.gl,mh]
   rw[this];exact g3
 |cons=>
  rename_i i s z A b st h n;simp only[Tm.eN,Tm.eG,Tm.gy,Tm.fv] at g S T w;obtain⟨pb,ps,po,B,D,j,L⟩:=w.Ld;obtain⟨y,f1,f2,f3,f4,f5,_⟩:=L.inv;simp only[Tm.eN,Tm.eG] at f2 f5;obtain⟨ph,P,o,ad,q⟩:=f5.inv2;have m:=hs.arg b (by simp);have G:=hs.arg st (by simp);have E:=hs.arg (.mk 8 z A [h,n]) (by simp);have H:=E.arg n (by simp);have ae:=E.arg h (by simp);rw[Tm.ef] at hn;simp only[eC,Tm.ef] at hn;have Q:=hs.idx;have b1:=e b m;have b2:=e st G;have b3:=e n H;have b4:=e h ae
  obtain⟨I,a1,a2,a3⟩:=r9 (k:=9) (i:=i) (s:=s) (ps:=[some pb,some ps,some P]) (ts:=[b,st,n]) (nh:=nh) (.cons D (.cons j (.cons q .nil))) (by simp[eC];omega) (by omega) (by
   intro u hu;simp only[lF,w4,sN] at hu
   rcases hu with rfl|rfl|rfl<;>omega)
  have d:=NE.kp a2;obtain⟨c,fc⟩:=d.get _ _ f1;obtain⟨p2,J,d1,d2,d3⟩:=JO (M:=M+1) (by omega) [h,n] [some ph,some P] I ps st (.cons (d.node _ _ ad) (.cons (d.node _ _ q) .nil)) (d.node _ _ j) (by intro u hu;simp only[lF,w4,sN] at hu;rcases hu with rfl|rfl<;>omega) (by omega) (by simp[eC];omega)
  have r:0<=(Tm.mk 9 i s [b,st,n]).fr/\(Tm.mk 9 i s [b,st,n]).fr<=M+1:=by
   rw[Tm.fr,ea (by decide),ea (by decide)];simp only[Tm.Ha,tn];omega
  have v:0<=(mh st [h,n]).fr/\(mh st [h,n]).fr<=M+1:=by
   simp only[mh];rw[Tm.fr,ea (by decide),ea (by decide)];simp only[Tm.Ha];rw[Tm.fr,ea (by decide),ea (by decide)];simp only[Tm.Ha,tn];omega
  have aa:(Tm.mk 9 i s [b,st,n]).abc<=10000:=by rw[Tm.ef];simp only[eC];omega
  have ab:(mh st [h,n]).abc<=10000:=by rw[oT];simp only[eC,lL,wE];omega
  obtain⟨p3,K,g1,g2,g3⟩:=JO (M:=M+1) (by omega) [.mk 9 i s [b,st,n]] [some nh.length] J p2 (mh st [h,n]) (.cons ((NE.kp d2).node _ _ a3) .nil) d3 (by intro u hu;simp only[lF,w4,sN] at hu;subst hu;exact r) v (by simp only[eC,lL,wE];omega);refine⟨p3,K,?_,(a2.trans d2).trans g2,?_⟩
  ·rw[g,ea (by decide),ea (by decide),ea (by decide),B];simp only[eU,gx,jv,js,m4,cl,f1,o];rw[ea (by simp only[fO,lL,wE];decide),MV];unfold gW;simp only[cl,V,g,S,T,a1,eb,fc,o,d1,g1]
  ·have:(Tm.mk 9 i s [b,st,.mk 8 z A [h,n]]).gl=mh (mh st [h,n]) [.mk 9 i s [b,st,n]]:=by simp[Tm.gl,mh]
   rw[this];exact g3
def EL:∀(n:Nat) (t:Ty),t.abc<=n->t.abc<=1000000000->kI n t=some t:=by
 intro n
 induction n with
 |zero=>intro t h;have:=t.eQ;omega
 |succ n a=>
  intro t h b;cases t with
  |mk k l=>
   rw[Ty.ef] at h b;have e:=Ty.fQ l;rw[kI];simp only[Ty.eG,Ty.eN,ey,eE (l:=l) (by omega),eo];rw[iT id l 0 [] (by simp;omega)]
   ·simp
   ·intro j x v c d;have:=eL Ty.abc c;rw[a x (by omega) (by omega)];simp[fl (l:=v) (m:=[x]) (by simpa using d)]
def py{t:Ty}(h:t.abc<=1000000000):kI FU t=some t:=EL FU t (by rw[fy];exact h) h
def Ty.wc{k i:Int}{s:Ty}{n:Nat}(h:Tm.node k i s n=true):s.abc<=64:=by
 unfold Tm.node at h;simp only[gL] at h;have a:=h.2
 by_cases b:kv k=true
 ·rw[ee b] at a;simp only[ni] at a;unfold Ty.err at a
  split at a
  ·split at a
   ·omega
   ·omega
  ·omega
 ·rw[ea b] at a;rw[(Ty.mL s).1 a,Ty.ef];simp[eC]
def Tp{M:Int}(C:0<=M/\M<=500000000000):∀(n:Nat) (t:Tm) (nh:List HC),t.abc<=n->Sm M t->∃p a,qq n t nh=some (some p,a)/\Kp nh a/\NR a p t:=by
 intro n
 induction n with
 |zero=>intro t nh h;have:=t.eQ;omega
 |succ n D=>
  intro t nh h hs;cases t with
  |mk k i s l=>
   have m:=hs.abc;have A:=hs.idx;rw[Tm.ef] at h m;have hlen:=Tm.fQ l;rw[qq];simp only[Tm.eG,Tm.eN,Tm.gy,Tm.fv,ey,eE (l:=l) (by omega),eo]
   have loop:∀(ts:List Tm) (i:Nat) (nh:List HC) (v:List (Option Nat)) (us:List Tm),(∀t∈ts,t∈l)->uC nh v us->v.length+ts.length<=1000000->∃e a,ft (λ(B:Int) (f:Tm)=>(sD λ(b:(List (Option Nat))) (g:List HC)=>
      ei (qq n f g) λc d=>
      g_ (gf b [c])<|some ((.next ((gv b [c]),d)):gu ((List (Option Nat))×List HC) ((Option Nat)×List HC)))) ts i (v,nh)=some (.inl (e,a))/\Kp nh a/\uC a e (us++ts):=by
    intro ts
    induction ts with
    |nil=>intro i nh v us _ o _;exact⟨v,nh,rfl,Kp.refl _,by simpa using o⟩|cons t ts q=>
     intro i nh v us hm o E;simp only[lL] at E;have j:=hm t (by simp);have F:=eL Tm.abc j;obtain⟨p,r,a1,a2,a3⟩:=D t nh (by omega) (hs.arg t j);obtain⟨e,a,w,x,y⟩:=q (i+1) r (v++[some p]) (us++[t]) (λu hu=>hm u (by simp[hu])) (((NE.kp a2).list o).append (.cons a3 .nil)) (by simp;omega);refine⟨e,a,?_,a2.trans x,by simpa using y⟩;rw[fm];simp only[mf,a1,eb];rw[fl (by simp;omega)];simp only[eo,gG,cl,fA];exact w
   obtain⟨e,a,a1,a2,a3⟩:=loop l 0 nh [] [] (λt h=>h) .nil (by simp;omega);rw[a1];simp only[cl,en,mf]
   obtain⟨z,w,x,y⟩:=r9 (k:=k) (i:=i) (s:=s) (ps:=e) (ts:=l) (nh:=a) (by simpa using a3) (by omega) (by omega) (by
    intro t G;have:=(hs.arg t G).fr C.1
    omega)
   exact⟨a.length,z,by rw[w];rfl,a2.trans x,y⟩
def Oc{M:Int}(nh:List HC):∀(n:Nat) (t:Tm) (p:Nat),t.abc<=n->Sm M t->NR nh p t->iS n (some p) nh=some t:=by
 intro n
 induction n with
 |zero=>intro t p h;have:=t.eQ;omega
 |succ n w=>
  intro t p h hs y;obtain⟨x,z,m,o,q,f,F,G,H⟩:=y.inv;cases t with
  |mk k i s l=>
   simp only[Tm.eN,Tm.eG,Tm.gy,Tm.fv] at m o q f;have g:=hs.abc;rw[Tm.ef] at h g;have hlen:=Tm.fQ l;have A:x.abb.length=l.length:=f.len;have c:=hs.ok;rw[Tm.hY,gL] at c;have B:=Ty.wc c.1;rw[iS];simp only[cl,z,m,o,q,ey,eE (l:=x.abb) (by omega),eo];rw[py (by omega)];simp only[cl]
   have loop:∀(ts:List Tm) (ps:List (Option Nat)) (i:Nat) (v:List Tm),(∀t∈ts,t∈l)->uC nh ps ts->v.length+ts.length<=1000000->ft (λ(r:Int) (d:Option Nat)=>(λ(a:List Tm)=>
      cv (iS n d nh) λb=>
      g_ (gf a [b])<|some ((.next (gv a [b])):gu (List Tm) Tm))) ps i v=some (.inl (v++ts)):=by
    intro ts
    induction ts with
    |nil=>intro ps i v _ h _;cases h;simp
    |cons t ts j=>
     intro ps i v hm h C;simp only[lL] at C;have e:=hm t (by simp);have D:=eL Tm.abc e;cases h with
     |cons q1 E=>
      rw[fm,w t _ (by omega) (hs.arg t e) q1];simp only[cl];rw[fl (by simp;omega)];simp only[eo,cl,fA];rw[j _ (i+1) (gv v [t]) (λu hu=>hm u (by simp[hu])) E (by rw[yK];simp;omega)];simp
   rw[loop l x.abb 0 [] (λt h=>h) f (by simp;omega)];simp
mutual
def NR.XW{nh:List HC}:∀{p:Nat} {t u:Tm},NR nh p t->NR nh p u->t=u
 |_,_,_,.mk (x:=x) a b _ _ _,.mk (x:=y) g1 g2 _ _ _=>by
  rw[a] at g1;obtain rfl:=iw g1;rw[uC.XW b g2]
def uC.XW{nh:List HC}:∀{ps:List (Option Nat)} {ts us:List Tm},uC nh ps ts->uC nh ps us->ts=us
 |_,_,_,.nil,.nil=>rfl|_,_,_,.cons a b,.cons g1 g2=>by rw[NR.XW a g1,uC.XW b g2]
end
def NE.flag{nh:List HC}{p:Nat}{t:Tm}{x:eR}(w:NR nh p t)(r:HC.er nh p=some x)(g:t.nf=true):NE nh (kx nh p (HC.eS {x with normal:=true})):=by
 have v:=HC.ez r;have j:=(pG.1 v).1
 have e:HC.er (kx nh p (HC.eS {x with normal:=true})) p=some {x with normal:=true}:=by
  unfold HC.er kx;simp[j]
 have a:∀q,q≠p->(kx nh p (HC.eS {x with normal:=true}))[q]?=nh[q]?:=by
  intro q c;unfold kx;rw[KB (λh=>c h.symm)]
 have d:∀q y,HC.er nh q=some y->∃b,HC.er (kx nh p (HC.eS {x with normal:=true})) q=some {y with normal:=b}/\(b=true->y.normal=true\/q=p):=by
  intro q y hy
  by_cases c:q=p
  ·subst c;rw[r] at hy;obtain rfl:=iw hy;exact⟨true,e,λ_=>.inr rfl⟩
  ·refine⟨y.normal,?_,λh=>.inl h⟩;have:=a q c;unfold HC.er at hy|-;rw[this];exact hy
 have key:∀n,(∀q u,u.abc<=n->NR nh q u->NR (kx nh p (HC.eS {x with normal:=true})) q u):=by
  intro n
  induction n with
  |zero=>intro q u h;have:=u.eQ;omega
  |succ n z=>
   intro q u hu c;obtain⟨y,A,B,C,D,E,F,G,H⟩:=c.inv;obtain⟨b,f1,f2⟩:=d q y A
   have f:∀(ts:List Tm) (ps:List (Option Nat)),(∀t∈ts,t.abc<=n)->uC nh ps ts->uC (kx nh p (HC.eS {x with normal:=true})) ps ts:=by
    intro ts
    induction ts with
    |nil=>intro ps _ h;cases h;exact .nil
    |cons t ts m=>
     intro ps hm h;cases h with
     |cons g1 g2=>exact .cons (z _ _ (hm t (by simp)) g1) (m _ (λu hu=>hm u (by simp[hu])) g2)
   refine NR.of f1 B C D (f _ _ ?_ E) F G ?_
   ·intro t I;cases u with
    |mk k i s l=>
     rw[Tm.ef] at hu;have:=eL Tm.abc I;simp only[Tm.eG] at this;omega
   ·intro J;rcases f2 J with h|h
    ·exact H h
    ·subst h;rw[<-NR.XW w c];exact g
 refine⟨λq u h=>key _ q u (jh _) h,?_,λq y h=>?_⟩
 ·intro q st c
  have o:q≠p:=by
   rintro rfl;have:=HC.gX c;rw[v] at this;cases this
  unfold HC.fp at c|-;rw[a q o];exact c
 ·obtain⟨b,K,_⟩:=d q y h;exact⟨b,K⟩
mutual
def Tm.I7(room:Int):Tm->Option (Option Tm)
 |.mk k i s l=>if(Tm.mk k i s l).root=true then(if((Tm.mk k i s l).gl.abc:Int)-((Tm.mk k i s l).abc:Int)>room then none else some (some (Tm.mk k i s l).gl))
  else match Tm.sx room l with
   |none=>none|some none=>some none|some (some a)=>some (some (.mk k i s a))
def Tm.sx(room:Int):List Tm->Option (Option (List Tm))
 |[]=>some none|t::l=>match t.I7 room with
  |none=>none|some (some a)=>some (some (a::l))|some none=>match Tm.sx room l with
   |none=>none|some none=>some none|some (some b)=>some (some (t::b))
end
def Jz:∀(l:List Tm) (f:Tm),f.ok=true->(∀t∈l,t.ok=true)->(mh f l).ok=true
 |[],f,h,_=>h|a::l,f,h,b=>by
  rw[mh];refine Jz l _ ?_ λt d=>b t (by simp[d]);rw[Tm.hY];simp only[gL,k4];refine⟨rfl,?_⟩;intro x c;simp only[lF,w4,sN] at c;rcases c with rfl|rfl
  ·exact h
  ·exact b _ (by simp)
def A'{M:Int}(b:0<=M):∀(l:List Tm) (f:Tm),f.abg M=true->(∀t∈l,t.abg M=true)->(mh f l).abg M=true
 |[],f,h,_=>h|a::l,f,h,c=>by
  rw[mh];refine A' b l _ ?_ λt e=>c t (by simp[e]);rw[Tm.fT];simp only[gL,k4,ni];refine⟨b,?_⟩;intro x d;simp only[lF,w4,sN] at d;rcases d with rfl|rfl
  ·exact h
  ·exact c _ (by simp)
def Tm.JH{k i:Int}{s:Ty}{l m:List Tm}(h:(Tm.mk k i s l).ok=true)(a:m.length=l.length)(hm:∀t∈m,t.ok=true):(Tm.mk k i s m).ok=true:=by
 rw[Tm.hY] at h|-;simp only[gL,k4] at h|-;rw[a];exact⟨h.1,hm⟩
def Tm.A4{M k i:Int}{s:Ty}{l m:List Tm}(h:(Tm.mk k i s l).abg M=true)(hm:∀t∈m,t.abg M=true):(Tm.mk k i s m).abg M=true:=by
 rw[Tm.fT] at h|-;simp only[gL,k4,ni] at h|-;exact⟨h.1,hm⟩
def R2{M:Int}(B:0<=M){t:Tm}(hs:Sm M t)(hn:t.abc<=8192)(z:t.root=true):t.gl.ok=true/\t.gl.abg (M+8192)=true:=by
 have v:=Tm.IY hs.ok z;have up:∀u,Sm M u->u.abg (M+8192)=true:=λu hu=>(hu.mono (by omega)).abg;cases v with
 |app=>
  rename_i i s d f b a;have w:=hs.arg (.mk 2 d f [b]) (by simp);have p:=hs.arg a (by simp);have l:=w.arg b (by simp);rw[Tm.ef] at hn;simp only[eC,Tm.ef] at hn
  have e:(Tm.mk 3 i s [.mk 2 d f [b],a]).gl=Tm.m7 0 b a:=by simp[Tm.gl]
  rw[e];exact⟨Tm.R4 a p.ok b 0 (by omega) l.ok,ID (M:=M) (N:=M) (by omega) a p.abg b 0 (by omega) (by omega) l.abg l.ok⟩
 |proj x=>
  rename_i k i s d f a b;have q:=hs.arg (.mk 10 d f [a,b]) (by simp);rcases x with rfl|rfl
  ·have:=q.arg a (by simp);simpa[Tm.gl] using And.intro this.ok (up _ this)
  ·have:=q.arg b (by simp);simpa[Tm.gl] using And.intro this.ok (up _ this)
 |zero x=>
  rename_i k A i s d f b st
  have m:k≠3/\k≠11/\k≠12:=by omega
  have:(Tm.mk k i s [b,st,.mk A d f []]).gl=b:=by simp[Tm.gl,m.1,m.2.1,m.2.2]
  rw[this];have:=hs.arg b (by simp);exact⟨this.ok,up _ this⟩
 |succ=>
  rename_i i s d f b st n;have r:=hs.arg b (by simp);have g:=hs.arg st (by simp);have j:=(hs.arg (.mk 5 d f [n]) (by simp)).arg n (by simp)
  have e:(Tm.mk 6 i s [b,st,.mk 5 d f [n]]).gl=mh st [n,.mk 6 i s [b,st,n]]:=by simp[Tm.gl,mh]
  rw[e];have o:(Tm.mk 6 i s [b,st,n]).ok=true:=Tm.JH hs.ok rfl (by intro t c;simp only[lF,w4,sN] at c;rcases c with rfl|rfl|rfl;all_goals first|exact r.ok|exact g.ok|exact j.ok);have hle:(Tm.mk 6 i s [b,st,n]).abg (M+8192)=true:=Tm.A4 (hs.mono (by omega)).abg (by intro t c;simp only[lF,w4,sN] at c;rcases c with rfl|rfl|rfl;all_goals first|exact up _ r|exact up _ g|exact up _ j);refine⟨Jz _ _ g.ok ?_,A' (by omega) _ _ (up _ g) ?_⟩<;>
  ·intro t c;simp only[lF,w4,sN] at c;rcases c with rfl|rfl
   ·first|exact j.ok|exact up _ j
   ·first|exact o|exact hle
 |cons=>
  rename_i i s d f b st h n;have r:=hs.arg b (by simp);have g:=hs.arg st (by simp);have j:=(hs.arg (.mk 8 d f [h,n]) (by simp)).arg n (by simp);have y:=(hs.arg (.mk 8 d f [h,n]) (by simp)).arg h (by simp)
  have e:(Tm.mk 9 i s [b,st,.mk 8 d f [h,n]]).gl=mh st [h,n,.mk 9 i s [b,st,n]]:=by simp[Tm.gl,mh]
  rw[e];have o:(Tm.mk 9 i s [b,st,n]).ok=true:=Tm.JH hs.ok rfl (by intro t c;simp only[lF,w4,sN] at c;rcases c with rfl|rfl|rfl;all_goals first|exact r.ok|exact g.ok|exact j.ok);have hle:(Tm.mk 9 i s [b,st,n]).abg (M+8192)=true:=Tm.A4 (hs.mono (by omega)).abg (by intro t c;simp only[lF,w4,sN] at c;rcases c with rfl|rfl|rfl;all_goals first|exact up _ r|exact up _ g|exact up _ j);refine⟨Jz _ _ g.ok ?_,A' (by omega) _ _ (up _ g) ?_⟩<;>
  ·intro t c;simp only[lF,w4,sN] at c;rcases c with rfl|rfl|rfl
   ·first|exact y.ok|exact up _ y
   ·first|exact j.ok|exact up _ j
   ·first|exact o|exact hle
def Tm.A5(room k i:Int)(s:Ty)(l:List Tm):(Tm.mk k i s l).I7 room=if(Tm.mk k i s l).root=true then(if((Tm.mk k i s l).gl.abc:Int)-((Tm.mk k i s l).abc:Int)>room then none else some (some (Tm.mk k i s l).gl))
 else match Tm.sx room l with
  |none=>none|some none=>some none|some (some a)=>some (some (.mk k i s a)):=by rw[Tm.I7]
def Jp{M room:Int}(o:0<=M)(t:Tm):Sm M t->t.abc<=8192->∀e,t.I7 room=some (some e)->e.ok=true/\e.abg (M+8192)=true/\(e.abc:Int)<=t.abc+room:=by
 induction t using Tm.ind with
 |h k i s l p=>
  intro hs hn e h;rw[Tm.A5] at h
  by_cases f:(Tm.mk k i s l).root=true
  ·rw[ee f] at h
   split at h
   ·cases h
   ·obtain rfl:=iw (iw h);obtain⟨q,r⟩:=R2 o hs hn f;exact⟨q,r,by omega⟩
  ·rw[ea f] at h;have up:∀u,Sm M u->u.abg (M+8192)=true:=λu hu=>(hu.mono (by omega)).abg;have g:=hn;rw[Tm.ef] at g
   have w:∀(ts a:List Tm),(∀t∈ts,t∈l)->Tm.sx room ts=some (some a)->a.length=ts.length/\(∀t∈a,t.ok=true/\t.abg (M+8192)=true)/\(eC Tm.abc a:Int)<=eC Tm.abc ts+room:=by
    intro ts
    induction ts with
    |nil=>intro a _ h;rw[Tm.sx] at h;cases h
    |cons t ts j=>
     intro a hm h;rw[Tm.sx] at h;have b:=hm t (by simp);have x:=eL Tm.abc b;have c:=hs.arg t b
     split at h
     ·cases h
     ·rename_i u hu;obtain rfl:=iw (iw h);obtain⟨a1,a2,a3⟩:=p t b c (by omega) u hu;refine⟨rfl,?_,by simp only[eC];omega⟩;intro v hv;rcases lF.1 hv with rfl|hv
      ·exact⟨a1,a2⟩
      ·have:=hs.arg v (hm v (by simp[hv]));exact⟨this.ok,up _ this⟩
     ·split at h
      ·cases h
      ·cases h
      ·rename_i m d;obtain rfl:=iw (iw h);obtain⟨a1,a2,a3⟩:=j m (λu hu=>hm u (by simp[hu])) d;refine⟨by simp[a1],?_,by simp only[eC];omega⟩;intro v hv;rcases lF.1 hv with rfl|hv
       ·exact⟨c.ok,up _ c⟩
       ·exact a2 v hv
   split at h
   ·cases h
   ·cases h
   ·rename_i m d;obtain rfl:=iw (iw h);obtain⟨a1,a2,a3⟩:=w l m (λt h=>h) d;refine⟨Tm.JH hs.ok a1 λt n=>(a2 t n).1,Tm.A4 (hs.mono (by omega)).abg λt n=>(a2 t n).2,?_⟩;rw[Tm.ef,Tm.ef];omega
def Gw(room:Int)(t:Tm):t.nf=true↔t.I7 room=some none:=by
 induction t using Tm.ind with
 |h k i s l f=>
  rw[Tm.Ot,Tm.A5]
  have g:∀ts:List Tm,(∀t∈ts,t∈l)->(ts.all Tm.nf=true↔Tm.sx room ts=some none):=by
   intro ts
   induction ts with
   |nil=>intro _;simp[Tm.sx]|cons t ts b=>
    intro hm;have j:=f t (hm t (by simp));have m:=b λu hu=>hm u (by simp[hu]);rw[xd,gL,j,m,Tm.sx];constructor
    ·rintro⟨c,d⟩;rw[c,d]
    ·intro h
     split at h
     ·cases h
     ·cases h
     ·rename_i c
      split at h
      ·cases h
      ·rename_i d;exact⟨c,d⟩
      ·cases h
  have:=g l λt h=>h
  by_cases a:(Tm.mk k i s l).root=true
  ·rw[ee a,a];simp
   try(split<;>simp)
  ·rw[ea a];simp only[gL,WC,this];constructor
   ·rintro⟨_,e⟩;rw[e]
   ·intro h;refine⟨by simpa using a,?_⟩
    split at h
    ·cases h
    ·rename_i e;exact e
    ·cases h
def Qx{M:Int}{t:Tm}(hs:Sm M t)(hn:t.abc<=8192)(f:t.root=true):(t.gl.abc:Int)<=1000000000:=by
 have j:=Tm.IY hs.ok f;cases j with
 |app=>
  rename_i i s c d b a;rw[Tm.ef] at hn;simp only[eC,Tm.ef] at hn;have l:=hs.arg (.mk 2 c d [b]) (by simp);have o:=Tm.rP a b 0 (l.arg b (by simp)).ok;have p:=Tm.iZ b 0;have hmul:b.abi 0*a.abc<=8192*8192:=Fg (by omega) (by omega)
  have e:(Tm.mk 3 i s [.mk 2 c d [b],a]).gl=Tm.m7 0 b a:=by simp[Tm.gl]
  rw[e];omega
 |proj m=>
  rw[Tm.ef] at hn;simp only[eC,Tm.ef] at hn;rcases m with rfl|rfl<;>(simp[Tm.gl];omega)
 |zero m=>
  rename_i k q i s c d b st
  have g:k≠3/\k≠11/\k≠12:=by omega
  have:(Tm.mk k i s [b,st,.mk q c d []]).gl=b:=by simp[Tm.gl,g.1,g.2.1,g.2.2]
  rw[this];rw[Tm.ef] at hn;simp only[eC,Tm.ef] at hn;omega
 |succ=>
  rename_i i s c d b st n
  have e:(Tm.mk 6 i s [b,st,.mk 5 c d [n]]).gl=mh st [n,.mk 6 i s [b,st,n]]:=by simp[Tm.gl,mh]
  rw[e,oT];rw[Tm.ef] at hn;simp only[eC,Tm.ef,lL,wE] at hn|-;omega
 |cons=>
  rename_i i s c d b st h n
  have e:(Tm.mk 9 i s [b,st,.mk 8 c d [h,n]]).gl=mh st [h,n,.mk 9 i s [b,st,n]]:=by simp[Tm.gl,mh]
  rw[e,oT];rw[Tm.ef] at hn;simp only[eC,Tm.ef,lL,wE] at hn|-;omega
def P9{M:Int}(P:0<=M/\M<=90000000000){nh:List HC}{p:Nat}{t:Tm}(L:NR nh p t)(hs:Sm M t)(hn:t.abc<=8192)(d:t.root=true):pJ (some p) nh=some (t.gl.abc:Int):=by
 have Q:=DT P L hs hn d;have D:=Tm.IY hs.ok d;obtain⟨x,R,f,e3,e4,l,e6,e7,e8⟩:=L.inv;unfold pJ mN;simp only[cl,R];cases D with
 |app=>
  rename_i i s m o b a;simp only[Tm.eN,Tm.eG] at f l;obtain⟨pf,pa,r,S,T⟩:=l.inv2;obtain⟨y,f1,f2,f3,f4,f5,_⟩:=S.inv;simp only[Tm.eN,Tm.eG] at f2 f5;obtain⟨pb,E,v⟩:=f5.inv1;have F:=hs.arg (.mk 2 m o [b]) (by simp);have U:=hs.arg a (by simp);have B:=F.arg b (by simp);rw[Tm.ef] at hn;simp only[eC,Tm.ef] at hn;obtain⟨z,g1,_,_,_,_,g6,_⟩:=v.inv;obtain⟨u,g,_,_,_,_,j,_⟩:=T.inv;rw[f,ee (by decide),r];simp only[eU,gx,js,m4,cl,f1,E,g1];rw[count_eq (M:=M) (by omega) nh FU b pb 0 (by rw[fy];omega) v B (by omega) (by omega)];simp only[cl,g,eb,g6,j];have V:=Tm.iZ b 0;have hmul:b.abi 0*a.abc<=8192*8192:=Fg (by omega) (by omega);have W:=Tm.rP a b 0 B.ok;have X:=a.eQ
  have e:(Tm.mk 3 i s [.mk 2 m o [b],a]).gl=Tm.m7 0 b a:=by simp[Tm.gl]
  rw[e]
  have hint:(b.abi 0:Int)*((a.abc:Int)-1)=((b.abi 0*a.abc:Nat):Int)-(b.abi 0:Int):=by rw[Tk,TD];simp
  rw[fG (by omega) (by omega),zM (by rw[hint];omega) (by rw[hint];omega),hint,fu (by omega) (by omega)]
  congr 1
  omega
 |proj N=>
  rename_i k i s m o a b;obtain⟨p',Y,g1,g2,g3⟩:=Q;simp only[Tm.eN,Tm.eG] at f l;obtain⟨z,g,_,_,_,_,j,_⟩:=g3.inv
  have c:k≠3/\k≠6/\k≠9:=by omega
  rw[f,ea (by simpa using c.1),ea (by simpa using c.2.1),ea (by simpa using c.2.2),g1];simp only[eb,cl,g,j]
 |zero N=>
  rename_i k Z i s m o b st;simp only[Tm.eN,Tm.eG] at f l;obtain⟨pb,ps,O,r,v,q,C⟩:=l.Ld;obtain⟨y,f1,f2,f3,f4,f5,_⟩:=C.inv;obtain⟨z,g,_,_,_,_,j,_⟩:=v.inv;simp only[Tm.eN,Tm.eG] at f2 f5
  have c:k≠3/\k≠11/\k≠12:=by omega
  have:(Tm.mk k i s [b,st,.mk Z m o []]).gl=b:=by simp[Tm.gl,c.1,c.2.1,c.2.2]
  rw[this];rcases N with⟨rfl,rfl⟩|⟨rfl,rfl⟩
  ·rw[f,ea (by decide),ee (by decide),r];simp only[eU,gx,jv,js,m4,cl,f1,f2,g,j];rw[ea (by decide)];rfl
  ·rw[f,ea (by decide),ea (by decide),ee (by decide),r];simp only[eU,gx,jv,js,m4,cl,f1,f2,g,j];rw[ea (by decide)];rfl
 |succ=>
  rename_i i s m o b st n;simp only[Tm.eN,Tm.eG] at f l;obtain⟨pb,ps,O,r,v,q,C⟩:=l.Ld;obtain⟨y,f1,f2,f3,f4,f5,_⟩:=C.inv;simp only[Tm.eN,Tm.eG] at f2 f5;obtain⟨pn,w,A⟩:=f5.inv1;obtain⟨z1,g,_,_,_,_,j,_⟩:=v.inv;obtain⟨z2,G,_,_,_,_,H,_⟩:=q.inv;obtain⟨z3,I,_,_,_,_,J,_⟩:=A.inv;rw[Tm.ef] at hn;simp only[eC,Tm.ef] at hn
  have e:(Tm.mk 6 i s [b,st,.mk 5 m o [n]]).gl=mh st [n,.mk 6 i s [b,st,n]]:=by simp[Tm.gl,mh]
  rw[e,oT];simp only[eC,Tm.ef,lL,wE];rw[f,ea (by decide),ee (by decide),r];simp only[eU,gx,jv,js,m4,cl,f1,f2,w,g,G,I,j,H,J];rw[ee (by decide)];simp only[eb];rw[zM (a:=2) (by omega) (by omega),fu (a:=2) (by omega) (by omega),fu (b:=2*(n.abc:Int)) (by omega) (by omega),fu (b:=1) (by omega) (by omega),fu (b:=(b.abc:Int)) (by omega) (by omega),fu (by omega) (by omega)]
  congr 1
  omega
 |cons=>
  rename_i i s m o b st h n;simp only[Tm.eN,Tm.eG] at f l;obtain⟨pb,ps,O,r,v,q,C⟩:=l.Ld;obtain⟨y,f1,f2,f3,f4,f5,_⟩:=C.inv;simp only[Tm.eN,Tm.eG] at f2 f5;obtain⟨ph,pn,w,K,A⟩:=f5.inv2;obtain⟨z1,g,_,_,_,_,j,_⟩:=v.inv;obtain⟨z2,G,_,_,_,_,H,_⟩:=q.inv;obtain⟨z3,I,_,_,_,_,J,_⟩:=A.inv;obtain⟨z4,q1,_,_,_,_,q6,_⟩:=K.inv;rw[Tm.ef] at hn;simp only[eC,Tm.ef] at hn
  have e:(Tm.mk 9 i s [b,st,.mk 8 m o [h,n]]).gl=mh st [h,n,.mk 9 i s [b,st,n]]:=by simp[Tm.gl,mh]
  rw[e,oT];simp only[eC,Tm.ef,lL,wE];rw[f,ea (by decide),ea (by decide),ee (by decide),r];simp only[eU,gx,jv,js,m4,cl,f1,f2,w,g,G,I,q1,j,H,J,q6];rw[ee (by decide)];simp only[eb];rw[zM (a:=2) (by omega) (by omega),fu (a:=3) (by omega) (by omega),fu (b:=(h.abc:Int)) (by omega) (by omega),fu (b:=2*(n.abc:Int)) (by omega) (by omega),fu (b:=1) (by omega) (by omega),fu (b:=(b.abc:Int)) (by omega) (by omega),fu (by omega) (by omega)]
  congr 1
  omega
def FD{α:Type}(a:List α)(x y:α)(b:List α):(a++x::b).set a.length y=a++y::b:=by simp
def Dd(room:Int)(p:Nat)(t:Tm)(nh:List HC)(o:Option ((Option Nat)×Int×List HC)):Prop:=
 match t.I7 room with
 |none=>∃a,o=some (none,4,a)/\NE nh a|some none=>∃a,o=some (none,0,a)/\NE nh a|some (some c)=>∃b a,o=some (some b,0,a)/\NE nh a/\NR a b c
def TV{M room:Int}(hM:0<=M/\M<=80000000000)(X:-100000<=room/\room<=100000):∀(n:Nat) (t:Tm) (p:Nat) (nh:List HC),t.abc<=n->NR nh p t->Sm M t->t.abc<=8192->Dd room p t nh (jB n (some p) room nh):=by
 intro n
 induction n with
 |zero=>intro t p nh h;have:=t.eQ;omega
 |succ n ih=>
  intro t p nh hn P hs H;obtain⟨x,Y,e2,e3,e4,Z,e6,e7,e8⟩:=P.inv;rw[jB];simp only[cl,Y]
  by_cases K:x.normal=true
  ·rw[ee K];unfold Dd;rw[(Gw room t).1 (e8 K)];exact⟨nh,rfl,NE.refl _⟩
  ·rw[ea K,LI P hs.ok];simp only[cl];cases t with
   |mk k i s l=>
    by_cases f:(Tm.mk k i s l).root=true
    ·rw[ee f,P9 (by omega) P hs H f];simp only[cl,gD,e6];obtain⟨N,c,g1,g2,g3⟩:=DT (M:=M) (by omega) P hs H f;have ah:=Qx hs H f;rw[fG (by omega) (by omega)];unfold Dd;rw[Tm.A5,ee f]
     by_cases C:((Tm.mk k i s l).gl.abc:Int)-((Tm.mk k i s l).abc:Int)>room
     ·rw[ee C,ee C];exact⟨nh,rfl,NE.refl _⟩
     ·rw[ea C,ea C,g1];exact⟨N,c,rfl,NE.kp g2,g3⟩
    ·rw[ea f];simp only[Tm.eN,Tm.eG,Tm.gy,Tm.fv] at e2 e3 e4 Z;have F:=H;rw[Tm.ef] at hn F;have hlen:=Tm.fQ l;have Q:x.abb.length=l.length:=Z.len;rw[eE (by omega)];simp only[eo,ey];have af:=hs.idx;have R:∀u:Tm,Sm M u->0<=u.fr/\u.fr<=M+1:=λu hu=>hu.fr hM.1
     have loop:∀(ts pre:List Tm) (ps I:List (Option Nat)) (j:Nat) (A:List HC),l=pre++ts->x.abb=I++ps->I.length=j->NE nh A->uC A ps ts->uC A I pre->match Tm.sx room ts with
       |none=>∃c,ft (λ(v:Int) (B:Option Nat)=>(λ(w:List HC)=>
         iG (jB n B room w) λg m a=>
         if(eW m 0)=true then(some (.ret (none,m,a)))
         else(if(Option.isSome g)=true then(
         cv (HC.er a p) λd=>
         g_ (yl d.abb)<|cv (eI d.abb v) λG=>
         ei (gW (some p) (wV d.abb v g) a) λy r=>
         some (.ret (y,0,r)))
         else(some ((.next a):gu (List HC) ((Option Nat)×Int×List HC)))))) ps j A=some (.inr (none,4,c))/\NE nh c
       |some none=>∃c,ft (λ(v:Int) (B:Option Nat)=>(λ(w:List HC)=>
         iG (jB n B room w) λg m a=>
         if(eW m 0)=true then(some (.ret (none,m,a)))
         else(if(Option.isSome g)=true then(
         cv (HC.er a p) λd=>
         g_ (yl d.abb)<|cv (eI d.abb v) λG=>
         ei (gW (some p) (wV d.abb v g) a) λy r=>
         some (.ret (y,0,r)))
         else(some ((.next a):gu (List HC) ((Option Nat)×Int×List HC)))))) ps j A=some (.inl c)/\NE nh c
       |some (some S)=>∃N c,ft (λ(v:Int) (B:Option Nat)=>(λ(w:List HC)=>
         iG (jB n B room w) λg m a=>
         if(eW m 0)=true then(some (.ret (none,m,a)))
         else(if(Option.isSome g)=true then(
         cv (HC.er a p) λd=>
         g_ (yl d.abb)<|cv (eI d.abb v) λG=>
         ei (gW (some p) (wV d.abb v g) a) λy r=>
         some (.ret (y,0,r)))
         else(some ((.next a):gu (List HC) ((Option Nat)×Int×List HC)))))) ps j A=some (.inr (some N,0,c))/\NE nh c/\NR c N (.mk k i s (pre++S)):=by
      intro ts
      induction ts with
      |nil=>
       intro pre ps I j A _ _ _ D hp _;cases hp;rw[Tm.sx];exact⟨A,rfl,D⟩
      |cons t ts aa=>
       intro pre ps I j A O hx hq D hp J;cases hp with
       |cons q1 q2=>
        rename_i q ps
        have T:t∈l:=by rw[O];simp
        have ai:=eL Tm.abc T;have U:=hs.arg t T;have z:=ih t q A (by omega) q1 U (by omega);unfold Dd at z;rw[Tm.sx];rw[fm]
        split at z
        ·rename_i E;obtain⟨c,a1,a2⟩:=z;rw[E,a1];exact⟨c,rfl,D.trans a2⟩
        ·rename_i E;obtain⟨c,a1,a2⟩:=z;rw[E,a1];have:=aa (pre++[t]) ps (I++[some q]) (j+1) c (by simp[O]) (by simp[hx]) (by simp[hq]) (D.trans a2) (a2.list q2) ((a2.list J).append (.cons (a2.node _ _ q1) .nil))
         revert this
         cases Tm.sx room ts with
         |none=>exactλh=>h|some o=>
          cases o with
          |none=>exactλh=>h|some S=>simp only[ux,WH,oh];exactλh=>h
        ·rename_i t' E;obtain⟨W,c,a1,a2,a3⟩:=z;rw[E,a1];simp only[o_];rw[ea (by decide),ee (show(some W).isSome=true from rfl)];obtain⟨b,V⟩:=(D.trans a2).get p x Y;rw[V];simp only[cl];obtain⟨s1,s2,s3⟩:=Jp hM.1 t U (by omega) t' E;rw[show yl x.abb=true from vF ⟨by rw[Q,O];simp;omega,by rw[Q];unfold Kw;omega⟩]
         have ab:eI x.abb (j:Int)=some (some q):=by rw[jJ,hx,<-hq];simp
         have ad:wV x.abb (j:Int) (some W)=I++some W::ps:=by
          unfold wV;rw[hx,<-hq];simp
         simp only[eo,ab,cl,ad];unfold gW;simp only[cl,V]
         obtain⟨ae,b1,b2,b3⟩:=r9 (k:=k) (i:=i) (s:=s) (ps:=I++some W::ps) (ts:=pre++t'::ts) (nh:=c) ((a2.list J).append (.cons a3 (a2.list q2))) (by
          rw[O,Eo] at F;rw[Eo];simp only[eC] at F|-
          omega) (by omega) (by
          intro u hu;rcases sy.1 hu with hu|hu
          ·have:=R u (hs.arg u (by rw[O];simp[hu]));omega
          ·rcases lF.1 hu with rfl|hu
           ·have:=Tm.Qt u (M:=M+8192) (by omega) s1 s2;omega
           ·have:=R u (hs.arg u (by rw[O];simp[hu]));omega)
         rw[e2,e3,e4,b1];exact⟨c.length,ae,rfl,(D.trans a2).trans (NE.kp b2),b3⟩
     have:=loop l [] x.abb [] 0 nh rfl rfl rfl (NE.refl _) Z .nil;unfold Dd;rw[Tm.A5,ea f]
     have L:Tm.sx room l=some none->(Tm.mk k i s l).nf=true:=by
      intro h;rw[Gw room,Tm.A5,ea f,h]
     revert this L
     cases Tm.sx room l with
     |none=>
      rintro⟨c,a1,a2⟩ _;have e:((0:Nat):Int)=0:=rfl;rw[a1];exact⟨c,rfl,a2⟩
     |some o=>
      cases o with
      |none=>
       rintro⟨c,a1,a2⟩ L;rw[a1];simp only[cl,en];obtain⟨b,V⟩:=a2.get p x Y;rw[V];simp only[cl];exact⟨_,rfl,a2.trans (NE.flag (x:={x with normal:=b}) (a2.node _ _ P) V (L rfl))⟩
      |some l'=>
       rintro⟨N,c,a1,a2,a3⟩ _;rw[a1];exact⟨N,c,rfl,a2,a3⟩
def OO{M:Int}(L:0<=M/\M<=80000000000):∀(n:Nat) (t:Tm) (p:Nat) (nh:List HC),t.abc<=n->NR nh p t->Sm M t->t.abc<=8192->∃d,jj n (some p) nh=some (t.nf,d)/\NE nh d:=by
 intro n
 induction n with
 |zero=>intro t p nh h;have:=t.eQ;omega
 |succ n G=>
  intro t p nh hn z hs A;obtain⟨x,D,N,O,P,B,Q,R,H⟩:=z.inv;rw[jj];simp only[cl,D]
  by_cases o:x.normal=true
  ·rw[ee o,H o];exact⟨nh,rfl,NE.refl _⟩
  ·rw[ea o,LI z hs.ok];simp only[cl];cases t with
   |mk k i s l=>
    by_cases a:(Tm.mk k i s l).root=true
    ·rw[ee a,Tm.Ot,a];exact⟨nh,rfl,NE.refl _⟩
    ·rw[ea a];simp only[Tm.eG] at B;rw[Tm.ef] at hn A;have hlen:=Tm.fQ l;have I:x.abb.length=l.length:=B.len;rw[eE (by omega)];simp only[eo,ey]
     have loop:∀(ts:List Tm) (ps:List (Option Nat)) (j:Nat) (e:List HC),(∀t∈ts,t∈l)->NE nh e->uC e ps ts->∃d,ft (λ(E:Int) (q:Option Nat)=>(λ(r:List HC)=>
        ei (jj n q r) λv g=>
        if v=true then(some (.next g))else(some ((.ret (false,g)):gu (List HC) (Bool×List HC))))) ps j e=some (if ts.all Tm.nf=true then .inl d else .inr (false,d))/\NE nh d:=by
      intro ts
      induction ts with
      |nil=>intro ps j e _ m h;cases h;exact⟨e,rfl,m⟩
      |cons t ts C=>
       intro ps j e hm m h;cases h with
       |cons q1 J=>
        have w:=hm t (by simp);have K:=eL Tm.abc w;obtain⟨y,a1,a2⟩:=G t _ e (by omega) q1 (hs.arg t w) (by omega);rw[fm,a1];simp only[eb]
        by_cases c:t.nf=true
        ·rw[ee c];simp only[cl,fA,xd,c,z8];exact C _ (j+1) y (λu hu=>hm u (by simp[hu])) (m.trans a2) (a2.list J)
        ·rw[ea c];simp only[cl,BT,xd,c,UQ];exact⟨y,rfl,m.trans a2⟩
     obtain⟨d,a1,a2⟩:=loop l x.abb 0 nh (λt h=>h) (NE.refl _) B;rw[a1]
     by_cases f:l.all Tm.nf=true
     ·rw[ee f];simp only[cl,en];obtain⟨b,F⟩:=a2.get p x D;rw[F]
      have c:(Tm.mk k i s l).nf=true:=by
       rw[Tm.Ot,f];simpa using a
      rw[c];exact⟨_,rfl,a2.trans (NE.flag (x:={x with normal:=b}) (a2.node _ _ z) F c)⟩
     ·rw[ea f]
      have c:(Tm.mk k i s l).nf=false:=by
       rw[Tm.Ot];simp[f]
      rw[c];exact⟨d,rfl,a2⟩
def sq{t:Tm}(h:t.wt<=1000000000):kS t=some (if t.err=0 then(t.abc:Int)else 0,t.err):=by
 unfold kS Tm.err;rw[vN FU t (by rw[fy];exact h) h]
 by_cases a:t.ok=true
 ·simp only[a,if_true,eb,gD]
  by_cases b:4096<t.abc
  ·rw[ee b,ee (by omega)];rfl
  ·rw[ea b,ea (by omega)];rfl
 ·simp only[a,eb];rfl
def vn{t:Tm}(h:t.wt<=1000000000):qb t=some t.err:=by
 unfold qb;rw[sq h];rfl
def Tm.hZ{t:Tm}(h:t.err=0):t.ok=true/\t.abc<=4096:=by
 unfold Tm.err at h
 split at h
 ·rename_i a
  split at h
  ·omega
  ·exact⟨a,by omega⟩
 ·omega
def Pn:∀(n:Nat) (t:Tm) (b:Int) (s:Bool),t.abc<=n->t.ok=true->t.abc<=1000000->0<=b->b+t.abc<=100000000->jM n t b (λ(s:Bool) (f:Int) (g:Int)=>rI f g s) s=some (s&&t.abg 536870912):=by
 intro n
 induction n with
 |zero=>intro t b s h;have:=t.eQ;omega
 |succ n v=>
  intro t b s h w hn D m;cases t with
  |mk k i ty l=>
   obtain⟨o1,o2,x,y,E⟩:=Tm.l6 w;rw[Tm.ef] at h hn m;have hlen:=Tm.fQ l;rw[jM];simp only[Tm.eG,Tm.eN,Tm.gy,ey,gB];rw[Tm.fT]
   by_cases e:k=1
   ·have z:=o1 e;subst z;rw[ee e];unfold rI;cases s with
    |true=>simp[Jx];rfl|false=>simp;rfl
   ·rw[ea e];have hi:=x e;subst hi
    have o:fU (eH k 2) (fj .i64 b 1) b=b+gC k:=by
     unfold gC
     by_cases p:k=2
     ·subst p;rw[ee rfl];exact fu (by omega) (by omega)
     ·rw[ea p]
      have:eH k 2=false:=by simp[eH,p]
      rw[this];simp
    have A:=ly k;rw[eE (l:=l) (by omega)];simp only[eo,o]
    have loop:∀(ts:List Tm) (j:Nat) (s:Bool),(∀t∈ts,t∈l)->ft (λ(B:Int) (q:Tm)=>(λ(a:Bool)=>
      cv (jM n q (b+gC k) (λ(s:Bool) (f:Int) (g:Int)=>rI f g s) a) λc=>
      some ((.next c):gu Bool Bool))) ts j s=some (.inl (s&&ts.all (Tm.abg 536870912))):=by
     intro ts
     induction ts with
     |nil=>intro j s _;simp|cons t ts r=>
      intro j s hm;have d:=hm t (by simp);have C:=eL Tm.abc d;rw[fm,v t _ _ (by omega) (y t d) (by omega) (by omega) (by omega)];simp only[cl,fA];rw[r (j+1) _ λu hu=>hm u (by simp[hu])];simp[Bool.and_assoc]
    rw[loop l 0 s λt h=>h];simp
def JA{t:Tm}(a:t.ok=true)(hn:t.abc<=1000000):xc t=some (t.abg 536870912):=by
 unfold xc rH;rw[Pn FU t 0 true (by rw[fy];omega) a hn (by omega) (by omega)];simp
def Tm.z:Tm:=.mk 0 0 (.mk 0 []) []
def NR.UD{nh:List HC}{c:Nat}{st a:fV}(h:HC.fp nh c=some st):∀n,(∀p t,t.abc<=n->NR nh p t->NR (kx nh c (HC.gd a)) p t):=by
 have j:=HC.gX h
 have d:∀q y,HC.er nh q=some y->HC.er (kx nh c (HC.gd a)) q=some y:=by
  intro q y hy;have e:=HC.ez hy
  have f:c≠q:=by
   rintro rfl;rw[j] at e;cases e
  unfold HC.er kx;rw[KB f,e]
 intro n
 induction n with
 |zero=>intro p t h;have:=t.eQ;omega
 |succ n m=>
  intro p t o r;obtain⟨y,v,w,x,z,A,B,C,D⟩:=r.inv
  have b:∀(ts:List Tm) (ps:List (Option Nat)),(∀t∈ts,t.abc<=n)->uC nh ps ts->uC (kx nh c (HC.gd a)) ps ts:=by
   intro ts
   induction ts with
   |nil=>intro ps _ h;cases h;exact .nil
   |cons t ts g=>
    intro ps hm h;cases h with
    |cons g1 g2=>exact .cons (m _ _ (hm t (by simp)) g1) (g _ (λu hu=>hm u (by simp[hu])) g2)
  refine NR.of (d _ _ v) w x z (b _ _ ?_ A) B C D;intro u hu;cases t with
  |mk k i s l=>
   rw[Tm.ef] at o;have:=eL Tm.abc hu;simp only[Tm.eG] at this;omega
def DH{nh:List HC}{b:Nat}{st a:fV}(h:HC.fp nh b=some st):HC.fp (kx nh b (HC.gd a)) b=some a:=by
 have d:=HC.gX h;have c:=(pG.1 d).1;unfold HC.fp kx;simp[c]
structure At (nh:List HC) (s0:Nat) (t:Tm) (m:Int):Prop where
 st:∃p,HC.fp nh s0=some ⟨some p,m⟩/\NR nh p t
def SP{M:Int}(i:0<=M/\M<=80000000000){nh:List HC}{d:Nat}{t:Tm}{m:Int}(h:At nh d t m)(hs:Sm M t)(hn:t.abc<=4096)(hm:0<=m/\m<=1000000):match t.I7 (4096-t.abc)with
  |none=>∃a,jN (some d) nh=some (false,4,a)|some none=>∃a,jN (some d) nh=some (false,0,a)/\At a d t m|some (some g)=>∃a,jN (some d) nh=some (true,0,a)/\At a d g (m+1):=by
 obtain⟨p,e,f⟩:=h.st;obtain⟨x,j,_,_,_,_,k,_⟩:=f.inv;have n:=t.eQ;have b:=TV (M:=M) (room:=4096-t.abc) i (by omega) FU t p nh (by rw[fy];omega) f hs (by omega);unfold jN q8;simp only[cl,e,j,k];rw[fG (by omega) (by omega)];unfold Dd at b
 split at b
 ·rename_i c;obtain⟨a,a1,a2⟩:=b
  try rw[c]
  rw[a1];exact⟨a,rfl⟩
 ·rename_i c;obtain⟨a,a1,a2⟩:=b
  try rw[c]
  rw[a1];exact⟨a,rfl,⟨p,a2.state _ _ e,a2.node _ _ f⟩⟩
 ·rename_i g c;obtain⟨l,a,a1,a2,a3⟩:=b
  try rw[c]
  rw[a1];have g1:=a2.state _ _ e;simp only[o_];rw[ea (by simp[eW])];simp only[g1,cl];rw[fu (by omega) (by omega)];refine⟨_,rfl,⟨l,DH (DH g1),?_⟩⟩;exact NR.UD (DH g1) _ _ _ (jh _) (NR.UD g1 _ _ _ (jh _) a3)
def Tm.norm:Nat->Int->Tm->Tm×Int×Int
 |0,m,t=>if t.nf=true then(t,m,0)else(Tm.z,0,5)|k+1,m,t=>match t.I7 (4096-t.abc)with
  |none=>(Tm.z,0,4)|some none=>(t,m,0)|some (some a)=>Tm.norm k (m+1) a
def Lg{k:Nat}{m:Int}{t:Tm}(h:t.I7 (4096-t.abc)=none):t.norm (k+1) m=(Tm.z,0,4):=by rw[Tm.norm,h]
def Jb{k:Nat}{m:Int}{t:Tm}(h:t.I7 (4096-t.abc)=some none):t.norm (k+1) m=(t,m,0):=by rw[Tm.norm,h]
def I6{k:Nat}{m:Int}{t a:Tm}(h:t.I7 (4096-t.abc)=some (some a)):t.norm (k+1) m=a.norm k (m+1):=by rw[Tm.norm,h]
def Gl{σ ρ:Type}{F:σ->Option (gu σ ρ)}:∀{n m:Nat} {s:σ} {o:σ⊕ρ},n<=m->oH F n s=some o->oH F m s=some o
 |0,_,_,_,_,h=>by cases h
 |n+1,0,_,_,hm,_=>by omega|n+1,m+1,s,o,hm,h=>by
  rw[nP] at h|-;obtain⟨c,b,a⟩:=eO h;rw[b];simp only[cl];cases c with
  |next d=>exact Gl (by omega) a|DQ d=>exact a|ret r=>exact a
def LY(n:Nat)(steps:Int)(I:0<=steps/\steps<=65536):∀(k:Nat) (m:Int) (t:Tm) (nh:List HC),(k:Int)=steps-m->0<=m->At nh n t m->Sm (536870912+8192*m) t->t.abc<=4096->∃o,oH (λ(a:List HC)=>
   cv (HC.fp a n) λq=>
   if(tW q.steps steps)=true then(
   iG (jN (some n) a) λs i c=>
   if(eW i 0)=true then(some (.ret ((Tm.mk 0 0 (Ty.mk 0 []) []),0,i)))
   else(if s=true then(some (.next c))
   else(cv (HC.fp c n) λj=>
   cv (iS FU j.term c) λu=>
   some (.ret (u,j.steps,0)))))
   else(some ((.DQ a):gu (List HC) (Tm×Int×Int)))) (k+1) nh=some o/\gm (λ(a:List HC)=>
    cv (HC.fp a n) λv=>
    ei (jj FU v.term a) λw f=>
    if w=true then(
    cv (HC.fp f n) λl=>
    cv (iS FU l.term f) λx=>
    some (x,l.steps,0))
    else(some ((Tm.mk 0 0 (Ty.mk 0 []) []),0,5))) (λr=>some r) o=some (t.norm k m):=by
 intro k
 induction k with
 |zero=>
  intro m t nh B hm g hs hn;obtain⟨p,y,z⟩:=g.st;refine⟨.inl nh,?_,?_⟩
  ·rw[nP];simp only[y,cl];rw[ea (by rw[lS];omega)];rfl
  ·rw[en];simp only[y,cl];obtain⟨d,a1,a2⟩:=OO (M:=536870912+8192*m) (by omega) FU t p nh (by rw[fy];omega) z hs (by omega);rw[a1];simp only[eb,Tm.norm]
   by_cases h:t.nf=true
   ·rw[ee h,ee h];simp only[a2.state _ _ y,cl];rw[Oc (M:=536870912+8192*m) d FU t p (by rw[fy];omega) hs (a2.node _ _ z)];rfl
   ·rw[ea h,ea h];rfl
 |succ k C=>
  intro m t nh B hm g hs hn;obtain⟨p,y,z⟩:=g.st;have b:=SP (M:=536870912+8192*m) (by omega) g hs hn (by omega);rw[nP];simp only[y,cl];rw[ee (by rw[lS];omega)]
  split at b
  ·rename_i e;obtain⟨d,a1⟩:=b;rw[Lg e,a1];exact⟨_,rfl,rfl⟩
  ·rename_i e;obtain⟨d,a1,a2⟩:=b;obtain⟨D,E,F⟩:=a2.st;rw[Jb e,a1];simp only[o_];rw[ea (by decide),ea (by decide)];simp only[E,cl];rw[Oc (M:=536870912+8192*m) d FU t D (by rw[fy];omega) hs F];exact⟨_,rfl,rfl⟩
  ·rename_i A e;obtain⟨d,a1,a2⟩:=b;rw[I6 e,a1];simp only[o_];rw[ea (by decide)];simp only[if_true,cl,fA];obtain⟨G,H,c3⟩:=Jp (M:=536870912+8192*m) (by omega) t hs (by omega) A e;exact C (m+1) A d (by omega) (by omega) a2 ⟨G,by rw[show 536870912+8192*(m+1)=536870912+8192*m+8192 by omega];exact H,by omega⟩ (by omega)
def Sm.start{t:Tm}(h:t.err=0)(a:t.abg 536870912=true):Sm 536870912 t:=⟨(Tm.hZ h).1,a,by have:=(Tm.hZ h).2;omega⟩
def wT{t:Tm}(hw:t.wt<=1000000000)(steps:Int):kA t steps=some (if t.err=0 then(if 0<=steps/\steps<=65536/\t.abg 536870912=true then t.norm steps.toNat 0 else(Tm.z,0,1))else(Tm.z,0,t.err)):=by
 unfold kA;rw[vn hw];simp only[cl]
 by_cases he:t.err=0
 ·rw[ea (by simp[he]),ee he];obtain⟨g,hn⟩:=Tm.hZ he;simp only[ey]
  by_cases e:steps<0
  ·rw[ee ((lS _ _).2 e),ee trivial,ea (λh=>absurd h.1 (by omega))];rfl
  ·rw[ea (by rw[lS];exact e)]
   by_cases f:65536<steps
   ·rw[ee ((gD _ _).2 f),ee trivial,ea (λh=>absurd h.2.1 (by omega))];rfl
   ·rw[ea (by rw[gD];exact f),JA g (by omega)];simp only[cl]
    by_cases a:t.abg 536870912=true
    ·have c:nC (t.abg 536870912)=false:=by rw[a];rfl
     rw[ea (by rw[c];decide),ee ⟨by omega,by omega,a⟩];have b:=Sm.start he a;obtain⟨p,nh,a1,a2,a3⟩:=Tp (M:=536870912) (by omega) FU t [] (by rw[fy];omega) b;rw[a1];simp only[eb];have d:At (nh++[HC.gd (fV.mk (some p) 0)]) nh.length t 0:=⟨p,by unfold HC.fp;simp,a3.app⟩;obtain⟨o,i,j⟩:=LY nh.length steps (by omega) steps.toNat 0 t _ (by omega) (by omega) d (by simpa using b) hn;have k:=Gl (m:=FU) (by rw[fy];omega) i;rw[k];exact j
    ·have c:nC (t.abg 536870912)=true:=by simp[a]
     rw[ee c,ea (λh=>a h.2.2)];rfl
 ·rw[ee (by simp[he]),ea he];rfl
mutual
def Fm.abc:Fm->Nat
 |.mk _ _ ts l=>1+eC Tm.abc ts+Fm.oy l
def Fm.oy:List Fm->Nat
 |[]=>0|t::l=>t.abc+Fm.oy l
end
def Fm.rM(l:List Fm):Fm.oy l=eC Fm.abc l:=by
 induction l with
 |nil=>rfl|cons t l a=>simp[Fm.oy,eC,a]
def Fm.ef(k:Int)(s:Ty)(ts:List Tm)(l:List Fm):(Fm.mk k s ts l).abc=1+eC Tm.abc ts+eC Fm.abc l:=by rw[Fm.abc,Fm.rM]
def Fm.eQ(t:Fm):1<=t.abc:=by cases t;rw[Fm.abc];omega
def Fm.fQ(l:List Fm):l.length<=eC Fm.abc l:=iu _ _ λt _=>t.eQ
mutual
def Fm.wt:Fm->Nat
 |.mk _ s ts l=>1+s.abc+eC Tm.wt ts+Fm.M9 l
def Fm.M9:List Fm->Nat
 |[]=>0|t::l=>t.wt+Fm.M9 l
end
def Fm.DD(l:List Fm):Fm.M9 l=eC Fm.wt l:=by
 induction l with
 |nil=>rfl|cons t l a=>simp[Fm.M9,eC,a]
def Fm.fI(k:Int)(s:Ty)(ts:List Tm)(l:List Fm):(Fm.mk k s ts l).wt=1+s.abc+eC Tm.wt ts+eC Fm.wt l:=by rw[Fm.wt,Fm.DD]
def Fm.jt(t:Fm):1<=t.wt:=by cases t;rw[Fm.wt];omega
def Fm.oo(l:List Fm):l.length<=eC Fm.wt l:=iu _ _ λt _=>t.jt
def Fm.ind{p:Fm->Prop}(h:∀k s ts l,(∀t∈l,p t)->p (.mk k s ts l))(t:Fm):p t:=by
 have:∀n (t:Fm),t.abc<=n->p t:=by
  intro n
  induction n with
  |zero=>intro t a;have:=t.eQ;omega
  |succ n b=>
   intro t a;cases t with
   |mk k s ts l=>
    rw[Fm.ef] at a;exact h k s ts l λu hu=>b u (by have:=eL Fm.abc hu;omega)
 exact this _ t (jh _)
def Fm.iO(t:Fm):t.abc<=t.wt:=by
 induction t using Fm.ind with
 |h k s ts l a=>rw[Fm.ef,Fm.fI];have:=kJ a;have:=kJ (f:=Tm.abc) (g:=Tm.wt) (l:=ts) λx _=>x.iO;omega
def kR(k:Int):Bool:=decide (k=4\/k=5\/k=6\/k=7)
def qB(k:Int):Int:=if kR k=true then 1 else 0
def BU(k:Int):0<=qB k/\qB k<=1:=by unfold qB;split<;>omega
def ml(k:Int):ll k=some (kR k):=by
 unfold ll kR
 congr 1
 rw[By];simp
def pY(f:Fm):nM f=some (qB f.aba):=by
 unfold nM qB;rw[ml];simp only[cl]
 split<;>rfl
def Fm.node(k:Int)(s:Ty)(a n:Nat):Bool:=
 if k=1 then s.rq&&decide (a=2)&&decide (n=0)
 else if k=2\/k=3 then s.rq&&decide (a=0)&&decide (n=2)
 else kR k&&decide (s.err=0)&&decide (a=0)&&decide (n=1)
mutual
def Fm.ok:Fm->Bool
 |.mk k s ts l=>Fm.node k s ts.length l.length&&ts.all Tm.ok&&Fm.Iu l
def Fm.Iu:List Fm->Bool
 |[]=>true|t::l=>t.ok&&Fm.Iu l
end
def Fm.zo(l:List Fm):Fm.Iu l=l.all Fm.ok:=by
 induction l with
 |nil=>rfl|cons t l a=>simp[Fm.Iu,a]
def Fm.hY(k:Int)(s:Ty)(ts:List Tm)(l:List Fm):(Fm.mk k s ts l).ok=(Fm.node k s ts.length l.length&&ts.all Tm.ok&&l.all Fm.ok):=by rw[Fm.ok,Fm.zo]
def Fm.err(t:Fm):Int:=if t.ok=true then(if 4096<t.abc then 4 else 0)else 2
def hB{α:Type}{l:List α}:(l.length:Int)=0↔l=[]:=by cases l<;>simp;omega
def jO{α:Type}{l:List α}(h:(l.length:Int)=1):∃a,l=[a]:=by
 match l,h with
 |[a],_=>exact⟨a,rfl⟩|[],h=>simp at h
 |_::_::_,h=>simp at h;omega
def qJ{α:Type}{l:List α}(h:(l.length:Int)=2):∃a b,l=[a,b]:=by
 match l,h with
 |[a,b],_=>exact⟨a,b,rfl⟩|[],h=>simp at h
 |[_],h=>simp at h
 |_::_::_::_,h=>simp at h;omega
def xE{t:Tm}(h:t.wt<=1000000000):ku FU t=some t.ok:=zt FU t (by rw[fy];exact h) h
def zh:∀(n:Nat) (t:Fm),t.wt<=n->t.wt<=1000000000->lJ n t=some t.ok:=by
 intro n
 induction n with
 |zero=>intro t h;have:=t.jt;omega
 |succ n j=>
  intro t h i;cases t with
  |mk k s ts l=>
   rw[Fm.fI] at h i;rw[lJ,Fm.hY];simp only[Fm.eG,Fm.eN,Fm.hU,Fm.fv,ey,l7,p8,gB,fO,wD,ml,mO (t:=s) (by omega),cl,eU,gx]
   by_cases o:k=1
   ·simp only[o,if_true,Fm.node]
    by_cases g:(l.length:Int)=0
    ·have:=hB.1 g;subst this;cases f:s.rq with
     |false=>simp|true=>
      by_cases d:(ts.length:Int)=2
      ·obtain⟨a,b,rfl⟩:=qJ d;simp only[eC] at h i;simp only[d,if_true,js,m4,cl];rw[xE (t:=a) (by omega),xE (t:=b) (by omega)];cases c:a.ok<;>cases e:b.ok<;>simp[c,e]
      ·have c:¬ts.length=2:=by omega
       simp[d,c]
    ·have f:¬l.length=0:=by omega
     simp[g,f]
   ·simp only[o,pE,Fm.node]
    by_cases g:k=2\/k=3
    ·simp only[g,if_true]
     by_cases f:(ts.length:Int)=0
     ·have:=hB.1 f;subst this;cases d:s.rq with
      |false=>simp|true=>
       by_cases c:(l.length:Int)=2
       ·obtain⟨a,b,rfl⟩:=qJ c;simp only[eC] at h i;simp only[c,if_true,js,m4,cl];rw[j a (by omega) (by omega),j b (by omega) (by omega)];cases e:a.ok<;>cases m:b.ok<;>simp[e,m]
       ·have e:¬l.length=2:=by omega
        simp[c,e]
     ·have d:¬ts.length=0:=by omega
      simp[f,d]
    ·simp only[g,pE];cases f:kR k with
     |false=>simp|true=>
      by_cases d:(ts.length:Int)=0
      ·have:=hB.1 d;subst this
       by_cases c:s.err=0
       ·by_cases e:(l.length:Int)=1
        ·obtain⟨a,rfl⟩:=jO e;simp only[eC] at h i;simp only[c,e,if_true,js,cl];rw[j a (by omega) (by omega)];simp
        ·have m:¬l.length=1:=by omega
         simp[c,e,m]
       ·simp[c]
      ·have c:¬ts.length=0:=by omega
       simp[d,c]
def sh:∀(n:Nat) (t:Fm),t.abc<=n->t.abc<=1000000000->lM n t=some (t.abc:Int):=by
 intro n
 induction n with
 |zero=>intro t h;have:=t.eQ;omega
 |succ n b=>
  intro t h c;cases t with
  |mk k s ts l=>
   rw[Fm.ef] at h c;have f:=Fm.fQ l;have d:=Tm.fQ ts;rw[lM];simp only[Fm.eG,Fm.hU,ey,eE (l:=l) (by omega),eE (l:=ts) (by omega),eo]
   have e:=qk (ρ:=Int) (F:=λ(j:Int) (x:Tm) (v:Int)=>cv (gh FU x) λy=>some (gu.next (fj .i64 v y))) Tm.abc ts 0 1 (by omega) (by
    intro j x v a;have:=eL Tm.abc a;rw[oe FU x (by rw[fy];omega) (by omega)]
    rfl)
   have k2:=qk (ρ:=Int) (F:=λ(j:Int) (x:Fm) (v:Int)=>cv (lM n x) λy=>some (gu.next (fj .i64 v y))) Fm.abc l 0 (1+eC Tm.abc ts) (by omega) (by
    intro j x v a;have:=eL Fm.abc a;rw[b x (by omega) (by omega)]
    rfl)
   rw[show(1:Int)=((1:Nat):Int)from rfl,e];simp only[cl,en];rw[k2];simp[Fm.ef]
def mU{t:Fm}(h:t.wt<=1000000000):kY t=some t.err:=by
 have:=t.iO;unfold kY Fm.err;rw[zh FU t (by rw[fy];exact h) h,sh FU t (by rw[fy];omega) (by omega)];cases t.ok with
 |false=>simp|true=>by_cases a:4096<t.abc<;>simp[a]<;>omega
def Gh(f:Fm)(h:f.wt<=1000000000):rO f=some (Fm.node f.aba f.dv f.ek.length f.abb.length):=by
 cases f with
 |mk k s ts l=>
  rw[Fm.fI] at h;show rO (.mk k s ts l)=some (Fm.node k s ts.length l.length)
  have d:(eH (ts.length:Int) 2&&eH (l.length:Int) 0)=(decide (ts.length=2)&&decide (l.length=0)):=by
   rw[By];simp only[gL,gB,ni];omega
  have e:(eH (ts.length:Int) 0&&eH (l.length:Int) 2)=(decide (ts.length=0)&&decide (l.length=2)):=by
   rw[By];simp only[gL,gB,ni];omega
  have g:(eH (ts.length:Int) 0&&eH (l.length:Int) 1)=(decide (ts.length=0)&&decide (l.length=1)):=by
   rw[By];simp only[gL,gB,ni];omega
  unfold rO;simp only[Fm.eG,Fm.eN,Fm.hU,Fm.fv,ey,l7,q_,p8,gB,fO,lV (t:=s) (by omega),sj,cl,eb,eA,d,e,g];unfold Fm.node
  by_cases b:k=1
  ·cases c:s.rq<;>simp[b]
  ·by_cases c:k=2\/k=3
   ·cases a:s.rq<;>simp[b,c]
   ·by_cases a:k=4\/k=5\/k=6\/k=7
    ·have i:kR k=true:=by simp[kR,a]
     by_cases j:s.err=0<;>simp[b,c,a,j,i]
    ·have i:kR k=false:=by simp[kR,a]
     simp[b,c,a,i]
def yR:∀(n:Nat) (t:Fm),t.wt<=n->t.wt<=1000000000->jQ n t=some (if t.ok=true then((t.abc:Int),true)else(0,false)):=by
 intro n
 induction n with
 |zero=>intro t h;have:=t.jt;omega
 |succ n i=>
  intro t h g;cases t with
  |mk k s ts l=>
   have m:=Gh (.mk k s ts l) g;rw[Fm.fI] at h g;have r:=Fm.oo l;have o:=Tm.oo ts;have hn:eC Tm.abc ts<=eC Tm.wt ts:=kJ λx _=>x.iO;have p:eC Fm.abc l<=eC Fm.wt l:=kJ λx _=>x.iO
   have q:ft (λ(e:Int) (a:Tm) (b:Int)=>ei (jZ FU a) λc d=>if d=true then some (gu.next (fj .i64 b c))else some (gu.ret ((0:Int),false))) ts 0 1=if ts.all Tm.ok=true then some (.inl ((1+eC Tm.abc ts:Nat):Int))else some (.inr (0,false)):=by
    refine uW Tm.abc Tm.ok _ ts 0 1 (by omega) ?_;intro j x v f;have:=eL Tm.wt f;rw[vN FU x (by rw[fy];omega) (by omega)];cases x.ok<;>simp
   have k2:ft (λ(e:Int) (a:Fm) (b:Int)=>ei (jQ n a) λc d=>if d=true then some (gu.next (fj .i64 b c))else some (gu.ret ((0:Int),false))) l 0 ((1+eC Tm.abc ts:Nat):Int)=if l.all Fm.ok=true then some (.inl ((1+eC Tm.abc ts+eC Fm.abc l:Nat):Int))else some (.inr (0,false)):=by
    refine uW Fm.abc Fm.ok _ l 0 _ (by omega) ?_;intro j x v f;have:=eL Fm.wt f;rw[i x (by omega) (by omega)];cases x.ok<;>simp
   rw[jQ,m];simp only[Fm.eG,Fm.eN,Fm.hU,Fm.fv,ey,eE (l:=l) (by omega),eE (l:=ts) (by omega),eo,cl,q,Fm.hY,Fm.ef];cases u:Fm.node k s ts.length l.length with
   |false=>simp|true=>
    cases w:ts.all Tm.ok with
    |false=>simp|true=>
     simp only[if_true,cl,en,k2,z8];cases y:l.all Fm.ok<;>simp
def qf{t:Fm}(h:t.wt<=1000000000):jr t=some (if t.err=0 then(t.abc:Int)else 0,t.err):=by
 unfold jr Fm.err;rw[yR FU t (by rw[fy];exact h) h];cases t.ok with
 |false=>simp|true=>
  by_cases a:4096<t.abc
  ·simp[a];omega
  ·simp[a];omega
def ow{t:Fm}(h:t.wt<=1000000000):kz t=some t.err:=by
 unfold kz;rw[qf h];rfl
def G_:∀(n:Nat) (t:Fm),t.wt<=n->t.wt<=1000000000->je n t=some t:=by
 intro n
 induction n with
 |zero=>intro t h;have:=t.jt;omega
 |succ n c=>
  intro t h d;cases t with
  |mk k s ts l=>
   rw[Fm.fI] at h d;have f:=Fm.oo l;have e:=Tm.oo ts;rw[je];simp only[Fm.eG,Fm.eN,Fm.hU,Fm.fv,ey,eE (l:=l) (by omega),eE (l:=ts) (by omega),eo,ja (t:=s) (by omega),cl];rw[iT id ts 0 [] (by simp;omega)]
   ·simp only[cl,en];rw[iT id l 0 [] (by simp;omega)]
    ·simp
    ·intro j x v a b;have:=eL Fm.wt a;rw[c x (by omega) (by omega)];simp[fl (l:=v) (m:=[x]) (by simpa using b)]
   ·intro j x v a b;have:=eL Tm.wt a;rw[nH (t:=x) (by omega)];simp[fl (l:=v) (m:=[x]) (by simpa using b)]
def lK{t:Fm}(h:t.wt<=1000000000):je FU t=some t:=G_ FU t (by rw[fy];exact h) h
mutual
def Fm.has:Fm->Bool
 |.mk k _ _ l=>if k=1 then false else if k=2 then Fm.Bf l else if k=5 then true else Fm.vJ l
def Fm.Bf:List Fm->Bool
 |[]=>false|f::l=>f.has||Fm.Bf l
def Fm.vJ:List Fm->Bool
 |[]=>false|[f]=>f.has|_::f::l=>Fm.vJ (f::l)
end
def Oi(k:Int)(a b:Ty):Ty×Bool×Int:=if(Ty.mk k [a,b]).err≠0 then(.mk 0 [],false,(Ty.mk k [a,b]).err)else(.mk k [a,b],true,0)
def Zq(first last:Ty×Bool×Int):Ty×Bool×Int:=
 if first.2.2≠0\/first.2.1=false then(last.1,last.2.1,first.2.2)else if last.2.1=true then Oi 3 first.1 last.1 else(first.1,true,0)
def Yv(first last:Ty×Bool×Int):Ty×Bool×Int:=
 if first.2.2≠0\/first.2.1=false then(last.1,true,first.2.2)else Oi 4 first.1 last.1
def Wv(k:Int)(s:Ty)(first last:Ty×Bool×Int):Ty×Bool×Int:=
 if last.2.2≠0 then(.mk 0 [],false,last.2.2)
 else if k=2 then Zq first last
 else if k=5 then(if last.2.1=true then Oi 3 s last.1 else(s,true,0))
 else if last.2.1=true then(if k=3 then Yv first last else if k=4 then Oi 4 s last.1 else(last.1,true,0))
 else(.mk 0 [],false,0)
def Vg:Ty×Bool×Int:=(.mk 0 [],false,0)
mutual
def Fm.ct:Fm->Ty×Bool×Int
 |.mk k s _ l=>if k=1 then Vg else Wv k s (Fm.Ox l) (Fm.IX l)
def Fm.Ox:List Fm->Ty×Bool×Int
 |[]=>Vg|f::_=>f.ct
def Fm.IX:List Fm->Ty×Bool×Int
 |[]=>Vg|[f]=>f.ct|_::f::l=>Fm.IX (f::l)
end
def Fm.NZ(k:Int)(s:Ty)(ts:List Tm)(a b:Fm):(Fm.mk k s ts [a,b]).has=if k=1 then false else if k=2 then a.has||b.has else if k=5 then true else b.has:=by
 rw[Fm.has];simp[Fm.Bf,Fm.vJ]
def Fm.E4(k:Int)(s:Ty)(ts:List Tm)(a:Fm):(Fm.mk k s ts [a]).has=if k=1 then false else if k=5 then true else a.has:=by
 rw[Fm.has];simp only[Fm.Bf,Fm.vJ,Bool.or_false]
 by_cases b:k=2
 ·subst b;simp
 ·simp[b]
def Fm.has_eq(s:Ty)(ts:List Tm)(l:List Fm):(Fm.mk 1 s ts l).has=false:=by rw[Fm.has];simp
def Fm.pc{p:Fm->Prop}(n:∀a b:Tm,a.ok=true->b.ok=true->p (.mk 1 (.mk 0 []) [a,b] []))
  (o:∀(k:Int) (a b:Fm),k=2\/k=3->a.ok=true->b.ok=true->p a->p b->p (.mk k (.mk 0 []) [] [a,b]))
  (q:∀(k:Int) (s:Ty) (a:Fm),k=4\/k=5\/k=6\/k=7->s.err=0->a.ok=true->p a->p (.mk k s [] [a])) (f:Fm) (g:f.ok=true):p f:=by
 induction f using Fm.ind with
 |h k s ts l i=>
  rw[Fm.hY] at g;simp only[gL,k4] at g;obtain⟨⟨hn,d⟩,c⟩:=g;unfold Fm.node at hn
  split at hn
  ·rename_i j;subst j;simp only[gL,ni,Ty.mL] at hn;obtain⟨⟨rfl,e⟩,m⟩:=hn;obtain⟨a,b,rfl⟩:=qJ (l:=ts) (by omega);have:=Tg.1 m;subst this;exact n a b (d a (by simp)) (d b (by simp))
  ·split at hn
   ·rename_i j;simp only[gL,ni,Ty.mL] at hn;obtain⟨⟨rfl,e⟩,m⟩:=hn;obtain⟨a,b,rfl⟩:=qJ (l:=l) (by omega);have:=Tg.1 e;subst this;exact o k a b j (c a (by simp)) (c b (by simp)) (i a (by simp) (c a (by simp))) (i b (by simp) (c b (by simp)))
   ·simp only[gL,ni] at hn;obtain⟨⟨⟨r,hs⟩,e⟩,m⟩:=hn;obtain⟨a,rfl⟩:=jO (l:=l) (by omega);have:=Tg.1 e;subst this;refine q k s a ?_ hs (c a (by simp)) (i a (by simp) (c a (by simp)));simpa[kR] using r
def Ty.kH{t:Ty}(h:t.err=0):t.ok=true/\t.abc<=64:=by
 unfold Ty.err at h
 split at h
 ·split at h
  ·omega
  ·exact⟨‹_›,by omega⟩
 ·omega
def Ty.wv{t:Ty}(h:t.ok=true)(a:t.abc<=64):t.err=0:=by unfold Ty.err;rw[ee h,ea (by omega)]
def Ty.ok_two{k:Int}(c:k=3\/k=4){a b:Ty}(d:a.ok=true)(e:b.ok=true):(Ty.mk k [a,b]).ok=true:=by
 rw[Ty.hY]
 have:¬(k=1\/k=2\/k=5):=by omega
 simp[Ty.want,c,this,d,e]
def Ty.z6(k:Int)(a b:Ty):(Ty.mk k [a,b]).abc=1+a.abc+b.abc:=by rw[Ty.ef];simp[eC];omega
def Fm.hZ{f:Fm}(h:f.err=0):f.ok=true/\f.abc<=4096:=by
 unfold Fm.err at h
 split at h
 ·split at h
  ·omega
  ·exact⟨‹_›,by omega⟩
 ·omega
def Fm.ZY(f:Fm):Ty×Int:=if f.err≠0 then(.mk 0 [],f.err)else if f.ct.2.2≠0 then(.mk 0 [],f.ct.2.2)else(if f.has=true then f.ct.1 else .mk 5 [],0)
def Dv:∀(n:Nat) (f:Fm),f.abc<=n->f.ok=true->jC n f=some f.has:=by
 intro n
 induction n with
 |zero=>intro f h;have:=f.eQ;omega
 |succ n e=>
  intro f h q;refine Fm.pc (p:=λf=>f.abc<=n+1->jC (n+1) f=some f.has) ?_ ?_ ?_ f q h
  ·intro a b _ _ _;rw[jC,Fm.has_eq];rfl
  ·intro k a b r g t _ _ hn;rw[Fm.ef] at hn;simp only[eC] at hn;have d:=e a (by omega) g;have i:=e b (by omega) t
   have c:k≠1:=by omega
   have j:k≠5:=by omega
   have l:eI [a,b] (fB .i64 (eM [a,b]) 1)=some b:=by
    rw[fG (by simp) (by simp)];rfl
   have u:eI [a,b] 0=some a:=rfl;have v:eI [a,b] 1=some b:=rfl;rw[jC,Fm.NZ,ea c];simp only[Fm.eG,Fm.eN,gB,c,j,pE,l,u,v,cl,i,d,ey]
   by_cases o:k=2
   ·simp only[o,if_true];cases a.has<;>simp
   ·simp[o]
  ·intro k s a r hs g _ hn;rw[Fm.ef] at hn;simp only[eC] at hn;have d:=e a (by omega) g
   have c:k≠1:=by omega
   have m:k≠2:=by omega
   have l:eI [a] (fB .i64 (eM [a]) 1)=some a:=by
    rw[fG (by simp) (by simp)];rfl
   rw[jC,Fm.E4,ea c];simp only[Fm.eG,Fm.eN,gB,c,m,pE,l,cl,d]
   by_cases w:k=5<;>simp[w]
def CZ(f:Fm)(h:f.wt<=1000000000):pB f=some (if f.err≠0 then(false,f.err)else(f.has,0)):=by
 unfold pB;rw[mU h];simp only[cl,eA]
 by_cases he:f.err=0
 ·rw[Dv FU f (by rw[fy];have:=f.iO;omega) (Fm.hZ he).1];simp[he]
 ·simp[he]
def Fm.wv{f:Fm}(h:f.ok=true)(a:f.abc<=4096):f.err=0:=by unfold Fm.err;rw[ee h,ea (by omega)]
def Ty.nat:Ty:=.mk 1 []
def Ty.pQ:Ty:=.mk 2 []
def Ty.unit:Ty:=.mk 5 []
def Ty.fn(a b:Ty):Ty:=.mk 4 [a,b]
def Ty.pr(a b:Ty):Ty:=.mk 3 [a,b]
def Ty.z:Ty:=.mk 0 []
inductive fk:List Ty->Tm->Ty->Prop
 |var {g t} (i:Nat):i<g.length->g[g.length-1-i]?=some t->fk g (.mk 1 i .z []) t|lam {g s b t}:(Ty.fn s t).err=0->fk (g++[s]) b t->fk g (.mk 2 0 s [b]) (.fn s t)|app {g f a s t}:fk g f (.fn s t)->fk g a s->fk g (.mk 3 0 .z [f,a]) t|zero {g}:fk g (.mk 4 0 .z []) .nat|succ {g a}:fk g a .nat->fk g (.mk 5 0 .z [a]) .nat|uq {g t b s n}:t.err=0->fk g b t->fk g s (.fn .nat (.fn t t))->fk g n .nat->fk g (.mk 6 0 t [b,s,n]) t|nil {g}:fk g (.mk 7 0 .z []) .pQ|cons {g a b}:fk g a .nat->fk g b .pQ->fk g (.mk 8 0 .z [a,b]) .pQ|fold {g t b s n}:t.err=0->fk g b t->fk g s (.fn .nat (.fn .pQ (.fn t t)))->fk g n .pQ->fk g (.mk 9 0 t [b,s,n]) t|pair {g a b s t}:(Ty.pr s t).err=0->fk g a s->fk g b t->fk g (.mk 10 0 .z [a,b]) (.pr s t)|fst {g a s t}:fk g a (.pr s t)->fk g (.mk 11 0 .z [a]) s|snd {g a s t}:fk g a (.pr s t)->fk g (.mk 12 0 .z [a]) t|unit {g}:fk g (.mk 13 0 .z []) .unit
def Ty.pK:Ty.z.rq=true:=rfl
def Ty.s7{k:Int}(e:k=3\/k=4){a b:Ty}(h:(Ty.mk k [a,b]).err=0):a.err=0/\b.err=0:=by
 obtain⟨c,d⟩:=Ty.kH h;rw[Ty.hY] at c;simp only[gL,k4] at c;rw[Ty.z6] at d;exact⟨Ty.wv (c.2 a (by simp)) (by omega),Ty.wv (c.2 b (by simp)) (by omega)⟩
def fk.ok{g:List Ty}{x:Tm}{t:Ty}(h:fk g x t):x.ok=true:=by
 induction h with
 |var i e f=>
  have:(0:Int)<=(i:Nat):=by omega
  simp[Tm.hY,Tm.node,iI,kv,Ty.pK,this]
 |lam e _ c=>have:=(Ty.s7 (.inr rfl) e).1;simp[Tm.hY,Tm.node,iI,kv,this,c]
 |app _ _ a b=>simp[Tm.hY,Tm.node,iI,kv,Ty.pK,a,b]|zero=>simp[Tm.hY,Tm.node,iI,kv,Ty.pK]|succ _ c=>simp[Tm.hY,Tm.node,iI,kv,Ty.pK,c]|uq e _ _ _ a b d=>simp[Tm.hY,Tm.node,iI,kv,e,a,b,d]|nil=>simp[Tm.hY,Tm.node,iI,kv,Ty.pK]|cons _ _ a b=>simp[Tm.hY,Tm.node,iI,kv,Ty.pK,a,b]|fold e _ _ _ a b d=>simp[Tm.hY,Tm.node,iI,kv,e,a,b,d]|pair _ _ _ a b=>simp[Tm.hY,Tm.node,iI,kv,Ty.pK,a,b]|fst _ c=>simp[Tm.hY,Tm.node,iI,kv,Ty.pK,c]|snd _ c=>simp[Tm.hY,Tm.node,iI,kv,Ty.pK,c]|unit=>simp[Tm.hY,Tm.node,iI,kv,Ty.pK]
def Tm.mZ(t:Tm):∀{m n:Int},m<=n->t.abg m=true->t.abg n=true:=by
 induction t using Tm.ind with
 |h k i s l c=>
  intro m n a h;rw[Tm.fT] at*;simp only[gL,ni,k4] at*;exact⟨by omega,λx b=>c x b a (h.2 x b)⟩
def fk.abg{g:List Ty}{x:Tm}{t:Ty}(h:fk g x t):∀m:Int,((g.length+x.abc:Nat):Int)<=m->x.abg m=true:=by
 induction h with
 |var i e f=>intro m hm;simp only[Tm.ef,eC] at hm;simp only[Tm.fT,EK,Ai,ni];omega
 |lam _ _ c=>
  intro m hm;simp only[Tm.ef,eC] at hm;simp only[Tm.fT,xd,EK,Ai,gL,ni];exact⟨by omega,c m (by simp;omega)⟩
 |zero|nil|unit=>intro m hm;simp only[Tm.ef,eC] at hm;simp only[Tm.fT,EK,Ai,ni];omega
 |succ _ c|fst _ c|snd _ c=>
  intro m hm;simp only[Tm.ef,eC] at hm;simp only[Tm.fT,xd,EK,Ai,gL,ni];exact⟨by omega,c m (by omega)⟩
 |app _ _ a b|cons _ _ a b|pair _ _ _ a b=>
  intro m hm;simp only[Tm.ef,eC] at hm;simp only[Tm.fT,xd,EK,Ai,gL,ni];exact⟨by omega,a m (by omega),b m (by omega)⟩
 |uq _ _ _ _ a b d|fold _ _ _ _ a b d=>
  intro m hm;simp only[Tm.ef,eC] at hm;simp only[Tm.fT,xd,EK,Ai,gL,ni];exact⟨by omega,a m (by omega),b m (by omega),d m (by omega)⟩
def Gq{α:Type}{f g:α->Nat}{c:Nat}{l:List α}(h:∀x∈l,f x<=c*g x):eC f l<=c*eC g l:=by
 induction l with
 |nil=>simp[eC]|cons x l a=>simp only[eC,RQ];have:=h x (by simp);have:=a λy hy=>h y (by simp[hy]);omega
def Tm.jx(t:Tm)(h:t.ok=true):t.wt<=65*t.abc:=by
 induction t using Tm.ind with
 |h k i s l c=>
  rw[Tm.hY] at h;simp only[gL,k4] at h;rw[Tm.fI,Tm.ef,RQ];have d:=Gq λx b=>c x b (h.2 x b)
  have e:s.abc<=64:=by
   have:=h.1;simp only[Tm.node,gL] at this;have a:=this.2
   split at a
   ·simp only[ni] at a;exact(Ty.kH a).2
   ·rw[Ty.mL] at a;subst a;rw[Ty.ef];simp[eC]
  omega
def Fm.jx(f:Fm)(h:f.ok=true):f.wt<=65*f.abc:=by
 induction f using Fm.ind with
 |h k s ts l b=>
  rw[Fm.hY] at h;simp only[gL,k4] at h;rw[Fm.fI,Fm.ef,RQ,RQ];have d:=Gq λx a=>b x a (h.2 x a);have e:=Gq (f:=Tm.wt) (g:=Tm.abc) (c:=65) (l:=ts) λx a=>x.jx (h.1.2 x a)
  have i:s.abc<=64:=by
   have:=h.1.1;unfold Fm.node at this
   split at this
   ·simp only[gL,Ty.mL] at this;rw[this.1.1,Ty.ef];simp[eC]
   ·split at this
    ·simp only[gL,Ty.mL] at this;rw[this.1.1,Ty.ef];simp[eC]
    ·simp only[gL,ni] at this;exact(Ty.kH this.1.1.2).2
  omega
structure eu.wf (d:eu):Prop where
 len:d.l.length<=1000
 lo:0<=d.pg
 hi:d.pg<=d.l.length
def Pv(x n:Int)(c:1<=n)(d:n<=1000000000):∃y,FO x n=some y/\0<=y/\y<n:=by
 unfold FO;simp only[QO (b:=n) (by omega),eo];refine⟨_,rfl,?_⟩;unfold RK
 have e:(x.tmod n).natAbs<n.natAbs:=by
  rw[Int.natAbs_tmod];exact Tr _ (by omega)
 rw[fu (by omega) (by omega)]
 have a:0<=x.tmod n+n:=by omega
 exact⟨Int.tmod_nonneg _ a,Int.tmod_lt_of_pos _ (by omega)⟩
def kK(d:eu)(a:d.wf)(n:Int)(e:1<=n)(f:n<=1000000000):∃x b,gb d n=some (x,b)/\0<=x/\x<n/\b.wf:=by
 unfold gb;simp only[l7,p8,lS,jk,fO]
 by_cases c:n<1\/(d.l.length:Int)<=d.pg
 ·rw[ee c];exact⟨0,d,rfl,by omega,by omega,a⟩
 ·rw[ea c];obtain⟨y,hy,_⟩:=I5 (l:=d.l) a.lo (by omega);obtain⟨z,g,h,i⟩:=Pv y n e f;rw[hy];simp only[cl,g];have:=a.len;have:=a.lo;rw[fu (by omega) (by omega)];exact⟨z,_,rfl,h,i,⟨a.len,by show 0<=d.pg+1;omega,by show d.pg+1<=(d.l.length:Int);omega⟩⟩
def fF:iE=some .nat:=rfl
def gO:mR=some .pQ:=rfl
def HU:u_=some .unit:=rfl
def xz{a b:Ty}(c:a.abc<=1000000000)(d:b.abc<=1000000000):uA a b=some (.pr a b):=by
 unfold uA;rw[ja c,ja d];rfl
def ji{a b:Ty}(c:a.abc<=1000000000)(d:b.abc<=1000000000):ld a b=some (.fn a b):=by
 unfold ld;rw[ja c,ja d];rfl
def Ty.Si:Ty.nat.ok=true:=by unfold Ty.nat;rw[Ty.hY];rfl
def Ty.QM:Ty.pQ.ok=true:=by unfold Ty.pQ;rw[Ty.hY];rfl
def Ty.N0:Ty.unit.ok=true:=by unfold Ty.unit;rw[Ty.hY];rfl
def Ty.im:Ty.nat.abc=1:=by unfold Ty.nat;rw[Ty.ef];rfl
def Ty.pA:Ty.pQ.abc=1:=by unfold Ty.pQ;rw[Ty.ef];rfl
def Ty.Fc:Ty.unit.abc=1:=by unfold Ty.unit;rw[Ty.ef];rfl
def Ty.j1(a b:Ty):(Ty.fn a b).abc=1+a.abc+b.abc:=Ty.z6 _ _ _
def Ty.va(a b:Ty):(Ty.pr a b).abc=1+a.abc+b.abc:=Ty.z6 _ _ _
def QI(k:Nat)(h:k<=4):1<=2^k/\2^k<=16:=by
 have:k=0\/k=1\/k=2\/k=3\/k=4:=by omega
 rcases this with rfl|rfl|rfl|rfl|rfl<;>decide
def NS:∀(n k:Nat) (d:eu),k<n->k<=4->d.wf->∃t g,iQ n d (k:Int)=some (t,g)/\t.ok=true/\t.abc+1<=2^(k+1)/\g.wf:=by
 intro n
 induction n with
 |zero=>intro k d h;omega|succ n s=>
  intro k d w p u;obtain⟨x,d1,v,y,z,f⟩:=kK d u 7 (by omega) (by omega);have A:=QI k p
  have B:(2:Nat)^(k+1)=2*2^k:=by rw[V4];omega
  have c:=λg (q:eu.wf g)=>(⟨Ty.nat,g,rfl,Ty.Si,by rw[Ty.im];omega,q⟩:∃t i,some (Ty.nat,g)=some (t,i)/\t.ok=true/\t.abc+1<=2^(k+1)/\i.wf);rw[iQ];simp only[ey,v,eb,fF,gO,HU,cl,l7,p8,gB,gD]
  split
  ·exact c d1 f
  split
  ·exact⟨.pQ,d1,rfl,Ty.QM,by rw[Ty.pA];omega,f⟩
  split
  ·exact⟨.unit,d1,rfl,Ty.N0,by rw[Ty.Fc];omega,f⟩
  have two:0<(k:Int)->∃a b d2 d3,iQ n d1 (fB .i64 (k:Int) 1)=some (a,d2)/\iQ n d2 (fB .i64 (k:Int) 1)=some (b,d3)/\a.ok=true/\b.ok=true/\a.abc+1<=2^k/\b.abc+1<=2^k/\d3.wf:=by
   intro e;obtain⟨m,rfl⟩:∃m,k=m+1:=⟨k-1,by omega⟩;rw[fG (by omega) (by omega),show((m+1:Nat):Int)-1=(m:Int) by omega];obtain⟨a,d2,a1,a2,a3,a4⟩:=s m d1 (by omega) (by omega) f;obtain⟨b,d3,j,l,r,o⟩:=s m d2 (by omega) (by omega) a4;exact⟨a,b,d2,d3,a1,j,a2,l,a3,r,o⟩
  split
  ·split
   ·rename_i e;obtain⟨a,b,d2,d3,a1,j,a2,l,a3,r,o⟩:=two e;rw[a1];simp only[eb];rw[j];simp only[eb];rw[xz (by omega) (by omega)];exact⟨_,_,rfl,Ty.ok_two (.inl rfl) a2 l,by rw[Ty.va];omega,o⟩
   ·exact c d1 f
  split
  ·split
   ·rename_i e;obtain⟨a,b,d2,d3,a1,j,a2,l,a3,r,o⟩:=two e;rw[a1];simp only[eb];rw[j];simp only[eb];rw[ji (by omega) (by omega)];exact⟨_,_,rfl,Ty.ok_two (.inr rfl) a2 l,by rw[Ty.j1];omega,o⟩
   ·exact c d1 f
  ·exact c d1 f
def wM(d:eu)(c:d.wf)(k:Nat)(b:k<=4):∃t a,iQ FU d (k:Int)=some (t,a)/\t.err=0/\t.abc+1<=2^(k+1)/\a.wf:=by
 obtain⟨t,a,e,f,g,h⟩:=NS FU k d (by rw[fy];omega) b c;have i:=QI k b
 have j:(2:Nat)^(k+1)=2*2^k:=by rw[V4];omega
 exact⟨t,a,e,Ty.wv f (by omega),g,h⟩
def Np(g:List Ty)(t:Ty)(hg:g.length<=1000000)(hn:∀s∈g,s.abc<=1000000000):∃l,BQ g t=some l/\l.length<=g.length/\∀v∈l,∃i:Nat,v=i/\i<g.length/\g[g.length-1-i]?=some t:=by
 unfold BQ;simp only[eE (l:=g) (by omega),eo,ey]
 have key:∀(l:List Ty) (i:Nat) (v:List Int),i+l.length=g.length->v.length<=i->(∀x∈v,∃j:Nat,x=j/\j<g.length/\g[g.length-1-j]?=some t)->∃d,ft (ρ:=List Int) (λ(j:Int) (w:Ty) (v:List Int)=>cv (eI g (fB .i64 (fB .i64 (eM g) 1) j)) λx=>cv (fP FU x t) λy=>if y=true then g_ (gf v [j]) (some (gu.next (gv v [j])))else some (gu.next v)) l i v=some (.inl d)/\d.length<=g.length/\∀x∈d,∃j:Nat,x=j/\j<g.length/\g[g.length-1-j]?=some t:=by
  intro l
  induction l with
  |nil=>
   intro i v f o e;exact⟨v,rfl,by simp at f;omega,e⟩
  |cons y l n=>
   intro i v f o e;simp only[lL] at f
   have c:g.length-1-i<g.length:=by omega
   have p:eI g (fB .i64 (fB .i64 (eM g) 1) (i:Int))=some g[g.length-1-i]:=by
    rw[fO,fG (a:=(g.length:Int)) (b:=1) (by omega) (by omega),fG (by omega) (by omega),show(g.length:Int)-1-(i:Int)=((g.length-1-i:Nat):Int) by omega,jJ];simp[c]
   rw[fm];simp only[p,cl,jb (hn _ (Ga c))];cases hs:Ty.nx g[g.length-1-i] t with
   |false=>
    simp only[tp,pE,cl,fA];exact n (i+1) v (by omega) (by omega) e
   |true=>
    rw[Ty.lX] at hs;simp only[if_true,fl (l:=v) (m:=[(i:Int)]) (by simp;omega),eo,cl,fA,gG];refine n (i+1) (v++[(i:Int)]) (by omega) (by simp;omega) ?_;intro x k;rcases sy.1 k with h|h
    ·exact e x h
    ·rw[xG] at h;exact⟨i,h,by omega,by rw[pW c,hs]⟩
 obtain⟨d,q,r,u⟩:=key g 0 [] (by simp) (by simp) (by simp);rw[q];exact⟨d,rfl,r,u⟩
def oX(g l:List Ty)(h:g.length+l.length<=1000000):mM g l=some (g++l):=by
 unfold mM;rw[fl (by simp;omega),eo,fl (by simp;omega),eo];simp
def CO(n:Nat)(hn:n<=1000000):∃x,qX (n:Int)=some x/\∀g,fk g x .nat/\x.abc=n+1:=by
 unfold qX;rw[pS 4 [] (by simp[eC])];simp only[cl,ey]
 obtain⟨o,m,l⟩:=uG (ρ:=Tm) (F:=P0 λ(h:Int) (i:Int) (v167:Int) (v168:Int) (j:List Ty) (k:List Tm)=>
   if nS h 0=true then some (gu.next (fB .i64 h 1,5,0,0,[],[Tm.mk i v167 (Ty.mk v168 j) k]))else some (gu.DQ (h,i,v167,v168,j,k)))
  (λs=>0<=s.1/\s.1<=n/\(∀g,fk g (Tm.mk s.2.1 s.2.2.1 (Ty.mk s.2.2.2.1 s.2.2.2.2.1) s.2.2.2.2.2) .nat)/\(Tm.mk s.2.1 s.2.2.1 (Ty.mk s.2.2.2.1 s.2.2.2.2.1) s.2.2.2.2.2).abc+s.1=n+1)
  (λs=>s.1.toNat)
  (λo=>match o with|.inl s=>(∀g,fk g (Tm.mk s.2.1 s.2.2.1 (Ty.mk s.2.2.2.1 s.2.2.2.2.1) s.2.2.2.2.2) .nat)/\(Tm.mk s.2.1 s.2.2.1 (Ty.mk s.2.2.2.1 s.2.2.2.2.1) s.2.2.2.2.2).abc=n+1|.inr _=>False)
  (by
   rintro⟨a,b,c,d,e,f⟩ ⟨m,l,p,t⟩;simp only at m l p t
   by_cases q:0<a
   ·left;refine⟨_,by simp only[y_,gD,q,if_true];rfl,⟨?_,?_,?_,?_⟩,?_⟩
    ·rw[fG (by omega) (by omega)];show 0<=a-1;omega
    ·rw[fG (by omega) (by omega)];show a-1<=n;omega
    ·intro g;exact fk.succ (p g)
    ·rw[fG (by omega) (by omega)];rw[Tm.ef];simp only[eC]
     push_cast
     omega
    ·rw[fG (by omega) (by omega)];show(a-1).toNat<a.toNat;omega
   ·right;left;refine⟨_,by simp only[y_,gD,q,pE];rfl,p,?_⟩
    have:a=0:=by omega
    subst this
    simp only;omega)
  FU ((n:Int),4,0,0,[],[]) ⟨by simp,by simp,λg=>fk.zero,by rw[Tm.ef];simp[eC];omega⟩ (by rw[fy];show(n:Int).toNat<_;omega)
 simp only[Tm.eN,Tm.gy,Tm.fv,Ty.eN,Ty.eG,Tm.eG];rw[m];cases o with
 |inr r=>exact l.elim|inl s=>
  obtain⟨a,b,c,d,e,f⟩:=s;exact⟨_,rfl,λg=>⟨l.1 g,l.2⟩⟩
def zX(n:Int)(b:0<=n)(hn:n<=4000):∃x,x' n=some x/\∀g,fk g x .nat/\(x.abc:Int)=n+1:=by
 obtain⟨k,rfl⟩:=VS b;obtain⟨x,c,a⟩:=CO k (by omega);unfold x' ui;simp only[lS,jk];rw[ea (by omega),ea (by omega),c];exact⟨x,rfl,λg=>⟨(a g).1,by rw[(a g).2];simp⟩⟩
structure M5 (g:List Ty) (x:Tm) (t:Ty) (n:Nat):Prop where
 ty:fk g x t
 abc:x.abc<=n
def M5.wt{g:List Ty}{x:Tm}{t:Ty}{n:Nat}(h:M5 g x t n):x.wt<=65*n:=by
 have:=x.jx h.ty.ok;have:=h.abc;omega
def M5.mono{g:List Ty}{x:Tm}{t:Ty}{n m:Nat}(h:M5 g x t n)(hm:n<=m):M5 g x t m:=⟨h.ty,B4 h.abc hm⟩
def IF{k:Int}{a:Tm}(b:a.wt<=100000000):gn k [a]=some (.mk k 0 .z [a]):=pS k [a] (by simp[eC];omega)
def tN{k:Int}{a b:Tm}(c:a.wt<=100000000)(d:b.wt<=100000000):gn k [a,b]=some (.mk k 0 .z [a,b]):=pS k [a,b] (by simp[eC];omega)
def FF{k:Int}:gn k []=some (.mk k 0 .z []):=pS k [] (by simp[eC])
def Aw{k:Int}{s:Ty}{a:Tm}(hs:s.abc<=1000000000)(b:a.wt<=100000000):lU k s [a]=some (.mk k 0 s [a]):=Gt k s [a] hs (by simp[eC];omega)
def Co{k:Int}{s:Ty}{a b c:Tm}(hs:s.abc<=1000000000)(d:a.wt<=100000000)(e:b.wt<=100000000)(f:c.wt<=100000000):lU k s [a,b,c]=some (.mk k 0 s [a,b,c]):=
 Gt k s [a,b,c] hs (by simp[eC];omega)
def JX{f a b:Tm}(c:f.wt<=10000000)(d:a.wt<=10000000)(e:b.wt<=10000000):Bi f [a,b]=some (.mk 3 0 .z [.mk 3 0 .z [f,a],b]):=by
 have g:(Tm.mk 3 0 .z [f,a]).wt<=30000000:=by rw[Tm.fI];have:Ty.z.abc=1:=rfl;simp[eC,this];omega
 unfold Bi
 simp only[eE (l:=[a,b]) (by simp),eo,ey,fm,pe,FH,Ty.lG,Tm.lG,tN (k:=3) (a:=f) (b:=a) (by omega) (by omega),cl,fA,tN (k:=3) (a:=.mk 3 0 .z [f,a]) (b:=b) (by omega) (by omega),en]
def Ty.hO:Ty.nat.err=0:=Ty.wv Ty.Si (by rw[Ty.im];omega)
def Ty.pO:Ty.pQ.err=0:=Ty.wv Ty.QM (by rw[Ty.pA];omega)
def Ty.Fx:Ty.unit.err=0:=Ty.wv Ty.N0 (by rw[Ty.Fc];omega)
def Ty.xP{a b:Ty}(c:a.err=0)(d:b.err=0)(h:a.abc+b.abc<=63):(Ty.fn a b).err=0:=Ty.wv (Ty.ok_two (.inr rfl) (Ty.kH c).1 (Ty.kH d).1) (by rw[Ty.j1];omega)
def Ty.M8{a b:Ty}(c:a.err=0)(d:b.err=0)(h:a.abc+b.abc<=63):(Ty.pr a b).err=0:=Ty.wv (Ty.ok_two (.inl rfl) (Ty.kH c).1 (Ty.kH d).1) (by rw[Ty.va];omega)
def E7(i:Nat):Tm:=.mk 1 i .z []
def mX(s:Ty)(b:Tm):Tm:=.mk 2 0 s [b]
def jS(f a:Tm):Tm:=.mk 3 0 .z [f,a]
def zF:Tm:=.mk 4 0 .z []
def kQ(a:Tm):Tm:=.mk 5 0 .z [a]
def OC(t:Ty)(a b c:Tm):Tm:=.mk 6 0 t [a,b,c]
def nV:Tm:=mX .nat (mX .nat (OC .nat (E7 1) (mX .nat (mX .nat (kQ (E7 0)))) (E7 0)))
def NU:Tm:=mX .nat (OC .nat zF (mX .nat (mX .nat (E7 1))) (E7 0))
def Rc:Tm:=mX .nat (mX .nat (OC .nat (E7 1) (mX .nat (mX .nat (jS NU (E7 0)))) (E7 0)))
def Cn(i:Nat):fW (i:Int)=some (E7 i):=rfl
def uZ{a:Tm}(b:a.wt<=100000000):lb a=some (mX .nat a):=by
 unfold lb;rw[fF];simp only[cl];rw[Aw (by rw[Ty.im];omega) b];rfl
def rec_eq{a b c:Tm}(d:a.wt<=100000000)(e:b.wt<=100000000)(f:c.wt<=100000000):s5 a b c=some (OC .nat a b c):=by
 unfold s5;rw[fF];simp only[cl];rw[Co (by rw[Ty.im];omega) d e f];rfl
def AI:sP=some nV:=by
 unfold sP;rw[show fW 1=some (E7 1)from rfl,show fW 0=some (E7 0)from rfl];simp only[cl];rw[IF (by decide)];simp only[cl];rw[uZ (by decide)];simp only[cl];rw[uZ (by decide)];simp only[cl];rw[rec_eq (by decide) (by decide) (by decide)];simp only[cl];rw[uZ (by decide)];simp only[cl];rw[uZ (by decide)];rfl
def Hj:vB=some NU:=by
 unfold vB;rw[show fW 1=some (E7 1)from rfl,show fW 0=some (E7 0)from rfl,FF];simp only[cl];rw[uZ (by decide)];simp only[cl];rw[uZ (by decide)];simp only[cl];rw[rec_eq (by decide) (by decide) (by decide)];simp only[cl];rw[uZ (by decide)];rfl
def JE:xl=some Rc:=by
 unfold xl;rw[show fW 1=some (E7 1)from rfl,show fW 0=some (E7 0)from rfl,Hj];simp only[cl];rw[tN (by decide) (by decide)];simp only[cl];rw[uZ (by decide)];simp only[cl];rw[uZ (by decide)];simp only[cl];rw[rec_eq (by decide) (by decide) (by decide)];simp only[cl];rw[uZ (by decide)];simp only[cl];rw[uZ (by decide)];rfl
def Yd{g:List Ty}{t:Ty}(i:Nat)(h:i<g.length)(a:g[g.length-1-i]?=some t):fk g (E7 i) t:=fk.var i h a
def yg{g:List Ty}{t:Ty}:fk (g++[t]) (E7 0) t:=fk.var 0 (by simp) (by simp)
def LF{g:List Ty}{s t:Ty}:fk (g++[t]++[s]) (E7 1) t:=fk.var 1 (by simp) (by simp)
def zC:(Ty.fn .nat .nat).err=0:=Ty.xP Ty.hO Ty.hO (by rw[Ty.im];omega)
def CE:(Ty.fn .nat (Ty.fn .nat .nat)).err=0:=Ty.xP Ty.hO zC (by rw[Ty.j1,Ty.im];omega)
def Dt(g:List Ty):fk g nV (.fn .nat (.fn .nat .nat)):=
 .lam CE (.lam zC (.uq Ty.hO LF (.lam CE (.lam zC (.succ yg))) yg))
def PO(g:List Ty):fk g NU (.fn .nat .nat):=
 .lam zC (.uq Ty.hO .zero (.lam CE (.lam zC LF)) yg)
def Ql(g:List Ty):fk g Rc (.fn .nat (.fn .nat .nat)):=
 .lam CE (.lam zC (.uq Ty.hO LF (.lam CE (.lam zC (.app (PO _) yg))) yg))
def B9:nV.abc=9:=by decide
def KU:Rc.abc=16:=by decide
def rD{α β:Type}{G:Option β->Prop}(P:α->Prop){k:α->Option β}{b:(α->Option β)->Option β}(c:∀a,P a->G (k a))(d:∀j:α->Option β,(∀a,P a->G (j a))->G (b j)):G (eJ k b):=d k c
def FL{α γ β:Type}{G:Option β->Prop}(P:α->γ->Prop){k:α->γ->Option β}{b:(α->γ->Option β)->Option β}(d:∀a c,P a c->G (k a c))(e:∀j:α->γ->Option β,(∀a c,P a c->G (j a c))->G (b j)):G (eJ k b):=e k d
def tb(N:Nat):Nat->Nat
 |0=>3*N|k+1=>30+3*tb N k
def Y0{N:Nat}(a:N<=20):∀k,k<=5->tb N k<=18300:=by
 intro k b
 have:k=0\/k=1\/k=2\/k=3\/k=4\/k=5:=by omega
 rcases this with rfl|rfl|rfl|rfl|rfl|rfl<;>simp only[tb]<;>omega
def Sf{N k:Nat}:3*N<=tb N k:=by
 induction k with
 |zero=>simp[tb]|succ k a=>simp only[tb];omega
def kD(g:List Ty)(t:Ty)(b:Nat)(o:Option (Tm×eu)):Prop:=∃x a,o=some (x,a)/\a.wf/\M5 g x t b
def kD.of{g:List Ty}{t:Ty}{b:Nat}{x:Tm}{d:eu}(a:d.wf)(h:fk g x t)(hn:x.abc<=b):kD g t b (some (x,d)):=⟨x,d,rfl,a,h,hn⟩
structure qa (N:Nat) (g:List Ty):Prop where
 all:∀s∈g,s.err=0/\s.abc<=N
def qa.app{N:Nat}{g l:List Ty}(h:qa N g)(a:∀s∈l,s.err=0/\s.abc<=N):qa N (g++l):=
 ⟨λs hs=>by rcases sy.1 hs with h'|h';exact h.all s h';exact a s h'⟩
def Ty.rj{t:Ty}(h:t.err=0):t=.nat\/t=.pQ\/t=.unit\/(∃a b,t=.pr a b/\a.err=0/\b.err=0)\/(∃a b,t=.fn a b/\a.err=0/\b.err=0):=by
 cases t with
 |mk k l=>
  have e:=(Ty.kH h).1;rw[Ty.hY] at e;simp only[gL,ni] at e;have c:=e.1;unfold Ty.want at c
  split at c
  ·rename_i d;injection c with c;have:=Tg.1 c.symm;subst this;rcases d with rfl|rfl|rfl
   ·exact .inl rfl
   ·exact .inr (.inl rfl)
   ·exact .inr (.inr (.inl rfl))
  ·split at c
   ·rename_i d;injection c with c;obtain⟨a,b,rfl⟩:=qJ (l:=l) (by omega);have:=Ty.s7 d h;rcases d with rfl|rfl
    ·exact .inr (.inr (.inr (.inl ⟨a,b,rfl,this⟩)))
    ·exact .inr (.inr (.inr (.inr ⟨a,b,rfl,this⟩)))
   ·cases c
set_option maxHeartbeats 1000000 in
def Nr(N:Nat)(aH:1<=N)(hN:N<=20):∀(n:Nat) (dep:Int) (g:List Ty) (t:Ty) (d:eu),dep.toNat*(N+1)+t.abc<n->dep<=5->-1000000<=dep-t.abc->g.length+(3+N)*dep.toNat+t.abc<=1000->qa N g->t.err=0->t.abc<=N->d.wf->kD g t (if dep<=0 then 3*t.abc else tb N dep.toNat) (gA n d g t dep):=by
 intro n
 induction n with
 |zero=>intro dep g t d h;omega|succ n ih=>
  intro dep g t d hm aI aG hlen hg q p hd;have aJ:=t.eQ;have ak:=(Ty.kH q).2
  have deep:0<dep->∀P M O,P.length<=g.length+3->qa N P->M.err=0->M.abc<=N->O.wf->kD P M (tb N (dep.toNat-1)) (gA n O P M (fB .i64 dep 1)):=by
   intro e P M O Q T X v h5;obtain⟨k,rfl⟩:∃k:Nat,dep=(k+1:Nat):=⟨dep.toNat-1,by omega⟩
   have e1:((k+1:Nat):Int).toNat=k+1:=by simp
   rw[e1] at hm hlen|-;rw[fG (by omega) (by omega),show((k+1:Nat):Int)-1=(k:Int) by omega]
   have hmul:(k+1)*(N+1)=k*(N+1)+N+1:=by rw[Au];omega
   have al:(3+N)*(k+1)=(3+N)*k+3+N:=by rw[RQ];omega
   obtain⟨x,d1,a1,a2,a3⟩:=ih (k:Int) P M O (by simp;omega) (by omega) (by omega) (by simp;omega) T X v h5;refine⟨x,d1,a1,a2,a3.mono ?_⟩;simp only[SD]
   split
   ·have:k=0:=by omega
    subst this;simp only[tb];omega
   ·simp
  have flat:dep<=0->∀P M O,P.length<=g.length+1->M.abc+1<=t.abc->qa N P->M.err=0->O.wf->kD P M (3*M.abc) (gA n O P M (fB .i64 dep 1)):=by
   intro e P M O Q h0 T X h5
   have e1:dep.toNat=0:=by omega
   rw[e1] at hm hlen;rw[fG (by omega) (by omega)]
   have e2:(dep-1).toNat=0:=by omega
   have:=ih (dep-1) P M O (by rw[e2];omega) (by omega) (by omega) (by rw[e2];omega) T X (by omega) h5;rw[ee (by omega)] at this;exact this
  have U:0<dep->(if dep<=0 then 3*t.abc else tb N dep.toNat)=30+3*tb N (dep.toNat-1):=by
   intro e;rw[ea (by omega)];obtain⟨k,hk⟩:∃k,dep.toNat=k+1:=⟨dep.toNat-1,by omega⟩;rw[hk];rfl
  have an:0<dep->tb N (dep.toNat-1)<=18300:=λ_=>Y0 hN _ (by omega)
  have aa:3*t.abc<=(if dep<=0 then 3*t.abc else tb N dep.toNat):=by
   split
   ·omega
   ·have:=Sf (N:=N) (k:=dep.toNat);omega
  generalize (if dep<=0 then 3*t.abc else tb N dep.toNat)=B at U aa|-
  have m:∀{g x t},0<dep->M5 g x t (tb N (dep.toNat-1))->x.wt<=1300000:=by
   intro g x t e h;have:=h.wt;have:=an e;omega
  obtain⟨vs,ao,aK,aq⟩:=Np g t (by omega) (λs hs=>by have:=(hg.all s hs).2;omega);rw[gA,ao];simp only[cl];refine FL (G:=kD g t B) (λa c=>c.wf/\(a=true->vs≠[])) ?_ ?_
  ·--a variable,or ab else
   rintro a d1 ⟨ad,ar⟩;cases a with
   |true=>
    simp only[if_true];have au:=ar rfl
    have aL:1<=vs.length:=by cases vs with|nil=>exact absurd rfl au|cons _ _=>simp
    obtain⟨x,d2,Q,T,X,v⟩:=kK d1 ad (eM vs) (by simp;omega) (by simp;omega);rw[Q];simp only[eb];obtain⟨y,hy,aw⟩:=I5 (l:=vs) T (by simpa using X);rw[hy];simp only[cl];obtain⟨i,rfl,ax,ay⟩:=aq y aw;rw[Cn];refine kD.of v (Yd i ax ay) ?_
    have:(E7 i).abc=1:=by unfold E7;rw[Tm.ef];rfl
    omega
   |false=>
    simp only[tp,pE];refine rD (G:=kD g t B) eu.wf ?_ ?_
    ·--by ah type
     intro d2 w;rcases Ty.rj q with rfl|rfl|rfl|⟨a,b,rfl,ha,hb⟩|⟨a,b,rfl,ha,hb⟩
     ·--numbers
      simp only[show Ty.nat.aba=1 from rfl,gB,if_true];refine rD (G:=kD g .nat B) eu.wf ?_ ?_
      ·intro d3 Y;obtain⟨x,d4,Q,T,X,v⟩:=kK d3 Y 3 (by omega) (by omega);rw[Q];simp only[eb];obtain⟨y,az,ai⟩:=zX x T (by omega);rw[az];refine kD.of v (ai g).1 ?_;have:=(ai g).2;rw[Ty.im] at aa;omega
      ·intro j S;simp only[gD]
       split
       ·rename_i e;have U:=U e;obtain⟨x,d4,Q,T,X,v⟩:=kK d2 w 5 (by omega) (by omega);rw[Q];simp only[eb,gB]
        split
        ·obtain⟨a,d5,a1,a2,a3⟩:=deep e g .nat d4 (by omega) hg Ty.hO p v;rw[a1];simp only[eb];rw[IF (by have:=m e a3;omega)];refine kD.of a2 (.succ a3.ty) ?_;have:=a3.abc;rw[Tm.ef];simp only[eC];omega
        split
        ·rw[AI];simp only[cl];obtain⟨a,d5,a1,a2,a3⟩:=deep e g .nat d4 (by omega) hg Ty.hO p v;rw[a1];simp only[eb];obtain⟨b,d6,A,C,o⟩:=deep e g .nat d5 (by omega) hg Ty.hO p a2;rw[A];simp only[eb];rw[JX (by decide) (by have:=m e a3;omega) (by have:=m e o;omega)];refine kD.of C (.app (.app (Dt g) a3.ty) o.ty) ?_;have:=a3.abc;have:=o.abc;have:=B9;rw[Tm.ef];simp only[eC,Tm.ef];omega
        split
        ·rw[JE];simp only[cl];obtain⟨a,d5,a1,a2,a3⟩:=deep e g .nat d4 (by omega) hg Ty.hO p v;rw[a1];simp only[eb];obtain⟨b,d6,A,C,o⟩:=deep e g .nat d5 (by omega) hg Ty.hO p a2;rw[A];simp only[eb];rw[JX (by decide) (by have:=m e a3;omega) (by have:=m e o;omega)];refine kD.of C (.app (.app (Ql g) a3.ty) o.ty) ?_;have:=a3.abc;have:=o.abc;have:=KU;rw[Tm.ef];simp only[eC,Tm.ef];omega
        ·exact S d4 v
       ·exact S d2 w
     ·--lists
      simp only[show Ty.pQ.aba=2 from rfl,gB,if_true,show¬(2:Int)=1 by omega,pE];refine FL (G:=kD g .pQ B) (λa c=>c.wf/\(a=true->0<dep)) ?_ ?_
      ·rintro a d3 ⟨Y,e⟩;cases a with
       |true=>
        have e:=e rfl;have U:=U e;simp only[if_true];rw[fF];simp only[cl];obtain⟨a,d5,a1,a2,a3⟩:=deep e g .nat d3 (by omega) hg Ty.hO (by rw[Ty.im];omega) Y;rw[a1];simp only[eb];obtain⟨b,d6,A,C,o⟩:=deep e g .pQ d5 (by omega) hg Ty.pO p a2;rw[A];simp only[eb];rw[tN (by have:=m e a3;omega) (by have:=m e o;omega)];refine kD.of C (.cons a3.ty o.ty) ?_;have:=a3.abc;have:=o.abc;rw[Tm.ef];simp only[eC];omega
       |false=>
        simp only[tp,pE];rw[FF];refine kD.of Y .nil ?_;rw[Tm.ef];simp only[eC];omega
      ·intro j S;simp only[gD]
       split
       ·rename_i e;obtain⟨x,d4,Q,T,X,v⟩:=kK d2 w 2 (by omega) (by omega);rw[Q];simp only[eb];exact S _ d4 ⟨v,λ_=>e⟩
       ·exact S _ d2 ⟨w,λh=>by cases h⟩
     ·simp only[show Ty.unit.aba=5 from rfl,gB,show¬(5:Int)=1 by omega,show¬(5:Int)=2 by omega,show¬(5:Int)=3 by omega,show¬(5:Int)=4 by omega,pE];rw[FF];refine kD.of w .unit ?_;rw[Tm.ef];simp only[eC];omega
     ·simp only[show(Ty.pr a b).aba=3 from rfl,show(Ty.pr a b).abb=[a,b] from rfl,gB,show¬(3:Int)=1 by omega,show¬(3:Int)=2 by omega,if_true,pE,eU,gx,js,m4,cl];rw[Ty.va] at p ak aa
      by_cases e:0<dep
      ·have U:=U e;obtain⟨x,d5,a1,a2,a3⟩:=deep e g a d2 (by omega) hg ha (by omega) w;rw[a1];simp only[eb];obtain⟨y,d6,A,C,o⟩:=deep e g b d5 (by omega) hg hb (by omega) a2;rw[A];simp only[eb];rw[tN (by have:=m e a3;omega) (by have:=m e o;omega)];refine kD.of C (.pair q a3.ty o.ty) ?_;have:=a3.abc;have:=o.abc;rw[Tm.ef];simp only[eC];omega
      ·have aA:=Ty.va a b;obtain⟨x,d5,a1,a2,a3⟩:=flat (by omega) g a d2 (by omega) (by omega) hg ha w;rw[a1];simp only[eb];obtain⟨y,d6,A,C,o⟩:=flat (by omega) g b d5 (by omega) (by omega) hg hb a2;rw[A];simp only[eb];have:=a3.abc;have:=o.abc;rw[tN (by have:=a3.wt;omega) (by have:=o.wt;omega)];refine kD.of C (.pair q a3.ty o.ty) ?_;rw[Tm.ef];simp only[eC];omega
     ·simp only[show(Ty.fn a b).aba=4 from rfl,show(Ty.fn a b).abb=[a,b] from rfl,gB,show¬(4:Int)=1 by omega,show¬(4:Int)=2 by omega,show¬(4:Int)=3 by omega,if_true,pE,eU,gx,js,m4,cl];have aA:=Ty.j1 a b;rw[oX g [a] (by simp;omega)];simp only[cl];have R:qa N (g++[a]):=hg.app (by intro s hs;rw[xG] at hs;subst hs;exact⟨ha,by omega⟩)
      by_cases e:0<dep
      ·have U:=U e;obtain⟨x,d5,a1,a2,a3⟩:=deep e (g++[a]) b d2 (by simp) R hb (by omega) w;rw[a1];simp only[eb];rw[Aw (by omega) (by have:=m e a3;omega)];refine kD.of a2 (.lam q a3.ty) ?_;have:=a3.abc;rw[Tm.ef];simp only[eC];omega
      ·obtain⟨x,d5,a1,a2,a3⟩:=flat (by omega) (g++[a]) b d2 (by simp) (by omega) R hb w;rw[a1];simp only[eb];have:=a3.abc;rw[Aw (by omega) (by have:=a3.wt;omega)];refine kD.of a2 (.lam q a3.ty) ?_;rw[Tm.ef];simp only[eC];omega
    ·--a aB,or one of ah context
     intro j S;simp only[gD]
     split
     ·rename_i e;have U:=U e;obtain⟨x,d2,Q,T,X,v⟩:=kK d1 ad 8 (by omega) (by omega);rw[Q];simp only[eb,gB]
      have leaf:∀d,eu.wf d->∃s O,iQ FU d 0=some (s,O)/\s.err=0/\s.abc=1/\O.wf:=by
       intro d hd;obtain⟨s,O,c1,c2,c3,c4⟩:=wM d hd 0 (by omega);have:=s.eQ;exact⟨s,O,c1,c2,by omega,c4⟩
      split
      ·obtain⟨s,d3,s1,s2,s3,s4⟩:=leaf d2 v;rw[s1];simp only[eb];rw[oX g [s] (by simp;omega)];simp only[cl];obtain⟨a,d5,a1,a2,a3⟩:=deep e (g++[s]) t d3 (by simp) (hg.app (by intro u hu;rw[xG] at hu;subst hu;exact⟨s2,by omega⟩)) q p s4;rw[a1];simp only[eb];rw[Aw (by omega) (by have:=m e a3;omega)];simp only[cl];obtain⟨b,d6,A,C,o⟩:=deep e g s d5 (by omega) hg s2 (by omega) a2;rw[A];simp only[eb];have w1:=m e a3;rw[tN (by rw[Tm.fI];simp only[eC];omega) (by have:=m e o;omega)];refine kD.of C (.app (.lam (Ty.xP s2 q (by omega)) a3.ty) o.ty) ?_;have:=a3.abc;have:=o.abc;rw[Tm.ef];simp only[eC,Tm.ef];omega
      split
      ·obtain⟨s,d3,s1,s2,s3,s4⟩:=leaf d2 v;rw[s1];simp only[eb];obtain⟨a,d5,a1,a2,a3⟩:=deep e g t d3 (by omega) hg q p s4;rw[a1];simp only[eb];obtain⟨b,d6,A,C,o⟩:=deep e g s d5 (by omega) hg s2 (by omega) a2;rw[A];simp only[eb];have w1:=m e a3;have w2:=m e o;rw[tN (by omega) (by omega)];simp only[cl];rw[IF (by rw[Tm.fI];have:Ty.z.abc=1:=rfl;simp only[eC];omega)];refine kD.of C (.fst (.pair (Ty.M8 q s2 (by omega)) a3.ty o.ty)) ?_;have:=a3.abc;have:=o.abc;rw[Tm.ef];simp only[eC,Tm.ef];omega
      split
      ·rw[fF];simp only[cl];rw[oX g [.nat,t] (by simp;omega)];simp only[cl]
       have R:qa N (g++[.nat,t]):=hg.app (by
        intro u hu;simp only[lF,w4,sN] at hu;rcases hu with rfl|rfl
        ·exact⟨Ty.hO,by rw[Ty.im];omega⟩
        ·exact⟨q,p⟩)
       obtain⟨a,d5,a1,a2,a3⟩:=deep e (g++[.nat,t]) t d2 (by simp) R q p v;rw[a1];simp only[eb];have w1:=m e a3;have nn:=Ty.im;rw[Aw (by omega) (by omega)];simp only[cl];rw[Aw (by omega) (by rw[Tm.fI];simp only[eC];omega)];simp only[cl];obtain⟨b,d6,A,C,o⟩:=deep e g t d5 (by omega) hg q p a2;rw[A];simp only[eb];obtain⟨y,d7,y1,y2,y3,y4⟩:=kK d6 C 3 (by omega) (by omega);rw[y1];simp only[eb];obtain⟨z,z1,z2⟩:=zX y y2 (by omega);rw[z1];simp only[cl];have w2:=m e o;have zn:=(z2 g).2;have zw:=z.jx (z2 g).1.ok
       have e1:(Tm.mk 2 0 .nat [Tm.mk 2 0 t [a]]).wt<=2000000:=by rw[Tm.fI];simp only[eC,Tm.fI];omega
       rw[Co (by omega) (by omega) (by omega) (by omega)];have V:(Ty.fn t t).err=0:=Ty.xP q q (by omega);refine kD.of y4 (.uq q o.ty (.lam (Ty.xP Ty.hO V (by rw[Ty.j1];omega)) (.lam V (by simpa using a3.ty))) (z2 g).1) ?_;have:=a3.abc;have:=o.abc;rw[Tm.ef];simp only[eC,Tm.ef];omega
      split
      ·rw[fF,gO];simp only[cl];rw[oX g [.nat,.pQ,t] (by simp;omega)];simp only[cl]
       have R:qa N (g++[.nat,.pQ,t]):=hg.app (by
        intro u hu;simp only[lF,w4,sN] at hu;rcases hu with rfl|rfl|rfl
        ·exact⟨Ty.hO,by rw[Ty.im];omega⟩
        ·exact⟨Ty.pO,by rw[Ty.pA];omega⟩
        ·exact⟨q,p⟩)
       obtain⟨a,d5,a1,a2,a3⟩:=deep e (g++[.nat,.pQ,t]) t d2 (by simp) R q p v;rw[a1];simp only[eb];have w1:=m e a3;have nn:=Ty.im;have ln:=Ty.pA;rw[Aw (by omega) (by omega)];simp only[cl];rw[Aw (by omega) (by rw[Tm.fI];simp only[eC];omega)];simp only[cl];rw[Aw (by omega) (by rw[Tm.fI];simp only[eC,Tm.fI];omega)];simp only[cl];obtain⟨b,d6,A,C,o⟩:=deep e g t d5 (by omega) hg q p a2;rw[A];simp only[eb];obtain⟨c,d7,c1,c2,c3⟩:=deep e g .pQ d6 (by omega) hg Ty.pO (by omega) C;rw[c1];simp only[eb];have w2:=m e o;have w3:=m e c3
       have e1:(Tm.mk 2 0 .nat [Tm.mk 2 0 .pQ [Tm.mk 2 0 t [a]]]).wt<=2000000:=by rw[Tm.fI];simp only[eC,Tm.fI];omega
       rw[Co (by omega) (by omega) (by omega) (by omega)];have V:(Ty.fn t t).err=0:=Ty.xP q q (by omega);have Z:(Ty.fn .pQ (Ty.fn t t)).err=0:=Ty.xP Ty.pO V (by rw[Ty.j1];omega);refine kD.of c2 (.fold q o.ty (.lam (Ty.xP Ty.hO Z (by rw[Ty.j1,Ty.j1];omega)) (.lam Z (.lam V (by simpa using a3.ty)))) c3.ty) ?_;have:=a3.abc;have:=o.abc;have:=c3.abc;rw[Tm.ef];simp only[eC,Tm.ef];omega
      split
      ·obtain⟨s,d3,s1,s2,s3,s4⟩:=leaf d2 v;rw[s1];simp only[eb];obtain⟨a,d5,a1,a2,a3⟩:=deep e g s d3 (by omega) hg s2 (by omega) s4;rw[a1];simp only[eb];obtain⟨b,d6,A,C,o⟩:=deep e g t d5 (by omega) hg q p a2;rw[A];simp only[eb];have w1:=m e a3;have w2:=m e o;rw[tN (by omega) (by omega)];simp only[cl];rw[IF (by rw[Tm.fI];have:Ty.z.abc=1:=rfl;simp only[eC];omega)];refine kD.of C (.snd (.pair (Ty.M8 s2 q (by omega)) a3.ty o.ty)) ?_;have:=a3.abc;have:=o.abc;rw[Tm.ef];simp only[eC,Tm.ef];omega
      split
      ·--a function of ah context
       rw[eE (by omega),eo];simp only[ey]
       rcases IJ (λ_:Unit=>True) (λr:Tm×eu=>kD g t B (some r)) (F:=λ(E:Int) (aC:Ty) (_:Unit)=>
         cv (eI g (fB .i64 (fB .i64 (eM g) 1) E)) λD=>
          if D.aba=4 then cv (eI D.abb 1) λae=>cv (fP FU ae t) λaf=>
           if af=true then cv (fW E) λH=>cv (eI D.abb 0) λI=>ei (gA n d2 g I (fB .i64 dep 1)) λJ K=>
            cv (gn 3 [H,J]) λL=>some (gu.ret (L,K))
           else some (gu.next ())
          else if false=true then cv (fW E) λH=>cv (eI D.abb 0) λI=>ei (gA n d2 g I (fB .i64 dep 1)) λJ K=>
            cv (gn 3 [H,J]) λL=>some (gu.ret (L,K))
           else some (gu.next ())) g 0 () trivial (by
        intro k u s hk _;have aD:k<g.length:=(pG.1 hk).1
        have W:g.length-1-k<g.length:=by omega
        have e1:eI g (fB .i64 (fB .i64 (eM g) 1) ((0+k:Nat):Int))=some g[g.length-1-k]:=by
         rw[vt,fO,fG (a:=(g.length:Int)) (b:=1) (by omega) (by omega),fG (by omega) (by omega),show(g.length:Int)-1-(k:Int)=((g.length-1-k:Nat):Int) by omega,jJ];simp[W]
        simp only[e1,cl];have hf:=hg.all _ (Ga W);have aj:g[g.length-1-k]?=some g[g.length-1-k]:=pW W;generalize g[g.length-1-k]=f at hf aj|-;rcases Ty.rj hf.1 with rfl|rfl|rfl|⟨a,b,rfl,ha,hb⟩|⟨a,b,rfl,ha,hb⟩
        ·left;exact⟨(),rfl,trivial⟩
        ·left;exact⟨(),rfl,trivial⟩
        ·left;exact⟨(),rfl,trivial⟩
        ·left;exact⟨(),rfl,trivial⟩
        ·simp only[show(Ty.fn a b).aba=4 from rfl,show(Ty.fn a b).abb=[a,b] from rfl,gB,if_true,eU,gx,js,m4,cl];have aE:=hf.2;rw[Ty.j1] at aE;rw[jb (by omega)];simp only[cl];cases hs:b.nx t with
         |false=>left;exact⟨(),rfl,trivial⟩|true=>
          rw[Ty.lX] at hs;subst hs;right;simp only[if_true,vt];rw[Cn];simp only[cl];obtain⟨y,d5,a1,a2,a3⟩:=deep e g a d2 (by omega) hg ha (by omega) v;rw[a1];simp only[eb];have w1:=m e a3
          have e2:(E7 k).wt=2:=by unfold E7;rw[Tm.fI];rfl
          rw[tN (by omega) (by omega)];refine⟨_,rfl,kD.of a2 (.app (Yd k aD aj) a3.ty) ?_⟩;have:=a3.abc
          have e3:(E7 k).abc=1:=by unfold E7;rw[Tm.ef];rfl
          rw[Tm.ef];simp only[eC];omega)with⟨s,hs,_⟩|⟨r,hr,aF⟩
       ·rw[hs];exact S d2 v
       ·rw[hr];exact aF
      ·exact S d2 v
     ·exact S d1 ad
  ·intro j S;simp only[gD,fO]
   split
   ·rename_i e;obtain⟨x,d2,Q,T,X,v⟩:=kK d hd 3 (by omega) (by omega);rw[Q];simp only[eb];exact S _ d2 ⟨v,λ_ h=>by subst h;simp at e⟩
   ·exact S _ d ⟨hd,λh=>by cases h⟩
inductive kM:List Ty->Fm->Prop
 |eq {g a b}:fk g a .nat->fk g b .nat->kM g (.mk 1 .z [a,b] [])|two {g k a b}:k=2\/k=3->kM g a->kM g b->kM g (.mk k .z [] [a,b])|q {g k s a}:k=4\/k=5\/k=6\/k=7->s.err=0->kM (g++[s]) a->kM g (.mk k s [] [a])
def kM.ok{g:List Ty}{f:Fm}(h:kM g f):f.ok=true:=by
 induction h with
 |eq c d=>simp[Fm.hY,Fm.node,Ty.pK,c.ok,d.ok]|two e _ _ i j=>
  rename_i k a b _ _
  have:¬k=1:=by omega
  simp[Fm.hY,Fm.node,Ty.pK,e,this,i,j]
 |q e hs _ l=>
  rename_i k s a _
  have c:¬k=1:=by omega
  have d:¬(k=2\/k=3):=by omega
  have m:kR k=true:=by simp[kR,e]
  simp[Fm.hY,Fm.node,c,d,m,hs,l]
def DO{a b:Tm}(c:a.wt<=1000000000)(d:b.wt<=1000000000):mr a b=some (.mk 1 .z [a,b] []):=by
 unfold mr;rw[nH c,nH d];rfl
def FW{k:Int}{a b:Fm}(c:a.wt<=1000000000)(d:b.wt<=1000000000):oq k a b=some (.mk k .z [] [a,b]):=by
 unfold oq;rw[lK c,lK d];rfl
def Dx{k:Int}{s:Ty}{a:Fm}(hs:s.abc<=1000000000)(b:a.wt<=1000000000):j3 k s a=some (.mk k s [] [a]):=by
 unfold j3;rw[ja hs,lK b];rfl
def fb:Nat->Nat
 |0=>115|k+1=>1+2*fb k
def Yg:∀k,k<=5->fb k<=3711:=by
 intro k a
 have:k=0\/k=1\/k=2\/k=3\/k=4\/k=5:=by omega
 rcases this with rfl|rfl|rfl|rfl|rfl|rfl<;>decide
structure CP (g:List Ty) (f:Fm) (n:Nat):Prop where
 ty:kM g f
 abc:f.abc<=n
def CP.wt{g:List Ty}{f:Fm}{n:Nat}(h:CP g f n):f.wt<=65*n:=by
 have:=f.jx h.ty.ok;have:=h.abc;omega
def CP.err{g:List Ty}{f:Fm}{n:Nat}(h:CP g f n)(hn:n<=4096):f.err=0:=Fm.wv h.ty.ok (by have:=h.abc;omega)
def tQ(g:List Ty)(b:Nat)(o:Option (Fm×eu)):Prop:=∃x a,o=some (x,a)/\a.wf/\CP g x b
def tQ.of{g:List Ty}{b:Nat}{x:Fm}{d:eu}(a:d.wf)(h:kM g x)(hn:x.abc<=b):tQ g b (some (x,d)):=⟨x,d,rfl,a,h,hn⟩
def Bu(N:Nat)(b:1<=N)(e:N<=20)(dep:Nat)(a:dep<=5)(g:List Ty)(t:Ty)(d:eu)(j:g.length<=600)(hg:qa N g)(f:t.err=0)(c:t.abc<=N)(h:d.wf):kD g t (tb N dep) (gA FU d g t (dep:Int)):=by
 have k:dep*(N+1)<=5*21:=Fg a (by omega);have l:(3+N)*dep<=23*5:=Fg (by omega) a;obtain⟨x,i,a1,a2,a3⟩:=Nr N b e FU (dep:Int) g t d (by rw[fy];simp;omega) (by omega) (by omega) (by simp;omega) hg f c h;refine⟨x,i,a1,a2,a3.mono ?_⟩
 split
 ·have:dep=0:=by omega
  subst this;simp only[tb];omega
 ·simp
def H5:∀(n k:Nat) (g:List Ty) (d:eu),k<n->k<=5->g.length+k<=500->qa 3 g->d.wf->tQ g (fb k) (ik n d g (k:Int)):=by
 intro n
 induction n with
 |zero=>intro k g d h;omega|succ n I=>
  intro k g d R J hlen hg N;rw[ik];refine rD (G:=tQ g (fb k)) eu.wf ?_ ?_
  ·intro d1 K;rw[fF];simp only[cl];obtain⟨a,d2,a1,a2,a3⟩:=Bu 3 (by omega) (by omega) 1 (by omega) g .nat d1 (by omega) hg Ty.hO (by rw[Ty.im];omega) K;rw[show((1:Nat):Int)=1 from rfl] at a1;rw[a1];simp only[eb];obtain⟨b,d3,C,L,f⟩:=Bu 3 (by omega) (by omega) 1 (by omega) g .nat d2 (by omega) hg Ty.hO (by rw[Ty.im];omega) a2;rw[show((1:Nat):Int)=1 from rfl] at C;rw[C];simp only[eb];have e:tb 3 1=57:=rfl;rw[e] at a3 f;rw[DO (by have:=a3.wt;omega) (by have:=f.wt;omega)];refine tQ.of L (.eq a3.ty f.ty) ?_;have:=a3.abc;have:=f.abc
   have W:115<=fb k:=by
    clear R J hlen I
    induction k with
    |zero=>simp[fb]|succ k I=>simp only[fb];omega
   rw[Fm.ef];simp only[eC];omega
  ·intro j O;simp only[gD]
   split
   ·rename_i P;obtain⟨m,rfl⟩:∃m,k=m+1:=⟨k-1,by omega⟩
    have S:fB .i64 ((m+1:Nat):Int) 1=(m:Int):=by rw[fG (by omega) (by omega)];omega
    have T:=Yg m (by omega)
    have deep:∀l D,l.length<=g.length+1->qa 3 l->D.wf->tQ l (fb m) (ik n D l (fB .i64 ((m+1:Nat):Int) 1)):=by
     intro l D E F Q;rw[S];exact I m l D (by omega) (by omega) (by omega) F Q
    have ctx:∀s:Ty,s.err=0->s.abc<=3->qa 3 (g++[s]):=λs E F=>hg.app (by intro u hu;rw[xG] at hu;subst hu;exact⟨E,F⟩);obtain⟨x,d2,E,F,Q,H⟩:=kK d N 9 (by omega) (by omega);rw[E];simp only[eb,l7,p8,gB]
    have two:∀c:Int,c=2\/c=3->tQ g (fb (m+1)) (ei (ik n d2 g (fB .i64 ((m+1:Nat):Int) 1)) λo d317=>ei (ik n d317 g (fB .i64 ((m+1:Nat):Int) 1)) λp d321=>cv (oq c o p) λr=>some (r,d321)):=by
     intro c t;obtain⟨a,d3,a1,a2,a3⟩:=deep g d2 (by omega) hg H;rw[a1];simp only[eb];obtain⟨b,d4,C,L,f⟩:=deep g d3 (by omega) hg a2;rw[C];simp only[eb];rw[FW (by have:=a3.wt;omega) (by have:=f.wt;omega)];refine tQ.of L (.two t a3.ty f.ty) ?_;have:=a3.abc;have:=f.abc;rw[Fm.ef];simp only[eC,fb];omega
    split
    ·exact two 2 (.inl rfl)
    split
    ·exact two 3 (.inr rfl)
    have one:∀c:Int,c=4\/c=5->tQ g (fb (m+1)) (ei (iQ FU d2 1) λi v=>cv (mM g [i]) λw=>ei (ik n v w (fB .i64 ((m+1:Nat):Int) 1)) λz A=>cv (j3 c i z) λB=>some (B,A)):=by
     intro c t;obtain⟨s,d3,s1,s2,U,M⟩:=wM d2 H 1 (by omega);rw[show((1:Nat):Int)=1 from rfl] at s1;rw[s1];simp only[eb];rw[oX g [s] (by simp;omega)];simp only[cl];obtain⟨a,d4,a1,a2,a3⟩:=deep (g++[s]) d3 (by simp) (ctx s s2 (by omega)) M;rw[a1];simp only[eb];rw[Dx (by omega) (by have:=a3.wt;omega)];refine tQ.of a2 (.q (by omega) s2 a3.ty) ?_;have:=a3.abc;rw[Fm.ef];simp only[eC,fb];omega
    split
    ·exact one 4 (.inl rfl)
    split
    ·exact one 5 (.inr rfl)
    split
    ·obtain⟨s,d3,s1,s2,U,M⟩:=wM d2 H 0 (by omega);rw[show((0:Nat):Int)=0 from rfl] at s1;rw[s1];simp only[eb];obtain⟨y,d5,V,X,y3,y4⟩:=kK d3 M 2 (by omega) (by omega);rw[V];simp only[eb];rw[oX g [s] (by simp;omega)];simp only[cl];obtain⟨a,d4,a1,a2,a3⟩:=deep (g++[s]) d5 (by simp) (ctx s s2 (by omega)) y4;rw[a1];simp only[eb];rw[fu (by omega) (by omega),Dx (by omega) (by have:=a3.wt;omega)];refine tQ.of a2 (.q (by omega) s2 a3.ty) ?_;have:=a3.abc;rw[Fm.ef];simp only[eC,fb];omega
    ·exact O d2 H
   ·exact O d N
def zb(k:Nat)(a:k<=5)(g:List Ty)(d:eu)(c:g.length<=400)(hg:qa 3 g)(b:d.wf):tQ g (fb k) (ik FU d g (k:Int)):=
 H5 FU k g d (by rw[fy];omega) a (by omega) hg b
def HL(d:eu)(j:d.wf):∃g h,uU d=some (g,h)/\h.wf/\g.length<=3/\qa 3 g:=by
 unfold uU;obtain⟨x,d1,k,m,t,n⟩:=kK d j 4 (by omega) (by omega);rw[k];simp only[eb,ey]
 obtain⟨o,p,f⟩:=uG (ρ:=List Ty×eu) (F:=La λ(v218:List Ty) (a:Int) (b:eu)=>
   if nS a 0=true then ei (iQ FU b 1) λc d278=>g_ (gf v218 [c])<|some (gu.next (gv v218 [c],fB .i64 a 1,d278))else some (gu.DQ (v218,a,b)))
  (λs=>0<=s.2.1/\(s.1.length:Int)+s.2.1<=3/\qa 3 s.1/\s.2.2.wf) (λs=>s.2.1.toNat)
  (λo=>match o with|.inl s=>s.1.length<=3/\qa 3 s.1/\s.2.2.wf|.inr _=>False)
  (by
   rintro⟨l,i,e⟩ ⟨i1,i2,i3,i4⟩;simp only at i1 i2 i3 i4
   by_cases hi:0<i
   ·left;obtain⟨s,d3,s1,s2,v,q⟩:=wM e i4 1 (by omega);rw[show((1:Nat):Int)=1 from rfl] at s1;refine⟨(l++[s],i-1,d3),?_,⟨?_,?_,?_,q⟩,?_⟩
    ·simp only[tU,gD,hi,if_true,s1,eb];rw[fl (by simp;omega),eo,fG (by omega) (by omega)];rfl
    ·show 0<=i-1;omega
    ·simp;omega
    ·exact i3.app (by intro u hu;rw[xG] at hu;subst hu;exact⟨s2,by omega⟩)
    ·show(i-1).toNat<i.toNat;omega
   ·right;left
    exact⟨(l,i,e),by simp only[tU,gD,hi,pE],by simp only;omega,i3,i4⟩)
  FU ([],x,d1) ⟨m,by simp;omega,⟨by simp⟩,n⟩ (by rw[fy];show x.toNat<_;omega)
 rw[p];cases o with
 |inr r=>exact f.elim|inl s=>
  obtain⟨l,i,e⟩:=s;exact⟨l,e,rfl,f.2.2,f.1,f.2.1⟩
def Hf(d:eu)(j:d.wf):∃q c,sF d=some (q,c)/\c.wf/\q.abe.length<=3/\qa 3 q.abe/\q.abh.length<=2/\∀f∈q.abh,CP q.abe f (fb 2):=by
 unfold sF;obtain⟨g,d0,g1,g2,g3,g4⟩:=HL d j;rw[g1];simp only[eb];obtain⟨x,d1,k,m,v,n⟩:=kK d0 g2 3 (by omega) (by omega);rw[k];simp only[eb,ey]
 obtain⟨o,p,b⟩:=uG (ρ:=Sq×eu) (F:=La λ(v226:Int) (v227:List Fm) (v228:eu)=>
   if nS v226 0=true then ei (ik FU v228 g 2) λa d286=>g_ (gf v227 [a])<|some (gu.next (fB .i64 v226 1,gv v227 [a],d286))else some (gu.DQ (v226,v227,v228)))
  (λs=>0<=s.1/\(s.2.1.length:Int)+s.1<=2/\(∀f∈s.2.1,CP g f (fb 2))/\s.2.2.wf) (λs=>s.1.toNat)
  (λo=>match o with|.inl s=>s.2.1.length<=2/\(∀f∈s.2.1,CP g f (fb 2))/\s.2.2.wf|.inr _=>False)
  (by
   rintro⟨i,l,e⟩ ⟨i1,i2,i3,i4⟩;simp only at i1 i2 i3 i4
   by_cases hi:0<i
   ·left;obtain⟨s,d3,s1,s2,t⟩:=zb 2 (by omega) g e (by omega) g4 i4;rw[show((2:Nat):Int)=2 from rfl] at s1;refine⟨(i-1,l++[s],d3),?_,⟨?_,?_,?_,s2⟩,?_⟩
    ·simp only[tU,gD,hi,if_true,s1,eb];rw[fl (by simp;omega),eo,fG (by omega) (by omega)];rfl
    ·show 0<=i-1;omega
    ·simp;omega
    ·intro f u;rcases sy.1 u with h|h
     ·exact i3 f h
     ·rw[xG] at h;subst h;exact t
    ·show(i-1).toNat<i.toNat;omega
   ·right;left
    exact⟨(i,l,e),by simp only[tU,gD,hi,pE],by simp only;omega,i3,i4⟩)
  FU (x,[],d1) ⟨m,by simp;omega,by simp,n⟩ (by rw[fy];show x.toNat<_;omega)
 rw[p];cases o with
 |inr r=>exact b.elim|inl s=>
  obtain⟨i,l,e⟩:=s;exact⟨⟨g,l⟩,e,rfl,b.2.2,g3,g4,b.1,b.2.1⟩
def UT(l:List Int)(h:l.length<=1000):(eu.mk l 0).wf:=⟨h,by simp,by simp⟩
def wx(l:List Ty):Int:=if 16<l.length then 3 else hE (l.map Ty.err)
def xe(l:List Ty)(e:l.length<=1000000)(h:∀t∈l,t.abc<=1000000000):nQ l=some (wx l):=by
 unfold nQ wx;simp only[gD,fO,eE (l:=l) (by omega),eo,ey]
 by_cases b:16<l.length
 ·rw[ee (by omega),ee b]
 ·rw[ea (by omega),ea b]
  have key:=lj (F:=λ(j:Int) (x:Ty) (_:Unit)=>cv (mE x) λa=>if eW a 0=true then some (gu.ret a)else some (gu.next ())) Ty.err l 0 (by
   intro j x d;rw[y' (h x d)]
   simp only[cl,eA])
  simp only[eA] at key|-;rw[key]
  by_cases c:hE (l.map Ty.err)=0
  ·simp[c]
  ·simp[c]
def sG(l:List Ty)(e:l.length<=1000000)(h:∀t∈l,t.abc<=1000000000):mH l=some (wx l):=by
 unfold mH wx;simp only[gD,fO,eE (l:=l) (by omega),eo,ey]
 by_cases b:16<l.length
 ·rw[ee (by omega),ee b]
 ·rw[ea (by omega),ea b]
  have key:=lj (F:=λ(j:Int) (x:Ty) (_:Unit)=>cv (jw x) λa=>if eW a 0=true then some (gu.ret a)else some (gu.next ())) Ty.err l 0 (by
   intro j x d;rw[mO (h x d)]
   simp only[cl,eA])
  simp only[eA] at key|-;rw[key]
  by_cases c:hE (l.map Ty.err)=0
  ·simp[c]
  ·simp[c]
def xk:∀(n:Nat) (a b:Ty),a.abc<=n->a.abc<=1000000000->∃r,hD n a b=some r/\(r=true↔a=b):=by
 intro n
 induction n with
 |zero=>intro t b h;have:=t.eQ;omega
 |succ n q=>
  intro a b h s;cases a with
  |mk k l=>
  cases b with
  |mk k' m=>
   rw[Ty.ef] at h s;have u:=Ty.fQ l;rw[hD];simp only[Ty.eG,Ty.eN,ey,eE (l:=l) (by omega),eo,l7,p8,eA,fO]
   by_cases d:k≠k'\/(l.length:Int)≠m.length
   ·rw[ee d];refine⟨false,rfl,?_⟩;simp only[tp,Jl,Ty.mk.injEq,not_and];rintro rfl rfl;simp at d
   ·rw[ea d];simp only[not_or,y8] at d;obtain⟨rfl,hlen⟩:=d
    have c:l.length=m.length:=by omega
    let p:Ty->Ty->Bool:=λx y=>(hD n x y).getD false
    have i:∀x∈l,∀y,hD n x y=some (p x y)/\(p x y=true↔x=y):=by
     intro x f y;have:=eL Ty.abc f;obtain⟨r,o,g⟩:=q x y (by omega) (by omega)
     have e:p x y=r:=by show(hD n x y).getD false=r;rw[o];rfl
     rw[e];exact⟨o,g⟩
    have key:=wL (F:=λ(j:Int) (x:Ty) (_:Unit)=>cv (eI m j) λy=>cv (hD n x y) λz=>if z=true then some (gu.next ())else some (gu.ret false)) p m l 0 m rfl c (by
     intro k x y f hy;rw[jJ,hy];simp only[cl];rw[(i x f y).1]
     rfl)
    rw[key];have he:=xi p l m λx f y=>(i x f y).2;cases g:vd p l m with
    |false=>exact⟨false,rfl,by rw[g] at he;simpa using he⟩
    |true=>exact⟨true,rfl,by rw[g] at he;simpa using he⟩
def wX:∀(n:Nat) (a b:Tm),a.wt<=n->a.wt<=1000000000->∃r,iU n a b=some r/\(r=true↔a=b):=by
 intro n
 induction n with
 |zero=>intro t b h;have:=t.jt;omega
 |succ n D=>
  intro a b h E;cases a with
  |mk k i s l=>
  cases b with
  |mk k' f u m=>
   rw[Tm.fI] at h E;have H:=Tm.oo l;rw[iU];simp only[Tm.eG,Tm.eN,Tm.gy,Tm.fv,ey,eE (l:=l) (by omega),eo,eA,fO]
   have no:¬(k=k'/\i=f/\s=u/\l.length=m.length)->∃r,some false=some r/\(r=true↔Tm.mk k i s l=Tm.mk k' f u m):=by
    intro hn;refine⟨false,rfl,?_⟩;simp only[tp,Jl,Tm.mk.injEq,not_and];rintro rfl rfl rfl rfl;exact hn ⟨rfl,rfl,rfl,rfl⟩
   by_cases g:k≠k'
   ·rw[ee g,ee trivial];exact no λh=>g h.1
   ·rw[ea g]
    by_cases hi:i≠f
    ·rw[ee hi,ee trivial];exact no λh=>hi h.2.1
    ·rw[ea hi];obtain⟨r,G,A⟩:=xk FU s u (by rw[fy];omega) (by omega);rw[G];simp only[cl]
     by_cases o:r=true
     ·have hs:=A.1 o;rw[ee o]
      by_cases hlen:(l.length:Int)≠m.length
      ·rw[ee hlen];exact no λh=>hlen (by omega)
      ·rw[ea hlen]
       have c:l.length=m.length:=by omega
       let p:Tm->Tm->Bool:=λx y=>(iU n x y).getD false
       have B:∀x∈l,∀y,iU n x y=some (p x y)/\(p x y=true↔x=y):=by
        intro x d y;have:=eL Tm.wt d;obtain⟨r,C,q⟩:=D x y (by omega) (by omega)
        have e:p x y=r:=by show(iU n x y).getD false=r;rw[C];rfl
        rw[e];exact⟨C,q⟩
       have key:=wL (F:=λ(j:Int) (x:Tm) (_:Unit)=>cv (eI m j) λy=>cv (iU n x y) λz=>if z=true then some (gu.next ())else some (gu.ret false)) p m l 0 m rfl c (by
        intro k x y d hy;rw[jJ,hy];simp only[cl];rw[(B x d y).1]
        rfl)
       rw[key];have he:=xi p l m λx d y=>(B x d y).2;have v:k=k':=y8.1 g;have hi':i=f:=y8.1 hi;cases q:vd p l m with
       |false=>
        refine⟨false,rfl,?_⟩;rw[q] at he;simp only[tp,Jl,Tm.mk.injEq,not_and];intro _ _ _ w;exact absurd (he.2 w) (by simp)
       |true=>
        refine⟨true,rfl,?_⟩;rw[q] at he;simp only[Rw,Tm.mk.injEq];exact⟨v,hi',hs,he.1 rfl⟩
     ·rw[ea o,ee trivial];exact no λh=>o (A.2 h.2.2.1)
def AG:∀(n:Nat) (a b:Tm),a.wt<=n->a.wt<=1000000000->∃r,kb n a b=some r/\(r=true↔a=b):=by
 intro n
 induction n with
 |zero=>intro t b h;have:=t.jt;omega
 |succ n D=>
  intro a b h E;cases a with
  |mk k i s l=>
  cases b with
  |mk k' f u m=>
   rw[Tm.fI] at h E;have H:=Tm.oo l;rw[kb];simp only[Tm.eG,Tm.eN,Tm.gy,Tm.fv,ey,eE (l:=l) (by omega),eo,eA,fO]
   have no:¬(k=k'/\i=f/\s=u/\l.length=m.length)->∃r,some false=some r/\(r=true↔Tm.mk k i s l=Tm.mk k' f u m):=by
    intro hn;refine⟨false,rfl,?_⟩;simp only[tp,Jl,Tm.mk.injEq,not_and];rintro rfl rfl rfl rfl;exact hn ⟨rfl,rfl,rfl,rfl⟩
   by_cases g:k≠k'
   ·rw[ee g,ee trivial];exact no λh=>g h.1
   ·rw[ea g]
    by_cases hi:i≠f
    ·rw[ee hi,ee trivial];exact no λh=>hi h.2.1
    ·rw[ea hi];obtain⟨r,G,A⟩:=wC FU s u (by rw[fy];omega) (by omega);rw[G];simp only[cl]
     by_cases o:r=true
     ·have hs:=A.1 o;rw[ee o]
      by_cases hlen:(l.length:Int)≠m.length
      ·rw[ee hlen];exact no λh=>hlen (by omega)
      ·rw[ea hlen]
       have c:l.length=m.length:=by omega
       let p:Tm->Tm->Bool:=λx y=>(kb n x y).getD false
       have B:∀x∈l,∀y,kb n x y=some (p x y)/\(p x y=true↔x=y):=by
        intro x d y;have:=eL Tm.wt d;obtain⟨r,C,q⟩:=D x y (by omega) (by omega)
        have e:p x y=r:=by show(kb n x y).getD false=r;rw[C];rfl
        rw[e];exact⟨C,q⟩
       have key:=wL (F:=λ(j:Int) (x:Tm) (_:Unit)=>cv (eI m j) λy=>cv (kb n x y) λz=>if z=true then some (gu.next ())else some (gu.ret false)) p m l 0 m rfl c (by
        intro k x y d hy;rw[jJ,hy];simp only[cl];rw[(B x d y).1]
        rfl)
       rw[key];have he:=xi p l m λx d y=>(B x d y).2;have v:k=k':=y8.1 g;have hi':i=f:=y8.1 hi;cases q:vd p l m with
       |false=>
        refine⟨false,rfl,?_⟩;rw[q] at he;simp only[tp,Jl,Tm.mk.injEq,not_and];intro _ _ _ w;exact absurd (he.2 w) (by simp)
       |true=>
        refine⟨true,rfl,?_⟩;rw[q] at he;simp only[Rw,Tm.mk.injEq];exact⟨v,hi',hs,he.1 rfl⟩
     ·rw[ea o,ee trivial];exact no λh=>o (A.2 h.2.2.1)
def HM{a b:Tm}(hw:a.wt<=1000000000):∃r,rk a b=some r/\(r=true↔a=b):=by
 obtain⟨r,c,d⟩:=wX FU a b (by rw[fy];exact hw) hw;exact⟨r,by unfold rk;rw[c];rfl,d⟩
def KY:∀(k:Nat) (m:Int) (t:Tm),(t.norm k m).2.2=0\/(t.norm k m).2.2=4\/(t.norm k m).2.2=5
 |0,m,t=>by
  rw[Tm.norm]
  split
  ·exact .inl rfl
  ·exact .inr (.inr rfl)
 |k+1,m,t=>by
  rw[Tm.norm]
  split
  ·exact .inr (.inl rfl)
  ·exact .inl rfl
  ·exact KY k _ _
def J7:∀(k:Nat) (M m:Int) (t a:Tm) (n:Int),0<=M->Sm M t->t.abc<=4096->t.norm k m=(a,n,0)->Sm (M+8192*k) a/\a.abc<=4096
 |0,M,m,t,a,n,d,hs,hn,h=>by
  rw[Tm.norm] at h
  split at h
  ·obtain⟨b,h⟩:=jI h;rw[<-b];exact⟨hs.mono (by omega),hn⟩
  ·cases h
 |k+1,M,m,t,a,n,d,hs,hn,h=>by
  rw[Tm.norm] at h
  split at h
  ·cases h
  ·obtain⟨b,h⟩:=jI h;rw[<-b];exact⟨hs.mono (by omega),hn⟩
  ·rename_i e c;obtain⟨f,g,i⟩:=Jp d t hs (by omega) e c;obtain⟨a1,a2⟩:=J7 k (M+8192) (m+1) e a n (by omega) ⟨f,g,by omega⟩ (by omega) h;exact⟨a1.mono (by omega),a2⟩
def O1(l:List Int):GM l=some (decide (l.length<=500)):=by
 unfold GM
 congr 1
 unfold Jx eM;exact Nx.2 (by omega)
def yy{k:Int}(a:k≠1)(c:k≠2)(f b i:Int)(s:Ty)(l:List Tm):(Tm.mk k i s l).up f b=.mk k i s (l.map (Tm.up f b)):=by
 rw[Tm.l0,ea (λh=>a h.1)];unfold gC;rw[ea c,yu]
def WB(f b i:Int)(s:Ty)(l:List Tm):(Tm.mk 2 i s l).up f b=.mk 2 i s (l.map (Tm.up (f+1) b)):=by
 rw[Tm.l0,ea (λh=>by have:=h.1;omega)];rfl
def vq{k:Int}(b:k≠1)(c:k≠2)(n i:Int)(a:Tm)(s:Ty)(l:List Tm):Tm.m7 n (Tm.mk k i s l) a=.mk k i s (l.map λx=>Tm.m7 n x a):=by
 rw[Tm.nU,ea b];unfold gC;rw[ea c,yu]
def Tb(n i:Int)(a:Tm)(s:Ty)(l:List Tm):Tm.m7 n (Tm.mk 2 i s l) a=.mk 2 i s (l.map λx=>Tm.m7 (n+1) x a):=by
 rw[Tm.nU,ea (by decide)];rfl
def EU{g:List Ty}{t:Ty}{i j:Nat}(h:g[j]?=some t)(hi:i<g.length)(a:g.length-1-i=j):fk g (.mk 1 i .z []) t:=.var i hi (by rw[a];exact h)
def fk.up{g:List Ty}{x:Tm}{t:Ty}(h:fk g x t):∀g1 g2 e:List Ty,g=g1++g2->fk (g1++e++g2) (x.up g2.length e.length) t:=by
 induction h with
 |@var g t i d l=>
  rintro g1 g2 e rfl;rw[Tm.l0,LW];rw[so] at d
  by_cases hi:g2.length<=i
  ·rw[ee ⟨rfl,by omega⟩,show(i:Int)+e.length=((i+e.length:Nat):Int) by push_cast;rfl];refine EU (j:=g1.length+g2.length-1-i) ?_ (by simp<;>omega) (by simp<;>omega);rw[so,tD (by omega)] at l;rw[ux,tD (by omega)];exact l
  ·rw[ea (λh=>by have:=h.2;omega)];refine EU (j:=g1.length+e.length+(g2.length-1-i)) ?_ (by simp<;>omega) (by simp<;>omega);rw[so,xI (by omega)] at l;rw[xI (by simp<;>omega)];rw[<-l]
   congr 1
   simp;omega
 |@lam g s b t d _ f=>
  rintro g1 g2 e rfl;have:=f g1 (g2++[s]) e (by rw[ux]);rw[WB];refine .lam d ?_;rw[so,<-ux] at this;exact this
 |app _ _ a c=>intro g1 g2 e hg;rw[yy (by decide) (by decide)];exact .app (a g1 g2 e hg) (c g1 g2 e hg)|zero=>intro g1 g2 e hg;rw[yy (by decide) (by decide)];exact .zero|succ _ f=>intro g1 g2 e hg;rw[yy (by decide) (by decide)];exact .succ (f g1 g2 e hg)|uq d _ _ _ a c k=>intro g1 g2 e hg;rw[yy (by decide) (by decide)];exact .uq d (a g1 g2 e hg) (c g1 g2 e hg) (k g1 g2 e hg)|nil=>intro g1 g2 e hg;rw[yy (by decide) (by decide)];exact .nil|cons _ _ a c=>intro g1 g2 e hg;rw[yy (by decide) (by decide)];exact .cons (a g1 g2 e hg) (c g1 g2 e hg)|fold d _ _ _ a c k=>intro g1 g2 e hg;rw[yy (by decide) (by decide)];exact .fold d (a g1 g2 e hg) (c g1 g2 e hg) (k g1 g2 e hg)|pair d _ _ a c=>intro g1 g2 e hg;rw[yy (by decide) (by decide)];exact .pair d (a g1 g2 e hg) (c g1 g2 e hg)|fst _ f=>intro g1 g2 e hg;rw[yy (by decide) (by decide)];exact .fst (f g1 g2 e hg)|snd _ f=>intro g1 g2 e hg;rw[yy (by decide) (by decide)];exact .snd (f g1 g2 e hg)|unit=>intro g1 g2 e hg;rw[yy (by decide) (by decide)];exact .unit
def fk.m7{g:List Ty}{x:Tm}{t:Ty}(h:fk g x t):∀(g1:List Ty) (s:Ty) (g2:List Ty) (a:Tm),g=g1++[s]++g2->fk g1 a s->fk (g1++g2) (Tm.m7 g2.length x a) t:=by
 induction h with
 |@var g t i f k=>
  rintro g1 s g2 a rfl c;rw[Tm.nU,ee rfl];unfold Tm.vh;simp only[so,lL,wE] at f k
  by_cases he:(i:Int)=g2.length
  ·rw[ee he]
   have n:s=t:=by
    rw[ux,xI (by omega),tD (by simp<;>omega)] at k;rw[show g1.length+(0+1)+g2.length-1-i-g1.length=0 by omega] at k;exact iw k
   subst n;have:=c.up g1 [] g2 (by simp);simpa using this
  ·rw[ea he]
   by_cases hi:(g2.length:Int)<i
   ·rw[ee hi,show(i:Int)-1=((i-1:Nat):Int) by omega];refine EU (j:=g1.length+g2.length-i) ?_ (by simp<;>omega) (by simp<;>omega);rw[ux,tD (by omega)] at k;rw[tD (by omega),<-k]
    congr 1
    omega
   ·rw[ea hi];refine EU (j:=g1.length+(g2.length-1-i)) ?_ (by simp<;>omega) (by simp<;>omega);rw[xI (by simp<;>omega)] at k;rw[xI (by omega),<-k]
    congr 1
    simp;omega
 |@lam g s b t f _ l=>
  rintro g1 u g2 a rfl c;have:=l g1 u (g2++[s]) a (by simp only[ux]) c;rw[Tb];refine .lam f ?_;rw[so,<-ux] at this;exact this
 |app _ _ d e=>intro g1 s g2 a hg c;rw[vq (by decide) (by decide)];exact .app (d g1 s g2 a hg c) (e g1 s g2 a hg c)|zero=>intro g1 s g2 a hg c;rw[vq (by decide) (by decide)];exact .zero|succ _ l=>intro g1 s g2 a hg c;rw[vq (by decide) (by decide)];exact .succ (l g1 s g2 a hg c)|uq f _ _ _ d e m=>intro g1 s g2 a hg c;rw[vq (by decide) (by decide)];exact .uq f (d g1 s g2 a hg c) (e g1 s g2 a hg c) (m g1 s g2 a hg c)|nil=>intro g1 s g2 a hg c;rw[vq (by decide) (by decide)];exact .nil|cons _ _ d e=>intro g1 s g2 a hg c;rw[vq (by decide) (by decide)];exact .cons (d g1 s g2 a hg c) (e g1 s g2 a hg c)|fold f _ _ _ d e m=>intro g1 s g2 a hg c;rw[vq (by decide) (by decide)];exact .fold f (d g1 s g2 a hg c) (e g1 s g2 a hg c) (m g1 s g2 a hg c)|pair f _ _ d e=>intro g1 s g2 a hg c;rw[vq (by decide) (by decide)];exact .pair f (d g1 s g2 a hg c) (e g1 s g2 a hg c)|fst _ l=>intro g1 s g2 a hg c;rw[vq (by decide) (by decide)];exact .fst (l g1 s g2 a hg c)|snd _ l=>intro g1 s g2 a hg c;rw[vq (by decide) (by decide)];exact .snd (l g1 s g2 a hg c)|unit=>intro g1 s g2 a hg c;rw[vq (by decide) (by decide)];exact .unit
def Ty.Vd{a b c d:Ty}(h:Ty.fn a b=Ty.fn c d):a=c/\b=d:=by unfold Ty.fn at h;simpa using h
def Ty.Qe{a b c d:Ty}(h:Ty.pr a b=Ty.pr c d):a=c/\b=d:=by unfold Ty.pr at h;simpa using h
def fk.gl{g:List Ty}{x:Tm}{t:Ty}(h:fk g x t)(l:x.root=true):fk g x.gl t:=by
 cases h with
 |@app _ f a s _ c j=>
  have d:f.aba=2:=by simpa[Tm.root,Tm.kd] using l
  generalize o:Ty.fn s t=q at c
  cases c<;>simp only[Tm.eN] at d<;>first|omega|skip
  rename_i w b p e i;obtain⟨rfl,rfl⟩:=Ty.Vd o;have:=i.m7 g s [] a (by simp) j;simpa[Tm.gl] using this
 |@uq _ _ b s n c j e i=>
  have d:n.aba=4\/n.aba=5:=by simpa[Tm.root,Tm.kd] using l
  cases i<;>simp only[Tm.eN] at d<;>first|omega|skip
  ·simpa[Tm.gl] using j
  ·rename_i m k;have:=fk.app (.app e k) (fk.uq c j e k);simpa[Tm.gl,mh,Ty.z] using this
 |@fold _ _ b s n c j e i=>
  have d:n.aba=7\/n.aba=8:=by simpa[Tm.root,Tm.kd] using l
  cases i<;>simp only[Tm.eN] at d<;>first|omega|skip
  ·simpa[Tm.gl] using j
  ·rename_i u v k r;have:=fk.app (.app (.app e k) r) (fk.fold c j e r);simpa[Tm.gl,mh,Ty.z] using this
 |@fst _ a s p c=>
  have d:a.aba=10:=by simpa[Tm.root,Tm.kd] using l
  generalize o:Ty.pr t p=q at c
  cases c<;>simp only[Tm.eN] at d<;>first|omega|skip
  rename_i e i k;obtain⟨rfl,rfl⟩:=Ty.Qe o;simpa[Tm.gl] using i
 |@snd _ a s p c=>
  have d:a.aba=10:=by simpa[Tm.root,Tm.kd] using l
  generalize o:Ty.pr s t=q at c
  cases c<;>simp only[Tm.eN] at d<;>first|omega|skip
  rename_i e i k;obtain⟨rfl,rfl⟩:=Ty.Qe o;simpa[Tm.gl] using k
 |_=>simp[Tm.root] at l
def mJ{r k i:Int}{s:Ty}{l:List Tm}{b:Tm}(h:(Tm.mk k i s l).I7 r=some (some b)):((Tm.mk k i s l).root=true/\b=(Tm.mk k i s l).gl)\/∃a,Tm.sx r l=some (some a)/\b=.mk k i s a:=by
 rw[Tm.A5] at h
 by_cases c:(Tm.mk k i s l).root=true
 ·rw[ee c] at h
  split at h
  · cases h
  · exact .inl ⟨c,(iw (iw h)).symm⟩
 ·rw[ea c] at h;cases e:Tm.sx r l with
  |none=>rw[e] at h;cases h
  |some o=>
    cases o with
    |none=>rw[e] at h;cases h
    |some a=>rw[e] at h;exact .inr ⟨a,rfl,(iw (iw h)).symm⟩
def kT{r:Int}{a:Tm}{l c:List Tm}(h:Tm.sx r (a::l)=some (some c)):(∃b,a.I7 r=some (some b)/\c=b::l)\/∃m,Tm.sx r l=some (some m)/\c=a::m:=by
 rw[Tm.sx] at h;cases e:a.I7 r with
 |none=>rw[e] at h;cases h
 |some o=>
  cases o with
  |some b=>rw[e] at h;exact .inl ⟨b,rfl,(iw (iw h)).symm⟩
  |none=>
   rw[e] at h;dsimp only at h;cases d:Tm.sx r l with
   |none=>rw[d] at h;cases h
   |some o2=>
    cases o2 with
    |none=>rw[d] at h;cases h
    |some m=>rw[d] at h;exact .inr ⟨m,rfl,(iw (iw h)).symm⟩
def om{r:Int}{a:List Tm}(h:Tm.sx r []=some (some a)):False:=by rw[Tm.sx] at h;cases h
def fk.I7{r:Int}{g:List Ty}{x:Tm}{t:Ty}(h:fk g x t):∀n,x.I7 r=some (some n)->fk g n t:=by
 induction h with
 |var i c f=>
  intro n hs;rcases mJ hs with⟨d,rfl⟩|⟨q,e,rfl⟩
  ·exact(fk.var i c f).gl d
  ·exact(om e).elim
 |lam c f s=>
  intro n hs;rcases mJ hs with⟨d,rfl⟩|⟨q,e,rfl⟩
  ·exact(fk.lam c f).gl d
  ·rcases kT e with⟨o,a,b⟩|⟨m,a,b⟩
   ·subst_vars;exact .lam c (s _ a)
   ·exact(om a).elim
 |app c f j k=>
  intro n hs;rcases mJ hs with⟨d,rfl⟩|⟨q,e,rfl⟩
  ·exact(fk.app c f).gl d
  ·rcases kT e with⟨o,a,b⟩|⟨m,a,b⟩
   ·subst_vars;exact .app (j _ a) f
   ·rcases kT a with⟨o,l,b⟩|⟨m,l,b⟩
    ·subst_vars;exact .app c (k _ l)
    ·exact(om l).elim
 |zero=>
  intro n hs;rcases mJ hs with⟨d,rfl⟩|⟨q,e,rfl⟩
  ·exact fk.zero.gl d
  ·exact(om e).elim
 |succ c s=>
  intro n hs;rcases mJ hs with⟨d,rfl⟩|⟨q,e,rfl⟩
  ·exact(fk.succ c).gl d
  ·rcases kT e with⟨o,a,b⟩|⟨m,a,b⟩
   ·subst_vars;exact .succ (s _ a)
   ·exact(om a).elim
 |uq p c f u j k v=>
  intro n hs;rcases mJ hs with⟨d,rfl⟩|⟨q,e,rfl⟩
  ·exact(fk.uq p c f u).gl d
  ·rcases kT e with⟨o,a,b⟩|⟨m,a,b⟩
   ·subst_vars;exact .uq p (j _ a) f u
   ·rcases kT a with⟨o,l,b⟩|⟨m,l,b⟩
    ·subst_vars;exact .uq p c (k _ l) u
    ·rcases kT l with⟨o,w,b⟩|⟨m,w,b⟩
     ·subst_vars;exact .uq p c f (v _ w)
     ·exact(om w).elim
 |nil=>
  intro n hs;rcases mJ hs with⟨d,rfl⟩|⟨q,e,rfl⟩
  ·exact fk.nil.gl d
  ·exact(om e).elim
 |cons c f j k=>
  intro n hs;rcases mJ hs with⟨d,rfl⟩|⟨q,e,rfl⟩
  ·exact(fk.cons c f).gl d
  ·rcases kT e with⟨o,a,b⟩|⟨m,a,b⟩
   ·subst_vars;exact .cons (j _ a) f
   ·rcases kT a with⟨o,l,b⟩|⟨m,l,b⟩
    ·subst_vars;exact .cons c (k _ l)
    ·exact(om l).elim
 |fold p c f u j k v=>
  intro n hs;rcases mJ hs with⟨d,rfl⟩|⟨q,e,rfl⟩
  ·exact(fk.fold p c f u).gl d
  ·rcases kT e with⟨o,a,b⟩|⟨m,a,b⟩
   ·subst_vars;exact .fold p (j _ a) f u
   ·rcases kT a with⟨o,l,b⟩|⟨m,l,b⟩
    ·subst_vars;exact .fold p c (k _ l) u
    ·rcases kT l with⟨o,w,b⟩|⟨m,w,b⟩
     ·subst_vars;exact .fold p c f (v _ w)
     ·exact(om w).elim
 |pair p c f j k=>
  intro n hs;rcases mJ hs with⟨d,rfl⟩|⟨q,e,rfl⟩
  ·exact(fk.pair p c f).gl d
  ·rcases kT e with⟨o,a,b⟩|⟨m,a,b⟩
   ·subst_vars;exact .pair p (j _ a) f
   ·rcases kT a with⟨o,l,b⟩|⟨m,l,b⟩
    ·subst_vars;exact .pair p c (k _ l)
    ·exact(om l).elim
 |fst c s=>
  intro n hs;rcases mJ hs with⟨d,rfl⟩|⟨q,e,rfl⟩
  ·exact(fk.fst c).gl d
  ·rcases kT e with⟨o,a,b⟩|⟨m,a,b⟩
   ·subst_vars;exact .fst (s _ a)
   ·exact(om a).elim
 |snd c s=>
  intro n hs;rcases mJ hs with⟨d,rfl⟩|⟨q,e,rfl⟩
  ·exact(fk.snd c).gl d
  ·rcases kT e with⟨o,a,b⟩|⟨m,a,b⟩
   ·subst_vars;exact .snd (s _ a)
   ·exact(om a).elim
 |unit=>
  intro n hs;rcases mJ hs with⟨d,rfl⟩|⟨q,e,rfl⟩
  ·exact fk.unit.gl d
  ·exact(om e).elim
def fk.norm{g:List Ty}{t:Ty}:∀(k:Nat) (m:Int) (x a:Tm) (n:Int),fk g x t->x.norm k m=(a,n,0)->fk g a t
 |0,m,x,a,n,b,h=>by
  rw[Tm.norm] at h
  split at h
  ·obtain⟨c,_⟩:=jI h;rw[<-c];exact b
  ·cases h
 |k+1,m,x,a,n,b,h=>by
  rw[Tm.norm] at h
  split at h
  ·cases h
  ·obtain⟨c,_⟩:=jI h;rw[<-c];exact b
  ·rename_i d hs;exact fk.norm k (m+1) d a n (b.I7 _ hs) h
def PS(k:Int):iI k<=3:=by unfold iI;repeat' (first|omega|split)
def Tm.Zg{k i:Int}{s:Ty}{l:List Tm}(h:(Tm.mk k i s l).ok=true):l.length<=3:=by
 have:=Tm.wz h;have:=PS k;omega
def V2(x:Tm):Tm.mk x.aba x.abd (Ty.mk x.dv.aba x.dv.abb) x.abb=x:=by
 cases x with
 |mk k i s l=>cases s;rfl
def mD{a:Ty}(h:a.abc<=1000000000):fP FU a a=some true:=by
 obtain⟨r,b,c⟩:=wC FU a a (by rw[fy];exact h) h;rw[b,c.2 rfl]
def ok_eq{t:Ty}(h:t.err=0):tB t=some (t,0):=by
 unfold tB;rw[mO (by have:=(Ty.kH h).2;omega),h];rfl
def fD{t:Ty}(h:t.err=0):t.abc<=64:=by have:=(Ty.kH h).2;omega
inductive TL (n:Nat) (g:List Ty):List Tm->List Ty->Prop
 |nil:TL n g [] []|cons {a:Tm} {t:Ty} {l:List Tm} {ts:List Ty}:fS n g a=some (t,0)->TL n g l ts->TL n g (a::l) (t::ts)
def oL{n:Nat}{g:List Ty}:∀{l:List Tm} {ts:List Ty} (i:Nat) (v:List Ty),TL n g l ts->v.length+l.length<=1000->ft (λ(e:Int) (d:Tm)=>(λ(a:List Ty)=>
   ei (fS n g d) λb c=>
   if(eW c 0)=true then(
   some (gu.ret ((Ty.mk 0 []),c)))
   else(g_ (gf a [b])<|some (.next (gv a [b])))):Int->Tm->((List Ty))->(Option (gu ((List Ty)) (Ty×Int)))) l i v=some (.inl (v++ts))
 |_,_,i,v,.nil,_=>by simp|_,_,i,v,.cons h f,j=>by
  simp only[lL] at j;rw[fm];simp only[h,eb];rw[ea (by decide),fl (by simp;omega)];simp only[eo,cl,fA];rw[oL (i+1) _ f (by rw[gG];simp;omega),gG];simp
def RO{g:List Ty}{x:Tm}{t:Ty}(h:fk g x t):(∀s∈g,s.err=0)->t.err=0/\∀n:Nat,x.abc<=n->g.length+x.abc<=1000000->fS n g x=some (t,0):=by
 induction h with
 |@var g t i w A=>
  intro hg;have y:=hg t (Dc A);refine⟨y,λn hn e=>?_⟩;rw[Tm.ef] at hn;obtain⟨n,rfl⟩:∃m,n=m+1:=⟨n-1,by omega⟩;rw[Tm.ef] at e;rw[fS,ee (by rfl),ea (by simp only[Tm.gy,jk,fO];omega)];simp only[Tm.gy,fO];rw[fG (a:=(g.length:Int)) (by omega) (by omega),fG (by omega) (by omega)]
  have:eI g ((g.length:Int)-1-(i:Int))=some t:=by
   unfold eI;rw[ee (by omega),<-A]
   congr 1
   omega
  rw[this];simp only[cl];rw[ja (by have:=fD y;omega)];rfl
 |@lam g s b t w _ j=>
  intro hg;have hs:=(Ty.s7 (.inr rfl) w).1;have z:=(Ty.s7 (.inr rfl) w).2
  obtain⟨_,j⟩:=j (by
   intro u hu;rcases sy.1 hu with h|h
   ·exact hg u h
   ·rw[xG] at h;rw[h];exact hs)
  refine⟨w,λn hn e=>?_⟩;rw[Tm.ef] at hn e;simp only[eC] at hn e;obtain⟨n,rfl⟩:∃m,n=m+1:=⟨n-1,by omega⟩;rw[fS,ea (by simp),ee (by rfl)];simp only[Tm.fv,Tm.eG,eU,js,cl,gG];rw[fl (by simp;omega),eo,j n (by omega) (by simp;omega)];simp only[eb];rw[ea (by decide),ji (by have:=fD hs;omega) (by have:=fD z;omega)];simp only[cl];rw[ok_eq w];rfl
 |@app g f a s t _ _ c d=>
  intro hg;obtain⟨q,c⟩:=c hg;obtain⟨r,d⟩:=d hg;have z:=(Ty.s7 (.inr rfl) q).2;refine⟨z,λn hn e=>?_⟩;rw[Tm.ef] at hn e;simp only[eC] at hn e;obtain⟨n,rfl⟩:∃m,n=m+1:=⟨n-1,by omega⟩;have o:=oL (n:=n) (g:=g) (l:=[f,a]) 0 [] (.cons (c n (by omega) (by omega)) (.cons (d n (by omega) (by omega)) .nil)) (by simp);rw[fS,ea (by simp),ea (by simp)];simp only[ey,Tm.eG,eE (l:=[f,a]) (by simp),eo];rw[o];simp only[cl,en,fF,gO];rw[ee (by rfl)];simp only[oh,eU,gx,js,m4,cl];rw[ea (by simp[Ty.fn,eW]),show(Ty.fn s t).abb[0]?=some s from rfl];simp only[cl];rw[mD (by have:=fD r;omega)];simp only[cl];rw[ea (by decide),show(Ty.fn s t).abb[1]?=some t from rfl];rfl
 |zero=>
  intro hg;refine⟨Ty.hO,λn hn e=>?_⟩;rw[Tm.ef] at hn;obtain⟨n,rfl⟩:∃m,n=m+1:=⟨n-1,by omega⟩;rfl
 |@succ g a _ j=>
  intro hg;obtain⟨q,j⟩:=j hg;refine⟨Ty.hO,λn hn e=>?_⟩;rw[Tm.ef] at hn e;simp only[eC] at hn e;obtain⟨n,rfl⟩:∃m,n=m+1:=⟨n-1,by omega⟩;have o:=oL (n:=n) (g:=g) (l:=[a]) 0 [] (.cons (j n (by omega) (by omega)) .nil) (by simp);rw[fS,ea (by simp),ea (by simp)];simp only[ey,Tm.eG,eE (l:=[a]) (by simp),eo];rw[o];simp only[cl,en,fF,gO];rw[ea (by simp),ea (by simp),ee (by rfl)];simp only[oh,eU,js,cl];rw[mD (by rw[Ty.im];omega)];rfl
 |@uq g t b s k v _ _ _ c d p=>
  intro hg;obtain⟨q,c⟩:=c hg;obtain⟨r,d⟩:=d hg;obtain⟨B,p⟩:=p hg;refine⟨v,λn hn e=>?_⟩;rw[Tm.ef] at hn e;simp only[eC] at hn e;obtain⟨n,rfl⟩:∃m,n=m+1:=⟨n-1,by omega⟩;have z:=fD v;have o:=oL (n:=n) (g:=g) (l:=[b,s,k]) 0 [] (.cons (c n (by omega) (by omega)) (.cons (d n (by omega) (by omega)) (.cons (p n (by omega) (by omega)) .nil))) (by simp);rw[fS,ea (by simp),ea (by simp)];simp only[ey,Tm.eG,eE (l:=[b,s,k]) (by simp),eo];rw[o];simp only[cl,en,fF,gO];rw[ea (by simp),ea (by simp),ea (by simp),ee (by rfl)];simp only[oh,eU,gx,jv,js,m4,cl,Tm.fv];rw[mD (by omega)];simp only[cl,if_true];rw[ji (by omega) (by omega)];simp only[cl];rw[ji (by rw[Ty.im];omega) (by rw[Ty.j1];omega)];simp only[cl];rw[mD (by have:=fD r;omega)];simp only[cl,if_true];rw[mD (by rw[Ty.im];omega)];simp only[cl];rw[ea (by decide),ja (by omega)];rfl
 |nil=>
  intro hg;refine⟨Ty.pO,λn hn e=>?_⟩;rw[Tm.ef] at hn;obtain⟨n,rfl⟩:∃m,n=m+1:=⟨n-1,by omega⟩;rfl
 |@cons g a b _ _ c d=>
  intro hg;obtain⟨q,c⟩:=c hg;obtain⟨r,d⟩:=d hg;refine⟨Ty.pO,λn hn e=>?_⟩;rw[Tm.ef] at hn e;simp only[eC] at hn e;obtain⟨n,rfl⟩:∃m,n=m+1:=⟨n-1,by omega⟩;have o:=oL (n:=n) (g:=g) (l:=[a,b]) 0 [] (.cons (c n (by omega) (by omega)) (.cons (d n (by omega) (by omega)) .nil)) (by simp);rw[fS,ea (by simp),ea (by simp)];simp only[ey,Tm.eG,eE (l:=[a,b]) (by simp),eo];rw[o];simp only[cl,en,fF,gO];rw[ea (by simp),ea (by simp),ea (by simp),ea (by simp),ea (by simp),ee (by rfl)];simp only[oh,eU,gx,js,m4,cl];rw[mD (by rw[Ty.im];omega)];simp only[cl,if_true];rw[mD (by rw[Ty.pA];omega)];rfl
 |@fold g t b s k v _ _ _ c d p=>
  intro hg;obtain⟨q,c⟩:=c hg;obtain⟨r,d⟩:=d hg;obtain⟨B,p⟩:=p hg;refine⟨v,λn hn e=>?_⟩;rw[Tm.ef] at hn e;simp only[eC] at hn e;obtain⟨n,rfl⟩:∃m,n=m+1:=⟨n-1,by omega⟩;have z:=fD v;have o:=oL (n:=n) (g:=g) (l:=[b,s,k]) 0 [] (.cons (c n (by omega) (by omega)) (.cons (d n (by omega) (by omega)) (.cons (p n (by omega) (by omega)) .nil))) (by simp);rw[fS,ea (by simp),ea (by simp)];simp only[ey,Tm.eG,eE (l:=[b,s,k]) (by simp),eo];rw[o];simp only[cl,en,fF,gO];rw[ea (by simp),ea (by simp),ea (by simp),ea (by simp),ea (by simp),ea (by simp),ee (by rfl)];simp only[oh,eU,gx,jv,js,m4,cl,Tm.fv];rw[mD (by omega)];simp only[cl,if_true];rw[ji (by omega) (by omega)];simp only[cl];rw[ji (by rw[Ty.pA];omega) (by rw[Ty.j1];omega)];simp only[cl];rw[ji (by rw[Ty.im];omega) (by rw[Ty.j1,Ty.j1,Ty.pA];omega)];simp only[cl];rw[mD (by have:=fD r;omega)];simp only[cl,if_true];rw[mD (by rw[Ty.pA];omega)];simp only[cl];rw[ea (by decide),ja (by omega)];rfl
 |@pair g a b s t v _ _ c d=>
  intro hg;obtain⟨q,c⟩:=c hg;obtain⟨r,d⟩:=d hg;refine⟨v,λn hn e=>?_⟩;rw[Tm.ef] at hn e;simp only[eC] at hn e;obtain⟨n,rfl⟩:∃m,n=m+1:=⟨n-1,by omega⟩;have o:=oL (n:=n) (g:=g) (l:=[a,b]) 0 [] (.cons (c n (by omega) (by omega)) (.cons (d n (by omega) (by omega)) .nil)) (by simp);rw[fS,ea (by simp),ea (by simp)];simp only[ey,Tm.eG,eE (l:=[a,b]) (by simp),eo];rw[o];simp only[cl,en,fF,gO];rw[ea (by simp),ea (by simp),ea (by simp),ea (by simp),ea (by simp),ea (by simp),ea (by simp),ee (by rfl)];simp only[oh,eU,gx,js,m4,cl];rw[xz (by have:=fD q;omega) (by have:=fD r;omega)];simp only[cl];rw[ok_eq v];rfl
 |@fst g a s t _ j=>
  intro hg;obtain⟨q,j⟩:=j hg;refine⟨(Ty.s7 (.inl rfl) q).1,λn hn e=>?_⟩;rw[Tm.ef] at hn e;simp only[eC] at hn e;obtain⟨n,rfl⟩:∃m,n=m+1:=⟨n-1,by omega⟩;have o:=oL (n:=n) (g:=g) (l:=[a]) 0 [] (.cons (j n (by omega) (by omega)) .nil) (by simp);rw[fS,ea (by simp),ea (by simp)];simp only[ey,Tm.eG,eE (l:=[a]) (by simp),eo];rw[o];simp only[cl,en,fF,gO];rw[ea (by simp),ea (by simp),ea (by simp),ea (by simp),ea (by simp),ea (by simp),ea (by simp),ea (by simp),ee (by rfl)];simp only[oh,eU,js,cl];rw[ea (by simp[Ty.pr,eW]),ee (by rfl),show(Ty.pr s t).abb[0]?=some s from rfl];rfl
 |@snd g a s t _ j=>
  intro hg;obtain⟨q,j⟩:=j hg;refine⟨(Ty.s7 (.inl rfl) q).2,λn hn e=>?_⟩;rw[Tm.ef] at hn e;simp only[eC] at hn e;obtain⟨n,rfl⟩:∃m,n=m+1:=⟨n-1,by omega⟩;have o:=oL (n:=n) (g:=g) (l:=[a]) 0 [] (.cons (j n (by omega) (by omega)) .nil) (by simp);rw[fS,ea (by simp),ea (by simp)];simp only[ey,Tm.eG,eE (l:=[a]) (by simp),eo];rw[o];simp only[cl,en,fF,gO];rw[ea (by simp),ea (by simp),ea (by simp),ea (by simp),ea (by simp),ea (by simp),ea (by simp),ea (by simp),ee (by rfl)];simp only[oh,eU,js,cl];rw[ea (by simp[Ty.pr,eW]),ea (by simp),show eI (Ty.pr s t).abb 1=some t from rfl];rfl
 |unit=>
  intro hg;refine⟨Ty.Fx,λn hn e=>?_⟩;rw[Tm.ef] at hn;obtain⟨n,rfl⟩:∃m,n=m+1:=⟨n-1,by omega⟩;rfl
def Tm.pc{p:Tm->Prop}(var:∀i:Nat,p (.mk 1 i .z []))(lam:∀s b,s.err=0->b.ok=true->p (.mk 2 0 s [b]))(app:∀a b,a.ok=true->b.ok=true->p (.mk 3 0 .z [a,b]))
  (zero:p (.mk 4 0 .z [])) (succ:∀a,a.ok=true->p (.mk 5 0 .z [a])) (uq:∀s a b c,s.err=0->a.ok=true->b.ok=true->c.ok=true->p (.mk 6 0 s [a,b,c])) (nil:p (.mk 7 0 .z []))
  (cons:∀a b,a.ok=true->b.ok=true->p (.mk 8 0 .z [a,b])) (fold:∀s a b c,s.err=0->a.ok=true->b.ok=true->c.ok=true->p (.mk 9 0 s [a,b,c])) (pair:∀a b,a.ok=true->b.ok=true->p (.mk 10 0 .z [a,b]))
  (fst:∀a,a.ok=true->p (.mk 11 0 .z [a])) (snd:∀a,a.ok=true->p (.mk 12 0 .z [a])) (unit:p (.mk 13 0 .z [])) (t:Tm) (h:t.ok=true):p t:=by
 cases t with
 |mk k i s l=>
  obtain⟨_,hi,d,g,hn⟩:=Tm.l6 h
  have hs:if kv k=true then s.err=0 else s=.z:=by
   rw[Tm.hY] at h;simp only[Tm.node,gL] at h;have:=h.1.2
   split at this
   ·rename_i e;rw[ee e];simpa using this
   ·rename_i e;rw[ea e];exact(Ty.mL s).1 this
  have n:∀{l:List Tm},(l.length:Int)=0->l=[]:=λh=>hB.1 h;unfold iI at hn
  split at hn
  ·rename_i e;obtain rfl:=hB.1 hn;rcases e with rfl|rfl|rfl|rfl
   ·rw[ea (by decide)] at hs;subst hs;obtain⟨j,rfl⟩:∃j:Nat,i=(j:Int):=⟨i.toNat,by omega⟩;exact var j
   ·rw[ea (by decide)] at hs;subst hs;obtain rfl:=d (by decide);exact zero
   ·rw[ea (by decide)] at hs;subst hs;obtain rfl:=d (by decide);exact nil
   ·rw[ea (by decide)] at hs;subst hs;obtain rfl:=d (by decide);exact unit
  ·split at hn
   ·rename_i e;obtain⟨a,rfl⟩:=jO hn;have f:=g a (by simp);rcases e with rfl|rfl|rfl|rfl
    ·rw[ee (by decide)] at hs;obtain rfl:=d (by decide);exact lam s a hs f
    ·rw[ea (by decide)] at hs;subst hs;obtain rfl:=d (by decide);exact succ a f
    ·rw[ea (by decide)] at hs;subst hs;obtain rfl:=d (by decide);exact fst a f
    ·rw[ea (by decide)] at hs;subst hs;obtain rfl:=d (by decide);exact snd a f
   ·split at hn
    ·rename_i e;obtain⟨a,b,rfl⟩:=qJ hn;have f:=g a (by simp);have m:=g b (by simp);rcases e with rfl|rfl|rfl
     ·rw[ea (by decide)] at hs;subst hs;obtain rfl:=d (by decide);exact app a b f m
     ·rw[ea (by decide)] at hs;subst hs;obtain rfl:=d (by decide);exact cons a b f m
     ·rw[ea (by decide)] at hs;subst hs;obtain rfl:=d (by decide);exact pair a b f m
    ·split at hn
     ·rename_i e
      obtain⟨a,b,c,rfl⟩:∃a b c,l=[a,b,c]:=by
       match l,hn with
       |[a,b,c],_=>exact⟨a,b,c,rfl⟩|[],h|[_],h|[_,_],h=>simp at h
       |_::_::_::_::_,h=>simp at h;omega
      have f:=g a (by simp);have m:=g b (by simp);have o:=g c (by simp);rcases e with rfl|rfl
      ·rw[ee (by decide)] at hs;obtain rfl:=d (by decide);exact uq s a b c hs f m o
      ·rw[ee (by decide)] at hs;obtain rfl:=d (by decide);exact fold s a b c hs f m o
     ·omega
open Classical in
noncomputable def ic (k:Int) (s:Ty) (l:List Ty):Ty×Int:=
 if k=3 then(if(l.getD 0 .z).aba=4/\(l.getD 0 .z).abb.getD 0 .z=l.getD 1 .z then((l.getD 0 .z).abb.getD 1 .z,0)else(.z,7))
 else if k=4 then(.nat,0)
 else if k=5 then(if l.getD 0 .z=.nat then(.nat,0)else(.z,7))
 else if k=6 then(if l.getD 0 .z=s/\l.getD 1 .z=.fn .nat (.fn s s)/\l.getD 2 .z=.nat then(s,0)else(.z,7))
 else if k=7 then(.pQ,0)
 else if k=8 then(if l.getD 0 .z=.nat/\l.getD 1 .z=.pQ then(.pQ,0)else(.z,7))
 else if k=9 then(if l.getD 0 .z=s/\l.getD 1 .z=.fn .nat (.fn .pQ (.fn s s))/\l.getD 2 .z=.pQ then(s,0)else(.z,7))
 else if k=10 then(if 64<1+(l.getD 0 .z).abc+(l.getD 1 .z).abc then(.z,4)else(.pr (l.getD 0 .z) (l.getD 1 .z),0))
 else if k=11 then(if(l.getD 0 .z).aba=3 then((l.getD 0 .z).abb.getD 0 .z,0)else(.z,7))
 else if k=12 then(if(l.getD 0 .z).aba=3 then((l.getD 0 .z).abb.getD 1 .z,0)else(.z,7))
 else(.unit,0)
def LJ(s:Ty)(r:Ty×Int):Ty×Int:=if r.2≠0 then(.z,r.2)else if 64<1+s.abc+r.1.abc then(.z,4)else(.fn s r.1,0)
def vx(f:List Ty->Ty×Int):List Ty⊕Int->Ty×Int
 |.inl l=>f l|.inr e=>(.z,e)
def MS(r:Ty×Int)(o:List Ty⊕Int):List Ty⊕Int:=if r.2≠0 then .inr r.2 else match o with|.inl l=>.inl (r.1::l)|.inr e=>.inr e
mutual
noncomputable def Tm.ty:Tm->List Ty->Ty×Int
 |.mk k i s l,g=>if k=1 then(if i<(g.length:Int)then(g.getD (g.length-1-i.toNat) .z,0)else(.z,6))else if k=2 then LJ s (Tm.Zd l (g++[s]))else vx (ic k s) (Tm.ud l g)
noncomputable def Tm.Zd:List Tm->List Ty->Ty×Int
 |[],_=>(.z,0)|t::_,g=>t.ty g
noncomputable def Tm.ud:List Tm->List Ty->List Ty⊕Int
 |[],_=>.inl []|t::l,g=>MS (t.ty g) (Tm.ud l g)
end
def Tm.nJ(k i:Int)(s:Ty)(l:List Tm)(g:List Ty):(Tm.mk k i s l).ty g=if k=1 then(if i<(g.length:Int)then(g.getD (g.length-1-i.toNat) .z,0)else(.z,6))else if k=2 then LJ s (Tm.Zd l (g++[s]))else vx (ic k s) (Tm.ud l g):=by rw[Tm.ty]
def kf(g:List Ty):Prop:=∀s∈g,s.err=0
def kf.app{g:List Ty}{s:Ty}(h:kf g)(hs:s.err=0):kf (g++[s]):=by
 intro u hu;rcases sy.1 hu with h'|h'
 ·exact h u h'
 ·rw[xG] at h';rw[h'];exact hs
def J1{t:Ty}(h:t.err=0)(c:t.aba=4):∃a b,t=.fn a b/\a.err=0/\b.err=0:=by
 rcases Ty.rj h with rfl|rfl|rfl|⟨a,b,rfl,_,_⟩|h
 ·cases c
 ·cases c
 ·cases c
 ·cases c
 ·exact h
def zT{t:Ty}(h:t.err=0)(c:t.aba=3):∃a b,t=.pr a b/\a.err=0/\b.err=0:=by
 rcases Ty.rj h with rfl|rfl|rfl|h|⟨a,b,rfl,_,_⟩
 ·cases c
 ·cases c
 ·cases c
 ·exact h
 ·cases c
def vi{t:Ty}(h:t.err=0):t.aba=1↔t=.nat:=by
 rcases Ty.rj h with rfl|rfl|rfl|⟨a,b,rfl,_,_⟩|⟨a,b,rfl,_,_⟩
 ·exact⟨λ_=>rfl,λ_=>rfl⟩
 all_goals exact⟨λh=>(by cases h),λh=>(by cases h)⟩
def CC{t:Ty}(h:t.err=0):t.aba=2↔t=.pQ:=by
 rcases Ty.rj h with rfl|rfl|rfl|⟨a,b,rfl,_,_⟩|⟨a,b,rfl,_,_⟩
 ·exact⟨λh=>(by cases h),λh=>(by cases h)⟩
 ·exact⟨λ_=>rfl,λ_=>rfl⟩
 all_goals exact⟨λh=>(by cases h),λh=>(by cases h)⟩
def qw{r:Ty×Int}{o:List Ty⊕Int}(h:r.2≠0):MS r o=.inr r.2:=ee h
def qC{r:Ty×Int}{o:List Ty⊕Int}(h:r.2=0):MS r o=match o with|.inl l=>.inl (r.1::l)|.inr e=>.inr e:=ea (by omega)
def ta{f:List Ty->Ty×Int}{e:Int}{r:Ty}(h:vx f (.inr e)=(r,0)):e=0:=(jI h).2
def wU{a:Tm}{g:List Ty}(h:(a.ty g).2=0):a.ty g=((a.ty g).1,0):=Prod.ext rfl h
def Nc{a:Tm}{g:List Ty}{f:List Ty->Ty×Int}{r:Ty}(h:vx f (Tm.ud [a] g)=(r,0)):∃s,a.ty g=(s,0)/\f [s]=(r,0):=by
 rw[Tm.ud,Tm.ud] at h
 by_cases b:(a.ty g).2=0
 ·rw[qC b] at h;exact⟨_,wU b,h⟩
 ·rw[qw b] at h;exact absurd (ta h) b
def MA{a b:Tm}{g:List Ty}{f:List Ty->Ty×Int}{r:Ty}(h:vx f (Tm.ud [a,b] g)=(r,0)):∃s t,a.ty g=(s,0)/\b.ty g=(t,0)/\f [s,t]=(r,0):=by
 rw[Tm.ud,Tm.ud,Tm.ud] at h
 by_cases c:(a.ty g).2=0
 ·rw[qC c] at h
  by_cases d:(b.ty g).2=0
  ·rw[qC d] at h;exact⟨_,_,wU c,wU d,h⟩
  ·rw[qw d] at h;exact absurd (ta h) d
 ·rw[qw c] at h;exact absurd (ta h) c
def LP{a b c:Tm}{g:List Ty}{f:List Ty->Ty×Int}{r:Ty}(h:vx f (Tm.ud [a,b,c] g)=(r,0)):∃s t u,a.ty g=(s,0)/\b.ty g=(t,0)/\c.ty g=(u,0)/\f [s,t,u]=(r,0):=by
 rw[Tm.ud,Tm.ud,Tm.ud,Tm.ud] at h
 by_cases d:(a.ty g).2=0
 ·rw[qC d] at h
  by_cases e:(b.ty g).2=0
  ·rw[qC e] at h
   by_cases i:(c.ty g).2=0
   ·rw[qC i] at h;exact⟨_,_,_,wU d,wU e,wU i,h⟩
   ·rw[qw i] at h;exact absurd (ta h) i
  ·rw[qw e] at h;exact absurd (ta h) e
 ·rw[qw d] at h;exact absurd (ta h) d
def q7:∀(n:Nat) (t:Tm),t.abc<=n->t.ok=true->∀g,kf g->∀s,t.ty g=(s,0)->fk g t s/\s.err=0:=by
 intro n
 induction n with
 |zero=>intro t h;have:=t.eQ;omega
 |succ n k=>
  intro t hn E;refine Tm.pc (p:=λt=>t.abc<=n+1->∀g,kf g->∀s,t.ty g=(s,0)->fk g t s/\s.err=0) ?_ ?_ ?_ ?_ ?_ ?_ ?_ ?_ ?_ ?_ ?_ ?_ ?_ t E hn
  ·intro i _ g hg s h;rw[Tm.nJ,ee rfl] at h
   split at h
   ·rename_i hi
    have u:g.length-1-(i:Int).toNat<g.length:=by omega
    have e:g[g.length-1-i]?=some s:=by
     have f:=(jI h).1;rw[Q7,As] at f;rw[As] at u;rw[pW u] at f|-;simpa using f
    exact⟨.var i (by omega) e,hg s (Dc e)⟩
   ·have:=(jI h).2;omega
  ·intro s b hs m hn g hg r h;rw[Tm.ef] at hn;simp only[eC] at hn;rw[Tm.nJ,ea (by decide),ee rfl,Tm.Zd] at h;unfold LJ at h
   split at h
   ·rename_i w;exact absurd (jI h).2 w
   ·rename_i w
    split at h
    ·have:=(jI h).2;omega
    ·rename_i f;obtain⟨o,d⟩:=k b (by omega) m (g++[s]) (hg.app hs) _ (wU (by simpa using w));have he:=Ty.xP hs d (by omega);obtain rfl:=(jI h).1;exact⟨.lam he o,he⟩
  ·intro a b l m hn g hg r h;rw[Tm.ef] at hn;simp only[eC] at hn;rw[Tm.nJ,ea (by decide),ea (by decide)] at h;obtain⟨s,t,f,o,d⟩:=MA h;obtain⟨a1,a2⟩:=k a (by omega) l g hg _ f;obtain⟨q,v⟩:=k b (by omega) m g hg _ o;simp only[ic,if_true,yv,My] at d
   split at d
   ·rename_i j;obtain⟨x,y,rfl,A,hy⟩:=J1 a2 j.1;have F:x=t:=j.2;obtain rfl:=(jI d).1;subst F;exact⟨.app a1 q,hy⟩
   ·have:=(jI d).2;omega
  ·intro hn g hg r h;rw[Tm.nJ,ea (by decide),ea (by decide),Tm.ud] at h;simp only[vx,ic,reduceIte,Int.reduceEq] at h;obtain rfl:=(jI h).1;exact⟨.zero,Ty.hO⟩
  ·intro a l hn g hg r h;rw[Tm.ef] at hn;simp only[eC] at hn;rw[Tm.nJ,ea (by decide),ea (by decide)] at h;obtain⟨s,f,d⟩:=Nc h;obtain⟨a1,a2⟩:=k a (by omega) l g hg _ f;simp only[ic,reduceIte,Int.reduceEq,yv] at d
   split at d
   ·rename_i j;subst j;obtain rfl:=(jI d).1;exact⟨.succ a1,Ty.hO⟩
   ·have:=(jI d).2;omega
  ·intro s a b c hs l m B hn g hg r h;rw[Tm.ef] at hn;simp only[eC] at hn;rw[Tm.nJ,ea (by decide),ea (by decide)] at h;obtain⟨x,y,z,f,o,C,d⟩:=LP h;obtain⟨a1,a2⟩:=k a (by omega) l g hg _ f;obtain⟨q,v⟩:=k b (by omega) m g hg _ o;obtain⟨D,G⟩:=k c (by omega) B g hg _ C;simp only[ic,reduceIte,Int.reduceEq,yv,My] at d
   split at d
   ·rename_i j;have j:x=s/\y=.fn .nat (.fn s s)/\z=.nat:=j;obtain⟨rfl,rfl,rfl⟩:=j;obtain rfl:=(jI d).1;exact⟨.uq hs a1 q D,hs⟩
   ·have:=(jI d).2;omega
  ·intro hn g hg r h;rw[Tm.nJ,ea (by decide),ea (by decide),Tm.ud] at h;simp only[vx,ic,reduceIte,Int.reduceEq] at h;obtain rfl:=(jI h).1;exact⟨.nil,Ty.pO⟩
  ·intro a b l m hn g hg r h;rw[Tm.ef] at hn;simp only[eC] at hn;rw[Tm.nJ,ea (by decide),ea (by decide)] at h;obtain⟨s,t,f,o,d⟩:=MA h;obtain⟨a1,a2⟩:=k a (by omega) l g hg _ f;obtain⟨q,v⟩:=k b (by omega) m g hg _ o;simp only[ic,reduceIte,Int.reduceEq,yv,My] at d
   split at d
   ·rename_i j;obtain⟨rfl,rfl⟩:=j;obtain rfl:=(jI d).1;exact⟨.cons a1 q,Ty.pO⟩
   ·have:=(jI d).2;omega
  ·intro s a b c hs l m B hn g hg r h;rw[Tm.ef] at hn;simp only[eC] at hn;rw[Tm.nJ,ea (by decide),ea (by decide)] at h;obtain⟨x,y,z,f,o,C,d⟩:=LP h;obtain⟨a1,a2⟩:=k a (by omega) l g hg _ f;obtain⟨q,v⟩:=k b (by omega) m g hg _ o;obtain⟨D,G⟩:=k c (by omega) B g hg _ C;simp only[ic,reduceIte,Int.reduceEq,yv,My] at d
   split at d
   ·rename_i j;have j:x=s/\y=.fn .nat (.fn .pQ (.fn s s))/\z=.pQ:=j;obtain⟨rfl,rfl,rfl⟩:=j;obtain rfl:=(jI d).1;exact⟨.fold hs a1 q D,hs⟩
   ·have:=(jI d).2;omega
  ·intro a b l m hn g hg r h;rw[Tm.ef] at hn;simp only[eC] at hn;rw[Tm.nJ,ea (by decide),ea (by decide)] at h;obtain⟨s,t,f,o,d⟩:=MA h;obtain⟨a1,a2⟩:=k a (by omega) l g hg _ f;obtain⟨q,v⟩:=k b (by omega) m g hg _ o;simp only[ic,reduceIte,Int.reduceEq,yv,My] at d
   split at d
   ·have:=(jI d).2;omega
   ·rename_i j;have he:=Ty.M8 a2 v (by omega);obtain rfl:=(jI d).1;exact⟨.pair he a1 q,he⟩
  ·intro a l hn g hg r h;rw[Tm.ef] at hn;simp only[eC] at hn;rw[Tm.nJ,ea (by decide),ea (by decide)] at h;obtain⟨s,f,d⟩:=Nc h;obtain⟨a1,a2⟩:=k a (by omega) l g hg _ f;simp only[ic,reduceIte,Int.reduceEq,yv] at d
   split at d
   ·rename_i j;obtain⟨x,y,rfl,A,hy⟩:=zT a2 j;obtain rfl:=(jI d).1;exact⟨.fst a1,A⟩
   ·have:=(jI d).2;omega
  ·intro a l hn g hg r h;rw[Tm.ef] at hn;simp only[eC] at hn;rw[Tm.nJ,ea (by decide),ea (by decide)] at h;obtain⟨s,f,d⟩:=Nc h;obtain⟨a1,a2⟩:=k a (by omega) l g hg _ f;simp only[ic,reduceIte,Int.reduceEq,yv] at d
   split at d
   ·rename_i j;obtain⟨x,y,rfl,A,hy⟩:=zT a2 j;obtain rfl:=(jI d).1;exact⟨.snd a1,hy⟩
   ·have:=(jI d).2;omega
  ·intro hn g hg r h;rw[Tm.nJ,ea (by decide),ea (by decide),Tm.ud] at h;simp only[vx,ic,reduceIte,Int.reduceEq] at h;obtain rfl:=(jI h).1;exact⟨.unit,Ty.Fx⟩
end Go.hJ
namespace Go.hJ
open Go
def kc(a:Ty):a.nx a=true:=(Ty.lX a a).2 rfl
def mj{a b:Ty}(h:a≠b):a.nx b=false:=by
 cases hs:a.nx b with
 |false=>rfl|true=>exact absurd ((Ty.lX a b).1 hs) h
def oU{n:Nat}{g:List Ty}:∀(l:List Tm) (i:Nat) (v:List Ty),(∀a∈l,fS n g a=some (a.ty g))->v.length+l.length<=1000->ft (λ(m:Int) (j:Tm)=>(λ(c:List Ty)=>
   ei (fS n g j) λd f=>
   if(eW f 0)=true then(
   some (gu.ret ((Ty.mk 0 []),f)))
   else(g_ (gf c [d])<|some (.next (gv c [d])))):Int->Tm->((List Ty))->(Option (gu ((List Ty)) (Ty×Int)))) l i v=some (match Tm.ud l g with|.inl ts=>.inl (v++ts)|.inr e=>.inr (.z,e))
 |[],i,v,_,_=>by simp[Tm.ud]|a::l,i,v,h,o=>by
  simp only[lL] at o;have p:=h a (by simp);rw[fm,Tm.ud];rw[p]
  by_cases k:(a.ty g).2=0
  ·rw[wU k,qC rfl];simp only[eb];rw[ea (by decide),fl (by simp;omega)];simp only[eo,cl,fA];rw[oU l (i+1) _ (λb q=>h b (by simp[q])) (by rw[gG];simp;omega),gG];cases Tm.ud l g with
   |inl ts=>simp|inr e=>rfl
  ·rw[qw k];generalize a.ty g=r at k;obtain⟨t,e⟩:=r;simp only[eb];rw[ee (by simpa[eW] using k)];rfl
def zW(l:List Tm)(g:List Ty):(∃e,e≠0/\Tm.ud l g=.inr e)\/∃ts,Tm.ud l g=.inl ts/\ts.length=l.length/\∀(i:Nat) (a:Tm),l[i]?=some a->∃s,ts[i]?=some s/\a.ty g=(s,0):=by
 induction l with
 |nil=>exact .inr ⟨[],by rw[Tm.ud],rfl,by simp⟩|cons a l f=>
  rw[Tm.ud]
  by_cases h:(a.ty g).2=0
  ·rw[qC h];rcases f with⟨e,he,c⟩|⟨ts,c,j,k⟩
   ·rw[c];exact .inl ⟨e,he,rfl⟩
   ·rw[c];refine .inr ⟨_,rfl,by simp[j],λi b d=>?_⟩;cases i with
    |zero=>simp at d;subst d;exact⟨_,by simp,wU h⟩
    |succ i=>simpa using k i b (by simpa using d)
  ·rw[qw h];exact .inl ⟨_,h,rfl⟩
def MI{f:List Ty->Ty×Int}{e:Int}:vx f (.inr e)=(.z,e):=rfl
def oW{f:List Ty->Ty×Int}{l:List Ty}:vx f (.inl l)=f l:=rfl
def B2{a:Tm}{g:List Ty}(b:a.ok=true)(hg:kf g):(∃e,e≠0/\Tm.ud [a] g=.inr e)\/∃s,Tm.ud [a] g=.inl [s]/\s.err=0:=by
 rcases zW [a] g with h|⟨ts,c,d,f⟩
 ·exact .inl h
 ·obtain⟨s,i,j⟩:=f 0 a rfl
  match ts,d with
  |[x],_=>
   obtain rfl:x=s:=by simpa using i
   exact .inr ⟨x,c,(q7 _ a (jh _) b g hg _ j).2⟩
def BR{a b:Tm}{g:List Ty}(d:a.ok=true)(f:b.ok=true)(hg:kf g):(∃e,e≠0/\Tm.ud [a,b] g=.inr e)\/∃s t,Tm.ud [a,b] g=.inl [s,t]/\s.err=0/\t.err=0:=by
 rcases zW [a,b] g with h|⟨ts,i,j,c⟩
 ·exact .inl h
 ·obtain⟨s,k,l⟩:=c 0 a rfl;obtain⟨t,m,n⟩:=c 1 b rfl
  match ts,j with
  |[x,y],_=>
   obtain rfl:x=s:=by simpa using k
   obtain rfl:y=t:=by simpa using m
   exact .inr ⟨x,y,i,(q7 _ a (jh _) d g hg _ l).2,(q7 _ b (jh _) f g hg _ n).2⟩
def Bm{a b c:Tm}{g:List Ty}(f:a.ok=true)(i:b.ok=true)(j:c.ok=true)(hg:kf g):(∃e,e≠0/\Tm.ud [a,b,c] g=.inr e)\/∃s t u,Tm.ud [a,b,c] g=.inl [s,t,u]/\s.err=0/\t.err=0/\u.err=0:=by
 rcases zW [a,b,c] g with h|⟨ts,k,l,d⟩
 ·exact .inl h
 ·obtain⟨s,m,n⟩:=d 0 a rfl;obtain⟨t,o,p⟩:=d 1 b rfl;obtain⟨u,q,r⟩:=d 2 c rfl
  match ts,l with
  |[x,y,z],_=>
   obtain rfl:x=s:=by simpa using m
   obtain rfl:y=t:=by simpa using o
   obtain rfl:z=u:=by simpa using q
   exact .inr ⟨x,y,z,k,(q7 _ a (jh _) f g hg _ n).2,(q7 _ b (jh _) i g hg _ p).2,(q7 _ c (jh _) j g hg _ r).2⟩
def D5{t:Ty}(h:t.abc<=1000000000)(a:t.ok=true):tB t=some (if 64<t.abc then(.z,4)else(t,0)):=by
 unfold tB;rw[mO h];unfold Ty.err;rw[ee a];simp only[cl]
 split
 ·rfl
 ·rfl
section
variable{s x y z:Ty}
def zK:((x.aba=4/\x.abb.getD 0 .z=y)->ic 3 s [x,y]=(x.abb.getD 1 .z,0))/\(¬(x.aba=4/\x.abb.getD 0 .z=y)->ic 3 s [x,y]=(.z,7)):=by
 unfold ic;rw[ee rfl];exact⟨λh=>ee h,λh=>ea h⟩
def EX:(x=.nat->ic 5 s [x]=(.nat,0))/\(x≠ .nat->ic 5 s [x]=(.z,7)):=by
 unfold ic;rw[ea (by decide),ea (by decide),ee rfl];exact⟨λh=>ee h,λh=>ea h⟩
def vT:((x=s/\y=.fn .nat (.fn s s)/\z=.nat)->ic 6 s [x,y,z]=(s,0))/\(¬(x=s/\y=.fn .nat (.fn s s)/\z=.nat)->ic 6 s [x,y,z]=(.z,7)):=by
 unfold ic;rw[ea (by decide),ea (by decide),ea (by decide),ee rfl];exact⟨λh=>ee h,λh=>ea h⟩
def zP:((x=.nat/\y=.pQ)->ic 8 s [x,y]=(.pQ,0))/\(¬(x=.nat/\y=.pQ)->ic 8 s [x,y]=(.z,7)):=by
 unfold ic;rw[ea (by decide),ea (by decide),ea (by decide),ea (by decide),ea (by decide),ee rfl];exact⟨λh=>ee h,λh=>ea h⟩
def vK:((x=s/\y=.fn .nat (.fn .pQ (.fn s s))/\z=.pQ)->ic 9 s [x,y,z]=(s,0))/\(¬(x=s/\y=.fn .nat (.fn .pQ (.fn s s))/\z=.pQ)->ic 9 s [x,y,z]=(.z,7)):=by
 unfold ic;rw[ea (by decide),ea (by decide),ea (by decide),ea (by decide),ea (by decide),ea (by decide),ee rfl];exact⟨λh=>ee h,λh=>ea h⟩
def KJ:ic 10 s [x,y]=if 64<1+x.abc+y.abc then(.z,4)else(.pr x y,0):=by
 unfold ic;rw[ea (by decide),ea (by decide),ea (by decide),ea (by decide),ea (by decide),ea (by decide),ea (by decide),ee rfl];rfl
def Lz:ic 11 s [x]=if x.aba=3 then(x.abb.getD 0 .z,0)else(.z,7):=by
 unfold ic;rw[ea (by decide),ea (by decide),ea (by decide),ea (by decide),ea (by decide),ea (by decide),ea (by decide),ea (by decide),ee rfl];rfl
def LV:ic 12 s [x]=if x.aba=3 then(x.abb.getD 1 .z,0)else(.z,7):=by
 unfold ic;rw[ea (by decide),ea (by decide),ea (by decide),ea (by decide),ea (by decide),ea (by decide),ea (by decide),ea (by decide),ea (by decide),ee rfl];rfl
end
def yU:∀(n:Nat) (t:Tm),t.abc<=n->t.ok=true->∀g,kf g->g.length+t.abc<=1000000->fS n g t=some (t.ty g):=by
 intro n
 induction n with
 |zero=>intro t h;have:=t.eQ;omega
 |succ n m=>
  intro t hn L;refine Tm.pc (p:=λt=>t.abc<=n+1->∀g,kf g->g.length+t.abc<=1000000->fS (n+1) g t=some (t.ty g)) ?_ ?_ ?_ ?_ ?_ ?_ ?_ ?_ ?_ ?_ ?_ ?_ ?_ t L hn
  ·intro i _ g hg k;rw[Tm.ef] at k;rw[fS,ee (by rfl),Tm.nJ,ee rfl]
   by_cases hi:(i:Int)<(g.length:Int)
   ·rw[ea (by simp only[Tm.gy,fO,jk];omega),ee hi];simp only[Tm.gy,fO];rw[fG (a:=(g.length:Int)) (by omega) (by omega),fG (by omega) (by omega)]
    have w:g.length-1-i<g.length:=by omega
    have:eI g ((g.length:Int)-1-(i:Int))=some g[g.length-1-i]:=by
     unfold eI;rw[ee (by omega),show((g.length:Int)-1-(i:Int)).toNat=g.length-1-i by omega,pW w]
    rw[this];simp only[cl];have F:=hg _ (Ga w);rw[ja (by have:=fD F;omega)];simp only[cl,As];rw[Q7,pW w];rfl
   ·rw[ee (by simp only[Tm.gy,fO,jk];omega),ea hi];rfl
  ·intro s b hs k hn g hg d;rw[Tm.ef] at hn d;simp only[eC] at hn d;rw[fS,ea (by simp),ee (by rfl),Tm.nJ,ea (by decide),ee rfl,Tm.Zd];simp only[Tm.fv,Tm.eG,eU,js,cl,gG];rw[fl (by simp;omega),eo,m b (by omega) k (g++[s]) (hg.app hs) (by simp;omega)];have J:=λh=>(q7 _ b (jh _) k (g++[s]) (hg.app hs) (b.ty (g++[s])).1 (wU h)).2;generalize b.ty (g++[s])=q at J;obtain⟨r,e⟩:=q;simp only[eb,LJ]
   by_cases G:e=0
   ·subst G;have K:r.err=0:=J rfl;have H:=fD hs;have M:=fD K;rw[ea (by decide),ea (by simp),ji (by omega) (by omega)];simp only[cl];rw[D5 (t:=Ty.fn s r) (by rw[Ty.j1];omega) (Ty.ok_two (.inr rfl) (Ty.kH hs).1 (Ty.kH K).1),Ty.j1]
    split<;>rfl
   ·rw[ee (by simpa[eW] using G),ee G];rfl
  ·intro a b j k hn g hg d;rw[Tm.ef] at hn d;simp only[eC] at hn d;rw[fS,ea (by simp),ea (by simp),Tm.nJ,ea (by decide),ea (by decide)];simp only[ey,Tm.eG,eE (l:=[a,b]) (by simp),eo];rw[oU [a,b] 0 [] (by intro x f;simp at f;rcases f with rfl|rfl<;>first|exact m _ (by omega) j g hg (by omega)|exact m _ (by omega) k g hg (by omega)) (by simp)];rcases BR j k hg with⟨e,he,h⟩|⟨s,t,h,hs,D⟩
   ·rw[h];rfl
   ·rw[h,oW];simp only[cl,en,fF,gO];rw[ee (by rfl)];simp only[oh,eU,gx,js,m4,cl]
    by_cases o:s.aba=4
    ·obtain⟨x,y,rfl,f,hy⟩:=J1 hs o;rw[ea (by simp[Ty.fn,eW]),show(Ty.fn x y).abb[0]?=some x from rfl];simp only[cl];rw[jb (by have:=fD f;omega)];simp only[cl]
     by_cases A:x=t
     ·subst A;rw[kc,ea (by decide),show(Ty.fn x y).abb[1]?=some y from rfl,(zK (x:=.fn x y) (y:=x)).1 ⟨rfl,rfl⟩];rfl
     ·rw[mj A,ee (by decide),(zK (x:=.fn x y) (y:=t)).2 (λh=>A h.2)];rfl
    ·rw[ee (by simpa[eW] using o),ee trivial,zK.2 (λh=>o h.1)];rfl
  ·intro hn g hg d;rw[Tm.nJ,ea (by decide),ea (by decide),Tm.ud];rfl
  ·intro a j hn g hg d;rw[Tm.ef] at hn d;simp only[eC] at hn d;rw[fS,ea (by simp),ea (by simp),Tm.nJ,ea (by decide),ea (by decide)];simp only[ey,Tm.eG,eE (l:=[a]) (by simp),eo];rw[oU [a] 0 [] (by intro x f;simp at f;subst f;exact m _ (by omega) j g hg (by omega)) (by simp)];rcases B2 j hg with⟨e,he,h⟩|⟨s,h,hs⟩
   ·rw[h];rfl
   ·rw[h,oW];simp only[cl,en,fF,gO];rw[ea (by simp),ea (by simp),ee (by rfl)];simp only[oh,eU,js,cl];rw[jb (by have:=fD hs;omega)];simp only[cl]
    by_cases B:s=.nat
    ·subst B;rw[kc,ee rfl,EX.1 rfl]
    ·rw[mj B,ea (by decide),EX.2 B];rfl
  ·intro s a b c hs j k E hn g hg d;rw[Tm.ef] at hn d;simp only[eC] at hn d;rw[fS,ea (by simp),ea (by simp),Tm.nJ,ea (by decide),ea (by decide)];simp only[ey,Tm.eG,eE (l:=[a,b,c]) (by simp),eo];rw[oU [a,b,c] 0 [] (by intro x f;simp at f;rcases f with rfl|rfl|rfl<;>first|exact m _ (by omega) j g hg (by omega)|exact m _ (by omega) k g hg (by omega)|exact m _ (by omega) E g hg (by omega)) (by simp)];rcases Bm j k E hg with⟨e,he,h⟩|⟨x,y,z,h,f,hy,I⟩
   ·rw[h];rfl
   ·have H:=fD hs;rw[h,oW];simp only[cl,en,fF,gO];rw[ea (by simp),ea (by simp),ea (by simp),ee (by rfl)];simp only[oh,eU,gx,jv,js,m4,cl,Tm.fv];rw[jb (by have:=fD f;omega)];simp only[cl]
    by_cases u:x=s
    ·subst u;rw[kc,ee rfl,ji (by omega) (by omega)];simp only[cl];rw[ji (by rw[Ty.im];omega) (by rw[Ty.j1];omega)];simp only[cl];rw[jb (by have:=fD hy;omega)];simp only[cl]
     by_cases v:y=.fn .nat (.fn x x)
     ·subst v;rw[kc,ee rfl,jb (by have:=fD I;omega)];simp only[cl]
      by_cases C:z=.nat
      ·subst C;rw[kc,ea (by decide),ja (by omega),vT.1 ⟨rfl,rfl,rfl⟩];rfl
      ·rw[mj C,ee (by decide),vT.2 (λh=>C h.2.2)];rfl
     ·rw[mj v,ea (by decide),ee trivial,vT.2 (λh=>v h.2.1)];rfl
    ·rw[mj u,ea (by decide),ee trivial,vT.2 (λh=>u h.1)];rfl
  ·intro hn g hg d;rw[Tm.nJ,ea (by decide),ea (by decide),Tm.ud];rfl
  ·intro a b j k hn g hg d;rw[Tm.ef] at hn d;simp only[eC] at hn d;rw[fS,ea (by simp),ea (by simp),Tm.nJ,ea (by decide),ea (by decide)];simp only[ey,Tm.eG,eE (l:=[a,b]) (by simp),eo];rw[oU [a,b] 0 [] (by intro x f;simp at f;rcases f with rfl|rfl<;>first|exact m _ (by omega) j g hg (by omega)|exact m _ (by omega) k g hg (by omega)) (by simp)];rcases BR j k hg with⟨e,he,h⟩|⟨s,t,h,hs,D⟩
   ·rw[h];rfl
   ·rw[h,oW];simp only[cl,en,fF,gO];rw[ea (by simp),ea (by simp),ea (by simp),ea (by simp),ea (by simp),ee (by rfl)];simp only[oh,eU,gx,js,m4,cl];rw[jb (by have:=fD hs;omega)];simp only[cl]
    by_cases u:s=.nat
    ·subst u;rw[kc,ee rfl,jb (by have:=fD D;omega)];simp only[cl]
     by_cases v:t=.pQ
     ·subst v;rw[kc,ea (by decide),zP.1 ⟨rfl,rfl⟩]
     ·rw[mj v,ee (by decide),zP.2 (λh=>v h.2)];rfl
    ·rw[mj u,ea (by decide),ee trivial,zP.2 (λh=>u h.1)];rfl
  ·intro s a b c hs j k E hn g hg d;rw[Tm.ef] at hn d;simp only[eC] at hn d;rw[fS,ea (by simp),ea (by simp),Tm.nJ,ea (by decide),ea (by decide)];simp only[ey,Tm.eG,eE (l:=[a,b,c]) (by simp),eo];rw[oU [a,b,c] 0 [] (by intro x f;simp at f;rcases f with rfl|rfl|rfl<;>first|exact m _ (by omega) j g hg (by omega)|exact m _ (by omega) k g hg (by omega)|exact m _ (by omega) E g hg (by omega)) (by simp)];rcases Bm j k E hg with⟨e,he,h⟩|⟨x,y,z,h,f,hy,I⟩
   ·rw[h];rfl
   ·have H:=fD hs;rw[h,oW];simp only[cl,en,fF,gO];rw[ea (by simp),ea (by simp),ea (by simp),ea (by simp),ea (by simp),ea (by simp),ee (by rfl)];simp only[oh,eU,gx,jv,js,m4,cl,Tm.fv];rw[jb (by have:=fD f;omega)];simp only[cl]
    by_cases u:x=s
    ·subst u;rw[kc,ee rfl,ji (by omega) (by omega)];simp only[cl];rw[ji (by rw[Ty.pA];omega) (by rw[Ty.j1];omega)];simp only[cl];rw[ji (by rw[Ty.im];omega) (by rw[Ty.j1,Ty.j1,Ty.pA];omega)];simp only[cl];rw[jb (by have:=fD hy;omega)];simp only[cl]
     by_cases v:y=.fn .nat (.fn .pQ (.fn x x))
     ·subst v;rw[kc,ee rfl,jb (by have:=fD I;omega)];simp only[cl]
      by_cases C:z=.pQ
      ·subst C;rw[kc,ea (by decide),ja (by omega),vK.1 ⟨rfl,rfl,rfl⟩];rfl
      ·rw[mj C,ee (by decide),vK.2 (λh=>C h.2.2)];rfl
     ·rw[mj v,ea (by decide),ee trivial,vK.2 (λh=>v h.2.1)];rfl
    ·rw[mj u,ea (by decide),ee trivial,vK.2 (λh=>u h.1)];rfl
  ·intro a b j k hn g hg d;rw[Tm.ef] at hn d;simp only[eC] at hn d;rw[fS,ea (by simp),ea (by simp),Tm.nJ,ea (by decide),ea (by decide)];simp only[ey,Tm.eG,eE (l:=[a,b]) (by simp),eo];rw[oU [a,b] 0 [] (by intro x f;simp at f;rcases f with rfl|rfl<;>first|exact m _ (by omega) j g hg (by omega)|exact m _ (by omega) k g hg (by omega)) (by simp)];rcases BR j k hg with⟨e,he,h⟩|⟨s,t,h,hs,D⟩
   ·rw[h];rfl
   ·have H:=fD hs;have M:=fD D;rw[h,oW];simp only[cl,en,fF,gO];rw[ea (by simp),ea (by simp),ea (by simp),ea (by simp),ea (by simp),ea (by simp),ea (by simp),ee (by rfl)];simp only[oh,eU,gx,js,m4,cl];rw[xz (by omega) (by omega)];simp only[cl];rw[D5 (t:=Ty.pr s t) (by rw[Ty.va];omega) (Ty.ok_two (.inl rfl) (Ty.kH hs).1 (Ty.kH D).1),Ty.va];rw[KJ]
    split<;>rfl
  ·intro a j hn g hg d;rw[Tm.ef] at hn d;simp only[eC] at hn d;rw[fS,ea (by simp),ea (by simp),Tm.nJ,ea (by decide),ea (by decide)];simp only[ey,Tm.eG,eE (l:=[a]) (by simp),eo];rw[oU [a] 0 [] (by intro x f;simp at f;subst f;exact m _ (by omega) j g hg (by omega)) (by simp)];rcases B2 j hg with⟨e,he,h⟩|⟨s,h,hs⟩
   ·rw[h];rfl
   ·rw[h,oW];simp only[cl,en,fF,gO];rw[ea (by simp),ea (by simp),ea (by simp),ea (by simp),ea (by simp),ea (by simp),ea (by simp),ea (by simp),ee (by rfl)];simp only[oh,eU,js,cl];rw[Lz]
    by_cases o:s.aba=3
    ·obtain⟨x,y,rfl,f,hy⟩:=zT hs o;rw[ea (by simp[Ty.pr,eW]),ee (by rfl),ee (show(Ty.pr x y).aba=3 from rfl)];rfl
    ·rw[ee (by simpa[eW] using o),ea o];rfl
  ·intro a j hn g hg d;rw[Tm.ef] at hn d;simp only[eC] at hn d;rw[fS,ea (by simp),ea (by simp),Tm.nJ,ea (by decide),ea (by decide)];simp only[ey,Tm.eG,eE (l:=[a]) (by simp),eo];rw[oU [a] 0 [] (by intro x f;simp at f;subst f;exact m _ (by omega) j g hg (by omega)) (by simp)];rcases B2 j hg with⟨e,he,h⟩|⟨s,h,hs⟩
   ·rw[h];rfl
   ·rw[h,oW];simp only[cl,en,fF,gO];rw[ea (by simp),ea (by simp),ea (by simp),ea (by simp),ea (by simp),ea (by simp),ea (by simp),ea (by simp),ee (by rfl)];simp only[oh,eU,js,cl];rw[LV]
    by_cases o:s.aba=3
    ·obtain⟨x,y,rfl,f,hy⟩:=zT hs o;rw[ea (by simp[Ty.pr,eW]),ea (by simp),ee (show(Ty.pr x y).aba=3 from rfl)];rfl
    ·rw[ee (by simpa[eW] using o),ea o];rfl
  ·intro hn g hg d;rw[Tm.nJ,ea (by decide),ea (by decide),Tm.ud];rfl
end Go.hJ
namespace Go.hJ
open Go
def Hz:hD=fP:=by
 funext n
 induction n with
 |zero=>rfl|succ n c=>
  funext a b
  rw[hD,fP,c]
def rZ{a b:Ty}(h:a.abc<=1000000000):hD FU a b=some (a.nx b):=by rw[Hz];exact jb h
def s9(t:Ty):ed:=⟨t,(t.abc:Int)⟩
def P6:ed:=⟨.mk 0 [],0⟩
def H6(r:Ty×Int):ed×Int:=if r.2=0 then(s9 r.1,0)else(P6,r.2)
@[simp] theorem p4(t:Ty):H6 (t,0)=(s9 t,0):=ee rfl
def me{t:Ty}{e:Int}(h:e≠0):H6 (t,e)=(P6,e):=ea h
@[simp] theorem uz(t:Ty):(s9 t).dv=t:=by rfl
@[simp] theorem IS(t:Ty):(s9 t).abc=(t.abc:Int):=by rfl
def lC{t:Ty}(h:t.err=0):ns t=some (s9 t):=by
 unfold ns;rw[lV (by have:=fD h;omega),ee h];rfl
def yA(k:Int){a b:Ty}(c:a.abc<=1000000)(d:b.abc<=1000000):ru k (s9 a) (s9 b)=some (if 64<1+a.abc+b.abc then(P6,4)else(s9 (.mk k [a,b]),0)):=by
 unfold ru;simp only[IS,uz];rw[fu (a:=1) (by omega) (by omega),fu (by omega) (by omega)]
 by_cases h:64<1+a.abc+b.abc
 ·rw[ee (by simp only[gD];omega),ee h];rfl
 ·rw[ea (by simp only[gD];omega),ea h];unfold s9;rw[Ty.z6]
  congr 3
def sa{a b:Ty}(c:a.abc<=1000000):kL (s9 a) (s9 b)=some (a.nx b):=by
 unfold kL;simp only[ey,IS,uz]
 by_cases h:(a.abc:Int)=(b.abc:Int)
 ·rw[ee (by simpa[eH] using h),rZ (by omega)];rfl
 ·rw[ea (by simpa[eH] using h),mj (by rintro rfl;exact h rfl)]
def sg{t x:Ty}{i:Int}(h:eI t.abb i=some x)(a:x.err=0):jR (s9 t) i=some (s9 x):=by
 unfold jR;simp only[uz,h,cl,lC a]
def p6:nD=some .nat:=rfl
def B6:xp=some .pQ:=rfl
def Qc{l:List Ty}(d:l.length<=1000):∀(i m:Nat) (k:Int) (as:List Ty),i<=l.length->i<m->oH ((La λ(a:Int) (v49:Int) (b:List Ty)=>
   if(tq a 0)=true then(
   cv (eI l a) λc=>
   some (.next ((fB .i64 a 1),4,[c,(Ty.mk v49 b)])))
   else(some (.DQ (a,v49,b)))):(Int×Int×(List Ty))->(Option (gu (Int×Int×(List Ty)) (Ty)))) m ((i:Int)-1,k,as)=some (.inl (-1,((l.take i).foldr Ty.fn (.mk k as)).aba,((l.take i).foldr Ty.fn (.mk k as)).abb))
 |0,m+1,k,as,_,_=>by
  rw[nP];simp only[La];rw[ea (by rw[jk];omega)];rfl
 |i+1,m+1,k,as,hi,hm=>by
  rw[nP];simp only[La];rw[ee (by rw[jk];omega),show((i+1:Nat):Int)-1=(i:Int) by omega,jJ,pW (by omega)];simp only[cl,fA];rw[fG (by omega) (by omega)];have h:=Qc d i m 4 [l[i],.mk k as] (by omega) (by omega);rw[h,VR,pW (by omega)];simp only[YZ,Yj,List.foldr_cons,List.foldr_nil];rfl
def zu(t:Ty)(l:List Ty)(a:l.length<=1000):o6 t l=some (l.foldr Ty.fn t):=by
 unfold o6;simp only[ey];rw[fO,fG (by omega) (by omega)];have h:=Qc a l.length FU t.aba t.abb (jh _) (Uq (by omega));rw[h,cl];rw[List.take_length]
 have e:Ty.mk t.aba t.abb=t:=by cases t;rfl
 rw[e];generalize List.foldr Ty.fn t l=r;cases r;rfl
def PF(a b t:Ty):o6 t [a,b]=some (.fn a (.fn b t)):=zu t [a,b] (by simp)
def PA(a b c t:Ty):o6 t [a,b,c]=some (.fn a (.fn b (.fn c t))):=zu t [a,b,c] (by simp)
def Px(a t:Ty):o6 t [a]=some (.fn a t):=zu t [a] (by simp)
def sQ:List Ty->ed×ed×ed
 |[]=>(P6,P6,P6)|[a]=>(s9 a,P6,P6)|[a,b]=>(s9 a,s9 b,P6)|a::b::c::_=>(s9 a,s9 b,s9 c)
def En(x:ed)(k:Int):jE x k=some (eH x.dv.aba k):=rfl
def Ej(t:Ty)(k:Int):eH (s9 t).dv.aba k=decide (t.aba=k):=by
 rw[uz];exact uw _ _
def Ez(s:Ty)(l:List Tm)(i:Int):qp (.mk 6 i s l)=some (.fn .nat (.fn s s)):=by
 unfold qp;rw[ea (by simp)];simp only[p6,cl];rw[PF];rfl
def C'(s:Ty)(l:List Tm)(i:Int):qp (.mk 9 i s l)=some (.fn .nat (.fn .pQ (.fn s s))):=by
 unfold qp;rw[ee (by simp)];simp only[p6,B6,cl];rw[PA];rfl
section
variable{s x y z:Ty} {i:Int} {l:List Tm}
def RL(f:x.err=0)(hy:y.err=0):gM (.mk 3 i s l) (sQ [x,y])=some (H6 (ic 3 s [x,y])):=by
 unfold gM;rw[show j_ (Tm.mk 3 i s l).aba=some [] from rfl];simp only[cl];rw[ea (by simp),ee (by rfl)];simp only[ey,sQ,En,cl,Ej]
 by_cases d:x.aba=4
 ·obtain⟨a,b,rfl,e,g⟩:=J1 f d;rw[ee (by rfl),sg (t:=.fn a b) (x:=a) rfl e];simp only[cl];rw[sa (by have:=fD e;omega)];simp only[cl]
  by_cases c:a=y
  ·subst c;rw[kc,ea (by simp),sg (t:=.fn a b) (x:=b) rfl g,(zK (x:=.fn a b) (y:=a)).1 ⟨rfl,rfl⟩];simp only[cl];rw[show(Ty.fn a b).abb.getD 1 .z=b from rfl,p4]
  ·rw[mj c,ee (by simp),(zK (x:=.fn a b) (y:=y)).2 (λh=>c h.2),me (by decide)];rfl
 ·rw[ea (by simpa using d),ee trivial,zK.2 (λh=>d h.1),me (by decide)];rfl
def PB(a:x.err=0)(hy:y.err=0):gM (.mk 10 i s l) (sQ [x,y])=some (H6 (ic 10 s [x,y])):=by
 unfold gM;rw[show j_ (Tm.mk 10 i s l).aba=some [] from rfl];simp only[cl];rw[ea (by simp),ea (by simp),ea (by simp),ee (by rfl)];simp only[sQ];rw[yA 3 (by have:=fD a;omega) (by have:=fD hy;omega),KJ]
 split
 ·simp only[eb];rw[me (by decide)]
 ·simp only[eb];rw[p4];rfl
def Sj(d:x.err=0):gM (.mk 11 i s l) (sQ [x])=some (H6 (ic 11 s [x])):=by
 unfold gM;rw[show j_ (Tm.mk 11 i s l).aba=some [] from rfl];simp only[cl];rw[ea (by simp),ea (by simp),ea (by simp),ea (by simp)];simp only[sQ,En,cl,Ej];rw[Lz]
 by_cases c:x.aba=3
 ·obtain⟨a,b,rfl,e,f⟩:=zT d c;rw[ee (by rfl),ee (by rfl),sg (t:=.pr a b) (x:=a) rfl e,ee (show(Ty.pr a b).aba=3 from rfl)];simp only[cl];rw[show(Ty.pr a b).abb.getD 0 .z=a from rfl,p4]
 ·rw[ea (by simpa using c),ea c,me (by decide)];rfl
def QG(d:x.err=0):gM (.mk 12 i s l) (sQ [x])=some (H6 (ic 12 s [x])):=by
 unfold gM;rw[show j_ (Tm.mk 12 i s l).aba=some [] from rfl];simp only[cl];rw[ea (by simp),ea (by simp),ea (by simp),ea (by simp)];simp only[sQ,En,cl,Ej];rw[LV]
 by_cases c:x.aba=3
 ·obtain⟨a,b,rfl,f,e⟩:=zT d c;rw[ee (by rfl),ea (by simp),sg (t:=.pr a b) (x:=b) rfl e,ee (show(Ty.pr a b).aba=3 from rfl)];simp only[cl];rw[show(Ty.pr a b).abb.getD 1 .z=b from rfl,p4]
 ·rw[ea (by simpa using c),ea c,me (by decide)];rfl
end
end Go.hJ
namespace Go.hJ
open Go
section
variable{s x y z:Ty} {i:Int} {l:List Tm}
def zg{k t:Int}(a:j_ k=some [t])(b:Ty.err (.mk t [])=0):gM (.mk k i s l) (sQ [])=some (s9 (.mk t []),0):=by
 unfold gM;rw[show(Tm.mk k i s l).aba=k from rfl,a,cl,ee (show nS (eM [t]) 0=true by rfl),show Bl [t] 1 (eM [t])=some ([]:List Int)from rfl];simp only[cl,eE (l:=([]:List Int)) (by simp),eo,ey,pe,en,eU,js];rw[lC b];rfl
def OL:gM (.mk 4 i s l) (sQ [])=some (H6 (ic 4 s [])):=zg rfl Ty.hO
def Sk:gM (.mk 7 i s l) (sQ [])=some (H6 (ic 7 s [])):=zg rfl Ty.pO
def Pz:gM (.mk 13 i s l) (sQ [])=some (H6 (ic 13 s [])):=zg rfl Ty.Fx
def Py(b:x.err=0):gM (.mk 5 i s l) (sQ [x])=some (H6 (ic 5 s [x])):=by
 unfold gM;rw[show j_ (Tm.mk 5 i s l).aba=some [1,1] from rfl,cl,ee (show nS (eM ([1,1]:List Int)) 0=true by rfl),show Bl ([1,1]:List Int) 1 (eM ([1,1]:List Int))=some [1] from rfl];simp only[cl,eE (l:=([1]:List Int)) (by simp),eo,ey,sQ];rw[fm,ee (by rfl)];simp only[En,cl,Ej]
 by_cases a:x.aba=1
 ·have hn:=(vi b).1 a;subst hn;rw[vF (by rfl),ea (by decide)];simp only[cl,fA,pe,en,eU,js];rw[show ns (Ty.mk 1 [])=some (s9 .nat)from lC Ty.hO,EX.1 rfl,p4];rfl
 ·rw[Dw a,ee (by decide),EX.2 (λh=>a ((vi b).2 h)),me (by decide)];rfl
def O5(c:x.err=0)(hy:y.err=0):gM (.mk 8 i s l) (sQ [x,y])=some (H6 (ic 8 s [x,y])):=by
 unfold gM;rw[show j_ (Tm.mk 8 i s l).aba=some [2,1,2] from rfl,cl,ee (show nS (eM ([2,1,2]:List Int)) 0=true by rfl),show Bl ([2,1,2]:List Int) 1 (eM ([2,1,2]:List Int))=some [1,2] from rfl];simp only[cl,eE (l:=([1,2]:List Int)) (by simp),eo,ey,sQ];rw[fm,ee (by rfl)];simp only[En,cl,Ej]
 by_cases b:x.aba=1
 ·have hn:=(vi c).1 b;subst hn;rw[vF (by rfl),ea (by decide)];simp only[cl,fA];rw[fm,ea (by decide),ee (by rfl)]
  by_cases a:y.aba=2
  ·have hn:=(CC hy).1 a;subst hn;rw[vF (by rfl),ea (by decide)];simp only[cl,fA,pe,en,eU,js];rw[show ns (Ty.mk 2 [])=some (s9 .pQ)from lC Ty.pO,zP.1 ⟨rfl,rfl⟩,p4];rfl
  ·rw[Dw a,ee (by decide),zP.2 (λh=>a ((CC hy).2 h.2)),me (by decide)];rfl
 ·rw[Dw b,ee (by decide),zP.2 (λh=>b ((vi c).2 h.1)),me (by decide)];rfl
def Rf(hs:s.err=0)(d:x.err=0)(hy:y.err=0)(e:z.err=0):gM (.mk 6 i s l) (sQ [x,y,z])=some (H6 (ic 6 s [x,y,z])):=by
 unfold gM;rw[show j_ (Tm.mk 6 i s l).aba=some [] from rfl];simp only[cl];rw[ea (by decide),ea (by simp),ee (by rfl)];simp only[ey,sQ,Tm.fv,lC hs,cl];rw[sa (by have:=fD d;omega)];simp only[cl]
 by_cases a:x=s
 ·subst a;rw[kc,ee rfl,Ez];simp only[cl,uz];rw[rZ (by have:=fD hy;omega)];simp only[cl]
  by_cases b:y=.fn .nat (.fn x x)
  ·subst b;rw[kc,ee rfl];simp only[En,cl];rw[show fU (eH (Tm.mk 6 i x l).aba 9) (2:Int) 1=1 from rfl];simp only[Ej]
   by_cases c:z=.nat
   ·subst c;rw[vF (by rfl),ea (by decide),vT.1 ⟨rfl,rfl,rfl⟩,p4]
   ·rw[Dw (λh=>c ((vi e).1 h)),ee (by decide),vT.2 (λh=>c h.2.2),me (by decide)];rfl
  ·rw[mj b,ea (by decide),ee trivial,vT.2 (λh=>b h.2.1),me (by decide)];rfl
 ·rw[mj a,ea (by decide),ee trivial,vT.2 (λh=>a h.1),me (by decide)];rfl
def Pm(hs:s.err=0)(d:x.err=0)(hy:y.err=0)(e:z.err=0):gM (.mk 9 i s l) (sQ [x,y,z])=some (H6 (ic 9 s [x,y,z])):=by
 unfold gM;rw[show j_ (Tm.mk 9 i s l).aba=some [] from rfl];simp only[cl];rw[ea (by decide),ea (by simp),ee (by rfl)];simp only[ey,sQ,Tm.fv,lC hs,cl];rw[sa (by have:=fD d;omega)];simp only[cl]
 by_cases a:x=s
 ·subst a;rw[kc,ee rfl,C'];simp only[cl,uz];rw[rZ (by have:=fD hy;omega)];simp only[cl]
  by_cases b:y=.fn .nat (.fn .pQ (.fn x x))
  ·subst b;rw[kc,ee rfl];simp only[En,cl];rw[show fU (eH (Tm.mk 9 i x l).aba 9) (2:Int) 1=2 from rfl];simp only[Ej]
   by_cases c:z=.pQ
   ·subst c;rw[vF (by rfl),ea (by decide),vK.1 ⟨rfl,rfl,rfl⟩,p4]
   ·rw[Dw (λh=>c ((CC e).1 h)),ee (by decide),vK.2 (λh=>c h.2.2),me (by decide)];rfl
  ·rw[mj b,ea (by decide),ee trivial,vK.2 (λh=>b h.2.1),me (by decide)];rfl
 ·rw[mj a,ea (by decide),ee trivial,vK.2 (λh=>a h.1),me (by decide)];rfl
end
def UB(p:ed×ed×ed):Int×(List Ty)×Int×Int×(List Ty)×Int×Int×(List Ty)×Int:=
 (p.1.dv.aba,p.1.dv.abb,p.1.abc,p.2.1.dv.aba,p.2.1.dv.abb,p.2.1.abc,p.2.2.dv.aba,p.2.2.dv.abb,p.2.2.abc)
def DX{n:Nat}{g:List Ty}:∀(l:List Tm) (d:List Ty),d.length+l.length<=3->(∀a∈l,eY n (g.map s9) a=some (H6 (a.ty g)))->ft (λ(f:Int) (x:Tm)=>(W6 λ(i:Int) (j:List Ty) (v218:Int) (k:Int) (m:List Ty) (o:Int) (v222:Int) (p:List Ty) (q:Int)=>
   ei (eY n (g.map s9) x) λc s=>
   if(eW s 0)=true then(
   some (.ret ((ed.mk (Ty.mk 0 []) 0),s)))
   else(if(eH f 0)=true then(
   some (.next (c.dv.aba,c.dv.abb,c.abc,k,m,o,v222,p,q)))
   else(if(eH f 1)=true then(
   some (.next (i,j,v218,c.dv.aba,c.dv.abb,c.abc,v222,p,q)))
   else(g_ (eH f 2)<|some (.next (i,j,v218,k,m,o,c.dv.aba,c.dv.abb,c.abc)))))):Int->Tm->(Int×(List Ty)×Int×Int×(List Ty)×Int×Int×(List Ty)×Int)->(Option (gu (Int×(List Ty)×Int×Int×(List Ty)×Int×Int×(List Ty)×Int) (ed×Int)))) l d.length (UB (sQ d))=some (match Tm.ud l g with|.inl ts=>.inl (UB (sQ (d++ts)))|.inr e=>.inr (P6,e))
 |[],d,_,_=>by simp[Tm.ud]|a::l,d,y,h=>by
  simp only[lL] at y;rw[fm,Tm.ud];have B:=h a (by simp);simp only[UB,W6];rw[B]
  by_cases w:(a.ty g).2=0
  ·rw[wU w,qC rfl,p4,eb,ea (by decide)];generalize (a.ty g).1=t
   have go:∀A:List Ty,A=d++[t]->(some (gu.next (UB (sQ A))):Option (gu (Int×(List Ty)×Int×Int×(List Ty)×Int×Int×(List Ty)×Int) (ed×Int)))=some (gu.next (UB (sQ (d++[t])))):=λA e=>by rw[e]
   have z:=DX l (d++[t]) (by simp;omega) (λb C=>h b (by simp[C]));rw[so,lL,wE] at z
   have fin:(some (match Tm.ud l g with|.inl ts=>.inl (UB (sQ (d++[t]++ts)))|.inr e=>.inr (P6,e)):Option ((Int×(List Ty)×Int×Int×(List Ty)×Int×Int×(List Ty)×Int)⊕(ed×Int)))=some (match(match Tm.ud l g with|.inl ts=>Sum.inl (t::ts)|.inr e=>Sum.inr e:List Ty⊕Int)with|.inl ts=>.inl (UB (sQ (d++ts)))|.inr e=>.inr (P6,e)):=by
    cases Tm.ud l g with
    |inl ts=>simp|inr e=>rfl
   match d,y with
   |[],_=>
    rw[ee (by rfl)];exact z.trans fin
   |[u],_=>
    rw[ea (by simp),ee (by rfl)];exact z.trans fin
   |[u,v],_=>
    rw[ea (by simp),ea (by simp),show eH (([u,v].length:Nat):Int) 2=true from rfl,eo];exact z.trans fin
   |_::_::_::_,y=>simp at y;omega
  ·rw[qw w];generalize a.ty g=r at w;obtain⟨t,e⟩:=r;simp only at w;rw[me w,eb,ee (by simpa[eW] using w)];rfl
def T1(p:ed×ed×ed):((ed.mk (Ty.mk p.1.dv.aba p.1.dv.abb) p.1.abc),(ed.mk (Ty.mk p.2.1.dv.aba p.2.1.dv.abb) p.2.1.abc),(ed.mk (Ty.mk p.2.2.dv.aba p.2.2.dv.abb) p.2.2.abc))=p:=by
 have e:∀t:Ty,Ty.mk t.aba t.abb=t:=λt=>by cases t;rfl
 obtain⟨⟨a,b⟩,⟨c,d⟩,⟨g,f⟩⟩:=p;simp only[e]
def lO{n:Nat}{g:List Ty}{k i:Int}{s:Ty}{l:List Tm}(m:k≠1)(q:k≠2)(r:l.length<=3)(h:∀a∈l,eY n (g.map s9) a=some (H6 (a.ty g)))
  (hn:∀ts,Tm.ud l g=.inl ts->gM (.mk k i s l) (sQ ts)=some (H6 (ic k s ts))):eY (n+1) (g.map s9) (.mk k i s l)=some (H6 ((Tm.mk k i s l).ty g)):=by
 rw[eY,ea (by simpa[eH] using m),ea (by simpa[eH] using q),Tm.nJ,ea m,ea q];simp only[ey,Tm.eG];rw[eE (by omega),eo];have f:=DX l [] (by simpa using r) h;refine(congrArg (λo=>cv o _) f).trans ?_;simp only[cl];cases j:Tm.ud l g with
 |inr e=>
  rw[MI]
  have he:e≠0:=by
   rcases zW l g with⟨t,d,c⟩|⟨ts,d,_⟩
   ·rw[j] at c;cases c;exact d
   ·rw[j] at d;cases d
  rw[me he];rfl
 |inl ts=>
  simp only[oh,en,oW,UB,W6];rw[T1,hn ts j,show∀p:ed×Int,(ei (some p) λa b=>some (a,b))=some p fromλ_=>rfl]
end Go.hJ
