/- Part of the proof of TranslateWitness: plain facts. -/
import Derived.Test.YtffcgfpaakhbjaaGreatDoorG1
set_option linter.all false
namespace Go.dF
open Go
@[simp] theorem dX(a b:Int):cr a b=true↔a=b:=by simp[cr]
@[simp] theorem cg(a b:Int):cG a b=true↔a≠b:=by simp[cG]
@[simp] theorem j6(a b:Int):tD a b=true↔a<b:=by simp[tD]
@[simp] theorem Am(a b:Int):Dh a b=true↔a<=b:=by simp[Dh]
@[simp] theorem ep(a b:Int):m8 a b=true↔b<a:=by simp[m8]
@[simp] theorem fF(a b:Int):qf a b=true↔b<=a:=by simp[qf]
@[simp] theorem jY(a b:Bool):dq a true b=(a||b):=by cases a<;>rfl
@[simp] theorem pW(a b:Bool):dq a b false=(a&&b):=by cases a<;>rfl
@[simp] theorem XP(a b:Bool):dq a b true=(!a||b):=by cases a<;>rfl
@[simp] theorem Ns(a:Bool):mq a=!a:=rfl
@[simp] theorem ei{α:Type}(l m:List α):dN l m=l++m:=rfl
@[simp] theorem dE{α:Type}(l:List α):cE l=(l.length:Int):=rfl
theorem gu{α:Type}(l:List α)(i:Nat):cq l (i:Int)=l[i]?:=by simp[cq]
@[simp] theorem cD{α:Type}(l:List α):cq l 0=l[0]?:=by simp[cq]
@[simp] theorem dQ{α:Type}(l:List α):cq l 1=l[1]?:=by simp[cq]
@[simp] theorem gz{α:Type}(l:List α):cq l 2=l[2]?:=by simp[cq]
def Ba{α:Type}{l:List α}{i:Int}(b:0<=i)(c:i<l.length):∃x,cq l i=some x/\x∈l:=by
 obtain⟨k,rfl⟩:=Vv b
 have a:k<l.length:=cw
 exact⟨l[k],by rw[gu];simp[a],AY a⟩
def ch{α:Type}{l:List α}(h:l.length<=1000000000):c0 l=true:=by unfold c0 yX;exact r9 cw
def dc{α:Type}{l m:List α}(h:l.length+m.length<=1000000000):dP l m=true:=by unfold dP yX;exact r9 cw
def P4{b:Int}(h:b≠0):G2 b=true:=by simp[G2,h]
def DI{n:Int}(a:-9223372036854775808<=n)(b:n<9223372036854775808):IntKind.i64.wrap n=n:=by
 rw[IntKind.wrap_i64];omega
def cX{a b:Int}(c:-9223372036854775808<=a+b)(d:a+b<9223372036854775808):da .i64 a b=a+b:=DI c d
theorem dh{a b:Int}(c:-9223372036854775808<=a-b)(d:a-b<9223372036854775808):di .i64 a b=a-b:=DI c d
def yo{a b:Int}(c:-9223372036854775808<=a*b)(d:a*b<9223372036854775808):y9 .i64 a b=a*b:=DI c d
section
variable{α β σ ρ:Type}
def G9{F:Int->α->σ->Option (dJ σ ρ)}(I:σ->Prop)(Q:ρ->Prop):∀(l:List α) (i:Nat) (s:σ),I s->(∀k x s,l[k]?=some x->I s->(∃a,F ((i+k:Nat):Int) x s=some (.next a)/\I a)\/(∃r,F ((i+k:Nat):Int) x s=some (.ret r)/\Q r))->(∃a,cY F l i s=some (.inl a)/\I a)\/(∃r,cY F l i s=some (.inr r)/\Q r)
 |[],i,s,hs,_=>.inl ⟨s,rfl,hs⟩|x::l,i,s,hs,h=>by
  have e:=h 0 x s rfl hs;rw[AK] at e;rw[cM];rcases e with⟨s1,b,c⟩|⟨r,b,c⟩
  ·rw[b];simp only[bT,cS];refine G9 I Q l (i+1) s1 c λk y a f d=>?_;have:=h (k+1) y a (by simpa using f) d;rw[show i+(k+1)=i+1+k by omega] at this;exact this
  ·rw[b];exact .inr ⟨r,rfl,c⟩
def gG{F:Int->α->List β->Option (dJ (List β) ρ)}(g:α->β):∀(l:List α) (i:Nat) (v:List β),v.length+l.length<=1000000000->(∀j x v,x∈l->v.length+1<=1000000000->F j x v=some (.next (v++[g x])))->cY F l i v=some (.inl (v++l.map g))
 |[],i,v,_,_=>by simp|x::l,i,v,a,h=>by
  simp only[jK] at a;rw[cM,h i x v th cw];simp only[bT,cS];rw[gG g l (i+1) (v++[g x]) aae λj y v hy b=>h j y v (by simp[hy]) b];simp
def cn(g:α->Nat):List α->Nat
 |[]=>0|x::l=>g x+cn g l
def cy(g:α->Nat){l:List α}{x:α}(h:x∈l):g x<=cn g l:=by
 induction l with
 |nil=>cases h
 |cons y l a=>
  simp only[cn];rcases jA.1 h with rfl|h
  ·omega
  ·have:=a h;omega
def eB(g:α->Nat)(l:List α)(h:∀x∈l,1<=g x):l.length<=cn g l:=by
 induction l with
 |nil=>simp|cons y l a=>simp only[cn,jK];have:=h y th;have:=a λx b=>h x (by simp[b]);omega
def nK{F:Int->α->Int->Option (dJ Int ρ)}(g:α->Nat):∀(l:List α) (i v:Nat),v+cn g l<=4611686018427387904->(∀j x (v:Int),x∈l->F j x v=some (.next (da .i64 v (g x))))->cY F l i (v:Int)=some (.inl ((v+cn g l:Nat):Int))
 |[],i,v,_,_=>by simp[cn]|x::l,i,v,a,h=>by
  simp only[cn] at a|-;rw[cM,h i x v th,cX cw cw];simp only[bT,cS];have:=nK g l (i+1) (v+g x) cw λj y v hy=>h j y v (by simp[hy]);rw[show(v:Int)+(g x:Int)=((v+g x:Nat):Int) by omega,this];rw[GC]
def sH{F:Int->α->Int->Option (dJ Int ρ)}(g:α->Nat)(ok:α->Bool)(r:ρ):∀(l:List α) (i v:Nat),v+cn g l<=4611686018427387904->(∀j x (v:Int),x∈l->F j x v=if ok x then some (.next (da .i64 v (g x)))else some (.ret r))->cY F l i (v:Int)=if l.all ok then some (.inl ((v+cn g l:Nat):Int))else some (.inr r)
 |[],i,v,_,_=>by simp[cn]|x::l,i,v,b,h=>by
  simp only[cn] at b|-;rw[cM,h i x v th,cX cw cw];cases a:ok x with
  |false=>simp[a]|true=>
   simp only[if_true,bT,cS,we,a,yH];have:=sH g ok r l (i+1) (v+g x) cw λj y v hy=>h j y v (by simp[hy]);rw[show(v:Int)+(g x:Int)=((v+g x:Nat):Int) by omega,this,GC]
def n8{F:Int->α->Unit->Option (dJ Unit ρ)}(ok:α->Bool)(r:ρ):∀(l:List α) (i:Nat),(∀j x,x∈l->F j x ()=if ok x then some (.next ())else some (.ret r))->cY F l i ()=if l.all ok then some (.inl ())else some (.inr r)
 |[],i,_=>by simp|x::l,i,h=>by
  rw[cM,h i x th];cases a:ok x with
  |false=>simp[a]|true=>
   simp only[if_true,bT,cS,we,a,yH];exact n8 ok r l (i+1) λj y hy=>h j y (by simp[hy])
def dp:List Int->Int
 |[]=>0|e::l=>if e=0 then dp l else e
def kC{F:Int->α->Unit->Option (dJ Unit Int)}(e:α->Int):∀(l:List α) (i:Nat),(∀j x,x∈l->F j x ()=if e x≠0 then some (.ret (e x))else some (.next ()))->cY F l i ()=if dp (l.map e)=0 then some (.inl ())else some (.inr (dp (l.map e)))
 |[],i,_=>by simp[dp]|x::l,i,h=>by
  rw[cM,h i x th]
  by_cases he:e x=0
  ·simp only[he,dp,mL,ne_eq,Su,fG,bT,cS,if_true];exact kC e l (i+1) λj y hy=>h j y (by simp[hy])
  ·simp[he,dp]
def tc(p:α->β->Bool):List α->List β->Bool
 |x::l,y::m=>p x y&&tc p l m|[],[]=>true|_,_=>false
def vq{F:Int->α->Unit->Option (dJ Unit Bool)}(p:α->β->Bool)(M:List β):∀(l:List α) (i:Nat) (m:List β),m=M.drop i->l.length=m.length->(∀(k:Nat) x y,x∈l->M[k]?=some y->F (k:Int) x ()=if p x y then some (.next ())else some (.ret false))->cY F l i ()=if tc p l m then some (.inl ())else some (.inr false)
 |[],i,m,_,d,_=>by
  cases m with
  |nil=>simp[tc]|cons y m=>simp at d
 |x::l,i,m,hm,d,h=>by
  cases m with
  |nil=>simp at d
  |cons y m=>
   have c:i<M.length:=by
    rcases rI i M.length with h'|h'
    ·exact h'
    ·rw[Ep h'] at hm;cases hm
   rw[Je c] at hm;injection hm with f g;rw[cM,h i x y th (by simp[c,f])];cases e:p x y with
   |false=>simp[tc,e]|true=>
    simp only[if_true,bT,cS,tc,e,yH];exact vq p M l (i+1) m g (by simpa using d) λk a b j n=>h k a b (by simp[j]) n
def vh(p:α->α->Bool):∀(l m:List α),(∀x∈l,∀y,p x y=true↔x=y)->(tc p l m=true↔l=m)
 |[],[],_=>by simp[tc]|[],_::_,_=>by simp[tc]|_::_,[],_=>by simp[tc]|x::l,y::m,h=>by simp[tc,h x th y,vh p l m λa b=>h a (by simp[b])]
def x5{F:σ->Option (dJ σ ρ)}(I:σ->Prop)(μ:σ->Nat)(Q:σ⊕ρ->Prop)
  (h:∀s,I s->(∃a,F s=some (.next a)/\I a/\μ a<μ s)\/(∃a,F s=some (.Fy a)/\Q (.inl a))\/(∃r,F s=some (.ret r)/\Q (.inr r))):∀(n:Nat) (s:σ),I s->μ s<n->∃o,mJ F n s=some o/\Q o
 |0,s,_,hn=>by omega|n+1,s,hs,hn=>by
  rw[lv];rcases h s hs with⟨a,b,c,d⟩|⟨a,b,c⟩|⟨r,b,c⟩
  ·rw[b];simp only[bT,cS];exact x5 I μ Q h n a c cw
  ·rw[b];exact⟨_,rfl,c⟩
  ·rw[b];exact⟨_,rfl,c⟩
def Ul{n:Nat}(h:n<1000000000):n<FU:=by rw[cV];exact h
end
end Go.dF
namespace Go.dF
open Go
mutual
def Ty.acJ:Ty->Nat
 |.mk _ l=>1+Ty.lP l
def Ty.lP:List Ty->Nat
 |[]=>0|t::l=>t.acJ+Ty.lP l
end
def Ty.pw(l:List Ty):Ty.lP l=cn Ty.acJ l:=by
 induction l with
 |nil=>rfl|cons t l a=>simp[Ty.lP,cn,a]
theorem Ty.bY(k:Int)(l:List Ty):(Ty.mk k l).acJ=1+cn Ty.acJ l:=by rw[Ty.acJ,Ty.pw]
def Ty.cu(t:Ty):1<=t.acJ:=by cases t;rw[Ty.acJ];omega
def Ty.dm(l:List Ty):l.length<=cn Ty.acJ l:=eB _ _ λt _=>t.cu
def Ty.want(k:Int):Option Nat:=if k=1\/k=2\/k=5 then some 0 else if k=3\/k=4 then some 2 else none
mutual
def Ty.ok:Ty->Bool
 |.mk k l=>decide (Ty.want k=some l.length)&&Ty.GI l
def Ty.GI:List Ty->Bool
 |[]=>true|t::l=>t.ok&&Ty.GI l
end
def Ty.wZ(l:List Ty):Ty.GI l=l.all Ty.ok:=by
 induction l with
 |nil=>rfl|cons t l a=>simp[Ty.GI,a]
theorem Ty.eo(k:Int)(l:List Ty):(Ty.mk k l).ok=(decide (Ty.want k=some l.length)&&l.all Ty.ok):=by rw[Ty.ok,Ty.wZ]
def Ty.err(t:Ty):Int:=if t.ok then(if 64<t.acJ then 4 else 0)else 2
def FA:∀(n:Nat) (t:Ty),t.acJ<=n->t.acJ<=1000000000->gr n t=some t:=by
 intro n
 induction n with
 |zero=>intro t h;have:=t.cu;omega
 |succ n a=>
  intro t h b;cases t with
  |mk k l=>
   rw[Ty.bY] at h b;have e:=Ty.dm l;rw[gr];simp only[Ty.ck,Ty.cx,cc,ch (l:=l) cw,b6];rw[gG id l 0 [] aae]
   ·simp
   ·intro j x v c d;have:=cy Ty.acJ c;rw[a x cw cw];simp[dc (l:=v) (m:=[x]) (by simpa using d)]
def gx{t:Ty}(h:t.acJ<=1000000000):gr FU t=some t:=FA FU t (by rw[cV];exact h) h
def AQ:∀(n:Nat) (t:Ty),t.acJ<=n->t.acJ<=1000000000->ky n t=some (if t.ok then((t.acJ:Int),true)else(0,false)):=by
 intro n
 induction n with
 |zero=>intro t h;have:=t.cu;omega
 |succ n p=>
  intro t h q;cases t with
  |mk k l=>
   rw[Ty.bY] at h q;have u:=Ty.dm l
   have key:cY (λ(i:Int) (c:Ty) (d:Int)=>b8 (ky n c) λe f=>if f then some (dJ.next (da .i64 d e))else some (dJ.ret ((0:Int),false))) l 0 1=if l.all Ty.ok then some (.inl ((1+cn Ty.acJ l:Nat):Int))else some (.inr (0,false)):=by
    refine sH Ty.acJ Ty.ok _ l 0 1 cw ?_;intro j x v r;have:=cy Ty.acJ r;rw[p x cw cw];cases x.ok<;>simp
   rw[ky];simp only[Ty.ck,Ty.cx,cc,ch (l:=l) cw,b6,key,jY,pE,dX,cg,dE,Ty.eo,Ty.bY,Ty.want]
   by_cases m:k=1\/k=2\/k=5
   ·simp only[m,if_true]
    by_cases b:l=[]
    ·subst b;simp[cn]
    ·have:¬(0=l.length):=by cases l with|nil=>exact absurd rfl b|cons a l=>simp
     have g:(l.length:Int)≠0:=cw
     simp[this,g,b]
   ·simp only[m,fG]
    by_cases b:k=3\/k=4
    ·simp only[b,if_true]
     by_cases g:l.length=2
     ·cases o:l.all Ty.ok<;>simp[g]
     ·have o:(l.length:Int)≠2:=cw
      have s:¬2=l.length:=cw
      simp[o,s]
    ·simp[b]
theorem jJ{t:Ty}(h:t.acJ<=1000000000):gp t=some (if t.err=0 then(t.acJ:Int)else 0,t.err):=by
 unfold gp Ty.err;rw[AQ FU t (by rw[cV];exact h) h];cases t.ok with
 |false=>simp|true=>
  by_cases a:64<t.acJ
  ·simp[a];omega
  ·simp[a];omega
def xm{t:Ty}(h:t.acJ<=1000000000):ma t=some t.err:=by
 unfold ma;rw[jJ h];rfl
def Ty.oG(t:Ty):Bool:=dq (cr t.acH 0) (cr (cE t.acI) 0) false
theorem Ty.iI(t:Ty):t.oG=true↔t=.mk 0 []:=by
 cases t with
 |mk k l=>unfold Ty.oG;simp
theorem p9(t:Ty):l_ t=some t.oG:=rfl
def ux(t:Ty):nq t=some t.oG:=rfl
def Ey:∀(n:Nat) (t:Ty),t.acJ<=n->t.acJ<=1000000000->nT n t=some t.ok:=by
 intro n
 induction n with
 |zero=>intro t h;have:=t.cu;omega
 |succ n m=>
  intro t h o;cases t with
  |mk k l=>
   rw[Ty.bY] at h o;have r:=Ty.dm l
   have key:cY (λ(f:Int) (c:Ty) (_:Unit)=>bU (nT n c) λd=>if d then some (dJ.next ())else some (dJ.ret false)) l 0 ()=if l.all Ty.ok then some (.inl ())else some (.inr false):=by
    refine n8 Ty.ok _ l 0 ?_;intro j x p;have:=cy Ty.acJ p;rw[m x cw cw];rfl
   rw[nT];simp only[Ty.ck,Ty.cx,cc,ch (l:=l) cw,b6,key,jY,pE,dX,cg,dE,Ty.eo,Ty.want]
   by_cases g:k=1\/k=2\/k=5
   ·simp only[g,if_true]
    by_cases b:l=[]
    ·subst b;simp
    ·have:¬(0=l.length):=by cases l with|nil=>exact absurd rfl b|cons a l=>simp
     have e:(l.length:Int)≠0:=cw
     simp[this,e,b]
   ·simp only[g,fG]
    by_cases b:k=3\/k=4
    ·simp only[b,if_true]
     by_cases e:l.length=2
     ·cases i:l.all Ty.ok<;>simp[e]
     ·have i:(l.length:Int)≠2:=cw
      have q:¬2=l.length:=cw
      simp[i,q]
    ·simp[b]
def Gw:∀(n:Nat) (t:Ty),t.acJ<=n->t.acJ<=1000000000->oT n t=some (t.acJ:Int):=by
 intro n
 induction n with
 |zero=>intro t h;have:=t.cu;omega
 |succ n a=>
  intro t h b;cases t with
  |mk k l=>
   rw[Ty.bY] at h b;have d:=Ty.dm l;rw[oT];simp only[Ty.ck,cc,ch (l:=l) cw,b6]
   have key:=nK (ρ:=Int) (F:=λ(j:Int) (x:Ty) (v:Int)=>bU (oT n x) λy=>some (dJ.next (da .i64 v y))) Ty.acJ l 0 1 cw (by
    intro j x v c;have:=cy Ty.acJ c;rw[a x cw cw]
    rfl)
   rw[show(1:Int)=((1:Nat):Int)from rfl,key];simp[Ty.bY]
def kz{t:Ty}(h:t.acJ<=1000000000):gk t=some t.err:=by
 unfold gk Ty.err;rw[Ey FU t (by rw[cV];exact h) h,Gw FU t (by rw[cV];exact h) h];cases t.ok with
 |false=>simp|true=>by_cases a:64<t.acJ<;>simp[a]<;>omega
def uH:∀(n:Nat) (a b:Ty),a.acJ<=n->a.acJ<=1000000000->∃r,dr n a b=some r/\(r=true↔a=b):=by
 intro n
 induction n with
 |zero=>intro t b h;have:=t.cu;omega
 |succ n q=>
  intro a b h s;cases a with
  |mk k l=>
  cases b with
  |mk k' m=>
   rw[Ty.bY] at h s;have u:=Ty.dm l;rw[dr];simp only[Ty.ck,Ty.cx,cc,ch (l:=l) cw,b6,jY,pE,cg,dE]
   by_cases d:k≠k'\/(l.length:Int)≠m.length
   ·rw[bX d];refine⟨false,rfl,?_⟩;simp only[hZ,Ho,Ty.mk.injEq,not_and];rintro rfl rfl;simp at d
   ·rw[bV d];simp only[not_or,uu] at d;obtain⟨rfl,hlen⟩:=d
    have c:l.length=m.length:=cw
    let p:Ty->Ty->Bool:=λx y=>(dr n x y).getD false
    have i:∀x∈l,∀y,dr n x y=some (p x y)/\(p x y=true↔x=y):=by
     intro x f y;have:=cy Ty.acJ f;obtain⟨r,o,g⟩:=q x y cw cw
     have e:p x y=r:=by show(dr n x y).getD false=r;rw[o];rfl
     rw[e];exact⟨o,g⟩
    have key:=vq (F:=λ(j:Int) (x:Ty) (_:Unit)=>bU (cq m j) λy=>bU (dr n x y) λz=>if z then some (dJ.next ())else some (dJ.ret false)) p m l 0 m rfl c (by
     intro k x y f hy;rw[gu,hy];simp only[bT];rw[(i x f y).1]
     rfl)
    rw[key];have he:=vh p l m λx f y=>(i x f y).2;cases g:tc p l m with
    |false=>exact⟨false,rfl,by rw[g] at he;simpa using he⟩
    |true=>exact⟨true,rfl,by rw[g] at he;simpa using he⟩
noncomputable def Ty.iY (a b:Ty):Bool:=@decide (a=b) (Classical.propDecidable _)
theorem Ty.iJ(a b:Ty):a.iY b=true↔a=b:=by unfold Ty.iY;simp
theorem fU{a b:Ty}(h:a.acJ<=1000000000):dr FU a b=some (a.iY b):=by
 obtain⟨r,c,d⟩:=uH FU a b (by rw[cV];exact h) h;rw[c]
 congr 1
 rw[AS,d,Ty.iJ]
mutual
def Tm.acJ:Tm->Nat
 |.mk _ _ _ l=>1+Tm.lP l
def Tm.lP:List Tm->Nat
 |[]=>0|t::l=>t.acJ+Tm.lP l
end
def Tm.pw(l:List Tm):Tm.lP l=cn Tm.acJ l:=by
 induction l with
 |nil=>rfl|cons t l a=>simp[Tm.lP,cn,a]
theorem Tm.bY(k i:Int)(s:Ty)(l:List Tm):(Tm.mk k i s l).acJ=1+cn Tm.acJ l:=by rw[Tm.acJ,Tm.pw]
def Tm.cu(t:Tm):1<=t.acJ:=by cases t;rw[Tm.acJ];omega
def Tm.dm(l:List Tm):l.length<=cn Tm.acJ l:=eB _ _ λt _=>t.cu
mutual
def Tm.wt:Tm->Nat
 |.mk _ _ s l=>1+s.acJ+Tm.LK l
def Tm.LK:List Tm->Nat
 |[]=>0|t::l=>t.wt+Tm.LK l
end
def Tm.BZ(l:List Tm):Tm.LK l=cn Tm.wt l:=by
 induction l with
 |nil=>rfl|cons t l a=>simp[Tm.LK,cn,a]
def Tm.fo(k i:Int)(s:Ty)(l:List Tm):(Tm.mk k i s l).wt=1+s.acJ+cn Tm.wt l:=by rw[Tm.wt,Tm.BZ]
def Tm.gK(t:Tm):1<=t.wt:=by cases t;rw[Tm.wt];omega
def Tm.mh(l:List Tm):l.length<=cn Tm.wt l:=eB _ _ λt _=>t.gK
def iu{α:Type}{f g:α->Nat}{l:List α}(h:∀x∈l,f x<=g x):cn f l<=cn g l:=by
 induction l with
 |nil=>simp[cn]|cons x l a=>simp only[cn];have:=h x th;have:=a λy hy=>h y (by simp[hy]);omega
def ru{α β:Type}(f:β->Nat)(g:α->β)(l:List α):cn f (l.map g)=cn (λx=>f (g x)) l:=by
 induction l with
 |nil=>rfl|cons x l a=>simp[cn,a]
def vY{α:Type}{f g:α->Nat}{l:List α}(h:∀x∈l,f x=g x):cn f l=cn g l:=by
 induction l with
 |nil=>rfl|cons x l a=>simp[cn,h x th,a λy hy=>h y (by simp[hy])]
def B3{α:Type}(f:α->Nat)(l m:List α):cn f (l++m)=cn f l+cn f m:=by
 induction l with
 |nil=>simp[cn]|cons x l a=>simp[cn,a];omega
def Tm.ind{p:Tm->Prop}(h:∀k i s l,(∀t∈l,p t)->p (.mk k i s l))(t:Tm):p t:=by
 have:∀n (t:Tm),t.acJ<=n->p t:=by
  intro n
  induction n with
  |zero=>intro t a;have:=t.cu;omega
  |succ n b=>
   intro t a;cases t with
   |mk k i s l=>
    rw[Tm.bY] at a;exact h k i s l λu hu=>b u (by have:=cy Tm.acJ hu;omega)
 exact this _ t (fC _)
def Tm.fE(t:Tm):t.acJ<=t.wt:=by
 induction t using Tm.ind with
 |h k i s l a=>rw[Tm.bY,Tm.fo];have:=iu a;omega
def hU(k:Int):Bool:=decide (k=2\/k=6\/k=9)
def eF(k:Int):Int:=
 if k=1\/k=4\/k=7\/k=13 then 0 else if k=2\/k=5\/k=11\/k=12 then 1 else if k=3\/k=8\/k=10 then 2 else if k=6\/k=9 then 3 else-1
def Tm.node(k i:Int)(s:Ty)(n:Nat):Bool:=
 decide ((n:Int)=eF k)&&decide (0<=i)&&(decide (k=1)||decide (i=0))&&(if hU k then decide (s.err=0)else s.oG)
mutual
def Tm.ok:Tm->Bool
 |.mk k i s l=>Tm.node k i s l.length&&Tm.GI l
def Tm.GI:List Tm->Bool
 |[]=>true|t::l=>t.ok&&Tm.GI l
end
def Tm.wZ(l:List Tm):Tm.GI l=l.all Tm.ok:=by
 induction l with
 |nil=>rfl|cons t l a=>simp[Tm.GI,a]
theorem Tm.eo(k i:Int)(s:Ty)(l:List Tm):(Tm.mk k i s l).ok=(Tm.node k i s l.length&&l.all Tm.ok):=by rw[Tm.ok,Tm.wZ]
def Tm.err(t:Tm):Int:=if t.ok then(if 4096<t.acJ then 4 else 0)else 2
def Gj:∀(n:Nat) (t:Tm),t.wt<=n->t.wt<=1000000000->jQ n t=some t:=by
 intro n
 induction n with
 |zero=>intro t h;have:=t.gK;omega
 |succ n a=>
  intro t h b;cases t with
  |mk k i s l=>
   rw[Tm.fo] at h b;have e:=Tm.mh l;rw[jQ];simp only[Tm.ck,Tm.cx,Tm.dK,Tm.cT,cc,ch (l:=l) cw,b6];rw[gG id l 0 [] aae]
   ·simp[gx (t:=s) cw]
   ·intro j x v c d;have:=cy Tm.wt c;rw[a x cw cw];simp[dc (l:=v) (m:=[x]) (by simpa using d)]
def rf{t:Tm}(h:t.wt<=1000000000):jQ FU t=some t:=Gj FU t (by rw[cV];exact h) h
def nC(k:Int)(l:List Tm)(h:cn Tm.wt l<=1000000000):dR k l=some (Tm.mk k 0 (.mk 0 []) l):=by
 have c:=Tm.mh l;unfold dR;simp only[cc,ch (l:=l) cw,b6];rw[gG id l 0 [] aae]
 ·simp
 ·intro j x v a b;have:=cy Tm.wt a;rw[rf (t:=x) cw];simp[dc (l:=v) (m:=[x]) (by simpa using b)]
def Eg(k:Int)(s:Ty)(l:List Tm)(hs:s.acJ<=1000000000)(h:cn Tm.wt l<=1000000000):j5 k s l=some (Tm.mk k 0 s l):=by
 unfold j5;rw[nC k l h];simp[gx hs]
def FQ(k:Int):sJ k=some (eF k):=by
 unfold sJ eF;simp only[jY,pE,dX]
 split<;>(try rfl)
 split<;>(try rfl)
 split<;>(try rfl)
 split<;>rfl
def lQ:∀(n:Nat) (t:Tm),t.acJ<=n->t.acJ<=1000000000->dG n t=some (t.acJ:Int):=by
 intro n
 induction n with
 |zero=>intro t h;have:=t.cu;omega
 |succ n a=>
  intro t h b;cases t with
  |mk k i s l=>
   rw[Tm.bY] at h b;have d:=Tm.dm l;rw[dG];simp only[Tm.ck,cc,ch (l:=l) cw,b6]
   have key:=nK (ρ:=Int) (F:=λ(j:Int) (x:Tm) (v:Int)=>bU (dG n x) λy=>some (dJ.next (da .i64 v y))) Tm.acJ l 0 1 cw (by
    intro j x v c;have:=cy Tm.acJ c;rw[a x cw cw]
    rfl)
   rw[show(1:Int)=((1:Nat):Int)from rfl,key];simp[Tm.bY]
def xP:∀(n:Nat) (t:Tm),t.wt<=n->t.wt<=1000000000->iN n t=some t.ok:=by
 intro n
 induction n with
 |zero=>intro t h;have:=t.gK;omega
 |succ n p=>
  intro t h q;cases t with
  |mk k i s l=>
   rw[Tm.fo] at h q;have z:=Tm.mh l
   have key:cY (λ(f:Int) (a:Tm) (_:Unit)=>bU (iN n a) λb=>if b then some (dJ.next ())else some (dJ.ret false)) l 0 ()=if l.all Tm.ok then some (.inl ())else some (.inr false):=by
    refine n8 Tm.ok _ l 0 ?_;intro j x r;have:=cy Tm.wt r;rw[p x cw cw];rfl
   rw[iN]
   simp only[Tm.ck,Tm.cx,Tm.dK,Tm.cT,cc,ch (l:=l) cw,b6,key,jY,pE,dX,cg,j6,dE,Tm.eo,FQ,bT,kz (t:=s) cw,ux]
   by_cases d:(l.length:Int)=eF k
   ·by_cases g:i<0
    ·have:¬0<=i:=cw
     simp[d,g,Tm.node,this]
    ·have u:0<=i:=cw
     by_cases m:k=1
     ·subst m;cases c:s.oG<;>cases e:l.all Tm.ok<;>simp_all [Tm.node,hU]
     ·by_cases c:i=0
      ·subst c;have o:cG 0 0=false:=rfl
       by_cases e:k=2\/k=6\/k=9
       ·have v:hU k=true:=by simp[hU,e]
        by_cases w:s.err=0<;>cases y:l.all Tm.ok<;>simp_all [Tm.node]
       ·have v:hU k=false:=by simp[hU,e]
        cases w:s.oG<;>cases y:l.all Tm.ok<;>simp_all [Tm.node]
      ·have o:cG i 0=true:=by simp[c]
       simp[d,g,m,c,o,Tm.node]
   ·simp[d,Tm.node]
def lJ{t:Tm}(h:t.wt<=1000000000):ka t=some t.err:=by
 have:=t.fE;unfold ka Tm.err;rw[xP FU t (by rw[cV];exact h) h,lQ FU t (by rw[cV];omega) cw];cases t.ok with
 |false=>simp|true=>by_cases a:4096<t.acJ<;>simp[a]<;>omega
def GB(k:Int):sy k=some (if 1<=k/\k<14 then(eF k,true)else(0,false)):=by
 unfold sy;simp only[jY,pE,j6,fF]
 by_cases h:k<1\/14<=k
 ·rw[bX h,bV cw]
 ·rw[bV h,bX cw]
  have:k=1\/k=2\/k=3\/k=4\/k=5\/k=6\/k=7\/k=8\/k=9\/k=10\/k=11\/k=12\/k=13:=cw
  rcases this with rfl|rfl|rfl|rfl|rfl|rfl|rfl|rfl|rfl|rfl|rfl|rfl|rfl<;>rfl
def F_(k:Int):s_ k=some (hU k):=by
 unfold s_ hU
 congr 1
 rw[AS];simp
def H9{k:Int}{n:Nat}(h:(n:Int)=eF k):1<=k/\k<14:=by
 unfold eF at h
 repeat' split at h
 all_goals omega
def tK:∀(n:Nat) (t:Tm),t.wt<=n->t.wt<=1000000000->gW n t=some (if t.ok then((t.acJ:Int),true)else(0,false)):=by
 intro n
 induction n with
 |zero=>intro t h;have:=t.gK;omega
 |succ n r=>
  intro t h u;cases t with
  |mk k i s l=>
   rw[Tm.fo] at h u;have D:=Tm.mh l;have hn:cn Tm.acJ l<=cn Tm.wt l:=iu λx _=>x.fE
   have key:cY (λ(o:Int) (a:Tm) (b:Int)=>b8 (gW n a) λc d=>if d then some (dJ.next (da .i64 b c))else some (dJ.ret ((0:Int),false))) l 0 1=if l.all Tm.ok then some (.inl ((1+cn Tm.acJ l:Nat):Int))else some (.inr (0,false)):=by
    refine sH Tm.acJ Tm.ok _ l 0 1 cw ?_;intro j x v w;have:=cy Tm.wt w;rw[r x cw cw];cases x.ok<;>simp
   rw[gW];simp only[Tm.ck,Tm.cx,Tm.dK,Tm.cT,cc,ch (l:=l) cw,b6,key,Tm.eo,Tm.bY,GB,F_,jJ (t:=s) cw,p9,bT,bW]
   by_cases e:(l.length:Int)=eF k
   ·have f:=H9 e;simp only[f,and_self,if_true,bW,AP,jY,pW,pE,ed,cg,j6,dE,e,ne_eq,Su,false_or]
    by_cases p:i<0
    ·have:¬0<=i:=cw
     simp[p,Tm.node,this]
    ·have y:0<=i:=cw
     by_cases q:k=1
     ·subst q;cases g:s.oG<;>cases m:l.all Tm.ok<;>simp_all [Tm.node,hU]
     ·by_cases g:i=0
      ·subst g
       by_cases m:k=2\/k=6\/k=9
       ·have z:hU k=true:=by simp[hU,m]
        by_cases A:s.err=0<;>cases B:l.all Tm.ok<;>simp_all [Tm.node]
       ·have z:hU k=false:=by simp[hU,m]
        cases A:s.oG<;>cases B:l.all Tm.ok<;>simp_all [Tm.node]
      ·simp[p,q,g,Tm.node]
   ·have C:Tm.node k i s l.length=false:=by simp[Tm.node,e]
    simp only[C,Va,hZ,fG]
    by_cases f:1<=k/\k<14
    ·simp[f,e]
    ·simp[f]
def dD(k:Int):Int:=if k=2 then 1 else 0
def gi(k:Int):0<=dD k/\dD k<=1:=by unfold dD;split<;>omega
def lL(t:Tm):jz t=some (dD t.acH):=by
 unfold jz dD;simp only[dX]
 split<;>rfl
mutual
def Tm.up(f b:Int):Tm->Tm
 |.mk k i s l=>.mk k (if k=1/\f<=i then i+b else i) s (Tm.S3 (f+dD k) b l)
def Tm.S3(f b:Int):List Tm->List Tm
 |[]=>[]|t::l=>t.up f b::Tm.S3 f b l
end
def Tm.Lv(f b:Int)(l:List Tm):Tm.S3 f b l=l.map (Tm.up f b):=by
 induction l with
 |nil=>rfl|cons t l a=>simp[Tm.S3,a]
theorem Tm.fx(f b k i:Int)(s:Ty)(l:List Tm):(Tm.mk k i s l).up f b=.mk k (if k=1/\f<=i then i+b else i) s (l.map (Tm.up (f+dD k) b)):=by rw[Tm.up,Tm.Lv]
mutual
def Tm.acN(m:Int):Tm->Bool
 |.mk _ i _ l=>decide (i<=m)&&Tm.rH m l
def Tm.rH(m:Int):List Tm->Bool
 |[]=>true|t::l=>t.acN m&&Tm.rH m l
end
def Tm.Bc(m:Int)(l:List Tm):Tm.rH m l=l.all (Tm.acN m):=by
 induction l with
 |nil=>rfl|cons t l a=>simp[Tm.rH,a]
theorem Tm.dn(m k i:Int)(s:Ty)(l:List Tm):(Tm.mk k i s l).acN m=(decide (i<=m)&&l.all (Tm.acN m)):=by rw[Tm.acN,Tm.Bc]
mutual
def Tm.acP(a:Int):Tm->Nat
 |.mk k i _ l=>(if k=1/\i=a then 1 else 0)+Tm.wq (a+dD k) l
def Tm.wq(a:Int):List Tm->Nat
 |[]=>0|t::l=>t.acP a+Tm.wq a l
end
def Tm.Bb(a:Int)(l:List Tm):Tm.wq a l=cn (Tm.acP a) l:=by
 induction l with
 |nil=>rfl|cons t l b=>simp[Tm.wq,cn,b]
def Tm.ee(a k i:Int)(s:Ty)(l:List Tm):(Tm.mk k i s l).acP a=(if k=1/\i=a then 1 else 0)+cn (Tm.acP (a+dD k)) l:=by rw[Tm.acP,Tm.Bb]
def Tm.fZ(t:Tm):∀a,t.acP a<=t.acJ:=by
 induction t using Tm.ind with
 |h k i s l b=>
  intro a;rw[Tm.ee,Tm.bY];have:=iu (f:=Tm.acP (a+dD k)) (g:=Tm.acJ) (l:=l) λx c=>b x c _
  split<;>omega
def Tm.mW(n i:Int)(s t:Tm):Tm:=if i=n then s.up 0 n else if n<i then .mk 1 (i-1) (.mk 0 []) [] else t
mutual
def Tm.e_:Int->Tm->Tm->Tm
 |n,.mk k i ty l,s=>if k=1 then Tm.mW n i s (.mk k i ty l)else .mk k i ty (Tm.HP (n+dD k) l s)
def Tm.HP:Int->List Tm->Tm->List Tm
 |_,[],_=>[]|n,t::l,s=>Tm.e_ n t s::Tm.HP n l s
end
def Tm.IA(n:Int)(s:Tm)(l:List Tm):Tm.HP n l s=l.map (λx=>Tm.e_ n x s):=by
 induction l with
 |nil=>rfl|cons t l a=>simp[Tm.HP,a]
theorem Tm.fB(n:Int)(s:Tm)(k i:Int)(ty:Ty)(l:List Tm):Tm.e_ n (Tm.mk k i ty l) s=if k=1 then Tm.mW n i s (.mk k i ty l)else .mk k i ty (l.map (λx=>Tm.e_ (n+dD k) x s)):=by rw[Tm.e_,Tm.IA]
theorem Tm.nN(t:Tm):∀f b,(t.up f b).acJ=t.acJ:=by
 induction t using Tm.ind with
 |h k i s l a=>
  intro f b;rw[Tm.fx,Tm.bY,Tm.bY,ru];rw[vY λx c=>a x c _ _]
def ur{α β:Type}{p:β->Bool}{q:α->Bool}{g:α->β}{l:List α}(h:∀x∈l,p (g x)=q x):(l.map g).all p=l.all q:=by
 induction l with
 |nil=>rfl|cons x l a=>simp only[mL,we,h x th,a λy hy=>h y (by simp[hy])]
def Tm.Md{k i j:Int}{s:Ty}{n:Nat}(h:k=1/\0<=i/\0<=j\/i=j):Tm.node k i s n=Tm.node k j s n:=by
 rcases h with⟨rfl,a,b⟩|rfl
 ·simp[Tm.node,a,b]
 ·rfl
theorem Tm.EZ(t:Tm):∀f b,0<=f->0<=b->(t.up f b).ok=t.ok:=by
 induction t using Tm.ind with
 |h k i s l a=>
  intro f b e c;rw[Tm.fx,Tm.eo,Tm.eo,GD,ur λx d=>a x d (f+dD k) b (by have:=gi k;omega) c]
  congr 1
  apply Tm.Md
  split
  ·rename_i g;left;omega
  ·right;rfl
def w7:∀(n:Nat) (t:Tm) (m:Int),t.acJ<=n->t.acJ<=1000000000->jC n t m=some (t.acN m):=by
 intro n
 induction n with
 |zero=>intro t m h;have:=t.cu;omega
 |succ n e=>
  intro t m h f;cases t with
  |mk k i s l=>
   rw[Tm.bY] at h f;have o:=Tm.dm l
   have key:cY (λ(c:Int) (a:Tm) (_:Unit)=>bU (jC n a m) λb=>if b then some (dJ.next ())else some (dJ.ret false)) l 0 ()=if l.all (Tm.acN m) then some (.inl ())else some (.inr false):=by
    refine n8 (Tm.acN m) _ l 0 ?_;intro j x g;have:=cy Tm.acJ g;rw[e x m cw cw];rfl
   rw[jC];simp only[Tm.ck,Tm.dK,cc,ch (l:=l) cw,b6,key,ep,Tm.dn]
   by_cases d:m<i
   ·have:¬i<=m:=cw
    simp[d,this]
   ·have:i<=m:=cw
    cases p:l.all (Tm.acN m)<;>simp[d,this]
def B9:∀(n:Nat) (t:Tm) (f b:Int),t.acJ<=n->t.acJ<=1000000000->0<=f->f+t.acJ<=10000000000->0<=b->b<=10000000000->t.acN 1000000000000=true->pO n t f b=some (t.up f b):=by
 intro n
 induction n with
 |zero=>intro t f b h;have:=t.cu;omega
 |succ n q=>
  intro t f b h a z c r d hi;cases t with
  |mk k i s l=>
   rw[Tm.bY] at h a c;rw[Tm.dn] at hi;simp only[ed,mH,ie] at hi;have A:=Tm.dm l;have B:=gi k;rw[pO];simp only[Tm.ck,Tm.dK,Tm.cx,Tm.cT,cc,ch (l:=l) cw,b6];rw[gG (Tm.up (f+dD k) b) l 0 [] aae]
   ·rw[Tm.fx];simp only[bT,b9,mw,uv,Tm.mk.injEq,KH,zE]
    by_cases g:k=1/\f<=i
    ·obtain⟨rfl,o⟩:=g;rw[cX cw cw];have u:cr 1 1=true:=rfl
     have w:qf i f=true:=by simp[o]
     simp[u,w,o]
    ·rw[bV g]
     have e:dq (cr k 1) (qf i f) false=false:=by
      rw[pW,NW];simp only[ne_eq,ed,dX,fF];exact g
     rw[e];rfl
   ·intro j x v p y;have:=cy Tm.acJ p;rw[lL];simp only[bT,Tm.cx];rw[cX cw cw,q x (f+dD k) b cw cw cw cw r d (hi.2 x p)];simp[dc (l:=v) (m:=[x.up (f+dD k) b]) (by simpa using y)]
def xU:∀(n:Nat) (t:Tm) (a:Int),t.acJ<=n->t.acJ<=1000000000->0<=a->a+t.acJ<=10000000000->kW n t a=some (t.acP a:Int):=by
 intro n
 induction n with
 |zero=>intro t a h;have:=t.cu;omega
 |succ n g=>
  intro t a h c q d;cases t with
  |mk k i s l=>
   rw[Tm.bY] at h c d;have r:=Tm.dm l;have u:=gi k;have m:cn (Tm.acP (a+dD k)) l<=cn Tm.acJ l:=iu λx _=>x.fZ _;rw[kW];simp only[Tm.ck,Tm.dK,Tm.cx,cc,ch (l:=l) cw,b6]
   have o:dq (dq (cr k 1) (cr i a) false) (da .i64 0 1) 0=(((if k=1/\i=a then 1 else 0:Nat)):Int):=by
    by_cases f:k=1/\i=a
    ·obtain⟨rfl,rfl⟩:=f;simp[cr,dq,da,DI]
    ·have e:dq (cr k 1) (cr i a) false=false:=by
      rw[pW,NW];simp only[ne_eq,ed,dX];exact f
     rw[e,bV f];rfl
   have key:=nK (ρ:=Int) (F:=λ(j:Int) (x:Tm) (v:Int)=>bU (jz (Tm.mk k i s l)) λb=>bU (kW n x (da .i64 a b)) λy=>some (dJ.next (da .i64 v y)))
    (Tm.acP (a+dD k)) l 0 (if k=1/\i=a then 1 else 0) (by split<;>omega) (by
    intro j x v p;have:=cy Tm.acJ p;rw[lL];simp only[bT,Tm.cx];rw[cX cw cw,g x _ cw cw cw cw]
    rfl)
   rw[o,key];simp[Tm.ee]
def Co:∀(n:Nat) (t:Tm) (a b:Int) (s:Tm),t.acJ<=n->t.acJ<=1000000000->0<=a->0<=b->a+b+t.acJ<=5000000000->t.acN 1000000000000=true->t.ok=true->s.acJ<=1000000000->s.acN 1000000000000=true->sP n t a b s=some (Tm.e_ (a+b) t s):=by
 intro n
 induction n with
 |zero=>intro t a b s h;have:=t.cu;omega
 |succ n r=>
  intro t a b s h o u z p hi c hs d;cases t with
  |mk k i ty l=>
   rw[Tm.bY] at h o p;rw[Tm.dn] at hi;rw[Tm.eo] at c;simp only[ed,mH,ie] at hi c;have A:=Tm.dm l;have B:=gi k
   have w:0<=i:=by
    have:=c.1;simp only[Tm.node,ed,mH] at this;exact this.1.1.2
   rw[sP,Tm.fB];simp only[Tm.ck,Tm.dK,Tm.cx,Tm.cT,cc,ch (l:=l) cw,b6,dX];rw[cX cw cw]
   by_cases e:k=1
   ·rw[bX e,bX e];unfold Tm.mW
    by_cases f:i=a+b
    ·rw[bX f,bX f,B9 FU s 0 (a+b) (by rw[cV];exact hs) hs cw cw cw cw d];rfl
    ·rw[bV f,bV f];simp only[ep]
     by_cases g:a+b<i
     ·rw[bX g,bX g,dh cw cw];rfl
     ·rw[bV g,bV g]
   ·rw[bV e,bV e];rw[gG (λx=>Tm.e_ (a+b+dD k) x s) l 0 [] aae]
    ·simp
    ·intro j x v q y;have:=cy Tm.acJ q;rw[lL];simp only[bT,Tm.cx];rw[cX cw cw,r x a (b+dD k) s cw cw u cw cw (hi.2 x q) (c.2 x q) hs d];rw[show a+(b+dD k)=a+b+dD k by omega];simp[dc (l:=v) (m:=[Tm.e_ (a+b+dD k) x s]) (by simpa using y)]
def Tm.pB(s t:Tm):∀n,t.ok=true->(Tm.e_ n t s).acJ+t.acP n=t.acJ+t.acP n*s.acJ:=by
 induction t using Tm.ind with
 |h k i ty l g=>
  intro n a;rw[Tm.eo] at a;simp only[ed,ie] at a;rw[Tm.fB,Tm.ee,Tm.bY]
  by_cases d:k=1
  ·subst d
   have j:l=[]:=by
    have:=a.1;simp only[Tm.node,ed,mH] at this;have h:=this.1.1.1;simp[eF] at h;exact h
   subst j;simp only[if_true,Tm.mW,cn,AK,zE]
   by_cases e:i=n
   ·simp[e,Tm.nN];omega
   ·by_cases m:n<i<;>simp[e,m,Tm.bY,cn]
  ·simp only[d,fG,Mb,sA];rw[Tm.bY,ru]
   have:cn (λx=>(Tm.e_ (n+dD k) x s).acJ) l+cn (Tm.acP (n+dD k)) l=cn Tm.acJ l+cn (Tm.acP (n+dD k)) l*s.acJ:=by
    have b:∀x∈l,(Tm.e_ (n+dD k) x s).acJ+x.acP (n+dD k)=x.acJ+x.acP (n+dD k)*s.acJ:=λx c=>g x c _ (a.2 x c);clear g a
    induction l with
    |nil=>simp[cn]|cons y l f=>
     have d:=b y th;have e:=f λx c=>b x (by simp[c]);simp only[cn,vF];omega
   omega
def Tm.KZ(s:Tm)(hs:s.ok=true)(t:Tm):∀n,0<=n->t.ok=true->(Tm.e_ n t s).ok=true:=by
 induction t using Tm.ind with
 |h k i ty l g=>
  intro n hn a;have b:=a;rw[Tm.eo] at a;simp only[ed,ie] at a;rw[Tm.fB]
  by_cases d:k=1
  ·subst d;simp only[if_true,Tm.mW]
   by_cases c:i=n
   ·simp only[c,if_true];rw[Tm.EZ s 0 n cw hn];exact hs
   ·by_cases e:n<i
    ·simp only[c,e,fG,if_true];rw[Tm.eo]
     have j:1<=i:=cw
     simp[Tm.node,eF,hU,j,Ty.oG,cr]
    ·simp only[c,e,fG];exact b
  ·simp only[d,fG];rw[Tm.eo,GD];simp only[ed,ie,kI];refine⟨a.1,?_⟩;rintro _ ⟨x,f,rfl⟩;exact g x f _ (by have:=gi k;omega) (a.2 x f)
mutual
def Tm.fr:Tm->Int
 |.mk k i _ l=>if k=1 then i+1 else if k=2 then imax 0 (Tm.FC 0 l-1)else Tm.FC 0 l
def Tm.FC(m:Int):List Tm->Int
 |[]=>m|t::l=>Tm.FC (imax m t.fr) l
end
theorem qV(a b:Int):imax a b=max a b:=by unfold imax;omega
def Tm.Lj(l:List Tm):∀m,m<=Tm.FC m l:=by
 induction l with
 |nil=>intro m;exact RE _|cons t l a=>intro m;rw[Tm.FC];have:=a (imax m t.fr);rw[qV] at*;omega
def Tm.SB{l:List Tm}{t:Tm}(h:t∈l):∀m,t.fr<=Tm.FC m l:=by
 induction l with
 |nil=>cases h
 |cons u l a=>
  intro m;rw[Tm.FC];rcases jA.1 h with rfl|h
  ·have:=Tm.Lj l (imax m t.fr);rw[qV] at*;omega
  ·exact a h _
def Tm.QR{M:Int}{l:List Tm}(h:∀t∈l,t.fr<=M):∀m,m<=M->Tm.FC m l<=M:=by
 induction l with
 |nil=>intro m hm;exact hm|cons u l a=>
  intro m hm;rw[Tm.FC];refine a (λt b=>h t (by simp[b])) _ ?_;have:=h u th;rw[qV];omega
def Tm.QZ(t:Tm):∀{M:Int},0<=M->t.ok=true->t.acN M=true->0<=t.fr/\t.fr<=M+1:=by
 induction t using Tm.ind with
 |h k i s l d=>
  intro M e a b;rw[Tm.eo] at a;rw[Tm.dn] at b;simp only[ed,ie,mH,Tm.node] at a b;have f:Tm.FC 0 l<=M+1:=Tm.QR (λt c=>(d t c e (a.2 t c) (b.2 t c)).2) 0 cw;have g:=Tm.Lj l 0;rw[Tm.fr]
  split
  ·omega
  ·split
   ·rw[qV];omega
   ·omega
def map_id'{α:Type}{g:α->α}{l:List α}(h:∀x∈l,g x=x):l.map g=l:=by
 induction l with
 |nil=>rfl|cons x l a=>simp only[mL,h x th,a λy hy=>h y (by simp[hy])]
def Tm.jg{k i:Int}{s:Ty}{l:List Tm}(h:(Tm.mk k i s l).ok=true):(k=1->l=[])/\0<=i/\(k≠1->i=0)/\(∀t∈l,t.ok=true)/\(l.length:Int)=eF k:=by
 rw[Tm.eo] at h;simp only[ed,ie,mH,Tm.node,pE] at h;obtain⟨⟨⟨⟨a,b⟩,c⟩,f⟩,d⟩:=h;refine⟨?_,b,λe=>c.resolve_left e,d,a⟩;rintro rfl;have:(l.length:Int)=0:=a;exact yD cw
def Tm.H5{k i:Int}{s:Ty}{l:List Tm}(a:k≠1){f:Int}(h:(Tm.mk k i s l).fr<=f)(c:0<=f):∀x∈l,x.fr<=f+dD k:=by
 intro x b;have:=Tm.SB b 0;rw[Tm.fr,bV a] at h;unfold dD
 split at h
 ·rename_i a;rw[bX a];rw[qV] at h;omega
 ·rename_i a;rw[bV a];omega
def Tm.Sg(t:Tm):∀f b,t.ok=true->0<=f->t.fr<=f->t.up f b=t:=by
 induction t using Tm.ind with
 |h k i s l d=>
  intro f b e g h;obtain⟨o1,o2,m,j,_⟩:=Tm.jg e;rw[Tm.fx]
  by_cases a:k=1
  ·have:=o1 a;subst this;rw[Tm.fr,bX a] at h;rw[bV cw];rfl
  ·rw[bV (λh=>a h.1)]
   congr 1
   exact map_id' λx c=>d x c _ _ (j x c) (by have:=gi k;omega) (Tm.H5 a h g x c)
def Tm.q_(t:Tm):∀f,t.up f 0=t:=by
 induction t using Tm.ind with
 |h k i s l a=>
  intro f;rw[Tm.fx,map_id' λx b=>a x b _]
  congr 1
  split<;>omega
def Tm.Rg(s t:Tm):∀n,t.ok=true->0<=n->t.fr<=n->Tm.e_ n t s=t:=by
 induction t using Tm.ind with
 |h k i ty l c=>
  intro n d hn h;obtain⟨o1,o2,f,e,_⟩:=Tm.jg d;rw[Tm.fB]
  by_cases a:k=1
  ·rw[bX a];rw[Tm.fr,bX a] at h;unfold Tm.mW;rw[bV cw,bV cw]
  ·rw[bV a]
   congr 1
   exact map_id' λx b=>c x b _ (e x b) (by have:=gi k;omega) (Tm.H5 a h hn x b)
def OC{α:Type}{g:α->Nat}{l:List α}(h:∀x∈l,g x=0):cn g l=0:=by
 induction l with
 |nil=>rfl|cons x l a=>simp[cn,h x th,a λy hy=>h y (by simp[hy])]
def Tm.L_(t:Tm):∀n,t.ok=true->0<=n->t.fr<=n->t.acP n=0:=by
 induction t using Tm.ind with
 |h k i ty l c=>
  intro n d hn h;obtain⟨o1,o2,f,e,_⟩:=Tm.jg d;rw[Tm.ee]
  by_cases a:k=1
  ·have:=o1 a;subst this;rw[Tm.fr,bX a] at h;rw[bV cw];rfl
  ·rw[bV (λh=>a h.1)];simp only[sA];exact OC λx b=>c x b _ (e x b) (by have:=gi k;omega) (Tm.H5 a h hn x b)
def Tm.kd:Option Tm->Int
 |some t=>t.acH|none=>0
def Tm.root:Tm->Bool
 |.mk k _ _ l=>(decide (k=3)&&decide (Tm.kd l[0]?=2))||(decide (k=6)&&(decide (Tm.kd l[2]?=4)||decide (Tm.kd l[2]?=5)))||(decide (k=9)&&(decide (Tm.kd l[2]?=7)||decide (Tm.kd l[2]?=8)))||
  ((decide (k=11)||decide (k=12))&&decide (Tm.kd l[0]?=10))
mutual
def Tm.nf:Tm->Bool
 |.mk k i s l=>!(Tm.mk k i s l).root&&Tm.Z' l
def Tm.Z':List Tm->Bool
 |[]=>true|t::l=>t.nf&&Tm.Z' l
end
def Tm.VM(l:List Tm):Tm.Z' l=l.all Tm.nf:=by
 induction l with
 |nil=>rfl|cons t l a=>simp[Tm.Z',a]
def Tm.Jy(k i:Int)(s:Ty)(l:List Tm):(Tm.mk k i s l).nf=(!(Tm.mk k i s l).root&&l.all Tm.nf):=by rw[Tm.nf,Tm.VM]
def iK(f:Tm):List Tm->Tm
 |[]=>f|a::l=>iK (.mk 3 0 (.mk 0 []) [f,a]) l
def Tm.dg:Tm->Tm
 |.mk k i s l=>
  if k=3 then(match l with|[.mk _ _ _ [b],a]=>Tm.e_ 0 b a|_=>.mk k i s l)
  else if k=11 then(match l with|[.mk _ _ _ (a::_)]=>a|_=>.mk k i s l)
  else if k=12 then(match l with|[.mk _ _ _ [_,b]]=>b|_=>.mk k i s l)
  else(match l with
   |[b,st,.mk _ _ _ []]=>b|[b,st,.mk _ _ _ [n]]=>iK st [n,.mk k i s [b,st,n]]|[b,st,.mk _ _ _ [h,t]]=>iK st [h,t,.mk k i s [b,st,t]]|_=>.mk k i s l)
mutual
inductive NR (nh:List HC):Nat->Tm->Prop
 |mk {p:Nat} {x:dz} {l:List Tm}:HC.b_ nh p=some x->sa nh x.acI l->x.size=((Tm.mk x.acH x.acK x.xX l).acJ:Int)->x.free=(Tm.mk x.acH x.acK x.xX l).fr->(x.normal=true->(Tm.mk x.acH x.acK x.xX l).nf=true)->NR nh p (.mk x.acH x.acK x.xX l)
inductive sa (nh:List HC):List (Option Nat)->List Tm->Prop
 |nil:sa nh [] []|cons {p:Nat} {t:Tm} {ps:List (Option Nat)} {ts:List Tm}:NR nh p t->sa nh ps ts->sa nh (some p::ps) (t::ts)
end
def NR.inv{nh:List HC}{p:Nat}{t:Tm}(h:NR nh p t):∃x,HC.b_ nh p=some x/\x.acH=t.acH/\x.acK=t.acK/\x.xX=t.b7/\sa nh x.acI t.acI/\x.size=(t.acJ:Int)/\x.free=t.fr/\(x.normal=true->t.nf=true):=by
 cases h with
 |mk a b c d e=>exact⟨_,a,rfl,rfl,rfl,b,c,d,e⟩
def NR.of{nh:List HC}{p:Nat}{t:Tm}{x:dz}(e:HC.b_ nh p=some x)(a:x.acH=t.acH)(b:x.acK=t.acK)(c:x.xX=t.b7)(d:sa nh x.acI t.acI)(f:x.size=(t.acJ:Int))(g:x.free=t.fr)
  (h:x.normal=true->t.nf=true):NR nh p t:=by
 cases t with
 |mk k i s l=>
  simp only[Tm.cx,Tm.dK,Tm.cT,Tm.ck] at a b c d;subst a;subst b;subst c;exact .mk e d f g h
def sa.len{nh:List HC}:∀{ps:List (Option Nat)} {ts:List Tm},sa nh ps ts->ps.length=ts.length
 |_,_,.nil=>rfl|_,_,.cons _ h=>by simp[h.len]
def sa.append{nh:List HC}:∀{ps a:List (Option Nat)} {ts us:List Tm},sa nh ps ts->sa nh a us->sa nh (ps++a) (ts++us)
 |_,_,_,_,.nil,h=>h|_,_,_,_,.cons b c,h=>.cons b (c.append h)
structure NE (nh nh':List HC):Prop where
 node:∀p t,NR nh p t->NR nh' p t
 state:∀p st,HC.c7 nh p=some st->HC.c7 nh' p=some st
 get:∀p x,HC.b_ nh p=some x->∃b,HC.b_ nh' p=some {x with normal:=b}
def NE.refl(nh:List HC):NE nh nh:=⟨λ_ _ h=>h,λ_ _ h=>h,λ_ x h=>⟨x.normal,h⟩⟩
def NE.trans{a b c:List HC}(d:NE a b)(e:NE b c):NE a c:=⟨λp t h=>e.node p t (d.node p t h),λp st h=>e.state p st (d.state p st h),λp x h=>by
 obtain⟨j,f⟩:=d.get p x h;obtain⟨g,i⟩:=e.get p _ f
 exact⟨g,i⟩⟩
def NE.list{nh a:List HC}(h:NE nh a):∀{ps:List (Option Nat)} {ts:List Tm},sa nh ps ts->sa a ps ts
 |_,_,.nil=>.nil|_,_,.cons b c=>.cons (h.node _ _ b) (h.list c)
def fh{nh X:List HC}{p:Nat}{x:dz}(h:HC.b_ nh p=some x):HC.b_ (nh++X) p=some x:=by
 have:=HC.kP h;have a:=(jL.1 this).1;unfold HC.b_;rw[ni a,this]
def F8{nh X:List HC}{p:Nat}{x:fR}(h:HC.c7 nh p=some x):HC.c7 (nh++X) p=some x:=by
 have:=HC.jZ h;have a:=(jL.1 this).1;unfold HC.c7;rw[ni a,this]
mutual
def NR.app{nh X:List HC}:∀{p:Nat} {t:Tm},NR nh p t->NR (nh++X) p t
 |_,_,.mk a b c d e=>.mk (fh a) b.app c d e
def sa.app{nh X:List HC}:∀{ps:List (Option Nat)} {ts:List Tm},sa nh ps ts->sa (nh++X) ps ts
 |_,_,.nil=>.nil|_,_,.cons a b=>.cons a.app b.app
end
def NE.kp{nh a:List HC}(h:Kp nh a):NE nh a:=by
 obtain⟨X,rfl⟩:=h;exact⟨λ_ _ h=>h.app,λ_ _ h=>F8 h,λp x h=>⟨x.normal,fh h⟩⟩
def El{a0 a1:Int}{a2:Ty}{a3:List (Option Nat)}{nh:List HC}{F:Int->Option Nat->List HC->Option (dJ (List HC) ((Option Nat)×List HC))}
  (hF:∀j q v x y,HC.b_ v nh.length=some x->HC.b_ v q=some y->HC.b_ (mB v nh.length (HC.dH (dz.mk x.acH x.acK x.xX x.acI (da .i64 x.size y.size) x.free x.normal))) q=some y->F j (some q) v=some (.next (mB (mB v nh.length (HC.dH (dz.mk x.acH x.acK x.xX x.acI (da .i64 x.size y.size) x.free x.normal))) nh.length (HC.dH (dz.mk x.acH x.acK x.xX x.acI (da .i64 x.size y.size) (imax x.free y.free) x.normal))))):∀(ps:List (Option Nat)) (ts:List Tm) (i:Nat) (s:Nat) (f:Int),sa nh ps ts->s+cn Tm.acJ ts<=1000000000->cY F ps i (nh++[HC.dH (dz.mk a0 a1 a2 a3 s f false)])=some (.inl (nh++[HC.dH (dz.mk a0 a1 a2 a3 ((s+cn Tm.acJ ts:Nat):Int) (Tm.FC f ts) false)]))
 |_,_,i,s,f,.nil,_=>by simp[cn,Tm.FC]|_,_,i,s,f,.cons (p:=p) (t:=t) c d,e=>by
  rw[cn] at e;obtain⟨y,b,l,m,n,o,g,h,r⟩:=c.inv;have k:p<nh.length:=(jL.1 (HC.kP b)).1
  have a:da .i64 (s:Int) (t.acJ:Int)=((s+t.acJ:Nat):Int):=by rw[cX cw cw];omega
  rw[cM,hF _ p _ _ y AF (fh b) (by rw[u_];exact fh b)];simp only[u_,bT,cS,g,h,a];rw[El hF _ _ (i+1) (s+t.acJ) (imax f t.fr) d cw];simp only[cn,Tm.FC,GC]
def pP{k i:Int}{s:Ty}{ps:List (Option Nat)}{ts:List Tm}{nh:List HC}(h:sa nh ps ts)(hn:cn Tm.acJ ts<=100000000)(hi:0<=i/\i<=1000000000000)(p:∀t∈ts,0<=t.fr/\t.fr<=1000000000000):∃e,jw k i s ps nh=some (some nh.length,e)/\Kp nh e/\NR e nh.length (.mk k i s ts):=by
 have hlen:ps.length<=100000000:=by
  rw[h.len];exact Bw (Tm.dm ts) hn
 have w:0<=Tm.FC 0 ts/\Tm.FC 0 ts<=1000000000000:=⟨Tm.Lj ts 0,Tm.QR (λt z=>(p t z).2) 0 cw⟩;unfold jw;rw[ch cw];simp only[b6,cc]
 have r:=El (a0:=k) (a1:=i) (a2:=s) (a3:=ps) (nh:=nh) (F:=λu l b=>
   bU (HC.b_ b (List.length nh)) λa=>
   bU (l) λd=>
   bU (HC.b_ b d) λc=>
   bU (HC.b_ (mB b (List.length nh) (HC.dH (dz.mk a.acH a.acK a.xX a.acI (da .i64 a.size c.size) a.free a.normal))) d) λm=>
   some (.next (mB (mB b (List.length nh) (HC.dH (dz.mk a.acH a.acK a.xX a.acI (da .i64 a.size c.size) a.free a.normal))) (List.length nh) (HC.dH (dz.mk a.acH a.acK a.xX a.acI (da .i64 a.size c.size) (imax a.free m.free) a.normal)))))
  (by intro j q v x y n o A;simp only[n,o,A,bT]) ps ts 0 1 0 h cw
 have B:((1:Nat):Int)=1:=rfl;rw[B] at r;rw[r];simp only[bT,b9,AF,u_]
 have g:((1+cn Tm.acJ ts:Nat):Int)=((Tm.mk k i s ts).acJ:Int):=by rw[Tm.bY]
 have fin:∀f:Int,f=(Tm.mk k i s ts).fr->NR (nh++[HC.dH (dz.mk k i s ps ((1+cn Tm.acJ ts:Nat):Int) f false)]) nh.length (.mk k i s ts):=by
  intro f p;exact NR.of AF rfl rfl rfl h.app g p (by intro h;cases h)
 by_cases n:k=1
 ·subst n;refine⟨_,by rw[bX gw],⟨_,rfl⟩,fin _ ?_⟩;rw[Tm.fr,bX rfl,cX cw cw]
 ·rw[bV (by simpa using n)]
  by_cases o:k=2
  ·subst o;refine⟨_,by rw[bX gw],⟨_,rfl⟩,fin _ ?_⟩;rw[Tm.fr,bV gw,bX rfl,dh cw cw]
  ·refine⟨_,by rw[bV (by simpa using o)],⟨_,rfl⟩,fin _ ?_⟩;rw[Tm.fr,bV n,bV o]
def Pq{nh:List HC}{p:Nat}{x:dz}(h:HC.b_ nh p=some x):h_ (some p) nh=some (dD x.acH):=by
 unfold h_ dD;simp only[bT,h,dX]
 split<;>rfl
def NE.below{nh a:List HC}{p:Nat}{x:dz}(he:NE nh a)(h:HC.b_ nh p=some x):h_ (some p) a=some (dD x.acH):=by
 obtain⟨b,e⟩:=he.get p x h;rw[Pq e]
def zg{F:Int->Option Nat->List (Option Nat)×List HC->Option (dJ (List (Option Nat)×List HC) ((Option Nat)×List HC))}(g:Tm->Tm)(nh0:List HC):∀(ts:List Tm)
  (_:∀t∈ts,∀p nh j v,Kp nh0 nh->NR nh p t->v.length+1<=1000000000->∃q a,F j (some p) (v,nh)=some (.next (v++[some q],a))/\Kp nh a/\NR a q (g t))
  (ps:List (Option Nat)) (i:Nat) (nh:List HC) (v:List (Option Nat)) (us:List Tm),Kp nh0 nh->sa nh ps ts->sa nh v us->v.length+ts.length<=1000000000->∃c a,cY F ps i (v,nh)=some (.inl (c,a))/\Kp nh a/\sa a c (us++ts.map g)
 |[],_,_,i,nh,v,us,_,.nil,d,_=>⟨v,nh,rfl,Kp.refl _,by simpa using d⟩|t::ts,hF,_,i,nh,v,us,h,.cons (p:=p) (ps:=ps) k l,d,m=>by
  simp only[jK] at m;obtain⟨q,e,n,f,o⟩:=hF t th p nh i v h k cw;have b:=NE.kp f;obtain⟨c,a,f1,f2,f3⟩:=zg g nh0 ts (λt r=>hF t (by simp[r])) ps (i+1) e (v++[some q]) (us++[g t]) (h.trans f) (b.list l) ((b.list d).append (.cons o .nil)) aae;refine⟨c,a,?_,f.trans f2,by simpa using f3⟩;rw[cM,n];simp only[bT,cS];exact f1
structure Sm (M:Int) (t:Tm):Prop where
 ok:t.ok=true
 acN:t.acN M=true
 acJ:t.acJ<=1000000
def Sm.arg{M k i:Int}{s:Ty}{l:List Tm}(h:Sm M (.mk k i s l)):∀t∈l,Sm M t:=by
 intro t a;have b:=h.acN;have c:=h.acJ;rw[Tm.dn] at b;simp only[ed,ie] at b;rw[Tm.bY] at c;exact⟨(Tm.jg h.ok).2.2.2.1 t a,b.2 t a,by have:=cy Tm.acJ a;omega⟩
def Sm.idx{M k i:Int}{s:Ty}{l:List Tm}(h:Sm M (.mk k i s l)):0<=i/\i<=M:=by
 have a:=h.acN;rw[Tm.dn] at a;simp only[ed,mH] at a;exact⟨(Tm.jg h.ok).2.1,a.1⟩
theorem Sm.fr{M:Int}{t:Tm}(h:Sm M t)(a:0<=M):0<=t.fr/\t.fr<=M+1:=Tm.QZ t a h.ok h.acN
def Sm.mono{M N:Int}{t:Tm}(h:Sm M t)(hm:M<=N):Sm N t:=⟨h.ok,by
 have:∀t:Tm,t.acN M=true->t.acN N=true:=by
  intro t
  induction t using Tm.ind with
  |h k i s l b=>
   rw[Tm.dn,Tm.dn];simp only[ed,ie,mH]
   exactλ⟨d,c⟩=>⟨cw,λx a=>b x a (c x a)⟩
 exact this t h.acN,h.acJ⟩
def xc{M b:Int}(d:0<=b)(t:Tm):∀f,t.acN M=true->(t.up f b).acN (M+b)=true:=by
 induction t using Tm.ind with
 |h k i s l a=>
  intro f h;rw[Tm.dn] at h;simp only[ed,ie,mH] at h;rw[Tm.fx,Tm.dn];simp only[ed,ie,mH];refine⟨by split<;>omega,?_⟩;intro x c;obtain⟨y,hy,rfl⟩:=kI.1 c;exact a y hy _ (h.2 y hy)
def Sm.up{M f b:Int}{t:Tm}(h:Sm M t)(c:0<=f)(a:0<=b):Sm (M+b) (t.up f b):=
 ⟨by rw[Tm.EZ t f b c a];exact h.ok,xc a t f h.acN,by rw[Tm.nN];exact h.acJ⟩
def SI{M:Int}(U:0<=M/\M<=500000000000):∀(n:Nat) (t:Tm) (p:Nat) (nh:List HC) (f b:Int),t.acJ<=n->NR nh p t->Sm M t->0<=f->f+t.acJ<=500000000000->0<=b->b<=400000000000->∃Q a,mA n (some p) f b nh=some (some Q,a)/\Kp nh a/\NR a Q (t.up f b):=by
 intro n
 induction n with
 |zero=>intro t p nh f b h;have:=t.cu;omega
 |succ n V=>
  intro t p nh f b hn w hs W z R A;obtain⟨x,B,m,C,D,E,e6,X,e8⟩:=w.inv;have Y:=hs.fr U.1;rw[mA];simp only[cc,bT,B,X,Am]
  by_cases r:t.fr<=f
  ·rw[bX r];exact⟨p,nh,rfl,Kp.refl _,by rw[Tm.Sg t f b hs.ok W r];exact w⟩
  ·rw[bV r]
   by_cases S:b=0
   ·subst S;exact⟨p,nh,th,Kp.refl _,by rw[Tm.q_];exact w⟩
   ·rw[bV (by simpa using S)];cases t with
    |mk k i s l=>
     simp only[Tm.cx,Tm.dK,Tm.cT,Tm.ck] at m C D E;have T:=hs.idx;obtain⟨o1,o2,o3,o4,o5⟩:=Tm.jg hs.ok
     by_cases G:k=1
     ·subst G;have Z:=o1 rfl;subst Z;rw[bX (by rw[m];rfl)]
      have H:f<=i:=by rw[Tm.fr,bX rfl] at r;omega
      obtain⟨a,g1,g2,g3⟩:=pP (k:=1) (i:=i+b) (s:=s) (ps:=[]) (ts:=[]) (nh:=nh) .nil (by simp[cn]) cw th;refine⟨nh.length,a,?_,g2,?_⟩
      ·rw[m,C,D,cX cw cw,g1];rfl
      ·rw[Tm.fx,bX ⟨rfl,H⟩];exact g3
     ·rw[bV (by rw[m];simpa using G)]
      have aa:1+cn Tm.acJ l<=n+1:=by rw[Tm.bY] at hn;exact hn
      have hlen:=Tm.dm l;have I:=hs.acJ;rw[Tm.bY] at I z;have ab:x.acI.length=l.length:=E.len;rw[ch cw];simp only[b6];have ad:=gi k
      obtain⟨v',a,g1,g2,g3⟩:=zg (F:=λj J=>rD λc d=>
        bU (h_ (some p) d) λo=>
        b8 (mA n J (da .i64 f o) b d) λe g=>
        ef (dP c [e])<|some (.next ((dN c [e]),g))) (Tm.up (f+dD k) b) nh l (by
        intro t u q K j v L hq hv;have N:=hs.arg t u;have hm:=cy Tm.acJ u;obtain⟨q',O,a1,a2,a3⟩:=V t q K (f+dD k) b cw hq N cw cw R A;refine⟨q',O,?_,a2,a3⟩;simp only[qN,(NE.kp L).below B,bT,m];rw[cX cw cw,a1];simp only[bW];rw[dc (by simpa using hv)]
        rfl) x.acI 0 nh [] [] (Kp.refl _) E .nil aae
      rw[g1];simp only[bT,b9,qN];obtain⟨x2,c1⟩:=(NE.kp g2).get p x B;unfold fq;simp only[bT,c1]
      obtain⟨P,d1,d2,d3⟩:=pP (k:=k) (i:=i) (s:=s) (ps:=v') (ts:=l.map (Tm.up (f+dD k) b)) (nh:=a) (by simpa using g3) (by
       rw[ru,vY λx _=>Tm.nN x _ _];omega) cw (by
       intro t u;obtain⟨y,hy,rfl⟩:=kI.1 u;have:=((hs.arg y hy).up (f:=f+dD k) (b:=b) cw R).fr cw
       omega)
      refine⟨a.length,P,?_,g2.trans d2,?_⟩
      ·rw[m,C,D,d1];rfl
      ·rw[Tm.fx,bV (λh=>G h.1)];exact d3
def count_eq{M:Int}(P:0<=M/\M<=500000000000)(nh:List HC):∀(n:Nat) (t:Tm) (p:Nat) (a:Int),t.acJ<=n->NR nh p t->Sm M t->0<=a->a+t.acJ<=500000000000->lK n (some p) a nh=some (t.acP a:Int):=by
 intro n
 induction n with
 |zero=>intro t p a h;have:=t.cu;omega
 |succ n C=>
  intro t p a hn D hs E o;obtain⟨x,z,j,A,F,q,Q,G,R⟩:=D.inv;rw[lK];simp only[bT,z,G,Am]
  by_cases r:t.fr<=a
  ·rw[bX r,Tm.L_ t a hs.ok E r];rfl
  ·rw[bV r];cases t with
   |mk k i s l=>
    simp only[Tm.cx,Tm.dK,Tm.cT,Tm.ck] at j A F q;obtain⟨o1,o2,S,T,U⟩:=Tm.jg hs.ok
    by_cases v:k=1
    ·subst v;have H:=o1 rfl;subst H;rw[bX (by rw[j];rfl),Tm.ee,A];simp only[dX,cn]
     by_cases m:i=a
     ·rw[bX m,bX ⟨trivial,m⟩];rfl
     ·rw[bV m,bV (λh=>m h.2)];rfl
    ·rw[bV (by rw[j];simpa using v)];have w:=hs.acJ;rw[Tm.bY] at w o hn;have hlen:=Tm.dm l;have I:x.acI.length=l.length:=q.len;rw[ch cw];simp only[b6,cc];have J:=gi k
     have loop:∀(ts:List Tm) (ps:List (Option Nat)) (i c:Nat),(∀t∈ts,t∈l)->sa nh ps ts->c+cn Tm.acJ ts<=1000000000->cY (λ(B:Int) (b:Option Nat)=>(λ(d:Int)=>
        bU (lK n b (a+dD k) nh) λe=>
        some ((.next (da .i64 d e)):dJ Int Int))) ps i (c:Int)=some (.inl ((c+cn (Tm.acP (a+dD k)) ts:Nat):Int)):=by
      intro ts
      induction ts with
      |nil=>intro ps i c _ h _;cases h;rfl
      |cons t ts y=>
       intro ps i c hm h K;cases h with
       |cons q1 L=>
        rw[cn] at K;have f:=hm t th;have N:=cy Tm.acJ f;have O:=Tm.fZ t (a+dD k);rw[cM];rw[C t _ _ cw q1 (hs.arg t f) cw cw];simp only[bT];rw[cX cw cw];simp only[cS];have:=y _ (i+1) (c+t.acP (a+dD k)) (λu hu=>hm u (by simp[hu])) L cw;rw[show((c+t.acP (a+dD k):Nat):Int)=(c:Int)+(t.acP (a+dD k):Int) by omega] at this;rw[this];simp only[cn,GC]
     have:=loop l x.acI 0 0 (λt h=>h) q cw;rw[show((0:Nat):Int)=0 from rfl] at this;have g:da .i64 a (dD k)=a+dD k:=cX cw cw;simp only[Pq z,bT,j,g];rw[this];simp only[bT,b9,sA];rw[Tm.ee,bV (λh=>v h.1),sA]
def Ha{M N B:Int}(w:M<=B)(s:Tm)(hs:s.acN N=true)(t:Tm):∀n,0<=n->N+n+t.acJ<=B->t.acN M=true->t.ok=true->(Tm.e_ n t s).acN B=true:=by
 induction t using Tm.ind with
 |h k i ty l f=>
  intro n hn g d p;have j:=d;rw[Tm.dn] at d;simp only[ed,ie,mH] at d;obtain⟨o1,o2,z,q,A⟩:=Tm.jg p;rw[Tm.fB]
  have c:∀(u:Tm) {a b:Int},a<=b->u.acN a=true->u.acN b=true:=by
   intro u
   induction u using Tm.ind with
   |h k i s l f=>
    intro a b m;rw[Tm.dn,Tm.dn];simp only[ed,ie,mH]
    exactλ⟨C,r⟩=>⟨cw,λx e=>f x e m (r x e)⟩
  have D:1<=(Tm.mk k i ty l).acJ:=Tm.cu _
  by_cases o:k=1
  ·rw[bX o];unfold Tm.mW
   split
   ·exact c _ cw (xc hn s 0 hs)
   ·split
    ·rw[Tm.dn];simp;omega
    ·exact c _ cw j
  ·rw[bV o,Tm.dn];simp only[ed,ie,mH];refine⟨cw,?_⟩;intro x e;obtain⟨y,hy,rfl⟩:=kI.1 e;have v:=gi k;have hm:=cy Tm.acJ hy;rw[Tm.bY] at g;exact f y hy (n+dD k) cw cw (d.2 y hy) (q y hy)
def put_eq{M N:Int}(hM:0<=M/\M<=100000000000)(hN:0<=N/\N<=100000000000)(s:Tm)(d:Sm N s):∀(n:Nat) (t:Tm) (p q:Nat) (nh:List HC) (a:Int),t.acJ<=n->NR nh p t->NR nh q s->Sm M t->0<=a->a+t.acJ<=100000000000->t.acJ+t.acP a*s.acJ<=100000000->∃E b,ns n (some p) a (some q) nh=some (some E,b)/\Kp nh b/\NR b E (Tm.e_ a t s):=by
 intro n
 induction n with
 |zero=>intro t p q nh a h;have:=t.cu;omega
 |succ n H=>
  intro t p q nh a hn X Y hs Z I z;obtain⟨x,J,w,K,L,O,e6,e7,e8⟩:=X.inv;rw[ns];simp only[bT,J,e7,Am]
  by_cases o:t.fr<=a
  ·rw[bX o];exact⟨p,nh,rfl,Kp.refl _,by rw[Tm.Rg s t a hs.ok Z o];exact X⟩
  ·rw[bV o];cases t with
   |mk k i ty l=>
    simp only[Tm.cx,Tm.dK,Tm.cT,Tm.ck] at w K L O;have aa:=hs.idx;obtain⟨o1,o2,o3,P,o5⟩:=Tm.jg hs.ok
    by_cases G:k=1
    ·subst G;have hl:=o1 rfl;subst hl
     have ab:a<=i:=by rw[Tm.fr,bX rfl] at o;omega
     rw[bX (by rw[w];rfl),K];simp only[dX];rw[Tm.fB,bX rfl];unfold Tm.mW
     by_cases e:i=a
     ·rw[bX e,bX e];have A:=d.acJ;obtain⟨E,b,g1,g2,g3⟩:=SI (M:=N) cw FU s q nh 0 a (by rw[cV];omega) Y d cw cw Z cw;exact⟨E,b,by rw[g1];rfl,g2,g3⟩
     ·rw[bV e,bV e,bX cw];obtain⟨b,g1,g2,g3⟩:=pP (k:=1) (i:=i-1) (s:=ty) (ps:=[]) (ts:=[]) (nh:=nh) .nil (by simp[cn]) cw th;refine⟨nh.length,b,?_,g2,?_⟩
      ·rw[w,L,dh cw cw,g1];rfl
      ·have hz:ty=.mk 0 []:=by
        have:=hs.ok;rw[Tm.eo] at this;simp only[ed,Tm.node] at this
        have h4:ty.oG=true:=by simpa[hU] using this.1.2
        exact(Ty.iI ty).1 h4
       rw[<-hz];exact g3
    ·rw[bV (by rw[w];simpa using G)];have A:=hs.acJ;rw[Tm.bY] at A I hn;have hlen:=Tm.dm l;have ad:x.acI.length=l.length:=O.len;rw[ch cw];simp only[b6,cc];have ae:=gi k;rw[Tm.ee,bV (λh=>G h.1),sA,Tm.bY] at z
     have Q:∀t∈l,t.acJ+t.acP (a+dD k)*s.acJ<=100000000:=by
      intro t c;have o:=cy Tm.acJ c;have e:=cy (Tm.acP (a+dD k)) c;have h3:=Ak s.acJ e;omega
     obtain⟨v',b,g1,g2,g3⟩:=zg (F:=λj R=>rD λf g=>
       bU (h_ (some p) g) λB=>
       b8 (ns n R (da .i64 a B) (some q) g) λm u=>
       ef (dP f [m])<|some (.next ((dN f [m]),u))) (λt=>Tm.e_ (a+dD k) t s) nh l (by
       intro t c r S j v C T hv;have U:=hs.arg t c;have hm:=cy Tm.acJ c;obtain⟨q',V,a1,a2,a3⟩:=H t r q S (a+dD k) cw T ((NE.kp C).node _ _ Y) U cw cw (Q t c);refine⟨q',V,?_,a2,a3⟩;simp only[qN,(NE.kp C).below J,bT,w];rw[cX cw cw,a1];simp only[bW];rw[dc (by simpa using hv)]
       rfl) x.acI 0 nh [] [] (Kp.refl _) O .nil aae
     rw[g1];simp only[bT,b9,qN];obtain⟨x2,c1⟩:=(NE.kp g2).get p x J;unfold fq;simp only[bT,c1]
     have D:∀t∈l,(Tm.e_ (a+dD k) t s).acJ<=t.acJ+t.acP (a+dD k)*s.acJ:=by
      intro t c;have:=Tm.pB s t (a+dD k) (P t c);omega
     obtain⟨W,d1,d2,d3⟩:=pP (k:=k) (i:=i) (s:=ty) (ps:=v') (ts:=l.map (λt=>Tm.e_ (a+dD k) t s)) (nh:=b) (by simpa using g3) (by
      rw[ru];have o:=iu D
      have e:∀l:List Tm,cn (λt=>t.acJ+t.acP (a+dD k)*s.acJ) l=cn Tm.acJ l+cn (Tm.acP (a+dD k)) l*s.acJ:=by
       intro l
       induction l with
       |nil=>simp[cn]|cons t l H=>simp only[cn,H,vF];omega
      rw[e] at o
      omega) cw (by
      intro t c;obtain⟨y,hy,rfl⟩:=kI.1 c;have hm:=cy Tm.acJ hy;have:=Tm.QZ (Tm.e_ (a+dD k) y s) (M:=M+N+(a+dD k)+y.acJ) cw (Tm.KZ s d.ok y _ cw (P y hy)) (Ha (M:=M) cw s d.acN y _ cw cw (hs.arg y hy).acN (P y hy))
      omega)
     refine⟨b.length,W,?_,g2.trans d2,?_⟩
     ·rw[w,K,L,d1];rfl
     ·rw[Tm.fB,bV G];exact d3
def r6(a b:Int):cr a b=decide (a=b):=by grind[cr]
def WB{α:Type}{l:List α}(h:l.length=1):∃a,l=[a]:=by
 match l,h with|[a],_=>exact⟨a,rfl⟩
def WU{α:Type}{l:List α}(h:l.length=2):∃a b,l=[a,b]:=by
 match l,h with|[a,b],_=>exact⟨a,b,rfl⟩
def Z2{α:Type}{l:List α}(h:l.length=3):∃a b c,l=[a,b,c]:=by
 match l,h with|[a,b,c],_=>exact⟨a,b,c,rfl⟩
def sa.inv1{nh:List HC}{ps:List (Option Nat)}{a:Tm}(h:sa nh ps [a]):∃p,ps=[some p]/\NR nh p a:=by
 cases h with|cons b c=>cases c;exact⟨_,rfl,b⟩
def sa.inv2{nh:List HC}{ps:List (Option Nat)}{a b:Tm}(h:sa nh ps [a,b]):∃p q,ps=[some p,some q]/\NR nh p a/\NR nh q b:=by
 cases h with|cons c d=>obtain⟨q,rfl,e⟩:=d.inv1;exact⟨_,q,rfl,c,e⟩
def sa.J9{nh:List HC}{ps:List (Option Nat)}{a b c:Tm}(h:sa nh ps [a,b,c]):∃p q r,ps=[some p,some q,some r]/\NR nh p a/\NR nh q b/\NR nh r c:=by
 cases h with|cons d e=>obtain⟨q,r,rfl,f,g⟩:=e.inv2;exact⟨_,q,r,rfl,d,f,g⟩
def sa.SY{nh:List HC}{ps:List (Option Nat)}(h:sa nh ps []):ps=[]:=by cases h;rfl
def Tm.qd{k i:Int}{s:Ty}{l:List Tm}(h:(Tm.mk k i s l).ok=true):(l.length:Int)=eF k:=(Tm.jg h).2.2.2.2
def Tm.ok3{i:Int}{s:Ty}{l:List Tm}(h:(Tm.mk 3 i s l).ok=true):∃a b,l=[a,b]:=WU (by have:=Tm.qd h;have e:eF 3=2:=rfl;omega)
def Tm.ok6{i:Int}{s:Ty}{l:List Tm}(h:(Tm.mk 6 i s l).ok=true):∃a b c,l=[a,b,c]:=Z2 (by have:=Tm.qd h;have e:eF 6=3:=rfl;omega)
def Tm.ok9{i:Int}{s:Ty}{l:List Tm}(h:(Tm.mk 9 i s l).ok=true):∃a b c,l=[a,b,c]:=Z2 (by have:=Tm.qd h;have e:eF 9=3:=rfl;omega)
def Tm.ok2{i:Int}{s:Ty}{l:List Tm}(h:(Tm.mk 2 i s l).ok=true):∃a,l=[a]:=WB (by have:=Tm.qd h;have e:eF 2=1:=rfl;omega)
def Tm.VX{k i:Int}{s:Ty}{l:List Tm}(b:k=11\/k=12)(h:(Tm.mk k i s l).ok=true):∃a,l=[a]:=WB (by
 have:=Tm.qd h;rcases b with rfl|rfl
 ·have e:eF 11=1:=rfl;omega
 ·have e:eF 12=1:=rfl;omega)
def Tm.Yp{i:Int}{s:Ty}{l:List Tm}(h:(Tm.mk 10 i s l).ok=true):∃a b,l=[a,b]:=WU (by have:=Tm.qd h;have e:eF 10=2:=rfl;omega)
def Tm.ok0{k i:Int}{s:Ty}{l:List Tm}(a:k=4\/k=7)(h:(Tm.mk k i s l).ok=true):l=[]:=yD (by
 have:=Tm.qd h;rcases a with rfl|rfl
 ·have e:eF 4=0:=rfl;omega
 ·have e:eF 7=0:=rfl;omega)
def Tm.ok5{i:Int}{s:Ty}{l:List Tm}(h:(Tm.mk 5 i s l).ok=true):∃a,l=[a]:=WB (by have:=Tm.qd h;have e:eF 5=1:=rfl;omega)
def Tm.ok8{i:Int}{s:Ty}{l:List Tm}(h:(Tm.mk 8 i s l).ok=true):∃a b,l=[a,b]:=WU (by have:=Tm.qd h;have e:eF 8=2:=rfl;omega)
theorem Tm.cI{k i:Int}{s:Ty}{l:List Tm}(h:(Tm.mk k i s l).ok=true):∀t∈l,t.ok=true:=(Tm.jg h).2.2.2.1
inductive Tm.Rd:Tm->Prop
 |app {i s i' s' b a}:Tm.Rd (.mk 3 i s [.mk 2 i' s' [b],a])|zero {k ko i s i' s' b st}:(k=6/\ko=4\/k=9/\ko=7)->Tm.Rd (.mk k i s [b,st,.mk ko i' s' []])|succ {i s i' s' b st n}:Tm.Rd (.mk 6 i s [b,st,.mk 5 i' s' [n]])|cons {i s i' s' b st h t}:Tm.Rd (.mk 9 i s [b,st,.mk 8 i' s' [h,t]])|proj {k i s i' s' a b}:(k=11\/k=12)->Tm.Rd (.mk k i s [.mk 10 i' s' [a,b]])
def Tm.E9{t:Tm}(d:t.ok=true)(h:t.root=true):t.Rd:=by
 cases t with
 |mk k i s l=>
  unfold Tm.root at h;simp only[pE,ed,mH] at h;rcases h with((⟨rfl,h⟩|⟨rfl,h⟩)|⟨rfl,h⟩)|⟨e,h⟩
  ·obtain⟨a,b,rfl⟩:=Tm.ok3 d;cases a with
   |mk k' f g j=>
    have e:k'=2:=by simpa[Tm.kd] using h
    subst e;obtain⟨q,rfl⟩:=Tm.ok2 (Tm.cI d (.mk 2 f g j) th);exact .app
  ·obtain⟨a,b,c,rfl⟩:=Tm.ok6 d;cases c with
   |mk k' f g j=>
    have e:k'=4\/k'=5:=by simpa[Tm.kd] using h
    have o:=Tm.cI d (.mk k' f g j) th;rcases e with rfl|rfl
    ·rw[Tm.ok0 (.inl rfl) o];exact .zero (.inl ⟨rfl,rfl⟩)
    ·obtain⟨n,rfl⟩:=Tm.ok5 o;exact .succ
  ·obtain⟨a,b,c,rfl⟩:=Tm.ok9 d;cases c with
   |mk k' f g j=>
    have e:k'=7\/k'=8:=by simpa[Tm.kd] using h
    have o:=Tm.cI d (.mk k' f g j) th;rcases e with rfl|rfl
    ·rw[Tm.ok0 (.inr rfl) o];exact .zero (.inr ⟨rfl,rfl⟩)
    ·obtain⟨n,m,rfl⟩:=Tm.ok8 o;exact .cons
  ·obtain⟨a,rfl⟩:=Tm.VX e d;cases a with
   |mk k' f g j=>
    have p:k'=10:=by simpa[Tm.kd] using h
    subst p;obtain⟨a,b,rfl⟩:=Tm.Yp (Tm.cI d (.mk 10 f g j) th);exact .proj e
def I2{nh:List HC}{p:Nat}{t:Tm}(v:NR nh p t)(j:t.ok=true):n9 (some p) nh=some t.root:=by
 obtain⟨x,w,n,A,B,f,C,D,E⟩:=v.inv;unfold n9;simp only[bT,w,cc];cases t with
 |mk k i s l=>
  simp only[Tm.cx,Tm.ck] at n f;rw[n];unfold Tm.root
  by_cases o:k=3
  ·subst o;obtain⟨a,b,rfl⟩:=Tm.ok3 j;obtain⟨pa,pb,d,g,q⟩:=f.inv2;obtain⟨y,f1,f2,_⟩:=g.inv;rw[bX gw,d];simp[cD,f1,f2,Tm.kd,r6]
  ·rw[bV (by simpa using o)]
   by_cases r:k=6
   ·subst r;obtain⟨a,b,c,rfl⟩:=Tm.ok6 j;obtain⟨pa,pb,z,d,g,q,m⟩:=f.J9;obtain⟨y,f1,f2,_⟩:=m.inv;rw[bX gw,d];simp only[gz,kx,fM,bT,f1,f2,Tm.kd,dX]
    by_cases h:c.acH=4
    ·simp[h]
    ·simp[h,r6]<;>exact MG.2 Iff.rfl
   ·rw[bV (by simpa using r)]
    by_cases u:k=9
    ·subst u;obtain⟨a,b,c,rfl⟩:=Tm.ok9 j;obtain⟨pa,pb,z,d,g,q,m⟩:=f.J9;obtain⟨y,f1,f2,_⟩:=m.inv;rw[bX gw,d];simp only[gz,kx,fM,bT,f1,f2,Tm.kd,dX]
     by_cases h:c.acH=7
     ·simp[h]
     ·simp[h,r6]<;>exact MG.2 Iff.rfl
    ·rw[bV (by simpa using u)]
     by_cases e:k=11\/k=12
     ·obtain⟨a,rfl⟩:=Tm.VX e j;obtain⟨pa,d,g⟩:=f.inv1;obtain⟨y,f1,f2,_⟩:=g.inv;rw[bX (by rcases e with rfl|rfl<;>rfl),d];simp only[cD,fM,bT,f1,f2,Tm.kd];rcases e with rfl|rfl<;>simp[r6]<;>exact MG.2 Iff.rfl
     ·grind[jY,dX]
theorem mc:∀(l:List Tm) (f:Tm),(iK f l).acJ=f.acJ+cn Tm.acJ l+l.length
 |[],f=>by simp[iK,cn]|a::l,f=>by
  rw[iK,mc l,Tm.bY]
  grind[cn]
def Ic{M:Int}(C:0<=M/\M<=500000000000):∀(ts:List Tm) (ps:List (Option Nat)) (nh:List HC) (b:Nat) (f:Tm),sa nh ps ts->NR nh b f->(∀t∈ts,0<=t.fr/\t.fr<=M)->0<=f.fr/\f.fr<=M->f.acJ+cn Tm.acJ ts+ts.length<=10000000->∃c a,sq (some b) ps nh=some (some c,a)/\Kp nh a/\NR a c (iK f ts):=by
 intro ts ps nh b f g h d j hn;have hlen:ps.length=ts.length:=g.len;unfold sq;rw[ch cw];simp only[b6,cc]
 have loop:∀(ts:List Tm) (ps:List (Option Nat)) (i:Nat) (nh:List HC) (b:Nat) (f:Tm),sa nh ps ts->NR nh b f->(∀t∈ts,0<=t.fr/\t.fr<=M)->0<=f.fr/\f.fr<=M->f.acJ+cn Tm.acJ ts+ts.length<=10000000->∃c a,cY (λ(v:Int) (o:Option Nat)=>(rD λ(v171:Option Nat) (l:List HC)=>
    b8 (jw 3 0 (Ty.mk 0 []) [v171,o] l) λm e=>some ((.next (m,e)):dJ ((Option Nat)×List HC) ((Option Nat)×List HC)))) ps i (some b,nh)=some (.inl (some c,a))/\Kp nh a/\NR a c (iK f ts):=by
  intro ts
  induction ts with
  |nil=>
   intro ps i nh b f g h _ _ _;cases g;exact⟨b,nh,rfl,Kp.refl _,h⟩
  |cons t ts w=>
   intro ps i nh b f g h d j hn;cases g with
   |cons x y=>
    rename_i p ps;simp only[cn,jK] at hn;have D:=d t th
    obtain⟨q,a1,a2,a3⟩:=pP (k:=3) (i:=0) (s:=.mk 0 []) (ps:=[some b,some p]) (ts:=[f,t]) (nh:=nh) (.cons h (.cons x .nil)) (by simp[cn];omega) cw (by
     intro u hu;simp only[jA,tF,qC] at hu
     rcases hu with rfl|rfl<;>omega)
    have r:=NE.kp a2
    have n:0<=(Tm.mk 3 0 (.mk 0 []) [f,t]).fr/\(Tm.mk 3 0 (.mk 0 []) [f,t]).fr<=M:=by grind[Tm.fr,Tm.FC,qV]
    obtain⟨c,a,z,A,B⟩:=w ps (i+1) q nh.length (.mk 3 0 (.mk 0 []) [f,t]) (r.list y) a3 (λu hu=>d u (by simp[hu])) n (by
     rw[Tm.bY];simp only[cn];omega)
    refine⟨c,a,?_,a2.trans A,B⟩;rw[cM];simp only[qN,a1,bW,bT,cS];exact z
 obtain⟨c,a,a1,a2,a3⟩:=loop ts ps 0 nh b f g h d j hn;rw[a1];exact⟨c,a,rfl,a2,a3⟩
def LB{α:Type}(a:α):cq [a] (di .i64 (cE [a]) 1)=some a:=by
 have:di .i64 (cE [a]) 1=0:=by simp only[dE,jK,uo];decide
 rw[this];rfl
def Lt{α:Type}(a b:α):cq [a,b] (di .i64 (cE [a,b]) 1)=some b:=by
 have:di .i64 (cE [a,b]) 1=1:=by simp only[dE,jK,uo];decide
 rw[this];rfl
def Cp{M:Int}(hM:0<=M/\M<=90000000000){nh:List HC}{p:Nat}{t:Tm}(hr:NR nh p t)(hs:Sm M t)(hn:t.acJ<=8192)(F:t.root=true):∃R l,lB (some p) nh=some (some R,l)/\Kp nh l/\NR l R t.dg:=by
 have U:=Tm.E9 hs.ok F;obtain⟨x,V,g,S,T,w,e6,e7,e8⟩:=hr.inv;unfold lB;simp only[bT,V];have e:∀u:Tm,Sm M u->0<=u.fr/\u.fr<=M+1:=λu hu=>hu.fr hM.1;cases U with
 |app=>
  rename_i i s z A b a;simp only[Tm.cx,Tm.ck] at g w;obtain⟨pf,pa,B,W,X⟩:=w.inv2;obtain⟨y,f1,f2,f3,f4,f5,_⟩:=W.inv;simp only[Tm.cx,Tm.ck] at f2 f5;obtain⟨pb,C,D⟩:=f5.inv1;have Y:=hs.arg (.mk 2 z A [b]) th;have Z:=hs.arg a th;have m:=Y.arg b th;rw[Tm.bY] at hn;simp only[cn,Tm.bY] at hn;have af:=Tm.fZ b 0;have hmul:b.acP 0*a.acJ<=8192*8192:=CP cw cw;obtain⟨R,l,g1,g2,g3⟩:=put_eq (M:=M) (N:=M) cw cw a Z FU b pb pa nh 0 (by rw[cV];omega) D X m cw cw cw;refine⟨R,l,?_,g2,g3⟩;rw[g,bX gw,B];simp only[cD,dQ,fM,kx,bT,f1,C,g1,bW]
 |proj hk=>
  rename_i k i s z A a b;simp only[Tm.cx,Tm.ck] at g w;obtain⟨pf,B,W⟩:=w.inv1;obtain⟨y,f1,f2,f3,f4,f5,_⟩:=W.inv;simp only[Tm.cx,Tm.ck] at f2 f5;obtain⟨pa,pb,C,X,D⟩:=f5.inv2;rcases hk with rfl|rfl
  ·refine⟨pa,nh,?_,Kp.refl _,by simpa[Tm.dg] using X⟩;rw[g,bV gw,bX gw,B];simp only[cD,fM,bT,f1,C]
  ·refine⟨pb,nh,?_,Kp.refl _,by simpa[Tm.dg] using D⟩;rw[g,bV gw,bV gw,bX gw,B];simp only[cD,dQ,fM,kx,bT,f1,C]
 |zero hk=>
  rename_i k ko i s z A b st;simp only[Tm.cx,Tm.ck] at g w;obtain⟨pb,ps,po,B,D,j,L⟩:=w.J9;obtain⟨y,f1,f2,f3,f4,f5,_⟩:=L.inv;simp only[Tm.cx,Tm.ck] at f2 f5;have O:=f5.SY;refine⟨pb,nh,?_,Kp.refl _,?_⟩
  ·have f:k≠3/\k≠11/\k≠12:=cw
   rw[g,bV (by simpa using f.1),bV (by simpa using f.2.1),bV (by simpa using f.2.2),B];simp only[cD,dQ,gz,fM,kx,bT,f1,O];rfl
  ·have:(Tm.mk k i s [b,st,.mk ko z A []]).dg=b:=by
    have f:k≠3/\k≠11/\k≠12:=cw
    simp[Tm.dg,f.1,f.2.1,f.2.2]
   rw[this];exact D
 |succ=>
  rename_i i s z A b st n;simp only[Tm.cx,Tm.ck,Tm.dK,Tm.cT] at g S T w;obtain⟨pb,ps,po,B,D,j,L⟩:=w.J9;obtain⟨y,f1,f2,f3,f4,f5,_⟩:=L.inv;simp only[Tm.cx,Tm.ck] at f2 f5;obtain⟨P,o,q⟩:=f5.inv1;have m:=hs.arg b th;have G:=hs.arg st th;have E:=hs.arg (.mk 5 z A [n]) th;have H:=E.arg n th;rw[Tm.bY] at hn;simp only[cn,Tm.bY] at hn;have Q:=hs.idx;have b1:=e b m;have b2:=e st G;have b3:=e n H
  obtain⟨I,a1,a2,a3⟩:=pP (k:=6) (i:=i) (s:=s) (ps:=[some pb,some ps,some P]) (ts:=[b,st,n]) (nh:=nh) (.cons D (.cons j (.cons q .nil))) (by simp[cn];omega) cw (by
   intro u hu;simp only[jA,tF,qC] at hu
   rcases hu with rfl|rfl|rfl<;>omega)
  have d:=NE.kp a2;obtain⟨c,fc⟩:=d.get _ _ f1;obtain⟨p2,J,d1,d2,d3⟩:=Ic (M:=M+1) cw [n] [some P] I ps st (.cons (d.node _ _ q) .nil) (d.node _ _ j) (by intro u hu;simp only[jA,tF,qC] at hu;subst hu;omega) cw (by simp[cn];omega)
  have r:0<=(Tm.mk 6 i s [b,st,n]).fr/\(Tm.mk 6 i s [b,st,n]).fr<=M+1:=by
   rw[Tm.fr,bV gw,bV gw];simp only[Tm.FC,qV];omega
  have v:0<=(iK st [n]).fr/\(iK st [n]).fr<=M+1:=by
   simp only[iK];rw[Tm.fr,bV gw,bV gw];simp only[Tm.FC,qV];omega
  have aa:(Tm.mk 6 i s [b,st,n]).acJ<=10000:=by rw[Tm.bY];simp only[cn];omega
  have ab:(iK st [n]).acJ<=10000:=by rw[mc];simp only[cn,jK,uo];omega
  obtain⟨p3,K,g1,g2,g3⟩:=Ic (M:=M+1) cw [.mk 6 i s [b,st,n]] [some nh.length] J p2 (iK st [n]) (.cons ((NE.kp d2).node _ _ a3) .nil) d3 (by intro u hu;simp only[jA,tF,qC] at hu;subst hu;exact r) v (by simp only[cn,jK,uo];omega);refine⟨p3,K,?_,(a2.trans d2).trans g2,?_⟩
  ·rw[g,bV gw,bV gw,bV gw,B];simp only[cD,dQ,gz,fM,kx,bT,f1,o];rw[bV (by simp only[dE,jK,uo];decide),LB];unfold fq;simp only[bT,V,g,S,T,a1,bW,fc,o,d1,g1]
  ·have:(Tm.mk 6 i s [b,st,.mk 5 z A [n]]).dg=iK (iK st [n]) [.mk 6 i s [b,st,n]]:=by simp[Tm.dg,iK]
   rw[this];exact g3
 |cons=>
  rename_i i s z A b st h n;simp only[Tm.cx,Tm.ck,Tm.dK,Tm.cT] at g S T w;obtain⟨pb,ps,po,B,D,j,L⟩:=w.J9;obtain⟨y,f1,f2,f3,f4,f5,_⟩:=L.inv;simp only[Tm.cx,Tm.ck] at f2 f5;obtain⟨ph,P,o,ad,q⟩:=f5.inv2;have m:=hs.arg b th;have G:=hs.arg st th;have E:=hs.arg (.mk 8 z A [h,n]) th;have H:=E.arg n th;have ae:=E.arg h th;rw[Tm.bY] at hn;simp only[cn,Tm.bY] at hn;have Q:=hs.idx;have b1:=e b m;have b2:=e st G;have b3:=e n H;have b4:=e h ae
  obtain⟨I,a1,a2,a3⟩:=pP (k:=9) (i:=i) (s:=s) (ps:=[some pb,some ps,some P]) (ts:=[b,st,n]) (nh:=nh) (.cons D (.cons j (.cons q .nil))) (by simp[cn];omega) cw (by
   intro u hu;simp only[jA,tF,qC] at hu
   rcases hu with rfl|rfl|rfl<;>omega)
  have d:=NE.kp a2;obtain⟨c,fc⟩:=d.get _ _ f1;obtain⟨p2,J,d1,d2,d3⟩:=Ic (M:=M+1) cw [h,n] [some ph,some P] I ps st (.cons (d.node _ _ ad) (.cons (d.node _ _ q) .nil)) (d.node _ _ j) (by intro u hu;simp only[jA,tF,qC] at hu;rcases hu with rfl|rfl<;>omega) cw (by simp[cn];omega)
  have r:0<=(Tm.mk 9 i s [b,st,n]).fr/\(Tm.mk 9 i s [b,st,n]).fr<=M+1:=by
   rw[Tm.fr,bV gw,bV gw];simp only[Tm.FC,qV];omega
  have v:0<=(iK st [h,n]).fr/\(iK st [h,n]).fr<=M+1:=by
   simp only[iK];rw[Tm.fr,bV gw,bV gw];simp only[Tm.FC];rw[Tm.fr,bV gw,bV gw];simp only[Tm.FC,qV];omega
  have aa:(Tm.mk 9 i s [b,st,n]).acJ<=10000:=by rw[Tm.bY];simp only[cn];omega
  have ab:(iK st [h,n]).acJ<=10000:=by rw[mc];simp only[cn,jK,uo];omega
  obtain⟨p3,K,g1,g2,g3⟩:=Ic (M:=M+1) cw [.mk 9 i s [b,st,n]] [some nh.length] J p2 (iK st [h,n]) (.cons ((NE.kp d2).node _ _ a3) .nil) d3 (by intro u hu;simp only[jA,tF,qC] at hu;subst hu;exact r) v (by simp only[cn,jK,uo];omega);refine⟨p3,K,?_,(a2.trans d2).trans g2,?_⟩
  ·rw[g,bV gw,bV gw,bV gw,B];simp only[cD,dQ,gz,fM,kx,bT,f1,o];rw[bV (by simp only[dE,jK,uo];decide),Lt];unfold fq;simp only[bT,V,g,S,T,a1,bW,fc,o,d1,g1]
  ·have:(Tm.mk 9 i s [b,st,.mk 8 z A [h,n]]).dg=iK (iK st [h,n]) [.mk 9 i s [b,st,n]]:=by simp[Tm.dg,iK]
   rw[this];exact g3
def CO:∀(n:Nat) (t:Ty),t.acJ<=n->t.acJ<=1000000000->iq n t=some t:=by
 intro n
 induction n with
 |zero=>intro t h;have:=t.cu;omega
 |succ n a=>
  intro t h b;cases t with
  |mk k l=>
   rw[Ty.bY] at h b;have e:=Ty.dm l;rw[iq];simp only[Ty.ck,Ty.cx,cc,ch (l:=l) cw,b6];rw[gG id l 0 [] aae]
   ·simp
   ·intro j x v c d;have:=cy Ty.acJ c;rw[a x cw cw];simp[dc (l:=v) (m:=[x]) (by simpa using d)]
def kj{t:Ty}(h:t.acJ<=1000000000):iq FU t=some t:=CO FU t (by rw[cV];exact h) h
def Ty.uG{k i:Int}{s:Ty}{n:Nat}(h:Tm.node k i s n=true):s.acJ<=64:=by
 unfold Tm.node at h;simp only[ed] at h;have a:=h.2
 by_cases b:hU k=true
 ·rw[bX b] at a;simp only[mH] at a;unfold Ty.err at a
  split at a
  ·split at a
   ·omega
   ·omega
  ·omega
 ·rw[bV b] at a;rw[(Ty.iI s).1 a,Ty.bY];simp[cn]
def Tu{M:Int}(C:0<=M/\M<=500000000000):∀(n:Nat) (t:Tm) (nh:List HC),t.acJ<=n->Sm M t->∃p a,sO n t nh=some (some p,a)/\Kp nh a/\NR a p t:=by
 intro n
 induction n with
 |zero=>intro t nh h;have:=t.cu;omega
 |succ n D=>
  intro t nh h hs;cases t with
  |mk k i s l=>
   have m:=hs.acJ;have A:=hs.idx;rw[Tm.bY] at h m;have hlen:=Tm.dm l;rw[sO];simp only[Tm.ck,Tm.cx,Tm.dK,Tm.cT,cc,ch (l:=l) cw,b6]
   have loop:∀(ts:List Tm) (i:Nat) (nh:List HC) (v:List (Option Nat)) (us:List Tm),(∀t∈ts,t∈l)->sa nh v us->v.length+ts.length<=1000000->∃e a,cY (λ(B:Int) (f:Tm)=>(rD λ(b:(List (Option Nat))) (g:List HC)=>
      b8 (sO n f g) λc d=>
      ef (dP b [c])<|some ((.next ((dN b [c]),d)):dJ ((List (Option Nat))×List HC) ((Option Nat)×List HC)))) ts i (v,nh)=some (.inl (e,a))/\Kp nh a/\sa a e (us++ts):=by
    intro ts
    induction ts with
    |nil=>intro i nh v us _ o _;exact⟨v,nh,rfl,Kp.refl _,by simpa using o⟩|cons t ts q=>
     intro i nh v us hm o E;simp only[jK] at E;have j:=hm t th;have F:=cy Tm.acJ j;obtain⟨p,r,a1,a2,a3⟩:=D t nh cw (hs.arg t j);obtain⟨e,a,w,x,y⟩:=q (i+1) r (v++[some p]) (us++[t]) (λu hu=>hm u (by simp[hu])) (((NE.kp a2).list o).append (.cons a3 .nil)) aae;refine⟨e,a,?_,a2.trans x,by simpa using y⟩;rw[cM];simp only[qN,a1,bW];rw[dc aae];simp only[b6,ei,bT,cS];exact w
   obtain⟨e,a,a1,a2,a3⟩:=loop l 0 nh [] [] (λt h=>h) .nil aae;rw[a1];simp only[bT,b9,qN]
   obtain⟨z,w,x,y⟩:=pP (k:=k) (i:=i) (s:=s) (ps:=e) (ts:=l) (nh:=a) (by simpa using a3) cw cw (by
    intro t G;have:=(hs.arg t G).fr C.1
    omega)
   exact⟨a.length,z,by rw[w];rfl,a2.trans x,y⟩
def Nr{M:Int}(nh:List HC):∀(n:Nat) (t:Tm) (p:Nat),t.acJ<=n->Sm M t->NR nh p t->iP n (some p) nh=some t:=by
 intro n
 induction n with
 |zero=>intro t p h;have:=t.cu;omega
 |succ n w=>
  intro t p h hs y;obtain⟨x,z,m,o,q,f,F,G,H⟩:=y.inv;cases t with
  |mk k i s l=>
   simp only[Tm.cx,Tm.ck,Tm.dK,Tm.cT] at m o q f;have g:=hs.acJ;rw[Tm.bY] at h g;have hlen:=Tm.dm l;have A:x.acI.length=l.length:=f.len;have c:=hs.ok;rw[Tm.eo,ed] at c;have B:=Ty.uG c.1;rw[iP];simp only[bT,z,m,o,q,cc,ch (l:=x.acI) cw,b6];rw[kj cw];simp only[bT]
   have loop:∀(ts:List Tm) (ps:List (Option Nat)) (i:Nat) (v:List Tm),(∀t∈ts,t∈l)->sa nh ps ts->v.length+ts.length<=1000000->cY (λ(r:Int) (d:Option Nat)=>(λ(a:List Tm)=>
      bU (iP n d nh) λb=>
      ef (dP a [b])<|some ((.next (dN a [b])):dJ (List Tm) Tm))) ps i v=some (.inl (v++ts)):=by
    intro ts
    induction ts with
    |nil=>intro ps i v _ h _;cases h;simp
    |cons t ts j=>
     intro ps i v hm h C;simp only[jK] at C;have e:=hm t th;have D:=cy Tm.acJ e;cases h with
     |cons q1 E=>
      rw[cM,w t _ cw (hs.arg t e) q1];simp only[bT];rw[dc aae];simp only[b6,bT,cS];rw[j _ (i+1) (dN v [t]) (λu hu=>hm u (by simp[hu])) E (by rw[xb];simp;omega)];simp
   rw[loop l x.acI 0 [] (λt h=>h) f aae];simp
mutual
def NR.YK{nh:List HC}:∀{p:Nat} {t u:Tm},NR nh p t->NR nh p u->t=u
 |_,_,_,.mk (x:=x) a b _ _ _,.mk (x:=y) g1 g2 _ _ _=>by
  rw[a] at g1;obtain rfl:=gv g1;rw[sa.YK b g2]
def sa.YK{nh:List HC}:∀{ps:List (Option Nat)} {ts us:List Tm},sa nh ps ts->sa nh ps us->ts=us
 |_,_,_,.nil,.nil=>rfl|_,_,_,.cons a b,.cons g1 g2=>by rw[NR.YK a g1,sa.YK b g2]
end
def NE.flag{nh:List HC}{p:Nat}{t:Tm}{x:dz}(w:NR nh p t)(r:HC.b_ nh p=some x)(g:t.nf=true):NE nh (mB nh p (HC.dH {x with normal:=true})):=by
 have v:=HC.kP r;have j:=(jL.1 v).1
 have e:HC.b_ (mB nh p (HC.dH {x with normal:=true})) p=some {x with normal:=true}:=by
  unfold HC.b_ mB;simp[j]
 have a:∀q,q≠p->(mB nh p (HC.dH {x with normal:=true}))[q]?=nh[q]?:=by
  intro q c;unfold mB;rw[w4 (λh=>c h.symm)]
 have d:∀q y,HC.b_ nh q=some y->∃b,HC.b_ (mB nh p (HC.dH {x with normal:=true})) q=some {y with normal:=b}/\(b=true->y.normal=true\/q=p):=by
  intro q y hy
  by_cases c:q=p
  ·subst c;rw[r] at hy;obtain rfl:=gv hy;exact⟨true,e,λ_=>.inr rfl⟩
  ·refine⟨y.normal,?_,λh=>.inl h⟩;have:=a q c;unfold HC.b_ at hy|-;rw[this];exact hy
 have key:∀n,(∀q u,u.acJ<=n->NR nh q u->NR (mB nh p (HC.dH {x with normal:=true})) q u):=by
  intro n
  induction n with
  |zero=>intro q u h;have:=u.cu;omega
  |succ n z=>
   intro q u hu c;obtain⟨y,A,B,C,D,E,F,G,H⟩:=c.inv;obtain⟨b,f1,f2⟩:=d q y A
   have f:∀(ts:List Tm) (ps:List (Option Nat)),(∀t∈ts,t.acJ<=n)->sa nh ps ts->sa (mB nh p (HC.dH {x with normal:=true})) ps ts:=by
    intro ts
    induction ts with
    |nil=>intro ps _ h;cases h;exact .nil
    |cons t ts m=>
     intro ps hm h;cases h with
     |cons g1 g2=>exact .cons (z _ _ (hm t th) g1) (m _ (λu hu=>hm u (by simp[hu])) g2)
   refine NR.of f1 B C D (f _ _ ?_ E) F G ?_
   ·intro t I;cases u with
    |mk k i s l=>
     rw[Tm.bY] at hu;have:=cy Tm.acJ I;simp only[Tm.ck] at this;omega
   ·intro J;rcases f2 J with h|h
    ·exact H h
    ·subst h;rw[<-NR.YK w c];exact g
 refine⟨λq u h=>key _ q u (fC _) h,?_,λq y h=>?_⟩
 ·intro q st c
  have o:q≠p:=by
   rintro rfl;have:=HC.jZ c;rw[v] at this;cases this
  unfold HC.c7 at c|-;rw[a q o];exact c
 ·obtain⟨b,K,_⟩:=d q y h;exact⟨b,K⟩
mutual
def Tm.DL(room:Int):Tm->Option (Option Tm)
 |.mk k i s l=>if(Tm.mk k i s l).root then(if((Tm.mk k i s l).dg.acJ:Int)-((Tm.mk k i s l).acJ:Int)>room then none else some (some (Tm.mk k i s l).dg))
  else match Tm.p0 room l with
   |none=>none|some none=>some none|some (some a)=>some (some (.mk k i s a))
def Tm.p0(room:Int):List Tm->Option (Option (List Tm))
 |[]=>some none|t::l=>match t.DL room with
  |none=>none|some (some a)=>some (some (a::l))|some none=>match Tm.p0 room l with
   |none=>none|some none=>some none|some (some b)=>some (some (t::b))
end
theorem Ay:∀(l:List Tm) (f:Tm),f.ok=true->(∀t∈l,t.ok=true)->(iK f l).ok=true
 |[],f,h,_=>h|a::l,f,h,b=>by
  rw[iK];refine Ay l _ ?_ λt d=>b t (by simp[d]);rw[Tm.eo];simp only[ed,ie];refine⟨rfl,?_⟩;intro x c;simp only[jA,tF,qC] at c;rcases c with rfl|rfl
  ·exact h
  ·exact b _ th
def y'{M:Int}(b:0<=M):∀(l:List Tm) (f:Tm),f.acN M=true->(∀t∈l,t.acN M=true)->(iK f l).acN M=true
 |[],f,h,_=>h|a::l,f,h,c=>by
  rw[iK];refine y' b l _ ?_ λt e=>c t VW;rw[Tm.dn];simp only[ed,ie,mH];refine⟨b,?_⟩;intro x d;simp only[jA,tF,qC] at d;rcases d with rfl|rfl
  ·exact h
  ·exact c _ th
theorem Tm.tT{k i:Int}{s:Ty}{l m:List Tm}(h:(Tm.mk k i s l).ok=true)(a:m.length=l.length)(hm:∀t∈m,t.ok=true):(Tm.mk k i s m).ok=true:=by
 rw[Tm.eo] at h|-;simp only[ed,ie] at h|-;rw[a];exact⟨h.1,hm⟩
def Tm.ze{M k i:Int}{s:Ty}{l m:List Tm}(h:(Tm.mk k i s l).acN M=true)(hm:∀t∈m,t.acN M=true):(Tm.mk k i s m).acN M=true:=by
 rw[Tm.dn] at h|-;simp only[ed,ie,mH] at h|-;exact⟨h.1,hm⟩
def Rt{M:Int}(B:0<=M){t:Tm}(hs:Sm M t)(hn:t.acJ<=8192)(z:t.root=true):t.dg.ok=true/\t.dg.acN (M+8192)=true:=by
 have v:=Tm.E9 hs.ok z;have up:∀u,Sm M u->u.acN (M+8192)=true:=λu hu=>(hu.mono cw).acN;cases v with
 |app=>
  rename_i i s d f b a;have w:=hs.arg (.mk 2 d f [b]) th;have p:=hs.arg a th;have l:=w.arg b th;rw[Tm.bY] at hn;simp only[cn,Tm.bY] at hn
  have e:(Tm.mk 3 i s [.mk 2 d f [b],a]).dg=Tm.e_ 0 b a:=by simp[Tm.dg]
  rw[e];exact⟨Tm.KZ a p.ok b 0 cw l.ok,Ha (M:=M) (N:=M) cw a p.acN b 0 cw cw l.acN l.ok⟩
 |proj x=>
  rename_i k i s d f a b;have q:=hs.arg (.mk 10 d f [a,b]) th;rcases x with rfl|rfl
  ·have:=q.arg a th;simpa[Tm.dg] using And.intro this.ok (up _ this)
  ·have:=q.arg b th;simpa[Tm.dg] using And.intro this.ok (up _ this)
 |zero x=>
  rename_i k A i s d f b st
  have m:k≠3/\k≠11/\k≠12:=cw
  have:(Tm.mk k i s [b,st,.mk A d f []]).dg=b:=by simp[Tm.dg,m.1,m.2.1,m.2.2]
  rw[this];have:=hs.arg b th;exact⟨this.ok,up _ this⟩
 |succ=>
  rename_i i s d f b st n;have r:=hs.arg b th;have g:=hs.arg st th;have j:=(hs.arg (.mk 5 d f [n]) th).arg n th
  have e:(Tm.mk 6 i s [b,st,.mk 5 d f [n]]).dg=iK st [n,.mk 6 i s [b,st,n]]:=by simp[Tm.dg,iK]
  rw[e];have o:(Tm.mk 6 i s [b,st,n]).ok=true:=Tm.tT hs.ok rfl (by intro t c;simp only[jA,tF,qC] at c;rcases c with rfl|rfl|rfl;all_goals first|exact r.ok|exact g.ok|exact j.ok);have hle:(Tm.mk 6 i s [b,st,n]).acN (M+8192)=true:=Tm.ze (hs.mono cw).acN (by intro t c;simp only[jA,tF,qC] at c;rcases c with rfl|rfl|rfl;all_goals first|exact up _ r|exact up _ g|exact up _ j);refine⟨Ay _ _ g.ok ?_,y' cw _ _ (up _ g) ?_⟩<;>
  ·intro t c;simp only[jA,tF,qC] at c;rcases c with rfl|rfl
   ·first|exact j.ok|exact up _ j
   ·first|exact o|exact hle
 |cons=>
  rename_i i s d f b st h n;have r:=hs.arg b th;have g:=hs.arg st th;have j:=(hs.arg (.mk 8 d f [h,n]) th).arg n th;have y:=(hs.arg (.mk 8 d f [h,n]) th).arg h th
  have e:(Tm.mk 9 i s [b,st,.mk 8 d f [h,n]]).dg=iK st [h,n,.mk 9 i s [b,st,n]]:=by simp[Tm.dg,iK]
  rw[e];have o:(Tm.mk 9 i s [b,st,n]).ok=true:=Tm.tT hs.ok rfl (by intro t c;simp only[jA,tF,qC] at c;rcases c with rfl|rfl|rfl;all_goals first|exact r.ok|exact g.ok|exact j.ok);have hle:(Tm.mk 9 i s [b,st,n]).acN (M+8192)=true:=Tm.ze (hs.mono cw).acN (by intro t c;simp only[jA,tF,qC] at c;rcases c with rfl|rfl|rfl;all_goals first|exact up _ r|exact up _ g|exact up _ j);refine⟨Ay _ _ g.ok ?_,y' cw _ _ (up _ g) ?_⟩<;>
  ·intro t c;simp only[jA,tF,qC] at c;rcases c with rfl|rfl|rfl
   ·first|exact y.ok|exact up _ y
   ·first|exact j.ok|exact up _ j
   ·first|exact o|exact hle
def Tm.zh(room k i:Int)(s:Ty)(l:List Tm):(Tm.mk k i s l).DL room=if(Tm.mk k i s l).root then(if((Tm.mk k i s l).dg.acJ:Int)-((Tm.mk k i s l).acJ:Int)>room then none else some (some (Tm.mk k i s l).dg))
 else match Tm.p0 room l with
  |none=>none|some none=>some none|some (some a)=>some (some (.mk k i s a)):=by rw[Tm.DL]
def IJ{M room:Int}(o:0<=M)(t:Tm):Sm M t->t.acJ<=8192->∀e,t.DL room=some (some e)->e.ok=true/\e.acN (M+8192)=true/\(e.acJ:Int)<=t.acJ+room:=by
 induction t using Tm.ind with
 |h k i s l p=>
  intro hs hn e h;rw[Tm.zh] at h
  by_cases f:(Tm.mk k i s l).root=true
  ·rw[bX f] at h
   split at h
   ·cases h
   ·obtain rfl:=gv (gv h);obtain⟨q,r⟩:=Rt o hs hn f;exact⟨q,r,cw⟩
  ·rw[bV f] at h;have up:∀u,Sm M u->u.acN (M+8192)=true:=λu hu=>(hu.mono cw).acN;have g:=hn;rw[Tm.bY] at g
   have w:∀(ts a:List Tm),(∀t∈ts,t∈l)->Tm.p0 room ts=some (some a)->a.length=ts.length/\(∀t∈a,t.ok=true/\t.acN (M+8192)=true)/\(cn Tm.acJ a:Int)<=cn Tm.acJ ts+room:=by
    intro ts
    induction ts with
    |nil=>intro a _ h;rw[Tm.p0] at h;cases h
    |cons t ts j=>
     intro a hm h;rw[Tm.p0] at h;have b:=hm t th;have x:=cy Tm.acJ b;have c:=hs.arg t b
     split at h
     ·cases h
     ·rename_i u hu;obtain rfl:=gv (gv h);obtain⟨a1,a2,a3⟩:=p t b c cw u hu;refine⟨rfl,?_,by simp only[cn];omega⟩;intro v hv;rcases jA.1 hv with rfl|hv
      ·exact⟨a1,a2⟩
      ·have:=hs.arg v (hm v (by simp[hv]));exact⟨this.ok,up _ this⟩
     ·split at h
      ·cases h
      ·cases h
      ·rename_i m d;obtain rfl:=gv (gv h);obtain⟨a1,a2,a3⟩:=j m (λu hu=>hm u (by simp[hu])) d;refine⟨by simp[a1],?_,by simp only[cn];omega⟩;intro v hv;rcases jA.1 hv with rfl|hv
       ·exact⟨c.ok,up _ c⟩
       ·exact a2 v hv
   split at h
   ·cases h
   ·cases h
   ·rename_i m d;obtain rfl:=gv (gv h);obtain⟨a1,a2,a3⟩:=w l m (λt h=>h) d;refine⟨Tm.tT hs.ok a1 λt n=>(a2 t n).1,Tm.ze (hs.mono cw).acN λt n=>(a2 t n).2,?_⟩;rw[Tm.bY,Tm.bY];omega
def xJ(room:Int)(t:Tm):t.nf=true↔t.DL room=some none:=by
 induction t using Tm.ind with
 |h k i s l f=>
  rw[Tm.Jy,Tm.zh]
  have g:∀ts:List Tm,(∀t∈ts,t∈l)->(ts.all Tm.nf=true↔Tm.p0 room ts=some none):=by
   intro ts
   induction ts with
   |nil=>intro _;simp[Tm.p0]|cons t ts b=>
    intro hm;have j:=f t (hm t th);have m:=b λu hu=>hm u (by simp[hu]);rw[we,ed,j,m,Tm.p0];constructor
    ·rintro⟨c,d⟩;rw[c,d]
    ·intro h
     split at h
     ·cases h
     ·cases h
     ·rename_i c
      split at h
      ·cases h
      ·rename_i d;exact⟨c,d⟩
      ·cases h
  have:=g l λt h=>h
  by_cases a:(Tm.mk k i s l).root=true
  ·rw[bX a,a];simp
   try(split<;>simp)
  ·rw[bV a];simp only[ed,Tq,this];constructor
   ·rintro⟨_,e⟩;rw[e]
   ·intro h;refine⟨by simpa using a,?_⟩
    split at h
    ·cases h
    ·rename_i e;exact e
    ·cases h
def P8{M:Int}{t:Tm}(hs:Sm M t)(hn:t.acJ<=8192)(c:t.root=true):(t.dg.acJ:Int)<=1000000000:=by
 have d:=Tm.E9 hs.ok c;cases d with
 |app=>
  rename_i i s g h b a;rw[Tm.bY] at hn;simp only[cn,Tm.bY] at hn;have e:=hs.arg (.mk 2 g h [b]) th;have j:=Tm.pB a b 0 (e.arg b th).ok;have k:=Tm.fZ b 0;have hmul:b.acP 0*a.acJ<=8192*8192:=CP cw cw
  grind[Tm.e_,Tm.dg]
 |proj f=>
  rw[Tm.bY] at hn;simp only[cn,Tm.bY] at hn;rcases f with rfl|rfl<;>(simp[Tm.dg];omega)
 |zero f=>grind[Tm.dg,Tm.bY,cn]|succ=>grind[iK,Tm.dg,mc,Tm.bY,cn]|cons=>grind[iK,Tm.dg,mc,Tm.bY,cn]
def Pv{M:Int}(P:0<=M/\M<=90000000000){nh:List HC}{p:Nat}{t:Tm}(L:NR nh p t)(hs:Sm M t)(hn:t.acJ<=8192)(d:t.root=true):qa (some p) nh=some (t.dg.acJ:Int):=by
 have Q:=Cp P L hs hn d;have D:=Tm.E9 hs.ok d;obtain⟨x,R,f,e3,e4,l,e6,e7,e8⟩:=L.inv;unfold qa uZ;simp only[bT,R];cases D with
 |app=>
  rename_i i s m o b a;simp only[Tm.cx,Tm.ck] at f l;obtain⟨pf,pa,r,S,T⟩:=l.inv2;obtain⟨y,f1,f2,f3,f4,f5,_⟩:=S.inv;simp only[Tm.cx,Tm.ck] at f2 f5;obtain⟨pb,E,v⟩:=f5.inv1;have F:=hs.arg (.mk 2 m o [b]) th;have U:=hs.arg a th;have B:=F.arg b th;rw[Tm.bY] at hn;simp only[cn,Tm.bY] at hn;obtain⟨z,g1,_,_,_,_,g6,_⟩:=v.inv;obtain⟨u,g,_,_,_,_,j,_⟩:=T.inv;rw[f,bX gw,r];simp only[cD,dQ,fM,kx,bT,f1,E,g1];rw[count_eq (M:=M) cw nh FU b pb 0 (by rw[cV];omega) v B cw cw];simp only[bT,g,bW,g6,j];have V:=Tm.fZ b 0;have hmul:b.acP 0*a.acJ<=8192*8192:=CP cw cw;have W:=Tm.pB a b 0 B.ok;have X:=a.cu
  have e:(Tm.mk 3 i s [.mk 2 m o [b],a]).dg=Tm.e_ 0 b a:=by simp[Tm.dg]
  rw[e]
  have hint:(b.acP 0:Int)*((a.acJ:Int)-1)=((b.acP 0*a.acJ:Nat):Int)-(b.acP 0:Int):=by rw[Sy,SH];simp
  rw[dh cw cw,yo (by rw[hint];omega) (by rw[hint];omega),hint,cX cw cw]
  congr 1
  omega
 |proj N=>
  rename_i k i s m o a b;obtain⟨p',Y,g1,g2,g3⟩:=Q;simp only[Tm.cx,Tm.ck] at f l;obtain⟨z,g,_,_,_,_,j,_⟩:=g3.inv
  have c:k≠3/\k≠6/\k≠9:=cw
  rw[f,bV (by simpa using c.1),bV (by simpa using c.2.1),bV (by simpa using c.2.2),g1];simp only[bW,bT,g,j]
 |zero N=>
  rename_i k Z i s m o b st;simp only[Tm.cx,Tm.ck] at f l;obtain⟨pb,ps,O,r,v,q,C⟩:=l.J9;obtain⟨y,f1,f2,f3,f4,f5,_⟩:=C.inv;obtain⟨z,g,_,_,_,_,j,_⟩:=v.inv;simp only[Tm.cx,Tm.ck] at f2 f5
  have c:k≠3/\k≠11/\k≠12:=cw
  have:(Tm.mk k i s [b,st,.mk Z m o []]).dg=b:=by simp[Tm.dg,c.1,c.2.1,c.2.2]
  rw[this];rcases N with⟨rfl,rfl⟩|⟨rfl,rfl⟩
  ·rw[f,bV gw,bX gw,r];simp only[cD,dQ,gz,fM,kx,bT,f1,f2,g,j];rw[bV gw];rfl
  ·rw[f,bV gw,bV gw,bX gw,r];simp only[cD,dQ,gz,fM,kx,bT,f1,f2,g,j];rw[bV gw];rfl
 |succ=>
  rename_i i s m o b st n;simp only[Tm.cx,Tm.ck] at f l;obtain⟨pb,ps,O,r,v,q,C⟩:=l.J9;obtain⟨y,f1,f2,f3,f4,f5,_⟩:=C.inv;simp only[Tm.cx,Tm.ck] at f2 f5;obtain⟨pn,w,A⟩:=f5.inv1;obtain⟨z1,g,_,_,_,_,j,_⟩:=v.inv;obtain⟨z2,G,_,_,_,_,H,_⟩:=q.inv;obtain⟨z3,I,_,_,_,_,J,_⟩:=A.inv;rw[Tm.bY] at hn;simp only[cn,Tm.bY] at hn
  have e:(Tm.mk 6 i s [b,st,.mk 5 m o [n]]).dg=iK st [n,.mk 6 i s [b,st,n]]:=by simp[Tm.dg,iK]
  rw[e,mc];simp only[cn,Tm.bY,jK,uo];rw[f,bV gw,bX gw,r];simp only[cD,dQ,gz,fM,kx,bT,f1,f2,w,g,G,I,j,H,J];rw[bX gw];simp only[bW];rw[yo (a:=2) cw cw,cX (a:=2) cw cw,cX (b:=2*(n.acJ:Int)) cw cw,cX (b:=1) cw cw,cX (b:=(b.acJ:Int)) cw cw,cX cw cw]
  congr 1
  omega
 |cons=>
  rename_i i s m o b st h n;simp only[Tm.cx,Tm.ck] at f l;obtain⟨pb,ps,O,r,v,q,C⟩:=l.J9;obtain⟨y,f1,f2,f3,f4,f5,_⟩:=C.inv;simp only[Tm.cx,Tm.ck] at f2 f5;obtain⟨ph,pn,w,K,A⟩:=f5.inv2;obtain⟨z1,g,_,_,_,_,j,_⟩:=v.inv;obtain⟨z2,G,_,_,_,_,H,_⟩:=q.inv;obtain⟨z3,I,_,_,_,_,J,_⟩:=A.inv;obtain⟨z4,q1,_,_,_,_,q6,_⟩:=K.inv;rw[Tm.bY] at hn;simp only[cn,Tm.bY] at hn
  have e:(Tm.mk 9 i s [b,st,.mk 8 m o [h,n]]).dg=iK st [h,n,.mk 9 i s [b,st,n]]:=by simp[Tm.dg,iK]
  rw[e,mc];simp only[cn,Tm.bY,jK,uo];rw[f,bV gw,bV gw,bX gw,r];simp only[cD,dQ,gz,fM,kx,bT,f1,f2,w,g,G,I,q1,j,H,J,q6];rw[bX gw];simp only[bW];rw[yo (a:=2) cw cw,cX (a:=3) cw cw,cX (b:=(h.acJ:Int)) cw cw,cX (b:=2*(n.acJ:Int)) cw cw,cX (b:=1) cw cw,cX (b:=(b.acJ:Int)) cw cw,cX cw cw]
  congr 1
  omega
def EH{α:Type}(a:List α)(x y:α)(b:List α):(a++x::b).set a.length y=a++y::b:=th
def BO(room:Int)(p:Nat)(t:Tm)(nh:List HC)(o:Option ((Option Nat)×Int×List HC)):Prop:=
 match t.DL room with
 |none=>∃a,o=some (none,4,a)/\NE nh a|some none=>∃a,o=some (none,0,a)/\NE nh a|some (some c)=>∃b a,o=some (some b,0,a)/\NE nh a/\NR a b c
def TA{M room:Int}(hM:0<=M/\M<=80000000000)(X:-100000<=room/\room<=100000):∀(n:Nat) (t:Tm) (p:Nat) (nh:List HC),t.acJ<=n->NR nh p t->Sm M t->t.acJ<=8192->BO room p t nh (jP n (some p) room nh):=by
 intro n
 induction n with
 |zero=>intro t p nh h;have:=t.cu;omega
 |succ n ih=>
  intro t p nh hn P hs H;obtain⟨x,Y,e2,e3,e4,Z,e6,e7,e8⟩:=P.inv;rw[jP];simp only[bT,Y]
  by_cases K:x.normal=true
  ·rw[bX K];unfold BO;rw[(xJ room t).1 (e8 K)];exact⟨nh,rfl,NE.refl _⟩
  ·rw[bV K,I2 P hs.ok];simp only[bT];cases t with
   |mk k i s l=>
    by_cases f:(Tm.mk k i s l).root=true
    ·rw[bX f,Pv cw P hs H f];simp only[bT,ep,e6];obtain⟨N,c,g1,g2,g3⟩:=Cp (M:=M) cw P hs H f;have ah:=P8 hs H f;rw[dh cw cw];unfold BO;rw[Tm.zh,bX f]
     by_cases C:((Tm.mk k i s l).dg.acJ:Int)-((Tm.mk k i s l).acJ:Int)>room
     ·rw[bX C,bX C];exact⟨nh,rfl,NE.refl _⟩
     ·rw[bV C,bV C,g1];exact⟨N,c,rfl,NE.kp g2,g3⟩
    ·rw[bV f];simp only[Tm.cx,Tm.ck,Tm.dK,Tm.cT] at e2 e3 e4 Z;have F:=H;rw[Tm.bY] at hn F;have hlen:=Tm.dm l;have Q:x.acI.length=l.length:=Z.len;rw[ch cw];simp only[b6,cc];have af:=hs.idx;have R:∀u:Tm,Sm M u->0<=u.fr/\u.fr<=M+1:=λu hu=>hu.fr hM.1
     have loop:∀(ts pre:List Tm) (ps I:List (Option Nat)) (j:Nat) (A:List HC),l=pre++ts->x.acI=I++ps->I.length=j->NE nh A->sa A ps ts->sa A I pre->match Tm.p0 room ts with
       |none=>∃c,cY (λ(v:Int) (B:Option Nat)=>(λ(w:List HC)=>
         gM (jP n B room w) λg m a=>
         if(cG m 0) then(some (.ret (none,m,a)))
         else(if(Option.isSome g) then(
         bU (HC.b_ a p) λd=>
         ef (wF d.acI)<|bU (cq d.acI v) λG=>
         b8 (fq (some p) (vU d.acI v g) a) λy r=>
         some (.ret (y,0,r)))
         else(some ((.next a):dJ (List HC) ((Option Nat)×Int×List HC)))))) ps j A=some (.inr (none,4,c))/\NE nh c
       |some none=>∃c,cY (λ(v:Int) (B:Option Nat)=>(λ(w:List HC)=>
         gM (jP n B room w) λg m a=>
         if(cG m 0) then(some (.ret (none,m,a)))
         else(if(Option.isSome g) then(
         bU (HC.b_ a p) λd=>
         ef (wF d.acI)<|bU (cq d.acI v) λG=>
         b8 (fq (some p) (vU d.acI v g) a) λy r=>
         some (.ret (y,0,r)))
         else(some ((.next a):dJ (List HC) ((Option Nat)×Int×List HC)))))) ps j A=some (.inl c)/\NE nh c
       |some (some S)=>∃N c,cY (λ(v:Int) (B:Option Nat)=>(λ(w:List HC)=>
         gM (jP n B room w) λg m a=>
         if(cG m 0) then(some (.ret (none,m,a)))
         else(if(Option.isSome g) then(
         bU (HC.b_ a p) λd=>
         ef (wF d.acI)<|bU (cq d.acI v) λG=>
         b8 (fq (some p) (vU d.acI v g) a) λy r=>
         some (.ret (y,0,r)))
         else(some ((.next a):dJ (List HC) ((Option Nat)×Int×List HC)))))) ps j A=some (.inr (some N,0,c))/\NE nh c/\NR c N (.mk k i s (pre++S)):=by
      intro ts
      induction ts with
      |nil=>
       intro pre ps I j A _ _ _ D hp _;cases hp;rw[Tm.p0];exact⟨A,rfl,D⟩
      |cons t ts aa=>
       intro pre ps I j A O hx hq D hp J;cases hp with
       |cons q1 q2=>
        rename_i q ps
        have T:t∈l:=by rw[O];simp
        have ai:=cy Tm.acJ T;have U:=hs.arg t T;have z:=ih t q A cw q1 U cw;unfold BO at z;rw[Tm.p0];rw[cM]
        split at z
        ·rename_i E;obtain⟨c,a1,a2⟩:=z;rw[E,a1];exact⟨c,rfl,D.trans a2⟩
        ·rename_i E;obtain⟨c,a1,a2⟩:=z;rw[E,a1];have:=aa (pre++[t]) ps (I++[some q]) (j+1) c (by simp[O]) (by simp[hx]) (by simp[hq]) (D.trans a2) (a2.list q2) ((a2.list J).append (.cons (a2.node _ _ q1) .nil))
         revert this
         cases Tm.p0 room ts with
         |none=>exactλh=>h|some o=>
          cases o with
          |none=>exactλh=>h|some S=>simp only[mI,W4,mw];exactλh=>h
        ·rename_i t' E;obtain⟨W,c,a1,a2,a3⟩:=z;rw[E,a1];simp only[mD];rw[bV gw,bX (show(some W).isSome=true from rfl)];obtain⟨b,V⟩:=(D.trans a2).get p x Y;rw[V];simp only[bT];obtain⟨s1,s2,s3⟩:=IJ hM.1 t U cw t' E;rw[show wF x.acI=true from r9 ⟨by rw[Q,O];simp;omega,by rw[Q];unfold yX;omega⟩]
         have ab:cq x.acI (j:Int)=some (some q):=by rw[gu,hx,<-hq];simp
         have ad:vU x.acI (j:Int) (some W)=I++some W::ps:=by
          unfold vU;rw[hx,<-hq];simp
         simp only[b6,ab,bT,ad];unfold fq;simp only[bT,V]
         obtain⟨ae,b1,b2,b3⟩:=pP (k:=k) (i:=i) (s:=s) (ps:=I++some W::ps) (ts:=pre++t'::ts) (nh:=c) ((a2.list J).append (.cons a3 (a2.list q2))) (by
          rw[O,B3] at F;rw[B3];simp only[cn] at F|-
          omega) cw (by
          intro u hu;rcases pX.1 hu with hu|hu
          ·have:=R u (hs.arg u (by rw[O];simp[hu]));omega
          ·rcases jA.1 hu with rfl|hu
           ·have:=Tm.QZ u (M:=M+8192) cw s1 s2;omega
           ·have:=R u (hs.arg u (by rw[O];simp[hu]));omega)
         rw[e2,e3,e4,b1];exact⟨c.length,ae,rfl,(D.trans a2).trans (NE.kp b2),b3⟩
     have:=loop l [] x.acI [] 0 nh rfl rfl rfl (NE.refl _) Z .nil;unfold BO;rw[Tm.zh,bV f]
     have L:Tm.p0 room l=some none->(Tm.mk k i s l).nf=true:=by
      intro h;rw[xJ room,Tm.zh,bV f,h]
     revert this L
     cases Tm.p0 room l with
     |none=>
      rintro⟨c,a1,a2⟩ _;have e:((0:Nat):Int)=0:=rfl;rw[a1];exact⟨c,rfl,a2⟩
     |some o=>
      cases o with
      |none=>
       rintro⟨c,a1,a2⟩ L;rw[a1];simp only[bT,b9];obtain⟨b,V⟩:=a2.get p x Y;rw[V];simp only[bT];exact⟨_,rfl,a2.trans (NE.flag (x:={x with normal:=b}) (a2.node _ _ P) V (L rfl))⟩
      |some l'=>
       rintro⟨N,c,a1,a2,a3⟩ _;rw[a1];exact⟨N,c,rfl,a2,a3⟩
def OJ{M:Int}(L:0<=M/\M<=80000000000):∀(n:Nat) (t:Tm) (p:Nat) (nh:List HC),t.acJ<=n->NR nh p t->Sm M t->t.acJ<=8192->∃d,jI n (some p) nh=some (t.nf,d)/\NE nh d:=by
 intro n
 induction n with
 |zero=>intro t p nh h;have:=t.cu;omega
 |succ n G=>
  intro t p nh hn z hs A;obtain⟨x,D,N,O,P,B,Q,R,H⟩:=z.inv;rw[jI];simp only[bT,D]
  by_cases o:x.normal=true
  ·rw[bX o,H o];exact⟨nh,rfl,NE.refl _⟩
  ·rw[bV o,I2 z hs.ok];simp only[bT];cases t with
   |mk k i s l=>
    by_cases a:(Tm.mk k i s l).root=true
    ·rw[bX a,Tm.Jy,a];exact⟨nh,rfl,NE.refl _⟩
    ·rw[bV a];simp only[Tm.ck] at B;rw[Tm.bY] at hn A;have hlen:=Tm.dm l;have I:x.acI.length=l.length:=B.len;rw[ch cw];simp only[b6,cc]
     have loop:∀(ts:List Tm) (ps:List (Option Nat)) (j:Nat) (e:List HC),(∀t∈ts,t∈l)->NE nh e->sa e ps ts->∃d,cY (λ(E:Int) (q:Option Nat)=>(λ(r:List HC)=>
        b8 (jI n q r) λv g=>
        if v then(some (.next g))else(some ((.ret (false,g)):dJ (List HC) (Bool×List HC))))) ps j e=some (if ts.all Tm.nf then .inl d else .inr (false,d))/\NE nh d:=by
      intro ts
      induction ts with
      |nil=>intro ps j e _ m h;cases h;exact⟨e,rfl,m⟩
      |cons t ts C=>
       intro ps j e hm m h;cases h with
       |cons q1 J=>
        have w:=hm t th;have K:=cy Tm.acJ w;obtain⟨y,a1,a2⟩:=G t _ e cw q1 (hs.arg t w) cw;rw[cM,a1];simp only[bW]
        by_cases c:t.nf=true
        ·rw[bX c];simp only[bT,cS,we,c,yH];exact C _ (j+1) y (λu hu=>hm u (by simp[hu])) (m.trans a2) (a2.list J)
        ·rw[bV c];simp only[bT,Eo,we,c,Va];exact⟨y,rfl,m.trans a2⟩
     obtain⟨d,a1,a2⟩:=loop l x.acI 0 nh (λt h=>h) (NE.refl _) B;rw[a1]
     by_cases f:l.all Tm.nf=true
     ·rw[bX f];simp only[bT,b9];obtain⟨b,F⟩:=a2.get p x D;rw[F]
      have c:(Tm.mk k i s l).nf=true:=by
       rw[Tm.Jy,f];simpa using a
      rw[c];exact⟨_,rfl,a2.trans (NE.flag (x:={x with normal:=b}) (a2.node _ _ z) F c)⟩
     ·rw[bV f]
      have c:(Tm.mk k i s l).nf=false:=by
       rw[Tm.Jy];simp[f]
      rw[c];exact⟨d,rfl,a2⟩
def pM{t:Tm}(h:t.wt<=1000000000):iC t=some (if t.err=0 then(t.acJ:Int)else 0,t.err):=by
 unfold iC Tm.err;rw[tK FU t (by rw[cV];exact h) h]
 by_cases a:t.ok=true
 ·simp only[a,if_true,bW,ep]
  by_cases b:4096<t.acJ
  ·rw[bX b,bX cw];rfl
  ·rw[bV b,bV cw];rfl
 ·simp only[a,bW];rfl
def nr{t:Tm}(h:t.wt<=1000000000):rp t=some t.err:=by
 unfold rp;rw[pM h];rfl
theorem Tm.ea{t:Tm}(h:t.err=0):t.ok=true/\t.acJ<=4096:=by
 unfold Tm.err at h
 split at h
 ·rename_i a
  split at h
  ·omega
  ·exact⟨a,cw⟩
 ·omega
def N7:∀(n:Nat) (t:Tm) (b:Int) (s:Bool),t.acJ<=n->t.ok=true->t.acJ<=1000000->0<=b->b+t.acJ<=100000000->fD n t b (λ(s:Bool) (f:Int) (g:Int)=>ke f g s) s=some (s&&t.acN 536870912):=by
 intro n
 induction n with
 |zero=>intro t b s h;have:=t.cu;omega
 |succ n v=>
  intro t b s h w hn D m;cases t with
  |mk k i ty l=>
   obtain⟨o1,o2,x,y,E⟩:=Tm.jg w;rw[Tm.bY] at h hn m;have hlen:=Tm.dm l;rw[fD];simp only[Tm.ck,Tm.cx,Tm.dK,cc,dX];rw[Tm.dn]
   by_cases e:k=1
   ·have z:=o1 e;subst z;rw[bX e];unfold ke;cases s with
    |true=>simp[Dh];rfl|false=>simp;rfl
   ·rw[bV e];have hi:=x e;subst hi
    have o:dq (cr k 2) (da .i64 b 1) b=b+dD k:=by
     unfold dD
     by_cases p:k=2
     ·subst p;rw[bX rfl];exact cX cw cw
     ·rw[bV p]
      have:cr k 2=false:=by simp[cr,p]
      rw[this];simp
    have A:=gi k;rw[ch (l:=l) cw];simp only[b6,o]
    have loop:∀(ts:List Tm) (j:Nat) (s:Bool),(∀t∈ts,t∈l)->cY (λ(B:Int) (q:Tm)=>(λ(a:Bool)=>
      bU (fD n q (b+dD k) (λ(s:Bool) (f:Int) (g:Int)=>ke f g s) a) λc=>
      some ((.next c):dJ Bool Bool))) ts j s=some (.inl (s&&ts.all (Tm.acN 536870912))):=by
     intro ts
     induction ts with
     |nil=>intro j s _;simp|cons t ts r=>
      intro j s hm;have d:=hm t th;have C:=cy Tm.acJ d;rw[cM,v t _ _ cw (y t d) cw cw cw];simp only[bT,cS];rw[r (j+1) _ λu hu=>hm u (by simp[hu])];simp[Mp]
    rw[loop l 0 s λt h=>h];simp
def Hv{t:Tm}(a:t.ok=true)(hn:t.acJ<=1000000):py t=some (t.acN 536870912):=by
 unfold py og;rw[N7 FU t 0 true (by rw[cV];omega) a hn cw cw];simp
def Tm.z:Tm:=.mk 0 0 (.mk 0 []) []
def NR.UB{nh:List HC}{c:Nat}{st a:fR}(h:HC.c7 nh c=some st):∀n,(∀p t,t.acJ<=n->NR nh p t->NR (mB nh c (HC.ik a)) p t):=by
 have j:=HC.jZ h
 have d:∀q y,HC.b_ nh q=some y->HC.b_ (mB nh c (HC.ik a)) q=some y:=by
  intro q y hy;have e:=HC.kP hy
  have f:c≠q:=by
   rintro rfl;rw[j] at e;cases e
  unfold HC.b_ mB;rw[w4 f,e]
 intro n
 induction n with
 |zero=>intro p t h;have:=t.cu;omega
 |succ n m=>
  intro p t o r;obtain⟨y,v,w,x,z,A,B,C,D⟩:=r.inv
  have b:∀(ts:List Tm) (ps:List (Option Nat)),(∀t∈ts,t.acJ<=n)->sa nh ps ts->sa (mB nh c (HC.ik a)) ps ts:=by
   intro ts
   induction ts with
   |nil=>intro ps _ h;cases h;exact .nil
   |cons t ts g=>
    intro ps hm h;cases h with
    |cons g1 g2=>exact .cons (m _ _ (hm t th) g1) (g _ (λu hu=>hm u (by simp[hu])) g2)
  refine NR.of (d _ _ v) w x z (b _ _ ?_ A) B C D;intro u hu;cases t with
  |mk k i s l=>
   rw[Tm.bY] at o;have:=cy Tm.acJ hu;simp only[Tm.ck] at this;omega
def Bx{nh:List HC}{b:Nat}{st a:fR}(h:HC.c7 nh b=some st):HC.c7 (mB nh b (HC.ik a)) b=some a:=by
 have d:=HC.jZ h;have c:=(jL.1 d).1;unfold HC.c7 mB;simp[c]
structure At (nh:List HC) (s0:Nat) (t:Tm) (m:Int):Prop where
 st:∃p,HC.c7 nh s0=some ⟨some p,m⟩/\NR nh p t
def Ts{M:Int}(i:0<=M/\M<=80000000000){nh:List HC}{d:Nat}{t:Tm}{m:Int}(h:At nh d t m)(hs:Sm M t)(hn:t.acJ<=4096)(hm:0<=m/\m<=1000000):match t.DL (4096-t.acJ)with
  |none=>∃a,jE (some d) nh=some (false,4,a)|some none=>∃a,jE (some d) nh=some (false,0,a)/\At a d t m|some (some g)=>∃a,jE (some d) nh=some (true,0,a)/\At a d g (m+1):=by
 obtain⟨p,e,f⟩:=h.st;obtain⟨x,j,_,_,_,_,k,_⟩:=f.inv;have n:=t.cu;have b:=TA (M:=M) (room:=4096-t.acJ) i cw FU t p nh (by rw[cV];omega) f hs cw;unfold jE wG;simp only[bT,e,j,k];rw[dh cw cw];unfold BO at b
 split at b
 ·rename_i c;obtain⟨a,a1,a2⟩:=b
  try rw[c]
  rw[a1];exact⟨a,rfl⟩
 ·rename_i c;obtain⟨a,a1,a2⟩:=b
  try rw[c]
  rw[a1];exact⟨a,rfl,⟨p,a2.state _ _ e,a2.node _ _ f⟩⟩
 ·rename_i g c;obtain⟨l,a,a1,a2,a3⟩:=b
  try rw[c]
  rw[a1];have g1:=a2.state _ _ e;simp only[mD];rw[bV (by simp[cG])];simp only[g1,bT];rw[cX cw cw];refine⟨_,rfl,⟨l,Bx (Bx g1),?_⟩⟩;exact NR.UB (Bx g1) _ _ _ (fC _) (NR.UB g1 _ _ _ (fC _) a3)
def Tm.norm:Nat->Int->Tm->Tm×Int×Int
 |0,m,t=>if t.nf then(t,m,0)else(Tm.z,0,5)|k+1,m,t=>match t.DL (4096-t.acJ)with
  |none=>(Tm.z,0,4)|some none=>(t,m,0)|some (some a)=>Tm.norm k (m+1) a
def I'{k:Nat}{m:Int}{t:Tm}(h:t.DL (4096-t.acJ)=none):t.norm (k+1) m=(Tm.z,0,4):=by rw[Tm.norm,h]
def x0{k:Nat}{m:Int}{t:Tm}(h:t.DL (4096-t.acJ)=some none):t.norm (k+1) m=(t,m,0):=by rw[Tm.norm,h]
def yj{k:Nat}{m:Int}{t a:Tm}(h:t.DL (4096-t.acJ)=some (some a)):t.norm (k+1) m=a.norm k (m+1):=by rw[Tm.norm,h]
def DU{σ ρ:Type}{F:σ->Option (dJ σ ρ)}:∀{n m:Nat} {s:σ} {o:σ⊕ρ},n<=m->mJ F n s=some o->mJ F m s=some o
 |0,_,_,_,_,h=>by cases h
 |n+1,0,_,_,hm,_=>by omega|n+1,m+1,s,o,hm,h=>by
  rw[lv] at h|-;obtain⟨c,b,a⟩:=cJ h;rw[b];simp only[bT];cases c with
  |next d=>exact DU cw a|Fy d=>exact a|ret r=>exact a
def Jb(n:Nat)(steps:Int)(I:0<=steps/\steps<=65536):∀(k:Nat) (m:Int) (t:Tm) (nh:List HC),(k:Int)=steps-m->0<=m->At nh n t m->Sm (536870912+8192*m) t->t.acJ<=4096->∃o,mJ (λ(a:List HC)=>
   bU (HC.c7 a n) λq=>
   if(tD q.steps steps) then(
   gM (jE (some n) a) λs i c=>
   if(cG i 0) then(some (.ret ((Tm.mk 0 0 (Ty.mk 0 []) []),0,i)))
   else(if s then(some (.next c))
   else(bU (HC.c7 c n) λj=>
   bU (iP FU j.term c) λu=>
   some (.ret (u,j.steps,0)))))
   else(some ((.Fy a):dJ (List HC) (Tm×Int×Int)))) (k+1) nh=some o/\dI (λ(a:List HC)=>
    bU (HC.c7 a n) λv=>
    b8 (jI FU v.term a) λw f=>
    if w then(
    bU (HC.c7 f n) λl=>
    bU (iP FU l.term f) λx=>
    some (x,l.steps,0))
    else(some ((Tm.mk 0 0 (Ty.mk 0 []) []),0,5))) (λr=>some r) o=some (t.norm k m):=by
 intro k
 induction k with
 |zero=>
  intro m t nh B hm g hs hn;obtain⟨p,y,z⟩:=g.st;refine⟨.inl nh,?_,?_⟩
  ·rw[lv];simp only[y,bT];rw[bV (by rw[j6];omega)];rfl
  ·rw[b9];simp only[y,bT];obtain⟨d,a1,a2⟩:=OJ (M:=536870912+8192*m) cw FU t p nh (by rw[cV];omega) z hs cw;rw[a1];simp only[bW,Tm.norm]
   by_cases h:t.nf=true
   ·rw[bX h,bX h];simp only[a2.state _ _ y,bT];rw[Nr (M:=536870912+8192*m) d FU t p (by rw[cV];omega) hs (a2.node _ _ z)];rfl
   ·rw[bV h,bV h];rfl
 |succ k C=>
  intro m t nh B hm g hs hn;obtain⟨p,y,z⟩:=g.st;have b:=Ts (M:=536870912+8192*m) cw g hs hn cw;rw[lv];simp only[y,bT];rw[bX (by rw[j6];omega)]
  split at b
  ·rename_i e;obtain⟨d,a1⟩:=b;rw[I' e,a1];exact⟨_,rfl,rfl⟩
  ·rename_i e;obtain⟨d,a1,a2⟩:=b;obtain⟨D,E,F⟩:=a2.st;rw[x0 e,a1];simp only[mD];rw[bV gw,bV gw];simp only[E,bT];rw[Nr (M:=536870912+8192*m) d FU t D (by rw[cV];omega) hs F];exact⟨_,rfl,rfl⟩
  ·rename_i A e;obtain⟨d,a1,a2⟩:=b;rw[yj e,a1];simp only[mD];rw[bV gw];simp only[if_true,bT,cS];obtain⟨G,H,c3⟩:=IJ (M:=536870912+8192*m) cw t hs cw A e;exact C (m+1) A d cw cw a2 ⟨G,by rw[show 536870912+8192*(m+1)=536870912+8192*m+8192 by omega];exact H,cw⟩ cw
def Sm.start{t:Tm}(h:t.err=0)(a:t.acN 536870912=true):Sm 536870912 t:=⟨(Tm.ea h).1,a,by have:=(Tm.ea h).2;omega⟩
def vx{t:Tm}(hw:t.wt<=1000000000)(steps:Int):kg t steps=some (if t.err=0 then(if 0<=steps/\steps<=65536/\t.acN 536870912 then t.norm steps.toNat 0 else(Tm.z,0,1))else(Tm.z,0,t.err)):=by
 unfold kg;rw[nr hw];simp only[bT]
 by_cases he:t.err=0
 ·rw[bV (by simp[he]),bX he];obtain⟨g,hn⟩:=Tm.ea he;simp only[cc]
  by_cases e:steps<0
  ·rw[bX ((j6 _ _).2 e),bX trivial,bV (λh=>absurd h.1 cw)];rfl
  ·rw[bV (by rw[j6];exact e)]
   by_cases f:65536<steps
   ·rw[bX ((ep _ _).2 f),bX trivial,bV (λh=>absurd h.2.1 cw)];rfl
   ·rw[bV (by rw[ep];exact f),Hv g cw];simp only[bT]
    by_cases a:t.acN 536870912=true
    ·have c:mq (t.acN 536870912)=false:=by rw[a];rfl
     rw[bV (by rw[c];decide),bX ⟨cw,cw,a⟩];have b:=Sm.start he a;obtain⟨p,nh,a1,a2,a3⟩:=Tu (M:=536870912) cw FU t [] (by rw[cV];omega) b;rw[a1];simp only[bW];have d:At (nh++[HC.ik (fR.mk (some p) 0)]) nh.length t 0:=⟨p,by unfold HC.c7;simp,a3.app⟩;obtain⟨o,i,j⟩:=Jb nh.length steps cw steps.toNat 0 t _ cw cw d (by simpa using b) hn;have k:=DU (m:=FU) (by rw[cV];omega) i;rw[k];exact j
    ·have c:mq (t.acN 536870912)=true:=by simp[a]
     rw[bX c,bV (λh=>a h.2.2)];rfl
 ·rw[bX (by simp[he]),bV he];rfl
mutual
def Fm.acJ:Fm->Nat
 |.mk _ _ ts l=>1+cn Tm.acJ ts+Fm.lP l
def Fm.lP:List Fm->Nat
 |[]=>0|t::l=>t.acJ+Fm.lP l
end
def Fm.pw(l:List Fm):Fm.lP l=cn Fm.acJ l:=by
 induction l with
 |nil=>rfl|cons t l a=>simp[Fm.lP,cn,a]
theorem Fm.bY(k:Int)(s:Ty)(ts:List Tm)(l:List Fm):(Fm.mk k s ts l).acJ=1+cn Tm.acJ ts+cn Fm.acJ l:=by rw[Fm.acJ,Fm.pw]
def Fm.cu(t:Fm):1<=t.acJ:=by cases t;rw[Fm.acJ];omega
def Fm.dm(l:List Fm):l.length<=cn Fm.acJ l:=eB _ _ λt _=>t.cu
mutual
def Fm.wt:Fm->Nat
 |.mk _ s ts l=>1+s.acJ+cn Tm.wt ts+Fm.LK l
def Fm.LK:List Fm->Nat
 |[]=>0|t::l=>t.wt+Fm.LK l
end
def Fm.BZ(l:List Fm):Fm.LK l=cn Fm.wt l:=by
 induction l with
 |nil=>rfl|cons t l a=>simp[Fm.LK,cn,a]
def Fm.fo(k:Int)(s:Ty)(ts:List Tm)(l:List Fm):(Fm.mk k s ts l).wt=1+s.acJ+cn Tm.wt ts+cn Fm.wt l:=by rw[Fm.wt,Fm.BZ]
def Fm.gK(t:Fm):1<=t.wt:=by cases t;rw[Fm.wt];omega
def Fm.mh(l:List Fm):l.length<=cn Fm.wt l:=eB _ _ λt _=>t.gK
def Fm.ind{p:Fm->Prop}(h:∀k s ts l,(∀t∈l,p t)->p (.mk k s ts l))(t:Fm):p t:=by
 have:∀n (t:Fm),t.acJ<=n->p t:=by
  intro n
  induction n with
  |zero=>intro t a;have:=t.cu;omega
  |succ n b=>
   intro t a;cases t with
   |mk k s ts l=>
    rw[Fm.bY] at a;exact h k s ts l λu hu=>b u (by have:=cy Fm.acJ hu;omega)
 exact this _ t (fC _)
def Fm.fE(t:Fm):t.acJ<=t.wt:=by
 induction t using Fm.ind with
 |h k s ts l a=>rw[Fm.bY,Fm.fo];have:=iu a;have:=iu (f:=Tm.acJ) (g:=Tm.wt) (l:=ts) λx _=>x.fE;omega
def gL(k:Int):Bool:=decide (k=4\/k=5\/k=6\/k=7)
def qB(k:Int):Int:=if gL k then 1 else 0
def yP(k:Int):0<=qB k/\qB k<=1:=by unfold qB;split<;>omega
def jT(k:Int):je k=some (gL k):=by
 unfold je gL
 congr 1
 rw[AS];simp
def nP(f:Fm):kO f=some (qB f.acH):=by
 unfold kO qB;rw[jT];simp only[bT]
 split<;>rfl
def Fm.node(k:Int)(s:Ty)(a n:Nat):Bool:=
 if k=1 then s.oG&&decide (a=2)&&decide (n=0)
 else if k=2\/k=3 then s.oG&&decide (a=0)&&decide (n=2)
 else gL k&&decide (s.err=0)&&decide (a=0)&&decide (n=1)
mutual
def Fm.ok:Fm->Bool
 |.mk k s ts l=>Fm.node k s ts.length l.length&&ts.all Tm.ok&&Fm.GI l
def Fm.GI:List Fm->Bool
 |[]=>true|t::l=>t.ok&&Fm.GI l
end
def Fm.wZ(l:List Fm):Fm.GI l=l.all Fm.ok:=by
 induction l with
 |nil=>rfl|cons t l a=>simp[Fm.GI,a]
theorem Fm.eo(k:Int)(s:Ty)(ts:List Tm)(l:List Fm):(Fm.mk k s ts l).ok=(Fm.node k s ts.length l.length&&ts.all Tm.ok&&l.all Fm.ok):=by rw[Fm.ok,Fm.wZ]
def Fm.err(t:Fm):Int:=if t.ok then(if 4096<t.acJ then 4 else 0)else 2
def en{α:Type}{l:List α}:(l.length:Int)=0↔l=[]:=by cases l<;>simp;omega
def gQ{α:Type}{l:List α}(h:(l.length:Int)=1):∃a,l=[a]:=by
 match l,h with
 |[a],_=>exact⟨a,rfl⟩|[],h=>simp at h
 |_::_::_,h=>simp at h;omega
def od{α:Type}{l:List α}(h:(l.length:Int)=2):∃a b,l=[a,b]:=by
 match l,h with
 |[a,b],_=>exact⟨a,b,rfl⟩|[],h=>simp at h
 |[_],h=>simp at h
 |_::_::_::_,h=>simp at h;omega
def wh{t:Tm}(h:t.wt<=1000000000):iN FU t=some t.ok:=xP FU t (by rw[cV];exact h) h
def wX:∀(n:Nat) (t:Fm),t.wt<=n->t.wt<=1000000000->km n t=some t.ok:=by
 intro n
 induction n with
 |zero=>intro t h;have:=t.gK;omega
 |succ n j=>
  intro t h i;cases t with
  |mk k s ts l=>
   rw[Fm.fo] at h i;rw[km,Fm.eo];simp only[Fm.ck,Fm.cx,Fm.eI,Fm.cT,cc,jY,pE,dX,dE,ux,jT,kz (t:=s) cw,bT,cD,dQ]
   by_cases o:k=1
   ·simp only[o,if_true,Fm.node]
    by_cases g:(l.length:Int)=0
    ·have:=en.1 g;subst this;cases f:s.oG with
     |false=>simp|true=>
      by_cases d:(ts.length:Int)=2
      ·obtain⟨a,b,rfl⟩:=od d;simp only[cn] at h i;simp only[d,if_true,fM,kx,bT];rw[wh (t:=a) cw,wh (t:=b) cw];cases c:a.ok<;>cases e:b.ok<;>simp[c,e]
      ·have c:¬ts.length=2:=cw
       simp[d,c]
    ·have f:¬l.length=0:=cw
     simp[g,f]
   ·simp only[o,fG,Fm.node]
    by_cases g:k=2\/k=3
    ·simp only[g,if_true]
     by_cases f:(ts.length:Int)=0
     ·have:=en.1 f;subst this;cases d:s.oG with
      |false=>simp|true=>
       by_cases c:(l.length:Int)=2
       ·obtain⟨a,b,rfl⟩:=od c;simp only[cn] at h i;simp only[c,if_true,fM,kx,bT];rw[j a cw cw,j b cw cw];cases e:a.ok<;>cases m:b.ok<;>simp[e,m]
       ·have e:¬l.length=2:=cw
        simp[c,e]
     ·have d:¬ts.length=0:=cw
      simp[f,d]
    ·simp only[g,fG];cases f:gL k with
     |false=>simp|true=>
      by_cases d:(ts.length:Int)=0
      ·have:=en.1 d;subst this
       by_cases c:s.err=0
       ·by_cases e:(l.length:Int)=1
        ·obtain⟨a,rfl⟩:=gQ e;simp only[cn] at h i;simp only[c,e,if_true,fM,bT];rw[j a cw cw];simp
        ·have m:¬l.length=1:=cw
         simp[c,e,m]
       ·simp[c]
      ·have c:¬ts.length=0:=cw
       simp[d,c]
def lI:∀(n:Nat) (t:Fm),t.acJ<=n->t.acJ<=1000000000->iR n t=some (t.acJ:Int):=by
 intro n
 induction n with
 |zero=>intro t h;have:=t.cu;omega
 |succ n b=>
  intro t h c;cases t with
  |mk k s ts l=>
   rw[Fm.bY] at h c;have f:=Fm.dm l;have d:=Tm.dm ts;rw[iR];simp only[Fm.ck,Fm.eI,cc,ch (l:=l) cw,ch (l:=ts) cw,b6]
   have e:=nK (ρ:=Int) (F:=λ(j:Int) (x:Tm) (v:Int)=>bU (dG FU x) λy=>some (dJ.next (da .i64 v y))) Tm.acJ ts 0 1 cw (by
    intro j x v a;have:=cy Tm.acJ a;rw[lQ FU x (by rw[cV];omega) cw]
    rfl)
   have k2:=nK (ρ:=Int) (F:=λ(j:Int) (x:Fm) (v:Int)=>bU (iR n x) λy=>some (dJ.next (da .i64 v y))) Fm.acJ l 0 (1+cn Tm.acJ ts) cw (by
    intro j x v a;have:=cy Fm.acJ a;rw[b x cw cw]
    rfl)
   rw[show(1:Int)=((1:Nat):Int)from rfl,e];simp only[bT,b9];rw[k2];simp[Fm.bY]
def iA{t:Fm}(h:t.wt<=1000000000):hY t=some t.err:=by
 have:=t.fE;unfold hY Fm.err;rw[wX FU t (by rw[cV];exact h) h,lI FU t (by rw[cV];omega) cw];cases t.ok with
 |false=>simp|true=>by_cases a:4096<t.acJ<;>simp[a]<;>omega
def Fx(f:Fm)(h:f.wt<=1000000000):pD f=some (Fm.node f.acH f.b7 f.cv.length f.acI.length):=by
 cases f with
 |mk k s ts l=>
  rw[Fm.fo] at h;show pD (.mk k s ts l)=some (Fm.node k s ts.length l.length)
  have d:(cr (ts.length:Int) 2&&cr (l.length:Int) 0)=(decide (ts.length=2)&&decide (l.length=0)):=by
   rw[AS];simp only[ed,dX,mH];omega
  have e:(cr (ts.length:Int) 0&&cr (l.length:Int) 2)=(decide (ts.length=0)&&decide (l.length=2)):=by
   rw[AS];simp only[ed,dX,mH];omega
  have g:(cr (ts.length:Int) 0&&cr (l.length:Int) 1)=(decide (ts.length=0)&&decide (l.length=1)):=by
   rw[AS];simp only[ed,dX,mH];omega
  unfold pD;simp only[Fm.ck,Fm.cx,Fm.eI,Fm.cT,cc,jY,pW,pE,dX,dE,jJ (t:=s) cw,p9,bT,bW,cg,d,e,g];unfold Fm.node
  by_cases b:k=1
  ·cases c:s.oG<;>simp[b]
  ·by_cases c:k=2\/k=3
   ·cases a:s.oG<;>simp[b,c]
   ·by_cases a:k=4\/k=5\/k=6\/k=7
    ·have i:gL k=true:=by simp[gL,a]
     by_cases j:s.err=0<;>simp[b,c,a,j,i]
    ·have i:gL k=false:=by simp[gL,a]
     simp[b,c,a,i]
def xg:∀(n:Nat) (t:Fm),t.wt<=n->t.wt<=1000000000->gO n t=some (if t.ok then((t.acJ:Int),true)else(0,false)):=by
 intro n
 induction n with
 |zero=>intro t h;have:=t.gK;omega
 |succ n i=>
  intro t h g;cases t with
  |mk k s ts l=>
   have m:=Fx (.mk k s ts l) g;rw[Fm.fo] at h g;have r:=Fm.mh l;have o:=Tm.mh ts;have hn:cn Tm.acJ ts<=cn Tm.wt ts:=iu λx _=>x.fE;have p:cn Fm.acJ l<=cn Fm.wt l:=iu λx _=>x.fE
   have q:cY (λ(e:Int) (a:Tm) (b:Int)=>b8 (gW FU a) λc d=>if d then some (dJ.next (da .i64 b c))else some (dJ.ret ((0:Int),false))) ts 0 1=if ts.all Tm.ok then some (.inl ((1+cn Tm.acJ ts:Nat):Int))else some (.inr (0,false)):=by
    refine sH Tm.acJ Tm.ok _ ts 0 1 cw ?_;intro j x v f;have:=cy Tm.wt f;rw[tK FU x (by rw[cV];omega) cw];cases x.ok<;>simp
   have k2:cY (λ(e:Int) (a:Fm) (b:Int)=>b8 (gO n a) λc d=>if d then some (dJ.next (da .i64 b c))else some (dJ.ret ((0:Int),false))) l 0 ((1+cn Tm.acJ ts:Nat):Int)=if l.all Fm.ok then some (.inl ((1+cn Tm.acJ ts+cn Fm.acJ l:Nat):Int))else some (.inr (0,false)):=by
    refine sH Fm.acJ Fm.ok _ l 0 _ cw ?_;intro j x v f;have:=cy Fm.wt f;rw[i x cw cw];cases x.ok<;>simp
   rw[gO,m];simp only[Fm.ck,Fm.cx,Fm.eI,Fm.cT,cc,ch (l:=l) cw,ch (l:=ts) cw,b6,bT,q,Fm.eo,Fm.bY];cases u:Fm.node k s ts.length l.length with
   |false=>simp|true=>
    cases w:ts.all Tm.ok with
    |false=>simp|true=>
     simp only[if_true,bT,b9,k2,yH];cases y:l.all Fm.ok<;>simp
def e9{t:Fm}(h:t.wt<=1000000000):eL t=some (if t.err=0 then(t.acJ:Int)else 0,t.err):=by
 unfold eL Fm.err;rw[xg FU t (by rw[cV];exact h) h];cases t.ok with
 |false=>simp|true=>
  by_cases a:4096<t.acJ
  ·simp[a];omega
  ·simp[a];omega
def er{t:Fm}(h:t.wt<=1000000000):fA t=some t.err:=by
 unfold fA;rw[e9 h];rfl
def Gi:∀(n:Nat) (t:Fm),t.wt<=n->t.wt<=1000000000->jN n t=some t:=by
 intro n
 induction n with
 |zero=>intro t h;have:=t.gK;omega
 |succ n c=>
  intro t h d;cases t with
  |mk k s ts l=>
   rw[Fm.fo] at h d;have f:=Fm.mh l;have e:=Tm.mh ts;rw[jN];simp only[Fm.ck,Fm.cx,Fm.eI,Fm.cT,cc,ch (l:=l) cw,ch (l:=ts) cw,b6,gx (t:=s) cw,bT];rw[gG id ts 0 [] aae]
   ·simp only[bT,b9];rw[gG id l 0 [] aae]
    ·simp
    ·intro j x v a b;have:=cy Fm.wt a;rw[c x cw cw];simp[dc (l:=v) (m:=[x]) (by simpa using b)]
   ·intro j x v a b;have:=cy Tm.wt a;rw[rf (t:=x) cw];simp[dc (l:=v) (m:=[x]) (by simpa using b)]
def nj{t:Fm}(h:t.wt<=1000000000):jN FU t=some t:=Gi FU t (by rw[cV];exact h) h
mutual
def Fm.has:Fm->Bool
 |.mk k _ _ l=>if k=1 then false else if k=2 then Fm.H6 l else if k=5 then true else Fm.Dt l
def Fm.H6:List Fm->Bool
 |[]=>false|f::l=>f.has||Fm.H6 l
def Fm.Dt:List Fm->Bool
 |[]=>false|[f]=>f.has|_::f::l=>Fm.Dt (f::l)
end
def MV(k:Int)(a b:Ty):Ty×Bool×Int:=if(Ty.mk k [a,b]).err≠0 then(.mk 0 [],false,(Ty.mk k [a,b]).err)else(.mk k [a,b],true,0)
def ZX(first last:Ty×Bool×Int):Ty×Bool×Int:=
 if first.2.2≠0\/first.2.1=false then(last.1,last.2.1,first.2.2)else if last.2.1 then MV 3 first.1 last.1 else(first.1,true,0)
def Y7(first last:Ty×Bool×Int):Ty×Bool×Int:=
 if first.2.2≠0\/first.2.1=false then(last.1,true,first.2.2)else MV 4 first.1 last.1
def U_(k:Int)(s:Ty)(first last:Ty×Bool×Int):Ty×Bool×Int:=
 if last.2.2≠0 then(.mk 0 [],false,last.2.2)
 else if k=2 then ZX first last
 else if k=5 then(if last.2.1 then MV 3 s last.1 else(s,true,0))
 else if last.2.1 then(if k=3 then Y7 first last else if k=4 then MV 4 s last.1 else(last.1,true,0))
 else(.mk 0 [],false,0)
def Wo:Ty×Bool×Int:=(.mk 0 [],false,0)
mutual
def Fm.ct:Fm->Ty×Bool×Int
 |.mk k s _ l=>if k=1 then Wo else U_ k s (Fm.Zf l) (Fm.T6 l)
def Fm.Zf:List Fm->Ty×Bool×Int
 |[]=>Wo|f::_=>f.ct
def Fm.T6:List Fm->Ty×Bool×Int
 |[]=>Wo|[f]=>f.ct|_::f::l=>Fm.T6 (f::l)
end
def Fm.Nj(k:Int)(s:Ty)(ts:List Tm)(a b:Fm):(Fm.mk k s ts [a,b]).has=if k=1 then false else if k=2 then a.has||b.has else if k=5 then true else b.has:=by
 rw[Fm.has];simp[Fm.H6,Fm.Dt]
def Fm.M6(k:Int)(s:Ty)(ts:List Tm)(a:Fm):(Fm.mk k s ts [a]).has=if k=1 then false else if k=5 then true else a.has:=by
 rw[Fm.has];simp only[Fm.H6,Fm.Dt,Bool.or_false]
 by_cases b:k=2
 ·subst b;simp
 ·simp[b]
def Fm.has_eq(s:Ty)(ts:List Tm)(l:List Fm):(Fm.mk 1 s ts l).has=false:=by rw[Fm.has];simp
def Fm.kV{p:Fm->Prop}(n:∀a b:Tm,a.ok=true->b.ok=true->p (.mk 1 (.mk 0 []) [a,b] []))
  (o:∀(k:Int) (a b:Fm),k=2\/k=3->a.ok=true->b.ok=true->p a->p b->p (.mk k (.mk 0 []) [] [a,b]))
  (q:∀(k:Int) (s:Ty) (a:Fm),k=4\/k=5\/k=6\/k=7->s.err=0->a.ok=true->p a->p (.mk k s [] [a])) (f:Fm) (g:f.ok=true):p f:=by
 induction f using Fm.ind with
 |h k s ts l i=>
  rw[Fm.eo] at g;simp only[ed,ie] at g;obtain⟨⟨hn,d⟩,c⟩:=g;unfold Fm.node at hn
  split at hn
  ·rename_i j;subst j;simp only[ed,mH,Ty.iI] at hn;obtain⟨⟨rfl,e⟩,m⟩:=hn;obtain⟨a,b,rfl⟩:=od (l:=ts) cw;have:=SE.1 m;subst this;exact n a b (d a th) (d b th)
  ·split at hn
   ·rename_i j;simp only[ed,mH,Ty.iI] at hn;obtain⟨⟨rfl,e⟩,m⟩:=hn;obtain⟨a,b,rfl⟩:=od (l:=l) cw;have:=SE.1 e;subst this;exact o k a b j (c a th) (c b th) (i a th (c a th)) (i b th (c b th))
   ·simp only[ed,mH] at hn;obtain⟨⟨⟨r,hs⟩,e⟩,m⟩:=hn;obtain⟨a,rfl⟩:=gQ (l:=l) cw;have:=SE.1 e;subst this;refine q k s a ?_ hs (c a th) (i a th (c a th));simpa[gL] using r
theorem Ty.hB{t:Ty}(h:t.err=0):t.ok=true/\t.acJ<=64:=by
 unfold Ty.err at h
 split at h
 ·split at h
  ·omega
  ·exact⟨‹_›,cw⟩
 ·omega
theorem Ty.oo{t:Ty}(h:t.ok=true)(a:t.acJ<=64):t.err=0:=by unfold Ty.err;rw[bX h,bV cw]
def Ty.ok_two{k:Int}(c:k=3\/k=4){a b:Ty}(d:a.ok=true)(e:b.ok=true):(Ty.mk k [a,b]).ok=true:=by
 rw[Ty.eo]
 have:¬(k=1\/k=2\/k=5):=cw
 simp[Ty.want,c,this,d,e]
theorem Ty.ym(k:Int)(a b:Ty):(Ty.mk k [a,b]).acJ=1+a.acJ+b.acJ:=by rw[Ty.bY];simp[cn];omega
theorem Fm.ea{f:Fm}(h:f.err=0):f.ok=true/\f.acJ<=4096:=by
 unfold Fm.err at h
 split at h
 ·split at h
  ·omega
  ·exact⟨‹_›,cw⟩
 ·omega
def Fm.Xe(f:Fm):Ty×Int:=if f.err≠0 then(.mk 0 [],f.err)else if f.ct.2.2≠0 then(.mk 0 [],f.ct.2.2)else(if f.has then f.ct.1 else .mk 5 [],0)
def BY:∀(n:Nat) (f:Fm),f.acJ<=n->f.ok=true->gY n f=some f.has:=by
 intro n
 induction n with
 |zero=>intro f h;have:=f.cu;omega
 |succ n e=>
  intro f h q;refine Fm.kV (p:=λf=>f.acJ<=n+1->gY (n+1) f=some f.has) ?_ ?_ ?_ f q h
  ·intro a b _ _ _;rw[gY,Fm.has_eq];rfl
  ·intro k a b r g t _ _ hn;rw[Fm.bY] at hn;simp only[cn] at hn;have d:=e a cw g;have i:=e b cw t
   have c:k≠1:=cw
   have j:k≠5:=cw
   have l:cq [a,b] (di .i64 (cE [a,b]) 1)=some b:=by
    rw[dh th th];rfl
   have u:cq [a,b] 0=some a:=rfl;have v:cq [a,b] 1=some b:=rfl;rw[gY,Fm.Nj,bV c];simp only[Fm.ck,Fm.cx,dX,c,j,fG,l,u,v,bT,i,d,cc]
   by_cases o:k=2
   ·simp only[o,if_true];cases a.has<;>simp
   ·simp[o]
  ·intro k s a r hs g _ hn;rw[Fm.bY] at hn;simp only[cn] at hn;have d:=e a cw g
   have c:k≠1:=cw
   have m:k≠2:=cw
   have l:cq [a] (di .i64 (cE [a]) 1)=some a:=by
    rw[dh th th];rfl
   rw[gY,Fm.M6,bV c];simp only[Fm.ck,Fm.cx,dX,c,m,fG,l,bT,d]
   by_cases w:k=5<;>simp[w]
def BB(f:Fm)(h:f.wt<=1000000000):mQ f=some (if f.err≠0 then(false,f.err)else(f.has,0)):=by
 unfold mQ;rw[iA h];simp only[bT,cg]
 by_cases he:f.err=0
 ·rw[BY FU f (by rw[cV];have:=f.fE;omega) (Fm.ea he).1];simp[he]
 ·simp[he]
theorem Fm.oo{f:Fm}(h:f.ok=true)(a:f.acJ<=4096):f.err=0:=by unfold Fm.err;rw[bX h,bV cw]
def Ty.nat:Ty:=.mk 1 []
def Ty.lk:Ty:=.mk 2 []
def Ty.unit:Ty:=.mk 5 []
def Ty.fn(a b:Ty):Ty:=.mk 4 [a,b]
def Ty.pr(a b:Ty):Ty:=.mk 3 [a,b]
def Ty.z:Ty:=.mk 0 []
inductive cQ:List Ty->Tm->Ty->Prop
 |var {g t} (i:Nat):i<g.length->g[g.length-1-i]?=some t->cQ g (.mk 1 i .z []) t|lam {g s b t}:(Ty.fn s t).err=0->cQ (g++[s]) b t->cQ g (.mk 2 0 s [b]) (.fn s t)|app {g f a s t}:cQ g f (.fn s t)->cQ g a s->cQ g (.mk 3 0 .z [f,a]) t|zero {g}:cQ g (.mk 4 0 .z []) .nat|succ {g a}:cQ g a .nat->cQ g (.mk 5 0 .z [a]) .nat|rW {g t b s n}:t.err=0->cQ g b t->cQ g s (.fn .nat (.fn t t))->cQ g n .nat->cQ g (.mk 6 0 t [b,s,n]) t|nil {g}:cQ g (.mk 7 0 .z []) .lk|cons {g a b}:cQ g a .nat->cQ g b .lk->cQ g (.mk 8 0 .z [a,b]) .lk|fold {g t b s n}:t.err=0->cQ g b t->cQ g s (.fn .nat (.fn .lk (.fn t t)))->cQ g n .lk->cQ g (.mk 9 0 t [b,s,n]) t|pair {g a b s t}:(Ty.pr s t).err=0->cQ g a s->cQ g b t->cQ g (.mk 10 0 .z [a,b]) (.pr s t)|fst {g a s t}:cQ g a (.pr s t)->cQ g (.mk 11 0 .z [a]) s|snd {g a s t}:cQ g a (.pr s t)->cQ g (.mk 12 0 .z [a]) t|unit {g}:cQ g (.mk 13 0 .z []) .unit
theorem Ty.oK:Ty.z.oG=true:=rfl
def Ty.qA{k:Int}(c:k=3\/k=4){a b:Ty}(h:(Ty.mk k [a,b]).err=0):a.err=0/\b.err=0:=by grind[Ty.hB,Ty.eo,Ty.ym,Ty.oo]
def cQ.ok{g:List Ty}{x:Tm}{t:Ty}(h:cQ g x t):x.ok=true:=by
 induction h with
 |var i d f=>grind[Tm.eo,Tm.node,eF,hU,Ty.oK]|lam d _ c=>have:=(Ty.qA (.inr rfl) d).1;simp[Tm.eo,Tm.node,eF,hU,this,c]
 |app _ _ a b=>simp[Tm.eo,Tm.node,eF,hU,Ty.oK,a,b]|zero=>simp[Tm.eo,Tm.node,eF,hU,Ty.oK]|succ _ c=>simp[Tm.eo,Tm.node,eF,hU,Ty.oK,c]|rW d _ _ _ a b e=>grind[Tm.eo,Tm.node,eF,hU]|nil=>simp[Tm.eo,Tm.node,eF,hU,Ty.oK]|cons _ _ a b=>simp[Tm.eo,Tm.node,eF,hU,Ty.oK,a,b]|fold d _ _ _ a b e=>grind[Tm.eo,Tm.node,eF,hU]|pair _ _ _ a b=>simp[Tm.eo,Tm.node,eF,hU,Ty.oK,a,b]|fst _ c=>simp[Tm.eo,Tm.node,eF,hU,Ty.oK,c]|snd _ c=>simp[Tm.eo,Tm.node,eF,hU,Ty.oK,c]|unit=>simp[Tm.eo,Tm.node,eF,hU,Ty.oK]
def Tm.iB(t:Tm):∀{m n:Int},m<=n->t.acN m=true->t.acN n=true:=by
 induction t using Tm.ind with
 |h k i s l a=>grind[Tm.dn]
def cQ.acN{g:List Ty}{x:Tm}{t:Ty}(h:cQ g x t):∀m:Int,((g.length+x.acJ:Nat):Int)<=m->x.acN m=true:=by
 induction h with
 |var i e f=>grind[Tm.bY,cn,Tm.dn]|lam _ _ c=>grind[Tm.bY,cn,Tm.dn]|zero|nil|unit=>grind[Tm.bY,cn,Tm.dn]|succ _ c|fst _ c|snd _ c=>grind[Tm.bY,cn,Tm.dn]|app _ _ a b|cons _ _ a b|pair _ _ _ a b=>grind[Tm.bY,cn,Tm.dn]|rW _ _ _ _ a b d|fold _ _ _ _ a b d=>grind[Tm.bY,cn,Tm.dn]
def Et{α:Type}{f g:α->Nat}{c:Nat}{l:List α}(h:∀x∈l,f x<=c*g x):cn f l<=c*cn g l:=by
 induction l with
 |nil=>simp[cn]|cons x l a=>simp only[cn,LC];have:=h x th;have:=a λy hy=>h y (by simp[hy]);omega
def Tm.eO(t:Tm)(h:t.ok=true):t.wt<=65*t.acJ:=by
 induction t using Tm.ind with
 |h k i s l c=>
  rw[Tm.eo] at h;simp only[ed,ie] at h;rw[Tm.fo,Tm.bY,LC];have d:=Et λx b=>c x b (h.2 x b)
  have e:s.acJ<=64:=by
   have:=h.1;simp only[Tm.node,ed] at this;have a:=this.2
   split at a
   ·simp only[mH] at a;exact(Ty.hB a).2
   ·grind[Ty.iI,Ty.bY,cn]
  omega
def Fm.eO(f:Fm)(h:f.ok=true):f.wt<=65*f.acJ:=by
 induction f using Fm.ind with
 |h k s ts l b=>
  rw[Fm.eo] at h;simp only[ed,ie] at h;rw[Fm.fo,Fm.bY,LC,LC];have d:=Et λx a=>b x a (h.2 x a);have e:=Et (f:=Tm.wt) (g:=Tm.acJ) (c:=65) (l:=ts) λx a=>x.eO (h.1.2 x a)
  have i:s.acJ<=64:=by
   have:=h.1.1;unfold Fm.node at this
   split at this
   ·grind[Ty.iI,Ty.bY,cn]
   ·split at this
    ·grind[Ty.iI,Ty.bY,cn]
    ·simp only[ed,mH] at this;exact(Ty.hB this.1.1.2).2
  omega
structure cH.wf (d:cH):Prop where
 len:d.l.length<=1000
 lo:0<=d.ua
 hi:d.ua<=d.l.length
def Oi(x n:Int)(c:1<=n)(d:n<=1000000000):∃y,E7 x n=some y/\0<=y/\y<n:=by
 unfold E7;simp only[P4 (b:=n) cw];refine⟨_,rfl,?_⟩;unfold QA
 have e:(x.tmod n).natAbs<n.natAbs:=by
  rw[Int.natAbs_tmod];exact S1 _ cw
 rw[cX cw cw]
 have a:0<=x.tmod n+n:=cw
 exact⟨Int.tmod_nonneg _ a,Int.tmod_lt_of_pos _ cw⟩
def oN(d:cH)(a:d.wf)(n:Int)(c:1<=n)(e:n<=1000000000):∃x b,eQ d n=some (x,b)/\0<=x/\x<n/\b.wf:=by
 unfold eQ;simp only[jY,pE,j6,fF,dE]
 by_cases f:n<1\/(d.l.length:Int)<=d.ua
 ·grind
 ·rw[bV f];obtain⟨y,hy,_⟩:=Ba (l:=d.l) a.lo cw;obtain⟨z,g,h,i⟩:=Oi y n c e;rw[hy];simp only[bT,g];have:=a.len;have:=a.lo;rw[cX cw cw];exact⟨z,_,rfl,h,i,⟨a.len,by show 0<=d.ua+1;omega,by show d.ua+1<=(d.l.length:Int);omega⟩⟩
def ec:ib=some .nat:=rfl
def et:lu=some .lk:=rfl
def FW:sG=some .unit:=rfl
def wm{a b:Ty}(c:a.acJ<=1000000000)(d:b.acJ<=1000000000):sb a b=some (.pr a b):=by
 unfold sb;rw[gx c,gx d];rfl
def f_{a b:Ty}(c:a.acJ<=1000000000)(d:b.acJ<=1000000000):i_ a b=some (.fn a b):=by
 unfold i_;rw[gx c,gx d];rfl
def Ty.P6:Ty.nat.ok=true:=by unfold Ty.nat;rw[Ty.eo];rfl
def Ty.Q0:Ty.lk.ok=true:=by unfold Ty.lk;rw[Ty.eo];rfl
def Ty.Ni:Ty.unit.ok=true:=by unfold Ty.unit;rw[Ty.eo];rfl
def Ty.gh:Ty.nat.acJ=1:=by unfold Ty.nat;rw[Ty.bY];rfl
def Ty.mR:Ty.lk.acJ=1:=by unfold Ty.lk;rw[Ty.bY];rfl
def Ty.Ez:Ty.unit.acJ=1:=by unfold Ty.unit;rw[Ty.bY];rfl
def Ty.g_(a b:Ty):(Ty.fn a b).acJ=1+a.acJ+b.acJ:=Ty.ym _ _ _
def Ty.sx(a b:Ty):(Ty.pr a b).acJ=1+a.acJ+b.acJ:=Ty.ym _ _ _
theorem Qp(k:Nat)(h:k<=4):1<=2^k/\2^k<=16:=by
 have:k=0\/k=1\/k=2\/k=3\/k=4:=cw
 grind
def LU:∀(n k:Nat) (d:cH),k<n->k<=4->d.wf->∃t f,j7 n d (k:Int)=some (t,f)/\t.ok=true/\t.acJ+1<=2^(k+1)/\f.wf:=by
 intro n
 induction n with
 |zero=>intro k d h;omega|succ n v=>
  intro k d w j r;obtain⟨x,d1,s,y,z,g⟩:=oN d r 7 cw cw;have A:=Qp k j
  have B:(2:Nat)^(k+1)=2*2^k:=by rw[Nat.pow_succ];omega
  have c:=λf (l:cH.wf f)=>(⟨Ty.nat,f,rfl,Ty.P6,by rw[Ty.gh];omega,l⟩:∃t i,some (Ty.nat,f)=some (t,i)/\t.ok=true/\t.acJ+1<=2^(k+1)/\i.wf);rw[j7];simp only[cc,s,bW,ec,et,FW,bT,jY,pE,dX,ep]
  split
  ·exact c d1 g
  split
  ·exact⟨.lk,d1,rfl,Ty.Q0,by rw[Ty.mR];omega,g⟩
  split
  ·exact⟨.unit,d1,rfl,Ty.Ni,by rw[Ty.Ez];omega,g⟩
  have two:0<(k:Int)->∃a b d2 d3,j7 n d1 (di .i64 (k:Int) 1)=some (a,d2)/\j7 n d2 (di .i64 (k:Int) 1)=some (b,d3)/\a.ok=true/\b.ok=true/\a.acJ+1<=2^k/\b.acJ+1<=2^k/\d3.wf:=by
   intro e;obtain⟨m,rfl⟩:∃m,k=m+1:=⟨k-1,cw⟩
   grind[dh]
  split
  ·split
   ·rename_i e;obtain⟨a,b,d2,d3,a1,o,a2,p,a3,u,q⟩:=two e;rw[a1];simp only[bW];rw[o];simp only[bW];rw[wm cw cw];exact⟨_,_,rfl,Ty.ok_two (.inl rfl) a2 p,by rw[Ty.sx];omega,q⟩
   ·exact c d1 g
  split
  ·split
   ·rename_i e;obtain⟨a,b,d2,d3,a1,o,a2,p,a3,u,q⟩:=two e;rw[a1];simp only[bW];rw[o];simp only[bW];rw[f_ cw cw];exact⟨_,_,rfl,Ty.ok_two (.inr rfl) a2 p,by rw[Ty.g_];omega,q⟩
   ·exact c d1 g
  ·exact c d1 g
def DP(d:cH)(b:d.wf)(k:Nat)(c:k<=4):∃t a,j7 FU d (k:Int)=some (t,a)/\t.err=0/\t.acJ+1<=2^(k+1)/\a.wf:=by
 obtain⟨t,a,e,f,g,h⟩:=LU FU k d (by rw[cV];omega) c b
 grind[Qp,Ty.oo]
def Lm(g:List Ty)(t:Ty)(hg:g.length<=1000000)(hn:∀s∈g,s.acJ<=1000000000):∃l,Ah g t=some l/\l.length<=g.length/\∀v∈l,∃i:Nat,v=i/\i<g.length/\g[g.length-1-i]?=some t:=by
 unfold Ah;simp only[ch (l:=g) cw,b6,cc]
 have key:∀(l:List Ty) (i:Nat) (v:List Int),i+l.length=g.length->v.length<=i->(∀x∈v,∃j:Nat,x=j/\j<g.length/\g[g.length-1-j]?=some t)->∃a,cY (ρ:=List Int) (λ(j:Int) (r:Ty) (v:List Int)=>bU (cq g (di .i64 (di .i64 (cE g) 1) j)) λx=>bU (dr FU x t) λy=>if y then ef (dP v [j]) (some (dJ.next (dN v [j])))else some (dJ.next v)) l i v=some (.inl a)/\a.length<=g.length/\∀x∈a,∃j:Nat,x=j/\j<g.length/\g[g.length-1-j]?=some t:=by
  intro l
  induction l with
  |nil=>
   intro i v d k c;exact⟨v,rfl,by simp at d;omega,c⟩
  |cons y l f=>
   intro i v d k c;simp only[jK] at d
   have b:g.length-1-i<g.length:=cw
   have n:cq g (di .i64 (di .i64 (cE g) 1) (i:Int))=some g[g.length-1-i]:=by grind[dE,dh,gu]
   rw[cM];simp only[n,bT,fU (hn _ (AY b))];cases hs:Ty.iY g[g.length-1-i] t with
   |false=>
    simp only[hZ,fG,bT,cS];exact f (i+1) v cw cw c
   |true=>
    rw[Ty.iJ] at hs;simp only[if_true,dc (l:=v) (m:=[(i:Int)]) aae,b6,bT,cS,ei];refine f (i+1) (v++[(i:Int)]) cw aae ?_;intro x e;rcases pX.1 e with h|h
    ·exact c x h
    ·rw[yC] at h;exact⟨i,h,cw,by rw[lV b,hs]⟩
 obtain⟨a,o,p,q⟩:=key g 0 [] th th th;rw[o];exact⟨a,rfl,p,q⟩
def rT(g l:List Ty)(h:g.length+l.length<=1000000):o8 g l=some (g++l):=by
 unfold o8;rw[dc aae,dc aae];simp
def Bg(n:Nat)(hn:n<=1000000):∃x,oD (n:Int)=some x/\∀g,cQ g x .nat/\x.acJ=n+1:=by
 unfold oD;rw[nC 4 [] (by simp[cn])];simp only[bT,cc]
 obtain⟨o,m,l⟩:=x5 (ρ:=Tm) (F:=Ph λ(h:Int) (i:Int) (v167:Int) (v168:Int) (j:List Ty) (k:List Tm)=>
   if m8 h 0 then some (dJ.next (di .i64 h 1,5,0,0,[],[Tm.mk i v167 (Ty.mk v168 j) k]))else some (dJ.Fy (h,i,v167,v168,j,k)))
  (λs=>0<=s.1/\s.1<=n/\(∀g,cQ g (Tm.mk s.2.1 s.2.2.1 (Ty.mk s.2.2.2.1 s.2.2.2.2.1) s.2.2.2.2.2) .nat)/\(Tm.mk s.2.1 s.2.2.1 (Ty.mk s.2.2.2.1 s.2.2.2.2.1) s.2.2.2.2.2).acJ+s.1=n+1)
  (λs=>s.1.toNat)
  (λo=>match o with|.inl s=>(∀g,cQ g (Tm.mk s.2.1 s.2.2.1 (Ty.mk s.2.2.2.1 s.2.2.2.2.1) s.2.2.2.2.2) .nat)/\(Tm.mk s.2.1 s.2.2.1 (Ty.mk s.2.2.2.1 s.2.2.2.2.1) s.2.2.2.2.2).acJ=n+1|.inr _=>False)
  (by
   rintro⟨a,b,c,d,e,f⟩ ⟨m,l,p,t⟩;simp only at m l p t
   by_cases q:0<a
   ·left;refine⟨_,by simp only[xC,ep,q,if_true];rfl,⟨?_,?_,?_,?_⟩,?_⟩
    ·rw[dh cw cw];show 0<=a-1;omega
    ·rw[dh cw cw];show a-1<=n;omega
    ·intro g;exact cQ.succ (p g)
    all_goals grind[dh,Tm.bY,cn]
   ·right;left;refine⟨_,by simp only[xC,ep,q,fG];rfl,p,?_⟩
    have:a=0:=cw
    subst this
    simp only;omega)
  FU ((n:Int),4,0,0,[],[]) ⟨th,th,λg=>cQ.zero,by rw[Tm.bY];simp[cn];omega⟩ (by rw[cV];show(n:Int).toNat<_;omega)
 simp only[Tm.cx,Tm.dK,Tm.cT,Ty.cx,Ty.ck,Tm.ck];rw[m];cases o with
 |inr r=>exact l.elim|inl s=>
  obtain⟨a,b,c,d,e,f⟩:=s;exact⟨_,rfl,λg=>⟨l.1 g,l.2⟩⟩
def se(n:Int)(b:0<=n)(hn:n<=4000):∃x,rJ n=some x/\∀g,cQ g x .nat/\(x.acJ:Int)=n+1:=by
 obtain⟨k,rfl⟩:=Vv b;obtain⟨x,c,a⟩:=Bg k cw;unfold rJ rR;simp only[j6,fF];rw[bV cw,bV cw,c];exact⟨x,rfl,λg=>⟨(a g).1,by rw[(a g).2];simp⟩⟩
structure MJ (g:List Ty) (x:Tm) (t:Ty) (n:Nat):Prop where
 ty:cQ g x t
 acJ:x.acJ<=n
def MJ.wt{g:List Ty}{x:Tm}{t:Ty}{n:Nat}(h:MJ g x t n):x.wt<=65*n:=by
 have:=x.eO h.ty.ok;have:=h.acJ;omega
def MJ.mono{g:List Ty}{x:Tm}{t:Ty}{n m:Nat}(h:MJ g x t n)(hm:n<=m):MJ g x t m:=⟨h.ty,Bw h.acJ hm⟩
def J4{k:Int}{a:Tm}(b:a.wt<=100000000):dR k [a]=some (.mk k 0 .z [a]):=nC k [a] (by simp[cn];omega)
def uf{k:Int}{a b:Tm}(c:a.wt<=100000000)(d:b.wt<=100000000):dR k [a,b]=some (.mk k 0 .z [a,b]):=nC k [a,b] (by simp[cn];omega)
def E8{k:Int}:dR k []=some (.mk k 0 .z []):=nC k [] (by simp[cn])
def Aq{k:Int}{s:Ty}{a:Tm}(hs:s.acJ<=1000000000)(b:a.wt<=100000000):j5 k s [a]=some (.mk k 0 s [a]):=Eg k s [a] hs (by simp[cn];omega)
def Ar{k:Int}{s:Ty}{a b c:Tm}(hs:s.acJ<=1000000000)(d:a.wt<=100000000)(e:b.wt<=100000000)(f:c.wt<=100000000):j5 k s [a,b,c]=some (.mk k 0 s [a,b,c]):=
 Eg k s [a,b,c] hs (by simp[cn];omega)
def No{f a b:Tm}(c:f.wt<=10000000)(d:a.wt<=10000000)(e:b.wt<=10000000):BN f [a,b]=some (.mk 3 0 .z [.mk 3 0 .z [f,a],b]):=by
 have g:(Tm.mk 3 0 .z [f,a]).wt<=30000000:=by rw[Tm.fo];have:Ty.z.acJ=1:=rfl;simp[cn,this];omega
 unfold BN
 simp only[ch (l:=[a,b]) th,b6,cc,cM,k9,Ef,Ty.ig,Tm.ig,uf (k:=3) (a:=f) (b:=a) cw cw,bT,cS,uf (k:=3) (a:=.mk 3 0 .z [f,a]) (b:=b) cw cw,b9]
def Ty.fO:Ty.nat.err=0:=Ty.oo Ty.P6 (by rw[Ty.gh];omega)
def Ty.m7:Ty.lk.err=0:=Ty.oo Ty.Q0 (by rw[Ty.mR];omega)
def Ty.Ei:Ty.unit.err=0:=Ty.oo Ty.Ni (by rw[Ty.Ez];omega)
def Ty.vX{a b:Ty}(c:a.err=0)(d:b.err=0)(h:a.acJ+b.acJ<=63):(Ty.fn a b).err=0:=Ty.oo (Ty.ok_two (.inr rfl) (Ty.hB c).1 (Ty.hB d).1) (by rw[Ty.g_];omega)
def Ty.LH{a b:Ty}(c:a.err=0)(d:b.err=0)(h:a.acJ+b.acJ<=63):(Ty.pr a b).err=0:=Ty.oo (Ty.ok_two (.inl rfl) (Ty.hB c).1 (Ty.hB d).1) (by rw[Ty.sx];omega)
def DE(i:Nat):Tm:=.mk 1 i .z []
def wP(s:Ty)(b:Tm):Tm:=.mk 2 0 s [b]
def qj(f a:Tm):Tm:=.mk 3 0 .z [f,a]
def uI:Tm:=.mk 4 0 .z []
def uw(a:Tm):Tm:=.mk 5 0 .z [a]
def Nh(t:Ty)(a b c:Tm):Tm:=.mk 6 0 t [a,b,c]
def LS:Tm:=wP .nat (wP .nat (Nh .nat (DE 1) (wP .nat (wP .nat (uw (DE 0)))) (DE 0)))
def LZ:Tm:=wP .nat (Nh .nat uI (wP .nat (wP .nat (DE 1))) (DE 0))
def RH:Tm:=wP .nat (wP .nat (Nh .nat (DE 1) (wP .nat (wP .nat (qj LZ (DE 0)))) (DE 0)))
def zZ(i:Nat):eJ (i:Int)=some (DE i):=rfl
def tv{a:Tm}(b:a.wt<=100000000):jb a=some (wP .nat a):=by
 unfold jb;rw[ec];simp only[bT];rw[Aq (by rw[Ty.gh];omega) b];rfl
def rec_eq{a b c:Tm}(d:a.wt<=100000000)(e:b.wt<=100000000)(f:c.wt<=100000000):qm a b c=some (Nh .nat a b c):=by
 unfold qm;rw[ec];simp only[bT];rw[Ar (by rw[Ty.gh];omega) d e f];rfl
def Gx:s5=some LS:=by
 unfold s5;rw[show eJ 1=some (DE 1)from rfl,show eJ 0=some (DE 0)from rfl];simp only[bT];rw[J4 gw];simp only[bT];rw[tv gw];simp only[bT];rw[tv gw];simp only[bT];rw[rec_eq gw gw gw];simp only[bT];rw[tv gw];simp only[bT];rw[tv gw];rfl
def FR:sK=some LZ:=by
 unfold sK;rw[show eJ 1=some (DE 1)from rfl,show eJ 0=some (DE 0)from rfl,E8];simp only[bT];rw[tv gw];simp only[bT];rw[tv gw];simp only[bT];rw[rec_eq gw gw gw];simp only[bT];rw[tv gw];rfl
def Ip:uM=some RH:=by
 unfold uM;rw[show eJ 1=some (DE 1)from rfl,show eJ 0=some (DE 0)from rfl,FR];simp only[bT];rw[uf gw gw];simp only[bT];rw[tv gw];simp only[bT];rw[tv gw];simp only[bT];rw[rec_eq gw gw gw];simp only[bT];rw[tv gw];simp only[bT];rw[tv gw];rfl
def Zp{g:List Ty}{t:Ty}(i:Nat)(h:i<g.length)(a:g[g.length-1-i]?=some t):cQ g (DE i) t:=cQ.var i h a
def wL{g:List Ty}{t:Ty}:cQ (g++[t]) (DE 0) t:=cQ.var 0 th th
def DZ{g:List Ty}{s t:Ty}:cQ (g++[t]++[s]) (DE 1) t:=cQ.var 1 th th
def zl:(Ty.fn .nat .nat).err=0:=Ty.vX Ty.fO Ty.fO (by rw[Ty.gh];omega)
def Ai:(Ty.fn .nat (Ty.fn .nat .nat)).err=0:=Ty.vX Ty.fO zl (by rw[Ty.g_,Ty.gh];omega)
def Oh(g:List Ty):cQ g LS (.fn .nat (.fn .nat .nat)):=
 .lam Ai (.lam zl (.rW Ty.fO DZ (.lam Ai (.lam zl (.succ wL))) wL))
def NV(g:List Ty):cQ g LZ (.fn .nat .nat):=
 .lam zl (.rW Ty.fO .zero (.lam Ai (.lam zl DZ)) wL)
def Rc(g:List Ty):cQ g RH (.fn .nat (.fn .nat .nat)):=
 .lam Ai (.lam zl (.rW Ty.fO DZ (.lam Ai (.lam zl (.app (NV _) wL))) wL))
def HL:LS.acJ=9:=gw
def Jo:RH.acJ=16:=gw
def sn{α β:Type}{G:Option β->Prop}(P:α->Prop){k:α->Option β}{b:(α->Option β)->Option β}(c:∀a,P a->G (k a))(d:∀j:α->Option β,(∀a,P a->G (j a))->G (b j)):G (cB k b):=d k c
def D2{α γ β:Type}{G:Option β->Prop}(P:α->γ->Prop){k:α->γ->Option β}{b:(α->γ->Option β)->Option β}(d:∀a c,P a c->G (k a c))(e:∀j:α->γ->Option β,(∀a c,P a c->G (j a c))->G (b j)):G (cB k b):=e k d
def tb(N:Nat):Nat->Nat
 |0=>3*N|k+1=>30+3*tb N k
def YX{N:Nat}(a:N<=20):∀k,k<=5->tb N k<=18300:=by
 intro k b
 have:k=0\/k=1\/k=2\/k=3\/k=4\/k=5:=cw
 rcases this with rfl|rfl|rfl|rfl|rfl|rfl<;>simp only[tb]<;>omega
def Q5{N k:Nat}:3*N<=tb N k:=by
 induction k with
 |zero=>simp[tb]|succ k a=>grind[tb]
def ij(g:List Ty)(t:Ty)(b:Nat)(o:Option (Tm×cH)):Prop:=∃x a,o=some (x,a)/\a.wf/\MJ g x t b
def ij.of{g:List Ty}{t:Ty}{b:Nat}{x:Tm}{d:cH}(a:d.wf)(h:cQ g x t)(hn:x.acJ<=b):ij g t b (some (x,d)):=⟨x,d,rfl,a,h,hn⟩
structure ug (N:Nat) (g:List Ty):Prop where
 all:∀s∈g,s.err=0/\s.acJ<=N
def ug.app{N:Nat}{g l:List Ty}(h:ug N g)(a:∀s∈l,s.err=0/\s.acJ<=N):ug N (g++l):=
 ⟨λs hs=>by rcases pX.1 hs with h'|h';exact h.all s h';exact a s h'⟩
def Ty.oY{t:Ty}(h:t.err=0):t=.nat\/t=.lk\/t=.unit\/(∃a b,t=.pr a b/\a.err=0/\b.err=0)\/(∃a b,t=.fn a b/\a.err=0/\b.err=0):=by
 cases t with
 |mk k l=>
  have e:=(Ty.hB h).1;rw[Ty.eo] at e;simp only[ed,mH] at e;have c:=e.1;unfold Ty.want at c
  split at c
  ·rename_i d;injection c with c;have:=SE.1 c.symm;subst this;rcases d with rfl|rfl|rfl
   ·exact .inl rfl
   ·exact .inr (.inl rfl)
   ·exact .inr (.inr (.inl rfl))
  ·split at c
   ·rename_i d;injection c with c;obtain⟨a,b,rfl⟩:=od (l:=l) cw;have:=Ty.qA d h;rcases d with rfl|rfl
    ·exact .inr (.inr (.inr (.inl ⟨a,b,rfl,this⟩)))
    ·exact .inr (.inr (.inr (.inr ⟨a,b,rfl,this⟩)))
   ·cases c
set_option maxHeartbeats 1000000 in
def Mq(N:Nat)(aK:1<=N)(hN:N<=20):∀(n:Nat) (dep:Int) (g:List Ty) (t:Ty) (d:cH),dep.toNat*(N+1)+t.acJ<n->dep<=5->-1000000<=dep-t.acJ->g.length+(3+N)*dep.toNat+t.acJ<=1000->ug N g->t.err=0->t.acJ<=N->d.wf->ij g t (if dep<=0 then 3*t.acJ else tb N dep.toNat) (eA n d g t dep):=by
 intro n
 induction n with
 |zero=>intro dep g t d h;omega|succ n ih=>
  intro dep g t d hm aL aJ hlen hg q p hd;have aM:=t.cu;have an:=(Ty.hB q).2
  have deep:0<dep->∀P M O,P.length<=g.length+3->ug N P->M.err=0->M.acJ<=N->O.wf->ij P M (tb N (dep.toNat-1)) (eA n O P M (di .i64 dep 1)):=by
   intro e P M O Q T X v h5;obtain⟨k,rfl⟩:∃k:Nat,dep=(k+1:Nat):=⟨dep.toNat-1,cw⟩
   have e1:((k+1:Nat):Int).toNat=k+1:=th
   rw[e1] at hm hlen|-;rw[dh cw cw,show((k+1:Nat):Int)-1=(k:Int) by omega]
   have hmul:(k+1)*(N+1)=k*(N+1)+N+1:=by rw[vF];omega
   have ao:(3+N)*(k+1)=(3+N)*k+3+N:=by rw[LC];omega
   obtain⟨x,d1,a1,a2,a3⟩:=ih (k:Int) P M O aae cw cw aae T X v h5;refine⟨x,d1,a1,a2,a3.mono ?_⟩;simp only[R5]
   split
   ·have:k=0:=cw
    subst this;simp only[tb];omega
   ·simp
  have flat:dep<=0->∀P M O,P.length<=g.length+1->M.acJ+1<=t.acJ->ug N P->M.err=0->O.wf->ij P M (3*M.acJ) (eA n O P M (di .i64 dep 1)):=by
   intro e P M O Q h0 T X h5
   have e1:dep.toNat=0:=cw
   rw[e1] at hm hlen;rw[dh cw cw]
   have e2:(dep-1).toNat=0:=cw
   have:=ih (dep-1) P M O (by rw[e2];omega) cw cw (by rw[e2];omega) T X cw h5;rw[bX cw] at this;exact this
  have U:0<dep->(if dep<=0 then 3*t.acJ else tb N dep.toNat)=30+3*tb N (dep.toNat-1):=by
   intro e;rw[bV cw];obtain⟨k,hk⟩:∃k,dep.toNat=k+1:=⟨dep.toNat-1,cw⟩;rw[hk];rfl
  have aq:0<dep->tb N (dep.toNat-1)<=18300:=λ_=>YX hN _ cw
  have aa:3*t.acJ<=(if dep<=0 then 3*t.acJ else tb N dep.toNat):=by
   split
   ·omega
   ·have:=Q5 (N:=N) (k:=dep.toNat);omega
  generalize (if dep<=0 then 3*t.acJ else tb N dep.toNat)=B at U aa|-
  have m:∀{g x t},0<dep->MJ g x t (tb N (dep.toNat-1))->x.wt<=1300000:=by
   intro g x t e h;have:=h.wt;have:=aq e;omega
  obtain⟨vs,ar,aN,aw⟩:=Lm g t cw (λs hs=>by have:=(hg.all s hs).2;omega);rw[eA,ar];simp only[bT];refine D2 (G:=ij g t B) (λa c=>c.wf/\(a=true->vs≠[])) ?_ ?_
  ·--a variable,or ab else
   rintro a d1 ⟨ad,ax⟩;cases a with
   |true=>
    simp only[if_true];have ay:=ax rfl
    have aO:1<=vs.length:=by cases vs with|nil=>exact absurd rfl ay|cons _ _=>simp
    obtain⟨x,d2,Q,T,X,v⟩:=oN d1 ad (cE vs) aae aae;rw[Q];simp only[bW];obtain⟨y,hy,az⟩:=Ba (l:=vs) T (by simpa using X);rw[hy];simp only[bT];obtain⟨i,rfl,aA,aB⟩:=aw y az;rw[zZ];refine ij.of v (Zp i aA aB) ?_
    have:(DE i).acJ=1:=by unfold DE;rw[Tm.bY];rfl
    omega
   |false=>
    simp only[hZ,fG];refine sn (G:=ij g t B) cH.wf ?_ ?_
    ·--by ah type
     intro d2 w;rcases Ty.oY q with rfl|rfl|rfl|⟨a,b,rfl,ha,hb⟩|⟨a,b,rfl,ha,hb⟩
     ·--numbers
      simp only[show Ty.nat.acH=1 from rfl,dX,if_true];refine sn (G:=ij g .nat B) cH.wf ?_ ?_
      ·intro d3 Y;obtain⟨x,d4,Q,T,X,v⟩:=oN d3 Y 3 cw cw;rw[Q];simp only[bW];obtain⟨y,aC,ai⟩:=se x T cw;rw[aC];refine ij.of v (ai g).1 ?_;have:=(ai g).2;rw[Ty.gh] at aa;omega
      ·intro j S;simp only[ep]
       split
       ·rename_i e;have U:=U e;obtain⟨x,d4,Q,T,X,v⟩:=oN d2 w 5 cw cw;rw[Q];simp only[bW,dX]
        split
        ·obtain⟨a,d5,a1,a2,a3⟩:=deep e g .nat d4 cw hg Ty.fO p v;rw[a1];simp only[bW];rw[J4 (by have:=m e a3;omega)];refine ij.of a2 (.succ a3.ty) ?_;have:=a3.acJ;rw[Tm.bY];simp only[cn];omega
        split
        ·rw[Gx];simp only[bT];obtain⟨a,d5,a1,a2,a3⟩:=deep e g .nat d4 cw hg Ty.fO p v;rw[a1];simp only[bW];obtain⟨b,d6,A,C,o⟩:=deep e g .nat d5 cw hg Ty.fO p a2;rw[A];simp only[bW];rw[No gw (by have:=m e a3;omega) (by have:=m e o;omega)];refine ij.of C (.app (.app (Oh g) a3.ty) o.ty) ?_;have:=a3.acJ;have:=o.acJ;have:=HL;rw[Tm.bY];simp only[cn,Tm.bY];omega
        split
        ·rw[Ip];simp only[bT];obtain⟨a,d5,a1,a2,a3⟩:=deep e g .nat d4 cw hg Ty.fO p v;rw[a1];simp only[bW];obtain⟨b,d6,A,C,o⟩:=deep e g .nat d5 cw hg Ty.fO p a2;rw[A];simp only[bW];rw[No gw (by have:=m e a3;omega) (by have:=m e o;omega)];refine ij.of C (.app (.app (Rc g) a3.ty) o.ty) ?_;have:=a3.acJ;have:=o.acJ;have:=Jo;rw[Tm.bY];simp only[cn,Tm.bY];omega
        ·exact S d4 v
       ·exact S d2 w
     ·--lists
      simp only[show Ty.lk.acH=2 from rfl,dX,if_true,show¬(2:Int)=1 by omega,fG];refine D2 (G:=ij g .lk B) (λa c=>c.wf/\(a=true->0<dep)) ?_ ?_
      ·rintro a d3 ⟨Y,e⟩;cases a with
       |true=>
        have e:=e rfl;have U:=U e;simp only[if_true];rw[ec];simp only[bT];obtain⟨a,d5,a1,a2,a3⟩:=deep e g .nat d3 cw hg Ty.fO (by rw[Ty.gh];omega) Y;rw[a1];simp only[bW];obtain⟨b,d6,A,C,o⟩:=deep e g .lk d5 cw hg Ty.m7 p a2;rw[A];simp only[bW];rw[uf (by have:=m e a3;omega) (by have:=m e o;omega)];refine ij.of C (.cons a3.ty o.ty) ?_;have:=a3.acJ;have:=o.acJ;rw[Tm.bY];simp only[cn];omega
       |false=>
        simp only[hZ,fG];rw[E8];refine ij.of Y .nil ?_;rw[Tm.bY];simp only[cn];omega
      ·intro j S;simp only[ep]
       split
       ·rename_i e;obtain⟨x,d4,Q,T,X,v⟩:=oN d2 w 2 cw cw;rw[Q];simp only[bW];exact S _ d4 ⟨v,λ_=>e⟩
       ·exact S _ d2 ⟨w,λh=>by cases h⟩
     ·simp only[show Ty.unit.acH=5 from rfl,dX,show¬(5:Int)=1 by omega,show¬(5:Int)=2 by omega,show¬(5:Int)=3 by omega,show¬(5:Int)=4 by omega,fG];rw[E8];refine ij.of w .unit ?_;rw[Tm.bY];simp only[cn];omega
     ·simp only[show(Ty.pr a b).acH=3 from rfl,show(Ty.pr a b).acI=[a,b] from rfl,dX,show¬(3:Int)=1 by omega,show¬(3:Int)=2 by omega,if_true,fG,cD,dQ,fM,kx,bT];rw[Ty.sx] at p an aa
      by_cases e:0<dep
      ·have U:=U e;obtain⟨x,d5,a1,a2,a3⟩:=deep e g a d2 cw hg ha cw w;rw[a1];simp only[bW];obtain⟨y,d6,A,C,o⟩:=deep e g b d5 cw hg hb cw a2;rw[A];simp only[bW];rw[uf (by have:=m e a3;omega) (by have:=m e o;omega)];refine ij.of C (.pair q a3.ty o.ty) ?_;have:=a3.acJ;have:=o.acJ;rw[Tm.bY];simp only[cn];omega
      ·have aD:=Ty.sx a b;obtain⟨x,d5,a1,a2,a3⟩:=flat cw g a d2 cw cw hg ha w;rw[a1];simp only[bW];obtain⟨y,d6,A,C,o⟩:=flat cw g b d5 cw cw hg hb a2;rw[A];simp only[bW];have:=a3.acJ;have:=o.acJ;rw[uf (by have:=a3.wt;omega) (by have:=o.wt;omega)];refine ij.of C (.pair q a3.ty o.ty) ?_;rw[Tm.bY];simp only[cn];omega
     ·simp only[show(Ty.fn a b).acH=4 from rfl,show(Ty.fn a b).acI=[a,b] from rfl,dX,show¬(4:Int)=1 by omega,show¬(4:Int)=2 by omega,show¬(4:Int)=3 by omega,if_true,fG,cD,dQ,fM,kx,bT];have aD:=Ty.g_ a b;rw[rT g [a] aae];simp only[bT];have R:ug N (g++[a]):=hg.app (by intro s hs;rw[yC] at hs;subst hs;exact⟨ha,cw⟩)
      by_cases e:0<dep
      ·have U:=U e;obtain⟨x,d5,a1,a2,a3⟩:=deep e (g++[a]) b d2 th R hb cw w;rw[a1];simp only[bW];rw[Aq cw (by have:=m e a3;omega)];refine ij.of a2 (.lam q a3.ty) ?_;have:=a3.acJ;rw[Tm.bY];simp only[cn];omega
      ·obtain⟨x,d5,a1,a2,a3⟩:=flat cw (g++[a]) b d2 th cw R hb w;rw[a1];simp only[bW];have:=a3.acJ;rw[Aq cw (by have:=a3.wt;omega)];refine ij.of a2 (.lam q a3.ty) ?_;rw[Tm.bY];simp only[cn];omega
    ·--a aE,or one of ah context
     intro j S;simp only[ep]
     split
     ·rename_i e;have U:=U e;obtain⟨x,d2,Q,T,X,v⟩:=oN d1 ad 8 cw cw;rw[Q];simp only[bW,dX]
      have leaf:∀d,cH.wf d->∃s O,j7 FU d 0=some (s,O)/\s.err=0/\s.acJ=1/\O.wf:=by
       intro d hd;obtain⟨s,O,c1,c2,c3,c4⟩:=DP d hd 0 cw;have:=s.cu;exact⟨s,O,c1,c2,cw,c4⟩
      split
      ·obtain⟨s,d3,s1,s2,s3,s4⟩:=leaf d2 v;rw[s1];simp only[bW];rw[rT g [s] aae];simp only[bT];obtain⟨a,d5,a1,a2,a3⟩:=deep e (g++[s]) t d3 th (hg.app (by intro u hu;rw[yC] at hu;subst hu;exact⟨s2,cw⟩)) q p s4;rw[a1];simp only[bW];rw[Aq cw (by have:=m e a3;omega)];simp only[bT];obtain⟨b,d6,A,C,o⟩:=deep e g s d5 cw hg s2 cw a2;rw[A];simp only[bW];have w1:=m e a3;rw[uf (by rw[Tm.fo];simp only[cn];omega) (by have:=m e o;omega)];refine ij.of C (.app (.lam (Ty.vX s2 q cw) a3.ty) o.ty) ?_;have:=a3.acJ;have:=o.acJ;rw[Tm.bY];simp only[cn,Tm.bY];omega
      split
      ·obtain⟨s,d3,s1,s2,s3,s4⟩:=leaf d2 v;rw[s1];simp only[bW];obtain⟨a,d5,a1,a2,a3⟩:=deep e g t d3 cw hg q p s4;rw[a1];simp only[bW];obtain⟨b,d6,A,C,o⟩:=deep e g s d5 cw hg s2 cw a2;rw[A];simp only[bW];have w1:=m e a3;have w2:=m e o;rw[uf cw cw];simp only[bT];rw[J4 (by rw[Tm.fo];have:Ty.z.acJ=1:=rfl;simp only[cn];omega)];refine ij.of C (.fst (.pair (Ty.LH q s2 cw) a3.ty o.ty)) ?_;have:=a3.acJ;have:=o.acJ;rw[Tm.bY];simp only[cn,Tm.bY];omega
      split
      ·rw[ec];simp only[bT];rw[rT g [.nat,t] aae];simp only[bT]
       have R:ug N (g++[.nat,t]):=hg.app (by
        intro u hu;simp only[jA,tF,qC] at hu;rcases hu with rfl|rfl
        ·exact⟨Ty.fO,by rw[Ty.gh];omega⟩
        ·exact⟨q,p⟩)
       obtain⟨a,d5,a1,a2,a3⟩:=deep e (g++[.nat,t]) t d2 th R q p v;rw[a1];simp only[bW];have w1:=m e a3;have nn:=Ty.gh;rw[Aq cw cw];simp only[bT];rw[Aq cw (by rw[Tm.fo];simp only[cn];omega)];simp only[bT];obtain⟨b,d6,A,C,o⟩:=deep e g t d5 cw hg q p a2;rw[A];simp only[bW];obtain⟨y,d7,y1,y2,y3,y4⟩:=oN d6 C 3 cw cw;rw[y1];simp only[bW];obtain⟨z,z1,z2⟩:=se y y2 cw;rw[z1];simp only[bT];have w2:=m e o;have zn:=(z2 g).2;have zw:=z.eO (z2 g).1.ok
       have e1:(Tm.mk 2 0 .nat [Tm.mk 2 0 t [a]]).wt<=2000000:=by rw[Tm.fo];simp only[cn,Tm.fo];omega
       rw[Ar cw cw cw cw];have V:(Ty.fn t t).err=0:=Ty.vX q q cw;refine ij.of y4 (.rW q o.ty (.lam (Ty.vX Ty.fO V (by rw[Ty.g_];omega)) (.lam V (by simpa using a3.ty))) (z2 g).1) ?_;have:=a3.acJ;have:=o.acJ;rw[Tm.bY];simp only[cn,Tm.bY];omega
      split
      ·rw[ec,et];simp only[bT];rw[rT g [.nat,.lk,t] aae];simp only[bT]
       have R:ug N (g++[.nat,.lk,t]):=hg.app (by
        intro u hu;simp only[jA,tF,qC] at hu;rcases hu with rfl|rfl|rfl
        ·exact⟨Ty.fO,by rw[Ty.gh];omega⟩
        ·exact⟨Ty.m7,by rw[Ty.mR];omega⟩
        ·exact⟨q,p⟩)
       obtain⟨a,d5,a1,a2,a3⟩:=deep e (g++[.nat,.lk,t]) t d2 th R q p v;rw[a1];simp only[bW];have w1:=m e a3;have nn:=Ty.gh;have ln:=Ty.mR;rw[Aq cw cw];simp only[bT];rw[Aq cw (by rw[Tm.fo];simp only[cn];omega)];simp only[bT];rw[Aq cw (by rw[Tm.fo];simp only[cn,Tm.fo];omega)];simp only[bT];obtain⟨b,d6,A,C,o⟩:=deep e g t d5 cw hg q p a2;rw[A];simp only[bW];obtain⟨c,d7,c1,c2,c3⟩:=deep e g .lk d6 cw hg Ty.m7 cw C;rw[c1];simp only[bW];have w2:=m e o;have w3:=m e c3
       have e1:(Tm.mk 2 0 .nat [Tm.mk 2 0 .lk [Tm.mk 2 0 t [a]]]).wt<=2000000:=by rw[Tm.fo];simp only[cn,Tm.fo];omega
       rw[Ar cw cw cw cw];have V:(Ty.fn t t).err=0:=Ty.vX q q cw;have Z:(Ty.fn .lk (Ty.fn t t)).err=0:=Ty.vX Ty.m7 V (by rw[Ty.g_];omega);refine ij.of c2 (.fold q o.ty (.lam (Ty.vX Ty.fO Z (by rw[Ty.g_,Ty.g_];omega)) (.lam Z (.lam V (by simpa using a3.ty)))) c3.ty) ?_;have:=a3.acJ;have:=o.acJ;have:=c3.acJ;rw[Tm.bY];simp only[cn,Tm.bY];omega
      split
      ·obtain⟨s,d3,s1,s2,s3,s4⟩:=leaf d2 v;rw[s1];simp only[bW];obtain⟨a,d5,a1,a2,a3⟩:=deep e g s d3 cw hg s2 cw s4;rw[a1];simp only[bW];obtain⟨b,d6,A,C,o⟩:=deep e g t d5 cw hg q p a2;rw[A];simp only[bW];have w1:=m e a3;have w2:=m e o;rw[uf cw cw];simp only[bT];rw[J4 (by rw[Tm.fo];have:Ty.z.acJ=1:=rfl;simp only[cn];omega)];refine ij.of C (.snd (.pair (Ty.LH s2 q cw) a3.ty o.ty)) ?_;have:=a3.acJ;have:=o.acJ;rw[Tm.bY];simp only[cn,Tm.bY];omega
      split
      ·--a function of ah context
       rw[ch cw,b6];simp only[cc]
       rcases G9 (λ_:Unit=>True) (λr:Tm×cH=>ij g t B (some r)) (F:=λ(E:Int) (aF:Ty) (_:Unit)=>
         bU (cq g (di .i64 (di .i64 (cE g) 1) E)) λD=>
          if D.acH=4 then bU (cq D.acI 1) λae=>bU (dr FU ae t) λaf=>
           if af then bU (eJ E) λH=>bU (cq D.acI 0) λI=>b8 (eA n d2 g I (di .i64 dep 1)) λJ K=>
            bU (dR 3 [H,J]) λL=>some (dJ.ret (L,K))
           else some (dJ.next ())
          else if false then bU (eJ E) λH=>bU (cq D.acI 0) λI=>b8 (eA n d2 g I (di .i64 dep 1)) λJ K=>
            bU (dR 3 [H,J]) λL=>some (dJ.ret (L,K))
           else some (dJ.next ())) g 0 () trivial (by
        intro k u s hk _;have aG:k<g.length:=(jL.1 hk).1
        have W:g.length-1-k<g.length:=cw
        have e1:cq g (di .i64 (di .i64 (cE g) 1) ((0+k:Nat):Int))=some g[g.length-1-k]:=by
         rw[sA,dE,dh (a:=(g.length:Int)) (b:=1) cw cw,dh cw cw,show(g.length:Int)-1-(k:Int)=((g.length-1-k:Nat):Int) by omega,gu];simp[W]
        simp only[e1,bT];have hf:=hg.all _ (AY W);have ak:g[g.length-1-k]?=some g[g.length-1-k]:=lV W;generalize g[g.length-1-k]=f at hf ak|-;rcases Ty.oY hf.1 with rfl|rfl|rfl|⟨a,b,rfl,ha,hb⟩|⟨a,b,rfl,ha,hb⟩
        ·left;exact⟨(),rfl,trivial⟩
        ·left;exact⟨(),rfl,trivial⟩
        ·left;exact⟨(),rfl,trivial⟩
        ·left;exact⟨(),rfl,trivial⟩
        ·simp only[show(Ty.fn a b).acH=4 from rfl,show(Ty.fn a b).acI=[a,b] from rfl,dX,if_true,cD,dQ,fM,kx,bT];have aH:=hf.2;rw[Ty.g_] at aH;rw[fU cw];simp only[bT];cases hs:b.iY t with
         |false=>left;exact⟨(),rfl,trivial⟩|true=>
          rw[Ty.iJ] at hs;subst hs;right;simp only[if_true,sA];rw[zZ];simp only[bT];obtain⟨y,d5,a1,a2,a3⟩:=deep e g a d2 cw hg ha cw v;rw[a1];simp only[bW];have w1:=m e a3
          have e2:(DE k).wt=2:=by unfold DE;rw[Tm.fo];rfl
          rw[uf cw cw];refine⟨_,rfl,ij.of a2 (.app (Zp k aG ak) a3.ty) ?_⟩;have:=a3.acJ
          have e3:(DE k).acJ=1:=by unfold DE;rw[Tm.bY];rfl
          rw[Tm.bY];simp only[cn];omega)with⟨s,hs,_⟩|⟨r,hr,aI⟩
       ·rw[hs];exact S d2 v
       ·rw[hr];exact aI
      ·exact S d2 v
     ·exact S d1 ad
  ·intro j S;simp only[ep,dE]
   split
   ·rename_i e;obtain⟨x,d2,Q,T,X,v⟩:=oN d hd 3 cw cw;rw[Q];simp only[bW];exact S _ d2 ⟨v,λ_ h=>by subst h;simp at e⟩
   ·exact S _ d ⟨hd,λh=>by cases h⟩
inductive eY:List Ty->Fm->Prop
 |eq {g a b}:cQ g a .nat->cQ g b .nat->eY g (.mk 1 .z [a,b] [])|two {g k a b}:k=2\/k=3->eY g a->eY g b->eY g (.mk k .z [] [a,b])|q {g k s a}:k=4\/k=5\/k=6\/k=7->s.err=0->eY (g++[s]) a->eY g (.mk k s [] [a])
def eY.ok{g:List Ty}{f:Fm}(h:eY g f):f.ok=true:=by
 induction h with
 |eq c d=>simp[Fm.eo,Fm.node,Ty.oK,c.ok,d.ok]|two e _ _ i j=>
  rename_i k a b _ _
  have:¬k=1:=cw
  simp[Fm.eo,Fm.node,Ty.oK,e,this,i,j]
 |q e hs _ l=>
  rename_i k s a _
  have c:¬k=1:=cw
  have d:¬(k=2\/k=3):=cw
  have m:gL k=true:=by simp[gL,e]
  simp[Fm.eo,Fm.node,c,d,m,hs,l]
def I0{a b:Tm}(c:a.wt<=1000000000)(d:b.wt<=1000000000):nS a b=some (.mk 1 .z [a,b] []):=by
 unfold nS;rw[rf c,rf d];rfl
def sX{k:Int}{a b:Fm}(c:a.wt<=1000000000)(d:b.wt<=1000000000):gf k a b=some (.mk k .z [] [a,b]):=by
 unfold gf;rw[nj c,nj d];rfl
def KL{k:Int}{s:Ty}{a:Fm}(hs:s.acJ<=1000000000)(b:a.wt<=1000000000):ic k s a=some (.mk k s [] [a]):=by
 unfold ic;rw[gx hs,nj b];rfl
def Rl(N:Nat)(b:1<=N)(e:N<=20)(dep:Nat)(a:dep<=5)(g:List Ty)(t:Ty)(d:cH)(j:g.length<=600)(hg:ug N g)(f:t.err=0)(c:t.acJ<=N)(h:d.wf):ij g t (tb N dep) (eA FU d g t (dep:Int)):=by
 have k:dep*(N+1)<=5*21:=CP a cw;have l:(3+N)*dep<=23*5:=CP cw a;obtain⟨x,i,a1,a2,a3⟩:=Mq N b e FU (dep:Int) g t d (by rw[cV];simp;omega) cw cw aae hg f c h;refine⟨x,i,a1,a2,a3.mono ?_⟩
 split
 ·have:dep=0:=cw
  subst this;simp only[tb];omega
 ·simp
def F4(d:cH)(j:d.wf):∃g h,su d=some (g,h)/\h.wf/\g.length<=3/\ug 3 g:=by
 unfold su;obtain⟨x,d1,k,m,t,n⟩:=oN d j 4 cw cw;rw[k];simp only[bW,cc]
 obtain⟨o,p,f⟩:=x5 (ρ:=List Ty×cH) (F:=Tr λ(v218:List Ty) (a:Int) (b:cH)=>
   if m8 a 0 then b8 (j7 FU b 1) λc d278=>ef (dP v218 [c])<|some (dJ.next (dN v218 [c],di .i64 a 1,d278))else some (dJ.Fy (v218,a,b)))
  (λs=>0<=s.2.1/\(s.1.length:Int)+s.2.1<=3/\ug 3 s.1/\s.2.2.wf) (λs=>s.2.1.toNat)
  (λo=>match o with|.inl s=>s.1.length<=3/\ug 3 s.1/\s.2.2.wf|.inr _=>False)
  (by
   rintro⟨l,i,e⟩ ⟨i1,i2,i3,i4⟩;simp only at i1 i2 i3 i4
   by_cases hi:0<i
   ·left;obtain⟨s,d3,s1,s2,v,q⟩:=DP e i4 1 cw;rw[show((1:Nat):Int)=1 from rfl] at s1;refine⟨(l++[s],i-1,d3),?_,⟨?_,?_,?_,q⟩,?_⟩
    ·simp only[HO,ep,hi,if_true,s1,bW];rw[dc aae,b6,dh cw cw];rfl
    ·show 0<=i-1;omega
    ·simp;omega
    ·exact i3.app (by intro u hu;rw[yC] at hu;subst hu;exact⟨s2,cw⟩)
    ·show(i-1).toNat<i.toNat;omega
   ·right;left
    exact⟨(l,i,e),by simp only[HO,ep,hi,fG],by simp only;omega,i3,i4⟩)
  FU ([],x,d1) ⟨m,aae,⟨th⟩,n⟩ (by rw[cV];show x.toNat<_;omega)
 rw[p];cases o with
 |inr r=>exact f.elim|inl s=>
  obtain⟨l,i,e⟩:=s;exact⟨l,e,rfl,f.2.2,f.1,f.2.1⟩
def UW(l:List Int)(h:l.length<=1000):(cH.mk l 0).wf:=⟨h,th,th⟩
def uA(l:List Ty):Int:=if 16<l.length then 3 else dp (l.map Ty.err)
def u9(l:List Ty)(e:l.length<=1000000)(h:∀t∈l,t.acJ<=1000000000):ow l=some (uA l):=by
 unfold ow uA;simp only[ep,dE,ch (l:=l) cw,b6,cc]
 by_cases b:16<l.length
 ·rw[bX cw,bX b]
 ·rw[bV cw,bV b]
  have key:=kC (F:=λ(j:Int) (x:Ty) (_:Unit)=>bU (ma x) λa=>if cG a 0 then some (dJ.ret a)else some (dJ.next ())) Ty.err l 0 (by
   intro j x d;rw[xm (h x d)]
   simp only[bT,cg])
  simp only[cg] at key|-;rw[key]
  by_cases c:dp (l.map Ty.err)=0
  ·simp[c]
  ·simp[c]
def qv(l:List Ty)(e:l.length<=1000000)(h:∀t∈l,t.acJ<=1000000000):kn l=some (uA l):=by
 unfold kn uA;simp only[ep,dE,ch (l:=l) cw,b6,cc]
 by_cases b:16<l.length
 ·rw[bX cw,bX b]
 ·rw[bV cw,bV b]
  have key:=kC (F:=λ(j:Int) (x:Ty) (_:Unit)=>bU (gk x) λa=>if cG a 0 then some (dJ.ret a)else some (dJ.next ())) Ty.err l 0 (by
   intro j x d;rw[kz (h x d)]
   simp only[bT,cg])
  simp only[cg] at key|-;rw[key]
  by_cases c:dp (l.map Ty.err)=0
  ·simp[c]
  ·simp[c]
def vr:∀(n:Nat) (a b:Ty),a.acJ<=n->a.acJ<=1000000000->∃r,eu n a b=some r/\(r=true↔a=b):=by
 intro n
 induction n with
 |zero=>intro t b h;have:=t.cu;omega
 |succ n q=>
  intro a b h s;cases a with
  |mk k l=>
  cases b with
  |mk k' m=>
   rw[Ty.bY] at h s;have u:=Ty.dm l;rw[eu];simp only[Ty.ck,Ty.cx,cc,ch (l:=l) cw,b6,jY,pE,cg,dE]
   by_cases d:k≠k'\/(l.length:Int)≠m.length
   ·rw[bX d];refine⟨false,rfl,?_⟩;simp only[hZ,Ho,Ty.mk.injEq,not_and];rintro rfl rfl;simp at d
   ·rw[bV d];simp only[not_or,uu] at d;obtain⟨rfl,hlen⟩:=d
    have c:l.length=m.length:=cw
    let p:Ty->Ty->Bool:=λx y=>(eu n x y).getD false
    have i:∀x∈l,∀y,eu n x y=some (p x y)/\(p x y=true↔x=y):=by
     intro x f y;have:=cy Ty.acJ f;obtain⟨r,o,g⟩:=q x y cw cw
     have e:p x y=r:=by show(eu n x y).getD false=r;rw[o];rfl
     rw[e];exact⟨o,g⟩
    have key:=vq (F:=λ(j:Int) (x:Ty) (_:Unit)=>bU (cq m j) λy=>bU (eu n x y) λz=>if z then some (dJ.next ())else some (dJ.ret false)) p m l 0 m rfl c (by
     intro k x y f hy;rw[gu,hy];simp only[bT];rw[(i x f y).1]
     rfl)
    rw[key];have he:=vh p l m λx f y=>(i x f y).2;cases g:tc p l m with
    |false=>exact⟨false,rfl,by rw[g] at he;simpa using he⟩
    |true=>exact⟨true,rfl,by rw[g] at he;simpa using he⟩
def uN:∀(n:Nat) (a b:Tm),a.wt<=n->a.wt<=1000000000->∃r,gB n a b=some r/\(r=true↔a=b):=by
 intro n
 induction n with
 |zero=>intro t b h;have:=t.gK;omega
 |succ n E=>
  intro a b h G;cases a with
  |mk k i s l=>
  cases b with
  |mk k' f u m=>
   rw[Tm.fo] at h G;have I:=Tm.mh l;rw[gB];simp only[Tm.ck,Tm.cx,Tm.dK,Tm.cT,cc,ch (l:=l) cw,b6,cg,dE]
   have no:¬(k=k'/\i=f/\s=u/\l.length=m.length)->∃r,some false=some r/\(r=true↔Tm.mk k i s l=Tm.mk k' f u m):=by
    intro hn;refine⟨false,rfl,?_⟩;simp only[hZ,Ho,Tm.mk.injEq,not_and];rintro rfl rfl rfl rfl;exact hn ⟨rfl,rfl,rfl,rfl⟩
   by_cases g:k≠k'
   ·rw[bX g,bX trivial];exact no λh=>g h.1
   ·rw[bV g]
    by_cases hi:i≠f
    ·rw[bX hi,bX trivial];exact no λh=>hi h.2.1
    ·rw[bV hi];obtain⟨r,H,B⟩:=vr FU s u (by rw[cV];omega) cw;rw[H];simp only[bT]
     by_cases o:r=true
     ·have hs:=B.1 o;rw[bX o]
      by_cases hlen:(l.length:Int)≠m.length
      ·rw[bX hlen];exact no λh=>hlen cw
      ·rw[bV hlen]
       have c:l.length=m.length:=cw
       let p:Tm->Tm->Bool:=λx y=>(gB n x y).getD false
       have C:∀x∈l,∀y,gB n x y=some (p x y)/\(p x y=true↔x=y):=by
        intro x d y;have:=cy Tm.wt d;obtain⟨r,D,q⟩:=E x y cw cw
        have e:p x y=r:=by show(gB n x y).getD false=r;rw[D];rfl
        rw[e];exact⟨D,q⟩
       have key:=vq (F:=λ(j:Int) (x:Tm) (_:Unit)=>bU (cq m j) λy=>bU (gB n x y) λz=>if z then some (dJ.next ())else some (dJ.ret false)) p m l 0 m rfl c (by
        intro k x y d hy;rw[gu,hy];simp only[bT];rw[(C x d y).1]
        rfl)
       rw[key];have he:=vh p l m λx d y=>(C x d y).2;have v:k=k':=uu.1 g;have w:i=f:=uu.1 hi;cases q:tc p l m with
       |false=>
        refine⟨false,rfl,?_⟩;rw[q] at he;simp only[hZ,Ho,Tm.mk.injEq,not_and];intro _ _ _ A;exact absurd (he.2 A) th
       |true=>
        refine⟨true,rfl,?_⟩;rw[q] at he;simp only[Td,Tm.mk.injEq];exact⟨v,w,hs,he.1 rfl⟩
     ·rw[bV o,bX trivial];exact no λh=>o (B.2 h.2.2.1)
def yQ:∀(n:Nat) (a b:Tm),a.wt<=n->a.wt<=1000000000->∃r,ir n a b=some r/\(r=true↔a=b):=by
 intro n
 induction n with
 |zero=>intro t b h;have:=t.gK;omega
 |succ n E=>
  intro a b h G;cases a with
  |mk k i s l=>
  cases b with
  |mk k' f u m=>
   rw[Tm.fo] at h G;have I:=Tm.mh l;rw[ir];simp only[Tm.ck,Tm.cx,Tm.dK,Tm.cT,cc,ch (l:=l) cw,b6,cg,dE]
   have no:¬(k=k'/\i=f/\s=u/\l.length=m.length)->∃r,some false=some r/\(r=true↔Tm.mk k i s l=Tm.mk k' f u m):=by
    intro hn;refine⟨false,rfl,?_⟩;simp only[hZ,Ho,Tm.mk.injEq,not_and];rintro rfl rfl rfl rfl;exact hn ⟨rfl,rfl,rfl,rfl⟩
   by_cases g:k≠k'
   ·rw[bX g,bX trivial];exact no λh=>g h.1
   ·rw[bV g]
    by_cases hi:i≠f
    ·rw[bX hi,bX trivial];exact no λh=>hi h.2.1
    ·rw[bV hi];obtain⟨r,H,B⟩:=uH FU s u (by rw[cV];omega) cw;rw[H];simp only[bT]
     by_cases o:r=true
     ·have hs:=B.1 o;rw[bX o]
      by_cases hlen:(l.length:Int)≠m.length
      ·rw[bX hlen];exact no λh=>hlen cw
      ·rw[bV hlen]
       have c:l.length=m.length:=cw
       let p:Tm->Tm->Bool:=λx y=>(ir n x y).getD false
       have C:∀x∈l,∀y,ir n x y=some (p x y)/\(p x y=true↔x=y):=by
        intro x d y;have:=cy Tm.wt d;obtain⟨r,D,q⟩:=E x y cw cw
        have e:p x y=r:=by show(ir n x y).getD false=r;rw[D];rfl
        rw[e];exact⟨D,q⟩
       have key:=vq (F:=λ(j:Int) (x:Tm) (_:Unit)=>bU (cq m j) λy=>bU (ir n x y) λz=>if z then some (dJ.next ())else some (dJ.ret false)) p m l 0 m rfl c (by
        intro k x y d hy;rw[gu,hy];simp only[bT];rw[(C x d y).1]
        rfl)
       rw[key];have he:=vh p l m λx d y=>(C x d y).2;have v:k=k':=uu.1 g;have w:i=f:=uu.1 hi;cases q:tc p l m with
       |false=>
        refine⟨false,rfl,?_⟩;rw[q] at he;simp only[hZ,Ho,Tm.mk.injEq,not_and];intro _ _ _ A;exact absurd (he.2 A) th
       |true=>
        refine⟨true,rfl,?_⟩;rw[q] at he;simp only[Td,Tm.mk.injEq];exact⟨v,w,hs,he.1 rfl⟩
     ·rw[bV o,bX trivial];exact no λh=>o (B.2 h.2.2.1)
def uB{a b:Tm}(hw:a.wt<=1000000000):∃r,tz a b=some r/\(r=true↔a=b):=by
 obtain⟨r,c,d⟩:=uN FU a b (by rw[cV];exact hw) hw;exact⟨r,by unfold tz;rw[c];rfl,d⟩
def Ax:∀(k:Nat) (m:Int) (t:Tm),(t.norm k m).2.2=0\/(t.norm k m).2.2=4\/(t.norm k m).2.2=5
 |0,m,t=>by
  rw[Tm.norm]
  split
  ·exact .inl rfl
  ·exact .inr (.inr rfl)
 |k+1,m,t=>by
  rw[Tm.norm]
  split
  ·exact .inr (.inl rfl)
  ·exact .inl rfl
  ·exact Ax k _ _
def MQ:∀(k:Nat) (m:Int) (t a:Tm) (n:Int),t.norm k m=(a,n,0)->a.nf=true/\m<=n/\n<=m+k/\(∀k':Nat,n<=m+k'->t.norm k' m=(a,n,0))/\∀k':Nat,m+k'<n->t.norm k' m=(Tm.z,0,5)
 |0,m,t,a,n,h=>by
  rw[Tm.norm] at h
  split at h
  ·rename_i b;obtain⟨c,h⟩:=fH h;rw[<-c];obtain⟨rfl,_⟩:=fH h;refine⟨b,RE _,cw,λk' _=>?_,λk' h=>by omega⟩;cases k' with
   |zero=>rw[Tm.norm,bX b]|succ k'=>rw[x0 ((xJ _ _).1 b)]
  ·cases h
 |k+1,m,t,a,n,h=>by
  rw[Tm.norm] at h
  split at h
  ·cases h
  ·rename_i hs;obtain⟨c,h⟩:=fH h;rw[<-c];obtain⟨rfl,_⟩:=fH h;have b:=(xJ _ _).2 hs;refine⟨b,RE _,cw,λk' _=>?_,λk' h=>by omega⟩;cases k' with
   |zero=>rw[Tm.norm,bX b]|succ k'=>rw[x0 hs]
  ·rename_i d hs;obtain⟨e,j,l,f,g⟩:=MQ k (m+1) d a n h;refine⟨e,cw,cw,λk' i=>?_,λk' i=>?_⟩
   ·cases k' with
    |zero=>omega|succ k'=>
     rw[yj hs];exact f k' cw
   ·cases k' with
    |zero=>
     rw[Tm.norm,bV];intro b;rw[(xJ _ _).1 b] at hs;cases hs
    |succ k'=>
     rw[yj hs];exact g k' cw
def DB:∀(k:Nat) (M m:Int) (t a:Tm) (n:Int),0<=M->Sm M t->t.acJ<=4096->t.norm k m=(a,n,0)->Sm (M+8192*k) a/\a.acJ<=4096
 |0,M,m,t,a,n,d,hs,hn,h=>by
  rw[Tm.norm] at h
  split at h
  ·obtain⟨b,h⟩:=fH h;rw[<-b];exact⟨hs.mono cw,hn⟩
  ·cases h
 |k+1,M,m,t,a,n,d,hs,hn,h=>by
  rw[Tm.norm] at h
  split at h
  ·cases h
  ·obtain⟨b,h⟩:=fH h;rw[<-b];exact⟨hs.mono cw,hn⟩
  ·rename_i e c;obtain⟨f,g,i⟩:=IJ d t hs cw e c;obtain⟨a1,a2⟩:=DB k (M+8192) (m+1) e a n cw ⟨f,g,cw⟩ cw h;exact⟨a1.mono cw,a2⟩
def NY(l:List Int):Es l=some (decide (l.length<=500)):=by
 unfold Es
 congr 1
 unfold Dh cE;exact MG.2 cw
def oC{k:Int}(a:k≠1)(c:k≠2)(f b i:Int)(s:Ty)(l:List Tm):(Tm.mk k i s l).up f b=.mk k i s (l.map (Tm.up f b)):=by
 rw[Tm.fx,bV (λh=>a h.1)];unfold dD;rw[bV c,wV]
def Rz(f b i:Int)(s:Ty)(l:List Tm):(Tm.mk 2 i s l).up f b=.mk 2 i s (l.map (Tm.up (f+1) b)):=by
 rw[Tm.fx,bV (λh=>by have:=h.1;omega)];rfl
def lx{k:Int}(b:k≠1)(c:k≠2)(n i:Int)(a:Tm)(s:Ty)(l:List Tm):Tm.e_ n (Tm.mk k i s l) a=.mk k i s (l.map λx=>Tm.e_ n x a):=by
 rw[Tm.fB,bV b];unfold dD;rw[bV c,wV]
def Nv(n i:Int)(a:Tm)(s:Ty)(l:List Tm):Tm.e_ n (Tm.mk 2 i s l) a=.mk 2 i s (l.map λx=>Tm.e_ (n+1) x a):=by
 rw[Tm.fB,bV gw];rfl
def Dy{g:List Ty}{t:Ty}{i j:Nat}(h:g[j]?=some t)(hi:i<g.length)(a:g.length-1-i=j):cQ g (.mk 1 i .z []) t:=.var i hi (by rw[a];exact h)
def cQ.up{g:List Ty}{x:Tm}{t:Ty}(h:cQ g x t):∀g1 g2 e:List Ty,g=g1++g2->cQ (g1++e++g2) (x.up g2.length e.length) t:=by
 induction h with
 |@var g t i d l=>
  rintro g1 g2 e rfl;rw[Tm.fx,pF];rw[nd] at d
  by_cases hi:g2.length<=i
  ·rw[bX ⟨rfl,cw⟩,show(i:Int)+e.length=((i+e.length:Nat):Int) by push_cast;rfl];refine Dy (j:=g1.length+g2.length-1-i) ?_ (by simp<;>omega) (by simp<;>omega);rw[nd,ni cw] at l;rw[mI,ni cw];exact l
  ·rw[bV (λh=>by have:=h.2;omega)];refine Dy (j:=g1.length+e.length+(g2.length-1-i)) ?_ (by simp<;>omega) (by simp<;>omega);rw[nd,n7 cw] at l;rw[n7 (by simp<;>omega)];rw[<-l]
   congr 1
   simp;omega
 |@lam g s b t d _ f=>
  rintro g1 g2 e rfl;have:=f g1 (g2++[s]) e (by rw[mI]);rw[Rz];refine .lam d ?_;rw[nd,<-mI] at this;exact this
 |app _ _ a c=>intro g1 g2 e hg;rw[oC gw gw];exact .app (a g1 g2 e hg) (c g1 g2 e hg)|zero=>intro g1 g2 e hg;rw[oC gw gw];exact .zero|succ _ f=>intro g1 g2 e hg;rw[oC gw gw];exact .succ (f g1 g2 e hg)|rW d _ _ _ a c k=>intro g1 g2 e hg;rw[oC gw gw];exact .rW d (a g1 g2 e hg) (c g1 g2 e hg) (k g1 g2 e hg)|nil=>intro g1 g2 e hg;rw[oC gw gw];exact .nil|cons _ _ a c=>intro g1 g2 e hg;rw[oC gw gw];exact .cons (a g1 g2 e hg) (c g1 g2 e hg)|fold d _ _ _ a c k=>intro g1 g2 e hg;rw[oC gw gw];exact .fold d (a g1 g2 e hg) (c g1 g2 e hg) (k g1 g2 e hg)|pair d _ _ a c=>intro g1 g2 e hg;rw[oC gw gw];exact .pair d (a g1 g2 e hg) (c g1 g2 e hg)|fst _ f=>intro g1 g2 e hg;rw[oC gw gw];exact .fst (f g1 g2 e hg)|snd _ f=>intro g1 g2 e hg;rw[oC gw gw];exact .snd (f g1 g2 e hg)|unit=>intro g1 g2 e hg;rw[oC gw gw];exact .unit
theorem cQ.e_{g:List Ty}{x:Tm}{t:Ty}(h:cQ g x t):∀(g1:List Ty) (s:Ty) (g2:List Ty) (a:Tm),g=g1++[s]++g2->cQ g1 a s->cQ (g1++g2) (Tm.e_ g2.length x a) t:=by
 induction h with
 |@var g t i f k=>
  rintro g1 s g2 a rfl c;rw[Tm.fB,bX rfl];unfold Tm.mW;simp only[nd,jK,uo] at f k
  by_cases he:(i:Int)=g2.length
  ·rw[bX he]
   have n:s=t:=by
    rw[mI,n7 cw,ni (by simp<;>omega)] at k;rw[show g1.length+(0+1)+g2.length-1-i-g1.length=0 by omega] at k;exact gv k
   subst n;have:=c.up g1 [] g2 th;simpa using this
  ·rw[bV he]
   by_cases hi:(g2.length:Int)<i
   ·rw[bX hi,show(i:Int)-1=((i-1:Nat):Int) by omega];refine Dy (j:=g1.length+g2.length-i) ?_ (by simp<;>omega) (by simp<;>omega);rw[mI,ni cw] at k;rw[ni cw,<-k]
    congr 1
    omega
   ·rw[bV hi];refine Dy (j:=g1.length+(g2.length-1-i)) ?_ (by simp<;>omega) (by simp<;>omega);rw[n7 (by simp<;>omega)] at k;rw[n7 cw,<-k]
    congr 1
    simp;omega
 |@lam g s b t f _ l=>
  rintro g1 u g2 a rfl c;have:=l g1 u (g2++[s]) a (by simp only[mI]) c;rw[Nv];refine .lam f ?_;rw[nd,<-mI] at this;exact this
 |app _ _ d e=>intro g1 s g2 a hg c;rw[lx gw gw];exact .app (d g1 s g2 a hg c) (e g1 s g2 a hg c)|zero=>intro g1 s g2 a hg c;rw[lx gw gw];exact .zero|succ _ l=>intro g1 s g2 a hg c;rw[lx gw gw];exact .succ (l g1 s g2 a hg c)|rW f _ _ _ d e m=>intro g1 s g2 a hg c;rw[lx gw gw];exact .rW f (d g1 s g2 a hg c) (e g1 s g2 a hg c) (m g1 s g2 a hg c)|nil=>intro g1 s g2 a hg c;rw[lx gw gw];exact .nil|cons _ _ d e=>intro g1 s g2 a hg c;rw[lx gw gw];exact .cons (d g1 s g2 a hg c) (e g1 s g2 a hg c)|fold f _ _ _ d e m=>intro g1 s g2 a hg c;rw[lx gw gw];exact .fold f (d g1 s g2 a hg c) (e g1 s g2 a hg c) (m g1 s g2 a hg c)|pair f _ _ d e=>intro g1 s g2 a hg c;rw[lx gw gw];exact .pair f (d g1 s g2 a hg c) (e g1 s g2 a hg c)|fst _ l=>intro g1 s g2 a hg c;rw[lx gw gw];exact .fst (l g1 s g2 a hg c)|snd _ l=>intro g1 s g2 a hg c;rw[lx gw gw];exact .snd (l g1 s g2 a hg c)|unit=>intro g1 s g2 a hg c;rw[lx gw gw];exact .unit
def Ty.WZ{a b c d:Ty}(h:Ty.fn a b=Ty.fn c d):a=c/\b=d:=by unfold Ty.fn at h;simpa using h
def Ty.Qd{a b c d:Ty}(h:Ty.pr a b=Ty.pr c d):a=c/\b=d:=by unfold Ty.pr at h;simpa using h
theorem cQ.dg{g:List Ty}{x:Tm}{t:Ty}(h:cQ g x t)(l:x.root=true):cQ g x.dg t:=by
 cases h with
 |@app _ f a s _ c j=>
  have d:f.acH=2:=by simpa[Tm.root,Tm.kd] using l
  generalize o:Ty.fn s t=q at c
  cases c<;>simp only[Tm.cx] at d<;>first|omega|skip
  rename_i w b p e i;obtain⟨rfl,rfl⟩:=Ty.WZ o;have:=i.e_ g s [] a th j;simpa[Tm.dg] using this
 |@rW _ _ b s n c j e i=>
  have d:n.acH=4\/n.acH=5:=by simpa[Tm.root,Tm.kd] using l
  cases i<;>simp only[Tm.cx] at d<;>first|omega|skip
  ·simpa[Tm.dg] using j
  ·rename_i m k;have:=cQ.app (.app e k) (cQ.rW c j e k);simpa[Tm.dg,iK,Ty.z] using this
 |@fold _ _ b s n c j e i=>
  have d:n.acH=7\/n.acH=8:=by simpa[Tm.root,Tm.kd] using l
  cases i<;>simp only[Tm.cx] at d<;>first|omega|skip
  ·simpa[Tm.dg] using j
  ·rename_i u v k r;have:=cQ.app (.app (.app e k) r) (cQ.fold c j e r);simpa[Tm.dg,iK,Ty.z] using this
 |@fst _ a s p c=>
  have d:a.acH=10:=by simpa[Tm.root,Tm.kd] using l
  generalize o:Ty.pr t p=q at c
  cases c<;>simp only[Tm.cx] at d<;>first|omega|skip
  rename_i e i k;obtain⟨rfl,rfl⟩:=Ty.Qd o;simpa[Tm.dg] using i
 |@snd _ a s p c=>
  have d:a.acH=10:=by simpa[Tm.root,Tm.kd] using l
  generalize o:Ty.pr s t=q at c
  cases c<;>simp only[Tm.cx] at d<;>first|omega|skip
  rename_i e i k;obtain⟨rfl,rfl⟩:=Ty.Qd o;simpa[Tm.dg] using k
 |_=>simp[Tm.root] at l
def jD{r k i:Int}{s:Ty}{l:List Tm}{b:Tm}(h:(Tm.mk k i s l).DL r=some (some b)):((Tm.mk k i s l).root=true/\b=(Tm.mk k i s l).dg)\/∃a,Tm.p0 r l=some (some a)/\b=.mk k i s a:=by
 rw[Tm.zh] at h
 by_cases c:(Tm.mk k i s l).root=true
 ·rw[bX c] at h
  split at h
  · cases h
  · exact .inl ⟨c,(gv (gv h)).symm⟩
 ·rw[bV c] at h;cases e:Tm.p0 r l with
  |none=>rw[e] at h;cases h
  |some o=>
    cases o with
    |none=>rw[e] at h;cases h
    |some a=>rw[e] at h;exact .inr ⟨a,rfl,(gv (gv h)).symm⟩
def ia{r:Int}{a:Tm}{l c:List Tm}(h:Tm.p0 r (a::l)=some (some c)):(∃b,a.DL r=some (some b)/\c=b::l)\/∃m,Tm.p0 r l=some (some m)/\c=a::m:=by
 rw[Tm.p0] at h;cases e:a.DL r with
 |none=>rw[e] at h;cases h
 |some o=>
  cases o with
  |some b=>rw[e] at h;exact .inl ⟨b,rfl,(gv (gv h)).symm⟩
  |none=>
   rw[e] at h;dsimp only at h;cases d:Tm.p0 r l with
   |none=>rw[d] at h;cases h
   |some o2=>
    cases o2 with
    |none=>rw[d] at h;cases h
    |some m=>rw[d] at h;exact .inr ⟨m,rfl,(gv (gv h)).symm⟩
def la{r:Int}{a:List Tm}(h:Tm.p0 r []=some (some a)):False:=by rw[Tm.p0] at h;cases h
def cQ.DL{r:Int}{g:List Ty}{x:Tm}{t:Ty}(h:cQ g x t):∀n,x.DL r=some (some n)->cQ g n t:=by
 induction h with
 |var i c f=>
  intro n hs;rcases jD hs with⟨d,rfl⟩|⟨q,e,rfl⟩
  ·exact(cQ.var i c f).dg d
  ·exact(la e).elim
 |lam c f s=>
  intro n hs;rcases jD hs with⟨d,rfl⟩|⟨q,e,rfl⟩
  ·exact(cQ.lam c f).dg d
  ·rcases ia e with⟨o,a,b⟩|⟨m,a,b⟩
   ·subst_vars;exact .lam c (s _ a)
   ·exact(la a).elim
 |app c f j k=>
  intro n hs;rcases jD hs with⟨d,rfl⟩|⟨q,e,rfl⟩
  ·exact(cQ.app c f).dg d
  ·rcases ia e with⟨o,a,b⟩|⟨m,a,b⟩
   ·subst_vars;exact .app (j _ a) f
   ·rcases ia a with⟨o,l,b⟩|⟨m,l,b⟩
    ·subst_vars;exact .app c (k _ l)
    ·exact(la l).elim
 |zero=>
  intro n hs;rcases jD hs with⟨d,rfl⟩|⟨q,e,rfl⟩
  ·exact cQ.zero.dg d
  ·exact(la e).elim
 |succ c s=>
  intro n hs;rcases jD hs with⟨d,rfl⟩|⟨q,e,rfl⟩
  ·exact(cQ.succ c).dg d
  ·rcases ia e with⟨o,a,b⟩|⟨m,a,b⟩
   ·subst_vars;exact .succ (s _ a)
   ·exact(la a).elim
 |rW p c f u j k v=>
  intro n hs;rcases jD hs with⟨d,rfl⟩|⟨q,e,rfl⟩
  ·exact(cQ.rW p c f u).dg d
  ·rcases ia e with⟨o,a,b⟩|⟨m,a,b⟩
   ·subst_vars;exact .rW p (j _ a) f u
   ·rcases ia a with⟨o,l,b⟩|⟨m,l,b⟩
    ·subst_vars;exact .rW p c (k _ l) u
    ·rcases ia l with⟨o,w,b⟩|⟨m,w,b⟩
     ·subst_vars;exact .rW p c f (v _ w)
     ·exact(la w).elim
 |nil=>
  intro n hs;rcases jD hs with⟨d,rfl⟩|⟨q,e,rfl⟩
  ·exact cQ.nil.dg d
  ·exact(la e).elim
 |cons c f j k=>
  intro n hs;rcases jD hs with⟨d,rfl⟩|⟨q,e,rfl⟩
  ·exact(cQ.cons c f).dg d
  ·rcases ia e with⟨o,a,b⟩|⟨m,a,b⟩
   ·subst_vars;exact .cons (j _ a) f
   ·rcases ia a with⟨o,l,b⟩|⟨m,l,b⟩
    ·subst_vars;exact .cons c (k _ l)
    ·exact(la l).elim
 |fold p c f u j k v=>
  intro n hs;rcases jD hs with⟨d,rfl⟩|⟨q,e,rfl⟩
  ·exact(cQ.fold p c f u).dg d
  ·rcases ia e with⟨o,a,b⟩|⟨m,a,b⟩
   ·subst_vars;exact .fold p (j _ a) f u
   ·rcases ia a with⟨o,l,b⟩|⟨m,l,b⟩
    ·subst_vars;exact .fold p c (k _ l) u
    ·rcases ia l with⟨o,w,b⟩|⟨m,w,b⟩
     ·subst_vars;exact .fold p c f (v _ w)
     ·exact(la w).elim
 |pair p c f j k=>
  intro n hs;rcases jD hs with⟨d,rfl⟩|⟨q,e,rfl⟩
  ·exact(cQ.pair p c f).dg d
  ·rcases ia e with⟨o,a,b⟩|⟨m,a,b⟩
   ·subst_vars;exact .pair p (j _ a) f
   ·rcases ia a with⟨o,l,b⟩|⟨m,l,b⟩
    ·subst_vars;exact .pair p c (k _ l)
    ·exact(la l).elim
 |fst c s=>
  intro n hs;rcases jD hs with⟨d,rfl⟩|⟨q,e,rfl⟩
  ·exact(cQ.fst c).dg d
  ·rcases ia e with⟨o,a,b⟩|⟨m,a,b⟩
   ·subst_vars;exact .fst (s _ a)
   ·exact(la a).elim
 |snd c s=>
  intro n hs;rcases jD hs with⟨d,rfl⟩|⟨q,e,rfl⟩
  ·exact(cQ.snd c).dg d
  ·rcases ia e with⟨o,a,b⟩|⟨m,a,b⟩
   ·subst_vars;exact .snd (s _ a)
   ·exact(la a).elim
 |unit=>
  intro n hs;rcases jD hs with⟨d,rfl⟩|⟨q,e,rfl⟩
  ·exact cQ.unit.dg d
  ·exact(la e).elim
def cQ.norm{g:List Ty}{t:Ty}:∀(k:Nat) (m:Int) (x a:Tm) (n:Int),cQ g x t->x.norm k m=(a,n,0)->cQ g a t
 |0,m,x,a,n,b,h=>by
  rw[Tm.norm] at h
  split at h
  ·obtain⟨c,_⟩:=fH h;rw[<-c];exact b
  ·cases h
 |k+1,m,x,a,n,b,h=>by
  rw[Tm.norm] at h
  split at h
  ·cases h
  ·obtain⟨c,_⟩:=fH h;rw[<-c];exact b
  ·rename_i d hs;exact cQ.norm k (m+1) d a n (b.DL _ hs) h
theorem Hq{i:Int}{s:Ty}{l:List Tm}(h:(Tm.mk 1 i s l).ok=true):s=.mk 0 []/\l=[]:=by
 have b:=Tm.qd h;have e:eF 1=0:=rfl;have a:l=[]:=yD cw;subst a;rw[Tm.eo] at h;cases s with
 |mk k l=>simp[Tm.node,hU,Ty.oG,cr,cE,eF] at h;refine⟨?_,rfl⟩;obtain⟨c,d⟩:=h;simp_all
theorem Zo(t:Tm):∀g f n c:Int,0<=g->0<=n->0<=c->g+n<=f->(t.up g n).up f c=(t.up (f-n) c).up g n:=by
 induction t using Tm.ind with
 |h k i s l a=>
  intro g f n c hg hn b d;simp only[Tm.fx,CW]
  congr 1
  ·grind
  ·refine qg λx e=>?_
   grind[dD]
theorem up_add(t:Tm):∀g f p m:Int,0<=g->0<=p->0<=m->g<=f->f<=g+p->(t.up g p).up f m=t.up g (p+m):=by
 induction t using Tm.ind with
 |h k i s l a=>
  intro g f p m hg b hm c d;simp only[Tm.fx,CW]
  congr 1
  ·grind
  ·refine qg λx e=>?_
   grind[dD]
theorem W8(x t:Tm):∀g m n:Int,t.ok=true->0<=g->g<=m->m<=g+n->Tm.e_ m (t.up g (n+1)) x=t.up g n:=by
 induction t using Tm.ind with
 |h k i s l b=>
  intro g m n c hg d e
  by_cases a:k=1
  ·grind[Hq,Tm.fx,Tm.fB,Tm.mW]
  ·simp only[Tm.fx,a,Mb,fG,Tm.fB,CW]
   congr 1
   refine qg λy hy=>?_
   grind[dD,Tm.cI]
theorem Jq(a t:Tm):∀g m n:Int,t.ok=true->0<=g->0<=m->g+m<=n->Tm.e_ n (t.up g m) a=(Tm.e_ (n-m) t a).up g m:=by
 induction t using Tm.ind with
 |h k i s l c=>
  intro g m n d hg hm e
  by_cases b:k=1
  ·grind[Tm.fx,Tm.fB,Tm.mW,up_add]
  ·simp only[Tm.fx,b,Mb,fG,Tm.fB,CW]
   congr 1
   refine qg λy hy=>?_
   grind[dD,Tm.cI]
def VD(a t:Tm):∀n f c:Int,t.ok=true->0<=n->n<=f->0<=c->(Tm.e_ n t a).up f c=Tm.e_ n (t.up (f+1) c) (a.up (f-n) c):=by
 induction t using Tm.ind with
 |h k i s l e=>
  intro n f c d hn g j
  by_cases b:k=1
  ·subst b;obtain⟨rfl,rfl⟩:=Hq d;simp only[Tm.fx,zE,pF,Tm.fB,if_true]
   grind[Tm.mW,Zo,Tm.fx]
  ·simp only[Tm.fx,b,Mb,fG,Tm.fB,CW]
   congr 1
   refine qg λy hy=>?_
   grind[dD,Tm.cI]
def Tc(a s:Tm)(c:a.ok=true)(hs:s.ok=true)(t:Tm):∀m n:Int,t.ok=true->0<=m->m<=n->Tm.e_ n (Tm.e_ m t a) s=Tm.e_ m (Tm.e_ (n+1) t s) (Tm.e_ (n-m) a s):=by
 induction t using Tm.ind with
 |h k i ty l d=>
  intro m n e hm hn
  by_cases b:k=1
  ·grind[Hq,Tm.fB,Tm.mW,Jq,W8]
  ·simp only[Tm.fB,b,fG,CW]
   congr 1
   refine qg λy hy=>?_
   grind[dD,Tm.cI]
inductive ly:Tm->Tm->Prop
 |n0 (k i:Int) (s:Ty):ly (.mk k i s []) (.mk k i s [])|n1 (k i:Int) (s:Ty) {a a':Tm}:ly a a'->ly (.mk k i s [a]) (.mk k i s [a'])|n2 (k i:Int) (s:Ty) {a a' b b':Tm}:ly a a'->ly b b'->ly (.mk k i s [a,b]) (.mk k i s [a',b'])|n3 (k i:Int) (s:Ty) {a a' b b' c c':Tm}:ly a a'->ly b b'->ly c c'->ly (.mk k i s [a,b,c]) (.mk k i s [a',b',c'])|beta (i:Int) (s:Ty) (j:Int) (u:Ty) {b b' a a':Tm}:ly b b'->ly a a'->ly (.mk 3 i s [.mk 2 j u [b],a]) (Tm.e_ 0 b' a')|Jx (i:Int) (s:Ty) (j:Int) (u:Ty) (c:Tm) {b b':Tm}:ly b b'->ly (.mk 6 i s [b,c,.mk 4 j u []]) b'|J2 (i:Int) (s:Ty) (j:Int) (u:Ty) {b b' c c' n n':Tm}:ly b b'->ly c c'->ly n n'->ly (.mk 6 i s [b,c,.mk 5 j u [n]]) (iK c' [n',.mk 6 i s [b',c',n']])|Cb (i:Int) (s:Ty) (j:Int) (u:Ty) (c:Tm) {b b':Tm}:ly b b'->ly (.mk 9 i s [b,c,.mk 7 j u []]) b'|CB (i:Int) (s:Ty) (j:Int) (u:Ty) {b b' c c' n n' t t':Tm}:ly b b'->ly c c'->ly n n'->ly t t'->ly (.mk 9 i s [b,c,.mk 8 j u [n,t]]) (iK c' [n',t',.mk 9 i s [b',c',t']])|fst (i:Int) (s:Ty) (j:Int) (u:Ty) (b:Tm) {a a':Tm}:ly a a'->ly (.mk 11 i s [.mk 10 j u [a,b]]) a'|snd (i:Int) (s:Ty) (j:Int) (u:Ty) (a:Tm) {b b':Tm}:ly b b'->ly (.mk 12 i s [.mk 10 j u [a,b]]) b'
def ly.ok{t u:Tm}(h:ly t u):t.ok=true->u.ok=true:=by
 induction h with
 |n0 k i s=>exact id|n1 k i s _ g=>intro d;exact Tm.tT d rfl (by intro t p;rw[yC] at p;subst p;exact g (Tm.cI d _ th))
 |n2 k i s _ _ e f=>grind[Tm.tT,Tm.cI]|n3 k i s _ _ _ e f l=>
  intro d;refine Tm.tT d rfl ?_
  grind[Tm.cI]
 |@beta i s j u b m a r _ _ e f=>
  intro d;exact Tm.KZ _ (f (Tm.cI d a th)) _ 0 cw (e (Tm.cI (Tm.cI d (Tm.mk 2 j u [b]) th) b th))
 |Jx i s j u c _ g=>intro d;exact g (Tm.cI d _ th)|@J2 i s j u b m c v n n' _ _ _ e f l=>
  intro d;have w:=e (Tm.cI d _ th);have x:=f (Tm.cI d _ th);have y:=l (Tm.cI (Tm.cI d (Tm.mk 5 j u [n]) th) _ th)
  grind[Ay,Tm.tT]
 |Cb i s j u c _ g=>intro d;exact g (Tm.cI d _ th)|@CB i s j u b m c v n n' t z _ _ _ _ e f l o=>
  intro d;have w:=e (Tm.cI d _ th);have x:=f (Tm.cI d _ th);have q:=Tm.cI d (Tm.mk 8 j u [n,t]) th;have y:=l (Tm.cI q _ th);have A:=o (Tm.cI q _ th)
  grind[Ay,Tm.tT]
 |@fst i s j u b a r _ g=>intro d;exact g (Tm.cI (Tm.cI d (Tm.mk 10 j u [a,b]) th) a th)|@snd i s j u a b m _ g=>intro d;exact g (Tm.cI (Tm.cI d (Tm.mk 10 j u [a,b]) th) b th)
def up3(f b i:Int)(s:Ty)(l:List Tm):(Tm.mk 3 i s l).up f b=.mk 3 i s (l.map (Tm.up f b)):=oC gw gw f b i s l
def up4(f b i:Int)(s:Ty)(l:List Tm):(Tm.mk 4 i s l).up f b=.mk 4 i s (l.map (Tm.up f b)):=oC gw gw f b i s l
def up5(f b i:Int)(s:Ty)(l:List Tm):(Tm.mk 5 i s l).up f b=.mk 5 i s (l.map (Tm.up f b)):=oC gw gw f b i s l
def up6(f b i:Int)(s:Ty)(l:List Tm):(Tm.mk 6 i s l).up f b=.mk 6 i s (l.map (Tm.up f b)):=oC gw gw f b i s l
def up7(f b i:Int)(s:Ty)(l:List Tm):(Tm.mk 7 i s l).up f b=.mk 7 i s (l.map (Tm.up f b)):=oC gw gw f b i s l
def up8(f b i:Int)(s:Ty)(l:List Tm):(Tm.mk 8 i s l).up f b=.mk 8 i s (l.map (Tm.up f b)):=oC gw gw f b i s l
def up9(f b i:Int)(s:Ty)(l:List Tm):(Tm.mk 9 i s l).up f b=.mk 9 i s (l.map (Tm.up f b)):=oC gw gw f b i s l
def ZY(f b i:Int)(s:Ty)(l:List Tm):(Tm.mk 10 i s l).up f b=.mk 10 i s (l.map (Tm.up f b)):=oC gw gw f b i s l
def VQ(f b i:Int)(s:Ty)(l:List Tm):(Tm.mk 11 i s l).up f b=.mk 11 i s (l.map (Tm.up f b)):=oC gw gw f b i s l
def Wz(f b i:Int)(s:Ty)(l:List Tm):(Tm.mk 12 i s l).up f b=.mk 12 i s (l.map (Tm.up f b)):=oC gw gw f b i s l
def in3(n i:Int)(a:Tm)(s:Ty)(l:List Tm):Tm.e_ n (Tm.mk 3 i s l) a=.mk 3 i s (l.map λx=>Tm.e_ n x a):=lx gw gw n i a s l
def in4(n i:Int)(a:Tm)(s:Ty)(l:List Tm):Tm.e_ n (Tm.mk 4 i s l) a=.mk 4 i s (l.map λx=>Tm.e_ n x a):=lx gw gw n i a s l
def in5(n i:Int)(a:Tm)(s:Ty)(l:List Tm):Tm.e_ n (Tm.mk 5 i s l) a=.mk 5 i s (l.map λx=>Tm.e_ n x a):=lx gw gw n i a s l
def in6(n i:Int)(a:Tm)(s:Ty)(l:List Tm):Tm.e_ n (Tm.mk 6 i s l) a=.mk 6 i s (l.map λx=>Tm.e_ n x a):=lx gw gw n i a s l
def in7(n i:Int)(a:Tm)(s:Ty)(l:List Tm):Tm.e_ n (Tm.mk 7 i s l) a=.mk 7 i s (l.map λx=>Tm.e_ n x a):=lx gw gw n i a s l
def in8(n i:Int)(a:Tm)(s:Ty)(l:List Tm):Tm.e_ n (Tm.mk 8 i s l) a=.mk 8 i s (l.map λx=>Tm.e_ n x a):=lx gw gw n i a s l
def in9(n i:Int)(a:Tm)(s:Ty)(l:List Tm):Tm.e_ n (Tm.mk 9 i s l) a=.mk 9 i s (l.map λx=>Tm.e_ n x a):=lx gw gw n i a s l
def Y4(n i:Int)(a:Tm)(s:Ty)(l:List Tm):Tm.e_ n (Tm.mk 10 i s l) a=.mk 10 i s (l.map λx=>Tm.e_ n x a):=lx gw gw n i a s l
def aa6(n i:Int)(a:Tm)(s:Ty)(l:List Tm):Tm.e_ n (Tm.mk 11 i s l) a=.mk 11 i s (l.map λx=>Tm.e_ n x a):=lx gw gw n i a s l
def abF(n i:Int)(a:Tm)(s:Ty)(l:List Tm):Tm.e_ n (Tm.mk 12 i s l) a=.mk 12 i s (l.map λx=>Tm.e_ n x a):=lx gw gw n i a s l
def ly.up{t u:Tm}(h:ly t u):t.ok=true->∀f c:Int,0<=f->0<=c->ly (t.up f c) (u.up f c):=by
 induction h with
 |n0 k i s=>intro _ f c _ _;rw[Tm.fx];exact .n0 _ _ _|n1 k i s _ r=>
  intro e f c g p;have z:=gi k;rw[Tm.fx,Tm.fx];exact .n1 _ _ _ (r (Tm.cI e _ th) _ _ cw p)
 |n2 k i s _ _ l m=>
  intro e f c g p;have z:=gi k;rw[Tm.fx,Tm.fx];exact .n2 _ _ _ (l (Tm.cI e _ th) _ _ cw p) (m (Tm.cI e _ th) _ _ cw p)
 |n3 k i s _ _ _ l m q=>
  intro e f c g p;have z:=gi k;rw[Tm.fx,Tm.fx];exact .n3 _ _ _ (l (Tm.cI e _ th) _ _ cw p) (m (Tm.cI e _ th) _ _ cw p) (q (Tm.cI e _ th) _ _ cw p)
 |@beta i s j u b x a A B D l m=>
  intro e f c g p;have v:=Tm.cI e (Tm.mk 2 j u [b]) th;have w:=Tm.cI v b th;rw[VD A x 0 f c (B.ok w) cw g p,Int.sub_zero];simp only[up3,Rz,mL,pF];exact .beta _ _ _ _ (l w _ _ cw p) (m (Tm.cI e _ th) _ _ g p)
 |Jx i s j u c _ r=>
  intro e f d g o;simp only[up6,up4,mL,pF];exact .Jx _ _ _ _ _ (r (Tm.cI e _ th) _ _ g o)
 |@J2 i s j u b x c C n n' _ _ _ l m q=>
  intro e f d g o;have v:=Tm.cI e (Tm.mk 5 j u [n]) th;simp only[iK,up3,up6,up5,mL,pF];exact .J2 _ _ _ _ (l (Tm.cI e _ th) _ _ g o) (m (Tm.cI e _ th) _ _ g o) (q (Tm.cI v _ th) _ _ g o)
 |Cb i s j u c _ r=>
  intro e f d g o;simp only[up9,up7,mL,pF];exact .Cb _ _ _ _ _ (r (Tm.cI e _ th) _ _ g o)
 |@CB i s j u b x c C n n' t E _ _ _ _ l m q y=>
  intro e f d g o;have v:=Tm.cI e (Tm.mk 8 j u [n,t]) th;simp only[iK,up3,up9,up8,mL,pF];exact .CB _ _ _ _ (l (Tm.cI e _ th) _ _ g o) (m (Tm.cI e _ th) _ _ g o) (q (Tm.cI v _ th) _ _ g o) (y (Tm.cI v _ th) _ _ g o)
 |@fst i s j u b a A _ r=>
  intro e f d g o;simp only[VQ,ZY,mL,pF];exact .fst _ _ _ _ _ (r (Tm.cI (Tm.cI e (Tm.mk 10 j u [a,b]) th) _ th) _ _ g o)
 |@snd i s j u a b x _ r=>
  intro e f d g o;simp only[Wz,ZY,mL,pF];exact .snd _ _ _ _ _ (r (Tm.cI (Tm.cI e (Tm.mk 10 j u [a,b]) th) _ th) _ _ g o)
def x8{k i:Int}{s:Ty}{a:Tm}{l:List Tm}(h:(Tm.mk k i s (a::l)).ok=true):k≠1:=by grind[Hq]
theorem ly.e_{t u:Tm}(h:ly t u){x y:Tm}(q:ly x y)(C:x.ok=true):t.ok=true->∀n:Int,0<=n->ly (Tm.e_ n t x) (Tm.e_ n u y):=by
 have hy:=q.ok C
 induction h with
 |n0 k i s=>
  intro d n hn;rw[Tm.fB,Tm.fB]
  by_cases w:k=1
  ·rw[bX w,bX w];unfold Tm.mW
   by_cases o:i=n
   ·rw[bX o,bX o];exact q.up C 0 n cw hn
   ·rw[bV o,bV o]
    by_cases z:n<i
    ·rw[bX z];exact .n0 _ _ _
    ·rw[bV z];exact .n0 _ _ _
  ·rw[bV w,bV w];exact .n0 _ _ _
 |n1 k i s _ l=>
  intro d n hn;have D:=gi k;rw[Tm.fB,Tm.fB,bV (x8 d),bV (x8 d)];exact .n1 _ _ _ (l (Tm.cI d _ th) _ cw)
 |n2 k i s _ _ e f=>
  intro d n hn;have D:=gi k;rw[Tm.fB,Tm.fB,bV (x8 d),bV (x8 d)];exact .n2 _ _ _ (e (Tm.cI d _ th) _ cw) (f (Tm.cI d _ th) _ cw)
 |n3 k i s _ _ _ e f g=>
  intro d n hn;have D:=gi k;rw[Tm.fB,Tm.fB,bV (x8 d),bV (x8 d)];exact .n3 _ _ _ (e (Tm.cI d _ th) _ cw) (f (Tm.cI d _ th) _ cw) (g (Tm.cI d _ th) _ cw)
 |@beta i s j u b A a E o z e f=>
  intro d n hn;have p:=Tm.cI d (Tm.mk 2 j u [b]) th;have r:=Tm.cI p b th;have v:=Tm.cI d a th;rw[Tc E y (z.ok v) hy A 0 n (o.ok r) cw hn,Int.sub_zero];simp only[in3,Nv,mL,pF];exact .beta _ _ _ _ (e r _ cw) (f v _ hn)
 |Jx i s j u c _ l=>
  intro d n hn;simp only[in6,in4,mL,pF];exact .Jx _ _ _ _ _ (l (Tm.cI d _ th) _ hn)
 |@J2 i s j u b A c F n n' _ _ _ e f g=>
  intro d m hm;have p:=Tm.cI d (Tm.mk 5 j u [n]) th;simp only[iK,in3,in6,in5,mL,pF];exact .J2 _ _ _ _ (e (Tm.cI d _ th) _ hm) (f (Tm.cI d _ th) _ hm) (g (Tm.cI p _ th) _ hm)
 |Cb i s j u c _ l=>
  intro d n hn;simp only[in9,in7,mL,pF];exact .Cb _ _ _ _ _ (l (Tm.cI d _ th) _ hn)
 |@CB i s j u b A c F n n' t G _ _ _ _ e f g B=>
  intro d m hm;have p:=Tm.cI d (Tm.mk 8 j u [n,t]) th;simp only[iK,in3,in9,in8,mL,pF];exact .CB _ _ _ _ (e (Tm.cI d _ th) _ hm) (f (Tm.cI d _ th) _ hm) (g (Tm.cI p _ th) _ hm) (B (Tm.cI p _ th) _ hm)
 |@fst i s j u b a E _ l=>
  intro d n hn;simp only[aa6,Y4,mL,pF];exact .fst _ _ _ _ _ (l (Tm.cI (Tm.cI d (Tm.mk 10 j u [a,b]) th) _ th) _ hn)
 |@snd i s j u a b A _ l=>
  intro d n hn;simp only[abF,Y4,mL,pF];exact .snd _ _ _ _ _ (l (Tm.cI (Tm.cI d (Tm.mk 10 j u [a,b]) th) _ th) _ hn)
def ly.SY{k i:Int}{s:Ty}{v:Tm}(h:ly (.mk k i s []) v):v=.mk k i s []:=by
 generalize a:Tm.mk k i s []=x at h;cases h<;>simp only[Tm.mk.injEq,reduceCtorEq,and_false,Lr,Mb] at a;obtain⟨rfl,rfl,rfl,_⟩:=a;rfl
def ly.inv1{k i:Int}{s:Ty}{a v:Tm}(h:ly (.mk k i s [a]) v)(d:k≠11)(e:k≠12):∃c,v=.mk k i s [c]/\ly a c:=by
 generalize b:Tm.mk k i s [a]=x at h;cases h<;>simp only[Tm.mk.injEq,reduceCtorEq,and_false,Lr,Mb,KH] at b
 ·obtain⟨rfl,rfl,rfl,rfl⟩:=b;exact⟨_,rfl,by assumption⟩
 ·exact absurd b.1 d
 ·exact absurd b.1 e
def ly.inv2{k i:Int}{s:Ty}{a b v:Tm}(h:ly (.mk k i s [a,b]) v)(f:k≠3):∃d e,v=.mk k i s [d,e]/\ly a d/\ly b e:=by
 generalize c:Tm.mk k i s [a,b]=x at h;cases h<;>simp only[Tm.mk.injEq,reduceCtorEq,and_false,Lr,Mb,KH] at c
 ·obtain⟨rfl,rfl,rfl,rfl,rfl⟩:=c;exact⟨_,_,rfl,by assumption,by assumption⟩
 ·exact absurd c.1 f
mutual
def Tm.dev:Tm->Tm
 |.mk k i s l=>if(Tm.mk k i s l).root then(Tm.mk k i s (Tm.QW l)).dg else .mk k i s (Tm.QW l)
def Tm.QW:List Tm->List Tm
 |[]=>[]|t::l=>t.dev::Tm.QW l
end
def Tm.MO(l:List Tm):Tm.QW l=l.map Tm.dev:=by
 induction l with
 |nil=>rfl|cons t l a=>simp[Tm.QW,a]
def Tm.tx{k i:Int}{s:Ty}{l:List Tm}(h:(Tm.mk k i s l).root=true):(Tm.mk k i s l).dev=(Tm.mk k i s (l.map Tm.dev)).dg:=by rw[Tm.dev,Tm.MO,bX h]
def Tm.uD{k i:Int}{s:Ty}{l:List Tm}(h:¬(Tm.mk k i s l).root=true):(Tm.mk k i s l).dev=Tm.mk k i s (l.map Tm.dev):=by rw[Tm.dev,Tm.MO,bV h]
def O8(i:Int)(s:Ty)(j:Int)(u:Ty)(l:List Tm)(a:Tm):(Tm.mk 3 i s [.mk 2 j u l,a]).root=true:=by simp[Tm.root,Tm.kd]
def MT(j:Int)(u:Ty)(b:Tm):(Tm.mk 2 j u [b]).dev=.mk 2 j u [b.dev]:=Tm.uD (by simp[Tm.root])
def PW(j:Int)(u:Ty):(Tm.mk 4 j u []).dev=.mk 4 j u []:=Tm.uD (by simp[Tm.root])
def JO(j:Int)(u:Ty)(b:Tm):(Tm.mk 5 j u [b]).dev=.mk 5 j u [b.dev]:=Tm.uD (by simp[Tm.root])
def S5(j:Int)(u:Ty):(Tm.mk 7 j u []).dev=.mk 7 j u []:=Tm.uD (by simp[Tm.root])
def IY(j:Int)(u:Ty)(a b:Tm):(Tm.mk 8 j u [a,b]).dev=.mk 8 j u [a.dev,b.dev]:=Tm.uD (by simp[Tm.root])
def D7(j:Int)(u:Ty)(a b:Tm):(Tm.mk 10 j u [a,b]).dev=.mk 10 j u [a.dev,b.dev]:=Tm.uD (by simp[Tm.root])
def Kf(i:Int)(s:Ty)(j:Int)(u:Ty)(b a:Tm):(Tm.mk 3 i s [.mk 2 j u [b],a]).dev=Tm.e_ 0 b.dev a.dev:=by
 rw[Tm.tx (O8 _ _ _ _ _ _)];simp only[mL,pF,MT];simp[Tm.dg]
def J_(i:Int)(s:Ty)(j:Int)(u:Ty)(b c:Tm):(Tm.mk 6 i s [b,c,.mk 4 j u []]).dev=b.dev:=by
 rw[Tm.tx (by simp[Tm.root,Tm.kd])];simp only[mL,pF,PW];simp[Tm.dg]
def Ky(i:Int)(s:Ty)(j:Int)(u:Ty)(b c n:Tm):(Tm.mk 6 i s [b,c,.mk 5 j u [n]]).dev=iK c.dev [n.dev,.mk 6 i s [b.dev,c.dev,n.dev]]:=by
 rw[Tm.tx (by simp[Tm.root,Tm.kd])];simp only[mL,pF,JO];simp[Tm.dg]
def GO(i:Int)(s:Ty)(j:Int)(u:Ty)(b c:Tm):(Tm.mk 9 i s [b,c,.mk 7 j u []]).dev=b.dev:=by
 rw[Tm.tx (by simp[Tm.root,Tm.kd])];simp only[mL,pF,S5];simp[Tm.dg]
def GS(i:Int)(s:Ty)(j:Int)(u:Ty)(b c n t:Tm):(Tm.mk 9 i s [b,c,.mk 8 j u [n,t]]).dev=iK c.dev [n.dev,t.dev,.mk 9 i s [b.dev,c.dev,t.dev]]:=by
 rw[Tm.tx (by simp[Tm.root,Tm.kd])];simp only[mL,pF,IY];simp[Tm.dg]
def M1(i:Int)(s:Ty)(j:Int)(u:Ty)(a b:Tm):(Tm.mk 11 i s [.mk 10 j u [a,b]]).dev=a.dev:=by
 rw[Tm.tx (by simp[Tm.root,Tm.kd])];simp only[mL,pF,D7];simp[Tm.dg]
def Nx(i:Int)(s:Ty)(j:Int)(u:Ty)(a b:Tm):(Tm.mk 12 i s [.mk 10 j u [a,b]]).dev=b.dev:=by
 rw[Tm.tx (by simp[Tm.root,Tm.kd])];simp only[mL,pF,D7];simp[Tm.dg]
def Tm.vz{t:Tm}{k:Int}(h:t.acH=k):t=.mk k t.acK t.b7 t.acI:=by
 cases t with
 |mk k' i s l=>simp at h;subst h;rfl
def ly.tri{t u:Tm}(h:ly t u):t.ok=true->ly u t.dev:=by
 induction h with
 |n0 k i s=>intro _;rw[Tm.uD (by simp[Tm.root,Tm.kd])];exact .n0 _ _ _|@n1 k i s a H h r=>
  intro g;have m:=Tm.cI g a th;have r:=r m
  by_cases z:(Tm.mk k i s [a]).root=true
  ·have hk:(k=11\/k=12)/\a.acH=10:=by
    have A:=Tm.qd g;have W:eF 3=2:=rfl
    have:k≠3:=by rintro rfl;simp at A;omega
    simpa[Tm.root,Tm.kd,this] using z
   obtain⟨hk,B⟩:=hk;rw[Tm.vz B] at h m r|-;obtain⟨p,q,K⟩:=Tm.Yp m;rw[K] at h m r|-;obtain⟨L,R,rfl,E,M⟩:=h.inv2 gw;rw[D7] at r;obtain⟨N,S,e,C,O⟩:=r.inv2 gw;simp only[Tm.mk.injEq,Lr,KH,zE] at e;obtain⟨rfl,rfl⟩:=e;rcases hk with rfl|rfl
   ·rw[M1];exact .fst _ _ _ _ _ C
   ·rw[Nx];exact .snd _ _ _ _ _ O
  ·rw[Tm.uD z];exact .n1 _ _ _ r
 |@n2 k i s a H b F I T d o=>
  intro g;have m:=Tm.cI g a th;have d:=d m;have o:=o (Tm.cI g b th)
  by_cases z:(Tm.mk k i s [a,b]).root=true
  ·have hk:k=3/\a.acH=2:=by
    have A:=Tm.qd g;have U:eF 11=1:=rfl;have V:eF 12=1:=rfl
    have n1:k≠11:=by rintro rfl;simp at A;omega
    have n2:k≠12:=by rintro rfl;simp at A;omega
    simpa[Tm.root,Tm.kd,n1,n2] using z
   obtain⟨rfl,B⟩:=hk;rw[Tm.vz B] at I m d|-;obtain⟨p,y⟩:=Tm.ok2 m;rw[y] at I m d|-;obtain⟨L,rfl,E⟩:=I.inv1 gw gw;rw[MT] at d;obtain⟨N,e,C⟩:=d.inv1 gw gw;simp only[Tm.mk.injEq,Lr,KH,zE] at e;subst e;rw[Kf];exact .beta _ _ _ _ C o
  ·rw[Tm.uD z];exact .n2 _ _ _ d o
 |@n3 k i s a H b F c Q I T v d o f=>
  intro g;have l:=Tm.cI g c th;have d:=d (Tm.cI g a th);have o:=o (Tm.cI g b th);have f:=f l
  by_cases z:(Tm.mk k i s [a,b,c]).root=true
  ·have hk:(k=6/\(c.acH=4\/c.acH=5))\/(k=9/\(c.acH=7\/c.acH=8)):=by
    have A:=Tm.qd g;have X:eF 3=2:=rfl;have U:eF 11=1:=rfl;have V:eF 12=1:=rfl
    have n0:k≠3:=by rintro rfl;simp at A;omega
    have n1:k≠11:=by rintro rfl;simp at A;omega
    have n2:k≠12:=by rintro rfl;simp at A;omega
    simpa[Tm.root,Tm.kd,n0,n1,n2] using z
   rcases hk with⟨rfl,hk|hk⟩|⟨rfl,hk|hk⟩
   ·rw[Tm.vz hk] at v l f|-;have y:=Tm.ok0 (.inl rfl) l;rw[y] at v l f|-;obtain rfl:=v.SY;rw[J_];exact .Jx _ _ _ _ _ d
   ·rw[Tm.vz hk] at v l f|-;obtain⟨p,y⟩:=Tm.ok5 l;rw[y] at v l f|-;obtain⟨L,rfl,E⟩:=v.inv1 gw gw;rw[JO] at f;obtain⟨N,e,C⟩:=f.inv1 gw gw;simp only[Tm.mk.injEq,Lr,KH,zE] at e;subst e;rw[Ky];exact .J2 _ _ _ _ d o C
   ·rw[Tm.vz hk] at v l f|-;have y:=Tm.ok0 (.inr rfl) l;rw[y] at v l f|-;obtain rfl:=v.SY;rw[GO];exact .Cb _ _ _ _ _ d
   ·rw[Tm.vz hk] at v l f|-;obtain⟨p,q,y⟩:=Tm.ok8 l;rw[y] at v l f|-;obtain⟨L,R,rfl,E,M⟩:=v.inv2 gw;rw[IY] at f;obtain⟨N,S,e,C,O⟩:=f.inv2 gw;simp only[Tm.mk.injEq,Lr,KH,zE] at e;obtain⟨rfl,rfl⟩:=e;rw[GS];exact .CB _ _ _ _ d o C O
  ·rw[Tm.uD z];exact .n3 _ _ _ d o f
 |@beta i s j u b F a H E M w x=>
  intro g;have G:=Tm.cI (Tm.cI g (Tm.mk 2 j u [b]) th) b th;have m:=Tm.cI g a th;rw[Kf];exact(w G).e_ (x m) (M.ok m) (E.ok G) 0 cw
 |Jx i s j u c _ r=>intro g;rw[J_];exact r (Tm.cI g _ th)|@J2 i s j u b F c Q n n' _ _ _ w x D=>
  intro g;have J:=Tm.cI g (Tm.mk 5 j u [n]) th;have g1:=w (Tm.cI g _ th);have g2:=x (Tm.cI g _ th);have g3:=D (Tm.cI J _ th);rw[Ky];exact .n2 _ _ _ (.n2 _ _ _ g2 g3) (.n3 _ _ _ g1 g2 g3)
 |Cb i s j u c _ r=>intro g;rw[GO];exact r (Tm.cI g _ th)|@CB i s j u b F c Q n n' t Y _ _ _ _ w x D P=>
  intro g;have J:=Tm.cI g (Tm.mk 8 j u [n,t]) th;have g1:=w (Tm.cI g _ th);have g2:=x (Tm.cI g _ th);have g3:=D (Tm.cI J _ th);have g4:=P (Tm.cI J _ th);rw[GS];exact .n2 _ _ _ (.n2 _ _ _ (.n2 _ _ _ g2 g3) g4) (.n3 _ _ _ g1 g2 g4)
 |@fst i s j u b a H _ r=>intro g;rw[M1];exact r (Tm.cI (Tm.cI g (Tm.mk 10 j u [a,b]) th) _ th)|@snd i s j u a b F _ r=>intro g;rw[Nx];exact r (Tm.cI (Tm.cI g (Tm.mk 10 j u [a,b]) th) _ th)
inductive qz:Tm->Tm->Prop
 |refl (t:Tm):qz t t|step {t u v:Tm}:ly t u->qz u v->qz t v
def qz.ok{t u:Tm}(h:qz t u):t.ok=true->u.ok=true:=by
 induction h with
 |refl=>exact id|step h _ a=>exactλb=>a (h.ok b)
def qz.trans{t u v:Tm}(h:qz t u)(a:qz u v):qz t v:=by
 induction h with
 |refl=>exact a|step h _ b=>exact .step h (b a)
def qz.strip{t v:Tm}(h:qz t v):∀u,t.ok=true->ly t u->∃w,qz u w/\ly v w:=by
 induction h with
 |refl t=>exactλu _ hu=>⟨u,.refl _,hu⟩|@step t a v c _ d=>
  intro u b hu;obtain⟨w,e,f⟩:=d t.dev (c.ok b) (c.tri b);exact⟨w,.step (hu.tri b) e,f⟩
def qz.meet{t u:Tm}(h:qz t u):∀v,t.ok=true->qz t v->∃w,qz u w/\qz v w:=by
 induction h with
 |refl t=>exactλv _ b=>⟨v,b,.refl _⟩|@step t a u c _ e=>
  intro v d b;obtain⟨w,f,g⟩:=b.strip a d c;obtain⟨z,i,z2⟩:=e w (c.ok d) f;exact⟨z,i,.step g z2⟩
def zt{k i:Int}{s:Ty}{l:List Tm}(h:(Tm.mk k i s l).nf=true):(Tm.mk k i s l).root=false/\∀a∈l,a.nf=true:=by
 rw[Tm.Jy] at h;simpa using h
def ly.nf{t u:Tm}(h:ly t u):t.nf=true->u=t:=by
 induction h with
 |n0=>intro _;rfl|n1 k i s _ d=>intro hn;rw[d ((zt hn).2 _ th)]|n2 k i s _ _ a b=>intro hn;rw[a ((zt hn).2 _ th),b ((zt hn).2 _ th)]|n3 k i s _ _ _ a b c=>intro hn;rw[a ((zt hn).2 _ th),b ((zt hn).2 _ th),c ((zt hn).2 _ th)]|_=>intro hn;have:=(zt hn).1;simp[Tm.root,Tm.kd] at this
def qz.nf{t u:Tm}(h:qz t u):t.nf=true->u=t:=by
 induction h with
 |refl=>intro _;rfl|step h _ a=>
  intro hn;have:=h.nf hn;subst this;exact a hn
def qz.unique{t a b:Tm}(c:t.ok=true)(d:qz t a)(e:qz t b)(f:a.nf=true)(g:b.nf=true):a=b:=by
 obtain⟨w,h,i⟩:=d.meet b c e;rw[<-h.nf f,<-i.nf g]
inductive LD:List Tm->List Tm->Prop
 |nil:LD [] []|cons {a b:Tm} {l m:List Tm}:ly a b->LD l m->LD (a::l) (b::m)
def ly.list{k i:Int}{s:Ty}:∀{l m:List Tm},LD l m->l.length<=3->ly (.mk k i s l) (.mk k i s m)
 |_,_,.nil,_=>.n0 _ _ _|_,_,.cons h .nil,_=>.n1 _ _ _ h|_,_,.cons h (.cons a .nil),_=>.n2 _ _ _ h a|_,_,.cons h (.cons a (.cons b .nil)),_=>.n3 _ _ _ h a b|_,_,.cons h (.cons a (.cons b (.cons d _))),c=>by simp at c
def N3(k:Int):eF k<=3:=by unfold eF;repeat' (first|omega|split)
def Tm.PC{k i:Int}{s:Ty}{l:List Tm}(h:(Tm.mk k i s l).ok=true):l.length<=3:=by
 have:=Tm.qd h;have:=N3 k;omega
def ly.refl(t:Tm):t.ok=true->ly t t:=by
 induction t using Tm.ind with
 |h k i s l c=>
  intro b
  have d:∀m:List Tm,(∀t∈m,t∈l)->LD m m:=by
   intro m
   induction m with
   |nil=>exactλ_=>.nil|cons t m a=>exactλhm=>.cons (c t (hm t th) (Tm.cI b t (hm t th))) (a λu hu=>hm u (by simp[hu]))
  exact ly.list (d l λt h=>h) (Tm.PC b)
def ly.TF:∀(l:List Tm),(∀t∈l,t.ok=true)->LD l l
 |[],_=>.nil|t::l,h=>.cons (ly.refl t (h t th)) (ly.TF l λu hu=>h u (by simp[hu]))
theorem ly.dg{t:Tm}(c:t.ok=true)(g:t.root=true):ly t t.dg:=by
 cases Tm.E9 c g with
 |@app i s j u b a=>
  rw[show(Tm.mk 3 i s [.mk 2 j u [b],a]).dg=Tm.e_ 0 b a by simp[Tm.dg]];exact .beta _ _ _ _ (ly.refl b (Tm.cI (Tm.cI c (.mk 2 j u [b]) th) b th)) (ly.refl a (Tm.cI c a th))
 |@zero k l i s j u b st e=>
  have f:=ly.refl b (Tm.cI c b th);rcases e with⟨rfl,rfl⟩|⟨rfl,rfl⟩
  ·rw[show(Tm.mk 6 i s [b,st,.mk 4 j u []]).dg=b by simp[Tm.dg]];exact .Jx _ _ _ _ _ f
  ·rw[show(Tm.mk 9 i s [b,st,.mk 7 j u []]).dg=b by simp[Tm.dg]];exact .Cb _ _ _ _ _ f
 |@succ i s j u b st n=>
  rw[show(Tm.mk 6 i s [b,st,.mk 5 j u [n]]).dg=iK st [n,.mk 6 i s [b,st,n]] by simp[Tm.dg]];exact .J2 _ _ _ _ (ly.refl b (Tm.cI c b th)) (ly.refl st (Tm.cI c st th)) (ly.refl n (Tm.cI (Tm.cI c (.mk 5 j u [n]) th) n th))
 |@cons i s j u b st h t=>
  have d:=Tm.cI c (.mk 8 j u [h,t]) th;rw[show(Tm.mk 9 i s [b,st,.mk 8 j u [h,t]]).dg=iK st [h,t,.mk 9 i s [b,st,t]] by simp[Tm.dg]];exact .CB _ _ _ _ (ly.refl b (Tm.cI c b th)) (ly.refl st (Tm.cI c st th)) (ly.refl h (Tm.cI d h th)) (ly.refl t (Tm.cI d t th))
 |@proj k i s j u a b e=>
  have d:=Tm.cI c (.mk 10 j u [a,b]) th;rcases e with rfl|rfl
  ·rw[show(Tm.mk 11 i s [.mk 10 j u [a,b]]).dg=a by simp[Tm.dg]];exact .fst _ _ _ _ _ (ly.refl a (Tm.cI d a th))
  ·rw[show(Tm.mk 12 i s [.mk 10 j u [a,b]]).dg=b by simp[Tm.dg]];exact .snd _ _ _ _ _ (ly.refl b (Tm.cI d b th))
def ly.DL{r:Int}(t:Tm):∀a,t.ok=true->t.DL r=some (some a)->ly t a:=by
 induction t using Tm.ind with
 |h k i s l g=>
  intro a c h;rcases jD h with⟨j,rfl⟩|⟨n,o,rfl⟩
  ·exact ly.dg c j
  ·refine ly.list ?_ (Tm.PC c)
   have key:∀m:List Tm,(∀t∈m,t∈l)->∀d,Tm.p0 r m=some (some d)->LD m d:=by
    intro m
    induction m with
    |nil=>intro _ d h;exact(la h).elim|cons t m f=>
     intro hm d h;have b:=Tm.cI c t (hm t th);rcases ia h with⟨a,e,rfl⟩|⟨p,e,rfl⟩
     ·exact .cons (g t (hm t th) a b e) (ly.TF m λu hu=>Tm.cI c u (hm u (by simp[hu])))
     ·exact .cons (ly.refl t b) (f (λu hu=>hm u (by simp[hu])) p e)
   exact key l (λt h=>h) n o
def GZ:∀(k:Nat) (m:Int) (t a:Tm) (n:Int),t.ok=true->t.norm k m=(a,n,0)->qz t a
 |0,m,t,a,n,b,h=>by
  rw[Tm.norm] at h
  split at h
  ·obtain⟨rfl,_⟩:=fH h;exact .refl _
  ·cases h
 |k+1,m,t,a,n,b,h=>by
  rw[Tm.norm] at h
  split at h
  ·cases h
  ·obtain⟨rfl,_⟩:=fH h;exact .refl _
  ·rename_i c hs;have:=ly.DL t c b hs;exact .step this (GZ k (m+1) c a n (this.ok b) h)
def VI(x:Tm):Tm.mk x.acH x.acK (Ty.mk x.b7.acH x.b7.acI) x.acI=x:=by
 cases x with
 |mk k i s l=>cases s;rfl
def kc{a:Ty}(h:a.acJ<=1000000000):dr FU a a=some true:=by
 obtain⟨r,b,c⟩:=uH FU a a (by rw[cV];exact h) h;rw[b,c.2 rfl]
def ok_eq{t:Ty}(h:t.err=0):ry t=some (t,0):=by
 unfold ry;rw[kz (by have:=(Ty.hB h).2;omega),h];rfl
def df{t:Ty}(h:t.err=0):t.acJ<=64:=by have:=(Ty.hB h).2;omega
inductive TL (n:Nat) (g:List Ty):List Tm->List Ty->Prop
 |nil:TL n g [] []|cons {a:Tm} {t:Ty} {l:List Tm} {ts:List Ty}:dt n g a=some (t,0)->TL n g l ts->TL n g (a::l) (t::ts)
def mf{n:Nat}{g:List Ty}:∀{l:List Tm} {ts:List Ty} (i:Nat) (v:List Ty),TL n g l ts->v.length+l.length<=1000->cY (λ(e:Int) (d:Tm)=>(λ(a:List Ty)=>
   b8 (dt n g d) λb c=>
   if(cG c 0) then(
   some (dJ.ret ((Ty.mk 0 []),c)))
   else(ef (dP a [b])<|some (.next (dN a [b])))):Int->Tm->((List Ty))->(Option (dJ ((List Ty)) (Ty×Int)))) l i v=some (.inl (v++ts))
 |_,_,i,v,.nil,_=>by simp|_,_,i,v,.cons h f,j=>by
  simp only[jK] at j;rw[cM];simp only[h,bW];rw[bV gw,dc aae];simp only[b6,bT,cS];rw[mf (i+1) _ f (by rw[ei];simp;omega),ei];simp
def Qa{g:List Ty}{x:Tm}{t:Ty}(h:cQ g x t):(∀s∈g,s.err=0)->t.err=0/\∀n:Nat,x.acJ<=n->g.length+x.acJ<=1000000->dt n g x=some (t,0):=by
 induction h with
 |@var g t i w A=>
  intro hg;have y:=hg t (zT A);refine⟨y,λn hn e=>?_⟩;rw[Tm.bY] at hn;obtain⟨n,rfl⟩:∃m,n=m+1:=⟨n-1,cw⟩;rw[Tm.bY] at e;rw[dt,bX aal,bV (by simp only[Tm.dK,fF,dE];omega)];simp only[Tm.dK,dE];rw[dh (a:=(g.length:Int)) cw cw,dh cw cw]
  have:cq g ((g.length:Int)-1-(i:Int))=some t:=by
   unfold cq;rw[bX cw,<-A]
   congr 1
   omega
  rw[this];simp only[bT];rw[gx (by have:=df y;omega)];rfl
 |@lam g s b t w _ j=>
  intro hg;have hs:=(Ty.qA (.inr rfl) w).1;have z:=(Ty.qA (.inr rfl) w).2
  obtain⟨_,j⟩:=j (by
   intro u hu;rcases pX.1 hu with h|h
   ·exact hg u h
   ·rw[yC] at h;rw[h];exact hs)
  refine⟨w,λn hn e=>?_⟩;rw[Tm.bY] at hn e;simp only[cn] at hn e;obtain⟨n,rfl⟩:∃m,n=m+1:=⟨n-1,cw⟩;rw[dt,bV th,bX aal];simp only[Tm.cT,Tm.ck,cD,fM,bT,ei];rw[dc aae,b6,j n cw aae];simp only[bW];rw[bV gw,f_ (by have:=df hs;omega) (by have:=df z;omega)];simp only[bT];rw[ok_eq w];rfl
 |@app g f a s t _ _ c d=>
  intro hg;obtain⟨q,c⟩:=c hg;obtain⟨r,d⟩:=d hg;have z:=(Ty.qA (.inr rfl) q).2;refine⟨z,λn hn e=>?_⟩;rw[Tm.bY] at hn e;simp only[cn] at hn e;obtain⟨n,rfl⟩:∃m,n=m+1:=⟨n-1,cw⟩;have o:=mf (n:=n) (g:=g) (l:=[f,a]) 0 [] (.cons (c n cw cw) (.cons (d n cw cw) .nil)) th;rw[dt,bV th,bV th];simp only[cc,Tm.ck,ch (l:=[f,a]) th,b6];rw[o];simp only[bT,b9,ec,et];rw[bX aal];simp only[mw,cD,dQ,fM,kx,bT];rw[bV (by simp[Ty.fn,cG]),show(Ty.fn s t).acI[0]?=some s from rfl];simp only[bT];rw[kc (by have:=df r;omega)];simp only[bT];rw[bV gw,show(Ty.fn s t).acI[1]?=some t from rfl];rfl
 |zero=>
  intro hg;refine⟨Ty.fO,λn hn e=>?_⟩;rw[Tm.bY] at hn;obtain⟨n,rfl⟩:∃m,n=m+1:=⟨n-1,cw⟩;rfl
 |@succ g a _ j=>
  intro hg;obtain⟨q,j⟩:=j hg;refine⟨Ty.fO,λn hn e=>?_⟩;rw[Tm.bY] at hn e;simp only[cn] at hn e;obtain⟨n,rfl⟩:∃m,n=m+1:=⟨n-1,cw⟩;have o:=mf (n:=n) (g:=g) (l:=[a]) 0 [] (.cons (j n cw cw) .nil) th;rw[dt,bV th,bV th];simp only[cc,Tm.ck,ch (l:=[a]) th,b6];rw[o];simp only[bT,b9,ec,et];rw[bV th,bV th,bX aal];simp only[mw,cD,fM,bT];rw[kc (by rw[Ty.gh];omega)];rfl
 |@rW g t b s k v _ _ _ c d p=>
  intro hg;obtain⟨q,c⟩:=c hg;obtain⟨r,d⟩:=d hg;obtain⟨B,p⟩:=p hg;refine⟨v,λn hn e=>?_⟩;rw[Tm.bY] at hn e;simp only[cn] at hn e;obtain⟨n,rfl⟩:∃m,n=m+1:=⟨n-1,cw⟩;have z:=df v;have o:=mf (n:=n) (g:=g) (l:=[b,s,k]) 0 [] (.cons (c n cw cw) (.cons (d n cw cw) (.cons (p n cw cw) .nil))) th;rw[dt,bV th,bV th];simp only[cc,Tm.ck,ch (l:=[b,s,k]) th,b6];rw[o];simp only[bT,b9,ec,et];rw[bV th,bV th,bV th,bX aal];simp only[mw,cD,dQ,gz,fM,kx,bT,Tm.cT];rw[kc cw];simp only[bT,if_true];rw[f_ cw cw];simp only[bT];rw[f_ (by rw[Ty.gh];omega) (by rw[Ty.g_];omega)];simp only[bT];rw[kc (by have:=df r;omega)];simp only[bT,if_true];rw[kc (by rw[Ty.gh];omega)];simp only[bT];rw[bV gw,gx cw];rfl
 |nil=>
  intro hg;refine⟨Ty.m7,λn hn e=>?_⟩;rw[Tm.bY] at hn;obtain⟨n,rfl⟩:∃m,n=m+1:=⟨n-1,cw⟩;rfl
 |@cons g a b _ _ c d=>
  intro hg;obtain⟨q,c⟩:=c hg;obtain⟨r,d⟩:=d hg;refine⟨Ty.m7,λn hn e=>?_⟩;rw[Tm.bY] at hn e;simp only[cn] at hn e;obtain⟨n,rfl⟩:∃m,n=m+1:=⟨n-1,cw⟩;have o:=mf (n:=n) (g:=g) (l:=[a,b]) 0 [] (.cons (c n cw cw) (.cons (d n cw cw) .nil)) th;rw[dt,bV th,bV th];simp only[cc,Tm.ck,ch (l:=[a,b]) th,b6];rw[o];simp only[bT,b9,ec,et];rw[bV th,bV th,bV th,bV th,bV th,bX aal];simp only[mw,cD,dQ,fM,kx,bT];rw[kc (by rw[Ty.gh];omega)];simp only[bT,if_true];rw[kc (by rw[Ty.mR];omega)];rfl
 |@fold g t b s k v _ _ _ c d p=>
  intro hg;obtain⟨q,c⟩:=c hg;obtain⟨r,d⟩:=d hg;obtain⟨B,p⟩:=p hg;refine⟨v,λn hn e=>?_⟩;rw[Tm.bY] at hn e;simp only[cn] at hn e;obtain⟨n,rfl⟩:∃m,n=m+1:=⟨n-1,cw⟩;have z:=df v;have o:=mf (n:=n) (g:=g) (l:=[b,s,k]) 0 [] (.cons (c n cw cw) (.cons (d n cw cw) (.cons (p n cw cw) .nil))) th;rw[dt,bV th,bV th];simp only[cc,Tm.ck,ch (l:=[b,s,k]) th,b6];rw[o];simp only[bT,b9,ec,et];rw[bV th,bV th,bV th,bV th,bV th,bV th,bX aal];simp only[mw,cD,dQ,gz,fM,kx,bT,Tm.cT];rw[kc cw];simp only[bT,if_true];rw[f_ cw cw];simp only[bT];rw[f_ (by rw[Ty.mR];omega) (by rw[Ty.g_];omega)];simp only[bT];rw[f_ (by rw[Ty.gh];omega) (by rw[Ty.g_,Ty.g_,Ty.mR];omega)];simp only[bT];rw[kc (by have:=df r;omega)];simp only[bT,if_true];rw[kc (by rw[Ty.mR];omega)];simp only[bT];rw[bV gw,gx cw];rfl
 |@pair g a b s t v _ _ c d=>
  intro hg;obtain⟨q,c⟩:=c hg;obtain⟨r,d⟩:=d hg;refine⟨v,λn hn e=>?_⟩;rw[Tm.bY] at hn e;simp only[cn] at hn e;obtain⟨n,rfl⟩:∃m,n=m+1:=⟨n-1,cw⟩;have o:=mf (n:=n) (g:=g) (l:=[a,b]) 0 [] (.cons (c n cw cw) (.cons (d n cw cw) .nil)) th;rw[dt,bV th,bV th];simp only[cc,Tm.ck,ch (l:=[a,b]) th,b6];rw[o];simp only[bT,b9,ec,et];rw[bV th,bV th,bV th,bV th,bV th,bV th,bV th,bX aal];simp only[mw,cD,dQ,fM,kx,bT];rw[wm (by have:=df q;omega) (by have:=df r;omega)];simp only[bT];rw[ok_eq v];rfl
 |@fst g a s t _ j=>
  intro hg;obtain⟨q,j⟩:=j hg;refine⟨(Ty.qA (.inl rfl) q).1,λn hn e=>?_⟩;rw[Tm.bY] at hn e;simp only[cn] at hn e;obtain⟨n,rfl⟩:∃m,n=m+1:=⟨n-1,cw⟩;have o:=mf (n:=n) (g:=g) (l:=[a]) 0 [] (.cons (j n cw cw) .nil) th;rw[dt,bV th,bV th];simp only[cc,Tm.ck,ch (l:=[a]) th,b6];rw[o];simp only[bT,b9,ec,et];rw[bV th,bV th,bV th,bV th,bV th,bV th,bV th,bV th,bX aal];simp only[mw,cD,fM,bT];rw[bV (by simp[Ty.pr,cG]),bX aal,show(Ty.pr s t).acI[0]?=some s from rfl];rfl
 |@snd g a s t _ j=>
  intro hg;obtain⟨q,j⟩:=j hg;refine⟨(Ty.qA (.inl rfl) q).2,λn hn e=>?_⟩;rw[Tm.bY] at hn e;simp only[cn] at hn e;obtain⟨n,rfl⟩:∃m,n=m+1:=⟨n-1,cw⟩;have o:=mf (n:=n) (g:=g) (l:=[a]) 0 [] (.cons (j n cw cw) .nil) th;rw[dt,bV th,bV th];simp only[cc,Tm.ck,ch (l:=[a]) th,b6];rw[o];simp only[bT,b9,ec,et];rw[bV th,bV th,bV th,bV th,bV th,bV th,bV th,bV th,bX aal];simp only[mw,cD,fM,bT];rw[bV (by simp[Ty.pr,cG]),bV th,show cq (Ty.pr s t).acI 1=some t from rfl];rfl
 |unit=>
  intro hg;refine⟨Ty.Ei,λn hn e=>?_⟩;rw[Tm.bY] at hn;obtain⟨n,rfl⟩:∃m,n=m+1:=⟨n-1,cw⟩;rfl
def Tm.kV{p:Tm->Prop}(var:∀i:Nat,p (.mk 1 i .z []))(lam:∀s b,s.err=0->b.ok=true->p (.mk 2 0 s [b]))(app:∀a b,a.ok=true->b.ok=true->p (.mk 3 0 .z [a,b]))
  (zero:p (.mk 4 0 .z [])) (succ:∀a,a.ok=true->p (.mk 5 0 .z [a])) (rW:∀s a b c,s.err=0->a.ok=true->b.ok=true->c.ok=true->p (.mk 6 0 s [a,b,c])) (nil:p (.mk 7 0 .z []))
  (cons:∀a b,a.ok=true->b.ok=true->p (.mk 8 0 .z [a,b])) (fold:∀s a b c,s.err=0->a.ok=true->b.ok=true->c.ok=true->p (.mk 9 0 s [a,b,c])) (pair:∀a b,a.ok=true->b.ok=true->p (.mk 10 0 .z [a,b]))
  (fst:∀a,a.ok=true->p (.mk 11 0 .z [a])) (snd:∀a,a.ok=true->p (.mk 12 0 .z [a])) (unit:p (.mk 13 0 .z [])) (t:Tm) (h:t.ok=true):p t:=by
 cases t with
 |mk k i s l=>
  obtain⟨_,hi,d,g,hn⟩:=Tm.jg h
  have hs:if hU k then s.err=0 else s=.z:=by
   rw[Tm.eo] at h;simp only[Tm.node,ed] at h;have:=h.1.2
   split at this
   ·rename_i e;rw[bX e];simpa using this
   ·rename_i e;rw[bV e];exact(Ty.iI s).1 this
  have n:∀{l:List Tm},(l.length:Int)=0->l=[]:=λh=>en.1 h;unfold eF at hn
  split at hn
  ·rename_i e;obtain rfl:=en.1 hn;rcases e with rfl|rfl|rfl|rfl
   ·rw[bV gw] at hs;subst hs;obtain⟨j,rfl⟩:∃j:Nat,i=(j:Int):=⟨i.toNat,cw⟩;exact var j
   ·rw[bV gw] at hs;subst hs;obtain rfl:=d gw;exact zero
   ·rw[bV gw] at hs;subst hs;obtain rfl:=d gw;exact nil
   ·rw[bV gw] at hs;subst hs;obtain rfl:=d gw;exact unit
  ·split at hn
   ·rename_i e;obtain⟨a,rfl⟩:=gQ hn;have f:=g a th;rcases e with rfl|rfl|rfl|rfl
    ·rw[bX gw] at hs;obtain rfl:=d gw;exact lam s a hs f
    ·rw[bV gw] at hs;subst hs;obtain rfl:=d gw;exact succ a f
    ·rw[bV gw] at hs;subst hs;obtain rfl:=d gw;exact fst a f
    ·rw[bV gw] at hs;subst hs;obtain rfl:=d gw;exact snd a f
   ·split at hn
    ·rename_i e;obtain⟨a,b,rfl⟩:=od hn;have f:=g a th;have m:=g b th;rcases e with rfl|rfl|rfl
     ·rw[bV gw] at hs;subst hs;obtain rfl:=d gw;exact app a b f m
     ·rw[bV gw] at hs;subst hs;obtain rfl:=d gw;exact cons a b f m
     ·rw[bV gw] at hs;subst hs;obtain rfl:=d gw;exact pair a b f m
    ·split at hn
     ·rename_i e
      obtain⟨a,b,c,rfl⟩:∃a b c,l=[a,b,c]:=by
       match l,hn with
       |[a,b,c],_=>exact⟨a,b,c,rfl⟩|[],h|[_],h|[_,_],h=>simp at h
       |_::_::_::_::_,h=>simp at h;omega
      have f:=g a th;have m:=g b th;have o:=g c th;rcases e with rfl|rfl
      ·rw[bX gw] at hs;obtain rfl:=d gw;exact rW s a b c hs f m o
      ·rw[bX gw] at hs;obtain rfl:=d gw;exact fold s a b c hs f m o
     ·omega
open Classical in
noncomputable def fa (k:Int) (s:Ty) (l:List Ty):Ty×Int:=
 if k=3 then(if(l.getD 0 .z).acH=4/\(l.getD 0 .z).acI.getD 0 .z=l.getD 1 .z then((l.getD 0 .z).acI.getD 1 .z,0)else(.z,7))
 else if k=4 then(.nat,0)
 else if k=5 then(if l.getD 0 .z=.nat then(.nat,0)else(.z,7))
 else if k=6 then(if l.getD 0 .z=s/\l.getD 1 .z=.fn .nat (.fn s s)/\l.getD 2 .z=.nat then(s,0)else(.z,7))
 else if k=7 then(.lk,0)
 else if k=8 then(if l.getD 0 .z=.nat/\l.getD 1 .z=.lk then(.lk,0)else(.z,7))
 else if k=9 then(if l.getD 0 .z=s/\l.getD 1 .z=.fn .nat (.fn .lk (.fn s s))/\l.getD 2 .z=.lk then(s,0)else(.z,7))
 else if k=10 then(if 64<1+(l.getD 0 .z).acJ+(l.getD 1 .z).acJ then(.z,4)else(.pr (l.getD 0 .z) (l.getD 1 .z),0))
 else if k=11 then(if(l.getD 0 .z).acH=3 then((l.getD 0 .z).acI.getD 0 .z,0)else(.z,7))
 else if k=12 then(if(l.getD 0 .z).acH=3 then((l.getD 0 .z).acI.getD 1 .z,0)else(.z,7))
 else(.unit,0)
def J7(s:Ty)(r:Ty×Int):Ty×Int:=if r.2≠0 then(.z,r.2)else if 64<1+s.acJ+r.1.acJ then(.z,4)else(.fn s r.1,0)
def sE(f:List Ty->Ty×Int):List Ty⊕Int->Ty×Int
 |.inl l=>f l|.inr e=>(.z,e)
def Lp(r:Ty×Int)(o:List Ty⊕Int):List Ty⊕Int:=if r.2≠0 then .inr r.2 else match o with|.inl l=>.inl (r.1::l)|.inr e=>.inr e
mutual
noncomputable def Tm.ty:Tm->List Ty->Ty×Int
 |.mk k i s l,g=>if k=1 then(if i<(g.length:Int)then(g.getD (g.length-1-i.toNat) .z,0)else(.z,6))else if k=2 then J7 s (Tm.YW l (g++[s]))else sE (fa k s) (Tm.sl l g)
noncomputable def Tm.YW:List Tm->List Ty->Ty×Int
 |[],_=>(.z,0)|t::_,g=>t.ty g
noncomputable def Tm.sl:List Tm->List Ty->List Ty⊕Int
 |[],_=>.inl []|t::l,g=>Lp (t.ty g) (Tm.sl l g)
end
def Tm.k5(k i:Int)(s:Ty)(l:List Tm)(g:List Ty):(Tm.mk k i s l).ty g=if k=1 then(if i<(g.length:Int)then(g.getD (g.length-1-i.toNat) .z,0)else(.z,6))else if k=2 then J7 s (Tm.YW l (g++[s]))else sE (fa k s) (Tm.sl l g):=by rw[Tm.ty]
def fQ(g:List Ty):Prop:=∀s∈g,s.err=0
def fQ.app{g:List Ty}{s:Ty}(h:fQ g)(hs:s.err=0):fQ (g++[s]):=by
 intro u hu;rcases pX.1 hu with h'|h'
 ·exact h u h'
 ·grind
def Ij{t:Ty}(h:t.err=0)(c:t.acH=4):∃a b,t=.fn a b/\a.err=0/\b.err=0:=by
 rcases Ty.oY h with rfl|rfl|rfl|⟨a,b,rfl,_,_⟩|h
 ·cases c
 ·cases c
 ·cases c
 ·cases c
 ·exact h
def yh{t:Ty}(h:t.err=0)(c:t.acH=3):∃a b,t=.pr a b/\a.err=0/\b.err=0:=by
 rcases Ty.oY h with rfl|rfl|rfl|h|⟨a,b,rfl,_,_⟩
 ·cases c
 ·cases c
 ·cases c
 ·exact h
 ·cases c
def s8{t:Ty}(h:t.err=0):t.acH=1↔t=.nat:=by
 rcases Ty.oY h with rfl|rfl|rfl|⟨a,b,rfl,_,_⟩|⟨a,b,rfl,_,_⟩
 ·exact⟨λ_=>rfl,λ_=>rfl⟩
 all_goals exact⟨λh=>(by cases h),λh=>(by cases h)⟩
def z'{t:Ty}(h:t.err=0):t.acH=2↔t=.lk:=by
 rcases Ty.oY h with rfl|rfl|rfl|⟨a,b,rfl,_,_⟩|⟨a,b,rfl,_,_⟩
 ·exact⟨λh=>(by cases h),λh=>(by cases h)⟩
 ·exact⟨λ_=>rfl,λ_=>rfl⟩
 all_goals exact⟨λh=>(by cases h),λh=>(by cases h)⟩
theorem nZ{r:Ty×Int}{o:List Ty⊕Int}(h:r.2≠0):Lp r o=.inr r.2:=bX h
theorem oa{r:Ty×Int}{o:List Ty⊕Int}(h:r.2=0):Lp r o=match o with|.inl l=>.inl (r.1::l)|.inr e=>.inr e:=bV cw
theorem qM{f:List Ty->Ty×Int}{e:Int}{r:Ty}(h:sE f (.inr e)=(r,0)):e=0:=(fH h).2
def wI{a:Tm}{g:List Ty}(h:(a.ty g).2=0):a.ty g=((a.ty g).1,0):=Prod.ext rfl h
def Ml{a:Tm}{g:List Ty}{f:List Ty->Ty×Int}{r:Ty}(h:sE f (Tm.sl [a] g)=(r,0)):∃s,a.ty g=(s,0)/\f [s]=(r,0):=by
 rw[Tm.sl] at h
 by_cases b:(a.ty g).2=0
 ·rw[oa b] at h;exact⟨_,wI b,h⟩
 ·grind[nZ,qM]
def Le{a b:Tm}{g:List Ty}{f:List Ty->Ty×Int}{r:Ty}(h:sE f (Tm.sl [a,b] g)=(r,0)):∃s t,a.ty g=(s,0)/\b.ty g=(t,0)/\f [s,t]=(r,0):=by
 rw[Tm.sl,Tm.sl,Tm.sl] at h
 by_cases c:(a.ty g).2=0
 ·rw[oa c] at h
  by_cases d:(b.ty g).2=0
  ·rw[oa d] at h;exact⟨_,_,wI c,wI d,h⟩
  ·grind[nZ,qM]
 ·grind[nZ,qM]
def JS{a b c:Tm}{g:List Ty}{f:List Ty->Ty×Int}{r:Ty}(h:sE f (Tm.sl [a,b,c] g)=(r,0)):∃s t u,a.ty g=(s,0)/\b.ty g=(t,0)/\c.ty g=(u,0)/\f [s,t,u]=(r,0):=by
 rw[Tm.sl,Tm.sl,Tm.sl,Tm.sl] at h
 by_cases d:(a.ty g).2=0
 ·rw[oa d] at h
  by_cases e:(b.ty g).2=0
  ·rw[oa e] at h
   by_cases i:(c.ty g).2=0
   ·rw[oa i] at h;exact⟨_,_,_,wI d,wI e,wI i,h⟩
   ·grind[nZ,qM]
  ·rw[nZ e] at h;exact absurd (qM h) e
 ·rw[nZ d] at h;exact absurd (qM h) d
def ov:∀(n:Nat) (t:Tm),t.acJ<=n->t.ok=true->∀g,fQ g->∀s,t.ty g=(s,0)->cQ g t s/\s.err=0:=by
 intro n
 induction n with
 |zero=>intro t h;have:=t.cu;omega
 |succ n k=>
  intro t hn E;refine Tm.kV (p:=λt=>t.acJ<=n+1->∀g,fQ g->∀s,t.ty g=(s,0)->cQ g t s/\s.err=0) ?_ ?_ ?_ ?_ ?_ ?_ ?_ ?_ ?_ ?_ ?_ ?_ ?_ t E hn
  ·intro i _ g hg s h;rw[Tm.k5,bX rfl] at h
   split at h
   ·rename_i hi
    have u:g.length-1-(i:Int).toNat<g.length:=cw
    have e:g[g.length-1-i]?=some s:=by
     have f:=(fH h).1;rw[OG,za] at f;rw[za] at u;rw[lV u] at f|-;simpa using f
    exact⟨.var i cw e,hg s (zT e)⟩
   ·have:=(fH h).2;omega
  ·intro s b hs m hn g hg r h;rw[Tm.bY] at hn;simp only[cn] at hn;rw[Tm.k5,bV gw,bX rfl,Tm.YW] at h;unfold J7 at h
   split at h
   ·rename_i w;exact absurd (fH h).2 w
   ·rename_i w
    split at h
    ·have:=(fH h).2;omega
    ·rename_i f;obtain⟨o,d⟩:=k b cw m (g++[s]) (hg.app hs) _ (wI (by simpa using w));have he:=Ty.vX hs d cw;obtain rfl:=(fH h).1;exact⟨.lam he o,he⟩
  ·intro a b l m hn g hg r h;rw[Tm.bY] at hn;simp only[cn] at hn;rw[Tm.k5,bV gw,bV gw] at h;obtain⟨s,t,f,o,d⟩:=Le h;obtain⟨a1,a2⟩:=k a cw l g hg _ f;obtain⟨q,v⟩:=k b cw m g hg _ o;simp only[fa,if_true,wU,KY] at d
   split at d
   ·rename_i j;obtain⟨x,y,rfl,A,hy⟩:=Ij a2 j.1;have F:x=t:=j.2;obtain rfl:=(fH d).1;subst F;exact⟨.app a1 q,hy⟩
   ·have:=(fH d).2;omega
  ·intro hn g hg r h;rw[Tm.k5,bV gw,bV gw,Tm.sl] at h;simp only[sE,fa,reduceIte,Int.reduceEq] at h;obtain rfl:=(fH h).1;exact⟨.zero,Ty.fO⟩
  ·intro a l hn g hg r h;rw[Tm.bY] at hn;simp only[cn] at hn;rw[Tm.k5,bV gw,bV gw] at h;obtain⟨s,f,d⟩:=Ml h;obtain⟨a1,a2⟩:=k a cw l g hg _ f;simp only[fa,reduceIte,Int.reduceEq,wU] at d
   split at d
   ·rename_i j;subst j;obtain rfl:=(fH d).1;exact⟨.succ a1,Ty.fO⟩
   ·have:=(fH d).2;omega
  ·intro s a b c hs l m B hn g hg r h;rw[Tm.bY] at hn;simp only[cn] at hn;rw[Tm.k5,bV gw,bV gw] at h;obtain⟨x,y,z,f,o,C,d⟩:=JS h;obtain⟨a1,a2⟩:=k a cw l g hg _ f;obtain⟨q,v⟩:=k b cw m g hg _ o;obtain⟨D,G⟩:=k c cw B g hg _ C;simp only[fa,reduceIte,Int.reduceEq,wU,KY] at d
   split at d
   ·rename_i j;have j:x=s/\y=.fn .nat (.fn s s)/\z=.nat:=j;obtain⟨rfl,rfl,rfl⟩:=j;obtain rfl:=(fH d).1;exact⟨.rW hs a1 q D,hs⟩
   ·have:=(fH d).2;omega
  ·intro hn g hg r h;rw[Tm.k5,bV gw,bV gw,Tm.sl] at h;simp only[sE,fa,reduceIte,Int.reduceEq] at h;obtain rfl:=(fH h).1;exact⟨.nil,Ty.m7⟩
  ·intro a b l m hn g hg r h;rw[Tm.bY] at hn;simp only[cn] at hn;rw[Tm.k5,bV gw,bV gw] at h;obtain⟨s,t,f,o,d⟩:=Le h;obtain⟨a1,a2⟩:=k a cw l g hg _ f;obtain⟨q,v⟩:=k b cw m g hg _ o;simp only[fa,reduceIte,Int.reduceEq,wU,KY] at d
   split at d
   ·rename_i j;obtain⟨rfl,rfl⟩:=j;obtain rfl:=(fH d).1;exact⟨.cons a1 q,Ty.m7⟩
   ·have:=(fH d).2;omega
  ·intro s a b c hs l m B hn g hg r h;rw[Tm.bY] at hn;simp only[cn] at hn;rw[Tm.k5,bV gw,bV gw] at h;obtain⟨x,y,z,f,o,C,d⟩:=JS h;obtain⟨a1,a2⟩:=k a cw l g hg _ f;obtain⟨q,v⟩:=k b cw m g hg _ o;obtain⟨D,G⟩:=k c cw B g hg _ C;simp only[fa,reduceIte,Int.reduceEq,wU,KY] at d
   split at d
   ·rename_i j;have j:x=s/\y=.fn .nat (.fn .lk (.fn s s))/\z=.lk:=j;obtain⟨rfl,rfl,rfl⟩:=j;obtain rfl:=(fH d).1;exact⟨.fold hs a1 q D,hs⟩
   ·have:=(fH d).2;omega
  ·intro a b l m hn g hg r h;rw[Tm.bY] at hn;simp only[cn] at hn;rw[Tm.k5,bV gw,bV gw] at h;obtain⟨s,t,f,o,d⟩:=Le h;obtain⟨a1,a2⟩:=k a cw l g hg _ f;obtain⟨q,v⟩:=k b cw m g hg _ o;simp only[fa,reduceIte,Int.reduceEq,wU,KY] at d
   split at d
   ·have:=(fH d).2;omega
   ·rename_i j;have he:=Ty.LH a2 v cw;obtain rfl:=(fH d).1;exact⟨.pair he a1 q,he⟩
  ·intro a l hn g hg r h;rw[Tm.bY] at hn;simp only[cn] at hn;rw[Tm.k5,bV gw,bV gw] at h;obtain⟨s,f,d⟩:=Ml h;obtain⟨a1,a2⟩:=k a cw l g hg _ f;simp only[fa,reduceIte,Int.reduceEq,wU] at d
   split at d
   ·rename_i j;obtain⟨x,y,rfl,A,hy⟩:=yh a2 j;obtain rfl:=(fH d).1;exact⟨.fst a1,A⟩
   ·have:=(fH d).2;omega
  ·intro a l hn g hg r h;rw[Tm.bY] at hn;simp only[cn] at hn;rw[Tm.k5,bV gw,bV gw] at h;obtain⟨s,f,d⟩:=Ml h;obtain⟨a1,a2⟩:=k a cw l g hg _ f;simp only[fa,reduceIte,Int.reduceEq,wU] at d
   split at d
   ·rename_i j;obtain⟨x,y,rfl,A,hy⟩:=yh a2 j;obtain rfl:=(fH d).1;exact⟨.snd a1,hy⟩
   ·have:=(fH d).2;omega
  ·intro hn g hg r h;rw[Tm.k5,bV gw,bV gw,Tm.sl] at h;simp only[sE,fa,reduceIte,Int.reduceEq] at h;obtain rfl:=(fH h).1;exact⟨.unit,Ty.Ei⟩
end Go.dF
