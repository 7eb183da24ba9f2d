/- Part of the proof of KernelTyped: plain facts. -/
import Derived.Test.YtobcafblgapgfaaGreatDoorG1
set_option linter.all false
namespace Go.hI
open Go
@[simp] theorem gw(a b:Int):eH a b=true↔a=b:=by simp[eH]
@[simp] theorem ey(a b:Int):eW a b=true↔a≠b:=by simp[eW]
@[simp] theorem mE(a b:Int):ue a b=true↔a<b:=by simp[ue]
@[simp] theorem Dd(a b:Int):MV a b=true↔a<=b:=by simp[MV]
@[simp] theorem gA(a b:Int):nX a b=true↔b<a:=by simp[nX]
@[simp] theorem iU(a b:Int):sN a b=true↔b<=a:=by simp[sN]
@[simp] theorem la(a b:Bool):fU a true b=(a||b):=by cases a<;>rfl
@[simp] theorem ru(a b:Bool):fU a b false=(a&&b):=by cases a<;>rfl
@[simp] theorem Yt(a b:Bool):fU a b true=(!a||b):=by cases a<;>rfl
@[simp] theorem Pq(a:Bool):nt a=!a:=rfl
@[simp] theorem gY{α:Type}(l m:List α):gG l m=l++m:=rfl
@[simp] theorem fR{α:Type}(l:List α):eM l=(l.length:Int):=rfl
theorem jj{α:Type}(l:List α)(i:Nat):eJ l (i:Int)=l[i]?:=by simp[eJ]
@[simp] theorem eU{α:Type}(l:List α):eJ l 0=l[0]?:=by simp[eJ]
@[simp] theorem gz{α:Type}(l:List α):eJ l 1=l[1]?:=by simp[eJ]
@[simp] theorem jE{α:Type}(l:List α):eJ l 2=l[2]?:=by simp[eJ]
def JQ{α:Type}{l:List α}{i:Int}(b:0<=i)(c:i<l.length):∃x,eJ l i=some x/\x∈l:=by
 obtain⟨k,rfl⟩:=Tb b
 have a:k<l.length:=by omega
 exact⟨l[k],by rw[jj];simp[a],CG a⟩
def eB{α:Type}{l:List α}(h:l.length<=1000000000):fm l=true:=by unfold fm Lk;exact wa (by omega)
def fx{α:Type}{l m:List α}(h:l.length+m.length<=1000000000):gr l m=true:=by unfold gr Lk;exact wa (by omega)
def SL{b:Int}(h:b≠0):Jp b=true:=by simp[Jp,h]
def Fx{n:Int}(a:-9223372036854775808<=n)(b:n<9223372036854775808):IntKind.i64.wrap n=n:=by
 rw[IntKind.wrap_i64];omega
def fq{a b:Int}(c:-9223372036854775808<=a+b)(d:a+b<9223372036854775808):fk .i64 a b=a+b:=Fx c d
theorem fH{a b:Int}(c:-9223372036854775808<=a-b)(d:a-b<9223372036854775808):fD .i64 a b=a-b:=Fx c d
theorem yG{a b:Int}(c:-9223372036854775808<=a*b)(d:a*b<9223372036854775808):I4 .i64 a b=a*b:=Fx c d
section
variable{α β σ ρ:Type}
def Lx{F:Int->α->σ->Option (gj σ ρ)}(I:σ->Prop):∀(l:List α) (i:Nat) (s:σ),I s->(∀k x s,l[k]?=some x->I s->∃a,F ((i+k:Nat):Int) x s=some (.next a)/\I a)->∃a,fp F l i s=some (.inl a)/\I a
 |[],i,s,hs,_=>⟨s,rfl,hs⟩|x::l,i,s,hs,h=>by
  obtain⟨s1,c,d⟩:=h 0 x s rfl hs;rw[Fc] at c;rw[fl,c];simp only[cl,ft];refine Lx I l (i+1) s1 d λk y a e b=>?_;have:=h (k+1) y a (by simpa using e) b;rw[show i+(k+1)=i+1+k by omega] at this;exact this
def Jq{F:Int->α->σ->Option (gj σ ρ)}(I:σ->Prop)(Q:ρ->Prop):∀(l:List α) (i:Nat) (s:σ),I s->(∀k x s,l[k]?=some x->I s->(∃a,F ((i+k:Nat):Int) x s=some (.next a)/\I a)\/(∃r,F ((i+k:Nat):Int) x s=some (.ret r)/\Q r))->(∃a,fp F l i s=some (.inl a)/\I a)\/(∃r,fp F l i s=some (.inr r)/\Q r)
 |[],i,s,hs,_=>.inl ⟨s,rfl,hs⟩|x::l,i,s,hs,h=>by
  have e:=h 0 x s rfl hs;rw[Fc] at e;rw[fl];rcases e with⟨s1,b,c⟩|⟨r,b,c⟩
  ·rw[b];simp only[cl,ft];refine Jq I Q l (i+1) s1 c λk y a f d=>?_;have:=h (k+1) y a (by simpa using f) d;rw[show i+(k+1)=i+1+k by omega] at this;exact this
  ·rw[b];exact .inr ⟨r,rfl,c⟩
def jz{F:Int->α->List β->Option (gj (List β) ρ)}(g:α->β):∀(l:List α) (i:Nat) (v:List β),v.length+l.length<=1000000000->(∀j x v,x∈l->v.length+1<=1000000000->F j x v=some (.next (v++[g x])))->fp F l i v=some (.inl (v++l.map g))
 |[],i,v,_,_=>by simp|x::l,i,v,a,h=>by
  simp only[ld] at a;rw[fl,h i x v (by simp) (by omega)];simp only[cl,ft];rw[jz g l (i+1) (v++[g x]) (by simp;omega) λj y v hy b=>h j y v (by simp[hy]) b];simp
def eE(g:α->Nat):List α->Nat
 |[]=>0|x::l=>g x+eE g l
def eI(g:α->Nat){l:List α}{x:α}(h:x∈l):g x<=eE g l:=by
 induction l with
 |nil=>cases h
 |cons y l a=>
  simp only[eE];rcases ma.1 h with rfl|h
  ·omega
  ·have:=a h;omega
def ic(g:α->Nat)(l:List α)(h:∀x∈l,1<=g x):l.length<=eE g l:=by
 induction l with
 |nil=>simp|cons y l a=>simp only[eE,ld];have:=h y (by simp);have:=a λx b=>h x (by simp[b]);omega
def qe{F:Int->α->Int->Option (gj Int ρ)}(g:α->Nat):∀(l:List α) (i v:Nat),v+eE g l<=4611686018427387904->(∀j x (v:Int),x∈l->F j x v=some (.next (fk .i64 v (g x))))->fp F l i (v:Int)=some (.inl ((v+eE g l:Nat):Int))
 |[],i,v,_,_=>by simp[eE]|x::l,i,v,a,h=>by
  simp only[eE] at a|-;rw[fl,h i x v (by simp),fq (by omega) (by omega)];simp only[cl,ft];have:=qe g l (i+1) (v+g x) (by omega) λj y v hy=>h j y v (by simp[hy]);rw[show(v:Int)+(g x:Int)=((v+g x:Nat):Int) by omega,this];rw[Sx]
def vk{F:Int->α->Int->Option (gj Int ρ)}(g:α->Nat)(ok:α->Bool)(r:ρ):∀(l:List α) (i v:Nat),v+eE g l<=4611686018427387904->(∀j x (v:Int),x∈l->F j x v=if ok x=true then some (.next (fk .i64 v (g x)))else some (.ret r))->fp F l i (v:Int)=if l.all ok=true then some (.inl ((v+eE g l:Nat):Int))else some (.inr r)
 |[],i,v,_,_=>by simp[eE]|x::l,i,v,b,h=>by
  simp only[eE] at b|-;rw[fl,h i x v (by simp),fq (by omega) (by omega)];cases a:ok x with
  |false=>simp[a]|true=>
   simp only[if_true,cl,ft,xc,a,AJ];have:=vk g ok r l (i+1) (v+g x) (by omega) λj y v hy=>h j y v (by simp[hy]);rw[show(v:Int)+(g x:Int)=((v+g x:Nat):Int) by omega,this,Sx]
def rp{F:Int->α->Unit->Option (gj Unit ρ)}(ok:α->Bool)(r:ρ):∀(l:List α) (i:Nat),(∀j x,x∈l->F j x ()=if ok x=true then some (.next ())else some (.ret r))->fp F l i ()=if l.all ok=true then some (.inl ())else some (.inr r)
 |[],i,_=>by simp|x::l,i,h=>by
  rw[fl,h i x (by simp)];cases a:ok x with
  |false=>simp[a]|true=>
   simp only[if_true,cl,ft,xc,a,AJ];exact rp ok r l (i+1) λj y hy=>h j y (by simp[hy])
def fX:List Int->Int
 |[]=>0|e::l=>if e=0 then fX l else e
def lk{F:Int->α->Unit->Option (gj Unit Int)}(e:α->Int):∀(l:List α) (i:Nat),(∀j x,x∈l->F j x ()=if e x≠0 then some (.ret (e x))else some (.next ()))->fp F l i ()=if fX (l.map e)=0 then some (.inl ())else some (.inr (fX (l.map e)))
 |[],i,_=>by simp[fX]|x::l,i,h=>by
  rw[fl,h i x (by simp)]
  by_cases he:e x=0
  ·simp only[he,fX,Aw,ne_eq,Y',P5,cl,ft,if_true];exact lk e l (i+1) λj y hy=>h j y (by simp[hy])
  ·simp[he,fX]
def vO(p:α->β->Bool):List α->List β->Bool
 |x::l,y::m=>p x y&&vO p l m|[],[]=>true|_,_=>false
def xd{F:Int->α->Unit->Option (gj Unit Bool)}(p:α->β->Bool)(M:List β):∀(l:List α) (i:Nat) (m:List β),m=M.drop i->l.length=m.length->(∀(k:Nat) x y,x∈l->M[k]?=some y->F (k:Int) x ()=if p x y=true then some (.next ())else some (.ret false))->fp F l i ()=if vO p l m=true then some (.inl ())else some (.inr false)
 |[],i,m,_,d,_=>by
  cases m with
  |nil=>simp[vO]|cons y m=>simp at d
 |x::l,i,m,hm,d,h=>by
  cases m with
  |nil=>simp at d
  |cons y m=>
   have c:i<M.length:=by
    rcases sH i M.length with h'|h'
    ·exact h'
    ·rw[IM h'] at hm;cases hm
   rw[J1 c] at hm;injection hm with f g;rw[fl,h i x y (by simp) (by simp[c,f])];cases e:p x y with
   |false=>simp[vO,e]|true=>
    simp only[if_true,cl,ft,vO,e,AJ];exact xd p M l (i+1) m g (by simpa using d) λk a b j n=>h k a b (by simp[j]) n
def xI(p:α->α->Bool):∀(l m:List α),(∀x∈l,∀y,p x y=true↔x=y)->(vO p l m=true↔l=m)
 |[],[],_=>by simp[vO]|[],_::_,_=>by simp[vO]|_::_,[],_=>by simp[vO]|x::l,y::m,h=>by simp[vO,h x (by simp) y,xI p l m λa b=>h a (by simp[b])]
def xp{F:σ->Option (gj σ ρ)}(I:σ->Prop)(μ:σ->Nat)(Q:σ⊕ρ->Prop)
  (h:∀s,I s->(∃a,F s=some (.next a)/\I a/\μ a<μ s)\/(∃a,F s=some (.Ft a)/\Q (.inl a))\/(∃r,F s=some (.ret r)/\Q (.inr r))):∀(n:Nat) (s:σ),I s->μ s<n->∃o,pw F n s=some o/\Q o
 |0,s,_,hn=>by omega|n+1,s,hs,hn=>by
  rw[od];rcases h s hs with⟨a,b,c,d⟩|⟨a,b,c⟩|⟨r,b,c⟩
  ·rw[b];simp only[cl,ft];exact xp I μ Q h n a c (by omega)
  ·rw[b];exact⟨_,rfl,c⟩
  ·rw[b];exact⟨_,rfl,c⟩
def VB{n:Nat}(h:n<1000000000):n<FU:=by rw[fy];exact h
end
end Go.hI
namespace Go.hI
open Go
mutual
def Ty.ab':Ty->Nat
 |.mk _ l=>1+Ty.oq l
def Ty.oq:List Ty->Nat
 |[]=>0|t::l=>t.ab'+Ty.oq l
end
def Ty.r8(l:List Ty):Ty.oq l=eE Ty.ab' l:=by
 induction l with
 |nil=>rfl|cons t l a=>simp[Ty.oq,eE,a]
theorem Ty.ef(k:Int)(l:List Ty):(Ty.mk k l).ab'=1+eE Ty.ab' l:=by rw[Ty.ab',Ty.r8]
def Ty.eP(t:Ty):1<=t.ab':=by cases t;rw[Ty.ab'];omega
def Ty.fF(l:List Ty):l.length<=eE Ty.ab' l:=ic _ _ λt _=>t.eP
def Ty.want(k:Int):Option Nat:=if k=1\/k=2\/k=5 then some 0 else if k=3\/k=4 then some 2 else none
mutual
def Ty.ok:Ty->Bool
 |.mk k l=>decide (Ty.want k=some l.length)&&Ty.Jc l
def Ty.Jc:List Ty->Bool
 |[]=>true|t::l=>t.ok&&Ty.Jc l
end
def Ty.zs(l:List Ty):Ty.Jc l=l.all Ty.ok:=by
 induction l with
 |nil=>rfl|cons t l a=>simp[Ty.Jc,a]
theorem Ty.h_(k:Int)(l:List Ty):(Ty.mk k l).ok=(decide (Ty.want k=some l.length)&&l.all Ty.ok):=by rw[Ty.ok,Ty.zs]
def Ty.err(t:Ty):Int:=if t.ok=true then(if 64<t.ab' then 4 else 0)else 2
def HL:∀(n:Nat) (t:Ty),t.ab'<=n->t.ab'<=1000000000->iO n t=some t:=by
 intro n
 induction n with
 |zero=>intro t h;have:=t.eP;omega
 |succ n a=>
  intro t h b;cases t with
  |mk k l=>
   rw[Ty.ef] at h b;have e:=Ty.fF l;rw[iO];simp only[Ty.eG,Ty.eN,ez,eB (l:=l) (by omega),eo];rw[jz id l 0 [] (by simp;omega)]
   ·simp
   ·intro j x v c d;have:=eI Ty.ab' c;rw[a x (by omega) (by omega)];simp[fx (l:=v) (m:=[x]) (by simpa using d)]
def jg{t:Ty}(h:t.ab'<=1000000000):iO FU t=some t:=HL FU t (by rw[fy];exact h) h
def De:∀(n:Nat) (t:Ty),t.ab'<=n->t.ab'<=1000000000->lU n t=some (if t.ok=true then((t.ab':Int),true)else(0,false)):=by
 intro n
 induction n with
 |zero=>intro t h;have:=t.eP;omega
 |succ n p=>
  intro t h q;cases t with
  |mk k l=>
   rw[Ty.ef] at h q;have u:=Ty.fF l
   have key:fp (λ(i:Int) (c:Ty) (d:Int)=>ek (lU n c) λe f=>if f=true then some (gj.next (fk .i64 d e))else some (gj.ret ((0:Int),false))) l 0 1=if l.all Ty.ok=true then some (.inl ((1+eE Ty.ab' l:Nat):Int))else some (.inr (0,false)):=by
    refine vk Ty.ab' Ty.ok _ l 0 1 (by omega) ?_;intro j x v r;have:=eI Ty.ab' r;rw[p x (by omega) (by omega)];cases x.ok<;>simp
   rw[lU];simp only[Ty.eG,Ty.eN,ez,eB (l:=l) (by omega),eo,key,la,pO,gw,ey,fR,Ty.h_,Ty.ef,Ty.want]
   by_cases m:k=1\/k=2\/k=5
   ·simp only[m,if_true]
    by_cases b:l=[]
    ·subst b;simp[eE]
    ·have:¬(0=l.length):=by cases l with|nil=>exact absurd rfl b|cons a l=>simp
     have g:(l.length:Int)≠0:=by omega
     simp[this,g,b]
   ·simp only[m,P5]
    by_cases b:k=3\/k=4
    ·simp only[b,if_true]
     by_cases g:l.length=2
     ·cases o:l.all Ty.ok<;>simp[g]
     ·have o:(l.length:Int)≠2:=by omega
      have s:¬2=l.length:=by omega
      simp[o,s]
    ·simp[b]
theorem l8{t:Ty}(h:t.ab'<=1000000000):jC t=some (if t.err=0 then(t.ab':Int)else 0,t.err):=by
 unfold jC Ty.err;rw[De FU t (by rw[fy];exact h) h];cases t.ok with
 |false=>simp|true=>
  by_cases a:64<t.ab'
  ·simp[a];omega
  ·simp[a];omega
def zC{t:Ty}(h:t.ab'<=1000000000):mM t=some t.err:=by
 unfold mM;rw[l8 h];rfl
def Ty.rQ(t:Ty):Bool:=fU (eH t.ab9 0) (eH (eM t.ab_) 0) false
theorem Ty.mQ(t:Ty):t.rQ=true↔t=.mk 0 []:=by
 cases t with
 |mk k l=>unfold Ty.rQ;simp
theorem sM(t:Ty):oM t=some t.rQ:=rfl
def wR(t:Ty):qt t=some t.rQ:=rfl
def GK:∀(n:Nat) (t:Ty),t.ab'<=n->t.ab'<=1000000000->oR n t=some t.ok:=by
 intro n
 induction n with
 |zero=>intro t h;have:=t.eP;omega
 |succ n m=>
  intro t h o;cases t with
  |mk k l=>
   rw[Ty.ef] at h o;have r:=Ty.fF l
   have key:fp (λ(f:Int) (c:Ty) (_:Unit)=>cv (oR n c) λd=>if d=true then some (gj.next ())else some (gj.ret false)) l 0 ()=if l.all Ty.ok=true then some (.inl ())else some (.inr false):=by
    refine rp Ty.ok _ l 0 ?_;intro j x p;have:=eI Ty.ab' p;rw[m x (by omega) (by omega)];rfl
   rw[oR];simp only[Ty.eG,Ty.eN,ez,eB (l:=l) (by omega),eo,key,la,pO,gw,ey,fR,Ty.h_,Ty.want]
   by_cases g:k=1\/k=2\/k=5
   ·simp only[g,if_true]
    by_cases b:l=[]
    ·subst b;simp
    ·have:¬(0=l.length):=by cases l with|nil=>exact absurd rfl b|cons a l=>simp
     have e:(l.length:Int)≠0:=by omega
     simp[this,e,b]
   ·simp only[g,P5]
    by_cases b:k=3\/k=4
    ·simp only[b,if_true]
     by_cases e:l.length=2
     ·cases i:l.all Ty.ok<;>simp[e]
     ·have i:(l.length:Int)≠2:=by omega
      have q:¬2=l.length:=by omega
      simp[i,q]
    ·simp[b]
def Iv:∀(n:Nat) (t:Ty),t.ab'<=n->t.ab'<=1000000000->qC n t=some (t.ab':Int):=by
 intro n
 induction n with
 |zero=>intro t h;have:=t.eP;omega
 |succ n a=>
  intro t h b;cases t with
  |mk k l=>
   rw[Ty.ef] at h b;have d:=Ty.fF l;rw[qC];simp only[Ty.eG,ez,eB (l:=l) (by omega),eo]
   have key:=qe (ρ:=Int) (F:=λ(j:Int) (x:Ty) (v:Int)=>cv (qC n x) λy=>some (gj.next (fk .i64 v y))) Ty.ab' l 0 1 (by omega) (by
    intro j x v c;have:=eI Ty.ab' c;rw[a x (by omega) (by omega)]
    rfl)
   rw[show(1:Int)=((1:Nat):Int)from rfl,key];simp[Ty.ef]
def m4{t:Ty}(h:t.ab'<=1000000000):jH t=some t.err:=by
 unfold jH Ty.err;rw[GK FU t (by rw[fy];exact h) h,Iv FU t (by rw[fy];exact h) h];cases t.ok with
 |false=>simp|true=>by_cases a:64<t.ab'<;>simp[a]<;>omega
def wK:∀(n:Nat) (a b:Ty),a.ab'<=n->a.ab'<=1000000000->∃r,fQ n a b=some r/\(r=true↔a=b):=by
 intro n
 induction n with
 |zero=>intro t b h;have:=t.eP;omega
 |succ n q=>
  intro a b h s;cases a with
  |mk k l=>
  cases b with
  |mk k' m=>
   rw[Ty.ef] at h s;have u:=Ty.fF l;rw[fQ];simp only[Ty.eG,Ty.eN,ez,eB (l:=l) (by omega),eo,la,pO,ey,fR]
   by_cases d:k≠k'\/(l.length:Int)≠m.length
   ·rw[ee d];refine⟨false,rfl,?_⟩;simp only[tY,Z_,Ty.mk.injEq,not_and];rintro rfl rfl;simp at d
   ·rw[ea d];simp only[not_or,w7] at d;obtain⟨rfl,hlen⟩:=d
    have c:l.length=m.length:=by omega
    let p:Ty->Ty->Bool:=λx y=>(fQ n x y).getD false
    have i:∀x∈l,∀y,fQ n x y=some (p x y)/\(p x y=true↔x=y):=by
     intro x f y;have:=eI Ty.ab' f;obtain⟨r,o,g⟩:=q x y (by omega) (by omega)
     have e:p x y=r:=by show(fQ n x y).getD false=r;rw[o];rfl
     rw[e];exact⟨o,g⟩
    have key:=xd (F:=λ(j:Int) (x:Ty) (_:Unit)=>cv (eJ m j) λy=>cv (fQ n x y) λz=>if z=true then some (gj.next ())else some (gj.ret false)) p m l 0 m rfl c (by
     intro k x y f hy;rw[jj,hy];simp only[cl];rw[(i x f y).1]
     rfl)
    rw[key];have he:=xI p l m λx f y=>(i x f y).2;cases g:vO p l m with
    |false=>exact⟨false,rfl,by rw[g] at he;simpa using he⟩
    |true=>exact⟨true,rfl,by rw[g] at he;simpa using he⟩
noncomputable def Ty.lS (a b:Ty):Bool:=@decide (a=b) (Classical.propDecidable _)
theorem Ty.k0(a b:Ty):a.lS b=true↔a=b:=by unfold Ty.lS;simp
theorem jh{a b:Ty}(h:a.ab'<=1000000000):fQ FU a b=some (a.lS b):=by
 obtain⟨r,c,d⟩:=wK FU a b (by rw[fy];exact h) h;rw[c]
 congr 1
 rw[B5,d,Ty.k0]
mutual
def Tm.ab':Tm->Nat
 |.mk _ _ _ l=>1+Tm.oq l
def Tm.oq:List Tm->Nat
 |[]=>0|t::l=>t.ab'+Tm.oq l
end
def Tm.r8(l:List Tm):Tm.oq l=eE Tm.ab' l:=by
 induction l with
 |nil=>rfl|cons t l a=>simp[Tm.oq,eE,a]
theorem Tm.ef(k i:Int)(s:Ty)(l:List Tm):(Tm.mk k i s l).ab'=1+eE Tm.ab' l:=by rw[Tm.ab',Tm.r8]
def Tm.eP(t:Tm):1<=t.ab':=by cases t;rw[Tm.ab'];omega
def Tm.fF(l:List Tm):l.length<=eE Tm.ab' l:=ic _ _ λt _=>t.eP
mutual
def Tm.wt:Tm->Nat
 |.mk _ _ s l=>1+s.ab'+Tm.NS l
def Tm.NS:List Tm->Nat
 |[]=>0|t::l=>t.wt+Tm.NS l
end
def Tm.Dj(l:List Tm):Tm.NS l=eE Tm.wt l:=by
 induction l with
 |nil=>rfl|cons t l a=>simp[Tm.NS,eE,a]
theorem Tm.fP(k i:Int)(s:Ty)(l:List Tm):(Tm.mk k i s l).wt=1+s.ab'+eE Tm.wt l:=by rw[Tm.wt,Tm.Dj]
def Tm.iS(t:Tm):1<=t.wt:=by cases t;rw[Tm.wt];omega
def Tm.n5(l:List Tm):l.length<=eE Tm.wt l:=ic _ _ λt _=>t.iS
def kR{α:Type}{f g:α->Nat}{l:List α}(h:∀x∈l,f x<=g x):eE f l<=eE g l:=by
 induction l with
 |nil=>simp[eE]|cons x l a=>simp only[eE];have:=h x (by simp);have:=a λy hy=>h y (by simp[hy]);omega
def qf{α β:Type}(f:β->Nat)(g:α->β)(l:List α):eE f (l.map g)=eE (λx=>f (g x)) l:=by
 induction l with
 |nil=>rfl|cons x l a=>simp[eE,a]
def rJ{α:Type}{f g:α->Nat}{l:List α}(h:∀x∈l,f x=g x):eE f l=eE g l:=by
 induction l with
 |nil=>rfl|cons x l a=>simp[eE,h x (by simp),a λy hy=>h y (by simp[hy])]
def Er{α:Type}(f:α->Nat)(l m:List α):eE f (l++m)=eE f l+eE f m:=by
 induction l with
 |nil=>simp[eE]|cons x l a=>simp[eE,a];omega
def Tm.ind{p:Tm->Prop}(h:∀k i s l,(∀t∈l,p t)->p (.mk k i s l))(t:Tm):p t:=by
 have:∀n (t:Tm),t.ab'<=n->p t:=by
  intro n
  induction n with
  |zero=>intro t a;have:=t.eP;omega
  |succ n b=>
   intro t a;cases t with
   |mk k i s l=>
    rw[Tm.ef] at a;exact h k i s l λu hu=>b u (by have:=eI Tm.ab' hu;omega)
 exact this _ t (jo _)
def Tm.iI(t:Tm):t.ab'<=t.wt:=by
 induction t using Tm.ind with
 |h k i s l a=>rw[Tm.ef,Tm.fP];have:=kR a;omega
def kD(k:Int):Bool:=decide (k=2\/k=6\/k=9)
def iM(k:Int):Int:=
 if k=1\/k=4\/k=7\/k=13 then 0 else if k=2\/k=5\/k=11\/k=12 then 1 else if k=3\/k=8\/k=10 then 2 else if k=6\/k=9 then 3 else-1
def Tm.node(k i:Int)(s:Ty)(n:Nat):Bool:=
 decide ((n:Int)=iM k)&&decide (0<=i)&&(decide (k=1)||decide (i=0))&&(if kD k=true then decide (s.err=0)else s.rQ)
mutual
def Tm.ok:Tm->Bool
 |.mk k i s l=>Tm.node k i s l.length&&Tm.Jc l
def Tm.Jc:List Tm->Bool
 |[]=>true|t::l=>t.ok&&Tm.Jc l
end
def Tm.zs(l:List Tm):Tm.Jc l=l.all Tm.ok:=by
 induction l with
 |nil=>rfl|cons t l a=>simp[Tm.Jc,a]
theorem Tm.h_(k i:Int)(s:Ty)(l:List Tm):(Tm.mk k i s l).ok=(Tm.node k i s l.length&&l.all Tm.ok):=by rw[Tm.ok,Tm.zs]
def Tm.err(t:Tm):Int:=if t.ok=true then(if 4096<t.ab' then 4 else 0)else 2
def HP:∀(n:Nat) (t:Tm),t.wt<=n->t.wt<=1000000000->jD n t=some t:=by
 intro n
 induction n with
 |zero=>intro t h;have:=t.iS;omega
 |succ n a=>
  intro t h b;cases t with
  |mk k i s l=>
   rw[Tm.fP] at h b;have e:=Tm.n5 l;rw[jD];simp only[Tm.eG,Tm.eN,Tm.gx,Tm.fw,ez,eB (l:=l) (by omega),eo];rw[jz id l 0 [] (by simp;omega)]
   ·simp[jg (t:=s) (by omega)]
   ·intro j x v c d;have:=eI Tm.wt c;rw[a x (by omega) (by omega)];simp[fx (l:=v) (m:=[x]) (by simpa using d)]
def nI{t:Tm}(h:t.wt<=1000000000):jD FU t=some t:=HP FU t (by rw[fy];exact h) h
def qu(k:Int)(l:List Tm)(h:eE Tm.wt l<=1000000000):gq k l=some (Tm.mk k 0 (.mk 0 []) l):=by
 have c:=Tm.n5 l;unfold gq;simp only[ez,eB (l:=l) (by omega),eo];rw[jz id l 0 [] (by simp;omega)]
 ·simp
 ·intro j x v a b;have:=eI Tm.wt a;rw[nI (t:=x) (by omega)];simp[fx (l:=v) (m:=[x]) (by simpa using b)]
def F1(k:Int)(s:Ty)(l:List Tm)(hs:s.ab'<=1000000000)(h:eE Tm.wt l<=1000000000):lZ k s l=some (Tm.mk k 0 s l):=by
 unfold lZ;rw[qu k l h];simp[jg hs]
def H_(k:Int):vq k=some (iM k):=by
 unfold vq iM;simp only[la,pO,gw]
 split<;>(try rfl)
 split<;>(try rfl)
 split<;>(try rfl)
 split<;>rfl
def oB:∀(n:Nat) (t:Tm),t.ab'<=n->t.ab'<=1000000000->gl n t=some (t.ab':Int):=by
 intro n
 induction n with
 |zero=>intro t h;have:=t.eP;omega
 |succ n a=>
  intro t h b;cases t with
  |mk k i s l=>
   rw[Tm.ef] at h b;have d:=Tm.fF l;rw[gl];simp only[Tm.eG,ez,eB (l:=l) (by omega),eo]
   have key:=qe (ρ:=Int) (F:=λ(j:Int) (x:Tm) (v:Int)=>cv (gl n x) λy=>some (gj.next (fk .i64 v y))) Tm.ab' l 0 1 (by omega) (by
    intro j x v c;have:=eI Tm.ab' c;rw[a x (by omega) (by omega)]
    rfl)
   rw[show(1:Int)=((1:Nat):Int)from rfl,key];simp[Tm.ef]
def z6:∀(n:Nat) (t:Tm),t.wt<=n->t.wt<=1000000000->kr n t=some t.ok:=by
 intro n
 induction n with
 |zero=>intro t h;have:=t.iS;omega
 |succ n p=>
  intro t h q;cases t with
  |mk k i s l=>
   rw[Tm.fP] at h q;have z:=Tm.n5 l
   have key:fp (λ(f:Int) (a:Tm) (_:Unit)=>cv (kr n a) λb=>if b=true then some (gj.next ())else some (gj.ret false)) l 0 ()=if l.all Tm.ok=true then some (.inl ())else some (.inr false):=by
    refine rp Tm.ok _ l 0 ?_;intro j x r;have:=eI Tm.wt r;rw[p x (by omega) (by omega)];rfl
   rw[kr]
   simp only[Tm.eG,Tm.eN,Tm.gx,Tm.fw,ez,eB (l:=l) (by omega),eo,key,la,pO,gw,ey,mE,fR,Tm.h_,H_,cl,m4 (t:=s) (by omega),wR]
   by_cases d:(l.length:Int)=iM k
   ·by_cases g:i<0
    ·have:¬0<=i:=by omega
     simp[d,g,Tm.node,this]
    ·have u:0<=i:=by omega
     by_cases m:k=1
     ·subst m;cases c:s.rQ<;>cases e:l.all Tm.ok<;>simp_all [Tm.node,kD]
     ·by_cases c:i=0
      ·subst c;have o:eW 0 0=false:=rfl
       by_cases e:k=2\/k=6\/k=9
       ·have v:kD k=true:=by simp[kD,e]
        by_cases w:s.err=0<;>cases y:l.all Tm.ok<;>simp_all [Tm.node]
       ·have v:kD k=false:=by simp[kD,e]
        cases w:s.rQ<;>cases y:l.all Tm.ok<;>simp_all [Tm.node]
      ·have o:eW i 0=true:=by simp[c]
       simp[d,g,m,c,o,Tm.node]
   ·simp[d,Tm.node]
def na{t:Tm}(h:t.wt<=1000000000):lQ t=some t.err:=by
 have:=t.iI;unfold lQ Tm.err;rw[z6 FU t (by rw[fy];exact h) h,oB FU t (by rw[fy];omega) (by omega)];cases t.ok with
 |false=>simp|true=>by_cases a:4096<t.ab'<;>simp[a]<;>omega
def I_(k:Int):vx k=some (if 1<=k/\k<14 then(iM k,true)else(0,false)):=by
 unfold vx;simp only[la,pO,mE,iU]
 by_cases h:k<1\/14<=k
 ·rw[ee h,ea (by omega)]
 ·rw[ea h,ee (by omega)]
  have:k=1\/k=2\/k=3\/k=4\/k=5\/k=6\/k=7\/k=8\/k=9\/k=10\/k=11\/k=12\/k=13:=by omega
  rcases this with rfl|rfl|rfl|rfl|rfl|rfl|rfl|rfl|rfl|rfl|rfl|rfl|rfl<;>rfl
def I6(k:Int):vW k=some (kD k):=by
 unfold vW kD
 congr 1
 rw[B5];simp
def JX{k:Int}{n:Nat}(h:(n:Int)=iM k):1<=k/\k<14:=by
 unfold iM at h
 repeat' split at h
 all_goals omega
def wC:∀(n:Nat) (t:Tm),t.wt<=n->t.wt<=1000000000->j1 n t=some (if t.ok=true then((t.ab':Int),true)else(0,false)):=by
 intro n
 induction n with
 |zero=>intro t h;have:=t.iS;omega
 |succ n r=>
  intro t h u;cases t with
  |mk k i s l=>
   rw[Tm.fP] at h u;have D:=Tm.n5 l;have hn:eE Tm.ab' l<=eE Tm.wt l:=kR λx _=>x.iI
   have key:fp (λ(o:Int) (a:Tm) (b:Int)=>ek (j1 n a) λc d=>if d=true then some (gj.next (fk .i64 b c))else some (gj.ret ((0:Int),false))) l 0 1=if l.all Tm.ok=true then some (.inl ((1+eE Tm.ab' l:Nat):Int))else some (.inr (0,false)):=by
    refine vk Tm.ab' Tm.ok _ l 0 1 (by omega) ?_;intro j x v w;have:=eI Tm.wt w;rw[r x (by omega) (by omega)];cases x.ok<;>simp
   rw[j1];simp only[Tm.eG,Tm.eN,Tm.gx,Tm.fw,ez,eB (l:=l) (by omega),eo,key,Tm.h_,Tm.ef,I_,I6,l8 (t:=s) (by omega),sM,cl,eb]
   by_cases e:(l.length:Int)=iM k
   ·have f:=JX e;simp only[f,and_self,if_true,eb,xG,la,ru,pO,gI,ey,mE,fR,e,ne_eq,Y',false_or]
    by_cases p:i<0
    ·have:¬0<=i:=by omega
     simp[p,Tm.node,this]
    ·have y:0<=i:=by omega
     by_cases q:k=1
     ·subst q;cases g:s.rQ<;>cases m:l.all Tm.ok<;>simp_all [Tm.node,kD]
     ·by_cases g:i=0
      ·subst g
       by_cases m:k=2\/k=6\/k=9
       ·have z:kD k=true:=by simp[kD,m]
        by_cases A:s.err=0<;>cases B:l.all Tm.ok<;>simp_all [Tm.node]
       ·have z:kD k=false:=by simp[kD,m]
        cases A:s.rQ<;>cases B:l.all Tm.ok<;>simp_all [Tm.node]
      ·simp[p,q,g,Tm.node]
   ·have C:Tm.node k i s l.length=false:=by simp[Tm.node,e]
    simp only[C,Zo,tY,P5]
    by_cases f:1<=k/\k<14
    ·simp[f,e]
    ·simp[f]
def gB(k:Int):Int:=if k=2 then 1 else 0
def lH(k:Int):0<=gB k/\gB k<=1:=by unfold gB;split<;>omega
def oE(t:Tm):lO t=some (gB t.ab9):=by
 unfold lO gB;simp only[gw]
 split<;>rfl
mutual
def Tm.up(f b:Int):Tm->Tm
 |.mk k i s l=>.mk k (if k=1/\f<=i then i+b else i) s (Tm.UW (f+gB k) b l)
def Tm.UW(f b:Int):List Tm->List Tm
 |[]=>[]|t::l=>t.up f b::Tm.UW f b l
end
def Tm.NN(f b:Int)(l:List Tm):Tm.UW f b l=l.map (Tm.up f b):=by
 induction l with
 |nil=>rfl|cons t l a=>simp[Tm.UW,a]
def Tm.l7(f b k i:Int)(s:Ty)(l:List Tm):(Tm.mk k i s l).up f b=.mk k (if k=1/\f<=i then i+b else i) s (l.map (Tm.up (f+gB k) b)):=by rw[Tm.up,Tm.NN]
mutual
def Tm.ace(m:Int):Tm->Bool
 |.mk _ i _ l=>decide (i<=m)&&Tm.rE m l
def Tm.rE(m:Int):List Tm->Bool
 |[]=>true|t::l=>t.ace m&&Tm.rE m l
end
def Tm.uQ(m:Int)(l:List Tm):Tm.rE m l=l.all (Tm.ace m):=by
 induction l with
 |nil=>rfl|cons t l a=>simp[Tm.rE,a]
theorem Tm.fo(m k i:Int)(s:Ty)(l:List Tm):(Tm.mk k i s l).ace m=(decide (i<=m)&&l.all (Tm.ace m)):=by rw[Tm.ace,Tm.uQ]
mutual
def Tm.acg(a:Int):Tm->Nat
 |.mk k i _ l=>(if k=1/\i=a then 1 else 0)+Tm.yb (a+gB k) l
def Tm.yb(a:Int):List Tm->Nat
 |[]=>0|t::l=>t.acg a+Tm.yb a l
end
def Tm.DJ(a:Int)(l:List Tm):Tm.yb a l=eE (Tm.acg a) l:=by
 induction l with
 |nil=>rfl|cons t l b=>simp[Tm.yb,eE,b]
def Tm.gU(a k i:Int)(s:Ty)(l:List Tm):(Tm.mk k i s l).acg a=(if k=1/\i=a then 1 else 0)+eE (Tm.acg (a+gB k)) l:=by rw[Tm.acg,Tm.DJ]
def Tm.ji(t:Tm):∀a,t.acg a<=t.ab':=by
 induction t using Tm.ind with
 |h k i s l b=>
  intro a;rw[Tm.gU,Tm.ef];have:=kR (f:=Tm.acg (a+gB k)) (g:=Tm.ab') (l:=l) λx c=>b x c _
  split<;>omega
def Tm.vy(n i:Int)(s t:Tm):Tm:=if i=n then s.up 0 n else if n<i then .mk 1 (i-1) (.mk 0 []) [] else t
mutual
def Tm.jX:Int->Tm->Tm->Tm
 |n,.mk k i ty l,s=>if k=1 then Tm.vy n i s (.mk k i ty l)else .mk k i ty (Tm.Ka (n+gB k) l s)
def Tm.Ka:Int->List Tm->Tm->List Tm
 |_,[],_=>[]|n,t::l,s=>Tm.jX n t s::Tm.Ka n l s
end
def Tm.Kg(n:Int)(s:Tm)(l:List Tm):Tm.Ka n l s=l.map (λx=>Tm.jX n x s):=by
 induction l with
 |nil=>rfl|cons t l a=>simp[Tm.Ka,a]
def Tm.ot(n:Int)(s:Tm)(k i:Int)(ty:Ty)(l:List Tm):Tm.jX n (Tm.mk k i ty l) s=if k=1 then Tm.vy n i s (.mk k i ty l)else .mk k i ty (l.map (λx=>Tm.jX (n+gB k) x s)):=by rw[Tm.jX,Tm.Kg]
theorem Tm.rj(t:Tm):∀f b,(t.up f b).ab'=t.ab':=by
 induction t using Tm.ind with
 |h k i s l a=>
  intro f b;rw[Tm.l7,Tm.ef,Tm.ef,qf];rw[rJ λx c=>a x c _ _]
theorem Tm.FJ(t:Tm):∀f b,(t.up f b).wt=t.wt:=by
 induction t using Tm.ind with
 |h k i s l a=>
  intro f b;rw[Tm.l7,Tm.fP,Tm.fP,qf];rw[rJ λx c=>a x c _ _]
def w6{α β:Type}{p:β->Bool}{q:α->Bool}{g:α->β}{l:List α}(h:∀x∈l,p (g x)=q x):(l.map g).all p=l.all q:=by
 induction l with
 |nil=>rfl|cons x l a=>simp only[Aw,xc,h x (by simp),a λy hy=>h y (by simp[hy])]
def Tm.N6{k i j:Int}{s:Ty}{n:Nat}(h:k=1/\0<=i/\0<=j\/i=j):Tm.node k i s n=Tm.node k j s n:=by
 rcases h with⟨rfl,a,b⟩|rfl
 ·simp[Tm.node,a,b]
 ·rfl
theorem Tm.Jd(t:Tm):∀f b,0<=f->0<=b->(t.up f b).ok=t.ok:=by
 induction t using Tm.ind with
 |h k i s l a=>
  intro f b e c;rw[Tm.l7,Tm.h_,Tm.h_,G9,w6 λx d=>a x d (f+gB k) b (by have:=lH k;omega) c]
  congr 1
  apply Tm.N6
  split
  ·rename_i g;left;omega
  ·right;rfl
def zZ:∀(n:Nat) (t:Tm) (m:Int),t.ab'<=n->t.ab'<=1000000000->k9 n t m=some (t.ace m):=by
 intro n
 induction n with
 |zero=>intro t m h;have:=t.eP;omega
 |succ n e=>
  intro t m h f;cases t with
  |mk k i s l=>
   rw[Tm.ef] at h f;have o:=Tm.fF l
   have key:fp (λ(c:Int) (a:Tm) (_:Unit)=>cv (k9 n a m) λb=>if b=true then some (gj.next ())else some (gj.ret false)) l 0 ()=if l.all (Tm.ace m)=true then some (.inl ())else some (.inr false):=by
    refine rp (Tm.ace m) _ l 0 ?_;intro j x g;have:=eI Tm.ab' g;rw[e x m (by omega) (by omega)];rfl
   rw[k9];simp only[Tm.eG,Tm.gx,ez,eB (l:=l) (by omega),eo,key,gA,Tm.fo]
   by_cases d:m<i
   ·have:¬i<=m:=by omega
    simp[d,this]
   ·have:i<=m:=by omega
    cases p:l.all (Tm.ace m)<;>simp[d,this]
def zT:∀(n:Nat) (t:Tm) (f b:Int),t.ab'<=n->t.ab'<=1000000000->0<=f->f+t.ab'<=10000000000->0<=b->b<=10000000000->t.ace 1000000000000=true->qg n t f b=some (t.up f b):=by
 intro n
 induction n with
 |zero=>intro t f b h;have:=t.eP;omega
 |succ n q=>
  intro t f b h a z c r d hi;cases t with
  |mk k i s l=>
   rw[Tm.ef] at h a c;rw[Tm.fo] at hi;simp only[gI,nq,kF] at hi;have A:=Tm.fF l;have B:=lH k;rw[qg];simp only[Tm.eG,Tm.gx,Tm.eN,Tm.fw,ez,eB (l:=l) (by omega),eo];rw[jz (Tm.up (f+gB k) b) l 0 [] (by simp;omega)]
   ·rw[Tm.l7];simp only[cl,ei,o_,s7,Tm.mk.injEq,and_true,aaq]
    by_cases g:k=1/\f<=i
    ·obtain⟨rfl,o⟩:=g;rw[fq (by omega) (by omega)];have u:eH 1 1=true:=rfl
     have w:sN i f=true:=by simp[o]
     simp[u,w,o]
    ·rw[ea g]
     have e:fU (eH k 1) (sN i f) false=false:=by
      rw[ru,Ww];simp only[ne_eq,gI,gw,iU];exact g
     rw[e];rfl
   ·intro j x v p y;have:=eI Tm.ab' p;rw[oE];simp only[cl,Tm.eN];rw[fq (by omega) (by omega),q x (f+gB k) b (by omega) (by omega) (by omega) (by omega) r d (hi.2 x p)];simp[fx (l:=v) (m:=[x.up (f+gB k) b]) (by simpa using y)]
def zO:∀(n:Nat) (t:Tm) (a:Int),t.ab'<=n->t.ab'<=1000000000->0<=a->a+t.ab'<=10000000000->mO n t a=some (t.acg a:Int):=by
 intro n
 induction n with
 |zero=>intro t a h;have:=t.eP;omega
 |succ n g=>
  intro t a h c q d;cases t with
  |mk k i s l=>
   rw[Tm.ef] at h c d;have r:=Tm.fF l;have u:=lH k;have m:eE (Tm.acg (a+gB k)) l<=eE Tm.ab' l:=kR λx _=>x.ji _;rw[mO];simp only[Tm.eG,Tm.gx,Tm.eN,ez,eB (l:=l) (by omega),eo]
   have o:fU (fU (eH k 1) (eH i a) false) (fk .i64 0 1) 0=(((if k=1/\i=a then 1 else 0:Nat)):Int):=by
    by_cases f:k=1/\i=a
    ·obtain⟨rfl,rfl⟩:=f;simp[eH,fU,fk,Fx]
    ·have e:fU (eH k 1) (eH i a) false=false:=by
      rw[ru,Ww];simp only[ne_eq,gI,gw];exact f
     rw[e,ea f];rfl
   have key:=qe (ρ:=Int) (F:=λ(j:Int) (x:Tm) (v:Int)=>cv (lO (Tm.mk k i s l)) λb=>cv (mO n x (fk .i64 a b)) λy=>some (gj.next (fk .i64 v y)))
    (Tm.acg (a+gB k)) l 0 (if k=1/\i=a then 1 else 0) (by split<;>omega) (by
    intro j x v p;have:=eI Tm.ab' p;rw[oE];simp only[cl,Tm.eN];rw[fq (by omega) (by omega),g x _ (by omega) (by omega) (by omega) (by omega)]
    rfl)
   rw[o,key];simp[Tm.gU]
def Ek:∀(n:Nat) (t:Tm) (a b:Int) (s:Tm),t.ab'<=n->t.ab'<=1000000000->0<=a->0<=b->a+b+t.ab'<=5000000000->t.ace 1000000000000=true->t.ok=true->s.ab'<=1000000000->s.ace 1000000000000=true->ua n t a b s=some (Tm.jX (a+b) t s):=by
 intro n
 induction n with
 |zero=>intro t a b s h;have:=t.eP;omega
 |succ n r=>
  intro t a b s h o u z p hi c hs d;cases t with
  |mk k i ty l=>
   rw[Tm.ef] at h o p;rw[Tm.fo] at hi;rw[Tm.h_] at c;simp only[gI,nq,kF] at hi c;have A:=Tm.fF l;have B:=lH k
   have w:0<=i:=by
    have:=c.1;simp only[Tm.node,gI,nq] at this;exact this.1.1.2
   rw[ua,Tm.ot];simp only[Tm.eG,Tm.gx,Tm.eN,Tm.fw,ez,eB (l:=l) (by omega),eo,gw];rw[fq (by omega) (by omega)]
   by_cases e:k=1
   ·rw[ee e,ee e];unfold Tm.vy
    by_cases f:i=a+b
    ·rw[ee f,ee f,zT FU s 0 (a+b) (by rw[fy];exact hs) hs (by omega) (by omega) (by omega) (by omega) d];rfl
    ·rw[ea f,ea f];simp only[gA]
     by_cases g:a+b<i
     ·rw[ee g,ee g,fH (by omega) (by omega)];rfl
     ·rw[ea g,ea g]
   ·rw[ea e,ea e];rw[jz (λx=>Tm.jX (a+b+gB k) x s) l 0 [] (by simp;omega)]
    ·simp
    ·intro j x v q y;have:=eI Tm.ab' q;rw[oE];simp only[cl,Tm.eN];rw[fq (by omega) (by omega),r x a (b+gB k) s (by omega) (by omega) u (by omega) (by omega) (hi.2 x q) (c.2 x q) hs d];rw[show a+(b+gB k)=a+b+gB k by omega];simp[fx (l:=v) (m:=[Tm.jX (a+b+gB k) x s]) (by simpa using y)]
def Tm.rT(s t:Tm):∀n,t.ok=true->(Tm.jX n t s).ab'+t.acg n=t.ab'+t.acg n*s.ab':=by
 induction t using Tm.ind with
 |h k i ty l g=>
  intro n a;rw[Tm.h_] at a;simp only[gI,kF] at a;rw[Tm.ot,Tm.gU,Tm.ef]
  by_cases d:k=1
  ·subst d
   have j:l=[]:=by
    have:=a.1;simp only[Tm.node,gI,nq] at this;have h:=this.1.1.1;simp[iM] at h;exact h
   subst j;simp only[if_true,Tm.vy,eE,Fc,aaq]
   by_cases e:i=n
   ·simp[e,Tm.rj];omega
   ·by_cases m:n<i<;>simp[e,m,Tm.ef,eE]
  ·simp only[d,P5,false_and,uK];rw[Tm.ef,qf]
   have:eE (λx=>(Tm.jX (n+gB k) x s).ab') l+eE (Tm.acg (n+gB k)) l=eE Tm.ab' l+eE (Tm.acg (n+gB k)) l*s.ab':=by
    have b:∀x∈l,(Tm.jX (n+gB k) x s).ab'+x.acg (n+gB k)=x.ab'+x.acg (n+gB k)*s.ab':=λx c=>g x c _ (a.2 x c);clear g a
    induction l with
    |nil=>simp[eE]|cons y l f=>
     have d:=b y (by simp);have e:=f λx c=>b x (by simp[c]);simp only[eE,AD];omega
   omega
def Tm.Ti(s:Tm)(hs:s.ok=true)(t:Tm):∀n,0<=n->t.ok=true->(Tm.jX n t s).ok=true:=by
 induction t using Tm.ind with
 |h k i ty l g=>
  intro n hn a;have b:=a;rw[Tm.h_] at a;simp only[gI,kF] at a;rw[Tm.ot]
  by_cases d:k=1
  ·subst d;simp only[if_true,Tm.vy]
   by_cases c:i=n
   ·simp only[c,if_true];rw[Tm.Jd s 0 n (by omega) hn];exact hs
   ·by_cases e:n<i
    ·simp only[c,e,P5,if_true];rw[Tm.h_]
     have j:1<=i:=by omega
     simp[Tm.node,iM,kD,j,Ty.rQ,eH]
    ·simp only[c,e,P5];exact b
  ·simp only[d,P5];rw[Tm.h_,G9];simp only[gI,kF,oy];refine⟨a.1,?_⟩;rintro _ ⟨x,f,rfl⟩;exact g x f _ (by have:=lH k;omega) (a.2 x f)
mutual
def Tm.fr:Tm->Int
 |.mk k i _ l=>if k=1 then i+1 else if k=2 then imax 0 (Tm.IH 0 l-1)else Tm.IH 0 l
def Tm.IH(m:Int):List Tm->Int
 |[]=>m|t::l=>Tm.IH (imax m t.fr) l
end
def tu(a b:Int):imax a b=max a b:=by unfold imax;omega
def Tm.N3(l:List Tm):∀m,m<=Tm.IH m l:=by
 induction l with
 |nil=>intro m;exact Int.le_refl _|cons t l a=>intro m;rw[Tm.IH];have:=a (imax m t.fr);rw[tu] at*;omega
def Tm.UM{l:List Tm}{t:Tm}(h:t∈l):∀m,t.fr<=Tm.IH m l:=by
 induction l with
 |nil=>cases h
 |cons u l a=>
  intro m;rw[Tm.IH];rcases ma.1 h with rfl|h
  ·have:=Tm.N3 l (imax m t.fr);rw[tu] at*;omega
  ·exact a h _
def Tm.Ru{M:Int}{l:List Tm}(h:∀t∈l,t.fr<=M):∀m,m<=M->Tm.IH m l<=M:=by
 induction l with
 |nil=>intro m hm;exact hm|cons u l a=>
  intro m hm;rw[Tm.IH];refine a (λt b=>h t (by simp[b])) _ ?_;have:=h u (by simp);rw[tu];omega
def Tm.RA(t:Tm):∀{M:Int},0<=M->t.ok=true->t.ace M=true->0<=t.fr/\t.fr<=M+1:=by
 induction t using Tm.ind with
 |h k i s l d=>
  intro M e a b;rw[Tm.h_] at a;rw[Tm.fo] at b;simp only[gI,kF,nq,Tm.node] at a b;have f:Tm.IH 0 l<=M+1:=Tm.Ru (λt c=>(d t c e (a.2 t c) (b.2 t c)).2) 0 (by omega);have g:=Tm.N3 l 0;rw[Tm.fr]
  split
  ·omega
  ·split
   ·rw[tu];omega
   ·omega
def map_id'{α:Type}{g:α->α}{l:List α}(h:∀x∈l,g x=x):l.map g=l:=by
 induction l with
 |nil=>rfl|cons x l a=>simp only[Aw,h x (by simp),a λy hy=>h y (by simp[hy])]
def Tm.l_{k i:Int}{s:Ty}{l:List Tm}(h:(Tm.mk k i s l).ok=true):(k=1->l=[])/\0<=i/\(k≠1->i=0)/\(∀t∈l,t.ok=true)/\(l.length:Int)=iM k:=by
 rw[Tm.h_] at h;simp only[gI,kF,nq,Tm.node,pO] at h;obtain⟨⟨⟨⟨a,b⟩,c⟩,f⟩,d⟩:=h;refine⟨?_,b,λe=>c.resolve_left e,d,a⟩;rintro rfl;have:(l.length:Int)=0:=a;exact CW (by omega)
def Tm.Lb{k i:Int}{s:Ty}{l:List Tm}(a:k≠1){f:Int}(h:(Tm.mk k i s l).fr<=f)(c:0<=f):∀x∈l,x.fr<=f+gB k:=by
 intro x b;have:=Tm.UM b 0;rw[Tm.fr,ea a] at h;unfold gB
 split at h
 ·rename_i a;rw[ee a];rw[tu] at h;omega
 ·rename_i a;rw[ea a];omega
def Tm.UD(t:Tm):∀f b,t.ok=true->0<=f->t.fr<=f->t.up f b=t:=by
 induction t using Tm.ind with
 |h k i s l d=>
  intro f b e g h;obtain⟨o1,o2,m,j,_⟩:=Tm.l_ e;rw[Tm.l7]
  by_cases a:k=1
  ·have:=o1 a;subst this;rw[Tm.fr,ee a] at h;rw[ea (by omega)];rfl
  ·rw[ea (λh=>a h.1)]
   congr 1
   exact map_id' λx c=>d x c _ _ (j x c) (by have:=lH k;omega) (Tm.Lb a h g x c)
def Tm.yp(t:Tm):∀f,t.up f 0=t:=by
 induction t using Tm.ind with
 |h k i s l a=>
  intro f;rw[Tm.l7,map_id' λx b=>a x b _]
  congr 1
  split<;>omega
def Tm.Q4(s t:Tm):∀n,t.ok=true->0<=n->t.fr<=n->Tm.jX n t s=t:=by
 induction t using Tm.ind with
 |h k i ty l c=>
  intro n d hn h;obtain⟨o1,o2,f,e,_⟩:=Tm.l_ d;rw[Tm.ot]
  by_cases a:k=1
  ·rw[ee a];rw[Tm.fr,ee a] at h;unfold Tm.vy;rw[ea (by omega),ea (by omega)]
  ·rw[ea a]
   congr 1
   exact map_id' λx b=>c x b _ (e x b) (by have:=lH k;omega) (Tm.Lb a h hn x b)
def P7{α:Type}{g:α->Nat}{l:List α}(h:∀x∈l,g x=0):eE g l=0:=by
 induction l with
 |nil=>rfl|cons x l a=>simp[eE,h x (by simp),a λy hy=>h y (by simp[hy])]
def Tm.Nl(t:Tm):∀n,t.ok=true->0<=n->t.fr<=n->t.acg n=0:=by
 induction t using Tm.ind with
 |h k i ty l c=>
  intro n d hn h;obtain⟨o1,o2,f,e,_⟩:=Tm.l_ d;rw[Tm.gU]
  by_cases a:k=1
  ·have:=o1 a;subst this;rw[Tm.fr,ee a] at h;rw[ea (by omega)];rfl
  ·rw[ea (λh=>a h.1)];simp only[uK];exact P7 λx b=>c x b _ (e x b) (by have:=lH k;omega) (Tm.Lb a h hn x b)
def Tm.kd:Option Tm->Int
 |some t=>t.ab9|none=>0
def Tm.root:Tm->Bool
 |.mk k _ _ l=>(decide (k=3)&&decide (Tm.kd l[0]?=2))||(decide (k=6)&&(decide (Tm.kd l[2]?=4)||decide (Tm.kd l[2]?=5)))||(decide (k=9)&&(decide (Tm.kd l[2]?=7)||decide (Tm.kd l[2]?=8)))||
  ((decide (k=11)||decide (k=12))&&decide (Tm.kd l[0]?=10))
mutual
def Tm.nf:Tm->Bool
 |.mk k i s l=>!(Tm.mk k i s l).root&&Tm.nfL l
def Tm.nfL:List Tm->Bool
 |[]=>true|t::l=>t.nf&&Tm.nfL l
end
def Tm.Xa(l:List Tm):Tm.nfL l=l.all Tm.nf:=by
 induction l with
 |nil=>rfl|cons t l a=>simp[Tm.nfL,a]
def Tm.Pt(k i:Int)(s:Ty)(l:List Tm):(Tm.mk k i s l).nf=(!(Tm.mk k i s l).root&&l.all Tm.nf):=by rw[Tm.nf,Tm.Xa]
def mv(f:Tm):List Tm->Tm
 |[]=>f|a::l=>mv (.mk 3 0 (.mk 0 []) [f,a]) l
def Tm.gp:Tm->Tm
 |.mk k i s l=>
  if k=3 then(match l with|[.mk _ _ _ [b],a]=>Tm.jX 0 b a|_=>.mk k i s l)
  else if k=11 then(match l with|[.mk _ _ _ (a::_)]=>a|_=>.mk k i s l)
  else if k=12 then(match l with|[.mk _ _ _ [_,b]]=>b|_=>.mk k i s l)
  else(match l with
   |[b,st,.mk _ _ _ []]=>b|[b,st,.mk _ _ _ [n]]=>mv st [n,.mk k i s [b,st,n]]|[b,st,.mk _ _ _ [h,t]]=>mv st [h,t,.mk k i s [b,st,t]]|_=>.mk k i s l)
mutual
inductive NR (nh:List HC):Nat->Tm->Prop
 |mk {p:Nat} {x:eR} {l:List Tm}:HC.er nh p=some x->uT nh x.ab_ l->x.size=((Tm.mk x.ab9 x.aca x.pN l).ab':Int)->x.free=(Tm.mk x.ab9 x.aca x.pN l).fr->(x.normal=true->(Tm.mk x.ab9 x.aca x.pN l).nf=true)->NR nh p (.mk x.ab9 x.aca x.pN l)
inductive uT (nh:List HC):List (Option Nat)->List Tm->Prop
 |nil:uT nh [] []|cons {p:Nat} {t:Tm} {ps:List (Option Nat)} {ts:List Tm}:NR nh p t->uT nh ps ts->uT nh (some p::ps) (t::ts)
end
def NR.inv{nh:List HC}{p:Nat}{t:Tm}(h:NR nh p t):∃x,HC.er nh p=some x/\x.ab9=t.ab9/\x.aca=t.aca/\x.pN=t.dv/\uT nh x.ab_ t.ab_/\x.size=(t.ab':Int)/\x.free=t.fr/\(x.normal=true->t.nf=true):=by
 cases h with
 |mk a b c d e=>exact⟨_,a,rfl,rfl,rfl,b,c,d,e⟩
def NR.of{nh:List HC}{p:Nat}{t:Tm}{x:eR}(e:HC.er nh p=some x)(a:x.ab9=t.ab9)(b:x.aca=t.aca)(c:x.pN=t.dv)(d:uT nh x.ab_ t.ab_)(f:x.size=(t.ab':Int))(g:x.free=t.fr)
  (h:x.normal=true->t.nf=true):NR nh p t:=by
 cases t with
 |mk k i s l=>
  simp only[Tm.eN,Tm.gx,Tm.fw,Tm.eG] at a b c d;subst a;subst b;subst c;exact .mk e d f g h
def uT.len{nh:List HC}:∀{ps:List (Option Nat)} {ts:List Tm},uT nh ps ts->ps.length=ts.length
 |_,_,.nil=>rfl|_,_,.cons _ h=>by simp[h.len]
def uT.append{nh:List HC}:∀{ps a:List (Option Nat)} {ts us:List Tm},uT nh ps ts->uT nh a us->uT nh (ps++a) (ts++us)
 |_,_,_,_,.nil,h=>h|_,_,_,_,.cons b c,h=>.cons b (c.append h)
structure NE (nh nh':List HC):Prop where
 node:∀p t,NR nh p t->NR nh' p t
 state:∀p st,HC.fu nh p=some st->HC.fu nh' p=some st
 get:∀p x,HC.er nh p=some x->∃b,HC.er nh' p=some {x with normal:=b}
def NE.refl(nh:List HC):NE nh nh:=⟨λ_ _ h=>h,λ_ _ h=>h,λ_ x h=>⟨x.normal,h⟩⟩
def NE.trans{a b c:List HC}(d:NE a b)(e:NE b c):NE a c:=⟨λp t h=>e.node p t (d.node p t h),λp st h=>e.state p st (d.state p st h),λp x h=>by
 obtain⟨j,f⟩:=d.get p x h;obtain⟨g,i⟩:=e.get p _ f
 exact⟨g,i⟩⟩
def NE.list{nh a:List HC}(h:NE nh a):∀{ps:List (Option Nat)} {ts:List Tm},uT nh ps ts->uT a ps ts
 |_,_,.nil=>.nil|_,_,.cons b c=>.cons (h.node _ _ b) (h.list c)
def FA{nh X:List HC}{p:Nat}{x:eR}(h:HC.er nh p=some x):HC.er (nh++X) p=some x:=by
 have:=HC.eA h;have a:=(pz.1 this).1;unfold HC.er;rw[tF a,this]
def IP{nh X:List HC}{p:Nat}{x:fV}(h:HC.fu nh p=some x):HC.fu (nh++X) p=some x:=by
 have:=HC.gW h;have a:=(pz.1 this).1;unfold HC.fu;rw[tF a,this]
mutual
def NR.app{nh X:List HC}:∀{p:Nat} {t:Tm},NR nh p t->NR (nh++X) p t
 |_,_,.mk a b c d e=>.mk (FA a) b.app c d e
def uT.app{nh X:List HC}:∀{ps:List (Option Nat)} {ts:List Tm},uT nh ps ts->uT (nh++X) ps ts
 |_,_,.nil=>.nil|_,_,.cons a b=>.cons a.app b.app
end
def NE.kp{nh a:List HC}(h:Kp nh a):NE nh a:=by
 obtain⟨X,rfl⟩:=h;exact⟨λ_ _ h=>h.app,λ_ _ h=>IP h,λp x h=>⟨x.normal,FA h⟩⟩
def Hi{a0 a1:Int}{a2:Ty}{a3:List (Option Nat)}{nh:List HC}{F:Int->Option Nat->List HC->Option (gj (List HC) ((Option Nat)×List HC))}
  (hF:∀j q v x y,HC.er v nh.length=some x->HC.er v q=some y->HC.er (kE v nh.length (HC.eS (eR.mk x.ab9 x.aca x.pN x.ab_ (fk .i64 x.size y.size) x.free x.normal))) q=some y->F j (some q) v=some (.next (kE (kE v nh.length (HC.eS (eR.mk x.ab9 x.aca x.pN x.ab_ (fk .i64 x.size y.size) x.free x.normal))) nh.length (HC.eS (eR.mk x.ab9 x.aca x.pN x.ab_ (fk .i64 x.size y.size) (imax x.free y.free) x.normal))))):∀(ps:List (Option Nat)) (ts:List Tm) (i:Nat) (s:Nat) (f:Int),uT nh ps ts->s+eE Tm.ab' ts<=1000000000->fp F ps i (nh++[HC.eS (eR.mk a0 a1 a2 a3 s f false)])=some (.inl (nh++[HC.eS (eR.mk a0 a1 a2 a3 ((s+eE Tm.ab' ts:Nat):Int) (Tm.IH f ts) false)]))
 |_,_,i,s,f,.nil,_=>by simp[eE,Tm.IH]|_,_,i,s,f,.cons (p:=p) (t:=t) c d,e=>by
  rw[eE] at e;obtain⟨y,b,l,m,n,o,g,h,r⟩:=c.inv;have k:p<nh.length:=(pz.1 (HC.eA b)).1
  have a:fk .i64 (s:Int) (t.ab':Int)=((s+t.ab':Nat):Int):=by rw[fq (by omega) (by omega)];omega
  rw[fl,hF _ p _ _ y CN (FA b) (by rw[xU];exact FA b)];simp only[xU,cl,ft,g,h,a];rw[Hi hF _ _ (i+1) (s+t.ab') (imax f t.fr) d (by omega)];simp only[eE,Tm.IH,Sx]
def sD{k i:Int}{s:Ty}{ps:List (Option Nat)}{ts:List Tm}{nh:List HC}(h:uT nh ps ts)(hn:eE Tm.ab' ts<=100000000)(hi:0<=i/\i<=1000000000000)(p:∀t∈ts,0<=t.fr/\t.fr<=1000000000000):∃e,kx k i s ps nh=some (some nh.length,e)/\Kp nh e/\NR e nh.length (.mk k i s ts):=by
 have hlen:ps.length<=100000000:=by
  rw[h.len];exact C7 (Tm.fF ts) hn
 have w:0<=Tm.IH 0 ts/\Tm.IH 0 ts<=1000000000000:=⟨Tm.N3 ts 0,Tm.Ru (λt z=>(p t z).2) 0 (by omega)⟩;unfold kx;rw[eB (by omega)];simp only[eo,ez]
 have r:=Hi (a0:=k) (a1:=i) (a2:=s) (a3:=ps) (nh:=nh) (F:=λu l b=>
   cv (HC.er b (List.length nh)) λa=>
   cv (l) λd=>
   cv (HC.er b d) λc=>
   cv (HC.er (kE b (List.length nh) (HC.eS (eR.mk a.ab9 a.aca a.pN a.ab_ (fk .i64 a.size c.size) a.free a.normal))) d) λm=>
   some (.next (kE (kE b (List.length nh) (HC.eS (eR.mk a.ab9 a.aca a.pN a.ab_ (fk .i64 a.size c.size) a.free a.normal))) (List.length nh) (HC.eS (eR.mk a.ab9 a.aca a.pN a.ab_ (fk .i64 a.size c.size) (imax a.free m.free) a.normal)))))
  (by intro j q v x y n o A;simp only[n,o,A,cl]) ps ts 0 1 0 h (by omega)
 have B:((1:Nat):Int)=1:=rfl;rw[B] at r;rw[r];simp only[cl,ei,CN,xU]
 have g:((1+eE Tm.ab' ts:Nat):Int)=((Tm.mk k i s ts).ab':Int):=by rw[Tm.ef]
 have fin:∀f:Int,f=(Tm.mk k i s ts).fr->NR (nh++[HC.eS (eR.mk k i s ps ((1+eE Tm.ab' ts:Nat):Int) f false)]) nh.length (.mk k i s ts):=by
  intro f p;exact NR.of CN rfl rfl rfl h.app g p (by intro h;cases h)
 by_cases n:k=1
 ·subst n;refine⟨_,by rw[ee (by decide)],⟨_,rfl⟩,fin _ ?_⟩;rw[Tm.fr,ee rfl,fq (by omega) (by omega)]
 ·rw[ea (by simpa using n)]
  by_cases o:k=2
  ·subst o;refine⟨_,by rw[ee (by decide)],⟨_,rfl⟩,fin _ ?_⟩;rw[Tm.fr,ea (by decide),ee rfl,fH (by omega) (by omega)]
  ·refine⟨_,by rw[ea (by simpa using o)],⟨_,rfl⟩,fin _ ?_⟩;rw[Tm.fr,ea n,ea o]
def Rx{nh:List HC}{p:Nat}{x:eR}(h:HC.er nh p=some x):jb (some p) nh=some (gB x.ab9):=by
 unfold jb gB;simp only[cl,h,gw]
 split<;>rfl
def NE.below{nh a:List HC}{p:Nat}{x:eR}(he:NE nh a)(h:HC.er nh p=some x):jb (some p) a=some (gB x.ab9):=by
 obtain⟨b,e⟩:=he.get p x h;rw[Rx e]
def Bi{F:Int->Option Nat->List (Option Nat)×List HC->Option (gj (List (Option Nat)×List HC) ((Option Nat)×List HC))}(g:Tm->Tm)(Z5:List HC):∀(ts:List Tm)
  (_:∀t∈ts,∀p nh j v,Kp Z5 nh->NR nh p t->v.length+1<=1000000000->∃q a,F j (some p) (v,nh)=some (.next (v++[some q],a))/\Kp nh a/\NR a q (g t))
  (ps:List (Option Nat)) (i:Nat) (nh:List HC) (v:List (Option Nat)) (us:List Tm),Kp Z5 nh->uT nh ps ts->uT nh v us->v.length+ts.length<=1000000000->∃c a,fp F ps i (v,nh)=some (.inl (c,a))/\Kp nh a/\uT a c (us++ts.map g)
 |[],_,_,i,nh,v,us,_,.nil,d,_=>⟨v,nh,rfl,Kp.refl _,by simpa using d⟩|t::ts,hF,_,i,nh,v,us,h,.cons (p:=p) (ps:=ps) k l,d,m=>by
  simp only[ld] at m;obtain⟨q,e,n,f,o⟩:=hF t (by simp) p nh i v h k (by omega);have b:=NE.kp f;obtain⟨c,a,f1,f2,f3⟩:=Bi g Z5 ts (λt r=>hF t (by simp[r])) ps (i+1) e (v++[some q]) (us++[g t]) (h.trans f) (b.list l) ((b.list d).append (.cons o .nil)) (by simp;omega);refine⟨c,a,?_,f.trans f2,by simpa using f3⟩;rw[fl,n];simp only[cl,ft];exact f1
structure Sm (M:Int) (t:Tm):Prop where
 ok:t.ok=true
 ace:t.ace M=true
 ab':t.ab'<=1000000
def Sm.arg{M k i:Int}{s:Ty}{l:List Tm}(h:Sm M (.mk k i s l)):∀t∈l,Sm M t:=by
 intro t a;have b:=h.ace;have c:=h.ab';rw[Tm.fo] at b;simp only[gI,kF] at b;rw[Tm.ef] at c;exact⟨(Tm.l_ h.ok).2.2.2.1 t a,b.2 t a,by have:=eI Tm.ab' a;omega⟩
def Sm.idx{M k i:Int}{s:Ty}{l:List Tm}(h:Sm M (.mk k i s l)):0<=i/\i<=M:=by
 have a:=h.ace;rw[Tm.fo] at a;simp only[gI,nq] at a;exact⟨(Tm.l_ h.ok).2.1,a.1⟩
theorem Sm.fr{M:Int}{t:Tm}(h:Sm M t)(a:0<=M):0<=t.fr/\t.fr<=M+1:=Tm.RA t a h.ok h.ace
theorem Sm.mono{M N:Int}{t:Tm}(h:Sm M t)(hm:M<=N):Sm N t:=⟨h.ok,by
 have:∀t:Tm,t.ace M=true->t.ace N=true:=by
  intro t
  induction t using Tm.ind with
  |h k i s l b=>
   rw[Tm.fo,Tm.fo];simp only[gI,kF,nq]
   exactλ⟨d,c⟩=>⟨by omega,λx a=>b x a (c x a)⟩
 exact this t h.ace,h.ab'⟩
def Lt{M b:Int}(d:0<=b)(t:Tm):∀f,t.ace M=true->(t.up f b).ace (M+b)=true:=by
 induction t using Tm.ind with
 |h k i s l a=>
  intro f h;rw[Tm.fo] at h;simp only[gI,kF,nq] at h;rw[Tm.l7,Tm.fo];simp only[gI,kF,nq];refine⟨by split<;>omega,?_⟩;intro x c;obtain⟨y,hy,rfl⟩:=oy.1 c;exact a y hy _ (h.2 y hy)
def Sm.up{M f b:Int}{t:Tm}(h:Sm M t)(c:0<=f)(a:0<=b):Sm (M+b) (t.up f b):=
 ⟨by rw[Tm.Jd t f b c a];exact h.ok,Lt a t f h.ace,by rw[Tm.rj];exact h.ab'⟩
def Uq{M:Int}(U:0<=M/\M<=500000000000):∀(n:Nat) (t:Tm) (p:Nat) (nh:List HC) (f b:Int),t.ab'<=n->NR nh p t->Sm M t->0<=f->f+t.ab'<=500000000000->0<=b->b<=400000000000->∃Q a,jJ n (some p) f b nh=some (some Q,a)/\Kp nh a/\NR a Q (t.up f b):=by
 intro n
 induction n with
 |zero=>intro t p nh f b h;have:=t.eP;omega
 |succ n V=>
  intro t p nh f b hn w hs W z R A;obtain⟨x,B,m,C,D,E,e6,X,e8⟩:=w.inv;have Y:=hs.fr U.1;rw[jJ];simp only[ez,cl,B,X,Dd]
  by_cases r:t.fr<=f
  ·rw[ee r];exact⟨p,nh,rfl,Kp.refl _,by rw[Tm.UD t f b hs.ok W r];exact w⟩
  ·rw[ea r]
   by_cases S:b=0
   ·subst S;exact⟨p,nh,by simp,Kp.refl _,by rw[Tm.yp];exact w⟩
   ·rw[ea (by simpa using S)];cases t with
    |mk k i s l=>
     simp only[Tm.eN,Tm.gx,Tm.fw,Tm.eG] at m C D E;have T:=hs.idx;obtain⟨o1,o2,o3,o4,o5⟩:=Tm.l_ hs.ok
     by_cases G:k=1
     ·subst G;have Z:=o1 rfl;subst Z;rw[ee (by rw[m];rfl)]
      have H:f<=i:=by rw[Tm.fr,ee rfl] at r;omega
      obtain⟨a,g1,g2,g3⟩:=sD (k:=1) (i:=i+b) (s:=s) (ps:=[]) (ts:=[]) (nh:=nh) .nil (by simp[eE]) (by omega) (by simp);refine⟨nh.length,a,?_,g2,?_⟩
      ·rw[m,C,D,fq (by omega) (by omega),g1];rfl
      ·rw[Tm.l7,ee ⟨rfl,H⟩];exact g3
     ·rw[ea (by rw[m];simpa using G)]
      have aa:1+eE Tm.ab' l<=n+1:=by rw[Tm.ef] at hn;exact hn
      have hlen:=Tm.fF l;have I:=hs.ab';rw[Tm.ef] at I z;have ab:x.ab_.length=l.length:=E.len;rw[eB (by omega)];simp only[eo];have ad:=lH k
      obtain⟨v',a,g1,g2,g3⟩:=Bi (F:=λj J=>uv λc d=>
        cv (jb (some p) d) λo=>
        ek (jJ n J (fk .i64 f o) b d) λe g=>
        gS (gr c [e])<|some (.next ((gG c [e]),g))) (Tm.up (f+gB k) b) nh l (by
        intro t u q K j v L hq hv;have N:=hs.arg t u;have hm:=eI Tm.ab' u;obtain⟨q',O,a1,a2,a3⟩:=V t q K (f+gB k) b (by omega) hq N (by omega) (by omega) R A;refine⟨q',O,?_,a2,a3⟩;simp only[nb,(NE.kp L).below B,cl,m];rw[fq (by omega) (by omega),a1];simp only[eb];rw[fx (by simpa using hv)]
        rfl) x.ab_ 0 nh [] [] (Kp.refl _) E .nil (by simp;omega)
      rw[g1];simp only[cl,ei,nb];obtain⟨x2,c1⟩:=(NE.kp g2).get p x B;unfold gV;simp only[cl,c1]
      obtain⟨P,d1,d2,d3⟩:=sD (k:=k) (i:=i) (s:=s) (ps:=v') (ts:=l.map (Tm.up (f+gB k) b)) (nh:=a) (by simpa using g3) (by
       rw[qf,rJ λx _=>Tm.rj x _ _];omega) (by omega) (by
       intro t u;obtain⟨y,hy,rfl⟩:=oy.1 u;have:=((hs.arg y hy).up (f:=f+gB k) (b:=b) (by omega) R).fr (by omega)
       omega)
      refine⟨a.length,P,?_,g2.trans d2,?_⟩
      ·rw[m,C,D,d1];rfl
      ·rw[Tm.l7,ea (λh=>G h.1)];exact d3
def count_eq{M:Int}(P:0<=M/\M<=500000000000)(nh:List HC):∀(n:Nat) (t:Tm) (p:Nat) (a:Int),t.ab'<=n->NR nh p t->Sm M t->0<=a->a+t.ab'<=500000000000->kz n (some p) a nh=some (t.acg a:Int):=by
 intro n
 induction n with
 |zero=>intro t p a h;have:=t.eP;omega
 |succ n C=>
  intro t p a hn D hs E o;obtain⟨x,z,j,A,F,q,Q,G,R⟩:=D.inv;rw[kz];simp only[cl,z,G,Dd]
  by_cases r:t.fr<=a
  ·rw[ee r,Tm.Nl t a hs.ok E r];rfl
  ·rw[ea r];cases t with
   |mk k i s l=>
    simp only[Tm.eN,Tm.gx,Tm.fw,Tm.eG] at j A F q;obtain⟨o1,o2,S,T,U⟩:=Tm.l_ hs.ok
    by_cases v:k=1
    ·subst v;have H:=o1 rfl;subst H;rw[ee (by rw[j];rfl),Tm.gU,A];simp only[gw,eE]
     by_cases m:i=a
     ·rw[ee m,ee ⟨trivial,m⟩];rfl
     ·rw[ea m,ea (λh=>m h.2)];rfl
    ·rw[ea (by rw[j];simpa using v)];have w:=hs.ab';rw[Tm.ef] at w o hn;have hlen:=Tm.fF l;have I:x.ab_.length=l.length:=q.len;rw[eB (by omega)];simp only[eo,ez];have J:=lH k
     have loop:∀(ts:List Tm) (ps:List (Option Nat)) (i c:Nat),(∀t∈ts,t∈l)->uT nh ps ts->c+eE Tm.ab' ts<=1000000000->fp (λ(B:Int) (b:Option Nat)=>(λ(d:Int)=>
        cv (kz n b (a+gB k) nh) λe=>
        some ((.next (fk .i64 d e)):gj Int Int))) ps i (c:Int)=some (.inl ((c+eE (Tm.acg (a+gB k)) ts:Nat):Int)):=by
      intro ts
      induction ts with
      |nil=>intro ps i c _ h _;cases h;rfl
      |cons t ts y=>
       intro ps i c hm h K;cases h with
       |cons q1 L=>
        rw[eE] at K;have f:=hm t (by simp);have N:=eI Tm.ab' f;have O:=Tm.ji t (a+gB k);rw[fl];rw[C t _ _ (by omega) q1 (hs.arg t f) (by omega) (by omega)];simp only[cl];rw[fq (by omega) (by omega)];simp only[ft];have:=y _ (i+1) (c+t.acg (a+gB k)) (λu hu=>hm u (by simp[hu])) L (by omega);rw[show((c+t.acg (a+gB k):Nat):Int)=(c:Int)+(t.acg (a+gB k):Int) by omega] at this;rw[this];simp only[eE,Sx]
     have:=loop l x.ab_ 0 0 (λt h=>h) q (by omega);rw[show((0:Nat):Int)=0 from rfl] at this;have g:fk .i64 a (gB k)=a+gB k:=fq (by omega) (by omega);simp only[Rx z,cl,j,g];rw[this];simp only[cl,ei,uK];rw[Tm.gU,ea (λh=>v h.1),uK]
def JD{M N B:Int}(w:M<=B)(s:Tm)(hs:s.ace N=true)(t:Tm):∀n,0<=n->N+n+t.ab'<=B->t.ace M=true->t.ok=true->(Tm.jX n t s).ace B=true:=by
 induction t using Tm.ind with
 |h k i ty l f=>
  intro n hn g d p;have j:=d;rw[Tm.fo] at d;simp only[gI,kF,nq] at d;obtain⟨o1,o2,z,q,A⟩:=Tm.l_ p;rw[Tm.ot]
  have c:∀(u:Tm) {a b:Int},a<=b->u.ace a=true->u.ace b=true:=by
   intro u
   induction u using Tm.ind with
   |h k i s l f=>
    intro a b m;rw[Tm.fo,Tm.fo];simp only[gI,kF,nq]
    exactλ⟨C,r⟩=>⟨by omega,λx e=>f x e m (r x e)⟩
  have D:1<=(Tm.mk k i ty l).ab':=Tm.eP _
  by_cases o:k=1
  ·rw[ee o];unfold Tm.vy
   split
   ·exact c _ (by omega) (Lt hn s 0 hs)
   ·split
    ·rw[Tm.fo];simp;omega
    ·exact c _ (by omega) j
  ·rw[ea o,Tm.fo];simp only[gI,kF,nq];refine⟨by omega,?_⟩;intro x e;obtain⟨y,hy,rfl⟩:=oy.1 e;have v:=lH k;have hm:=eI Tm.ab' hy;rw[Tm.ef] at g;exact f y hy (n+gB k) (by omega) (by omega) (d.2 y hy) (q y hy)
def put_eq{M N:Int}(hM:0<=M/\M<=100000000000)(hN:0<=N/\N<=100000000000)(s:Tm)(d:Sm N s):∀(n:Nat) (t:Tm) (p q:Nat) (nh:List HC) (a:Int),t.ab'<=n->NR nh p t->NR nh q s->Sm M t->0<=a->a+t.ab'<=100000000000->t.ab'+t.acg a*s.ab'<=100000000->∃E b,kb n (some p) a (some q) nh=some (some E,b)/\Kp nh b/\NR b E (Tm.jX a t s):=by
 intro n
 induction n with
 |zero=>intro t p q nh a h;have:=t.eP;omega
 |succ n H=>
  intro t p q nh a hn X Y hs Z I z;obtain⟨x,J,w,K,L,O,e6,e7,e8⟩:=X.inv;rw[kb];simp only[cl,J,e7,Dd]
  by_cases o:t.fr<=a
  ·rw[ee o];exact⟨p,nh,rfl,Kp.refl _,by rw[Tm.Q4 s t a hs.ok Z o];exact X⟩
  ·rw[ea o];cases t with
   |mk k i ty l=>
    simp only[Tm.eN,Tm.gx,Tm.fw,Tm.eG] at w K L O;have aa:=hs.idx;obtain⟨o1,o2,o3,P,o5⟩:=Tm.l_ hs.ok
    by_cases G:k=1
    ·subst G;have hl:=o1 rfl;subst hl
     have ab:a<=i:=by rw[Tm.fr,ee rfl] at o;omega
     rw[ee (by rw[w];rfl),K];simp only[gw];rw[Tm.ot,ee rfl];unfold Tm.vy
     by_cases e:i=a
     ·rw[ee e,ee e];have A:=d.ab';obtain⟨E,b,g1,g2,g3⟩:=Uq (M:=N) (by omega) FU s q nh 0 a (by rw[fy];omega) Y d (by omega) (by omega) Z (by omega);exact⟨E,b,by rw[g1];rfl,g2,g3⟩
     ·rw[ea e,ea e,ee (by omega)];obtain⟨b,g1,g2,g3⟩:=sD (k:=1) (i:=i-1) (s:=ty) (ps:=[]) (ts:=[]) (nh:=nh) .nil (by simp[eE]) (by omega) (by simp);refine⟨nh.length,b,?_,g2,?_⟩
      ·rw[w,L,fH (by omega) (by omega),g1];rfl
      ·have hz:ty=.mk 0 []:=by
        have:=hs.ok;rw[Tm.h_] at this;simp only[gI,Tm.node] at this
        have h4:ty.rQ=true:=by simpa[kD] using this.1.2
        exact(Ty.mQ ty).1 h4
       rw[<-hz];exact g3
    ·rw[ea (by rw[w];simpa using G)];have A:=hs.ab';rw[Tm.ef] at A I hn;have hlen:=Tm.fF l;have ad:x.ab_.length=l.length:=O.len;rw[eB (by omega)];simp only[eo,ez];have ae:=lH k;rw[Tm.gU,ea (λh=>G h.1),uK,Tm.ef] at z
     have Q:∀t∈l,t.ab'+t.acg (a+gB k)*s.ab'<=100000000:=by
      intro t c;have o:=eI Tm.ab' c;have e:=eI (Tm.acg (a+gB k)) c;have h3:=KP s.ab' e;omega
     obtain⟨v',b,g1,g2,g3⟩:=Bi (F:=λj R=>uv λf g=>
       cv (jb (some p) g) λB=>
       ek (kb n R (fk .i64 a B) (some q) g) λm u=>
       gS (gr f [m])<|some (.next ((gG f [m]),u))) (λt=>Tm.jX (a+gB k) t s) nh l (by
       intro t c r S j v C T hv;have U:=hs.arg t c;have hm:=eI Tm.ab' c;obtain⟨q',V,a1,a2,a3⟩:=H t r q S (a+gB k) (by omega) T ((NE.kp C).node _ _ Y) U (by omega) (by omega) (Q t c);refine⟨q',V,?_,a2,a3⟩;simp only[nb,(NE.kp C).below J,cl,w];rw[fq (by omega) (by omega),a1];simp only[eb];rw[fx (by simpa using hv)]
       rfl) x.ab_ 0 nh [] [] (Kp.refl _) O .nil (by simp;omega)
     rw[g1];simp only[cl,ei,nb];obtain⟨x2,c1⟩:=(NE.kp g2).get p x J;unfold gV;simp only[cl,c1]
     have D:∀t∈l,(Tm.jX (a+gB k) t s).ab'<=t.ab'+t.acg (a+gB k)*s.ab':=by
      intro t c;have:=Tm.rT s t (a+gB k) (P t c);omega
     obtain⟨W,d1,d2,d3⟩:=sD (k:=k) (i:=i) (s:=ty) (ps:=v') (ts:=l.map (λt=>Tm.jX (a+gB k) t s)) (nh:=b) (by simpa using g3) (by
      rw[qf];have o:=kR D
      have e:∀l:List Tm,eE (λt=>t.ab'+t.acg (a+gB k)*s.ab') l=eE Tm.ab' l+eE (Tm.acg (a+gB k)) l*s.ab':=by
       intro l
       induction l with
       |nil=>simp[eE]|cons t l H=>simp only[eE,H,AD];omega
      rw[e] at o
      omega) (by omega) (by
      intro t c;obtain⟨y,hy,rfl⟩:=oy.1 c;have hm:=eI Tm.ab' hy;have:=Tm.RA (Tm.jX (a+gB k) y s) (M:=M+N+(a+gB k)+y.ab') (by omega) (Tm.Ti s d.ok y _ (by omega) (P y hy)) (JD (M:=M) (by omega) s d.ace y _ (by omega) (by omega) (hs.arg y hy).ace (P y hy))
      omega)
     refine⟨b.length,W,?_,g2.trans d2,?_⟩
     ·rw[w,K,L,d1];rfl
     ·rw[Tm.ot,ea G];exact d3
def uI(a b:Int):eH a b=decide (a=b):=by by_cases h:a=b<;>simp[eH,h]
def XL{α:Type}{l:List α}(h:l.length=1):∃a,l=[a]:=by
 match l,h with|[a],_=>exact⟨a,rfl⟩
def Ws{α:Type}{l:List α}(h:l.length=2):∃a b,l=[a,b]:=by
 match l,h with|[a,b],_=>exact⟨a,b,rfl⟩
def YJ{α:Type}{l:List α}(h:l.length=3):∃a b c,l=[a,b,c]:=by
 match l,h with|[a,b,c],_=>exact⟨a,b,c,rfl⟩
def uT.inv1{nh:List HC}{ps:List (Option Nat)}{a:Tm}(h:uT nh ps [a]):∃p,ps=[some p]/\NR nh p a:=by
 cases h with|cons b c=>cases c;exact⟨_,rfl,b⟩
def uT.inv2{nh:List HC}{ps:List (Option Nat)}{a b:Tm}(h:uT nh ps [a,b]):∃p q,ps=[some p,some q]/\NR nh p a/\NR nh q b:=by
 cases h with|cons c d=>obtain⟨q,rfl,e⟩:=d.inv1;exact⟨_,q,rfl,c,e⟩
def uT.MK{nh:List HC}{ps:List (Option Nat)}{a b c:Tm}(h:uT nh ps [a,b,c]):∃p q r,ps=[some p,some q,some r]/\NR nh p a/\NR nh q b/\NR nh r c:=by
 cases h with|cons d e=>obtain⟨q,r,rfl,f,g⟩:=e.inv2;exact⟨_,q,r,rfl,d,f,g⟩
def uT.aa0{nh:List HC}{ps:List (Option Nat)}(h:uT nh ps []):ps=[]:=by cases h;rfl
def Tm.wL{k i:Int}{s:Ty}{l:List Tm}(h:(Tm.mk k i s l).ok=true):(l.length:Int)=iM k:=(Tm.l_ h).2.2.2.2
def Tm.ok3{i:Int}{s:Ty}{l:List Tm}(h:(Tm.mk 3 i s l).ok=true):∃a b,l=[a,b]:=Ws (by have:=Tm.wL h;have e:iM 3=2:=rfl;omega)
def Tm.ok6{i:Int}{s:Ty}{l:List Tm}(h:(Tm.mk 6 i s l).ok=true):∃a b c,l=[a,b,c]:=YJ (by have:=Tm.wL h;have e:iM 6=3:=rfl;omega)
def Tm.ok9{i:Int}{s:Ty}{l:List Tm}(h:(Tm.mk 9 i s l).ok=true):∃a b c,l=[a,b,c]:=YJ (by have:=Tm.wL h;have e:iM 9=3:=rfl;omega)
def Tm.ok2{i:Int}{s:Ty}{l:List Tm}(h:(Tm.mk 2 i s l).ok=true):∃a,l=[a]:=XL (by have:=Tm.wL h;have e:iM 2=1:=rfl;omega)
def Tm.XX{k i:Int}{s:Ty}{l:List Tm}(b:k=11\/k=12)(h:(Tm.mk k i s l).ok=true):∃a,l=[a]:=XL (by
 have:=Tm.wL h;rcases b with rfl|rfl
 ·have e:iM 11=1:=rfl;omega
 ·have e:iM 12=1:=rfl;omega)
def Tm.abb{i:Int}{s:Ty}{l:List Tm}(h:(Tm.mk 10 i s l).ok=true):∃a b,l=[a,b]:=Ws (by have:=Tm.wL h;have e:iM 10=2:=rfl;omega)
def Tm.ok0{k i:Int}{s:Ty}{l:List Tm}(a:k=4\/k=7)(h:(Tm.mk k i s l).ok=true):l=[]:=CW (by
 have:=Tm.wL h;rcases a with rfl|rfl
 ·have e:iM 4=0:=rfl;omega
 ·have e:iM 7=0:=rfl;omega)
def Tm.ok5{i:Int}{s:Ty}{l:List Tm}(h:(Tm.mk 5 i s l).ok=true):∃a,l=[a]:=XL (by have:=Tm.wL h;have e:iM 5=1:=rfl;omega)
def Tm.ok8{i:Int}{s:Ty}{l:List Tm}(h:(Tm.mk 8 i s l).ok=true):∃a b,l=[a,b]:=Ws (by have:=Tm.wL h;have e:iM 8=2:=rfl;omega)
def Tm.Dh{k i:Int}{s:Ty}{l:List Tm}(h:(Tm.mk k i s l).ok=true):∀t∈l,t.ok=true:=(Tm.l_ h).2.2.2.1
inductive Tm.Rd:Tm->Prop
 |app {i s i' s' b a}:Tm.Rd (.mk 3 i s [.mk 2 i' s' [b],a])|zero {k ko i s i' s' b st}:(k=6/\ko=4\/k=9/\ko=7)->Tm.Rd (.mk k i s [b,st,.mk ko i' s' []])|succ {i s i' s' b st n}:Tm.Rd (.mk 6 i s [b,st,.mk 5 i' s' [n]])|cons {i s i' s' b st h t}:Tm.Rd (.mk 9 i s [b,st,.mk 8 i' s' [h,t]])|proj {k i s i' s' a b}:(k=11\/k=12)->Tm.Rd (.mk k i s [.mk 10 i' s' [a,b]])
def Tm.Jb{t:Tm}(d:t.ok=true)(h:t.root=true):t.Rd:=by
 cases t with
 |mk k i s l=>
  unfold Tm.root at h;simp only[pO,gI,nq] at h;rcases h with((⟨rfl,h⟩|⟨rfl,h⟩)|⟨rfl,h⟩)|⟨e,h⟩
  ·obtain⟨a,b,rfl⟩:=Tm.ok3 d;cases a with
   |mk k' f g j=>
    have e:k'=2:=by simpa[Tm.kd] using h
    subst e;obtain⟨q,rfl⟩:=Tm.ok2 (Tm.Dh d (.mk 2 f g j) (by simp));exact .app
  ·obtain⟨a,b,c,rfl⟩:=Tm.ok6 d;cases c with
   |mk k' f g j=>
    have e:k'=4\/k'=5:=by simpa[Tm.kd] using h
    have o:=Tm.Dh d (.mk k' f g j) (by simp);rcases e with rfl|rfl
    ·rw[Tm.ok0 (.inl rfl) o];exact .zero (.inl ⟨rfl,rfl⟩)
    ·obtain⟨n,rfl⟩:=Tm.ok5 o;exact .succ
  ·obtain⟨a,b,c,rfl⟩:=Tm.ok9 d;cases c with
   |mk k' f g j=>
    have e:k'=7\/k'=8:=by simpa[Tm.kd] using h
    have o:=Tm.Dh d (.mk k' f g j) (by simp);rcases e with rfl|rfl
    ·rw[Tm.ok0 (.inr rfl) o];exact .zero (.inr ⟨rfl,rfl⟩)
    ·obtain⟨n,m,rfl⟩:=Tm.ok8 o;exact .cons
  ·obtain⟨a,rfl⟩:=Tm.XX e d;cases a with
   |mk k' f g j=>
    have p:k'=10:=by simpa[Tm.kd] using h
    subst p;obtain⟨a,b,rfl⟩:=Tm.abb (Tm.Dh d (.mk 10 f g j) (by simp));exact .proj e
def MR{nh:List HC}{p:Nat}{t:Tm}(v:NR nh p t)(j:t.ok=true):mT (some p) nh=some t.root:=by
 obtain⟨x,w,r,A,B,f,C,D,E⟩:=v.inv;unfold mT;simp only[cl,w,ez];cases t with
 |mk k i s l=>
  simp only[Tm.eN,Tm.eG] at r f;rw[r];unfold Tm.root
  by_cases m:k=3
  ·subst m;obtain⟨a,b,rfl⟩:=Tm.ok3 j;obtain⟨pa,pb,e,g,u⟩:=f.inv2;obtain⟨y,f1,f2,_⟩:=g.inv;rw[ee (by decide),e];simp[eU,f1,f2,Tm.kd,uI]
  ·rw[ea (by simpa using m)]
   by_cases n:k=6
   ·subst n;obtain⟨a,b,c,rfl⟩:=Tm.ok6 j;obtain⟨pa,pb,z,e,g,u,o⟩:=f.MK;obtain⟨y,f1,f2,_⟩:=o.inv;rw[ee (by decide),e];simp only[jE,mP,jA,cl,f1,f2,Tm.kd,gw]
    by_cases h:c.ab9=4
    ·simp[h]
    ·simp[h,uI]<;>exact Zk.2 Iff.rfl
   ·rw[ea (by simpa using n)]
    by_cases q:k=9
    ·subst q;obtain⟨a,b,c,rfl⟩:=Tm.ok9 j;obtain⟨pa,pb,z,e,g,u,o⟩:=f.MK;obtain⟨y,f1,f2,_⟩:=o.inv;rw[ee (by decide),e];simp only[jE,mP,jA,cl,f1,f2,Tm.kd,gw]
     by_cases h:c.ab9=7
     ·simp[h]
     ·simp[h,uI]<;>exact Zk.2 Iff.rfl
    ·rw[ea (by simpa using q)]
     by_cases d:k=11\/k=12
     ·obtain⟨a,rfl⟩:=Tm.XX d j;obtain⟨pa,e,g⟩:=f.inv1;obtain⟨y,f1,f2,_⟩:=g.inv;rw[ee (by rcases d with rfl|rfl<;>rfl),e];simp only[eU,jA,cl,f1,f2,Tm.kd];rcases d with rfl|rfl<;>simp[uI]<;>exact Zk.2 Iff.rfl
     ·rw[ea (by simp only[la,pO,gw];exact d)];simp only[not_or] at d;simp[m,n,q,d.1,d.2]
theorem oX:∀(l:List Tm) (f:Tm),(mv f l).ab'=f.ab'+eE Tm.ab' l+l.length
 |[],f=>by simp[mv,eE]|a::l,f=>by
  rw[mv,oX l,Tm.ef];simp only[eE,ld];omega
def J8{M:Int}(C:0<=M/\M<=500000000000):∀(ts:List Tm) (ps:List (Option Nat)) (nh:List HC) (b:Nat) (f:Tm),uT nh ps ts->NR nh b f->(∀t∈ts,0<=t.fr/\t.fr<=M)->0<=f.fr/\f.fr<=M->f.ab'+eE Tm.ab' ts+ts.length<=10000000->∃c a,r6 (some b) ps nh=some (some c,a)/\Kp nh a/\NR a c (mv f ts):=by
 intro ts ps nh b f g h d j hn;have hlen:ps.length=ts.length:=g.len;unfold r6;rw[eB (by omega)];simp only[eo,ez]
 have loop:∀(ts:List Tm) (ps:List (Option Nat)) (i:Nat) (nh:List HC) (b:Nat) (f:Tm),uT nh ps ts->NR nh b f->(∀t∈ts,0<=t.fr/\t.fr<=M)->0<=f.fr/\f.fr<=M->f.ab'+eE Tm.ab' ts+ts.length<=10000000->∃c a,fp (λ(v:Int) (o:Option Nat)=>(uv λ(v171:Option Nat) (l:List HC)=>
    ek (kx 3 0 (Ty.mk 0 []) [v171,o] l) λm e=>some ((.next (m,e)):gj ((Option Nat)×List HC) ((Option Nat)×List HC)))) ps i (some b,nh)=some (.inl (some c,a))/\Kp nh a/\NR a c (mv f ts):=by
  intro ts
  induction ts with
  |nil=>
   intro ps i nh b f g h _ _ _;cases g;exact⟨b,nh,rfl,Kp.refl _,h⟩
  |cons t ts w=>
   intro ps i nh b f g h d j hn;cases g with
   |cons x y=>
    rename_i p ps;simp only[eE,ld] at hn;have D:=d t (by simp)
    obtain⟨q,a1,a2,a3⟩:=sD (k:=3) (i:=0) (s:=.mk 0 []) (ps:=[some b,some p]) (ts:=[f,t]) (nh:=nh) (.cons h (.cons x .nil)) (by simp[eE];omega) (by omega) (by
     intro u hu;simp only[ma,xg,Zf] at hu
     rcases hu with rfl|rfl<;>omega)
    have r:=NE.kp a2
    have n:0<=(Tm.mk 3 0 (.mk 0 []) [f,t]).fr/\(Tm.mk 3 0 (.mk 0 []) [f,t]).fr<=M:=by
     rw[Tm.fr,ea (by decide),ea (by decide)];simp only[Tm.IH,tu];omega
    obtain⟨c,a,z,A,B⟩:=w ps (i+1) q nh.length (.mk 3 0 (.mk 0 []) [f,t]) (r.list y) a3 (λu hu=>d u (by simp[hu])) n (by
     rw[Tm.ef];simp only[eE];omega)
    refine⟨c,a,?_,a2.trans A,B⟩;rw[fl];simp only[nb,a1,eb,cl,ft];exact z
 obtain⟨c,a,a1,a2,a3⟩:=loop ts ps 0 nh b f g h d j hn;rw[a1];exact⟨c,a,rfl,a2,a3⟩
def NT{α:Type}(a:α):eJ [a] (fD .i64 (eM [a]) 1)=some a:=by
 have:fD .i64 (eM [a]) 1=0:=by simp only[fR,ld,um];decide
 rw[this];rfl
def Oe{α:Type}(a b:α):eJ [a,b] (fD .i64 (eM [a,b]) 1)=some b:=by
 have:fD .i64 (eM [a,b]) 1=1:=by simp only[fR,ld,um];decide
 rw[this];rfl
def EJ{M:Int}(hM:0<=M/\M<=90000000000){nh:List HC}{p:Nat}{t:Tm}(hr:NR nh p t)(hs:Sm M t)(hn:t.ab'<=8192)(F:t.root=true):∃R l,jf (some p) nh=some (some R,l)/\Kp nh l/\NR l R t.gp:=by
 have U:=Tm.Jb hs.ok F;obtain⟨x,V,g,S,T,w,e6,e7,e8⟩:=hr.inv;unfold jf;simp only[cl,V];have e:∀u:Tm,Sm M u->0<=u.fr/\u.fr<=M+1:=λu hu=>hu.fr hM.1;cases U with
 |app=>
  rename_i i s z A b a;simp only[Tm.eN,Tm.eG] at g w;obtain⟨pf,pa,B,W,X⟩:=w.inv2;obtain⟨y,f1,f2,f3,f4,f5,_⟩:=W.inv;simp only[Tm.eN,Tm.eG] at f2 f5;obtain⟨pb,C,D⟩:=f5.inv1;have Y:=hs.arg (.mk 2 z A [b]) (by simp);have Z:=hs.arg a (by simp);have m:=Y.arg b (by simp);rw[Tm.ef] at hn;simp only[eE,Tm.ef] at hn;have af:=Tm.ji b 0;have hmul:b.acg 0*a.ab'<=8192*8192:=T1 (by omega) (by omega);obtain⟨R,l,g1,g2,g3⟩:=put_eq (M:=M) (N:=M) (by omega) (by omega) a Z FU b pb pa nh 0 (by rw[fy];omega) D X m (by omega) (by omega) (by omega);refine⟨R,l,?_,g2,g3⟩;rw[g,ee (by decide),B];simp only[eU,gz,jA,mP,cl,f1,C,g1,eb]
 |proj hk=>
  rename_i k i s z A a b;simp only[Tm.eN,Tm.eG] at g w;obtain⟨pf,B,W⟩:=w.inv1;obtain⟨y,f1,f2,f3,f4,f5,_⟩:=W.inv;simp only[Tm.eN,Tm.eG] at f2 f5;obtain⟨pa,pb,C,X,D⟩:=f5.inv2;rcases hk with rfl|rfl
  ·refine⟨pa,nh,?_,Kp.refl _,by simpa[Tm.gp] using X⟩;rw[g,ea (by decide),ee (by decide),B];simp only[eU,jA,cl,f1,C]
  ·refine⟨pb,nh,?_,Kp.refl _,by simpa[Tm.gp] using D⟩;rw[g,ea (by decide),ea (by decide),ee (by decide),B];simp only[eU,gz,jA,mP,cl,f1,C]
 |zero hk=>
  rename_i k ko i s z A b st;simp only[Tm.eN,Tm.eG] at g w;obtain⟨pb,ps,po,B,D,j,L⟩:=w.MK;obtain⟨y,f1,f2,f3,f4,f5,_⟩:=L.inv;simp only[Tm.eN,Tm.eG] at f2 f5;have O:=f5.aa0;refine⟨pb,nh,?_,Kp.refl _,?_⟩
  ·have f:k≠3/\k≠11/\k≠12:=by omega
   rw[g,ea (by simpa using f.1),ea (by simpa using f.2.1),ea (by simpa using f.2.2),B];simp only[eU,gz,jE,jA,mP,cl,f1,O];rfl
  ·have:(Tm.mk k i s [b,st,.mk ko z A []]).gp=b:=by
    have f:k≠3/\k≠11/\k≠12:=by omega
    simp[Tm.gp,f.1,f.2.1,f.2.2]
   rw[this];exact D
 |succ=>
  rename_i i s z A b st n;simp only[Tm.eN,Tm.eG,Tm.gx,Tm.fw] at g S T w;obtain⟨pb,ps,po,B,D,j,L⟩:=w.MK;obtain⟨y,f1,f2,f3,f4,f5,_⟩:=L.inv;simp only[Tm.eN,Tm.eG] at f2 f5;obtain⟨P,o,q⟩:=f5.inv1;have m:=hs.arg b (by simp);have G:=hs.arg st (by simp);have E:=hs.arg (.mk 5 z A [n]) (by simp);have H:=E.arg n (by simp);rw[Tm.ef] at hn;simp only[eE,Tm.ef] at hn;have Q:=hs.idx;have b1:=e b m;have b2:=e st G;have b3:=e n H
  obtain⟨I,a1,a2,a3⟩:=sD (k:=6) (i:=i) (s:=s) (ps:=[some pb,some ps,some P]) (ts:=[b,st,n]) (nh:=nh) (.cons D (.cons j (.cons q .nil))) (by simp[eE];omega) (by omega) (by
   intro u hu;simp only[ma,xg,Zf] at hu
   rcases hu with rfl|rfl|rfl<;>omega)
  have d:=NE.kp a2;obtain⟨c,fc⟩:=d.get _ _ f1;obtain⟨p2,J,d1,d2,d3⟩:=J8 (M:=M+1) (by omega) [n] [some P] I ps st (.cons (d.node _ _ q) .nil) (d.node _ _ j) (by intro u hu;simp only[ma,xg,Zf] at hu;subst hu;omega) (by omega) (by simp[eE];omega)
  have r:0<=(Tm.mk 6 i s [b,st,n]).fr/\(Tm.mk 6 i s [b,st,n]).fr<=M+1:=by
   rw[Tm.fr,ea (by decide),ea (by decide)];simp only[Tm.IH,tu];omega
  have v:0<=(mv st [n]).fr/\(mv st [n]).fr<=M+1:=by
   simp only[mv];rw[Tm.fr,ea (by decide),ea (by decide)];simp only[Tm.IH,tu];omega
  have aa:(Tm.mk 6 i s [b,st,n]).ab'<=10000:=by rw[Tm.ef];simp only[eE];omega
  have ab:(mv st [n]).ab'<=10000:=by rw[oX];simp only[eE,ld,um];omega
  obtain⟨p3,K,g1,g2,g3⟩:=J8 (M:=M+1) (by omega) [.mk 6 i s [b,st,n]] [some nh.length] J p2 (mv st [n]) (.cons ((NE.kp d2).node _ _ a3) .nil) d3 (by intro u hu;simp only[ma,xg,Zf] at hu;subst hu;exact r) v (by simp only[eE,ld,um];omega);refine⟨p3,K,?_,(a2.trans d2).trans g2,?_⟩
  ·rw[g,ea (by decide),ea (by decide),ea (by decide),B];simp only[eU,gz,jE,jA,mP,cl,f1,o];rw[ea (by simp only[fR,ld,um];decide),NT];unfold gV;simp only[cl,V,g,S,T,a1,eb,fc,o,d1,g1]
  ·have:(Tm.mk 6 i s [b,st,.mk 5 z A [n]]).gp=mv (mv st [n]) [.mk 6 i s [b,st,n]]:=by simp[Tm.gp,mv]
   rw[this];exact g3
 |cons=>
  rename_i i s z A b st h n;simp only[Tm.eN,Tm.eG,Tm.gx,Tm.fw] at g S T w;obtain⟨pb,ps,po,B,D,j,L⟩:=w.MK;obtain⟨y,f1,f2,f3,f4,f5,_⟩:=L.inv;simp only[Tm.eN,Tm.eG] at f2 f5;obtain⟨ph,P,o,ad,q⟩:=f5.inv2;have m:=hs.arg b (by simp);have G:=hs.arg st (by simp);have E:=hs.arg (.mk 8 z A [h,n]) (by simp);have H:=E.arg n (by simp);have ae:=E.arg h (by simp);rw[Tm.ef] at hn;simp only[eE,Tm.ef] at hn;have Q:=hs.idx;have b1:=e b m;have b2:=e st G;have b3:=e n H;have b4:=e h ae
  obtain⟨I,a1,a2,a3⟩:=sD (k:=9) (i:=i) (s:=s) (ps:=[some pb,some ps,some P]) (ts:=[b,st,n]) (nh:=nh) (.cons D (.cons j (.cons q .nil))) (by simp[eE];omega) (by omega) (by
   intro u hu;simp only[ma,xg,Zf] at hu
   rcases hu with rfl|rfl|rfl<;>omega)
  have d:=NE.kp a2;obtain⟨c,fc⟩:=d.get _ _ f1;obtain⟨p2,J,d1,d2,d3⟩:=J8 (M:=M+1) (by omega) [h,n] [some ph,some P] I ps st (.cons (d.node _ _ ad) (.cons (d.node _ _ q) .nil)) (d.node _ _ j) (by intro u hu;simp only[ma,xg,Zf] at hu;rcases hu with rfl|rfl<;>omega) (by omega) (by simp[eE];omega)
  have r:0<=(Tm.mk 9 i s [b,st,n]).fr/\(Tm.mk 9 i s [b,st,n]).fr<=M+1:=by
   rw[Tm.fr,ea (by decide),ea (by decide)];simp only[Tm.IH,tu];omega
  have v:0<=(mv st [h,n]).fr/\(mv st [h,n]).fr<=M+1:=by
   simp only[mv];rw[Tm.fr,ea (by decide),ea (by decide)];simp only[Tm.IH];rw[Tm.fr,ea (by decide),ea (by decide)];simp only[Tm.IH,tu];omega
  have aa:(Tm.mk 9 i s [b,st,n]).ab'<=10000:=by rw[Tm.ef];simp only[eE];omega
  have ab:(mv st [h,n]).ab'<=10000:=by rw[oX];simp only[eE,ld,um];omega
  obtain⟨p3,K,g1,g2,g3⟩:=J8 (M:=M+1) (by omega) [.mk 9 i s [b,st,n]] [some nh.length] J p2 (mv st [h,n]) (.cons ((NE.kp d2).node _ _ a3) .nil) d3 (by intro u hu;simp only[ma,xg,Zf] at hu;subst hu;exact r) v (by simp only[eE,ld,um];omega);refine⟨p3,K,?_,(a2.trans d2).trans g2,?_⟩
  ·rw[g,ea (by decide),ea (by decide),ea (by decide),B];simp only[eU,gz,jE,jA,mP,cl,f1,o];rw[ea (by simp only[fR,ld,um];decide),Oe];unfold gV;simp only[cl,V,g,S,T,a1,eb,fc,o,d1,g1]
  ·have:(Tm.mk 9 i s [b,st,.mk 8 z A [h,n]]).gp=mv (mv st [h,n]) [.mk 9 i s [b,st,n]]:=by simp[Tm.gp,mv]
   rw[this];exact g3
def Fa:∀(n:Nat) (t:Ty),t.ab'<=n->t.ab'<=1000000000->kV n t=some t:=by
 intro n
 induction n with
 |zero=>intro t h;have:=t.eP;omega
 |succ n a=>
  intro t h b;cases t with
  |mk k l=>
   rw[Ty.ef] at h b;have e:=Ty.fF l;rw[kV];simp only[Ty.eG,Ty.eN,ez,eB (l:=l) (by omega),eo];rw[jz id l 0 [] (by simp;omega)]
   ·simp
   ·intro j x v c d;have:=eI Ty.ab' c;rw[a x (by omega) (by omega)];simp[fx (l:=v) (m:=[x]) (by simpa using d)]
def pK{t:Ty}(h:t.ab'<=1000000000):kV FU t=some t:=Fa FU t (by rw[fy];exact h) h
def Ty.wY{k i:Int}{s:Ty}{n:Nat}(h:Tm.node k i s n=true):s.ab'<=64:=by
 unfold Tm.node at h;simp only[gI] at h;have a:=h.2
 by_cases b:kD k=true
 ·rw[ee b] at a;simp only[nq] at a;unfold Ty.err at a
  split at a
  ·split at a
   ·omega
   ·omega
  ·omega
 ·rw[ea b] at a;rw[(Ty.mQ s).1 a,Ty.ef];simp[eE]
def UB{M:Int}(C:0<=M/\M<=500000000000):∀(n:Nat) (t:Tm) (nh:List HC),t.ab'<=n->Sm M t->∃p a,p8 n t nh=some (some p,a)/\Kp nh a/\NR a p t:=by
 intro n
 induction n with
 |zero=>intro t nh h;have:=t.eP;omega
 |succ n D=>
  intro t nh h hs;cases t with
  |mk k i s l=>
   have m:=hs.ab';have A:=hs.idx;rw[Tm.ef] at h m;have hlen:=Tm.fF l;rw[p8];simp only[Tm.eG,Tm.eN,Tm.gx,Tm.fw,ez,eB (l:=l) (by omega),eo]
   have loop:∀(ts:List Tm) (i:Nat) (nh:List HC) (v:List (Option Nat)) (us:List Tm),(∀t∈ts,t∈l)->uT nh v us->v.length+ts.length<=1000000->∃e a,fp (λ(B:Int) (f:Tm)=>(uv λ(b:(List (Option Nat))) (g:List HC)=>
      ek (p8 n f g) λc d=>
      gS (gr b [c])<|some ((.next ((gG b [c]),d)):gj ((List (Option Nat))×List HC) ((Option Nat)×List HC)))) ts i (v,nh)=some (.inl (e,a))/\Kp nh a/\uT a e (us++ts):=by
    intro ts
    induction ts with
    |nil=>intro i nh v us _ o _;exact⟨v,nh,rfl,Kp.refl _,by simpa using o⟩|cons t ts q=>
     intro i nh v us hm o E;simp only[ld] at E;have j:=hm t (by simp);have F:=eI Tm.ab' j;obtain⟨p,r,a1,a2,a3⟩:=D t nh (by omega) (hs.arg t j);obtain⟨e,a,w,x,y⟩:=q (i+1) r (v++[some p]) (us++[t]) (λu hu=>hm u (by simp[hu])) (((NE.kp a2).list o).append (.cons a3 .nil)) (by simp;omega);refine⟨e,a,?_,a2.trans x,by simpa using y⟩;rw[fl];simp only[nb,a1,eb];rw[fx (by simp;omega)];simp only[eo,gY,cl,ft];exact w
   obtain⟨e,a,a1,a2,a3⟩:=loop l 0 nh [] [] (λt h=>h) .nil (by simp;omega);rw[a1];simp only[cl,ei,nb]
   obtain⟨z,w,x,y⟩:=sD (k:=k) (i:=i) (s:=s) (ps:=e) (ts:=l) (nh:=a) (by simpa using a3) (by omega) (by omega) (by
    intro t G;have:=(hs.arg t G).fr C.1
    omega)
   exact⟨a.length,z,by rw[w];rfl,a2.trans x,y⟩
def OX{M:Int}(nh:List HC):∀(n:Nat) (t:Tm) (p:Nat),t.ab'<=n->Sm M t->NR nh p t->iW n (some p) nh=some t:=by
 intro n
 induction n with
 |zero=>intro t p h;have:=t.eP;omega
 |succ n w=>
  intro t p h hs y;obtain⟨x,z,m,o,q,f,F,G,H⟩:=y.inv;cases t with
  |mk k i s l=>
   simp only[Tm.eN,Tm.eG,Tm.gx,Tm.fw] at m o q f;have g:=hs.ab';rw[Tm.ef] at h g;have hlen:=Tm.fF l;have A:x.ab_.length=l.length:=f.len;have c:=hs.ok;rw[Tm.h_,gI] at c;have B:=Ty.wY c.1;rw[iW];simp only[cl,z,m,o,q,ez,eB (l:=x.ab_) (by omega),eo];rw[pK (by omega)];simp only[cl]
   have loop:∀(ts:List Tm) (ps:List (Option Nat)) (i:Nat) (v:List Tm),(∀t∈ts,t∈l)->uT nh ps ts->v.length+ts.length<=1000000->fp (λ(r:Int) (d:Option Nat)=>(λ(a:List Tm)=>
      cv (iW n d nh) λb=>
      gS (gr a [b])<|some ((.next (gG a [b])):gj (List Tm) Tm))) ps i v=some (.inl (v++ts)):=by
    intro ts
    induction ts with
    |nil=>intro ps i v _ h _;cases h;simp
    |cons t ts j=>
     intro ps i v hm h C;simp only[ld] at C;have e:=hm t (by simp);have D:=eI Tm.ab' e;cases h with
     |cons q1 E=>
      rw[fl,w t _ (by omega) (hs.arg t e) q1];simp only[cl];rw[fx (by simp;omega)];simp only[eo,cl,ft];rw[j _ (i+1) (gG v [t]) (λu hu=>hm u (by simp[hu])) E (by rw[z7];simp;omega)];simp
   rw[loop l x.ab_ 0 [] (λt h=>h) f (by simp;omega)];simp
mutual
def NR.ZC{nh:List HC}:∀{p:Nat} {t u:Tm},NR nh p t->NR nh p u->t=u
 |_,_,_,.mk (x:=x) a b _ _ _,.mk (x:=y) g1 g2 _ _ _=>by
  rw[a] at g1;obtain rfl:=iy g1;rw[uT.ZC b g2]
def uT.ZC{nh:List HC}:∀{ps:List (Option Nat)} {ts us:List Tm},uT nh ps ts->uT nh ps us->ts=us
 |_,_,_,.nil,.nil=>rfl|_,_,_,.cons a b,.cons g1 g2=>by rw[NR.ZC a g1,uT.ZC b g2]
end
def NE.flag{nh:List HC}{p:Nat}{t:Tm}{x:eR}(w:NR nh p t)(r:HC.er nh p=some x)(g:t.nf=true):NE nh (kE nh p (HC.eS {x with normal:=true})):=by
 have v:=HC.eA r;have j:=(pz.1 v).1
 have e:HC.er (kE nh p (HC.eS {x with normal:=true})) p=some {x with normal:=true}:=by
  unfold HC.er kE;simp[j]
 have a:∀q,q≠p->(kE nh p (HC.eS {x with normal:=true}))[q]?=nh[q]?:=by
  intro q c;unfold kE;rw[Ud (λh=>c h.symm)]
 have d:∀q y,HC.er nh q=some y->∃b,HC.er (kE nh p (HC.eS {x with normal:=true})) q=some {y with normal:=b}/\(b=true->y.normal=true\/q=p):=by
  intro q y hy
  by_cases c:q=p
  ·subst c;rw[r] at hy;obtain rfl:=iy hy;exact⟨true,e,λ_=>.inr rfl⟩
  ·refine⟨y.normal,?_,λh=>.inl h⟩;have:=a q c;unfold HC.er at hy|-;rw[this];exact hy
 have key:∀n,(∀q u,u.ab'<=n->NR nh q u->NR (kE nh p (HC.eS {x with normal:=true})) q u):=by
  intro n
  induction n with
  |zero=>intro q u h;have:=u.eP;omega
  |succ n z=>
   intro q u hu c;obtain⟨y,A,B,C,D,E,F,G,H⟩:=c.inv;obtain⟨b,f1,f2⟩:=d q y A
   have f:∀(ts:List Tm) (ps:List (Option Nat)),(∀t∈ts,t.ab'<=n)->uT nh ps ts->uT (kE nh p (HC.eS {x with normal:=true})) ps ts:=by
    intro ts
    induction ts with
    |nil=>intro ps _ h;cases h;exact .nil
    |cons t ts m=>
     intro ps hm h;cases h with
     |cons g1 g2=>exact .cons (z _ _ (hm t (by simp)) g1) (m _ (λu hu=>hm u (by simp[hu])) g2)
   refine NR.of f1 B C D (f _ _ ?_ E) F G ?_
   ·intro t I;cases u with
    |mk k i s l=>
     rw[Tm.ef] at hu;have:=eI Tm.ab' I;simp only[Tm.eG] at this;omega
   ·intro J;rcases f2 J with h|h
    ·exact H h
    ·subst h;rw[<-NR.ZC w c];exact g
 refine⟨λq u h=>key _ q u (jo _) h,?_,λq y h=>?_⟩
 ·intro q st c
  have o:q≠p:=by
   rintro rfl;have:=HC.gW c;rw[v] at this;cases this
  unfold HC.fu at c|-;rw[a q o];exact c
 ·obtain⟨b,K,_⟩:=d q y h;exact⟨b,K⟩
mutual
def Tm.Jk(room:Int):Tm->Option (Option Tm)
 |.mk k i s l=>if(Tm.mk k i s l).root=true then(if((Tm.mk k i s l).gp.ab':Int)-((Tm.mk k i s l).ab':Int)>room then none else some (some (Tm.mk k i s l).gp))
  else match Tm.sP room l with
   |none=>none|some none=>some none|some (some a)=>some (some (.mk k i s a))
def Tm.sP(room:Int):List Tm->Option (Option (List Tm))
 |[]=>some none|t::l=>match t.Jk room with
  |none=>none|some (some a)=>some (some (a::l))|some none=>match Tm.sP room l with
   |none=>none|some none=>some none|some (some b)=>some (some (t::b))
end
def Lc:∀(l:List Tm) (f:Tm),f.ok=true->(∀t∈l,t.ok=true)->(mv f l).ok=true
 |[],f,h,_=>h|a::l,f,h,b=>by
  rw[mv];refine Lc l _ ?_ λt d=>b t (by simp[d]);rw[Tm.h_];simp only[gI,kF];refine⟨rfl,?_⟩;intro x c;simp only[ma,xg,Zf] at c;rcases c with rfl|rfl
  ·exact h
  ·exact b _ (by simp)
def BN{M:Int}(b:0<=M):∀(l:List Tm) (f:Tm),f.ace M=true->(∀t∈l,t.ace M=true)->(mv f l).ace M=true
 |[],f,h,_=>h|a::l,f,h,c=>by
  rw[mv];refine BN b l _ ?_ λt e=>c t (by simp[e]);rw[Tm.fo];simp only[gI,kF,nq];refine⟨b,?_⟩;intro x d;simp only[ma,xg,Zf] at d;rcases d with rfl|rfl
  ·exact h
  ·exact c _ (by simp)
def Tm.KD{k i:Int}{s:Ty}{l m:List Tm}(h:(Tm.mk k i s l).ok=true)(a:m.length=l.length)(hm:∀t∈m,t.ok=true):(Tm.mk k i s m).ok=true:=by
 rw[Tm.h_] at h|-;simp only[gI,kF] at h|-;rw[a];exact⟨h.1,hm⟩
def Tm.Ba{M k i:Int}{s:Ty}{l m:List Tm}(h:(Tm.mk k i s l).ace M=true)(hm:∀t∈m,t.ace M=true):(Tm.mk k i s m).ace M=true:=by
 rw[Tm.fo] at h|-;simp only[gI,kF,nq] at h|-;exact⟨h.1,hm⟩
def SW{M:Int}(B:0<=M){t:Tm}(hs:Sm M t)(hn:t.ab'<=8192)(z:t.root=true):t.gp.ok=true/\t.gp.ace (M+8192)=true:=by
 have v:=Tm.Jb hs.ok z;have up:∀u,Sm M u->u.ace (M+8192)=true:=λu hu=>(hu.mono (by omega)).ace;cases v with
 |app=>
  rename_i i s d f b a;have w:=hs.arg (.mk 2 d f [b]) (by simp);have p:=hs.arg a (by simp);have l:=w.arg b (by simp);rw[Tm.ef] at hn;simp only[eE,Tm.ef] at hn
  have e:(Tm.mk 3 i s [.mk 2 d f [b],a]).gp=Tm.jX 0 b a:=by simp[Tm.gp]
  rw[e];exact⟨Tm.Ti a p.ok b 0 (by omega) l.ok,JD (M:=M) (N:=M) (by omega) a p.ace b 0 (by omega) (by omega) l.ace l.ok⟩
 |proj x=>
  rename_i k i s d f a b;have q:=hs.arg (.mk 10 d f [a,b]) (by simp);rcases x with rfl|rfl
  ·have:=q.arg a (by simp);simpa[Tm.gp] using And.intro this.ok (up _ this)
  ·have:=q.arg b (by simp);simpa[Tm.gp] using And.intro this.ok (up _ this)
 |zero x=>
  rename_i k A i s d f b st
  have m:k≠3/\k≠11/\k≠12:=by omega
  have:(Tm.mk k i s [b,st,.mk A d f []]).gp=b:=by simp[Tm.gp,m.1,m.2.1,m.2.2]
  rw[this];have:=hs.arg b (by simp);exact⟨this.ok,up _ this⟩
 |succ=>
  rename_i i s d f b st n;have r:=hs.arg b (by simp);have g:=hs.arg st (by simp);have j:=(hs.arg (.mk 5 d f [n]) (by simp)).arg n (by simp)
  have e:(Tm.mk 6 i s [b,st,.mk 5 d f [n]]).gp=mv st [n,.mk 6 i s [b,st,n]]:=by simp[Tm.gp,mv]
  rw[e];have o:(Tm.mk 6 i s [b,st,n]).ok=true:=Tm.KD hs.ok rfl (by intro t c;simp only[ma,xg,Zf] at c;rcases c with rfl|rfl|rfl;all_goals first|exact r.ok|exact g.ok|exact j.ok);have hle:(Tm.mk 6 i s [b,st,n]).ace (M+8192)=true:=Tm.Ba (hs.mono (by omega)).ace (by intro t c;simp only[ma,xg,Zf] at c;rcases c with rfl|rfl|rfl;all_goals first|exact up _ r|exact up _ g|exact up _ j);refine⟨Lc _ _ g.ok ?_,BN (by omega) _ _ (up _ g) ?_⟩<;>
  ·intro t c;simp only[ma,xg,Zf] at c;rcases c with rfl|rfl
   ·first|exact j.ok|exact up _ j
   ·first|exact o|exact hle
 |cons=>
  rename_i i s d f b st h n;have r:=hs.arg b (by simp);have g:=hs.arg st (by simp);have j:=(hs.arg (.mk 8 d f [h,n]) (by simp)).arg n (by simp);have y:=(hs.arg (.mk 8 d f [h,n]) (by simp)).arg h (by simp)
  have e:(Tm.mk 9 i s [b,st,.mk 8 d f [h,n]]).gp=mv st [h,n,.mk 9 i s [b,st,n]]:=by simp[Tm.gp,mv]
  rw[e];have o:(Tm.mk 9 i s [b,st,n]).ok=true:=Tm.KD hs.ok rfl (by intro t c;simp only[ma,xg,Zf] at c;rcases c with rfl|rfl|rfl;all_goals first|exact r.ok|exact g.ok|exact j.ok);have hle:(Tm.mk 9 i s [b,st,n]).ace (M+8192)=true:=Tm.Ba (hs.mono (by omega)).ace (by intro t c;simp only[ma,xg,Zf] at c;rcases c with rfl|rfl|rfl;all_goals first|exact up _ r|exact up _ g|exact up _ j);refine⟨Lc _ _ g.ok ?_,BN (by omega) _ _ (up _ g) ?_⟩<;>
  ·intro t c;simp only[ma,xg,Zf] at c;rcases c with rfl|rfl|rfl
   ·first|exact y.ok|exact up _ y
   ·first|exact j.ok|exact up _ j
   ·first|exact o|exact hle
def Tm.Bu(room k i:Int)(s:Ty)(l:List Tm):(Tm.mk k i s l).Jk room=if(Tm.mk k i s l).root=true then(if((Tm.mk k i s l).gp.ab':Int)-((Tm.mk k i s l).ab':Int)>room then none else some (some (Tm.mk k i s l).gp))
 else match Tm.sP room l with
  |none=>none|some none=>some none|some (some a)=>some (some (.mk k i s a)):=by rw[Tm.Jk]
def Kl{M room:Int}(o:0<=M)(t:Tm):Sm M t->t.ab'<=8192->∀e,t.Jk room=some (some e)->e.ok=true/\e.ace (M+8192)=true/\(e.ab':Int)<=t.ab'+room:=by
 induction t using Tm.ind with
 |h k i s l p=>
  intro hs hn e h;rw[Tm.Bu] at h
  by_cases f:(Tm.mk k i s l).root=true
  ·rw[ee f] at h
   split at h
   ·cases h
   ·obtain rfl:=iy (iy h);obtain⟨q,r⟩:=SW o hs hn f;exact⟨q,r,by omega⟩
  ·rw[ea f] at h;have up:∀u,Sm M u->u.ace (M+8192)=true:=λu hu=>(hu.mono (by omega)).ace;have g:=hn;rw[Tm.ef] at g
   have w:∀(ts a:List Tm),(∀t∈ts,t∈l)->Tm.sP room ts=some (some a)->a.length=ts.length/\(∀t∈a,t.ok=true/\t.ace (M+8192)=true)/\(eE Tm.ab' a:Int)<=eE Tm.ab' ts+room:=by
    intro ts
    induction ts with
    |nil=>intro a _ h;rw[Tm.sP] at h;cases h
    |cons t ts j=>
     intro a hm h;rw[Tm.sP] at h;have b:=hm t (by simp);have x:=eI Tm.ab' b;have c:=hs.arg t b
     split at h
     ·cases h
     ·rename_i u hu;obtain rfl:=iy (iy h);obtain⟨a1,a2,a3⟩:=p t b c (by omega) u hu;refine⟨rfl,?_,by simp only[eE];omega⟩;intro v hv;rcases ma.1 hv with rfl|hv
      ·exact⟨a1,a2⟩
      ·have:=hs.arg v (hm v (by simp[hv]));exact⟨this.ok,up _ this⟩
     ·split at h
      ·cases h
      ·cases h
      ·rename_i m d;obtain rfl:=iy (iy h);obtain⟨a1,a2,a3⟩:=j m (λu hu=>hm u (by simp[hu])) d;refine⟨by simp[a1],?_,by simp only[eE];omega⟩;intro v hv;rcases ma.1 hv with rfl|hv
       ·exact⟨c.ok,up _ c⟩
       ·exact a2 v hv
   split at h
   ·cases h
   ·cases h
   ·rename_i m d;obtain rfl:=iy (iy h);obtain⟨a1,a2,a3⟩:=w l m (λt h=>h) d;refine⟨Tm.KD hs.ok a1 λt n=>(a2 t n).1,Tm.Ba (hs.mono (by omega)).ace λt n=>(a2 t n).2,?_⟩;rw[Tm.ef,Tm.ef];omega
def FK(room:Int)(t:Tm):t.nf=true↔t.Jk room=some none:=by
 induction t using Tm.ind with
 |h k i s l f=>
  rw[Tm.Pt,Tm.Bu]
  have g:∀ts:List Tm,(∀t∈ts,t∈l)->(ts.all Tm.nf=true↔Tm.sP room ts=some none):=by
   intro ts
   induction ts with
   |nil=>intro _;simp[Tm.sP]|cons t ts b=>
    intro hm;have j:=f t (hm t (by simp));have m:=b λu hu=>hm u (by simp[hu]);rw[xc,gI,j,m,Tm.sP];constructor
    ·rintro⟨c,d⟩;rw[c,d]
    ·intro h
     split at h
     ·cases h
     ·cases h
     ·rename_i c
      split at h
      ·cases h
      ·rename_i d;exact⟨c,d⟩
      ·cases h
  have:=g l λt h=>h
  by_cases a:(Tm.mk k i s l).root=true
  ·rw[ee a,a];simp
   try(split<;>simp)
  ·rw[ea a];simp only[gI,Qm,this];constructor
   ·rintro⟨_,e⟩;rw[e]
   ·intro h;refine⟨by simpa using a,?_⟩
    split at h
    ·cases h
    ·rename_i e;exact e
    ·cases h
def Rz{M:Int}{t:Tm}(hs:Sm M t)(hn:t.ab'<=8192)(c:t.root=true):(t.gp.ab':Int)<=1000000000:=by
 have d:=Tm.Jb hs.ok c;cases d with
 |app=>
  rename_i i s g h b a;rw[Tm.ef] at hn;simp only[eE,Tm.ef] at hn;have f:=hs.arg (.mk 2 g h [b]) (by simp);have k:=Tm.rT a b 0 (f.arg b (by simp)).ok;have l:=Tm.ji b 0;have hmul:b.acg 0*a.ab'<=8192*8192:=T1 (by omega) (by omega)
  have e:(Tm.mk 3 i s [.mk 2 g h [b],a]).gp=Tm.jX 0 b a:=by simp[Tm.gp]
  rw[e];omega
 |proj j=>
  rw[Tm.ef] at hn;simp only[eE,Tm.ef] at hn;rcases j with rfl|rfl<;>(simp[Tm.gp];omega)
 |zero j=>grind[Tm.gp,Tm.ef,eE]|succ=>grind[mv,Tm.gp,oX,Tm.ef,eE]|cons=>grind[mv,Tm.gp,oX,Tm.ef,eE]
def SF{M:Int}(P:0<=M/\M<=90000000000){nh:List HC}{p:Nat}{t:Tm}(L:NR nh p t)(hs:Sm M t)(hn:t.ab'<=8192)(d:t.root=true):pR (some p) nh=some (t.gp.ab':Int):=by
 have Q:=EJ P L hs hn d;have D:=Tm.Jb hs.ok d;obtain⟨x,R,f,e3,e4,l,e6,e7,e8⟩:=L.inv;unfold pR mU;simp only[cl,R];cases D with
 |app=>
  rename_i i s m o b a;simp only[Tm.eN,Tm.eG] at f l;obtain⟨pf,pa,r,S,T⟩:=l.inv2;obtain⟨y,f1,f2,f3,f4,f5,_⟩:=S.inv;simp only[Tm.eN,Tm.eG] at f2 f5;obtain⟨pb,E,v⟩:=f5.inv1;have F:=hs.arg (.mk 2 m o [b]) (by simp);have U:=hs.arg a (by simp);have B:=F.arg b (by simp);rw[Tm.ef] at hn;simp only[eE,Tm.ef] at hn;obtain⟨z,g1,_,_,_,_,g6,_⟩:=v.inv;obtain⟨u,g,_,_,_,_,j,_⟩:=T.inv;rw[f,ee (by decide),r];simp only[eU,gz,jA,mP,cl,f1,E,g1];rw[count_eq (M:=M) (by omega) nh FU b pb 0 (by rw[fy];omega) v B (by omega) (by omega)];simp only[cl,g,eb,g6,j];have V:=Tm.ji b 0;have hmul:b.acg 0*a.ab'<=8192*8192:=T1 (by omega) (by omega);have W:=Tm.rT a b 0 B.ok;have X:=a.eP
  have e:(Tm.mk 3 i s [.mk 2 m o [b],a]).gp=Tm.jX 0 b a:=by simp[Tm.gp]
  rw[e]
  have hint:(b.acg 0:Int)*((a.ab':Int)-1)=((b.acg 0*a.ab':Nat):Int)-(b.acg 0:Int):=by rw[Zc,XJ];simp
  rw[fH (by omega) (by omega),yG (by rw[hint];omega) (by rw[hint];omega),hint,fq (by omega) (by omega)]
  congr 1
  omega
 |proj N=>
  rename_i k i s m o a b;obtain⟨p',Y,g1,g2,g3⟩:=Q;simp only[Tm.eN,Tm.eG] at f l;obtain⟨z,g,_,_,_,_,j,_⟩:=g3.inv
  have c:k≠3/\k≠6/\k≠9:=by omega
  rw[f,ea (by simpa using c.1),ea (by simpa using c.2.1),ea (by simpa using c.2.2),g1];simp only[eb,cl,g,j]
 |zero N=>
  rename_i k Z i s m o b st;simp only[Tm.eN,Tm.eG] at f l;obtain⟨pb,ps,O,r,v,q,C⟩:=l.MK;obtain⟨y,f1,f2,f3,f4,f5,_⟩:=C.inv;obtain⟨z,g,_,_,_,_,j,_⟩:=v.inv;simp only[Tm.eN,Tm.eG] at f2 f5
  have c:k≠3/\k≠11/\k≠12:=by omega
  have:(Tm.mk k i s [b,st,.mk Z m o []]).gp=b:=by simp[Tm.gp,c.1,c.2.1,c.2.2]
  rw[this];rcases N with⟨rfl,rfl⟩|⟨rfl,rfl⟩
  ·rw[f,ea (by decide),ee (by decide),r];simp only[eU,gz,jE,jA,mP,cl,f1,f2,g,j];rw[ea (by decide)];rfl
  ·rw[f,ea (by decide),ea (by decide),ee (by decide),r];simp only[eU,gz,jE,jA,mP,cl,f1,f2,g,j];rw[ea (by decide)];rfl
 |succ=>
  rename_i i s m o b st n;simp only[Tm.eN,Tm.eG] at f l;obtain⟨pb,ps,O,r,v,q,C⟩:=l.MK;obtain⟨y,f1,f2,f3,f4,f5,_⟩:=C.inv;simp only[Tm.eN,Tm.eG] at f2 f5;obtain⟨pn,w,A⟩:=f5.inv1;obtain⟨z1,g,_,_,_,_,j,_⟩:=v.inv;obtain⟨z2,G,_,_,_,_,H,_⟩:=q.inv;obtain⟨z3,I,_,_,_,_,J,_⟩:=A.inv;rw[Tm.ef] at hn;simp only[eE,Tm.ef] at hn
  have e:(Tm.mk 6 i s [b,st,.mk 5 m o [n]]).gp=mv st [n,.mk 6 i s [b,st,n]]:=by simp[Tm.gp,mv]
  rw[e,oX];simp only[eE,Tm.ef,ld,um];rw[f,ea (by decide),ee (by decide),r];simp only[eU,gz,jE,jA,mP,cl,f1,f2,w,g,G,I,j,H,J];rw[ee (by decide)];simp only[eb];rw[yG (a:=2) (by omega) (by omega),fq (a:=2) (by omega) (by omega),fq (b:=2*(n.ab':Int)) (by omega) (by omega),fq (b:=1) (by omega) (by omega),fq (b:=(b.ab':Int)) (by omega) (by omega),fq (by omega) (by omega)]
  congr 1
  omega
 |cons=>
  rename_i i s m o b st h n;simp only[Tm.eN,Tm.eG] at f l;obtain⟨pb,ps,O,r,v,q,C⟩:=l.MK;obtain⟨y,f1,f2,f3,f4,f5,_⟩:=C.inv;simp only[Tm.eN,Tm.eG] at f2 f5;obtain⟨ph,pn,w,K,A⟩:=f5.inv2;obtain⟨z1,g,_,_,_,_,j,_⟩:=v.inv;obtain⟨z2,G,_,_,_,_,H,_⟩:=q.inv;obtain⟨z3,I,_,_,_,_,J,_⟩:=A.inv;obtain⟨z4,q1,_,_,_,_,q6,_⟩:=K.inv;rw[Tm.ef] at hn;simp only[eE,Tm.ef] at hn
  have e:(Tm.mk 9 i s [b,st,.mk 8 m o [h,n]]).gp=mv st [h,n,.mk 9 i s [b,st,n]]:=by simp[Tm.gp,mv]
  rw[e,oX];simp only[eE,Tm.ef,ld,um];rw[f,ea (by decide),ea (by decide),ee (by decide),r];simp only[eU,gz,jE,jA,mP,cl,f1,f2,w,g,G,I,q1,j,H,J,q6];rw[ee (by decide)];simp only[eb];rw[yG (a:=2) (by omega) (by omega),fq (a:=3) (by omega) (by omega),fq (b:=(h.ab':Int)) (by omega) (by omega),fq (b:=2*(n.ab':Int)) (by omega) (by omega),fq (b:=1) (by omega) (by omega),fq (b:=(b.ab':Int)) (by omega) (by omega),fq (by omega) (by omega)]
  congr 1
  omega
def FM{α:Type}(a:List α)(x y:α)(b:List α):(a++x::b).set a.length y=a++y::b:=by simp
def Dk(room:Int)(p:Nat)(t:Tm)(nh:List HC)(o:Option ((Option Nat)×Int×List HC)):Prop:=
 match t.Jk room with
 |none=>∃a,o=some (none,4,a)/\NE nh a|some none=>∃a,o=some (none,0,a)/\NE nh a|some (some c)=>∃b a,o=some (some b,0,a)/\NE nh a/\NR a b c
def T8{M room:Int}(hM:0<=M/\M<=80000000000)(X:-100000<=room/\room<=100000):∀(n:Nat) (t:Tm) (p:Nat) (nh:List HC),t.ab'<=n->NR nh p t->Sm M t->t.ab'<=8192->Dk room p t nh (jL n (some p) room nh):=by
 intro n
 induction n with
 |zero=>intro t p nh h;have:=t.eP;omega
 |succ n ih=>
  intro t p nh hn P hs H;obtain⟨x,Y,e2,e3,e4,Z,e6,e7,e8⟩:=P.inv;rw[jL];simp only[cl,Y]
  by_cases K:x.normal=true
  ·rw[ee K];unfold Dk;rw[(FK room t).1 (e8 K)];exact⟨nh,rfl,NE.refl _⟩
  ·rw[ea K,MR P hs.ok];simp only[cl];cases t with
   |mk k i s l=>
    by_cases f:(Tm.mk k i s l).root=true
    ·rw[ee f,SF (by omega) P hs H f];simp only[cl,gA,e6];obtain⟨N,c,g1,g2,g3⟩:=EJ (M:=M) (by omega) P hs H f;have ah:=Rz hs H f;rw[fH (by omega) (by omega)];unfold Dk;rw[Tm.Bu,ee f]
     by_cases C:((Tm.mk k i s l).gp.ab':Int)-((Tm.mk k i s l).ab':Int)>room
     ·rw[ee C,ee C];exact⟨nh,rfl,NE.refl _⟩
     ·rw[ea C,ea C,g1];exact⟨N,c,rfl,NE.kp g2,g3⟩
    ·rw[ea f];simp only[Tm.eN,Tm.eG,Tm.gx,Tm.fw] at e2 e3 e4 Z;have F:=H;rw[Tm.ef] at hn F;have hlen:=Tm.fF l;have Q:x.ab_.length=l.length:=Z.len;rw[eB (by omega)];simp only[eo,ez];have af:=hs.idx;have R:∀u:Tm,Sm M u->0<=u.fr/\u.fr<=M+1:=λu hu=>hu.fr hM.1
     have loop:∀(ts pre:List Tm) (ps I:List (Option Nat)) (j:Nat) (A:List HC),l=pre++ts->x.ab_=I++ps->I.length=j->NE nh A->uT A ps ts->uT A I pre->match Tm.sP room ts with
       |none=>∃c,fp (λ(v:Int) (B:Option Nat)=>(λ(w:List HC)=>
         iL (jL n B room w) λg m a=>
         if(eW m 0)=true then(some (.ret (none,m,a)))
         else(if(Option.isSome g)=true then(
         cv (HC.er a p) λd=>
         gS (yI d.ab_)<|cv (eJ d.ab_ v) λG=>
         ek (gV (some p) (xl d.ab_ v g) a) λy r=>
         some (.ret (y,0,r)))
         else(some ((.next a):gj (List HC) ((Option Nat)×Int×List HC)))))) ps j A=some (.inr (none,4,c))/\NE nh c
       |some none=>∃c,fp (λ(v:Int) (B:Option Nat)=>(λ(w:List HC)=>
         iL (jL n B room w) λg m a=>
         if(eW m 0)=true then(some (.ret (none,m,a)))
         else(if(Option.isSome g)=true then(
         cv (HC.er a p) λd=>
         gS (yI d.ab_)<|cv (eJ d.ab_ v) λG=>
         ek (gV (some p) (xl d.ab_ v g) a) λy r=>
         some (.ret (y,0,r)))
         else(some ((.next a):gj (List HC) ((Option Nat)×Int×List HC)))))) ps j A=some (.inl c)/\NE nh c
       |some (some S)=>∃N c,fp (λ(v:Int) (B:Option Nat)=>(λ(w:List HC)=>
         iL (jL n B room w) λg m a=>
         if(eW m 0)=true then(some (.ret (none,m,a)))
         else(if(Option.isSome g)=true then(
         cv (HC.er a p) λd=>
         gS (yI d.ab_)<|cv (eJ d.ab_ v) λG=>
         ek (gV (some p) (xl d.ab_ v g) a) λy r=>
         some (.ret (y,0,r)))
         else(some ((.next a):gj (List HC) ((Option Nat)×Int×List HC)))))) ps j A=some (.inr (some N,0,c))/\NE nh c/\NR c N (.mk k i s (pre++S)):=by
      intro ts
      induction ts with
      |nil=>
       intro pre ps I j A _ _ _ D hp _;cases hp;rw[Tm.sP];exact⟨A,rfl,D⟩
      |cons t ts aa=>
       intro pre ps I j A O hx hq D hp J;cases hp with
       |cons q1 q2=>
        rename_i q ps
        have T:t∈l:=by rw[O];simp
        have ai:=eI Tm.ab' T;have U:=hs.arg t T;have z:=ih t q A (by omega) q1 U (by omega);unfold Dk at z;rw[Tm.sP];rw[fl]
        split at z
        ·rename_i E;obtain⟨c,a1,a2⟩:=z;rw[E,a1];exact⟨c,rfl,D.trans a2⟩
        ·rename_i E;obtain⟨c,a1,a2⟩:=z;rw[E,a1];have:=aa (pre++[t]) ps (I++[some q]) (j+1) c (by simp[O]) (by simp[hx]) (by simp[hq]) (D.trans a2) (a2.list q2) ((a2.list J).append (.cons (a2.node _ _ q1) .nil))
         revert this
         cases Tm.sP room ts with
         |none=>exactλh=>h|some o=>
          cases o with
          |none=>exactλh=>h|some S=>simp only[uN,Xq,o_];exactλh=>h
        ·rename_i t' E;obtain⟨W,c,a1,a2,a3⟩:=z;rw[E,a1];simp only[ov];rw[ea (by decide),ee (show(some W).isSome=true from rfl)];obtain⟨b,V⟩:=(D.trans a2).get p x Y;rw[V];simp only[cl];obtain⟨s1,s2,s3⟩:=Kl hM.1 t U (by omega) t' E;rw[show yI x.ab_=true from wa ⟨by rw[Q,O];simp;omega,by rw[Q];unfold Lk;omega⟩]
         have ab:eJ x.ab_ (j:Int)=some (some q):=by rw[jj,hx,<-hq];simp
         have ad:xl x.ab_ (j:Int) (some W)=I++some W::ps:=by
          unfold xl;rw[hx,<-hq];simp
         simp only[eo,ab,cl,ad];unfold gV;simp only[cl,V]
         obtain⟨ae,b1,b2,b3⟩:=sD (k:=k) (i:=i) (s:=s) (ps:=I++some W::ps) (ts:=pre++t'::ts) (nh:=c) ((a2.list J).append (.cons a3 (a2.list q2))) (by
          rw[O,Er] at F;rw[Er];simp only[eE] at F|-
          omega) (by omega) (by
          intro u hu;rcases sR.1 hu with hu|hu
          ·have:=R u (hs.arg u (by rw[O];simp[hu]));omega
          ·rcases ma.1 hu with rfl|hu
           ·have:=Tm.RA u (M:=M+8192) (by omega) s1 s2;omega
           ·have:=R u (hs.arg u (by rw[O];simp[hu]));omega)
         rw[e2,e3,e4,b1];exact⟨c.length,ae,rfl,(D.trans a2).trans (NE.kp b2),b3⟩
     have:=loop l [] x.ab_ [] 0 nh rfl rfl rfl (NE.refl _) Z .nil;unfold Dk;rw[Tm.Bu,ea f]
     have L:Tm.sP room l=some none->(Tm.mk k i s l).nf=true:=by
      intro h;rw[FK room,Tm.Bu,ea f,h]
     revert this L
     cases Tm.sP room l with
     |none=>
      rintro⟨c,a1,a2⟩ _;have e:((0:Nat):Int)=0:=rfl;rw[a1];exact⟨c,rfl,a2⟩
     |some o=>
      cases o with
      |none=>
       rintro⟨c,a1,a2⟩ L;rw[a1];simp only[cl,ei];obtain⟨b,V⟩:=a2.get p x Y;rw[V];simp only[cl];exact⟨_,rfl,a2.trans (NE.flag (x:={x with normal:=b}) (a2.node _ _ P) V (L rfl))⟩
      |some l'=>
       rintro⟨N,c,a1,a2,a3⟩ _;rw[a1];exact⟨N,c,rfl,a2,a3⟩
def P0{M:Int}(L:0<=M/\M<=80000000000):∀(n:Nat) (t:Tm) (p:Nat) (nh:List HC),t.ab'<=n->NR nh p t->Sm M t->t.ab'<=8192->∃d,jq n (some p) nh=some (t.nf,d)/\NE nh d:=by
 intro n
 induction n with
 |zero=>intro t p nh h;have:=t.eP;omega
 |succ n G=>
  intro t p nh hn z hs A;obtain⟨x,D,N,O,P,B,Q,R,H⟩:=z.inv;rw[jq];simp only[cl,D]
  by_cases o:x.normal=true
  ·rw[ee o,H o];exact⟨nh,rfl,NE.refl _⟩
  ·rw[ea o,MR z hs.ok];simp only[cl];cases t with
   |mk k i s l=>
    by_cases a:(Tm.mk k i s l).root=true
    ·rw[ee a,Tm.Pt,a];exact⟨nh,rfl,NE.refl _⟩
    ·rw[ea a];simp only[Tm.eG] at B;rw[Tm.ef] at hn A;have hlen:=Tm.fF l;have I:x.ab_.length=l.length:=B.len;rw[eB (by omega)];simp only[eo,ez]
     have loop:∀(ts:List Tm) (ps:List (Option Nat)) (j:Nat) (e:List HC),(∀t∈ts,t∈l)->NE nh e->uT e ps ts->∃d,fp (λ(E:Int) (q:Option Nat)=>(λ(r:List HC)=>
        ek (jq n q r) λv g=>
        if v=true then(some (.next g))else(some ((.ret (false,g)):gj (List HC) (Bool×List HC))))) ps j e=some (if ts.all Tm.nf=true then .inl d else .inr (false,d))/\NE nh d:=by
      intro ts
      induction ts with
      |nil=>intro ps j e _ m h;cases h;exact⟨e,rfl,m⟩
      |cons t ts C=>
       intro ps j e hm m h;cases h with
       |cons q1 J=>
        have w:=hm t (by simp);have K:=eI Tm.ab' w;obtain⟨y,a1,a2⟩:=G t _ e (by omega) q1 (hs.arg t w) (by omega);rw[fl,a1];simp only[eb]
        by_cases c:t.nf=true
        ·rw[ee c];simp only[cl,ft,xc,c,AJ];exact C _ (j+1) y (λu hu=>hm u (by simp[hu])) (m.trans a2) (a2.list J)
        ·rw[ea c];simp only[cl,zL,xc,c,Zo];exact⟨y,rfl,m.trans a2⟩
     obtain⟨d,a1,a2⟩:=loop l x.ab_ 0 nh (λt h=>h) (NE.refl _) B;rw[a1]
     by_cases f:l.all Tm.nf=true
     ·rw[ee f];simp only[cl,ei];obtain⟨b,F⟩:=a2.get p x D;rw[F]
      have c:(Tm.mk k i s l).nf=true:=by
       rw[Tm.Pt,f];simpa using a
      rw[c];exact⟨_,rfl,a2.trans (NE.flag (x:={x with normal:=b}) (a2.node _ _ z) F c)⟩
     ·rw[ea f]
      have c:(Tm.mk k i s l).nf=false:=by
       rw[Tm.Pt];simp[f]
      rw[c];exact⟨d,rfl,a2⟩
def so{t:Tm}(h:t.wt<=1000000000):kK t=some (if t.err=0 then(t.ab':Int)else 0,t.err):=by
 unfold kK Tm.err;rw[wC FU t (by rw[fy];exact h) h]
 by_cases a:t.ok=true
 ·simp only[a,if_true,eb,gA]
  by_cases b:4096<t.ab'
  ·rw[ee b,ee (by omega)];rfl
  ·rw[ea b,ea (by omega)];rfl
 ·simp only[a,eb];rfl
def p4{t:Tm}(h:t.wt<=1000000000):qw t=some t.err:=by
 unfold qw;rw[so h];rfl
theorem Tm.hV{t:Tm}(h:t.err=0):t.ok=true/\t.ab'<=4096:=by
 unfold Tm.err at h
 split at h
 ·rename_i a
  split at h
  ·omega
  ·exact⟨a,by omega⟩
 ·omega
def Qh:∀(n:Nat) (t:Tm) (b:Int) (s:Bool),t.ab'<=n->t.ok=true->t.ab'<=1000000->0<=b->b+t.ab'<=100000000->jV n t b (λ(s:Bool) (f:Int) (g:Int)=>r9 f g s) s=some (s&&t.ace 536870912):=by
 intro n
 induction n with
 |zero=>intro t b s h;have:=t.eP;omega
 |succ n v=>
  intro t b s h w hn D m;cases t with
  |mk k i ty l=>
   obtain⟨o1,o2,x,y,E⟩:=Tm.l_ w;rw[Tm.ef] at h hn m;have hlen:=Tm.fF l;rw[jV];simp only[Tm.eG,Tm.eN,Tm.gx,ez,gw];rw[Tm.fo]
   by_cases e:k=1
   ·have z:=o1 e;subst z;rw[ee e];unfold r9;cases s with
    |true=>simp[MV];rfl|false=>simp;rfl
   ·rw[ea e];have hi:=x e;subst hi
    have o:fU (eH k 2) (fk .i64 b 1) b=b+gB k:=by
     unfold gB
     by_cases p:k=2
     ·subst p;rw[ee rfl];exact fq (by omega) (by omega)
     ·rw[ea p]
      have:eH k 2=false:=by simp[eH,p]
      rw[this];simp
    have A:=lH k;rw[eB (l:=l) (by omega)];simp only[eo,o]
    have loop:∀(ts:List Tm) (j:Nat) (s:Bool),(∀t∈ts,t∈l)->fp (λ(B:Int) (q:Tm)=>(λ(a:Bool)=>
      cv (jV n q (b+gB k) (λ(s:Bool) (f:Int) (g:Int)=>r9 f g s) a) λc=>
      some ((.next c):gj Bool Bool))) ts j s=some (.inl (s&&ts.all (Tm.ace 536870912))):=by
     intro ts
     induction ts with
     |nil=>intro j s _;simp|cons t ts r=>
      intro j s hm;have d:=hm t (by simp);have C:=eI Tm.ab' d;rw[fl,v t _ _ (by omega) (y t d) (by omega) (by omega) (by omega)];simp only[cl,ft];rw[r (j+1) _ λu hu=>hm u (by simp[hu])];simp[Bool.and_assoc]
    rw[loop l 0 s λt h=>h];simp
def La{t:Tm}(a:t.ok=true)(hn:t.ab'<=1000000):xq t=some (t.ace 536870912):=by
 unfold xq rO;rw[Qh FU t 0 true (by rw[fy];omega) a hn (by omega) (by omega)];simp
def Tm.z:Tm:=.mk 0 0 (.mk 0 []) []
def NR.Vp{nh:List HC}{c:Nat}{st a:fV}(h:HC.fu nh c=some st):∀n,(∀p t,t.ab'<=n->NR nh p t->NR (kE nh c (HC.gh a)) p t):=by
 have j:=HC.gW h
 have d:∀q y,HC.er nh q=some y->HC.er (kE nh c (HC.gh a)) q=some y:=by
  intro q y hy;have e:=HC.eA hy
  have f:c≠q:=by
   rintro rfl;rw[j] at e;cases e
  unfold HC.er kE;rw[Ud f,e]
 intro n
 induction n with
 |zero=>intro p t h;have:=t.eP;omega
 |succ n m=>
  intro p t o r;obtain⟨y,v,w,x,z,A,B,C,D⟩:=r.inv
  have b:∀(ts:List Tm) (ps:List (Option Nat)),(∀t∈ts,t.ab'<=n)->uT nh ps ts->uT (kE nh c (HC.gh a)) ps ts:=by
   intro ts
   induction ts with
   |nil=>intro ps _ h;cases h;exact .nil
   |cons t ts g=>
    intro ps hm h;cases h with
    |cons g1 g2=>exact .cons (m _ _ (hm t (by simp)) g1) (g _ (λu hu=>hm u (by simp[hu])) g2)
  refine NR.of (d _ _ v) w x z (b _ _ ?_ A) B C D;intro u hu;cases t with
  |mk k i s l=>
   rw[Tm.ef] at o;have:=eI Tm.ab' hu;simp only[Tm.eG] at this;omega
def DY{nh:List HC}{b:Nat}{st a:fV}(h:HC.fu nh b=some st):HC.fu (kE nh b (HC.gh a)) b=some a:=by
 have d:=HC.gW h;have c:=(pz.1 d).1;unfold HC.fu kE;simp[c]
structure At (nh:List HC) (s0:Nat) (t:Tm) (m:Int):Prop where
 st:∃p,HC.fu nh s0=some ⟨some p,m⟩/\NR nh p t
def Uu{M:Int}(i:0<=M/\M<=80000000000){nh:List HC}{d:Nat}{t:Tm}{m:Int}(h:At nh d t m)(hs:Sm M t)(hn:t.ab'<=4096)(hm:0<=m/\m<=1000000):match t.Jk (4096-t.ab')with
  |none=>∃a,jT (some d) nh=some (false,4,a)|some none=>∃a,jT (some d) nh=some (false,0,a)/\At a d t m|some (some g)=>∃a,jT (some d) nh=some (true,0,a)/\At a d g (m+1):=by
 obtain⟨p,e,f⟩:=h.st;obtain⟨x,j,_,_,_,_,k,_⟩:=f.inv;have n:=t.eP;have b:=T8 (M:=M) (room:=4096-t.ab') i (by omega) FU t p nh (by rw[fy];omega) f hs (by omega);unfold jT rz;simp only[cl,e,j,k];rw[fH (by omega) (by omega)];unfold Dk at b
 split at b
 ·rename_i c;obtain⟨a,a1,a2⟩:=b
  try rw[c]
  rw[a1];exact⟨a,rfl⟩
 ·rename_i c;obtain⟨a,a1,a2⟩:=b
  try rw[c]
  rw[a1];exact⟨a,rfl,⟨p,a2.state _ _ e,a2.node _ _ f⟩⟩
 ·rename_i g c;obtain⟨l,a,a1,a2,a3⟩:=b
  try rw[c]
  rw[a1];have g1:=a2.state _ _ e;simp only[ov];rw[ea (by simp[eW])];simp only[g1,cl];rw[fq (by omega) (by omega)];refine⟨_,rfl,⟨l,DY (DY g1),?_⟩⟩;exact NR.Vp (DY g1) _ _ _ (jo _) (NR.Vp g1 _ _ _ (jo _) a3)
def Tm.norm:Nat->Int->Tm->Tm×Int×Int
 |0,m,t=>if t.nf=true then(t,m,0)else(Tm.z,0,5)|k+1,m,t=>match t.Jk (4096-t.ab')with
  |none=>(Tm.z,0,4)|some none=>(t,m,0)|some (some a)=>Tm.norm k (m+1) a
def L4{k:Nat}{m:Int}{t:Tm}(h:t.Jk (4096-t.ab')=none):t.norm (k+1) m=(Tm.z,0,4):=by rw[Tm.norm,h]
def I'{k:Nat}{m:Int}{t:Tm}(h:t.Jk (4096-t.ab')=some none):t.norm (k+1) m=(t,m,0):=by rw[Tm.norm,h]
def Jy{k:Nat}{m:Int}{t a:Tm}(h:t.Jk (4096-t.ab')=some (some a)):t.norm (k+1) m=a.norm k (m+1):=by rw[Tm.norm,h]
def G1{σ ρ:Type}{F:σ->Option (gj σ ρ)}:∀{n m:Nat} {s:σ} {o:σ⊕ρ},n<=m->pw F n s=some o->pw F m s=some o
 |0,_,_,_,_,h=>by cases h
 |n+1,0,_,_,hm,_=>by omega|n+1,m+1,s,o,hm,h=>by
  rw[od] at h|-;obtain⟨c,b,a⟩:=eO h;rw[b];simp only[cl];cases c with
  |next d=>exact G1 (by omega) a|Ft d=>exact a|ret r=>exact a
def Lw(n:Nat)(steps:Int)(I:0<=steps/\steps<=65536):∀(k:Nat) (m:Int) (t:Tm) (nh:List HC),(k:Int)=steps-m->0<=m->At nh n t m->Sm (536870912+8192*m) t->t.ab'<=4096->∃o,pw (λ(a:List HC)=>
   cv (HC.fu a n) λq=>
   if(ue q.steps steps)=true then(
   iL (jT (some n) a) λs i c=>
   if(eW i 0)=true then(some (.ret ((Tm.mk 0 0 (Ty.mk 0 []) []),0,i)))
   else(if s=true then(some (.next c))
   else(cv (HC.fu c n) λj=>
   cv (iW FU j.term c) λu=>
   some (.ret (u,j.steps,0)))))
   else(some ((.Ft a):gj (List HC) (Tm×Int×Int)))) (k+1) nh=some o/\gd (λ(a:List HC)=>
    cv (HC.fu a n) λv=>
    ek (jq FU v.term a) λw f=>
    if w=true then(
    cv (HC.fu f n) λl=>
    cv (iW FU l.term f) λx=>
    some (x,l.steps,0))
    else(some ((Tm.mk 0 0 (Ty.mk 0 []) []),0,5))) (λr=>some r) o=some (t.norm k m):=by
 intro k
 induction k with
 |zero=>
  intro m t nh B hm g hs hn;obtain⟨p,y,z⟩:=g.st;refine⟨.inl nh,?_,?_⟩
  ·rw[od];simp only[y,cl];rw[ea (by rw[mE];omega)];rfl
  ·rw[ei];simp only[y,cl];obtain⟨d,a1,a2⟩:=P0 (M:=536870912+8192*m) (by omega) FU t p nh (by rw[fy];omega) z hs (by omega);rw[a1];simp only[eb,Tm.norm]
   by_cases h:t.nf=true
   ·rw[ee h,ee h];simp only[a2.state _ _ y,cl];rw[OX (M:=536870912+8192*m) d FU t p (by rw[fy];omega) hs (a2.node _ _ z)];rfl
   ·rw[ea h,ea h];rfl
 |succ k C=>
  intro m t nh B hm g hs hn;obtain⟨p,y,z⟩:=g.st;have b:=Uu (M:=536870912+8192*m) (by omega) g hs hn (by omega);rw[od];simp only[y,cl];rw[ee (by rw[mE];omega)]
  split at b
  ·rename_i e;obtain⟨d,a1⟩:=b;rw[L4 e,a1];exact⟨_,rfl,rfl⟩
  ·rename_i e;obtain⟨d,a1,a2⟩:=b;obtain⟨D,E,F⟩:=a2.st;rw[I' e,a1];simp only[ov];rw[ea (by decide),ea (by decide)];simp only[E,cl];rw[OX (M:=536870912+8192*m) d FU t D (by rw[fy];omega) hs F];exact⟨_,rfl,rfl⟩
  ·rename_i A e;obtain⟨d,a1,a2⟩:=b;rw[Jy e,a1];simp only[ov];rw[ea (by decide)];simp only[if_true,cl,ft];obtain⟨G,H,c3⟩:=Kl (M:=536870912+8192*m) (by omega) t hs (by omega) A e;exact C (m+1) A d (by omega) (by omega) a2 ⟨G,by rw[show 536870912+8192*(m+1)=536870912+8192*m+8192 by omega];exact H,by omega⟩ (by omega)
def Sm.start{t:Tm}(h:t.err=0)(a:t.ace 536870912=true):Sm 536870912 t:=⟨(Tm.hV h).1,a,by have:=(Tm.hV h).2;omega⟩
def xr{t:Tm}(hw:t.wt<=1000000000)(steps:Int):kI t steps=some (if t.err=0 then(if 0<=steps/\steps<=65536/\t.ace 536870912=true then t.norm steps.toNat 0 else(Tm.z,0,1))else(Tm.z,0,t.err)):=by
 unfold kI;rw[p4 hw];simp only[cl]
 by_cases he:t.err=0
 ·rw[ea (by simp[he]),ee he];obtain⟨g,hn⟩:=Tm.hV he;simp only[ez]
  by_cases e:steps<0
  ·rw[ee ((mE _ _).2 e),ee trivial,ea (λh=>absurd h.1 (by omega))];rfl
  ·rw[ea (by rw[mE];exact e)]
   by_cases f:65536<steps
   ·rw[ee ((gA _ _).2 f),ee trivial,ea (λh=>absurd h.2.1 (by omega))];rfl
   ·rw[ea (by rw[gA];exact f),La g (by omega)];simp only[cl]
    by_cases a:t.ace 536870912=true
    ·have c:nt (t.ace 536870912)=false:=by rw[a];rfl
     rw[ea (by rw[c];decide),ee ⟨by omega,by omega,a⟩];have b:=Sm.start he a;obtain⟨p,nh,a1,a2,a3⟩:=UB (M:=536870912) (by omega) FU t [] (by rw[fy];omega) b;rw[a1];simp only[eb];have d:At (nh++[HC.gh (fV.mk (some p) 0)]) nh.length t 0:=⟨p,by unfold HC.fu;simp,a3.app⟩;obtain⟨o,i,j⟩:=Lw nh.length steps (by omega) steps.toNat 0 t _ (by omega) (by omega) d (by simpa using b) hn;have k:=G1 (m:=FU) (by rw[fy];omega) i;rw[k];exact j
    ·have c:nt (t.ace 536870912)=true:=by simp[a]
     rw[ee c,ea (λh=>a h.2.2)];rfl
 ·rw[ee (by simp[he]),ea he];rfl
mutual
def Fm.ab':Fm->Nat
 |.mk _ _ ts l=>1+eE Tm.ab' ts+Fm.oq l
def Fm.oq:List Fm->Nat
 |[]=>0|t::l=>t.ab'+Fm.oq l
end
def Fm.r8(l:List Fm):Fm.oq l=eE Fm.ab' l:=by
 induction l with
 |nil=>rfl|cons t l a=>simp[Fm.oq,eE,a]
theorem Fm.ef(k:Int)(s:Ty)(ts:List Tm)(l:List Fm):(Fm.mk k s ts l).ab'=1+eE Tm.ab' ts+eE Fm.ab' l:=by rw[Fm.ab',Fm.r8]
def Fm.eP(t:Fm):1<=t.ab':=by cases t;rw[Fm.ab'];omega
def Fm.fF(l:List Fm):l.length<=eE Fm.ab' l:=ic _ _ λt _=>t.eP
mutual
def Fm.wt:Fm->Nat
 |.mk _ s ts l=>1+s.ab'+eE Tm.wt ts+Fm.NS l
def Fm.NS:List Fm->Nat
 |[]=>0|t::l=>t.wt+Fm.NS l
end
def Fm.Dj(l:List Fm):Fm.NS l=eE Fm.wt l:=by
 induction l with
 |nil=>rfl|cons t l a=>simp[Fm.NS,eE,a]
theorem Fm.fP(k:Int)(s:Ty)(ts:List Tm)(l:List Fm):(Fm.mk k s ts l).wt=1+s.ab'+eE Tm.wt ts+eE Fm.wt l:=by rw[Fm.wt,Fm.Dj]
def Fm.iS(t:Fm):1<=t.wt:=by cases t;rw[Fm.wt];omega
def Fm.n5(l:List Fm):l.length<=eE Fm.wt l:=ic _ _ λt _=>t.iS
def Fm.ind{p:Fm->Prop}(h:∀k s ts l,(∀t∈l,p t)->p (.mk k s ts l))(t:Fm):p t:=by
 have:∀n (t:Fm),t.ab'<=n->p t:=by
  intro n
  induction n with
  |zero=>intro t a;have:=t.eP;omega
  |succ n b=>
   intro t a;cases t with
   |mk k s ts l=>
    rw[Fm.ef] at a;exact h k s ts l λu hu=>b u (by have:=eI Fm.ab' hu;omega)
 exact this _ t (jo _)
def Fm.iI(t:Fm):t.ab'<=t.wt:=by
 induction t using Fm.ind with
 |h k s ts l a=>rw[Fm.ef,Fm.fP];have:=kR a;have:=kR (f:=Tm.ab') (g:=Tm.wt) (l:=ts) λx _=>x.iI;omega
def kQ(k:Int):Bool:=decide (k=4\/k=5\/k=6\/k=7)
def qB(k:Int):Int:=if kQ k=true then 1 else 0
def A5(k:Int):0<=qB k/\qB k<=1:=by unfold qB;split<;>omega
def mq(k:Int):lj k=some (kQ k):=by
 unfold lj kQ
 congr 1
 rw[B5];simp
def ou(f:Fm):k8 f=some (qB f.ab9):=by
 unfold k8 qB;rw[mq];simp only[cl]
 split<;>rfl
def Fm.node(k:Int)(s:Ty)(a n:Nat):Bool:=
 if k=1 then s.rQ&&decide (a=2)&&decide (n=0)
 else if k=2\/k=3 then s.rQ&&decide (a=0)&&decide (n=2)
 else kQ k&&decide (s.err=0)&&decide (a=0)&&decide (n=1)
mutual
def Fm.ok:Fm->Bool
 |.mk k s ts l=>Fm.node k s ts.length l.length&&ts.all Tm.ok&&Fm.Jc l
def Fm.Jc:List Fm->Bool
 |[]=>true|t::l=>t.ok&&Fm.Jc l
end
def Fm.zs(l:List Fm):Fm.Jc l=l.all Fm.ok:=by
 induction l with
 |nil=>rfl|cons t l a=>simp[Fm.Jc,a]
theorem Fm.h_(k:Int)(s:Ty)(ts:List Tm)(l:List Fm):(Fm.mk k s ts l).ok=(Fm.node k s ts.length l.length&&ts.all Tm.ok&&l.all Fm.ok):=by rw[Fm.ok,Fm.zs]
def Fm.err(t:Fm):Int:=if t.ok=true then(if 4096<t.ab' then 4 else 0)else 2
def hD{α:Type}{l:List α}:(l.length:Int)=0↔l=[]:=by cases l<;>simp;omega
def jS{α:Type}{l:List α}(h:(l.length:Int)=1):∃a,l=[a]:=by
 match l,h with
 |[a],_=>exact⟨a,rfl⟩|[],h=>simp at h
 |_::_::_,h=>simp at h;omega
def qP{α:Type}{l:List α}(h:(l.length:Int)=2):∃a b,l=[a,b]:=by
 match l,h with
 |[a,b],_=>exact⟨a,b,rfl⟩|[],h=>simp at h
 |[_],h=>simp at h
 |_::_::_::_,h=>simp at h;omega
def yo{t:Tm}(h:t.wt<=1000000000):kr FU t=some t.ok:=z6 FU t (by rw[fy];exact h) h
def yW:∀(n:Nat) (t:Fm),t.wt<=n->t.wt<=1000000000->lV n t=some t.ok:=by
 intro n
 induction n with
 |zero=>intro t h;have:=t.iS;omega
 |succ n j=>
  intro t h i;cases t with
  |mk k s ts l=>
   rw[Fm.fP] at h i;rw[lV,Fm.h_];simp only[Fm.eG,Fm.eN,Fm.hJ,Fm.fw,ez,la,pO,gw,fR,wR,mq,m4 (t:=s) (by omega),cl,eU,gz]
   by_cases o:k=1
   ·simp only[o,if_true,Fm.node]
    by_cases g:(l.length:Int)=0
    ·have:=hD.1 g;subst this;cases f:s.rQ with
     |false=>simp|true=>
      by_cases d:(ts.length:Int)=2
      ·obtain⟨a,b,rfl⟩:=qP d;simp only[eE] at h i;simp only[d,if_true,jA,mP,cl];rw[yo (t:=a) (by omega),yo (t:=b) (by omega)];cases c:a.ok<;>cases e:b.ok<;>simp[c,e]
      ·have c:¬ts.length=2:=by omega
       simp[d,c]
    ·have f:¬l.length=0:=by omega
     simp[g,f]
   ·simp only[o,P5,Fm.node]
    by_cases g:k=2\/k=3
    ·simp only[g,if_true]
     by_cases f:(ts.length:Int)=0
     ·have:=hD.1 f;subst this;cases d:s.rQ with
      |false=>simp|true=>
       by_cases c:(l.length:Int)=2
       ·obtain⟨a,b,rfl⟩:=qP c;simp only[eE] at h i;simp only[c,if_true,jA,mP,cl];rw[j a (by omega) (by omega),j b (by omega) (by omega)];cases e:a.ok<;>cases m:b.ok<;>simp[e,m]
       ·have e:¬l.length=2:=by omega
        simp[c,e]
     ·have d:¬ts.length=0:=by omega
      simp[f,d]
    ·simp only[g,P5];cases f:kQ k with
     |false=>simp|true=>
      by_cases d:(ts.length:Int)=0
      ·have:=hD.1 d;subst this
       by_cases c:s.err=0
       ·by_cases e:(l.length:Int)=1
        ·obtain⟨a,rfl⟩:=jS e;simp only[eE] at h i;simp only[c,e,if_true,jA,cl];rw[j a (by omega) (by omega)];simp
        ·have m:¬l.length=1:=by omega
         simp[c,e,m]
       ·simp[c]
      ·have c:¬ts.length=0:=by omega
       simp[d,c]
def sn:∀(n:Nat) (t:Fm),t.ab'<=n->t.ab'<=1000000000->lK n t=some (t.ab':Int):=by
 intro n
 induction n with
 |zero=>intro t h;have:=t.eP;omega
 |succ n b=>
  intro t h c;cases t with
  |mk k s ts l=>
   rw[Fm.ef] at h c;have f:=Fm.fF l;have d:=Tm.fF ts;rw[lK];simp only[Fm.eG,Fm.hJ,ez,eB (l:=l) (by omega),eB (l:=ts) (by omega),eo]
   have e:=qe (ρ:=Int) (F:=λ(j:Int) (x:Tm) (v:Int)=>cv (gl FU x) λy=>some (gj.next (fk .i64 v y))) Tm.ab' ts 0 1 (by omega) (by
    intro j x v a;have:=eI Tm.ab' a;rw[oB FU x (by rw[fy];omega) (by omega)]
    rfl)
   have k2:=qe (ρ:=Int) (F:=λ(j:Int) (x:Fm) (v:Int)=>cv (lK n x) λy=>some (gj.next (fk .i64 v y))) Fm.ab' l 0 (1+eE Tm.ab' ts) (by omega) (by
    intro j x v a;have:=eI Fm.ab' a;rw[b x (by omega) (by omega)]
    rfl)
   rw[show(1:Int)=((1:Nat):Int)from rfl,e];simp only[cl,ei];rw[k2];simp[Fm.ef]
def m6{t:Fm}(h:t.wt<=1000000000):k5 t=some t.err:=by
 have:=t.iI;unfold k5 Fm.err;rw[yW FU t (by rw[fy];exact h) h,sn FU t (by rw[fy];omega) (by omega)];cases t.ok with
 |false=>simp|true=>by_cases a:4096<t.ab'<;>simp[a]<;>omega
def GA(f:Fm)(h:f.wt<=1000000000):rL f=some (Fm.node f.ab9 f.dv f.ej.length f.ab_.length):=by
 cases f with
 |mk k s ts l=>
  rw[Fm.fP] at h;show rL (.mk k s ts l)=some (Fm.node k s ts.length l.length)
  have d:(eH (ts.length:Int) 2&&eH (l.length:Int) 0)=(decide (ts.length=2)&&decide (l.length=0)):=by
   rw[B5];simp only[gI,gw,nq];omega
  have e:(eH (ts.length:Int) 0&&eH (l.length:Int) 2)=(decide (ts.length=0)&&decide (l.length=2)):=by
   rw[B5];simp only[gI,gw,nq];omega
  have g:(eH (ts.length:Int) 0&&eH (l.length:Int) 1)=(decide (ts.length=0)&&decide (l.length=1)):=by
   rw[B5];simp only[gI,gw,nq];omega
  unfold rL;simp only[Fm.eG,Fm.eN,Fm.hJ,Fm.fw,ez,la,ru,pO,gw,fR,l8 (t:=s) (by omega),sM,cl,eb,ey,d,e,g];unfold Fm.node
  by_cases b:k=1
  ·cases c:s.rQ<;>simp[b]
  ·by_cases c:k=2\/k=3
   ·cases a:s.rQ<;>simp[b,c]
   ·by_cases a:k=4\/k=5\/k=6\/k=7
    ·have i:kQ k=true:=by simp[kQ,a]
     by_cases j:s.err=0<;>simp[b,c,a,j,i]
    ·have i:kQ k=false:=by simp[kQ,a]
     simp[b,c,a,i]
def ze:∀(n:Nat) (t:Fm),t.wt<=n->t.wt<=1000000000->jU n t=some (if t.ok=true then((t.ab':Int),true)else(0,false)):=by
 intro n
 induction n with
 |zero=>intro t h;have:=t.iS;omega
 |succ n i=>
  intro t h g;cases t with
  |mk k s ts l=>
   have m:=GA (.mk k s ts l) g;rw[Fm.fP] at h g;have r:=Fm.n5 l;have o:=Tm.n5 ts;have hn:eE Tm.ab' ts<=eE Tm.wt ts:=kR λx _=>x.iI;have p:eE Fm.ab' l<=eE Fm.wt l:=kR λx _=>x.iI
   have q:fp (λ(e:Int) (a:Tm) (b:Int)=>ek (j1 FU a) λc d=>if d=true then some (gj.next (fk .i64 b c))else some (gj.ret ((0:Int),false))) ts 0 1=if ts.all Tm.ok=true then some (.inl ((1+eE Tm.ab' ts:Nat):Int))else some (.inr (0,false)):=by
    refine vk Tm.ab' Tm.ok _ ts 0 1 (by omega) ?_;intro j x v f;have:=eI Tm.wt f;rw[wC FU x (by rw[fy];omega) (by omega)];cases x.ok<;>simp
   have k2:fp (λ(e:Int) (a:Fm) (b:Int)=>ek (jU n a) λc d=>if d=true then some (gj.next (fk .i64 b c))else some (gj.ret ((0:Int),false))) l 0 ((1+eE Tm.ab' ts:Nat):Int)=if l.all Fm.ok=true then some (.inl ((1+eE Tm.ab' ts+eE Fm.ab' l:Nat):Int))else some (.inr (0,false)):=by
    refine vk Fm.ab' Fm.ok _ l 0 _ (by omega) ?_;intro j x v f;have:=eI Fm.wt f;rw[i x (by omega) (by omega)];cases x.ok<;>simp
   rw[jU,m];simp only[Fm.eG,Fm.eN,Fm.hJ,Fm.fw,ez,eB (l:=l) (by omega),eB (l:=ts) (by omega),eo,cl,q,Fm.h_,Fm.ef];cases u:Fm.node k s ts.length l.length with
   |false=>simp|true=>
    cases w:ts.all Tm.ok with
    |false=>simp|true=>
     simp only[if_true,cl,ei,k2,AJ];cases y:l.all Fm.ok<;>simp
def qh{t:Fm}(h:t.wt<=1000000000):js t=some (if t.err=0 then(t.ab':Int)else 0,t.err):=by
 unfold js Fm.err;rw[ze FU t (by rw[fy];exact h) h];cases t.ok with
 |false=>simp|true=>
  by_cases a:4096<t.ab'
  ·simp[a];omega
  ·simp[a];omega
def lp{t:Fm}(h:t.wt<=1000000000):kG t=some t.err:=by
 unfold kG;rw[qh h];rfl
def Ix:∀(n:Nat) (t:Fm),t.wt<=n->t.wt<=1000000000->jm n t=some t:=by
 intro n
 induction n with
 |zero=>intro t h;have:=t.iS;omega
 |succ n c=>
  intro t h d;cases t with
  |mk k s ts l=>
   rw[Fm.fP] at h d;have f:=Fm.n5 l;have e:=Tm.n5 ts;rw[jm];simp only[Fm.eG,Fm.eN,Fm.hJ,Fm.fw,ez,eB (l:=l) (by omega),eB (l:=ts) (by omega),eo,jg (t:=s) (by omega),cl];rw[jz id ts 0 [] (by simp;omega)]
   ·simp only[cl,ei];rw[jz id l 0 [] (by simp;omega)]
    ·simp
    ·intro j x v a b;have:=eI Fm.wt a;rw[c x (by omega) (by omega)];simp[fx (l:=v) (m:=[x]) (by simpa using b)]
   ·intro j x v a b;have:=eI Tm.wt a;rw[nI (t:=x) (by omega)];simp[fx (l:=v) (m:=[x]) (by simpa using b)]
def lL{t:Fm}(h:t.wt<=1000000000):jm FU t=some t:=Ix FU t (by rw[fy];exact h) h
mutual
def Fm.has:Fm->Bool
 |.mk k _ _ l=>if k=1 then false else if k=2 then Fm.KJ l else if k=5 then true else Fm.FG l
def Fm.KJ:List Fm->Bool
 |[]=>false|f::l=>f.has||Fm.KJ l
def Fm.FG:List Fm->Bool
 |[]=>false|[f]=>f.has|_::f::l=>Fm.FG (f::l)
end
def OZ(k:Int)(a b:Ty):Ty×Bool×Int:=if(Ty.mk k [a,b]).err≠0 then(.mk 0 [],false,(Ty.mk k [a,b]).err)else(.mk k [a,b],true,0)
def Zg(first last:Ty×Bool×Int):Ty×Bool×Int:=
 if first.2.2≠0\/first.2.1=false then(last.1,last.2.1,first.2.2)else if last.2.1=true then OZ 3 first.1 last.1 else(first.1,true,0)
def YO(first last:Ty×Bool×Int):Ty×Bool×Int:=
 if first.2.2≠0\/first.2.1=false then(last.1,true,first.2.2)else OZ 4 first.1 last.1
def V2(k:Int)(s:Ty)(first last:Ty×Bool×Int):Ty×Bool×Int:=
 if last.2.2≠0 then(.mk 0 [],false,last.2.2)
 else if k=2 then Zg first last
 else if k=5 then(if last.2.1=true then OZ 3 s last.1 else(s,true,0))
 else if last.2.1=true then(if k=3 then YO first last else if k=4 then OZ 4 s last.1 else(last.1,true,0))
 else(.mk 0 [],false,0)
def W1:Ty×Bool×Int:=(.mk 0 [],false,0)
mutual
def Fm.ct:Fm->Ty×Bool×Int
 |.mk k s _ l=>if k=1 then W1 else V2 k s (Fm.YX l) (Fm.Vt l)
def Fm.YX:List Fm->Ty×Bool×Int
 |[]=>W1|f::_=>f.ct
def Fm.Vt:List Fm->Ty×Bool×Int
 |[]=>W1|[f]=>f.ct|_::f::l=>Fm.Vt (f::l)
end
def Fm.Ps(k:Int)(s:Ty)(ts:List Tm)(a b:Fm):(Fm.mk k s ts [a,b]).has=if k=1 then false else if k=2 then a.has||b.has else if k=5 then true else b.has:=by
 rw[Fm.has];simp[Fm.KJ,Fm.FG]
def Fm.Pe(k:Int)(s:Ty)(ts:List Tm)(a:Fm):(Fm.mk k s ts [a]).has=if k=1 then false else if k=5 then true else a.has:=by
 rw[Fm.has];simp only[Fm.KJ,Fm.FG,Bool.or_false]
 by_cases b:k=2
 ·subst b;simp
 ·simp[b]
def Fm.has_eq(s:Ty)(ts:List Tm)(l:List Fm):(Fm.mk 1 s ts l).has=false:=by rw[Fm.has];simp
def Fm.pk{p:Fm->Prop}(n:∀a b:Tm,a.ok=true->b.ok=true->p (.mk 1 (.mk 0 []) [a,b] []))
  (o:∀(k:Int) (a b:Fm),k=2\/k=3->a.ok=true->b.ok=true->p a->p b->p (.mk k (.mk 0 []) [] [a,b]))
  (q:∀(k:Int) (s:Ty) (a:Fm),k=4\/k=5\/k=6\/k=7->s.err=0->a.ok=true->p a->p (.mk k s [] [a])) (f:Fm) (g:f.ok=true):p f:=by
 induction f using Fm.ind with
 |h k s ts l i=>
  rw[Fm.h_] at g;simp only[gI,kF] at g;obtain⟨⟨hn,d⟩,c⟩:=g;unfold Fm.node at hn
  split at hn
  ·rename_i j;subst j;simp only[gI,nq,Ty.mQ] at hn;obtain⟨⟨rfl,e⟩,m⟩:=hn;obtain⟨a,b,rfl⟩:=qP (l:=ts) (by omega);have:=T4.1 m;subst this;exact n a b (d a (by simp)) (d b (by simp))
  ·split at hn
   ·rename_i j;simp only[gI,nq,Ty.mQ] at hn;obtain⟨⟨rfl,e⟩,m⟩:=hn;obtain⟨a,b,rfl⟩:=qP (l:=l) (by omega);have:=T4.1 e;subst this;exact o k a b j (c a (by simp)) (c b (by simp)) (i a (by simp) (c a (by simp))) (i b (by simp) (c b (by simp)))
   ·simp only[gI,nq] at hn;obtain⟨⟨⟨r,hs⟩,e⟩,m⟩:=hn;obtain⟨a,rfl⟩:=jS (l:=l) (by omega);have:=T4.1 e;subst this;refine q k s a ?_ hs (c a (by simp)) (i a (by simp) (c a (by simp)));simpa[kQ] using r
theorem Ty.lW{t:Ty}(h:t.err=0):t.ok=true/\t.ab'<=64:=by
 unfold Ty.err at h
 split at h
 ·split at h
  ·omega
  ·exact⟨‹_›,by omega⟩
 ·omega
theorem Ty.wS{t:Ty}(h:t.ok=true)(a:t.ab'<=64):t.err=0:=by unfold Ty.err;rw[ee h,ea (by omega)]
def Ty.ok_two{k:Int}(c:k=3\/k=4){a b:Ty}(d:a.ok=true)(e:b.ok=true):(Ty.mk k [a,b]).ok=true:=by
 rw[Ty.h_]
 have:¬(k=1\/k=2\/k=5):=by omega
 simp[Ty.want,c,this,d,e]
theorem Ty.Ap(k:Int)(a b:Ty):(Ty.mk k [a,b]).ab'=1+a.ab'+b.ab':=by rw[Ty.ef];simp[eE];omega
theorem Fm.hV{f:Fm}(h:f.err=0):f.ok=true/\f.ab'<=4096:=by
 unfold Fm.err at h
 split at h
 ·split at h
  ·omega
  ·exact⟨‹_›,by omega⟩
 ·omega
def Fm.cty(f:Fm):Ty×Int:=if f.err≠0 then(.mk 0 [],f.err)else if f.ct.2.2≠0 then(.mk 0 [],f.ct.2.2)else(if f.has=true then f.ct.1 else .mk 5 [],0)
def Dr:∀(n:Nat) (f:Fm),f.ab'<=n->f.ok=true->jM n f=some f.has:=by
 intro n
 induction n with
 |zero=>intro f h;have:=f.eP;omega
 |succ n e=>
  intro f h q;refine Fm.pk (p:=λf=>f.ab'<=n+1->jM (n+1) f=some f.has) ?_ ?_ ?_ f q h
  ·intro a b _ _ _;rw[jM,Fm.has_eq];rfl
  ·intro k a b r g t _ _ hn;rw[Fm.ef] at hn;simp only[eE] at hn;have d:=e a (by omega) g;have i:=e b (by omega) t
   have c:k≠1:=by omega
   have j:k≠5:=by omega
   have l:eJ [a,b] (fD .i64 (eM [a,b]) 1)=some b:=by
    rw[fH (by simp) (by simp)];rfl
   have u:eJ [a,b] 0=some a:=rfl;have v:eJ [a,b] 1=some b:=rfl;rw[jM,Fm.Ps,ea c];simp only[Fm.eG,Fm.eN,gw,c,j,P5,l,u,v,cl,i,d,ez]
   by_cases o:k=2
   ·simp only[o,if_true];cases a.has<;>simp
   ·simp[o]
  ·intro k s a r hs g _ hn;rw[Fm.ef] at hn;simp only[eE] at hn;have d:=e a (by omega) g
   have c:k≠1:=by omega
   have m:k≠2:=by omega
   have l:eJ [a] (fD .i64 (eM [a]) 1)=some a:=by
    rw[fH (by simp) (by simp)];rfl
   rw[jM,Fm.Pe,ea c];simp only[Fm.eG,Fm.eN,gw,c,m,P5,l,cl,d]
   by_cases w:k=5<;>simp[w]
def xo(f:Fm)(h:f.wt<=1000000000):n_ f=some (if f.err≠0 then(false,f.err)else(f.has,0)):=by
 unfold n_;rw[m6 h];simp only[cl,ey]
 by_cases he:f.err=0
 ·rw[Dr FU f (by rw[fy];have:=f.iI;omega) (Fm.hV he).1];simp[he]
 ·simp[he]
theorem Fm.wS{f:Fm}(h:f.ok=true)(a:f.ab'<=4096):f.err=0:=by unfold Fm.err;rw[ee h,ea (by omega)]
def Ty.nat:Ty:=.mk 1 []
def Ty.nK:Ty:=.mk 2 []
def Ty.unit:Ty:=.mk 5 []
def Ty.fn(a b:Ty):Ty:=.mk 4 [a,b]
def Ty.pr(a b:Ty):Ty:=.mk 3 [a,b]
def Ty.z:Ty:=.mk 0 []
inductive e_:List Ty->Tm->Ty->Prop
 |var {g t} (i:Nat):i<g.length->g[g.length-1-i]?=some t->e_ g (.mk 1 i .z []) t|lam {g s b t}:(Ty.fn s t).err=0->e_ (g++[s]) b t->e_ g (.mk 2 0 s [b]) (.fn s t)|app {g f a s t}:e_ g f (.fn s t)->e_ g a s->e_ g (.mk 3 0 .z [f,a]) t|zero {g}:e_ g (.mk 4 0 .z []) .nat|succ {g a}:e_ g a .nat->e_ g (.mk 5 0 .z [a]) .nat|uD {g t b s n}:t.err=0->e_ g b t->e_ g s (.fn .nat (.fn t t))->e_ g n .nat->e_ g (.mk 6 0 t [b,s,n]) t|nil {g}:e_ g (.mk 7 0 .z []) .nK|cons {g a b}:e_ g a .nat->e_ g b .nK->e_ g (.mk 8 0 .z [a,b]) .nK|fold {g t b s n}:t.err=0->e_ g b t->e_ g s (.fn .nat (.fn .nK (.fn t t)))->e_ g n .nK->e_ g (.mk 9 0 t [b,s,n]) t|pair {g a b s t}:(Ty.pr s t).err=0->e_ g a s->e_ g b t->e_ g (.mk 10 0 .z [a,b]) (.pr s t)|fst {g a s t}:e_ g a (.pr s t)->e_ g (.mk 11 0 .z [a]) s|snd {g a s t}:e_ g a (.pr s t)->e_ g (.mk 12 0 .z [a]) t|unit {g}:e_ g (.mk 13 0 .z []) .unit
theorem Ty.qK:Ty.z.rQ=true:=rfl
def Ty.sX{k:Int}(c:k=3\/k=4){a b:Ty}(h:(Ty.mk k [a,b]).err=0):a.err=0/\b.err=0:=by grind[Ty.lW,Ty.h_,Ty.Ap,Ty.wS]
def e_.ok{g:List Ty}{x:Tm}{t:Ty}(h:e_ g x t):x.ok=true:=by
 induction h with
 |var i d f=>grind[Tm.h_,Tm.node,iM,kD,Ty.qK]|lam d _ c=>have:=(Ty.sX (.inr rfl) d).1;simp[Tm.h_,Tm.node,iM,kD,this,c]
 |app _ _ a b=>simp[Tm.h_,Tm.node,iM,kD,Ty.qK,a,b]|zero=>simp[Tm.h_,Tm.node,iM,kD,Ty.qK]|succ _ c=>simp[Tm.h_,Tm.node,iM,kD,Ty.qK,c]|uD d _ _ _ a b e=>grind[Tm.h_,Tm.node,iM,kD]|nil=>simp[Tm.h_,Tm.node,iM,kD,Ty.qK]|cons _ _ a b=>simp[Tm.h_,Tm.node,iM,kD,Ty.qK,a,b]|fold d _ _ _ a b e=>grind[Tm.h_,Tm.node,iM,kD]|pair _ _ _ a b=>simp[Tm.h_,Tm.node,iM,kD,Ty.qK,a,b]|fst _ c=>simp[Tm.h_,Tm.node,iM,kD,Ty.qK,c]|snd _ c=>simp[Tm.h_,Tm.node,iM,kD,Ty.qK,c]|unit=>simp[Tm.h_,Tm.node,iM,kD,Ty.qK]
def Tm.mg(t:Tm):∀{m n:Int},m<=n->t.ace m=true->t.ace n=true:=by
 induction t using Tm.ind with
 |h k i s l a=>grind[Tm.fo]
def e_.ace{g:List Ty}{x:Tm}{t:Ty}(h:e_ g x t):∀m:Int,((g.length+x.ab':Nat):Int)<=m->x.ace m=true:=by
 induction h with
 |var i e f=>grind[Tm.ef,eE,Tm.fo]|lam _ _ c=>grind[Tm.ef,eE,Tm.fo]|zero|nil|unit=>grind[Tm.ef,eE,Tm.fo]|succ _ c|fst _ c|snd _ c=>grind[Tm.ef,eE,Tm.fo]|app _ _ a b|cons _ _ a b|pair _ _ _ a b=>grind[Tm.ef,eE,Tm.fo]|uD _ _ _ _ a b d|fold _ _ _ _ a b d=>grind[Tm.ef,eE,Tm.fo]
def Gc{α:Type}{f g:α->Nat}{c:Nat}{l:List α}(h:∀x∈l,f x<=c*g x):eE f l<=c*eE g l:=by
 induction l with
 |nil=>simp[eE]|cons x l a=>simp only[eE,Kf];have:=h x (by simp);have:=a λy hy=>h y (by simp[hy]);omega
def Tm.jF(t:Tm)(h:t.ok=true):t.wt<=65*t.ab':=by
 induction t using Tm.ind with
 |h k i s l c=>
  rw[Tm.h_] at h;simp only[gI,kF] at h;rw[Tm.fP,Tm.ef,Kf];have d:=Gc λx b=>c x b (h.2 x b)
  have e:s.ab'<=64:=by
   have:=h.1;simp only[Tm.node,gI] at this;have a:=this.2
   split at a
   ·simp only[nq] at a;exact(Ty.lW a).2
   ·grind[Ty.mQ,Ty.ef,eE]
  omega
def Fm.jF(f:Fm)(h:f.ok=true):f.wt<=65*f.ab':=by
 induction f using Fm.ind with
 |h k s ts l b=>
  rw[Fm.h_] at h;simp only[gI,kF] at h;rw[Fm.fP,Fm.ef,Kf,Kf];have d:=Gc λx a=>b x a (h.2 x a);have e:=Gc (f:=Tm.wt) (g:=Tm.ab') (c:=65) (l:=ts) λx a=>x.jF (h.1.2 x a)
  have i:s.ab'<=64:=by
   have:=h.1.1;unfold Fm.node at this
   split at this
   ·grind[Ty.mQ,Ty.ef,eE]
   ·split at this
    ·grind[Ty.mQ,Ty.ef,eE]
    ·simp only[gI,nq] at this;exact(Ty.lW this.1.1.2).2
  omega
structure ew.wf (d:ew):Prop where
 len:d.l.length<=1000
 lo:0<=d.pY
 hi:d.pY<=d.l.length
def P4(x n:Int)(c:1<=n)(d:n<=1000000000):∃y,HE x n=some y/\0<=y/\y<n:=by
 unfold HE;simp only[SL (b:=n) (by omega)];refine⟨_,rfl,?_⟩;unfold Su
 have e:(x.tmod n).natAbs<n.natAbs:=by
  rw[Int.natAbs_tmod];exact UL _ (by omega)
 rw[fq (by omega) (by omega)]
 have a:0<=x.tmod n+n:=by omega
 exact⟨Int.tmod_nonneg _ a,Int.tmod_lt_of_pos _ (by omega)⟩
def lb(d:ew)(a:d.wf)(n:Int)(c:1<=n)(e:n<=1000000000):∃x b,gk d n=some (x,b)/\0<=x/\x<n/\b.wf:=by
 unfold gk;simp only[la,pO,mE,iU,fR]
 by_cases f:n<1\/(d.l.length:Int)<=d.pY
 ·grind
 ·rw[ea f];obtain⟨y,hy,_⟩:=JQ (l:=d.l) a.lo (by omega);obtain⟨z,g,h,i⟩:=P4 y n c e;rw[hy];simp only[cl,g];have:=a.len;have:=a.lo;rw[fq (by omega) (by omega)];exact⟨z,_,rfl,h,i,⟨a.len,by show 0<=d.pY+1;omega,by show d.pY+1<=(d.l.length:Int);omega⟩⟩
def fI:iG=some .nat:=rfl
def gQ:mZ=some .nK:=rfl
def IT:vp=some .unit:=rfl
def yi{a b:Ty}(c:a.ab'<=1000000000)(d:b.ab'<=1000000000):uS a b=some (.pr a b):=by
 unfold uS;rw[jg c,jg d];rfl
def jx{a b:Ty}(c:a.ab'<=1000000000)(d:b.ab'<=1000000000):lx a b=some (.fn a b):=by
 unfold lx;rw[jg c,jg d];rfl
def Ty.RN:Ty.nat.ok=true:=by unfold Ty.nat;rw[Ty.h_];rfl
def Ty.R5:Ty.nK.ok=true:=by unfold Ty.nK;rw[Ty.h_];rfl
def Ty.Pa:Ty.unit.ok=true:=by unfold Ty.unit;rw[Ty.h_];rfl
def Ty.ir:Ty.nat.ab'=1:=by unfold Ty.nat;rw[Ty.ef];rfl
def Ty.pG:Ty.nK.ab'=1:=by unfold Ty.nK;rw[Ty.ef];rfl
def Ty.F3:Ty.unit.ab'=1:=by unfold Ty.unit;rw[Ty.ef];rfl
def Ty.j3(a b:Ty):(Ty.fn a b).ab'=1+a.ab'+b.ab':=Ty.Ap _ _ _
def Ty.vb(a b:Ty):(Ty.pr a b).ab'=1+a.ab'+b.ab':=Ty.Ap _ _ _
theorem R4(k:Nat)(h:k<=4):1<=2^k/\2^k<=16:=by
 have:k=0\/k=1\/k=2\/k=3\/k=4:=by omega
 grind
def OM:∀(n k:Nat) (d:ew),k<n->k<=4->d.wf->∃t f,iY n d (k:Int)=some (t,f)/\t.ok=true/\t.ab'+1<=2^(k+1)/\f.wf:=by
 intro n
 induction n with
 |zero=>intro k d h;omega|succ n v=>
  intro k d w j r;obtain⟨x,d1,s,y,z,g⟩:=lb d r 7 (by omega) (by omega);have A:=R4 k j
  have B:(2:Nat)^(k+1)=2*2^k:=by rw[Nat.pow_succ];omega
  have c:=λf (l:ew.wf f)=>(⟨Ty.nat,f,rfl,Ty.RN,by rw[Ty.ir];omega,l⟩:∃t i,some (Ty.nat,f)=some (t,i)/\t.ok=true/\t.ab'+1<=2^(k+1)/\i.wf);rw[iY];simp only[ez,s,eb,fI,gQ,IT,cl,la,pO,gw,gA]
  split
  ·exact c d1 g
  split
  ·exact⟨.nK,d1,rfl,Ty.R5,by rw[Ty.pG];omega,g⟩
  split
  ·exact⟨.unit,d1,rfl,Ty.Pa,by rw[Ty.F3];omega,g⟩
  have two:0<(k:Int)->∃a b d2 d3,iY n d1 (fD .i64 (k:Int) 1)=some (a,d2)/\iY n d2 (fD .i64 (k:Int) 1)=some (b,d3)/\a.ok=true/\b.ok=true/\a.ab'+1<=2^k/\b.ab'+1<=2^k/\d3.wf:=by
   intro e;obtain⟨m,rfl⟩:∃m,k=m+1:=⟨k-1,by omega⟩
   grind[fH]
  split
  ·split
   ·rename_i e;obtain⟨a,b,d2,d3,a1,o,a2,p,a3,u,q⟩:=two e;rw[a1];simp only[eb];rw[o];simp only[eb];rw[yi (by omega) (by omega)];exact⟨_,_,rfl,Ty.ok_two (.inl rfl) a2 p,by rw[Ty.vb];omega,q⟩
   ·exact c d1 g
  split
  ·split
   ·rename_i e;obtain⟨a,b,d2,d3,a1,o,a2,p,a3,u,q⟩:=two e;rw[a1];simp only[eb];rw[o];simp only[eb];rw[jx (by omega) (by omega)];exact⟨_,_,rfl,Ty.ok_two (.inr rfl) a2 p,by rw[Ty.j3];omega,q⟩
   ·exact c d1 g
  ·exact c d1 g
def xw(d:ew)(b:d.wf)(k:Nat)(c:k<=4):∃t a,iY FU d (k:Int)=some (t,a)/\t.err=0/\t.ab'+1<=2^(k+1)/\a.wf:=by
 obtain⟨t,a,e,f,g,h⟩:=OM FU k d (by rw[fy];omega) c b
 grind[R4,Ty.wS]
def N1(g:List Ty)(t:Ty)(hg:g.length<=1000000)(hn:∀s∈g,s.ab'<=1000000000):∃l,Cy g t=some l/\l.length<=g.length/\∀v∈l,∃i:Nat,v=i/\i<g.length/\g[g.length-1-i]?=some t:=by
 unfold Cy;simp only[eB (l:=g) (by omega),eo,ez]
 have key:∀(l:List Ty) (i:Nat) (v:List Int),i+l.length=g.length->v.length<=i->(∀x∈v,∃j:Nat,x=j/\j<g.length/\g[g.length-1-j]?=some t)->∃a,fp (ρ:=List Int) (λ(j:Int) (r:Ty) (v:List Int)=>cv (eJ g (fD .i64 (fD .i64 (eM g) 1) j)) λx=>cv (fQ FU x t) λy=>if y=true then gS (gr v [j]) (some (gj.next (gG v [j])))else some (gj.next v)) l i v=some (.inl a)/\a.length<=g.length/\∀x∈a,∃j:Nat,x=j/\j<g.length/\g[g.length-1-j]?=some t:=by
  intro l
  induction l with
  |nil=>
   intro i v d k c;exact⟨v,rfl,by simp at d;omega,c⟩
  |cons y l f=>
   intro i v d k c;simp only[ld] at d
   have b:g.length-1-i<g.length:=by omega
   have n:eJ g (fD .i64 (fD .i64 (eM g) 1) (i:Int))=some g[g.length-1-i]:=by grind[fR,fH,jj]
   rw[fl];simp only[n,cl,jh (hn _ (CG b))];cases hs:Ty.lS g[g.length-1-i] t with
   |false=>
    simp only[tY,P5,cl,ft];exact f (i+1) v (by omega) (by omega) c
   |true=>
    rw[Ty.k0] at hs;simp only[if_true,fx (l:=v) (m:=[(i:Int)]) (by simp;omega),eo,cl,ft,gY];refine f (i+1) (v++[(i:Int)]) (by omega) (by simp;omega) ?_;intro x e;rcases sR.1 e with h|h
    ·exact c x h
    ·rw[w4] at h;exact⟨i,h,by omega,by rw[oD b,hs]⟩
 obtain⟨a,o,p,q⟩:=key g 0 [] (by simp) (by simp) (by simp);rw[o];exact⟨a,rfl,p,q⟩
def oV(g l:List Ty)(h:g.length+l.length<=1000000):mV g l=some (g++l):=by
 unfold mV;rw[fx (by simp;omega),fx (by simp;omega)];simp
def Ed(n:Nat)(hn:n<=1000000):∃x,rf (n:Int)=some x/\∀g,e_ g x .nat/\x.ab'=n+1:=by
 unfold rf;rw[qu 4 [] (by simp[eE])];simp only[cl,ez]
 obtain⟨o,m,l⟩:=xp (ρ:=Tm) (F:=QY λ(h:Int) (i:Int) (v167:Int) (v168:Int) (j:List Ty) (k:List Tm)=>
   if nX h 0=true then some (gj.next (fD .i64 h 1,5,0,0,[],[Tm.mk i v167 (Ty.mk v168 j) k]))else some (gj.Ft (h,i,v167,v168,j,k)))
  (λs=>0<=s.1/\s.1<=n/\(∀g,e_ g (Tm.mk s.2.1 s.2.2.1 (Ty.mk s.2.2.2.1 s.2.2.2.2.1) s.2.2.2.2.2) .nat)/\(Tm.mk s.2.1 s.2.2.1 (Ty.mk s.2.2.2.1 s.2.2.2.2.1) s.2.2.2.2.2).ab'+s.1=n+1)
  (λs=>s.1.toNat)
  (λo=>match o with|.inl s=>(∀g,e_ g (Tm.mk s.2.1 s.2.2.1 (Ty.mk s.2.2.2.1 s.2.2.2.2.1) s.2.2.2.2.2) .nat)/\(Tm.mk s.2.1 s.2.2.1 (Ty.mk s.2.2.2.1 s.2.2.2.2.1) s.2.2.2.2.2).ab'=n+1|.inr _=>False)
  (by
   rintro⟨a,b,c,d,e,f⟩ ⟨m,l,p,t⟩;simp only at m l p t
   by_cases q:0<a
   ·left;refine⟨_,by simp only[zh,gA,q,if_true];rfl,⟨?_,?_,?_,?_⟩,?_⟩
    ·rw[fH (by omega) (by omega)];show 0<=a-1;omega
    ·rw[fH (by omega) (by omega)];show a-1<=n;omega
    ·intro g;exact e_.succ (p g)
    all_goals grind[fH,Tm.ef,eE]
   ·right;left;refine⟨_,by simp only[zh,gA,q,P5];rfl,p,?_⟩
    have:a=0:=by omega
    subst this
    simp only;omega)
  FU ((n:Int),4,0,0,[],[]) ⟨by simp,by simp,λg=>e_.zero,by rw[Tm.ef];simp[eE];omega⟩ (by rw[fy];show(n:Int).toNat<_;omega)
 simp only[Tm.eN,Tm.gx,Tm.fw,Ty.eN,Ty.eG,Tm.eG];rw[m];cases o with
 |inr r=>exact l.elim|inl s=>
  obtain⟨a,b,c,d,e,f⟩:=s;exact⟨_,rfl,λg=>⟨l.1 g,l.2⟩⟩
def D7(n:Int)(b:0<=n)(hn:n<=4000):∃x,zt n=some x/\∀g,e_ g x .nat/\(x.ab':Int)=n+1:=by
 obtain⟨k,rfl⟩:=Tb b;obtain⟨x,c,a⟩:=Ed k (by omega);unfold zt uH;simp only[mE,iU];rw[ea (by omega),ea (by omega),c];exact⟨x,rfl,λg=>⟨(a g).1,by rw[(a g).2];simp⟩⟩
structure N4 (g:List Ty) (x:Tm) (t:Ty) (n:Nat):Prop where
 ty:e_ g x t
 ab':x.ab'<=n
def N4.wt{g:List Ty}{x:Tm}{t:Ty}{n:Nat}(h:N4 g x t n):x.wt<=65*n:=by
 have:=x.jF h.ty.ok;have:=h.ab';omega
theorem N4.mono{g:List Ty}{x:Tm}{t:Ty}{n m:Nat}(h:N4 g x t n)(hm:n<=m):N4 g x t m:=⟨h.ty,C7 h.ab' hm⟩
def Jz{k:Int}{a:Tm}(b:a.wt<=100000000):gq k [a]=some (.mk k 0 .z [a]):=qu k [a] (by simp[eE];omega)
def tR{k:Int}{a b:Tm}(c:a.wt<=100000000)(d:b.wt<=100000000):gq k [a,b]=some (.mk k 0 .z [a,b]):=qu k [a,b] (by simp[eE];omega)
def Gr{k:Int}:gq k []=some (.mk k 0 .z []):=qu k [] (by simp[eE])
def A_{k:Int}{s:Ty}{a:Tm}(hs:s.ab'<=1000000000)(b:a.wt<=100000000):lZ k s [a]=some (.mk k 0 s [a]):=F1 k s [a] hs (by simp[eE];omega)
def Db{k:Int}{s:Ty}{a b c:Tm}(hs:s.ab'<=1000000000)(d:a.wt<=100000000)(e:b.wt<=100000000)(f:c.wt<=100000000):lZ k s [a,b,c]=some (.mk k 0 s [a,b,c]):=
 F1 k s [a,b,c] hs (by simp[eE];omega)
def Kk{f a b:Tm}(c:f.wt<=10000000)(d:a.wt<=10000000)(e:b.wt<=10000000):Bz f [a,b]=some (.mk 3 0 .z [.mk 3 0 .z [f,a],b]):=by
 have g:(Tm.mk 3 0 .z [f,a]).wt<=30000000:=by rw[Tm.fP];have:Ty.z.ab'=1:=rfl;simp[eE,this];omega
 unfold Bz
 simp only[eB (l:=[a,b]) (by simp),eo,ez,fl,pq,F9,Ty.lM,Tm.lM,tR (k:=3) (a:=f) (b:=a) (by omega) (by omega),cl,ft,tR (k:=3) (a:=.mk 3 0 .z [f,a]) (b:=b) (by omega) (by omega),ei]
def Ty.hE:Ty.nat.err=0:=Ty.wS Ty.RN (by rw[Ty.ir];omega)
def Ty.o7:Ty.nK.err=0:=Ty.wS Ty.R5 (by rw[Ty.pG];omega)
def Ty.Ha:Ty.unit.err=0:=Ty.wS Ty.Pa (by rw[Ty.F3];omega)
def Ty.yB{a b:Ty}(c:a.err=0)(d:b.err=0)(h:a.ab'+b.ab'<=63):(Ty.fn a b).err=0:=Ty.wS (Ty.ok_two (.inr rfl) (Ty.lW c).1 (Ty.lW d).1) (by rw[Ty.j3];omega)
def Ty.Ng{a b:Ty}(c:a.err=0)(d:b.err=0)(h:a.ab'+b.ab'<=63):(Ty.pr a b).err=0:=Ty.wS (Ty.ok_two (.inl rfl) (Ty.lW c).1 (Ty.lW d).1) (by rw[Ty.vb];omega)
def FB(i:Nat):Tm:=.mk 1 i .z []
def mW(s:Ty)(b:Tm):Tm:=.mk 2 0 s [b]
def iV(f a:Tm):Tm:=.mk 3 0 .z [f,a]
def ve:Tm:=.mk 4 0 .z []
def kc(a:Tm):Tm:=.mk 5 0 .z [a]
def OQ(t:Ty)(a b c:Tm):Tm:=.mk 6 0 t [a,b,c]
def oc:Tm:=mW .nat (mW .nat (OQ .nat (FB 1) (mW .nat (mW .nat (kc (FB 0)))) (FB 0)))
def No:Tm:=mW .nat (OQ .nat ve (mW .nat (mW .nat (FB 1))) (FB 0))
def S5:Tm:=mW .nat (mW .nat (OQ .nat (FB 1) (mW .nat (mW .nat (iV No (FB 0)))) (FB 0)))
def BZ(i:Nat):fY (i:Int)=some (FB i):=rfl
def u_{a:Tm}(b:a.wt<=100000000):lr a=some (mW .nat a):=by
 unfold lr;rw[fI];simp only[cl];rw[A_ (by rw[Ty.ir];omega) b];rfl
def rec_eq{a b c:Tm}(d:a.wt<=100000000)(e:b.wt<=100000000)(f:c.wt<=100000000):tn a b c=some (OQ .nat a b c):=by
 unfold tn;rw[fI];simp only[cl];rw[Db (by rw[Ty.ir];omega) d e f];rfl
def A7:tc=some oc:=by
 unfold tc;rw[show fY 1=some (FB 1)from rfl,show fY 0=some (FB 0)from rfl];simp only[cl];rw[Jz (by decide)];simp only[cl];rw[u_ (by decide)];simp only[cl];rw[u_ (by decide)];simp only[cl];rw[rec_eq (by decide) (by decide) (by decide)];simp only[cl];rw[u_ (by decide)];simp only[cl];rw[u_ (by decide)];rfl
def Ic:vu=some No:=by
 unfold vu;rw[show fY 1=some (FB 1)from rfl,show fY 0=some (FB 0)from rfl,Gr];simp only[cl];rw[u_ (by decide)];simp only[cl];rw[u_ (by decide)];simp only[cl];rw[rec_eq (by decide) (by decide) (by decide)];simp only[cl];rw[u_ (by decide)];rfl
def Kt:xi=some S5:=by
 unfold xi;rw[show fY 1=some (FB 1)from rfl,show fY 0=some (FB 0)from rfl,Ic];simp only[cl];rw[tR (by decide) (by decide)];simp only[cl];rw[u_ (by decide)];simp only[cl];rw[u_ (by decide)];simp only[cl];rw[rec_eq (by decide) (by decide) (by decide)];simp only[cl];rw[u_ (by decide)];simp only[cl];rw[u_ (by decide)];rfl
def ZD{g:List Ty}{t:Ty}(i:Nat)(h:i<g.length)(a:g[g.length-1-i]?=some t):e_ g (FB i) t:=e_.var i h a
def vA{g:List Ty}{t:Ty}:e_ (g++[t]) (FB 0) t:=e_.var 0 (by simp) (by simp)
def Gb{g:List Ty}{s t:Ty}:e_ (g++[t]++[s]) (FB 1) t:=e_.var 1 (by simp) (by simp)
def zX:(Ty.fn .nat .nat).err=0:=Ty.yB Ty.hE Ty.hE (by rw[Ty.ir];omega)
def Cp:(Ty.fn .nat (Ty.fn .nat .nat)).err=0:=Ty.yB Ty.hE zX (by rw[Ty.j3,Ty.ir];omega)
def D6(g:List Ty):e_ g oc (.fn .nat (.fn .nat .nat)):=
 .lam Cp (.lam zX (.uD Ty.hE Gb (.lam Cp (.lam zX (.succ vA))) vA))
def Qy(g:List Ty):e_ g No (.fn .nat .nat):=
 .lam zX (.uD Ty.hE .zero (.lam Cp (.lam zX Gb)) vA)
def SM(g:List Ty):e_ g S5 (.fn .nat (.fn .nat .nat)):=
 .lam Cp (.lam zX (.uD Ty.hE Gb (.lam Cp (.lam zX (.app (Qy _) vA))) vA))
def C_:oc.ab'=9:=by decide
def LJ:S5.ab'=16:=by decide
def pJ{α β:Type}{G:Option β->Prop}(P:α->Prop){k:α->Option β}{b:(α->Option β)->Option β}(c:∀a,P a->G (k a))(d:∀j:α->Option β,(∀a,P a->G (j a))->G (b j)):G (eK k b):=d k c
def GP{α γ β:Type}{G:Option β->Prop}(P:α->γ->Prop){k:α->γ->Option β}{b:(α->γ->Option β)->Option β}(d:∀a c,P a c->G (k a c))(e:∀j:α->γ->Option β,(∀a c,P a c->G (j a c))->G (b j)):G (eK k b):=e k d
def tb(N:Nat):Nat->Nat
 |0=>3*N|k+1=>30+3*tb N k
def aaj{N:Nat}(a:N<=20):∀k,k<=5->tb N k<=18300:=by
 intro k b
 have:k=0\/k=1\/k=2\/k=3\/k=4\/k=5:=by omega
 rcases this with rfl|rfl|rfl|rfl|rfl|rfl<;>simp only[tb]<;>omega
def Rk{N k:Nat}:3*N<=tb N k:=by
 induction k with
 |zero=>simp[tb]|succ k a=>grind[tb]
def kP(g:List Ty)(t:Ty)(b:Nat)(o:Option (Tm×ew)):Prop:=∃x a,o=some (x,a)/\a.wf/\N4 g x t b
def kP.of{g:List Ty}{t:Ty}{b:Nat}{x:Tm}{d:ew}(a:d.wf)(h:e_ g x t)(hn:x.ab'<=b):kP g t b (some (x,d)):=⟨x,d,rfl,a,h,hn⟩
structure qD (N:Nat) (g:List Ty):Prop where
 all:∀s∈g,s.err=0/\s.ab'<=N
def qD.app{N:Nat}{g l:List Ty}(h:qD N g)(a:∀s∈l,s.err=0/\s.ab'<=N):qD N (g++l):=
 ⟨λs hs=>by rcases sR.1 hs with h'|h';exact h.all s h';exact a s h'⟩
def Ty.rG{t:Ty}(h:t.err=0):t=.nat\/t=.nK\/t=.unit\/(∃a b,t=.pr a b/\a.err=0/\b.err=0)\/(∃a b,t=.fn a b/\a.err=0/\b.err=0):=by
 cases t with
 |mk k l=>
  have e:=(Ty.lW h).1;rw[Ty.h_] at e;simp only[gI,nq] at e;have c:=e.1;unfold Ty.want at c
  split at c
  ·rename_i d;injection c with c;have:=T4.1 c.symm;subst this;rcases d with rfl|rfl|rfl
   ·exact .inl rfl
   ·exact .inr (.inl rfl)
   ·exact .inr (.inr (.inl rfl))
  ·split at c
   ·rename_i d;injection c with c;obtain⟨a,b,rfl⟩:=qP (l:=l) (by omega);have:=Ty.sX d h;rcases d with rfl|rfl
    ·exact .inr (.inr (.inr (.inl ⟨a,b,rfl,this⟩)))
    ·exact .inr (.inr (.inr (.inr ⟨a,b,rfl,this⟩)))
   ·cases c
set_option maxHeartbeats 1000000 in
def OF(N:Nat)(aH:1<=N)(hN:N<=20):∀(n:Nat) (dep:Int) (g:List Ty) (t:Ty) (d:ew),dep.toNat*(N+1)+t.ab'<n->dep<=5->-1000000<=dep-t.ab'->g.length+(3+N)*dep.toNat+t.ab'<=1000->qD N g->t.err=0->t.ab'<=N->d.wf->kP g t (if dep<=0 then 3*t.ab' else tb N dep.toNat) (gD n d g t dep):=by
 intro n
 induction n with
 |zero=>intro dep g t d h;omega|succ n ih=>
  intro dep g t d hm aI aG hlen hg q p hd;have aJ:=t.eP;have ak:=(Ty.lW q).2
  have deep:0<dep->∀P M O,P.length<=g.length+3->qD N P->M.err=0->M.ab'<=N->O.wf->kP P M (tb N (dep.toNat-1)) (gD n O P M (fD .i64 dep 1)):=by
   intro e P M O Q T X v h5;obtain⟨k,rfl⟩:∃k:Nat,dep=(k+1:Nat):=⟨dep.toNat-1,by omega⟩
   have e1:((k+1:Nat):Int).toNat=k+1:=by simp
   rw[e1] at hm hlen|-;rw[fH (by omega) (by omega),show((k+1:Nat):Int)-1=(k:Int) by omega]
   have hmul:(k+1)*(N+1)=k*(N+1)+N+1:=by rw[AD];omega
   have al:(3+N)*(k+1)=(3+N)*k+3+N:=by rw[Kf];omega
   obtain⟨x,d1,a1,a2,a3⟩:=ih (k:Int) P M O (by simp;omega) (by omega) (by omega) (by simp;omega) T X v h5;refine⟨x,d1,a1,a2,a3.mono ?_⟩;simp only[Uw]
   split
   ·have:k=0:=by omega
    subst this;simp only[tb];omega
   ·simp
  have flat:dep<=0->∀P M O,P.length<=g.length+1->M.ab'+1<=t.ab'->qD N P->M.err=0->O.wf->kP P M (3*M.ab') (gD n O P M (fD .i64 dep 1)):=by
   intro e P M O Q h0 T X h5
   have e1:dep.toNat=0:=by omega
   rw[e1] at hm hlen;rw[fH (by omega) (by omega)]
   have e2:(dep-1).toNat=0:=by omega
   have:=ih (dep-1) P M O (by rw[e2];omega) (by omega) (by omega) (by rw[e2];omega) T X (by omega) h5;rw[ee (by omega)] at this;exact this
  have U:0<dep->(if dep<=0 then 3*t.ab' else tb N dep.toNat)=30+3*tb N (dep.toNat-1):=by
   intro e;rw[ea (by omega)];obtain⟨k,hk⟩:∃k,dep.toNat=k+1:=⟨dep.toNat-1,by omega⟩;rw[hk];rfl
  have an:0<dep->tb N (dep.toNat-1)<=18300:=λ_=>aaj hN _ (by omega)
  have aa:3*t.ab'<=(if dep<=0 then 3*t.ab' else tb N dep.toNat):=by
   split
   ·omega
   ·have:=Rk (N:=N) (k:=dep.toNat);omega
  generalize (if dep<=0 then 3*t.ab' else tb N dep.toNat)=B at U aa|-
  have m:∀{g x t},0<dep->N4 g x t (tb N (dep.toNat-1))->x.wt<=1300000:=by
   intro g x t e h;have:=h.wt;have:=an e;omega
  obtain⟨vs,ao,aK,aq⟩:=N1 g t (by omega) (λs hs=>by have:=(hg.all s hs).2;omega);rw[gD,ao];simp only[cl];refine GP (G:=kP g t B) (λa c=>c.wf/\(a=true->vs≠[])) ?_ ?_
  ·--a variable,or ab else
   rintro a d1 ⟨ad,ar⟩;cases a with
   |true=>
    simp only[if_true];have au:=ar rfl
    have aL:1<=vs.length:=by cases vs with|nil=>exact absurd rfl au|cons _ _=>simp
    obtain⟨x,d2,Q,T,X,v⟩:=lb d1 ad (eM vs) (by simp;omega) (by simp;omega);rw[Q];simp only[eb];obtain⟨y,hy,aw⟩:=JQ (l:=vs) T (by simpa using X);rw[hy];simp only[cl];obtain⟨i,rfl,ax,ay⟩:=aq y aw;rw[BZ];refine kP.of v (ZD i ax ay) ?_
    have:(FB i).ab'=1:=by unfold FB;rw[Tm.ef];rfl
    omega
   |false=>
    simp only[tY,P5];refine pJ (G:=kP g t B) ew.wf ?_ ?_
    ·--by ah type
     intro d2 w;rcases Ty.rG q with rfl|rfl|rfl|⟨a,b,rfl,ha,hb⟩|⟨a,b,rfl,ha,hb⟩
     ·--numbers
      simp only[show Ty.nat.ab9=1 from rfl,gw,if_true];refine pJ (G:=kP g .nat B) ew.wf ?_ ?_
      ·intro d3 Y;obtain⟨x,d4,Q,T,X,v⟩:=lb d3 Y 3 (by omega) (by omega);rw[Q];simp only[eb];obtain⟨y,az,ai⟩:=D7 x T (by omega);rw[az];refine kP.of v (ai g).1 ?_;have:=(ai g).2;rw[Ty.ir] at aa;omega
      ·intro j S;simp only[gA]
       split
       ·rename_i e;have U:=U e;obtain⟨x,d4,Q,T,X,v⟩:=lb d2 w 5 (by omega) (by omega);rw[Q];simp only[eb,gw]
        split
        ·obtain⟨a,d5,a1,a2,a3⟩:=deep e g .nat d4 (by omega) hg Ty.hE p v;rw[a1];simp only[eb];rw[Jz (by have:=m e a3;omega)];refine kP.of a2 (.succ a3.ty) ?_;have:=a3.ab';rw[Tm.ef];simp only[eE];omega
        split
        ·rw[A7];simp only[cl];obtain⟨a,d5,a1,a2,a3⟩:=deep e g .nat d4 (by omega) hg Ty.hE p v;rw[a1];simp only[eb];obtain⟨b,d6,A,C,o⟩:=deep e g .nat d5 (by omega) hg Ty.hE p a2;rw[A];simp only[eb];rw[Kk (by decide) (by have:=m e a3;omega) (by have:=m e o;omega)];refine kP.of C (.app (.app (D6 g) a3.ty) o.ty) ?_;have:=a3.ab';have:=o.ab';have:=C_;rw[Tm.ef];simp only[eE,Tm.ef];omega
        split
        ·rw[Kt];simp only[cl];obtain⟨a,d5,a1,a2,a3⟩:=deep e g .nat d4 (by omega) hg Ty.hE p v;rw[a1];simp only[eb];obtain⟨b,d6,A,C,o⟩:=deep e g .nat d5 (by omega) hg Ty.hE p a2;rw[A];simp only[eb];rw[Kk (by decide) (by have:=m e a3;omega) (by have:=m e o;omega)];refine kP.of C (.app (.app (SM g) a3.ty) o.ty) ?_;have:=a3.ab';have:=o.ab';have:=LJ;rw[Tm.ef];simp only[eE,Tm.ef];omega
        ·exact S d4 v
       ·exact S d2 w
     ·--lists
      simp only[show Ty.nK.ab9=2 from rfl,gw,if_true,show¬(2:Int)=1 by omega,P5];refine GP (G:=kP g .nK B) (λa c=>c.wf/\(a=true->0<dep)) ?_ ?_
      ·rintro a d3 ⟨Y,e⟩;cases a with
       |true=>
        have e:=e rfl;have U:=U e;simp only[if_true];rw[fI];simp only[cl];obtain⟨a,d5,a1,a2,a3⟩:=deep e g .nat d3 (by omega) hg Ty.hE (by rw[Ty.ir];omega) Y;rw[a1];simp only[eb];obtain⟨b,d6,A,C,o⟩:=deep e g .nK d5 (by omega) hg Ty.o7 p a2;rw[A];simp only[eb];rw[tR (by have:=m e a3;omega) (by have:=m e o;omega)];refine kP.of C (.cons a3.ty o.ty) ?_;have:=a3.ab';have:=o.ab';rw[Tm.ef];simp only[eE];omega
       |false=>
        simp only[tY,P5];rw[Gr];refine kP.of Y .nil ?_;rw[Tm.ef];simp only[eE];omega
      ·intro j S;simp only[gA]
       split
       ·rename_i e;obtain⟨x,d4,Q,T,X,v⟩:=lb d2 w 2 (by omega) (by omega);rw[Q];simp only[eb];exact S _ d4 ⟨v,λ_=>e⟩
       ·exact S _ d2 ⟨w,λh=>by cases h⟩
     ·simp only[show Ty.unit.ab9=5 from rfl,gw,show¬(5:Int)=1 by omega,show¬(5:Int)=2 by omega,show¬(5:Int)=3 by omega,show¬(5:Int)=4 by omega,P5];rw[Gr];refine kP.of w .unit ?_;rw[Tm.ef];simp only[eE];omega
     ·simp only[show(Ty.pr a b).ab9=3 from rfl,show(Ty.pr a b).ab_=[a,b] from rfl,gw,show¬(3:Int)=1 by omega,show¬(3:Int)=2 by omega,if_true,P5,eU,gz,jA,mP,cl];rw[Ty.vb] at p ak aa
      by_cases e:0<dep
      ·have U:=U e;obtain⟨x,d5,a1,a2,a3⟩:=deep e g a d2 (by omega) hg ha (by omega) w;rw[a1];simp only[eb];obtain⟨y,d6,A,C,o⟩:=deep e g b d5 (by omega) hg hb (by omega) a2;rw[A];simp only[eb];rw[tR (by have:=m e a3;omega) (by have:=m e o;omega)];refine kP.of C (.pair q a3.ty o.ty) ?_;have:=a3.ab';have:=o.ab';rw[Tm.ef];simp only[eE];omega
      ·have aA:=Ty.vb a b;obtain⟨x,d5,a1,a2,a3⟩:=flat (by omega) g a d2 (by omega) (by omega) hg ha w;rw[a1];simp only[eb];obtain⟨y,d6,A,C,o⟩:=flat (by omega) g b d5 (by omega) (by omega) hg hb a2;rw[A];simp only[eb];have:=a3.ab';have:=o.ab';rw[tR (by have:=a3.wt;omega) (by have:=o.wt;omega)];refine kP.of C (.pair q a3.ty o.ty) ?_;rw[Tm.ef];simp only[eE];omega
     ·simp only[show(Ty.fn a b).ab9=4 from rfl,show(Ty.fn a b).ab_=[a,b] from rfl,gw,show¬(4:Int)=1 by omega,show¬(4:Int)=2 by omega,show¬(4:Int)=3 by omega,if_true,P5,eU,gz,jA,mP,cl];have aA:=Ty.j3 a b;rw[oV g [a] (by simp;omega)];simp only[cl];have R:qD N (g++[a]):=hg.app (by intro s hs;rw[w4] at hs;subst hs;exact⟨ha,by omega⟩)
      by_cases e:0<dep
      ·have U:=U e;obtain⟨x,d5,a1,a2,a3⟩:=deep e (g++[a]) b d2 (by simp) R hb (by omega) w;rw[a1];simp only[eb];rw[A_ (by omega) (by have:=m e a3;omega)];refine kP.of a2 (.lam q a3.ty) ?_;have:=a3.ab';rw[Tm.ef];simp only[eE];omega
      ·obtain⟨x,d5,a1,a2,a3⟩:=flat (by omega) (g++[a]) b d2 (by simp) (by omega) R hb w;rw[a1];simp only[eb];have:=a3.ab';rw[A_ (by omega) (by have:=a3.wt;omega)];refine kP.of a2 (.lam q a3.ty) ?_;rw[Tm.ef];simp only[eE];omega
    ·--a aB,or one of ah context
     intro j S;simp only[gA]
     split
     ·rename_i e;have U:=U e;obtain⟨x,d2,Q,T,X,v⟩:=lb d1 ad 8 (by omega) (by omega);rw[Q];simp only[eb,gw]
      have leaf:∀d,ew.wf d->∃s O,iY FU d 0=some (s,O)/\s.err=0/\s.ab'=1/\O.wf:=by
       intro d hd;obtain⟨s,O,c1,c2,c3,c4⟩:=xw d hd 0 (by omega);have:=s.eP;exact⟨s,O,c1,c2,by omega,c4⟩
      split
      ·obtain⟨s,d3,s1,s2,s3,s4⟩:=leaf d2 v;rw[s1];simp only[eb];rw[oV g [s] (by simp;omega)];simp only[cl];obtain⟨a,d5,a1,a2,a3⟩:=deep e (g++[s]) t d3 (by simp) (hg.app (by intro u hu;rw[w4] at hu;subst hu;exact⟨s2,by omega⟩)) q p s4;rw[a1];simp only[eb];rw[A_ (by omega) (by have:=m e a3;omega)];simp only[cl];obtain⟨b,d6,A,C,o⟩:=deep e g s d5 (by omega) hg s2 (by omega) a2;rw[A];simp only[eb];have w1:=m e a3;rw[tR (by rw[Tm.fP];simp only[eE];omega) (by have:=m e o;omega)];refine kP.of C (.app (.lam (Ty.yB s2 q (by omega)) a3.ty) o.ty) ?_;have:=a3.ab';have:=o.ab';rw[Tm.ef];simp only[eE,Tm.ef];omega
      split
      ·obtain⟨s,d3,s1,s2,s3,s4⟩:=leaf d2 v;rw[s1];simp only[eb];obtain⟨a,d5,a1,a2,a3⟩:=deep e g t d3 (by omega) hg q p s4;rw[a1];simp only[eb];obtain⟨b,d6,A,C,o⟩:=deep e g s d5 (by omega) hg s2 (by omega) a2;rw[A];simp only[eb];have w1:=m e a3;have w2:=m e o;rw[tR (by omega) (by omega)];simp only[cl];rw[Jz (by rw[Tm.fP];have:Ty.z.ab'=1:=rfl;simp only[eE];omega)];refine kP.of C (.fst (.pair (Ty.Ng q s2 (by omega)) a3.ty o.ty)) ?_;have:=a3.ab';have:=o.ab';rw[Tm.ef];simp only[eE,Tm.ef];omega
      split
      ·rw[fI];simp only[cl];rw[oV g [.nat,t] (by simp;omega)];simp only[cl]
       have R:qD N (g++[.nat,t]):=hg.app (by
        intro u hu;simp only[ma,xg,Zf] at hu;rcases hu with rfl|rfl
        ·exact⟨Ty.hE,by rw[Ty.ir];omega⟩
        ·exact⟨q,p⟩)
       obtain⟨a,d5,a1,a2,a3⟩:=deep e (g++[.nat,t]) t d2 (by simp) R q p v;rw[a1];simp only[eb];have w1:=m e a3;have nn:=Ty.ir;rw[A_ (by omega) (by omega)];simp only[cl];rw[A_ (by omega) (by rw[Tm.fP];simp only[eE];omega)];simp only[cl];obtain⟨b,d6,A,C,o⟩:=deep e g t d5 (by omega) hg q p a2;rw[A];simp only[eb];obtain⟨y,d7,y1,y2,y3,y4⟩:=lb d6 C 3 (by omega) (by omega);rw[y1];simp only[eb];obtain⟨z,z1,z2⟩:=D7 y y2 (by omega);rw[z1];simp only[cl];have w2:=m e o;have zn:=(z2 g).2;have zw:=z.jF (z2 g).1.ok
       have e1:(Tm.mk 2 0 .nat [Tm.mk 2 0 t [a]]).wt<=2000000:=by rw[Tm.fP];simp only[eE,Tm.fP];omega
       rw[Db (by omega) (by omega) (by omega) (by omega)];have V:(Ty.fn t t).err=0:=Ty.yB q q (by omega);refine kP.of y4 (.uD q o.ty (.lam (Ty.yB Ty.hE V (by rw[Ty.j3];omega)) (.lam V (by simpa using a3.ty))) (z2 g).1) ?_;have:=a3.ab';have:=o.ab';rw[Tm.ef];simp only[eE,Tm.ef];omega
      split
      ·rw[fI,gQ];simp only[cl];rw[oV g [.nat,.nK,t] (by simp;omega)];simp only[cl]
       have R:qD N (g++[.nat,.nK,t]):=hg.app (by
        intro u hu;simp only[ma,xg,Zf] at hu;rcases hu with rfl|rfl|rfl
        ·exact⟨Ty.hE,by rw[Ty.ir];omega⟩
        ·exact⟨Ty.o7,by rw[Ty.pG];omega⟩
        ·exact⟨q,p⟩)
       obtain⟨a,d5,a1,a2,a3⟩:=deep e (g++[.nat,.nK,t]) t d2 (by simp) R q p v;rw[a1];simp only[eb];have w1:=m e a3;have nn:=Ty.ir;have ln:=Ty.pG;rw[A_ (by omega) (by omega)];simp only[cl];rw[A_ (by omega) (by rw[Tm.fP];simp only[eE];omega)];simp only[cl];rw[A_ (by omega) (by rw[Tm.fP];simp only[eE,Tm.fP];omega)];simp only[cl];obtain⟨b,d6,A,C,o⟩:=deep e g t d5 (by omega) hg q p a2;rw[A];simp only[eb];obtain⟨c,d7,c1,c2,c3⟩:=deep e g .nK d6 (by omega) hg Ty.o7 (by omega) C;rw[c1];simp only[eb];have w2:=m e o;have w3:=m e c3
       have e1:(Tm.mk 2 0 .nat [Tm.mk 2 0 .nK [Tm.mk 2 0 t [a]]]).wt<=2000000:=by rw[Tm.fP];simp only[eE,Tm.fP];omega
       rw[Db (by omega) (by omega) (by omega) (by omega)];have V:(Ty.fn t t).err=0:=Ty.yB q q (by omega);have Z:(Ty.fn .nK (Ty.fn t t)).err=0:=Ty.yB Ty.o7 V (by rw[Ty.j3];omega);refine kP.of c2 (.fold q o.ty (.lam (Ty.yB Ty.hE Z (by rw[Ty.j3,Ty.j3];omega)) (.lam Z (.lam V (by simpa using a3.ty)))) c3.ty) ?_;have:=a3.ab';have:=o.ab';have:=c3.ab';rw[Tm.ef];simp only[eE,Tm.ef];omega
      split
      ·obtain⟨s,d3,s1,s2,s3,s4⟩:=leaf d2 v;rw[s1];simp only[eb];obtain⟨a,d5,a1,a2,a3⟩:=deep e g s d3 (by omega) hg s2 (by omega) s4;rw[a1];simp only[eb];obtain⟨b,d6,A,C,o⟩:=deep e g t d5 (by omega) hg q p a2;rw[A];simp only[eb];have w1:=m e a3;have w2:=m e o;rw[tR (by omega) (by omega)];simp only[cl];rw[Jz (by rw[Tm.fP];have:Ty.z.ab'=1:=rfl;simp only[eE];omega)];refine kP.of C (.snd (.pair (Ty.Ng s2 q (by omega)) a3.ty o.ty)) ?_;have:=a3.ab';have:=o.ab';rw[Tm.ef];simp only[eE,Tm.ef];omega
      split
      ·--a function of ah context
       rw[eB (by omega),eo];simp only[ez]
       rcases Jq (λ_:Unit=>True) (λr:Tm×ew=>kP g t B (some r)) (F:=λ(E:Int) (aC:Ty) (_:Unit)=>
         cv (eJ g (fD .i64 (fD .i64 (eM g) 1) E)) λD=>
          if D.ab9=4 then cv (eJ D.ab_ 1) λae=>cv (fQ FU ae t) λaf=>
           if af=true then cv (fY E) λH=>cv (eJ D.ab_ 0) λI=>ek (gD n d2 g I (fD .i64 dep 1)) λJ K=>
            cv (gq 3 [H,J]) λL=>some (gj.ret (L,K))
           else some (gj.next ())
          else if false=true then cv (fY E) λH=>cv (eJ D.ab_ 0) λI=>ek (gD n d2 g I (fD .i64 dep 1)) λJ K=>
            cv (gq 3 [H,J]) λL=>some (gj.ret (L,K))
           else some (gj.next ())) g 0 () trivial (by
        intro k u s hk _;have aD:k<g.length:=(pz.1 hk).1
        have W:g.length-1-k<g.length:=by omega
        have e1:eJ g (fD .i64 (fD .i64 (eM g) 1) ((0+k:Nat):Int))=some g[g.length-1-k]:=by
         rw[uK,fR,fH (a:=(g.length:Int)) (b:=1) (by omega) (by omega),fH (by omega) (by omega),show(g.length:Int)-1-(k:Int)=((g.length-1-k:Nat):Int) by omega,jj];simp[W]
        simp only[e1,cl];have hf:=hg.all _ (CG W);have aj:g[g.length-1-k]?=some g[g.length-1-k]:=oD W;generalize g[g.length-1-k]=f at hf aj|-;rcases Ty.rG hf.1 with rfl|rfl|rfl|⟨a,b,rfl,ha,hb⟩|⟨a,b,rfl,ha,hb⟩
        ·left;exact⟨(),rfl,trivial⟩
        ·left;exact⟨(),rfl,trivial⟩
        ·left;exact⟨(),rfl,trivial⟩
        ·left;exact⟨(),rfl,trivial⟩
        ·simp only[show(Ty.fn a b).ab9=4 from rfl,show(Ty.fn a b).ab_=[a,b] from rfl,gw,if_true,eU,gz,jA,mP,cl];have aE:=hf.2;rw[Ty.j3] at aE;rw[jh (by omega)];simp only[cl];cases hs:b.lS t with
         |false=>left;exact⟨(),rfl,trivial⟩|true=>
          rw[Ty.k0] at hs;subst hs;right;simp only[if_true,uK];rw[BZ];simp only[cl];obtain⟨y,d5,a1,a2,a3⟩:=deep e g a d2 (by omega) hg ha (by omega) v;rw[a1];simp only[eb];have w1:=m e a3
          have e2:(FB k).wt=2:=by unfold FB;rw[Tm.fP];rfl
          rw[tR (by omega) (by omega)];refine⟨_,rfl,kP.of a2 (.app (ZD k aD aj) a3.ty) ?_⟩;have:=a3.ab'
          have e3:(FB k).ab'=1:=by unfold FB;rw[Tm.ef];rfl
          rw[Tm.ef];simp only[eE];omega)with⟨s,hs,_⟩|⟨r,hr,aF⟩
       ·rw[hs];exact S d2 v
       ·rw[hr];exact aF
      ·exact S d2 v
     ·exact S d1 ad
  ·intro j S;simp only[gA,fR]
   split
   ·rename_i e;obtain⟨x,d2,Q,T,X,v⟩:=lb d hd 3 (by omega) (by omega);rw[Q];simp only[eb];exact S _ d2 ⟨v,λ_ h=>by subst h;simp at e⟩
   ·exact S _ d ⟨hd,λh=>by cases h⟩
inductive k4:List Ty->Fm->Prop
 |eq {g a b}:e_ g a .nat->e_ g b .nat->k4 g (.mk 1 .z [a,b] [])|two {g k a b}:k=2\/k=3->k4 g a->k4 g b->k4 g (.mk k .z [] [a,b])|q {g k s a}:k=4\/k=5\/k=6\/k=7->s.err=0->k4 (g++[s]) a->k4 g (.mk k s [] [a])
def k4.ok{g:List Ty}{f:Fm}(h:k4 g f):f.ok=true:=by
 induction h with
 |eq c d=>simp[Fm.h_,Fm.node,Ty.qK,c.ok,d.ok]|two e _ _ i j=>
  rename_i k a b _ _
  have:¬k=1:=by omega
  simp[Fm.h_,Fm.node,Ty.qK,e,this,i,j]
 |q e hs _ l=>
  rename_i k s a _
  have c:¬k=1:=by omega
  have d:¬(k=2\/k=3):=by omega
  have m:kQ k=true:=by simp[kQ,e]
  simp[Fm.h_,Fm.node,c,d,m,hs,l]
def En{a b:Tm}(c:a.wt<=1000000000)(d:b.wt<=1000000000):ml a b=some (.mk 1 .z [a,b] []):=by
 unfold ml;rw[nI c,nI d];rfl
def GG{k:Int}{a b:Fm}(c:a.wt<=1000000000)(d:b.wt<=1000000000):oo k a b=some (.mk k .z [] [a,b]):=by
 unfold oo;rw[lL c,lL d];rfl
def D8{k:Int}{s:Ty}{a:Fm}(hs:s.ab'<=1000000000)(b:a.wt<=1000000000):kh k s a=some (.mk k s [] [a]):=by
 unfold kh;rw[jg hs,lL b];rfl
def fb:Nat->Nat
 |0=>115|k+1=>1+2*fb k
def YH:∀k,k<=5->fb k<=3711:=by
 intro k a
 have:k=0\/k=1\/k=2\/k=3\/k=4\/k=5:=by omega
 rcases this with rfl|rfl|rfl|rfl|rfl|rfl<;>decide
structure DN (g:List Ty) (f:Fm) (n:Nat):Prop where
 ty:k4 g f
 ab':f.ab'<=n
def DN.wt{g:List Ty}{f:Fm}{n:Nat}(h:DN g f n):f.wt<=65*n:=by
 have:=f.jF h.ty.ok;have:=h.ab';omega
theorem DN.err{g:List Ty}{f:Fm}{n:Nat}(h:DN g f n)(hn:n<=4096):f.err=0:=Fm.wS h.ty.ok (by have:=h.ab';omega)
def uc(g:List Ty)(b:Nat)(o:Option (Fm×ew)):Prop:=∃x a,o=some (x,a)/\a.wf/\DN g x b
def uc.of{g:List Ty}{b:Nat}{x:Fm}{d:ew}(a:d.wf)(h:k4 g x)(hn:x.ab'<=b):uc g b (some (x,d)):=⟨x,d,rfl,a,h,hn⟩
def GU(N:Nat)(b:1<=N)(e:N<=20)(dep:Nat)(a:dep<=5)(g:List Ty)(t:Ty)(d:ew)(j:g.length<=600)(hg:qD N g)(f:t.err=0)(c:t.ab'<=N)(h:d.wf):kP g t (tb N dep) (gD FU d g t (dep:Int)):=by
 have k:dep*(N+1)<=5*21:=T1 a (by omega);have l:(3+N)*dep<=23*5:=T1 (by omega) a;obtain⟨x,i,a1,a2,a3⟩:=OF N b e FU (dep:Int) g t d (by rw[fy];simp;omega) (by omega) (by omega) (by simp;omega) hg f c h;refine⟨x,i,a1,a2,a3.mono ?_⟩
 split
 ·have:dep=0:=by omega
  subst this;simp only[tb];omega
 ·simp
def H9:∀(n k:Nat) (g:List Ty) (d:ew),k<n->k<=5->g.length+k<=500->qD 3 g->d.wf->uc g (fb k) (im n d g (k:Int)):=by
 intro n
 induction n with
 |zero=>intro k g d h;omega|succ n I=>
  intro k g d R J hlen hg N;rw[im];refine pJ (G:=uc g (fb k)) ew.wf ?_ ?_
  ·intro d1 K;rw[fI];simp only[cl];obtain⟨a,d2,a1,a2,a3⟩:=GU 3 (by omega) (by omega) 1 (by omega) g .nat d1 (by omega) hg Ty.hE (by rw[Ty.ir];omega) K;rw[show((1:Nat):Int)=1 from rfl] at a1;rw[a1];simp only[eb];obtain⟨b,d3,C,L,f⟩:=GU 3 (by omega) (by omega) 1 (by omega) g .nat d2 (by omega) hg Ty.hE (by rw[Ty.ir];omega) a2;rw[show((1:Nat):Int)=1 from rfl] at C;rw[C];simp only[eb];have e:tb 3 1=57:=rfl;rw[e] at a3 f;rw[En (by have:=a3.wt;omega) (by have:=f.wt;omega)];refine uc.of L (.eq a3.ty f.ty) ?_;have:=a3.ab';have:=f.ab'
   have W:115<=fb k:=by
    clear R J hlen I
    induction k with
    |zero=>simp[fb]|succ k I=>simp only[fb];omega
   rw[Fm.ef];simp only[eE];omega
  ·intro j O;simp only[gA]
   split
   ·rename_i P;obtain⟨m,rfl⟩:∃m,k=m+1:=⟨k-1,by omega⟩
    have S:fD .i64 ((m+1:Nat):Int) 1=(m:Int):=by rw[fH (by omega) (by omega)];omega
    have T:=YH m (by omega)
    have deep:∀l D,l.length<=g.length+1->qD 3 l->D.wf->uc l (fb m) (im n D l (fD .i64 ((m+1:Nat):Int) 1)):=by
     intro l D E F Q;rw[S];exact I m l D (by omega) (by omega) (by omega) F Q
    have ctx:∀s:Ty,s.err=0->s.ab'<=3->qD 3 (g++[s]):=λs E F=>hg.app (by intro u hu;rw[w4] at hu;subst hu;exact⟨E,F⟩);obtain⟨x,d2,E,F,Q,H⟩:=lb d N 9 (by omega) (by omega);rw[E];simp only[eb,la,pO,gw]
    have two:∀c:Int,c=2\/c=3->uc g (fb (m+1)) (ek (im n d2 g (fD .i64 ((m+1:Nat):Int) 1)) λo d317=>ek (im n d317 g (fD .i64 ((m+1:Nat):Int) 1)) λp d321=>cv (oo c o p) λr=>some (r,d321)):=by
     intro c t;obtain⟨a,d3,a1,a2,a3⟩:=deep g d2 (by omega) hg H;rw[a1];simp only[eb];obtain⟨b,d4,C,L,f⟩:=deep g d3 (by omega) hg a2;rw[C];simp only[eb];rw[GG (by have:=a3.wt;omega) (by have:=f.wt;omega)];refine uc.of L (.two t a3.ty f.ty) ?_;have:=a3.ab';have:=f.ab';rw[Fm.ef];simp only[eE,fb];omega
    split
    ·exact two 2 (.inl rfl)
    split
    ·exact two 3 (.inr rfl)
    have one:∀c:Int,c=4\/c=5->uc g (fb (m+1)) (ek (iY FU d2 1) λi v=>cv (mV g [i]) λw=>ek (im n v w (fD .i64 ((m+1:Nat):Int) 1)) λz A=>cv (kh c i z) λB=>some (B,A)):=by
     intro c t;obtain⟨s,d3,s1,s2,U,M⟩:=xw d2 H 1 (by omega);rw[show((1:Nat):Int)=1 from rfl] at s1;rw[s1];simp only[eb];rw[oV g [s] (by simp;omega)];simp only[cl];obtain⟨a,d4,a1,a2,a3⟩:=deep (g++[s]) d3 (by simp) (ctx s s2 (by omega)) M;rw[a1];simp only[eb];rw[D8 (by omega) (by have:=a3.wt;omega)];refine uc.of a2 (.q (by omega) s2 a3.ty) ?_;have:=a3.ab';rw[Fm.ef];simp only[eE,fb];omega
    split
    ·exact one 4 (.inl rfl)
    split
    ·exact one 5 (.inr rfl)
    split
    ·obtain⟨s,d3,s1,s2,U,M⟩:=xw d2 H 0 (by omega);rw[show((0:Nat):Int)=0 from rfl] at s1;rw[s1];simp only[eb];obtain⟨y,d5,V,X,y3,y4⟩:=lb d3 M 2 (by omega) (by omega);rw[V];simp only[eb];rw[oV g [s] (by simp;omega)];simp only[cl];obtain⟨a,d4,a1,a2,a3⟩:=deep (g++[s]) d5 (by simp) (ctx s s2 (by omega)) y4;rw[a1];simp only[eb];rw[fq (by omega) (by omega),D8 (by omega) (by have:=a3.wt;omega)];refine uc.of a2 (.q (by omega) s2 a3.ty) ?_;have:=a3.ab';rw[Fm.ef];simp only[eE,fb];omega
    ·exact O d2 H
   ·exact O d N
def y_(k:Nat)(a:k<=5)(g:List Ty)(d:ew)(c:g.length<=400)(hg:qD 3 g)(b:d.wf):uc g (fb k) (im FU d g (k:Int)):=
 H9 FU k g d (by rw[fy];omega) a (by omega) hg b
def IJ(d:ew)(j:d.wf):∃g h,vX d=some (g,h)/\h.wf/\g.length<=3/\qD 3 g:=by
 unfold vX;obtain⟨x,d1,k,m,t,n⟩:=lb d j 4 (by omega) (by omega);rw[k];simp only[eb,ez]
 obtain⟨o,p,f⟩:=xp (ρ:=List Ty×ew) (F:=MT λ(v218:List Ty) (a:Int) (b:ew)=>
   if nX a 0=true then ek (iY FU b 1) λc d278=>gS (gr v218 [c])<|some (gj.next (gG v218 [c],fD .i64 a 1,d278))else some (gj.Ft (v218,a,b)))
  (λs=>0<=s.2.1/\(s.1.length:Int)+s.2.1<=3/\qD 3 s.1/\s.2.2.wf) (λs=>s.2.1.toNat)
  (λo=>match o with|.inl s=>s.1.length<=3/\qD 3 s.1/\s.2.2.wf|.inr _=>False)
  (by
   rintro⟨l,i,e⟩ ⟨i1,i2,i3,i4⟩;simp only at i1 i2 i3 i4
   by_cases hi:0<i
   ·left;obtain⟨s,d3,s1,s2,v,q⟩:=xw e i4 1 (by omega);rw[show((1:Nat):Int)=1 from rfl] at s1;refine⟨(l++[s],i-1,d3),?_,⟨?_,?_,?_,q⟩,?_⟩
    ·simp only[uj,gA,hi,if_true,s1,eb];rw[fx (by simp;omega),eo,fH (by omega) (by omega)];rfl
    ·show 0<=i-1;omega
    ·simp;omega
    ·exact i3.app (by intro u hu;rw[w4] at hu;subst hu;exact⟨s2,by omega⟩)
    ·show(i-1).toNat<i.toNat;omega
   ·right;left
    exact⟨(l,i,e),by simp only[uj,gA,hi,P5],by simp only;omega,i3,i4⟩)
  FU ([],x,d1) ⟨m,by simp;omega,⟨by simp⟩,n⟩ (by rw[fy];show x.toNat<_;omega)
 rw[p];cases o with
 |inr r=>exact f.elim|inl s=>
  obtain⟨l,i,e⟩:=s;exact⟨l,e,rfl,f.2.2,f.1,f.2.1⟩
def I1(d:ew)(j:d.wf):∃q c,tm d=some (q,c)/\c.wf/\q.acb.length<=3/\qD 3 q.acb/\q.acf.length<=2/\∀f∈q.acf,DN q.acb f (fb 2):=by
 unfold tm;obtain⟨g,d0,g1,g2,g3,g4⟩:=IJ d j;rw[g1];simp only[eb];obtain⟨x,d1,k,m,v,n⟩:=lb d0 g2 3 (by omega) (by omega);rw[k];simp only[eb,ez]
 obtain⟨o,p,b⟩:=xp (ρ:=Sq×ew) (F:=MT λ(v226:Int) (v227:List Fm) (v228:ew)=>
   if nX v226 0=true then ek (im FU v228 g 2) λa d286=>gS (gr v227 [a])<|some (gj.next (fD .i64 v226 1,gG v227 [a],d286))else some (gj.Ft (v226,v227,v228)))
  (λs=>0<=s.1/\(s.2.1.length:Int)+s.1<=2/\(∀f∈s.2.1,DN g f (fb 2))/\s.2.2.wf) (λs=>s.1.toNat)
  (λo=>match o with|.inl s=>s.2.1.length<=2/\(∀f∈s.2.1,DN g f (fb 2))/\s.2.2.wf|.inr _=>False)
  (by
   rintro⟨i,l,e⟩ ⟨i1,i2,i3,i4⟩;simp only at i1 i2 i3 i4
   by_cases hi:0<i
   ·left;obtain⟨s,d3,s1,s2,t⟩:=y_ 2 (by omega) g e (by omega) g4 i4;rw[show((2:Nat):Int)=2 from rfl] at s1;refine⟨(i-1,l++[s],d3),?_,⟨?_,?_,?_,s2⟩,?_⟩
    ·simp only[uj,gA,hi,if_true,s1,eb];rw[fx (by simp;omega),eo,fH (by omega) (by omega)];rfl
    ·show 0<=i-1;omega
    ·simp;omega
    ·intro f u;rcases sR.1 u with h|h
     ·exact i3 f h
     ·rw[w4] at h;subst h;exact t
    ·show(i-1).toNat<i.toNat;omega
   ·right;left
    exact⟨(i,l,e),by simp only[uj,gA,hi,P5],by simp only;omega,i3,i4⟩)
  FU (x,[],d1) ⟨m,by simp;omega,by simp,n⟩ (by rw[fy];show x.toNat<_;omega)
 rw[p];cases o with
 |inr r=>exact b.elim|inl s=>
  obtain⟨i,l,e⟩:=s;exact⟨⟨g,l⟩,e,rfl,b.2.2,g3,g4,b.1,b.2.1⟩
def WG(l:List Int)(h:l.length<=1000):(ew.mk l 0).wf:=⟨h,by simp,by simp⟩
def w_(l:List Ty):Int:=if 16<l.length then 3 else fX (l.map Ty.err)
def xL(l:List Ty)(e:l.length<=1000000)(h:∀t∈l,t.ab'<=1000000000):nY l=some (w_ l):=by
 unfold nY w_;simp only[gA,fR,eB (l:=l) (by omega),eo,ez]
 by_cases b:16<l.length
 ·rw[ee (by omega),ee b]
 ·rw[ea (by omega),ea b]
  have key:=lk (F:=λ(j:Int) (x:Ty) (_:Unit)=>cv (mM x) λa=>if eW a 0=true then some (gj.ret a)else some (gj.next ())) Ty.err l 0 (by
   intro j x d;rw[zC (h x d)]
   simp only[cl,ey])
  simp only[ey] at key|-;rw[key]
  by_cases c:fX (l.map Ty.err)=0
  ·simp[c]
  ·simp[c]
def td(l:List Ty)(e:l.length<=1000000)(h:∀t∈l,t.ab'<=1000000000):mI l=some (w_ l):=by
 unfold mI w_;simp only[gA,fR,eB (l:=l) (by omega),eo,ez]
 by_cases b:16<l.length
 ·rw[ee (by omega),ee b]
 ·rw[ea (by omega),ea b]
  have key:=lk (F:=λ(j:Int) (x:Ty) (_:Unit)=>cv (jH x) λa=>if eW a 0=true then some (gj.ret a)else some (gj.next ())) Ty.err l 0 (by
   intro j x d;rw[m4 (h x d)]
   simp only[cl,ey])
  simp only[ey] at key|-;rw[key]
  by_cases c:fX (l.map Ty.err)=0
  ·simp[c]
  ·simp[c]
def xN:∀(n:Nat) (a b:Ty),a.ab'<=n->a.ab'<=1000000000->∃r,gZ n a b=some r/\(r=true↔a=b):=by
 intro n
 induction n with
 |zero=>intro t b h;have:=t.eP;omega
 |succ n q=>
  intro a b h s;cases a with
  |mk k l=>
  cases b with
  |mk k' m=>
   rw[Ty.ef] at h s;have u:=Ty.fF l;rw[gZ];simp only[Ty.eG,Ty.eN,ez,eB (l:=l) (by omega),eo,la,pO,ey,fR]
   by_cases d:k≠k'\/(l.length:Int)≠m.length
   ·rw[ee d];refine⟨false,rfl,?_⟩;simp only[tY,Z_,Ty.mk.injEq,not_and];rintro rfl rfl;simp at d
   ·rw[ea d];simp only[not_or,w7] at d;obtain⟨rfl,hlen⟩:=d
    have c:l.length=m.length:=by omega
    let p:Ty->Ty->Bool:=λx y=>(gZ n x y).getD false
    have i:∀x∈l,∀y,gZ n x y=some (p x y)/\(p x y=true↔x=y):=by
     intro x f y;have:=eI Ty.ab' f;obtain⟨r,o,g⟩:=q x y (by omega) (by omega)
     have e:p x y=r:=by show(gZ n x y).getD false=r;rw[o];rfl
     rw[e];exact⟨o,g⟩
    have key:=xd (F:=λ(j:Int) (x:Ty) (_:Unit)=>cv (eJ m j) λy=>cv (gZ n x y) λz=>if z=true then some (gj.next ())else some (gj.ret false)) p m l 0 m rfl c (by
     intro k x y f hy;rw[jj,hy];simp only[cl];rw[(i x f y).1]
     rfl)
    rw[key];have he:=xI p l m λx f y=>(i x f y).2;cases g:vO p l m with
    |false=>exact⟨false,rfl,by rw[g] at he;simpa using he⟩
    |true=>exact⟨true,rfl,by rw[g] at he;simpa using he⟩
def xe:∀(n:Nat) (a b:Tm),a.wt<=n->a.wt<=1000000000->∃r,jc n a b=some r/\(r=true↔a=b):=by
 intro n
 induction n with
 |zero=>intro t b h;have:=t.iS;omega
 |succ n D=>
  intro a b h E;cases a with
  |mk k i s l=>
  cases b with
  |mk k' f u m=>
   rw[Tm.fP] at h E;have H:=Tm.n5 l;rw[jc];simp only[Tm.eG,Tm.eN,Tm.gx,Tm.fw,ez,eB (l:=l) (by omega),eo,ey,fR]
   have no:¬(k=k'/\i=f/\s=u/\l.length=m.length)->∃r,some false=some r/\(r=true↔Tm.mk k i s l=Tm.mk k' f u m):=by
    intro hn;refine⟨false,rfl,?_⟩;simp only[tY,Z_,Tm.mk.injEq,not_and];rintro rfl rfl rfl rfl;exact hn ⟨rfl,rfl,rfl,rfl⟩
   by_cases g:k≠k'
   ·rw[ee g,ee trivial];exact no λh=>g h.1
   ·rw[ea g]
    by_cases hi:i≠f
    ·rw[ee hi,ee trivial];exact no λh=>hi h.2.1
    ·rw[ea hi];obtain⟨r,G,A⟩:=xN FU s u (by rw[fy];omega) (by omega);rw[G];simp only[cl]
     by_cases o:r=true
     ·have hs:=A.1 o;rw[ee o]
      by_cases hlen:(l.length:Int)≠m.length
      ·rw[ee hlen];exact no λh=>hlen (by omega)
      ·rw[ea hlen]
       have c:l.length=m.length:=by omega
       let p:Tm->Tm->Bool:=λx y=>(jc n x y).getD false
       have B:∀x∈l,∀y,jc n x y=some (p x y)/\(p x y=true↔x=y):=by
        intro x d y;have:=eI Tm.wt d;obtain⟨r,C,q⟩:=D x y (by omega) (by omega)
        have e:p x y=r:=by show(jc n x y).getD false=r;rw[C];rfl
        rw[e];exact⟨C,q⟩
       have key:=xd (F:=λ(j:Int) (x:Tm) (_:Unit)=>cv (eJ m j) λy=>cv (jc n x y) λz=>if z=true then some (gj.next ())else some (gj.ret false)) p m l 0 m rfl c (by
        intro k x y d hy;rw[jj,hy];simp only[cl];rw[(B x d y).1]
        rfl)
       rw[key];have he:=xI p l m λx d y=>(B x d y).2;have v:k=k':=w7.1 g;have hi':i=f:=w7.1 hi;cases q:vO p l m with
       |false=>
        refine⟨false,rfl,?_⟩;rw[q] at he;simp only[tY,Z_,Tm.mk.injEq,not_and];intro _ _ _ w;exact absurd (he.2 w) (by simp)
       |true=>
        refine⟨true,rfl,?_⟩;rw[q] at he;simp only[Wd,Tm.mk.injEq];exact⟨v,hi',hs,he.1 rfl⟩
     ·rw[ea o,ee trivial];exact no λh=>o (A.2 h.2.2.1)
def AR:∀(n:Nat) (a b:Tm),a.wt<=n->a.wt<=1000000000->∃r,kl n a b=some r/\(r=true↔a=b):=by
 intro n
 induction n with
 |zero=>intro t b h;have:=t.iS;omega
 |succ n D=>
  intro a b h E;cases a with
  |mk k i s l=>
  cases b with
  |mk k' f u m=>
   rw[Tm.fP] at h E;have H:=Tm.n5 l;rw[kl];simp only[Tm.eG,Tm.eN,Tm.gx,Tm.fw,ez,eB (l:=l) (by omega),eo,ey,fR]
   have no:¬(k=k'/\i=f/\s=u/\l.length=m.length)->∃r,some false=some r/\(r=true↔Tm.mk k i s l=Tm.mk k' f u m):=by
    intro hn;refine⟨false,rfl,?_⟩;simp only[tY,Z_,Tm.mk.injEq,not_and];rintro rfl rfl rfl rfl;exact hn ⟨rfl,rfl,rfl,rfl⟩
   by_cases g:k≠k'
   ·rw[ee g,ee trivial];exact no λh=>g h.1
   ·rw[ea g]
    by_cases hi:i≠f
    ·rw[ee hi,ee trivial];exact no λh=>hi h.2.1
    ·rw[ea hi];obtain⟨r,G,A⟩:=wK FU s u (by rw[fy];omega) (by omega);rw[G];simp only[cl]
     by_cases o:r=true
     ·have hs:=A.1 o;rw[ee o]
      by_cases hlen:(l.length:Int)≠m.length
      ·rw[ee hlen];exact no λh=>hlen (by omega)
      ·rw[ea hlen]
       have c:l.length=m.length:=by omega
       let p:Tm->Tm->Bool:=λx y=>(kl n x y).getD false
       have B:∀x∈l,∀y,kl n x y=some (p x y)/\(p x y=true↔x=y):=by
        intro x d y;have:=eI Tm.wt d;obtain⟨r,C,q⟩:=D x y (by omega) (by omega)
        have e:p x y=r:=by show(kl n x y).getD false=r;rw[C];rfl
        rw[e];exact⟨C,q⟩
       have key:=xd (F:=λ(j:Int) (x:Tm) (_:Unit)=>cv (eJ m j) λy=>cv (kl n x y) λz=>if z=true then some (gj.next ())else some (gj.ret false)) p m l 0 m rfl c (by
        intro k x y d hy;rw[jj,hy];simp only[cl];rw[(B x d y).1]
        rfl)
       rw[key];have he:=xI p l m λx d y=>(B x d y).2;have v:k=k':=w7.1 g;have hi':i=f:=w7.1 hi;cases q:vO p l m with
       |false=>
        refine⟨false,rfl,?_⟩;rw[q] at he;simp only[tY,Z_,Tm.mk.injEq,not_and];intro _ _ _ w;exact absurd (he.2 w) (by simp)
       |true=>
        refine⟨true,rfl,?_⟩;rw[q] at he;simp only[Wd,Tm.mk.injEq];exact⟨v,hi',hs,he.1 rfl⟩
     ·rw[ea o,ee trivial];exact no λh=>o (A.2 h.2.2.1)
def wZ{a b:Tm}(hw:a.wt<=1000000000):∃r,rD a b=some r/\(r=true↔a=b):=by
 obtain⟨r,c,d⟩:=xe FU a b (by rw[fy];exact hw) hw;exact⟨r,by unfold rD;rw[c];rfl,d⟩
def L':∀(k:Nat) (m:Int) (t:Tm),(t.norm k m).2.2=0\/(t.norm k m).2.2=4\/(t.norm k m).2.2=5
 |0,m,t=>by
  rw[Tm.norm]
  split
  ·exact .inl rfl
  ·exact .inr (.inr rfl)
 |k+1,m,t=>by
  rw[Tm.norm]
  split
  ·exact .inr (.inl rfl)
  ·exact .inl rfl
  ·exact L' k _ _
def Fz:∀(k:Nat) (M m:Int) (t a:Tm) (n:Int),0<=M->Sm M t->t.ab'<=4096->t.norm k m=(a,n,0)->Sm (M+8192*k) a/\a.ab'<=4096
 |0,M,m,t,a,n,d,hs,hn,h=>by
  rw[Tm.norm] at h
  split at h
  ·obtain⟨b,h⟩:=iz h;rw[<-b];exact⟨hs.mono (by omega),hn⟩
  ·cases h
 |k+1,M,m,t,a,n,d,hs,hn,h=>by
  rw[Tm.norm] at h
  split at h
  ·cases h
  ·obtain⟨b,h⟩:=iz h;rw[<-b];exact⟨hs.mono (by omega),hn⟩
  ·rename_i e c;obtain⟨f,g,i⟩:=Kl d t hs (by omega) e c;obtain⟨a1,a2⟩:=Fz k (M+8192) (m+1) e a n (by omega) ⟨f,g,by omega⟩ (by omega) h;exact⟨a1.mono (by omega),a2⟩
def QK(l:List Int):G7 l=some (decide (l.length<=500)):=by
 unfold G7
 congr 1
 unfold MV eM;exact Zk.2 (by omega)
def zr{k:Int}(a:k≠1)(c:k≠2)(f b i:Int)(s:Ty)(l:List Tm):(Tm.mk k i s l).up f b=.mk k i s (l.map (Tm.up f b)):=by
 rw[Tm.l7,ea (λh=>a h.1)];unfold gB;rw[ea c,yA]
def XZ(f b i:Int)(s:Ty)(l:List Tm):(Tm.mk 2 i s l).up f b=.mk 2 i s (l.map (Tm.up (f+1) b)):=by
 rw[Tm.l7,ea (λh=>by have:=h.1;omega)];rfl
def vR{k:Int}(b:k≠1)(c:k≠2)(n i:Int)(a:Tm)(s:Ty)(l:List Tm):Tm.jX n (Tm.mk k i s l) a=.mk k i s (l.map λx=>Tm.jX n x a):=by
 rw[Tm.ot,ea b];unfold gB;rw[ea c,yA]
def TM(n i:Int)(a:Tm)(s:Ty)(l:List Tm):Tm.jX n (Tm.mk 2 i s l) a=.mk 2 i s (l.map λx=>Tm.jX (n+1) x a):=by
 rw[Tm.ot,ea (by decide)];rfl
def FC{g:List Ty}{t:Ty}{i j:Nat}(h:g[j]?=some t)(hi:i<g.length)(a:g.length-1-i=j):e_ g (.mk 1 i .z []) t:=.var i hi (by rw[a];exact h)
def e_.up{g:List Ty}{x:Tm}{t:Ty}(h:e_ g x t):∀g1 g2 e:List Ty,g=g1++g2->e_ (g1++e++g2) (x.up g2.length e.length) t:=by
 induction h with
 |@var g t i d l=>
  rintro g1 g2 e rfl;rw[Tm.l7,Nc];rw[qY] at d
  by_cases hi:g2.length<=i
  ·rw[ee ⟨rfl,by omega⟩,show(i:Int)+e.length=((i+e.length:Nat):Int) by push_cast;rfl];refine FC (j:=g1.length+g2.length-1-i) ?_ (by simp<;>omega) (by simp<;>omega);rw[qY,tF (by omega)] at l;rw[uN,tF (by omega)];exact l
  ·rw[ea (λh=>by have:=h.2;omega)];refine FC (j:=g1.length+e.length+(g2.length-1-i)) ?_ (by simp<;>omega) (by simp<;>omega);rw[qY,yy (by omega)] at l;rw[yy (by simp<;>omega)];rw[<-l]
   congr 1
   simp;omega
 |@lam g s b t d _ f=>
  rintro g1 g2 e rfl;have:=f g1 (g2++[s]) e (by rw[uN]);rw[XZ];refine .lam d ?_;rw[qY,<-uN] at this;exact this
 |app _ _ a c=>intro g1 g2 e hg;rw[zr (by decide) (by decide)];exact .app (a g1 g2 e hg) (c g1 g2 e hg)|zero=>intro g1 g2 e hg;rw[zr (by decide) (by decide)];exact .zero|succ _ f=>intro g1 g2 e hg;rw[zr (by decide) (by decide)];exact .succ (f g1 g2 e hg)|uD d _ _ _ a c k=>intro g1 g2 e hg;rw[zr (by decide) (by decide)];exact .uD d (a g1 g2 e hg) (c g1 g2 e hg) (k g1 g2 e hg)|nil=>intro g1 g2 e hg;rw[zr (by decide) (by decide)];exact .nil|cons _ _ a c=>intro g1 g2 e hg;rw[zr (by decide) (by decide)];exact .cons (a g1 g2 e hg) (c g1 g2 e hg)|fold d _ _ _ a c k=>intro g1 g2 e hg;rw[zr (by decide) (by decide)];exact .fold d (a g1 g2 e hg) (c g1 g2 e hg) (k g1 g2 e hg)|pair d _ _ a c=>intro g1 g2 e hg;rw[zr (by decide) (by decide)];exact .pair d (a g1 g2 e hg) (c g1 g2 e hg)|fst _ f=>intro g1 g2 e hg;rw[zr (by decide) (by decide)];exact .fst (f g1 g2 e hg)|snd _ f=>intro g1 g2 e hg;rw[zr (by decide) (by decide)];exact .snd (f g1 g2 e hg)|unit=>intro g1 g2 e hg;rw[zr (by decide) (by decide)];exact .unit
def e_.jX{g:List Ty}{x:Tm}{t:Ty}(h:e_ g x t):∀(g1:List Ty) (s:Ty) (g2:List Ty) (a:Tm),g=g1++[s]++g2->e_ g1 a s->e_ (g1++g2) (Tm.jX g2.length x a) t:=by
 induction h with
 |@var g t i f k=>
  rintro g1 s g2 a rfl c;rw[Tm.ot,ee rfl];unfold Tm.vy;simp only[qY,ld,um] at f k
  by_cases he:(i:Int)=g2.length
  ·rw[ee he]
   have n:s=t:=by
    rw[uN,yy (by omega),tF (by simp<;>omega)] at k;rw[show g1.length+(0+1)+g2.length-1-i-g1.length=0 by omega] at k;exact iy k
   subst n;have:=c.up g1 [] g2 (by simp);simpa using this
  ·rw[ea he]
   by_cases hi:(g2.length:Int)<i
   ·rw[ee hi,show(i:Int)-1=((i-1:Nat):Int) by omega];refine FC (j:=g1.length+g2.length-i) ?_ (by simp<;>omega) (by simp<;>omega);rw[uN,tF (by omega)] at k;rw[tF (by omega),<-k]
    congr 1
    omega
   ·rw[ea hi];refine FC (j:=g1.length+(g2.length-1-i)) ?_ (by simp<;>omega) (by simp<;>omega);rw[yy (by simp<;>omega)] at k;rw[yy (by omega),<-k]
    congr 1
    simp;omega
 |@lam g s b t f _ l=>
  rintro g1 u g2 a rfl c;have:=l g1 u (g2++[s]) a (by simp only[uN]) c;rw[TM];refine .lam f ?_;rw[qY,<-uN] at this;exact this
 |app _ _ d e=>intro g1 s g2 a hg c;rw[vR (by decide) (by decide)];exact .app (d g1 s g2 a hg c) (e g1 s g2 a hg c)|zero=>intro g1 s g2 a hg c;rw[vR (by decide) (by decide)];exact .zero|succ _ l=>intro g1 s g2 a hg c;rw[vR (by decide) (by decide)];exact .succ (l g1 s g2 a hg c)|uD f _ _ _ d e m=>intro g1 s g2 a hg c;rw[vR (by decide) (by decide)];exact .uD f (d g1 s g2 a hg c) (e g1 s g2 a hg c) (m g1 s g2 a hg c)|nil=>intro g1 s g2 a hg c;rw[vR (by decide) (by decide)];exact .nil|cons _ _ d e=>intro g1 s g2 a hg c;rw[vR (by decide) (by decide)];exact .cons (d g1 s g2 a hg c) (e g1 s g2 a hg c)|fold f _ _ _ d e m=>intro g1 s g2 a hg c;rw[vR (by decide) (by decide)];exact .fold f (d g1 s g2 a hg c) (e g1 s g2 a hg c) (m g1 s g2 a hg c)|pair f _ _ d e=>intro g1 s g2 a hg c;rw[vR (by decide) (by decide)];exact .pair f (d g1 s g2 a hg c) (e g1 s g2 a hg c)|fst _ l=>intro g1 s g2 a hg c;rw[vR (by decide) (by decide)];exact .fst (l g1 s g2 a hg c)|snd _ l=>intro g1 s g2 a hg c;rw[vR (by decide) (by decide)];exact .snd (l g1 s g2 a hg c)|unit=>intro g1 s g2 a hg c;rw[vR (by decide) (by decide)];exact .unit
def Ty.XG{a b c d:Ty}(h:Ty.fn a b=Ty.fn c d):a=c/\b=d:=by unfold Ty.fn at h;simpa using h
def Ty.Sp{a b c d:Ty}(h:Ty.pr a b=Ty.pr c d):a=c/\b=d:=by unfold Ty.pr at h;simpa using h
theorem e_.gp{g:List Ty}{x:Tm}{t:Ty}(h:e_ g x t)(l:x.root=true):e_ g x.gp t:=by
 cases h with
 |@app _ f a s _ c j=>
  have d:f.ab9=2:=by simpa[Tm.root,Tm.kd] using l
  generalize o:Ty.fn s t=q at c
  cases c<;>simp only[Tm.eN] at d<;>first|omega|skip
  rename_i w b p e i;obtain⟨rfl,rfl⟩:=Ty.XG o;have:=i.jX g s [] a (by simp) j;simpa[Tm.gp] using this
 |@uD _ _ b s n c j e i=>
  have d:n.ab9=4\/n.ab9=5:=by simpa[Tm.root,Tm.kd] using l
  cases i<;>simp only[Tm.eN] at d<;>first|omega|skip
  ·simpa[Tm.gp] using j
  ·rename_i m k;have:=e_.app (.app e k) (e_.uD c j e k);simpa[Tm.gp,mv,Ty.z] using this
 |@fold _ _ b s n c j e i=>
  have d:n.ab9=7\/n.ab9=8:=by simpa[Tm.root,Tm.kd] using l
  cases i<;>simp only[Tm.eN] at d<;>first|omega|skip
  ·simpa[Tm.gp] using j
  ·rename_i u v k r;have:=e_.app (.app (.app e k) r) (e_.fold c j e r);simpa[Tm.gp,mv,Ty.z] using this
 |@fst _ a s p c=>
  have d:a.ab9=10:=by simpa[Tm.root,Tm.kd] using l
  generalize o:Ty.pr t p=q at c
  cases c<;>simp only[Tm.eN] at d<;>first|omega|skip
  rename_i e i k;obtain⟨rfl,rfl⟩:=Ty.Sp o;simpa[Tm.gp] using i
 |@snd _ a s p c=>
  have d:a.ab9=10:=by simpa[Tm.root,Tm.kd] using l
  generalize o:Ty.pr s t=q at c
  cases c<;>simp only[Tm.eN] at d<;>first|omega|skip
  rename_i e i k;obtain⟨rfl,rfl⟩:=Ty.Sp o;simpa[Tm.gp] using k
 |_=>simp[Tm.root] at l
def mR{r k i:Int}{s:Ty}{l:List Tm}{b:Tm}(h:(Tm.mk k i s l).Jk r=some (some b)):((Tm.mk k i s l).root=true/\b=(Tm.mk k i s l).gp)\/∃a,Tm.sP r l=some (some a)/\b=.mk k i s a:=by
 rw[Tm.Bu] at h
 by_cases c:(Tm.mk k i s l).root=true
 ·rw[ee c] at h
  split at h
  · cases h
  · exact .inl ⟨c,(iy (iy h)).symm⟩
 ·rw[ea c] at h;cases e:Tm.sP r l with
  |none=>rw[e] at h;cases h
  |some o=>
    cases o with
    |none=>rw[e] at h;cases h
    |some a=>rw[e] at h;exact .inr ⟨a,rfl,(iy (iy h)).symm⟩
def k1{r:Int}{a:Tm}{l c:List Tm}(h:Tm.sP r (a::l)=some (some c)):(∃b,a.Jk r=some (some b)/\c=b::l)\/∃m,Tm.sP r l=some (some m)/\c=a::m:=by
 rw[Tm.sP] at h;cases e:a.Jk r with
 |none=>rw[e] at h;cases h
 |some o=>
  cases o with
  |some b=>rw[e] at h;exact .inl ⟨b,rfl,(iy (iy h)).symm⟩
  |none=>
   rw[e] at h;dsimp only at h;cases d:Tm.sP r l with
   |none=>rw[d] at h;cases h
   |some o2=>
    cases o2 with
    |none=>rw[d] at h;cases h
    |some m=>rw[d] at h;exact .inr ⟨m,rfl,(iy (iy h)).symm⟩
def oG{r:Int}{a:List Tm}(h:Tm.sP r []=some (some a)):False:=by rw[Tm.sP] at h;cases h
def e_.Jk{r:Int}{g:List Ty}{x:Tm}{t:Ty}(h:e_ g x t):∀n,x.Jk r=some (some n)->e_ g n t:=by
 induction h with
 |var i c f=>
  intro n hs;rcases mR hs with⟨d,rfl⟩|⟨q,e,rfl⟩
  ·exact(e_.var i c f).gp d
  ·exact(oG e).elim
 |lam c f s=>
  intro n hs;rcases mR hs with⟨d,rfl⟩|⟨q,e,rfl⟩
  ·exact(e_.lam c f).gp d
  ·rcases k1 e with⟨o,a,b⟩|⟨m,a,b⟩
   ·subst_vars;exact .lam c (s _ a)
   ·exact(oG a).elim
 |app c f j k=>
  intro n hs;rcases mR hs with⟨d,rfl⟩|⟨q,e,rfl⟩
  ·exact(e_.app c f).gp d
  ·rcases k1 e with⟨o,a,b⟩|⟨m,a,b⟩
   ·subst_vars;exact .app (j _ a) f
   ·rcases k1 a with⟨o,l,b⟩|⟨m,l,b⟩
    ·subst_vars;exact .app c (k _ l)
    ·exact(oG l).elim
 |zero=>
  intro n hs;rcases mR hs with⟨d,rfl⟩|⟨q,e,rfl⟩
  ·exact e_.zero.gp d
  ·exact(oG e).elim
 |succ c s=>
  intro n hs;rcases mR hs with⟨d,rfl⟩|⟨q,e,rfl⟩
  ·exact(e_.succ c).gp d
  ·rcases k1 e with⟨o,a,b⟩|⟨m,a,b⟩
   ·subst_vars;exact .succ (s _ a)
   ·exact(oG a).elim
 |uD p c f u j k v=>
  intro n hs;rcases mR hs with⟨d,rfl⟩|⟨q,e,rfl⟩
  ·exact(e_.uD p c f u).gp d
  ·rcases k1 e with⟨o,a,b⟩|⟨m,a,b⟩
   ·subst_vars;exact .uD p (j _ a) f u
   ·rcases k1 a with⟨o,l,b⟩|⟨m,l,b⟩
    ·subst_vars;exact .uD p c (k _ l) u
    ·rcases k1 l with⟨o,w,b⟩|⟨m,w,b⟩
     ·subst_vars;exact .uD p c f (v _ w)
     ·exact(oG w).elim
 |nil=>
  intro n hs;rcases mR hs with⟨d,rfl⟩|⟨q,e,rfl⟩
  ·exact e_.nil.gp d
  ·exact(oG e).elim
 |cons c f j k=>
  intro n hs;rcases mR hs with⟨d,rfl⟩|⟨q,e,rfl⟩
  ·exact(e_.cons c f).gp d
  ·rcases k1 e with⟨o,a,b⟩|⟨m,a,b⟩
   ·subst_vars;exact .cons (j _ a) f
   ·rcases k1 a with⟨o,l,b⟩|⟨m,l,b⟩
    ·subst_vars;exact .cons c (k _ l)
    ·exact(oG l).elim
 |fold p c f u j k v=>
  intro n hs;rcases mR hs with⟨d,rfl⟩|⟨q,e,rfl⟩
  ·exact(e_.fold p c f u).gp d
  ·rcases k1 e with⟨o,a,b⟩|⟨m,a,b⟩
   ·subst_vars;exact .fold p (j _ a) f u
   ·rcases k1 a with⟨o,l,b⟩|⟨m,l,b⟩
    ·subst_vars;exact .fold p c (k _ l) u
    ·rcases k1 l with⟨o,w,b⟩|⟨m,w,b⟩
     ·subst_vars;exact .fold p c f (v _ w)
     ·exact(oG w).elim
 |pair p c f j k=>
  intro n hs;rcases mR hs with⟨d,rfl⟩|⟨q,e,rfl⟩
  ·exact(e_.pair p c f).gp d
  ·rcases k1 e with⟨o,a,b⟩|⟨m,a,b⟩
   ·subst_vars;exact .pair p (j _ a) f
   ·rcases k1 a with⟨o,l,b⟩|⟨m,l,b⟩
    ·subst_vars;exact .pair p c (k _ l)
    ·exact(oG l).elim
 |fst c s=>
  intro n hs;rcases mR hs with⟨d,rfl⟩|⟨q,e,rfl⟩
  ·exact(e_.fst c).gp d
  ·rcases k1 e with⟨o,a,b⟩|⟨m,a,b⟩
   ·subst_vars;exact .fst (s _ a)
   ·exact(oG a).elim
 |snd c s=>
  intro n hs;rcases mR hs with⟨d,rfl⟩|⟨q,e,rfl⟩
  ·exact(e_.snd c).gp d
  ·rcases k1 e with⟨o,a,b⟩|⟨m,a,b⟩
   ·subst_vars;exact .snd (s _ a)
   ·exact(oG a).elim
 |unit=>
  intro n hs;rcases mR hs with⟨d,rfl⟩|⟨q,e,rfl⟩
  ·exact e_.unit.gp d
  ·exact(oG e).elim
def e_.norm{g:List Ty}{t:Ty}:∀(k:Nat) (m:Int) (x a:Tm) (n:Int),e_ g x t->x.norm k m=(a,n,0)->e_ g a t
 |0,m,x,a,n,b,h=>by
  rw[Tm.norm] at h
  split at h
  ·obtain⟨c,_⟩:=iz h;rw[<-c];exact b
  ·cases h
 |k+1,m,x,a,n,b,h=>by
  rw[Tm.norm] at h
  split at h
  ·cases h
  ·obtain⟨c,_⟩:=iz h;rw[<-c];exact b
  ·rename_i d hs;exact e_.norm k (m+1) d a n (b.Jk _ hs) h
def Qj(k:Int):iM k<=3:=by unfold iM;repeat' (first|omega|split)
def Tm.Y8{k i:Int}{s:Ty}{l:List Tm}(h:(Tm.mk k i s l).ok=true):l.length<=3:=by
 have:=Tm.wL h;have:=Qj k;omega
def WA(x:Tm):Tm.mk x.ab9 x.aca (Ty.mk x.dv.ab9 x.dv.ab_) x.ab_=x:=by
 cases x with
 |mk k i s l=>cases s;rfl
def mN{a:Ty}(h:a.ab'<=1000000000):fQ FU a a=some true:=by
 obtain⟨r,b,c⟩:=wK FU a a (by rw[fy];exact h) h;rw[b,c.2 rfl]
def ok_eq{t:Ty}(h:t.err=0):tN t=some (t,0):=by
 unfold tN;rw[m4 (by have:=(Ty.lW h).2;omega),h];rfl
def fC{t:Ty}(h:t.err=0):t.ab'<=64:=by have:=(Ty.lW h).2;omega
inductive TL (n:Nat) (g:List Ty):List Tm->List Ty->Prop
 |nil:TL n g [] []|cons {a:Tm} {t:Ty} {l:List Tm} {ts:List Ty}:fT n g a=some (t,0)->TL n g l ts->TL n g (a::l) (t::ts)
def o9{n:Nat}{g:List Ty}:∀{l:List Tm} {ts:List Ty} (i:Nat) (v:List Ty),TL n g l ts->v.length+l.length<=1000->fp (λ(e:Int) (d:Tm)=>(λ(a:List Ty)=>
   ek (fT n g d) λb c=>
   if(eW c 0)=true then(
   some (gj.ret ((Ty.mk 0 []),c)))
   else(gS (gr a [b])<|some (.next (gG a [b])))):Int->Tm->((List Ty))->(Option (gj ((List Ty)) (Ty×Int)))) l i v=some (.inl (v++ts))
 |_,_,i,v,.nil,_=>by simp|_,_,i,v,.cons h f,j=>by
  simp only[ld] at j;rw[fl];simp only[h,eb];rw[ea (by decide),fx (by simp;omega)];simp only[eo,cl,ft];rw[o9 (i+1) _ f (by rw[gY];simp;omega),gY];simp
def R9{g:List Ty}{x:Tm}{t:Ty}(h:e_ g x t):(∀s∈g,s.err=0)->t.err=0/\∀n:Nat,x.ab'<=n->g.length+x.ab'<=1000000->fT n g x=some (t,0):=by
 induction h with
 |@var g t i w A=>
  intro hg;have y:=hg t (Be A);refine⟨y,λn hn e=>?_⟩;rw[Tm.ef] at hn;obtain⟨n,rfl⟩:∃m,n=m+1:=⟨n-1,by omega⟩;rw[Tm.ef] at e;rw[fT,ee (by rfl),ea (by simp only[Tm.gx,iU,fR];omega)];simp only[Tm.gx,fR];rw[fH (a:=(g.length:Int)) (by omega) (by omega),fH (by omega) (by omega)]
  have:eJ g ((g.length:Int)-1-(i:Int))=some t:=by
   unfold eJ;rw[ee (by omega),<-A]
   congr 1
   omega
  rw[this];simp only[cl];rw[jg (by have:=fC y;omega)];rfl
 |@lam g s b t w _ j=>
  intro hg;have hs:=(Ty.sX (.inr rfl) w).1;have z:=(Ty.sX (.inr rfl) w).2
  obtain⟨_,j⟩:=j (by
   intro u hu;rcases sR.1 hu with h|h
   ·exact hg u h
   ·rw[w4] at h;rw[h];exact hs)
  refine⟨w,λn hn e=>?_⟩;rw[Tm.ef] at hn e;simp only[eE] at hn e;obtain⟨n,rfl⟩:∃m,n=m+1:=⟨n-1,by omega⟩;rw[fT,ea (by simp),ee (by rfl)];simp only[Tm.fw,Tm.eG,eU,jA,cl,gY];rw[fx (by simp;omega),eo,j n (by omega) (by simp;omega)];simp only[eb];rw[ea (by decide),jx (by have:=fC hs;omega) (by have:=fC z;omega)];simp only[cl];rw[ok_eq w];rfl
 |@app g f a s t _ _ c d=>
  intro hg;obtain⟨q,c⟩:=c hg;obtain⟨r,d⟩:=d hg;have z:=(Ty.sX (.inr rfl) q).2;refine⟨z,λn hn e=>?_⟩;rw[Tm.ef] at hn e;simp only[eE] at hn e;obtain⟨n,rfl⟩:∃m,n=m+1:=⟨n-1,by omega⟩;have o:=o9 (n:=n) (g:=g) (l:=[f,a]) 0 [] (.cons (c n (by omega) (by omega)) (.cons (d n (by omega) (by omega)) .nil)) (by simp);rw[fT,ea (by simp),ea (by simp)];simp only[ez,Tm.eG,eB (l:=[f,a]) (by simp),eo];rw[o];simp only[cl,ei,fI,gQ];rw[ee (by rfl)];simp only[o_,eU,gz,jA,mP,cl];rw[ea (by simp[Ty.fn,eW]),show(Ty.fn s t).ab_[0]?=some s from rfl];simp only[cl];rw[mN (by have:=fC r;omega)];simp only[cl];rw[ea (by decide),show(Ty.fn s t).ab_[1]?=some t from rfl];rfl
 |zero=>
  intro hg;refine⟨Ty.hE,λn hn e=>?_⟩;rw[Tm.ef] at hn;obtain⟨n,rfl⟩:∃m,n=m+1:=⟨n-1,by omega⟩;rfl
 |@succ g a _ j=>
  intro hg;obtain⟨q,j⟩:=j hg;refine⟨Ty.hE,λn hn e=>?_⟩;rw[Tm.ef] at hn e;simp only[eE] at hn e;obtain⟨n,rfl⟩:∃m,n=m+1:=⟨n-1,by omega⟩;have o:=o9 (n:=n) (g:=g) (l:=[a]) 0 [] (.cons (j n (by omega) (by omega)) .nil) (by simp);rw[fT,ea (by simp),ea (by simp)];simp only[ez,Tm.eG,eB (l:=[a]) (by simp),eo];rw[o];simp only[cl,ei,fI,gQ];rw[ea (by simp),ea (by simp),ee (by rfl)];simp only[o_,eU,jA,cl];rw[mN (by rw[Ty.ir];omega)];rfl
 |@uD g t b s k v _ _ _ c d p=>
  intro hg;obtain⟨q,c⟩:=c hg;obtain⟨r,d⟩:=d hg;obtain⟨B,p⟩:=p hg;refine⟨v,λn hn e=>?_⟩;rw[Tm.ef] at hn e;simp only[eE] at hn e;obtain⟨n,rfl⟩:∃m,n=m+1:=⟨n-1,by omega⟩;have z:=fC v;have o:=o9 (n:=n) (g:=g) (l:=[b,s,k]) 0 [] (.cons (c n (by omega) (by omega)) (.cons (d n (by omega) (by omega)) (.cons (p n (by omega) (by omega)) .nil))) (by simp);rw[fT,ea (by simp),ea (by simp)];simp only[ez,Tm.eG,eB (l:=[b,s,k]) (by simp),eo];rw[o];simp only[cl,ei,fI,gQ];rw[ea (by simp),ea (by simp),ea (by simp),ee (by rfl)];simp only[o_,eU,gz,jE,jA,mP,cl,Tm.fw];rw[mN (by omega)];simp only[cl,if_true];rw[jx (by omega) (by omega)];simp only[cl];rw[jx (by rw[Ty.ir];omega) (by rw[Ty.j3];omega)];simp only[cl];rw[mN (by have:=fC r;omega)];simp only[cl,if_true];rw[mN (by rw[Ty.ir];omega)];simp only[cl];rw[ea (by decide),jg (by omega)];rfl
 |nil=>
  intro hg;refine⟨Ty.o7,λn hn e=>?_⟩;rw[Tm.ef] at hn;obtain⟨n,rfl⟩:∃m,n=m+1:=⟨n-1,by omega⟩;rfl
 |@cons g a b _ _ c d=>
  intro hg;obtain⟨q,c⟩:=c hg;obtain⟨r,d⟩:=d hg;refine⟨Ty.o7,λn hn e=>?_⟩;rw[Tm.ef] at hn e;simp only[eE] at hn e;obtain⟨n,rfl⟩:∃m,n=m+1:=⟨n-1,by omega⟩;have o:=o9 (n:=n) (g:=g) (l:=[a,b]) 0 [] (.cons (c n (by omega) (by omega)) (.cons (d n (by omega) (by omega)) .nil)) (by simp);rw[fT,ea (by simp),ea (by simp)];simp only[ez,Tm.eG,eB (l:=[a,b]) (by simp),eo];rw[o];simp only[cl,ei,fI,gQ];rw[ea (by simp),ea (by simp),ea (by simp),ea (by simp),ea (by simp),ee (by rfl)];simp only[o_,eU,gz,jA,mP,cl];rw[mN (by rw[Ty.ir];omega)];simp only[cl,if_true];rw[mN (by rw[Ty.pG];omega)];rfl
 |@fold g t b s k v _ _ _ c d p=>
  intro hg;obtain⟨q,c⟩:=c hg;obtain⟨r,d⟩:=d hg;obtain⟨B,p⟩:=p hg;refine⟨v,λn hn e=>?_⟩;rw[Tm.ef] at hn e;simp only[eE] at hn e;obtain⟨n,rfl⟩:∃m,n=m+1:=⟨n-1,by omega⟩;have z:=fC v;have o:=o9 (n:=n) (g:=g) (l:=[b,s,k]) 0 [] (.cons (c n (by omega) (by omega)) (.cons (d n (by omega) (by omega)) (.cons (p n (by omega) (by omega)) .nil))) (by simp);rw[fT,ea (by simp),ea (by simp)];simp only[ez,Tm.eG,eB (l:=[b,s,k]) (by simp),eo];rw[o];simp only[cl,ei,fI,gQ];rw[ea (by simp),ea (by simp),ea (by simp),ea (by simp),ea (by simp),ea (by simp),ee (by rfl)];simp only[o_,eU,gz,jE,jA,mP,cl,Tm.fw];rw[mN (by omega)];simp only[cl,if_true];rw[jx (by omega) (by omega)];simp only[cl];rw[jx (by rw[Ty.pG];omega) (by rw[Ty.j3];omega)];simp only[cl];rw[jx (by rw[Ty.ir];omega) (by rw[Ty.j3,Ty.j3,Ty.pG];omega)];simp only[cl];rw[mN (by have:=fC r;omega)];simp only[cl,if_true];rw[mN (by rw[Ty.pG];omega)];simp only[cl];rw[ea (by decide),jg (by omega)];rfl
 |@pair g a b s t v _ _ c d=>
  intro hg;obtain⟨q,c⟩:=c hg;obtain⟨r,d⟩:=d hg;refine⟨v,λn hn e=>?_⟩;rw[Tm.ef] at hn e;simp only[eE] at hn e;obtain⟨n,rfl⟩:∃m,n=m+1:=⟨n-1,by omega⟩;have o:=o9 (n:=n) (g:=g) (l:=[a,b]) 0 [] (.cons (c n (by omega) (by omega)) (.cons (d n (by omega) (by omega)) .nil)) (by simp);rw[fT,ea (by simp),ea (by simp)];simp only[ez,Tm.eG,eB (l:=[a,b]) (by simp),eo];rw[o];simp only[cl,ei,fI,gQ];rw[ea (by simp),ea (by simp),ea (by simp),ea (by simp),ea (by simp),ea (by simp),ea (by simp),ee (by rfl)];simp only[o_,eU,gz,jA,mP,cl];rw[yi (by have:=fC q;omega) (by have:=fC r;omega)];simp only[cl];rw[ok_eq v];rfl
 |@fst g a s t _ j=>
  intro hg;obtain⟨q,j⟩:=j hg;refine⟨(Ty.sX (.inl rfl) q).1,λn hn e=>?_⟩;rw[Tm.ef] at hn e;simp only[eE] at hn e;obtain⟨n,rfl⟩:∃m,n=m+1:=⟨n-1,by omega⟩;have o:=o9 (n:=n) (g:=g) (l:=[a]) 0 [] (.cons (j n (by omega) (by omega)) .nil) (by simp);rw[fT,ea (by simp),ea (by simp)];simp only[ez,Tm.eG,eB (l:=[a]) (by simp),eo];rw[o];simp only[cl,ei,fI,gQ];rw[ea (by simp),ea (by simp),ea (by simp),ea (by simp),ea (by simp),ea (by simp),ea (by simp),ea (by simp),ee (by rfl)];simp only[o_,eU,jA,cl];rw[ea (by simp[Ty.pr,eW]),ee (by rfl),show(Ty.pr s t).ab_[0]?=some s from rfl];rfl
 |@snd g a s t _ j=>
  intro hg;obtain⟨q,j⟩:=j hg;refine⟨(Ty.sX (.inl rfl) q).2,λn hn e=>?_⟩;rw[Tm.ef] at hn e;simp only[eE] at hn e;obtain⟨n,rfl⟩:∃m,n=m+1:=⟨n-1,by omega⟩;have o:=o9 (n:=n) (g:=g) (l:=[a]) 0 [] (.cons (j n (by omega) (by omega)) .nil) (by simp);rw[fT,ea (by simp),ea (by simp)];simp only[ez,Tm.eG,eB (l:=[a]) (by simp),eo];rw[o];simp only[cl,ei,fI,gQ];rw[ea (by simp),ea (by simp),ea (by simp),ea (by simp),ea (by simp),ea (by simp),ea (by simp),ea (by simp),ee (by rfl)];simp only[o_,eU,jA,cl];rw[ea (by simp[Ty.pr,eW]),ea (by simp),show eJ (Ty.pr s t).ab_ 1=some t from rfl];rfl
 |unit=>
  intro hg;refine⟨Ty.Ha,λn hn e=>?_⟩;rw[Tm.ef] at hn;obtain⟨n,rfl⟩:∃m,n=m+1:=⟨n-1,by omega⟩;rfl
def Tm.pk{p:Tm->Prop}(var:∀i:Nat,p (.mk 1 i .z []))(lam:∀s b,s.err=0->b.ok=true->p (.mk 2 0 s [b]))(app:∀a b,a.ok=true->b.ok=true->p (.mk 3 0 .z [a,b]))
  (zero:p (.mk 4 0 .z [])) (succ:∀a,a.ok=true->p (.mk 5 0 .z [a])) (uD:∀s a b c,s.err=0->a.ok=true->b.ok=true->c.ok=true->p (.mk 6 0 s [a,b,c])) (nil:p (.mk 7 0 .z []))
  (cons:∀a b,a.ok=true->b.ok=true->p (.mk 8 0 .z [a,b])) (fold:∀s a b c,s.err=0->a.ok=true->b.ok=true->c.ok=true->p (.mk 9 0 s [a,b,c])) (pair:∀a b,a.ok=true->b.ok=true->p (.mk 10 0 .z [a,b]))
  (fst:∀a,a.ok=true->p (.mk 11 0 .z [a])) (snd:∀a,a.ok=true->p (.mk 12 0 .z [a])) (unit:p (.mk 13 0 .z [])) (t:Tm) (h:t.ok=true):p t:=by
 cases t with
 |mk k i s l=>
  obtain⟨_,hi,d,g,hn⟩:=Tm.l_ h
  have hs:if kD k=true then s.err=0 else s=.z:=by
   rw[Tm.h_] at h;simp only[Tm.node,gI] at h;have:=h.1.2
   split at this
   ·rename_i e;rw[ee e];simpa using this
   ·rename_i e;rw[ea e];exact(Ty.mQ s).1 this
  have n:∀{l:List Tm},(l.length:Int)=0->l=[]:=λh=>hD.1 h;unfold iM at hn
  split at hn
  ·rename_i e;obtain rfl:=hD.1 hn;rcases e with rfl|rfl|rfl|rfl
   ·rw[ea (by decide)] at hs;subst hs;obtain⟨j,rfl⟩:∃j:Nat,i=(j:Int):=⟨i.toNat,by omega⟩;exact var j
   ·rw[ea (by decide)] at hs;subst hs;obtain rfl:=d (by decide);exact zero
   ·rw[ea (by decide)] at hs;subst hs;obtain rfl:=d (by decide);exact nil
   ·rw[ea (by decide)] at hs;subst hs;obtain rfl:=d (by decide);exact unit
  ·split at hn
   ·rename_i e;obtain⟨a,rfl⟩:=jS hn;have f:=g a (by simp);rcases e with rfl|rfl|rfl|rfl
    ·rw[ee (by decide)] at hs;obtain rfl:=d (by decide);exact lam s a hs f
    ·rw[ea (by decide)] at hs;subst hs;obtain rfl:=d (by decide);exact succ a f
    ·rw[ea (by decide)] at hs;subst hs;obtain rfl:=d (by decide);exact fst a f
    ·rw[ea (by decide)] at hs;subst hs;obtain rfl:=d (by decide);exact snd a f
   ·split at hn
    ·rename_i e;obtain⟨a,b,rfl⟩:=qP hn;have f:=g a (by simp);have m:=g b (by simp);rcases e with rfl|rfl|rfl
     ·rw[ea (by decide)] at hs;subst hs;obtain rfl:=d (by decide);exact app a b f m
     ·rw[ea (by decide)] at hs;subst hs;obtain rfl:=d (by decide);exact cons a b f m
     ·rw[ea (by decide)] at hs;subst hs;obtain rfl:=d (by decide);exact pair a b f m
    ·split at hn
     ·rename_i e
      obtain⟨a,b,c,rfl⟩:∃a b c,l=[a,b,c]:=by
       match l,hn with
       |[a,b,c],_=>exact⟨a,b,c,rfl⟩|[],h|[_],h|[_,_],h=>simp at h
       |_::_::_::_::_,h=>simp at h;omega
      have f:=g a (by simp);have m:=g b (by simp);have o:=g c (by simp);rcases e with rfl|rfl
      ·rw[ee (by decide)] at hs;obtain rfl:=d (by decide);exact uD s a b c hs f m o
      ·rw[ee (by decide)] at hs;obtain rfl:=d (by decide);exact fold s a b c hs f m o
     ·omega
open Classical in
noncomputable def ig (k:Int) (s:Ty) (l:List Ty):Ty×Int:=
 if k=3 then(if(l.getD 0 .z).ab9=4/\(l.getD 0 .z).ab_.getD 0 .z=l.getD 1 .z then((l.getD 0 .z).ab_.getD 1 .z,0)else(.z,7))
 else if k=4 then(.nat,0)
 else if k=5 then(if l.getD 0 .z=.nat then(.nat,0)else(.z,7))
 else if k=6 then(if l.getD 0 .z=s/\l.getD 1 .z=.fn .nat (.fn s s)/\l.getD 2 .z=.nat then(s,0)else(.z,7))
 else if k=7 then(.nK,0)
 else if k=8 then(if l.getD 0 .z=.nat/\l.getD 1 .z=.nK then(.nK,0)else(.z,7))
 else if k=9 then(if l.getD 0 .z=s/\l.getD 1 .z=.fn .nat (.fn .nK (.fn s s))/\l.getD 2 .z=.nK then(s,0)else(.z,7))
 else if k=10 then(if 64<1+(l.getD 0 .z).ab'+(l.getD 1 .z).ab' then(.z,4)else(.pr (l.getD 0 .z) (l.getD 1 .z),0))
 else if k=11 then(if(l.getD 0 .z).ab9=3 then((l.getD 0 .z).ab_.getD 0 .z,0)else(.z,7))
 else if k=12 then(if(l.getD 0 .z).ab9=3 then((l.getD 0 .z).ab_.getD 1 .z,0)else(.z,7))
 else(.unit,0)
def Mc(s:Ty)(r:Ty×Int):Ty×Int:=if r.2≠0 then(.z,r.2)else if 64<1+s.ab'+r.1.ab' then(.z,4)else(.fn s r.1,0)
def vC(f:List Ty->Ty×Int):List Ty⊕Int->Ty×Int
 |.inl l=>f l|.inr e=>(.z,e)
def N8(r:Ty×Int)(o:List Ty⊕Int):List Ty⊕Int:=if r.2≠0 then .inr r.2 else match o with|.inl l=>.inl (r.1::l)|.inr e=>.inr e
mutual
noncomputable def Tm.ty:Tm->List Ty->Ty×Int
 |.mk k i s l,g=>if k=1 then(if i<(g.length:Int)then(g.getD (g.length-1-i.toNat) .z,0)else(.z,6))else if k=2 then Mc s (Tm.tyH l (g++[s]))else vC (ig k s) (Tm.uO l g)
noncomputable def Tm.tyH:List Tm->List Ty->Ty×Int
 |[],_=>(.z,0)|t::_,g=>t.ty g
noncomputable def Tm.uO:List Tm->List Ty->List Ty⊕Int
 |[],_=>.inl []|t::l,g=>N8 (t.ty g) (Tm.uO l g)
end
def Tm.nP(k i:Int)(s:Ty)(l:List Tm)(g:List Ty):(Tm.mk k i s l).ty g=if k=1 then(if i<(g.length:Int)then(g.getD (g.length-1-i.toNat) .z,0)else(.z,6))else if k=2 then Mc s (Tm.tyH l (g++[s]))else vC (ig k s) (Tm.uO l g):=by rw[Tm.ty]
def iR(g:List Ty):Prop:=∀s∈g,s.err=0
def iR.app{g:List Ty}{s:Ty}(h:iR g)(hs:s.err=0):iR (g++[s]):=by
 intro u hu;rcases sR.1 hu with h'|h'
 ·exact h u h'
 ·grind
def Kx{t:Ty}(h:t.err=0)(c:t.ab9=4):∃a b,t=.fn a b/\a.err=0/\b.err=0:=by
 rcases Ty.rG h with rfl|rfl|rfl|⟨a,b,rfl,_,_⟩|h
 ·cases c
 ·cases c
 ·cases c
 ·cases c
 ·exact h
def Ai{t:Ty}(h:t.err=0)(c:t.ab9=3):∃a b,t=.pr a b/\a.err=0/\b.err=0:=by
 rcases Ty.rG h with rfl|rfl|rfl|h|⟨a,b,rfl,_,_⟩
 ·cases c
 ·cases c
 ·cases c
 ·exact h
 ·cases c
def vl{t:Ty}(h:t.err=0):t.ab9=1↔t=.nat:=by
 rcases Ty.rG h with rfl|rfl|rfl|⟨a,b,rfl,_,_⟩|⟨a,b,rfl,_,_⟩
 ·exact⟨λ_=>rfl,λ_=>rfl⟩
 all_goals exact⟨λh=>(by cases h),λh=>(by cases h)⟩
def CC{t:Ty}(h:t.err=0):t.ab9=2↔t=.nK:=by
 rcases Ty.rG h with rfl|rfl|rfl|⟨a,b,rfl,_,_⟩|⟨a,b,rfl,_,_⟩
 ·exact⟨λh=>(by cases h),λh=>(by cases h)⟩
 ·exact⟨λ_=>rfl,λ_=>rfl⟩
 all_goals exact⟨λh=>(by cases h),λh=>(by cases h)⟩
theorem qL{r:Ty×Int}{o:List Ty⊕Int}(h:r.2≠0):N8 r o=.inr r.2:=ee h
theorem qH{r:Ty×Int}{o:List Ty⊕Int}(h:r.2=0):N8 r o=match o with|.inl l=>.inl (r.1::l)|.inr e=>.inr e:=ea (by omega)
theorem th{f:List Ty->Ty×Int}{e:Int}{r:Ty}(h:vC f (.inr e)=(r,0)):e=0:=(iz h).2
def xO{a:Tm}{g:List Ty}(h:(a.ty g).2=0):a.ty g=((a.ty g).1,0):=Prod.ext rfl h
def Ov{a:Tm}{g:List Ty}{f:List Ty->Ty×Int}{r:Ty}(h:vC f (Tm.uO [a] g)=(r,0)):∃s,a.ty g=(s,0)/\f [s]=(r,0):=by
 rw[Tm.uO] at h
 by_cases b:(a.ty g).2=0
 ·rw[qH b] at h;exact⟨_,xO b,h⟩
 ·grind[qL,th]
def Oz{a b:Tm}{g:List Ty}{f:List Ty->Ty×Int}{r:Ty}(h:vC f (Tm.uO [a,b] g)=(r,0)):∃s t,a.ty g=(s,0)/\b.ty g=(t,0)/\f [s,t]=(r,0):=by
 rw[Tm.uO,Tm.uO,Tm.uO] at h
 by_cases c:(a.ty g).2=0
 ·rw[qH c] at h
  by_cases d:(b.ty g).2=0
  ·rw[qH d] at h;exact⟨_,_,xO c,xO d,h⟩
  ·grind[qL,th]
 ·grind[qL,th]
def MJ{a b c:Tm}{g:List Ty}{f:List Ty->Ty×Int}{r:Ty}(h:vC f (Tm.uO [a,b,c] g)=(r,0)):∃s t u,a.ty g=(s,0)/\b.ty g=(t,0)/\c.ty g=(u,0)/\f [s,t,u]=(r,0):=by
 rw[Tm.uO,Tm.uO,Tm.uO,Tm.uO] at h
 by_cases d:(a.ty g).2=0
 ·rw[qH d] at h
  by_cases e:(b.ty g).2=0
  ·rw[qH e] at h
   by_cases i:(c.ty g).2=0
   ·rw[qH i] at h;exact⟨_,_,_,xO d,xO e,xO i,h⟩
   ·grind[qL,th]
  ·rw[qL e] at h;exact absurd (th h) e
 ·rw[qL d] at h;exact absurd (th h) d
def q9:∀(n:Nat) (t:Tm),t.ab'<=n->t.ok=true->∀g,iR g->∀s,t.ty g=(s,0)->e_ g t s/\s.err=0:=by
 intro n
 induction n with
 |zero=>intro t h;have:=t.eP;omega
 |succ n k=>
  intro t hn E;refine Tm.pk (p:=λt=>t.ab'<=n+1->∀g,iR g->∀s,t.ty g=(s,0)->e_ g t s/\s.err=0) ?_ ?_ ?_ ?_ ?_ ?_ ?_ ?_ ?_ ?_ ?_ ?_ ?_ t E hn
  ·intro i _ g hg s h;rw[Tm.nP,ee rfl] at h
   split at h
   ·rename_i hi
    have u:g.length-1-(i:Int).toNat<g.length:=by omega
    have e:g[g.length-1-i]?=some s:=by
     have f:=(iz h).1;rw[NF,AP] at f;rw[AP] at u;rw[oD u] at f|-;simpa using f
    exact⟨.var i (by omega) e,hg s (Be e)⟩
   ·have:=(iz h).2;omega
  ·intro s b hs m hn g hg r h;rw[Tm.ef] at hn;simp only[eE] at hn;rw[Tm.nP,ea (by decide),ee rfl,Tm.tyH] at h;unfold Mc at h
   split at h
   ·rename_i w;exact absurd (iz h).2 w
   ·rename_i w
    split at h
    ·have:=(iz h).2;omega
    ·rename_i f;obtain⟨o,d⟩:=k b (by omega) m (g++[s]) (hg.app hs) _ (xO (by simpa using w));have he:=Ty.yB hs d (by omega);obtain rfl:=(iz h).1;exact⟨.lam he o,he⟩
  ·intro a b l m hn g hg r h;rw[Tm.ef] at hn;simp only[eE] at hn;rw[Tm.nP,ea (by decide),ea (by decide)] at h;obtain⟨s,t,f,o,d⟩:=Oz h;obtain⟨a1,a2⟩:=k a (by omega) l g hg _ f;obtain⟨q,v⟩:=k b (by omega) m g hg _ o;simp only[ig,if_true,UC,T0] at d
   split at d
   ·rename_i j;obtain⟨x,y,rfl,A,hy⟩:=Kx a2 j.1;have F:x=t:=j.2;obtain rfl:=(iz d).1;subst F;exact⟨.app a1 q,hy⟩
   ·have:=(iz d).2;omega
  ·intro hn g hg r h;rw[Tm.nP,ea (by decide),ea (by decide),Tm.uO] at h;simp only[vC,ig,reduceIte,Int.reduceEq] at h;obtain rfl:=(iz h).1;exact⟨.zero,Ty.hE⟩
  ·intro a l hn g hg r h;rw[Tm.ef] at hn;simp only[eE] at hn;rw[Tm.nP,ea (by decide),ea (by decide)] at h;obtain⟨s,f,d⟩:=Ov h;obtain⟨a1,a2⟩:=k a (by omega) l g hg _ f;simp only[ig,reduceIte,Int.reduceEq,UC] at d
   split at d
   ·rename_i j;subst j;obtain rfl:=(iz d).1;exact⟨.succ a1,Ty.hE⟩
   ·have:=(iz d).2;omega
  ·intro s a b c hs l m B hn g hg r h;rw[Tm.ef] at hn;simp only[eE] at hn;rw[Tm.nP,ea (by decide),ea (by decide)] at h;obtain⟨x,y,z,f,o,C,d⟩:=MJ h;obtain⟨a1,a2⟩:=k a (by omega) l g hg _ f;obtain⟨q,v⟩:=k b (by omega) m g hg _ o;obtain⟨D,G⟩:=k c (by omega) B g hg _ C;simp only[ig,reduceIte,Int.reduceEq,UC,T0] at d
   split at d
   ·rename_i j;have j:x=s/\y=.fn .nat (.fn s s)/\z=.nat:=j;obtain⟨rfl,rfl,rfl⟩:=j;obtain rfl:=(iz d).1;exact⟨.uD hs a1 q D,hs⟩
   ·have:=(iz d).2;omega
  ·intro hn g hg r h;rw[Tm.nP,ea (by decide),ea (by decide),Tm.uO] at h;simp only[vC,ig,reduceIte,Int.reduceEq] at h;obtain rfl:=(iz h).1;exact⟨.nil,Ty.o7⟩
  ·intro a b l m hn g hg r h;rw[Tm.ef] at hn;simp only[eE] at hn;rw[Tm.nP,ea (by decide),ea (by decide)] at h;obtain⟨s,t,f,o,d⟩:=Oz h;obtain⟨a1,a2⟩:=k a (by omega) l g hg _ f;obtain⟨q,v⟩:=k b (by omega) m g hg _ o;simp only[ig,reduceIte,Int.reduceEq,UC,T0] at d
   split at d
   ·rename_i j;obtain⟨rfl,rfl⟩:=j;obtain rfl:=(iz d).1;exact⟨.cons a1 q,Ty.o7⟩
   ·have:=(iz d).2;omega
  ·intro s a b c hs l m B hn g hg r h;rw[Tm.ef] at hn;simp only[eE] at hn;rw[Tm.nP,ea (by decide),ea (by decide)] at h;obtain⟨x,y,z,f,o,C,d⟩:=MJ h;obtain⟨a1,a2⟩:=k a (by omega) l g hg _ f;obtain⟨q,v⟩:=k b (by omega) m g hg _ o;obtain⟨D,G⟩:=k c (by omega) B g hg _ C;simp only[ig,reduceIte,Int.reduceEq,UC,T0] at d
   split at d
   ·rename_i j;have j:x=s/\y=.fn .nat (.fn .nK (.fn s s))/\z=.nK:=j;obtain⟨rfl,rfl,rfl⟩:=j;obtain rfl:=(iz d).1;exact⟨.fold hs a1 q D,hs⟩
   ·have:=(iz d).2;omega
  ·intro a b l m hn g hg r h;rw[Tm.ef] at hn;simp only[eE] at hn;rw[Tm.nP,ea (by decide),ea (by decide)] at h;obtain⟨s,t,f,o,d⟩:=Oz h;obtain⟨a1,a2⟩:=k a (by omega) l g hg _ f;obtain⟨q,v⟩:=k b (by omega) m g hg _ o;simp only[ig,reduceIte,Int.reduceEq,UC,T0] at d
   split at d
   ·have:=(iz d).2;omega
   ·rename_i j;have he:=Ty.Ng a2 v (by omega);obtain rfl:=(iz d).1;exact⟨.pair he a1 q,he⟩
  ·intro a l hn g hg r h;rw[Tm.ef] at hn;simp only[eE] at hn;rw[Tm.nP,ea (by decide),ea (by decide)] at h;obtain⟨s,f,d⟩:=Ov h;obtain⟨a1,a2⟩:=k a (by omega) l g hg _ f;simp only[ig,reduceIte,Int.reduceEq,UC] at d
   split at d
   ·rename_i j;obtain⟨x,y,rfl,A,hy⟩:=Ai a2 j;obtain rfl:=(iz d).1;exact⟨.fst a1,A⟩
   ·have:=(iz d).2;omega
  ·intro a l hn g hg r h;rw[Tm.ef] at hn;simp only[eE] at hn;rw[Tm.nP,ea (by decide),ea (by decide)] at h;obtain⟨s,f,d⟩:=Ov h;obtain⟨a1,a2⟩:=k a (by omega) l g hg _ f;simp only[ig,reduceIte,Int.reduceEq,UC] at d
   split at d
   ·rename_i j;obtain⟨x,y,rfl,A,hy⟩:=Ai a2 j;obtain rfl:=(iz d).1;exact⟨.snd a1,hy⟩
   ·have:=(iz d).2;omega
  ·intro hn g hg r h;rw[Tm.nP,ea (by decide),ea (by decide),Tm.uO] at h;simp only[vC,ig,reduceIte,Int.reduceEq] at h;obtain rfl:=(iz h).1;exact⟨.unit,Ty.Ha⟩
end Go.hI
namespace Go.hI
open Go
def kq(a:Ty):a.lS a=true:=(Ty.k0 a a).2 rfl
def mo{a b:Ty}(h:a≠b):a.lS b=false:=by grind[Ty.k0]
def oZ{n:Nat}{g:List Ty}:∀(l:List Tm) (i:Nat) (v:List Ty),(∀a∈l,fT n g a=some (a.ty g))->v.length+l.length<=1000->fp (λ(m:Int) (j:Tm)=>(λ(c:List Ty)=>
   ek (fT n g j) λd f=>
   if(eW f 0)=true then(
   some (gj.ret ((Ty.mk 0 []),f)))
   else(gS (gr c [d])<|some (.next (gG c [d])))):Int->Tm->((List Ty))->(Option (gj ((List Ty)) (Ty×Int)))) l i v=some (match Tm.uO l g with|.inl ts=>.inl (v++ts)|.inr e=>.inr (.z,e))
 |[],i,v,_,_=>by simp[Tm.uO]|a::l,i,v,h,o=>by
  simp only[ld] at o;have p:=h a (by simp);rw[fl,Tm.uO];rw[p]
  by_cases k:(a.ty g).2=0
  ·rw[xO k,qH rfl];simp only[eb];rw[ea (by decide),fx (by simp;omega)];simp only[eo,cl,ft];rw[oZ l (i+1) _ (λb q=>h b (by simp[q])) (by rw[gY];simp;omega),gY];cases Tm.uO l g with
   |inl ts=>simp|inr e=>rfl
  ·rw[qL k];generalize a.ty g=r at k;obtain⟨t,e⟩:=r;simp only[eb];rw[ee (by simpa[eW] using k)];rfl
def Ag(l:List Tm)(g:List Ty):(∃e,e≠0/\Tm.uO l g=.inr e)\/∃ts,Tm.uO l g=.inl ts/\ts.length=l.length/\∀(i:Nat) (a:Tm),l[i]?=some a->∃s,ts[i]?=some s/\a.ty g=(s,0):=by
 induction l with
 |nil=>exact .inr ⟨[],by rw[Tm.uO],rfl,by simp⟩|cons a l b=>
  rw[Tm.uO]
  grind[qH,qL]
def Nf{f:List Ty->Ty×Int}{e:Int}:vC f (.inr e)=(.z,e):=rfl
def oY{f:List Ty->Ty×Int}{l:List Ty}:vC f (.inl l)=f l:=rfl
def Dc{a:Tm}{g:List Ty}(b:a.ok=true)(hg:iR g):(∃e,e≠0/\Tm.uO [a] g=.inr e)\/∃s,Tm.uO [a] g=.inl [s]/\s.err=0:=by
 rcases Ag [a] g with h|⟨ts,c,d,f⟩
 ·grind
 ·obtain⟨s,j,i⟩:=f 0 a rfl
  match ts,d with
  |[x],_=>
   obtain rfl:x=s:=by grind
   exact .inr ⟨x,c,(q9 _ a (jo _) b g hg _ i).2⟩
def Cd{a b:Tm}{g:List Ty}(d:a.ok=true)(f:b.ok=true)(hg:iR g):(∃e,e≠0/\Tm.uO [a,b] g=.inr e)\/∃s t,Tm.uO [a,b] g=.inl [s,t]/\s.err=0/\t.err=0:=by
 rcases Ag [a,b] g with h|⟨ts,i,j,c⟩
 ·exact .inl h
 ·obtain⟨s,m,k⟩:=c 0 a rfl;obtain⟨t,n,l⟩:=c 1 b rfl
  match ts,j with
  |[x,y],_=>
   obtain rfl:x=s:=by grind
   obtain rfl:y=t:=by grind
   exact .inr ⟨x,y,i,(q9 _ a (jo _) d g hg _ k).2,(q9 _ b (jo _) f g hg _ l).2⟩
def BA{a b c:Tm}{g:List Ty}(f:a.ok=true)(i:b.ok=true)(j:c.ok=true)(hg:iR g):(∃e,e≠0/\Tm.uO [a,b,c] g=.inr e)\/∃s t u,Tm.uO [a,b,c] g=.inl [s,t,u]/\s.err=0/\t.err=0/\u.err=0:=by
 rcases Ag [a,b,c] g with h|⟨ts,k,l,d⟩
 ·exact .inl h
 ·obtain⟨s,q,m⟩:=d 0 a rfl;obtain⟨t,r,n⟩:=d 1 b rfl;obtain⟨u,o,p⟩:=d 2 c rfl
  match ts,l with
  |[x,y,z],_=>
   obtain rfl:x=s:=by grind
   obtain rfl:y=t:=by grind
   obtain rfl:z=u:=by simpa using o
   exact .inr ⟨x,y,z,k,(q9 _ a (jo _) f g hg _ m).2,(q9 _ b (jo _) i g hg _ n).2,(q9 _ c (jo _) j g hg _ p).2⟩
def Et{t:Ty}(h:t.ab'<=1000000000)(a:t.ok=true):tN t=some (if 64<t.ab' then(.z,4)else(t,0)):=by
 unfold tN;rw[m4 h];unfold Ty.err;rw[ee a]
 split
 ·rfl
 ·rfl
section
variable{s x y z:Ty}
def z':((x.ab9=4/\x.ab_.getD 0 .z=y)->ig 3 s [x,y]=(x.ab_.getD 1 .z,0))/\(¬(x.ab9=4/\x.ab_.getD 0 .z=y)->ig 3 s [x,y]=(.z,7)):=by
 unfold ig
 grind
def Fv:(x=.nat->ig 5 s [x]=(.nat,0))/\(x≠ .nat->ig 5 s [x]=(.z,7)):=by
 unfold ig
 grind
def wH:((x=s/\y=.fn .nat (.fn s s)/\z=.nat)->ig 6 s [x,y,z]=(s,0))/\(¬(x=s/\y=.fn .nat (.fn s s)/\z=.nat)->ig 6 s [x,y,z]=(.z,7)):=by
 unfold ig
 grind
def Al:((x=.nat/\y=.nK)->ig 8 s [x,y]=(.nK,0))/\(¬(x=.nat/\y=.nK)->ig 8 s [x,y]=(.z,7)):=by
 unfold ig
 grind
def wv:((x=s/\y=.fn .nat (.fn .nK (.fn s s))/\z=.nK)->ig 9 s [x,y,z]=(s,0))/\(¬(x=s/\y=.fn .nat (.fn .nK (.fn s s))/\z=.nK)->ig 9 s [x,y,z]=(.z,7)):=by
 unfold ig
 grind
def L1:ig 10 s [x,y]=if 64<1+x.ab'+y.ab' then(.z,4)else(.pr x y,0):=by
 rfl
def M5:ig 11 s [x]=if x.ab9=3 then(x.ab_.getD 0 .z,0)else(.z,7):=by
 rfl
def L9:ig 12 s [x]=if x.ab9=3 then(x.ab_.getD 1 .z,0)else(.z,7):=by
 rfl
end
def zu:∀(n:Nat) (t:Tm),t.ab'<=n->t.ok=true->∀g,iR g->g.length+t.ab'<=1000000->fT n g t=some (t.ty g):=by
 intro n
 induction n with
 |zero=>intro t h;have:=t.eP;omega
 |succ n m=>
  intro t hn L;refine Tm.pk (p:=λt=>t.ab'<=n+1->∀g,iR g->g.length+t.ab'<=1000000->fT (n+1) g t=some (t.ty g)) ?_ ?_ ?_ ?_ ?_ ?_ ?_ ?_ ?_ ?_ ?_ ?_ ?_ t L hn
  ·intro i _ g hg k;rw[Tm.ef] at k;rw[fT,ee (by rfl),Tm.nP,ee rfl]
   by_cases hi:(i:Int)<(g.length:Int)
   ·rw[ea (by simp only[Tm.gx,fR,iU];omega),ee hi];simp only[Tm.gx,fR];rw[fH (a:=(g.length:Int)) (by omega) (by omega),fH (by omega) (by omega)]
    have w:g.length-1-i<g.length:=by omega
    have:eJ g ((g.length:Int)-1-(i:Int))=some g[g.length-1-i]:=by
     unfold eJ;rw[ee (by omega),show((g.length:Int)-1-(i:Int)).toNat=g.length-1-i by omega,oD w]
    rw[this];simp only[cl];have F:=hg _ (CG w);rw[jg (by have:=fC F;omega)];simp only[cl,AP];rw[NF,oD w];rfl
   ·rw[ee (by simp only[Tm.gx,fR,iU];omega),ea hi];rfl
  ·intro s b hs k hn g hg d;rw[Tm.ef] at hn d;simp only[eE] at hn d;rw[fT,ea (by simp),ee (by rfl),Tm.nP,ea (by decide),ee rfl,Tm.tyH];simp only[Tm.fw,Tm.eG,eU,jA,cl,gY];rw[fx (by simp;omega),eo,m b (by omega) k (g++[s]) (hg.app hs) (by simp;omega)];have J:=λh=>(q9 _ b (jo _) k (g++[s]) (hg.app hs) (b.ty (g++[s])).1 (xO h)).2;generalize b.ty (g++[s])=q at J;obtain⟨r,e⟩:=q;simp only[eb,Mc]
   by_cases G:e=0
   ·subst G;have K:r.err=0:=J rfl;have H:=fC hs;have M:=fC K;rw[ea (by decide),ea (by simp),jx (by omega) (by omega)];simp only[cl];rw[Et (t:=Ty.fn s r) (by rw[Ty.j3];omega) (Ty.ok_two (.inr rfl) (Ty.lW hs).1 (Ty.lW K).1),Ty.j3]
    split<;>rfl
   ·rw[ee (by simpa[eW] using G),ee G];rfl
  ·intro a b j k hn g hg d;rw[Tm.ef] at hn d;simp only[eE] at hn d;rw[fT,ea (by simp),ea (by simp),Tm.nP,ea (by decide),ea (by decide)];simp only[ez,Tm.eG,eB (l:=[a,b]) (by simp),eo];rw[oZ [a,b] 0 [] (by intro x f;simp at f;rcases f with rfl|rfl<;>first|exact m _ (by omega) j g hg (by omega)|exact m _ (by omega) k g hg (by omega)) (by simp)];rcases Cd j k hg with⟨e,he,h⟩|⟨s,t,h,hs,D⟩
   ·rw[h];rfl
   ·rw[h,oY];simp only[cl,ei,fI,gQ];rw[ee (by rfl)];simp only[o_,eU,gz,jA,mP,cl]
    by_cases o:s.ab9=4
    ·obtain⟨x,y,rfl,f,hy⟩:=Kx hs o;rw[ea (by simp[Ty.fn,eW]),show(Ty.fn x y).ab_[0]?=some x from rfl];simp only[cl];rw[jh (by have:=fC f;omega)];simp only[cl]
     by_cases A:x=t
     ·subst A;rw[kq,ea (by decide),show(Ty.fn x y).ab_[1]?=some y from rfl,(z' (x:=.fn x y) (y:=x)).1 ⟨rfl,rfl⟩];rfl
     ·rw[mo A,ee (by decide),(z' (x:=.fn x y) (y:=t)).2 (λh=>A h.2)];rfl
    ·rw[ee (by simpa[eW] using o),ee trivial,z'.2 (λh=>o h.1)];rfl
  ·intro hn g hg d;rw[Tm.nP,ea (by decide),ea (by decide),Tm.uO];rfl
  ·intro a j hn g hg d;rw[Tm.ef] at hn d;simp only[eE] at hn d;rw[fT,ea (by simp),ea (by simp),Tm.nP,ea (by decide),ea (by decide)];simp only[ez,Tm.eG,eB (l:=[a]) (by simp),eo];rw[oZ [a] 0 [] (by intro x f;simp at f;subst f;exact m _ (by omega) j g hg (by omega)) (by simp)];rcases Dc j hg with⟨e,he,h⟩|⟨s,h,hs⟩
   ·rw[h];rfl
   ·rw[h,oY];simp only[cl,ei,fI,gQ];rw[ea (by simp),ea (by simp),ee (by rfl)];simp only[o_,eU,jA,cl];rw[jh (by have:=fC hs;omega)];simp only[cl]
    by_cases B:s=.nat
    ·subst B;rw[kq,ee rfl,Fv.1 rfl]
    ·rw[mo B,ea (by decide),Fv.2 B];rfl
  ·intro s a b c hs j k E hn g hg d;rw[Tm.ef] at hn d;simp only[eE] at hn d;rw[fT,ea (by simp),ea (by simp),Tm.nP,ea (by decide),ea (by decide)];simp only[ez,Tm.eG,eB (l:=[a,b,c]) (by simp),eo];rw[oZ [a,b,c] 0 [] (by intro x f;simp at f;rcases f with rfl|rfl|rfl<;>first|exact m _ (by omega) j g hg (by omega)|exact m _ (by omega) k g hg (by omega)|exact m _ (by omega) E g hg (by omega)) (by simp)];rcases BA j k E hg with⟨e,he,h⟩|⟨x,y,z,h,f,hy,I⟩
   ·rw[h];rfl
   ·have H:=fC hs;rw[h,oY];simp only[cl,ei,fI,gQ];rw[ea (by simp),ea (by simp),ea (by simp),ee (by rfl)];simp only[o_,eU,gz,jE,jA,mP,cl,Tm.fw];rw[jh (by have:=fC f;omega)];simp only[cl]
    by_cases u:x=s
    ·subst u;rw[kq,ee rfl,jx (by omega) (by omega)];simp only[cl];rw[jx (by rw[Ty.ir];omega) (by rw[Ty.j3];omega)];simp only[cl];rw[jh (by have:=fC hy;omega)];simp only[cl]
     by_cases v:y=.fn .nat (.fn x x)
     ·subst v;rw[kq,ee rfl,jh (by have:=fC I;omega)];simp only[cl]
      by_cases C:z=.nat
      ·subst C;rw[kq,ea (by decide),jg (by omega),wH.1 ⟨rfl,rfl,rfl⟩];rfl
      ·rw[mo C,ee (by decide),wH.2 (λh=>C h.2.2)];rfl
     ·rw[mo v,ea (by decide),ee trivial,wH.2 (λh=>v h.2.1)];rfl
    ·rw[mo u,ea (by decide),ee trivial,wH.2 (λh=>u h.1)];rfl
  ·intro hn g hg d;rw[Tm.nP,ea (by decide),ea (by decide),Tm.uO];rfl
  ·intro a b j k hn g hg d;rw[Tm.ef] at hn d;simp only[eE] at hn d;rw[fT,ea (by simp),ea (by simp),Tm.nP,ea (by decide),ea (by decide)];simp only[ez,Tm.eG,eB (l:=[a,b]) (by simp),eo];rw[oZ [a,b] 0 [] (by intro x f;simp at f;rcases f with rfl|rfl<;>first|exact m _ (by omega) j g hg (by omega)|exact m _ (by omega) k g hg (by omega)) (by simp)];rcases Cd j k hg with⟨e,he,h⟩|⟨s,t,h,hs,D⟩
   ·rw[h];rfl
   ·rw[h,oY];simp only[cl,ei,fI,gQ];rw[ea (by simp),ea (by simp),ea (by simp),ea (by simp),ea (by simp),ee (by rfl)];simp only[o_,eU,gz,jA,mP,cl];rw[jh (by have:=fC hs;omega)];simp only[cl]
    by_cases u:s=.nat
    ·subst u;rw[kq,ee rfl,jh (by have:=fC D;omega)];simp only[cl]
     by_cases v:t=.nK
     ·subst v;rw[kq,ea (by decide),Al.1 ⟨rfl,rfl⟩]
     ·rw[mo v,ee (by decide),Al.2 (λh=>v h.2)];rfl
    ·rw[mo u,ea (by decide),ee trivial,Al.2 (λh=>u h.1)];rfl
  ·intro s a b c hs j k E hn g hg d;rw[Tm.ef] at hn d;simp only[eE] at hn d;rw[fT,ea (by simp),ea (by simp),Tm.nP,ea (by decide),ea (by decide)];simp only[ez,Tm.eG,eB (l:=[a,b,c]) (by simp),eo];rw[oZ [a,b,c] 0 [] (by intro x f;simp at f;rcases f with rfl|rfl|rfl<;>first|exact m _ (by omega) j g hg (by omega)|exact m _ (by omega) k g hg (by omega)|exact m _ (by omega) E g hg (by omega)) (by simp)];rcases BA j k E hg with⟨e,he,h⟩|⟨x,y,z,h,f,hy,I⟩
   ·rw[h];rfl
   ·have H:=fC hs;rw[h,oY];simp only[cl,ei,fI,gQ];rw[ea (by simp),ea (by simp),ea (by simp),ea (by simp),ea (by simp),ea (by simp),ee (by rfl)];simp only[o_,eU,gz,jE,jA,mP,cl,Tm.fw];rw[jh (by have:=fC f;omega)];simp only[cl]
    by_cases u:x=s
    ·subst u;rw[kq,ee rfl,jx (by omega) (by omega)];simp only[cl];rw[jx (by rw[Ty.pG];omega) (by rw[Ty.j3];omega)];simp only[cl];rw[jx (by rw[Ty.ir];omega) (by rw[Ty.j3,Ty.j3,Ty.pG];omega)];simp only[cl];rw[jh (by have:=fC hy;omega)];simp only[cl]
     by_cases v:y=.fn .nat (.fn .nK (.fn x x))
     ·subst v;rw[kq,ee rfl,jh (by have:=fC I;omega)];simp only[cl]
      by_cases C:z=.nK
      ·subst C;rw[kq,ea (by decide),jg (by omega),wv.1 ⟨rfl,rfl,rfl⟩];rfl
      ·rw[mo C,ee (by decide),wv.2 (λh=>C h.2.2)];rfl
     ·rw[mo v,ea (by decide),ee trivial,wv.2 (λh=>v h.2.1)];rfl
    ·rw[mo u,ea (by decide),ee trivial,wv.2 (λh=>u h.1)];rfl
  ·intro a b j k hn g hg d;rw[Tm.ef] at hn d;simp only[eE] at hn d;rw[fT,ea (by simp),ea (by simp),Tm.nP,ea (by decide),ea (by decide)];simp only[ez,Tm.eG,eB (l:=[a,b]) (by simp),eo];rw[oZ [a,b] 0 [] (by intro x f;simp at f;rcases f with rfl|rfl<;>first|exact m _ (by omega) j g hg (by omega)|exact m _ (by omega) k g hg (by omega)) (by simp)];rcases Cd j k hg with⟨e,he,h⟩|⟨s,t,h,hs,D⟩
   ·rw[h];rfl
   ·have H:=fC hs;have M:=fC D;rw[h,oY];simp only[cl,ei,fI,gQ];rw[ea (by simp),ea (by simp),ea (by simp),ea (by simp),ea (by simp),ea (by simp),ea (by simp),ee (by rfl)];simp only[o_,eU,gz,jA,mP,cl];rw[yi (by omega) (by omega)];simp only[cl];rw[Et (t:=Ty.pr s t) (by rw[Ty.vb];omega) (Ty.ok_two (.inl rfl) (Ty.lW hs).1 (Ty.lW D).1),Ty.vb];rw[L1]
    split<;>rfl
  ·intro a j hn g hg d;rw[Tm.ef] at hn d;simp only[eE] at hn d;rw[fT,ea (by simp),ea (by simp),Tm.nP,ea (by decide),ea (by decide)];simp only[ez,Tm.eG,eB (l:=[a]) (by simp),eo];rw[oZ [a] 0 [] (by intro x f;simp at f;subst f;exact m _ (by omega) j g hg (by omega)) (by simp)];rcases Dc j hg with⟨e,he,h⟩|⟨s,h,hs⟩
   ·rw[h];rfl
   ·rw[h,oY];simp only[cl,ei,fI,gQ];rw[ea (by simp),ea (by simp),ea (by simp),ea (by simp),ea (by simp),ea (by simp),ea (by simp),ea (by simp),ee (by rfl)];simp only[o_,eU,jA,cl];rw[M5]
    by_cases o:s.ab9=3
    ·obtain⟨x,y,rfl,f,hy⟩:=Ai hs o;rw[ea (by simp[Ty.pr,eW]),ee (by rfl),ee (show(Ty.pr x y).ab9=3 from rfl)];rfl
    ·rw[ee (by simpa[eW] using o),ea o];rfl
  ·intro a j hn g hg d;rw[Tm.ef] at hn d;simp only[eE] at hn d;rw[fT,ea (by simp),ea (by simp),Tm.nP,ea (by decide),ea (by decide)];simp only[ez,Tm.eG,eB (l:=[a]) (by simp),eo];rw[oZ [a] 0 [] (by intro x f;simp at f;subst f;exact m _ (by omega) j g hg (by omega)) (by simp)];rcases Dc j hg with⟨e,he,h⟩|⟨s,h,hs⟩
   ·rw[h];rfl
   ·rw[h,oY];simp only[cl,ei,fI,gQ];rw[ea (by simp),ea (by simp),ea (by simp),ea (by simp),ea (by simp),ea (by simp),ea (by simp),ea (by simp),ee (by rfl)];simp only[o_,eU,jA,cl];rw[L9]
    by_cases o:s.ab9=3
    ·obtain⟨x,y,rfl,f,hy⟩:=Ai hs o;rw[ea (by simp[Ty.pr,eW]),ea (by simp),ee (show(Ty.pr x y).ab9=3 from rfl)];rfl
    ·rw[ee (by simpa[eW] using o),ea o];rfl
  ·intro hn g hg d;rw[Tm.nP,ea (by decide),ea (by decide),Tm.uO];rfl
end Go.hI
namespace Go.hI
open Go
def Iq:gZ=fQ:=by
 funext n
 induction n with
 |zero=>rfl|succ n c=>
  funext a b
  rw[gZ,fQ,c]
def qz{a b:Ty}(h:a.ab'<=1000000000):gZ FU a b=some (a.lS b):=by rw[Iq];exact jh h
def ti(t:Ty):ed:=⟨t,(t.ab':Int)⟩
def QX:ed:=⟨.mk 0 [],0⟩
def I5(r:Ty×Int):ed×Int:=if r.2=0 then(ti r.1,0)else(QX,r.2)
@[simp] theorem qk(t:Ty):I5 (t,0)=(ti t,0):=ee rfl
def me{t:Ty}{e:Int}(h:e≠0):I5 (t,e)=(QX,e):=ea h
@[simp] theorem uV(t:Ty):(ti t).dv=t:=by rfl
@[simp] theorem Js(t:Ty):(ti t).ab'=(t.ab':Int):=by rfl
theorem lI{t:Ty}(h:t.err=0):nC t=some (ti t):=by
 unfold nC;rw[l8 (by have:=fC h;omega),ee h];rfl
def zI(k:Int){a b:Ty}(c:a.ab'<=1000000)(d:b.ab'<=1000000):rW k (ti a) (ti b)=some (if 64<1+a.ab'+b.ab' then(QX,4)else(ti (.mk k [a,b]),0)):=by
 unfold rW;simp only[Js,uV];rw[fq (a:=1) (by omega) (by omega),fq (by omega) (by omega)]
 by_cases h:64<1+a.ab'+b.ab'
 ·rw[ee (by simp only[gA];omega),ee h];rfl
 ·rw[ea (by simp only[gA];omega),ea h];unfold ti;rw[Ty.Ap]
  congr 3
theorem su{a b:Ty}(c:a.ab'<=1000000):kT (ti a) (ti b)=some (a.lS b):=by
 unfold kT;simp only[ez,Js,uV]
 by_cases h:(a.ab':Int)=(b.ab':Int)
 ·rw[ee (by simpa[eH] using h),qz (by omega)];rfl
 ·rw[ea (by simpa[eH] using h),mo (by rintro rfl;exact h rfl)]
def sd{t x:Ty}{i:Int}(h:eJ t.ab_ i=some x)(a:x.err=0):jW (ti t) i=some (ti x):=by
 unfold jW;simp only[uV,h,cl,lI a]
def qy:nH=some .nat:=rfl
def Cq:xF=some .nK:=rfl
def St{l:List Ty}(d:l.length<=1000):∀(i m:Nat) (k:Int) (as:List Ty),i<=l.length->i<m->pw ((MT λ(a:Int) (v49:Int) (b:List Ty)=>
   if(sN a 0)=true then(
   cv (eJ l a) λc=>
   some (.next ((fD .i64 a 1),4,[c,(Ty.mk v49 b)])))
   else(some (.Ft (a,v49,b)))):(Int×Int×(List Ty))->(Option (gj (Int×Int×(List Ty)) (Ty)))) m ((i:Int)-1,k,as)=some (.inl (-1,((l.take i).foldr Ty.fn (.mk k as)).ab9,((l.take i).foldr Ty.fn (.mk k as)).ab_))
 |0,m+1,k,as,_,_=>by
  rw[od];simp only[MT];rw[ea (by rw[iU];omega)];rfl
 |i+1,m+1,k,as,hi,hm=>by
  rw[od];simp only[MT];rw[ee (by rw[iU];omega),show((i+1:Nat):Int)-1=(i:Int) by omega,jj,oD (by omega)];simp only[cl,ft];rw[fH (by omega) (by omega)];have h:=St d i m 4 [l[i],.mk k as] (by omega) (by omega);rw[h,VR,oD (by omega)];simp only[TD,Fg,List.foldr_cons,List.foldr_nil];rfl
def zb(t:Ty)(l:List Ty)(a:l.length<=1000):pD t l=some (l.foldr Ty.fn t):=by
 unfold pD;simp only[ez];rw[fR,fH (by omega) (by omega)];have h:=St a l.length FU t.ab9 t.ab_ (jo _) (VB (by omega));rw[h,cl];rw[List.take_length]
 have e:Ty.mk t.ab9 t.ab_=t:=by cases t;rfl
 rw[e];generalize List.foldr Ty.fn t l=r;cases r;rfl
def PV(a b t:Ty):pD t [a,b]=some (.fn a (.fn b t)):=zb t [a,b] (by simp)
def Ql(a b c t:Ty):pD t [a,b,c]=some (.fn a (.fn b (.fn c t))):=zb t [a,b,c] (by simp)
def PH(a t:Ty):pD t [a]=some (.fn a t):=zb t [a] (by simp)
def sV:List Ty->ed×ed×ed
 |[]=>(QX,QX,QX)|[a]=>(ti a,QX,QX)|[a,b]=>(ti a,ti b,QX)|a::b::c::_=>(ti a,ti b,ti c)
def Ei(x:ed)(k:Int):jK x k=some (eH x.dv.ab9 k):=rfl
def EN(t:Ty)(k:Int):eH (ti t).dv.ab9 k=decide (t.ab9=k):=by
 rw[uV];exact uI _ _
def Fq(s:Ty)(l:List Tm)(i:Int):qi (.mk 6 i s l)=some (.fn .nat (.fn s s)):=by
 unfold qi;rw[ea (by simp)];simp only[qy,cl];rw[PV];rfl
def Di(s:Ty)(l:List Tm)(i:Int):qi (.mk 9 i s l)=some (.fn .nat (.fn .nK (.fn s s))):=by
 unfold qi;rw[ee (by simp)];simp only[qy,Cq,cl];rw[Ql];rfl
section
variable{s x y z:Ty} {i:Int} {l:List Tm}
def Tf(f:x.err=0)(hy:y.err=0):gM (.mk 3 i s l) (sV [x,y])=some (I5 (ig 3 s [x,y])):=by
 unfold gM;rw[show ke (Tm.mk 3 i s l).ab9=some [] from rfl];simp only[cl];rw[ea (by simp),ee (by rfl)];simp only[ez,sV,Ei,cl,EN]
 by_cases d:x.ab9=4
 ·obtain⟨a,b,rfl,e,g⟩:=Kx f d;rw[ee (by rfl),sd (t:=.fn a b) (x:=a) rfl e];simp only[cl];rw[su (by have:=fC e;omega)];simp only[cl]
  by_cases c:a=y
  ·subst c;rw[kq,ea (by simp),sd (t:=.fn a b) (x:=b) rfl g,(z' (x:=.fn a b) (y:=a)).1 ⟨rfl,rfl⟩];simp only[cl];rw[show(Ty.fn a b).ab_.getD 1 .z=b from rfl,qk]
  ·rw[mo c,ee (by simp),(z' (x:=.fn a b) (y:=y)).2 (λh=>c h.2),me (by decide)];rfl
 ·rw[ea (by simpa using d),ee trivial,z'.2 (λh=>d h.1),me (by decide)];rfl
def PY(a:x.err=0)(hy:y.err=0):gM (.mk 10 i s l) (sV [x,y])=some (I5 (ig 10 s [x,y])):=by
 unfold gM;rw[show ke (Tm.mk 10 i s l).ab9=some [] from rfl];simp only[cl];rw[ea (by simp),ea (by simp),ea (by simp),ee (by rfl)];simp only[sV];rw[zI 3 (by have:=fC a;omega) (by have:=fC hy;omega),L1]
 split
 ·simp only[eb];rw[me (by decide)]
 ·simp only[eb];rw[qk];rfl
def RY(d:x.err=0):gM (.mk 11 i s l) (sV [x])=some (I5 (ig 11 s [x])):=by
 unfold gM;rw[show ke (Tm.mk 11 i s l).ab9=some [] from rfl];simp only[cl];rw[ea (by simp),ea (by simp),ea (by simp),ea (by simp)];simp only[sV,Ei,cl,EN];rw[M5]
 by_cases c:x.ab9=3
 ·obtain⟨a,b,rfl,e,f⟩:=Ai d c;rw[ee (by rfl),ee (by rfl),sd (t:=.pr a b) (x:=a) rfl e,ee (show(Ty.pr a b).ab9=3 from rfl)];simp only[cl];rw[show(Ty.pr a b).ab_.getD 0 .z=a from rfl,qk]
 ·rw[ea (by simpa using c),ea c,me (by decide)];rfl
def Q6(d:x.err=0):gM (.mk 12 i s l) (sV [x])=some (I5 (ig 12 s [x])):=by
 unfold gM;rw[show ke (Tm.mk 12 i s l).ab9=some [] from rfl];simp only[cl];rw[ea (by simp),ea (by simp),ea (by simp),ea (by simp)];simp only[sV,Ei,cl,EN];rw[L9]
 by_cases c:x.ab9=3
 ·obtain⟨a,b,rfl,f,e⟩:=Ai d c;rw[ee (by rfl),ea (by simp),sd (t:=.pr a b) (x:=b) rfl e,ee (show(Ty.pr a b).ab9=3 from rfl)];simp only[cl];rw[show(Ty.pr a b).ab_.getD 1 .z=b from rfl,qk]
 ·rw[ea (by simpa using c),ea c,me (by decide)];rfl
end
end Go.hI
namespace Go.hI
open Go
section
variable{s x y z:Ty} {i:Int} {l:List Tm}
def zP{k t:Int}(a:ke k=some [t])(b:Ty.err (.mk t [])=0):gM (.mk k i s l) (sV [])=some (ti (.mk t []),0):=by
 unfold gM;rw[show(Tm.mk k i s l).ab9=k from rfl,a,cl,ee (show nX (eM [t]) 0=true by rfl),show Bm [t] 1 (eM [t])=some ([]:List Int)from rfl];simp only[cl,eB (l:=([]:List Int)) (by simp),eo,ez,pq,ei,eU,jA];rw[lI b];rfl
def PC:gM (.mk 4 i s l) (sV [])=some (I5 (ig 4 s [])):=zP rfl Ty.hE
def Td:gM (.mk 7 i s l) (sV [])=some (I5 (ig 7 s [])):=zP rfl Ty.o7
def PL:gM (.mk 13 i s l) (sV [])=some (I5 (ig 13 s [])):=zP rfl Ty.Ha
def PS(b:x.err=0):gM (.mk 5 i s l) (sV [x])=some (I5 (ig 5 s [x])):=by
 unfold gM;rw[show ke (Tm.mk 5 i s l).ab9=some [1,1] from rfl,cl,ee (show nX (eM ([1,1]:List Int)) 0=true by rfl),show Bm ([1,1]:List Int) 1 (eM ([1,1]:List Int))=some [1] from rfl];simp only[cl,eB (l:=([1]:List Int)) (by simp),eo,ez,sV];rw[fl,ee (by rfl)];simp only[Ei,cl,EN]
 by_cases a:x.ab9=1
 ·have hn:=(vl b).1 a;subst hn;rw[wa (by rfl),ea (by decide)];simp only[cl,ft,pq,ei,eU,jA];rw[show nC (Ty.mk 1 [])=some (ti .nat)from lI Ty.hE,Fv.1 rfl,qk];rfl
 ·rw[Dx a,ee (by decide),Fv.2 (λh=>a ((vl b).2 h)),me (by decide)];rfl
def Qw(c:x.err=0)(hy:y.err=0):gM (.mk 8 i s l) (sV [x,y])=some (I5 (ig 8 s [x,y])):=by
 unfold gM;rw[show ke (Tm.mk 8 i s l).ab9=some [2,1,2] from rfl,cl,ee (show nX (eM ([2,1,2]:List Int)) 0=true by rfl),show Bm ([2,1,2]:List Int) 1 (eM ([2,1,2]:List Int))=some [1,2] from rfl];simp only[cl,eB (l:=([1,2]:List Int)) (by simp),eo,ez,sV];rw[fl,ee (by rfl)];simp only[Ei,cl,EN]
 by_cases b:x.ab9=1
 ·have hn:=(vl c).1 b;subst hn;rw[wa (by rfl),ea (by decide)];simp only[cl,ft];rw[fl,ea (by decide),ee (by rfl)]
  by_cases a:y.ab9=2
  ·have hn:=(CC hy).1 a;subst hn;rw[wa (by rfl),ea (by decide)];simp only[cl,ft,pq,ei,eU,jA];rw[show nC (Ty.mk 2 [])=some (ti .nK)from lI Ty.o7,Al.1 ⟨rfl,rfl⟩,qk];rfl
  ·rw[Dx a,ee (by decide),Al.2 (λh=>a ((CC hy).2 h.2)),me (by decide)];rfl
 ·rw[Dx b,ee (by decide),Al.2 (λh=>b ((vl c).2 h.1)),me (by decide)];rfl
def Q0(hs:s.err=0)(d:x.err=0)(hy:y.err=0)(e:z.err=0):gM (.mk 6 i s l) (sV [x,y,z])=some (I5 (ig 6 s [x,y,z])):=by
 unfold gM;rw[show ke (Tm.mk 6 i s l).ab9=some [] from rfl];simp only[cl];rw[ea (by decide),ea (by simp),ee (by rfl)];simp only[ez,sV,Tm.fw,lI hs,cl];rw[su (by have:=fC d;omega)];simp only[cl]
 by_cases a:x=s
 ·subst a;rw[kq,ee rfl,Fq];simp only[cl,uV];rw[qz (by have:=fC hy;omega)];simp only[cl]
  by_cases b:y=.fn .nat (.fn x x)
  ·subst b;rw[kq,ee rfl];simp only[Ei,cl];rw[show fU (eH (Tm.mk 6 i x l).ab9 9) (2:Int) 1=1 from rfl];simp only[EN]
   by_cases c:z=.nat
   ·subst c;rw[wa (by rfl),ea (by decide),wH.1 ⟨rfl,rfl,rfl⟩,qk]
   ·rw[Dx (λh=>c ((vl e).1 h)),ee (by decide),wH.2 (λh=>c h.2.2),me (by decide)];rfl
  ·rw[mo b,ea (by decide),ee trivial,wH.2 (λh=>b h.2.1),me (by decide)];rfl
 ·rw[mo a,ea (by decide),ee trivial,wH.2 (λh=>a h.1),me (by decide)];rfl
def QA(hs:s.err=0)(d:x.err=0)(hy:y.err=0)(e:z.err=0):gM (.mk 9 i s l) (sV [x,y,z])=some (I5 (ig 9 s [x,y,z])):=by
 unfold gM;rw[show ke (Tm.mk 9 i s l).ab9=some [] from rfl];simp only[cl];rw[ea (by decide),ea (by simp),ee (by rfl)];simp only[ez,sV,Tm.fw,lI hs,cl];rw[su (by have:=fC d;omega)];simp only[cl]
 by_cases a:x=s
 ·subst a;rw[kq,ee rfl,Di];simp only[cl,uV];rw[qz (by have:=fC hy;omega)];simp only[cl]
  by_cases b:y=.fn .nat (.fn .nK (.fn x x))
  ·subst b;rw[kq,ee rfl];simp only[Ei,cl];rw[show fU (eH (Tm.mk 9 i x l).ab9 9) (2:Int) 1=2 from rfl];simp only[EN]
   by_cases c:z=.nK
   ·subst c;rw[wa (by rfl),ea (by decide),wv.1 ⟨rfl,rfl,rfl⟩,qk]
   ·rw[Dx (λh=>c ((CC e).1 h)),ee (by decide),wv.2 (λh=>c h.2.2),me (by decide)];rfl
  ·rw[mo b,ea (by decide),ee trivial,wv.2 (λh=>b h.2.1),me (by decide)];rfl
 ·rw[mo a,ea (by decide),ee trivial,wv.2 (λh=>a h.1),me (by decide)];rfl
end
def Vg(p:ed×ed×ed):Int×(List Ty)×Int×Int×(List Ty)×Int×Int×(List Ty)×Int:=
 (p.1.dv.ab9,p.1.dv.ab_,p.1.ab',p.2.1.dv.ab9,p.2.1.dv.ab_,p.2.1.ab',p.2.2.dv.ab9,p.2.2.dv.ab_,p.2.2.ab')
def Ex{n:Nat}{g:List Ty}:∀(l:List Tm) (d:List Ty),d.length+l.length<=3->(∀a∈l,eY n (g.map ti) a=some (I5 (a.ty g)))->fp (λ(f:Int) (x:Tm)=>(Yn λ(i:Int) (j:List Ty) (v218:Int) (k:Int) (m:List Ty) (o:Int) (v222:Int) (p:List Ty) (q:Int)=>
   ek (eY n (g.map ti) x) λc s=>
   if(eW s 0)=true then(
   some (.ret ((ed.mk (Ty.mk 0 []) 0),s)))
   else(if(eH f 0)=true then(
   some (.next (c.dv.ab9,c.dv.ab_,c.ab',k,m,o,v222,p,q)))
   else(if(eH f 1)=true then(
   some (.next (i,j,v218,c.dv.ab9,c.dv.ab_,c.ab',v222,p,q)))
   else(gS (eH f 2)<|some (.next (i,j,v218,k,m,o,c.dv.ab9,c.dv.ab_,c.ab')))))):Int->Tm->(Int×(List Ty)×Int×Int×(List Ty)×Int×Int×(List Ty)×Int)->(Option (gj (Int×(List Ty)×Int×Int×(List Ty)×Int×Int×(List Ty)×Int) (ed×Int)))) l d.length (Vg (sV d))=some (match Tm.uO l g with|.inl ts=>.inl (Vg (sV (d++ts)))|.inr e=>.inr (QX,e))
 |[],d,_,_=>by simp[Tm.uO]|a::l,d,y,h=>by
  simp only[ld] at y;rw[fl,Tm.uO];have B:=h a (by simp);simp only[Vg,Yn];rw[B]
  by_cases w:(a.ty g).2=0
  ·rw[xO w,qH rfl,qk,eb,ea (by decide)];generalize (a.ty g).1=t
   have go:∀A:List Ty,A=d++[t]->(some (gj.next (Vg (sV A))):Option (gj (Int×(List Ty)×Int×Int×(List Ty)×Int×Int×(List Ty)×Int) (ed×Int)))=some (gj.next (Vg (sV (d++[t])))):=λA e=>by rw[e]
   have z:=Ex l (d++[t]) (by simp;omega) (λb C=>h b (by simp[C]));rw[qY,ld,um] at z
   have fin:(some (match Tm.uO l g with|.inl ts=>.inl (Vg (sV (d++[t]++ts)))|.inr e=>.inr (QX,e)):Option ((Int×(List Ty)×Int×Int×(List Ty)×Int×Int×(List Ty)×Int)⊕(ed×Int)))=some (match(match Tm.uO l g with|.inl ts=>Sum.inl (t::ts)|.inr e=>Sum.inr e:List Ty⊕Int)with|.inl ts=>.inl (Vg (sV (d++ts)))|.inr e=>.inr (QX,e)):=by
    cases Tm.uO l g with
    |inl ts=>simp|inr e=>rfl
   match d,y with
   |[],_=>
    rw[ee (by rfl)];exact z.trans fin
   |[u],_=>
    rw[ea (by simp),ee (by rfl)];exact z.trans fin
   |[u,v],_=>
    rw[ea (by simp),ea (by simp),show eH (([u,v].length:Nat):Int) 2=true from rfl,eo];exact z.trans fin
   |_::_::_::_,y=>simp at y;omega
  ·rw[qL w];generalize a.ty g=r at w;obtain⟨t,e⟩:=r;simp only at w;rw[me w,eb,ee (by simpa[eW] using w)];rfl
def T7(p:ed×ed×ed):((ed.mk (Ty.mk p.1.dv.ab9 p.1.dv.ab_) p.1.ab'),(ed.mk (Ty.mk p.2.1.dv.ab9 p.2.1.dv.ab_) p.2.1.ab'),(ed.mk (Ty.mk p.2.2.dv.ab9 p.2.2.dv.ab_) p.2.2.ab'))=p:=by
 have e:∀t:Ty,Ty.mk t.ab9 t.ab_=t:=λt=>by cases t;rfl
 obtain⟨⟨a,b⟩,⟨c,d⟩,⟨g,f⟩⟩:=p;simp only[e]
def lT{n:Nat}{g:List Ty}{k i:Int}{s:Ty}{l:List Tm}(m:k≠1)(q:k≠2)(r:l.length<=3)(h:∀a∈l,eY n (g.map ti) a=some (I5 (a.ty g)))
  (hn:∀ts,Tm.uO l g=.inl ts->gM (.mk k i s l) (sV ts)=some (I5 (ig k s ts))):eY (n+1) (g.map ti) (.mk k i s l)=some (I5 ((Tm.mk k i s l).ty g)):=by
 rw[eY,ea (by simpa[eH] using m),ea (by simpa[eH] using q),Tm.nP,ea m,ea q];simp only[ez,Tm.eG];rw[eB (by omega),eo];have f:=Ex l [] (by simpa using r) h;refine(congrArg (λo=>cv o _) f).trans ?_;simp only[cl];cases j:Tm.uO l g with
 |inr e=>
  rw[Nf]
  have he:e≠0:=by
   rcases Ag l g with⟨t,d,c⟩|⟨ts,d,_⟩
   ·rw[j] at c;cases c;exact d
   ·rw[j] at d;cases d
  rw[me he];rfl
 |inl ts=>
  simp only[o_,ei,oY,Vg,Yn];rw[T7,hn ts j,show∀p:ed×Int,(ek (some p) λa b=>some (a,b))=some p fromλ_=>rfl]
end Go.hI
