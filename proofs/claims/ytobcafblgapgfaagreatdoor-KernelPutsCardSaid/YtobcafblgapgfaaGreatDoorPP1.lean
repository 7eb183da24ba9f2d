/- Part of the proof of KernelPuts: plain facts. -/
import Derived.Test.YtobcafblgapgfaaGreatDoorG1
set_option linter.all false
namespace Go.eD
open Go
@[simp] theorem dS(a b:Int):dC a b=true↔a=b:=by simp[dC]
@[simp] theorem cP(a b:Int):dI a b=true↔a≠b:=by simp[dI]
@[simp] theorem hW(a b:Int):xT a b=true↔a<b:=by simp[xT]
@[simp] theorem xX(a b:Int):Mu a b=true↔a<=b:=by simp[Mu]
@[simp] theorem eb(a b:Int):pc a b=true↔b<a:=by simp[pc]
@[simp] theorem fB(a b:Int):sS a b=true↔b<=a:=by simp[sS]
@[simp] theorem gY(a b:Bool):fp a true b=(a||b):=by cases a<;>rfl
@[simp] theorem ku(a b:Bool):fp a b false=(a&&b):=by cases a<;>rfl
@[simp] theorem Rh(a b:Bool):fp a b true=(!a||b):=by cases a<;>rfl
@[simp] theorem Fq(a:Bool):s_ a=!a:=rfl
@[simp] theorem ec{α:Type}(l m:List α):fK l m=l++m:=rfl
@[simp] theorem dK{α:Type}(l:List α):dT l=(l.length:Int):=rfl
theorem fw{α:Type}(l:List α)(i:Nat):du l (i:Int)=l[i]?:=by simp[du]
@[simp] theorem dc{α:Type}(l:List α):du l 0=l[0]?:=by simp[du]
@[simp] theorem ef{α:Type}(l:List α):du l 1=l[1]?:=by simp[du]
@[simp] theorem fD{α:Type}(l:List α):du l 2=l[2]?:=by simp[du]
def Am{α:Type}{l:List α}{i:Int}(b:0<=i)(c:i<l.length):∃x,du l i=some x/\x∈l:=by
 obtain⟨k,rfl⟩:=RL b
 have a:k<l.length:=Zb
 exact⟨l[k],by rw[fw];simp[a],zf a⟩
def cQ{α:Type}{l:List α}(h:l.length<=1000000000):eQ l=true:=by unfold eQ m0;exact qb Zb
def di{α:Type}{l m:List α}(h:l.length+m.length<=1000000000):eZ l m=true:=by unfold eZ m0;exact qb Zb
def IJ{b:Int}(h:b≠0):Kb b=true:=by simp[Kb,h]
def xV{n:Int}(a:-9223372036854775808<=n)(b:n<9223372036854775808):IntKind.i64.wrap n=n:=by
 rw[IntKind.wrap_i64];omega
theorem dk{a b:Int}(c:-9223372036854775808<=a+b)(d:a+b<9223372036854775808):ep .i64 a b=a+b:=xV c d
theorem dF{a b:Int}(c:-9223372036854775808<=a-b)(d:a-b<9223372036854775808):eH .i64 a b=a-b:=xV c d
theorem p_{a b:Int}(c:-9223372036854775808<=a*b)(d:a*b<9223372036854775808):HM .i64 a b=a*b:=xV c d
section
variable{α β σ ρ:Type}
def Lv{F:Int->α->σ->Option (eK σ ρ)}(I:σ->Prop):∀(l:List α) (i:Nat) (s:σ),I s->(∀k x s,l[k]?=some x->I s->∃a,F ((i+k:Nat):Int) x s=some (.next a)/\I a)->∃a,eg F l i s=some (.inl a)/\I a
 |[],i,s,hs,_=>⟨s,rfl,hs⟩|x::l,i,s,hs,h=>by
  obtain⟨s1,c,d⟩:=h 0 x s rfl hs;rw[oH] at c;rw[dq,c];simp only[cG,dt];refine Lv I l (i+1) s1 d λk y a e b=>?_;have:=h (k+1) y a (by simpa using e) b;rw[show i+(k+1)=i+1+k by omega] at this;exact this
def Aw{F:Int->α->σ->Option (eK σ ρ)}(I:σ->Prop)(Q:ρ->Prop):∀(l:List α) (i:Nat) (s:σ),I s->(∀k x s,l[k]?=some x->I s->(∃a,F ((i+k:Nat):Int) x s=some (.next a)/\I a)\/(∃r,F ((i+k:Nat):Int) x s=some (.ret r)/\Q r))->(∃a,eg F l i s=some (.inl a)/\I a)\/(∃r,eg F l i s=some (.inr r)/\Q r)
 |[],i,s,hs,_=>.inl ⟨s,rfl,hs⟩|x::l,i,s,hs,h=>by
  have e:=h 0 x s rfl hs;rw[oH] at e;rw[dq];rcases e with⟨s1,b,c⟩|⟨r,b,c⟩
  ·rw[b];simp only[cG,dt];refine Aw I Q l (i+1) s1 c λk y a f d=>?_;have:=h (k+1) y a (by simpa using f) d;rw[show i+(k+1)=i+1+k by omega] at this;exact this
  ·rw[b];exact .inr ⟨r,rfl,c⟩
def eW{F:Int->α->List β->Option (eK (List β) ρ)}(g:α->β):∀(l:List α) (i:Nat) (v:List β),v.length+l.length<=1000000000->(∀j x v,x∈l->v.length+1<=1000000000->F j x v=some (.next (v++[g x])))->eg F l i v=some (.inl (v++l.map g))
 |[],i,v,_,_=>by simp|x::l,i,v,a,h=>by
  simp only[hQ] at a;rw[dq,h i x v aae Zb];simp only[cG,dt];rw[eW g l (i+1) (v++[g x]) aaV λj y v hy b=>h j y v (by simp[hy]) b];simp
def cN(g:α->Nat):List α->Nat
 |[]=>0|x::l=>g x+cN g l
def cV(g:α->Nat){l:List α}{x:α}(h:x∈l):g x<=cN g l:=by
 induction l with
 |nil=>cases h
 |cons y l a=>
  simp only[cN];rcases gT.1 h with rfl|h
  ·omega
  ·have:=a h;omega
def er(g:α->Nat)(l:List α)(h:∀x∈l,1<=g x):l.length<=cN g l:=by
 induction l with
 |nil=>simp|cons y l a=>simp only[cN,hQ];have:=h y aae;have:=a λx b=>h x (by simp[b]);omega
def kf{F:Int->α->Int->Option (eK Int ρ)}(g:α->Nat):∀(l:List α) (i v:Nat),v+cN g l<=4611686018427387904->(∀j x (v:Int),x∈l->F j x v=some (.next (ep .i64 v (g x))))->eg F l i (v:Int)=some (.inl ((v+cN g l:Nat):Int))
 |[],i,v,_,_=>by simp[cN]|x::l,i,v,a,h=>by
  simp only[cN] at a|-;rw[dq,h i x v aae,dk Zb Zb];simp only[cG,dt];have:=kf g l (i+1) (v+g x) Zb λj y v hy=>h j y v (by simp[hy]);rw[show(v:Int)+(g x:Int)=((v+g x:Nat):Int) by omega,this];rw[Ml]
def od{F:Int->α->Int->Option (eK Int ρ)}(g:α->Nat)(ok:α->Bool)(r:ρ):∀(l:List α) (i v:Nat),v+cN g l<=4611686018427387904->(∀j x (v:Int),x∈l->F j x v=if ok x then some (.next (ep .i64 v (g x)))else some (.ret r))->eg F l i (v:Int)=if l.all ok then some (.inl ((v+cN g l:Nat):Int))else some (.inr r)
 |[],i,v,_,_=>by simp[cN]|x::l,i,v,b,h=>by
  simp only[cN] at b|-;rw[dq,h i x v aae,dk Zb Zb];cases a:ok x with
  |false=>simp[a]|true=>
   simp only[if_true,cG,dt,sb,a,tx];have:=od g ok r l (i+1) (v+g x) Zb λj y v hy=>h j y v (by simp[hy]);rw[show(v:Int)+(g x:Int)=((v+g x:Nat):Int) by omega,this,Ml]
def jU{F:Int->α->Unit->Option (eK Unit ρ)}(ok:α->Bool)(r:ρ):∀(l:List α) (i:Nat),(∀j x,x∈l->F j x ()=if ok x then some (.next ())else some (.ret r))->eg F l i ()=if l.all ok then some (.inl ())else some (.inr r)
 |[],i,_=>by simp|x::l,i,h=>by
  rw[dq,h i x aae];cases a:ok x with
  |false=>simp[a]|true=>
   simp only[if_true,cG,dt,sb,a,tx];exact jU ok r l (i+1) λj y hy=>h j y (by simp[hy])
def dB:List Int->Int
 |[]=>0|e::l=>if e=0 then dB l else e
def gI{F:Int->α->Unit->Option (eK Unit Int)}(e:α->Int):∀(l:List α) (i:Nat),(∀j x,x∈l->F j x ()=if e x≠0 then some (.ret (e x))else some (.next ()))->eg F l i ()=if dB (l.map e)=0 then some (.inl ())else some (.inr (dB (l.map e)))
 |[],i,_=>by simp[dB]|x::l,i,h=>by
  rw[dq,h i x aae]
  by_cases he:e x=0
  ·simp only[he,dB,jc,ne_eq,NH,jm,cG,dt,if_true];exact gI e l (i+1) λj y hy=>h j y (by simp[hy])
  ·simp[he,dB]
def om(p:α->β->Bool):List α->List β->Bool
 |x::l,y::m=>p x y&&om p l m|[],[]=>true|_,_=>false
def pW{F:Int->α->Unit->Option (eK Unit Bool)}(p:α->β->Bool)(M:List β):∀(l:List α) (i:Nat) (m:List β),m=M.drop i->l.length=m.length->(∀(k:Nat) x y,x∈l->M[k]?=some y->F (k:Int) x ()=if p x y then some (.next ())else some (.ret false))->eg F l i ()=if om p l m then some (.inl ())else some (.inr false)
 |[],i,m,_,d,_=>by
  cases m with
  |nil=>simp[om]|cons y m=>simp at d
 |x::l,i,m,hm,d,h=>by
  cases m with
  |nil=>simp at d
  |cons y m=>
   have c:i<M.length:=by
    rcases zj i M.length with h'|h'
    ·exact h'
    ·rw[Od h'] at hm;cases hm
   rw[MC c] at hm;injection hm with f g;rw[dq,h i x y aae (by simp[c,f])];cases e:p x y with
   |false=>simp[om,e]|true=>
    simp only[if_true,cG,dt,om,e,tx];exact pW p M l (i+1) m g (by simpa using d) λk a b j n=>h k a b (by simp[j]) n
def p7(p:α->α->Bool):∀(l m:List α),(∀x∈l,∀y,p x y=true↔x=y)->(om p l m=true↔l=m)
 |[],[],_=>by simp[om]|[],_::_,_=>by simp[om]|_::_,[],_=>by simp[om]|x::l,y::m,h=>by simp[om,h x aae y,p7 p l m λa b=>h a (by simp[b])]
def nG{F:σ->Option (eK σ ρ)}(I:σ->Prop)(μ:σ->Nat)(Q:σ⊕ρ->Prop)
  (h:∀s,I s->(∃a,F s=some (.next a)/\I a/\μ a<μ s)\/(∃a,F s=some (.DN a)/\Q (.inl a))\/(∃r,F s=some (.ret r)/\Q (.inr r))):∀(n:Nat) (s:σ),I s->μ s<n->∃o,ow F n s=some o/\Q o
 |0,s,_,hn=>by omega|n+1,s,hs,hn=>by
  rw[jL];rcases h s hs with⟨a,b,c,d⟩|⟨a,b,c⟩|⟨r,b,c⟩
  ·rw[b];simp only[cG,dt];exact nG I μ Q h n a c Zb
  ·rw[b];exact⟨_,rfl,c⟩
  ·rw[b];exact⟨_,rfl,c⟩
def NA{n:Nat}(h:n<1000000000):n<FU:=by rw[dn];exact h
end
end Go.eD
namespace Go.eD
open Go
mutual
def Ty.afq:Ty->Nat
 |.mk _ l=>1+Ty.je l
def Ty.je:List Ty->Nat
 |[]=>0|t::l=>t.afq+Ty.je l
end
def Ty.lr(l:List Ty):Ty.je l=cN Ty.afq l:=by
 induction l with
 |nil=>rfl|cons t l a=>simp[Ty.je,cN,a]
theorem Ty.cK(k:Int)(l:List Ty):(Ty.mk k l).afq=1+cN Ty.afq l:=by rw[Ty.afq,Ty.lr]
def Ty.da(t:Ty):1<=t.afq:=by cases t;rw[Ty.afq];omega
def Ty.dH(l:List Ty):l.length<=cN Ty.afq l:=er _ _ λt _=>t.da
def Ty.want(k:Int):Option Nat:=if k=1\/k=2\/k=5 then some 0 else if k=3\/k=4 then some 2 else none
mutual
def Ty.ok:Ty->Bool
 |.mk k l=>decide (Ty.want k=some l.length)&&Ty.AL l
def Ty.AL:List Ty->Bool
 |[]=>true|t::l=>t.ok&&Ty.AL l
end
def Ty.rU(l:List Ty):Ty.AL l=l.all Ty.ok:=by
 induction l with
 |nil=>rfl|cons t l a=>simp[Ty.AL,a]
theorem Ty.eu(k:Int)(l:List Ty):(Ty.mk k l).ok=(decide (Ty.want k=some l.length)&&l.all Ty.ok):=by rw[Ty.ok,Ty.rU]
def Ty.err(t:Ty):Int:=if t.ok then(if 64<t.afq then 4 else 0)else 2
def zU:∀(n:Nat) (t:Ty),t.afq<=n->t.afq<=1000000000->kH n t=some t:=by
 intro n
 induction n with
 |zero=>intro t h;have:=t.da;omega
 |succ n a=>
  intro t h b;cases t with
  |mk k l=>
   rw[Ty.cK] at h b;have e:=Ty.dH l;rw[kH];simp only[Ty.cX,Ty.c8,cO,cQ (l:=l) Zb,cM];rw[eW id l 0 [] aaV]
   ·simp
   ·intro j x v c d;have:=cV Ty.afq c;rw[a x Zb Zb];simp[di (l:=v) (m:=[x]) (by simpa using d)]
def fo{t:Ty}(h:t.afq<=1000000000):kH FU t=some t:=zU FU t (by rw[dn];exact h) h
def uG:∀(n:Nat) (t:Ty),t.afq<=n->t.afq<=1000000000->mC n t=some (if t.ok then((t.afq:Int),true)else(0,false)):=by
 intro n
 induction n with
 |zero=>intro t h;have:=t.da;omega
 |succ n p=>
  intro t h q;cases t with
  |mk k l=>
   rw[Ty.cK] at h q;have u:=Ty.dH l
   have key:eg (λ(i:Int) (c:Ty) (d:Int)=>c0 (mC n c) λe f=>if f then some (eK.next (ep .i64 d e))else some (eK.ret ((0:Int),false))) l 0 1=if l.all Ty.ok then some (.inl ((1+cN Ty.afq l:Nat):Int))else some (.inr (0,false)):=by
    refine od Ty.afq Ty.ok _ l 0 1 Zb ?_;intro j x v r;have:=cV Ty.afq r;rw[p x Zb Zb];cases x.ok<;>simp
   rw[mC];simp only[Ty.cX,Ty.c8,cO,cQ (l:=l) Zb,cM,key,gY,mu,dS,cP,dK,Ty.eu,Ty.cK,Ty.want]
   by_cases m:k=1\/k=2\/k=5
   ·simp only[m,if_true]
    by_cases b:l=[]
    ·subst b;simp[cN]
    ·have:¬(0=l.length):=by cases l with|nil=>exact absurd rfl b|cons a l=>simp
     have g:(l.length:Int)≠0:=Zb
     simp[this,g,b]
   ·simp only[m,jm]
    by_cases b:k=3\/k=4
    ·simp only[b,if_true]
     by_cases g:l.length=2
     ·cases o:l.all Ty.ok<;>simp[g]
     ·have o:(l.length:Int)≠2:=Zb
      have s:¬2=l.length:=Zb
      simp[o,s]
    ·simp[b]
theorem hD{t:Ty}(h:t.afq<=1000000000):jx t=some (if t.err=0 then(t.afq:Int)else 0,t.err):=by
 unfold jx Ty.err;rw[uG FU t (by rw[dn];exact h) h];cases t.ok with
 |false=>simp|true=>
  by_cases a:64<t.afq
  ·simp[a];omega
  ·simp[a];omega
def rI{t:Ty}(h:t.afq<=1000000000):kJ t=some t.err:=by
 unfold kJ;rw[hD h];rfl
def Ty.kV(t:Ty):Bool:=fp (dC t.afo 0) (dC (dT t.afp) 0) false
theorem Ty.ik(t:Ty):t.kV=true↔t=.mk 0 []:=by
 cases t with
 |mk k l=>unfold Ty.kV;simp
theorem lI(t:Ty):oM t=some t.kV:=rfl
def o0(t:Ty):sO t=some t.kV:=rfl
def yM:∀(n:Nat) (t:Ty),t.afq<=n->t.afq<=1000000000->pB n t=some t.ok:=by
 intro n
 induction n with
 |zero=>intro t h;have:=t.da;omega
 |succ n m=>
  intro t h o;cases t with
  |mk k l=>
   rw[Ty.cK] at h o;have r:=Ty.dH l
   have key:eg (λ(f:Int) (c:Ty) (_:Unit)=>cH (pB n c) λd=>if d then some (eK.next ())else some (eK.ret false)) l 0 ()=if l.all Ty.ok then some (.inl ())else some (.inr false):=by
    refine jU Ty.ok _ l 0 ?_;intro j x p;have:=cV Ty.afq p;rw[m x Zb Zb];rfl
   rw[pB];simp only[Ty.cX,Ty.c8,cO,cQ (l:=l) Zb,cM,key,gY,mu,dS,cP,dK,Ty.eu,Ty.want]
   by_cases g:k=1\/k=2\/k=5
   ·simp only[g,if_true]
    by_cases b:l=[]
    ·subst b;simp
    ·have:¬(0=l.length):=by cases l with|nil=>exact absurd rfl b|cons a l=>simp
     have e:(l.length:Int)≠0:=Zb
     simp[this,e,b]
   ·simp only[g,jm]
    by_cases b:k=3\/k=4
    ·simp only[b,if_true]
     by_cases e:l.length=2
     ·cases i:l.all Ty.ok<;>simp[e]
     ·have i:(l.length:Int)≠2:=Zb
      have q:¬2=l.length:=Zb
      simp[i,q]
    ·simp[b]
def zM:∀(n:Nat) (t:Ty),t.afq<=n->t.afq<=1000000000->qZ n t=some (t.afq:Int):=by
 intro n
 induction n with
 |zero=>intro t h;have:=t.da;omega
 |succ n a=>
  intro t h b;cases t with
  |mk k l=>
   rw[Ty.cK] at h b;have d:=Ty.dH l;rw[qZ];simp only[Ty.cX,cO,cQ (l:=l) Zb,cM]
   have key:=kf (ρ:=Int) (F:=λ(j:Int) (x:Ty) (v:Int)=>cH (qZ n x) λy=>some (eK.next (ep .i64 v y))) Ty.afq l 0 1 Zb (by
    intro j x v c;have:=cV Ty.afq c;rw[a x Zb Zb]
    rfl)
   rw[show(1:Int)=((1:Nat):Int)from rfl,key];simp[Ty.cK]
def iw{t:Ty}(h:t.afq<=1000000000):iQ t=some t.err:=by
 unfold iQ Ty.err;rw[yM FU t (by rw[dn];exact h) h,zM FU t (by rw[dn];exact h) h];cases t.ok with
 |false=>simp|true=>by_cases a:64<t.afq<;>simp[a]<;>omega
def oY:∀(n:Nat) (a b:Ty),a.afq<=n->a.afq<=1000000000->∃r,eG n a b=some r/\(r=true↔a=b):=by
 intro n
 induction n with
 |zero=>intro t b h;have:=t.da;omega
 |succ n q=>
  intro a b h s;cases a with
  |mk k l=>
  cases b with
  |mk k' m=>
   rw[Ty.cK] at h s;have u:=Ty.dH l;rw[eG];simp only[Ty.cX,Ty.c8,cO,cQ (l:=l) Zb,cM,gY,mu,cP,dK]
   by_cases d:k≠k'\/(l.length:Int)≠m.length
   ·rw[cL d];refine⟨false,rfl,?_⟩;simp only[qa,B6,Ty.mk.injEq,not_and];rintro rfl rfl;simp at d
   ·rw[cJ d];simp only[not_or,nN] at d;obtain⟨rfl,hlen⟩:=d
    have c:l.length=m.length:=Zb
    let p:Ty->Ty->Bool:=λx y=>(eG n x y).getD false
    have i:∀x∈l,∀y,eG n x y=some (p x y)/\(p x y=true↔x=y):=by
     intro x f y;have:=cV Ty.afq f;obtain⟨r,o,g⟩:=q x y Zb Zb
     have e:p x y=r:=by show(eG n x y).getD false=r;rw[o];rfl
     rw[e];exact⟨o,g⟩
    have key:=pW (F:=λ(j:Int) (x:Ty) (_:Unit)=>cH (du m j) λy=>cH (eG n x y) λz=>if z then some (eK.next ())else some (eK.ret false)) p m l 0 m rfl c (by
     intro k x y f hy;rw[fw,hy];simp only[cG];rw[(i x f y).1]
     rfl)
    rw[key];have he:=p7 p l m λx f y=>(i x f y).2;cases g:om p l m with
    |false=>exact⟨false,rfl,by rw[g] at he;simpa using he⟩
    |true=>exact⟨true,rfl,by rw[g] at he;simpa using he⟩
noncomputable def Ty.fX (a b:Ty):Bool:=@decide (a=b) (Classical.propDecidable _)
theorem Ty.gi(a b:Ty):a.fX b=true↔a=b:=by unfold Ty.fX;simp
theorem fm{a b:Ty}(h:a.afq<=1000000000):eG FU a b=some (a.fX b):=by
 obtain⟨r,c,d⟩:=oY FU a b (by rw[dn];exact h) h;rw[c]
 congr 1
 rw[vR,d,Ty.gi]
mutual
def Tm.afq:Tm->Nat
 |.mk _ _ _ l=>1+Tm.je l
def Tm.je:List Tm->Nat
 |[]=>0|t::l=>t.afq+Tm.je l
end
def Tm.lr(l:List Tm):Tm.je l=cN Tm.afq l:=by
 induction l with
 |nil=>rfl|cons t l a=>simp[Tm.je,cN,a]
theorem Tm.cK(k i:Int)(s:Ty)(l:List Tm):(Tm.mk k i s l).afq=1+cN Tm.afq l:=by rw[Tm.afq,Tm.lr]
def Tm.da(t:Tm):1<=t.afq:=by cases t;rw[Tm.afq];omega
def Tm.dH(l:List Tm):l.length<=cN Tm.afq l:=er _ _ λt _=>t.da
mutual
def Tm.wt:Tm->Nat
 |.mk _ _ s l=>1+s.afq+Tm.Ea l
def Tm.Ea:List Tm->Nat
 |[]=>0|t::l=>t.wt+Tm.Ea l
end
def Tm.vT(l:List Tm):Tm.Ea l=cN Tm.wt l:=by
 induction l with
 |nil=>rfl|cons t l a=>simp[Tm.Ea,cN,a]
theorem Tm.dD(k i:Int)(s:Ty)(l:List Tm):(Tm.mk k i s l).wt=1+s.afq+cN Tm.wt l:=by rw[Tm.wt,Tm.vT]
def Tm.eL(t:Tm):1<=t.wt:=by cases t;rw[Tm.wt];omega
def Tm.jh(l:List Tm):l.length<=cN Tm.wt l:=er _ _ λt _=>t.eL
def gn{α:Type}{f g:α->Nat}{l:List α}(h:∀x∈l,f x<=g x):cN f l<=cN g l:=by
 induction l with
 |nil=>simp[cN]|cons x l a=>simp only[cN];have:=h x aae;have:=a λy hy=>h y (by simp[hy]);omega
def gx{α β:Type}(f:β->Nat)(g:α->β)(l:List α):cN f (l.map g)=cN (λx=>f (g x)) l:=by
 induction l with
 |nil=>rfl|cons x l a=>simp[cN,a]
def ig{α:Type}{f g:α->Nat}{l:List α}(h:∀x∈l,f x=g x):cN f l=cN g l:=by
 induction l with
 |nil=>rfl|cons x l a=>simp[cN,h x aae,a λy hy=>h y (by simp[hy])]
def wD{α:Type}(f:α->Nat)(l m:List α):cN f (l++m)=cN f l+cN f m:=by
 induction l with
 |nil=>simp[cN]|cons x l a=>simp[cN,a];omega
def Tm.ind{p:Tm->Prop}(h:∀k i s l,(∀t∈l,p t)->p (.mk k i s l))(t:Tm):p t:=by
 have:∀n (t:Tm),t.afq<=n->p t:=by
  intro n
  induction n with
  |zero=>intro t a;have:=t.da;omega
  |succ n b=>
   intro t a;cases t with
   |mk k i s l=>
    rw[Tm.cK] at a;exact h k i s l λu hu=>b u (by have:=cV Tm.afq hu;omega)
 exact this _ t (jM _)
def Tm.eJ(t:Tm):t.afq<=t.wt:=by
 induction t using Tm.ind with
 |h k i s l a=>rw[Tm.cK,Tm.dD];have:=gn a;omega
def f_(k:Int):Bool:=decide (k=2\/k=6\/k=9)
def eC(k:Int):Int:=
 if k=1\/k=4\/k=7\/k=13 then 0 else if k=2\/k=5\/k=11\/k=12 then 1 else if k=3\/k=8\/k=10 then 2 else if k=6\/k=9 then 3 else-1
def Tm.node(k i:Int)(s:Ty)(n:Nat):Bool:=
 decide ((n:Int)=eC k)&&decide (0<=i)&&(decide (k=1)||decide (i=0))&&(if f_ k then decide (s.err=0)else s.kV)
mutual
def Tm.ok:Tm->Bool
 |.mk k i s l=>Tm.node k i s l.length&&Tm.AL l
def Tm.AL:List Tm->Bool
 |[]=>true|t::l=>t.ok&&Tm.AL l
end
def Tm.rU(l:List Tm):Tm.AL l=l.all Tm.ok:=by
 induction l with
 |nil=>rfl|cons t l a=>simp[Tm.AL,a]
theorem Tm.eu(k i:Int)(s:Ty)(l:List Tm):(Tm.mk k i s l).ok=(Tm.node k i s l.length&&l.all Tm.ok):=by rw[Tm.ok,Tm.rU]
def Tm.err(t:Tm):Int:=if t.ok then(if 4096<t.afq then 4 else 0)else 2
def zY:∀(n:Nat) (t:Tm),t.wt<=n->t.wt<=1000000000->kU n t=some t:=by
 intro n
 induction n with
 |zero=>intro t h;have:=t.eL;omega
 |succ n a=>
  intro t h b;cases t with
  |mk k i s l=>
   rw[Tm.dD] at h b;have e:=Tm.jh l;rw[kU];simp only[Tm.cX,Tm.c8,Tm.dX,Tm.ds,cO,cQ (l:=l) Zb,cM];rw[eW id l 0 [] aaV]
   ·simp[fo (t:=s) Zb]
   ·intro j x v c d;have:=cV Tm.wt c;rw[a x Zb Zb];simp[di (l:=v) (m:=[x]) (by simpa using d)]
def iL{t:Tm}(h:t.wt<=1000000000):kU FU t=some t:=zY FU t (by rw[dn];exact h) h
def kq(k:Int)(l:List Tm)(h:cN Tm.wt l<=1000000000):fj k l=some (Tm.mk k 0 (.mk 0 []) l):=by
 have c:=Tm.jh l;unfold fj;simp only[cO,cQ (l:=l) Zb,cM];rw[eW id l 0 [] aaV]
 ·simp
 ·intro j x v a b;have:=cV Tm.wt a;rw[iL (t:=x) Zb];simp[di (l:=v) (m:=[x]) (by simpa using b)]
def yE(k:Int)(s:Ty)(l:List Tm)(hs:s.afq<=1000000000)(h:cN Tm.wt l<=1000000000):nQ k s l=some (Tm.mk k 0 s l):=by
 unfold nQ;rw[kq k l h];simp[fo hs]
def zD(k:Int):wY k=some (eC k):=by
 unfold wY eC;simp only[gY,mu,dS]
 split<;>(try rfl)
 split<;>(try rfl)
 split<;>(try rfl)
 split<;>rfl
def iW:∀(n:Nat) (t:Tm),t.afq<=n->t.afq<=1000000000->fM n t=some (t.afq:Int):=by
 intro n
 induction n with
 |zero=>intro t h;have:=t.da;omega
 |succ n a=>
  intro t h b;cases t with
  |mk k i s l=>
   rw[Tm.cK] at h b;have d:=Tm.dH l;rw[fM];simp only[Tm.cX,cO,cQ (l:=l) Zb,cM]
   have key:=kf (ρ:=Int) (F:=λ(j:Int) (x:Tm) (v:Int)=>cH (fM n x) λy=>some (eK.next (ep .i64 v y))) Tm.afq l 0 1 Zb (by
    intro j x v c;have:=cV Tm.afq c;rw[a x Zb Zb]
    rfl)
   rw[show(1:Int)=((1:Nat):Int)from rfl,key];simp[Tm.cK]
def rM:∀(n:Nat) (t:Tm),t.wt<=n->t.wt<=1000000000->kL n t=some t.ok:=by
 intro n
 induction n with
 |zero=>intro t h;have:=t.eL;omega
 |succ n p=>
  intro t h q;cases t with
  |mk k i s l=>
   rw[Tm.dD] at h q;have z:=Tm.jh l
   have key:eg (λ(f:Int) (a:Tm) (_:Unit)=>cH (kL n a) λb=>if b then some (eK.next ())else some (eK.ret false)) l 0 ()=if l.all Tm.ok then some (.inl ())else some (.inr false):=by
    refine jU Tm.ok _ l 0 ?_;intro j x r;have:=cV Tm.wt r;rw[p x Zb Zb];rfl
   rw[kL]
   simp only[Tm.cX,Tm.c8,Tm.dX,Tm.ds,cO,cQ (l:=l) Zb,cM,key,gY,mu,dS,cP,hW,dK,Tm.eu,zD,cG,iw (t:=s) Zb,o0]
   by_cases d:(l.length:Int)=eC k
   ·by_cases g:i<0
    ·have:¬0<=i:=Zb
     simp[d,g,Tm.node,this]
    ·have u:0<=i:=Zb
     by_cases m:k=1
     ·subst m;cases c:s.kV<;>cases e:l.all Tm.ok<;>simp_all [Tm.node,f_]
     ·by_cases c:i=0
      ·subst c;have o:dI 0 0=false:=rfl
       by_cases e:k=2\/k=6\/k=9
       ·have v:f_ k=true:=by simp[f_,e]
        by_cases w:s.err=0<;>cases y:l.all Tm.ok<;>simp_all [Tm.node]
       ·have v:f_ k=false:=by simp[f_,e]
        cases w:s.kV<;>cases y:l.all Tm.ok<;>simp_all [Tm.node]
      ·have o:dI i 0=true:=by simp[c]
       simp[d,g,m,c,o,Tm.node]
   ·simp[d,Tm.node]
def hY{t:Tm}(h:t.wt<=1000000000):ng t=some t.err:=by
 have:=t.eJ;unfold ng Tm.err;rw[rM FU t (by rw[dn];exact h) h,iW FU t (by rw[dn];omega) Zb];cases t.ok with
 |false=>simp|true=>by_cases a:4096<t.afq<;>simp[a]<;>omega
def zB(k:Int):wT k=some (if 1<=k/\k<14 then(eC k,true)else(0,false)):=by
 unfold wT;simp only[gY,mu,hW,fB]
 by_cases h:k<1\/14<=k
 ·rw[cL h,cJ Zb]
 ·rw[cJ h,cL Zb]
  have:k=1\/k=2\/k=3\/k=4\/k=5\/k=6\/k=7\/k=8\/k=9\/k=10\/k=11\/k=12\/k=13:=Zb
  rcases this with rfl|rfl|rfl|rfl|rfl|rfl|rfl|rfl|rfl|rfl|rfl|rfl|rfl<;>rfl
def zO(k:Int):w8 k=some (f_ k):=by
 unfold w8 f_
 congr 1
 rw[vR];simp
def Bj{k:Int}{n:Nat}(h:(n:Int)=eC k):1<=k/\k<14:=by
 unfold eC at h
 repeat' split at h
 all_goals omega
def oK:∀(n:Nat) (t:Tm),t.wt<=n->t.wt<=1000000000->jV n t=some (if t.ok then((t.afq:Int),true)else(0,false)):=by
 intro n
 induction n with
 |zero=>intro t h;have:=t.eL;omega
 |succ n r=>
  intro t h u;cases t with
  |mk k i s l=>
   rw[Tm.dD] at h u;have D:=Tm.jh l;have hn:cN Tm.afq l<=cN Tm.wt l:=gn λx _=>x.eJ
   have key:eg (λ(o:Int) (a:Tm) (b:Int)=>c0 (jV n a) λc d=>if d then some (eK.next (ep .i64 b c))else some (eK.ret ((0:Int),false))) l 0 1=if l.all Tm.ok then some (.inl ((1+cN Tm.afq l:Nat):Int))else some (.inr (0,false)):=by
    refine od Tm.afq Tm.ok _ l 0 1 Zb ?_;intro j x v w;have:=cV Tm.wt w;rw[r x Zb Zb];cases x.ok<;>simp
   rw[jV];simp only[Tm.cX,Tm.c8,Tm.dX,Tm.ds,cO,cQ (l:=l) Zb,cM,key,Tm.eu,Tm.cK,zB,zO,hD (t:=s) Zb,lI,cG,cI]
   by_cases e:(l.length:Int)=eC k
   ·have f:=Bj e;simp only[f,and_self,if_true,cI,xd,gY,ku,mu,ew,cP,hW,dK,e,ne_eq,NH,YS]
    by_cases p:i<0
    ·have:¬0<=i:=Zb
     simp[p,Tm.node,this]
    ·have y:0<=i:=Zb
     by_cases q:k=1
     ·subst q;cases g:s.kV<;>cases m:l.all Tm.ok<;>simp_all [Tm.node,f_]
     ·by_cases g:i=0
      ·subst g
       by_cases m:k=2\/k=6\/k=9
       ·have z:f_ k=true:=by simp[f_,m]
        by_cases A:s.err=0<;>cases B:l.all Tm.ok<;>simp_all [Tm.node]
       ·have z:f_ k=false:=by simp[f_,m]
        cases A:s.kV<;>cases B:l.all Tm.ok<;>simp_all [Tm.node]
      ·simp[p,q,g,Tm.node]
   ·have C:Tm.node k i s l.length=false:=by simp[Tm.node,e]
    simp only[C,Sp,qa,jm]
    by_cases f:1<=k/\k<14
    ·simp[f,e]
    ·simp[f]
def dr(k:Int):Int:=if k=2 then 1 else 0
def eN(k:Int):0<=dr k/\dr k<=1:=by unfold dr;split<;>omega
def ji(t:Tm):lW t=some (dr t.afo):=by
 unfold lW dr;simp only[dS]
 split<;>rfl
mutual
def Tm.up(f b:Int):Tm->Tm
 |.mk k i s l=>.mk k (if k=1/\f<=i then i+b else i) s (Tm.Mn (f+dr k) b l)
def Tm.Mn(f b:Int):List Tm->List Tm
 |[]=>[]|t::l=>t.up f b::Tm.Mn f b l
end
def Tm.D9(f b:Int)(l:List Tm):Tm.Mn f b l=l.map (Tm.up f b):=by
 induction l with
 |nil=>rfl|cons t l a=>simp[Tm.Mn,a]
theorem Tm.dV(f b k i:Int)(s:Ty)(l:List Tm):(Tm.mk k i s l).up f b=.mk k (if k=1/\f<=i then i+b else i) s (l.map (Tm.up (f+dr k) b)):=by rw[Tm.up,Tm.D9]
mutual
def Tm.afu(m:Int):Tm->Bool
 |.mk _ i _ l=>decide (i<=m)&&Tm.lj m l
def Tm.lj(m:Int):List Tm->Bool
 |[]=>true|t::l=>t.afu m&&Tm.lj m l
end
def Tm.nH(m:Int)(l:List Tm):Tm.lj m l=l.all (Tm.afu m):=by
 induction l with
 |nil=>rfl|cons t l a=>simp[Tm.lj,a]
theorem Tm.dj(m k i:Int)(s:Ty)(l:List Tm):(Tm.mk k i s l).afu m=(decide (i<=m)&&l.all (Tm.afu m)):=by rw[Tm.afu,Tm.nH]
mutual
def Tm.afw(a:Int):Tm->Nat
 |.mk k i _ l=>(if k=1/\i=a then 1 else 0)+Tm.qh (a+dr k) l
def Tm.qh(a:Int):List Tm->Nat
 |[]=>0|t::l=>t.afw a+Tm.qh a l
end
def Tm.vG(a:Int)(l:List Tm):Tm.qh a l=cN (Tm.afw a) l:=by
 induction l with
 |nil=>rfl|cons t l b=>simp[Tm.qh,cN,b]
def Tm.dp(a k i:Int)(s:Ty)(l:List Tm):(Tm.mk k i s l).afw a=(if k=1/\i=a then 1 else 0)+cN (Tm.afw (a+dr k)) l:=by rw[Tm.afw,Tm.vG]
def Tm.e9(t:Tm):∀a,t.afw a<=t.afq:=by
 induction t using Tm.ind with
 |h k i s l b=>
  intro a;rw[Tm.dp,Tm.cK];have:=gn (f:=Tm.afw (a+dr k)) (g:=Tm.afq) (l:=l) λx c=>b x c _
  split<;>omega
def Tm.jO(n i:Int)(s t:Tm):Tm:=if i=n then s.up 0 n else if n<i then .mk 1 (i-1) (.mk 0 []) [] else t
mutual
def Tm.ei:Int->Tm->Tm->Tm
 |n,.mk k i ty l,s=>if k=1 then Tm.jO n i s (.mk k i ty l)else .mk k i ty (Tm.xk (n+dr k) l s)
def Tm.xk:Int->List Tm->Tm->List Tm
 |_,[],_=>[]|n,t::l,s=>Tm.ei n t s::Tm.xk n l s
end
def Tm.A6(n:Int)(s:Tm)(l:List Tm):Tm.xk n l s=l.map (λx=>Tm.ei n x s):=by
 induction l with
 |nil=>rfl|cons t l a=>simp[Tm.xk,a]
theorem Tm.dQ(n:Int)(s:Tm)(k i:Int)(ty:Ty)(l:List Tm):Tm.ei n (Tm.mk k i ty l) s=if k=1 then Tm.jO n i s (.mk k i ty l)else .mk k i ty (l.map (λx=>Tm.ei (n+dr k) x s)):=by rw[Tm.ei,Tm.A6]
theorem Tm.jo(t:Tm):∀f b,(t.up f b).afq=t.afq:=by
 induction t using Tm.ind with
 |h k i s l a=>
  intro f b;rw[Tm.dV,Tm.cK,Tm.cK,gx];rw[ig λx c=>a x c _ _]
theorem Tm.yG(t:Tm):∀f b,(t.up f b).wt=t.wt:=by
 induction t using Tm.ind with
 |h k i s l a=>
  intro f b;rw[Tm.dV,Tm.dD,Tm.dD,gx];rw[ig λx c=>a x c _ _]
def o8{α β:Type}{p:β->Bool}{q:α->Bool}{g:α->β}{l:List α}(h:∀x∈l,p (g x)=q x):(l.map g).all p=l.all q:=by
 induction l with
 |nil=>rfl|cons x l a=>simp only[jc,sb,h x aae,a λy hy=>h y (by simp[hy])]
def Tm.EZ{k i j:Int}{s:Ty}{n:Nat}(h:k=1/\0<=i/\0<=j\/i=j):Tm.node k i s n=Tm.node k j s n:=by
 rcases h with⟨rfl,a,b⟩|rfl
 ·simp[Tm.node,a,b]
 ·rfl
theorem Tm.re(t:Tm):∀f b,0<=f->0<=b->(t.up f b).ok=t.ok:=by
 induction t using Tm.ind with
 |h k i s l a=>
  intro f b e c;rw[Tm.dV,Tm.eu,Tm.eu,EB,o8 λx d=>a x d (f+dr k) b (by have:=eN k;omega) c]
  congr 1
  apply Tm.EZ
  split
  ·rename_i g;left;omega
  ·right;rfl
def oh:∀(n:Nat) (t:Tm) (m:Int),t.afq<=n->t.afq<=1000000000->kc n t m=some (t.afu m):=by
 intro n
 induction n with
 |zero=>intro t m h;have:=t.da;omega
 |succ n e=>
  intro t m h f;cases t with
  |mk k i s l=>
   rw[Tm.cK] at h f;have o:=Tm.dH l
   have key:eg (λ(c:Int) (a:Tm) (_:Unit)=>cH (kc n a m) λb=>if b then some (eK.next ())else some (eK.ret false)) l 0 ()=if l.all (Tm.afu m) then some (.inl ())else some (.inr false):=by
    refine jU (Tm.afu m) _ l 0 ?_;intro j x g;have:=cV Tm.afq g;rw[e x m Zb Zb];rfl
   rw[kc];simp only[Tm.cX,Tm.dX,cO,cQ (l:=l) Zb,cM,key,eb,Tm.dj]
   by_cases d:m<i
   ·have:¬i<=m:=Zb
    simp[d,this]
   ·have:i<=m:=Zb
    cases p:l.all (Tm.afu m)<;>simp[d,this]
def p8:∀(n:Nat) (t:Tm) (f b:Int),t.afq<=n->t.afq<=1000000000->0<=f->f+t.afq<=10000000000->0<=b->b<=10000000000->t.afu 1000000000000=true->ql n t f b=some (t.up f b):=by
 intro n
 induction n with
 |zero=>intro t f b h;have:=t.da;omega
 |succ n q=>
  intro t f b h a z c r d hi;cases t with
  |mk k i s l=>
   rw[Tm.cK] at h a c;rw[Tm.dj] at hi;simp only[ew,j8,gR] at hi;have A:=Tm.dH l;have B:=eN k;rw[ql];simp only[Tm.cX,Tm.dX,Tm.c8,Tm.ds,cO,cQ (l:=l) Zb,cM];rw[eW (Tm.up (f+dr k) b) l 0 [] aaV]
   ·rw[Tm.dV];simp only[cG,cR,k9,zq,Tm.mk.injEq,Du,ry]
    by_cases g:k=1/\f<=i
    ·obtain⟨rfl,o⟩:=g;rw[dk Zb Zb];have u:dC 1 1=true:=rfl
     have w:sS i f=true:=by simp[o]
     simp[u,w,o]
    ·rw[cJ g]
     have e:fp (dC k 1) (sS i f) false=false:=by
      rw[ku,Ia];simp only[ne_eq,ew,dS,fB];exact g
     rw[e];rfl
   ·intro j x v p y;have:=cV Tm.afq p;rw[ji];simp only[cG,Tm.c8];rw[dk Zb Zb,q x (f+dr k) b Zb Zb Zb Zb r d (hi.2 x p)];simp[di (l:=v) (m:=[x.up (f+dr k) b]) (by simpa using y)]
def qo:∀(n:Nat) (t:Tm) (a:Int),t.afq<=n->t.afq<=1000000000->0<=a->a+t.afq<=10000000000->lR n t a=some (t.afw a:Int):=by
 intro n
 induction n with
 |zero=>intro t a h;have:=t.da;omega
 |succ n g=>
  intro t a h c q d;cases t with
  |mk k i s l=>
   rw[Tm.cK] at h c d;have r:=Tm.dH l;have u:=eN k;have m:cN (Tm.afw (a+dr k)) l<=cN Tm.afq l:=gn λx _=>x.e9 _;rw[lR];simp only[Tm.cX,Tm.dX,Tm.c8,cO,cQ (l:=l) Zb,cM]
   have o:fp (fp (dC k 1) (dC i a) false) (ep .i64 0 1) 0=(((if k=1/\i=a then 1 else 0:Nat)):Int):=by
    by_cases f:k=1/\i=a
    ·obtain⟨rfl,rfl⟩:=f;simp[dC,fp,ep,xV]
    ·have e:fp (dC k 1) (dC i a) false=false:=by
      rw[ku,Ia];simp only[ne_eq,ew,dS];exact f
     rw[e,cJ f];rfl
   have key:=kf (ρ:=Int) (F:=λ(j:Int) (x:Tm) (v:Int)=>cH (lW (Tm.mk k i s l)) λb=>cH (lR n x (ep .i64 a b)) λy=>some (eK.next (ep .i64 v y)))
    (Tm.afw (a+dr k)) l 0 (if k=1/\i=a then 1 else 0) (by split<;>omega) (by
    intro j x v p;have:=cV Tm.afq p;rw[ji];simp only[cG,Tm.c8];rw[dk Zb Zb,g x _ Zb Zb Zb Zb]
    rfl)
   rw[o,key];simp[Tm.dp]
def uB:∀(n:Nat) (t:Tm) (a b:Int) (s:Tm),t.afq<=n->t.afq<=1000000000->0<=a->0<=b->a+b+t.afq<=5000000000->t.afu 1000000000000=true->t.ok=true->s.afq<=1000000000->s.afu 1000000000000=true->xc n t a b s=some (Tm.ei (a+b) t s):=by
 intro n
 induction n with
 |zero=>intro t a b s h;have:=t.da;omega
 |succ n r=>
  intro t a b s h o u z p hi c hs d;cases t with
  |mk k i ty l=>
   rw[Tm.cK] at h o p;rw[Tm.dj] at hi;rw[Tm.eu] at c;simp only[ew,j8,gR] at hi c;have A:=Tm.dH l;have B:=eN k
   have w:0<=i:=by
    have:=c.1;simp only[Tm.node,ew,j8] at this;exact this.1.1.2
   rw[xc,Tm.dQ];simp only[Tm.cX,Tm.dX,Tm.c8,Tm.ds,cO,cQ (l:=l) Zb,cM,dS];rw[dk Zb Zb]
   by_cases e:k=1
   ·rw[cL e,cL e];unfold Tm.jO
    by_cases f:i=a+b
    ·rw[cL f,cL f,p8 FU s 0 (a+b) (by rw[dn];exact hs) hs Zb Zb Zb Zb d];rfl
    ·rw[cJ f,cJ f];simp only[eb]
     by_cases g:a+b<i
     ·rw[cL g,cL g,dF Zb Zb];rfl
     ·rw[cJ g,cJ g]
   ·rw[cJ e,cJ e];rw[eW (λx=>Tm.ei (a+b+dr k) x s) l 0 [] aaV]
    ·simp
    ·intro j x v q y;have:=cV Tm.afq q;rw[ji];simp only[cG,Tm.c8];rw[dk Zb Zb,r x a (b+dr k) s Zb Zb u Zb Zb (hi.2 x q) (c.2 x q) hs d];rw[show a+(b+dr k)=a+b+dr k by omega];simp[di (l:=v) (m:=[Tm.ei (a+b+dr k) x s]) (by simpa using y)]
def Tm.ky(s t:Tm):∀n,t.ok=true->(Tm.ei n t s).afq+t.afw n=t.afq+t.afw n*s.afq:=by
 induction t using Tm.ind with
 |h k i ty l g=>
  intro n a;rw[Tm.eu] at a;simp only[ew,gR] at a;rw[Tm.dQ,Tm.dp,Tm.cK]
  by_cases d:k=1
  ·subst d
   have j:l=[]:=by
    have:=a.1;simp only[Tm.node,ew,j8] at this;have h:=this.1.1.1;simp[eC] at h;exact h
   subst j;simp only[if_true,Tm.jO,cN,oH,ry]
   by_cases e:i=n
   ·simp[e,Tm.jo];omega
   ·by_cases m:n<i<;>simp[e,m,Tm.cK,cN]
  ·simp only[d,jm,xZ,sZ];rw[Tm.cK,gx]
   have:cN (λx=>(Tm.ei (n+dr k) x s).afq) l+cN (Tm.afw (n+dr k)) l=cN Tm.afq l+cN (Tm.afw (n+dr k)) l*s.afq:=by
    have b:∀x∈l,(Tm.ei (n+dr k) x s).afq+x.afw (n+dr k)=x.afq+x.afw (n+dr k)*s.afq:=λx c=>g x c _ (a.2 x c);clear g a
    induction l with
    |nil=>simp[cN]|cons y l f=>
     have d:=b y aae;have e:=f λx c=>b x (by simp[c]);simp only[cN,zy];omega
   omega
def Tm.vn(s:Tm)(hs:s.ok=true)(t:Tm):∀n,0<=n->t.ok=true->(Tm.ei n t s).ok=true:=by
 induction t using Tm.ind with
 |h k i ty l g=>
  intro n hn a;have b:=a;rw[Tm.eu] at a;simp only[ew,gR] at a;rw[Tm.dQ]
  by_cases d:k=1
  ·subst d;simp only[if_true,Tm.jO]
   by_cases c:i=n
   ·simp only[c,if_true];rw[Tm.re s 0 n Zb hn];exact hs
   ·by_cases e:n<i
    ·simp only[c,e,jm,if_true];rw[Tm.eu]
     have j:1<=i:=Zb
     simp[Tm.node,eC,f_,j,Ty.kV,dC]
    ·simp only[c,e,jm];exact b
  ·simp only[d,jm];rw[Tm.eu,EB];simp only[ew,gR,nj];refine⟨a.1,?_⟩;rintro _ ⟨x,f,rfl⟩;exact g x f _ (by have:=eN k;omega) (a.2 x f)
mutual
def Tm.fr:Tm->Int
 |.mk k i _ l=>if k=1 then i+1 else if k=2 then imax 0 (Tm.Ab 0 l-1)else Tm.Ab 0 l
def Tm.Ab(m:Int):List Tm->Int
 |[]=>m|t::l=>Tm.Ab (imax m t.fr) l
end
theorem mJ(a b:Int):imax a b=max a b:=by unfold imax;omega
def Tm.Ex(l:List Tm):∀m,m<=Tm.Ab m l:=by
 induction l with
 |nil=>intro m;exact NJ _|cons t l a=>intro m;rw[Tm.Ab];have:=a (imax m t.fr);rw[mJ] at*;omega
def Tm.L5{l:List Tm}{t:Tm}(h:t∈l):∀m,t.fr<=Tm.Ab m l:=by
 induction l with
 |nil=>cases h
 |cons u l a=>
  intro m;rw[Tm.Ab];rcases gT.1 h with rfl|h
  ·have:=Tm.Ex l (imax m t.fr);rw[mJ] at*;omega
  ·exact a h _
def Tm.JL{M:Int}{l:List Tm}(h:∀t∈l,t.fr<=M):∀m,m<=M->Tm.Ab m l<=M:=by
 induction l with
 |nil=>intro m hm;exact hm|cons u l a=>
  intro m hm;rw[Tm.Ab];refine a (λt b=>h t (by simp[b])) _ ?_;have:=h u aae;rw[mJ];omega
def Tm.I6(t:Tm):∀{M:Int},0<=M->t.ok=true->t.afu M=true->0<=t.fr/\t.fr<=M+1:=by
 induction t using Tm.ind with
 |h k i s l d=>
  intro M e a b;rw[Tm.eu] at a;rw[Tm.dj] at b;simp only[ew,gR,j8,Tm.node] at a b;have f:Tm.Ab 0 l<=M+1:=Tm.JL (λt c=>(d t c e (a.2 t c) (b.2 t c)).2) 0 Zb;have g:=Tm.Ex l 0;rw[Tm.fr]
  split
  ·omega
  ·split
   ·rw[mJ];omega
   ·omega
def map_id'{α:Type}{g:α->α}{l:List α}(h:∀x∈l,g x=x):l.map g=l:=by
 induction l with
 |nil=>rfl|cons x l a=>simp only[jc,h x aae,a λy hy=>h y (by simp[hy])]
def Tm.hE{k i:Int}{s:Ty}{l:List Tm}(h:(Tm.mk k i s l).ok=true):(k=1->l=[])/\0<=i/\(k≠1->i=0)/\(∀t∈l,t.ok=true)/\(l.length:Int)=eC k:=by
 rw[Tm.eu] at h;simp only[ew,gR,j8,Tm.node,mu] at h;obtain⟨⟨⟨⟨a,b⟩,c⟩,f⟩,d⟩:=h;refine⟨?_,b,λe=>c.resolve_left e,d,a⟩;rintro rfl;have:(l.length:Int)=0:=a;exact Df Zb
def Tm.A2{k i:Int}{s:Ty}{l:List Tm}(a:k≠1){f:Int}(h:(Tm.mk k i s l).fr<=f)(c:0<=f):∀x∈l,x.fr<=f+dr k:=by
 intro x b;have:=Tm.L5 b 0;rw[Tm.fr,cJ a] at h;unfold dr
 split at h
 ·rename_i a;rw[cL a];rw[mJ] at h;omega
 ·rename_i a;rw[cJ a];omega
def Tm.L6(t:Tm):∀f b,t.ok=true->0<=f->t.fr<=f->t.up f b=t:=by
 induction t using Tm.ind with
 |h k i s l d=>
  intro f b e g h;obtain⟨o1,o2,m,j,_⟩:=Tm.hE e;rw[Tm.dV]
  by_cases a:k=1
  ·have:=o1 a;subst this;rw[Tm.fr,cL a] at h;rw[cJ Zb];rfl
  ·rw[cJ (λh=>a h.1)]
   congr 1
   exact map_id' λx c=>d x c _ _ (j x c) (by have:=eN k;omega) (Tm.A2 a h g x c)
def Tm.oD(t:Tm):∀f,t.up f 0=t:=by
 induction t using Tm.ind with
 |h k i s l a=>
  intro f;rw[Tm.dV,map_id' λx b=>a x b _]
  congr 1
  split<;>omega
def Tm.Jb(s t:Tm):∀n,t.ok=true->0<=n->t.fr<=n->Tm.ei n t s=t:=by
 induction t using Tm.ind with
 |h k i ty l c=>
  intro n d hn h;obtain⟨o1,o2,f,e,_⟩:=Tm.hE d;rw[Tm.dQ]
  by_cases a:k=1
  ·rw[cL a];rw[Tm.fr,cL a] at h;unfold Tm.jO;rw[cJ Zb,cJ Zb]
  ·rw[cJ a]
   congr 1
   exact map_id' λx b=>c x b _ (e x b) (by have:=eN k;omega) (Tm.A2 a h hn x b)
def su{α:Type}{g:α->Nat}{l:List α}(h:∀x∈l,g x=0):cN g l=0:=by
 induction l with
 |nil=>rfl|cons x l a=>simp[cN,h x aae,a λy hy=>h y (by simp[hy])]
def Tm.Ei(t:Tm):∀n,t.ok=true->0<=n->t.fr<=n->t.afw n=0:=by
 induction t using Tm.ind with
 |h k i ty l c=>
  intro n d hn h;obtain⟨o1,o2,f,e,_⟩:=Tm.hE d;rw[Tm.dp]
  by_cases a:k=1
  ·have:=o1 a;subst this;rw[Tm.fr,cL a] at h;rw[cJ Zb];rfl
  ·rw[cJ (λh=>a h.1)];simp only[sZ];exact su λx b=>c x b _ (e x b) (by have:=eN k;omega) (Tm.A2 a h hn x b)
def Tm.kd:Option Tm->Int
 |some t=>t.afo|none=>0
def Tm.root:Tm->Bool
 |.mk k _ _ l=>(decide (k=3)&&decide (Tm.kd l[0]?=2))||(decide (k=6)&&(decide (Tm.kd l[2]?=4)||decide (Tm.kd l[2]?=5)))||(decide (k=9)&&(decide (Tm.kd l[2]?=7)||decide (Tm.kd l[2]?=8)))||
  ((decide (k=11)||decide (k=12))&&decide (Tm.kd l[0]?=10))
mutual
def Tm.nf:Tm->Bool
 |.mk k i s l=>!(Tm.mk k i s l).root&&Tm.U1 l
def Tm.U1:List Tm->Bool
 |[]=>true|t::l=>t.nf&&Tm.U1 l
end
def Tm.Pw(l:List Tm):Tm.U1 l=l.all Tm.nf:=by
 induction l with
 |nil=>rfl|cons t l a=>simp[Tm.U1,a]
def Tm.Cg(k i:Int)(s:Ty)(l:List Tm):(Tm.mk k i s l).nf=(!(Tm.mk k i s l).root&&l.all Tm.nf):=by rw[Tm.nf,Tm.Pw]
def gA(f:Tm):List Tm->Tm
 |[]=>f|a::l=>gA (.mk 3 0 (.mk 0 []) [f,a]) l
def Tm.dm:Tm->Tm
 |.mk k i s l=>
  if k=3 then(match l with|[.mk _ _ _ [b],a]=>Tm.ei 0 b a|_=>.mk k i s l)
  else if k=11 then(match l with|[.mk _ _ _ (a::_)]=>a|_=>.mk k i s l)
  else if k=12 then(match l with|[.mk _ _ _ [_,b]]=>b|_=>.mk k i s l)
  else(match l with
   |[b,st,.mk _ _ _ []]=>b|[b,st,.mk _ _ _ [n]]=>gA st [n,.mk k i s [b,st,n]]|[b,st,.mk _ _ _ [h,t]]=>gA st [h,t,.mk k i s [b,st,t]]|_=>.mk k i s l)
mutual
inductive NR (nh:List HC):Nat->Tm->Prop
 |mk {p:Nat} {x:dW} {l:List Tm}:HC.c_ nh p=some x->nE nh x.afp l->x.size=((Tm.mk x.afo x.afr x.ta l).afq:Int)->x.free=(Tm.mk x.afo x.afr x.ta l).fr->(x.normal=true->(Tm.mk x.afo x.afr x.ta l).nf=true)->NR nh p (.mk x.afo x.afr x.ta l)
inductive nE (nh:List HC):List (Option Nat)->List Tm->Prop
 |nil:nE nh [] []|cons {p:Nat} {t:Tm} {ps:List (Option Nat)} {ts:List Tm}:NR nh p t->nE nh ps ts->nE nh (some p::ps) (t::ts)
end
def NR.inv{nh:List HC}{p:Nat}{t:Tm}(h:NR nh p t):∃x,HC.c_ nh p=some x/\x.afo=t.afo/\x.afr=t.afr/\x.ta=t.cW/\nE nh x.afp t.afp/\x.size=(t.afq:Int)/\x.free=t.fr/\(x.normal=true->t.nf=true):=by
 cases h with
 |mk a b c d e=>exact⟨_,a,rfl,rfl,rfl,b,c,d,e⟩
def NR.of{nh:List HC}{p:Nat}{t:Tm}{x:dW}(e:HC.c_ nh p=some x)(a:x.afo=t.afo)(b:x.afr=t.afr)(c:x.ta=t.cW)(d:nE nh x.afp t.afp)(f:x.size=(t.afq:Int))(g:x.free=t.fr)
  (h:x.normal=true->t.nf=true):NR nh p t:=by
 cases t with
 |mk k i s l=>
  simp only[Tm.c8,Tm.dX,Tm.ds,Tm.cX] at a b c d;subst a;subst b;subst c;exact .mk e d f g h
def nE.len{nh:List HC}:∀{ps:List (Option Nat)} {ts:List Tm},nE nh ps ts->ps.length=ts.length
 |_,_,.nil=>rfl|_,_,.cons _ h=>by simp[h.len]
def nE.append{nh:List HC}:∀{ps a:List (Option Nat)} {ts us:List Tm},nE nh ps ts->nE nh a us->nE nh (ps++a) (ts++us)
 |_,_,_,_,.nil,h=>h|_,_,_,_,.cons b c,h=>.cons b (c.append h)
structure NE (nh nh':List HC):Prop where
 node:∀p t,NR nh p t->NR nh' p t
 state:∀p st,HC.dN nh p=some st->HC.dN nh' p=some st
 get:∀p x,HC.c_ nh p=some x->∃b,HC.c_ nh' p=some {x with normal:=b}
def NE.refl(nh:List HC):NE nh nh:=⟨λ_ _ h=>h,λ_ _ h=>h,λ_ x h=>⟨x.normal,h⟩⟩
def NE.trans{a b c:List HC}(d:NE a b)(e:NE b c):NE a c:=⟨λp t h=>e.node p t (d.node p t h),λp st h=>e.state p st (d.state p st h),λp x h=>by
 obtain⟨j,f⟩:=d.get p x h;obtain⟨g,i⟩:=e.get p _ f
 exact⟨g,i⟩⟩
def NE.list{nh a:List HC}(h:NE nh a):∀{ps:List (Option Nat)} {ts:List Tm},nE nh ps ts->nE a ps ts
 |_,_,.nil=>.nil|_,_,.cons b c=>.cons (h.node _ _ b) (h.list c)
def xL{nh X:List HC}{p:Nat}{x:dW}(h:HC.c_ nh p=some x):HC.c_ (nh++X) p=some x:=by
 have:=HC.dw h;have a:=(qR.1 this).1;unfold HC.c_;rw[uj a,this]
def zz{nh X:List HC}{p:Nat}{x:fZ}(h:HC.dN nh p=some x):HC.dN (nh++X) p=some x:=by
 have:=HC.gd h;have a:=(qR.1 this).1;unfold HC.dN;rw[uj a,this]
mutual
def NR.app{nh X:List HC}:∀{p:Nat} {t:Tm},NR nh p t->NR (nh++X) p t
 |_,_,.mk a b c d e=>.mk (xL a) b.app c d e
def nE.app{nh X:List HC}:∀{ps:List (Option Nat)} {ts:List Tm},nE nh ps ts->nE (nh++X) ps ts
 |_,_,.nil=>.nil|_,_,.cons a b=>.cons a.app b.app
end
def NE.kp{nh a:List HC}(h:Kp nh a):NE nh a:=by
 obtain⟨X,rfl⟩:=h;exact⟨λ_ _ h=>h.app,λ_ _ h=>zz h,λp x h=>⟨x.normal,xL h⟩⟩
def ye{a0 a1:Int}{a2:Ty}{a3:List (Option Nat)}{nh:List HC}{F:Int->Option Nat->List HC->Option (eK (List HC) ((Option Nat)×List HC))}
  (hF:∀j q v x y,HC.c_ v nh.length=some x->HC.c_ v q=some y->HC.c_ (kY v nh.length (HC.dZ (dW.mk x.afo x.afr x.ta x.afp (ep .i64 x.size y.size) x.free x.normal))) q=some y->F j (some q) v=some (.next (kY (kY v nh.length (HC.dZ (dW.mk x.afo x.afr x.ta x.afp (ep .i64 x.size y.size) x.free x.normal))) nh.length (HC.dZ (dW.mk x.afo x.afr x.ta x.afp (ep .i64 x.size y.size) (imax x.free y.free) x.normal))))):∀(ps:List (Option Nat)) (ts:List Tm) (i:Nat) (s:Nat) (f:Int),nE nh ps ts->s+cN Tm.afq ts<=1000000000->eg F ps i (nh++[HC.dZ (dW.mk a0 a1 a2 a3 s f false)])=some (.inl (nh++[HC.dZ (dW.mk a0 a1 a2 a3 ((s+cN Tm.afq ts:Nat):Int) (Tm.Ab f ts) false)]))
 |_,_,i,s,f,.nil,_=>by simp[cN,Tm.Ab]|_,_,i,s,f,.cons (p:=p) (t:=t) c d,e=>by
  rw[cN] at e;obtain⟨y,b,l,m,n,o,g,h,r⟩:=c.inv;have k:p<nh.length:=(qR.1 (HC.dw b)).1
  have a:ep .i64 (s:Int) (t.afq:Int)=((s+t.afq:Nat):Int):=by rw[dk Zb Zb];omega
  rw[dq,hF _ p _ _ y zK (xL b) (by rw[vP];exact xL b)];simp only[vP,cG,dt,g,h,a];rw[ye hF _ _ (i+1) (s+t.afq) (imax f t.fr) d Zb];simp only[cN,Tm.Ab,Ml]
def lS{k i:Int}{s:Ty}{ps:List (Option Nat)}{ts:List Tm}{nh:List HC}(h:nE nh ps ts)(hn:cN Tm.afq ts<=100000000)(hi:0<=i/\i<=1000000000000)(p:∀t∈ts,0<=t.fr/\t.fr<=1000000000000):∃e,lU k i s ps nh=some (some nh.length,e)/\Kp nh e/\NR e nh.length (.mk k i s ts):=by
 have hlen:ps.length<=100000000:=by
  rw[h.len];exact DJ (Tm.dH ts) hn
 have w:0<=Tm.Ab 0 ts/\Tm.Ab 0 ts<=1000000000000:=⟨Tm.Ex ts 0,Tm.JL (λt z=>(p t z).2) 0 Zb⟩;unfold lU;rw[cQ Zb];simp only[cM,cO]
 have r:=ye (a0:=k) (a1:=i) (a2:=s) (a3:=ps) (nh:=nh) (F:=λu l b=>
   cH (HC.c_ b (List.length nh)) λa=>
   cH (l) λd=>
   cH (HC.c_ b d) λc=>
   cH (HC.c_ (kY b (List.length nh) (HC.dZ (dW.mk a.afo a.afr a.ta a.afp (ep .i64 a.size c.size) a.free a.normal))) d) λm=>
   some (.next (kY (kY b (List.length nh) (HC.dZ (dW.mk a.afo a.afr a.ta a.afp (ep .i64 a.size c.size) a.free a.normal))) (List.length nh) (HC.dZ (dW.mk a.afo a.afr a.ta a.afp (ep .i64 a.size c.size) (imax a.free m.free) a.normal)))))
  (by intro j q v x y n o A;simp only[n,o,A,cG]) ps ts 0 1 0 h Zb
 have B:((1:Nat):Int)=1:=rfl;rw[B] at r;rw[r];simp only[cG,cR,zK,vP]
 have g:((1+cN Tm.afq ts:Nat):Int)=((Tm.mk k i s ts).afq:Int):=by rw[Tm.cK]
 have fin:∀f:Int,f=(Tm.mk k i s ts).fr->NR (nh++[HC.dZ (dW.mk k i s ps ((1+cN Tm.afq ts:Nat):Int) f false)]) nh.length (.mk k i s ts):=by
  intro f p;exact NR.of zK rfl rfl rfl h.app g p (by intro h;cases h)
 by_cases n:k=1
 ·subst n;refine⟨_,by rw[cL Zk],⟨_,rfl⟩,fin _ ?_⟩;rw[Tm.fr,cL rfl,dk Zb Zb]
 ·rw[cJ (by simpa using n)]
  by_cases o:k=2
  ·subst o;refine⟨_,by rw[cL Zk],⟨_,rfl⟩,fin _ ?_⟩;rw[Tm.fr,cJ Zk,cL rfl,dF Zb Zb]
  ·refine⟨_,by rw[cJ (by simpa using o)],⟨_,rfl⟩,fin _ ?_⟩;rw[Tm.fr,cJ n,cJ o]
def I_{nh:List HC}{p:Nat}{x:dW}(h:HC.c_ nh p=some x):il (some p) nh=some (dr x.afo):=by
 unfold il dr;simp only[cG,h,dS]
 split<;>rfl
def NE.below{nh a:List HC}{p:Nat}{x:dW}(he:NE nh a)(h:HC.c_ nh p=some x):il (some p) a=some (dr x.afo):=by
 obtain⟨b,e⟩:=he.get p x h;rw[I_ e]
def tU{F:Int->Option Nat->List (Option Nat)×List HC->Option (eK (List (Option Nat)×List HC) ((Option Nat)×List HC))}(g:Tm->Tm)(VD:List HC):∀(ts:List Tm)
  (_:∀t∈ts,∀p nh j v,Kp VD nh->NR nh p t->v.length+1<=1000000000->∃q a,F j (some p) (v,nh)=some (.next (v++[some q],a))/\Kp nh a/\NR a q (g t))
  (ps:List (Option Nat)) (i:Nat) (nh:List HC) (v:List (Option Nat)) (us:List Tm),Kp VD nh->nE nh ps ts->nE nh v us->v.length+ts.length<=1000000000->∃c a,eg F ps i (v,nh)=some (.inl (c,a))/\Kp nh a/\nE a c (us++ts.map g)
 |[],_,_,i,nh,v,us,_,.nil,d,_=>⟨v,nh,rfl,Kp.refl _,by simpa using d⟩|t::ts,hF,_,i,nh,v,us,h,.cons (p:=p) (ps:=ps) k l,d,m=>by
  simp only[hQ] at m;obtain⟨q,e,n,f,o⟩:=hF t aae p nh i v h k Zb;have b:=NE.kp f;obtain⟨c,a,f1,f2,f3⟩:=tU g VD ts (λt r=>hF t (by simp[r])) ps (i+1) e (v++[some q]) (us++[g t]) (h.trans f) (b.list l) ((b.list d).append (.cons o .nil)) aaV;refine⟨c,a,?_,f.trans f2,by simpa using f3⟩;rw[dq,n];simp only[cG,dt];exact f1
structure Sm (M:Int) (t:Tm):Prop where
 ok:t.ok=true
 afu:t.afu M=true
 afq:t.afq<=1000000
def Sm.arg{M k i:Int}{s:Ty}{l:List Tm}(h:Sm M (.mk k i s l)):∀t∈l,Sm M t:=by
 intro t a;have b:=h.afu;have c:=h.afq;rw[Tm.dj] at b;simp only[ew,gR] at b;rw[Tm.cK] at c;exact⟨(Tm.hE h.ok).2.2.2.1 t a,b.2 t a,by have:=cV Tm.afq a;omega⟩
def Sm.idx{M k i:Int}{s:Ty}{l:List Tm}(h:Sm M (.mk k i s l)):0<=i/\i<=M:=by
 have a:=h.afu;rw[Tm.dj] at a;simp only[ew,j8] at a;exact⟨(Tm.hE h.ok).2.1,a.1⟩
theorem Sm.fr{M:Int}{t:Tm}(h:Sm M t)(a:0<=M):0<=t.fr/\t.fr<=M+1:=Tm.I6 t a h.ok h.afu
theorem Sm.mono{M N:Int}{t:Tm}(h:Sm M t)(hm:M<=N):Sm N t:=⟨h.ok,by
 have:∀t:Tm,t.afu M=true->t.afu N=true:=by
  intro t
  induction t using Tm.ind with
  |h k i s l b=>
   rw[Tm.dj,Tm.dj];simp only[ew,gR,j8]
   exactλ⟨d,c⟩=>⟨Zb,λx a=>b x a (c x a)⟩
 exact this t h.afu,h.afq⟩
def CR{M b:Int}(d:0<=b)(t:Tm):∀f,t.afu M=true->(t.up f b).afu (M+b)=true:=by
 induction t using Tm.ind with
 |h k i s l a=>
  intro f h;rw[Tm.dj] at h;simp only[ew,gR,j8] at h;rw[Tm.dV,Tm.dj];simp only[ew,gR,j8];refine⟨by split<;>omega,?_⟩;intro x c;obtain⟨y,hy,rfl⟩:=nj.1 c;exact a y hy _ (h.2 y hy)
def Sm.up{M f b:Int}{t:Tm}(h:Sm M t)(c:0<=f)(a:0<=b):Sm (M+b) (t.up f b):=
 ⟨by rw[Tm.re t f b c a];exact h.ok,CR a t f h.afu,by rw[Tm.jo];exact h.afq⟩
def K_{M:Int}(U:0<=M/\M<=500000000000):∀(n:Nat) (t:Tm) (p:Nat) (nh:List HC) (f b:Int),t.afq<=n->NR nh p t->Sm M t->0<=f->f+t.afq<=500000000000->0<=b->b<=400000000000->∃Q a,j7 n (some p) f b nh=some (some Q,a)/\Kp nh a/\NR a Q (t.up f b):=by
 intro n
 induction n with
 |zero=>intro t p nh f b h;have:=t.da;omega
 |succ n V=>
  intro t p nh f b hn w hs W z R A;obtain⟨x,B,m,C,D,E,e6,X,e8⟩:=w.inv;have Y:=hs.fr U.1;rw[j7];simp only[cO,cG,B,X,xX]
  by_cases r:t.fr<=f
  ·rw[cL r];exact⟨p,nh,rfl,Kp.refl _,by rw[Tm.L6 t f b hs.ok W r];exact w⟩
  ·rw[cJ r]
   by_cases S:b=0
   ·subst S;exact⟨p,nh,aae,Kp.refl _,by rw[Tm.oD];exact w⟩
   ·rw[cJ (by simpa using S)];cases t with
    |mk k i s l=>
     simp only[Tm.c8,Tm.dX,Tm.ds,Tm.cX] at m C D E;have T:=hs.idx;obtain⟨o1,o2,o3,o4,o5⟩:=Tm.hE hs.ok
     by_cases G:k=1
     ·subst G;have Z:=o1 rfl;subst Z;rw[cL (by rw[m];rfl)]
      have H:f<=i:=by rw[Tm.fr,cL rfl] at r;omega
      obtain⟨a,g1,g2,g3⟩:=lS (k:=1) (i:=i+b) (s:=s) (ps:=[]) (ts:=[]) (nh:=nh) .nil (by simp[cN]) Zb aae;refine⟨nh.length,a,?_,g2,?_⟩
      ·rw[m,C,D,dk Zb Zb,g1];rfl
      ·rw[Tm.dV,cL ⟨rfl,H⟩];exact g3
     ·rw[cJ (by rw[m];simpa using G)]
      have aa:1+cN Tm.afq l<=n+1:=by rw[Tm.cK] at hn;exact hn
      have hlen:=Tm.dH l;have I:=hs.afq;rw[Tm.cK] at I z;have ab:x.afp.length=l.length:=E.len;rw[cQ Zb];simp only[cM];have ad:=eN k
      obtain⟨v',a,g1,g2,g3⟩:=tU (F:=λj J=>qH λc d=>
        cH (il (some p) d) λo=>
        c0 (j7 n J (ep .i64 f o) b d) λe g=>
        fU (eZ c [e])<|some (.next ((fK c [e]),g))) (Tm.up (f+dr k) b) nh l (by
        intro t u q K j v L hq hv;have N:=hs.arg t u;have hm:=cV Tm.afq u;obtain⟨q',O,a1,a2,a3⟩:=V t q K (f+dr k) b Zb hq N Zb Zb R A;refine⟨q',O,?_,a2,a3⟩;simp only[mW,(NE.kp L).below B,cG,m];rw[dk Zb Zb,a1];simp only[cI];rw[di (by simpa using hv)]
        rfl) x.afp 0 nh [] [] (Kp.refl _) E .nil aaV
      rw[g1];simp only[cG,cR,mW];obtain⟨x2,c1⟩:=(NE.kp g2).get p x B;unfold fH;simp only[cG,c1]
      obtain⟨P,d1,d2,d3⟩:=lS (k:=k) (i:=i) (s:=s) (ps:=v') (ts:=l.map (Tm.up (f+dr k) b)) (nh:=a) (by simpa using g3) (by
       rw[gx,ig λx _=>Tm.jo x _ _];omega) Zb (by
       intro t u;obtain⟨y,hy,rfl⟩:=nj.1 u;have:=((hs.arg y hy).up (f:=f+dr k) (b:=b) Zb R).fr Zb
       omega)
      refine⟨a.length,P,?_,g2.trans d2,?_⟩
      ·rw[m,C,D,d1];rfl
      ·rw[Tm.dV,cJ (λh=>G h.1)];exact d3
def count_eq{M:Int}(P:0<=M/\M<=500000000000)(nh:List HC):∀(n:Nat) (t:Tm) (p:Nat) (a:Int),t.afq<=n->NR nh p t->Sm M t->0<=a->a+t.afq<=500000000000->kB n (some p) a nh=some (t.afw a:Int):=by
 intro n
 induction n with
 |zero=>intro t p a h;have:=t.da;omega
 |succ n C=>
  intro t p a hn D hs E o;obtain⟨x,z,j,A,F,q,Q,G,R⟩:=D.inv;rw[kB];simp only[cG,z,G,xX]
  by_cases r:t.fr<=a
  ·rw[cL r,Tm.Ei t a hs.ok E r];rfl
  ·rw[cJ r];cases t with
   |mk k i s l=>
    simp only[Tm.c8,Tm.dX,Tm.ds,Tm.cX] at j A F q;obtain⟨o1,o2,S,T,U⟩:=Tm.hE hs.ok
    by_cases v:k=1
    ·subst v;have H:=o1 rfl;subst H;rw[cL (by rw[j];rfl),Tm.dp,A];simp only[dS,cN]
     by_cases m:i=a
     ·rw[cL m,cL ⟨trivial,m⟩];rfl
     ·rw[cJ m,cJ (λh=>m h.2)];rfl
    ·rw[cJ (by rw[j];simpa using v)];have w:=hs.afq;rw[Tm.cK] at w o hn;have hlen:=Tm.dH l;have I:x.afp.length=l.length:=q.len;rw[cQ Zb];simp only[cM,cO];have J:=eN k
     have loop:∀(ts:List Tm) (ps:List (Option Nat)) (i c:Nat),(∀t∈ts,t∈l)->nE nh ps ts->c+cN Tm.afq ts<=1000000000->eg (λ(B:Int) (b:Option Nat)=>(λ(d:Int)=>
        cH (kB n b (a+dr k) nh) λe=>
        some ((.next (ep .i64 d e)):eK Int Int))) ps i (c:Int)=some (.inl ((c+cN (Tm.afw (a+dr k)) ts:Nat):Int)):=by
      intro ts
      induction ts with
      |nil=>intro ps i c _ h _;cases h;rfl
      |cons t ts y=>
       intro ps i c hm h K;cases h with
       |cons q1 L=>
        rw[cN] at K;have f:=hm t aae;have N:=cV Tm.afq f;have O:=Tm.e9 t (a+dr k);rw[dq];rw[C t _ _ Zb q1 (hs.arg t f) Zb Zb];simp only[cG];rw[dk Zb Zb];simp only[dt];have:=y _ (i+1) (c+t.afw (a+dr k)) (λu hu=>hm u (by simp[hu])) L Zb;rw[show((c+t.afw (a+dr k):Nat):Int)=(c:Int)+(t.afw (a+dr k):Int) by omega] at this;rw[this];simp only[cN,Ml]
     have:=loop l x.afp 0 0 (λt h=>h) q Zb;rw[show((0:Nat):Int)=0 from rfl] at this;have g:ep .i64 a (dr k)=a+dr k:=dk Zb Zb;simp only[I_ z,cG,j,g];rw[this];simp only[cG,cR,sZ];rw[Tm.dp,cJ (λh=>v h.1),sZ]
def AP{M N B:Int}(w:M<=B)(s:Tm)(hs:s.afu N=true)(t:Tm):∀n,0<=n->N+n+t.afq<=B->t.afu M=true->t.ok=true->(Tm.ei n t s).afu B=true:=by
 induction t using Tm.ind with
 |h k i ty l f=>
  intro n hn g d p;have j:=d;rw[Tm.dj] at d;simp only[ew,gR,j8] at d;obtain⟨o1,o2,z,q,A⟩:=Tm.hE p;rw[Tm.dQ]
  have c:∀(u:Tm) {a b:Int},a<=b->u.afu a=true->u.afu b=true:=by
   intro u
   induction u using Tm.ind with
   |h k i s l f=>
    intro a b m;rw[Tm.dj,Tm.dj];simp only[ew,gR,j8]
    exactλ⟨C,r⟩=>⟨Zb,λx e=>f x e m (r x e)⟩
  have D:1<=(Tm.mk k i ty l).afq:=Tm.da _
  by_cases o:k=1
  ·rw[cL o];unfold Tm.jO
   split
   ·exact c _ Zb (CR hn s 0 hs)
   ·split
    ·rw[Tm.dj];simp;omega
    ·exact c _ Zb j
  ·rw[cJ o,Tm.dj];simp only[ew,gR,j8];refine⟨Zb,?_⟩;intro x e;obtain⟨y,hy,rfl⟩:=nj.1 e;have v:=eN k;have hm:=cV Tm.afq hy;rw[Tm.cK] at g;exact f y hy (n+dr k) Zb Zb (d.2 y hy) (q y hy)
def put_eq{M N:Int}(hM:0<=M/\M<=100000000000)(hN:0<=N/\N<=100000000000)(s:Tm)(d:Sm N s):∀(n:Nat) (t:Tm) (p q:Nat) (nh:List HC) (a:Int),t.afq<=n->NR nh p t->NR nh q s->Sm M t->0<=a->a+t.afq<=100000000000->t.afq+t.afw a*s.afq<=100000000->∃E b,kM n (some p) a (some q) nh=some (some E,b)/\Kp nh b/\NR b E (Tm.ei a t s):=by
 intro n
 induction n with
 |zero=>intro t p q nh a h;have:=t.da;omega
 |succ n H=>
  intro t p q nh a hn X Y hs Z I z;obtain⟨x,J,w,K,L,O,e6,e7,e8⟩:=X.inv;rw[kM];simp only[cG,J,e7,xX]
  by_cases o:t.fr<=a
  ·rw[cL o];exact⟨p,nh,rfl,Kp.refl _,by rw[Tm.Jb s t a hs.ok Z o];exact X⟩
  ·rw[cJ o];cases t with
   |mk k i ty l=>
    simp only[Tm.c8,Tm.dX,Tm.ds,Tm.cX] at w K L O;have aa:=hs.idx;obtain⟨o1,o2,o3,P,o5⟩:=Tm.hE hs.ok
    by_cases G:k=1
    ·subst G;have hl:=o1 rfl;subst hl
     have ab:a<=i:=by rw[Tm.fr,cL rfl] at o;omega
     rw[cL (by rw[w];rfl),K];simp only[dS];rw[Tm.dQ,cL rfl];unfold Tm.jO
     by_cases e:i=a
     ·rw[cL e,cL e];have A:=d.afq;obtain⟨E,b,g1,g2,g3⟩:=K_ (M:=N) Zb FU s q nh 0 a (by rw[dn];omega) Y d Zb Zb Z Zb;exact⟨E,b,by rw[g1];rfl,g2,g3⟩
     ·rw[cJ e,cJ e,cL Zb];obtain⟨b,g1,g2,g3⟩:=lS (k:=1) (i:=i-1) (s:=ty) (ps:=[]) (ts:=[]) (nh:=nh) .nil (by simp[cN]) Zb aae;refine⟨nh.length,b,?_,g2,?_⟩
      ·rw[w,L,dF Zb Zb,g1];rfl
      ·have hz:ty=.mk 0 []:=by
        have:=hs.ok;rw[Tm.eu] at this;simp only[ew,Tm.node] at this
        have h4:ty.kV=true:=by simpa[f_] using this.1.2
        exact(Ty.ik ty).1 h4
       rw[<-hz];exact g3
    ·rw[cJ (by rw[w];simpa using G)];have A:=hs.afq;rw[Tm.cK] at A I hn;have hlen:=Tm.dH l;have ad:x.afp.length=l.length:=O.len;rw[cQ Zb];simp only[cM,cO];have ae:=eN k;rw[Tm.dp,cJ (λh=>G h.1),sZ,Tm.cK] at z
     have Q:∀t∈l,t.afq+t.afw (a+dr k)*s.afq<=100000000:=by
      intro t c;have o:=cV Tm.afq c;have e:=cV (Tm.afw (a+dr k)) c;have h3:=NX s.afq e;omega
     obtain⟨v',b,g1,g2,g3⟩:=tU (F:=λj R=>qH λf g=>
       cH (il (some p) g) λB=>
       c0 (kM n R (ep .i64 a B) (some q) g) λm u=>
       fU (eZ f [m])<|some (.next ((fK f [m]),u))) (λt=>Tm.ei (a+dr k) t s) nh l (by
       intro t c r S j v C T hv;have U:=hs.arg t c;have hm:=cV Tm.afq c;obtain⟨q',V,a1,a2,a3⟩:=H t r q S (a+dr k) Zb T ((NE.kp C).node _ _ Y) U Zb Zb (Q t c);refine⟨q',V,?_,a2,a3⟩;simp only[mW,(NE.kp C).below J,cG,w];rw[dk Zb Zb,a1];simp only[cI];rw[di (by simpa using hv)]
       rfl) x.afp 0 nh [] [] (Kp.refl _) O .nil aaV
     rw[g1];simp only[cG,cR,mW];obtain⟨x2,c1⟩:=(NE.kp g2).get p x J;unfold fH;simp only[cG,c1]
     have D:∀t∈l,(Tm.ei (a+dr k) t s).afq<=t.afq+t.afw (a+dr k)*s.afq:=by
      intro t c;have:=Tm.ky s t (a+dr k) (P t c);omega
     obtain⟨W,d1,d2,d3⟩:=lS (k:=k) (i:=i) (s:=ty) (ps:=v') (ts:=l.map (λt=>Tm.ei (a+dr k) t s)) (nh:=b) (by simpa using g3) (by
      rw[gx];have o:=gn D
      have e:∀l:List Tm,cN (λt=>t.afq+t.afw (a+dr k)*s.afq) l=cN Tm.afq l+cN (Tm.afw (a+dr k)) l*s.afq:=by
       intro l
       induction l with
       |nil=>simp[cN]|cons t l H=>simp only[cN,H,zy];omega
      rw[e] at o
      omega) Zb (by
      intro t c;obtain⟨y,hy,rfl⟩:=nj.1 c;have hm:=cV Tm.afq hy;have:=Tm.I6 (Tm.ei (a+dr k) y s) (M:=M+N+(a+dr k)+y.afq) Zb (Tm.vn s d.ok y _ Zb (P y hy)) (AP (M:=M) Zb s d.afu y _ Zb Zb (hs.arg y hy).afu (P y hy))
      omega)
     refine⟨b.length,W,?_,g2.trans d2,?_⟩
     ·rw[w,K,L,d1];rfl
     ·rw[Tm.dQ,cJ G];exact d3
def nq(a b:Int):dC a b=decide (a=b):=by grind[dC]
def P3{α:Type}{l:List α}(h:l.length=1):∃a,l=[a]:=by
 match l,h with|[a],_=>exact⟨a,rfl⟩
def OC{α:Type}{l:List α}(h:l.length=2):∃a b,l=[a,b]:=by
 match l,h with|[a,b],_=>exact⟨a,b,rfl⟩
def Tg{α:Type}{l:List α}(h:l.length=3):∃a b c,l=[a,b,c]:=by
 match l,h with|[a,b,c],_=>exact⟨a,b,c,rfl⟩
def nE.inv1{nh:List HC}{ps:List (Option Nat)}{a:Tm}(h:nE nh ps [a]):∃p,ps=[some p]/\NR nh p a:=by
 cases h with|cons b c=>cases c;exact⟨_,rfl,b⟩
def nE.inv2{nh:List HC}{ps:List (Option Nat)}{a b:Tm}(h:nE nh ps [a,b]):∃p q,ps=[some p,some q]/\NR nh p a/\NR nh q b:=by
 cases h with|cons c d=>obtain⟨q,rfl,e⟩:=d.inv1;exact⟨_,q,rfl,c,e⟩
def nE.Cw{nh:List HC}{ps:List (Option Nat)}{a b c:Tm}(h:nE nh ps [a,b,c]):∃p q r,ps=[some p,some q,some r]/\NR nh p a/\NR nh q b/\NR nh r c:=by
 cases h with|cons d e=>obtain⟨q,r,rfl,f,g⟩:=e.inv2;exact⟨_,q,r,rfl,d,f,g⟩
def nE.L2{nh:List HC}{ps:List (Option Nat)}(h:nE nh ps []):ps=[]:=by cases h;rfl
def Tm.lG{k i:Int}{s:Ty}{l:List Tm}(h:(Tm.mk k i s l).ok=true):(l.length:Int)=eC k:=(Tm.hE h).2.2.2.2
def Tm.WB{i:Int}{s:Ty}{l:List Tm}(h:(Tm.mk 3 i s l).ok=true):∃a b,l=[a,b]:=OC (by have:=Tm.lG h;have e:eC 3=2:=rfl;omega)
def Tm.WD{i:Int}{s:Ty}{l:List Tm}(h:(Tm.mk 6 i s l).ok=true):∃a b c,l=[a,b,c]:=Tg (by have:=Tm.lG h;have e:eC 6=3:=rfl;omega)
def Tm.XH{i:Int}{s:Ty}{l:List Tm}(h:(Tm.mk 9 i s l).ok=true):∃a b c,l=[a,b,c]:=Tg (by have:=Tm.lG h;have e:eC 9=3:=rfl;omega)
def Tm.Zg{i:Int}{s:Ty}{l:List Tm}(h:(Tm.mk 2 i s l).ok=true):∃a,l=[a]:=P3 (by have:=Tm.lG h;have e:eC 2=1:=rfl;omega)
def Tm.PL{k i:Int}{s:Ty}{l:List Tm}(b:k=11\/k=12)(h:(Tm.mk k i s l).ok=true):∃a,l=[a]:=P3 (by
 have:=Tm.lG h;rcases b with rfl|rfl
 ·have e:eC 11=1:=rfl;omega
 ·have e:eC 12=1:=rfl;omega)
def Tm.S0{i:Int}{s:Ty}{l:List Tm}(h:(Tm.mk 10 i s l).ok=true):∃a b,l=[a,b]:=OC (by have:=Tm.lG h;have e:eC 10=2:=rfl;omega)
def Tm.U_{k i:Int}{s:Ty}{l:List Tm}(a:k=4\/k=7)(h:(Tm.mk k i s l).ok=true):l=[]:=Df (by
 have:=Tm.lG h;rcases a with rfl|rfl
 ·have e:eC 4=0:=rfl;omega
 ·have e:eC 7=0:=rfl;omega)
def Tm.Y0{i:Int}{s:Ty}{l:List Tm}(h:(Tm.mk 5 i s l).ok=true):∃a,l=[a]:=P3 (by have:=Tm.lG h;have e:eC 5=1:=rfl;omega)
def Tm.ZD{i:Int}{s:Ty}{l:List Tm}(h:(Tm.mk 8 i s l).ok=true):∃a b,l=[a,b]:=OC (by have:=Tm.lG h;have e:eC 8=2:=rfl;omega)
theorem Tm.c9{k i:Int}{s:Ty}{l:List Tm}(h:(Tm.mk k i s l).ok=true):∀t∈l,t.ok=true:=(Tm.hE h).2.2.2.1
inductive Tm.Rd:Tm->Prop
 |app {i s i' s' b a}:Tm.Rd (.mk 3 i s [.mk 2 i' s' [b],a])|zero {k ko i s i' s' b st}:(k=6/\ko=4\/k=9/\ko=7)->Tm.Rd (.mk k i s [b,st,.mk ko i' s' []])|succ {i s i' s' b st n}:Tm.Rd (.mk 6 i s [b,st,.mk 5 i' s' [n]])|cons {i s i' s' b st h t}:Tm.Rd (.mk 9 i s [b,st,.mk 8 i' s' [h,t]])|proj {k i s i' s' a b}:(k=11\/k=12)->Tm.Rd (.mk k i s [.mk 10 i' s' [a,b]])
def Tm.wE{t:Tm}(d:t.ok=true)(h:t.root=true):t.Rd:=by
 cases t with
 |mk k i s l=>
  unfold Tm.root at h;simp only[mu,ew,j8] at h;rcases h with((⟨rfl,h⟩|⟨rfl,h⟩)|⟨rfl,h⟩)|⟨e,h⟩
  ·obtain⟨a,b,rfl⟩:=Tm.WB d;cases a with
   |mk k' f g j=>
    have e:k'=2:=by simpa[Tm.kd] using h
    subst e;obtain⟨q,rfl⟩:=Tm.Zg (Tm.c9 d (.mk 2 f g j) aae);exact .app
  ·obtain⟨a,b,c,rfl⟩:=Tm.WD d;cases c with
   |mk k' f g j=>
    have e:k'=4\/k'=5:=by simpa[Tm.kd] using h
    have o:=Tm.c9 d (.mk k' f g j) aae;rcases e with rfl|rfl
    ·rw[Tm.U_ (.inl rfl) o];exact .zero (.inl ⟨rfl,rfl⟩)
    ·obtain⟨n,rfl⟩:=Tm.Y0 o;exact .succ
  ·obtain⟨a,b,c,rfl⟩:=Tm.XH d;cases c with
   |mk k' f g j=>
    have e:k'=7\/k'=8:=by simpa[Tm.kd] using h
    have o:=Tm.c9 d (.mk k' f g j) aae;rcases e with rfl|rfl
    ·rw[Tm.U_ (.inr rfl) o];exact .zero (.inr ⟨rfl,rfl⟩)
    ·obtain⟨n,m,rfl⟩:=Tm.ZD o;exact .cons
  ·obtain⟨a,rfl⟩:=Tm.PL e d;cases a with
   |mk k' f g j=>
    have p:k'=10:=by simpa[Tm.kd] using h
    subst p;obtain⟨a,b,rfl⟩:=Tm.S0 (Tm.c9 d (.mk 10 f g j) aae);exact .proj e
def Ch{nh:List HC}{p:Nat}{t:Tm}(v:NR nh p t)(j:t.ok=true):m9 (some p) nh=some t.root:=by
 obtain⟨x,w,n,A,B,f,C,D,E⟩:=v.inv;unfold m9;simp only[cG,w,cO];cases t with
 |mk k i s l=>
  simp only[Tm.c8,Tm.cX] at n f;rw[n];unfold Tm.root
  by_cases o:k=3
  ·subst o;obtain⟨a,b,rfl⟩:=Tm.WB j;obtain⟨pa,pb,d,g,q⟩:=f.inv2;obtain⟨y,f1,f2,_⟩:=g.inv;rw[cL Zk,d];simp[dc,f1,f2,Tm.kd,nq]
  ·rw[cJ (by simpa using o)]
   by_cases r:k=6
   ·subst r;obtain⟨a,b,c,rfl⟩:=Tm.WD j;obtain⟨pa,pb,z,d,g,q,m⟩:=f.Cw;obtain⟨y,f1,f2,_⟩:=m.inv;rw[cL Zk,d];simp only[fD,iU,fL,cG,f1,f2,Tm.kd,dS]
    by_cases h:c.afo=4
    ·simp[h]
    ·simp[h,nq]<;>exact Ga.2 Iff.rfl
   ·rw[cJ (by simpa using r)]
    by_cases u:k=9
    ·subst u;obtain⟨a,b,c,rfl⟩:=Tm.XH j;obtain⟨pa,pb,z,d,g,q,m⟩:=f.Cw;obtain⟨y,f1,f2,_⟩:=m.inv;rw[cL Zk,d];simp only[fD,iU,fL,cG,f1,f2,Tm.kd,dS]
     by_cases h:c.afo=7
     ·simp[h]
     ·simp[h,nq]<;>exact Ga.2 Iff.rfl
    ·rw[cJ (by simpa using u)]
     by_cases e:k=11\/k=12
     ·obtain⟨a,rfl⟩:=Tm.PL e j;obtain⟨pa,d,g⟩:=f.inv1;obtain⟨y,f1,f2,_⟩:=g.inv;rw[cL (by rcases e with rfl|rfl<;>rfl),d];simp only[dc,fL,cG,f1,f2,Tm.kd];rcases e with rfl|rfl<;>simp[nq]<;>exact Ga.2 Iff.rfl
     ·grind[gY,dS]
theorem jt:∀(l:List Tm) (f:Tm),(gA f l).afq=f.afq+cN Tm.afq l+l.length
 |[],f=>by simp[gA,cN]|a::l,f=>by
  rw[gA,jt l,Tm.cK]
  grind[cN]
def Bp{M:Int}(C:0<=M/\M<=500000000000):∀(ts:List Tm) (ps:List (Option Nat)) (nh:List HC) (b:Nat) (f:Tm),nE nh ps ts->NR nh b f->(∀t∈ts,0<=t.fr/\t.fr<=M)->0<=f.fr/\f.fr<=M->f.afq+cN Tm.afq ts+ts.length<=10000000->∃c a,uq (some b) ps nh=some (some c,a)/\Kp nh a/\NR a c (gA f ts):=by
 intro ts ps nh b f g h d j hn;have hlen:ps.length=ts.length:=g.len;unfold uq;rw[cQ Zb];simp only[cM,cO]
 have loop:∀(ts:List Tm) (ps:List (Option Nat)) (i:Nat) (nh:List HC) (b:Nat) (f:Tm),nE nh ps ts->NR nh b f->(∀t∈ts,0<=t.fr/\t.fr<=M)->0<=f.fr/\f.fr<=M->f.afq+cN Tm.afq ts+ts.length<=10000000->∃c a,eg (λ(v:Int) (o:Option Nat)=>(qH λ(v171:Option Nat) (l:List HC)=>
    c0 (lU 3 0 (Ty.mk 0 []) [v171,o] l) λm e=>some ((.next (m,e)):eK ((Option Nat)×List HC) ((Option Nat)×List HC)))) ps i (some b,nh)=some (.inl (some c,a))/\Kp nh a/\NR a c (gA f ts):=by
  intro ts
  induction ts with
  |nil=>
   intro ps i nh b f g h _ _ _;cases g;exact⟨b,nh,rfl,Kp.refl _,h⟩
  |cons t ts w=>
   intro ps i nh b f g h d j hn;cases g with
   |cons x y=>
    rename_i p ps;simp only[cN,hQ] at hn;have D:=d t aae
    obtain⟨q,a1,a2,a3⟩:=lS (k:=3) (i:=0) (s:=.mk 0 []) (ps:=[some b,some p]) (ts:=[f,t]) (nh:=nh) (.cons h (.cons x .nil)) (by simp[cN];omega) Zb (by
     intro u hu;simp only[gT,lZ,kv] at hu
     rcases hu with rfl|rfl<;>omega)
    have r:=NE.kp a2
    have n:0<=(Tm.mk 3 0 (.mk 0 []) [f,t]).fr/\(Tm.mk 3 0 (.mk 0 []) [f,t]).fr<=M:=by grind[Tm.fr,Tm.Ab,mJ]
    obtain⟨c,a,z,A,B⟩:=w ps (i+1) q nh.length (.mk 3 0 (.mk 0 []) [f,t]) (r.list y) a3 (λu hu=>d u (by simp[hu])) n (by
     rw[Tm.cK];simp only[cN];omega)
    refine⟨c,a,?_,a2.trans A,B⟩;rw[dq];simp only[mW,a1,cI,cG,dt];exact z
 obtain⟨c,a,a1,a2,a3⟩:=loop ts ps 0 nh b f g h d j hn;rw[a1];exact⟨c,a,rfl,a2,a3⟩
def Ev{α:Type}(a:α):du [a] (eH .i64 (dT [a]) 1)=some a:=by
 have:eH .i64 (dT [a]) 1=0:=by simp only[dK,hQ,o7];decide
 rw[this];rfl
def D5{α:Type}(a b:α):du [a,b] (eH .i64 (dT [a,b]) 1)=some b:=by
 have:eH .i64 (dT [a,b]) 1=1:=by simp only[dK,hQ,o7];decide
 rw[this];rfl
def wH{M:Int}(hM:0<=M/\M<=90000000000){nh:List HC}{p:Nat}{t:Tm}(hr:NR nh p t)(hs:Sm M t)(hn:t.afq<=8192)(F:t.root=true):∃R l,j6 (some p) nh=some (some R,l)/\Kp nh l/\NR l R t.dm:=by
 have U:=Tm.wE hs.ok F;obtain⟨x,V,g,S,T,w,e6,e7,e8⟩:=hr.inv;unfold j6;simp only[cG,V];have e:∀u:Tm,Sm M u->0<=u.fr/\u.fr<=M+1:=λu hu=>hu.fr hM.1;cases U with
 |app=>
  rename_i i s z A b a;simp only[Tm.c8,Tm.cX] at g w;obtain⟨pf,pa,B,W,X⟩:=w.inv2;obtain⟨y,f1,f2,f3,f4,f5,_⟩:=W.inv;simp only[Tm.c8,Tm.cX] at f2 f5;obtain⟨pb,C,D⟩:=f5.inv1;have Y:=hs.arg (.mk 2 z A [b]) aae;have Z:=hs.arg a aae;have m:=Y.arg b aae;rw[Tm.cK] at hn;simp only[cN,Tm.cK] at hn;have af:=Tm.e9 b 0;have hmul:b.afw 0*a.afq<=8192*8192:=BA Zb Zb;obtain⟨R,l,g1,g2,g3⟩:=put_eq (M:=M) (N:=M) Zb Zb a Z FU b pb pa nh 0 (by rw[dn];omega) D X m Zb Zb Zb;refine⟨R,l,?_,g2,g3⟩;rw[g,cL Zk,B];simp only[dc,ef,fL,iU,cG,f1,C,g1,cI]
 |proj hk=>
  rename_i k i s z A a b;simp only[Tm.c8,Tm.cX] at g w;obtain⟨pf,B,W⟩:=w.inv1;obtain⟨y,f1,f2,f3,f4,f5,_⟩:=W.inv;simp only[Tm.c8,Tm.cX] at f2 f5;obtain⟨pa,pb,C,X,D⟩:=f5.inv2;rcases hk with rfl|rfl
  ·refine⟨pa,nh,?_,Kp.refl _,by simpa[Tm.dm] using X⟩;rw[g,cJ Zk,cL Zk,B];simp only[dc,fL,cG,f1,C]
  ·refine⟨pb,nh,?_,Kp.refl _,by simpa[Tm.dm] using D⟩;rw[g,cJ Zk,cJ Zk,cL Zk,B];simp only[dc,ef,fL,iU,cG,f1,C]
 |zero hk=>
  rename_i k ko i s z A b st;simp only[Tm.c8,Tm.cX] at g w;obtain⟨pb,ps,po,B,D,j,L⟩:=w.Cw;obtain⟨y,f1,f2,f3,f4,f5,_⟩:=L.inv;simp only[Tm.c8,Tm.cX] at f2 f5;have O:=f5.L2;refine⟨pb,nh,?_,Kp.refl _,?_⟩
  ·have f:k≠3/\k≠11/\k≠12:=Zb
   rw[g,cJ (by simpa using f.1),cJ (by simpa using f.2.1),cJ (by simpa using f.2.2),B];simp only[dc,ef,fD,fL,iU,cG,f1,O];rfl
  ·have:(Tm.mk k i s [b,st,.mk ko z A []]).dm=b:=by
    have f:k≠3/\k≠11/\k≠12:=Zb
    simp[Tm.dm,f.1,f.2.1,f.2.2]
   rw[this];exact D
 |succ=>
  rename_i i s z A b st n;simp only[Tm.c8,Tm.cX,Tm.dX,Tm.ds] at g S T w;obtain⟨pb,ps,po,B,D,j,L⟩:=w.Cw;obtain⟨y,f1,f2,f3,f4,f5,_⟩:=L.inv;simp only[Tm.c8,Tm.cX] at f2 f5;obtain⟨P,o,q⟩:=f5.inv1;have m:=hs.arg b aae;have G:=hs.arg st aae;have E:=hs.arg (.mk 5 z A [n]) aae;have H:=E.arg n aae;rw[Tm.cK] at hn;simp only[cN,Tm.cK] at hn;have Q:=hs.idx;have b1:=e b m;have b2:=e st G;have b3:=e n H
  obtain⟨I,a1,a2,a3⟩:=lS (k:=6) (i:=i) (s:=s) (ps:=[some pb,some ps,some P]) (ts:=[b,st,n]) (nh:=nh) (.cons D (.cons j (.cons q .nil))) (by simp[cN];omega) Zb (by
   intro u hu;simp only[gT,lZ,kv] at hu
   rcases hu with rfl|rfl|rfl<;>omega)
  have d:=NE.kp a2;obtain⟨c,fc⟩:=d.get _ _ f1;obtain⟨p2,J,d1,d2,d3⟩:=Bp (M:=M+1) Zb [n] [some P] I ps st (.cons (d.node _ _ q) .nil) (d.node _ _ j) (by intro u hu;simp only[gT,lZ,kv] at hu;subst hu;omega) Zb (by simp[cN];omega)
  have r:0<=(Tm.mk 6 i s [b,st,n]).fr/\(Tm.mk 6 i s [b,st,n]).fr<=M+1:=by
   rw[Tm.fr,cJ Zk,cJ Zk];simp only[Tm.Ab,mJ];omega
  have v:0<=(gA st [n]).fr/\(gA st [n]).fr<=M+1:=by
   simp only[gA];rw[Tm.fr,cJ Zk,cJ Zk];simp only[Tm.Ab,mJ];omega
  have aa:(Tm.mk 6 i s [b,st,n]).afq<=10000:=by rw[Tm.cK];simp only[cN];omega
  have ab:(gA st [n]).afq<=10000:=by rw[jt];simp only[cN,hQ,o7];omega
  obtain⟨p3,K,g1,g2,g3⟩:=Bp (M:=M+1) Zb [.mk 6 i s [b,st,n]] [some nh.length] J p2 (gA st [n]) (.cons ((NE.kp d2).node _ _ a3) .nil) d3 (by intro u hu;simp only[gT,lZ,kv] at hu;subst hu;exact r) v (by simp only[cN,hQ,o7];omega);refine⟨p3,K,?_,(a2.trans d2).trans g2,?_⟩
  ·rw[g,cJ Zk,cJ Zk,cJ Zk,B];simp only[dc,ef,fD,fL,iU,cG,f1,o];rw[cJ (by simp only[dK,hQ,o7];decide),Ev];unfold fH;simp only[cG,V,g,S,T,a1,cI,fc,o,d1,g1]
  ·have:(Tm.mk 6 i s [b,st,.mk 5 z A [n]]).dm=gA (gA st [n]) [.mk 6 i s [b,st,n]]:=by simp[Tm.dm,gA]
   rw[this];exact g3
 |cons=>
  rename_i i s z A b st h n;simp only[Tm.c8,Tm.cX,Tm.dX,Tm.ds] at g S T w;obtain⟨pb,ps,po,B,D,j,L⟩:=w.Cw;obtain⟨y,f1,f2,f3,f4,f5,_⟩:=L.inv;simp only[Tm.c8,Tm.cX] at f2 f5;obtain⟨ph,P,o,ad,q⟩:=f5.inv2;have m:=hs.arg b aae;have G:=hs.arg st aae;have E:=hs.arg (.mk 8 z A [h,n]) aae;have H:=E.arg n aae;have ae:=E.arg h aae;rw[Tm.cK] at hn;simp only[cN,Tm.cK] at hn;have Q:=hs.idx;have b1:=e b m;have b2:=e st G;have b3:=e n H;have b4:=e h ae
  obtain⟨I,a1,a2,a3⟩:=lS (k:=9) (i:=i) (s:=s) (ps:=[some pb,some ps,some P]) (ts:=[b,st,n]) (nh:=nh) (.cons D (.cons j (.cons q .nil))) (by simp[cN];omega) Zb (by
   intro u hu;simp only[gT,lZ,kv] at hu
   rcases hu with rfl|rfl|rfl<;>omega)
  have d:=NE.kp a2;obtain⟨c,fc⟩:=d.get _ _ f1;obtain⟨p2,J,d1,d2,d3⟩:=Bp (M:=M+1) Zb [h,n] [some ph,some P] I ps st (.cons (d.node _ _ ad) (.cons (d.node _ _ q) .nil)) (d.node _ _ j) (by intro u hu;simp only[gT,lZ,kv] at hu;rcases hu with rfl|rfl<;>omega) Zb (by simp[cN];omega)
  have r:0<=(Tm.mk 9 i s [b,st,n]).fr/\(Tm.mk 9 i s [b,st,n]).fr<=M+1:=by
   rw[Tm.fr,cJ Zk,cJ Zk];simp only[Tm.Ab,mJ];omega
  have v:0<=(gA st [h,n]).fr/\(gA st [h,n]).fr<=M+1:=by
   simp only[gA];rw[Tm.fr,cJ Zk,cJ Zk];simp only[Tm.Ab];rw[Tm.fr,cJ Zk,cJ Zk];simp only[Tm.Ab,mJ];omega
  have aa:(Tm.mk 9 i s [b,st,n]).afq<=10000:=by rw[Tm.cK];simp only[cN];omega
  have ab:(gA st [h,n]).afq<=10000:=by rw[jt];simp only[cN,hQ,o7];omega
  obtain⟨p3,K,g1,g2,g3⟩:=Bp (M:=M+1) Zb [.mk 9 i s [b,st,n]] [some nh.length] J p2 (gA st [h,n]) (.cons ((NE.kp d2).node _ _ a3) .nil) d3 (by intro u hu;simp only[gT,lZ,kv] at hu;subst hu;exact r) v (by simp only[cN,hQ,o7];omega);refine⟨p3,K,?_,(a2.trans d2).trans g2,?_⟩
  ·rw[g,cJ Zk,cJ Zk,cJ Zk,B];simp only[dc,ef,fD,fL,iU,cG,f1,o];rw[cJ (by simp only[dK,hQ,o7];decide),D5];unfold fH;simp only[cG,V,g,S,T,a1,cI,fc,o,d1,g1]
  ·have:(Tm.mk 9 i s [b,st,.mk 8 z A [h,n]]).dm=gA (gA st [h,n]) [.mk 9 i s [b,st,n]]:=by simp[Tm.dm,gA]
   rw[this];exact g3
def xp:∀(n:Nat) (t:Ty),t.afq<=n->t.afq<=1000000000->mg n t=some t:=by
 intro n
 induction n with
 |zero=>intro t h;have:=t.da;omega
 |succ n a=>
  intro t h b;cases t with
  |mk k l=>
   rw[Ty.cK] at h b;have e:=Ty.dH l;rw[mg];simp only[Ty.cX,Ty.c8,cO,cQ (l:=l) Zb,cM];rw[eW id l 0 [] aaV]
   ·simp
   ·intro j x v c d;have:=cV Ty.afq c;rw[a x Zb Zb];simp[di (l:=v) (m:=[x]) (by simpa using d)]
def jS{t:Ty}(h:t.afq<=1000000000):mg FU t=some t:=xp FU t (by rw[dn];exact h) h
def Ty.pd{k i:Int}{s:Ty}{n:Nat}(h:Tm.node k i s n=true):s.afq<=64:=by
 unfold Tm.node at h;simp only[ew] at h;have a:=h.2
 by_cases b:f_ k=true
 ·rw[cL b] at a;simp only[j8] at a;unfold Ty.err at a
  split at a
  ·split at a
   ·omega
   ·omega
  ·omega
 ·rw[cJ b] at a;rw[(Ty.ik s).1 a,Ty.cK];simp[cN]
def Ma{M:Int}(C:0<=M/\M<=500000000000):∀(n:Nat) (t:Tm) (nh:List HC),t.afq<=n->Sm M t->∃p a,qm n t nh=some (some p,a)/\Kp nh a/\NR a p t:=by
 intro n
 induction n with
 |zero=>intro t nh h;have:=t.da;omega
 |succ n D=>
  intro t nh h hs;cases t with
  |mk k i s l=>
   have m:=hs.afq;have A:=hs.idx;rw[Tm.cK] at h m;have hlen:=Tm.dH l;rw[qm];simp only[Tm.cX,Tm.c8,Tm.dX,Tm.ds,cO,cQ (l:=l) Zb,cM]
   have loop:∀(ts:List Tm) (i:Nat) (nh:List HC) (v:List (Option Nat)) (us:List Tm),(∀t∈ts,t∈l)->nE nh v us->v.length+ts.length<=1000000->∃e a,eg (λ(B:Int) (f:Tm)=>(qH λ(b:(List (Option Nat))) (g:List HC)=>
      c0 (qm n f g) λc d=>
      fU (eZ b [c])<|some ((.next ((fK b [c]),d)):eK ((List (Option Nat))×List HC) ((Option Nat)×List HC)))) ts i (v,nh)=some (.inl (e,a))/\Kp nh a/\nE a e (us++ts):=by
    intro ts
    induction ts with
    |nil=>intro i nh v us _ o _;exact⟨v,nh,rfl,Kp.refl _,by simpa using o⟩|cons t ts q=>
     intro i nh v us hm o E;simp only[hQ] at E;have j:=hm t aae;have F:=cV Tm.afq j;obtain⟨p,r,a1,a2,a3⟩:=D t nh Zb (hs.arg t j);obtain⟨e,a,w,x,y⟩:=q (i+1) r (v++[some p]) (us++[t]) (λu hu=>hm u (by simp[hu])) (((NE.kp a2).list o).append (.cons a3 .nil)) aaV;refine⟨e,a,?_,a2.trans x,by simpa using y⟩;rw[dq];simp only[mW,a1,cI];rw[di aaV];simp only[cM,ec,cG,dt];exact w
   obtain⟨e,a,a1,a2,a3⟩:=loop l 0 nh [] [] (λt h=>h) .nil aaV;rw[a1];simp only[cG,cR,mW]
   obtain⟨z,w,x,y⟩:=lS (k:=k) (i:=i) (s:=s) (ps:=e) (ts:=l) (nh:=a) (by simpa using a3) Zb Zb (by
    intro t G;have:=(hs.arg t G).fr C.1
    omega)
   exact⟨a.length,z,by rw[w];rfl,a2.trans x,y⟩
def Fo{M:Int}(nh:List HC):∀(n:Nat) (t:Tm) (p:Nat),t.afq<=n->Sm M t->NR nh p t->iy n (some p) nh=some t:=by
 intro n
 induction n with
 |zero=>intro t p h;have:=t.da;omega
 |succ n w=>
  intro t p h hs y;obtain⟨x,z,m,o,q,f,F,G,H⟩:=y.inv;cases t with
  |mk k i s l=>
   simp only[Tm.c8,Tm.cX,Tm.dX,Tm.ds] at m o q f;have g:=hs.afq;rw[Tm.cK] at h g;have hlen:=Tm.dH l;have A:x.afp.length=l.length:=f.len;have c:=hs.ok;rw[Tm.eu,ew] at c;have B:=Ty.pd c.1;rw[iy];simp only[cG,z,m,o,q,cO,cQ (l:=x.afp) Zb,cM];rw[jS Zb];simp only[cG]
   have loop:∀(ts:List Tm) (ps:List (Option Nat)) (i:Nat) (v:List Tm),(∀t∈ts,t∈l)->nE nh ps ts->v.length+ts.length<=1000000->eg (λ(r:Int) (d:Option Nat)=>(λ(a:List Tm)=>
      cH (iy n d nh) λb=>
      fU (eZ a [b])<|some ((.next (fK a [b])):eK (List Tm) Tm))) ps i v=some (.inl (v++ts)):=by
    intro ts
    induction ts with
    |nil=>intro ps i v _ h _;cases h;simp
    |cons t ts j=>
     intro ps i v hm h C;simp only[hQ] at C;have e:=hm t aae;have D:=cV Tm.afq e;cases h with
     |cons q1 E=>
      rw[dq,w t _ Zb (hs.arg t e) q1];simp only[cG];rw[di aaV];simp only[cM,cG,dt];rw[j _ (i+1) (fK v [t]) (λu hu=>hm u (by simp[hu])) E (by rw[Fj];simp;omega)];simp
   rw[loop l x.afp 0 [] (λt h=>h) f aaV];simp
mutual
def NR.TF{nh:List HC}:∀{p:Nat} {t u:Tm},NR nh p t->NR nh p u->t=u
 |_,_,_,.mk (x:=x) a b _ _ _,.mk (x:=y) g1 g2 _ _ _=>by
  rw[a] at g1;obtain rfl:=hZ g1;rw[nE.TF b g2]
def nE.TF{nh:List HC}:∀{ps:List (Option Nat)} {ts us:List Tm},nE nh ps ts->nE nh ps us->ts=us
 |_,_,_,.nil,.nil=>rfl|_,_,_,.cons a b,.cons g1 g2=>by rw[NR.TF a g1,nE.TF b g2]
end
def NE.flag{nh:List HC}{p:Nat}{t:Tm}{x:dW}(w:NR nh p t)(r:HC.c_ nh p=some x)(g:t.nf=true):NE nh (kY nh p (HC.dZ {x with normal:=true})):=by
 have v:=HC.dw r;have j:=(qR.1 v).1
 have e:HC.c_ (kY nh p (HC.dZ {x with normal:=true})) p=some {x with normal:=true}:=by
  unfold HC.c_ kY;simp[j]
 have a:∀q,q≠p->(kY nh p (HC.dZ {x with normal:=true}))[q]?=nh[q]?:=by
  intro q c;unfold kY;rw[Pp (λh=>c h.symm)]
 have d:∀q y,HC.c_ nh q=some y->∃b,HC.c_ (kY nh p (HC.dZ {x with normal:=true})) q=some {y with normal:=b}/\(b=true->y.normal=true\/q=p):=by
  intro q y hy
  by_cases c:q=p
  ·subst c;rw[r] at hy;obtain rfl:=hZ hy;exact⟨true,e,λ_=>.inr rfl⟩
  ·refine⟨y.normal,?_,λh=>.inl h⟩;have:=a q c;unfold HC.c_ at hy|-;rw[this];exact hy
 have key:∀n,(∀q u,u.afq<=n->NR nh q u->NR (kY nh p (HC.dZ {x with normal:=true})) q u):=by
  intro n
  induction n with
  |zero=>intro q u h;have:=u.da;omega
  |succ n z=>
   intro q u hu c;obtain⟨y,A,B,C,D,E,F,G,H⟩:=c.inv;obtain⟨b,f1,f2⟩:=d q y A
   have f:∀(ts:List Tm) (ps:List (Option Nat)),(∀t∈ts,t.afq<=n)->nE nh ps ts->nE (kY nh p (HC.dZ {x with normal:=true})) ps ts:=by
    intro ts
    induction ts with
    |nil=>intro ps _ h;cases h;exact .nil
    |cons t ts m=>
     intro ps hm h;cases h with
     |cons g1 g2=>exact .cons (z _ _ (hm t aae) g1) (m _ (λu hu=>hm u (by simp[hu])) g2)
   refine NR.of f1 B C D (f _ _ ?_ E) F G ?_
   ·intro t I;cases u with
    |mk k i s l=>
     rw[Tm.cK] at hu;have:=cV Tm.afq I;simp only[Tm.cX] at this;omega
   ·intro J;rcases f2 J with h|h
    ·exact H h
    ·subst h;rw[<-NR.TF w c];exact g
 refine⟨λq u h=>key _ q u (jM _) h,?_,λq y h=>?_⟩
 ·intro q st c
  have o:q≠p:=by
   rintro rfl;have:=HC.gd c;rw[v] at this;cases this
  unfold HC.dN at c|-;rw[a q o];exact c
 ·obtain⟨b,K,_⟩:=d q y h;exact⟨b,K⟩
mutual
def Tm.yl(room:Int):Tm->Option (Option Tm)
 |.mk k i s l=>if(Tm.mk k i s l).root then(if((Tm.mk k i s l).dm.afq:Int)-((Tm.mk k i s l).afq:Int)>room then none else some (some (Tm.mk k i s l).dm))
  else match Tm.lM room l with
   |none=>none|some none=>some none|some (some a)=>some (some (.mk k i s a))
def Tm.lM(room:Int):List Tm->Option (Option (List Tm))
 |[]=>some none|t::l=>match t.yl room with
  |none=>none|some (some a)=>some (some (a::l))|some none=>match Tm.lM room l with
   |none=>none|some none=>some none|some (some b)=>some (some (t::b))
end
theorem uS:∀(l:List Tm) (f:Tm),f.ok=true->(∀t∈l,t.ok=true)->(gA f l).ok=true
 |[],f,h,_=>h|a::l,f,h,b=>by
  rw[gA];refine uS l _ ?_ λt d=>b t (by simp[d]);rw[Tm.eu];simp only[ew,gR];refine⟨rfl,?_⟩;intro x c;simp only[gT,lZ,kv] at c;rcases c with rfl|rfl
  ·exact h
  ·exact b _ aae
def tI{M:Int}(b:0<=M):∀(l:List Tm) (f:Tm),f.afu M=true->(∀t∈l,t.afu M=true)->(gA f l).afu M=true
 |[],f,h,_=>h|a::l,f,h,c=>by
  rw[gA];refine tI b l _ ?_ λt e=>c t aav;rw[Tm.dj];simp only[ew,gR,j8];refine⟨b,?_⟩;intro x d;simp only[gT,lZ,kv] at d;rcases d with rfl|rfl
  ·exact h
  ·exact c _ aae
theorem Tm.oS{k i:Int}{s:Ty}{l m:List Tm}(h:(Tm.mk k i s l).ok=true)(a:m.length=l.length)(hm:∀t∈m,t.ok=true):(Tm.mk k i s m).ok=true:=by
 rw[Tm.eu] at h|-;simp only[ew,gR] at h|-;rw[a];exact⟨h.1,hm⟩
def Tm.tP{M k i:Int}{s:Ty}{l m:List Tm}(h:(Tm.mk k i s l).afu M=true)(hm:∀t∈m,t.afu M=true):(Tm.mk k i s m).afu M=true:=by
 rw[Tm.dj] at h|-;simp only[ew,gR,j8] at h|-;exact⟨h.1,hm⟩
def Jj{M:Int}(B:0<=M){t:Tm}(hs:Sm M t)(hn:t.afq<=8192)(z:t.root=true):t.dm.ok=true/\t.dm.afu (M+8192)=true:=by
 have v:=Tm.wE hs.ok z;have up:∀u,Sm M u->u.afu (M+8192)=true:=λu hu=>(hu.mono Zb).afu;cases v with
 |app=>
  rename_i i s d f b a;have w:=hs.arg (.mk 2 d f [b]) aae;have p:=hs.arg a aae;have l:=w.arg b aae;rw[Tm.cK] at hn;simp only[cN,Tm.cK] at hn
  have e:(Tm.mk 3 i s [.mk 2 d f [b],a]).dm=Tm.ei 0 b a:=by simp[Tm.dm]
  rw[e];exact⟨Tm.vn a p.ok b 0 Zb l.ok,AP (M:=M) (N:=M) Zb a p.afu b 0 Zb Zb l.afu l.ok⟩
 |proj x=>
  rename_i k i s d f a b;have q:=hs.arg (.mk 10 d f [a,b]) aae;rcases x with rfl|rfl
  ·have:=q.arg a aae;simpa[Tm.dm] using And.intro this.ok (up _ this)
  ·have:=q.arg b aae;simpa[Tm.dm] using And.intro this.ok (up _ this)
 |zero x=>
  rename_i k A i s d f b st
  have m:k≠3/\k≠11/\k≠12:=Zb
  have:(Tm.mk k i s [b,st,.mk A d f []]).dm=b:=by simp[Tm.dm,m.1,m.2.1,m.2.2]
  rw[this];have:=hs.arg b aae;exact⟨this.ok,up _ this⟩
 |succ=>
  rename_i i s d f b st n;have r:=hs.arg b aae;have g:=hs.arg st aae;have j:=(hs.arg (.mk 5 d f [n]) aae).arg n aae
  have e:(Tm.mk 6 i s [b,st,.mk 5 d f [n]]).dm=gA st [n,.mk 6 i s [b,st,n]]:=by simp[Tm.dm,gA]
  rw[e];have o:(Tm.mk 6 i s [b,st,n]).ok=true:=Tm.oS hs.ok rfl (by intro t c;simp only[gT,lZ,kv] at c;rcases c with rfl|rfl|rfl;all_goals first|exact r.ok|exact g.ok|exact j.ok);have hle:(Tm.mk 6 i s [b,st,n]).afu (M+8192)=true:=Tm.tP (hs.mono Zb).afu (by intro t c;simp only[gT,lZ,kv] at c;rcases c with rfl|rfl|rfl;all_goals first|exact up _ r|exact up _ g|exact up _ j);refine⟨uS _ _ g.ok ?_,tI Zb _ _ (up _ g) ?_⟩<;>
  ·intro t c;simp only[gT,lZ,kv] at c;rcases c with rfl|rfl
   ·first|exact j.ok|exact up _ j
   ·first|exact o|exact hle
 |cons=>
  rename_i i s d f b st h n;have r:=hs.arg b aae;have g:=hs.arg st aae;have j:=(hs.arg (.mk 8 d f [h,n]) aae).arg n aae;have y:=(hs.arg (.mk 8 d f [h,n]) aae).arg h aae
  have e:(Tm.mk 9 i s [b,st,.mk 8 d f [h,n]]).dm=gA st [h,n,.mk 9 i s [b,st,n]]:=by simp[Tm.dm,gA]
  rw[e];have o:(Tm.mk 9 i s [b,st,n]).ok=true:=Tm.oS hs.ok rfl (by intro t c;simp only[gT,lZ,kv] at c;rcases c with rfl|rfl|rfl;all_goals first|exact r.ok|exact g.ok|exact j.ok);have hle:(Tm.mk 9 i s [b,st,n]).afu (M+8192)=true:=Tm.tP (hs.mono Zb).afu (by intro t c;simp only[gT,lZ,kv] at c;rcases c with rfl|rfl|rfl;all_goals first|exact up _ r|exact up _ g|exact up _ j);refine⟨uS _ _ g.ok ?_,tI Zb _ _ (up _ g) ?_⟩<;>
  ·intro t c;simp only[gT,lZ,kv] at c;rcases c with rfl|rfl|rfl
   ·first|exact y.ok|exact up _ y
   ·first|exact j.ok|exact up _ j
   ·first|exact o|exact hle
def Tm.tM(room k i:Int)(s:Ty)(l:List Tm):(Tm.mk k i s l).yl room=if(Tm.mk k i s l).root then(if((Tm.mk k i s l).dm.afq:Int)-((Tm.mk k i s l).afq:Int)>room then none else some (some (Tm.mk k i s l).dm))
 else match Tm.lM room l with
  |none=>none|some none=>some none|some (some a)=>some (some (.mk k i s a)):=by rw[Tm.yl]
def BF{M room:Int}(o:0<=M)(t:Tm):Sm M t->t.afq<=8192->∀e,t.yl room=some (some e)->e.ok=true/\e.afu (M+8192)=true/\(e.afq:Int)<=t.afq+room:=by
 induction t using Tm.ind with
 |h k i s l p=>
  intro hs hn e h;rw[Tm.tM] at h
  by_cases f:(Tm.mk k i s l).root=true
  ·rw[cL f] at h
   split at h
   ·cases h
   ·obtain rfl:=hZ (hZ h);obtain⟨q,r⟩:=Jj o hs hn f;exact⟨q,r,Zb⟩
  ·rw[cJ f] at h;have up:∀u,Sm M u->u.afu (M+8192)=true:=λu hu=>(hu.mono Zb).afu;have g:=hn;rw[Tm.cK] at g
   have w:∀(ts a:List Tm),(∀t∈ts,t∈l)->Tm.lM room ts=some (some a)->a.length=ts.length/\(∀t∈a,t.ok=true/\t.afu (M+8192)=true)/\(cN Tm.afq a:Int)<=cN Tm.afq ts+room:=by
    intro ts
    induction ts with
    |nil=>intro a _ h;rw[Tm.lM] at h;cases h
    |cons t ts j=>
     intro a hm h;rw[Tm.lM] at h;have b:=hm t aae;have x:=cV Tm.afq b;have c:=hs.arg t b
     split at h
     ·cases h
     ·rename_i u hu;obtain rfl:=hZ (hZ h);obtain⟨a1,a2,a3⟩:=p t b c Zb u hu;refine⟨rfl,?_,by simp only[cN];omega⟩;intro v hv;rcases gT.1 hv with rfl|hv
      ·exact⟨a1,a2⟩
      ·have:=hs.arg v (hm v (by simp[hv]));exact⟨this.ok,up _ this⟩
     ·split at h
      ·cases h
      ·cases h
      ·rename_i m d;obtain rfl:=hZ (hZ h);obtain⟨a1,a2,a3⟩:=j m (λu hu=>hm u (by simp[hu])) d;refine⟨by simp[a1],?_,by simp only[cN];omega⟩;intro v hv;rcases gT.1 hv with rfl|hv
       ·exact⟨c.ok,up _ c⟩
       ·exact a2 v hv
   split at h
   ·cases h
   ·cases h
   ·rename_i m d;obtain rfl:=hZ (hZ h);obtain⟨a1,a2,a3⟩:=w l m (λt h=>h) d;refine⟨Tm.oS hs.ok a1 λt n=>(a2 t n).1,Tm.tP (hs.mono Zb).afu λt n=>(a2 t n).2,?_⟩;rw[Tm.cK,Tm.cK];omega
def rK(room:Int)(t:Tm):t.nf=true↔t.yl room=some none:=by
 induction t using Tm.ind with
 |h k i s l f=>
  rw[Tm.Cg,Tm.tM]
  have g:∀ts:List Tm,(∀t∈ts,t∈l)->(ts.all Tm.nf=true↔Tm.lM room ts=some none):=by
   intro ts
   induction ts with
   |nil=>intro _;simp[Tm.lM]|cons t ts b=>
    intro hm;have j:=f t (hm t aae);have m:=b λu hu=>hm u (by simp[hu]);rw[sb,ew,j,m,Tm.lM];constructor
    ·rintro⟨c,d⟩;rw[c,d]
    ·intro h
     split at h
     ·cases h
     ·cases h
     ·rename_i c
      split at h
      ·cases h
      ·rename_i d;exact⟨c,d⟩
      ·cases h
  have:=g l λt h=>h
  by_cases a:(Tm.mk k i s l).root=true
  ·rw[cL a,a];simp
   try(split<;>simp)
  ·rw[cJ a];simp only[ew,Sx,this];constructor
   ·rintro⟨_,e⟩;rw[e]
   ·intro h;refine⟨by simpa using a,?_⟩
    split at h
    ·cases h
    ·rename_i e;exact e
    ·cases h
def Jt{M:Int}{t:Tm}(hs:Sm M t)(hn:t.afq<=8192)(c:t.root=true):(t.dm.afq:Int)<=1000000000:=by
 have d:=Tm.wE hs.ok c;cases d with
 |app=>
  rename_i i s g h b a;rw[Tm.cK] at hn;simp only[cN,Tm.cK] at hn;have e:=hs.arg (.mk 2 g h [b]) aae;have j:=Tm.ky a b 0 (e.arg b aae).ok;have k:=Tm.e9 b 0;have hmul:b.afw 0*a.afq<=8192*8192:=BA Zb Zb
  grind[Tm.ei,Tm.dm]
 |proj f=>
  rw[Tm.cK] at hn;simp only[cN,Tm.cK] at hn;rcases f with rfl|rfl<;>(simp[Tm.dm];omega)
 |zero f=>grind[Tm.dm,Tm.cK,cN]|succ=>grind[gA,Tm.dm,jt,Tm.cK,cN]|cons=>grind[gA,Tm.dm,jt,Tm.cK,cN]
def II{M:Int}(P:0<=M/\M<=90000000000){nh:List HC}{p:Nat}{t:Tm}(L:NR nh p t)(hs:Sm M t)(hn:t.afq<=8192)(d:t.root=true):oR (some p) nh=some (t.dm.afq:Int):=by
 have Q:=wH P L hs hn d;have D:=Tm.wE hs.ok d;obtain⟨x,R,f,e3,e4,l,e6,e7,e8⟩:=L.inv;unfold oR pT;simp only[cG,R];cases D with
 |app=>
  rename_i i s m o b a;simp only[Tm.c8,Tm.cX] at f l;obtain⟨pf,pa,r,S,T⟩:=l.inv2;obtain⟨y,f1,f2,f3,f4,f5,_⟩:=S.inv;simp only[Tm.c8,Tm.cX] at f2 f5;obtain⟨pb,E,v⟩:=f5.inv1;have F:=hs.arg (.mk 2 m o [b]) aae;have U:=hs.arg a aae;have B:=F.arg b aae;rw[Tm.cK] at hn;simp only[cN,Tm.cK] at hn;obtain⟨z,g1,_,_,_,_,g6,_⟩:=v.inv;obtain⟨u,g,_,_,_,_,j,_⟩:=T.inv;rw[f,cL Zk,r];simp only[dc,ef,fL,iU,cG,f1,E,g1];rw[count_eq (M:=M) Zb nh FU b pb 0 (by rw[dn];omega) v B Zb Zb];simp only[cG,g,cI,g6,j];have V:=Tm.e9 b 0;have hmul:b.afw 0*a.afq<=8192*8192:=BA Zb Zb;have W:=Tm.ky a b 0 B.ok;have X:=a.da
  have e:(Tm.mk 3 i s [.mk 2 m o [b],a]).dm=Tm.ei 0 b a:=by simp[Tm.dm]
  rw[e]
  have hint:(b.afw 0:Int)*((a.afq:Int)-1)=((b.afw 0*a.afq:Nat):Int)-(b.afw 0:Int):=by rw[N_,N1];simp
  rw[dF Zb Zb,p_ (by rw[hint];omega) (by rw[hint];omega),hint,dk Zb Zb]
  congr 1
  omega
 |proj N=>
  rename_i k i s m o a b;obtain⟨p',Y,g1,g2,g3⟩:=Q;simp only[Tm.c8,Tm.cX] at f l;obtain⟨z,g,_,_,_,_,j,_⟩:=g3.inv
  have c:k≠3/\k≠6/\k≠9:=Zb
  rw[f,cJ (by simpa using c.1),cJ (by simpa using c.2.1),cJ (by simpa using c.2.2),g1];simp only[cI,cG,g,j]
 |zero N=>
  rename_i k Z i s m o b st;simp only[Tm.c8,Tm.cX] at f l;obtain⟨pb,ps,O,r,v,q,C⟩:=l.Cw;obtain⟨y,f1,f2,f3,f4,f5,_⟩:=C.inv;obtain⟨z,g,_,_,_,_,j,_⟩:=v.inv;simp only[Tm.c8,Tm.cX] at f2 f5
  have c:k≠3/\k≠11/\k≠12:=Zb
  have:(Tm.mk k i s [b,st,.mk Z m o []]).dm=b:=by simp[Tm.dm,c.1,c.2.1,c.2.2]
  rw[this];rcases N with⟨rfl,rfl⟩|⟨rfl,rfl⟩
  ·rw[f,cJ Zk,cL Zk,r];simp only[dc,ef,fD,fL,iU,cG,f1,f2,g,j];rw[cJ Zk];rfl
  ·rw[f,cJ Zk,cJ Zk,cL Zk,r];simp only[dc,ef,fD,fL,iU,cG,f1,f2,g,j];rw[cJ Zk];rfl
 |succ=>
  rename_i i s m o b st n;simp only[Tm.c8,Tm.cX] at f l;obtain⟨pb,ps,O,r,v,q,C⟩:=l.Cw;obtain⟨y,f1,f2,f3,f4,f5,_⟩:=C.inv;simp only[Tm.c8,Tm.cX] at f2 f5;obtain⟨pn,w,A⟩:=f5.inv1;obtain⟨z1,g,_,_,_,_,j,_⟩:=v.inv;obtain⟨z2,G,_,_,_,_,H,_⟩:=q.inv;obtain⟨z3,I,_,_,_,_,J,_⟩:=A.inv;rw[Tm.cK] at hn;simp only[cN,Tm.cK] at hn
  have e:(Tm.mk 6 i s [b,st,.mk 5 m o [n]]).dm=gA st [n,.mk 6 i s [b,st,n]]:=by simp[Tm.dm,gA]
  rw[e,jt];simp only[cN,Tm.cK,hQ,o7];rw[f,cJ Zk,cL Zk,r];simp only[dc,ef,fD,fL,iU,cG,f1,f2,w,g,G,I,j,H,J];rw[cL Zk];simp only[cI];rw[p_ (a:=2) Zb Zb,dk (a:=2) Zb Zb,dk (b:=2*(n.afq:Int)) Zb Zb,dk (b:=1) Zb Zb,dk (b:=(b.afq:Int)) Zb Zb,dk Zb Zb]
  congr 1
  omega
 |cons=>
  rename_i i s m o b st h n;simp only[Tm.c8,Tm.cX] at f l;obtain⟨pb,ps,O,r,v,q,C⟩:=l.Cw;obtain⟨y,f1,f2,f3,f4,f5,_⟩:=C.inv;simp only[Tm.c8,Tm.cX] at f2 f5;obtain⟨ph,pn,w,K,A⟩:=f5.inv2;obtain⟨z1,g,_,_,_,_,j,_⟩:=v.inv;obtain⟨z2,G,_,_,_,_,H,_⟩:=q.inv;obtain⟨z3,I,_,_,_,_,J,_⟩:=A.inv;obtain⟨z4,q1,_,_,_,_,q6,_⟩:=K.inv;rw[Tm.cK] at hn;simp only[cN,Tm.cK] at hn
  have e:(Tm.mk 9 i s [b,st,.mk 8 m o [h,n]]).dm=gA st [h,n,.mk 9 i s [b,st,n]]:=by simp[Tm.dm,gA]
  rw[e,jt];simp only[cN,Tm.cK,hQ,o7];rw[f,cJ Zk,cJ Zk,cL Zk,r];simp only[dc,ef,fD,fL,iU,cG,f1,f2,w,g,G,I,q1,j,H,J,q6];rw[cL Zk];simp only[cI];rw[p_ (a:=2) Zb Zb,dk (a:=3) Zb Zb,dk (b:=(h.afq:Int)) Zb Zb,dk (b:=2*(n.afq:Int)) Zb Zb,dk (b:=1) Zb Zb,dk (b:=(b.afq:Int)) Zb Zb,dk Zb Zb]
  congr 1
  omega
def yg{α:Type}(a:List α)(x y:α)(b:List α):(a++x::b).set a.length y=a++y::b:=aae
def v_(room:Int)(p:Nat)(t:Tm)(nh:List HC)(o:Option ((Option Nat)×Int×List HC)):Prop:=
 match t.yl room with
 |none=>∃a,o=some (none,4,a)/\NE nh a|some none=>∃a,o=some (none,0,a)/\NE nh a|some (some c)=>∃b a,o=some (some b,0,a)/\NE nh a/\NR a b c
def LP{M room:Int}(hM:0<=M/\M<=80000000000)(X:-100000<=room/\room<=100000):∀(n:Nat) (t:Tm) (p:Nat) (nh:List HC),t.afq<=n->NR nh p t->Sm M t->t.afq<=8192->v_ room p t nh (iH n (some p) room nh):=by
 intro n
 induction n with
 |zero=>intro t p nh h;have:=t.da;omega
 |succ n ih=>
  intro t p nh hn P hs H;obtain⟨x,Y,e2,e3,e4,Z,e6,e7,e8⟩:=P.inv;rw[iH];simp only[cG,Y]
  by_cases K:x.normal=true
  ·rw[cL K];unfold v_;rw[(rK room t).1 (e8 K)];exact⟨nh,rfl,NE.refl _⟩
  ·rw[cJ K,Ch P hs.ok];simp only[cG];cases t with
   |mk k i s l=>
    by_cases f:(Tm.mk k i s l).root=true
    ·rw[cL f,II Zb P hs H f];simp only[cG,eb,e6];obtain⟨N,c,g1,g2,g3⟩:=wH (M:=M) Zb P hs H f;have ah:=Jt hs H f;rw[dF Zb Zb];unfold v_;rw[Tm.tM,cL f]
     by_cases C:((Tm.mk k i s l).dm.afq:Int)-((Tm.mk k i s l).afq:Int)>room
     ·rw[cL C,cL C];exact⟨nh,rfl,NE.refl _⟩
     ·rw[cJ C,cJ C,g1];exact⟨N,c,rfl,NE.kp g2,g3⟩
    ·rw[cJ f];simp only[Tm.c8,Tm.cX,Tm.dX,Tm.ds] at e2 e3 e4 Z;have F:=H;rw[Tm.cK] at hn F;have hlen:=Tm.dH l;have Q:x.afp.length=l.length:=Z.len;rw[cQ Zb];simp only[cM,cO];have af:=hs.idx;have R:∀u:Tm,Sm M u->0<=u.fr/\u.fr<=M+1:=λu hu=>hu.fr hM.1
     have loop:∀(ts pre:List Tm) (ps I:List (Option Nat)) (j:Nat) (A:List HC),l=pre++ts->x.afp=I++ps->I.length=j->NE nh A->nE A ps ts->nE A I pre->match Tm.lM room ts with
       |none=>∃c,eg (λ(v:Int) (B:Option Nat)=>(λ(w:List HC)=>
         iG (iH n B room w) λg m a=>
         if(dI m 0) then(some (.ret (none,m,a)))
         else(if(Option.isSome g) then(
         cH (HC.c_ a p) λd=>
         fU (wM d.afp)<|cH (du d.afp v) λG=>
         c0 (fH (some p) (ya d.afp v g) a) λy r=>
         some (.ret (y,0,r)))
         else(some ((.next a):eK (List HC) ((Option Nat)×Int×List HC)))))) ps j A=some (.inr (none,4,c))/\NE nh c
       |some none=>∃c,eg (λ(v:Int) (B:Option Nat)=>(λ(w:List HC)=>
         iG (iH n B room w) λg m a=>
         if(dI m 0) then(some (.ret (none,m,a)))
         else(if(Option.isSome g) then(
         cH (HC.c_ a p) λd=>
         fU (wM d.afp)<|cH (du d.afp v) λG=>
         c0 (fH (some p) (ya d.afp v g) a) λy r=>
         some (.ret (y,0,r)))
         else(some ((.next a):eK (List HC) ((Option Nat)×Int×List HC)))))) ps j A=some (.inl c)/\NE nh c
       |some (some S)=>∃N c,eg (λ(v:Int) (B:Option Nat)=>(λ(w:List HC)=>
         iG (iH n B room w) λg m a=>
         if(dI m 0) then(some (.ret (none,m,a)))
         else(if(Option.isSome g) then(
         cH (HC.c_ a p) λd=>
         fU (wM d.afp)<|cH (du d.afp v) λG=>
         c0 (fH (some p) (ya d.afp v g) a) λy r=>
         some (.ret (y,0,r)))
         else(some ((.next a):eK (List HC) ((Option Nat)×Int×List HC)))))) ps j A=some (.inr (some N,0,c))/\NE nh c/\NR c N (.mk k i s (pre++S)):=by
      intro ts
      induction ts with
      |nil=>
       intro pre ps I j A _ _ _ D hp _;cases hp;rw[Tm.lM];exact⟨A,rfl,D⟩
      |cons t ts aa=>
       intro pre ps I j A O hx hq D hp J;cases hp with
       |cons q1 q2=>
        rename_i q ps
        have T:t∈l:=by rw[O];simp
        have ai:=cV Tm.afq T;have U:=hs.arg t T;have z:=ih t q A Zb q1 U Zb;unfold v_ at z;rw[Tm.lM];rw[dq]
        split at z
        ·rename_i E;obtain⟨c,a1,a2⟩:=z;rw[E,a1];exact⟨c,rfl,D.trans a2⟩
        ·rename_i E;obtain⟨c,a1,a2⟩:=z;rw[E,a1];have:=aa (pre++[t]) ps (I++[some q]) (j+1) c (by simp[O]) (by simp[hx]) (by simp[hq]) (D.trans a2) (a2.list q2) ((a2.list J).append (.cons (a2.node _ _ q1) .nil))
         revert this
         cases Tm.lM room ts with
         |none=>exactλh=>h|some o=>
          cases o with
          |none=>exactλh=>h|some S=>simp only[ml,XU,k9];exactλh=>h
        ·rename_i t' E;obtain⟨W,c,a1,a2,a3⟩:=z;rw[E,a1];simp only[iY];rw[cJ Zk,cL (show(some W).isSome=true from rfl)];obtain⟨b,V⟩:=(D.trans a2).get p x Y;rw[V];simp only[cG];obtain⟨s1,s2,s3⟩:=BF hM.1 t U Zb t' E;rw[show wM x.afp=true from qb ⟨by rw[Q,O];simp;omega,by rw[Q];unfold m0;omega⟩]
         have ab:du x.afp (j:Int)=some (some q):=by rw[fw,hx,<-hq];simp
         have ad:ya x.afp (j:Int) (some W)=I++some W::ps:=by
          unfold ya;rw[hx,<-hq];simp
         simp only[cM,ab,cG,ad];unfold fH;simp only[cG,V]
         obtain⟨ae,b1,b2,b3⟩:=lS (k:=k) (i:=i) (s:=s) (ps:=I++some W::ps) (ts:=pre++t'::ts) (nh:=c) ((a2.list J).append (.cons a3 (a2.list q2))) (by
          rw[O,wD] at F;rw[wD];simp only[cN] at F|-
          omega) Zb (by
          intro u hu;rcases tA.1 hu with hu|hu
          ·have:=R u (hs.arg u (by rw[O];simp[hu]));omega
          ·rcases gT.1 hu with rfl|hu
           ·have:=Tm.I6 u (M:=M+8192) Zb s1 s2;omega
           ·have:=R u (hs.arg u (by rw[O];simp[hu]));omega)
         rw[e2,e3,e4,b1];exact⟨c.length,ae,rfl,(D.trans a2).trans (NE.kp b2),b3⟩
     have:=loop l [] x.afp [] 0 nh rfl rfl rfl (NE.refl _) Z .nil;unfold v_;rw[Tm.tM,cJ f]
     have L:Tm.lM room l=some none->(Tm.mk k i s l).nf=true:=by
      intro h;rw[rK room,Tm.tM,cJ f,h]
     revert this L
     cases Tm.lM room l with
     |none=>
      rintro⟨c,a1,a2⟩ _;have e:((0:Nat):Int)=0:=rfl;rw[a1];exact⟨c,rfl,a2⟩
     |some o=>
      cases o with
      |none=>
       rintro⟨c,a1,a2⟩ L;rw[a1];simp only[cG,cR];obtain⟨b,V⟩:=a2.get p x Y;rw[V];simp only[cG];exact⟨_,rfl,a2.trans (NE.flag (x:={x with normal:=b}) (a2.node _ _ P) V (L rfl))⟩
      |some l'=>
       rintro⟨N,c,a1,a2,a3⟩ _;rw[a1];exact⟨N,c,rfl,a2,a3⟩
def Hi{M:Int}(L:0<=M/\M<=80000000000):∀(n:Nat) (t:Tm) (p:Nat) (nh:List HC),t.afq<=n->NR nh p t->Sm M t->t.afq<=8192->∃d,iJ n (some p) nh=some (t.nf,d)/\NE nh d:=by
 intro n
 induction n with
 |zero=>intro t p nh h;have:=t.da;omega
 |succ n G=>
  intro t p nh hn z hs A;obtain⟨x,D,N,O,P,B,Q,R,H⟩:=z.inv;rw[iJ];simp only[cG,D]
  by_cases o:x.normal=true
  ·rw[cL o,H o];exact⟨nh,rfl,NE.refl _⟩
  ·rw[cJ o,Ch z hs.ok];simp only[cG];cases t with
   |mk k i s l=>
    by_cases a:(Tm.mk k i s l).root=true
    ·rw[cL a,Tm.Cg,a];exact⟨nh,rfl,NE.refl _⟩
    ·rw[cJ a];simp only[Tm.cX] at B;rw[Tm.cK] at hn A;have hlen:=Tm.dH l;have I:x.afp.length=l.length:=B.len;rw[cQ Zb];simp only[cM,cO]
     have loop:∀(ts:List Tm) (ps:List (Option Nat)) (j:Nat) (e:List HC),(∀t∈ts,t∈l)->NE nh e->nE e ps ts->∃d,eg (λ(E:Int) (q:Option Nat)=>(λ(r:List HC)=>
        c0 (iJ n q r) λv g=>
        if v then(some (.next g))else(some ((.ret (false,g)):eK (List HC) (Bool×List HC))))) ps j e=some (if ts.all Tm.nf then .inl d else .inr (false,d))/\NE nh d:=by
      intro ts
      induction ts with
      |nil=>intro ps j e _ m h;cases h;exact⟨e,rfl,m⟩
      |cons t ts C=>
       intro ps j e hm m h;cases h with
       |cons q1 J=>
        have w:=hm t aae;have K:=cV Tm.afq w;obtain⟨y,a1,a2⟩:=G t _ e Zb q1 (hs.arg t w) Zb;rw[dq,a1];simp only[cI]
        by_cases c:t.nf=true
        ·rw[cL c];simp only[cG,dt,sb,c,tx];exact C _ (j+1) y (λu hu=>hm u (by simp[hu])) (m.trans a2) (a2.list J)
        ·rw[cJ c];simp only[cG,BG,sb,c,Sp];exact⟨y,rfl,m.trans a2⟩
     obtain⟨d,a1,a2⟩:=loop l x.afp 0 nh (λt h=>h) (NE.refl _) B;rw[a1]
     by_cases f:l.all Tm.nf=true
     ·rw[cL f];simp only[cG,cR];obtain⟨b,F⟩:=a2.get p x D;rw[F]
      have c:(Tm.mk k i s l).nf=true:=by
       rw[Tm.Cg,f];simpa using a
      rw[c];exact⟨_,rfl,a2.trans (NE.flag (x:={x with normal:=b}) (a2.node _ _ z) F c)⟩
     ·rw[cJ f]
      have c:(Tm.mk k i s l).nf=false:=by
       rw[Tm.Cg];simp[f]
      rw[c];exact⟨d,rfl,a2⟩
def lQ{t:Tm}(h:t.wt<=1000000000):kn t=some (if t.err=0 then(t.afq:Int)else 0,t.err):=by
 unfold kn Tm.err;rw[oK FU t (by rw[dn];exact h) h]
 by_cases a:t.ok=true
 ·simp only[a,if_true,cI,eb]
  by_cases b:4096<t.afq
  ·rw[cL b,cL Zb];rfl
  ·rw[cJ b,cJ Zb];rfl
 ·simp only[a,cI];rfl
def kr{t:Tm}(h:t.wt<=1000000000):r8 t=some t.err:=by
 unfold r8;rw[lQ h];rfl
theorem Tm.ey{t:Tm}(h:t.err=0):t.ok=true/\t.afq<=4096:=by
 unfold Tm.err at h
 split at h
 ·rename_i a
  split at h
  ·omega
  ·exact⟨a,Zb⟩
 ·omega
def GS:∀(n:Nat) (t:Tm) (b:Int) (s:Bool),t.afq<=n->t.ok=true->t.afq<=1000000->0<=b->b+t.afq<=100000000->h_ n t b (λ(s:Bool) (f:Int) (g:Int)=>qK f g s) s=some (s&&t.afu 536870912):=by
 intro n
 induction n with
 |zero=>intro t b s h;have:=t.da;omega
 |succ n v=>
  intro t b s h w hn D m;cases t with
  |mk k i ty l=>
   obtain⟨o1,o2,x,y,E⟩:=Tm.hE w;rw[Tm.cK] at h hn m;have hlen:=Tm.dH l;rw[h_];simp only[Tm.cX,Tm.c8,Tm.dX,cO,dS];rw[Tm.dj]
   by_cases e:k=1
   ·have z:=o1 e;subst z;rw[cL e];unfold qK;cases s with
    |true=>simp[Mu];rfl|false=>simp;rfl
   ·rw[cJ e];have hi:=x e;subst hi
    have o:fp (dC k 2) (ep .i64 b 1) b=b+dr k:=by
     unfold dr
     by_cases p:k=2
     ·subst p;rw[cL rfl];exact dk Zb Zb
     ·rw[cJ p]
      have:dC k 2=false:=by simp[dC,p]
      rw[this];simp
    have A:=eN k;rw[cQ (l:=l) Zb];simp only[cM,o]
    have loop:∀(ts:List Tm) (j:Nat) (s:Bool),(∀t∈ts,t∈l)->eg (λ(B:Int) (q:Tm)=>(λ(a:Bool)=>
      cH (h_ n q (b+dr k) (λ(s:Bool) (f:Int) (g:Int)=>qK f g s) a) λc=>
      some ((.next c):eK Bool Bool))) ts j s=some (.inl (s&&ts.all (Tm.afu 536870912))):=by
     intro ts
     induction ts with
     |nil=>intro j s _;simp|cons t ts r=>
      intro j s hm;have d:=hm t aae;have C:=cV Tm.afq d;rw[dq,v t _ _ Zb (y t d) Zb Zb Zb];simp only[cG,dt];rw[r (j+1) _ λu hu=>hm u (by simp[hu])];simp[aaA]
    rw[loop l 0 s λt h=>h];simp
def A8{t:Tm}(a:t.ok=true)(hn:t.afq<=1000000):y_ t=some (t.afu 536870912):=by
 unfold y_ si;rw[GS FU t 0 true (by rw[dn];omega) a hn Zb Zb];simp
def Tm.z:Tm:=.mk 0 0 (.mk 0 []) []
def NR.Nn{nh:List HC}{c:Nat}{st a:fZ}(h:HC.dN nh c=some st):∀n,(∀p t,t.afq<=n->NR nh p t->NR (kY nh c (HC.fY a)) p t):=by
 have j:=HC.gd h
 have d:∀q y,HC.c_ nh q=some y->HC.c_ (kY nh c (HC.fY a)) q=some y:=by
  intro q y hy;have e:=HC.dw hy
  have f:c≠q:=by
   rintro rfl;rw[j] at e;cases e
  unfold HC.c_ kY;rw[Pp f,e]
 intro n
 induction n with
 |zero=>intro p t h;have:=t.da;omega
 |succ n m=>
  intro p t o r;obtain⟨y,v,w,x,z,A,B,C,D⟩:=r.inv
  have b:∀(ts:List Tm) (ps:List (Option Nat)),(∀t∈ts,t.afq<=n)->nE nh ps ts->nE (kY nh c (HC.fY a)) ps ts:=by
   intro ts
   induction ts with
   |nil=>intro ps _ h;cases h;exact .nil
   |cons t ts g=>
    intro ps hm h;cases h with
    |cons g1 g2=>exact .cons (m _ _ (hm t aae) g1) (g _ (λu hu=>hm u (by simp[hu])) g2)
  refine NR.of (d _ _ v) w x z (b _ _ ?_ A) B C D;intro u hu;cases t with
  |mk k i s l=>
   rw[Tm.cK] at o;have:=cV Tm.afq hu;simp only[Tm.cX] at this;omega
def vS{nh:List HC}{b:Nat}{st a:fZ}(h:HC.dN nh b=some st):HC.dN (kY nh b (HC.fY a)) b=some a:=by
 have d:=HC.gd h;have c:=(qR.1 d).1;unfold HC.dN kY;simp[c]
structure At (nh:List HC) (s0:Nat) (t:Tm) (m:Int):Prop where
 st:∃p,HC.dN nh s0=some ⟨some p,m⟩/\NR nh p t
def LU{M:Int}(i:0<=M/\M<=80000000000){nh:List HC}{d:Nat}{t:Tm}{m:Int}(h:At nh d t m)(hs:Sm M t)(hn:t.afq<=4096)(hm:0<=m/\m<=1000000):match t.yl (4096-t.afq)with
  |none=>∃a,iA (some d) nh=some (false,4,a)|some none=>∃a,iA (some d) nh=some (false,0,a)/\At a d t m|some (some g)=>∃a,iA (some d) nh=some (true,0,a)/\At a d g (m+1):=by
 obtain⟨p,e,f⟩:=h.st;obtain⟨x,j,_,_,_,_,k,_⟩:=f.inv;have n:=t.da;have b:=LP (M:=M) (room:=4096-t.afq) i Zb FU t p nh (by rw[dn];omega) f hs Zb;unfold iA ur;simp only[cG,e,j,k];rw[dF Zb Zb];unfold v_ at b
 split at b
 ·rename_i c;obtain⟨a,a1,a2⟩:=b
  try rw[c]
  rw[a1];exact⟨a,rfl⟩
 ·rename_i c;obtain⟨a,a1,a2⟩:=b
  try rw[c]
  rw[a1];exact⟨a,rfl,⟨p,a2.state _ _ e,a2.node _ _ f⟩⟩
 ·rename_i g c;obtain⟨l,a,a1,a2,a3⟩:=b
  try rw[c]
  rw[a1];have g1:=a2.state _ _ e;simp only[iY];rw[cJ (by simp[dI])];simp only[g1,cG];rw[dk Zb Zb];refine⟨_,rfl,⟨l,vS (vS g1),?_⟩⟩;exact NR.Nn (vS g1) _ _ _ (jM _) (NR.Nn g1 _ _ _ (jM _) a3)
def Tm.norm:Nat->Int->Tm->Tm×Int×Int
 |0,m,t=>if t.nf then(t,m,0)else(Tm.z,0,5)|k+1,m,t=>match t.yl (4096-t.afq)with
  |none=>(Tm.z,0,4)|some none=>(t,m,0)|some (some a)=>Tm.norm k (m+1) a
def C7{k:Nat}{m:Int}{t:Tm}(h:t.yl (4096-t.afq)=none):t.norm (k+1) m=(Tm.z,0,4):=by rw[Tm.norm,h]
def sD{k:Nat}{m:Int}{t:Tm}(h:t.yl (4096-t.afq)=some none):t.norm (k+1) m=(t,m,0):=by rw[Tm.norm,h]
def sh{k:Nat}{m:Int}{t a:Tm}(h:t.yl (4096-t.afq)=some (some a)):t.norm (k+1) m=a.norm k (m+1):=by rw[Tm.norm,h]
def yi{σ ρ:Type}{F:σ->Option (eK σ ρ)}:∀{n m:Nat} {s:σ} {o:σ⊕ρ},n<=m->ow F n s=some o->ow F m s=some o
 |0,_,_,_,_,h=>by cases h
 |n+1,0,_,_,hm,_=>by omega|n+1,m+1,s,o,hm,h=>by
  rw[jL] at h|-;obtain⟨c,b,a⟩:=ez h;rw[b];simp only[cG];cases c with
  |next d=>exact yi Zb a|DN d=>exact a|ret r=>exact a
def Cy(n:Nat)(steps:Int)(I:0<=steps/\steps<=65536):∀(k:Nat) (m:Int) (t:Tm) (nh:List HC),(k:Int)=steps-m->0<=m->At nh n t m->Sm (536870912+8192*m) t->t.afq<=4096->∃o,ow (λ(a:List HC)=>
   cH (HC.dN a n) λq=>
   if(xT q.steps steps) then(
   iG (iA (some n) a) λs i c=>
   if(dI i 0) then(some (.ret ((Tm.mk 0 0 (Ty.mk 0 []) []),0,i)))
   else(if s then(some (.next c))
   else(cH (HC.dN c n) λj=>
   cH (iy FU j.term c) λu=>
   some (.ret (u,j.steps,0)))))
   else(some ((.DN a):eK (List HC) (Tm×Int×Int)))) (k+1) nh=some o/\gC (λ(a:List HC)=>
    cH (HC.dN a n) λv=>
    c0 (iJ FU v.term a) λw f=>
    if w then(
    cH (HC.dN f n) λl=>
    cH (iy FU l.term f) λx=>
    some (x,l.steps,0))
    else(some ((Tm.mk 0 0 (Ty.mk 0 []) []),0,5))) (λr=>some r) o=some (t.norm k m):=by
 intro k
 induction k with
 |zero=>
  intro m t nh B hm g hs hn;obtain⟨p,y,z⟩:=g.st;refine⟨.inl nh,?_,?_⟩
  ·rw[jL];simp only[y,cG];rw[cJ (by rw[hW];omega)];rfl
  ·rw[cR];simp only[y,cG];obtain⟨d,a1,a2⟩:=Hi (M:=536870912+8192*m) Zb FU t p nh (by rw[dn];omega) z hs Zb;rw[a1];simp only[cI,Tm.norm]
   by_cases h:t.nf=true
   ·rw[cL h,cL h];simp only[a2.state _ _ y,cG];rw[Fo (M:=536870912+8192*m) d FU t p (by rw[dn];omega) hs (a2.node _ _ z)];rfl
   ·rw[cJ h,cJ h];rfl
 |succ k C=>
  intro m t nh B hm g hs hn;obtain⟨p,y,z⟩:=g.st;have b:=LU (M:=536870912+8192*m) Zb g hs hn Zb;rw[jL];simp only[y,cG];rw[cL (by rw[hW];omega)]
  split at b
  ·rename_i e;obtain⟨d,a1⟩:=b;rw[C7 e,a1];exact⟨_,rfl,rfl⟩
  ·rename_i e;obtain⟨d,a1,a2⟩:=b;obtain⟨D,E,F⟩:=a2.st;rw[sD e,a1];simp only[iY];rw[cJ Zk,cJ Zk];simp only[E,cG];rw[Fo (M:=536870912+8192*m) d FU t D (by rw[dn];omega) hs F];exact⟨_,rfl,rfl⟩
  ·rename_i A e;obtain⟨d,a1,a2⟩:=b;rw[sh e,a1];simp only[iY];rw[cJ Zk];simp only[if_true,cG,dt];obtain⟨G,H,c3⟩:=BF (M:=536870912+8192*m) Zb t hs Zb A e;exact C (m+1) A d Zb Zb a2 ⟨G,by rw[show 536870912+8192*(m+1)=536870912+8192*m+8192 by omega];exact H,Zb⟩ Zb
def Sm.start{t:Tm}(h:t.err=0)(a:t.afu 536870912=true):Sm 536870912 t:=⟨(Tm.ey h).1,a,by have:=(Tm.ey h).2;omega⟩
def pU{t:Tm}(hw:t.wt<=1000000000)(steps:Int):jP t steps=some (if t.err=0 then(if 0<=steps/\steps<=65536/\t.afu 536870912 then t.norm steps.toNat 0 else(Tm.z,0,1))else(Tm.z,0,t.err)):=by
 unfold jP;rw[kr hw];simp only[cG]
 by_cases he:t.err=0
 ·rw[cJ (by simp[he]),cL he];obtain⟨g,hn⟩:=Tm.ey he;simp only[cO]
  by_cases e:steps<0
  ·rw[cL ((hW _ _).2 e),cL trivial,cJ (λh=>absurd h.1 Zb)];rfl
  ·rw[cJ (by rw[hW];exact e)]
   by_cases f:65536<steps
   ·rw[cL ((eb _ _).2 f),cL trivial,cJ (λh=>absurd h.2.1 Zb)];rfl
   ·rw[cJ (by rw[eb];exact f),A8 g Zb];simp only[cG]
    by_cases a:t.afu 536870912=true
    ·have c:s_ (t.afu 536870912)=false:=by rw[a];rfl
     rw[cJ (by rw[c];decide),cL ⟨Zb,Zb,a⟩];have b:=Sm.start he a;obtain⟨p,nh,a1,a2,a3⟩:=Ma (M:=536870912) Zb FU t [] (by rw[dn];omega) b;rw[a1];simp only[cI];have d:At (nh++[HC.fY (fZ.mk (some p) 0)]) nh.length t 0:=⟨p,by unfold HC.dN;simp,a3.app⟩;obtain⟨o,i,j⟩:=Cy nh.length steps Zb steps.toNat 0 t _ Zb Zb d (by simpa using b) hn;have k:=yi (m:=FU) (by rw[dn];omega) i;rw[k];exact j
    ·have c:s_ (t.afu 536870912)=true:=by simp[a]
     rw[cL c,cJ (λh=>a h.2.2)];rfl
 ·rw[cL (by simp[he]),cJ he];rfl
mutual
def Fm.afq:Fm->Nat
 |.mk _ _ ts l=>1+cN Tm.afq ts+Fm.je l
def Fm.je:List Fm->Nat
 |[]=>0|t::l=>t.afq+Fm.je l
end
def Fm.lr(l:List Fm):Fm.je l=cN Fm.afq l:=by
 induction l with
 |nil=>rfl|cons t l a=>simp[Fm.je,cN,a]
theorem Fm.cK(k:Int)(s:Ty)(ts:List Tm)(l:List Fm):(Fm.mk k s ts l).afq=1+cN Tm.afq ts+cN Fm.afq l:=by rw[Fm.afq,Fm.lr]
def Fm.da(t:Fm):1<=t.afq:=by cases t;rw[Fm.afq];omega
def Fm.dH(l:List Fm):l.length<=cN Fm.afq l:=er _ _ λt _=>t.da
mutual
def Fm.wt:Fm->Nat
 |.mk _ s ts l=>1+s.afq+cN Tm.wt ts+Fm.Ea l
def Fm.Ea:List Fm->Nat
 |[]=>0|t::l=>t.wt+Fm.Ea l
end
def Fm.vT(l:List Fm):Fm.Ea l=cN Fm.wt l:=by
 induction l with
 |nil=>rfl|cons t l a=>simp[Fm.Ea,cN,a]
theorem Fm.dD(k:Int)(s:Ty)(ts:List Tm)(l:List Fm):(Fm.mk k s ts l).wt=1+s.afq+cN Tm.wt ts+cN Fm.wt l:=by rw[Fm.wt,Fm.vT]
def Fm.eL(t:Fm):1<=t.wt:=by cases t;rw[Fm.wt];omega
def Fm.jh(l:List Fm):l.length<=cN Fm.wt l:=er _ _ λt _=>t.eL
def Fm.ind{p:Fm->Prop}(h:∀k s ts l,(∀t∈l,p t)->p (.mk k s ts l))(t:Fm):p t:=by
 have:∀n (t:Fm),t.afq<=n->p t:=by
  intro n
  induction n with
  |zero=>intro t a;have:=t.da;omega
  |succ n b=>
   intro t a;cases t with
   |mk k s ts l=>
    rw[Fm.cK] at a;exact h k s ts l λu hu=>b u (by have:=cV Fm.afq hu;omega)
 exact this _ t (jM _)
def Fm.eJ(t:Fm):t.afq<=t.wt:=by
 induction t using Fm.ind with
 |h k s ts l a=>rw[Fm.cK,Fm.dD];have:=gn a;have:=gn (f:=Tm.afq) (g:=Tm.wt) (l:=ts) λx _=>x.eJ;omega
def gv(k:Int):Bool:=decide (k=4\/k=5\/k=6\/k=7)
def qB(k:Int):Int:=if gv k then 1 else 0
def j_(k:Int):0<=qB k/\qB k<=1:=by unfold qB;split<;>omega
def hR(k:Int):mm k=some (gv k):=by
 unfold mm gv
 congr 1
 rw[vR];simp
def km(f:Fm):n8 f=some (qB f.afo):=by
 unfold n8 qB;rw[hR];simp only[cG]
 split<;>rfl
def Fm.node(k:Int)(s:Ty)(a n:Nat):Bool:=
 if k=1 then s.kV&&decide (a=2)&&decide (n=0)
 else if k=2\/k=3 then s.kV&&decide (a=0)&&decide (n=2)
 else gv k&&decide (s.err=0)&&decide (a=0)&&decide (n=1)
mutual
def Fm.ok:Fm->Bool
 |.mk k s ts l=>Fm.node k s ts.length l.length&&ts.all Tm.ok&&Fm.AL l
def Fm.AL:List Fm->Bool
 |[]=>true|t::l=>t.ok&&Fm.AL l
end
def Fm.rU(l:List Fm):Fm.AL l=l.all Fm.ok:=by
 induction l with
 |nil=>rfl|cons t l a=>simp[Fm.AL,a]
theorem Fm.eu(k:Int)(s:Ty)(ts:List Tm)(l:List Fm):(Fm.mk k s ts l).ok=(Fm.node k s ts.length l.length&&ts.all Tm.ok&&l.all Fm.ok):=by rw[Fm.ok,Fm.rU]
def Fm.err(t:Fm):Int:=if t.ok then(if 4096<t.afq then 4 else 0)else 2
def eh{α:Type}{l:List α}:(l.length:Int)=0↔l=[]:=by cases l<;>simp;omega
def fO{α:Type}{l:List α}(h:(l.length:Int)=1):∃a,l=[a]:=by
 match l,h with
 |[a],_=>exact⟨a,rfl⟩|[],h=>simp at h
 |_::_::_,h=>simp at h;omega
def kz{α:Type}{l:List α}(h:(l.length:Int)=2):∃a b,l=[a,b]:=by
 match l,h with
 |[a,b],_=>exact⟨a,b,rfl⟩|[],h=>simp at h
 |[_],h=>simp at h
 |_::_::_::_,h=>simp at h;omega
def qy{t:Tm}(h:t.wt<=1000000000):kL FU t=some t.ok:=rM FU t (by rw[dn];exact h) h
def r9:∀(n:Nat) (t:Fm),t.wt<=n->t.wt<=1000000000->nd n t=some t.ok:=by
 intro n
 induction n with
 |zero=>intro t h;have:=t.eL;omega
 |succ n j=>
  intro t h i;cases t with
  |mk k s ts l=>
   rw[Fm.dD] at h i;rw[nd,Fm.eu];simp only[Fm.cX,Fm.c8,Fm.eF,Fm.ds,cO,gY,mu,dS,dK,o0,hR,iw (t:=s) Zb,cG,dc,ef]
   by_cases o:k=1
   ·simp only[o,if_true,Fm.node]
    by_cases g:(l.length:Int)=0
    ·have:=eh.1 g;subst this;cases f:s.kV with
     |false=>simp|true=>
      by_cases d:(ts.length:Int)=2
      ·obtain⟨a,b,rfl⟩:=kz d;simp only[cN] at h i;simp only[d,if_true,fL,iU,cG];rw[qy (t:=a) Zb,qy (t:=b) Zb];cases c:a.ok<;>cases e:b.ok<;>simp[c,e]
      ·have c:¬ts.length=2:=Zb
       simp[d,c]
    ·have f:¬l.length=0:=Zb
     simp[g,f]
   ·simp only[o,jm,Fm.node]
    by_cases g:k=2\/k=3
    ·simp only[g,if_true]
     by_cases f:(ts.length:Int)=0
     ·have:=eh.1 f;subst this;cases d:s.kV with
      |false=>simp|true=>
       by_cases c:(l.length:Int)=2
       ·obtain⟨a,b,rfl⟩:=kz c;simp only[cN] at h i;simp only[c,if_true,fL,iU,cG];rw[j a Zb Zb,j b Zb Zb];cases e:a.ok<;>cases m:b.ok<;>simp[e,m]
       ·have e:¬l.length=2:=Zb
        simp[c,e]
     ·have d:¬ts.length=0:=Zb
      simp[f,d]
    ·simp only[g,jm];cases f:gv k with
     |false=>simp|true=>
      by_cases d:(ts.length:Int)=0
      ·have:=eh.1 d;subst this
       by_cases c:s.err=0
       ·by_cases e:(l.length:Int)=1
        ·obtain⟨a,rfl⟩:=fO e;simp only[cN] at h i;simp only[c,e,if_true,fL,cG];rw[j a Zb Zb];simp
        ·have m:¬l.length=1:=Zb
         simp[c,e,m]
       ·simp[c]
      ·have c:¬ts.length=0:=Zb
       simp[d,c]
def kN:∀(n:Nat) (t:Fm),t.afq<=n->t.afq<=1000000000->lq n t=some (t.afq:Int):=by
 intro n
 induction n with
 |zero=>intro t h;have:=t.da;omega
 |succ n b=>
  intro t h c;cases t with
  |mk k s ts l=>
   rw[Fm.cK] at h c;have f:=Fm.dH l;have d:=Tm.dH ts;rw[lq];simp only[Fm.cX,Fm.eF,cO,cQ (l:=l) Zb,cQ (l:=ts) Zb,cM]
   have e:=kf (ρ:=Int) (F:=λ(j:Int) (x:Tm) (v:Int)=>cH (fM FU x) λy=>some (eK.next (ep .i64 v y))) Tm.afq ts 0 1 Zb (by
    intro j x v a;have:=cV Tm.afq a;rw[iW FU x (by rw[dn];omega) Zb]
    rfl)
   have k2:=kf (ρ:=Int) (F:=λ(j:Int) (x:Fm) (v:Int)=>cH (lq n x) λy=>some (eK.next (ep .i64 v y))) Fm.afq l 0 (1+cN Tm.afq ts) Zb (by
    intro j x v a;have:=cV Fm.afq a;rw[b x Zb Zb]
    rfl)
   rw[show(1:Int)=((1:Nat):Int)from rfl,e];simp only[cG,cR];rw[k2];simp[Fm.cK]
def iv{t:Fm}(h:t.wt<=1000000000):me t=some t.err:=by
 have:=t.eJ;unfold me Fm.err;rw[r9 FU t (by rw[dn];exact h) h,kN FU t (by rw[dn];omega) Zb];cases t.ok with
 |false=>simp|true=>by_cases a:4096<t.afq<;>simp[a]<;>omega
def yj(f:Fm)(h:f.wt<=1000000000):qL f=some (Fm.node f.afo f.cW f.dy.length f.afp.length):=by
 cases f with
 |mk k s ts l=>
  rw[Fm.dD] at h;show qL (.mk k s ts l)=some (Fm.node k s ts.length l.length)
  have d:(dC (ts.length:Int) 2&&dC (l.length:Int) 0)=(decide (ts.length=2)&&decide (l.length=0)):=by
   rw[vR];simp only[ew,dS,j8];omega
  have e:(dC (ts.length:Int) 0&&dC (l.length:Int) 2)=(decide (ts.length=0)&&decide (l.length=2)):=by
   rw[vR];simp only[ew,dS,j8];omega
  have g:(dC (ts.length:Int) 0&&dC (l.length:Int) 1)=(decide (ts.length=0)&&decide (l.length=1)):=by
   rw[vR];simp only[ew,dS,j8];omega
  unfold qL;simp only[Fm.cX,Fm.c8,Fm.eF,Fm.ds,cO,gY,ku,mu,dS,dK,hD (t:=s) Zb,lI,cG,cI,cP,d,e,g];unfold Fm.node
  by_cases b:k=1
  ·cases c:s.kV<;>simp[b]
  ·by_cases c:k=2\/k=3
   ·cases a:s.kV<;>simp[b,c]
   ·by_cases a:k=4\/k=5\/k=6\/k=7
    ·have i:gv k=true:=by simp[gv,a]
     by_cases j:s.err=0<;>simp[b,c,a,j,i]
    ·have i:gv k=false:=by simp[gv,a]
     simp[b,c,a,i]
def rY:∀(n:Nat) (t:Fm),t.wt<=n->t.wt<=1000000000->jX n t=some (if t.ok then((t.afq:Int),true)else(0,false)):=by
 intro n
 induction n with
 |zero=>intro t h;have:=t.eL;omega
 |succ n i=>
  intro t h g;cases t with
  |mk k s ts l=>
   have m:=yj (.mk k s ts l) g;rw[Fm.dD] at h g;have r:=Fm.jh l;have o:=Tm.jh ts;have hn:cN Tm.afq ts<=cN Tm.wt ts:=gn λx _=>x.eJ;have p:cN Fm.afq l<=cN Fm.wt l:=gn λx _=>x.eJ
   have q:eg (λ(e:Int) (a:Tm) (b:Int)=>c0 (jV FU a) λc d=>if d then some (eK.next (ep .i64 b c))else some (eK.ret ((0:Int),false))) ts 0 1=if ts.all Tm.ok then some (.inl ((1+cN Tm.afq ts:Nat):Int))else some (.inr (0,false)):=by
    refine od Tm.afq Tm.ok _ ts 0 1 Zb ?_;intro j x v f;have:=cV Tm.wt f;rw[oK FU x (by rw[dn];omega) Zb];cases x.ok<;>simp
   have k2:eg (λ(e:Int) (a:Fm) (b:Int)=>c0 (jX n a) λc d=>if d then some (eK.next (ep .i64 b c))else some (eK.ret ((0:Int),false))) l 0 ((1+cN Tm.afq ts:Nat):Int)=if l.all Fm.ok then some (.inl ((1+cN Tm.afq ts+cN Fm.afq l:Nat):Int))else some (.inr (0,false)):=by
    refine od Fm.afq Fm.ok _ l 0 _ Zb ?_;intro j x v f;have:=cV Fm.wt f;rw[i x Zb Zb];cases x.ok<;>simp
   rw[jX,m];simp only[Fm.cX,Fm.c8,Fm.eF,Fm.ds,cO,cQ (l:=l) Zb,cQ (l:=ts) Zb,cM,cG,q,Fm.eu,Fm.cK];cases u:Fm.node k s ts.length l.length with
   |false=>simp|true=>
    cases w:ts.all Tm.ok with
    |false=>simp|true=>
     simp only[if_true,cG,cR,k2,tx];cases y:l.all Fm.ok<;>simp
def kg{t:Fm}(h:t.wt<=1000000000):iS t=some (if t.err=0 then(t.afq:Int)else 0,t.err):=by
 unfold iS Fm.err;rw[rY FU t (by rw[dn];exact h) h];cases t.ok with
 |false=>simp|true=>
  by_cases a:4096<t.afq
  ·simp[a];omega
  ·simp[a];omega
def gJ{t:Fm}(h:t.wt<=1000000000):ly t=some t.err:=by
 unfold ly;rw[kg h];rfl
def zT:∀(n:Nat) (t:Fm),t.wt<=n->t.wt<=1000000000->lk n t=some t:=by
 intro n
 induction n with
 |zero=>intro t h;have:=t.eL;omega
 |succ n c=>
  intro t h d;cases t with
  |mk k s ts l=>
   rw[Fm.dD] at h d;have f:=Fm.jh l;have e:=Tm.jh ts;rw[lk];simp only[Fm.cX,Fm.c8,Fm.eF,Fm.ds,cO,cQ (l:=l) Zb,cQ (l:=ts) Zb,cM,fo (t:=s) Zb,cG];rw[eW id ts 0 [] aaV]
   ·simp only[cG,cR];rw[eW id l 0 [] aaV]
    ·simp
    ·intro j x v a b;have:=cV Fm.wt a;rw[c x Zb Zb];simp[di (l:=v) (m:=[x]) (by simpa using b)]
   ·intro j x v a b;have:=cV Tm.wt a;rw[iL (t:=x) Zb];simp[di (l:=v) (m:=[x]) (by simpa using b)]
def gU{t:Fm}(h:t.wt<=1000000000):lk FU t=some t:=zT FU t (by rw[dn];exact h) h
mutual
def Fm.has:Fm->Bool
 |.mk k _ _ l=>if k=1 then false else if k=2 then Fm.A5 l else if k=5 then true else Fm.xH l
def Fm.A5:List Fm->Bool
 |[]=>false|f::l=>f.has||Fm.A5 l
def Fm.xH:List Fm->Bool
 |[]=>false|[f]=>f.has|_::f::l=>Fm.xH (f::l)
end
def FE(k:Int)(a b:Ty):Ty×Bool×Int:=if(Ty.mk k [a,b]).err≠0 then(.mk 0 [],false,(Ty.mk k [a,b]).err)else(.mk k [a,b],true,0)
def SC(first last:Ty×Bool×Int):Ty×Bool×Int:=
 if first.2.2≠0\/first.2.1=false then(last.1,last.2.1,first.2.2)else if last.2.1 then FE 3 first.1 last.1 else(first.1,true,0)
def SS(first last:Ty×Bool×Int):Ty×Bool×Int:=
 if first.2.2≠0\/first.2.1=false then(last.1,true,first.2.2)else FE 4 first.1 last.1
def ON(k:Int)(s:Ty)(first last:Ty×Bool×Int):Ty×Bool×Int:=
 if last.2.2≠0 then(.mk 0 [],false,last.2.2)
 else if k=2 then SC first last
 else if k=5 then(if last.2.1 then FE 3 s last.1 else(s,true,0))
 else if last.2.1 then(if k=3 then SS first last else if k=4 then FE 4 s last.1 else(last.1,true,0))
 else(.mk 0 [],false,0)
def Pj:Ty×Bool×Int:=(.mk 0 [],false,0)
mutual
def Fm.ct:Fm->Ty×Bool×Int
 |.mk k s _ l=>if k=1 then Pj else ON k s (Fm.Th l) (Fm.Nk l)
def Fm.Th:List Fm->Ty×Bool×Int
 |[]=>Pj|f::_=>f.ct
def Fm.Nk:List Fm->Ty×Bool×Int
 |[]=>Pj|[f]=>f.ct|_::f::l=>Fm.Nk (f::l)
end
def Fm.sn(k:Int)(s:Ty)(ts:List Tm)(a b:Fm):(Fm.mk k s ts [a,b]).has=if k=1 then false else if k=2 then a.has||b.has else if k=5 then true else b.has:=by
 rw[Fm.has];simp[Fm.A5,Fm.xH]
def Fm.sx(k:Int)(s:Ty)(ts:List Tm)(a:Fm):(Fm.mk k s ts [a]).has=if k=1 then false else if k=5 then true else a.has:=by
 rw[Fm.has];simp only[Fm.A5,Fm.xH,V5]
 by_cases b:k=2
 ·subst b;simp
 ·simp[b]
def Fm.has_eq(s:Ty)(ts:List Tm)(l:List Fm):(Fm.mk 1 s ts l).has=false:=by rw[Fm.has];simp
def Fm.jJ{p:Fm->Prop}(n:∀a b:Tm,a.ok=true->b.ok=true->p (.mk 1 (.mk 0 []) [a,b] []))
  (o:∀(k:Int) (a b:Fm),k=2\/k=3->a.ok=true->b.ok=true->p a->p b->p (.mk k (.mk 0 []) [] [a,b]))
  (q:∀(k:Int) (s:Ty) (a:Fm),k=4\/k=5\/k=6\/k=7->s.err=0->a.ok=true->p a->p (.mk k s [] [a])) (f:Fm) (g:f.ok=true):p f:=by
 induction f using Fm.ind with
 |h k s ts l i=>
  rw[Fm.eu] at g;simp only[ew,gR] at g;obtain⟨⟨hn,d⟩,c⟩:=g;unfold Fm.node at hn
  split at hn
  ·rename_i j;subst j;simp only[ew,j8,Ty.ik] at hn;obtain⟨⟨rfl,e⟩,m⟩:=hn;obtain⟨a,b,rfl⟩:=kz (l:=ts) Zb;have:=NT.1 m;subst this;exact n a b (d a aae) (d b aae)
  ·split at hn
   ·rename_i j;simp only[ew,j8,Ty.ik] at hn;obtain⟨⟨rfl,e⟩,m⟩:=hn;obtain⟨a,b,rfl⟩:=kz (l:=l) Zb;have:=NT.1 e;subst this;exact o k a b j (c a aae) (c b aae) (i a aae (c a aae)) (i b aae (c b aae))
   ·simp only[ew,j8] at hn;obtain⟨⟨⟨r,hs⟩,e⟩,m⟩:=hn;obtain⟨a,rfl⟩:=fO (l:=l) Zb;have:=NT.1 e;subst this;refine q k s a ?_ hs (c a aae) (i a aae (c a aae));simpa[gv] using r
theorem Ty.gq{t:Ty}(h:t.err=0):t.ok=true/\t.afq<=64:=by
 unfold Ty.err at h
 split at h
 ·split at h
  ·omega
  ·exact⟨‹_›,Zb⟩
 ·omega
theorem Ty.qk{t:Ty}(h:t.ok=true)(a:t.afq<=64):t.err=0:=by unfold Ty.err;rw[cL h,cJ Zb]
def Ty.ok_two{k:Int}(c:k=3\/k=4){a b:Ty}(d:a.ok=true)(e:b.ok=true):(Ty.mk k [a,b]).ok=true:=by
 rw[Ty.eu]
 have:¬(k=1\/k=2\/k=5):=Zb
 simp[Ty.want,c,this,d,e]
theorem Ty.sd(k:Int)(a b:Ty):(Ty.mk k [a,b]).afq=1+a.afq+b.afq:=by rw[Ty.cK];simp[cN];omega
theorem Fm.ey{f:Fm}(h:f.err=0):f.ok=true/\f.afq<=4096:=by
 unfold Fm.err at h
 split at h
 ·split at h
  ·omega
  ·exact⟨‹_›,Zb⟩
 ·omega
def Fm.cty(f:Fm):Ty×Int:=if f.err≠0 then(.mk 0 [],f.err)else if f.ct.2.2≠0 then(.mk 0 [],f.ct.2.2)else(if f.has then f.ct.1 else .mk 5 [],0)
def we:∀(n:Nat) (f:Fm),f.afq<=n->f.ok=true->jr n f=some f.has:=by
 intro n
 induction n with
 |zero=>intro f h;have:=f.da;omega
 |succ n e=>
  intro f h q;refine Fm.jJ (p:=λf=>f.afq<=n+1->jr (n+1) f=some f.has) ?_ ?_ ?_ f q h
  ·intro a b _ _ _;rw[jr,Fm.has_eq];rfl
  ·intro k a b r g t _ _ hn;rw[Fm.cK] at hn;simp only[cN] at hn;have d:=e a Zb g;have i:=e b Zb t
   have c:k≠1:=Zb
   have j:k≠5:=Zb
   have l:du [a,b] (eH .i64 (dT [a,b]) 1)=some b:=by
    rw[dF aae aae];rfl
   have u:du [a,b] 0=some a:=rfl;have v:du [a,b] 1=some b:=rfl;rw[jr,Fm.sn,cJ c];simp only[Fm.cX,Fm.c8,dS,c,j,jm,l,u,v,cG,i,d,cO]
   by_cases o:k=2
   ·simp only[o,if_true];cases a.has<;>simp
   ·simp[o]
  ·intro k s a r hs g _ hn;rw[Fm.cK] at hn;simp only[cN] at hn;have d:=e a Zb g
   have c:k≠1:=Zb
   have m:k≠2:=Zb
   have l:du [a] (eH .i64 (dT [a]) 1)=some a:=by
    rw[dF aae aae];rfl
   rw[jr,Fm.sx,cJ c];simp only[Fm.cX,Fm.c8,dS,c,m,jm,l,cG,d]
   by_cases w:k=5<;>simp[w]
def vC(f:Fm)(h:f.wt<=1000000000):ou f=some (if f.err≠0 then(false,f.err)else(f.has,0)):=by
 unfold ou;rw[iv h];simp only[cG,cP]
 by_cases he:f.err=0
 ·rw[we FU f (by rw[dn];have:=f.eJ;omega) (Fm.ey he).1];simp[he]
 ·simp[he]
theorem Fm.qk{f:Fm}(h:f.ok=true)(a:f.afq<=4096):f.err=0:=by unfold Fm.err;rw[cL h,cJ Zb]
def Ty.nat:Ty:=.mk 1 []
def Ty.hS:Ty:=.mk 2 []
def Ty.unit:Ty:=.mk 5 []
def Ty.fn(a b:Ty):Ty:=.mk 4 [a,b]
def Ty.pr(a b:Ty):Ty:=.mk 3 [a,b]
def Ty.z:Ty:=.mk 0 []
inductive dd:List Ty->Tm->Ty->Prop
 |var {g t} (i:Nat):i<g.length->g[g.length-1-i]?=some t->dd g (.mk 1 i .z []) t|lam {g s b t}:(Ty.fn s t).err=0->dd (g++[s]) b t->dd g (.mk 2 0 s [b]) (.fn s t)|app {g f a s t}:dd g f (.fn s t)->dd g a s->dd g (.mk 3 0 .z [f,a]) t|zero {g}:dd g (.mk 4 0 .z []) .nat|succ {g a}:dd g a .nat->dd g (.mk 5 0 .z [a]) .nat|m4 {g t b s n}:t.err=0->dd g b t->dd g s (.fn .nat (.fn t t))->dd g n .nat->dd g (.mk 6 0 t [b,s,n]) t|nil {g}:dd g (.mk 7 0 .z []) .hS|cons {g a b}:dd g a .nat->dd g b .hS->dd g (.mk 8 0 .z [a,b]) .hS|fold {g t b s n}:t.err=0->dd g b t->dd g s (.fn .nat (.fn .hS (.fn t t)))->dd g n .hS->dd g (.mk 9 0 t [b,s,n]) t|pair {g a b s t}:(Ty.pr s t).err=0->dd g a s->dd g b t->dd g (.mk 10 0 .z [a,b]) (.pr s t)|fst {g a s t}:dd g a (.pr s t)->dd g (.mk 11 0 .z [a]) s|snd {g a s t}:dd g a (.pr s t)->dd g (.mk 12 0 .z [a]) t|unit {g}:dd g (.mk 13 0 .z []) .unit
theorem Ty.jW:Ty.z.kV=true:=rfl
def Ty.mB{k:Int}(c:k=3\/k=4){a b:Ty}(h:(Ty.mk k [a,b]).err=0):a.err=0/\b.err=0:=by grind[Ty.gq,Ty.eu,Ty.sd,Ty.qk]
def dd.ok{g:List Ty}{x:Tm}{t:Ty}(h:dd g x t):x.ok=true:=by
 induction h with
 |var i d f=>grind[Tm.eu,Tm.node,eC,f_,Ty.jW]|lam d _ c=>have:=(Ty.mB (.inr rfl) d).1;simp[Tm.eu,Tm.node,eC,f_,this,c]
 |app _ _ a b=>simp[Tm.eu,Tm.node,eC,f_,Ty.jW,a,b]|zero=>simp[Tm.eu,Tm.node,eC,f_,Ty.jW]|succ _ c=>simp[Tm.eu,Tm.node,eC,f_,Ty.jW,c]|m4 d _ _ _ a b e=>grind[Tm.eu,Tm.node,eC,f_]|nil=>simp[Tm.eu,Tm.node,eC,f_,Ty.jW]|cons _ _ a b=>simp[Tm.eu,Tm.node,eC,f_,Ty.jW,a,b]|fold d _ _ _ a b e=>grind[Tm.eu,Tm.node,eC,f_]|pair _ _ _ a b=>simp[Tm.eu,Tm.node,eC,f_,Ty.jW,a,b]|fst _ c=>simp[Tm.eu,Tm.node,eC,f_,Ty.jW,c]|snd _ c=>simp[Tm.eu,Tm.node,eC,f_,Ty.jW,c]|unit=>simp[Tm.eu,Tm.node,eC,f_,Ty.jW]
def Tm.ir(t:Tm):∀{m n:Int},m<=n->t.afu m=true->t.afu n=true:=by
 induction t using Tm.ind with
 |h k i s l a=>grind[Tm.dj]
def dd.afu{g:List Ty}{x:Tm}{t:Ty}(h:dd g x t):∀m:Int,((g.length+x.afq:Nat):Int)<=m->x.afu m=true:=by
 induction h with
 |var i e f=>grind[Tm.cK,cN,Tm.dj]|lam _ _ c=>grind[Tm.cK,cN,Tm.dj]|zero|nil|unit=>grind[Tm.cK,cN,Tm.dj]|succ _ c|fst _ c|snd _ c=>grind[Tm.cK,cN,Tm.dj]|app _ _ a b|cons _ _ a b|pair _ _ _ a b=>grind[Tm.cK,cN,Tm.dj]|m4 _ _ _ _ a b d|fold _ _ _ _ a b d=>grind[Tm.cK,cN,Tm.dj]
def pV{α:Type}{f g:α->Nat}{c:Nat}{l:List α}(h:∀x∈l,f x<=c*g x):cN f l<=c*cN g l:=by
 induction l with
 |nil=>simp[cN]|cons x l a=>simp only[cN,J2];have:=h x aae;have:=a λy hy=>h y (by simp[hy]);omega
def Tm.eY(t:Tm)(h:t.ok=true):t.wt<=65*t.afq:=by
 induction t using Tm.ind with
 |h k i s l c=>
  rw[Tm.eu] at h;simp only[ew,gR] at h;rw[Tm.dD,Tm.cK,J2];have d:=pV λx b=>c x b (h.2 x b)
  have e:s.afq<=64:=by
   have:=h.1;simp only[Tm.node,ew] at this;have a:=this.2
   split at a
   ·simp only[j8] at a;exact(Ty.gq a).2
   ·grind[Ty.ik,Ty.cK,cN]
  omega
def Fm.eY(f:Fm)(h:f.ok=true):f.wt<=65*f.afq:=by
 induction f using Fm.ind with
 |h k s ts l b=>
  rw[Fm.eu] at h;simp only[ew,gR] at h;rw[Fm.dD,Fm.cK,J2,J2];have d:=pV λx a=>b x a (h.2 x a);have e:=pV (f:=Tm.wt) (g:=Tm.afq) (c:=65) (l:=ts) λx a=>x.eY (h.1.2 x a)
  have i:s.afq<=64:=by
   have:=h.1.1;unfold Fm.node at this
   split at this
   ·grind[Ty.ik,Ty.cK,cN]
   ·split at this
    ·grind[Ty.ik,Ty.cK,cN]
    ·simp only[ew,j8] at this;exact(Ty.gq this.1.1.2).2
  omega
structure db.wf (d:db):Prop where
 len:d.l.length<=1000
 lo:0<=d.vr
 hi:d.vr<=d.l.length
def Gk(x n:Int)(c:1<=n)(d:n<=1000000000):∃y,HL x n=some y/\0<=y/\y<n:=by
 unfold HL;simp only[IJ (b:=n) Zb];refine⟨_,rfl,?_⟩;unfold Uy
 have e:(x.tmod n).natAbs<n.natAbs:=by
  rw[Z2];exact Vx _ Zb
 rw[dk Zb Zb]
 have a:0<=x.tmod n+n:=Zb
 exact⟨ZJ _ a,aa5 _ Zb⟩
def gy(d:db)(a:d.wf)(n:Int)(c:1<=n)(e:n<=1000000000):∃x b,gW d n=some (x,b)/\0<=x/\x<n/\b.wf:=by
 unfold gW;simp only[gY,mu,hW,fB,dK]
 by_cases f:n<1\/(d.l.length:Int)<=d.vr
 ·grind
 ·rw[cJ f];obtain⟨y,hy,_⟩:=Am (l:=d.l) a.lo Zb;obtain⟨z,g,h,i⟩:=Gk y n c e;rw[hy];simp only[cG,g];have:=a.len;have:=a.lo;rw[dk Zb Zb];exact⟨z,_,rfl,h,i,⟨a.len,by show 0<=d.vr+1;omega,by show d.vr+1<=(d.l.length:Int);omega⟩⟩
def dL:lp=some .nat:=rfl
def eo:q8=some .hS:=rfl
def zL:Ae=some .unit:=rfl
def qz{a b:Ty}(c:a.afq<=1000000000)(d:b.afq<=1000000000):xC a b=some (.pr a b):=by
 unfold xC;rw[fo c,fo d];rfl
def fu{a b:Ty}(c:a.afq<=1000000000)(d:b.afq<=1000000000):lC a b=some (.fn a b):=by
 unfold lC;rw[fo c,fo d];rfl
def Ty.I2:Ty.nat.ok=true:=by unfold Ty.nat;rw[Ty.eu];rfl
def Ty.Jn:Ty.hS.ok=true:=by unfold Ty.hS;rw[Ty.eu];rfl
def Ty.FD:Ty.unit.ok=true:=by unfold Ty.unit;rw[Ty.eu];rfl
def Ty.eM:Ty.nat.afq=1:=by unfold Ty.nat;rw[Ty.cK];rfl
def Ty.jR:Ty.hS.afq=1:=by unfold Ty.hS;rw[Ty.cK];rfl
def Ty.yP:Ty.unit.afq=1:=by unfold Ty.unit;rw[Ty.cK];rfl
def Ty.fR(a b:Ty):(Ty.fn a b).afq=1+a.afq+b.afq:=Ty.sd _ _ _
def Ty.nS(a b:Ty):(Ty.pr a b).afq=1+a.afq+b.afq:=Ty.sd _ _ _
theorem JJ(k:Nat)(h:k<=4):1<=2^k/\2^k<=16:=by
 have:k=0\/k=1\/k=2\/k=3\/k=4:=Zb
 grind
def EI:∀(n k:Nat) (d:db),k<n->k<=4->d.wf->∃t f,ja n d (k:Int)=some (t,f)/\t.ok=true/\t.afq+1<=2^(k+1)/\f.wf:=by
 intro n
 induction n with
 |zero=>intro k d h;omega|succ n v=>
  intro k d w j r;obtain⟨x,d1,s,y,z,g⟩:=gy d r 7 Zb Zb;have A:=JJ k j
  have B:(2:Nat)^(k+1)=2*2^k:=by rw[V3];omega
  have c:=λf (l:db.wf f)=>(⟨Ty.nat,f,rfl,Ty.I2,by rw[Ty.eM];omega,l⟩:∃t i,some (Ty.nat,f)=some (t,i)/\t.ok=true/\t.afq+1<=2^(k+1)/\i.wf);rw[ja];simp only[cO,s,cI,dL,eo,zL,cG,gY,mu,dS,eb]
  split
  ·exact c d1 g
  split
  ·exact⟨.hS,d1,rfl,Ty.Jn,by rw[Ty.jR];omega,g⟩
  split
  ·exact⟨.unit,d1,rfl,Ty.FD,by rw[Ty.yP];omega,g⟩
  have two:0<(k:Int)->∃a b d2 d3,ja n d1 (eH .i64 (k:Int) 1)=some (a,d2)/\ja n d2 (eH .i64 (k:Int) 1)=some (b,d3)/\a.ok=true/\b.ok=true/\a.afq+1<=2^k/\b.afq+1<=2^k/\d3.wf:=by
   intro e;obtain⟨m,rfl⟩:∃m,k=m+1:=⟨k-1,Zb⟩
   grind[dF]
  split
  ·split
   ·rename_i e;obtain⟨a,b,d2,d3,a1,o,a2,p,a3,u,q⟩:=two e;rw[a1];simp only[cI];rw[o];simp only[cI];rw[qz Zb Zb];exact⟨_,_,rfl,Ty.ok_two (.inl rfl) a2 p,by rw[Ty.nS];omega,q⟩
   ·exact c d1 g
  split
  ·split
   ·rename_i e;obtain⟨a,b,d2,d3,a1,o,a2,p,a3,u,q⟩:=two e;rw[a1];simp only[cI];rw[o];simp only[cI];rw[fu Zb Zb];exact⟨_,_,rfl,Ty.ok_two (.inr rfl) a2 p,by rw[Ty.fR];omega,q⟩
   ·exact c d1 g
  ·exact c d1 g
def p5(d:db)(b:d.wf)(k:Nat)(c:k<=4):∃t a,ja FU d (k:Int)=some (t,a)/\t.err=0/\t.afq+1<=2^(k+1)/\a.wf:=by
 obtain⟨t,a,e,f,g,h⟩:=EI FU k d (by rw[dn];omega) c b
 grind[JJ,Ty.qk]
def Ew(g:List Ty)(t:Ty)(hg:g.length<=1000000)(hn:∀s∈g,s.afq<=1000000000):∃l,Dt g t=some l/\l.length<=g.length/\∀v∈l,∃i:Nat,v=i/\i<g.length/\g[g.length-1-i]?=some t:=by
 unfold Dt;simp only[cQ (l:=g) Zb,cM,cO]
 have key:∀(l:List Ty) (i:Nat) (v:List Int),i+l.length=g.length->v.length<=i->(∀x∈v,∃j:Nat,x=j/\j<g.length/\g[g.length-1-j]?=some t)->∃a,eg (ρ:=List Int) (λ(j:Int) (r:Ty) (v:List Int)=>cH (du g (eH .i64 (eH .i64 (dT g) 1) j)) λx=>cH (eG FU x t) λy=>if y then fU (eZ v [j]) (some (eK.next (fK v [j])))else some (eK.next v)) l i v=some (.inl a)/\a.length<=g.length/\∀x∈a,∃j:Nat,x=j/\j<g.length/\g[g.length-1-j]?=some t:=by
  intro l
  induction l with
  |nil=>
   intro i v d k c;exact⟨v,rfl,by simp at d;omega,c⟩
  |cons y l f=>
   intro i v d k c;simp only[hQ] at d
   have b:g.length-1-i<g.length:=Zb
   have n:du g (eH .i64 (eH .i64 (dT g) 1) (i:Int))=some g[g.length-1-i]:=by grind[dK,dF,fw]
   rw[dq];simp only[n,cG,fm (hn _ (zf b))];cases hs:Ty.fX g[g.length-1-i] t with
   |false=>
    simp only[qa,jm,cG,dt];exact f (i+1) v Zb Zb c
   |true=>
    rw[Ty.gi] at hs;simp only[if_true,di (l:=v) (m:=[(i:Int)]) aaV,cM,cG,dt,ec];refine f (i+1) (v++[(i:Int)]) Zb aaV ?_;intro x e;rcases tA.1 e with h|h
    ·exact c x h
    ·rw[qn] at h;exact⟨i,h,Zb,by rw[mr b,hs]⟩
 obtain⟨a,o,p,q⟩:=key g 0 [] aae aae aae;rw[o];exact⟨a,rfl,p,q⟩
def jA(g l:List Ty)(h:g.length+l.length<=1000000):oB g l=some (g++l):=by
 unfold oB;rw[di aaV,di aaV];simp
def wv(n:Nat)(hn:n<=1000000):∃x,rm (n:Int)=some x/\∀g,dd g x .nat/\x.afq=n+1:=by
 unfold rm;rw[kq 4 [] (by simp[cN])];simp only[cG,cO]
 obtain⟨o,m,l⟩:=nG (ρ:=Tm) (F:=Qd λ(h:Int) (i:Int) (v167:Int) (v168:Int) (j:List Ty) (k:List Tm)=>
   if pc h 0 then some (eK.next (eH .i64 h 1,5,0,0,[],[Tm.mk i v167 (Ty.mk v168 j) k]))else some (eK.DN (h,i,v167,v168,j,k)))
  (λs=>0<=s.1/\s.1<=n/\(∀g,dd g (Tm.mk s.2.1 s.2.2.1 (Ty.mk s.2.2.2.1 s.2.2.2.2.1) s.2.2.2.2.2) .nat)/\(Tm.mk s.2.1 s.2.2.1 (Ty.mk s.2.2.2.1 s.2.2.2.2.1) s.2.2.2.2.2).afq+s.1=n+1)
  (λs=>s.1.toNat)
  (λo=>match o with|.inl s=>(∀g,dd g (Tm.mk s.2.1 s.2.2.1 (Ty.mk s.2.2.2.1 s.2.2.2.2.1) s.2.2.2.2.2) .nat)/\(Tm.mk s.2.1 s.2.2.1 (Ty.mk s.2.2.2.1 s.2.2.2.2.1) s.2.2.2.2.2).afq=n+1|.inr _=>False)
  (by
   rintro⟨a,b,c,d,e,f⟩ ⟨m,l,p,t⟩;simp only at m l p t
   by_cases q:0<a
   ·left;refine⟨_,by simp only[Bn,eb,q,if_true];rfl,⟨?_,?_,?_,?_⟩,?_⟩
    ·rw[dF Zb Zb];show 0<=a-1;omega
    ·rw[dF Zb Zb];show a-1<=n;omega
    ·intro g;exact dd.succ (p g)
    all_goals grind[dF,Tm.cK,cN]
   ·right;left;refine⟨_,by simp only[Bn,eb,q,jm];rfl,p,?_⟩
    have:a=0:=Zb
    subst this
    simp only;omega)
  FU ((n:Int),4,0,0,[],[]) ⟨aae,aae,λg=>dd.zero,by rw[Tm.cK];simp[cN];omega⟩ (by rw[dn];show(n:Int).toNat<_;omega)
 simp only[Tm.c8,Tm.dX,Tm.ds,Ty.c8,Ty.cX,Tm.cX];rw[m];cases o with
 |inr r=>exact l.elim|inl s=>
  obtain⟨a,b,c,d,e,f⟩:=s;exact⟨_,rfl,λg=>⟨l.1 g,l.2⟩⟩
def sm(n:Int)(b:0<=n)(hn:n<=4000):∃x,B2 n=some x/\∀g,dd g x .nat/\(x.afq:Int)=n+1:=by
 obtain⟨k,rfl⟩:=RL b;obtain⟨x,c,a⟩:=wv k Zb;unfold B2 y9;simp only[hW,fB];rw[cJ Zb,cJ Zb,c];exact⟨x,rfl,λg=>⟨(a g).1,by rw[(a g).2];simp⟩⟩
structure EG (g:List Ty) (x:Tm) (t:Ty) (n:Nat):Prop where
 ty:dd g x t
 afq:x.afq<=n
def EG.wt{g:List Ty}{x:Tm}{t:Ty}{n:Nat}(h:EG g x t n):x.wt<=65*n:=by
 have:=x.eY h.ty.ok;have:=h.afq;omega
theorem EG.mono{g:List Ty}{x:Tm}{t:Ty}{n m:Nat}(h:EG g x t n)(hm:n<=m):EG g x t m:=⟨h.ty,DJ h.afq hm⟩
def zx{k:Int}{a:Tm}(b:a.wt<=100000000):fj k [a]=some (.mk k 0 .z [a]):=kq k [a] (by simp[cN];omega)
def mP{k:Int}{a b:Tm}(c:a.wt<=100000000)(d:b.wt<=100000000):fj k [a,b]=some (.mk k 0 .z [a,b]):=kq k [a,b] (by simp[cN];omega)
def xE{k:Int}:fj k []=some (.mk k 0 .z []):=kq k [] (by simp[cN])
def tv{k:Int}{s:Ty}{a:Tm}(hs:s.afq<=1000000000)(b:a.wt<=100000000):nQ k s [a]=some (.mk k 0 s [a]):=yE k s [a] hs (by simp[cN];omega)
def u_{k:Int}{s:Ty}{a b c:Tm}(hs:s.afq<=1000000000)(d:a.wt<=100000000)(e:b.wt<=100000000)(f:c.wt<=100000000):nQ k s [a,b,c]=some (.mk k 0 s [a,b,c]):=
 yE k s [a,b,c] hs (by simp[cN];omega)
def Bq{f a b:Tm}(c:f.wt<=10000000)(d:a.wt<=10000000)(e:b.wt<=10000000):EY f [a,b]=some (.mk 3 0 .z [.mk 3 0 .z [f,a],b]):=by
 have g:(Tm.mk 3 0 .z [f,a]).wt<=30000000:=by rw[Tm.dD];have:Ty.z.afq=1:=rfl;simp[cN,this];omega
 unfold EY
 simp only[cQ (l:=[a,b]) aae,cM,cO,dq,lz,Kr,Ty.ma,Tm.ma,mP (k:=3) (a:=f) (b:=a) Zb Zb,cG,dt,mP (k:=3) (a:=.mk 3 0 .z [f,a]) (b:=b) Zb Zb,cR]
def Ty.ek:Ty.nat.err=0:=Ty.qk Ty.I2 (by rw[Ty.eM];omega)
def Ty.jD:Ty.hS.err=0:=Ty.qk Ty.Jn (by rw[Ty.jR];omega)
def Ty.yz:Ty.unit.err=0:=Ty.qk Ty.FD (by rw[Ty.yP];omega)
def Ty.qj{a b:Ty}(c:a.err=0)(d:b.err=0)(h:a.afq+b.afq<=63):(Ty.fn a b).err=0:=Ty.qk (Ty.ok_two (.inr rfl) (Ty.gq c).1 (Ty.gq d).1) (by rw[Ty.fR];omega)
def Ty.El{a b:Ty}(c:a.err=0)(d:b.err=0)(h:a.afq+b.afq<=63):(Ty.pr a b).err=0:=Ty.qk (Ty.ok_two (.inl rfl) (Ty.gq c).1 (Ty.gq d).1) (by rw[Ty.nS];omega)
def xO(i:Nat):Tm:=.mk 1 i .z []
def im(s:Ty)(b:Tm):Tm:=.mk 2 0 s [b]
def eS(f a:Tm):Tm:=.mk 3 0 .z [f,a]
def k_:Tm:=.mk 4 0 .z []
def fA(a:Tm):Tm:=.mk 5 0 .z [a]
def Fy(t:Ty)(a b c:Tm):Tm:=.mk 6 0 t [a,b,c]
def iX:Tm:=im .nat (im .nat (Fy .nat (xO 1) (im .nat (im .nat (fA (xO 0)))) (xO 0)))
def Ef:Tm:=im .nat (Fy .nat k_ (im .nat (im .nat (xO 1))) (xO 0))
def I1:Tm:=im .nat (im .nat (Fy .nat (xO 1) (im .nat (im .nat (eS Ef (xO 0)))) (xO 0)))
def uX(i:Nat):fv (i:Int)=some (xO i):=rfl
def oc{a:Tm}(b:a.wt<=100000000):oC a=some (im .nat a):=by
 unfold oC;rw[dL];simp only[cG];rw[tv (by rw[Ty.eM];omega) b];rfl
def rec_eq{a b c:Tm}(d:a.wt<=100000000)(e:b.wt<=100000000)(f:c.wt<=100000000):vM a b c=some (Fy .nat a b c):=by
 unfold vM;rw[dL];simp only[cG];rw[u_ (by rw[Ty.eM];omega) d e f];rfl
def tm:vo=some iX:=by
 unfold vo;rw[show fv 1=some (xO 1)from rfl,show fv 0=some (xO 0)from rfl];simp only[cG];rw[zx Zk];simp only[cG];rw[oc Zk];simp only[cG];rw[oc Zk];simp only[cG];rw[rec_eq Zk Zk Zk];simp only[cG];rw[oc Zk];simp only[cG];rw[oc Zk];rfl
def zS:wS=some Ef:=by
 unfold wS;rw[show fv 1=some (xO 1)from rfl,show fv 0=some (xO 0)from rfl,xE];simp only[cG];rw[oc Zk];simp only[cG];rw[oc Zk];simp only[cG];rw[rec_eq Zk Zk Zk];simp only[cG];rw[oc Zk];rfl
def Bu:y7=some I1:=by
 unfold y7;rw[show fv 1=some (xO 1)from rfl,show fv 0=some (xO 0)from rfl,zS];simp only[cG];rw[mP Zk Zk];simp only[cG];rw[oc Zk];simp only[cG];rw[oc Zk];simp only[cG];rw[rec_eq Zk Zk Zk];simp only[cG];rw[oc Zk];simp only[cG];rw[oc Zk];rfl
def SU{g:List Ty}{t:Ty}(i:Nat)(h:i<g.length)(a:g[g.length-1-i]?=some t):dd g (xO i) t:=dd.var i h a
def kK{g:List Ty}{t:Ty}:dd (g++[t]) (xO 0) t:=dd.var 0 aae aae
def rP{g:List Ty}{s t:Ty}:dd (g++[t]++[s]) (xO 1) t:=dd.var 1 aae aae
def rO:(Ty.fn .nat .nat).err=0:=Ty.qj Ty.ek Ty.ek (by rw[Ty.eM];omega)
def vd:(Ty.fn .nat (Ty.fn .nat .nat)).err=0:=Ty.qj Ty.ek rO (by rw[Ty.fR,Ty.eM];omega)
def vK(g:List Ty):dd g iX (.fn .nat (.fn .nat .nat)):=
 .lam vd (.lam rO (.m4 Ty.ek rP (.lam vd (.lam rO (.succ kK))) kK))
def GY(g:List Ty):dd g Ef (.fn .nat .nat):=
 .lam rO (.m4 Ty.ek .zero (.lam vd (.lam rO rP)) kK)
def Ik(g:List Ty):dd g I1 (.fn .nat (.fn .nat .nat)):=
 .lam vd (.lam rO (.m4 Ty.ek rP (.lam vd (.lam rO (.app (GY _) kK))) kK))
def uR:iX.afq=9:=Zk
def CC:I1.afq=16:=Zk
def kC{α β:Type}{G:Option β->Prop}(P:α->Prop){k:α->Option β}{b:(α->Option β)->Option β}(c:∀a,P a->G (k a))(d:∀j:α->Option β,(∀a,P a->G (j a))->G (b j)):G (dO k b):=d k c
def yK{α γ β:Type}{G:Option β->Prop}(P:α->γ->Prop){k:α->γ->Option β}{b:(α->γ->Option β)->Option β}(d:∀a c,P a c->G (k a c))(e:∀j:α->γ->Option β,(∀a c,P a c->G (j a c))->G (b j)):G (dO k b):=e k d
def tb(N:Nat):Nat->Nat
 |0=>3*N|k+1=>30+3*tb N k
def S'{N:Nat}(a:N<=20):∀k,k<=5->tb N k<=18300:=by
 intro k b
 have:k=0\/k=1\/k=2\/k=3\/k=4\/k=5:=Zb
 rcases this with rfl|rfl|rfl|rfl|rfl|rfl<;>simp only[tb]<;>omega
def I5{N k:Nat}:3*N<=tb N k:=by
 induction k with
 |zero=>simp[tb]|succ k a=>grind[tb]
def gz(g:List Ty)(t:Ty)(b:Nat)(o:Option (Tm×db)):Prop:=∃x a,o=some (x,a)/\a.wf/\EG g x t b
def gz.of{g:List Ty}{t:Ty}{b:Nat}{x:Tm}{d:db}(a:d.wf)(h:dd g x t)(hn:x.afq<=b):gz g t b (some (x,d)):=⟨x,d,rfl,a,h,hn⟩
structure j9 (N:Nat) (g:List Ty):Prop where
 all:∀s∈g,s.err=0/\s.afq<=N
def j9.app{N:Nat}{g l:List Ty}(h:j9 N g)(a:∀s∈l,s.err=0/\s.afq<=N):j9 N (g++l):=
 ⟨λs hs=>by rcases tA.1 hs with h'|h';exact h.all s h';exact a s h'⟩
def Ty.lb{t:Ty}(h:t.err=0):t=.nat\/t=.hS\/t=.unit\/(∃a b,t=.pr a b/\a.err=0/\b.err=0)\/(∃a b,t=.fn a b/\a.err=0/\b.err=0):=by
 cases t with
 |mk k l=>
  have e:=(Ty.gq h).1;rw[Ty.eu] at e;simp only[ew,j8] at e;have c:=e.1;unfold Ty.want at c
  split at c
  ·rename_i d;injection c with c;have:=NT.1 c.symm;subst this;rcases d with rfl|rfl|rfl
   ·exact .inl rfl
   ·exact .inr (.inl rfl)
   ·exact .inr (.inr (.inl rfl))
  ·split at c
   ·rename_i d;injection c with c;obtain⟨a,b,rfl⟩:=kz (l:=l) Zb;have:=Ty.mB d h;rcases d with rfl|rfl
    ·exact .inr (.inr (.inr (.inl ⟨a,b,rfl,this⟩)))
    ·exact .inr (.inr (.inr (.inr ⟨a,b,rfl,this⟩)))
   ·cases c
set_option maxHeartbeats 1000000 in
def EL(N:Nat)(aK:1<=N)(hN:N<=20):∀(n:Nat) (dep:Int) (g:List Ty) (t:Ty) (d:db),dep.toNat*(N+1)+t.afq<n->dep<=5->-1000000<=dep-t.afq->g.length+(3+N)*dep.toNat+t.afq<=1000->j9 N g->t.err=0->t.afq<=N->d.wf->gz g t (if dep<=0 then 3*t.afq else tb N dep.toNat) (gL n d g t dep):=by
 intro n
 induction n with
 |zero=>intro dep g t d h;omega|succ n ih=>
  intro dep g t d hm aL aJ hlen hg q p hd;have aM:=t.da;have an:=(Ty.gq q).2
  have deep:0<dep->∀P M O,P.length<=g.length+3->j9 N P->M.err=0->M.afq<=N->O.wf->gz P M (tb N (dep.toNat-1)) (gL n O P M (eH .i64 dep 1)):=by
   intro e P M O Q T X v h5;obtain⟨k,rfl⟩:∃k:Nat,dep=(k+1:Nat):=⟨dep.toNat-1,Zb⟩
   have e1:((k+1:Nat):Int).toNat=k+1:=aae
   rw[e1] at hm hlen|-;rw[dF Zb Zb,show((k+1:Nat):Int)-1=(k:Int) by omega]
   have hmul:(k+1)*(N+1)=k*(N+1)+N+1:=by rw[zy];omega
   have ao:(3+N)*(k+1)=(3+N)*k+3+N:=by rw[J2];omega
   obtain⟨x,d1,a1,a2,a3⟩:=ih (k:Int) P M O aaV Zb Zb aaV T X v h5;refine⟨x,d1,a1,a2,a3.mono ?_⟩;simp only[Vo]
   split
   ·have:k=0:=Zb
    subst this;simp only[tb];omega
   ·simp
  have flat:dep<=0->∀P M O,P.length<=g.length+1->M.afq+1<=t.afq->j9 N P->M.err=0->O.wf->gz P M (3*M.afq) (gL n O P M (eH .i64 dep 1)):=by
   intro e P M O Q h0 T X h5
   have e1:dep.toNat=0:=Zb
   rw[e1] at hm hlen;rw[dF Zb Zb]
   have e2:(dep-1).toNat=0:=Zb
   have:=ih (dep-1) P M O (by rw[e2];omega) Zb Zb (by rw[e2];omega) T X Zb h5;rw[cL Zb] at this;exact this
  have U:0<dep->(if dep<=0 then 3*t.afq else tb N dep.toNat)=30+3*tb N (dep.toNat-1):=by
   intro e;rw[cJ Zb];obtain⟨k,hk⟩:∃k,dep.toNat=k+1:=⟨dep.toNat-1,Zb⟩;rw[hk];rfl
  have aq:0<dep->tb N (dep.toNat-1)<=18300:=λ_=>S' hN _ Zb
  have aa:3*t.afq<=(if dep<=0 then 3*t.afq else tb N dep.toNat):=by
   split
   ·omega
   ·have:=I5 (N:=N) (k:=dep.toNat);omega
  generalize (if dep<=0 then 3*t.afq else tb N dep.toNat)=B at U aa|-
  have m:∀{g x t},0<dep->EG g x t (tb N (dep.toNat-1))->x.wt<=1300000:=by
   intro g x t e h;have:=h.wt;have:=aq e;omega
  obtain⟨vs,ar,aN,aw⟩:=Ew g t Zb (λs hs=>by have:=(hg.all s hs).2;omega);rw[gL,ar];simp only[cG];refine yK (G:=gz g t B) (λa c=>c.wf/\(a=true->vs≠[])) ?_ ?_
  ·--a variable,or ab else
   rintro a d1 ⟨ad,ax⟩;cases a with
   |true=>
    simp only[if_true];have ay:=ax rfl
    have aO:1<=vs.length:=by cases vs with|nil=>exact absurd rfl ay|cons _ _=>simp
    obtain⟨x,d2,Q,T,X,v⟩:=gy d1 ad (dT vs) aaV aaV;rw[Q];simp only[cI];obtain⟨y,hy,az⟩:=Am (l:=vs) T (by simpa using X);rw[hy];simp only[cG];obtain⟨i,rfl,aA,aB⟩:=aw y az;rw[uX];refine gz.of v (SU i aA aB) ?_
    have:(xO i).afq=1:=by unfold xO;rw[Tm.cK];rfl
    omega
   |false=>
    simp only[qa,jm];refine kC (G:=gz g t B) db.wf ?_ ?_
    ·--by ah type
     intro d2 w;rcases Ty.lb q with rfl|rfl|rfl|⟨a,b,rfl,ha,hb⟩|⟨a,b,rfl,ha,hb⟩
     ·--numbers
      simp only[show Ty.nat.afo=1 from rfl,dS,if_true];refine kC (G:=gz g .nat B) db.wf ?_ ?_
      ·intro d3 Y;obtain⟨x,d4,Q,T,X,v⟩:=gy d3 Y 3 Zb Zb;rw[Q];simp only[cI];obtain⟨y,aC,ai⟩:=sm x T Zb;rw[aC];refine gz.of v (ai g).1 ?_;have:=(ai g).2;rw[Ty.eM] at aa;omega
      ·intro j S;simp only[eb]
       split
       ·rename_i e;have U:=U e;obtain⟨x,d4,Q,T,X,v⟩:=gy d2 w 5 Zb Zb;rw[Q];simp only[cI,dS]
        split
        ·obtain⟨a,d5,a1,a2,a3⟩:=deep e g .nat d4 Zb hg Ty.ek p v;rw[a1];simp only[cI];rw[zx (by have:=m e a3;omega)];refine gz.of a2 (.succ a3.ty) ?_;have:=a3.afq;rw[Tm.cK];simp only[cN];omega
        split
        ·rw[tm];simp only[cG];obtain⟨a,d5,a1,a2,a3⟩:=deep e g .nat d4 Zb hg Ty.ek p v;rw[a1];simp only[cI];obtain⟨b,d6,A,C,o⟩:=deep e g .nat d5 Zb hg Ty.ek p a2;rw[A];simp only[cI];rw[Bq Zk (by have:=m e a3;omega) (by have:=m e o;omega)];refine gz.of C (.app (.app (vK g) a3.ty) o.ty) ?_;have:=a3.afq;have:=o.afq;have:=uR;rw[Tm.cK];simp only[cN,Tm.cK];omega
        split
        ·rw[Bu];simp only[cG];obtain⟨a,d5,a1,a2,a3⟩:=deep e g .nat d4 Zb hg Ty.ek p v;rw[a1];simp only[cI];obtain⟨b,d6,A,C,o⟩:=deep e g .nat d5 Zb hg Ty.ek p a2;rw[A];simp only[cI];rw[Bq Zk (by have:=m e a3;omega) (by have:=m e o;omega)];refine gz.of C (.app (.app (Ik g) a3.ty) o.ty) ?_;have:=a3.afq;have:=o.afq;have:=CC;rw[Tm.cK];simp only[cN,Tm.cK];omega
        ·exact S d4 v
       ·exact S d2 w
     ·--lists
      simp only[show Ty.hS.afo=2 from rfl,dS,if_true,show¬(2:Int)=1 by omega,jm];refine yK (G:=gz g .hS B) (λa c=>c.wf/\(a=true->0<dep)) ?_ ?_
      ·rintro a d3 ⟨Y,e⟩;cases a with
       |true=>
        have e:=e rfl;have U:=U e;simp only[if_true];rw[dL];simp only[cG];obtain⟨a,d5,a1,a2,a3⟩:=deep e g .nat d3 Zb hg Ty.ek (by rw[Ty.eM];omega) Y;rw[a1];simp only[cI];obtain⟨b,d6,A,C,o⟩:=deep e g .hS d5 Zb hg Ty.jD p a2;rw[A];simp only[cI];rw[mP (by have:=m e a3;omega) (by have:=m e o;omega)];refine gz.of C (.cons a3.ty o.ty) ?_;have:=a3.afq;have:=o.afq;rw[Tm.cK];simp only[cN];omega
       |false=>
        simp only[qa,jm];rw[xE];refine gz.of Y .nil ?_;rw[Tm.cK];simp only[cN];omega
      ·intro j S;simp only[eb]
       split
       ·rename_i e;obtain⟨x,d4,Q,T,X,v⟩:=gy d2 w 2 Zb Zb;rw[Q];simp only[cI];exact S _ d4 ⟨v,λ_=>e⟩
       ·exact S _ d2 ⟨w,λh=>by cases h⟩
     ·simp only[show Ty.unit.afo=5 from rfl,dS,show¬(5:Int)=1 by omega,show¬(5:Int)=2 by omega,show¬(5:Int)=3 by omega,show¬(5:Int)=4 by omega,jm];rw[xE];refine gz.of w .unit ?_;rw[Tm.cK];simp only[cN];omega
     ·simp only[show(Ty.pr a b).afo=3 from rfl,show(Ty.pr a b).afp=[a,b] from rfl,dS,show¬(3:Int)=1 by omega,show¬(3:Int)=2 by omega,if_true,jm,dc,ef,fL,iU,cG];rw[Ty.nS] at p an aa
      by_cases e:0<dep
      ·have U:=U e;obtain⟨x,d5,a1,a2,a3⟩:=deep e g a d2 Zb hg ha Zb w;rw[a1];simp only[cI];obtain⟨y,d6,A,C,o⟩:=deep e g b d5 Zb hg hb Zb a2;rw[A];simp only[cI];rw[mP (by have:=m e a3;omega) (by have:=m e o;omega)];refine gz.of C (.pair q a3.ty o.ty) ?_;have:=a3.afq;have:=o.afq;rw[Tm.cK];simp only[cN];omega
      ·have aD:=Ty.nS a b;obtain⟨x,d5,a1,a2,a3⟩:=flat Zb g a d2 Zb Zb hg ha w;rw[a1];simp only[cI];obtain⟨y,d6,A,C,o⟩:=flat Zb g b d5 Zb Zb hg hb a2;rw[A];simp only[cI];have:=a3.afq;have:=o.afq;rw[mP (by have:=a3.wt;omega) (by have:=o.wt;omega)];refine gz.of C (.pair q a3.ty o.ty) ?_;rw[Tm.cK];simp only[cN];omega
     ·simp only[show(Ty.fn a b).afo=4 from rfl,show(Ty.fn a b).afp=[a,b] from rfl,dS,show¬(4:Int)=1 by omega,show¬(4:Int)=2 by omega,show¬(4:Int)=3 by omega,if_true,jm,dc,ef,fL,iU,cG];have aD:=Ty.fR a b;rw[jA g [a] aaV];simp only[cG];have R:j9 N (g++[a]):=hg.app (by intro s hs;rw[qn] at hs;subst hs;exact⟨ha,Zb⟩)
      by_cases e:0<dep
      ·have U:=U e;obtain⟨x,d5,a1,a2,a3⟩:=deep e (g++[a]) b d2 aae R hb Zb w;rw[a1];simp only[cI];rw[tv Zb (by have:=m e a3;omega)];refine gz.of a2 (.lam q a3.ty) ?_;have:=a3.afq;rw[Tm.cK];simp only[cN];omega
      ·obtain⟨x,d5,a1,a2,a3⟩:=flat Zb (g++[a]) b d2 aae Zb R hb w;rw[a1];simp only[cI];have:=a3.afq;rw[tv Zb (by have:=a3.wt;omega)];refine gz.of a2 (.lam q a3.ty) ?_;rw[Tm.cK];simp only[cN];omega
    ·--a aE,or one of ah context
     intro j S;simp only[eb]
     split
     ·rename_i e;have U:=U e;obtain⟨x,d2,Q,T,X,v⟩:=gy d1 ad 8 Zb Zb;rw[Q];simp only[cI,dS]
      have leaf:∀d,db.wf d->∃s O,ja FU d 0=some (s,O)/\s.err=0/\s.afq=1/\O.wf:=by
       intro d hd;obtain⟨s,O,c1,c2,c3,c4⟩:=p5 d hd 0 Zb;have:=s.da;exact⟨s,O,c1,c2,Zb,c4⟩
      split
      ·obtain⟨s,d3,s1,s2,s3,s4⟩:=leaf d2 v;rw[s1];simp only[cI];rw[jA g [s] aaV];simp only[cG];obtain⟨a,d5,a1,a2,a3⟩:=deep e (g++[s]) t d3 aae (hg.app (by intro u hu;rw[qn] at hu;subst hu;exact⟨s2,Zb⟩)) q p s4;rw[a1];simp only[cI];rw[tv Zb (by have:=m e a3;omega)];simp only[cG];obtain⟨b,d6,A,C,o⟩:=deep e g s d5 Zb hg s2 Zb a2;rw[A];simp only[cI];have w1:=m e a3;rw[mP (by rw[Tm.dD];simp only[cN];omega) (by have:=m e o;omega)];refine gz.of C (.app (.lam (Ty.qj s2 q Zb) a3.ty) o.ty) ?_;have:=a3.afq;have:=o.afq;rw[Tm.cK];simp only[cN,Tm.cK];omega
      split
      ·obtain⟨s,d3,s1,s2,s3,s4⟩:=leaf d2 v;rw[s1];simp only[cI];obtain⟨a,d5,a1,a2,a3⟩:=deep e g t d3 Zb hg q p s4;rw[a1];simp only[cI];obtain⟨b,d6,A,C,o⟩:=deep e g s d5 Zb hg s2 Zb a2;rw[A];simp only[cI];have w1:=m e a3;have w2:=m e o;rw[mP Zb Zb];simp only[cG];rw[zx (by rw[Tm.dD];have:Ty.z.afq=1:=rfl;simp only[cN];omega)];refine gz.of C (.fst (.pair (Ty.El q s2 Zb) a3.ty o.ty)) ?_;have:=a3.afq;have:=o.afq;rw[Tm.cK];simp only[cN,Tm.cK];omega
      split
      ·rw[dL];simp only[cG];rw[jA g [.nat,t] aaV];simp only[cG]
       have R:j9 N (g++[.nat,t]):=hg.app (by
        intro u hu;simp only[gT,lZ,kv] at hu;rcases hu with rfl|rfl
        ·exact⟨Ty.ek,by rw[Ty.eM];omega⟩
        ·exact⟨q,p⟩)
       obtain⟨a,d5,a1,a2,a3⟩:=deep e (g++[.nat,t]) t d2 aae R q p v;rw[a1];simp only[cI];have w1:=m e a3;have nn:=Ty.eM;rw[tv Zb Zb];simp only[cG];rw[tv Zb (by rw[Tm.dD];simp only[cN];omega)];simp only[cG];obtain⟨b,d6,A,C,o⟩:=deep e g t d5 Zb hg q p a2;rw[A];simp only[cI];obtain⟨y,d7,y1,y2,y3,y4⟩:=gy d6 C 3 Zb Zb;rw[y1];simp only[cI];obtain⟨z,z1,z2⟩:=sm y y2 Zb;rw[z1];simp only[cG];have w2:=m e o;have zn:=(z2 g).2;have zw:=z.eY (z2 g).1.ok
       have e1:(Tm.mk 2 0 .nat [Tm.mk 2 0 t [a]]).wt<=2000000:=by rw[Tm.dD];simp only[cN,Tm.dD];omega
       rw[u_ Zb Zb Zb Zb];have V:(Ty.fn t t).err=0:=Ty.qj q q Zb;refine gz.of y4 (.m4 q o.ty (.lam (Ty.qj Ty.ek V (by rw[Ty.fR];omega)) (.lam V (by simpa using a3.ty))) (z2 g).1) ?_;have:=a3.afq;have:=o.afq;rw[Tm.cK];simp only[cN,Tm.cK];omega
      split
      ·rw[dL,eo];simp only[cG];rw[jA g [.nat,.hS,t] aaV];simp only[cG]
       have R:j9 N (g++[.nat,.hS,t]):=hg.app (by
        intro u hu;simp only[gT,lZ,kv] at hu;rcases hu with rfl|rfl|rfl
        ·exact⟨Ty.ek,by rw[Ty.eM];omega⟩
        ·exact⟨Ty.jD,by rw[Ty.jR];omega⟩
        ·exact⟨q,p⟩)
       obtain⟨a,d5,a1,a2,a3⟩:=deep e (g++[.nat,.hS,t]) t d2 aae R q p v;rw[a1];simp only[cI];have w1:=m e a3;have nn:=Ty.eM;have ln:=Ty.jR;rw[tv Zb Zb];simp only[cG];rw[tv Zb (by rw[Tm.dD];simp only[cN];omega)];simp only[cG];rw[tv Zb (by rw[Tm.dD];simp only[cN,Tm.dD];omega)];simp only[cG];obtain⟨b,d6,A,C,o⟩:=deep e g t d5 Zb hg q p a2;rw[A];simp only[cI];obtain⟨c,d7,c1,c2,c3⟩:=deep e g .hS d6 Zb hg Ty.jD Zb C;rw[c1];simp only[cI];have w2:=m e o;have w3:=m e c3
       have e1:(Tm.mk 2 0 .nat [Tm.mk 2 0 .hS [Tm.mk 2 0 t [a]]]).wt<=2000000:=by rw[Tm.dD];simp only[cN,Tm.dD];omega
       rw[u_ Zb Zb Zb Zb];have V:(Ty.fn t t).err=0:=Ty.qj q q Zb;have Z:(Ty.fn .hS (Ty.fn t t)).err=0:=Ty.qj Ty.jD V (by rw[Ty.fR];omega);refine gz.of c2 (.fold q o.ty (.lam (Ty.qj Ty.ek Z (by rw[Ty.fR,Ty.fR];omega)) (.lam Z (.lam V (by simpa using a3.ty)))) c3.ty) ?_;have:=a3.afq;have:=o.afq;have:=c3.afq;rw[Tm.cK];simp only[cN,Tm.cK];omega
      split
      ·obtain⟨s,d3,s1,s2,s3,s4⟩:=leaf d2 v;rw[s1];simp only[cI];obtain⟨a,d5,a1,a2,a3⟩:=deep e g s d3 Zb hg s2 Zb s4;rw[a1];simp only[cI];obtain⟨b,d6,A,C,o⟩:=deep e g t d5 Zb hg q p a2;rw[A];simp only[cI];have w1:=m e a3;have w2:=m e o;rw[mP Zb Zb];simp only[cG];rw[zx (by rw[Tm.dD];have:Ty.z.afq=1:=rfl;simp only[cN];omega)];refine gz.of C (.snd (.pair (Ty.El s2 q Zb) a3.ty o.ty)) ?_;have:=a3.afq;have:=o.afq;rw[Tm.cK];simp only[cN,Tm.cK];omega
      split
      ·--a function of ah context
       rw[cQ Zb,cM];simp only[cO]
       rcases Aw (λ_:Unit=>True) (λr:Tm×db=>gz g t B (some r)) (F:=λ(E:Int) (aF:Ty) (_:Unit)=>
         cH (du g (eH .i64 (eH .i64 (dT g) 1) E)) λD=>
          if D.afo=4 then cH (du D.afp 1) λae=>cH (eG FU ae t) λaf=>
           if af then cH (fv E) λH=>cH (du D.afp 0) λI=>c0 (gL n d2 g I (eH .i64 dep 1)) λJ K=>
            cH (fj 3 [H,J]) λL=>some (eK.ret (L,K))
           else some (eK.next ())
          else if false then cH (fv E) λH=>cH (du D.afp 0) λI=>c0 (gL n d2 g I (eH .i64 dep 1)) λJ K=>
            cH (fj 3 [H,J]) λL=>some (eK.ret (L,K))
           else some (eK.next ())) g 0 () trivial (by
        intro k u s hk _;have aG:k<g.length:=(qR.1 hk).1
        have W:g.length-1-k<g.length:=Zb
        have e1:du g (eH .i64 (eH .i64 (dT g) 1) ((0+k:Nat):Int))=some g[g.length-1-k]:=by
         rw[sZ,dK,dF (a:=(g.length:Int)) (b:=1) Zb Zb,dF Zb Zb,show(g.length:Int)-1-(k:Int)=((g.length-1-k:Nat):Int) by omega,fw];simp[W]
        simp only[e1,cG];have hf:=hg.all _ (zf W);have ak:g[g.length-1-k]?=some g[g.length-1-k]:=mr W;generalize g[g.length-1-k]=f at hf ak|-;rcases Ty.lb hf.1 with rfl|rfl|rfl|⟨a,b,rfl,ha,hb⟩|⟨a,b,rfl,ha,hb⟩
        ·left;exact⟨(),rfl,trivial⟩
        ·left;exact⟨(),rfl,trivial⟩
        ·left;exact⟨(),rfl,trivial⟩
        ·left;exact⟨(),rfl,trivial⟩
        ·simp only[show(Ty.fn a b).afo=4 from rfl,show(Ty.fn a b).afp=[a,b] from rfl,dS,if_true,dc,ef,fL,iU,cG];have aH:=hf.2;rw[Ty.fR] at aH;rw[fm Zb];simp only[cG];cases hs:b.fX t with
         |false=>left;exact⟨(),rfl,trivial⟩|true=>
          rw[Ty.gi] at hs;subst hs;right;simp only[if_true,sZ];rw[uX];simp only[cG];obtain⟨y,d5,a1,a2,a3⟩:=deep e g a d2 Zb hg ha Zb v;rw[a1];simp only[cI];have w1:=m e a3
          have e2:(xO k).wt=2:=by unfold xO;rw[Tm.dD];rfl
          rw[mP Zb Zb];refine⟨_,rfl,gz.of a2 (.app (SU k aG ak) a3.ty) ?_⟩;have:=a3.afq
          have e3:(xO k).afq=1:=by unfold xO;rw[Tm.cK];rfl
          rw[Tm.cK];simp only[cN];omega)with⟨s,hs,_⟩|⟨r,hr,aI⟩
       ·rw[hs];exact S d2 v
       ·rw[hr];exact aI
      ·exact S d2 v
     ·exact S d1 ad
  ·intro j S;simp only[eb,dK]
   split
   ·rename_i e;obtain⟨x,d2,Q,T,X,v⟩:=gy d hd 3 Zb Zb;rw[Q];simp only[cI];exact S _ d2 ⟨v,λ_ h=>by subst h;simp at e⟩
   ·exact S _ d ⟨hd,λh=>by cases h⟩
inductive eX:List Ty->Fm->Prop
 |eq {g a b}:dd g a .nat->dd g b .nat->eX g (.mk 1 .z [a,b] [])|two {g k a b}:k=2\/k=3->eX g a->eX g b->eX g (.mk k .z [] [a,b])|q {g k s a}:k=4\/k=5\/k=6\/k=7->s.err=0->eX (g++[s]) a->eX g (.mk k s [] [a])
def eX.ok{g:List Ty}{f:Fm}(h:eX g f):f.ok=true:=by
 induction h with
 |eq c d=>simp[Fm.eu,Fm.node,Ty.jW,c.ok,d.ok]|two e _ _ i j=>
  rename_i k a b _ _
  have:¬k=1:=Zb
  simp[Fm.eu,Fm.node,Ty.jW,e,this,i,j]
 |q e hs _ l=>
  rename_i k s a _
  have c:¬k=1:=Zb
  have d:¬(k=2\/k=3):=Zb
  have m:gv k=true:=by simp[gv,e]
  simp[Fm.eu,Fm.node,c,d,m,hs,l]
def wN{a b:Tm}(c:a.wt<=1000000000)(d:b.wt<=1000000000):np a b=some (.mk 1 .z [a,b] []):=by
 unfold np;rw[iL c,iL d];rfl
def yU{k:Int}{a b:Fm}(c:a.wt<=1000000000)(d:b.wt<=1000000000):m7 k a b=some (.mk k .z [] [a,b]):=by
 unfold m7;rw[gU c,gU d];rfl
def vO{k:Int}{s:Ty}{a:Fm}(hs:s.afq<=1000000000)(b:a.wt<=1000000000):js k s a=some (.mk k s [] [a]):=by
 unfold js;rw[fo hs,gU b];rfl
def fb:Nat->Nat
 |0=>115|k+1=>1+2*fb k
def OL:∀k,k<=5->fb k<=3711:=by
 intro k a
 have:k=0\/k=1\/k=2\/k=3\/k=4\/k=5:=Zb
 rcases this with rfl|rfl|rfl|rfl|rfl|rfl<;>decide
structure vI (g:List Ty) (f:Fm) (n:Nat):Prop where
 ty:eX g f
 afq:f.afq<=n
def vI.wt{g:List Ty}{f:Fm}{n:Nat}(h:vI g f n):f.wt<=65*n:=by
 have:=f.eY h.ty.ok;have:=h.afq;omega
theorem vI.err{g:List Ty}{f:Fm}{n:Nat}(h:vI g f n)(hn:n<=4096):f.err=0:=Fm.qk h.ty.ok (by have:=h.afq;omega)
def mY(g:List Ty)(b:Nat)(o:Option (Fm×db)):Prop:=∃x a,o=some (x,a)/\a.wf/\vI g x b
def mY.of{g:List Ty}{b:Nat}{x:Fm}{d:db}(a:d.wf)(h:eX g x)(hn:x.afq<=b):mY g b (some (x,d)):=⟨x,d,rfl,a,h,hn⟩
def xh(N:Nat)(b:1<=N)(e:N<=20)(dep:Nat)(a:dep<=5)(g:List Ty)(t:Ty)(d:db)(j:g.length<=600)(hg:j9 N g)(f:t.err=0)(c:t.afq<=N)(h:d.wf):gz g t (tb N dep) (gL FU d g t (dep:Int)):=by
 have k:dep*(N+1)<=5*21:=BA a Zb;have l:(3+N)*dep<=23*5:=BA Zb a;obtain⟨x,i,a1,a2,a3⟩:=EL N b e FU (dep:Int) g t d (by rw[dn];simp;omega) Zb Zb aaV hg f c h;refine⟨x,i,a1,a2,a3.mono ?_⟩
 split
 ·have:dep=0:=Zb
  subst this;simp only[tb];omega
 ·simp
def zR:∀(n k:Nat) (g:List Ty) (d:db),k<n->k<=5->g.length+k<=500->j9 3 g->d.wf->mY g (fb k) (gw n d g (k:Int)):=by
 intro n
 induction n with
 |zero=>intro k g d h;omega|succ n I=>
  intro k g d R J hlen hg N;rw[gw];refine kC (G:=mY g (fb k)) db.wf ?_ ?_
  ·intro d1 K;rw[dL];simp only[cG];obtain⟨a,d2,a1,a2,a3⟩:=xh 3 Zb Zb 1 Zb g .nat d1 Zb hg Ty.ek (by rw[Ty.eM];omega) K;rw[show((1:Nat):Int)=1 from rfl] at a1;rw[a1];simp only[cI];obtain⟨b,d3,C,L,f⟩:=xh 3 Zb Zb 1 Zb g .nat d2 Zb hg Ty.ek (by rw[Ty.eM];omega) a2;rw[show((1:Nat):Int)=1 from rfl] at C;rw[C];simp only[cI];have e:tb 3 1=57:=rfl;rw[e] at a3 f;rw[wN (by have:=a3.wt;omega) (by have:=f.wt;omega)];refine mY.of L (.eq a3.ty f.ty) ?_;have:=a3.afq;have:=f.afq
   have W:115<=fb k:=by
    clear R J hlen I
    induction k with
    |zero=>simp[fb]|succ k I=>simp only[fb];omega
   rw[Fm.cK];simp only[cN];omega
  ·intro j O;simp only[eb]
   split
   ·rename_i P;obtain⟨m,rfl⟩:∃m,k=m+1:=⟨k-1,Zb⟩
    have S:eH .i64 ((m+1:Nat):Int) 1=(m:Int):=by rw[dF Zb Zb];omega
    have T:=OL m Zb
    have deep:∀l D,l.length<=g.length+1->j9 3 l->D.wf->mY l (fb m) (gw n D l (eH .i64 ((m+1:Nat):Int) 1)):=by
     intro l D E F Q;rw[S];exact I m l D Zb Zb Zb F Q
    have ctx:∀s:Ty,s.err=0->s.afq<=3->j9 3 (g++[s]):=λs E F=>hg.app (by intro u hu;rw[qn] at hu;subst hu;exact⟨E,F⟩);obtain⟨x,d2,E,F,Q,H⟩:=gy d N 9 Zb Zb;rw[E];simp only[cI,gY,mu,dS]
    have two:∀c:Int,c=2\/c=3->mY g (fb (m+1)) (c0 (gw n d2 g (eH .i64 ((m+1:Nat):Int) 1)) λo d317=>c0 (gw n d317 g (eH .i64 ((m+1:Nat):Int) 1)) λp d321=>cH (m7 c o p) λr=>some (r,d321)):=by
     intro c t;obtain⟨a,d3,a1,a2,a3⟩:=deep g d2 Zb hg H;rw[a1];simp only[cI];obtain⟨b,d4,C,L,f⟩:=deep g d3 Zb hg a2;rw[C];simp only[cI];rw[yU (by have:=a3.wt;omega) (by have:=f.wt;omega)];refine mY.of L (.two t a3.ty f.ty) ?_;have:=a3.afq;have:=f.afq;rw[Fm.cK];simp only[cN,fb];omega
    split
    ·exact two 2 (.inl rfl)
    split
    ·exact two 3 (.inr rfl)
    have one:∀c:Int,c=4\/c=5->mY g (fb (m+1)) (c0 (ja FU d2 1) λi v=>cH (oB g [i]) λw=>c0 (gw n v w (eH .i64 ((m+1:Nat):Int) 1)) λz A=>cH (js c i z) λB=>some (B,A)):=by
     intro c t;obtain⟨s,d3,s1,s2,U,M⟩:=p5 d2 H 1 Zb;rw[show((1:Nat):Int)=1 from rfl] at s1;rw[s1];simp only[cI];rw[jA g [s] aaV];simp only[cG];obtain⟨a,d4,a1,a2,a3⟩:=deep (g++[s]) d3 aae (ctx s s2 Zb) M;rw[a1];simp only[cI];rw[vO Zb (by have:=a3.wt;omega)];refine mY.of a2 (.q Zb s2 a3.ty) ?_;have:=a3.afq;rw[Fm.cK];simp only[cN,fb];omega
    split
    ·exact one 4 (.inl rfl)
    split
    ·exact one 5 (.inr rfl)
    split
    ·obtain⟨s,d3,s1,s2,U,M⟩:=p5 d2 H 0 Zb;rw[show((0:Nat):Int)=0 from rfl] at s1;rw[s1];simp only[cI];obtain⟨y,d5,V,X,y3,y4⟩:=gy d3 M 2 Zb Zb;rw[V];simp only[cI];rw[jA g [s] aaV];simp only[cG];obtain⟨a,d4,a1,a2,a3⟩:=deep (g++[s]) d5 aae (ctx s s2 Zb) y4;rw[a1];simp only[cI];rw[dk Zb Zb,vO Zb (by have:=a3.wt;omega)];refine mY.of a2 (.q Zb s2 a3.ty) ?_;have:=a3.afq;rw[Fm.cK];simp only[cN,fb];omega
    ·exact O d2 H
   ·exact O d N
def pM(k:Nat)(a:k<=5)(g:List Ty)(d:db)(c:g.length<=400)(hg:j9 3 g)(b:d.wf):mY g (fb k) (gw FU d g (k:Int)):=
 zR FU k g d (by rw[dn];omega) a Zb hg b
def zI(d:db)(j:d.wf):∃g h,wP d=some (g,h)/\h.wf/\g.length<=3/\j9 3 g:=by
 unfold wP;obtain⟨x,d1,k,m,t,n⟩:=gy d j 4 Zb Zb;rw[k];simp only[cI,cO]
 obtain⟨o,p,f⟩:=nG (ρ:=List Ty×db) (F:=J9 λ(v218:List Ty) (a:Int) (b:db)=>
   if pc a 0 then c0 (ja FU b 1) λc d278=>fU (eZ v218 [c])<|some (eK.next (fK v218 [c],eH .i64 a 1,d278))else some (eK.DN (v218,a,b)))
  (λs=>0<=s.2.1/\(s.1.length:Int)+s.2.1<=3/\j9 3 s.1/\s.2.2.wf) (λs=>s.2.1.toNat)
  (λo=>match o with|.inl s=>s.1.length<=3/\j9 3 s.1/\s.2.2.wf|.inr _=>False)
  (by
   rintro⟨l,i,e⟩ ⟨i1,i2,i3,i4⟩;simp only at i1 i2 i3 i4
   by_cases hi:0<i
   ·left;obtain⟨s,d3,s1,s2,v,q⟩:=p5 e i4 1 Zb;rw[show((1:Nat):Int)=1 from rfl] at s1;refine⟨(l++[s],i-1,d3),?_,⟨?_,?_,?_,q⟩,?_⟩
    ·simp only[wh,eb,hi,if_true,s1,cI];rw[di aaV,cM,dF Zb Zb];rfl
    ·show 0<=i-1;omega
    ·simp;omega
    ·exact i3.app (by intro u hu;rw[qn] at hu;subst hu;exact⟨s2,Zb⟩)
    ·show(i-1).toNat<i.toNat;omega
   ·right;left
    exact⟨(l,i,e),by simp only[wh,eb,hi,jm],by simp only;omega,i3,i4⟩)
  FU ([],x,d1) ⟨m,aaV,⟨aae⟩,n⟩ (by rw[dn];show x.toNat<_;omega)
 rw[p];cases o with
 |inr r=>exact f.elim|inl s=>
  obtain⟨l,i,e⟩:=s;exact⟨l,e,rfl,f.2.2,f.1,f.2.1⟩
def zX(d:db)(j:d.wf):∃q c,qp d=some (q,c)/\c.wf/\q.afs.length<=3/\j9 3 q.afs/\q.afv.length<=2/\∀f∈q.afv,vI q.afs f (fb 2):=by
 unfold qp;obtain⟨g,d0,g1,g2,g3,g4⟩:=zI d j;rw[g1];simp only[cI];obtain⟨x,d1,k,m,v,n⟩:=gy d0 g2 3 Zb Zb;rw[k];simp only[cI,cO]
 obtain⟨o,p,b⟩:=nG (ρ:=Sq×db) (F:=J9 λ(v226:Int) (v227:List Fm) (v228:db)=>
   if pc v226 0 then c0 (gw FU v228 g 2) λa d286=>fU (eZ v227 [a])<|some (eK.next (eH .i64 v226 1,fK v227 [a],d286))else some (eK.DN (v226,v227,v228)))
  (λs=>0<=s.1/\(s.2.1.length:Int)+s.1<=2/\(∀f∈s.2.1,vI g f (fb 2))/\s.2.2.wf) (λs=>s.1.toNat)
  (λo=>match o with|.inl s=>s.2.1.length<=2/\(∀f∈s.2.1,vI g f (fb 2))/\s.2.2.wf|.inr _=>False)
  (by
   rintro⟨i,l,e⟩ ⟨i1,i2,i3,i4⟩;simp only at i1 i2 i3 i4
   by_cases hi:0<i
   ·left;obtain⟨s,d3,s1,s2,t⟩:=pM 2 Zb g e Zb g4 i4;rw[show((2:Nat):Int)=2 from rfl] at s1;refine⟨(i-1,l++[s],d3),?_,⟨?_,?_,?_,s2⟩,?_⟩
    ·simp only[wh,eb,hi,if_true,s1,cI];rw[di aaV,cM,dF Zb Zb];rfl
    ·show 0<=i-1;omega
    ·simp;omega
    ·intro f u;rcases tA.1 u with h|h
     ·exact i3 f h
     ·rw[qn] at h;subst h;exact t
    ·show(i-1).toNat<i.toNat;omega
   ·right;left
    exact⟨(i,l,e),by simp only[wh,eb,hi,jm],by simp only;omega,i3,i4⟩)
  FU (x,[],d1) ⟨m,aaV,aae,n⟩ (by rw[dn];show x.toNat<_;omega)
 rw[p];cases o with
 |inr r=>exact b.elim|inl s=>
  obtain⟨i,l,e⟩:=s;exact⟨⟨g,l⟩,e,rfl,b.2.2,g3,g4,b.1,b.2.1⟩
def OZ(l:List Int)(h:l.length<=1000):(db.mk l 0).wf:=⟨h,aae,aae⟩
def pe(l:List Ty):Int:=if 16<l.length then 3 else dB (l.map Ty.err)
def p0(l:List Ty)(e:l.length<=1000000)(h:∀t∈l,t.afq<=1000000000):m6 l=some (pe l):=by
 unfold m6 pe;simp only[eb,dK,cQ (l:=l) Zb,cM,cO]
 by_cases b:16<l.length
 ·rw[cL Zb,cL b]
 ·rw[cJ Zb,cJ b]
  have key:=gI (F:=λ(j:Int) (x:Ty) (_:Unit)=>cH (kJ x) λa=>if dI a 0 then some (eK.ret a)else some (eK.next ())) Ty.err l 0 (by
   intro j x d;rw[rI (h x d)]
   simp only[cG,cP])
  simp only[cP] at key|-;rw[key]
  by_cases c:dB (l.map Ty.err)=0
  ·simp[c]
  ·simp[c]
def mo(l:List Ty)(e:l.length<=1000000)(h:∀t∈l,t.afq<=1000000000):mK l=some (pe l):=by
 unfold mK pe;simp only[eb,dK,cQ (l:=l) Zb,cM,cO]
 by_cases b:16<l.length
 ·rw[cL Zb,cL b]
 ·rw[cJ Zb,cJ b]
  have key:=gI (F:=λ(j:Int) (x:Ty) (_:Unit)=>cH (iQ x) λa=>if dI a 0 then some (eK.ret a)else some (eK.next ())) Ty.err l 0 (by
   intro j x d;rw[iw (h x d)]
   simp only[cG,cP])
  simp only[cP] at key|-;rw[key]
  by_cases c:dB (l.map Ty.err)=0
  ·simp[c]
  ·simp[c]
def pL:∀(n:Nat) (a b:Ty),a.afq<=n->a.afq<=1000000000->∃r,fG n a b=some r/\(r=true↔a=b):=by
 intro n
 induction n with
 |zero=>intro t b h;have:=t.da;omega
 |succ n q=>
  intro a b h s;cases a with
  |mk k l=>
  cases b with
  |mk k' m=>
   rw[Ty.cK] at h s;have u:=Ty.dH l;rw[fG];simp only[Ty.cX,Ty.c8,cO,cQ (l:=l) Zb,cM,gY,mu,cP,dK]
   by_cases d:k≠k'\/(l.length:Int)≠m.length
   ·rw[cL d];refine⟨false,rfl,?_⟩;simp only[qa,B6,Ty.mk.injEq,not_and];rintro rfl rfl;simp at d
   ·rw[cJ d];simp only[not_or,nN] at d;obtain⟨rfl,hlen⟩:=d
    have c:l.length=m.length:=Zb
    let p:Ty->Ty->Bool:=λx y=>(fG n x y).getD false
    have i:∀x∈l,∀y,fG n x y=some (p x y)/\(p x y=true↔x=y):=by
     intro x f y;have:=cV Ty.afq f;obtain⟨r,o,g⟩:=q x y Zb Zb
     have e:p x y=r:=by show(fG n x y).getD false=r;rw[o];rfl
     rw[e];exact⟨o,g⟩
    have key:=pW (F:=λ(j:Int) (x:Ty) (_:Unit)=>cH (du m j) λy=>cH (fG n x y) λz=>if z then some (eK.next ())else some (eK.ret false)) p m l 0 m rfl c (by
     intro k x y f hy;rw[fw,hy];simp only[cG];rw[(i x f y).1]
     rfl)
    rw[key];have he:=p7 p l m λx f y=>(i x f y).2;cases g:om p l m with
    |false=>exact⟨false,rfl,by rw[g] at he;simpa using he⟩
    |true=>exact⟨true,rfl,by rw[g] at he;simpa using he⟩
def pX:∀(n:Nat) (a b:Tm),a.wt<=n->a.wt<=1000000000->∃r,ia n a b=some r/\(r=true↔a=b):=by
 intro n
 induction n with
 |zero=>intro t b h;have:=t.eL;omega
 |succ n D=>
  intro a b h E;cases a with
  |mk k i s l=>
  cases b with
  |mk k' f u m=>
   rw[Tm.dD] at h E;have H:=Tm.jh l;rw[ia];simp only[Tm.cX,Tm.c8,Tm.dX,Tm.ds,cO,cQ (l:=l) Zb,cM,cP,dK]
   have no:¬(k=k'/\i=f/\s=u/\l.length=m.length)->∃r,some false=some r/\(r=true↔Tm.mk k i s l=Tm.mk k' f u m):=by
    intro hn;refine⟨false,rfl,?_⟩;simp only[qa,B6,Tm.mk.injEq,not_and];rintro rfl rfl rfl rfl;exact hn ⟨rfl,rfl,rfl,rfl⟩
   by_cases g:k≠k'
   ·rw[cL g,cL trivial];exact no λh=>g h.1
   ·rw[cJ g]
    by_cases hi:i≠f
    ·rw[cL hi,cL trivial];exact no λh=>hi h.2.1
    ·rw[cJ hi];obtain⟨r,G,A⟩:=pL FU s u (by rw[dn];omega) Zb;rw[G];simp only[cG]
     by_cases o:r=true
     ·have hs:=A.1 o;rw[cL o]
      by_cases hlen:(l.length:Int)≠m.length
      ·rw[cL hlen];exact no λh=>hlen Zb
      ·rw[cJ hlen]
       have c:l.length=m.length:=Zb
       let p:Tm->Tm->Bool:=λx y=>(ia n x y).getD false
       have B:∀x∈l,∀y,ia n x y=some (p x y)/\(p x y=true↔x=y):=by
        intro x d y;have:=cV Tm.wt d;obtain⟨r,C,q⟩:=D x y Zb Zb
        have e:p x y=r:=by show(ia n x y).getD false=r;rw[C];rfl
        rw[e];exact⟨C,q⟩
       have key:=pW (F:=λ(j:Int) (x:Tm) (_:Unit)=>cH (du m j) λy=>cH (ia n x y) λz=>if z then some (eK.next ())else some (eK.ret false)) p m l 0 m rfl c (by
        intro k x y d hy;rw[fw,hy];simp only[cG];rw[(B x d y).1]
        rfl)
       rw[key];have he:=p7 p l m λx d y=>(B x d y).2;have v:k=k':=nN.1 g;have hi':i=f:=nN.1 hi;cases q:om p l m with
       |false=>
        refine⟨false,rfl,?_⟩;rw[q] at he;simp only[qa,B6,Tm.mk.injEq,not_and];intro _ _ _ w;exact absurd (he.2 w) aae
       |true=>
        refine⟨true,rfl,?_⟩;rw[q] at he;simp only[N4,Tm.mk.injEq];exact⟨v,hi',hs,he.1 rfl⟩
     ·rw[cJ o,cL trivial];exact no λh=>o (A.2 h.2.2.1)
def tu:∀(n:Nat) (a b:Tm),a.wt<=n->a.wt<=1000000000->∃r,jk n a b=some r/\(r=true↔a=b):=by
 intro n
 induction n with
 |zero=>intro t b h;have:=t.eL;omega
 |succ n D=>
  intro a b h E;cases a with
  |mk k i s l=>
  cases b with
  |mk k' f u m=>
   rw[Tm.dD] at h E;have H:=Tm.jh l;rw[jk];simp only[Tm.cX,Tm.c8,Tm.dX,Tm.ds,cO,cQ (l:=l) Zb,cM,cP,dK]
   have no:¬(k=k'/\i=f/\s=u/\l.length=m.length)->∃r,some false=some r/\(r=true↔Tm.mk k i s l=Tm.mk k' f u m):=by
    intro hn;refine⟨false,rfl,?_⟩;simp only[qa,B6,Tm.mk.injEq,not_and];rintro rfl rfl rfl rfl;exact hn ⟨rfl,rfl,rfl,rfl⟩
   by_cases g:k≠k'
   ·rw[cL g,cL trivial];exact no λh=>g h.1
   ·rw[cJ g]
    by_cases hi:i≠f
    ·rw[cL hi,cL trivial];exact no λh=>hi h.2.1
    ·rw[cJ hi];obtain⟨r,G,A⟩:=oY FU s u (by rw[dn];omega) Zb;rw[G];simp only[cG]
     by_cases o:r=true
     ·have hs:=A.1 o;rw[cL o]
      by_cases hlen:(l.length:Int)≠m.length
      ·rw[cL hlen];exact no λh=>hlen Zb
      ·rw[cJ hlen]
       have c:l.length=m.length:=Zb
       let p:Tm->Tm->Bool:=λx y=>(jk n x y).getD false
       have B:∀x∈l,∀y,jk n x y=some (p x y)/\(p x y=true↔x=y):=by
        intro x d y;have:=cV Tm.wt d;obtain⟨r,C,q⟩:=D x y Zb Zb
        have e:p x y=r:=by show(jk n x y).getD false=r;rw[C];rfl
        rw[e];exact⟨C,q⟩
       have key:=pW (F:=λ(j:Int) (x:Tm) (_:Unit)=>cH (du m j) λy=>cH (jk n x y) λz=>if z then some (eK.next ())else some (eK.ret false)) p m l 0 m rfl c (by
        intro k x y d hy;rw[fw,hy];simp only[cG];rw[(B x d y).1]
        rfl)
       rw[key];have he:=p7 p l m λx d y=>(B x d y).2;have v:k=k':=nN.1 g;have hi':i=f:=nN.1 hi;cases q:om p l m with
       |false=>
        refine⟨false,rfl,?_⟩;rw[q] at he;simp only[qa,B6,Tm.mk.injEq,not_and];intro _ _ _ w;exact absurd (he.2 w) aae
       |true=>
        refine⟨true,rfl,?_⟩;rw[q] at he;simp only[N4,Tm.mk.injEq];exact⟨v,hi',hs,he.1 rfl⟩
     ·rw[cJ o,cL trivial];exact no λh=>o (A.2 h.2.2.1)
def o6{a b:Tm}(hw:a.wt<=1000000000):∃r,qW a b=some r/\(r=true↔a=b):=by
 obtain⟨r,c,d⟩:=pX FU a b (by rw[dn];exact hw) hw;exact⟨r,by unfold qW;rw[c];rfl,d⟩
def rE:∀(k:Nat) (m:Int) (t:Tm),(t.norm k m).2.2=0\/(t.norm k m).2.2=4\/(t.norm k m).2.2=5
 |0,m,t=>by
  rw[Tm.norm]
  split
  ·exact .inl rfl
  ·exact .inr (.inr rfl)
 |k+1,m,t=>by
  rw[Tm.norm]
  split
  ·exact .inr (.inl rfl)
  ·exact .inl rfl
  ·exact rE k _ _
def Fg:∀(k:Nat) (m:Int) (t a:Tm) (n:Int),t.norm k m=(a,n,0)->a.nf=true/\m<=n/\n<=m+k/\(∀k':Nat,n<=m+k'->t.norm k' m=(a,n,0))/\∀k':Nat,m+k'<n->t.norm k' m=(Tm.z,0,5)
 |0,m,t,a,n,h=>by
  rw[Tm.norm] at h
  split at h
  ·rename_i b;obtain⟨c,h⟩:=fa h;rw[<-c];obtain⟨rfl,_⟩:=fa h;refine⟨b,NJ _,Zb,λk' _=>?_,λk' h=>by omega⟩;cases k' with
   |zero=>rw[Tm.norm,cL b]|succ k'=>rw[sD ((rK _ _).1 b)]
  ·cases h
 |k+1,m,t,a,n,h=>by
  rw[Tm.norm] at h
  split at h
  ·cases h
  ·rename_i hs;obtain⟨c,h⟩:=fa h;rw[<-c];obtain⟨rfl,_⟩:=fa h;have b:=(rK _ _).2 hs;refine⟨b,NJ _,Zb,λk' _=>?_,λk' h=>by omega⟩;cases k' with
   |zero=>rw[Tm.norm,cL b]|succ k'=>rw[sD hs]
  ·rename_i d hs;obtain⟨e,j,l,f,g⟩:=Fg k (m+1) d a n h;refine⟨e,Zb,Zb,λk' i=>?_,λk' i=>?_⟩
   ·cases k' with
    |zero=>omega|succ k'=>
     rw[sh hs];exact f k' Zb
   ·cases k' with
    |zero=>
     rw[Tm.norm,cJ];intro b;rw[(rK _ _).1 b] at hs;cases hs
    |succ k'=>
     rw[sh hs];exact g k' Zb
def xJ:∀(k:Nat) (M m:Int) (t a:Tm) (n:Int),0<=M->Sm M t->t.afq<=4096->t.norm k m=(a,n,0)->Sm (M+8192*k) a/\a.afq<=4096
 |0,M,m,t,a,n,d,hs,hn,h=>by
  rw[Tm.norm] at h
  split at h
  ·obtain⟨b,h⟩:=fa h;rw[<-b];exact⟨hs.mono Zb,hn⟩
  ·cases h
 |k+1,M,m,t,a,n,d,hs,hn,h=>by
  rw[Tm.norm] at h
  split at h
  ·cases h
  ·obtain⟨b,h⟩:=fa h;rw[<-b];exact⟨hs.mono Zb,hn⟩
  ·rename_i e c;obtain⟨f,g,i⟩:=BF d t hs Zb e c;obtain⟨a1,a2⟩:=xJ k (M+8192) (m+1) e a n Zb ⟨f,g,Zb⟩ Zb h;exact⟨a1.mono Zb,a2⟩
def G4(l:List Int):D8 l=some (decide (l.length<=500)):=by
 unfold D8
 congr 1
 unfold Mu dT;exact Ga.2 Zb
def k1{k:Int}(a:k≠1)(c:k≠2)(f b i:Int)(s:Ty)(l:List Tm):(Tm.mk k i s l).up f b=.mk k i s (l.map (Tm.up f b)):=by
 rw[Tm.dV,cJ (λh=>a h.1)];unfold dr;rw[cJ c,ka]
def Jg(f b i:Int)(s:Ty)(l:List Tm):(Tm.mk 2 i s l).up f b=.mk 2 i s (l.map (Tm.up (f+1) b)):=by
 rw[Tm.dV,cJ (λh=>by have:=h.1;omega)];rfl
def iZ{k:Int}(b:k≠1)(c:k≠2)(n i:Int)(a:Tm)(s:Ty)(l:List Tm):Tm.ei n (Tm.mk k i s l) a=.mk k i s (l.map λx=>Tm.ei n x a):=by
 rw[Tm.dQ,cJ b];unfold dr;rw[cJ c,ka]
def Fb(n i:Int)(a:Tm)(s:Ty)(l:List Tm):Tm.ei n (Tm.mk 2 i s l) a=.mk 2 i s (l.map λx=>Tm.ei (n+1) x a):=by
 rw[Tm.dQ,cJ Zk];rfl
def xN{g:List Ty}{t:Ty}{i j:Nat}(h:g[j]?=some t)(hi:i<g.length)(a:g.length-1-i=j):dd g (.mk 1 i .z []) t:=.var i hi (by rw[a];exact h)
def dd.up{g:List Ty}{x:Tm}{t:Ty}(h:dd g x t):∀g1 g2 e:List Ty,g=g1++g2->dd (g1++e++g2) (x.up g2.length e.length) t:=by
 induction h with
 |@var g t i d l=>
  rintro g1 g2 e rfl;rw[Tm.dV,h9];rw[oG] at d
  by_cases hi:g2.length<=i
  ·rw[cL ⟨rfl,Zb⟩,show(i:Int)+e.length=((i+e.length:Nat):Int) by push_cast;rfl];refine xN (j:=g1.length+g2.length-1-i) ?_ (by simp<;>omega) (by simp<;>omega);rw[oG,uj Zb] at l;rw[ml,uj Zb];exact l
  ·rw[cJ (λh=>by have:=h.2;omega)];refine xN (j:=g1.length+e.length+(g2.length-1-i)) ?_ (by simp<;>omega) (by simp<;>omega);rw[oG,xo Zb] at l;rw[xo (by simp<;>omega)];rw[<-l]
   congr 1
   simp;omega
 |@lam g s b t d _ f=>
  rintro g1 g2 e rfl;have:=f g1 (g2++[s]) e (by rw[ml]);rw[Jg];refine .lam d ?_;rw[oG,<-ml] at this;exact this
 |app _ _ a c=>intro g1 g2 e hg;rw[k1 Zk Zk];exact .app (a g1 g2 e hg) (c g1 g2 e hg)|zero=>intro g1 g2 e hg;rw[k1 Zk Zk];exact .zero|succ _ f=>intro g1 g2 e hg;rw[k1 Zk Zk];exact .succ (f g1 g2 e hg)|m4 d _ _ _ a c k=>intro g1 g2 e hg;rw[k1 Zk Zk];exact .m4 d (a g1 g2 e hg) (c g1 g2 e hg) (k g1 g2 e hg)|nil=>intro g1 g2 e hg;rw[k1 Zk Zk];exact .nil|cons _ _ a c=>intro g1 g2 e hg;rw[k1 Zk Zk];exact .cons (a g1 g2 e hg) (c g1 g2 e hg)|fold d _ _ _ a c k=>intro g1 g2 e hg;rw[k1 Zk Zk];exact .fold d (a g1 g2 e hg) (c g1 g2 e hg) (k g1 g2 e hg)|pair d _ _ a c=>intro g1 g2 e hg;rw[k1 Zk Zk];exact .pair d (a g1 g2 e hg) (c g1 g2 e hg)|fst _ f=>intro g1 g2 e hg;rw[k1 Zk Zk];exact .fst (f g1 g2 e hg)|snd _ f=>intro g1 g2 e hg;rw[k1 Zk Zk];exact .snd (f g1 g2 e hg)|unit=>intro g1 g2 e hg;rw[k1 Zk Zk];exact .unit
theorem dd.ei{g:List Ty}{x:Tm}{t:Ty}(h:dd g x t):∀(g1:List Ty) (s:Ty) (g2:List Ty) (a:Tm),g=g1++[s]++g2->dd g1 a s->dd (g1++g2) (Tm.ei g2.length x a) t:=by
 induction h with
 |@var g t i f k=>
  rintro g1 s g2 a rfl c;rw[Tm.dQ,cL rfl];unfold Tm.jO;simp only[oG,hQ,o7] at f k
  by_cases he:(i:Int)=g2.length
  ·rw[cL he]
   have n:s=t:=by
    rw[ml,xo Zb,uj (by simp<;>omega)] at k;rw[show g1.length+(0+1)+g2.length-1-i-g1.length=0 by omega] at k;exact hZ k
   subst n;have:=c.up g1 [] g2 aae;simpa using this
  ·rw[cJ he]
   by_cases hi:(g2.length:Int)<i
   ·rw[cL hi,show(i:Int)-1=((i-1:Nat):Int) by omega];refine xN (j:=g1.length+g2.length-i) ?_ (by simp<;>omega) (by simp<;>omega);rw[ml,uj Zb] at k;rw[uj Zb,<-k]
    congr 1
    omega
   ·rw[cJ hi];refine xN (j:=g1.length+(g2.length-1-i)) ?_ (by simp<;>omega) (by simp<;>omega);rw[xo (by simp<;>omega)] at k;rw[xo Zb,<-k]
    congr 1
    simp;omega
 |@lam g s b t f _ l=>
  rintro g1 u g2 a rfl c;have:=l g1 u (g2++[s]) a (by simp only[ml]) c;rw[Fb];refine .lam f ?_;rw[oG,<-ml] at this;exact this
 |app _ _ d e=>intro g1 s g2 a hg c;rw[iZ Zk Zk];exact .app (d g1 s g2 a hg c) (e g1 s g2 a hg c)|zero=>intro g1 s g2 a hg c;rw[iZ Zk Zk];exact .zero|succ _ l=>intro g1 s g2 a hg c;rw[iZ Zk Zk];exact .succ (l g1 s g2 a hg c)|m4 f _ _ _ d e m=>intro g1 s g2 a hg c;rw[iZ Zk Zk];exact .m4 f (d g1 s g2 a hg c) (e g1 s g2 a hg c) (m g1 s g2 a hg c)|nil=>intro g1 s g2 a hg c;rw[iZ Zk Zk];exact .nil|cons _ _ d e=>intro g1 s g2 a hg c;rw[iZ Zk Zk];exact .cons (d g1 s g2 a hg c) (e g1 s g2 a hg c)|fold f _ _ _ d e m=>intro g1 s g2 a hg c;rw[iZ Zk Zk];exact .fold f (d g1 s g2 a hg c) (e g1 s g2 a hg c) (m g1 s g2 a hg c)|pair f _ _ d e=>intro g1 s g2 a hg c;rw[iZ Zk Zk];exact .pair f (d g1 s g2 a hg c) (e g1 s g2 a hg c)|fst _ l=>intro g1 s g2 a hg c;rw[iZ Zk Zk];exact .fst (l g1 s g2 a hg c)|snd _ l=>intro g1 s g2 a hg c;rw[iZ Zk Zk];exact .snd (l g1 s g2 a hg c)|unit=>intro g1 s g2 a hg c;rw[iZ Zk Zk];exact .unit
def Ty.O8{a b c d:Ty}(h:Ty.fn a b=Ty.fn c d):a=c/\b=d:=by unfold Ty.fn at h;simpa using h
def Ty.Jk{a b c d:Ty}(h:Ty.pr a b=Ty.pr c d):a=c/\b=d:=by unfold Ty.pr at h;simpa using h
theorem dd.dm{g:List Ty}{x:Tm}{t:Ty}(h:dd g x t)(l:x.root=true):dd g x.dm t:=by
 cases h with
 |@app _ f a s _ c j=>
  have d:f.afo=2:=by simpa[Tm.root,Tm.kd] using l
  generalize o:Ty.fn s t=q at c
  cases c<;>simp only[Tm.c8] at d<;>first|omega|skip
  rename_i w b p e i;obtain⟨rfl,rfl⟩:=Ty.O8 o;have:=i.ei g s [] a aae j;simpa[Tm.dm] using this
 |@m4 _ _ b s n c j e i=>
  have d:n.afo=4\/n.afo=5:=by simpa[Tm.root,Tm.kd] using l
  cases i<;>simp only[Tm.c8] at d<;>first|omega|skip
  ·simpa[Tm.dm] using j
  ·rename_i m k;have:=dd.app (.app e k) (dd.m4 c j e k);simpa[Tm.dm,gA,Ty.z] using this
 |@fold _ _ b s n c j e i=>
  have d:n.afo=7\/n.afo=8:=by simpa[Tm.root,Tm.kd] using l
  cases i<;>simp only[Tm.c8] at d<;>first|omega|skip
  ·simpa[Tm.dm] using j
  ·rename_i u v k r;have:=dd.app (.app (.app e k) r) (dd.fold c j e r);simpa[Tm.dm,gA,Ty.z] using this
 |@fst _ a s p c=>
  have d:a.afo=10:=by simpa[Tm.root,Tm.kd] using l
  generalize o:Ty.pr t p=q at c
  cases c<;>simp only[Tm.c8] at d<;>first|omega|skip
  rename_i e i k;obtain⟨rfl,rfl⟩:=Ty.Jk o;simpa[Tm.dm] using i
 |@snd _ a s p c=>
  have d:a.afo=10:=by simpa[Tm.root,Tm.kd] using l
  generalize o:Ty.pr s t=q at c
  cases c<;>simp only[Tm.c8] at d<;>first|omega|skip
  rename_i e i k;obtain⟨rfl,rfl⟩:=Ty.Jk o;simpa[Tm.dm] using k
 |_=>simp[Tm.root] at l
def hB{r k i:Int}{s:Ty}{l:List Tm}{b:Tm}(h:(Tm.mk k i s l).yl r=some (some b)):((Tm.mk k i s l).root=true/\b=(Tm.mk k i s l).dm)\/∃a,Tm.lM r l=some (some a)/\b=.mk k i s a:=by
 rw[Tm.tM] at h
 by_cases c:(Tm.mk k i s l).root=true
 ·rw[cL c] at h
  split at h
  · cases h
  · exact .inl ⟨c,(hZ (hZ h)).symm⟩
 ·rw[cJ c] at h;cases e:Tm.lM r l with
  |none=>rw[e] at h;cases h
  |some o=>
    cases o with
    |none=>rw[e] at h;cases h
    |some a=>rw[e] at h;exact .inr ⟨a,rfl,(hZ (hZ h)).symm⟩
def gh{r:Int}{a:Tm}{l c:List Tm}(h:Tm.lM r (a::l)=some (some c)):(∃b,a.yl r=some (some b)/\c=b::l)\/∃m,Tm.lM r l=some (some m)/\c=a::m:=by
 rw[Tm.lM] at h;cases e:a.yl r with
 |none=>rw[e] at h;cases h
 |some o=>
  cases o with
  |some b=>rw[e] at h;exact .inl ⟨b,rfl,(hZ (hZ h)).symm⟩
  |none=>
   rw[e] at h;dsimp only at h;cases d:Tm.lM r l with
   |none=>rw[d] at h;cases h
   |some o2=>
    cases o2 with
    |none=>rw[d] at h;cases h
    |some m=>rw[d] at h;exact .inr ⟨m,rfl,(hZ (hZ h)).symm⟩
def iM{r:Int}{a:List Tm}(h:Tm.lM r []=some (some a)):False:=by rw[Tm.lM] at h;cases h
def dd.yl{r:Int}{g:List Ty}{x:Tm}{t:Ty}(h:dd g x t):∀n,x.yl r=some (some n)->dd g n t:=by
 induction h with
 |var i c f=>
  intro n hs;rcases hB hs with⟨d,rfl⟩|⟨q,e,rfl⟩
  ·exact(dd.var i c f).dm d
  ·exact(iM e).elim
 |lam c f s=>
  intro n hs;rcases hB hs with⟨d,rfl⟩|⟨q,e,rfl⟩
  ·exact(dd.lam c f).dm d
  ·rcases gh e with⟨o,a,b⟩|⟨m,a,b⟩
   ·subst_vars;exact .lam c (s _ a)
   ·exact(iM a).elim
 |app c f j k=>
  intro n hs;rcases hB hs with⟨d,rfl⟩|⟨q,e,rfl⟩
  ·exact(dd.app c f).dm d
  ·rcases gh e with⟨o,a,b⟩|⟨m,a,b⟩
   ·subst_vars;exact .app (j _ a) f
   ·rcases gh a with⟨o,l,b⟩|⟨m,l,b⟩
    ·subst_vars;exact .app c (k _ l)
    ·exact(iM l).elim
 |zero=>
  intro n hs;rcases hB hs with⟨d,rfl⟩|⟨q,e,rfl⟩
  ·exact dd.zero.dm d
  ·exact(iM e).elim
 |succ c s=>
  intro n hs;rcases hB hs with⟨d,rfl⟩|⟨q,e,rfl⟩
  ·exact(dd.succ c).dm d
  ·rcases gh e with⟨o,a,b⟩|⟨m,a,b⟩
   ·subst_vars;exact .succ (s _ a)
   ·exact(iM a).elim
 |m4 p c f u j k v=>
  intro n hs;rcases hB hs with⟨d,rfl⟩|⟨q,e,rfl⟩
  ·exact(dd.m4 p c f u).dm d
  ·rcases gh e with⟨o,a,b⟩|⟨m,a,b⟩
   ·subst_vars;exact .m4 p (j _ a) f u
   ·rcases gh a with⟨o,l,b⟩|⟨m,l,b⟩
    ·subst_vars;exact .m4 p c (k _ l) u
    ·rcases gh l with⟨o,w,b⟩|⟨m,w,b⟩
     ·subst_vars;exact .m4 p c f (v _ w)
     ·exact(iM w).elim
 |nil=>
  intro n hs;rcases hB hs with⟨d,rfl⟩|⟨q,e,rfl⟩
  ·exact dd.nil.dm d
  ·exact(iM e).elim
 |cons c f j k=>
  intro n hs;rcases hB hs with⟨d,rfl⟩|⟨q,e,rfl⟩
  ·exact(dd.cons c f).dm d
  ·rcases gh e with⟨o,a,b⟩|⟨m,a,b⟩
   ·subst_vars;exact .cons (j _ a) f
   ·rcases gh a with⟨o,l,b⟩|⟨m,l,b⟩
    ·subst_vars;exact .cons c (k _ l)
    ·exact(iM l).elim
 |fold p c f u j k v=>
  intro n hs;rcases hB hs with⟨d,rfl⟩|⟨q,e,rfl⟩
  ·exact(dd.fold p c f u).dm d
  ·rcases gh e with⟨o,a,b⟩|⟨m,a,b⟩
   ·subst_vars;exact .fold p (j _ a) f u
   ·rcases gh a with⟨o,l,b⟩|⟨m,l,b⟩
    ·subst_vars;exact .fold p c (k _ l) u
    ·rcases gh l with⟨o,w,b⟩|⟨m,w,b⟩
     ·subst_vars;exact .fold p c f (v _ w)
     ·exact(iM w).elim
 |pair p c f j k=>
  intro n hs;rcases hB hs with⟨d,rfl⟩|⟨q,e,rfl⟩
  ·exact(dd.pair p c f).dm d
  ·rcases gh e with⟨o,a,b⟩|⟨m,a,b⟩
   ·subst_vars;exact .pair p (j _ a) f
   ·rcases gh a with⟨o,l,b⟩|⟨m,l,b⟩
    ·subst_vars;exact .pair p c (k _ l)
    ·exact(iM l).elim
 |fst c s=>
  intro n hs;rcases hB hs with⟨d,rfl⟩|⟨q,e,rfl⟩
  ·exact(dd.fst c).dm d
  ·rcases gh e with⟨o,a,b⟩|⟨m,a,b⟩
   ·subst_vars;exact .fst (s _ a)
   ·exact(iM a).elim
 |snd c s=>
  intro n hs;rcases hB hs with⟨d,rfl⟩|⟨q,e,rfl⟩
  ·exact(dd.snd c).dm d
  ·rcases gh e with⟨o,a,b⟩|⟨m,a,b⟩
   ·subst_vars;exact .snd (s _ a)
   ·exact(iM a).elim
 |unit=>
  intro n hs;rcases hB hs with⟨d,rfl⟩|⟨q,e,rfl⟩
  ·exact dd.unit.dm d
  ·exact(iM e).elim
def dd.norm{g:List Ty}{t:Ty}:∀(k:Nat) (m:Int) (x a:Tm) (n:Int),dd g x t->x.norm k m=(a,n,0)->dd g a t
 |0,m,x,a,n,b,h=>by
  rw[Tm.norm] at h
  split at h
  ·obtain⟨c,_⟩:=fa h;rw[<-c];exact b
  ·cases h
 |k+1,m,x,a,n,b,h=>by
  rw[Tm.norm] at h
  split at h
  ·cases h
  ·obtain⟨c,_⟩:=fa h;rw[<-c];exact b
  ·rename_i d hs;exact dd.norm k (m+1) d a n (b.yl _ hs) h
theorem xF{i:Int}{s:Ty}{l:List Tm}(h:(Tm.mk 1 i s l).ok=true):s=.mk 0 []/\l=[]:=by
 have b:=Tm.lG h;have e:eC 1=0:=rfl;have a:l=[]:=Df Zb;subst a;rw[Tm.eu] at h;cases s with
 |mk k l=>simp[Tm.node,f_,Ty.kV,dC,dT,eC] at h;refine⟨?_,rfl⟩;obtain⟨c,d⟩:=h;simp_all
theorem P9(t:Tm):∀g f n c:Int,0<=g->0<=n->0<=c->g+n<=f->(t.up g n).up f c=(t.up (f-n) c).up g n:=by
 induction t using Tm.ind with
 |h k i s l a=>
  intro g f n c hg hn b d;simp only[Tm.dV,wR]
  congr 1
  ·grind
  ·refine pg λx e=>?_
   grind[dr]
theorem up_add(t:Tm):∀g f p m:Int,0<=g->0<=p->0<=m->g<=f->f<=g+p->(t.up g p).up f m=t.up g (p+m):=by
 induction t using Tm.ind with
 |h k i s l a=>
  intro g f p m hg b hm c d;simp only[Tm.dV,wR]
  congr 1
  ·grind
  ·refine pg λx e=>?_
   grind[dr]
theorem Jp(x t:Tm):∀g m n:Int,t.ok=true->0<=g->g<=m->m<=g+n->Tm.ei m (t.up g (n+1)) x=t.up g n:=by
 induction t using Tm.ind with
 |h k i s l b=>
  intro g m n c hg d e
  by_cases a:k=1
  ·grind[xF,Tm.dV,Tm.dQ,Tm.jO]
  ·simp only[Tm.dV,a,xZ,jm,Tm.dQ,wR]
   congr 1
   refine pg λy hy=>?_
   grind[dr,Tm.c9]
theorem Au(a t:Tm):∀g m n:Int,t.ok=true->0<=g->0<=m->g+m<=n->Tm.ei n (t.up g m) a=(Tm.ei (n-m) t a).up g m:=by
 induction t using Tm.ind with
 |h k i s l c=>
  intro g m n d hg hm e
  by_cases b:k=1
  ·grind[Tm.dV,Tm.dQ,Tm.jO,up_add]
  ·simp only[Tm.dV,b,xZ,jm,Tm.dQ,wR]
   congr 1
   refine pg λy hy=>?_
   grind[dr,Tm.c9]
def Kv(a t:Tm):∀n f c:Int,t.ok=true->0<=n->n<=f->0<=c->(Tm.ei n t a).up f c=Tm.ei n (t.up (f+1) c) (a.up (f-n) c):=by
 induction t using Tm.ind with
 |h k i s l e=>
  intro n f c d hn g j
  by_cases b:k=1
  ·subst b;obtain⟨rfl,rfl⟩:=xF d;simp only[Tm.dV,ry,h9,Tm.dQ,if_true]
   grind[Tm.jO,P9,Tm.dV]
  ·simp only[Tm.dV,b,xZ,jm,Tm.dQ,wR]
   congr 1
   refine pg λy hy=>?_
   grind[dr,Tm.c9]
def JR(a s:Tm)(c:a.ok=true)(hs:s.ok=true)(t:Tm):∀m n:Int,t.ok=true->0<=m->m<=n->Tm.ei n (Tm.ei m t a) s=Tm.ei m (Tm.ei (n+1) t s) (Tm.ei (n-m) a s):=by
 induction t using Tm.ind with
 |h k i ty l d=>
  intro m n e hm hn
  by_cases b:k=1
  ·grind[xF,Tm.dQ,Tm.jO,Au,Jp]
  ·simp only[Tm.dQ,b,jm,wR]
   congr 1
   refine pg λy hy=>?_
   grind[dr,Tm.c9]
inductive iB:Tm->Tm->Prop
 |n0 (k i:Int) (s:Ty):iB (.mk k i s []) (.mk k i s [])|n1 (k i:Int) (s:Ty) {a a':Tm}:iB a a'->iB (.mk k i s [a]) (.mk k i s [a'])|n2 (k i:Int) (s:Ty) {a a' b b':Tm}:iB a a'->iB b b'->iB (.mk k i s [a,b]) (.mk k i s [a',b'])|n3 (k i:Int) (s:Ty) {a a' b b' c c':Tm}:iB a a'->iB b b'->iB c c'->iB (.mk k i s [a,b,c]) (.mk k i s [a',b',c'])|beta (i:Int) (s:Ty) (j:Int) (u:Ty) {b b' a a':Tm}:iB b b'->iB a a'->iB (.mk 3 i s [.mk 2 j u [b],a]) (Tm.ei 0 b' a')|Bg (i:Int) (s:Ty) (j:Int) (u:Ty) (c:Tm) {b b':Tm}:iB b b'->iB (.mk 6 i s [b,c,.mk 4 j u []]) b'|Bz (i:Int) (s:Ty) (j:Int) (u:Ty) {b b' c c' n n':Tm}:iB b b'->iB c c'->iB n n'->iB (.mk 6 i s [b,c,.mk 5 j u [n]]) (gA c' [n',.mk 6 i s [b',c',n']])|uW (i:Int) (s:Ty) (j:Int) (u:Ty) (c:Tm) {b b':Tm}:iB b b'->iB (.mk 9 i s [b,c,.mk 7 j u []]) b'|uz (i:Int) (s:Ty) (j:Int) (u:Ty) {b b' c c' n n' t t':Tm}:iB b b'->iB c c'->iB n n'->iB t t'->iB (.mk 9 i s [b,c,.mk 8 j u [n,t]]) (gA c' [n',t',.mk 9 i s [b',c',t']])|fst (i:Int) (s:Ty) (j:Int) (u:Ty) (b:Tm) {a a':Tm}:iB a a'->iB (.mk 11 i s [.mk 10 j u [a,b]]) a'|snd (i:Int) (s:Ty) (j:Int) (u:Ty) (a:Tm) {b b':Tm}:iB b b'->iB (.mk 12 i s [.mk 10 j u [a,b]]) b'
def iB.ok{t u:Tm}(h:iB t u):t.ok=true->u.ok=true:=by
 induction h with
 |n0 k i s=>exact id|n1 k i s _ g=>intro d;exact Tm.oS d rfl (by intro t p;rw[qn] at p;subst p;exact g (Tm.c9 d _ aae))
 |n2 k i s _ _ e f=>grind[Tm.oS,Tm.c9]|n3 k i s _ _ _ e f l=>
  intro d;refine Tm.oS d rfl ?_
  grind[Tm.c9]
 |@beta i s j u b m a r _ _ e f=>
  intro d;exact Tm.vn _ (f (Tm.c9 d a aae)) _ 0 Zb (e (Tm.c9 (Tm.c9 d (Tm.mk 2 j u [b]) aae) b aae))
 |Bg i s j u c _ g=>intro d;exact g (Tm.c9 d _ aae)|@Bz i s j u b m c v n n' _ _ _ e f l=>
  intro d;have w:=e (Tm.c9 d _ aae);have x:=f (Tm.c9 d _ aae);have y:=l (Tm.c9 (Tm.c9 d (Tm.mk 5 j u [n]) aae) _ aae)
  grind[uS,Tm.oS]
 |uW i s j u c _ g=>intro d;exact g (Tm.c9 d _ aae)|@uz i s j u b m c v n n' t z _ _ _ _ e f l o=>
  intro d;have w:=e (Tm.c9 d _ aae);have x:=f (Tm.c9 d _ aae);have q:=Tm.c9 d (Tm.mk 8 j u [n,t]) aae;have y:=l (Tm.c9 q _ aae);have A:=o (Tm.c9 q _ aae)
  grind[uS,Tm.oS]
 |@fst i s j u b a r _ g=>intro d;exact g (Tm.c9 (Tm.c9 d (Tm.mk 10 j u [a,b]) aae) a aae)|@snd i s j u a b m _ g=>intro d;exact g (Tm.c9 (Tm.c9 d (Tm.mk 10 j u [a,b]) aae) b aae)
def WS(f b i:Int)(s:Ty)(l:List Tm):(Tm.mk 3 i s l).up f b=.mk 3 i s (l.map (Tm.up f b)):=k1 Zk Zk f b i s l
def up4(f b i:Int)(s:Ty)(l:List Tm):(Tm.mk 4 i s l).up f b=.mk 4 i s (l.map (Tm.up f b)):=k1 Zk Zk f b i s l
def up5(f b i:Int)(s:Ty)(l:List Tm):(Tm.mk 5 i s l).up f b=.mk 5 i s (l.map (Tm.up f b)):=k1 Zk Zk f b i s l
def ZC(f b i:Int)(s:Ty)(l:List Tm):(Tm.mk 6 i s l).up f b=.mk 6 i s (l.map (Tm.up f b)):=k1 Zk Zk f b i s l
def up7(f b i:Int)(s:Ty)(l:List Tm):(Tm.mk 7 i s l).up f b=.mk 7 i s (l.map (Tm.up f b)):=k1 Zk Zk f b i s l
def up8(f b i:Int)(s:Ty)(l:List Tm):(Tm.mk 8 i s l).up f b=.mk 8 i s (l.map (Tm.up f b)):=k1 Zk Zk f b i s l
def YT(f b i:Int)(s:Ty)(l:List Tm):(Tm.mk 9 i s l).up f b=.mk 9 i s (l.map (Tm.up f b)):=k1 Zk Zk f b i s l
def TD(f b i:Int)(s:Ty)(l:List Tm):(Tm.mk 10 i s l).up f b=.mk 10 i s (l.map (Tm.up f b)):=k1 Zk Zk f b i s l
def GQ(f b i:Int)(s:Ty)(l:List Tm):(Tm.mk 11 i s l).up f b=.mk 11 i s (l.map (Tm.up f b)):=k1 Zk Zk f b i s l
def G_(f b i:Int)(s:Ty)(l:List Tm):(Tm.mk 12 i s l).up f b=.mk 12 i s (l.map (Tm.up f b)):=k1 Zk Zk f b i s l
def Xr(n i:Int)(a:Tm)(s:Ty)(l:List Tm):Tm.ei n (Tm.mk 3 i s l) a=.mk 3 i s (l.map λx=>Tm.ei n x a):=iZ Zk Zk n i a s l
def in4(n i:Int)(a:Tm)(s:Ty)(l:List Tm):Tm.ei n (Tm.mk 4 i s l) a=.mk 4 i s (l.map λx=>Tm.ei n x a):=iZ Zk Zk n i a s l
def in5(n i:Int)(a:Tm)(s:Ty)(l:List Tm):Tm.ei n (Tm.mk 5 i s l) a=.mk 5 i s (l.map λx=>Tm.ei n x a):=iZ Zk Zk n i a s l
def Zy(n i:Int)(a:Tm)(s:Ty)(l:List Tm):Tm.ei n (Tm.mk 6 i s l) a=.mk 6 i s (l.map λx=>Tm.ei n x a):=iZ Zk Zk n i a s l
def in7(n i:Int)(a:Tm)(s:Ty)(l:List Tm):Tm.ei n (Tm.mk 7 i s l) a=.mk 7 i s (l.map λx=>Tm.ei n x a):=iZ Zk Zk n i a s l
def in8(n i:Int)(a:Tm)(s:Ty)(l:List Tm):Tm.ei n (Tm.mk 8 i s l) a=.mk 8 i s (l.map λx=>Tm.ei n x a):=iZ Zk Zk n i a s l
def YZ(n i:Int)(a:Tm)(s:Ty)(l:List Tm):Tm.ei n (Tm.mk 9 i s l) a=.mk 9 i s (l.map λx=>Tm.ei n x a):=iZ Zk Zk n i a s l
def TA(n i:Int)(a:Tm)(s:Ty)(l:List Tm):Tm.ei n (Tm.mk 10 i s l) a=.mk 10 i s (l.map λx=>Tm.ei n x a):=iZ Zk Zk n i a s l
def Xu(n i:Int)(a:Tm)(s:Ty)(l:List Tm):Tm.ei n (Tm.mk 11 i s l) a=.mk 11 i s (l.map λx=>Tm.ei n x a):=iZ Zk Zk n i a s l
def XE(n i:Int)(a:Tm)(s:Ty)(l:List Tm):Tm.ei n (Tm.mk 12 i s l) a=.mk 12 i s (l.map λx=>Tm.ei n x a):=iZ Zk Zk n i a s l
def iB.up{t u:Tm}(h:iB t u):t.ok=true->∀f c:Int,0<=f->0<=c->iB (t.up f c) (u.up f c):=by
 induction h with
 |n0 k i s=>intro _ f c _ _;rw[Tm.dV];exact .n0 _ _ _|n1 k i s _ r=>
  intro e f c g p;have z:=eN k;rw[Tm.dV,Tm.dV];exact .n1 _ _ _ (r (Tm.c9 e _ aae) _ _ Zb p)
 |n2 k i s _ _ l m=>
  intro e f c g p;have z:=eN k;rw[Tm.dV,Tm.dV];exact .n2 _ _ _ (l (Tm.c9 e _ aae) _ _ Zb p) (m (Tm.c9 e _ aae) _ _ Zb p)
 |n3 k i s _ _ _ l m q=>
  intro e f c g p;have z:=eN k;rw[Tm.dV,Tm.dV];exact .n3 _ _ _ (l (Tm.c9 e _ aae) _ _ Zb p) (m (Tm.c9 e _ aae) _ _ Zb p) (q (Tm.c9 e _ aae) _ _ Zb p)
 |@beta i s j u b x a A B D l m=>
  intro e f c g p;have v:=Tm.c9 e (Tm.mk 2 j u [b]) aae;have w:=Tm.c9 v b aae;rw[Kv A x 0 f c (B.ok w) Zb g p,RR];simp only[WS,Jg,jc,h9];exact .beta _ _ _ _ (l w _ _ Zb p) (m (Tm.c9 e _ aae) _ _ g p)
 |Bg i s j u c _ r=>
  intro e f d g o;simp only[ZC,up4,jc,h9];exact .Bg _ _ _ _ _ (r (Tm.c9 e _ aae) _ _ g o)
 |@Bz i s j u b x c C n n' _ _ _ l m q=>
  intro e f d g o;have v:=Tm.c9 e (Tm.mk 5 j u [n]) aae;simp only[gA,WS,ZC,up5,jc,h9];exact .Bz _ _ _ _ (l (Tm.c9 e _ aae) _ _ g o) (m (Tm.c9 e _ aae) _ _ g o) (q (Tm.c9 v _ aae) _ _ g o)
 |uW i s j u c _ r=>
  intro e f d g o;simp only[YT,up7,jc,h9];exact .uW _ _ _ _ _ (r (Tm.c9 e _ aae) _ _ g o)
 |@uz i s j u b x c C n n' t E _ _ _ _ l m q y=>
  intro e f d g o;have v:=Tm.c9 e (Tm.mk 8 j u [n,t]) aae;simp only[gA,WS,YT,up8,jc,h9];exact .uz _ _ _ _ (l (Tm.c9 e _ aae) _ _ g o) (m (Tm.c9 e _ aae) _ _ g o) (q (Tm.c9 v _ aae) _ _ g o) (y (Tm.c9 v _ aae) _ _ g o)
 |@fst i s j u b a A _ r=>
  intro e f d g o;simp only[GQ,TD,jc,h9];exact .fst _ _ _ _ _ (r (Tm.c9 (Tm.c9 e (Tm.mk 10 j u [a,b]) aae) _ aae) _ _ g o)
 |@snd i s j u a b x _ r=>
  intro e f d g o;simp only[G_,TD,jc,h9];exact .snd _ _ _ _ _ (r (Tm.c9 (Tm.c9 e (Tm.mk 10 j u [a,b]) aae) _ aae) _ _ g o)
def sk{k i:Int}{s:Ty}{a:Tm}{l:List Tm}(h:(Tm.mk k i s (a::l)).ok=true):k≠1:=by grind[xF]
theorem iB.ei{t u:Tm}(h:iB t u){x y:Tm}(q:iB x y)(C:x.ok=true):t.ok=true->∀n:Int,0<=n->iB (Tm.ei n t x) (Tm.ei n u y):=by
 have hy:=q.ok C
 induction h with
 |n0 k i s=>
  intro d n hn;rw[Tm.dQ,Tm.dQ]
  by_cases w:k=1
  ·rw[cL w,cL w];unfold Tm.jO
   by_cases o:i=n
   ·rw[cL o,cL o];exact q.up C 0 n Zb hn
   ·rw[cJ o,cJ o]
    by_cases z:n<i
    ·rw[cL z];exact .n0 _ _ _
    ·rw[cJ z];exact .n0 _ _ _
  ·rw[cJ w,cJ w];exact .n0 _ _ _
 |n1 k i s _ l=>
  intro d n hn;have D:=eN k;rw[Tm.dQ,Tm.dQ,cJ (sk d),cJ (sk d)];exact .n1 _ _ _ (l (Tm.c9 d _ aae) _ Zb)
 |n2 k i s _ _ e f=>
  intro d n hn;have D:=eN k;rw[Tm.dQ,Tm.dQ,cJ (sk d),cJ (sk d)];exact .n2 _ _ _ (e (Tm.c9 d _ aae) _ Zb) (f (Tm.c9 d _ aae) _ Zb)
 |n3 k i s _ _ _ e f g=>
  intro d n hn;have D:=eN k;rw[Tm.dQ,Tm.dQ,cJ (sk d),cJ (sk d)];exact .n3 _ _ _ (e (Tm.c9 d _ aae) _ Zb) (f (Tm.c9 d _ aae) _ Zb) (g (Tm.c9 d _ aae) _ Zb)
 |@beta i s j u b A a E o z e f=>
  intro d n hn;have p:=Tm.c9 d (Tm.mk 2 j u [b]) aae;have r:=Tm.c9 p b aae;have v:=Tm.c9 d a aae;rw[JR E y (z.ok v) hy A 0 n (o.ok r) Zb hn,RR];simp only[Xr,Fb,jc,h9];exact .beta _ _ _ _ (e r _ Zb) (f v _ hn)
 |Bg i s j u c _ l=>
  intro d n hn;simp only[Zy,in4,jc,h9];exact .Bg _ _ _ _ _ (l (Tm.c9 d _ aae) _ hn)
 |@Bz i s j u b A c F n n' _ _ _ e f g=>
  intro d m hm;have p:=Tm.c9 d (Tm.mk 5 j u [n]) aae;simp only[gA,Xr,Zy,in5,jc,h9];exact .Bz _ _ _ _ (e (Tm.c9 d _ aae) _ hm) (f (Tm.c9 d _ aae) _ hm) (g (Tm.c9 p _ aae) _ hm)
 |uW i s j u c _ l=>
  intro d n hn;simp only[YZ,in7,jc,h9];exact .uW _ _ _ _ _ (l (Tm.c9 d _ aae) _ hn)
 |@uz i s j u b A c F n n' t G _ _ _ _ e f g B=>
  intro d m hm;have p:=Tm.c9 d (Tm.mk 8 j u [n,t]) aae;simp only[gA,Xr,YZ,in8,jc,h9];exact .uz _ _ _ _ (e (Tm.c9 d _ aae) _ hm) (f (Tm.c9 d _ aae) _ hm) (g (Tm.c9 p _ aae) _ hm) (B (Tm.c9 p _ aae) _ hm)
 |@fst i s j u b a E _ l=>
  intro d n hn;simp only[Xu,TA,jc,h9];exact .fst _ _ _ _ _ (l (Tm.c9 (Tm.c9 d (Tm.mk 10 j u [a,b]) aae) _ aae) _ hn)
 |@snd i s j u a b A _ l=>
  intro d n hn;simp only[XE,TA,jc,h9];exact .snd _ _ _ _ _ (l (Tm.c9 (Tm.c9 d (Tm.mk 10 j u [a,b]) aae) _ aae) _ hn)
def iB.L2{k i:Int}{s:Ty}{v:Tm}(h:iB (.mk k i s []) v):v=.mk k i s []:=by
 generalize a:Tm.mk k i s []=x at h;cases h<;>simp only[Tm.mk.injEq,reduceCtorEq,RP,Gf,xZ] at a;obtain⟨rfl,rfl,rfl,_⟩:=a;rfl
def iB.inv1{k i:Int}{s:Ty}{a v:Tm}(h:iB (.mk k i s [a]) v)(d:k≠11)(e:k≠12):∃c,v=.mk k i s [c]/\iB a c:=by
 generalize b:Tm.mk k i s [a]=x at h;cases h<;>simp only[Tm.mk.injEq,reduceCtorEq,RP,Gf,xZ,Du] at b
 ·obtain⟨rfl,rfl,rfl,rfl⟩:=b;exact⟨_,rfl,by assumption⟩
 ·exact absurd b.1 d
 ·exact absurd b.1 e
def iB.inv2{k i:Int}{s:Ty}{a b v:Tm}(h:iB (.mk k i s [a,b]) v)(f:k≠3):∃d e,v=.mk k i s [d,e]/\iB a d/\iB b e:=by
 generalize c:Tm.mk k i s [a,b]=x at h;cases h<;>simp only[Tm.mk.injEq,reduceCtorEq,RP,Gf,xZ,Du] at c
 ·obtain⟨rfl,rfl,rfl,rfl,rfl⟩:=c;exact⟨_,_,rfl,by assumption,by assumption⟩
 ·exact absurd c.1 f
mutual
def Tm.dev:Tm->Tm
 |.mk k i s l=>if(Tm.mk k i s l).root then(Tm.mk k i s (Tm.I7 l)).dm else .mk k i s (Tm.I7 l)
def Tm.I7:List Tm->List Tm
 |[]=>[]|t::l=>t.dev::Tm.I7 l
end
def Tm.E_(l:List Tm):Tm.I7 l=l.map Tm.dev:=by
 induction l with
 |nil=>rfl|cons t l a=>simp[Tm.I7,a]
def Tm.nT{k i:Int}{s:Ty}{l:List Tm}(h:(Tm.mk k i s l).root=true):(Tm.mk k i s l).dev=(Tm.mk k i s (l.map Tm.dev)).dm:=by rw[Tm.dev,Tm.E_,cL h]
def Tm.oZ{k i:Int}{s:Ty}{l:List Tm}(h:¬(Tm.mk k i s l).root=true):(Tm.mk k i s l).dev=Tm.mk k i s (l.map Tm.dev):=by rw[Tm.dev,Tm.E_,cJ h]
def G5(i:Int)(s:Ty)(j:Int)(u:Ty)(l:List Tm)(a:Tm):(Tm.mk 3 i s [.mk 2 j u l,a]).root=true:=by simp[Tm.root,Tm.kd]
def FJ(j:Int)(u:Ty)(b:Tm):(Tm.mk 2 j u [b]).dev=.mk 2 j u [b.dev]:=Tm.oZ (by simp[Tm.root])
def IU(j:Int)(u:Ty):(Tm.mk 4 j u []).dev=.mk 4 j u []:=Tm.oZ (by simp[Tm.root])
def CZ(j:Int)(u:Ty)(b:Tm):(Tm.mk 5 j u [b]).dev=.mk 5 j u [b.dev]:=Tm.oZ (by simp[Tm.root])
def Lw(j:Int)(u:Ty):(Tm.mk 7 j u []).dev=.mk 7 j u []:=Tm.oZ (by simp[Tm.root])
def C6(j:Int)(u:Ty)(a b:Tm):(Tm.mk 8 j u [a,b]).dev=.mk 8 j u [a.dev,b.dev]:=Tm.oZ (by simp[Tm.root])
def yQ(j:Int)(u:Ty)(a b:Tm):(Tm.mk 10 j u [a,b]).dev=.mk 10 j u [a.dev,b.dev]:=Tm.oZ (by simp[Tm.root])
def Cm(i:Int)(s:Ty)(j:Int)(u:Ty)(b a:Tm):(Tm.mk 3 i s [.mk 2 j u [b],a]).dev=Tm.ei 0 b.dev a.dev:=by
 rw[Tm.nT (G5 _ _ _ _ _ _)];simp only[jc,h9,FJ];simp[Tm.dm]
def Cr(i:Int)(s:Ty)(j:Int)(u:Ty)(b c:Tm):(Tm.mk 6 i s [b,c,.mk 4 j u []]).dev=b.dev:=by
 rw[Tm.nT (by simp[Tm.root,Tm.kd])];simp only[jc,h9,IU];simp[Tm.dm]
def CU(i:Int)(s:Ty)(j:Int)(u:Ty)(b c n:Tm):(Tm.mk 6 i s [b,c,.mk 5 j u [n]]).dev=gA c.dev [n.dev,.mk 6 i s [b.dev,c.dev,n.dev]]:=by
 rw[Tm.nT (by simp[Tm.root,Tm.kd])];simp only[jc,h9,CZ];simp[Tm.dm]
def AB(i:Int)(s:Ty)(j:Int)(u:Ty)(b c:Tm):(Tm.mk 9 i s [b,c,.mk 7 j u []]).dev=b.dev:=by
 rw[Tm.nT (by simp[Tm.root,Tm.kd])];simp only[jc,h9,Lw];simp[Tm.dm]
def Aq(i:Int)(s:Ty)(j:Int)(u:Ty)(b c n t:Tm):(Tm.mk 9 i s [b,c,.mk 8 j u [n,t]]).dev=gA c.dev [n.dev,t.dev,.mk 9 i s [b.dev,c.dev,t.dev]]:=by
 rw[Tm.nT (by simp[Tm.root,Tm.kd])];simp only[jc,h9,C6];simp[Tm.dm]
def Fz(i:Int)(s:Ty)(j:Int)(u:Ty)(a b:Tm):(Tm.mk 11 i s [.mk 10 j u [a,b]]).dev=a.dev:=by
 rw[Tm.nT (by simp[Tm.root,Tm.kd])];simp only[jc,h9,yQ];simp[Tm.dm]
def Fh(i:Int)(s:Ty)(j:Int)(u:Ty)(a b:Tm):(Tm.mk 12 i s [.mk 10 j u [a,b]]).dev=b.dev:=by
 rw[Tm.nT (by simp[Tm.root,Tm.kd])];simp only[jc,h9,yQ];simp[Tm.dm]
def Tm.pO{t:Tm}{k:Int}(h:t.afo=k):t=.mk k t.afr t.cW t.afp:=by
 cases t with
 |mk k' i s l=>simp at h;subst h;rfl
def iB.Zz{t u:Tm}(h:iB t u):t.ok=true->iB u t.dev:=by
 induction h with
 |n0 k i s=>intro _;rw[Tm.oZ (by simp[Tm.root,Tm.kd])];exact .n0 _ _ _|@n1 k i s a H h r=>
  intro g;have m:=Tm.c9 g a aae;have r:=r m
  by_cases z:(Tm.mk k i s [a]).root=true
  ·have hk:(k=11\/k=12)/\a.afo=10:=by
    have A:=Tm.lG g;have W:eC 3=2:=rfl
    have:k≠3:=by rintro rfl;simp at A;omega
    simpa[Tm.root,Tm.kd,this] using z
   obtain⟨hk,B⟩:=hk;rw[Tm.pO B] at h m r|-;obtain⟨p,q,K⟩:=Tm.S0 m;rw[K] at h m r|-;obtain⟨L,R,rfl,E,M⟩:=h.inv2 Zk;rw[yQ] at r;obtain⟨N,S,e,C,O⟩:=r.inv2 Zk;simp only[Tm.mk.injEq,Gf,Du,ry] at e;obtain⟨rfl,rfl⟩:=e;rcases hk with rfl|rfl
   ·rw[Fz];exact .fst _ _ _ _ _ C
   ·rw[Fh];exact .snd _ _ _ _ _ O
  ·rw[Tm.oZ z];exact .n1 _ _ _ r
 |@n2 k i s a H b F I T d o=>
  intro g;have m:=Tm.c9 g a aae;have d:=d m;have o:=o (Tm.c9 g b aae)
  by_cases z:(Tm.mk k i s [a,b]).root=true
  ·have hk:k=3/\a.afo=2:=by
    have A:=Tm.lG g;have U:eC 11=1:=rfl;have V:eC 12=1:=rfl
    have n1:k≠11:=by rintro rfl;simp at A;omega
    have n2:k≠12:=by rintro rfl;simp at A;omega
    simpa[Tm.root,Tm.kd,n1,n2] using z
   obtain⟨rfl,B⟩:=hk;rw[Tm.pO B] at I m d|-;obtain⟨p,y⟩:=Tm.Zg m;rw[y] at I m d|-;obtain⟨L,rfl,E⟩:=I.inv1 Zk Zk;rw[FJ] at d;obtain⟨N,e,C⟩:=d.inv1 Zk Zk;simp only[Tm.mk.injEq,Gf,Du,ry] at e;subst e;rw[Cm];exact .beta _ _ _ _ C o
  ·rw[Tm.oZ z];exact .n2 _ _ _ d o
 |@n3 k i s a H b F c Q I T v d o f=>
  intro g;have l:=Tm.c9 g c aae;have d:=d (Tm.c9 g a aae);have o:=o (Tm.c9 g b aae);have f:=f l
  by_cases z:(Tm.mk k i s [a,b,c]).root=true
  ·have hk:(k=6/\(c.afo=4\/c.afo=5))\/(k=9/\(c.afo=7\/c.afo=8)):=by
    have A:=Tm.lG g;have X:eC 3=2:=rfl;have U:eC 11=1:=rfl;have V:eC 12=1:=rfl
    have n0:k≠3:=by rintro rfl;simp at A;omega
    have n1:k≠11:=by rintro rfl;simp at A;omega
    have n2:k≠12:=by rintro rfl;simp at A;omega
    simpa[Tm.root,Tm.kd,n0,n1,n2] using z
   rcases hk with⟨rfl,hk|hk⟩|⟨rfl,hk|hk⟩
   ·rw[Tm.pO hk] at v l f|-;have y:=Tm.U_ (.inl rfl) l;rw[y] at v l f|-;obtain rfl:=v.L2;rw[Cr];exact .Bg _ _ _ _ _ d
   ·rw[Tm.pO hk] at v l f|-;obtain⟨p,y⟩:=Tm.Y0 l;rw[y] at v l f|-;obtain⟨L,rfl,E⟩:=v.inv1 Zk Zk;rw[CZ] at f;obtain⟨N,e,C⟩:=f.inv1 Zk Zk;simp only[Tm.mk.injEq,Gf,Du,ry] at e;subst e;rw[CU];exact .Bz _ _ _ _ d o C
   ·rw[Tm.pO hk] at v l f|-;have y:=Tm.U_ (.inr rfl) l;rw[y] at v l f|-;obtain rfl:=v.L2;rw[AB];exact .uW _ _ _ _ _ d
   ·rw[Tm.pO hk] at v l f|-;obtain⟨p,q,y⟩:=Tm.ZD l;rw[y] at v l f|-;obtain⟨L,R,rfl,E,M⟩:=v.inv2 Zk;rw[C6] at f;obtain⟨N,S,e,C,O⟩:=f.inv2 Zk;simp only[Tm.mk.injEq,Gf,Du,ry] at e;obtain⟨rfl,rfl⟩:=e;rw[Aq];exact .uz _ _ _ _ d o C O
  ·rw[Tm.oZ z];exact .n3 _ _ _ d o f
 |@beta i s j u b F a H E M w x=>
  intro g;have G:=Tm.c9 (Tm.c9 g (Tm.mk 2 j u [b]) aae) b aae;have m:=Tm.c9 g a aae;rw[Cm];exact(w G).ei (x m) (M.ok m) (E.ok G) 0 Zb
 |Bg i s j u c _ r=>intro g;rw[Cr];exact r (Tm.c9 g _ aae)|@Bz i s j u b F c Q n n' _ _ _ w x D=>
  intro g;have J:=Tm.c9 g (Tm.mk 5 j u [n]) aae;have g1:=w (Tm.c9 g _ aae);have g2:=x (Tm.c9 g _ aae);have g3:=D (Tm.c9 J _ aae);rw[CU];exact .n2 _ _ _ (.n2 _ _ _ g2 g3) (.n3 _ _ _ g1 g2 g3)
 |uW i s j u c _ r=>intro g;rw[AB];exact r (Tm.c9 g _ aae)|@uz i s j u b F c Q n n' t Y _ _ _ _ w x D P=>
  intro g;have J:=Tm.c9 g (Tm.mk 8 j u [n,t]) aae;have g1:=w (Tm.c9 g _ aae);have g2:=x (Tm.c9 g _ aae);have g3:=D (Tm.c9 J _ aae);have g4:=P (Tm.c9 J _ aae);rw[Aq];exact .n2 _ _ _ (.n2 _ _ _ (.n2 _ _ _ g2 g3) g4) (.n3 _ _ _ g1 g2 g4)
 |@fst i s j u b a H _ r=>intro g;rw[Fz];exact r (Tm.c9 (Tm.c9 g (Tm.mk 10 j u [a,b]) aae) _ aae)|@snd i s j u a b F _ r=>intro g;rw[Fh];exact r (Tm.c9 (Tm.c9 g (Tm.mk 10 j u [a,b]) aae) _ aae)
inductive jn:Tm->Tm->Prop
 |refl (t:Tm):jn t t|step {t u v:Tm}:iB t u->jn u v->jn t v
def jn.ok{t u:Tm}(h:jn t u):t.ok=true->u.ok=true:=by
 induction h with
 |refl=>exact id|step h _ a=>exactλb=>a (h.ok b)
def jn.trans{t u v:Tm}(h:jn t u)(a:jn u v):jn t v:=by
 induction h with
 |refl=>exact a|step h _ b=>exact .step h (b a)
def jn.strip{t v:Tm}(h:jn t v):∀u,t.ok=true->iB t u->∃w,jn u w/\iB v w:=by
 induction h with
 |refl t=>exactλu _ hu=>⟨u,.refl _,hu⟩|@step t a v c _ d=>
  intro u b hu;obtain⟨w,e,f⟩:=d t.dev (c.ok b) (c.Zz b);exact⟨w,.step (hu.Zz b) e,f⟩
def jn.meet{t u:Tm}(h:jn t u):∀v,t.ok=true->jn t v->∃w,jn u w/\jn v w:=by
 induction h with
 |refl t=>exactλv _ b=>⟨v,b,.refl _⟩|@step t a u c _ e=>
  intro v d b;obtain⟨w,f,g⟩:=b.strip a d c;obtain⟨z,i,z2⟩:=e w (c.ok d) f;exact⟨z,i,.step g z2⟩
def tQ{k i:Int}{s:Ty}{l:List Tm}(h:(Tm.mk k i s l).nf=true):(Tm.mk k i s l).root=false/\∀a∈l,a.nf=true:=by
 rw[Tm.Cg] at h;simpa using h
def iB.nf{t u:Tm}(h:iB t u):t.nf=true->u=t:=by
 induction h with
 |n0=>intro _;rfl|n1 k i s _ d=>intro hn;rw[d ((tQ hn).2 _ aae)]|n2 k i s _ _ a b=>intro hn;rw[a ((tQ hn).2 _ aae),b ((tQ hn).2 _ aae)]|n3 k i s _ _ _ a b c=>intro hn;rw[a ((tQ hn).2 _ aae),b ((tQ hn).2 _ aae),c ((tQ hn).2 _ aae)]|_=>intro hn;have:=(tQ hn).1;simp[Tm.root,Tm.kd] at this
def jn.nf{t u:Tm}(h:jn t u):t.nf=true->u=t:=by
 induction h with
 |refl=>intro _;rfl|step h _ a=>
  intro hn;have:=h.nf hn;subst this;exact a hn
def jn.unique{t a b:Tm}(c:t.ok=true)(d:jn t a)(e:jn t b)(f:a.nf=true)(g:b.nf=true):a=b:=by
 obtain⟨w,h,i⟩:=d.meet b c e;rw[<-h.nf f,<-i.nf g]
inductive D_:List Tm->List Tm->Prop
 |nil:D_ [] []|cons {a b:Tm} {l m:List Tm}:iB a b->D_ l m->D_ (a::l) (b::m)
def iB.list{k i:Int}{s:Ty}:∀{l m:List Tm},D_ l m->l.length<=3->iB (.mk k i s l) (.mk k i s m)
 |_,_,.nil,_=>.n0 _ _ _|_,_,.cons h .nil,_=>.n1 _ _ _ h|_,_,.cons h (.cons a .nil),_=>.n2 _ _ _ h a|_,_,.cons h (.cons a (.cons b .nil)),_=>.n3 _ _ _ h a b|_,_,.cons h (.cons a (.cons b (.cons d _))),c=>by simp at c
def GI(k:Int):eC k<=3:=by unfold eC;repeat' (first|omega|split)
def Tm.Ij{k i:Int}{s:Ty}{l:List Tm}(h:(Tm.mk k i s l).ok=true):l.length<=3:=by
 have:=Tm.lG h;have:=GI k;omega
def iB.refl(t:Tm):t.ok=true->iB t t:=by
 induction t using Tm.ind with
 |h k i s l c=>
  intro b
  have d:∀m:List Tm,(∀t∈m,t∈l)->D_ m m:=by
   intro m
   induction m with
   |nil=>exactλ_=>.nil|cons t m a=>exactλhm=>.cons (c t (hm t aae) (Tm.c9 b t (hm t aae))) (a λu hu=>hm u (by simp[hu]))
  exact iB.list (d l λt h=>h) (Tm.Ij b)
def iB.ND:∀(l:List Tm),(∀t∈l,t.ok=true)->D_ l l
 |[],_=>.nil|t::l,h=>.cons (iB.refl t (h t aae)) (iB.ND l λu hu=>h u (by simp[hu]))
theorem iB.dm{t:Tm}(c:t.ok=true)(g:t.root=true):iB t t.dm:=by
 cases Tm.wE c g with
 |@app i s j u b a=>
  rw[show(Tm.mk 3 i s [.mk 2 j u [b],a]).dm=Tm.ei 0 b a by simp[Tm.dm]];exact .beta _ _ _ _ (iB.refl b (Tm.c9 (Tm.c9 c (.mk 2 j u [b]) aae) b aae)) (iB.refl a (Tm.c9 c a aae))
 |@zero k l i s j u b st e=>
  have f:=iB.refl b (Tm.c9 c b aae);rcases e with⟨rfl,rfl⟩|⟨rfl,rfl⟩
  ·rw[show(Tm.mk 6 i s [b,st,.mk 4 j u []]).dm=b by simp[Tm.dm]];exact .Bg _ _ _ _ _ f
  ·rw[show(Tm.mk 9 i s [b,st,.mk 7 j u []]).dm=b by simp[Tm.dm]];exact .uW _ _ _ _ _ f
 |@succ i s j u b st n=>
  rw[show(Tm.mk 6 i s [b,st,.mk 5 j u [n]]).dm=gA st [n,.mk 6 i s [b,st,n]] by simp[Tm.dm]];exact .Bz _ _ _ _ (iB.refl b (Tm.c9 c b aae)) (iB.refl st (Tm.c9 c st aae)) (iB.refl n (Tm.c9 (Tm.c9 c (.mk 5 j u [n]) aae) n aae))
 |@cons i s j u b st h t=>
  have d:=Tm.c9 c (.mk 8 j u [h,t]) aae;rw[show(Tm.mk 9 i s [b,st,.mk 8 j u [h,t]]).dm=gA st [h,t,.mk 9 i s [b,st,t]] by simp[Tm.dm]];exact .uz _ _ _ _ (iB.refl b (Tm.c9 c b aae)) (iB.refl st (Tm.c9 c st aae)) (iB.refl h (Tm.c9 d h aae)) (iB.refl t (Tm.c9 d t aae))
 |@proj k i s j u a b e=>
  have d:=Tm.c9 c (.mk 10 j u [a,b]) aae;rcases e with rfl|rfl
  ·rw[show(Tm.mk 11 i s [.mk 10 j u [a,b]]).dm=a by simp[Tm.dm]];exact .fst _ _ _ _ _ (iB.refl a (Tm.c9 d a aae))
  ·rw[show(Tm.mk 12 i s [.mk 10 j u [a,b]]).dm=b by simp[Tm.dm]];exact .snd _ _ _ _ _ (iB.refl b (Tm.c9 d b aae))
def iB.yl{r:Int}(t:Tm):∀a,t.ok=true->t.yl r=some (some a)->iB t a:=by
 induction t using Tm.ind with
 |h k i s l g=>
  intro a c h;rcases hB h with⟨j,rfl⟩|⟨n,o,rfl⟩
  ·exact iB.dm c j
  ·refine iB.list ?_ (Tm.Ij c)
   have key:∀m:List Tm,(∀t∈m,t∈l)->∀d,Tm.lM r m=some (some d)->D_ m d:=by
    intro m
    induction m with
    |nil=>intro _ d h;exact(iM h).elim|cons t m f=>
     intro hm d h;have b:=Tm.c9 c t (hm t aae);rcases gh h with⟨a,e,rfl⟩|⟨p,e,rfl⟩
     ·exact .cons (g t (hm t aae) a b e) (iB.ND m λu hu=>Tm.c9 c u (hm u (by simp[hu])))
     ·exact .cons (iB.refl t b) (f (λu hu=>hm u (by simp[hu])) p e)
   exact key l (λt h=>h) n o
def AQ:∀(k:Nat) (m:Int) (t a:Tm) (n:Int),t.ok=true->t.norm k m=(a,n,0)->jn t a
 |0,m,t,a,n,b,h=>by
  rw[Tm.norm] at h
  split at h
  ·obtain⟨rfl,_⟩:=fa h;exact .refl _
  ·cases h
 |k+1,m,t,a,n,b,h=>by
  rw[Tm.norm] at h
  split at h
  ·cases h
  ·obtain⟨rfl,_⟩:=fa h;exact .refl _
  ·rename_i c hs;have:=iB.yl t c b hs;exact .step this (AQ k (m+1) c a n (this.ok b) h)
def OF(x:Tm):Tm.mk x.afo x.afr (Ty.mk x.cW.afo x.cW.afp) x.afp=x:=by
 cases x with
 |mk k i s l=>cases s;rfl
def ib{a:Ty}(h:a.afq<=1000000000):eG FU a a=some true:=by
 obtain⟨r,b,c⟩:=oY FU a a (by rw[dn];exact h) h;rw[b,c.2 rfl]
def ok_eq{t:Ty}(h:t.err=0):s5 t=some (t,0):=by
 unfold s5;rw[iw (by have:=(Ty.gq h).2;omega),h];rfl
def dx{t:Ty}(h:t.err=0):t.afq<=64:=by have:=(Ty.gq h).2;omega
inductive TL (n:Nat) (g:List Ty):List Tm->List Ty->Prop
 |nil:TL n g [] []|cons {a:Tm} {t:Ty} {l:List Tm} {ts:List Ty}:dU n g a=some (t,0)->TL n g l ts->TL n g (a::l) (t::ts)
def jy{n:Nat}{g:List Ty}:∀{l:List Tm} {ts:List Ty} (i:Nat) (v:List Ty),TL n g l ts->v.length+l.length<=1000->eg (λ(e:Int) (d:Tm)=>(λ(a:List Ty)=>
   c0 (dU n g d) λb c=>
   if(dI c 0) then(
   some (eK.ret ((Ty.mk 0 []),c)))
   else(fU (eZ a [b])<|some (.next (fK a [b])))):Int->Tm->((List Ty))->(Option (eK ((List Ty)) (Ty×Int)))) l i v=some (.inl (v++ts))
 |_,_,i,v,.nil,_=>by simp|_,_,i,v,.cons h f,j=>by
  simp only[hQ] at j;rw[dq];simp only[h,cI];rw[cJ Zk,di aaV];simp only[cM,cG,dt];rw[jy (i+1) _ f (by rw[ec];simp;omega),ec];simp
def Jo{g:List Ty}{x:Tm}{t:Ty}(h:dd g x t):(∀s∈g,s.err=0)->t.err=0/\∀n:Nat,x.afq<=n->g.length+x.afq<=1000000->dU n g x=some (t,0):=by
 induction h with
 |@var g t i w A=>
  intro hg;have y:=hg t (AY A);refine⟨y,λn hn e=>?_⟩;rw[Tm.cK] at hn;obtain⟨n,rfl⟩:∃m,n=m+1:=⟨n-1,Zb⟩;rw[Tm.cK] at e;rw[dU,cL abG,cJ (by simp only[Tm.dX,fB,dK];omega)];simp only[Tm.dX,dK];rw[dF (a:=(g.length:Int)) Zb Zb,dF Zb Zb]
  have:du g ((g.length:Int)-1-(i:Int))=some t:=by
   unfold du;rw[cL Zb,<-A]
   congr 1
   omega
  rw[this];simp only[cG];rw[fo (by have:=dx y;omega)];rfl
 |@lam g s b t w _ j=>
  intro hg;have hs:=(Ty.mB (.inr rfl) w).1;have z:=(Ty.mB (.inr rfl) w).2
  obtain⟨_,j⟩:=j (by
   intro u hu;rcases tA.1 hu with h|h
   ·exact hg u h
   ·rw[qn] at h;rw[h];exact hs)
  refine⟨w,λn hn e=>?_⟩;rw[Tm.cK] at hn e;simp only[cN] at hn e;obtain⟨n,rfl⟩:∃m,n=m+1:=⟨n-1,Zb⟩;rw[dU,cJ aae,cL abG];simp only[Tm.ds,Tm.cX,dc,fL,cG,ec];rw[di aaV,cM,j n Zb aaV];simp only[cI];rw[cJ Zk,fu (by have:=dx hs;omega) (by have:=dx z;omega)];simp only[cG];rw[ok_eq w];rfl
 |@app g f a s t _ _ c d=>
  intro hg;obtain⟨q,c⟩:=c hg;obtain⟨r,d⟩:=d hg;have z:=(Ty.mB (.inr rfl) q).2;refine⟨z,λn hn e=>?_⟩;rw[Tm.cK] at hn e;simp only[cN] at hn e;obtain⟨n,rfl⟩:∃m,n=m+1:=⟨n-1,Zb⟩;have o:=jy (n:=n) (g:=g) (l:=[f,a]) 0 [] (.cons (c n Zb Zb) (.cons (d n Zb Zb) .nil)) aae;rw[dU,cJ aae,cJ aae];simp only[cO,Tm.cX,cQ (l:=[f,a]) aae,cM];rw[o];simp only[cG,cR,dL,eo];rw[cL abG];simp only[k9,dc,ef,fL,iU,cG];rw[cJ (by simp[Ty.fn,dI]),show(Ty.fn s t).afp[0]?=some s from rfl];simp only[cG];rw[ib (by have:=dx r;omega)];simp only[cG];rw[cJ Zk,show(Ty.fn s t).afp[1]?=some t from rfl];rfl
 |zero=>
  intro hg;refine⟨Ty.ek,λn hn e=>?_⟩;rw[Tm.cK] at hn;obtain⟨n,rfl⟩:∃m,n=m+1:=⟨n-1,Zb⟩;rfl
 |@succ g a _ j=>
  intro hg;obtain⟨q,j⟩:=j hg;refine⟨Ty.ek,λn hn e=>?_⟩;rw[Tm.cK] at hn e;simp only[cN] at hn e;obtain⟨n,rfl⟩:∃m,n=m+1:=⟨n-1,Zb⟩;have o:=jy (n:=n) (g:=g) (l:=[a]) 0 [] (.cons (j n Zb Zb) .nil) aae;rw[dU,cJ aae,cJ aae];simp only[cO,Tm.cX,cQ (l:=[a]) aae,cM];rw[o];simp only[cG,cR,dL,eo];rw[cJ aae,cJ aae,cL abG];simp only[k9,dc,fL,cG];rw[ib (by rw[Ty.eM];omega)];rfl
 |@m4 g t b s k v _ _ _ c d p=>
  intro hg;obtain⟨q,c⟩:=c hg;obtain⟨r,d⟩:=d hg;obtain⟨B,p⟩:=p hg;refine⟨v,λn hn e=>?_⟩;rw[Tm.cK] at hn e;simp only[cN] at hn e;obtain⟨n,rfl⟩:∃m,n=m+1:=⟨n-1,Zb⟩;have z:=dx v;have o:=jy (n:=n) (g:=g) (l:=[b,s,k]) 0 [] (.cons (c n Zb Zb) (.cons (d n Zb Zb) (.cons (p n Zb Zb) .nil))) aae;rw[dU,cJ aae,cJ aae];simp only[cO,Tm.cX,cQ (l:=[b,s,k]) aae,cM];rw[o];simp only[cG,cR,dL,eo];rw[cJ aae,cJ aae,cJ aae,cL abG];simp only[k9,dc,ef,fD,fL,iU,cG,Tm.ds];rw[ib Zb];simp only[cG,if_true];rw[fu Zb Zb];simp only[cG];rw[fu (by rw[Ty.eM];omega) (by rw[Ty.fR];omega)];simp only[cG];rw[ib (by have:=dx r;omega)];simp only[cG,if_true];rw[ib (by rw[Ty.eM];omega)];simp only[cG];rw[cJ Zk,fo Zb];rfl
 |nil=>
  intro hg;refine⟨Ty.jD,λn hn e=>?_⟩;rw[Tm.cK] at hn;obtain⟨n,rfl⟩:∃m,n=m+1:=⟨n-1,Zb⟩;rfl
 |@cons g a b _ _ c d=>
  intro hg;obtain⟨q,c⟩:=c hg;obtain⟨r,d⟩:=d hg;refine⟨Ty.jD,λn hn e=>?_⟩;rw[Tm.cK] at hn e;simp only[cN] at hn e;obtain⟨n,rfl⟩:∃m,n=m+1:=⟨n-1,Zb⟩;have o:=jy (n:=n) (g:=g) (l:=[a,b]) 0 [] (.cons (c n Zb Zb) (.cons (d n Zb Zb) .nil)) aae;rw[dU,cJ aae,cJ aae];simp only[cO,Tm.cX,cQ (l:=[a,b]) aae,cM];rw[o];simp only[cG,cR,dL,eo];rw[cJ aae,cJ aae,cJ aae,cJ aae,cJ aae,cL abG];simp only[k9,dc,ef,fL,iU,cG];rw[ib (by rw[Ty.eM];omega)];simp only[cG,if_true];rw[ib (by rw[Ty.jR];omega)];rfl
 |@fold g t b s k v _ _ _ c d p=>
  intro hg;obtain⟨q,c⟩:=c hg;obtain⟨r,d⟩:=d hg;obtain⟨B,p⟩:=p hg;refine⟨v,λn hn e=>?_⟩;rw[Tm.cK] at hn e;simp only[cN] at hn e;obtain⟨n,rfl⟩:∃m,n=m+1:=⟨n-1,Zb⟩;have z:=dx v;have o:=jy (n:=n) (g:=g) (l:=[b,s,k]) 0 [] (.cons (c n Zb Zb) (.cons (d n Zb Zb) (.cons (p n Zb Zb) .nil))) aae;rw[dU,cJ aae,cJ aae];simp only[cO,Tm.cX,cQ (l:=[b,s,k]) aae,cM];rw[o];simp only[cG,cR,dL,eo];rw[cJ aae,cJ aae,cJ aae,cJ aae,cJ aae,cJ aae,cL abG];simp only[k9,dc,ef,fD,fL,iU,cG,Tm.ds];rw[ib Zb];simp only[cG,if_true];rw[fu Zb Zb];simp only[cG];rw[fu (by rw[Ty.jR];omega) (by rw[Ty.fR];omega)];simp only[cG];rw[fu (by rw[Ty.eM];omega) (by rw[Ty.fR,Ty.fR,Ty.jR];omega)];simp only[cG];rw[ib (by have:=dx r;omega)];simp only[cG,if_true];rw[ib (by rw[Ty.jR];omega)];simp only[cG];rw[cJ Zk,fo Zb];rfl
 |@pair g a b s t v _ _ c d=>
  intro hg;obtain⟨q,c⟩:=c hg;obtain⟨r,d⟩:=d hg;refine⟨v,λn hn e=>?_⟩;rw[Tm.cK] at hn e;simp only[cN] at hn e;obtain⟨n,rfl⟩:∃m,n=m+1:=⟨n-1,Zb⟩;have o:=jy (n:=n) (g:=g) (l:=[a,b]) 0 [] (.cons (c n Zb Zb) (.cons (d n Zb Zb) .nil)) aae;rw[dU,cJ aae,cJ aae];simp only[cO,Tm.cX,cQ (l:=[a,b]) aae,cM];rw[o];simp only[cG,cR,dL,eo];rw[cJ aae,cJ aae,cJ aae,cJ aae,cJ aae,cJ aae,cJ aae,cL abG];simp only[k9,dc,ef,fL,iU,cG];rw[qz (by have:=dx q;omega) (by have:=dx r;omega)];simp only[cG];rw[ok_eq v];rfl
 |@fst g a s t _ j=>
  intro hg;obtain⟨q,j⟩:=j hg;refine⟨(Ty.mB (.inl rfl) q).1,λn hn e=>?_⟩;rw[Tm.cK] at hn e;simp only[cN] at hn e;obtain⟨n,rfl⟩:∃m,n=m+1:=⟨n-1,Zb⟩;have o:=jy (n:=n) (g:=g) (l:=[a]) 0 [] (.cons (j n Zb Zb) .nil) aae;rw[dU,cJ aae,cJ aae];simp only[cO,Tm.cX,cQ (l:=[a]) aae,cM];rw[o];simp only[cG,cR,dL,eo];rw[cJ aae,cJ aae,cJ aae,cJ aae,cJ aae,cJ aae,cJ aae,cJ aae,cL abG];simp only[k9,dc,fL,cG];rw[cJ (by simp[Ty.pr,dI]),cL abG,show(Ty.pr s t).afp[0]?=some s from rfl];rfl
 |@snd g a s t _ j=>
  intro hg;obtain⟨q,j⟩:=j hg;refine⟨(Ty.mB (.inl rfl) q).2,λn hn e=>?_⟩;rw[Tm.cK] at hn e;simp only[cN] at hn e;obtain⟨n,rfl⟩:∃m,n=m+1:=⟨n-1,Zb⟩;have o:=jy (n:=n) (g:=g) (l:=[a]) 0 [] (.cons (j n Zb Zb) .nil) aae;rw[dU,cJ aae,cJ aae];simp only[cO,Tm.cX,cQ (l:=[a]) aae,cM];rw[o];simp only[cG,cR,dL,eo];rw[cJ aae,cJ aae,cJ aae,cJ aae,cJ aae,cJ aae,cJ aae,cJ aae,cL abG];simp only[k9,dc,fL,cG];rw[cJ (by simp[Ty.pr,dI]),cJ aae,show du (Ty.pr s t).afp 1=some t from rfl];rfl
 |unit=>
  intro hg;refine⟨Ty.yz,λn hn e=>?_⟩;rw[Tm.cK] at hn;obtain⟨n,rfl⟩:∃m,n=m+1:=⟨n-1,Zb⟩;rfl
def Tm.jJ{p:Tm->Prop}(var:∀i:Nat,p (.mk 1 i .z []))(lam:∀s b,s.err=0->b.ok=true->p (.mk 2 0 s [b]))(app:∀a b,a.ok=true->b.ok=true->p (.mk 3 0 .z [a,b]))
  (zero:p (.mk 4 0 .z [])) (succ:∀a,a.ok=true->p (.mk 5 0 .z [a])) (m4:∀s a b c,s.err=0->a.ok=true->b.ok=true->c.ok=true->p (.mk 6 0 s [a,b,c])) (nil:p (.mk 7 0 .z []))
  (cons:∀a b,a.ok=true->b.ok=true->p (.mk 8 0 .z [a,b])) (fold:∀s a b c,s.err=0->a.ok=true->b.ok=true->c.ok=true->p (.mk 9 0 s [a,b,c])) (pair:∀a b,a.ok=true->b.ok=true->p (.mk 10 0 .z [a,b]))
  (fst:∀a,a.ok=true->p (.mk 11 0 .z [a])) (snd:∀a,a.ok=true->p (.mk 12 0 .z [a])) (unit:p (.mk 13 0 .z [])) (t:Tm) (h:t.ok=true):p t:=by
 cases t with
 |mk k i s l=>
  obtain⟨_,hi,d,g,hn⟩:=Tm.hE h
  have hs:if f_ k then s.err=0 else s=.z:=by
   rw[Tm.eu] at h;simp only[Tm.node,ew] at h;have:=h.1.2
   split at this
   ·rename_i e;rw[cL e];simpa using this
   ·rename_i e;rw[cJ e];exact(Ty.ik s).1 this
  have n:∀{l:List Tm},(l.length:Int)=0->l=[]:=λh=>eh.1 h;unfold eC at hn
  split at hn
  ·rename_i e;obtain rfl:=eh.1 hn;rcases e with rfl|rfl|rfl|rfl
   ·rw[cJ Zk] at hs;subst hs;obtain⟨j,rfl⟩:∃j:Nat,i=(j:Int):=⟨i.toNat,Zb⟩;exact var j
   ·rw[cJ Zk] at hs;subst hs;obtain rfl:=d Zk;exact zero
   ·rw[cJ Zk] at hs;subst hs;obtain rfl:=d Zk;exact nil
   ·rw[cJ Zk] at hs;subst hs;obtain rfl:=d Zk;exact unit
  ·split at hn
   ·rename_i e;obtain⟨a,rfl⟩:=fO hn;have f:=g a aae;rcases e with rfl|rfl|rfl|rfl
    ·rw[cL Zk] at hs;obtain rfl:=d Zk;exact lam s a hs f
    ·rw[cJ Zk] at hs;subst hs;obtain rfl:=d Zk;exact succ a f
    ·rw[cJ Zk] at hs;subst hs;obtain rfl:=d Zk;exact fst a f
    ·rw[cJ Zk] at hs;subst hs;obtain rfl:=d Zk;exact snd a f
   ·split at hn
    ·rename_i e;obtain⟨a,b,rfl⟩:=kz hn;have f:=g a aae;have m:=g b aae;rcases e with rfl|rfl|rfl
     ·rw[cJ Zk] at hs;subst hs;obtain rfl:=d Zk;exact app a b f m
     ·rw[cJ Zk] at hs;subst hs;obtain rfl:=d Zk;exact cons a b f m
     ·rw[cJ Zk] at hs;subst hs;obtain rfl:=d Zk;exact pair a b f m
    ·split at hn
     ·rename_i e
      obtain⟨a,b,c,rfl⟩:∃a b c,l=[a,b,c]:=by
       match l,hn with
       |[a,b,c],_=>exact⟨a,b,c,rfl⟩|[],h|[_],h|[_,_],h=>simp at h
       |_::_::_::_::_,h=>simp at h;omega
      have f:=g a aae;have m:=g b aae;have o:=g c aae;rcases e with rfl|rfl
      ·rw[cL Zk] at hs;obtain rfl:=d Zk;exact m4 s a b c hs f m o
      ·rw[cL Zk] at hs;obtain rfl:=d Zk;exact fold s a b c hs f m o
     ·omega
open Classical in
noncomputable def eO (k:Int) (s:Ty) (l:List Ty):Ty×Int:=
 if k=3 then(if(l.getD 0 .z).afo=4/\(l.getD 0 .z).afp.getD 0 .z=l.getD 1 .z then((l.getD 0 .z).afp.getD 1 .z,0)else(.z,7))
 else if k=4 then(.nat,0)
 else if k=5 then(if l.getD 0 .z=.nat then(.nat,0)else(.z,7))
 else if k=6 then(if l.getD 0 .z=s/\l.getD 1 .z=.fn .nat (.fn s s)/\l.getD 2 .z=.nat then(s,0)else(.z,7))
 else if k=7 then(.hS,0)
 else if k=8 then(if l.getD 0 .z=.nat/\l.getD 1 .z=.hS then(.hS,0)else(.z,7))
 else if k=9 then(if l.getD 0 .z=s/\l.getD 1 .z=.fn .nat (.fn .hS (.fn s s))/\l.getD 2 .z=.hS then(s,0)else(.z,7))
 else if k=10 then(if 64<1+(l.getD 0 .z).afq+(l.getD 1 .z).afq then(.z,4)else(.pr (l.getD 0 .z) (l.getD 1 .z),0))
 else if k=11 then(if(l.getD 0 .z).afo=3 then((l.getD 0 .z).afp.getD 0 .z,0)else(.z,7))
 else if k=12 then(if(l.getD 0 .z).afo=3 then((l.getD 0 .z).afp.getD 1 .z,0)else(.z,7))
 else(.unit,0)
def Cv(s:Ty)(r:Ty×Int):Ty×Int:=if r.2≠0 then(.z,r.2)else if 64<1+s.afq+r.1.afq then(.z,4)else(.fn s r.1,0)
def nY(f:List Ty->Ty×Int):List Ty⊕Int->Ty×Int
 |.inl l=>f l|.inr e=>(.z,e)
def DV(r:Ty×Int)(o:List Ty⊕Int):List Ty⊕Int:=if r.2≠0 then .inr r.2 else match o with|.inl l=>.inl (r.1::l)|.inr e=>.inr e
mutual
noncomputable def Tm.ty:Tm->List Ty->Ty×Int
 |.mk k i s l,g=>if k=1 then(if i<(g.length:Int)then(g.getD (g.length-1-i.toNat) .z,0)else(.z,6))else if k=2 then Cv s (Tm.SG l (g++[s]))else nY (eO k s) (Tm.nJ l g)
noncomputable def Tm.SG:List Tm->List Ty->Ty×Int
 |[],_=>(.z,0)|t::_,g=>t.ty g
noncomputable def Tm.nJ:List Tm->List Ty->List Ty⊕Int
 |[],_=>.inl []|t::l,g=>DV (t.ty g) (Tm.nJ l g)
end
def Tm.iR(k i:Int)(s:Ty)(l:List Tm)(g:List Ty):(Tm.mk k i s l).ty g=if k=1 then(if i<(g.length:Int)then(g.getD (g.length-1-i.toNat) .z,0)else(.z,6))else if k=2 then Cv s (Tm.SG l (g++[s]))else nY (eO k s) (Tm.nJ l g):=by rw[Tm.ty]
def fh(g:List Ty):Prop:=∀s∈g,s.err=0
def fh.app{g:List Ty}{s:Ty}(h:fh g)(hs:s.err=0):fh (g++[s]):=by
 intro u hu;rcases tA.1 hu with h'|h'
 ·exact h u h'
 ·grind
def BQ{t:Ty}(h:t.err=0)(c:t.afo=4):∃a b,t=.fn a b/\a.err=0/\b.err=0:=by
 rcases Ty.lb h with rfl|rfl|rfl|⟨a,b,rfl,_,_⟩|h
 ·cases c
 ·cases c
 ·cases c
 ·cases c
 ·exact h
def sF{t:Ty}(h:t.err=0)(c:t.afo=3):∃a b,t=.pr a b/\a.err=0/\b.err=0:=by
 rcases Ty.lb h with rfl|rfl|rfl|h|⟨a,b,rfl,_,_⟩
 ·cases c
 ·cases c
 ·cases c
 ·exact h
 ·cases c
def og{t:Ty}(h:t.err=0):t.afo=1↔t=.nat:=by
 rcases Ty.lb h with rfl|rfl|rfl|⟨a,b,rfl,_,_⟩|⟨a,b,rfl,_,_⟩
 ·exact⟨λ_=>rfl,λ_=>rfl⟩
 all_goals exact⟨λh=>(by cases h),λh=>(by cases h)⟩
def ve{t:Ty}(h:t.err=0):t.afo=2↔t=.hS:=by
 rcases Ty.lb h with rfl|rfl|rfl|⟨a,b,rfl,_,_⟩|⟨a,b,rfl,_,_⟩
 ·exact⟨λh=>(by cases h),λh=>(by cases h)⟩
 ·exact⟨λ_=>rfl,λ_=>rfl⟩
 all_goals exact⟨λh=>(by cases h),λh=>(by cases h)⟩
theorem kD{r:Ty×Int}{o:List Ty⊕Int}(h:r.2≠0):DV r o=.inr r.2:=cL h
theorem kE{r:Ty×Int}{o:List Ty⊕Int}(h:r.2=0):DV r o=match o with|.inl l=>.inl (r.1::l)|.inr e=>.inr e:=cJ Zb
theorem mx{f:List Ty->Ty×Int}{e:Int}{r:Ty}(h:nY f (.inr e)=(r,0)):e=0:=(fa h).2
def qN{a:Tm}{g:List Ty}(h:(a.ty g).2=0):a.ty g=((a.ty g).1,0):=Prod.ext rfl h
def EC{a:Tm}{g:List Ty}{f:List Ty->Ty×Int}{r:Ty}(h:nY f (Tm.nJ [a] g)=(r,0)):∃s,a.ty g=(s,0)/\f [s]=(r,0):=by
 rw[Tm.nJ] at h
 by_cases b:(a.ty g).2=0
 ·rw[kE b] at h;exact⟨_,qN b,h⟩
 ·grind[kD,mx]
def E2{a b:Tm}{g:List Ty}{f:List Ty->Ty×Int}{r:Ty}(h:nY f (Tm.nJ [a,b] g)=(r,0)):∃s t,a.ty g=(s,0)/\b.ty g=(t,0)/\f [s,t]=(r,0):=by
 rw[Tm.nJ,Tm.nJ,Tm.nJ] at h
 by_cases c:(a.ty g).2=0
 ·rw[kE c] at h
  by_cases d:(b.ty g).2=0
  ·rw[kE d] at h;exact⟨_,_,qN c,qN d,h⟩
  ·grind[kD,mx]
 ·grind[kD,mx]
def CP{a b c:Tm}{g:List Ty}{f:List Ty->Ty×Int}{r:Ty}(h:nY f (Tm.nJ [a,b,c] g)=(r,0)):∃s t u,a.ty g=(s,0)/\b.ty g=(t,0)/\c.ty g=(u,0)/\f [s,t,u]=(r,0):=by
 rw[Tm.nJ,Tm.nJ,Tm.nJ,Tm.nJ] at h
 by_cases d:(a.ty g).2=0
 ·rw[kE d] at h
  by_cases e:(b.ty g).2=0
  ·rw[kE e] at h
   by_cases i:(c.ty g).2=0
   ·rw[kE i] at h;exact⟨_,_,_,qN d,qN e,qN i,h⟩
   ·grind[kD,mx]
  ·rw[kD e] at h;exact absurd (mx h) e
 ·rw[kD d] at h;exact absurd (mx h) d
def kX:∀(n:Nat) (t:Tm),t.afq<=n->t.ok=true->∀g,fh g->∀s,t.ty g=(s,0)->dd g t s/\s.err=0:=by
 intro n
 induction n with
 |zero=>intro t h;have:=t.da;omega
 |succ n k=>
  intro t hn E;refine Tm.jJ (p:=λt=>t.afq<=n+1->∀g,fh g->∀s,t.ty g=(s,0)->dd g t s/\s.err=0) ?_ ?_ ?_ ?_ ?_ ?_ ?_ ?_ ?_ ?_ ?_ ?_ ?_ t E hn
  ·intro i _ g hg s h;rw[Tm.iR,cL rfl] at h
   split at h
   ·rename_i hi
    have u:g.length-1-(i:Int).toNat<g.length:=Zb
    have e:g[g.length-1-i]?=some s:=by
     have f:=(fa h).1;rw[F3,AZ] at f;rw[AZ] at u;rw[mr u] at f|-;simpa using f
    exact⟨.var i Zb e,hg s (AY e)⟩
   ·have:=(fa h).2;omega
  ·intro s b hs m hn g hg r h;rw[Tm.cK] at hn;simp only[cN] at hn;rw[Tm.iR,cJ Zk,cL rfl,Tm.SG] at h;unfold Cv at h
   split at h
   ·rename_i w;exact absurd (fa h).2 w
   ·rename_i w
    split at h
    ·have:=(fa h).2;omega
    ·rename_i f;obtain⟨o,d⟩:=k b Zb m (g++[s]) (hg.app hs) _ (qN (by simpa using w));have he:=Ty.qj hs d Zb;obtain rfl:=(fa h).1;exact⟨.lam he o,he⟩
  ·intro a b l m hn g hg r h;rw[Tm.cK] at hn;simp only[cN] at hn;rw[Tm.iR,cJ Zk,cJ Zk] at h;obtain⟨s,t,f,o,d⟩:=E2 h;obtain⟨a1,a2⟩:=k a Zb l g hg _ f;obtain⟨q,v⟩:=k b Zb m g hg _ o;simp only[eO,if_true,rk,FV] at d
   split at d
   ·rename_i j;obtain⟨x,y,rfl,A,hy⟩:=BQ a2 j.1;have F:x=t:=j.2;obtain rfl:=(fa d).1;subst F;exact⟨.app a1 q,hy⟩
   ·have:=(fa d).2;omega
  ·intro hn g hg r h;rw[Tm.iR,cJ Zk,cJ Zk,Tm.nJ] at h;simp only[nY,eO,reduceIte,Int.reduceEq] at h;obtain rfl:=(fa h).1;exact⟨.zero,Ty.ek⟩
  ·intro a l hn g hg r h;rw[Tm.cK] at hn;simp only[cN] at hn;rw[Tm.iR,cJ Zk,cJ Zk] at h;obtain⟨s,f,d⟩:=EC h;obtain⟨a1,a2⟩:=k a Zb l g hg _ f;simp only[eO,reduceIte,Int.reduceEq,rk] at d
   split at d
   ·rename_i j;subst j;obtain rfl:=(fa d).1;exact⟨.succ a1,Ty.ek⟩
   ·have:=(fa d).2;omega
  ·intro s a b c hs l m B hn g hg r h;rw[Tm.cK] at hn;simp only[cN] at hn;rw[Tm.iR,cJ Zk,cJ Zk] at h;obtain⟨x,y,z,f,o,C,d⟩:=CP h;obtain⟨a1,a2⟩:=k a Zb l g hg _ f;obtain⟨q,v⟩:=k b Zb m g hg _ o;obtain⟨D,G⟩:=k c Zb B g hg _ C;simp only[eO,reduceIte,Int.reduceEq,rk,FV] at d
   split at d
   ·rename_i j;have j:x=s/\y=.fn .nat (.fn s s)/\z=.nat:=j;obtain⟨rfl,rfl,rfl⟩:=j;obtain rfl:=(fa d).1;exact⟨.m4 hs a1 q D,hs⟩
   ·have:=(fa d).2;omega
  ·intro hn g hg r h;rw[Tm.iR,cJ Zk,cJ Zk,Tm.nJ] at h;simp only[nY,eO,reduceIte,Int.reduceEq] at h;obtain rfl:=(fa h).1;exact⟨.nil,Ty.jD⟩
  ·intro a b l m hn g hg r h;rw[Tm.cK] at hn;simp only[cN] at hn;rw[Tm.iR,cJ Zk,cJ Zk] at h;obtain⟨s,t,f,o,d⟩:=E2 h;obtain⟨a1,a2⟩:=k a Zb l g hg _ f;obtain⟨q,v⟩:=k b Zb m g hg _ o;simp only[eO,reduceIte,Int.reduceEq,rk,FV] at d
   split at d
   ·rename_i j;obtain⟨rfl,rfl⟩:=j;obtain rfl:=(fa d).1;exact⟨.cons a1 q,Ty.jD⟩
   ·have:=(fa d).2;omega
  ·intro s a b c hs l m B hn g hg r h;rw[Tm.cK] at hn;simp only[cN] at hn;rw[Tm.iR,cJ Zk,cJ Zk] at h;obtain⟨x,y,z,f,o,C,d⟩:=CP h;obtain⟨a1,a2⟩:=k a Zb l g hg _ f;obtain⟨q,v⟩:=k b Zb m g hg _ o;obtain⟨D,G⟩:=k c Zb B g hg _ C;simp only[eO,reduceIte,Int.reduceEq,rk,FV] at d
   split at d
   ·rename_i j;have j:x=s/\y=.fn .nat (.fn .hS (.fn s s))/\z=.hS:=j;obtain⟨rfl,rfl,rfl⟩:=j;obtain rfl:=(fa d).1;exact⟨.fold hs a1 q D,hs⟩
   ·have:=(fa d).2;omega
  ·intro a b l m hn g hg r h;rw[Tm.cK] at hn;simp only[cN] at hn;rw[Tm.iR,cJ Zk,cJ Zk] at h;obtain⟨s,t,f,o,d⟩:=E2 h;obtain⟨a1,a2⟩:=k a Zb l g hg _ f;obtain⟨q,v⟩:=k b Zb m g hg _ o;simp only[eO,reduceIte,Int.reduceEq,rk,FV] at d
   split at d
   ·have:=(fa d).2;omega
   ·rename_i j;have he:=Ty.El a2 v Zb;obtain rfl:=(fa d).1;exact⟨.pair he a1 q,he⟩
  ·intro a l hn g hg r h;rw[Tm.cK] at hn;simp only[cN] at hn;rw[Tm.iR,cJ Zk,cJ Zk] at h;obtain⟨s,f,d⟩:=EC h;obtain⟨a1,a2⟩:=k a Zb l g hg _ f;simp only[eO,reduceIte,Int.reduceEq,rk] at d
   split at d
   ·rename_i j;obtain⟨x,y,rfl,A,hy⟩:=sF a2 j;obtain rfl:=(fa d).1;exact⟨.fst a1,A⟩
   ·have:=(fa d).2;omega
  ·intro a l hn g hg r h;rw[Tm.cK] at hn;simp only[cN] at hn;rw[Tm.iR,cJ Zk,cJ Zk] at h;obtain⟨s,f,d⟩:=EC h;obtain⟨a1,a2⟩:=k a Zb l g hg _ f;simp only[eO,reduceIte,Int.reduceEq,rk] at d
   split at d
   ·rename_i j;obtain⟨x,y,rfl,A,hy⟩:=sF a2 j;obtain rfl:=(fa d).1;exact⟨.snd a1,hy⟩
   ·have:=(fa d).2;omega
  ·intro hn g hg r h;rw[Tm.iR,cJ Zk,cJ Zk,Tm.nJ] at h;simp only[nY,eO,reduceIte,Int.reduceEq] at h;obtain rfl:=(fa h).1;exact⟨.unit,Ty.yz⟩
end Go.eD
