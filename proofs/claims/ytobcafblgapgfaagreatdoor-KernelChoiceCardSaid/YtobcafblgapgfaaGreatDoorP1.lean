/- Part of the proof of KernelChoice: plain facts. -/
import Derived.Test.YtobcafblgapgfaaGreatDoorG1
set_option linter.all false
namespace Go.fg
open Go
@[simp] theorem eH(a b:Int):de a b=true↔a=b:=by simp[de]
@[simp] theorem cR(a b:Int):dr a b=true↔a≠b:=by simp[dr]
@[simp] theorem lL(a b:Int):rv a b=true↔a<b:=by simp[rv]
@[simp] theorem zB(a b:Int):Gd a b=true↔a<=b:=by simp[Gd]
@[simp] theorem eO(a b:Int):mV a b=true↔b<a:=by simp[mV]
@[simp] theorem gP(a b:Int):qT a b=true↔b<=a:=by simp[qT]
@[simp] theorem jN(a b:Bool):ew a true b=(a||b):=by cases a<;>rfl
@[simp] theorem qx(a b:Bool):ew a b false=(a&&b):=by cases a<;>rfl
@[simp] theorem VZ(a b:Bool):ew a b true=(!a||b):=by cases a<;>rfl
@[simp] theorem Lf(a:Bool):k4 a=!a:=rfl
@[simp] theorem eW{α:Type}(l m:List α):fp l m=l++m:=rfl
@[simp] theorem et{α:Type}(l:List α):dm l=(l.length:Int):=rfl
def hB{α:Type}(l:List α)(i:Nat):c_ l (i:Int)=l[i]?:=by simp[c_]
@[simp] theorem dk{α:Type}(l:List α):c_ l 0=l[0]?:=by simp[c_]
@[simp] theorem eD{α:Type}(l:List α):c_ l 1=l[1]?:=by simp[c_]
@[simp] theorem gu{α:Type}(l:List α):c_ l 2=l[2]?:=by simp[c_]
def Gb{α:Type}{l:List α}{i:Int}(b:0<=i)(c:i<l.length):∃x,c_ l i=some x/\x∈l:=by
 obtain⟨k,rfl⟩:=Yg b
 have a:k<l.length:=by omega
 exact⟨l[k],by rw[hB];simp[a],BT a⟩
def cW{α:Type}{l:List α}(h:l.length<=1000000000):dG l=true:=by unfold dG MG;exact sw (by omega)
def dK{α:Type}{l m:List α}(h:l.length+m.length<=1000000000):eC l m=true:=by unfold eC MG;exact sw (by omega)
def No{b:Int}(h:b≠0):FQ b=true:=by simp[FQ,h]
def Cq{n:Int}(a:-9223372036854775808<=n)(b:n<9223372036854775808):IntKind.i64.wrap n=n:=by
 rw[IntKind.wrap_i64];omega
def dJ{a b:Int}(c:-9223372036854775808<=a+b)(d:a+b<9223372036854775808):dB .i64 a b=a+b:=Cq c d
def dW{a b:Int}(c:-9223372036854775808<=a-b)(d:a-b<9223372036854775808):dX .i64 a b=a-b:=Cq c d
def wM{a b:Int}(c:-9223372036854775808<=a*b)(d:a*b<9223372036854775808):GL .i64 a b=a*b:=Cq c d
section
variable{α β σ ρ:Type}
def FC{F:Int->α->σ->Option (eA σ ρ)}(I:σ->Prop)(Q:ρ->Prop):∀(l:List α) (i:Nat) (s:σ),I s->(∀k x s,l[k]?=some x->I s->(∃a,F ((i+k:Nat):Int) x s=some (.next a)/\I a)\/(∃r,F ((i+k:Nat):Int) x s=some (.ret r)/\Q r))->(∃a,dH F l i s=some (.inl a)/\I a)\/(∃r,dH F l i s=some (.inr r)/\Q r)
 |[],i,s,hs,_=>.inl ⟨s,rfl,hs⟩|x::l,i,s,hs,h=>by
  have e:=h 0 x s rfl hs;rw[BO] at e;rw[dC];rcases e with⟨s1,b,c⟩|⟨r,b,c⟩
  ·rw[b];simp only[cz,dL];refine FC I Q l (i+1) s1 c λk y a f d=>?_;have:=h (k+1) y a (by simpa using f) d;rw[show i+(k+1)=i+1+k by omega] at this;exact this
  ·rw[b];exact .inr ⟨r,rfl,c⟩
def gZ{F:Int->α->List β->Option (eA (List β) ρ)}(g:α->β):∀(l:List α) (i:Nat) (v:List β),v.length+l.length<=1000000000->(∀j x v,x∈l->v.length+1<=1000000000->F j x v=some (.next (v++[g x])))->dH F l i v=some (.inl (v++l.map g))
 |[],i,v,_,_=>by simp|x::l,i,v,a,h=>by
  simp only[jW] at a;rw[dC,h i x v (by simp) (by omega)];simp only[cz,dL];rw[gZ g l (i+1) (v++[g x]) (by simp;omega) λj y v hy b=>h j y v (by simp[hy]) b];simp
def cX(g:α->Nat):List α->Nat
 |[]=>0|x::l=>g x+cX g l
def da(g:α->Nat){l:List α}{x:α}(h:x∈l):g x<=cX g l:=by
 induction l with
 |nil=>cases h
 |cons y l a=>
  simp only[cX];rcases jz.1 h with rfl|h
  ·omega
  ·have:=a h;omega
def fO(g:α->Nat)(l:List α)(h:∀x∈l,1<=g x):l.length<=cX g l:=by
 induction l with
 |nil=>simp|cons y l a=>simp only[cX,jW];have:=h y (by simp);have:=a λx b=>h x (by simp[b]);omega
def nr{F:Int->α->Int->Option (eA Int ρ)}(g:α->Nat):∀(l:List α) (i v:Nat),v+cX g l<=4611686018427387904->(∀j x (v:Int),x∈l->F j x v=some (.next (dB .i64 v (g x))))->dH F l i (v:Int)=some (.inl ((v+cX g l:Nat):Int))
 |[],i,v,_,_=>by simp[cX]|x::l,i,v,a,h=>by
  simp only[cX] at a|-;rw[dC,h i x v (by simp),dJ (by omega) (by omega)];simp only[cz,dL];have:=nr g l (i+1) (v+g x) (by omega) λj y v hy=>h j y v (by simp[hy]);rw[show(v:Int)+(g x:Int)=((v+g x:Nat):Int) by omega,this];rw[J']
def rT{F:Int->α->Int->Option (eA Int ρ)}(g:α->Nat)(ok:α->Bool)(r:ρ):∀(l:List α) (i v:Nat),v+cX g l<=4611686018427387904->(∀j x (v:Int),x∈l->F j x v=if ok x=true then some (.next (dB .i64 v (g x)))else some (.ret r))->dH F l i (v:Int)=if l.all ok=true then some (.inl ((v+cX g l:Nat):Int))else some (.inr r)
 |[],i,v,_,_=>by simp[cX]|x::l,i,v,b,h=>by
  simp only[cX] at b|-;rw[dC,h i x v (by simp),dJ (by omega) (by omega)];cases a:ok x with
  |false=>simp[a]|true=>
   simp only[if_true,cz,dL,uw,a,xe];have:=rT g ok r l (i+1) (v+g x) (by omega) λj y v hy=>h j y v (by simp[hy]);rw[show(v:Int)+(g x:Int)=((v+g x:Nat):Int) by omega,this,J']
def oI{F:Int->α->Unit->Option (eA Unit ρ)}(ok:α->Bool)(r:ρ):∀(l:List α) (i:Nat),(∀j x,x∈l->F j x ()=if ok x=true then some (.next ())else some (.ret r))->dH F l i ()=if l.all ok=true then some (.inl ())else some (.inr r)
 |[],i,_=>by simp|x::l,i,h=>by
  rw[dC,h i x (by simp)];cases a:ok x with
  |false=>simp[a]|true=>
   simp only[if_true,cz,dL,uw,a,xe];exact oI ok r l (i+1) λj y hy=>h j y (by simp[hy])
def dQ:List Int->Int
 |[]=>0|e::l=>if e=0 then dQ l else e
def kE{F:Int->α->Unit->Option (eA Unit Int)}(e:α->Int):∀(l:List α) (i:Nat),(∀j x,x∈l->F j x ()=if e x≠0 then some (.ret (e x))else some (.next ()))->dH F l i ()=if dQ (l.map e)=0 then some (.inl ())else some (.inr (dQ (l.map e)))
 |[],i,_=>by simp[dQ]|x::l,i,h=>by
  rw[dC,h i x (by simp)]
  by_cases he:e x=0
  ·simp only[he,dQ,mi,ne_eq,X9,lG,cz,dL,if_true];exact kE e l (i+1) λj y hy=>h j y (by simp[hy])
  ·simp[he,dQ]
def sb(p:α->β->Bool):List α->List β->Bool
 |x::l,y::m=>p x y&&sb p l m|[],[]=>true|_,_=>false
def tT{F:Int->α->Unit->Option (eA Unit Bool)}(p:α->β->Bool)(M:List β):∀(l:List α) (i:Nat) (m:List β),m=M.drop i->l.length=m.length->(∀(k:Nat) x y,x∈l->M[k]?=some y->F (k:Int) x ()=if p x y=true then some (.next ())else some (.ret false))->dH F l i ()=if sb p l m=true then some (.inl ())else some (.inr false)
 |[],i,m,_,d,_=>by
  cases m with
  |nil=>simp[sb]|cons y m=>simp at d
 |x::l,i,m,hm,d,h=>by
  cases m with
  |nil=>simp at d
  |cons y m=>
   have c:i<M.length:=by
    rcases p4 i M.length with h'|h'
    ·exact h'
    ·rw[IT h'] at hm;cases hm
   rw[Kz c] at hm;injection hm with f g;rw[dC,h i x y (by simp) (by simp[c,f])];cases e:p x y with
   |false=>simp[sb,e]|true=>
    simp only[if_true,cz,dL,sb,e,xe];exact tT p M l (i+1) m g (by simpa using d) λk a b j n=>h k a b (by simp[j]) n
def tU(p:α->α->Bool):∀(l m:List α),(∀x∈l,∀y,p x y=true↔x=y)->(sb p l m=true↔l=m)
 |[],[],_=>by simp[sb]|[],_::_,_=>by simp[sb]|_::_,[],_=>by simp[sb]|x::l,y::m,h=>by simp[sb,h x (by simp) y,tU p l m λa b=>h a (by simp[b])]
def ug{F:σ->Option (eA σ ρ)}(I:σ->Prop)(μ:σ->Nat)(Q:σ⊕ρ->Prop)
  (h:∀s,I s->(∃a,F s=some (.next a)/\I a/\μ a<μ s)\/(∃a,F s=some (.zO a)/\Q (.inl a))\/(∃r,F s=some (.ret r)/\Q (.inr r))):∀(n:Nat) (s:σ),I s->μ s<n->∃o,lu F n s=some o/\Q o
 |0,s,_,hn=>by omega|n+1,s,hs,hn=>by
  rw[lE];rcases h s hs with⟨a,b,c,d⟩|⟨a,b,c⟩|⟨r,b,c⟩
  ·rw[b];simp only[cz,dL];exact ug I μ Q h n a c (by omega)
  ·rw[b];exact⟨_,rfl,c⟩
  ·rw[b];exact⟨_,rfl,c⟩
def Rs{n:Nat}(h:n<1000000000):n<FU:=by rw[dP];exact h
end
end Go.fg
namespace Go.fg
open Go
mutual
def Ty.abf:Ty->Nat
 |.mk _ l=>1+Ty.lP l
def Ty.lP:List Ty->Nat
 |[]=>0|t::l=>t.abf+Ty.lP l
end
def Ty.o0(l:List Ty):Ty.lP l=cX Ty.abf l:=by
 induction l with
 |nil=>rfl|cons t l a=>simp[Ty.lP,cX,a]
def Ty.cI(k:Int)(l:List Ty):(Ty.mk k l).abf=1+cX Ty.abf l:=by rw[Ty.abf,Ty.o0]
def Ty.dg(t:Ty):1<=t.abf:=by cases t;rw[Ty.abf];omega
def Ty.dT(l:List Ty):l.length<=cX Ty.abf l:=fO _ _ λt _=>t.dg
def Ty.want(k:Int):Option Nat:=if k=1\/k=2\/k=5 then some 0 else if k=3\/k=4 then some 2 else none
mutual
def Ty.ok:Ty->Bool
 |.mk k l=>decide (Ty.want k=some l.length)&&Ty.F7 l
def Ty.F7:List Ty->Bool
 |[]=>true|t::l=>t.ok&&Ty.F7 l
end
def Ty.wo(l:List Ty):Ty.F7 l=l.all Ty.ok:=by
 induction l with
 |nil=>rfl|cons t l a=>simp[Ty.F7,a]
def Ty.fa(k:Int)(l:List Ty):(Ty.mk k l).ok=(decide (Ty.want k=some l.length)&&l.all Ty.ok):=by rw[Ty.ok,Ty.wo]
def Ty.err(t:Ty):Int:=if t.ok=true then(if 64<t.abf then 4 else 0)else 2
def Fk:∀(n:Nat) (t:Ty),t.abf<=n->t.abf<=1000000000->f_ n t=some t:=by
 intro n
 induction n with
 |zero=>intro t h;have:=t.dg;omega
 |succ n a=>
  intro t h b;cases t with
  |mk k l=>
   rw[Ty.cI] at h b;have e:=Ty.dT l;rw[f_];simp only[Ty.cZ,Ty.df,cT,cW (l:=l) (by omega),cL];rw[gZ id l 0 [] (by simp;omega)]
   ·simp
   ·intro j x v c d;have:=da Ty.abf c;rw[a x (by omega) (by omega)];simp[dK (l:=v) (m:=[x]) (by simpa using d)]
def gI{t:Ty}(h:t.abf<=1000000000):f_ FU t=some t:=Fk FU t (by rw[dP];exact h) h
def zF:∀(n:Nat) (t:Ty),t.abf<=n->t.abf<=1000000000->jP n t=some (if t.ok=true then((t.abf:Int),true)else(0,false)):=by
 intro n
 induction n with
 |zero=>intro t h;have:=t.dg;omega
 |succ n p=>
  intro t h q;cases t with
  |mk k l=>
   rw[Ty.cI] at h q;have u:=Ty.dT l
   have key:dH (λ(i:Int) (c:Ty) (d:Int)=>cN (jP n c) λe f=>if f=true then some (eA.next (dB .i64 d e))else some (eA.ret ((0:Int),false))) l 0 1=if l.all Ty.ok=true then some (.inl ((1+cX Ty.abf l:Nat):Int))else some (.inr (0,false)):=by
    refine rT Ty.abf Ty.ok _ l 0 1 (by omega) ?_;intro j x v r;have:=da Ty.abf r;rw[p x (by omega) (by omega)];cases x.ok<;>simp
   rw[jP];simp only[Ty.cZ,Ty.df,cT,cW (l:=l) (by omega),cL,key,jN,ni,eH,cR,et,Ty.fa,Ty.cI,Ty.want]
   by_cases m:k=1\/k=2\/k=5
   ·simp only[m,if_true]
    by_cases b:l=[]
    ·subst b;simp[cX]
    ·have:¬(0=l.length):=by cases l with|nil=>exact absurd rfl b|cons a l=>simp
     have g:(l.length:Int)≠0:=by omega
     simp[this,g,b]
   ·simp only[m,lG]
    by_cases b:k=3\/k=4
    ·simp only[b,if_true]
     by_cases g:l.length=2
     ·cases o:l.all Ty.ok<;>simp[g]
     ·have o:(l.length:Int)≠2:=by omega
      have s:¬2=l.length:=by omega
      simp[o,s]
    ·simp[b]
def j0{t:Ty}(h:t.abf<=1000000000):gX t=some (if t.err=0 then(t.abf:Int)else 0,t.err):=by
 unfold gX Ty.err;rw[zF FU t (by rw[dP];exact h) h];cases t.ok with
 |false=>simp|true=>
  by_cases a:64<t.abf
  ·simp[a];omega
  ·simp[a];omega
def vL{t:Ty}(h:t.abf<=1000000000):kq t=some t.err:=by
 unfold kq;rw[j0 h];rfl
def Ty.nY(t:Ty):Bool:=ew (de t.abd 0) (de (dm t.abe) 0) false
def Ty.kv(t:Ty):t.nY=true↔t=.mk 0 []:=by
 cases t with
 |mk k l=>unfold Ty.nY;simp
def pX(t:Ty):l7 t=some t.nY:=rfl
def tA(t:Ty):np t=some t.nY:=rfl
def Df:∀(n:Nat) (t:Ty),t.abf<=n->t.abf<=1000000000->l6 n t=some t.ok:=by
 intro n
 induction n with
 |zero=>intro t h;have:=t.dg;omega
 |succ n m=>
  intro t h o;cases t with
  |mk k l=>
   rw[Ty.cI] at h o;have r:=Ty.dT l
   have key:dH (λ(f:Int) (c:Ty) (_:Unit)=>cA (l6 n c) λd=>if d=true then some (eA.next ())else some (eA.ret false)) l 0 ()=if l.all Ty.ok=true then some (.inl ())else some (.inr false):=by
    refine oI Ty.ok _ l 0 ?_;intro j x p;have:=da Ty.abf p;rw[m x (by omega) (by omega)];rfl
   rw[l6];simp only[Ty.cZ,Ty.df,cT,cW (l:=l) (by omega),cL,key,jN,ni,eH,cR,et,Ty.fa,Ty.want]
   by_cases g:k=1\/k=2\/k=5
   ·simp only[g,if_true]
    by_cases b:l=[]
    ·subst b;simp
    ·have:¬(0=l.length):=by cases l with|nil=>exact absurd rfl b|cons a l=>simp
     have e:(l.length:Int)≠0:=by omega
     simp[this,e,b]
   ·simp only[g,lG]
    by_cases b:k=3\/k=4
    ·simp only[b,if_true]
     by_cases e:l.length=2
     ·cases i:l.all Ty.ok<;>simp[e]
     ·have i:(l.length:Int)≠2:=by omega
      have q:¬2=l.length:=by omega
      simp[i,q]
    ·simp[b]
def En:∀(n:Nat) (t:Ty),t.abf<=n->t.abf<=1000000000->nw n t=some (t.abf:Int):=by
 intro n
 induction n with
 |zero=>intro t h;have:=t.dg;omega
 |succ n a=>
  intro t h b;cases t with
  |mk k l=>
   rw[Ty.cI] at h b;have d:=Ty.dT l;rw[nw];simp only[Ty.cZ,cT,cW (l:=l) (by omega),cL]
   have key:=nr (ρ:=Int) (F:=λ(j:Int) (x:Ty) (v:Int)=>cA (nw n x) λy=>some (eA.next (dB .i64 v y))) Ty.abf l 0 1 (by omega) (by
    intro j x v c;have:=da Ty.abf c;rw[a x (by omega) (by omega)]
    rfl)
   rw[show(1:Int)=((1:Nat):Int)from rfl,key];simp[Ty.cI]
def kF{t:Ty}(h:t.abf<=1000000000):gW t=some t.err:=by
 unfold gW Ty.err;rw[Df FU t (by rw[dP];exact h) h,En FU t (by rw[dP];exact h) h];cases t.ok with
 |false=>simp|true=>by_cases a:64<t.abf<;>simp[a]<;>omega
def tl:∀(n:Nat) (a b:Ty),a.abf<=n->a.abf<=1000000000->∃r,dR n a b=some r/\(r=true↔a=b):=by
 intro n
 induction n with
 |zero=>intro t b h;have:=t.dg;omega
 |succ n q=>
  intro a b h s;cases a with
  |mk k l=>
  cases b with
  |mk k' m=>
   rw[Ty.cI] at h s;have u:=Ty.dT l;rw[dR];simp only[Ty.cZ,Ty.df,cT,cW (l:=l) (by omega),cL,jN,ni,cR,et]
   by_cases d:k≠k'\/(l.length:Int)≠m.length
   ·rw[cG d];refine⟨false,rfl,?_⟩;simp only[qJ,UI,Ty.mk.injEq,not_and];rintro rfl rfl;simp at d
   ·rw[cB d];simp only[not_or,wy] at d;obtain⟨rfl,hlen⟩:=d
    have c:l.length=m.length:=by omega
    let p:Ty->Ty->Bool:=λx y=>(dR n x y).getD false
    have i:∀x∈l,∀y,dR n x y=some (p x y)/\(p x y=true↔x=y):=by
     intro x f y;have:=da Ty.abf f;obtain⟨r,o,g⟩:=q x y (by omega) (by omega)
     have e:p x y=r:=by show(dR n x y).getD false=r;rw[o];rfl
     rw[e];exact⟨o,g⟩
    have key:=tT (F:=λ(j:Int) (x:Ty) (_:Unit)=>cA (c_ m j) λy=>cA (dR n x y) λz=>if z=true then some (eA.next ())else some (eA.ret false)) p m l 0 m rfl c (by
     intro k x y f hy;rw[hB,hy];simp only[cz];rw[(i x f y).1]
     rfl)
    rw[key];have he:=tU p l m λx f y=>(i x f y).2;cases g:sb p l m with
    |false=>exact⟨false,rfl,by rw[g] at he;simpa using he⟩
    |true=>exact⟨true,rfl,by rw[g] at he;simpa using he⟩
noncomputable def Ty.jA (a b:Ty):Bool:=@decide (a=b) (Classical.propDecidable _)
def Ty.jj(a b:Ty):a.jA b=true↔a=b:=by unfold Ty.jA;simp
def gl{a b:Ty}(h:a.abf<=1000000000):dR FU a b=some (a.jA b):=by
 obtain⟨r,c,d⟩:=tl FU a b (by rw[dP];exact h) h;rw[c]
 congr 1
 rw[yU,d,Ty.jj]
mutual
def Tm.abf:Tm->Nat
 |.mk _ _ _ l=>1+Tm.lP l
def Tm.lP:List Tm->Nat
 |[]=>0|t::l=>t.abf+Tm.lP l
end
def Tm.o0(l:List Tm):Tm.lP l=cX Tm.abf l:=by
 induction l with
 |nil=>rfl|cons t l a=>simp[Tm.lP,cX,a]
def Tm.cI(k i:Int)(s:Ty)(l:List Tm):(Tm.mk k i s l).abf=1+cX Tm.abf l:=by rw[Tm.abf,Tm.o0]
def Tm.dg(t:Tm):1<=t.abf:=by cases t;rw[Tm.abf];omega
def Tm.dT(l:List Tm):l.length<=cX Tm.abf l:=fO _ _ λt _=>t.dg
mutual
def Tm.wt:Tm->Nat
 |.mk _ _ s l=>1+s.abf+Tm.JJ l
def Tm.JJ:List Tm->Nat
 |[]=>0|t::l=>t.wt+Tm.JJ l
end
def Tm.Ap(l:List Tm):Tm.JJ l=cX Tm.wt l:=by
 induction l with
 |nil=>rfl|cons t l a=>simp[Tm.JJ,cX,a]
def Tm.gh(k i:Int)(s:Ty)(l:List Tm):(Tm.mk k i s l).wt=1+s.abf+cX Tm.wt l:=by rw[Tm.wt,Tm.Ap]
def Tm.gU(t:Tm):1<=t.wt:=by cases t;rw[Tm.wt];omega
def Tm.lQ(l:List Tm):l.length<=cX Tm.wt l:=fO _ _ λt _=>t.gU
def jc{α:Type}{f g:α->Nat}{l:List α}(h:∀x∈l,f x<=g x):cX f l<=cX g l:=by
 induction l with
 |nil=>simp[cX]|cons x l a=>simp only[cX];have:=h x (by simp);have:=a λy hy=>h y (by simp[hy]);omega
def pZ{α β:Type}(f:β->Nat)(g:α->β)(l:List α):cX f (l.map g)=cX (λx=>f (g x)) l:=by
 induction l with
 |nil=>rfl|cons x l a=>simp[cX,a]
def rI{α:Type}{f g:α->Nat}{l:List α}(h:∀x∈l,f x=g x):cX f l=cX g l:=by
 induction l with
 |nil=>rfl|cons x l a=>simp[cX,h x (by simp),a λy hy=>h y (by simp[hy])]
def Bf{α:Type}(f:α->Nat)(l m:List α):cX f (l++m)=cX f l+cX f m:=by
 induction l with
 |nil=>simp[cX]|cons x l a=>simp[cX,a];omega
def Tm.ind{p:Tm->Prop}(h:∀k i s l,(∀t∈l,p t)->p (.mk k i s l))(t:Tm):p t:=by
 have:∀n (t:Tm),t.abf<=n->p t:=by
  intro n
  induction n with
  |zero=>intro t a;have:=t.dg;omega
  |succ n b=>
   intro t a;cases t with
   |mk k i s l=>
    rw[Tm.cI] at a;exact h k i s l λu hu=>b u (by have:=da Tm.abf hu;omega)
 exact this _ t (hO _)
def Tm.gj(t:Tm):t.abf<=t.wt:=by
 induction t using Tm.ind with
 |h k i s l a=>rw[Tm.cI,Tm.gh];have:=jc a;omega
def iz(k:Int):Bool:=decide (k=2\/k=6\/k=9)
def fq(k:Int):Int:=
 if k=1\/k=4\/k=7\/k=13 then 0 else if k=2\/k=5\/k=11\/k=12 then 1 else if k=3\/k=8\/k=10 then 2 else if k=6\/k=9 then 3 else-1
def Tm.node(k i:Int)(s:Ty)(n:Nat):Bool:=
 decide ((n:Int)=fq k)&&decide (0<=i)&&(decide (k=1)||decide (i=0))&&(if iz k=true then decide (s.err=0)else s.nY)
mutual
def Tm.ok:Tm->Bool
 |.mk k i s l=>Tm.node k i s l.length&&Tm.F7 l
def Tm.F7:List Tm->Bool
 |[]=>true|t::l=>t.ok&&Tm.F7 l
end
def Tm.wo(l:List Tm):Tm.F7 l=l.all Tm.ok:=by
 induction l with
 |nil=>rfl|cons t l a=>simp[Tm.F7,a]
def Tm.fa(k i:Int)(s:Ty)(l:List Tm):(Tm.mk k i s l).ok=(Tm.node k i s l.length&&l.all Tm.ok):=by rw[Tm.ok,Tm.wo]
def Tm.err(t:Tm):Int:=if t.ok=true then(if 4096<t.abf then 4 else 0)else 2
def EZ:∀(n:Nat) (t:Tm),t.wt<=n->t.wt<=1000000000->gY n t=some t:=by
 intro n
 induction n with
 |zero=>intro t h;have:=t.gU;omega
 |succ n a=>
  intro t h b;cases t with
  |mk k i s l=>
   rw[Tm.gh] at h b;have e:=Tm.lQ l;rw[gY];simp only[Tm.cZ,Tm.df,Tm.eE,Tm.dI,cT,cW (l:=l) (by omega),cL];rw[gZ id l 0 [] (by simp;omega)]
   ·simp[gI (t:=s) (by omega)]
   ·intro j x v c d;have:=da Tm.wt c;rw[a x (by omega) (by omega)];simp[dK (l:=v) (m:=[x]) (by simpa using d)]
def k_{t:Tm}(h:t.wt<=1000000000):gY FU t=some t:=EZ FU t (by rw[dP];exact h) h
def nB(k:Int)(l:List Tm)(h:cX Tm.wt l<=1000000000):eF k l=some (Tm.mk k 0 (.mk 0 []) l):=by
 have c:=Tm.lQ l;unfold eF;simp only[cT,cW (l:=l) (by omega),cL];rw[gZ id l 0 [] (by simp;omega)]
 ·simp
 ·intro j x v a b;have:=da Tm.wt a;rw[k_ (t:=x) (by omega)];simp[dK (l:=v) (m:=[x]) (by simpa using b)]
def CB(k:Int)(s:Ty)(l:List Tm)(hs:s.abf<=1000000000)(h:cX Tm.wt l<=1000000000):j1 k s l=some (Tm.mk k 0 s l):=by
 unfold j1;rw[nB k l h];simp[gI hs]
def E0(k:Int):si k=some (fq k):=by
 unfold si fq;simp only[jN,ni,eH]
 split<;>(try rfl)
 split<;>(try rfl)
 split<;>(try rfl)
 split<;>rfl
def lR:∀(n:Nat) (t:Tm),t.abf<=n->t.abf<=1000000000->ep n t=some (t.abf:Int):=by
 intro n
 induction n with
 |zero=>intro t h;have:=t.dg;omega
 |succ n a=>
  intro t h b;cases t with
  |mk k i s l=>
   rw[Tm.cI] at h b;have d:=Tm.dT l;rw[ep];simp only[Tm.cZ,cT,cW (l:=l) (by omega),cL]
   have key:=nr (ρ:=Int) (F:=λ(j:Int) (x:Tm) (v:Int)=>cA (ep n x) λy=>some (eA.next (dB .i64 v y))) Tm.abf l 0 1 (by omega) (by
    intro j x v c;have:=da Tm.abf c;rw[a x (by omega) (by omega)]
    rfl)
   rw[show(1:Int)=((1:Nat):Int)from rfl,key];simp[Tm.cI]
def vT:∀(n:Nat) (t:Tm),t.wt<=n->t.wt<=1000000000->iK n t=some t.ok:=by
 intro n
 induction n with
 |zero=>intro t h;have:=t.gU;omega
 |succ n p=>
  intro t h q;cases t with
  |mk k i s l=>
   rw[Tm.gh] at h q;have z:=Tm.lQ l
   have key:dH (λ(f:Int) (a:Tm) (_:Unit)=>cA (iK n a) λb=>if b=true then some (eA.next ())else some (eA.ret false)) l 0 ()=if l.all Tm.ok=true then some (.inl ())else some (.inr false):=by
    refine oI Tm.ok _ l 0 ?_;intro j x r;have:=da Tm.wt r;rw[p x (by omega) (by omega)];rfl
   rw[iK]
   simp only[Tm.cZ,Tm.df,Tm.eE,Tm.dI,cT,cW (l:=l) (by omega),cL,key,jN,ni,eH,cR,lL,et,Tm.fa,E0,cz,kF (t:=s) (by omega),tA]
   by_cases d:(l.length:Int)=fq k
   ·by_cases g:i<0
    ·have:¬0<=i:=by omega
     simp[d,g,Tm.node,this]
    ·have u:0<=i:=by omega
     by_cases m:k=1
     ·subst m;cases c:s.nY<;>cases e:l.all Tm.ok<;>simp_all [Tm.node,iz]
     ·by_cases c:i=0
      ·subst c;have o:dr 0 0=false:=rfl
       by_cases e:k=2\/k=6\/k=9
       ·have v:iz k=true:=by simp[iz,e]
        by_cases w:s.err=0<;>cases y:l.all Tm.ok<;>simp_all [Tm.node]
       ·have v:iz k=false:=by simp[iz,e]
        cases w:s.nY<;>cases y:l.all Tm.ok<;>simp_all [Tm.node]
      ·have o:dr i 0=true:=by simp[c]
       simp[d,g,m,c,o,Tm.node]
   ·simp[d,Tm.node]
def kz{t:Tm}(h:t.wt<=1000000000):jT t=some t.err:=by
 have:=t.gj;unfold jT Tm.err;rw[vT FU t (by rw[dP];exact h) h,lR FU t (by rw[dP];omega) (by omega)];cases t.ok with
 |false=>simp|true=>by_cases a:4096<t.abf<;>simp[a]<;>omega
def ES(k:Int):rZ k=some (if 1<=k/\k<14 then(fq k,true)else(0,false)):=by
 unfold rZ;simp only[jN,ni,lL,gP]
 by_cases h:k<1\/14<=k
 ·rw[cG h,cB (by omega)]
 ·rw[cB h,cG (by omega)]
  have:k=1\/k=2\/k=3\/k=4\/k=5\/k=6\/k=7\/k=8\/k=9\/k=10\/k=11\/k=12\/k=13:=by omega
  rcases this with rfl|rfl|rfl|rfl|rfl|rfl|rfl|rfl|rfl|rfl|rfl|rfl|rfl<;>rfl
def Es(k:Int):sl k=some (iz k):=by
 unfold sl iz
 congr 1
 rw[yU];simp
def Gx{k:Int}{n:Nat}(h:(n:Int)=fq k):1<=k/\k<14:=by
 unfold fq at h
 repeat' split at h
 all_goals omega
def sF:∀(n:Nat) (t:Tm),t.wt<=n->t.wt<=1000000000->ie n t=some (if t.ok=true then((t.abf:Int),true)else(0,false)):=by
 intro n
 induction n with
 |zero=>intro t h;have:=t.gU;omega
 |succ n r=>
  intro t h u;cases t with
  |mk k i s l=>
   rw[Tm.gh] at h u;have D:=Tm.lQ l;have hn:cX Tm.abf l<=cX Tm.wt l:=jc λx _=>x.gj
   have key:dH (λ(o:Int) (a:Tm) (b:Int)=>cN (ie n a) λc d=>if d=true then some (eA.next (dB .i64 b c))else some (eA.ret ((0:Int),false))) l 0 1=if l.all Tm.ok=true then some (.inl ((1+cX Tm.abf l:Nat):Int))else some (.inr (0,false)):=by
    refine rT Tm.abf Tm.ok _ l 0 1 (by omega) ?_;intro j x v w;have:=da Tm.wt w;rw[r x (by omega) (by omega)];cases x.ok<;>simp
   rw[ie];simp only[Tm.cZ,Tm.df,Tm.eE,Tm.dI,cT,cW (l:=l) (by omega),cL,key,Tm.fa,Tm.cI,ES,Es,j0 (t:=s) (by omega),pX,cz,cF]
   by_cases e:(l.length:Int)=fq k
   ·have f:=Gx e;simp only[f,and_self,if_true,cF,tP,jN,qx,ni,eJ,cR,lL,et,e,ne_eq,X9,false_or]
    by_cases p:i<0
    ·have:¬0<=i:=by omega
     simp[p,Tm.node,this]
    ·have y:0<=i:=by omega
     by_cases q:k=1
     ·subst q;cases g:s.nY<;>cases m:l.all Tm.ok<;>simp_all [Tm.node,iz]
     ·by_cases g:i=0
      ·subst g
       by_cases m:k=2\/k=6\/k=9
       ·have z:iz k=true:=by simp[iz,m]
        by_cases A:s.err=0<;>cases B:l.all Tm.ok<;>simp_all [Tm.node]
       ·have z:iz k=false:=by simp[iz,m]
        cases A:s.nY<;>cases B:l.all Tm.ok<;>simp_all [Tm.node]
      ·simp[p,q,g,Tm.node]
   ·have C:Tm.node k i s l.length=false:=by simp[Tm.node,e]
    simp only[C,Qd,qJ,lG]
    by_cases f:1<=k/\k<14
    ·simp[f,e]
    ·simp[f]
def d_(k:Int):Int:=if k=2 then 1 else 0
def fV(k:Int):0<=d_ k/\d_ k<=1:=by unfold d_;split<;>omega
def lV(t:Tm):jS t=some (d_ t.abd):=by
 unfold jS d_;simp only[eH]
 split<;>rfl
mutual
def Tm.up(f b:Int):Tm->Tm
 |.mk k i s l=>.mk k (if k=1/\f<=i then i+b else i) s (Tm.Qp (f+d_ k) b l)
def Tm.Qp(f b:Int):List Tm->List Tm
 |[]=>[]|t::l=>t.up f b::Tm.Qp f b l
end
def Tm.KJ(f b:Int)(l:List Tm):Tm.Qp f b l=l.map (Tm.up f b):=by
 induction l with
 |nil=>rfl|cons t l a=>simp[Tm.Qp,a]
def Tm.fX(f b k i:Int)(s:Ty)(l:List Tm):(Tm.mk k i s l).up f b=.mk k (if k=1/\f<=i then i+b else i) s (l.map (Tm.up (f+d_ k) b)):=by rw[Tm.up,Tm.KJ]
mutual
def Tm.abj(m:Int):Tm->Bool
 |.mk _ i _ l=>decide (i<=m)&&Tm.uJ m l
def Tm.uJ(m:Int):List Tm->Bool
 |[]=>true|t::l=>t.abj m&&Tm.uJ m l
end
def Tm.Ak(m:Int)(l:List Tm):Tm.uJ m l=l.all (Tm.abj m):=by
 induction l with
 |nil=>rfl|cons t l a=>simp[Tm.uJ,a]
def Tm.ec(m k i:Int)(s:Ty)(l:List Tm):(Tm.mk k i s l).abj m=(decide (i<=m)&&l.all (Tm.abj m)):=by rw[Tm.abj,Tm.Ak]
mutual
def Tm.abl(a:Int):Tm->Nat
 |.mk k i _ l=>(if k=1/\i=a then 1 else 0)+Tm.u5 (a+d_ k) l
def Tm.u5(a:Int):List Tm->Nat
 |[]=>0|t::l=>t.abl a+Tm.u5 a l
end
def Tm.AG(a:Int)(l:List Tm):Tm.u5 a l=cX (Tm.abl a) l:=by
 induction l with
 |nil=>rfl|cons t l b=>simp[Tm.u5,cX,b]
def Tm.eQ(a k i:Int)(s:Ty)(l:List Tm):(Tm.mk k i s l).abl a=(if k=1/\i=a then 1 else 0)+cX (Tm.abl (a+d_ k)) l:=by rw[Tm.abl,Tm.AG]
def Tm.gH(t:Tm):∀a,t.abl a<=t.abf:=by
 induction t using Tm.ind with
 |h k i s l b=>
  intro a;rw[Tm.eQ,Tm.cI];have:=jc (f:=Tm.abl (a+d_ k)) (g:=Tm.abf) (l:=l) λx c=>b x c _
  split<;>omega
def Tm.jI(n i:Int)(s:Tm)(t:Tm):Tm:=if i=n then s.up 0 n else if n<i then .mk 1 (i-1) (.mk 0 []) [] else t
mutual
def Tm.ia:Int->Tm->Tm->Tm
 |n,.mk k i ty l,s=>if k=1 then Tm.jI n i s (.mk k i ty l)else .mk k i ty (Tm.Gy (n+d_ k) l s)
def Tm.Gy:Int->List Tm->Tm->List Tm
 |_,[],_=>[]|n,t::l,s=>Tm.ia n t s::Tm.Gy n l s
end
def Tm.Hf(n:Int)(s:Tm)(l:List Tm):Tm.Gy n l s=l.map (λx=>Tm.ia n x s):=by
 induction l with
 |nil=>rfl|cons t l a=>simp[Tm.Gy,a]
def Tm.eZ(n:Int)(s:Tm)(k i:Int)(ty:Ty)(l:List Tm):Tm.ia n (Tm.mk k i ty l) s=if k=1 then Tm.jI n i s (.mk k i ty l)else .mk k i ty (l.map (λx=>Tm.ia (n+d_ k) x s)):=by rw[Tm.ia,Tm.Hf]
def Tm.mA(t:Tm):∀f b,(t.up f b).abf=t.abf:=by
 induction t using Tm.ind with
 |h k i s l a=>
  intro f b;rw[Tm.fX,Tm.cI,Tm.cI,pZ];rw[rI λx c=>a x c _ _]
def Tm.RH(t:Tm):∀f b,(t.up f b).wt=t.wt:=by
 induction t using Tm.ind with
 |h k i s l a=>
  intro f b;rw[Tm.fX,Tm.gh,Tm.gh,pZ];rw[rI λx c=>a x c _ _]
def tJ{α β:Type}{p:β->Bool}{q:α->Bool}{g:α->β}{l:List α}(h:∀x∈l,p (g x)=q x):(l.map g).all p=l.all q:=by
 induction l with
 |nil=>rfl|cons x l a=>simp only[mi,uw,h x (by simp),a λy hy=>h y (by simp[hy])]
def Tm.Kv{k i j:Int}{s:Ty}{n:Nat}(h:k=1/\0<=i/\0<=j\/i=j):Tm.node k i s n=Tm.node k j s n:=by
 rcases h with⟨rfl,a,b⟩|rfl
 ·simp[Tm.node,a,b]
 ·rfl
def Tm.BI(t:Tm):∀f b,0<=f->0<=b->(t.up f b).ok=t.ok:=by
 induction t using Tm.ind with
 |h k i s l a=>
  intro f b e c;rw[Tm.fX,Tm.fa,Tm.fa,BK,tJ λx d=>a x d (f+d_ k) b (by have:=fV k;omega) c]
  congr 1
  apply Tm.Kv
  split
  ·rename_i g;left;omega
  ·right;rfl
def rX:∀(n:Nat) (t:Tm) (m:Int),t.abf<=n->t.abf<=1000000000->hW n t m=some (t.abj m):=by
 intro n
 induction n with
 |zero=>intro t m h;have:=t.dg;omega
 |succ n e=>
  intro t m h f;cases t with
  |mk k i s l=>
   rw[Tm.cI] at h f;have o:=Tm.dT l
   have key:dH (λ(c:Int) (a:Tm) (_:Unit)=>cA (hW n a m) λb=>if b=true then some (eA.next ())else some (eA.ret false)) l 0 ()=if l.all (Tm.abj m)=true then some (.inl ())else some (.inr false):=by
    refine oI (Tm.abj m) _ l 0 ?_;intro j x g;have:=da Tm.abf g;rw[e x m (by omega) (by omega)];rfl
   rw[hW];simp only[Tm.cZ,Tm.eE,cT,cW (l:=l) (by omega),cL,key,eO,Tm.ec]
   by_cases d:m<i
   ·have:¬i<=m:=by omega
    simp[d,this]
   ·have:i<=m:=by omega
    cases p:l.all (Tm.abj m)<;>simp[d,this]
def wD:∀(n:Nat) (t:Tm) (f b:Int),t.abf<=n->t.abf<=1000000000->0<=f->f+t.abf<=10000000000->0<=b->b<=10000000000->t.abj 1000000000000=true->mJ n t f b=some (t.up f b):=by
 intro n
 induction n with
 |zero=>intro t f b h;have:=t.dg;omega
 |succ n q=>
  intro t f b h a z c r d hi;cases t with
  |mk k i s l=>
   rw[Tm.cI] at h a c;rw[Tm.ec] at hi;simp only[eJ,kR,jr] at hi;have A:=Tm.dT l;have B:=fV k;rw[mJ];simp only[Tm.cZ,Tm.eE,Tm.df,Tm.dI,cT,cW (l:=l) (by omega),cL];rw[gZ (Tm.up (f+d_ k) b) l 0 [] (by simp;omega)]
   ·rw[Tm.fX];simp only[cz,cQ,mI,u6,Tm.mk.injEq,nC,Xh]
    by_cases g:k=1/\f<=i
    ·obtain⟨rfl,o⟩:=g;rw[dJ (by omega) (by omega)];have u:de 1 1=true:=rfl
     have w:qT i f=true:=by simp[o]
     simp[u,w,o]
    ·rw[cB g]
     have e:ew (de k 1) (qT i f) false=false:=by
      rw[qx,Hu];simp only[ne_eq,eJ,eH,gP];exact g
     rw[e];rfl
   ·intro j x v p y;have:=da Tm.abf p;rw[lV];simp only[cz,Tm.df];rw[dJ (by omega) (by omega),q x (f+d_ k) b (by omega) (by omega) (by omega) (by omega) r d (hi.2 x p)];simp[dK (l:=v) (m:=[x.up (f+d_ k) b]) (by simpa using y)]
def vq:∀(n:Nat) (t:Tm) (a:Int),t.abf<=n->t.abf<=1000000000->0<=a->a+t.abf<=10000000000->kj n t a=some (t.abl a:Int):=by
 intro n
 induction n with
 |zero=>intro t a h;have:=t.dg;omega
 |succ n g=>
  intro t a h c q d;cases t with
  |mk k i s l=>
   rw[Tm.cI] at h c d;have r:=Tm.dT l;have u:=fV k;have m:cX (Tm.abl (a+d_ k)) l<=cX Tm.abf l:=jc λx _=>x.gH _;rw[kj];simp only[Tm.cZ,Tm.eE,Tm.df,cT,cW (l:=l) (by omega),cL]
   have o:ew (ew (de k 1) (de i a) false) (dB .i64 0 1) 0=(((if k=1/\i=a then 1 else 0:Nat)):Int):=by
    by_cases f:k=1/\i=a
    ·obtain⟨rfl,rfl⟩:=f;simp[de,ew,dB,Cq]
    ·have e:ew (de k 1) (de i a) false=false:=by
      rw[qx,Hu];simp only[ne_eq,eJ,eH];exact f
     rw[e,cB f];rfl
   have key:=nr (ρ:=Int) (F:=λ(j:Int) (x:Tm) (v:Int)=>cA (jS (Tm.mk k i s l)) λb=>cA (kj n x (dB .i64 a b)) λy=>some (eA.next (dB .i64 v y)))
    (Tm.abl (a+d_ k)) l 0 (if k=1/\i=a then 1 else 0) (by split<;>omega) (by
    intro j x v p;have:=da Tm.abf p;rw[lV];simp only[cz,Tm.df];rw[dJ (by omega) (by omega),g x _ (by omega) (by omega) (by omega) (by omega)]
    rfl)
   rw[o,key];simp[Tm.eQ]
def Bt:∀(n:Nat) (t:Tm) (a b:Int) (s:Tm),t.abf<=n->t.abf<=1000000000->0<=a->0<=b->a+b+t.abf<=5000000000->t.abj 1000000000000=true->t.ok=true->s.abf<=1000000000->s.abj 1000000000000=true->qH n t a b s=some (Tm.ia (a+b) t s):=by
 intro n
 induction n with
 |zero=>intro t a b s h;have:=t.dg;omega
 |succ n r=>
  intro t a b s h o u z p hi c hs d;cases t with
  |mk k i ty l=>
   rw[Tm.cI] at h o p;rw[Tm.ec] at hi;rw[Tm.fa] at c;simp only[eJ,kR,jr] at hi c;have A:=Tm.dT l;have B:=fV k
   have w:0<=i:=by
    have:=c.1;simp only[Tm.node,eJ,kR] at this;exact this.1.1.2
   rw[qH,Tm.eZ];simp only[Tm.cZ,Tm.eE,Tm.df,Tm.dI,cT,cW (l:=l) (by omega),cL,eH];rw[dJ (by omega) (by omega)]
   by_cases e:k=1
   ·rw[cG e,cG e];unfold Tm.jI
    by_cases f:i=a+b
    ·rw[cG f,cG f,wD FU s 0 (a+b) (by rw[dP];exact hs) hs (by omega) (by omega) (by omega) (by omega) d];rfl
    ·rw[cB f,cB f];simp only[eO]
     by_cases g:a+b<i
     ·rw[cG g,cG g,dW (by omega) (by omega)];rfl
     ·rw[cB g,cB g]
   ·rw[cB e,cB e];rw[gZ (λx=>Tm.ia (a+b+d_ k) x s) l 0 [] (by simp;omega)]
    ·simp
    ·intro j x v q y;have:=da Tm.abf q;rw[lV];simp only[cz,Tm.df];rw[dJ (by omega) (by omega),r x a (b+d_ k) s (by omega) (by omega) u (by omega) (by omega) (hi.2 x q) (c.2 x q) hs d];rw[show a+(b+d_ k)=a+b+d_ k by omega];simp[dK (l:=v) (m:=[Tm.ia (a+b+d_ k) x s]) (by simpa using y)]
def Tm.oW(s:Tm)(t:Tm):∀n,t.ok=true->(Tm.ia n t s).abf+t.abl n=t.abf+t.abl n*s.abf:=by
 induction t using Tm.ind with
 |h k i ty l g=>
  intro n a;rw[Tm.fa] at a;simp only[eJ,jr] at a;rw[Tm.eZ,Tm.eQ,Tm.cI]
  by_cases d:k=1
  ·subst d
   have j:l=[]:=by
    have:=a.1;simp only[Tm.node,eJ,kR] at this;have h:=this.1.1.1;simp[fq] at h;exact h
   subst j;simp only[if_true,Tm.jI,cX,BO,Xh]
   by_cases e:i=n
   ·simp[e,Tm.mA];omega
   ·by_cases m:n<i<;>simp[e,m,Tm.cI,cX]
  ·simp only[d,lG,RR,sy];rw[Tm.cI,pZ]
   have:cX (λx=>(Tm.ia (n+d_ k) x s).abf) l+cX (Tm.abl (n+d_ k)) l=cX Tm.abf l+cX (Tm.abl (n+d_ k)) l*s.abf:=by
    have b:∀x∈l,(Tm.ia (n+d_ k) x s).abf+x.abl (n+d_ k)=x.abf+x.abl (n+d_ k)*s.abf:=λx c=>g x c _ (a.2 x c);clear g a
    induction l with
    |nil=>simp[cX]|cons y l f=>
     have d:=b y (by simp);have e:=f λx c=>b x (by simp[c]);simp only[cX,w9];omega
   omega
def Tm.DG(s:Tm)(hs:s.ok=true)(t:Tm):∀n,0<=n->t.ok=true->(Tm.ia n t s).ok=true:=by
 induction t using Tm.ind with
 |h k i ty l g=>
  intro n hn a;have b:=a;rw[Tm.fa] at a;simp only[eJ,jr] at a;rw[Tm.eZ]
  by_cases d:k=1
  ·subst d;simp only[if_true,Tm.jI]
   by_cases c:i=n
   ·simp only[c,if_true];rw[Tm.BI s 0 n (by omega) hn];exact hs
   ·by_cases e:n<i
    ·simp only[c,e,lG,if_true];rw[Tm.fa]
     have j:1<=i:=by omega
     simp[Tm.node,fq,iz,j,Ty.nY,de]
    ·simp only[c,e,lG];exact b
  ·simp only[d,lG];rw[Tm.fa,BK];simp only[eJ,jr,mO];refine⟨a.1,?_⟩;rintro _ ⟨x,f,rfl⟩;exact g x f _ (by have:=fV k;omega) (a.2 x f)
mutual
def Tm.fr:Tm->Int
 |.mk k i _ l=>if k=1 then i+1 else if k=2 then imax 0 (Tm.E7 0 l-1)else Tm.E7 0 l
def Tm.E7(m:Int):List Tm->Int
 |[]=>m|t::l=>Tm.E7 (imax m t.fr) l
end
def qD(a b:Int):imax a b=max a b:=by unfold imax;omega
def Tm.Kd(l:List Tm):∀m,m<=Tm.E7 m l:=by
 induction l with
 |nil=>intro m;exact Ki _|cons t l a=>intro m;rw[Tm.E7];have:=a (imax m t.fr);rw[qD] at*;omega
def Tm.P0{l:List Tm}{t:Tm}(h:t∈l):∀m,t.fr<=Tm.E7 m l:=by
 induction l with
 |nil=>cases h
 |cons u l a=>
  intro m;rw[Tm.E7];rcases jz.1 h with rfl|h
  ·have:=Tm.Kd l (imax m t.fr);rw[qD] at*;omega
  ·exact a h _
def Tm.Oe{M:Int}{l:List Tm}(h:∀t∈l,t.fr<=M):∀m,m<=M->Tm.E7 m l<=M:=by
 induction l with
 |nil=>intro m hm;exact hm|cons u l a=>
  intro m hm;rw[Tm.E7];refine a (λt b=>h t (by simp[b])) _ ?_;have:=h u (by simp);rw[qD];omega
def Tm.OW(t:Tm):∀{M:Int},0<=M->t.ok=true->t.abj M=true->0<=t.fr/\t.fr<=M+1:=by
 induction t using Tm.ind with
 |h k i s l d=>
  intro M e a b;rw[Tm.fa] at a;rw[Tm.ec] at b;simp only[eJ,jr,kR,Tm.node] at a b;have f:Tm.E7 0 l<=M+1:=Tm.Oe (λt c=>(d t c e (a.2 t c) (b.2 t c)).2) 0 (by omega);have g:=Tm.Kd l 0;rw[Tm.fr]
  split
  ·omega
  ·split
   ·rw[qD];omega
   ·omega
def map_id'{α:Type}{g:α->α}{l:List α}(h:∀x∈l,g x=x):l.map g=l:=by
 induction l with
 |nil=>rfl|cons x l a=>simp only[mi,h x (by simp),a λy hy=>h y (by simp[hy])]
def Tm.jQ{k i:Int}{s:Ty}{l:List Tm}(h:(Tm.mk k i s l).ok=true):(k=1->l=[])/\0<=i/\(k≠1->i=0)/\(∀t∈l,t.ok=true)/\(l.length:Int)=fq k:=by
 rw[Tm.fa] at h;simp only[eJ,jr,kR,Tm.node,ni] at h;obtain⟨⟨⟨⟨a,b⟩,c⟩,f⟩,d⟩:=h;refine⟨?_,b,λe=>c.resolve_left e,d,a⟩;rintro rfl;have:(l.length:Int)=0:=a;exact xZ (by omega)
def Tm.Gf{k i:Int}{s:Ty}{l:List Tm}(a:k≠1){f:Int}(h:(Tm.mk k i s l).fr<=f)(c:0<=f):∀x∈l,x.fr<=f+d_ k:=by
 intro x b;have:=Tm.P0 b 0;rw[Tm.fr,cB a] at h;unfold d_
 split at h
 ·rename_i a;rw[cG a];rw[qD] at h;omega
 ·rename_i a;rw[cB a];omega
def Tm.QE(t:Tm):∀f b,t.ok=true->0<=f->t.fr<=f->t.up f b=t:=by
 induction t using Tm.ind with
 |h k i s l d=>
  intro f b e g h;obtain⟨o1,o2,m,j,_⟩:=Tm.jQ e;rw[Tm.fX]
  by_cases a:k=1
  ·have:=o1 a;subst this;rw[Tm.fr,cG a] at h;rw[cB (by omega)];rfl
  ·rw[cB (λh=>a h.1)]
   congr 1
   exact map_id' λx c=>d x c _ _ (j x c) (by have:=fV k;omega) (Tm.Gf a h g x c)
def Tm.oE(t:Tm):∀f,t.up f 0=t:=by
 induction t using Tm.ind with
 |h k i s l a=>
  intro f;rw[Tm.fX,map_id' λx b=>a x b _]
  congr 1
  split<;>omega
def Tm.OF(s:Tm)(t:Tm):∀n,t.ok=true->0<=n->t.fr<=n->Tm.ia n t s=t:=by
 induction t using Tm.ind with
 |h k i ty l c=>
  intro n d hn h;obtain⟨o1,o2,f,e,_⟩:=Tm.jQ d;rw[Tm.eZ]
  by_cases a:k=1
  ·rw[cG a];rw[Tm.fr,cG a] at h;unfold Tm.jI;rw[cB (by omega),cB (by omega)]
  ·rw[cB a]
   congr 1
   exact map_id' λx b=>c x b _ (e x b) (by have:=fV k;omega) (Tm.Gf a h hn x b)
def Mp{α:Type}{g:α->Nat}{l:List α}(h:∀x∈l,g x=0):cX g l=0:=by
 induction l with
 |nil=>rfl|cons x l a=>simp[cX,h x (by simp),a λy hy=>h y (by simp[hy])]
def Tm.JI(t:Tm):∀n,t.ok=true->0<=n->t.fr<=n->t.abl n=0:=by
 induction t using Tm.ind with
 |h k i ty l c=>
  intro n d hn h;obtain⟨o1,o2,f,e,_⟩:=Tm.jQ d;rw[Tm.eQ]
  by_cases a:k=1
  ·have:=o1 a;subst this;rw[Tm.fr,cG a] at h;rw[cB (by omega)];rfl
  ·rw[cB (λh=>a h.1)];simp only[sy];exact Mp λx b=>c x b _ (e x b) (by have:=fV k;omega) (Tm.Gf a h hn x b)
def Tm.kd:Option Tm->Int
 |some t=>t.abd|none=>0
def Tm.root:Tm->Bool
 |.mk k _ _ l=>(decide (k=3)&&decide (Tm.kd l[0]?=2))||(decide (k=6)&&(decide (Tm.kd l[2]?=4)||decide (Tm.kd l[2]?=5)))||(decide (k=9)&&(decide (Tm.kd l[2]?=7)||decide (Tm.kd l[2]?=8)))||
  ((decide (k=11)||decide (k=12))&&decide (Tm.kd l[0]?=10))
mutual
def Tm.nf:Tm->Bool
 |.mk k i s l=>!(Tm.mk k i s l).root&&Tm.Yq l
def Tm.Yq:List Tm->Bool
 |[]=>true|t::l=>t.nf&&Tm.Yq l
end
def Tm.SA(l:List Tm):Tm.Yq l=l.all Tm.nf:=by
 induction l with
 |nil=>rfl|cons t l a=>simp[Tm.Yq,a]
def Tm.IC(k i:Int)(s:Ty)(l:List Tm):(Tm.mk k i s l).nf=(!(Tm.mk k i s l).root&&l.all Tm.nf):=by rw[Tm.nf,Tm.SA]
def jl(f:Tm):List Tm->Tm
 |[]=>f|a::l=>jl (.mk 3 0 (.mk 0 []) [f,a]) l
def Tm.dN:Tm->Tm
 |.mk k i s l=>
  if k=3 then(match l with|[.mk _ _ _ [b],a]=>Tm.ia 0 b a|_=>.mk k i s l)
  else if k=11 then(match l with|[.mk _ _ _ (a::_)]=>a|_=>.mk k i s l)
  else if k=12 then(match l with|[.mk _ _ _ [_,b]]=>b|_=>.mk k i s l)
  else(match l with
   |[b,st,.mk _ _ _ []]=>b|[b,st,.mk _ _ _ [n]]=>jl st [n,.mk k i s [b,st,n]]|[b,st,.mk _ _ _ [h,t]]=>jl st [h,t,.mk k i s [b,st,t]]|_=>.mk k i s l)
mutual
inductive NR (nh:List HC):Nat->Tm->Prop
 |mk {p:Nat} {x:di} {l:List Tm}:HC.cM nh p=some x->rA nh x.abe l->x.size=((Tm.mk x.abd x.abg x.nU l).abf:Int)->x.free=(Tm.mk x.abd x.abg x.nU l).fr->(x.normal=true->(Tm.mk x.abd x.abg x.nU l).nf=true)->NR nh p (.mk x.abd x.abg x.nU l)
inductive rA (nh:List HC):List (Option Nat)->List Tm->Prop
 |nil:rA nh [] []|cons {p:Nat} {t:Tm} {ps:List (Option Nat)} {ts:List Tm}:NR nh p t->rA nh ps ts->rA nh (some p::ps) (t::ts)
end
def NR.inv{nh:List HC}{p:Nat}{t:Tm}(h:NR nh p t):∃x,HC.cM nh p=some x/\x.abd=t.abd/\x.abg=t.abg/\x.nU=t.cD/\rA nh x.abe t.abe/\x.size=(t.abf:Int)/\x.free=t.fr/\(x.normal=true->t.nf=true):=by
 cases h with
 |mk a b c d e=>exact⟨_,a,rfl,rfl,rfl,b,c,d,e⟩
def NR.of{nh:List HC}{p:Nat}{t:Tm}{x:di}(e:HC.cM nh p=some x)(a:x.abd=t.abd)(b:x.abg=t.abg)(c:x.nU=t.cD)(d:rA nh x.abe t.abe)(f:x.size=(t.abf:Int))(g:x.free=t.fr)
  (h:x.normal=true->t.nf=true):NR nh p t:=by
 cases t with
 |mk k i s l=>
  simp only[Tm.df,Tm.eE,Tm.dI,Tm.cZ] at a b c d;subst a;subst b;subst c;exact .mk e d f g h
def rA.len{nh:List HC}:∀{ps:List (Option Nat)} {ts:List Tm},rA nh ps ts->ps.length=ts.length
 |_,_,.nil=>rfl|_,_,.cons _ h=>by simp[h.len]
def rA.append{nh:List HC}:∀{ps a:List (Option Nat)} {ts us:List Tm},rA nh ps ts->rA nh a us->rA nh (ps++a) (ts++us)
 |_,_,_,_,.nil,h=>h|_,_,_,_,.cons b c,h=>.cons b (c.append h)
structure NE (nh nh':List HC):Prop where
 node:∀p t,NR nh p t->NR nh' p t
 state:∀p st,HC.dD nh p=some st->HC.dD nh' p=some st
 get:∀p x,HC.cM nh p=some x->∃b,HC.cM nh' p=some {x with normal:=b}
def NE.refl(nh:List HC):NE nh nh:=⟨λ_ _ h=>h,λ_ _ h=>h,λ_ x h=>⟨x.normal,h⟩⟩
def NE.trans{a b c:List HC}(d:NE a b)(e:NE b c):NE a c:=⟨λp t h=>e.node p t (d.node p t h),λp st h=>e.state p st (d.state p st h),λp x h=>by
 obtain⟨j,f⟩:=d.get p x h;obtain⟨g,i⟩:=e.get p _ f
 exact⟨g,i⟩⟩
def NE.list{nh a:List HC}(h:NE nh a):∀{ps:List (Option Nat)} {ts:List Tm},rA nh ps ts->rA a ps ts
 |_,_,.nil=>.nil|_,_,.cons b c=>.cons (h.node _ _ b) (h.list c)
def Cd{nh X:List HC}{p:Nat}{x:di}(h:HC.cM nh p=some x):HC.cM (nh++X) p=some x:=by
 have:=HC.cS h;have a:=(oM.1 this).1;unfold HC.cM;rw[rf a,this]
def EN{nh X:List HC}{p:Nat}{x:eb}(h:HC.dD nh p=some x):HC.dD (nh++X) p=some x:=by
 have:=HC.eV h;have a:=(oM.1 this).1;unfold HC.dD;rw[rf a,this]
mutual
def NR.app{nh X:List HC}:∀{p:Nat} {t:Tm},NR nh p t->NR (nh++X) p t
 |_,_,.mk a b c d e=>.mk (Cd a) b.app c d e
def rA.app{nh X:List HC}:∀{ps:List (Option Nat)} {ts:List Tm},rA nh ps ts->rA (nh++X) ps ts
 |_,_,.nil=>.nil|_,_,.cons a b=>.cons a.app b.app
end
def NE.kp{nh a:List HC}(h:Kp nh a):NE nh a:=by
 obtain⟨X,rfl⟩:=h;exact⟨λ_ _ h=>h.app,λ_ _ h=>EN h,λp x h=>⟨x.normal,Cd h⟩⟩
def CW{a0 a1:Int}{a2:Ty}{a3:List (Option Nat)}{nh:List HC}{F:Int->Option Nat->List HC->Option (eA (List HC) ((Option Nat)×List HC))}
  (hF:∀j q v x y,HC.cM v nh.length=some x->HC.cM v q=some y->HC.cM (iF v nh.length (HC.dn (di.mk x.abd x.abg x.nU x.abe (dB .i64 x.size y.size) x.free x.normal))) q=some y->F j (some q) v=some (.next (iF (iF v nh.length (HC.dn (di.mk x.abd x.abg x.nU x.abe (dB .i64 x.size y.size) x.free x.normal))) nh.length (HC.dn (di.mk x.abd x.abg x.nU x.abe (dB .i64 x.size y.size) (imax x.free y.free) x.normal))))):∀(ps:List (Option Nat)) (ts:List Tm) (i:Nat) (s:Nat) (f:Int),rA nh ps ts->s+cX Tm.abf ts<=1000000000->dH F ps i (nh++[HC.dn (di.mk a0 a1 a2 a3 s f false)])=some (.inl (nh++[HC.dn (di.mk a0 a1 a2 a3 ((s+cX Tm.abf ts:Nat):Int) (Tm.E7 f ts) false)]))
 |_,_,i,s,f,.nil,_=>by simp[cX,Tm.E7]|_,_,i,s,f,.cons (p:=p) (t:=t) c d,e=>by
  rw[cX] at e;obtain⟨y,b,l,m,n,o,g,h,r⟩:=c.inv;have k:p<nh.length:=(oM.1 (HC.cS b)).1
  have a:dB .i64 (s:Int) (t.abf:Int)=((s+t.abf:Nat):Int):=by rw[dJ (by omega) (by omega)];omega
  rw[dC,hF _ p _ _ y zt (Cd b) (by rw[uB];exact Cd b)];simp only[uB,cz,dL,g,h,a];rw[CW hF _ _ (i+1) (s+t.abf) (imax f t.fr) d (by omega)];simp only[cX,Tm.E7,J']
def pH{k i:Int}{s:Ty}{ps:List (Option Nat)}{ts:List Tm}{nh:List HC}(h:rA nh ps ts)(hn:cX Tm.abf ts<=100000000)(hi:0<=i/\i<=1000000000000)(p:∀t∈ts,0<=t.fr/\t.fr<=1000000000000):∃e,iD k i s ps nh=some (some nh.length,e)/\Kp nh e/\NR e nh.length (.mk k i s ts):=by
 have hlen:ps.length<=100000000:=by
  rw[h.len];exact Av (Tm.dT ts) hn
 have w:0<=Tm.E7 0 ts/\Tm.E7 0 ts<=1000000000000:=⟨Tm.Kd ts 0,Tm.Oe (λt z=>(p t z).2) 0 (by omega)⟩;unfold iD;rw[cW (by omega)];simp only[cL,cT]
 have r:=CW (a0:=k) (a1:=i) (a2:=s) (a3:=ps) (nh:=nh) (F:=λu l b=>
   cA (HC.cM b (List.length nh)) λa=>
   cA (l) λd=>
   cA (HC.cM b d) λc=>
   cA (HC.cM (iF b (List.length nh) (HC.dn (di.mk a.abd a.abg a.nU a.abe (dB .i64 a.size c.size) a.free a.normal))) d) λm=>
   some (.next (iF (iF b (List.length nh) (HC.dn (di.mk a.abd a.abg a.nU a.abe (dB .i64 a.size c.size) a.free a.normal))) (List.length nh) (HC.dn (di.mk a.abd a.abg a.nU a.abe (dB .i64 a.size c.size) (imax a.free m.free) a.normal)))))
  (by intro j q v x y n o A;simp only[n,o,A,cz]) ps ts 0 1 0 h (by omega)
 have B:((1:Nat):Int)=1:=rfl;rw[B] at r;rw[r];simp only[cz,cQ,zt,uB]
 have g:((1+cX Tm.abf ts:Nat):Int)=((Tm.mk k i s ts).abf:Int):=by rw[Tm.cI]
 have fin:∀f:Int,f=(Tm.mk k i s ts).fr->NR (nh++[HC.dn (di.mk k i s ps ((1+cX Tm.abf ts:Nat):Int) f false)]) nh.length (.mk k i s ts):=by
  intro f p;exact NR.of zt rfl rfl rfl h.app g p (by intro h;cases h)
 by_cases n:k=1
 ·subst n;refine⟨_,by rw[cG (by decide)],⟨_,rfl⟩,fin _ ?_⟩;rw[Tm.fr,cG rfl,dJ (by omega) (by omega)]
 ·rw[cB (by simpa using n)]
  by_cases o:k=2
  ·subst o;refine⟨_,by rw[cG (by decide)],⟨_,rfl⟩,fin _ ?_⟩;rw[Tm.fr,cB (by decide),cG rfl,dW (by omega) (by omega)]
  ·refine⟨_,by rw[cB (by simpa using o)],⟨_,rfl⟩,fin _ ?_⟩;rw[Tm.fr,cB n,cB o]
def Pc{nh:List HC}{p:Nat}{x:di}(h:HC.cM nh p=some x):gA (some p) nh=some (d_ x.abd):=by
 unfold gA d_;simp only[cz,h,eH]
 split<;>rfl
def NE.below{nh a:List HC}{p:Nat}{x:di}(he:NE nh a)(h:HC.cM nh p=some x):gA (some p) a=some (d_ x.abd):=by
 obtain⟨b,e⟩:=he.get p x h;rw[Pc e]
def xK{F:Int->Option Nat->List (Option Nat)×List HC->Option (eA (List (Option Nat)×List HC) ((Option Nat)×List HC))}(g:Tm->Tm)(Yi:List HC):∀(ts:List Tm)
  (_:∀t∈ts,∀p nh j v,Kp Yi nh->NR nh p t->v.length+1<=1000000000->∃q a,F j (some p) (v,nh)=some (.next (v++[some q],a))/\Kp nh a/\NR a q (g t))
  (ps:List (Option Nat)) (i:Nat) (nh:List HC) (v:List (Option Nat)) (us:List Tm),Kp Yi nh->rA nh ps ts->rA nh v us->v.length+ts.length<=1000000000->∃c a,dH F ps i (v,nh)=some (.inl (c,a))/\Kp nh a/\rA a c (us++ts.map g)
 |[],_,_,i,nh,v,us,_,.nil,d,_=>⟨v,nh,rfl,Kp.refl _,by simpa using d⟩|t::ts,hF,_,i,nh,v,us,h,.cons (p:=p) (ps:=ps) k l,d,m=>by
  simp only[jW] at m;obtain⟨q,e,n,f,o⟩:=hF t (by simp) p nh i v h k (by omega);have b:=NE.kp f;obtain⟨c,a,f1,f2,f3⟩:=xK g Yi ts (λt r=>hF t (by simp[r])) ps (i+1) e (v++[some q]) (us++[g t]) (h.trans f) (b.list l) ((b.list d).append (.cons o .nil)) (by simp;omega);refine⟨c,a,?_,f.trans f2,by simpa using f3⟩;rw[dC,n];simp only[cz,dL];exact f1
structure Sm (M:Int) (t:Tm):Prop where
 ok:t.ok=true
 abj:t.abj M=true
 abf:t.abf<=1000000
def Sm.arg{M:Int}{k i:Int}{s:Ty}{l:List Tm}(h:Sm M (.mk k i s l)):∀t∈l,Sm M t:=by
 intro t a;have b:=h.abj;have c:=h.abf;rw[Tm.ec] at b;simp only[eJ,jr] at b;rw[Tm.cI] at c;exact⟨(Tm.jQ h.ok).2.2.2.1 t a,b.2 t a,by have:=da Tm.abf a;omega⟩
def Sm.idx{M:Int}{k i:Int}{s:Ty}{l:List Tm}(h:Sm M (.mk k i s l)):0<=i/\i<=M:=by
 have a:=h.abj;rw[Tm.ec] at a;simp only[eJ,kR] at a;exact⟨(Tm.jQ h.ok).2.1,a.1⟩
def Sm.fr{M:Int}{t:Tm}(h:Sm M t)(a:0<=M):0<=t.fr/\t.fr<=M+1:=Tm.OW t a h.ok h.abj
def Sm.mono{M N:Int}{t:Tm}(h:Sm M t)(hm:M<=N):Sm N t:=⟨h.ok,by
 have:∀t:Tm,t.abj M=true->t.abj N=true:=by
  intro t
  induction t using Tm.ind with
  |h k i s l b=>
   rw[Tm.ec,Tm.ec];simp only[eJ,jr,kR]
   exactλ⟨d,c⟩=>⟨by omega,λx a=>b x a (c x a)⟩
 exact this t h.abj,h.abf⟩
def II{M b:Int}(d:0<=b)(t:Tm):∀f,t.abj M=true->(t.up f b).abj (M+b)=true:=by
 induction t using Tm.ind with
 |h k i s l a=>
  intro f h;rw[Tm.ec] at h;simp only[eJ,jr,kR] at h;rw[Tm.fX,Tm.ec];simp only[eJ,jr,kR];refine⟨by split<;>omega,?_⟩;intro x c;obtain⟨y,hy,rfl⟩:=mO.1 c;exact a y hy _ (h.2 y hy)
def Sm.up{M f b:Int}{t:Tm}(h:Sm M t)(c:0<=f)(a:0<=b):Sm (M+b) (t.up f b):=
 ⟨by rw[Tm.BI t f b c a];exact h.ok,II a t f h.abj,by rw[Tm.mA];exact h.abf⟩
def PY{M:Int}(U:0<=M/\M<=500000000000):∀(n:Nat) (t:Tm) (p:Nat) (nh:List HC) (f b:Int),t.abf<=n->NR nh p t->Sm M t->0<=f->f+t.abf<=500000000000->0<=b->b<=400000000000->∃Q a,hH n (some p) f b nh=some (some Q,a)/\Kp nh a/\NR a Q (t.up f b):=by
 intro n
 induction n with
 |zero=>intro t p nh f b h;have:=t.dg;omega
 |succ n V=>
  intro t p nh f b hn w hs W z R A;obtain⟨x,B,m,C,D,E,e6,X,e8⟩:=w.inv;have Y:=hs.fr U.1;rw[hH];simp only[cT,cz,B,X,zB]
  by_cases r:t.fr<=f
  ·rw[cG r];exact⟨p,nh,rfl,Kp.refl _,by rw[Tm.QE t f b hs.ok W r];exact w⟩
  ·rw[cB r]
   by_cases S:b=0
   ·subst S;exact⟨p,nh,by simp,Kp.refl _,by rw[Tm.oE];exact w⟩
   ·rw[cB (by simpa using S)];cases t with
    |mk k i s l=>
     simp only[Tm.df,Tm.eE,Tm.dI,Tm.cZ] at m C D E;have T:=hs.idx;obtain⟨o1,o2,o3,o4,o5⟩:=Tm.jQ hs.ok
     by_cases G:k=1
     ·subst G;have Z:=o1 rfl;subst Z;rw[cG (by rw[m];rfl)]
      have H:f<=i:=by rw[Tm.fr,cG rfl] at r;omega
      obtain⟨a,g1,g2,g3⟩:=pH (k:=1) (i:=i+b) (s:=s) (ps:=[]) (ts:=[]) (nh:=nh) .nil (by simp[cX]) (by omega) (by simp);refine⟨nh.length,a,?_,g2,?_⟩
      ·rw[m,C,D,dJ (by omega) (by omega),g1];rfl
      ·rw[Tm.fX,cG ⟨rfl,H⟩];exact g3
     ·rw[cB (by rw[m];simpa using G)]
      have aa:1+cX Tm.abf l<=n+1:=by rw[Tm.cI] at hn;exact hn
      have hlen:=Tm.dT l;have I:=hs.abf;rw[Tm.cI] at I z;have ab:x.abe.length=l.length:=E.len;rw[cW (by omega)];simp only[cL];have ad:=fV k
      obtain⟨v',a,g1,g2,g3⟩:=xK (F:=λj J=>p0 λc d=>
        cA (gA (some p) d) λo=>
        cN (hH n J (dB .i64 f o) b d) λe g=>
        fh (eC c [e])<|some (.next ((fp c [e]),g))) (Tm.up (f+d_ k) b) nh l (by
        intro t u q K j v L hq hv;have N:=hs.arg t u;have hm:=da Tm.abf u;obtain⟨q',O,a1,a2,a3⟩:=V t q K (f+d_ k) b (by omega) hq N (by omega) (by omega) R A;refine⟨q',O,?_,a2,a3⟩;simp only[kC,(NE.kp L).below B,cz,m];rw[dJ (by omega) (by omega),a1];simp only[cF];rw[dK (by simpa using hv)]
        rfl) x.abe 0 nh [] [] (Kp.refl _) E .nil (by simp;omega)
      rw[g1];simp only[cz,cQ,kC];obtain⟨x2,c1⟩:=(NE.kp g2).get p x B;unfold eT;simp only[cz,c1]
      obtain⟨P,d1,d2,d3⟩:=pH (k:=k) (i:=i) (s:=s) (ps:=v') (ts:=l.map (Tm.up (f+d_ k) b)) (nh:=a) (by simpa using g3) (by
       rw[pZ,rI λx _=>Tm.mA x _ _];omega) (by omega) (by
       intro t u;obtain⟨y,hy,rfl⟩:=mO.1 u;have:=((hs.arg y hy).up (f:=f+d_ k) (b:=b) (by omega) R).fr (by omega)
       omega)
      refine⟨a.length,P,?_,g2.trans d2,?_⟩
      ·rw[m,C,D,d1];rfl
      ·rw[Tm.fX,cB (λh=>G h.1)];exact d3
def count_eq{M:Int}(P:0<=M/\M<=500000000000)(nh:List HC):∀(n:Nat) (t:Tm) (p:Nat) (a:Int),t.abf<=n->NR nh p t->Sm M t->0<=a->a+t.abf<=500000000000->iG n (some p) a nh=some (t.abl a:Int):=by
 intro n
 induction n with
 |zero=>intro t p a h;have:=t.dg;omega
 |succ n C=>
  intro t p a hn D hs E o;obtain⟨x,z,j,A,F,q,Q,G,R⟩:=D.inv;rw[iG];simp only[cz,z,G,zB]
  by_cases r:t.fr<=a
  ·rw[cG r,Tm.JI t a hs.ok E r];rfl
  ·rw[cB r];cases t with
   |mk k i s l=>
    simp only[Tm.df,Tm.eE,Tm.dI,Tm.cZ] at j A F q;obtain⟨o1,o2,S,T,U⟩:=Tm.jQ hs.ok
    by_cases v:k=1
    ·subst v;have H:=o1 rfl;subst H;rw[cG (by rw[j];rfl),Tm.eQ,A];simp only[eH,cX]
     by_cases m:i=a
     ·rw[cG m,cG ⟨trivial,m⟩];rfl
     ·rw[cB m,cB (λh=>m h.2)];rfl
    ·rw[cB (by rw[j];simpa using v)];have w:=hs.abf;rw[Tm.cI] at w o hn;have hlen:=Tm.dT l;have I:x.abe.length=l.length:=q.len;rw[cW (by omega)];simp only[cL,cT];have J:=fV k
     have loop:∀(ts:List Tm) (ps:List (Option Nat)) (i c:Nat),(∀t∈ts,t∈l)->rA nh ps ts->c+cX Tm.abf ts<=1000000000->dH (λ(B:Int) (b:Option Nat)=>(λ(d:Int)=>
        cA (iG n b (a+d_ k) nh) λe=>
        some ((.next (dB .i64 d e)):eA Int Int))) ps i (c:Int)=some (.inl ((c+cX (Tm.abl (a+d_ k)) ts:Nat):Int)):=by
      intro ts
      induction ts with
      |nil=>intro ps i c _ h _;cases h;rfl
      |cons t ts y=>
       intro ps i c hm h K;cases h with
       |cons q1 L=>
        rw[cX] at K;have f:=hm t (by simp);have N:=da Tm.abf f;have O:=Tm.gH t (a+d_ k);rw[dC];rw[C t _ _ (by omega) q1 (hs.arg t f) (by omega) (by omega)];simp only[cz];rw[dJ (by omega) (by omega)];simp only[dL];have:=y _ (i+1) (c+t.abl (a+d_ k)) (λu hu=>hm u (by simp[hu])) L (by omega);rw[show((c+t.abl (a+d_ k):Nat):Int)=(c:Int)+(t.abl (a+d_ k):Int) by omega] at this;rw[this];simp only[cX,J']
     have:=loop l x.abe 0 0 (λt h=>h) q (by omega);rw[show((0:Nat):Int)=0 from rfl] at this;have g:dB .i64 a (d_ k)=a+d_ k:=dJ (by omega) (by omega);simp only[Pc z,cz,j,g];rw[this];simp only[cz,cQ,sy];rw[Tm.eQ,cB (λh=>v h.1),sy]
def F2{M N B:Int}(w:M<=B)(s:Tm)(hs:s.abj N=true)(t:Tm):∀n,0<=n->N+n+t.abf<=B->t.abj M=true->t.ok=true->(Tm.ia n t s).abj B=true:=by
 induction t using Tm.ind with
 |h k i ty l f=>
  intro n hn g d p;have j:=d;rw[Tm.ec] at d;simp only[eJ,jr,kR] at d;obtain⟨o1,o2,z,q,A⟩:=Tm.jQ p;rw[Tm.eZ]
  have c:∀(u:Tm) {a b:Int},a<=b->u.abj a=true->u.abj b=true:=by
   intro u
   induction u using Tm.ind with
   |h k i s l f=>
    intro a b m;rw[Tm.ec,Tm.ec];simp only[eJ,jr,kR]
    exactλ⟨C,r⟩=>⟨by omega,λx e=>f x e m (r x e)⟩
  have D:1<=(Tm.mk k i ty l).abf:=Tm.dg _
  by_cases o:k=1
  ·rw[cG o];unfold Tm.jI
   split
   ·exact c _ (by omega) (II hn s 0 hs)
   ·split
    ·rw[Tm.ec];simp;omega
    ·exact c _ (by omega) j
  ·rw[cB o,Tm.ec];simp only[eJ,jr,kR];refine⟨by omega,?_⟩;intro x e;obtain⟨y,hy,rfl⟩:=mO.1 e;have v:=fV k;have hm:=da Tm.abf hy;rw[Tm.cI] at g;exact f y hy (n+d_ k) (by omega) (by omega) (d.2 y hy) (q y hy)
def put_eq{M N:Int}(hM:0<=M/\M<=100000000000)(hN:0<=N/\N<=100000000000)(s:Tm)(d:Sm N s):∀(n:Nat) (t:Tm) (p q:Nat) (nh:List HC) (a:Int),t.abf<=n->NR nh p t->NR nh q s->Sm M t->0<=a->a+t.abf<=100000000000->t.abf+t.abl a*s.abf<=100000000->∃E b,ij n (some p) a (some q) nh=some (some E,b)/\Kp nh b/\NR b E (Tm.ia a t s):=by
 intro n
 induction n with
 |zero=>intro t p q nh a h;have:=t.dg;omega
 |succ n H=>
  intro t p q nh a hn X Y hs Z I z;obtain⟨x,J,w,K,L,O,e6,e7,e8⟩:=X.inv;rw[ij];simp only[cz,J,e7,zB]
  by_cases o:t.fr<=a
  ·rw[cG o];exact⟨p,nh,rfl,Kp.refl _,by rw[Tm.OF s t a hs.ok Z o];exact X⟩
  ·rw[cB o];cases t with
   |mk k i ty l=>
    simp only[Tm.df,Tm.eE,Tm.dI,Tm.cZ] at w K L O;have aa:=hs.idx;obtain⟨o1,o2,o3,P,o5⟩:=Tm.jQ hs.ok
    by_cases G:k=1
    ·subst G;have hl:=o1 rfl;subst hl
     have ab:a<=i:=by rw[Tm.fr,cG rfl] at o;omega
     rw[cG (by rw[w];rfl),K];simp only[eH];rw[Tm.eZ,cG rfl];unfold Tm.jI
     by_cases e:i=a
     ·rw[cG e,cG e];have A:=d.abf;obtain⟨E,b,g1,g2,g3⟩:=PY (M:=N) (by omega) FU s q nh 0 a (by rw[dP];omega) Y d (by omega) (by omega) Z (by omega);exact⟨E,b,by rw[g1];rfl,g2,g3⟩
     ·rw[cB e,cB e,cG (by omega)];obtain⟨b,g1,g2,g3⟩:=pH (k:=1) (i:=i-1) (s:=ty) (ps:=[]) (ts:=[]) (nh:=nh) .nil (by simp[cX]) (by omega) (by simp);refine⟨nh.length,b,?_,g2,?_⟩
      ·rw[w,L,dW (by omega) (by omega),g1];rfl
      ·have hz:ty=.mk 0 []:=by
        have:=hs.ok;rw[Tm.fa] at this;simp only[eJ,Tm.node] at this
        have h4:ty.nY=true:=by simpa[iz] using this.1.2
        exact(Ty.kv ty).1 h4
       rw[<-hz];exact g3
    ·rw[cB (by rw[w];simpa using G)];have A:=hs.abf;rw[Tm.cI] at A I hn;have hlen:=Tm.dT l;have ad:x.abe.length=l.length:=O.len;rw[cW (by omega)];simp only[cL,cT];have ae:=fV k;rw[Tm.eQ,cB (λh=>G h.1),sy,Tm.cI] at z
     have Q:∀t∈l,t.abf+t.abl (a+d_ k)*s.abf<=100000000:=by
      intro t c;have o:=da Tm.abf c;have e:=da (Tm.abl (a+d_ k)) c;have h3:=HO s.abf e;omega
     obtain⟨v',b,g1,g2,g3⟩:=xK (F:=λj R=>p0 λf g=>
       cA (gA (some p) g) λB=>
       cN (ij n R (dB .i64 a B) (some q) g) λm u=>
       fh (eC f [m])<|some (.next ((fp f [m]),u))) (λt=>Tm.ia (a+d_ k) t s) nh l (by
       intro t c r S j v C T hv;have U:=hs.arg t c;have hm:=da Tm.abf c;obtain⟨q',V,a1,a2,a3⟩:=H t r q S (a+d_ k) (by omega) T ((NE.kp C).node _ _ Y) U (by omega) (by omega) (Q t c);refine⟨q',V,?_,a2,a3⟩;simp only[kC,(NE.kp C).below J,cz,w];rw[dJ (by omega) (by omega),a1];simp only[cF];rw[dK (by simpa using hv)]
       rfl) x.abe 0 nh [] [] (Kp.refl _) O .nil (by simp;omega)
     rw[g1];simp only[cz,cQ,kC];obtain⟨x2,c1⟩:=(NE.kp g2).get p x J;unfold eT;simp only[cz,c1]
     have D:∀t∈l,(Tm.ia (a+d_ k) t s).abf<=t.abf+t.abl (a+d_ k)*s.abf:=by
      intro t c;have:=Tm.oW s t (a+d_ k) (P t c);omega
     obtain⟨W,d1,d2,d3⟩:=pH (k:=k) (i:=i) (s:=ty) (ps:=v') (ts:=l.map (λt=>Tm.ia (a+d_ k) t s)) (nh:=b) (by simpa using g3) (by
      rw[pZ];have o:=jc D
      have e:∀l:List Tm,cX (λt=>t.abf+t.abl (a+d_ k)*s.abf) l=cX Tm.abf l+cX (Tm.abl (a+d_ k)) l*s.abf:=by
       intro l
       induction l with
       |nil=>simp[cX]|cons t l H=>simp only[cX,H,w9];omega
      rw[e] at o
      omega) (by omega) (by
      intro t c;obtain⟨y,hy,rfl⟩:=mO.1 c;have hm:=da Tm.abf hy;have:=Tm.OW (Tm.ia (a+d_ k) y s) (M:=M+N+(a+d_ k)+y.abf) (by omega) (Tm.DG s d.ok y _ (by omega) (P y hy)) (F2 (M:=M) (by omega) s d.abj y _ (by omega) (by omega) (hs.arg y hy).abj (P y hy))
      omega)
     refine⟨b.length,W,?_,g2.trans d2,?_⟩
     ·rw[w,K,L,d1];rfl
     ·rw[Tm.eZ,cB G];exact d3
def nP(a b:Int):de a b=decide (a=b):=by by_cases h:a=b<;>simp[de,h]
def Ss{α:Type}{l:List α}(h:l.length=1):∃a,l=[a]:=by
 match l,h with|[a],_=>exact⟨a,rfl⟩
def T8{α:Type}{l:List α}(h:l.length=2):∃a b,l=[a,b]:=by
 match l,h with|[a,b],_=>exact⟨a,b,rfl⟩
def XZ{α:Type}{l:List α}(h:l.length=3):∃a b c,l=[a,b,c]:=by
 match l,h with|[a,b,c],_=>exact⟨a,b,c,rfl⟩
def rA.inv1{nh:List HC}{ps:List (Option Nat)}{a:Tm}(h:rA nh ps [a]):∃p,ps=[some p]/\NR nh p a:=by
 cases h with|cons b c=>cases c;exact⟨_,rfl,b⟩
def rA.inv2{nh:List HC}{ps:List (Option Nat)}{a b:Tm}(h:rA nh ps [a,b]):∃p q,ps=[some p,some q]/\NR nh p a/\NR nh q b:=by
 cases h with|cons c d=>obtain⟨q,rfl,e⟩:=d.inv1;exact⟨_,q,rfl,c,e⟩
def rA.EC{nh:List HC}{ps:List (Option Nat)}{a b c:Tm}(h:rA nh ps [a,b,c]):∃p q r,ps=[some p,some q,some r]/\NR nh p a/\NR nh q b/\NR nh r c:=by
 cases h with|cons d e=>obtain⟨q,r,rfl,f,g⟩:=e.inv2;exact⟨_,q,r,rfl,d,f,g⟩
def rA.QB{nh:List HC}{ps:List (Option Nat)}(h:rA nh ps []):ps=[]:=by cases h;rfl
def Tm.pR{k i:Int}{s:Ty}{l:List Tm}(h:(Tm.mk k i s l).ok=true):(l.length:Int)=fq k:=(Tm.jQ h).2.2.2.2
def Tm.YS{i:Int}{s:Ty}{l:List Tm}(h:(Tm.mk 3 i s l).ok=true):∃a b,l=[a,b]:=T8 (by have:=Tm.pR h;have e:fq 3=2:=rfl;omega)
def Tm.YO{i:Int}{s:Ty}{l:List Tm}(h:(Tm.mk 6 i s l).ok=true):∃a b c,l=[a,b,c]:=XZ (by have:=Tm.pR h;have e:fq 6=3:=rfl;omega)
def Tm.Y4{i:Int}{s:Ty}{l:List Tm}(h:(Tm.mk 9 i s l).ok=true):∃a b c,l=[a,b,c]:=XZ (by have:=Tm.pR h;have e:fq 9=3:=rfl;omega)
def Tm.ok2{i:Int}{s:Ty}{l:List Tm}(h:(Tm.mk 2 i s l).ok=true):∃a,l=[a]:=Ss (by have:=Tm.pR h;have e:fq 2=1:=rfl;omega)
def Tm.QJ{k i:Int}{s:Ty}{l:List Tm}(b:k=11\/k=12)(h:(Tm.mk k i s l).ok=true):∃a,l=[a]:=Ss (by
 have:=Tm.pR h;rcases b with rfl|rfl
 ·have e:fq 11=1:=rfl;omega
 ·have e:fq 12=1:=rfl;omega)
def Tm.X6{i:Int}{s:Ty}{l:List Tm}(h:(Tm.mk 10 i s l).ok=true):∃a b,l=[a,b]:=T8 (by have:=Tm.pR h;have e:fq 10=2:=rfl;omega)
def Tm.Yn{k i:Int}{s:Ty}{l:List Tm}(a:k=4\/k=7)(h:(Tm.mk k i s l).ok=true):l=[]:=xZ (by
 have:=Tm.pR h;rcases a with rfl|rfl
 ·have e:fq 4=0:=rfl;omega
 ·have e:fq 7=0:=rfl;omega)
def Tm.ok5{i:Int}{s:Ty}{l:List Tm}(h:(Tm.mk 5 i s l).ok=true):∃a,l=[a]:=Ss (by have:=Tm.pR h;have e:fq 5=1:=rfl;omega)
def Tm.ok8{i:Int}{s:Ty}{l:List Tm}(h:(Tm.mk 8 i s l).ok=true):∃a b,l=[a,b]:=T8 (by have:=Tm.pR h;have e:fq 8=2:=rfl;omega)
def Tm.dp{k i:Int}{s:Ty}{l:List Tm}(h:(Tm.mk k i s l).ok=true):∀t∈l,t.ok=true:=(Tm.jQ h).2.2.2.1
inductive Tm.Rd:Tm->Prop
 |app {i s i' s' b a}:Tm.Rd (.mk 3 i s [.mk 2 i' s' [b],a])|zero {k ko i s i' s' b st}:(k=6/\ko=4\/k=9/\ko=7)->Tm.Rd (.mk k i s [b,st,.mk ko i' s' []])|succ {i s i' s' b st n}:Tm.Rd (.mk 6 i s [b,st,.mk 5 i' s' [n]])|cons {i s i' s' b st h t}:Tm.Rd (.mk 9 i s [b,st,.mk 8 i' s' [h,t]])|proj {k i s i' s' a b}:(k=11\/k=12)->Tm.Rd (.mk k i s [.mk 10 i' s' [a,b]])
def Tm.CM{t:Tm}(d:t.ok=true)(h:t.root=true):t.Rd:=by
 cases t with
 |mk k i s l=>
  unfold Tm.root at h;simp only[ni,eJ,kR] at h;rcases h with((⟨rfl,h⟩|⟨rfl,h⟩)|⟨rfl,h⟩)|⟨e,h⟩
  ·obtain⟨a,b,rfl⟩:=Tm.YS d;cases a with
   |mk k' f g j=>
    have e:k'=2:=by simpa[Tm.kd] using h
    subst e;obtain⟨q,rfl⟩:=Tm.ok2 (Tm.dp d (.mk 2 f g j) (by simp));exact .app
  ·obtain⟨a,b,c,rfl⟩:=Tm.YO d;cases c with
   |mk k' f g j=>
    have e:k'=4\/k'=5:=by simpa[Tm.kd] using h
    have o:=Tm.dp d (.mk k' f g j) (by simp);rcases e with rfl|rfl
    ·rw[Tm.Yn (.inl rfl) o];exact .zero (.inl ⟨rfl,rfl⟩)
    ·obtain⟨n,rfl⟩:=Tm.ok5 o;exact .succ
  ·obtain⟨a,b,c,rfl⟩:=Tm.Y4 d;cases c with
   |mk k' f g j=>
    have e:k'=7\/k'=8:=by simpa[Tm.kd] using h
    have o:=Tm.dp d (.mk k' f g j) (by simp);rcases e with rfl|rfl
    ·rw[Tm.Yn (.inr rfl) o];exact .zero (.inr ⟨rfl,rfl⟩)
    ·obtain⟨n,m,rfl⟩:=Tm.ok8 o;exact .cons
  ·obtain⟨a,rfl⟩:=Tm.QJ e d;cases a with
   |mk k' f g j=>
    have p:k'=10:=by simpa[Tm.kd] using h
    subst p;obtain⟨a,b,rfl⟩:=Tm.X6 (Tm.dp d (.mk 10 f g j) (by simp));exact .proj e
def I6{nh:List HC}{p:Nat}{t:Tm}(v:NR nh p t)(j:t.ok=true):iC (some p) nh=some t.root:=by
 obtain⟨x,w,r,A,B,f,C,D,E⟩:=v.inv;unfold iC;simp only[cz,w,cT];cases t with
 |mk k i s l=>
  simp only[Tm.df,Tm.cZ] at r f;rw[r];unfold Tm.root
  by_cases m:k=3
  ·subst m;obtain⟨a,b,rfl⟩:=Tm.YS j;obtain⟨pa,pb,e,g,u⟩:=f.inv2;obtain⟨y,f1,f2,_⟩:=g.inv;rw[cG (by decide),e];simp[dk,f1,f2,Tm.kd,nP]
  ·rw[cB (by simpa using m)]
   by_cases n:k=6
   ·subst n;obtain⟨a,b,c,rfl⟩:=Tm.YO j;obtain⟨pa,pb,z,e,g,u,o⟩:=f.EC;obtain⟨y,f1,f2,_⟩:=o.inv;rw[cG (by decide),e];simp only[gu,kf,gz,cz,f1,f2,Tm.kd,eH]
    by_cases h:c.abd=4
    ·simp[h]
    ·simp[h,nP]<;>exact G8.2 Iff.rfl
   ·rw[cB (by simpa using n)]
    by_cases q:k=9
    ·subst q;obtain⟨a,b,c,rfl⟩:=Tm.Y4 j;obtain⟨pa,pb,z,e,g,u,o⟩:=f.EC;obtain⟨y,f1,f2,_⟩:=o.inv;rw[cG (by decide),e];simp only[gu,kf,gz,cz,f1,f2,Tm.kd,eH]
     by_cases h:c.abd=7
     ·simp[h]
     ·simp[h,nP]<;>exact G8.2 Iff.rfl
    ·rw[cB (by simpa using q)]
     by_cases d:k=11\/k=12
     ·obtain⟨a,rfl⟩:=Tm.QJ d j;obtain⟨pa,e,g⟩:=f.inv1;obtain⟨y,f1,f2,_⟩:=g.inv;rw[cG (by rcases d with rfl|rfl<;>rfl),e];simp only[dk,gz,cz,f1,f2,Tm.kd];rcases d with rfl|rfl<;>simp[nP]<;>exact G8.2 Iff.rfl
     ·rw[cB (by simp only[jN,ni,eH];exact d)];simp only[not_or] at d;simp[m,n,q,d.1,d.2]
def mw:∀(l:List Tm) (f:Tm),(jl f l).abf=f.abf+cX Tm.abf l+l.length
 |[],f=>by simp[jl,cX]|a::l,f=>by
  rw[jl,mw l,Tm.cI];simp only[cX,jW];omega
def GI{M:Int}(C:0<=M/\M<=500000000000):∀(ts:List Tm) (ps:List (Option Nat)) (nh:List HC) (b:Nat) (f:Tm),rA nh ps ts->NR nh b f->(∀t∈ts,0<=t.fr/\t.fr<=M)->0<=f.fr/\f.fr<=M->f.abf+cX Tm.abf ts+ts.length<=10000000->∃c a,o6 (some b) ps nh=some (some c,a)/\Kp nh a/\NR a c (jl f ts):=by
 intro ts ps nh b f g h d j hn;have hlen:ps.length=ts.length:=g.len;unfold o6;rw[cW (by omega)];simp only[cL,cT]
 have loop:∀(ts:List Tm) (ps:List (Option Nat)) (i:Nat) (nh:List HC) (b:Nat) (f:Tm),rA nh ps ts->NR nh b f->(∀t∈ts,0<=t.fr/\t.fr<=M)->0<=f.fr/\f.fr<=M->f.abf+cX Tm.abf ts+ts.length<=10000000->∃c a,dH (λ(v:Int) (o:Option Nat)=>(p0 λ(v171:Option Nat) (l:List HC)=>
    cN (iD 3 0 (Ty.mk 0 []) [v171,o] l) λm e=>some ((.next (m,e)):eA ((Option Nat)×List HC) ((Option Nat)×List HC)))) ps i (some b,nh)=some (.inl (some c,a))/\Kp nh a/\NR a c (jl f ts):=by
  intro ts
  induction ts with
  |nil=>
   intro ps i nh b f g h _ _ _;cases g;exact⟨b,nh,rfl,Kp.refl _,h⟩
  |cons t ts w=>
   intro ps i nh b f g h d j hn;cases g with
   |cons x y=>
    rename_i p ps;simp only[cX,jW] at hn;have D:=d t (by simp)
    obtain⟨q,a1,a2,a3⟩:=pH (k:=3) (i:=0) (s:=.mk 0 []) (ps:=[some b,some p]) (ts:=[f,t]) (nh:=nh) (.cons h (.cons x .nil)) (by simp[cX];omega) (by omega) (by
     intro u hu;simp only[jz,qc,Oz] at hu
     rcases hu with rfl|rfl<;>omega)
    have r:=NE.kp a2
    have n:0<=(Tm.mk 3 0 (.mk 0 []) [f,t]).fr/\(Tm.mk 3 0 (.mk 0 []) [f,t]).fr<=M:=by
     rw[Tm.fr,cB (by decide),cB (by decide)];simp only[Tm.E7,qD];omega
    obtain⟨c,a,z,A,B⟩:=w ps (i+1) q nh.length (.mk 3 0 (.mk 0 []) [f,t]) (r.list y) a3 (λu hu=>d u (by simp[hu])) n (by
     rw[Tm.cI];simp only[cX];omega)
    refine⟨c,a,?_,a2.trans A,B⟩;rw[dC];simp only[kC,a1,cF,cz,dL];exact z
 obtain⟨c,a,a1,a2,a3⟩:=loop ts ps 0 nh b f g h d j hn;rw[a1];exact⟨c,a,rfl,a2,a3⟩
def Jp{α:Type}(a:α):c_ [a] (dX .i64 (dm [a]) 1)=some a:=by
 have:dX .i64 (dm [a]) 1=0:=by simp only[et,jW,tH];decide
 rw[this];rfl
def Jt{α:Type}(a b:α):c_ [a,b] (dX .i64 (dm [a,b]) 1)=some b:=by
 have:dX .i64 (dm [a,b]) 1=1:=by simp only[et,jW,tH];decide
 rw[this];rfl
def A9{M:Int}(hM:0<=M/\M<=90000000000){nh:List HC}{p:Nat}{t:Tm}(hr:NR nh p t)(hs:Sm M t)(hn:t.abf<=8192)(F:t.root=true):∃R l,gE (some p) nh=some (some R,l)/\Kp nh l/\NR l R t.dN:=by
 have U:=Tm.CM hs.ok F;obtain⟨x,V,g,S,T,w,e6,e7,e8⟩:=hr.inv;unfold gE;simp only[cz,V];have e:∀u:Tm,Sm M u->0<=u.fr/\u.fr<=M+1:=λu hu=>hu.fr hM.1;cases U with
 |app=>
  rename_i i s z A b a;simp only[Tm.df,Tm.cZ] at g w;obtain⟨pf,pa,B,W,X⟩:=w.inv2;obtain⟨y,f1,f2,f3,f4,f5,_⟩:=W.inv;simp only[Tm.df,Tm.cZ] at f2 f5;obtain⟨pb,C,D⟩:=f5.inv1;have Y:=hs.arg (.mk 2 z A [b]) (by simp);have Z:=hs.arg a (by simp);have m:=Y.arg b (by simp);rw[Tm.cI] at hn;simp only[cX,Tm.cI] at hn;have af:=Tm.gH b 0;have hmul:b.abl 0*a.abf<=8192*8192:=W9 (by omega) (by omega);obtain⟨R,l,g1,g2,g3⟩:=put_eq (M:=M) (N:=M) (by omega) (by omega) a Z FU b pb pa nh 0 (by rw[dP];omega) D X m (by omega) (by omega) (by omega);refine⟨R,l,?_,g2,g3⟩;rw[g,cG (by decide),B];simp only[dk,eD,gz,kf,cz,f1,C,g1,cF]
 |proj hk=>
  rename_i k i s z A a b;simp only[Tm.df,Tm.cZ] at g w;obtain⟨pf,B,W⟩:=w.inv1;obtain⟨y,f1,f2,f3,f4,f5,_⟩:=W.inv;simp only[Tm.df,Tm.cZ] at f2 f5;obtain⟨pa,pb,C,X,D⟩:=f5.inv2;rcases hk with rfl|rfl
  ·refine⟨pa,nh,?_,Kp.refl _,by simpa[Tm.dN] using X⟩;rw[g,cB (by decide),cG (by decide),B];simp only[dk,gz,cz,f1,C]
  ·refine⟨pb,nh,?_,Kp.refl _,by simpa[Tm.dN] using D⟩;rw[g,cB (by decide),cB (by decide),cG (by decide),B];simp only[dk,eD,gz,kf,cz,f1,C]
 |zero hk=>
  rename_i k ko i s z A b st;simp only[Tm.df,Tm.cZ] at g w;obtain⟨pb,ps,po,B,D,j,L⟩:=w.EC;obtain⟨y,f1,f2,f3,f4,f5,_⟩:=L.inv;simp only[Tm.df,Tm.cZ] at f2 f5;have O:=f5.QB;refine⟨pb,nh,?_,Kp.refl _,?_⟩
  ·have f:k≠3/\k≠11/\k≠12:=by omega
   rw[g,cB (by simpa using f.1),cB (by simpa using f.2.1),cB (by simpa using f.2.2),B];simp only[dk,eD,gu,gz,kf,cz,f1,O];rfl
  ·have:(Tm.mk k i s [b,st,.mk ko z A []]).dN=b:=by
    have f:k≠3/\k≠11/\k≠12:=by omega
    simp[Tm.dN,f.1,f.2.1,f.2.2]
   rw[this];exact D
 |succ=>
  rename_i i s z A b st n;simp only[Tm.df,Tm.cZ,Tm.eE,Tm.dI] at g S T w;obtain⟨pb,ps,po,B,D,j,L⟩:=w.EC;obtain⟨y,f1,f2,f3,f4,f5,_⟩:=L.inv;simp only[Tm.df,Tm.cZ] at f2 f5;obtain⟨P,o,q⟩:=f5.inv1;have m:=hs.arg b (by simp);have G:=hs.arg st (by simp);have E:=hs.arg (.mk 5 z A [n]) (by simp);have H:=E.arg n (by simp);rw[Tm.cI] at hn;simp only[cX,Tm.cI] at hn;have Q:=hs.idx;have b1:=e b m;have b2:=e st G;have b3:=e n H
  obtain⟨I,a1,a2,a3⟩:=pH (k:=6) (i:=i) (s:=s) (ps:=[some pb,some ps,some P]) (ts:=[b,st,n]) (nh:=nh) (.cons D (.cons j (.cons q .nil))) (by simp[cX];omega) (by omega) (by
   intro u hu;simp only[jz,qc,Oz] at hu
   rcases hu with rfl|rfl|rfl<;>omega)
  have d:=NE.kp a2;obtain⟨c,fc⟩:=d.get _ _ f1;obtain⟨p2,J,d1,d2,d3⟩:=GI (M:=M+1) (by omega) [n] [some P] I ps st (.cons (d.node _ _ q) .nil) (d.node _ _ j) (by intro u hu;simp only[jz,qc,Oz] at hu;subst hu;omega) (by omega) (by simp[cX];omega)
  have r:0<=(Tm.mk 6 i s [b,st,n]).fr/\(Tm.mk 6 i s [b,st,n]).fr<=M+1:=by
   rw[Tm.fr,cB (by decide),cB (by decide)];simp only[Tm.E7,qD];omega
  have v:0<=(jl st [n]).fr/\(jl st [n]).fr<=M+1:=by
   simp only[jl];rw[Tm.fr,cB (by decide),cB (by decide)];simp only[Tm.E7,qD];omega
  have aa:(Tm.mk 6 i s [b,st,n]).abf<=10000:=by rw[Tm.cI];simp only[cX];omega
  have ab:(jl st [n]).abf<=10000:=by rw[mw];simp only[cX,jW,tH];omega
  obtain⟨p3,K,g1,g2,g3⟩:=GI (M:=M+1) (by omega) [.mk 6 i s [b,st,n]] [some nh.length] J p2 (jl st [n]) (.cons ((NE.kp d2).node _ _ a3) .nil) d3 (by intro u hu;simp only[jz,qc,Oz] at hu;subst hu;exact r) v (by simp only[cX,jW,tH];omega);refine⟨p3,K,?_,(a2.trans d2).trans g2,?_⟩
  ·rw[g,cB (by decide),cB (by decide),cB (by decide),B];simp only[dk,eD,gu,gz,kf,cz,f1,o];rw[cB (by simp only[et,jW,tH];decide),Jp];unfold eT;simp only[cz,V,g,S,T,a1,cF,fc,o,d1,g1]
  ·have:(Tm.mk 6 i s [b,st,.mk 5 z A [n]]).dN=jl (jl st [n]) [.mk 6 i s [b,st,n]]:=by simp[Tm.dN,jl]
   rw[this];exact g3
 |cons=>
  rename_i i s z A b st h n;simp only[Tm.df,Tm.cZ,Tm.eE,Tm.dI] at g S T w;obtain⟨pb,ps,po,B,D,j,L⟩:=w.EC;obtain⟨y,f1,f2,f3,f4,f5,_⟩:=L.inv;simp only[Tm.df,Tm.cZ] at f2 f5;obtain⟨ph,P,o,ad,q⟩:=f5.inv2;have m:=hs.arg b (by simp);have G:=hs.arg st (by simp);have E:=hs.arg (.mk 8 z A [h,n]) (by simp);have H:=E.arg n (by simp);have ae:=E.arg h (by simp);rw[Tm.cI] at hn;simp only[cX,Tm.cI] at hn;have Q:=hs.idx;have b1:=e b m;have b2:=e st G;have b3:=e n H;have b4:=e h ae
  obtain⟨I,a1,a2,a3⟩:=pH (k:=9) (i:=i) (s:=s) (ps:=[some pb,some ps,some P]) (ts:=[b,st,n]) (nh:=nh) (.cons D (.cons j (.cons q .nil))) (by simp[cX];omega) (by omega) (by
   intro u hu;simp only[jz,qc,Oz] at hu
   rcases hu with rfl|rfl|rfl<;>omega)
  have d:=NE.kp a2;obtain⟨c,fc⟩:=d.get _ _ f1;obtain⟨p2,J,d1,d2,d3⟩:=GI (M:=M+1) (by omega) [h,n] [some ph,some P] I ps st (.cons (d.node _ _ ad) (.cons (d.node _ _ q) .nil)) (d.node _ _ j) (by intro u hu;simp only[jz,qc,Oz] at hu;rcases hu with rfl|rfl<;>omega) (by omega) (by simp[cX];omega)
  have r:0<=(Tm.mk 9 i s [b,st,n]).fr/\(Tm.mk 9 i s [b,st,n]).fr<=M+1:=by
   rw[Tm.fr,cB (by decide),cB (by decide)];simp only[Tm.E7,qD];omega
  have v:0<=(jl st [h,n]).fr/\(jl st [h,n]).fr<=M+1:=by
   simp only[jl];rw[Tm.fr,cB (by decide),cB (by decide)];simp only[Tm.E7];rw[Tm.fr,cB (by decide),cB (by decide)];simp only[Tm.E7,qD];omega
  have aa:(Tm.mk 9 i s [b,st,n]).abf<=10000:=by rw[Tm.cI];simp only[cX];omega
  have ab:(jl st [h,n]).abf<=10000:=by rw[mw];simp only[cX,jW,tH];omega
  obtain⟨p3,K,g1,g2,g3⟩:=GI (M:=M+1) (by omega) [.mk 9 i s [b,st,n]] [some nh.length] J p2 (jl st [h,n]) (.cons ((NE.kp d2).node _ _ a3) .nil) d3 (by intro u hu;simp only[jz,qc,Oz] at hu;subst hu;exact r) v (by simp only[cX,jW,tH];omega);refine⟨p3,K,?_,(a2.trans d2).trans g2,?_⟩
  ·rw[g,cB (by decide),cB (by decide),cB (by decide),B];simp only[dk,eD,gu,gz,kf,cz,f1,o];rw[cB (by simp only[et,jW,tH];decide),Jt];unfold eT;simp only[cz,V,g,S,T,a1,cF,fc,o,d1,g1]
  ·have:(Tm.mk 9 i s [b,st,.mk 8 z A [h,n]]).dN=jl (jl st [h,n]) [.mk 9 i s [b,st,n]]:=by simp[Tm.dN,jl]
   rw[this];exact g3
def BN:∀(n:Nat) (t:Ty),t.abf<=n->t.abf<=1000000000->iX n t=some t:=by
 intro n
 induction n with
 |zero=>intro t h;have:=t.dg;omega
 |succ n a=>
  intro t h b;cases t with
  |mk k l=>
   rw[Ty.cI] at h b;have e:=Ty.dT l;rw[iX];simp only[Ty.cZ,Ty.df,cT,cW (l:=l) (by omega),cL];rw[gZ id l 0 [] (by simp;omega)]
   ·simp
   ·intro j x v c d;have:=da Ty.abf c;rw[a x (by omega) (by omega)];simp[dK (l:=v) (m:=[x]) (by simpa using d)]
def mK{t:Ty}(h:t.abf<=1000000000):iX FU t=some t:=BN FU t (by rw[dP];exact h) h
def Ty.tc{k i:Int}{s:Ty}{n:Nat}(h:Tm.node k i s n=true):s.abf<=64:=by
 unfold Tm.node at h;simp only[eJ] at h;have a:=h.2
 by_cases b:iz k=true
 ·rw[cG b] at a;simp only[kR] at a;unfold Ty.err at a
  split at a
  ·split at a
   ·omega
   ·omega
  ·omega
 ·rw[cB b] at a;rw[(Ty.kv s).1 a,Ty.cI];simp[cX]
def Q9{M:Int}(C:0<=M/\M<=500000000000):∀(n:Nat) (t:Tm) (nh:List HC),t.abf<=n->Sm M t->∃p a,ng n t nh=some (some p,a)/\Kp nh a/\NR a p t:=by
 intro n
 induction n with
 |zero=>intro t nh h;have:=t.dg;omega
 |succ n D=>
  intro t nh h hs;cases t with
  |mk k i s l=>
   have m:=hs.abf;have A:=hs.idx;rw[Tm.cI] at h m;have hlen:=Tm.dT l;rw[ng];simp only[Tm.cZ,Tm.df,Tm.eE,Tm.dI,cT,cW (l:=l) (by omega),cL]
   have loop:∀(ts:List Tm) (i:Nat) (nh:List HC) (v:List (Option Nat)) (us:List Tm),(∀t∈ts,t∈l)->rA nh v us->v.length+ts.length<=1000000->∃e a,dH (λ(B:Int) (f:Tm)=>(p0 λ(b:(List (Option Nat))) (g:List HC)=>
      cN (ng n f g) λc d=>
      fh (eC b [c])<|some ((.next ((fp b [c]),d)):eA ((List (Option Nat))×List HC) ((Option Nat)×List HC)))) ts i (v,nh)=some (.inl (e,a))/\Kp nh a/\rA a e (us++ts):=by
    intro ts
    induction ts with
    |nil=>intro i nh v us _ o _;exact⟨v,nh,rfl,Kp.refl _,by simpa using o⟩|cons t ts q=>
     intro i nh v us hm o E;simp only[jW] at E;have j:=hm t (by simp);have F:=da Tm.abf j;obtain⟨p,r,a1,a2,a3⟩:=D t nh (by omega) (hs.arg t j);obtain⟨e,a,w,x,y⟩:=q (i+1) r (v++[some p]) (us++[t]) (λu hu=>hm u (by simp[hu])) (((NE.kp a2).list o).append (.cons a3 .nil)) (by simp;omega);refine⟨e,a,?_,a2.trans x,by simpa using y⟩;rw[dC];simp only[kC,a1,cF];rw[dK (by simp;omega)];simp only[cL,eW,cz,dL];exact w
   obtain⟨e,a,a1,a2,a3⟩:=loop l 0 nh [] [] (λt h=>h) .nil (by simp;omega);rw[a1];simp only[cz,cQ,kC]
   obtain⟨z,w,x,y⟩:=pH (k:=k) (i:=i) (s:=s) (ps:=e) (ts:=l) (nh:=a) (by simpa using a3) (by omega) (by omega) (by
    intro t G;have:=(hs.arg t G).fr C.1
    omega)
   exact⟨a.length,z,by rw[w];rfl,a2.trans x,y⟩
def Ly{M:Int}(nh:List HC):∀(n:Nat) (t:Tm) (p:Nat),t.abf<=n->Sm M t->NR nh p t->gw n (some p) nh=some t:=by
 intro n
 induction n with
 |zero=>intro t p h;have:=t.dg;omega
 |succ n w=>
  intro t p h hs y;obtain⟨x,z,m,o,q,f,F,G,H⟩:=y.inv;cases t with
  |mk k i s l=>
   simp only[Tm.df,Tm.cZ,Tm.eE,Tm.dI] at m o q f;have g:=hs.abf;rw[Tm.cI] at h g;have hlen:=Tm.dT l;have A:x.abe.length=l.length:=f.len;have c:=hs.ok;rw[Tm.fa,eJ] at c;have B:=Ty.tc c.1;rw[gw];simp only[cz,z,m,o,q,cT,cW (l:=x.abe) (by omega),cL];rw[mK (by omega)];simp only[cz]
   have loop:∀(ts:List Tm) (ps:List (Option Nat)) (i:Nat) (v:List Tm),(∀t∈ts,t∈l)->rA nh ps ts->v.length+ts.length<=1000000->dH (λ(r:Int) (d:Option Nat)=>(λ(a:List Tm)=>
      cA (gw n d nh) λb=>
      fh (eC a [b])<|some ((.next (fp a [b])):eA (List Tm) Tm))) ps i v=some (.inl (v++ts)):=by
    intro ts
    induction ts with
    |nil=>intro ps i v _ h _;cases h;simp
    |cons t ts j=>
     intro ps i v hm h C;simp only[jW] at C;have e:=hm t (by simp);have D:=da Tm.abf e;cases h with
     |cons q1 E=>
      rw[dC,w t _ (by omega) (hs.arg t e) q1];simp only[cz];rw[dK (by simp;omega)];simp only[cL,cz,dL];rw[j _ (i+1) (fp v [t]) (λu hu=>hm u (by simp[hu])) E (by rw[BG];simp;omega)];simp
   rw[loop l x.abe 0 [] (λt h=>h) f (by simp;omega)];simp
mutual
def NR.Xe{nh:List HC}:∀{p:Nat} {t u:Tm},NR nh p t->NR nh p u->t=u
 |_,_,_,.mk (x:=x) a b _ _ _,.mk (x:=y) g1 g2 _ _ _=>by
  rw[a] at g1;obtain rfl:=gk g1;rw[rA.Xe b g2]
def rA.Xe{nh:List HC}:∀{ps:List (Option Nat)} {ts us:List Tm},rA nh ps ts->rA nh ps us->ts=us
 |_,_,_,.nil,.nil=>rfl|_,_,_,.cons a b,.cons g1 g2=>by rw[NR.Xe a g1,rA.Xe b g2]
end
def NE.flag{nh:List HC}{p:Nat}{t:Tm}{x:di}(w:NR nh p t)(r:HC.cM nh p=some x)(g:t.nf=true):NE nh (iF nh p (HC.dn {x with normal:=true})):=by
 have v:=HC.cS r;have j:=(oM.1 v).1
 have e:HC.cM (iF nh p (HC.dn {x with normal:=true})) p=some {x with normal:=true}:=by
  unfold HC.cM iF;simp[j]
 have a:∀q,q≠p->(iF nh p (HC.dn {x with normal:=true}))[q]?=nh[q]?:=by
  intro q c;unfold iF;rw[Hk (λh=>c h.symm)]
 have d:∀q y,HC.cM nh q=some y->∃b,HC.cM (iF nh p (HC.dn {x with normal:=true})) q=some {y with normal:=b}/\(b=true->y.normal=true\/q=p):=by
  intro q y hy
  by_cases c:q=p
  ·subst c;rw[r] at hy;obtain rfl:=gk hy;exact⟨true,e,λ_=>.inr rfl⟩
  ·refine⟨y.normal,?_,λh=>.inl h⟩;have:=a q c;unfold HC.cM at hy|-;rw[this];exact hy
 have key:∀n,(∀q u,u.abf<=n->NR nh q u->NR (iF nh p (HC.dn {x with normal:=true})) q u):=by
  intro n
  induction n with
  |zero=>intro q u h;have:=u.dg;omega
  |succ n z=>
   intro q u hu c;obtain⟨y,A,B,C,D,E,F,G,H⟩:=c.inv;obtain⟨b,f1,f2⟩:=d q y A
   have f:∀(ts:List Tm) (ps:List (Option Nat)),(∀t∈ts,t.abf<=n)->rA nh ps ts->rA (iF nh p (HC.dn {x with normal:=true})) ps ts:=by
    intro ts
    induction ts with
    |nil=>intro ps _ h;cases h;exact .nil
    |cons t ts m=>
     intro ps hm h;cases h with
     |cons g1 g2=>exact .cons (z _ _ (hm t (by simp)) g1) (m _ (λu hu=>hm u (by simp[hu])) g2)
   refine NR.of f1 B C D (f _ _ ?_ E) F G ?_
   ·intro t I;cases u with
    |mk k i s l=>
     rw[Tm.cI] at hu;have:=da Tm.abf I;simp only[Tm.cZ] at this;omega
   ·intro J;rcases f2 J with h|h
    ·exact H h
    ·subst h;rw[<-NR.Xe w c];exact g
 refine⟨λq u h=>key _ q u (hO _) h,?_,λq y h=>?_⟩
 ·intro q st c
  have o:q≠p:=by
   rintro rfl;have:=HC.eV c;rw[v] at this;cases this
  unfold HC.dD at c|-;rw[a q o];exact c
 ·obtain⟨b,K,_⟩:=d q y h;exact⟨b,K⟩
mutual
def Tm.Dk(room:Int):Tm->Option (Option Tm)
 |.mk k i s l=>if(Tm.mk k i s l).root=true then(if((Tm.mk k i s l).dN.abf:Int)-((Tm.mk k i s l).abf:Int)>room then none else some (some (Tm.mk k i s l).dN))
  else match Tm.pU room l with
   |none=>none|some none=>some none|some (some a)=>some (some (.mk k i s a))
def Tm.pU(room:Int):List Tm->Option (Option (List Tm))
 |[]=>some none|t::l=>match t.Dk room with
  |none=>none|some (some a)=>some (some (a::l))|some none=>match Tm.pU room l with
   |none=>none|some none=>some none|some (some b)=>some (some (t::b))
end
def yY:∀(l:List Tm) (f:Tm),f.ok=true->(∀t∈l,t.ok=true)->(jl f l).ok=true
 |[],f,h,_=>h|a::l,f,h,b=>by
  rw[jl];refine yY l _ ?_ λt d=>b t (by simp[d]);rw[Tm.fa];simp only[eJ,jr];refine⟨rfl,?_⟩;intro x c;simp only[jz,qc,Oz] at c;rcases c with rfl|rfl
  ·exact h
  ·exact b _ (by simp)
def yt{M:Int}(b:0<=M):∀(l:List Tm) (f:Tm),f.abj M=true->(∀t∈l,t.abj M=true)->(jl f l).abj M=true
 |[],f,h,_=>h|a::l,f,h,c=>by
  rw[jl];refine yt b l _ ?_ λt e=>c t (by simp[e]);rw[Tm.ec];simp only[eJ,jr,kR];refine⟨b,?_⟩;intro x d;simp only[jz,qc,Oz] at d;rcases d with rfl|rfl
  ·exact h
  ·exact c _ (by simp)
def Tm.sK{k i:Int}{s:Ty}{l m:List Tm}(h:(Tm.mk k i s l).ok=true)(a:m.length=l.length)(hm:∀t∈m,t.ok=true):(Tm.mk k i s m).ok=true:=by
 rw[Tm.fa] at h|-;simp only[eJ,jr] at h|-;rw[a];exact⟨h.1,hm⟩
def Tm.xX{M k i:Int}{s:Ty}{l m:List Tm}(h:(Tm.mk k i s l).abj M=true)(hm:∀t∈m,t.abj M=true):(Tm.mk k i s m).abj M=true:=by
 rw[Tm.ec] at h|-;simp only[eJ,jr,kR] at h|-;exact⟨h.1,hm⟩
def OZ{M:Int}(B:0<=M){t:Tm}(hs:Sm M t)(hn:t.abf<=8192)(z:t.root=true):t.dN.ok=true/\t.dN.abj (M+8192)=true:=by
 have v:=Tm.CM hs.ok z;have up:∀u,Sm M u->u.abj (M+8192)=true:=λu hu=>(hu.mono (by omega)).abj;cases v with
 |app=>
  rename_i i s d f b a;have w:=hs.arg (.mk 2 d f [b]) (by simp);have p:=hs.arg a (by simp);have l:=w.arg b (by simp);rw[Tm.cI] at hn;simp only[cX,Tm.cI] at hn
  have e:(Tm.mk 3 i s [.mk 2 d f [b],a]).dN=Tm.ia 0 b a:=by simp[Tm.dN]
  rw[e];exact⟨Tm.DG a p.ok b 0 (by omega) l.ok,F2 (M:=M) (N:=M) (by omega) a p.abj b 0 (by omega) (by omega) l.abj l.ok⟩
 |proj x=>
  rename_i k i s d f a b;have q:=hs.arg (.mk 10 d f [a,b]) (by simp);rcases x with rfl|rfl
  ·have:=q.arg a (by simp);simpa[Tm.dN] using And.intro this.ok (up _ this)
  ·have:=q.arg b (by simp);simpa[Tm.dN] using And.intro this.ok (up _ this)
 |zero x=>
  rename_i k A i s d f b st
  have m:k≠3/\k≠11/\k≠12:=by omega
  have:(Tm.mk k i s [b,st,.mk A d f []]).dN=b:=by simp[Tm.dN,m.1,m.2.1,m.2.2]
  rw[this];have:=hs.arg b (by simp);exact⟨this.ok,up _ this⟩
 |succ=>
  rename_i i s d f b st n;have r:=hs.arg b (by simp);have g:=hs.arg st (by simp);have j:=(hs.arg (.mk 5 d f [n]) (by simp)).arg n (by simp)
  have e:(Tm.mk 6 i s [b,st,.mk 5 d f [n]]).dN=jl st [n,.mk 6 i s [b,st,n]]:=by simp[Tm.dN,jl]
  rw[e];have o:(Tm.mk 6 i s [b,st,n]).ok=true:=Tm.sK hs.ok rfl (by intro t c;simp only[jz,qc,Oz] at c;rcases c with rfl|rfl|rfl;all_goals first|exact r.ok|exact g.ok|exact j.ok);have hle:(Tm.mk 6 i s [b,st,n]).abj (M+8192)=true:=Tm.xX (hs.mono (by omega)).abj (by intro t c;simp only[jz,qc,Oz] at c;rcases c with rfl|rfl|rfl;all_goals first|exact up _ r|exact up _ g|exact up _ j);refine⟨yY _ _ g.ok ?_,yt (by omega) _ _ (up _ g) ?_⟩<;>
  ·intro t c;simp only[jz,qc,Oz] at c;rcases c with rfl|rfl
   ·first|exact j.ok|exact up _ j
   ·first|exact o|exact hle
 |cons=>
  rename_i i s d f b st h n;have r:=hs.arg b (by simp);have g:=hs.arg st (by simp);have j:=(hs.arg (.mk 8 d f [h,n]) (by simp)).arg n (by simp);have y:=(hs.arg (.mk 8 d f [h,n]) (by simp)).arg h (by simp)
  have e:(Tm.mk 9 i s [b,st,.mk 8 d f [h,n]]).dN=jl st [h,n,.mk 9 i s [b,st,n]]:=by simp[Tm.dN,jl]
  rw[e];have o:(Tm.mk 9 i s [b,st,n]).ok=true:=Tm.sK hs.ok rfl (by intro t c;simp only[jz,qc,Oz] at c;rcases c with rfl|rfl|rfl;all_goals first|exact r.ok|exact g.ok|exact j.ok);have hle:(Tm.mk 9 i s [b,st,n]).abj (M+8192)=true:=Tm.xX (hs.mono (by omega)).abj (by intro t c;simp only[jz,qc,Oz] at c;rcases c with rfl|rfl|rfl;all_goals first|exact up _ r|exact up _ g|exact up _ j);refine⟨yY _ _ g.ok ?_,yt (by omega) _ _ (up _ g) ?_⟩<;>
  ·intro t c;simp only[jz,qc,Oz] at c;rcases c with rfl|rfl|rfl
   ·first|exact y.ok|exact up _ y
   ·first|exact j.ok|exact up _ j
   ·first|exact o|exact hle
def Tm.yc(room k i:Int)(s:Ty)(l:List Tm):(Tm.mk k i s l).Dk room=if(Tm.mk k i s l).root=true then(if((Tm.mk k i s l).dN.abf:Int)-((Tm.mk k i s l).abf:Int)>room then none else some (some (Tm.mk k i s l).dN))
 else match Tm.pU room l with
  |none=>none|some none=>some none|some (some a)=>some (some (.mk k i s a)):=by rw[Tm.Dk]
def Hd{M room:Int}(o:0<=M)(t:Tm):Sm M t->t.abf<=8192->∀e,t.Dk room=some (some e)->e.ok=true/\e.abj (M+8192)=true/\(e.abf:Int)<=t.abf+room:=by
 induction t using Tm.ind with
 |h k i s l p=>
  intro hs hn e h;rw[Tm.yc] at h
  by_cases f:(Tm.mk k i s l).root=true
  ·rw[cG f] at h
   split at h
   ·cases h
   ·obtain rfl:=gk (gk h);obtain⟨q,r⟩:=OZ o hs hn f;exact⟨q,r,by omega⟩
  ·rw[cB f] at h;have up:∀u,Sm M u->u.abj (M+8192)=true:=λu hu=>(hu.mono (by omega)).abj;have g:=hn;rw[Tm.cI] at g
   have w:∀(ts a:List Tm),(∀t∈ts,t∈l)->Tm.pU room ts=some (some a)->a.length=ts.length/\(∀t∈a,t.ok=true/\t.abj (M+8192)=true)/\(cX Tm.abf a:Int)<=cX Tm.abf ts+room:=by
    intro ts
    induction ts with
    |nil=>intro a _ h;rw[Tm.pU] at h;cases h
    |cons t ts j=>
     intro a hm h;rw[Tm.pU] at h;have b:=hm t (by simp);have x:=da Tm.abf b;have c:=hs.arg t b
     split at h
     ·cases h
     ·rename_i u hu;obtain rfl:=gk (gk h);obtain⟨a1,a2,a3⟩:=p t b c (by omega) u hu;refine⟨rfl,?_,by simp only[cX];omega⟩;intro v hv;rcases jz.1 hv with rfl|hv
      ·exact⟨a1,a2⟩
      ·have:=hs.arg v (hm v (by simp[hv]));exact⟨this.ok,up _ this⟩
     ·split at h
      ·cases h
      ·cases h
      ·rename_i m d;obtain rfl:=gk (gk h);obtain⟨a1,a2,a3⟩:=j m (λu hu=>hm u (by simp[hu])) d;refine⟨by simp[a1],?_,by simp only[cX];omega⟩;intro v hv;rcases jz.1 hv with rfl|hv
       ·exact⟨c.ok,up _ c⟩
       ·exact a2 v hv
   split at h
   ·cases h
   ·cases h
   ·rename_i m d;obtain rfl:=gk (gk h);obtain⟨a1,a2,a3⟩:=w l m (λt h=>h) d;refine⟨Tm.sK hs.ok a1 λt n=>(a2 t n).1,Tm.xX (hs.mono (by omega)).abj λt n=>(a2 t n).2,?_⟩;rw[Tm.cI,Tm.cI];omega
def v8(room:Int)(t:Tm):t.nf=true↔t.Dk room=some none:=by
 induction t using Tm.ind with
 |h k i s l f=>
  rw[Tm.IC,Tm.yc]
  have g:∀ts:List Tm,(∀t∈ts,t∈l)->(ts.all Tm.nf=true↔Tm.pU room ts=some none):=by
   intro ts
   induction ts with
   |nil=>intro _;simp[Tm.pU]|cons t ts b=>
    intro hm;have j:=f t (hm t (by simp));have m:=b λu hu=>hm u (by simp[hu]);rw[uw,eJ,j,m,Tm.pU];constructor
    ·rintro⟨c,d⟩;rw[c,d]
    ·intro h
     split at h
     ·cases h
     ·cases h
     ·rename_i c
      split at h
      ·cases h
      ·rename_i d;exact⟨c,d⟩
      ·cases h
  have:=g l λt h=>h
  by_cases a:(Tm.mk k i s l).root=true
  ·rw[cG a,a];simp
   try(split<;>simp)
  ·rw[cB a];simp only[eJ,WY,this];constructor
   ·rintro⟨_,e⟩;rw[e]
   ·intro h;refine⟨by simpa using a,?_⟩
    split at h
    ·cases h
    ·rename_i e;exact e
    ·cases h
def Pp{M:Int}{t:Tm}(hs:Sm M t)(hn:t.abf<=8192)(f:t.root=true):(t.dN.abf:Int)<=1000000000:=by
 have j:=Tm.CM hs.ok f;cases j with
 |app=>
  rename_i i s c d b a;rw[Tm.cI] at hn;simp only[cX,Tm.cI] at hn;have l:=hs.arg (.mk 2 c d [b]) (by simp);have o:=Tm.oW a b 0 (l.arg b (by simp)).ok;have p:=Tm.gH b 0;have hmul:b.abl 0*a.abf<=8192*8192:=W9 (by omega) (by omega)
  have e:(Tm.mk 3 i s [.mk 2 c d [b],a]).dN=Tm.ia 0 b a:=by simp[Tm.dN]
  rw[e];omega
 |proj m=>
  rw[Tm.cI] at hn;simp only[cX,Tm.cI] at hn;rcases m with rfl|rfl<;>(simp[Tm.dN];omega)
 |zero m=>
  rename_i k q i s c d b st
  have g:k≠3/\k≠11/\k≠12:=by omega
  have:(Tm.mk k i s [b,st,.mk q c d []]).dN=b:=by simp[Tm.dN,g.1,g.2.1,g.2.2]
  rw[this];rw[Tm.cI] at hn;simp only[cX,Tm.cI] at hn;omega
 |succ=>
  rename_i i s c d b st n
  have e:(Tm.mk 6 i s [b,st,.mk 5 c d [n]]).dN=jl st [n,.mk 6 i s [b,st,n]]:=by simp[Tm.dN,jl]
  rw[e,mw];rw[Tm.cI] at hn;simp only[cX,Tm.cI,jW,tH] at hn|-;omega
 |cons=>
  rename_i i s c d b st h n
  have e:(Tm.mk 9 i s [b,st,.mk 8 c d [h,n]]).dN=jl st [h,n,.mk 9 i s [b,st,n]]:=by simp[Tm.dN,jl]
  rw[e,mw];rw[Tm.cI] at hn;simp only[cX,Tm.cI,jW,tH] at hn|-;omega
def Pu{M:Int}(P:0<=M/\M<=90000000000){nh:List HC}{p:Nat}{t:Tm}(L:NR nh p t)(hs:Sm M t)(hn:t.abf<=8192)(d:t.root=true):mR (some p) nh=some (t.dN.abf:Int):=by
 have Q:=A9 P L hs hn d;have D:=Tm.CM hs.ok d;obtain⟨x,R,f,e3,e4,l,e6,e7,e8⟩:=L.inv;unfold mR ku;simp only[cz,R];cases D with
 |app=>
  rename_i i s m o b a;simp only[Tm.df,Tm.cZ] at f l;obtain⟨pf,pa,r,S,T⟩:=l.inv2;obtain⟨y,f1,f2,f3,f4,f5,_⟩:=S.inv;simp only[Tm.df,Tm.cZ] at f2 f5;obtain⟨pb,E,v⟩:=f5.inv1;have F:=hs.arg (.mk 2 m o [b]) (by simp);have U:=hs.arg a (by simp);have B:=F.arg b (by simp);rw[Tm.cI] at hn;simp only[cX,Tm.cI] at hn;obtain⟨z,g1,_,_,_,_,g6,_⟩:=v.inv;obtain⟨u,g,_,_,_,_,j,_⟩:=T.inv;rw[f,cG (by decide),r];simp only[dk,eD,gz,kf,cz,f1,E,g1];rw[count_eq (M:=M) (by omega) nh FU b pb 0 (by rw[dP];omega) v B (by omega) (by omega)];simp only[cz,g,cF,g6,j];have V:=Tm.gH b 0;have hmul:b.abl 0*a.abf<=8192*8192:=W9 (by omega) (by omega);have W:=Tm.oW a b 0 B.ok;have X:=a.dg
  have e:(Tm.mk 3 i s [.mk 2 m o [b],a]).dN=Tm.ia 0 b a:=by simp[Tm.dN]
  rw[e]
  have hint:(b.abl 0:Int)*((a.abf:Int)-1)=((b.abl 0*a.abf:Nat):Int)-(b.abl 0:Int):=by rw[QH,EH];simp
  rw[dW (by omega) (by omega),wM (by rw[hint];omega) (by rw[hint];omega),hint,dJ (by omega) (by omega)]
  congr 1
  omega
 |proj N=>
  rename_i k i s m o a b;obtain⟨p',Y,g1,g2,g3⟩:=Q;simp only[Tm.df,Tm.cZ] at f l;obtain⟨z,g,_,_,_,_,j,_⟩:=g3.inv
  have c:k≠3/\k≠6/\k≠9:=by omega
  rw[f,cB (by simpa using c.1),cB (by simpa using c.2.1),cB (by simpa using c.2.2),g1];simp only[cF,cz,g,j]
 |zero N=>
  rename_i k Z i s m o b st;simp only[Tm.df,Tm.cZ] at f l;obtain⟨pb,ps,O,r,v,q,C⟩:=l.EC;obtain⟨y,f1,f2,f3,f4,f5,_⟩:=C.inv;obtain⟨z,g,_,_,_,_,j,_⟩:=v.inv;simp only[Tm.df,Tm.cZ] at f2 f5
  have c:k≠3/\k≠11/\k≠12:=by omega
  have:(Tm.mk k i s [b,st,.mk Z m o []]).dN=b:=by simp[Tm.dN,c.1,c.2.1,c.2.2]
  rw[this];rcases N with⟨rfl,rfl⟩|⟨rfl,rfl⟩
  ·rw[f,cB (by decide),cG (by decide),r];simp only[dk,eD,gu,gz,kf,cz,f1,f2,g,j];rw[cB (by decide)];rfl
  ·rw[f,cB (by decide),cB (by decide),cG (by decide),r];simp only[dk,eD,gu,gz,kf,cz,f1,f2,g,j];rw[cB (by decide)];rfl
 |succ=>
  rename_i i s m o b st n;simp only[Tm.df,Tm.cZ] at f l;obtain⟨pb,ps,O,r,v,q,C⟩:=l.EC;obtain⟨y,f1,f2,f3,f4,f5,_⟩:=C.inv;simp only[Tm.df,Tm.cZ] at f2 f5;obtain⟨pn,w,A⟩:=f5.inv1;obtain⟨z1,g,_,_,_,_,j,_⟩:=v.inv;obtain⟨z2,G,_,_,_,_,H,_⟩:=q.inv;obtain⟨z3,I,_,_,_,_,J,_⟩:=A.inv;rw[Tm.cI] at hn;simp only[cX,Tm.cI] at hn
  have e:(Tm.mk 6 i s [b,st,.mk 5 m o [n]]).dN=jl st [n,.mk 6 i s [b,st,n]]:=by simp[Tm.dN,jl]
  rw[e,mw];simp only[cX,Tm.cI,jW,tH];rw[f,cB (by decide),cG (by decide),r];simp only[dk,eD,gu,gz,kf,cz,f1,f2,w,g,G,I,j,H,J];rw[cG (by decide)];simp only[cF];rw[wM (a:=2) (by omega) (by omega),dJ (a:=2) (by omega) (by omega),dJ (b:=2*(n.abf:Int)) (by omega) (by omega),dJ (b:=1) (by omega) (by omega),dJ (b:=(b.abf:Int)) (by omega) (by omega),dJ (by omega) (by omega)]
  congr 1
  omega
 |cons=>
  rename_i i s m o b st h n;simp only[Tm.df,Tm.cZ] at f l;obtain⟨pb,ps,O,r,v,q,C⟩:=l.EC;obtain⟨y,f1,f2,f3,f4,f5,_⟩:=C.inv;simp only[Tm.df,Tm.cZ] at f2 f5;obtain⟨ph,pn,w,K,A⟩:=f5.inv2;obtain⟨z1,g,_,_,_,_,j,_⟩:=v.inv;obtain⟨z2,G,_,_,_,_,H,_⟩:=q.inv;obtain⟨z3,I,_,_,_,_,J,_⟩:=A.inv;obtain⟨z4,q1,_,_,_,_,q6,_⟩:=K.inv;rw[Tm.cI] at hn;simp only[cX,Tm.cI] at hn
  have e:(Tm.mk 9 i s [b,st,.mk 8 m o [h,n]]).dN=jl st [h,n,.mk 9 i s [b,st,n]]:=by simp[Tm.dN,jl]
  rw[e,mw];simp only[cX,Tm.cI,jW,tH];rw[f,cB (by decide),cB (by decide),cG (by decide),r];simp only[dk,eD,gu,gz,kf,cz,f1,f2,w,g,G,I,q1,j,H,J,q6];rw[cG (by decide)];simp only[cF];rw[wM (a:=2) (by omega) (by omega),dJ (a:=3) (by omega) (by omega),dJ (b:=(h.abf:Int)) (by omega) (by omega),dJ (b:=2*(n.abf:Int)) (by omega) (by omega),dJ (b:=1) (by omega) (by omega),dJ (b:=(b.abf:Int)) (by omega) (by omega),dJ (by omega) (by omega)]
  congr 1
  omega
def CN{α:Type}(a:List α)(x y:α)(b:List α):(a++x::b).set a.length y=a++y::b:=by simp
def zR(room:Int)(p:Nat)(t:Tm)(nh:List HC)(o:Option ((Option Nat)×Int×List HC)):Prop:=
 match t.Dk room with
 |none=>∃a,o=some (none,4,a)/\NE nh a|some none=>∃a,o=some (none,0,a)/\NE nh a|some (some c)=>∃b a,o=some (some b,0,a)/\NE nh a/\NR a b c
def P2{M room:Int}(hM:0<=M/\M<=80000000000)(X:-100000<=room/\room<=100000):∀(n:Nat) (t:Tm) (p:Nat) (nh:List HC),t.abf<=n->NR nh p t->Sm M t->t.abf<=8192->zR room p t nh (hD n (some p) room nh):=by
 intro n
 induction n with
 |zero=>intro t p nh h;have:=t.dg;omega
 |succ n ih=>
  intro t p nh hn P hs H;obtain⟨x,Y,e2,e3,e4,Z,e6,e7,e8⟩:=P.inv;rw[hD];simp only[cz,Y]
  by_cases K:x.normal=true
  ·rw[cG K];unfold zR;rw[(v8 room t).1 (e8 K)];exact⟨nh,rfl,NE.refl _⟩
  ·rw[cB K,I6 P hs.ok];simp only[cz];cases t with
   |mk k i s l=>
    by_cases f:(Tm.mk k i s l).root=true
    ·rw[cG f,Pu (by omega) P hs H f];simp only[cz,eO,e6];obtain⟨N,c,g1,g2,g3⟩:=A9 (M:=M) (by omega) P hs H f;have ah:=Pp hs H f;rw[dW (by omega) (by omega)];unfold zR;rw[Tm.yc,cG f]
     by_cases C:((Tm.mk k i s l).dN.abf:Int)-((Tm.mk k i s l).abf:Int)>room
     ·rw[cG C,cG C];exact⟨nh,rfl,NE.refl _⟩
     ·rw[cB C,cB C,g1];exact⟨N,c,rfl,NE.kp g2,g3⟩
    ·rw[cB f];simp only[Tm.df,Tm.cZ,Tm.eE,Tm.dI] at e2 e3 e4 Z;have F:=H;rw[Tm.cI] at hn F;have hlen:=Tm.dT l;have Q:x.abe.length=l.length:=Z.len;rw[cW (by omega)];simp only[cL,cT];have af:=hs.idx;have R:∀u:Tm,Sm M u->0<=u.fr/\u.fr<=M+1:=λu hu=>hu.fr hM.1
     have loop:∀(ts pre:List Tm) (ps I:List (Option Nat)) (j:Nat) (A:List HC),l=pre++ts->x.abe=I++ps->I.length=j->NE nh A->rA A ps ts->rA A I pre->match Tm.pU room ts with
       |none=>∃c,dH (λ(v:Int) (B:Option Nat)=>(λ(w:List HC)=>
         gd (hD n B room w) λg m a=>
         if(dr m 0)=true then(some (.ret (none,m,a)))
         else(if(Option.isSome g)=true then(
         cA (HC.cM a p) λd=>
         fh (vA d.abe)<|cA (c_ d.abe v) λG=>
         cN (eT (some p) (yH d.abe v g) a) λy r=>
         some (.ret (y,0,r)))
         else(some ((.next a):eA (List HC) ((Option Nat)×Int×List HC)))))) ps j A=some (.inr (none,4,c))/\NE nh c
       |some none=>∃c,dH (λ(v:Int) (B:Option Nat)=>(λ(w:List HC)=>
         gd (hD n B room w) λg m a=>
         if(dr m 0)=true then(some (.ret (none,m,a)))
         else(if(Option.isSome g)=true then(
         cA (HC.cM a p) λd=>
         fh (vA d.abe)<|cA (c_ d.abe v) λG=>
         cN (eT (some p) (yH d.abe v g) a) λy r=>
         some (.ret (y,0,r)))
         else(some ((.next a):eA (List HC) ((Option Nat)×Int×List HC)))))) ps j A=some (.inl c)/\NE nh c
       |some (some S)=>∃N c,dH (λ(v:Int) (B:Option Nat)=>(λ(w:List HC)=>
         gd (hD n B room w) λg m a=>
         if(dr m 0)=true then(some (.ret (none,m,a)))
         else(if(Option.isSome g)=true then(
         cA (HC.cM a p) λd=>
         fh (vA d.abe)<|cA (c_ d.abe v) λG=>
         cN (eT (some p) (yH d.abe v g) a) λy r=>
         some (.ret (y,0,r)))
         else(some ((.next a):eA (List HC) ((Option Nat)×Int×List HC)))))) ps j A=some (.inr (some N,0,c))/\NE nh c/\NR c N (.mk k i s (pre++S)):=by
      intro ts
      induction ts with
      |nil=>
       intro pre ps I j A _ _ _ D hp _;cases hp;rw[Tm.pU];exact⟨A,rfl,D⟩
      |cons t ts aa=>
       intro pre ps I j A O hx hq D hp J;cases hp with
       |cons q1 q2=>
        rename_i q ps
        have T:t∈l:=by rw[O];simp
        have ai:=da Tm.abf T;have U:=hs.arg t T;have z:=ih t q A (by omega) q1 U (by omega);unfold zR at z;rw[Tm.pU];rw[dC]
        split at z
        ·rename_i E;obtain⟨c,a1,a2⟩:=z;rw[E,a1];exact⟨c,rfl,D.trans a2⟩
        ·rename_i E;obtain⟨c,a1,a2⟩:=z;rw[E,a1];have:=aa (pre++[t]) ps (I++[some q]) (j+1) c (by simp[O]) (by simp[hx]) (by simp[hq]) (D.trans a2) (a2.list q2) ((a2.list J).append (.cons (a2.node _ _ q1) .nil))
         revert this
         cases Tm.pU room ts with
         |none=>exactλh=>h|some o=>
          cases o with
          |none=>exactλh=>h|some S=>simp only[so,RS,mI];exactλh=>h
        ·rename_i t' E;obtain⟨W,c,a1,a2,a3⟩:=z;rw[E,a1];simp only[mz];rw[cB (by decide),cG (show(some W).isSome=true from rfl)];obtain⟨b,V⟩:=(D.trans a2).get p x Y;rw[V];simp only[cz];obtain⟨s1,s2,s3⟩:=Hd hM.1 t U (by omega) t' E;rw[show vA x.abe=true from sw ⟨by rw[Q,O];simp;omega,by rw[Q];unfold MG;omega⟩]
         have ab:c_ x.abe (j:Int)=some (some q):=by rw[hB,hx,<-hq];simp
         have ad:yH x.abe (j:Int) (some W)=I++some W::ps:=by
          unfold yH;rw[hx,<-hq];simp
         simp only[cL,ab,cz,ad];unfold eT;simp only[cz,V]
         obtain⟨ae,b1,b2,b3⟩:=pH (k:=k) (i:=i) (s:=s) (ps:=I++some W::ps) (ts:=pre++t'::ts) (nh:=c) ((a2.list J).append (.cons a3 (a2.list q2))) (by
          rw[O,Bf] at F;rw[Bf];simp only[cX] at F|-
          omega) (by omega) (by
          intro u hu;rcases qW.1 hu with hu|hu
          ·have:=R u (hs.arg u (by rw[O];simp[hu]));omega
          ·rcases jz.1 hu with rfl|hu
           ·have:=Tm.OW u (M:=M+8192) (by omega) s1 s2;omega
           ·have:=R u (hs.arg u (by rw[O];simp[hu]));omega)
         rw[e2,e3,e4,b1];exact⟨c.length,ae,rfl,(D.trans a2).trans (NE.kp b2),b3⟩
     have:=loop l [] x.abe [] 0 nh rfl rfl rfl (NE.refl _) Z .nil;unfold zR;rw[Tm.yc,cB f]
     have L:Tm.pU room l=some none->(Tm.mk k i s l).nf=true:=by
      intro h;rw[v8 room,Tm.yc,cB f,h]
     revert this L
     cases Tm.pU room l with
     |none=>
      rintro⟨c,a1,a2⟩ _;have e:((0:Nat):Int)=0:=rfl;rw[a1];exact⟨c,rfl,a2⟩
     |some o=>
      cases o with
      |none=>
       rintro⟨c,a1,a2⟩ L;rw[a1];simp only[cz,cQ];obtain⟨b,V⟩:=a2.get p x Y;rw[V];simp only[cz];exact⟨_,rfl,a2.trans (NE.flag (x:={x with normal:=b}) (a2.node _ _ P) V (L rfl))⟩
      |some l'=>
       rintro⟨N,c,a1,a2,a3⟩ _;rw[a1];exact⟨N,c,rfl,a2,a3⟩
def MM{M:Int}(L:0<=M/\M<=80000000000):∀(n:Nat) (t:Tm) (p:Nat) (nh:List HC),t.abf<=n->NR nh p t->Sm M t->t.abf<=8192->∃d,gR n (some p) nh=some (t.nf,d)/\NE nh d:=by
 intro n
 induction n with
 |zero=>intro t p nh h;have:=t.dg;omega
 |succ n G=>
  intro t p nh hn z hs A;obtain⟨x,D,N,O,P,B,Q,R,H⟩:=z.inv;rw[gR];simp only[cz,D]
  by_cases o:x.normal=true
  ·rw[cG o,H o];exact⟨nh,rfl,NE.refl _⟩
  ·rw[cB o,I6 z hs.ok];simp only[cz];cases t with
   |mk k i s l=>
    by_cases a:(Tm.mk k i s l).root=true
    ·rw[cG a,Tm.IC,a];exact⟨nh,rfl,NE.refl _⟩
    ·rw[cB a];simp only[Tm.cZ] at B;rw[Tm.cI] at hn A;have hlen:=Tm.dT l;have I:x.abe.length=l.length:=B.len;rw[cW (by omega)];simp only[cL,cT]
     have loop:∀(ts:List Tm) (ps:List (Option Nat)) (j:Nat) (e:List HC),(∀t∈ts,t∈l)->NE nh e->rA e ps ts->∃d,dH (λ(E:Int) (q:Option Nat)=>(λ(r:List HC)=>
        cN (gR n q r) λv g=>
        if v=true then(some (.next g))else(some ((.ret (false,g)):eA (List HC) (Bool×List HC))))) ps j e=some (if ts.all Tm.nf=true then .inl d else .inr (false,d))/\NE nh d:=by
      intro ts
      induction ts with
      |nil=>intro ps j e _ m h;cases h;exact⟨e,rfl,m⟩
      |cons t ts C=>
       intro ps j e hm m h;cases h with
       |cons q1 J=>
        have w:=hm t (by simp);have K:=da Tm.abf w;obtain⟨y,a1,a2⟩:=G t _ e (by omega) q1 (hs.arg t w) (by omega);rw[dC,a1];simp only[cF]
        by_cases c:t.nf=true
        ·rw[cG c];simp only[cz,dL,uw,c,xe];exact C _ (j+1) y (λu hu=>hm u (by simp[hu])) (m.trans a2) (a2.list J)
        ·rw[cB c];simp only[cz,yZ,uw,c,Qd];exact⟨y,rfl,m.trans a2⟩
     obtain⟨d,a1,a2⟩:=loop l x.abe 0 nh (λt h=>h) (NE.refl _) B;rw[a1]
     by_cases f:l.all Tm.nf=true
     ·rw[cG f];simp only[cz,cQ];obtain⟨b,F⟩:=a2.get p x D;rw[F]
      have c:(Tm.mk k i s l).nf=true:=by
       rw[Tm.IC,f];simpa using a
      rw[c];exact⟨_,rfl,a2.trans (NE.flag (x:={x with normal:=b}) (a2.node _ _ z) F c)⟩
     ·rw[cB f]
      have c:(Tm.mk k i s l).nf=false:=by
       rw[Tm.IC];simp[f]
      rw[c];exact⟨d,rfl,a2⟩
def pA{t:Tm}(h:t.wt<=1000000000):ja t=some (if t.err=0 then(t.abf:Int)else 0,t.err):=by
 unfold ja Tm.err;rw[sF FU t (by rw[dP];exact h) h]
 by_cases a:t.ok=true
 ·simp only[a,if_true,cF,eO]
  by_cases b:4096<t.abf
  ·rw[cG b,cG (by omega)];rfl
  ·rw[cB b,cB (by omega)];rfl
 ·simp only[a,cF];rfl
def m0{t:Tm}(h:t.wt<=1000000000):nt t=some t.err:=by
 unfold nt;rw[pA h];rfl
def Tm.fj{t:Tm}(h:t.err=0):t.ok=true/\t.abf<=4096:=by
 unfold Tm.err at h
 split at h
 ·rename_i a
  split at h
  ·omega
  ·exact⟨a,by omega⟩
 ·omega
def Md:∀(n:Nat) (t:Tm) (b:Int) (s:Bool),t.abf<=n->t.ok=true->t.abf<=1000000->0<=b->b+t.abf<=100000000->hU n t b (λ(s:Bool) (f:Int) (g:Int)=>oU f g s) s=some (s&&t.abj 536870912):=by
 intro n
 induction n with
 |zero=>intro t b s h;have:=t.dg;omega
 |succ n v=>
  intro t b s h w hn D m;cases t with
  |mk k i ty l=>
   obtain⟨o1,o2,x,y,E⟩:=Tm.jQ w;rw[Tm.cI] at h hn m;have hlen:=Tm.dT l;rw[hU];simp only[Tm.cZ,Tm.df,Tm.eE,cT,eH];rw[Tm.ec]
   by_cases e:k=1
   ·have z:=o1 e;subst z;rw[cG e];unfold oU;cases s with
    |true=>simp[Gd];rfl|false=>simp;rfl
   ·rw[cB e];have hi:=x e;subst hi
    have o:ew (de k 2) (dB .i64 b 1) b=b+d_ k:=by
     unfold d_
     by_cases p:k=2
     ·subst p;rw[cG rfl];exact dJ (by omega) (by omega)
     ·rw[cB p]
      have:de k 2=false:=by simp[de,p]
      rw[this];simp
    have A:=fV k;rw[cW (l:=l) (by omega)];simp only[cL,o]
    have loop:∀(ts:List Tm) (j:Nat) (s:Bool),(∀t∈ts,t∈l)->dH (λ(B:Int) (q:Tm)=>(λ(a:Bool)=>
      cA (hU n q (b+d_ k) (λ(s:Bool) (f:Int) (g:Int)=>oU f g s) a) λc=>
      some ((.next c):eA Bool Bool))) ts j s=some (.inl (s&&ts.all (Tm.abj 536870912))):=by
     intro ts
     induction ts with
     |nil=>intro j s _;simp|cons t ts r=>
      intro j s hm;have d:=hm t (by simp);have C:=da Tm.abf d;rw[dC,v t _ _ (by omega) (y t d) (by omega) (by omega) (by omega)];simp only[cz,dL];rw[r (j+1) _ λu hu=>hm u (by simp[hu])];simp[Bool.and_assoc]
    rw[loop l 0 s λt h=>h];simp
def GF{t:Tm}(a:t.ok=true)(hn:t.abf<=1000000):tM t=some (t.abj 536870912):=by
 unfold tM pj;rw[Md FU t 0 true (by rw[dP];omega) a hn (by omega) (by omega)];simp
def Tm.z:Tm:=.mk 0 0 (.mk 0 []) []
def NR.Rn{nh:List HC}{c:Nat}{st a:eb}(h:HC.dD nh c=some st):∀n,(∀p t,t.abf<=n->NR nh p t->NR (iF nh c (HC.en a)) p t):=by
 have j:=HC.eV h
 have d:∀q y,HC.cM nh q=some y->HC.cM (iF nh c (HC.en a)) q=some y:=by
  intro q y hy;have e:=HC.cS hy
  have f:c≠q:=by
   rintro rfl;rw[j] at e;cases e
  unfold HC.cM iF;rw[Hk f,e]
 intro n
 induction n with
 |zero=>intro p t h;have:=t.dg;omega
 |succ n m=>
  intro p t o r;obtain⟨y,v,w,x,z,A,B,C,D⟩:=r.inv
  have b:∀(ts:List Tm) (ps:List (Option Nat)),(∀t∈ts,t.abf<=n)->rA nh ps ts->rA (iF nh c (HC.en a)) ps ts:=by
   intro ts
   induction ts with
   |nil=>intro ps _ h;cases h;exact .nil
   |cons t ts g=>
    intro ps hm h;cases h with
    |cons g1 g2=>exact .cons (m _ _ (hm t (by simp)) g1) (g _ (λu hu=>hm u (by simp[hu])) g2)
  refine NR.of (d _ _ v) w x z (b _ _ ?_ A) B C D;intro u hu;cases t with
  |mk k i s l=>
   rw[Tm.cI] at o;have:=da Tm.abf hu;simp only[Tm.cZ] at this;omega
def AN{nh:List HC}{b:Nat}{st a:eb}(h:HC.dD nh b=some st):HC.dD (iF nh b (HC.en a)) b=some a:=by
 have d:=HC.eV h;have c:=(oM.1 d).1;unfold HC.dD iF;simp[c]
structure At (nh:List HC) (s0:Nat) (t:Tm) (m:Int):Prop where
 st:∃p,HC.dD nh s0=some ⟨some p,m⟩/\NR nh p t
def Qk{M:Int}(i:0<=M/\M<=80000000000){nh:List HC}{d:Nat}{t:Tm}{m:Int}(h:At nh d t m)(hs:Sm M t)(hn:t.abf<=4096)(hm:0<=m/\m<=1000000):match t.Dk (4096-t.abf)with
  |none=>∃a,h6 (some d) nh=some (false,4,a)|some none=>∃a,h6 (some d) nh=some (false,0,a)/\At a d t m|some (some g)=>∃a,h6 (some d) nh=some (true,0,a)/\At a d g (m+1):=by
 obtain⟨p,e,f⟩:=h.st;obtain⟨x,j,_,_,_,_,k,_⟩:=f.inv;have n:=t.dg;have b:=P2 (M:=M) (room:=4096-t.abf) i (by omega) FU t p nh (by rw[dP];omega) f hs (by omega);unfold h6 oH;simp only[cz,e,j,k];rw[dW (by omega) (by omega)];unfold zR at b
 split at b
 ·rename_i c;obtain⟨a,a1,a2⟩:=b
  try rw[c]
  rw[a1];exact⟨a,rfl⟩
 ·rename_i c;obtain⟨a,a1,a2⟩:=b
  try rw[c]
  rw[a1];exact⟨a,rfl,⟨p,a2.state _ _ e,a2.node _ _ f⟩⟩
 ·rename_i g c;obtain⟨l,a,a1,a2,a3⟩:=b
  try rw[c]
  rw[a1];have g1:=a2.state _ _ e;simp only[mz];rw[cB (by simp[dr])];simp only[g1,cz];rw[dJ (by omega) (by omega)];refine⟨_,rfl,⟨l,AN (AN g1),?_⟩⟩;exact NR.Rn (AN g1) _ _ _ (hO _) (NR.Rn g1 _ _ _ (hO _) a3)
def Tm.norm:Nat->Int->Tm->Tm×Int×Int
 |0,m,t=>if t.nf=true then(t,m,0)else(Tm.z,0,5)|k+1,m,t=>match t.Dk (4096-t.abf)with
  |none=>(Tm.z,0,4)|some none=>(t,m,0)|some (some a)=>Tm.norm k (m+1) a
def Ii{k:Nat}{m:Int}{t:Tm}(h:t.Dk (4096-t.abf)=none):t.norm (k+1) m=(Tm.z,0,4):=by rw[Tm.norm,h]
def wT{k:Nat}{m:Int}{t:Tm}(h:t.Dk (4096-t.abf)=some none):t.norm (k+1) m=(t,m,0):=by rw[Tm.norm,h]
def wS{k:Nat}{m:Int}{t a:Tm}(h:t.Dk (4096-t.abf)=some (some a)):t.norm (k+1) m=a.norm k (m+1):=by rw[Tm.norm,h]
def Dr{σ ρ:Type}{F:σ->Option (eA σ ρ)}:∀{n m:Nat} {s:σ} {o:σ⊕ρ},n<=m->lu F n s=some o->lu F m s=some o
 |0,_,_,_,_,h=>by cases h
 |n+1,0,_,_,hm,_=>by omega|n+1,m+1,s,o,hm,h=>by
  rw[lE] at h|-;obtain⟨c,b,a⟩:=dj h;rw[b];simp only[cz];cases c with
  |next d=>exact Dr (by omega) a|zO d=>exact a|ret r=>exact a
def IF(n:Nat)(steps:Int)(I:0<=steps/\steps<=65536):∀(k:Nat) (m:Int) (t:Tm) (nh:List HC),(k:Int)=steps-m->0<=m->At nh n t m->Sm (536870912+8192*m) t->t.abf<=4096->∃o,lu (λ(a:List HC)=>
   cA (HC.dD a n) λq=>
   if(rv q.steps steps)=true then(
   gd (h6 (some n) a) λs i c=>
   if(dr i 0)=true then(some (.ret ((Tm.mk 0 0 (Ty.mk 0 []) []),0,i)))
   else(if s=true then(some (.next c))
   else(cA (HC.dD c n) λj=>
   cA (gw FU j.term c) λu=>
   some (.ret (u,j.steps,0)))))
   else(some ((.zO a):eA (List HC) (Tm×Int×Int)))) (k+1) nh=some o/\ez (λ(a:List HC)=>
    cA (HC.dD a n) λv=>
    cN (gR FU v.term a) λw f=>
    if w=true then(
    cA (HC.dD f n) λl=>
    cA (gw FU l.term f) λx=>
    some (x,l.steps,0))
    else(some ((Tm.mk 0 0 (Ty.mk 0 []) []),0,5))) (λr=>some r) o=some (t.norm k m):=by
 intro k
 induction k with
 |zero=>
  intro m t nh B hm g hs hn;obtain⟨p,y,z⟩:=g.st;refine⟨.inl nh,?_,?_⟩
  ·rw[lE];simp only[y,cz];rw[cB (by rw[lL];omega)];rfl
  ·rw[cQ];simp only[y,cz];obtain⟨d,a1,a2⟩:=MM (M:=536870912+8192*m) (by omega) FU t p nh (by rw[dP];omega) z hs (by omega);rw[a1];simp only[cF,Tm.norm]
   by_cases h:t.nf=true
   ·rw[cG h,cG h];simp only[a2.state _ _ y,cz];rw[Ly (M:=536870912+8192*m) d FU t p (by rw[dP];omega) hs (a2.node _ _ z)];rfl
   ·rw[cB h,cB h];rfl
 |succ k C=>
  intro m t nh B hm g hs hn;obtain⟨p,y,z⟩:=g.st;have b:=Qk (M:=536870912+8192*m) (by omega) g hs hn (by omega);rw[lE];simp only[y,cz];rw[cG (by rw[lL];omega)]
  split at b
  ·rename_i e;obtain⟨d,a1⟩:=b;rw[Ii e,a1];exact⟨_,rfl,rfl⟩
  ·rename_i e;obtain⟨d,a1,a2⟩:=b;obtain⟨D,E,F⟩:=a2.st;rw[wT e,a1];simp only[mz];rw[cB (by decide),cB (by decide)];simp only[E,cz];rw[Ly (M:=536870912+8192*m) d FU t D (by rw[dP];omega) hs F];exact⟨_,rfl,rfl⟩
  ·rename_i A e;obtain⟨d,a1,a2⟩:=b;rw[wS e,a1];simp only[mz];rw[cB (by decide)];simp only[if_true,cz,dL];obtain⟨G,H,c3⟩:=Hd (M:=536870912+8192*m) (by omega) t hs (by omega) A e;exact C (m+1) A d (by omega) (by omega) a2 ⟨G,by rw[show 536870912+8192*(m+1)=536870912+8192*m+8192 by omega];exact H,by omega⟩ (by omega)
def Sm.start{t:Tm}(h:t.err=0)(a:t.abj 536870912=true):Sm 536870912 t:=⟨(Tm.fj h).1,a,by have:=(Tm.fj h).2;omega⟩
def uu{t:Tm}(hw:t.wt<=1000000000)(steps:Int):iU t steps=some (if t.err=0 then(if 0<=steps/\steps<=65536/\t.abj 536870912=true then t.norm steps.toNat 0 else(Tm.z,0,1))else(Tm.z,0,t.err)):=by
 unfold iU;rw[m0 hw];simp only[cz]
 by_cases he:t.err=0
 ·rw[cB (by simp[he]),cG he];obtain⟨g,hn⟩:=Tm.fj he;simp only[cT]
  by_cases e:steps<0
  ·rw[cG ((lL _ _).2 e),cG trivial,cB (λh=>absurd h.1 (by omega))];rfl
  ·rw[cB (by rw[lL];exact e)]
   by_cases f:65536<steps
   ·rw[cG ((eO _ _).2 f),cG trivial,cB (λh=>absurd h.2.1 (by omega))];rfl
   ·rw[cB (by rw[eO];exact f),GF g (by omega)];simp only[cz]
    by_cases a:t.abj 536870912=true
    ·have c:k4 (t.abj 536870912)=false:=by rw[a];rfl
     rw[cB (by rw[c];decide),cG ⟨by omega,by omega,a⟩];have b:=Sm.start he a;obtain⟨p,nh,a1,a2,a3⟩:=Q9 (M:=536870912) (by omega) FU t [] (by rw[dP];omega) b;rw[a1];simp only[cF];have d:At (nh++[HC.en (eb.mk (some p) 0)]) nh.length t 0:=⟨p,by unfold HC.dD;simp,a3.app⟩;obtain⟨o,i,j⟩:=IF nh.length steps (by omega) steps.toNat 0 t _ (by omega) (by omega) d (by simpa using b) hn;have k:=Dr (m:=FU) (by rw[dP];omega) i;rw[k];exact j
    ·have c:k4 (t.abj 536870912)=true:=by simp[a]
     rw[cG c,cB (λh=>a h.2.2)];rfl
 ·rw[cG (by simp[he]),cB he];rfl
mutual
def Fm.abf:Fm->Nat
 |.mk _ _ ts l=>1+cX Tm.abf ts+Fm.lP l
def Fm.lP:List Fm->Nat
 |[]=>0|t::l=>t.abf+Fm.lP l
end
def Fm.o0(l:List Fm):Fm.lP l=cX Fm.abf l:=by
 induction l with
 |nil=>rfl|cons t l a=>simp[Fm.lP,cX,a]
def Fm.cI(k:Int)(s:Ty)(ts:List Tm)(l:List Fm):(Fm.mk k s ts l).abf=1+cX Tm.abf ts+cX Fm.abf l:=by rw[Fm.abf,Fm.o0]
def Fm.dg(t:Fm):1<=t.abf:=by cases t;rw[Fm.abf];omega
def Fm.dT(l:List Fm):l.length<=cX Fm.abf l:=fO _ _ λt _=>t.dg
mutual
def Fm.wt:Fm->Nat
 |.mk _ s ts l=>1+s.abf+cX Tm.wt ts+Fm.JJ l
def Fm.JJ:List Fm->Nat
 |[]=>0|t::l=>t.wt+Fm.JJ l
end
def Fm.Ap(l:List Fm):Fm.JJ l=cX Fm.wt l:=by
 induction l with
 |nil=>rfl|cons t l a=>simp[Fm.JJ,cX,a]
def Fm.gh(k:Int)(s:Ty)(ts:List Tm)(l:List Fm):(Fm.mk k s ts l).wt=1+s.abf+cX Tm.wt ts+cX Fm.wt l:=by rw[Fm.wt,Fm.Ap]
def Fm.gU(t:Fm):1<=t.wt:=by cases t;rw[Fm.wt];omega
def Fm.lQ(l:List Fm):l.length<=cX Fm.wt l:=fO _ _ λt _=>t.gU
def Fm.ind{p:Fm->Prop}(h:∀k s ts l,(∀t∈l,p t)->p (.mk k s ts l))(t:Fm):p t:=by
 have:∀n (t:Fm),t.abf<=n->p t:=by
  intro n
  induction n with
  |zero=>intro t a;have:=t.dg;omega
  |succ n b=>
   intro t a;cases t with
   |mk k s ts l=>
    rw[Fm.cI] at a;exact h k s ts l λu hu=>b u (by have:=da Fm.abf hu;omega)
 exact this _ t (hO _)
def Fm.gj(t:Fm):t.abf<=t.wt:=by
 induction t using Fm.ind with
 |h k s ts l a=>rw[Fm.cI,Fm.gh];have:=jc a;have:=jc (f:=Tm.abf) (g:=Tm.wt) (l:=ts) λx _=>x.gj;omega
def i_(k:Int):Bool:=decide (k=4\/k=5\/k=6\/k=7)
def qB(k:Int):Int:=if i_ k=true then 1 else 0
def xz(k:Int):0<=qB k/\qB k<=1:=by unfold qB;split<;>omega
def j_(k:Int):jw k=some (i_ k):=by
 unfold jw i_
 congr 1
 rw[yU];simp
def mZ(f:Fm):k7 f=some (qB f.abd):=by
 unfold k7 qB;rw[j_];simp only[cz]
 split<;>rfl
def Fm.node(k:Int)(s:Ty)(a n:Nat):Bool:=
 if k=1 then s.nY&&decide (a=2)&&decide (n=0)
 else if k=2\/k=3 then s.nY&&decide (a=0)&&decide (n=2)
 else i_ k&&decide (s.err=0)&&decide (a=0)&&decide (n=1)
mutual
def Fm.ok:Fm->Bool
 |.mk k s ts l=>Fm.node k s ts.length l.length&&ts.all Tm.ok&&Fm.F7 l
def Fm.F7:List Fm->Bool
 |[]=>true|t::l=>t.ok&&Fm.F7 l
end
def Fm.wo(l:List Fm):Fm.F7 l=l.all Fm.ok:=by
 induction l with
 |nil=>rfl|cons t l a=>simp[Fm.F7,a]
def Fm.fa(k:Int)(s:Ty)(ts:List Tm)(l:List Fm):(Fm.mk k s ts l).ok=(Fm.node k s ts.length l.length&&ts.all Tm.ok&&l.all Fm.ok):=by rw[Fm.ok,Fm.wo]
def Fm.err(t:Fm):Int:=if t.ok=true then(if 4096<t.abf then 4 else 0)else 2
def e9{α:Type}{l:List α}:(l.length:Int)=0↔l=[]:=by cases l<;>simp;omega
def h_{α:Type}{l:List α}(h:(l.length:Int)=1):∃a,l=[a]:=by
 match l,h with
 |[a],_=>exact⟨a,rfl⟩|[],h=>simp at h
 |_::_::_,h=>simp at h;omega
def nW{α:Type}{l:List α}(h:(l.length:Int)=2):∃a b,l=[a,b]:=by
 match l,h with
 |[a,b],_=>exact⟨a,b,rfl⟩|[],h=>simp at h
 |[_],h=>simp at h
 |_::_::_::_,h=>simp at h;omega
def uF{t:Tm}(h:t.wt<=1000000000):iK FU t=some t.ok:=vT FU t (by rw[dP];exact h) h
def wB:∀(n:Nat) (t:Fm),t.wt<=n->t.wt<=1000000000->jO n t=some t.ok:=by
 intro n
 induction n with
 |zero=>intro t h;have:=t.gU;omega
 |succ n j=>
  intro t h i;cases t with
  |mk k s ts l=>
   rw[Fm.gh] at h i;rw[jO,Fm.fa];simp only[Fm.cZ,Fm.df,Fm.fv,Fm.dI,cT,jN,ni,eH,et,tA,j_,kF (t:=s) (by omega),cz,dk,eD]
   by_cases o:k=1
   ·simp only[o,if_true,Fm.node]
    by_cases g:(l.length:Int)=0
    ·have:=e9.1 g;subst this;cases f:s.nY with
     |false=>simp|true=>
      by_cases d:(ts.length:Int)=2
      ·obtain⟨a,b,rfl⟩:=nW d;simp only[cX] at h i;simp only[d,if_true,gz,kf,cz];rw[uF (t:=a) (by omega),uF (t:=b) (by omega)];cases c:a.ok<;>cases e:b.ok<;>simp[c,e]
      ·have c:¬ts.length=2:=by omega
       simp[d,c]
    ·have f:¬l.length=0:=by omega
     simp[g,f]
   ·simp only[o,lG,Fm.node]
    by_cases g:k=2\/k=3
    ·simp only[g,if_true]
     by_cases f:(ts.length:Int)=0
     ·have:=e9.1 f;subst this;cases d:s.nY with
      |false=>simp|true=>
       by_cases c:(l.length:Int)=2
       ·obtain⟨a,b,rfl⟩:=nW c;simp only[cX] at h i;simp only[c,if_true,gz,kf,cz];rw[j a (by omega) (by omega),j b (by omega) (by omega)];cases e:a.ok<;>cases m:b.ok<;>simp[e,m]
       ·have e:¬l.length=2:=by omega
        simp[c,e]
     ·have d:¬ts.length=0:=by omega
      simp[f,d]
    ·simp only[g,lG];cases f:i_ k with
     |false=>simp|true=>
      by_cases d:(ts.length:Int)=0
      ·have:=e9.1 d;subst this
       by_cases c:s.err=0
       ·by_cases e:(l.length:Int)=1
        ·obtain⟨a,rfl⟩:=h_ e;simp only[cX] at h i;simp only[c,e,if_true,gz,cz];rw[j a (by omega) (by omega)];simp
        ·have m:¬l.length=1:=by omega
         simp[c,e,m]
       ·simp[c]
      ·have c:¬ts.length=0:=by omega
       simp[d,c]
def pF:∀(n:Nat) (t:Fm),t.abf<=n->t.abf<=1000000000->jJ n t=some (t.abf:Int):=by
 intro n
 induction n with
 |zero=>intro t h;have:=t.dg;omega
 |succ n b=>
  intro t h c;cases t with
  |mk k s ts l=>
   rw[Fm.cI] at h c;have f:=Fm.dT l;have d:=Tm.dT ts;rw[jJ];simp only[Fm.cZ,Fm.fv,cT,cW (l:=l) (by omega),cW (l:=ts) (by omega),cL]
   have e:=nr (ρ:=Int) (F:=λ(j:Int) (x:Tm) (v:Int)=>cA (ep FU x) λy=>some (eA.next (dB .i64 v y))) Tm.abf ts 0 1 (by omega) (by
    intro j x v a;have:=da Tm.abf a;rw[lR FU x (by rw[dP];omega) (by omega)]
    rfl)
   have k2:=nr (ρ:=Int) (F:=λ(j:Int) (x:Fm) (v:Int)=>cA (jJ n x) λy=>some (eA.next (dB .i64 v y))) Fm.abf l 0 (1+cX Tm.abf ts) (by omega) (by
    intro j x v a;have:=da Fm.abf a;rw[b x (by omega) (by omega)]
    rfl)
   rw[show(1:Int)=((1:Nat):Int)from rfl,e];simp only[cz,cQ];rw[k2];simp[Fm.cI]
def kx{t:Fm}(h:t.wt<=1000000000):jR t=some t.err:=by
 have:=t.gj;unfold jR Fm.err;rw[wB FU t (by rw[dP];exact h) h,pF FU t (by rw[dP];omega) (by omega)];cases t.ok with
 |false=>simp|true=>by_cases a:4096<t.abf<;>simp[a]<;>omega
def DB(f:Fm)(h:f.wt<=1000000000):oY f=some (Fm.node f.abd f.cD f.cU.length f.abe.length):=by
 cases f with
 |mk k s ts l=>
  rw[Fm.gh] at h;show oY (.mk k s ts l)=some (Fm.node k s ts.length l.length)
  have d:(de (ts.length:Int) 2&&de (l.length:Int) 0)=(decide (ts.length=2)&&decide (l.length=0)):=by
   rw[yU];simp only[eJ,eH,kR];omega
  have e:(de (ts.length:Int) 0&&de (l.length:Int) 2)=(decide (ts.length=0)&&decide (l.length=2)):=by
   rw[yU];simp only[eJ,eH,kR];omega
  have g:(de (ts.length:Int) 0&&de (l.length:Int) 1)=(decide (ts.length=0)&&decide (l.length=1)):=by
   rw[yU];simp only[eJ,eH,kR];omega
  unfold oY;simp only[Fm.cZ,Fm.df,Fm.fv,Fm.dI,cT,jN,qx,ni,eH,et,j0 (t:=s) (by omega),pX,cz,cF,cR,d,e,g];unfold Fm.node
  by_cases b:k=1
  ·cases c:s.nY<;>simp[b]
  ·by_cases c:k=2\/k=3
   ·cases a:s.nY<;>simp[b,c]
   ·by_cases a:k=4\/k=5\/k=6\/k=7
    ·have i:i_ k=true:=by simp[i_,a]
     by_cases j:s.err=0<;>simp[b,c,a,j,i]
    ·have i:i_ k=false:=by simp[i_,a]
     simp[b,c,a,i]
def vV:∀(n:Nat) (t:Fm),t.wt<=n->t.wt<=1000000000->hX n t=some (if t.ok=true then((t.abf:Int),true)else(0,false)):=by
 intro n
 induction n with
 |zero=>intro t h;have:=t.gU;omega
 |succ n i=>
  intro t h g;cases t with
  |mk k s ts l=>
   have m:=DB (.mk k s ts l) g;rw[Fm.gh] at h g;have r:=Fm.lQ l;have o:=Tm.lQ ts;have hn:cX Tm.abf ts<=cX Tm.wt ts:=jc λx _=>x.gj;have p:cX Fm.abf l<=cX Fm.wt l:=jc λx _=>x.gj
   have q:dH (λ(e:Int) (a:Tm) (b:Int)=>cN (ie FU a) λc d=>if d=true then some (eA.next (dB .i64 b c))else some (eA.ret ((0:Int),false))) ts 0 1=if ts.all Tm.ok=true then some (.inl ((1+cX Tm.abf ts:Nat):Int))else some (.inr (0,false)):=by
    refine rT Tm.abf Tm.ok _ ts 0 1 (by omega) ?_;intro j x v f;have:=da Tm.wt f;rw[sF FU x (by rw[dP];omega) (by omega)];cases x.ok<;>simp
   have k2:dH (λ(e:Int) (a:Fm) (b:Int)=>cN (hX n a) λc d=>if d=true then some (eA.next (dB .i64 b c))else some (eA.ret ((0:Int),false))) l 0 ((1+cX Tm.abf ts:Nat):Int)=if l.all Fm.ok=true then some (.inl ((1+cX Tm.abf ts+cX Fm.abf l:Nat):Int))else some (.inr (0,false)):=by
    refine rT Fm.abf Fm.ok _ l 0 _ (by omega) ?_;intro j x v f;have:=da Fm.wt f;rw[i x (by omega) (by omega)];cases x.ok<;>simp
   rw[hX,m];simp only[Fm.cZ,Fm.df,Fm.fv,Fm.dI,cT,cW (l:=l) (by omega),cW (l:=ts) (by omega),cL,cz,q,Fm.fa,Fm.cI];cases u:Fm.node k s ts.length l.length with
   |false=>simp|true=>
    cases w:ts.all Tm.ok with
    |false=>simp|true=>
     simp only[if_true,cz,cQ,k2,xe];cases y:l.all Fm.ok<;>simp
def m6{t:Fm}(h:t.wt<=1000000000):gO t=some (if t.err=0 then(t.abf:Int)else 0,t.err):=by
 unfold gO Fm.err;rw[vV FU t (by rw[dP];exact h) h];cases t.ok with
 |false=>simp|true=>
  by_cases a:4096<t.abf
  ·simp[a];omega
  ·simp[a];omega
def jy{t:Fm}(h:t.wt<=1000000000):iT t=some t.err:=by
 unfold iT;rw[m6 h];rfl
def Fs:∀(n:Nat) (t:Fm),t.wt<=n->t.wt<=1000000000->iZ n t=some t:=by
 intro n
 induction n with
 |zero=>intro t h;have:=t.gU;omega
 |succ n c=>
  intro t h d;cases t with
  |mk k s ts l=>
   rw[Fm.gh] at h d;have f:=Fm.lQ l;have e:=Tm.lQ ts;rw[iZ];simp only[Fm.cZ,Fm.df,Fm.fv,Fm.dI,cT,cW (l:=l) (by omega),cW (l:=ts) (by omega),cL,gI (t:=s) (by omega),cz];rw[gZ id ts 0 [] (by simp;omega)]
   ·simp only[cz,cQ];rw[gZ id l 0 [] (by simp;omega)]
    ·simp
    ·intro j x v a b;have:=da Fm.wt a;rw[c x (by omega) (by omega)];simp[dK (l:=v) (m:=[x]) (by simpa using b)]
   ·intro j x v a b;have:=da Tm.wt a;rw[k_ (t:=x) (by omega)];simp[dK (l:=v) (m:=[x]) (by simpa using b)]
def nA{t:Fm}(h:t.wt<=1000000000):iZ FU t=some t:=Fs FU t (by rw[dP];exact h) h
mutual
def Fm.has:Fm->Bool
 |.mk k _ _ l=>if k=1 then false else if k=2 then Fm.Hs l else if k=5 then true else Fm.Cr l
def Fm.Hs:List Fm->Bool
 |[]=>false|f::l=>f.has||Fm.Hs l
def Fm.Cr:List Fm->Bool
 |[]=>false|[f]=>f.has|_::f::l=>Fm.Cr (f::l)
end
def lh(k:Int)(a b:Ty):Ty×Bool×Int:=if(Ty.mk k [a,b]).err≠0 then(.mk 0 [],false,(Ty.mk k [a,b]).err)else(.mk k [a,b],true,0)
def abo(first last:Ty×Bool×Int):Ty×Bool×Int:=
 if first.2.2≠0\/first.2.1=false then(last.1,last.2.1,first.2.2)else if last.2.1=true then lh 3 first.1 last.1 else(first.1,true,0)
def abp(first last:Ty×Bool×Int):Ty×Bool×Int:=
 if first.2.2≠0\/first.2.1=false then(last.1,true,first.2.2)else lh 4 first.1 last.1
def Rt(k:Int)(s:Ty)(first last:Ty×Bool×Int):Ty×Bool×Int:=
 if last.2.2≠0 then(.mk 0 [],false,last.2.2)
 else if k=2 then abo first last
 else if k=5 then(if last.2.1=true then lh 3 s last.1 else(s,true,0))
 else if last.2.1=true then(if k=3 then abp first last else if k=4 then lh 4 s last.1 else(last.1,true,0))
 else(.mk 0 [],false,0)
def abn:Ty×Bool×Int:=(.mk 0 [],false,0)
mutual
def Fm.ct:Fm->Ty×Bool×Int
 |.mk k s _ l=>if k=1 then abn else Rt k s (Fm.abq l) (Fm.sm l)
def Fm.abq:List Fm->Ty×Bool×Int
 |[]=>abn|f::_=>f.ct
def Fm.sm:List Fm->Ty×Bool×Int
 |[]=>abn|[f]=>f.ct|_::f::l=>Fm.sm (f::l)
end
def Fm.K9(k:Int)(s:Ty)(ts:List Tm)(a b:Fm):(Fm.mk k s ts [a,b]).has=if k=1 then false else if k=2 then a.has||b.has else if k=5 then true else b.has:=by
 rw[Fm.has];simp[Fm.Hs,Fm.Cr]
def Fm.y5(k:Int)(s:Ty)(ts:List Tm)(a:Fm):(Fm.mk k s ts [a]).has=if k=1 then false else if k=5 then true else a.has:=by
 rw[Fm.has];simp only[Fm.Hs,Fm.Cr,Bool.or_false]
 by_cases b:k=2
 ·subst b;simp
 ·simp[b]
def Fm.has_eq(s:Ty)(ts:List Tm)(l:List Fm):(Fm.mk 1 s ts l).has=false:=by rw[Fm.has];simp
def Fm.mx{p:Fm->Prop}(n:∀a b:Tm,a.ok=true->b.ok=true->p (.mk 1 (.mk 0 []) [a,b] []))
  (o:∀(k:Int) (a b:Fm),k=2\/k=3->a.ok=true->b.ok=true->p a->p b->p (.mk k (.mk 0 []) [] [a,b]))
  (q:∀(k:Int) (s:Ty) (a:Fm),k=4\/k=5\/k=6\/k=7->s.err=0->a.ok=true->p a->p (.mk k s [] [a])) (f:Fm) (g:f.ok=true):p f:=by
 induction f using Fm.ind with
 |h k s ts l i=>
  rw[Fm.fa] at g;simp only[eJ,jr] at g;obtain⟨⟨hn,d⟩,c⟩:=g;unfold Fm.node at hn
  split at hn
  ·rename_i j;subst j;simp only[eJ,kR,Ty.kv] at hn;obtain⟨⟨rfl,e⟩,m⟩:=hn;obtain⟨a,b,rfl⟩:=nW (l:=ts) (by omega);have:=Qx.1 m;subst this;exact n a b (d a (by simp)) (d b (by simp))
  ·split at hn
   ·rename_i j;simp only[eJ,kR,Ty.kv] at hn;obtain⟨⟨rfl,e⟩,m⟩:=hn;obtain⟨a,b,rfl⟩:=nW (l:=l) (by omega);have:=Qx.1 e;subst this;exact o k a b j (c a (by simp)) (c b (by simp)) (i a (by simp) (c a (by simp))) (i b (by simp) (c b (by simp)))
   ·simp only[eJ,kR] at hn;obtain⟨⟨⟨r,hs⟩,e⟩,m⟩:=hn;obtain⟨a,rfl⟩:=h_ (l:=l) (by omega);have:=Qx.1 e;subst this;refine q k s a ?_ hs (c a (by simp)) (i a (by simp) (c a (by simp)));simpa[i_] using r
def Ty.jt{t:Ty}(h:t.err=0):t.ok=true/\t.abf<=64:=by
 unfold Ty.err at h
 split at h
 ·split at h
  ·omega
  ·exact⟨‹_›,by omega⟩
 ·omega
def Ty.tB{t:Ty}(h:t.ok=true)(a:t.abf<=64):t.err=0:=by unfold Ty.err;rw[cG h,cB (by omega)]
def Ty.ok_two{k:Int}(c:k=3\/k=4){a b:Ty}(d:a.ok=true)(e:b.ok=true):(Ty.mk k [a,b]).ok=true:=by
 rw[Ty.fa]
 have:¬(k=1\/k=2\/k=5):=by omega
 simp[Ty.want,c,this,d,e]
def Ty.wL(k:Int)(a b:Ty):(Ty.mk k [a,b]).abf=1+a.abf+b.abf:=by rw[Ty.cI];simp[cX];omega
def Fm.fj{f:Fm}(h:f.err=0):f.ok=true/\f.abf<=4096:=by
 unfold Fm.err at h
 split at h
 ·split at h
  ·omega
  ·exact⟨‹_›,by omega⟩
 ·omega
def Fm.cty(f:Fm):Ty×Int:=if f.err≠0 then(.mk 0 [],f.err)else if f.ct.2.2≠0 then(.mk 0 [],f.ct.2.2)else(if f.has=true then f.ct.1 else .mk 5 [],0)
def AY:∀(n:Nat) (f:Fm),f.abf<=n->f.ok=true->jC n f=some f.has:=by
 intro n
 induction n with
 |zero=>intro f h;have:=f.dg;omega
 |succ n e=>
  intro f h q;refine Fm.mx (p:=λf=>f.abf<=n+1->jC (n+1) f=some f.has) ?_ ?_ ?_ f q h
  ·intro a b _ _ _;rw[jC,Fm.has_eq];rfl
  ·intro k a b r g t _ _ hn;rw[Fm.cI] at hn;simp only[cX] at hn;have d:=e a (by omega) g;have i:=e b (by omega) t
   have c:k≠1:=by omega
   have j:k≠5:=by omega
   have l:c_ [a,b] (dX .i64 (dm [a,b]) 1)=some b:=by
    rw[dW (by simp) (by simp)];rfl
   have u:c_ [a,b] 0=some a:=rfl;have v:c_ [a,b] 1=some b:=rfl;rw[jC,Fm.K9,cB c];simp only[Fm.cZ,Fm.df,eH,c,j,lG,l,u,v,cz,i,d,cT]
   by_cases o:k=2
   ·simp only[o,if_true];cases a.has<;>simp
   ·simp[o]
  ·intro k s a r hs g _ hn;rw[Fm.cI] at hn;simp only[cX] at hn;have d:=e a (by omega) g
   have c:k≠1:=by omega
   have m:k≠2:=by omega
   have l:c_ [a] (dX .i64 (dm [a]) 1)=some a:=by
    rw[dW (by simp) (by simp)];rfl
   rw[jC,Fm.y5,cB c];simp only[Fm.cZ,Fm.df,eH,c,m,lG,l,cz,d]
   by_cases w:k=5<;>simp[w]
def AQ(f:Fm)(h:f.wt<=1000000000):qA f=some (if f.err≠0 then(false,f.err)else(f.has,0)):=by
 unfold qA;rw[kx h];simp only[cz,cR]
 by_cases he:f.err=0
 ·rw[AY FU f (by rw[dP];have:=f.gj;omega) (Fm.fj he).1];simp[he]
 ·simp[he]
def Fm.tB{f:Fm}(h:f.ok=true)(a:f.abf<=4096):f.err=0:=by unfold Fm.err;rw[cG h,cB (by omega)]
def Ty.nat:Ty:=.mk 1 []
def Ty.mT:Ty:=.mk 2 []
def Ty.unit:Ty:=.mk 5 []
def Ty.fn(a b:Ty):Ty:=.mk 4 [a,b]
def Ty.pr(a b:Ty):Ty:=.mk 3 [a,b]
def Ty.z:Ty:=.mk 0 []
inductive dF:List Ty->Tm->Ty->Prop
 |var {g t} (i:Nat):i<g.length->g[g.length-1-i]?=some t->dF g (.mk 1 i .z []) t|lam {g s b t}:(Ty.fn s t).err=0->dF (g++[s]) b t->dF g (.mk 2 0 s [b]) (.fn s t)|app {g f a s t}:dF g f (.fn s t)->dF g a s->dF g (.mk 3 0 .z [f,a]) t|zero {g}:dF g (.mk 4 0 .z []) .nat|succ {g a}:dF g a .nat->dF g (.mk 5 0 .z [a]) .nat|rp {g t b s n}:t.err=0->dF g b t->dF g s (.fn .nat (.fn t t))->dF g n .nat->dF g (.mk 6 0 t [b,s,n]) t|nil {g}:dF g (.mk 7 0 .z []) .mT|cons {g a b}:dF g a .nat->dF g b .mT->dF g (.mk 8 0 .z [a,b]) .mT|fold {g t b s n}:t.err=0->dF g b t->dF g s (.fn .nat (.fn .mT (.fn t t)))->dF g n .mT->dF g (.mk 9 0 t [b,s,n]) t|pair {g a b s t}:(Ty.pr s t).err=0->dF g a s->dF g b t->dF g (.mk 10 0 .z [a,b]) (.pr s t)|fst {g a s t}:dF g a (.pr s t)->dF g (.mk 11 0 .z [a]) s|snd {g a s t}:dF g a (.pr s t)->dF g (.mk 12 0 .z [a]) t|unit {g}:dF g (.mk 13 0 .z []) .unit
def Ty.mS:Ty.z.nY=true:=rfl
def Ty.qt{k:Int}(e:k=3\/k=4){a b:Ty}(h:(Ty.mk k [a,b]).err=0):a.err=0/\b.err=0:=by
 obtain⟨c,d⟩:=Ty.jt h;rw[Ty.fa] at c;simp only[eJ,jr] at c;rw[Ty.wL] at d;exact⟨Ty.tB (c.2 a (by simp)) (by omega),Ty.tB (c.2 b (by simp)) (by omega)⟩
def dF.ok{g:List Ty}{x:Tm}{t:Ty}(h:dF g x t):x.ok=true:=by
 induction h with
 |var i e f=>
  have:(0:Int)<=(i:Nat):=by omega
  simp[Tm.fa,Tm.node,fq,iz,Ty.mS,this]
 |lam e _ c=>have:=(Ty.qt (.inr rfl) e).1;simp[Tm.fa,Tm.node,fq,iz,this,c]
 |app _ _ a b=>simp[Tm.fa,Tm.node,fq,iz,Ty.mS,a,b]|zero=>simp[Tm.fa,Tm.node,fq,iz,Ty.mS]|succ _ c=>simp[Tm.fa,Tm.node,fq,iz,Ty.mS,c]|rp e _ _ _ a b d=>simp[Tm.fa,Tm.node,fq,iz,e,a,b,d]|nil=>simp[Tm.fa,Tm.node,fq,iz,Ty.mS]|cons _ _ a b=>simp[Tm.fa,Tm.node,fq,iz,Ty.mS,a,b]|fold e _ _ _ a b d=>simp[Tm.fa,Tm.node,fq,iz,e,a,b,d]|pair _ _ _ a b=>simp[Tm.fa,Tm.node,fq,iz,Ty.mS,a,b]|fst _ c=>simp[Tm.fa,Tm.node,fq,iz,Ty.mS,c]|snd _ c=>simp[Tm.fa,Tm.node,fq,iz,Ty.mS,c]|unit=>simp[Tm.fa,Tm.node,fq,iz,Ty.mS]
def Tm.kH(t:Tm):∀{m n:Int},m<=n->t.abj m=true->t.abj n=true:=by
 induction t using Tm.ind with
 |h k i s l c=>
  intro m n a h;rw[Tm.ec] at*;simp only[eJ,kR,jr] at*;exact⟨by omega,λx b=>c x b a (h.2 x b)⟩
def dF.abj{g:List Ty}{x:Tm}{t:Ty}(h:dF g x t):∀m:Int,((g.length+x.abf:Nat):Int)<=m->x.abj m=true:=by
 induction h with
 |var i e f=>intro m hm;simp only[Tm.cI,cX] at hm;simp only[Tm.ec,Qu,xl,kR];omega
 |lam _ _ c=>
  intro m hm;simp only[Tm.cI,cX] at hm;simp only[Tm.ec,uw,Qu,xl,eJ,kR];exact⟨by omega,c m (by simp;omega)⟩
 |zero|nil|unit=>intro m hm;simp only[Tm.cI,cX] at hm;simp only[Tm.ec,Qu,xl,kR];omega
 |succ _ c|fst _ c|snd _ c=>
  intro m hm;simp only[Tm.cI,cX] at hm;simp only[Tm.ec,uw,Qu,xl,eJ,kR];exact⟨by omega,c m (by omega)⟩
 |app _ _ a b|cons _ _ a b|pair _ _ _ a b=>
  intro m hm;simp only[Tm.cI,cX] at hm;simp only[Tm.ec,uw,Qu,xl,eJ,kR];exact⟨by omega,a m (by omega),b m (by omega)⟩
 |rp _ _ _ _ a b d|fold _ _ _ _ a b d=>
  intro m hm;simp only[Tm.cI,cX] at hm;simp only[Tm.ec,uw,Qu,xl,eJ,kR];exact⟨by omega,a m (by omega),b m (by omega),d m (by omega)⟩
def Dq{α:Type}{f g:α->Nat}{c:Nat}{l:List α}(h:∀x∈l,f x<=c*g x):cX f l<=c*cX g l:=by
 induction l with
 |nil=>simp[cX]|cons x l a=>simp only[cX,Q_];have:=h x (by simp);have:=a λy hy=>h y (by simp[hy]);omega
def Tm.hZ(t:Tm)(h:t.ok=true):t.wt<=65*t.abf:=by
 induction t using Tm.ind with
 |h k i s l c=>
  rw[Tm.fa] at h;simp only[eJ,jr] at h;rw[Tm.gh,Tm.cI,Q_];have d:=Dq λx b=>c x b (h.2 x b)
  have e:s.abf<=64:=by
   have:=h.1;simp only[Tm.node,eJ] at this;have a:=this.2
   split at a
   ·simp only[kR] at a;exact(Ty.jt a).2
   ·rw[Ty.kv] at a;subst a;rw[Ty.cI];simp[cX]
  omega
def Fm.hZ(f:Fm)(h:f.ok=true):f.wt<=65*f.abf:=by
 induction f using Fm.ind with
 |h k s ts l b=>
  rw[Fm.fa] at h;simp only[eJ,jr] at h;rw[Fm.gh,Fm.cI,Q_,Q_];have d:=Dq λx a=>b x a (h.2 x a);have e:=Dq (f:=Tm.wt) (g:=Tm.abf) (c:=65) (l:=ts) λx a=>x.hZ (h.1.2 x a)
  have i:s.abf<=64:=by
   have:=h.1.1;unfold Fm.node at this
   split at this
   ·simp only[eJ,Ty.kv] at this;rw[this.1.1,Ty.cI];simp[cX]
   ·split at this
    ·simp only[eJ,Ty.kv] at this;rw[this.1.1,Ty.cI];simp[cX]
    ·simp only[eJ,kR] at this;exact(Ty.jt this.1.1.2).2
  omega
structure c6.wf (d:c6):Prop where
 len:d.l.length<=1000
 lo:0<=d.qU
 hi:d.qU<=d.l.length
def LL(x n:Int)(c:1<=n)(d:n<=1000000000):∃y,D8 x n=some y/\0<=y/\y<n:=by
 unfold D8;simp only[No (b:=n) (by omega),cL];refine⟨_,rfl,?_⟩;unfold Ox
 have e:(x.tmod n).natAbs<n.natAbs:=by
  rw[Int.natAbs_tmod];exact Q8 _ (by omega)
 rw[dJ (by omega) (by omega)]
 have a:0<=x.tmod n+n:=by omega
 exact⟨Int.tmod_nonneg _ a,Int.tmod_lt_of_pos _ (by omega)⟩
def nT(d:c6)(a:d.wf)(n:Int)(e:1<=n)(f:n<=1000000000):∃x b,fM d n=some (x,b)/\0<=x/\x<n/\b.wf:=by
 unfold fM;simp only[jN,ni,lL,gP,et]
 by_cases c:n<1\/(d.l.length:Int)<=d.qU
 ·rw[cG c];exact⟨0,d,rfl,by omega,by omega,a⟩
 ·rw[cB c];obtain⟨y,hy,_⟩:=Gb (l:=d.l) a.lo (by omega);obtain⟨z,g,h,i⟩:=LL y n e f;rw[hy];simp only[cz,g];have:=a.len;have:=a.lo;rw[dJ (by omega) (by omega)];exact⟨z,_,rfl,h,i,⟨a.len,by show 0<=d.qU+1;omega,by show d.qU+1<=(d.l.length:Int);omega⟩⟩
def ed:gT=some .nat:=rfl
def eX:lB=some .mT:=rfl
def Et:sk=some .unit:=rfl
def uO{a b:Ty}(c:a.abf<=1000000000)(d:b.abf<=1000000000):rD a b=some (.pr a b):=by
 unfold rD;rw[gI c,gI d];rfl
def gq{a b:Ty}(c:a.abf<=1000000000)(d:b.abf<=1000000000):jg a b=some (.fn a b):=by
 unfold jg;rw[gI c,gI d];rfl
def Ty.Nt:Ty.nat.ok=true:=by unfold Ty.nat;rw[Ty.fa];rfl
def Ty.OV:Ty.mT.ok=true:=by unfold Ty.mT;rw[Ty.fa];rfl
def Ty.KZ:Ty.unit.ok=true:=by unfold Ty.unit;rw[Ty.fa];rfl
def Ty.ga:Ty.nat.abf=1:=by unfold Ty.nat;rw[Ty.cI];rfl
def Ty.mM:Ty.mT.abf=1:=by unfold Ty.mT;rw[Ty.cI];rfl
def Ty.Da:Ty.unit.abf=1:=by unfold Ty.unit;rw[Ty.cI];rfl
def Ty.hP(a b:Ty):(Ty.fn a b).abf=1+a.abf+b.abf:=Ty.wL _ _ _
def Ty.rH(a b:Ty):(Ty.pr a b).abf=1+a.abf+b.abf:=Ty.wL _ _ _
def NK(k:Nat)(h:k<=4):1<=2^k/\2^k<=16:=by
 have:k=0\/k=1\/k=2\/k=3\/k=4:=by omega
 rcases this with rfl|rfl|rfl|rfl|rfl<;>decide
def JH:∀(n k:Nat) (d:c6),k<n->k<=4->d.wf->∃t g,iQ n d (k:Int)=some (t,g)/\t.ok=true/\t.abf+1<=2^(k+1)/\g.wf:=by
 intro n
 induction n with
 |zero=>intro k d h;omega|succ n s=>
  intro k d w p u;obtain⟨x,d1,v,y,z,f⟩:=nT d u 7 (by omega) (by omega);have A:=NK k p
  have B:(2:Nat)^(k+1)=2*2^k:=by rw[BZ];omega
  have c:=λg (q:c6.wf g)=>(⟨Ty.nat,g,rfl,Ty.Nt,by rw[Ty.ga];omega,q⟩:∃t i,some (Ty.nat,g)=some (t,i)/\t.ok=true/\t.abf+1<=2^(k+1)/\i.wf);rw[iQ];simp only[cT,v,cF,ed,eX,Et,cz,jN,ni,eH,eO]
  split
  ·exact c d1 f
  split
  ·exact⟨.mT,d1,rfl,Ty.OV,by rw[Ty.mM];omega,f⟩
  split
  ·exact⟨.unit,d1,rfl,Ty.KZ,by rw[Ty.Da];omega,f⟩
  have two:0<(k:Int)->∃a b d2 d3,iQ n d1 (dX .i64 (k:Int) 1)=some (a,d2)/\iQ n d2 (dX .i64 (k:Int) 1)=some (b,d3)/\a.ok=true/\b.ok=true/\a.abf+1<=2^k/\b.abf+1<=2^k/\d3.wf:=by
   intro e;obtain⟨m,rfl⟩:∃m,k=m+1:=⟨k-1,by omega⟩;rw[dW (by omega) (by omega),show((m+1:Nat):Int)-1=(m:Int) by omega];obtain⟨a,d2,a1,a2,a3,a4⟩:=s m d1 (by omega) (by omega) f;obtain⟨b,d3,j,l,r,o⟩:=s m d2 (by omega) (by omega) a4;exact⟨a,b,d2,d3,a1,j,a2,l,a3,r,o⟩
  split
  ·split
   ·rename_i e;obtain⟨a,b,d2,d3,a1,j,a2,l,a3,r,o⟩:=two e;rw[a1];simp only[cF];rw[j];simp only[cF];rw[uO (by omega) (by omega)];exact⟨_,_,rfl,Ty.ok_two (.inl rfl) a2 l,by rw[Ty.rH];omega,o⟩
   ·exact c d1 f
  split
  ·split
   ·rename_i e;obtain⟨a,b,d2,d3,a1,j,a2,l,a3,r,o⟩:=two e;rw[a1];simp only[cF];rw[j];simp only[cF];rw[gq (by omega) (by omega)];exact⟨_,_,rfl,Ty.ok_two (.inr rfl) a2 l,by rw[Ty.hP];omega,o⟩
   ·exact c d1 f
  ·exact c d1 f
def wE(d:c6)(c:d.wf)(k:Nat)(b:k<=4):∃t a,iQ FU d (k:Int)=some (t,a)/\t.err=0/\t.abf+1<=2^(k+1)/\a.wf:=by
 obtain⟨t,a,e,f,g,h⟩:=JH FU k d (by rw[dP];omega) b c;have i:=NK k b
 have j:(2:Nat)^(k+1)=2*2^k:=by rw[BZ];omega
 exact⟨t,a,e,Ty.tB f (by omega),g,h⟩
def JC(g:List Ty)(t:Ty)(hg:g.length<=1000000)(hn:∀s∈g,s.abf<=1000000000):∃l,zN g t=some l/\l.length<=g.length/\∀v∈l,∃i:Nat,v=i/\i<g.length/\g[g.length-1-i]?=some t:=by
 unfold zN;simp only[cW (l:=g) (by omega),cL,cT]
 have key:∀(l:List Ty) (i:Nat) (v:List Int),i+l.length=g.length->v.length<=i->(∀x∈v,∃j:Nat,x=j/\j<g.length/\g[g.length-1-j]?=some t)->∃d,dH (ρ:=List Int) (λ(j:Int) (w:Ty) (v:List Int)=>cA (c_ g (dX .i64 (dX .i64 (dm g) 1) j)) λx=>cA (dR FU x t) λy=>if y=true then fh (eC v [j]) (some (eA.next (fp v [j])))else some (eA.next v)) l i v=some (.inl d)/\d.length<=g.length/\∀x∈d,∃j:Nat,x=j/\j<g.length/\g[g.length-1-j]?=some t:=by
  intro l
  induction l with
  |nil=>
   intro i v f o e;exact⟨v,rfl,by simp at f;omega,e⟩
  |cons y l n=>
   intro i v f o e;simp only[jW] at f
   have c:g.length-1-i<g.length:=by omega
   have p:c_ g (dX .i64 (dX .i64 (dm g) 1) (i:Int))=some g[g.length-1-i]:=by
    rw[et,dW (a:=(g.length:Int)) (b:=1) (by omega) (by omega),dW (by omega) (by omega),show(g.length:Int)-1-(i:Int)=((g.length-1-i:Nat):Int) by omega,hB];simp[c]
   rw[dC];simp only[p,cz,gl (hn _ (BT c))];cases hs:Ty.jA g[g.length-1-i] t with
   |false=>
    simp only[qJ,lG,cz,dL];exact n (i+1) v (by omega) (by omega) e
   |true=>
    rw[Ty.jj] at hs;simp only[if_true,dK (l:=v) (m:=[(i:Int)]) (by simp;omega),cL,cz,dL,eW];refine n (i+1) (v++[(i:Int)]) (by omega) (by simp;omega) ?_;intro x k;rcases qW.1 k with h|h
    ·exact e x h
    ·rw[xn] at h;exact⟨i,h,by omega,by rw[na c,hs]⟩
 obtain⟨d,q,r,u⟩:=key g 0 [] (by simp) (by simp) (by simp);rw[q];exact⟨d,rfl,r,u⟩
def nQ(g l:List Ty)(h:g.length+l.length<=1000000):kU g l=some (g++l):=by
 unfold kU;rw[dK (by simp;omega),cL,dK (by simp;omega),cL];simp
def Au(n:Nat)(hn:n<=1000000):∃x,ou (n:Int)=some x/\∀g,dF g x .nat/\x.abf=n+1:=by
 unfold ou;rw[nB 4 [] (by simp[cX])];simp only[cz,cT]
 obtain⟨o,m,l⟩:=ug (ρ:=Tm) (F:=M4 λ(h:Int) (i:Int) (v167:Int) (v168:Int) (j:List Ty) (k:List Tm)=>
   if mV h 0=true then some (eA.next (dX .i64 h 1,5,0,0,[],[Tm.mk i v167 (Ty.mk v168 j) k]))else some (eA.zO (h,i,v167,v168,j,k)))
  (λs=>0<=s.1/\s.1<=n/\(∀g,dF g (Tm.mk s.2.1 s.2.2.1 (Ty.mk s.2.2.2.1 s.2.2.2.2.1) s.2.2.2.2.2) .nat)/\(Tm.mk s.2.1 s.2.2.1 (Ty.mk s.2.2.2.1 s.2.2.2.2.1) s.2.2.2.2.2).abf+s.1=n+1)
  (λs=>s.1.toNat)
  (λo=>match o with|.inl s=>(∀g,dF g (Tm.mk s.2.1 s.2.2.1 (Ty.mk s.2.2.2.1 s.2.2.2.2.1) s.2.2.2.2.2) .nat)/\(Tm.mk s.2.1 s.2.2.1 (Ty.mk s.2.2.2.1 s.2.2.2.2.1) s.2.2.2.2.2).abf=n+1|.inr _=>False)
  (by
   rintro⟨a,b,c,d,e,f⟩ ⟨m,l,p,t⟩;simp only at m l p t
   by_cases q:0<a
   ·left;refine⟨_,by simp only[yn,eO,q,if_true];rfl,⟨?_,?_,?_,?_⟩,?_⟩
    ·rw[dW (by omega) (by omega)];show 0<=a-1;omega
    ·rw[dW (by omega) (by omega)];show a-1<=n;omega
    ·intro g;exact dF.succ (p g)
    ·rw[dW (by omega) (by omega)];rw[Tm.cI];simp only[cX]
     push_cast
     omega
    ·rw[dW (by omega) (by omega)];show(a-1).toNat<a.toNat;omega
   ·right;left;refine⟨_,by simp only[yn,eO,q,lG];rfl,p,?_⟩
    have:a=0:=by omega
    subst this
    simp only;omega)
  FU ((n:Int),4,0,0,[],[]) ⟨by simp,by simp,λg=>dF.zero,by rw[Tm.cI];simp[cX];omega⟩ (by rw[dP];show(n:Int).toNat<_;omega)
 simp only[Tm.df,Tm.eE,Tm.dI,Ty.df,Ty.cZ,Tm.cZ];rw[m];cases o with
 |inr r=>exact l.elim|inl s=>
  obtain⟨a,b,c,d,e,f⟩:=s;exact⟨_,rfl,λg=>⟨l.1 g,l.2⟩⟩
def FI(n:Int)(b:0<=n)(hn:n<=4000):∃x,AD n=some x/\∀g,dF g x .nat/\(x.abf:Int)=n+1:=by
 obtain⟨k,rfl⟩:=Yg b;obtain⟨x,c,a⟩:=Au k (by omega);unfold AD rn;simp only[lL,gP];rw[cB (by omega),cB (by omega),c];exact⟨x,rfl,λg=>⟨(a g).1,by rw[(a g).2];simp⟩⟩
structure KE (g:List Ty) (x:Tm) (t:Ty) (n:Nat):Prop where
 ty:dF g x t
 abf:x.abf<=n
def KE.wt{g:List Ty}{x:Tm}{t:Ty}{n:Nat}(h:KE g x t n):x.wt<=65*n:=by
 have:=x.hZ h.ty.ok;have:=h.abf;omega
def KE.mono{g:List Ty}{x:Tm}{t:Ty}{n m:Nat}(h:KE g x t n)(hm:n<=m):KE g x t m:=⟨h.ty,Av h.abf hm⟩
def IP{k:Int}{a:Tm}(b:a.wt<=100000000):eF k [a]=some (.mk k 0 .z [a]):=nB k [a] (by simp[cX];omega)
def sH{k:Int}{a b:Tm}(c:a.wt<=100000000)(d:b.wt<=100000000):eF k [a,b]=some (.mk k 0 .z [a,b]):=nB k [a,b] (by simp[cX];omega)
def CQ{k:Int}:eF k []=some (.mk k 0 .z []):=nB k [] (by simp[cX])
def xB{k:Int}{s:Ty}{a:Tm}(hs:s.abf<=1000000000)(b:a.wt<=100000000):j1 k s [a]=some (.mk k 0 s [a]):=CB k s [a] hs (by simp[cX];omega)
def ze{k:Int}{s:Ty}{a b c:Tm}(hs:s.abf<=1000000000)(d:a.wt<=100000000)(e:b.wt<=100000000)(f:c.wt<=100000000):j1 k s [a,b,c]=some (.mk k 0 s [a,b,c]):=
 CB k s [a,b,c] hs (by simp[cX];omega)
def Lc{f a b:Tm}(c:f.wt<=10000000)(d:a.wt<=10000000)(e:b.wt<=10000000):z8 f [a,b]=some (.mk 3 0 .z [.mk 3 0 .z [f,a],b]):=by
 have g:(Tm.mk 3 0 .z [f,a]).wt<=30000000:=by rw[Tm.gh];have:Ty.z.abf=1:=rfl;simp[cX,this];omega
 unfold z8
 simp only[cW (l:=[a,b]) (by simp),cL,cT,dC,oA,CY,Ty.ke,Tm.ke,sH (k:=3) (a:=f) (b:=a) (by omega) (by omega),cz,dL,sH (k:=3) (a:=.mk 3 0 .z [f,a]) (b:=b) (by omega) (by omega),cQ]
def Ty.fZ:Ty.nat.err=0:=Ty.tB Ty.Nt (by rw[Ty.ga];omega)
def Ty.nO:Ty.mT.err=0:=Ty.tB Ty.OV (by rw[Ty.mM];omega)
def Ty.DV:Ty.unit.err=0:=Ty.tB Ty.KZ (by rw[Ty.Da];omega)
def Ty.tF{a b:Ty}(c:a.err=0)(d:b.err=0)(h:a.abf+b.abf<=63):(Ty.fn a b).err=0:=Ty.tB (Ty.ok_two (.inr rfl) (Ty.jt c).1 (Ty.jt d).1) (by rw[Ty.hP];omega)
def Ty.Ky{a b:Ty}(c:a.err=0)(d:b.err=0)(h:a.abf+b.abf<=63):(Ty.pr a b).err=0:=Ty.tB (Ty.ok_two (.inl rfl) (Ty.jt c).1 (Ty.jt d).1) (by rw[Ty.rH];omega)
def Ch(i:Nat):Tm:=.mk 1 i .z []
def jV(s:Ty)(b:Tm):Tm:=.mk 2 0 s [b]
def gv(f a:Tm):Tm:=.mk 3 0 .z [f,a]
def wa:Tm:=.mk 4 0 .z []
def vZ(a:Tm):Tm:=.mk 5 0 .z [a]
def LB(t:Ty)(a b c:Tm):Tm:=.mk 6 0 t [a,b,c]
def Kt:Tm:=jV .nat (jV .nat (LB .nat (Ch 1) (jV .nat (jV .nat (vZ (Ch 0)))) (Ch 0)))
def JA:Tm:=jV .nat (LB .nat wa (jV .nat (jV .nat (Ch 1))) (Ch 0))
def Nk:Tm:=jV .nat (jV .nat (LB .nat (Ch 1) (jV .nat (jV .nat (gv JA (Ch 0)))) (Ch 0)))
def yO(i:Nat):eN (i:Int)=some (Ch i):=rfl
def rR{a:Tm}(b:a.wt<=100000000):jv a=some (jV .nat a):=by
 unfold jv;rw[ed];simp only[cz];rw[xB (by rw[Ty.ga];omega) b];rfl
def rec_eq{a b c:Tm}(d:a.wt<=100000000)(e:b.wt<=100000000)(f:c.wt<=100000000):qn a b c=some (LB .nat a b c):=by
 unfold qn;rw[ed];simp only[cz];rw[ze (by rw[Ty.ga];omega) d e f];rfl
def Fc:r'=some Kt:=by
 unfold r';rw[show eN 1=some (Ch 1)from rfl,show eN 0=some (Ch 0)from rfl];simp only[cz];rw[IP (by decide)];simp only[cz];rw[rR (by decide)];simp only[cz];rw[rR (by decide)];simp only[cz];rw[rec_eq (by decide) (by decide) (by decide)];simp only[cz];rw[rR (by decide)];simp only[cz];rw[rR (by decide)];rfl
def EB:rG=some JA:=by
 unfold rG;rw[show eN 1=some (Ch 1)from rfl,show eN 0=some (Ch 0)from rfl,CQ];simp only[cz];rw[rR (by decide)];simp only[cz];rw[rR (by decide)];simp only[cz];rw[rec_eq (by decide) (by decide) (by decide)];simp only[cz];rw[rR (by decide)];rfl
def GJ:t_=some Nk:=by
 unfold t_;rw[show eN 1=some (Ch 1)from rfl,show eN 0=some (Ch 0)from rfl,EB];simp only[cz];rw[sH (by decide) (by decide)];simp only[cz];rw[rR (by decide)];simp only[cz];rw[rR (by decide)];simp only[cz];rw[rec_eq (by decide) (by decide) (by decide)];simp only[cz];rw[rR (by decide)];simp only[cz];rw[rR (by decide)];rfl
def X4{g:List Ty}{t:Ty}(i:Nat)(h:i<g.length)(a:g[g.length-1-i]?=some t):dF g (Ch i) t:=dF.var i h a
def vB{g:List Ty}{t:Ty}:dF (g++[t]) (Ch 0) t:=dF.var 0 (by simp) (by simp)
def FD{g:List Ty}{s t:Ty}:dF (g++[t]++[s]) (Ch 1) t:=dF.var 1 (by simp) (by simp)
def yk:(Ty.fn .nat .nat).err=0:=Ty.tF Ty.fZ Ty.fZ (by rw[Ty.ga];omega)
def zv:(Ty.fn .nat (Ty.fn .nat .nat)).err=0:=Ty.tF Ty.fZ yk (by rw[Ty.hP,Ty.ga];omega)
def MU(g:List Ty):dF g Kt (.fn .nat (.fn .nat .nat)):=
 .lam zv (.lam yk (.rp Ty.fZ FD (.lam zv (.lam yk (.succ vB))) vB))
def LX(g:List Ty):dF g JA (.fn .nat .nat):=
 .lam yk (.rp Ty.fZ .zero (.lam zv (.lam yk FD)) vB)
def O0(g:List Ty):dF g Nk (.fn .nat (.fn .nat .nat)):=
 .lam zv (.lam yk (.rp Ty.fZ FD (.lam zv (.lam yk (.app (LX _) vB))) vB))
def Gr:Kt.abf=9:=by decide
def H0:Nk.abf=16:=by decide
def pg{α β:Type}{G:Option β->Prop}(P:α->Prop){k:α->Option β}{b:(α->Option β)->Option β}(c:∀a,P a->G (k a))(d:∀j:α->Option β,(∀a,P a->G (j a))->G (b j)):G (db k b):=d k c
def Dg{α γ β:Type}{G:Option β->Prop}(P:α->γ->Prop){k:α->γ->Option β}{b:(α->γ->Option β)->Option β}(d:∀a c,P a c->G (k a c))(e:∀j:α->γ->Option β,(∀a c,P a c->G (j a c))->G (b j)):G (db k b):=e k d
def tb(N:Nat):Nat->Nat
 |0=>3*N|k+1=>30+3*tb N k
def WA{N:Nat}(a:N<=20):∀k,k<=5->tb N k<=18300:=by
 intro k b
 have:k=0\/k=1\/k=2\/k=3\/k=4\/k=5:=by omega
 rcases this with rfl|rfl|rfl|rfl|rfl|rfl<;>simp only[tb]<;>omega
def NX{N k:Nat}:3*N<=tb N k:=by
 induction k with
 |zero=>simp[tb]|succ k a=>simp only[tb];omega
def jb(g:List Ty)(t:Ty)(b:Nat)(o:Option (Tm×c6)):Prop:=∃x a,o=some (x,a)/\a.wf/\KE g x t b
def jb.of{g:List Ty}{t:Ty}{b:Nat}{x:Tm}{d:c6}(a:d.wf)(h:dF g x t)(hn:x.abf<=b):jb g t b (some (x,d)):=⟨x,d,rfl,a,h,hn⟩
structure om (N:Nat) (g:List Ty):Prop where
 all:∀s∈g,s.err=0/\s.abf<=N
def om.app{N:Nat}{g l:List Ty}(h:om N g)(a:∀s∈l,s.err=0/\s.abf<=N):om N (g++l):=
 ⟨λs hs=>by rcases qW.1 hs with h'|h';exact h.all s h';exact a s h'⟩
def Ty.oS{t:Ty}(h:t.err=0):t=.nat\/t=.mT\/t=.unit\/(∃a b,t=.pr a b/\a.err=0/\b.err=0)\/(∃a b,t=.fn a b/\a.err=0/\b.err=0):=by
 cases t with
 |mk k l=>
  have e:=(Ty.jt h).1;rw[Ty.fa] at e;simp only[eJ,kR] at e;have c:=e.1;unfold Ty.want at c
  split at c
  ·rename_i d;injection c with c;have:=Qx.1 c.symm;subst this;rcases d with rfl|rfl|rfl
   ·exact .inl rfl
   ·exact .inr (.inl rfl)
   ·exact .inr (.inr (.inl rfl))
  ·split at c
   ·rename_i d;injection c with c;obtain⟨a,b,rfl⟩:=nW (l:=l) (by omega);have:=Ty.qt d h;rcases d with rfl|rfl
    ·exact .inr (.inr (.inr (.inl ⟨a,b,rfl,this⟩)))
    ·exact .inr (.inr (.inr (.inr ⟨a,b,rfl,this⟩)))
   ·cases c
set_option maxHeartbeats 1000000 in
def Ko(N:Nat)(aH:1<=N)(hN:N<=20):∀(n:Nat) (dep:Int) (g:List Ty) (t:Ty) (d:c6),dep.toNat*(N+1)+t.abf<n->dep<=5->-1000000<=dep-t.abf->g.length+(3+N)*dep.toNat+t.abf<=1000->om N g->t.err=0->t.abf<=N->d.wf->jb g t (if dep<=0 then 3*t.abf else tb N dep.toNat) (fI n d g t dep):=by
 intro n
 induction n with
 |zero=>intro dep g t d h;omega|succ n ih=>
  intro dep g t d hm aI aG hlen hg q p hd;have aJ:=t.dg;have ak:=(Ty.jt q).2
  have deep:0<dep->∀P M O,P.length<=g.length+3->om N P->M.err=0->M.abf<=N->O.wf->jb P M (tb N (dep.toNat-1)) (fI n O P M (dX .i64 dep 1)):=by
   intro e P M O Q T X v h5;obtain⟨k,rfl⟩:∃k:Nat,dep=(k+1:Nat):=⟨dep.toNat-1,by omega⟩
   have e1:((k+1:Nat):Int).toNat=k+1:=by simp
   rw[e1] at hm hlen|-;rw[dW (by omega) (by omega),show((k+1:Nat):Int)-1=(k:Int) by omega]
   have hmul:(k+1)*(N+1)=k*(N+1)+N+1:=by rw[w9];omega
   have al:(3+N)*(k+1)=(3+N)*k+3+N:=by rw[Q_];omega
   obtain⟨x,d1,a1,a2,a3⟩:=ih (k:Int) P M O (by simp;omega) (by omega) (by omega) (by simp;omega) T X v h5;refine⟨x,d1,a1,a2,a3.mono ?_⟩;simp only[RO]
   split
   ·have:k=0:=by omega
    subst this;simp only[tb];omega
   ·simp
  have flat:dep<=0->∀P M O,P.length<=g.length+1->M.abf+1<=t.abf->om N P->M.err=0->O.wf->jb P M (3*M.abf) (fI n O P M (dX .i64 dep 1)):=by
   intro e P M O Q h0 T X h5
   have e1:dep.toNat=0:=by omega
   rw[e1] at hm hlen;rw[dW (by omega) (by omega)]
   have e2:(dep-1).toNat=0:=by omega
   have:=ih (dep-1) P M O (by rw[e2];omega) (by omega) (by omega) (by rw[e2];omega) T X (by omega) h5;rw[cG (by omega)] at this;exact this
  have U:0<dep->(if dep<=0 then 3*t.abf else tb N dep.toNat)=30+3*tb N (dep.toNat-1):=by
   intro e;rw[cB (by omega)];obtain⟨k,hk⟩:∃k,dep.toNat=k+1:=⟨dep.toNat-1,by omega⟩;rw[hk];rfl
  have an:0<dep->tb N (dep.toNat-1)<=18300:=λ_=>WA hN _ (by omega)
  have aa:3*t.abf<=(if dep<=0 then 3*t.abf else tb N dep.toNat):=by
   split
   ·omega
   ·have:=NX (N:=N) (k:=dep.toNat);omega
  generalize (if dep<=0 then 3*t.abf else tb N dep.toNat)=B at U aa|-
  have m:∀{g x t},0<dep->KE g x t (tb N (dep.toNat-1))->x.wt<=1300000:=by
   intro g x t e h;have:=h.wt;have:=an e;omega
  obtain⟨vs,ao,aK,aq⟩:=JC g t (by omega) (λs hs=>by have:=(hg.all s hs).2;omega);rw[fI,ao];simp only[cz];refine Dg (G:=jb g t B) (λa c=>c.wf/\(a=true->vs≠[])) ?_ ?_
  ·--a variable,or ab else
   rintro a d1 ⟨ad,ar⟩;cases a with
   |true=>
    simp only[if_true];have au:=ar rfl
    have aL:1<=vs.length:=by cases vs with|nil=>exact absurd rfl au|cons _ _=>simp
    obtain⟨x,d2,Q,T,X,v⟩:=nT d1 ad (dm vs) (by simp;omega) (by simp;omega);rw[Q];simp only[cF];obtain⟨y,hy,aw⟩:=Gb (l:=vs) T (by simpa using X);rw[hy];simp only[cz];obtain⟨i,rfl,ax,ay⟩:=aq y aw;rw[yO];refine jb.of v (X4 i ax ay) ?_
    have:(Ch i).abf=1:=by unfold Ch;rw[Tm.cI];rfl
    omega
   |false=>
    simp only[qJ,lG];refine pg (G:=jb g t B) c6.wf ?_ ?_
    ·--by ah type
     intro d2 w;rcases Ty.oS q with rfl|rfl|rfl|⟨a,b,rfl,ha,hb⟩|⟨a,b,rfl,ha,hb⟩
     ·--numbers
      simp only[show Ty.nat.abd=1 from rfl,eH,if_true];refine pg (G:=jb g .nat B) c6.wf ?_ ?_
      ·intro d3 Y;obtain⟨x,d4,Q,T,X,v⟩:=nT d3 Y 3 (by omega) (by omega);rw[Q];simp only[cF];obtain⟨y,az,ai⟩:=FI x T (by omega);rw[az];refine jb.of v (ai g).1 ?_;have:=(ai g).2;rw[Ty.ga] at aa;omega
      ·intro j S;simp only[eO]
       split
       ·rename_i e;have U:=U e;obtain⟨x,d4,Q,T,X,v⟩:=nT d2 w 5 (by omega) (by omega);rw[Q];simp only[cF,eH]
        split
        ·obtain⟨a,d5,a1,a2,a3⟩:=deep e g .nat d4 (by omega) hg Ty.fZ p v;rw[a1];simp only[cF];rw[IP (by have:=m e a3;omega)];refine jb.of a2 (.succ a3.ty) ?_;have:=a3.abf;rw[Tm.cI];simp only[cX];omega
        split
        ·rw[Fc];simp only[cz];obtain⟨a,d5,a1,a2,a3⟩:=deep e g .nat d4 (by omega) hg Ty.fZ p v;rw[a1];simp only[cF];obtain⟨b,d6,A,C,o⟩:=deep e g .nat d5 (by omega) hg Ty.fZ p a2;rw[A];simp only[cF];rw[Lc (by decide) (by have:=m e a3;omega) (by have:=m e o;omega)];refine jb.of C (.app (.app (MU g) a3.ty) o.ty) ?_;have:=a3.abf;have:=o.abf;have:=Gr;rw[Tm.cI];simp only[cX,Tm.cI];omega
        split
        ·rw[GJ];simp only[cz];obtain⟨a,d5,a1,a2,a3⟩:=deep e g .nat d4 (by omega) hg Ty.fZ p v;rw[a1];simp only[cF];obtain⟨b,d6,A,C,o⟩:=deep e g .nat d5 (by omega) hg Ty.fZ p a2;rw[A];simp only[cF];rw[Lc (by decide) (by have:=m e a3;omega) (by have:=m e o;omega)];refine jb.of C (.app (.app (O0 g) a3.ty) o.ty) ?_;have:=a3.abf;have:=o.abf;have:=H0;rw[Tm.cI];simp only[cX,Tm.cI];omega
        ·exact S d4 v
       ·exact S d2 w
     ·--lists
      simp only[show Ty.mT.abd=2 from rfl,eH,if_true,show¬(2:Int)=1 by omega,lG];refine Dg (G:=jb g .mT B) (λa c=>c.wf/\(a=true->0<dep)) ?_ ?_
      ·rintro a d3 ⟨Y,e⟩;cases a with
       |true=>
        have e:=e rfl;have U:=U e;simp only[if_true];rw[ed];simp only[cz];obtain⟨a,d5,a1,a2,a3⟩:=deep e g .nat d3 (by omega) hg Ty.fZ (by rw[Ty.ga];omega) Y;rw[a1];simp only[cF];obtain⟨b,d6,A,C,o⟩:=deep e g .mT d5 (by omega) hg Ty.nO p a2;rw[A];simp only[cF];rw[sH (by have:=m e a3;omega) (by have:=m e o;omega)];refine jb.of C (.cons a3.ty o.ty) ?_;have:=a3.abf;have:=o.abf;rw[Tm.cI];simp only[cX];omega
       |false=>
        simp only[qJ,lG];rw[CQ];refine jb.of Y .nil ?_;rw[Tm.cI];simp only[cX];omega
      ·intro j S;simp only[eO]
       split
       ·rename_i e;obtain⟨x,d4,Q,T,X,v⟩:=nT d2 w 2 (by omega) (by omega);rw[Q];simp only[cF];exact S _ d4 ⟨v,λ_=>e⟩
       ·exact S _ d2 ⟨w,λh=>by cases h⟩
     ·simp only[show Ty.unit.abd=5 from rfl,eH,show¬(5:Int)=1 by omega,show¬(5:Int)=2 by omega,show¬(5:Int)=3 by omega,show¬(5:Int)=4 by omega,lG];rw[CQ];refine jb.of w .unit ?_;rw[Tm.cI];simp only[cX];omega
     ·simp only[show(Ty.pr a b).abd=3 from rfl,show(Ty.pr a b).abe=[a,b] from rfl,eH,show¬(3:Int)=1 by omega,show¬(3:Int)=2 by omega,if_true,lG,dk,eD,gz,kf,cz];rw[Ty.rH] at p ak aa
      by_cases e:0<dep
      ·have U:=U e;obtain⟨x,d5,a1,a2,a3⟩:=deep e g a d2 (by omega) hg ha (by omega) w;rw[a1];simp only[cF];obtain⟨y,d6,A,C,o⟩:=deep e g b d5 (by omega) hg hb (by omega) a2;rw[A];simp only[cF];rw[sH (by have:=m e a3;omega) (by have:=m e o;omega)];refine jb.of C (.pair q a3.ty o.ty) ?_;have:=a3.abf;have:=o.abf;rw[Tm.cI];simp only[cX];omega
      ·have aA:=Ty.rH a b;obtain⟨x,d5,a1,a2,a3⟩:=flat (by omega) g a d2 (by omega) (by omega) hg ha w;rw[a1];simp only[cF];obtain⟨y,d6,A,C,o⟩:=flat (by omega) g b d5 (by omega) (by omega) hg hb a2;rw[A];simp only[cF];have:=a3.abf;have:=o.abf;rw[sH (by have:=a3.wt;omega) (by have:=o.wt;omega)];refine jb.of C (.pair q a3.ty o.ty) ?_;rw[Tm.cI];simp only[cX];omega
     ·simp only[show(Ty.fn a b).abd=4 from rfl,show(Ty.fn a b).abe=[a,b] from rfl,eH,show¬(4:Int)=1 by omega,show¬(4:Int)=2 by omega,show¬(4:Int)=3 by omega,if_true,lG,dk,eD,gz,kf,cz];have aA:=Ty.hP a b;rw[nQ g [a] (by simp;omega)];simp only[cz];have R:om N (g++[a]):=hg.app (by intro s hs;rw[xn] at hs;subst hs;exact⟨ha,by omega⟩)
      by_cases e:0<dep
      ·have U:=U e;obtain⟨x,d5,a1,a2,a3⟩:=deep e (g++[a]) b d2 (by simp) R hb (by omega) w;rw[a1];simp only[cF];rw[xB (by omega) (by have:=m e a3;omega)];refine jb.of a2 (.lam q a3.ty) ?_;have:=a3.abf;rw[Tm.cI];simp only[cX];omega
      ·obtain⟨x,d5,a1,a2,a3⟩:=flat (by omega) (g++[a]) b d2 (by simp) (by omega) R hb w;rw[a1];simp only[cF];have:=a3.abf;rw[xB (by omega) (by have:=a3.wt;omega)];refine jb.of a2 (.lam q a3.ty) ?_;rw[Tm.cI];simp only[cX];omega
    ·--a aB,or one of ah context
     intro j S;simp only[eO]
     split
     ·rename_i e;have U:=U e;obtain⟨x,d2,Q,T,X,v⟩:=nT d1 ad 8 (by omega) (by omega);rw[Q];simp only[cF,eH]
      have leaf:∀d,c6.wf d->∃s O,iQ FU d 0=some (s,O)/\s.err=0/\s.abf=1/\O.wf:=by
       intro d hd;obtain⟨s,O,c1,c2,c3,c4⟩:=wE d hd 0 (by omega);have:=s.dg;exact⟨s,O,c1,c2,by omega,c4⟩
      split
      ·obtain⟨s,d3,s1,s2,s3,s4⟩:=leaf d2 v;rw[s1];simp only[cF];rw[nQ g [s] (by simp;omega)];simp only[cz];obtain⟨a,d5,a1,a2,a3⟩:=deep e (g++[s]) t d3 (by simp) (hg.app (by intro u hu;rw[xn] at hu;subst hu;exact⟨s2,by omega⟩)) q p s4;rw[a1];simp only[cF];rw[xB (by omega) (by have:=m e a3;omega)];simp only[cz];obtain⟨b,d6,A,C,o⟩:=deep e g s d5 (by omega) hg s2 (by omega) a2;rw[A];simp only[cF];have w1:=m e a3;rw[sH (by rw[Tm.gh];simp only[cX];omega) (by have:=m e o;omega)];refine jb.of C (.app (.lam (Ty.tF s2 q (by omega)) a3.ty) o.ty) ?_;have:=a3.abf;have:=o.abf;rw[Tm.cI];simp only[cX,Tm.cI];omega
      split
      ·obtain⟨s,d3,s1,s2,s3,s4⟩:=leaf d2 v;rw[s1];simp only[cF];obtain⟨a,d5,a1,a2,a3⟩:=deep e g t d3 (by omega) hg q p s4;rw[a1];simp only[cF];obtain⟨b,d6,A,C,o⟩:=deep e g s d5 (by omega) hg s2 (by omega) a2;rw[A];simp only[cF];have w1:=m e a3;have w2:=m e o;rw[sH (by omega) (by omega)];simp only[cz];rw[IP (by rw[Tm.gh];have:Ty.z.abf=1:=rfl;simp only[cX];omega)];refine jb.of C (.fst (.pair (Ty.Ky q s2 (by omega)) a3.ty o.ty)) ?_;have:=a3.abf;have:=o.abf;rw[Tm.cI];simp only[cX,Tm.cI];omega
      split
      ·rw[ed];simp only[cz];rw[nQ g [.nat,t] (by simp;omega)];simp only[cz]
       have R:om N (g++[.nat,t]):=hg.app (by
        intro u hu;simp only[jz,qc,Oz] at hu;rcases hu with rfl|rfl
        ·exact⟨Ty.fZ,by rw[Ty.ga];omega⟩
        ·exact⟨q,p⟩)
       obtain⟨a,d5,a1,a2,a3⟩:=deep e (g++[.nat,t]) t d2 (by simp) R q p v;rw[a1];simp only[cF];have w1:=m e a3;have nn:=Ty.ga;rw[xB (by omega) (by omega)];simp only[cz];rw[xB (by omega) (by rw[Tm.gh];simp only[cX];omega)];simp only[cz];obtain⟨b,d6,A,C,o⟩:=deep e g t d5 (by omega) hg q p a2;rw[A];simp only[cF];obtain⟨y,d7,y1,y2,y3,y4⟩:=nT d6 C 3 (by omega) (by omega);rw[y1];simp only[cF];obtain⟨z,z1,z2⟩:=FI y y2 (by omega);rw[z1];simp only[cz];have w2:=m e o;have zn:=(z2 g).2;have zw:=z.hZ (z2 g).1.ok
       have e1:(Tm.mk 2 0 .nat [Tm.mk 2 0 t [a]]).wt<=2000000:=by rw[Tm.gh];simp only[cX,Tm.gh];omega
       rw[ze (by omega) (by omega) (by omega) (by omega)];have V:(Ty.fn t t).err=0:=Ty.tF q q (by omega);refine jb.of y4 (.rp q o.ty (.lam (Ty.tF Ty.fZ V (by rw[Ty.hP];omega)) (.lam V (by simpa using a3.ty))) (z2 g).1) ?_;have:=a3.abf;have:=o.abf;rw[Tm.cI];simp only[cX,Tm.cI];omega
      split
      ·rw[ed,eX];simp only[cz];rw[nQ g [.nat,.mT,t] (by simp;omega)];simp only[cz]
       have R:om N (g++[.nat,.mT,t]):=hg.app (by
        intro u hu;simp only[jz,qc,Oz] at hu;rcases hu with rfl|rfl|rfl
        ·exact⟨Ty.fZ,by rw[Ty.ga];omega⟩
        ·exact⟨Ty.nO,by rw[Ty.mM];omega⟩
        ·exact⟨q,p⟩)
       obtain⟨a,d5,a1,a2,a3⟩:=deep e (g++[.nat,.mT,t]) t d2 (by simp) R q p v;rw[a1];simp only[cF];have w1:=m e a3;have nn:=Ty.ga;have ln:=Ty.mM;rw[xB (by omega) (by omega)];simp only[cz];rw[xB (by omega) (by rw[Tm.gh];simp only[cX];omega)];simp only[cz];rw[xB (by omega) (by rw[Tm.gh];simp only[cX,Tm.gh];omega)];simp only[cz];obtain⟨b,d6,A,C,o⟩:=deep e g t d5 (by omega) hg q p a2;rw[A];simp only[cF];obtain⟨c,d7,c1,c2,c3⟩:=deep e g .mT d6 (by omega) hg Ty.nO (by omega) C;rw[c1];simp only[cF];have w2:=m e o;have w3:=m e c3
       have e1:(Tm.mk 2 0 .nat [Tm.mk 2 0 .mT [Tm.mk 2 0 t [a]]]).wt<=2000000:=by rw[Tm.gh];simp only[cX,Tm.gh];omega
       rw[ze (by omega) (by omega) (by omega) (by omega)];have V:(Ty.fn t t).err=0:=Ty.tF q q (by omega);have Z:(Ty.fn .mT (Ty.fn t t)).err=0:=Ty.tF Ty.nO V (by rw[Ty.hP];omega);refine jb.of c2 (.fold q o.ty (.lam (Ty.tF Ty.fZ Z (by rw[Ty.hP,Ty.hP];omega)) (.lam Z (.lam V (by simpa using a3.ty)))) c3.ty) ?_;have:=a3.abf;have:=o.abf;have:=c3.abf;rw[Tm.cI];simp only[cX,Tm.cI];omega
      split
      ·obtain⟨s,d3,s1,s2,s3,s4⟩:=leaf d2 v;rw[s1];simp only[cF];obtain⟨a,d5,a1,a2,a3⟩:=deep e g s d3 (by omega) hg s2 (by omega) s4;rw[a1];simp only[cF];obtain⟨b,d6,A,C,o⟩:=deep e g t d5 (by omega) hg q p a2;rw[A];simp only[cF];have w1:=m e a3;have w2:=m e o;rw[sH (by omega) (by omega)];simp only[cz];rw[IP (by rw[Tm.gh];have:Ty.z.abf=1:=rfl;simp only[cX];omega)];refine jb.of C (.snd (.pair (Ty.Ky s2 q (by omega)) a3.ty o.ty)) ?_;have:=a3.abf;have:=o.abf;rw[Tm.cI];simp only[cX,Tm.cI];omega
      split
      ·--a function of ah context
       rw[cW (by omega),cL];simp only[cT]
       rcases FC (λ_:Unit=>True) (λr:Tm×c6=>jb g t B (some r)) (F:=λ(E:Int) (aC:Ty) (_:Unit)=>
         cA (c_ g (dX .i64 (dX .i64 (dm g) 1) E)) λD=>
          if D.abd=4 then cA (c_ D.abe 1) λae=>cA (dR FU ae t) λaf=>
           if af=true then cA (eN E) λH=>cA (c_ D.abe 0) λI=>cN (fI n d2 g I (dX .i64 dep 1)) λJ K=>
            cA (eF 3 [H,J]) λL=>some (eA.ret (L,K))
           else some (eA.next ())
          else if false=true then cA (eN E) λH=>cA (c_ D.abe 0) λI=>cN (fI n d2 g I (dX .i64 dep 1)) λJ K=>
            cA (eF 3 [H,J]) λL=>some (eA.ret (L,K))
           else some (eA.next ())) g 0 () trivial (by
        intro k u s hk _;have aD:k<g.length:=(oM.1 hk).1
        have W:g.length-1-k<g.length:=by omega
        have e1:c_ g (dX .i64 (dX .i64 (dm g) 1) ((0+k:Nat):Int))=some g[g.length-1-k]:=by
         rw[sy,et,dW (a:=(g.length:Int)) (b:=1) (by omega) (by omega),dW (by omega) (by omega),show(g.length:Int)-1-(k:Int)=((g.length-1-k:Nat):Int) by omega,hB];simp[W]
        simp only[e1,cz];have hf:=hg.all _ (BT W);have aj:g[g.length-1-k]?=some g[g.length-1-k]:=na W;generalize g[g.length-1-k]=f at hf aj|-;rcases Ty.oS hf.1 with rfl|rfl|rfl|⟨a,b,rfl,ha,hb⟩|⟨a,b,rfl,ha,hb⟩
        ·left;exact⟨(),rfl,trivial⟩
        ·left;exact⟨(),rfl,trivial⟩
        ·left;exact⟨(),rfl,trivial⟩
        ·left;exact⟨(),rfl,trivial⟩
        ·simp only[show(Ty.fn a b).abd=4 from rfl,show(Ty.fn a b).abe=[a,b] from rfl,eH,if_true,dk,eD,gz,kf,cz];have aE:=hf.2;rw[Ty.hP] at aE;rw[gl (by omega)];simp only[cz];cases hs:b.jA t with
         |false=>left;exact⟨(),rfl,trivial⟩|true=>
          rw[Ty.jj] at hs;subst hs;right;simp only[if_true,sy];rw[yO];simp only[cz];obtain⟨y,d5,a1,a2,a3⟩:=deep e g a d2 (by omega) hg ha (by omega) v;rw[a1];simp only[cF];have w1:=m e a3
          have e2:(Ch k).wt=2:=by unfold Ch;rw[Tm.gh];rfl
          rw[sH (by omega) (by omega)];refine⟨_,rfl,jb.of a2 (.app (X4 k aD aj) a3.ty) ?_⟩;have:=a3.abf
          have e3:(Ch k).abf=1:=by unfold Ch;rw[Tm.cI];rfl
          rw[Tm.cI];simp only[cX];omega)with⟨s,hs,_⟩|⟨r,hr,aF⟩
       ·rw[hs];exact S d2 v
       ·rw[hr];exact aF
      ·exact S d2 v
     ·exact S d1 ad
  ·intro j S;simp only[eO,et]
   split
   ·rename_i e;obtain⟨x,d2,Q,T,X,v⟩:=nT d hd 3 (by omega) (by omega);rw[Q];simp only[cF];exact S _ d2 ⟨v,λ_ h=>by subst h;simp at e⟩
   ·exact S _ d ⟨hd,λh=>by cases h⟩
inductive iy:List Ty->Fm->Prop
 |eq {g a b}:dF g a .nat->dF g b .nat->iy g (.mk 1 .z [a,b] [])|two {g k a b}:k=2\/k=3->iy g a->iy g b->iy g (.mk k .z [] [a,b])|q {g k s a}:k=4\/k=5\/k=6\/k=7->s.err=0->iy (g++[s]) a->iy g (.mk k s [] [a])
def iy.ok{g:List Ty}{f:Fm}(h:iy g f):f.ok=true:=by
 induction h with
 |eq c d=>simp[Fm.fa,Fm.node,Ty.mS,c.ok,d.ok]|two e _ _ i j=>
  rename_i k a b _ _
  have:¬k=1:=by omega
  simp[Fm.fa,Fm.node,Ty.mS,e,this,i,j]
 |q e hs _ l=>
  rename_i k s a _
  have c:¬k=1:=by omega
  have d:¬(k=2\/k=3):=by omega
  have m:i_ k=true:=by simp[i_,e]
  simp[Fm.fa,Fm.node,c,d,m,hs,l]
def Lp{a b:Tm}(c:a.wt<=1000000000)(d:b.wt<=1000000000):pT a b=some (.mk 1 .z [a,b] []):=by
 unfold pT;rw[k_ c,k_ d];rfl
def DW{k:Int}{a b:Fm}(c:a.wt<=1000000000)(d:b.wt<=1000000000):lN k a b=some (.mk k .z [] [a,b]):=by
 unfold lN;rw[nA c,nA d];rfl
def EK{k:Int}{s:Ty}{a:Fm}(hs:s.abf<=1000000000)(b:a.wt<=1000000000):js k s a=some (.mk k s [] [a]):=by
 unfold js;rw[gI hs,nA b];rfl
def fb:Nat->Nat
 |0=>115|k+1=>1+2*fb k
def Xt:∀k,k<=5->fb k<=3711:=by
 intro k a
 have:k=0\/k=1\/k=2\/k=3\/k=4\/k=5:=by omega
 rcases this with rfl|rfl|rfl|rfl|rfl|rfl<;>decide
structure AB (g:List Ty) (f:Fm) (n:Nat):Prop where
 ty:iy g f
 abf:f.abf<=n
def AB.wt{g:List Ty}{f:Fm}{n:Nat}(h:AB g f n):f.wt<=65*n:=by
 have:=f.hZ h.ty.ok;have:=h.abf;omega
def AB.err{g:List Ty}{f:Fm}{n:Nat}(h:AB g f n)(hn:n<=4096):f.err=0:=Fm.tB h.ty.ok (by have:=h.abf;omega)
def qX(g:List Ty)(b:Nat)(o:Option (Fm×c6)):Prop:=∃x a,o=some (x,a)/\a.wf/\AB g x b
def qX.of{g:List Ty}{b:Nat}{x:Fm}{d:c6}(a:d.wf)(h:iy g x)(hn:x.abf<=b):qX g b (some (x,d)):=⟨x,d,rfl,a,h,hn⟩
def De(N:Nat)(b:1<=N)(e:N<=20)(dep:Nat)(a:dep<=5)(g:List Ty)(t:Ty)(d:c6)(j:g.length<=600)(hg:om N g)(f:t.err=0)(c:t.abf<=N)(h:d.wf):jb g t (tb N dep) (fI FU d g t (dep:Int)):=by
 have k:dep*(N+1)<=5*21:=W9 a (by omega);have l:(3+N)*dep<=23*5:=W9 (by omega) a;obtain⟨x,i,a1,a2,a3⟩:=Ko N b e FU (dep:Int) g t d (by rw[dP];simp;omega) (by omega) (by omega) (by simp;omega) hg f c h;refine⟨x,i,a1,a2,a3.mono ?_⟩
 split
 ·have:dep=0:=by omega
  subst this;simp only[tb];omega
 ·simp
def Ez:∀(n k:Nat) (g:List Ty) (d:c6),k<n->k<=5->g.length+k<=500->om 3 g->d.wf->qX g (fb k) (fQ n d g (k:Int)):=by
 intro n
 induction n with
 |zero=>intro k g d h;omega|succ n I=>
  intro k g d R J hlen hg N;rw[fQ];refine pg (G:=qX g (fb k)) c6.wf ?_ ?_
  ·intro d1 K;rw[ed];simp only[cz];obtain⟨a,d2,a1,a2,a3⟩:=De 3 (by omega) (by omega) 1 (by omega) g .nat d1 (by omega) hg Ty.fZ (by rw[Ty.ga];omega) K;rw[show((1:Nat):Int)=1 from rfl] at a1;rw[a1];simp only[cF];obtain⟨b,d3,C,L,f⟩:=De 3 (by omega) (by omega) 1 (by omega) g .nat d2 (by omega) hg Ty.fZ (by rw[Ty.ga];omega) a2;rw[show((1:Nat):Int)=1 from rfl] at C;rw[C];simp only[cF];have e:tb 3 1=57:=rfl;rw[e] at a3 f;rw[Lp (by have:=a3.wt;omega) (by have:=f.wt;omega)];refine qX.of L (.eq a3.ty f.ty) ?_;have:=a3.abf;have:=f.abf
   have W:115<=fb k:=by
    clear R J hlen I
    induction k with
    |zero=>simp[fb]|succ k I=>simp only[fb];omega
   rw[Fm.cI];simp only[cX];omega
  ·intro j O;simp only[eO]
   split
   ·rename_i P;obtain⟨m,rfl⟩:∃m,k=m+1:=⟨k-1,by omega⟩
    have S:dX .i64 ((m+1:Nat):Int) 1=(m:Int):=by rw[dW (by omega) (by omega)];omega
    have T:=Xt m (by omega)
    have deep:∀l D,l.length<=g.length+1->om 3 l->D.wf->qX l (fb m) (fQ n D l (dX .i64 ((m+1:Nat):Int) 1)):=by
     intro l D E F Q;rw[S];exact I m l D (by omega) (by omega) (by omega) F Q
    have ctx:∀s:Ty,s.err=0->s.abf<=3->om 3 (g++[s]):=λs E F=>hg.app (by intro u hu;rw[xn] at hu;subst hu;exact⟨E,F⟩);obtain⟨x,d2,E,F,Q,H⟩:=nT d N 9 (by omega) (by omega);rw[E];simp only[cF,jN,ni,eH]
    have two:∀c:Int,c=2\/c=3->qX g (fb (m+1)) (cN (fQ n d2 g (dX .i64 ((m+1:Nat):Int) 1)) λo d317=>cN (fQ n d317 g (dX .i64 ((m+1:Nat):Int) 1)) λp d321=>cA (lN c o p) λr=>some (r,d321)):=by
     intro c t;obtain⟨a,d3,a1,a2,a3⟩:=deep g d2 (by omega) hg H;rw[a1];simp only[cF];obtain⟨b,d4,C,L,f⟩:=deep g d3 (by omega) hg a2;rw[C];simp only[cF];rw[DW (by have:=a3.wt;omega) (by have:=f.wt;omega)];refine qX.of L (.two t a3.ty f.ty) ?_;have:=a3.abf;have:=f.abf;rw[Fm.cI];simp only[cX,fb];omega
    split
    ·exact two 2 (.inl rfl)
    split
    ·exact two 3 (.inr rfl)
    have one:∀c:Int,c=4\/c=5->qX g (fb (m+1)) (cN (iQ FU d2 1) λi v=>cA (kU g [i]) λw=>cN (fQ n v w (dX .i64 ((m+1:Nat):Int) 1)) λz A=>cA (js c i z) λB=>some (B,A)):=by
     intro c t;obtain⟨s,d3,s1,s2,U,M⟩:=wE d2 H 1 (by omega);rw[show((1:Nat):Int)=1 from rfl] at s1;rw[s1];simp only[cF];rw[nQ g [s] (by simp;omega)];simp only[cz];obtain⟨a,d4,a1,a2,a3⟩:=deep (g++[s]) d3 (by simp) (ctx s s2 (by omega)) M;rw[a1];simp only[cF];rw[EK (by omega) (by have:=a3.wt;omega)];refine qX.of a2 (.q (by omega) s2 a3.ty) ?_;have:=a3.abf;rw[Fm.cI];simp only[cX,fb];omega
    split
    ·exact one 4 (.inl rfl)
    split
    ·exact one 5 (.inr rfl)
    split
    ·obtain⟨s,d3,s1,s2,U,M⟩:=wE d2 H 0 (by omega);rw[show((0:Nat):Int)=0 from rfl] at s1;rw[s1];simp only[cF];obtain⟨y,d5,V,X,y3,y4⟩:=nT d3 M 2 (by omega) (by omega);rw[V];simp only[cF];rw[nQ g [s] (by simp;omega)];simp only[cz];obtain⟨a,d4,a1,a2,a3⟩:=deep (g++[s]) d5 (by simp) (ctx s s2 (by omega)) y4;rw[a1];simp only[cF];rw[dJ (by omega) (by omega),EK (by omega) (by have:=a3.wt;omega)];refine qX.of a2 (.q (by omega) s2 a3.ty) ?_;have:=a3.abf;rw[Fm.cI];simp only[cX,fb];omega
    ·exact O d2 H
   ·exact O d N
def Bw(k:Nat)(a:k<=5)(g:List Ty)(d:c6)(c:g.length<=400)(hg:om 3 g)(b:d.wf):qX g (fb k) (fQ FU d g (k:Int)):=
 Ez FU k g d (by rw[dP];omega) a (by omega) hg b
def E6(d:c6)(j:d.wf):∃g h,rL d=some (g,h)/\h.wf/\g.length<=3/\om 3 g:=by
 unfold rL;obtain⟨x,d1,k,m,t,n⟩:=nT d j 4 (by omega) (by omega);rw[k];simp only[cF,cT]
 obtain⟨o,p,f⟩:=ug (ρ:=List Ty×c6) (F:=Jc λ(v218:List Ty) (a:Int) (b:c6)=>
   if mV a 0=true then cN (iQ FU b 1) λc d278=>fh (eC v218 [c])<|some (eA.next (fp v218 [c],dX .i64 a 1,d278))else some (eA.zO (v218,a,b)))
  (λs=>0<=s.2.1/\(s.1.length:Int)+s.2.1<=3/\om 3 s.1/\s.2.2.wf) (λs=>s.2.1.toNat)
  (λo=>match o with|.inl s=>s.1.length<=3/\om 3 s.1/\s.2.2.wf|.inr _=>False)
  (by
   rintro⟨l,i,e⟩ ⟨i1,i2,i3,i4⟩;simp only at i1 i2 i3 i4
   by_cases hi:0<i
   ·left;obtain⟨s,d3,s1,s2,v,q⟩:=wE e i4 1 (by omega);rw[show((1:Nat):Int)=1 from rfl] at s1;refine⟨(l++[s],i-1,d3),?_,⟨?_,?_,?_,q⟩,?_⟩
    ·simp only[tj,eO,hi,if_true,s1,cF];rw[dK (by simp;omega),cL,dW (by omega) (by omega)];rfl
    ·show 0<=i-1;omega
    ·simp;omega
    ·exact i3.app (by intro u hu;rw[xn] at hu;subst hu;exact⟨s2,by omega⟩)
    ·show(i-1).toNat<i.toNat;omega
   ·right;left
    exact⟨(l,i,e),by simp only[tj,eO,hi,lG],by simp only;omega,i3,i4⟩)
  FU ([],x,d1) ⟨m,by simp;omega,⟨by simp⟩,n⟩ (by rw[dP];show x.toNat<_;omega)
 rw[p];cases o with
 |inr r=>exact f.elim|inl s=>
  obtain⟨l,i,e⟩:=s;exact⟨l,e,rfl,f.2.2,f.1,f.2.1⟩
def xw(d:c6)(j:d.wf):∃q c,qk d=some (q,c)/\c.wf/\q.abh.length<=3/\om 3 q.abh/\q.abk.length<=2/\∀f∈q.abk,AB q.abh f (fb 2):=by
 unfold qk;obtain⟨g,d0,g1,g2,g3,g4⟩:=E6 d j;rw[g1];simp only[cF];obtain⟨x,d1,k,m,v,n⟩:=nT d0 g2 3 (by omega) (by omega);rw[k];simp only[cF,cT]
 obtain⟨o,p,b⟩:=ug (ρ:=Sq×c6) (F:=Jc λ(v226:Int) (v227:List Fm) (v228:c6)=>
   if mV v226 0=true then cN (fQ FU v228 g 2) λa d286=>fh (eC v227 [a])<|some (eA.next (dX .i64 v226 1,fp v227 [a],d286))else some (eA.zO (v226,v227,v228)))
  (λs=>0<=s.1/\(s.2.1.length:Int)+s.1<=2/\(∀f∈s.2.1,AB g f (fb 2))/\s.2.2.wf) (λs=>s.1.toNat)
  (λo=>match o with|.inl s=>s.2.1.length<=2/\(∀f∈s.2.1,AB g f (fb 2))/\s.2.2.wf|.inr _=>False)
  (by
   rintro⟨i,l,e⟩ ⟨i1,i2,i3,i4⟩;simp only at i1 i2 i3 i4
   by_cases hi:0<i
   ·left;obtain⟨s,d3,s1,s2,t⟩:=Bw 2 (by omega) g e (by omega) g4 i4;rw[show((2:Nat):Int)=2 from rfl] at s1;refine⟨(i-1,l++[s],d3),?_,⟨?_,?_,?_,s2⟩,?_⟩
    ·simp only[tj,eO,hi,if_true,s1,cF];rw[dK (by simp;omega),cL,dW (by omega) (by omega)];rfl
    ·show 0<=i-1;omega
    ·simp;omega
    ·intro f u;rcases qW.1 u with h|h
     ·exact i3 f h
     ·rw[xn] at h;subst h;exact t
    ·show(i-1).toNat<i.toNat;omega
   ·right;left
    exact⟨(i,l,e),by simp only[tj,eO,hi,lG],by simp only;omega,i3,i4⟩)
  FU (x,[],d1) ⟨m,by simp;omega,by simp,n⟩ (by rw[dP];show x.toNat<_;omega)
 rw[p];cases o with
 |inr r=>exact b.elim|inl s=>
  obtain⟨i,l,e⟩:=s;exact⟨⟨g,l⟩,e,rfl,b.2.2,g3,g4,b.1,b.2.1⟩
def Pj(l:List Int)(h:l.length<=1000):(c6.mk l 0).wf:=⟨h,by simp,by simp⟩
def tz(l:List Ty):Int:=if 16<l.length then 3 else dQ (l.map Ty.err)
def tY(l:List Ty)(e:l.length<=1000000)(h:∀t∈l,t.abf<=1000000000):lC l=some (tz l):=by
 unfold lC tz;simp only[eO,et,cW (l:=l) (by omega),cL,cT]
 by_cases b:16<l.length
 ·rw[cG (by omega),cG b]
 ·rw[cB (by omega),cB b]
  have key:=kE (F:=λ(j:Int) (x:Ty) (_:Unit)=>cA (kq x) λa=>if dr a 0=true then some (eA.ret a)else some (eA.next ())) Ty.err l 0 (by
   intro j x d;rw[vL (h x d)]
   simp only[cz,cR])
  simp only[cR] at key|-;rw[key]
  by_cases c:dQ (l.map Ty.err)=0
  ·simp[c]
  ·simp[c]
def ql(l:List Ty)(e:l.length<=1000000)(h:∀t∈l,t.abf<=1000000000):kl l=some (tz l):=by
 unfold kl tz;simp only[eO,et,cW (l:=l) (by omega),cL,cT]
 by_cases b:16<l.length
 ·rw[cG (by omega),cG b]
 ·rw[cB (by omega),cB b]
  have key:=kE (F:=λ(j:Int) (x:Ty) (_:Unit)=>cA (gW x) λa=>if dr a 0=true then some (eA.ret a)else some (eA.next ())) Ty.err l 0 (by
   intro j x d;rw[kF (h x d)]
   simp only[cz,cR])
  simp only[cR] at key|-;rw[key]
  by_cases c:dQ (l.map Ty.err)=0
  ·simp[c]
  ·simp[c]
def tN:∀(n:Nat) (a b:Ty),a.abf<=n->a.abf<=1000000000->∃r,eU n a b=some r/\(r=true↔a=b):=by
 intro n
 induction n with
 |zero=>intro t b h;have:=t.dg;omega
 |succ n q=>
  intro a b h s;cases a with
  |mk k l=>
  cases b with
  |mk k' m=>
   rw[Ty.cI] at h s;have u:=Ty.dT l;rw[eU];simp only[Ty.cZ,Ty.df,cT,cW (l:=l) (by omega),cL,jN,ni,cR,et]
   by_cases d:k≠k'\/(l.length:Int)≠m.length
   ·rw[cG d];refine⟨false,rfl,?_⟩;simp only[qJ,UI,Ty.mk.injEq,not_and];rintro rfl rfl;simp at d
   ·rw[cB d];simp only[not_or,wy] at d;obtain⟨rfl,hlen⟩:=d
    have c:l.length=m.length:=by omega
    let p:Ty->Ty->Bool:=λx y=>(eU n x y).getD false
    have i:∀x∈l,∀y,eU n x y=some (p x y)/\(p x y=true↔x=y):=by
     intro x f y;have:=da Ty.abf f;obtain⟨r,o,g⟩:=q x y (by omega) (by omega)
     have e:p x y=r:=by show(eU n x y).getD false=r;rw[o];rfl
     rw[e];exact⟨o,g⟩
    have key:=tT (F:=λ(j:Int) (x:Ty) (_:Unit)=>cA (c_ m j) λy=>cA (eU n x y) λz=>if z=true then some (eA.next ())else some (eA.ret false)) p m l 0 m rfl c (by
     intro k x y f hy;rw[hB,hy];simp only[cz];rw[(i x f y).1]
     rfl)
    rw[key];have he:=tU p l m λx f y=>(i x f y).2;cases g:sb p l m with
    |false=>exact⟨false,rfl,by rw[g] at he;simpa using he⟩
    |true=>exact⟨true,rfl,by rw[g] at he;simpa using he⟩
def tX:∀(n:Nat) (a b:Tm),a.wt<=n->a.wt<=1000000000->∃r,gx n a b=some r/\(r=true↔a=b):=by
 intro n
 induction n with
 |zero=>intro t b h;have:=t.gU;omega
 |succ n D=>
  intro a b h E;cases a with
  |mk k i s l=>
  cases b with
  |mk k' f u m=>
   rw[Tm.gh] at h E;have H:=Tm.lQ l;rw[gx];simp only[Tm.cZ,Tm.df,Tm.eE,Tm.dI,cT,cW (l:=l) (by omega),cL,cR,et]
   have no:¬(k=k'/\i=f/\s=u/\l.length=m.length)->∃r,some false=some r/\(r=true↔Tm.mk k i s l=Tm.mk k' f u m):=by
    intro hn;refine⟨false,rfl,?_⟩;simp only[qJ,UI,Tm.mk.injEq,not_and];rintro rfl rfl rfl rfl;exact hn ⟨rfl,rfl,rfl,rfl⟩
   by_cases g:k≠k'
   ·rw[cG g,cG trivial];exact no λh=>g h.1
   ·rw[cB g]
    by_cases hi:i≠f
    ·rw[cG hi,cG trivial];exact no λh=>hi h.2.1
    ·rw[cB hi];obtain⟨r,G,A⟩:=tN FU s u (by rw[dP];omega) (by omega);rw[G];simp only[cz]
     by_cases o:r=true
     ·have hs:=A.1 o;rw[cG o]
      by_cases hlen:(l.length:Int)≠m.length
      ·rw[cG hlen];exact no λh=>hlen (by omega)
      ·rw[cB hlen]
       have c:l.length=m.length:=by omega
       let p:Tm->Tm->Bool:=λx y=>(gx n x y).getD false
       have B:∀x∈l,∀y,gx n x y=some (p x y)/\(p x y=true↔x=y):=by
        intro x d y;have:=da Tm.wt d;obtain⟨r,C,q⟩:=D x y (by omega) (by omega)
        have e:p x y=r:=by show(gx n x y).getD false=r;rw[C];rfl
        rw[e];exact⟨C,q⟩
       have key:=tT (F:=λ(j:Int) (x:Tm) (_:Unit)=>cA (c_ m j) λy=>cA (gx n x y) λz=>if z=true then some (eA.next ())else some (eA.ret false)) p m l 0 m rfl c (by
        intro k x y d hy;rw[hB,hy];simp only[cz];rw[(B x d y).1]
        rfl)
       rw[key];have he:=tU p l m λx d y=>(B x d y).2;have v:k=k':=wy.1 g;have hi':i=f:=wy.1 hi;cases q:sb p l m with
       |false=>
        refine⟨false,rfl,?_⟩;rw[q] at he;simp only[qJ,UI,Tm.mk.injEq,not_and];intro _ _ _ w;exact absurd (he.2 w) (by simp)
       |true=>
        refine⟨true,rfl,?_⟩;rw[q] at he;simp only[Om,Tm.mk.injEq];exact⟨v,hi',hs,he.1 rfl⟩
     ·rw[cB o,cG trivial];exact no λh=>o (A.2 h.2.2.1)
def xI:∀(n:Nat) (a b:Tm),a.wt<=n->a.wt<=1000000000->∃r,iv n a b=some r/\(r=true↔a=b):=by
 intro n
 induction n with
 |zero=>intro t b h;have:=t.gU;omega
 |succ n D=>
  intro a b h E;cases a with
  |mk k i s l=>
  cases b with
  |mk k' f u m=>
   rw[Tm.gh] at h E;have H:=Tm.lQ l;rw[iv];simp only[Tm.cZ,Tm.df,Tm.eE,Tm.dI,cT,cW (l:=l) (by omega),cL,cR,et]
   have no:¬(k=k'/\i=f/\s=u/\l.length=m.length)->∃r,some false=some r/\(r=true↔Tm.mk k i s l=Tm.mk k' f u m):=by
    intro hn;refine⟨false,rfl,?_⟩;simp only[qJ,UI,Tm.mk.injEq,not_and];rintro rfl rfl rfl rfl;exact hn ⟨rfl,rfl,rfl,rfl⟩
   by_cases g:k≠k'
   ·rw[cG g,cG trivial];exact no λh=>g h.1
   ·rw[cB g]
    by_cases hi:i≠f
    ·rw[cG hi,cG trivial];exact no λh=>hi h.2.1
    ·rw[cB hi];obtain⟨r,G,A⟩:=tl FU s u (by rw[dP];omega) (by omega);rw[G];simp only[cz]
     by_cases o:r=true
     ·have hs:=A.1 o;rw[cG o]
      by_cases hlen:(l.length:Int)≠m.length
      ·rw[cG hlen];exact no λh=>hlen (by omega)
      ·rw[cB hlen]
       have c:l.length=m.length:=by omega
       let p:Tm->Tm->Bool:=λx y=>(iv n x y).getD false
       have B:∀x∈l,∀y,iv n x y=some (p x y)/\(p x y=true↔x=y):=by
        intro x d y;have:=da Tm.wt d;obtain⟨r,C,q⟩:=D x y (by omega) (by omega)
        have e:p x y=r:=by show(iv n x y).getD false=r;rw[C];rfl
        rw[e];exact⟨C,q⟩
       have key:=tT (F:=λ(j:Int) (x:Tm) (_:Unit)=>cA (c_ m j) λy=>cA (iv n x y) λz=>if z=true then some (eA.next ())else some (eA.ret false)) p m l 0 m rfl c (by
        intro k x y d hy;rw[hB,hy];simp only[cz];rw[(B x d y).1]
        rfl)
       rw[key];have he:=tU p l m λx d y=>(B x d y).2;have v:k=k':=wy.1 g;have hi':i=f:=wy.1 hi;cases q:sb p l m with
       |false=>
        refine⟨false,rfl,?_⟩;rw[q] at he;simp only[qJ,UI,Tm.mk.injEq,not_and];intro _ _ _ w;exact absurd (he.2 w) (by simp)
       |true=>
        refine⟨true,rfl,?_⟩;rw[q] at he;simp only[Om,Tm.mk.injEq];exact⟨v,hi',hs,he.1 rfl⟩
     ·rw[cB o,cG trivial];exact no λh=>o (A.2 h.2.2.1)
def tI{a b:Tm}(hw:a.wt<=1000000000):∃r,oR a b=some r/\(r=true↔a=b):=by
 obtain⟨r,c,d⟩:=tX FU a b (by rw[dP];exact hw) hw;exact⟨r,by unfold oR;rw[c];rfl,d⟩
def yC:∀(k:Nat) (m:Int) (t:Tm),(t.norm k m).2.2=0\/(t.norm k m).2.2=4\/(t.norm k m).2.2=5
 |0,m,t=>by
  rw[Tm.norm]
  split
  ·exact .inl rfl
  ·exact .inr (.inr rfl)
 |k+1,m,t=>by
  rw[Tm.norm]
  split
  ·exact .inr (.inl rfl)
  ·exact .inl rfl
  ·exact yC k _ _
def Ls:∀(k:Nat) (m:Int) (t a:Tm) (n:Int),t.norm k m=(a,n,0)->a.nf=true/\m<=n/\n<=m+k/\(∀k':Nat,n<=m+k'->t.norm k' m=(a,n,0))/\∀k':Nat,m+k'<n->t.norm k' m=(Tm.z,0,5)
 |0,m,t,a,n,h=>by
  rw[Tm.norm] at h
  split at h
  ·rename_i b;obtain⟨c,h⟩:=gL h;rw[<-c];obtain⟨rfl,_⟩:=gL h;refine⟨b,Ki _,by omega,λk' _=>?_,λk' h=>by omega⟩;cases k' with
   |zero=>rw[Tm.norm,cG b]|succ k'=>rw[wT ((v8 _ _).1 b)]
  ·cases h
 |k+1,m,t,a,n,h=>by
  rw[Tm.norm] at h
  split at h
  ·cases h
  ·rename_i hs;obtain⟨c,h⟩:=gL h;rw[<-c];obtain⟨rfl,_⟩:=gL h;have b:=(v8 _ _).2 hs;refine⟨b,Ki _,by omega,λk' _=>?_,λk' h=>by omega⟩;cases k' with
   |zero=>rw[Tm.norm,cG b]|succ k'=>rw[wT hs]
  ·rename_i d hs;obtain⟨e,j,l,f,g⟩:=Ls k (m+1) d a n h;refine⟨e,by omega,by omega,λk' i=>?_,λk' i=>?_⟩
   ·cases k' with
    |zero=>omega|succ k'=>
     rw[wS hs];exact f k' (by omega)
   ·cases k' with
    |zero=>
     rw[Tm.norm,cB];intro b;rw[(v8 _ _).1 b] at hs;cases hs
    |succ k'=>
     rw[wS hs];exact g k' (by omega)
def Cg:∀(k:Nat) (M m:Int) (t a:Tm) (n:Int),0<=M->Sm M t->t.abf<=4096->t.norm k m=(a,n,0)->Sm (M+8192*k) a/\a.abf<=4096
 |0,M,m,t,a,n,d,hs,hn,h=>by
  rw[Tm.norm] at h
  split at h
  ·obtain⟨b,h⟩:=gL h;rw[<-b];exact⟨hs.mono (by omega),hn⟩
  ·cases h
 |k+1,M,m,t,a,n,d,hs,hn,h=>by
  rw[Tm.norm] at h
  split at h
  ·cases h
  ·obtain⟨b,h⟩:=gL h;rw[<-b];exact⟨hs.mono (by omega),hn⟩
  ·rename_i e c;obtain⟨f,g,i⟩:=Hd d t hs (by omega) e c;obtain⟨a1,a2⟩:=Cg k (M+8192) (m+1) e a n (by omega) ⟨f,g,by omega⟩ (by omega) h;exact⟨a1.mono (by omega),a2⟩
def Mr(l:List Int):C9 l=some (decide (l.length<=500)):=by
 unfold C9
 congr 1
 unfold Gd dm;exact G8.2 (by omega)
def oq{k:Int}(a:k≠1)(c:k≠2)(f b i:Int)(s:Ty)(l:List Tm):(Tm.mk k i s l).up f b=.mk k i s (l.map (Tm.up f b)):=by
 rw[Tm.fX,cB (λh=>a h.1)];unfold d_;rw[cB c,vk]
def NG(f b i:Int)(s:Ty)(l:List Tm):(Tm.mk 2 i s l).up f b=.mk 2 i s (l.map (Tm.up (f+1) b)):=by
 rw[Tm.fX,cB (λh=>by have:=h.1;omega)];rfl
def lF{k:Int}(b:k≠1)(c:k≠2)(n i:Int)(a:Tm)(s:Ty)(l:List Tm):Tm.ia n (Tm.mk k i s l) a=.mk k i s (l.map λx=>Tm.ia n x a):=by
 rw[Tm.eZ,cB b];unfold d_;rw[cB c,vk]
def Lm(n i:Int)(a:Tm)(s:Ty)(l:List Tm):Tm.ia n (Tm.mk 2 i s l) a=.mk 2 i s (l.map λx=>Tm.ia (n+1) x a):=by
 rw[Tm.eZ,cB (by decide)];rfl
def Cj{g:List Ty}{t:Ty}{i j:Nat}(h:g[j]?=some t)(hi:i<g.length)(a:g.length-1-i=j):dF g (.mk 1 i .z []) t:=.var i hi (by rw[a];exact h)
def dF.up{g:List Ty}{x:Tm}{t:Ty}(h:dF g x t):∀g1 g2 e:List Ty,g=g1++g2->dF (g1++e++g2) (x.up g2.length e.length) t:=by
 induction h with
 |@var g t i d l=>
  rintro g1 g2 e rfl;rw[Tm.fX,TA];rw[pJ] at d
  by_cases hi:g2.length<=i
  ·rw[cG ⟨rfl,by omega⟩,show(i:Int)+e.length=((i+e.length:Nat):Int) by push_cast;rfl];refine Cj (j:=g1.length+g2.length-1-i) ?_ (by simp<;>omega) (by simp<;>omega);rw[pJ,rf (by omega)] at l;rw[so,rf (by omega)];exact l
  ·rw[cB (λh=>by have:=h.2;omega)];refine Cj (j:=g1.length+e.length+(g2.length-1-i)) ?_ (by simp<;>omega) (by simp<;>omega);rw[pJ,vu (by omega)] at l;rw[vu (by simp<;>omega)];rw[<-l]
   congr 1
   simp;omega
 |@lam g s b t d _ f=>
  rintro g1 g2 e rfl;have:=f g1 (g2++[s]) e (by rw[so]);rw[NG];refine .lam d ?_;rw[pJ,<-so] at this;exact this
 |app _ _ a c=>intro g1 g2 e hg;rw[oq (by decide) (by decide)];exact .app (a g1 g2 e hg) (c g1 g2 e hg)|zero=>intro g1 g2 e hg;rw[oq (by decide) (by decide)];exact .zero|succ _ f=>intro g1 g2 e hg;rw[oq (by decide) (by decide)];exact .succ (f g1 g2 e hg)|rp d _ _ _ a c k=>intro g1 g2 e hg;rw[oq (by decide) (by decide)];exact .rp d (a g1 g2 e hg) (c g1 g2 e hg) (k g1 g2 e hg)|nil=>intro g1 g2 e hg;rw[oq (by decide) (by decide)];exact .nil|cons _ _ a c=>intro g1 g2 e hg;rw[oq (by decide) (by decide)];exact .cons (a g1 g2 e hg) (c g1 g2 e hg)|fold d _ _ _ a c k=>intro g1 g2 e hg;rw[oq (by decide) (by decide)];exact .fold d (a g1 g2 e hg) (c g1 g2 e hg) (k g1 g2 e hg)|pair d _ _ a c=>intro g1 g2 e hg;rw[oq (by decide) (by decide)];exact .pair d (a g1 g2 e hg) (c g1 g2 e hg)|fst _ f=>intro g1 g2 e hg;rw[oq (by decide) (by decide)];exact .fst (f g1 g2 e hg)|snd _ f=>intro g1 g2 e hg;rw[oq (by decide) (by decide)];exact .snd (f g1 g2 e hg)|unit=>intro g1 g2 e hg;rw[oq (by decide) (by decide)];exact .unit
def dF.ia{g:List Ty}{x:Tm}{t:Ty}(h:dF g x t):∀(g1:List Ty) (s:Ty) (g2:List Ty) (a:Tm),g=g1++[s]++g2->dF g1 a s->dF (g1++g2) (Tm.ia g2.length x a) t:=by
 induction h with
 |@var g t i f k=>
  rintro g1 s g2 a rfl c;rw[Tm.eZ,cG rfl];unfold Tm.jI;simp only[pJ,jW,tH] at f k
  by_cases he:(i:Int)=g2.length
  ·rw[cG he]
   have n:s=t:=by
    rw[so,vu (by omega),rf (by simp<;>omega)] at k;rw[show g1.length+(0+1)+g2.length-1-i-g1.length=0 by omega] at k;exact gk k
   subst n;have:=c.up g1 [] g2 (by simp);simpa using this
  ·rw[cB he]
   by_cases hi:(g2.length:Int)<i
   ·rw[cG hi,show(i:Int)-1=((i-1:Nat):Int) by omega];refine Cj (j:=g1.length+g2.length-i) ?_ (by simp<;>omega) (by simp<;>omega);rw[so,rf (by omega)] at k;rw[rf (by omega),<-k]
    congr 1
    omega
   ·rw[cB hi];refine Cj (j:=g1.length+(g2.length-1-i)) ?_ (by simp<;>omega) (by simp<;>omega);rw[vu (by simp<;>omega)] at k;rw[vu (by omega),<-k]
    congr 1
    simp;omega
 |@lam g s b t f _ l=>
  rintro g1 u g2 a rfl c;have:=l g1 u (g2++[s]) a (by simp only[so]) c;rw[Lm];refine .lam f ?_;rw[pJ,<-so] at this;exact this
 |app _ _ d e=>intro g1 s g2 a hg c;rw[lF (by decide) (by decide)];exact .app (d g1 s g2 a hg c) (e g1 s g2 a hg c)|zero=>intro g1 s g2 a hg c;rw[lF (by decide) (by decide)];exact .zero|succ _ l=>intro g1 s g2 a hg c;rw[lF (by decide) (by decide)];exact .succ (l g1 s g2 a hg c)|rp f _ _ _ d e m=>intro g1 s g2 a hg c;rw[lF (by decide) (by decide)];exact .rp f (d g1 s g2 a hg c) (e g1 s g2 a hg c) (m g1 s g2 a hg c)|nil=>intro g1 s g2 a hg c;rw[lF (by decide) (by decide)];exact .nil|cons _ _ d e=>intro g1 s g2 a hg c;rw[lF (by decide) (by decide)];exact .cons (d g1 s g2 a hg c) (e g1 s g2 a hg c)|fold f _ _ _ d e m=>intro g1 s g2 a hg c;rw[lF (by decide) (by decide)];exact .fold f (d g1 s g2 a hg c) (e g1 s g2 a hg c) (m g1 s g2 a hg c)|pair f _ _ d e=>intro g1 s g2 a hg c;rw[lF (by decide) (by decide)];exact .pair f (d g1 s g2 a hg c) (e g1 s g2 a hg c)|fst _ l=>intro g1 s g2 a hg c;rw[lF (by decide) (by decide)];exact .fst (l g1 s g2 a hg c)|snd _ l=>intro g1 s g2 a hg c;rw[lF (by decide) (by decide)];exact .snd (l g1 s g2 a hg c)|unit=>intro g1 s g2 a hg c;rw[lF (by decide) (by decide)];exact .unit
def Ty.Uj{a b c d:Ty}(h:Ty.fn a b=Ty.fn c d):a=c/\b=d:=by unfold Ty.fn at h;simpa using h
def Ty.Ps{a b c d:Ty}(h:Ty.pr a b=Ty.pr c d):a=c/\b=d:=by unfold Ty.pr at h;simpa using h
def dF.dN{g:List Ty}{x:Tm}{t:Ty}(h:dF g x t)(l:x.root=true):dF g x.dN t:=by
 cases h with
 |@app _ f a s _ c j=>
  have d:f.abd=2:=by simpa[Tm.root,Tm.kd] using l
  generalize o:Ty.fn s t=q at c
  cases c<;>simp only[Tm.df] at d<;>first|omega|skip
  rename_i w b p e i;obtain⟨rfl,rfl⟩:=Ty.Uj o;have:=i.ia g s [] a (by simp) j;simpa[Tm.dN] using this
 |@rp _ _ b s n c j e i=>
  have d:n.abd=4\/n.abd=5:=by simpa[Tm.root,Tm.kd] using l
  cases i<;>simp only[Tm.df] at d<;>first|omega|skip
  ·simpa[Tm.dN] using j
  ·rename_i m k;have:=dF.app (.app e k) (dF.rp c j e k);simpa[Tm.dN,jl,Ty.z] using this
 |@fold _ _ b s n c j e i=>
  have d:n.abd=7\/n.abd=8:=by simpa[Tm.root,Tm.kd] using l
  cases i<;>simp only[Tm.df] at d<;>first|omega|skip
  ·simpa[Tm.dN] using j
  ·rename_i u v k r;have:=dF.app (.app (.app e k) r) (dF.fold c j e r);simpa[Tm.dN,jl,Ty.z] using this
 |@fst _ a s p c=>
  have d:a.abd=10:=by simpa[Tm.root,Tm.kd] using l
  generalize o:Ty.pr t p=q at c
  cases c<;>simp only[Tm.df] at d<;>first|omega|skip
  rename_i e i k;obtain⟨rfl,rfl⟩:=Ty.Ps o;simpa[Tm.dN] using i
 |@snd _ a s p c=>
  have d:a.abd=10:=by simpa[Tm.root,Tm.kd] using l
  generalize o:Ty.pr s t=q at c
  cases c<;>simp only[Tm.df] at d<;>first|omega|skip
  rename_i e i k;obtain⟨rfl,rfl⟩:=Ty.Ps o;simpa[Tm.dN] using k
 |_=>simp[Tm.root] at l
def j3{r k i:Int}{s:Ty}{l:List Tm}{b:Tm}(h:(Tm.mk k i s l).Dk r=some (some b)):((Tm.mk k i s l).root=true/\b=(Tm.mk k i s l).dN)\/∃a,Tm.pU r l=some (some a)/\b=.mk k i s a:=by
 rw[Tm.yc] at h
 by_cases c:(Tm.mk k i s l).root=true
 ·rw[cG c] at h
  split at h
  · cases h
  · exact .inl ⟨c,(gk (gk h)).symm⟩
 ·rw[cB c] at h;cases e:Tm.pU r l with
  |none=>rw[e] at h;cases h
  |some o=>
    cases o with
    |none=>rw[e] at h;cases h
    |some a=>rw[e] at h;exact .inr ⟨a,rfl,(gk (gk h)).symm⟩
def iE{r:Int}{a:Tm}{l c:List Tm}(h:Tm.pU r (a::l)=some (some c)):(∃b,a.Dk r=some (some b)/\c=b::l)\/∃m,Tm.pU r l=some (some m)/\c=a::m:=by
 rw[Tm.pU] at h;cases e:a.Dk r with
 |none=>rw[e] at h;cases h
 |some o=>
  cases o with
  |some b=>rw[e] at h;exact .inl ⟨b,rfl,(gk (gk h)).symm⟩
  |none=>
   rw[e] at h;dsimp only at h;cases d:Tm.pU r l with
   |none=>rw[d] at h;cases h
   |some o2=>
    cases o2 with
    |none=>rw[d] at h;cases h
    |some m=>rw[d] at h;exact .inr ⟨m,rfl,(gk (gk h)).symm⟩
def kY{r:Int}{a:List Tm}(h:Tm.pU r []=some (some a)):False:=by rw[Tm.pU] at h;cases h
def dF.Dk{r:Int}{g:List Ty}{x:Tm}{t:Ty}(h:dF g x t):∀n,x.Dk r=some (some n)->dF g n t:=by
 induction h with
 |var i c f=>
  intro n hs;rcases j3 hs with⟨d,rfl⟩|⟨q,e,rfl⟩
  ·exact(dF.var i c f).dN d
  ·exact(kY e).elim
 |lam c f s=>
  intro n hs;rcases j3 hs with⟨d,rfl⟩|⟨q,e,rfl⟩
  ·exact(dF.lam c f).dN d
  ·rcases iE e with⟨o,a,b⟩|⟨m,a,b⟩
   ·subst_vars;exact .lam c (s _ a)
   ·exact(kY a).elim
 |app c f j k=>
  intro n hs;rcases j3 hs with⟨d,rfl⟩|⟨q,e,rfl⟩
  ·exact(dF.app c f).dN d
  ·rcases iE e with⟨o,a,b⟩|⟨m,a,b⟩
   ·subst_vars;exact .app (j _ a) f
   ·rcases iE a with⟨o,l,b⟩|⟨m,l,b⟩
    ·subst_vars;exact .app c (k _ l)
    ·exact(kY l).elim
 |zero=>
  intro n hs;rcases j3 hs with⟨d,rfl⟩|⟨q,e,rfl⟩
  ·exact dF.zero.dN d
  ·exact(kY e).elim
 |succ c s=>
  intro n hs;rcases j3 hs with⟨d,rfl⟩|⟨q,e,rfl⟩
  ·exact(dF.succ c).dN d
  ·rcases iE e with⟨o,a,b⟩|⟨m,a,b⟩
   ·subst_vars;exact .succ (s _ a)
   ·exact(kY a).elim
 |rp p c f u j k v=>
  intro n hs;rcases j3 hs with⟨d,rfl⟩|⟨q,e,rfl⟩
  ·exact(dF.rp p c f u).dN d
  ·rcases iE e with⟨o,a,b⟩|⟨m,a,b⟩
   ·subst_vars;exact .rp p (j _ a) f u
   ·rcases iE a with⟨o,l,b⟩|⟨m,l,b⟩
    ·subst_vars;exact .rp p c (k _ l) u
    ·rcases iE l with⟨o,w,b⟩|⟨m,w,b⟩
     ·subst_vars;exact .rp p c f (v _ w)
     ·exact(kY w).elim
 |nil=>
  intro n hs;rcases j3 hs with⟨d,rfl⟩|⟨q,e,rfl⟩
  ·exact dF.nil.dN d
  ·exact(kY e).elim
 |cons c f j k=>
  intro n hs;rcases j3 hs with⟨d,rfl⟩|⟨q,e,rfl⟩
  ·exact(dF.cons c f).dN d
  ·rcases iE e with⟨o,a,b⟩|⟨m,a,b⟩
   ·subst_vars;exact .cons (j _ a) f
   ·rcases iE a with⟨o,l,b⟩|⟨m,l,b⟩
    ·subst_vars;exact .cons c (k _ l)
    ·exact(kY l).elim
 |fold p c f u j k v=>
  intro n hs;rcases j3 hs with⟨d,rfl⟩|⟨q,e,rfl⟩
  ·exact(dF.fold p c f u).dN d
  ·rcases iE e with⟨o,a,b⟩|⟨m,a,b⟩
   ·subst_vars;exact .fold p (j _ a) f u
   ·rcases iE a with⟨o,l,b⟩|⟨m,l,b⟩
    ·subst_vars;exact .fold p c (k _ l) u
    ·rcases iE l with⟨o,w,b⟩|⟨m,w,b⟩
     ·subst_vars;exact .fold p c f (v _ w)
     ·exact(kY w).elim
 |pair p c f j k=>
  intro n hs;rcases j3 hs with⟨d,rfl⟩|⟨q,e,rfl⟩
  ·exact(dF.pair p c f).dN d
  ·rcases iE e with⟨o,a,b⟩|⟨m,a,b⟩
   ·subst_vars;exact .pair p (j _ a) f
   ·rcases iE a with⟨o,l,b⟩|⟨m,l,b⟩
    ·subst_vars;exact .pair p c (k _ l)
    ·exact(kY l).elim
 |fst c s=>
  intro n hs;rcases j3 hs with⟨d,rfl⟩|⟨q,e,rfl⟩
  ·exact(dF.fst c).dN d
  ·rcases iE e with⟨o,a,b⟩|⟨m,a,b⟩
   ·subst_vars;exact .fst (s _ a)
   ·exact(kY a).elim
 |snd c s=>
  intro n hs;rcases j3 hs with⟨d,rfl⟩|⟨q,e,rfl⟩
  ·exact(dF.snd c).dN d
  ·rcases iE e with⟨o,a,b⟩|⟨m,a,b⟩
   ·subst_vars;exact .snd (s _ a)
   ·exact(kY a).elim
 |unit=>
  intro n hs;rcases j3 hs with⟨d,rfl⟩|⟨q,e,rfl⟩
  ·exact dF.unit.dN d
  ·exact(kY e).elim
def dF.norm{g:List Ty}{t:Ty}:∀(k:Nat) (m:Int) (x a:Tm) (n:Int),dF g x t->x.norm k m=(a,n,0)->dF g a t
 |0,m,x,a,n,b,h=>by
  rw[Tm.norm] at h
  split at h
  ·obtain⟨c,_⟩:=gL h;rw[<-c];exact b
  ·cases h
 |k+1,m,x,a,n,b,h=>by
  rw[Tm.norm] at h
  split at h
  ·cases h
  ·obtain⟨c,_⟩:=gL h;rw[<-c];exact b
  ·rename_i d hs;exact dF.norm k (m+1) d a n (b.Dk _ hs) h
def C6{i:Int}{s:Ty}{l:List Tm}(h:(Tm.mk 1 i s l).ok=true):s=.mk 0 []/\l=[]:=by
 have b:=Tm.pR h;have e:fq 1=0:=rfl;have a:l=[]:=xZ (by omega);subst a;rw[Tm.fa] at h;cases s with
 |mk k l=>simp[Tm.node,iz,Ty.nY,de,dm,fq] at h;refine⟨?_,rfl⟩;obtain⟨c,d⟩:=h;simp_all
def RG(t:Tm):∀g f n c:Int,0<=g->0<=n->0<=c->g+n<=f->(t.up g n).up f c=(t.up (f-n) c).up g n:=by
 induction t using Tm.ind with
 |h k i s l e=>
  intro g f n c hg hn j o;simp only[Tm.fX,BU];have p:=fV k
  congr 1
  ·by_cases b:k=1
   ·subst b;simp only[Xh]
    by_cases a:g<=i
    ·by_cases d:f<=i+n
     ·rw[cG a,cG d,cG (show f-n<=i by omega),cG (show g<=i+c by omega)];omega
     ·rw[cG a,cB d,cB (show¬f-n<=i by omega),cG a]
    ·rw[cB a,cB (show¬f<=i by omega),cB (show¬f-n<=i by omega),cB a]
   ·simp only[b,RR,lG]
  ·refine qo λx m=>?_;simp only[Function.comp];rw[e x m (g+d_ k) (f+d_ k) n c (by omega) hn j (by omega),show f+d_ k-n=f-n+d_ k by omega]
def up_add(t:Tm):∀g f p m:Int,0<=g->0<=p->0<=m->g<=f->f<=g+p->(t.up g p).up f m=t.up g (p+m):=by
 induction t using Tm.ind with
 |h k i s l c=>
  intro g f p m hg d hm j n;simp only[Tm.fX,BU];have o:=fV k
  congr 1
  ·by_cases b:k=1
   ·subst b;simp only[Xh]
    by_cases a:g<=i
    ·rw[cG a,cG (show f<=i+p by omega),cG a];omega
    ·rw[cB a,cB (show¬f<=i by omega),cB a]
   ·simp only[b,RR,lG]
  ·refine qo λx e=>?_;simp only[Function.comp];rw[c x e (g+d_ k) (f+d_ k) p m (by omega) d hm (by omega) (by omega)]
def Hr(x:Tm)(t:Tm):∀g m n:Int,t.ok=true->0<=g->g<=m->m<=g+n->Tm.ia m (t.up g (n+1)) x=t.up g n:=by
 induction t using Tm.ind with
 |h k i s l d=>
  intro g m n b hg e f;have j:=fV k
  by_cases c:k=1
  ·subst c;obtain⟨rfl,rfl⟩:=C6 b;simp only[Tm.fX,Xh,TA,Tm.eZ,if_true];unfold Tm.jI
   by_cases a:g<=i
   ·rw[cG a,cB (by omega),cG (by omega),cG a]
    congr 1
    omega
   ·rw[cB a,cB (by omega),cB (by omega),cB a]
  ·simp only[Tm.fX,c,RR,lG,Tm.eZ,BU]
   congr 1
   refine qo λy hy=>?_;simp only[Function.comp];exact d y hy (g+d_ k) (m+d_ k) n (Tm.dp b y hy) (by omega) (by omega) (by omega)
def Ji(a:Tm)(t:Tm):∀g m n:Int,t.ok=true->0<=g->0<=m->g+m<=n->Tm.ia n (t.up g m) a=(Tm.ia (n-m) t a).up g m:=by
 induction t using Tm.ind with
 |h k i s l j=>
  intro g m n c hg hm o;have p:=fV k
  by_cases d:k=1
  ·subst d;obtain⟨rfl,rfl⟩:=C6 c;simp only[Tm.fX,Xh,TA,Tm.eZ,if_true];unfold Tm.jI
   by_cases b:g<=i
   ·rw[cG b]
    by_cases e:i+m=n
    ·rw[cG e,cG (show i=n-m by omega),up_add a 0 g (n-m) m (by omega) (by omega) hm (by omega) (by omega)]
     congr 1
     omega
    ·rw[cB e,cB (show¬i=n-m by omega)]
     by_cases f:n<i+m
     ·rw[cG f,cG (show n-m<i by omega),Tm.fX,cG ⟨rfl,by omega⟩]
      congr 1
      omega
     ·rw[cB f,cB (show¬n-m<i by omega),Tm.fX,cG ⟨rfl,b⟩];rfl
   ·rw[cB b,cB (by omega),cB (by omega),cB (by omega),cB (by omega),Tm.fX,cB (λh=>b h.2)];rfl
  ·simp only[Tm.fX,d,RR,lG,Tm.eZ,BU]
   congr 1
   refine qo λy hy=>?_;simp only[Function.comp];rw[j y hy (g+d_ k) m (n+d_ k) (Tm.dp c y hy) (by omega) hm (by omega),show n+d_ k-m=n-m+d_ k by omega]
def US(a:Tm)(t:Tm):∀n f c:Int,t.ok=true->0<=n->n<=f->0<=c->(Tm.ia n t a).up f c=Tm.ia n (t.up (f+1) c) (a.up (f-n) c):=by
 induction t using Tm.ind with
 |h k i s l o=>
  intro n f c e hn p g;have q:=fV k
  by_cases j:k=1
  ·subst j;obtain⟨rfl,rfl⟩:=C6 e;simp only[Tm.fX,Xh,TA,Tm.eZ,if_true];unfold Tm.jI
   by_cases b:i=n
   ·rw[cG b,cB (show¬f+1<=i by omega),cG b,RG a 0 f n c (by omega) hn g (by omega)]
   ·rw[cB b]
    by_cases d:n<i
    ·rw[cG d,Tm.fX]
     by_cases m:f+1<=i
     ·rw[cG ⟨rfl,by omega⟩,cG m,cB (by omega),cG (by omega)];simp only[TA]
      congr 1
      omega
     ·rw[cB (λh=>by have:=h.2;omega),cB m,cB b,cG d];rfl
    ·rw[cB d,Tm.fX,cB (λh=>by have:=h.2;omega),cB (show¬f+1<=i by omega),cB b,cB d];rfl
  ·simp only[Tm.fX,j,RR,lG,Tm.eZ,BU]
   congr 1
   refine qo λy hy=>?_;simp only[Function.comp];rw[o y hy (n+d_ k) (f+d_ k) c (Tm.dp e y hy) (by omega) (by omega) g,show f+d_ k-(n+d_ k)=f-n by omega,show f+d_ k+1=f+1+d_ k by omega]
def Qe(a s:Tm)(j:a.ok=true)(hs:s.ok=true)(t:Tm):∀m n:Int,t.ok=true->0<=m->m<=n->Tm.ia n (Tm.ia m t a) s=Tm.ia m (Tm.ia (n+1) t s) (Tm.ia (n-m) a s):=by
 induction t using Tm.ind with
 |h k i ty l o=>
  intro m n d hm hn;have p:=fV k
  by_cases e:k=1
  ·subst e;obtain⟨rfl,rfl⟩:=C6 d;simp only[Tm.eZ,if_true];unfold Tm.jI
   by_cases b:i=m
   ·rw[cG b,cB (show¬i=n+1 by omega),cB (show¬n+1<i by omega),Ji s a 0 m n j (by omega) hm (by omega),Tm.eZ,cG rfl];unfold Tm.jI;rw[cG b]
   ·rw[cB b]
    by_cases c:m<i
    ·rw[cG c,Tm.eZ,cG rfl];unfold Tm.jI
     by_cases f:i=n+1
     ·rw[cG (show i-1=n by omega),cG f,Hr _ s 0 m n hs (by omega) (by omega) (by omega)]
     ·rw[cB (show¬i-1=n by omega),cB f]
      by_cases g:n+1<i
      ·rw[cG (show n<i-1 by omega),cG g,Tm.eZ,cG rfl];unfold Tm.jI;rw[cB (by omega),cG (by omega)]
      ·rw[cB (show¬n<i-1 by omega),cB g,Tm.eZ,cG rfl];unfold Tm.jI;rw[cB b,cG c]
    ·rw[cB c,cB (show¬i=n+1 by omega),cB (show¬n+1<i by omega),Tm.eZ,cG rfl,Tm.eZ,cG rfl];unfold Tm.jI;rw[cB (by omega),cB (by omega),cB b,cB c]
  ·simp only[Tm.eZ,e,lG,BU]
   congr 1
   refine qo λy hy=>?_;simp only[Function.comp];rw[o y hy (m+d_ k) (n+d_ k) (Tm.dp d y hy) (by omega) (by omega),show n+d_ k-(m+d_ k)=n-m by omega,show n+d_ k+1=n+1+d_ k by omega]
inductive lp:Tm->Tm->Prop
 |n0 (k i:Int) (s:Ty):lp (.mk k i s []) (.mk k i s [])|n1 (k i:Int) (s:Ty) {a a':Tm}:lp a a'->lp (.mk k i s [a]) (.mk k i s [a'])|n2 (k i:Int) (s:Ty) {a a' b b':Tm}:lp a a'->lp b b'->lp (.mk k i s [a,b]) (.mk k i s [a',b'])|n3 (k i:Int) (s:Ty) {a a' b b' c c':Tm}:lp a a'->lp b b'->lp c c'->lp (.mk k i s [a,b,c]) (.mk k i s [a',b',c'])|beta (i:Int) (s:Ty) (j:Int) (u:Ty) {b b' a a':Tm}:lp b b'->lp a a'->lp (.mk 3 i s [.mk 2 j u [b],a]) (Tm.ia 0 b' a')|Is (i:Int) (s:Ty) (j:Int) (u:Ty) (c:Tm) {b b':Tm}:lp b b'->lp (.mk 6 i s [b,c,.mk 4 j u []]) b'|Ic (i:Int) (s:Ty) (j:Int) (u:Ty) {b b' c c' n n':Tm}:lp b b'->lp c c'->lp n n'->lp (.mk 6 i s [b,c,.mk 5 j u [n]]) (jl c' [n',.mk 6 i s [b',c',n']])|A4 (i:Int) (s:Ty) (j:Int) (u:Ty) (c:Tm) {b b':Tm}:lp b b'->lp (.mk 9 i s [b,c,.mk 7 j u []]) b'|A_ (i:Int) (s:Ty) (j:Int) (u:Ty) {b b' c c' n n' t t':Tm}:lp b b'->lp c c'->lp n n'->lp t t'->lp (.mk 9 i s [b,c,.mk 8 j u [n,t]]) (jl c' [n',t',.mk 9 i s [b',c',t']])|fst (i:Int) (s:Ty) (j:Int) (u:Ty) (b:Tm) {a a':Tm}:lp a a'->lp (.mk 11 i s [.mk 10 j u [a,b]]) a'|snd (i:Int) (s:Ty) (j:Int) (u:Ty) (a:Tm) {b b':Tm}:lp b b'->lp (.mk 12 i s [.mk 10 j u [a,b]]) b'
def lp.ok{t u:Tm}(h:lp t u):t.ok=true->u.ok=true:=by
 induction h with
 |n0 k i s=>exact id|n1 k i s _ m=>intro d;exact Tm.sK d rfl (by intro t g;rw[xn] at g;subst g;exact m (Tm.dp d _ (by simp)))
 |n2 k i s _ _ e f=>
  intro d;refine Tm.sK d rfl ?_;intro t g;simp only[jz,qc,Oz] at g;rcases g with rfl|rfl
  ·exact e (Tm.dp d _ (by simp))
  ·exact f (Tm.dp d _ (by simp))
 |n3 k i s _ _ _ e f l=>
  intro d;refine Tm.sK d rfl ?_;intro t g;simp only[jz,qc,Oz] at g;rcases g with rfl|rfl|rfl
  ·exact e (Tm.dp d _ (by simp))
  ·exact f (Tm.dp d _ (by simp))
  ·exact l (Tm.dp d _ (by simp))
 |@beta i s j u b o a w _ _ e f=>
  intro d;exact Tm.DG _ (f (Tm.dp d a (by simp))) _ 0 (by omega) (e (Tm.dp (Tm.dp d (Tm.mk 2 j u [b]) (by simp)) b (by simp)))
 |Is i s j u c _ m=>intro d;exact m (Tm.dp d _ (by simp))|@Ic i s j u b o c x n n' _ _ _ e f l=>
  intro d;have z:=e (Tm.dp d _ (by simp));have p:=f (Tm.dp d _ (by simp));have q:=l (Tm.dp (Tm.dp d (Tm.mk 5 j u [n]) (by simp)) _ (by simp));refine yY _ _ p ?_;intro t g;simp only[jz,qc,Oz] at g;rcases g with rfl|rfl
  ·exact q
  ·refine Tm.sK d rfl ?_;intro t g;simp only[jz,qc,Oz] at g;rcases g with rfl|rfl|rfl<;>assumption
 |A4 i s j u c _ m=>intro d;exact m (Tm.dp d _ (by simp))|@A_ i s j u b o c x n n' t B _ _ _ _ e f l r=>
  intro d;have z:=e (Tm.dp d _ (by simp));have p:=f (Tm.dp d _ (by simp));have v:=Tm.dp d (Tm.mk 8 j u [n,t]) (by simp);have q:=l (Tm.dp v _ (by simp));have A:=r (Tm.dp v _ (by simp));refine yY _ _ p ?_;intro y hy;simp only[jz,qc,Oz] at hy;rcases hy with rfl|rfl|rfl
  ·exact q
  ·exact A
  ·refine Tm.sK d rfl ?_;intro y hy;simp only[jz,qc,Oz] at hy;rcases hy with rfl|rfl|rfl<;>assumption
 |@fst i s j u b a w _ m=>intro d;exact m (Tm.dp (Tm.dp d (Tm.mk 10 j u [a,b]) (by simp)) a (by simp))|@snd i s j u a b o _ m=>intro d;exact m (Tm.dp (Tm.dp d (Tm.mk 10 j u [a,b]) (by simp)) b (by simp))
def ZR(f b i:Int)(s:Ty)(l:List Tm):(Tm.mk 3 i s l).up f b=.mk 3 i s (l.map (Tm.up f b)):=oq (by decide) (by decide) f b i s l
def up4(f b i:Int)(s:Ty)(l:List Tm):(Tm.mk 4 i s l).up f b=.mk 4 i s (l.map (Tm.up f b)):=oq (by decide) (by decide) f b i s l
def up5(f b i:Int)(s:Ty)(l:List Tm):(Tm.mk 5 i s l).up f b=.mk 5 i s (l.map (Tm.up f b)):=oq (by decide) (by decide) f b i s l
def up6(f b i:Int)(s:Ty)(l:List Tm):(Tm.mk 6 i s l).up f b=.mk 6 i s (l.map (Tm.up f b)):=oq (by decide) (by decide) f b i s l
def up7(f b i:Int)(s:Ty)(l:List Tm):(Tm.mk 7 i s l).up f b=.mk 7 i s (l.map (Tm.up f b)):=oq (by decide) (by decide) f b i s l
def up8(f b i:Int)(s:Ty)(l:List Tm):(Tm.mk 8 i s l).up f b=.mk 8 i s (l.map (Tm.up f b)):=oq (by decide) (by decide) f b i s l
def up9(f b i:Int)(s:Ty)(l:List Tm):(Tm.mk 9 i s l).up f b=.mk 9 i s (l.map (Tm.up f b)):=oq (by decide) (by decide) f b i s l
def X7(f b i:Int)(s:Ty)(l:List Tm):(Tm.mk 10 i s l).up f b=.mk 10 i s (l.map (Tm.up f b)):=oq (by decide) (by decide) f b i s l
def Zr(f b i:Int)(s:Ty)(l:List Tm):(Tm.mk 11 i s l).up f b=.mk 11 i s (l.map (Tm.up f b)):=oq (by decide) (by decide) f b i s l
def Z2(f b i:Int)(s:Ty)(l:List Tm):(Tm.mk 12 i s l).up f b=.mk 12 i s (l.map (Tm.up f b)):=oq (by decide) (by decide) f b i s l
def Y9(n i:Int)(a:Tm)(s:Ty)(l:List Tm):Tm.ia n (Tm.mk 3 i s l) a=.mk 3 i s (l.map λx=>Tm.ia n x a):=lF (by decide) (by decide) n i a s l
def in4(n i:Int)(a:Tm)(s:Ty)(l:List Tm):Tm.ia n (Tm.mk 4 i s l) a=.mk 4 i s (l.map λx=>Tm.ia n x a):=lF (by decide) (by decide) n i a s l
def in5(n i:Int)(a:Tm)(s:Ty)(l:List Tm):Tm.ia n (Tm.mk 5 i s l) a=.mk 5 i s (l.map λx=>Tm.ia n x a):=lF (by decide) (by decide) n i a s l
def in6(n i:Int)(a:Tm)(s:Ty)(l:List Tm):Tm.ia n (Tm.mk 6 i s l) a=.mk 6 i s (l.map λx=>Tm.ia n x a):=lF (by decide) (by decide) n i a s l
def in7(n i:Int)(a:Tm)(s:Ty)(l:List Tm):Tm.ia n (Tm.mk 7 i s l) a=.mk 7 i s (l.map λx=>Tm.ia n x a):=lF (by decide) (by decide) n i a s l
def in8(n i:Int)(a:Tm)(s:Ty)(l:List Tm):Tm.ia n (Tm.mk 8 i s l) a=.mk 8 i s (l.map λx=>Tm.ia n x a):=lF (by decide) (by decide) n i a s l
def in9(n i:Int)(a:Tm)(s:Ty)(l:List Tm):Tm.ia n (Tm.mk 9 i s l) a=.mk 9 i s (l.map λx=>Tm.ia n x a):=lF (by decide) (by decide) n i a s l
def Wk(n i:Int)(a:Tm)(s:Ty)(l:List Tm):Tm.ia n (Tm.mk 10 i s l) a=.mk 10 i s (l.map λx=>Tm.ia n x a):=lF (by decide) (by decide) n i a s l
def Zj(n i:Int)(a:Tm)(s:Ty)(l:List Tm):Tm.ia n (Tm.mk 11 i s l) a=.mk 11 i s (l.map λx=>Tm.ia n x a):=lF (by decide) (by decide) n i a s l
def Zz(n i:Int)(a:Tm)(s:Ty)(l:List Tm):Tm.ia n (Tm.mk 12 i s l) a=.mk 12 i s (l.map λx=>Tm.ia n x a):=lF (by decide) (by decide) n i a s l
def lp.up{t u:Tm}(h:lp t u):t.ok=true->∀f c:Int,0<=f->0<=c->lp (t.up f c) (u.up f c):=by
 induction h with
 |n0 k i s=>intro _ f c _ _;rw[Tm.fX];exact .n0 _ _ _|n1 k i s _ r=>
  intro e f c g p;have z:=fV k;rw[Tm.fX,Tm.fX];exact .n1 _ _ _ (r (Tm.dp e _ (by simp)) _ _ (by omega) p)
 |n2 k i s _ _ l m=>
  intro e f c g p;have z:=fV k;rw[Tm.fX,Tm.fX];exact .n2 _ _ _ (l (Tm.dp e _ (by simp)) _ _ (by omega) p) (m (Tm.dp e _ (by simp)) _ _ (by omega) p)
 |n3 k i s _ _ _ l m q=>
  intro e f c g p;have z:=fV k;rw[Tm.fX,Tm.fX];exact .n3 _ _ _ (l (Tm.dp e _ (by simp)) _ _ (by omega) p) (m (Tm.dp e _ (by simp)) _ _ (by omega) p) (q (Tm.dp e _ (by simp)) _ _ (by omega) p)
 |@beta i s j u b x a A B D l m=>
  intro e f c g p;have v:=Tm.dp e (Tm.mk 2 j u [b]) (by simp);have w:=Tm.dp v b (by simp);rw[US A x 0 f c (B.ok w) (by omega) g p,Int.sub_zero];simp only[ZR,NG,mi,TA];exact .beta _ _ _ _ (l w _ _ (by omega) p) (m (Tm.dp e _ (by simp)) _ _ g p)
 |Is i s j u c _ r=>
  intro e f d g o;simp only[up6,up4,mi,TA];exact .Is _ _ _ _ _ (r (Tm.dp e _ (by simp)) _ _ g o)
 |@Ic i s j u b x c C n n' _ _ _ l m q=>
  intro e f d g o;have v:=Tm.dp e (Tm.mk 5 j u [n]) (by simp);simp only[jl,ZR,up6,up5,mi,TA];exact .Ic _ _ _ _ (l (Tm.dp e _ (by simp)) _ _ g o) (m (Tm.dp e _ (by simp)) _ _ g o) (q (Tm.dp v _ (by simp)) _ _ g o)
 |A4 i s j u c _ r=>
  intro e f d g o;simp only[up9,up7,mi,TA];exact .A4 _ _ _ _ _ (r (Tm.dp e _ (by simp)) _ _ g o)
 |@A_ i s j u b x c C n n' t E _ _ _ _ l m q y=>
  intro e f d g o;have v:=Tm.dp e (Tm.mk 8 j u [n,t]) (by simp);simp only[jl,ZR,up9,up8,mi,TA];exact .A_ _ _ _ _ (l (Tm.dp e _ (by simp)) _ _ g o) (m (Tm.dp e _ (by simp)) _ _ g o) (q (Tm.dp v _ (by simp)) _ _ g o) (y (Tm.dp v _ (by simp)) _ _ g o)
 |@fst i s j u b a A _ r=>
  intro e f d g o;simp only[Zr,X7,mi,TA];exact .fst _ _ _ _ _ (r (Tm.dp (Tm.dp e (Tm.mk 10 j u [a,b]) (by simp)) _ (by simp)) _ _ g o)
 |@snd i s j u a b x _ r=>
  intro e f d g o;simp only[Z2,X7,mi,TA];exact .snd _ _ _ _ _ (r (Tm.dp (Tm.dp e (Tm.mk 10 j u [a,b]) (by simp)) _ (by simp)) _ _ g o)
def wV{k i:Int}{s:Ty}{a:Tm}{l:List Tm}(h:(Tm.mk k i s (a::l)).ok=true):k≠1:=by
 rintro rfl;have:=(C6 h).2;cases this
def lp.ia{t u:Tm}(h:lp t u){x y:Tm}(q:lp x y)(C:x.ok=true):t.ok=true->∀n:Int,0<=n->lp (Tm.ia n t x) (Tm.ia n u y):=by
 have hy:=q.ok C
 induction h with
 |n0 k i s=>
  intro d n hn;rw[Tm.eZ,Tm.eZ]
  by_cases w:k=1
  ·rw[cG w,cG w];unfold Tm.jI
   by_cases o:i=n
   ·rw[cG o,cG o];exact q.up C 0 n (by omega) hn
   ·rw[cB o,cB o]
    by_cases z:n<i
    ·rw[cG z];exact .n0 _ _ _
    ·rw[cB z];exact .n0 _ _ _
  ·rw[cB w,cB w];exact .n0 _ _ _
 |n1 k i s _ l=>
  intro d n hn;have D:=fV k;rw[Tm.eZ,Tm.eZ,cB (wV d),cB (wV d)];exact .n1 _ _ _ (l (Tm.dp d _ (by simp)) _ (by omega))
 |n2 k i s _ _ e f=>
  intro d n hn;have D:=fV k;rw[Tm.eZ,Tm.eZ,cB (wV d),cB (wV d)];exact .n2 _ _ _ (e (Tm.dp d _ (by simp)) _ (by omega)) (f (Tm.dp d _ (by simp)) _ (by omega))
 |n3 k i s _ _ _ e f g=>
  intro d n hn;have D:=fV k;rw[Tm.eZ,Tm.eZ,cB (wV d),cB (wV d)];exact .n3 _ _ _ (e (Tm.dp d _ (by simp)) _ (by omega)) (f (Tm.dp d _ (by simp)) _ (by omega)) (g (Tm.dp d _ (by simp)) _ (by omega))
 |@beta i s j u b A a E o z e f=>
  intro d n hn;have p:=Tm.dp d (Tm.mk 2 j u [b]) (by simp);have r:=Tm.dp p b (by simp);have v:=Tm.dp d a (by simp);rw[Qe E y (z.ok v) hy A 0 n (o.ok r) (by omega) hn,Int.sub_zero];simp only[Y9,Lm,mi,TA];exact .beta _ _ _ _ (e r _ (by omega)) (f v _ hn)
 |Is i s j u c _ l=>
  intro d n hn;simp only[in6,in4,mi,TA];exact .Is _ _ _ _ _ (l (Tm.dp d _ (by simp)) _ hn)
 |@Ic i s j u b A c F n n' _ _ _ e f g=>
  intro d m hm;have p:=Tm.dp d (Tm.mk 5 j u [n]) (by simp);simp only[jl,Y9,in6,in5,mi,TA];exact .Ic _ _ _ _ (e (Tm.dp d _ (by simp)) _ hm) (f (Tm.dp d _ (by simp)) _ hm) (g (Tm.dp p _ (by simp)) _ hm)
 |A4 i s j u c _ l=>
  intro d n hn;simp only[in9,in7,mi,TA];exact .A4 _ _ _ _ _ (l (Tm.dp d _ (by simp)) _ hn)
 |@A_ i s j u b A c F n n' t G _ _ _ _ e f g B=>
  intro d m hm;have p:=Tm.dp d (Tm.mk 8 j u [n,t]) (by simp);simp only[jl,Y9,in9,in8,mi,TA];exact .A_ _ _ _ _ (e (Tm.dp d _ (by simp)) _ hm) (f (Tm.dp d _ (by simp)) _ hm) (g (Tm.dp p _ (by simp)) _ hm) (B (Tm.dp p _ (by simp)) _ hm)
 |@fst i s j u b a E _ l=>
  intro d n hn;simp only[Zj,Wk,mi,TA];exact .fst _ _ _ _ _ (l (Tm.dp (Tm.dp d (Tm.mk 10 j u [a,b]) (by simp)) _ (by simp)) _ hn)
 |@snd i s j u a b A _ l=>
  intro d n hn;simp only[Zz,Wk,mi,TA];exact .snd _ _ _ _ _ (l (Tm.dp (Tm.dp d (Tm.mk 10 j u [a,b]) (by simp)) _ (by simp)) _ hn)
def lp.QB{k i:Int}{s:Ty}{v:Tm}(h:lp (.mk k i s []) v):v=.mk k i s []:=by
 generalize a:Tm.mk k i s []=x at h;cases h<;>simp only[Tm.mk.injEq,reduceCtorEq,and_false,Pd,RR] at a;obtain⟨rfl,rfl,rfl,_⟩:=a;rfl
def lp.inv1{k i:Int}{s:Ty}{a v:Tm}(h:lp (.mk k i s [a]) v)(d:k≠11)(e:k≠12):∃c,v=.mk k i s [c]/\lp a c:=by
 generalize b:Tm.mk k i s [a]=x at h;cases h<;>simp only[Tm.mk.injEq,reduceCtorEq,and_false,Pd,RR,nC] at b
 ·obtain⟨rfl,rfl,rfl,rfl⟩:=b;exact⟨_,rfl,by assumption⟩
 ·exact absurd b.1 d
 ·exact absurd b.1 e
def lp.inv2{k i:Int}{s:Ty}{a b v:Tm}(h:lp (.mk k i s [a,b]) v)(f:k≠3):∃d e,v=.mk k i s [d,e]/\lp a d/\lp b e:=by
 generalize c:Tm.mk k i s [a,b]=x at h;cases h<;>simp only[Tm.mk.injEq,reduceCtorEq,and_false,Pd,RR,nC] at c
 ·obtain⟨rfl,rfl,rfl,rfl,rfl⟩:=c;exact⟨_,_,rfl,by assumption,by assumption⟩
 ·exact absurd c.1 f
mutual
def Tm.dev:Tm->Tm
 |.mk k i s l=>if(Tm.mk k i s l).root=true then(Tm.mk k i s (Tm.NU l)).dN else .mk k i s (Tm.NU l)
def Tm.NU:List Tm->List Tm
 |[]=>[]|t::l=>t.dev::Tm.NU l
end
def Tm.KX(l:List Tm):Tm.NU l=l.map Tm.dev:=by
 induction l with
 |nil=>rfl|cons t l a=>simp[Tm.NU,a]
def Tm.rS{k i:Int}{s:Ty}{l:List Tm}(h:(Tm.mk k i s l).root=true):(Tm.mk k i s l).dev=(Tm.mk k i s (l.map Tm.dev)).dN:=by rw[Tm.dev,Tm.KX,cG h]
def Tm.tE{k i:Int}{s:Ty}{l:List Tm}(h:¬(Tm.mk k i s l).root=true):(Tm.mk k i s l).dev=Tm.mk k i s (l.map Tm.dev):=by rw[Tm.dev,Tm.KX,cB h]
def MD(i:Int)(s:Ty)(j:Int)(u:Ty)(l:List Tm)(a:Tm):(Tm.mk 3 i s [.mk 2 j u l,a]).root=true:=by simp[Tm.root,Tm.kd]
def Lv(j:Int)(u:Ty)(b:Tm):(Tm.mk 2 j u [b]).dev=.mk 2 j u [b.dev]:=Tm.tE (by simp[Tm.root])
def OE(j:Int)(u:Ty):(Tm.mk 4 j u []).dev=.mk 4 j u []:=Tm.tE (by simp[Tm.root])
def HZ(j:Int)(u:Ty)(b:Tm):(Tm.mk 5 j u [b]).dev=.mk 5 j u [b.dev]:=Tm.tE (by simp[Tm.root])
def PU(j:Int)(u:Ty):(Tm.mk 7 j u []).dev=.mk 7 j u []:=Tm.tE (by simp[Tm.root])
def IN(j:Int)(u:Ty)(a b:Tm):(Tm.mk 8 j u [a,b]).dev=.mk 8 j u [a.dev,b.dev]:=Tm.tE (by simp[Tm.root])
def DI(j:Int)(u:Ty)(a b:Tm):(Tm.mk 10 j u [a,b]).dev=.mk 10 j u [a.dev,b.dev]:=Tm.tE (by simp[Tm.root])
def HM(i:Int)(s:Ty)(j:Int)(u:Ty)(b a:Tm):(Tm.mk 3 i s [.mk 2 j u [b],a]).dev=Tm.ia 0 b.dev a.dev:=by
 rw[Tm.rS (MD _ _ _ _ _ _)];simp only[mi,TA,Lv];simp[Tm.dN]
def HP(i:Int)(s:Ty)(j:Int)(u:Ty)(b c:Tm):(Tm.mk 6 i s [b,c,.mk 4 j u []]).dev=b.dev:=by
 rw[Tm.rS (by simp[Tm.root,Tm.kd])];simp only[mi,TA,OE];simp[Tm.dN]
def IQ(i:Int)(s:Ty)(j:Int)(u:Ty)(b c n:Tm):(Tm.mk 6 i s [b,c,.mk 5 j u [n]]).dev=jl c.dev [n.dev,.mk 6 i s [b.dev,c.dev,n.dev]]:=by
 rw[Tm.rS (by simp[Tm.root,Tm.kd])];simp only[mi,TA,HZ];simp[Tm.dN]
def FX(i:Int)(s:Ty)(j:Int)(u:Ty)(b c:Tm):(Tm.mk 9 i s [b,c,.mk 7 j u []]).dev=b.dev:=by
 rw[Tm.rS (by simp[Tm.root,Tm.kd])];simp only[mi,TA,PU];simp[Tm.dN]
def FT(i:Int)(s:Ty)(j:Int)(u:Ty)(b c n t:Tm):(Tm.mk 9 i s [b,c,.mk 8 j u [n,t]]).dev=jl c.dev [n.dev,t.dev,.mk 9 i s [b.dev,c.dev,t.dev]]:=by
 rw[Tm.rS (by simp[Tm.root,Tm.kd])];simp only[mi,TA,IN];simp[Tm.dN]
def Ld(i:Int)(s:Ty)(j:Int)(u:Ty)(a b:Tm):(Tm.mk 11 i s [.mk 10 j u [a,b]]).dev=a.dev:=by
 rw[Tm.rS (by simp[Tm.root,Tm.kd])];simp only[mi,TA,DI];simp[Tm.dN]
def Lr(i:Int)(s:Ty)(j:Int)(u:Ty)(a b:Tm):(Tm.mk 12 i s [.mk 10 j u [a,b]]).dev=b.dev:=by
 rw[Tm.rS (by simp[Tm.root,Tm.kd])];simp only[mi,TA,DI];simp[Tm.dN]
def Tm.tS{t:Tm}{k:Int}(h:t.abd=k):t=.mk k t.abg t.cD t.abe:=by
 cases t with
 |mk k' i s l=>simp at h;subst h;rfl
def lp.tri{t u:Tm}(h:lp t u):t.ok=true->lp u t.dev:=by
 induction h with
 |n0 k i s=>intro _;rw[Tm.tE (by simp[Tm.root,Tm.kd])];exact .n0 _ _ _|@n1 k i s a H h r=>
  intro g;have m:=Tm.dp g a (by simp);have r:=r m
  by_cases z:(Tm.mk k i s [a]).root=true
  ·have hk:(k=11\/k=12)/\a.abd=10:=by
    have A:=Tm.pR g;have W:fq 3=2:=rfl
    have:k≠3:=by rintro rfl;simp at A;omega
    simpa[Tm.root,Tm.kd,this] using z
   obtain⟨hk,B⟩:=hk;rw[Tm.tS B] at h m r|-;obtain⟨p,q,K⟩:=Tm.X6 m;rw[K] at h m r|-;obtain⟨L,R,rfl,E,M⟩:=h.inv2 (by decide);rw[DI] at r;obtain⟨N,S,e,C,O⟩:=r.inv2 (by decide);simp only[Tm.mk.injEq,Pd,nC,Xh] at e;obtain⟨rfl,rfl⟩:=e;rcases hk with rfl|rfl
   ·rw[Ld];exact .fst _ _ _ _ _ C
   ·rw[Lr];exact .snd _ _ _ _ _ O
  ·rw[Tm.tE z];exact .n1 _ _ _ r
 |@n2 k i s a H b F I T d o=>
  intro g;have m:=Tm.dp g a (by simp);have d:=d m;have o:=o (Tm.dp g b (by simp))
  by_cases z:(Tm.mk k i s [a,b]).root=true
  ·have hk:k=3/\a.abd=2:=by
    have A:=Tm.pR g;have U:fq 11=1:=rfl;have V:fq 12=1:=rfl
    have n1:k≠11:=by rintro rfl;simp at A;omega
    have n2:k≠12:=by rintro rfl;simp at A;omega
    simpa[Tm.root,Tm.kd,n1,n2] using z
   obtain⟨rfl,B⟩:=hk;rw[Tm.tS B] at I m d|-;obtain⟨p,y⟩:=Tm.ok2 m;rw[y] at I m d|-;obtain⟨L,rfl,E⟩:=I.inv1 (by decide) (by decide);rw[Lv] at d;obtain⟨N,e,C⟩:=d.inv1 (by decide) (by decide);simp only[Tm.mk.injEq,Pd,nC,Xh] at e;subst e;rw[HM];exact .beta _ _ _ _ C o
  ·rw[Tm.tE z];exact .n2 _ _ _ d o
 |@n3 k i s a H b F c Q I T v d o f=>
  intro g;have l:=Tm.dp g c (by simp);have d:=d (Tm.dp g a (by simp));have o:=o (Tm.dp g b (by simp));have f:=f l
  by_cases z:(Tm.mk k i s [a,b,c]).root=true
  ·have hk:(k=6/\(c.abd=4\/c.abd=5))\/(k=9/\(c.abd=7\/c.abd=8)):=by
    have A:=Tm.pR g;have X:fq 3=2:=rfl;have U:fq 11=1:=rfl;have V:fq 12=1:=rfl
    have n0:k≠3:=by rintro rfl;simp at A;omega
    have n1:k≠11:=by rintro rfl;simp at A;omega
    have n2:k≠12:=by rintro rfl;simp at A;omega
    simpa[Tm.root,Tm.kd,n0,n1,n2] using z
   rcases hk with⟨rfl,hk|hk⟩|⟨rfl,hk|hk⟩
   ·rw[Tm.tS hk] at v l f|-;have y:=Tm.Yn (.inl rfl) l;rw[y] at v l f|-;obtain rfl:=v.QB;rw[HP];exact .Is _ _ _ _ _ d
   ·rw[Tm.tS hk] at v l f|-;obtain⟨p,y⟩:=Tm.ok5 l;rw[y] at v l f|-;obtain⟨L,rfl,E⟩:=v.inv1 (by decide) (by decide);rw[HZ] at f;obtain⟨N,e,C⟩:=f.inv1 (by decide) (by decide);simp only[Tm.mk.injEq,Pd,nC,Xh] at e;subst e;rw[IQ];exact .Ic _ _ _ _ d o C
   ·rw[Tm.tS hk] at v l f|-;have y:=Tm.Yn (.inr rfl) l;rw[y] at v l f|-;obtain rfl:=v.QB;rw[FX];exact .A4 _ _ _ _ _ d
   ·rw[Tm.tS hk] at v l f|-;obtain⟨p,q,y⟩:=Tm.ok8 l;rw[y] at v l f|-;obtain⟨L,R,rfl,E,M⟩:=v.inv2 (by decide);rw[IN] at f;obtain⟨N,S,e,C,O⟩:=f.inv2 (by decide);simp only[Tm.mk.injEq,Pd,nC,Xh] at e;obtain⟨rfl,rfl⟩:=e;rw[FT];exact .A_ _ _ _ _ d o C O
  ·rw[Tm.tE z];exact .n3 _ _ _ d o f
 |@beta i s j u b F a H E M w x=>
  intro g;have G:=Tm.dp (Tm.dp g (Tm.mk 2 j u [b]) (by simp)) b (by simp);have m:=Tm.dp g a (by simp);rw[HM];exact(w G).ia (x m) (M.ok m) (E.ok G) 0 (by omega)
 |Is i s j u c _ r=>intro g;rw[HP];exact r (Tm.dp g _ (by simp))|@Ic i s j u b F c Q n n' _ _ _ w x D=>
  intro g;have J:=Tm.dp g (Tm.mk 5 j u [n]) (by simp);have g1:=w (Tm.dp g _ (by simp));have g2:=x (Tm.dp g _ (by simp));have g3:=D (Tm.dp J _ (by simp));rw[IQ];exact .n2 _ _ _ (.n2 _ _ _ g2 g3) (.n3 _ _ _ g1 g2 g3)
 |A4 i s j u c _ r=>intro g;rw[FX];exact r (Tm.dp g _ (by simp))|@A_ i s j u b F c Q n n' t Y _ _ _ _ w x D P=>
  intro g;have J:=Tm.dp g (Tm.mk 8 j u [n,t]) (by simp);have g1:=w (Tm.dp g _ (by simp));have g2:=x (Tm.dp g _ (by simp));have g3:=D (Tm.dp J _ (by simp));have g4:=P (Tm.dp J _ (by simp));rw[FT];exact .n2 _ _ _ (.n2 _ _ _ (.n2 _ _ _ g2 g3) g4) (.n3 _ _ _ g1 g2 g4)
 |@fst i s j u b a H _ r=>intro g;rw[Ld];exact r (Tm.dp (Tm.dp g (Tm.mk 10 j u [a,b]) (by simp)) _ (by simp))|@snd i s j u a b F _ r=>intro g;rw[Lr];exact r (Tm.dp (Tm.dp g (Tm.mk 10 j u [a,b]) (by simp)) _ (by simp))
inductive rb:Tm->Tm->Prop
 |refl (t:Tm):rb t t|step {t u v:Tm}:lp t u->rb u v->rb t v
def rb.ok{t u:Tm}(h:rb t u):t.ok=true->u.ok=true:=by
 induction h with
 |refl=>exact id|step h _ a=>exactλb=>a (h.ok b)
def rb.strip{t v:Tm}(h:rb t v):∀u,t.ok=true->lp t u->∃w,rb u w/\lp v w:=by
 induction h with
 |refl t=>exactλu _ hu=>⟨u,.refl _,hu⟩|@step t a v c _ d=>
  intro u b hu;obtain⟨w,e,f⟩:=d t.dev (c.ok b) (c.tri b);exact⟨w,.step (hu.tri b) e,f⟩
def rb.meet{t u:Tm}(h:rb t u):∀v,t.ok=true->rb t v->∃w,rb u w/\rb v w:=by
 induction h with
 |refl t=>exactλv _ b=>⟨v,b,.refl _⟩|@step t a u c _ e=>
  intro v d b;obtain⟨w,f,g⟩:=b.strip a d c;obtain⟨z,i,z2⟩:=e w (c.ok d) f;exact⟨z,i,.step g z2⟩
def ya{k i:Int}{s:Ty}{l:List Tm}(h:(Tm.mk k i s l).nf=true):(Tm.mk k i s l).root=false/\∀a∈l,a.nf=true:=by
 rw[Tm.IC] at h;simpa using h
def lp.nf{t u:Tm}(h:lp t u):t.nf=true->u=t:=by
 induction h with
 |n0=>intro _;rfl|n1 k i s _ d=>intro hn;rw[d ((ya hn).2 _ (by simp))]|n2 k i s _ _ a b=>intro hn;rw[a ((ya hn).2 _ (by simp)),b ((ya hn).2 _ (by simp))]|n3 k i s _ _ _ a b c=>intro hn;rw[a ((ya hn).2 _ (by simp)),b ((ya hn).2 _ (by simp)),c ((ya hn).2 _ (by simp))]|_=>intro hn;have:=(ya hn).1;simp[Tm.root,Tm.kd] at this
def rb.nf{t u:Tm}(h:rb t u):t.nf=true->u=t:=by
 induction h with
 |refl=>intro _;rfl|step h _ a=>
  intro hn;have:=h.nf hn;subst this;exact a hn
def rb.unique{t a b:Tm}(c:t.ok=true)(d:rb t a)(e:rb t b)(f:a.nf=true)(g:b.nf=true):a=b:=by
 obtain⟨w,h,i⟩:=d.meet b c e;rw[<-h.nf f,<-i.nf g]
inductive Jv:List Tm->List Tm->Prop
 |nil:Jv [] []|cons {a b:Tm} {l m:List Tm}:lp a b->Jv l m->Jv (a::l) (b::m)
def lp.list{k i:Int}{s:Ty}:∀{l m:List Tm},Jv l m->l.length<=3->lp (.mk k i s l) (.mk k i s m)
 |_,_,.nil,_=>.n0 _ _ _|_,_,.cons h .nil,_=>.n1 _ _ _ h|_,_,.cons h (.cons a .nil),_=>.n2 _ _ _ h a|_,_,.cons h (.cons a (.cons b .nil)),_=>.n3 _ _ _ h a b|_,_,.cons h (.cons a (.cons b (.cons d _))),c=>by simp at c
def Mj(k:Int):fq k<=3:=by unfold fq;repeat' (first|omega|split)
def Tm.N2{k i:Int}{s:Ty}{l:List Tm}(h:(Tm.mk k i s l).ok=true):l.length<=3:=by
 have:=Tm.pR h;have:=Mj k;omega
def lp.refl(t:Tm):t.ok=true->lp t t:=by
 induction t using Tm.ind with
 |h k i s l c=>
  intro b
  have d:∀m:List Tm,(∀t∈m,t∈l)->Jv m m:=by
   intro m
   induction m with
   |nil=>exactλ_=>.nil|cons t m a=>exactλhm=>.cons (c t (hm t (by simp)) (Tm.dp b t (hm t (by simp)))) (a λu hu=>hm u (by simp[hu]))
  exact lp.list (d l λt h=>h) (Tm.N2 b)
def lp.Rh:∀(l:List Tm),(∀t∈l,t.ok=true)->Jv l l
 |[],_=>.nil|t::l,h=>.cons (lp.refl t (h t (by simp))) (lp.Rh l λu hu=>h u (by simp[hu]))
def lp.dN{t:Tm}(c:t.ok=true)(g:t.root=true):lp t t.dN:=by
 cases Tm.CM c g with
 |@app i s j u b a=>
  rw[show(Tm.mk 3 i s [.mk 2 j u [b],a]).dN=Tm.ia 0 b a by simp[Tm.dN]];exact .beta _ _ _ _ (lp.refl b (Tm.dp (Tm.dp c (.mk 2 j u [b]) (by simp)) b (by simp))) (lp.refl a (Tm.dp c a (by simp)))
 |@zero k l i s j u b st e=>
  have f:=lp.refl b (Tm.dp c b (by simp));rcases e with⟨rfl,rfl⟩|⟨rfl,rfl⟩
  ·rw[show(Tm.mk 6 i s [b,st,.mk 4 j u []]).dN=b by simp[Tm.dN]];exact .Is _ _ _ _ _ f
  ·rw[show(Tm.mk 9 i s [b,st,.mk 7 j u []]).dN=b by simp[Tm.dN]];exact .A4 _ _ _ _ _ f
 |@succ i s j u b st n=>
  rw[show(Tm.mk 6 i s [b,st,.mk 5 j u [n]]).dN=jl st [n,.mk 6 i s [b,st,n]] by simp[Tm.dN]];exact .Ic _ _ _ _ (lp.refl b (Tm.dp c b (by simp))) (lp.refl st (Tm.dp c st (by simp))) (lp.refl n (Tm.dp (Tm.dp c (.mk 5 j u [n]) (by simp)) n (by simp)))
 |@cons i s j u b st h t=>
  have d:=Tm.dp c (.mk 8 j u [h,t]) (by simp);rw[show(Tm.mk 9 i s [b,st,.mk 8 j u [h,t]]).dN=jl st [h,t,.mk 9 i s [b,st,t]] by simp[Tm.dN]];exact .A_ _ _ _ _ (lp.refl b (Tm.dp c b (by simp))) (lp.refl st (Tm.dp c st (by simp))) (lp.refl h (Tm.dp d h (by simp))) (lp.refl t (Tm.dp d t (by simp)))
 |@proj k i s j u a b e=>
  have d:=Tm.dp c (.mk 10 j u [a,b]) (by simp);rcases e with rfl|rfl
  ·rw[show(Tm.mk 11 i s [.mk 10 j u [a,b]]).dN=a by simp[Tm.dN]];exact .fst _ _ _ _ _ (lp.refl a (Tm.dp d a (by simp)))
  ·rw[show(Tm.mk 12 i s [.mk 10 j u [a,b]]).dN=b by simp[Tm.dN]];exact .snd _ _ _ _ _ (lp.refl b (Tm.dp d b (by simp)))
def lp.Dk{r:Int}(t:Tm):∀a,t.ok=true->t.Dk r=some (some a)->lp t a:=by
 induction t using Tm.ind with
 |h k i s l g=>
  intro a c h;rcases j3 h with⟨j,rfl⟩|⟨n,o,rfl⟩
  ·exact lp.dN c j
  ·refine lp.list ?_ (Tm.N2 c)
   have key:∀m:List Tm,(∀t∈m,t∈l)->∀d,Tm.pU r m=some (some d)->Jv m d:=by
    intro m
    induction m with
    |nil=>intro _ d h;exact(kY h).elim|cons t m f=>
     intro hm d h;have b:=Tm.dp c t (hm t (by simp));rcases iE h with⟨a,e,rfl⟩|⟨p,e,rfl⟩
     ·exact .cons (g t (hm t (by simp)) a b e) (lp.Rh m λu hu=>Tm.dp c u (hm u (by simp[hu])))
     ·exact .cons (lp.refl t b) (f (λu hu=>hm u (by simp[hu])) p e)
   exact key l (λt h=>h) n o
def F4:∀(k:Nat) (m:Int) (t a:Tm) (n:Int),t.ok=true->t.norm k m=(a,n,0)->rb t a
 |0,m,t,a,n,b,h=>by
  rw[Tm.norm] at h
  split at h
  ·obtain⟨rfl,_⟩:=gL h;exact .refl _
  ·cases h
 |k+1,m,t,a,n,b,h=>by
  rw[Tm.norm] at h
  split at h
  ·cases h
  ·obtain⟨rfl,_⟩:=gL h;exact .refl _
  ·rename_i c hs;have:=lp.Dk t c b hs;exact .step this (F4 k (m+1) c a n (this.ok b) h)
def RY(x:Tm):Tm.mk x.abd x.abg (Ty.mk x.cD.abd x.cD.abe) x.abe=x:=by
 cases x with
 |mk k i s l=>cases s;rfl
def kh{a:Ty}(h:a.abf<=1000000000):dR FU a a=some true:=by
 obtain⟨r,b,c⟩:=tl FU a a (by rw[dP];exact h) h;rw[b,c.2 rfl]
def ok_eq{t:Ty}(h:t.err=0):qI t=some (t,0):=by
 unfold qI;rw[kF (by have:=(Ty.jt h).2;omega),h];rfl
def dM{t:Ty}(h:t.err=0):t.abf<=64:=by have:=(Ty.jt h).2;omega
inductive TL (n:Nat) (g:List Ty):List Tm->List Ty->Prop
 |nil:TL n g [] []|cons {a:Tm} {t:Ty} {l:List Tm} {ts:List Ty}:dZ n g a=some (t,0)->TL n g l ts->TL n g (a::l) (t::ts)
def mm{n:Nat}{g:List Ty}:∀{l:List Tm} {ts:List Ty} (i:Nat) (v:List Ty),TL n g l ts->v.length+l.length<=1000->dH (λ(e:Int) (d:Tm)=>(λ(a:List Ty)=>
   cN (dZ n g d) λb c=>
   if(dr c 0)=true then(
   some (eA.ret ((Ty.mk 0 []),c)))
   else(fh (eC a [b])<|some (.next (fp a [b])))):Int->Tm->((List Ty))->(Option (eA ((List Ty)) (Ty×Int)))) l i v=some (.inl (v++ts))
 |_,_,i,v,.nil,_=>by simp|_,_,i,v,.cons h f,j=>by
  simp only[jW] at j;rw[dC];simp only[h,cF];rw[cB (by decide),dK (by simp;omega)];simp only[cL,cz,dL];rw[mm (i+1) _ f (by rw[eW];simp;omega),eW];simp
def OP{g:List Ty}{x:Tm}{t:Ty}(h:dF g x t):(∀s∈g,s.err=0)->t.err=0/\∀n:Nat,x.abf<=n->g.length+x.abf<=1000000->dZ n g x=some (t,0):=by
 induction h with
 |@var g t i w A=>
  intro hg;have y:=hg t (DP A);refine⟨y,λn hn e=>?_⟩;rw[Tm.cI] at hn;obtain⟨n,rfl⟩:∃m,n=m+1:=⟨n-1,by omega⟩;rw[Tm.cI] at e;rw[dZ,cG (by rfl),cB (by simp only[Tm.eE,gP,et];omega)];simp only[Tm.eE,et];rw[dW (a:=(g.length:Int)) (by omega) (by omega),dW (by omega) (by omega)]
  have:c_ g ((g.length:Int)-1-(i:Int))=some t:=by
   unfold c_;rw[cG (by omega),<-A]
   congr 1
   omega
  rw[this];simp only[cz];rw[gI (by have:=dM y;omega)];rfl
 |@lam g s b t w _ j=>
  intro hg;have hs:=(Ty.qt (.inr rfl) w).1;have z:=(Ty.qt (.inr rfl) w).2
  obtain⟨_,j⟩:=j (by
   intro u hu;rcases qW.1 hu with h|h
   ·exact hg u h
   ·rw[xn] at h;rw[h];exact hs)
  refine⟨w,λn hn e=>?_⟩;rw[Tm.cI] at hn e;simp only[cX] at hn e;obtain⟨n,rfl⟩:∃m,n=m+1:=⟨n-1,by omega⟩;rw[dZ,cB (by simp),cG (by rfl)];simp only[Tm.dI,Tm.cZ,dk,gz,cz,eW];rw[dK (by simp;omega),cL,j n (by omega) (by simp;omega)];simp only[cF];rw[cB (by decide),gq (by have:=dM hs;omega) (by have:=dM z;omega)];simp only[cz];rw[ok_eq w];rfl
 |@app g f a s t _ _ c d=>
  intro hg;obtain⟨q,c⟩:=c hg;obtain⟨r,d⟩:=d hg;have z:=(Ty.qt (.inr rfl) q).2;refine⟨z,λn hn e=>?_⟩;rw[Tm.cI] at hn e;simp only[cX] at hn e;obtain⟨n,rfl⟩:∃m,n=m+1:=⟨n-1,by omega⟩;have o:=mm (n:=n) (g:=g) (l:=[f,a]) 0 [] (.cons (c n (by omega) (by omega)) (.cons (d n (by omega) (by omega)) .nil)) (by simp);rw[dZ,cB (by simp),cB (by simp)];simp only[cT,Tm.cZ,cW (l:=[f,a]) (by simp),cL];rw[o];simp only[cz,cQ,ed,eX];rw[cG (by rfl)];simp only[mI,dk,eD,gz,kf,cz];rw[cB (by simp[Ty.fn,dr]),show(Ty.fn s t).abe[0]?=some s from rfl];simp only[cz];rw[kh (by have:=dM r;omega)];simp only[cz];rw[cB (by decide),show(Ty.fn s t).abe[1]?=some t from rfl];rfl
 |zero=>
  intro hg;refine⟨Ty.fZ,λn hn e=>?_⟩;rw[Tm.cI] at hn;obtain⟨n,rfl⟩:∃m,n=m+1:=⟨n-1,by omega⟩;rfl
 |@succ g a _ j=>
  intro hg;obtain⟨q,j⟩:=j hg;refine⟨Ty.fZ,λn hn e=>?_⟩;rw[Tm.cI] at hn e;simp only[cX] at hn e;obtain⟨n,rfl⟩:∃m,n=m+1:=⟨n-1,by omega⟩;have o:=mm (n:=n) (g:=g) (l:=[a]) 0 [] (.cons (j n (by omega) (by omega)) .nil) (by simp);rw[dZ,cB (by simp),cB (by simp)];simp only[cT,Tm.cZ,cW (l:=[a]) (by simp),cL];rw[o];simp only[cz,cQ,ed,eX];rw[cB (by simp),cB (by simp),cG (by rfl)];simp only[mI,dk,gz,cz];rw[kh (by rw[Ty.ga];omega)];rfl
 |@rp g t b s k v _ _ _ c d p=>
  intro hg;obtain⟨q,c⟩:=c hg;obtain⟨r,d⟩:=d hg;obtain⟨B,p⟩:=p hg;refine⟨v,λn hn e=>?_⟩;rw[Tm.cI] at hn e;simp only[cX] at hn e;obtain⟨n,rfl⟩:∃m,n=m+1:=⟨n-1,by omega⟩;have z:=dM v;have o:=mm (n:=n) (g:=g) (l:=[b,s,k]) 0 [] (.cons (c n (by omega) (by omega)) (.cons (d n (by omega) (by omega)) (.cons (p n (by omega) (by omega)) .nil))) (by simp);rw[dZ,cB (by simp),cB (by simp)];simp only[cT,Tm.cZ,cW (l:=[b,s,k]) (by simp),cL];rw[o];simp only[cz,cQ,ed,eX];rw[cB (by simp),cB (by simp),cB (by simp),cG (by rfl)];simp only[mI,dk,eD,gu,gz,kf,cz,Tm.dI];rw[kh (by omega)];simp only[cz,if_true];rw[gq (by omega) (by omega)];simp only[cz];rw[gq (by rw[Ty.ga];omega) (by rw[Ty.hP];omega)];simp only[cz];rw[kh (by have:=dM r;omega)];simp only[cz,if_true];rw[kh (by rw[Ty.ga];omega)];simp only[cz];rw[cB (by decide),gI (by omega)];rfl
 |nil=>
  intro hg;refine⟨Ty.nO,λn hn e=>?_⟩;rw[Tm.cI] at hn;obtain⟨n,rfl⟩:∃m,n=m+1:=⟨n-1,by omega⟩;rfl
 |@cons g a b _ _ c d=>
  intro hg;obtain⟨q,c⟩:=c hg;obtain⟨r,d⟩:=d hg;refine⟨Ty.nO,λn hn e=>?_⟩;rw[Tm.cI] at hn e;simp only[cX] at hn e;obtain⟨n,rfl⟩:∃m,n=m+1:=⟨n-1,by omega⟩;have o:=mm (n:=n) (g:=g) (l:=[a,b]) 0 [] (.cons (c n (by omega) (by omega)) (.cons (d n (by omega) (by omega)) .nil)) (by simp);rw[dZ,cB (by simp),cB (by simp)];simp only[cT,Tm.cZ,cW (l:=[a,b]) (by simp),cL];rw[o];simp only[cz,cQ,ed,eX];rw[cB (by simp),cB (by simp),cB (by simp),cB (by simp),cB (by simp),cG (by rfl)];simp only[mI,dk,eD,gz,kf,cz];rw[kh (by rw[Ty.ga];omega)];simp only[cz,if_true];rw[kh (by rw[Ty.mM];omega)];rfl
 |@fold g t b s k v _ _ _ c d p=>
  intro hg;obtain⟨q,c⟩:=c hg;obtain⟨r,d⟩:=d hg;obtain⟨B,p⟩:=p hg;refine⟨v,λn hn e=>?_⟩;rw[Tm.cI] at hn e;simp only[cX] at hn e;obtain⟨n,rfl⟩:∃m,n=m+1:=⟨n-1,by omega⟩;have z:=dM v;have o:=mm (n:=n) (g:=g) (l:=[b,s,k]) 0 [] (.cons (c n (by omega) (by omega)) (.cons (d n (by omega) (by omega)) (.cons (p n (by omega) (by omega)) .nil))) (by simp);rw[dZ,cB (by simp),cB (by simp)];simp only[cT,Tm.cZ,cW (l:=[b,s,k]) (by simp),cL];rw[o];simp only[cz,cQ,ed,eX];rw[cB (by simp),cB (by simp),cB (by simp),cB (by simp),cB (by simp),cB (by simp),cG (by rfl)];simp only[mI,dk,eD,gu,gz,kf,cz,Tm.dI];rw[kh (by omega)];simp only[cz,if_true];rw[gq (by omega) (by omega)];simp only[cz];rw[gq (by rw[Ty.mM];omega) (by rw[Ty.hP];omega)];simp only[cz];rw[gq (by rw[Ty.ga];omega) (by rw[Ty.hP,Ty.hP,Ty.mM];omega)];simp only[cz];rw[kh (by have:=dM r;omega)];simp only[cz,if_true];rw[kh (by rw[Ty.mM];omega)];simp only[cz];rw[cB (by decide),gI (by omega)];rfl
 |@pair g a b s t v _ _ c d=>
  intro hg;obtain⟨q,c⟩:=c hg;obtain⟨r,d⟩:=d hg;refine⟨v,λn hn e=>?_⟩;rw[Tm.cI] at hn e;simp only[cX] at hn e;obtain⟨n,rfl⟩:∃m,n=m+1:=⟨n-1,by omega⟩;have o:=mm (n:=n) (g:=g) (l:=[a,b]) 0 [] (.cons (c n (by omega) (by omega)) (.cons (d n (by omega) (by omega)) .nil)) (by simp);rw[dZ,cB (by simp),cB (by simp)];simp only[cT,Tm.cZ,cW (l:=[a,b]) (by simp),cL];rw[o];simp only[cz,cQ,ed,eX];rw[cB (by simp),cB (by simp),cB (by simp),cB (by simp),cB (by simp),cB (by simp),cB (by simp),cG (by rfl)];simp only[mI,dk,eD,gz,kf,cz];rw[uO (by have:=dM q;omega) (by have:=dM r;omega)];simp only[cz];rw[ok_eq v];rfl
 |@fst g a s t _ j=>
  intro hg;obtain⟨q,j⟩:=j hg;refine⟨(Ty.qt (.inl rfl) q).1,λn hn e=>?_⟩;rw[Tm.cI] at hn e;simp only[cX] at hn e;obtain⟨n,rfl⟩:∃m,n=m+1:=⟨n-1,by omega⟩;have o:=mm (n:=n) (g:=g) (l:=[a]) 0 [] (.cons (j n (by omega) (by omega)) .nil) (by simp);rw[dZ,cB (by simp),cB (by simp)];simp only[cT,Tm.cZ,cW (l:=[a]) (by simp),cL];rw[o];simp only[cz,cQ,ed,eX];rw[cB (by simp),cB (by simp),cB (by simp),cB (by simp),cB (by simp),cB (by simp),cB (by simp),cB (by simp),cG (by rfl)];simp only[mI,dk,gz,cz];rw[cB (by simp[Ty.pr,dr]),cG (by rfl),show(Ty.pr s t).abe[0]?=some s from rfl];rfl
 |@snd g a s t _ j=>
  intro hg;obtain⟨q,j⟩:=j hg;refine⟨(Ty.qt (.inl rfl) q).2,λn hn e=>?_⟩;rw[Tm.cI] at hn e;simp only[cX] at hn e;obtain⟨n,rfl⟩:∃m,n=m+1:=⟨n-1,by omega⟩;have o:=mm (n:=n) (g:=g) (l:=[a]) 0 [] (.cons (j n (by omega) (by omega)) .nil) (by simp);rw[dZ,cB (by simp),cB (by simp)];simp only[cT,Tm.cZ,cW (l:=[a]) (by simp),cL];rw[o];simp only[cz,cQ,ed,eX];rw[cB (by simp),cB (by simp),cB (by simp),cB (by simp),cB (by simp),cB (by simp),cB (by simp),cB (by simp),cG (by rfl)];simp only[mI,dk,gz,cz];rw[cB (by simp[Ty.pr,dr]),cB (by simp),show c_ (Ty.pr s t).abe 1=some t from rfl];rfl
 |unit=>
  intro hg;refine⟨Ty.DV,λn hn e=>?_⟩;rw[Tm.cI] at hn;obtain⟨n,rfl⟩:∃m,n=m+1:=⟨n-1,by omega⟩;rfl
def Tm.mx{p:Tm->Prop}(var:∀i:Nat,p (.mk 1 i .z []))(lam:∀s b,s.err=0->b.ok=true->p (.mk 2 0 s [b]))(app:∀a b,a.ok=true->b.ok=true->p (.mk 3 0 .z [a,b]))
  (zero:p (.mk 4 0 .z [])) (succ:∀a,a.ok=true->p (.mk 5 0 .z [a])) (rp:∀s a b c,s.err=0->a.ok=true->b.ok=true->c.ok=true->p (.mk 6 0 s [a,b,c])) (nil:p (.mk 7 0 .z []))
  (cons:∀a b,a.ok=true->b.ok=true->p (.mk 8 0 .z [a,b])) (fold:∀s a b c,s.err=0->a.ok=true->b.ok=true->c.ok=true->p (.mk 9 0 s [a,b,c])) (pair:∀a b,a.ok=true->b.ok=true->p (.mk 10 0 .z [a,b]))
  (fst:∀a,a.ok=true->p (.mk 11 0 .z [a])) (snd:∀a,a.ok=true->p (.mk 12 0 .z [a])) (unit:p (.mk 13 0 .z [])) (t:Tm) (h:t.ok=true):p t:=by
 cases t with
 |mk k i s l=>
  obtain⟨_,hi,d,g,hn⟩:=Tm.jQ h
  have hs:if iz k=true then s.err=0 else s=.z:=by
   rw[Tm.fa] at h;simp only[Tm.node,eJ] at h;have:=h.1.2
   split at this
   ·rename_i e;rw[cG e];simpa using this
   ·rename_i e;rw[cB e];exact(Ty.kv s).1 this
  have n:∀{l:List Tm},(l.length:Int)=0->l=[]:=λh=>e9.1 h;unfold fq at hn
  split at hn
  ·rename_i e;obtain rfl:=e9.1 hn;rcases e with rfl|rfl|rfl|rfl
   ·rw[cB (by decide)] at hs;subst hs;obtain⟨j,rfl⟩:∃j:Nat,i=(j:Int):=⟨i.toNat,by omega⟩;exact var j
   ·rw[cB (by decide)] at hs;subst hs;obtain rfl:=d (by decide);exact zero
   ·rw[cB (by decide)] at hs;subst hs;obtain rfl:=d (by decide);exact nil
   ·rw[cB (by decide)] at hs;subst hs;obtain rfl:=d (by decide);exact unit
  ·split at hn
   ·rename_i e;obtain⟨a,rfl⟩:=h_ hn;have f:=g a (by simp);rcases e with rfl|rfl|rfl|rfl
    ·rw[cG (by decide)] at hs;obtain rfl:=d (by decide);exact lam s a hs f
    ·rw[cB (by decide)] at hs;subst hs;obtain rfl:=d (by decide);exact succ a f
    ·rw[cB (by decide)] at hs;subst hs;obtain rfl:=d (by decide);exact fst a f
    ·rw[cB (by decide)] at hs;subst hs;obtain rfl:=d (by decide);exact snd a f
   ·split at hn
    ·rename_i e;obtain⟨a,b,rfl⟩:=nW hn;have f:=g a (by simp);have m:=g b (by simp);rcases e with rfl|rfl|rfl
     ·rw[cB (by decide)] at hs;subst hs;obtain rfl:=d (by decide);exact app a b f m
     ·rw[cB (by decide)] at hs;subst hs;obtain rfl:=d (by decide);exact cons a b f m
     ·rw[cB (by decide)] at hs;subst hs;obtain rfl:=d (by decide);exact pair a b f m
    ·split at hn
     ·rename_i e
      obtain⟨a,b,c,rfl⟩:∃a b c,l=[a,b,c]:=by
       match l,hn with
       |[a,b,c],_=>exact⟨a,b,c,rfl⟩|[],h|[_],h|[_,_],h=>simp at h
       |_::_::_::_::_,h=>simp at h;omega
      have f:=g a (by simp);have m:=g b (by simp);have o:=g c (by simp);rcases e with rfl|rfl
      ·rw[cG (by decide)] at hs;obtain rfl:=d (by decide);exact rp s a b c hs f m o
      ·rw[cG (by decide)] at hs;obtain rfl:=d (by decide);exact fold s a b c hs f m o
     ·omega
open Classical in
noncomputable def fE (k:Int) (s:Ty) (l:List Ty):Ty×Int:=
 if k=3 then(if(l.getD 0 .z).abd=4/\(l.getD 0 .z).abe.getD 0 .z=l.getD 1 .z then((l.getD 0 .z).abe.getD 1 .z,0)else(.z,7))
 else if k=4 then(.nat,0)
 else if k=5 then(if l.getD 0 .z=.nat then(.nat,0)else(.z,7))
 else if k=6 then(if l.getD 0 .z=s/\l.getD 1 .z=.fn .nat (.fn s s)/\l.getD 2 .z=.nat then(s,0)else(.z,7))
 else if k=7 then(.mT,0)
 else if k=8 then(if l.getD 0 .z=.nat/\l.getD 1 .z=.mT then(.mT,0)else(.z,7))
 else if k=9 then(if l.getD 0 .z=s/\l.getD 1 .z=.fn .nat (.fn .mT (.fn s s))/\l.getD 2 .z=.mT then(s,0)else(.z,7))
 else if k=10 then(if 64<1+(l.getD 0 .z).abf+(l.getD 1 .z).abf then(.z,4)else(.pr (l.getD 0 .z) (l.getD 1 .z),0))
 else if k=11 then(if(l.getD 0 .z).abd=3 then((l.getD 0 .z).abe.getD 0 .z,0)else(.z,7))
 else if k=12 then(if(l.getD 0 .z).abd=3 then((l.getD 0 .z).abe.getD 1 .z,0)else(.z,7))
 else(.unit,0)
def Ip(s:Ty)(r:Ty×Int):Ty×Int:=if r.2≠0 then(.z,r.2)else if 64<1+s.abf+r.1.abf then(.z,4)else(.fn s r.1,0)
def rK(f:List Ty->Ty×Int):List Ty⊕Int->Ty×Int
 |.inl l=>f l|.inr e=>(.z,e)
def JS(r:Ty×Int)(o:List Ty⊕Int):List Ty⊕Int:=if r.2≠0 then .inr r.2 else match o with|.inl l=>.inl (r.1::l)|.inr e=>.inr e
mutual
noncomputable def Tm.ty:Tm->List Ty->Ty×Int
 |.mk k i s l,g=>if k=1 then(if i<(g.length:Int)then(g.getD (g.length-1-i.toNat) .z,0)else(.z,6))else if k=2 then Ip s (Tm.Xk l (g++[s]))else rK (fE k s) (Tm.ra l g)
noncomputable def Tm.Xk:List Tm->List Ty->Ty×Int
 |[],_=>(.z,0)|t::_,g=>t.ty g
noncomputable def Tm.ra:List Tm->List Ty->List Ty⊕Int
 |[],_=>.inl []|t::l,g=>JS (t.ty g) (Tm.ra l g)
end
def Tm.ld(k i:Int)(s:Ty)(l:List Tm)(g:List Ty):(Tm.mk k i s l).ty g=if k=1 then(if i<(g.length:Int)then(g.getD (g.length-1-i.toNat) .z,0)else(.z,6))else if k=2 then Ip s (Tm.Xk l (g++[s]))else rK (fE k s) (Tm.ra l g):=by rw[Tm.ty]
def iu(g:List Ty):Prop:=∀s∈g,s.err=0
def iu.app{g:List Ty}{s:Ty}(h:iu g)(hs:s.err=0):iu (g++[s]):=by
 intro u hu;rcases qW.1 hu with h'|h'
 ·exact h u h'
 ·rw[xn] at h';rw[h'];exact hs
def Ge{t:Ty}(h:t.err=0)(c:t.abd=4):∃a b,t=.fn a b/\a.err=0/\b.err=0:=by
 rcases Ty.oS h with rfl|rfl|rfl|⟨a,b,rfl,_,_⟩|h
 ·cases c
 ·cases c
 ·cases c
 ·cases c
 ·exact h
def w7{t:Ty}(h:t.err=0)(c:t.abd=3):∃a b,t=.pr a b/\a.err=0/\b.err=0:=by
 rcases Ty.oS h with rfl|rfl|rfl|h|⟨a,b,rfl,_,_⟩
 ·cases c
 ·cases c
 ·cases c
 ·exact h
 ·cases c
def se{t:Ty}(h:t.err=0):t.abd=1↔t=.nat:=by
 rcases Ty.oS h with rfl|rfl|rfl|⟨a,b,rfl,_,_⟩|⟨a,b,rfl,_,_⟩
 ·exact⟨λ_=>rfl,λ_=>rfl⟩
 all_goals exact⟨λh=>(by cases h),λh=>(by cases h)⟩
def zm{t:Ty}(h:t.err=0):t.abd=2↔t=.mT:=by
 rcases Ty.oS h with rfl|rfl|rfl|⟨a,b,rfl,_,_⟩|⟨a,b,rfl,_,_⟩
 ·exact⟨λh=>(by cases h),λh=>(by cases h)⟩
 ·exact⟨λ_=>rfl,λ_=>rfl⟩
 all_goals exact⟨λh=>(by cases h),λh=>(by cases h)⟩
def nV{r:Ty×Int}{o:List Ty⊕Int}(h:r.2≠0):JS r o=.inr r.2:=cG h
def nR{r:Ty×Int}{o:List Ty⊕Int}(h:r.2=0):JS r o=match o with|.inl l=>.inl (r.1::l)|.inr e=>.inr e:=cB (by omega)
def qp{f:List Ty->Ty×Int}{e:Int}{r:Ty}(h:rK f (.inr e)=(r,0)):e=0:=(gL h).2
def uc{a:Tm}{g:List Ty}(h:(a.ty g).2=0):a.ty g=((a.ty g).1,0):=Prod.ext rfl h
def KQ{a:Tm}{g:List Ty}{f:List Ty->Ty×Int}{r:Ty}(h:rK f (Tm.ra [a] g)=(r,0)):∃s,a.ty g=(s,0)/\f [s]=(r,0):=by
 rw[Tm.ra,Tm.ra] at h
 by_cases b:(a.ty g).2=0
 ·rw[nR b] at h;exact⟨_,uc b,h⟩
 ·rw[nV b] at h;exact absurd (qp h) b
def JU{a b:Tm}{g:List Ty}{f:List Ty->Ty×Int}{r:Ty}(h:rK f (Tm.ra [a,b] g)=(r,0)):∃s t,a.ty g=(s,0)/\b.ty g=(t,0)/\f [s,t]=(r,0):=by
 rw[Tm.ra,Tm.ra,Tm.ra] at h
 by_cases c:(a.ty g).2=0
 ·rw[nR c] at h
  by_cases d:(b.ty g).2=0
  ·rw[nR d] at h;exact⟨_,_,uc c,uc d,h⟩
  ·rw[nV d] at h;exact absurd (qp h) d
 ·rw[nV c] at h;exact absurd (qp h) c
def Ij{a b c:Tm}{g:List Ty}{f:List Ty->Ty×Int}{r:Ty}(h:rK f (Tm.ra [a,b,c] g)=(r,0)):∃s t u,a.ty g=(s,0)/\b.ty g=(t,0)/\c.ty g=(u,0)/\f [s,t,u]=(r,0):=by
 rw[Tm.ra,Tm.ra,Tm.ra,Tm.ra] at h
 by_cases d:(a.ty g).2=0
 ·rw[nR d] at h
  by_cases e:(b.ty g).2=0
  ·rw[nR e] at h
   by_cases i:(c.ty g).2=0
   ·rw[nR i] at h;exact⟨_,_,_,uc d,uc e,uc i,h⟩
   ·rw[nV i] at h;exact absurd (qp h) i
  ·rw[nV e] at h;exact absurd (qp h) e
 ·rw[nV d] at h;exact absurd (qp h) d
def ov:∀(n:Nat) (t:Tm),t.abf<=n->t.ok=true->∀g,iu g->∀s,t.ty g=(s,0)->dF g t s/\s.err=0:=by
 intro n
 induction n with
 |zero=>intro t h;have:=t.dg;omega
 |succ n k=>
  intro t hn E;refine Tm.mx (p:=λt=>t.abf<=n+1->∀g,iu g->∀s,t.ty g=(s,0)->dF g t s/\s.err=0) ?_ ?_ ?_ ?_ ?_ ?_ ?_ ?_ ?_ ?_ ?_ ?_ ?_ t E hn
  ·intro i _ g hg s h;rw[Tm.ld,cG rfl] at h
   split at h
   ·rename_i hi
    have u:g.length-1-(i:Int).toNat<g.length:=by omega
    have e:g[g.length-1-i]?=some s:=by
     have f:=(gL h).1;rw[nk,BM] at f;rw[BM] at u;rw[na u] at f|-;simpa using f
    exact⟨.var i (by omega) e,hg s (DP e)⟩
   ·have:=(gL h).2;omega
  ·intro s b hs m hn g hg r h;rw[Tm.cI] at hn;simp only[cX] at hn;rw[Tm.ld,cB (by decide),cG rfl,Tm.Xk] at h;unfold Ip at h
   split at h
   ·rename_i w;exact absurd (gL h).2 w
   ·rename_i w
    split at h
    ·have:=(gL h).2;omega
    ·rename_i f;obtain⟨o,d⟩:=k b (by omega) m (g++[s]) (hg.app hs) _ (uc (by simpa using w));have he:=Ty.tF hs d (by omega);obtain rfl:=(gL h).1;exact⟨.lam he o,he⟩
  ·intro a b l m hn g hg r h;rw[Tm.cI] at hn;simp only[cX] at hn;rw[Tm.ld,cB (by decide),cB (by decide)] at h;obtain⟨s,t,f,o,d⟩:=JU h;obtain⟨a1,a2⟩:=k a (by omega) l g hg _ f;obtain⟨q,v⟩:=k b (by omega) m g hg _ o;simp only[fE,if_true,JR,NW] at d
   split at d
   ·rename_i j;obtain⟨x,y,rfl,A,hy⟩:=Ge a2 j.1;have F:x=t:=j.2;obtain rfl:=(gL d).1;subst F;exact⟨.app a1 q,hy⟩
   ·have:=(gL d).2;omega
  ·intro hn g hg r h;rw[Tm.ld,cB (by decide),cB (by decide),Tm.ra] at h;simp only[rK,fE,reduceIte,Int.reduceEq] at h;obtain rfl:=(gL h).1;exact⟨.zero,Ty.fZ⟩
  ·intro a l hn g hg r h;rw[Tm.cI] at hn;simp only[cX] at hn;rw[Tm.ld,cB (by decide),cB (by decide)] at h;obtain⟨s,f,d⟩:=KQ h;obtain⟨a1,a2⟩:=k a (by omega) l g hg _ f;simp only[fE,reduceIte,Int.reduceEq,JR] at d
   split at d
   ·rename_i j;subst j;obtain rfl:=(gL d).1;exact⟨.succ a1,Ty.fZ⟩
   ·have:=(gL d).2;omega
  ·intro s a b c hs l m B hn g hg r h;rw[Tm.cI] at hn;simp only[cX] at hn;rw[Tm.ld,cB (by decide),cB (by decide)] at h;obtain⟨x,y,z,f,o,C,d⟩:=Ij h;obtain⟨a1,a2⟩:=k a (by omega) l g hg _ f;obtain⟨q,v⟩:=k b (by omega) m g hg _ o;obtain⟨D,G⟩:=k c (by omega) B g hg _ C;simp only[fE,reduceIte,Int.reduceEq,JR,NW] at d
   split at d
   ·rename_i j;have j:x=s/\y=.fn .nat (.fn s s)/\z=.nat:=j;obtain⟨rfl,rfl,rfl⟩:=j;obtain rfl:=(gL d).1;exact⟨.rp hs a1 q D,hs⟩
   ·have:=(gL d).2;omega
  ·intro hn g hg r h;rw[Tm.ld,cB (by decide),cB (by decide),Tm.ra] at h;simp only[rK,fE,reduceIte,Int.reduceEq] at h;obtain rfl:=(gL h).1;exact⟨.nil,Ty.nO⟩
  ·intro a b l m hn g hg r h;rw[Tm.cI] at hn;simp only[cX] at hn;rw[Tm.ld,cB (by decide),cB (by decide)] at h;obtain⟨s,t,f,o,d⟩:=JU h;obtain⟨a1,a2⟩:=k a (by omega) l g hg _ f;obtain⟨q,v⟩:=k b (by omega) m g hg _ o;simp only[fE,reduceIte,Int.reduceEq,JR,NW] at d
   split at d
   ·rename_i j;obtain⟨rfl,rfl⟩:=j;obtain rfl:=(gL d).1;exact⟨.cons a1 q,Ty.nO⟩
   ·have:=(gL d).2;omega
  ·intro s a b c hs l m B hn g hg r h;rw[Tm.cI] at hn;simp only[cX] at hn;rw[Tm.ld,cB (by decide),cB (by decide)] at h;obtain⟨x,y,z,f,o,C,d⟩:=Ij h;obtain⟨a1,a2⟩:=k a (by omega) l g hg _ f;obtain⟨q,v⟩:=k b (by omega) m g hg _ o;obtain⟨D,G⟩:=k c (by omega) B g hg _ C;simp only[fE,reduceIte,Int.reduceEq,JR,NW] at d
   split at d
   ·rename_i j;have j:x=s/\y=.fn .nat (.fn .mT (.fn s s))/\z=.mT:=j;obtain⟨rfl,rfl,rfl⟩:=j;obtain rfl:=(gL d).1;exact⟨.fold hs a1 q D,hs⟩
   ·have:=(gL d).2;omega
  ·intro a b l m hn g hg r h;rw[Tm.cI] at hn;simp only[cX] at hn;rw[Tm.ld,cB (by decide),cB (by decide)] at h;obtain⟨s,t,f,o,d⟩:=JU h;obtain⟨a1,a2⟩:=k a (by omega) l g hg _ f;obtain⟨q,v⟩:=k b (by omega) m g hg _ o;simp only[fE,reduceIte,Int.reduceEq,JR,NW] at d
   split at d
   ·have:=(gL d).2;omega
   ·rename_i j;have he:=Ty.Ky a2 v (by omega);obtain rfl:=(gL d).1;exact⟨.pair he a1 q,he⟩
  ·intro a l hn g hg r h;rw[Tm.cI] at hn;simp only[cX] at hn;rw[Tm.ld,cB (by decide),cB (by decide)] at h;obtain⟨s,f,d⟩:=KQ h;obtain⟨a1,a2⟩:=k a (by omega) l g hg _ f;simp only[fE,reduceIte,Int.reduceEq,JR] at d
   split at d
   ·rename_i j;obtain⟨x,y,rfl,A,hy⟩:=w7 a2 j;obtain rfl:=(gL d).1;exact⟨.fst a1,A⟩
   ·have:=(gL d).2;omega
  ·intro a l hn g hg r h;rw[Tm.cI] at hn;simp only[cX] at hn;rw[Tm.ld,cB (by decide),cB (by decide)] at h;obtain⟨s,f,d⟩:=KQ h;obtain⟨a1,a2⟩:=k a (by omega) l g hg _ f;simp only[fE,reduceIte,Int.reduceEq,JR] at d
   split at d
   ·rename_i j;obtain⟨x,y,rfl,A,hy⟩:=w7 a2 j;obtain rfl:=(gL d).1;exact⟨.snd a1,hy⟩
   ·have:=(gL d).2;omega
  ·intro hn g hg r h;rw[Tm.ld,cB (by decide),cB (by decide),Tm.ra] at h;simp only[rK,fE,reduceIte,Int.reduceEq] at h;obtain rfl:=(gL h).1;exact⟨.unit,Ty.DV⟩
end Go.fg
