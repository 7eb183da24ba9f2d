/- Part of the proof of SchemeAccepted: plain facts. -/
import Derived.Test.YtpgdkkomegalnaaGreatDoorAM1
set_option linter.all false
namespace Go.fH
open Go
@[simp] theorem gP(a b:Int):ei a b=true↔a=b:=by simp[ei]
@[simp] theorem eo(a b:Int):eE a b=true↔a≠b:=by simp[eE]
@[simp] theorem sj(a b:Int):sx a b=true↔a<b:=by simp[sx]
@[simp] theorem ZB(a b:Int):XA a b=true↔a<=b:=by simp[XA]
@[simp] theorem il(a b:Int):o0 a b=true↔b<a:=by simp[o0]
@[simp] theorem jc(a b:Int):rb a b=true↔b<=a:=by simp[rb]
@[simp] theorem lx(a b:Bool):e_ a true b=(a||b):=by cases a<;>rfl
@[simp] theorem yT(a b:Bool):e_ a b false=(a&&b):=by cases a<;>rfl
@[simp] theorem adU(a b:Bool):e_ a b true=(!a||b):=by cases a<;>rfl
@[simp] theorem Rl(a:Bool):mS a=!a:=rfl
@[simp] theorem jl{α:Type}(l m:List α):fT l m=l++m:=rfl
@[simp] theorem gC{α:Type}(l:List α):ez l=(l.length:Int):=rfl
theorem jN{α:Type}(l:List α)(i:Nat):eb l (i:Int)=l[i]?:=by simp[eb]
@[simp] theorem eJ{α:Type}(l:List α):eb l 0=l[0]?:=by simp[eb]
@[simp] theorem hE{α:Type}(l:List α):eb l 1=l[1]?:=by simp[eb]
@[simp] theorem mO{α:Type}(l:List α):eb l 2=l[2]?:=by simp[eb]
def KM{α:Type}{l:List α}{i:Int}(b:0<=i)(c:i<l.length):∃x,eb l i=some x/\x∈l:=by
 obtain⟨k,rfl⟩:=ac6 b
 have a:k<l.length:=VW
 exact⟨l[k],by rw[jN];simp[a],Es a⟩
def ed{α:Type}{l:List α}(h:l.length<=1000000000):eP l=true:=by unfold eP ve;exact xY VW
def fM{α:Type}{l m:List α}(h:l.length+m.length<=1000000000):fL l m=true:=by unfold fL ve;exact xY VW
def V8{b:Int}(h:b≠0):Kz b=true:=by simp[Kz,h]
def Hs{n:Int}(a:-9223372036854775808<=n)(b:n<9223372036854775808):IntKind.i64.wrap n=n:=by
 rw[IntKind.wrap_i64];omega
def fR{a b:Int}(c:-9223372036854775808<=a+b)(d:a+b<9223372036854775808):fl .i64 a b=a+b:=Hs c d
theorem fY{a b:Int}(c:-9223372036854775808<=a-b)(d:a-b<9223372036854775808):fU .i64 a b=a-b:=Hs c d
def LF{a b:Int}(c:-9223372036854775808<=a*b)(d:a*b<9223372036854775808):Sz .i64 a b=a*b:=Hs c d
section
variable{α β σ ρ:Type}
def Ko{F:Int->α->σ->Option (fZ σ ρ)}(I:σ->Prop)(Q:ρ->Prop):∀(l:List α) (i:Nat) (s:σ),I s->(∀k x s,l[k]?=some x->I s->(∃a,F ((i+k:Nat):Int) x s=some (.next a)/\I a)\/(∃r,F ((i+k:Nat):Int) x s=some (.ret r)/\Q r))->(∃a,eY F l i s=some (.inl a)/\I a)\/(∃r,eY F l i s=some (.inr r)/\Q r)
 |[],i,s,hs,_=>.inl ⟨s,rfl,hs⟩|x::l,i,s,hs,h=>by
  have f:=h 0 x s rfl hs;rw[GI] at f;rw[fp];rcases f with⟨s1,b,c⟩|⟨r,b,c⟩
  ·rw[b];simp only[dF,fw];refine Ko I Q l (i+1) s1 c λk y a j d=>?_;have:=h (k+1) y a (by simpa using j) d;rw[show i+(k+1)=i+1+k by omega] at this;exact this
  ·rw[b];exact .inr ⟨r,rfl,c⟩
def jU{F:Int->α->List β->Option (fZ (List β) ρ)}(g:α->β):∀(l:List α) (i:Nat) (v:List β),v.length+l.length<=1000000000->(∀j x v,x∈l->v.length+1<=1000000000->F j x v=some (.next (v++[g x])))->eY F l i v=some (.inl (v++l.map g))
 |[],i,v,_,_=>by simp|x::l,i,v,a,h=>by
  simp only[pM] at a;rw[fp,h i x v aaF VW];simp only[dF,fw];rw[jU g l (i+1) (v++[g x]) aby λj y v b c=>h j y v (by simp[b]) c];simp
def ea(g:α->Nat):List α->Nat
 |[]=>0|x::l=>g x+ea g l
def ep(g:α->Nat){l:List α}{x:α}(h:x∈l):g x<=ea g l:=by
 induction l with
 |nil=>cases h
 |cons y l ih=>
  simp only[ea];rcases lS.1 h with rfl|h
  ·omega
  ·have:=ih h;omega
def iJ(g:α->Nat)(l:List α)(h:∀x∈l,1<=g x):l.length<=ea g l:=by
 induction l with
 |nil=>simp|cons y l ih=>simp only[ea,pM];have:=h y aaF;have:=ih λx a=>h x (by simp[a]);omega
def o7{F:Int->α->Int->Option (fZ Int ρ)}(g:α->Nat):∀(l:List α) (i v:Nat),v+ea g l<=4611686018427387904->(∀j x (v:Int),x∈l->F j x v=some (.next (fl .i64 v (g x))))->eY F l i (v:Int)=some (.inl ((v+ea g l:Nat):Int))
 |[],i,v,_,_=>by simp[ea]|x::l,i,v,a,h=>by
  simp only[ea] at a|-;rw[fp,h i x v aaF,fR VW VW];simp only[dF,fw];have:=o7 g l (i+1) (v+g x) VW λj y v b=>h j y v (by simp[b]);rw[show(v:Int)+(g x:Int)=((v+g x:Nat):Int) by omega,this];rw[aa6]
def vB{F:Int->α->Int->Option (fZ Int ρ)}(g:α->Nat)(ok:α->Bool)(r:ρ):∀(l:List α) (i v:Nat),v+ea g l<=4611686018427387904->(∀j x (v:Int),x∈l->F j x v=if ok x then some (.next (fl .i64 v (g x)))else some (.ret r))->eY F l i (v:Int)=if l.all ok then some (.inl ((v+ea g l:Nat):Int))else some (.inr r)
 |[],i,v,_,_=>by simp[ea]|x::l,i,v,b,h=>by
  simp only[ea] at b|-;rw[fp,h i x v aaF,fR VW VW];cases a:ok x with
  |false=>simp[a]|true=>
   simp only[if_true,dF,fw,ET,a,CS];have:=vB g ok r l (i+1) (v+g x) VW λj y v c=>h j y v (by simp[c]);rw[show(v:Int)+(g x:Int)=((v+g x:Nat):Int) by omega,this,aa6]
def qS{F:Int->α->Unit->Option (fZ Unit ρ)}(ok:α->Bool)(r:ρ):∀(l:List α) (i:Nat),(∀j x,x∈l->F j x ()=if ok x then some (.next ())else some (.ret r))->eY F l i ()=if l.all ok then some (.inl ())else some (.inr r)
 |[],i,_=>by simp|x::l,i,h=>by
  rw[fp,h i x aaF];cases a:ok x with
  |false=>simp[a]|true=>
   simp only[if_true,dF,fw,ET,a,CS];exact qS ok r l (i+1) λj y b=>h j y (by simp[b])
def fk:List Int->Int
 |[]=>0|e::l=>if e=0 then fk l else e
def mj{F:Int->α->Unit->Option (fZ Unit Int)}(e:α->Int):∀(l:List α) (i:Nat),(∀j x,x∈l->F j x ()=if e x≠0 then some (.ret (e x))else some (.next ()))->eY F l i ()=if fk (l.map e)=0 then some (.inl ())else some (.inr (fk (l.map e)))
 |[],i,_=>by simp[fk]|x::l,i,h=>by
  rw[fp,h i x aaF]
  by_cases he:e x=0
  ·simp only[he,fk,lF,ne_eq,X7,lG,dF,fw,if_true];exact mj e l (i+1) λj y a=>h j y (by simp[a])
  ·simp[he,fk]
def wm(p:α->β->Bool):List α->List β->Bool
 |x::l,y::m=>p x y&&wm p l m|[],[]=>true|_,_=>false
def xU{F:Int->α->Unit->Option (fZ Unit Bool)}(p:α->β->Bool)(M:List β):∀(l:List α) (i:Nat) (m:List β),m=M.drop i->l.length=m.length->(∀(k:Nat) x y,x∈l->M[k]?=some y->F (k:Int) x ()=if p x y then some (.next ())else some (.ret false))->eY F l i ()=if wm p l m then some (.inl ())else some (.inr false)
 |[],i,m,_,d,_=>by
  cases m with
  |nil=>simp[wm]|cons y m=>simp at d
 |x::l,i,m,hm,d,h=>by
  cases m with
  |nil=>simp at d
  |cons y m=>
   have c:i<M.length:=by
    rcases uR i M.length with h'|h'
    ·exact h'
    ·rw[MH h'] at hm;cases hm
   rw[NI c] at hm;injection hm with j n;rw[fp,h i x y aaF (by simp[c,j])];cases f:p x y with
   |false=>simp[wm,f]|true=>
    simp only[if_true,dF,fw,wm,f,CS];exact xU p M l (i+1) m n (by simpa using d) λk a b o q=>h k a b (by simp[o]) q
def ye(p:α->α->Bool):∀(l m:List α),(∀x∈l,∀y,p x y=true↔x=y)->(wm p l m=true↔l=m)
 |[],[],_=>by simp[wm]|[],_::_,_=>by simp[wm]|_::_,[],_=>by simp[wm]|x::l,y::m,h=>by simp[wm,h x aaF y,ye p l m λa b=>h a (by simp[b])]
def KJ{F:σ->Option (fZ σ ρ)}(I:σ->Prop)(μ:σ->Nat)(Q:σ⊕ρ->Prop)
  (h:∀s,I s->(∃a,F s=some (.next a)/\I a/\μ a<μ s)\/(∃a,F s=some (.Jq a)/\Q (.inl a))\/(∃r,F s=some (.ret r)/\Q (.inr r))):∀(n:Nat) (s:σ),I s->μ s<n->∃o,oC F n s=some o/\Q o
 |0,s,_,hn=>by omega|n+1,s,hs,hn=>by
  rw[rf];rcases h s hs with⟨a,b,c,d⟩|⟨a,b,c⟩|⟨r,b,c⟩
  ·rw[b];simp only[dF,fw];exact KJ I μ Q h n a c VW
  ·rw[b];exact⟨_,rfl,c⟩
  ·rw[b];exact⟨_,rfl,c⟩
def aaM{n:Nat}(h:n<1000000000):n<FU:=by rw[fD];exact h
end
end Go.fH
namespace Go.fH
open Go
mutual
def Ty.aiK:Ty->Nat
 |.mk _ l=>1+Ty.nP l
def Ty.nP:List Ty->Nat
 |[]=>0|t::l=>t.aiK+Ty.nP l
end
def Ty.rH(l:List Ty):Ty.nP l=ea Ty.aiK l:=by
 induction l with
 |nil=>rfl|cons t l ih=>simp[Ty.nP,ea,ih]
theorem Ty.dJ(k:Int)(l:List Ty):(Ty.mk k l).aiK=1+ea Ty.aiK l:=by rw[Ty.aiK,Ty.rH]
def Ty.eC(t:Ty):1<=t.aiK:=by cases t;rw[Ty.aiK];omega
def Ty.fC(l:List Ty):l.length<=ea Ty.aiK l:=iJ _ _ λt _=>t.eC
def Ty.want(k:Int):Option Nat:=if k=1\/k=2\/k=5 then some 0 else if k=3\/k=4 then some 2 else none
mutual
def Ty.ok:Ty->Bool
 |.mk k l=>decide (Ty.want k=some l.length)&&Ty.J9 l
def Ty.J9:List Ty->Bool
 |[]=>true|t::l=>t.ok&&Ty.J9 l
end
def Ty.Au(l:List Ty):Ty.J9 l=l.all Ty.ok:=by
 induction l with
 |nil=>rfl|cons t l ih=>simp[Ty.J9,ih]
theorem Ty.gQ(k:Int)(l:List Ty):(Ty.mk k l).ok=(decide (Ty.want k=some l.length)&&l.all Ty.ok):=by rw[Ty.ok,Ty.Au]
def Ty.err(t:Ty):Int:=if t.ok then(if 64<t.aiK then 4 else 0)else 2
def JM:∀(n:Nat) (t:Ty),t.aiK<=n->t.aiK<=1000000000->iQ n t=some t:=by
 intro n
 induction n with
 |zero=>intro t h;have:=t.eC;omega
 |succ n ih=>
  intro t h a;cases t with
  |mk k l=>
   rw[Ty.dJ] at h a;have d:=Ty.fC l;rw[iQ];simp only[Ty.er,Ty.eD,dZ,ed (l:=l) VW,dX];rw[jU id l 0 [] aby]
   ·simp
   ·intro j x v b c;have:=ep Ty.aiK b;rw[ih x VW VW];simp[fM (l:=v) (m:=[x]) (by simpa using c)]
def jk{t:Ty}(h:t.aiK<=1000000000):iQ FU t=some t:=JM FU t (by rw[fD];exact h) h
def D1:∀(n:Nat) (t:Ty),t.aiK<=n->t.aiK<=1000000000->me n t=some (if t.ok then((t.aiK:Int),true)else(0,false)):=by
 intro n
 induction n with
 |zero=>intro t h;have:=t.eC;omega
 |succ n ih=>
  intro t h u;cases t with
  |mk k l=>
   rw[Ty.dJ] at h u;have A:=Ty.fC l
   have key:eY (λ(q:Int) (c:Ty) (d:Int)=>dS (me n c) λf i=>if i then some (fZ.next (fl .i64 d f))else some (fZ.ret ((0:Int),false))) l 0 1=if l.all Ty.ok then some (.inl ((1+ea Ty.aiK l:Nat):Int))else some (.inr (0,false)):=by
    refine vB Ty.aiK Ty.ok _ l 0 1 VW ?_;intro j x v w;have:=ep Ty.aiK w;rw[ih x VW VW];cases x.ok<;>simp
   rw[me];simp only[Ty.er,Ty.eD,dZ,ed (l:=l) VW,dX,key,lx,sA,gP,eo,gC,Ty.gQ,Ty.dJ,Ty.want]
   by_cases r:k=1\/k=2\/k=5
   ·simp only[r,if_true]
    by_cases b:l=[]
    ·subst b;simp[ea]
    ·have:¬(0=l.length):=by cases l with|nil=>exact absurd rfl b|cons a l=>simp
     have o:(l.length:Int)≠0:=VW
     simp[this,o,b]
   ·simp only[r,lG]
    by_cases b:k=3\/k=4
    ·simp only[b,if_true]
     by_cases o:l.length=2
     ·cases s:l.all Ty.ok<;>simp[o]
     ·have s:(l.length:Int)≠2:=VW
      have y:¬2=l.length:=VW
      simp[s,y]
    ·simp[b]
theorem ll{t:Ty}(h:t.aiK<=1000000000):iT t=some (if t.err=0 then(t.aiK:Int)else 0,t.err):=by
 unfold iT Ty.err;rw[D1 FU t (by rw[fD];exact h) h];cases t.ok with
 |false=>simp|true=>
  by_cases a:64<t.aiK
  ·simp[a];omega
  ·simp[a];omega
def Jm{t:Ty}(h:t.aiK<=1000000000):rN t=some t.err:=by
 unfold rN;rw[ll h];rfl
def Ty.rD(t:Ty):Bool:=e_ (ei t.aiI 0) (ei (ez t.aiJ) 0) false
theorem Ty.mE(t:Ty):t.rD=true↔t=.mk 0 []:=by
 cases t with
 |mk k l=>unfold Ty.rD;simp
theorem so(t:Ty):n7 t=some t.rD:=rfl
def xh(t:Ty):pJ t=some t.rD:=rfl
def Ix:∀(n:Nat) (t:Ty),t.aiK<=n->t.aiK<=1000000000->pR n t=some t.ok:=by
 intro n
 induction n with
 |zero=>intro t h;have:=t.eC;omega
 |succ n ih=>
  intro t h r;cases t with
  |mk k l=>
   rw[Ty.dJ] at h r;have v:=Ty.fC l
   have key:eY (λ(i:Int) (c:Ty) (_:Unit)=>dE (pR n c) λd=>if d then some (fZ.next ())else some (fZ.ret false)) l 0 ()=if l.all Ty.ok then some (.inl ())else some (.inr false):=by
    refine qS Ty.ok _ l 0 ?_;intro j x s;have:=ep Ty.aiK s;rw[ih x VW VW];rfl
   rw[pR];simp only[Ty.er,Ty.eD,dZ,ed (l:=l) VW,dX,key,lx,sA,gP,eo,gC,Ty.gQ,Ty.want]
   by_cases o:k=1\/k=2\/k=5
   ·simp only[o,if_true]
    by_cases b:l=[]
    ·subst b;simp
    ·have:¬(0=l.length):=by cases l with|nil=>exact absurd rfl b|cons a l=>simp
     have f:(l.length:Int)≠0:=VW
     simp[this,f,b]
   ·simp only[o,lG]
    by_cases b:k=3\/k=4
    ·simp only[b,if_true]
     by_cases f:l.length=2
     ·cases q:l.all Ty.ok<;>simp[f]
     ·have q:(l.length:Int)≠2:=VW
      have u:¬2=l.length:=VW
      simp[q,u]
    ·simp[b]
def JF:∀(n:Nat) (t:Ty),t.aiK<=n->t.aiK<=1000000000->pk n t=some (t.aiK:Int):=by
 intro n
 induction n with
 |zero=>intro t h;have:=t.eC;omega
 |succ n ih=>
  intro t h a;cases t with
  |mk k l=>
   rw[Ty.dJ] at h a;have c:=Ty.fC l;rw[pk];simp only[Ty.er,dZ,ed (l:=l) VW,dX]
   have key:=o7 (ρ:=Int) (F:=λ(j:Int) (x:Ty) (v:Int)=>dE (pk n x) λy=>some (fZ.next (fl .i64 v y))) Ty.aiK l 0 1 VW (by
    intro j x v b;have:=ep Ty.aiK b;rw[ih x VW VW]
    rfl)
   rw[show(1:Int)=((1:Nat):Int)from rfl,key];simp[Ty.dJ]
def ml{t:Ty}(h:t.aiK<=1000000000):h8 t=some t.err:=by
 unfold h8 Ty.err;rw[Ix FU t (by rw[fD];exact h) h,JF FU t (by rw[fD];exact h) h];cases t.ok with
 |false=>simp|true=>by_cases a:64<t.aiK<;>simp[a]<;>omega
def xp:∀(n:Nat) (a b:Ty),a.aiK<=n->a.aiK<=1000000000->∃r,fh n a b=some r/\(r=true↔a=b):=by
 intro n
 induction n with
 |zero=>intro t b h;have:=t.eC;omega
 |succ n ih=>
  intro a b h s;cases a with
  |mk k l=>
  cases b with
  |mk k' m=>
   rw[Ty.dJ] at h s;have v:=Ty.fC l;rw[fh];simp only[Ty.er,Ty.eD,dZ,ed (l:=l) VW,dX,lx,sA,eo,gC]
   by_cases d:k≠k'\/(l.length:Int)≠m.length
   ·rw[dO d];refine⟨false,rfl,?_⟩;simp only[re,OQ,Ty.mk.injEq,not_and];rintro rfl rfl;simp at d
   ·rw[dI d];simp only[not_or,vx] at d;obtain⟨rfl,hlen⟩:=d
    have c:l.length=m.length:=VW
    let p:Ty->Ty->Bool:=λx y=>(fh n x y).getD false
    have o:∀x∈l,∀y,fh n x y=some (p x y)/\(p x y=true↔x=y):=by
     intro x f y;have:=ep Ty.aiK f;obtain⟨r,q,i⟩:=ih x y VW VW
     have e:p x y=r:=by show(fh n x y).getD false=r;rw[q];rfl
     rw[e];exact⟨q,i⟩
    have key:=xU (F:=λ(j:Int) (x:Ty) (_:Unit)=>dE (eb m j) λy=>dE (fh n x y) λz=>if z then some (fZ.next ())else some (fZ.ret false)) p m l 0 m rfl c (by
     intro k x y f u;rw[jN,u];simp only[dF];rw[(o x f y).1]
     rfl)
    rw[key];have he:=ye p l m λx f y=>(o x f y).2;cases i:wm p l m with
    |false=>exact⟨false,rfl,by rw[i] at he;simpa using he⟩
    |true=>exact⟨true,rfl,by rw[i] at he;simpa using he⟩
noncomputable def Ty.kV (a b:Ty):Bool:=@decide (a=b) (Classical.propDecidable _)
theorem Ty.kO(a b:Ty):a.kV b=true↔a=b:=by unfold Ty.kV;simp
theorem iD{a b:Ty}(h:a.aiK<=1000000000):fh FU a b=some (a.kV b):=by
 obtain⟨r,c,d⟩:=xp FU a b (by rw[fD];exact h) h;rw[c]
 congr 1
 rw[GS,d,Ty.kO]
mutual
def Tm.aiK:Tm->Nat
 |.mk _ _ _ l=>1+Tm.nP l
def Tm.nP:List Tm->Nat
 |[]=>0|t::l=>t.aiK+Tm.nP l
end
def Tm.rH(l:List Tm):Tm.nP l=ea Tm.aiK l:=by
 induction l with
 |nil=>rfl|cons t l ih=>simp[Tm.nP,ea,ih]
theorem Tm.dJ(k i:Int)(s:Ty)(l:List Tm):(Tm.mk k i s l).aiK=1+ea Tm.aiK l:=by rw[Tm.aiK,Tm.rH]
def Tm.eC(t:Tm):1<=t.aiK:=by cases t;rw[Tm.aiK];omega
def Tm.fC(l:List Tm):l.length<=ea Tm.aiK l:=iJ _ _ λt _=>t.eC
mutual
def Tm.wt:Tm->Nat
 |.mk _ _ s l=>1+s.aiK+Tm.PF l
def Tm.PF:List Tm->Nat
 |[]=>0|t::l=>t.wt+Tm.PF l
end
def Tm.FK(l:List Tm):Tm.PF l=ea Tm.wt l:=by
 induction l with
 |nil=>rfl|cons t l ih=>simp[Tm.PF,ea,ih]
def Tm.i_(k i:Int)(s:Ty)(l:List Tm):(Tm.mk k i s l).wt=1+s.aiK+ea Tm.wt l:=by rw[Tm.wt,Tm.FK]
def Tm.jX(t:Tm):1<=t.wt:=by cases t;rw[Tm.wt];omega
def Tm.qZ(l:List Tm):l.length<=ea Tm.wt l:=iJ _ _ λt _=>t.jX
def kG{α:Type}{f g:α->Nat}{l:List α}(h:∀x∈l,f x<=g x):ea f l<=ea g l:=by
 induction l with
 |nil=>simp[ea]|cons x l ih=>simp only[ea];have:=h x aaF;have:=ih λy a=>h y (by simp[a]);omega
def pB{α β:Type}(f:β->Nat)(g:α->β)(l:List α):ea f (l.map g)=ea (λx=>f (g x)) l:=by
 induction l with
 |nil=>rfl|cons x l ih=>simp[ea,ih]
def vE{α:Type}{f g:α->Nat}{l:List α}(h:∀x∈l,f x=g x):ea f l=ea g l:=by
 induction l with
 |nil=>rfl|cons x l ih=>simp[ea,h x aaF,ih λy a=>h y (by simp[a])]
def Tm.ind{p:Tm->Prop}(h:∀k i s l,(∀t∈l,p t)->p (.mk k i s l))(t:Tm):p t:=by
 have:∀n (t:Tm),t.aiK<=n->p t:=by
  intro n
  induction n with
  |zero=>intro t a;have:=t.eC;omega
  |succ n ih=>
   intro t a;cases t with
   |mk k i s l=>
    rw[Tm.dJ] at a;exact h k i s l λu hu=>ih u (by have:=ep Tm.aiK hu;omega)
 exact this _ t (js _)
def Tm.iq(t:Tm):t.aiK<=t.wt:=by
 induction t using Tm.ind with
 |h k i s l ih=>rw[Tm.dJ,Tm.i_];have:=kG ih;omega
def jZ(k:Int):Bool:=decide (k=2\/k=6\/k=9)
def gL(k:Int):Int:=
 if k=1\/k=4\/k=7\/k=13 then 0 else if k=2\/k=5\/k=11\/k=12 then 1 else if k=3\/k=8\/k=10 then 2 else if k=6\/k=9 then 3 else-1
def Tm.node(k i:Int)(s:Ty)(n:Nat):Bool:=
 decide ((n:Int)=gL k)&&decide (0<=i)&&(decide (k=1)||decide (i=0))&&(if jZ k then decide (s.err=0)else s.rD)
mutual
def Tm.ok:Tm->Bool
 |.mk k i s l=>Tm.node k i s l.length&&Tm.J9 l
def Tm.J9:List Tm->Bool
 |[]=>true|t::l=>t.ok&&Tm.J9 l
end
def Tm.Au(l:List Tm):Tm.J9 l=l.all Tm.ok:=by
 induction l with
 |nil=>rfl|cons t l ih=>simp[Tm.J9,ih]
theorem Tm.gQ(k i:Int)(s:Ty)(l:List Tm):(Tm.mk k i s l).ok=(Tm.node k i s l.length&&l.all Tm.ok):=by rw[Tm.ok,Tm.Au]
def Tm.err(t:Tm):Int:=if t.ok then(if 4096<t.aiK then 4 else 0)else 2
def JJ:∀(n:Nat) (t:Tm),t.wt<=n->t.wt<=1000000000->lr n t=some t:=by
 intro n
 induction n with
 |zero=>intro t h;have:=t.jX;omega
 |succ n ih=>
  intro t h a;cases t with
  |mk k i s l=>
   rw[Tm.i_] at h a;have d:=Tm.qZ l;rw[lr];simp only[Tm.er,Tm.eD,Tm.gY,Tm.fu,dZ,ed (l:=l) VW,dX];rw[jU id l 0 [] aby]
   ·simp[jk (t:=s) VW]
   ·intro j x v b c;have:=ep Tm.wt b;rw[ih x VW VW];simp[fM (l:=v) (m:=[x]) (by simpa using c)]
def ug{t:Tm}(h:t.wt<=1000000000):lr FU t=some t:=JJ FU t (by rw[fD];exact h) h
def pq(k:Int)(l:List Tm)(h:ea Tm.wt l<=1000000000):fF k l=some (Tm.mk k 0 (.mk 0 []) l):=by
 have c:=Tm.qZ l;unfold fF;simp only[dZ,ed (l:=l) VW,dX];rw[jU id l 0 [] aby]
 ·simp
 ·intro j x v a b;have:=ep Tm.wt a;rw[ug (t:=x) VW];simp[fM (l:=v) (m:=[x]) (by simpa using b)]
def Hw(k:Int)(s:Ty)(l:List Tm)(hs:s.aiK<=1000000000)(h:ea Tm.wt l<=1000000000):lh k s l=some (Tm.mk k 0 s l):=by
 unfold lh;rw[pq k l h];simp[jk hs]
def JL(k:Int):vS k=some (gL k):=by
 unfold vS gL;simp only[lx,sA,gP]
 split<;>(try rfl)
 split<;>(try rfl)
 split<;>(try rfl)
 split<;>rfl
def nG:∀(n:Nat) (t:Tm),t.aiK<=n->t.aiK<=1000000000->fJ n t=some (t.aiK:Int):=by
 intro n
 induction n with
 |zero=>intro t h;have:=t.eC;omega
 |succ n ih=>
  intro t h a;cases t with
  |mk k i s l=>
   rw[Tm.dJ] at h a;have c:=Tm.fC l;rw[fJ];simp only[Tm.er,dZ,ed (l:=l) VW,dX]
   have key:=o7 (ρ:=Int) (F:=λ(j:Int) (x:Tm) (v:Int)=>dE (fJ n x) λy=>some (fZ.next (fl .i64 v y))) Tm.aiK l 0 1 VW (by
    intro j x v b;have:=ep Tm.aiK b;rw[ih x VW VW]
    rfl)
   rw[show(1:Int)=((1:Nat):Int)from rfl,key];simp[Tm.dJ]
def AI:∀(n:Nat) (t:Tm),t.wt<=n->t.wt<=1000000000->kx n t=some t.ok:=by
 intro n
 induction n with
 |zero=>intro t h;have:=t.jX;omega
 |succ n ih=>
  intro t h v;cases t with
  |mk k i s l=>
   rw[Tm.i_] at h v;have D:=Tm.qZ l
   have key:eY (λ(o:Int) (a:Tm) (_:Unit)=>dE (kx n a) λb=>if b then some (fZ.next ())else some (fZ.ret false)) l 0 ()=if l.all Tm.ok then some (.inl ())else some (.inr false):=by
    refine qS Tm.ok _ l 0 ?_;intro j x w;have:=ep Tm.wt w;rw[ih x VW VW];rfl
   rw[kx]
   simp only[Tm.er,Tm.eD,Tm.gY,Tm.fu,dZ,ed (l:=l) VW,dX,key,lx,sA,gP,eo,sj,gC,Tm.gQ,JL,dF,ml (t:=s) VW,xh]
   by_cases d:(l.length:Int)=gL k
   ·by_cases q:i<0
    ·have:¬0<=i:=VW
     simp[d,q,Tm.node,this]
    ·have y:0<=i:=VW
     by_cases r:k=1
     ·subst r;cases c:s.rD<;>cases f:l.all Tm.ok<;>simp_all [Tm.node,jZ]
     ·by_cases c:i=0
      ·subst c;have u:eE 0 0=false:=rfl
       by_cases f:k=2\/k=6\/k=9
       ·have A:jZ k=true:=by simp[jZ,f]
        by_cases B:s.err=0<;>cases C:l.all Tm.ok<;>simp_all [Tm.node]
       ·have A:jZ k=false:=by simp[jZ,f]
        cases B:s.rD<;>cases C:l.all Tm.ok<;>simp_all [Tm.node]
      ·have u:eE i 0=true:=by simp[c]
       simp[d,q,r,c,u,Tm.node]
   ·simp[d,Tm.node]
def k9{t:Tm}(h:t.wt<=1000000000):lV t=some t.err:=by
 have:=t.iq;unfold lV Tm.err;rw[AI FU t (by rw[fD];exact h) h,nG FU t (by rw[fD];omega) VW];cases t.ok with
 |false=>simp|true=>by_cases a:4096<t.aiK<;>simp[a]<;>omega
def JD(k:Int):vD k=some (if 1<=k/\k<14 then(gL k,true)else(0,false)):=by
 unfold vD;simp only[lx,sA,sj,jc]
 by_cases h:k<1\/14<=k
 ·rw[dO h,dI VW]
 ·rw[dI h,dO VW]
  have:k=1\/k=2\/k=3\/k=4\/k=5\/k=6\/k=7\/k=8\/k=9\/k=10\/k=11\/k=12\/k=13:=VW
  rcases this with rfl|rfl|rfl|rfl|rfl|rfl|rfl|rfl|rfl|rfl|rfl|rfl|rfl<;>rfl
def J1(k:Int):vT k=some (jZ k):=by
 unfold vT jZ
 congr 1
 rw[GS];simp
def LD{k:Int}{n:Nat}(h:(n:Int)=gL k):1<=k/\k<14:=by
 unfold gL at h
 repeat' split at h
 all_goals omega
def wN:∀(n:Nat) (t:Tm),t.wt<=n->t.wt<=1000000000->jA n t=some (if t.ok then((t.aiK:Int),true)else(0,false)):=by
 intro n
 induction n with
 |zero=>intro t h;have:=t.jX;omega
 |succ n ih=>
  intro t h A;cases t with
  |mk k i s l=>
   rw[Tm.i_] at h A;have I:=Tm.qZ l;have hn:ea Tm.aiK l<=ea Tm.wt l:=kG λx _=>x.iq
   have key:eY (λ(u:Int) (a:Tm) (b:Int)=>dS (jA n a) λc d=>if d then some (fZ.next (fl .i64 b c))else some (fZ.ret ((0:Int),false))) l 0 1=if l.all Tm.ok then some (.inl ((1+ea Tm.aiK l:Nat):Int))else some (.inr (0,false)):=by
    refine vB Tm.aiK Tm.ok _ l 0 1 VW ?_;intro j x v B;have:=ep Tm.wt B;rw[ih x VW VW];cases x.ok<;>simp
   rw[jA];simp only[Tm.er,Tm.eD,Tm.gY,Tm.fu,dZ,ed (l:=l) VW,dX,key,Tm.gQ,Tm.dJ,JD,J1,ll (t:=s) VW,so,dF,dN]
   by_cases f:(l.length:Int)=gL k
   ·have o:=LD f;simp only[o,and_self,if_true,dN,D0,lx,yT,sA,gG,eo,sj,gC,f,ne_eq,X7,false_or]
    by_cases w:i<0
    ·have:¬0<=i:=VW
     simp[w,Tm.node,this]
    ·have C:0<=i:=VW
     by_cases y:k=1
     ·subst y;cases q:s.rD<;>cases r:l.all Tm.ok<;>simp_all [Tm.node,jZ]
     ·by_cases q:i=0
      ·subst q
       by_cases r:k=2\/k=6\/k=9
       ·have D:jZ k=true:=by simp[jZ,r]
        by_cases F:s.err=0<;>cases G:l.all Tm.ok<;>simp_all [Tm.node]
       ·have D:jZ k=false:=by simp[jZ,r]
        cases F:s.rD<;>cases G:l.all Tm.ok<;>simp_all [Tm.node]
      ·simp[w,y,q,Tm.node]
   ·have H:Tm.node k i s l.length=false:=by simp[Tm.node,f]
    simp only[H,Bool.false_and,re,lG]
    by_cases o:1<=k/\k<14
    ·simp[o,f]
    ·simp[o]
def eL(k:Int):Int:=if k=2 then 1 else 0
def iM(k:Int):0<=eL k/\eL k<=1:=by unfold eL;split<;>omega
def nN(t:Tm):k5 t=some (eL t.aiI):=by
 unfold k5 eL;simp only[gP]
 split<;>rfl
mutual
def Tm.up(f b:Int):Tm->Tm
 |.mk k i s l=>.mk k (if k=1/\f<=i then i+b else i) s (Tm.XI (f+eL k) b l)
def Tm.XI(f b:Int):List Tm->List Tm
 |[]=>[]|t::l=>t.up f b::Tm.XI f b l
end
def Tm.OR(f b:Int)(l:List Tm):Tm.XI f b l=l.map (Tm.up f b):=by
 induction l with
 |nil=>rfl|cons t l ih=>simp[Tm.XI,ih]
theorem Tm.e9(f b k i:Int)(s:Ty)(l:List Tm):(Tm.mk k i s l).up f b=.mk k (if k=1/\f<=i then i+b else i) s (l.map (Tm.up (f+eL k) b)):=by rw[Tm.up,Tm.OR]
mutual
def Tm.aiO(m:Int):Tm->Bool
 |.mk _ i _ l=>decide (i<=m)&&Tm.uB m l
def Tm.uB(m:Int):List Tm->Bool
 |[]=>true|t::l=>t.aiO m&&Tm.uB m l
end
def Tm.Fh(m:Int)(l:List Tm):Tm.uB m l=l.all (Tm.aiO m):=by
 induction l with
 |nil=>rfl|cons t l ih=>simp[Tm.uB,ih]
theorem Tm.fx(m k i:Int)(s:Ty)(l:List Tm):(Tm.mk k i s l).aiO m=(decide (i<=m)&&l.all (Tm.aiO m)):=by rw[Tm.aiO,Tm.Fh]
mutual
def Tm.aiQ(a:Int):Tm->Nat
 |.mk k i _ l=>(if k=1/\i=a then 1 else 0)+Tm.yn (a+eL k) l
def Tm.yn(a:Int):List Tm->Nat
 |[]=>0|t::l=>t.aiQ a+Tm.yn a l
end
def Tm.EV(a:Int)(l:List Tm):Tm.yn a l=ea (Tm.aiQ a) l:=by
 induction l with
 |nil=>rfl|cons t l ih=>simp[Tm.yn,ea,ih]
def Tm.eZ(a k i:Int)(s:Ty)(l:List Tm):(Tm.mk k i s l).aiQ a=(if k=1/\i=a then 1 else 0)+ea (Tm.aiQ (a+eL k)) l:=by rw[Tm.aiQ,Tm.EV]
def Tm.ku(t:Tm):∀a,t.aiQ a<=t.aiK:=by
 induction t using Tm.ind with
 |h k i s l ih=>
  intro a;rw[Tm.eZ,Tm.dJ];have:=kG (f:=Tm.aiQ (a+eL k)) (g:=Tm.aiK) (l:=l) λx b=>ih x b _
  split<;>omega
def Tm.iG(n i:Int)(s t:Tm):Tm:=if i=n then s.up 0 n else if n<i then .mk 1 (i-1) (.mk 0 []) [] else t
mutual
def Tm.fK:Int->Tm->Tm->Tm
 |n,.mk k i ty l,s=>if k=1 then Tm.iG n i s (.mk k i ty l)else .mk k i ty (Tm.G4 (n+eL k) l s)
def Tm.G4:Int->List Tm->Tm->List Tm
 |_,[],_=>[]|n,t::l,s=>Tm.fK n t s::Tm.G4 n l s
end
def Tm.KZ(n:Int)(s:Tm)(l:List Tm):Tm.G4 n l s=l.map (λx=>Tm.fK n x s):=by
 induction l with
 |nil=>rfl|cons t l ih=>simp[Tm.G4,ih]
theorem Tm.eG(n:Int)(s:Tm)(k i:Int)(ty:Ty)(l:List Tm):Tm.fK n (Tm.mk k i ty l) s=if k=1 then Tm.iG n i s (.mk k i ty l)else .mk k i ty (l.map (λx=>Tm.fK (n+eL k) x s)):=by rw[Tm.fK,Tm.KZ]
theorem Tm.kK(t:Tm):∀f b,(t.up f b).aiK=t.aiK:=by
 induction t using Tm.ind with
 |h k i s l ih=>
  intro f b;rw[Tm.e9,Tm.dJ,Tm.dJ,pB];rw[vE λx a=>ih x a _ _]
def xc{α β:Type}{p:β->Bool}{q:α->Bool}{g:α->β}{l:List α}(h:∀x∈l,p (g x)=q x):(l.map g).all p=l.all q:=by
 induction l with
 |nil=>rfl|cons x l ih=>simp only[lF,ET,h x aaF,ih λy a=>h y (by simp[a])]
def Tm.Qa{k i j:Int}{s:Ty}{n:Nat}(h:k=1/\0<=i/\0<=j\/i=j):Tm.node k i s n=Tm.node k j s n:=by
 rcases h with⟨rfl,a,b⟩|rfl
 ·simp[Tm.node,a,b]
 ·rfl
theorem Tm.IC(t:Tm):∀f b,0<=f->0<=b->(t.up f b).ok=t.ok:=by
 induction t using Tm.ind with
 |h k i s l ih=>
  intro f b d a;rw[Tm.e9,Tm.gQ,Tm.gQ,MD,xc λx c=>ih x c (f+eL k) b (by have:=iM k;omega) a]
  congr 1
  apply Tm.Qa
  split
  ·rename_i j;left;omega
  ·right;rfl
def Ax:∀(n:Nat) (t:Tm) (m:Int),t.aiK<=n->t.aiK<=1000000000->lb n t m=some (t.aiO m):=by
 intro n
 induction n with
 |zero=>intro t m h;have:=t.eC;omega
 |succ n ih=>
  intro t m h f;cases t with
  |mk k i s l=>
   rw[Tm.dJ] at h f;have q:=Tm.fC l
   have key:eY (λ(c:Int) (a:Tm) (_:Unit)=>dE (lb n a m) λb=>if b then some (fZ.next ())else some (fZ.ret false)) l 0 ()=if l.all (Tm.aiO m) then some (.inl ())else some (.inr false):=by
    refine qS (Tm.aiO m) _ l 0 ?_;intro j x o;have:=ep Tm.aiK o;rw[ih x m VW VW];rfl
   rw[lb];simp only[Tm.er,Tm.gY,dZ,ed (l:=l) VW,dX,key,il,Tm.fx]
   by_cases d:m<i
   ·have:¬i<=m:=VW
    simp[d,this]
   ·have:i<=m:=VW
    cases r:l.all (Tm.aiO m)<;>simp[d,this]
def FZ:∀(n:Nat) (t:Tm) (f b:Int),t.aiK<=n->t.aiK<=1000000000->0<=f->f+t.aiK<=10000000000->0<=b->b<=10000000000->t.aiO 1000000000000=true->rV n t f b=some (t.up f b):=by
 intro n
 induction n with
 |zero=>intro t f b h;have:=t.eC;omega
 |succ n ih=>
  intro t f b h a B c u d hi;cases t with
  |mk k i s l=>
   rw[Tm.dJ] at h a c;rw[Tm.fx] at hi;simp only[gG,oy,kE] at hi;have C:=Tm.fC l;have D:=iM k;rw[rV];simp only[Tm.er,Tm.gY,Tm.eD,Tm.fu,dZ,ed (l:=l) VW,dX];rw[jU (Tm.up (f+eL k) b) l 0 [] aby]
   ·rw[Tm.e9];simp only[dF,ew,qc,BI,Tm.mk.injEq,My,Ae]
    by_cases o:k=1/\f<=i
    ·obtain⟨rfl,q⟩:=o;rw[fR VW VW];have w:ei 1 1=true:=rfl
     have y:rb i f=true:=by simp[q]
     simp[w,y,q]
    ·rw[dI o]
     have e:e_ (ei k 1) (rb i f) false=false:=by
      rw[yT,Vh];simp only[ne_eq,gG,gP,jc];exact o
     rw[e];rfl
   ·intro j x v r A;have:=ep Tm.aiK r;rw[nN];simp only[dF,Tm.eD];rw[fR VW VW,ih x (f+eL k) b VW VW VW VW u d (hi.2 x r)];simp[fM (l:=v) (m:=[x.up (f+eL k) b]) (by simpa using A)]
def A1:∀(n:Nat) (t:Tm) (a:Int),t.aiK<=n->t.aiK<=1000000000->0<=a->a+t.aiK<=10000000000->nb n t a=some (t.aiQ a:Int):=by
 intro n
 induction n with
 |zero=>intro t a h;have:=t.eC;omega
 |succ n ih=>
  intro t a h c u d;cases t with
  |mk k i s l=>
   rw[Tm.dJ] at h c d;have w:=Tm.fC l;have A:=iM k;have o:ea (Tm.aiQ (a+eL k)) l<=ea Tm.aiK l:=kG λx _=>x.ku _;rw[nb];simp only[Tm.er,Tm.gY,Tm.eD,dZ,ed (l:=l) VW,dX]
   have q:e_ (e_ (ei k 1) (ei i a) false) (fl .i64 0 1) 0=(((if k=1/\i=a then 1 else 0:Nat)):Int):=by
    by_cases f:k=1/\i=a
    ·obtain⟨rfl,rfl⟩:=f;simp[ei,e_,fl,Hs]
    ·have e:e_ (ei k 1) (ei i a) false=false:=by
      rw[yT,Vh];simp only[ne_eq,gG,gP];exact f
     rw[e,dI f];rfl
   have key:=o7 (ρ:=Int) (F:=λ(j:Int) (x:Tm) (v:Int)=>dE (k5 (Tm.mk k i s l)) λb=>dE (nb n x (fl .i64 a b)) λy=>some (fZ.next (fl .i64 v y)))
    (Tm.aiQ (a+eL k)) l 0 (if k=1/\i=a then 1 else 0) (by split<;>omega) (by
    intro j x v r;have:=ep Tm.aiK r;rw[nN];simp only[dF,Tm.eD];rw[fR VW VW,ih x _ VW VW VW VW]
    rfl)
   rw[q,key];simp[Tm.eZ]
def FV:∀(n:Nat) (t:Tm) (a b:Int) (s:Tm),t.aiK<=n->t.aiK<=1000000000->0<=a->0<=b->a+b+t.aiK<=5000000000->t.aiO 1000000000000=true->t.ok=true->s.aiK<=1000000000->s.aiO 1000000000000=true->vC n t a b s=some (Tm.fK (a+b) t s):=by
 intro n
 induction n with
 |zero=>intro t a b s h;have:=t.eC;omega
 |succ n ih=>
  intro t a b s h r y C u hi c hs d;cases t with
  |mk k i ty l=>
   rw[Tm.dJ] at h r u;rw[Tm.fx] at hi;rw[Tm.gQ] at c;simp only[gG,oy,kE] at hi c;have D:=Tm.fC l;have F:=iM k
   have A:0<=i:=by
    have:=c.1;simp only[Tm.node,gG,oy] at this;exact this.1.1.2
   rw[vC,Tm.eG];simp only[Tm.er,Tm.gY,Tm.eD,Tm.fu,dZ,ed (l:=l) VW,dX,gP];rw[fR VW VW]
   by_cases f:k=1
   ·rw[dO f,dO f];unfold Tm.iG
    by_cases o:i=a+b
    ·rw[dO o,dO o,FZ FU s 0 (a+b) (by rw[fD];exact hs) hs VW VW VW VW d];rfl
    ·rw[dI o,dI o];simp only[il]
     by_cases q:a+b<i
     ·rw[dO q,dO q,fY VW VW];rfl
     ·rw[dI q,dI q]
   ·rw[dI f,dI f];rw[jU (λx=>Tm.fK (a+b+eL k) x s) l 0 [] aby]
    ·simp
    ·intro j x v w B;have:=ep Tm.aiK w;rw[nN];simp only[dF,Tm.eD];rw[fR VW VW,ih x a (b+eL k) s VW VW y VW VW (hi.2 x w) (c.2 x w) hs d];rw[show a+(b+eL k)=a+b+eL k by omega];simp[fM (l:=v) (m:=[Tm.fK (a+b+eL k) x s]) (by simpa using B)]
def Tm.xL(s t:Tm):∀n,t.ok=true->(Tm.fK n t s).aiK+t.aiQ n=t.aiK+t.aiQ n*s.aiK:=by
 induction t using Tm.ind with
 |h k i ty l ih=>
  intro n a;rw[Tm.gQ] at a;simp only[gG,kE] at a;rw[Tm.eG,Tm.eZ,Tm.dJ]
  by_cases d:k=1
  ·subst d
   have o:l=[]:=by
    have:=a.1;simp only[Tm.node,gG,oy] at this;have h:=this.1.1.1;simp[gL] at h;exact h
   subst o;simp only[if_true,Tm.iG,ea,GI,Ae]
   by_cases f:i=n
   ·simp[f,Tm.kK];omega
   ·by_cases q:n<i<;>simp[f,q,Tm.dJ,ea]
  ·simp only[d,lG,I8,xH];rw[Tm.dJ,pB]
   have:ea (λx=>(Tm.fK (n+eL k) x s).aiK) l+ea (Tm.aiQ (n+eL k)) l=ea Tm.aiK l+ea (Tm.aiQ (n+eL k)) l*s.aiK:=by
    have b:∀x∈l,(Tm.fK (n+eL k) x s).aiK+x.aiQ (n+eL k)=x.aiK+x.aiQ (n+eL k)*s.aiK:=λx c=>ih x c _ (a.2 x c);clear ih a
    induction l with
    |nil=>simp[ea]|cons y l j=>
     have d:=b y aaF;have f:=j λx c=>b x (by simp[c]);simp only[ea,CL];omega
   omega
def Tm.LN(s:Tm)(hs:s.ok=true)(t:Tm):∀n,0<=n->t.ok=true->(Tm.fK n t s).ok=true:=by
 induction t using Tm.ind with
 |h k i ty l ih=>
  intro n hn a;have b:=a;rw[Tm.gQ] at a;simp only[gG,kE] at a;rw[Tm.eG]
  by_cases d:k=1
  ·subst d;simp only[if_true,Tm.iG]
   by_cases c:i=n
   ·simp only[c,if_true];rw[Tm.IC s 0 n VW hn];exact hs
   ·by_cases f:n<i
    ·simp only[c,f,lG,if_true];rw[Tm.gQ]
     have o:1<=i:=VW
     simp[Tm.node,gL,jZ,o,Ty.rD,ei]
    ·simp only[c,f,lG];exact b
  ·simp only[d,lG];rw[Tm.gQ,MD];simp only[gG,kE,qv];refine⟨a.1,?_⟩;rintro _ ⟨x,j,rfl⟩;exact ih x j _ (by have:=iM k;omega) (a.2 x j)
mutual
def Tm.fr:Tm->Int
 |.mk k i _ l=>if k=1 then i+1 else if k=2 then imax 0 (Tm.frL 0 l-1)else Tm.frL 0 l
def Tm.frL(m:Int):List Tm->Int
 |[]=>m|t::l=>Tm.frL (imax m t.fr) l
end
def map_id'{α:Type}{g:α->α}{l:List α}(h:∀x∈l,g x=x):l.map g=l:=by
 induction l with
 |nil=>rfl|cons x l ih=>simp only[lF,h x aaF,ih λy a=>h y (by simp[a])]
def Tm.pO{k i:Int}{s:Ty}{l:List Tm}(h:(Tm.mk k i s l).ok=true):(k=1->l=[])/\0<=i/\(k≠1->i=0)/\(∀t∈l,t.ok=true)/\(l.length:Int)=gL k:=by
 rw[Tm.gQ] at h;simp only[gG,kE,oy,Tm.node,sA] at h;obtain⟨⟨⟨⟨a,b⟩,c⟩,j⟩,d⟩:=h;refine⟨?_,b,λf=>c.resolve_left f,d,a⟩;rintro rfl;have:(l.length:Int)=0:=a;exact BD VW
def Tm.ZC(t:Tm):∀f,t.up f 0=t:=by
 induction t using Tm.ind with
 |h k i s l ih=>
  intro f;rw[Tm.e9,map_id' λx a=>ih x a _]
  congr 1
  split<;>omega
def E8{α:Type}{g:α->Nat}{l:List α}(h:∀x∈l,g x=0):ea g l=0:=by
 induction l with
 |nil=>rfl|cons x l ih=>simp[ea,h x aaF,ih λy a=>h y (by simp[a])]
def Tm.kd:Option Tm->Int
 |some t=>t.aiI|none=>0
def Tm.root:Tm->Bool
 |.mk k _ _ l=>(decide (k=3)&&decide (Tm.kd l[0]?=2))||(decide (k=6)&&(decide (Tm.kd l[2]?=4)||decide (Tm.kd l[2]?=5)))||(decide (k=9)&&(decide (Tm.kd l[2]?=7)||decide (Tm.kd l[2]?=8)))||
  ((decide (k=11)||decide (k=12))&&decide (Tm.kd l[0]?=10))
mutual
def Tm.nf:Tm->Bool
 |.mk k i s l=>!(Tm.mk k i s l).root&&Tm.nfL l
def Tm.nfL:List Tm->Bool
 |[]=>true|t::l=>t.nf&&Tm.nfL l
end
def Tm.acs(l:List Tm):Tm.nfL l=l.all Tm.nf:=by
 induction l with
 |nil=>rfl|cons t l ih=>simp[Tm.nfL,ih]
def Tm.aaI(k i:Int)(s:Ty)(l:List Tm):(Tm.mk k i s l).nf=(!(Tm.mk k i s l).root&&l.all Tm.nf):=by rw[Tm.nf,Tm.acs]
def oZ(f:Tm):List Tm->Tm
 |[]=>f|a::l=>oZ (.mk 3 0 (.mk 0 []) [f,a]) l
def Tm.fm:Tm->Tm
 |.mk k i s l=>
  if k=3 then(match l with|[.mk _ _ _ [b],a]=>Tm.fK 0 b a|_=>.mk k i s l)
  else if k=11 then(match l with|[.mk _ _ _ (a::_)]=>a|_=>.mk k i s l)
  else if k=12 then(match l with|[.mk _ _ _ [_,b]]=>b|_=>.mk k i s l)
  else(match l with
   |[b,st,.mk _ _ _ []]=>b|[b,st,.mk _ _ _ [n]]=>oZ st [n,.mk k i s [b,st,n]]|[b,st,.mk _ _ _ [h,t]]=>oZ st [h,t,.mk k i s [b,st,t]]|_=>.mk k i s l)
mutual
inductive NR (nh:List HC):Nat->Tm->Prop
 |mk {p:Nat} {x:rp} {l:List Tm}:HC.G7 nh p=some x->NRL nh x.aiJ l->x.size=((Tm.mk x.aiI x.aiL x.Mt l).aiK:Int)->x.free=(Tm.mk x.aiI x.aiL x.Mt l).fr->(x.normal=true->(Tm.mk x.aiI x.aiL x.Mt l).nf=true)->NR nh p (.mk x.aiI x.aiL x.Mt l)
inductive NRL (nh:List HC):List (Option Nat)->List Tm->Prop
 |nil:NRL nh [] []|cons {p:Nat} {t:Tm} {ps:List (Option Nat)} {ts:List Tm}:NR nh p t->NRL nh ps ts->NRL nh (some p::ps) (t::ts)
end
structure Sm (M:Int) (t:Tm):Prop where
 ok:t.ok=true
 aiO:t.aiO M=true
 aiK:t.aiK<=1000000
def Sm.arg{M k i:Int}{s:Ty}{l:List Tm}(h:Sm M (.mk k i s l)):∀t∈l,Sm M t:=by
 intro t a;have b:=h.aiO;have c:=h.aiK;rw[Tm.fx] at b;simp only[gG,kE] at b;rw[Tm.dJ] at c;exact⟨(Tm.pO h.ok).2.2.2.1 t a,b.2 t a,by have:=ep Tm.aiK a;omega⟩
theorem Sm.mono{M N:Int}{t:Tm}(h:Sm M t)(hm:M<=N):Sm N t:=⟨h.ok,by
 have:∀t:Tm,t.aiO M=true->t.aiO N=true:=by
  intro t
  induction t using Tm.ind with
  |h k i s l ih=>
   rw[Tm.fx,Tm.fx];simp only[gG,kE,oy]
   exactλ⟨c,b⟩=>⟨VW,λx a=>ih x a (b x a)⟩
 exact this t h.aiO,h.aiK⟩
def TP{M b:Int}(d:0<=b)(t:Tm):∀f,t.aiO M=true->(t.up f b).aiO (M+b)=true:=by
 induction t using Tm.ind with
 |h k i s l ih=>
  intro f h;rw[Tm.fx] at h;simp only[gG,kE,oy] at h;rw[Tm.e9,Tm.fx];simp only[gG,kE,oy];refine⟨by split<;>omega,?_⟩;intro x c;obtain⟨y,a,rfl⟩:=qv.1 c;exact ih y a _ (h.2 y a)
def SE{M N B:Int}(F:M<=B)(s:Tm)(hs:s.aiO N=true)(t:Tm):∀n,0<=n->N+n+t.aiK<=B->t.aiO M=true->t.ok=true->(Tm.fK n t s).aiO B=true:=by
 induction t using Tm.ind with
 |h k i ty l ih=>
  intro n hn o d w;have q:=d;rw[Tm.fx] at d;simp only[gG,kE,oy] at d;obtain⟨o1,o2,G,A,H⟩:=Tm.pO w;rw[Tm.eG]
  have c:∀(u:Tm) {a b:Int},a<=b->u.aiO a=true->u.aiO b=true:=by
   intro u
   induction u using Tm.ind with
   |h k i s l ih=>
    intro a b r;rw[Tm.fx,Tm.fx];simp only[gG,kE,oy]
    exactλ⟨I,C⟩=>⟨VW,λx f=>ih x f r (C x f)⟩
  have J:1<=(Tm.mk k i ty l).aiK:=Tm.eC _
  by_cases v:k=1
  ·rw[dO v];unfold Tm.iG
   split
   ·exact c _ VW (TP hn s 0 hs)
   ·split
    ·rw[Tm.fx];simp;omega
    ·exact c _ VW q
  ·rw[dI v,Tm.fx];simp only[gG,kE,oy];refine⟨VW,?_⟩;intro x f;obtain⟨y,j,rfl⟩:=qv.1 f;have D:=iM k;have hm:=ep Tm.aiK j;rw[Tm.dJ] at o;exact ih y j (n+eL k) VW VW (d.2 y j) (A y j)
def DJ(a b:Int):ei a b=decide (a=b):=by grind[ei]
def aaY{α:Type}{l:List α}(h:l.length=1):∃a,l=[a]:=by
 match l,h with|[a],_=>exact⟨a,rfl⟩
def aaZ{α:Type}{l:List α}(h:l.length=2):∃a b,l=[a,b]:=by
 match l,h with|[a,b],_=>exact⟨a,b,rfl⟩
def aeW{α:Type}{l:List α}(h:l.length=3):∃a b c,l=[a,b,c]:=by
 match l,h with|[a,b,c],_=>exact⟨a,b,c,rfl⟩
def Tm.r'{k i:Int}{s:Ty}{l:List Tm}(h:(Tm.mk k i s l).ok=true):(l.length:Int)=gL k:=(Tm.pO h).2.2.2.2
def Tm.ok3{i:Int}{s:Ty}{l:List Tm}(h:(Tm.mk 3 i s l).ok=true):∃a b,l=[a,b]:=aaZ (by have:=Tm.r' h;have e:gL 3=2:=rfl;omega)
def Tm.ok6{i:Int}{s:Ty}{l:List Tm}(h:(Tm.mk 6 i s l).ok=true):∃a b c,l=[a,b,c]:=aeW (by have:=Tm.r' h;have e:gL 6=3:=rfl;omega)
def Tm.ok9{i:Int}{s:Ty}{l:List Tm}(h:(Tm.mk 9 i s l).ok=true):∃a b c,l=[a,b,c]:=aeW (by have:=Tm.r' h;have e:gL 9=3:=rfl;omega)
def Tm.ok2{i:Int}{s:Ty}{l:List Tm}(h:(Tm.mk 2 i s l).ok=true):∃a,l=[a]:=aaY (by have:=Tm.r' h;have e:gL 2=1:=rfl;omega)
def Tm.afi{k i:Int}{s:Ty}{l:List Tm}(b:k=11\/k=12)(h:(Tm.mk k i s l).ok=true):∃a,l=[a]:=aaY (by
 have:=Tm.r' h;rcases b with rfl|rfl
 ·have e:gL 11=1:=rfl;omega
 ·have e:gL 12=1:=rfl;omega)
def Tm.af8{i:Int}{s:Ty}{l:List Tm}(h:(Tm.mk 10 i s l).ok=true):∃a b,l=[a,b]:=aaZ (by have:=Tm.r' h;have e:gL 10=2:=rfl;omega)
def Tm.ok0{k i:Int}{s:Ty}{l:List Tm}(a:k=4\/k=7)(h:(Tm.mk k i s l).ok=true):l=[]:=BD (by
 have:=Tm.r' h;rcases a with rfl|rfl
 ·have e:gL 4=0:=rfl;omega
 ·have e:gL 7=0:=rfl;omega)
def Tm.ok5{i:Int}{s:Ty}{l:List Tm}(h:(Tm.mk 5 i s l).ok=true):∃a,l=[a]:=aaY (by have:=Tm.r' h;have e:gL 5=1:=rfl;omega)
def Tm.ok8{i:Int}{s:Ty}{l:List Tm}(h:(Tm.mk 8 i s l).ok=true):∃a b,l=[a,b]:=aaZ (by have:=Tm.r' h;have e:gL 8=2:=rfl;omega)
theorem Tm.ek{k i:Int}{s:Ty}{l:List Tm}(h:(Tm.mk k i s l).ok=true):∀t∈l,t.ok=true:=(Tm.pO h).2.2.2.1
inductive Tm.Rd:Tm->Prop
 |app {i s i' s' b a}:Tm.Rd (.mk 3 i s [.mk 2 i' s' [b],a])|zero {k ko i s i' s' b st}:(k=6/\ko=4\/k=9/\ko=7)->Tm.Rd (.mk k i s [b,st,.mk ko i' s' []])|succ {i s i' s' b st n}:Tm.Rd (.mk 6 i s [b,st,.mk 5 i' s' [n]])|cons {i s i' s' b st h t}:Tm.Rd (.mk 9 i s [b,st,.mk 8 i' s' [h,t]])|proj {k i s i' s' a b}:(k=11\/k=12)->Tm.Rd (.mk k i s [.mk 10 i' s' [a,b]])
def Tm.Nd{t:Tm}(d:t.ok=true)(h:t.root=true):t.Rd:=by
 cases t with
 |mk k i s l=>
  unfold Tm.root at h;simp only[sA,gG,oy] at h;rcases h with((⟨rfl,h⟩|⟨rfl,h⟩)|⟨rfl,h⟩)|⟨f,h⟩
  ·obtain⟨a,b,rfl⟩:=Tm.ok3 d;cases a with
   |mk k' j o q=>
    have f:k'=2:=by simpa[Tm.kd] using h
    subst f;obtain⟨v,rfl⟩:=Tm.ok2 (Tm.ek d (.mk 2 j o q) aaF);exact .app
  ·obtain⟨a,b,c,rfl⟩:=Tm.ok6 d;cases c with
   |mk k' j o q=>
    have f:k'=4\/k'=5:=by simpa[Tm.kd] using h
    have r:=Tm.ek d (.mk k' j o q) aaF;rcases f with rfl|rfl
    ·rw[Tm.ok0 (.inl rfl) r];exact .zero (.inl ⟨rfl,rfl⟩)
    ·obtain⟨n,rfl⟩:=Tm.ok5 r;exact .succ
  ·obtain⟨a,b,c,rfl⟩:=Tm.ok9 d;cases c with
   |mk k' j o q=>
    have f:k'=7\/k'=8:=by simpa[Tm.kd] using h
    have r:=Tm.ek d (.mk k' j o q) aaF;rcases f with rfl|rfl
    ·rw[Tm.ok0 (.inr rfl) r];exact .zero (.inr ⟨rfl,rfl⟩)
    ·obtain⟨n,m,rfl⟩:=Tm.ok8 r;exact .cons
  ·obtain⟨a,rfl⟩:=Tm.afi f d;cases a with
   |mk k' j o q=>
    have u:k'=10:=by simpa[Tm.kd] using h
    subst u;obtain⟨a,b,rfl⟩:=Tm.af8 (Tm.ek d (.mk 10 j o q) aaF);exact .proj f
def Dm:∀(l:List Tm) (f:Tm),(oZ f l).aiK=f.aiK+ea Tm.aiK l+l.length
 |[],f=>by simp[oZ,ea]|a::l,f=>by
  rw[oZ,Dm l,Tm.dJ]
  grind[ea]
def GN:∀(n:Nat) (t:Ty),t.aiK<=n->t.aiK<=1000000000->j8 n t=some t:=by
 intro n
 induction n with
 |zero=>intro t h;have:=t.eC;omega
 |succ n ih=>
  intro t h a;cases t with
  |mk k l=>
   rw[Ty.dJ] at h a;have d:=Ty.fC l;rw[j8];simp only[Ty.er,Ty.eD,dZ,ed (l:=l) VW,dX];rw[jU id l 0 [] aby]
   ·simp
   ·intro j x v b c;have:=ep Ty.aiK b;rw[ih x VW VW];simp[fM (l:=v) (m:=[x]) (by simpa using c)]
def tA{t:Ty}(h:t.aiK<=1000000000):j8 FU t=some t:=GN FU t (by rw[fD];exact h) h
def Ty.Cg{k i:Int}{s:Ty}{n:Nat}(h:Tm.node k i s n=true):s.aiK<=64:=by
 unfold Tm.node at h;simp only[gG] at h;have a:=h.2
 by_cases b:jZ k=true
 ·rw[dO b] at a;simp only[oy] at a;unfold Ty.err at a
  split at a
  ·split at a
   ·omega
   ·omega
  ·omega
 ·rw[dI b] at a;rw[(Ty.mE s).1 a,Ty.dJ];simp[ea]
mutual
def Tm.JS(room:Int):Tm->Option (Option Tm)
 |.mk k i s l=>if(Tm.mk k i s l).root then(if((Tm.mk k i s l).fm.aiK:Int)-((Tm.mk k i s l).aiK:Int)>room then none else some (some (Tm.mk k i s l).fm))
  else match Tm.wc room l with
   |none=>none|some none=>some none|some (some a)=>some (some (.mk k i s a))
def Tm.wc(room:Int):List Tm->Option (Option (List Tm))
 |[]=>some none|t::l=>match t.JS room with
  |none=>none|some (some a)=>some (some (a::l))|some none=>match Tm.wc room l with
   |none=>none|some none=>some none|some (some b)=>some (some (t::b))
end
theorem D_:∀(l:List Tm) (f:Tm),f.ok=true->(∀t∈l,t.ok=true)->(oZ f l).ok=true
 |[],f,h,_=>h|a::l,f,h,b=>by
  rw[oZ];refine D_ l _ ?_ λt d=>b t (by simp[d]);rw[Tm.gQ];simp only[gG,kE];refine⟨rfl,?_⟩;intro x c;simp only[lS,vG,ss] at c;rcases c with rfl|rfl
  ·exact h
  ·exact b _ aaF
def C'{M:Int}(b:0<=M):∀(l:List Tm) (f:Tm),f.aiO M=true->(∀t∈l,t.aiO M=true)->(oZ f l).aiO M=true
 |[],f,h,_=>h|a::l,f,h,c=>by
  rw[oZ];refine C' b l _ ?_ λt i=>c t (by simp[i]);rw[Tm.fx];simp only[gG,kE,oy];refine⟨b,?_⟩;intro x d;simp only[lS,vG,ss] at d;rcases d with rfl|rfl
  ·exact h
  ·exact c _ aaF
theorem Tm.w6{k i:Int}{s:Ty}{l m:List Tm}(h:(Tm.mk k i s l).ok=true)(a:m.length=l.length)(hm:∀t∈m,t.ok=true):(Tm.mk k i s m).ok=true:=by
 rw[Tm.gQ] at h|-;simp only[gG,kE] at h|-;rw[a];exact⟨h.1,hm⟩
def Tm.CE{M k i:Int}{s:Ty}{l m:List Tm}(h:(Tm.mk k i s l).aiO M=true)(hm:∀t∈m,t.aiO M=true):(Tm.mk k i s m).aiO M=true:=by
 rw[Tm.fx] at h|-;simp only[gG,kE,oy] at h|-;exact⟨h.1,hm⟩
def T'{M:Int}(G:0<=M){t:Tm}(hs:Sm M t)(hn:t.aiK<=8192)(D:t.root=true):t.fm.ok=true/\t.fm.aiO (M+8192)=true:=by
 have y:=Tm.Nd hs.ok D;have up:∀u,Sm M u->u.aiO (M+8192)=true:=λu hu=>(hu.mono VW).aiO;cases y with
 |app=>
  rename_i i s d f b a;have A:=hs.arg (.mk 2 d f [b]) aaF;have v:=hs.arg a aaF;have o:=A.arg b aaF;rw[Tm.dJ] at hn;simp only[ea,Tm.dJ] at hn
  have e:(Tm.mk 3 i s [.mk 2 d f [b],a]).fm=Tm.fK 0 b a:=by simp[Tm.fm]
  rw[e];exact⟨Tm.LN a v.ok b 0 VW o.ok,SE (M:=M) (N:=M) VW a v.aiO b 0 VW VW o.aiO o.ok⟩
 |proj B=>
  rename_i k i s d f a b;have w:=hs.arg (.mk 10 d f [a,b]) aaF;rcases B with rfl|rfl
  ·have:=w.arg a aaF;simpa[Tm.fm] using And.intro this.ok (up _ this)
  ·have:=w.arg b aaF;simpa[Tm.fm] using And.intro this.ok (up _ this)
 |zero B=>
  rename_i k F i s d f b st
  have q:k≠3/\k≠11/\k≠12:=VW
  have:(Tm.mk k i s [b,st,.mk F d f []]).fm=b:=by simp[Tm.fm,q.1,q.2.1,q.2.2]
  rw[this];have:=hs.arg b aaF;exact⟨this.ok,up _ this⟩
 |succ=>
  rename_i i s d f b st n;have x:=hs.arg b aaF;have j:=hs.arg st aaF;have l:=(hs.arg (.mk 5 d f [n]) aaF).arg n aaF
  have e:(Tm.mk 6 i s [b,st,.mk 5 d f [n]]).fm=oZ st [n,.mk 6 i s [b,st,n]]:=by simp[Tm.fm,oZ]
  rw[e];have r:(Tm.mk 6 i s [b,st,n]).ok=true:=Tm.w6 hs.ok rfl (by intro t c;simp only[lS,vG,ss] at c;rcases c with rfl|rfl|rfl;all_goals first|exact x.ok|exact j.ok|exact l.ok);have hle:(Tm.mk 6 i s [b,st,n]).aiO (M+8192)=true:=Tm.CE (hs.mono VW).aiO (by intro t c;simp only[lS,vG,ss] at c;rcases c with rfl|rfl|rfl;all_goals first|exact up _ x|exact up _ j|exact up _ l);refine⟨D_ _ _ j.ok ?_,C' VW _ _ (up _ j) ?_⟩<;>
  ·intro t c;simp only[lS,vG,ss] at c;rcases c with rfl|rfl
   ·first|exact l.ok|exact up _ l
   ·first|exact r|exact hle
 |cons=>
  rename_i i s d f b st h n;have x:=hs.arg b aaF;have j:=hs.arg st aaF;have l:=(hs.arg (.mk 8 d f [h,n]) aaF).arg n aaF;have C:=(hs.arg (.mk 8 d f [h,n]) aaF).arg h aaF
  have e:(Tm.mk 9 i s [b,st,.mk 8 d f [h,n]]).fm=oZ st [h,n,.mk 9 i s [b,st,n]]:=by simp[Tm.fm,oZ]
  rw[e];have r:(Tm.mk 9 i s [b,st,n]).ok=true:=Tm.w6 hs.ok rfl (by intro t c;simp only[lS,vG,ss] at c;rcases c with rfl|rfl|rfl;all_goals first|exact x.ok|exact j.ok|exact l.ok);have hle:(Tm.mk 9 i s [b,st,n]).aiO (M+8192)=true:=Tm.CE (hs.mono VW).aiO (by intro t c;simp only[lS,vG,ss] at c;rcases c with rfl|rfl|rfl;all_goals first|exact up _ x|exact up _ j|exact up _ l);refine⟨D_ _ _ j.ok ?_,C' VW _ _ (up _ j) ?_⟩<;>
  ·intro t c;simp only[lS,vG,ss] at c;rcases c with rfl|rfl|rfl
   ·first|exact C.ok|exact up _ C
   ·first|exact l.ok|exact up _ l
   ·first|exact r|exact hle
def Tm.L9(room k i:Int)(s:Ty)(l:List Tm):(Tm.mk k i s l).JS room=if(Tm.mk k i s l).root then(if((Tm.mk k i s l).fm.aiK:Int)-((Tm.mk k i s l).aiK:Int)>room then none else some (some (Tm.mk k i s l).fm))
 else match Tm.wc room l with
  |none=>none|some none=>some none|some (some a)=>some (some (.mk k i s a)):=by rw[Tm.JS]
def Vv{M room:Int}(x:0<=M)(t:Tm):Sm M t->t.aiK<=8192->∀f,t.JS room=some (some f)->f.ok=true/\f.aiO (M+8192)=true/\(f.aiK:Int)<=t.aiK+room:=by
 induction t using Tm.ind with
 |h k i s l ih=>
  intro hs hn f h;rw[Tm.L9] at h
  by_cases n:(Tm.mk k i s l).root=true
  ·rw[dO n] at h
   split at h
   ·cases h
   ·obtain rfl:=lE (lE h);obtain⟨y,A⟩:=T' x hs hn n;exact⟨y,A,VW⟩
  ·rw[dI n] at h;have up:∀u,Sm M u->u.aiO (M+8192)=true:=λu hu=>(hu.mono VW).aiO;have o:=hn;rw[Tm.dJ] at o
   have B:∀(ts a:List Tm),(∀t∈ts,t∈l)->Tm.wc room ts=some (some a)->a.length=ts.length/\(∀t∈a,t.ok=true/\t.aiO (M+8192)=true)/\(ea Tm.aiK a:Int)<=ea Tm.aiK ts+room:=by
    intro ts
    induction ts with
    |nil=>intro a _ h;rw[Tm.wc] at h;cases h
    |cons t ts q=>
     intro a hm h;rw[Tm.wc] at h;have b:=hm t aaF;have C:=ep Tm.aiK b;have c:=hs.arg t b
     split at h
     ·cases h
     ·rename_i u hu;obtain rfl:=lE (lE h);obtain⟨j,a2,a3⟩:=ih t b c VW u hu;refine⟨rfl,?_,by simp only[ea];omega⟩;intro v hv;rcases lS.1 hv with rfl|hv
      ·exact⟨j,a2⟩
      ·have:=hs.arg v (hm v (by simp[hv]));exact⟨this.ok,up _ this⟩
     ·split at h
      ·cases h
      ·cases h
      ·rename_i r d;obtain rfl:=lE (lE h);obtain⟨j,a2,a3⟩:=q r (λu hu=>hm u (by simp[hu])) d;refine⟨by simp[j],?_,by simp only[ea];omega⟩;intro v hv;rcases lS.1 hv with rfl|hv
       ·exact⟨c.ok,up _ c⟩
       ·exact a2 v hv
   split at h
   ·cases h
   ·cases h
   ·rename_i r d;obtain rfl:=lE (lE h);obtain⟨j,a2,a3⟩:=B l r (λt h=>h) d;refine⟨Tm.w6 hs.ok j λt w=>(a2 t w).1,Tm.CE (hs.mono VW).aiO λt w=>(a2 t w).2,?_⟩;rw[Tm.dJ,Tm.dJ];omega
def E_(room:Int)(t:Tm):t.nf=true↔t.JS room=some none:=by
 induction t using Tm.ind with
 |h k i s l ih=>
  rw[Tm.aaI,Tm.L9]
  have f:∀ts:List Tm,(∀t∈ts,t∈l)->(ts.all Tm.nf=true↔Tm.wc room ts=some none):=by
   intro ts
   induction ts with
   |nil=>intro _;simp[Tm.wc]|cons t ts b=>
    intro hm;have j:=ih t (hm t aaF);have n:=b λu hu=>hm u (by simp[hu]);rw[ET,gG,j,n,Tm.wc];constructor
    ·rintro⟨c,d⟩;rw[c,d]
    ·intro h
     split at h
     ·cases h
     ·cases h
     ·rename_i c
      split at h
      ·cases h
      ·rename_i d;exact⟨c,d⟩
      ·cases h
  have:=f l λt h=>h
  by_cases a:(Tm.mk k i s l).root=true
  ·rw[dO a,a];simp
   try(split<;>simp)
  ·rw[dI a];simp only[gG,aci,this];constructor
   ·rintro⟨_,e⟩;rw[e]
   ·intro h;refine⟨by simpa using a,?_⟩
    split at h
    ·cases h
    ·rename_i e;exact e
    ·cases h
def Hx{α:Type}(a:List α)(x y:α)(b:List α):(a++x::b).set a.length y=a++y::b:=aaF
def sn{t:Tm}(h:t.wt<=1000000000):ki t=some (if t.err=0 then(t.aiK:Int)else 0,t.err):=by
 unfold ki Tm.err;rw[wN FU t (by rw[fD];exact h) h]
 by_cases a:t.ok=true
 ·simp only[a,if_true,dN,il]
  by_cases b:4096<t.aiK
  ·rw[dO b,dO VW];rfl
  ·rw[dI b,dI VW];rfl
 ·simp only[a,dN];rfl
def Al{t:Tm}(h:t.wt<=1000000000):o8 t=some t.err:=by
 unfold o8;rw[sn h];rfl
theorem Tm.gZ{t:Tm}(h:t.err=0):t.ok=true/\t.aiK<=4096:=by
 unfold Tm.err at h
 split at h
 ·rename_i a
  split at h
  ·omega
  ·exact⟨a,VW⟩
 ·omega
def Tm.z:Tm:=.mk 0 0 (.mk 0 []) []
def Tm.norm:Nat->Int->Tm->Tm×Int×Int
 |0,m,t=>if t.nf then(t,m,0)else(Tm.z,0,5)|k+1,m,t=>match t.JS (4096-t.aiK)with
  |none=>(Tm.z,0,4)|some none=>(t,m,0)|some (some a)=>Tm.norm k (m+1) a
def VO{k:Nat}{m:Int}{t:Tm}(h:t.JS (4096-t.aiK)=none):t.norm (k+1) m=(Tm.z,0,4):=by rw[Tm.norm,h]
def EU{k:Nat}{m:Int}{t:Tm}(h:t.JS (4096-t.aiK)=some none):t.norm (k+1) m=(t,m,0):=by rw[Tm.norm,h]
def ES{k:Nat}{m:Int}{t a:Tm}(h:t.JS (4096-t.aiK)=some (some a)):t.norm (k+1) m=a.norm k (m+1):=by rw[Tm.norm,h]
def Sm.start{t:Tm}(h:t.err=0)(a:t.aiO 536870912=true):Sm 536870912 t:=⟨(Tm.gZ h).1,a,by have:=(Tm.gZ h).2;omega⟩
mutual
def Fm.aiK:Fm->Nat
 |.mk _ _ ts l=>1+ea Tm.aiK ts+Fm.nP l
def Fm.nP:List Fm->Nat
 |[]=>0|t::l=>t.aiK+Fm.nP l
end
def Fm.rH(l:List Fm):Fm.nP l=ea Fm.aiK l:=by
 induction l with
 |nil=>rfl|cons t l ih=>simp[Fm.nP,ea,ih]
theorem Fm.dJ(k:Int)(s:Ty)(ts:List Tm)(l:List Fm):(Fm.mk k s ts l).aiK=1+ea Tm.aiK ts+ea Fm.aiK l:=by rw[Fm.aiK,Fm.rH]
def Fm.eC(t:Fm):1<=t.aiK:=by cases t;rw[Fm.aiK];omega
def Fm.fC(l:List Fm):l.length<=ea Fm.aiK l:=iJ _ _ λt _=>t.eC
mutual
def Fm.wt:Fm->Nat
 |.mk _ s ts l=>1+s.aiK+ea Tm.wt ts+Fm.PF l
def Fm.PF:List Fm->Nat
 |[]=>0|t::l=>t.wt+Fm.PF l
end
def Fm.FK(l:List Fm):Fm.PF l=ea Fm.wt l:=by
 induction l with
 |nil=>rfl|cons t l ih=>simp[Fm.PF,ea,ih]
def Fm.i_(k:Int)(s:Ty)(ts:List Tm)(l:List Fm):(Fm.mk k s ts l).wt=1+s.aiK+ea Tm.wt ts+ea Fm.wt l:=by rw[Fm.wt,Fm.FK]
def Fm.jX(t:Fm):1<=t.wt:=by cases t;rw[Fm.wt];omega
def Fm.qZ(l:List Fm):l.length<=ea Fm.wt l:=iJ _ _ λt _=>t.jX
def Fm.ind{p:Fm->Prop}(h:∀k s ts l,(∀t∈l,p t)->p (.mk k s ts l))(t:Fm):p t:=by
 have:∀n (t:Fm),t.aiK<=n->p t:=by
  intro n
  induction n with
  |zero=>intro t a;have:=t.eC;omega
  |succ n ih=>
   intro t a;cases t with
   |mk k s ts l=>
    rw[Fm.dJ] at a;exact h k s ts l λu hu=>ih u (by have:=ep Fm.aiK hu;omega)
 exact this _ t (js _)
def Fm.iq(t:Fm):t.aiK<=t.wt:=by
 induction t using Fm.ind with
 |h k s ts l ih=>rw[Fm.dJ,Fm.i_];have:=kG ih;have:=kG (f:=Tm.aiK) (g:=Tm.wt) (l:=ts) λx _=>x.iq;omega
def h7(k:Int):Bool:=decide (k=4\/k=5\/k=6\/k=7)
def qB(k:Int):Int:=if h7 k then 1 else 0
def tW(k:Int):0<=qB k/\qB k<=1:=by unfold qB;split<;>omega
def lK(k:Int):kU k=some (h7 k):=by
 unfold kU h7
 congr 1
 rw[GS];simp
def pK(f:Fm):mU f=some (qB f.aiI):=by
 unfold mU qB;rw[lK];simp only[dF]
 split<;>rfl
def Fm.node(k:Int)(s:Ty)(a n:Nat):Bool:=
 if k=1 then s.rD&&decide (a=2)&&decide (n=0)
 else if k=2\/k=3 then s.rD&&decide (a=0)&&decide (n=2)
 else h7 k&&decide (s.err=0)&&decide (a=0)&&decide (n=1)
mutual
def Fm.ok:Fm->Bool
 |.mk k s ts l=>Fm.node k s ts.length l.length&&ts.all Tm.ok&&Fm.J9 l
def Fm.J9:List Fm->Bool
 |[]=>true|t::l=>t.ok&&Fm.J9 l
end
def Fm.Au(l:List Fm):Fm.J9 l=l.all Fm.ok:=by
 induction l with
 |nil=>rfl|cons t l ih=>simp[Fm.J9,ih]
theorem Fm.gQ(k:Int)(s:Ty)(ts:List Tm)(l:List Fm):(Fm.mk k s ts l).ok=(Fm.node k s ts.length l.length&&ts.all Tm.ok&&l.all Fm.ok):=by rw[Fm.ok,Fm.Au]
def Fm.err(t:Fm):Int:=if t.ok then(if 4096<t.aiK then 4 else 0)else 2
def gh{α:Type}{l:List α}:(l.length:Int)=0↔l=[]:=by cases l<;>simp;omega
def jj{α:Type}{l:List α}(h:(l.length:Int)=1):∃a,l=[a]:=by
 match l,h with
 |[a],_=>exact⟨a,rfl⟩|[],h=>simp at h
 |_::_::_,h=>simp at h;omega
def p9{α:Type}{l:List α}(h:(l.length:Int)=2):∃a b,l=[a,b]:=by
 match l,h with
 |[a,b],_=>exact⟨a,b,rfl⟩|[],h=>simp at h
 |[_],h=>simp at h
 |_::_::_::_,h=>simp at h;omega
def yz{t:Tm}(h:t.wt<=1000000000):kx FU t=some t.ok:=AI FU t (by rw[fD];exact h) h
def AJ:∀(n:Nat) (t:Fm),t.wt<=n->t.wt<=1000000000->lY n t=some t.ok:=by
 intro n
 induction n with
 |zero=>intro t h;have:=t.jX;omega
 |succ n ih=>
  intro t h o;cases t with
  |mk k s ts l=>
   rw[Fm.i_] at h o;rw[lY,Fm.gQ];simp only[Fm.er,Fm.eD,Fm.hZ,Fm.fu,dZ,lx,sA,gP,gC,xh,lK,ml (t:=s) VW,dF,eJ,hE]
   by_cases r:k=1
   ·simp only[r,if_true,Fm.node]
    by_cases j:(l.length:Int)=0
    ·have:=gh.1 j;subst this;cases i:s.rD with
     |false=>simp|true=>
      by_cases d:(ts.length:Int)=2
      ·obtain⟨a,b,rfl⟩:=p9 d;simp only[ea] at h o;simp only[d,if_true,kQ,qo,dF];rw[yz (t:=a) VW,yz (t:=b) VW];cases c:a.ok<;>cases f:b.ok<;>simp[c,f]
      ·have c:¬ts.length=2:=VW
       simp[d,c]
    ·have i:¬l.length=0:=VW
     simp[j,i]
   ·simp only[r,lG,Fm.node]
    by_cases j:k=2\/k=3
    ·simp only[j,if_true]
     by_cases i:(ts.length:Int)=0
     ·have:=gh.1 i;subst this;cases d:s.rD with
      |false=>simp|true=>
       by_cases c:(l.length:Int)=2
       ·obtain⟨a,b,rfl⟩:=p9 c;simp only[ea] at h o;simp only[c,if_true,kQ,qo,dF];rw[ih a VW VW,ih b VW VW];cases f:a.ok<;>cases q:b.ok<;>simp[f,q]
       ·have f:¬l.length=2:=VW
        simp[c,f]
     ·have d:¬ts.length=0:=VW
      simp[i,d]
    ·simp only[j,lG];cases i:h7 k with
     |false=>simp|true=>
      by_cases d:(ts.length:Int)=0
      ·have:=gh.1 d;subst this
       by_cases c:s.err=0
       ·by_cases f:(l.length:Int)=1
        ·obtain⟨a,rfl⟩:=jj f;simp only[ea] at h o;simp only[c,f,if_true,kQ,dF];rw[ih a VW VW];simp
        ·have q:¬l.length=1:=VW
         simp[c,f,q]
       ·simp[c]
      ·have c:¬ts.length=0:=VW
       simp[d,c]
def sh:∀(n:Nat) (t:Fm),t.aiK<=n->t.aiK<=1000000000->lX n t=some (t.aiK:Int):=by
 intro n
 induction n with
 |zero=>intro t h;have:=t.eC;omega
 |succ n ih=>
  intro t h b;cases t with
  |mk k s ts l=>
   rw[Fm.dJ] at h b;have f:=Fm.fC l;have c:=Tm.fC ts;rw[lX];simp only[Fm.er,Fm.hZ,dZ,ed (l:=l) VW,ed (l:=ts) VW,dX]
   have d:=o7 (ρ:=Int) (F:=λ(j:Int) (x:Tm) (v:Int)=>dE (fJ FU x) λy=>some (fZ.next (fl .i64 v y))) Tm.aiK ts 0 1 VW (by
    intro j x v a;have:=ep Tm.aiK a;rw[nG FU x (by rw[fD];omega) VW]
    rfl)
   have k2:=o7 (ρ:=Int) (F:=λ(j:Int) (x:Fm) (v:Int)=>dE (lX n x) λy=>some (fZ.next (fl .i64 v y))) Fm.aiK l 0 (1+ea Tm.aiK ts) VW (by
    intro j x v a;have:=ep Fm.aiK a;rw[ih x VW VW]
    rfl)
   rw[show(1:Int)=((1:Nat):Int)from rfl,d];simp only[dF,ew];rw[k2];simp[Fm.dJ]
def kg{t:Fm}(h:t.wt<=1000000000):jP t=some t.err:=by
 have:=t.iq;unfold jP Fm.err;rw[AJ FU t (by rw[fD];exact h) h,sh FU t (by rw[fD];omega) VW];cases t.ok with
 |false=>simp|true=>by_cases a:4096<t.aiK<;>simp[a]<;>omega
def H_(f:Fm)(h:f.wt<=1000000000):rv f=some (Fm.node f.aiI f.dM f.ef.length f.aiJ.length):=by
 cases f with
 |mk k s ts l=>
  rw[Fm.i_] at h;show rv (.mk k s ts l)=some (Fm.node k s ts.length l.length)
  have d:(ei (ts.length:Int) 2&&ei (l.length:Int) 0)=(decide (ts.length=2)&&decide (l.length=0)):=by
   rw[GS];simp only[gG,gP,oy];omega
  have i:(ei (ts.length:Int) 0&&ei (l.length:Int) 2)=(decide (ts.length=0)&&decide (l.length=2)):=by
   rw[GS];simp only[gG,gP,oy];omega
  have j:(ei (ts.length:Int) 0&&ei (l.length:Int) 1)=(decide (ts.length=0)&&decide (l.length=1)):=by
   rw[GS];simp only[gG,gP,oy];omega
  unfold rv;simp only[Fm.er,Fm.eD,Fm.hZ,Fm.fu,dZ,lx,yT,sA,gP,gC,ll (t:=s) VW,so,dF,dN,eo,d,i,j];unfold Fm.node
  by_cases b:k=1
  ·cases c:s.rD<;>simp[b]
  ·by_cases c:k=2\/k=3
   ·cases a:s.rD<;>simp[b,c]
   ·by_cases a:k=4\/k=5\/k=6\/k=7
    ·have n:h7 k=true:=by simp[h7,a]
     by_cases o:s.err=0<;>simp[b,c,a,o,n]
    ·have n:h7 k=false:=by simp[h7,a]
     simp[b,c,a,n]
def Ah:∀(n:Nat) (t:Fm),t.wt<=n->t.wt<=1000000000->jg n t=some (if t.ok then((t.aiK:Int),true)else(0,false)):=by
 intro n
 induction n with
 |zero=>intro t h;have:=t.jX;omega
 |succ n ih=>
  intro t h o;cases t with
  |mk k s ts l=>
   have q:=H_ (.mk k s ts l) o;rw[Fm.i_] at h o;have y:=Fm.qZ l;have r:=Tm.qZ ts;have hn:ea Tm.aiK ts<=ea Tm.wt ts:=kG λx _=>x.iq;have u:ea Fm.aiK l<=ea Fm.wt l:=kG λx _=>x.iq
   have w:eY (λ(f:Int) (a:Tm) (b:Int)=>dS (jA FU a) λc d=>if d then some (fZ.next (fl .i64 b c))else some (fZ.ret ((0:Int),false))) ts 0 1=if ts.all Tm.ok then some (.inl ((1+ea Tm.aiK ts:Nat):Int))else some (.inr (0,false)):=by
    refine vB Tm.aiK Tm.ok _ ts 0 1 VW ?_;intro j x v i;have:=ep Tm.wt i;rw[wN FU x (by rw[fD];omega) VW];cases x.ok<;>simp
   have k2:eY (λ(f:Int) (a:Fm) (b:Int)=>dS (jg n a) λc d=>if d then some (fZ.next (fl .i64 b c))else some (fZ.ret ((0:Int),false))) l 0 ((1+ea Tm.aiK ts:Nat):Int)=if l.all Fm.ok then some (.inl ((1+ea Tm.aiK ts+ea Fm.aiK l:Nat):Int))else some (.inr (0,false)):=by
    refine vB Fm.aiK Fm.ok _ l 0 _ VW ?_;intro j x v i;have:=ep Fm.wt i;rw[ih x VW VW];cases x.ok<;>simp
   rw[jg,q];simp only[Fm.er,Fm.eD,Fm.hZ,Fm.fu,dZ,ed (l:=l) VW,ed (l:=ts) VW,dX,dF,w,Fm.gQ,Fm.dJ];cases A:Fm.node k s ts.length l.length with
   |false=>simp|true=>
    cases B:ts.all Tm.ok with
    |false=>simp|true=>
     simp only[if_true,dF,ew,k2,CS];cases C:l.all Fm.ok<;>simp
def pI{t:Fm}(h:t.wt<=1000000000):iK t=some (if t.err=0 then(t.aiK:Int)else 0,t.err):=by
 unfold iK Fm.err;rw[Ah FU t (by rw[fD];exact h) h];cases t.ok with
 |false=>simp|true=>
  by_cases a:4096<t.aiK
  ·simp[a];omega
  ·simp[a];omega
def qb{t:Fm}(h:t.wt<=1000000000):j2 t=some t.err:=by
 unfold j2;rw[pI h];rfl
def JA:∀(n:Nat) (t:Fm),t.wt<=n->t.wt<=1000000000->ly n t=some t:=by
 intro n
 induction n with
 |zero=>intro t h;have:=t.jX;omega
 |succ n ih=>
  intro t h c;cases t with
  |mk k s ts l=>
   rw[Fm.i_] at h c;have f:=Fm.qZ l;have d:=Tm.qZ ts;rw[ly];simp only[Fm.er,Fm.eD,Fm.hZ,Fm.fu,dZ,ed (l:=l) VW,ed (l:=ts) VW,dX,jk (t:=s) VW,dF];rw[jU id ts 0 [] aby]
   ·simp only[dF,ew];rw[jU id l 0 [] aby]
    ·simp
    ·intro j x v a b;have:=ep Fm.wt a;rw[ih x VW VW];simp[fM (l:=v) (m:=[x]) (by simpa using b)]
   ·intro j x v a b;have:=ep Tm.wt a;rw[ug (t:=x) VW];simp[fM (l:=v) (m:=[x]) (by simpa using b)]
def tZ{t:Fm}(h:t.wt<=1000000000):ly FU t=some t:=JA FU t (by rw[fD];exact h) h
mutual
def Fm.has:Fm->Bool
 |.mk k _ _ l=>if k=1 then false else if k=2 then Fm.LM l else if k=5 then true else Fm.Hr l
def Fm.LM:List Fm->Bool
 |[]=>false|f::l=>f.has||Fm.LM l
def Fm.Hr:List Fm->Bool
 |[]=>false|[f]=>f.has|_::f::l=>Fm.Hr (f::l)
end
def QW(k:Int)(a b:Ty):Ty×Bool×Int:=if(Ty.mk k [a,b]).err≠0 then(.mk 0 [],false,(Ty.mk k [a,b]).err)else(.mk k [a,b],true,0)
def afB(first last:Ty×Bool×Int):Ty×Bool×Int:=
 if first.2.2≠0\/first.2.1=false then(last.1,last.2.1,first.2.2)else if last.2.1 then QW 3 first.1 last.1 else(first.1,true,0)
def aeM(first last:Ty×Bool×Int):Ty×Bool×Int:=
 if first.2.2≠0\/first.2.1=false then(last.1,true,first.2.2)else QW 4 first.1 last.1
def ab3(k:Int)(s:Ty)(first last:Ty×Bool×Int):Ty×Bool×Int:=
 if last.2.2≠0 then(.mk 0 [],false,last.2.2)
 else if k=2 then afB first last
 else if k=5 then(if last.2.1 then QW 3 s last.1 else(s,true,0))
 else if last.2.1 then(if k=3 then aeM first last else if k=4 then QW 4 s last.1 else(last.1,true,0))
 else(.mk 0 [],false,0)
def acj:Ty×Bool×Int:=(.mk 0 [],false,0)
mutual
def Fm.ct:Fm->Ty×Bool×Int
 |.mk k s _ l=>if k=1 then acj else ab3 k s (Fm.afX l) (Fm.aaK l)
def Fm.afX:List Fm->Ty×Bool×Int
 |[]=>acj|f::_=>f.ct
def Fm.aaK:List Fm->Ty×Bool×Int
 |[]=>acj|[f]=>f.ct|_::f::l=>Fm.aaK (f::l)
end
def Fm.QR(k:Int)(s:Ty)(ts:List Tm)(a b:Fm):(Fm.mk k s ts [a,b]).has=if k=1 then false else if k=2 then a.has||b.has else if k=5 then true else b.has:=by
 rw[Fm.has];simp[Fm.LM,Fm.Hr]
def Fm.LG(k:Int)(s:Ty)(ts:List Tm)(a:Fm):(Fm.mk k s ts [a]).has=if k=1 then false else if k=5 then true else a.has:=by
 rw[Fm.has];simp only[Fm.LM,Fm.Hr,Bool.or_false]
 by_cases b:k=2
 ·subst b;simp
 ·simp[b]
def Fm.has_eq(s:Ty)(ts:List Tm)(l:List Fm):(Fm.mk 1 s ts l).has=false:=by rw[Fm.has];simp
def Fm.oB{p:Fm->Prop}(q:∀a b:Tm,a.ok=true->b.ok=true->p (.mk 1 (.mk 0 []) [a,b] []))
  (r:∀(k:Int) (a b:Fm),k=2\/k=3->a.ok=true->b.ok=true->p a->p b->p (.mk k (.mk 0 []) [] [a,b]))
  (t:∀(k:Int) (s:Ty) (a:Fm),k=4\/k=5\/k=6\/k=7->s.err=0->a.ok=true->p a->p (.mk k s [] [a])) (f:Fm) (j:f.ok=true):p f:=by
 induction f using Fm.ind with
 |h k s ts l ih=>
  rw[Fm.gQ] at j;simp only[gG,kE] at j;obtain⟨⟨hn,d⟩,c⟩:=j;unfold Fm.node at hn
  split at hn
  ·rename_i n;subst n;simp only[gG,oy,Ty.mE] at hn;obtain⟨⟨rfl,i⟩,o⟩:=hn;obtain⟨a,b,rfl⟩:=p9 (l:=ts) VW;have:=YR.1 o;subst this;exact q a b (d a aaF) (d b aaF)
  ·split at hn
   ·rename_i n;simp only[gG,oy,Ty.mE] at hn;obtain⟨⟨rfl,i⟩,o⟩:=hn;obtain⟨a,b,rfl⟩:=p9 (l:=l) VW;have:=YR.1 i;subst this;exact r k a b n (c a aaF) (c b aaF) (ih a aaF (c a aaF)) (ih b aaF (c b aaF))
   ·simp only[gG,oy] at hn;obtain⟨⟨⟨u,hs⟩,i⟩,o⟩:=hn;obtain⟨a,rfl⟩:=jj (l:=l) VW;have:=YR.1 i;subst this;refine t k s a ?_ hs (c a aaF) (ih a aaF (c a aaF));simpa[h7] using u
theorem Ty.k1{t:Ty}(h:t.err=0):t.ok=true/\t.aiK<=64:=by
 unfold Ty.err at h
 split at h
 ·split at h
  ·omega
  ·exact⟨‹_›,VW⟩
 ·omega
theorem Ty.Cr{t:Ty}(h:t.ok=true)(a:t.aiK<=64):t.err=0:=by unfold Ty.err;rw[dO h,dI VW]
def Ty.ok_two{k:Int}(c:k=3\/k=4){a b:Ty}(d:a.ok=true)(f:b.ok=true):(Ty.mk k [a,b]).ok=true:=by
 rw[Ty.gQ]
 have:¬(k=1\/k=2\/k=5):=VW
 simp[Ty.want,c,this,d,f]
theorem Ty.BA(k:Int)(a b:Ty):(Ty.mk k [a,b]).aiK=1+a.aiK+b.aiK:=by rw[Ty.dJ];simp[ea];omega
theorem Fm.gZ{f:Fm}(h:f.err=0):f.ok=true/\f.aiK<=4096:=by
 unfold Fm.err at h
 split at h
 ·split at h
  ·omega
  ·exact⟨‹_›,VW⟩
 ·omega
def Fm.cty(f:Fm):Ty×Int:=if f.err≠0 then(.mk 0 [],f.err)else if f.ct.2.2≠0 then(.mk 0 [],f.ct.2.2)else(if f.has then f.ct.1 else .mk 5 [],0)
def ER:∀(n:Nat) (f:Fm),f.aiK<=n->f.ok=true->jt n f=some f.has:=by
 intro n
 induction n with
 |zero=>intro f h;have:=f.eC;omega
 |succ n ih=>
  intro f h t;refine Fm.oB (p:=λf=>f.aiK<=n+1->jt (n+1) f=some f.has) ?_ ?_ ?_ f t h
  ·intro a b _ _ _;rw[jt,Fm.has_eq];rfl
  ·intro k a b u i v _ _ hn;rw[Fm.dJ] at hn;simp only[ea] at hn;have d:=ih a VW i;have j:=ih b VW v
   have c:k≠1:=VW
   have l:k≠5:=VW
   have o:eb [a,b] (fU .i64 (ez [a,b]) 1)=some b:=by
    rw[fY aaF aaF];rfl
   have w:eb [a,b] 0=some a:=rfl;have x:eb [a,b] 1=some b:=rfl;rw[jt,Fm.QR,dI c];simp only[Fm.er,Fm.eD,gP,c,l,lG,o,w,x,dF,j,d,dZ]
   by_cases r:k=2
   ·simp only[r,if_true];cases a.has<;>simp
   ·simp[r]
  ·intro k s a u hs i _ hn;rw[Fm.dJ] at hn;simp only[ea] at hn;have d:=ih a VW i
   have c:k≠1:=VW
   have q:k≠2:=VW
   have o:eb [a] (fU .i64 (ez [a]) 1)=some a:=by
    rw[fY aaF aaF];rfl
   rw[jt,Fm.LG,dI c];simp only[Fm.er,Fm.eD,gP,c,q,lG,o,dF,d]
   by_cases y:k=5<;>simp[y]
def Fc(f:Fm)(h:f.wt<=1000000000):ns f=some (if f.err≠0 then(false,f.err)else(f.has,0)):=by
 unfold ns;rw[kg h];simp only[dF,eo]
 by_cases he:f.err=0
 ·rw[ER FU f (by rw[fD];have:=f.iq;omega) (Fm.gZ he).1];simp[he]
 ·simp[he]
def Ty.nat:Ty:=.mk 1 []
def Ty.ir:Ty:=.mk 2 []
def Ty.unit:Ty:=.mk 5 []
def Ty.fn(a b:Ty):Ty:=.mk 4 [a,b]
def Ty.pr(a b:Ty):Ty:=.mk 3 [a,b]
def Ty.z:Ty:=.mk 0 []
inductive dQ:List Ty->Tm->Ty->Prop
 |var {g t} (i:Nat):i<g.length->g[g.length-1-i]?=some t->dQ g (.mk 1 i .z []) t|lam {g s b t}:(Ty.fn s t).err=0->dQ (g++[s]) b t->dQ g (.mk 2 0 s [b]) (.fn s t)|app {g f a s t}:dQ g f (.fn s t)->dQ g a s->dQ g (.mk 3 0 .z [f,a]) t|zero {g}:dQ g (.mk 4 0 .z []) .nat|succ {g a}:dQ g a .nat->dQ g (.mk 5 0 .z [a]) .nat|rQ {g t b s n}:t.err=0->dQ g b t->dQ g s (.fn .nat (.fn t t))->dQ g n .nat->dQ g (.mk 6 0 t [b,s,n]) t|nil {g}:dQ g (.mk 7 0 .z []) .ir|cons {g a b}:dQ g a .nat->dQ g b .ir->dQ g (.mk 8 0 .z [a,b]) .ir|fold {g t b s n}:t.err=0->dQ g b t->dQ g s (.fn .nat (.fn .ir (.fn t t)))->dQ g n .ir->dQ g (.mk 9 0 t [b,s,n]) t|pair {g a b s t}:(Ty.pr s t).err=0->dQ g a s->dQ g b t->dQ g (.mk 10 0 .z [a,b]) (.pr s t)|fst {g a s t}:dQ g a (.pr s t)->dQ g (.mk 11 0 .z [a]) s|snd {g a s t}:dQ g a (.pr s t)->dQ g (.mk 12 0 .z [a]) t|unit {g}:dQ g (.mk 13 0 .z []) .unit
theorem Ty.qf:Ty.z.rD=true:=rfl
def Ty.sU{k:Int}(c:k=3\/k=4){a b:Ty}(h:(Ty.mk k [a,b]).err=0):a.err=0/\b.err=0:=by grind[Ty.k1,Ty.gQ,Ty.BA,Ty.Cr]
def dQ.ok{g:List Ty}{x:Tm}{t:Ty}(h:dQ g x t):x.ok=true:=by
 induction h with
 |var i c f=>grind[Tm.gQ,Tm.node,gL,jZ,Ty.qf]|lam c _ ih=>have:=(Ty.sU (.inr rfl) c).1;simp[Tm.gQ,Tm.node,gL,jZ,this,ih]
 |app _ _ a b=>simp[Tm.gQ,Tm.node,gL,jZ,Ty.qf,a,b]|zero=>simp[Tm.gQ,Tm.node,gL,jZ,Ty.qf]|succ _ ih=>simp[Tm.gQ,Tm.node,gL,jZ,Ty.qf,ih]|rQ c _ _ _ a b d=>grind[Tm.gQ,Tm.node,gL,jZ]|nil=>simp[Tm.gQ,Tm.node,gL,jZ,Ty.qf]|cons _ _ a b=>simp[Tm.gQ,Tm.node,gL,jZ,Ty.qf,a,b]|fold c _ _ _ a b d=>grind[Tm.gQ,Tm.node,gL,jZ]|pair _ _ _ a b=>simp[Tm.gQ,Tm.node,gL,jZ,Ty.qf,a,b]|fst _ ih=>simp[Tm.gQ,Tm.node,gL,jZ,Ty.qf,ih]|snd _ ih=>simp[Tm.gQ,Tm.node,gL,jZ,Ty.qf,ih]|unit=>simp[Tm.gQ,Tm.node,gL,jZ,Ty.qf]
def Tm.pL(t:Tm):∀{m n:Int},m<=n->t.aiO m=true->t.aiO n=true:=by
 induction t using Tm.ind with
 |h k i s l ih=>grind[Tm.fx]
def dQ.aiO{g:List Ty}{x:Tm}{t:Ty}(h:dQ g x t):∀m:Int,((g.length+x.aiK:Nat):Int)<=m->x.aiO m=true:=by
 induction h with
 |var i d f=>grind[Tm.dJ,ea,Tm.fx]|lam _ _ ih=>grind[Tm.dJ,ea,Tm.fx]|zero|nil|unit=>grind[Tm.dJ,ea,Tm.fx]|succ _ ih|fst _ ih|snd _ ih=>grind[Tm.dJ,ea,Tm.fx]|app _ _ a b|cons _ _ a b|pair _ _ _ a b=>grind[Tm.dJ,ea,Tm.fx]|rQ _ _ _ _ a b c|fold _ _ _ _ a b c=>grind[Tm.dJ,ea,Tm.fx]
def xz{α:Type}{f g:α->Nat}{c:Nat}{l:List α}(h:∀x∈l,f x<=c*g x):ea f l<=c*ea g l:=by
 induction l with
 |nil=>simp[ea]|cons x l ih=>simp only[ea,V4];have:=h x aaF;have:=ih λy a=>h y (by simp[a]);omega
def Tm.iv(t:Tm)(h:t.ok=true):t.wt<=65*t.aiK:=by
 induction t using Tm.ind with
 |h k i s l ih=>
  rw[Tm.gQ] at h;simp only[gG,kE] at h;rw[Tm.i_,Tm.dJ,V4];have c:=xz λx b=>ih x b (h.2 x b)
  have d:s.aiK<=64:=by
   have:=h.1;simp only[Tm.node,gG] at this;have a:=this.2
   split at a
   ·simp only[oy] at a;exact(Ty.k1 a).2
   ·grind[Ty.mE,Ty.dJ,ea]
  omega
def Fm.iv(f:Fm)(h:f.ok=true):f.wt<=65*f.aiK:=by
 induction f using Fm.ind with
 |h k s ts l ih=>
  rw[Fm.gQ] at h;simp only[gG,kE] at h;rw[Fm.i_,Fm.dJ,V4,V4];have b:=xz λx a=>ih x a (h.2 x a);have d:=xz (f:=Tm.wt) (g:=Tm.aiK) (c:=65) (l:=ts) λx a=>x.iv (h.1.2 x a)
  have i:s.aiK<=64:=by
   have:=h.1.1;unfold Fm.node at this
   split at this
   ·grind[Ty.mE,Ty.dJ,ea]
   ·split at this
    ·grind[Ty.mE,Ty.dJ,ea]
    ·simp only[gG,oy] at this;exact(Ty.k1 this.1.1.2).2
  omega
structure ey.wf (d:ey):Prop where
 len:d.l.length<=1000
 lo:0<=d.xy
 hi:d.xy<=d.l.length
def St(x n:Int)(c:1<=n)(d:n<=1000000000):∃y,I_ x n=some y/\0<=y/\y<n:=by
 unfold I_;simp only[V8 (b:=n) VW];refine⟨_,rfl,?_⟩;unfold UI
 have e:(x.tmod n).natAbs<n.natAbs:=by
  rw[Int.natAbs_tmod];exact YO _ VW
 rw[fR VW VW]
 have a:0<=x.tmod n+n:=VW
 exact⟨Int.tmod_nonneg _ a,Int.tmod_lt_of_pos _ VW⟩
def qU(d:ey)(a:d.wf)(n:Int)(c:1<=n)(f:n<=1000000000):∃x b,h9 d n=some (x,b)/\0<=x/\x<n/\b.wf:=by
 unfold h9;simp only[lx,sA,sj,jc,gC]
 by_cases h:n<1\/(d.l.length:Int)<=d.xy
 ·grind
 ·rw[dI h];obtain⟨y,i,_⟩:=KM (l:=d.l) a.lo VW;obtain⟨z,j,k,o⟩:=St y n c f;rw[i];simp only[dF,j];have:=a.len;have:=a.lo;rw[fR VW VW];exact⟨z,_,rfl,k,o,⟨a.len,by show 0<=d.xy+1;omega,by show d.xy+1<=(d.l.length:Int);omega⟩⟩
def gm:jn=some .nat:=rfl
def gE:mc=some .ir:=rfl
def Jx:sZ=some .unit:=rfl
def yG{a b:Ty}(c:a.aiK<=1000000000)(d:b.aiK<=1000000000):sW a b=some (.pr a b):=by
 unfold sW;rw[jk c,jk d];rfl
def iL{a b:Ty}(c:a.aiK<=1000000000)(d:b.aiK<=1000000000):kR a b=some (.fn a b):=by
 unfold kR;rw[jk c,jk d];rfl
def Ty.Wx:Ty.nat.ok=true:=by unfold Ty.nat;rw[Ty.gQ];rfl
def Ty.U8:Ty.ir.ok=true:=by unfold Ty.ir;rw[Ty.gQ];rfl
def Ty.QP:Ty.unit.ok=true:=by unfold Ty.unit;rw[Ty.gQ];rfl
def Ty.hX:Ty.nat.aiK=1:=by unfold Ty.nat;rw[Ty.dJ];rfl
def Ty.oK:Ty.ir.aiK=1:=by unfold Ty.ir;rw[Ty.dJ];rfl
def Ty.H7:Ty.unit.aiK=1:=by unfold Ty.unit;rw[Ty.dJ];rfl
def Ty.jz(a b:Ty):(Ty.fn a b).aiK=1+a.aiK+b.aiK:=Ty.BA _ _ _
def Ty.vm(a b:Ty):(Ty.pr a b).aiK=1+a.aiK+b.aiK:=Ty.BA _ _ _
theorem UE(k:Nat)(h:k<=4):1<=2^k/\2^k<=16:=by
 have:k=0\/k=1\/k=2\/k=3\/k=4:=VW
 grind
def Ps:∀(n k:Nat) (d:ey),k<n->k<=4->d.wf->∃t i,nE n d (k:Int)=some (t,i)/\t.ok=true/\t.aiK+1<=2^(k+1)/\i.wf:=by
 intro n
 induction n with
 |zero=>intro k d h;omega|succ n ih=>
  intro k d B o w;obtain⟨x,d1,y,C,D,j⟩:=qU d w 7 VW VW;have F:=UE k o
  have G:(2:Nat)^(k+1)=2*2^k:=by rw[Nat.pow_succ];omega
  have c:=λi (q:ey.wf i)=>(⟨Ty.nat,i,rfl,Ty.Wx,by rw[Ty.hX];omega,q⟩:∃t l,some (Ty.nat,i)=some (t,l)/\t.ok=true/\t.aiK+1<=2^(k+1)/\l.wf);rw[nE];simp only[dZ,y,dN,gm,gE,Jx,dF,lx,sA,gP,il]
  split
  ·exact c d1 j
  split
  ·exact⟨.ir,d1,rfl,Ty.U8,by rw[Ty.oK];omega,j⟩
  split
  ·exact⟨.unit,d1,rfl,Ty.QP,by rw[Ty.H7];omega,j⟩
  have two:0<(k:Int)->∃a b d2 d3,nE n d1 (fU .i64 (k:Int) 1)=some (a,d2)/\nE n d2 (fU .i64 (k:Int) 1)=some (b,d3)/\a.ok=true/\b.ok=true/\a.aiK+1<=2^k/\b.aiK+1<=2^k/\d3.wf:=by
   intro f;obtain⟨m,rfl⟩:∃m,k=m+1:=⟨k-1,VW⟩
   grind[fY]
  split
  ·split
   ·rename_i f;obtain⟨a,b,d2,d3,r,s,a2,u,a3,A,v⟩:=two f;rw[r];simp only[dN];rw[s];simp only[dN];rw[yG VW VW];exact⟨_,_,rfl,Ty.ok_two (.inl rfl) a2 u,by rw[Ty.vm];omega,v⟩
   ·exact c d1 j
  split
  ·split
   ·rename_i f;obtain⟨a,b,d2,d3,r,s,a2,u,a3,A,v⟩:=two f;rw[r];simp only[dN];rw[s];simp only[dN];rw[iL VW VW];exact⟨_,_,rfl,Ty.ok_two (.inr rfl) a2 u,by rw[Ty.jz];omega,v⟩
   ·exact c d1 j
  ·exact c d1 j
def TQ(d:ey)(b:d.wf)(k:Nat)(c:k<=4):∃t a,nE FU d (k:Int)=some (t,a)/\t.err=0/\t.aiK+1<=2^(k+1)/\a.wf:=by
 obtain⟨t,a,f,h,i,j⟩:=Ps FU k d (by rw[fD];omega) c b
 grind[UE,Ty.Cr]
def PO(g:List Ty)(t:Ty)(hg:g.length<=1000000)(hn:∀s∈g,s.aiK<=1000000000):∃l,Dq g t=some l/\l.length<=g.length/\∀v∈l,∃i:Nat,v=i/\i<g.length/\g[g.length-1-i]?=some t:=by
 unfold Dq;simp only[ed (l:=g) VW,dX,dZ]
 have key:∀(l:List Ty) (i:Nat) (v:List Int),i+l.length=g.length->v.length<=i->(∀x∈v,∃j:Nat,x=j/\j<g.length/\g[g.length-1-j]?=some t)->∃a,eY (ρ:=List Int) (λ(j:Int) (u:Ty) (v:List Int)=>dE (eb g (fU .i64 (fU .i64 (ez g) 1) j)) λx=>dE (fh FU x t) λy=>if y then gu (fL v [j]) (some (fZ.next (fT v [j])))else some (fZ.next v)) l i v=some (.inl a)/\a.length<=g.length/\∀x∈a,∃j:Nat,x=j/\j<g.length/\g[g.length-1-j]?=some t:=by
  intro l
  induction l with
  |nil=>
   intro i v d k c;exact⟨v,rfl,by simp at d;omega,c⟩
  |cons y l ih=>
   intro i v d k c;simp only[pM] at d
   have b:g.length-1-i<g.length:=VW
   have n:eb g (fU .i64 (fU .i64 (ez g) 1) (i:Int))=some g[g.length-1-i]:=by grind[gC,fY,jN]
   rw[fp];simp only[n,dF,iD (hn _ (Es b))];cases hs:Ty.kV g[g.length-1-i] t with
   |false=>
    simp only[re,lG,dF,fw];exact ih (i+1) v VW VW c
   |true=>
    rw[Ty.kO] at hs;simp only[if_true,fM (l:=v) (m:=[(i:Int)]) aby,dX,dF,fw,jl];refine ih (i+1) (v++[(i:Int)]) VW aby ?_;intro x f;rcases uh.1 f with h|h
    ·exact c x h
    ·rw[E'] at h;exact⟨i,h,VW,by rw[qL b,hs]⟩
 obtain⟨a,o,q,r⟩:=key g 0 [] aaF aaF aaF;rw[o];exact⟨a,rfl,q,r⟩
def uV(g l:List Ty)(h:g.length+l.length<=1000000):rE g l=some (g++l):=by
 unfold rE;rw[fM aby,fM aby];simp
def Fp(n:Nat)(hn:n<=1000000):∃x,qw (n:Int)=some x/\∀g,dQ g x .nat/\x.aiK=n+1:=by
 unfold qw;rw[pq 4 [] (by simp[ea])];simp only[dF,dZ]
 obtain⟨o,q,l⟩:=KJ (ρ:=Tm) (F:=Ts λ(h:Int) (i:Int) (v167:Int) (v168:Int) (j:List Ty) (k:List Tm)=>
   if o0 h 0 then some (fZ.next (fU .i64 h 1,5,0,0,[],[Tm.mk i v167 (Ty.mk v168 j) k]))else some (fZ.Jq (h,i,v167,v168,j,k)))
  (λs=>0<=s.1/\s.1<=n/\(∀g,dQ g (Tm.mk s.2.1 s.2.2.1 (Ty.mk s.2.2.2.1 s.2.2.2.2.1) s.2.2.2.2.2) .nat)/\(Tm.mk s.2.1 s.2.2.1 (Ty.mk s.2.2.2.1 s.2.2.2.2.1) s.2.2.2.2.2).aiK+s.1=n+1)
  (λs=>s.1.toNat)
  (λo=>match o with|.inl s=>(∀g,dQ g (Tm.mk s.2.1 s.2.2.1 (Ty.mk s.2.2.2.1 s.2.2.2.2.1) s.2.2.2.2.2) .nat)/\(Tm.mk s.2.1 s.2.2.1 (Ty.mk s.2.2.2.1 s.2.2.2.2.1) s.2.2.2.2.2).aiK=n+1|.inr _=>False)
  (by
   rintro⟨a,b,c,d,e,f⟩ ⟨q,l,t,v⟩;simp only at q l t v
   by_cases u:0<a
   ·left;refine⟨_,by simp only[AG,il,u,if_true];rfl,⟨?_,?_,?_,?_⟩,?_⟩
    ·rw[fY VW VW];show 0<=a-1;omega
    ·rw[fY VW VW];show a-1<=n;omega
    ·intro g;exact dQ.succ (t g)
    all_goals grind[fY,Tm.dJ,ea]
   ·right;left;refine⟨_,by simp only[AG,il,u,lG];rfl,t,?_⟩
    have:a=0:=VW
    subst this
    simp only;omega)
  FU ((n:Int),4,0,0,[],[]) ⟨aaF,aaF,λg=>dQ.zero,by rw[Tm.dJ];simp[ea];omega⟩ (by rw[fD];show(n:Int).toNat<_;omega)
 simp only[Tm.eD,Tm.gY,Tm.fu,Ty.eD,Ty.er,Tm.er];rw[q];cases o with
 |inr r=>exact l.elim|inl s=>
  obtain⟨a,b,c,d,e,f⟩:=s;exact⟨_,rfl,λg=>⟨l.1 g,l.2⟩⟩
def Bm(n:Int)(b:0<=n)(hn:n<=4000):∃x,uq n=some x/\∀g,dQ g x .nat/\(x.aiK:Int)=n+1:=by
 obtain⟨k,rfl⟩:=ac6 b;obtain⟨x,c,a⟩:=Fp k VW;unfold uq uS;simp only[sj,jc];rw[dI VW,dI VW,c];exact⟨x,rfl,λg=>⟨(a g).1,by rw[(a g).2];simp⟩⟩
structure Pp (g:List Ty) (x:Tm) (t:Ty) (n:Nat):Prop where
 ty:dQ g x t
 aiK:x.aiK<=n
def Pp.wt{g:List Ty}{x:Tm}{t:Ty}{n:Nat}(h:Pp g x t n):x.wt<=65*n:=by
 have:=x.iv h.ty.ok;have:=h.aiK;omega
theorem Pp.mono{g:List Ty}{x:Tm}{t:Ty}{n m:Nat}(h:Pp g x t n)(hm:n<=m):Pp g x t m:=⟨h.ty,GV h.aiK hm⟩
def M0{k:Int}{a:Tm}(b:a.wt<=100000000):fF k [a]=some (.mk k 0 .z [a]):=pq k [a] (by simp[ea];omega)
def w5{k:Int}{a b:Tm}(c:a.wt<=100000000)(d:b.wt<=100000000):fF k [a,b]=some (.mk k 0 .z [a,b]):=pq k [a,b] (by simp[ea];omega)
def HE{k:Int}:fF k []=some (.mk k 0 .z []):=pq k [] (by simp[ea])
def D6{k:Int}{s:Ty}{a:Tm}(hs:s.aiK<=1000000000)(b:a.wt<=100000000):lh k s [a]=some (.mk k 0 s [a]):=Hw k s [a] hs (by simp[ea];omega)
def DK{k:Int}{s:Ty}{a b c:Tm}(hs:s.aiK<=1000000000)(d:a.wt<=100000000)(f:b.wt<=100000000)(h:c.wt<=100000000):lh k s [a,b,c]=some (.mk k 0 s [a,b,c]):=
 Hw k s [a,b,c] hs (by simp[ea];omega)
def yW{f a b:Tm}(c:f.wt<=10000000)(d:a.wt<=10000000)(h:b.wt<=10000000):vW f [a,b]=some (.mk 3 0 .z [.mk 3 0 .z [f,a],b]):=by
 have i:(Tm.mk 3 0 .z [f,a]).wt<=30000000:=by rw[Tm.i_];have:Ty.z.aiK=1:=rfl;simp[ea,this];omega
 unfold vW
 simp only[ed (l:=[a,b]) aaF,dX,dZ,fp,pj,CJ,Ty.jL,Tm.jL,w5 (k:=3) (a:=f) (b:=a) VW VW,dF,fw,w5 (k:=3) (a:=.mk 3 0 .z [f,a]) (b:=b) VW VW,ew]
def Ty.fb:Ty.nat.err=0:=Ty.Cr Ty.Wx (by rw[Ty.hX];omega)
def Ty.mo:Ty.ir.err=0:=Ty.Cr Ty.U8 (by rw[Ty.oK];omega)
def Ty.IU:Ty.unit.err=0:=Ty.Cr Ty.QP (by rw[Ty.H7];omega)
def Ty.yX{a b:Ty}(c:a.err=0)(d:b.err=0)(h:a.aiK+b.aiK<=63):(Ty.fn a b).err=0:=Ty.Cr (Ty.ok_two (.inr rfl) (Ty.k1 c).1 (Ty.k1 d).1) (by rw[Ty.jz];omega)
def Ty.P'{a b:Ty}(c:a.err=0)(d:b.err=0)(h:a.aiK+b.aiK<=63):(Ty.pr a b).err=0:=Ty.Cr (Ty.ok_two (.inl rfl) (Ty.k1 c).1 (Ty.k1 d).1) (by rw[Ty.vm];omega)
def zH(i:Nat):Tm:=.mk 1 i .z []
def wV(s:Ty)(b:Tm):Tm:=.mk 2 0 s [b]
def eF(f a:Tm):Tm:=.mk 3 0 .z [f,a]
def iF:Tm:=.mk 4 0 .z []
def gK(a:Tm):Tm:=.mk 5 0 .z [a]
def QG(t:Ty)(a b c:Tm):Tm:=.mk 6 0 t [a,b,c]
def Ld:Tm:=wV .nat (wV .nat (QG .nat (zH 1) (wV .nat (wV .nat (gK (zH 0)))) (zH 0)))
def PT:Tm:=wV .nat (QG .nat iF (wV .nat (wV .nat (zH 1))) (zH 0))
def M1:Tm:=wV .nat (wV .nat (QG .nat (zH 1) (wV .nat (wV .nat (eF PT (zH 0)))) (zH 0)))
def Du(i:Nat):gn (i:Int)=some (zH i):=rfl
def vu{a:Tm}(b:a.wt<=100000000):jV a=some (wV .nat a):=by
 unfold jV;rw[gm];simp only[dF];rw[D6 (by rw[Ty.hX];omega) b];rfl
def rec_eq{a b c:Tm}(d:a.wt<=100000000)(f:b.wt<=100000000)(h:c.wt<=100000000):tk a b c=some (QG .nat a b c):=by
 unfold tk;rw[gm];simp only[dF];rw[DK (by rw[Ty.hX];omega) d f h];rfl
def xl:oq=some Ld:=by
 unfold oq;rw[show gn 1=some (zH 1)from rfl,show gn 0=some (zH 0)from rfl];simp only[dF];rw[M0 aak];simp only[dF];rw[vu aak];simp only[dF];rw[vu aak];simp only[dF];rw[rec_eq aak aak aak];simp only[dF];rw[vu aak];simp only[dF];rw[vu aak];rfl
def JG:vt=some PT:=by
 unfold vt;rw[show gn 1=some (zH 1)from rfl,show gn 0=some (zH 0)from rfl,HE];simp only[dF];rw[vu aak];simp only[dF];rw[vu aak];simp only[dF];rw[rec_eq aak aak aak];simp only[dF];rw[vu aak];rfl
def DQ:ru=some M1:=by
 unfold ru;rw[show gn 1=some (zH 1)from rfl,show gn 0=some (zH 0)from rfl,JG];simp only[dF];rw[w5 aak aak];simp only[dF];rw[vu aak];simp only[dF];rw[vu aak];simp only[dF];rw[rec_eq aak aak aak];simp only[dF];rw[vu aak];simp only[dF];rw[vu aak];rfl
def ae'{g:List Ty}{t:Ty}(i:Nat)(h:i<g.length)(a:g[g.length-1-i]?=some t):dQ g (zH i) t:=dQ.var i h a
def gy{g:List Ty}{t:Ty}:dQ (g++[t]) (zH 0) t:=dQ.var 0 aaF aaF
def kW{g:List Ty}{s t:Ty}:dQ (g++[t]++[s]) (zH 1) t:=dQ.var 1 aaF aaF
def v8:(Ty.fn .nat .nat).err=0:=Ty.yX Ty.fb Ty.fb (by rw[Ty.hX];omega)
def y8:(Ty.fn .nat (Ty.fn .nat .nat)).err=0:=Ty.yX Ty.fb v8 (by rw[Ty.jz,Ty.hX];omega)
def Bc(g:List Ty):dQ g Ld (.fn .nat (.fn .nat .nat)):=
 .lam y8 (.lam v8 (.rQ Ty.fb kW (.lam y8 (.lam v8 (.succ gy))) gy))
def RU(g:List Ty):dQ g PT (.fn .nat .nat):=
 .lam v8 (.rQ Ty.fb .zero (.lam y8 (.lam v8 kW)) gy)
def Ek(g:List Ty):dQ g M1 (.fn .nat (.fn .nat .nat)):=
 .lam y8 (.lam v8 (.rQ Ty.fb kW (.lam y8 (.lam v8 (.app (RU _) gy))) gy))
def Lo:Ld.aiK=9:=aak
def NO:M1.aiK=16:=aak
def vd{α β:Type}{G:Option β->Prop}(P:α->Prop){k:α->Option β}{b:(α->Option β)->Option β}(c:∀a,P a->G (k a))(d:∀j:α->Option β,(∀a,P a->G (j a))->G (b j)):G (eh k b):=d k c
def Ie{α γ β:Type}{G:Option β->Prop}(P:α->γ->Prop){k:α->γ->Option β}{b:(α->γ->Option β)->Option β}(d:∀a c,P a c->G (k a c))(f:∀j:α->γ->Option β,(∀a c,P a c->G (j a c))->G (b j)):G (eh k b):=f k d
def tb(N:Nat):Nat->Nat
 |0=>3*N|k+1=>30+3*tb N k
def afJ{N:Nat}(a:N<=20):∀k,k<=5->tb N k<=18300:=by
 intro k b
 have:k=0\/k=1\/k=2\/k=3\/k=4\/k=5:=VW
 rcases this with rfl|rfl|rfl|rfl|rfl|rfl<;>simp only[tb]<;>omega
def VX{N k:Nat}:3*N<=tb N k:=by
 induction k with
 |zero=>simp[tb]|succ k ih=>grind[tb]
def kF(g:List Ty)(t:Ty)(b:Nat)(o:Option (Tm×ey)):Prop:=∃x a,o=some (x,a)/\a.wf/\Pp g x t b
def kF.of{g:List Ty}{t:Ty}{b:Nat}{x:Tm}{d:ey}(a:d.wf)(h:dQ g x t)(hn:x.aiK<=b):kF g t b (some (x,d)):=⟨x,d,rfl,a,h,hn⟩
structure BX (N:Nat) (g:List Ty):Prop where
 all:∀s∈g,s.err=0/\s.aiK<=N
def BX.app{N:Nat}{g l:List Ty}(h:BX N g)(a:∀s∈l,s.err=0/\s.aiK<=N):BX N (g++l):=
 ⟨λs hs=>by rcases uh.1 hs with h'|h';exact h.all s h';exact a s h'⟩
def Ty.rl{t:Ty}(h:t.err=0):t=.nat\/t=.ir\/t=.unit\/(∃a b,t=.pr a b/\a.err=0/\b.err=0)\/(∃a b,t=.fn a b/\a.err=0/\b.err=0):=by
 cases t with
 |mk k l=>
  have f:=(Ty.k1 h).1;rw[Ty.gQ] at f;simp only[gG,oy] at f;have c:=f.1;unfold Ty.want at c
  split at c
  ·rename_i d;injection c with c;have:=YR.1 c.symm;subst this;rcases d with rfl|rfl|rfl
   ·exact .inl rfl
   ·exact .inr (.inl rfl)
   ·exact .inr (.inr (.inl rfl))
  ·split at c
   ·rename_i d;injection c with c;obtain⟨a,b,rfl⟩:=p9 (l:=l) VW;have:=Ty.sU d h;rcases d with rfl|rfl
    ·exact .inr (.inr (.inr (.inl ⟨a,b,rfl,this⟩)))
    ·exact .inr (.inr (.inr (.inr ⟨a,b,rfl,this⟩)))
   ·cases c
set_option maxHeartbeats 1000000 in
def OP(N:Nat)(aQ:1<=N)(hN:N<=20):∀(n:Nat) (dep:Int) (g:List Ty) (t:Ty) (d:ey),dep.toNat*(N+1)+t.aiK<n->dep<=5->-1000000<=dep-t.aiK->g.length+(3+N)*dep.toNat+t.aiK<=1000->BX N g->t.err=0->t.aiK<=N->d.wf->kF g t (if dep<=0 then 3*t.aiK else tb N dep.toNat) (gJ n d g t dep):=by
 intro n
 induction n with
 |zero=>intro dep g t d h;omega|succ n ih=>
  intro dep g t d hm aR aP hlen hg C w hd;have aS:=t.eC;have ay:=(Ty.k1 C).2
  have deep:0<dep->∀U S T,U.length<=g.length+3->BX N U->S.err=0->S.aiK<=N->T.wf->kF U S (tb N (dep.toNat-1)) (gJ n T U S (fU .i64 dep 1)):=by
   intro o U S T V Y h3 D h5;obtain⟨k,rfl⟩:∃k:Nat,dep=(k+1:Nat):=⟨dep.toNat-1,VW⟩
   have e1:((k+1:Nat):Int).toNat=k+1:=aaF
   rw[e1] at hm hlen|-;rw[fY VW VW,show((k+1:Nat):Int)-1=(k:Int) by omega]
   have hmul:(k+1)*(N+1)=k*(N+1)+N+1:=by rw[CL];omega
   have az:(3+N)*(k+1)=(3+N)*k+3+N:=by rw[V4];omega
   obtain⟨x,d1,A,a2,a3⟩:=ih (k:Int) U S T aby VW VW aby Y h3 D h5;refine⟨x,d1,A,a2,a3.mono ?_⟩;simp only[ab9]
   split
   ·have:k=0:=VW
    subst this;simp only[tb];omega
   ·simp
  have flat:dep<=0->∀U S T,U.length<=g.length+1->S.aiK+1<=t.aiK->BX N U->S.err=0->T.wf->kF U S (3*S.aiK) (gJ n T U S (fU .i64 dep 1)):=by
   intro o U S T V h0 Y h3 h5
   have e1:dep.toNat=0:=VW
   rw[e1] at hm hlen;rw[fY VW VW]
   have e2:(dep-1).toNat=0:=VW
   have:=ih (dep-1) U S T (by rw[e2];omega) VW VW (by rw[e2];omega) Y h3 VW h5;rw[dO VW] at this;exact this
  have Z:0<dep->(if dep<=0 then 3*t.aiK else tb N dep.toNat)=30+3*tb N (dep.toNat-1):=by
   intro o;rw[dI VW];obtain⟨k,hk⟩:∃k,dep.toNat=k+1:=⟨dep.toNat-1,VW⟩;rw[hk];rfl
  have aA:0<dep->tb N (dep.toNat-1)<=18300:=λ_=>afJ hN _ VW
  have ai:3*t.aiK<=(if dep<=0 then 3*t.aiK else tb N dep.toNat):=by
   split
   ·omega
   ·have:=VX (N:=N) (k:=dep.toNat);omega
  generalize (if dep<=0 then 3*t.aiK else tb N dep.toNat)=B at Z ai|-
  have q:∀{g x t},0<dep->Pp g x t (tb N (dep.toNat-1))->x.wt<=1300000:=by
   intro g x t o h;have:=h.wt;have:=aA o;omega
  obtain⟨vs,aB,aT,aC⟩:=PO g t VW (λs hs=>by have:=(hg.all s hs).2;omega);rw[gJ,aB];simp only[dF];refine Ie (G:=kF g t B) (λa c=>c.wf/\(a=true->vs≠[])) ?_ ?_
  ·--a variable,or ak else
   rintro a d1 ⟨an,aD⟩;cases a with
   |true=>
    simp only[if_true];have aE:=aD rfl
    have aU:1<=vs.length:=by cases vs with|nil=>exact absurd rfl aE|cons _ _=>simp
    obtain⟨x,d2,V,Y,h3,D⟩:=qU d1 an (ez vs) aby aby;rw[V];simp only[dN];obtain⟨y,hy,aF⟩:=KM (l:=vs) Y (by simpa using h3);rw[hy];simp only[dF];obtain⟨i,rfl,aG,aH⟩:=aC y aF;rw[Du];refine kF.of D (ae' i aG aH) ?_
    have:(zH i).aiK=1:=by unfold zH;rw[Tm.dJ];rfl
    omega
   |false=>
    simp only[re,lG];refine vd (G:=kF g t B) ey.wf ?_ ?_
    ·--by ar type
     intro d2 H;rcases Ty.rl C with rfl|rfl|rfl|⟨a,b,rfl,ha,hb⟩|⟨a,b,rfl,ha,hb⟩
     ·--numbers
      simp only[show Ty.nat.aiI=1 from rfl,gP,if_true];refine vd (G:=kF g .nat B) ey.wf ?_ ?_
      ·intro d3 af;obtain⟨x,d4,V,Y,h3,D⟩:=qU d3 af 3 VW VW;rw[V];simp only[dN];obtain⟨y,aI,aw⟩:=Bm x Y VW;rw[aI];refine kF.of D (aw g).1 ?_;have:=(aw g).2;rw[Ty.hX] at ai;omega
      ·intro j X;simp only[il]
       split
       ·rename_i o;have Z:=Z o;obtain⟨x,d4,V,Y,h3,D⟩:=qU d2 H 5 VW VW;rw[V];simp only[dN,gP]
        split
        ·obtain⟨a,d5,A,a2,a3⟩:=deep o g .nat d4 VW hg Ty.fb w D;rw[A];simp only[dN];rw[M0 (by have:=q o a3;omega)];refine kF.of a2 (.succ a3.ty) ?_;have:=a3.aiK;rw[Tm.dJ];simp only[ea];omega
        split
        ·rw[xl];simp only[dF];obtain⟨a,d5,A,a2,a3⟩:=deep o g .nat d4 VW hg Ty.fb w D;rw[A];simp only[dN];obtain⟨b,d6,I,J,v⟩:=deep o g .nat d5 VW hg Ty.fb w a2;rw[I];simp only[dN];rw[yW aak (by have:=q o a3;omega) (by have:=q o v;omega)];refine kF.of J (.app (.app (Bc g) a3.ty) v.ty) ?_;have:=a3.aiK;have:=v.aiK;have:=Lo;rw[Tm.dJ];simp only[ea,Tm.dJ];omega
        split
        ·rw[DQ];simp only[dF];obtain⟨a,d5,A,a2,a3⟩:=deep o g .nat d4 VW hg Ty.fb w D;rw[A];simp only[dN];obtain⟨b,d6,I,J,v⟩:=deep o g .nat d5 VW hg Ty.fb w a2;rw[I];simp only[dN];rw[yW aak (by have:=q o a3;omega) (by have:=q o v;omega)];refine kF.of J (.app (.app (Ek g) a3.ty) v.ty) ?_;have:=a3.aiK;have:=v.aiK;have:=NO;rw[Tm.dJ];simp only[ea,Tm.dJ];omega
        ·exact X d4 D
       ·exact X d2 H
     ·--lists
      simp only[show Ty.ir.aiI=2 from rfl,gP,if_true,show¬(2:Int)=1 by omega,lG];refine Ie (G:=kF g .ir B) (λa c=>c.wf/\(a=true->0<dep)) ?_ ?_
      ·rintro a d3 ⟨af,o⟩;cases a with
       |true=>
        have o:=o rfl;have Z:=Z o;simp only[if_true];rw[gm];simp only[dF];obtain⟨a,d5,A,a2,a3⟩:=deep o g .nat d3 VW hg Ty.fb (by rw[Ty.hX];omega) af;rw[A];simp only[dN];obtain⟨b,d6,I,J,v⟩:=deep o g .ir d5 VW hg Ty.mo w a2;rw[I];simp only[dN];rw[w5 (by have:=q o a3;omega) (by have:=q o v;omega)];refine kF.of J (.cons a3.ty v.ty) ?_;have:=a3.aiK;have:=v.aiK;rw[Tm.dJ];simp only[ea];omega
       |false=>
        simp only[re,lG];rw[HE];refine kF.of af .nil ?_;rw[Tm.dJ];simp only[ea];omega
      ·intro j X;simp only[il]
       split
       ·rename_i o;obtain⟨x,d4,V,Y,h3,D⟩:=qU d2 H 2 VW VW;rw[V];simp only[dN];exact X _ d4 ⟨D,λ_=>o⟩
       ·exact X _ d2 ⟨H,λh=>by cases h⟩
     ·simp only[show Ty.unit.aiI=5 from rfl,gP,show¬(5:Int)=1 by omega,show¬(5:Int)=2 by omega,show¬(5:Int)=3 by omega,show¬(5:Int)=4 by omega,lG];rw[HE];refine kF.of H .unit ?_;rw[Tm.dJ];simp only[ea];omega
     ·simp only[show(Ty.pr a b).aiI=3 from rfl,show(Ty.pr a b).aiJ=[a,b] from rfl,gP,show¬(3:Int)=1 by omega,show¬(3:Int)=2 by omega,if_true,lG,eJ,hE,kQ,qo,dF];rw[Ty.vm] at w ay ai
      by_cases o:0<dep
      ·have Z:=Z o;obtain⟨x,d5,A,a2,a3⟩:=deep o g a d2 VW hg ha VW H;rw[A];simp only[dN];obtain⟨y,d6,I,J,v⟩:=deep o g b d5 VW hg hb VW a2;rw[I];simp only[dN];rw[w5 (by have:=q o a3;omega) (by have:=q o v;omega)];refine kF.of J (.pair C a3.ty v.ty) ?_;have:=a3.aiK;have:=v.aiK;rw[Tm.dJ];simp only[ea];omega
      ·have aJ:=Ty.vm a b;obtain⟨x,d5,A,a2,a3⟩:=flat VW g a d2 VW VW hg ha H;rw[A];simp only[dN];obtain⟨y,d6,I,J,v⟩:=flat VW g b d5 VW VW hg hb a2;rw[I];simp only[dN];have:=a3.aiK;have:=v.aiK;rw[w5 (by have:=a3.wt;omega) (by have:=v.wt;omega)];refine kF.of J (.pair C a3.ty v.ty) ?_;rw[Tm.dJ];simp only[ea];omega
     ·simp only[show(Ty.fn a b).aiI=4 from rfl,show(Ty.fn a b).aiJ=[a,b] from rfl,gP,show¬(4:Int)=1 by omega,show¬(4:Int)=2 by omega,show¬(4:Int)=3 by omega,if_true,lG,eJ,hE,kQ,qo,dF];have aJ:=Ty.jz a b;rw[uV g [a] aby];simp only[dF];have W:BX N (g++[a]):=hg.app (by intro s hs;rw[E'] at hs;subst hs;exact⟨ha,VW⟩)
      by_cases o:0<dep
      ·have Z:=Z o;obtain⟨x,d5,A,a2,a3⟩:=deep o (g++[a]) b d2 aaF W hb VW H;rw[A];simp only[dN];rw[D6 VW (by have:=q o a3;omega)];refine kF.of a2 (.lam C a3.ty) ?_;have:=a3.aiK;rw[Tm.dJ];simp only[ea];omega
      ·obtain⟨x,d5,A,a2,a3⟩:=flat VW (g++[a]) b d2 aaF VW W hb H;rw[A];simp only[dN];have:=a3.aiK;rw[D6 VW (by have:=a3.wt;omega)];refine kF.of a2 (.lam C a3.ty) ?_;rw[Tm.dJ];simp only[ea];omega
    ·--a aK,or one of ar context
     intro j X;simp only[il]
     split
     ·rename_i o;have Z:=Z o;obtain⟨x,d2,V,Y,h3,D⟩:=qU d1 an 8 VW VW;rw[V];simp only[dN,gP]
      have leaf:∀d,ey.wf d->∃s T,nE FU d 0=some (s,T)/\s.err=0/\s.aiK=1/\T.wf:=by
       intro d hd;obtain⟨s,T,c1,c2,c3,c4⟩:=TQ d hd 0 VW;have:=s.eC;exact⟨s,T,c1,c2,VW,c4⟩
      split
      ·obtain⟨s,d3,s1,s2,s3,s4⟩:=leaf d2 D;rw[s1];simp only[dN];rw[uV g [s] aby];simp only[dF];obtain⟨a,d5,A,a2,a3⟩:=deep o (g++[s]) t d3 aaF (hg.app (by intro u hu;rw[E'] at hu;subst hu;exact⟨s2,VW⟩)) C w s4;rw[A];simp only[dN];rw[D6 VW (by have:=q o a3;omega)];simp only[dF];obtain⟨b,d6,I,J,v⟩:=deep o g s d5 VW hg s2 VW a2;rw[I];simp only[dN];have w1:=q o a3;rw[w5 (by rw[Tm.i_];simp only[ea];omega) (by have:=q o v;omega)];refine kF.of J (.app (.lam (Ty.yX s2 C VW) a3.ty) v.ty) ?_;have:=a3.aiK;have:=v.aiK;rw[Tm.dJ];simp only[ea,Tm.dJ];omega
      split
      ·obtain⟨s,d3,s1,s2,s3,s4⟩:=leaf d2 D;rw[s1];simp only[dN];obtain⟨a,d5,A,a2,a3⟩:=deep o g t d3 VW hg C w s4;rw[A];simp only[dN];obtain⟨b,d6,I,J,v⟩:=deep o g s d5 VW hg s2 VW a2;rw[I];simp only[dN];have w1:=q o a3;have w2:=q o v;rw[w5 VW VW];simp only[dF];rw[M0 (by rw[Tm.i_];have:Ty.z.aiK=1:=rfl;simp only[ea];omega)];refine kF.of J (.fst (.pair (Ty.P' C s2 VW) a3.ty v.ty)) ?_;have:=a3.aiK;have:=v.aiK;rw[Tm.dJ];simp only[ea,Tm.dJ];omega
      split
      ·rw[gm];simp only[dF];rw[uV g [.nat,t] aby];simp only[dF]
       have W:BX N (g++[.nat,t]):=hg.app (by
        intro u hu;simp only[lS,vG,ss] at hu;rcases hu with rfl|rfl
        ·exact⟨Ty.fb,by rw[Ty.hX];omega⟩
        ·exact⟨C,w⟩)
       obtain⟨a,d5,A,a2,a3⟩:=deep o (g++[.nat,t]) t d2 aaF W C w D;rw[A];simp only[dN];have w1:=q o a3;have nn:=Ty.hX;rw[D6 VW VW];simp only[dF];rw[D6 VW (by rw[Tm.i_];simp only[ea];omega)];simp only[dF];obtain⟨b,d6,I,J,v⟩:=deep o g t d5 VW hg C w a2;rw[I];simp only[dN];obtain⟨y,d7,y1,y2,y3,y4⟩:=qU d6 J 3 VW VW;rw[y1];simp only[dN];obtain⟨z,z1,z2⟩:=Bm y y2 VW;rw[z1];simp only[dF];have w2:=q o v;have zn:=(z2 g).2;have zw:=z.iv (z2 g).1.ok
       have e1:(Tm.mk 2 0 .nat [Tm.mk 2 0 t [a]]).wt<=2000000:=by rw[Tm.i_];simp only[ea,Tm.i_];omega
       rw[DK VW VW VW VW];have ad:(Ty.fn t t).err=0:=Ty.yX C C VW;refine kF.of y4 (.rQ C v.ty (.lam (Ty.yX Ty.fb ad (by rw[Ty.jz];omega)) (.lam ad (by simpa using a3.ty))) (z2 g).1) ?_;have:=a3.aiK;have:=v.aiK;rw[Tm.dJ];simp only[ea,Tm.dJ];omega
      split
      ·rw[gm,gE];simp only[dF];rw[uV g [.nat,.ir,t] aby];simp only[dF]
       have W:BX N (g++[.nat,.ir,t]):=hg.app (by
        intro u hu;simp only[lS,vG,ss] at hu;rcases hu with rfl|rfl|rfl
        ·exact⟨Ty.fb,by rw[Ty.hX];omega⟩
        ·exact⟨Ty.mo,by rw[Ty.oK];omega⟩
        ·exact⟨C,w⟩)
       obtain⟨a,d5,A,a2,a3⟩:=deep o (g++[.nat,.ir,t]) t d2 aaF W C w D;rw[A];simp only[dN];have w1:=q o a3;have nn:=Ty.hX;have ln:=Ty.oK;rw[D6 VW VW];simp only[dF];rw[D6 VW (by rw[Tm.i_];simp only[ea];omega)];simp only[dF];rw[D6 VW (by rw[Tm.i_];simp only[ea,Tm.i_];omega)];simp only[dF];obtain⟨b,d6,I,J,v⟩:=deep o g t d5 VW hg C w a2;rw[I];simp only[dN];obtain⟨c,d7,c1,c2,c3⟩:=deep o g .ir d6 VW hg Ty.mo VW J;rw[c1];simp only[dN];have w2:=q o v;have w3:=q o c3
       have e1:(Tm.mk 2 0 .nat [Tm.mk 2 0 .ir [Tm.mk 2 0 t [a]]]).wt<=2000000:=by rw[Tm.i_];simp only[ea,Tm.i_];omega
       rw[DK VW VW VW VW];have ad:(Ty.fn t t).err=0:=Ty.yX C C VW;have ah:(Ty.fn .ir (Ty.fn t t)).err=0:=Ty.yX Ty.mo ad (by rw[Ty.jz];omega);refine kF.of c2 (.fold C v.ty (.lam (Ty.yX Ty.fb ah (by rw[Ty.jz,Ty.jz];omega)) (.lam ah (.lam ad (by simpa using a3.ty)))) c3.ty) ?_;have:=a3.aiK;have:=v.aiK;have:=c3.aiK;rw[Tm.dJ];simp only[ea,Tm.dJ];omega
      split
      ·obtain⟨s,d3,s1,s2,s3,s4⟩:=leaf d2 D;rw[s1];simp only[dN];obtain⟨a,d5,A,a2,a3⟩:=deep o g s d3 VW hg s2 VW s4;rw[A];simp only[dN];obtain⟨b,d6,I,J,v⟩:=deep o g t d5 VW hg C w a2;rw[I];simp only[dN];have w1:=q o a3;have w2:=q o v;rw[w5 VW VW];simp only[dF];rw[M0 (by rw[Tm.i_];have:Ty.z.aiK=1:=rfl;simp only[ea];omega)];refine kF.of J (.snd (.pair (Ty.P' s2 C VW) a3.ty v.ty)) ?_;have:=a3.aiK;have:=v.aiK;rw[Tm.dJ];simp only[ea,Tm.dJ];omega
      split
      ·--a function of ar context
       rw[ed VW,dX];simp only[dZ]
       rcases Ko (λ_:Unit=>True) (λr:Tm×ey=>kF g t B (some r)) (F:=λ(L:Int) (aL:Ty) (_:Unit)=>
         dE (eb g (fU .i64 (fU .i64 (ez g) 1) L)) λK=>
          if K.aiI=4 then dE (eb K.aiJ 1) λao=>dE (fh FU ao t) λaq=>
           if aq then dE (gn L) λM=>dE (eb K.aiJ 0) λO=>dS (gJ n d2 g O (fU .i64 dep 1)) λP Q=>
            dE (fF 3 [M,P]) λR=>some (fZ.ret (R,Q))
           else some (fZ.next ())
          else if false then dE (gn L) λM=>dE (eb K.aiJ 0) λO=>dS (gJ n d2 g O (fU .i64 dep 1)) λP Q=>
            dE (fF 3 [M,P]) λR=>some (fZ.ret (R,Q))
           else some (fZ.next ())) g 0 () trivial (by
        intro k u s hk _;have aM:k<g.length:=(ua.1 hk).1
        have ae:g.length-1-k<g.length:=VW
        have e1:eb g (fU .i64 (fU .i64 (ez g) 1) ((0+k:Nat):Int))=some g[g.length-1-k]:=by
         rw[xH,gC,fY (a:=(g.length:Int)) (b:=1) VW VW,fY VW VW,show(g.length:Int)-1-(k:Int)=((g.length-1-k:Nat):Int) by omega,jN];simp[ae]
        simp only[e1,dF];have hf:=hg.all _ (Es ae);have ax:g[g.length-1-k]?=some g[g.length-1-k]:=qL ae;generalize g[g.length-1-k]=f at hf ax|-;rcases Ty.rl hf.1 with rfl|rfl|rfl|⟨a,b,rfl,ha,hb⟩|⟨a,b,rfl,ha,hb⟩
        ·left;exact⟨(),rfl,trivial⟩
        ·left;exact⟨(),rfl,trivial⟩
        ·left;exact⟨(),rfl,trivial⟩
        ·left;exact⟨(),rfl,trivial⟩
        ·simp only[show(Ty.fn a b).aiI=4 from rfl,show(Ty.fn a b).aiJ=[a,b] from rfl,gP,if_true,eJ,hE,kQ,qo,dF];have aN:=hf.2;rw[Ty.jz] at aN;rw[iD VW];simp only[dF];cases hs:b.kV t with
         |false=>left;exact⟨(),rfl,trivial⟩|true=>
          rw[Ty.kO] at hs;subst hs;right;simp only[if_true,xH];rw[Du];simp only[dF];obtain⟨y,d5,A,a2,a3⟩:=deep o g a d2 VW hg ha VW D;rw[A];simp only[dN];have w1:=q o a3
          have e2:(zH k).wt=2:=by unfold zH;rw[Tm.i_];rfl
          rw[w5 VW VW];refine⟨_,rfl,kF.of a2 (.app (ae' k aM ax) a3.ty) ?_⟩;have:=a3.aiK
          have e3:(zH k).aiK=1:=by unfold zH;rw[Tm.dJ];rfl
          rw[Tm.dJ];simp only[ea];omega)with⟨s,hs,_⟩|⟨r,hr,aO⟩
       ·rw[hs];exact X d2 D
       ·rw[hr];exact aO
      ·exact X d2 D
     ·exact X d1 an
  ·intro j X;simp only[il,gC]
   split
   ·rename_i o;obtain⟨x,d2,V,Y,h3,D⟩:=qU d hd 3 VW VW;rw[V];simp only[dN];exact X _ d2 ⟨D,λ_ h=>by subst h;simp at o⟩
   ·exact X _ d ⟨hd,λh=>by cases h⟩
inductive ia:List Ty->Fm->Prop
 |eq {g a b}:dQ g a .nat->dQ g b .nat->ia g (.mk 1 .z [a,b] [])|two {g k a b}:k=2\/k=3->ia g a->ia g b->ia g (.mk k .z [] [a,b])|q {g k s a}:k=4\/k=5\/k=6\/k=7->s.err=0->ia (g++[s]) a->ia g (.mk k s [] [a])
def ia.ok{g:List Ty}{f:Fm}(h:ia g f):f.ok=true:=by
 induction h with
 |eq c d=>simp[Fm.gQ,Fm.node,Ty.qf,c.ok,d.ok]|two i _ _ j l=>
  rename_i k a b _ _
  have:¬k=1:=VW
  simp[Fm.gQ,Fm.node,Ty.qf,i,this,j,l]
 |q i hs _ ih=>
  rename_i k s a _
  have c:¬k=1:=VW
  have d:¬(k=2\/k=3):=VW
  have n:h7 k=true:=by simp[h7,i]
  simp[Fm.gQ,Fm.node,c,d,n,hs,ih]
def afI{a b:Tm}(c:a.wt<=1000000000)(d:b.wt<=1000000000):yg a b=some (.mk 1 .z [a,b] []):=by
 unfold yg;rw[ug c,ug d];rfl
def Lf{k:Int}{a b:Fm}(c:a.wt<=1000000000)(d:b.wt<=1000000000):rC k a b=some (.mk k .z [] [a,b]):=by
 unfold rC;rw[tZ c,tZ d];rfl
def Si{k:Int}{s:Ty}{a:Fm}(hs:s.aiK<=1000000000)(b:a.wt<=1000000000):nC k s a=some (.mk k s [] [a]):=by
 unfold nC;rw[jk hs,tZ b];rfl
def xm(l:List Ty):Int:=if 16<l.length then 3 else fk (l.map Ty.err)
def Fq(l:List Ty)(f:l.length<=1000000)(h:∀t∈l,t.aiK<=1000000000):nq l=some (xm l):=by
 unfold nq xm;simp only[il,gC,ed (l:=l) VW,dX,dZ]
 by_cases b:16<l.length
 ·rw[dO VW,dO b]
 ·rw[dI VW,dI b]
  have key:=mj (F:=λ(j:Int) (x:Ty) (_:Unit)=>dE (rN x) λa=>if eE a 0 then some (fZ.ret a)else some (fZ.next ())) Ty.err l 0 (by
   intro j x d;rw[Jm (h x d)]
   simp only[dF,eo])
  simp only[eo] at key|-;rw[key]
  by_cases c:fk (l.map Ty.err)=0
  ·simp[c]
  ·simp[c]
def ti(l:List Ty)(f:l.length<=1000000)(h:∀t∈l,t.aiK<=1000000000):lU l=some (xm l):=by
 unfold lU xm;simp only[il,gC,ed (l:=l) VW,dX,dZ]
 by_cases b:16<l.length
 ·rw[dO VW,dO b]
 ·rw[dI VW,dI b]
  have key:=mj (F:=λ(j:Int) (x:Ty) (_:Unit)=>dE (h8 x) λa=>if eE a 0 then some (fZ.ret a)else some (fZ.next ())) Ty.err l 0 (by
   intro j x d;rw[ml (h x d)]
   simp only[dF,eo])
  simp only[eo] at key|-;rw[key]
  by_cases c:fk (l.map Ty.err)=0
  ·simp[c]
  ·simp[c]
def yd:∀(n:Nat) (a b:Ty),a.aiK<=n->a.aiK<=1000000000->∃r,gD n a b=some r/\(r=true↔a=b):=by
 intro n
 induction n with
 |zero=>intro t b h;have:=t.eC;omega
 |succ n ih=>
  intro a b h s;cases a with
  |mk k l=>
  cases b with
  |mk k' m=>
   rw[Ty.dJ] at h s;have v:=Ty.fC l;rw[gD];simp only[Ty.er,Ty.eD,dZ,ed (l:=l) VW,dX,lx,sA,eo,gC]
   by_cases d:k≠k'\/(l.length:Int)≠m.length
   ·rw[dO d];refine⟨false,rfl,?_⟩;simp only[re,OQ,Ty.mk.injEq,not_and];rintro rfl rfl;simp at d
   ·rw[dI d];simp only[not_or,vx] at d;obtain⟨rfl,hlen⟩:=d
    have c:l.length=m.length:=VW
    let p:Ty->Ty->Bool:=λx y=>(gD n x y).getD false
    have o:∀x∈l,∀y,gD n x y=some (p x y)/\(p x y=true↔x=y):=by
     intro x f y;have:=ep Ty.aiK f;obtain⟨r,q,i⟩:=ih x y VW VW
     have e:p x y=r:=by show(gD n x y).getD false=r;rw[q];rfl
     rw[e];exact⟨q,i⟩
    have key:=xU (F:=λ(j:Int) (x:Ty) (_:Unit)=>dE (eb m j) λy=>dE (gD n x y) λz=>if z then some (fZ.next ())else some (fZ.ret false)) p m l 0 m rfl c (by
     intro k x y f u;rw[jN,u];simp only[dF];rw[(o x f y).1]
     rfl)
    rw[key];have he:=ye p l m λx f y=>(o x f y).2;cases i:wm p l m with
    |false=>exact⟨false,rfl,by rw[i] at he;simpa using he⟩
    |true=>exact⟨true,rfl,by rw[i] at he;simpa using he⟩
def xX:∀(n:Nat) (a b:Tm),a.wt<=n->a.wt<=1000000000->∃r,iW n a b=some r/\(r=true↔a=b):=by
 intro n
 induction n with
 |zero=>intro t b h;have:=t.jX;omega
 |succ n ih=>
  intro a b h G;cases a with
  |mk k i s l=>
  cases b with
  |mk k' f v m=>
   rw[Tm.i_] at h G;have J:=Tm.qZ l;rw[iW];simp only[Tm.er,Tm.eD,Tm.gY,Tm.fu,dZ,ed (l:=l) VW,dX,eo,gC]
   have no:¬(k=k'/\i=f/\s=v/\l.length=m.length)->∃r,some false=some r/\(r=true↔Tm.mk k i s l=Tm.mk k' f v m):=by
    intro hn;refine⟨false,rfl,?_⟩;simp only[re,OQ,Tm.mk.injEq,not_and];rintro rfl rfl rfl rfl;exact hn ⟨rfl,rfl,rfl,rfl⟩
   by_cases o:k≠k'
   ·rw[dO o,dO trivial];exact no λh=>o h.1
   ·rw[dI o]
    by_cases hi:i≠f
    ·rw[dO hi,dO trivial];exact no λh=>hi h.2.1
    ·rw[dI hi];obtain⟨r,H,B⟩:=yd FU s v (by rw[fD];omega) VW;rw[H];simp only[dF]
     by_cases q:r=true
     ·have hs:=B.1 q;rw[dO q]
      by_cases hlen:(l.length:Int)≠m.length
      ·rw[dO hlen];exact no λh=>hlen VW
      ·rw[dI hlen]
       have c:l.length=m.length:=VW
       let p:Tm->Tm->Bool:=λx y=>(iW n x y).getD false
       have C:∀x∈l,∀y,iW n x y=some (p x y)/\(p x y=true↔x=y):=by
        intro x d y;have:=ep Tm.wt d;obtain⟨r,D,u⟩:=ih x y VW VW
        have e:p x y=r:=by show(iW n x y).getD false=r;rw[D];rfl
        rw[e];exact⟨D,u⟩
       have key:=xU (F:=λ(j:Int) (x:Tm) (_:Unit)=>dE (eb m j) λy=>dE (iW n x y) λz=>if z then some (fZ.next ())else some (fZ.ret false)) p m l 0 m rfl c (by
        intro k x y d I;rw[jN,I];simp only[dF];rw[(C x d y).1]
        rfl)
       rw[key];have he:=ye p l m λx d y=>(C x d y).2;have w:k=k':=vx.1 o;have hi':i=f:=vx.1 hi;cases u:wm p l m with
       |false=>
        refine⟨false,rfl,?_⟩;rw[u] at he;simp only[re,OQ,Tm.mk.injEq,not_and];intro _ _ _ A;exact absurd (he.2 A) aaF
       |true=>
        refine⟨true,rfl,?_⟩;rw[u] at he;simp only[true_iff,Tm.mk.injEq];exact⟨w,hi',hs,he.1 rfl⟩
     ·rw[dI q,dO trivial];exact no λh=>q (B.2 h.2.2.1)
def xk:∀(n:Nat) (a b:Tm),a.wt<=n->a.wt<=1000000000->∃r,lq n a b=some r/\(r=true↔a=b):=by
 intro n
 induction n with
 |zero=>intro t b h;have:=t.jX;omega
 |succ n ih=>
  intro a b h G;cases a with
  |mk k i s l=>
  cases b with
  |mk k' f v m=>
   rw[Tm.i_] at h G;have J:=Tm.qZ l;rw[lq];simp only[Tm.er,Tm.eD,Tm.gY,Tm.fu,dZ,ed (l:=l) VW,dX,eo,gC]
   have no:¬(k=k'/\i=f/\s=v/\l.length=m.length)->∃r,some false=some r/\(r=true↔Tm.mk k i s l=Tm.mk k' f v m):=by
    intro hn;refine⟨false,rfl,?_⟩;simp only[re,OQ,Tm.mk.injEq,not_and];rintro rfl rfl rfl rfl;exact hn ⟨rfl,rfl,rfl,rfl⟩
   by_cases o:k≠k'
   ·rw[dO o,dO trivial];exact no λh=>o h.1
   ·rw[dI o]
    by_cases hi:i≠f
    ·rw[dO hi,dO trivial];exact no λh=>hi h.2.1
    ·rw[dI hi];obtain⟨r,H,B⟩:=xp FU s v (by rw[fD];omega) VW;rw[H];simp only[dF]
     by_cases q:r=true
     ·have hs:=B.1 q;rw[dO q]
      by_cases hlen:(l.length:Int)≠m.length
      ·rw[dO hlen];exact no λh=>hlen VW
      ·rw[dI hlen]
       have c:l.length=m.length:=VW
       let p:Tm->Tm->Bool:=λx y=>(lq n x y).getD false
       have C:∀x∈l,∀y,lq n x y=some (p x y)/\(p x y=true↔x=y):=by
        intro x d y;have:=ep Tm.wt d;obtain⟨r,D,u⟩:=ih x y VW VW
        have e:p x y=r:=by show(lq n x y).getD false=r;rw[D];rfl
        rw[e];exact⟨D,u⟩
       have key:=xU (F:=λ(j:Int) (x:Tm) (_:Unit)=>dE (eb m j) λy=>dE (lq n x y) λz=>if z then some (fZ.next ())else some (fZ.ret false)) p m l 0 m rfl c (by
        intro k x y d I;rw[jN,I];simp only[dF];rw[(C x d y).1]
        rfl)
       rw[key];have he:=ye p l m λx d y=>(C x d y).2;have w:k=k':=vx.1 o;have hi':i=f:=vx.1 hi;cases u:wm p l m with
       |false=>
        refine⟨false,rfl,?_⟩;rw[u] at he;simp only[re,OQ,Tm.mk.injEq,not_and];intro _ _ _ A;exact absurd (he.2 A) aaF
       |true=>
        refine⟨true,rfl,?_⟩;rw[u] at he;simp only[true_iff,Tm.mk.injEq];exact⟨w,hi',hs,he.1 rfl⟩
     ·rw[dI q,dO trivial];exact no λh=>q (B.2 h.2.2.1)
def BS{a b:Tm}(hw:a.wt<=1000000000):∃r,rk a b=some r/\(r=true↔a=b):=by
 obtain⟨r,c,d⟩:=xX FU a b (by rw[fD];exact hw) hw;exact⟨r,by unfold rk;rw[c];rfl,d⟩
def DL:∀(k:Nat) (m:Int) (t:Tm),(t.norm k m).2.2=0\/(t.norm k m).2.2=4\/(t.norm k m).2.2=5
 |0,m,t=>by
  rw[Tm.norm]
  split
  ·exact .inl rfl
  ·exact .inr (.inr rfl)
 |k+1,m,t=>by
  rw[Tm.norm]
  split
  ·exact .inr (.inl rfl)
  ·exact .inl rfl
  ·exact DL k _ _
def Qx:∀(k:Nat) (m:Int) (t a:Tm) (n:Int),t.norm k m=(a,n,0)->a.nf=true/\m<=n/\n<=m+k/\(∀k':Nat,n<=m+k'->t.norm k' m=(a,n,0))/\∀k':Nat,m+k'<n->t.norm k' m=(Tm.z,0,5)
 |0,m,t,a,n,h=>by
  rw[Tm.norm] at h
  split at h
  ·rename_i b;obtain⟨c,h⟩:=iE h;rw[<-c];obtain⟨rfl,_⟩:=iE h;refine⟨b,Y5 _,VW,λk' _=>?_,λk' h=>by omega⟩;cases k' with
   |zero=>rw[Tm.norm,dO b]|succ k'=>rw[EU ((E_ _ _).1 b)]
  ·cases h
 |k+1,m,t,a,n,h=>by
  rw[Tm.norm] at h
  split at h
  ·cases h
  ·rename_i hs;obtain⟨c,h⟩:=iE h;rw[<-c];obtain⟨rfl,_⟩:=iE h;have b:=(E_ _ _).2 hs;refine⟨b,Y5 _,VW,λk' _=>?_,λk' h=>by omega⟩;cases k' with
   |zero=>rw[Tm.norm,dO b]|succ k'=>rw[EU hs]
  ·rename_i d hs;obtain⟨f,o,q,i,j⟩:=Qx k (m+1) d a n h;refine⟨f,VW,VW,λk' l=>?_,λk' l=>?_⟩
   ·cases k' with
    |zero=>omega|succ k'=>
     rw[ES hs];exact i k' VW
   ·cases k' with
    |zero=>
     rw[Tm.norm,dI];intro b;rw[(E_ _ _).1 b] at hs;cases hs
    |succ k'=>
     rw[ES hs];exact j k' VW
def Hq:∀(k:Nat) (M m:Int) (t a:Tm) (n:Int),0<=M->Sm M t->t.aiK<=4096->t.norm k m=(a,n,0)->Sm (M+8192*k) a/\a.aiK<=4096
 |0,M,m,t,a,n,d,hs,hn,h=>by
  rw[Tm.norm] at h
  split at h
  ·obtain⟨b,h⟩:=iE h;rw[<-b];exact⟨hs.mono VW,hn⟩
  ·cases h
 |k+1,M,m,t,a,n,d,hs,hn,h=>by
  rw[Tm.norm] at h
  split at h
  ·cases h
  ·obtain⟨b,h⟩:=iE h;rw[<-b];exact⟨hs.mono VW,hn⟩
  ·rename_i f c;obtain⟨i,j,o⟩:=Vv d t hs VW f c;obtain⟨l,a2⟩:=Hq k (M+8192) (m+1) f a n VW ⟨i,j,VW⟩ VW h;exact⟨l.mono VW,a2⟩
def S'(l:List Int):Ji l=some (decide (l.length<=500)):=by
 unfold Ji
 congr 1
 unfold XA ez;exact Zq.2 VW
def qE{k:Int}(a:k≠1)(c:k≠2)(f b i:Int)(s:Ty)(l:List Tm):(Tm.mk k i s l).up f b=.mk k i s (l.map (Tm.up f b)):=by
 rw[Tm.e9,dI (λh=>a h.1)];unfold eL;rw[dI c,th]
def Vj(f b i:Int)(s:Ty)(l:List Tm):(Tm.mk 2 i s l).up f b=.mk 2 i s (l.map (Tm.up (f+1) b)):=by
 rw[Tm.e9,dI (λh=>by have:=h.1;omega)];rfl
def nt{k:Int}(b:k≠1)(c:k≠2)(n i:Int)(a:Tm)(s:Ty)(l:List Tm):Tm.fK n (Tm.mk k i s l) a=.mk k i s (l.map λx=>Tm.fK n x a):=by
 rw[Tm.eG,dI b];unfold eL;rw[dI c,th]
def RG(n i:Int)(a:Tm)(s:Ty)(l:List Tm):Tm.fK n (Tm.mk 2 i s l) a=.mk 2 i s (l.map λx=>Tm.fK (n+1) x a):=by
 rw[Tm.eG,dI aak];rfl
def G_{g:List Ty}{t:Ty}{i j:Nat}(h:g[j]?=some t)(hi:i<g.length)(a:g.length-1-i=j):dQ g (.mk 1 i .z []) t:=.var i hi (by rw[a];exact h)
def dQ.up{g:List Ty}{x:Tm}{t:Ty}(h:dQ g x t):∀g1 g2 e:List Ty,g=g1++g2->dQ (g1++e++g2) (x.up g2.length e.length) t:=by
 induction h with
 |@var g t i d k=>
  rintro g1 g2 e rfl;rw[Tm.e9,l'];rw[qt] at d
  by_cases hi:g2.length<=i
  ·rw[dO ⟨rfl,VW⟩,show(i:Int)+e.length=((i+e.length:Nat):Int) by push_cast;rfl];refine G_ (j:=g1.length+g2.length-1-i) ?_ (by simp<;>omega) (by simp<;>omega);rw[qt,zE VW] at k;rw[vn,zE VW];exact k
  ·rw[dI (λh=>by have:=h.2;omega)];refine G_ (j:=g1.length+e.length+(g2.length-1-i)) ?_ (by simp<;>omega) (by simp<;>omega);rw[qt,Cv VW] at k;rw[Cv (by simp<;>omega)];rw[<-k]
   congr 1
   simp;omega
 |@lam g s b t d _ ih=>
  rintro g1 g2 e rfl;have:=ih g1 (g2++[s]) e (by rw[vn]);rw[Vj];refine .lam d ?_;rw[qt,<-vn] at this;exact this
 |app _ _ a c=>intro g1 g2 e hg;rw[qE aak aak];exact .app (a g1 g2 e hg) (c g1 g2 e hg)|zero=>intro g1 g2 e hg;rw[qE aak aak];exact .zero|succ _ ih=>intro g1 g2 e hg;rw[qE aak aak];exact .succ (ih g1 g2 e hg)|rQ d _ _ _ a c f=>intro g1 g2 e hg;rw[qE aak aak];exact .rQ d (a g1 g2 e hg) (c g1 g2 e hg) (f g1 g2 e hg)|nil=>intro g1 g2 e hg;rw[qE aak aak];exact .nil|cons _ _ a c=>intro g1 g2 e hg;rw[qE aak aak];exact .cons (a g1 g2 e hg) (c g1 g2 e hg)|fold d _ _ _ a c f=>intro g1 g2 e hg;rw[qE aak aak];exact .fold d (a g1 g2 e hg) (c g1 g2 e hg) (f g1 g2 e hg)|pair d _ _ a c=>intro g1 g2 e hg;rw[qE aak aak];exact .pair d (a g1 g2 e hg) (c g1 g2 e hg)|fst _ ih=>intro g1 g2 e hg;rw[qE aak aak];exact .fst (ih g1 g2 e hg)|snd _ ih=>intro g1 g2 e hg;rw[qE aak aak];exact .snd (ih g1 g2 e hg)|unit=>intro g1 g2 e hg;rw[qE aak aak];exact .unit
def dQ.fK{g:List Ty}{x:Tm}{t:Ty}(h:dQ g x t):∀(g1:List Ty) (s:Ty) (g2:List Ty) (a:Tm),g=g1++[s]++g2->dQ g1 a s->dQ (g1++g2) (Tm.fK g2.length x a) t:=by
 induction h with
 |@var g t i k l=>
  rintro g1 s g2 a rfl c;rw[Tm.eG,dO rfl];unfold Tm.iG;simp only[qt,pM,EG] at k l
  by_cases he:(i:Int)=g2.length
  ·rw[dO he]
   have o:s=t:=by
    rw[vn,Cv VW,zE (by simp<;>omega)] at l;rw[show g1.length+(0+1)+g2.length-1-i-g1.length=0 by omega] at l;exact lE l
   subst o;have:=c.up g1 [] g2 aaF;simpa using this
  ·rw[dI he]
   by_cases hi:(g2.length:Int)<i
   ·rw[dO hi,show(i:Int)-1=((i-1:Nat):Int) by omega];refine G_ (j:=g1.length+g2.length-i) ?_ (by simp<;>omega) (by simp<;>omega);rw[vn,zE VW] at l;rw[zE VW,<-l]
    congr 1
    omega
   ·rw[dI hi];refine G_ (j:=g1.length+(g2.length-1-i)) ?_ (by simp<;>omega) (by simp<;>omega);rw[Cv (by simp<;>omega)] at l;rw[Cv VW,<-l]
    congr 1
    simp;omega
 |@lam g s b t k _ ih=>
  rintro g1 u g2 a rfl c;have:=ih g1 u (g2++[s]) a (by simp only[vn]) c;rw[RG];refine .lam k ?_;rw[qt,<-vn] at this;exact this
 |app _ _ d f=>intro g1 s g2 a hg c;rw[nt aak aak];exact .app (d g1 s g2 a hg c) (f g1 s g2 a hg c)|zero=>intro g1 s g2 a hg c;rw[nt aak aak];exact .zero|succ _ ih=>intro g1 s g2 a hg c;rw[nt aak aak];exact .succ (ih g1 s g2 a hg c)|rQ k _ _ _ d f n=>intro g1 s g2 a hg c;rw[nt aak aak];exact .rQ k (d g1 s g2 a hg c) (f g1 s g2 a hg c) (n g1 s g2 a hg c)|nil=>intro g1 s g2 a hg c;rw[nt aak aak];exact .nil|cons _ _ d f=>intro g1 s g2 a hg c;rw[nt aak aak];exact .cons (d g1 s g2 a hg c) (f g1 s g2 a hg c)|fold k _ _ _ d f n=>intro g1 s g2 a hg c;rw[nt aak aak];exact .fold k (d g1 s g2 a hg c) (f g1 s g2 a hg c) (n g1 s g2 a hg c)|pair k _ _ d f=>intro g1 s g2 a hg c;rw[nt aak aak];exact .pair k (d g1 s g2 a hg c) (f g1 s g2 a hg c)|fst _ ih=>intro g1 s g2 a hg c;rw[nt aak aak];exact .fst (ih g1 s g2 a hg c)|snd _ ih=>intro g1 s g2 a hg c;rw[nt aak aak];exact .snd (ih g1 s g2 a hg c)|unit=>intro g1 s g2 a hg c;rw[nt aak aak];exact .unit
def Ty.aa7{a b c d:Ty}(h:Ty.fn a b=Ty.fn c d):a=c/\b=d:=by unfold Ty.fn at h;simpa using h
def Ty.V6{a b c d:Ty}(h:Ty.pr a b=Ty.pr c d):a=c/\b=d:=by unfold Ty.pr at h;simpa using h
def dQ.fm{g:List Ty}{x:Tm}{t:Ty}(h:dQ g x t)(o:x.root=true):dQ g x.fm t:=by
 cases h with
 |@app _ f a s _ c k=>
  have d:f.aiI=2:=by simpa[Tm.root,Tm.kd] using o
  generalize r:Ty.fn s t=q at c
  cases c<;>simp only[Tm.eD] at d<;>first|omega|skip
  rename_i A b w i j;obtain⟨rfl,rfl⟩:=Ty.aa7 r;have:=j.fK g s [] a aaF k;simpa[Tm.fm] using this
 |@rQ _ _ b s n c k i j=>
  have d:n.aiI=4\/n.aiI=5:=by simpa[Tm.root,Tm.kd] using o
  cases j<;>simp only[Tm.eD] at d<;>first|omega|skip
  ·simpa[Tm.fm] using k
  ·rename_i m l;have:=dQ.app (.app i l) (dQ.rQ c k i l);simpa[Tm.fm,oZ,Ty.z] using this
 |@fold _ _ b s n c k i j=>
  have d:n.aiI=7\/n.aiI=8:=by simpa[Tm.root,Tm.kd] using o
  cases j<;>simp only[Tm.eD] at d<;>first|omega|skip
  ·simpa[Tm.fm] using k
  ·rename_i u v l y;have:=dQ.app (.app (.app i l) y) (dQ.fold c k i y);simpa[Tm.fm,oZ,Ty.z] using this
 |@fst _ a s w c=>
  have d:a.aiI=10:=by simpa[Tm.root,Tm.kd] using o
  generalize r:Ty.pr t w=q at c
  cases c<;>simp only[Tm.eD] at d<;>first|omega|skip
  rename_i i j l;obtain⟨rfl,rfl⟩:=Ty.V6 r;simpa[Tm.fm] using j
 |@snd _ a s w c=>
  have d:a.aiI=10:=by simpa[Tm.root,Tm.kd] using o
  generalize r:Ty.pr s t=q at c
  cases c<;>simp only[Tm.eD] at d<;>first|omega|skip
  rename_i i j l;obtain⟨rfl,rfl⟩:=Ty.V6 r;simpa[Tm.fm] using l
 |_=>simp[Tm.root] at o
def lk{r k i:Int}{s:Ty}{l:List Tm}{b:Tm}(h:(Tm.mk k i s l).JS r=some (some b)):((Tm.mk k i s l).root=true/\b=(Tm.mk k i s l).fm)\/∃a,Tm.wc r l=some (some a)/\b=.mk k i s a:=by
 rw[Tm.L9] at h
 by_cases c:(Tm.mk k i s l).root=true
 ·rw[dO c] at h
  split at h
  · cases h
  · exact .inl ⟨c,(lE (lE h)).symm⟩
 ·rw[dI c] at h;cases e:Tm.wc r l with
  |none=>rw[e] at h;cases h
  |some o=>
    cases o with
    |none=>rw[e] at h;cases h
    |some a=>rw[e] at h;exact .inr ⟨a,rfl,(lE (lE h)).symm⟩
def jS{r:Int}{a:Tm}{l c:List Tm}(h:Tm.wc r (a::l)=some (some c)):(∃b,a.JS r=some (some b)/\c=b::l)\/∃m,Tm.wc r l=some (some m)/\c=a::m:=by
 rw[Tm.wc] at h;cases e:a.JS r with
 |none=>rw[e] at h;cases h
 |some o=>
  cases o with
  |some b=>rw[e] at h;exact .inl ⟨b,rfl,(lE (lE h)).symm⟩
  |none=>
   rw[e] at h;dsimp only at h;cases d:Tm.wc r l with
   |none=>rw[d] at h;cases h
   |some o2=>
    cases o2 with
    |none=>rw[d] at h;cases h
    |some m=>rw[d] at h;exact .inr ⟨m,rfl,(lE (lE h)).symm⟩
def m7{r:Int}{a:List Tm}(h:Tm.wc r []=some (some a)):False:=by rw[Tm.wc] at h;cases h
def dQ.JS{r:Int}{g:List Ty}{x:Tm}{t:Ty}(h:dQ g x t):∀o,x.JS r=some (some o)->dQ g o t:=by
 induction h with
 |var i c j=>
  intro o hs;rcases lk hs with⟨d,rfl⟩|⟨u,f,rfl⟩
  ·exact(dQ.var i c j).fm d
  ·exact(m7 f).elim
 |lam c j ih=>
  intro o hs;rcases lk hs with⟨d,rfl⟩|⟨u,f,rfl⟩
  ·exact(dQ.lam c j).fm d
  ·rcases jS f with⟨q,a,b⟩|⟨m,a,b⟩
   ·subst_vars;exact .lam c (ih _ a)
   ·exact(m7 a).elim
 |app c j k l=>
  intro o hs;rcases lk hs with⟨d,rfl⟩|⟨u,f,rfl⟩
  ·exact(dQ.app c j).fm d
  ·rcases jS f with⟨q,a,b⟩|⟨m,a,b⟩
   ·subst_vars;exact .app (k _ a) j
   ·rcases jS a with⟨q,n,b⟩|⟨m,n,b⟩
    ·subst_vars;exact .app c (l _ n)
    ·exact(m7 n).elim
 |zero=>
  intro o hs;rcases lk hs with⟨d,rfl⟩|⟨u,f,rfl⟩
  ·exact dQ.zero.fm d
  ·exact(m7 f).elim
 |succ c ih=>
  intro o hs;rcases lk hs with⟨d,rfl⟩|⟨u,f,rfl⟩
  ·exact(dQ.succ c).fm d
  ·rcases jS f with⟨q,a,b⟩|⟨m,a,b⟩
   ·subst_vars;exact .succ (ih _ a)
   ·exact(m7 a).elim
 |rQ s c j v k l w=>
  intro o hs;rcases lk hs with⟨d,rfl⟩|⟨u,f,rfl⟩
  ·exact(dQ.rQ s c j v).fm d
  ·rcases jS f with⟨q,a,b⟩|⟨m,a,b⟩
   ·subst_vars;exact .rQ s (k _ a) j v
   ·rcases jS a with⟨q,n,b⟩|⟨m,n,b⟩
    ·subst_vars;exact .rQ s c (l _ n) v
    ·rcases jS n with⟨q,y,b⟩|⟨m,y,b⟩
     ·subst_vars;exact .rQ s c j (w _ y)
     ·exact(m7 y).elim
 |nil=>
  intro o hs;rcases lk hs with⟨d,rfl⟩|⟨u,f,rfl⟩
  ·exact dQ.nil.fm d
  ·exact(m7 f).elim
 |cons c j k l=>
  intro o hs;rcases lk hs with⟨d,rfl⟩|⟨u,f,rfl⟩
  ·exact(dQ.cons c j).fm d
  ·rcases jS f with⟨q,a,b⟩|⟨m,a,b⟩
   ·subst_vars;exact .cons (k _ a) j
   ·rcases jS a with⟨q,n,b⟩|⟨m,n,b⟩
    ·subst_vars;exact .cons c (l _ n)
    ·exact(m7 n).elim
 |fold s c j v k l w=>
  intro o hs;rcases lk hs with⟨d,rfl⟩|⟨u,f,rfl⟩
  ·exact(dQ.fold s c j v).fm d
  ·rcases jS f with⟨q,a,b⟩|⟨m,a,b⟩
   ·subst_vars;exact .fold s (k _ a) j v
   ·rcases jS a with⟨q,n,b⟩|⟨m,n,b⟩
    ·subst_vars;exact .fold s c (l _ n) v
    ·rcases jS n with⟨q,y,b⟩|⟨m,y,b⟩
     ·subst_vars;exact .fold s c j (w _ y)
     ·exact(m7 y).elim
 |pair s c j k l=>
  intro o hs;rcases lk hs with⟨d,rfl⟩|⟨u,f,rfl⟩
  ·exact(dQ.pair s c j).fm d
  ·rcases jS f with⟨q,a,b⟩|⟨m,a,b⟩
   ·subst_vars;exact .pair s (k _ a) j
   ·rcases jS a with⟨q,n,b⟩|⟨m,n,b⟩
    ·subst_vars;exact .pair s c (l _ n)
    ·exact(m7 n).elim
 |fst c ih=>
  intro o hs;rcases lk hs with⟨d,rfl⟩|⟨u,f,rfl⟩
  ·exact(dQ.fst c).fm d
  ·rcases jS f with⟨q,a,b⟩|⟨m,a,b⟩
   ·subst_vars;exact .fst (ih _ a)
   ·exact(m7 a).elim
 |snd c ih=>
  intro o hs;rcases lk hs with⟨d,rfl⟩|⟨u,f,rfl⟩
  ·exact(dQ.snd c).fm d
  ·rcases jS f with⟨q,a,b⟩|⟨m,a,b⟩
   ·subst_vars;exact .snd (ih _ a)
   ·exact(m7 a).elim
 |unit=>
  intro o hs;rcases lk hs with⟨d,rfl⟩|⟨u,f,rfl⟩
  ·exact dQ.unit.fm d
  ·exact(m7 f).elim
def dQ.norm{g:List Ty}{t:Ty}:∀(k:Nat) (m:Int) (x a:Tm) (n:Int),dQ g x t->x.norm k m=(a,n,0)->dQ g a t
 |0,m,x,a,n,b,h=>by
  rw[Tm.norm] at h
  split at h
  ·obtain⟨c,_⟩:=iE h;rw[<-c];exact b
  ·cases h
 |k+1,m,x,a,n,b,h=>by
  rw[Tm.norm] at h
  split at h
  ·cases h
  ·obtain⟨c,_⟩:=iE h;rw[<-c];exact b
  ·rename_i d hs;exact dQ.norm k (m+1) d a n (b.JS _ hs) h
theorem Je{i:Int}{s:Ty}{l:List Tm}(h:(Tm.mk 1 i s l).ok=true):s=.mk 0 []/\l=[]:=by
 have b:=Tm.r' h;have e:gL 1=0:=rfl;have a:l=[]:=BD VW;subst a;rw[Tm.gQ] at h;cases s with
 |mk k l=>simp[Tm.node,jZ,Ty.rD,ei,ez,gL] at h;refine⟨?_,rfl⟩;obtain⟨c,d⟩:=h;simp_all
theorem agb(t:Tm):∀g f n c:Int,0<=g->0<=n->0<=c->g+n<=f->(t.up g n).up f c=(t.up (f-n) c).up g n:=by
 induction t using Tm.ind with
 |h k i s l ih=>
  intro g f n c hg hn a b;simp only[Tm.e9,IB]
  congr 1
  ·grind
  ·refine uU λx d=>?_
   grind[eL]
theorem up_add(t:Tm):∀g f p m:Int,0<=g->0<=p->0<=m->g<=f->f<=g+p->(t.up g p).up f m=t.up g (p+m):=by
 induction t using Tm.ind with
 |h k i s l ih=>
  intro g f p m hg a hm b c;simp only[Tm.e9,IB]
  congr 1
  ·grind
  ·refine uU λx d=>?_
   grind[eL]
theorem Qk(x t:Tm):∀g m n:Int,t.ok=true->0<=g->g<=m->m<=g+n->Tm.fK m (t.up g (n+1)) x=t.up g n:=by
 induction t using Tm.ind with
 |h k i s l ih=>
  intro g m n b hg c d
  by_cases a:k=1
  ·grind[Je,Tm.e9,Tm.eG,Tm.iG]
  ·simp only[Tm.e9,a,I8,lG,Tm.eG,IB]
   congr 1
   refine uU λy f=>?_
   grind[eL,Tm.ek]
theorem Nj(a t:Tm):∀g m n:Int,t.ok=true->0<=g->0<=m->g+m<=n->Tm.fK n (t.up g m) a=(Tm.fK (n-m) t a).up g m:=by
 induction t using Tm.ind with
 |h k i s l ih=>
  intro g m n c hg hm d
  by_cases b:k=1
  ·grind[Tm.e9,Tm.eG,Tm.iG,up_add]
  ·simp only[Tm.e9,b,I8,lG,Tm.eG,IB]
   congr 1
   refine uU λy f=>?_
   grind[eL,Tm.ek]
def adl(a t:Tm):∀n f c:Int,t.ok=true->0<=n->n<=f->0<=c->(Tm.fK n t a).up f c=Tm.fK n (t.up (f+1) c) (a.up (f-n) c):=by
 induction t using Tm.ind with
 |h k i s l ih=>
  intro n f c d hn j o
  by_cases b:k=1
  ·subst b;obtain⟨rfl,rfl⟩:=Je d;simp only[Tm.e9,Ae,l',Tm.eG,if_true]
   grind[Tm.iG,agb,Tm.e9]
  ·simp only[Tm.e9,b,I8,lG,Tm.eG,IB]
   congr 1
   refine uU λy q=>?_
   grind[eL,Tm.ek]
def XU(a s:Tm)(c:a.ok=true)(hs:s.ok=true)(t:Tm):∀m n:Int,t.ok=true->0<=m->m<=n->Tm.fK n (Tm.fK m t a) s=Tm.fK m (Tm.fK (n+1) t s) (Tm.fK (n-m) a s):=by
 induction t using Tm.ind with
 |h k i ty l ih=>
  intro m n d hm hn
  by_cases b:k=1
  ·grind[Je,Tm.eG,Tm.iG,Nj,Qk]
  ·simp only[Tm.eG,b,lG,IB]
   congr 1
   refine uU λy f=>?_
   grind[eL,Tm.ek]
inductive kr:Tm->Tm->Prop
 |n0 (k i:Int) (s:Ty):kr (.mk k i s []) (.mk k i s [])|n1 (k i:Int) (s:Ty) {a a':Tm}:kr a a'->kr (.mk k i s [a]) (.mk k i s [a'])|n2 (k i:Int) (s:Ty) {a a' b b':Tm}:kr a a'->kr b b'->kr (.mk k i s [a,b]) (.mk k i s [a',b'])|n3 (k i:Int) (s:Ty) {a a' b b' c c':Tm}:kr a a'->kr b b'->kr c c'->kr (.mk k i s [a,b,c]) (.mk k i s [a',b',c'])|beta (i:Int) (s:Ty) (j:Int) (u:Ty) {b b' a a':Tm}:kr b b'->kr a a'->kr (.mk 3 i s [.mk 2 j u [b],a]) (Tm.fK 0 b' a')|IF (i:Int) (s:Ty) (j:Int) (u:Ty) (c:Tm) {b b':Tm}:kr b b'->kr (.mk 6 i s [b,c,.mk 4 j u []]) b'|Jn (i:Int) (s:Ty) (j:Int) (u:Ty) {b b' c c' n n':Tm}:kr b b'->kr c c'->kr n n'->kr (.mk 6 i s [b,c,.mk 5 j u [n]]) (oZ c' [n',.mk 6 i s [b',c',n']])|Cn (i:Int) (s:Ty) (j:Int) (u:Ty) (c:Tm) {b b':Tm}:kr b b'->kr (.mk 9 i s [b,c,.mk 7 j u []]) b'|Ch (i:Int) (s:Ty) (j:Int) (u:Ty) {b b' c c' n n' t t':Tm}:kr b b'->kr c c'->kr n n'->kr t t'->kr (.mk 9 i s [b,c,.mk 8 j u [n,t]]) (oZ c' [n',t',.mk 9 i s [b',c',t']])|fst (i:Int) (s:Ty) (j:Int) (u:Ty) (b:Tm) {a a':Tm}:kr a a'->kr (.mk 11 i s [.mk 10 j u [a,b]]) a'|snd (i:Int) (s:Ty) (j:Int) (u:Ty) (a:Tm) {b b':Tm}:kr b b'->kr (.mk 12 i s [.mk 10 j u [a,b]]) b'
def kr.ok{t u:Tm}(h:kr t u):t.ok=true->u.ok=true:=by
 induction h with
 |n0 k i s=>exact id|n1 k i s _ ih=>intro d;exact Tm.w6 d rfl (by intro t v;rw[E'] at v;subst v;exact ih (Tm.ek d _ aaF))
 |n2 k i s _ _ f l=>grind[Tm.w6,Tm.ek]|n3 k i s _ _ _ f l o=>
  intro d;refine Tm.w6 d rfl ?_
  grind[Tm.ek]
 |@beta i s j u b q a x _ _ f l=>
  intro d;exact Tm.LN _ (l (Tm.ek d a aaF)) _ 0 VW (f (Tm.ek (Tm.ek d (Tm.mk 2 j u [b]) aaF) b aaF))
 |IF i s j u c _ ih=>intro d;exact ih (Tm.ek d _ aaF)|@Jn i s j u b q c y n n' _ _ _ f l o=>
  intro d;have A:=f (Tm.ek d _ aaF);have B:=l (Tm.ek d _ aaF);have C:=o (Tm.ek (Tm.ek d (Tm.mk 5 j u [n]) aaF) _ aaF)
  grind[D_,Tm.w6]
 |Cn i s j u c _ ih=>intro d;exact ih (Tm.ek d _ aaF)|@Ch i s j u b q c y n n' t D _ _ _ _ f l o r=>
  intro d;have A:=f (Tm.ek d _ aaF);have B:=l (Tm.ek d _ aaF);have w:=Tm.ek d (Tm.mk 8 j u [n,t]) aaF;have C:=o (Tm.ek w _ aaF);have F:=r (Tm.ek w _ aaF)
  grind[D_,Tm.w6]
 |@fst i s j u b a x _ ih=>intro d;exact ih (Tm.ek (Tm.ek d (Tm.mk 10 j u [a,b]) aaF) a aaF)|@snd i s j u a b q _ ih=>intro d;exact ih (Tm.ek (Tm.ek d (Tm.mk 10 j u [a,b]) aaF) b aaF)
def up3(f b i:Int)(s:Ty)(l:List Tm):(Tm.mk 3 i s l).up f b=.mk 3 i s (l.map (Tm.up f b)):=qE aak aak f b i s l
def up4(f b i:Int)(s:Ty)(l:List Tm):(Tm.mk 4 i s l).up f b=.mk 4 i s (l.map (Tm.up f b)):=qE aak aak f b i s l
def up5(f b i:Int)(s:Ty)(l:List Tm):(Tm.mk 5 i s l).up f b=.mk 5 i s (l.map (Tm.up f b)):=qE aak aak f b i s l
def up6(f b i:Int)(s:Ty)(l:List Tm):(Tm.mk 6 i s l).up f b=.mk 6 i s (l.map (Tm.up f b)):=qE aak aak f b i s l
def up7(f b i:Int)(s:Ty)(l:List Tm):(Tm.mk 7 i s l).up f b=.mk 7 i s (l.map (Tm.up f b)):=qE aak aak f b i s l
def up8(f b i:Int)(s:Ty)(l:List Tm):(Tm.mk 8 i s l).up f b=.mk 8 i s (l.map (Tm.up f b)):=qE aak aak f b i s l
def up9(f b i:Int)(s:Ty)(l:List Tm):(Tm.mk 9 i s l).up f b=.mk 9 i s (l.map (Tm.up f b)):=qE aak aak f b i s l
def aes(f b i:Int)(s:Ty)(l:List Tm):(Tm.mk 10 i s l).up f b=.mk 10 i s (l.map (Tm.up f b)):=qE aak aak f b i s l
def XK(f b i:Int)(s:Ty)(l:List Tm):(Tm.mk 11 i s l).up f b=.mk 11 i s (l.map (Tm.up f b)):=qE aak aak f b i s l
def Zp(f b i:Int)(s:Ty)(l:List Tm):(Tm.mk 12 i s l).up f b=.mk 12 i s (l.map (Tm.up f b)):=qE aak aak f b i s l
def in3(n i:Int)(a:Tm)(s:Ty)(l:List Tm):Tm.fK n (Tm.mk 3 i s l) a=.mk 3 i s (l.map λx=>Tm.fK n x a):=nt aak aak n i a s l
def in4(n i:Int)(a:Tm)(s:Ty)(l:List Tm):Tm.fK n (Tm.mk 4 i s l) a=.mk 4 i s (l.map λx=>Tm.fK n x a):=nt aak aak n i a s l
def in5(n i:Int)(a:Tm)(s:Ty)(l:List Tm):Tm.fK n (Tm.mk 5 i s l) a=.mk 5 i s (l.map λx=>Tm.fK n x a):=nt aak aak n i a s l
def in6(n i:Int)(a:Tm)(s:Ty)(l:List Tm):Tm.fK n (Tm.mk 6 i s l) a=.mk 6 i s (l.map λx=>Tm.fK n x a):=nt aak aak n i a s l
def in7(n i:Int)(a:Tm)(s:Ty)(l:List Tm):Tm.fK n (Tm.mk 7 i s l) a=.mk 7 i s (l.map λx=>Tm.fK n x a):=nt aak aak n i a s l
def in8(n i:Int)(a:Tm)(s:Ty)(l:List Tm):Tm.fK n (Tm.mk 8 i s l) a=.mk 8 i s (l.map λx=>Tm.fK n x a):=nt aak aak n i a s l
def in9(n i:Int)(a:Tm)(s:Ty)(l:List Tm):Tm.fK n (Tm.mk 9 i s l) a=.mk 9 i s (l.map λx=>Tm.fK n x a):=nt aak aak n i a s l
def af1(n i:Int)(a:Tm)(s:Ty)(l:List Tm):Tm.fK n (Tm.mk 10 i s l) a=.mk 10 i s (l.map λx=>Tm.fK n x a):=nt aak aak n i a s l
def ahk(n i:Int)(a:Tm)(s:Ty)(l:List Tm):Tm.fK n (Tm.mk 11 i s l) a=.mk 11 i s (l.map λx=>Tm.fK n x a):=nt aak aak n i a s l
def agP(n i:Int)(a:Tm)(s:Ty)(l:List Tm):Tm.fK n (Tm.mk 12 i s l) a=.mk 12 i s (l.map λx=>Tm.fK n x a):=nt aak aak n i a s l
def kr.up{t u:Tm}(h:kr t u):t.ok=true->∀f c:Int,0<=f->0<=c->kr (t.up f c) (u.up f c):=by
 induction h with
 |n0 k i s=>intro _ f c _ _;rw[Tm.e9];exact .n0 _ _ _|n1 k i s _ ih=>
  intro l f c o w;have D:=iM k;rw[Tm.e9,Tm.e9];exact .n1 _ _ _ (ih (Tm.ek l _ aaF) _ _ VW w)
 |n2 k i s _ _ q r=>
  intro l f c o w;have D:=iM k;rw[Tm.e9,Tm.e9];exact .n2 _ _ _ (q (Tm.ek l _ aaF) _ _ VW w) (r (Tm.ek l _ aaF) _ _ VW w)
 |n3 k i s _ _ _ q r x=>
  intro l f c o w;have D:=iM k;rw[Tm.e9,Tm.e9];exact .n3 _ _ _ (q (Tm.ek l _ aaF) _ _ VW w) (r (Tm.ek l _ aaF) _ _ VW w) (x (Tm.ek l _ aaF) _ _ VW w)
 |@beta i s j u b B a F G I q r=>
  intro l f c o w;have y:=Tm.ek l (Tm.mk 2 j u [b]) aaF;have A:=Tm.ek y b aaF;rw[adl F B 0 f c (G.ok A) VW o w,aa'];simp only[up3,Vj,lF,l'];exact .beta _ _ _ _ (q A _ _ VW w) (r (Tm.ek l _ aaF) _ _ o w)
 |IF i s j u c _ ih=>
  intro l f d o v;simp only[up6,up4,lF,l'];exact .IF _ _ _ _ _ (ih (Tm.ek l _ aaF) _ _ o v)
 |@Jn i s j u b B c H n n' _ _ _ q r x=>
  intro l f d o v;have y:=Tm.ek l (Tm.mk 5 j u [n]) aaF;simp only[oZ,up3,up6,up5,lF,l'];exact .Jn _ _ _ _ (q (Tm.ek l _ aaF) _ _ o v) (r (Tm.ek l _ aaF) _ _ o v) (x (Tm.ek y _ aaF) _ _ o v)
 |Cn i s j u c _ ih=>
  intro l f d o v;simp only[up9,up7,lF,l'];exact .Cn _ _ _ _ _ (ih (Tm.ek l _ aaF) _ _ o v)
 |@Ch i s j u b B c H n n' t J _ _ _ _ q r x C=>
  intro l f d o v;have y:=Tm.ek l (Tm.mk 8 j u [n,t]) aaF;simp only[oZ,up3,up9,up8,lF,l'];exact .Ch _ _ _ _ (q (Tm.ek l _ aaF) _ _ o v) (r (Tm.ek l _ aaF) _ _ o v) (x (Tm.ek y _ aaF) _ _ o v) (C (Tm.ek y _ aaF) _ _ o v)
 |@fst i s j u b a F _ ih=>
  intro l f d o v;simp only[XK,aes,lF,l'];exact .fst _ _ _ _ _ (ih (Tm.ek (Tm.ek l (Tm.mk 10 j u [a,b]) aaF) _ aaF) _ _ o v)
 |@snd i s j u a b B _ ih=>
  intro l f d o v;simp only[Zp,aes,lF,l'];exact .snd _ _ _ _ _ (ih (Tm.ek (Tm.ek l (Tm.mk 10 j u [a,b]) aaF) _ aaF) _ _ o v)
def Br{k i:Int}{s:Ty}{a:Tm}{l:List Tm}(h:(Tm.mk k i s (a::l)).ok=true):k≠1:=by grind[Je]
def kr.fK{t u:Tm}(h:kr t u){x y:Tm}(v:kr x y)(G:x.ok=true):t.ok=true->∀n:Int,0<=n->kr (Tm.fK n t x) (Tm.fK n u y):=by
 have J:=v.ok G
 induction h with
 |n0 k i s=>
  intro d n hn;rw[Tm.eG,Tm.eG]
  by_cases B:k=1
  ·rw[dO B,dO B];unfold Tm.iG
   by_cases q:i=n
   ·rw[dO q,dO q];exact v.up G 0 n VW hn
   ·rw[dI q,dI q]
    by_cases C:n<i
    ·rw[dO C];exact .n0 _ _ _
    ·rw[dI C];exact .n0 _ _ _
  ·rw[dI B,dI B];exact .n0 _ _ _
 |n1 k i s _ ih=>
  intro d n hn;have H:=iM k;rw[Tm.eG,Tm.eG,dI (Br d),dI (Br d)];exact .n1 _ _ _ (ih (Tm.ek d _ aaF) _ VW)
 |n2 k i s _ _ f l=>
  intro d n hn;have H:=iM k;rw[Tm.eG,Tm.eG,dI (Br d),dI (Br d)];exact .n2 _ _ _ (f (Tm.ek d _ aaF) _ VW) (l (Tm.ek d _ aaF) _ VW)
 |n3 k i s _ _ _ f l o=>
  intro d n hn;have H:=iM k;rw[Tm.eG,Tm.eG,dI (Br d),dI (Br d)];exact .n3 _ _ _ (f (Tm.ek d _ aaF) _ VW) (l (Tm.ek d _ aaF) _ VW) (o (Tm.ek d _ aaF) _ VW)
 |@beta i s j u b D a I q C f l=>
  intro d n hn;have r:=Tm.ek d (Tm.mk 2 j u [b]) aaF;have w:=Tm.ek r b aaF;have A:=Tm.ek d a aaF;rw[XU I y (C.ok A) J D 0 n (q.ok w) VW hn,aa'];simp only[in3,RG,lF,l'];exact .beta _ _ _ _ (f w _ VW) (l A _ hn)
 |IF i s j u c _ ih=>
  intro d n hn;simp only[in6,in4,lF,l'];exact .IF _ _ _ _ _ (ih (Tm.ek d _ aaF) _ hn)
 |@Jn i s j u b D c K n n' _ _ _ f l o=>
  intro d m hm;have r:=Tm.ek d (Tm.mk 5 j u [n]) aaF;simp only[oZ,in3,in6,in5,lF,l'];exact .Jn _ _ _ _ (f (Tm.ek d _ aaF) _ hm) (l (Tm.ek d _ aaF) _ hm) (o (Tm.ek r _ aaF) _ hm)
 |Cn i s j u c _ ih=>
  intro d n hn;simp only[in9,in7,lF,l'];exact .Cn _ _ _ _ _ (ih (Tm.ek d _ aaF) _ hn)
 |@Ch i s j u b D c K n n' t L _ _ _ _ f l o F=>
  intro d m hm;have r:=Tm.ek d (Tm.mk 8 j u [n,t]) aaF;simp only[oZ,in3,in9,in8,lF,l'];exact .Ch _ _ _ _ (f (Tm.ek d _ aaF) _ hm) (l (Tm.ek d _ aaF) _ hm) (o (Tm.ek r _ aaF) _ hm) (F (Tm.ek r _ aaF) _ hm)
 |@fst i s j u b a I _ ih=>
  intro d n hn;simp only[ahk,af1,lF,l'];exact .fst _ _ _ _ _ (ih (Tm.ek (Tm.ek d (Tm.mk 10 j u [a,b]) aaF) _ aaF) _ hn)
 |@snd i s j u a b D _ ih=>
  intro d n hn;simp only[agP,af1,lF,l'];exact .snd _ _ _ _ _ (ih (Tm.ek (Tm.ek d (Tm.mk 10 j u [a,b]) aaF) _ aaF) _ hn)
def kr.aeQ{k i:Int}{s:Ty}{v:Tm}(h:kr (.mk k i s []) v):v=.mk k i s []:=by
 generalize a:Tm.mk k i s []=x at h;cases h<;>simp only[Tm.mk.injEq,reduceCtorEq,and_false,P2,I8] at a;obtain⟨rfl,rfl,rfl,_⟩:=a;rfl
def kr.inv1{k i:Int}{s:Ty}{a v:Tm}(h:kr (.mk k i s [a]) v)(d:k≠11)(f:k≠12):∃c,v=.mk k i s [c]/\kr a c:=by
 generalize b:Tm.mk k i s [a]=x at h;cases h<;>simp only[Tm.mk.injEq,reduceCtorEq,and_false,P2,I8,My] at b
 ·obtain⟨rfl,rfl,rfl,rfl⟩:=b;exact⟨_,rfl,by assumption⟩
 ·exact absurd b.1 d
 ·exact absurd b.1 f
def kr.inv2{k i:Int}{s:Ty}{a b v:Tm}(h:kr (.mk k i s [a,b]) v)(j:k≠3):∃d f,v=.mk k i s [d,f]/\kr a d/\kr b f:=by
 generalize c:Tm.mk k i s [a,b]=x at h;cases h<;>simp only[Tm.mk.injEq,reduceCtorEq,and_false,P2,I8,My] at c
 ·obtain⟨rfl,rfl,rfl,rfl,rfl⟩:=c;exact⟨_,_,rfl,by assumption,by assumption⟩
 ·exact absurd c.1 j
mutual
def Tm.dev:Tm->Tm
 |.mk k i s l=>if(Tm.mk k i s l).root then(Tm.mk k i s (Tm.UA l)).fm else .mk k i s (Tm.UA l)
def Tm.UA:List Tm->List Tm
 |[]=>[]|t::l=>t.dev::Tm.UA l
end
def Tm.Rh(l:List Tm):Tm.UA l=l.map Tm.dev:=by
 induction l with
 |nil=>rfl|cons t l ih=>simp[Tm.UA,ih]
def Tm.wz{k i:Int}{s:Ty}{l:List Tm}(h:(Tm.mk k i s l).root=true):(Tm.mk k i s l).dev=(Tm.mk k i s (l.map Tm.dev)).fm:=by rw[Tm.dev,Tm.Rh,dO h]
def Tm.xw{k i:Int}{s:Ty}{l:List Tm}(h:¬(Tm.mk k i s l).root=true):(Tm.mk k i s l).dev=Tm.mk k i s (l.map Tm.dev):=by rw[Tm.dev,Tm.Rh,dI h]
def S5(i:Int)(s:Ty)(j:Int)(u:Ty)(l:List Tm)(a:Tm):(Tm.mk 3 i s [.mk 2 j u l,a]).root=true:=by simp[Tm.root,Tm.kd]
def RE(j:Int)(u:Ty)(b:Tm):(Tm.mk 2 j u [b]).dev=.mk 2 j u [b.dev]:=Tm.xw (by simp[Tm.root])
def Um(j:Int)(u:Ty):(Tm.mk 4 j u []).dev=.mk 4 j u []:=Tm.xw (by simp[Tm.root])
def Ok(j:Int)(u:Ty)(b:Tm):(Tm.mk 5 j u [b]).dev=.mk 5 j u [b.dev]:=Tm.xw (by simp[Tm.root])
def Y3(j:Int)(u:Ty):(Tm.mk 7 j u []).dev=.mk 7 j u []:=Tm.xw (by simp[Tm.root])
def Od(j:Int)(u:Ty)(a b:Tm):(Tm.mk 8 j u [a,b]).dev=.mk 8 j u [a.dev,b.dev]:=Tm.xw (by simp[Tm.root])
def I'(j:Int)(u:Ty)(a b:Tm):(Tm.mk 10 j u [a,b]).dev=.mk 10 j u [a.dev,b.dev]:=Tm.xw (by simp[Tm.root])
def NB(i:Int)(s:Ty)(j:Int)(u:Ty)(b a:Tm):(Tm.mk 3 i s [.mk 2 j u [b],a]).dev=Tm.fK 0 b.dev a.dev:=by
 rw[Tm.wz (S5 _ _ _ _ _ _)];simp only[lF,l',RE];simp[Tm.fm]
def Nb(i:Int)(s:Ty)(j:Int)(u:Ty)(b c:Tm):(Tm.mk 6 i s [b,c,.mk 4 j u []]).dev=b.dev:=by
 rw[Tm.wz (by simp[Tm.root,Tm.kd])];simp only[lF,l',Um];simp[Tm.fm]
def N_(i:Int)(s:Ty)(j:Int)(u:Ty)(b c n:Tm):(Tm.mk 6 i s [b,c,.mk 5 j u [n]]).dev=oZ c.dev [n.dev,.mk 6 i s [b.dev,c.dev,n.dev]]:=by
 rw[Tm.wz (by simp[Tm.root,Tm.kd])];simp only[lF,l',Ok];simp[Tm.fm]
def Ks(i:Int)(s:Ty)(j:Int)(u:Ty)(b c:Tm):(Tm.mk 9 i s [b,c,.mk 7 j u []]).dev=b.dev:=by
 rw[Tm.wz (by simp[Tm.root,Tm.kd])];simp only[lF,l',Y3];simp[Tm.fm]
def KP(i:Int)(s:Ty)(j:Int)(u:Ty)(b c n t:Tm):(Tm.mk 9 i s [b,c,.mk 8 j u [n,t]]).dev=oZ c.dev [n.dev,t.dev,.mk 9 i s [b.dev,c.dev,t.dev]]:=by
 rw[Tm.wz (by simp[Tm.root,Tm.kd])];simp only[lF,l',Od];simp[Tm.fm]
def QV(i:Int)(s:Ty)(j:Int)(u:Ty)(a b:Tm):(Tm.mk 11 i s [.mk 10 j u [a,b]]).dev=a.dev:=by
 rw[Tm.wz (by simp[Tm.root,Tm.kd])];simp only[lF,l',I'];simp[Tm.fm]
def Rj(i:Int)(s:Ty)(j:Int)(u:Ty)(a b:Tm):(Tm.mk 12 i s [.mk 10 j u [a,b]]).dev=b.dev:=by
 rw[Tm.wz (by simp[Tm.root,Tm.kd])];simp only[lF,l',I'];simp[Tm.fm]
def Tm.xE{t:Tm}{k:Int}(h:t.aiI=k):t=.mk k t.aiL t.dM t.aiJ:=by
 cases t with
 |mk k' i s l=>simp at h;subst h;rfl
def kr.tri{t u:Tm}(h:kr t u):t.ok=true->kr u t.dev:=by
 induction h with
 |n0 k i s=>intro _;rw[Tm.xw (by simp[Tm.root,Tm.kd])];exact .n0 _ _ _|@n1 k i s a K h ih=>
  intro l;have r:=Tm.ek l a aaF;have ih:=ih r
  by_cases B:(Tm.mk k i s [a]).root=true
  ·have hk:(k=11\/k=12)/\a.aiI=10:=by
    have C:=Tm.r' l;have Z:gL 3=2:=rfl
    have:k≠3:=by rintro rfl;simp at C;omega
    simpa[Tm.root,Tm.kd,this] using B
   obtain⟨hk,D⟩:=hk;rw[Tm.xE D] at h r ih|-;obtain⟨p,q,N⟩:=Tm.af8 r;rw[N] at h r ih|-;obtain⟨O,U,rfl,H,P⟩:=h.inv2 aak;rw[I'] at ih;obtain⟨Q,V,e,F,R⟩:=ih.inv2 aak;simp only[Tm.mk.injEq,P2,My,Ae] at e;obtain⟨rfl,rfl⟩:=e;rcases hk with rfl|rfl
   ·rw[QV];exact .fst _ _ _ _ _ F
   ·rw[Rj];exact .snd _ _ _ _ _ R
  ·rw[Tm.xw B];exact .n1 _ _ _ ih
 |@n2 k i s a K b I L W d v=>
  intro l;have r:=Tm.ek l a aaF;have d:=d r;have v:=v (Tm.ek l b aaF)
  by_cases B:(Tm.mk k i s [a,b]).root=true
  ·have hk:k=3/\a.aiI=2:=by
    have C:=Tm.r' l;have X:gL 11=1:=rfl;have Y:gL 12=1:=rfl
    have n1:k≠11:=by rintro rfl;simp at C;omega
    have n2:k≠12:=by rintro rfl;simp at C;omega
    simpa[Tm.root,Tm.kd,n1,n2] using B
   obtain⟨rfl,D⟩:=hk;rw[Tm.xE D] at L r d|-;obtain⟨p,A⟩:=Tm.ok2 r;rw[A] at L r d|-;obtain⟨O,rfl,H⟩:=L.inv1 aak aak;rw[RE] at d;obtain⟨Q,e,F⟩:=d.inv1 aak aak;simp only[Tm.mk.injEq,P2,My,Ae] at e;subst e;rw[NB];exact .beta _ _ _ _ F v
  ·rw[Tm.xw B];exact .n2 _ _ _ d v
 |@n3 k i s a K b I c T L W w d v f=>
  intro l;have o:=Tm.ek l c aaF;have d:=d (Tm.ek l a aaF);have v:=v (Tm.ek l b aaF);have f:=f o
  by_cases B:(Tm.mk k i s [a,b,c]).root=true
  ·have hk:(k=6/\(c.aiI=4\/c.aiI=5))\/(k=9/\(c.aiI=7\/c.aiI=8)):=by
    have C:=Tm.r' l;have e0:gL 3=2:=rfl;have X:gL 11=1:=rfl;have Y:gL 12=1:=rfl
    have n0:k≠3:=by rintro rfl;simp at C;omega
    have n1:k≠11:=by rintro rfl;simp at C;omega
    have n2:k≠12:=by rintro rfl;simp at C;omega
    simpa[Tm.root,Tm.kd,n0,n1,n2] using B
   rcases hk with⟨rfl,hk|hk⟩|⟨rfl,hk|hk⟩
   ·rw[Tm.xE hk] at w o f|-;have A:=Tm.ok0 (.inl rfl) o;rw[A] at w o f|-;obtain rfl:=w.aeQ;rw[Nb];exact .IF _ _ _ _ _ d
   ·rw[Tm.xE hk] at w o f|-;obtain⟨p,A⟩:=Tm.ok5 o;rw[A] at w o f|-;obtain⟨O,rfl,H⟩:=w.inv1 aak aak;rw[Ok] at f;obtain⟨Q,e,F⟩:=f.inv1 aak aak;simp only[Tm.mk.injEq,P2,My,Ae] at e;subst e;rw[N_];exact .Jn _ _ _ _ d v F
   ·rw[Tm.xE hk] at w o f|-;have A:=Tm.ok0 (.inr rfl) o;rw[A] at w o f|-;obtain rfl:=w.aeQ;rw[Ks];exact .Cn _ _ _ _ _ d
   ·rw[Tm.xE hk] at w o f|-;obtain⟨p,q,A⟩:=Tm.ok8 o;rw[A] at w o f|-;obtain⟨O,U,rfl,H,P⟩:=w.inv2 aak;rw[Od] at f;obtain⟨Q,V,e,F,R⟩:=f.inv2 aak;simp only[Tm.mk.injEq,P2,My,Ae] at e;obtain⟨rfl,rfl⟩:=e;rw[KP];exact .Ch _ _ _ _ d v F R
  ·rw[Tm.xw B];exact .n3 _ _ _ d v f
 |@beta i s j u b I a K H P x y=>
  intro l;have J:=Tm.ek (Tm.ek l (Tm.mk 2 j u [b]) aaF) b aaF;have r:=Tm.ek l a aaF;rw[NB];exact(x J).fK (y r) (P.ok r) (H.ok J) 0 VW
 |IF i s j u c _ ih=>intro l;rw[Nb];exact ih (Tm.ek l _ aaF)|@Jn i s j u b I c T n n' _ _ _ x y G=>
  intro l;have M:=Tm.ek l (Tm.mk 5 j u [n]) aaF;have g1:=x (Tm.ek l _ aaF);have g2:=y (Tm.ek l _ aaF);have g3:=G (Tm.ek M _ aaF);rw[N_];exact .n2 _ _ _ (.n2 _ _ _ g2 g3) (.n3 _ _ _ g1 g2 g3)
 |Cn i s j u c _ ih=>intro l;rw[Ks];exact ih (Tm.ek l _ aaF)|@Ch i s j u b I c T n n' t t' _ _ _ _ x y G S=>
  intro l;have M:=Tm.ek l (Tm.mk 8 j u [n,t]) aaF;have g1:=x (Tm.ek l _ aaF);have g2:=y (Tm.ek l _ aaF);have g3:=G (Tm.ek M _ aaF);have g4:=S (Tm.ek M _ aaF);rw[KP];exact .n2 _ _ _ (.n2 _ _ _ (.n2 _ _ _ g2 g3) g4) (.n3 _ _ _ g1 g2 g4)
 |@fst i s j u b a K _ ih=>intro l;rw[QV];exact ih (Tm.ek (Tm.ek l (Tm.mk 10 j u [a,b]) aaF) _ aaF)|@snd i s j u a b I _ ih=>intro l;rw[Rj];exact ih (Tm.ek (Tm.ek l (Tm.mk 10 j u [a,b]) aaF) _ aaF)
inductive mv:Tm->Tm->Prop
 |refl (t:Tm):mv t t|step {t u v:Tm}:kr t u->mv u v->mv t v
def mv.ok{t u:Tm}(h:mv t u):t.ok=true->u.ok=true:=by
 induction h with
 |refl=>exact id|step h _ ih=>exactλa=>ih (h.ok a)
def mv.trans{t u v:Tm}(h:mv t u)(a:mv u v):mv t v:=by
 induction h with
 |refl=>exact a|step h _ ih=>exact .step h (ih a)
def mv.strip{t v:Tm}(h:mv t v):∀u,t.ok=true->kr t u->∃w,mv u w/\kr v w:=by
 induction h with
 |refl t=>exactλu _ hu=>⟨u,.refl _,hu⟩|@step t a v c _ ih=>
  intro u b hu;obtain⟨w,d,f⟩:=ih t.dev (c.ok b) (c.tri b);exact⟨w,.step (hu.tri b) d,f⟩
def mv.meet{t u:Tm}(h:mv t u):∀v,t.ok=true->mv t v->∃w,mv u w/\mv v w:=by
 induction h with
 |refl t=>exactλv _ b=>⟨v,b,.refl _⟩|@step t a u c _ ih=>
  intro v d b;obtain⟨w,f,i⟩:=b.strip a d c;obtain⟨z,j,z2⟩:=ih w (c.ok d) f;exact⟨z,j,.step i z2⟩
def CQ{k i:Int}{s:Ty}{l:List Tm}(h:(Tm.mk k i s l).nf=true):(Tm.mk k i s l).root=false/\∀a∈l,a.nf=true:=by
 rw[Tm.aaI] at h;simpa using h
def kr.nf{t u:Tm}(h:kr t u):t.nf=true->u=t:=by
 induction h with
 |n0=>intro _;rfl|n1 k i s _ ih=>intro hn;rw[ih ((CQ hn).2 _ aaF)]|n2 k i s _ _ a b=>intro hn;rw[a ((CQ hn).2 _ aaF),b ((CQ hn).2 _ aaF)]|n3 k i s _ _ _ a b c=>intro hn;rw[a ((CQ hn).2 _ aaF),b ((CQ hn).2 _ aaF),c ((CQ hn).2 _ aaF)]|_=>intro hn;have:=(CQ hn).1;simp[Tm.root,Tm.kd] at this
def mv.nf{t u:Tm}(h:mv t u):t.nf=true->u=t:=by
 induction h with
 |refl=>intro _;rfl|step h _ ih=>
  intro hn;have:=h.nf hn;subst this;exact ih hn
def mv.unique{t a b:Tm}(c:t.ok=true)(d:mv t a)(f:mv t b)(h:a.nf=true)(i:b.nf=true):a=b:=by
 obtain⟨w,j,k⟩:=d.meet b c f;rw[<-j.nf h,<-k.nf i]
inductive O6:List Tm->List Tm->Prop
 |nil:O6 [] []|cons {a b:Tm} {l m:List Tm}:kr a b->O6 l m->O6 (a::l) (b::m)
def kr.list{k i:Int}{s:Ty}:∀{l m:List Tm},O6 l m->l.length<=3->kr (.mk k i s l) (.mk k i s m)
 |_,_,.nil,_=>.n0 _ _ _|_,_,.cons h .nil,_=>.n1 _ _ _ h|_,_,.cons h (.cons a .nil),_=>.n2 _ _ _ h a|_,_,.cons h (.cons a (.cons b .nil)),_=>.n3 _ _ _ h a b|_,_,.cons h (.cons a (.cons b (.cons d _))),c=>by simp at c
def RM(k:Int):gL k<=3:=by unfold gL;repeat' (first|omega|split)
def Tm.VZ{k i:Int}{s:Ty}{l:List Tm}(h:(Tm.mk k i s l).ok=true):l.length<=3:=by
 have:=Tm.r' h;have:=RM k;omega
theorem kr.refl(t:Tm):t.ok=true->kr t t:=by
 induction t using Tm.ind with
 |h k i s l ih=>
  intro b
  have c:∀m:List Tm,(∀t∈m,t∈l)->O6 m m:=by
   intro m
   induction m with
   |nil=>exactλ_=>.nil|cons t m a=>exactλhm=>.cons (ih t (hm t aaF) (Tm.ek b t (hm t aaF))) (a λu hu=>hm u (by simp[hu]))
  exact kr.list (c l λt h=>h) (Tm.VZ b)
def kr.ZH:∀(l:List Tm),(∀t∈l,t.ok=true)->O6 l l
 |[],_=>.nil|t::l,h=>.cons (kr.refl t (h t aaF)) (kr.ZH l λu hu=>h u (by simp[hu]))
def kr.fm{t:Tm}(c:t.ok=true)(o:t.root=true):kr t t.fm:=by
 cases Tm.Nd c o with
 |@app i s j u b a=>
  rw[show(Tm.mk 3 i s [.mk 2 j u [b],a]).fm=Tm.fK 0 b a by simp[Tm.fm]];exact .beta _ _ _ _ (kr.refl b (Tm.ek (Tm.ek c (.mk 2 j u [b]) aaF) b aaF)) (kr.refl a (Tm.ek c a aaF))
 |@zero k q i s j u b st f=>
  have l:=kr.refl b (Tm.ek c b aaF);rcases f with⟨rfl,rfl⟩|⟨rfl,rfl⟩
  ·rw[show(Tm.mk 6 i s [b,st,.mk 4 j u []]).fm=b by simp[Tm.fm]];exact .IF _ _ _ _ _ l
  ·rw[show(Tm.mk 9 i s [b,st,.mk 7 j u []]).fm=b by simp[Tm.fm]];exact .Cn _ _ _ _ _ l
 |@succ i s j u b st n=>
  rw[show(Tm.mk 6 i s [b,st,.mk 5 j u [n]]).fm=oZ st [n,.mk 6 i s [b,st,n]] by simp[Tm.fm]];exact .Jn _ _ _ _ (kr.refl b (Tm.ek c b aaF)) (kr.refl st (Tm.ek c st aaF)) (kr.refl n (Tm.ek (Tm.ek c (.mk 5 j u [n]) aaF) n aaF))
 |@cons i s j u b st h t=>
  have d:=Tm.ek c (.mk 8 j u [h,t]) aaF;rw[show(Tm.mk 9 i s [b,st,.mk 8 j u [h,t]]).fm=oZ st [h,t,.mk 9 i s [b,st,t]] by simp[Tm.fm]];exact .Ch _ _ _ _ (kr.refl b (Tm.ek c b aaF)) (kr.refl st (Tm.ek c st aaF)) (kr.refl h (Tm.ek d h aaF)) (kr.refl t (Tm.ek d t aaF))
 |@proj k i s j u a b f=>
  have d:=Tm.ek c (.mk 10 j u [a,b]) aaF;rcases f with rfl|rfl
  ·rw[show(Tm.mk 11 i s [.mk 10 j u [a,b]]).fm=a by simp[Tm.fm]];exact .fst _ _ _ _ _ (kr.refl a (Tm.ek d a aaF))
  ·rw[show(Tm.mk 12 i s [.mk 10 j u [a,b]]).fm=b by simp[Tm.fm]];exact .snd _ _ _ _ _ (kr.refl b (Tm.ek d b aaF))
def kr.JS{r:Int}(t:Tm):∀a,t.ok=true->t.JS r=some (some a)->kr t a:=by
 induction t using Tm.ind with
 |h k i s l ih=>
  intro a c h;rcases lk h with⟨j,rfl⟩|⟨n,o,rfl⟩
  ·exact kr.fm c j
  ·refine kr.list ?_ (Tm.VZ c)
   have key:∀m:List Tm,(∀t∈m,t∈l)->∀d,Tm.wc r m=some (some d)->O6 m d:=by
    intro m
    induction m with
    |nil=>intro _ d h;exact(m7 h).elim|cons t m f=>
     intro hm d h;have b:=Tm.ek c t (hm t aaF);rcases jS h with⟨a,e,rfl⟩|⟨q,e,rfl⟩
     ·exact .cons (ih t (hm t aaF) a b e) (kr.ZH m λu hu=>Tm.ek c u (hm u (by simp[hu])))
     ·exact .cons (kr.refl t b) (f (λu hu=>hm u (by simp[hu])) q e)
   exact key l (λt h=>h) n o
def KF:∀(k:Nat) (m:Int) (t a:Tm) (n:Int),t.ok=true->t.norm k m=(a,n,0)->mv t a
 |0,m,t,a,n,b,h=>by
  rw[Tm.norm] at h
  split at h
  ·obtain⟨rfl,_⟩:=iE h;exact .refl _
  ·cases h
 |k+1,m,t,a,n,b,h=>by
  rw[Tm.norm] at h
  split at h
  ·cases h
  ·obtain⟨rfl,_⟩:=iE h;exact .refl _
  ·rename_i c hs;have:=kr.JS t c b hs;exact .step this (KF k (m+1) c a n (this.ok b) h)
def abv(x:Tm):Tm.mk x.aiI x.aiL (Ty.mk x.dM.aiI x.dM.aiJ) x.aiJ=x:=by
 cases x with
 |mk k i s l=>cases s;rfl
def l5{a:Ty}(h:a.aiK<=1000000000):fh FU a a=some true:=by
 obtain⟨r,b,c⟩:=xp FU a a (by rw[fD];exact h) h;rw[b,c.2 rfl]
def ok_eq{t:Ty}(h:t.err=0):ub t=some (t,0):=by
 unfold ub;rw[ml (by have:=(Ty.k1 h).2;omega),h];rfl
def eV{t:Ty}(h:t.err=0):t.aiK<=64:=by have:=(Ty.k1 h).2;omega
inductive TL (n:Nat) (g:List Ty):List Tm->List Ty->Prop
 |nil:TL n g [] []|cons {a:Tm} {t:Ty} {l:List Tm} {ts:List Ty}:fv n g a=some (t,0)->TL n g l ts->TL n g (a::l) (t::ts)
def oA{n:Nat}{g:List Ty}:∀{l:List Tm} {ts:List Ty} (i:Nat) (v:List Ty),TL n g l ts->v.length+l.length<=1000->eY (λ(f:Int) (d:Tm)=>(λ(a:List Ty)=>
   dS (fv n g d) λb c=>
   if(eE c 0) then(
   some (fZ.ret ((Ty.mk 0 []),c)))
   else(gu (fL a [b])<|some (.next (fT a [b])))):Int->Tm->((List Ty))->(Option (fZ ((List Ty)) (Ty×Int)))) l i v=some (.inl (v++ts))
 |_,_,i,v,.nil,_=>by simp|_,_,i,v,.cons h j,k=>by
  simp only[pM] at k;rw[fp];simp only[h,dN];rw[dI aak,fM aby];simp only[dX,dF,fw];rw[oA (i+1) _ j (by rw[jl];simp;omega),jl];simp
def UF{g:List Ty}{x:Tm}{t:Ty}(h:dQ g x t):(∀s∈g,s.err=0)->t.err=0/\∀n:Nat,x.aiK<=n->g.length+x.aiK<=1000000->fv n g x=some (t,0):=by
 induction h with
 |@var g t i y C=>
  intro hg;have A:=hg t (IN C);refine⟨A,λn hn j=>?_⟩;rw[Tm.dJ] at hn;obtain⟨n,rfl⟩:∃m,n=m+1:=⟨n-1,VW⟩;rw[Tm.dJ] at j;rw[fv,dO abL,dI (by simp only[Tm.gY,jc,gC];omega)];simp only[Tm.gY,gC];rw[fY (a:=(g.length:Int)) VW VW,fY VW VW]
  have:eb g ((g.length:Int)-1-(i:Int))=some t:=by
   unfold eb;rw[dO VW,<-C]
   congr 1
   omega
  rw[this];simp only[dF];rw[jk (by have:=eV A;omega)];rfl
 |@lam g s b t y _ ih=>
  intro hg;have hs:=(Ty.sU (.inr rfl) y).1;have B:=(Ty.sU (.inr rfl) y).2
  obtain⟨_,ih⟩:=ih (by
   intro u hu;rcases uh.1 hu with h|h
   ·exact hg u h
   ·rw[E'] at h;rw[h];exact hs)
  refine⟨y,λn hn j=>?_⟩;rw[Tm.dJ] at hn j;simp only[ea] at hn j;obtain⟨n,rfl⟩:∃m,n=m+1:=⟨n-1,VW⟩;rw[fv,dI aaF,dO abL];simp only[Tm.fu,Tm.er,eJ,kQ,dF,jl];rw[fM aby,dX,ih n VW aby];simp only[dN];rw[dI aak,iL (by have:=eV hs;omega) (by have:=eV B;omega)];simp only[dF];rw[ok_eq y];rfl
 |@app g f a s t _ _ c d=>
  intro hg;obtain⟨r,c⟩:=c hg;obtain⟨v,d⟩:=d hg;have B:=(Ty.sU (.inr rfl) r).2;refine⟨B,λn hn j=>?_⟩;rw[Tm.dJ] at hn j;simp only[ea] at hn j;obtain⟨n,rfl⟩:∃m,n=m+1:=⟨n-1,VW⟩;have o:=oA (n:=n) (g:=g) (l:=[f,a]) 0 [] (.cons (c n VW VW) (.cons (d n VW VW) .nil)) aaF;rw[fv,dI aaF,dI aaF];simp only[dZ,Tm.er,ed (l:=[f,a]) aaF,dX];rw[o];simp only[dF,ew,gm,gE];rw[dO abL];simp only[qc,eJ,hE,kQ,qo,dF];rw[dI (by simp[Ty.fn,eE]),show(Ty.fn s t).aiJ[0]?=some s from rfl];simp only[dF];rw[l5 (by have:=eV v;omega)];simp only[dF];rw[dI aak,show(Ty.fn s t).aiJ[1]?=some t from rfl];rfl
 |zero=>
  intro hg;refine⟨Ty.fb,λn hn j=>?_⟩;rw[Tm.dJ] at hn;obtain⟨n,rfl⟩:∃m,n=m+1:=⟨n-1,VW⟩;rfl
 |@succ g a _ ih=>
  intro hg;obtain⟨r,ih⟩:=ih hg;refine⟨Ty.fb,λn hn j=>?_⟩;rw[Tm.dJ] at hn j;simp only[ea] at hn j;obtain⟨n,rfl⟩:∃m,n=m+1:=⟨n-1,VW⟩;have o:=oA (n:=n) (g:=g) (l:=[a]) 0 [] (.cons (ih n VW VW) .nil) aaF;rw[fv,dI aaF,dI aaF];simp only[dZ,Tm.er,ed (l:=[a]) aaF,dX];rw[o];simp only[dF,ew,gm,gE];rw[dI aaF,dI aaF,dO abL];simp only[qc,eJ,kQ,dF];rw[l5 (by rw[Ty.hX];omega)];rfl
 |@rQ g t b s k w _ _ _ c d q=>
  intro hg;obtain⟨r,c⟩:=c hg;obtain⟨v,d⟩:=d hg;obtain⟨D,q⟩:=q hg;refine⟨w,λn hn j=>?_⟩;rw[Tm.dJ] at hn j;simp only[ea] at hn j;obtain⟨n,rfl⟩:∃m,n=m+1:=⟨n-1,VW⟩;have B:=eV w;have o:=oA (n:=n) (g:=g) (l:=[b,s,k]) 0 [] (.cons (c n VW VW) (.cons (d n VW VW) (.cons (q n VW VW) .nil))) aaF;rw[fv,dI aaF,dI aaF];simp only[dZ,Tm.er,ed (l:=[b,s,k]) aaF,dX];rw[o];simp only[dF,ew,gm,gE];rw[dI aaF,dI aaF,dI aaF,dO abL];simp only[qc,eJ,hE,mO,kQ,qo,dF,Tm.fu];rw[l5 VW];simp only[dF,if_true];rw[iL VW VW];simp only[dF];rw[iL (by rw[Ty.hX];omega) (by rw[Ty.jz];omega)];simp only[dF];rw[l5 (by have:=eV v;omega)];simp only[dF,if_true];rw[l5 (by rw[Ty.hX];omega)];simp only[dF];rw[dI aak,jk VW];rfl
 |nil=>
  intro hg;refine⟨Ty.mo,λn hn j=>?_⟩;rw[Tm.dJ] at hn;obtain⟨n,rfl⟩:∃m,n=m+1:=⟨n-1,VW⟩;rfl
 |@cons g a b _ _ c d=>
  intro hg;obtain⟨r,c⟩:=c hg;obtain⟨v,d⟩:=d hg;refine⟨Ty.mo,λn hn j=>?_⟩;rw[Tm.dJ] at hn j;simp only[ea] at hn j;obtain⟨n,rfl⟩:∃m,n=m+1:=⟨n-1,VW⟩;have o:=oA (n:=n) (g:=g) (l:=[a,b]) 0 [] (.cons (c n VW VW) (.cons (d n VW VW) .nil)) aaF;rw[fv,dI aaF,dI aaF];simp only[dZ,Tm.er,ed (l:=[a,b]) aaF,dX];rw[o];simp only[dF,ew,gm,gE];rw[dI aaF,dI aaF,dI aaF,dI aaF,dI aaF,dO abL];simp only[qc,eJ,hE,kQ,qo,dF];rw[l5 (by rw[Ty.hX];omega)];simp only[dF,if_true];rw[l5 (by rw[Ty.oK];omega)];rfl
 |@fold g t b s k w _ _ _ c d q=>
  intro hg;obtain⟨r,c⟩:=c hg;obtain⟨v,d⟩:=d hg;obtain⟨D,q⟩:=q hg;refine⟨w,λn hn j=>?_⟩;rw[Tm.dJ] at hn j;simp only[ea] at hn j;obtain⟨n,rfl⟩:∃m,n=m+1:=⟨n-1,VW⟩;have B:=eV w;have o:=oA (n:=n) (g:=g) (l:=[b,s,k]) 0 [] (.cons (c n VW VW) (.cons (d n VW VW) (.cons (q n VW VW) .nil))) aaF;rw[fv,dI aaF,dI aaF];simp only[dZ,Tm.er,ed (l:=[b,s,k]) aaF,dX];rw[o];simp only[dF,ew,gm,gE];rw[dI aaF,dI aaF,dI aaF,dI aaF,dI aaF,dI aaF,dO abL];simp only[qc,eJ,hE,mO,kQ,qo,dF,Tm.fu];rw[l5 VW];simp only[dF,if_true];rw[iL VW VW];simp only[dF];rw[iL (by rw[Ty.oK];omega) (by rw[Ty.jz];omega)];simp only[dF];rw[iL (by rw[Ty.hX];omega) (by rw[Ty.jz,Ty.jz,Ty.oK];omega)];simp only[dF];rw[l5 (by have:=eV v;omega)];simp only[dF,if_true];rw[l5 (by rw[Ty.oK];omega)];simp only[dF];rw[dI aak,jk VW];rfl
 |@pair g a b s t w _ _ c d=>
  intro hg;obtain⟨r,c⟩:=c hg;obtain⟨v,d⟩:=d hg;refine⟨w,λn hn j=>?_⟩;rw[Tm.dJ] at hn j;simp only[ea] at hn j;obtain⟨n,rfl⟩:∃m,n=m+1:=⟨n-1,VW⟩;have o:=oA (n:=n) (g:=g) (l:=[a,b]) 0 [] (.cons (c n VW VW) (.cons (d n VW VW) .nil)) aaF;rw[fv,dI aaF,dI aaF];simp only[dZ,Tm.er,ed (l:=[a,b]) aaF,dX];rw[o];simp only[dF,ew,gm,gE];rw[dI aaF,dI aaF,dI aaF,dI aaF,dI aaF,dI aaF,dI aaF,dO abL];simp only[qc,eJ,hE,kQ,qo,dF];rw[yG (by have:=eV r;omega) (by have:=eV v;omega)];simp only[dF];rw[ok_eq w];rfl
 |@fst g a s t _ ih=>
  intro hg;obtain⟨r,ih⟩:=ih hg;refine⟨(Ty.sU (.inl rfl) r).1,λn hn j=>?_⟩;rw[Tm.dJ] at hn j;simp only[ea] at hn j;obtain⟨n,rfl⟩:∃m,n=m+1:=⟨n-1,VW⟩;have o:=oA (n:=n) (g:=g) (l:=[a]) 0 [] (.cons (ih n VW VW) .nil) aaF;rw[fv,dI aaF,dI aaF];simp only[dZ,Tm.er,ed (l:=[a]) aaF,dX];rw[o];simp only[dF,ew,gm,gE];rw[dI aaF,dI aaF,dI aaF,dI aaF,dI aaF,dI aaF,dI aaF,dI aaF,dO abL];simp only[qc,eJ,kQ,dF];rw[dI (by simp[Ty.pr,eE]),dO abL,show(Ty.pr s t).aiJ[0]?=some s from rfl];rfl
 |@snd g a s t _ ih=>
  intro hg;obtain⟨r,ih⟩:=ih hg;refine⟨(Ty.sU (.inl rfl) r).2,λn hn j=>?_⟩;rw[Tm.dJ] at hn j;simp only[ea] at hn j;obtain⟨n,rfl⟩:∃m,n=m+1:=⟨n-1,VW⟩;have o:=oA (n:=n) (g:=g) (l:=[a]) 0 [] (.cons (ih n VW VW) .nil) aaF;rw[fv,dI aaF,dI aaF];simp only[dZ,Tm.er,ed (l:=[a]) aaF,dX];rw[o];simp only[dF,ew,gm,gE];rw[dI aaF,dI aaF,dI aaF,dI aaF,dI aaF,dI aaF,dI aaF,dI aaF,dO abL];simp only[qc,eJ,kQ,dF];rw[dI (by simp[Ty.pr,eE]),dI aaF,show eb (Ty.pr s t).aiJ 1=some t from rfl];rfl
 |unit=>
  intro hg;refine⟨Ty.IU,λn hn j=>?_⟩;rw[Tm.dJ] at hn;obtain⟨n,rfl⟩:∃m,n=m+1:=⟨n-1,VW⟩;rfl
def Tm.oB{p:Tm->Prop}(var:∀i:Nat,p (.mk 1 i .z []))(lam:∀s b,s.err=0->b.ok=true->p (.mk 2 0 s [b]))(app:∀a b,a.ok=true->b.ok=true->p (.mk 3 0 .z [a,b]))
  (zero:p (.mk 4 0 .z [])) (succ:∀a,a.ok=true->p (.mk 5 0 .z [a])) (rQ:∀s a b c,s.err=0->a.ok=true->b.ok=true->c.ok=true->p (.mk 6 0 s [a,b,c])) (nil:p (.mk 7 0 .z []))
  (cons:∀a b,a.ok=true->b.ok=true->p (.mk 8 0 .z [a,b])) (fold:∀s a b c,s.err=0->a.ok=true->b.ok=true->c.ok=true->p (.mk 9 0 s [a,b,c])) (pair:∀a b,a.ok=true->b.ok=true->p (.mk 10 0 .z [a,b]))
  (fst:∀a,a.ok=true->p (.mk 11 0 .z [a])) (snd:∀a,a.ok=true->p (.mk 12 0 .z [a])) (unit:p (.mk 13 0 .z [])) (t:Tm) (h:t.ok=true):p t:=by
 cases t with
 |mk k i s l=>
  obtain⟨_,hi,d,o,hn⟩:=Tm.pO h
  have hs:if jZ k then s.err=0 else s=.z:=by
   rw[Tm.gQ] at h;simp only[Tm.node,gG] at h;have:=h.1.2
   split at this
   ·rename_i f;rw[dO f];simpa using this
   ·rename_i f;rw[dI f];exact(Ty.mE s).1 this
  have r:∀{l:List Tm},(l.length:Int)=0->l=[]:=λh=>gh.1 h;unfold gL at hn
  split at hn
  ·rename_i f;obtain rfl:=gh.1 hn;rcases f with rfl|rfl|rfl|rfl
   ·rw[dI aak] at hs;subst hs;obtain⟨j,rfl⟩:∃j:Nat,i=(j:Int):=⟨i.toNat,VW⟩;exact var j
   ·rw[dI aak] at hs;subst hs;obtain rfl:=d aak;exact zero
   ·rw[dI aak] at hs;subst hs;obtain rfl:=d aak;exact nil
   ·rw[dI aak] at hs;subst hs;obtain rfl:=d aak;exact unit
  ·split at hn
   ·rename_i f;obtain⟨a,rfl⟩:=jj hn;have n:=o a aaF;rcases f with rfl|rfl|rfl|rfl
    ·rw[dO aak] at hs;obtain rfl:=d aak;exact lam s a hs n
    ·rw[dI aak] at hs;subst hs;obtain rfl:=d aak;exact succ a n
    ·rw[dI aak] at hs;subst hs;obtain rfl:=d aak;exact fst a n
    ·rw[dI aak] at hs;subst hs;obtain rfl:=d aak;exact snd a n
   ·split at hn
    ·rename_i f;obtain⟨a,b,rfl⟩:=p9 hn;have n:=o a aaF;have q:=o b aaF;rcases f with rfl|rfl|rfl
     ·rw[dI aak] at hs;subst hs;obtain rfl:=d aak;exact app a b n q
     ·rw[dI aak] at hs;subst hs;obtain rfl:=d aak;exact cons a b n q
     ·rw[dI aak] at hs;subst hs;obtain rfl:=d aak;exact pair a b n q
    ·split at hn
     ·rename_i f
      obtain⟨a,b,c,rfl⟩:∃a b c,l=[a,b,c]:=by
       match l,hn with
       |[a,b,c],_=>exact⟨a,b,c,rfl⟩|[],h|[_],h|[_,_],h=>simp at h
       |_::_::_::_::_,h=>simp at h;omega
      have n:=o a aaF;have q:=o b aaF;have u:=o c aaF;rcases f with rfl|rfl
      ·rw[dO aak] at hs;obtain rfl:=d aak;exact rQ s a b c hs n q u
      ·rw[dO aak] at hs;obtain rfl:=d aak;exact fold s a b c hs n q u
     ·omega
open Classical in
noncomputable def hV (k:Int) (s:Ty) (l:List Ty):Ty×Int:=
 if k=3 then(if(l.getD 0 .z).aiI=4/\(l.getD 0 .z).aiJ.getD 0 .z=l.getD 1 .z then((l.getD 0 .z).aiJ.getD 1 .z,0)else(.z,7))
 else if k=4 then(.nat,0)
 else if k=5 then(if l.getD 0 .z=.nat then(.nat,0)else(.z,7))
 else if k=6 then(if l.getD 0 .z=s/\l.getD 1 .z=.fn .nat (.fn s s)/\l.getD 2 .z=.nat then(s,0)else(.z,7))
 else if k=7 then(.ir,0)
 else if k=8 then(if l.getD 0 .z=.nat/\l.getD 1 .z=.ir then(.ir,0)else(.z,7))
 else if k=9 then(if l.getD 0 .z=s/\l.getD 1 .z=.fn .nat (.fn .ir (.fn s s))/\l.getD 2 .z=.ir then(s,0)else(.z,7))
 else if k=10 then(if 64<1+(l.getD 0 .z).aiK+(l.getD 1 .z).aiK then(.z,4)else(.pr (l.getD 0 .z) (l.getD 1 .z),0))
 else if k=11 then(if(l.getD 0 .z).aiI=3 then((l.getD 0 .z).aiJ.getD 0 .z,0)else(.z,7))
 else if k=12 then(if(l.getD 0 .z).aiI=3 then((l.getD 0 .z).aiJ.getD 1 .z,0)else(.z,7))
 else(.unit,0)
def Mx(s:Ty)(r:Ty×Int):Ty×Int:=if r.2≠0 then(.z,r.2)else if 64<1+s.aiK+r.1.aiK then(.z,4)else(.fn s r.1,0)
def v'(f:List Ty->Ty×Int):List Ty⊕Int->Ty×Int
 |.inl l=>f l|.inr e=>(.z,e)
def Qr(r:Ty×Int)(o:List Ty⊕Int):List Ty⊕Int:=if r.2≠0 then .inr r.2 else match o with|.inl l=>.inl (r.1::l)|.inr e=>.inr e
mutual
noncomputable def Tm.ty:Tm->List Ty->Ty×Int
 |.mk k i s l,g=>if k=1 then(if i<(g.length:Int)then(g.getD (g.length-1-i.toNat) .z,0)else(.z,6))else if k=2 then Mx s (Tm.tyH l (g++[s]))else v' (hV k s) (Tm.vh l g)
noncomputable def Tm.tyH:List Tm->List Ty->Ty×Int
 |[],_=>(.z,0)|t::_,g=>t.ty g
noncomputable def Tm.vh:List Tm->List Ty->List Ty⊕Int
 |[],_=>.inl []|t::l,g=>Qr (t.ty g) (Tm.vh l g)
end
def Tm.mK(k i:Int)(s:Ty)(l:List Tm)(g:List Ty):(Tm.mk k i s l).ty g=if k=1 then(if i<(g.length:Int)then(g.getD (g.length-1-i.toNat) .z,0)else(.z,6))else if k=2 then Mx s (Tm.tyH l (g++[s]))else v' (hV k s) (Tm.vh l g):=by rw[Tm.ty]
def im(g:List Ty):Prop:=∀s∈g,s.err=0
def im.app{g:List Ty}{s:Ty}(h:im g)(hs:s.err=0):im (g++[s]):=by
 intro u hu;rcases uh.1 hu with h'|h'
 ·exact h u h'
 ·grind
def Ll{t:Ty}(h:t.err=0)(c:t.aiI=4):∃a b,t=.fn a b/\a.err=0/\b.err=0:=by
 rcases Ty.rl h with rfl|rfl|rfl|⟨a,b,rfl,_,_⟩|h
 ·cases c
 ·cases c
 ·cases c
 ·cases c
 ·exact h
def Be{t:Ty}(h:t.err=0)(c:t.aiI=3):∃a b,t=.pr a b/\a.err=0/\b.err=0:=by
 rcases Ty.rl h with rfl|rfl|rfl|h|⟨a,b,rfl,_,_⟩
 ·cases c
 ·cases c
 ·cases c
 ·exact h
 ·cases c
def vq{t:Ty}(h:t.err=0):t.aiI=1↔t=.nat:=by
 rcases Ty.rl h with rfl|rfl|rfl|⟨a,b,rfl,_,_⟩|⟨a,b,rfl,_,_⟩
 ·exact⟨λ_=>rfl,λ_=>rfl⟩
 all_goals exact⟨λh=>(by cases h),λh=>(by cases h)⟩
def Ep{t:Ty}(h:t.err=0):t.aiI=2↔t=.ir:=by
 rcases Ty.rl h with rfl|rfl|rfl|⟨a,b,rfl,_,_⟩|⟨a,b,rfl,_,_⟩
 ·exact⟨λh=>(by cases h),λh=>(by cases h)⟩
 ·exact⟨λ_=>rfl,λ_=>rfl⟩
 all_goals exact⟨λh=>(by cases h),λh=>(by cases h)⟩
theorem p0{r:Ty×Int}{o:List Ty⊕Int}(h:r.2≠0):Qr r o=.inr r.2:=dO h
theorem qg{r:Ty×Int}{o:List Ty⊕Int}(h:r.2=0):Qr r o=match o with|.inl l=>.inl (r.1::l)|.inr e=>.inr e:=dI VW
theorem tf{f:List Ty->Ty×Int}{e:Int}{r:Ty}(h:v' f (.inr e)=(r,0)):e=0:=(iE h).2
def zh{a:Tm}{g:List Ty}(h:(a.ty g).2=0):a.ty g=((a.ty g).1,0):=Prod.ext rfl h
def PQ{a:Tm}{g:List Ty}{f:List Ty->Ty×Int}{r:Ty}(h:v' f (Tm.vh [a] g)=(r,0)):∃s,a.ty g=(s,0)/\f [s]=(r,0):=by
 rw[Tm.vh] at h
 by_cases b:(a.ty g).2=0
 ·rw[qg b] at h;exact⟨_,zh b,h⟩
 ·grind[p0,tf]
def PZ{a b:Tm}{g:List Ty}{f:List Ty->Ty×Int}{r:Ty}(h:v' f (Tm.vh [a,b] g)=(r,0)):∃s t,a.ty g=(s,0)/\b.ty g=(t,0)/\f [s,t]=(r,0):=by
 rw[Tm.vh,Tm.vh,Tm.vh] at h
 by_cases c:(a.ty g).2=0
 ·rw[qg c] at h
  by_cases d:(b.ty g).2=0
  ·rw[qg d] at h;exact⟨_,_,zh c,zh d,h⟩
  ·grind[p0,tf]
 ·grind[p0,tf]
def MT{a b c:Tm}{g:List Ty}{f:List Ty->Ty×Int}{r:Ty}(h:v' f (Tm.vh [a,b,c] g)=(r,0)):∃s t u,a.ty g=(s,0)/\b.ty g=(t,0)/\c.ty g=(u,0)/\f [s,t,u]=(r,0):=by
 rw[Tm.vh,Tm.vh,Tm.vh,Tm.vh] at h
 by_cases d:(a.ty g).2=0
 ·rw[qg d] at h
  by_cases i:(b.ty g).2=0
  ·rw[qg i] at h
   by_cases j:(c.ty g).2=0
   ·rw[qg j] at h;exact⟨_,_,_,zh d,zh i,zh j,h⟩
   ·grind[p0,tf]
  ·rw[p0 i] at h;exact absurd (tf h) i
 ·rw[p0 d] at h;exact absurd (tf h) d
def qQ:∀(n:Nat) (t:Tm),t.aiK<=n->t.ok=true->∀g,im g->∀s,t.ty g=(s,0)->dQ g t s/\s.err=0:=by
 intro n
 induction n with
 |zero=>intro t h;have:=t.eC;omega
 |succ n ih=>
  intro t hn H;refine Tm.oB (p:=λt=>t.aiK<=n+1->∀g,im g->∀s,t.ty g=(s,0)->dQ g t s/\s.err=0) ?_ ?_ ?_ ?_ ?_ ?_ ?_ ?_ ?_ ?_ ?_ ?_ ?_ t H hn
  ·intro i _ g hg s h;rw[Tm.mK,dO rfl] at h
   split at h
   ·rename_i hi
    have v:g.length-1-(i:Int).toNat<g.length:=VW
    have e:g[g.length-1-i]?=some s:=by
     have f:=(iE h).1;rw[O4,CB] at f;rw[CB] at v;rw[qL v] at f|-;simpa using f
    exact⟨.var i VW e,hg s (IN e)⟩
   ·have:=(iE h).2;omega
  ·intro s b hs o hn g hg r h;rw[Tm.dJ] at hn;simp only[ea] at hn;rw[Tm.mK,dI aak,dO rfl,Tm.tyH] at h;unfold Mx at h
   split at h
   ·rename_i B;exact absurd (iE h).2 B
   ·rename_i B
    split at h
    ·have:=(iE h).2;omega
    ·rename_i f;obtain⟨q,d⟩:=ih b VW o (g++[s]) (hg.app hs) _ (zh (by simpa using B));have he:=Ty.yX hs d VW;obtain rfl:=(iE h).1;exact⟨.lam he q,he⟩
  ·intro a b k o hn g hg r h;rw[Tm.dJ] at hn;simp only[ea] at hn;rw[Tm.mK,dI aak,dI aak] at h;obtain⟨s,t,f,q,d⟩:=PZ h;obtain⟨l,a2⟩:=ih a VW k g hg _ f;obtain⟨u,w⟩:=ih b VW o g hg _ q;simp only[hV,if_true,zC,O3] at d
   split at d
   ·rename_i j;obtain⟨x,y,rfl,C,A⟩:=Ll a2 j.1;have I:x=t:=j.2;obtain rfl:=(iE d).1;subst I;exact⟨.app l u,A⟩
   ·have:=(iE d).2;omega
  ·intro hn g hg r h;rw[Tm.mK,dI aak,dI aak,Tm.vh] at h;simp only[v',hV,reduceIte,Int.reduceEq] at h;obtain rfl:=(iE h).1;exact⟨.zero,Ty.fb⟩
  ·intro a k hn g hg r h;rw[Tm.dJ] at hn;simp only[ea] at hn;rw[Tm.mK,dI aak,dI aak] at h;obtain⟨s,f,d⟩:=PQ h;obtain⟨l,a2⟩:=ih a VW k g hg _ f;simp only[hV,reduceIte,Int.reduceEq,zC] at d
   split at d
   ·rename_i j;subst j;obtain rfl:=(iE d).1;exact⟨.succ l,Ty.fb⟩
   ·have:=(iE d).2;omega
  ·intro s a b c hs k o D hn g hg r h;rw[Tm.dJ] at hn;simp only[ea] at hn;rw[Tm.mK,dI aak,dI aak] at h;obtain⟨x,y,z,f,q,F,d⟩:=MT h;obtain⟨l,a2⟩:=ih a VW k g hg _ f;obtain⟨u,w⟩:=ih b VW o g hg _ q;obtain⟨G,J⟩:=ih c VW D g hg _ F;simp only[hV,reduceIte,Int.reduceEq,zC,O3] at d
   split at d
   ·rename_i j;have j:x=s/\y=.fn .nat (.fn s s)/\z=.nat:=j;obtain⟨rfl,rfl,rfl⟩:=j;obtain rfl:=(iE d).1;exact⟨.rQ hs l u G,hs⟩
   ·have:=(iE d).2;omega
  ·intro hn g hg r h;rw[Tm.mK,dI aak,dI aak,Tm.vh] at h;simp only[v',hV,reduceIte,Int.reduceEq] at h;obtain rfl:=(iE h).1;exact⟨.nil,Ty.mo⟩
  ·intro a b k o hn g hg r h;rw[Tm.dJ] at hn;simp only[ea] at hn;rw[Tm.mK,dI aak,dI aak] at h;obtain⟨s,t,f,q,d⟩:=PZ h;obtain⟨l,a2⟩:=ih a VW k g hg _ f;obtain⟨u,w⟩:=ih b VW o g hg _ q;simp only[hV,reduceIte,Int.reduceEq,zC,O3] at d
   split at d
   ·rename_i j;obtain⟨rfl,rfl⟩:=j;obtain rfl:=(iE d).1;exact⟨.cons l u,Ty.mo⟩
   ·have:=(iE d).2;omega
  ·intro s a b c hs k o D hn g hg r h;rw[Tm.dJ] at hn;simp only[ea] at hn;rw[Tm.mK,dI aak,dI aak] at h;obtain⟨x,y,z,f,q,F,d⟩:=MT h;obtain⟨l,a2⟩:=ih a VW k g hg _ f;obtain⟨u,w⟩:=ih b VW o g hg _ q;obtain⟨G,J⟩:=ih c VW D g hg _ F;simp only[hV,reduceIte,Int.reduceEq,zC,O3] at d
   split at d
   ·rename_i j;have j:x=s/\y=.fn .nat (.fn .ir (.fn s s))/\z=.ir:=j;obtain⟨rfl,rfl,rfl⟩:=j;obtain rfl:=(iE d).1;exact⟨.fold hs l u G,hs⟩
   ·have:=(iE d).2;omega
  ·intro a b k o hn g hg r h;rw[Tm.dJ] at hn;simp only[ea] at hn;rw[Tm.mK,dI aak,dI aak] at h;obtain⟨s,t,f,q,d⟩:=PZ h;obtain⟨l,a2⟩:=ih a VW k g hg _ f;obtain⟨u,w⟩:=ih b VW o g hg _ q;simp only[hV,reduceIte,Int.reduceEq,zC,O3] at d
   split at d
   ·have:=(iE d).2;omega
   ·rename_i j;have he:=Ty.P' a2 w VW;obtain rfl:=(iE d).1;exact⟨.pair he l u,he⟩
  ·intro a k hn g hg r h;rw[Tm.dJ] at hn;simp only[ea] at hn;rw[Tm.mK,dI aak,dI aak] at h;obtain⟨s,f,d⟩:=PQ h;obtain⟨l,a2⟩:=ih a VW k g hg _ f;simp only[hV,reduceIte,Int.reduceEq,zC] at d
   split at d
   ·rename_i j;obtain⟨x,y,rfl,C,A⟩:=Be a2 j;obtain rfl:=(iE d).1;exact⟨.fst l,C⟩
   ·have:=(iE d).2;omega
  ·intro a k hn g hg r h;rw[Tm.dJ] at hn;simp only[ea] at hn;rw[Tm.mK,dI aak,dI aak] at h;obtain⟨s,f,d⟩:=PQ h;obtain⟨l,a2⟩:=ih a VW k g hg _ f;simp only[hV,reduceIte,Int.reduceEq,zC] at d
   split at d
   ·rename_i j;obtain⟨x,y,rfl,C,A⟩:=Be a2 j;obtain rfl:=(iE d).1;exact⟨.snd l,A⟩
   ·have:=(iE d).2;omega
  ·intro hn g hg r h;rw[Tm.mK,dI aak,dI aak,Tm.vh] at h;simp only[v',hV,reduceIte,Int.reduceEq] at h;obtain rfl:=(iE h).1;exact⟨.unit,Ty.IU⟩
end Go.fH
namespace Go.fH
open Go
def jK(a:Ty):a.kV a=true:=(Ty.kO a a).2 rfl
def lJ{a b:Ty}(h:a≠b):a.kV b=false:=by grind[Ty.kO]
def oi{n:Nat}{g:List Ty}:∀(l:List Tm) (i:Nat) (v:List Ty),(∀a∈l,fv n g a=some (a.ty g))->v.length+l.length<=1000->eY (λ(o:Int) (j:Tm)=>(λ(c:List Ty)=>
   dS (fv n g j) λd f=>
   if(eE f 0) then(
   some (fZ.ret ((Ty.mk 0 []),f)))
   else(gu (fL c [d])<|some (.next (fT c [d])))):Int->Tm->((List Ty))->(Option (fZ ((List Ty)) (Ty×Int)))) l i v=some (match Tm.vh l g with|.inl ts=>.inl (v++ts)|.inr e=>.inr (.z,e))
 |[],i,v,_,_=>by simp[Tm.vh]|a::l,i,v,h,q=>by
  simp only[pM] at q;have s:=h a aaF;rw[fp,Tm.vh];rw[s]
  by_cases k:(a.ty g).2=0
  ·rw[zh k,qg rfl];simp only[dN];rw[dI aak,fM aby];simp only[dX,dF,fw];rw[oi l (i+1) _ (λb u=>h b (by simp[u])) (by rw[jl];simp;omega),jl];cases Tm.vh l g with
   |inl ts=>simp|inr e=>rfl
  ·rw[p0 k];generalize a.ty g=r at k;obtain⟨t,e⟩:=r;simp only[dN];rw[dO (by simpa[eE] using k)];rfl
def Bj(l:List Tm)(g:List Ty):(∃e,e≠0/\Tm.vh l g=.inr e)\/∃ts,Tm.vh l g=.inl ts/\ts.length=l.length/\∀(i:Nat) (a:Tm),l[i]?=some a->∃s,ts[i]?=some s/\a.ty g=(s,0):=by
 induction l with
 |nil=>exact .inr ⟨[],by rw[Tm.vh],rfl,aaF⟩|cons a l ih=>
  rw[Tm.vh]
  grind[qg,p0]
def OO{f:List Ty->Ty×Int}{e:Int}:v' f (.inr e)=(.z,e):=rfl
def ov{f:List Ty->Ty×Int}{l:List Ty}:v' f (.inl l)=f l:=rfl
def Dx{a:Tm}{g:List Ty}(b:a.ok=true)(hg:im g):(∃e,e≠0/\Tm.vh [a] g=.inr e)\/∃s,Tm.vh [a] g=.inl [s]/\s.err=0:=by
 rcases Bj [a] g with h|⟨ts,c,d,f⟩
 ·grind
 ·obtain⟨s,j,i⟩:=f 0 a rfl
  match ts,d with
  |[x],_=>
   obtain rfl:x=s:=by grind
   exact .inr ⟨x,c,(qQ _ a (js _) b g hg _ i).2⟩
def EH{a b:Tm}{g:List Ty}(d:a.ok=true)(f:b.ok=true)(hg:im g):(∃e,e≠0/\Tm.vh [a,b] g=.inr e)\/∃s t,Tm.vh [a,b] g=.inl [s,t]/\s.err=0/\t.err=0:=by
 rcases Bj [a,b] g with h|⟨ts,i,j,c⟩
 ·exact .inl h
 ·obtain⟨s,n,k⟩:=c 0 a rfl;obtain⟨t,o,l⟩:=c 1 b rfl
  match ts,j with
  |[x,y],_=>
   obtain rfl:x=s:=by grind
   obtain rfl:y=t:=by grind
   exact .inr ⟨x,y,i,(qQ _ a (js _) d g hg _ k).2,(qQ _ b (js _) f g hg _ l).2⟩
def Cz{a b c:Tm}{g:List Ty}(f:a.ok=true)(i:b.ok=true)(j:c.ok=true)(hg:im g):(∃e,e≠0/\Tm.vh [a,b,c] g=.inr e)\/∃s t u,Tm.vh [a,b,c] g=.inl [s,t,u]/\s.err=0/\t.err=0/\u.err=0:=by
 rcases Bj [a,b,c] g with h|⟨ts,k,l,d⟩
 ·exact .inl h
 ·obtain⟨s,v,n⟩:=d 0 a rfl;obtain⟨t,w,o⟩:=d 1 b rfl;obtain⟨u,q,r⟩:=d 2 c rfl
  match ts,l with
  |[x,y,z],_=>
   obtain rfl:x=s:=by grind
   obtain rfl:y=t:=by grind
   obtain rfl:z=u:=by simpa using q
   exact .inr ⟨x,y,z,k,(qQ _ a (js _) f g hg _ n).2,(qQ _ b (js _) i g hg _ o).2,(qQ _ c (js _) j g hg _ r).2⟩
def F1{t:Ty}(h:t.aiK<=1000000000)(a:t.ok=true):ub t=some (if 64<t.aiK then(.z,4)else(t,0)):=by
 unfold ub;rw[ml h];unfold Ty.err;rw[dO a]
 split
 ·rfl
 ·rfl
section
variable{s x y z:Ty}
def Bz:((x.aiI=4/\x.aiJ.getD 0 .z=y)->hV 3 s [x,y]=(x.aiJ.getD 1 .z,0))/\(¬(x.aiI=4/\x.aiJ.getD 0 .z=y)->hV 3 s [x,y]=(.z,7)):=by
 unfold hV
 grind
def He:(x=.nat->hV 5 s [x]=(.nat,0))/\(x≠ .nat->hV 5 s [x]=(.z,7)):=by
 unfold hV
 grind
def wK:((x=s/\y=.fn .nat (.fn s s)/\z=.nat)->hV 6 s [x,y,z]=(s,0))/\(¬(x=s/\y=.fn .nat (.fn s s)/\z=.nat)->hV 6 s [x,y,z]=(.z,7)):=by
 unfold hV
 grind
def Bb:((x=.nat/\y=.ir)->hV 8 s [x,y]=(.ir,0))/\(¬(x=.nat/\y=.ir)->hV 8 s [x,y]=(.z,7)):=by
 unfold hV
 grind
def wU:((x=s/\y=.fn .nat (.fn .ir (.fn s s))/\z=.ir)->hV 9 s [x,y,z]=(s,0))/\(¬(x=s/\y=.fn .nat (.fn .ir (.fn s s))/\z=.ir)->hV 9 s [x,y,z]=(.z,7)):=by
 unfold hV
 grind
def NQ:hV 10 s [x,y]=if 64<1+x.aiK+y.aiK then(.z,4)else(.pr x y,0):=by
 rfl
def Oz:hV 11 s [x]=if x.aiI=3 then(x.aiJ.getD 0 .z,0)else(.z,7):=by
 rfl
def Nr:hV 12 s [x]=if x.aiI=3 then(x.aiJ.getD 1 .z,0)else(.z,7):=by
 rfl
end
def AM:∀(n:Nat) (t:Tm),t.aiK<=n->t.ok=true->∀g,im g->g.length+t.aiK<=1000000->fv n g t=some (t.ty g):=by
 intro n
 induction n with
 |zero=>intro t h;have:=t.eC;omega
 |succ n ih=>
  intro t hn N;refine Tm.oB (p:=λt=>t.aiK<=n+1->∀g,im g->g.length+t.aiK<=1000000->fv (n+1) g t=some (t.ty g)) ?_ ?_ ?_ ?_ ?_ ?_ ?_ ?_ ?_ ?_ ?_ ?_ ?_ t N hn
  ·intro i _ g hg k;rw[Tm.dJ] at k;rw[fv,dO abL,Tm.mK,dO rfl]
   by_cases hi:(i:Int)<(g.length:Int)
   ·rw[dI (by simp only[Tm.gY,gC,jc];omega),dO hi];simp only[Tm.gY,gC];rw[fY (a:=(g.length:Int)) VW VW,fY VW VW]
    have w:g.length-1-i<g.length:=VW
    have:eb g ((g.length:Int)-1-(i:Int))=some g[g.length-1-i]:=by
     unfold eb;rw[dO VW,show((g.length:Int)-1-(i:Int)).toNat=g.length-1-i by omega,qL w]
    rw[this];simp only[dF];have H:=hg _ (Es w);rw[jk (by have:=eV H;omega)];simp only[dF,CB];rw[O4,qL w];rfl
   ·rw[dO (by simp only[Tm.gY,gC,jc];omega),dI hi];rfl
  ·intro s b hs k hn g hg d;rw[Tm.dJ] at hn d;simp only[ea] at hn d;rw[fv,dI aaF,dO abL,Tm.mK,dI aak,dO rfl,Tm.tyH];simp only[Tm.fu,Tm.er,eJ,kQ,dF,jl];rw[fM aby,dX,ih b VW k (g++[s]) (hg.app hs) aby];have L:=λh=>(qQ _ b (js _) k (g++[s]) (hg.app hs) (b.ty (g++[s])).1 (zh h)).2;generalize b.ty (g++[s])=q at L;obtain⟨r,e⟩:=q;simp only[dN,Mx]
   by_cases I:e=0
   ·subst I;have M:r.err=0:=L rfl;have J:=eV hs;have O:=eV M;rw[dI aak,dI aaF,iL VW VW];simp only[dF];rw[F1 (t:=Ty.fn s r) (by rw[Ty.jz];omega) (Ty.ok_two (.inr rfl) (Ty.k1 hs).1 (Ty.k1 M).1),Ty.jz]
    split<;>rfl
   ·rw[dO (by simpa[eE] using I),dO I];rfl
  ·intro a b j k hn g hg d;rw[Tm.dJ] at hn d;simp only[ea] at hn d;rw[fv,dI aaF,dI aaF,Tm.mK,dI aak,dI aak];simp only[dZ,Tm.er,ed (l:=[a,b]) aaF,dX];rw[oi [a,b] 0 [] (by intro x f;simp at f;rcases f with rfl|rfl<;>first|exact ih _ VW j g hg VW|exact ih _ VW k g hg VW) aaF];rcases EH j k hg with⟨e,he,h⟩|⟨s,t,h,hs,F⟩
   ·rw[h];rfl
   ·rw[h,ov];simp only[dF,ew,gm,gE];rw[dO abL];simp only[qc,eJ,hE,kQ,qo,dF]
    by_cases o:s.aiI=4
    ·obtain⟨x,y,rfl,f,D⟩:=Ll hs o;rw[dI (by simp[Ty.fn,eE]),show(Ty.fn x y).aiJ[0]?=some x from rfl];simp only[dF];rw[iD (by have:=eV f;omega)];simp only[dF]
     by_cases A:x=t
     ·subst A;rw[jK,dI aak,show(Ty.fn x y).aiJ[1]?=some y from rfl,(Bz (x:=.fn x y) (y:=x)).1 ⟨rfl,rfl⟩];rfl
     ·rw[lJ A,dO aak,(Bz (x:=.fn x y) (y:=t)).2 (λh=>A h.2)];rfl
    ·rw[dO (by simpa[eE] using o),dO trivial,Bz.2 (λh=>o h.1)];rfl
  ·intro hn g hg d;rw[Tm.mK,dI aak,dI aak,Tm.vh];rfl
  ·intro a j hn g hg d;rw[Tm.dJ] at hn d;simp only[ea] at hn d;rw[fv,dI aaF,dI aaF,Tm.mK,dI aak,dI aak];simp only[dZ,Tm.er,ed (l:=[a]) aaF,dX];rw[oi [a] 0 [] (by intro x f;simp at f;subst f;exact ih _ VW j g hg VW) aaF];rcases Dx j hg with⟨e,he,h⟩|⟨s,h,hs⟩
   ·rw[h];rfl
   ·rw[h,ov];simp only[dF,ew,gm,gE];rw[dI aaF,dI aaF,dO abL];simp only[qc,eJ,kQ,dF];rw[iD (by have:=eV hs;omega)];simp only[dF]
    by_cases B:s=.nat
    ·subst B;rw[jK,dO rfl,He.1 rfl]
    ·rw[lJ B,dI aak,He.2 B];rfl
  ·intro s a b c hs j k G hn g hg d;rw[Tm.dJ] at hn d;simp only[ea] at hn d;rw[fv,dI aaF,dI aaF,Tm.mK,dI aak,dI aak];simp only[dZ,Tm.er,ed (l:=[a,b,c]) aaF,dX];rw[oi [a,b,c] 0 [] (by intro x f;simp at f;rcases f with rfl|rfl|rfl<;>first|exact ih _ VW j g hg VW|exact ih _ VW k g hg VW|exact ih _ VW G g hg VW) aaF];rcases Cz j k G hg with⟨e,he,h⟩|⟨x,y,z,h,f,D,K⟩
   ·rw[h];rfl
   ·have J:=eV hs;rw[h,ov];simp only[dF,ew,gm,gE];rw[dI aaF,dI aaF,dI aaF,dO abL];simp only[qc,eJ,hE,mO,kQ,qo,dF,Tm.fu];rw[iD (by have:=eV f;omega)];simp only[dF]
    by_cases u:x=s
    ·subst u;rw[jK,dO rfl,iL VW VW];simp only[dF];rw[iL (by rw[Ty.hX];omega) (by rw[Ty.jz];omega)];simp only[dF];rw[iD (by have:=eV D;omega)];simp only[dF]
     by_cases v:y=.fn .nat (.fn x x)
     ·subst v;rw[jK,dO rfl,iD (by have:=eV K;omega)];simp only[dF]
      by_cases C:z=.nat
      ·subst C;rw[jK,dI aak,jk VW,wK.1 ⟨rfl,rfl,rfl⟩];rfl
      ·rw[lJ C,dO aak,wK.2 (λh=>C h.2.2)];rfl
     ·rw[lJ v,dI aak,dO trivial,wK.2 (λh=>v h.2.1)];rfl
    ·rw[lJ u,dI aak,dO trivial,wK.2 (λh=>u h.1)];rfl
  ·intro hn g hg d;rw[Tm.mK,dI aak,dI aak,Tm.vh];rfl
  ·intro a b j k hn g hg d;rw[Tm.dJ] at hn d;simp only[ea] at hn d;rw[fv,dI aaF,dI aaF,Tm.mK,dI aak,dI aak];simp only[dZ,Tm.er,ed (l:=[a,b]) aaF,dX];rw[oi [a,b] 0 [] (by intro x f;simp at f;rcases f with rfl|rfl<;>first|exact ih _ VW j g hg VW|exact ih _ VW k g hg VW) aaF];rcases EH j k hg with⟨e,he,h⟩|⟨s,t,h,hs,F⟩
   ·rw[h];rfl
   ·rw[h,ov];simp only[dF,ew,gm,gE];rw[dI aaF,dI aaF,dI aaF,dI aaF,dI aaF,dO abL];simp only[qc,eJ,hE,kQ,qo,dF];rw[iD (by have:=eV hs;omega)];simp only[dF]
    by_cases u:s=.nat
    ·subst u;rw[jK,dO rfl,iD (by have:=eV F;omega)];simp only[dF]
     by_cases v:t=.ir
     ·subst v;rw[jK,dI aak,Bb.1 ⟨rfl,rfl⟩]
     ·rw[lJ v,dO aak,Bb.2 (λh=>v h.2)];rfl
    ·rw[lJ u,dI aak,dO trivial,Bb.2 (λh=>u h.1)];rfl
  ·intro s a b c hs j k G hn g hg d;rw[Tm.dJ] at hn d;simp only[ea] at hn d;rw[fv,dI aaF,dI aaF,Tm.mK,dI aak,dI aak];simp only[dZ,Tm.er,ed (l:=[a,b,c]) aaF,dX];rw[oi [a,b,c] 0 [] (by intro x f;simp at f;rcases f with rfl|rfl|rfl<;>first|exact ih _ VW j g hg VW|exact ih _ VW k g hg VW|exact ih _ VW G g hg VW) aaF];rcases Cz j k G hg with⟨e,he,h⟩|⟨x,y,z,h,f,D,K⟩
   ·rw[h];rfl
   ·have J:=eV hs;rw[h,ov];simp only[dF,ew,gm,gE];rw[dI aaF,dI aaF,dI aaF,dI aaF,dI aaF,dI aaF,dO abL];simp only[qc,eJ,hE,mO,kQ,qo,dF,Tm.fu];rw[iD (by have:=eV f;omega)];simp only[dF]
    by_cases u:x=s
    ·subst u;rw[jK,dO rfl,iL VW VW];simp only[dF];rw[iL (by rw[Ty.oK];omega) (by rw[Ty.jz];omega)];simp only[dF];rw[iL (by rw[Ty.hX];omega) (by rw[Ty.jz,Ty.jz,Ty.oK];omega)];simp only[dF];rw[iD (by have:=eV D;omega)];simp only[dF]
     by_cases v:y=.fn .nat (.fn .ir (.fn x x))
     ·subst v;rw[jK,dO rfl,iD (by have:=eV K;omega)];simp only[dF]
      by_cases C:z=.ir
      ·subst C;rw[jK,dI aak,jk VW,wU.1 ⟨rfl,rfl,rfl⟩];rfl
      ·rw[lJ C,dO aak,wU.2 (λh=>C h.2.2)];rfl
     ·rw[lJ v,dI aak,dO trivial,wU.2 (λh=>v h.2.1)];rfl
    ·rw[lJ u,dI aak,dO trivial,wU.2 (λh=>u h.1)];rfl
  ·intro a b j k hn g hg d;rw[Tm.dJ] at hn d;simp only[ea] at hn d;rw[fv,dI aaF,dI aaF,Tm.mK,dI aak,dI aak];simp only[dZ,Tm.er,ed (l:=[a,b]) aaF,dX];rw[oi [a,b] 0 [] (by intro x f;simp at f;rcases f with rfl|rfl<;>first|exact ih _ VW j g hg VW|exact ih _ VW k g hg VW) aaF];rcases EH j k hg with⟨e,he,h⟩|⟨s,t,h,hs,F⟩
   ·rw[h];rfl
   ·have J:=eV hs;have O:=eV F;rw[h,ov];simp only[dF,ew,gm,gE];rw[dI aaF,dI aaF,dI aaF,dI aaF,dI aaF,dI aaF,dI aaF,dO abL];simp only[qc,eJ,hE,kQ,qo,dF];rw[yG VW VW];simp only[dF];rw[F1 (t:=Ty.pr s t) (by rw[Ty.vm];omega) (Ty.ok_two (.inl rfl) (Ty.k1 hs).1 (Ty.k1 F).1),Ty.vm];rw[NQ]
    split<;>rfl
  ·intro a j hn g hg d;rw[Tm.dJ] at hn d;simp only[ea] at hn d;rw[fv,dI aaF,dI aaF,Tm.mK,dI aak,dI aak];simp only[dZ,Tm.er,ed (l:=[a]) aaF,dX];rw[oi [a] 0 [] (by intro x f;simp at f;subst f;exact ih _ VW j g hg VW) aaF];rcases Dx j hg with⟨e,he,h⟩|⟨s,h,hs⟩
   ·rw[h];rfl
   ·rw[h,ov];simp only[dF,ew,gm,gE];rw[dI aaF,dI aaF,dI aaF,dI aaF,dI aaF,dI aaF,dI aaF,dI aaF,dO abL];simp only[qc,eJ,kQ,dF];rw[Oz]
    by_cases o:s.aiI=3
    ·obtain⟨x,y,rfl,f,D⟩:=Be hs o;rw[dI (by simp[Ty.pr,eE]),dO abL,dO (show(Ty.pr x y).aiI=3 from rfl)];rfl
    ·rw[dO (by simpa[eE] using o),dI o];rfl
  ·intro a j hn g hg d;rw[Tm.dJ] at hn d;simp only[ea] at hn d;rw[fv,dI aaF,dI aaF,Tm.mK,dI aak,dI aak];simp only[dZ,Tm.er,ed (l:=[a]) aaF,dX];rw[oi [a] 0 [] (by intro x f;simp at f;subst f;exact ih _ VW j g hg VW) aaF];rcases Dx j hg with⟨e,he,h⟩|⟨s,h,hs⟩
   ·rw[h];rfl
   ·rw[h,ov];simp only[dF,ew,gm,gE];rw[dI aaF,dI aaF,dI aaF,dI aaF,dI aaF,dI aaF,dI aaF,dI aaF,dO abL];simp only[qc,eJ,kQ,dF];rw[Nr]
    by_cases o:s.aiI=3
    ·obtain⟨x,y,rfl,f,D⟩:=Be hs o;rw[dI (by simp[Ty.pr,eE]),dI aaF,dO (show(Ty.pr x y).aiI=3 from rfl)];rfl
    ·rw[dO (by simpa[eE] using o),dI o];rfl
  ·intro hn g hg d;rw[Tm.mK,dI aak,dI aak,Tm.vh];rfl
end Go.fH
namespace Go.fH
open Go
def JE:gD=fh:=by
 funext n
 induction n with
 |zero=>rfl|succ n ih=>
  funext a b
  rw[gD,fh,ih]
def pD{a b:Ty}(h:a.aiK<=1000000000):gD FU a b=some (a.kV b):=by rw[JE];exact iD h
def tp(t:Ty):dK:=⟨t,(t.aiK:Int)⟩
def Tl:dK:=⟨.mk 0 [],0⟩
def Kr(r:Ty×Int):dK×Int:=if r.2=0 then(tp r.1,0)else(Tl,r.2)
@[simp] theorem q9(t:Ty):Kr (t,0)=(tp t,0):=dO rfl
def nj{t:Ty}{e:Int}(h:e≠0):Kr (t,e)=(Tl,e):=dI h
@[simp] theorem vi(t:Ty):(tp t).dM=t:=by rfl
@[simp] theorem Kg(t:Ty):(tp t).aiK=(t.aiK:Int):=by rfl
def lO{t:Ty}(h:t.err=0):mC t=some (tp t):=by
 unfold mC;rw[ll (by have:=eV h;omega),dO h];rfl
def Ai(k:Int){a b:Ty}(c:a.aiK<=1000000)(d:b.aiK<=1000000):rM k (tp a) (tp b)=some (if 64<1+a.aiK+b.aiK then(Tl,4)else(tp (.mk k [a,b]),0)):=by
 unfold rM;simp only[Kg,vi];rw[fR (a:=1) VW VW,fR VW VW]
 by_cases h:64<1+a.aiK+b.aiK
 ·rw[dO (by simp only[il];omega),dO h];rfl
 ·rw[dI (by simp only[il];omega),dI h];unfold tp;rw[Ty.BA]
  congr 3
def wv{a b:Ty}(c:a.aiK<=1000000):ka (tp a) (tp b)=some (a.kV b):=by
 unfold ka;simp only[dZ,Kg,vi]
 by_cases h:(a.aiK:Int)=(b.aiK:Int)
 ·rw[dO (by simpa[ei] using h),pD VW];rfl
 ·rw[dI (by simpa[ei] using h),lJ (by rintro rfl;exact h rfl)]
def rW{t x:Ty}{i:Int}(h:eb t.aiJ i=some x)(a:x.err=0):ji (tp t) i=some (tp x):=by
 unfold ji;simp only[vi,h,dF,lO a]
def wT:ph=some .nat:=rfl
def Lr:A_=some .ir:=rfl
def Vb{l:List Ty}(d:l.length<=1000):∀(i m:Nat) (k:Int) (as:List Ty),i<=l.length->i<m->oC ((Xz λ(a:Int) (v49:Int) (b:List Ty)=>
   if(rb a 0) then(
   dE (eb l a) λc=>
   some (.next ((fU .i64 a 1),4,[c,(Ty.mk v49 b)])))
   else(some (.Jq (a,v49,b)))):(Int×Int×(List Ty))->(Option (fZ (Int×Int×(List Ty)) (Ty)))) m ((i:Int)-1,k,as)=some (.inl (-1,((l.take i).foldr Ty.fn (.mk k as)).aiI,((l.take i).foldr Ty.fn (.mk k as)).aiJ))
 |0,m+1,k,as,_,_=>by
  rw[rf];simp only[Xz];rw[dI (by rw[jc];omega)];rfl
 |i+1,m+1,k,as,hi,hm=>by
  rw[rf];simp only[Xz];rw[dO (by rw[jc];omega),show((i+1:Nat):Int)-1=(i:Int) by omega,jN,qL VW];simp only[dF,fw];rw[fY VW VW];have h:=Vb d i m 4 [l[i],.mk k as] VW VW;rw[h,ab7,qL VW];simp only[af',afD,List.foldr_cons,List.foldr_nil];rfl
def F6(t:Ty)(l:List Ty)(a:l.length<=1000):tN t l=some (l.foldr Ty.fn t):=by
 unfold tN;simp only[dZ];rw[gC,fY VW VW];have h:=Vb a l.length FU t.aiI t.aiJ (js _) (aaM VW);rw[h,dF];rw[List.take_length]
 have e:Ty.mk t.aiI t.aiJ=t:=by cases t;rfl
 rw[e];generalize List.foldr Ty.fn t l=r;cases r;rfl
def Sk(a b t:Ty):tN t [a,b]=some (.fn a (.fn b t)):=F6 t [a,b] aaF
def SG(a b c t:Ty):tN t [a,b,c]=some (.fn a (.fn b (.fn c t))):=F6 t [a,b,c] aaF
def sJ:List Ty->dK×dK×dK
 |[]=>(Tl,Tl,Tl)|[a]=>(tp a,Tl,Tl)|[a,b]=>(tp a,tp b,Tl)|a::b::c::_=>(tp a,tp b,tp c)
def FW(x:dK)(k:Int):iV x k=some (ei x.dM.aiI k):=rfl
def Gd(t:Ty)(k:Int):ei (tp t).dM.aiI k=decide (t.aiI=k):=by
 rw[vi];exact DJ _ _
def Gy(s:Ty)(l:List Tm)(i:Int):pw (.mk 6 i s l)=some (.fn .nat (.fn s s)):=by
 unfold pw;rw[dI aaF];simp only[wT,dF];rw[Sk];rfl
def EZ(s:Ty)(l:List Tm)(i:Int):pw (.mk 9 i s l)=some (.fn .nat (.fn .ir (.fn s s))):=by
 unfold pw;rw[dO aaF];simp only[wT,Lr,dF];rw[SG];rfl
section
variable{s x y z:Ty} {i:Int} {l:List Tm}
def Wh(j:x.err=0)(n:y.err=0):gf (.mk 3 i s l) (sJ [x,y])=some (Kr (hV 3 s [x,y])):=by
 unfold gf;rw[show jF (Tm.mk 3 i s l).aiI=some [] from rfl];simp only[dF];rw[dI aaF,dO abL];simp only[dZ,sJ,FW,dF,Gd]
 by_cases d:x.aiI=4
 ·obtain⟨a,b,rfl,f,k⟩:=Ll j d;rw[dO abL,rW (t:=.fn a b) (x:=a) rfl f];simp only[dF];rw[wv (by have:=eV f;omega)];simp only[dF]
  by_cases c:a=y
  ·subst c;rw[jK,dI aaF,rW (t:=.fn a b) (x:=b) rfl k,(Bz (x:=.fn a b) (y:=a)).1 ⟨rfl,rfl⟩];simp only[dF];rw[show(Ty.fn a b).aiJ.getD 1 .z=b from rfl,q9]
  ·rw[lJ c,dO aaF,(Bz (x:=.fn a b) (y:=y)).2 (λh=>c h.2),nj aak];rfl
 ·rw[dI (by simpa using d),dO trivial,Bz.2 (λh=>d h.1),nj aak];rfl
def RY(a:x.err=0)(b:y.err=0):gf (.mk 10 i s l) (sJ [x,y])=some (Kr (hV 10 s [x,y])):=by
 unfold gf;rw[show jF (Tm.mk 10 i s l).aiI=some [] from rfl];simp only[dF];rw[dI aaF,dI aaF,dI aaF,dO abL];simp only[sJ];rw[Ai 3 (by have:=eV a;omega) (by have:=eV b;omega),NQ]
 split
 ·simp only[dN];rw[nj aak]
 ·simp only[dN];rw[q9];rfl
def T5(d:x.err=0):gf (.mk 11 i s l) (sJ [x])=some (Kr (hV 11 s [x])):=by
 unfold gf;rw[show jF (Tm.mk 11 i s l).aiI=some [] from rfl];simp only[dF];rw[dI aaF,dI aaF,dI aaF,dI aaF];simp only[sJ,FW,dF,Gd];rw[Oz]
 by_cases c:x.aiI=3
 ·obtain⟨a,b,rfl,f,h⟩:=Be d c;rw[dO abL,dO abL,rW (t:=.pr a b) (x:=a) rfl f,dO (show(Ty.pr a b).aiI=3 from rfl)];simp only[dF];rw[show(Ty.pr a b).aiJ.getD 0 .z=a from rfl,q9]
 ·rw[dI (by simpa using c),dI c,nj aak];rfl
def V_(d:x.err=0):gf (.mk 12 i s l) (sJ [x])=some (Kr (hV 12 s [x])):=by
 unfold gf;rw[show jF (Tm.mk 12 i s l).aiI=some [] from rfl];simp only[dF];rw[dI aaF,dI aaF,dI aaF,dI aaF];simp only[sJ,FW,dF,Gd];rw[Nr]
 by_cases c:x.aiI=3
 ·obtain⟨a,b,rfl,h,f⟩:=Be d c;rw[dO abL,dI aaF,rW (t:=.pr a b) (x:=b) rfl f,dO (show(Ty.pr a b).aiI=3 from rfl)];simp only[dF];rw[show(Ty.pr a b).aiJ.getD 1 .z=b from rfl,q9]
 ·rw[dI (by simpa using c),dI c,nj aak];rfl
end
end Go.fH
namespace Go.fH
open Go
section
variable{s x y z:Ty} {i:Int} {l:List Tm}
def AD{k t:Int}(a:jF k=some [t])(b:Ty.err (.mk t [])=0):gf (.mk k i s l) (sJ [])=some (tp (.mk t []),0):=by
 unfold gf;rw[show(Tm.mk k i s l).aiI=k from rfl,a,dF,dO (show o0 (ez [t]) 0=true by rfl),show Ag [t] 1 (ez [t])=some ([]:List Int)from rfl];simp only[dF,ed (l:=([]:List Int)) aaF,dX,dZ,pj,ew,eJ,kQ];rw[lO b];rfl
def Sj:gf (.mk 4 i s l) (sJ [])=some (Kr (hV 4 s [])):=AD rfl Ty.fb
def Wu:gf (.mk 7 i s l) (sJ [])=some (Kr (hV 7 s [])):=AD rfl Ty.mo
def SL:gf (.mk 13 i s l) (sJ [])=some (Kr (hV 13 s [])):=AD rfl Ty.IU
def Su(b:x.err=0):gf (.mk 5 i s l) (sJ [x])=some (Kr (hV 5 s [x])):=by
 unfold gf;rw[show jF (Tm.mk 5 i s l).aiI=some [1,1] from rfl,dF,dO (show o0 (ez ([1,1]:List Int)) 0=true by rfl),show Ag ([1,1]:List Int) 1 (ez ([1,1]:List Int))=some [1] from rfl];simp only[dF,ed (l:=([1]:List Int)) aaF,dX,dZ,sJ];rw[fp,dO abL];simp only[FW,dF,Gd]
 by_cases a:x.aiI=1
 ·have hn:=(vq b).1 a;subst hn;rw[xY abL,dI aak];simp only[dF,fw,pj,ew,eJ,kQ];rw[show mC (Ty.mk 1 [])=some (tp .nat)from lO Ty.fb,He.1 rfl,q9];rfl
 ·rw[Ju a,dO aak,He.2 (λh=>a ((vq b).2 h)),nj aak];rfl
def Sb(c:x.err=0)(d:y.err=0):gf (.mk 8 i s l) (sJ [x,y])=some (Kr (hV 8 s [x,y])):=by
 unfold gf;rw[show jF (Tm.mk 8 i s l).aiI=some [2,1,2] from rfl,dF,dO (show o0 (ez ([2,1,2]:List Int)) 0=true by rfl),show Ag ([2,1,2]:List Int) 1 (ez ([2,1,2]:List Int))=some [1,2] from rfl];simp only[dF,ed (l:=([1,2]:List Int)) aaF,dX,dZ,sJ];rw[fp,dO abL];simp only[FW,dF,Gd]
 by_cases b:x.aiI=1
 ·have hn:=(vq c).1 b;subst hn;rw[xY abL,dI aak];simp only[dF,fw];rw[fp,dI aak,dO abL]
  by_cases a:y.aiI=2
  ·have hn:=(Ep d).1 a;subst hn;rw[xY abL,dI aak];simp only[dF,fw,pj,ew,eJ,kQ];rw[show mC (Ty.mk 2 [])=some (tp .ir)from lO Ty.mo,Bb.1 ⟨rfl,rfl⟩,q9];rfl
  ·rw[Ju a,dO aak,Bb.2 (λh=>a ((Ep d).2 h.2)),nj aak];rfl
 ·rw[Ju b,dO aak,Bb.2 (λh=>b ((vq c).2 h.1)),nj aak];rfl
def Vy(hs:s.err=0)(d:x.err=0)(f:y.err=0)(j:z.err=0):gf (.mk 6 i s l) (sJ [x,y,z])=some (Kr (hV 6 s [x,y,z])):=by
 unfold gf;rw[show jF (Tm.mk 6 i s l).aiI=some [] from rfl];simp only[dF];rw[dI aak,dI aaF,dO abL];simp only[dZ,sJ,Tm.fu,lO hs,dF];rw[wv (by have:=eV d;omega)];simp only[dF]
 by_cases a:x=s
 ·subst a;rw[jK,dO rfl,Gy];simp only[dF,vi];rw[pD (by have:=eV f;omega)];simp only[dF]
  by_cases b:y=.fn .nat (.fn x x)
  ·subst b;rw[jK,dO rfl];simp only[FW,dF];rw[show e_ (ei (Tm.mk 6 i x l).aiI 9) (2:Int) 1=1 from rfl];simp only[Gd]
   by_cases c:z=.nat
   ·subst c;rw[xY abL,dI aak,wK.1 ⟨rfl,rfl,rfl⟩,q9]
   ·rw[Ju (λh=>c ((vq j).1 h)),dO aak,wK.2 (λh=>c h.2.2),nj aak];rfl
  ·rw[lJ b,dI aak,dO trivial,wK.2 (λh=>b h.2.1),nj aak];rfl
 ·rw[lJ a,dI aak,dO trivial,wK.2 (λh=>a h.1),nj aak];rfl
def SW(hs:s.err=0)(d:x.err=0)(f:y.err=0)(j:z.err=0):gf (.mk 9 i s l) (sJ [x,y,z])=some (Kr (hV 9 s [x,y,z])):=by
 unfold gf;rw[show jF (Tm.mk 9 i s l).aiI=some [] from rfl];simp only[dF];rw[dI aak,dI aaF,dO abL];simp only[dZ,sJ,Tm.fu,lO hs,dF];rw[wv (by have:=eV d;omega)];simp only[dF]
 by_cases a:x=s
 ·subst a;rw[jK,dO rfl,EZ];simp only[dF,vi];rw[pD (by have:=eV f;omega)];simp only[dF]
  by_cases b:y=.fn .nat (.fn .ir (.fn x x))
  ·subst b;rw[jK,dO rfl];simp only[FW,dF];rw[show e_ (ei (Tm.mk 9 i x l).aiI 9) (2:Int) 1=2 from rfl];simp only[Gd]
   by_cases c:z=.ir
   ·subst c;rw[xY abL,dI aak,wU.1 ⟨rfl,rfl,rfl⟩,q9]
   ·rw[Ju (λh=>c ((Ep j).1 h)),dO aak,wU.2 (λh=>c h.2.2),nj aak];rfl
  ·rw[lJ b,dI aak,dO trivial,wU.2 (λh=>b h.2.1),nj aak];rfl
 ·rw[lJ a,dI aak,dO trivial,wU.2 (λh=>a h.1),nj aak];rfl
end
def ZZ(p:dK×dK×dK):Int×(List Ty)×Int×Int×(List Ty)×Int×Int×(List Ty)×Int:=
 (p.1.dM.aiI,p.1.dM.aiJ,p.1.aiK,p.2.1.dM.aiI,p.2.1.dM.aiJ,p.2.1.aiK,p.2.2.dM.aiI,p.2.2.dM.aiJ,p.2.2.aiK)
def Ga{n:Nat}{g:List Ty}:∀(l:List Tm) (d:List Ty),d.length+l.length<=3->(∀a∈l,eM n (g.map tp) a=some (Kr (a.ty g)))->eY (λ(f:Int) (A:Tm)=>(un9 λ(i:Int) (j:List Ty) (v218:Int) (k:Int) (o:List Ty) (q:Int) (v222:Int) (s:List Ty) (w:Int)=>
   dS (eM n (g.map tp) A) λc x=>
   if(eE x 0) then(
   some (.ret ((dK.mk (Ty.mk 0 []) 0),x)))
   else(if(ei f 0) then(
   some (.next (c.dM.aiI,c.dM.aiJ,c.aiK,k,o,q,v222,s,w)))
   else(if(ei f 1) then(
   some (.next (i,j,v218,c.dM.aiI,c.dM.aiJ,c.aiK,v222,s,w)))
   else(gu (ei f 2)<|some (.next (i,j,v218,k,o,q,c.dM.aiI,c.dM.aiJ,c.aiK)))))):Int->Tm->(Int×(List Ty)×Int×Int×(List Ty)×Int×Int×(List Ty)×Int)->(Option (fZ (Int×(List Ty)×Int×Int×(List Ty)×Int×Int×(List Ty)×Int) (dK×Int)))) l d.length (ZZ (sJ d))=some (match Tm.vh l g with|.inl ts=>.inl (ZZ (sJ (d++ts)))|.inr e=>.inr (Tl,e))
 |[],d,_,_=>by simp[Tm.vh]|a::l,d,B,h=>by
  simp only[pM] at B;rw[fp,Tm.vh];have D:=h a aaF;simp only[ZZ,un9];rw[D]
  by_cases y:(a.ty g).2=0
  ·rw[zh y,qg rfl,q9,dN,dI aak];generalize (a.ty g).1=t
   have go:∀C:List Ty,C=d++[t]->(some (fZ.next (ZZ (sJ C))):Option (fZ (Int×(List Ty)×Int×Int×(List Ty)×Int×Int×(List Ty)×Int) (dK×Int)))=some (fZ.next (ZZ (sJ (d++[t])))):=λC e=>by rw[e]
   have ih:=Ga l (d++[t]) aby (λb F=>h b (by simp[F]));rw[qt,pM,EG] at ih
   have fin:(some (match Tm.vh l g with|.inl ts=>.inl (ZZ (sJ (d++[t]++ts)))|.inr e=>.inr (Tl,e)):Option ((Int×(List Ty)×Int×Int×(List Ty)×Int×Int×(List Ty)×Int)⊕(dK×Int)))=some (match(match Tm.vh l g with|.inl ts=>Sum.inl (t::ts)|.inr e=>Sum.inr e:List Ty⊕Int)with|.inl ts=>.inl (ZZ (sJ (d++ts)))|.inr e=>.inr (Tl,e)):=by
    cases Tm.vh l g with
    |inl ts=>simp|inr e=>rfl
   match d,B with
   |[],_=>
    rw[dO abL];exact ih.trans fin
   |[u],_=>
    rw[dI aaF,dO abL];exact ih.trans fin
   |[u,v],_=>
    rw[dI aaF,dI aaF,show ei (([u,v].length:Nat):Int) 2=true from rfl,dX];exact ih.trans fin
   |_::_::_::_,B=>simp at B;omega
  ·rw[p0 y];generalize a.ty g=r at y;obtain⟨t,e⟩:=r;simp only at y;rw[nj y,dN,dO (by simpa[eE] using y)];rfl
def XT(p:dK×dK×dK):((dK.mk (Ty.mk p.1.dM.aiI p.1.dM.aiJ) p.1.aiK),(dK.mk (Ty.mk p.2.1.dM.aiI p.2.1.dM.aiJ) p.2.1.aiK),(dK.mk (Ty.mk p.2.2.dM.aiI p.2.2.dM.aiJ) p.2.2.aiK))=p:=by
 have e:∀t:Ty,Ty.mk t.aiI t.aiJ=t:=λt=>by cases t;rfl
 obtain⟨⟨a,b⟩,⟨c,d⟩,⟨h,f⟩⟩:=p;simp only[e]
def k_{n:Nat}{g:List Ty}{k i:Int}{s:Ty}{l:List Tm}(q:k≠1)(r:k≠2)(t:l.length<=3)(h:∀a∈l,eM n (g.map tp) a=some (Kr (a.ty g)))
  (hn:∀ts,Tm.vh l g=.inl ts->gf (.mk k i s l) (sJ ts)=some (Kr (hV k s ts))):eM (n+1) (g.map tp) (.mk k i s l)=some (Kr ((Tm.mk k i s l).ty g)):=by
 rw[eM,dI (by simpa[ei] using q),dI (by simpa[ei] using r),Tm.mK,dI q,dI r];simp only[dZ,Tm.er];rw[ed VW,dX];have f:=Ga l [] (by simpa using t) h;refine(congrArg (λo=>dE o _) f).trans ?_;simp only[dF];cases j:Tm.vh l g with
 |inr e=>
  rw[OO]
  have he:e≠0:=by
   rcases Bj l g with⟨u,d,c⟩|⟨ts,d,_⟩
   ·rw[j] at c;cases c;exact d
   ·rw[j] at d;cases d
  rw[nj he];rfl
 |inl ts=>
  simp only[qc,ew,ov,ZZ,un9];rw[XT,hn ts j,show∀p:dK×Int,(dS (some p) λa b=>some (a,b))=some p fromλ_=>rfl]
end Go.fH
namespace Go.fH
open Go
def z'(g:List Ty)(s:Ty):g.map tp++[tp s]=(g++[s]).map tp:=aaF
def Ft:∀(n:Nat) (t:Tm),t.aiK<=n->t.ok=true->∀g,im g->g.length+t.aiK<=1000000->eM n (g.map tp) t=some (Kr (t.ty g)):=by
 intro n
 induction n with
 |zero=>intro t h;have:=t.eC;omega
 |succ n ih=>
  intro t hn C
  have one:∀{a:Tm} {g:List Ty} {ts:List Ty},a.ok=true->im g->Tm.vh [a] g=.inl ts->∃x,ts=[x]/\x.err=0:=by
   intro a g ts j hg h;rcases Dx j hg with⟨e,_,u⟩|⟨x,u,f⟩<;>rw[h] at u<;>cases u;exact⟨x,rfl,f⟩
  have two:∀{a b:Tm} {g:List Ty} {ts:List Ty},a.ok=true->b.ok=true->im g->Tm.vh [a,b] g=.inl ts->∃x y,ts=[x,y]/\x.err=0/\y.err=0:=by
   intro a b g ts j k hg h;rcases EH j k hg with⟨e,_,u⟩|⟨x,y,u,f,l⟩<;>rw[h] at u<;>cases u;exact⟨x,y,rfl,f,l⟩
  have three:∀{a b c:Tm} {g:List Ty} {ts:List Ty},a.ok=true->b.ok=true->c.ok=true->im g->Tm.vh [a,b,c] g=.inl ts->∃x y z,ts=[x,y,z]/\x.err=0/\y.err=0/\z.err=0:=by
   intro a b c g ts j k o hg h;rcases Cz j k o hg with⟨e,_,u⟩|⟨x,y,z,u,f,l,v⟩<;>rw[h] at u<;>cases u;exact⟨x,y,z,rfl,f,l,v⟩
  refine Tm.oB (p:=λt=>t.aiK<=n+1->∀g,im g->g.length+t.aiK<=1000000->eM (n+1) (g.map tp) t=some (Kr (t.ty g))) ?_ ?_ ?_ ?_ ?_ ?_ ?_ ?_ ?_ ?_ ?_ ?_ ?_ t C hn
  ·intro i _ g hg k;rw[Tm.dJ] at k;rw[eM,dO abL,Tm.mK,dO rfl];simp only[Tm.gY,gC,MD]
   by_cases hi:(i:Int)<(g.length:Int)
   ·rw[dI (by simp only[jc];omega),dO hi];rw[fY (a:=(g.length:Int)) VW VW,fY VW VW]
    have w:g.length-1-i<g.length:=VW
    have:eb (g.map tp) ((g.length:Int)-1-(i:Int))=some (tp g[g.length-1-i]):=by
     unfold eb;rw[dO VW,show((g.length:Int)-1-(i:Int)).toNat=g.length-1-i by omega,Df,qL w];rfl
    rw[this];simp only[dF,CB];rw[O4,qL w];exact congrArg some (q9 _).symm
   ·rw[dO (by simp only[jc];omega),dI hi,nj aak];rfl
  ·intro s b hs k hn g hg d;rw[Tm.dJ] at hn d;simp only[ea] at hn d;rw[eM,dI aaF,dO abL,Tm.mK,dI aak,dO rfl,Tm.tyH];simp only[Tm.fu,Tm.er,lO hs,eJ,kQ,dF,jl];rw[fM aby,dX,z',ih b VW k (g++[s]) (hg.app hs) aby];have B:=λh=>(qQ _ b (js _) k (g++[s]) (hg.app hs) (b.ty (g++[s])).1 (zh h)).2;generalize b.ty (g++[s])=q at B;obtain⟨r,e⟩:=q;simp only[Mx]
   by_cases A:e=0
   ·subst A;have D:r.err=0:=B rfl;have F:=eV hs;have G:=eV D;rw[q9,dN,dI aak,dI aaF,Ai 4 VW VW]
    by_cases o:64<1+s.aiK+r.aiK
    ·rw[dO o,dO o,nj aak];rfl
    ·rw[dI o,dI o,q9];rfl
   ·rw[nj A,dN,dO (by simpa[eE] using A),dO A,nj A];rfl
  ·intro a b j k hn g hg d;rw[Tm.dJ] at hn d;simp only[ea] at hn d;refine k_ aak aak aaF (by intro x f;simp at f;rcases f with rfl|rfl<;>first|exact ih _ VW j g hg VW|exact ih _ VW k g hg VW) (λts h=>?_);obtain⟨x,y,rfl,f,l⟩:=two j k hg h;exact Wh f l
  ·intro hn g hg d;exact k_ aak aak aaF aaF (λts h=>by rw[Tm.vh] at h;cases h;exact Sj)
  ·intro a j hn g hg d;rw[Tm.dJ] at hn d;simp only[ea] at hn d;refine k_ aak aak aaF (by intro x f;simp at f;subst f;exact ih _ VW j g hg VW) (λts h=>?_);obtain⟨x,rfl,f⟩:=one j hg h;exact Su f
  ·intro s a b c hs j k o hn g hg d;rw[Tm.dJ] at hn d;simp only[ea] at hn d;refine k_ aak aak aaF (by intro x f;simp at f;rcases f with rfl|rfl|rfl<;>first|exact ih _ VW j g hg VW|exact ih _ VW k g hg VW|exact ih _ VW o g hg VW) (λts h=>?_);obtain⟨x,y,z,rfl,f,l,v⟩:=three j k o hg h;exact Vy hs f l v
  ·intro hn g hg d;exact k_ aak aak aaF aaF (λts h=>by rw[Tm.vh] at h;cases h;exact Wu)
  ·intro a b j k hn g hg d;rw[Tm.dJ] at hn d;simp only[ea] at hn d;refine k_ aak aak aaF (by intro x f;simp at f;rcases f with rfl|rfl<;>first|exact ih _ VW j g hg VW|exact ih _ VW k g hg VW) (λts h=>?_);obtain⟨x,y,rfl,f,l⟩:=two j k hg h;exact Sb f l
  ·intro s a b c hs j k o hn g hg d;rw[Tm.dJ] at hn d;simp only[ea] at hn d;refine k_ aak aak aaF (by intro x f;simp at f;rcases f with rfl|rfl|rfl<;>first|exact ih _ VW j g hg VW|exact ih _ VW k g hg VW|exact ih _ VW o g hg VW) (λts h=>?_);obtain⟨x,y,z,rfl,f,l,v⟩:=three j k o hg h;exact SW hs f l v
  ·intro a b j k hn g hg d;rw[Tm.dJ] at hn d;simp only[ea] at hn d;refine k_ aak aak aaF (by intro x f;simp at f;rcases f with rfl|rfl<;>first|exact ih _ VW j g hg VW|exact ih _ VW k g hg VW) (λts h=>?_);obtain⟨x,y,rfl,f,l⟩:=two j k hg h;exact RY f l
  ·intro a j hn g hg d;rw[Tm.dJ] at hn d;simp only[ea] at hn d;refine k_ aak aak aaF (by intro x f;simp at f;subst f;exact ih _ VW j g hg VW) (λts h=>?_);obtain⟨x,rfl,f⟩:=one j hg h;exact T5 f
  ·intro a j hn g hg d;rw[Tm.dJ] at hn d;simp only[ea] at hn d;refine k_ aak aak aaF (by intro x f;simp at f;subst f;exact ih _ VW j g hg VW) (λts h=>?_);obtain⟨x,rfl,f⟩:=one j hg h;exact V_ f
  ·intro hn g hg d;exact k_ aak aak aaF aaF (λts h=>by rw[Tm.vh] at h;cases h;exact SL)
def sO{t:Tm}{g:List Ty}(a:t.ok=true)(hg:im g)(b:g.length+t.aiK<=1000000):eM FU (g.map tp) t=some (Kr (t.ty g)):=
 Ft FU t (by have:=fD;omega) a g hg b
noncomputable def nM (t:Tm) (g:List Ty) (k:Int):Int:=if(t.ty g).2=0/\(t.ty g).1.aiI≠k then 7 else(t.ty g).2
def J6{t:Tm}{g:List Ty}(k:Int)(c:t.ok=true)(hg:im g)(d:g.length+t.aiK<=1000000):mi (g.map tp) t k=some (nM t g k):=by
 unfold mi nM;rw[sO c hg d];generalize t.ty g=q;obtain⟨r,e⟩:=q
 by_cases a:e=0
 ·subst a;rw[q9,dN];simp only[dZ];rw[dO abL,FW,dF,Gd]
  by_cases b:r.aiI=k
  ·rw[xY b,dI aak,dI (λh=>h.2 b)]
  ·rw[Ju b,dO aak,dO ⟨trivial,b⟩]
 ·rw[nj a,dN];simp only[dZ];rw[dI (by simpa[ei] using a),dI aak,dI (λh=>a h.1)]
def xA{t:Tm}{g:List Ty}(a:t.ok=true)(hg:im g)(b:g.length+t.aiK<=1000000):iH (g.map tp) t=some (nM t g 1):=by
 unfold iH;rw[J6 1 a hg b];rfl
mutual
noncomputable def Fm.va:Fm->List Ty->Int
 |.mk k s ts l,g=>if fk (ts.map λt=>nM t g 1)=0 then Fm.Ux l (if h7 k then g++[s] else g)else fk (ts.map λt=>nM t g 1)
noncomputable def Fm.Ux:List Fm->List Ty->Int
 |[],_=>0|f::l,g=>if f.va g=0 then Fm.Ux l g else f.va g
end
def Fm.Rp(g:List Ty):∀l:List Fm,Fm.Ux l g=fk (l.map λf=>f.va g)
 |[]=>by rw[Fm.Ux];rfl|f::l=>by rw[Fm.Ux,Fm.Rp g l];rfl
def Fm.uw(k:Int)(s:Ty)(ts:List Tm)(l:List Fm)(g:List Ty):(Fm.mk k s ts l).va g=if fk (ts.map λt=>nM t g 1)=0 then fk (l.map λf=>f.va (if h7 k then g++[s] else g))else fk (ts.map λt=>nM t g 1):=by
 rw[Fm.va,Fm.Rp]
def z_{t:Tm}{g:List Ty}(a:t.ok=true)(hn:t.aiK<=4096)(hg:im g)(b:g.length<=900000):po g t=some (t.ty g):=by
 unfold po;have hw:=t.iv a;rw[k9 VW]
 have he:t.err=0:=by unfold Tm.err;rw[dO a,dI VW]
 rw[he];simp only[dF];rw[dI aak,AM FU t (by have:=fD;omega) a g hg VW];rfl
def Kh{t:Tm}{g:List Ty}(f:t.ok=true)(hn:t.aiK<=4096)(hg:im g)(i:g.length<=900000):(dS (po g t) λd a=>if(eE a 0) then(some (.ret a))else(if(eE d.aiI 1) then(some (.ret 7))else(some (.next ()))):Option (fZ Unit Int))=
   if nM t g 1≠0 then some (.ret (nM t g 1))else some (.next ()):=by
 rw[z_ f hn hg i];unfold nM;generalize t.ty g=q;obtain⟨r,e⟩:=q;simp only[dN,eo]
 by_cases b:e=0
 ·subst b
  by_cases c:r.aiI=1
  ·rw[dI aaF,dI (by simp[c]),dI (show¬((0:Int)=0/\r.aiI≠1)fromλh=>h.2 c),dI aaF]
  ·rw[dI aaF,dO c,dO (show(0:Int)=0/\r.aiI≠1 from⟨rfl,c⟩),dO aak]
 ·rw[dO b,dI (show¬(e=0/\r.aiI≠1)fromλh=>b h.1),dO b]
def tc{e:Int}:(dE (some e) λa=>if(eE a 0) then(some (.ret a))else(some (.next ())):Option (fZ Unit Int))=if e≠0 then some (.ret e)else some (.next ()):=by
 rw[dF]
 by_cases h:e=0
 ·subst h;rfl
 ·rw[dO (by simpa[eE] using h),dO h]
def vy{l:List Int}{k:Unit⊕Int->Option Int}(h:k=fO (λ_=>some 0) (λr=>some r)):dE (if fk l=0 then some (.inl ())else some (.inr (fk l))) k=some (fk l):=by
 subst h
 by_cases h:fk l=0
 ·rw[dO h,h];rfl
 ·rw[dI h];rfl
def AF(f:Fm)(w:f.ok=true):∀n,f.aiK<=n->∀g,im g->g.length+f.aiK<=900000->f.aiK<=4096->mR n g f=some (f.va g):=by
 refine Fm.oB (p:=λf=>∀n,f.aiK<=n->∀g,im g->g.length+f.aiK<=900000->f.aiK<=4096->mR n g f=some (f.va g)) ?_ ?_ ?_ f w
 ·intro a b o v n hn g hg c d;rw[Fm.dJ] at hn c d;simp only[ea] at hn c d;obtain⟨n,rfl⟩:∃m,n=m+1:=⟨n-1,VW⟩;rw[mR,Fm.uw];simp only[dZ,Fm.hZ,Fm.er,Fm.eD,lK,dF]
  rw[ed aaF,dX,mj (λt=>nM t g 1) [a,b] 0 (λj x i=>by
   simp only[lS,SM,ss] at i;rcases i with rfl|rfl
   ·exact Kh o VW hg VW
   ·exact Kh v VW hg VW)]
  rw[show h7 1=false from rfl]
  by_cases h:fk ([a,b].map λt=>nM t g 1)=0
  ·rw[dO h,dO h];rfl
  ·rw[dI h,dI h];rfl
 ·intro k a b q o v l r n hn g hg c d;rw[Fm.dJ] at hn c d;simp only[ea] at hn c d;obtain⟨n,rfl⟩:∃m,n=m+1:=⟨n-1,VW⟩
  have u:h7 k=false:=by rcases q with rfl|rfl<;>rfl
  rw[mR,Fm.uw];simp only[dZ,Fm.hZ,Fm.er,Fm.eD,lK,dF,u,l',fk]
  rw[ed aaF,dX,pj,dF,ew,dI aak,dO trivial,ed aaF,dX,mj (λf=>f.va g) [a,b] 0 (λj x i=>by
   simp only[lS,SM,ss] at i;rcases i with rfl|rfl
   ·rw[l n VW g hg VW VW];exact tc
   ·rw[r n VW g hg VW VW];exact tc)]
  exact vy rfl
 ·intro k s a q hs o l n hn g hg c d;rw[Fm.dJ] at hn c d;simp only[ea] at hn c d;obtain⟨n,rfl⟩:∃m,n=m+1:=⟨n-1,VW⟩
  have u:h7 k=true:=by rcases q with rfl|rfl|rfl|rfl<;>rfl
  rw[mR,Fm.uw];simp only[dZ,Fm.hZ,Fm.er,Fm.eD,Fm.fu,lK,dF,u,l',fk];rw[ed aaF,dX,pj,dF,ew];simp only[if_true]
  rw[fM aby,dX,jl,ed aaF,dX,mj (λf=>f.va (g++[s])) [a] 0 (λj x i=>by
   simp only[lS,SM,ss] at i;subst i
   rw[l n VW (g++[s]) (hg.app hs) aby VW];exact tc)]
  exact vy rfl
def AB{g:List Ty}{s:Ty}(hs:s.err=0)(a:g.length<=900000):kp (g.map tp) [s]=some ((g++[s]).map tp):=by
 unfold kp mV;simp only[dZ];rw[ed aaF,dX,fp,lO hs];simp only[dF];rw[fM aaF,dX];simp only[dF,fw,pj,ew,jl,qc];rw[fM aby,dX,z']
def Gr{t:Tm}{g:List Ty}(b:t.ok=true)(hn:t.aiK<=4096)(hg:im g)(c:g.length<=900000):(dE (iH (g.map tp) t) λa=>if(eE a 0) then(some (.ret a))else(some (.next ())):Option (fZ Unit Int))=if nM t g 1≠0 then some (.ret (nM t g 1))else some (.next ()):=by
 rw[xA b hg VW];exact tc
def Et(f:Fm)(C:f.ok=true):∀n,f.aiK<=n->∀g,im g->g.length+f.aiK<=900000->f.aiK<=4096->fB n (g.map tp) f=some (f.va g):=by
 refine Fm.oB (p:=λf=>∀n,f.aiK<=n->∀g,im g->g.length+f.aiK<=900000->f.aiK<=4096->fB n (g.map tp) f=some (f.va g)) ?_ ?_ ?_ f C
 ·intro a b v A n hn g hg c d;rw[Fm.dJ] at hn c d;simp only[ea] at hn c d;obtain⟨n,rfl⟩:∃m,n=m+1:=⟨n-1,VW⟩;rw[fB,Fm.uw];simp only[dZ,Fm.hZ,Fm.er]
  rw[dI aaF,dI aaF,dI aaF,ed aaF,dX,mj (λt=>nM t g 1) [a,b] 0 (λj x i=>by
   simp only[lS,SM,ss] at i;rcases i with rfl|rfl
   ·exact Gr v VW hg VW
   ·exact Gr A VW hg VW)]
  rw[vy rfl]
  by_cases h:fk ([a,b].map λt=>nM t g 1)=0
  ·rw[dO h,h];rfl
  ·rw[dI h]
 ·intro k a b o v A q w n hn g hg c d;rw[Fm.dJ] at hn c d;simp only[ea] at hn c d;obtain⟨n,rfl⟩:∃m,n=m+1:=⟨n-1,VW⟩
  have y:h7 k=false:=by rcases o with rfl|rfl<;>rfl
  have D:e_ (ei k 4) true (ei k 5)=false:=by rcases o with rfl|rfl<;>rfl
  have k2:e_ (ei k 6) true (ei k 7)=false:=by rcases o with rfl|rfl<;>rfl
  have F:e_ (ei k 2) true (ei k 3)=true:=by rcases o with rfl|rfl<;>rfl
  rw[fB,Fm.uw];simp only[dZ,Fm.hZ,Fm.er,y,l',fk];rw[dI (by simp only[Fm.eD,D];decide),dI (by simp only[Fm.eD,k2];decide),dO (by simp only[Fm.eD,F])];simp only[if_true,re,lG]
  rw[ed aaF,dX,mj (λf=>f.va g) [a,b] 0 (λj x i=>by
   simp only[lS,SM,ss] at i;rcases i with rfl|rfl
   ·rw[q n VW g hg VW VW];exact tc
   ·rw[w n VW g hg VW VW];exact tc)]
  exact vy rfl
 ·intro k s a o hs v q n hn g hg c d;rw[Fm.dJ] at hn c d;simp only[ea] at hn c d;obtain⟨n,rfl⟩:∃m,n=m+1:=⟨n-1,VW⟩
  have y:h7 k=true:=by rcases o with rfl|rfl|rfl|rfl<;>rfl
  rw[fB,Fm.uw];simp only[dZ,Fm.hZ,Fm.er,Fm.fu,y,l',fk,AB hs (show g.length<=900000 by omega),dF,if_true]
  have fin:(gu (eP [a])<|dE (eY (λ(B:Int) (u:Fm)=>(λ(_:Unit)=>
    dE (fB n ((g++[s]).map tp) u) λl=>
    if(eE l 0) then(
    some (.ret l))
    else(some (.next ()))):Int->Fm->(Unit)->(Option (fZ (Unit) (Int)))) [a] 0 ()) (fO (λ(_:Unit)=>some 0) (λr=>some r)))=some (fk ([a].map λf=>f.va (g++[s]))):=by
   rw[ed aaF,dX,mj (λf=>f.va (g++[s])) [a] 0 (λj x i=>by
    simp only[lS,SM,ss] at i;subst i
    rw[q n VW (g++[s]) (hg.app hs) aby VW];exact tc)]
   exact vy rfl
  rcases o with rfl|rfl|rfl|rfl
  ·rw[dO aaF];exact fin
  ·rw[dO aaF];exact fin
  ·rw[dI aaF,dO aaF];exact fin
  ·rw[dI aaF,dO aaF];exact fin
mutual
def Fm.up(f b:Int):Fm->Fm
 |.mk k s ts l=>.mk k s (ts.map (Tm.up f b)) (Fm.XI (f+qB k) b l)
def Fm.XI(f b:Int):List Fm->List Fm
 |[]=>[]|t::l=>t.up f b::Fm.XI f b l
end
def Fm.OR(f b:Int)(l:List Fm):Fm.XI f b l=l.map (Fm.up f b):=by
 induction l with
 |nil=>rfl|cons t l ih=>simp[Fm.XI,ih]
theorem Fm.e9(f b k:Int)(s:Ty)(ts:List Tm)(l:List Fm):(Fm.mk k s ts l).up f b=.mk k s (ts.map (Tm.up f b)) (l.map (Fm.up (f+qB k) b)):=by rw[Fm.up,Fm.OR]
mutual
def Fm.aiO(m:Int):Fm->Bool
 |.mk _ _ ts l=>ts.all (Tm.aiO m)&&Fm.uB m l
def Fm.uB(m:Int):List Fm->Bool
 |[]=>true|t::l=>t.aiO m&&Fm.uB m l
end
def Fm.Fh(m:Int)(l:List Fm):Fm.uB m l=l.all (Fm.aiO m):=by
 induction l with
 |nil=>rfl|cons t l ih=>simp[Fm.uB,ih]
theorem Fm.fx(m k:Int)(s:Ty)(ts:List Tm)(l:List Fm):(Fm.mk k s ts l).aiO m=(ts.all (Tm.aiO m)&&l.all (Fm.aiO m)):=by rw[Fm.aiO,Fm.Fh]
mutual
def Fm.aiQ(a:Int):Fm->Nat
 |.mk k _ ts l=>ea (Tm.aiQ a) ts+Fm.yn (a+qB k) l
def Fm.yn(a:Int):List Fm->Nat
 |[]=>0|t::l=>t.aiQ a+Fm.yn a l
end
def Fm.EV(a:Int)(l:List Fm):Fm.yn a l=ea (Fm.aiQ a) l:=by
 induction l with
 |nil=>rfl|cons t l ih=>simp[Fm.yn,ea,ih]
def Fm.eZ(a k:Int)(s:Ty)(ts:List Tm)(l:List Fm):(Fm.mk k s ts l).aiQ a=ea (Tm.aiQ a) ts+ea (Fm.aiQ (a+qB k)) l:=by rw[Fm.aiQ,Fm.EV]
mutual
def Fm.fK:Int->Fm->Tm->Fm
 |n,.mk k ty ts l,s=>.mk k ty (ts.map λx=>Tm.fK n x s) (Fm.G4 (n+qB k) l s)
def Fm.G4:Int->List Fm->Tm->List Fm
 |_,[],_=>[]|n,t::l,s=>Fm.fK n t s::Fm.G4 n l s
end
def Fm.KZ(n:Int)(s:Tm)(l:List Fm):Fm.G4 n l s=l.map (λx=>Fm.fK n x s):=by
 induction l with
 |nil=>rfl|cons t l ih=>simp[Fm.G4,ih]
theorem Fm.eG(n:Int)(s:Tm)(k:Int)(ty:Ty)(ts:List Tm)(l:List Fm):Fm.fK n (Fm.mk k ty ts l) s=.mk k ty (ts.map λx=>Tm.fK n x s) (l.map λx=>Fm.fK (n+qB k) x s):=by rw[Fm.fK,Fm.KZ]
def Fm.ku(t:Fm):∀a,t.aiQ a<=t.aiK:=by
 induction t using Fm.ind with
 |h k s ts l ih=>
  intro a;rw[Fm.eZ,Fm.dJ];have:=kG (f:=Fm.aiQ (a+qB k)) (g:=Fm.aiK) (l:=l) λx b=>ih x b _;have:=kG (f:=Tm.aiQ a) (g:=Tm.aiK) (l:=ts) λx _=>x.ku _;omega
theorem Fm.kK(t:Fm):∀f b,(t.up f b).aiK=t.aiK:=by
 induction t using Fm.ind with
 |h k s ts l ih=>
  intro f b;rw[Fm.e9,Fm.dJ,Fm.dJ,pB,pB,vE λx a=>ih x a _ _,vE λx _=>Tm.kK x f b]
theorem Fm.IC(t:Fm):∀f b,0<=f->0<=b->(t.up f b).ok=t.ok:=by
 induction t using Fm.ind with
 |h k s ts l ih=>
  intro f b c a;have:=tW k;rw[Fm.e9,Fm.gQ,Fm.gQ,MD,MD,xc λx d=>ih x d (f+qB k) b VW a,xc λx _=>Tm.IC x f b c a]
def MZ{α:Type}{a b c:α->Nat}{m:Nat}{l:List α}(h:∀x∈l,a x+b x=c x+b x*m):ea a l+ea b l=ea c l+ea b l*m:=by
 induction l with
 |nil=>simp[ea]|cons y l ih=>
  have f:=h y aaF;have i:=ih λx d=>h x (by simp[d]);simp only[ea,CL];omega
def Fm.xL(s:Tm)(t:Fm):∀n,t.ok=true->(Fm.fK n t s).aiK+t.aiQ n=t.aiK+t.aiQ n*s.aiK:=by
 induction t using Fm.ind with
 |h k ty ts l ih=>
  intro n d;rw[Fm.gQ] at d;simp only[gG,kE] at d;rw[Fm.eG,Fm.eZ,Fm.dJ,Fm.dJ,pB,pB,CL];have i:=MZ (l:=ts) (a:=λx=>(Tm.fK n x s).aiK) (b:=Tm.aiQ n) (c:=Tm.aiK) (m:=s.aiK) λx f=>Tm.xL s x n (d.1.2 x f);have j:=MZ (l:=l) (a:=λx=>(Fm.fK (n+qB k) x s).aiK) (b:=Fm.aiQ (n+qB k)) (c:=Fm.aiK) (m:=s.aiK) λx f=>ih x f _ (d.2 x f);omega
def DC{t:Tm}(m:Int)(h:t.aiK<=1000000000):lb FU t m=some (t.aiO m):=Ax FU t m (by rw[fD];exact h) h
def IM:∀(n:Nat) (t:Fm) (m:Int),t.aiK<=n->t.aiK<=1000000000->nZ n t m=some (t.aiO m):=by
 intro n
 induction n with
 |zero=>intro t m h;have:=t.eC;omega
 |succ n ih=>
  intro t m h c;cases t with
  |mk k s ts l=>
   rw[Fm.dJ] at h c;have i:=Fm.fC l;have d:=Tm.fC ts
   have f:eY (ρ:=Bool) (λ(_:Int) (x:Tm) (_:Unit)=>dE (lb FU x m) λa=>if a then some (fZ.next ())else some (fZ.ret false)) ts 0 ()=if ts.all (Tm.aiO m) then some (.inl ())else some (.inr false):=by
    refine qS (Tm.aiO m) _ ts 0 ?_;intro j x b;have:=ep Tm.aiK b;rw[DC m VW];rfl
   have k2:eY (ρ:=Bool) (λ(_:Int) (x:Fm) (_:Unit)=>dE (nZ n x m) λa=>if a then some (fZ.next ())else some (fZ.ret false)) l 0 ()=if l.all (Fm.aiO m) then some (.inl ())else some (.inr false):=by
    refine qS (Fm.aiO m) _ l 0 ?_;intro j x b;have:=ep Fm.aiK b;rw[ih x m VW VW];rfl
   rw[nZ];simp only[Fm.er,Fm.hZ,dZ,ed (l:=l) VW,ed (l:=ts) VW,dX,f,k2,Fm.fx];cases o:ts.all (Tm.aiO m)<;>cases q:l.all (Fm.aiO m)<;>simp
def Gv:∀(n:Nat) (t:Fm) (f b:Int),t.aiK<=n->t.aiK<=1000000000->0<=f->f+t.aiK<=10000000000->0<=b->b<=10000000000->t.aiO 1000000000000=true->ik n t f b=some (t.up f b):=by
 intro n
 induction n with
 |zero=>intro t f b h;have:=t.eC;omega
 |succ n ih=>
  intro t f b h d r i q a hi;cases t with
  |mk k s ts l=>
   rw[Fm.dJ] at h d i;rw[Fm.fx] at hi;simp only[gG,kE] at hi;have w:=Fm.fC l;have u:=Tm.fC ts;have y:=tW k;rw[ik];simp only[Fm.er,Fm.hZ,Fm.eD,Fm.fu,dZ,ed (l:=l) VW,ed (l:=ts) VW,dX];rw[jU (Tm.up f b) ts 0 [] aby]
   ·simp only[dF,ew];rw[jU (Fm.up (f+qB k) b) l 0 [] aby]
    ·simp[Fm.e9]
    ·intro j x v c o;have:=ep Fm.aiK c;rw[pK];simp only[dF,Fm.eD];rw[fR VW VW,ih x (f+qB k) b VW VW VW VW q a (hi.2 x c)];simp[fM (l:=v) (m:=[x.up (f+qB k) b]) (by simpa using o)]
   ·intro j x v c o;have:=ep Tm.aiK c;rw[FZ FU x f b (by rw[fD];omega) VW r VW q a (hi.1 x c)];simp[fM (l:=v) (m:=[x.up f b]) (by simpa using o)]
def IT:∀(n:Nat) (t:Fm) (a:Int),t.aiK<=n->t.aiK<=1000000000->0<=a->a+t.aiK<=10000000000->pc n t a=some (t.aiQ a:Int):=by
 intro n
 induction n with
 |zero=>intro t a h;have:=t.eC;omega
 |succ n ih=>
  intro t a h c o d;cases t with
  |mk k s ts l=>
   rw[Fm.dJ] at h c d;have w:=Fm.fC l;have q:=Tm.fC ts;have A:=tW k;have r:ea (Fm.aiQ (a+qB k)) l<=ea Fm.aiK l:=kG λx _=>x.ku _;have i:ea (Tm.aiQ a) ts<=ea Tm.aiK ts:=kG λx _=>x.ku _;rw[pc];simp only[Fm.er,Fm.hZ,Fm.eD,dZ,ed (l:=l) VW,ed (l:=ts) VW,dX]
   have u:=o7 (ρ:=Int) (F:=λ(_:Int) (x:Tm) (v:Int)=>dE (nb FU x a) λy=>some (fZ.next (fl .i64 v y))) (Tm.aiQ a) ts 0 0 VW (by
    intro j x v f;have:=ep Tm.aiK f;rw[A1 FU x a (by rw[fD];omega) VW o VW]
    rfl)
   have k2:=o7 (ρ:=Int) (F:=λ(_:Int) (x:Fm) (v:Int)=>dE (mU (Fm.mk k s ts l)) λb=>dE (pc n x (fl .i64 a b)) λy=>some (fZ.next (fl .i64 v y))) (Fm.aiQ (a+qB k)) l 0 (0+ea (Tm.aiQ a) ts) VW (by
    intro j x v f;have:=ep Fm.aiK f;rw[pK];simp only[dF,Fm.eD];rw[fR VW VW,ih x _ VW VW VW VW]
    rfl)
   rw[show(0:Int)=((0:Nat):Int)from rfl,u];simp only[dF,ew];rw[k2];simp[Fm.eZ]
def M9:∀(n:Nat) (t:Fm) (a b:Int) (s:Tm),t.aiK<=n->t.aiK<=1000000000->0<=a->0<=b->a+b+t.aiK<=5000000000->t.aiO 1000000000000=true->t.ok=true->s.aiK<=1000000000->s.aiO 1000000000000=true->xR n t a b s=some (Fm.fK (a+b) t s):=by
 intro n
 induction n with
 |zero=>intro t a b s h;have:=t.eC;omega
 |succ n ih=>
  intro t a b s h i r u o hi c hs f;cases t with
  |mk k ty ts l=>
   rw[Fm.dJ] at h i o;rw[Fm.fx] at hi;rw[Fm.gQ] at c;simp only[gG,kE] at hi c;have y:=Fm.fC l;have w:=Tm.fC ts;have A:=tW k;rw[xR];simp only[Fm.er,Fm.hZ,Fm.eD,Fm.fu,dZ,ed (l:=l) VW,ed (l:=ts) VW,dX];rw[jU (λx=>Tm.fK (a+b) x s) ts 0 [] aby]
   ·simp only[dF,ew];rw[jU (λx=>Fm.fK (a+b+qB k) x s) l 0 [] aby]
    ·simp[Fm.eG]
    ·intro j x v d q;have:=ep Fm.aiK d;rw[pK];simp only[dF,Fm.eD];rw[fR VW VW,ih x a (b+qB k) s VW VW r VW VW (hi.2 x d) (c.2 x d) hs f];rw[show a+(b+qB k)=a+b+qB k by omega];simp[fM (l:=v) (m:=[Fm.fK (a+b+qB k) x s]) (by simpa using q)]
   ·intro j x v d q;have:=ep Tm.aiK d;rw[FV FU x a b s (by rw[fD];omega) VW r u VW (hi.1 x d) (c.1.2 x d) hs f];simp[fM (l:=v) (m:=[Tm.fK (a+b) x s]) (by simpa using q)]
def Fm.pL(t:Fm):∀{m n:Int},m<=n->t.aiO m=true->t.aiO n=true:=by
 induction t using Fm.ind with
 |h k s ts l ih=>
  intro m n a h;rw[Fm.fx] at*;simp only[gG,kE] at*;exact⟨λx b=>Tm.pL x a (h.1 x b),λx b=>ih x b a (h.2 x b)⟩
def ia.aiO{g:List Ty}{f:Fm}(h:ia g f):∀m:Int,((g.length+f.aiK:Nat):Int)<=m->f.aiO m=true:=by
 induction h with
 |eq c d=>
  intro m hm;simp only[Fm.dJ,ea] at hm;simp only[Fm.fx,ET,S7,JO,gG];exact⟨c.aiO m VW,d.aiO m VW⟩
 |two _ _ _ a b=>
  intro m hm;simp only[Fm.dJ,ea] at hm;simp only[Fm.fx,ET,S7,JO,gG,CS];exact⟨a m VW,b m VW⟩
 |q _ _ _ ih=>
  intro m hm;simp only[Fm.dJ,ea] at hm;simp only[Fm.fx,ET,S7,JO,CS];exact ih m aby
def Tm.Hm(φ:Int->Int->Tm)(b:Int):Tm->Tm
 |.mk k i s l=>if k=1 then φ i b else .mk k i s (l.attach.map λx=>Tm.Hm φ (b+eL k) x.1)
decreasing_by
 have:=adv x.2;simp only[Tm.mk.sizeOf_spec];omega
def Tm.zM(φ:Int->Int->Tm)(b k i:Int)(s:Ty)(l:List Tm):(Tm.mk k i s l).Hm φ b=if k=1 then φ i b else .mk k i s (l.map (Tm.Hm φ (b+eL k))):=by
 rw[Tm.Hm]
 congr 2
 exact aeN
def xM(k b:Int)(a:-1000000000000<=b)(c:b<=1000000000000):e_ (ei k 2) (fl .i64 b 1) b=b+eL k:=by
 unfold eL
 by_cases h:k=2
 ·subst h;rw[show ei 2 2=true from rfl,dO rfl];exact fR VW VW
 ·rw[show ei k 2=false by simpa[ei] using h,dI h];show b=b+0;omega
def wW{h:Int->Int->Option Tm}{φ:Int->Int->Tm}{M:Int}(D:∀i b,0<=i->i<=M->0<=b->b<=10000000000->h i b=some (φ i b)):∀(n:Nat) (t:Tm) (b:Int),t.aiK<=n->t.aiK<=50000000->t.ok=true->t.aiO M=true->0<=b->b+t.aiK<=10000000000->hO n t b (λ(s:Unit) (q:Int) (r:Int)=>qy (h q r) s) ()=some (t.Hm φ b,()):=by
 intro n
 induction n with
 |zero=>intro t b h;have:=t.eC;omega
 |succ n ih=>
  intro t b hn F w x G y;cases t with
  |mk k i s l=>
   rw[Tm.dJ] at hn F y;have hlen:=Tm.fC l;have f:=w;rw[Tm.gQ,gG] at w;have H:=Ty.Cg w.1;rw[Tm.fx,gG,Po,kE] at x;rw[hO,Tm.zM]
   by_cases A:k=1
   ·subst A;have hi:=(Tm.pO f).2.1;rw[dO abL,dO rfl];simp only[Tm.gY];rw[D i b hi x.1 G VW,Gm,dN]
   ·rw[dI (by simpa[ei] using A),dI A];simp only[Tm.fu,Tm.er,Tm.eD,Tm.gY,dZ];rw[tA VW,dF,ed VW,dX,xM k b VW VW];have I:=iM k
    have loop:∀(ts:List Tm) (j:Nat) (v:List Tm),(∀t∈ts,t∈l)->v.length+ts.length<=50000000->eY (λ(J:Int) (B:Tm)=>(zU λ(a:List Tm) (v107:Unit)=>
       dS (hO n B (b+eL k) (λ(s:Unit) (q:Int) (r:Int)=>qy (h q r) s) v107) λc o=>
       gu (fL a [c])<|some ((.next ((fT a [c]),o)):fZ ((List Tm)×Unit) (Tm×Unit)))) ts j (v,())=some (.inl (v++ts.map (Tm.Hm φ (b+eL k)),())):=by
     intro ts
     induction ts with
     |nil=>intro j v _ _;simp|cons t ts C=>
      intro j v hm K;simp only[pM] at K;have d:=hm t aaF;have L:=ep Tm.aiK d;rw[fp];simp only[zU];rw[ih t (b+eL k) VW VW ((Tm.pO f).2.2.2.1 t d) (x.2 t d) VW VW,dN,fM aby,dX];simp only[dF,fw];rw[jl];have:=C (j+1) (v++[t.Hm φ (b+eL k)]) (λu hu=>hm u (by simp[hu])) aby;rw[this];simp
    rw[loop l 0 [] (λt h=>h) aby,dF];simp
structure Bd (t:Tm):Prop where
 ok:t.ok=true
 aiO:t.aiO 1000000000000=true
 aiK:t.aiK<=50000000
def Tm.Pe(f c:Int)(q:0<=f):∀(t:Tm) (b:Int),0<=b->t.ok=true->t.Hm (λi b=>.mk 1 (if f<=i-b then i+c else i) (.mk 0 []) []) b=t.up (f+b) c:=by
 intro t
 induction t using Tm.ind with
 |h k i s l ih=>
  intro b r a;have hi:=Tm.pO a;rw[Tm.zM,Tm.e9]
  by_cases d:k=1
  ·subst d;rw[dO rfl]
   have n:l=[]:=by
    have:=hi.2.2.2.2;unfold gL at this;rw[dO (.inl rfl)] at this;exact BD VW
   have hs:s=.mk 0 []:=by
    rw[Tm.gQ] at a;simp only[Tm.node,gG] at a;have:=a.1.2;rw[dI aak] at this;exact(Ty.mE s).1 this
   subst n;subst hs;simp only[l',Ae]
   congr 1
   by_cases h:f+b<=i
   ·rw[dO h,dO VW]
   ·rw[dI h,dI VW]
  ·rw[dI d,dI (λh=>d h.1)];have o:=iM k
   congr 1
   exact uU λx j=>by rw[ih x j (b+eL k) VW (hi.2.2.2.1 x j),show f+(b+eL k)=f+b+eL k by omega]
def DO{t:Tm}{f c:Int}(h:Bd t)(d:0<=f)(j:f<=10000000000)(q:0<=c)(k:c<=10000000000):td t f c=some (t.up f c):=by
 unfold td pZ;rw[wW (h:=λl n=>tL l n f c) (φ:=λi b=>.mk 1 (if f<=i-b then i+c else i) (.mk 0 []) []) (M:=1000000000000) (λi b r s u v=>?_) FU t 0 (by have:=fD;have:=h.aiK;omega) h.aiK h.ok h.aiO VW (by have:=h.aiK;omega)]
 ·rw[dN,dN,Tm.Pe f c d t 0 VW h.ok,show f+0=f by omega]
 ·unfold tL lN;simp only[dF];rw[fY VW VW,fR VW VW]
  by_cases a:f<=i-b
  ·rw[dO a,show rb (i-b) f=true by rw[jc];exact a];rfl
  ·rw[dI a,show rb (i-b) f=false by
    cases o:rb (i-b) f with
    |false=>rfl|true=>exact absurd ((jc _ _).1 o) a];rfl
def rj(k:Int):mH k=some (h7 k):=by
 unfold mH h7;rw[yT];simp only[rb,XA,BI];rw[<-Bool.decide_and];exact GS.2 (by simp only[Po];omega)
def Fm.qG{k:Int}{s:Ty}{ts:List Tm}{l:List Fm}(h:(Fm.mk k s ts l).ok=true):s.aiK<=64/\(∀t∈ts,t.ok=true)/\(∀f∈l,f.ok=true):=by
 rw[Fm.gQ] at h;simp only[gG,kE] at h;refine⟨?_,h.1.2,h.2⟩;have hn:=h.1.1;unfold Fm.node at hn
 split at hn
 ·simp only[gG] at hn;rw[(Ty.mE s).1 hn.1.1,Ty.dJ];simp[ea]
 ·split at hn
  ·simp only[gG] at hn;rw[(Ty.mE s).1 hn.1.1,Ty.dJ];simp[ea]
  ·simp only[gG,oy] at hn;exact eV hn.1.1.2
def Fm.Hm(ψ:Tm->Int->Tm)(b:Int):Fm->Fm
 |.mk k s ts l=>.mk k s (ts.map λt=>ψ t b) (l.attach.map λx=>Fm.Hm ψ (b+qB k) x.1)
decreasing_by
 have:=adv x.2;simp only[Fm.mk.sizeOf_spec];omega
def Fm.zM(ψ:Tm->Int->Tm)(b k:Int)(s:Ty)(ts:List Tm)(l:List Fm):(Fm.mk k s ts l).Hm ψ b=.mk k s (ts.map λt=>ψ t b) (l.map (Fm.Hm ψ (b+qB k))):=by
 rw[Fm.Hm]
 congr 1
 exact aeN
def oz{h:Tm->Int->Option Tm}{ψ:Tm->Int->Tm}(P:∀t b,Bd t->0<=b->b<=1000000000->h t b=some (ψ t b)):∀(n:Nat) (f:Fm) (b:Int),f.aiK<=n->f.aiK<=50000000->f.ok=true->f.aiO 1000000000000=true->0<=b->b+f.aiK<=1000000000->fq n f b (λ(s:Unit) (A:Tm) (B:Int)=>qy (h A B) s) ()=some (f.Hm ψ b,()):=by
 intro n
 induction n with
 |zero=>intro f b h;have:=f.eC;omega
 |succ n ih=>
  intro f b hn Q R G S H;cases f with
  |mk k s ts l=>
   rw[Fm.dJ] at hn Q H;have T:=iJ Tm.aiK ts λt _=>t.eC;have U:=iJ Fm.aiK l λt _=>t.eC;obtain⟨V,I,J⟩:=Fm.qG R;rw[Fm.fx,gG,kE,kE] at G;rw[fq,Fm.zM];simp only[Fm.fu,Fm.er,Fm.eD,Fm.hZ,dZ];rw[tA VW,dF,ed VW,dX];have W:=tW k
   have w:∀(us:List Tm) (j:Nat) (v:List Tm),(∀t∈us,t∈ts)->v.length+us.length<=50000000->eY (λ(X:Int) (K:Tm)=>(zU λ(v91:List Tm) (L:Unit)=>
      dS (qy (h K b) L) λq C=>
      gu (fL v91 [q])<|some ((.next ((fT v91 [q]),C)):fZ ((List Tm)×Unit) (Fm×Unit)))) us j (v,())=some (.inl (v++us.map (λt=>ψ t b),())):=by
    intro us
    induction us with
    |nil=>intro j v _ _;simp|cons t us x=>
     intro j v hm M;simp only[pM] at M;have d:=hm t aaF;have N:=ep Tm.aiK d;rw[fp];simp only[zU];rw[P t b ⟨I t d,G.1 t d,VW⟩ S VW,Gm,dN,fM aby,dX];simp only[dF,fw];rw[jl];have:=x (j+1) (v++[ψ t b]) (λu hu=>hm u (by simp[hu])) aby;rw[this];simp
   rw[w ts 0 [] (λt h=>h) aby,dF];simp only[ew,zU];rw[rj,dF]
   have y:∀(us:List Fm) (j:Nat) (v:List Fm),(∀t∈us,t∈l)->v.length+us.length<=50000000->eY (λ(D:Int) (i:Fm)=>(zU λ(a:List Fm) (v212:Unit)=>
      dS (fq n i (b+qB k) (λ(s:Unit) (A:Tm) (B:Int)=>qy (h A B) s) v212) λc o=>
      gu (fL a [c])<|some ((.next ((fT a [c]),o)):fZ ((List Fm)×Unit) (Fm×Unit)))) us j (v,())=some (.inl (v++us.map (Fm.Hm ψ (b+qB k)),())):=by
    intro us
    induction us with
    |nil=>intro j v _ _;simp|cons t us x=>
     intro j v hm M;simp only[pM] at M;have d:=hm t aaF;have N:=ep Fm.aiK d;rw[fp];simp only[zU];rw[ih t (b+qB k) VW VW (J t d) (G.2 t d) VW VW,dN,fM aby,dX];simp only[dF,fw];rw[jl];have:=x (j+1) (v++[t.Hm ψ (b+qB k)]) (λu hu=>hm u (by simp[hu])) aby;rw[this];simp
   have fin:(gu (eP l)<|dE (eY (λ(D:Int) (i:Fm)=>(zU λ(a:List Fm) (v212:Unit)=>
      dS (fq n i (b+qB k) (λ(s:Unit) (A:Tm) (B:Int)=>qy (h A B) s) v212) λc o=>
      gu (fL a [c])<|some ((.next ((fT a [c]),o)):fZ ((List Fm)×Unit) (Fm×Unit)))) l 0 ([],())) (fO (zU λ(a:List Fm) (v212:Unit)=>some ((Fm.mk k s ([]++ts.map λt=>ψ t b) a),v212)) (λr=>some r)))=some (Fm.mk k s (ts.map λt=>ψ t b) (l.map (Fm.Hm ψ (b+qB k))),()):=by
    rw[ed VW,dX,y l 0 [] (λt h=>h) aby,dF];simp
   by_cases F:h7 k=true
   ·rw[dO F]
    have O:b+qB k=b+1:=by unfold qB;rw[dO F]
    rw[O] at fin|-;rw[fR VW VW];exact fin
   ·rw[dI F]
    have O:b+qB k=b:=by unfold qB;rw[dI F];omega
    rw[O] at fin|-;exact fin
def Fm.Pe(f c:Int):∀(g:Fm) (b:Int),g.Hm (λt b=>t.up (f+b) c) b=g.up (f+b) c:=by
 intro g
 induction g using Fm.ind with
 |h k s ts l ih=>
  intro b;rw[Fm.zM,Fm.e9]
  congr 1
  exact uU λx a=>by rw[ih x a (b+qB k),show f+(b+qB k)=f+b+qB k by omega]
def BF{g:Fm}{f c:Int}(d:g.ok=true)(hn:g.aiK<=50000000)(i:g.aiO 1000000000000=true)(o:0<=f)(j:f<=1000000000)(k:0<=c)(a:c<=10000000000):pT g f c=some (g.up f c):=by
 unfold pT;rw[oz (h:=λl n=>rh l n f c) (ψ:=λt b=>t.up (f+b) c) (λt b h q r=>?_) FU g 0 (by have:=fD;omega) hn d i VW VW]
 ·rw[dN,Fm.Pe f c g 0,show f+0=f by omega]
 ·unfold rh;rw[fR VW VW,DO h VW VW k a];rfl
def Tm.Ud{i:Int}{s:Ty}{l:List Tm}(a:(Tm.mk 1 i s l).ok=true):l=[]/\s=.mk 0 []:=by
 have hi:=Tm.pO a;constructor
 ·have:=hi.2.2.2.2;unfold gL at this;rw[dO (.inl rfl)] at this;exact BD VW
 ·rw[Tm.gQ] at a;simp only[Tm.node,gG] at a;have:=a.1.2;rw[dI aak] at this;exact(Ty.mE s).1 this
def Qn(a:Int)(s:Tm)(i b:Int):Tm:=if i-b=a then s.up 0 (a+b)else if a<i-b then .mk 1 (i-1) (.mk 0 []) [] else .mk 1 i (.mk 0 []) []
def Tm.LC(a:Int)(s:Tm):∀(t:Tm) (b:Int),t.ok=true->t.Hm (Qn a s) b=Tm.fK (a+b) t s:=by
 intro t
 induction t using Tm.ind with
 |h k i ty l ih=>
  intro b d;have hi:=Tm.pO d;rw[Tm.zM,Tm.eG]
  by_cases c:k=1
  ·subst c;obtain⟨rfl,rfl⟩:=Tm.Ud d;rw[dO rfl,dO rfl];unfold Qn Tm.iG
   by_cases f:i-b=a
   ·rw[dO f,dO VW]
   ·rw[dI f,dI (show¬i=a+b by omega)]
    by_cases j:a<i-b
    ·rw[dO j,dO VW]
    ·rw[dI j,dI VW]
  ·rw[dI c,dI c]
   congr 1
   exact uU λx n=>by rw[ih x n (b+eL k) (hi.2.2.2.1 x n),show a+(b+eL k)=a+b+eL k by omega]
def Pq(s:Tm):Prop:=∀c,0<=c->c<=10000000000->td s 0 c=some (s.up 0 c)
def Bd.lift{s:Tm}(h:Bd s):Pq s:=λc a b=>DO h VW VW a b
def M'{t s:Tm}{a:Int}(h:Bd t)(hs:Pq s)(Q:0<=a)(J:a<=1000000000):Aa t a s=some (Tm.fK a t s):=by
 unfold Aa pZ;have hn:=h.aiK
 have key:∀(n:Nat) (t:Tm) (b:Int),t.aiK<=n->t.aiK<=50000000->t.ok=true->t.aiO 1000000000000=true->0<=b->b+t.aiK<=1000000000->hO n t b (λ(o:Unit) (r:Int) (q:Int)=>qy (n_ r q a s) o) ()=hO n t b (λ(o:Unit) (r:Int) (q:Int)=>qy (if q<=1000000000 then n_ r q a s else some (Qn a s r q)) o) ():=by
  intro n
  induction n with
  |zero=>intro t b h;have:=t.eC;omega
  |succ n ih=>
   intro t b hn A K I L D;cases t with
   |mk k i ty l=>
    rw[Tm.dJ] at hn A D;rw[Tm.fx,gG,Po,kE] at I;have hi:=Tm.pO K;have N:=iM k;rw[hO,hO]
    by_cases F:k=1
    ·subst F;rw[dO abL,dO abL,dO VW]
    ·rw[dI (by simpa[ei] using F),dI (by simpa[ei] using F)];simp only[Tm.fu,Tm.er,Tm.eD,Tm.gY,dZ];rw[xM k b VW VW]
     have loop:∀(ts:List Tm) (j:Nat) (v:List Tm),(∀t∈ts,t∈l)->eY (λ(G:Int) (x:Tm)=>(zU λ(d:List Tm) (v107:Unit)=>
        dS (hO n x (b+eL k) (λ(o:Unit) (r:Int) (q:Int)=>qy (n_ r q a s) o) v107) λf w=>
        gu (fL d [f])<|some ((.next ((fT d [f]),w)):fZ ((List Tm)×Unit) (Tm×Unit)))) ts j (v,())=eY (λ(G:Int) (x:Tm)=>(zU λ(d:List Tm) (v107:Unit)=>
        dS (hO n x (b+eL k) (λ(o:Unit) (r:Int) (q:Int)=>qy (if q<=1000000000 then n_ r q a s else some (Qn a s r q)) o) v107) λf w=>
        gu (fL d [f])<|some ((.next ((fT d [f]),w)):fZ ((List Tm)×Unit) (Tm×Unit)))) ts j (v,()):=by
      intro ts
      induction ts with
      |nil=>intro j v _;rfl|cons t ts H=>
       intro j v hm;have y:=hm t aaF;have O:=ep Tm.aiK y;rw[fp,fp];simp only[zU];rw[ih t (b+eL k) VW VW (hi.2.2.2.1 t y) (I.2 t y) VW VW]
       congr 1
       funext c
       cases c with
       |next st=>
        obtain⟨P,u⟩:=st;exact H (j+1) P (λu hu=>hm u (by simp[hu]))
       |_=>rfl
     rw[loop l 0 [] (λt h=>h)]
 rw[key FU t 0 (by have:=fD;omega) hn h.ok h.aiO VW VW];rw[wW (h:=λr q=>if q<=1000000000 then n_ r q a s else some (Qn a s r q)) (φ:=Qn a s) (M:=1000000000000) (λi b L R S T=>?_) FU t 0 (by have:=fD;omega) h.aiK h.ok h.aiO VW VW]
 ·rw[dN,dN,Tm.LC a s t 0 h.ok,show a+0=a by omega]
 ·by_cases A:b<=1000000000
  ·rw[dO A];unfold n_ lN Qn;rw[fY VW VW,fR VW VW]
   by_cases B:i-b=a
   ·rw[dO (by simpa[ei] using B),dO B,hs _ VW VW];rfl
   ·rw[dI (by simpa[ei] using B),dI B]
    by_cases C:a<i-b
    ·rw[dO (by rw[il];exact C),dO C,fY VW VW];rfl
    ·rw[dI (by rw[il];exact C),dI C];rfl
  ·rw[dI A]
def Fm.LC(a:Int)(s:Tm):∀(g:Fm) (b:Int),g.Hm (λt b=>Tm.fK (a+b) t s) b=Fm.fK (a+b) g s:=by
 intro g
 induction g using Fm.ind with
 |h k ty ts l ih=>
  intro b;rw[Fm.zM,Fm.eG]
  congr 1
  exact uU λx c=>by rw[ih x c (b+qB k),show a+(b+qB k)=a+b+qB k by omega]
def Dk{g:Fm}{s:Tm}{a:Int}(G:g.ok=true)(hn:g.aiK<=50000000)(N:g.aiO 1000000000000=true)(hs:Pq s)(T:0<=a)(O:a<=100000000):oG g a s=some (Fm.fK a g s):=by
 unfold oG
 have key:∀(n:Nat) (f:Fm) (b:Int),f.aiK<=n->f.aiK<=50000000->f.ok=true->0<=b->b+f.aiK<=100000000->fq n f b (λ(q:Unit) (x:Tm) (w:Int)=>qy (iI x w a s) q) ()=fq n f b (λ(q:Unit) (x:Tm) (w:Int)=>qy (if w<=100000000 then iI x w a s else some (Tm.fK (a+w) x s)) q) ():=by
  intro n
  induction n with
  |zero=>intro f b h;have:=f.eC;omega
  |succ n ih=>
   intro f b hn H G P J;cases f with
   |mk k ty ts l=>
    rw[Fm.dJ] at hn H J;obtain⟨_,_,K⟩:=Fm.qG G;have Q:=tW k;rw[fq,fq];simp only[Fm.fu,Fm.er,Fm.eD,Fm.hZ,dZ,dO (show b<=100000000 by omega),rj,dF]
    have loop:∀(us:List Fm) (j:Nat) (v:List Fm) (B:Int),0<=B->B+ea Fm.aiK l<=100000000->(∀t∈us,t∈l)->eY (λ(C:Int) (y:Fm)=>(zU λ(d:List Fm) (v212:Unit)=>
       dS (fq n y B (λ(q:Unit) (x:Tm) (w:Int)=>qy (iI x w a s) q) v212) λi A=>
       gu (fL d [i])<|some ((.next ((fT d [i]),A)):fZ ((List Fm)×Unit) (Fm×Unit)))) us j (v,())=eY (λ(C:Int) (y:Fm)=>(zU λ(d:List Fm) (v212:Unit)=>
       dS (fq n y B (λ(q:Unit) (x:Tm) (w:Int)=>qy (if w<=100000000 then iI x w a s else some (Tm.fK (a+w) x s)) q) v212) λi A=>
       gu (fL d [i])<|some ((.next ((fT d [i]),A)):fZ ((List Fm)×Unit) (Fm×Unit)))) us j (v,()):=by
     intro us
     induction us with
     |nil=>intro j v B _ _ _;rfl|cons t us L=>
      intro j v B D M hm;have F:=hm t aaF;have R:=ep Fm.aiK F;rw[fp,fp];simp only[zU];rw[ih t B VW VW (K t F) D VW]
      congr 1
      funext c
      cases c with
      |next st=>
       obtain⟨S,u⟩:=st;exact L (j+1) S B D M (λu hu=>hm u (by simp[hu]))
      |_=>rfl
    congr 1
    funext U
    congr 1
    congr 1
    funext o
    cases o with
    |inr r=>rfl|inl st=>
     obtain⟨v,u⟩:=st;simp only[ew,zU]
     by_cases I:h7 k=true
     ·rw[dO I,dO I,fR VW VW];rw[show(([]:List Fm),u)=([],())from rfl,loop l 0 [] (b+1) VW VW (λt h=>h)]
     ·rw[dI I,dI I];rw[show(([]:List Fm),u)=([],())from rfl,loop l 0 [] b VW VW (λt h=>h)]
 rw[key FU g 0 (by have:=fD;omega) hn G VW VW];rw[oz (h:=λx w=>if w<=100000000 then iI x w a s else some (Tm.fK (a+w) x s)) (ψ:=λt b=>Tm.fK (a+b) t s) (λt b h P V=>?_) FU g 0 (by have:=fD;omega) hn G N VW VW]
 ·rw[dN,Fm.LC a s g 0,show a+0=a by omega]
 ·by_cases H:b<=100000000
  ·rw[dO H];unfold iI;rw[fR VW VW,M' h hs VW VW];rfl
  ·rw[dI H]
end Go.fH
