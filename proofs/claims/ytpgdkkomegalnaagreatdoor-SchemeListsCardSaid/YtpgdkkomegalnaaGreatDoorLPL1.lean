/- Part of the proof of SchemeLists: plain facts. -/
import Derived.Test.YtpgdkkomegalnaaGreatDoorLM1
set_option linter.all false
namespace Go.fD
open Go
@[simp] theorem fZ(a b:Int):eo a b=true↔a=b:=by simp[eo]
@[simp] theorem ez(a b:Int):eP a b=true↔a≠b:=by simp[eP]
@[simp] theorem j3(a b:Int):o7 a b=true↔a<b:=by simp[o7]
@[simp] theorem Z'(a b:Int):Yr a b=true↔a<=b:=by simp[Yr]
@[simp] theorem iD(a b:Int):oQ a b=true↔b<a:=by simp[oQ]
@[simp] theorem jk(a b:Int):pd a b=true↔b<=a:=by simp[pd]
@[simp] theorem lU(a b:Bool):fv a true b=(a||b):=by cases a<;>rfl
@[simp] theorem vz(a b:Bool):fv a b false=(a&&b):=by cases a<;>rfl
@[simp] theorem afI(a b:Bool):fv a b true=(!a||b):=by cases a<;>rfl
@[simp] theorem R_(a:Bool):lJ a=!a:=rfl
@[simp] theorem ij{α:Type}(l m:List α):fR l m=l++m:=rfl
@[simp] theorem fM{α:Type}(l:List α):eA l=(l.length:Int):=rfl
theorem gX{α:Type}(l:List α)(i:Nat):dW l (i:Int)=l[i]?:=by simp[dW]
@[simp] theorem eW{α:Type}(l:List α):dW l 0=l[0]?:=by simp[dW]
@[simp] theorem iv{α:Type}(l:List α):dW l 1=l[1]?:=by simp[dW]
@[simp] theorem mY{α:Type}(l:List α):dW l 2=l[2]?:=by simp[dW]
def Li{α:Type}{l:List α}{i:Int}(b:0<=i)(c:i<l.length):∃x,dW l i=some x/\x∈l:=by
 obtain⟨k,rfl⟩:=ada b
 have a:k<l.length:=VW
 exact⟨l[k],by rw[gX];simp[a],B7 a⟩
def et{α:Type}{l:List α}(h:l.length<=1000000000):eV l=true:=by unfold eV Al;exact z_ VW
def fg{α:Type}{l m:List α}(h:l.length+m.length<=1000000000):fI l m=true:=by unfold fI Al;exact z_ VW
def Xi{b:Int}(h:b≠0):KM b=true:=by simp[KM,h]
def HO{n:Int}(a:-9223372036854775808<=n)(b:n<9223372036854775808):IntKind.i64.wrap n=n:=by
 rw[IntKind.wrap_i64];omega
def fX{a b:Int}(c:-9223372036854775808<=a+b)(d:a+b<9223372036854775808):eS .i64 a b=a+b:=HO c d
theorem fT{a b:Int}(c:-9223372036854775808<=a-b)(d:a-b<9223372036854775808):fA .i64 a b=a-b:=HO c d
def Sd{a b:Int}(c:-9223372036854775808<=a*b)(d:a*b<9223372036854775808):T1 .i64 a b=a*b:=HO c d
section
variable{α β σ ρ:Type}
def LL{F:Int->α->σ->Option (gm σ ρ)}(I:σ->Prop)(Q:ρ->Prop):∀(l:List α) (i:Nat) (s:σ),I s->(∀k x s,l[k]?=some x->I s->(∃a,F ((i+k:Nat):Int) x s=some (.next a)/\I a)\/(∃r,F ((i+k:Nat):Int) x s=some (.ret r)/\Q r))->(∃a,fk F l i s=some (.inl a)/\I a)\/(∃r,fk F l i s=some (.inr r)/\Q r)
 |[],i,s,hs,_=>.inl ⟨s,rfl,hs⟩|x::l,i,s,hs,h=>by
  have f:=h 0 x s rfl hs;rw[F2] at f;rw[gf];rcases f with⟨s1,b,c⟩|⟨r,b,c⟩
  ·rw[b];simp only[dI,fh];refine LL I Q l (i+1) s1 c λk y a j d=>?_;have:=h (k+1) y a (by simpa using j) d;rw[show i+(k+1)=i+1+k by omega] at this;exact this
  ·rw[b];exact .inr ⟨r,rfl,c⟩
def kq{F:Int->α->List β->Option (gm (List β) ρ)}(g:α->β):∀(l:List α) (i:Nat) (v:List β),v.length+l.length<=1000000000->(∀j x v,x∈l->v.length+1<=1000000000->F j x v=some (.next (v++[g x])))->fk F l i v=some (.inl (v++l.map g))
 |[],i,v,_,_=>by simp|x::l,i,v,a,h=>by
  simp only[mz] at a;rw[gf,h i x v aa2 VW];simp only[dI,fh];rw[kq g l (i+1) (v++[g x]) acx λj y v b c=>h j y v (by simp[b]) c];simp
def ei(g:α->Nat):List α->Nat
 |[]=>0|x::l=>g x+ei g l
theorem eG(g:α->Nat){l:List α}{x:α}(h:x∈l):g x<=ei g l:=by
 induction l with
 |nil=>cases h
 |cons y l ih=>
  simp only[ei];rcases lQ.1 h with rfl|h
  ·omega
  ·have:=ih h;omega
def jh(g:α->Nat)(l:List α)(h:∀x∈l,1<=g x):l.length<=ei g l:=by
 induction l with
 |nil=>simp|cons y l ih=>simp only[ei,mz];have:=h y aa2;have:=ih λx a=>h x (by simp[a]);omega
def pL{F:Int->α->Int->Option (gm Int ρ)}(g:α->Nat):∀(l:List α) (i v:Nat),v+ei g l<=4611686018427387904->(∀j x (v:Int),x∈l->F j x v=some (.next (eS .i64 v (g x))))->fk F l i (v:Int)=some (.inl ((v+ei g l:Nat):Int))
 |[],i,v,_,_=>by simp[ei]|x::l,i,v,a,h=>by
  simp only[ei] at a|-;rw[gf,h i x v aa2,fX VW VW];simp only[dI,fh];have:=pL g l (i+1) (v+g x) VW λj y v b=>h j y v (by simp[b]);rw[show(v:Int)+(g x:Int)=((v+g x:Nat):Int) by omega,this];rw[ad8]
def wx{F:Int->α->Int->Option (gm Int ρ)}(g:α->Nat)(ok:α->Bool)(r:ρ):∀(l:List α) (i v:Nat),v+ei g l<=4611686018427387904->(∀j x (v:Int),x∈l->F j x v=if ok x then some (.next (eS .i64 v (g x)))else some (.ret r))->fk F l i (v:Int)=if l.all ok then some (.inl ((v+ei g l:Nat):Int))else some (.inr r)
 |[],i,v,_,_=>by simp[ei]|x::l,i,v,b,h=>by
  simp only[ei] at b|-;rw[gf,h i x v aa2,fX VW VW];cases a:ok x with
  |false=>simp[a]|true=>
   simp only[if_true,dI,fh,Nx,a,Ht];have:=wx g ok r l (i+1) (v+g x) VW λj y v c=>h j y v (by simp[c]);rw[show(v:Int)+(g x:Int)=((v+g x:Nat):Int) by omega,this,ad8]
def qX{F:Int->α->Unit->Option (gm Unit ρ)}(ok:α->Bool)(r:ρ):∀(l:List α) (i:Nat),(∀j x,x∈l->F j x ()=if ok x then some (.next ())else some (.ret r))->fk F l i ()=if l.all ok then some (.inl ())else some (.inr r)
 |[],i,_=>by simp|x::l,i,h=>by
  rw[gf,h i x aa2];cases a:ok x with
  |false=>simp[a]|true=>
   simp only[if_true,dI,fh,Nx,a,Ht];exact qX ok r l (i+1) λj y b=>h j y (by simp[b])
def fy:List Int->Int
 |[]=>0|e::l=>if e=0 then fy l else e
def pM{F:Int->α->Unit->Option (gm Unit Int)}(e:α->Int):∀(l:List α) (i:Nat),(∀j x,x∈l->F j x ()=if e x≠0 then some (.ret (e x))else some (.next ()))->fk F l i ()=if fy (l.map e)=0 then some (.inl ())else some (.inr (fy (l.map e)))
 |[],i,_=>by simp[fy]|x::l,i,h=>by
  rw[gf,h i x aa2]
  by_cases he:e x=0
  ·simp only[he,fy,oe,ne_eq,PC,iU,dI,fh,if_true];exact pM e l (i+1) λj y a=>h j y (by simp[a])
  ·simp[he,fy]
def xg(p:α->β->Bool):List α->List β->Bool
 |x::l,y::m=>p x y&&xg p l m|[],[]=>true|_,_=>false
def A0{F:Int->α->Unit->Option (gm Unit Bool)}(p:α->β->Bool)(M:List β):∀(l:List α) (i:Nat) (m:List β),m=M.drop i->l.length=m.length->(∀(k:Nat) x y,x∈l->M[k]?=some y->F (k:Int) x ()=if p x y then some (.next ())else some (.ret false))->fk F l i ()=if xg p l m then some (.inl ())else some (.inr false)
 |[],i,m,_,d,_=>by
  cases m with
  |nil=>simp[xg]|cons y m=>simp at d
 |x::l,i,m,hm,d,h=>by
  cases m with
  |nil=>simp at d
  |cons y m=>
   have c:i<M.length:=by
    rcases vh i M.length with h'|h'
    ·exact h'
    ·rw[Oj h'] at hm;cases hm
   rw[Kd c] at hm;injection hm with j n;rw[gf,h i x y aa2 (by simp[c,j])];cases f:p x y with
   |false=>simp[xg,f]|true=>
    simp only[if_true,dI,fh,xg,f,Ht];exact A0 p M l (i+1) m n (by simpa using d) λk a b o q=>h k a b (by simp[o]) q
def A9(p:α->α->Bool):∀(l m:List α),(∀x∈l,∀y,p x y=true↔x=y)->(xg p l m=true↔l=m)
 |[],[],_=>by simp[xg]|[],_::_,_=>by simp[xg]|_::_,[],_=>by simp[xg]|x::l,y::m,h=>by simp[xg,h x aa2 y,A9 p l m λa b=>h a (by simp[b])]
def LF{F:σ->Option (gm σ ρ)}(I:σ->Prop)(μ:σ->Nat)(Q:σ⊕ρ->Prop)
  (h:∀s,I s->(∃a,F s=some (.next a)/\I a/\μ a<μ s)\/(∃a,F s=some (.yd a)/\Q (.inl a))\/(∃r,F s=some (.ret r)/\Q (.inr r))):∀(n:Nat) (s:σ),I s->μ s<n->∃o,js F n s=some o/\Q o
 |0,s,_,hn=>by omega|n+1,s,hs,hn=>by
  rw[hI];rcases h s hs with⟨a,b,c,d⟩|⟨a,b,c⟩|⟨r,b,c⟩
  ·rw[b];simp only[dI,fh];exact LF I μ Q h n a c VW
  ·rw[b];exact⟨_,rfl,c⟩
  ·rw[b];exact⟨_,rfl,c⟩
def ag0{n:Nat}(h:n<1000000000):n<FU:=by rw[fB];exact h
end
end Go.fD
namespace Go.fD
open Go
mutual
def Ty.ak7:Ty->Nat
 |.mk _ l=>1+Ty.nR l
def Ty.nR:List Ty->Nat
 |[]=>0|t::l=>t.ak7+Ty.nR l
end
def Ty.rO(l:List Ty):Ty.nR l=ei Ty.ak7 l:=by
 induction l with
 |nil=>rfl|cons t l ih=>simp[Ty.nR,ei,ih]
theorem Ty.dP(k:Int)(l:List Ty):(Ty.mk k l).ak7=1+ei Ty.ak7 l:=by rw[Ty.ak7,Ty.rO]
def Ty.eM(t:Ty):1<=t.ak7:=by cases t;rw[Ty.ak7];omega
def Ty.fV(l:List Ty):l.length<=ei Ty.ak7 l:=jh _ _ λt _=>t.eM
def Ty.want(k:Int):Option Nat:=if k=1\/k=2\/k=5 then some 0 else if k=3\/k=4 then some 2 else none
mutual
def Ty.ok:Ty->Bool
 |.mk k l=>decide (Ty.want k=some l.length)&&Ty.Lt l
def Ty.Lt:List Ty->Bool
 |[]=>true|t::l=>t.ok&&Ty.Lt l
end
def Ty.Bt(l:List Ty):Ty.Lt l=l.all Ty.ok:=by
 induction l with
 |nil=>rfl|cons t l ih=>simp[Ty.Lt,ih]
theorem Ty.hH(k:Int)(l:List Ty):(Ty.mk k l).ok=(decide (Ty.want k=some l.length)&&l.all Ty.ok):=by rw[Ty.ok,Ty.Bt]
def Ty.err(t:Ty):Int:=if t.ok then(if 64<t.ak7 then 4 else 0)else 2
def Kv:∀(n:Nat) (t:Ty),t.ak7<=n->t.ak7<=1000000000->iY n t=some t:=by
 intro n
 induction n with
 |zero=>intro t h;have:=t.eM;omega
 |succ n ih=>
  intro t h a;cases t with
  |mk k l=>
   rw[Ty.dP] at h a;have d:=Ty.fV l;rw[iY];simp only[Ty.eH,Ty.eL,eg,et (l:=l) VW,ec];rw[kq id l 0 [] acx]
   ·simp
   ·intro j x v b c;have:=eG Ty.ak7 b;rw[ih x VW VW];simp[fg (l:=v) (m:=[x]) (by simpa using c)]
def jm{t:Ty}(h:t.ak7<=1000000000):iY FU t=some t:=Kv FU t (by rw[fB];exact h) h
def Ej:∀(n:Nat) (t:Ty),t.ak7<=n->t.ak7<=1000000000->me n t=some (if t.ok then((t.ak7:Int),true)else(0,false)):=by
 intro n
 induction n with
 |zero=>intro t h;have:=t.eM;omega
 |succ n ih=>
  intro t h u;cases t with
  |mk k l=>
   rw[Ty.dP] at h u;have A:=Ty.fV l
   have key:fk (λ(q:Int) (c:Ty) (d:Int)=>dU (me n c) λf i=>if i then some (gm.next (eS .i64 d f))else some (gm.ret ((0:Int),false))) l 0 1=if l.all Ty.ok then some (.inl ((1+ei Ty.ak7 l:Nat):Int))else some (.inr (0,false)):=by
    refine wx Ty.ak7 Ty.ok _ l 0 1 VW ?_;intro j x v w;have:=eG Ty.ak7 w;rw[ih x VW VW];cases x.ok<;>simp
   rw[me];simp only[Ty.eH,Ty.eL,eg,et (l:=l) VW,ec,key,lU,tR,fZ,ez,fM,Ty.hH,Ty.dP,Ty.want]
   by_cases r:k=1\/k=2\/k=5
   ·simp only[r,if_true]
    by_cases b:l=[]
    ·subst b;simp[ei]
    ·have:¬(0=l.length):=by cases l with|nil=>exact absurd rfl b|cons a l=>simp
     have o:(l.length:Int)≠0:=VW
     simp[this,o,b]
   ·simp only[r,iU]
    by_cases b:k=3\/k=4
    ·simp only[b,if_true]
     by_cases o:l.length=2
     ·cases s:l.all Ty.ok<;>simp[o]
     ·have s:(l.length:Int)≠2:=VW
      have y:¬2=l.length:=VW
      simp[s,y]
    ·simp[b]
theorem lq{t:Ty}(h:t.ak7<=1000000000):iW t=some (if t.err=0 then(t.ak7:Int)else 0,t.err):=by
 unfold iW Ty.err;rw[Ej FU t (by rw[fB];exact h) h];cases t.ok with
 |false=>simp|true=>
  by_cases a:64<t.ak7
  ·simp[a];omega
  ·simp[a];omega
def Ji{t:Ty}(h:t.ak7<=1000000000):rF t=some t.err:=by
 unfold rF;rw[lq h];rfl
def Ty.rH(t:Ty):Bool:=fv (eo t.ak5 0) (eo (eA t.ak6) 0) false
theorem Ty.mI(t:Ty):t.rH=true↔t=.mk 0 []:=by
 cases t with
 |mk k l=>unfold Ty.rH;simp
theorem r8(t:Ty):nZ t=some t.rH:=rfl
def xF(t:Ty):pD t=some t.rH:=rfl
def IL:∀(n:Nat) (t:Ty),t.ak7<=n->t.ak7<=1000000000->p0 n t=some t.ok:=by
 intro n
 induction n with
 |zero=>intro t h;have:=t.eM;omega
 |succ n ih=>
  intro t h r;cases t with
  |mk k l=>
   rw[Ty.dP] at h r;have v:=Ty.fV l
   have key:fk (λ(i:Int) (c:Ty) (_:Unit)=>dH (p0 n c) λd=>if d then some (gm.next ())else some (gm.ret false)) l 0 ()=if l.all Ty.ok then some (.inl ())else some (.inr false):=by
    refine qX Ty.ok _ l 0 ?_;intro j x s;have:=eG Ty.ak7 s;rw[ih x VW VW];rfl
   rw[p0];simp only[Ty.eH,Ty.eL,eg,et (l:=l) VW,ec,key,lU,tR,fZ,ez,fM,Ty.hH,Ty.want]
   by_cases o:k=1\/k=2\/k=5
   ·simp only[o,if_true]
    by_cases b:l=[]
    ·subst b;simp
    ·have:¬(0=l.length):=by cases l with|nil=>exact absurd rfl b|cons a l=>simp
     have f:(l.length:Int)≠0:=VW
     simp[this,f,b]
   ·simp only[o,iU]
    by_cases b:k=3\/k=4
    ·simp only[b,if_true]
     by_cases f:l.length=2
     ·cases q:l.all Ty.ok<;>simp[f]
     ·have q:(l.length:Int)≠2:=VW
      have u:¬2=l.length:=VW
      simp[q,u]
    ·simp[b]
def CB:∀(n:Nat) (t:Ty),t.ak7<=n->t.ak7<=1000000000->pT n t=some (t.ak7:Int):=by
 intro n
 induction n with
 |zero=>intro t h;have:=t.eM;omega
 |succ n ih=>
  intro t h a;cases t with
  |mk k l=>
   rw[Ty.dP] at h a;have c:=Ty.fV l;rw[pT];simp only[Ty.eH,eg,et (l:=l) VW,ec]
   have key:=pL (ρ:=Int) (F:=λ(j:Int) (x:Ty) (v:Int)=>dH (pT n x) λy=>some (gm.next (eS .i64 v y))) Ty.ak7 l 0 1 VW (by
    intro j x v b;have:=eG Ty.ak7 b;rw[ih x VW VW]
    rfl)
   rw[show(1:Int)=((1:Nat):Int)from rfl,key];simp[Ty.dP]
def km{t:Ty}(h:t.ak7<=1000000000):il t=some t.err:=by
 unfold il Ty.err;rw[IL FU t (by rw[fB];exact h) h,CB FU t (by rw[fB];exact h) h];cases t.ok with
 |false=>simp|true=>by_cases a:64<t.ak7<;>simp[a]<;>omega
def xz:∀(n:Nat) (a b:Ty),a.ak7<=n->a.ak7<=1000000000->∃r,fm n a b=some r/\(r=true↔a=b):=by
 intro n
 induction n with
 |zero=>intro t b h;have:=t.eM;omega
 |succ n ih=>
  intro a b h s;cases a with
  |mk k l=>
  cases b with
  |mk k' m=>
   rw[Ty.dP] at h s;have v:=Ty.fV l;rw[fm];simp only[Ty.eH,Ty.eL,eg,et (l:=l) VW,ec,lU,tR,ez,fM]
   by_cases d:k≠k'\/(l.length:Int)≠m.length
   ·rw[dR d];refine⟨false,rfl,?_⟩;simp only[oz,Ug,Ty.mk.injEq,not_and];rintro rfl rfl;simp at d
   ·rw[dK d];simp only[not_or,w5] at d;obtain⟨rfl,hlen⟩:=d
    have c:l.length=m.length:=VW
    let p:Ty->Ty->Bool:=λx y=>(fm n x y).getD false
    have o:∀x∈l,∀y,fm n x y=some (p x y)/\(p x y=true↔x=y):=by
     intro x f y;have:=eG Ty.ak7 f;obtain⟨r,q,i⟩:=ih x y VW VW
     have e:p x y=r:=by show(fm n x y).getD false=r;rw[q];rfl
     rw[e];exact⟨q,i⟩
    have key:=A0 (F:=λ(j:Int) (x:Ty) (_:Unit)=>dH (dW m j) λy=>dH (fm n x y) λz=>if z then some (gm.next ())else some (gm.ret false)) p m l 0 m rfl c (by
     intro k x y f u;rw[gX,u];simp only[dI];rw[(o x f y).1]
     rfl)
    rw[key];have he:=A9 p l m λx f y=>(o x f y).2;cases i:xg p l m with
    |false=>exact⟨false,rfl,by rw[i] at he;simpa using he⟩
    |true=>exact⟨true,rfl,by rw[i] at he;simpa using he⟩
noncomputable def Ty.jY (a b:Ty):Bool:=@decide (a=b) (Classical.propDecidable _)
theorem Ty.kv(a b:Ty):a.jY b=true↔a=b:=by unfold Ty.jY;simp
theorem iB{a b:Ty}(h:a.ak7<=1000000000):fm FU a b=some (a.jY b):=by
 obtain⟨r,c,d⟩:=xz FU a b (by rw[fB];exact h) h;rw[c]
 congr 1
 rw[Hj,d,Ty.kv]
mutual
def Tm.ak7:Tm->Nat
 |.mk _ _ _ l=>1+Tm.nR l
def Tm.nR:List Tm->Nat
 |[]=>0|t::l=>t.ak7+Tm.nR l
end
def Tm.rO(l:List Tm):Tm.nR l=ei Tm.ak7 l:=by
 induction l with
 |nil=>rfl|cons t l ih=>simp[Tm.nR,ei,ih]
theorem Tm.dP(k i:Int)(s:Ty)(l:List Tm):(Tm.mk k i s l).ak7=1+ei Tm.ak7 l:=by rw[Tm.ak7,Tm.rO]
def Tm.eM(t:Tm):1<=t.ak7:=by cases t;rw[Tm.ak7];omega
def Tm.fV(l:List Tm):l.length<=ei Tm.ak7 l:=jh _ _ λt _=>t.eM
mutual
def Tm.wt:Tm->Nat
 |.mk _ _ s l=>1+s.ak7+Tm.Qa l
def Tm.Qa:List Tm->Nat
 |[]=>0|t::l=>t.wt+Tm.Qa l
end
def Tm.Fe(l:List Tm):Tm.Qa l=ei Tm.wt l:=by
 induction l with
 |nil=>rfl|cons t l ih=>simp[Tm.Qa,ei,ih]
theorem Tm.iA(k i:Int)(s:Ty)(l:List Tm):(Tm.mk k i s l).wt=1+s.ak7+ei Tm.wt l:=by rw[Tm.wt,Tm.Fe]
def Tm.kb(t:Tm):1<=t.wt:=by cases t;rw[Tm.wt];omega
def Tm.tD(l:List Tm):l.length<=ei Tm.wt l:=jh _ _ λt _=>t.kb
def kZ{α:Type}{f g:α->Nat}{l:List α}(h:∀x∈l,f x<=g x):ei f l<=ei g l:=by
 induction l with
 |nil=>simp[ei]|cons x l ih=>simp only[ei];have:=h x aa2;have:=ih λy a=>h y (by simp[a]);omega
def mo{α β:Type}(f:β->Nat)(g:α->β)(l:List α):ei f (l.map g)=ei (λx=>f (g x)) l:=by
 induction l with
 |nil=>rfl|cons x l ih=>simp[ei,ih]
def pN{α:Type}{f g:α->Nat}{l:List α}(h:∀x∈l,f x=g x):ei f l=ei g l:=by
 induction l with
 |nil=>rfl|cons x l ih=>simp[ei,h x aa2,ih λy a=>h y (by simp[a])]
def GV{α:Type}(f:α->Nat)(l m:List α):ei f (l++m)=ei f l+ei f m:=by
 induction l with
 |nil=>simp[ei]|cons x l ih=>simp[ei,ih];omega
def Tm.ind{p:Tm->Prop}(h:∀k i s l,(∀t∈l,p t)->p (.mk k i s l))(t:Tm):p t:=by
 have:∀n (t:Tm),t.ak7<=n->p t:=by
  intro n
  induction n with
  |zero=>intro t a;have:=t.eM;omega
  |succ n ih=>
   intro t a;cases t with
   |mk k i s l=>
    rw[Tm.dP] at a;exact h k i s l λu hu=>ih u (by have:=eG Tm.ak7 hu;omega)
 exact this _ t (gY _)
def Tm.ik(t:Tm):t.ak7<=t.wt:=by
 induction t using Tm.ind with
 |h k i s l ih=>rw[Tm.dP,Tm.iA];have:=kZ ih;omega
def j5(k:Int):Bool:=decide (k=2\/k=6\/k=9)
def gU(k:Int):Int:=
 if k=1\/k=4\/k=7\/k=13 then 0 else if k=2\/k=5\/k=11\/k=12 then 1 else if k=3\/k=8\/k=10 then 2 else if k=6\/k=9 then 3 else-1
def Tm.node(k i:Int)(s:Ty)(n:Nat):Bool:=
 decide ((n:Int)=gU k)&&decide (0<=i)&&(decide (k=1)||decide (i=0))&&(if j5 k then decide (s.err=0)else s.rH)
mutual
def Tm.ok:Tm->Bool
 |.mk k i s l=>Tm.node k i s l.length&&Tm.Lt l
def Tm.Lt:List Tm->Bool
 |[]=>true|t::l=>t.ok&&Tm.Lt l
end
def Tm.Bt(l:List Tm):Tm.Lt l=l.all Tm.ok:=by
 induction l with
 |nil=>rfl|cons t l ih=>simp[Tm.Lt,ih]
theorem Tm.hH(k i:Int)(s:Ty)(l:List Tm):(Tm.mk k i s l).ok=(Tm.node k i s l.length&&l.all Tm.ok):=by rw[Tm.ok,Tm.Bt]
def Tm.err(t:Tm):Int:=if t.ok then(if 4096<t.ak7 then 4 else 0)else 2
def Ka:∀(n:Nat) (t:Tm),t.wt<=n->t.wt<=1000000000->lF n t=some t:=by
 intro n
 induction n with
 |zero=>intro t h;have:=t.kb;omega
 |succ n ih=>
  intro t h a;cases t with
  |mk k i s l=>
   rw[Tm.iA] at h a;have d:=Tm.tD l;rw[lF];simp only[Tm.eH,Tm.eL,Tm.iC,Tm.fK,eg,et (l:=l) VW,ec];rw[kq id l 0 [] acx]
   ·simp[jm (t:=s) VW]
   ·intro j x v b c;have:=eG Tm.wt b;rw[ih x VW VW];simp[fg (l:=v) (m:=[x]) (by simpa using c)]
def uM{t:Tm}(h:t.wt<=1000000000):lF FU t=some t:=Ka FU t (by rw[fB];exact h) h
def po(k:Int)(l:List Tm)(h:ei Tm.wt l<=1000000000):fQ k l=some (Tm.mk k 0 (.mk 0 []) l):=by
 have c:=Tm.tD l;unfold fQ;simp only[eg,et (l:=l) VW,ec];rw[kq id l 0 [] acx]
 ·simp
 ·intro j x v a b;have:=eG Tm.wt a;rw[uM (t:=x) VW];simp[fg (l:=v) (m:=[x]) (by simpa using b)]
def I4(k:Int)(s:Ty)(l:List Tm)(hs:s.ak7<=1000000000)(h:ei Tm.wt l<=1000000000):lu k s l=some (Tm.mk k 0 s l):=by
 unfold lu;rw[po k l h];simp[jm hs]
def J6(k:Int):wv k=some (gU k):=by
 unfold wv gU;simp only[lU,tR,fZ]
 split<;>(try rfl)
 split<;>(try rfl)
 split<;>(try rfl)
 split<;>rfl
def nJ:∀(n:Nat) (t:Tm),t.ak7<=n->t.ak7<=1000000000->fU n t=some (t.ak7:Int):=by
 intro n
 induction n with
 |zero=>intro t h;have:=t.eM;omega
 |succ n ih=>
  intro t h a;cases t with
  |mk k i s l=>
   rw[Tm.dP] at h a;have c:=Tm.fV l;rw[fU];simp only[Tm.eH,eg,et (l:=l) VW,ec]
   have key:=pL (ρ:=Int) (F:=λ(j:Int) (x:Tm) (v:Int)=>dH (fU n x) λy=>some (gm.next (eS .i64 v y))) Tm.ak7 l 0 1 VW (by
    intro j x v b;have:=eG Tm.ak7 b;rw[ih x VW VW]
    rfl)
   rw[show(1:Int)=((1:Nat):Int)from rfl,key];simp[Tm.dP]
def By:∀(n:Nat) (t:Tm),t.wt<=n->t.wt<=1000000000->kH n t=some t.ok:=by
 intro n
 induction n with
 |zero=>intro t h;have:=t.kb;omega
 |succ n ih=>
  intro t h v;cases t with
  |mk k i s l=>
   rw[Tm.iA] at h v;have D:=Tm.tD l
   have key:fk (λ(o:Int) (a:Tm) (_:Unit)=>dH (kH n a) λb=>if b then some (gm.next ())else some (gm.ret false)) l 0 ()=if l.all Tm.ok then some (.inl ())else some (.inr false):=by
    refine qX Tm.ok _ l 0 ?_;intro j x w;have:=eG Tm.wt w;rw[ih x VW VW];rfl
   rw[kH]
   simp only[Tm.eH,Tm.eL,Tm.iC,Tm.fK,eg,et (l:=l) VW,ec,key,lU,tR,fZ,ez,j3,fM,Tm.hH,J6,dI,km (t:=s) VW,xF]
   by_cases d:(l.length:Int)=gU k
   ·by_cases q:i<0
    ·have:¬0<=i:=VW
     simp[d,q,Tm.node,this]
    ·have y:0<=i:=VW
     by_cases r:k=1
     ·subst r;cases c:s.rH<;>cases f:l.all Tm.ok<;>simp_all [Tm.node,j5]
     ·by_cases c:i=0
      ·subst c;have u:eP 0 0=false:=rfl
       by_cases f:k=2\/k=6\/k=9
       ·have A:j5 k=true:=by simp[j5,f]
        by_cases B:s.err=0<;>cases C:l.all Tm.ok<;>simp_all [Tm.node]
       ·have A:j5 k=false:=by simp[j5,f]
        cases B:s.rH<;>cases C:l.all Tm.ok<;>simp_all [Tm.node]
      ·have u:eP i 0=true:=by simp[c]
       simp[d,q,r,c,u,Tm.node]
   ·simp[d,Tm.node]
def k8{t:Tm}(h:t.wt<=1000000000):lX t=some t.err:=by
 have:=t.ik;unfold lX Tm.err;rw[By FU t (by rw[fB];exact h) h,nJ FU t (by rw[fB];omega) VW];cases t.ok with
 |false=>simp|true=>by_cases a:4096<t.ak7<;>simp[a]<;>omega
def KF(k:Int):wD k=some (if 1<=k/\k<14 then(gU k,true)else(0,false)):=by
 unfold wD;simp only[lU,tR,j3,jk]
 by_cases h:k<1\/14<=k
 ·rw[dR h,dK VW]
 ·rw[dK h,dR VW]
  have:k=1\/k=2\/k=3\/k=4\/k=5\/k=6\/k=7\/k=8\/k=9\/k=10\/k=11\/k=12\/k=13:=VW
  rcases this with rfl|rfl|rfl|rfl|rfl|rfl|rfl|rfl|rfl|rfl|rfl|rfl|rfl<;>rfl
def Kw(k:Int):wK k=some (j5 k):=by
 unfold wK j5
 congr 1
 rw[Hj];simp
def Mb{k:Int}{n:Nat}(h:(n:Int)=gU k):1<=k/\k<14:=by
 unfold gU at h
 repeat' split at h
 all_goals omega
def xr:∀(n:Nat) (t:Tm),t.wt<=n->t.wt<=1000000000->jF n t=some (if t.ok then((t.ak7:Int),true)else(0,false)):=by
 intro n
 induction n with
 |zero=>intro t h;have:=t.kb;omega
 |succ n ih=>
  intro t h A;cases t with
  |mk k i s l=>
   rw[Tm.iA] at h A;have I:=Tm.tD l;have hn:ei Tm.ak7 l<=ei Tm.wt l:=kZ λx _=>x.ik
   have key:fk (λ(u:Int) (a:Tm) (b:Int)=>dU (jF n a) λc d=>if d then some (gm.next (eS .i64 b c))else some (gm.ret ((0:Int),false))) l 0 1=if l.all Tm.ok then some (.inl ((1+ei Tm.ak7 l:Nat):Int))else some (.inr (0,false)):=by
    refine wx Tm.ak7 Tm.ok _ l 0 1 VW ?_;intro j x v B;have:=eG Tm.wt B;rw[ih x VW VW];cases x.ok<;>simp
   rw[jF];simp only[Tm.eH,Tm.eL,Tm.iC,Tm.fK,eg,et (l:=l) VW,ec,key,Tm.hH,Tm.dP,KF,Kw,lq (t:=s) VW,r8,dI,dQ]
   by_cases f:(l.length:Int)=gU k
   ·have o:=Mb f;simp only[o,and_self,if_true,dQ,D7,lU,vz,tR,hD,ez,j3,fM,f,ne_eq,PC,false_or]
    by_cases w:i<0
    ·have:¬0<=i:=VW
     simp[w,Tm.node,this]
    ·have C:0<=i:=VW
     by_cases y:k=1
     ·subst y;cases q:s.rH<;>cases r:l.all Tm.ok<;>simp_all [Tm.node,j5]
     ·by_cases q:i=0
      ·subst q
       by_cases r:k=2\/k=6\/k=9
       ·have D:j5 k=true:=by simp[j5,r]
        by_cases F:s.err=0<;>cases G:l.all Tm.ok<;>simp_all [Tm.node]
       ·have D:j5 k=false:=by simp[j5,r]
        cases F:s.rH<;>cases G:l.all Tm.ok<;>simp_all [Tm.node]
      ·simp[w,y,q,Tm.node]
   ·have H:Tm.node k i s l.length=false:=by simp[Tm.node,f]
    simp only[H,Bool.false_and,oz,iU]
    by_cases o:1<=k/\k<14
    ·simp[o,f]
    ·simp[o]
def fE(k:Int):Int:=if k=2 then 1 else 0
def jl(k:Int):0<=fE k/\fE k<=1:=by unfold fE;split<;>omega
def nS(t:Tm):lj t=some (fE t.ak5):=by
 unfold lj fE;simp only[fZ]
 split<;>rfl
mutual
def Tm.up(f b:Int):Tm->Tm
 |.mk k i s l=>.mk k (if k=1/\f<=i then i+b else i) s (Tm.Y3 (f+fE k) b l)
def Tm.Y3(f b:Int):List Tm->List Tm
 |[]=>[]|t::l=>t.up f b::Tm.Y3 f b l
end
def Tm.QV(f b:Int)(l:List Tm):Tm.Y3 f b l=l.map (Tm.up f b):=by
 induction l with
 |nil=>rfl|cons t l ih=>simp[Tm.Y3,ih]
theorem Tm.fJ(f b k i:Int)(s:Ty)(l:List Tm):(Tm.mk k i s l).up f b=.mk k (if k=1/\f<=i then i+b else i) s (l.map (Tm.up (f+fE k) b)):=by rw[Tm.up,Tm.QV]
mutual
def Tm.ak'(m:Int):Tm->Bool
 |.mk _ i _ l=>decide (i<=m)&&Tm.vd m l
def Tm.vd(m:Int):List Tm->Bool
 |[]=>true|t::l=>t.ak' m&&Tm.vd m l
end
def Tm.FE(m:Int)(l:List Tm):Tm.vd m l=l.all (Tm.ak' m):=by
 induction l with
 |nil=>rfl|cons t l ih=>simp[Tm.vd,ih]
theorem Tm.fH(m k i:Int)(s:Ty)(l:List Tm):(Tm.mk k i s l).ak' m=(decide (i<=m)&&l.all (Tm.ak' m)):=by rw[Tm.ak',Tm.FE]
mutual
def Tm.alb(a:Int):Tm->Nat
 |.mk k i _ l=>(if k=1/\i=a then 1 else 0)+Tm.yO (a+fE k) l
def Tm.yO(a:Int):List Tm->Nat
 |[]=>0|t::l=>t.alb a+Tm.yO a l
end
def Tm.FW(a:Int)(l:List Tm):Tm.yO a l=ei (Tm.alb a) l:=by
 induction l with
 |nil=>rfl|cons t l ih=>simp[Tm.yO,ei,ih]
def Tm.fF(a k i:Int)(s:Ty)(l:List Tm):(Tm.mk k i s l).alb a=(if k=1/\i=a then 1 else 0)+ei (Tm.alb (a+fE k)) l:=by rw[Tm.alb,Tm.FW]
def Tm.pV(t:Tm):∀a,t.alb a<=t.ak7:=by
 induction t using Tm.ind with
 |h k i s l ih=>
  intro a;rw[Tm.fF,Tm.dP];have:=kZ (f:=Tm.alb (a+fE k)) (g:=Tm.ak7) (l:=l) λx b=>ih x b _
  split<;>omega
def Tm.nj(n i:Int)(s t:Tm):Tm:=if i=n then s.up 0 n else if n<i then .mk 1 (i-1) (.mk 0 []) [] else t
mutual
def Tm.gJ:Int->Tm->Tm->Tm
 |n,.mk k i ty l,s=>if k=1 then Tm.nj n i s (.mk k i ty l)else .mk k i ty (Tm.Hv (n+fE k) l s)
def Tm.Hv:Int->List Tm->Tm->List Tm
 |_,[],_=>[]|n,t::l,s=>Tm.gJ n t s::Tm.Hv n l s
end
def Tm.MV(n:Int)(s:Tm)(l:List Tm):Tm.Hv n l s=l.map (λx=>Tm.gJ n x s):=by
 induction l with
 |nil=>rfl|cons t l ih=>simp[Tm.Hv,ih]
theorem Tm.fO(n:Int)(s:Tm)(k i:Int)(ty:Ty)(l:List Tm):Tm.gJ n (Tm.mk k i ty l) s=if k=1 then Tm.nj n i s (.mk k i ty l)else .mk k i ty (l.map (λx=>Tm.gJ (n+fE k) x s)):=by rw[Tm.gJ,Tm.MV]
theorem Tm.pj(t:Tm):∀f b,(t.up f b).ak7=t.ak7:=by
 induction t using Tm.ind with
 |h k i s l ih=>
  intro f b;rw[Tm.fJ,Tm.dP,Tm.dP,mo];rw[pN λx a=>ih x a _ _]
def Tm.XO(t:Tm):∀f b,(t.up f b).wt=t.wt:=by
 induction t using Tm.ind with
 |h k i s l ih=>
  intro f b;rw[Tm.fJ,Tm.iA,Tm.iA,mo];rw[pN λx a=>ih x a _ _]
def xI{α β:Type}{p:β->Bool}{q:α->Bool}{g:α->β}{l:List α}(h:∀x∈l,p (g x)=q x):(l.map g).all p=l.all q:=by
 induction l with
 |nil=>rfl|cons x l ih=>simp only[oe,Nx,h x aa2,ih λy a=>h y (by simp[a])]
def Tm.P6{k i j:Int}{s:Ty}{n:Nat}(h:k=1/\0<=i/\0<=j\/i=j):Tm.node k i s n=Tm.node k j s n:=by
 rcases h with⟨rfl,a,b⟩|rfl
 ·simp[Tm.node,a,b]
 ·rfl
theorem Tm.Pt(t:Tm):∀f b,0<=f->0<=b->(t.up f b).ok=t.ok:=by
 induction t using Tm.ind with
 |h k i s l ih=>
  intro f b d a;rw[Tm.fJ,Tm.hH,Tm.hH,Dh,xI λx c=>ih x c (f+fE k) b (by have:=jl k;omega) a]
  congr 1
  apply Tm.P6
  split
  ·rename_i j;left;omega
  ·right;rfl
def Ap:∀(n:Nat) (t:Tm) (m:Int),t.ak7<=n->t.ak7<=1000000000->lh n t m=some (t.ak' m):=by
 intro n
 induction n with
 |zero=>intro t m h;have:=t.eM;omega
 |succ n ih=>
  intro t m h f;cases t with
  |mk k i s l=>
   rw[Tm.dP] at h f;have q:=Tm.fV l
   have key:fk (λ(c:Int) (a:Tm) (_:Unit)=>dH (lh n a m) λb=>if b then some (gm.next ())else some (gm.ret false)) l 0 ()=if l.all (Tm.ak' m) then some (.inl ())else some (.inr false):=by
    refine qX (Tm.ak' m) _ l 0 ?_;intro j x o;have:=eG Tm.ak7 o;rw[ih x m VW VW];rfl
   rw[lh];simp only[Tm.eH,Tm.iC,eg,et (l:=l) VW,ec,key,iD,Tm.fH]
   by_cases d:m<i
   ·have:¬i<=m:=VW
    simp[d,this]
   ·have:i<=m:=VW
    cases r:l.all (Tm.ak' m)<;>simp[d,this]
def GO:∀(n:Nat) (t:Tm) (f b:Int),t.ak7<=n->t.ak7<=1000000000->0<=f->f+t.ak7<=10000000000->0<=b->b<=10000000000->t.ak' 1000000000000=true->r_ n t f b=some (t.up f b):=by
 intro n
 induction n with
 |zero=>intro t f b h;have:=t.eM;omega
 |succ n ih=>
  intro t f b h a B c u d hi;cases t with
  |mk k i s l=>
   rw[Tm.dP] at h a c;rw[Tm.fH] at hi;simp only[hD,oy,k_] at hi;have C:=Tm.fV l;have D:=jl k;rw[r_];simp only[Tm.eH,Tm.iC,Tm.eL,Tm.fK,eg,et (l:=l) VW,ec];rw[kq (Tm.up (f+fE k) b) l 0 [] acx]
   ·rw[Tm.fJ];simp only[dI,eB,nT,B9,Tm.mk.injEq,Pc,AK]
    by_cases o:k=1/\f<=i
    ·obtain⟨rfl,q⟩:=o;rw[fX VW VW];have w:eo 1 1=true:=rfl
     have y:pd i f=true:=by simp[q]
     simp[w,y,q]
    ·rw[dK o]
     have e:fv (eo k 1) (pd i f) false=false:=by
      rw[vz,Wk];simp only[ne_eq,hD,fZ,jk];exact o
     rw[e];rfl
   ·intro j x v r A;have:=eG Tm.ak7 r;rw[nS];simp only[dI,Tm.eL];rw[fX VW VW,ih x (f+fE k) b VW VW VW VW u d (hi.2 x r)];simp[fg (l:=v) (m:=[x.up (f+fE k) b]) (by simpa using A)]
def Bq:∀(n:Nat) (t:Tm) (a:Int),t.ak7<=n->t.ak7<=1000000000->0<=a->a+t.ak7<=10000000000->m0 n t a=some (t.alb a:Int):=by
 intro n
 induction n with
 |zero=>intro t a h;have:=t.eM;omega
 |succ n ih=>
  intro t a h c u d;cases t with
  |mk k i s l=>
   rw[Tm.dP] at h c d;have w:=Tm.fV l;have A:=jl k;have o:ei (Tm.alb (a+fE k)) l<=ei Tm.ak7 l:=kZ λx _=>x.pV _;rw[m0];simp only[Tm.eH,Tm.iC,Tm.eL,eg,et (l:=l) VW,ec]
   have q:fv (fv (eo k 1) (eo i a) false) (eS .i64 0 1) 0=(((if k=1/\i=a then 1 else 0:Nat)):Int):=by
    by_cases f:k=1/\i=a
    ·obtain⟨rfl,rfl⟩:=f;simp[eo,fv,eS,HO]
    ·have e:fv (eo k 1) (eo i a) false=false:=by
      rw[vz,Wk];simp only[ne_eq,hD,fZ];exact f
     rw[e,dK f];rfl
   have key:=pL (ρ:=Int) (F:=λ(j:Int) (x:Tm) (v:Int)=>dH (lj (Tm.mk k i s l)) λb=>dH (m0 n x (eS .i64 a b)) λy=>some (gm.next (eS .i64 v y)))
    (Tm.alb (a+fE k)) l 0 (if k=1/\i=a then 1 else 0) (by split<;>omega) (by
    intro j x v r;have:=eG Tm.ak7 r;rw[nS];simp only[dI,Tm.eL];rw[fX VW VW,ih x _ VW VW VW VW]
    rfl)
   rw[q,key];simp[Tm.fF]
def GM:∀(n:Nat) (t:Tm) (a b:Int) (s:Tm),t.ak7<=n->t.ak7<=1000000000->0<=a->0<=b->a+b+t.ak7<=5000000000->t.ak' 1000000000000=true->t.ok=true->s.ak7<=1000000000->s.ak' 1000000000000=true->wX n t a b s=some (Tm.gJ (a+b) t s):=by
 intro n
 induction n with
 |zero=>intro t a b s h;have:=t.eM;omega
 |succ n ih=>
  intro t a b s h r y C u hi c hs d;cases t with
  |mk k i ty l=>
   rw[Tm.dP] at h r u;rw[Tm.fH] at hi;rw[Tm.hH] at c;simp only[hD,oy,k_] at hi c;have D:=Tm.fV l;have F:=jl k
   have A:0<=i:=by
    have:=c.1;simp only[Tm.node,hD,oy] at this;exact this.1.1.2
   rw[wX,Tm.fO];simp only[Tm.eH,Tm.iC,Tm.eL,Tm.fK,eg,et (l:=l) VW,ec,fZ];rw[fX VW VW]
   by_cases f:k=1
   ·rw[dR f,dR f];unfold Tm.nj
    by_cases o:i=a+b
    ·rw[dR o,dR o,GO FU s 0 (a+b) (by rw[fB];exact hs) hs VW VW VW VW d];rfl
    ·rw[dK o,dK o];simp only[iD]
     by_cases q:a+b<i
     ·rw[dR q,dR q,fT VW VW];rfl
     ·rw[dK q,dK q]
   ·rw[dK f,dK f];rw[kq (λx=>Tm.gJ (a+b+fE k) x s) l 0 [] acx]
    ·simp
    ·intro j x v w B;have:=eG Tm.ak7 w;rw[nS];simp only[dI,Tm.eL];rw[fX VW VW,ih x a (b+fE k) s VW VW y VW VW (hi.2 x w) (c.2 x w) hs d];rw[show a+(b+fE k)=a+b+fE k by omega];simp[fg (l:=v) (m:=[Tm.gJ (a+b+fE k) x s]) (by simpa using B)]
def Tm.BS(s t:Tm):∀n,t.ok=true->(Tm.gJ n t s).ak7+t.alb n=t.ak7+t.alb n*s.ak7:=by
 induction t using Tm.ind with
 |h k i ty l ih=>
  intro n a;rw[Tm.hH] at a;simp only[hD,k_] at a;rw[Tm.fO,Tm.fF,Tm.dP]
  by_cases d:k=1
  ·subst d
   have o:l=[]:=by
    have:=a.1;simp only[Tm.node,hD,oy] at this;have h:=this.1.1.1;simp[gU] at h;exact h
   subst o;simp only[if_true,Tm.nj,ei,F2,AK]
   by_cases f:i=n
   ·simp[f,Tm.pj];omega
   ·by_cases q:n<i<;>simp[f,q,Tm.dP,ei]
  ·simp only[d,iU,Jr,Aa];rw[Tm.dP,mo]
   have:ei (λx=>(Tm.gJ (n+fE k) x s).ak7) l+ei (Tm.alb (n+fE k)) l=ei Tm.ak7 l+ei (Tm.alb (n+fE k)) l*s.ak7:=by
    have b:∀x∈l,(Tm.gJ (n+fE k) x s).ak7+x.alb (n+fE k)=x.ak7+x.alb (n+fE k)*s.ak7:=λx c=>ih x c _ (a.2 x c);clear ih a
    induction l with
    |nil=>simp[ei]|cons y l j=>
     have d:=b y aa2;have f:=j λx c=>b x (by simp[c]);simp only[ei,C9];omega
   omega
def Tm.Me(s:Tm)(hs:s.ok=true)(t:Tm):∀n,0<=n->t.ok=true->(Tm.gJ n t s).ok=true:=by
 induction t using Tm.ind with
 |h k i ty l ih=>
  intro n hn a;have b:=a;rw[Tm.hH] at a;simp only[hD,k_] at a;rw[Tm.fO]
  by_cases d:k=1
  ·subst d;simp only[if_true,Tm.nj]
   by_cases c:i=n
   ·simp only[c,if_true];rw[Tm.Pt s 0 n VW hn];exact hs
   ·by_cases f:n<i
    ·simp only[c,f,iU,if_true];rw[Tm.hH]
     have o:1<=i:=VW
     simp[Tm.node,gU,j5,o,Ty.rH,eo]
    ·simp only[c,f,iU];exact b
  ·simp only[d,iU];rw[Tm.hH,Dh];simp only[hD,k_,qp];refine⟨a.1,?_⟩;rintro _ ⟨x,j,rfl⟩;exact ih x j _ (by have:=jl k;omega) (a.2 x j)
mutual
def Tm.fr:Tm->Int
 |.mk k i _ l=>if k=1 then i+1 else if k=2 then imax 0 (Tm.frL 0 l-1)else Tm.frL 0 l
def Tm.frL(m:Int):List Tm->Int
 |[]=>m|t::l=>Tm.frL (imax m t.fr) l
end
def map_id'{α:Type}{g:α->α}{l:List α}(h:∀x∈l,g x=x):l.map g=l:=by
 induction l with
 |nil=>rfl|cons x l ih=>simp only[oe,h x aa2,ih λy a=>h y (by simp[a])]
def Tm.tB{k i:Int}{s:Ty}{l:List Tm}(h:(Tm.mk k i s l).ok=true):(k=1->l=[])/\0<=i/\(k≠1->i=0)/\(∀t∈l,t.ok=true)/\(l.length:Int)=gU k:=by
 rw[Tm.hH] at h;simp only[hD,k_,oy,Tm.node,tR] at h;obtain⟨⟨⟨⟨a,b⟩,c⟩,j⟩,d⟩:=h;refine⟨?_,b,λf=>c.resolve_left f,d,a⟩;rintro rfl;have:(l.length:Int)=0:=a;exact B_ VW
def Tm.aaE(t:Tm):∀f,t.up f 0=t:=by
 induction t using Tm.ind with
 |h k i s l ih=>
  intro f;rw[Tm.fJ,map_id' λx a=>ih x a _]
  congr 1
  split<;>omega
def FC{α:Type}{g:α->Nat}{l:List α}(h:∀x∈l,g x=0):ei g l=0:=by
 induction l with
 |nil=>rfl|cons x l ih=>simp[ei,h x aa2,ih λy a=>h y (by simp[a])]
def Tm.kd:Option Tm->Int
 |some t=>t.ak5|none=>0
def Tm.root:Tm->Bool
 |.mk k _ _ l=>(decide (k=3)&&decide (Tm.kd l[0]?=2))||(decide (k=6)&&(decide (Tm.kd l[2]?=4)||decide (Tm.kd l[2]?=5)))||(decide (k=9)&&(decide (Tm.kd l[2]?=7)||decide (Tm.kd l[2]?=8)))||
  ((decide (k=11)||decide (k=12))&&decide (Tm.kd l[0]?=10))
mutual
def Tm.nf:Tm->Bool
 |.mk k i s l=>!(Tm.mk k i s l).root&&Tm.nfL l
def Tm.nfL:List Tm->Bool
 |[]=>true|t::l=>t.nf&&Tm.nfL l
end
def Tm.acV(l:List Tm):Tm.nfL l=l.all Tm.nf:=by
 induction l with
 |nil=>rfl|cons t l ih=>simp[Tm.nfL,ih]
def Tm.abC(k i:Int)(s:Ty)(l:List Tm):(Tm.mk k i s l).nf=(!(Tm.mk k i s l).root&&l.all Tm.nf):=by rw[Tm.nf,Tm.acV]
def o8(f:Tm):List Tm->Tm
 |[]=>f|a::l=>o8 (.mk 3 0 (.mk 0 []) [f,a]) l
def Tm.fx:Tm->Tm
 |.mk k i s l=>
  if k=3 then(match l with|[.mk _ _ _ [b],a]=>Tm.gJ 0 b a|_=>.mk k i s l)
  else if k=11 then(match l with|[.mk _ _ _ (a::_)]=>a|_=>.mk k i s l)
  else if k=12 then(match l with|[.mk _ _ _ [_,b]]=>b|_=>.mk k i s l)
  else(match l with
   |[b,st,.mk _ _ _ []]=>b|[b,st,.mk _ _ _ [n]]=>o8 st [n,.mk k i s [b,st,n]]|[b,st,.mk _ _ _ [h,t]]=>o8 st [h,t,.mk k i s [b,st,t]]|_=>.mk k i s l)
mutual
inductive NR (nh:List HC):Nat->Tm->Prop
 |mk {p:Nat} {x:rT} {l:List Tm}:HC.Ha nh p=some x->NRL nh x.ak6 l->x.size=((Tm.mk x.ak5 x.ak8 x.M' l).ak7:Int)->x.free=(Tm.mk x.ak5 x.ak8 x.M' l).fr->(x.normal=true->(Tm.mk x.ak5 x.ak8 x.M' l).nf=true)->NR nh p (.mk x.ak5 x.ak8 x.M' l)
inductive NRL (nh:List HC):List (Option Nat)->List Tm->Prop
 |nil:NRL nh [] []|cons {p:Nat} {t:Tm} {ps:List (Option Nat)} {ts:List Tm}:NR nh p t->NRL nh ps ts->NRL nh (some p::ps) (t::ts)
end
structure Sm (M:Int) (t:Tm):Prop where
 ok:t.ok=true
 ak':t.ak' M=true
 ak7:t.ak7<=1000000
def Sm.arg{M k i:Int}{s:Ty}{l:List Tm}(h:Sm M (.mk k i s l)):∀t∈l,Sm M t:=by
 intro t a;have b:=h.ak';have c:=h.ak7;rw[Tm.fH] at b;simp only[hD,k_] at b;rw[Tm.dP] at c;exact⟨(Tm.tB h.ok).2.2.2.1 t a,b.2 t a,by have:=eG Tm.ak7 a;omega⟩
theorem Sm.mono{M N:Int}{t:Tm}(h:Sm M t)(hm:M<=N):Sm N t:=⟨h.ok,by
 have:∀t:Tm,t.ak' M=true->t.ak' N=true:=by
  intro t
  induction t using Tm.ind with
  |h k i s l ih=>
   rw[Tm.fH,Tm.fH];simp only[hD,k_,oy]
   exactλ⟨c,b⟩=>⟨VW,λx a=>ih x a (b x a)⟩
 exact this t h.ak',h.ak7⟩
def WQ{M b:Int}(d:0<=b)(t:Tm):∀f,t.ak' M=true->(t.up f b).ak' (M+b)=true:=by
 induction t using Tm.ind with
 |h k i s l ih=>
  intro f h;rw[Tm.fH] at h;simp only[hD,k_,oy] at h;rw[Tm.fJ,Tm.fH];simp only[hD,k_,oy];refine⟨by split<;>omega,?_⟩;intro x c;obtain⟨y,a,rfl⟩:=qp.1 c;exact ih y a _ (h.2 y a)
def SW{M N B:Int}(F:M<=B)(s:Tm)(hs:s.ak' N=true)(t:Tm):∀n,0<=n->N+n+t.ak7<=B->t.ak' M=true->t.ok=true->(Tm.gJ n t s).ak' B=true:=by
 induction t using Tm.ind with
 |h k i ty l ih=>
  intro n hn o d w;have q:=d;rw[Tm.fH] at d;simp only[hD,k_,oy] at d;obtain⟨o1,o2,G,A,H⟩:=Tm.tB w;rw[Tm.fO]
  have c:∀(u:Tm) {a b:Int},a<=b->u.ak' a=true->u.ak' b=true:=by
   intro u
   induction u using Tm.ind with
   |h k i s l ih=>
    intro a b r;rw[Tm.fH,Tm.fH];simp only[hD,k_,oy]
    exactλ⟨I,C⟩=>⟨VW,λx f=>ih x f r (C x f)⟩
  have J:1<=(Tm.mk k i ty l).ak7:=Tm.eM _
  by_cases v:k=1
  ·rw[dR v];unfold Tm.nj
   split
   ·exact c _ VW (WQ hn s 0 hs)
   ·split
    ·rw[Tm.fH];simp;omega
    ·exact c _ VW q
  ·rw[dK v,Tm.fH];simp only[hD,k_,oy];refine⟨VW,?_⟩;intro x f;obtain⟨y,j,rfl⟩:=qp.1 f;have D:=jl k;have hm:=eG Tm.ak7 j;rw[Tm.dP] at o;exact ih y j (n+fE k) VW VW (d.2 y j) (A y j)
def ET(a b:Int):eo a b=decide (a=b):=by grind[eo]
def ad4{α:Type}{l:List α}(h:l.length=1):∃a,l=[a]:=by
 match l,h with|[a],_=>exact⟨a,rfl⟩
def acW{α:Type}{l:List α}(h:l.length=2):∃a b,l=[a,b]:=by
 match l,h with|[a,b],_=>exact⟨a,b,rfl⟩
def agN{α:Type}{l:List α}(h:l.length=3):∃a b c,l=[a,b,c]:=by
 match l,h with|[a,b,c],_=>exact⟨a,b,c,rfl⟩
def Tm.sM{k i:Int}{s:Ty}{l:List Tm}(h:(Tm.mk k i s l).ok=true):(l.length:Int)=gU k:=(Tm.tB h).2.2.2.2
def Tm.ok3{i:Int}{s:Ty}{l:List Tm}(h:(Tm.mk 3 i s l).ok=true):∃a b,l=[a,b]:=acW (by have:=Tm.sM h;have e:gU 3=2:=rfl;omega)
def Tm.ok6{i:Int}{s:Ty}{l:List Tm}(h:(Tm.mk 6 i s l).ok=true):∃a b c,l=[a,b,c]:=agN (by have:=Tm.sM h;have e:gU 6=3:=rfl;omega)
def Tm.ok9{i:Int}{s:Ty}{l:List Tm}(h:(Tm.mk 9 i s l).ok=true):∃a b c,l=[a,b,c]:=agN (by have:=Tm.sM h;have e:gU 9=3:=rfl;omega)
def Tm.ok2{i:Int}{s:Ty}{l:List Tm}(h:(Tm.mk 2 i s l).ok=true):∃a,l=[a]:=ad4 (by have:=Tm.sM h;have e:gU 2=1:=rfl;omega)
def Tm.agM{k i:Int}{s:Ty}{l:List Tm}(b:k=11\/k=12)(h:(Tm.mk k i s l).ok=true):∃a,l=[a]:=ad4 (by
 have:=Tm.sM h;rcases b with rfl|rfl
 ·have e:gU 11=1:=rfl;omega
 ·have e:gU 12=1:=rfl;omega)
def Tm.ag5{i:Int}{s:Ty}{l:List Tm}(h:(Tm.mk 10 i s l).ok=true):∃a b,l=[a,b]:=acW (by have:=Tm.sM h;have e:gU 10=2:=rfl;omega)
def Tm.ok0{k i:Int}{s:Ty}{l:List Tm}(a:k=4\/k=7)(h:(Tm.mk k i s l).ok=true):l=[]:=B_ (by
 have:=Tm.sM h;rcases a with rfl|rfl
 ·have e:gU 4=0:=rfl;omega
 ·have e:gU 7=0:=rfl;omega)
def Tm.ok5{i:Int}{s:Ty}{l:List Tm}(h:(Tm.mk 5 i s l).ok=true):∃a,l=[a]:=ad4 (by have:=Tm.sM h;have e:gU 5=1:=rfl;omega)
def Tm.ok8{i:Int}{s:Ty}{l:List Tm}(h:(Tm.mk 8 i s l).ok=true):∃a b,l=[a,b]:=acW (by have:=Tm.sM h;have e:gU 8=2:=rfl;omega)
theorem Tm.ey{k i:Int}{s:Ty}{l:List Tm}(h:(Tm.mk k i s l).ok=true):∀t∈l,t.ok=true:=(Tm.tB h).2.2.2.1
inductive Tm.Rd:Tm->Prop
 |app {i s i' s' b a}:Tm.Rd (.mk 3 i s [.mk 2 i' s' [b],a])|zero {k ko i s i' s' b st}:(k=6/\ko=4\/k=9/\ko=7)->Tm.Rd (.mk k i s [b,st,.mk ko i' s' []])|succ {i s i' s' b st n}:Tm.Rd (.mk 6 i s [b,st,.mk 5 i' s' [n]])|cons {i s i' s' b st h t}:Tm.Rd (.mk 9 i s [b,st,.mk 8 i' s' [h,t]])|proj {k i s i' s' a b}:(k=11\/k=12)->Tm.Rd (.mk k i s [.mk 10 i' s' [a,b]])
def Tm.O0{t:Tm}(d:t.ok=true)(h:t.root=true):t.Rd:=by
 cases t with
 |mk k i s l=>
  unfold Tm.root at h;simp only[tR,hD,oy] at h;rcases h with((⟨rfl,h⟩|⟨rfl,h⟩)|⟨rfl,h⟩)|⟨f,h⟩
  ·obtain⟨a,b,rfl⟩:=Tm.ok3 d;cases a with
   |mk k' j o q=>
    have f:k'=2:=by simpa[Tm.kd] using h
    subst f;obtain⟨v,rfl⟩:=Tm.ok2 (Tm.ey d (.mk 2 j o q) aa2);exact .app
  ·obtain⟨a,b,c,rfl⟩:=Tm.ok6 d;cases c with
   |mk k' j o q=>
    have f:k'=4\/k'=5:=by simpa[Tm.kd] using h
    have r:=Tm.ey d (.mk k' j o q) aa2;rcases f with rfl|rfl
    ·rw[Tm.ok0 (.inl rfl) r];exact .zero (.inl ⟨rfl,rfl⟩)
    ·obtain⟨n,rfl⟩:=Tm.ok5 r;exact .succ
  ·obtain⟨a,b,c,rfl⟩:=Tm.ok9 d;cases c with
   |mk k' j o q=>
    have f:k'=7\/k'=8:=by simpa[Tm.kd] using h
    have r:=Tm.ey d (.mk k' j o q) aa2;rcases f with rfl|rfl
    ·rw[Tm.ok0 (.inr rfl) r];exact .zero (.inr ⟨rfl,rfl⟩)
    ·obtain⟨n,m,rfl⟩:=Tm.ok8 r;exact .cons
  ·obtain⟨a,rfl⟩:=Tm.agM f d;cases a with
   |mk k' j o q=>
    have u:k'=10:=by simpa[Tm.kd] using h
    subst u;obtain⟨a,b,rfl⟩:=Tm.ag5 (Tm.ey d (.mk 10 j o q) aa2);exact .proj f
def DC:∀(l:List Tm) (f:Tm),(o8 f l).ak7=f.ak7+ei Tm.ak7 l+l.length
 |[],f=>by simp[o8,ei]|a::l,f=>by
  rw[o8,DC l,Tm.dP]
  grind[ei]
def Hi:∀(n:Nat) (t:Ty),t.ak7<=n->t.ak7<=1000000000->ki n t=some t:=by
 intro n
 induction n with
 |zero=>intro t h;have:=t.eM;omega
 |succ n ih=>
  intro t h a;cases t with
  |mk k l=>
   rw[Ty.dP] at h a;have d:=Ty.fV l;rw[ki];simp only[Ty.eH,Ty.eL,eg,et (l:=l) VW,ec];rw[kq id l 0 [] acx]
   ·simp
   ·intro j x v b c;have:=eG Ty.ak7 b;rw[ih x VW VW];simp[fg (l:=v) (m:=[x]) (by simpa using c)]
def xM{t:Ty}(h:t.ak7<=1000000000):ki FU t=some t:=Hi FU t (by rw[fB];exact h) h
def Ty.Ko{k i:Int}{s:Ty}{n:Nat}(h:Tm.node k i s n=true):s.ak7<=64:=by
 unfold Tm.node at h;simp only[hD] at h;have a:=h.2
 by_cases b:j5 k=true
 ·rw[dR b] at a;simp only[oy] at a;unfold Ty.err at a
  split at a
  ·split at a
   ·omega
   ·omega
  ·omega
 ·rw[dK b] at a;rw[(Ty.mI s).1 a,Ty.dP];simp[ei]
mutual
def Tm.Kg(room:Int):Tm->Option (Option Tm)
 |.mk k i s l=>if(Tm.mk k i s l).root then(if((Tm.mk k i s l).fx.ak7:Int)-((Tm.mk k i s l).ak7:Int)>room then none else some (some (Tm.mk k i s l).fx))
  else match Tm.wc room l with
   |none=>none|some none=>some none|some (some a)=>some (some (.mk k i s a))
def Tm.wc(room:Int):List Tm->Option (Option (List Tm))
 |[]=>some none|t::l=>match t.Kg room with
  |none=>none|some (some a)=>some (some (a::l))|some none=>match Tm.wc room l with
   |none=>none|some none=>some none|some (some b)=>some (some (t::b))
end
theorem EX:∀(l:List Tm) (f:Tm),f.ok=true->(∀t∈l,t.ok=true)->(o8 f l).ok=true
 |[],f,h,_=>h|a::l,f,h,b=>by
  rw[o8];refine EX l _ ?_ λt d=>b t (by simp[d]);rw[Tm.hH];simp only[hD,k_];refine⟨rfl,?_⟩;intro x c;simp only[lQ,uU,tO] at c;rcases c with rfl|rfl
  ·exact h
  ·exact b _ aa2
def C_{M:Int}(b:0<=M):∀(l:List Tm) (f:Tm),f.ak' M=true->(∀t∈l,t.ak' M=true)->(o8 f l).ak' M=true
 |[],f,h,_=>h|a::l,f,h,c=>by
  rw[o8];refine C_ b l _ ?_ λt i=>c t (by simp[i]);rw[Tm.fH];simp only[hD,k_,oy];refine⟨b,?_⟩;intro x d;simp only[lQ,uU,tO] at d;rcases d with rfl|rfl
  ·exact h
  ·exact c _ aa2
theorem Tm.xk{k i:Int}{s:Ty}{l m:List Tm}(h:(Tm.mk k i s l).ok=true)(a:m.length=l.length)(hm:∀t∈m,t.ok=true):(Tm.mk k i s m).ok=true:=by
 rw[Tm.hH] at h|-;simp only[hD,k_] at h|-;rw[a];exact⟨h.1,hm⟩
def Tm.Dg{M k i:Int}{s:Ty}{l m:List Tm}(h:(Tm.mk k i s l).ak' M=true)(hm:∀t∈m,t.ak' M=true):(Tm.mk k i s m).ak' M=true:=by
 rw[Tm.fH] at h|-;simp only[hD,k_,oy] at h|-;exact⟨h.1,hm⟩
def W1{M:Int}(G:0<=M){t:Tm}(hs:Sm M t)(hn:t.ak7<=8192)(D:t.root=true):t.fx.ok=true/\t.fx.ak' (M+8192)=true:=by
 have y:=Tm.O0 hs.ok D;have up:∀u,Sm M u->u.ak' (M+8192)=true:=λu hu=>(hu.mono VW).ak';cases y with
 |app=>
  rename_i i s d f b a;have A:=hs.arg (.mk 2 d f [b]) aa2;have v:=hs.arg a aa2;have o:=A.arg b aa2;rw[Tm.dP] at hn;simp only[ei,Tm.dP] at hn
  have e:(Tm.mk 3 i s [.mk 2 d f [b],a]).fx=Tm.gJ 0 b a:=by simp[Tm.fx]
  rw[e];exact⟨Tm.Me a v.ok b 0 VW o.ok,SW (M:=M) (N:=M) VW a v.ak' b 0 VW VW o.ak' o.ok⟩
 |proj B=>
  rename_i k i s d f a b;have w:=hs.arg (.mk 10 d f [a,b]) aa2;rcases B with rfl|rfl
  ·have:=w.arg a aa2;simpa[Tm.fx] using And.intro this.ok (up _ this)
  ·have:=w.arg b aa2;simpa[Tm.fx] using And.intro this.ok (up _ this)
 |zero B=>
  rename_i k F i s d f b st
  have q:k≠3/\k≠11/\k≠12:=VW
  have:(Tm.mk k i s [b,st,.mk F d f []]).fx=b:=by simp[Tm.fx,q.1,q.2.1,q.2.2]
  rw[this];have:=hs.arg b aa2;exact⟨this.ok,up _ this⟩
 |succ=>
  rename_i i s d f b st n;have x:=hs.arg b aa2;have j:=hs.arg st aa2;have l:=(hs.arg (.mk 5 d f [n]) aa2).arg n aa2
  have e:(Tm.mk 6 i s [b,st,.mk 5 d f [n]]).fx=o8 st [n,.mk 6 i s [b,st,n]]:=by simp[Tm.fx,o8]
  rw[e];have r:(Tm.mk 6 i s [b,st,n]).ok=true:=Tm.xk hs.ok rfl (by intro t c;simp only[lQ,uU,tO] at c;rcases c with rfl|rfl|rfl;all_goals first|exact x.ok|exact j.ok|exact l.ok);have hle:(Tm.mk 6 i s [b,st,n]).ak' (M+8192)=true:=Tm.Dg (hs.mono VW).ak' (by intro t c;simp only[lQ,uU,tO] at c;rcases c with rfl|rfl|rfl;all_goals first|exact up _ x|exact up _ j|exact up _ l);refine⟨EX _ _ j.ok ?_,C_ VW _ _ (up _ j) ?_⟩<;>
  ·intro t c;simp only[lQ,uU,tO] at c;rcases c with rfl|rfl
   ·first|exact l.ok|exact up _ l
   ·first|exact r|exact hle
 |cons=>
  rename_i i s d f b st h n;have x:=hs.arg b aa2;have j:=hs.arg st aa2;have l:=(hs.arg (.mk 8 d f [h,n]) aa2).arg n aa2;have C:=(hs.arg (.mk 8 d f [h,n]) aa2).arg h aa2
  have e:(Tm.mk 9 i s [b,st,.mk 8 d f [h,n]]).fx=o8 st [h,n,.mk 9 i s [b,st,n]]:=by simp[Tm.fx,o8]
  rw[e];have r:(Tm.mk 9 i s [b,st,n]).ok=true:=Tm.xk hs.ok rfl (by intro t c;simp only[lQ,uU,tO] at c;rcases c with rfl|rfl|rfl;all_goals first|exact x.ok|exact j.ok|exact l.ok);have hle:(Tm.mk 9 i s [b,st,n]).ak' (M+8192)=true:=Tm.Dg (hs.mono VW).ak' (by intro t c;simp only[lQ,uU,tO] at c;rcases c with rfl|rfl|rfl;all_goals first|exact up _ x|exact up _ j|exact up _ l);refine⟨EX _ _ j.ok ?_,C_ VW _ _ (up _ j) ?_⟩<;>
  ·intro t c;simp only[lQ,uU,tO] at c;rcases c with rfl|rfl|rfl
   ·first|exact C.ok|exact up _ C
   ·first|exact l.ok|exact up _ l
   ·first|exact r|exact hle
def Tm.MC(room k i:Int)(s:Ty)(l:List Tm):(Tm.mk k i s l).Kg room=if(Tm.mk k i s l).root then(if((Tm.mk k i s l).fx.ak7:Int)-((Tm.mk k i s l).ak7:Int)>room then none else some (some (Tm.mk k i s l).fx))
 else match Tm.wc room l with
  |none=>none|some none=>some none|some (some a)=>some (some (.mk k i s a)):=by rw[Tm.Kg]
def W7{M room:Int}(w:0<=M)(t:Tm):Sm M t->t.ak7<=8192->∀f,t.Kg room=some (some f)->f.ok=true/\f.ak' (M+8192)=true/\(f.ak7:Int)<=t.ak7+room:=by
 induction t using Tm.ind with
 |h k i s l ih=>
  intro hs hn f h;rw[Tm.MC] at h
  by_cases j:(Tm.mk k i s l).root=true
  ·rw[dR j] at h
   split at h
   ·cases h
   ·obtain rfl:=kR (kR h);obtain⟨x,y⟩:=W1 w hs hn j;exact⟨x,y,VW⟩
  ·rw[dK j] at h;have up:∀u,Sm M u->u.ak' (M+8192)=true:=λu hu=>(hu.mono VW).ak';have n:=hn;rw[Tm.dP] at n
   have A:∀(ts a:List Tm),(∀t∈ts,t∈l)->Tm.wc room ts=some (some a)->a.length=ts.length/\(∀t∈a,t.ok=true/\t.ak' (M+8192)=true)/\(ei Tm.ak7 a:Int)<=ei Tm.ak7 ts+room:=by
    intro ts
    induction ts with
    |nil=>intro a _ h;rw[Tm.wc] at h;cases h
    |cons t ts o=>
     intro a hm h;rw[Tm.wc] at h;have b:=hm t aa2;have B:=eG Tm.ak7 b;have c:=hs.arg t b
     split at h
     ·cases h
     ·rename_i u hu;obtain rfl:=kR (kR h);obtain⟨a1,a2,a3⟩:=ih t b c VW u hu;refine⟨rfl,?_,by simp only[ei];omega⟩;intro v hv;rcases lQ.1 hv with rfl|hv
      ·exact⟨a1,a2⟩
      ·have:=hs.arg v (hm v (by simp[hv]));exact⟨this.ok,up _ this⟩
     ·split at h
      ·cases h
      ·cases h
      ·rename_i q d;obtain rfl:=kR (kR h);obtain⟨a1,a2,a3⟩:=o q (λu hu=>hm u (by simp[hu])) d;refine⟨by simp[a1],?_,by simp only[ei];omega⟩;intro v hv;rcases lQ.1 hv with rfl|hv
       ·exact⟨c.ok,up _ c⟩
       ·exact a2 v hv
   split at h
   ·cases h
   ·cases h
   ·rename_i q d;obtain rfl:=kR (kR h);obtain⟨a1,a2,a3⟩:=A l q (λt h=>h) d;refine⟨Tm.xk hs.ok a1 λt r=>(a2 t r).1,Tm.Dg (hs.mono VW).ak' λt r=>(a2 t r).2,?_⟩;rw[Tm.dP,Tm.dP];omega
def Fu(room:Int)(t:Tm):t.nf=true↔t.Kg room=some none:=by
 induction t using Tm.ind with
 |h k i s l ih=>
  rw[Tm.abC,Tm.MC]
  have f:∀ts:List Tm,(∀t∈ts,t∈l)->(ts.all Tm.nf=true↔Tm.wc room ts=some none):=by
   intro ts
   induction ts with
   |nil=>intro _;simp[Tm.wc]|cons t ts b=>
    intro hm;have j:=ih t (hm t aa2);have n:=b λu hu=>hm u (by simp[hu]);rw[Nx,hD,j,n,Tm.wc];constructor
    ·rintro⟨c,d⟩;rw[c,d]
    ·intro h
     split at h
     ·cases h
     ·cases h
     ·rename_i c
      split at h
      ·cases h
      ·rename_i d;exact⟨c,d⟩
      ·cases h
  have:=f l λt h=>h
  by_cases a:(Tm.mk k i s l).root=true
  ·rw[dR a,a];simp
   try(split<;>simp)
  ·rw[dK a];simp only[hD,ac2,this];constructor
   ·rintro⟨_,e⟩;rw[e]
   ·intro h;refine⟨by simpa using a,?_⟩
    split at h
    ·cases h
    ·rename_i e;exact e
    ·cases h
def JK{α:Type}(a:List α)(x y:α)(b:List α):(a++x::b).set a.length y=a++y::b:=aa2
def xf{t:Tm}(h:t.wt<=1000000000):ke t=some (if t.err=0 then(t.ak7:Int)else 0,t.err):=by
 unfold ke Tm.err;rw[xr FU t (by rw[fB];exact h) h]
 by_cases a:t.ok=true
 ·simp only[a,if_true,dQ,iD]
  by_cases b:4096<t.ak7
  ·rw[dR b,dR VW];rfl
  ·rw[dK b,dK VW];rfl
 ·simp only[a,dQ];rfl
def JQ{t:Tm}(h:t.wt<=1000000000):pq t=some t.err:=by
 unfold pq;rw[xf h];rfl
theorem Tm.ia{t:Tm}(h:t.err=0):t.ok=true/\t.ak7<=4096:=by
 unfold Tm.err at h
 split at h
 ·rename_i a
  split at h
  ·omega
  ·exact⟨a,VW⟩
 ·omega
def Tm.z:Tm:=.mk 0 0 (.mk 0 []) []
def Tm.norm:Nat->Int->Tm->Tm×Int×Int
 |0,m,t=>if t.nf then(t,m,0)else(Tm.z,0,5)|k+1,m,t=>match t.Kg (4096-t.ak7)with
  |none=>(Tm.z,0,4)|some none=>(t,m,0)|some (some a)=>Tm.norm k (m+1) a
def XH{k:Nat}{m:Int}{t:Tm}(h:t.Kg (4096-t.ak7)=none):t.norm (k+1) m=(Tm.z,0,4):=by rw[Tm.norm,h]
def FJ{k:Nat}{m:Int}{t:Tm}(h:t.Kg (4096-t.ak7)=some none):t.norm (k+1) m=(t,m,0):=by rw[Tm.norm,h]
def Gg{k:Nat}{m:Int}{t a:Tm}(h:t.Kg (4096-t.ak7)=some (some a)):t.norm (k+1) m=a.norm k (m+1):=by rw[Tm.norm,h]
def Sm.start{t:Tm}(h:t.err=0)(a:t.ak' 536870912=true):Sm 536870912 t:=⟨(Tm.ia h).1,a,by have:=(Tm.ia h).2;omega⟩
mutual
def Fm.ak7:Fm->Nat
 |.mk _ _ ts l=>1+ei Tm.ak7 ts+Fm.nR l
def Fm.nR:List Fm->Nat
 |[]=>0|t::l=>t.ak7+Fm.nR l
end
def Fm.rO(l:List Fm):Fm.nR l=ei Fm.ak7 l:=by
 induction l with
 |nil=>rfl|cons t l ih=>simp[Fm.nR,ei,ih]
theorem Fm.dP(k:Int)(s:Ty)(ts:List Tm)(l:List Fm):(Fm.mk k s ts l).ak7=1+ei Tm.ak7 ts+ei Fm.ak7 l:=by rw[Fm.ak7,Fm.rO]
def Fm.eM(t:Fm):1<=t.ak7:=by cases t;rw[Fm.ak7];omega
def Fm.fV(l:List Fm):l.length<=ei Fm.ak7 l:=jh _ _ λt _=>t.eM
mutual
def Fm.wt:Fm->Nat
 |.mk _ s ts l=>1+s.ak7+ei Tm.wt ts+Fm.Qa l
def Fm.Qa:List Fm->Nat
 |[]=>0|t::l=>t.wt+Fm.Qa l
end
def Fm.Fe(l:List Fm):Fm.Qa l=ei Fm.wt l:=by
 induction l with
 |nil=>rfl|cons t l ih=>simp[Fm.Qa,ei,ih]
theorem Fm.iA(k:Int)(s:Ty)(ts:List Tm)(l:List Fm):(Fm.mk k s ts l).wt=1+s.ak7+ei Tm.wt ts+ei Fm.wt l:=by rw[Fm.wt,Fm.Fe]
def Fm.kb(t:Fm):1<=t.wt:=by cases t;rw[Fm.wt];omega
def Fm.tD(l:List Fm):l.length<=ei Fm.wt l:=jh _ _ λt _=>t.kb
def Fm.ind{p:Fm->Prop}(h:∀k s ts l,(∀t∈l,p t)->p (.mk k s ts l))(t:Fm):p t:=by
 have:∀n (t:Fm),t.ak7<=n->p t:=by
  intro n
  induction n with
  |zero=>intro t a;have:=t.eM;omega
  |succ n ih=>
   intro t a;cases t with
   |mk k s ts l=>
    rw[Fm.dP] at a;exact h k s ts l λu hu=>ih u (by have:=eG Fm.ak7 hu;omega)
 exact this _ t (gY _)
def Fm.ik(t:Fm):t.ak7<=t.wt:=by
 induction t using Fm.ind with
 |h k s ts l ih=>rw[Fm.dP,Fm.iA];have:=kZ ih;have:=kZ (f:=Tm.ak7) (g:=Tm.wt) (l:=ts) λx _=>x.ik;omega
def j4(k:Int):Bool:=decide (k=4\/k=5\/k=6\/k=7)
def qB(k:Int):Int:=if j4 k then 1 else 0
def x0(k:Int):0<=qB k/\qB k<=1:=by unfold qB;split<;>omega
def lM(k:Int):kV k=some (j4 k):=by
 unfold kV j4
 congr 1
 rw[Hj];simp
def pb(f:Fm):m8 f=some (qB f.ak5):=by
 unfold m8 qB;rw[lM];simp only[dI]
 split<;>rfl
def Fm.node(k:Int)(s:Ty)(a n:Nat):Bool:=
 if k=1 then s.rH&&decide (a=2)&&decide (n=0)
 else if k=2\/k=3 then s.rH&&decide (a=0)&&decide (n=2)
 else j4 k&&decide (s.err=0)&&decide (a=0)&&decide (n=1)
mutual
def Fm.ok:Fm->Bool
 |.mk k s ts l=>Fm.node k s ts.length l.length&&ts.all Tm.ok&&Fm.Lt l
def Fm.Lt:List Fm->Bool
 |[]=>true|t::l=>t.ok&&Fm.Lt l
end
def Fm.Bt(l:List Fm):Fm.Lt l=l.all Fm.ok:=by
 induction l with
 |nil=>rfl|cons t l ih=>simp[Fm.Lt,ih]
theorem Fm.hH(k:Int)(s:Ty)(ts:List Tm)(l:List Fm):(Fm.mk k s ts l).ok=(Fm.node k s ts.length l.length&&ts.all Tm.ok&&l.all Fm.ok):=by rw[Fm.ok,Fm.Bt]
def Fm.err(t:Fm):Int:=if t.ok then(if 4096<t.ak7 then 4 else 0)else 2
def gq{α:Type}{l:List α}:(l.length:Int)=0↔l=[]:=by cases l<;>simp;omega
def jq{α:Type}{l:List α}(h:(l.length:Int)=1):∃a,l=[a]:=by
 match l,h with
 |[a],_=>exact⟨a,rfl⟩|[],h=>simp at h
 |_::_::_,h=>simp at h;omega
def qd{α:Type}{l:List α}(h:(l.length:Int)=2):∃a b,l=[a,b]:=by
 match l,h with
 |[a,b],_=>exact⟨a,b,rfl⟩|[],h=>simp at h
 |[_],h=>simp at h
 |_::_::_::_,h=>simp at h;omega
def yK{t:Tm}(h:t.wt<=1000000000):kH FU t=some t.ok:=By FU t (by rw[fB];exact h) h
def AQ:∀(n:Nat) (t:Fm),t.wt<=n->t.wt<=1000000000->l9 n t=some t.ok:=by
 intro n
 induction n with
 |zero=>intro t h;have:=t.kb;omega
 |succ n ih=>
  intro t h o;cases t with
  |mk k s ts l=>
   rw[Fm.iA] at h o;rw[l9,Fm.hH];simp only[Fm.eH,Fm.eL,Fm.jB,Fm.fK,eg,lU,tR,fZ,fM,xF,lM,km (t:=s) VW,dI,eW,iv]
   by_cases r:k=1
   ·simp only[r,if_true,Fm.node]
    by_cases j:(l.length:Int)=0
    ·have:=gq.1 j;subst this;cases i:s.rH with
     |false=>simp|true=>
      by_cases d:(ts.length:Int)=2
      ·obtain⟨a,b,rfl⟩:=qd d;simp only[ei] at h o;simp only[d,if_true,lN,rq,dI];rw[yK (t:=a) VW,yK (t:=b) VW];cases c:a.ok<;>cases f:b.ok<;>simp[c,f]
      ·have c:¬ts.length=2:=VW
       simp[d,c]
    ·have i:¬l.length=0:=VW
     simp[j,i]
   ·simp only[r,iU,Fm.node]
    by_cases j:k=2\/k=3
    ·simp only[j,if_true]
     by_cases i:(ts.length:Int)=0
     ·have:=gq.1 i;subst this;cases d:s.rH with
      |false=>simp|true=>
       by_cases c:(l.length:Int)=2
       ·obtain⟨a,b,rfl⟩:=qd c;simp only[ei] at h o;simp only[c,if_true,lN,rq,dI];rw[ih a VW VW,ih b VW VW];cases f:a.ok<;>cases q:b.ok<;>simp[f,q]
       ·have f:¬l.length=2:=VW
        simp[c,f]
     ·have d:¬ts.length=0:=VW
      simp[i,d]
    ·simp only[j,iU];cases i:j4 k with
     |false=>simp|true=>
      by_cases d:(ts.length:Int)=0
      ·have:=gq.1 d;subst this
       by_cases c:s.err=0
       ·by_cases f:(l.length:Int)=1
        ·obtain⟨a,rfl⟩:=jq f;simp only[ei] at h o;simp only[c,f,if_true,lN,dI];rw[ih a VW VW];simp
        ·have q:¬l.length=1:=VW
         simp[c,f,q]
       ·simp[c]
      ·have c:¬ts.length=0:=VW
       simp[d,c]
def sF:∀(n:Nat) (t:Fm),t.ak7<=n->t.ak7<=1000000000->lW n t=some (t.ak7:Int):=by
 intro n
 induction n with
 |zero=>intro t h;have:=t.eM;omega
 |succ n ih=>
  intro t h b;cases t with
  |mk k s ts l=>
   rw[Fm.dP] at h b;have f:=Fm.fV l;have c:=Tm.fV ts;rw[lW];simp only[Fm.eH,Fm.jB,eg,et (l:=l) VW,et (l:=ts) VW,ec]
   have d:=pL (ρ:=Int) (F:=λ(j:Int) (x:Tm) (v:Int)=>dH (fU FU x) λy=>some (gm.next (eS .i64 v y))) Tm.ak7 ts 0 1 VW (by
    intro j x v a;have:=eG Tm.ak7 a;rw[nJ FU x (by rw[fB];omega) VW]
    rfl)
   have k2:=pL (ρ:=Int) (F:=λ(j:Int) (x:Fm) (v:Int)=>dH (lW n x) λy=>some (gm.next (eS .i64 v y))) Fm.ak7 l 0 (1+ei Tm.ak7 ts) VW (by
    intro j x v a;have:=eG Fm.ak7 a;rw[ih x VW VW]
    rfl)
   rw[show(1:Int)=((1:Nat):Int)from rfl,d];simp only[dI,eB];rw[k2];simp[Fm.dP]
def iV{t:Fm}(h:t.wt<=1000000000):jV t=some t.err:=by
 have:=t.ik;unfold jV Fm.err;rw[AQ FU t (by rw[fB];exact h) h,sF FU t (by rw[fB];omega) VW];cases t.ok with
 |false=>simp|true=>by_cases a:4096<t.ak7<;>simp[a]<;>omega
def JP(f:Fm)(h:f.wt<=1000000000):rX f=some (Fm.node f.ak5 f.dM f.eh.length f.ak6.length):=by
 cases f with
 |mk k s ts l=>
  rw[Fm.iA] at h;show rX (.mk k s ts l)=some (Fm.node k s ts.length l.length)
  have d:(eo (ts.length:Int) 2&&eo (l.length:Int) 0)=(decide (ts.length=2)&&decide (l.length=0)):=by
   rw[Hj];simp only[hD,fZ,oy];omega
  have i:(eo (ts.length:Int) 0&&eo (l.length:Int) 2)=(decide (ts.length=0)&&decide (l.length=2)):=by
   rw[Hj];simp only[hD,fZ,oy];omega
  have j:(eo (ts.length:Int) 0&&eo (l.length:Int) 1)=(decide (ts.length=0)&&decide (l.length=1)):=by
   rw[Hj];simp only[hD,fZ,oy];omega
  unfold rX;simp only[Fm.eH,Fm.eL,Fm.jB,Fm.fK,eg,lU,vz,tR,fZ,fM,lq (t:=s) VW,r8,dI,dQ,ez,d,i,j];unfold Fm.node
  by_cases b:k=1
  ·cases c:s.rH<;>simp[b]
  ·by_cases c:k=2\/k=3
   ·cases a:s.rH<;>simp[b,c]
   ·by_cases a:k=4\/k=5\/k=6\/k=7
    ·have n:j4 k=true:=by simp[j4,a]
     by_cases o:s.err=0<;>simp[b,c,a,o,n]
    ·have n:j4 k=false:=by simp[j4,a]
     simp[b,c,a,n]
def AO:∀(n:Nat) (t:Fm),t.wt<=n->t.wt<=1000000000->jo n t=some (if t.ok then((t.ak7:Int),true)else(0,false)):=by
 intro n
 induction n with
 |zero=>intro t h;have:=t.kb;omega
 |succ n ih=>
  intro t h o;cases t with
  |mk k s ts l=>
   have q:=JP (.mk k s ts l) o;rw[Fm.iA] at h o;have y:=Fm.tD l;have r:=Tm.tD ts;have hn:ei Tm.ak7 ts<=ei Tm.wt ts:=kZ λx _=>x.ik;have u:ei Fm.ak7 l<=ei Fm.wt l:=kZ λx _=>x.ik
   have w:fk (λ(f:Int) (a:Tm) (b:Int)=>dU (jF FU a) λc d=>if d then some (gm.next (eS .i64 b c))else some (gm.ret ((0:Int),false))) ts 0 1=if ts.all Tm.ok then some (.inl ((1+ei Tm.ak7 ts:Nat):Int))else some (.inr (0,false)):=by
    refine wx Tm.ak7 Tm.ok _ ts 0 1 VW ?_;intro j x v i;have:=eG Tm.wt i;rw[xr FU x (by rw[fB];omega) VW];cases x.ok<;>simp
   have k2:fk (λ(f:Int) (a:Fm) (b:Int)=>dU (jo n a) λc d=>if d then some (gm.next (eS .i64 b c))else some (gm.ret ((0:Int),false))) l 0 ((1+ei Tm.ak7 ts:Nat):Int)=if l.all Fm.ok then some (.inl ((1+ei Tm.ak7 ts+ei Fm.ak7 l:Nat):Int))else some (.inr (0,false)):=by
    refine wx Fm.ak7 Fm.ok _ l 0 _ VW ?_;intro j x v i;have:=eG Fm.wt i;rw[ih x VW VW];cases x.ok<;>simp
   rw[jo,q];simp only[Fm.eH,Fm.eL,Fm.jB,Fm.fK,eg,et (l:=l) VW,et (l:=ts) VW,ec,dI,w,Fm.hH,Fm.dP];cases A:Fm.node k s ts.length l.length with
   |false=>simp|true=>
    cases B:ts.all Tm.ok with
    |false=>simp|true=>
     simp only[if_true,dI,eB,k2,Ht];cases C:l.all Fm.ok<;>simp
def uy{t:Fm}(h:t.wt<=1000000000):iN t=some (if t.err=0 then(t.ak7:Int)else 0,t.err):=by
 unfold iN Fm.err;rw[AO FU t (by rw[fB];exact h) h];cases t.ok with
 |false=>simp|true=>
  by_cases a:4096<t.ak7
  ·simp[a];omega
  ·simp[a];omega
def F1{t:Fm}(h:t.wt<=1000000000):j9 t=some t.err:=by
 unfold j9;rw[uy h];rfl
def KK:∀(n:Nat) (t:Fm),t.wt<=n->t.wt<=1000000000->lD n t=some t:=by
 intro n
 induction n with
 |zero=>intro t h;have:=t.kb;omega
 |succ n ih=>
  intro t h c;cases t with
  |mk k s ts l=>
   rw[Fm.iA] at h c;have f:=Fm.tD l;have d:=Tm.tD ts;rw[lD];simp only[Fm.eH,Fm.eL,Fm.jB,Fm.fK,eg,et (l:=l) VW,et (l:=ts) VW,ec,jm (t:=s) VW,dI];rw[kq id ts 0 [] acx]
   ·simp only[dI,eB];rw[kq id l 0 [] acx]
    ·simp
    ·intro j x v a b;have:=eG Fm.wt a;rw[ih x VW VW];simp[fg (l:=v) (m:=[x]) (by simpa using b)]
   ·intro j x v a b;have:=eG Tm.wt a;rw[uM (t:=x) VW];simp[fg (l:=v) (m:=[x]) (by simpa using b)]
def rQ{t:Fm}(h:t.wt<=1000000000):lD FU t=some t:=KK FU t (by rw[fB];exact h) h
mutual
def Fm.has:Fm->Bool
 |.mk k _ _ l=>if k=1 then false else if k=2 then Fm.Df l else if k=5 then true else Fm.lT l
def Fm.Df:List Fm->Bool
 |[]=>false|f::l=>f.has||Fm.Df l
def Fm.lT:List Fm->Bool
 |[]=>false|[f]=>f.has|_::f::l=>Fm.lT (f::l)
end
def vk(k:Int)(a b:Ty):Ty×Bool×Int:=if(Ty.mk k [a,b]).err≠0 then(.mk 0 [],false,(Ty.mk k [a,b]).err)else(.mk k [a,b],true,0)
def Ls(first last:Ty×Bool×Int):Ty×Bool×Int:=
 if first.2.2≠0\/first.2.1=false then(last.1,last.2.1,first.2.2)else if last.2.1 then vk 3 first.1 last.1 else(first.1,true,0)
def OP(first last:Ty×Bool×Int):Ty×Bool×Int:=
 if first.2.2≠0\/first.2.1=false then(last.1,true,first.2.2)else vk 4 first.1 last.1
def ql(k:Int)(s:Ty)(first last:Ty×Bool×Int):Ty×Bool×Int:=
 if last.2.2≠0 then(.mk 0 [],false,last.2.2)
 else if k=2 then Ls first last
 else if k=5 then(if last.2.1 then vk 3 s last.1 else(s,true,0))
 else if last.2.1 then(if k=3 then OP first last else if k=4 then vk 4 s last.1 else(last.1,true,0))
 else(.mk 0 [],false,0)
def RC:Ty×Bool×Int:=(.mk 0 [],false,0)
mutual
def Fm.ct:Fm->Ty×Bool×Int
 |.mk k s _ l=>if k=1 then RC else ql k s (Fm.LC l) (Fm.Gy l)
def Fm.LC:List Fm->Ty×Bool×Int
 |[]=>RC|f::_=>f.ct
def Fm.Gy:List Fm->Ty×Bool×Int
 |[]=>RC|[f]=>f.ct|_::f::l=>Fm.Gy (f::l)
end
def Fm.zp(k:Int)(s:Ty)(ts:List Tm)(a b:Fm):(Fm.mk k s ts [a,b]).has=if k=1 then false else if k=2 then a.has||b.has else if k=5 then true else b.has:=by
 rw[Fm.has];simp[Fm.Df,Fm.lT]
theorem Fm.y'(k:Int)(s:Ty)(ts:List Tm)(a:Fm):(Fm.mk k s ts [a]).has=if k=1 then false else if k=5 then true else a.has:=by
 rw[Fm.has];simp only[Fm.Df,Fm.lT,Bool.or_false]
 by_cases b:k=2
 ·subst b;simp
 ·simp[b]
def Fm.has_eq(s:Ty)(ts:List Tm)(l:List Fm):(Fm.mk 1 s ts l).has=false:=by rw[Fm.has];simp
def Fm.Rf(k:Int)(s:Ty)(ts:List Tm)(a b:Fm):(Fm.mk k s ts [a,b]).ct=if k=1 then RC else ql k s a.ct b.ct:=by
 rw[Fm.ct];simp[Fm.LC,Fm.Gy]
def Fm.Qs(k:Int)(s:Ty)(ts:List Tm)(a:Fm):(Fm.mk k s ts [a]).ct=if k=1 then RC else ql k s a.ct a.ct:=by
 rw[Fm.ct];simp[Fm.LC,Fm.Gy]
def Fm.acm(s:Ty)(ts:List Tm)(l:List Fm):(Fm.mk 1 s ts l).ct=RC:=by rw[Fm.ct];simp
def Fm.qS{p:Fm->Prop}(q:∀a b:Tm,a.ok=true->b.ok=true->p (.mk 1 (.mk 0 []) [a,b] []))
  (r:∀(k:Int) (a b:Fm),k=2\/k=3->a.ok=true->b.ok=true->p a->p b->p (.mk k (.mk 0 []) [] [a,b]))
  (t:∀(k:Int) (s:Ty) (a:Fm),k=4\/k=5\/k=6\/k=7->s.err=0->a.ok=true->p a->p (.mk k s [] [a])) (f:Fm) (j:f.ok=true):p f:=by
 induction f using Fm.ind with
 |h k s ts l ih=>
  rw[Fm.hH] at j;simp only[hD,k_] at j;obtain⟨⟨hn,d⟩,c⟩:=j;unfold Fm.node at hn
  split at hn
  ·rename_i n;subst n;simp only[hD,oy,Ty.mI] at hn;obtain⟨⟨rfl,i⟩,o⟩:=hn;obtain⟨a,b,rfl⟩:=qd (l:=ts) VW;have:=Z9.1 o;subst this;exact q a b (d a aa2) (d b aa2)
  ·split at hn
   ·rename_i n;simp only[hD,oy,Ty.mI] at hn;obtain⟨⟨rfl,i⟩,o⟩:=hn;obtain⟨a,b,rfl⟩:=qd (l:=l) VW;have:=Z9.1 i;subst this;exact r k a b n (c a aa2) (c b aa2) (ih a aa2 (c a aa2)) (ih b aa2 (c b aa2))
   ·simp only[hD,oy] at hn;obtain⟨⟨⟨u,hs⟩,i⟩,o⟩:=hn;obtain⟨a,rfl⟩:=jq (l:=l) VW;have:=Z9.1 i;subst this;refine t k s a ?_ hs (c a aa2) (ih a aa2 (c a aa2));simpa[j4] using u
theorem Ty.gT{t:Ty}(h:t.err=0):t.ok=true/\t.ak7<=64:=by
 unfold Ty.err at h
 split at h
 ·split at h
  ·omega
  ·exact⟨‹_›,VW⟩
 ·omega
theorem Ty.Dc{t:Ty}(h:t.ok=true)(a:t.ak7<=64):t.err=0:=by unfold Ty.err;rw[dR h,dK VW]
def Ty.aeb{t:Ty}(h:t.ok=true):t.err=0\/t.err=4:=by unfold Ty.err;rw[dR h];split<;>simp
def Ty.ok_two{k:Int}(c:k=3\/k=4){a b:Ty}(d:a.ok=true)(f:b.ok=true):(Ty.mk k [a,b]).ok=true:=by
 rw[Ty.hH]
 have:¬(k=1\/k=2\/k=5):=VW
 simp[Ty.want,c,this,d,f]
def yR{k:Int}(c:k=3\/k=4){a b:Ty}(d:a.ok=true)(f:b.ok=true):((vk k a b).2.2=0\/(vk k a b).2.2=4)/\((vk k a b).2.2=0->(vk k a b).2.1=true/\(vk k a b).1.err=0):=by
 unfold vk;rcases Ty.aeb (Ty.ok_two c d f)with h|h
 ·rw[dK (by simp[h])];exact⟨.inl rfl,λ_=>⟨rfl,h⟩⟩
 ·rw[dR VW];exact⟨.inr h,λi=>absurd (h.symm.trans i) aak⟩
structure ah' (f:Fm):Prop where
 e:f.ct.2.2=0\/f.ct.2.2=4
 h:f.ct.2.2=0->f.ct.2.1=f.has
 n:f.has=false->f.ct.2.2=0
 t:f.ct.2.2=0->f.has=true->f.ct.1.err=0
def Gq(f:Fm)(A:f.ok=true):ah' f:=by
 refine Fm.qS (p:=ah') ?_ ?_ ?_ f A
 ·intro a b _ _;refine⟨?_,?_,?_,?_⟩<;>rw[Fm.acm]<;>simp[RC,Fm.has_eq]
 ·intro k a b x B D c l
  have j:k≠1:=VW
  have u:k≠5:=VW
  refine⟨?_,?_,?_,?_⟩<;>rw[Fm.Rf,dK j]<;>(try rw[Fm.zp,dK j])<;>(try simp only[u,iU])<;>unfold ql
  all_goals
   rcases l.e with eb|eb
   ·have C:=l.h eb;have q:=l.t eb;rcases x with rfl|rfl
    ·--and
     simp only[eb,ne_eq,PC,iU,if_true];unfold Ls;rcases c.e with ea|ea
     ·have r:=c.h ea;have d:=c.t ea;cases i:a.has
      ·simp_all
      ·cases o:b.has
       ·simp_all
       ·have:=yR (k:=3) (.inl rfl) (Ty.gT (d i)).1 (Ty.gT (q o)).1
        simp_all
     ·have:a.has=true:=by
       cases h:a.has with
       |true=>rfl|false=>have:=c.n h;omega
      simp_all
    ·simp only[eb,ne_eq,PC,iU,show¬(3:Int)=2 by omega,show¬(3:Int)=5 by omega,if_true];unfold OP;cases o:b.has
     ·simp_all
     ·rcases c.e with ea|ea
      ·have r:=c.h ea;have d:=c.t ea;cases i:a.has
       ·simp_all
       ·have:=yR (k:=4) (.inr rfl) (Ty.gT (d i)).1 (Ty.gT (q o)).1
        simp_all
      ·simp_all
   ·have:b.has=true:=by
     cases h:b.has with
     |true=>rfl|false=>have:=l.n h;omega
    simp[eb,this]
 ·intro k s a x hs B c
  have j:k≠1:=VW
  have v:k≠2:=VW
  have w:k≠3:=VW
  refine⟨?_,?_,?_,?_⟩<;>rw[Fm.Qs,dK j]<;>(try rw[Fm.y',dK j])<;>unfold ql<;>(try simp only[v,w,iU])
  all_goals
   rcases c.e with ea|ea
   ·have r:=c.h ea;have d:=c.t ea;cases i:a.has
    ·by_cases y:k=5<;>simp_all
    ·have F:=yR (k:=3) (.inl rfl) (Ty.gT hs).1 (Ty.gT (d i)).1;have G:=yR (k:=4) (.inr rfl) (Ty.gT hs).1 (Ty.gT (d i)).1
     by_cases y:k=5
     ·simp_all
     ·by_cases H:k=4<;>simp_all
   ·have:a.has=true:=by
     cases h:a.has with
     |true=>rfl|false=>have:=c.n h;omega
    by_cases y:k=5<;>simp_all
theorem Ty.rR(k:Int)(a b:Ty):(Ty.mk k [a,b]).ak7=1+a.ak7+b.ak7:=by rw[Ty.dP];simp[ei];omega
def II(f:Fm)(a:f.ok=true)(h:f.ct.2.2=0)(b:f.ct.2.1=true):f.ct.1.ak7<=64:=
 (Ty.gT ((Gq f a).t h (by rw[<-(Gq f a).h h];exact b))).2
theorem Fm.ia{f:Fm}(h:f.err=0):f.ok=true/\f.ak7<=4096:=by
 unfold Fm.err at h
 split at h
 ·split at h
  ·omega
  ·exact⟨‹_›,VW⟩
 ·omega
def Fm.J0(f:Fm):Ty×Int:=if f.err≠0 then(.mk 0 [],f.err)else if f.ct.2.2≠0 then(.mk 0 [],f.ct.2.2)else(if f.has then f.ct.1 else .mk 5 [],0)
def FM:∀(n:Nat) (f:Fm),f.ak7<=n->f.ok=true->jH n f=some f.has:=by
 intro n
 induction n with
 |zero=>intro f h;have:=f.eM;omega
 |succ n ih=>
  intro f h t;refine Fm.qS (p:=λf=>f.ak7<=n+1->jH (n+1) f=some f.has) ?_ ?_ ?_ f t h
  ·intro a b _ _ _;rw[jH,Fm.has_eq];rfl
  ·intro k a b u i v _ _ hn;rw[Fm.dP] at hn;simp only[ei] at hn;have d:=ih a VW i;have j:=ih b VW v
   have c:k≠1:=VW
   have l:k≠5:=VW
   have o:dW [a,b] (fA .i64 (eA [a,b]) 1)=some b:=by
    rw[fT aa2 aa2];rfl
   have w:dW [a,b] 0=some a:=rfl;have x:dW [a,b] 1=some b:=rfl;rw[jH,Fm.zp,dK c];simp only[Fm.eH,Fm.eL,fZ,c,l,iU,o,w,x,dI,j,d,eg]
   by_cases r:k=2
   ·simp only[r,if_true];cases a.has<;>simp
   ·simp[r]
  ·intro k s a u hs i _ hn;rw[Fm.dP] at hn;simp only[ei] at hn;have d:=ih a VW i
   have c:k≠1:=VW
   have q:k≠2:=VW
   have o:dW [a] (fA .i64 (eA [a]) 1)=some a:=by
    rw[fT aa2 aa2];rfl
   rw[jH,Fm.y',dK c];simp only[Fm.eH,Fm.eL,fZ,c,q,iU,o,dI,d]
   by_cases y:k=5<;>simp[y]
def yp(f:Fm)(h:f.wt<=1000000000):nc f=some (if f.err≠0 then(false,f.err)else(f.has,0)):=by
 unfold nc;rw[iV h];simp only[dI,ez]
 by_cases he:f.err=0
 ·rw[FM FU f (by rw[fB];have:=f.ik;omega) (Fm.ia he).1];simp[he]
 ·simp[he]
def ow(f:Fm)(h:f.wt<=1000000000)(he:f.err=0):gu f=some f.has:=by
 unfold gu;rw[yp f h];simp[he]
def ue(t:Ty)(h:t.ak7<=1000000000):nq t 0=some (if t.err≠0 then(.mk 0 [],t.err)else(t,0)):=by
 unfold nq zr;rw[km h,CB FU t (by rw[fB];exact h) h]
 by_cases he:t.err=0<;>simp[he]
def sq(t:Ty){e:Int}(he:e≠0):nq t e=some (.mk 0 [],e):=by
 unfold nq;simp[he]
def Fm.rf(f:Fm):Ty×Int:=if f.ct.2.2≠0 then(.mk 0 [],f.ct.2.2)else(if f.has then f.ct.1 else .mk 5 [],0)
def Fm.Mf{k:Int}{s:Ty}{ts:List Tm}{l:List Fm}(h:(Fm.mk k s ts l).err=0){a:Fm}(c:a∈l):a.err=0:=by
 obtain⟨b,d⟩:=Fm.ia h;rw[Fm.hH] at b;simp only[hD,k_] at b;rw[Fm.dP] at d;have:=eG Fm.ak7 c;unfold Fm.err;rw[dR (b.2 a c),dK VW]
def Px:∀(n:Nat) (f:Fm),f.ak7<=n->f.wt<=1000000000->f.err=0->kP n f=some f.rf:=by
 intro n
 induction n with
 |zero=>intro f h;have:=f.eM;omega
 |succ n ih=>
  intro f h hw he;refine Fm.qS (p:=λf=>f.ak7<=n+1->f.wt<=1000000000->f.err=0->kP (n+1) f=some f.rf) ?_ ?_ ?_ f (Fm.ia he).1 h hw he
  ·intro a b _ _ _ hw he;rw[kP,ow _ hw he,Fm.has_eq];unfold Fm.rf;rw[Fm.acm,Fm.has_eq];rfl
  ·intro k a b L v M _ _ hn hw he;have i:=Fm.Mf he (a:=a) aa2;have w:=Fm.Mf he (a:=b) aa2;have N:=Gq _ (Fm.ia he).1;rw[kP,ow _ hw he];rw[Fm.dP] at hn;rw[Fm.iA] at hw;simp only[ei] at hn hw;have q:=ih a VW VW i;have G:=ih b VW VW w
   have j:k≠1:=VW
   have x:k≠5:=VW
   have H:k≠4:=VW
   have I:dW [a,b] 0=some a:=rfl;have Q:dW [a,b] 1=some b:=rfl;simp only[Fm.eH,Fm.eL,Fm.fK,fZ,H,x,iU,I,Q,dI,G,q,ow a VW i,ow b VW w];have R:=Gq a v;have S:=Gq b M;have l:=II a v;have F:=II b M;unfold Fm.rf;rw[Fm.Rf,dK j,Fm.zp,dK j];simp only[x,iU];rcases r:a.ct with⟨y,J,T⟩;rcases K:b.ct with⟨tb,U,W⟩;obtain⟨a1,a2,a3,a4⟩:=R;obtain⟨u,o,A,O⟩:=S;rw[r] at a1 a2 a3 a4 l;rw[K] at u o A O F;simp only at a1 a2 a3 a4 u o A O l F;unfold ql;rcases L with rfl|rfl
   ·simp only[if_true];unfold Ls;cases c:a.has
    ·have:=a3 c;subst this;have:=a2 rfl;rw[c] at this;subst this;cases d:b.has
     ·have:=A d;subst this;have:=o rfl;rw[d] at this;subst this;simp[tP]
     ·simp only[Vb,if_true,oz,iU];rcases u with rfl|rfl
      ·simp
      ·simp
    ·cases d:b.has
     ·have:=A d;subst this;have:=o rfl;rw[d] at this;subst this;simp only[aen,if_true,oz,iU];rcases a1 with rfl|rfl
      ·have:=a2 rfl;rw[c] at this;subst this;simp
      ·simp
     ·simp only[aen,if_true];rcases u with rfl|rfl
      ·have:=o rfl;rw[d] at this;subst this;rcases a1 with rfl|rfl
       ·have:=a2 rfl;rw[c] at this;subst this;have:=l rfl rfl;have:=F rfl rfl;simp[pZ,vk];rw[ue _ (by rw[Ty.rR];omega)]
        by_cases t:(Ty.mk 3 [y,tb]).err=0<;>simp[t]
       ·simp
      ·rcases a1 with rfl|rfl
       ·simp[pZ,sq]
       ·simp
   ·simp only[show¬(3:Int)=2 by omega,iU,if_true];unfold OP;cases d:b.has
    ·have:=A d;subst this;have:=o rfl;rw[d] at this;subst this;simp[tP]
    ·cases c:a.has
     ·have:=a3 c;subst this;have:=a2 rfl;rw[c] at this;subst this;rcases u with rfl|rfl
      ·have:=o rfl;rw[d] at this;subst this;simp
      ·simp
     ·rcases u with rfl|rfl
      ·have:=o rfl;rw[d] at this;subst this;rcases a1 with rfl|rfl
       ·have:=a2 rfl;rw[c] at this;subst this;have:=l rfl rfl;have:=F rfl rfl;simp[rV,vk];rw[ue _ (by rw[Ty.rR];omega)]
        by_cases t:(Ty.mk 4 [y,tb]).err=0<;>simp[t]
       ·simp
      ·rcases a1 with rfl|rfl
       ·simp[rV,sq]
       ·simp
  ·intro k s a L hs v _ hn hw he;have i:=Fm.Mf he (a:=a) aa2;rw[kP,ow _ hw he];rw[Fm.dP] at hn;rw[Fm.iA] at hw;simp only[ei] at hn hw;have q:=ih a VW VW i
   have j:k≠1:=VW
   have B:k≠2:=VW
   have C:k≠3:=VW
   have I:dW [a] 0=some a:=rfl;simp only[Fm.eH,Fm.eL,Fm.fK,fZ,B,C,iU,I,dI,q,ow a VW i];have l:=II a v;have V:=(Ty.gT hs).2;unfold Fm.rf;rw[Fm.Qs,dK j,Fm.y',dK j];obtain⟨a1,a2,a3,a4⟩:=Gq a v;rcases r:a.ct with⟨y,J,T⟩;rw[r] at a1 a2 a3 a4 l;simp only at a1 a2 a3 a4 l;unfold ql;simp only[B,C,iU]
   by_cases P:k=5
   ·subst P;simp only[if_true,show¬(5:Int)=4 by omega,iU];cases c:a.has
    ·have:=a3 c;subst this;have:=a2 rfl;rw[c] at this;subst this;simp
    ·rcases a1 with rfl|rfl
     ·have:=a2 rfl;rw[c] at this;subst this;have:=l rfl rfl;simp[pZ,vk];rw[ue _ (by rw[Ty.rR];omega)]
      by_cases t:(Ty.mk 3 [s,y]).err=0<;>simp[t]
     ·simp[pZ,sq]
   ·simp only[P,iU];cases c:a.has
    ·have:=a3 c;subst this;have:=a2 rfl;rw[c] at this;subst this;simp[tP]
    ·rcases a1 with rfl|rfl
     ·have:=a2 rfl;rw[c] at this;subst this;have:=l rfl rfl
      by_cases D:k=4
      ·subst D;simp[rV,vk];rw[ue _ (by rw[Ty.rR];omega)]
       by_cases t:(Ty.mk 4 [s,y]).err=0<;>simp[t]
      ·simp[D]
     ·by_cases D:k=4
      ·subst D;simp[rV,sq]
      ·simp[D]
def J4(f:Fm)(h:f.wt<=1000000000):ji f=some f.J0:=by
 unfold ji Fm.J0;rw[iV h];simp only[dI,ez]
 by_cases he:f.err=0
 ·rw[Px FU f (by rw[fB];have:=f.ik;omega) h he];simp only[he,ne_eq,PC,iU];rfl
 ·simp[he]
def Ty.nat:Ty:=.mk 1 []
def Ty.fS:Ty:=.mk 2 []
def Ty.unit:Ty:=.mk 5 []
def Ty.fn(a b:Ty):Ty:=.mk 4 [a,b]
def Ty.pr(a b:Ty):Ty:=.mk 3 [a,b]
def Ty.z:Ty:=.mk 0 []
inductive ef:List Ty->Tm->Ty->Prop
 |var {g t} (i:Nat):i<g.length->g[g.length-1-i]?=some t->ef g (.mk 1 i .z []) t|lam {g s b t}:(Ty.fn s t).err=0->ef (g++[s]) b t->ef g (.mk 2 0 s [b]) (.fn s t)|app {g f a s t}:ef g f (.fn s t)->ef g a s->ef g (.mk 3 0 .z [f,a]) t|zero {g}:ef g (.mk 4 0 .z []) .nat|succ {g a}:ef g a .nat->ef g (.mk 5 0 .z [a]) .nat|rZ {g t b s n}:t.err=0->ef g b t->ef g s (.fn .nat (.fn t t))->ef g n .nat->ef g (.mk 6 0 t [b,s,n]) t|nil {g}:ef g (.mk 7 0 .z []) .fS|cons {g a b}:ef g a .nat->ef g b .fS->ef g (.mk 8 0 .z [a,b]) .fS|fold {g t b s n}:t.err=0->ef g b t->ef g s (.fn .nat (.fn .fS (.fn t t)))->ef g n .fS->ef g (.mk 9 0 t [b,s,n]) t|pair {g a b s t}:(Ty.pr s t).err=0->ef g a s->ef g b t->ef g (.mk 10 0 .z [a,b]) (.pr s t)|fst {g a s t}:ef g a (.pr s t)->ef g (.mk 11 0 .z [a]) s|snd {g a s t}:ef g a (.pr s t)->ef g (.mk 12 0 .z [a]) t|unit {g}:ef g (.mk 13 0 .z []) .unit
theorem Ty.p3:Ty.z.rH=true:=rfl
def Ty.tM{k:Int}(c:k=3\/k=4){a b:Ty}(h:(Ty.mk k [a,b]).err=0):a.err=0/\b.err=0:=by grind[Ty.gT,Ty.hH,Ty.rR,Ty.Dc]
def ef.ok{g:List Ty}{x:Tm}{t:Ty}(h:ef g x t):x.ok=true:=by
 induction h with
 |var i c f=>grind[Tm.hH,Tm.node,gU,j5,Ty.p3]|lam c _ ih=>have:=(Ty.tM (.inr rfl) c).1;simp[Tm.hH,Tm.node,gU,j5,this,ih]
 |app _ _ a b=>simp[Tm.hH,Tm.node,gU,j5,Ty.p3,a,b]|zero=>simp[Tm.hH,Tm.node,gU,j5,Ty.p3]|succ _ ih=>simp[Tm.hH,Tm.node,gU,j5,Ty.p3,ih]|rZ c _ _ _ a b d=>grind[Tm.hH,Tm.node,gU,j5]|nil=>simp[Tm.hH,Tm.node,gU,j5,Ty.p3]|cons _ _ a b=>simp[Tm.hH,Tm.node,gU,j5,Ty.p3,a,b]|fold c _ _ _ a b d=>grind[Tm.hH,Tm.node,gU,j5]|pair _ _ _ a b=>simp[Tm.hH,Tm.node,gU,j5,Ty.p3,a,b]|fst _ ih=>simp[Tm.hH,Tm.node,gU,j5,Ty.p3,ih]|snd _ ih=>simp[Tm.hH,Tm.node,gU,j5,Ty.p3,ih]|unit=>simp[Tm.hH,Tm.node,gU,j5,Ty.p3]
def Tm.ml(t:Tm):∀{m n:Int},m<=n->t.ak' m=true->t.ak' n=true:=by
 induction t using Tm.ind with
 |h k i s l ih=>grind[Tm.fH]
def ef.ak'{g:List Ty}{x:Tm}{t:Ty}(h:ef g x t):∀m:Int,((g.length+x.ak7:Nat):Int)<=m->x.ak' m=true:=by
 induction h with
 |var i d f=>grind[Tm.dP,ei,Tm.fH]|lam _ _ ih=>grind[Tm.dP,ei,Tm.fH]|zero|nil|unit=>grind[Tm.dP,ei,Tm.fH]|succ _ ih|fst _ ih|snd _ ih=>grind[Tm.dP,ei,Tm.fH]|app _ _ a b|cons _ _ a b|pair _ _ _ a b=>grind[Tm.dP,ei,Tm.fH]|rZ _ _ _ _ a b c|fold _ _ _ _ a b c=>grind[Tm.dP,ei,Tm.fH]
def wh{α:Type}{f g:α->Nat}{c:Nat}{l:List α}(h:∀x∈l,f x<=c*g x):ei f l<=c*ei g l:=by
 induction l with
 |nil=>simp[ei]|cons x l ih=>simp only[ei,Vi];have:=h x aa2;have:=ih λy a=>h y (by simp[a]);omega
def Tm.jr(t:Tm)(h:t.ok=true):t.wt<=65*t.ak7:=by
 induction t using Tm.ind with
 |h k i s l ih=>
  rw[Tm.hH] at h;simp only[hD,k_] at h;rw[Tm.iA,Tm.dP,Vi];have c:=wh λx b=>ih x b (h.2 x b)
  have d:s.ak7<=64:=by
   have:=h.1;simp only[Tm.node,hD] at this;have a:=this.2
   split at a
   ·simp only[oy] at a;exact(Ty.gT a).2
   ·grind[Ty.mI,Ty.dP,ei]
  omega
def Fm.jr(f:Fm)(h:f.ok=true):f.wt<=65*f.ak7:=by
 induction f using Fm.ind with
 |h k s ts l ih=>
  rw[Fm.hH] at h;simp only[hD,k_] at h;rw[Fm.iA,Fm.dP,Vi,Vi];have b:=wh λx a=>ih x a (h.2 x a);have d:=wh (f:=Tm.wt) (g:=Tm.ak7) (c:=65) (l:=ts) λx a=>x.jr (h.1.2 x a)
  have i:s.ak7<=64:=by
   have:=h.1.1;unfold Fm.node at this
   split at this
   ·grind[Ty.mI,Ty.dP,ei]
   ·split at this
    ·grind[Ty.mI,Ty.dP,ei]
    ·simp only[hD,oy] at this;exact(Ty.gT this.1.1.2).2
  omega
structure eF.wf (d:eF):Prop where
 len:d.l.length<=1000
 lo:0<=d.xX
 hi:d.xX<=d.l.length
def Ur(x n:Int)(c:1<=n)(d:n<=1000000000):∃y,JA x n=some y/\0<=y/\y<n:=by
 unfold JA;simp only[Xi (b:=n) VW];refine⟨_,rfl,?_⟩;unfold VI
 have e:(x.tmod n).natAbs<n.natAbs:=by
  rw[Int.natAbs_tmod];exact aaw _ VW
 rw[fX VW VW]
 have a:0<=x.tmod n+n:=VW
 exact⟨Int.tmod_nonneg _ a,Int.tmod_lt_of_pos _ VW⟩
def qV(d:eF)(a:d.wf)(n:Int)(c:1<=n)(f:n<=1000000000):∃x b,hJ d n=some (x,b)/\0<=x/\x<n/\b.wf:=by
 unfold hJ;simp only[lU,tR,j3,jk,fM]
 by_cases h:n<1\/(d.l.length:Int)<=d.xX
 ·grind
 ·rw[dK h];obtain⟨y,i,_⟩:=Li (l:=d.l) a.lo VW;obtain⟨z,j,k,o⟩:=Ur y n c f;rw[i];simp only[dI,j];have:=a.len;have:=a.lo;rw[fX VW VW];exact⟨z,_,rfl,k,o,⟨a.len,by show 0<=d.xX+1;omega,by show d.xX+1<=(d.l.length:Int);omega⟩⟩
def gy:jy=some .nat:=rfl
def gO:mr=some .fS:=rfl
def Kn:tH=some .unit:=rfl
def yQ{a b:Ty}(c:a.ak7<=1000000000)(d:b.ak7<=1000000000):tl a b=some (.pr a b):=by
 unfold tl;rw[jm c,jm d];rfl
def iP{a b:Ty}(c:a.ak7<=1000000000)(d:b.ak7<=1000000000):kT a b=some (.fn a b):=by
 unfold kT;rw[jm c,jm d];rfl
def Ty.Xz:Ty.nat.ok=true:=by unfold Ty.nat;rw[Ty.hH];rfl
def Ty.WE:Ty.fS.ok=true:=by unfold Ty.fS;rw[Ty.hH];rfl
def Ty.RG:Ty.unit.ok=true:=by unfold Ty.unit;rw[Ty.hH];rfl
def Ty.ig:Ty.nat.ak7=1:=by unfold Ty.nat;rw[Ty.dP];rfl
def Ty.oN:Ty.fS.ak7=1:=by unfold Ty.fS;rw[Ty.dP];rfl
def Ty.I7:Ty.unit.ak7=1:=by unfold Ty.unit;rw[Ty.dP];rfl
def Ty.iz(a b:Ty):(Ty.fn a b).ak7=1+a.ak7+b.ak7:=Ty.rR _ _ _
def Ty.oH(a b:Ty):(Ty.pr a b).ak7=1+a.ak7+b.ak7:=Ty.rR _ _ _
theorem VF(k:Nat)(h:k<=4):1<=2^k/\2^k<=16:=by
 have:k=0\/k=1\/k=2\/k=3\/k=4:=VW
 grind
def Q9:∀(n k:Nat) (d:eF),k<n->k<=4->d.wf->∃t i,nD n d (k:Int)=some (t,i)/\t.ok=true/\t.ak7+1<=2^(k+1)/\i.wf:=by
 intro n
 induction n with
 |zero=>intro k d h;omega|succ n ih=>
  intro k d A o v;obtain⟨x,d1,w,B,C,j⟩:=qV d v 7 VW VW;have D:=VF k o
  have F:(2:Nat)^(k+1)=2*2^k:=by rw[Nat.pow_succ];omega
  have c:=λi (q:eF.wf i)=>(⟨Ty.nat,i,rfl,Ty.Xz,by rw[Ty.ig];omega,q⟩:∃t l,some (Ty.nat,i)=some (t,l)/\t.ok=true/\t.ak7+1<=2^(k+1)/\l.wf);rw[nD];simp only[eg,w,dQ,gy,gO,Kn,dI,lU,tR,fZ,iD]
  split
  ·exact c d1 j
  split
  ·exact⟨.fS,d1,rfl,Ty.WE,by rw[Ty.oN];omega,j⟩
  split
  ·exact⟨.unit,d1,rfl,Ty.RG,by rw[Ty.I7];omega,j⟩
  have two:0<(k:Int)->∃a b d2 d3,nD n d1 (fA .i64 (k:Int) 1)=some (a,d2)/\nD n d2 (fA .i64 (k:Int) 1)=some (b,d3)/\a.ok=true/\b.ok=true/\a.ak7+1<=2^k/\b.ak7+1<=2^k/\d3.wf:=by
   intro f;obtain⟨m,rfl⟩:∃m,k=m+1:=⟨k-1,VW⟩
   grind[fT]
  split
  ·split
   ·rename_i f;obtain⟨a,b,d2,d3,a1,r,a2,s,a3,y,u⟩:=two f;rw[a1];simp only[dQ];rw[r];simp only[dQ];rw[yQ VW VW];exact⟨_,_,rfl,Ty.ok_two (.inl rfl) a2 s,by rw[Ty.oH];omega,u⟩
   ·exact c d1 j
  split
  ·split
   ·rename_i f;obtain⟨a,b,d2,d3,a1,r,a2,s,a3,y,u⟩:=two f;rw[a1];simp only[dQ];rw[r];simp only[dQ];rw[iP VW VW];exact⟨_,_,rfl,Ty.ok_two (.inr rfl) a2 s,by rw[Ty.iz];omega,u⟩
   ·exact c d1 j
  ·exact c d1 j
def Xj(d:eF)(b:d.wf)(k:Nat)(c:k<=4):∃t a,nD FU d (k:Int)=some (t,a)/\t.err=0/\t.ak7+1<=2^(k+1)/\a.wf:=by
 obtain⟨t,a,f,h,i,j⟩:=Q9 FU k d (by rw[fB];omega) c b
 grind[VF,Ty.Dc]
def PU(g:List Ty)(t:Ty)(hg:g.length<=1000000)(hn:∀s∈g,s.ak7<=1000000000):∃l,E5 g t=some l/\l.length<=g.length/\∀v∈l,∃i:Nat,v=i/\i<g.length/\g[g.length-1-i]?=some t:=by
 unfold E5;simp only[et (l:=g) VW,ec,eg]
 have key:∀(l:List Ty) (i:Nat) (v:List Int),i+l.length=g.length->v.length<=i->(∀x∈v,∃j:Nat,x=j/\j<g.length/\g[g.length-1-j]?=some t)->∃a,fk (ρ:=List Int) (λ(j:Int) (u:Ty) (v:List Int)=>dH (dW g (fA .i64 (fA .i64 (eA g) 1) j)) λx=>dH (fm FU x t) λy=>if y then gB (fI v [j]) (some (gm.next (fR v [j])))else some (gm.next v)) l i v=some (.inl a)/\a.length<=g.length/\∀x∈a,∃j:Nat,x=j/\j<g.length/\g[g.length-1-j]?=some t:=by
  intro l
  induction l with
  |nil=>
   intro i v d k c;exact⟨v,rfl,by simp at d;omega,c⟩
  |cons y l ih=>
   intro i v d k c;simp only[mz] at d
   have b:g.length-1-i<g.length:=VW
   have n:dW g (fA .i64 (fA .i64 (eA g) 1) (i:Int))=some g[g.length-1-i]:=by grind[fM,fT,gX]
   rw[gf];simp only[n,dI,iB (hn _ (B7 b))];cases hs:Ty.jY g[g.length-1-i] t with
   |false=>
    simp only[oz,iU,dI,fh];exact ih (i+1) v VW VW c
   |true=>
    rw[Ty.kv] at hs;simp only[if_true,fg (l:=v) (m:=[(i:Int)]) acx,ec,dI,fh,ij];refine ih (i+1) (v++[(i:Int)]) VW acx ?_;intro x f;rcases sU.1 f with h|h
    ·exact c x h
    ·rw[DB] at h;exact⟨i,h,VW,by rw[o9 b,hs]⟩
 obtain⟨a,o,q,r⟩:=key g 0 [] aa2 aa2 aa2;rw[o];exact⟨a,rfl,q,r⟩
def vG(g l:List Ty)(h:g.length+l.length<=1000000):rP g l=some (g++l):=by
 unfold rP;rw[fg acx,fg acx];simp
def Fl(n:Nat)(hn:n<=1000000):∃x,qU (n:Int)=some x/\∀g,ef g x .nat/\x.ak7=n+1:=by
 unfold qU;rw[po 4 [] (by simp[ei])];simp only[dI,eg]
 obtain⟨o,q,l⟩:=LF (ρ:=Tm) (F:=Ze λ(h:Int) (i:Int) (v167:Int) (v168:Int) (j:List Ty) (k:List Tm)=>
   if oQ h 0 then some (gm.next (fA .i64 h 1,5,0,0,[],[Tm.mk i v167 (Ty.mk v168 j) k]))else some (gm.yd (h,i,v167,v168,j,k)))
  (λs=>0<=s.1/\s.1<=n/\(∀g,ef g (Tm.mk s.2.1 s.2.2.1 (Ty.mk s.2.2.2.1 s.2.2.2.2.1) s.2.2.2.2.2) .nat)/\(Tm.mk s.2.1 s.2.2.1 (Ty.mk s.2.2.2.1 s.2.2.2.2.1) s.2.2.2.2.2).ak7+s.1=n+1)
  (λs=>s.1.toNat)
  (λo=>match o with|.inl s=>(∀g,ef g (Tm.mk s.2.1 s.2.2.1 (Ty.mk s.2.2.2.1 s.2.2.2.2.1) s.2.2.2.2.2) .nat)/\(Tm.mk s.2.1 s.2.2.1 (Ty.mk s.2.2.2.1 s.2.2.2.2.1) s.2.2.2.2.2).ak7=n+1|.inr _=>False)
  (by
   rintro⟨a,b,c,d,e,f⟩ ⟨q,l,t,v⟩;simp only at q l t v
   by_cases u:0<a
   ·left;refine⟨_,by simp only[AR,iD,u,if_true];rfl,⟨?_,?_,?_,?_⟩,?_⟩
    ·rw[fT VW VW];show 0<=a-1;omega
    ·rw[fT VW VW];show a-1<=n;omega
    ·intro g;exact ef.succ (t g)
    all_goals grind[fT,Tm.dP,ei]
   ·right;left;refine⟨_,by simp only[AR,iD,u,iU];rfl,t,?_⟩
    have:a=0:=VW
    subst this
    simp only;omega)
  FU ((n:Int),4,0,0,[],[]) ⟨aa2,aa2,λg=>ef.zero,by rw[Tm.dP];simp[ei];omega⟩ (by rw[fB];show(n:Int).toNat<_;omega)
 simp only[Tm.eL,Tm.iC,Tm.fK,Ty.eL,Ty.eH,Tm.eH];rw[q];cases o with
 |inr r=>exact l.elim|inl s=>
  obtain⟨a,b,c,d,e,f⟩:=s;exact⟨_,rfl,λg=>⟨l.1 g,l.2⟩⟩
def Lj(n:Int)(b:0<=n)(hn:n<=4000):∃x,uX n=some x/\∀g,ef g x .nat/\(x.ak7:Int)=n+1:=by
 obtain⟨k,rfl⟩:=ada b;obtain⟨x,c,a⟩:=Fl k VW;unfold uX vC;simp only[j3,jk];rw[dK VW,dK VW,c];exact⟨x,rfl,λg=>⟨(a g).1,by rw[(a g).2];simp⟩⟩
structure Rp (g:List Ty) (x:Tm) (t:Ty) (n:Nat):Prop where
 ty:ef g x t
 ak7:x.ak7<=n
def Rp.wt{g:List Ty}{x:Tm}{t:Ty}{n:Nat}(h:Rp g x t n):x.wt<=65*n:=by
 have:=x.jr h.ty.ok;have:=h.ak7;omega
theorem Rp.mono{g:List Ty}{x:Tm}{t:Ty}{n m:Nat}(h:Rp g x t n)(hm:n<=m):Rp g x t m:=⟨h.ty,AL h.ak7 hm⟩
def O7{k:Int}{a:Tm}(b:a.wt<=100000000):fQ k [a]=some (.mk k 0 .z [a]):=po k [a] (by simp[ei];omega)
def vV{k:Int}{a b:Tm}(c:a.wt<=100000000)(d:b.wt<=100000000):fQ k [a,b]=some (.mk k 0 .z [a,b]):=po k [a,b] (by simp[ei];omega)
def AW{k:Int}:fQ k []=some (.mk k 0 .z []):=po k [] (by simp[ei])
def CK{k:Int}{s:Ty}{a:Tm}(hs:s.ak7<=1000000000)(b:a.wt<=100000000):lu k s [a]=some (.mk k 0 s [a]):=I4 k s [a] hs (by simp[ei];omega)
def D5{k:Int}{s:Ty}{a b c:Tm}(hs:s.ak7<=1000000000)(d:a.wt<=100000000)(f:b.wt<=100000000)(h:c.wt<=100000000):lu k s [a,b,c]=some (.mk k 0 s [a,b,c]):=
 I4 k s [a,b,c] hs (by simp[ei];omega)
def HU{f a b:Tm}(c:f.wt<=10000000)(d:a.wt<=10000000)(h:b.wt<=10000000):Bj f [a,b]=some (.mk 3 0 .z [.mk 3 0 .z [f,a],b]):=by
 have i:(Tm.mk 3 0 .z [f,a]).wt<=30000000:=by rw[Tm.iA];have:Ty.z.ak7=1:=rfl;simp[ei,this];omega
 unfold Bj
 simp only[et (l:=[a,b]) aa2,ec,eg,gf,qL,C6,Ty.gE,Tm.gE,vV (k:=3) (a:=f) (b:=a) VW VW,dI,fh,vV (k:=3) (a:=.mk 3 0 .z [f,a]) (b:=b) VW VW,eB]
def Ty.gR:Ty.nat.err=0:=Ty.Dc Ty.Xz (by rw[Ty.ig];omega)
def Ty.mv:Ty.fS.err=0:=Ty.Dc Ty.WE (by rw[Ty.oN];omega)
def Ty.Ic:Ty.unit.err=0:=Ty.Dc Ty.RG (by rw[Ty.I7];omega)
def Ty.wZ{a b:Ty}(c:a.err=0)(d:b.err=0)(h:a.ak7+b.ak7<=63):(Ty.fn a b).err=0:=Ty.Dc (Ty.ok_two (.inr rfl) (Ty.gT c).1 (Ty.gT d).1) (by rw[Ty.iz];omega)
def Ty.Js{a b:Ty}(c:a.err=0)(d:b.err=0)(h:a.ak7+b.ak7<=63):(Ty.pr a b).err=0:=Ty.Dc (Ty.ok_two (.inl rfl) (Ty.gT c).1 (Ty.gT d).1) (by rw[Ty.oH];omega)
def kB(i:Nat):Tm:=.mk 1 i .z []
def w_(s:Ty)(b:Tm):Tm:=.mk 2 0 s [b]
def gC(f a:Tm):Tm:=.mk 3 0 .z [f,a]
def rA:Tm:=.mk 4 0 .z []
def ru(a:Tm):Tm:=.mk 5 0 .z [a]
def RW(t:Ty)(a b c:Tm):Tm:=.mk 6 0 t [a,b,c]
def ME:Tm:=w_ .nat (w_ .nat (RW .nat (kB 1) (w_ .nat (w_ .nat (ru (kB 0)))) (kB 0)))
def PT:Tm:=w_ .nat (RW .nat rA (w_ .nat (w_ .nat (kB 1))) (kB 0))
def Nl:Tm:=w_ .nat (w_ .nat (RW .nat (kB 1) (w_ .nat (w_ .nat (gC PT (kB 0)))) (kB 0)))
def DZ(i:Nat):gA (i:Int)=some (kB i):=rfl
def wJ{a:Tm}(b:a.wt<=100000000):jW a=some (w_ .nat a):=by
 unfold jW;rw[gy];simp only[dI];rw[CK (by rw[Ty.ig];omega) b];rfl
def rec_eq{a b c:Tm}(d:a.wt<=100000000)(f:b.wt<=100000000)(h:c.wt<=100000000):tn a b c=some (RW .nat a b c):=by
 unfold tn;rw[gy];simp only[dI];rw[D5 (by rw[Ty.ig];omega) d f h];rfl
def Ct:pS=some ME:=by
 unfold pS;rw[show gA 1=some (kB 1)from rfl,show gA 0=some (kB 0)from rfl];simp only[dI];rw[O7 aak];simp only[dI];rw[wJ aak];simp only[dI];rw[wJ aak];simp only[dI];rw[rec_eq aak aak aak];simp only[dI];rw[wJ aak];simp only[dI];rw[wJ aak];rfl
def J':v7=some PT:=by
 unfold v7;rw[show gA 1=some (kB 1)from rfl,show gA 0=some (kB 0)from rfl,AW];simp only[dI];rw[wJ aak];simp only[dI];rw[wJ aak];simp only[dI];rw[rec_eq aak aak aak];simp only[dI];rw[wJ aak];rfl
def MW:tw=some Nl:=by
 unfold tw;rw[show gA 1=some (kB 1)from rfl,show gA 0=some (kB 0)from rfl,J'];simp only[dI];rw[vV aak aak];simp only[dI];rw[wJ aak];simp only[dI];rw[wJ aak];simp only[dI];rw[rec_eq aak aak aak];simp only[dI];rw[wJ aak];simp only[dI];rw[wJ aak];rfl
def ahP{g:List Ty}{t:Ty}(i:Nat)(h:i<g.length)(a:g[g.length-1-i]?=some t):ef g (kB i) t:=ef.var i h a
def kG{g:List Ty}{t:Ty}:ef (g++[t]) (kB 0) t:=ef.var 0 aa2 aa2
def sQ{g:List Ty}{s t:Ty}:ef (g++[t]++[s]) (kB 1) t:=ef.var 1 aa2 aa2
def tz:(Ty.fn .nat .nat).err=0:=Ty.wZ Ty.gR Ty.gR (by rw[Ty.ig];omega)
def BX:(Ty.fn .nat (Ty.fn .nat .nat)).err=0:=Ty.wZ Ty.gR tz (by rw[Ty.iz,Ty.ig];omega)
def Gl(g:List Ty):ef g ME (.fn .nat (.fn .nat .nat)):=
 .lam BX (.lam tz (.rZ Ty.gR sQ (.lam BX (.lam tz (.succ kG))) kG))
def S8(g:List Ty):ef g PT (.fn .nat .nat):=
 .lam tz (.rZ Ty.gR .zero (.lam BX (.lam tz sQ)) kG)
def Jy(g:List Ty):ef g Nl (.fn .nat (.fn .nat .nat)):=
 .lam BX (.lam tz (.rZ Ty.gR sQ (.lam BX (.lam tz (.app (S8 _) kG))) kG))
def Mm:ME.ak7=9:=aak
def NP:Nl.ak7=16:=aak
def vQ{α β:Type}{G:Option β->Prop}(P:α->Prop){k:α->Option β}{b:(α->Option β)->Option β}(c:∀a,P a->G (k a))(d:∀j:α->Option β,(∀a,P a->G (j a))->G (b j)):G (ej k b):=d k c
def Jl{α γ β:Type}{G:Option β->Prop}(P:α->γ->Prop){k:α->γ->Option β}{b:(α->γ->Option β)->Option β}(d:∀a c,P a c->G (k a c))(f:∀j:α->γ->Option β,(∀a c,P a c->G (j a c))->G (b j)):G (ej k b):=f k d
def tb(N:Nat):Nat->Nat
 |0=>3*N|k+1=>30+3*tb N k
def ag9{N:Nat}(a:N<=20):∀k,k<=5->tb N k<=18300:=by
 intro k b
 have:k=0\/k=1\/k=2\/k=3\/k=4\/k=5:=VW
 rcases this with rfl|rfl|rfl|rfl|rfl|rfl<;>simp only[tb]<;>omega
def XG{N k:Nat}:3*N<=tb N k:=by
 induction k with
 |zero=>simp[tb]|succ k ih=>grind[tb]
def kL(g:List Ty)(t:Ty)(b:Nat)(o:Option (Tm×eF)):Prop:=∃x a,o=some (x,a)/\a.wf/\Rp g x t b
def kL.of{g:List Ty}{t:Ty}{b:Nat}{x:Tm}{d:eF}(a:d.wf)(h:ef g x t)(hn:x.ak7<=b):kL g t b (some (x,d)):=⟨x,d,rfl,a,h,hn⟩
structure CN (N:Nat) (g:List Ty):Prop where
 all:∀s∈g,s.err=0/\s.ak7<=N
def CN.app{N:Nat}{g l:List Ty}(h:CN N g)(a:∀s∈l,s.err=0/\s.ak7<=N):CN N (g++l):=
 ⟨λs hs=>by rcases sU.1 hs with h'|h';exact h.all s h';exact a s h'⟩
def Ty.pJ{t:Ty}(h:t.err=0):t=.nat\/t=.fS\/t=.unit\/(∃a b,t=.pr a b/\a.err=0/\b.err=0)\/(∃a b,t=.fn a b/\a.err=0/\b.err=0):=by
 cases t with
 |mk k l=>
  have f:=(Ty.gT h).1;rw[Ty.hH] at f;simp only[hD,oy] at f;have c:=f.1;unfold Ty.want at c
  split at c
  ·rename_i d;injection c with c;have:=Z9.1 c.symm;subst this;rcases d with rfl|rfl|rfl
   ·exact .inl rfl
   ·exact .inr (.inl rfl)
   ·exact .inr (.inr (.inl rfl))
  ·split at c
   ·rename_i d;injection c with c;obtain⟨a,b,rfl⟩:=qd (l:=l) VW;have:=Ty.tM d h;rcases d with rfl|rfl
    ·exact .inr (.inr (.inr (.inl ⟨a,b,rfl,this⟩)))
    ·exact .inr (.inr (.inr (.inr ⟨a,b,rfl,this⟩)))
   ·cases c
set_option maxHeartbeats 1000000 in
def Qo(N:Nat)(aP:1<=N)(hN:N<=20):∀(n:Nat) (dep:Int) (g:List Ty) (t:Ty) (d:eF),dep.toNat*(N+1)+t.ak7<n->dep<=5->-1000000<=dep-t.ak7->g.length+(3+N)*dep.toNat+t.ak7<=1000->CN N g->t.err=0->t.ak7<=N->d.wf->kL g t (if dep<=0 then 3*t.ak7 else tb N dep.toNat) (ie n d g t dep):=by
 intro n
 induction n with
 |zero=>intro dep g t d h;omega|succ n ih=>
  intro dep g t d hm aQ aO hlen hg A w hd;have aR:=t.eM;have ax:=(Ty.gT A).2
  have deep:0<dep->∀T R S,T.length<=g.length+3->CN N T->R.err=0->R.ak7<=N->S.wf->kL T R (tb N (dep.toNat-1)) (ie n S T R (fA .i64 dep 1)):=by
   intro o T R S U X h3 C h5;obtain⟨k,rfl⟩:∃k:Nat,dep=(k+1:Nat):=⟨dep.toNat-1,VW⟩
   have e1:((k+1:Nat):Int).toNat=k+1:=aa2
   rw[e1] at hm hlen|-;rw[fT VW VW,show((k+1:Nat):Int)-1=(k:Int) by omega]
   have hmul:(k+1)*(N+1)=k*(N+1)+N+1:=by rw[C9];omega
   have ay:(3+N)*(k+1)=(3+N)*k+3+N:=by rw[Vi];omega
   obtain⟨x,d1,a1,a2,a3⟩:=ih (k:Int) T R S acx VW VW acx X h3 C h5;refine⟨x,d1,a1,a2,a3.mono ?_⟩;simp only[ad_]
   split
   ·have:k=0:=VW
    subst this;simp only[tb];omega
   ·simp
  have flat:dep<=0->∀T R S,T.length<=g.length+1->R.ak7+1<=t.ak7->CN N T->R.err=0->S.wf->kL T R (3*R.ak7) (ie n S T R (fA .i64 dep 1)):=by
   intro o T R S U h0 X h3 h5
   have e1:dep.toNat=0:=VW
   rw[e1] at hm hlen;rw[fT VW VW]
   have e2:(dep-1).toNat=0:=VW
   have:=ih (dep-1) T R S (by rw[e2];omega) VW VW (by rw[e2];omega) X h3 VW h5;rw[dR VW] at this;exact this
  have Y:0<dep->(if dep<=0 then 3*t.ak7 else tb N dep.toNat)=30+3*tb N (dep.toNat-1):=by
   intro o;rw[dK VW];obtain⟨k,hk⟩:∃k,dep.toNat=k+1:=⟨dep.toNat-1,VW⟩;rw[hk];rfl
  have az:0<dep->tb N (dep.toNat-1)<=18300:=λ_=>ag9 hN _ VW
  have ah:3*t.ak7<=(if dep<=0 then 3*t.ak7 else tb N dep.toNat):=by
   split
   ·omega
   ·have:=XG (N:=N) (k:=dep.toNat);omega
  generalize (if dep<=0 then 3*t.ak7 else tb N dep.toNat)=B at Y ah|-
  have q:∀{g x t},0<dep->Rp g x t (tb N (dep.toNat-1))->x.wt<=1300000:=by
   intro g x t o h;have:=h.wt;have:=az o;omega
  obtain⟨vs,aA,aS,aB⟩:=PU g t VW (λs hs=>by have:=(hg.all s hs).2;omega);rw[ie,aA];simp only[dI];refine Jl (G:=kL g t B) (λa c=>c.wf/\(a=true->vs≠[])) ?_ ?_
  ·--a variable,or ai else
   rintro a d1 ⟨ak,aC⟩;cases a with
   |true=>
    simp only[if_true];have aD:=aC rfl
    have aT:1<=vs.length:=by cases vs with|nil=>exact absurd rfl aD|cons _ _=>simp
    obtain⟨x,d2,U,X,h3,C⟩:=qV d1 ak (eA vs) acx acx;rw[U];simp only[dQ];obtain⟨y,hy,aE⟩:=Li (l:=vs) X (by simpa using h3);rw[hy];simp only[dI];obtain⟨i,rfl,aF,aG⟩:=aB y aE;rw[DZ];refine kL.of C (ahP i aF aG) ?_
    have:(kB i).ak7=1:=by unfold kB;rw[Tm.dP];rfl
    omega
   |false=>
    simp only[oz,iU];refine vQ (G:=kL g t B) eF.wf ?_ ?_
    ·--by aq type
     intro d2 D;rcases Ty.pJ A with rfl|rfl|rfl|⟨a,b,rfl,ha,hb⟩|⟨a,b,rfl,ha,hb⟩
     ·--numbers
      simp only[show Ty.nat.ak5=1 from rfl,fZ,if_true];refine vQ (G:=kL g .nat B) eF.wf ?_ ?_
      ·intro d3 ae;obtain⟨x,d4,U,X,h3,C⟩:=qV d3 ae 3 VW VW;rw[U];simp only[dQ];obtain⟨y,aH,ar⟩:=Lj x X VW;rw[aH];refine kL.of C (ar g).1 ?_;have:=(ar g).2;rw[Ty.ig] at ah;omega
      ·intro j W;simp only[iD]
       split
       ·rename_i o;have Y:=Y o;obtain⟨x,d4,U,X,h3,C⟩:=qV d2 D 5 VW VW;rw[U];simp only[dQ,fZ]
        split
        ·obtain⟨a,d5,a1,a2,a3⟩:=deep o g .nat d4 VW hg Ty.gR w C;rw[a1];simp only[dQ];rw[O7 (by have:=q o a3;omega)];refine kL.of a2 (.succ a3.ty) ?_;have:=a3.ak7;rw[Tm.dP];simp only[ei];omega
        split
        ·rw[Ct];simp only[dI];obtain⟨a,d5,a1,a2,a3⟩:=deep o g .nat d4 VW hg Ty.gR w C;rw[a1];simp only[dQ];obtain⟨b,d6,H,I,v⟩:=deep o g .nat d5 VW hg Ty.gR w a2;rw[H];simp only[dQ];rw[HU aak (by have:=q o a3;omega) (by have:=q o v;omega)];refine kL.of I (.app (.app (Gl g) a3.ty) v.ty) ?_;have:=a3.ak7;have:=v.ak7;have:=Mm;rw[Tm.dP];simp only[ei,Tm.dP];omega
        split
        ·rw[MW];simp only[dI];obtain⟨a,d5,a1,a2,a3⟩:=deep o g .nat d4 VW hg Ty.gR w C;rw[a1];simp only[dQ];obtain⟨b,d6,H,I,v⟩:=deep o g .nat d5 VW hg Ty.gR w a2;rw[H];simp only[dQ];rw[HU aak (by have:=q o a3;omega) (by have:=q o v;omega)];refine kL.of I (.app (.app (Jy g) a3.ty) v.ty) ?_;have:=a3.ak7;have:=v.ak7;have:=NP;rw[Tm.dP];simp only[ei,Tm.dP];omega
        ·exact W d4 C
       ·exact W d2 D
     ·--lists
      simp only[show Ty.fS.ak5=2 from rfl,fZ,if_true,show¬(2:Int)=1 by omega,iU];refine Jl (G:=kL g .fS B) (λa c=>c.wf/\(a=true->0<dep)) ?_ ?_
      ·rintro a d3 ⟨ae,o⟩;cases a with
       |true=>
        have o:=o rfl;have Y:=Y o;simp only[if_true];rw[gy];simp only[dI];obtain⟨a,d5,a1,a2,a3⟩:=deep o g .nat d3 VW hg Ty.gR (by rw[Ty.ig];omega) ae;rw[a1];simp only[dQ];obtain⟨b,d6,H,I,v⟩:=deep o g .fS d5 VW hg Ty.mv w a2;rw[H];simp only[dQ];rw[vV (by have:=q o a3;omega) (by have:=q o v;omega)];refine kL.of I (.cons a3.ty v.ty) ?_;have:=a3.ak7;have:=v.ak7;rw[Tm.dP];simp only[ei];omega
       |false=>
        simp only[oz,iU];rw[AW];refine kL.of ae .nil ?_;rw[Tm.dP];simp only[ei];omega
      ·intro j W;simp only[iD]
       split
       ·rename_i o;obtain⟨x,d4,U,X,h3,C⟩:=qV d2 D 2 VW VW;rw[U];simp only[dQ];exact W _ d4 ⟨C,λ_=>o⟩
       ·exact W _ d2 ⟨D,λh=>by cases h⟩
     ·simp only[show Ty.unit.ak5=5 from rfl,fZ,show¬(5:Int)=1 by omega,show¬(5:Int)=2 by omega,show¬(5:Int)=3 by omega,show¬(5:Int)=4 by omega,iU];rw[AW];refine kL.of D .unit ?_;rw[Tm.dP];simp only[ei];omega
     ·simp only[show(Ty.pr a b).ak5=3 from rfl,show(Ty.pr a b).ak6=[a,b] from rfl,fZ,show¬(3:Int)=1 by omega,show¬(3:Int)=2 by omega,if_true,iU,eW,iv,lN,rq,dI];rw[Ty.oH] at w ax ah
      by_cases o:0<dep
      ·have Y:=Y o;obtain⟨x,d5,a1,a2,a3⟩:=deep o g a d2 VW hg ha VW D;rw[a1];simp only[dQ];obtain⟨y,d6,H,I,v⟩:=deep o g b d5 VW hg hb VW a2;rw[H];simp only[dQ];rw[vV (by have:=q o a3;omega) (by have:=q o v;omega)];refine kL.of I (.pair A a3.ty v.ty) ?_;have:=a3.ak7;have:=v.ak7;rw[Tm.dP];simp only[ei];omega
      ·have aI:=Ty.oH a b;obtain⟨x,d5,a1,a2,a3⟩:=flat VW g a d2 VW VW hg ha D;rw[a1];simp only[dQ];obtain⟨y,d6,H,I,v⟩:=flat VW g b d5 VW VW hg hb a2;rw[H];simp only[dQ];have:=a3.ak7;have:=v.ak7;rw[vV (by have:=a3.wt;omega) (by have:=v.wt;omega)];refine kL.of I (.pair A a3.ty v.ty) ?_;rw[Tm.dP];simp only[ei];omega
     ·simp only[show(Ty.fn a b).ak5=4 from rfl,show(Ty.fn a b).ak6=[a,b] from rfl,fZ,show¬(4:Int)=1 by omega,show¬(4:Int)=2 by omega,show¬(4:Int)=3 by omega,if_true,iU,eW,iv,lN,rq,dI];have aI:=Ty.iz a b;rw[vG g [a] acx];simp only[dI];have V:CN N (g++[a]):=hg.app (by intro s hs;rw[DB] at hs;subst hs;exact⟨ha,VW⟩)
      by_cases o:0<dep
      ·have Y:=Y o;obtain⟨x,d5,a1,a2,a3⟩:=deep o (g++[a]) b d2 aa2 V hb VW D;rw[a1];simp only[dQ];rw[CK VW (by have:=q o a3;omega)];refine kL.of a2 (.lam A a3.ty) ?_;have:=a3.ak7;rw[Tm.dP];simp only[ei];omega
      ·obtain⟨x,d5,a1,a2,a3⟩:=flat VW (g++[a]) b d2 aa2 VW V hb D;rw[a1];simp only[dQ];have:=a3.ak7;rw[CK VW (by have:=a3.wt;omega)];refine kL.of a2 (.lam A a3.ty) ?_;rw[Tm.dP];simp only[ei];omega
    ·--a aJ,or one of aq context
     intro j W;simp only[iD]
     split
     ·rename_i o;have Y:=Y o;obtain⟨x,d2,U,X,h3,C⟩:=qV d1 ak 8 VW VW;rw[U];simp only[dQ,fZ]
      have leaf:∀d,eF.wf d->∃s S,nD FU d 0=some (s,S)/\s.err=0/\s.ak7=1/\S.wf:=by
       intro d hd;obtain⟨s,S,c1,c2,c3,c4⟩:=Xj d hd 0 VW;have:=s.eM;exact⟨s,S,c1,c2,VW,c4⟩
      split
      ·obtain⟨s,d3,s1,s2,s3,s4⟩:=leaf d2 C;rw[s1];simp only[dQ];rw[vG g [s] acx];simp only[dI];obtain⟨a,d5,a1,a2,a3⟩:=deep o (g++[s]) t d3 aa2 (hg.app (by intro u hu;rw[DB] at hu;subst hu;exact⟨s2,VW⟩)) A w s4;rw[a1];simp only[dQ];rw[CK VW (by have:=q o a3;omega)];simp only[dI];obtain⟨b,d6,H,I,v⟩:=deep o g s d5 VW hg s2 VW a2;rw[H];simp only[dQ];have w1:=q o a3;rw[vV (by rw[Tm.iA];simp only[ei];omega) (by have:=q o v;omega)];refine kL.of I (.app (.lam (Ty.wZ s2 A VW) a3.ty) v.ty) ?_;have:=a3.ak7;have:=v.ak7;rw[Tm.dP];simp only[ei,Tm.dP];omega
      split
      ·obtain⟨s,d3,s1,s2,s3,s4⟩:=leaf d2 C;rw[s1];simp only[dQ];obtain⟨a,d5,a1,a2,a3⟩:=deep o g t d3 VW hg A w s4;rw[a1];simp only[dQ];obtain⟨b,d6,H,I,v⟩:=deep o g s d5 VW hg s2 VW a2;rw[H];simp only[dQ];have w1:=q o a3;have w2:=q o v;rw[vV VW VW];simp only[dI];rw[O7 (by rw[Tm.iA];have:Ty.z.ak7=1:=rfl;simp only[ei];omega)];refine kL.of I (.fst (.pair (Ty.Js A s2 VW) a3.ty v.ty)) ?_;have:=a3.ak7;have:=v.ak7;rw[Tm.dP];simp only[ei,Tm.dP];omega
      split
      ·rw[gy];simp only[dI];rw[vG g [.nat,t] acx];simp only[dI]
       have V:CN N (g++[.nat,t]):=hg.app (by
        intro u hu;simp only[lQ,uU,tO] at hu;rcases hu with rfl|rfl
        ·exact⟨Ty.gR,by rw[Ty.ig];omega⟩
        ·exact⟨A,w⟩)
       obtain⟨a,d5,a1,a2,a3⟩:=deep o (g++[.nat,t]) t d2 aa2 V A w C;rw[a1];simp only[dQ];have w1:=q o a3;have nn:=Ty.ig;rw[CK VW VW];simp only[dI];rw[CK VW (by rw[Tm.iA];simp only[ei];omega)];simp only[dI];obtain⟨b,d6,H,I,v⟩:=deep o g t d5 VW hg A w a2;rw[H];simp only[dQ];obtain⟨y,d7,y1,y2,y3,y4⟩:=qV d6 I 3 VW VW;rw[y1];simp only[dQ];obtain⟨z,z1,z2⟩:=Lj y y2 VW;rw[z1];simp only[dI];have w2:=q o v;have zn:=(z2 g).2;have zw:=z.jr (z2 g).1.ok
       have e1:(Tm.mk 2 0 .nat [Tm.mk 2 0 t [a]]).wt<=2000000:=by rw[Tm.iA];simp only[ei,Tm.iA];omega
       rw[D5 VW VW VW VW];have Z:(Ty.fn t t).err=0:=Ty.wZ A A VW;refine kL.of y4 (.rZ A v.ty (.lam (Ty.wZ Ty.gR Z (by rw[Ty.iz];omega)) (.lam Z (by simpa using a3.ty))) (z2 g).1) ?_;have:=a3.ak7;have:=v.ak7;rw[Tm.dP];simp only[ei,Tm.dP];omega
      split
      ·rw[gy,gO];simp only[dI];rw[vG g [.nat,.fS,t] acx];simp only[dI]
       have V:CN N (g++[.nat,.fS,t]):=hg.app (by
        intro u hu;simp only[lQ,uU,tO] at hu;rcases hu with rfl|rfl|rfl
        ·exact⟨Ty.gR,by rw[Ty.ig];omega⟩
        ·exact⟨Ty.mv,by rw[Ty.oN];omega⟩
        ·exact⟨A,w⟩)
       obtain⟨a,d5,a1,a2,a3⟩:=deep o (g++[.nat,.fS,t]) t d2 aa2 V A w C;rw[a1];simp only[dQ];have w1:=q o a3;have nn:=Ty.ig;have ln:=Ty.oN;rw[CK VW VW];simp only[dI];rw[CK VW (by rw[Tm.iA];simp only[ei];omega)];simp only[dI];rw[CK VW (by rw[Tm.iA];simp only[ei,Tm.iA];omega)];simp only[dI];obtain⟨b,d6,H,I,v⟩:=deep o g t d5 VW hg A w a2;rw[H];simp only[dQ];obtain⟨c,d7,c1,c2,c3⟩:=deep o g .fS d6 VW hg Ty.mv VW I;rw[c1];simp only[dQ];have w2:=q o v;have w3:=q o c3
       have e1:(Tm.mk 2 0 .nat [Tm.mk 2 0 .fS [Tm.mk 2 0 t [a]]]).wt<=2000000:=by rw[Tm.iA];simp only[ei,Tm.iA];omega
       rw[D5 VW VW VW VW];have Z:(Ty.fn t t).err=0:=Ty.wZ A A VW;have af:(Ty.fn .fS (Ty.fn t t)).err=0:=Ty.wZ Ty.mv Z (by rw[Ty.iz];omega);refine kL.of c2 (.fold A v.ty (.lam (Ty.wZ Ty.gR af (by rw[Ty.iz,Ty.iz];omega)) (.lam af (.lam Z (by simpa using a3.ty)))) c3.ty) ?_;have:=a3.ak7;have:=v.ak7;have:=c3.ak7;rw[Tm.dP];simp only[ei,Tm.dP];omega
      split
      ·obtain⟨s,d3,s1,s2,s3,s4⟩:=leaf d2 C;rw[s1];simp only[dQ];obtain⟨a,d5,a1,a2,a3⟩:=deep o g s d3 VW hg s2 VW s4;rw[a1];simp only[dQ];obtain⟨b,d6,H,I,v⟩:=deep o g t d5 VW hg A w a2;rw[H];simp only[dQ];have w1:=q o a3;have w2:=q o v;rw[vV VW VW];simp only[dI];rw[O7 (by rw[Tm.iA];have:Ty.z.ak7=1:=rfl;simp only[ei];omega)];refine kL.of I (.snd (.pair (Ty.Js s2 A VW) a3.ty v.ty)) ?_;have:=a3.ak7;have:=v.ak7;rw[Tm.dP];simp only[ei,Tm.dP];omega
      split
      ·--a function of aq context
       rw[et VW,ec];simp only[eg]
       rcases LL (λ_:Unit=>True) (λr:Tm×eF=>kL g t B (some r)) (F:=λ(K:Int) (aK:Ty) (_:Unit)=>
         dH (dW g (fA .i64 (fA .i64 (eA g) 1) K)) λJ=>
          if J.ak5=4 then dH (dW J.ak6 1) λan=>dH (fm FU an t) λao=>
           if ao then dH (gA K) λL=>dH (dW J.ak6 0) λM=>dU (ie n d2 g M (fA .i64 dep 1)) λO P=>
            dH (fQ 3 [L,O]) λQ=>some (gm.ret (Q,P))
           else some (gm.next ())
          else if false then dH (gA K) λL=>dH (dW J.ak6 0) λM=>dU (ie n d2 g M (fA .i64 dep 1)) λO P=>
            dH (fQ 3 [L,O]) λQ=>some (gm.ret (Q,P))
           else some (gm.next ())) g 0 () trivial (by
        intro k u s hk _;have aL:k<g.length:=(sY.1 hk).1
        have ad:g.length-1-k<g.length:=VW
        have e1:dW g (fA .i64 (fA .i64 (eA g) 1) ((0+k:Nat):Int))=some g[g.length-1-k]:=by
         rw[Aa,fM,fT (a:=(g.length:Int)) (b:=1) VW VW,fT VW VW,show(g.length:Int)-1-(k:Int)=((g.length-1-k:Nat):Int) by omega,gX];simp[ad]
        simp only[e1,dI];have hf:=hg.all _ (B7 ad);have aw:g[g.length-1-k]?=some g[g.length-1-k]:=o9 ad;generalize g[g.length-1-k]=f at hf aw|-;rcases Ty.pJ hf.1 with rfl|rfl|rfl|⟨a,b,rfl,ha,hb⟩|⟨a,b,rfl,ha,hb⟩
        ·left;exact⟨(),rfl,trivial⟩
        ·left;exact⟨(),rfl,trivial⟩
        ·left;exact⟨(),rfl,trivial⟩
        ·left;exact⟨(),rfl,trivial⟩
        ·simp only[show(Ty.fn a b).ak5=4 from rfl,show(Ty.fn a b).ak6=[a,b] from rfl,fZ,if_true,eW,iv,lN,rq,dI];have aM:=hf.2;rw[Ty.iz] at aM;rw[iB VW];simp only[dI];cases hs:b.jY t with
         |false=>left;exact⟨(),rfl,trivial⟩|true=>
          rw[Ty.kv] at hs;subst hs;right;simp only[if_true,Aa];rw[DZ];simp only[dI];obtain⟨y,d5,a1,a2,a3⟩:=deep o g a d2 VW hg ha VW C;rw[a1];simp only[dQ];have w1:=q o a3
          have e2:(kB k).wt=2:=by unfold kB;rw[Tm.iA];rfl
          rw[vV VW VW];refine⟨_,rfl,kL.of a2 (.app (ahP k aL aw) a3.ty) ?_⟩;have:=a3.ak7
          have e3:(kB k).ak7=1:=by unfold kB;rw[Tm.dP];rfl
          rw[Tm.dP];simp only[ei];omega)with⟨s,hs,_⟩|⟨r,hr,aN⟩
       ·rw[hs];exact W d2 C
       ·rw[hr];exact aN
      ·exact W d2 C
     ·exact W d1 ak
  ·intro j W;simp only[iD,fM]
   split
   ·rename_i o;obtain⟨x,d2,U,X,h3,C⟩:=qV d hd 3 VW VW;rw[U];simp only[dQ];exact W _ d2 ⟨C,λ_ h=>by subst h;simp at o⟩
   ·exact W _ d ⟨hd,λh=>by cases h⟩
inductive iQ:List Ty->Fm->Prop
 |eq {g a b}:ef g a .nat->ef g b .nat->iQ g (.mk 1 .z [a,b] [])|two {g k a b}:k=2\/k=3->iQ g a->iQ g b->iQ g (.mk k .z [] [a,b])|q {g k s a}:k=4\/k=5\/k=6\/k=7->s.err=0->iQ (g++[s]) a->iQ g (.mk k s [] [a])
def iQ.ok{g:List Ty}{f:Fm}(h:iQ g f):f.ok=true:=by
 induction h with
 |eq c d=>simp[Fm.hH,Fm.node,Ty.p3,c.ok,d.ok]|two i _ _ j l=>
  rename_i k a b _ _
  have:¬k=1:=VW
  simp[Fm.hH,Fm.node,Ty.p3,i,this,j,l]
 |q i hs _ ih=>
  rename_i k s a _
  have c:¬k=1:=VW
  have d:¬(k=2\/k=3):=VW
  have n:j4 k=true:=by simp[j4,i]
  simp[Fm.hH,Fm.node,c,d,n,hs,ih]
def agv{a b:Tm}(c:a.wt<=1000000000)(d:b.wt<=1000000000):yf a b=some (.mk 1 .z [a,b] []):=by
 unfold yf;rw[uM c,uM d];rfl
def Md{k:Int}{a b:Fm}(c:a.wt<=1000000000)(d:b.wt<=1000000000):rC k a b=some (.mk k .z [] [a,b]):=by
 unfold rC;rw[rQ c,rQ d];rfl
def Tn{k:Int}{s:Ty}{a:Fm}(hs:s.ak7<=1000000000)(b:a.wt<=1000000000):nA k s a=some (.mk k s [] [a]):=by
 unfold nA;rw[jm hs,rQ b];rfl
def xy(l:List Ty):Int:=if 16<l.length then 3 else fy (l.map Ty.err)
def Gb(l:List Ty)(f:l.length<=1000000)(h:∀t∈l,t.ak7<=1000000000):ng l=some (xy l):=by
 unfold ng xy;simp only[iD,fM,et (l:=l) VW,ec,eg]
 by_cases b:16<l.length
 ·rw[dR VW,dR b]
 ·rw[dK VW,dK b]
  have key:=pM (F:=λ(j:Int) (x:Ty) (_:Unit)=>dH (rF x) λa=>if eP a 0 then some (gm.ret a)else some (gm.next ())) Ty.err l 0 (by
   intro j x d;rw[Ji (h x d)]
   simp only[dI,ez])
  simp only[ez] at key|-;rw[key]
  by_cases c:fy (l.map Ty.err)=0
  ·simp[c]
  ·simp[c]
def tm(l:List Ty)(f:l.length<=1000000)(h:∀t∈l,t.ak7<=1000000000):l7 l=some (xy l):=by
 unfold l7 xy;simp only[iD,fM,et (l:=l) VW,ec,eg]
 by_cases b:16<l.length
 ·rw[dR VW,dR b]
 ·rw[dK VW,dK b]
  have key:=pM (F:=λ(j:Int) (x:Ty) (_:Unit)=>dH (il x) λa=>if eP a 0 then some (gm.ret a)else some (gm.next ())) Ty.err l 0 (by
   intro j x d;rw[km (h x d)]
   simp only[dI,ez])
  simp only[ez] at key|-;rw[key]
  by_cases c:fy (l.map Ty.err)=0
  ·simp[c]
  ·simp[c]
def FR:∀(n:Nat) (a b:Ty),a.ak7<=n->a.ak7<=1000000000->∃r,gN n a b=some r/\(r=true↔a=b):=by
 intro n
 induction n with
 |zero=>intro t b h;have:=t.eM;omega
 |succ n ih=>
  intro a b h s;cases a with
  |mk k l=>
  cases b with
  |mk k' m=>
   rw[Ty.dP] at h s;have v:=Ty.fV l;rw[gN];simp only[Ty.eH,Ty.eL,eg,et (l:=l) VW,ec,lU,tR,ez,fM]
   by_cases d:k≠k'\/(l.length:Int)≠m.length
   ·rw[dR d];refine⟨false,rfl,?_⟩;simp only[oz,Ug,Ty.mk.injEq,not_and];rintro rfl rfl;simp at d
   ·rw[dK d];simp only[not_or,w5] at d;obtain⟨rfl,hlen⟩:=d
    have c:l.length=m.length:=VW
    let p:Ty->Ty->Bool:=λx y=>(gN n x y).getD false
    have o:∀x∈l,∀y,gN n x y=some (p x y)/\(p x y=true↔x=y):=by
     intro x f y;have:=eG Ty.ak7 f;obtain⟨r,q,i⟩:=ih x y VW VW
     have e:p x y=r:=by show(gN n x y).getD false=r;rw[q];rfl
     rw[e];exact⟨q,i⟩
    have key:=A0 (F:=λ(j:Int) (x:Ty) (_:Unit)=>dH (dW m j) λy=>dH (gN n x y) λz=>if z then some (gm.next ())else some (gm.ret false)) p m l 0 m rfl c (by
     intro k x y f u;rw[gX,u];simp only[dI];rw[(o x f y).1]
     rfl)
    rw[key];have he:=A9 p l m λx f y=>(o x f y).2;cases i:xg p l m with
    |false=>exact⟨false,rfl,by rw[i] at he;simpa using he⟩
    |true=>exact⟨true,rfl,by rw[i] at he;simpa using he⟩
def Gd:∀(n:Nat) (a b:Tm),a.wt<=n->a.wt<=1000000000->∃r,jz n a b=some r/\(r=true↔a=b):=by
 intro n
 induction n with
 |zero=>intro t b h;have:=t.kb;omega
 |succ n ih=>
  intro a b h G;cases a with
  |mk k i s l=>
  cases b with
  |mk k' f v m=>
   rw[Tm.iA] at h G;have J:=Tm.tD l;rw[jz];simp only[Tm.eH,Tm.eL,Tm.iC,Tm.fK,eg,et (l:=l) VW,ec,ez,fM]
   have no:¬(k=k'/\i=f/\s=v/\l.length=m.length)->∃r,some false=some r/\(r=true↔Tm.mk k i s l=Tm.mk k' f v m):=by
    intro hn;refine⟨false,rfl,?_⟩;simp only[oz,Ug,Tm.mk.injEq,not_and];rintro rfl rfl rfl rfl;exact hn ⟨rfl,rfl,rfl,rfl⟩
   by_cases o:k≠k'
   ·rw[dR o,dR trivial];exact no λh=>o h.1
   ·rw[dK o]
    by_cases hi:i≠f
    ·rw[dR hi,dR trivial];exact no λh=>hi h.2.1
    ·rw[dK hi];obtain⟨r,H,B⟩:=FR FU s v (by rw[fB];omega) VW;rw[H];simp only[dI]
     by_cases q:r=true
     ·have hs:=B.1 q;rw[dR q]
      by_cases hlen:(l.length:Int)≠m.length
      ·rw[dR hlen];exact no λh=>hlen VW
      ·rw[dK hlen]
       have c:l.length=m.length:=VW
       let p:Tm->Tm->Bool:=λx y=>(jz n x y).getD false
       have C:∀x∈l,∀y,jz n x y=some (p x y)/\(p x y=true↔x=y):=by
        intro x d y;have:=eG Tm.wt d;obtain⟨r,D,u⟩:=ih x y VW VW
        have e:p x y=r:=by show(jz n x y).getD false=r;rw[D];rfl
        rw[e];exact⟨D,u⟩
       have key:=A0 (F:=λ(j:Int) (x:Tm) (_:Unit)=>dH (dW m j) λy=>dH (jz n x y) λz=>if z then some (gm.next ())else some (gm.ret false)) p m l 0 m rfl c (by
        intro k x y d I;rw[gX,I];simp only[dI];rw[(C x d y).1]
        rfl)
       rw[key];have he:=A9 p l m λx d y=>(C x d y).2;have w:k=k':=w5.1 o;have hi':i=f:=w5.1 hi;cases u:xg p l m with
       |false=>
        refine⟨false,rfl,?_⟩;rw[u] at he;simp only[oz,Ug,Tm.mk.injEq,not_and];intro _ _ _ A;exact absurd (he.2 A) aa2
       |true=>
        refine⟨true,rfl,?_⟩;rw[u] at he;simp only[true_iff,Tm.mk.injEq];exact⟨w,hi',hs,he.1 rfl⟩
     ·rw[dK q,dR trivial];exact no λh=>q (B.2 h.2.2.1)
def xD:∀(n:Nat) (a b:Tm),a.wt<=n->a.wt<=1000000000->∃r,ly n a b=some r/\(r=true↔a=b):=by
 intro n
 induction n with
 |zero=>intro t b h;have:=t.kb;omega
 |succ n ih=>
  intro a b h G;cases a with
  |mk k i s l=>
  cases b with
  |mk k' f v m=>
   rw[Tm.iA] at h G;have J:=Tm.tD l;rw[ly];simp only[Tm.eH,Tm.eL,Tm.iC,Tm.fK,eg,et (l:=l) VW,ec,ez,fM]
   have no:¬(k=k'/\i=f/\s=v/\l.length=m.length)->∃r,some false=some r/\(r=true↔Tm.mk k i s l=Tm.mk k' f v m):=by
    intro hn;refine⟨false,rfl,?_⟩;simp only[oz,Ug,Tm.mk.injEq,not_and];rintro rfl rfl rfl rfl;exact hn ⟨rfl,rfl,rfl,rfl⟩
   by_cases o:k≠k'
   ·rw[dR o,dR trivial];exact no λh=>o h.1
   ·rw[dK o]
    by_cases hi:i≠f
    ·rw[dR hi,dR trivial];exact no λh=>hi h.2.1
    ·rw[dK hi];obtain⟨r,H,B⟩:=xz FU s v (by rw[fB];omega) VW;rw[H];simp only[dI]
     by_cases q:r=true
     ·have hs:=B.1 q;rw[dR q]
      by_cases hlen:(l.length:Int)≠m.length
      ·rw[dR hlen];exact no λh=>hlen VW
      ·rw[dK hlen]
       have c:l.length=m.length:=VW
       let p:Tm->Tm->Bool:=λx y=>(ly n x y).getD false
       have C:∀x∈l,∀y,ly n x y=some (p x y)/\(p x y=true↔x=y):=by
        intro x d y;have:=eG Tm.wt d;obtain⟨r,D,u⟩:=ih x y VW VW
        have e:p x y=r:=by show(ly n x y).getD false=r;rw[D];rfl
        rw[e];exact⟨D,u⟩
       have key:=A0 (F:=λ(j:Int) (x:Tm) (_:Unit)=>dH (dW m j) λy=>dH (ly n x y) λz=>if z then some (gm.next ())else some (gm.ret false)) p m l 0 m rfl c (by
        intro k x y d I;rw[gX,I];simp only[dI];rw[(C x d y).1]
        rfl)
       rw[key];have he:=A9 p l m λx d y=>(C x d y).2;have w:k=k':=w5.1 o;have hi':i=f:=w5.1 hi;cases u:xg p l m with
       |false=>
        refine⟨false,rfl,?_⟩;rw[u] at he;simp only[oz,Ug,Tm.mk.injEq,not_and];intro _ _ _ A;exact absurd (he.2 A) aa2
       |true=>
        refine⟨true,rfl,?_⟩;rw[u] at he;simp only[true_iff,Tm.mk.injEq];exact⟨w,hi',hs,he.1 rfl⟩
     ·rw[dK q,dR trivial];exact no λh=>q (B.2 h.2.2.1)
def Kx{a b:Tm}(hw:a.wt<=1000000000):∃r,rh a b=some r/\(r=true↔a=b):=by
 obtain⟨r,c,d⟩:=Gd FU a b (by rw[fB];exact hw) hw;exact⟨r,by unfold rh;rw[c];rfl,d⟩
def EJ:∀(k:Nat) (m:Int) (t:Tm),(t.norm k m).2.2=0\/(t.norm k m).2.2=4\/(t.norm k m).2.2=5
 |0,m,t=>by
  rw[Tm.norm]
  split
  ·exact .inl rfl
  ·exact .inr (.inr rfl)
 |k+1,m,t=>by
  rw[Tm.norm]
  split
  ·exact .inr (.inl rfl)
  ·exact .inl rfl
  ·exact EJ k _ _
def R0:∀(k:Nat) (m:Int) (t a:Tm) (n:Int),t.norm k m=(a,n,0)->a.nf=true/\m<=n/\n<=m+k/\(∀k':Nat,n<=m+k'->t.norm k' m=(a,n,0))/\∀k':Nat,m+k'<n->t.norm k' m=(Tm.z,0,5)
 |0,m,t,a,n,h=>by
  rw[Tm.norm] at h
  split at h
  ·rename_i b;obtain⟨c,h⟩:=iM h;rw[<-c];obtain⟨rfl,_⟩:=iM h;refine⟨b,Ke _,VW,λk' _=>?_,λk' h=>by omega⟩;cases k' with
   |zero=>rw[Tm.norm,dR b]|succ k'=>rw[FJ ((Fu _ _).1 b)]
  ·cases h
 |k+1,m,t,a,n,h=>by
  rw[Tm.norm] at h
  split at h
  ·cases h
  ·rename_i hs;obtain⟨c,h⟩:=iM h;rw[<-c];obtain⟨rfl,_⟩:=iM h;have b:=(Fu _ _).2 hs;refine⟨b,Ke _,VW,λk' _=>?_,λk' h=>by omega⟩;cases k' with
   |zero=>rw[Tm.norm,dR b]|succ k'=>rw[FJ hs]
  ·rename_i d hs;obtain⟨f,o,q,i,j⟩:=R0 k (m+1) d a n h;refine⟨f,VW,VW,λk' l=>?_,λk' l=>?_⟩
   ·cases k' with
    |zero=>omega|succ k'=>
     rw[Gg hs];exact i k' VW
   ·cases k' with
    |zero=>
     rw[Tm.norm,dK];intro b;rw[(Fu _ _).1 b] at hs;cases hs
    |succ k'=>
     rw[Gg hs];exact j k' VW
def H3:∀(k:Nat) (M m:Int) (t a:Tm) (n:Int),0<=M->Sm M t->t.ak7<=4096->t.norm k m=(a,n,0)->Sm (M+8192*k) a/\a.ak7<=4096
 |0,M,m,t,a,n,d,hs,hn,h=>by
  rw[Tm.norm] at h
  split at h
  ·obtain⟨b,h⟩:=iM h;rw[<-b];exact⟨hs.mono VW,hn⟩
  ·cases h
 |k+1,M,m,t,a,n,d,hs,hn,h=>by
  rw[Tm.norm] at h
  split at h
  ·cases h
  ·obtain⟨b,h⟩:=iM h;rw[<-b];exact⟨hs.mono VW,hn⟩
  ·rename_i f c;obtain⟨i,j,l⟩:=W7 d t hs VW f c;obtain⟨a1,a2⟩:=H3 k (M+8192) (m+1) f a n VW ⟨i,j,VW⟩ VW h;exact⟨a1.mono VW,a2⟩
def T7(l:List Int):IN l=some (decide (l.length<=500)):=by
 unfold IN
 congr 1
 unfold Yr eA;exact aa9.2 VW
def qN{k:Int}(a:k≠1)(c:k≠2)(f b i:Int)(s:Ty)(l:List Tm):(Tm.mk k i s l).up f b=.mk k i s (l.map (Tm.up f b)):=by
 rw[Tm.fJ,dK (λh=>a h.1)];unfold fE;rw[dK c,uQ]
def VO(f b i:Int)(s:Ty)(l:List Tm):(Tm.mk 2 i s l).up f b=.mk 2 i s (l.map (Tm.up (f+1) b)):=by
 rw[Tm.fJ,dK (λh=>by have:=h.1;omega)];rfl
def nt{k:Int}(b:k≠1)(c:k≠2)(n i:Int)(a:Tm)(s:Ty)(l:List Tm):Tm.gJ n (Tm.mk k i s l) a=.mk k i s (l.map λx=>Tm.gJ n x a):=by
 rw[Tm.fO,dK b];unfold fE;rw[dK c,uQ]
def RY(n i:Int)(a:Tm)(s:Ty)(l:List Tm):Tm.gJ n (Tm.mk 2 i s l) a=.mk 2 i s (l.map λx=>Tm.gJ (n+1) x a):=by
 rw[Tm.fO,dK aak];rfl
def HB{g:List Ty}{t:Ty}{i j:Nat}(h:g[j]?=some t)(hi:i<g.length)(a:g.length-1-i=j):ef g (.mk 1 i .z []) t:=.var i hi (by rw[a];exact h)
def ef.up{g:List Ty}{x:Tm}{t:Ty}(h:ef g x t):∀g1 g2 e:List Ty,g=g1++g2->ef (g1++e++g2) (x.up g2.length e.length) t:=by
 induction h with
 |@var g t i d k=>
  rintro g1 g2 e rfl;rw[Tm.fJ,ry];rw[ni] at d
  by_cases hi:g2.length<=i
  ·rw[dR ⟨rfl,VW⟩,show(i:Int)+e.length=((i+e.length:Nat):Int) by push_cast;rfl];refine HB (j:=g1.length+g2.length-1-i) ?_ (by simp<;>omega) (by simp<;>omega);rw[ni,vE VW] at k;rw[th,vE VW];exact k
  ·rw[dK (λh=>by have:=h.2;omega)];refine HB (j:=g1.length+e.length+(g2.length-1-i)) ?_ (by simp<;>omega) (by simp<;>omega);rw[ni,tE VW] at k;rw[tE (by simp<;>omega)];rw[<-k]
   congr 1
   simp;omega
 |@lam g s b t d _ ih=>
  rintro g1 g2 e rfl;have:=ih g1 (g2++[s]) e (by rw[th]);rw[VO];refine .lam d ?_;rw[ni,<-th] at this;exact this
 |app _ _ a c=>intro g1 g2 e hg;rw[qN aak aak];exact .app (a g1 g2 e hg) (c g1 g2 e hg)|zero=>intro g1 g2 e hg;rw[qN aak aak];exact .zero|succ _ ih=>intro g1 g2 e hg;rw[qN aak aak];exact .succ (ih g1 g2 e hg)|rZ d _ _ _ a c f=>intro g1 g2 e hg;rw[qN aak aak];exact .rZ d (a g1 g2 e hg) (c g1 g2 e hg) (f g1 g2 e hg)|nil=>intro g1 g2 e hg;rw[qN aak aak];exact .nil|cons _ _ a c=>intro g1 g2 e hg;rw[qN aak aak];exact .cons (a g1 g2 e hg) (c g1 g2 e hg)|fold d _ _ _ a c f=>intro g1 g2 e hg;rw[qN aak aak];exact .fold d (a g1 g2 e hg) (c g1 g2 e hg) (f g1 g2 e hg)|pair d _ _ a c=>intro g1 g2 e hg;rw[qN aak aak];exact .pair d (a g1 g2 e hg) (c g1 g2 e hg)|fst _ ih=>intro g1 g2 e hg;rw[qN aak aak];exact .fst (ih g1 g2 e hg)|snd _ ih=>intro g1 g2 e hg;rw[qN aak aak];exact .snd (ih g1 g2 e hg)|unit=>intro g1 g2 e hg;rw[qN aak aak];exact .unit
def ef.gJ{g:List Ty}{x:Tm}{t:Ty}(h:ef g x t):∀(g1:List Ty) (s:Ty) (g2:List Ty) (a:Tm),g=g1++[s]++g2->ef g1 a s->ef (g1++g2) (Tm.gJ g2.length x a) t:=by
 induction h with
 |@var g t i k l=>
  rintro g1 s g2 a rfl c;rw[Tm.fO,dR rfl];unfold Tm.nj;simp only[ni,mz,B4] at k l
  by_cases he:(i:Int)=g2.length
  ·rw[dR he]
   have o:s=t:=by
    rw[th,tE VW,vE (by simp<;>omega)] at l;rw[show g1.length+(0+1)+g2.length-1-i-g1.length=0 by omega] at l;exact kR l
   subst o;have:=c.up g1 [] g2 aa2;simpa using this
  ·rw[dK he]
   by_cases hi:(g2.length:Int)<i
   ·rw[dR hi,show(i:Int)-1=((i-1:Nat):Int) by omega];refine HB (j:=g1.length+g2.length-i) ?_ (by simp<;>omega) (by simp<;>omega);rw[th,vE VW] at l;rw[vE VW,<-l]
    congr 1
    omega
   ·rw[dK hi];refine HB (j:=g1.length+(g2.length-1-i)) ?_ (by simp<;>omega) (by simp<;>omega);rw[tE (by simp<;>omega)] at l;rw[tE VW,<-l]
    congr 1
    simp;omega
 |@lam g s b t k _ ih=>
  rintro g1 u g2 a rfl c;have:=ih g1 u (g2++[s]) a (by simp only[th]) c;rw[RY];refine .lam k ?_;rw[ni,<-th] at this;exact this
 |app _ _ d f=>intro g1 s g2 a hg c;rw[nt aak aak];exact .app (d g1 s g2 a hg c) (f g1 s g2 a hg c)|zero=>intro g1 s g2 a hg c;rw[nt aak aak];exact .zero|succ _ ih=>intro g1 s g2 a hg c;rw[nt aak aak];exact .succ (ih g1 s g2 a hg c)|rZ k _ _ _ d f n=>intro g1 s g2 a hg c;rw[nt aak aak];exact .rZ k (d g1 s g2 a hg c) (f g1 s g2 a hg c) (n g1 s g2 a hg c)|nil=>intro g1 s g2 a hg c;rw[nt aak aak];exact .nil|cons _ _ d f=>intro g1 s g2 a hg c;rw[nt aak aak];exact .cons (d g1 s g2 a hg c) (f g1 s g2 a hg c)|fold k _ _ _ d f n=>intro g1 s g2 a hg c;rw[nt aak aak];exact .fold k (d g1 s g2 a hg c) (f g1 s g2 a hg c) (n g1 s g2 a hg c)|pair k _ _ d f=>intro g1 s g2 a hg c;rw[nt aak aak];exact .pair k (d g1 s g2 a hg c) (f g1 s g2 a hg c)|fst _ ih=>intro g1 s g2 a hg c;rw[nt aak aak];exact .fst (ih g1 s g2 a hg c)|snd _ ih=>intro g1 s g2 a hg c;rw[nt aak aak];exact .snd (ih g1 s g2 a hg c)|unit=>intro g1 s g2 a hg c;rw[nt aak aak];exact .unit
def Ty.aff{a b c d:Ty}(h:Ty.fn a b=Ty.fn c d):a=c/\b=d:=by unfold Ty.fn at h;simpa using h
def Ty.Ww{a b c d:Ty}(h:Ty.pr a b=Ty.pr c d):a=c/\b=d:=by unfold Ty.pr at h;simpa using h
def ef.fx{g:List Ty}{x:Tm}{t:Ty}(h:ef g x t)(o:x.root=true):ef g x.fx t:=by
 cases h with
 |@app _ f a s _ c k=>
  have d:f.ak5=2:=by simpa[Tm.root,Tm.kd] using o
  generalize r:Ty.fn s t=q at c
  cases c<;>simp only[Tm.eL] at d<;>first|omega|skip
  rename_i A b w i j;obtain⟨rfl,rfl⟩:=Ty.aff r;have:=j.gJ g s [] a aa2 k;simpa[Tm.fx] using this
 |@rZ _ _ b s n c k i j=>
  have d:n.ak5=4\/n.ak5=5:=by simpa[Tm.root,Tm.kd] using o
  cases j<;>simp only[Tm.eL] at d<;>first|omega|skip
  ·simpa[Tm.fx] using k
  ·rename_i m l;have:=ef.app (.app i l) (ef.rZ c k i l);simpa[Tm.fx,o8,Ty.z] using this
 |@fold _ _ b s n c k i j=>
  have d:n.ak5=7\/n.ak5=8:=by simpa[Tm.root,Tm.kd] using o
  cases j<;>simp only[Tm.eL] at d<;>first|omega|skip
  ·simpa[Tm.fx] using k
  ·rename_i u v l y;have:=ef.app (.app (.app i l) y) (ef.fold c k i y);simpa[Tm.fx,o8,Ty.z] using this
 |@fst _ a s w c=>
  have d:a.ak5=10:=by simpa[Tm.root,Tm.kd] using o
  generalize r:Ty.pr t w=q at c
  cases c<;>simp only[Tm.eL] at d<;>first|omega|skip
  rename_i i j l;obtain⟨rfl,rfl⟩:=Ty.Ww r;simpa[Tm.fx] using j
 |@snd _ a s w c=>
  have d:a.ak5=10:=by simpa[Tm.root,Tm.kd] using o
  generalize r:Ty.pr s t=q at c
  cases c<;>simp only[Tm.eL] at d<;>first|omega|skip
  rename_i i j l;obtain⟨rfl,rfl⟩:=Ty.Ww r;simpa[Tm.fx] using l
 |_=>simp[Tm.root] at o
def lr{r k i:Int}{s:Ty}{l:List Tm}{b:Tm}(h:(Tm.mk k i s l).Kg r=some (some b)):((Tm.mk k i s l).root=true/\b=(Tm.mk k i s l).fx)\/∃a,Tm.wc r l=some (some a)/\b=.mk k i s a:=by
 rw[Tm.MC] at h
 by_cases c:(Tm.mk k i s l).root=true
 ·rw[dR c] at h
  split at h
  · cases h
  · exact .inl ⟨c,(kR (kR h)).symm⟩
 ·rw[dK c] at h;cases e:Tm.wc r l with
  |none=>rw[e] at h;cases h
  |some o=>
    cases o with
    |none=>rw[e] at h;cases h
    |some a=>rw[e] at h;exact .inr ⟨a,rfl,(kR (kR h)).symm⟩
def jT{r:Int}{a:Tm}{l c:List Tm}(h:Tm.wc r (a::l)=some (some c)):(∃b,a.Kg r=some (some b)/\c=b::l)\/∃m,Tm.wc r l=some (some m)/\c=a::m:=by
 rw[Tm.wc] at h;cases e:a.Kg r with
 |none=>rw[e] at h;cases h
 |some o=>
  cases o with
  |some b=>rw[e] at h;exact .inl ⟨b,rfl,(kR (kR h)).symm⟩
  |none=>
   rw[e] at h;dsimp only at h;cases d:Tm.wc r l with
   |none=>rw[d] at h;cases h
   |some o2=>
    cases o2 with
    |none=>rw[d] at h;cases h
    |some m=>rw[d] at h;exact .inr ⟨m,rfl,(kR (kR h)).symm⟩
def mU{r:Int}{a:List Tm}(h:Tm.wc r []=some (some a)):False:=by rw[Tm.wc] at h;cases h
def ef.Kg{r:Int}{g:List Ty}{x:Tm}{t:Ty}(h:ef g x t):∀o,x.Kg r=some (some o)->ef g o t:=by
 induction h with
 |var i c j=>
  intro o hs;rcases lr hs with⟨d,rfl⟩|⟨u,f,rfl⟩
  ·exact(ef.var i c j).fx d
  ·exact(mU f).elim
 |lam c j ih=>
  intro o hs;rcases lr hs with⟨d,rfl⟩|⟨u,f,rfl⟩
  ·exact(ef.lam c j).fx d
  ·rcases jT f with⟨q,a,b⟩|⟨m,a,b⟩
   ·subst_vars;exact .lam c (ih _ a)
   ·exact(mU a).elim
 |app c j k l=>
  intro o hs;rcases lr hs with⟨d,rfl⟩|⟨u,f,rfl⟩
  ·exact(ef.app c j).fx d
  ·rcases jT f with⟨q,a,b⟩|⟨m,a,b⟩
   ·subst_vars;exact .app (k _ a) j
   ·rcases jT a with⟨q,n,b⟩|⟨m,n,b⟩
    ·subst_vars;exact .app c (l _ n)
    ·exact(mU n).elim
 |zero=>
  intro o hs;rcases lr hs with⟨d,rfl⟩|⟨u,f,rfl⟩
  ·exact ef.zero.fx d
  ·exact(mU f).elim
 |succ c ih=>
  intro o hs;rcases lr hs with⟨d,rfl⟩|⟨u,f,rfl⟩
  ·exact(ef.succ c).fx d
  ·rcases jT f with⟨q,a,b⟩|⟨m,a,b⟩
   ·subst_vars;exact .succ (ih _ a)
   ·exact(mU a).elim
 |rZ s c j v k l w=>
  intro o hs;rcases lr hs with⟨d,rfl⟩|⟨u,f,rfl⟩
  ·exact(ef.rZ s c j v).fx d
  ·rcases jT f with⟨q,a,b⟩|⟨m,a,b⟩
   ·subst_vars;exact .rZ s (k _ a) j v
   ·rcases jT a with⟨q,n,b⟩|⟨m,n,b⟩
    ·subst_vars;exact .rZ s c (l _ n) v
    ·rcases jT n with⟨q,y,b⟩|⟨m,y,b⟩
     ·subst_vars;exact .rZ s c j (w _ y)
     ·exact(mU y).elim
 |nil=>
  intro o hs;rcases lr hs with⟨d,rfl⟩|⟨u,f,rfl⟩
  ·exact ef.nil.fx d
  ·exact(mU f).elim
 |cons c j k l=>
  intro o hs;rcases lr hs with⟨d,rfl⟩|⟨u,f,rfl⟩
  ·exact(ef.cons c j).fx d
  ·rcases jT f with⟨q,a,b⟩|⟨m,a,b⟩
   ·subst_vars;exact .cons (k _ a) j
   ·rcases jT a with⟨q,n,b⟩|⟨m,n,b⟩
    ·subst_vars;exact .cons c (l _ n)
    ·exact(mU n).elim
 |fold s c j v k l w=>
  intro o hs;rcases lr hs with⟨d,rfl⟩|⟨u,f,rfl⟩
  ·exact(ef.fold s c j v).fx d
  ·rcases jT f with⟨q,a,b⟩|⟨m,a,b⟩
   ·subst_vars;exact .fold s (k _ a) j v
   ·rcases jT a with⟨q,n,b⟩|⟨m,n,b⟩
    ·subst_vars;exact .fold s c (l _ n) v
    ·rcases jT n with⟨q,y,b⟩|⟨m,y,b⟩
     ·subst_vars;exact .fold s c j (w _ y)
     ·exact(mU y).elim
 |pair s c j k l=>
  intro o hs;rcases lr hs with⟨d,rfl⟩|⟨u,f,rfl⟩
  ·exact(ef.pair s c j).fx d
  ·rcases jT f with⟨q,a,b⟩|⟨m,a,b⟩
   ·subst_vars;exact .pair s (k _ a) j
   ·rcases jT a with⟨q,n,b⟩|⟨m,n,b⟩
    ·subst_vars;exact .pair s c (l _ n)
    ·exact(mU n).elim
 |fst c ih=>
  intro o hs;rcases lr hs with⟨d,rfl⟩|⟨u,f,rfl⟩
  ·exact(ef.fst c).fx d
  ·rcases jT f with⟨q,a,b⟩|⟨m,a,b⟩
   ·subst_vars;exact .fst (ih _ a)
   ·exact(mU a).elim
 |snd c ih=>
  intro o hs;rcases lr hs with⟨d,rfl⟩|⟨u,f,rfl⟩
  ·exact(ef.snd c).fx d
  ·rcases jT f with⟨q,a,b⟩|⟨m,a,b⟩
   ·subst_vars;exact .snd (ih _ a)
   ·exact(mU a).elim
 |unit=>
  intro o hs;rcases lr hs with⟨d,rfl⟩|⟨u,f,rfl⟩
  ·exact ef.unit.fx d
  ·exact(mU f).elim
def ef.norm{g:List Ty}{t:Ty}:∀(k:Nat) (m:Int) (x a:Tm) (n:Int),ef g x t->x.norm k m=(a,n,0)->ef g a t
 |0,m,x,a,n,b,h=>by
  rw[Tm.norm] at h
  split at h
  ·obtain⟨c,_⟩:=iM h;rw[<-c];exact b
  ·cases h
 |k+1,m,x,a,n,b,h=>by
  rw[Tm.norm] at h
  split at h
  ·cases h
  ·obtain⟨c,_⟩:=iM h;rw[<-c];exact b
  ·rename_i d hs;exact ef.norm k (m+1) d a n (b.Kg _ hs) h
theorem Jb{i:Int}{s:Ty}{l:List Tm}(h:(Tm.mk 1 i s l).ok=true):s=.mk 0 []/\l=[]:=by
 have b:=Tm.sM h;have e:gU 1=0:=rfl;have a:l=[]:=B_ VW;subst a;rw[Tm.hH] at h;cases s with
 |mk k l=>simp[Tm.node,j5,Ty.rH,eo,eA,gU] at h;refine⟨?_,rfl⟩;obtain⟨c,d⟩:=h;simp_all
theorem ahy(t:Tm):∀g f n c:Int,0<=g->0<=n->0<=c->g+n<=f->(t.up g n).up f c=(t.up (f-n) c).up g n:=by
 induction t using Tm.ind with
 |h k i s l ih=>
  intro g f n c hg hn a b;simp only[Tm.fJ,Bp]
  congr 1
  ·grind
  ·refine tQ λx d=>?_
   grind[fE]
theorem up_add(t:Tm):∀g f p m:Int,0<=g->0<=p->0<=m->g<=f->f<=g+p->(t.up g p).up f m=t.up g (p+m):=by
 induction t using Tm.ind with
 |h k i s l ih=>
  intro g f p m hg a hm b c;simp only[Tm.fJ,Bp]
  congr 1
  ·grind
  ·refine tQ λx d=>?_
   grind[fE]
theorem QI(x t:Tm):∀g m n:Int,t.ok=true->0<=g->g<=m->m<=g+n->Tm.gJ m (t.up g (n+1)) x=t.up g n:=by
 induction t using Tm.ind with
 |h k i s l ih=>
  intro g m n b hg c d
  by_cases a:k=1
  ·grind[Jb,Tm.fJ,Tm.fO,Tm.nj]
  ·simp only[Tm.fJ,a,Jr,iU,Tm.fO,Bp]
   congr 1
   refine tQ λy f=>?_
   grind[fE,Tm.ey]
theorem Pn(a t:Tm):∀g m n:Int,t.ok=true->0<=g->0<=m->g+m<=n->Tm.gJ n (t.up g m) a=(Tm.gJ (n-m) t a).up g m:=by
 induction t using Tm.ind with
 |h k i s l ih=>
  intro g m n c hg hm d
  by_cases b:k=1
  ·grind[Tm.fJ,Tm.fO,Tm.nj,up_add]
  ·simp only[Tm.fJ,b,Jr,iU,Tm.fO,Bp]
   congr 1
   refine tQ λy f=>?_
   grind[fE,Tm.ey]
def afq(a t:Tm):∀n f c:Int,t.ok=true->0<=n->n<=f->0<=c->(Tm.gJ n t a).up f c=Tm.gJ n (t.up (f+1) c) (a.up (f-n) c):=by
 induction t using Tm.ind with
 |h k i s l ih=>
  intro n f c d hn j o
  by_cases b:k=1
  ·subst b;obtain⟨rfl,rfl⟩:=Jb d;simp only[Tm.fJ,AK,ry,Tm.fO,if_true]
   grind[Tm.nj,ahy,Tm.fJ]
  ·simp only[Tm.fJ,b,Jr,iU,Tm.fO,Bp]
   congr 1
   refine tQ λy q=>?_
   grind[fE,Tm.ey]
def Z8(a s:Tm)(c:a.ok=true)(hs:s.ok=true)(t:Tm):∀m n:Int,t.ok=true->0<=m->m<=n->Tm.gJ n (Tm.gJ m t a) s=Tm.gJ m (Tm.gJ (n+1) t s) (Tm.gJ (n-m) a s):=by
 induction t using Tm.ind with
 |h k i ty l ih=>
  intro m n d hm hn
  by_cases b:k=1
  ·grind[Jb,Tm.fO,Tm.nj,Pn,QI]
  ·simp only[Tm.fO,b,iU,Bp]
   congr 1
   refine tQ λy f=>?_
   grind[fE,Tm.ey]
inductive l_:Tm->Tm->Prop
 |n0 (k i:Int) (s:Ty):l_ (.mk k i s []) (.mk k i s [])|n1 (k i:Int) (s:Ty) {a a':Tm}:l_ a a'->l_ (.mk k i s [a]) (.mk k i s [a'])|n2 (k i:Int) (s:Ty) {a a' b b':Tm}:l_ a a'->l_ b b'->l_ (.mk k i s [a,b]) (.mk k i s [a',b'])|n3 (k i:Int) (s:Ty) {a a' b b' c c':Tm}:l_ a a'->l_ b b'->l_ c c'->l_ (.mk k i s [a,b,c]) (.mk k i s [a',b',c'])|beta (i:Int) (s:Ty) (j:Int) (u:Ty) {b b' a a':Tm}:l_ b b'->l_ a a'->l_ (.mk 3 i s [.mk 2 j u [b],a]) (Tm.gJ 0 b' a')|Mh (i:Int) (s:Ty) (j:Int) (u:Ty) (c:Tm) {b b':Tm}:l_ b b'->l_ (.mk 6 i s [b,c,.mk 4 j u []]) b'|MN (i:Int) (s:Ty) (j:Int) (u:Ty) {b b' c c' n n':Tm}:l_ b b'->l_ c c'->l_ n n'->l_ (.mk 6 i s [b,c,.mk 5 j u [n]]) (o8 c' [n',.mk 6 i s [b',c',n']])|CH (i:Int) (s:Ty) (j:Int) (u:Ty) (c:Tm) {b b':Tm}:l_ b b'->l_ (.mk 9 i s [b,c,.mk 7 j u []]) b'|CC (i:Int) (s:Ty) (j:Int) (u:Ty) {b b' c c' n n' t t':Tm}:l_ b b'->l_ c c'->l_ n n'->l_ t t'->l_ (.mk 9 i s [b,c,.mk 8 j u [n,t]]) (o8 c' [n',t',.mk 9 i s [b',c',t']])|fst (i:Int) (s:Ty) (j:Int) (u:Ty) (b:Tm) {a a':Tm}:l_ a a'->l_ (.mk 11 i s [.mk 10 j u [a,b]]) a'|snd (i:Int) (s:Ty) (j:Int) (u:Ty) (a:Tm) {b b':Tm}:l_ b b'->l_ (.mk 12 i s [.mk 10 j u [a,b]]) b'
def l_.ok{t u:Tm}(h:l_ t u):t.ok=true->u.ok=true:=by
 induction h with
 |n0 k i s=>exact id|n1 k i s _ ih=>intro d;exact Tm.xk d rfl (by intro t v;rw[DB] at v;subst v;exact ih (Tm.ey d _ aa2))
 |n2 k i s _ _ f l=>grind[Tm.xk,Tm.ey]|n3 k i s _ _ _ f l o=>
  intro d;refine Tm.xk d rfl ?_
  grind[Tm.ey]
 |@beta i s j u b q a x _ _ f l=>
  intro d;exact Tm.Me _ (l (Tm.ey d a aa2)) _ 0 VW (f (Tm.ey (Tm.ey d (Tm.mk 2 j u [b]) aa2) b aa2))
 |Mh i s j u c _ ih=>intro d;exact ih (Tm.ey d _ aa2)|@MN i s j u b q c y n n' _ _ _ f l o=>
  intro d;have A:=f (Tm.ey d _ aa2);have B:=l (Tm.ey d _ aa2);have C:=o (Tm.ey (Tm.ey d (Tm.mk 5 j u [n]) aa2) _ aa2)
  grind[EX,Tm.xk]
 |CH i s j u c _ ih=>intro d;exact ih (Tm.ey d _ aa2)|@CC i s j u b q c y n n' t D _ _ _ _ f l o r=>
  intro d;have A:=f (Tm.ey d _ aa2);have B:=l (Tm.ey d _ aa2);have w:=Tm.ey d (Tm.mk 8 j u [n,t]) aa2;have C:=o (Tm.ey w _ aa2);have F:=r (Tm.ey w _ aa2)
  grind[EX,Tm.xk]
 |@fst i s j u b a x _ ih=>intro d;exact ih (Tm.ey (Tm.ey d (Tm.mk 10 j u [a,b]) aa2) a aa2)|@snd i s j u a b q _ ih=>intro d;exact ih (Tm.ey (Tm.ey d (Tm.mk 10 j u [a,b]) aa2) b aa2)
def up3(f b i:Int)(s:Ty)(l:List Tm):(Tm.mk 3 i s l).up f b=.mk 3 i s (l.map (Tm.up f b)):=qN aak aak f b i s l
def up4(f b i:Int)(s:Ty)(l:List Tm):(Tm.mk 4 i s l).up f b=.mk 4 i s (l.map (Tm.up f b)):=qN aak aak f b i s l
def up5(f b i:Int)(s:Ty)(l:List Tm):(Tm.mk 5 i s l).up f b=.mk 5 i s (l.map (Tm.up f b)):=qN aak aak f b i s l
def up6(f b i:Int)(s:Ty)(l:List Tm):(Tm.mk 6 i s l).up f b=.mk 6 i s (l.map (Tm.up f b)):=qN aak aak f b i s l
def up7(f b i:Int)(s:Ty)(l:List Tm):(Tm.mk 7 i s l).up f b=.mk 7 i s (l.map (Tm.up f b)):=qN aak aak f b i s l
def up8(f b i:Int)(s:Ty)(l:List Tm):(Tm.mk 8 i s l).up f b=.mk 8 i s (l.map (Tm.up f b)):=qN aak aak f b i s l
def up9(f b i:Int)(s:Ty)(l:List Tm):(Tm.mk 9 i s l).up f b=.mk 9 i s (l.map (Tm.up f b)):=qN aak aak f b i s l
def agJ(f b i:Int)(s:Ty)(l:List Tm):(Tm.mk 10 i s l).up f b=.mk 10 i s (l.map (Tm.up f b)):=qN aak aak f b i s l
def VP(f b i:Int)(s:Ty)(l:List Tm):(Tm.mk 11 i s l).up f b=.mk 11 i s (l.map (Tm.up f b)):=qN aak aak f b i s l
def Um(f b i:Int)(s:Ty)(l:List Tm):(Tm.mk 12 i s l).up f b=.mk 12 i s (l.map (Tm.up f b)):=qN aak aak f b i s l
def in3(n i:Int)(a:Tm)(s:Ty)(l:List Tm):Tm.gJ n (Tm.mk 3 i s l) a=.mk 3 i s (l.map λx=>Tm.gJ n x a):=nt aak aak n i a s l
def in4(n i:Int)(a:Tm)(s:Ty)(l:List Tm):Tm.gJ n (Tm.mk 4 i s l) a=.mk 4 i s (l.map λx=>Tm.gJ n x a):=nt aak aak n i a s l
def in5(n i:Int)(a:Tm)(s:Ty)(l:List Tm):Tm.gJ n (Tm.mk 5 i s l) a=.mk 5 i s (l.map λx=>Tm.gJ n x a):=nt aak aak n i a s l
def in6(n i:Int)(a:Tm)(s:Ty)(l:List Tm):Tm.gJ n (Tm.mk 6 i s l) a=.mk 6 i s (l.map λx=>Tm.gJ n x a):=nt aak aak n i a s l
def in7(n i:Int)(a:Tm)(s:Ty)(l:List Tm):Tm.gJ n (Tm.mk 7 i s l) a=.mk 7 i s (l.map λx=>Tm.gJ n x a):=nt aak aak n i a s l
def in8(n i:Int)(a:Tm)(s:Ty)(l:List Tm):Tm.gJ n (Tm.mk 8 i s l) a=.mk 8 i s (l.map λx=>Tm.gJ n x a):=nt aak aak n i a s l
def in9(n i:Int)(a:Tm)(s:Ty)(l:List Tm):Tm.gJ n (Tm.mk 9 i s l) a=.mk 9 i s (l.map λx=>Tm.gJ n x a):=nt aak aak n i a s l
def agY(n i:Int)(a:Tm)(s:Ty)(l:List Tm):Tm.gJ n (Tm.mk 10 i s l) a=.mk 10 i s (l.map λx=>Tm.gJ n x a):=nt aak aak n i a s l
def aiT(n i:Int)(a:Tm)(s:Ty)(l:List Tm):Tm.gJ n (Tm.mk 11 i s l) a=.mk 11 i s (l.map λx=>Tm.gJ n x a):=nt aak aak n i a s l
def ajs(n i:Int)(a:Tm)(s:Ty)(l:List Tm):Tm.gJ n (Tm.mk 12 i s l) a=.mk 12 i s (l.map λx=>Tm.gJ n x a):=nt aak aak n i a s l
def l_.up{t u:Tm}(h:l_ t u):t.ok=true->∀f c:Int,0<=f->0<=c->l_ (t.up f c) (u.up f c):=by
 induction h with
 |n0 k i s=>intro _ f c _ _;rw[Tm.fJ];exact .n0 _ _ _|n1 k i s _ ih=>
  intro l f c o w;have D:=jl k;rw[Tm.fJ,Tm.fJ];exact .n1 _ _ _ (ih (Tm.ey l _ aa2) _ _ VW w)
 |n2 k i s _ _ q r=>
  intro l f c o w;have D:=jl k;rw[Tm.fJ,Tm.fJ];exact .n2 _ _ _ (q (Tm.ey l _ aa2) _ _ VW w) (r (Tm.ey l _ aa2) _ _ VW w)
 |n3 k i s _ _ _ q r x=>
  intro l f c o w;have D:=jl k;rw[Tm.fJ,Tm.fJ];exact .n3 _ _ _ (q (Tm.ey l _ aa2) _ _ VW w) (r (Tm.ey l _ aa2) _ _ VW w) (x (Tm.ey l _ aa2) _ _ VW w)
 |@beta i s j u b B a F G I q r=>
  intro l f c o w;have y:=Tm.ey l (Tm.mk 2 j u [b]) aa2;have A:=Tm.ey y b aa2;rw[afq F B 0 f c (G.ok A) VW o w,afi];simp only[up3,VO,oe,ry];exact .beta _ _ _ _ (q A _ _ VW w) (r (Tm.ey l _ aa2) _ _ o w)
 |Mh i s j u c _ ih=>
  intro l f d o v;simp only[up6,up4,oe,ry];exact .Mh _ _ _ _ _ (ih (Tm.ey l _ aa2) _ _ o v)
 |@MN i s j u b B c H n n' _ _ _ q r x=>
  intro l f d o v;have y:=Tm.ey l (Tm.mk 5 j u [n]) aa2;simp only[o8,up3,up6,up5,oe,ry];exact .MN _ _ _ _ (q (Tm.ey l _ aa2) _ _ o v) (r (Tm.ey l _ aa2) _ _ o v) (x (Tm.ey y _ aa2) _ _ o v)
 |CH i s j u c _ ih=>
  intro l f d o v;simp only[up9,up7,oe,ry];exact .CH _ _ _ _ _ (ih (Tm.ey l _ aa2) _ _ o v)
 |@CC i s j u b B c H n n' t J _ _ _ _ q r x C=>
  intro l f d o v;have y:=Tm.ey l (Tm.mk 8 j u [n,t]) aa2;simp only[o8,up3,up9,up8,oe,ry];exact .CC _ _ _ _ (q (Tm.ey l _ aa2) _ _ o v) (r (Tm.ey l _ aa2) _ _ o v) (x (Tm.ey y _ aa2) _ _ o v) (C (Tm.ey y _ aa2) _ _ o v)
 |@fst i s j u b a F _ ih=>
  intro l f d o v;simp only[VP,agJ,oe,ry];exact .fst _ _ _ _ _ (ih (Tm.ey (Tm.ey l (Tm.mk 10 j u [a,b]) aa2) _ aa2) _ _ o v)
 |@snd i s j u a b B _ ih=>
  intro l f d o v;simp only[Um,agJ,oe,ry];exact .snd _ _ _ _ _ (ih (Tm.ey (Tm.ey l (Tm.mk 10 j u [a,b]) aa2) _ aa2) _ _ o v)
def Bz{k i:Int}{s:Ty}{a:Tm}{l:List Tm}(h:(Tm.mk k i s (a::l)).ok=true):k≠1:=by grind[Jb]
def l_.gJ{t u:Tm}(h:l_ t u){x y:Tm}(v:l_ x y)(G:x.ok=true):t.ok=true->∀n:Int,0<=n->l_ (Tm.gJ n t x) (Tm.gJ n u y):=by
 have J:=v.ok G
 induction h with
 |n0 k i s=>
  intro d n hn;rw[Tm.fO,Tm.fO]
  by_cases B:k=1
  ·rw[dR B,dR B];unfold Tm.nj
   by_cases q:i=n
   ·rw[dR q,dR q];exact v.up G 0 n VW hn
   ·rw[dK q,dK q]
    by_cases C:n<i
    ·rw[dR C];exact .n0 _ _ _
    ·rw[dK C];exact .n0 _ _ _
  ·rw[dK B,dK B];exact .n0 _ _ _
 |n1 k i s _ ih=>
  intro d n hn;have H:=jl k;rw[Tm.fO,Tm.fO,dK (Bz d),dK (Bz d)];exact .n1 _ _ _ (ih (Tm.ey d _ aa2) _ VW)
 |n2 k i s _ _ f l=>
  intro d n hn;have H:=jl k;rw[Tm.fO,Tm.fO,dK (Bz d),dK (Bz d)];exact .n2 _ _ _ (f (Tm.ey d _ aa2) _ VW) (l (Tm.ey d _ aa2) _ VW)
 |n3 k i s _ _ _ f l o=>
  intro d n hn;have H:=jl k;rw[Tm.fO,Tm.fO,dK (Bz d),dK (Bz d)];exact .n3 _ _ _ (f (Tm.ey d _ aa2) _ VW) (l (Tm.ey d _ aa2) _ VW) (o (Tm.ey d _ aa2) _ VW)
 |@beta i s j u b D a I q C f l=>
  intro d n hn;have r:=Tm.ey d (Tm.mk 2 j u [b]) aa2;have w:=Tm.ey r b aa2;have A:=Tm.ey d a aa2;rw[Z8 I y (C.ok A) J D 0 n (q.ok w) VW hn,afi];simp only[in3,RY,oe,ry];exact .beta _ _ _ _ (f w _ VW) (l A _ hn)
 |Mh i s j u c _ ih=>
  intro d n hn;simp only[in6,in4,oe,ry];exact .Mh _ _ _ _ _ (ih (Tm.ey d _ aa2) _ hn)
 |@MN i s j u b D c K n n' _ _ _ f l o=>
  intro d m hm;have r:=Tm.ey d (Tm.mk 5 j u [n]) aa2;simp only[o8,in3,in6,in5,oe,ry];exact .MN _ _ _ _ (f (Tm.ey d _ aa2) _ hm) (l (Tm.ey d _ aa2) _ hm) (o (Tm.ey r _ aa2) _ hm)
 |CH i s j u c _ ih=>
  intro d n hn;simp only[in9,in7,oe,ry];exact .CH _ _ _ _ _ (ih (Tm.ey d _ aa2) _ hn)
 |@CC i s j u b D c K n n' t L _ _ _ _ f l o F=>
  intro d m hm;have r:=Tm.ey d (Tm.mk 8 j u [n,t]) aa2;simp only[o8,in3,in9,in8,oe,ry];exact .CC _ _ _ _ (f (Tm.ey d _ aa2) _ hm) (l (Tm.ey d _ aa2) _ hm) (o (Tm.ey r _ aa2) _ hm) (F (Tm.ey r _ aa2) _ hm)
 |@fst i s j u b a I _ ih=>
  intro d n hn;simp only[aiT,agY,oe,ry];exact .fst _ _ _ _ _ (ih (Tm.ey (Tm.ey d (Tm.mk 10 j u [a,b]) aa2) _ aa2) _ hn)
 |@snd i s j u a b D _ ih=>
  intro d n hn;simp only[ajs,agY,oe,ry];exact .snd _ _ _ _ _ (ih (Tm.ey (Tm.ey d (Tm.mk 10 j u [a,b]) aa2) _ aa2) _ hn)
def l_.age{k i:Int}{s:Ty}{v:Tm}(h:l_ (.mk k i s []) v):v=.mk k i s []:=by
 generalize a:Tm.mk k i s []=x at h;cases h<;>simp only[Tm.mk.injEq,reduceCtorEq,and_false,Pw,Jr] at a;obtain⟨rfl,rfl,rfl,_⟩:=a;rfl
def l_.inv1{k i:Int}{s:Ty}{a v:Tm}(h:l_ (.mk k i s [a]) v)(d:k≠11)(f:k≠12):∃c,v=.mk k i s [c]/\l_ a c:=by
 generalize b:Tm.mk k i s [a]=x at h;cases h<;>simp only[Tm.mk.injEq,reduceCtorEq,and_false,Pw,Jr,Pc] at b
 ·obtain⟨rfl,rfl,rfl,rfl⟩:=b;exact⟨_,rfl,by assumption⟩
 ·exact absurd b.1 d
 ·exact absurd b.1 f
def l_.inv2{k i:Int}{s:Ty}{a b v:Tm}(h:l_ (.mk k i s [a,b]) v)(j:k≠3):∃d f,v=.mk k i s [d,f]/\l_ a d/\l_ b f:=by
 generalize c:Tm.mk k i s [a,b]=x at h;cases h<;>simp only[Tm.mk.injEq,reduceCtorEq,and_false,Pw,Jr,Pc] at c
 ·obtain⟨rfl,rfl,rfl,rfl,rfl⟩:=c;exact⟨_,_,rfl,by assumption,by assumption⟩
 ·exact absurd c.1 j
mutual
def Tm.dev:Tm->Tm
 |.mk k i s l=>if(Tm.mk k i s l).root then(Tm.mk k i s (Tm.WS l)).fx else .mk k i s (Tm.WS l)
def Tm.WS:List Tm->List Tm
 |[]=>[]|t::l=>t.dev::Tm.WS l
end
def Tm.Sg(l:List Tm):Tm.WS l=l.map Tm.dev:=by
 induction l with
 |nil=>rfl|cons t l ih=>simp[Tm.WS,ih]
def Tm.wW{k i:Int}{s:Ty}{l:List Tm}(h:(Tm.mk k i s l).root=true):(Tm.mk k i s l).dev=(Tm.mk k i s (l.map Tm.dev)).fx:=by rw[Tm.dev,Tm.Sg,dR h]
def Tm.xE{k i:Int}{s:Ty}{l:List Tm}(h:¬(Tm.mk k i s l).root=true):(Tm.mk k i s l).dev=Tm.mk k i s (l.map Tm.dev):=by rw[Tm.dev,Tm.Sg,dK h]
def T'(i:Int)(s:Ty)(j:Int)(u:Ty)(l:List Tm)(a:Tm):(Tm.mk 3 i s [.mk 2 j u l,a]).root=true:=by simp[Tm.root,Tm.kd]
def Ss(j:Int)(u:Ty)(b:Tm):(Tm.mk 2 j u [b]).dev=.mk 2 j u [b.dev]:=Tm.xE (by simp[Tm.root])
def U2(j:Int)(u:Ty):(Tm.mk 4 j u []).dev=.mk 4 j u []:=Tm.xE (by simp[Tm.root])
def Pg(j:Int)(u:Ty)(b:Tm):(Tm.mk 5 j u [b]).dev=.mk 5 j u [b.dev]:=Tm.xE (by simp[Tm.root])
def aa1(j:Int)(u:Ty):(Tm.mk 7 j u []).dev=.mk 7 j u []:=Tm.xE (by simp[Tm.root])
def Pz(j:Int)(u:Ty)(a b:Tm):(Tm.mk 8 j u [a,b]).dev=.mk 8 j u [a.dev,b.dev]:=Tm.xE (by simp[Tm.root])
def JZ(j:Int)(u:Ty)(a b:Tm):(Tm.mk 10 j u [a,b]).dev=.mk 10 j u [a.dev,b.dev]:=Tm.xE (by simp[Tm.root])
def O9(i:Int)(s:Ty)(j:Int)(u:Ty)(b a:Tm):(Tm.mk 3 i s [.mk 2 j u [b],a]).dev=Tm.gJ 0 b.dev a.dev:=by
 rw[Tm.wW (T' _ _ _ _ _ _)];simp only[oe,ry,Ss];simp[Tm.fx]
def Nk(i:Int)(s:Ty)(j:Int)(u:Ty)(b c:Tm):(Tm.mk 6 i s [b,c,.mk 4 j u []]).dev=b.dev:=by
 rw[Tm.wW (by simp[Tm.root,Tm.kd])];simp only[oe,ry,U2];simp[Tm.fx]
def Pk(i:Int)(s:Ty)(j:Int)(u:Ty)(b c n:Tm):(Tm.mk 6 i s [b,c,.mk 5 j u [n]]).dev=o8 c.dev [n.dev,.mk 6 i s [b.dev,c.dev,n.dev]]:=by
 rw[Tm.wW (by simp[Tm.root,Tm.kd])];simp only[oe,ry,Pg];simp[Tm.fx]
def Ll(i:Int)(s:Ty)(j:Int)(u:Ty)(b c:Tm):(Tm.mk 9 i s [b,c,.mk 7 j u []]).dev=b.dev:=by
 rw[Tm.wW (by simp[Tm.root,Tm.kd])];simp only[oe,ry,aa1];simp[Tm.fx]
def Ly(i:Int)(s:Ty)(j:Int)(u:Ty)(b c n t:Tm):(Tm.mk 9 i s [b,c,.mk 8 j u [n,t]]).dev=o8 c.dev [n.dev,t.dev,.mk 9 i s [b.dev,c.dev,t.dev]]:=by
 rw[Tm.wW (by simp[Tm.root,Tm.kd])];simp only[oe,ry,Pz];simp[Tm.fx]
def Sr(i:Int)(s:Ty)(j:Int)(u:Ty)(a b:Tm):(Tm.mk 11 i s [.mk 10 j u [a,b]]).dev=a.dev:=by
 rw[Tm.wW (by simp[Tm.root,Tm.kd])];simp only[oe,ry,JZ];simp[Tm.fx]
def R9(i:Int)(s:Ty)(j:Int)(u:Ty)(a b:Tm):(Tm.mk 12 i s [.mk 10 j u [a,b]]).dev=b.dev:=by
 rw[Tm.wW (by simp[Tm.root,Tm.kd])];simp only[oe,ry,JZ];simp[Tm.fx]
def Tm.yy{t:Tm}{k:Int}(h:t.ak5=k):t=.mk k t.ak8 t.dM t.ak6:=by
 cases t with
 |mk k' i s l=>simp at h;subst h;rfl
def l_.tri{t u:Tm}(h:l_ t u):t.ok=true->l_ u t.dev:=by
 induction h with
 |n0 k i s=>intro _;rw[Tm.xE (by simp[Tm.root,Tm.kd])];exact .n0 _ _ _|@n1 k i s a K h ih=>
  intro l;have r:=Tm.ey l a aa2;have ih:=ih r
  by_cases B:(Tm.mk k i s [a]).root=true
  ·have hk:(k=11\/k=12)/\a.ak5=10:=by
    have C:=Tm.sM l;have Z:gU 3=2:=rfl
    have:k≠3:=by rintro rfl;simp at C;omega
    simpa[Tm.root,Tm.kd,this] using B
   obtain⟨hk,D⟩:=hk;rw[Tm.yy D] at h r ih|-;obtain⟨p,q,N⟩:=Tm.ag5 r;rw[N] at h r ih|-;obtain⟨O,U,rfl,H,P⟩:=h.inv2 aak;rw[JZ] at ih;obtain⟨Q,V,e,F,R⟩:=ih.inv2 aak;simp only[Tm.mk.injEq,Pw,Pc,AK] at e;obtain⟨rfl,rfl⟩:=e;rcases hk with rfl|rfl
   ·rw[Sr];exact .fst _ _ _ _ _ F
   ·rw[R9];exact .snd _ _ _ _ _ R
  ·rw[Tm.xE B];exact .n1 _ _ _ ih
 |@n2 k i s a K b I L W d v=>
  intro l;have r:=Tm.ey l a aa2;have d:=d r;have v:=v (Tm.ey l b aa2)
  by_cases B:(Tm.mk k i s [a,b]).root=true
  ·have hk:k=3/\a.ak5=2:=by
    have C:=Tm.sM l;have X:gU 11=1:=rfl;have Y:gU 12=1:=rfl
    have n1:k≠11:=by rintro rfl;simp at C;omega
    have n2:k≠12:=by rintro rfl;simp at C;omega
    simpa[Tm.root,Tm.kd,n1,n2] using B
   obtain⟨rfl,D⟩:=hk;rw[Tm.yy D] at L r d|-;obtain⟨p,A⟩:=Tm.ok2 r;rw[A] at L r d|-;obtain⟨O,rfl,H⟩:=L.inv1 aak aak;rw[Ss] at d;obtain⟨Q,e,F⟩:=d.inv1 aak aak;simp only[Tm.mk.injEq,Pw,Pc,AK] at e;subst e;rw[O9];exact .beta _ _ _ _ F v
  ·rw[Tm.xE B];exact .n2 _ _ _ d v
 |@n3 k i s a K b I c T L W w d v f=>
  intro l;have o:=Tm.ey l c aa2;have d:=d (Tm.ey l a aa2);have v:=v (Tm.ey l b aa2);have f:=f o
  by_cases B:(Tm.mk k i s [a,b,c]).root=true
  ·have hk:(k=6/\(c.ak5=4\/c.ak5=5))\/(k=9/\(c.ak5=7\/c.ak5=8)):=by
    have C:=Tm.sM l;have e0:gU 3=2:=rfl;have X:gU 11=1:=rfl;have Y:gU 12=1:=rfl
    have n0:k≠3:=by rintro rfl;simp at C;omega
    have n1:k≠11:=by rintro rfl;simp at C;omega
    have n2:k≠12:=by rintro rfl;simp at C;omega
    simpa[Tm.root,Tm.kd,n0,n1,n2] using B
   rcases hk with⟨rfl,hk|hk⟩|⟨rfl,hk|hk⟩
   ·rw[Tm.yy hk] at w o f|-;have A:=Tm.ok0 (.inl rfl) o;rw[A] at w o f|-;obtain rfl:=w.age;rw[Nk];exact .Mh _ _ _ _ _ d
   ·rw[Tm.yy hk] at w o f|-;obtain⟨p,A⟩:=Tm.ok5 o;rw[A] at w o f|-;obtain⟨O,rfl,H⟩:=w.inv1 aak aak;rw[Pg] at f;obtain⟨Q,e,F⟩:=f.inv1 aak aak;simp only[Tm.mk.injEq,Pw,Pc,AK] at e;subst e;rw[Pk];exact .MN _ _ _ _ d v F
   ·rw[Tm.yy hk] at w o f|-;have A:=Tm.ok0 (.inr rfl) o;rw[A] at w o f|-;obtain rfl:=w.age;rw[Ll];exact .CH _ _ _ _ _ d
   ·rw[Tm.yy hk] at w o f|-;obtain⟨p,q,A⟩:=Tm.ok8 o;rw[A] at w o f|-;obtain⟨O,U,rfl,H,P⟩:=w.inv2 aak;rw[Pz] at f;obtain⟨Q,V,e,F,R⟩:=f.inv2 aak;simp only[Tm.mk.injEq,Pw,Pc,AK] at e;obtain⟨rfl,rfl⟩:=e;rw[Ly];exact .CC _ _ _ _ d v F R
  ·rw[Tm.xE B];exact .n3 _ _ _ d v f
 |@beta i s j u b I a K H P x y=>
  intro l;have J:=Tm.ey (Tm.ey l (Tm.mk 2 j u [b]) aa2) b aa2;have r:=Tm.ey l a aa2;rw[O9];exact(x J).gJ (y r) (P.ok r) (H.ok J) 0 VW
 |Mh i s j u c _ ih=>intro l;rw[Nk];exact ih (Tm.ey l _ aa2)|@MN i s j u b I c T n n' _ _ _ x y G=>
  intro l;have M:=Tm.ey l (Tm.mk 5 j u [n]) aa2;have g1:=x (Tm.ey l _ aa2);have g2:=y (Tm.ey l _ aa2);have g3:=G (Tm.ey M _ aa2);rw[Pk];exact .n2 _ _ _ (.n2 _ _ _ g2 g3) (.n3 _ _ _ g1 g2 g3)
 |CH i s j u c _ ih=>intro l;rw[Ll];exact ih (Tm.ey l _ aa2)|@CC i s j u b I c T n n' t t' _ _ _ _ x y G S=>
  intro l;have M:=Tm.ey l (Tm.mk 8 j u [n,t]) aa2;have g1:=x (Tm.ey l _ aa2);have g2:=y (Tm.ey l _ aa2);have g3:=G (Tm.ey M _ aa2);have g4:=S (Tm.ey M _ aa2);rw[Ly];exact .n2 _ _ _ (.n2 _ _ _ (.n2 _ _ _ g2 g3) g4) (.n3 _ _ _ g1 g2 g4)
 |@fst i s j u b a K _ ih=>intro l;rw[Sr];exact ih (Tm.ey (Tm.ey l (Tm.mk 10 j u [a,b]) aa2) _ aa2)|@snd i s j u a b I _ ih=>intro l;rw[R9];exact ih (Tm.ey (Tm.ey l (Tm.mk 10 j u [a,b]) aa2) _ aa2)
inductive oO:Tm->Tm->Prop
 |refl (t:Tm):oO t t|step {t u v:Tm}:l_ t u->oO u v->oO t v
def oO.ok{t u:Tm}(h:oO t u):t.ok=true->u.ok=true:=by
 induction h with
 |refl=>exact id|step h _ ih=>exactλa=>ih (h.ok a)
def oO.trans{t u v:Tm}(h:oO t u)(a:oO u v):oO t v:=by
 induction h with
 |refl=>exact a|step h _ ih=>exact .step h (ih a)
def oO.strip{t v:Tm}(h:oO t v):∀u,t.ok=true->l_ t u->∃w,oO u w/\l_ v w:=by
 induction h with
 |refl t=>exactλu _ hu=>⟨u,.refl _,hu⟩|@step t a v c _ ih=>
  intro u b hu;obtain⟨w,d,f⟩:=ih t.dev (c.ok b) (c.tri b);exact⟨w,.step (hu.tri b) d,f⟩
def oO.meet{t u:Tm}(h:oO t u):∀v,t.ok=true->oO t v->∃w,oO u w/\oO v w:=by
 induction h with
 |refl t=>exactλv _ b=>⟨v,b,.refl _⟩|@step t a u c _ ih=>
  intro v d b;obtain⟨w,f,i⟩:=b.strip a d c;obtain⟨z,j,z2⟩:=ih w (c.ok d) f;exact⟨z,j,.step i z2⟩
def Dq{k i:Int}{s:Ty}{l:List Tm}(h:(Tm.mk k i s l).nf=true):(Tm.mk k i s l).root=false/\∀a∈l,a.nf=true:=by
 rw[Tm.abC] at h;simpa using h
def l_.nf{t u:Tm}(h:l_ t u):t.nf=true->u=t:=by
 induction h with
 |n0=>intro _;rfl|n1 k i s _ ih=>intro hn;rw[ih ((Dq hn).2 _ aa2)]|n2 k i s _ _ a b=>intro hn;rw[a ((Dq hn).2 _ aa2),b ((Dq hn).2 _ aa2)]|n3 k i s _ _ _ a b c=>intro hn;rw[a ((Dq hn).2 _ aa2),b ((Dq hn).2 _ aa2),c ((Dq hn).2 _ aa2)]|_=>intro hn;have:=(Dq hn).1;simp[Tm.root,Tm.kd] at this
def oO.nf{t u:Tm}(h:oO t u):t.nf=true->u=t:=by
 induction h with
 |refl=>intro _;rfl|step h _ ih=>
  intro hn;have:=h.nf hn;subst this;exact ih hn
def oO.unique{t a b:Tm}(c:t.ok=true)(d:oO t a)(f:oO t b)(h:a.nf=true)(i:b.nf=true):a=b:=by
 obtain⟨w,j,k⟩:=d.meet b c f;rw[<-j.nf h,<-k.nf i]
inductive Qu:List Tm->List Tm->Prop
 |nil:Qu [] []|cons {a b:Tm} {l m:List Tm}:l_ a b->Qu l m->Qu (a::l) (b::m)
def l_.list{k i:Int}{s:Ty}:∀{l m:List Tm},Qu l m->l.length<=3->l_ (.mk k i s l) (.mk k i s m)
 |_,_,.nil,_=>.n0 _ _ _|_,_,.cons h .nil,_=>.n1 _ _ _ h|_,_,.cons h (.cons a .nil),_=>.n2 _ _ _ h a|_,_,.cons h (.cons a (.cons b .nil)),_=>.n3 _ _ _ h a b|_,_,.cons h (.cons a (.cons b (.cons d _))),c=>by simp at c
def S'(k:Int):gU k<=3:=by unfold gU;repeat' (first|omega|split)
def Tm.VH{k i:Int}{s:Ty}{l:List Tm}(h:(Tm.mk k i s l).ok=true):l.length<=3:=by
 have:=Tm.sM h;have:=S' k;omega
theorem l_.refl(t:Tm):t.ok=true->l_ t t:=by
 induction t using Tm.ind with
 |h k i s l ih=>
  intro b
  have c:∀m:List Tm,(∀t∈m,t∈l)->Qu m m:=by
   intro m
   induction m with
   |nil=>exactλ_=>.nil|cons t m a=>exactλhm=>.cons (ih t (hm t aa2) (Tm.ey b t (hm t aa2))) (a λu hu=>hm u (by simp[hu]))
  exact l_.list (c l λt h=>h) (Tm.VH b)
def l_.acn:∀(l:List Tm),(∀t∈l,t.ok=true)->Qu l l
 |[],_=>.nil|t::l,h=>.cons (l_.refl t (h t aa2)) (l_.acn l λu hu=>h u (by simp[hu]))
def l_.fx{t:Tm}(c:t.ok=true)(o:t.root=true):l_ t t.fx:=by
 cases Tm.O0 c o with
 |@app i s j u b a=>
  rw[show(Tm.mk 3 i s [.mk 2 j u [b],a]).fx=Tm.gJ 0 b a by simp[Tm.fx]];exact .beta _ _ _ _ (l_.refl b (Tm.ey (Tm.ey c (.mk 2 j u [b]) aa2) b aa2)) (l_.refl a (Tm.ey c a aa2))
 |@zero k q i s j u b st f=>
  have l:=l_.refl b (Tm.ey c b aa2);rcases f with⟨rfl,rfl⟩|⟨rfl,rfl⟩
  ·rw[show(Tm.mk 6 i s [b,st,.mk 4 j u []]).fx=b by simp[Tm.fx]];exact .Mh _ _ _ _ _ l
  ·rw[show(Tm.mk 9 i s [b,st,.mk 7 j u []]).fx=b by simp[Tm.fx]];exact .CH _ _ _ _ _ l
 |@succ i s j u b st n=>
  rw[show(Tm.mk 6 i s [b,st,.mk 5 j u [n]]).fx=o8 st [n,.mk 6 i s [b,st,n]] by simp[Tm.fx]];exact .MN _ _ _ _ (l_.refl b (Tm.ey c b aa2)) (l_.refl st (Tm.ey c st aa2)) (l_.refl n (Tm.ey (Tm.ey c (.mk 5 j u [n]) aa2) n aa2))
 |@cons i s j u b st h t=>
  have d:=Tm.ey c (.mk 8 j u [h,t]) aa2;rw[show(Tm.mk 9 i s [b,st,.mk 8 j u [h,t]]).fx=o8 st [h,t,.mk 9 i s [b,st,t]] by simp[Tm.fx]];exact .CC _ _ _ _ (l_.refl b (Tm.ey c b aa2)) (l_.refl st (Tm.ey c st aa2)) (l_.refl h (Tm.ey d h aa2)) (l_.refl t (Tm.ey d t aa2))
 |@proj k i s j u a b f=>
  have d:=Tm.ey c (.mk 10 j u [a,b]) aa2;rcases f with rfl|rfl
  ·rw[show(Tm.mk 11 i s [.mk 10 j u [a,b]]).fx=a by simp[Tm.fx]];exact .fst _ _ _ _ _ (l_.refl a (Tm.ey d a aa2))
  ·rw[show(Tm.mk 12 i s [.mk 10 j u [a,b]]).fx=b by simp[Tm.fx]];exact .snd _ _ _ _ _ (l_.refl b (Tm.ey d b aa2))
def l_.Kg{r:Int}(t:Tm):∀a,t.ok=true->t.Kg r=some (some a)->l_ t a:=by
 induction t using Tm.ind with
 |h k i s l ih=>
  intro a c h;rcases lr h with⟨j,rfl⟩|⟨n,o,rfl⟩
  ·exact l_.fx c j
  ·refine l_.list ?_ (Tm.VH c)
   have key:∀m:List Tm,(∀t∈m,t∈l)->∀d,Tm.wc r m=some (some d)->Qu m d:=by
    intro m
    induction m with
    |nil=>intro _ d h;exact(mU h).elim|cons t m f=>
     intro hm d h;have b:=Tm.ey c t (hm t aa2);rcases jT h with⟨a,e,rfl⟩|⟨q,e,rfl⟩
     ·exact .cons (ih t (hm t aa2) a b e) (l_.acn m λu hu=>Tm.ey c u (hm u (by simp[hu])))
     ·exact .cons (l_.refl t b) (f (λu hu=>hm u (by simp[hu])) q e)
   exact key l (λt h=>h) n o
def Le:∀(k:Nat) (m:Int) (t a:Tm) (n:Int),t.ok=true->t.norm k m=(a,n,0)->oO t a
 |0,m,t,a,n,b,h=>by
  rw[Tm.norm] at h
  split at h
  ·obtain⟨rfl,_⟩:=iM h;exact .refl _
  ·cases h
 |k+1,m,t,a,n,b,h=>by
  rw[Tm.norm] at h
  split at h
  ·cases h
  ·obtain⟨rfl,_⟩:=iM h;exact .refl _
  ·rename_i c hs;have:=l_.Kg t c b hs;exact .step this (Le k (m+1) c a n (this.ok b) h)
def adw(x:Tm):Tm.mk x.ak5 x.ak8 (Ty.mk x.dM.ak5 x.dM.ak6) x.ak6=x:=by
 cases x with
 |mk k i s l=>cases s;rfl
def lZ{a:Ty}(h:a.ak7<=1000000000):fm FU a a=some true:=by
 obtain⟨r,b,c⟩:=xz FU a a (by rw[fB];exact h) h;rw[b,c.2 rfl]
def ok_eq{t:Ty}(h:t.err=0):uC t=some (t,0):=by
 unfold uC;rw[km (by have:=(Ty.gT h).2;omega),h];rfl
def fc{t:Ty}(h:t.err=0):t.ak7<=64:=by have:=(Ty.gT h).2;omega
inductive TL (n:Nat) (g:List Ty):List Tm->List Ty->Prop
 |nil:TL n g [] []|cons {a:Tm} {t:Ty} {l:List Tm} {ts:List Ty}:fG n g a=some (t,0)->TL n g l ts->TL n g (a::l) (t::ts)
def oE{n:Nat}{g:List Ty}:∀{l:List Tm} {ts:List Ty} (i:Nat) (v:List Ty),TL n g l ts->v.length+l.length<=1000->fk (λ(f:Int) (d:Tm)=>(λ(a:List Ty)=>
   dU (fG n g d) λb c=>
   if(eP c 0) then(
   some (gm.ret ((Ty.mk 0 []),c)))
   else(gB (fI a [b])<|some (.next (fR a [b])))):Int->Tm->((List Ty))->(Option (gm ((List Ty)) (Ty×Int)))) l i v=some (.inl (v++ts))
 |_,_,i,v,.nil,_=>by simp|_,_,i,v,.cons h j,k=>by
  simp only[mz] at k;rw[gf];simp only[h,dQ];rw[dK aak,fg acx];simp only[ec,dI,fh];rw[oE (i+1) _ j (by rw[ij];simp;omega),ij];simp
def XZ{g:List Ty}{x:Tm}{t:Ty}(h:ef g x t):(∀s∈g,s.err=0)->t.err=0/\∀n:Nat,x.ak7<=n->g.length+x.ak7<=1000000->fG n g x=some (t,0):=by
 induction h with
 |@var g t i y C=>
  intro hg;have A:=hg t (Hb C);refine⟨A,λn hn j=>?_⟩;rw[Tm.dP] at hn;obtain⟨n,rfl⟩:∃m,n=m+1:=⟨n-1,VW⟩;rw[Tm.dP] at j;rw[fG,dR ac8,dK (by simp only[Tm.iC,jk,fM];omega)];simp only[Tm.iC,fM];rw[fT (a:=(g.length:Int)) VW VW,fT VW VW]
  have:dW g ((g.length:Int)-1-(i:Int))=some t:=by
   unfold dW;rw[dR VW,<-C]
   congr 1
   omega
  rw[this];simp only[dI];rw[jm (by have:=fc A;omega)];rfl
 |@lam g s b t y _ ih=>
  intro hg;have hs:=(Ty.tM (.inr rfl) y).1;have B:=(Ty.tM (.inr rfl) y).2
  obtain⟨_,ih⟩:=ih (by
   intro u hu;rcases sU.1 hu with h|h
   ·exact hg u h
   ·rw[DB] at h;rw[h];exact hs)
  refine⟨y,λn hn j=>?_⟩;rw[Tm.dP] at hn j;simp only[ei] at hn j;obtain⟨n,rfl⟩:∃m,n=m+1:=⟨n-1,VW⟩;rw[fG,dK aa2,dR ac8];simp only[Tm.fK,Tm.eH,eW,lN,dI,ij];rw[fg acx,ec,ih n VW acx];simp only[dQ];rw[dK aak,iP (by have:=fc hs;omega) (by have:=fc B;omega)];simp only[dI];rw[ok_eq y];rfl
 |@app g f a s t _ _ c d=>
  intro hg;obtain⟨r,c⟩:=c hg;obtain⟨v,d⟩:=d hg;have B:=(Ty.tM (.inr rfl) r).2;refine⟨B,λn hn j=>?_⟩;rw[Tm.dP] at hn j;simp only[ei] at hn j;obtain⟨n,rfl⟩:∃m,n=m+1:=⟨n-1,VW⟩;have o:=oE (n:=n) (g:=g) (l:=[f,a]) 0 [] (.cons (c n VW VW) (.cons (d n VW VW) .nil)) aa2;rw[fG,dK aa2,dK aa2];simp only[eg,Tm.eH,et (l:=[f,a]) aa2,ec];rw[o];simp only[dI,eB,gy,gO];rw[dR ac8];simp only[nT,eW,iv,lN,rq,dI];rw[dK (by simp[Ty.fn,eP]),show(Ty.fn s t).ak6[0]?=some s from rfl];simp only[dI];rw[lZ (by have:=fc v;omega)];simp only[dI];rw[dK aak,show(Ty.fn s t).ak6[1]?=some t from rfl];rfl
 |zero=>
  intro hg;refine⟨Ty.gR,λn hn j=>?_⟩;rw[Tm.dP] at hn;obtain⟨n,rfl⟩:∃m,n=m+1:=⟨n-1,VW⟩;rfl
 |@succ g a _ ih=>
  intro hg;obtain⟨r,ih⟩:=ih hg;refine⟨Ty.gR,λn hn j=>?_⟩;rw[Tm.dP] at hn j;simp only[ei] at hn j;obtain⟨n,rfl⟩:∃m,n=m+1:=⟨n-1,VW⟩;have o:=oE (n:=n) (g:=g) (l:=[a]) 0 [] (.cons (ih n VW VW) .nil) aa2;rw[fG,dK aa2,dK aa2];simp only[eg,Tm.eH,et (l:=[a]) aa2,ec];rw[o];simp only[dI,eB,gy,gO];rw[dK aa2,dK aa2,dR ac8];simp only[nT,eW,lN,dI];rw[lZ (by rw[Ty.ig];omega)];rfl
 |@rZ g t b s k w _ _ _ c d q=>
  intro hg;obtain⟨r,c⟩:=c hg;obtain⟨v,d⟩:=d hg;obtain⟨D,q⟩:=q hg;refine⟨w,λn hn j=>?_⟩;rw[Tm.dP] at hn j;simp only[ei] at hn j;obtain⟨n,rfl⟩:∃m,n=m+1:=⟨n-1,VW⟩;have B:=fc w;have o:=oE (n:=n) (g:=g) (l:=[b,s,k]) 0 [] (.cons (c n VW VW) (.cons (d n VW VW) (.cons (q n VW VW) .nil))) aa2;rw[fG,dK aa2,dK aa2];simp only[eg,Tm.eH,et (l:=[b,s,k]) aa2,ec];rw[o];simp only[dI,eB,gy,gO];rw[dK aa2,dK aa2,dK aa2,dR ac8];simp only[nT,eW,iv,mY,lN,rq,dI,Tm.fK];rw[lZ VW];simp only[dI,if_true];rw[iP VW VW];simp only[dI];rw[iP (by rw[Ty.ig];omega) (by rw[Ty.iz];omega)];simp only[dI];rw[lZ (by have:=fc v;omega)];simp only[dI,if_true];rw[lZ (by rw[Ty.ig];omega)];simp only[dI];rw[dK aak,jm VW];rfl
 |nil=>
  intro hg;refine⟨Ty.mv,λn hn j=>?_⟩;rw[Tm.dP] at hn;obtain⟨n,rfl⟩:∃m,n=m+1:=⟨n-1,VW⟩;rfl
 |@cons g a b _ _ c d=>
  intro hg;obtain⟨r,c⟩:=c hg;obtain⟨v,d⟩:=d hg;refine⟨Ty.mv,λn hn j=>?_⟩;rw[Tm.dP] at hn j;simp only[ei] at hn j;obtain⟨n,rfl⟩:∃m,n=m+1:=⟨n-1,VW⟩;have o:=oE (n:=n) (g:=g) (l:=[a,b]) 0 [] (.cons (c n VW VW) (.cons (d n VW VW) .nil)) aa2;rw[fG,dK aa2,dK aa2];simp only[eg,Tm.eH,et (l:=[a,b]) aa2,ec];rw[o];simp only[dI,eB,gy,gO];rw[dK aa2,dK aa2,dK aa2,dK aa2,dK aa2,dR ac8];simp only[nT,eW,iv,lN,rq,dI];rw[lZ (by rw[Ty.ig];omega)];simp only[dI,if_true];rw[lZ (by rw[Ty.oN];omega)];rfl
 |@fold g t b s k w _ _ _ c d q=>
  intro hg;obtain⟨r,c⟩:=c hg;obtain⟨v,d⟩:=d hg;obtain⟨D,q⟩:=q hg;refine⟨w,λn hn j=>?_⟩;rw[Tm.dP] at hn j;simp only[ei] at hn j;obtain⟨n,rfl⟩:∃m,n=m+1:=⟨n-1,VW⟩;have B:=fc w;have o:=oE (n:=n) (g:=g) (l:=[b,s,k]) 0 [] (.cons (c n VW VW) (.cons (d n VW VW) (.cons (q n VW VW) .nil))) aa2;rw[fG,dK aa2,dK aa2];simp only[eg,Tm.eH,et (l:=[b,s,k]) aa2,ec];rw[o];simp only[dI,eB,gy,gO];rw[dK aa2,dK aa2,dK aa2,dK aa2,dK aa2,dK aa2,dR ac8];simp only[nT,eW,iv,mY,lN,rq,dI,Tm.fK];rw[lZ VW];simp only[dI,if_true];rw[iP VW VW];simp only[dI];rw[iP (by rw[Ty.oN];omega) (by rw[Ty.iz];omega)];simp only[dI];rw[iP (by rw[Ty.ig];omega) (by rw[Ty.iz,Ty.iz,Ty.oN];omega)];simp only[dI];rw[lZ (by have:=fc v;omega)];simp only[dI,if_true];rw[lZ (by rw[Ty.oN];omega)];simp only[dI];rw[dK aak,jm VW];rfl
 |@pair g a b s t w _ _ c d=>
  intro hg;obtain⟨r,c⟩:=c hg;obtain⟨v,d⟩:=d hg;refine⟨w,λn hn j=>?_⟩;rw[Tm.dP] at hn j;simp only[ei] at hn j;obtain⟨n,rfl⟩:∃m,n=m+1:=⟨n-1,VW⟩;have o:=oE (n:=n) (g:=g) (l:=[a,b]) 0 [] (.cons (c n VW VW) (.cons (d n VW VW) .nil)) aa2;rw[fG,dK aa2,dK aa2];simp only[eg,Tm.eH,et (l:=[a,b]) aa2,ec];rw[o];simp only[dI,eB,gy,gO];rw[dK aa2,dK aa2,dK aa2,dK aa2,dK aa2,dK aa2,dK aa2,dR ac8];simp only[nT,eW,iv,lN,rq,dI];rw[yQ (by have:=fc r;omega) (by have:=fc v;omega)];simp only[dI];rw[ok_eq w];rfl
 |@fst g a s t _ ih=>
  intro hg;obtain⟨r,ih⟩:=ih hg;refine⟨(Ty.tM (.inl rfl) r).1,λn hn j=>?_⟩;rw[Tm.dP] at hn j;simp only[ei] at hn j;obtain⟨n,rfl⟩:∃m,n=m+1:=⟨n-1,VW⟩;have o:=oE (n:=n) (g:=g) (l:=[a]) 0 [] (.cons (ih n VW VW) .nil) aa2;rw[fG,dK aa2,dK aa2];simp only[eg,Tm.eH,et (l:=[a]) aa2,ec];rw[o];simp only[dI,eB,gy,gO];rw[dK aa2,dK aa2,dK aa2,dK aa2,dK aa2,dK aa2,dK aa2,dK aa2,dR ac8];simp only[nT,eW,lN,dI];rw[dK (by simp[Ty.pr,eP]),dR ac8,show(Ty.pr s t).ak6[0]?=some s from rfl];rfl
 |@snd g a s t _ ih=>
  intro hg;obtain⟨r,ih⟩:=ih hg;refine⟨(Ty.tM (.inl rfl) r).2,λn hn j=>?_⟩;rw[Tm.dP] at hn j;simp only[ei] at hn j;obtain⟨n,rfl⟩:∃m,n=m+1:=⟨n-1,VW⟩;have o:=oE (n:=n) (g:=g) (l:=[a]) 0 [] (.cons (ih n VW VW) .nil) aa2;rw[fG,dK aa2,dK aa2];simp only[eg,Tm.eH,et (l:=[a]) aa2,ec];rw[o];simp only[dI,eB,gy,gO];rw[dK aa2,dK aa2,dK aa2,dK aa2,dK aa2,dK aa2,dK aa2,dK aa2,dR ac8];simp only[nT,eW,lN,dI];rw[dK (by simp[Ty.pr,eP]),dK aa2,show dW (Ty.pr s t).ak6 1=some t from rfl];rfl
 |unit=>
  intro hg;refine⟨Ty.Ic,λn hn j=>?_⟩;rw[Tm.dP] at hn;obtain⟨n,rfl⟩:∃m,n=m+1:=⟨n-1,VW⟩;rfl
def Tm.qS{p:Tm->Prop}(var:∀i:Nat,p (.mk 1 i .z []))(lam:∀s b,s.err=0->b.ok=true->p (.mk 2 0 s [b]))(app:∀a b,a.ok=true->b.ok=true->p (.mk 3 0 .z [a,b]))
  (zero:p (.mk 4 0 .z [])) (succ:∀a,a.ok=true->p (.mk 5 0 .z [a])) (rZ:∀s a b c,s.err=0->a.ok=true->b.ok=true->c.ok=true->p (.mk 6 0 s [a,b,c])) (nil:p (.mk 7 0 .z []))
  (cons:∀a b,a.ok=true->b.ok=true->p (.mk 8 0 .z [a,b])) (fold:∀s a b c,s.err=0->a.ok=true->b.ok=true->c.ok=true->p (.mk 9 0 s [a,b,c])) (pair:∀a b,a.ok=true->b.ok=true->p (.mk 10 0 .z [a,b]))
  (fst:∀a,a.ok=true->p (.mk 11 0 .z [a])) (snd:∀a,a.ok=true->p (.mk 12 0 .z [a])) (unit:p (.mk 13 0 .z [])) (t:Tm) (h:t.ok=true):p t:=by
 cases t with
 |mk k i s l=>
  obtain⟨_,hi,d,o,hn⟩:=Tm.tB h
  have hs:if j5 k then s.err=0 else s=.z:=by
   rw[Tm.hH] at h;simp only[Tm.node,hD] at h;have:=h.1.2
   split at this
   ·rename_i f;rw[dR f];simpa using this
   ·rename_i f;rw[dK f];exact(Ty.mI s).1 this
  have r:∀{l:List Tm},(l.length:Int)=0->l=[]:=λh=>gq.1 h;unfold gU at hn
  split at hn
  ·rename_i f;obtain rfl:=gq.1 hn;rcases f with rfl|rfl|rfl|rfl
   ·rw[dK aak] at hs;subst hs;obtain⟨j,rfl⟩:∃j:Nat,i=(j:Int):=⟨i.toNat,VW⟩;exact var j
   ·rw[dK aak] at hs;subst hs;obtain rfl:=d aak;exact zero
   ·rw[dK aak] at hs;subst hs;obtain rfl:=d aak;exact nil
   ·rw[dK aak] at hs;subst hs;obtain rfl:=d aak;exact unit
  ·split at hn
   ·rename_i f;obtain⟨a,rfl⟩:=jq hn;have n:=o a aa2;rcases f with rfl|rfl|rfl|rfl
    ·rw[dR aak] at hs;obtain rfl:=d aak;exact lam s a hs n
    ·rw[dK aak] at hs;subst hs;obtain rfl:=d aak;exact succ a n
    ·rw[dK aak] at hs;subst hs;obtain rfl:=d aak;exact fst a n
    ·rw[dK aak] at hs;subst hs;obtain rfl:=d aak;exact snd a n
   ·split at hn
    ·rename_i f;obtain⟨a,b,rfl⟩:=qd hn;have n:=o a aa2;have q:=o b aa2;rcases f with rfl|rfl|rfl
     ·rw[dK aak] at hs;subst hs;obtain rfl:=d aak;exact app a b n q
     ·rw[dK aak] at hs;subst hs;obtain rfl:=d aak;exact cons a b n q
     ·rw[dK aak] at hs;subst hs;obtain rfl:=d aak;exact pair a b n q
    ·split at hn
     ·rename_i f
      obtain⟨a,b,c,rfl⟩:∃a b c,l=[a,b,c]:=by
       match l,hn with
       |[a,b,c],_=>exact⟨a,b,c,rfl⟩|[],h|[_],h|[_,_],h=>simp at h
       |_::_::_::_::_,h=>simp at h;omega
      have n:=o a aa2;have q:=o b aa2;have u:=o c aa2;rcases f with rfl|rfl
      ·rw[dR aak] at hs;obtain rfl:=d aak;exact rZ s a b c hs n q u
      ·rw[dR aak] at hs;obtain rfl:=d aak;exact fold s a b c hs n q u
     ·omega
open Classical in
noncomputable def ib (k:Int) (s:Ty) (l:List Ty):Ty×Int:=
 if k=3 then(if(l.getD 0 .z).ak5=4/\(l.getD 0 .z).ak6.getD 0 .z=l.getD 1 .z then((l.getD 0 .z).ak6.getD 1 .z,0)else(.z,7))
 else if k=4 then(.nat,0)
 else if k=5 then(if l.getD 0 .z=.nat then(.nat,0)else(.z,7))
 else if k=6 then(if l.getD 0 .z=s/\l.getD 1 .z=.fn .nat (.fn s s)/\l.getD 2 .z=.nat then(s,0)else(.z,7))
 else if k=7 then(.fS,0)
 else if k=8 then(if l.getD 0 .z=.nat/\l.getD 1 .z=.fS then(.fS,0)else(.z,7))
 else if k=9 then(if l.getD 0 .z=s/\l.getD 1 .z=.fn .nat (.fn .fS (.fn s s))/\l.getD 2 .z=.fS then(s,0)else(.z,7))
 else if k=10 then(if 64<1+(l.getD 0 .z).ak7+(l.getD 1 .z).ak7 then(.z,4)else(.pr (l.getD 0 .z) (l.getD 1 .z),0))
 else if k=11 then(if(l.getD 0 .z).ak5=3 then((l.getD 0 .z).ak6.getD 0 .z,0)else(.z,7))
 else if k=12 then(if(l.getD 0 .z).ak5=3 then((l.getD 0 .z).ak6.getD 1 .z,0)else(.z,7))
 else(.unit,0)
def O8(s:Ty)(r:Ty×Int):Ty×Int:=if r.2≠0 then(.z,r.2)else if 64<1+s.ak7+r.1.ak7 then(.z,4)else(.fn s r.1,0)
def wu(f:List Ty->Ty×Int):List Ty⊕Int->Ty×Int
 |.inl l=>f l|.inr e=>(.z,e)
def P4(r:Ty×Int)(o:List Ty⊕Int):List Ty⊕Int:=if r.2≠0 then .inr r.2 else match o with|.inl l=>.inl (r.1::l)|.inr e=>.inr e
mutual
noncomputable def Tm.ty:Tm->List Ty->Ty×Int
 |.mk k i s l,g=>if k=1 then(if i<(g.length:Int)then(g.getD (g.length-1-i.toNat) .z,0)else(.z,6))else if k=2 then O8 s (Tm.tyH l (g++[s]))else wu (ib k s) (Tm.vN l g)
noncomputable def Tm.tyH:List Tm->List Ty->Ty×Int
 |[],_=>(.z,0)|t::_,g=>t.ty g
noncomputable def Tm.vN:List Tm->List Ty->List Ty⊕Int
 |[],_=>.inl []|t::l,g=>P4 (t.ty g) (Tm.vN l g)
end
def Tm.mW(k i:Int)(s:Ty)(l:List Tm)(g:List Ty):(Tm.mk k i s l).ty g=if k=1 then(if i<(g.length:Int)then(g.getD (g.length-1-i.toNat) .z,0)else(.z,6))else if k=2 then O8 s (Tm.tyH l (g++[s]))else wu (ib k s) (Tm.vN l g):=by rw[Tm.ty]
def iT(g:List Ty):Prop:=∀s∈g,s.err=0
def iT.app{g:List Ty}{s:Ty}(h:iT g)(hs:s.err=0):iT (g++[s]):=by
 intro u hu;rcases sU.1 hu with h'|h'
 ·exact h u h'
 ·grind
def MJ{t:Ty}(h:t.err=0)(c:t.ak5=4):∃a b,t=.fn a b/\a.err=0/\b.err=0:=by
 rcases Ty.pJ h with rfl|rfl|rfl|⟨a,b,rfl,_,_⟩|h
 ·cases c
 ·cases c
 ·cases c
 ·cases c
 ·exact h
def BM{t:Ty}(h:t.err=0)(c:t.ak5=3):∃a b,t=.pr a b/\a.err=0/\b.err=0:=by
 rcases Ty.pJ h with rfl|rfl|rfl|h|⟨a,b,rfl,_,_⟩
 ·cases c
 ·cases c
 ·cases c
 ·exact h
 ·cases c
def wz{t:Ty}(h:t.err=0):t.ak5=1↔t=.nat:=by
 rcases Ty.pJ h with rfl|rfl|rfl|⟨a,b,rfl,_,_⟩|⟨a,b,rfl,_,_⟩
 ·exact⟨λ_=>rfl,λ_=>rfl⟩
 all_goals exact⟨λh=>(by cases h),λh=>(by cases h)⟩
def EW{t:Ty}(h:t.err=0):t.ak5=2↔t=.fS:=by
 rcases Ty.pJ h with rfl|rfl|rfl|⟨a,b,rfl,_,_⟩|⟨a,b,rfl,_,_⟩
 ·exact⟨λh=>(by cases h),λh=>(by cases h)⟩
 ·exact⟨λ_=>rfl,λ_=>rfl⟩
 all_goals exact⟨λh=>(by cases h),λh=>(by cases h)⟩
theorem qc{r:Ty×Int}{o:List Ty⊕Int}(h:r.2≠0):P4 r o=.inr r.2:=dR h
theorem p2{r:Ty×Int}{o:List Ty⊕Int}(h:r.2=0):P4 r o=match o with|.inl l=>.inl (r.1::l)|.inr e=>.inr e:=dK VW
theorem tC{f:List Ty->Ty×Int}{e:Int}{r:Ty}(h:wu f (.inr e)=(r,0)):e=0:=(iM h).2
def zR{a:Tm}{g:List Ty}(h:(a.ty g).2=0):a.ty g=((a.ty g).1,0):=Prod.ext rfl h
def Rn{a:Tm}{g:List Ty}{f:List Ty->Ty×Int}{r:Ty}(h:wu f (Tm.vN [a] g)=(r,0)):∃s,a.ty g=(s,0)/\f [s]=(r,0):=by
 rw[Tm.vN] at h
 by_cases b:(a.ty g).2=0
 ·rw[p2 b] at h;exact⟨_,zR b,h⟩
 ·grind[qc,tC]
def Rc{a b:Tm}{g:List Ty}{f:List Ty->Ty×Int}{r:Ty}(h:wu f (Tm.vN [a,b] g)=(r,0)):∃s t,a.ty g=(s,0)/\b.ty g=(t,0)/\f [s,t]=(r,0):=by
 rw[Tm.vN,Tm.vN,Tm.vN] at h
 by_cases c:(a.ty g).2=0
 ·rw[p2 c] at h
  by_cases d:(b.ty g).2=0
  ·rw[p2 d] at h;exact⟨_,_,zR c,zR d,h⟩
  ·grind[qc,tC]
 ·grind[qc,tC]
def Oq{a b c:Tm}{g:List Ty}{f:List Ty->Ty×Int}{r:Ty}(h:wu f (Tm.vN [a,b,c] g)=(r,0)):∃s t u,a.ty g=(s,0)/\b.ty g=(t,0)/\c.ty g=(u,0)/\f [s,t,u]=(r,0):=by
 rw[Tm.vN,Tm.vN,Tm.vN,Tm.vN] at h
 by_cases d:(a.ty g).2=0
 ·rw[p2 d] at h
  by_cases i:(b.ty g).2=0
  ·rw[p2 i] at h
   by_cases j:(c.ty g).2=0
   ·rw[p2 j] at h;exact⟨_,_,_,zR d,zR i,zR j,h⟩
   ·grind[qc,tC]
  ·rw[qc i] at h;exact absurd (tC h) i
 ·rw[qc d] at h;exact absurd (tC h) d
def qE:∀(n:Nat) (t:Tm),t.ak7<=n->t.ok=true->∀g,iT g->∀s,t.ty g=(s,0)->ef g t s/\s.err=0:=by
 intro n
 induction n with
 |zero=>intro t h;have:=t.eM;omega
 |succ n ih=>
  intro t hn G;refine Tm.qS (p:=λt=>t.ak7<=n+1->∀g,iT g->∀s,t.ty g=(s,0)->ef g t s/\s.err=0) ?_ ?_ ?_ ?_ ?_ ?_ ?_ ?_ ?_ ?_ ?_ ?_ ?_ t G hn
  ·intro i _ g hg s h;rw[Tm.mW,dR rfl] at h
   split at h
   ·rename_i hi
    have u:g.length-1-(i:Int).toNat<g.length:=VW
    have e:g[g.length-1-i]?=some s:=by
     have f:=(iM h).1;rw[Aq,DS] at f;rw[DS] at u;rw[o9 u] at f|-;simpa using f
    exact⟨.var i VW e,hg s (Hb e)⟩
   ·have:=(iM h).2;omega
  ·intro s b hs l hn g hg r h;rw[Tm.dP] at hn;simp only[ei] at hn;rw[Tm.mW,dK aak,dR rfl,Tm.tyH] at h;unfold O8 at h
   split at h
   ·rename_i A;exact absurd (iM h).2 A
   ·rename_i A
    split at h
    ·have:=(iM h).2;omega
    ·rename_i f;obtain⟨o,d⟩:=ih b VW l (g++[s]) (hg.app hs) _ (zR (by simpa using A));have he:=Ty.wZ hs d VW;obtain rfl:=(iM h).1;exact⟨.lam he o,he⟩
  ·intro a b k l hn g hg r h;rw[Tm.dP] at hn;simp only[ei] at hn;rw[Tm.mW,dK aak,dK aak] at h;obtain⟨s,t,f,o,d⟩:=Rc h;obtain⟨a1,a2⟩:=ih a VW k g hg _ f;obtain⟨q,v⟩:=ih b VW l g hg _ o;simp only[ib,if_true,Ah,P9] at d
   split at d
   ·rename_i j;obtain⟨x,y,rfl,B,w⟩:=MJ a2 j.1;have H:x=t:=j.2;obtain rfl:=(iM d).1;subst H;exact⟨.app a1 q,w⟩
   ·have:=(iM d).2;omega
  ·intro hn g hg r h;rw[Tm.mW,dK aak,dK aak,Tm.vN] at h;simp only[wu,ib,reduceIte,Int.reduceEq] at h;obtain rfl:=(iM h).1;exact⟨.zero,Ty.gR⟩
  ·intro a k hn g hg r h;rw[Tm.dP] at hn;simp only[ei] at hn;rw[Tm.mW,dK aak,dK aak] at h;obtain⟨s,f,d⟩:=Rn h;obtain⟨a1,a2⟩:=ih a VW k g hg _ f;simp only[ib,reduceIte,Int.reduceEq,Ah] at d
   split at d
   ·rename_i j;subst j;obtain rfl:=(iM d).1;exact⟨.succ a1,Ty.gR⟩
   ·have:=(iM d).2;omega
  ·intro s a b c hs k l C hn g hg r h;rw[Tm.dP] at hn;simp only[ei] at hn;rw[Tm.mW,dK aak,dK aak] at h;obtain⟨x,y,z,f,o,D,d⟩:=Oq h;obtain⟨a1,a2⟩:=ih a VW k g hg _ f;obtain⟨q,v⟩:=ih b VW l g hg _ o;obtain⟨F,I⟩:=ih c VW C g hg _ D;simp only[ib,reduceIte,Int.reduceEq,Ah,P9] at d
   split at d
   ·rename_i j;have j:x=s/\y=.fn .nat (.fn s s)/\z=.nat:=j;obtain⟨rfl,rfl,rfl⟩:=j;obtain rfl:=(iM d).1;exact⟨.rZ hs a1 q F,hs⟩
   ·have:=(iM d).2;omega
  ·intro hn g hg r h;rw[Tm.mW,dK aak,dK aak,Tm.vN] at h;simp only[wu,ib,reduceIte,Int.reduceEq] at h;obtain rfl:=(iM h).1;exact⟨.nil,Ty.mv⟩
  ·intro a b k l hn g hg r h;rw[Tm.dP] at hn;simp only[ei] at hn;rw[Tm.mW,dK aak,dK aak] at h;obtain⟨s,t,f,o,d⟩:=Rc h;obtain⟨a1,a2⟩:=ih a VW k g hg _ f;obtain⟨q,v⟩:=ih b VW l g hg _ o;simp only[ib,reduceIte,Int.reduceEq,Ah,P9] at d
   split at d
   ·rename_i j;obtain⟨rfl,rfl⟩:=j;obtain rfl:=(iM d).1;exact⟨.cons a1 q,Ty.mv⟩
   ·have:=(iM d).2;omega
  ·intro s a b c hs k l C hn g hg r h;rw[Tm.dP] at hn;simp only[ei] at hn;rw[Tm.mW,dK aak,dK aak] at h;obtain⟨x,y,z,f,o,D,d⟩:=Oq h;obtain⟨a1,a2⟩:=ih a VW k g hg _ f;obtain⟨q,v⟩:=ih b VW l g hg _ o;obtain⟨F,I⟩:=ih c VW C g hg _ D;simp only[ib,reduceIte,Int.reduceEq,Ah,P9] at d
   split at d
   ·rename_i j;have j:x=s/\y=.fn .nat (.fn .fS (.fn s s))/\z=.fS:=j;obtain⟨rfl,rfl,rfl⟩:=j;obtain rfl:=(iM d).1;exact⟨.fold hs a1 q F,hs⟩
   ·have:=(iM d).2;omega
  ·intro a b k l hn g hg r h;rw[Tm.dP] at hn;simp only[ei] at hn;rw[Tm.mW,dK aak,dK aak] at h;obtain⟨s,t,f,o,d⟩:=Rc h;obtain⟨a1,a2⟩:=ih a VW k g hg _ f;obtain⟨q,v⟩:=ih b VW l g hg _ o;simp only[ib,reduceIte,Int.reduceEq,Ah,P9] at d
   split at d
   ·have:=(iM d).2;omega
   ·rename_i j;have he:=Ty.Js a2 v VW;obtain rfl:=(iM d).1;exact⟨.pair he a1 q,he⟩
  ·intro a k hn g hg r h;rw[Tm.dP] at hn;simp only[ei] at hn;rw[Tm.mW,dK aak,dK aak] at h;obtain⟨s,f,d⟩:=Rn h;obtain⟨a1,a2⟩:=ih a VW k g hg _ f;simp only[ib,reduceIte,Int.reduceEq,Ah] at d
   split at d
   ·rename_i j;obtain⟨x,y,rfl,B,w⟩:=BM a2 j;obtain rfl:=(iM d).1;exact⟨.fst a1,B⟩
   ·have:=(iM d).2;omega
  ·intro a k hn g hg r h;rw[Tm.dP] at hn;simp only[ei] at hn;rw[Tm.mW,dK aak,dK aak] at h;obtain⟨s,f,d⟩:=Rn h;obtain⟨a1,a2⟩:=ih a VW k g hg _ f;simp only[ib,reduceIte,Int.reduceEq,Ah] at d
   split at d
   ·rename_i j;obtain⟨x,y,rfl,B,w⟩:=BM a2 j;obtain rfl:=(iM d).1;exact⟨.snd a1,w⟩
   ·have:=(iM d).2;omega
  ·intro hn g hg r h;rw[Tm.mW,dK aak,dK aak,Tm.vN] at h;simp only[wu,ib,reduceIte,Int.reduceEq] at h;obtain rfl:=(iM h).1;exact⟨.unit,Ty.Ic⟩
end Go.fD
namespace Go.fD
open Go
def jP(a:Ty):a.jY a=true:=(Ty.kv a a).2 rfl
def lL{a b:Ty}(h:a≠b):a.jY b=false:=by grind[Ty.kv]
def oo{n:Nat}{g:List Ty}:∀(l:List Tm) (i:Nat) (v:List Ty),(∀a∈l,fG n g a=some (a.ty g))->v.length+l.length<=1000->fk (λ(o:Int) (j:Tm)=>(λ(c:List Ty)=>
   dU (fG n g j) λd f=>
   if(eP f 0) then(
   some (gm.ret ((Ty.mk 0 []),f)))
   else(gB (fI c [d])<|some (.next (fR c [d])))):Int->Tm->((List Ty))->(Option (gm ((List Ty)) (Ty×Int)))) l i v=some (match Tm.vN l g with|.inl ts=>.inl (v++ts)|.inr e=>.inr (.z,e))
 |[],i,v,_,_=>by simp[Tm.vN]|a::l,i,v,h,q=>by
  simp only[mz] at q;have s:=h a aa2;rw[gf,Tm.vN];rw[s]
  by_cases k:(a.ty g).2=0
  ·rw[zR k,p2 rfl];simp only[dQ];rw[dK aak,fg acx];simp only[ec,dI,fh];rw[oo l (i+1) _ (λb u=>h b (by simp[u])) (by rw[ij];simp;omega),ij];cases Tm.vN l g with
   |inl ts=>simp|inr e=>rfl
  ·rw[qc k];generalize a.ty g=r at k;obtain⟨t,e⟩:=r;simp only[dQ];rw[dR (by simpa[eP] using k)];rfl
def BV(l:List Tm)(g:List Ty):(∃e,e≠0/\Tm.vN l g=.inr e)\/∃ts,Tm.vN l g=.inl ts/\ts.length=l.length/\∀(i:Nat) (a:Tm),l[i]?=some a->∃s,ts[i]?=some s/\a.ty g=(s,0):=by
 induction l with
 |nil=>exact .inr ⟨[],by rw[Tm.vN],rfl,aa2⟩|cons a l ih=>
  rw[Tm.vN]
  grind[p2,qc]
def QQ{f:List Ty->Ty×Int}{e:Int}:wu f (.inr e)=(.z,e):=rfl
def ox{f:List Ty->Ty×Int}{l:List Ty}:wu f (.inl l)=f l:=rfl
def Ev{a:Tm}{g:List Ty}(b:a.ok=true)(hg:iT g):(∃e,e≠0/\Tm.vN [a] g=.inr e)\/∃s,Tm.vN [a] g=.inl [s]/\s.err=0:=by
 rcases BV [a] g with h|⟨ts,c,d,f⟩
 ·grind
 ·obtain⟨s,j,i⟩:=f 0 a rfl
  match ts,d with
  |[x],_=>
   obtain rfl:x=s:=by grind
   exact .inr ⟨x,c,(qE _ a (gY _) b g hg _ i).2⟩
def Eg{a b:Tm}{g:List Ty}(d:a.ok=true)(f:b.ok=true)(hg:iT g):(∃e,e≠0/\Tm.vN [a,b] g=.inr e)\/∃s t,Tm.vN [a,b] g=.inl [s,t]/\s.err=0/\t.err=0:=by
 rcases BV [a,b] g with h|⟨ts,i,j,c⟩
 ·exact .inl h
 ·obtain⟨s,n,k⟩:=c 0 a rfl;obtain⟨t,o,l⟩:=c 1 b rfl
  match ts,j with
  |[x,y],_=>
   obtain rfl:x=s:=by grind
   obtain rfl:y=t:=by grind
   exact .inr ⟨x,y,i,(qE _ a (gY _) d g hg _ k).2,(qE _ b (gY _) f g hg _ l).2⟩
def DG{a b c:Tm}{g:List Ty}(f:a.ok=true)(i:b.ok=true)(j:c.ok=true)(hg:iT g):(∃e,e≠0/\Tm.vN [a,b,c] g=.inr e)\/∃s t u,Tm.vN [a,b,c] g=.inl [s,t,u]/\s.err=0/\t.err=0/\u.err=0:=by
 rcases BV [a,b,c] g with h|⟨ts,k,l,d⟩
 ·exact .inl h
 ·obtain⟨s,v,n⟩:=d 0 a rfl;obtain⟨t,w,o⟩:=d 1 b rfl;obtain⟨u,q,r⟩:=d 2 c rfl
  match ts,l with
  |[x,y,z],_=>
   obtain rfl:x=s:=by grind
   obtain rfl:y=t:=by grind
   obtain rfl:z=u:=by simpa using q
   exact .inr ⟨x,y,z,k,(qE _ a (gY _) f g hg _ n).2,(qE _ b (gY _) i g hg _ o).2,(qE _ c (gY _) j g hg _ r).2⟩
def GF{t:Ty}(h:t.ak7<=1000000000)(a:t.ok=true):uC t=some (if 64<t.ak7 then(.z,4)else(t,0)):=by
 unfold uC;rw[km h];unfold Ty.err;rw[dR a]
 split
 ·rfl
 ·rfl
section
variable{s x y z:Ty}
def BG:((x.ak5=4/\x.ak6.getD 0 .z=y)->ib 3 s [x,y]=(x.ak6.getD 1 .z,0))/\(¬(x.ak5=4/\x.ak6.getD 0 .z=y)->ib 3 s [x,y]=(.z,7)):=by
 unfold ib
 grind
def HW:(x=.nat->ib 5 s [x]=(.nat,0))/\(x≠ .nat->ib 5 s [x]=(.z,7)):=by
 unfold ib
 grind
def xw:((x=s/\y=.fn .nat (.fn s s)/\z=.nat)->ib 6 s [x,y,z]=(s,0))/\(¬(x=s/\y=.fn .nat (.fn s s)/\z=.nat)->ib 6 s [x,y,z]=(.z,7)):=by
 unfold ib
 grind
def BO:((x=.nat/\y=.fS)->ib 8 s [x,y]=(.fS,0))/\(¬(x=.nat/\y=.fS)->ib 8 s [x,y]=(.z,7)):=by
 unfold ib
 grind
def xj:((x=s/\y=.fn .nat (.fn .fS (.fn s s))/\z=.fS)->ib 9 s [x,y,z]=(s,0))/\(¬(x=s/\y=.fn .nat (.fn .fS (.fn s s))/\z=.fS)->ib 9 s [x,y,z]=(.z,7)):=by
 unfold ib
 grind
def OD:ib 10 s [x,y]=if 64<1+x.ak7+y.ak7 then(.z,4)else(.pr x y,0):=by
 rfl
def Nr:ib 11 s [x]=if x.ak5=3 then(x.ak6.getD 0 .z,0)else(.z,7):=by
 rfl
def NZ:ib 12 s [x]=if x.ak5=3 then(x.ak6.getD 1 .z,0)else(.z,7):=by
 rfl
end
def Be:∀(n:Nat) (t:Tm),t.ak7<=n->t.ok=true->∀g,iT g->g.length+t.ak7<=1000000->fG n g t=some (t.ty g):=by
 intro n
 induction n with
 |zero=>intro t h;have:=t.eM;omega
 |succ n ih=>
  intro t hn N;refine Tm.qS (p:=λt=>t.ak7<=n+1->∀g,iT g->g.length+t.ak7<=1000000->fG (n+1) g t=some (t.ty g)) ?_ ?_ ?_ ?_ ?_ ?_ ?_ ?_ ?_ ?_ ?_ ?_ ?_ t N hn
  ·intro i _ g hg k;rw[Tm.dP] at k;rw[fG,dR ac8,Tm.mW,dR rfl]
   by_cases hi:(i:Int)<(g.length:Int)
   ·rw[dK (by simp only[Tm.iC,fM,jk];omega),dR hi];simp only[Tm.iC,fM];rw[fT (a:=(g.length:Int)) VW VW,fT VW VW]
    have w:g.length-1-i<g.length:=VW
    have:dW g ((g.length:Int)-1-(i:Int))=some g[g.length-1-i]:=by
     unfold dW;rw[dR VW,show((g.length:Int)-1-(i:Int)).toNat=g.length-1-i by omega,o9 w]
    rw[this];simp only[dI];have H:=hg _ (B7 w);rw[jm (by have:=fc H;omega)];simp only[dI,DS];rw[Aq,o9 w];rfl
   ·rw[dR (by simp only[Tm.iC,fM,jk];omega),dK hi];rfl
  ·intro s b hs k hn g hg d;rw[Tm.dP] at hn d;simp only[ei] at hn d;rw[fG,dK aa2,dR ac8,Tm.mW,dK aak,dR rfl,Tm.tyH];simp only[Tm.fK,Tm.eH,eW,lN,dI,ij];rw[fg acx,ec,ih b VW k (g++[s]) (hg.app hs) acx];have L:=λh=>(qE _ b (gY _) k (g++[s]) (hg.app hs) (b.ty (g++[s])).1 (zR h)).2;generalize b.ty (g++[s])=q at L;obtain⟨r,e⟩:=q;simp only[dQ,O8]
   by_cases I:e=0
   ·subst I;have M:r.err=0:=L rfl;have J:=fc hs;have O:=fc M;rw[dK aak,dK aa2,iP VW VW];simp only[dI];rw[GF (t:=Ty.fn s r) (by rw[Ty.iz];omega) (Ty.ok_two (.inr rfl) (Ty.gT hs).1 (Ty.gT M).1),Ty.iz]
    split<;>rfl
   ·rw[dR (by simpa[eP] using I),dR I];rfl
  ·intro a b j k hn g hg d;rw[Tm.dP] at hn d;simp only[ei] at hn d;rw[fG,dK aa2,dK aa2,Tm.mW,dK aak,dK aak];simp only[eg,Tm.eH,et (l:=[a,b]) aa2,ec];rw[oo [a,b] 0 [] (by intro x f;simp at f;rcases f with rfl|rfl<;>first|exact ih _ VW j g hg VW|exact ih _ VW k g hg VW) aa2];rcases Eg j k hg with⟨e,he,h⟩|⟨s,t,h,hs,F⟩
   ·rw[h];rfl
   ·rw[h,ox];simp only[dI,eB,gy,gO];rw[dR ac8];simp only[nT,eW,iv,lN,rq,dI]
    by_cases o:s.ak5=4
    ·obtain⟨x,y,rfl,f,D⟩:=MJ hs o;rw[dK (by simp[Ty.fn,eP]),show(Ty.fn x y).ak6[0]?=some x from rfl];simp only[dI];rw[iB (by have:=fc f;omega)];simp only[dI]
     by_cases A:x=t
     ·subst A;rw[jP,dK aak,show(Ty.fn x y).ak6[1]?=some y from rfl,(BG (x:=.fn x y) (y:=x)).1 ⟨rfl,rfl⟩];rfl
     ·rw[lL A,dR aak,(BG (x:=.fn x y) (y:=t)).2 (λh=>A h.2)];rfl
    ·rw[dR (by simpa[eP] using o),dR trivial,BG.2 (λh=>o h.1)];rfl
  ·intro hn g hg d;rw[Tm.mW,dK aak,dK aak,Tm.vN];rfl
  ·intro a j hn g hg d;rw[Tm.dP] at hn d;simp only[ei] at hn d;rw[fG,dK aa2,dK aa2,Tm.mW,dK aak,dK aak];simp only[eg,Tm.eH,et (l:=[a]) aa2,ec];rw[oo [a] 0 [] (by intro x f;simp at f;subst f;exact ih _ VW j g hg VW) aa2];rcases Ev j hg with⟨e,he,h⟩|⟨s,h,hs⟩
   ·rw[h];rfl
   ·rw[h,ox];simp only[dI,eB,gy,gO];rw[dK aa2,dK aa2,dR ac8];simp only[nT,eW,lN,dI];rw[iB (by have:=fc hs;omega)];simp only[dI]
    by_cases B:s=.nat
    ·subst B;rw[jP,dR rfl,HW.1 rfl]
    ·rw[lL B,dK aak,HW.2 B];rfl
  ·intro s a b c hs j k G hn g hg d;rw[Tm.dP] at hn d;simp only[ei] at hn d;rw[fG,dK aa2,dK aa2,Tm.mW,dK aak,dK aak];simp only[eg,Tm.eH,et (l:=[a,b,c]) aa2,ec];rw[oo [a,b,c] 0 [] (by intro x f;simp at f;rcases f with rfl|rfl|rfl<;>first|exact ih _ VW j g hg VW|exact ih _ VW k g hg VW|exact ih _ VW G g hg VW) aa2];rcases DG j k G hg with⟨e,he,h⟩|⟨x,y,z,h,f,D,K⟩
   ·rw[h];rfl
   ·have J:=fc hs;rw[h,ox];simp only[dI,eB,gy,gO];rw[dK aa2,dK aa2,dK aa2,dR ac8];simp only[nT,eW,iv,mY,lN,rq,dI,Tm.fK];rw[iB (by have:=fc f;omega)];simp only[dI]
    by_cases u:x=s
    ·subst u;rw[jP,dR rfl,iP VW VW];simp only[dI];rw[iP (by rw[Ty.ig];omega) (by rw[Ty.iz];omega)];simp only[dI];rw[iB (by have:=fc D;omega)];simp only[dI]
     by_cases v:y=.fn .nat (.fn x x)
     ·subst v;rw[jP,dR rfl,iB (by have:=fc K;omega)];simp only[dI]
      by_cases C:z=.nat
      ·subst C;rw[jP,dK aak,jm VW,xw.1 ⟨rfl,rfl,rfl⟩];rfl
      ·rw[lL C,dR aak,xw.2 (λh=>C h.2.2)];rfl
     ·rw[lL v,dK aak,dR trivial,xw.2 (λh=>v h.2.1)];rfl
    ·rw[lL u,dK aak,dR trivial,xw.2 (λh=>u h.1)];rfl
  ·intro hn g hg d;rw[Tm.mW,dK aak,dK aak,Tm.vN];rfl
  ·intro a b j k hn g hg d;rw[Tm.dP] at hn d;simp only[ei] at hn d;rw[fG,dK aa2,dK aa2,Tm.mW,dK aak,dK aak];simp only[eg,Tm.eH,et (l:=[a,b]) aa2,ec];rw[oo [a,b] 0 [] (by intro x f;simp at f;rcases f with rfl|rfl<;>first|exact ih _ VW j g hg VW|exact ih _ VW k g hg VW) aa2];rcases Eg j k hg with⟨e,he,h⟩|⟨s,t,h,hs,F⟩
   ·rw[h];rfl
   ·rw[h,ox];simp only[dI,eB,gy,gO];rw[dK aa2,dK aa2,dK aa2,dK aa2,dK aa2,dR ac8];simp only[nT,eW,iv,lN,rq,dI];rw[iB (by have:=fc hs;omega)];simp only[dI]
    by_cases u:s=.nat
    ·subst u;rw[jP,dR rfl,iB (by have:=fc F;omega)];simp only[dI]
     by_cases v:t=.fS
     ·subst v;rw[jP,dK aak,BO.1 ⟨rfl,rfl⟩]
     ·rw[lL v,dR aak,BO.2 (λh=>v h.2)];rfl
    ·rw[lL u,dK aak,dR trivial,BO.2 (λh=>u h.1)];rfl
  ·intro s a b c hs j k G hn g hg d;rw[Tm.dP] at hn d;simp only[ei] at hn d;rw[fG,dK aa2,dK aa2,Tm.mW,dK aak,dK aak];simp only[eg,Tm.eH,et (l:=[a,b,c]) aa2,ec];rw[oo [a,b,c] 0 [] (by intro x f;simp at f;rcases f with rfl|rfl|rfl<;>first|exact ih _ VW j g hg VW|exact ih _ VW k g hg VW|exact ih _ VW G g hg VW) aa2];rcases DG j k G hg with⟨e,he,h⟩|⟨x,y,z,h,f,D,K⟩
   ·rw[h];rfl
   ·have J:=fc hs;rw[h,ox];simp only[dI,eB,gy,gO];rw[dK aa2,dK aa2,dK aa2,dK aa2,dK aa2,dK aa2,dR ac8];simp only[nT,eW,iv,mY,lN,rq,dI,Tm.fK];rw[iB (by have:=fc f;omega)];simp only[dI]
    by_cases u:x=s
    ·subst u;rw[jP,dR rfl,iP VW VW];simp only[dI];rw[iP (by rw[Ty.oN];omega) (by rw[Ty.iz];omega)];simp only[dI];rw[iP (by rw[Ty.ig];omega) (by rw[Ty.iz,Ty.iz,Ty.oN];omega)];simp only[dI];rw[iB (by have:=fc D;omega)];simp only[dI]
     by_cases v:y=.fn .nat (.fn .fS (.fn x x))
     ·subst v;rw[jP,dR rfl,iB (by have:=fc K;omega)];simp only[dI]
      by_cases C:z=.fS
      ·subst C;rw[jP,dK aak,jm VW,xj.1 ⟨rfl,rfl,rfl⟩];rfl
      ·rw[lL C,dR aak,xj.2 (λh=>C h.2.2)];rfl
     ·rw[lL v,dK aak,dR trivial,xj.2 (λh=>v h.2.1)];rfl
    ·rw[lL u,dK aak,dR trivial,xj.2 (λh=>u h.1)];rfl
  ·intro a b j k hn g hg d;rw[Tm.dP] at hn d;simp only[ei] at hn d;rw[fG,dK aa2,dK aa2,Tm.mW,dK aak,dK aak];simp only[eg,Tm.eH,et (l:=[a,b]) aa2,ec];rw[oo [a,b] 0 [] (by intro x f;simp at f;rcases f with rfl|rfl<;>first|exact ih _ VW j g hg VW|exact ih _ VW k g hg VW) aa2];rcases Eg j k hg with⟨e,he,h⟩|⟨s,t,h,hs,F⟩
   ·rw[h];rfl
   ·have J:=fc hs;have O:=fc F;rw[h,ox];simp only[dI,eB,gy,gO];rw[dK aa2,dK aa2,dK aa2,dK aa2,dK aa2,dK aa2,dK aa2,dR ac8];simp only[nT,eW,iv,lN,rq,dI];rw[yQ VW VW];simp only[dI];rw[GF (t:=Ty.pr s t) (by rw[Ty.oH];omega) (Ty.ok_two (.inl rfl) (Ty.gT hs).1 (Ty.gT F).1),Ty.oH];rw[OD]
    split<;>rfl
  ·intro a j hn g hg d;rw[Tm.dP] at hn d;simp only[ei] at hn d;rw[fG,dK aa2,dK aa2,Tm.mW,dK aak,dK aak];simp only[eg,Tm.eH,et (l:=[a]) aa2,ec];rw[oo [a] 0 [] (by intro x f;simp at f;subst f;exact ih _ VW j g hg VW) aa2];rcases Ev j hg with⟨e,he,h⟩|⟨s,h,hs⟩
   ·rw[h];rfl
   ·rw[h,ox];simp only[dI,eB,gy,gO];rw[dK aa2,dK aa2,dK aa2,dK aa2,dK aa2,dK aa2,dK aa2,dK aa2,dR ac8];simp only[nT,eW,lN,dI];rw[Nr]
    by_cases o:s.ak5=3
    ·obtain⟨x,y,rfl,f,D⟩:=BM hs o;rw[dK (by simp[Ty.pr,eP]),dR ac8,dR (show(Ty.pr x y).ak5=3 from rfl)];rfl
    ·rw[dR (by simpa[eP] using o),dK o];rfl
  ·intro a j hn g hg d;rw[Tm.dP] at hn d;simp only[ei] at hn d;rw[fG,dK aa2,dK aa2,Tm.mW,dK aak,dK aak];simp only[eg,Tm.eH,et (l:=[a]) aa2,ec];rw[oo [a] 0 [] (by intro x f;simp at f;subst f;exact ih _ VW j g hg VW) aa2];rcases Ev j hg with⟨e,he,h⟩|⟨s,h,hs⟩
   ·rw[h];rfl
   ·rw[h,ox];simp only[dI,eB,gy,gO];rw[dK aa2,dK aa2,dK aa2,dK aa2,dK aa2,dK aa2,dK aa2,dK aa2,dR ac8];simp only[nT,eW,lN,dI];rw[NZ]
    by_cases o:s.ak5=3
    ·obtain⟨x,y,rfl,f,D⟩:=BM hs o;rw[dK (by simp[Ty.pr,eP]),dK aa2,dR (show(Ty.pr x y).ak5=3 from rfl)];rfl
    ·rw[dR (by simpa[eP] using o),dK o];rfl
  ·intro hn g hg d;rw[Tm.mW,dK aak,dK aak,Tm.vN];rfl
end Go.fD
namespace Go.fD
open Go
def Kp:gN=fm:=by
 funext n
 induction n with
 |zero=>rfl|succ n ih=>
  funext a b
  rw[gN,fm,ih]
def sO{a b:Ty}(h:a.ak7<=1000000000):gN FU a b=some (a.jY b):=by rw[Kp];exact iB h
def Af(t:Ty):dN:=⟨t,(t.ak7:Int)⟩
def UB:dN:=⟨.mk 0 [],0⟩
def Lq(r:Ty×Int):dN×Int:=if r.2=0 then(Af r.1,0)else(UB,r.2)
@[simp] theorem tF(t:Ty):Lq (t,0)=(Af t,0):=dR rfl
def nF{t:Ty}{e:Int}(h:e≠0):Lq (t,e)=(UB,e):=dK h
@[simp] theorem vR(t:Ty):(Af t).dM=t:=by rfl
@[simp] theorem La(t:Ty):(Af t).ak7=(t.ak7:Int):=by rfl
def mP{t:Ty}(h:t.err=0):mC t=some (Af t):=by
 unfold mC;rw[lq (by have:=fc h;omega),dR h];rfl
def At(k:Int){a b:Ty}(c:a.ak7<=1000000)(d:b.ak7<=1000000):rW k (Af a) (Af b)=some (if 64<1+a.ak7+b.ak7 then(UB,4)else(Af (.mk k [a,b]),0)):=by
 unfold rW;simp only[La,vR];rw[fX (a:=1) VW VW,fX VW VW]
 by_cases h:64<1+a.ak7+b.ak7
 ·rw[dR (by simp only[iD];omega),dR h];rfl
 ·rw[dK (by simp only[iD];omega),dK h];unfold Af;rw[Ty.rR]
  congr 3
def wF{a b:Ty}(c:a.ak7<=1000000):kj (Af a) (Af b)=some (a.jY b):=by
 unfold kj;simp only[eg,La,vR]
 by_cases h:(a.ak7:Int)=(b.ak7:Int)
 ·rw[dR (by simpa[eo] using h),sO VW];rfl
 ·rw[dK (by simpa[eo] using h),lL (by rintro rfl;exact h rfl)]
def r6{t x:Ty}{i:Int}(h:dW t.ak6 i=some x)(a:x.err=0):jn (Af t) i=some (Af x):=by
 unfold jn;simp only[vR,h,dI,mP a]
def G8:pG=some .nat:=rfl
def Mk:BB=some .fS:=rfl
def W0{l:List Ty}(d:l.length<=1000):∀(i m:Nat) (k:Int) (as:List Ty),i<=l.length->i<m->js ((PE λ(a:Int) (v49:Int) (b:List Ty)=>
   if(pd a 0) then(
   dH (dW l a) λc=>
   some (.next ((fA .i64 a 1),4,[c,(Ty.mk v49 b)])))
   else(some (.yd (a,v49,b)))):(Int×Int×(List Ty))->(Option (gm (Int×Int×(List Ty)) (Ty)))) m ((i:Int)-1,k,as)=some (.inl (-1,((l.take i).foldr Ty.fn (.mk k as)).ak5,((l.take i).foldr Ty.fn (.mk k as)).ak6))
 |0,m+1,k,as,_,_=>by
  rw[hI];simp only[PE];rw[dK (by rw[jk];omega)];rfl
 |i+1,m+1,k,as,hi,hm=>by
  rw[hI];simp only[PE];rw[dR (by rw[jk];omega),show((i+1:Nat):Int)-1=(i:Int) by omega,gX,o9 VW];simp only[dI,fh];rw[fT VW VW];have h:=W0 d i m 4 [l[i],.mk k as] VW VW;rw[h,agf,o9 VW];simp only[Option.toList_some,List.foldr_append,List.foldr_cons,List.foldr_nil];rfl
def GY(t:Ty)(l:List Ty)(a:l.length<=1000):uO t l=some (l.foldr Ty.fn t):=by
 unfold uO;simp only[eg];rw[fM,fT VW VW];have h:=W0 a l.length FU t.ak5 t.ak6 (gY _) (ag0 VW);rw[h,dI];rw[List.take_length]
 have e:Ty.mk t.ak5 t.ak6=t:=by cases t;rfl
 rw[e];generalize List.foldr Ty.fn t l=r;cases r;rfl
def SO(a b t:Ty):uO t [a,b]=some (.fn a (.fn b t)):=GY t [a,b] aa2
def Th(a b c t:Ty):uO t [a,b,c]=some (.fn a (.fn b (.fn c t))):=GY t [a,b,c] aa2
def tr:List Ty->dN×dN×dN
 |[]=>(UB,UB,UB)|[a]=>(Af a,UB,UB)|[a,b]=>(Af a,Af b,UB)|a::b::c::_=>(Af a,Af b,Af c)
def Jp(x:dN)(k:Int):iZ x k=some (eo x.dM.ak5 k):=rfl
def JF(t:Ty)(k:Int):eo (Af t).dM.ak5 k=decide (t.ak5=k):=by
 rw[vR];exact ET _ _
def Hn(s:Ty)(l:List Tm)(i:Int):pR (.mk 6 i s l)=some (.fn .nat (.fn s s)):=by
 unfold pR;rw[dK aa2];simp only[G8,dI];rw[SO];rfl
def Gf(s:Ty)(l:List Tm)(i:Int):pR (.mk 9 i s l)=some (.fn .nat (.fn .fS (.fn s s))):=by
 unfold pR;rw[dR aa2];simp only[G8,Mk,dI];rw[Th];rfl
section
variable{s x y z:Ty} {i:Int} {l:List Tm}
def Vp(j:x.err=0)(n:y.err=0):gn (.mk 3 i s l) (tr [x,y])=some (Lq (ib 3 s [x,y])):=by
 unfold gn;rw[show jI (Tm.mk 3 i s l).ak5=some [] from rfl];simp only[dI];rw[dK aa2,dR ac8];simp only[eg,tr,Jp,dI,JF]
 by_cases d:x.ak5=4
 ·obtain⟨a,b,rfl,f,k⟩:=MJ j d;rw[dR ac8,r6 (t:=.fn a b) (x:=a) rfl f];simp only[dI];rw[wF (by have:=fc f;omega)];simp only[dI]
  by_cases c:a=y
  ·subst c;rw[jP,dK aa2,r6 (t:=.fn a b) (x:=b) rfl k,(BG (x:=.fn a b) (y:=a)).1 ⟨rfl,rfl⟩];simp only[dI];rw[show(Ty.fn a b).ak6.getD 1 .z=b from rfl,tF]
  ·rw[lL c,dR aa2,(BG (x:=.fn a b) (y:=y)).2 (λh=>c h.2),nF aak];rfl
 ·rw[dK (by simpa using d),dR trivial,BG.2 (λh=>d h.1),nF aak];rfl
def alc(a:x.err=0)(b:y.err=0):gn (.mk 10 i s l) (tr [x,y])=some (Lq (ib 10 s [x,y])):=by
 unfold gn;rw[show jI (Tm.mk 10 i s l).ak5=some [] from rfl];simp only[dI];rw[dK aa2,dK aa2,dK aa2,dR ac8];simp only[tr];rw[At 3 (by have:=fc a;omega) (by have:=fc b;omega),OD]
 split
 ·simp only[dQ];rw[nF aak]
 ·simp only[dQ];rw[tF];rfl
def Xm(d:x.err=0):gn (.mk 11 i s l) (tr [x])=some (Lq (ib 11 s [x])):=by
 unfold gn;rw[show jI (Tm.mk 11 i s l).ak5=some [] from rfl];simp only[dI];rw[dK aa2,dK aa2,dK aa2,dK aa2];simp only[tr,Jp,dI,JF];rw[Nr]
 by_cases c:x.ak5=3
 ·obtain⟨a,b,rfl,f,h⟩:=BM d c;rw[dR ac8,dR ac8,r6 (t:=.pr a b) (x:=a) rfl f,dR (show(Ty.pr a b).ak5=3 from rfl)];simp only[dI];rw[show(Ty.pr a b).ak6.getD 0 .z=a from rfl,tF]
 ·rw[dK (by simpa using c),dK c,nF aak];rfl
def VL(d:x.err=0):gn (.mk 12 i s l) (tr [x])=some (Lq (ib 12 s [x])):=by
 unfold gn;rw[show jI (Tm.mk 12 i s l).ak5=some [] from rfl];simp only[dI];rw[dK aa2,dK aa2,dK aa2,dK aa2];simp only[tr,Jp,dI,JF];rw[NZ]
 by_cases c:x.ak5=3
 ·obtain⟨a,b,rfl,h,f⟩:=BM d c;rw[dR ac8,dK aa2,r6 (t:=.pr a b) (x:=b) rfl f,dR (show(Ty.pr a b).ak5=3 from rfl)];simp only[dI];rw[show(Ty.pr a b).ak6.getD 1 .z=b from rfl,tF]
 ·rw[dK (by simpa using c),dK c,nF aak];rfl
end
end Go.fD
namespace Go.fD
open Go
section
variable{s x y z:Ty} {i:Int} {l:List Tm}
def A8{k t:Int}(a:jI k=some [t])(b:Ty.err (.mk t [])=0):gn (.mk k i s l) (tr [])=some (Af (.mk t []),0):=by
 unfold gn;rw[show(Tm.mk k i s l).ak5=k from rfl,a,dI,dR (show oQ (eA [t]) 0=true by rfl),show pF [t] 1 (eA [t])=some ([]:List Int)from rfl];simp only[dI,et (l:=([]:List Int)) aa2,ec,eg,qL,eB,eW,lN];rw[mP b];rfl
def TS:gn (.mk 4 i s l) (tr [])=some (Lq (ib 4 s [])):=A8 rfl Ty.gR
def Vu:gn (.mk 7 i s l) (tr [])=some (Lq (ib 7 s [])):=A8 rfl Ty.mv
def TY:gn (.mk 13 i s l) (tr [])=some (Lq (ib 13 s [])):=A8 rfl Ty.Ic
def S2(b:x.err=0):gn (.mk 5 i s l) (tr [x])=some (Lq (ib 5 s [x])):=by
 unfold gn;rw[show jI (Tm.mk 5 i s l).ak5=some [1,1] from rfl,dI,dR (show oQ (eA ([1,1]:List Int)) 0=true by rfl),show pF ([1,1]:List Int) 1 (eA ([1,1]:List Int))=some [1] from rfl];simp only[dI,et (l:=([1]:List Int)) aa2,ec,eg,tr];rw[gf,dR ac8];simp only[Jp,dI,JF]
 by_cases a:x.ak5=1
 ·have hn:=(wz b).1 a;subst hn;rw[z_ ac8,dK aak];simp only[dI,fh,qL,eB,eW,lN];rw[show mC (Ty.mk 1 [])=some (Af .nat)from mP Ty.gR,HW.1 rfl,tF];rfl
 ·rw[Ni a,dR aak,HW.2 (λh=>a ((wz b).2 h)),nF aak];rfl
def T6(c:x.err=0)(d:y.err=0):gn (.mk 8 i s l) (tr [x,y])=some (Lq (ib 8 s [x,y])):=by
 unfold gn;rw[show jI (Tm.mk 8 i s l).ak5=some [2,1,2] from rfl,dI,dR (show oQ (eA ([2,1,2]:List Int)) 0=true by rfl),show pF ([2,1,2]:List Int) 1 (eA ([2,1,2]:List Int))=some [1,2] from rfl];simp only[dI,et (l:=([1,2]:List Int)) aa2,ec,eg,tr];rw[gf,dR ac8];simp only[Jp,dI,JF]
 by_cases b:x.ak5=1
 ·have hn:=(wz c).1 b;subst hn;rw[z_ ac8,dK aak];simp only[dI,fh];rw[gf,dK aak,dR ac8]
  by_cases a:y.ak5=2
  ·have hn:=(EW d).1 a;subst hn;rw[z_ ac8,dK aak];simp only[dI,fh,qL,eB,eW,lN];rw[show mC (Ty.mk 2 [])=some (Af .fS)from mP Ty.mv,BO.1 ⟨rfl,rfl⟩,tF];rfl
  ·rw[Ni a,dR aak,BO.2 (λh=>a ((EW d).2 h.2)),nF aak];rfl
 ·rw[Ni b,dR aak,BO.2 (λh=>b ((wz c).2 h.1)),nF aak];rfl
def W8(hs:s.err=0)(d:x.err=0)(f:y.err=0)(j:z.err=0):gn (.mk 6 i s l) (tr [x,y,z])=some (Lq (ib 6 s [x,y,z])):=by
 unfold gn;rw[show jI (Tm.mk 6 i s l).ak5=some [] from rfl];simp only[dI];rw[dK aak,dK aa2,dR ac8];simp only[eg,tr,Tm.fK,mP hs,dI];rw[wF (by have:=fc d;omega)];simp only[dI]
 by_cases a:x=s
 ·subst a;rw[jP,dR rfl,Hn];simp only[dI,vR];rw[sO (by have:=fc f;omega)];simp only[dI]
  by_cases b:y=.fn .nat (.fn x x)
  ·subst b;rw[jP,dR rfl];simp only[Jp,dI];rw[show fv (eo (Tm.mk 6 i x l).ak5 9) (2:Int) 1=1 from rfl];simp only[JF]
   by_cases c:z=.nat
   ·subst c;rw[z_ ac8,dK aak,xw.1 ⟨rfl,rfl,rfl⟩,tF]
   ·rw[Ni (λh=>c ((wz j).1 h)),dR aak,xw.2 (λh=>c h.2.2),nF aak];rfl
  ·rw[lL b,dK aak,dR trivial,xw.2 (λh=>b h.2.1),nF aak];rfl
 ·rw[lL a,dK aak,dR trivial,xw.2 (λh=>a h.1),nF aak];rfl
def S9(hs:s.err=0)(d:x.err=0)(f:y.err=0)(j:z.err=0):gn (.mk 9 i s l) (tr [x,y,z])=some (Lq (ib 9 s [x,y,z])):=by
 unfold gn;rw[show jI (Tm.mk 9 i s l).ak5=some [] from rfl];simp only[dI];rw[dK aak,dK aa2,dR ac8];simp only[eg,tr,Tm.fK,mP hs,dI];rw[wF (by have:=fc d;omega)];simp only[dI]
 by_cases a:x=s
 ·subst a;rw[jP,dR rfl,Gf];simp only[dI,vR];rw[sO (by have:=fc f;omega)];simp only[dI]
  by_cases b:y=.fn .nat (.fn .fS (.fn x x))
  ·subst b;rw[jP,dR rfl];simp only[Jp,dI];rw[show fv (eo (Tm.mk 9 i x l).ak5 9) (2:Int) 1=2 from rfl];simp only[JF]
   by_cases c:z=.fS
   ·subst c;rw[z_ ac8,dK aak,xj.1 ⟨rfl,rfl,rfl⟩,tF]
   ·rw[Ni (λh=>c ((EW j).1 h)),dR aak,xj.2 (λh=>c h.2.2),nF aak];rfl
  ·rw[lL b,dK aak,dR trivial,xj.2 (λh=>b h.2.1),nF aak];rfl
 ·rw[lL a,dK aak,dR trivial,xj.2 (λh=>a h.1),nF aak];rfl
end
def st9(p:dN×dN×dN):Int×(List Ty)×Int×Int×(List Ty)×Int×Int×(List Ty)×Int:=
 (p.1.dM.ak5,p.1.dM.ak6,p.1.ak7,p.2.1.dM.ak5,p.2.1.dM.ak6,p.2.1.ak7,p.2.2.dM.ak5,p.2.2.dM.ak6,p.2.2.ak7)
def GH{n:Nat}{g:List Ty}:∀(l:List Tm) (d:List Ty),d.length+l.length<=3->(∀a∈l,eX n (g.map Af) a=some (Lq (a.ty g)))->fk (λ(f:Int) (A:Tm)=>(un9 λ(i:Int) (j:List Ty) (v218:Int) (k:Int) (o:List Ty) (q:Int) (v222:Int) (s:List Ty) (w:Int)=>
   dU (eX n (g.map Af) A) λc x=>
   if(eP x 0) then(
   some (.ret ((dN.mk (Ty.mk 0 []) 0),x)))
   else(if(eo f 0) then(
   some (.next (c.dM.ak5,c.dM.ak6,c.ak7,k,o,q,v222,s,w)))
   else(if(eo f 1) then(
   some (.next (i,j,v218,c.dM.ak5,c.dM.ak6,c.ak7,v222,s,w)))
   else(gB (eo f 2)<|some (.next (i,j,v218,k,o,q,c.dM.ak5,c.dM.ak6,c.ak7)))))):Int->Tm->(Int×(List Ty)×Int×Int×(List Ty)×Int×Int×(List Ty)×Int)->(Option (gm (Int×(List Ty)×Int×Int×(List Ty)×Int×Int×(List Ty)×Int) (dN×Int)))) l d.length (st9 (tr d))=some (match Tm.vN l g with|.inl ts=>.inl (st9 (tr (d++ts)))|.inr e=>.inr (UB,e))
 |[],d,_,_=>by simp[Tm.vN]|a::l,d,B,h=>by
  simp only[mz] at B;rw[gf,Tm.vN];have D:=h a aa2;simp only[st9,un9];rw[D]
  by_cases y:(a.ty g).2=0
  ·rw[zR y,p2 rfl,tF,dQ,dK aak];generalize (a.ty g).1=t
   have go:∀C:List Ty,C=d++[t]->(some (gm.next (st9 (tr C))):Option (gm (Int×(List Ty)×Int×Int×(List Ty)×Int×Int×(List Ty)×Int) (dN×Int)))=some (gm.next (st9 (tr (d++[t])))):=λC e=>by rw[e]
   have ih:=GH l (d++[t]) acx (λb F=>h b (by simp[F]));rw[ni,mz,B4] at ih
   have fin:(some (match Tm.vN l g with|.inl ts=>.inl (st9 (tr (d++[t]++ts)))|.inr e=>.inr (UB,e)):Option ((Int×(List Ty)×Int×Int×(List Ty)×Int×Int×(List Ty)×Int)⊕(dN×Int)))=some (match(match Tm.vN l g with|.inl ts=>Sum.inl (t::ts)|.inr e=>Sum.inr e:List Ty⊕Int)with|.inl ts=>.inl (st9 (tr (d++ts)))|.inr e=>.inr (UB,e)):=by
    cases Tm.vN l g with
    |inl ts=>simp|inr e=>rfl
   match d,B with
   |[],_=>
    rw[dR ac8];exact ih.trans fin
   |[u],_=>
    rw[dK aa2,dR ac8];exact ih.trans fin
   |[u,v],_=>
    rw[dK aa2,dK aa2,show eo (([u,v].length:Nat):Int) 2=true from rfl,ec];exact ih.trans fin
   |_::_::_::_,B=>simp at B;omega
  ·rw[qc y];generalize a.ty g=r at y;obtain⟨t,e⟩:=r;simp only at y;rw[nF y,dQ,dR (by simpa[eP] using y)];rfl
def aaV(p:dN×dN×dN):((dN.mk (Ty.mk p.1.dM.ak5 p.1.dM.ak6) p.1.ak7),(dN.mk (Ty.mk p.2.1.dM.ak5 p.2.1.dM.ak6) p.2.1.ak7),(dN.mk (Ty.mk p.2.2.dM.ak5 p.2.2.dM.ak6) p.2.2.ak7))=p:=by
 have e:∀t:Ty,Ty.mk t.ak5 t.ak6=t:=λt=>by cases t;rfl
 obtain⟨⟨a,b⟩,⟨c,d⟩,⟨h,f⟩⟩:=p;simp only[e]
def k9{n:Nat}{g:List Ty}{k i:Int}{s:Ty}{l:List Tm}(q:k≠1)(r:k≠2)(t:l.length<=3)(h:∀a∈l,eX n (g.map Af) a=some (Lq (a.ty g)))
  (hn:∀ts,Tm.vN l g=.inl ts->gn (.mk k i s l) (tr ts)=some (Lq (ib k s ts))):eX (n+1) (g.map Af) (.mk k i s l)=some (Lq ((Tm.mk k i s l).ty g)):=by
 rw[eX,dK (by simpa[eo] using q),dK (by simpa[eo] using r),Tm.mW,dK q,dK r];simp only[eg,Tm.eH];rw[et VW,ec];have f:=GH l [] (by simpa using t) h;refine(congrArg (λo=>dH o _) f).trans ?_;simp only[dI];cases j:Tm.vN l g with
 |inr e=>
  rw[QQ]
  have he:e≠0:=by
   rcases BV l g with⟨u,d,c⟩|⟨ts,d,_⟩
   ·rw[j] at c;cases c;exact d
   ·rw[j] at d;cases d
  rw[nF he];rfl
 |inl ts=>
  simp only[nT,eB,ox,st9,un9];rw[aaV,hn ts j,show∀p:dN×Int,(dU (some p) λa b=>some (a,b))=some p fromλ_=>rfl]
end Go.fD
namespace Go.fD
open Go
def JC(g:List Ty)(s:Ty):g.map Af++[Af s]=(g++[s]).map Af:=aa2
def FO:∀(n:Nat) (t:Tm),t.ak7<=n->t.ok=true->∀g,iT g->g.length+t.ak7<=1000000->eX n (g.map Af) t=some (Lq (t.ty g)):=by
 intro n
 induction n with
 |zero=>intro t h;have:=t.eM;omega
 |succ n ih=>
  intro t hn C
  have one:∀{a:Tm} {g:List Ty} {ts:List Ty},a.ok=true->iT g->Tm.vN [a] g=.inl ts->∃x,ts=[x]/\x.err=0:=by
   intro a g ts j hg h;rcases Ev j hg with⟨e,_,u⟩|⟨x,u,f⟩<;>rw[h] at u<;>cases u;exact⟨x,rfl,f⟩
  have two:∀{a b:Tm} {g:List Ty} {ts:List Ty},a.ok=true->b.ok=true->iT g->Tm.vN [a,b] g=.inl ts->∃x y,ts=[x,y]/\x.err=0/\y.err=0:=by
   intro a b g ts j k hg h;rcases Eg j k hg with⟨e,_,u⟩|⟨x,y,u,f,l⟩<;>rw[h] at u<;>cases u;exact⟨x,y,rfl,f,l⟩
  have three:∀{a b c:Tm} {g:List Ty} {ts:List Ty},a.ok=true->b.ok=true->c.ok=true->iT g->Tm.vN [a,b,c] g=.inl ts->∃x y z,ts=[x,y,z]/\x.err=0/\y.err=0/\z.err=0:=by
   intro a b c g ts j k o hg h;rcases DG j k o hg with⟨e,_,u⟩|⟨x,y,z,u,f,l,v⟩<;>rw[h] at u<;>cases u;exact⟨x,y,z,rfl,f,l,v⟩
  refine Tm.qS (p:=λt=>t.ak7<=n+1->∀g,iT g->g.length+t.ak7<=1000000->eX (n+1) (g.map Af) t=some (Lq (t.ty g))) ?_ ?_ ?_ ?_ ?_ ?_ ?_ ?_ ?_ ?_ ?_ ?_ ?_ t C hn
  ·intro i _ g hg k;rw[Tm.dP] at k;rw[eX,dR ac8,Tm.mW,dR rfl];simp only[Tm.iC,fM,Dh]
   by_cases hi:(i:Int)<(g.length:Int)
   ·rw[dK (by simp only[jk];omega),dR hi];rw[fT (a:=(g.length:Int)) VW VW,fT VW VW]
    have w:g.length-1-i<g.length:=VW
    have:dW (g.map Af) ((g.length:Int)-1-(i:Int))=some (Af g[g.length-1-i]):=by
     unfold dW;rw[dR VW,show((g.length:Int)-1-(i:Int)).toNat=g.length-1-i by omega,yZ,o9 w];rfl
    rw[this];simp only[dI,DS];rw[Aq,o9 w];exact congrArg some (tF _).symm
   ·rw[dR (by simp only[jk];omega),dK hi,nF aak];rfl
  ·intro s b hs k hn g hg d;rw[Tm.dP] at hn d;simp only[ei] at hn d;rw[eX,dK aa2,dR ac8,Tm.mW,dK aak,dR rfl,Tm.tyH];simp only[Tm.fK,Tm.eH,mP hs,eW,lN,dI,ij];rw[fg acx,ec,JC,ih b VW k (g++[s]) (hg.app hs) acx];have B:=λh=>(qE _ b (gY _) k (g++[s]) (hg.app hs) (b.ty (g++[s])).1 (zR h)).2;generalize b.ty (g++[s])=q at B;obtain⟨r,e⟩:=q;simp only[O8]
   by_cases A:e=0
   ·subst A;have D:r.err=0:=B rfl;have F:=fc hs;have G:=fc D;rw[tF,dQ,dK aak,dK aa2,At 4 VW VW]
    by_cases o:64<1+s.ak7+r.ak7
    ·rw[dR o,dR o,nF aak];rfl
    ·rw[dK o,dK o,tF];rfl
   ·rw[nF A,dQ,dR (by simpa[eP] using A),dR A,nF A];rfl
  ·intro a b j k hn g hg d;rw[Tm.dP] at hn d;simp only[ei] at hn d;refine k9 aak aak aa2 (by intro x f;simp at f;rcases f with rfl|rfl<;>first|exact ih _ VW j g hg VW|exact ih _ VW k g hg VW) (λts h=>?_);obtain⟨x,y,rfl,f,l⟩:=two j k hg h;exact Vp f l
  ·intro hn g hg d;exact k9 aak aak aa2 aa2 (λts h=>by rw[Tm.vN] at h;cases h;exact TS)
  ·intro a j hn g hg d;rw[Tm.dP] at hn d;simp only[ei] at hn d;refine k9 aak aak aa2 (by intro x f;simp at f;subst f;exact ih _ VW j g hg VW) (λts h=>?_);obtain⟨x,rfl,f⟩:=one j hg h;exact S2 f
  ·intro s a b c hs j k o hn g hg d;rw[Tm.dP] at hn d;simp only[ei] at hn d;refine k9 aak aak aa2 (by intro x f;simp at f;rcases f with rfl|rfl|rfl<;>first|exact ih _ VW j g hg VW|exact ih _ VW k g hg VW|exact ih _ VW o g hg VW) (λts h=>?_);obtain⟨x,y,z,rfl,f,l,v⟩:=three j k o hg h;exact W8 hs f l v
  ·intro hn g hg d;exact k9 aak aak aa2 aa2 (λts h=>by rw[Tm.vN] at h;cases h;exact Vu)
  ·intro a b j k hn g hg d;rw[Tm.dP] at hn d;simp only[ei] at hn d;refine k9 aak aak aa2 (by intro x f;simp at f;rcases f with rfl|rfl<;>first|exact ih _ VW j g hg VW|exact ih _ VW k g hg VW) (λts h=>?_);obtain⟨x,y,rfl,f,l⟩:=two j k hg h;exact T6 f l
  ·intro s a b c hs j k o hn g hg d;rw[Tm.dP] at hn d;simp only[ei] at hn d;refine k9 aak aak aa2 (by intro x f;simp at f;rcases f with rfl|rfl|rfl<;>first|exact ih _ VW j g hg VW|exact ih _ VW k g hg VW|exact ih _ VW o g hg VW) (λts h=>?_);obtain⟨x,y,z,rfl,f,l,v⟩:=three j k o hg h;exact S9 hs f l v
  ·intro a b j k hn g hg d;rw[Tm.dP] at hn d;simp only[ei] at hn d;refine k9 aak aak aa2 (by intro x f;simp at f;rcases f with rfl|rfl<;>first|exact ih _ VW j g hg VW|exact ih _ VW k g hg VW) (λts h=>?_);obtain⟨x,y,rfl,f,l⟩:=two j k hg h;exact alc f l
  ·intro a j hn g hg d;rw[Tm.dP] at hn d;simp only[ei] at hn d;refine k9 aak aak aa2 (by intro x f;simp at f;subst f;exact ih _ VW j g hg VW) (λts h=>?_);obtain⟨x,rfl,f⟩:=one j hg h;exact Xm f
  ·intro a j hn g hg d;rw[Tm.dP] at hn d;simp only[ei] at hn d;refine k9 aak aak aa2 (by intro x f;simp at f;subst f;exact ih _ VW j g hg VW) (λts h=>?_);obtain⟨x,rfl,f⟩:=one j hg h;exact VL f
  ·intro hn g hg d;exact k9 aak aak aa2 aa2 (λts h=>by rw[Tm.vN] at h;cases h;exact TY)
def F3{t:Tm}{g:List Ty}(a:t.ok=true)(hg:iT g)(b:g.length+t.ak7<=1000000):eX FU (g.map Af) t=some (Lq (t.ty g)):=
 FO FU t (by have:=fB;omega) a g hg b
noncomputable def qJ (t:Tm) (g:List Ty) (k:Int):Int:=if(t.ty g).2=0/\(t.ty g).1.ak5≠k then 7 else(t.ty g).2
mutual
noncomputable def Fm.x9:Fm->List Ty->Int
 |.mk k s ts l,g=>if fy (ts.map λt=>qJ t g 1)=0 then Fm.XU l (if j4 k then g++[s] else g)else fy (ts.map λt=>qJ t g 1)
noncomputable def Fm.XU:List Fm->List Ty->Int
 |[],_=>0|f::l,g=>if f.x9 g=0 then Fm.XU l g else f.x9 g
end
def Fm.R1(g:List Ty):∀l:List Fm,Fm.XU l g=fy (l.map λf=>f.x9 g)
 |[]=>by rw[Fm.XU];rfl|f::l=>by rw[Fm.XU,Fm.R1 g l];rfl
def Fm.zu(k:Int)(s:Ty)(ts:List Tm)(l:List Fm)(g:List Ty):(Fm.mk k s ts l).x9 g=if fy (ts.map λt=>qJ t g 1)=0 then fy (l.map λf=>f.x9 (if j4 k then g++[s] else g))else fy (ts.map λt=>qJ t g 1):=by
 rw[Fm.x9,Fm.R1]
def A6{t:Tm}{g:List Ty}(a:t.ok=true)(hn:t.ak7<=4096)(hg:iT g)(b:g.length<=900000):pC g t=some (t.ty g):=by
 unfold pC;have hw:=t.jr a;rw[k8 VW]
 have he:t.err=0:=by unfold Tm.err;rw[dR a,dK VW]
 rw[he];simp only[dI];rw[dK aak,Be FU t (by have:=fB;omega) a g hg VW];rfl
def LI{t:Tm}{g:List Ty}(f:t.ok=true)(hn:t.ak7<=4096)(hg:iT g)(i:g.length<=900000):(dU (pC g t) λd a=>if(eP a 0) then(some (.ret a))else(if(eP d.ak5 1) then(some (.ret 7))else(some (.next ()))):Option (gm Unit Int))=
   if qJ t g 1≠0 then some (.ret (qJ t g 1))else some (.next ()):=by
 rw[A6 f hn hg i];unfold qJ;generalize t.ty g=q;obtain⟨r,e⟩:=q;simp only[dQ,ez]
 by_cases b:e=0
 ·subst b
  by_cases c:r.ak5=1
  ·rw[dK aa2,dK (by simp[c]),dK (show¬((0:Int)=0/\r.ak5≠1)fromλh=>h.2 c),dK aa2]
  ·rw[dK aa2,dR c,dR (show(0:Int)=0/\r.ak5≠1 from⟨rfl,c⟩),dR aak]
 ·rw[dR b,dK (show¬(e=0/\r.ak5≠1)fromλh=>b h.1),dR b]
def Fs{e:Int}:(dH (some e) λa=>if(eP a 0) then(some (.ret a))else(some (.next ())):Option (gm Unit Int))=if e≠0 then some (.ret e)else some (.next ()):=by
 rw[dI]
 by_cases h:e=0
 ·subst h;rfl
 ·rw[dR (by simpa[eP] using h),dR h]
def IB{l:List Int}{k:Unit⊕Int->Option Int}(h:k=fL (λ_=>some 0) (λr=>some r)):dH (if fy l=0 then some (.inl ())else some (.inr (fy l))) k=some (fy l):=by
 subst h
 by_cases h:fy l=0
 ·rw[dR h,h];rfl
 ·rw[dK h];rfl
def A_(f:Fm)(w:f.ok=true):∀n,f.ak7<=n->∀g,iT g->g.length+f.ak7<=900000->f.ak7<=4096->mT n g f=some (f.x9 g):=by
 refine Fm.qS (p:=λf=>∀n,f.ak7<=n->∀g,iT g->g.length+f.ak7<=900000->f.ak7<=4096->mT n g f=some (f.x9 g)) ?_ ?_ ?_ f w
 ·intro a b o v n hn g hg c d;rw[Fm.dP] at hn c d;simp only[ei] at hn c d;obtain⟨n,rfl⟩:∃m,n=m+1:=⟨n-1,VW⟩;rw[mT,Fm.zu];simp only[eg,Fm.jB,Fm.eH,Fm.eL,lM,dI]
  rw[et aa2,ec,pM (λt=>qJ t g 1) [a,b] 0 (λj x i=>by
   simp only[lQ,adU,tO] at i;rcases i with rfl|rfl
   ·exact LI o VW hg VW
   ·exact LI v VW hg VW)]
  rw[show j4 1=false from rfl]
  by_cases h:fy ([a,b].map λt=>qJ t g 1)=0
  ·rw[dR h,dR h];rfl
  ·rw[dK h,dK h];rfl
 ·intro k a b q o v l r n hn g hg c d;rw[Fm.dP] at hn c d;simp only[ei] at hn c d;obtain⟨n,rfl⟩:∃m,n=m+1:=⟨n-1,VW⟩
  have u:j4 k=false:=by rcases q with rfl|rfl<;>rfl
  rw[mT,Fm.zu];simp only[eg,Fm.jB,Fm.eH,Fm.eL,lM,dI,u,ry,fy]
  rw[et aa2,ec,qL,dI,eB,dK aak,dR trivial,et aa2,ec,pM (λf=>f.x9 g) [a,b] 0 (λj x i=>by
   simp only[lQ,adU,tO] at i;rcases i with rfl|rfl
   ·rw[l n VW g hg VW VW];exact Fs
   ·rw[r n VW g hg VW VW];exact Fs)]
  exact IB rfl
 ·intro k s a q hs o l n hn g hg c d;rw[Fm.dP] at hn c d;simp only[ei] at hn c d;obtain⟨n,rfl⟩:∃m,n=m+1:=⟨n-1,VW⟩
  have u:j4 k=true:=by rcases q with rfl|rfl|rfl|rfl<;>rfl
  rw[mT,Fm.zu];simp only[eg,Fm.jB,Fm.eH,Fm.eL,Fm.fK,lM,dI,u,ry,fy];rw[et aa2,ec,qL,dI,eB];simp only[if_true]
  rw[fg acx,ec,ij,et aa2,ec,pM (λf=>f.x9 (g++[s])) [a] 0 (λj x i=>by
   simp only[lQ,adU,tO] at i;subst i
   rw[l n VW (g++[s]) (hg.app hs) acx VW];exact Fs)]
  exact IB rfl
mutual
def Fm.up(f b:Int):Fm->Fm
 |.mk k s ts l=>.mk k s (ts.map (Tm.up f b)) (Fm.Y3 (f+qB k) b l)
def Fm.Y3(f b:Int):List Fm->List Fm
 |[]=>[]|t::l=>t.up f b::Fm.Y3 f b l
end
def Fm.QV(f b:Int)(l:List Fm):Fm.Y3 f b l=l.map (Fm.up f b):=by
 induction l with
 |nil=>rfl|cons t l ih=>simp[Fm.Y3,ih]
theorem Fm.fJ(f b k:Int)(s:Ty)(ts:List Tm)(l:List Fm):(Fm.mk k s ts l).up f b=.mk k s (ts.map (Tm.up f b)) (l.map (Fm.up (f+qB k) b)):=by rw[Fm.up,Fm.QV]
mutual
def Fm.ak'(m:Int):Fm->Bool
 |.mk _ _ ts l=>ts.all (Tm.ak' m)&&Fm.vd m l
def Fm.vd(m:Int):List Fm->Bool
 |[]=>true|t::l=>t.ak' m&&Fm.vd m l
end
def Fm.FE(m:Int)(l:List Fm):Fm.vd m l=l.all (Fm.ak' m):=by
 induction l with
 |nil=>rfl|cons t l ih=>simp[Fm.vd,ih]
theorem Fm.fH(m k:Int)(s:Ty)(ts:List Tm)(l:List Fm):(Fm.mk k s ts l).ak' m=(ts.all (Tm.ak' m)&&l.all (Fm.ak' m)):=by rw[Fm.ak',Fm.FE]
mutual
def Fm.alb(a:Int):Fm->Nat
 |.mk k _ ts l=>ei (Tm.alb a) ts+Fm.yO (a+qB k) l
def Fm.yO(a:Int):List Fm->Nat
 |[]=>0|t::l=>t.alb a+Fm.yO a l
end
def Fm.FW(a:Int)(l:List Fm):Fm.yO a l=ei (Fm.alb a) l:=by
 induction l with
 |nil=>rfl|cons t l ih=>simp[Fm.yO,ei,ih]
def Fm.fF(a k:Int)(s:Ty)(ts:List Tm)(l:List Fm):(Fm.mk k s ts l).alb a=ei (Tm.alb a) ts+ei (Fm.alb (a+qB k)) l:=by rw[Fm.alb,Fm.FW]
mutual
def Fm.gJ:Int->Fm->Tm->Fm
 |n,.mk k ty ts l,s=>.mk k ty (ts.map λx=>Tm.gJ n x s) (Fm.Hv (n+qB k) l s)
def Fm.Hv:Int->List Fm->Tm->List Fm
 |_,[],_=>[]|n,t::l,s=>Fm.gJ n t s::Fm.Hv n l s
end
def Fm.MV(n:Int)(s:Tm)(l:List Fm):Fm.Hv n l s=l.map (λx=>Fm.gJ n x s):=by
 induction l with
 |nil=>rfl|cons t l ih=>simp[Fm.Hv,ih]
theorem Fm.fO(n:Int)(s:Tm)(k:Int)(ty:Ty)(ts:List Tm)(l:List Fm):Fm.gJ n (Fm.mk k ty ts l) s=.mk k ty (ts.map λx=>Tm.gJ n x s) (l.map λx=>Fm.gJ (n+qB k) x s):=by rw[Fm.gJ,Fm.MV]
def Fm.pV(t:Fm):∀a,t.alb a<=t.ak7:=by
 induction t using Fm.ind with
 |h k s ts l ih=>
  intro a;rw[Fm.fF,Fm.dP];have:=kZ (f:=Fm.alb (a+qB k)) (g:=Fm.ak7) (l:=l) λx b=>ih x b _;have:=kZ (f:=Tm.alb a) (g:=Tm.ak7) (l:=ts) λx _=>x.pV _;omega
theorem Fm.pj(t:Fm):∀f b,(t.up f b).ak7=t.ak7:=by
 induction t using Fm.ind with
 |h k s ts l ih=>
  intro f b;rw[Fm.fJ,Fm.dP,Fm.dP,mo,mo,pN λx a=>ih x a _ _,pN λx _=>Tm.pj x f b]
def Fm.XO(t:Fm):∀f b,(t.up f b).wt=t.wt:=by
 induction t using Fm.ind with
 |h k s ts l ih=>
  intro f b;rw[Fm.fJ,Fm.iA,Fm.iA,mo,mo,pN λx a=>ih x a _ _,pN λx _=>Tm.XO x f b]
theorem Fm.Pt(t:Fm):∀f b,0<=f->0<=b->(t.up f b).ok=t.ok:=by
 induction t using Fm.ind with
 |h k s ts l ih=>
  intro f b c a;have:=x0 k;rw[Fm.fJ,Fm.hH,Fm.hH,Dh,Dh,xI λx d=>ih x d (f+qB k) b VW a,xI λx _=>Tm.Pt x f b c a]
def Nj{α:Type}{a b c:α->Nat}{m:Nat}{l:List α}(h:∀x∈l,a x+b x=c x+b x*m):ei a l+ei b l=ei c l+ei b l*m:=by
 induction l with
 |nil=>simp[ei]|cons y l ih=>
  have f:=h y aa2;have i:=ih λx d=>h x (by simp[d]);simp only[ei,C9];omega
def Fm.BS(s:Tm)(t:Fm):∀n,t.ok=true->(Fm.gJ n t s).ak7+t.alb n=t.ak7+t.alb n*s.ak7:=by
 induction t using Fm.ind with
 |h k ty ts l ih=>
  intro n d;rw[Fm.hH] at d;simp only[hD,k_] at d;rw[Fm.fO,Fm.fF,Fm.dP,Fm.dP,mo,mo,C9];have i:=Nj (l:=ts) (a:=λx=>(Tm.gJ n x s).ak7) (b:=Tm.alb n) (c:=Tm.ak7) (m:=s.ak7) λx f=>Tm.BS s x n (d.1.2 x f);have j:=Nj (l:=l) (a:=λx=>(Fm.gJ (n+qB k) x s).ak7) (b:=Fm.alb (n+qB k)) (c:=Fm.ak7) (m:=s.ak7) λx f=>ih x f _ (d.2 x f);omega
def Fm.NN{g:Fm->Fm}{k:Int}{s:Ty}{ts us:List Tm}{l:List Fm}(h:∀x∈l,(g x).has=x.has):(Fm.mk k s us (l.map g)).has=(Fm.mk k s ts l).has:=by
 rw[Fm.has,Fm.has]
 have a:Fm.Df (l.map g)=Fm.Df l:=by
  induction l with
  |nil=>rfl|cons x l ih=>simp only[oe,Fm.Df,h x aa2,ih λy b=>h y (by simp[b])]
 have c:Fm.lT (l.map g)=Fm.lT l:=by
  clear a
  induction l with
  |nil=>rfl|cons x l ih=>
   cases l with
   |nil=>simp[Fm.lT,h x aa2]|cons y l=>simpa[Fm.lT] using ih λz d=>h z (by simp[d])
 rw[a,c]
def Fm.Sv{g:Fm->Fm}{k:Int}{s:Ty}{ts us:List Tm}{l:List Fm}(h:∀x∈l,(g x).ct=x.ct):(Fm.mk k s us (l.map g)).ct=(Fm.mk k s ts l).ct:=by
 rw[Fm.ct,Fm.ct]
 have a:Fm.LC (l.map g)=Fm.LC l:=by cases l with|nil=>rfl|cons x l=>simp[Fm.LC,h x aa2]
 have b:Fm.Gy (l.map g)=Fm.Gy l:=by
  clear a
  induction l with
  |nil=>rfl|cons x l ih=>
   cases l with
   |nil=>simp[Fm.Gy,h x aa2]|cons y l=>simpa[Fm.Gy] using ih λz c=>h z (by simp[c])
 rw[a,b]
def Fm.R7(t:Fm):∀f b,(t.up f b).ct=t.ct/\(t.up f b).has=t.has:=by
 induction t using Fm.ind with
 |h k s ts l ih=>intro f b;rw[Fm.fJ];exact⟨Fm.Sv λx a=>(ih x a _ _).1,Fm.NN λx a=>(ih x a _ _).2⟩
def Fm.xR(s:Tm)(t:Fm):∀n,(Fm.gJ n t s).ct=t.ct/\(Fm.gJ n t s).has=t.has:=by
 induction t using Fm.ind with
 |h k ty ts l ih=>
  intro n;rw[Fm.fO];exact⟨Fm.Sv (g:=λx=>Fm.gJ (n+qB k) x s) λx a=>(ih x a _).1,Fm.NN (g:=λx=>Fm.gJ (n+qB k) x s) λx a=>(ih x a _).2⟩
def EP{t:Tm}(m:Int)(h:t.ak7<=1000000000):lh FU t m=some (t.ak' m):=Ap FU t m (by rw[fB];exact h) h
def AP:∀(n:Nat) (t:Fm) (m:Int),t.ak7<=n->t.ak7<=1000000000->oa n t m=some (t.ak' m):=by
 intro n
 induction n with
 |zero=>intro t m h;have:=t.eM;omega
 |succ n ih=>
  intro t m h c;cases t with
  |mk k s ts l=>
   rw[Fm.dP] at h c;have i:=Fm.fV l;have d:=Tm.fV ts
   have f:fk (ρ:=Bool) (λ(_:Int) (x:Tm) (_:Unit)=>dH (lh FU x m) λa=>if a then some (gm.next ())else some (gm.ret false)) ts 0 ()=if ts.all (Tm.ak' m) then some (.inl ())else some (.inr false):=by
    refine qX (Tm.ak' m) _ ts 0 ?_;intro j x b;have:=eG Tm.ak7 b;rw[EP m VW];rfl
   have k2:fk (ρ:=Bool) (λ(_:Int) (x:Fm) (_:Unit)=>dH (oa n x m) λa=>if a then some (gm.next ())else some (gm.ret false)) l 0 ()=if l.all (Fm.ak' m) then some (.inl ())else some (.inr false):=by
    refine qX (Fm.ak' m) _ l 0 ?_;intro j x b;have:=eG Fm.ak7 b;rw[ih x m VW VW];rfl
   rw[oa];simp only[Fm.eH,Fm.jB,eg,et (l:=l) VW,et (l:=ts) VW,ec,f,k2,Fm.fH];cases o:ts.all (Tm.ak' m)<;>cases q:l.all (Fm.ak' m)<;>simp
def Bm:∀(n:Nat) (t:Fm) (f b:Int),t.ak7<=n->t.ak7<=1000000000->0<=f->f+t.ak7<=10000000000->0<=b->b<=10000000000->t.ak' 1000000000000=true->iw n t f b=some (t.up f b):=by
 intro n
 induction n with
 |zero=>intro t f b h;have:=t.eM;omega
 |succ n ih=>
  intro t f b h d r i q a hi;cases t with
  |mk k s ts l=>
   rw[Fm.dP] at h d i;rw[Fm.fH] at hi;simp only[hD,k_] at hi;have w:=Fm.fV l;have u:=Tm.fV ts;have y:=x0 k;rw[iw];simp only[Fm.eH,Fm.jB,Fm.eL,Fm.fK,eg,et (l:=l) VW,et (l:=ts) VW,ec];rw[kq (Tm.up f b) ts 0 [] acx]
   ·simp only[dI,eB];rw[kq (Fm.up (f+qB k) b) l 0 [] acx]
    ·simp[Fm.fJ]
    ·intro j x v c o;have:=eG Fm.ak7 c;rw[pb];simp only[dI,Fm.eL];rw[fX VW VW,ih x (f+qB k) b VW VW VW VW q a (hi.2 x c)];simp[fg (l:=v) (m:=[x.up (f+qB k) b]) (by simpa using o)]
   ·intro j x v c o;have:=eG Tm.ak7 c;rw[GO FU x f b (by rw[fB];omega) VW r VW q a (hi.1 x c)];simp[fg (l:=v) (m:=[x.up f b]) (by simpa using o)]
def IJ:∀(n:Nat) (t:Fm) (a:Int),t.ak7<=n->t.ak7<=1000000000->0<=a->a+t.ak7<=10000000000->pX n t a=some (t.alb a:Int):=by
 intro n
 induction n with
 |zero=>intro t a h;have:=t.eM;omega
 |succ n ih=>
  intro t a h c o d;cases t with
  |mk k s ts l=>
   rw[Fm.dP] at h c d;have w:=Fm.fV l;have q:=Tm.fV ts;have A:=x0 k;have r:ei (Fm.alb (a+qB k)) l<=ei Fm.ak7 l:=kZ λx _=>x.pV _;have i:ei (Tm.alb a) ts<=ei Tm.ak7 ts:=kZ λx _=>x.pV _;rw[pX];simp only[Fm.eH,Fm.jB,Fm.eL,eg,et (l:=l) VW,et (l:=ts) VW,ec]
   have u:=pL (ρ:=Int) (F:=λ(_:Int) (x:Tm) (v:Int)=>dH (m0 FU x a) λy=>some (gm.next (eS .i64 v y))) (Tm.alb a) ts 0 0 VW (by
    intro j x v f;have:=eG Tm.ak7 f;rw[Bq FU x a (by rw[fB];omega) VW o VW]
    rfl)
   have k2:=pL (ρ:=Int) (F:=λ(_:Int) (x:Fm) (v:Int)=>dH (m8 (Fm.mk k s ts l)) λb=>dH (pX n x (eS .i64 a b)) λy=>some (gm.next (eS .i64 v y))) (Fm.alb (a+qB k)) l 0 (0+ei (Tm.alb a) ts) VW (by
    intro j x v f;have:=eG Fm.ak7 f;rw[pb];simp only[dI,Fm.eL];rw[fX VW VW,ih x _ VW VW VW VW]
    rfl)
   rw[show(0:Int)=((0:Nat):Int)from rfl,u];simp only[dI,eB];rw[k2];simp[Fm.fF]
def NW:∀(n:Nat) (t:Fm) (a b:Int) (s:Tm),t.ak7<=n->t.ak7<=1000000000->0<=a->0<=b->a+b+t.ak7<=5000000000->t.ak' 1000000000000=true->t.ok=true->s.ak7<=1000000000->s.ak' 1000000000000=true->yx n t a b s=some (Fm.gJ (a+b) t s):=by
 intro n
 induction n with
 |zero=>intro t a b s h;have:=t.eM;omega
 |succ n ih=>
  intro t a b s h i r u o hi c hs f;cases t with
  |mk k ty ts l=>
   rw[Fm.dP] at h i o;rw[Fm.fH] at hi;rw[Fm.hH] at c;simp only[hD,k_] at hi c;have y:=Fm.fV l;have w:=Tm.fV ts;have A:=x0 k;rw[yx];simp only[Fm.eH,Fm.jB,Fm.eL,Fm.fK,eg,et (l:=l) VW,et (l:=ts) VW,ec];rw[kq (λx=>Tm.gJ (a+b) x s) ts 0 [] acx]
   ·simp only[dI,eB];rw[kq (λx=>Fm.gJ (a+b+qB k) x s) l 0 [] acx]
    ·simp[Fm.fO]
    ·intro j x v d q;have:=eG Fm.ak7 d;rw[pb];simp only[dI,Fm.eL];rw[fX VW VW,ih x a (b+qB k) s VW VW r VW VW (hi.2 x d) (c.2 x d) hs f];rw[show a+(b+qB k)=a+b+qB k by omega];simp[fg (l:=v) (m:=[Fm.gJ (a+b+qB k) x s]) (by simpa using q)]
   ·intro j x v d q;have:=eG Tm.ak7 d;rw[GM FU x a b s (by rw[fB];omega) VW r u VW (hi.1 x d) (c.1.2 x d) hs f];simp[fg (l:=v) (m:=[Tm.gJ (a+b) x s]) (by simpa using q)]
def Fm.ml(t:Fm):∀{m n:Int},m<=n->t.ak' m=true->t.ak' n=true:=by
 induction t using Fm.ind with
 |h k s ts l ih=>
  intro m n a h;rw[Fm.fH] at*;simp only[hD,k_] at*;exact⟨λx b=>Tm.ml x a (h.1 x b),λx b=>ih x b a (h.2 x b)⟩
def CO{f:Fm}{a b:Int}(hw:f.wt<=1000000000)(he:f.err=0)(d:0<=a)(h:a<=4096)(i:0<=b)(j:b<=4096)(c:f.ak' 536870912=true):oF f a b=some (f.up a b,0):=by
 have hn:=f.ik;unfold oF;rw[iV hw,he];simp only[dI,ez,ne_eq,PC,iU,eg,j3,iD];rw[dK VW,dK VW,dK VW,dK VW,AP FU f _ (by rw[fB];omega) VW,c];simp only[dI,LO,oz,iU];rw[Bm FU f a b (by rw[fB];omega) VW d VW i VW (Fm.ml f VW c)];simp only[dI];rw[rQ (by rw[Fm.XO];exact hw)];rfl
def iQ.ak'{g:List Ty}{f:Fm}(h:iQ g f):∀m:Int,((g.length+f.ak7:Nat):Int)<=m->f.ak' m=true:=by
 induction h with
 |eq c d=>
  intro m hm;simp only[Fm.dP,ei] at hm;simp only[Fm.fH,Nx,acO,abh,hD];exact⟨c.ak' m VW,d.ak' m VW⟩
 |two _ _ _ a b=>
  intro m hm;simp only[Fm.dP,ei] at hm;simp only[Fm.fH,Nx,acO,abh,hD,Ht];exact⟨a m VW,b m VW⟩
 |q _ _ _ ih=>
  intro m hm;simp only[Fm.dP,ei] at hm;simp only[Fm.fH,Nx,acO,abh,Ht];exact ih m acx
def Tm.KH(φ:Int->Int->Tm)(b:Int):Tm->Tm
 |.mk k i s l=>if k=1 then φ i b else .mk k i s (l.attach.map λx=>Tm.KH φ (b+fE k) x.1)
decreasing_by
 have:=adr x.2;simp only[Tm.mk.sizeOf_spec];omega
def Tm.JB(φ:Int->Int->Tm)(b k i:Int)(s:Ty)(l:List Tm):(Tm.mk k i s l).KH φ b=if k=1 then φ i b else .mk k i s (l.map (Tm.KH φ (b+fE k))):=by
 rw[Tm.KH]
 congr 2
 exact agI
def Xg(k b:Int)(a:-1000000000000<=b)(c:b<=1000000000000):fv (eo k 2) (eS .i64 b 1) b=b+fE k:=by
 unfold fE
 by_cases h:k=2
 ·subst h;rw[show eo 2 2=true from rfl,dR rfl];exact fX VW VW
 ·rw[show eo k 2=false by simpa[eo] using h,dK h];show b=b+0;omega
def Eu{h:Int->Int->Option Tm}{φ:Int->Int->Tm}{M:Int}(D:∀i b,0<=i->i<=M->0<=b->b<=10000000000->h i b=some (φ i b)):∀(n:Nat) (t:Tm) (b:Int),t.ak7<=n->t.ak7<=50000000->t.ok=true->t.ak' M=true->0<=b->b+t.ak7<=10000000000->ll n t b (λ(s:Unit) (q:Int) (r:Int)=>yt (h q r) s) ()=some (t.KH φ b,()):=by
 intro n
 induction n with
 |zero=>intro t b h;have:=t.eM;omega
 |succ n ih=>
  intro t b hn F w x G y;cases t with
  |mk k i s l=>
   rw[Tm.dP] at hn F y;have hlen:=Tm.fV l;have f:=w;rw[Tm.hH,hD] at w;have H:=Ty.Ko w.1;rw[Tm.fH,hD,adC,k_] at x;rw[ll,Tm.JB]
   by_cases A:k=1
   ·subst A;have hi:=(Tm.tB f).2.1;rw[dR ac8,dR rfl];simp only[Tm.iC];rw[D i b hi x.1 G VW,GZ,dQ]
   ·rw[dK (by simpa[eo] using A),dK A];simp only[Tm.fK,Tm.eH,Tm.eL,Tm.iC,eg];rw[xM VW,dI,et VW,ec,Xg k b VW VW];have I:=jl k
    have loop:∀(ts:List Tm) (j:Nat) (v:List Tm),(∀t∈ts,t∈l)->v.length+ts.length<=50000000->fk (λ(J:Int) (B:Tm)=>(xm λ(a:List Tm) (v107:Unit)=>
       dU (ll n B (b+fE k) (λ(s:Unit) (q:Int) (r:Int)=>yt (h q r) s) v107) λc o=>
       gB (fI a [c])<|some ((.next ((fR a [c]),o)):gm ((List Tm)×Unit) (Tm×Unit)))) ts j (v,())=some (.inl (v++ts.map (Tm.KH φ (b+fE k)),())):=by
     intro ts
     induction ts with
     |nil=>intro j v _ _;simp|cons t ts C=>
      intro j v hm K;simp only[mz] at K;have d:=hm t aa2;have L:=eG Tm.ak7 d;rw[gf];simp only[xm];rw[ih t (b+fE k) VW VW ((Tm.tB f).2.2.2.1 t d) (x.2 t d) VW VW,dQ,fg acx,ec];simp only[dI,fh];rw[ij];have:=C (j+1) (v++[t.KH φ (b+fE k)]) (λu hu=>hm u (by simp[hu])) acx;rw[this];simp
    rw[loop l 0 [] (λt h=>h) acx,dI];simp
structure Bd (t:Tm):Prop where
 ok:t.ok=true
 ak':t.ak' 1000000000000=true
 ak7:t.ak7<=50000000
def Tm.P8(f c:Int)(q:0<=f):∀(t:Tm) (b:Int),0<=b->t.ok=true->t.KH (λi b=>.mk 1 (if f<=i-b then i+c else i) (.mk 0 []) []) b=t.up (f+b) c:=by
 intro t
 induction t using Tm.ind with
 |h k i s l ih=>
  intro b r a;have hi:=Tm.tB a;rw[Tm.JB,Tm.fJ]
  by_cases d:k=1
  ·subst d;rw[dR rfl]
   have n:l=[]:=by
    have:=hi.2.2.2.2;unfold gU at this;rw[dR (.inl rfl)] at this;exact B_ VW
   have hs:s=.mk 0 []:=by
    rw[Tm.hH] at a;simp only[Tm.node,hD] at a;have:=a.1.2;rw[dK aak] at this;exact(Ty.mI s).1 this
   subst n;subst hs;simp only[ry,AK]
   congr 1
   by_cases h:f+b<=i
   ·rw[dR h,dR VW]
   ·rw[dK h,dK VW]
  ·rw[dK d,dK (λh=>d h.1)];have o:=jl k
   congr 1
   exact tQ λx j=>by rw[ih x j (b+fE k) VW (hi.2.2.2.1 x j),show f+(b+fE k)=f+b+fE k by omega]
def ML{t:Tm}{f c:Int}(h:Bd t)(d:0<=f)(j:f<=10000000000)(q:0<=c)(k:c<=10000000000):vT t f c=some (t.up f c):=by
 unfold vT sn;rw[Eu (h:=λl n=>uq l n f c) (φ:=λi b=>.mk 1 (if f<=i-b then i+c else i) (.mk 0 []) []) (M:=1000000000000) (λi b r s u v=>?_) FU t 0 (by have:=fB;have:=h.ak7;omega) h.ak7 h.ok h.ak' VW (by have:=h.ak7;omega)]
 ·rw[dQ,dQ,Tm.P8 f c d t 0 VW h.ok,show f+0=f by omega]
 ·unfold uq oI;simp only[dI];rw[fT VW VW,fX VW VW]
  by_cases a:f<=i-b
  ·rw[dR a,show pd (i-b) f=true by rw[jk];exact a];rfl
  ·rw[dK a,show pd (i-b) f=false by
    cases o:pd (i-b) f with
    |false=>rfl|true=>exact absurd ((jk _ _).1 o) a];rfl
def C7(k:Int):mE k=some (j4 k):=by
 unfold mE j4;rw[vz];simp only[pd,Yr,B9];rw[<-Bool.decide_and];exact Hj.2 (by simp only[adC];omega)
def Fm.wY{k:Int}{s:Ty}{ts:List Tm}{l:List Fm}(h:(Fm.mk k s ts l).ok=true):s.ak7<=64/\(∀t∈ts,t.ok=true)/\(∀f∈l,f.ok=true):=by
 rw[Fm.hH] at h;simp only[hD,k_] at h;refine⟨?_,h.1.2,h.2⟩;have hn:=h.1.1;unfold Fm.node at hn
 split at hn
 ·simp only[hD] at hn;rw[(Ty.mI s).1 hn.1.1,Ty.dP];simp[ei]
 ·split at hn
  ·simp only[hD] at hn;rw[(Ty.mI s).1 hn.1.1,Ty.dP];simp[ei]
  ·simp only[hD,oy] at hn;exact fc hn.1.1.2
def Fm.KH(ψ:Tm->Int->Tm)(b:Int):Fm->Fm
 |.mk k s ts l=>.mk k s (ts.map λt=>ψ t b) (l.attach.map λx=>Fm.KH ψ (b+qB k) x.1)
decreasing_by
 have:=adr x.2;simp only[Fm.mk.sizeOf_spec];omega
def Fm.JB(ψ:Tm->Int->Tm)(b k:Int)(s:Ty)(ts:List Tm)(l:List Fm):(Fm.mk k s ts l).KH ψ b=.mk k s (ts.map λt=>ψ t b) (l.map (Fm.KH ψ (b+qB k))):=by
 rw[Fm.KH]
 congr 1
 exact agI
def yL{h:Tm->Int->Option Tm}{ψ:Tm->Int->Tm}(P:∀t b,Bd t->0<=b->b<=1000000000->h t b=some (ψ t b)):∀(n:Nat) (f:Fm) (b:Int),f.ak7<=n->f.ak7<=50000000->f.ok=true->f.ak' 1000000000000=true->0<=b->b+f.ak7<=1000000000->gW n f b (λ(s:Unit) (A:Tm) (B:Int)=>yt (h A B) s) ()=some (f.KH ψ b,()):=by
 intro n
 induction n with
 |zero=>intro f b h;have:=f.eM;omega
 |succ n ih=>
  intro f b hn Q R G S H;cases f with
  |mk k s ts l=>
   rw[Fm.dP] at hn Q H;have T:=jh Tm.ak7 ts λt _=>t.eM;have U:=jh Fm.ak7 l λt _=>t.eM;obtain⟨V,I,J⟩:=Fm.wY R;rw[Fm.fH,hD,k_,k_] at G;rw[gW,Fm.JB];simp only[Fm.fK,Fm.eH,Fm.eL,Fm.jB,eg];rw[xM VW,dI,et VW,ec];have W:=x0 k
   have w:∀(us:List Tm) (j:Nat) (v:List Tm),(∀t∈us,t∈ts)->v.length+us.length<=50000000->fk (λ(X:Int) (K:Tm)=>(xm λ(v91:List Tm) (L:Unit)=>
      dU (yt (h K b) L) λq C=>
      gB (fI v91 [q])<|some ((.next ((fR v91 [q]),C)):gm ((List Tm)×Unit) (Fm×Unit)))) us j (v,())=some (.inl (v++us.map (λt=>ψ t b),())):=by
    intro us
    induction us with
    |nil=>intro j v _ _;simp|cons t us x=>
     intro j v hm M;simp only[mz] at M;have d:=hm t aa2;have N:=eG Tm.ak7 d;rw[gf];simp only[xm];rw[P t b ⟨I t d,G.1 t d,VW⟩ S VW,GZ,dQ,fg acx,ec];simp only[dI,fh];rw[ij];have:=x (j+1) (v++[ψ t b]) (λu hu=>hm u (by simp[hu])) acx;rw[this];simp
   rw[w ts 0 [] (λt h=>h) acx,dI];simp only[eB,xm];rw[C7,dI]
   have y:∀(us:List Fm) (j:Nat) (v:List Fm),(∀t∈us,t∈l)->v.length+us.length<=50000000->fk (λ(D:Int) (i:Fm)=>(xm λ(a:List Fm) (v212:Unit)=>
      dU (gW n i (b+qB k) (λ(s:Unit) (A:Tm) (B:Int)=>yt (h A B) s) v212) λc o=>
      gB (fI a [c])<|some ((.next ((fR a [c]),o)):gm ((List Fm)×Unit) (Fm×Unit)))) us j (v,())=some (.inl (v++us.map (Fm.KH ψ (b+qB k)),())):=by
    intro us
    induction us with
    |nil=>intro j v _ _;simp|cons t us x=>
     intro j v hm M;simp only[mz] at M;have d:=hm t aa2;have N:=eG Fm.ak7 d;rw[gf];simp only[xm];rw[ih t (b+qB k) VW VW (J t d) (G.2 t d) VW VW,dQ,fg acx,ec];simp only[dI,fh];rw[ij];have:=x (j+1) (v++[t.KH ψ (b+qB k)]) (λu hu=>hm u (by simp[hu])) acx;rw[this];simp
   have fin:(gB (eV l)<|dH (fk (λ(D:Int) (i:Fm)=>(xm λ(a:List Fm) (v212:Unit)=>
      dU (gW n i (b+qB k) (λ(s:Unit) (A:Tm) (B:Int)=>yt (h A B) s) v212) λc o=>
      gB (fI a [c])<|some ((.next ((fR a [c]),o)):gm ((List Fm)×Unit) (Fm×Unit)))) l 0 ([],())) (fL (xm λ(a:List Fm) (v212:Unit)=>some ((Fm.mk k s ([]++ts.map λt=>ψ t b) a),v212)) (λr=>some r)))=some (Fm.mk k s (ts.map λt=>ψ t b) (l.map (Fm.KH ψ (b+qB k))),()):=by
    rw[et VW,ec,y l 0 [] (λt h=>h) acx,dI];simp
   by_cases F:j4 k=true
   ·rw[dR F]
    have O:b+qB k=b+1:=by unfold qB;rw[dR F]
    rw[O] at fin|-;rw[fX VW VW];exact fin
   ·rw[dK F]
    have O:b+qB k=b:=by unfold qB;rw[dK F];omega
    rw[O] at fin|-;exact fin
def Fm.P8(f c:Int):∀(g:Fm) (b:Int),g.KH (λt b=>t.up (f+b) c) b=g.up (f+b) c:=by
 intro g
 induction g using Fm.ind with
 |h k s ts l ih=>
  intro b;rw[Fm.JB,Fm.fJ]
  congr 1
  exact tQ λx a=>by rw[ih x a (b+qB k),show f+(b+qB k)=f+b+qB k by omega]
def Cb{g:Fm}{f c:Int}(d:g.ok=true)(hn:g.ak7<=50000000)(i:g.ak' 1000000000000=true)(o:0<=f)(j:f<=1000000000)(k:0<=c)(a:c<=10000000000):qb g f c=some (g.up f c):=by
 unfold qb;rw[yL (h:=λl n=>rm l n f c) (ψ:=λt b=>t.up (f+b) c) (λt b h q r=>?_) FU g 0 (by have:=fB;omega) hn d i VW VW]
 ·rw[dQ,Fm.P8 f c g 0,show f+0=f by omega]
 ·unfold rm;rw[fX VW VW,ML h VW VW k a];rfl
def Tm.adm{i:Int}{s:Ty}{l:List Tm}(a:(Tm.mk 1 i s l).ok=true):l=[]/\s=.mk 0 []:=by
 have hi:=Tm.tB a;constructor
 ·have:=hi.2.2.2.2;unfold gU at this;rw[dR (.inl rfl)] at this;exact B_ VW
 ·rw[Tm.hH] at a;simp only[Tm.node,hD] at a;have:=a.1.2;rw[dK aak] at this;exact(Ty.mI s).1 this
noncomputable def kA (f:Fm) (t:Tm):Fm×Int:=if 4096<(Fm.gJ 0 f t).ak7 then(.mk 0 (.mk 0 []) [] [],4)else(Fm.gJ 0 f t,0)
noncomputable def LP (f:Fm) (g:List Ty):Int:=if xy g≠0 then xy g else if f.err≠0 then f.err else f.x9 g
def iT.of{g:List Ty}(h:xy g=0):iT g/\g.length<=16:=by
 unfold xy at h
 split at h
 ·cases h
 ·rename_i c;refine⟨λs hs=>?_,VW⟩
  have key:∀l:List Ty,fy (l.map Ty.err)=0->∀s∈l,s.err=0:=by
   intro l
   induction l with
   |nil=>intro _ s hs;cases hs
   |cons a l ih=>
    intro h s hs;simp only[oe,fy] at h
    by_cases b:a.err=0
    ·rw[dR b] at h;rcases lQ.1 hs with rfl|hs
     ·exact b
     ·exact ih h s hs
    ·rw[dK b] at h;exact absurd h b
  exact key g h s hs
def H7{g:List Ty}(hg:iT g)(c:g.length<=1000000):n9 g=some (g.map Af):=by
 unfold n9;simp only[eg]
 rw[et VW,ec,kq Af g 0 [] acx (λj x v a b=>by
  rw[mP (hg x a),dI,fg (by simpa using b),ec,ij])]
 simp
def wL{f:Fm}{g:List Ty}(hw:f.wt<=1000000000)(c:g.length<=1000000)(h:∀t∈g,t.ak7<=1000000000):j1 g f=some (LP f g):=by
 unfold j1 kF LP;rw[tm g c h,dI]
 by_cases a:xy g=0
 ·rw[dK (by rw[ez];simpa using a),dK (by simpa using a),iV hw,dI]
  by_cases he:f.err=0
  ·obtain⟨hg,d⟩:=iT.of a;obtain⟨b,hn⟩:=Fm.ia he;rw[dK (by rw[ez];simpa using he),dK (by simpa using he),A_ f b FU (by have:=fB;omega) g hg VW hn];rfl
  ·rw[dR (by rw[ez];exact he),dR he];rfl
 ·rw[dR (by rw[ez];exact a),dR a]
def Jw{f:Fm}{s:Tm}(he:f.err=0)(b:s.err=0)(j:f.ak' 536870912=true)(c:s.ak' 536870912=true)(d:(Fm.gJ 0 f s).ok=true):xY f 0 s=some (kA f s):=by
 obtain⟨a,hn⟩:=Fm.ia he;obtain⟨h,i⟩:=Tm.ia b;have hw:=f.jr a;have n:=s.jr h;have o:=s.eM;have q:=f.pV 0;have r:=Fm.BS s f 0 a;unfold xY kA;rw[iV VW,he];simp only[dI,ez,ne_eq,PC,iU,eg,j3,iD,lU,tR];rw[dK VW,k8 VW,b,AP FU f _ (by rw[fB];omega) VW,j,EP _ VW,c];simp only[dI,PC,iU,if_true,LO,oz];rw[sF FU f (by rw[fB];omega) VW,IJ FU f 0 (by rw[fB];omega) VW VW VW,nJ FU s (by rw[fB];omega) VW];simp only[dI];rw[fT VW VW]
 have hmul:(f.alb 0:Int)*((s.ak7:Int)-1)=((f.alb 0*s.ak7:Nat):Int)-(f.alb 0:Int):=by rw[Int.mul_sub,Int.mul_one];push_cast;rfl
 have t:f.alb 0*s.ak7<=4096*4096:=WI VW i;have k:f.alb 0<=f.alb 0*s.ak7:=ahI _ VW;rw[Sd (by rw[hmul];omega) (by rw[hmul];omega),hmul,fX VW VW]
 by_cases l:4096<(Fm.gJ 0 f s).ak7
 ·rw[dR VW,dR l]
 ·rw[dK VW,dK l,NW FU f 0 0 s (by rw[fB];omega) VW VW VW VW (Fm.ml f VW j) a VW (Tm.ml s VW c)];simp only[dI,uQ];have u:=Fm.jr _ d;rw[rQ VW];rfl
end Go.fD
