/- Part of the proof of KernelRefuses: plain facts. -/
import Derived.Test.YtobcafblgapgfaaGreatDoorG1
set_option linter.all false
namespace Go.gV
open Go
@[simp] theorem gA(a b:Int):eH a b=true↔a=b:=by simp[eH]
@[simp] theorem ew(a b:Int):eW a b=true↔a≠b:=by simp[eW]
@[simp] theorem mD(a b:Int):uX a b=true↔a<b:=by simp[uX]
@[simp] theorem Dh(a b:Int):LP a b=true↔a<=b:=by simp[LP]
@[simp] theorem gW(a b:Int):pc a b=true↔b<a:=by simp[pc]
@[simp] theorem iX(a b:Int):ue a b=true↔b<=a:=by simp[ue]
@[simp] theorem mm(a b:Bool):fW a true b=(a||b):=by cases a<;>rfl
@[simp] theorem rv(a b:Bool):fW a b false=(a&&b):=by cases a<;>rfl
@[simp] theorem YU(a b:Bool):fW a b true=(!a||b):=by cases a<;>rfl
@[simp] theorem O2(a:Bool):nB a=!a:=rfl
@[simp] theorem g_{α:Type}(l m:List α):gU l m=l++m:=rfl
@[simp] theorem fV{α:Type}(l:List α):eN l=(l.length:Int):=rfl
theorem jJ{α:Type}(l:List α)(i:Nat):eI l (i:Int)=l[i]?:=by simp[eI]
@[simp] theorem eU{α:Type}(l:List α):eI l 0=l[0]?:=by simp[eI]
@[simp] theorem gu{α:Type}(l:List α):eI l 1=l[1]?:=by simp[eI]
@[simp] theorem jH{α:Type}(l:List α):eI l 2=l[2]?:=by simp[eI]
def Jm{α:Type}{l:List α}{i:Int}(b:0<=i)(c:i<l.length):∃x,eI l i=some x/\x∈l:=by
 obtain⟨k,rfl⟩:=WW b
 have a:k<l.length:=by omega
 exact⟨l[k],by rw[jJ];simp[a],Cl a⟩
def eC{α:Type}{l:List α}(h:l.length<=1000000000):fm l=true:=by unfold fm Lw;exact wh (by omega)
def fA{α:Type}{l m:List α}(h:l.length+m.length<=1000000000):gy l m=true:=by unfold gy Lw;exact wh (by omega)
def TE{b:Int}(h:b≠0):JQ b=true:=by simp[JQ,h]
def FT{n:Int}(a:-9223372036854775808<=n)(b:n<9223372036854775808):IntKind.i64.wrap n=n:=by
 rw[IntKind.wrap_i64];omega
def fu{a b:Int}(c:-9223372036854775808<=a+b)(d:a+b<9223372036854775808):fk .i64 a b=a+b:=FT c d
theorem fF{a b:Int}(c:-9223372036854775808<=a-b)(d:a-b<9223372036854775808):fG .i64 a b=a-b:=FT c d
def Ay{a b:Int}(c:-9223372036854775808<=a*b)(d:a*b<9223372036854775808):KW .i64 a b=a*b:=FT c d
section
variable{α β σ ρ:Type}
def JW{F:Int->α->σ->Option (gw σ ρ)}(I:σ->Prop)(Q:ρ->Prop):∀(l:List α) (i:Nat) (s:σ),I s->(∀k x s,l[k]?=some x->I s->(∃a,F ((i+k:Nat):Int) x s=some (.next a)/\I a)\/(∃r,F ((i+k:Nat):Int) x s=some (.ret r)/\Q r))->(∃a,fo F l i s=some (.inl a)/\I a)\/(∃r,fo F l i s=some (.inr r)/\Q r)
 |[],i,s,hs,_=>.inl ⟨s,rfl,hs⟩|x::l,i,s,hs,h=>by
  have e:=h 0 x s rfl hs;rw[FC] at e;rw[fl];rcases e with⟨s1,b,c⟩|⟨r,b,c⟩
  ·rw[b];simp only[cl,fv];refine JW I Q l (i+1) s1 c λk y a f d=>?_;have:=h (k+1) y a (by simpa using f) d;rw[show i+(k+1)=i+1+k by omega] at this;exact this
  ·rw[b];exact .inr ⟨r,rfl,c⟩
def jq{F:Int->α->List β->Option (gw (List β) ρ)}(g:α->β):∀(l:List α) (i:Nat) (v:List β),v.length+l.length<=1000000000->(∀j x v,x∈l->v.length+1<=1000000000->F j x v=some (.next (v++[g x])))->fo F l i v=some (.inl (v++l.map g))
 |[],i,v,_,_=>by simp|x::l,i,v,a,h=>by
  simp only[l5] at a;rw[fl,h i x v (by simp) (by omega)];simp only[cl,fv];rw[jq g l (i+1) (v++[g x]) (by simp;omega) λj y v hy b=>h j y v (by simp[hy]) b];simp
def ez(g:α->Nat):List α->Nat
 |[]=>0|x::l=>g x+ez g l
def eJ(g:α->Nat){l:List α}{x:α}(h:x∈l):g x<=ez g l:=by
 induction l with
 |nil=>cases h
 |cons y l a=>
  simp only[ez];rcases l7.1 h with rfl|h
  ·omega
  ·have:=a h;omega
def iA(g:α->Nat)(l:List α)(h:∀x∈l,1<=g x):l.length<=ez g l:=by
 induction l with
 |nil=>simp|cons y l a=>simp only[ez,l5];have:=h y (by simp);have:=a λx b=>h x (by simp[b]);omega
def p0{F:Int->α->Int->Option (gw Int ρ)}(g:α->Nat):∀(l:List α) (i v:Nat),v+ez g l<=4611686018427387904->(∀j x (v:Int),x∈l->F j x v=some (.next (fk .i64 v (g x))))->fo F l i (v:Int)=some (.inl ((v+ez g l:Nat):Int))
 |[],i,v,_,_=>by simp[ez]|x::l,i,v,a,h=>by
  simp only[ez] at a|-;rw[fl,h i x v (by simp),fu (by omega) (by omega)];simp only[cl,fv];have:=p0 g l (i+1) (v+g x) (by omega) λj y v hy=>h j y v (by simp[hy]);rw[show(v:Int)+(g x:Int)=((v+g x:Nat):Int) by omega,this];rw[TT]
def vp{F:Int->α->Int->Option (gw Int ρ)}(g:α->Nat)(ok:α->Bool)(r:ρ):∀(l:List α) (i v:Nat),v+ez g l<=4611686018427387904->(∀j x (v:Int),x∈l->F j x v=if ok x=true then some (.next (fk .i64 v (g x)))else some (.ret r))->fo F l i (v:Int)=if l.all ok=true then some (.inl ((v+ez g l:Nat):Int))else some (.inr r)
 |[],i,v,_,_=>by simp[ez]|x::l,i,v,b,h=>by
  simp only[ez] at b|-;rw[fl,h i x v (by simp),fu (by omega) (by omega)];cases a:ok x with
  |false=>simp[a]|true=>
   simp only[if_true,cl,fv,wu,a,AO];have:=vp g ok r l (i+1) (v+g x) (by omega) λj y v hy=>h j y v (by simp[hy]);rw[show(v:Int)+(g x:Int)=((v+g x:Nat):Int) by omega,this,TT]
def rm{F:Int->α->Unit->Option (gw Unit ρ)}(ok:α->Bool)(r:ρ):∀(l:List α) (i:Nat),(∀j x,x∈l->F j x ()=if ok x=true then some (.next ())else some (.ret r))->fo F l i ()=if l.all ok=true then some (.inl ())else some (.inr r)
 |[],i,_=>by simp|x::l,i,h=>by
  rw[fl,h i x (by simp)];cases a:ok x with
  |false=>simp[a]|true=>
   simp only[if_true,cl,fv,wu,a,AO];exact rm ok r l (i+1) λj y hy=>h j y (by simp[hy])
def fO:List Int->Int
 |[]=>0|e::l=>if e=0 then fO l else e
def lD{F:Int->α->Unit->Option (gw Unit Int)}(e:α->Int):∀(l:List α) (i:Nat),(∀j x,x∈l->F j x ()=if e x≠0 then some (.ret (e x))else some (.next ()))->fo F l i ()=if fO (l.map e)=0 then some (.inl ())else some (.inr (fO (l.map e)))
 |[],i,_=>by simp[fO]|x::l,i,h=>by
  rw[fl,h i x (by simp)]
  by_cases he:e x=0
  ·simp only[he,fO,wk,ne_eq,QP,QL,cl,fv,if_true];exact lD e l (i+1) λj y hy=>h j y (by simp[hy])
  ·simp[he,fO]
def vM(p:α->β->Bool):List α->List β->Bool
 |x::l,y::m=>p x y&&vM p l m|[],[]=>true|_,_=>false
def xB{F:Int->α->Unit->Option (gw Unit Bool)}(p:α->β->Bool)(M:List β):∀(l:List α) (i:Nat) (m:List β),m=M.drop i->l.length=m.length->(∀(k:Nat) x y,x∈l->M[k]?=some y->F (k:Int) x ()=if p x y=true then some (.next ())else some (.ret false))->fo F l i ()=if vM p l m=true then some (.inl ())else some (.inr false)
 |[],i,m,_,d,_=>by
  cases m with
  |nil=>simp[vM]|cons y m=>simp at d
 |x::l,i,m,hm,d,h=>by
  cases m with
  |nil=>simp at d
  |cons y m=>
   have c:i<M.length:=by
    rcases sV i M.length with h'|h'
    ·exact h'
    ·rw[Iz h'] at hm;cases hm
   rw[Kq c] at hm;injection hm with f g;rw[fl,h i x y (by simp) (by simp[c,f])];cases e:p x y with
   |false=>simp[vM,e]|true=>
    simp only[if_true,cl,fv,vM,e,AO];exact xB p M l (i+1) m g (by simpa using d) λk a b j n=>h k a b (by simp[j]) n
def xl(p:α->α->Bool):∀(l m:List α),(∀x∈l,∀y,p x y=true↔x=y)->(vM p l m=true↔l=m)
 |[],[],_=>by simp[vM]|[],_::_,_=>by simp[vM]|_::_,[],_=>by simp[vM]|x::l,y::m,h=>by simp[vM,h x (by simp) y,xl p l m λa b=>h a (by simp[b])]
def DV{F:σ->Option (gw σ ρ)}(I:σ->Prop)(μ:σ->Nat)(Q:σ⊕ρ->Prop)
  (h:∀s,I s->(∃a,F s=some (.next a)/\I a/\μ a<μ s)\/(∃a,F s=some (.Ki a)/\Q (.inl a))\/(∃r,F s=some (.ret r)/\Q (.inr r))):∀(n:Nat) (s:σ),I s->μ s<n->∃o,qR F n s=some o/\Q o
 |0,s,_,hn=>by omega|n+1,s,hs,hn=>by
  rw[oa];rcases h s hs with⟨a,b,c,d⟩|⟨a,b,c⟩|⟨r,b,c⟩
  ·rw[b];simp only[cl,fv];exact DV I μ Q h n a c (by omega)
  ·rw[b];exact⟨_,rfl,c⟩
  ·rw[b];exact⟨_,rfl,c⟩
def VL{n:Nat}(h:n<1000000000):n<FU:=by rw[fC];exact h
end
end Go.gV
namespace Go.gV
open Go
mutual
def Ty.acO:Ty->Nat
 |.mk _ l=>1+Ty.oC l
def Ty.oC:List Ty->Nat
 |[]=>0|t::l=>t.acO+Ty.oC l
end
def Ty.rT(l:List Ty):Ty.oC l=ez Ty.acO l:=by
 induction l with
 |nil=>rfl|cons t l a=>simp[Ty.oC,ez,a]
theorem Ty.ef(k:Int)(l:List Ty):(Ty.mk k l).acO=1+ez Ty.acO l:=by rw[Ty.acO,Ty.rT]
def Ty.eP(t:Ty):1<=t.acO:=by cases t;rw[Ty.acO];omega
def Ty.fK(l:List Ty):l.length<=ez Ty.acO l:=iA _ _ λt _=>t.eP
def Ty.want(k:Int):Option Nat:=if k=1\/k=2\/k=5 then some 0 else if k=3\/k=4 then some 2 else none
mutual
def Ty.ok:Ty->Bool
 |.mk k l=>decide (Ty.want k=some l.length)&&Ty.JR l
def Ty.JR:List Ty->Bool
 |[]=>true|t::l=>t.ok&&Ty.JR l
end
def Ty.zs(l:List Ty):Ty.JR l=l.all Ty.ok:=by
 induction l with
 |nil=>rfl|cons t l a=>simp[Ty.JR,a]
theorem Ty.ia(k:Int)(l:List Ty):(Ty.mk k l).ok=(decide (Ty.want k=some l.length)&&l.all Ty.ok):=by rw[Ty.ok,Ty.zs]
def Ty.err(t:Ty):Int:=if t.ok=true then(if 64<t.acO then 4 else 0)else 2
def Is:∀(n:Nat) (t:Ty),t.acO<=n->t.acO<=1000000000->iO n t=some t:=by
 intro n
 induction n with
 |zero=>intro t h;have:=t.eP;omega
 |succ n a=>
  intro t h b;cases t with
  |mk k l=>
   rw[Ty.ef] at h b;have e:=Ty.fK l;rw[iO];simp only[Ty.eF,Ty.eM,eA,eC (l:=l) (by omega),eo];rw[jq id l 0 [] (by simp;omega)]
   ·simp
   ·intro j x v c d;have:=eJ Ty.acO c;rw[a x (by omega) (by omega)];simp[fA (l:=v) (m:=[x]) (by simpa using d)]
def jd{t:Ty}(h:t.acO<=1000000000):iO FU t=some t:=Is FU t (by rw[fC];exact h) h
def Cz:∀(n:Nat) (t:Ty),t.acO<=n->t.acO<=1000000000->lX n t=some (if t.ok=true then((t.acO:Int),true)else(0,false)):=by
 intro n
 induction n with
 |zero=>intro t h;have:=t.eP;omega
 |succ n p=>
  intro t h q;cases t with
  |mk k l=>
   rw[Ty.ef] at h q;have u:=Ty.fK l
   have key:fo (λ(i:Int) (c:Ty) (d:Int)=>ej (lX n c) λe f=>if f=true then some (gw.next (fk .i64 d e))else some (gw.ret ((0:Int),false))) l 0 1=if l.all Ty.ok=true then some (.inl ((1+ez Ty.acO l:Nat):Int))else some (.inr (0,false)):=by
    refine vp Ty.acO Ty.ok _ l 0 1 (by omega) ?_;intro j x v r;have:=eJ Ty.acO r;rw[p x (by omega) (by omega)];cases x.ok<;>simp
   rw[lX];simp only[Ty.eF,Ty.eM,eA,eC (l:=l) (by omega),eo,key,mm,p9,gA,ew,fV,Ty.ia,Ty.ef,Ty.want]
   by_cases m:k=1\/k=2\/k=5
   ·simp only[m,if_true]
    by_cases b:l=[]
    ·subst b;simp[ez]
    ·have:¬(0=l.length):=by cases l with|nil=>exact absurd rfl b|cons a l=>simp
     have g:(l.length:Int)≠0:=by omega
     simp[this,g,b]
   ·simp only[m,QL]
    by_cases b:k=3\/k=4
    ·simp only[b,if_true]
     by_cases g:l.length=2
     ·cases o:l.all Ty.ok<;>simp[g]
     ·have o:(l.length:Int)≠2:=by omega
      have s:¬2=l.length:=by omega
      simp[o,s]
    ·simp[b]
theorem mf{t:Ty}(h:t.acO<=1000000000):jG t=some (if t.err=0 then(t.acO:Int)else 0,t.err):=by
 unfold jG Ty.err;rw[Cz FU t (by rw[fC];exact h) h];cases t.ok with
 |false=>simp|true=>
  by_cases a:64<t.acO
  ·simp[a];omega
  ·simp[a];omega
def zL{t:Ty}(h:t.acO<=1000000000):mL t=some t.err:=by
 unfold mL;rw[mf h];rfl
def Ty.ra(t:Ty):Bool:=fW (eH t.acM 0) (eH (eN t.acN) 0) false
theorem Ty.mR(t:Ty):t.ra=true↔t=.mk 0 []:=by
 cases t with
 |mk k l=>unfold Ty.ra;simp
theorem sG(t:Ty):oO t=some t.ra:=rfl
def xd(t:Ty):qg t=some t.ra:=rfl
def GQ:∀(n:Nat) (t:Ty),t.acO<=n->t.acO<=1000000000->oI n t=some t.ok:=by
 intro n
 induction n with
 |zero=>intro t h;have:=t.eP;omega
 |succ n m=>
  intro t h o;cases t with
  |mk k l=>
   rw[Ty.ef] at h o;have r:=Ty.fK l
   have key:fo (λ(f:Int) (c:Ty) (_:Unit)=>cv (oI n c) λd=>if d=true then some (gw.next ())else some (gw.ret false)) l 0 ()=if l.all Ty.ok=true then some (.inl ())else some (.inr false):=by
    refine rm Ty.ok _ l 0 ?_;intro j x p;have:=eJ Ty.acO p;rw[m x (by omega) (by omega)];rfl
   rw[oI];simp only[Ty.eF,Ty.eM,eA,eC (l:=l) (by omega),eo,key,mm,p9,gA,ew,fV,Ty.ia,Ty.want]
   by_cases g:k=1\/k=2\/k=5
   ·simp only[g,if_true]
    by_cases b:l=[]
    ·subst b;simp
    ·have:¬(0=l.length):=by cases l with|nil=>exact absurd rfl b|cons a l=>simp
     have e:(l.length:Int)≠0:=by omega
     simp[this,e,b]
   ·simp only[g,QL]
    by_cases b:k=3\/k=4
    ·simp only[b,if_true]
     by_cases e:l.length=2
     ·cases i:l.all Ty.ok<;>simp[e]
     ·have i:(l.length:Int)≠2:=by omega
      have q:¬2=l.length:=by omega
      simp[i,q]
    ·simp[b]
def Ij:∀(n:Nat) (t:Ty),t.acO<=n->t.acO<=1000000000->qq n t=some (t.acO:Int):=by
 intro n
 induction n with
 |zero=>intro t h;have:=t.eP;omega
 |succ n a=>
  intro t h b;cases t with
  |mk k l=>
   rw[Ty.ef] at h b;have d:=Ty.fK l;rw[qq];simp only[Ty.eF,eA,eC (l:=l) (by omega),eo]
   have key:=p0 (ρ:=Int) (F:=λ(j:Int) (x:Ty) (v:Int)=>cv (qq n x) λy=>some (gw.next (fk .i64 v y))) Ty.acO l 0 1 (by omega) (by
    intro j x v c;have:=eJ Ty.acO c;rw[a x (by omega) (by omega)]
    rfl)
   rw[show(1:Int)=((1:Nat):Int)from rfl,key];simp[Ty.ef]
def m8{t:Ty}(h:t.acO<=1000000000):jL t=some t.err:=by
 unfold jL Ty.err;rw[GQ FU t (by rw[fC];exact h) h,Ij FU t (by rw[fC];exact h) h];cases t.ok with
 |false=>simp|true=>by_cases a:64<t.acO<;>simp[a]<;>omega
def w_:∀(n:Nat) (a b:Ty),a.acO<=n->a.acO<=1000000000->∃r,fR n a b=some r/\(r=true↔a=b):=by
 intro n
 induction n with
 |zero=>intro t b h;have:=t.eP;omega
 |succ n q=>
  intro a b h s;cases a with
  |mk k l=>
  cases b with
  |mk k' m=>
   rw[Ty.ef] at h s;have u:=Ty.fK l;rw[fR];simp only[Ty.eF,Ty.eM,eA,eC (l:=l) (by omega),eo,mm,p9,ew,fV]
   by_cases d:k≠k'\/(l.length:Int)≠m.length
   ·rw[ee d];refine⟨false,rfl,?_⟩;simp only[tQ,TY,Ty.mk.injEq,not_and];rintro rfl rfl;simp at d
   ·rw[ea d];simp only[not_or,vE] at d;obtain⟨rfl,hlen⟩:=d
    have c:l.length=m.length:=by omega
    let p:Ty->Ty->Bool:=λx y=>(fR n x y).getD false
    have i:∀x∈l,∀y,fR n x y=some (p x y)/\(p x y=true↔x=y):=by
     intro x f y;have:=eJ Ty.acO f;obtain⟨r,o,g⟩:=q x y (by omega) (by omega)
     have e:p x y=r:=by show(fR n x y).getD false=r;rw[o];rfl
     rw[e];exact⟨o,g⟩
    have key:=xB (F:=λ(j:Int) (x:Ty) (_:Unit)=>cv (eI m j) λy=>cv (fR n x y) λz=>if z=true then some (gw.next ())else some (gw.ret false)) p m l 0 m rfl c (by
     intro k x y f hy;rw[jJ,hy];simp only[cl];rw[(i x f y).1]
     rfl)
    rw[key];have he:=xl p l m λx f y=>(i x f y).2;cases g:vM p l m with
    |false=>exact⟨false,rfl,by rw[g] at he;simpa using he⟩
    |true=>exact⟨true,rfl,by rw[g] at he;simpa using he⟩
noncomputable def Ty.kL (a b:Ty):Bool:=@decide (a=b) (Classical.propDecidable _)
theorem Ty.j3(a b:Ty):a.kL b=true↔a=b:=by unfold Ty.kL;simp
theorem jg{a b:Ty}(h:a.acO<=1000000000):fR FU a b=some (a.kL b):=by
 obtain⟨r,c,d⟩:=w_ FU a b (by rw[fC];exact h) h;rw[c]
 congr 1
 rw[CM,d,Ty.j3]
mutual
def Tm.acO:Tm->Nat
 |.mk _ _ _ l=>1+Tm.oC l
def Tm.oC:List Tm->Nat
 |[]=>0|t::l=>t.acO+Tm.oC l
end
def Tm.rT(l:List Tm):Tm.oC l=ez Tm.acO l:=by
 induction l with
 |nil=>rfl|cons t l a=>simp[Tm.oC,ez,a]
theorem Tm.ef(k i:Int)(s:Ty)(l:List Tm):(Tm.mk k i s l).acO=1+ez Tm.acO l:=by rw[Tm.acO,Tm.rT]
def Tm.eP(t:Tm):1<=t.acO:=by cases t;rw[Tm.acO];omega
def Tm.fK(l:List Tm):l.length<=ez Tm.acO l:=iA _ _ λt _=>t.eP
mutual
def Tm.wt:Tm->Nat
 |.mk _ _ s l=>1+s.acO+Tm.OJ l
def Tm.OJ:List Tm->Nat
 |[]=>0|t::l=>t.wt+Tm.OJ l
end
def Tm.Ei(l:List Tm):Tm.OJ l=ez Tm.wt l:=by
 induction l with
 |nil=>rfl|cons t l a=>simp[Tm.OJ,ez,a]
theorem Tm.fM(k i:Int)(s:Ty)(l:List Tm):(Tm.mk k i s l).wt=1+s.acO+ez Tm.wt l:=by rw[Tm.wt,Tm.Ei]
def Tm.jB(t:Tm):1<=t.wt:=by cases t;rw[Tm.wt];omega
def Tm.oz(l:List Tm):l.length<=ez Tm.wt l:=iA _ _ λt _=>t.jB
def kP{α:Type}{f g:α->Nat}{l:List α}(h:∀x∈l,f x<=g x):ez f l<=ez g l:=by
 induction l with
 |nil=>simp[ez]|cons x l a=>simp only[ez];have:=h x (by simp);have:=a λy hy=>h y (by simp[hy]);omega
def qn{α β:Type}(f:β->Nat)(g:α->β)(l:List α):ez f (l.map g)=ez (λx=>f (g x)) l:=by
 induction l with
 |nil=>rfl|cons x l a=>simp[ez,a]
def rA{α:Type}{f g:α->Nat}{l:List α}(h:∀x∈l,f x=g x):ez f l=ez g l:=by
 induction l with
 |nil=>rfl|cons x l a=>simp[ez,h x (by simp),a λy hy=>h y (by simp[hy])]
def EO{α:Type}(f:α->Nat)(l m:List α):ez f (l++m)=ez f l+ez f m:=by
 induction l with
 |nil=>simp[ez]|cons x l a=>simp[ez,a];omega
def Tm.ind{p:Tm->Prop}(h:∀k i s l,(∀t∈l,p t)->p (.mk k i s l))(t:Tm):p t:=by
 have:∀n (t:Tm),t.acO<=n->p t:=by
  intro n
  induction n with
  |zero=>intro t a;have:=t.eP;omega
  |succ n b=>
   intro t a;cases t with
   |mk k i s l=>
    rw[Tm.ef] at a;exact h k i s l λu hu=>b u (by have:=eJ Tm.acO hu;omega)
 exact this _ t (jw _)
def Tm.iS(t:Tm):t.acO<=t.wt:=by
 induction t using Tm.ind with
 |h k i s l a=>rw[Tm.ef,Tm.fM];have:=kP a;omega
def kJ(k:Int):Bool:=decide (k=2\/k=6\/k=9)
def iN(k:Int):Int:=
 if k=1\/k=4\/k=7\/k=13 then 0 else if k=2\/k=5\/k=11\/k=12 then 1 else if k=3\/k=8\/k=10 then 2 else if k=6\/k=9 then 3 else-1
def Tm.node(k i:Int)(s:Ty)(n:Nat):Bool:=
 decide ((n:Int)=iN k)&&decide (0<=i)&&(decide (k=1)||decide (i=0))&&(if kJ k=true then decide (s.err=0)else s.ra)
mutual
def Tm.ok:Tm->Bool
 |.mk k i s l=>Tm.node k i s l.length&&Tm.JR l
def Tm.JR:List Tm->Bool
 |[]=>true|t::l=>t.ok&&Tm.JR l
end
def Tm.zs(l:List Tm):Tm.JR l=l.all Tm.ok:=by
 induction l with
 |nil=>rfl|cons t l a=>simp[Tm.JR,a]
theorem Tm.ia(k i:Int)(s:Ty)(l:List Tm):(Tm.mk k i s l).ok=(Tm.node k i s l.length&&l.all Tm.ok):=by rw[Tm.ok,Tm.zs]
def Tm.err(t:Tm):Int:=if t.ok=true then(if 4096<t.acO then 4 else 0)else 2
def Ib:∀(n:Nat) (t:Tm),t.wt<=n->t.wt<=1000000000->jI n t=some t:=by
 intro n
 induction n with
 |zero=>intro t h;have:=t.jB;omega
 |succ n a=>
  intro t h b;cases t with
  |mk k i s l=>
   rw[Tm.fM] at h b;have e:=Tm.oz l;rw[jI];simp only[Tm.eF,Tm.eM,Tm.gl,Tm.ft,eA,eC (l:=l) (by omega),eo];rw[jq id l 0 [] (by simp;omega)]
   ·simp[jd (t:=s) (by omega)]
   ·intro j x v c d;have:=eJ Tm.wt c;rw[a x (by omega) (by omega)];simp[fA (l:=v) (m:=[x]) (by simpa using d)]
def nR{t:Tm}(h:t.wt<=1000000000):jI FU t=some t:=Ib FU t (by rw[fC];exact h) h
def pj(k:Int)(l:List Tm)(h:ez Tm.wt l<=1000000000):gd k l=some (Tm.mk k 0 (.mk 0 []) l):=by
 have c:=Tm.oz l;unfold gd;simp only[eA,eC (l:=l) (by omega),eo];rw[jq id l 0 [] (by simp;omega)]
 ·simp
 ·intro j x v a b;have:=eJ Tm.wt a;rw[nR (t:=x) (by omega)];simp[fA (l:=v) (m:=[x]) (by simpa using b)]
def GF(k:Int)(s:Ty)(l:List Tm)(hs:s.acO<=1000000000)(h:ez Tm.wt l<=1000000000):mj k s l=some (Tm.mk k 0 s l):=by
 unfold mj;rw[pj k l h];simp[jd hs]
def Ix(k:Int):vV k=some (iN k):=by
 unfold vV iN;simp only[mm,p9,gA]
 split<;>(try rfl)
 split<;>(try rfl)
 split<;>(try rfl)
 split<;>rfl
def oy:∀(n:Nat) (t:Tm),t.acO<=n->t.acO<=1000000000->gh n t=some (t.acO:Int):=by
 intro n
 induction n with
 |zero=>intro t h;have:=t.eP;omega
 |succ n a=>
  intro t h b;cases t with
  |mk k i s l=>
   rw[Tm.ef] at h b;have d:=Tm.fK l;rw[gh];simp only[Tm.eF,eA,eC (l:=l) (by omega),eo]
   have key:=p0 (ρ:=Int) (F:=λ(j:Int) (x:Tm) (v:Int)=>cv (gh n x) λy=>some (gw.next (fk .i64 v y))) Tm.acO l 0 1 (by omega) (by
    intro j x v c;have:=eJ Tm.acO c;rw[a x (by omega) (by omega)]
    rfl)
   rw[show(1:Int)=((1:Nat):Int)from rfl,key];simp[Tm.ef]
def zx:∀(n:Nat) (t:Tm),t.wt<=n->t.wt<=1000000000->kC n t=some t.ok:=by
 intro n
 induction n with
 |zero=>intro t h;have:=t.jB;omega
 |succ n p=>
  intro t h q;cases t with
  |mk k i s l=>
   rw[Tm.fM] at h q;have z:=Tm.oz l
   have key:fo (λ(f:Int) (a:Tm) (_:Unit)=>cv (kC n a) λb=>if b=true then some (gw.next ())else some (gw.ret false)) l 0 ()=if l.all Tm.ok=true then some (.inl ())else some (.inr false):=by
    refine rm Tm.ok _ l 0 ?_;intro j x r;have:=eJ Tm.wt r;rw[p x (by omega) (by omega)];rfl
   rw[kC]
   simp only[Tm.eF,Tm.eM,Tm.gl,Tm.ft,eA,eC (l:=l) (by omega),eo,key,mm,p9,gA,ew,mD,fV,Tm.ia,Ix,cl,m8 (t:=s) (by omega),xd]
   by_cases d:(l.length:Int)=iN k
   ·by_cases g:i<0
    ·have:¬0<=i:=by omega
     simp[d,g,Tm.node,this]
    ·have u:0<=i:=by omega
     by_cases m:k=1
     ·subst m;cases c:s.ra<;>cases e:l.all Tm.ok<;>simp_all [Tm.node,kJ]
     ·by_cases c:i=0
      ·subst c;have o:eW 0 0=false:=rfl
       by_cases e:k=2\/k=6\/k=9
       ·have v:kJ k=true:=by simp[kJ,e]
        by_cases w:s.err=0<;>cases y:l.all Tm.ok<;>simp_all [Tm.node]
       ·have v:kJ k=false:=by simp[kJ,e]
        cases w:s.ra<;>cases y:l.all Tm.ok<;>simp_all [Tm.node]
      ·have o:eW i 0=true:=by simp[c]
       simp[d,g,m,c,o,Tm.node]
   ·simp[d,Tm.node]
def ni{t:Tm}(h:t.wt<=1000000000):lU t=some t.err:=by
 have:=t.iS;unfold lU Tm.err;rw[zx FU t (by rw[fC];exact h) h,oy FU t (by rw[fC];omega) (by omega)];cases t.ok with
 |false=>simp|true=>by_cases a:4096<t.acO<;>simp[a]<;>omega
def I'(k:Int):vq k=some (if 1<=k/\k<14 then(iN k,true)else(0,false)):=by
 unfold vq;simp only[mm,p9,mD,iX]
 by_cases h:k<1\/14<=k
 ·rw[ee h,ea (by omega)]
 ·rw[ea h,ee (by omega)]
  have:k=1\/k=2\/k=3\/k=4\/k=5\/k=6\/k=7\/k=8\/k=9\/k=10\/k=11\/k=12\/k=13:=by omega
  rcases this with rfl|rfl|rfl|rfl|rfl|rfl|rfl|rfl|rfl|rfl|rfl|rfl|rfl<;>rfl
def Im(k:Int):vI k=some (kJ k):=by
 unfold vI kJ
 congr 1
 rw[CM];simp
def KP{k:Int}{n:Nat}(h:(n:Int)=iN k):1<=k/\k<14:=by
 unfold iN at h
 repeat' split at h
 all_goals omega
def wK:∀(n:Nat) (t:Tm),t.wt<=n->t.wt<=1000000000->kf n t=some (if t.ok=true then((t.acO:Int),true)else(0,false)):=by
 intro n
 induction n with
 |zero=>intro t h;have:=t.jB;omega
 |succ n r=>
  intro t h u;cases t with
  |mk k i s l=>
   rw[Tm.fM] at h u;have D:=Tm.oz l;have hn:ez Tm.acO l<=ez Tm.wt l:=kP λx _=>x.iS
   have key:fo (λ(o:Int) (a:Tm) (b:Int)=>ej (kf n a) λc d=>if d=true then some (gw.next (fk .i64 b c))else some (gw.ret ((0:Int),false))) l 0 1=if l.all Tm.ok=true then some (.inl ((1+ez Tm.acO l:Nat):Int))else some (.inr (0,false)):=by
    refine vp Tm.acO Tm.ok _ l 0 1 (by omega) ?_;intro j x v w;have:=eJ Tm.wt w;rw[r x (by omega) (by omega)];cases x.ok<;>simp
   rw[kf];simp only[Tm.eF,Tm.eM,Tm.gl,Tm.ft,eA,eC (l:=l) (by omega),eo,key,Tm.ia,Tm.ef,I',Im,mf (t:=s) (by omega),sG,cl,eb]
   by_cases e:(l.length:Int)=iN k
   ·have f:=KP e;simp only[f,and_self,if_true,eb,xn,mm,rv,p9,gO,ew,mD,fV,e,ne_eq,QP,false_or]
    by_cases p:i<0
    ·have:¬0<=i:=by omega
     simp[p,Tm.node,this]
    ·have y:0<=i:=by omega
     by_cases q:k=1
     ·subst q;cases g:s.ra<;>cases m:l.all Tm.ok<;>simp_all [Tm.node,kJ]
     ·by_cases g:i=0
      ·subst g
       by_cases m:k=2\/k=6\/k=9
       ·have z:kJ k=true:=by simp[kJ,m]
        by_cases A:s.err=0<;>cases B:l.all Tm.ok<;>simp_all [Tm.node]
       ·have z:kJ k=false:=by simp[kJ,m]
        cases A:s.ra<;>cases B:l.all Tm.ok<;>simp_all [Tm.node]
      ·simp[p,q,g,Tm.node]
   ·have C:Tm.node k i s l.length=false:=by simp[Tm.node,e]
    simp only[C,aaH,tQ,QL]
    by_cases f:1<=k/\k<14
    ·simp[f,e]
    ·simp[f]
def gk(k:Int):Int:=if k=2 then 1 else 0
def lI(k:Int):0<=gk k/\gk k<=1:=by unfold gk;split<;>omega
def oA(t:Tm):lQ t=some (gk t.acM):=by
 unfold lQ gk;simp only[gA]
 split<;>rfl
mutual
def Tm.up(f b:Int):Tm->Tm
 |.mk k i s l=>.mk k (if k=1/\f<=i then i+b else i) s (Tm.UX (f+gk k) b l)
def Tm.UX(f b:Int):List Tm->List Tm
 |[]=>[]|t::l=>t.up f b::Tm.UX f b l
end
def Tm.Nz(f b:Int)(l:List Tm):Tm.UX f b l=l.map (Tm.up f b):=by
 induction l with
 |nil=>rfl|cons t l a=>simp[Tm.UX,a]
def Tm.kl(f b k i:Int)(s:Ty)(l:List Tm):(Tm.mk k i s l).up f b=.mk k (if k=1/\f<=i then i+b else i) s (l.map (Tm.up (f+gk k) b)):=by rw[Tm.up,Tm.Nz]
mutual
def Tm.acS(m:Int):Tm->Bool
 |.mk _ i _ l=>decide (i<=m)&&Tm.yh m l
def Tm.yh(m:Int):List Tm->Bool
 |[]=>true|t::l=>t.acS m&&Tm.yh m l
end
def Tm.Et(m:Int)(l:List Tm):Tm.yh m l=l.all (Tm.acS m):=by
 induction l with
 |nil=>rfl|cons t l a=>simp[Tm.yh,a]
theorem Tm.fX(m k i:Int)(s:Ty)(l:List Tm):(Tm.mk k i s l).acS m=(decide (i<=m)&&l.all (Tm.acS m)):=by rw[Tm.acS,Tm.Et]
mutual
def Tm.acU(a:Int):Tm->Nat
 |.mk k i _ l=>(if k=1/\i=a then 1 else 0)+Tm.yj (a+gk k) l
def Tm.yj(a:Int):List Tm->Nat
 |[]=>0|t::l=>t.acU a+Tm.yj a l
end
def Tm.DL(a:Int)(l:List Tm):Tm.yj a l=ez (Tm.acU a) l:=by
 induction l with
 |nil=>rfl|cons t l b=>simp[Tm.yj,ez,b]
def Tm.gG(a k i:Int)(s:Ty)(l:List Tm):(Tm.mk k i s l).acU a=(if k=1/\i=a then 1 else 0)+ez (Tm.acU (a+gk k)) l:=by rw[Tm.acU,Tm.DL]
def Tm.jf(t:Tm):∀a,t.acU a<=t.acO:=by
 induction t using Tm.ind with
 |h k i s l b=>
  intro a;rw[Tm.gG,Tm.ef];have:=kP (f:=Tm.acU (a+gk k)) (g:=Tm.acO) (l:=l) λx c=>b x c _
  split<;>omega
def Tm.rG(n i:Int)(s t:Tm):Tm:=if i=n then s.up 0 n else if n<i then .mk 1 (i-1) (.mk 0 []) [] else t
mutual
def Tm.jF:Int->Tm->Tm->Tm
 |n,.mk k i ty l,s=>if k=1 then Tm.rG n i s (.mk k i ty l)else .mk k i ty (Tm.KL (n+gk k) l s)
def Tm.KL:Int->List Tm->Tm->List Tm
 |_,[],_=>[]|n,t::l,s=>Tm.jF n t s::Tm.KL n l s
end
def Tm.KO(n:Int)(s:Tm)(l:List Tm):Tm.KL n l s=l.map (λx=>Tm.jF n x s):=by
 induction l with
 |nil=>rfl|cons t l a=>simp[Tm.KL,a]
def Tm.kV(n:Int)(s:Tm)(k i:Int)(ty:Ty)(l:List Tm):Tm.jF n (Tm.mk k i ty l) s=if k=1 then Tm.rG n i s (.mk k i ty l)else .mk k i ty (l.map (λx=>Tm.jF (n+gk k) x s)):=by rw[Tm.jF,Tm.KO]
theorem Tm.q9(t:Tm):∀f b,(t.up f b).acO=t.acO:=by
 induction t using Tm.ind with
 |h k i s l a=>
  intro f b;rw[Tm.kl,Tm.ef,Tm.ef,qn];rw[rA λx c=>a x c _ _]
theorem Tm.Hr(t:Tm):∀f b,(t.up f b).wt=t.wt:=by
 induction t using Tm.ind with
 |h k i s l a=>
  intro f b;rw[Tm.kl,Tm.fM,Tm.fM,qn];rw[rA λx c=>a x c _ _]
def xi{α β:Type}{p:β->Bool}{q:α->Bool}{g:α->β}{l:List α}(h:∀x∈l,p (g x)=q x):(l.map g).all p=l.all q:=by
 induction l with
 |nil=>rfl|cons x l a=>simp only[wk,wu,h x (by simp),a λy hy=>h y (by simp[hy])]
def Tm.Of{k i j:Int}{s:Ty}{n:Nat}(h:k=1/\0<=i/\0<=j\/i=j):Tm.node k i s n=Tm.node k j s n:=by
 rcases h with⟨rfl,a,b⟩|rfl
 ·simp[Tm.node,a,b]
 ·rfl
theorem Tm.Jy(t:Tm):∀f b,0<=f->0<=b->(t.up f b).ok=t.ok:=by
 induction t using Tm.ind with
 |h k i s l a=>
  intro f b e c;rw[Tm.kl,Tm.ia,Tm.ia,GU,xi λx d=>a x d (f+gk k) b (by have:=lI k;omega) c]
  congr 1
  apply Tm.Of
  split
  ·rename_i g;left;omega
  ·right;rfl
def zC:∀(n:Nat) (t:Tm) (m:Int),t.acO<=n->t.acO<=1000000000->ld n t m=some (t.acS m):=by
 intro n
 induction n with
 |zero=>intro t m h;have:=t.eP;omega
 |succ n e=>
  intro t m h f;cases t with
  |mk k i s l=>
   rw[Tm.ef] at h f;have o:=Tm.fK l
   have key:fo (λ(c:Int) (a:Tm) (_:Unit)=>cv (ld n a m) λb=>if b=true then some (gw.next ())else some (gw.ret false)) l 0 ()=if l.all (Tm.acS m)=true then some (.inl ())else some (.inr false):=by
    refine rm (Tm.acS m) _ l 0 ?_;intro j x g;have:=eJ Tm.acO g;rw[e x m (by omega) (by omega)];rfl
   rw[ld];simp only[Tm.eF,Tm.gl,eA,eC (l:=l) (by omega),eo,key,gW,Tm.fX]
   by_cases d:m<i
   ·have:¬i<=m:=by omega
    simp[d,this]
   ·have:i<=m:=by omega
    cases p:l.all (Tm.acS m)<;>simp[d,this]
def zO:∀(n:Nat) (t:Tm) (f b:Int),t.acO<=n->t.acO<=1000000000->0<=f->f+t.acO<=10000000000->0<=b->b<=10000000000->t.acS 1000000000000=true->qj n t f b=some (t.up f b):=by
 intro n
 induction n with
 |zero=>intro t f b h;have:=t.eP;omega
 |succ n q=>
  intro t f b h a z c r d hi;cases t with
  |mk k i s l=>
   rw[Tm.ef] at h a c;rw[Tm.fX] at hi;simp only[gO,nA,ll] at hi;have A:=Tm.fK l;have B:=lI k;rw[qj];simp only[Tm.eF,Tm.gl,Tm.eM,Tm.ft,eA,eC (l:=l) (by omega),eo];rw[jq (Tm.up (f+gk k) b) l 0 [] (by simp;omega)]
   ·rw[Tm.kl];simp only[cl,en,pk,tC,Tm.mk.injEq,and_true,ZZ]
    by_cases g:k=1/\f<=i
    ·obtain⟨rfl,o⟩:=g;rw[fu (by omega) (by omega)];have u:eH 1 1=true:=rfl
     have w:ue i f=true:=by simp[o]
     simp[u,w,o]
    ·rw[ea g]
     have e:fW (eH k 1) (ue i f) false=false:=by
      rw[rv,RH];simp only[ne_eq,gO,gA,iX];exact g
     rw[e];rfl
   ·intro j x v p y;have:=eJ Tm.acO p;rw[oA];simp only[cl,Tm.eM];rw[fu (by omega) (by omega),q x (f+gk k) b (by omega) (by omega) (by omega) (by omega) r d (hi.2 x p)];simp[fA (l:=v) (m:=[x.up (f+gk k) b]) (by simpa using y)]
def zg:∀(n:Nat) (t:Tm) (a:Int),t.acO<=n->t.acO<=1000000000->0<=a->a+t.acO<=10000000000->mK n t a=some (t.acU a:Int):=by
 intro n
 induction n with
 |zero=>intro t a h;have:=t.eP;omega
 |succ n g=>
  intro t a h c q d;cases t with
  |mk k i s l=>
   rw[Tm.ef] at h c d;have r:=Tm.fK l;have u:=lI k;have m:ez (Tm.acU (a+gk k)) l<=ez Tm.acO l:=kP λx _=>x.jf _;rw[mK];simp only[Tm.eF,Tm.gl,Tm.eM,eA,eC (l:=l) (by omega),eo]
   have o:fW (fW (eH k 1) (eH i a) false) (fk .i64 0 1) 0=(((if k=1/\i=a then 1 else 0:Nat)):Int):=by
    by_cases f:k=1/\i=a
    ·obtain⟨rfl,rfl⟩:=f;simp[eH,fW,fk,FT]
    ·have e:fW (eH k 1) (eH i a) false=false:=by
      rw[rv,RH];simp only[ne_eq,gO,gA];exact f
     rw[e,ea f];rfl
   have key:=p0 (ρ:=Int) (F:=λ(j:Int) (x:Tm) (v:Int)=>cv (lQ (Tm.mk k i s l)) λb=>cv (mK n x (fk .i64 a b)) λy=>some (gw.next (fk .i64 v y)))
    (Tm.acU (a+gk k)) l 0 (if k=1/\i=a then 1 else 0) (by split<;>omega) (by
    intro j x v p;have:=eJ Tm.acO p;rw[oA];simp only[cl,Tm.eM];rw[fu (by omega) (by omega),g x _ (by omega) (by omega) (by omega) (by omega)]
    rfl)
   rw[o,key];simp[Tm.gG]
def EZ:∀(n:Nat) (t:Tm) (a b:Int) (s:Tm),t.acO<=n->t.acO<=1000000000->0<=a->0<=b->a+b+t.acO<=5000000000->t.acS 1000000000000=true->t.ok=true->s.acO<=1000000000->s.acS 1000000000000=true->tO n t a b s=some (Tm.jF (a+b) t s):=by
 intro n
 induction n with
 |zero=>intro t a b s h;have:=t.eP;omega
 |succ n r=>
  intro t a b s h o u z p hi c hs d;cases t with
  |mk k i ty l=>
   rw[Tm.ef] at h o p;rw[Tm.fX] at hi;rw[Tm.ia] at c;simp only[gO,nA,ll] at hi c;have A:=Tm.fK l;have B:=lI k
   have w:0<=i:=by
    have:=c.1;simp only[Tm.node,gO,nA] at this;exact this.1.1.2
   rw[tO,Tm.kV];simp only[Tm.eF,Tm.gl,Tm.eM,Tm.ft,eA,eC (l:=l) (by omega),eo,gA];rw[fu (by omega) (by omega)]
   by_cases e:k=1
   ·rw[ee e,ee e];unfold Tm.rG
    by_cases f:i=a+b
    ·rw[ee f,ee f,zO FU s 0 (a+b) (by rw[fC];exact hs) hs (by omega) (by omega) (by omega) (by omega) d];rfl
    ·rw[ea f,ea f];simp only[gW]
     by_cases g:a+b<i
     ·rw[ee g,ee g,fF (by omega) (by omega)];rfl
     ·rw[ea g,ea g]
   ·rw[ea e,ea e];rw[jq (λx=>Tm.jF (a+b+gk k) x s) l 0 [] (by simp;omega)]
    ·simp
    ·intro j x v q y;have:=eJ Tm.acO q;rw[oA];simp only[cl,Tm.eM];rw[fu (by omega) (by omega),r x a (b+gk k) s (by omega) (by omega) u (by omega) (by omega) (hi.2 x q) (c.2 x q) hs d];rw[show a+(b+gk k)=a+b+gk k by omega];simp[fA (l:=v) (m:=[Tm.jF (a+b+gk k) x s]) (by simpa using y)]
def Tm.r7(s t:Tm):∀n,t.ok=true->(Tm.jF n t s).acO+t.acU n=t.acO+t.acU n*s.acO:=by
 induction t using Tm.ind with
 |h k i ty l g=>
  intro n a;rw[Tm.ia] at a;simp only[gO,ll] at a;rw[Tm.kV,Tm.gG,Tm.ef]
  by_cases d:k=1
  ·subst d
   have j:l=[]:=by
    have:=a.1;simp only[Tm.node,gO,nA] at this;have h:=this.1.1.1;simp[iN] at h;exact h
   subst j;simp only[if_true,Tm.rG,ez,FC,ZZ]
   by_cases e:i=n
   ·simp[e,Tm.q9];omega
   ·by_cases m:n<i<;>simp[e,m,Tm.ef,ez]
  ·simp only[d,QL,false_and,vl];rw[Tm.ef,qn]
   have:ez (λx=>(Tm.jF (n+gk k) x s).acO) l+ez (Tm.acU (n+gk k)) l=ez Tm.acO l+ez (Tm.acU (n+gk k)) l*s.acO:=by
    have b:∀x∈l,(Tm.jF (n+gk k) x s).acO+x.acU (n+gk k)=x.acO+x.acU (n+gk k)*s.acO:=λx c=>g x c _ (a.2 x c);clear g a
    induction l with
    |nil=>simp[ez]|cons y l f=>
     have d:=b y (by simp);have e:=f λx c=>b x (by simp[c]);simp only[ez,AR];omega
   omega
def Tm.Tc(s:Tm)(hs:s.ok=true)(t:Tm):∀n,0<=n->t.ok=true->(Tm.jF n t s).ok=true:=by
 induction t using Tm.ind with
 |h k i ty l g=>
  intro n hn a;have b:=a;rw[Tm.ia] at a;simp only[gO,ll] at a;rw[Tm.kV]
  by_cases d:k=1
  ·subst d;simp only[if_true,Tm.rG]
   by_cases c:i=n
   ·simp only[c,if_true];rw[Tm.Jy s 0 n (by omega) hn];exact hs
   ·by_cases e:n<i
    ·simp only[c,e,QL,if_true];rw[Tm.ia]
     have j:1<=i:=by omega
     simp[Tm.node,iN,kJ,j,Ty.ra,eH]
    ·simp only[c,e,QL];exact b
  ·simp only[d,QL];rw[Tm.ia,GU];simp only[gO,ll,oi];refine⟨a.1,?_⟩;rintro _ ⟨x,f,rfl⟩;exact g x f _ (by have:=lI k;omega) (a.2 x f)
mutual
def Tm.fr:Tm->Int
 |.mk k i _ l=>if k=1 then i+1 else if k=2 then imax 0 (Tm.IN 0 l-1)else Tm.IN 0 l
def Tm.IN(m:Int):List Tm->Int
 |[]=>m|t::l=>Tm.IN (imax m t.fr) l
end
theorem tG(a b:Int):imax a b=max a b:=by unfold imax;omega
def Tm.Oa(l:List Tm):∀m,m<=Tm.IN m l:=by
 induction l with
 |nil=>intro m;exact Int.le_refl _|cons t l a=>intro m;rw[Tm.IN];have:=a (imax m t.fr);rw[tG] at*;omega
def Tm.Vw{l:List Tm}{t:Tm}(h:t∈l):∀m,t.fr<=Tm.IN m l:=by
 induction l with
 |nil=>cases h
 |cons u l a=>
  intro m;rw[Tm.IN];rcases l7.1 h with rfl|h
  ·have:=Tm.Oa l (imax m t.fr);rw[tG] at*;omega
  ·exact a h _
def Tm.Tk{M:Int}{l:List Tm}(h:∀t∈l,t.fr<=M):∀m,m<=M->Tm.IN m l<=M:=by
 induction l with
 |nil=>intro m hm;exact hm|cons u l a=>
  intro m hm;rw[Tm.IN];refine a (λt b=>h t (by simp[b])) _ ?_;have:=h u (by simp);rw[tG];omega
def Tm.Sz(t:Tm):∀{M:Int},0<=M->t.ok=true->t.acS M=true->0<=t.fr/\t.fr<=M+1:=by
 induction t using Tm.ind with
 |h k i s l d=>
  intro M e a b;rw[Tm.ia] at a;rw[Tm.fX] at b;simp only[gO,ll,nA,Tm.node] at a b;have f:Tm.IN 0 l<=M+1:=Tm.Tk (λt c=>(d t c e (a.2 t c) (b.2 t c)).2) 0 (by omega);have g:=Tm.Oa l 0;rw[Tm.fr]
  split
  ·omega
  ·split
   ·rw[tG];omega
   ·omega
def map_id'{α:Type}{g:α->α}{l:List α}(h:∀x∈l,g x=x):l.map g=l:=by
 induction l with
 |nil=>rfl|cons x l a=>simp only[wk,h x (by simp),a λy hy=>h y (by simp[hy])]
def Tm.lB{k i:Int}{s:Ty}{l:List Tm}(h:(Tm.mk k i s l).ok=true):(k=1->l=[])/\0<=i/\(k≠1->i=0)/\(∀t∈l,t.ok=true)/\(l.length:Int)=iN k:=by
 rw[Tm.ia] at h;simp only[gO,ll,nA,Tm.node,p9] at h;obtain⟨⟨⟨⟨a,b⟩,c⟩,f⟩,d⟩:=h;refine⟨?_,b,λe=>c.resolve_left e,d,a⟩;rintro rfl;have:(l.length:Int)=0:=a;exact Dt (by omega)
def Tm.KH{k i:Int}{s:Ty}{l:List Tm}(a:k≠1){f:Int}(h:(Tm.mk k i s l).fr<=f)(c:0<=f):∀x∈l,x.fr<=f+gk k:=by
 intro x b;have:=Tm.Vw b 0;rw[Tm.fr,ea a] at h;unfold gk
 split at h
 ·rename_i a;rw[ee a];rw[tG] at h;omega
 ·rename_i a;rw[ea a];omega
def Tm.Vd(t:Tm):∀f b,t.ok=true->0<=f->t.fr<=f->t.up f b=t:=by
 induction t using Tm.ind with
 |h k i s l d=>
  intro f b e g h;obtain⟨o1,o2,m,j,_⟩:=Tm.lB e;rw[Tm.kl]
  by_cases a:k=1
  ·have:=o1 a;subst this;rw[Tm.fr,ee a] at h;rw[ea (by omega)];rfl
  ·rw[ea (λh=>a h.1)]
   congr 1
   exact map_id' λx c=>d x c _ _ (j x c) (by have:=lI k;omega) (Tm.KH a h g x c)
def Tm.uW(t:Tm):∀f,t.up f 0=t:=by
 induction t using Tm.ind with
 |h k i s l a=>
  intro f;rw[Tm.kl,map_id' λx b=>a x b _]
  congr 1
  split<;>omega
def Tm.Ti(s t:Tm):∀n,t.ok=true->0<=n->t.fr<=n->Tm.jF n t s=t:=by
 induction t using Tm.ind with
 |h k i ty l c=>
  intro n d hn h;obtain⟨o1,o2,f,e,_⟩:=Tm.lB d;rw[Tm.kV]
  by_cases a:k=1
  ·rw[ee a];rw[Tm.fr,ee a] at h;unfold Tm.rG;rw[ea (by omega),ea (by omega)]
  ·rw[ea a]
   congr 1
   exact map_id' λx b=>c x b _ (e x b) (by have:=lI k;omega) (Tm.KH a h hn x b)
def PO{α:Type}{g:α->Nat}{l:List α}(h:∀x∈l,g x=0):ez g l=0:=by
 induction l with
 |nil=>rfl|cons x l a=>simp[ez,h x (by simp),a λy hy=>h y (by simp[hy])]
def Tm.Oc(t:Tm):∀n,t.ok=true->0<=n->t.fr<=n->t.acU n=0:=by
 induction t using Tm.ind with
 |h k i ty l c=>
  intro n d hn h;obtain⟨o1,o2,f,e,_⟩:=Tm.lB d;rw[Tm.gG]
  by_cases a:k=1
  ·have:=o1 a;subst this;rw[Tm.fr,ee a] at h;rw[ea (by omega)];rfl
  ·rw[ea (λh=>a h.1)];simp only[vl];exact PO λx b=>c x b _ (e x b) (by have:=lI k;omega) (Tm.KH a h hn x b)
def Tm.kd:Option Tm->Int
 |some t=>t.acM|none=>0
def Tm.root:Tm->Bool
 |.mk k _ _ l=>(decide (k=3)&&decide (Tm.kd l[0]?=2))||(decide (k=6)&&(decide (Tm.kd l[2]?=4)||decide (Tm.kd l[2]?=5)))||(decide (k=9)&&(decide (Tm.kd l[2]?=7)||decide (Tm.kd l[2]?=8)))||
  ((decide (k=11)||decide (k=12))&&decide (Tm.kd l[0]?=10))
mutual
def Tm.nf:Tm->Bool
 |.mk k i s l=>!(Tm.mk k i s l).root&&Tm.nfL l
def Tm.nfL:List Tm->Bool
 |[]=>true|t::l=>t.nf&&Tm.nfL l
end
def Tm.XY(l:List Tm):Tm.nfL l=l.all Tm.nf:=by
 induction l with
 |nil=>rfl|cons t l a=>simp[Tm.nfL,a]
def Tm.O6(k i:Int)(s:Ty)(l:List Tm):(Tm.mk k i s l).nf=(!(Tm.mk k i s l).root&&l.all Tm.nf):=by rw[Tm.nf,Tm.XY]
def l6(f:Tm):List Tm->Tm
 |[]=>f|a::l=>l6 (.mk 3 0 (.mk 0 []) [f,a]) l
def Tm.gb:Tm->Tm
 |.mk k i s l=>
  if k=3 then(match l with|[.mk _ _ _ [b],a]=>Tm.jF 0 b a|_=>.mk k i s l)
  else if k=11 then(match l with|[.mk _ _ _ (a::_)]=>a|_=>.mk k i s l)
  else if k=12 then(match l with|[.mk _ _ _ [_,b]]=>b|_=>.mk k i s l)
  else(match l with
   |[b,st,.mk _ _ _ []]=>b|[b,st,.mk _ _ _ [n]]=>l6 st [n,.mk k i s [b,st,n]]|[b,st,.mk _ _ _ [h,t]]=>l6 st [h,t,.mk k i s [b,st,t]]|_=>.mk k i s l)
mutual
inductive NR (nh:List HC):Nat->Tm->Prop
 |mk {p:Nat} {x:eR} {l:List Tm}:HC.er nh p=some x->va nh x.acN l->x.size=((Tm.mk x.acM x.acP x.pM l).acO:Int)->x.free=(Tm.mk x.acM x.acP x.pM l).fr->(x.normal=true->(Tm.mk x.acM x.acP x.pM l).nf=true)->NR nh p (.mk x.acM x.acP x.pM l)
inductive va (nh:List HC):List (Option Nat)->List Tm->Prop
 |nil:va nh [] []|cons {p:Nat} {t:Tm} {ps:List (Option Nat)} {ts:List Tm}:NR nh p t->va nh ps ts->va nh (some p::ps) (t::ts)
end
def NR.inv{nh:List HC}{p:Nat}{t:Tm}(h:NR nh p t):∃x,HC.er nh p=some x/\x.acM=t.acM/\x.acP=t.acP/\x.pM=t.dv/\va nh x.acN t.acN/\x.size=(t.acO:Int)/\x.free=t.fr/\(x.normal=true->t.nf=true):=by
 cases h with
 |mk a b c d e=>exact⟨_,a,rfl,rfl,rfl,b,c,d,e⟩
def NR.of{nh:List HC}{p:Nat}{t:Tm}{x:eR}(e:HC.er nh p=some x)(a:x.acM=t.acM)(b:x.acP=t.acP)(c:x.pM=t.dv)(d:va nh x.acN t.acN)(f:x.size=(t.acO:Int))(g:x.free=t.fr)
  (h:x.normal=true->t.nf=true):NR nh p t:=by
 cases t with
 |mk k i s l=>
  simp only[Tm.eM,Tm.gl,Tm.ft,Tm.eF] at a b c d;subst a;subst b;subst c;exact .mk e d f g h
def va.len{nh:List HC}:∀{ps:List (Option Nat)} {ts:List Tm},va nh ps ts->ps.length=ts.length
 |_,_,.nil=>rfl|_,_,.cons _ h=>by simp[h.len]
def va.append{nh:List HC}:∀{ps a:List (Option Nat)} {ts us:List Tm},va nh ps ts->va nh a us->va nh (ps++a) (ts++us)
 |_,_,_,_,.nil,h=>h|_,_,_,_,.cons b c,h=>.cons b (c.append h)
structure NE (nh nh':List HC):Prop where
 node:∀p t,NR nh p t->NR nh' p t
 state:∀p st,HC.fp nh p=some st->HC.fp nh' p=some st
 get:∀p x,HC.er nh p=some x->∃b,HC.er nh' p=some {x with normal:=b}
def NE.refl(nh:List HC):NE nh nh:=⟨λ_ _ h=>h,λ_ _ h=>h,λ_ x h=>⟨x.normal,h⟩⟩
def NE.trans{a b c:List HC}(d:NE a b)(e:NE b c):NE a c:=⟨λp t h=>e.node p t (d.node p t h),λp st h=>e.state p st (d.state p st h),λp x h=>by
 obtain⟨j,f⟩:=d.get p x h;obtain⟨g,i⟩:=e.get p _ f
 exact⟨g,i⟩⟩
def NE.list{nh a:List HC}(h:NE nh a):∀{ps:List (Option Nat)} {ts:List Tm},va nh ps ts->va a ps ts
 |_,_,.nil=>.nil|_,_,.cons b c=>.cons (h.node _ _ b) (h.list c)
def FP{nh X:List HC}{p:Nat}{x:eR}(h:HC.er nh p=some x):HC.er (nh++X) p=some x:=by
 have:=HC.ey h;have a:=(pK.1 this).1;unfold HC.er;rw[r_ a,this]
def IF{nh X:List HC}{p:Nat}{x:fY}(h:HC.fp nh p=some x):HC.fp (nh++X) p=some x:=by
 have:=HC.gZ h;have a:=(pK.1 this).1;unfold HC.fp;rw[r_ a,this]
mutual
def NR.app{nh X:List HC}:∀{p:Nat} {t:Tm},NR nh p t->NR (nh++X) p t
 |_,_,.mk a b c d e=>.mk (FP a) b.app c d e
def va.app{nh X:List HC}:∀{ps:List (Option Nat)} {ts:List Tm},va nh ps ts->va (nh++X) ps ts
 |_,_,.nil=>.nil|_,_,.cons a b=>.cons a.app b.app
end
def NE.kp{nh a:List HC}(h:Kp nh a):NE nh a:=by
 obtain⟨X,rfl⟩:=h;exact⟨λ_ _ h=>h.app,λ_ _ h=>IF h,λp x h=>⟨x.normal,FP h⟩⟩
def Gv{a0 a1:Int}{a2:Ty}{a3:List (Option Nat)}{nh:List HC}{F:Int->Option Nat->List HC->Option (gw (List HC) ((Option Nat)×List HC))}
  (hF:∀j q v x y,HC.er v nh.length=some x->HC.er v q=some y->HC.er (kF v nh.length (HC.eS (eR.mk x.acM x.acP x.pM x.acN (fk .i64 x.size y.size) x.free x.normal))) q=some y->F j (some q) v=some (.next (kF (kF v nh.length (HC.eS (eR.mk x.acM x.acP x.pM x.acN (fk .i64 x.size y.size) x.free x.normal))) nh.length (HC.eS (eR.mk x.acM x.acP x.pM x.acN (fk .i64 x.size y.size) (imax x.free y.free) x.normal))))):∀(ps:List (Option Nat)) (ts:List Tm) (i:Nat) (s:Nat) (f:Int),va nh ps ts->s+ez Tm.acO ts<=1000000000->fo F ps i (nh++[HC.eS (eR.mk a0 a1 a2 a3 s f false)])=some (.inl (nh++[HC.eS (eR.mk a0 a1 a2 a3 ((s+ez Tm.acO ts:Nat):Int) (Tm.IN f ts) false)]))
 |_,_,i,s,f,.nil,_=>by simp[ez,Tm.IN]|_,_,i,s,f,.cons (p:=p) (t:=t) c d,e=>by
  rw[ez] at e;obtain⟨y,b,l,m,n,o,g,h,r⟩:=c.inv;have k:p<nh.length:=(pK.1 (HC.ey b)).1
  have a:fk .i64 (s:Int) (t.acO:Int)=((s+t.acO:Nat):Int):=by rw[fu (by omega) (by omega)];omega
  rw[fl,hF _ p _ _ y B7 (FP b) (by rw[xk];exact FP b)];simp only[xk,cl,fv,g,h,a];rw[Gv hF _ _ (i+1) (s+t.acO) (imax f t.fr) d (by omega)];simp only[ez,Tm.IN,TT]
def sF{k i:Int}{s:Ty}{ps:List (Option Nat)}{ts:List Tm}{nh:List HC}(h:va nh ps ts)(hn:ez Tm.acO ts<=100000000)(hi:0<=i/\i<=1000000000000)(p:∀t∈ts,0<=t.fr/\t.fr<=1000000000000):∃e,kI k i s ps nh=some (some nh.length,e)/\Kp nh e/\NR e nh.length (.mk k i s ts):=by
 have hlen:ps.length<=100000000:=by
  rw[h.len];exact C9 (Tm.fK ts) hn
 have w:0<=Tm.IN 0 ts/\Tm.IN 0 ts<=1000000000000:=⟨Tm.Oa ts 0,Tm.Tk (λt z=>(p t z).2) 0 (by omega)⟩;unfold kI;rw[eC (by omega)];simp only[eo,eA]
 have r:=Gv (a0:=k) (a1:=i) (a2:=s) (a3:=ps) (nh:=nh) (F:=λu l b=>
   cv (HC.er b (List.length nh)) λa=>
   cv (l) λd=>
   cv (HC.er b d) λc=>
   cv (HC.er (kF b (List.length nh) (HC.eS (eR.mk a.acM a.acP a.pM a.acN (fk .i64 a.size c.size) a.free a.normal))) d) λm=>
   some (.next (kF (kF b (List.length nh) (HC.eS (eR.mk a.acM a.acP a.pM a.acN (fk .i64 a.size c.size) a.free a.normal))) (List.length nh) (HC.eS (eR.mk a.acM a.acP a.pM a.acN (fk .i64 a.size c.size) (imax a.free m.free) a.normal)))))
  (by intro j q v x y n o A;simp only[n,o,A,cl]) ps ts 0 1 0 h (by omega)
 have B:((1:Nat):Int)=1:=rfl;rw[B] at r;rw[r];simp only[cl,en,B7,xk]
 have g:((1+ez Tm.acO ts:Nat):Int)=((Tm.mk k i s ts).acO:Int):=by rw[Tm.ef]
 have fin:∀f:Int,f=(Tm.mk k i s ts).fr->NR (nh++[HC.eS (eR.mk k i s ps ((1+ez Tm.acO ts:Nat):Int) f false)]) nh.length (.mk k i s ts):=by
  intro f p;exact NR.of B7 rfl rfl rfl h.app g p (by intro h;cases h)
 by_cases n:k=1
 ·subst n;refine⟨_,by rw[ee (by decide)],⟨_,rfl⟩,fin _ ?_⟩;rw[Tm.fr,ee rfl,fu (by omega) (by omega)]
 ·rw[ea (by simpa using n)]
  by_cases o:k=2
  ·subst o;refine⟨_,by rw[ee (by decide)],⟨_,rfl⟩,fin _ ?_⟩;rw[Tm.fr,ea (by decide),ee rfl,fF (by omega) (by omega)]
  ·refine⟨_,by rw[ea (by simpa using o)],⟨_,rfl⟩,fin _ ?_⟩;rw[Tm.fr,ea n,ea o]
def Si{nh:List HC}{p:Nat}{x:eR}(h:HC.er nh p=some x):jb (some p) nh=some (gk x.acM):=by
 unfold jb gk;simp only[cl,h,gA]
 split<;>rfl
def NE.below{nh a:List HC}{p:Nat}{x:eR}(he:NE nh a)(h:HC.er nh p=some x):jb (some p) a=some (gk x.acM):=by
 obtain⟨b,e⟩:=he.get p x h;rw[Si e]
def BT{F:Int->Option Nat->List (Option Nat)×List HC->Option (gw (List (Option Nat)×List HC) ((Option Nat)×List HC))}(g:Tm->Tm)(Zm:List HC):∀(ts:List Tm)
  (_:∀t∈ts,∀p nh j v,Kp Zm nh->NR nh p t->v.length+1<=1000000000->∃q a,F j (some p) (v,nh)=some (.next (v++[some q],a))/\Kp nh a/\NR a q (g t))
  (ps:List (Option Nat)) (i:Nat) (nh:List HC) (v:List (Option Nat)) (us:List Tm),Kp Zm nh->va nh ps ts->va nh v us->v.length+ts.length<=1000000000->∃c a,fo F ps i (v,nh)=some (.inl (c,a))/\Kp nh a/\va a c (us++ts.map g)
 |[],_,_,i,nh,v,us,_,.nil,d,_=>⟨v,nh,rfl,Kp.refl _,by simpa using d⟩|t::ts,hF,_,i,nh,v,us,h,.cons (p:=p) (ps:=ps) k l,d,m=>by
  simp only[l5] at m;obtain⟨q,e,n,f,o⟩:=hF t (by simp) p nh i v h k (by omega);have b:=NE.kp f;obtain⟨c,a,f1,f2,f3⟩:=BT g Zm ts (λt r=>hF t (by simp[r])) ps (i+1) e (v++[some q]) (us++[g t]) (h.trans f) (b.list l) ((b.list d).append (.cons o .nil)) (by simp;omega);refine⟨c,a,?_,f.trans f2,by simpa using f3⟩;rw[fl,n];simp only[cl,fv];exact f1
structure Sm (M:Int) (t:Tm):Prop where
 ok:t.ok=true
 acS:t.acS M=true
 acO:t.acO<=1000000
def Sm.arg{M k i:Int}{s:Ty}{l:List Tm}(h:Sm M (.mk k i s l)):∀t∈l,Sm M t:=by
 intro t a;have b:=h.acS;have c:=h.acO;rw[Tm.fX] at b;simp only[gO,ll] at b;rw[Tm.ef] at c;exact⟨(Tm.lB h.ok).2.2.2.1 t a,b.2 t a,by have:=eJ Tm.acO a;omega⟩
def Sm.idx{M k i:Int}{s:Ty}{l:List Tm}(h:Sm M (.mk k i s l)):0<=i/\i<=M:=by
 have a:=h.acS;rw[Tm.fX] at a;simp only[gO,nA] at a;exact⟨(Tm.lB h.ok).2.1,a.1⟩
theorem Sm.fr{M:Int}{t:Tm}(h:Sm M t)(a:0<=M):0<=t.fr/\t.fr<=M+1:=Tm.Sz t a h.ok h.acS
theorem Sm.mono{M N:Int}{t:Tm}(h:Sm M t)(hm:M<=N):Sm N t:=⟨h.ok,by
 have:∀t:Tm,t.acS M=true->t.acS N=true:=by
  intro t
  induction t using Tm.ind with
  |h k i s l b=>
   rw[Tm.fX,Tm.fX];simp only[gO,ll,nA]
   exactλ⟨d,c⟩=>⟨by omega,λx a=>b x a (c x a)⟩
 exact this t h.acS,h.acO⟩
def Mj{M b:Int}(d:0<=b)(t:Tm):∀f,t.acS M=true->(t.up f b).acS (M+b)=true:=by
 induction t using Tm.ind with
 |h k i s l a=>
  intro f h;rw[Tm.fX] at h;simp only[gO,ll,nA] at h;rw[Tm.kl,Tm.fX];simp only[gO,ll,nA];refine⟨by split<;>omega,?_⟩;intro x c;obtain⟨y,hy,rfl⟩:=oi.1 c;exact a y hy _ (h.2 y hy)
def Sm.up{M f b:Int}{t:Tm}(h:Sm M t)(c:0<=f)(a:0<=b):Sm (M+b) (t.up f b):=
 ⟨by rw[Tm.Jy t f b c a];exact h.ok,Mj a t f h.acS,by rw[Tm.q9];exact h.acO⟩
def UR{M:Int}(U:0<=M/\M<=500000000000):∀(n:Nat) (t:Tm) (p:Nat) (nh:List HC) (f b:Int),t.acO<=n->NR nh p t->Sm M t->0<=f->f+t.acO<=500000000000->0<=b->b<=400000000000->∃Q a,jP n (some p) f b nh=some (some Q,a)/\Kp nh a/\NR a Q (t.up f b):=by
 intro n
 induction n with
 |zero=>intro t p nh f b h;have:=t.eP;omega
 |succ n V=>
  intro t p nh f b hn w hs W z R A;obtain⟨x,B,m,C,D,E,e6,X,e8⟩:=w.inv;have Y:=hs.fr U.1;rw[jP];simp only[eA,cl,B,X,Dh]
  by_cases r:t.fr<=f
  ·rw[ee r];exact⟨p,nh,rfl,Kp.refl _,by rw[Tm.Vd t f b hs.ok W r];exact w⟩
  ·rw[ea r]
   by_cases S:b=0
   ·subst S;exact⟨p,nh,by simp,Kp.refl _,by rw[Tm.uW];exact w⟩
   ·rw[ea (by simpa using S)];cases t with
    |mk k i s l=>
     simp only[Tm.eM,Tm.gl,Tm.ft,Tm.eF] at m C D E;have T:=hs.idx;obtain⟨o1,o2,o3,o4,o5⟩:=Tm.lB hs.ok
     by_cases G:k=1
     ·subst G;have Z:=o1 rfl;subst Z;rw[ee (by rw[m];rfl)]
      have H:f<=i:=by rw[Tm.fr,ee rfl] at r;omega
      obtain⟨a,g1,g2,g3⟩:=sF (k:=1) (i:=i+b) (s:=s) (ps:=[]) (ts:=[]) (nh:=nh) .nil (by simp[ez]) (by omega) (by simp);refine⟨nh.length,a,?_,g2,?_⟩
      ·rw[m,C,D,fu (by omega) (by omega),g1];rfl
      ·rw[Tm.kl,ee ⟨rfl,H⟩];exact g3
     ·rw[ea (by rw[m];simpa using G)]
      have aa:1+ez Tm.acO l<=n+1:=by rw[Tm.ef] at hn;exact hn
      have hlen:=Tm.fK l;have I:=hs.acO;rw[Tm.ef] at I z;have ab:x.acN.length=l.length:=E.len;rw[eC (by omega)];simp only[eo];have ad:=lI k
      obtain⟨v',a,g1,g2,g3⟩:=BT (F:=λj J=>uD λc d=>
        cv (jb (some p) d) λo=>
        ej (jP n J (fk .i64 f o) b d) λe g=>
        hO (gy c [e])<|some (.next ((gU c [e]),g))) (Tm.up (f+gk k) b) nh l (by
        intro t u q K j v L hq hv;have N:=hs.arg t u;have hm:=eJ Tm.acO u;obtain⟨q',O,a1,a2,a3⟩:=V t q K (f+gk k) b (by omega) hq N (by omega) (by omega) R A;refine⟨q',O,?_,a2,a3⟩;simp only[mY,(NE.kp L).below B,cl,m];rw[fu (by omega) (by omega),a1];simp only[eb];rw[fA (by simpa using hv)]
        rfl) x.acN 0 nh [] [] (Kp.refl _) E .nil (by simp;omega)
      rw[g1];simp only[cl,en,mY];obtain⟨x2,c1⟩:=(NE.kp g2).get p x B;unfold gY;simp only[cl,c1]
      obtain⟨P,d1,d2,d3⟩:=sF (k:=k) (i:=i) (s:=s) (ps:=v') (ts:=l.map (Tm.up (f+gk k) b)) (nh:=a) (by simpa using g3) (by
       rw[qn,rA λx _=>Tm.q9 x _ _];omega) (by omega) (by
       intro t u;obtain⟨y,hy,rfl⟩:=oi.1 u;have:=((hs.arg y hy).up (f:=f+gk k) (b:=b) (by omega) R).fr (by omega)
       omega)
      refine⟨a.length,P,?_,g2.trans d2,?_⟩
      ·rw[m,C,D,d1];rfl
      ·rw[Tm.kl,ea (λh=>G h.1)];exact d3
def count_eq{M:Int}(P:0<=M/\M<=500000000000)(nh:List HC):∀(n:Nat) (t:Tm) (p:Nat) (a:Int),t.acO<=n->NR nh p t->Sm M t->0<=a->a+t.acO<=500000000000->kv n (some p) a nh=some (t.acU a:Int):=by
 intro n
 induction n with
 |zero=>intro t p a h;have:=t.eP;omega
 |succ n C=>
  intro t p a hn D hs E o;obtain⟨x,z,j,A,F,q,Q,G,R⟩:=D.inv;rw[kv];simp only[cl,z,G,Dh]
  by_cases r:t.fr<=a
  ·rw[ee r,Tm.Oc t a hs.ok E r];rfl
  ·rw[ea r];cases t with
   |mk k i s l=>
    simp only[Tm.eM,Tm.gl,Tm.ft,Tm.eF] at j A F q;obtain⟨o1,o2,S,T,U⟩:=Tm.lB hs.ok
    by_cases v:k=1
    ·subst v;have H:=o1 rfl;subst H;rw[ee (by rw[j];rfl),Tm.gG,A];simp only[gA,ez]
     by_cases m:i=a
     ·rw[ee m,ee ⟨trivial,m⟩];rfl
     ·rw[ea m,ea (λh=>m h.2)];rfl
    ·rw[ea (by rw[j];simpa using v)];have w:=hs.acO;rw[Tm.ef] at w o hn;have hlen:=Tm.fK l;have I:x.acN.length=l.length:=q.len;rw[eC (by omega)];simp only[eo,eA];have J:=lI k
     have loop:∀(ts:List Tm) (ps:List (Option Nat)) (i c:Nat),(∀t∈ts,t∈l)->va nh ps ts->c+ez Tm.acO ts<=1000000000->fo (λ(B:Int) (b:Option Nat)=>(λ(d:Int)=>
        cv (kv n b (a+gk k) nh) λe=>
        some ((.next (fk .i64 d e)):gw Int Int))) ps i (c:Int)=some (.inl ((c+ez (Tm.acU (a+gk k)) ts:Nat):Int)):=by
      intro ts
      induction ts with
      |nil=>intro ps i c _ h _;cases h;rfl
      |cons t ts y=>
       intro ps i c hm h K;cases h with
       |cons q1 L=>
        rw[ez] at K;have f:=hm t (by simp);have N:=eJ Tm.acO f;have O:=Tm.jf t (a+gk k);rw[fl];rw[C t _ _ (by omega) q1 (hs.arg t f) (by omega) (by omega)];simp only[cl];rw[fu (by omega) (by omega)];simp only[fv];have:=y _ (i+1) (c+t.acU (a+gk k)) (λu hu=>hm u (by simp[hu])) L (by omega);rw[show((c+t.acU (a+gk k):Nat):Int)=(c:Int)+(t.acU (a+gk k):Int) by omega] at this;rw[this];simp only[ez,TT]
     have:=loop l x.acN 0 0 (λt h=>h) q (by omega);rw[show((0:Nat):Int)=0 from rfl] at this;have g:fk .i64 a (gk k)=a+gk k:=fu (by omega) (by omega);simp only[Si z,cl,j,g];rw[this];simp only[cl,en,vl];rw[Tm.gG,ea (λh=>v h.1),vl]
def JG{M N B:Int}(w:M<=B)(s:Tm)(hs:s.acS N=true)(t:Tm):∀n,0<=n->N+n+t.acO<=B->t.acS M=true->t.ok=true->(Tm.jF n t s).acS B=true:=by
 induction t using Tm.ind with
 |h k i ty l f=>
  intro n hn g d p;have j:=d;rw[Tm.fX] at d;simp only[gO,ll,nA] at d;obtain⟨o1,o2,z,q,A⟩:=Tm.lB p;rw[Tm.kV]
  have c:∀(u:Tm) {a b:Int},a<=b->u.acS a=true->u.acS b=true:=by
   intro u
   induction u using Tm.ind with
   |h k i s l f=>
    intro a b m;rw[Tm.fX,Tm.fX];simp only[gO,ll,nA]
    exactλ⟨C,r⟩=>⟨by omega,λx e=>f x e m (r x e)⟩
  have D:1<=(Tm.mk k i ty l).acO:=Tm.eP _
  by_cases o:k=1
  ·rw[ee o];unfold Tm.rG
   split
   ·exact c _ (by omega) (Mj hn s 0 hs)
   ·split
    ·rw[Tm.fX];simp;omega
    ·exact c _ (by omega) j
  ·rw[ea o,Tm.fX];simp only[gO,ll,nA];refine⟨by omega,?_⟩;intro x e;obtain⟨y,hy,rfl⟩:=oi.1 e;have v:=lI k;have hm:=eJ Tm.acO hy;rw[Tm.ef] at g;exact f y hy (n+gk k) (by omega) (by omega) (d.2 y hy) (q y hy)
def put_eq{M N:Int}(hM:0<=M/\M<=100000000000)(hN:0<=N/\N<=100000000000)(s:Tm)(d:Sm N s):∀(n:Nat) (t:Tm) (p q:Nat) (nh:List HC) (a:Int),t.acO<=n->NR nh p t->NR nh q s->Sm M t->0<=a->a+t.acO<=100000000000->t.acO+t.acU a*s.acO<=100000000->∃E b,kb n (some p) a (some q) nh=some (some E,b)/\Kp nh b/\NR b E (Tm.jF a t s):=by
 intro n
 induction n with
 |zero=>intro t p q nh a h;have:=t.eP;omega
 |succ n H=>
  intro t p q nh a hn X Y hs Z I z;obtain⟨x,J,w,K,L,O,e6,e7,e8⟩:=X.inv;rw[kb];simp only[cl,J,e7,Dh]
  by_cases o:t.fr<=a
  ·rw[ee o];exact⟨p,nh,rfl,Kp.refl _,by rw[Tm.Ti s t a hs.ok Z o];exact X⟩
  ·rw[ea o];cases t with
   |mk k i ty l=>
    simp only[Tm.eM,Tm.gl,Tm.ft,Tm.eF] at w K L O;have aa:=hs.idx;obtain⟨o1,o2,o3,P,o5⟩:=Tm.lB hs.ok
    by_cases G:k=1
    ·subst G;have hl:=o1 rfl;subst hl
     have ab:a<=i:=by rw[Tm.fr,ee rfl] at o;omega
     rw[ee (by rw[w];rfl),K];simp only[gA];rw[Tm.kV,ee rfl];unfold Tm.rG
     by_cases e:i=a
     ·rw[ee e,ee e];have A:=d.acO;obtain⟨E,b,g1,g2,g3⟩:=UR (M:=N) (by omega) FU s q nh 0 a (by rw[fC];omega) Y d (by omega) (by omega) Z (by omega);exact⟨E,b,by rw[g1];rfl,g2,g3⟩
     ·rw[ea e,ea e,ee (by omega)];obtain⟨b,g1,g2,g3⟩:=sF (k:=1) (i:=i-1) (s:=ty) (ps:=[]) (ts:=[]) (nh:=nh) .nil (by simp[ez]) (by omega) (by simp);refine⟨nh.length,b,?_,g2,?_⟩
      ·rw[w,L,fF (by omega) (by omega),g1];rfl
      ·have hz:ty=.mk 0 []:=by
        have:=hs.ok;rw[Tm.ia] at this;simp only[gO,Tm.node] at this
        have h4:ty.ra=true:=by simpa[kJ] using this.1.2
        exact(Ty.mR ty).1 h4
       rw[<-hz];exact g3
    ·rw[ea (by rw[w];simpa using G)];have A:=hs.acO;rw[Tm.ef] at A I hn;have hlen:=Tm.fK l;have ad:x.acN.length=l.length:=O.len;rw[eC (by omega)];simp only[eo,eA];have ae:=lI k;rw[Tm.gG,ea (λh=>G h.1),vl,Tm.ef] at z
     have Q:∀t∈l,t.acO+t.acU (a+gk k)*s.acO<=100000000:=by
      intro t c;have o:=eJ Tm.acO c;have e:=eJ (Tm.acU (a+gk k)) c;have h3:=Lv s.acO e;omega
     obtain⟨v',b,g1,g2,g3⟩:=BT (F:=λj R=>uD λf g=>
       cv (jb (some p) g) λB=>
       ej (kb n R (fk .i64 a B) (some q) g) λm u=>
       hO (gy f [m])<|some (.next ((gU f [m]),u))) (λt=>Tm.jF (a+gk k) t s) nh l (by
       intro t c r S j v C T hv;have U:=hs.arg t c;have hm:=eJ Tm.acO c;obtain⟨q',V,a1,a2,a3⟩:=H t r q S (a+gk k) (by omega) T ((NE.kp C).node _ _ Y) U (by omega) (by omega) (Q t c);refine⟨q',V,?_,a2,a3⟩;simp only[mY,(NE.kp C).below J,cl,w];rw[fu (by omega) (by omega),a1];simp only[eb];rw[fA (by simpa using hv)]
       rfl) x.acN 0 nh [] [] (Kp.refl _) O .nil (by simp;omega)
     rw[g1];simp only[cl,en,mY];obtain⟨x2,c1⟩:=(NE.kp g2).get p x J;unfold gY;simp only[cl,c1]
     have D:∀t∈l,(Tm.jF (a+gk k) t s).acO<=t.acO+t.acU (a+gk k)*s.acO:=by
      intro t c;have:=Tm.r7 s t (a+gk k) (P t c);omega
     obtain⟨W,d1,d2,d3⟩:=sF (k:=k) (i:=i) (s:=ty) (ps:=v') (ts:=l.map (λt=>Tm.jF (a+gk k) t s)) (nh:=b) (by simpa using g3) (by
      rw[qn];have o:=kP D
      have e:∀l:List Tm,ez (λt=>t.acO+t.acU (a+gk k)*s.acO) l=ez Tm.acO l+ez (Tm.acU (a+gk k)) l*s.acO:=by
       intro l
       induction l with
       |nil=>simp[ez]|cons t l H=>simp only[ez,H,AR];omega
      rw[e] at o
      omega) (by omega) (by
      intro t c;obtain⟨y,hy,rfl⟩:=oi.1 c;have hm:=eJ Tm.acO hy;have:=Tm.Sz (Tm.jF (a+gk k) y s) (M:=M+N+(a+gk k)+y.acO) (by omega) (Tm.Tc s d.ok y _ (by omega) (P y hy)) (JG (M:=M) (by omega) s d.acS y _ (by omega) (by omega) (hs.arg y hy).acS (P y hy))
      omega)
     refine⟨b.length,W,?_,g2.trans d2,?_⟩
     ·rw[w,K,L,d1];rfl
     ·rw[Tm.kV,ea G];exact d3
def uU(a b:Int):eH a b=decide (a=b):=by grind[eH]
def Xh{α:Type}{l:List α}(h:l.length=1):∃a,l=[a]:=by
 match l,h with|[a],_=>exact⟨a,rfl⟩
def W7{α:Type}{l:List α}(h:l.length=2):∃a b,l=[a,b]:=by
 match l,h with|[a,b],_=>exact⟨a,b,rfl⟩
def Zz{α:Type}{l:List α}(h:l.length=3):∃a b c,l=[a,b,c]:=by
 match l,h with|[a,b,c],_=>exact⟨a,b,c,rfl⟩
def va.inv1{nh:List HC}{ps:List (Option Nat)}{a:Tm}(h:va nh ps [a]):∃p,ps=[some p]/\NR nh p a:=by
 cases h with|cons b c=>cases c;exact⟨_,rfl,b⟩
def va.inv2{nh:List HC}{ps:List (Option Nat)}{a b:Tm}(h:va nh ps [a,b]):∃p q,ps=[some p,some q]/\NR nh p a/\NR nh q b:=by
 cases h with|cons c d=>obtain⟨q,rfl,e⟩:=d.inv1;exact⟨_,q,rfl,c,e⟩
def va.L'{nh:List HC}{ps:List (Option Nat)}{a b c:Tm}(h:va nh ps [a,b,c]):∃p q r,ps=[some p,some q,some r]/\NR nh p a/\NR nh q b/\NR nh r c:=by
 cases h with|cons d e=>obtain⟨q,r,rfl,f,g⟩:=e.inv2;exact⟨_,q,r,rfl,d,f,g⟩
def va.ab5{nh:List HC}{ps:List (Option Nat)}(h:va nh ps []):ps=[]:=by cases h;rfl
def Tm.w8{k i:Int}{s:Ty}{l:List Tm}(h:(Tm.mk k i s l).ok=true):(l.length:Int)=iN k:=(Tm.lB h).2.2.2.2
def Tm.ok3{i:Int}{s:Ty}{l:List Tm}(h:(Tm.mk 3 i s l).ok=true):∃a b,l=[a,b]:=W7 (by have:=Tm.w8 h;have e:iN 3=2:=rfl;omega)
def Tm.ok6{i:Int}{s:Ty}{l:List Tm}(h:(Tm.mk 6 i s l).ok=true):∃a b c,l=[a,b,c]:=Zz (by have:=Tm.w8 h;have e:iN 6=3:=rfl;omega)
def Tm.ok9{i:Int}{s:Ty}{l:List Tm}(h:(Tm.mk 9 i s l).ok=true):∃a b c,l=[a,b,c]:=Zz (by have:=Tm.w8 h;have e:iN 9=3:=rfl;omega)
def Tm.ok2{i:Int}{s:Ty}{l:List Tm}(h:(Tm.mk 2 i s l).ok=true):∃a,l=[a]:=Xh (by have:=Tm.w8 h;have e:iN 2=1:=rfl;omega)
def Tm.Xt{k i:Int}{s:Ty}{l:List Tm}(b:k=11\/k=12)(h:(Tm.mk k i s l).ok=true):∃a,l=[a]:=Xh (by
 have:=Tm.w8 h;rcases b with rfl|rfl
 ·have e:iN 11=1:=rfl;omega
 ·have e:iN 12=1:=rfl;omega)
def Tm.abS{i:Int}{s:Ty}{l:List Tm}(h:(Tm.mk 10 i s l).ok=true):∃a b,l=[a,b]:=W7 (by have:=Tm.w8 h;have e:iN 10=2:=rfl;omega)
def Tm.ok0{k i:Int}{s:Ty}{l:List Tm}(a:k=4\/k=7)(h:(Tm.mk k i s l).ok=true):l=[]:=Dt (by
 have:=Tm.w8 h;rcases a with rfl|rfl
 ·have e:iN 4=0:=rfl;omega
 ·have e:iN 7=0:=rfl;omega)
def Tm.ok5{i:Int}{s:Ty}{l:List Tm}(h:(Tm.mk 5 i s l).ok=true):∃a,l=[a]:=Xh (by have:=Tm.w8 h;have e:iN 5=1:=rfl;omega)
def Tm.ok8{i:Int}{s:Ty}{l:List Tm}(h:(Tm.mk 8 i s l).ok=true):∃a b,l=[a,b]:=W7 (by have:=Tm.w8 h;have e:iN 8=2:=rfl;omega)
theorem Tm.xa{k i:Int}{s:Ty}{l:List Tm}(h:(Tm.mk k i s l).ok=true):∀t∈l,t.ok=true:=(Tm.lB h).2.2.2.1
inductive Tm.Rd:Tm->Prop
 |app {i s i' s' b a}:Tm.Rd (.mk 3 i s [.mk 2 i' s' [b],a])|zero {k ko i s i' s' b st}:(k=6/\ko=4\/k=9/\ko=7)->Tm.Rd (.mk k i s [b,st,.mk ko i' s' []])|succ {i s i' s' b st n}:Tm.Rd (.mk 6 i s [b,st,.mk 5 i' s' [n]])|cons {i s i' s' b st h t}:Tm.Rd (.mk 9 i s [b,st,.mk 8 i' s' [h,t]])|proj {k i s i' s' a b}:(k=11\/k=12)->Tm.Rd (.mk k i s [.mk 10 i' s' [a,b]])
def Tm.Jx{t:Tm}(d:t.ok=true)(h:t.root=true):t.Rd:=by
 cases t with
 |mk k i s l=>
  unfold Tm.root at h;simp only[p9,gO,nA] at h;rcases h with((⟨rfl,h⟩|⟨rfl,h⟩)|⟨rfl,h⟩)|⟨e,h⟩
  ·obtain⟨a,b,rfl⟩:=Tm.ok3 d;cases a with
   |mk k' f g j=>
    have e:k'=2:=by simpa[Tm.kd] using h
    subst e;obtain⟨q,rfl⟩:=Tm.ok2 (Tm.xa d (.mk 2 f g j) (by simp));exact .app
  ·obtain⟨a,b,c,rfl⟩:=Tm.ok6 d;cases c with
   |mk k' f g j=>
    have e:k'=4\/k'=5:=by simpa[Tm.kd] using h
    have o:=Tm.xa d (.mk k' f g j) (by simp);rcases e with rfl|rfl
    ·rw[Tm.ok0 (.inl rfl) o];exact .zero (.inl ⟨rfl,rfl⟩)
    ·obtain⟨n,rfl⟩:=Tm.ok5 o;exact .succ
  ·obtain⟨a,b,c,rfl⟩:=Tm.ok9 d;cases c with
   |mk k' f g j=>
    have e:k'=7\/k'=8:=by simpa[Tm.kd] using h
    have o:=Tm.xa d (.mk k' f g j) (by simp);rcases e with rfl|rfl
    ·rw[Tm.ok0 (.inr rfl) o];exact .zero (.inr ⟨rfl,rfl⟩)
    ·obtain⟨n,m,rfl⟩:=Tm.ok8 o;exact .cons
  ·obtain⟨a,rfl⟩:=Tm.Xt e d;cases a with
   |mk k' f g j=>
    have p:k'=10:=by simpa[Tm.kd] using h
    subst p;obtain⟨a,b,rfl⟩:=Tm.abS (Tm.xa d (.mk 10 f g j) (by simp));exact .proj e
def M5{nh:List HC}{p:Nat}{t:Tm}(v:NR nh p t)(j:t.ok=true):mW (some p) nh=some t.root:=by
 obtain⟨x,w,n,A,B,f,C,D,E⟩:=v.inv;unfold mW;simp only[cl,w,eA];cases t with
 |mk k i s l=>
  simp only[Tm.eM,Tm.eF] at n f;rw[n];unfold Tm.root
  by_cases o:k=3
  ·subst o;obtain⟨a,b,rfl⟩:=Tm.ok3 j;obtain⟨pa,pb,d,g,q⟩:=f.inv2;obtain⟨y,f1,f2,_⟩:=g.inv;rw[ee (by decide),d];simp[eU,f1,f2,Tm.kd,uU]
  ·rw[ea (by simpa using o)]
   by_cases r:k=6
   ·subst r;obtain⟨a,b,c,rfl⟩:=Tm.ok6 j;obtain⟨pa,pb,z,d,g,q,m⟩:=f.L';obtain⟨y,f1,f2,_⟩:=m.inv;rw[ee (by decide),d];simp only[jH,mT,jA,cl,f1,f2,Tm.kd,gA]
    by_cases h:c.acM=4
    ·simp[h]
    ·simp[h,uU]<;>exact Rq.2 Iff.rfl
   ·rw[ea (by simpa using r)]
    by_cases u:k=9
    ·subst u;obtain⟨a,b,c,rfl⟩:=Tm.ok9 j;obtain⟨pa,pb,z,d,g,q,m⟩:=f.L';obtain⟨y,f1,f2,_⟩:=m.inv;rw[ee (by decide),d];simp only[jH,mT,jA,cl,f1,f2,Tm.kd,gA]
     by_cases h:c.acM=7
     ·simp[h]
     ·simp[h,uU]<;>exact Rq.2 Iff.rfl
    ·rw[ea (by simpa using u)]
     by_cases e:k=11\/k=12
     ·obtain⟨a,rfl⟩:=Tm.Xt e j;obtain⟨pa,d,g⟩:=f.inv1;obtain⟨y,f1,f2,_⟩:=g.inv;rw[ee (by rcases e with rfl|rfl<;>rfl),d];simp only[eU,jA,cl,f1,f2,Tm.kd];rcases e with rfl|rfl<;>simp[uU]<;>exact Rq.2 Iff.rfl
     ·grind[mm,gA]
theorem pg:∀(l:List Tm) (f:Tm),(l6 f l).acO=f.acO+ez Tm.acO l+l.length
 |[],f=>by simp[l6,ez]|a::l,f=>by
  rw[l6,pg l,Tm.ef]
  grind[ez]
def KV{M:Int}(C:0<=M/\M<=500000000000):∀(ts:List Tm) (ps:List (Option Nat)) (nh:List HC) (b:Nat) (f:Tm),va nh ps ts->NR nh b f->(∀t∈ts,0<=t.fr/\t.fr<=M)->0<=f.fr/\f.fr<=M->f.acO+ez Tm.acO ts+ts.length<=10000000->∃c a,rU (some b) ps nh=some (some c,a)/\Kp nh a/\NR a c (l6 f ts):=by
 intro ts ps nh b f g h d j hn;have hlen:ps.length=ts.length:=g.len;unfold rU;rw[eC (by omega)];simp only[eo,eA]
 have loop:∀(ts:List Tm) (ps:List (Option Nat)) (i:Nat) (nh:List HC) (b:Nat) (f:Tm),va nh ps ts->NR nh b f->(∀t∈ts,0<=t.fr/\t.fr<=M)->0<=f.fr/\f.fr<=M->f.acO+ez Tm.acO ts+ts.length<=10000000->∃c a,fo (λ(v:Int) (o:Option Nat)=>(uD λ(v171:Option Nat) (l:List HC)=>
    ej (kI 3 0 (Ty.mk 0 []) [v171,o] l) λm e=>some ((.next (m,e)):gw ((Option Nat)×List HC) ((Option Nat)×List HC)))) ps i (some b,nh)=some (.inl (some c,a))/\Kp nh a/\NR a c (l6 f ts):=by
  intro ts
  induction ts with
  |nil=>
   intro ps i nh b f g h _ _ _;cases g;exact⟨b,nh,rfl,Kp.refl _,h⟩
  |cons t ts w=>
   intro ps i nh b f g h d j hn;cases g with
   |cons x y=>
    rename_i p ps;simp only[ez,l5] at hn;have D:=d t (by simp)
    obtain⟨q,a1,a2,a3⟩:=sF (k:=3) (i:=0) (s:=.mk 0 []) (ps:=[some b,some p]) (ts:=[f,t]) (nh:=nh) (.cons h (.cons x .nil)) (by simp[ez];omega) (by omega) (by
     intro u hu;simp only[l7,wV,Ux] at hu
     rcases hu with rfl|rfl<;>omega)
    have r:=NE.kp a2
    have n:0<=(Tm.mk 3 0 (.mk 0 []) [f,t]).fr/\(Tm.mk 3 0 (.mk 0 []) [f,t]).fr<=M:=by grind[Tm.fr,Tm.IN,tG]
    obtain⟨c,a,z,A,B⟩:=w ps (i+1) q nh.length (.mk 3 0 (.mk 0 []) [f,t]) (r.list y) a3 (λu hu=>d u (by simp[hu])) n (by
     rw[Tm.ef];simp only[ez];omega)
    refine⟨c,a,?_,a2.trans A,B⟩;rw[fl];simp only[mY,a1,eb,cl,fv];exact z
 obtain⟨c,a,a1,a2,a3⟩:=loop ts ps 0 nh b f g h d j hn;rw[a1];exact⟨c,a,rfl,a2,a3⟩
def NV{α:Type}(a:α):eI [a] (fG .i64 (eN [a]) 1)=some a:=by
 have:fG .i64 (eN [a]) 1=0:=by simp only[fV,l5,wv];decide
 rw[this];rfl
def OW{α:Type}(a b:α):eI [a,b] (fG .i64 (eN [a,b]) 1)=some b:=by
 have:fG .i64 (eN [a,b]) 1=1:=by simp only[fV,l5,wv];decide
 rw[this];rfl
def EK{M:Int}(hM:0<=M/\M<=90000000000){nh:List HC}{p:Nat}{t:Tm}(hr:NR nh p t)(hs:Sm M t)(hn:t.acO<=8192)(F:t.root=true):∃R l,je (some p) nh=some (some R,l)/\Kp nh l/\NR l R t.gb:=by
 have U:=Tm.Jx hs.ok F;obtain⟨x,V,g,S,T,w,e6,e7,e8⟩:=hr.inv;unfold je;simp only[cl,V];have e:∀u:Tm,Sm M u->0<=u.fr/\u.fr<=M+1:=λu hu=>hu.fr hM.1;cases U with
 |app=>
  rename_i i s z A b a;simp only[Tm.eM,Tm.eF] at g w;obtain⟨pf,pa,B,W,X⟩:=w.inv2;obtain⟨y,f1,f2,f3,f4,f5,_⟩:=W.inv;simp only[Tm.eM,Tm.eF] at f2 f5;obtain⟨pb,C,D⟩:=f5.inv1;have Y:=hs.arg (.mk 2 z A [b]) (by simp);have Z:=hs.arg a (by simp);have m:=Y.arg b (by simp);rw[Tm.ef] at hn;simp only[ez,Tm.ef] at hn;have af:=Tm.jf b 0;have hmul:b.acU 0*a.acO<=8192*8192:=XJ (by omega) (by omega);obtain⟨R,l,g1,g2,g3⟩:=put_eq (M:=M) (N:=M) (by omega) (by omega) a Z FU b pb pa nh 0 (by rw[fC];omega) D X m (by omega) (by omega) (by omega);refine⟨R,l,?_,g2,g3⟩;rw[g,ee (by decide),B];simp only[eU,gu,jA,mT,cl,f1,C,g1,eb]
 |proj hk=>
  rename_i k i s z A a b;simp only[Tm.eM,Tm.eF] at g w;obtain⟨pf,B,W⟩:=w.inv1;obtain⟨y,f1,f2,f3,f4,f5,_⟩:=W.inv;simp only[Tm.eM,Tm.eF] at f2 f5;obtain⟨pa,pb,C,X,D⟩:=f5.inv2;rcases hk with rfl|rfl
  ·refine⟨pa,nh,?_,Kp.refl _,by simpa[Tm.gb] using X⟩;rw[g,ea (by decide),ee (by decide),B];simp only[eU,jA,cl,f1,C]
  ·refine⟨pb,nh,?_,Kp.refl _,by simpa[Tm.gb] using D⟩;rw[g,ea (by decide),ea (by decide),ee (by decide),B];simp only[eU,gu,jA,mT,cl,f1,C]
 |zero hk=>
  rename_i k ko i s z A b st;simp only[Tm.eM,Tm.eF] at g w;obtain⟨pb,ps,po,B,D,j,L⟩:=w.L';obtain⟨y,f1,f2,f3,f4,f5,_⟩:=L.inv;simp only[Tm.eM,Tm.eF] at f2 f5;have O:=f5.ab5;refine⟨pb,nh,?_,Kp.refl _,?_⟩
  ·have f:k≠3/\k≠11/\k≠12:=by omega
   rw[g,ea (by simpa using f.1),ea (by simpa using f.2.1),ea (by simpa using f.2.2),B];simp only[eU,gu,jH,jA,mT,cl,f1,O];rfl
  ·have:(Tm.mk k i s [b,st,.mk ko z A []]).gb=b:=by
    have f:k≠3/\k≠11/\k≠12:=by omega
    simp[Tm.gb,f.1,f.2.1,f.2.2]
   rw[this];exact D
 |succ=>
  rename_i i s z A b st n;simp only[Tm.eM,Tm.eF,Tm.gl,Tm.ft] at g S T w;obtain⟨pb,ps,po,B,D,j,L⟩:=w.L';obtain⟨y,f1,f2,f3,f4,f5,_⟩:=L.inv;simp only[Tm.eM,Tm.eF] at f2 f5;obtain⟨P,o,q⟩:=f5.inv1;have m:=hs.arg b (by simp);have G:=hs.arg st (by simp);have E:=hs.arg (.mk 5 z A [n]) (by simp);have H:=E.arg n (by simp);rw[Tm.ef] at hn;simp only[ez,Tm.ef] at hn;have Q:=hs.idx;have b1:=e b m;have b2:=e st G;have b3:=e n H
  obtain⟨I,a1,a2,a3⟩:=sF (k:=6) (i:=i) (s:=s) (ps:=[some pb,some ps,some P]) (ts:=[b,st,n]) (nh:=nh) (.cons D (.cons j (.cons q .nil))) (by simp[ez];omega) (by omega) (by
   intro u hu;simp only[l7,wV,Ux] at hu
   rcases hu with rfl|rfl|rfl<;>omega)
  have d:=NE.kp a2;obtain⟨c,fc⟩:=d.get _ _ f1;obtain⟨p2,J,d1,d2,d3⟩:=KV (M:=M+1) (by omega) [n] [some P] I ps st (.cons (d.node _ _ q) .nil) (d.node _ _ j) (by intro u hu;simp only[l7,wV,Ux] at hu;subst hu;omega) (by omega) (by simp[ez];omega)
  have r:0<=(Tm.mk 6 i s [b,st,n]).fr/\(Tm.mk 6 i s [b,st,n]).fr<=M+1:=by
   rw[Tm.fr,ea (by decide),ea (by decide)];simp only[Tm.IN,tG];omega
  have v:0<=(l6 st [n]).fr/\(l6 st [n]).fr<=M+1:=by
   simp only[l6];rw[Tm.fr,ea (by decide),ea (by decide)];simp only[Tm.IN,tG];omega
  have aa:(Tm.mk 6 i s [b,st,n]).acO<=10000:=by rw[Tm.ef];simp only[ez];omega
  have ab:(l6 st [n]).acO<=10000:=by rw[pg];simp only[ez,l5,wv];omega
  obtain⟨p3,K,g1,g2,g3⟩:=KV (M:=M+1) (by omega) [.mk 6 i s [b,st,n]] [some nh.length] J p2 (l6 st [n]) (.cons ((NE.kp d2).node _ _ a3) .nil) d3 (by intro u hu;simp only[l7,wV,Ux] at hu;subst hu;exact r) v (by simp only[ez,l5,wv];omega);refine⟨p3,K,?_,(a2.trans d2).trans g2,?_⟩
  ·rw[g,ea (by decide),ea (by decide),ea (by decide),B];simp only[eU,gu,jH,jA,mT,cl,f1,o];rw[ea (by simp only[fV,l5,wv];decide),NV];unfold gY;simp only[cl,V,g,S,T,a1,eb,fc,o,d1,g1]
  ·have:(Tm.mk 6 i s [b,st,.mk 5 z A [n]]).gb=l6 (l6 st [n]) [.mk 6 i s [b,st,n]]:=by simp[Tm.gb,l6]
   rw[this];exact g3
 |cons=>
  rename_i i s z A b st h n;simp only[Tm.eM,Tm.eF,Tm.gl,Tm.ft] at g S T w;obtain⟨pb,ps,po,B,D,j,L⟩:=w.L';obtain⟨y,f1,f2,f3,f4,f5,_⟩:=L.inv;simp only[Tm.eM,Tm.eF] at f2 f5;obtain⟨ph,P,o,ad,q⟩:=f5.inv2;have m:=hs.arg b (by simp);have G:=hs.arg st (by simp);have E:=hs.arg (.mk 8 z A [h,n]) (by simp);have H:=E.arg n (by simp);have ae:=E.arg h (by simp);rw[Tm.ef] at hn;simp only[ez,Tm.ef] at hn;have Q:=hs.idx;have b1:=e b m;have b2:=e st G;have b3:=e n H;have b4:=e h ae
  obtain⟨I,a1,a2,a3⟩:=sF (k:=9) (i:=i) (s:=s) (ps:=[some pb,some ps,some P]) (ts:=[b,st,n]) (nh:=nh) (.cons D (.cons j (.cons q .nil))) (by simp[ez];omega) (by omega) (by
   intro u hu;simp only[l7,wV,Ux] at hu
   rcases hu with rfl|rfl|rfl<;>omega)
  have d:=NE.kp a2;obtain⟨c,fc⟩:=d.get _ _ f1;obtain⟨p2,J,d1,d2,d3⟩:=KV (M:=M+1) (by omega) [h,n] [some ph,some P] I ps st (.cons (d.node _ _ ad) (.cons (d.node _ _ q) .nil)) (d.node _ _ j) (by intro u hu;simp only[l7,wV,Ux] at hu;rcases hu with rfl|rfl<;>omega) (by omega) (by simp[ez];omega)
  have r:0<=(Tm.mk 9 i s [b,st,n]).fr/\(Tm.mk 9 i s [b,st,n]).fr<=M+1:=by
   rw[Tm.fr,ea (by decide),ea (by decide)];simp only[Tm.IN,tG];omega
  have v:0<=(l6 st [h,n]).fr/\(l6 st [h,n]).fr<=M+1:=by
   simp only[l6];rw[Tm.fr,ea (by decide),ea (by decide)];simp only[Tm.IN];rw[Tm.fr,ea (by decide),ea (by decide)];simp only[Tm.IN,tG];omega
  have aa:(Tm.mk 9 i s [b,st,n]).acO<=10000:=by rw[Tm.ef];simp only[ez];omega
  have ab:(l6 st [h,n]).acO<=10000:=by rw[pg];simp only[ez,l5,wv];omega
  obtain⟨p3,K,g1,g2,g3⟩:=KV (M:=M+1) (by omega) [.mk 9 i s [b,st,n]] [some nh.length] J p2 (l6 st [h,n]) (.cons ((NE.kp d2).node _ _ a3) .nil) d3 (by intro u hu;simp only[l7,wV,Ux] at hu;subst hu;exact r) v (by simp only[ez,l5,wv];omega);refine⟨p3,K,?_,(a2.trans d2).trans g2,?_⟩
  ·rw[g,ea (by decide),ea (by decide),ea (by decide),B];simp only[eU,gu,jH,jA,mT,cl,f1,o];rw[ea (by simp only[fV,l5,wv];decide),OW];unfold gY;simp only[cl,V,g,S,T,a1,eb,fc,o,d1,g1]
  ·have:(Tm.mk 9 i s [b,st,.mk 8 z A [h,n]]).gb=l6 (l6 st [h,n]) [.mk 9 i s [b,st,n]]:=by simp[Tm.gb,l6]
   rw[this];exact g3
def Fl:∀(n:Nat) (t:Ty),t.acO<=n->t.acO<=1000000000->kR n t=some t:=by
 intro n
 induction n with
 |zero=>intro t h;have:=t.eP;omega
 |succ n a=>
  intro t h b;cases t with
  |mk k l=>
   rw[Ty.ef] at h b;have e:=Ty.fK l;rw[kR];simp only[Ty.eF,Ty.eM,eA,eC (l:=l) (by omega),eo];rw[jq id l 0 [] (by simp;omega)]
   ·simp
   ·intro j x v c d;have:=eJ Ty.acO c;rw[a x (by omega) (by omega)];simp[fA (l:=v) (m:=[x]) (by simpa using d)]
def pJ{t:Ty}(h:t.acO<=1000000000):kR FU t=some t:=Fl FU t (by rw[fC];exact h) h
def Ty.wW{k i:Int}{s:Ty}{n:Nat}(h:Tm.node k i s n=true):s.acO<=64:=by
 unfold Tm.node at h;simp only[gO] at h;have a:=h.2
 by_cases b:kJ k=true
 ·rw[ee b] at a;simp only[nA] at a;unfold Ty.err at a
  split at a
  ·split at a
   ·omega
   ·omega
  ·omega
 ·rw[ea b] at a;rw[(Ty.mR s).1 a,Ty.ef];simp[ez]
def U_{M:Int}(C:0<=M/\M<=500000000000):∀(n:Nat) (t:Tm) (nh:List HC),t.acO<=n->Sm M t->∃p a,qi n t nh=some (some p,a)/\Kp nh a/\NR a p t:=by
 intro n
 induction n with
 |zero=>intro t nh h;have:=t.eP;omega
 |succ n D=>
  intro t nh h hs;cases t with
  |mk k i s l=>
   have m:=hs.acO;have A:=hs.idx;rw[Tm.ef] at h m;have hlen:=Tm.fK l;rw[qi];simp only[Tm.eF,Tm.eM,Tm.gl,Tm.ft,eA,eC (l:=l) (by omega),eo]
   have loop:∀(ts:List Tm) (i:Nat) (nh:List HC) (v:List (Option Nat)) (us:List Tm),(∀t∈ts,t∈l)->va nh v us->v.length+ts.length<=1000000->∃e a,fo (λ(B:Int) (f:Tm)=>(uD λ(b:(List (Option Nat))) (g:List HC)=>
      ej (qi n f g) λc d=>
      hO (gy b [c])<|some ((.next ((gU b [c]),d)):gw ((List (Option Nat))×List HC) ((Option Nat)×List HC)))) ts i (v,nh)=some (.inl (e,a))/\Kp nh a/\va a e (us++ts):=by
    intro ts
    induction ts with
    |nil=>intro i nh v us _ o _;exact⟨v,nh,rfl,Kp.refl _,by simpa using o⟩|cons t ts q=>
     intro i nh v us hm o E;simp only[l5] at E;have j:=hm t (by simp);have F:=eJ Tm.acO j;obtain⟨p,r,a1,a2,a3⟩:=D t nh (by omega) (hs.arg t j);obtain⟨e,a,w,x,y⟩:=q (i+1) r (v++[some p]) (us++[t]) (λu hu=>hm u (by simp[hu])) (((NE.kp a2).list o).append (.cons a3 .nil)) (by simp;omega);refine⟨e,a,?_,a2.trans x,by simpa using y⟩;rw[fl];simp only[mY,a1,eb];rw[fA (by simp;omega)];simp only[eo,g_,cl,fv];exact w
   obtain⟨e,a,a1,a2,a3⟩:=loop l 0 nh [] [] (λt h=>h) .nil (by simp;omega);rw[a1];simp only[cl,en,mY]
   obtain⟨z,w,x,y⟩:=sF (k:=k) (i:=i) (s:=s) (ps:=e) (ts:=l) (nh:=a) (by simpa using a3) (by omega) (by omega) (by
    intro t G;have:=(hs.arg t G).fr C.1
    omega)
   exact⟨a.length,z,by rw[w];rfl,a2.trans x,y⟩
def PI{M:Int}(nh:List HC):∀(n:Nat) (t:Tm) (p:Nat),t.acO<=n->Sm M t->NR nh p t->iW n (some p) nh=some t:=by
 intro n
 induction n with
 |zero=>intro t p h;have:=t.eP;omega
 |succ n w=>
  intro t p h hs y;obtain⟨x,z,m,o,q,f,F,G,H⟩:=y.inv;cases t with
  |mk k i s l=>
   simp only[Tm.eM,Tm.eF,Tm.gl,Tm.ft] at m o q f;have g:=hs.acO;rw[Tm.ef] at h g;have hlen:=Tm.fK l;have A:x.acN.length=l.length:=f.len;have c:=hs.ok;rw[Tm.ia,gO] at c;have B:=Ty.wW c.1;rw[iW];simp only[cl,z,m,o,q,eA,eC (l:=x.acN) (by omega),eo];rw[pJ (by omega)];simp only[cl]
   have loop:∀(ts:List Tm) (ps:List (Option Nat)) (i:Nat) (v:List Tm),(∀t∈ts,t∈l)->va nh ps ts->v.length+ts.length<=1000000->fo (λ(r:Int) (d:Option Nat)=>(λ(a:List Tm)=>
      cv (iW n d nh) λb=>
      hO (gy a [b])<|some ((.next (gU a [b])):gw (List Tm) Tm))) ps i v=some (.inl (v++ts)):=by
    intro ts
    induction ts with
    |nil=>intro ps i v _ h _;cases h;simp
    |cons t ts j=>
     intro ps i v hm h C;simp only[l5] at C;have e:=hm t (by simp);have D:=eJ Tm.acO e;cases h with
     |cons q1 E=>
      rw[fl,w t _ (by omega) (hs.arg t e) q1];simp only[cl];rw[fA (by simp;omega)];simp only[eo,cl,fv];rw[j _ (i+1) (gU v [t]) (λu hu=>hm u (by simp[hu])) E (by rw[zE];simp;omega)];simp
   rw[loop l x.acN 0 [] (λt h=>h) f (by simp;omega)];simp
mutual
def NR.det{nh:List HC}:∀{p:Nat} {t u:Tm},NR nh p t->NR nh p u->t=u
 |_,_,_,.mk (x:=x) a b _ _ _,.mk (x:=y) g1 g2 _ _ _=>by
  rw[a] at g1;obtain rfl:=iD g1;rw[va.det b g2]
def va.det{nh:List HC}:∀{ps:List (Option Nat)} {ts us:List Tm},va nh ps ts->va nh ps us->ts=us
 |_,_,_,.nil,.nil=>rfl|_,_,_,.cons a b,.cons g1 g2=>by rw[NR.det a g1,va.det b g2]
end
def NE.flag{nh:List HC}{p:Nat}{t:Tm}{x:eR}(w:NR nh p t)(r:HC.er nh p=some x)(g:t.nf=true):NE nh (kF nh p (HC.eS {x with normal:=true})):=by
 have v:=HC.ey r;have j:=(pK.1 v).1
 have e:HC.er (kF nh p (HC.eS {x with normal:=true})) p=some {x with normal:=true}:=by
  unfold HC.er kF;simp[j]
 have a:∀q,q≠p->(kF nh p (HC.eS {x with normal:=true}))[q]?=nh[q]?:=by
  intro q c;unfold kF;rw[Uh (λh=>c h.symm)]
 have d:∀q y,HC.er nh q=some y->∃b,HC.er (kF nh p (HC.eS {x with normal:=true})) q=some {y with normal:=b}/\(b=true->y.normal=true\/q=p):=by
  intro q y hy
  by_cases c:q=p
  ·subst c;rw[r] at hy;obtain rfl:=iD hy;exact⟨true,e,λ_=>.inr rfl⟩
  ·refine⟨y.normal,?_,λh=>.inl h⟩;have:=a q c;unfold HC.er at hy|-;rw[this];exact hy
 have key:∀n,(∀q u,u.acO<=n->NR nh q u->NR (kF nh p (HC.eS {x with normal:=true})) q u):=by
  intro n
  induction n with
  |zero=>intro q u h;have:=u.eP;omega
  |succ n z=>
   intro q u hu c;obtain⟨y,A,B,C,D,E,F,G,H⟩:=c.inv;obtain⟨b,f1,f2⟩:=d q y A
   have f:∀(ts:List Tm) (ps:List (Option Nat)),(∀t∈ts,t.acO<=n)->va nh ps ts->va (kF nh p (HC.eS {x with normal:=true})) ps ts:=by
    intro ts
    induction ts with
    |nil=>intro ps _ h;cases h;exact .nil
    |cons t ts m=>
     intro ps hm h;cases h with
     |cons g1 g2=>exact .cons (z _ _ (hm t (by simp)) g1) (m _ (λu hu=>hm u (by simp[hu])) g2)
   refine NR.of f1 B C D (f _ _ ?_ E) F G ?_
   ·intro t I;cases u with
    |mk k i s l=>
     rw[Tm.ef] at hu;have:=eJ Tm.acO I;simp only[Tm.eF] at this;omega
   ·intro J;rcases f2 J with h|h
    ·exact H h
    ·subst h;rw[<-NR.det w c];exact g
 refine⟨λq u h=>key _ q u (jw _) h,?_,λq y h=>?_⟩
 ·intro q st c
  have o:q≠p:=by
   rintro rfl;have:=HC.gZ c;rw[v] at this;cases this
  unfold HC.fp at c|-;rw[a q o];exact c
 ·obtain⟨b,K,_⟩:=d q y h;exact⟨b,K⟩
mutual
def Tm.FO(room:Int):Tm->Option (Option Tm)
 |.mk k i s l=>if(Tm.mk k i s l).root=true then(if((Tm.mk k i s l).gb.acO:Int)-((Tm.mk k i s l).acO:Int)>room then none else some (some (Tm.mk k i s l).gb))
  else match Tm.rB room l with
   |none=>none|some none=>some none|some (some a)=>some (some (.mk k i s a))
def Tm.rB(room:Int):List Tm->Option (Option (List Tm))
 |[]=>some none|t::l=>match t.FO room with
  |none=>none|some (some a)=>some (some (a::l))|some none=>match Tm.rB room l with
   |none=>none|some none=>some none|some (some b)=>some (some (t::b))
end
def Kg:∀(l:List Tm) (f:Tm),f.ok=true->(∀t∈l,t.ok=true)->(l6 f l).ok=true
 |[],f,h,_=>h|a::l,f,h,b=>by
  rw[l6];refine Kg l _ ?_ λt d=>b t (by simp[d]);rw[Tm.ia];simp only[gO,ll];refine⟨rfl,?_⟩;intro x c;simp only[l7,wV,Ux] at c;rcases c with rfl|rfl
  ·exact h
  ·exact b _ (by simp)
def BK{M:Int}(b:0<=M):∀(l:List Tm) (f:Tm),f.acS M=true->(∀t∈l,t.acS M=true)->(l6 f l).acS M=true
 |[],f,h,_=>h|a::l,f,h,c=>by
  rw[l6];refine BK b l _ ?_ λt e=>c t (by simp[e]);rw[Tm.fX];simp only[gO,ll,nA];refine⟨b,?_⟩;intro x d;simp only[l7,wV,Ux] at d;rcases d with rfl|rfl
  ·exact h
  ·exact c _ (by simp)
def Tm.KT{k i:Int}{s:Ty}{l m:List Tm}(h:(Tm.mk k i s l).ok=true)(a:m.length=l.length)(hm:∀t∈m,t.ok=true):(Tm.mk k i s m).ok=true:=by
 rw[Tm.ia] at h|-;simp only[gO,ll] at h|-;rw[a];exact⟨h.1,hm⟩
def Tm.BX{M k i:Int}{s:Ty}{l m:List Tm}(h:(Tm.mk k i s l).acS M=true)(hm:∀t∈m,t.acS M=true):(Tm.mk k i s m).acS M=true:=by
 rw[Tm.fX] at h|-;simp only[gO,ll,nA] at h|-;exact⟨h.1,hm⟩
def R9{M:Int}(B:0<=M){t:Tm}(hs:Sm M t)(hn:t.acO<=8192)(z:t.root=true):t.gb.ok=true/\t.gb.acS (M+8192)=true:=by
 have v:=Tm.Jx hs.ok z;have up:∀u,Sm M u->u.acS (M+8192)=true:=λu hu=>(hu.mono (by omega)).acS;cases v with
 |app=>
  rename_i i s d f b a;have w:=hs.arg (.mk 2 d f [b]) (by simp);have p:=hs.arg a (by simp);have l:=w.arg b (by simp);rw[Tm.ef] at hn;simp only[ez,Tm.ef] at hn
  have e:(Tm.mk 3 i s [.mk 2 d f [b],a]).gb=Tm.jF 0 b a:=by simp[Tm.gb]
  rw[e];exact⟨Tm.Tc a p.ok b 0 (by omega) l.ok,JG (M:=M) (N:=M) (by omega) a p.acS b 0 (by omega) (by omega) l.acS l.ok⟩
 |proj x=>
  rename_i k i s d f a b;have q:=hs.arg (.mk 10 d f [a,b]) (by simp);rcases x with rfl|rfl
  ·have:=q.arg a (by simp);simpa[Tm.gb] using And.intro this.ok (up _ this)
  ·have:=q.arg b (by simp);simpa[Tm.gb] using And.intro this.ok (up _ this)
 |zero x=>
  rename_i k A i s d f b st
  have m:k≠3/\k≠11/\k≠12:=by omega
  have:(Tm.mk k i s [b,st,.mk A d f []]).gb=b:=by simp[Tm.gb,m.1,m.2.1,m.2.2]
  rw[this];have:=hs.arg b (by simp);exact⟨this.ok,up _ this⟩
 |succ=>
  rename_i i s d f b st n;have r:=hs.arg b (by simp);have g:=hs.arg st (by simp);have j:=(hs.arg (.mk 5 d f [n]) (by simp)).arg n (by simp)
  have e:(Tm.mk 6 i s [b,st,.mk 5 d f [n]]).gb=l6 st [n,.mk 6 i s [b,st,n]]:=by simp[Tm.gb,l6]
  rw[e];have o:(Tm.mk 6 i s [b,st,n]).ok=true:=Tm.KT hs.ok rfl (by intro t c;simp only[l7,wV,Ux] at c;rcases c with rfl|rfl|rfl;all_goals first|exact r.ok|exact g.ok|exact j.ok);have hle:(Tm.mk 6 i s [b,st,n]).acS (M+8192)=true:=Tm.BX (hs.mono (by omega)).acS (by intro t c;simp only[l7,wV,Ux] at c;rcases c with rfl|rfl|rfl;all_goals first|exact up _ r|exact up _ g|exact up _ j);refine⟨Kg _ _ g.ok ?_,BK (by omega) _ _ (up _ g) ?_⟩<;>
  ·intro t c;simp only[l7,wV,Ux] at c;rcases c with rfl|rfl
   ·first|exact j.ok|exact up _ j
   ·first|exact o|exact hle
 |cons=>
  rename_i i s d f b st h n;have r:=hs.arg b (by simp);have g:=hs.arg st (by simp);have j:=(hs.arg (.mk 8 d f [h,n]) (by simp)).arg n (by simp);have y:=(hs.arg (.mk 8 d f [h,n]) (by simp)).arg h (by simp)
  have e:(Tm.mk 9 i s [b,st,.mk 8 d f [h,n]]).gb=l6 st [h,n,.mk 9 i s [b,st,n]]:=by simp[Tm.gb,l6]
  rw[e];have o:(Tm.mk 9 i s [b,st,n]).ok=true:=Tm.KT hs.ok rfl (by intro t c;simp only[l7,wV,Ux] at c;rcases c with rfl|rfl|rfl;all_goals first|exact r.ok|exact g.ok|exact j.ok);have hle:(Tm.mk 9 i s [b,st,n]).acS (M+8192)=true:=Tm.BX (hs.mono (by omega)).acS (by intro t c;simp only[l7,wV,Ux] at c;rcases c with rfl|rfl|rfl;all_goals first|exact up _ r|exact up _ g|exact up _ j);refine⟨Kg _ _ g.ok ?_,BK (by omega) _ _ (up _ g) ?_⟩<;>
  ·intro t c;simp only[l7,wV,Ux] at c;rcases c with rfl|rfl|rfl
   ·first|exact y.ok|exact up _ y
   ·first|exact j.ok|exact up _ j
   ·first|exact o|exact hle
def Tm.xg(room k i:Int)(s:Ty)(l:List Tm):(Tm.mk k i s l).FO room=if(Tm.mk k i s l).root=true then(if((Tm.mk k i s l).gb.acO:Int)-((Tm.mk k i s l).acO:Int)>room then none else some (some (Tm.mk k i s l).gb))
 else match Tm.rB room l with
  |none=>none|some none=>some none|some (some a)=>some (some (.mk k i s a)):=by rw[Tm.FO]
def KD{M room:Int}(o:0<=M)(t:Tm):Sm M t->t.acO<=8192->∀e,t.FO room=some (some e)->e.ok=true/\e.acS (M+8192)=true/\(e.acO:Int)<=t.acO+room:=by
 induction t using Tm.ind with
 |h k i s l p=>
  intro hs hn e h;rw[Tm.xg] at h
  by_cases f:(Tm.mk k i s l).root=true
  ·rw[ee f] at h
   split at h
   ·cases h
   ·obtain rfl:=iD (iD h);obtain⟨q,r⟩:=R9 o hs hn f;exact⟨q,r,by omega⟩
  ·rw[ea f] at h;have up:∀u,Sm M u->u.acS (M+8192)=true:=λu hu=>(hu.mono (by omega)).acS;have g:=hn;rw[Tm.ef] at g
   have w:∀(ts a:List Tm),(∀t∈ts,t∈l)->Tm.rB room ts=some (some a)->a.length=ts.length/\(∀t∈a,t.ok=true/\t.acS (M+8192)=true)/\(ez Tm.acO a:Int)<=ez Tm.acO ts+room:=by
    intro ts
    induction ts with
    |nil=>intro a _ h;rw[Tm.rB] at h;cases h
    |cons t ts j=>
     intro a hm h;rw[Tm.rB] at h;have b:=hm t (by simp);have x:=eJ Tm.acO b;have c:=hs.arg t b
     split at h
     ·cases h
     ·rename_i u hu;obtain rfl:=iD (iD h);obtain⟨a1,a2,a3⟩:=p t b c (by omega) u hu;refine⟨rfl,?_,by simp only[ez];omega⟩;intro v hv;rcases l7.1 hv with rfl|hv
      ·exact⟨a1,a2⟩
      ·have:=hs.arg v (hm v (by simp[hv]));exact⟨this.ok,up _ this⟩
     ·split at h
      ·cases h
      ·cases h
      ·rename_i m d;obtain rfl:=iD (iD h);obtain⟨a1,a2,a3⟩:=j m (λu hu=>hm u (by simp[hu])) d;refine⟨by simp[a1],?_,by simp only[ez];omega⟩;intro v hv;rcases l7.1 hv with rfl|hv
       ·exact⟨c.ok,up _ c⟩
       ·exact a2 v hv
   split at h
   ·cases h
   ·cases h
   ·rename_i m d;obtain rfl:=iD (iD h);obtain⟨a1,a2,a3⟩:=w l m (λt h=>h) d;refine⟨Tm.KT hs.ok a1 λt n=>(a2 t n).1,Tm.BX (hs.mono (by omega)).acS λt n=>(a2 t n).2,?_⟩;rw[Tm.ef,Tm.ef];omega
def Hk(room:Int)(t:Tm):t.nf=true↔t.FO room=some none:=by
 induction t using Tm.ind with
 |h k i s l f=>
  rw[Tm.O6,Tm.xg]
  have g:∀ts:List Tm,(∀t∈ts,t∈l)->(ts.all Tm.nf=true↔Tm.rB room ts=some none):=by
   intro ts
   induction ts with
   |nil=>intro _;simp[Tm.rB]|cons t ts b=>
    intro hm;have j:=f t (hm t (by simp));have m:=b λu hu=>hm u (by simp[hu]);rw[wu,gO,j,m,Tm.rB];constructor
    ·rintro⟨c,d⟩;rw[c,d]
    ·intro h
     split at h
     ·cases h
     ·cases h
     ·rename_i c
      split at h
      ·cases h
      ·rename_i d;exact⟨c,d⟩
      ·cases h
  have:=g l λt h=>h
  by_cases a:(Tm.mk k i s l).root=true
  ·rw[ee a,a];simp
   try(split<;>simp)
  ·rw[ea a];simp only[gO,P7,this];constructor
   ·rintro⟨_,e⟩;rw[e]
   ·intro h;refine⟨by simpa using a,?_⟩
    split at h
    ·cases h
    ·rename_i e;exact e
    ·cases h
def S2{M:Int}{t:Tm}(hs:Sm M t)(hn:t.acO<=8192)(c:t.root=true):(t.gb.acO:Int)<=1000000000:=by
 have d:=Tm.Jx hs.ok c;cases d with
 |app=>
  rename_i i s g h b a;rw[Tm.ef] at hn;simp only[ez,Tm.ef] at hn;have e:=hs.arg (.mk 2 g h [b]) (by simp);have j:=Tm.r7 a b 0 (e.arg b (by simp)).ok;have k:=Tm.jf b 0;have hmul:b.acU 0*a.acO<=8192*8192:=XJ (by omega) (by omega)
  grind[Tm.jF,Tm.gb]
 |proj f=>
  rw[Tm.ef] at hn;simp only[ez,Tm.ef] at hn;rcases f with rfl|rfl<;>(simp[Tm.gb];omega)
 |zero f=>grind[Tm.gb,Tm.ef,ez]|succ=>grind[l6,Tm.gb,pg,Tm.ef,ez]|cons=>grind[l6,Tm.gb,pg,Tm.ef,ez]
def Rx{M:Int}(P:0<=M/\M<=90000000000){nh:List HC}{p:Nat}{t:Tm}(L:NR nh p t)(hs:Sm M t)(hn:t.acO<=8192)(d:t.root=true):pS (some p) nh=some (t.gb.acO:Int):=by
 have Q:=EK P L hs hn d;have D:=Tm.Jx hs.ok d;obtain⟨x,R,f,e3,e4,l,e6,e7,e8⟩:=L.inv;unfold pS mU;simp only[cl,R];cases D with
 |app=>
  rename_i i s m o b a;simp only[Tm.eM,Tm.eF] at f l;obtain⟨pf,pa,r,S,T⟩:=l.inv2;obtain⟨y,f1,f2,f3,f4,f5,_⟩:=S.inv;simp only[Tm.eM,Tm.eF] at f2 f5;obtain⟨pb,E,v⟩:=f5.inv1;have F:=hs.arg (.mk 2 m o [b]) (by simp);have U:=hs.arg a (by simp);have B:=F.arg b (by simp);rw[Tm.ef] at hn;simp only[ez,Tm.ef] at hn;obtain⟨z,g1,_,_,_,_,g6,_⟩:=v.inv;obtain⟨u,g,_,_,_,_,j,_⟩:=T.inv;rw[f,ee (by decide),r];simp only[eU,gu,jA,mT,cl,f1,E,g1];rw[count_eq (M:=M) (by omega) nh FU b pb 0 (by rw[fC];omega) v B (by omega) (by omega)];simp only[cl,g,eb,g6,j];have V:=Tm.jf b 0;have hmul:b.acU 0*a.acO<=8192*8192:=XJ (by omega) (by omega);have W:=Tm.r7 a b 0 B.ok;have X:=a.eP
  have e:(Tm.mk 3 i s [.mk 2 m o [b],a]).gb=Tm.jF 0 b a:=by simp[Tm.gb]
  rw[e]
  have hint:(b.acU 0:Int)*((a.acO:Int)-1)=((b.acU 0*a.acO:Nat):Int)-(b.acU 0:Int):=by rw[aak,Zs];simp
  rw[fF (by omega) (by omega),Ay (by rw[hint];omega) (by rw[hint];omega),hint,fu (by omega) (by omega)]
  congr 1
  omega
 |proj N=>
  rename_i k i s m o a b;obtain⟨p',Y,g1,g2,g3⟩:=Q;simp only[Tm.eM,Tm.eF] at f l;obtain⟨z,g,_,_,_,_,j,_⟩:=g3.inv
  have c:k≠3/\k≠6/\k≠9:=by omega
  rw[f,ea (by simpa using c.1),ea (by simpa using c.2.1),ea (by simpa using c.2.2),g1];simp only[eb,cl,g,j]
 |zero N=>
  rename_i k Z i s m o b st;simp only[Tm.eM,Tm.eF] at f l;obtain⟨pb,ps,O,r,v,q,C⟩:=l.L';obtain⟨y,f1,f2,f3,f4,f5,_⟩:=C.inv;obtain⟨z,g,_,_,_,_,j,_⟩:=v.inv;simp only[Tm.eM,Tm.eF] at f2 f5
  have c:k≠3/\k≠11/\k≠12:=by omega
  have:(Tm.mk k i s [b,st,.mk Z m o []]).gb=b:=by simp[Tm.gb,c.1,c.2.1,c.2.2]
  rw[this];rcases N with⟨rfl,rfl⟩|⟨rfl,rfl⟩
  ·rw[f,ea (by decide),ee (by decide),r];simp only[eU,gu,jH,jA,mT,cl,f1,f2,g,j];rw[ea (by decide)];rfl
  ·rw[f,ea (by decide),ea (by decide),ee (by decide),r];simp only[eU,gu,jH,jA,mT,cl,f1,f2,g,j];rw[ea (by decide)];rfl
 |succ=>
  rename_i i s m o b st n;simp only[Tm.eM,Tm.eF] at f l;obtain⟨pb,ps,O,r,v,q,C⟩:=l.L';obtain⟨y,f1,f2,f3,f4,f5,_⟩:=C.inv;simp only[Tm.eM,Tm.eF] at f2 f5;obtain⟨pn,w,A⟩:=f5.inv1;obtain⟨z1,g,_,_,_,_,j,_⟩:=v.inv;obtain⟨z2,G,_,_,_,_,H,_⟩:=q.inv;obtain⟨z3,I,_,_,_,_,J,_⟩:=A.inv;rw[Tm.ef] at hn;simp only[ez,Tm.ef] at hn
  have e:(Tm.mk 6 i s [b,st,.mk 5 m o [n]]).gb=l6 st [n,.mk 6 i s [b,st,n]]:=by simp[Tm.gb,l6]
  rw[e,pg];simp only[ez,Tm.ef,l5,wv];rw[f,ea (by decide),ee (by decide),r];simp only[eU,gu,jH,jA,mT,cl,f1,f2,w,g,G,I,j,H,J];rw[ee (by decide)];simp only[eb];rw[Ay (a:=2) (by omega) (by omega),fu (a:=2) (by omega) (by omega),fu (b:=2*(n.acO:Int)) (by omega) (by omega),fu (b:=1) (by omega) (by omega),fu (b:=(b.acO:Int)) (by omega) (by omega),fu (by omega) (by omega)]
  congr 1
  omega
 |cons=>
  rename_i i s m o b st h n;simp only[Tm.eM,Tm.eF] at f l;obtain⟨pb,ps,O,r,v,q,C⟩:=l.L';obtain⟨y,f1,f2,f3,f4,f5,_⟩:=C.inv;simp only[Tm.eM,Tm.eF] at f2 f5;obtain⟨ph,pn,w,K,A⟩:=f5.inv2;obtain⟨z1,g,_,_,_,_,j,_⟩:=v.inv;obtain⟨z2,G,_,_,_,_,H,_⟩:=q.inv;obtain⟨z3,I,_,_,_,_,J,_⟩:=A.inv;obtain⟨z4,q1,_,_,_,_,q6,_⟩:=K.inv;rw[Tm.ef] at hn;simp only[ez,Tm.ef] at hn
  have e:(Tm.mk 9 i s [b,st,.mk 8 m o [h,n]]).gb=l6 st [h,n,.mk 9 i s [b,st,n]]:=by simp[Tm.gb,l6]
  rw[e,pg];simp only[ez,Tm.ef,l5,wv];rw[f,ea (by decide),ea (by decide),ee (by decide),r];simp only[eU,gu,jH,jA,mT,cl,f1,f2,w,g,G,I,q1,j,H,J,q6];rw[ee (by decide)];simp only[eb];rw[Ay (a:=2) (by omega) (by omega),fu (a:=3) (by omega) (by omega),fu (b:=(h.acO:Int)) (by omega) (by omega),fu (b:=2*(n.acO:Int)) (by omega) (by omega),fu (b:=1) (by omega) (by omega),fu (b:=(b.acO:Int)) (by omega) (by omega),fu (by omega) (by omega)]
  congr 1
  omega
def GK{α:Type}(a:List α)(x y:α)(b:List α):(a++x::b).set a.length y=a++y::b:=by simp
def DC(room:Int)(p:Nat)(t:Tm)(nh:List HC)(o:Option ((Option Nat)×Int×List HC)):Prop:=
 match t.FO room with
 |none=>∃a,o=some (none,4,a)/\NE nh a|some none=>∃a,o=some (none,0,a)/\NE nh a|some (some c)=>∃b a,o=some (some b,0,a)/\NE nh a/\NR a b c
def T9{M room:Int}(hM:0<=M/\M<=80000000000)(X:-100000<=room/\room<=100000):∀(n:Nat) (t:Tm) (p:Nat) (nh:List HC),t.acO<=n->NR nh p t->Sm M t->t.acO<=8192->DC room p t nh (jN n (some p) room nh):=by
 intro n
 induction n with
 |zero=>intro t p nh h;have:=t.eP;omega
 |succ n ih=>
  intro t p nh hn P hs H;obtain⟨x,Y,e2,e3,e4,Z,e6,e7,e8⟩:=P.inv;rw[jN];simp only[cl,Y]
  by_cases K:x.normal=true
  ·rw[ee K];unfold DC;rw[(Hk room t).1 (e8 K)];exact⟨nh,rfl,NE.refl _⟩
  ·rw[ea K,M5 P hs.ok];simp only[cl];cases t with
   |mk k i s l=>
    by_cases f:(Tm.mk k i s l).root=true
    ·rw[ee f,Rx (by omega) P hs H f];simp only[cl,gW,e6];obtain⟨N,c,g1,g2,g3⟩:=EK (M:=M) (by omega) P hs H f;have ah:=S2 hs H f;rw[fF (by omega) (by omega)];unfold DC;rw[Tm.xg,ee f]
     by_cases C:((Tm.mk k i s l).gb.acO:Int)-((Tm.mk k i s l).acO:Int)>room
     ·rw[ee C,ee C];exact⟨nh,rfl,NE.refl _⟩
     ·rw[ea C,ea C,g1];exact⟨N,c,rfl,NE.kp g2,g3⟩
    ·rw[ea f];simp only[Tm.eM,Tm.eF,Tm.gl,Tm.ft] at e2 e3 e4 Z;have F:=H;rw[Tm.ef] at hn F;have hlen:=Tm.fK l;have Q:x.acN.length=l.length:=Z.len;rw[eC (by omega)];simp only[eo,eA];have af:=hs.idx;have R:∀u:Tm,Sm M u->0<=u.fr/\u.fr<=M+1:=λu hu=>hu.fr hM.1
     have loop:∀(ts pre:List Tm) (ps I:List (Option Nat)) (j:Nat) (A:List HC),l=pre++ts->x.acN=I++ps->I.length=j->NE nh A->va A ps ts->va A I pre->match Tm.rB room ts with
       |none=>∃c,fo (λ(v:Int) (B:Option Nat)=>(λ(w:List HC)=>
         iL (jN n B room w) λg m a=>
         if(eW m 0)=true then(some (.ret (none,m,a)))
         else(if(Option.isSome g)=true then(
         cv (HC.er a p) λd=>
         hO (yK d.acN)<|cv (eI d.acN v) λG=>
         ej (gY (some p) (xj d.acN v g) a) λy r=>
         some (.ret (y,0,r)))
         else(some ((.next a):gw (List HC) ((Option Nat)×Int×List HC)))))) ps j A=some (.inr (none,4,c))/\NE nh c
       |some none=>∃c,fo (λ(v:Int) (B:Option Nat)=>(λ(w:List HC)=>
         iL (jN n B room w) λg m a=>
         if(eW m 0)=true then(some (.ret (none,m,a)))
         else(if(Option.isSome g)=true then(
         cv (HC.er a p) λd=>
         hO (yK d.acN)<|cv (eI d.acN v) λG=>
         ej (gY (some p) (xj d.acN v g) a) λy r=>
         some (.ret (y,0,r)))
         else(some ((.next a):gw (List HC) ((Option Nat)×Int×List HC)))))) ps j A=some (.inl c)/\NE nh c
       |some (some S)=>∃N c,fo (λ(v:Int) (B:Option Nat)=>(λ(w:List HC)=>
         iL (jN n B room w) λg m a=>
         if(eW m 0)=true then(some (.ret (none,m,a)))
         else(if(Option.isSome g)=true then(
         cv (HC.er a p) λd=>
         hO (yK d.acN)<|cv (eI d.acN v) λG=>
         ej (gY (some p) (xj d.acN v g) a) λy r=>
         some (.ret (y,0,r)))
         else(some ((.next a):gw (List HC) ((Option Nat)×Int×List HC)))))) ps j A=some (.inr (some N,0,c))/\NE nh c/\NR c N (.mk k i s (pre++S)):=by
      intro ts
      induction ts with
      |nil=>
       intro pre ps I j A _ _ _ D hp _;cases hp;rw[Tm.rB];exact⟨A,rfl,D⟩
      |cons t ts aa=>
       intro pre ps I j A O hx hq D hp J;cases hp with
       |cons q1 q2=>
        rename_i q ps
        have T:t∈l:=by rw[O];simp
        have ai:=eJ Tm.acO T;have U:=hs.arg t T;have z:=ih t q A (by omega) q1 U (by omega);unfold DC at z;rw[Tm.rB];rw[fl]
        split at z
        ·rename_i E;obtain⟨c,a1,a2⟩:=z;rw[E,a1];exact⟨c,rfl,D.trans a2⟩
        ·rename_i E;obtain⟨c,a1,a2⟩:=z;rw[E,a1];have:=aa (pre++[t]) ps (I++[some q]) (j+1) c (by simp[O]) (by simp[hx]) (by simp[hq]) (D.trans a2) (a2.list q2) ((a2.list J).append (.cons (a2.node _ _ q1) .nil))
         revert this
         cases Tm.rB room ts with
         |none=>exactλh=>h|some o=>
          cases o with
          |none=>exactλh=>h|some S=>simp only[qW,Xc,pk];exactλh=>h
        ·rename_i t' E;obtain⟨W,c,a1,a2,a3⟩:=z;rw[E,a1];simp only[ow];rw[ea (by decide),ee (show(some W).isSome=true from rfl)];obtain⟨b,V⟩:=(D.trans a2).get p x Y;rw[V];simp only[cl];obtain⟨s1,s2,s3⟩:=KD hM.1 t U (by omega) t' E;rw[show yK x.acN=true from wh ⟨by rw[Q,O];simp;omega,by rw[Q];unfold Lw;omega⟩]
         have ab:eI x.acN (j:Int)=some (some q):=by rw[jJ,hx,<-hq];simp
         have ad:xj x.acN (j:Int) (some W)=I++some W::ps:=by
          unfold xj;rw[hx,<-hq];simp
         simp only[eo,ab,cl,ad];unfold gY;simp only[cl,V]
         obtain⟨ae,b1,b2,b3⟩:=sF (k:=k) (i:=i) (s:=s) (ps:=I++some W::ps) (ts:=pre++t'::ts) (nh:=c) ((a2.list J).append (.cons a3 (a2.list q2))) (by
          rw[O,EO] at F;rw[EO];simp only[ez] at F|-
          omega) (by omega) (by
          intro u hu;rcases tj.1 hu with hu|hu
          ·have:=R u (hs.arg u (by rw[O];simp[hu]));omega
          ·rcases l7.1 hu with rfl|hu
           ·have:=Tm.Sz u (M:=M+8192) (by omega) s1 s2;omega
           ·have:=R u (hs.arg u (by rw[O];simp[hu]));omega)
         rw[e2,e3,e4,b1];exact⟨c.length,ae,rfl,(D.trans a2).trans (NE.kp b2),b3⟩
     have:=loop l [] x.acN [] 0 nh rfl rfl rfl (NE.refl _) Z .nil;unfold DC;rw[Tm.xg,ea f]
     have L:Tm.rB room l=some none->(Tm.mk k i s l).nf=true:=by
      intro h;rw[Hk room,Tm.xg,ea f,h]
     revert this L
     cases Tm.rB room l with
     |none=>
      rintro⟨c,a1,a2⟩ _;have e:((0:Nat):Int)=0:=rfl;rw[a1];exact⟨c,rfl,a2⟩
     |some o=>
      cases o with
      |none=>
       rintro⟨c,a1,a2⟩ L;rw[a1];simp only[cl,en];obtain⟨b,V⟩:=a2.get p x Y;rw[V];simp only[cl];exact⟨_,rfl,a2.trans (NE.flag (x:={x with normal:=b}) (a2.node _ _ P) V (L rfl))⟩
      |some l'=>
       rintro⟨N,c,a1,a2,a3⟩ _;rw[a1];exact⟨N,c,rfl,a2,a3⟩
def QA{M:Int}(L:0<=M/\M<=80000000000):∀(n:Nat) (t:Tm) (p:Nat) (nh:List HC),t.acO<=n->NR nh p t->Sm M t->t.acO<=8192->∃d,jx n (some p) nh=some (t.nf,d)/\NE nh d:=by
 intro n
 induction n with
 |zero=>intro t p nh h;have:=t.eP;omega
 |succ n G=>
  intro t p nh hn z hs A;obtain⟨x,D,N,O,P,B,Q,R,H⟩:=z.inv;rw[jx];simp only[cl,D]
  by_cases o:x.normal=true
  ·rw[ee o,H o];exact⟨nh,rfl,NE.refl _⟩
  ·rw[ea o,M5 z hs.ok];simp only[cl];cases t with
   |mk k i s l=>
    by_cases a:(Tm.mk k i s l).root=true
    ·rw[ee a,Tm.O6,a];exact⟨nh,rfl,NE.refl _⟩
    ·rw[ea a];simp only[Tm.eF] at B;rw[Tm.ef] at hn A;have hlen:=Tm.fK l;have I:x.acN.length=l.length:=B.len;rw[eC (by omega)];simp only[eo,eA]
     have loop:∀(ts:List Tm) (ps:List (Option Nat)) (j:Nat) (e:List HC),(∀t∈ts,t∈l)->NE nh e->va e ps ts->∃d,fo (λ(E:Int) (q:Option Nat)=>(λ(r:List HC)=>
        ej (jx n q r) λv g=>
        if v=true then(some (.next g))else(some ((.ret (false,g)):gw (List HC) (Bool×List HC))))) ps j e=some (if ts.all Tm.nf=true then .inl d else .inr (false,d))/\NE nh d:=by
      intro ts
      induction ts with
      |nil=>intro ps j e _ m h;cases h;exact⟨e,rfl,m⟩
      |cons t ts C=>
       intro ps j e hm m h;cases h with
       |cons q1 J=>
        have w:=hm t (by simp);have K:=eJ Tm.acO w;obtain⟨y,a1,a2⟩:=G t _ e (by omega) q1 (hs.arg t w) (by omega);rw[fl,a1];simp only[eb]
        by_cases c:t.nf=true
        ·rw[ee c];simp only[cl,fv,wu,c,AO];exact C _ (j+1) y (λu hu=>hm u (by simp[hu])) (m.trans a2) (a2.list J)
        ·rw[ea c];simp only[cl,zD,wu,c,aaH];exact⟨y,rfl,m.trans a2⟩
     obtain⟨d,a1,a2⟩:=loop l x.acN 0 nh (λt h=>h) (NE.refl _) B;rw[a1]
     by_cases f:l.all Tm.nf=true
     ·rw[ee f];simp only[cl,en];obtain⟨b,F⟩:=a2.get p x D;rw[F]
      have c:(Tm.mk k i s l).nf=true:=by
       rw[Tm.O6,f];simpa using a
      rw[c];exact⟨_,rfl,a2.trans (NE.flag (x:={x with normal:=b}) (a2.node _ _ z) F c)⟩
     ·rw[ea f]
      have c:(Tm.mk k i s l).nf=false:=by
       rw[Tm.O6];simp[f]
      rw[c];exact⟨d,rfl,a2⟩
def so{t:Tm}(h:t.wt<=1000000000):k6 t=some (if t.err=0 then(t.acO:Int)else 0,t.err):=by
 unfold k6 Tm.err;rw[wK FU t (by rw[fC];exact h) h]
 by_cases a:t.ok=true
 ·simp only[a,if_true,eb,gW]
  by_cases b:4096<t.acO
  ·rw[ee b,ee (by omega)];rfl
  ·rw[ea b,ea (by omega)];rfl
 ·simp only[a,eb];rfl
def ql{t:Tm}(h:t.wt<=1000000000):p4 t=some t.err:=by
 unfold p4;rw[so h];rfl
theorem Tm.hZ{t:Tm}(h:t.err=0):t.ok=true/\t.acO<=4096:=by
 unfold Tm.err at h
 split at h
 ·rename_i a
  split at h
  ·omega
  ·exact⟨a,by omega⟩
 ·omega
def P':∀(n:Nat) (t:Tm) (b:Int) (s:Bool),t.acO<=n->t.ok=true->t.acO<=1000000->0<=b->b+t.acO<=100000000->jW n t b (λ(s:Bool) (f:Int) (g:Int)=>rS f g s) s=some (s&&t.acS 536870912):=by
 intro n
 induction n with
 |zero=>intro t b s h;have:=t.eP;omega
 |succ n v=>
  intro t b s h w hn D m;cases t with
  |mk k i ty l=>
   obtain⟨o1,o2,x,y,E⟩:=Tm.lB w;rw[Tm.ef] at h hn m;have hlen:=Tm.fK l;rw[jW];simp only[Tm.eF,Tm.eM,Tm.gl,eA,gA];rw[Tm.fX]
   by_cases e:k=1
   ·have z:=o1 e;subst z;rw[ee e];unfold rS;cases s with
    |true=>simp[LP];rfl|false=>simp;rfl
   ·rw[ea e];have hi:=x e;subst hi
    have o:fW (eH k 2) (fk .i64 b 1) b=b+gk k:=by
     unfold gk
     by_cases p:k=2
     ·subst p;rw[ee rfl];exact fu (by omega) (by omega)
     ·rw[ea p]
      have:eH k 2=false:=by simp[eH,p]
      rw[this];simp
    have A:=lI k;rw[eC (l:=l) (by omega)];simp only[eo,o]
    have loop:∀(ts:List Tm) (j:Nat) (s:Bool),(∀t∈ts,t∈l)->fo (λ(B:Int) (q:Tm)=>(λ(a:Bool)=>
      cv (jW n q (b+gk k) (λ(s:Bool) (f:Int) (g:Int)=>rS f g s) a) λc=>
      some ((.next c):gw Bool Bool))) ts j s=some (.inl (s&&ts.all (Tm.acS 536870912))):=by
     intro ts
     induction ts with
     |nil=>intro j s _;simp|cons t ts r=>
      intro j s hm;have d:=hm t (by simp);have C:=eJ Tm.acO d;rw[fl,v t _ _ (by omega) (y t d) (by omega) (by omega) (by omega)];simp only[cl,fv];rw[r (j+1) _ λu hu=>hm u (by simp[hu])];simp[Bool.and_assoc]
    rw[loop l 0 s λt h=>h];simp
def Kl{t:Tm}(a:t.ok=true)(hn:t.acO<=1000000):xC t=some (t.acS 536870912):=by
 unfold xC rJ;rw[P' FU t 0 true (by rw[fC];omega) a hn (by omega) (by omega)];simp
def Tm.z:Tm:=.mk 0 0 (.mk 0 []) []
def NR.V4{nh:List HC}{c:Nat}{st a:fY}(h:HC.fp nh c=some st):∀n,(∀p t,t.acO<=n->NR nh p t->NR (kF nh c (HC.gf a)) p t):=by
 have j:=HC.gZ h
 have d:∀q y,HC.er nh q=some y->HC.er (kF nh c (HC.gf a)) q=some y:=by
  intro q y hy;have e:=HC.ey hy
  have f:c≠q:=by
   rintro rfl;rw[j] at e;cases e
  unfold HC.er kF;rw[Uh f,e]
 intro n
 induction n with
 |zero=>intro p t h;have:=t.eP;omega
 |succ n m=>
  intro p t o r;obtain⟨y,v,w,x,z,A,B,C,D⟩:=r.inv
  have b:∀(ts:List Tm) (ps:List (Option Nat)),(∀t∈ts,t.acO<=n)->va nh ps ts->va (kF nh c (HC.gf a)) ps ts:=by
   intro ts
   induction ts with
   |nil=>intro ps _ h;cases h;exact .nil
   |cons t ts g=>
    intro ps hm h;cases h with
    |cons g1 g2=>exact .cons (m _ _ (hm t (by simp)) g1) (g _ (λu hu=>hm u (by simp[hu])) g2)
  refine NR.of (d _ _ v) w x z (b _ _ ?_ A) B C D;intro u hu;cases t with
  |mk k i s l=>
   rw[Tm.ef] at o;have:=eJ Tm.acO hu;simp only[Tm.eF] at this;omega
def Er{nh:List HC}{b:Nat}{st a:fY}(h:HC.fp nh b=some st):HC.fp (kF nh b (HC.gf a)) b=some a:=by
 have d:=HC.gZ h;have c:=(pK.1 d).1;unfold HC.fp kF;simp[c]
structure At (nh:List HC) (s0:Nat) (t:Tm) (m:Int):Prop where
 st:∃p,HC.fp nh s0=some ⟨some p,m⟩/\NR nh p t
def Uf{M:Int}(i:0<=M/\M<=80000000000){nh:List HC}{d:Nat}{t:Tm}{m:Int}(h:At nh d t m)(hs:Sm M t)(hn:t.acO<=4096)(hm:0<=m/\m<=1000000):match t.FO (4096-t.acO)with
  |none=>∃a,j1 (some d) nh=some (false,4,a)|some none=>∃a,j1 (some d) nh=some (false,0,a)/\At a d t m|some (some g)=>∃a,j1 (some d) nh=some (true,0,a)/\At a d g (m+1):=by
 obtain⟨p,e,f⟩:=h.st;obtain⟨x,j,_,_,_,_,k,_⟩:=f.inv;have n:=t.eP;have b:=T9 (M:=M) (room:=4096-t.acO) i (by omega) FU t p nh (by rw[fC];omega) f hs (by omega);unfold j1 rl;simp only[cl,e,j,k];rw[fF (by omega) (by omega)];unfold DC at b
 split at b
 ·rename_i c;obtain⟨a,a1,a2⟩:=b
  try rw[c]
  rw[a1];exact⟨a,rfl⟩
 ·rename_i c;obtain⟨a,a1,a2⟩:=b
  try rw[c]
  rw[a1];exact⟨a,rfl,⟨p,a2.state _ _ e,a2.node _ _ f⟩⟩
 ·rename_i g c;obtain⟨l,a,a1,a2,a3⟩:=b
  try rw[c]
  rw[a1];have g1:=a2.state _ _ e;simp only[ow];rw[ea (by simp[eW])];simp only[g1,cl];rw[fu (by omega) (by omega)];refine⟨_,rfl,⟨l,Er (Er g1),?_⟩⟩;exact NR.V4 (Er g1) _ _ _ (jw _) (NR.V4 g1 _ _ _ (jw _) a3)
def Tm.norm:Nat->Int->Tm->Tm×Int×Int
 |0,m,t=>if t.nf=true then(t,m,0)else(Tm.z,0,5)|k+1,m,t=>match t.FO (4096-t.acO)with
  |none=>(Tm.z,0,4)|some none=>(t,m,0)|some (some a)=>Tm.norm k (m+1) a
def LF{k:Nat}{m:Int}{t:Tm}(h:t.FO (4096-t.acO)=none):t.norm (k+1) m=(Tm.z,0,4):=by rw[Tm.norm,h]
def AB{k:Nat}{m:Int}{t:Tm}(h:t.FO (4096-t.acO)=some none):t.norm (k+1) m=(t,m,0):=by rw[Tm.norm,h]
def JP{k:Nat}{m:Int}{t a:Tm}(h:t.FO (4096-t.acO)=some (some a)):t.norm (k+1) m=a.norm k (m+1):=by rw[Tm.norm,h]
def Hc{σ ρ:Type}{F:σ->Option (gw σ ρ)}:∀{n m:Nat} {s:σ} {o:σ⊕ρ},n<=m->qR F n s=some o->qR F m s=some o
 |0,_,_,_,_,h=>by cases h
 |n+1,0,_,_,hm,_=>by omega|n+1,m+1,s,o,hm,h=>by
  rw[oa] at h|-;obtain⟨c,b,a⟩:=eO h;rw[b];simp only[cl];cases c with
  |next d=>exact Hc (by omega) a|Ki d=>exact a|ret r=>exact a
def Lz(n:Nat)(steps:Int)(I:0<=steps/\steps<=65536):∀(k:Nat) (m:Int) (t:Tm) (nh:List HC),(k:Int)=steps-m->0<=m->At nh n t m->Sm (536870912+8192*m) t->t.acO<=4096->∃o,qR (λ(a:List HC)=>
   cv (HC.fp a n) λq=>
   if(uX q.steps steps)=true then(
   iL (j1 (some n) a) λs i c=>
   if(eW i 0)=true then(some (.ret ((Tm.mk 0 0 (Ty.mk 0 []) []),0,i)))
   else(if s=true then(some (.next c))
   else(cv (HC.fp c n) λj=>
   cv (iW FU j.term c) λu=>
   some (.ret (u,j.steps,0)))))
   else(some ((.Ki a):gw (List HC) (Tm×Int×Int)))) (k+1) nh=some o/\gm (λ(a:List HC)=>
    cv (HC.fp a n) λv=>
    ej (jx FU v.term a) λw f=>
    if w=true then(
    cv (HC.fp f n) λl=>
    cv (iW FU l.term f) λx=>
    some (x,l.steps,0))
    else(some ((Tm.mk 0 0 (Ty.mk 0 []) []),0,5))) (λr=>some r) o=some (t.norm k m):=by
 intro k
 induction k with
 |zero=>
  intro m t nh B hm g hs hn;obtain⟨p,y,z⟩:=g.st;refine⟨.inl nh,?_,?_⟩
  ·rw[oa];simp only[y,cl];rw[ea (by rw[mD];omega)];rfl
  ·rw[en];simp only[y,cl];obtain⟨d,a1,a2⟩:=QA (M:=536870912+8192*m) (by omega) FU t p nh (by rw[fC];omega) z hs (by omega);rw[a1];simp only[eb,Tm.norm]
   by_cases h:t.nf=true
   ·rw[ee h,ee h];simp only[a2.state _ _ y,cl];rw[PI (M:=536870912+8192*m) d FU t p (by rw[fC];omega) hs (a2.node _ _ z)];rfl
   ·rw[ea h,ea h];rfl
 |succ k C=>
  intro m t nh B hm g hs hn;obtain⟨p,y,z⟩:=g.st;have b:=Uf (M:=536870912+8192*m) (by omega) g hs hn (by omega);rw[oa];simp only[y,cl];rw[ee (by rw[mD];omega)]
  split at b
  ·rename_i e;obtain⟨d,a1⟩:=b;rw[LF e,a1];exact⟨_,rfl,rfl⟩
  ·rename_i e;obtain⟨d,a1,a2⟩:=b;obtain⟨D,E,F⟩:=a2.st;rw[AB e,a1];simp only[ow];rw[ea (by decide),ea (by decide)];simp only[E,cl];rw[PI (M:=536870912+8192*m) d FU t D (by rw[fC];omega) hs F];exact⟨_,rfl,rfl⟩
  ·rename_i A e;obtain⟨d,a1,a2⟩:=b;rw[JP e,a1];simp only[ow];rw[ea (by decide)];simp only[if_true,cl,fv];obtain⟨G,H,c3⟩:=KD (M:=536870912+8192*m) (by omega) t hs (by omega) A e;exact C (m+1) A d (by omega) (by omega) a2 ⟨G,by rw[show 536870912+8192*(m+1)=536870912+8192*m+8192 by omega];exact H,by omega⟩ (by omega)
def Sm.start{t:Tm}(h:t.err=0)(a:t.acS 536870912=true):Sm 536870912 t:=⟨(Tm.hZ h).1,a,by have:=(Tm.hZ h).2;omega⟩
def xy{t:Tm}(hw:t.wt<=1000000000)(steps:Int):kM t steps=some (if t.err=0 then(if 0<=steps/\steps<=65536/\t.acS 536870912=true then t.norm steps.toNat 0 else(Tm.z,0,1))else(Tm.z,0,t.err)):=by
 unfold kM;rw[ql hw];simp only[cl]
 by_cases he:t.err=0
 ·rw[ea (by simp[he]),ee he];obtain⟨g,hn⟩:=Tm.hZ he;simp only[eA]
  by_cases e:steps<0
  ·rw[ee ((mD _ _).2 e),ee trivial,ea (λh=>absurd h.1 (by omega))];rfl
  ·rw[ea (by rw[mD];exact e)]
   by_cases f:65536<steps
   ·rw[ee ((gW _ _).2 f),ee trivial,ea (λh=>absurd h.2.1 (by omega))];rfl
   ·rw[ea (by rw[gW];exact f),Kl g (by omega)];simp only[cl]
    by_cases a:t.acS 536870912=true
    ·have c:nB (t.acS 536870912)=false:=by rw[a];rfl
     rw[ea (by rw[c];decide),ee ⟨by omega,by omega,a⟩];have b:=Sm.start he a;obtain⟨p,nh,a1,a2,a3⟩:=U_ (M:=536870912) (by omega) FU t [] (by rw[fC];omega) b;rw[a1];simp only[eb];have d:At (nh++[HC.gf (fY.mk (some p) 0)]) nh.length t 0:=⟨p,by unfold HC.fp;simp,a3.app⟩;obtain⟨o,i,j⟩:=Lz nh.length steps (by omega) steps.toNat 0 t _ (by omega) (by omega) d (by simpa using b) hn;have k:=Hc (m:=FU) (by rw[fC];omega) i;rw[k];exact j
    ·have c:nB (t.acS 536870912)=true:=by simp[a]
     rw[ee c,ea (λh=>a h.2.2)];rfl
 ·rw[ee (by simp[he]),ea he];rfl
mutual
def Fm.acO:Fm->Nat
 |.mk _ _ ts l=>1+ez Tm.acO ts+Fm.oC l
def Fm.oC:List Fm->Nat
 |[]=>0|t::l=>t.acO+Fm.oC l
end
def Fm.rT(l:List Fm):Fm.oC l=ez Fm.acO l:=by
 induction l with
 |nil=>rfl|cons t l a=>simp[Fm.oC,ez,a]
theorem Fm.ef(k:Int)(s:Ty)(ts:List Tm)(l:List Fm):(Fm.mk k s ts l).acO=1+ez Tm.acO ts+ez Fm.acO l:=by rw[Fm.acO,Fm.rT]
def Fm.eP(t:Fm):1<=t.acO:=by cases t;rw[Fm.acO];omega
def Fm.fK(l:List Fm):l.length<=ez Fm.acO l:=iA _ _ λt _=>t.eP
mutual
def Fm.wt:Fm->Nat
 |.mk _ s ts l=>1+s.acO+ez Tm.wt ts+Fm.OJ l
def Fm.OJ:List Fm->Nat
 |[]=>0|t::l=>t.wt+Fm.OJ l
end
def Fm.Ei(l:List Fm):Fm.OJ l=ez Fm.wt l:=by
 induction l with
 |nil=>rfl|cons t l a=>simp[Fm.OJ,ez,a]
theorem Fm.fM(k:Int)(s:Ty)(ts:List Tm)(l:List Fm):(Fm.mk k s ts l).wt=1+s.acO+ez Tm.wt ts+ez Fm.wt l:=by rw[Fm.wt,Fm.Ei]
def Fm.jB(t:Fm):1<=t.wt:=by cases t;rw[Fm.wt];omega
def Fm.oz(l:List Fm):l.length<=ez Fm.wt l:=iA _ _ λt _=>t.jB
def Fm.ind{p:Fm->Prop}(h:∀k s ts l,(∀t∈l,p t)->p (.mk k s ts l))(t:Fm):p t:=by
 have:∀n (t:Fm),t.acO<=n->p t:=by
  intro n
  induction n with
  |zero=>intro t a;have:=t.eP;omega
  |succ n b=>
   intro t a;cases t with
   |mk k s ts l=>
    rw[Fm.ef] at a;exact h k s ts l λu hu=>b u (by have:=eJ Fm.acO hu;omega)
 exact this _ t (jw _)
def Fm.iS(t:Fm):t.acO<=t.wt:=by
 induction t using Fm.ind with
 |h k s ts l a=>rw[Fm.ef,Fm.fM];have:=kP a;have:=kP (f:=Tm.acO) (g:=Tm.wt) (l:=ts) λx _=>x.iS;omega
def k7(k:Int):Bool:=decide (k=4\/k=5\/k=6\/k=7)
def qB(k:Int):Int:=if k7 k=true then 1 else 0
def Ch(k:Int):0<=qB k/\qB k<=1:=by unfold qB;split<;>omega
def mz(k:Int):lC k=some (k7 k):=by
 unfold lC k7
 congr 1
 rw[CM];simp
def qm(f:Fm):nY f=some (qB f.acM):=by
 unfold nY qB;rw[mz];simp only[cl]
 split<;>rfl
def Fm.node(k:Int)(s:Ty)(a n:Nat):Bool:=
 if k=1 then s.ra&&decide (a=2)&&decide (n=0)
 else if k=2\/k=3 then s.ra&&decide (a=0)&&decide (n=2)
 else k7 k&&decide (s.err=0)&&decide (a=0)&&decide (n=1)
mutual
def Fm.ok:Fm->Bool
 |.mk k s ts l=>Fm.node k s ts.length l.length&&ts.all Tm.ok&&Fm.JR l
def Fm.JR:List Fm->Bool
 |[]=>true|t::l=>t.ok&&Fm.JR l
end
def Fm.zs(l:List Fm):Fm.JR l=l.all Fm.ok:=by
 induction l with
 |nil=>rfl|cons t l a=>simp[Fm.JR,a]
theorem Fm.ia(k:Int)(s:Ty)(ts:List Tm)(l:List Fm):(Fm.mk k s ts l).ok=(Fm.node k s ts.length l.length&&ts.all Tm.ok&&l.all Fm.ok):=by rw[Fm.ok,Fm.zs]
def Fm.err(t:Fm):Int:=if t.ok=true then(if 4096<t.acO then 4 else 0)else 2
def hJ{α:Type}{l:List α}:(l.length:Int)=0↔l=[]:=by cases l<;>simp;omega
def jX{α:Type}{l:List α}(h:(l.length:Int)=1):∃a,l=[a]:=by
 match l,h with
 |[a],_=>exact⟨a,rfl⟩|[],h=>simp at h
 |_::_::_,h=>simp at h;omega
def qF{α:Type}{l:List α}(h:(l.length:Int)=2):∃a b,l=[a,b]:=by
 match l,h with
 |[a,b],_=>exact⟨a,b,rfl⟩|[],h=>simp at h
 |[_],h=>simp at h
 |_::_::_::_,h=>simp at h;omega
def yx{t:Tm}(h:t.wt<=1000000000):kC FU t=some t.ok:=zx FU t (by rw[fC];exact h) h
def Ac:∀(n:Nat) (t:Fm),t.wt<=n->t.wt<=1000000000->lW n t=some t.ok:=by
 intro n
 induction n with
 |zero=>intro t h;have:=t.jB;omega
 |succ n j=>
  intro t h i;cases t with
  |mk k s ts l=>
   rw[Fm.fM] at h i;rw[lW,Fm.ia];simp only[Fm.eF,Fm.eM,Fm.hY,Fm.ft,eA,mm,p9,gA,fV,xd,mz,m8 (t:=s) (by omega),cl,eU,gu]
   by_cases o:k=1
   ·simp only[o,if_true,Fm.node]
    by_cases g:(l.length:Int)=0
    ·have:=hJ.1 g;subst this;cases f:s.ra with
     |false=>simp|true=>
      by_cases d:(ts.length:Int)=2
      ·obtain⟨a,b,rfl⟩:=qF d;simp only[ez] at h i;simp only[d,if_true,jA,mT,cl];rw[yx (t:=a) (by omega),yx (t:=b) (by omega)];cases c:a.ok<;>cases e:b.ok<;>simp[c,e]
      ·have c:¬ts.length=2:=by omega
       simp[d,c]
    ·have f:¬l.length=0:=by omega
     simp[g,f]
   ·simp only[o,QL,Fm.node]
    by_cases g:k=2\/k=3
    ·simp only[g,if_true]
     by_cases f:(ts.length:Int)=0
     ·have:=hJ.1 f;subst this;cases d:s.ra with
      |false=>simp|true=>
       by_cases c:(l.length:Int)=2
       ·obtain⟨a,b,rfl⟩:=qF c;simp only[ez] at h i;simp only[c,if_true,jA,mT,cl];rw[j a (by omega) (by omega),j b (by omega) (by omega)];cases e:a.ok<;>cases m:b.ok<;>simp[e,m]
       ·have e:¬l.length=2:=by omega
        simp[c,e]
     ·have d:¬ts.length=0:=by omega
      simp[f,d]
    ·simp only[g,QL];cases f:k7 k with
     |false=>simp|true=>
      by_cases d:(ts.length:Int)=0
      ·have:=hJ.1 d;subst this
       by_cases c:s.err=0
       ·by_cases e:(l.length:Int)=1
        ·obtain⟨a,rfl⟩:=jX e;simp only[ez] at h i;simp only[c,e,if_true,jA,cl];rw[j a (by omega) (by omega)];simp
        ·have m:¬l.length=1:=by omega
         simp[c,e,m]
       ·simp[c]
      ·have c:¬ts.length=0:=by omega
       simp[d,c]
def sl:∀(n:Nat) (t:Fm),t.acO<=n->t.acO<=1000000000->lR n t=some (t.acO:Int):=by
 intro n
 induction n with
 |zero=>intro t h;have:=t.eP;omega
 |succ n b=>
  intro t h c;cases t with
  |mk k s ts l=>
   rw[Fm.ef] at h c;have f:=Fm.fK l;have d:=Tm.fK ts;rw[lR];simp only[Fm.eF,Fm.hY,eA,eC (l:=l) (by omega),eC (l:=ts) (by omega),eo]
   have e:=p0 (ρ:=Int) (F:=λ(j:Int) (x:Tm) (v:Int)=>cv (gh FU x) λy=>some (gw.next (fk .i64 v y))) Tm.acO ts 0 1 (by omega) (by
    intro j x v a;have:=eJ Tm.acO a;rw[oy FU x (by rw[fC];omega) (by omega)]
    rfl)
   have k2:=p0 (ρ:=Int) (F:=λ(j:Int) (x:Fm) (v:Int)=>cv (lR n x) λy=>some (gw.next (fk .i64 v y))) Fm.acO l 0 (1+ez Tm.acO ts) (by omega) (by
    intro j x v a;have:=eJ Fm.acO a;rw[b x (by omega) (by omega)]
    rfl)
   rw[show(1:Int)=((1:Nat):Int)from rfl,e];simp only[cl,en];rw[k2];simp[Fm.ef]
def m_{t:Fm}(h:t.wt<=1000000000):lk t=some t.err:=by
 have:=t.iS;unfold lk Fm.err;rw[Ac FU t (by rw[fC];exact h) h,sl FU t (by rw[fC];omega) (by omega)];cases t.ok with
 |false=>simp|true=>by_cases a:4096<t.acO<;>simp[a]<;>omega
def HS(f:Fm)(h:f.wt<=1000000000):r5 f=some (Fm.node f.acM f.dv f.ek.length f.acN.length):=by
 cases f with
 |mk k s ts l=>
  rw[Fm.fM] at h;show r5 (.mk k s ts l)=some (Fm.node k s ts.length l.length)
  have d:(eH (ts.length:Int) 2&&eH (l.length:Int) 0)=(decide (ts.length=2)&&decide (l.length=0)):=by
   rw[CM];simp only[gO,gA,nA];omega
  have e:(eH (ts.length:Int) 0&&eH (l.length:Int) 2)=(decide (ts.length=0)&&decide (l.length=2)):=by
   rw[CM];simp only[gO,gA,nA];omega
  have g:(eH (ts.length:Int) 0&&eH (l.length:Int) 1)=(decide (ts.length=0)&&decide (l.length=1)):=by
   rw[CM];simp only[gO,gA,nA];omega
  unfold r5;simp only[Fm.eF,Fm.eM,Fm.hY,Fm.ft,eA,mm,rv,p9,gA,fV,mf (t:=s) (by omega),sG,cl,eb,ew,d,e,g];unfold Fm.node
  by_cases b:k=1
  ·cases c:s.ra<;>simp[b]
  ·by_cases c:k=2\/k=3
   ·cases a:s.ra<;>simp[b,c]
   ·by_cases a:k=4\/k=5\/k=6\/k=7
    ·have i:k7 k=true:=by simp[k7,a]
     by_cases j:s.err=0<;>simp[b,c,a,j,i]
    ·have i:k7 k=false:=by simp[k7,a]
     simp[b,c,a,i]
def zW:∀(n:Nat) (t:Fm),t.wt<=n->t.wt<=1000000000->jY n t=some (if t.ok=true then((t.acO:Int),true)else(0,false)):=by
 intro n
 induction n with
 |zero=>intro t h;have:=t.jB;omega
 |succ n i=>
  intro t h g;cases t with
  |mk k s ts l=>
   have m:=HS (.mk k s ts l) g;rw[Fm.fM] at h g;have r:=Fm.oz l;have o:=Tm.oz ts;have hn:ez Tm.acO ts<=ez Tm.wt ts:=kP λx _=>x.iS;have p:ez Fm.acO l<=ez Fm.wt l:=kP λx _=>x.iS
   have q:fo (λ(e:Int) (a:Tm) (b:Int)=>ej (kf FU a) λc d=>if d=true then some (gw.next (fk .i64 b c))else some (gw.ret ((0:Int),false))) ts 0 1=if ts.all Tm.ok=true then some (.inl ((1+ez Tm.acO ts:Nat):Int))else some (.inr (0,false)):=by
    refine vp Tm.acO Tm.ok _ ts 0 1 (by omega) ?_;intro j x v f;have:=eJ Tm.wt f;rw[wK FU x (by rw[fC];omega) (by omega)];cases x.ok<;>simp
   have k2:fo (λ(e:Int) (a:Fm) (b:Int)=>ej (jY n a) λc d=>if d=true then some (gw.next (fk .i64 b c))else some (gw.ret ((0:Int),false))) l 0 ((1+ez Tm.acO ts:Nat):Int)=if l.all Fm.ok=true then some (.inl ((1+ez Tm.acO ts+ez Fm.acO l:Nat):Int))else some (.inr (0,false)):=by
    refine vp Fm.acO Fm.ok _ l 0 _ (by omega) ?_;intro j x v f;have:=eJ Fm.wt f;rw[i x (by omega) (by omega)];cases x.ok<;>simp
   rw[jY,m];simp only[Fm.eF,Fm.eM,Fm.hY,Fm.ft,eA,eC (l:=l) (by omega),eC (l:=ts) (by omega),eo,cl,q,Fm.ia,Fm.ef];cases u:Fm.node k s ts.length l.length with
   |false=>simp|true=>
    cases w:ts.all Tm.ok with
    |false=>simp|true=>
     simp only[if_true,cl,en,k2,AO];cases y:l.all Fm.ok<;>simp
def qo{t:Fm}(h:t.wt<=1000000000):jv t=some (if t.err=0 then(t.acO:Int)else 0,t.err):=by
 unfold jv Fm.err;rw[zW FU t (by rw[fC];exact h) h];cases t.ok with
 |false=>simp|true=>
  by_cases a:4096<t.acO
  ·simp[a];omega
  ·simp[a];omega
def ly{t:Fm}(h:t.wt<=1000000000):kN t=some t.err:=by
 unfold kN;rw[qo h];rfl
def IK:∀(n:Nat) (t:Fm),t.wt<=n->t.wt<=1000000000->ji n t=some t:=by
 intro n
 induction n with
 |zero=>intro t h;have:=t.jB;omega
 |succ n c=>
  intro t h d;cases t with
  |mk k s ts l=>
   rw[Fm.fM] at h d;have f:=Fm.oz l;have e:=Tm.oz ts;rw[ji];simp only[Fm.eF,Fm.eM,Fm.hY,Fm.ft,eA,eC (l:=l) (by omega),eC (l:=ts) (by omega),eo,jd (t:=s) (by omega),cl];rw[jq id ts 0 [] (by simp;omega)]
   ·simp only[cl,en];rw[jq id l 0 [] (by simp;omega)]
    ·simp
    ·intro j x v a b;have:=eJ Fm.wt a;rw[c x (by omega) (by omega)];simp[fA (l:=v) (m:=[x]) (by simpa using b)]
   ·intro j x v a b;have:=eJ Tm.wt a;rw[nR (t:=x) (by omega)];simp[fA (l:=v) (m:=[x]) (by simpa using b)]
def lP{t:Fm}(h:t.wt<=1000000000):ji FU t=some t:=IK FU t (by rw[fC];exact h) h
mutual
def Fm.has:Fm->Bool
 |.mk k _ _ l=>if k=1 then false else if k=2 then Fm.Kj l else if k=5 then true else Fm.FN l
def Fm.Kj:List Fm->Bool
 |[]=>false|f::l=>f.has||Fm.Kj l
def Fm.FN:List Fm->Bool
 |[]=>false|[f]=>f.has|_::f::l=>Fm.FN (f::l)
end
def Po(k:Int)(a b:Ty):Ty×Bool×Int:=if(Ty.mk k [a,b]).err≠0 then(.mk 0 [],false,(Ty.mk k [a,b]).err)else(.mk k [a,b],true,0)
def ZG(first last:Ty×Bool×Int):Ty×Bool×Int:=
 if first.2.2≠0\/first.2.1=false then(last.1,last.2.1,first.2.2)else if last.2.1=true then Po 3 first.1 last.1 else(first.1,true,0)
def aa1(first last:Ty×Bool×Int):Ty×Bool×Int:=
 if first.2.2≠0\/first.2.1=false then(last.1,true,first.2.2)else Po 4 first.1 last.1
def Yg(k:Int)(s:Ty)(first last:Ty×Bool×Int):Ty×Bool×Int:=
 if last.2.2≠0 then(.mk 0 [],false,last.2.2)
 else if k=2 then ZG first last
 else if k=5 then(if last.2.1=true then Po 3 s last.1 else(s,true,0))
 else if last.2.1=true then(if k=3 then aa1 first last else if k=4 then Po 4 s last.1 else(last.1,true,0))
 else(.mk 0 [],false,0)
def Yk:Ty×Bool×Int:=(.mk 0 [],false,0)
mutual
def Fm.ct:Fm->Ty×Bool×Int
 |.mk k s _ l=>if k=1 then Yk else Yg k s (Fm.aaL l) (Fm.Wc l)
def Fm.aaL:List Fm->Ty×Bool×Int
 |[]=>Yk|f::_=>f.ct
def Fm.Wc:List Fm->Ty×Bool×Int
 |[]=>Yk|[f]=>f.ct|_::f::l=>Fm.Wc (f::l)
end
def Fm.Pd(k:Int)(s:Ty)(ts:List Tm)(a b:Fm):(Fm.mk k s ts [a,b]).has=if k=1 then false else if k=2 then a.has||b.has else if k=5 then true else b.has:=by
 rw[Fm.has];simp[Fm.Kj,Fm.FN]
def Fm.Aw(k:Int)(s:Ty)(ts:List Tm)(a:Fm):(Fm.mk k s ts [a]).has=if k=1 then false else if k=5 then true else a.has:=by
 rw[Fm.has];simp only[Fm.Kj,Fm.FN,Bool.or_false]
 by_cases b:k=2
 ·subst b;simp
 ·simp[b]
def Fm.has_eq(s:Ty)(ts:List Tm)(l:List Fm):(Fm.mk 1 s ts l).has=false:=by rw[Fm.has];simp
def Fm.pA{p:Fm->Prop}(n:∀a b:Tm,a.ok=true->b.ok=true->p (.mk 1 (.mk 0 []) [a,b] []))
  (o:∀(k:Int) (a b:Fm),k=2\/k=3->a.ok=true->b.ok=true->p a->p b->p (.mk k (.mk 0 []) [] [a,b]))
  (q:∀(k:Int) (s:Ty) (a:Fm),k=4\/k=5\/k=6\/k=7->s.err=0->a.ok=true->p a->p (.mk k s [] [a])) (f:Fm) (g:f.ok=true):p f:=by
 induction f using Fm.ind with
 |h k s ts l i=>
  rw[Fm.ia] at g;simp only[gO,ll] at g;obtain⟨⟨hn,d⟩,c⟩:=g;unfold Fm.node at hn
  split at hn
  ·rename_i j;subst j;simp only[gO,nA,Ty.mR] at hn;obtain⟨⟨rfl,e⟩,m⟩:=hn;obtain⟨a,b,rfl⟩:=qF (l:=ts) (by omega);have:=Z2.1 m;subst this;exact n a b (d a (by simp)) (d b (by simp))
  ·split at hn
   ·rename_i j;simp only[gO,nA,Ty.mR] at hn;obtain⟨⟨rfl,e⟩,m⟩:=hn;obtain⟨a,b,rfl⟩:=qF (l:=l) (by omega);have:=Z2.1 e;subst this;exact o k a b j (c a (by simp)) (c b (by simp)) (i a (by simp) (c a (by simp))) (i b (by simp) (c b (by simp)))
   ·simp only[gO,nA] at hn;obtain⟨⟨⟨r,hs⟩,e⟩,m⟩:=hn;obtain⟨a,rfl⟩:=jX (l:=l) (by omega);have:=Z2.1 e;subst this;refine q k s a ?_ hs (c a (by simp)) (i a (by simp) (c a (by simp)));simpa[k7] using r
theorem Ty.ng{t:Ty}(h:t.err=0):t.ok=true/\t.acO<=64:=by
 unfold Ty.err at h
 split at h
 ·split at h
  ·omega
  ·exact⟨‹_›,by omega⟩
 ·omega
theorem Ty.wS{t:Ty}(h:t.ok=true)(a:t.acO<=64):t.err=0:=by unfold Ty.err;rw[ee h,ea (by omega)]
def Ty.ok_two{k:Int}(c:k=3\/k=4){a b:Ty}(d:a.ok=true)(e:b.ok=true):(Ty.mk k [a,b]).ok=true:=by
 rw[Ty.ia]
 have:¬(k=1\/k=2\/k=5):=by omega
 simp[Ty.want,c,this,d,e]
theorem Ty.Aq(k:Int)(a b:Ty):(Ty.mk k [a,b]).acO=1+a.acO+b.acO:=by rw[Ty.ef];simp[ez];omega
theorem Fm.hZ{f:Fm}(h:f.err=0):f.ok=true/\f.acO<=4096:=by
 unfold Fm.err at h
 split at h
 ·split at h
  ·omega
  ·exact⟨‹_›,by omega⟩
 ·omega
def Fm.cty(f:Fm):Ty×Int:=if f.err≠0 then(.mk 0 [],f.err)else if f.ct.2.2≠0 then(.mk 0 [],f.ct.2.2)else(if f.has=true then f.ct.1 else .mk 5 [],0)
def DR:∀(n:Nat) (f:Fm),f.acO<=n->f.ok=true->jO n f=some f.has:=by
 intro n
 induction n with
 |zero=>intro f h;have:=f.eP;omega
 |succ n e=>
  intro f h q;refine Fm.pA (p:=λf=>f.acO<=n+1->jO (n+1) f=some f.has) ?_ ?_ ?_ f q h
  ·intro a b _ _ _;rw[jO,Fm.has_eq];rfl
  ·intro k a b r g t _ _ hn;rw[Fm.ef] at hn;simp only[ez] at hn;have d:=e a (by omega) g;have i:=e b (by omega) t
   have c:k≠1:=by omega
   have j:k≠5:=by omega
   have l:eI [a,b] (fG .i64 (eN [a,b]) 1)=some b:=by
    rw[fF (by simp) (by simp)];rfl
   have u:eI [a,b] 0=some a:=rfl;have v:eI [a,b] 1=some b:=rfl;rw[jO,Fm.Pd,ea c];simp only[Fm.eF,Fm.eM,gA,c,j,QL,l,u,v,cl,i,d,eA]
   by_cases o:k=2
   ·simp only[o,if_true];cases a.has<;>simp
   ·simp[o]
  ·intro k s a r hs g _ hn;rw[Fm.ef] at hn;simp only[ez] at hn;have d:=e a (by omega) g
   have c:k≠1:=by omega
   have m:k≠2:=by omega
   have l:eI [a] (fG .i64 (eN [a]) 1)=some a:=by
    rw[fF (by simp) (by simp)];rfl
   rw[jO,Fm.Aw,ea c];simp only[Fm.eF,Fm.eM,gA,c,m,QL,l,cl,d]
   by_cases w:k=5<;>simp[w]
def En(f:Fm)(h:f.wt<=1000000000):pH f=some (if f.err≠0 then(false,f.err)else(f.has,0)):=by
 unfold pH;rw[m_ h];simp only[cl,ew]
 by_cases he:f.err=0
 ·rw[DR FU f (by rw[fC];have:=f.iS;omega) (Fm.hZ he).1];simp[he]
 ·simp[he]
theorem Fm.wS{f:Fm}(h:f.ok=true)(a:f.acO<=4096):f.err=0:=by unfold Fm.err;rw[ee h,ea (by omega)]
def Ty.nat:Ty:=.mk 1 []
def Ty.ns:Ty:=.mk 2 []
def Ty.unit:Ty:=.mk 5 []
def Ty.fn(a b:Ty):Ty:=.mk 4 [a,b]
def Ty.pr(a b:Ty):Ty:=.mk 3 [a,b]
def Ty.z:Ty:=.mk 0 []
inductive eY:List Ty->Tm->Ty->Prop
 |var {g t} (i:Nat):i<g.length->g[g.length-1-i]?=some t->eY g (.mk 1 i .z []) t|lam {g s b t}:(Ty.fn s t).err=0->eY (g++[s]) b t->eY g (.mk 2 0 s [b]) (.fn s t)|app {g f a s t}:eY g f (.fn s t)->eY g a s->eY g (.mk 3 0 .z [f,a]) t|zero {g}:eY g (.mk 4 0 .z []) .nat|succ {g a}:eY g a .nat->eY g (.mk 5 0 .z [a]) .nat|tW {g t b s n}:t.err=0->eY g b t->eY g s (.fn .nat (.fn t t))->eY g n .nat->eY g (.mk 6 0 t [b,s,n]) t|nil {g}:eY g (.mk 7 0 .z []) .ns|cons {g a b}:eY g a .nat->eY g b .ns->eY g (.mk 8 0 .z [a,b]) .ns|fold {g t b s n}:t.err=0->eY g b t->eY g s (.fn .nat (.fn .ns (.fn t t)))->eY g n .ns->eY g (.mk 9 0 t [b,s,n]) t|pair {g a b s t}:(Ty.pr s t).err=0->eY g a s->eY g b t->eY g (.mk 10 0 .z [a,b]) (.pr s t)|fst {g a s t}:eY g a (.pr s t)->eY g (.mk 11 0 .z [a]) s|snd {g a s t}:eY g a (.pr s t)->eY g (.mk 12 0 .z [a]) t|unit {g}:eY g (.mk 13 0 .z []) .unit
theorem Ty.pT:Ty.z.ra=true:=rfl
def Ty.s_{k:Int}(c:k=3\/k=4){a b:Ty}(h:(Ty.mk k [a,b]).err=0):a.err=0/\b.err=0:=by grind[Ty.ng,Ty.ia,Ty.Aq,Ty.wS]
def eY.ok{g:List Ty}{x:Tm}{t:Ty}(h:eY g x t):x.ok=true:=by
 induction h with
 |var i d f=>grind[Tm.ia,Tm.node,iN,kJ,Ty.pT]|lam d _ c=>have:=(Ty.s_ (.inr rfl) d).1;simp[Tm.ia,Tm.node,iN,kJ,this,c]
 |app _ _ a b=>simp[Tm.ia,Tm.node,iN,kJ,Ty.pT,a,b]|zero=>simp[Tm.ia,Tm.node,iN,kJ,Ty.pT]|succ _ c=>simp[Tm.ia,Tm.node,iN,kJ,Ty.pT,c]|tW d _ _ _ a b e=>grind[Tm.ia,Tm.node,iN,kJ]|nil=>simp[Tm.ia,Tm.node,iN,kJ,Ty.pT]|cons _ _ a b=>simp[Tm.ia,Tm.node,iN,kJ,Ty.pT,a,b]|fold d _ _ _ a b e=>grind[Tm.ia,Tm.node,iN,kJ]|pair _ _ _ a b=>simp[Tm.ia,Tm.node,iN,kJ,Ty.pT,a,b]|fst _ c=>simp[Tm.ia,Tm.node,iN,kJ,Ty.pT,c]|snd _ c=>simp[Tm.ia,Tm.node,iN,kJ,Ty.pT,c]|unit=>simp[Tm.ia,Tm.node,iN,kJ,Ty.pT]
def Tm.m6(t:Tm):∀{m n:Int},m<=n->t.acS m=true->t.acS n=true:=by
 induction t using Tm.ind with
 |h k i s l a=>grind[Tm.fX]
def eY.acS{g:List Ty}{x:Tm}{t:Ty}(h:eY g x t):∀m:Int,((g.length+x.acO:Nat):Int)<=m->x.acS m=true:=by
 induction h with
 |var i e f=>grind[Tm.ef,ez,Tm.fX]|lam _ _ c=>grind[Tm.ef,ez,Tm.fX]|zero|nil|unit=>grind[Tm.ef,ez,Tm.fX]|succ _ c|fst _ c|snd _ c=>grind[Tm.ef,ez,Tm.fX]|app _ _ a b|cons _ _ a b|pair _ _ _ a b=>grind[Tm.ef,ez,Tm.fX]|tW _ _ _ _ a b d|fold _ _ _ _ a b d=>grind[Tm.ef,ez,Tm.fX]
def G3{α:Type}{f g:α->Nat}{c:Nat}{l:List α}(h:∀x∈l,f x<=c*g x):ez f l<=c*ez g l:=by
 induction l with
 |nil=>simp[ez]|cons x l a=>simp only[ez,W'];have:=h x (by simp);have:=a λy hy=>h y (by simp[hy]);omega
def Tm.jC(t:Tm)(h:t.ok=true):t.wt<=65*t.acO:=by
 induction t using Tm.ind with
 |h k i s l c=>
  rw[Tm.ia] at h;simp only[gO,ll] at h;rw[Tm.fM,Tm.ef,W'];have d:=G3 λx b=>c x b (h.2 x b)
  have e:s.acO<=64:=by
   have:=h.1;simp only[Tm.node,gO] at this;have a:=this.2
   split at a
   ·simp only[nA] at a;exact(Ty.ng a).2
   ·grind[Ty.mR,Ty.ef,ez]
  omega
def Fm.jC(f:Fm)(h:f.ok=true):f.wt<=65*f.acO:=by
 induction f using Fm.ind with
 |h k s ts l b=>
  rw[Fm.ia] at h;simp only[gO,ll] at h;rw[Fm.fM,Fm.ef,W',W'];have d:=G3 λx a=>b x a (h.2 x a);have e:=G3 (f:=Tm.wt) (g:=Tm.acO) (c:=65) (l:=ts) λx a=>x.jC (h.1.2 x a)
  have i:s.acO<=64:=by
   have:=h.1.1;unfold Fm.node at this
   split at this
   ·grind[Ty.mR,Ty.ef,ez]
   ·split at this
    ·grind[Ty.mR,Ty.ef,ez]
    ·simp only[gO,nA] at this;exact(Ty.ng this.1.1.2).2
  omega
structure eG.wf (d:eG):Prop where
 len:d.l.length<=1000
 lo:0<=d.r'
 hi:d.r'<=d.l.length
def QO(x n:Int)(c:1<=n)(d:n<=1000000000):∃y,HF x n=some y/\0<=y/\y<n:=by
 unfold HF;simp only[TE (b:=n) (by omega)];refine⟨_,rfl,?_⟩;unfold RD
 have e:(x.tmod n).natAbs<n.natAbs:=by
  rw[Int.natAbs_tmod];exact Rw _ (by omega)
 rw[fu (by omega) (by omega)]
 have a:0<=x.tmod n+n:=by omega
 exact⟨Int.tmod_nonneg _ a,Int.tmod_lt_of_pos _ (by omega)⟩
def mg(d:eG)(a:d.wf)(n:Int)(c:1<=n)(e:n<=1000000000):∃x b,gx d n=some (x,b)/\0<=x/\x<n/\b.wf:=by
 unfold gx;simp only[mm,p9,mD,iX,fV]
 by_cases f:n<1\/(d.l.length:Int)<=d.r'
 ·grind
 ·rw[ea f];obtain⟨y,hy,_⟩:=Jm (l:=d.l) a.lo (by omega);obtain⟨z,g,h,i⟩:=QO y n c e;rw[hy];simp only[cl,g];have:=a.len;have:=a.lo;rw[fu (by omega) (by omega)];exact⟨z,_,rfl,h,i,⟨a.len,by show 0<=d.r'+1;omega,by show d.r'+1<=(d.l.length:Int);omega⟩⟩
def fE:iu=some .nat:=rfl
def gT:m4=some .ns:=rfl
def IT:vH=some .unit:=rfl
def yc{a b:Ty}(c:a.acO<=1000000000)(d:b.acO<=1000000000):uY a b=some (.pr a b):=by
 unfold uY;rw[jd c,jd d];rfl
def jt{a b:Ty}(c:a.acO<=1000000000)(d:b.acO<=1000000000):lv a b=some (.fn a b):=by
 unfold lv;rw[jd c,jd d];rfl
def Ty.RT:Ty.nat.ok=true:=by unfold Ty.nat;rw[Ty.ia];rfl
def Ty.RJ:Ty.ns.ok=true:=by unfold Ty.ns;rw[Ty.ia];rfl
def Ty.Pm:Ty.unit.ok=true:=by unfold Ty.unit;rw[Ty.ia];rfl
def Ty.ir:Ty.nat.acO=1:=by unfold Ty.nat;rw[Ty.ef];rfl
def Ty.pE:Ty.ns.acO=1:=by unfold Ty.ns;rw[Ty.ef];rfl
def Ty.GV:Ty.unit.acO=1:=by unfold Ty.unit;rw[Ty.ef];rfl
def Ty.ke(a b:Ty):(Ty.fn a b).acO=1+a.acO+b.acO:=Ty.Aq _ _ _
def Ty.vG(a b:Ty):(Ty.pr a b).acO=1+a.acO+b.acO:=Ty.Aq _ _ _
theorem Tv(k:Nat)(h:k<=4):1<=2^k/\2^k<=16:=by
 have:k=0\/k=1\/k=2\/k=3\/k=4:=by omega
 grind
def OA:∀(n k:Nat) (d:eG),k<n->k<=4->d.wf->∃t f,jE n d (k:Int)=some (t,f)/\t.ok=true/\t.acO+1<=2^(k+1)/\f.wf:=by
 intro n
 induction n with
 |zero=>intro k d h;omega|succ n v=>
  intro k d w j r;obtain⟨x,d1,s,y,z,g⟩:=mg d r 7 (by omega) (by omega);have A:=Tv k j
  have B:(2:Nat)^(k+1)=2*2^k:=by rw[Nat.pow_succ];omega
  have c:=λf (l:eG.wf f)=>(⟨Ty.nat,f,rfl,Ty.RT,by rw[Ty.ir];omega,l⟩:∃t i,some (Ty.nat,f)=some (t,i)/\t.ok=true/\t.acO+1<=2^(k+1)/\i.wf);rw[jE];simp only[eA,s,eb,fE,gT,IT,cl,mm,p9,gA,gW]
  split
  ·exact c d1 g
  split
  ·exact⟨.ns,d1,rfl,Ty.RJ,by rw[Ty.pE];omega,g⟩
  split
  ·exact⟨.unit,d1,rfl,Ty.Pm,by rw[Ty.GV];omega,g⟩
  have two:0<(k:Int)->∃a b d2 d3,jE n d1 (fG .i64 (k:Int) 1)=some (a,d2)/\jE n d2 (fG .i64 (k:Int) 1)=some (b,d3)/\a.ok=true/\b.ok=true/\a.acO+1<=2^k/\b.acO+1<=2^k/\d3.wf:=by
   intro e;obtain⟨m,rfl⟩:∃m,k=m+1:=⟨k-1,by omega⟩
   grind[fF]
  split
  ·split
   ·rename_i e;obtain⟨a,b,d2,d3,a1,o,a2,p,a3,u,q⟩:=two e;rw[a1];simp only[eb];rw[o];simp only[eb];rw[yc (by omega) (by omega)];exact⟨_,_,rfl,Ty.ok_two (.inl rfl) a2 p,by rw[Ty.vG];omega,q⟩
   ·exact c d1 g
  split
  ·split
   ·rename_i e;obtain⟨a,b,d2,d3,a1,o,a2,p,a3,u,q⟩:=two e;rw[a1];simp only[eb];rw[o];simp only[eb];rw[jt (by omega) (by omega)];exact⟨_,_,rfl,Ty.ok_two (.inr rfl) a2 p,by rw[Ty.ke];omega,q⟩
   ·exact c d1 g
  ·exact c d1 g
def zd(d:eG)(b:d.wf)(k:Nat)(c:k<=4):∃t a,jE FU d (k:Int)=some (t,a)/\t.err=0/\t.acO+1<=2^(k+1)/\a.wf:=by
 obtain⟨t,a,e,f,g,h⟩:=OA FU k d (by rw[fC];omega) c b
 grind[Tv,Ty.wS]
def Nt(g:List Ty)(t:Ty)(hg:g.length<=1000000)(hn:∀s∈g,s.acO<=1000000000):∃l,CJ g t=some l/\l.length<=g.length/\∀v∈l,∃i:Nat,v=i/\i<g.length/\g[g.length-1-i]?=some t:=by
 unfold CJ;simp only[eC (l:=g) (by omega),eo,eA]
 have key:∀(l:List Ty) (i:Nat) (v:List Int),i+l.length=g.length->v.length<=i->(∀x∈v,∃j:Nat,x=j/\j<g.length/\g[g.length-1-j]?=some t)->∃a,fo (ρ:=List Int) (λ(j:Int) (r:Ty) (v:List Int)=>cv (eI g (fG .i64 (fG .i64 (eN g) 1) j)) λx=>cv (fR FU x t) λy=>if y=true then hO (gy v [j]) (some (gw.next (gU v [j])))else some (gw.next v)) l i v=some (.inl a)/\a.length<=g.length/\∀x∈a,∃j:Nat,x=j/\j<g.length/\g[g.length-1-j]?=some t:=by
  intro l
  induction l with
  |nil=>
   intro i v d k c;exact⟨v,rfl,by simp at d;omega,c⟩
  |cons y l f=>
   intro i v d k c;simp only[l5] at d
   have b:g.length-1-i<g.length:=by omega
   have n:eI g (fG .i64 (fG .i64 (eN g) 1) (i:Int))=some g[g.length-1-i]:=by grind[fV,fF,jJ]
   rw[fl];simp only[n,cl,jg (hn _ (Cl b))];cases hs:Ty.kL g[g.length-1-i] t with
   |false=>
    simp only[tQ,QL,cl,fv];exact f (i+1) v (by omega) (by omega) c
   |true=>
    rw[Ty.j3] at hs;simp only[if_true,fA (l:=v) (m:=[(i:Int)]) (by simp;omega),eo,cl,fv,g_];refine f (i+1) (v++[(i:Int)]) (by omega) (by simp;omega) ?_;intro x e;rcases tj.1 e with h|h
    ·exact c x h
    ·rw[we] at h;exact⟨i,h,by omega,by rw[oG b,hs]⟩
 obtain⟨a,o,p,q⟩:=key g 0 [] (by simp) (by simp) (by simp);rw[o];exact⟨a,rfl,p,q⟩
def pd(g l:List Ty)(h:g.length+l.length<=1000000):mS g l=some (g++l):=by
 unfold mS;rw[fA (by simp;omega),fA (by simp;omega)];simp
def Ek(n:Nat)(hn:n<=1000000):∃x,n_ (n:Int)=some x/\∀g,eY g x .nat/\x.acO=n+1:=by
 unfold n_;rw[pj 4 [] (by simp[ez])];simp only[cl,eA]
 obtain⟨o,m,l⟩:=DV (ρ:=Tm) (F:=Qt λ(h:Int) (i:Int) (v167:Int) (v168:Int) (j:List Ty) (k:List Tm)=>
   if pc h 0=true then some (gw.next (fG .i64 h 1,5,0,0,[],[Tm.mk i v167 (Ty.mk v168 j) k]))else some (gw.Ki (h,i,v167,v168,j,k)))
  (λs=>0<=s.1/\s.1<=n/\(∀g,eY g (Tm.mk s.2.1 s.2.2.1 (Ty.mk s.2.2.2.1 s.2.2.2.2.1) s.2.2.2.2.2) .nat)/\(Tm.mk s.2.1 s.2.2.1 (Ty.mk s.2.2.2.1 s.2.2.2.2.1) s.2.2.2.2.2).acO+s.1=n+1)
  (λs=>s.1.toNat)
  (λo=>match o with|.inl s=>(∀g,eY g (Tm.mk s.2.1 s.2.2.1 (Ty.mk s.2.2.2.1 s.2.2.2.2.1) s.2.2.2.2.2) .nat)/\(Tm.mk s.2.1 s.2.2.1 (Ty.mk s.2.2.2.1 s.2.2.2.2.1) s.2.2.2.2.2).acO=n+1|.inr _=>False)
  (by
   rintro⟨a,b,c,d,e,f⟩ ⟨m,l,p,t⟩;simp only at m l p t
   by_cases q:0<a
   ·left;refine⟨_,by simp only[wT,gW,q,if_true];rfl,⟨?_,?_,?_,?_⟩,?_⟩
    ·rw[fF (by omega) (by omega)];show 0<=a-1;omega
    ·rw[fF (by omega) (by omega)];show a-1<=n;omega
    ·intro g;exact eY.succ (p g)
    all_goals grind[fF,Tm.ef,ez]
   ·right;left;refine⟨_,by simp only[wT,gW,q,QL];rfl,p,?_⟩
    have:a=0:=by omega
    subst this
    simp only;omega)
  FU ((n:Int),4,0,0,[],[]) ⟨by simp,by simp,λg=>eY.zero,by rw[Tm.ef];simp[ez];omega⟩ (by rw[fC];show(n:Int).toNat<_;omega)
 simp only[Tm.eM,Tm.gl,Tm.ft,Ty.eM,Ty.eF,Tm.eF];rw[m];cases o with
 |inr r=>exact l.elim|inl s=>
  obtain⟨a,b,c,d,e,f⟩:=s;exact⟨_,rfl,λg=>⟨l.1 g,l.2⟩⟩
def DI(n:Int)(b:0<=n)(hn:n<=4000):∃x,tg n=some x/\∀g,eY g x .nat/\(x.acO:Int)=n+1:=by
 obtain⟨k,rfl⟩:=WW b;obtain⟨x,c,a⟩:=Ek k (by omega);unfold tg sa;simp only[mD,iX];rw[ea (by omega),ea (by omega),c];exact⟨x,rfl,λg=>⟨(a g).1,by rw[(a g).2];simp⟩⟩
structure NS (g:List Ty) (x:Tm) (t:Ty) (n:Nat):Prop where
 ty:eY g x t
 acO:x.acO<=n
def NS.wt{g:List Ty}{x:Tm}{t:Ty}{n:Nat}(h:NS g x t n):x.wt<=65*n:=by
 have:=x.jC h.ty.ok;have:=h.acO;omega
theorem NS.mono{g:List Ty}{x:Tm}{t:Ty}{n m:Nat}(h:NS g x t n)(hm:n<=m):NS g x t m:=⟨h.ty,C9 h.acO hm⟩
def Gn{k:Int}{a:Tm}(b:a.wt<=100000000):gd k [a]=some (.mk k 0 .z [a]):=pj k [a] (by simp[ez];omega)
def uc{k:Int}{a b:Tm}(c:a.wt<=100000000)(d:b.wt<=100000000):gd k [a,b]=some (.mk k 0 .z [a,b]):=pj k [a,b] (by simp[ez];omega)
def D0{k:Int}:gd k []=some (.mk k 0 .z []):=pj k [] (by simp[ez])
def A5{k:Int}{s:Ty}{a:Tm}(hs:s.acO<=1000000000)(b:a.wt<=100000000):mj k s [a]=some (.mk k 0 s [a]):=GF k s [a] hs (by simp[ez];omega)
def Ct{k:Int}{s:Ty}{a b c:Tm}(hs:s.acO<=1000000000)(d:a.wt<=100000000)(e:b.wt<=100000000)(f:c.wt<=100000000):mj k s [a,b,c]=some (.mk k 0 s [a,b,c]):=
 GF k s [a,b,c] hs (by simp[ez];omega)
def Lr{f a b:Tm}(c:f.wt<=10000000)(d:a.wt<=10000000)(e:b.wt<=10000000):Bm f [a,b]=some (.mk 3 0 .z [.mk 3 0 .z [f,a],b]):=by
 have g:(Tm.mk 3 0 .z [f,a]).wt<=30000000:=by rw[Tm.fM];have:Ty.z.acO=1:=rfl;simp[ez,this];omega
 unfold Bm
 simp only[eC (l:=[a,b]) (by simp),eo,eA,fl,pw,Hj,Ty.lZ,Tm.lZ,uc (k:=3) (a:=f) (b:=a) (by omega) (by omega),cl,fv,uc (k:=3) (a:=.mk 3 0 .z [f,a]) (b:=b) (by omega) (by omega),en]
def Ty.gK:Ty.nat.err=0:=Ty.wS Ty.RT (by rw[Ty.ir];omega)
def Ty.oX:Ty.ns.err=0:=Ty.wS Ty.RJ (by rw[Ty.pE];omega)
def Ty.Hi:Ty.unit.err=0:=Ty.wS Ty.Pm (by rw[Ty.GV];omega)
def Ty.ya{a b:Ty}(c:a.err=0)(d:b.err=0)(h:a.acO+b.acO<=63):(Ty.fn a b).err=0:=Ty.wS (Ty.ok_two (.inr rfl) (Ty.ng c).1 (Ty.ng d).1) (by rw[Ty.ke];omega)
def Ty.OE{a b:Ty}(c:a.err=0)(d:b.err=0)(h:a.acO+b.acO<=63):(Ty.pr a b).err=0:=Ty.wS (Ty.ok_two (.inl rfl) (Ty.ng c).1 (Ty.ng d).1) (by rw[Ty.vG];omega)
def FK(i:Nat):Tm:=.mk 1 i .z []
def na(s:Ty)(b:Tm):Tm:=.mk 2 0 s [b]
def iQ(f a:Tm):Tm:=.mk 3 0 .z [f,a]
def gD:Tm:=.mk 4 0 .z []
def iy(a:Tm):Tm:=.mk 5 0 .z [a]
def Pq(t:Ty)(a b c:Tm):Tm:=.mk 6 0 t [a,b,c]
def od:Tm:=na .nat (na .nat (Pq .nat (FK 1) (na .nat (na .nat (iy (FK 0)))) (FK 0)))
def NN:Tm:=na .nat (Pq .nat gD (na .nat (na .nat (FK 1))) (FK 0))
def Tb:Tm:=na .nat (na .nat (Pq .nat (FK 1) (na .nat (na .nat (iQ NN (FK 0)))) (FK 0)))
def CE(i:Nat):fy (i:Int)=some (FK i):=rfl
def vD{a:Tm}(b:a.wt<=100000000):lF a=some (na .nat a):=by
 unfold lF;rw[fE];simp only[cl];rw[A5 (by rw[Ty.ir];omega) b];rfl
def rec_eq{a b c:Tm}(d:a.wt<=100000000)(e:b.wt<=100000000)(f:c.wt<=100000000):tz a b c=some (Pq .nat a b c):=by
 unfold tz;rw[fE];simp only[cl];rw[Ct (by rw[Ty.ir];omega) d e f];rfl
def Bi:tp=some od:=by
 unfold tp;rw[show fy 1=some (FK 1)from rfl,show fy 0=some (FK 0)from rfl];simp only[cl];rw[Gn (by decide)];simp only[cl];rw[vD (by decide)];simp only[cl];rw[vD (by decide)];simp only[cl];rw[rec_eq (by decide) (by decide) (by decide)];simp only[cl];rw[vD (by decide)];simp only[cl];rw[vD (by decide)];rfl
def Jg:vU=some NN:=by
 unfold vU;rw[show fy 1=some (FK 1)from rfl,show fy 0=some (FK 0)from rfl,D0];simp only[cl];rw[vD (by decide)];simp only[cl];rw[vD (by decide)];simp only[cl];rw[rec_eq (by decide) (by decide) (by decide)];simp only[cl];rw[vD (by decide)];rfl
def KJ:xo=some Tb:=by
 unfold xo;rw[show fy 1=some (FK 1)from rfl,show fy 0=some (FK 0)from rfl,Jg];simp only[cl];rw[uc (by decide) (by decide)];simp only[cl];rw[vD (by decide)];simp only[cl];rw[vD (by decide)];simp only[cl];rw[rec_eq (by decide) (by decide) (by decide)];simp only[cl];rw[vD (by decide)];simp only[cl];rw[vD (by decide)];rfl
def ZC{g:List Ty}{t:Ty}(i:Nat)(h:i<g.length)(a:g[g.length-1-i]?=some t):eY g (FK i) t:=eY.var i h a
def sm{g:List Ty}{t:Ty}:eY (g++[t]) (FK 0) t:=eY.var 0 (by simp) (by simp)
def C'{g:List Ty}{s t:Ty}:eY (g++[t]++[s]) (FK 1) t:=eY.var 1 (by simp) (by simp)
def zm:(Ty.fn .nat .nat).err=0:=Ty.ya Ty.gK Ty.gK (by rw[Ty.ir];omega)
def Cy:(Ty.fn .nat (Ty.fn .nat .nat)).err=0:=Ty.ya Ty.gK zm (by rw[Ty.ke,Ty.ir];omega)
def D5(g:List Ty):eY g od (.fn .nat (.fn .nat .nat)):=
 .lam Cy (.lam zm (.tW Ty.gK C' (.lam Cy (.lam zm (.succ sm))) sm))
def Qw(g:List Ty):eY g NN (.fn .nat .nat):=
 .lam zm (.tW Ty.gK .zero (.lam Cy (.lam zm C')) sm)
def RL(g:List Ty):eY g Tb (.fn .nat (.fn .nat .nat)):=
 .lam Cy (.lam zm (.tW Ty.gK C' (.lam Cy (.lam zm (.app (Qw _) sm))) sm))
def CI:od.acO=9:=by decide
def MY:Tb.acO=16:=by decide
def qE{α β:Type}{G:Option β->Prop}(P:α->Prop){k:α->Option β}{b:(α->Option β)->Option β}(c:∀a,P a->G (k a))(d:∀j:α->Option β,(∀a,P a->G (j a))->G (b j)):G (eL k b):=d k c
def F8{α γ β:Type}{G:Option β->Prop}(P:α->γ->Prop){k:α->γ->Option β}{b:(α->γ->Option β)->Option β}(d:∀a c,P a c->G (k a c))(e:∀j:α->γ->Option β,(∀a c,P a c->G (j a c))->G (b j)):G (eL k b):=e k d
def tb(N:Nat):Nat->Nat
 |0=>3*N|k+1=>30+3*tb N k
def aay{N:Nat}(a:N<=20):∀k,k<=5->tb N k<=18300:=by
 intro k b
 have:k=0\/k=1\/k=2\/k=3\/k=4\/k=5:=by omega
 rcases this with rfl|rfl|rfl|rfl|rfl|rfl<;>simp only[tb]<;>omega
def Tp{N k:Nat}:3*N<=tb N k:=by
 induction k with
 |zero=>simp[tb]|succ k a=>grind[tb]
def kU(g:List Ty)(t:Ty)(b:Nat)(o:Option (Tm×eG)):Prop:=∃x a,o=some (x,a)/\a.wf/\NS g x t b
def kU.of{g:List Ty}{t:Ty}{b:Nat}{x:Tm}{d:eG}(a:d.wf)(h:eY g x t)(hn:x.acO<=b):kU g t b (some (x,d)):=⟨x,d,rfl,a,h,hn⟩
structure ss (N:Nat) (g:List Ty):Prop where
 all:∀s∈g,s.err=0/\s.acO<=N
def ss.app{N:Nat}{g l:List Ty}(h:ss N g)(a:∀s∈l,s.err=0/\s.acO<=N):ss N (g++l):=
 ⟨λs hs=>by rcases tj.1 hs with h'|h';exact h.all s h';exact a s h'⟩
def Ty.rF{t:Ty}(h:t.err=0):t=.nat\/t=.ns\/t=.unit\/(∃a b,t=.pr a b/\a.err=0/\b.err=0)\/(∃a b,t=.fn a b/\a.err=0/\b.err=0):=by
 cases t with
 |mk k l=>
  have e:=(Ty.ng h).1;rw[Ty.ia] at e;simp only[gO,nA] at e;have c:=e.1;unfold Ty.want at c
  split at c
  ·rename_i d;injection c with c;have:=Z2.1 c.symm;subst this;rcases d with rfl|rfl|rfl
   ·exact .inl rfl
   ·exact .inr (.inl rfl)
   ·exact .inr (.inr (.inl rfl))
  ·split at c
   ·rename_i d;injection c with c;obtain⟨a,b,rfl⟩:=qF (l:=l) (by omega);have:=Ty.s_ d h;rcases d with rfl|rfl
    ·exact .inr (.inr (.inr (.inl ⟨a,b,rfl,this⟩)))
    ·exact .inr (.inr (.inr (.inr ⟨a,b,rfl,this⟩)))
   ·cases c
set_option maxHeartbeats 1000000 in
def O1(N:Nat)(aH:1<=N)(hN:N<=20):∀(n:Nat) (dep:Int) (g:List Ty) (t:Ty) (d:eG),dep.toNat*(N+1)+t.acO<n->dep<=5->-1000000<=dep-t.acO->g.length+(3+N)*dep.toNat+t.acO<=1000->ss N g->t.err=0->t.acO<=N->d.wf->kU g t (if dep<=0 then 3*t.acO else tb N dep.toNat) (gH n d g t dep):=by
 intro n
 induction n with
 |zero=>intro dep g t d h;omega|succ n ih=>
  intro dep g t d hm aI aG hlen hg q p hd;have aJ:=t.eP;have ak:=(Ty.ng q).2
  have deep:0<dep->∀P M O,P.length<=g.length+3->ss N P->M.err=0->M.acO<=N->O.wf->kU P M (tb N (dep.toNat-1)) (gH n O P M (fG .i64 dep 1)):=by
   intro e P M O Q T X v h5;obtain⟨k,rfl⟩:∃k:Nat,dep=(k+1:Nat):=⟨dep.toNat-1,by omega⟩
   have e1:((k+1:Nat):Int).toNat=k+1:=by simp
   rw[e1] at hm hlen|-;rw[fF (by omega) (by omega),show((k+1:Nat):Int)-1=(k:Int) by omega]
   have hmul:(k+1)*(N+1)=k*(N+1)+N+1:=by rw[AR];omega
   have al:(3+N)*(k+1)=(3+N)*k+3+N:=by rw[W'];omega
   obtain⟨x,d1,a1,a2,a3⟩:=ih (k:Int) P M O (by simp;omega) (by omega) (by omega) (by simp;omega) T X v h5;refine⟨x,d1,a1,a2,a3.mono ?_⟩;simp only[Vq]
   split
   ·have:k=0:=by omega
    subst this;simp only[tb];omega
   ·simp
  have flat:dep<=0->∀P M O,P.length<=g.length+1->M.acO+1<=t.acO->ss N P->M.err=0->O.wf->kU P M (3*M.acO) (gH n O P M (fG .i64 dep 1)):=by
   intro e P M O Q h0 T X h5
   have e1:dep.toNat=0:=by omega
   rw[e1] at hm hlen;rw[fF (by omega) (by omega)]
   have e2:(dep-1).toNat=0:=by omega
   have:=ih (dep-1) P M O (by rw[e2];omega) (by omega) (by omega) (by rw[e2];omega) T X (by omega) h5;rw[ee (by omega)] at this;exact this
  have U:0<dep->(if dep<=0 then 3*t.acO else tb N dep.toNat)=30+3*tb N (dep.toNat-1):=by
   intro e;rw[ea (by omega)];obtain⟨k,hk⟩:∃k,dep.toNat=k+1:=⟨dep.toNat-1,by omega⟩;rw[hk];rfl
  have an:0<dep->tb N (dep.toNat-1)<=18300:=λ_=>aay hN _ (by omega)
  have aa:3*t.acO<=(if dep<=0 then 3*t.acO else tb N dep.toNat):=by
   split
   ·omega
   ·have:=Tp (N:=N) (k:=dep.toNat);omega
  generalize (if dep<=0 then 3*t.acO else tb N dep.toNat)=B at U aa|-
  have m:∀{g x t},0<dep->NS g x t (tb N (dep.toNat-1))->x.wt<=1300000:=by
   intro g x t e h;have:=h.wt;have:=an e;omega
  obtain⟨vs,ao,aK,aq⟩:=Nt g t (by omega) (λs hs=>by have:=(hg.all s hs).2;omega);rw[gH,ao];simp only[cl];refine F8 (G:=kU g t B) (λa c=>c.wf/\(a=true->vs≠[])) ?_ ?_
  ·--a variable,or ab else
   rintro a d1 ⟨ad,ar⟩;cases a with
   |true=>
    simp only[if_true];have au:=ar rfl
    have aL:1<=vs.length:=by cases vs with|nil=>exact absurd rfl au|cons _ _=>simp
    obtain⟨x,d2,Q,T,X,v⟩:=mg d1 ad (eN vs) (by simp;omega) (by simp;omega);rw[Q];simp only[eb];obtain⟨y,hy,aw⟩:=Jm (l:=vs) T (by simpa using X);rw[hy];simp only[cl];obtain⟨i,rfl,ax,ay⟩:=aq y aw;rw[CE];refine kU.of v (ZC i ax ay) ?_
    have:(FK i).acO=1:=by unfold FK;rw[Tm.ef];rfl
    omega
   |false=>
    simp only[tQ,QL];refine qE (G:=kU g t B) eG.wf ?_ ?_
    ·--by ah type
     intro d2 w;rcases Ty.rF q with rfl|rfl|rfl|⟨a,b,rfl,ha,hb⟩|⟨a,b,rfl,ha,hb⟩
     ·--numbers
      simp only[show Ty.nat.acM=1 from rfl,gA,if_true];refine qE (G:=kU g .nat B) eG.wf ?_ ?_
      ·intro d3 Y;obtain⟨x,d4,Q,T,X,v⟩:=mg d3 Y 3 (by omega) (by omega);rw[Q];simp only[eb];obtain⟨y,az,ai⟩:=DI x T (by omega);rw[az];refine kU.of v (ai g).1 ?_;have:=(ai g).2;rw[Ty.ir] at aa;omega
      ·intro j S;simp only[gW]
       split
       ·rename_i e;have U:=U e;obtain⟨x,d4,Q,T,X,v⟩:=mg d2 w 5 (by omega) (by omega);rw[Q];simp only[eb,gA]
        split
        ·obtain⟨a,d5,a1,a2,a3⟩:=deep e g .nat d4 (by omega) hg Ty.gK p v;rw[a1];simp only[eb];rw[Gn (by have:=m e a3;omega)];refine kU.of a2 (.succ a3.ty) ?_;have:=a3.acO;rw[Tm.ef];simp only[ez];omega
        split
        ·rw[Bi];simp only[cl];obtain⟨a,d5,a1,a2,a3⟩:=deep e g .nat d4 (by omega) hg Ty.gK p v;rw[a1];simp only[eb];obtain⟨b,d6,A,C,o⟩:=deep e g .nat d5 (by omega) hg Ty.gK p a2;rw[A];simp only[eb];rw[Lr (by decide) (by have:=m e a3;omega) (by have:=m e o;omega)];refine kU.of C (.app (.app (D5 g) a3.ty) o.ty) ?_;have:=a3.acO;have:=o.acO;have:=CI;rw[Tm.ef];simp only[ez,Tm.ef];omega
        split
        ·rw[KJ];simp only[cl];obtain⟨a,d5,a1,a2,a3⟩:=deep e g .nat d4 (by omega) hg Ty.gK p v;rw[a1];simp only[eb];obtain⟨b,d6,A,C,o⟩:=deep e g .nat d5 (by omega) hg Ty.gK p a2;rw[A];simp only[eb];rw[Lr (by decide) (by have:=m e a3;omega) (by have:=m e o;omega)];refine kU.of C (.app (.app (RL g) a3.ty) o.ty) ?_;have:=a3.acO;have:=o.acO;have:=MY;rw[Tm.ef];simp only[ez,Tm.ef];omega
        ·exact S d4 v
       ·exact S d2 w
     ·--lists
      simp only[show Ty.ns.acM=2 from rfl,gA,if_true,show¬(2:Int)=1 by omega,QL];refine F8 (G:=kU g .ns B) (λa c=>c.wf/\(a=true->0<dep)) ?_ ?_
      ·rintro a d3 ⟨Y,e⟩;cases a with
       |true=>
        have e:=e rfl;have U:=U e;simp only[if_true];rw[fE];simp only[cl];obtain⟨a,d5,a1,a2,a3⟩:=deep e g .nat d3 (by omega) hg Ty.gK (by rw[Ty.ir];omega) Y;rw[a1];simp only[eb];obtain⟨b,d6,A,C,o⟩:=deep e g .ns d5 (by omega) hg Ty.oX p a2;rw[A];simp only[eb];rw[uc (by have:=m e a3;omega) (by have:=m e o;omega)];refine kU.of C (.cons a3.ty o.ty) ?_;have:=a3.acO;have:=o.acO;rw[Tm.ef];simp only[ez];omega
       |false=>
        simp only[tQ,QL];rw[D0];refine kU.of Y .nil ?_;rw[Tm.ef];simp only[ez];omega
      ·intro j S;simp only[gW]
       split
       ·rename_i e;obtain⟨x,d4,Q,T,X,v⟩:=mg d2 w 2 (by omega) (by omega);rw[Q];simp only[eb];exact S _ d4 ⟨v,λ_=>e⟩
       ·exact S _ d2 ⟨w,λh=>by cases h⟩
     ·simp only[show Ty.unit.acM=5 from rfl,gA,show¬(5:Int)=1 by omega,show¬(5:Int)=2 by omega,show¬(5:Int)=3 by omega,show¬(5:Int)=4 by omega,QL];rw[D0];refine kU.of w .unit ?_;rw[Tm.ef];simp only[ez];omega
     ·simp only[show(Ty.pr a b).acM=3 from rfl,show(Ty.pr a b).acN=[a,b] from rfl,gA,show¬(3:Int)=1 by omega,show¬(3:Int)=2 by omega,if_true,QL,eU,gu,jA,mT,cl];rw[Ty.vG] at p ak aa
      by_cases e:0<dep
      ·have U:=U e;obtain⟨x,d5,a1,a2,a3⟩:=deep e g a d2 (by omega) hg ha (by omega) w;rw[a1];simp only[eb];obtain⟨y,d6,A,C,o⟩:=deep e g b d5 (by omega) hg hb (by omega) a2;rw[A];simp only[eb];rw[uc (by have:=m e a3;omega) (by have:=m e o;omega)];refine kU.of C (.pair q a3.ty o.ty) ?_;have:=a3.acO;have:=o.acO;rw[Tm.ef];simp only[ez];omega
      ·have aA:=Ty.vG a b;obtain⟨x,d5,a1,a2,a3⟩:=flat (by omega) g a d2 (by omega) (by omega) hg ha w;rw[a1];simp only[eb];obtain⟨y,d6,A,C,o⟩:=flat (by omega) g b d5 (by omega) (by omega) hg hb a2;rw[A];simp only[eb];have:=a3.acO;have:=o.acO;rw[uc (by have:=a3.wt;omega) (by have:=o.wt;omega)];refine kU.of C (.pair q a3.ty o.ty) ?_;rw[Tm.ef];simp only[ez];omega
     ·simp only[show(Ty.fn a b).acM=4 from rfl,show(Ty.fn a b).acN=[a,b] from rfl,gA,show¬(4:Int)=1 by omega,show¬(4:Int)=2 by omega,show¬(4:Int)=3 by omega,if_true,QL,eU,gu,jA,mT,cl];have aA:=Ty.ke a b;rw[pd g [a] (by simp;omega)];simp only[cl];have R:ss N (g++[a]):=hg.app (by intro s hs;rw[we] at hs;subst hs;exact⟨ha,by omega⟩)
      by_cases e:0<dep
      ·have U:=U e;obtain⟨x,d5,a1,a2,a3⟩:=deep e (g++[a]) b d2 (by simp) R hb (by omega) w;rw[a1];simp only[eb];rw[A5 (by omega) (by have:=m e a3;omega)];refine kU.of a2 (.lam q a3.ty) ?_;have:=a3.acO;rw[Tm.ef];simp only[ez];omega
      ·obtain⟨x,d5,a1,a2,a3⟩:=flat (by omega) (g++[a]) b d2 (by simp) (by omega) R hb w;rw[a1];simp only[eb];have:=a3.acO;rw[A5 (by omega) (by have:=a3.wt;omega)];refine kU.of a2 (.lam q a3.ty) ?_;rw[Tm.ef];simp only[ez];omega
    ·--a aB,or one of ah context
     intro j S;simp only[gW]
     split
     ·rename_i e;have U:=U e;obtain⟨x,d2,Q,T,X,v⟩:=mg d1 ad 8 (by omega) (by omega);rw[Q];simp only[eb,gA]
      have leaf:∀d,eG.wf d->∃s O,jE FU d 0=some (s,O)/\s.err=0/\s.acO=1/\O.wf:=by
       intro d hd;obtain⟨s,O,c1,c2,c3,c4⟩:=zd d hd 0 (by omega);have:=s.eP;exact⟨s,O,c1,c2,by omega,c4⟩
      split
      ·obtain⟨s,d3,s1,s2,s3,s4⟩:=leaf d2 v;rw[s1];simp only[eb];rw[pd g [s] (by simp;omega)];simp only[cl];obtain⟨a,d5,a1,a2,a3⟩:=deep e (g++[s]) t d3 (by simp) (hg.app (by intro u hu;rw[we] at hu;subst hu;exact⟨s2,by omega⟩)) q p s4;rw[a1];simp only[eb];rw[A5 (by omega) (by have:=m e a3;omega)];simp only[cl];obtain⟨b,d6,A,C,o⟩:=deep e g s d5 (by omega) hg s2 (by omega) a2;rw[A];simp only[eb];have w1:=m e a3;rw[uc (by rw[Tm.fM];simp only[ez];omega) (by have:=m e o;omega)];refine kU.of C (.app (.lam (Ty.ya s2 q (by omega)) a3.ty) o.ty) ?_;have:=a3.acO;have:=o.acO;rw[Tm.ef];simp only[ez,Tm.ef];omega
      split
      ·obtain⟨s,d3,s1,s2,s3,s4⟩:=leaf d2 v;rw[s1];simp only[eb];obtain⟨a,d5,a1,a2,a3⟩:=deep e g t d3 (by omega) hg q p s4;rw[a1];simp only[eb];obtain⟨b,d6,A,C,o⟩:=deep e g s d5 (by omega) hg s2 (by omega) a2;rw[A];simp only[eb];have w1:=m e a3;have w2:=m e o;rw[uc (by omega) (by omega)];simp only[cl];rw[Gn (by rw[Tm.fM];have:Ty.z.acO=1:=rfl;simp only[ez];omega)];refine kU.of C (.fst (.pair (Ty.OE q s2 (by omega)) a3.ty o.ty)) ?_;have:=a3.acO;have:=o.acO;rw[Tm.ef];simp only[ez,Tm.ef];omega
      split
      ·rw[fE];simp only[cl];rw[pd g [.nat,t] (by simp;omega)];simp only[cl]
       have R:ss N (g++[.nat,t]):=hg.app (by
        intro u hu;simp only[l7,wV,Ux] at hu;rcases hu with rfl|rfl
        ·exact⟨Ty.gK,by rw[Ty.ir];omega⟩
        ·exact⟨q,p⟩)
       obtain⟨a,d5,a1,a2,a3⟩:=deep e (g++[.nat,t]) t d2 (by simp) R q p v;rw[a1];simp only[eb];have w1:=m e a3;have nn:=Ty.ir;rw[A5 (by omega) (by omega)];simp only[cl];rw[A5 (by omega) (by rw[Tm.fM];simp only[ez];omega)];simp only[cl];obtain⟨b,d6,A,C,o⟩:=deep e g t d5 (by omega) hg q p a2;rw[A];simp only[eb];obtain⟨y,d7,y1,y2,y3,y4⟩:=mg d6 C 3 (by omega) (by omega);rw[y1];simp only[eb];obtain⟨z,z1,z2⟩:=DI y y2 (by omega);rw[z1];simp only[cl];have w2:=m e o;have zn:=(z2 g).2;have zw:=z.jC (z2 g).1.ok
       have e1:(Tm.mk 2 0 .nat [Tm.mk 2 0 t [a]]).wt<=2000000:=by rw[Tm.fM];simp only[ez,Tm.fM];omega
       rw[Ct (by omega) (by omega) (by omega) (by omega)];have V:(Ty.fn t t).err=0:=Ty.ya q q (by omega);refine kU.of y4 (.tW q o.ty (.lam (Ty.ya Ty.gK V (by rw[Ty.ke];omega)) (.lam V (by simpa using a3.ty))) (z2 g).1) ?_;have:=a3.acO;have:=o.acO;rw[Tm.ef];simp only[ez,Tm.ef];omega
      split
      ·rw[fE,gT];simp only[cl];rw[pd g [.nat,.ns,t] (by simp;omega)];simp only[cl]
       have R:ss N (g++[.nat,.ns,t]):=hg.app (by
        intro u hu;simp only[l7,wV,Ux] at hu;rcases hu with rfl|rfl|rfl
        ·exact⟨Ty.gK,by rw[Ty.ir];omega⟩
        ·exact⟨Ty.oX,by rw[Ty.pE];omega⟩
        ·exact⟨q,p⟩)
       obtain⟨a,d5,a1,a2,a3⟩:=deep e (g++[.nat,.ns,t]) t d2 (by simp) R q p v;rw[a1];simp only[eb];have w1:=m e a3;have nn:=Ty.ir;have ln:=Ty.pE;rw[A5 (by omega) (by omega)];simp only[cl];rw[A5 (by omega) (by rw[Tm.fM];simp only[ez];omega)];simp only[cl];rw[A5 (by omega) (by rw[Tm.fM];simp only[ez,Tm.fM];omega)];simp only[cl];obtain⟨b,d6,A,C,o⟩:=deep e g t d5 (by omega) hg q p a2;rw[A];simp only[eb];obtain⟨c,d7,c1,c2,c3⟩:=deep e g .ns d6 (by omega) hg Ty.oX (by omega) C;rw[c1];simp only[eb];have w2:=m e o;have w3:=m e c3
       have e1:(Tm.mk 2 0 .nat [Tm.mk 2 0 .ns [Tm.mk 2 0 t [a]]]).wt<=2000000:=by rw[Tm.fM];simp only[ez,Tm.fM];omega
       rw[Ct (by omega) (by omega) (by omega) (by omega)];have V:(Ty.fn t t).err=0:=Ty.ya q q (by omega);have Z:(Ty.fn .ns (Ty.fn t t)).err=0:=Ty.ya Ty.oX V (by rw[Ty.ke];omega);refine kU.of c2 (.fold q o.ty (.lam (Ty.ya Ty.gK Z (by rw[Ty.ke,Ty.ke];omega)) (.lam Z (.lam V (by simpa using a3.ty)))) c3.ty) ?_;have:=a3.acO;have:=o.acO;have:=c3.acO;rw[Tm.ef];simp only[ez,Tm.ef];omega
      split
      ·obtain⟨s,d3,s1,s2,s3,s4⟩:=leaf d2 v;rw[s1];simp only[eb];obtain⟨a,d5,a1,a2,a3⟩:=deep e g s d3 (by omega) hg s2 (by omega) s4;rw[a1];simp only[eb];obtain⟨b,d6,A,C,o⟩:=deep e g t d5 (by omega) hg q p a2;rw[A];simp only[eb];have w1:=m e a3;have w2:=m e o;rw[uc (by omega) (by omega)];simp only[cl];rw[Gn (by rw[Tm.fM];have:Ty.z.acO=1:=rfl;simp only[ez];omega)];refine kU.of C (.snd (.pair (Ty.OE s2 q (by omega)) a3.ty o.ty)) ?_;have:=a3.acO;have:=o.acO;rw[Tm.ef];simp only[ez,Tm.ef];omega
      split
      ·--a function of ah context
       rw[eC (by omega),eo];simp only[eA]
       rcases JW (λ_:Unit=>True) (λr:Tm×eG=>kU g t B (some r)) (F:=λ(E:Int) (aC:Ty) (_:Unit)=>
         cv (eI g (fG .i64 (fG .i64 (eN g) 1) E)) λD=>
          if D.acM=4 then cv (eI D.acN 1) λae=>cv (fR FU ae t) λaf=>
           if af=true then cv (fy E) λH=>cv (eI D.acN 0) λI=>ej (gH n d2 g I (fG .i64 dep 1)) λJ K=>
            cv (gd 3 [H,J]) λL=>some (gw.ret (L,K))
           else some (gw.next ())
          else if false=true then cv (fy E) λH=>cv (eI D.acN 0) λI=>ej (gH n d2 g I (fG .i64 dep 1)) λJ K=>
            cv (gd 3 [H,J]) λL=>some (gw.ret (L,K))
           else some (gw.next ())) g 0 () trivial (by
        intro k u s hk _;have aD:k<g.length:=(pK.1 hk).1
        have W:g.length-1-k<g.length:=by omega
        have e1:eI g (fG .i64 (fG .i64 (eN g) 1) ((0+k:Nat):Int))=some g[g.length-1-k]:=by
         rw[vl,fV,fF (a:=(g.length:Int)) (b:=1) (by omega) (by omega),fF (by omega) (by omega),show(g.length:Int)-1-(k:Int)=((g.length-1-k:Nat):Int) by omega,jJ];simp[W]
        simp only[e1,cl];have hf:=hg.all _ (Cl W);have aj:g[g.length-1-k]?=some g[g.length-1-k]:=oG W;generalize g[g.length-1-k]=f at hf aj|-;rcases Ty.rF hf.1 with rfl|rfl|rfl|⟨a,b,rfl,ha,hb⟩|⟨a,b,rfl,ha,hb⟩
        ·left;exact⟨(),rfl,trivial⟩
        ·left;exact⟨(),rfl,trivial⟩
        ·left;exact⟨(),rfl,trivial⟩
        ·left;exact⟨(),rfl,trivial⟩
        ·simp only[show(Ty.fn a b).acM=4 from rfl,show(Ty.fn a b).acN=[a,b] from rfl,gA,if_true,eU,gu,jA,mT,cl];have aE:=hf.2;rw[Ty.ke] at aE;rw[jg (by omega)];simp only[cl];cases hs:b.kL t with
         |false=>left;exact⟨(),rfl,trivial⟩|true=>
          rw[Ty.j3] at hs;subst hs;right;simp only[if_true,vl];rw[CE];simp only[cl];obtain⟨y,d5,a1,a2,a3⟩:=deep e g a d2 (by omega) hg ha (by omega) v;rw[a1];simp only[eb];have w1:=m e a3
          have e2:(FK k).wt=2:=by unfold FK;rw[Tm.fM];rfl
          rw[uc (by omega) (by omega)];refine⟨_,rfl,kU.of a2 (.app (ZC k aD aj) a3.ty) ?_⟩;have:=a3.acO
          have e3:(FK k).acO=1:=by unfold FK;rw[Tm.ef];rfl
          rw[Tm.ef];simp only[ez];omega)with⟨s,hs,_⟩|⟨r,hr,aF⟩
       ·rw[hs];exact S d2 v
       ·rw[hr];exact aF
      ·exact S d2 v
     ·exact S d1 ad
  ·intro j S;simp only[gW,fV]
   split
   ·rename_i e;obtain⟨x,d2,Q,T,X,v⟩:=mg d hd 3 (by omega) (by omega);rw[Q];simp only[eb];exact S _ d2 ⟨v,λ_ h=>by subst h;simp at e⟩
   ·exact S _ d ⟨hd,λh=>by cases h⟩
inductive jV:List Ty->Fm->Prop
 |eq {g a b}:eY g a .nat->eY g b .nat->jV g (.mk 1 .z [a,b] [])|two {g k a b}:k=2\/k=3->jV g a->jV g b->jV g (.mk k .z [] [a,b])|q {g k s a}:k=4\/k=5\/k=6\/k=7->s.err=0->jV (g++[s]) a->jV g (.mk k s [] [a])
def jV.ok{g:List Ty}{f:Fm}(h:jV g f):f.ok=true:=by
 induction h with
 |eq c d=>simp[Fm.ia,Fm.node,Ty.pT,c.ok,d.ok]|two e _ _ i j=>
  rename_i k a b _ _
  have:¬k=1:=by omega
  simp[Fm.ia,Fm.node,Ty.pT,e,this,i,j]
 |q e hs _ l=>
  rename_i k s a _
  have c:¬k=1:=by omega
  have d:¬(k=2\/k=3):=by omega
  have m:k7 k=true:=by simp[k7,e]
  simp[Fm.ia,Fm.node,c,d,m,hs,l]
def zk{a b:Tm}(c:a.wt<=1000000000)(d:b.wt<=1000000000):k0 a b=some (.mk 1 .z [a,b] []):=by
 unfold k0;rw[nR c,nR d];rfl
def Hq{k:Int}{a b:Fm}(c:a.wt<=1000000000)(d:b.wt<=1000000000):ox k a b=some (.mk k .z [] [a,b]):=by
 unfold ox;rw[lP c,lP d];rfl
def BW{k:Int}{s:Ty}{a:Fm}(hs:s.acO<=1000000000)(b:a.wt<=1000000000):jS k s a=some (.mk k s [] [a]):=by
 unfold jS;rw[jd hs,lP b];rfl
def Ru:tT=some (.mk 1 .z [gD,iy gD] []):=by
 unfold tT;rw[D0];simp only[cl];rw[Gn (by decide)];simp only[cl];rw[zk (by decide) (by decide)];rfl
def fb:Nat->Nat
 |0=>115|k+1=>1+2*fb k
def aaU:∀k,k<=5->fb k<=3711:=by
 intro k a
 have:k=0\/k=1\/k=2\/k=3\/k=4\/k=5:=by omega
 rcases this with rfl|rfl|rfl|rfl|rfl|rfl<;>decide
structure TK (g:List Ty) (f:Fm) (n:Nat):Prop where
 ty:jV g f
 acO:f.acO<=n
def TK.wt{g:List Ty}{f:Fm}{n:Nat}(h:TK g f n):f.wt<=65*n:=by
 have:=f.jC h.ty.ok;have:=h.acO;omega
theorem TK.err{g:List Ty}{f:Fm}{n:Nat}(h:TK g f n)(hn:n<=4096):f.err=0:=Fm.wS h.ty.ok (by have:=h.acO;omega)
def uw(g:List Ty)(b:Nat)(o:Option (Fm×eG)):Prop:=∃x a,o=some (x,a)/\a.wf/\TK g x b
def uw.of{g:List Ty}{b:Nat}{x:Fm}{d:eG}(a:d.wf)(h:jV g x)(hn:x.acO<=b):uw g b (some (x,d)):=⟨x,d,rfl,a,h,hn⟩
def GX(N:Nat)(b:1<=N)(e:N<=20)(dep:Nat)(a:dep<=5)(g:List Ty)(t:Ty)(d:eG)(j:g.length<=600)(hg:ss N g)(f:t.err=0)(c:t.acO<=N)(h:d.wf):kU g t (tb N dep) (gH FU d g t (dep:Int)):=by
 have k:dep*(N+1)<=5*21:=XJ a (by omega);have l:(3+N)*dep<=23*5:=XJ (by omega) a;obtain⟨x,i,a1,a2,a3⟩:=O1 N b e FU (dep:Int) g t d (by rw[fC];simp;omega) (by omega) (by omega) (by simp;omega) hg f c h;refine⟨x,i,a1,a2,a3.mono ?_⟩
 split
 ·have:dep=0:=by omega
  subst this;simp only[tb];omega
 ·simp
def H0:∀(n k:Nat) (g:List Ty) (d:eG),k<n->k<=5->g.length+k<=500->ss 3 g->d.wf->uw g (fb k) (jm n d g (k:Int)):=by
 intro n
 induction n with
 |zero=>intro k g d h;omega|succ n I=>
  intro k g d R J hlen hg N;rw[jm];refine qE (G:=uw g (fb k)) eG.wf ?_ ?_
  ·intro d1 K;rw[fE];simp only[cl];obtain⟨a,d2,a1,a2,a3⟩:=GX 3 (by omega) (by omega) 1 (by omega) g .nat d1 (by omega) hg Ty.gK (by rw[Ty.ir];omega) K;rw[show((1:Nat):Int)=1 from rfl] at a1;rw[a1];simp only[eb];obtain⟨b,d3,C,L,f⟩:=GX 3 (by omega) (by omega) 1 (by omega) g .nat d2 (by omega) hg Ty.gK (by rw[Ty.ir];omega) a2;rw[show((1:Nat):Int)=1 from rfl] at C;rw[C];simp only[eb];have e:tb 3 1=57:=rfl;rw[e] at a3 f;rw[zk (by have:=a3.wt;omega) (by have:=f.wt;omega)];refine uw.of L (.eq a3.ty f.ty) ?_;have:=a3.acO;have:=f.acO
   have W:115<=fb k:=by
    clear R J hlen I
    induction k with
    |zero=>simp[fb]|succ k I=>simp only[fb];omega
   rw[Fm.ef];simp only[ez];omega
  ·intro j O;simp only[gW]
   split
   ·rename_i P;obtain⟨m,rfl⟩:∃m,k=m+1:=⟨k-1,by omega⟩
    have S:fG .i64 ((m+1:Nat):Int) 1=(m:Int):=by rw[fF (by omega) (by omega)];omega
    have T:=aaU m (by omega)
    have deep:∀l D,l.length<=g.length+1->ss 3 l->D.wf->uw l (fb m) (jm n D l (fG .i64 ((m+1:Nat):Int) 1)):=by
     intro l D E F Q;rw[S];exact I m l D (by omega) (by omega) (by omega) F Q
    have ctx:∀s:Ty,s.err=0->s.acO<=3->ss 3 (g++[s]):=λs E F=>hg.app (by intro u hu;rw[we] at hu;subst hu;exact⟨E,F⟩);obtain⟨x,d2,E,F,Q,H⟩:=mg d N 9 (by omega) (by omega);rw[E];simp only[eb,mm,p9,gA]
    have two:∀c:Int,c=2\/c=3->uw g (fb (m+1)) (ej (jm n d2 g (fG .i64 ((m+1:Nat):Int) 1)) λo d317=>ej (jm n d317 g (fG .i64 ((m+1:Nat):Int) 1)) λp d321=>cv (ox c o p) λr=>some (r,d321)):=by
     intro c t;obtain⟨a,d3,a1,a2,a3⟩:=deep g d2 (by omega) hg H;rw[a1];simp only[eb];obtain⟨b,d4,C,L,f⟩:=deep g d3 (by omega) hg a2;rw[C];simp only[eb];rw[Hq (by have:=a3.wt;omega) (by have:=f.wt;omega)];refine uw.of L (.two t a3.ty f.ty) ?_;have:=a3.acO;have:=f.acO;rw[Fm.ef];simp only[ez,fb];omega
    split
    ·exact two 2 (.inl rfl)
    split
    ·exact two 3 (.inr rfl)
    have one:∀c:Int,c=4\/c=5->uw g (fb (m+1)) (ej (jE FU d2 1) λi v=>cv (mS g [i]) λw=>ej (jm n v w (fG .i64 ((m+1:Nat):Int) 1)) λz A=>cv (jS c i z) λB=>some (B,A)):=by
     intro c t;obtain⟨s,d3,s1,s2,U,M⟩:=zd d2 H 1 (by omega);rw[show((1:Nat):Int)=1 from rfl] at s1;rw[s1];simp only[eb];rw[pd g [s] (by simp;omega)];simp only[cl];obtain⟨a,d4,a1,a2,a3⟩:=deep (g++[s]) d3 (by simp) (ctx s s2 (by omega)) M;rw[a1];simp only[eb];rw[BW (by omega) (by have:=a3.wt;omega)];refine uw.of a2 (.q (by omega) s2 a3.ty) ?_;have:=a3.acO;rw[Fm.ef];simp only[ez,fb];omega
    split
    ·exact one 4 (.inl rfl)
    split
    ·exact one 5 (.inr rfl)
    split
    ·obtain⟨s,d3,s1,s2,U,M⟩:=zd d2 H 0 (by omega);rw[show((0:Nat):Int)=0 from rfl] at s1;rw[s1];simp only[eb];obtain⟨y,d5,V,X,y3,y4⟩:=mg d3 M 2 (by omega) (by omega);rw[V];simp only[eb];rw[pd g [s] (by simp;omega)];simp only[cl];obtain⟨a,d4,a1,a2,a3⟩:=deep (g++[s]) d5 (by simp) (ctx s s2 (by omega)) y4;rw[a1];simp only[eb];rw[fu (by omega) (by omega),BW (by omega) (by have:=a3.wt;omega)];refine uw.of a2 (.q (by omega) s2 a3.ty) ?_;have:=a3.acO;rw[Fm.ef];simp only[ez,fb];omega
    ·exact O d2 H
   ·exact O d N
def Me(k:Nat)(a:k<=5)(g:List Ty)(d:eG)(c:g.length<=400)(hg:ss 3 g)(b:d.wf):uw g (fb k) (jm FU d g (k:Int)):=
 H0 FU k g d (by rw[fC];omega) a (by omega) hg b
def W_(l:List Int)(h:l.length<=1000):(eG.mk l 0).wf:=⟨h,by simp,by simp⟩
def wZ(l:List Ty):Int:=if 16<l.length then 3 else fO (l.map Ty.err)
def xM(l:List Ty)(e:l.length<=1000000)(h:∀t∈l,t.acO<=1000000000):oe l=some (wZ l):=by
 unfold oe wZ;simp only[gW,fV,eC (l:=l) (by omega),eo,eA]
 by_cases b:16<l.length
 ·rw[ee (by omega),ee b]
 ·rw[ea (by omega),ea b]
  have key:=lD (F:=λ(j:Int) (x:Ty) (_:Unit)=>cv (mL x) λa=>if eW a 0=true then some (gw.ret a)else some (gw.next ())) Ty.err l 0 (by
   intro j x d;rw[zL (h x d)]
   simp only[cl,ew])
  simp only[ew] at key|-;rw[key]
  by_cases c:fO (l.map Ty.err)=0
  ·simp[c]
  ·simp[c]
def tl(l:List Ty)(e:l.length<=1000000)(h:∀t∈l,t.acO<=1000000000):mQ l=some (wZ l):=by
 unfold mQ wZ;simp only[gW,fV,eC (l:=l) (by omega),eo,eA]
 by_cases b:16<l.length
 ·rw[ee (by omega),ee b]
 ·rw[ea (by omega),ea b]
  have key:=lD (F:=λ(j:Int) (x:Ty) (_:Unit)=>cv (jL x) λa=>if eW a 0=true then some (gw.ret a)else some (gw.next ())) Ty.err l 0 (by
   intro j x d;rw[m8 (h x d)]
   simp only[cl,ew])
  simp only[ew] at key|-;rw[key]
  by_cases c:fO (l.map Ty.err)=0
  ·simp[c]
  ·simp[c]
def xW:∀(n:Nat) (a b:Ty),a.acO<=n->a.acO<=1000000000->∃r,hD n a b=some r/\(r=true↔a=b):=by
 intro n
 induction n with
 |zero=>intro t b h;have:=t.eP;omega
 |succ n q=>
  intro a b h s;cases a with
  |mk k l=>
  cases b with
  |mk k' m=>
   rw[Ty.ef] at h s;have u:=Ty.fK l;rw[hD];simp only[Ty.eF,Ty.eM,eA,eC (l:=l) (by omega),eo,mm,p9,ew,fV]
   by_cases d:k≠k'\/(l.length:Int)≠m.length
   ·rw[ee d];refine⟨false,rfl,?_⟩;simp only[tQ,TY,Ty.mk.injEq,not_and];rintro rfl rfl;simp at d
   ·rw[ea d];simp only[not_or,vE] at d;obtain⟨rfl,hlen⟩:=d
    have c:l.length=m.length:=by omega
    let p:Ty->Ty->Bool:=λx y=>(hD n x y).getD false
    have i:∀x∈l,∀y,hD n x y=some (p x y)/\(p x y=true↔x=y):=by
     intro x f y;have:=eJ Ty.acO f;obtain⟨r,o,g⟩:=q x y (by omega) (by omega)
     have e:p x y=r:=by show(hD n x y).getD false=r;rw[o];rfl
     rw[e];exact⟨o,g⟩
    have key:=xB (F:=λ(j:Int) (x:Ty) (_:Unit)=>cv (eI m j) λy=>cv (hD n x y) λz=>if z=true then some (gw.next ())else some (gw.ret false)) p m l 0 m rfl c (by
     intro k x y f hy;rw[jJ,hy];simp only[cl];rw[(i x f y).1]
     rfl)
    rw[key];have he:=xl p l m λx f y=>(i x f y).2;cases g:vM p l m with
    |false=>exact⟨false,rfl,by rw[g] at he;simpa using he⟩
    |true=>exact⟨true,rfl,by rw[g] at he;simpa using he⟩
def xJ:∀(n:Nat) (a b:Tm),a.wt<=n->a.wt<=1000000000->∃r,ja n a b=some r/\(r=true↔a=b):=by
 intro n
 induction n with
 |zero=>intro t b h;have:=t.jB;omega
 |succ n D=>
  intro a b h E;cases a with
  |mk k i s l=>
  cases b with
  |mk k' f u m=>
   rw[Tm.fM] at h E;have H:=Tm.oz l;rw[ja];simp only[Tm.eF,Tm.eM,Tm.gl,Tm.ft,eA,eC (l:=l) (by omega),eo,ew,fV]
   have no:¬(k=k'/\i=f/\s=u/\l.length=m.length)->∃r,some false=some r/\(r=true↔Tm.mk k i s l=Tm.mk k' f u m):=by
    intro hn;refine⟨false,rfl,?_⟩;simp only[tQ,TY,Tm.mk.injEq,not_and];rintro rfl rfl rfl rfl;exact hn ⟨rfl,rfl,rfl,rfl⟩
   by_cases g:k≠k'
   ·rw[ee g,ee trivial];exact no λh=>g h.1
   ·rw[ea g]
    by_cases hi:i≠f
    ·rw[ee hi,ee trivial];exact no λh=>hi h.2.1
    ·rw[ea hi];obtain⟨r,G,A⟩:=xW FU s u (by rw[fC];omega) (by omega);rw[G];simp only[cl]
     by_cases o:r=true
     ·have hs:=A.1 o;rw[ee o]
      by_cases hlen:(l.length:Int)≠m.length
      ·rw[ee hlen];exact no λh=>hlen (by omega)
      ·rw[ea hlen]
       have c:l.length=m.length:=by omega
       let p:Tm->Tm->Bool:=λx y=>(ja n x y).getD false
       have B:∀x∈l,∀y,ja n x y=some (p x y)/\(p x y=true↔x=y):=by
        intro x d y;have:=eJ Tm.wt d;obtain⟨r,C,q⟩:=D x y (by omega) (by omega)
        have e:p x y=r:=by show(ja n x y).getD false=r;rw[C];rfl
        rw[e];exact⟨C,q⟩
       have key:=xB (F:=λ(j:Int) (x:Tm) (_:Unit)=>cv (eI m j) λy=>cv (ja n x y) λz=>if z=true then some (gw.next ())else some (gw.ret false)) p m l 0 m rfl c (by
        intro k x y d hy;rw[jJ,hy];simp only[cl];rw[(B x d y).1]
        rfl)
       rw[key];have he:=xl p l m λx d y=>(B x d y).2;have v:k=k':=vE.1 g;have hi':i=f:=vE.1 hi;cases q:vM p l m with
       |false=>
        refine⟨false,rfl,?_⟩;rw[q] at he;simp only[tQ,TY,Tm.mk.injEq,not_and];intro _ _ _ w;exact absurd (he.2 w) (by simp)
       |true=>
        refine⟨true,rfl,?_⟩;rw[q] at he;simp only[aaQ,Tm.mk.injEq];exact⟨v,hi',hs,he.1 rfl⟩
     ·rw[ea o,ee trivial];exact no λh=>o (A.2 h.2.2.1)
def A6:∀(n:Nat) (a b:Tm),a.wt<=n->a.wt<=1000000000->∃r,ku n a b=some r/\(r=true↔a=b):=by
 intro n
 induction n with
 |zero=>intro t b h;have:=t.jB;omega
 |succ n D=>
  intro a b h E;cases a with
  |mk k i s l=>
  cases b with
  |mk k' f u m=>
   rw[Tm.fM] at h E;have H:=Tm.oz l;rw[ku];simp only[Tm.eF,Tm.eM,Tm.gl,Tm.ft,eA,eC (l:=l) (by omega),eo,ew,fV]
   have no:¬(k=k'/\i=f/\s=u/\l.length=m.length)->∃r,some false=some r/\(r=true↔Tm.mk k i s l=Tm.mk k' f u m):=by
    intro hn;refine⟨false,rfl,?_⟩;simp only[tQ,TY,Tm.mk.injEq,not_and];rintro rfl rfl rfl rfl;exact hn ⟨rfl,rfl,rfl,rfl⟩
   by_cases g:k≠k'
   ·rw[ee g,ee trivial];exact no λh=>g h.1
   ·rw[ea g]
    by_cases hi:i≠f
    ·rw[ee hi,ee trivial];exact no λh=>hi h.2.1
    ·rw[ea hi];obtain⟨r,G,A⟩:=w_ FU s u (by rw[fC];omega) (by omega);rw[G];simp only[cl]
     by_cases o:r=true
     ·have hs:=A.1 o;rw[ee o]
      by_cases hlen:(l.length:Int)≠m.length
      ·rw[ee hlen];exact no λh=>hlen (by omega)
      ·rw[ea hlen]
       have c:l.length=m.length:=by omega
       let p:Tm->Tm->Bool:=λx y=>(ku n x y).getD false
       have B:∀x∈l,∀y,ku n x y=some (p x y)/\(p x y=true↔x=y):=by
        intro x d y;have:=eJ Tm.wt d;obtain⟨r,C,q⟩:=D x y (by omega) (by omega)
        have e:p x y=r:=by show(ku n x y).getD false=r;rw[C];rfl
        rw[e];exact⟨C,q⟩
       have key:=xB (F:=λ(j:Int) (x:Tm) (_:Unit)=>cv (eI m j) λy=>cv (ku n x y) λz=>if z=true then some (gw.next ())else some (gw.ret false)) p m l 0 m rfl c (by
        intro k x y d hy;rw[jJ,hy];simp only[cl];rw[(B x d y).1]
        rfl)
       rw[key];have he:=xl p l m λx d y=>(B x d y).2;have v:k=k':=vE.1 g;have hi':i=f:=vE.1 hi;cases q:vM p l m with
       |false=>
        refine⟨false,rfl,?_⟩;rw[q] at he;simp only[tQ,TY,Tm.mk.injEq,not_and];intro _ _ _ w;exact absurd (he.2 w) (by simp)
       |true=>
        refine⟨true,rfl,?_⟩;rw[q] at he;simp only[aaQ,Tm.mk.injEq];exact⟨v,hi',hs,he.1 rfl⟩
     ·rw[ea o,ee trivial];exact no λh=>o (A.2 h.2.2.1)
def xb{a b:Tm}(hw:a.wt<=1000000000):∃r,rC a b=some r/\(r=true↔a=b):=by
 obtain⟨r,c,d⟩:=xJ FU a b (by rw[fC];exact hw) hw;exact⟨r,by unfold rC;rw[c];rfl,d⟩
def M0:∀(k:Nat) (m:Int) (t:Tm),(t.norm k m).2.2=0\/(t.norm k m).2.2=4\/(t.norm k m).2.2=5
 |0,m,t=>by
  rw[Tm.norm]
  split
  ·exact .inl rfl
  ·exact .inr (.inr rfl)
 |k+1,m,t=>by
  rw[Tm.norm]
  split
  ·exact .inr (.inl rfl)
  ·exact .inl rfl
  ·exact M0 k _ _
def FZ:∀(k:Nat) (M m:Int) (t a:Tm) (n:Int),0<=M->Sm M t->t.acO<=4096->t.norm k m=(a,n,0)->Sm (M+8192*k) a/\a.acO<=4096
 |0,M,m,t,a,n,d,hs,hn,h=>by
  rw[Tm.norm] at h
  split at h
  ·obtain⟨b,h⟩:=iq h;rw[<-b];exact⟨hs.mono (by omega),hn⟩
  ·cases h
 |k+1,M,m,t,a,n,d,hs,hn,h=>by
  rw[Tm.norm] at h
  split at h
  ·cases h
  ·obtain⟨b,h⟩:=iq h;rw[<-b];exact⟨hs.mono (by omega),hn⟩
  ·rename_i e c;obtain⟨f,g,i⟩:=KD d t hs (by omega) e c;obtain⟨a1,a2⟩:=FZ k (M+8192) (m+1) e a n (by omega) ⟨f,g,by omega⟩ (by omega) h;exact⟨a1.mono (by omega),a2⟩
def Qj(l:List Int):Gx l=some (decide (l.length<=500)):=by
 unfold Gx
 congr 1
 unfold LP eN;exact Rq.2 (by omega)
def zZ{k:Int}(a:k≠1)(c:k≠2)(f b i:Int)(s:Ty)(l:List Tm):(Tm.mk k i s l).up f b=.mk k i s (l.map (Tm.up f b)):=by
 rw[Tm.kl,ea (λh=>a h.1)];unfold gk;rw[ea c,wq]
def Xa(f b i:Int)(s:Ty)(l:List Tm):(Tm.mk 2 i s l).up f b=.mk 2 i s (l.map (Tm.up (f+1) b)):=by
 rw[Tm.kl,ea (λh=>by have:=h.1;omega)];rfl
def wa{k:Int}(b:k≠1)(c:k≠2)(n i:Int)(a:Tm)(s:Ty)(l:List Tm):Tm.jF n (Tm.mk k i s l) a=.mk k i s (l.map λx=>Tm.jF n x a):=by
 rw[Tm.kV,ea b];unfold gk;rw[ea c,wq]
def Uz(n i:Int)(a:Tm)(s:Ty)(l:List Tm):Tm.jF n (Tm.mk 2 i s l) a=.mk 2 i s (l.map λx=>Tm.jF (n+1) x a):=by
 rw[Tm.kV,ea (by decide)];rfl
def FQ{g:List Ty}{t:Ty}{i j:Nat}(h:g[j]?=some t)(hi:i<g.length)(a:g.length-1-i=j):eY g (.mk 1 i .z []) t:=.var i hi (by rw[a];exact h)
def eY.up{g:List Ty}{x:Tm}{t:Ty}(h:eY g x t):∀g1 g2 e:List Ty,g=g1++g2->eY (g1++e++g2) (x.up g2.length e.length) t:=by
 induction h with
 |@var g t i d l=>
  rintro g1 g2 e rfl;rw[Tm.kl,aaf];rw[sK] at d
  by_cases hi:g2.length<=i
  ·rw[ee ⟨rfl,by omega⟩,show(i:Int)+e.length=((i+e.length:Nat):Int) by push_cast;rfl];refine FQ (j:=g1.length+g2.length-1-i) ?_ (by simp<;>omega) (by simp<;>omega);rw[sK,r_ (by omega)] at l;rw[qW,r_ (by omega)];exact l
  ·rw[ea (λh=>by have:=h.2;omega)];refine FQ (j:=g1.length+e.length+(g2.length-1-i)) ?_ (by simp<;>omega) (by simp<;>omega);rw[sK,uo (by omega)] at l;rw[uo (by simp<;>omega)];rw[<-l]
   congr 1
   simp;omega
 |@lam g s b t d _ f=>
  rintro g1 g2 e rfl;have:=f g1 (g2++[s]) e (by rw[qW]);rw[Xa];refine .lam d ?_;rw[sK,<-qW] at this;exact this
 |app _ _ a c=>intro g1 g2 e hg;rw[zZ (by decide) (by decide)];exact .app (a g1 g2 e hg) (c g1 g2 e hg)|zero=>intro g1 g2 e hg;rw[zZ (by decide) (by decide)];exact .zero|succ _ f=>intro g1 g2 e hg;rw[zZ (by decide) (by decide)];exact .succ (f g1 g2 e hg)|tW d _ _ _ a c k=>intro g1 g2 e hg;rw[zZ (by decide) (by decide)];exact .tW d (a g1 g2 e hg) (c g1 g2 e hg) (k g1 g2 e hg)|nil=>intro g1 g2 e hg;rw[zZ (by decide) (by decide)];exact .nil|cons _ _ a c=>intro g1 g2 e hg;rw[zZ (by decide) (by decide)];exact .cons (a g1 g2 e hg) (c g1 g2 e hg)|fold d _ _ _ a c k=>intro g1 g2 e hg;rw[zZ (by decide) (by decide)];exact .fold d (a g1 g2 e hg) (c g1 g2 e hg) (k g1 g2 e hg)|pair d _ _ a c=>intro g1 g2 e hg;rw[zZ (by decide) (by decide)];exact .pair d (a g1 g2 e hg) (c g1 g2 e hg)|fst _ f=>intro g1 g2 e hg;rw[zZ (by decide) (by decide)];exact .fst (f g1 g2 e hg)|snd _ f=>intro g1 g2 e hg;rw[zZ (by decide) (by decide)];exact .snd (f g1 g2 e hg)|unit=>intro g1 g2 e hg;rw[zZ (by decide) (by decide)];exact .unit
theorem eY.jF{g:List Ty}{x:Tm}{t:Ty}(h:eY g x t):∀(g1:List Ty) (s:Ty) (g2:List Ty) (a:Tm),g=g1++[s]++g2->eY g1 a s->eY (g1++g2) (Tm.jF g2.length x a) t:=by
 induction h with
 |@var g t i f k=>
  rintro g1 s g2 a rfl c;rw[Tm.kV,ee rfl];unfold Tm.rG;simp only[sK,l5,wv] at f k
  by_cases he:(i:Int)=g2.length
  ·rw[ee he]
   have n:s=t:=by
    rw[qW,uo (by omega),r_ (by simp<;>omega)] at k;rw[show g1.length+(0+1)+g2.length-1-i-g1.length=0 by omega] at k;exact iD k
   subst n;have:=c.up g1 [] g2 (by simp);simpa using this
  ·rw[ea he]
   by_cases hi:(g2.length:Int)<i
   ·rw[ee hi,show(i:Int)-1=((i-1:Nat):Int) by omega];refine FQ (j:=g1.length+g2.length-i) ?_ (by simp<;>omega) (by simp<;>omega);rw[qW,r_ (by omega)] at k;rw[r_ (by omega),<-k]
    congr 1
    omega
   ·rw[ea hi];refine FQ (j:=g1.length+(g2.length-1-i)) ?_ (by simp<;>omega) (by simp<;>omega);rw[uo (by simp<;>omega)] at k;rw[uo (by omega),<-k]
    congr 1
    simp;omega
 |@lam g s b t f _ l=>
  rintro g1 u g2 a rfl c;have:=l g1 u (g2++[s]) a (by simp only[qW]) c;rw[Uz];refine .lam f ?_;rw[sK,<-qW] at this;exact this
 |app _ _ d e=>intro g1 s g2 a hg c;rw[wa (by decide) (by decide)];exact .app (d g1 s g2 a hg c) (e g1 s g2 a hg c)|zero=>intro g1 s g2 a hg c;rw[wa (by decide) (by decide)];exact .zero|succ _ l=>intro g1 s g2 a hg c;rw[wa (by decide) (by decide)];exact .succ (l g1 s g2 a hg c)|tW f _ _ _ d e m=>intro g1 s g2 a hg c;rw[wa (by decide) (by decide)];exact .tW f (d g1 s g2 a hg c) (e g1 s g2 a hg c) (m g1 s g2 a hg c)|nil=>intro g1 s g2 a hg c;rw[wa (by decide) (by decide)];exact .nil|cons _ _ d e=>intro g1 s g2 a hg c;rw[wa (by decide) (by decide)];exact .cons (d g1 s g2 a hg c) (e g1 s g2 a hg c)|fold f _ _ _ d e m=>intro g1 s g2 a hg c;rw[wa (by decide) (by decide)];exact .fold f (d g1 s g2 a hg c) (e g1 s g2 a hg c) (m g1 s g2 a hg c)|pair f _ _ d e=>intro g1 s g2 a hg c;rw[wa (by decide) (by decide)];exact .pair f (d g1 s g2 a hg c) (e g1 s g2 a hg c)|fst _ l=>intro g1 s g2 a hg c;rw[wa (by decide) (by decide)];exact .fst (l g1 s g2 a hg c)|snd _ l=>intro g1 s g2 a hg c;rw[wa (by decide) (by decide)];exact .snd (l g1 s g2 a hg c)|unit=>intro g1 s g2 a hg c;rw[wa (by decide) (by decide)];exact .unit
def Ty.TH{a b c d:Ty}(h:Ty.fn a b=Ty.fn c d):a=c/\b=d:=by unfold Ty.fn at h;simpa using h
def Ty.R0{a b c d:Ty}(h:Ty.pr a b=Ty.pr c d):a=c/\b=d:=by unfold Ty.pr at h;simpa using h
theorem eY.gb{g:List Ty}{x:Tm}{t:Ty}(h:eY g x t)(l:x.root=true):eY g x.gb t:=by
 cases h with
 |@app _ f a s _ c j=>
  have d:f.acM=2:=by simpa[Tm.root,Tm.kd] using l
  generalize o:Ty.fn s t=q at c
  cases c<;>simp only[Tm.eM] at d<;>first|omega|skip
  rename_i w b p e i;obtain⟨rfl,rfl⟩:=Ty.TH o;have:=i.jF g s [] a (by simp) j;simpa[Tm.gb] using this
 |@tW _ _ b s n c j e i=>
  have d:n.acM=4\/n.acM=5:=by simpa[Tm.root,Tm.kd] using l
  cases i<;>simp only[Tm.eM] at d<;>first|omega|skip
  ·simpa[Tm.gb] using j
  ·rename_i m k;have:=eY.app (.app e k) (eY.tW c j e k);simpa[Tm.gb,l6,Ty.z] using this
 |@fold _ _ b s n c j e i=>
  have d:n.acM=7\/n.acM=8:=by simpa[Tm.root,Tm.kd] using l
  cases i<;>simp only[Tm.eM] at d<;>first|omega|skip
  ·simpa[Tm.gb] using j
  ·rename_i u v k r;have:=eY.app (.app (.app e k) r) (eY.fold c j e r);simpa[Tm.gb,l6,Ty.z] using this
 |@fst _ a s p c=>
  have d:a.acM=10:=by simpa[Tm.root,Tm.kd] using l
  generalize o:Ty.pr t p=q at c
  cases c<;>simp only[Tm.eM] at d<;>first|omega|skip
  rename_i e i k;obtain⟨rfl,rfl⟩:=Ty.R0 o;simpa[Tm.gb] using i
 |@snd _ a s p c=>
  have d:a.acM=10:=by simpa[Tm.root,Tm.kd] using l
  generalize o:Ty.pr s t=q at c
  cases c<;>simp only[Tm.eM] at d<;>first|omega|skip
  rename_i e i k;obtain⟨rfl,rfl⟩:=Ty.R0 o;simpa[Tm.gb] using k
 |_=>simp[Tm.root] at l
def mc{r k i:Int}{s:Ty}{l:List Tm}{b:Tm}(h:(Tm.mk k i s l).FO r=some (some b)):((Tm.mk k i s l).root=true/\b=(Tm.mk k i s l).gb)\/∃a,Tm.rB r l=some (some a)/\b=.mk k i s a:=by
 rw[Tm.xg] at h
 by_cases c:(Tm.mk k i s l).root=true
 ·rw[ee c] at h
  split at h
  · cases h
  · exact .inl ⟨c,(iD (iD h)).symm⟩
 ·rw[ea c] at h;cases e:Tm.rB r l with
  |none=>rw[e] at h;cases h
  |some o=>
    cases o with
    |none=>rw[e] at h;cases h
    |some a=>rw[e] at h;exact .inr ⟨a,rfl,(iD (iD h)).symm⟩
def kD{r:Int}{a:Tm}{l c:List Tm}(h:Tm.rB r (a::l)=some (some c)):(∃b,a.FO r=some (some b)/\c=b::l)\/∃m,Tm.rB r l=some (some m)/\c=a::m:=by
 rw[Tm.rB] at h;cases e:a.FO r with
 |none=>rw[e] at h;cases h
 |some o=>
  cases o with
  |some b=>rw[e] at h;exact .inl ⟨b,rfl,(iD (iD h)).symm⟩
  |none=>
   rw[e] at h;dsimp only at h;cases d:Tm.rB r l with
   |none=>rw[d] at h;cases h
   |some o2=>
    cases o2 with
    |none=>rw[d] at h;cases h
    |some m=>rw[d] at h;exact .inr ⟨m,rfl,(iD (iD h)).symm⟩
def nK{r:Int}{a:List Tm}(h:Tm.rB r []=some (some a)):False:=by rw[Tm.rB] at h;cases h
def eY.FO{r:Int}{g:List Ty}{x:Tm}{t:Ty}(h:eY g x t):∀n,x.FO r=some (some n)->eY g n t:=by
 induction h with
 |var i c f=>
  intro n hs;rcases mc hs with⟨d,rfl⟩|⟨q,e,rfl⟩
  ·exact(eY.var i c f).gb d
  ·exact(nK e).elim
 |lam c f s=>
  intro n hs;rcases mc hs with⟨d,rfl⟩|⟨q,e,rfl⟩
  ·exact(eY.lam c f).gb d
  ·rcases kD e with⟨o,a,b⟩|⟨m,a,b⟩
   ·subst_vars;exact .lam c (s _ a)
   ·exact(nK a).elim
 |app c f j k=>
  intro n hs;rcases mc hs with⟨d,rfl⟩|⟨q,e,rfl⟩
  ·exact(eY.app c f).gb d
  ·rcases kD e with⟨o,a,b⟩|⟨m,a,b⟩
   ·subst_vars;exact .app (j _ a) f
   ·rcases kD a with⟨o,l,b⟩|⟨m,l,b⟩
    ·subst_vars;exact .app c (k _ l)
    ·exact(nK l).elim
 |zero=>
  intro n hs;rcases mc hs with⟨d,rfl⟩|⟨q,e,rfl⟩
  ·exact eY.zero.gb d
  ·exact(nK e).elim
 |succ c s=>
  intro n hs;rcases mc hs with⟨d,rfl⟩|⟨q,e,rfl⟩
  ·exact(eY.succ c).gb d
  ·rcases kD e with⟨o,a,b⟩|⟨m,a,b⟩
   ·subst_vars;exact .succ (s _ a)
   ·exact(nK a).elim
 |tW p c f u j k v=>
  intro n hs;rcases mc hs with⟨d,rfl⟩|⟨q,e,rfl⟩
  ·exact(eY.tW p c f u).gb d
  ·rcases kD e with⟨o,a,b⟩|⟨m,a,b⟩
   ·subst_vars;exact .tW p (j _ a) f u
   ·rcases kD a with⟨o,l,b⟩|⟨m,l,b⟩
    ·subst_vars;exact .tW p c (k _ l) u
    ·rcases kD l with⟨o,w,b⟩|⟨m,w,b⟩
     ·subst_vars;exact .tW p c f (v _ w)
     ·exact(nK w).elim
 |nil=>
  intro n hs;rcases mc hs with⟨d,rfl⟩|⟨q,e,rfl⟩
  ·exact eY.nil.gb d
  ·exact(nK e).elim
 |cons c f j k=>
  intro n hs;rcases mc hs with⟨d,rfl⟩|⟨q,e,rfl⟩
  ·exact(eY.cons c f).gb d
  ·rcases kD e with⟨o,a,b⟩|⟨m,a,b⟩
   ·subst_vars;exact .cons (j _ a) f
   ·rcases kD a with⟨o,l,b⟩|⟨m,l,b⟩
    ·subst_vars;exact .cons c (k _ l)
    ·exact(nK l).elim
 |fold p c f u j k v=>
  intro n hs;rcases mc hs with⟨d,rfl⟩|⟨q,e,rfl⟩
  ·exact(eY.fold p c f u).gb d
  ·rcases kD e with⟨o,a,b⟩|⟨m,a,b⟩
   ·subst_vars;exact .fold p (j _ a) f u
   ·rcases kD a with⟨o,l,b⟩|⟨m,l,b⟩
    ·subst_vars;exact .fold p c (k _ l) u
    ·rcases kD l with⟨o,w,b⟩|⟨m,w,b⟩
     ·subst_vars;exact .fold p c f (v _ w)
     ·exact(nK w).elim
 |pair p c f j k=>
  intro n hs;rcases mc hs with⟨d,rfl⟩|⟨q,e,rfl⟩
  ·exact(eY.pair p c f).gb d
  ·rcases kD e with⟨o,a,b⟩|⟨m,a,b⟩
   ·subst_vars;exact .pair p (j _ a) f
   ·rcases kD a with⟨o,l,b⟩|⟨m,l,b⟩
    ·subst_vars;exact .pair p c (k _ l)
    ·exact(nK l).elim
 |fst c s=>
  intro n hs;rcases mc hs with⟨d,rfl⟩|⟨q,e,rfl⟩
  ·exact(eY.fst c).gb d
  ·rcases kD e with⟨o,a,b⟩|⟨m,a,b⟩
   ·subst_vars;exact .fst (s _ a)
   ·exact(nK a).elim
 |snd c s=>
  intro n hs;rcases mc hs with⟨d,rfl⟩|⟨q,e,rfl⟩
  ·exact(eY.snd c).gb d
  ·rcases kD e with⟨o,a,b⟩|⟨m,a,b⟩
   ·subst_vars;exact .snd (s _ a)
   ·exact(nK a).elim
 |unit=>
  intro n hs;rcases mc hs with⟨d,rfl⟩|⟨q,e,rfl⟩
  ·exact eY.unit.gb d
  ·exact(nK e).elim
theorem eY.norm{g:List Ty}{t:Ty}:∀(k:Nat) (m:Int) (x a:Tm) (n:Int),eY g x t->x.norm k m=(a,n,0)->eY g a t
 |0,m,x,a,n,b,h=>by
  rw[Tm.norm] at h
  split at h
  ·obtain⟨c,_⟩:=iq h;rw[<-c];exact b
  ·cases h
 |k+1,m,x,a,n,b,h=>by
  rw[Tm.norm] at h
  split at h
  ·cases h
  ·obtain⟨c,_⟩:=iq h;rw[<-c];exact b
  ·rename_i d hs;exact eY.norm k (m+1) d a n (b.FO _ hs) h
def PS(k:Int):iN k<=3:=by unfold iN;repeat' (first|omega|split)
def Tm.ZU{k i:Int}{s:Ty}{l:List Tm}(h:(Tm.mk k i s l).ok=true):l.length<=3:=by
 have:=Tm.w8 h;have:=PS k;omega
def WG(x:Tm):Tm.mk x.acM x.acP (Ty.mk x.dv.acM x.dv.acN) x.acN=x:=by
 cases x with
 |mk k i s l=>cases s;rfl
def mO{a:Ty}(h:a.acO<=1000000000):fR FU a a=some true:=by
 obtain⟨r,b,c⟩:=w_ FU a a (by rw[fC];exact h) h;rw[b,c.2 rfl]
def ok_eq{t:Ty}(h:t.err=0):tP t=some (t,0):=by
 unfold tP;rw[m8 (by have:=(Ty.ng h).2;omega),h];rfl
def fB{t:Ty}(h:t.err=0):t.acO<=64:=by have:=(Ty.ng h).2;omega
inductive TL (n:Nat) (g:List Ty):List Tm->List Ty->Prop
 |nil:TL n g [] []|cons {a:Tm} {t:Ty} {l:List Tm} {ts:List Ty}:fU n g a=some (t,0)->TL n g l ts->TL n g (a::l) (t::ts)
def o8{n:Nat}{g:List Ty}:∀{l:List Tm} {ts:List Ty} (i:Nat) (v:List Ty),TL n g l ts->v.length+l.length<=1000->fo (λ(e:Int) (d:Tm)=>(λ(a:List Ty)=>
   ej (fU n g d) λb c=>
   if(eW c 0)=true then(
   some (gw.ret ((Ty.mk 0 []),c)))
   else(hO (gy a [b])<|some (.next (gU a [b])))):Int->Tm->((List Ty))->(Option (gw ((List Ty)) (Ty×Int)))) l i v=some (.inl (v++ts))
 |_,_,i,v,.nil,_=>by simp|_,_,i,v,.cons h f,j=>by
  simp only[l5] at j;rw[fl];simp only[h,eb];rw[ea (by decide),fA (by simp;omega)];simp only[eo,cl,fv];rw[o8 (i+1) _ f (by rw[g_];simp;omega),g_];simp
def Tn{g:List Ty}{x:Tm}{t:Ty}(h:eY g x t):(∀s∈g,s.err=0)->t.err=0/\∀n:Nat,x.acO<=n->g.length+x.acO<=1000000->fU n g x=some (t,0):=by
 induction h with
 |@var g t i w A=>
  intro hg;have y:=hg t (CH A);refine⟨y,λn hn e=>?_⟩;rw[Tm.ef] at hn;obtain⟨n,rfl⟩:∃m,n=m+1:=⟨n-1,by omega⟩;rw[Tm.ef] at e;rw[fU,ee (by rfl),ea (by simp only[Tm.gl,iX,fV];omega)];simp only[Tm.gl,fV];rw[fF (a:=(g.length:Int)) (by omega) (by omega),fF (by omega) (by omega)]
  have:eI g ((g.length:Int)-1-(i:Int))=some t:=by
   unfold eI;rw[ee (by omega),<-A]
   congr 1
   omega
  rw[this];simp only[cl];rw[jd (by have:=fB y;omega)];rfl
 |@lam g s b t w _ j=>
  intro hg;have hs:=(Ty.s_ (.inr rfl) w).1;have z:=(Ty.s_ (.inr rfl) w).2
  obtain⟨_,j⟩:=j (by
   intro u hu;rcases tj.1 hu with h|h
   ·exact hg u h
   ·rw[we] at h;rw[h];exact hs)
  refine⟨w,λn hn e=>?_⟩;rw[Tm.ef] at hn e;simp only[ez] at hn e;obtain⟨n,rfl⟩:∃m,n=m+1:=⟨n-1,by omega⟩;rw[fU,ea (by simp),ee (by rfl)];simp only[Tm.ft,Tm.eF,eU,jA,cl,g_];rw[fA (by simp;omega),eo,j n (by omega) (by simp;omega)];simp only[eb];rw[ea (by decide),jt (by have:=fB hs;omega) (by have:=fB z;omega)];simp only[cl];rw[ok_eq w];rfl
 |@app g f a s t _ _ c d=>
  intro hg;obtain⟨q,c⟩:=c hg;obtain⟨r,d⟩:=d hg;have z:=(Ty.s_ (.inr rfl) q).2;refine⟨z,λn hn e=>?_⟩;rw[Tm.ef] at hn e;simp only[ez] at hn e;obtain⟨n,rfl⟩:∃m,n=m+1:=⟨n-1,by omega⟩;have o:=o8 (n:=n) (g:=g) (l:=[f,a]) 0 [] (.cons (c n (by omega) (by omega)) (.cons (d n (by omega) (by omega)) .nil)) (by simp);rw[fU,ea (by simp),ea (by simp)];simp only[eA,Tm.eF,eC (l:=[f,a]) (by simp),eo];rw[o];simp only[cl,en,fE,gT];rw[ee (by rfl)];simp only[pk,eU,gu,jA,mT,cl];rw[ea (by simp[Ty.fn,eW]),show(Ty.fn s t).acN[0]?=some s from rfl];simp only[cl];rw[mO (by have:=fB r;omega)];simp only[cl];rw[ea (by decide),show(Ty.fn s t).acN[1]?=some t from rfl];rfl
 |zero=>
  intro hg;refine⟨Ty.gK,λn hn e=>?_⟩;rw[Tm.ef] at hn;obtain⟨n,rfl⟩:∃m,n=m+1:=⟨n-1,by omega⟩;rfl
 |@succ g a _ j=>
  intro hg;obtain⟨q,j⟩:=j hg;refine⟨Ty.gK,λn hn e=>?_⟩;rw[Tm.ef] at hn e;simp only[ez] at hn e;obtain⟨n,rfl⟩:∃m,n=m+1:=⟨n-1,by omega⟩;have o:=o8 (n:=n) (g:=g) (l:=[a]) 0 [] (.cons (j n (by omega) (by omega)) .nil) (by simp);rw[fU,ea (by simp),ea (by simp)];simp only[eA,Tm.eF,eC (l:=[a]) (by simp),eo];rw[o];simp only[cl,en,fE,gT];rw[ea (by simp),ea (by simp),ee (by rfl)];simp only[pk,eU,jA,cl];rw[mO (by rw[Ty.ir];omega)];rfl
 |@tW g t b s k v _ _ _ c d p=>
  intro hg;obtain⟨q,c⟩:=c hg;obtain⟨r,d⟩:=d hg;obtain⟨B,p⟩:=p hg;refine⟨v,λn hn e=>?_⟩;rw[Tm.ef] at hn e;simp only[ez] at hn e;obtain⟨n,rfl⟩:∃m,n=m+1:=⟨n-1,by omega⟩;have z:=fB v;have o:=o8 (n:=n) (g:=g) (l:=[b,s,k]) 0 [] (.cons (c n (by omega) (by omega)) (.cons (d n (by omega) (by omega)) (.cons (p n (by omega) (by omega)) .nil))) (by simp);rw[fU,ea (by simp),ea (by simp)];simp only[eA,Tm.eF,eC (l:=[b,s,k]) (by simp),eo];rw[o];simp only[cl,en,fE,gT];rw[ea (by simp),ea (by simp),ea (by simp),ee (by rfl)];simp only[pk,eU,gu,jH,jA,mT,cl,Tm.ft];rw[mO (by omega)];simp only[cl,if_true];rw[jt (by omega) (by omega)];simp only[cl];rw[jt (by rw[Ty.ir];omega) (by rw[Ty.ke];omega)];simp only[cl];rw[mO (by have:=fB r;omega)];simp only[cl,if_true];rw[mO (by rw[Ty.ir];omega)];simp only[cl];rw[ea (by decide),jd (by omega)];rfl
 |nil=>
  intro hg;refine⟨Ty.oX,λn hn e=>?_⟩;rw[Tm.ef] at hn;obtain⟨n,rfl⟩:∃m,n=m+1:=⟨n-1,by omega⟩;rfl
 |@cons g a b _ _ c d=>
  intro hg;obtain⟨q,c⟩:=c hg;obtain⟨r,d⟩:=d hg;refine⟨Ty.oX,λn hn e=>?_⟩;rw[Tm.ef] at hn e;simp only[ez] at hn e;obtain⟨n,rfl⟩:∃m,n=m+1:=⟨n-1,by omega⟩;have o:=o8 (n:=n) (g:=g) (l:=[a,b]) 0 [] (.cons (c n (by omega) (by omega)) (.cons (d n (by omega) (by omega)) .nil)) (by simp);rw[fU,ea (by simp),ea (by simp)];simp only[eA,Tm.eF,eC (l:=[a,b]) (by simp),eo];rw[o];simp only[cl,en,fE,gT];rw[ea (by simp),ea (by simp),ea (by simp),ea (by simp),ea (by simp),ee (by rfl)];simp only[pk,eU,gu,jA,mT,cl];rw[mO (by rw[Ty.ir];omega)];simp only[cl,if_true];rw[mO (by rw[Ty.pE];omega)];rfl
 |@fold g t b s k v _ _ _ c d p=>
  intro hg;obtain⟨q,c⟩:=c hg;obtain⟨r,d⟩:=d hg;obtain⟨B,p⟩:=p hg;refine⟨v,λn hn e=>?_⟩;rw[Tm.ef] at hn e;simp only[ez] at hn e;obtain⟨n,rfl⟩:∃m,n=m+1:=⟨n-1,by omega⟩;have z:=fB v;have o:=o8 (n:=n) (g:=g) (l:=[b,s,k]) 0 [] (.cons (c n (by omega) (by omega)) (.cons (d n (by omega) (by omega)) (.cons (p n (by omega) (by omega)) .nil))) (by simp);rw[fU,ea (by simp),ea (by simp)];simp only[eA,Tm.eF,eC (l:=[b,s,k]) (by simp),eo];rw[o];simp only[cl,en,fE,gT];rw[ea (by simp),ea (by simp),ea (by simp),ea (by simp),ea (by simp),ea (by simp),ee (by rfl)];simp only[pk,eU,gu,jH,jA,mT,cl,Tm.ft];rw[mO (by omega)];simp only[cl,if_true];rw[jt (by omega) (by omega)];simp only[cl];rw[jt (by rw[Ty.pE];omega) (by rw[Ty.ke];omega)];simp only[cl];rw[jt (by rw[Ty.ir];omega) (by rw[Ty.ke,Ty.ke,Ty.pE];omega)];simp only[cl];rw[mO (by have:=fB r;omega)];simp only[cl,if_true];rw[mO (by rw[Ty.pE];omega)];simp only[cl];rw[ea (by decide),jd (by omega)];rfl
 |@pair g a b s t v _ _ c d=>
  intro hg;obtain⟨q,c⟩:=c hg;obtain⟨r,d⟩:=d hg;refine⟨v,λn hn e=>?_⟩;rw[Tm.ef] at hn e;simp only[ez] at hn e;obtain⟨n,rfl⟩:∃m,n=m+1:=⟨n-1,by omega⟩;have o:=o8 (n:=n) (g:=g) (l:=[a,b]) 0 [] (.cons (c n (by omega) (by omega)) (.cons (d n (by omega) (by omega)) .nil)) (by simp);rw[fU,ea (by simp),ea (by simp)];simp only[eA,Tm.eF,eC (l:=[a,b]) (by simp),eo];rw[o];simp only[cl,en,fE,gT];rw[ea (by simp),ea (by simp),ea (by simp),ea (by simp),ea (by simp),ea (by simp),ea (by simp),ee (by rfl)];simp only[pk,eU,gu,jA,mT,cl];rw[yc (by have:=fB q;omega) (by have:=fB r;omega)];simp only[cl];rw[ok_eq v];rfl
 |@fst g a s t _ j=>
  intro hg;obtain⟨q,j⟩:=j hg;refine⟨(Ty.s_ (.inl rfl) q).1,λn hn e=>?_⟩;rw[Tm.ef] at hn e;simp only[ez] at hn e;obtain⟨n,rfl⟩:∃m,n=m+1:=⟨n-1,by omega⟩;have o:=o8 (n:=n) (g:=g) (l:=[a]) 0 [] (.cons (j n (by omega) (by omega)) .nil) (by simp);rw[fU,ea (by simp),ea (by simp)];simp only[eA,Tm.eF,eC (l:=[a]) (by simp),eo];rw[o];simp only[cl,en,fE,gT];rw[ea (by simp),ea (by simp),ea (by simp),ea (by simp),ea (by simp),ea (by simp),ea (by simp),ea (by simp),ee (by rfl)];simp only[pk,eU,jA,cl];rw[ea (by simp[Ty.pr,eW]),ee (by rfl),show(Ty.pr s t).acN[0]?=some s from rfl];rfl
 |@snd g a s t _ j=>
  intro hg;obtain⟨q,j⟩:=j hg;refine⟨(Ty.s_ (.inl rfl) q).2,λn hn e=>?_⟩;rw[Tm.ef] at hn e;simp only[ez] at hn e;obtain⟨n,rfl⟩:∃m,n=m+1:=⟨n-1,by omega⟩;have o:=o8 (n:=n) (g:=g) (l:=[a]) 0 [] (.cons (j n (by omega) (by omega)) .nil) (by simp);rw[fU,ea (by simp),ea (by simp)];simp only[eA,Tm.eF,eC (l:=[a]) (by simp),eo];rw[o];simp only[cl,en,fE,gT];rw[ea (by simp),ea (by simp),ea (by simp),ea (by simp),ea (by simp),ea (by simp),ea (by simp),ea (by simp),ee (by rfl)];simp only[pk,eU,jA,cl];rw[ea (by simp[Ty.pr,eW]),ea (by simp),show eI (Ty.pr s t).acN 1=some t from rfl];rfl
 |unit=>
  intro hg;refine⟨Ty.Hi,λn hn e=>?_⟩;rw[Tm.ef] at hn;obtain⟨n,rfl⟩:∃m,n=m+1:=⟨n-1,by omega⟩;rfl
def Tm.pA{p:Tm->Prop}(var:∀i:Nat,p (.mk 1 i .z []))(lam:∀s b,s.err=0->b.ok=true->p (.mk 2 0 s [b]))(app:∀a b,a.ok=true->b.ok=true->p (.mk 3 0 .z [a,b]))
  (zero:p (.mk 4 0 .z [])) (succ:∀a,a.ok=true->p (.mk 5 0 .z [a])) (tW:∀s a b c,s.err=0->a.ok=true->b.ok=true->c.ok=true->p (.mk 6 0 s [a,b,c])) (nil:p (.mk 7 0 .z []))
  (cons:∀a b,a.ok=true->b.ok=true->p (.mk 8 0 .z [a,b])) (fold:∀s a b c,s.err=0->a.ok=true->b.ok=true->c.ok=true->p (.mk 9 0 s [a,b,c])) (pair:∀a b,a.ok=true->b.ok=true->p (.mk 10 0 .z [a,b]))
  (fst:∀a,a.ok=true->p (.mk 11 0 .z [a])) (snd:∀a,a.ok=true->p (.mk 12 0 .z [a])) (unit:p (.mk 13 0 .z [])) (t:Tm) (h:t.ok=true):p t:=by
 cases t with
 |mk k i s l=>
  obtain⟨_,hi,d,g,hn⟩:=Tm.lB h
  have hs:if kJ k=true then s.err=0 else s=.z:=by
   rw[Tm.ia] at h;simp only[Tm.node,gO] at h;have:=h.1.2
   split at this
   ·rename_i e;rw[ee e];simpa using this
   ·rename_i e;rw[ea e];exact(Ty.mR s).1 this
  have n:∀{l:List Tm},(l.length:Int)=0->l=[]:=λh=>hJ.1 h;unfold iN at hn
  split at hn
  ·rename_i e;obtain rfl:=hJ.1 hn;rcases e with rfl|rfl|rfl|rfl
   ·rw[ea (by decide)] at hs;subst hs;obtain⟨j,rfl⟩:∃j:Nat,i=(j:Int):=⟨i.toNat,by omega⟩;exact var j
   ·rw[ea (by decide)] at hs;subst hs;obtain rfl:=d (by decide);exact zero
   ·rw[ea (by decide)] at hs;subst hs;obtain rfl:=d (by decide);exact nil
   ·rw[ea (by decide)] at hs;subst hs;obtain rfl:=d (by decide);exact unit
  ·split at hn
   ·rename_i e;obtain⟨a,rfl⟩:=jX hn;have f:=g a (by simp);rcases e with rfl|rfl|rfl|rfl
    ·rw[ee (by decide)] at hs;obtain rfl:=d (by decide);exact lam s a hs f
    ·rw[ea (by decide)] at hs;subst hs;obtain rfl:=d (by decide);exact succ a f
    ·rw[ea (by decide)] at hs;subst hs;obtain rfl:=d (by decide);exact fst a f
    ·rw[ea (by decide)] at hs;subst hs;obtain rfl:=d (by decide);exact snd a f
   ·split at hn
    ·rename_i e;obtain⟨a,b,rfl⟩:=qF hn;have f:=g a (by simp);have m:=g b (by simp);rcases e with rfl|rfl|rfl
     ·rw[ea (by decide)] at hs;subst hs;obtain rfl:=d (by decide);exact app a b f m
     ·rw[ea (by decide)] at hs;subst hs;obtain rfl:=d (by decide);exact cons a b f m
     ·rw[ea (by decide)] at hs;subst hs;obtain rfl:=d (by decide);exact pair a b f m
    ·split at hn
     ·rename_i e
      obtain⟨a,b,c,rfl⟩:∃a b c,l=[a,b,c]:=by
       match l,hn with
       |[a,b,c],_=>exact⟨a,b,c,rfl⟩|[],h|[_],h|[_,_],h=>simp at h
       |_::_::_::_::_,h=>simp at h;omega
      have f:=g a (by simp);have m:=g b (by simp);have o:=g c (by simp);rcases e with rfl|rfl
      ·rw[ee (by decide)] at hs;obtain rfl:=d (by decide);exact tW s a b c hs f m o
      ·rw[ee (by decide)] at hs;obtain rfl:=d (by decide);exact fold s a b c hs f m o
     ·omega
open Classical in
noncomputable def ij (k:Int) (s:Ty) (l:List Ty):Ty×Int:=
 if k=3 then(if(l.getD 0 .z).acM=4/\(l.getD 0 .z).acN.getD 0 .z=l.getD 1 .z then((l.getD 0 .z).acN.getD 1 .z,0)else(.z,7))
 else if k=4 then(.nat,0)
 else if k=5 then(if l.getD 0 .z=.nat then(.nat,0)else(.z,7))
 else if k=6 then(if l.getD 0 .z=s/\l.getD 1 .z=.fn .nat (.fn s s)/\l.getD 2 .z=.nat then(s,0)else(.z,7))
 else if k=7 then(.ns,0)
 else if k=8 then(if l.getD 0 .z=.nat/\l.getD 1 .z=.ns then(.ns,0)else(.z,7))
 else if k=9 then(if l.getD 0 .z=s/\l.getD 1 .z=.fn .nat (.fn .ns (.fn s s))/\l.getD 2 .z=.ns then(s,0)else(.z,7))
 else if k=10 then(if 64<1+(l.getD 0 .z).acO+(l.getD 1 .z).acO then(.z,4)else(.pr (l.getD 0 .z) (l.getD 1 .z),0))
 else if k=11 then(if(l.getD 0 .z).acM=3 then((l.getD 0 .z).acN.getD 0 .z,0)else(.z,7))
 else if k=12 then(if(l.getD 0 .z).acM=3 then((l.getD 0 .z).acN.getD 1 .z,0)else(.z,7))
 else(.unit,0)
def MK(s:Ty)(r:Ty×Int):Ty×Int:=if r.2≠0 then(.z,r.2)else if 64<1+s.acO+r.1.acO then(.z,4)else(.fn s r.1,0)
def vn(f:List Ty->Ty×Int):List Ty⊕Int->Ty×Int
 |.inl l=>f l|.inr e=>(.z,e)
def Oh(r:Ty×Int)(o:List Ty⊕Int):List Ty⊕Int:=if r.2≠0 then .inr r.2 else match o with|.inl l=>.inl (r.1::l)|.inr e=>.inr e
mutual
noncomputable def Tm.ty:Tm->List Ty->Ty×Int
 |.mk k i s l,g=>if k=1 then(if i<(g.length:Int)then(g.getD (g.length-1-i.toNat) .z,0)else(.z,6))else if k=2 then MK s (Tm.ZF l (g++[s]))else vn (ij k s) (Tm.uL l g)
noncomputable def Tm.ZF:List Tm->List Ty->Ty×Int
 |[],_=>(.z,0)|t::_,g=>t.ty g
noncomputable def Tm.uL:List Tm->List Ty->List Ty⊕Int
 |[],_=>.inl []|t::l,g=>Oh (t.ty g) (Tm.uL l g)
end
def Tm.nX(k i:Int)(s:Ty)(l:List Tm)(g:List Ty):(Tm.mk k i s l).ty g=if k=1 then(if i<(g.length:Int)then(g.getD (g.length-1-i.toNat) .z,0)else(.z,6))else if k=2 then MK s (Tm.ZF l (g++[s]))else vn (ij k s) (Tm.uL l g):=by rw[Tm.ty]
def iV(g:List Ty):Prop:=∀s∈g,s.err=0
def iV.app{g:List Ty}{s:Ty}(h:iV g)(hs:s.err=0):iV (g++[s]):=by
 intro u hu;rcases tj.1 hu with h'|h'
 ·exact h u h'
 ·grind
def Lu{t:Ty}(h:t.err=0)(c:t.acM=4):∃a b,t=.fn a b/\a.err=0/\b.err=0:=by
 rcases Ty.rF h with rfl|rfl|rfl|⟨a,b,rfl,_,_⟩|h
 ·cases c
 ·cases c
 ·cases c
 ·cases c
 ·exact h
def Av{t:Ty}(h:t.err=0)(c:t.acM=3):∃a b,t=.pr a b/\a.err=0/\b.err=0:=by
 rcases Ty.rF h with rfl|rfl|rfl|h|⟨a,b,rfl,_,_⟩
 ·cases c
 ·cases c
 ·cases c
 ·exact h
 ·cases c
def vt{t:Ty}(h:t.err=0):t.acM=1↔t=.nat:=by
 rcases Ty.rF h with rfl|rfl|rfl|⟨a,b,rfl,_,_⟩|⟨a,b,rfl,_,_⟩
 ·exact⟨λ_=>rfl,λ_=>rfl⟩
 all_goals exact⟨λh=>(by cases h),λh=>(by cases h)⟩
def CD{t:Ty}(h:t.err=0):t.acM=2↔t=.ns:=by
 rcases Ty.rF h with rfl|rfl|rfl|⟨a,b,rfl,_,_⟩|⟨a,b,rfl,_,_⟩
 ·exact⟨λh=>(by cases h),λh=>(by cases h)⟩
 ·exact⟨λ_=>rfl,λ_=>rfl⟩
 all_goals exact⟨λh=>(by cases h),λh=>(by cases h)⟩
theorem qA{r:Ty×Int}{o:List Ty⊕Int}(h:r.2≠0):Oh r o=.inr r.2:=ee h
theorem qD{r:Ty×Int}{o:List Ty⊕Int}(h:r.2=0):Oh r o=match o with|.inl l=>.inl (r.1::l)|.inr e=>.inr e:=ea (by omega)
theorem s9{f:List Ty->Ty×Int}{e:Int}{r:Ty}(h:vn f (.inr e)=(r,0)):e=0:=(iq h).2
def xZ{a:Tm}{g:List Ty}(h:(a.ty g).2=0):a.ty g=((a.ty g).1,0):=Prod.ext rfl h
def NU{a:Tm}{g:List Ty}{f:List Ty->Ty×Int}{r:Ty}(h:vn f (Tm.uL [a] g)=(r,0)):∃s,a.ty g=(s,0)/\f [s]=(r,0):=by
 rw[Tm.uL] at h
 by_cases b:(a.ty g).2=0
 ·rw[qD b] at h;exact⟨_,xZ b,h⟩
 ·grind[qA,s9]
def Oq{a b:Tm}{g:List Ty}{f:List Ty->Ty×Int}{r:Ty}(h:vn f (Tm.uL [a,b] g)=(r,0)):∃s t,a.ty g=(s,0)/\b.ty g=(t,0)/\f [s,t]=(r,0):=by
 rw[Tm.uL,Tm.uL,Tm.uL] at h
 by_cases c:(a.ty g).2=0
 ·rw[qD c] at h
  by_cases d:(b.ty g).2=0
  ·rw[qD d] at h;exact⟨_,_,xZ c,xZ d,h⟩
  ·grind[qA,s9]
 ·grind[qA,s9]
def Mh{a b c:Tm}{g:List Ty}{f:List Ty->Ty×Int}{r:Ty}(h:vn f (Tm.uL [a,b,c] g)=(r,0)):∃s t u,a.ty g=(s,0)/\b.ty g=(t,0)/\c.ty g=(u,0)/\f [s,t,u]=(r,0):=by
 rw[Tm.uL,Tm.uL,Tm.uL,Tm.uL] at h
 by_cases d:(a.ty g).2=0
 ·rw[qD d] at h
  by_cases e:(b.ty g).2=0
  ·rw[qD e] at h
   by_cases i:(c.ty g).2=0
   ·rw[qD i] at h;exact⟨_,_,_,xZ d,xZ e,xZ i,h⟩
   ·grind[qA,s9]
  ·rw[qA e] at h;exact absurd (s9 h) e
 ·rw[qA d] at h;exact absurd (s9 h) d
def re:∀(n:Nat) (t:Tm),t.acO<=n->t.ok=true->∀g,iV g->∀s,t.ty g=(s,0)->eY g t s/\s.err=0:=by
 intro n
 induction n with
 |zero=>intro t h;have:=t.eP;omega
 |succ n k=>
  intro t hn E;refine Tm.pA (p:=λt=>t.acO<=n+1->∀g,iV g->∀s,t.ty g=(s,0)->eY g t s/\s.err=0) ?_ ?_ ?_ ?_ ?_ ?_ ?_ ?_ ?_ ?_ ?_ ?_ ?_ t E hn
  ·intro i _ g hg s h;rw[Tm.nX,ee rfl] at h
   split at h
   ·rename_i hi
    have u:g.length-1-(i:Int).toNat<g.length:=by omega
    have e:g[g.length-1-i]?=some s:=by
     have f:=(iq h).1;rw[Vs,AX] at f;rw[AX] at u;rw[oG u] at f|-;simpa using f
    exact⟨.var i (by omega) e,hg s (CH e)⟩
   ·have:=(iq h).2;omega
  ·intro s b hs m hn g hg r h;rw[Tm.ef] at hn;simp only[ez] at hn;rw[Tm.nX,ea (by decide),ee rfl,Tm.ZF] at h;unfold MK at h
   split at h
   ·rename_i w;exact absurd (iq h).2 w
   ·rename_i w
    split at h
    ·have:=(iq h).2;omega
    ·rename_i f;obtain⟨o,d⟩:=k b (by omega) m (g++[s]) (hg.app hs) _ (xZ (by simpa using w));have he:=Ty.ya hs d (by omega);obtain rfl:=(iq h).1;exact⟨.lam he o,he⟩
  ·intro a b l m hn g hg r h;rw[Tm.ef] at hn;simp only[ez] at hn;rw[Tm.nX,ea (by decide),ea (by decide)] at h;obtain⟨s,t,f,o,d⟩:=Oq h;obtain⟨a1,a2⟩:=k a (by omega) l g hg _ f;obtain⟨q,v⟩:=k b (by omega) m g hg _ o;simp only[ij,if_true,VB,J_] at d
   split at d
   ·rename_i j;obtain⟨x,y,rfl,A,hy⟩:=Lu a2 j.1;have F:x=t:=j.2;obtain rfl:=(iq d).1;subst F;exact⟨.app a1 q,hy⟩
   ·have:=(iq d).2;omega
  ·intro hn g hg r h;rw[Tm.nX,ea (by decide),ea (by decide),Tm.uL] at h;simp only[vn,ij,reduceIte,Int.reduceEq] at h;obtain rfl:=(iq h).1;exact⟨.zero,Ty.gK⟩
  ·intro a l hn g hg r h;rw[Tm.ef] at hn;simp only[ez] at hn;rw[Tm.nX,ea (by decide),ea (by decide)] at h;obtain⟨s,f,d⟩:=NU h;obtain⟨a1,a2⟩:=k a (by omega) l g hg _ f;simp only[ij,reduceIte,Int.reduceEq,VB] at d
   split at d
   ·rename_i j;subst j;obtain rfl:=(iq d).1;exact⟨.succ a1,Ty.gK⟩
   ·have:=(iq d).2;omega
  ·intro s a b c hs l m B hn g hg r h;rw[Tm.ef] at hn;simp only[ez] at hn;rw[Tm.nX,ea (by decide),ea (by decide)] at h;obtain⟨x,y,z,f,o,C,d⟩:=Mh h;obtain⟨a1,a2⟩:=k a (by omega) l g hg _ f;obtain⟨q,v⟩:=k b (by omega) m g hg _ o;obtain⟨D,G⟩:=k c (by omega) B g hg _ C;simp only[ij,reduceIte,Int.reduceEq,VB,J_] at d
   split at d
   ·rename_i j;have j:x=s/\y=.fn .nat (.fn s s)/\z=.nat:=j;obtain⟨rfl,rfl,rfl⟩:=j;obtain rfl:=(iq d).1;exact⟨.tW hs a1 q D,hs⟩
   ·have:=(iq d).2;omega
  ·intro hn g hg r h;rw[Tm.nX,ea (by decide),ea (by decide),Tm.uL] at h;simp only[vn,ij,reduceIte,Int.reduceEq] at h;obtain rfl:=(iq h).1;exact⟨.nil,Ty.oX⟩
  ·intro a b l m hn g hg r h;rw[Tm.ef] at hn;simp only[ez] at hn;rw[Tm.nX,ea (by decide),ea (by decide)] at h;obtain⟨s,t,f,o,d⟩:=Oq h;obtain⟨a1,a2⟩:=k a (by omega) l g hg _ f;obtain⟨q,v⟩:=k b (by omega) m g hg _ o;simp only[ij,reduceIte,Int.reduceEq,VB,J_] at d
   split at d
   ·rename_i j;obtain⟨rfl,rfl⟩:=j;obtain rfl:=(iq d).1;exact⟨.cons a1 q,Ty.oX⟩
   ·have:=(iq d).2;omega
  ·intro s a b c hs l m B hn g hg r h;rw[Tm.ef] at hn;simp only[ez] at hn;rw[Tm.nX,ea (by decide),ea (by decide)] at h;obtain⟨x,y,z,f,o,C,d⟩:=Mh h;obtain⟨a1,a2⟩:=k a (by omega) l g hg _ f;obtain⟨q,v⟩:=k b (by omega) m g hg _ o;obtain⟨D,G⟩:=k c (by omega) B g hg _ C;simp only[ij,reduceIte,Int.reduceEq,VB,J_] at d
   split at d
   ·rename_i j;have j:x=s/\y=.fn .nat (.fn .ns (.fn s s))/\z=.ns:=j;obtain⟨rfl,rfl,rfl⟩:=j;obtain rfl:=(iq d).1;exact⟨.fold hs a1 q D,hs⟩
   ·have:=(iq d).2;omega
  ·intro a b l m hn g hg r h;rw[Tm.ef] at hn;simp only[ez] at hn;rw[Tm.nX,ea (by decide),ea (by decide)] at h;obtain⟨s,t,f,o,d⟩:=Oq h;obtain⟨a1,a2⟩:=k a (by omega) l g hg _ f;obtain⟨q,v⟩:=k b (by omega) m g hg _ o;simp only[ij,reduceIte,Int.reduceEq,VB,J_] at d
   split at d
   ·have:=(iq d).2;omega
   ·rename_i j;have he:=Ty.OE a2 v (by omega);obtain rfl:=(iq d).1;exact⟨.pair he a1 q,he⟩
  ·intro a l hn g hg r h;rw[Tm.ef] at hn;simp only[ez] at hn;rw[Tm.nX,ea (by decide),ea (by decide)] at h;obtain⟨s,f,d⟩:=NU h;obtain⟨a1,a2⟩:=k a (by omega) l g hg _ f;simp only[ij,reduceIte,Int.reduceEq,VB] at d
   split at d
   ·rename_i j;obtain⟨x,y,rfl,A,hy⟩:=Av a2 j;obtain rfl:=(iq d).1;exact⟨.fst a1,A⟩
   ·have:=(iq d).2;omega
  ·intro a l hn g hg r h;rw[Tm.ef] at hn;simp only[ez] at hn;rw[Tm.nX,ea (by decide),ea (by decide)] at h;obtain⟨s,f,d⟩:=NU h;obtain⟨a1,a2⟩:=k a (by omega) l g hg _ f;simp only[ij,reduceIte,Int.reduceEq,VB] at d
   split at d
   ·rename_i j;obtain⟨x,y,rfl,A,hy⟩:=Av a2 j;obtain rfl:=(iq d).1;exact⟨.snd a1,hy⟩
   ·have:=(iq d).2;omega
  ·intro hn g hg r h;rw[Tm.nX,ea (by decide),ea (by decide),Tm.uL] at h;simp only[vn,ij,reduceIte,Int.reduceEq] at h;obtain rfl:=(iq h).1;exact⟨.unit,Ty.Hi⟩
end Go.gV
namespace Go.gV
open Go
def kn(a:Ty):a.kL a=true:=(Ty.j3 a a).2 rfl
def my{a b:Ty}(h:a≠b):a.kL b=false:=by grind[Ty.j3]
def o0{n:Nat}{g:List Ty}:∀(l:List Tm) (i:Nat) (v:List Ty),(∀a∈l,fU n g a=some (a.ty g))->v.length+l.length<=1000->fo (λ(m:Int) (j:Tm)=>(λ(c:List Ty)=>
   ej (fU n g j) λd f=>
   if(eW f 0)=true then(
   some (gw.ret ((Ty.mk 0 []),f)))
   else(hO (gy c [d])<|some (.next (gU c [d])))):Int->Tm->((List Ty))->(Option (gw ((List Ty)) (Ty×Int)))) l i v=some (match Tm.uL l g with|.inl ts=>.inl (v++ts)|.inr e=>.inr (.z,e))
 |[],i,v,_,_=>by simp[Tm.uL]|a::l,i,v,h,o=>by
  simp only[l5] at o;have p:=h a (by simp);rw[fl,Tm.uL];rw[p]
  by_cases k:(a.ty g).2=0
  ·rw[xZ k,qD rfl];simp only[eb];rw[ea (by decide),fA (by simp;omega)];simp only[eo,cl,fv];rw[o0 l (i+1) _ (λb q=>h b (by simp[q])) (by rw[g_];simp;omega),g_];cases Tm.uL l g with
   |inl ts=>simp|inr e=>rfl
  ·rw[qA k];generalize a.ty g=r at k;obtain⟨t,e⟩:=r;simp only[eb];rw[ee (by simpa[eW] using k)];rfl
def Au(l:List Tm)(g:List Ty):(∃e,e≠0/\Tm.uL l g=.inr e)\/∃ts,Tm.uL l g=.inl ts/\ts.length=l.length/\∀(i:Nat) (a:Tm),l[i]?=some a->∃s,ts[i]?=some s/\a.ty g=(s,0):=by
 induction l with
 |nil=>exact .inr ⟨[],by rw[Tm.uL],rfl,by simp⟩|cons a l b=>
  rw[Tm.uL]
  grind[qD,qA]
def NF{f:List Ty->Ty×Int}{e:Int}:vn f (.inr e)=(.z,e):=rfl
def oY{f:List Ty->Ty×Int}{l:List Ty}:vn f (.inl l)=f l:=rfl
def Dm{a:Tm}{g:List Ty}(b:a.ok=true)(hg:iV g):(∃e,e≠0/\Tm.uL [a] g=.inr e)\/∃s,Tm.uL [a] g=.inl [s]/\s.err=0:=by
 rcases Au [a] g with h|⟨ts,c,d,f⟩
 ·grind
 ·obtain⟨s,j,i⟩:=f 0 a rfl
  match ts,d with
  |[x],_=>
   obtain rfl:x=s:=by grind
   exact .inr ⟨x,c,(re _ a (jw _) b g hg _ i).2⟩
def Cj{a b:Tm}{g:List Ty}(d:a.ok=true)(f:b.ok=true)(hg:iV g):(∃e,e≠0/\Tm.uL [a,b] g=.inr e)\/∃s t,Tm.uL [a,b] g=.inl [s,t]/\s.err=0/\t.err=0:=by
 rcases Au [a,b] g with h|⟨ts,i,j,c⟩
 ·exact .inl h
 ·obtain⟨s,m,k⟩:=c 0 a rfl;obtain⟨t,n,l⟩:=c 1 b rfl
  match ts,j with
  |[x,y],_=>
   obtain rfl:x=s:=by grind
   obtain rfl:y=t:=by grind
   exact .inr ⟨x,y,i,(re _ a (jw _) d g hg _ k).2,(re _ b (jw _) f g hg _ l).2⟩
def Bt{a b c:Tm}{g:List Ty}(f:a.ok=true)(i:b.ok=true)(j:c.ok=true)(hg:iV g):(∃e,e≠0/\Tm.uL [a,b,c] g=.inr e)\/∃s t u,Tm.uL [a,b,c] g=.inl [s,t,u]/\s.err=0/\t.err=0/\u.err=0:=by
 rcases Au [a,b,c] g with h|⟨ts,k,l,d⟩
 ·exact .inl h
 ·obtain⟨s,q,m⟩:=d 0 a rfl;obtain⟨t,r,n⟩:=d 1 b rfl;obtain⟨u,o,p⟩:=d 2 c rfl
  match ts,l with
  |[x,y,z],_=>
   obtain rfl:x=s:=by grind
   obtain rfl:y=t:=by grind
   obtain rfl:z=u:=by simpa using o
   exact .inr ⟨x,y,z,k,(re _ a (jw _) f g hg _ m).2,(re _ b (jw _) i g hg _ n).2,(re _ c (jw _) j g hg _ p).2⟩
def E6{t:Ty}(h:t.acO<=1000000000)(a:t.ok=true):tP t=some (if 64<t.acO then(.z,4)else(t,0)):=by
 unfold tP;rw[m8 h];unfold Ty.err;rw[ee a]
 split
 ·rfl
 ·rfl
section
variable{s x y z:Ty}
def Ax:((x.acM=4/\x.acN.getD 0 .z=y)->ij 3 s [x,y]=(x.acN.getD 1 .z,0))/\(¬(x.acM=4/\x.acN.getD 0 .z=y)->ij 3 s [x,y]=(.z,7)):=by
 unfold ij
 grind
def FY:(x=.nat->ij 5 s [x]=(.nat,0))/\(x≠ .nat->ij 5 s [x]=(.z,7)):=by
 unfold ij
 grind
def wA:((x=s/\y=.fn .nat (.fn s s)/\z=.nat)->ij 6 s [x,y,z]=(s,0))/\(¬(x=s/\y=.fn .nat (.fn s s)/\z=.nat)->ij 6 s [x,y,z]=(.z,7)):=by
 unfold ij
 grind
def Ar:((x=.nat/\y=.ns)->ij 8 s [x,y]=(.ns,0))/\(¬(x=.nat/\y=.ns)->ij 8 s [x,y]=(.z,7)):=by
 unfold ij
 grind
def wR:((x=s/\y=.fn .nat (.fn .ns (.fn s s))/\z=.ns)->ij 9 s [x,y,z]=(s,0))/\(¬(x=s/\y=.fn .nat (.fn .ns (.fn s s))/\z=.ns)->ij 9 s [x,y,z]=(.z,7)):=by
 unfold ij
 grind
def MQ:ij 10 s [x,y]=if 64<1+x.acO+y.acO then(.z,4)else(.pr x y,0):=by
 rfl
def Md:ij 11 s [x]=if x.acM=3 then(x.acN.getD 0 .z,0)else(.z,7):=by
 rfl
def LJ:ij 12 s [x]=if x.acM=3 then(x.acN.getD 1 .z,0)else(.z,7):=by
 rfl
end
def z7:∀(n:Nat) (t:Tm),t.acO<=n->t.ok=true->∀g,iV g->g.length+t.acO<=1000000->fU n g t=some (t.ty g):=by
 intro n
 induction n with
 |zero=>intro t h;have:=t.eP;omega
 |succ n m=>
  intro t hn L;refine Tm.pA (p:=λt=>t.acO<=n+1->∀g,iV g->g.length+t.acO<=1000000->fU (n+1) g t=some (t.ty g)) ?_ ?_ ?_ ?_ ?_ ?_ ?_ ?_ ?_ ?_ ?_ ?_ ?_ t L hn
  ·intro i _ g hg k;rw[Tm.ef] at k;rw[fU,ee (by rfl),Tm.nX,ee rfl]
   by_cases hi:(i:Int)<(g.length:Int)
   ·rw[ea (by simp only[Tm.gl,fV,iX];omega),ee hi];simp only[Tm.gl,fV];rw[fF (a:=(g.length:Int)) (by omega) (by omega),fF (by omega) (by omega)]
    have w:g.length-1-i<g.length:=by omega
    have:eI g ((g.length:Int)-1-(i:Int))=some g[g.length-1-i]:=by
     unfold eI;rw[ee (by omega),show((g.length:Int)-1-(i:Int)).toNat=g.length-1-i by omega,oG w]
    rw[this];simp only[cl];have F:=hg _ (Cl w);rw[jd (by have:=fB F;omega)];simp only[cl,AX];rw[Vs,oG w];rfl
   ·rw[ee (by simp only[Tm.gl,fV,iX];omega),ea hi];rfl
  ·intro s b hs k hn g hg d;rw[Tm.ef] at hn d;simp only[ez] at hn d;rw[fU,ea (by simp),ee (by rfl),Tm.nX,ea (by decide),ee rfl,Tm.ZF];simp only[Tm.ft,Tm.eF,eU,jA,cl,g_];rw[fA (by simp;omega),eo,m b (by omega) k (g++[s]) (hg.app hs) (by simp;omega)];have J:=λh=>(re _ b (jw _) k (g++[s]) (hg.app hs) (b.ty (g++[s])).1 (xZ h)).2;generalize b.ty (g++[s])=q at J;obtain⟨r,e⟩:=q;simp only[eb,MK]
   by_cases G:e=0
   ·subst G;have K:r.err=0:=J rfl;have H:=fB hs;have M:=fB K;rw[ea (by decide),ea (by simp),jt (by omega) (by omega)];simp only[cl];rw[E6 (t:=Ty.fn s r) (by rw[Ty.ke];omega) (Ty.ok_two (.inr rfl) (Ty.ng hs).1 (Ty.ng K).1),Ty.ke]
    split<;>rfl
   ·rw[ee (by simpa[eW] using G),ee G];rfl
  ·intro a b j k hn g hg d;rw[Tm.ef] at hn d;simp only[ez] at hn d;rw[fU,ea (by simp),ea (by simp),Tm.nX,ea (by decide),ea (by decide)];simp only[eA,Tm.eF,eC (l:=[a,b]) (by simp),eo];rw[o0 [a,b] 0 [] (by intro x f;simp at f;rcases f with rfl|rfl<;>first|exact m _ (by omega) j g hg (by omega)|exact m _ (by omega) k g hg (by omega)) (by simp)];rcases Cj j k hg with⟨e,he,h⟩|⟨s,t,h,hs,D⟩
   ·rw[h];rfl
   ·rw[h,oY];simp only[cl,en,fE,gT];rw[ee (by rfl)];simp only[pk,eU,gu,jA,mT,cl]
    by_cases o:s.acM=4
    ·obtain⟨x,y,rfl,f,hy⟩:=Lu hs o;rw[ea (by simp[Ty.fn,eW]),show(Ty.fn x y).acN[0]?=some x from rfl];simp only[cl];rw[jg (by have:=fB f;omega)];simp only[cl]
     by_cases A:x=t
     ·subst A;rw[kn,ea (by decide),show(Ty.fn x y).acN[1]?=some y from rfl,(Ax (x:=.fn x y) (y:=x)).1 ⟨rfl,rfl⟩];rfl
     ·rw[my A,ee (by decide),(Ax (x:=.fn x y) (y:=t)).2 (λh=>A h.2)];rfl
    ·rw[ee (by simpa[eW] using o),ee trivial,Ax.2 (λh=>o h.1)];rfl
  ·intro hn g hg d;rw[Tm.nX,ea (by decide),ea (by decide),Tm.uL];rfl
  ·intro a j hn g hg d;rw[Tm.ef] at hn d;simp only[ez] at hn d;rw[fU,ea (by simp),ea (by simp),Tm.nX,ea (by decide),ea (by decide)];simp only[eA,Tm.eF,eC (l:=[a]) (by simp),eo];rw[o0 [a] 0 [] (by intro x f;simp at f;subst f;exact m _ (by omega) j g hg (by omega)) (by simp)];rcases Dm j hg with⟨e,he,h⟩|⟨s,h,hs⟩
   ·rw[h];rfl
   ·rw[h,oY];simp only[cl,en,fE,gT];rw[ea (by simp),ea (by simp),ee (by rfl)];simp only[pk,eU,jA,cl];rw[jg (by have:=fB hs;omega)];simp only[cl]
    by_cases B:s=.nat
    ·subst B;rw[kn,ee rfl,FY.1 rfl]
    ·rw[my B,ea (by decide),FY.2 B];rfl
  ·intro s a b c hs j k E hn g hg d;rw[Tm.ef] at hn d;simp only[ez] at hn d;rw[fU,ea (by simp),ea (by simp),Tm.nX,ea (by decide),ea (by decide)];simp only[eA,Tm.eF,eC (l:=[a,b,c]) (by simp),eo];rw[o0 [a,b,c] 0 [] (by intro x f;simp at f;rcases f with rfl|rfl|rfl<;>first|exact m _ (by omega) j g hg (by omega)|exact m _ (by omega) k g hg (by omega)|exact m _ (by omega) E g hg (by omega)) (by simp)];rcases Bt j k E hg with⟨e,he,h⟩|⟨x,y,z,h,f,hy,I⟩
   ·rw[h];rfl
   ·have H:=fB hs;rw[h,oY];simp only[cl,en,fE,gT];rw[ea (by simp),ea (by simp),ea (by simp),ee (by rfl)];simp only[pk,eU,gu,jH,jA,mT,cl,Tm.ft];rw[jg (by have:=fB f;omega)];simp only[cl]
    by_cases u:x=s
    ·subst u;rw[kn,ee rfl,jt (by omega) (by omega)];simp only[cl];rw[jt (by rw[Ty.ir];omega) (by rw[Ty.ke];omega)];simp only[cl];rw[jg (by have:=fB hy;omega)];simp only[cl]
     by_cases v:y=.fn .nat (.fn x x)
     ·subst v;rw[kn,ee rfl,jg (by have:=fB I;omega)];simp only[cl]
      by_cases C:z=.nat
      ·subst C;rw[kn,ea (by decide),jd (by omega),wA.1 ⟨rfl,rfl,rfl⟩];rfl
      ·rw[my C,ee (by decide),wA.2 (λh=>C h.2.2)];rfl
     ·rw[my v,ea (by decide),ee trivial,wA.2 (λh=>v h.2.1)];rfl
    ·rw[my u,ea (by decide),ee trivial,wA.2 (λh=>u h.1)];rfl
  ·intro hn g hg d;rw[Tm.nX,ea (by decide),ea (by decide),Tm.uL];rfl
  ·intro a b j k hn g hg d;rw[Tm.ef] at hn d;simp only[ez] at hn d;rw[fU,ea (by simp),ea (by simp),Tm.nX,ea (by decide),ea (by decide)];simp only[eA,Tm.eF,eC (l:=[a,b]) (by simp),eo];rw[o0 [a,b] 0 [] (by intro x f;simp at f;rcases f with rfl|rfl<;>first|exact m _ (by omega) j g hg (by omega)|exact m _ (by omega) k g hg (by omega)) (by simp)];rcases Cj j k hg with⟨e,he,h⟩|⟨s,t,h,hs,D⟩
   ·rw[h];rfl
   ·rw[h,oY];simp only[cl,en,fE,gT];rw[ea (by simp),ea (by simp),ea (by simp),ea (by simp),ea (by simp),ee (by rfl)];simp only[pk,eU,gu,jA,mT,cl];rw[jg (by have:=fB hs;omega)];simp only[cl]
    by_cases u:s=.nat
    ·subst u;rw[kn,ee rfl,jg (by have:=fB D;omega)];simp only[cl]
     by_cases v:t=.ns
     ·subst v;rw[kn,ea (by decide),Ar.1 ⟨rfl,rfl⟩]
     ·rw[my v,ee (by decide),Ar.2 (λh=>v h.2)];rfl
    ·rw[my u,ea (by decide),ee trivial,Ar.2 (λh=>u h.1)];rfl
  ·intro s a b c hs j k E hn g hg d;rw[Tm.ef] at hn d;simp only[ez] at hn d;rw[fU,ea (by simp),ea (by simp),Tm.nX,ea (by decide),ea (by decide)];simp only[eA,Tm.eF,eC (l:=[a,b,c]) (by simp),eo];rw[o0 [a,b,c] 0 [] (by intro x f;simp at f;rcases f with rfl|rfl|rfl<;>first|exact m _ (by omega) j g hg (by omega)|exact m _ (by omega) k g hg (by omega)|exact m _ (by omega) E g hg (by omega)) (by simp)];rcases Bt j k E hg with⟨e,he,h⟩|⟨x,y,z,h,f,hy,I⟩
   ·rw[h];rfl
   ·have H:=fB hs;rw[h,oY];simp only[cl,en,fE,gT];rw[ea (by simp),ea (by simp),ea (by simp),ea (by simp),ea (by simp),ea (by simp),ee (by rfl)];simp only[pk,eU,gu,jH,jA,mT,cl,Tm.ft];rw[jg (by have:=fB f;omega)];simp only[cl]
    by_cases u:x=s
    ·subst u;rw[kn,ee rfl,jt (by omega) (by omega)];simp only[cl];rw[jt (by rw[Ty.pE];omega) (by rw[Ty.ke];omega)];simp only[cl];rw[jt (by rw[Ty.ir];omega) (by rw[Ty.ke,Ty.ke,Ty.pE];omega)];simp only[cl];rw[jg (by have:=fB hy;omega)];simp only[cl]
     by_cases v:y=.fn .nat (.fn .ns (.fn x x))
     ·subst v;rw[kn,ee rfl,jg (by have:=fB I;omega)];simp only[cl]
      by_cases C:z=.ns
      ·subst C;rw[kn,ea (by decide),jd (by omega),wR.1 ⟨rfl,rfl,rfl⟩];rfl
      ·rw[my C,ee (by decide),wR.2 (λh=>C h.2.2)];rfl
     ·rw[my v,ea (by decide),ee trivial,wR.2 (λh=>v h.2.1)];rfl
    ·rw[my u,ea (by decide),ee trivial,wR.2 (λh=>u h.1)];rfl
  ·intro a b j k hn g hg d;rw[Tm.ef] at hn d;simp only[ez] at hn d;rw[fU,ea (by simp),ea (by simp),Tm.nX,ea (by decide),ea (by decide)];simp only[eA,Tm.eF,eC (l:=[a,b]) (by simp),eo];rw[o0 [a,b] 0 [] (by intro x f;simp at f;rcases f with rfl|rfl<;>first|exact m _ (by omega) j g hg (by omega)|exact m _ (by omega) k g hg (by omega)) (by simp)];rcases Cj j k hg with⟨e,he,h⟩|⟨s,t,h,hs,D⟩
   ·rw[h];rfl
   ·have H:=fB hs;have M:=fB D;rw[h,oY];simp only[cl,en,fE,gT];rw[ea (by simp),ea (by simp),ea (by simp),ea (by simp),ea (by simp),ea (by simp),ea (by simp),ee (by rfl)];simp only[pk,eU,gu,jA,mT,cl];rw[yc (by omega) (by omega)];simp only[cl];rw[E6 (t:=Ty.pr s t) (by rw[Ty.vG];omega) (Ty.ok_two (.inl rfl) (Ty.ng hs).1 (Ty.ng D).1),Ty.vG];rw[MQ]
    split<;>rfl
  ·intro a j hn g hg d;rw[Tm.ef] at hn d;simp only[ez] at hn d;rw[fU,ea (by simp),ea (by simp),Tm.nX,ea (by decide),ea (by decide)];simp only[eA,Tm.eF,eC (l:=[a]) (by simp),eo];rw[o0 [a] 0 [] (by intro x f;simp at f;subst f;exact m _ (by omega) j g hg (by omega)) (by simp)];rcases Dm j hg with⟨e,he,h⟩|⟨s,h,hs⟩
   ·rw[h];rfl
   ·rw[h,oY];simp only[cl,en,fE,gT];rw[ea (by simp),ea (by simp),ea (by simp),ea (by simp),ea (by simp),ea (by simp),ea (by simp),ea (by simp),ee (by rfl)];simp only[pk,eU,jA,cl];rw[Md]
    by_cases o:s.acM=3
    ·obtain⟨x,y,rfl,f,hy⟩:=Av hs o;rw[ea (by simp[Ty.pr,eW]),ee (by rfl),ee (show(Ty.pr x y).acM=3 from rfl)];rfl
    ·rw[ee (by simpa[eW] using o),ea o];rfl
  ·intro a j hn g hg d;rw[Tm.ef] at hn d;simp only[ez] at hn d;rw[fU,ea (by simp),ea (by simp),Tm.nX,ea (by decide),ea (by decide)];simp only[eA,Tm.eF,eC (l:=[a]) (by simp),eo];rw[o0 [a] 0 [] (by intro x f;simp at f;subst f;exact m _ (by omega) j g hg (by omega)) (by simp)];rcases Dm j hg with⟨e,he,h⟩|⟨s,h,hs⟩
   ·rw[h];rfl
   ·rw[h,oY];simp only[cl,en,fE,gT];rw[ea (by simp),ea (by simp),ea (by simp),ea (by simp),ea (by simp),ea (by simp),ea (by simp),ea (by simp),ee (by rfl)];simp only[pk,eU,jA,cl];rw[LJ]
    by_cases o:s.acM=3
    ·obtain⟨x,y,rfl,f,hy⟩:=Av hs o;rw[ea (by simp[Ty.pr,eW]),ea (by simp),ee (show(Ty.pr x y).acM=3 from rfl)];rfl
    ·rw[ee (by simpa[eW] using o),ea o];rfl
  ·intro hn g hg d;rw[Tm.nX,ea (by decide),ea (by decide),Tm.uL];rfl
end Go.gV
namespace Go.gV
open Go
def Ic:hD=fR:=by
 funext n
 induction n with
 |zero=>rfl|succ n c=>
  funext a b
  rw[hD,fR,c]
def p_{a b:Ty}(h:a.acO<=1000000000):hD FU a b=some (a.kL b):=by rw[Ic];exact jg h
def tk(t:Ty):ed:=⟨t,(t.acO:Int)⟩
def Rg:ed:=⟨.mk 0 [],0⟩
def IQ(r:Ty×Int):ed×Int:=if r.2=0 then(tk r.1,0)else(Rg,r.2)
@[simp] theorem p5(t:Ty):IQ (t,0)=(tk t,0):=ee rfl
def mo{t:Ty}{e:Int}(h:e≠0):IQ (t,e)=(Rg,e):=ea h
@[simp] theorem u9(t:Ty):(tk t).dv=t:=by rfl
@[simp] theorem Jr(t:Ty):(tk t).acO=(t.acO:Int):=by rfl
theorem lO{t:Ty}(h:t.err=0):nE t=some (tk t):=by
 unfold nE;rw[mf (by have:=fB h;omega),ee h];rfl
def Ag(k:Int){a b:Ty}(c:a.acO<=1000000)(d:b.acO<=1000000):rW k (tk a) (tk b)=some (if 64<1+a.acO+b.acO then(Rg,4)else(tk (.mk k [a,b]),0)):=by
 unfold rW;simp only[Jr,u9];rw[fu (a:=1) (by omega) (by omega),fu (by omega) (by omega)]
 by_cases h:64<1+a.acO+b.acO
 ·rw[ee (by simp only[gW];omega),ee h];rfl
 ·rw[ea (by simp only[gW];omega),ea h];unfold tk;rw[Ty.Aq]
  congr 3
theorem sy{a b:Ty}(c:a.acO<=1000000):kZ (tk a) (tk b)=some (a.kL b):=by
 unfold kZ;simp only[eA,Jr,u9]
 by_cases h:(a.acO:Int)=(b.acO:Int)
 ·rw[ee (by simpa[eH] using h),p_ (by omega)];rfl
 ·rw[ea (by simpa[eH] using h),my (by rintro rfl;exact h rfl)]
def sE{t x:Ty}{i:Int}(h:eI t.acN i=some x)(a:x.err=0):jZ (tk t) i=some (tk x):=by
 unfold jZ;simp only[u9,h,cl,lO a]
def qu:nU=some .nat:=rfl
def Cd:xQ=some .ns:=rfl
def SS{l:List Ty}(d:l.length<=1000):∀(i m:Nat) (k:Int) (as:List Ty),i<=l.length->i<m->qR ((YO λ(a:Int) (v49:Int) (b:List Ty)=>
   if(ue a 0)=true then(
   cv (eI l a) λc=>
   some (.next ((fG .i64 a 1),4,[c,(Ty.mk v49 b)])))
   else(some (.Ki (a,v49,b)))):(Int×Int×(List Ty))->(Option (gw (Int×Int×(List Ty)) (Ty)))) m ((i:Int)-1,k,as)=some (.inl (-1,((l.take i).foldr Ty.fn (.mk k as)).acM,((l.take i).foldr Ty.fn (.mk k as)).acN))
 |0,m+1,k,as,_,_=>by
  rw[oa];simp only[YO];rw[ea (by rw[iX];omega)];rfl
 |i+1,m+1,k,as,hi,hm=>by
  rw[oa];simp only[YO];rw[ee (by rw[iX];omega),show((i+1:Nat):Int)-1=(i:Int) by omega,jJ,oG (by omega)];simp only[cl,fv];rw[fF (by omega) (by omega)];have h:=SS d i m 4 [l[i],.mk k as] (by omega) (by omega);rw[h,QW,oG (by omega)];simp only[XR,NO,List.foldr_cons,List.foldr_nil];rfl
def zB(t:Ty)(l:List Ty)(a:l.length<=1000):pz t l=some (l.foldr Ty.fn t):=by
 unfold pz;simp only[eA];rw[fV,fF (by omega) (by omega)];have h:=SS a l.length FU t.acM t.acN (jw _) (VL (by omega));rw[h,cl];rw[List.take_length]
 have e:Ty.mk t.acM t.acN=t:=by cases t;rfl
 rw[e];generalize List.foldr Ty.fn t l=r;cases r;rfl
def PW(a b t:Ty):pz t [a,b]=some (.fn a (.fn b t)):=zB t [a,b] (by simp)
def Qh(a b c t:Ty):pz t [a,b,c]=some (.fn a (.fn b (.fn c t))):=zB t [a,b,c] (by simp)
def QE(a t:Ty):pz t [a]=some (.fn a t):=zB t [a] (by simp)
def tu:List Ty->ed×ed×ed
 |[]=>(Rg,Rg,Rg)|[a]=>(tk a,Rg,Rg)|[a,b]=>(tk a,tk b,Rg)|a::b::c::_=>(tk a,tk b,tk c)
def EC(x:ed)(k:Int):jQ x k=some (eH x.dv.acM k):=rfl
def Ew(t:Ty)(k:Int):eH (tk t).dv.acM k=decide (t.acM=k):=by
 rw[u9];exact uU _ _
def Ft(s:Ty)(l:List Tm)(i:Int):p7 (.mk 6 i s l)=some (.fn .nat (.fn s s)):=by
 unfold p7;rw[ea (by simp)];simp only[qu,cl];rw[PW];rfl
def DT(s:Ty)(l:List Tm)(i:Int):p7 (.mk 9 i s l)=some (.fn .nat (.fn .ns (.fn s s))):=by
 unfold p7;rw[ee (by simp)];simp only[qu,Cd,cl];rw[Qh];rfl
section
variable{s x y z:Ty} {i:Int} {l:List Tm}
def Tu(f:x.err=0)(hy:y.err=0):gM (.mk 3 i s l) (tu [x,y])=some (IQ (ij 3 s [x,y])):=by
 unfold gM;rw[show kh (Tm.mk 3 i s l).acM=some [] from rfl];simp only[cl];rw[ea (by simp),ee (by rfl)];simp only[eA,tu,EC,cl,Ew]
 by_cases d:x.acM=4
 ·obtain⟨a,b,rfl,e,g⟩:=Lu f d;rw[ee (by rfl),sE (t:=.fn a b) (x:=a) rfl e];simp only[cl];rw[sy (by have:=fB e;omega)];simp only[cl]
  by_cases c:a=y
  ·subst c;rw[kn,ea (by simp),sE (t:=.fn a b) (x:=b) rfl g,(Ax (x:=.fn a b) (y:=a)).1 ⟨rfl,rfl⟩];simp only[cl];rw[show(Ty.fn a b).acN.getD 1 .z=b from rfl,p5]
  ·rw[my c,ee (by simp),(Ax (x:=.fn a b) (y:=y)).2 (λh=>c h.2),mo (by decide)];rfl
 ·rw[ea (by simpa using d),ee trivial,Ax.2 (λh=>d h.1),mo (by decide)];rfl
def Qp(a:x.err=0)(hy:y.err=0):gM (.mk 10 i s l) (tu [x,y])=some (IQ (ij 10 s [x,y])):=by
 unfold gM;rw[show kh (Tm.mk 10 i s l).acM=some [] from rfl];simp only[cl];rw[ea (by simp),ea (by simp),ea (by simp),ee (by rfl)];simp only[tu];rw[Ag 3 (by have:=fB a;omega) (by have:=fB hy;omega),MQ]
 split
 ·simp only[eb];rw[mo (by decide)]
 ·simp only[eb];rw[p5];rfl
def SJ(d:x.err=0):gM (.mk 11 i s l) (tu [x])=some (IQ (ij 11 s [x])):=by
 unfold gM;rw[show kh (Tm.mk 11 i s l).acM=some [] from rfl];simp only[cl];rw[ea (by simp),ea (by simp),ea (by simp),ea (by simp)];simp only[tu,EC,cl,Ew];rw[Md]
 by_cases c:x.acM=3
 ·obtain⟨a,b,rfl,e,f⟩:=Av d c;rw[ee (by rfl),ee (by rfl),sE (t:=.pr a b) (x:=a) rfl e,ee (show(Ty.pr a b).acM=3 from rfl)];simp only[cl];rw[show(Ty.pr a b).acN.getD 0 .z=a from rfl,p5]
 ·rw[ea (by simpa using c),ea c,mo (by decide)];rfl
def TB(d:x.err=0):gM (.mk 12 i s l) (tu [x])=some (IQ (ij 12 s [x])):=by
 unfold gM;rw[show kh (Tm.mk 12 i s l).acM=some [] from rfl];simp only[cl];rw[ea (by simp),ea (by simp),ea (by simp),ea (by simp)];simp only[tu,EC,cl,Ew];rw[LJ]
 by_cases c:x.acM=3
 ·obtain⟨a,b,rfl,f,e⟩:=Av d c;rw[ee (by rfl),ea (by simp),sE (t:=.pr a b) (x:=b) rfl e,ee (show(Ty.pr a b).acM=3 from rfl)];simp only[cl];rw[show(Ty.pr a b).acN.getD 1 .z=b from rfl,p5]
 ·rw[ea (by simpa using c),ea c,mo (by decide)];rfl
end
end Go.gV
namespace Go.gV
open Go
section
variable{s x y z:Ty} {i:Int} {l:List Tm}
def zb{k t:Int}(a:kh k=some [t])(b:Ty.err (.mk t [])=0):gM (.mk k i s l) (tu [])=some (tk (.mk t []),0):=by
 unfold gM;rw[show(Tm.mk k i s l).acM=k from rfl,a,cl,ee (show pc (eN [t]) 0=true by rfl),show Br [t] 1 (eN [t])=some ([]:List Int)from rfl];simp only[cl,eC (l:=([]:List Int)) (by simp),eo,eA,pw,en,eU,jA];rw[lO b];rfl
def Qx:gM (.mk 4 i s l) (tu [])=some (IQ (ij 4 s [])):=zb rfl Ty.gK
def SW:gM (.mk 7 i s l) (tu [])=some (IQ (ij 7 s [])):=zb rfl Ty.oX
def Q4:gM (.mk 13 i s l) (tu [])=some (IQ (ij 13 s [])):=zb rfl Ty.Hi
def QH(b:x.err=0):gM (.mk 5 i s l) (tu [x])=some (IQ (ij 5 s [x])):=by
 unfold gM;rw[show kh (Tm.mk 5 i s l).acM=some [1,1] from rfl,cl,ee (show pc (eN ([1,1]:List Int)) 0=true by rfl),show Br ([1,1]:List Int) 1 (eN ([1,1]:List Int))=some [1] from rfl];simp only[cl,eC (l:=([1]:List Int)) (by simp),eo,eA,tu];rw[fl,ee (by rfl)];simp only[EC,cl,Ew]
 by_cases a:x.acM=1
 ·have hn:=(vt b).1 a;subst hn;rw[wh (by rfl),ea (by decide)];simp only[cl,fv,pw,en,eU,jA];rw[show nE (Ty.mk 1 [])=some (tk .nat)from lO Ty.gK,FY.1 rfl,p5];rfl
 ·rw[DA a,ee (by decide),FY.2 (λh=>a ((vt b).2 h)),mo (by decide)];rfl
def QB(c:x.err=0)(hy:y.err=0):gM (.mk 8 i s l) (tu [x,y])=some (IQ (ij 8 s [x,y])):=by
 unfold gM;rw[show kh (Tm.mk 8 i s l).acM=some [2,1,2] from rfl,cl,ee (show pc (eN ([2,1,2]:List Int)) 0=true by rfl),show Br ([2,1,2]:List Int) 1 (eN ([2,1,2]:List Int))=some [1,2] from rfl];simp only[cl,eC (l:=([1,2]:List Int)) (by simp),eo,eA,tu];rw[fl,ee (by rfl)];simp only[EC,cl,Ew]
 by_cases b:x.acM=1
 ·have hn:=(vt c).1 b;subst hn;rw[wh (by rfl),ea (by decide)];simp only[cl,fv];rw[fl,ea (by decide),ee (by rfl)]
  by_cases a:y.acM=2
  ·have hn:=(CD hy).1 a;subst hn;rw[wh (by rfl),ea (by decide)];simp only[cl,fv,pw,en,eU,jA];rw[show nE (Ty.mk 2 [])=some (tk .ns)from lO Ty.oX,Ar.1 ⟨rfl,rfl⟩,p5];rfl
  ·rw[DA a,ee (by decide),Ar.2 (λh=>a ((CD hy).2 h.2)),mo (by decide)];rfl
 ·rw[DA b,ee (by decide),Ar.2 (λh=>b ((vt c).2 h.1)),mo (by decide)];rfl
def RZ(hs:s.err=0)(d:x.err=0)(hy:y.err=0)(e:z.err=0):gM (.mk 6 i s l) (tu [x,y,z])=some (IQ (ij 6 s [x,y,z])):=by
 unfold gM;rw[show kh (Tm.mk 6 i s l).acM=some [] from rfl];simp only[cl];rw[ea (by decide),ea (by simp),ee (by rfl)];simp only[eA,tu,Tm.ft,lO hs,cl];rw[sy (by have:=fB d;omega)];simp only[cl]
 by_cases a:x=s
 ·subst a;rw[kn,ee rfl,Ft];simp only[cl,u9];rw[p_ (by have:=fB hy;omega)];simp only[cl]
  by_cases b:y=.fn .nat (.fn x x)
  ·subst b;rw[kn,ee rfl];simp only[EC,cl];rw[show fW (eH (Tm.mk 6 i x l).acM 9) (2:Int) 1=1 from rfl];simp only[Ew]
   by_cases c:z=.nat
   ·subst c;rw[wh (by rfl),ea (by decide),wA.1 ⟨rfl,rfl,rfl⟩,p5]
   ·rw[DA (λh=>c ((vt e).1 h)),ee (by decide),wA.2 (λh=>c h.2.2),mo (by decide)];rfl
  ·rw[my b,ea (by decide),ee trivial,wA.2 (λh=>b h.2.1),mo (by decide)];rfl
 ·rw[my a,ea (by decide),ee trivial,wA.2 (λh=>a h.1),mo (by decide)];rfl
def QK(hs:s.err=0)(d:x.err=0)(hy:y.err=0)(e:z.err=0):gM (.mk 9 i s l) (tu [x,y,z])=some (IQ (ij 9 s [x,y,z])):=by
 unfold gM;rw[show kh (Tm.mk 9 i s l).acM=some [] from rfl];simp only[cl];rw[ea (by decide),ea (by simp),ee (by rfl)];simp only[eA,tu,Tm.ft,lO hs,cl];rw[sy (by have:=fB d;omega)];simp only[cl]
 by_cases a:x=s
 ·subst a;rw[kn,ee rfl,DT];simp only[cl,u9];rw[p_ (by have:=fB hy;omega)];simp only[cl]
  by_cases b:y=.fn .nat (.fn .ns (.fn x x))
  ·subst b;rw[kn,ee rfl];simp only[EC,cl];rw[show fW (eH (Tm.mk 9 i x l).acM 9) (2:Int) 1=2 from rfl];simp only[Ew]
   by_cases c:z=.ns
   ·subst c;rw[wh (by rfl),ea (by decide),wR.1 ⟨rfl,rfl,rfl⟩,p5]
   ·rw[DA (λh=>c ((CD e).1 h)),ee (by decide),wR.2 (λh=>c h.2.2),mo (by decide)];rfl
  ·rw[my b,ea (by decide),ee trivial,wR.2 (λh=>b h.2.1),mo (by decide)];rfl
 ·rw[my a,ea (by decide),ee trivial,wR.2 (λh=>a h.1),mo (by decide)];rfl
end
def VY(p:ed×ed×ed):Int×(List Ty)×Int×Int×(List Ty)×Int×Int×(List Ty)×Int:=
 (p.1.dv.acM,p.1.dv.acN,p.1.acO,p.2.1.dv.acM,p.2.1.dv.acN,p.2.1.acO,p.2.2.dv.acM,p.2.2.dv.acN,p.2.2.acO)
def E1{n:Nat}{g:List Ty}:∀(l:List Tm) (d:List Ty),d.length+l.length<=3->(∀a∈l,eZ n (g.map tk) a=some (IQ (a.ty g)))->fo (λ(f:Int) (x:Tm)=>(YQ λ(i:Int) (j:List Ty) (v218:Int) (k:Int) (m:List Ty) (o:Int) (v222:Int) (p:List Ty) (q:Int)=>
   ej (eZ n (g.map tk) x) λc s=>
   if(eW s 0)=true then(
   some (.ret ((ed.mk (Ty.mk 0 []) 0),s)))
   else(if(eH f 0)=true then(
   some (.next (c.dv.acM,c.dv.acN,c.acO,k,m,o,v222,p,q)))
   else(if(eH f 1)=true then(
   some (.next (i,j,v218,c.dv.acM,c.dv.acN,c.acO,v222,p,q)))
   else(hO (eH f 2)<|some (.next (i,j,v218,k,m,o,c.dv.acM,c.dv.acN,c.acO)))))):Int->Tm->(Int×(List Ty)×Int×Int×(List Ty)×Int×Int×(List Ty)×Int)->(Option (gw (Int×(List Ty)×Int×Int×(List Ty)×Int×Int×(List Ty)×Int) (ed×Int)))) l d.length (VY (tu d))=some (match Tm.uL l g with|.inl ts=>.inl (VY (tu (d++ts)))|.inr e=>.inr (Rg,e))
 |[],d,_,_=>by simp[Tm.uL]|a::l,d,y,h=>by
  simp only[l5] at y;rw[fl,Tm.uL];have B:=h a (by simp);simp only[VY,YQ];rw[B]
  by_cases w:(a.ty g).2=0
  ·rw[xZ w,qD rfl,p5,eb,ea (by decide)];generalize (a.ty g).1=t
   have go:∀A:List Ty,A=d++[t]->(some (gw.next (VY (tu A))):Option (gw (Int×(List Ty)×Int×Int×(List Ty)×Int×Int×(List Ty)×Int) (ed×Int)))=some (gw.next (VY (tu (d++[t])))):=λA e=>by rw[e]
   have z:=E1 l (d++[t]) (by simp;omega) (λb C=>h b (by simp[C]));rw[sK,l5,wv] at z
   have fin:(some (match Tm.uL l g with|.inl ts=>.inl (VY (tu (d++[t]++ts)))|.inr e=>.inr (Rg,e)):Option ((Int×(List Ty)×Int×Int×(List Ty)×Int×Int×(List Ty)×Int)⊕(ed×Int)))=some (match(match Tm.uL l g with|.inl ts=>Sum.inl (t::ts)|.inr e=>Sum.inr e:List Ty⊕Int)with|.inl ts=>.inl (VY (tu (d++ts)))|.inr e=>.inr (Rg,e)):=by
    cases Tm.uL l g with
    |inl ts=>simp|inr e=>rfl
   match d,y with
   |[],_=>
    rw[ee (by rfl)];exact z.trans fin
   |[u],_=>
    rw[ea (by simp),ee (by rfl)];exact z.trans fin
   |[u,v],_=>
    rw[ea (by simp),ea (by simp),show eH (([u,v].length:Nat):Int) 2=true from rfl,eo];exact z.trans fin
   |_::_::_::_,y=>simp at y;omega
  ·rw[qA w];generalize a.ty g=r at w;obtain⟨t,e⟩:=r;simp only at w;rw[mo w,eb,ee (by simpa[eW] using w)];rfl
def UD(p:ed×ed×ed):((ed.mk (Ty.mk p.1.dv.acM p.1.dv.acN) p.1.acO),(ed.mk (Ty.mk p.2.1.dv.acM p.2.1.dv.acN) p.2.1.acO),(ed.mk (Ty.mk p.2.2.dv.acM p.2.2.dv.acN) p.2.2.acO))=p:=by
 have e:∀t:Ty,Ty.mk t.acM t.acN=t:=λt=>by cases t;rfl
 obtain⟨⟨a,b⟩,⟨c,d⟩,⟨g,f⟩⟩:=p;simp only[e]
def lT{n:Nat}{g:List Ty}{k i:Int}{s:Ty}{l:List Tm}(m:k≠1)(q:k≠2)(r:l.length<=3)(h:∀a∈l,eZ n (g.map tk) a=some (IQ (a.ty g)))
  (hn:∀ts,Tm.uL l g=.inl ts->gM (.mk k i s l) (tu ts)=some (IQ (ij k s ts))):eZ (n+1) (g.map tk) (.mk k i s l)=some (IQ ((Tm.mk k i s l).ty g)):=by
 rw[eZ,ea (by simpa[eH] using m),ea (by simpa[eH] using q),Tm.nX,ea m,ea q];simp only[eA,Tm.eF];rw[eC (by omega),eo];have f:=E1 l [] (by simpa using r) h;refine(congrArg (λo=>cv o _) f).trans ?_;simp only[cl];cases j:Tm.uL l g with
 |inr e=>
  rw[NF]
  have he:e≠0:=by
   rcases Au l g with⟨t,d,c⟩|⟨ts,d,_⟩
   ·rw[j] at c;cases c;exact d
   ·rw[j] at d;cases d
  rw[mo he];rfl
 |inl ts=>
  simp only[pk,en,oY,VY,YQ];rw[UD,hn ts j,show∀p:ed×Int,(ej (some p) λa b=>some (a,b))=some p fromλ_=>rfl]
end Go.gV
namespace Go.gV
open Go
def Af(g:List Ty)(s:Ty):g.map tk++[tk s]=(g++[s]).map tk:=by simp
def DH:∀(n:Nat) (t:Tm),t.acO<=n->t.ok=true->∀g,iV g->g.length+t.acO<=1000000->eZ n (g.map tk) t=some (IQ (t.ty g)):=by
 intro n
 induction n with
 |zero=>intro t h;have:=t.eP;omega
 |succ n l=>
  intro t hn B
  have one:∀{a:Tm} {g:List Ty} {ts:List Ty},a.ok=true->iV g->Tm.uL [a] g=.inl ts->∃x,ts=[x]/\x.err=0:=by
   intro a g ts j hg h;rcases Dm j hg with⟨e,_,o⟩|⟨x,o,f⟩<;>rw[h] at o<;>cases o;exact⟨x,rfl,f⟩
  have two:∀{a b:Tm} {g:List Ty} {ts:List Ty},a.ok=true->b.ok=true->iV g->Tm.uL [a,b] g=.inl ts->∃x y,ts=[x,y]/\x.err=0/\y.err=0:=by
   intro a b g ts j k hg h;rcases Cj j k hg with⟨e,_,o⟩|⟨x,y,o,f,hy⟩<;>rw[h] at o<;>cases o;exact⟨x,y,rfl,f,hy⟩
  have three:∀{a b c:Tm} {g:List Ty} {ts:List Ty},a.ok=true->b.ok=true->c.ok=true->iV g->Tm.uL [a,b,c] g=.inl ts->∃x y z,ts=[x,y,z]/\x.err=0/\y.err=0/\z.err=0:=by
   intro a b c g ts j k m hg h;rcases Bt j k m hg with⟨e,_,o⟩|⟨x,y,z,o,f,hy,u⟩<;>rw[h] at o<;>cases o;exact⟨x,y,z,rfl,f,hy,u⟩
  refine Tm.pA (p:=λt=>t.acO<=n+1->∀g,iV g->g.length+t.acO<=1000000->eZ (n+1) (g.map tk) t=some (IQ (t.ty g))) ?_ ?_ ?_ ?_ ?_ ?_ ?_ ?_ ?_ ?_ ?_ ?_ ?_ t B hn
  ·intro i _ g hg k;rw[Tm.ef] at k;rw[eZ,ee (by rfl),Tm.nX,ee rfl];simp only[Tm.gl,fV,GU]
   by_cases hi:(i:Int)<(g.length:Int)
   ·rw[ea (by simp only[iX];omega),ee hi];rw[fF (a:=(g.length:Int)) (by omega) (by omega),fF (by omega) (by omega)]
    have v:g.length-1-i<g.length:=by omega
    have:eI (g.map tk) ((g.length:Int)-1-(i:Int))=some (tk g[g.length-1-i]):=by
     unfold eI;rw[ee (by omega),show((g.length:Int)-1-(i:Int)).toNat=g.length-1-i by omega,tN,oG v];rfl
    rw[this];simp only[cl,AX];rw[Vs,oG v];exact congrArg some (p5 _).symm
   ·rw[ee (by simp only[iX];omega),ea hi,mo (by decide)];rfl
  ·intro s b hs k hn g hg d;rw[Tm.ef] at hn d;simp only[ez] at hn d;rw[eZ,ea (by simp),ee (by rfl),Tm.nX,ea (by decide),ee rfl,Tm.ZF];simp only[Tm.ft,Tm.eF,lO hs,eU,jA,cl,g_];rw[fA (by simp;omega),eo,Af,l b (by omega) k (g++[s]) (hg.app hs) (by simp;omega)];have A:=λh=>(re _ b (jw _) k (g++[s]) (hg.app hs) (b.ty (g++[s])).1 (xZ h)).2;generalize b.ty (g++[s])=q at A;obtain⟨r,e⟩:=q;simp only[MK]
   by_cases w:e=0
   ·subst w;have C:r.err=0:=A rfl;have D:=fB hs;have E:=fB C;rw[p5,eb,ea (by decide),ea (by simp),Ag 4 (by omega) (by omega)]
    by_cases m:64<1+s.acO+r.acO
    ·rw[ee m,ee m,mo (by decide)];rfl
    ·rw[ea m,ea m,p5];rfl
   ·rw[mo w,eb,ee (by simpa[eW] using w),ee w,mo w];rfl
  ·intro a b j k hn g hg d;rw[Tm.ef] at hn d;simp only[ez] at hn d;refine lT (by decide) (by decide) (by simp) (by intro x f;simp at f;rcases f with rfl|rfl<;>first|exact l _ (by omega) j g hg (by omega)|exact l _ (by omega) k g hg (by omega)) (λts h=>?_);obtain⟨x,y,rfl,f,hy⟩:=two j k hg h;exact Tu f hy
  ·intro hn g hg d;exact lT (by decide) (by decide) (by simp) (by simp) (λts h=>by rw[Tm.uL] at h;cases h;exact Qx)
  ·intro a j hn g hg d;rw[Tm.ef] at hn d;simp only[ez] at hn d;refine lT (by decide) (by decide) (by simp) (by intro x f;simp at f;subst f;exact l _ (by omega) j g hg (by omega)) (λts h=>?_);obtain⟨x,rfl,f⟩:=one j hg h;exact QH f
  ·intro s a b c hs j k m hn g hg d;rw[Tm.ef] at hn d;simp only[ez] at hn d;refine lT (by decide) (by decide) (by simp) (by intro x f;simp at f;rcases f with rfl|rfl|rfl<;>first|exact l _ (by omega) j g hg (by omega)|exact l _ (by omega) k g hg (by omega)|exact l _ (by omega) m g hg (by omega)) (λts h=>?_);obtain⟨x,y,z,rfl,f,hy,u⟩:=three j k m hg h;exact RZ hs f hy u
  ·intro hn g hg d;exact lT (by decide) (by decide) (by simp) (by simp) (λts h=>by rw[Tm.uL] at h;cases h;exact SW)
  ·intro a b j k hn g hg d;rw[Tm.ef] at hn d;simp only[ez] at hn d;refine lT (by decide) (by decide) (by simp) (by intro x f;simp at f;rcases f with rfl|rfl<;>first|exact l _ (by omega) j g hg (by omega)|exact l _ (by omega) k g hg (by omega)) (λts h=>?_);obtain⟨x,y,rfl,f,hy⟩:=two j k hg h;exact QB f hy
  ·intro s a b c hs j k m hn g hg d;rw[Tm.ef] at hn d;simp only[ez] at hn d;refine lT (by decide) (by decide) (by simp) (by intro x f;simp at f;rcases f with rfl|rfl|rfl<;>first|exact l _ (by omega) j g hg (by omega)|exact l _ (by omega) k g hg (by omega)|exact l _ (by omega) m g hg (by omega)) (λts h=>?_);obtain⟨x,y,z,rfl,f,hy,u⟩:=three j k m hg h;exact QK hs f hy u
  ·intro a b j k hn g hg d;rw[Tm.ef] at hn d;simp only[ez] at hn d;refine lT (by decide) (by decide) (by simp) (by intro x f;simp at f;rcases f with rfl|rfl<;>first|exact l _ (by omega) j g hg (by omega)|exact l _ (by omega) k g hg (by omega)) (λts h=>?_);obtain⟨x,y,rfl,f,hy⟩:=two j k hg h;exact Qp f hy
  ·intro a j hn g hg d;rw[Tm.ef] at hn d;simp only[ez] at hn d;refine lT (by decide) (by decide) (by simp) (by intro x f;simp at f;subst f;exact l _ (by omega) j g hg (by omega)) (λts h=>?_);obtain⟨x,rfl,f⟩:=one j hg h;exact SJ f
  ·intro a j hn g hg d;rw[Tm.ef] at hn d;simp only[ez] at hn d;refine lT (by decide) (by decide) (by simp) (by intro x f;simp at f;subst f;exact l _ (by omega) j g hg (by omega)) (λts h=>?_);obtain⟨x,rfl,f⟩:=one j hg h;exact TB f
  ·intro hn g hg d;exact lT (by decide) (by decide) (by simp) (by simp) (λts h=>by rw[Tm.uL] at h;cases h;exact Q4)
def xS{t:Tm}{g:List Ty}(a:t.ok=true)(hg:iV g)(b:g.length+t.acO<=1000000):eZ FU (g.map tk) t=some (IQ (t.ty g)):=
 DH FU t (by have:=fC;omega) a g hg b
noncomputable def pN (t:Tm) (g:List Ty) (k:Int):Int:=if(t.ty g).2=0/\(t.ty g).1.acM≠k then 7 else(t.ty g).2
def A4{t:Tm}{g:List Ty}(k:Int)(c:t.ok=true)(hg:iV g)(d:g.length+t.acO<=1000000):iU (g.map tk) t k=some (pN t g k):=by
 unfold iU pN;rw[xS c hg d];generalize t.ty g=q;obtain⟨r,e⟩:=q
 by_cases a:e=0
 ·subst a;rw[p5,eb];simp only[eA];rw[ee (by rfl),EC,cl,Ew]
  by_cases b:r.acM=k
  ·rw[wh b,ea (by decide),ea (λh=>h.2 b)]
  ·rw[DA b,ee (by decide),ee ⟨trivial,b⟩]
 ·rw[mo a,eb];simp only[eA];rw[ea (by simpa[eH] using a),ea (by decide),ea (λh=>a h.1)]
def xu{t:Tm}{g:List Ty}(a:t.ok=true)(hg:iV g)(b:g.length+t.acO<=1000000):iM (g.map tk) t=some (pN t g 1):=by
 unfold iM;rw[A4 1 a hg b];rfl
end Go.gV
