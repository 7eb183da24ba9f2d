/- Part of the proof of SchemeChains: plain facts. -/
import Derived.Test.YtpgdkkomegalnaaGreatDoorHG1
set_option linter.all false
namespace Go.fP
open Go
@[simp] theorem gi(a b:Int):eo a b=true↔a=b:=by simp[eo]
@[simp] theorem eW(a b:Int):eR a b=true↔a≠b:=by simp[eR]
@[simp] theorem jA(a b:Int):pH a b=true↔a<b:=by simp[pH]
@[simp] theorem HU(a b:Int):Tq a b=true↔a<=b:=by simp[Tq]
@[simp] theorem hJ(a b:Int):pw a b=true↔b<a:=by simp[pw]
@[simp] theorem ju(a b:Int):qz a b=true↔b<=a:=by simp[qz]
@[simp] theorem lW(a b:Bool):fq a true b=(a||b):=by cases a<;>rfl
@[simp] theorem u6(a b:Bool):fq a b false=(a&&b):=by cases a<;>rfl
@[simp] theorem aiw(a b:Bool):fq a b true=(!a||b):=by cases a<;>rfl
@[simp] theorem UO(a:Bool):lF a=!a:=rfl
@[simp] theorem ig{α:Type}(l m:List α):fW l m=l++m:=rfl
@[simp] theorem fV{α:Type}(l:List α):eE l=(l.length:Int):=rfl
theorem gS{α:Type}(l:List α)(i:Nat):dW l (i:Int)=l[i]?:=by simp[dW]
@[simp] theorem eO{α:Type}(l:List α):dW l 0=l[0]?:=by simp[dW]
@[simp] theorem gy{α:Type}(l:List α):dW l 1=l[1]?:=by simp[dW]
@[simp] theorem jk{α:Type}(l:List α):dW l 2=l[2]?:=by simp[dW]
def Na{α:Type}{l:List α}{i:Int}(b:0<=i)(c:i<l.length):∃x,dW l i=some x/\x∈l:=by
 obtain⟨k,rfl⟩:=ah' b
 have a:k<l.length:=VW
 exact⟨l[k],by rw[gS];simp[a],Ek a⟩
def ei{α:Type}{l:List α}(h:l.length<=1000000000):e_ l=true:=by unfold e_ BR;exact xG VW
def fk{α:Type}{l m:List α}(h:l.length+m.length<=1000000000):fM l m=true:=by unfold fM BR;exact xG VW
def aaj{b:Int}(h:b≠0):Ms b=true:=by simp[Ms,h]
def H_{n:Int}(a:-9223372036854775808<=n)(b:n<9223372036854775808):IntKind.i64.wrap n=n:=by
 rw[IntKind.wrap_i64];omega
def e9{a b:Int}(c:-9223372036854775808<=a+b)(d:a+b<9223372036854775808):eH .i64 a b=a+b:=H_ c d
theorem fF{a b:Int}(c:-9223372036854775808<=a-b)(d:a-b<9223372036854775808):fD .i64 a b=a-b:=H_ c d
def Bs{a b:Int}(c:-9223372036854775808<=a*b)(d:a*b<9223372036854775808):O5 .i64 a b=a*b:=H_ c d
section
variable{α β σ ρ:Type}
def Mq{F:Int->α->σ->Option (fp σ ρ)}(I:σ->Prop)(Q:ρ->Prop):∀(l:List α) (i:Nat) (s:σ),I s->(∀k x s,l[k]?=some x->I s->(∃a,F ((i+k:Nat):Int) x s=some (.next a)/\I a)\/(∃r,F ((i+k:Nat):Int) x s=some (.ret r)/\Q r))->(∃a,fa F l i s=some (.inl a)/\I a)\/(∃r,fa F l i s=some (.inr r)/\Q r)
 |[],i,s,hs,_=>.inl ⟨s,rfl,hs⟩|x::l,i,s,hs,h=>by
  have f:=h 0 x s rfl hs;rw[Gg] at f;rw[eV];rcases f with⟨s1,b,c⟩|⟨r,b,c⟩
  .rw[b];simp only[dI,eQ];refine Mq I Q l (i+1) s1 c λk y a j d=>?_;have:=h (k+1) y a (by simpa using j) d;rw[show i+(k+1)=i+1+k by omega] at this;exact this
  .rw[b];exact .inr ⟨r,rfl,c⟩
def kh{F:Int->α->List β->Option (fp (List β) ρ)}(g:α->β):∀(l:List α) (i:Nat) (v:List β),v.length+l.length<=1000000000->(∀j x v,x∈l->v.length+1<=1000000000->F j x v=some (.next (v++[g x])))->fa F l i v=some (.inl (v++l.map g))
 |[],i,v,_,_=>by simp|x::l,i,v,a,h=>by
  simp only[kY] at a;rw[eV,h i x v abm VW];simp only[dI,eQ];rw[kh g l (i+1) (v++[g x]) abv λj y v hy b=>h j y v (by simp[hy]) b];simp
def ee(g:α->Nat):List α->Nat
 |[]=>0|x::l=>g x+ee g l
def eu(g:α->Nat){l:List α}{x:α}(h:x∈l):g x<=ee g l:=by
 induction l with
 |nil=>cases h
 |cons y l ih=>
  simp only[ee];rcases kX.1 h with rfl|h
  .omega
  .have:=ih h;omega
def je(g:α->Nat)(l:List α)(h:∀x∈l,1<=g x):l.length<=ee g l:=by
 induction l with
 |nil=>simp|cons y l ih=>simp only[ee,kY];have:=h y abm;have:=ih λx a=>h x (by simp[a]);omega
def qd{F:Int->α->Int->Option (fp Int ρ)}(g:α->Nat):∀(l:List α) (i v:Nat),v+ee g l<=4611686018427387904->(∀j x (v:Int),x∈l->F j x v=some (.next (eH .i64 v (g x))))->fa F l i (v:Int)=some (.inl ((v+ee g l:Nat):Int))
 |[],i,v,_,_=>by simp[ee]|x::l,i,v,a,h=>by
  simp only[ee] at a|-;rw[eV,h i x v abm,e9 VW VW];simp only[dI,eQ];have:=qd g l (i+1) (v+g x) VW λj y v hy=>h j y v (by simp[hy]);rw[show(v:Int)+(g x:Int)=((v+g x:Nat):Int) by omega,this];rw[aaX]
def wu{F:Int->α->Int->Option (fp Int ρ)}(g:α->Nat)(ok:α->Bool)(r:ρ):∀(l:List α) (i v:Nat),v+ee g l<=4611686018427387904->(∀j x (v:Int),x∈l->F j x v=if ok x then some (.next (eH .i64 v (g x)))else some (.ret r))->fa F l i (v:Int)=if l.all ok then some (.inl ((v+ee g l:Nat):Int))else some (.inr r)
 |[],i,v,_,_=>by simp[ee]|x::l,i,v,b,h=>by
  simp only[ee] at b|-;rw[eV,h i x v abm,e9 VW VW];cases a:ok x with
  |false=>simp[a]|true=>
   simp only[if_true,dI,eQ,CW,a,B1];have:=wu g ok r l (i+1) (v+g x) VW λj y v hy=>h j y v (by simp[hy]);rw[show(v:Int)+(g x:Int)=((v+g x:Nat):Int) by omega,this,aaX]
def rL{F:Int->α->Unit->Option (fp Unit ρ)}(ok:α->Bool)(r:ρ):∀(l:List α) (i:Nat),(∀j x,x∈l->F j x ()=if ok x then some (.next ())else some (.ret r))->fa F l i ()=if l.all ok then some (.inl ())else some (.inr r)
 |[],i,_=>by simp|x::l,i,h=>by
  rw[eV,h i x abm];cases a:ok x with
  |false=>simp[a]|true=>
   simp only[if_true,dI,eQ,CW,a,B1];exact rL ok r l (i+1) λj y hy=>h j y (by simp[hy])
def fC:List Int->Int
 |[]=>0|e::l=>if e=0 then fC l else e
def mN{F:Int->α->Unit->Option (fp Unit Int)}(e:α->Int):∀(l:List α) (i:Nat),(∀j x,x∈l->F j x ()=if e x≠0 then some (.ret (e x))else some (.next ()))->fa F l i ()=if fC (l.map e)=0 then some (.inl ())else some (.inr (fC (l.map e)))
 |[],i,_=>by simp[fC]|x::l,i,h=>by
  rw[eV,h i x abm]
  by_cases he:e x=0
  .simp only[he,fC,pP,ne_eq,Q_,jt,dI,eQ,if_true];exact mN e l (i+1) λj y hy=>h j y (by simp[hy])
  .simp[he,fC]
def vU(p:α->β->Bool):List α->List β->Bool
 |x::l,y::m=>p x y&&vU p l m|[],[]=>true|_,_=>false
def yi{F:Int->α->Unit->Option (fp Unit Bool)}(p:α->β->Bool)(M:List β):∀(l:List α) (i:Nat) (m:List β),m=M.drop i->l.length=m.length->(∀(k:Nat) x y,x∈l->M[k]?=some y->F (k:Int) x ()=if p x y then some (.next ())else some (.ret false))->fa F l i ()=if vU p l m then some (.inl ())else some (.inr false)
 |[],i,m,_,d,_=>by
  cases m with
  |nil=>simp[vU]|cons y m=>simp at d
 |x::l,i,m,hm,d,h=>by
  cases m with
  |nil=>simp at d
  |cons y m=>
   have c:i<M.length:=by
    rcases uC i M.length with h'|h'
    .exact h'
    .rw[LI h'] at hm;cases hm
   rw[K0 c] at hm;injection hm with j n;rw[eV,h i x y abm (by simp[c,j])];cases f:p x y with
   |false=>simp[vU,f]|true=>
    simp only[if_true,dI,eQ,vU,f,B1];exact yi p M l (i+1) m n (by simpa using d) λk a b o q=>h k a b (by simp[o]) q
def yv(p:α->α->Bool):∀(l m:List α),(∀x∈l,∀y,p x y=true↔x=y)->(vU p l m=true↔l=m)
 |[],[],_=>by simp[vU]|[],_::_,_=>by simp[vU]|_::_,[],_=>by simp[vU]|x::l,y::m,h=>by simp[vU,h x abm y,yv p l m λa b=>h a (by simp[b])]
def Mo{F:σ->Option (fp σ ρ)}(I:σ->Prop)(μ:σ->Nat)(Q:σ⊕ρ->Prop)
  (h:∀s,I s->(∃a,F s=some (.next a)/\I a/\μ a<μ s)\/(∃a,F s=some (.xA a)/\Q (.inl a))\/(∃r,F s=some (.ret r)/\Q (.inr r))):∀(n:Nat) (s:σ),I s->μ s<n->∃o,jL F n s=some o/\Q o
 |0,s,_,hn=>by omega|n+1,s,hs,hn=>by
  rw[gM];rcases h s hs with⟨a,b,c,d⟩|⟨a,b,c⟩|⟨r,b,c⟩
  .rw[b];simp only[dI,eQ];exact Mo I μ Q h n a c VW
  .rw[b];exact⟨_,rfl,c⟩
  .rw[b];exact⟨_,rfl,c⟩
def afK{n:Nat}(h:n<1000000000):n<FU:=by rw[fl];exact h
end
end Go.fP
namespace Go.fP
open Go
mutual
def Ty.aor:Ty->Nat
 |.mk _ l=>1+Ty.ov l
def Ty.ov:List Ty->Nat
 |[]=>0|t::l=>t.aor+Ty.ov l
end
def Ty.r7(l:List Ty):Ty.ov l=ee Ty.aor l:=by
 induction l with
 |nil=>rfl|cons t l ih=>simp[Ty.ov,ee,ih]
theorem Ty.dL(k:Int)(l:List Ty):(Ty.mk k l).aor=1+ee Ty.aor l:=by rw[Ty.aor,Ty.r7]
def Ty.eF(t:Ty):1<=t.aor:=by cases t;rw[Ty.aor];omega
def Ty.fA(l:List Ty):l.length<=ee Ty.aor l:=je _ _ λt _=>t.eF
def Ty.want(k:Int):Option Nat:=if k=1\/k=2\/k=5 then some 0 else if k=3\/k=4 then some 2 else none
mutual
def Ty.ok:Ty->Bool
 |.mk k l=>decide (Ty.want k=some l.length)&&Ty.Mu l
def Ty.Mu:List Ty->Bool
 |[]=>true|t::l=>t.ok&&Ty.Mu l
end
def Ty.AS(l:List Ty):Ty.Mu l=l.all Ty.ok:=by
 induction l with
 |nil=>rfl|cons t l ih=>simp[Ty.Mu,ih]
theorem Ty.gX(k:Int)(l:List Ty):(Ty.mk k l).ok=(decide (Ty.want k=some l.length)&&l.all Ty.ok):=by rw[Ty.ok,Ty.AS]
def Ty.err(t:Ty):Int:=if t.ok then(if 64<t.aor then 4 else 0)else 2
def L7:∀(n:Nat) (t:Ty),t.aor<=n->t.aor<=1000000000->jm n t=some t:=by
 intro n
 induction n with
 |zero=>intro t h;have:=t.eF;omega
 |succ n ih=>
  intro t h a;cases t with
  |mk k l=>
   rw[Ty.dL] at h a;have d:=Ty.fA l;rw[jm];simp only[Ty.ey,Ty.eD,dY,ei (l:=l) VW,dU];rw[kh id l 0 [] abv]
   .simp
   .intro j x v b c;have:=eu Ty.aor b;rw[ih x VW VW];simp[fk (l:=v) (m:=[x]) (by simpa using c)]
def jM{t:Ty}(h:t.aor<=1000000000):jm FU t=some t:=L7 FU t (by rw[fl];exact h) h
def DJ:∀(n:Nat) (t:Ty),t.aor<=n->t.aor<=1000000000->mM n t=some (if t.ok then((t.aor:Int),true)else(0,false)):=by
 intro n
 induction n with
 |zero=>intro t h;have:=t.eF;omega
 |succ n ih=>
  intro t h u;cases t with
  |mk k l=>
   rw[Ty.dL] at h u;have A:=Ty.fA l
   have key:fa (λ(q:Int) (c:Ty) (d:Int)=>dR (mM n c) λf i=>if i then some (fp.next (eH .i64 d f))else some (fp.ret ((0:Int),false))) l 0 1=if l.all Ty.ok then some (.inl ((1+ee Ty.aor l:Nat):Int))else some (.inr (0,false)):=by
    refine wu Ty.aor Ty.ok _ l 0 1 VW ?_;intro j x v w;have:=eu Ty.aor w;rw[ih x VW VW];cases x.ok<;>simp
   rw[mM];simp only[Ty.ey,Ty.eD,dY,ei (l:=l) VW,dU,key,lW,sx,gi,eW,fV,Ty.gX,Ty.dL,Ty.want]
   by_cases r:k=1\/k=2\/k=5
   .simp only[r,if_true]
    by_cases b:l=[]
    .subst b;simp[ee]
    .have:¬(0=l.length):=by cases l with|nil=>exact absurd rfl b|cons a l=>simp
     have o:(l.length:Int)≠0:=VW
     simp[this,o,b]
   .simp only[r,jt]
    by_cases b:k=3\/k=4
    .simp only[b,if_true]
     by_cases o:l.length=2
     .cases s:l.all Ty.ok<;>simp[o]
     .have s:(l.length:Int)≠2:=VW
      have y:¬2=l.length:=VW
      simp[s,y]
    .simp[b]
theorem lQ{t:Ty}(h:t.aor<=1000000000):jl t=some (if t.err=0 then(t.aor:Int)else 0,t.err):=by
 unfold jl Ty.err;rw[DJ FU t (by rw[fl];exact h) h];cases t.ok with
 |false=>simp|true=>
  by_cases a:64<t.aor
  .simp[a];omega
  .simp[a];omega
def Jj{t:Ty}(h:t.aor<=1000000000):sj t=some t.err:=by
 unfold sj;rw[lQ h];rfl
def Ty.rj(t:Ty):Bool:=fq (eo t.aop 0) (eo (eE t.aoq) 0) false
theorem Ty.mB(t:Ty):t.rj=true↔t=.mk 0 []:=by
 cases t with
 |mk k l=>unfold Ty.rj;simp
theorem td(t:Ty):oK t=some t.rj:=rfl
def xS(t:Ty):qa t=some t.rj:=rfl
def JG:∀(n:Nat) (t:Ty),t.aor<=n->t.aor<=1000000000->qj n t=some t.ok:=by
 intro n
 induction n with
 |zero=>intro t h;have:=t.eF;omega
 |succ n ih=>
  intro t h r;cases t with
  |mk k l=>
   rw[Ty.dL] at h r;have v:=Ty.fA l
   have key:fa (λ(i:Int) (c:Ty) (_:Unit)=>dH (qj n c) λd=>if d then some (fp.next ())else some (fp.ret false)) l 0 ()=if l.all Ty.ok then some (.inl ())else some (.inr false):=by
    refine rL Ty.ok _ l 0 ?_;intro j x s;have:=eu Ty.aor s;rw[ih x VW VW];rfl
   rw[qj];simp only[Ty.ey,Ty.eD,dY,ei (l:=l) VW,dU,key,lW,sx,gi,eW,fV,Ty.gX,Ty.want]
   by_cases o:k=1\/k=2\/k=5
   .simp only[o,if_true]
    by_cases b:l=[]
    .subst b;simp
    .have:¬(0=l.length):=by cases l with|nil=>exact absurd rfl b|cons a l=>simp
     have f:(l.length:Int)≠0:=VW
     simp[this,f,b]
   .simp only[o,jt]
    by_cases b:k=3\/k=4
    .simp only[b,if_true]
     by_cases f:l.length=2
     .cases q:l.all Ty.ok<;>simp[f]
     .have q:(l.length:Int)≠2:=VW
      have u:¬2=l.length:=VW
      simp[q,u]
    .simp[b]
def Cm:∀(n:Nat) (t:Ty),t.aor<=n->t.aor<=1000000000->qp n t=some (t.aor:Int):=by
 intro n
 induction n with
 |zero=>intro t h;have:=t.eF;omega
 |succ n ih=>
  intro t h a;cases t with
  |mk k l=>
   rw[Ty.dL] at h a;have c:=Ty.fA l;rw[qp];simp only[Ty.ey,dY,ei (l:=l) VW,dU]
   have key:=qd (ρ:=Int) (F:=λ(j:Int) (x:Ty) (v:Int)=>dH (qp n x) λy=>some (fp.next (eH .i64 v y))) Ty.aor l 0 1 VW (by
    intro j x v b;have:=eu Ty.aor b;rw[ih x VW VW]
    rfl)
   rw[show(1:Int)=((1:Nat):Int)from rfl,key];simp[Ty.dL]
def mI{t:Ty}(h:t.aor<=1000000000):jj t=some t.err:=by
 unfold jj Ty.err;rw[JG FU t (by rw[fl];exact h) h,Cm FU t (by rw[fl];exact h) h];cases t.ok with
 |false=>simp|true=>by_cases a:64<t.aor<;>simp[a]<;>omega
def xO:∀(n:Nat) (a b:Ty),a.aor<=n->a.aor<=1000000000->∃r,fO n a b=some r/\(r=true↔a=b):=by
 intro n
 induction n with
 |zero=>intro t b h;have:=t.eF;omega
 |succ n ih=>
  intro a b h s;cases a with
  |mk k l=>
  cases b with
  |mk k' m=>
   rw[Ty.dL] at h s;have u:=Ty.fA l;rw[fO];simp only[Ty.ey,Ty.eD,dY,ei (l:=l) VW,dU,lW,sx,eW,fV]
   by_cases d:k≠k'\/(l.length:Int)≠m.length
   .rw[dO d];refine⟨false,rfl,?_⟩;simp only[pA,TJ,Ty.mk.injEq,not_and];rintro rfl rfl;simp at d
   .rw[dK d];simp only[not_or,yU] at d;obtain⟨rfl,hlen⟩:=d
    have c:l.length=m.length:=VW
    let p:Ty->Ty->Bool:=λx y=>(fO n x y).getD false
    have o:∀x∈l,∀y,fO n x y=some (p x y)/\(p x y=true↔x=y):=by
     intro x f y;have:=eu Ty.aor f;obtain⟨r,q,i⟩:=ih x y VW VW
     have e:p x y=r:=by show(fO n x y).getD false=r;rw[q];rfl
     rw[e];exact⟨q,i⟩
    have key:=yi (F:=λ(j:Int) (x:Ty) (_:Unit)=>dH (dW m j) λy=>dH (fO n x y) λz=>if z then some (fp.next ())else some (fp.ret false)) p m l 0 m rfl c (by
     intro k x y f hy;rw[gS,hy];simp only[dI];rw[(o x f y).1]
     rfl)
    rw[key];have he:=yv p l m λx f y=>(o x f y).2;cases i:vU p l m with
    |false=>exact⟨false,rfl,by rw[i] at he;simpa using he⟩
    |true=>exact⟨true,rfl,by rw[i] at he;simpa using he⟩
noncomputable def Ty.lj (a b:Ty):Bool:=@decide (a=b) (Classical.propDecidable _)
theorem Ty.lq(a b:Ty):a.lj b=true↔a=b:=by unfold Ty.lj;simp
theorem im{a b:Ty}(h:a.aor<=1000000000):fO FU a b=some (a.lj b):=by
 obtain⟨r,c,d⟩:=xO FU a b (by rw[fl];exact h) h;rw[c]
 congr 1
 rw[L',d,Ty.lq]
mutual
def Tm.aor:Tm->Nat
 |.mk _ _ _ l=>1+Tm.ov l
def Tm.ov:List Tm->Nat
 |[]=>0|t::l=>t.aor+Tm.ov l
end
def Tm.r7(l:List Tm):Tm.ov l=ee Tm.aor l:=by
 induction l with
 |nil=>rfl|cons t l ih=>simp[Tm.ov,ee,ih]
theorem Tm.dL(k i:Int)(s:Ty)(l:List Tm):(Tm.mk k i s l).aor=1+ee Tm.aor l:=by rw[Tm.aor,Tm.r7]
def Tm.eF(t:Tm):1<=t.aor:=by cases t;rw[Tm.aor];omega
def Tm.fA(l:List Tm):l.length<=ee Tm.aor l:=je _ _ λt _=>t.eF
mutual
def Tm.wt:Tm->Nat
 |.mk _ _ s l=>1+s.aor+Tm.Un l
def Tm.Un:List Tm->Nat
 |[]=>0|t::l=>t.wt+Tm.Un l
end
def Tm.Fv(l:List Tm):Tm.Un l=ee Tm.wt l:=by
 induction l with
 |nil=>rfl|cons t l ih=>simp[Tm.Un,ee,ih]
def Tm.iE(k i:Int)(s:Ty)(l:List Tm):(Tm.mk k i s l).wt=1+s.aor+ee Tm.wt l:=by rw[Tm.wt,Tm.Fv]
def Tm.kf(t:Tm):1<=t.wt:=by cases t;rw[Tm.wt];omega
def Tm.p7(l:List Tm):l.length<=ee Tm.wt l:=je _ _ λt _=>t.kf
def kI{α:Type}{f g:α->Nat}{l:List α}(h:∀x∈l,f x<=g x):ee f l<=ee g l:=by
 induction l with
 |nil=>simp[ee]|cons x l ih=>simp only[ee];have:=h x abm;have:=ih λy hy=>h y (by simp[hy]);omega
def lH{α β:Type}(f:β->Nat)(g:α->β)(l:List α):ee f (l.map g)=ee (λx=>f (g x)) l:=by
 induction l with
 |nil=>rfl|cons x l ih=>simp[ee,ih]
def pd{α:Type}{f g:α->Nat}{l:List α}(h:∀x∈l,f x=g x):ee f l=ee g l:=by
 induction l with
 |nil=>rfl|cons x l ih=>simp[ee,h x abm,ih λy hy=>h y (by simp[hy])]
def xo{α:Type}(f:α->Nat)(l m:List α):ee f (l++m)=ee f l+ee f m:=by
 induction l with
 |nil=>simp[ee]|cons x l ih=>simp[ee,ih];omega
def Tm.ind{p:Tm->Prop}(h:∀k i s l,(∀t∈l,p t)->p (.mk k i s l))(t:Tm):p t:=by
 have:∀n (t:Tm),t.aor<=n->p t:=by
  intro n
  induction n with
  |zero=>intro t a;have:=t.eF;omega
  |succ n ih=>
   intro t a;cases t with
   |mk k i s l=>
    rw[Tm.dL] at a;exact h k i s l λu hu=>ih u (by have:=eu Tm.aor hu;omega)
 exact this _ t (gY _)
def Tm.ij(t:Tm):t.aor<=t.wt:=by
 induction t using Tm.ind with
 |h k i s l ih=>rw[Tm.dL,Tm.iE];have:=kI ih;omega
def j_(k:Int):Bool:=decide (k=2\/k=6\/k=9)
def gW(k:Int):Int:=
 if k=1\/k=4\/k=7\/k=13 then 0 else if k=2\/k=5\/k=11\/k=12 then 1 else if k=3\/k=8\/k=10 then 2 else if k=6\/k=9 then 3 else-1
def Tm.node(k i:Int)(s:Ty)(n:Nat):Bool:=
 decide ((n:Int)=gW k)&&decide (0<=i)&&(decide (k=1)||decide (i=0))&&(if j_ k then decide (s.err=0)else s.rj)
mutual
def Tm.ok:Tm->Bool
 |.mk k i s l=>Tm.node k i s l.length&&Tm.Mu l
def Tm.Mu:List Tm->Bool
 |[]=>true|t::l=>t.ok&&Tm.Mu l
end
def Tm.AS(l:List Tm):Tm.Mu l=l.all Tm.ok:=by
 induction l with
 |nil=>rfl|cons t l ih=>simp[Tm.Mu,ih]
theorem Tm.gX(k i:Int)(s:Ty)(l:List Tm):(Tm.mk k i s l).ok=(Tm.node k i s l.length&&l.all Tm.ok):=by rw[Tm.ok,Tm.AS]
def Tm.err(t:Tm):Int:=if t.ok then(if 4096<t.aor then 4 else 0)else 2
def Lr:∀(n:Nat) (t:Tm),t.wt<=n->t.wt<=1000000000->l6 n t=some t:=by
 intro n
 induction n with
 |zero=>intro t h;have:=t.kf;omega
 |succ n ih=>
  intro t h a;cases t with
  |mk k i s l=>
   rw[Tm.iE] at h a;have d:=Tm.p7 l;rw[l6];simp only[Tm.ey,Tm.eD,Tm.gn,Tm.fx,dY,ei (l:=l) VW,dU];rw[kh id l 0 [] abv]
   .simp[jM (t:=s) VW]
   .intro j x v b c;have:=eu Tm.wt b;rw[ih x VW VW];simp[fk (l:=v) (m:=[x]) (by simpa using c)]
def uA{t:Tm}(h:t.wt<=1000000000):l6 FU t=some t:=Lr FU t (by rw[fl];exact h) h
def qc(k:Int)(l:List Tm)(h:ee Tm.wt l<=1000000000):gV k l=some (Tm.mk k 0 (.mk 0 []) l):=by
 have c:=Tm.p7 l;unfold gV;simp only[dY,ei (l:=l) VW,dU];rw[kh id l 0 [] abv]
 .simp
 .intro j x v a b;have:=eu Tm.wt a;rw[uA (t:=x) VW];simp[fk (l:=v) (m:=[x]) (by simpa using b)]
def JA(k:Int)(s:Ty)(l:List Tm)(hs:s.aor<=1000000000)(h:ee Tm.wt l<=1000000000):lS k s l=some (Tm.mk k 0 s l):=by
 unfold lS;rw[qc k l h];simp[jM hs]
def Md(k:Int):vZ k=some (gW k):=by
 unfold vZ gW;simp only[lW,sx,gi]
 split<;>(try rfl)
 split<;>(try rfl)
 split<;>(try rfl)
 split<;>rfl
def oq:∀(n:Nat) (t:Tm),t.aor<=n->t.aor<=1000000000->gj n t=some (t.aor:Int):=by
 intro n
 induction n with
 |zero=>intro t h;have:=t.eF;omega
 |succ n ih=>
  intro t h a;cases t with
  |mk k i s l=>
   rw[Tm.dL] at h a;have c:=Tm.fA l;rw[gj];simp only[Tm.ey,dY,ei (l:=l) VW,dU]
   have key:=qd (ρ:=Int) (F:=λ(j:Int) (x:Tm) (v:Int)=>dH (gj n x) λy=>some (fp.next (eH .i64 v y))) Tm.aor l 0 1 VW (by
    intro j x v b;have:=eu Tm.aor b;rw[ih x VW VW]
    rfl)
   rw[show(1:Int)=((1:Nat):Int)from rfl,key];simp[Tm.dL]
def AG:∀(n:Nat) (t:Tm),t.wt<=n->t.wt<=1000000000->k9 n t=some t.ok:=by
 intro n
 induction n with
 |zero=>intro t h;have:=t.kf;omega
 |succ n ih=>
  intro t h v;cases t with
  |mk k i s l=>
   rw[Tm.iE] at h v;have D:=Tm.p7 l
   have key:fa (λ(o:Int) (a:Tm) (_:Unit)=>dH (k9 n a) λb=>if b then some (fp.next ())else some (fp.ret false)) l 0 ()=if l.all Tm.ok then some (.inl ())else some (.inr false):=by
    refine rL Tm.ok _ l 0 ?_;intro j x w;have:=eu Tm.wt w;rw[ih x VW VW];rfl
   rw[k9]
   simp only[Tm.ey,Tm.eD,Tm.gn,Tm.fx,dY,ei (l:=l) VW,dU,key,lW,sx,gi,eW,jA,fV,Tm.gX,Md,dI,mI (t:=s) VW,xS]
   by_cases d:(l.length:Int)=gW k
   .by_cases q:i<0
    .have:¬0<=i:=VW
     simp[d,q,Tm.node,this]
    .have y:0<=i:=VW
     by_cases r:k=1
     .subst r;cases c:s.rj<;>cases f:l.all Tm.ok<;>simp_all [Tm.node,j_]
     .by_cases c:i=0
      .subst c;have u:eR 0 0=false:=rfl
       by_cases f:k=2\/k=6\/k=9
       .have A:j_ k=true:=by simp[j_,f]
        by_cases B:s.err=0<;>cases C:l.all Tm.ok<;>simp_all [Tm.node]
       .have A:j_ k=false:=by simp[j_,f]
        cases B:s.rj<;>cases C:l.all Tm.ok<;>simp_all [Tm.node]
      .have u:eR i 0=true:=by simp[c]
       simp[d,q,r,c,u,Tm.node]
   .simp[d,Tm.node]
def jQ{t:Tm}(h:t.wt<=1000000000):mr t=some t.err:=by
 have:=t.ij;unfold mr Tm.err;rw[AG FU t (by rw[fl];exact h) h,oq FU t (by rw[fl];omega) VW];cases t.ok with
 |false=>simp|true=>by_cases a:4096<t.aor<;>simp[a]<;>omega
def Lw(k:Int):wz k=some (if 1<=k/\k<14 then(gW k,true)else(0,false)):=by
 unfold wz;simp only[lW,sx,jA,ju]
 by_cases h:k<1\/14<=k
 .rw[dO h,dK VW]
 .rw[dK h,dO VW]
  have:k=1\/k=2\/k=3\/k=4\/k=5\/k=6\/k=7\/k=8\/k=9\/k=10\/k=11\/k=12\/k=13:=VW
  rcases this with rfl|rfl|rfl|rfl|rfl|rfl|rfl|rfl|rfl|rfl|rfl|rfl|rfl<;>rfl
def Le(k:Int):wT k=some (j_ k):=by
 unfold wT j_
 congr 1
 rw[L'];simp
def O9{k:Int}{n:Nat}(h:(n:Int)=gW k):1<=k/\k<14:=by
 unfold gW at h
 repeat' split at h
 all_goals omega
def w7:∀(n:Nat) (t:Tm),t.wt<=n->t.wt<=1000000000->jV n t=some (if t.ok then((t.aor:Int),true)else(0,false)):=by
 intro n
 induction n with
 |zero=>intro t h;have:=t.kf;omega
 |succ n ih=>
  intro t h A;cases t with
  |mk k i s l=>
   rw[Tm.iE] at h A;have I:=Tm.p7 l;have hn:ee Tm.aor l<=ee Tm.wt l:=kI λx _=>x.ij
   have key:fa (λ(u:Int) (a:Tm) (b:Int)=>dR (jV n a) λc d=>if d then some (fp.next (eH .i64 b c))else some (fp.ret ((0:Int),false))) l 0 1=if l.all Tm.ok then some (.inl ((1+ee Tm.aor l:Nat):Int))else some (.inr (0,false)):=by
    refine wu Tm.aor Tm.ok _ l 0 1 VW ?_;intro j x v B;have:=eu Tm.wt B;rw[ih x VW VW];cases x.ok<;>simp
   rw[jV];simp only[Tm.ey,Tm.eD,Tm.gn,Tm.fx,dY,ei (l:=l) VW,dU,key,Tm.gX,Tm.dL,Lw,Le,lQ (t:=s) VW,td,dI,dP]
   by_cases f:(l.length:Int)=gW k
   .have o:=O9 f;simp only[o,and_self,if_true,dP,D_,lW,u6,sx,gJ,eW,jA,fV,f,ne_eq,Q_,false_or]
    by_cases w:i<0
    .have:¬0<=i:=VW
     simp[w,Tm.node,this]
    .have C:0<=i:=VW
     by_cases y:k=1
     .subst y;cases q:s.rj<;>cases r:l.all Tm.ok<;>simp_all [Tm.node,j_]
     .by_cases q:i=0
      .subst q
       by_cases r:k=2\/k=6\/k=9
       .have D:j_ k=true:=by simp[j_,r]
        by_cases F:s.err=0<;>cases G:l.all Tm.ok<;>simp_all [Tm.node]
       .have D:j_ k=false:=by simp[j_,r]
        cases F:s.rj<;>cases G:l.all Tm.ok<;>simp_all [Tm.node]
      .simp[w,y,q,Tm.node]
   .have H:Tm.node k i s l.length=false:=by simp[Tm.node,f]
    simp only[H,ait,pA,jt]
    by_cases o:1<=k/\k<14
    .simp[o,f]
    .simp[o]
def eT(k:Int):Int:=if k=2 then 1 else 0
def hV(k:Int):0<=eT k/\eT k<=1:=by unfold eT;split<;>omega
def oi(t:Tm):lK t=some (eT t.aop):=by
 unfold lK eT;simp only[gi]
 split<;>rfl
mutual
def Tm.up(f b:Int):Tm->Tm
 |.mk k i s l=>.mk k (if k=1/\f<=i then i+b else i) s (Tm.upL (f+eT k) b l)
def Tm.upL(f b:Int):List Tm->List Tm
 |[]=>[]|t::l=>t.up f b::Tm.upL f b l
end
def Tm.Ud(f b:Int)(l:List Tm):Tm.upL f b l=l.map (Tm.up f b):=by
 induction l with
 |nil=>rfl|cons t l ih=>simp[Tm.upL,ih]
theorem Tm.fE(f b k i:Int)(s:Ty)(l:List Tm):(Tm.mk k i s l).up f b=.mk k (if k=1/\f<=i then i+b else i) s (l.map (Tm.up (f+eT k) b)):=by rw[Tm.up,Tm.Ud]
mutual
def Tm.aov(m:Int):Tm->Bool
 |.mk _ i _ l=>decide (i<=m)&&Tm.uS m l
def Tm.uS(m:Int):List Tm->Bool
 |[]=>true|t::l=>t.aov m&&Tm.uS m l
end
def Tm.FD(m:Int)(l:List Tm):Tm.uS m l=l.all (Tm.aov m):=by
 induction l with
 |nil=>rfl|cons t l ih=>simp[Tm.uS,ih]
theorem Tm.fo(m k i:Int)(s:Ty)(l:List Tm):(Tm.mk k i s l).aov m=(decide (i<=m)&&l.all (Tm.aov m)):=by rw[Tm.aov,Tm.FD]
mutual
def Tm.aox(a:Int):Tm->Nat
 |.mk k i _ l=>(if k=1/\i=a then 1 else 0)+Tm.ze (a+eT k) l
def Tm.ze(a:Int):List Tm->Nat
 |[]=>0|t::l=>t.aox a+Tm.ze a l
end
def Tm.Fu(a:Int)(l:List Tm):Tm.ze a l=ee (Tm.aox a) l:=by
 induction l with
 |nil=>rfl|cons t l ih=>simp[Tm.ze,ee,ih]
def Tm.fu(a k i:Int)(s:Ty)(l:List Tm):(Tm.mk k i s l).aox a=(if k=1/\i=a then 1 else 0)+ee (Tm.aox (a+eT k)) l:=by rw[Tm.aox,Tm.Fu]
def Tm.iZ(t:Tm):∀a,t.aox a<=t.aor:=by
 induction t using Tm.ind with
 |h k i s l ih=>
  intro a;rw[Tm.fu,Tm.dL];have:=kI (f:=Tm.aox (a+eT k)) (g:=Tm.aor) (l:=l) λx b=>ih x b _
  split<;>omega
def Tm.lz(n i:Int)(s t:Tm):Tm:=if i=n then s.up 0 n else if n<i then .mk 1 (i-1) (.mk 0 []) [] else t
mutual
def Tm.gP:Int->Tm->Tm->Tm
 |n,.mk k i ty l,s=>if k=1 then Tm.lz n i s (.mk k i ty l)else .mk k i ty (Tm.HO (n+eT k) l s)
def Tm.HO:Int->List Tm->Tm->List Tm
 |_,[],_=>[]|n,t::l,s=>Tm.gP n t s::Tm.HO n l s
end
def Tm.Oq(n:Int)(s:Tm)(l:List Tm):Tm.HO n l s=l.map (λx=>Tm.gP n x s):=by
 induction l with
 |nil=>rfl|cons t l ih=>simp[Tm.HO,ih]
theorem Tm.fN(n:Int)(s:Tm)(k i:Int)(ty:Ty)(l:List Tm):Tm.gP n (Tm.mk k i ty l) s=if k=1 then Tm.lz n i s (.mk k i ty l)else .mk k i ty (l.map (λx=>Tm.gP (n+eT k) x s)):=by rw[Tm.gP,Tm.Oq]
def Tm.kJ(t:Tm):∀f b,(t.up f b).aor=t.aor:=by
 induction t using Tm.ind with
 |h k i s l ih=>
  intro f b;rw[Tm.fE,Tm.dL,Tm.dL,lH];rw[pd λx a=>ih x a _ _]
def Tm.YF(t:Tm):∀f b,(t.up f b).wt=t.wt:=by
 induction t using Tm.ind with
 |h k i s l ih=>
  intro f b;rw[Tm.fE,Tm.iE,Tm.iE,lH];rw[pd λx a=>ih x a _ _]
def xH{α β:Type}{p:β->Bool}{q:α->Bool}{g:α->β}{l:List α}(h:∀x∈l,p (g x)=q x):(l.map g).all p=l.all q:=by
 induction l with
 |nil=>rfl|cons x l ih=>simp only[pP,CW,h x abm,ih λy hy=>h y (by simp[hy])]
def Tm.Sz{k i j:Int}{s:Ty}{n:Nat}(h:k=1/\0<=i/\0<=j\/i=j):Tm.node k i s n=Tm.node k j s n:=by
 rcases h with⟨rfl,a,b⟩|rfl
 .simp[Tm.node,a,b]
 .rfl
def Tm.J3(t:Tm):∀f b,0<=f->0<=b->(t.up f b).ok=t.ok:=by
 induction t using Tm.ind with
 |h k i s l ih=>
  intro f b d a;rw[Tm.fE,Tm.gX,Tm.gX,Hn,xH λx c=>ih x c (f+eT k) b (by have:=hV k;omega) a]
  congr 1
  apply Tm.Sz
  split
  .rename_i j;left;omega
  .right;rfl
def AT:∀(n:Nat) (t:Tm) (m:Int),t.aor<=n->t.aor<=1000000000->lJ n t m=some (t.aov m):=by
 intro n
 induction n with
 |zero=>intro t m h;have:=t.eF;omega
 |succ n ih=>
  intro t m h f;cases t with
  |mk k i s l=>
   rw[Tm.dL] at h f;have q:=Tm.fA l
   have key:fa (λ(c:Int) (a:Tm) (_:Unit)=>dH (lJ n a m) λb=>if b then some (fp.next ())else some (fp.ret false)) l 0 ()=if l.all (Tm.aov m) then some (.inl ())else some (.inr false):=by
    refine rL (Tm.aov m) _ l 0 ?_;intro j x o;have:=eu Tm.aor o;rw[ih x m VW VW];rfl
   rw[lJ];simp only[Tm.ey,Tm.gn,dY,ei (l:=l) VW,dU,key,hJ,Tm.fo]
   by_cases d:m<i
   .have:¬i<=m:=VW
    simp[d,this]
   .have:i<=m:=VW
    cases r:l.all (Tm.aov m)<;>simp[d,this]
def GD:∀(n:Nat) (t:Tm) (f b:Int),t.aor<=n->t.aor<=1000000000->0<=f->f+t.aor<=10000000000->0<=b->b<=10000000000->t.aov 1000000000000=true->sK n t f b=some (t.up f b):=by
 intro n
 induction n with
 |zero=>intro t f b h;have:=t.eF;omega
 |succ n ih=>
  intro t f b h a B c u d hi;cases t with
  |mk k i s l=>
   rw[Tm.dL] at h a c;rw[Tm.fo] at hi;simp only[gJ,oU,kZ] at hi;have C:=Tm.fA l;have D:=hV k;rw[sK];simp only[Tm.ey,Tm.gn,Tm.eD,Tm.fx,dY,ei (l:=l) VW,dU];rw[kh (Tm.up (f+eT k) b) l 0 [] abv]
   .rw[Tm.fE];simp only[dI,ew,n9,w5,Tm.mk.injEq,QO,zT]
    by_cases o:k=1/\f<=i
    .obtain⟨rfl,q⟩:=o;rw[e9 VW VW];have w:eo 1 1=true:=rfl
     have y:qz i f=true:=by simp[q]
     simp[w,y,q]
    .rw[dK o]
     have e:fq (eo k 1) (qz i f) false=false:=by
      rw[u6,Yr];simp only[ne_eq,gJ,gi,ju];exact o
     rw[e];rfl
   .intro j x v r A;have:=eu Tm.aor r;rw[oi];simp only[dI,Tm.eD];rw[e9 VW VW,ih x (f+eT k) b VW VW VW VW u d (hi.2 x r)];simp[fk (l:=v) (m:=[x.up (f+eT k) b]) (by simpa using A)]
def Ah:∀(n:Nat) (t:Tm) (a:Int),t.aor<=n->t.aor<=1000000000->0<=a->a+t.aor<=10000000000->nH n t a=some (t.aox a:Int):=by
 intro n
 induction n with
 |zero=>intro t a h;have:=t.eF;omega
 |succ n ih=>
  intro t a h c u d;cases t with
  |mk k i s l=>
   rw[Tm.dL] at h c d;have w:=Tm.fA l;have A:=hV k;have o:ee (Tm.aox (a+eT k)) l<=ee Tm.aor l:=kI λx _=>x.iZ _;rw[nH];simp only[Tm.ey,Tm.gn,Tm.eD,dY,ei (l:=l) VW,dU]
   have q:fq (fq (eo k 1) (eo i a) false) (eH .i64 0 1) 0=(((if k=1/\i=a then 1 else 0:Nat)):Int):=by
    by_cases f:k=1/\i=a
    .obtain⟨rfl,rfl⟩:=f;simp[eo,fq,eH,H_]
    .have e:fq (eo k 1) (eo i a) false=false:=by
      rw[u6,Yr];simp only[ne_eq,gJ,gi];exact f
     rw[e,dK f];rfl
   have key:=qd (ρ:=Int) (F:=λ(j:Int) (x:Tm) (v:Int)=>dH (lK (Tm.mk k i s l)) λb=>dH (nH n x (eH .i64 a b)) λy=>some (fp.next (eH .i64 v y)))
    (Tm.aox (a+eT k)) l 0 (if k=1/\i=a then 1 else 0) (by split<;>omega) (by
    intro j x v r;have:=eu Tm.aor r;rw[oi];simp only[dI,Tm.eD];rw[e9 VW VW,ih x _ VW VW VW VW]
    rfl)
   rw[q,key];simp[Tm.fu]
def GV:∀(n:Nat) (t:Tm) (a b:Int) (s:Tm),t.aor<=n->t.aor<=1000000000->0<=a->0<=b->a+b+t.aor<=5000000000->t.aov 1000000000000=true->t.ok=true->s.aor<=1000000000->s.aov 1000000000000=true->v7 n t a b s=some (Tm.gP (a+b) t s):=by
 intro n
 induction n with
 |zero=>intro t a b s h;have:=t.eF;omega
 |succ n ih=>
  intro t a b s h r y C u hi c hs d;cases t with
  |mk k i ty l=>
   rw[Tm.dL] at h r u;rw[Tm.fo] at hi;rw[Tm.gX] at c;simp only[gJ,oU,kZ] at hi c;have D:=Tm.fA l;have F:=hV k
   have A:0<=i:=by
    have:=c.1;simp only[Tm.node,gJ,oU] at this;exact this.1.1.2
   rw[v7,Tm.fN];simp only[Tm.ey,Tm.gn,Tm.eD,Tm.fx,dY,ei (l:=l) VW,dU,gi];rw[e9 VW VW]
   by_cases f:k=1
   .rw[dO f,dO f];unfold Tm.lz
    by_cases o:i=a+b
    .rw[dO o,dO o,GD FU s 0 (a+b) (by rw[fl];exact hs) hs VW VW VW VW d];rfl
    .rw[dK o,dK o];simp only[hJ]
     by_cases q:a+b<i
     .rw[dO q,dO q,fF VW VW];rfl
     .rw[dK q,dK q]
   .rw[dK f,dK f];rw[kh (λx=>Tm.gP (a+b+eT k) x s) l 0 [] abv]
    .simp
    .intro j x v w B;have:=eu Tm.aor w;rw[oi];simp only[dI,Tm.eD];rw[e9 VW VW,ih x a (b+eT k) s VW VW y VW VW (hi.2 x w) (c.2 x w) hs d];rw[show a+(b+eT k)=a+b+eT k by omega];simp[fk (l:=v) (m:=[Tm.gP (a+b+eT k) x s]) (by simpa using B)]
def Tm.r6(s t:Tm):∀n,t.ok=true->(Tm.gP n t s).aor+t.aox n=t.aor+t.aox n*s.aor:=by
 induction t using Tm.ind with
 |h k i ty l ih=>
  intro n a;rw[Tm.gX] at a;simp only[gJ,kZ] at a;rw[Tm.fN,Tm.fu,Tm.dL]
  by_cases d:k=1
  .subst d
   have o:l=[]:=by
    have:=a.1;simp only[Tm.node,gJ,oU] at this;have h:=this.1.1.1;simp[gW] at h;exact h
   subst o;simp only[if_true,Tm.lz,ee,Gg,zT]
   by_cases f:i=n
   .simp[f,Tm.kJ];omega
   .by_cases q:n<i<;>simp[f,q,Tm.dL,ee]
  .simp only[d,jt,Iv,vo];rw[Tm.dL,lH]
   have:ee (λx=>(Tm.gP (n+eT k) x s).aor) l+ee (Tm.aox (n+eT k)) l=ee Tm.aor l+ee (Tm.aox (n+eT k)) l*s.aor:=by
    have b:∀x∈l,(Tm.gP (n+eT k) x s).aor+x.aox (n+eT k)=x.aor+x.aox (n+eT k)*s.aor:=λx c=>ih x c _ (a.2 x c);clear ih a
    induction l with
    |nil=>simp[ee]|cons y l j=>
     have d:=b y abm;have f:=j λx c=>b x (by simp[c]);simp only[ee,Ce];omega
   omega
def Tm.Jp(s:Tm)(hs:s.ok=true)(t:Tm):∀n,0<=n->t.ok=true->(Tm.gP n t s).ok=true:=by
 induction t using Tm.ind with
 |h k i ty l ih=>
  intro n hn a;have b:=a;rw[Tm.gX] at a;simp only[gJ,kZ] at a;rw[Tm.fN]
  by_cases d:k=1
  .subst d;simp only[if_true,Tm.lz]
   by_cases c:i=n
   .simp only[c,if_true];rw[Tm.J3 s 0 n VW hn];exact hs
   .by_cases f:n<i
    .simp only[c,f,jt,if_true];rw[Tm.gX]
     have o:1<=i:=VW
     simp[Tm.node,gW,j_,o,Ty.rj,eo]
    .simp only[c,f,jt];exact b
  .simp only[d,jt];rw[Tm.gX,Hn];simp only[gJ,kZ,ql];refine⟨a.1,?_⟩;rintro _ ⟨x,j,rfl⟩;exact ih x j _ (by have:=hV k;omega) (a.2 x j)
mutual
def Tm.fr:Tm->Int
 |.mk k i _ l=>if k=1 then i+1 else if k=2 then imax 0 (Tm.Kz 0 l-1)else Tm.Kz 0 l
def Tm.Kz(m:Int):List Tm->Int
 |[]=>m|t::l=>Tm.Kz (imax m t.fr) l
end
theorem uh(a b:Int):imax a b=max a b:=by unfold imax;omega
def Tm.T1(l:List Tm):∀m,m<=Tm.Kz m l:=by
 induction l with
 |nil=>intro m;exact Hu _|cons t l ih=>intro m;rw[Tm.Kz];have:=ih (imax m t.fr);rw[uh] at*;omega
def Tm.acr{l:List Tm}{t:Tm}(h:t∈l):∀m,t.fr<=Tm.Kz m l:=by
 induction l with
 |nil=>cases h
 |cons u l ih=>
  intro m;rw[Tm.Kz];rcases kX.1 h with rfl|h
  .have:=Tm.T1 l (imax m t.fr);rw[uh] at*;omega
  .exact ih h _
def Tm.aba{M:Int}{l:List Tm}(h:∀t∈l,t.fr<=M):∀m,m<=M->Tm.Kz m l<=M:=by
 induction l with
 |nil=>intro m hm;exact hm|cons u l ih=>
  intro m hm;rw[Tm.Kz];refine ih (λt a=>h t (by simp[a])) _ ?_;have:=h u abm;rw[uh];omega
def Tm.aar(t:Tm):∀{M:Int},0<=M->t.ok=true->t.aov M=true->0<=t.fr/\t.fr<=M+1:=by
 induction t using Tm.ind with
 |h k i s l ih=>
  intro M d a b;rw[Tm.gX] at a;rw[Tm.fo] at b;simp only[gJ,kZ,oU,Tm.node] at a b;have f:Tm.Kz 0 l<=M+1:=Tm.aba (λt c=>(ih t c d (a.2 t c) (b.2 t c)).2) 0 VW;have j:=Tm.T1 l 0;rw[Tm.fr]
  split
  .omega
  .split
   .rw[uh];omega
   .omega
def map_id'{α:Type}{g:α->α}{l:List α}(h:∀x∈l,g x=x):l.map g=l:=by
 induction l with
 |nil=>rfl|cons x l ih=>simp only[pP,h x abm,ih λy hy=>h y (by simp[hy])]
def Tm.lM{k i:Int}{s:Ty}{l:List Tm}(h:(Tm.mk k i s l).ok=true):(k=1->l=[])/\0<=i/\(k≠1->i=0)/\(∀t∈l,t.ok=true)/\(l.length:Int)=gW k:=by
 rw[Tm.gX] at h;simp only[gJ,kZ,oU,Tm.node,sx] at h;obtain⟨⟨⟨⟨a,b⟩,c⟩,j⟩,d⟩:=h;refine⟨?_,b,λf=>c.resolve_left f,d,a⟩;rintro rfl;have:(l.length:Int)=0:=a;exact Cd VW
def Tm.O6{k i:Int}{s:Ty}{l:List Tm}(a:k≠1){f:Int}(h:(Tm.mk k i s l).fr<=f)(c:0<=f):∀x∈l,x.fr<=f+eT k:=by
 intro x b;have:=Tm.acr b 0;rw[Tm.fr,dK a] at h;unfold eT
 split at h
 .rename_i a;rw[dO a];rw[uh] at h;omega
 .rename_i a;rw[dK a];omega
def Tm.ad_(t:Tm):∀f b,t.ok=true->0<=f->t.fr<=f->t.up f b=t:=by
 induction t using Tm.ind with
 |h k i s l ih=>
  intro f b d j h;obtain⟨o1,o2,o,n,_⟩:=Tm.lM d;rw[Tm.fE]
  by_cases a:k=1
  .have:=o1 a;subst this;rw[Tm.fr,dO a] at h;rw[dK VW];rfl
  .rw[dK (λh=>a h.1)]
   congr 1
   exact map_id' λx c=>ih x c _ _ (n x c) (by have:=hV k;omega) (Tm.O6 a h j x c)
def Tm.Ee(t:Tm):∀f,t.up f 0=t:=by
 induction t using Tm.ind with
 |h k i s l ih=>
  intro f;rw[Tm.fE,map_id' λx a=>ih x a _]
  congr 1
  split<;>omega
def Tm.Y0(s t:Tm):∀n,t.ok=true->0<=n->t.fr<=n->Tm.gP n t s=t:=by
 induction t using Tm.ind with
 |h k i ty l ih=>
  intro n c hn h;obtain⟨o1,o2,f,d,_⟩:=Tm.lM c;rw[Tm.fN]
  by_cases a:k=1
  .rw[dO a];rw[Tm.fr,dO a] at h;unfold Tm.lz;rw[dK VW,dK VW]
  .rw[dK a]
   congr 1
   exact map_id' λx b=>ih x b _ (d x b) (by have:=hV k;omega) (Tm.O6 a h hn x b)
def By{α:Type}{g:α->Nat}{l:List α}(h:∀x∈l,g x=0):ee g l=0:=by
 induction l with
 |nil=>rfl|cons x l ih=>simp[ee,h x abm,ih λy hy=>h y (by simp[hy])]
def Tm.Tg(t:Tm):∀n,t.ok=true->0<=n->t.fr<=n->t.aox n=0:=by
 induction t using Tm.ind with
 |h k i ty l ih=>
  intro n c hn h;obtain⟨o1,o2,f,d,_⟩:=Tm.lM c;rw[Tm.fu]
  by_cases a:k=1
  .have:=o1 a;subst this;rw[Tm.fr,dO a] at h;rw[dK VW];rfl
  .rw[dK (λh=>a h.1)];simp only[vo];exact By λx b=>ih x b _ (d x b) (by have:=hV k;omega) (Tm.O6 a h hn x b)
def Tm.kd:Option Tm->Int
 |some t=>t.aop|none=>0
def Tm.root:Tm->Bool
 |.mk k _ _ l=>(decide (k=3)&&decide (Tm.kd l[0]?=2))||(decide (k=6)&&(decide (Tm.kd l[2]?=4)||decide (Tm.kd l[2]?=5)))||(decide (k=9)&&(decide (Tm.kd l[2]?=7)||decide (Tm.kd l[2]?=8)))||
  ((decide (k=11)||decide (k=12))&&decide (Tm.kd l[0]?=10))
mutual
def Tm.nf:Tm->Bool
 |.mk k i s l=>!(Tm.mk k i s l).root&&Tm.nfL l
def Tm.nfL:List Tm->Bool
 |[]=>true|t::l=>t.nf&&Tm.nfL l
end
def Tm.ah_(l:List Tm):Tm.nfL l=l.all Tm.nf:=by
 induction l with
 |nil=>rfl|cons t l ih=>simp[Tm.nfL,ih]
def Tm.RF(k i:Int)(s:Ty)(l:List Tm):(Tm.mk k i s l).nf=(!(Tm.mk k i s l).root&&l.all Tm.nf):=by rw[Tm.nf,Tm.ah_]
def kC(f:Tm):List Tm->Tm
 |[]=>f|a::l=>kC (.mk 3 0 (.mk 0 []) [f,a]) l
def Tm.fh:Tm->Tm
 |.mk k i s l=>
  if k=3 then(match l with|[.mk _ _ _ [b],a]=>Tm.gP 0 b a|_=>.mk k i s l)
  else if k=11 then(match l with|[.mk _ _ _ (a::_)]=>a|_=>.mk k i s l)
  else if k=12 then(match l with|[.mk _ _ _ [_,b]]=>b|_=>.mk k i s l)
  else(match l with
   |[b,st,.mk _ _ _ []]=>b|[b,st,.mk _ _ _ [n]]=>kC st [n,.mk k i s [b,st,n]]|[b,st,.mk _ _ _ [h,t]]=>kC st [h,t,.mk k i s [b,st,t]]|_=>.mk k i s l)
mutual
inductive NR (nh:List HC):Nat->Tm->Prop
 |mk {p:Nat} {x:eI} {l:List Tm}:HC.dX nh p=some x->vG nh x.aoq l->x.size=((Tm.mk x.aop x.aos x.p0 l).aor:Int)->x.free=(Tm.mk x.aop x.aos x.p0 l).fr->(x.normal=true->(Tm.mk x.aop x.aos x.p0 l).nf=true)->NR nh p (.mk x.aop x.aos x.p0 l)
inductive vG (nh:List HC):List (Option Nat)->List Tm->Prop
 |nil:vG nh [] []|cons {p:Nat} {t:Tm} {ps:List (Option Nat)} {ts:List Tm}:NR nh p t->vG nh ps ts->vG nh (some p::ps) (t::ts)
end
def NR.inv{nh:List HC}{p:Nat}{t:Tm}(h:NR nh p t):∃x,HC.dX nh p=some x/\x.aop=t.aop/\x.aos=t.aos/\x.p0=t.dM/\vG nh x.aoq t.aoq/\x.size=(t.aor:Int)/\x.free=t.fr/\(x.normal=true->t.nf=true):=by
 cases h with
 |mk a b c d f=>exact⟨_,a,rfl,rfl,rfl,b,c,d,f⟩
def NR.of{nh:List HC}{p:Nat}{t:Tm}{x:eI}(f:HC.dX nh p=some x)(a:x.aop=t.aop)(b:x.aos=t.aos)(c:x.p0=t.dM)(d:vG nh x.aoq t.aoq)(h:x.size=(t.aor:Int))(j:x.free=t.fr)
  (n:x.normal=true->t.nf=true):NR nh p t:=by
 cases t with
 |mk k i s l=>
  simp only[Tm.eD,Tm.gn,Tm.fx,Tm.ey] at a b c d;subst a;subst b;subst c;exact .mk f d h j n
def vG.len{nh:List HC}:∀{ps:List (Option Nat)} {ts:List Tm},vG nh ps ts->ps.length=ts.length
 |_,_,.nil=>rfl|_,_,.cons _ h=>by simp[h.len]
def vG.append{nh:List HC}:∀{ps a:List (Option Nat)} {ts us:List Tm},vG nh ps ts->vG nh a us->vG nh (ps++a) (ts++us)
 |_,_,_,_,.nil,h=>h|_,_,_,_,.cons b c,h=>.cons b (c.append h)
structure NE (nh nh':List HC):Prop where
 node:∀p t,NR nh p t->NR nh' p t
 state:∀p st,HC.fj nh p=some st->HC.fj nh' p=some st
 get:∀p x,HC.dX nh p=some x->∃b,HC.dX nh' p=some {x with normal:=b}
theorem NE.refl(nh:List HC):NE nh nh:=⟨λ_ _ h=>h,λ_ _ h=>h,λ_ x h=>⟨x.normal,h⟩⟩
def NE.trans{a b c:List HC}(d:NE a b)(f:NE b c):NE a c:=⟨λp t h=>f.node p t (d.node p t h),λp st h=>f.state p st (d.state p st h),λp x h=>by
 obtain⟨l,i⟩:=d.get p x h;obtain⟨j,k⟩:=f.get p _ i
 exact⟨j,k⟩⟩
def NE.list{nh a:List HC}(h:NE nh a):∀{ps:List (Option Nat)} {ts:List Tm},vG nh ps ts->vG a ps ts
 |_,_,.nil=>.nil|_,_,.cons b c=>.cons (h.node _ _ b) (h.list c)
def HT{nh X:List HC}{p:Nat}{x:eI}(h:HC.dX nh p=some x):HC.dX (nh++X) p=some x:=by
 have:=HC.ed h;have a:=(ru.1 this).1;unfold HC.dX;rw[uJ a,this]
def Lx{nh X:List HC}{p:Nat}{x:fT}(h:HC.fj nh p=some x):HC.fj (nh++X) p=some x:=by
 have:=HC.gH h;have a:=(ru.1 this).1;unfold HC.fj;rw[uJ a,this]
mutual
def NR.app{nh X:List HC}:∀{p:Nat} {t:Tm},NR nh p t->NR (nh++X) p t
 |_,_,.mk a b c d f=>.mk (HT a) b.app c d f
def vG.app{nh X:List HC}:∀{ps:List (Option Nat)} {ts:List Tm},vG nh ps ts->vG (nh++X) ps ts
 |_,_,.nil=>.nil|_,_,.cons a b=>.cons a.app b.app
end
def NE.kp{nh a:List HC}(h:Kp nh a):NE nh a:=by
 obtain⟨X,rfl⟩:=h;exact⟨λ_ _ h=>h.app,λ_ _ h=>Lx h,λp x h=>⟨x.normal,HT h⟩⟩
def Jx{a0 a1:Int}{a2:Ty}{a3:List (Option Nat)}{nh:List HC}{F:Int->Option Nat->List HC->Option (fp (List HC) ((Option Nat)×List HC))}
  (hF:∀j q v x y,HC.dX v nh.length=some x->HC.dX v q=some y->HC.dX (kB v nh.length (HC.eJ (eI.mk x.aop x.aos x.p0 x.aoq (eH .i64 x.size y.size) x.free x.normal))) q=some y->F j (some q) v=some (.next (kB (kB v nh.length (HC.eJ (eI.mk x.aop x.aos x.p0 x.aoq (eH .i64 x.size y.size) x.free x.normal))) nh.length (HC.eJ (eI.mk x.aop x.aos x.p0 x.aoq (eH .i64 x.size y.size) (imax x.free y.free) x.normal))))):∀(ps:List (Option Nat)) (ts:List Tm) (i:Nat) (s:Nat) (f:Int),vG nh ps ts->s+ee Tm.aor ts<=1000000000->fa F ps i (nh++[HC.eJ (eI.mk a0 a1 a2 a3 s f false)])=some (.inl (nh++[HC.eJ (eI.mk a0 a1 a2 a3 ((s+ee Tm.aor ts:Nat):Int) (Tm.Kz f ts) false)]))
 |_,_,i,s,f,.nil,_=>by simp[ee,Tm.Kz]|_,_,i,s,f,.cons (p:=p) (t:=t) c d,h=>by
  rw[ee] at h;obtain⟨y,b,o,r,u,w,k,l,A⟩:=c.inv;have n:p<nh.length:=(ru.1 (HC.ed b)).1
  have a:eH .i64 (s:Int) (t.aor:Int)=((s+t.aor:Nat):Int):=by rw[e9 VW VW];omega
  rw[eV,hF _ p _ _ y EG (HT b) (by rw[xW];exact HT b)];simp only[xW,dI,eQ,k,l,a];rw[Jx hF _ _ (i+1) (s+t.aor) (imax f t.fr) d VW];simp only[ee,Tm.Kz,aaX]
def sW{k i:Int}{s:Ty}{ps:List (Option Nat)}{ts:List Tm}{nh:List HC}(h:vG nh ps ts)(hn:ee Tm.aor ts<=100000000)(hi:0<=i/\i<=1000000000000)(A:∀t∈ts,0<=t.fr/\t.fr<=1000000000000):∃l,ku k i s ps nh=some (some nh.length,l)/\Kp nh l/\NR l nh.length (.mk k i s ts):=by
 have hlen:ps.length<=100000000:=by
  rw[h.len];exact z8 (Tm.fA ts) hn
 have D:0<=Tm.Kz 0 ts/\Tm.Kz 0 ts<=1000000000000:=⟨Tm.T1 ts 0,Tm.aba (λt G=>(A t G).2) 0 VW⟩;unfold ku;rw[ei VW];simp only[dU,dY]
 have B:=Jx (a0:=k) (a1:=i) (a2:=s) (a3:=ps) (nh:=nh) (F:=λC o b=>
   dH (HC.dX b (List.length nh)) λa=>
   dH (o) λd=>
   dH (HC.dX b d) λc=>
   dH (HC.dX (kB b (List.length nh) (HC.eJ (eI.mk a.aop a.aos a.p0 a.aoq (eH .i64 a.size c.size) a.free a.normal))) d) λr=>
   some (.next (kB (kB b (List.length nh) (HC.eJ (eI.mk a.aop a.aos a.p0 a.aoq (eH .i64 a.size c.size) a.free a.normal))) (List.length nh) (HC.eJ (eI.mk a.aop a.aos a.p0 a.aoq (eH .i64 a.size c.size) (imax a.free r.free) a.normal)))))
  (by intro j q v x y u w H;simp only[u,w,H,dI]) ps ts 0 1 0 h VW
 have I:((1:Nat):Int)=1:=rfl;rw[I] at B;rw[B];simp only[dI,ew,EG,xW]
 have n:((1+ee Tm.aor ts:Nat):Int)=((Tm.mk k i s ts).aor:Int):=by rw[Tm.dL]
 have fin:∀f:Int,f=(Tm.mk k i s ts).fr->NR (nh++[HC.eJ (eI.mk k i s ps ((1+ee Tm.aor ts:Nat):Int) f false)]) nh.length (.mk k i s ts):=by
  intro f A;exact NR.of EG rfl rfl rfl h.app n A (by intro h;cases h)
 by_cases u:k=1
 .subst u;refine⟨_,by rw[dO aal],⟨_,rfl⟩,fin _ ?_⟩;rw[Tm.fr,dO rfl,e9 VW VW]
 .rw[dK (by simpa using u)]
  by_cases w:k=2
  .subst w;refine⟨_,by rw[dO aal],⟨_,rfl⟩,fin _ ?_⟩;rw[Tm.fr,dK aal,dO rfl,fF VW VW]
  .refine⟨_,by rw[dK (by simpa using w)],⟨_,rfl⟩,fin _ ?_⟩;rw[Tm.fr,dK u,dK w]
def abl{nh:List HC}{p:Nat}{x:eI}(h:HC.dX nh p=some x):iT (some p) nh=some (eT x.aop):=by
 unfold iT eT;simp only[dI,h,gi]
 split<;>rfl
def NE.below{nh a:List HC}{p:Nat}{x:eI}(he:NE nh a)(h:HC.dX nh p=some x):iT (some p) a=some (eT x.aop):=by
 obtain⟨b,e⟩:=he.get p x h;rw[abl e]
def Du{F:Int->Option Nat->List (Option Nat)×List HC->Option (fp (List (Option Nat)×List HC) ((Option Nat)×List HC))}(g:Tm->Tm)(nh0:List HC):∀(ts:List Tm)
  (_:∀t∈ts,∀p nh j v,Kp nh0 nh->NR nh p t->v.length+1<=1000000000->∃q a,F j (some p) (v,nh)=some (.next (v++[some q],a))/\Kp nh a/\NR a q (g t))
  (ps:List (Option Nat)) (i:Nat) (nh:List HC) (v:List (Option Nat)) (us:List Tm),Kp nh0 nh->vG nh ps ts->vG nh v us->v.length+ts.length<=1000000000->∃c a,fa F ps i (v,nh)=some (.inl (c,a))/\Kp nh a/\vG a c (us++ts.map g)
 |[],_,_,i,nh,v,us,_,.nil,d,_=>⟨v,nh,rfl,Kp.refl _,by simpa using d⟩|t::ts,hF,_,i,nh,v,us,k,.cons (p:=p) (ps:=ps) l n,d,o=>by
  simp only[kY] at o;obtain⟨q,f,r,h,s⟩:=hF t abm p nh i v k l VW;have b:=NE.kp h;obtain⟨c,a,f1,f2,f3⟩:=Du g nh0 ts (λt u=>hF t (by simp[u])) ps (i+1) f (v++[some q]) (us++[g t]) (k.trans h) (b.list n) ((b.list d).append (.cons s .nil)) abv;refine⟨c,a,?_,h.trans f2,by simpa using f3⟩;rw[eV,r];simp only[dI,eQ];exact f1
structure Sm (M:Int) (t:Tm):Prop where
 ok:t.ok=true
 aov:t.aov M=true
 aor:t.aor<=1000000
def Sm.arg{M k i:Int}{s:Ty}{l:List Tm}(h:Sm M (.mk k i s l)):∀t∈l,Sm M t:=by
 intro t a;have b:=h.aov;have c:=h.aor;rw[Tm.fo] at b;simp only[gJ,kZ] at b;rw[Tm.dL] at c;exact⟨(Tm.lM h.ok).2.2.2.1 t a,b.2 t a,by have:=eu Tm.aor a;omega⟩
def Sm.idx{M k i:Int}{s:Ty}{l:List Tm}(h:Sm M (.mk k i s l)):0<=i/\i<=M:=by
 have a:=h.aov;rw[Tm.fo] at a;simp only[gJ,oU] at a;exact⟨(Tm.lM h.ok).2.1,a.1⟩
theorem Sm.fr{M:Int}{t:Tm}(h:Sm M t)(a:0<=M):0<=t.fr/\t.fr<=M+1:=Tm.aar t a h.ok h.aov
theorem Sm.mono{M N:Int}{t:Tm}(h:Sm M t)(hm:M<=N):Sm N t:=⟨h.ok,by
 have:∀t:Tm,t.aov M=true->t.aov N=true:=by
  intro t
  induction t using Tm.ind with
  |h k i s l ih=>
   rw[Tm.fo,Tm.fo];simp only[gJ,kZ,oU]
   exactλ⟨c,b⟩=>⟨VW,λx a=>ih x a (b x a)⟩
 exact this t h.aov,h.aor⟩
def RX{M b:Int}(c:0<=b)(t:Tm):∀f,t.aov M=true->(t.up f b).aov (M+b)=true:=by
 induction t using Tm.ind with
 |h k i s l ih=>
  intro f h;rw[Tm.fo] at h;simp only[gJ,kZ,oU] at h;rw[Tm.fE,Tm.fo];simp only[gJ,kZ,oU];refine⟨by split<;>omega,?_⟩;intro x a;obtain⟨y,hy,rfl⟩:=ql.1 a;exact ih y hy _ (h.2 y hy)
def Sm.up{M f b:Int}{t:Tm}(h:Sm M t)(c:0<=f)(a:0<=b):Sm (M+b) (t.up f b):=
 ⟨by rw[Tm.J3 t f b c a];exact h.ok,RX a t f h.aov,by rw[Tm.kJ];exact h.aor⟩
def aec{M:Int}(Z:0<=M/\M<=500000000000):∀(n:Nat) (t:Tm) (p:Nat) (nh:List HC) (f b:Int),t.aor<=n->NR nh p t->Sm M t->0<=f->f+t.aor<=500000000000->0<=b->b<=400000000000->∃V a,js n (some p) f b nh=some (some V,a)/\Kp nh a/\NR a V (t.up f b):=by
 intro n
 induction n with
 |zero=>intro t p nh f b h;have:=t.eF;omega
 |succ n ih=>
  intro t p nh f b hn C hs hf D W G;obtain⟨x,H,u,I,J,K,e6,e7,e8⟩:=C.inv;have ad:=hs.fr Z.1;rw[js];simp only[dY,dI,H,e7,HU]
  by_cases A:t.fr<=f
  .rw[dO A];exact⟨p,nh,rfl,Kp.refl _,by rw[Tm.ad_ t f b hs.ok hf A];exact C⟩
  .rw[dK A]
   by_cases X:b=0
   .subst X;exact⟨p,nh,abm,Kp.refl _,by rw[Tm.Ee];exact C⟩
   .rw[dK (by simpa using X)];cases t with
    |mk k i s l=>
     simp only[Tm.eD,Tm.gn,Tm.fx,Tm.ey] at u I J K;have Y:=hs.idx;obtain⟨o1,o2,o3,o4,o5⟩:=Tm.lM hs.ok
     by_cases L:k=1
     .subst L;have hl:=o1 rfl;subst hl;rw[dO (by rw[u];rfl)]
      have N:f<=i:=by rw[Tm.fr,dO rfl] at A;omega
      obtain⟨a,g1,g2,g3⟩:=sW (k:=1) (i:=i+b) (s:=s) (ps:=[]) (ts:=[]) (nh:=nh) .nil (by simp[ee]) VW abm;refine⟨nh.length,a,?_,g2,?_⟩
      .rw[u,I,J,e9 VW VW,g1];rfl
      .rw[Tm.fE,dO ⟨rfl,N⟩];exact g3
     .rw[dK (by rw[u];simpa using L)]
      have ae:1+ee Tm.aor l<=n+1:=by rw[Tm.dL] at hn;exact hn
      have hlen:=Tm.fA l;have O:=hs.aor;rw[Tm.dL] at O D;have af:x.aoq.length=l.length:=K.len;rw[ei VW];simp only[dU];have ah:=hV k
      obtain⟨v',a,g1,g2,g3⟩:=Du (F:=λj P=>re λc d=>
        dH (iT (some p) d) λw=>
        dR (js n P (eH .i64 f w) b d) λo r=>
        gq (fM c [o])<|some (.next ((fW c [o]),r))) (Tm.up (f+eT k) b) nh l (by
        intro t B q Q j v R hq hv;have S:=hs.arg t B;have hm:=eu Tm.aor B;obtain⟨q',T,a1,a2,a3⟩:=ih t q Q (f+eT k) b VW hq S VW VW W G;refine⟨q',T,?_,a2,a3⟩;simp only[iB,(NE.kp R).below H,dI,u];rw[e9 VW VW,a1];simp only[dP];rw[fk (by simpa using hv)]
        rfl) x.aoq 0 nh [] [] (Kp.refl _) K .nil abv
      rw[g1];simp only[dI,ew,iB];obtain⟨x2,c1⟩:=(NE.kp g2).get p x H;unfold gE;simp only[dI,c1]
      obtain⟨U,d1,d2,d3⟩:=sW (k:=k) (i:=i) (s:=s) (ps:=v') (ts:=l.map (Tm.up (f+eT k) b)) (nh:=a) (by simpa using g3) (by
       rw[lH,pd λx _=>Tm.kJ x _ _];omega) VW (by
       intro t B;obtain⟨y,hy,rfl⟩:=ql.1 B;have:=((hs.arg y hy).up (f:=f+eT k) (b:=b) VW W).fr VW
       omega)
      refine⟨a.length,U,?_,g2.trans d2,?_⟩
      .rw[u,I,J,d1];rfl
      .rw[Tm.fE,dK (λh=>L h.1)];exact d3
def count_eq{M:Int}(T:0<=M/\M<=500000000000)(nh:List HC):∀(n:Nat) (t:Tm) (p:Nat) (a:Int),t.aor<=n->NR nh p t->Sm M t->0<=a->a+t.aor<=500000000000->kv n (some p) a nh=some (t.aox a:Int):=by
 intro n
 induction n with
 |zero=>intro t p a h;have:=t.eF;omega
 |succ n ih=>
  intro t p a hn H hs I v;obtain⟨x,D,q,F,J,w,U,K,V⟩:=H.inv;rw[kv];simp only[dI,D,K,HU]
  by_cases y:t.fr<=a
  .rw[dO y,Tm.Tg t a hs.ok I y];rfl
  .rw[dK y];cases t with
   |mk k i s l=>
    simp only[Tm.eD,Tm.gn,Tm.fx,Tm.ey] at q F J w;obtain⟨o1,o2,W,X,Y⟩:=Tm.lM hs.ok
    by_cases A:k=1
    .subst A;have L:=o1 rfl;subst L;rw[dO (by rw[q];rfl),Tm.fu,F];simp only[gi,ee]
     by_cases r:i=a
     .rw[dO r,dO ⟨trivial,r⟩];rfl
     .rw[dK r,dK (λh=>r h.2)];rfl
    .rw[dK (by rw[q];simpa using A)];have B:=hs.aor;rw[Tm.dL] at B v hn;have hlen:=Tm.fA l;have N:x.aoq.length=l.length:=w.len;rw[ei VW];simp only[dU,dY];have O:=hV k
     have loop:∀(ts:List Tm) (ps:List (Option Nat)) (i c:Nat),(∀t∈ts,t∈l)->vG nh ps ts->c+ee Tm.aor ts<=1000000000->fa (λ(G:Int) (b:Option Nat)=>(λ(d:Int)=>
        dH (kv n b (a+eT k) nh) λf=>
        some ((.next (eH .i64 d f)):fp Int Int))) ps i (c:Int)=some (.inl ((c+ee (Tm.aox (a+eT k)) ts:Nat):Int)):=by
      intro ts
      induction ts with
      |nil=>intro ps i c _ h _;cases h;rfl
      |cons t ts C=>
       intro ps i c hm h P;cases h with
       |cons q1 Q=>
        rw[ee] at P;have j:=hm t abm;have R:=eu Tm.aor j;have S:=Tm.iZ t (a+eT k);rw[eV];rw[ih t _ _ VW q1 (hs.arg t j) VW VW];simp only[dI];rw[e9 VW VW];simp only[eQ];have:=C _ (i+1) (c+t.aox (a+eT k)) (λu hu=>hm u (by simp[hu])) Q VW;rw[show((c+t.aox (a+eT k):Nat):Int)=(c:Int)+(t.aox (a+eT k):Int) by omega] at this;rw[this];simp only[ee,aaX]
     have:=loop l x.aoq 0 0 (λt h=>h) w VW;rw[show((0:Nat):Int)=0 from rfl] at this;have o:eH .i64 a (eT k)=a+eT k:=e9 VW VW;simp only[abl D,dI,q,o];rw[this];simp only[dI,ew,vo];rw[Tm.fu,dK (λh=>A h.1),vo]
def MA{M N B:Int}(D:M<=B)(s:Tm)(hs:s.aov N=true)(t:Tm):∀n,0<=n->N+n+t.aor<=B->t.aov M=true->t.ok=true->(Tm.gP n t s).aov B=true:=by
 induction t using Tm.ind with
 |h k i ty l ih=>
  intro n hn j d v;have o:=d;rw[Tm.fo] at d;simp only[gJ,kZ,oU] at d;obtain⟨o1,o2,F,w,G⟩:=Tm.lM v;rw[Tm.fN]
  have c:∀(u:Tm) {a b:Int},a<=b->u.aov a=true->u.aov b=true:=by
   intro u
   induction u using Tm.ind with
   |h k i s l ih=>
    intro a b q;rw[Tm.fo,Tm.fo];simp only[gJ,kZ,oU]
    exactλ⟨H,A⟩=>⟨VW,λx f=>ih x f q (A x f)⟩
  have I:1<=(Tm.mk k i ty l).aor:=Tm.eF _
  by_cases r:k=1
  .rw[dO r];unfold Tm.lz
   split
   .exact c _ VW (RX hn s 0 hs)
   .split
    .rw[Tm.fo];simp;omega
    .exact c _ VW o
  .rw[dK r,Tm.fo];simp only[gJ,kZ,oU];refine⟨VW,?_⟩;intro x f;obtain⟨y,hy,rfl⟩:=ql.1 f;have C:=hV k;have hm:=eu Tm.aor hy;rw[Tm.dL] at j;exact ih y hy (n+eT k) VW VW (d.2 y hy) (w y hy)
def put_eq{M N:Int}(hM:0<=M/\M<=100000000000)(hN:0<=N/\N<=100000000000)(s:Tm)(d:Sm N s):∀(n:Nat) (t:Tm) (p q:Nat) (nh:List HC) (a:Int),t.aor<=n->NR nh p t->NR nh q s->Sm M t->0<=a->a+t.aor<=100000000000->t.aor+t.aox a*s.aor<=100000000->∃K b,jT n (some p) a (some q) nh=some (some K,b)/\Kp nh b/\NR b K (Tm.gP a t s):=by
 intro n
 induction n with
 |zero=>intro t p q nh a h;have:=t.eF;omega
 |succ n ih=>
  intro t p q nh a hn hr hq hs ha O D;obtain⟨x,P,C,Q,R,S,e6,e7,e8⟩:=hr.inv;rw[jT];simp only[dI,P,e7,HU]
  by_cases A:t.fr<=a
  .rw[dO A];exact⟨p,nh,rfl,Kp.refl _,by rw[Tm.Y0 s t a hs.ok ha A];exact hr⟩
  .rw[dK A];cases t with
   |mk k i ty l=>
    simp only[Tm.eD,Tm.gn,Tm.fx,Tm.ey] at C Q R S;have ae:=hs.idx;obtain⟨o1,o2,o3,T,o5⟩:=Tm.lM hs.ok
    by_cases L:k=1
    .subst L;have hl:=o1 rfl;subst hl
     have af:a<=i:=by rw[Tm.fr,dO rfl] at A;omega
     rw[dO (by rw[C];rfl),Q];simp only[gi];rw[Tm.fN,dO rfl];unfold Tm.lz
     by_cases f:i=a
     .rw[dO f,dO f];have G:=d.aor;obtain⟨K,b,g1,g2,g3⟩:=aec (M:=N) VW FU s q nh 0 a (by rw[fl];omega) hq d VW VW ha VW;exact⟨K,b,by rw[g1];rfl,g2,g3⟩
     .rw[dK f,dK f,dO VW];obtain⟨b,g1,g2,g3⟩:=sW (k:=1) (i:=i-1) (s:=ty) (ps:=[]) (ts:=[]) (nh:=nh) .nil (by simp[ee]) VW abm;refine⟨nh.length,b,?_,g2,?_⟩
      .rw[C,R,fF VW VW,g1];rfl
      .have hz:ty=.mk 0 []:=by
        have:=hs.ok;rw[Tm.gX] at this;simp only[gJ,Tm.node] at this
        have h4:ty.rj=true:=by simpa[j_] using this.1.2
        exact(Ty.mB ty).1 h4
       rw[<-hz];exact g3
    .rw[dK (by rw[C];simpa using L)];have G:=hs.aor;rw[Tm.dL] at G O hn;have hlen:=Tm.fA l;have ah:x.aoq.length=l.length:=S.len;rw[ei VW];simp only[dU,dY];have ai:=hV k;rw[Tm.fu,dK (λh=>L h.1),vo,Tm.dL] at D
     have U:∀t∈l,t.aor+t.aox (a+eT k)*s.aor<=100000000:=by
      intro t c;have A:=eu Tm.aor c;have f:=eu (Tm.aox (a+eT k)) c;have h3:=Ki s.aor f;omega
     obtain⟨v',b,g1,g2,g3⟩:=Du (F:=λj V=>re λo u=>
       dH (iT (some p) u) λH=>
       dR (jT n V (eH .i64 a H) (some q) u) λw B=>
       gq (fM o [w])<|some (.next ((fW o [w]),B))) (λt=>Tm.gP (a+eT k) t s) nh l (by
       intro t c r W j v I X hv;have Y:=hs.arg t c;have hm:=eu Tm.aor c;obtain⟨q',Z,a1,a2,a3⟩:=ih t r q W (a+eT k) VW X ((NE.kp I).node _ _ hq) Y VW VW (U t c);refine⟨q',Z,?_,a2,a3⟩;simp only[iB,(NE.kp I).below P,dI,C];rw[e9 VW VW,a1];simp only[dP];rw[fk (by simpa using hv)]
       rfl) x.aoq 0 nh [] [] (Kp.refl _) S .nil abv
     rw[g1];simp only[dI,ew,iB];obtain⟨x2,c1⟩:=(NE.kp g2).get p x P;unfold gE;simp only[dI,c1]
     have J:∀t∈l,(Tm.gP (a+eT k) t s).aor<=t.aor+t.aox (a+eT k)*s.aor:=by
      intro t c;have:=Tm.r6 s t (a+eT k) (T t c);omega
     obtain⟨ad,d1,d2,d3⟩:=sW (k:=k) (i:=i) (s:=ty) (ps:=v') (ts:=l.map (λt=>Tm.gP (a+eT k) t s)) (nh:=b) (by simpa using g3) (by
      rw[lH];have A:=kI J
      have f:∀l:List Tm,ee (λt=>t.aor+t.aox (a+eT k)*s.aor) l=ee Tm.aor l+ee (Tm.aox (a+eT k)) l*s.aor:=by
       intro l
       induction l with
       |nil=>simp[ee]|cons t l ih=>simp only[ee,ih,Ce];omega
      rw[f] at A
      omega) VW (by
      intro t c;obtain⟨y,hy,rfl⟩:=ql.1 c;have hm:=eu Tm.aor hy;have:=Tm.aar (Tm.gP (a+eT k) y s) (M:=M+N+(a+eT k)+y.aor) VW (Tm.Jp s d.ok y _ VW (T y hy)) (MA (M:=M) VW s d.aov y _ VW VW (hs.arg y hy).aov (T y hy))
      omega)
     refine⟨b.length,ad,?_,g2.trans d2,?_⟩
     .rw[C,Q,R,d1];rfl
     .rw[Tm.fN,dK L];exact d3
def vd(a b:Int):eo a b=decide (a=b):=by grind[eo]
def agT{α:Type}{l:List α}(h:l.length=1):∃a,l=[a]:=by
 match l,h with|[a],_=>exact⟨a,rfl⟩
def ahW{α:Type}{l:List α}(h:l.length=2):∃a b,l=[a,b]:=by
 match l,h with|[a,b],_=>exact⟨a,b,rfl⟩
def ajD{α:Type}{l:List α}(h:l.length=3):∃a b c,l=[a,b,c]:=by
 match l,h with|[a,b,c],_=>exact⟨a,b,c,rfl⟩
def vG.inv1{nh:List HC}{ps:List (Option Nat)}{a:Tm}(h:vG nh ps [a]):∃p,ps=[some p]/\NR nh p a:=by
 cases h with|cons b c=>cases c;exact⟨_,rfl,b⟩
def vG.inv2{nh:List HC}{ps:List (Option Nat)}{a b:Tm}(h:vG nh ps [a,b]):∃p q,ps=[some p,some q]/\NR nh p a/\NR nh q b:=by
 cases h with|cons c d=>obtain⟨q,rfl,f⟩:=d.inv1;exact⟨_,q,rfl,c,f⟩
def vG.Qx{nh:List HC}{ps:List (Option Nat)}{a b c:Tm}(h:vG nh ps [a,b,c]):∃p q r,ps=[some p,some q,some r]/\NR nh p a/\NR nh q b/\NR nh r c:=by
 cases h with|cons d f=>obtain⟨q,r,rfl,i,j⟩:=f.inv2;exact⟨_,q,r,rfl,d,i,j⟩
def vG.ady{nh:List HC}{ps:List (Option Nat)}(h:vG nh ps []):ps=[]:=by cases h;rfl
def Tm.sQ{k i:Int}{s:Ty}{l:List Tm}(h:(Tm.mk k i s l).ok=true):(l.length:Int)=gW k:=(Tm.lM h).2.2.2.2
def Tm.ok3{i:Int}{s:Ty}{l:List Tm}(h:(Tm.mk 3 i s l).ok=true):∃a b,l=[a,b]:=ahW (by have:=Tm.sQ h;have e:gW 3=2:=rfl;omega)
def Tm.ok6{i:Int}{s:Ty}{l:List Tm}(h:(Tm.mk 6 i s l).ok=true):∃a b c,l=[a,b,c]:=ajD (by have:=Tm.sQ h;have e:gW 6=3:=rfl;omega)
def Tm.ok9{i:Int}{s:Ty}{l:List Tm}(h:(Tm.mk 9 i s l).ok=true):∃a b c,l=[a,b,c]:=ajD (by have:=Tm.sQ h;have e:gW 9=3:=rfl;omega)
def Tm.ok2{i:Int}{s:Ty}{l:List Tm}(h:(Tm.mk 2 i s l).ok=true):∃a,l=[a]:=agT (by have:=Tm.sQ h;have e:gW 2=1:=rfl;omega)
def Tm.agG{k i:Int}{s:Ty}{l:List Tm}(b:k=11\/k=12)(h:(Tm.mk k i s l).ok=true):∃a,l=[a]:=agT (by
 have:=Tm.sQ h;rcases b with rfl|rfl
 .have e:gW 11=1:=rfl;omega
 .have e:gW 12=1:=rfl;omega)
def Tm.ajr{i:Int}{s:Ty}{l:List Tm}(h:(Tm.mk 10 i s l).ok=true):∃a b,l=[a,b]:=ahW (by have:=Tm.sQ h;have e:gW 10=2:=rfl;omega)
def Tm.ok0{k i:Int}{s:Ty}{l:List Tm}(a:k=4\/k=7)(h:(Tm.mk k i s l).ok=true):l=[]:=Cd (by
 have:=Tm.sQ h;rcases a with rfl|rfl
 .have e:gW 4=0:=rfl;omega
 .have e:gW 7=0:=rfl;omega)
def Tm.ok5{i:Int}{s:Ty}{l:List Tm}(h:(Tm.mk 5 i s l).ok=true):∃a,l=[a]:=agT (by have:=Tm.sQ h;have e:gW 5=1:=rfl;omega)
def Tm.ok8{i:Int}{s:Ty}{l:List Tm}(h:(Tm.mk 8 i s l).ok=true):∃a b,l=[a,b]:=ahW (by have:=Tm.sQ h;have e:gW 8=2:=rfl;omega)
theorem Tm.ez{k i:Int}{s:Ty}{l:List Tm}(h:(Tm.mk k i s l).ok=true):∀t∈l,t.ok=true:=(Tm.lM h).2.2.2.1
inductive Tm.Rd:Tm->Prop
 |app {i s i' s' b a}:Tm.Rd (.mk 3 i s [.mk 2 i' s' [b],a])|zero {k ko i s i' s' b st}:(k=6/\ko=4\/k=9/\ko=7)->Tm.Rd (.mk k i s [b,st,.mk ko i' s' []])|succ {i s i' s' b st n}:Tm.Rd (.mk 6 i s [b,st,.mk 5 i' s' [n]])|cons {i s i' s' b st h t}:Tm.Rd (.mk 9 i s [b,st,.mk 8 i' s' [h,t]])|proj {k i s i' s' a b}:(k=11\/k=12)->Tm.Rd (.mk k i s [.mk 10 i' s' [a,b]])
def Tm.GF{t:Tm}(d:t.ok=true)(h:t.root=true):t.Rd:=by
 cases t with
 |mk k i s l=>
  unfold Tm.root at h;simp only[sx,gJ,oU] at h;rcases h with((⟨rfl,h⟩|⟨rfl,h⟩)|⟨rfl,h⟩)|⟨f,h⟩
  .obtain⟨a,b,rfl⟩:=Tm.ok3 d;cases a with
   |mk k' j o q=>
    have f:k'=2:=by simpa[Tm.kd] using h
    subst f;obtain⟨v,rfl⟩:=Tm.ok2 (Tm.ez d (.mk 2 j o q) abm);exact .app
  .obtain⟨a,b,c,rfl⟩:=Tm.ok6 d;cases c with
   |mk k' j o q=>
    have f:k'=4\/k'=5:=by simpa[Tm.kd] using h
    have r:=Tm.ez d (.mk k' j o q) abm;rcases f with rfl|rfl
    .rw[Tm.ok0 (.inl rfl) r];exact .zero (.inl ⟨rfl,rfl⟩)
    .obtain⟨n,rfl⟩:=Tm.ok5 r;exact .succ
  .obtain⟨a,b,c,rfl⟩:=Tm.ok9 d;cases c with
   |mk k' j o q=>
    have f:k'=7\/k'=8:=by simpa[Tm.kd] using h
    have r:=Tm.ez d (.mk k' j o q) abm;rcases f with rfl|rfl
    .rw[Tm.ok0 (.inr rfl) r];exact .zero (.inr ⟨rfl,rfl⟩)
    .obtain⟨n,m,rfl⟩:=Tm.ok8 r;exact .cons
  .obtain⟨a,rfl⟩:=Tm.agG f d;cases a with
   |mk k' j o q=>
    have u:k'=10:=by simpa[Tm.kd] using h
    subst u;obtain⟨a,b,rfl⟩:=Tm.ajr (Tm.ez d (.mk 10 j o q) abm);exact .proj f
def P6{nh:List HC}{p:Nat}{t:Tm}(B:NR nh p t)(o:t.ok=true):mD (some p) nh=some t.root:=by
 obtain⟨x,C,r,F,G,h,H,I,J⟩:=B.inv;unfold mD;simp only[dI,C,dY];cases t with
 |mk k i s l=>
  simp only[Tm.eD,Tm.ey] at r h;rw[r];unfold Tm.root
  by_cases u:k=3
  .subst u;obtain⟨a,b,rfl⟩:=Tm.ok3 o;obtain⟨pa,pb,d,j,v⟩:=h.inv2;obtain⟨y,f1,f2,_⟩:=j.inv;rw[dO aal,d];simp[eO,f1,f2,Tm.kd,vd]
  .rw[dK (by simpa using u)]
   by_cases w:k=6
   .subst w;obtain⟨a,b,c,rfl⟩:=Tm.ok6 o;obtain⟨pa,pb,D,d,j,v,q⟩:=h.Qx;obtain⟨y,f1,f2,_⟩:=q.inv;rw[dO aal,d];simp only[jk,nJ,jW,dI,f1,f2,Tm.kd,gi]
    by_cases n:c.aop=4
    .simp[n]
    .simp[n,vd]<;>exact TX.2 Iff.rfl
   .rw[dK (by simpa using w)]
    by_cases A:k=9
    .subst A;obtain⟨a,b,c,rfl⟩:=Tm.ok9 o;obtain⟨pa,pb,D,d,j,v,q⟩:=h.Qx;obtain⟨y,f1,f2,_⟩:=q.inv;rw[dO aal,d];simp only[jk,nJ,jW,dI,f1,f2,Tm.kd,gi]
     by_cases n:c.aop=7
     .simp[n]
     .simp[n,vd]<;>exact TX.2 Iff.rfl
    .rw[dK (by simpa using A)]
     by_cases f:k=11\/k=12
     .obtain⟨a,rfl⟩:=Tm.agG f o;obtain⟨pa,d,j⟩:=h.inv1;obtain⟨y,f1,f2,_⟩:=j.inv;rw[dO (by rcases f with rfl|rfl<;>rfl),d];simp only[eO,jW,dI,f1,f2,Tm.kd];rcases f with rfl|rfl<;>simp[vd]<;>exact TX.2 Iff.rfl
     .grind[lW,gi]
theorem pc:∀(l:List Tm) (f:Tm),(kC f l).aor=f.aor+ee Tm.aor l+l.length
 |[],f=>by simp[kC,ee]|a::l,f=>by
  rw[kC,pc l,Tm.dL]
  grind[ee]
def Ni{M:Int}(G:0<=M/\M<=500000000000):∀(ts:List Tm) (ps:List (Option Nat)) (nh:List HC) (b:Nat) (f:Tm),vG nh ps ts->NR nh b f->(∀t∈ts,0<=t.fr/\t.fr<=M)->0<=f.fr/\f.fr<=M->f.aor+ee Tm.aor ts+ts.length<=10000000->∃c a,sn (some b) ps nh=some (some c,a)/\Kp nh a/\NR a c (kC f ts):=by
 intro ts ps nh b f j l d n hn;have hlen:ps.length=ts.length:=j.len;unfold sn;rw[ei VW];simp only[dU,dY]
 have loop:∀(ts:List Tm) (ps:List (Option Nat)) (i:Nat) (nh:List HC) (b:Nat) (f:Tm),vG nh ps ts->NR nh b f->(∀t∈ts,0<=t.fr/\t.fr<=M)->0<=f.fr/\f.fr<=M->f.aor+ee Tm.aor ts+ts.length<=10000000->∃c a,fa (λ(y:Int) (v:Option Nat)=>(re λ(v171:Option Nat) (o:List HC)=>
    dR (ku 3 0 (Ty.mk 0 []) [v171,v] o) λq h=>some ((.next (q,h)):fp ((Option Nat)×List HC) ((Option Nat)×List HC)))) ps i (some b,nh)=some (.inl (some c,a))/\Kp nh a/\NR a c (kC f ts):=by
  intro ts
  induction ts with
  |nil=>
   intro ps i nh b f j l _ _ _;cases j;exact⟨b,nh,rfl,Kp.refl _,l⟩
  |cons t ts ih=>
   intro ps i nh b f j l d n hn;cases j with
   |cons A B=>
    rename_i p ps;simp only[ee,kY] at hn;have H:=d t abm
    obtain⟨w,a1,a2,a3⟩:=sW (k:=3) (i:=0) (s:=.mk 0 []) (ps:=[some b,some p]) (ts:=[f,t]) (nh:=nh) (.cons l (.cons A .nil)) (by simp[ee];omega) VW (by
     intro u hu;simp only[kX,ry,pM] at hu
     rcases hu with rfl|rfl<;>omega)
    have x:=NE.kp a2
    have r:0<=(Tm.mk 3 0 (.mk 0 []) [f,t]).fr/\(Tm.mk 3 0 (.mk 0 []) [f,t]).fr<=M:=by grind[Tm.fr,Tm.Kz,uh]
    obtain⟨c,a,C,D,F⟩:=ih ps (i+1) w nh.length (.mk 3 0 (.mk 0 []) [f,t]) (x.list B) a3 (λu hu=>d u (by simp[hu])) r (by
     rw[Tm.dL];simp only[ee];omega)
    refine⟨c,a,?_,a2.trans D,F⟩;rw[eV];simp only[iB,a1,dP,dI,eQ];exact C
 obtain⟨c,a,a1,a2,a3⟩:=loop ts ps 0 nh b f j l d n hn;rw[a1];exact⟨c,a,rfl,a2,a3⟩
def TU{α:Type}(a:α):dW [a] (fD .i64 (eE [a]) 1)=some a:=by
 have:fD .i64 (eE [a]) 1=0:=by simp only[fV,kY,wZ];decide
 rw[this];rfl
def TN{α:Type}(a b:α):dW [a,b] (fD .i64 (eE [a,b]) 1)=some b:=by
 have:fD .i64 (eE [a,b]) 1=1:=by simp only[fV,kY,wZ];decide
 rw[this];rfl
def GN{M:Int}(hM:0<=M/\M<=90000000000){nh:List HC}{p:Nat}{t:Tm}(hr:NR nh p t)(hs:Sm M t)(hn:t.aor<=8192)(K:t.root=true):∃W q,iX (some p) nh=some (some W,q)/\Kp nh q/\NR q W t.fh:=by
 have Z:=Tm.GF hs.ok K;obtain⟨x,e1,l,X,Y,C,e6,e7,e8⟩:=hr.inv;unfold iX;simp only[dI,e1];have f:∀u:Tm,Sm M u->0<=u.fr/\u.fr<=M+1:=λu hu=>hu.fr hM.1;cases Z with
 |app=>
  rename_i i s D F b a;simp only[Tm.eD,Tm.ey] at l C;obtain⟨pf,pa,G,hf,ha⟩:=C.inv2;obtain⟨y,f1,f2,f3,f4,f5,_⟩:=hf.inv;simp only[Tm.eD,Tm.ey] at f2 f5;obtain⟨pb,H,I⟩:=f5.inv1;have ad:=hs.arg (.mk 2 D F [b]) abm;have ae:=hs.arg a abm;have r:=ad.arg b abm;rw[Tm.dL] at hn;simp only[ee,Tm.dL] at hn;have an:=Tm.iZ b 0;have hmul:b.aox 0*a.aor<=8192*8192:=Oa VW VW;obtain⟨W,q,g1,g2,g3⟩:=put_eq (M:=M) (N:=M) VW VW a ae FU b pb pa nh 0 (by rw[fl];omega) I ha r VW VW VW;refine⟨W,q,?_,g2,g3⟩;rw[l,dO aal,G];simp only[eO,gy,jW,nJ,dI,f1,H,g1,dP]
 |proj hk=>
  rename_i k i s D F a b;simp only[Tm.eD,Tm.ey] at l C;obtain⟨pf,G,hf⟩:=C.inv1;obtain⟨y,f1,f2,f3,f4,f5,_⟩:=hf.inv;simp only[Tm.eD,Tm.ey] at f2 f5;obtain⟨pa,pb,H,ha,I⟩:=f5.inv2;rcases hk with rfl|rfl
  .refine⟨pa,nh,?_,Kp.refl _,by simpa[Tm.fh] using ha⟩;rw[l,dK aal,dO aal,G];simp only[eO,jW,dI,f1,H]
  .refine⟨pb,nh,?_,Kp.refl _,by simpa[Tm.fh] using I⟩;rw[l,dK aal,dK aal,dO aal,G];simp only[eO,gy,jW,nJ,dI,f1,H]
 |zero hk=>
  rename_i k ko i s D F b st;simp only[Tm.eD,Tm.ey] at l C;obtain⟨pb,ps,po,G,I,o,S⟩:=C.Qx;obtain⟨y,f1,f2,f3,f4,f5,_⟩:=S.inv;simp only[Tm.eD,Tm.ey] at f2 f5;have T:=f5.ady;refine⟨pb,nh,?_,Kp.refl _,?_⟩
  .have j:k≠3/\k≠11/\k≠12:=VW
   rw[l,dK (by simpa using j.1),dK (by simpa using j.2.1),dK (by simpa using j.2.2),G];simp only[eO,gy,jk,jW,nJ,dI,f1,T];rfl
  .have:(Tm.mk k i s [b,st,.mk ko D F []]).fh=b:=by
    have j:k≠3/\k≠11/\k≠12:=VW
    simp[Tm.fh,j.1,j.2.1,j.2.2]
   rw[this];exact I
 |succ=>
  rename_i i s D F b st n;simp only[Tm.eD,Tm.ey,Tm.gn,Tm.fx] at l X Y C;obtain⟨pb,ps,po,G,I,o,S⟩:=C.Qx;obtain⟨y,f1,f2,f3,f4,f5,_⟩:=S.inv;simp only[Tm.eD,Tm.ey] at f2 f5;obtain⟨U,v,w⟩:=f5.inv1;have r:=hs.arg b abm;have L:=hs.arg st abm;have J:=hs.arg (.mk 5 D F [n]) abm;have O:=J.arg n abm;rw[Tm.dL] at hn;simp only[ee,Tm.dL] at hn;have V:=hs.idx;have b1:=f b r;have b2:=f st L;have b3:=f n O
  obtain⟨P,a1,a2,a3⟩:=sW (k:=6) (i:=i) (s:=s) (ps:=[some pb,some ps,some U]) (ts:=[b,st,n]) (nh:=nh) (.cons I (.cons o (.cons w .nil))) (by simp[ee];omega) VW (by
   intro u hu;simp only[kX,ry,pM] at hu
   rcases hu with rfl|rfl|rfl<;>omega)
  have d:=NE.kp a2;obtain⟨c,fc⟩:=d.get _ _ f1;obtain⟨p2,Q,d1,d2,d3⟩:=Ni (M:=M+1) VW [n] [some U] P ps st (.cons (d.node _ _ w) .nil) (d.node _ _ o) (by intro u hu;simp only[kX,ry,pM] at hu;subst hu;omega) VW (by simp[ee];omega)
  have A:0<=(Tm.mk 6 i s [b,st,n]).fr/\(Tm.mk 6 i s [b,st,n]).fr<=M+1:=by
   rw[Tm.fr,dK aal,dK aal];simp only[Tm.Kz,uh];omega
  have B:0<=(kC st [n]).fr/\(kC st [n]).fr<=M+1:=by
   simp only[kC];rw[Tm.fr,dK aal,dK aal];simp only[Tm.Kz,uh];omega
  have af:(Tm.mk 6 i s [b,st,n]).aor<=10000:=by rw[Tm.dL];simp only[ee];omega
  have ah:(kC st [n]).aor<=10000:=by rw[pc];simp only[ee,kY,wZ];omega
  obtain⟨p3,R,g1,g2,g3⟩:=Ni (M:=M+1) VW [.mk 6 i s [b,st,n]] [some nh.length] Q p2 (kC st [n]) (.cons ((NE.kp d2).node _ _ a3) .nil) d3 (by intro u hu;simp only[kX,ry,pM] at hu;subst hu;exact A) B (by simp only[ee,kY,wZ];omega);refine⟨p3,R,?_,(a2.trans d2).trans g2,?_⟩
  .rw[l,dK aal,dK aal,dK aal,G];simp only[eO,gy,jk,jW,nJ,dI,f1,v];rw[dK (by simp only[fV,kY,wZ];decide),TU];unfold gE;simp only[dI,e1,l,X,Y,a1,dP,fc,v,d1,g1]
  .have:(Tm.mk 6 i s [b,st,.mk 5 D F [n]]).fh=kC (kC st [n]) [.mk 6 i s [b,st,n]]:=by simp[Tm.fh,kC]
   rw[this];exact g3
 |cons=>
  rename_i i s D F b st h n;simp only[Tm.eD,Tm.ey,Tm.gn,Tm.fx] at l X Y C;obtain⟨pb,ps,po,G,I,o,S⟩:=C.Qx;obtain⟨y,f1,f2,f3,f4,f5,_⟩:=S.inv;simp only[Tm.eD,Tm.ey] at f2 f5;obtain⟨ph,U,v,ai,w⟩:=f5.inv2;have r:=hs.arg b abm;have L:=hs.arg st abm;have J:=hs.arg (.mk 8 D F [h,n]) abm;have O:=J.arg n abm;have ak:=J.arg h abm;rw[Tm.dL] at hn;simp only[ee,Tm.dL] at hn;have V:=hs.idx;have b1:=f b r;have b2:=f st L;have b3:=f n O;have b4:=f h ak
  obtain⟨P,a1,a2,a3⟩:=sW (k:=9) (i:=i) (s:=s) (ps:=[some pb,some ps,some U]) (ts:=[b,st,n]) (nh:=nh) (.cons I (.cons o (.cons w .nil))) (by simp[ee];omega) VW (by
   intro u hu;simp only[kX,ry,pM] at hu
   rcases hu with rfl|rfl|rfl<;>omega)
  have d:=NE.kp a2;obtain⟨c,fc⟩:=d.get _ _ f1;obtain⟨p2,Q,d1,d2,d3⟩:=Ni (M:=M+1) VW [h,n] [some ph,some U] P ps st (.cons (d.node _ _ ai) (.cons (d.node _ _ w) .nil)) (d.node _ _ o) (by intro u hu;simp only[kX,ry,pM] at hu;rcases hu with rfl|rfl<;>omega) VW (by simp[ee];omega)
  have A:0<=(Tm.mk 9 i s [b,st,n]).fr/\(Tm.mk 9 i s [b,st,n]).fr<=M+1:=by
   rw[Tm.fr,dK aal,dK aal];simp only[Tm.Kz,uh];omega
  have B:0<=(kC st [h,n]).fr/\(kC st [h,n]).fr<=M+1:=by
   simp only[kC];rw[Tm.fr,dK aal,dK aal];simp only[Tm.Kz];rw[Tm.fr,dK aal,dK aal];simp only[Tm.Kz,uh];omega
  have af:(Tm.mk 9 i s [b,st,n]).aor<=10000:=by rw[Tm.dL];simp only[ee];omega
  have ah:(kC st [h,n]).aor<=10000:=by rw[pc];simp only[ee,kY,wZ];omega
  obtain⟨p3,R,g1,g2,g3⟩:=Ni (M:=M+1) VW [.mk 9 i s [b,st,n]] [some nh.length] Q p2 (kC st [h,n]) (.cons ((NE.kp d2).node _ _ a3) .nil) d3 (by intro u hu;simp only[kX,ry,pM] at hu;subst hu;exact A) B (by simp only[ee,kY,wZ];omega);refine⟨p3,R,?_,(a2.trans d2).trans g2,?_⟩
  .rw[l,dK aal,dK aal,dK aal,G];simp only[eO,gy,jk,jW,nJ,dI,f1,v];rw[dK (by simp only[fV,kY,wZ];decide),TN];unfold gE;simp only[dI,e1,l,X,Y,a1,dP,fc,v,d1,g1]
  .have:(Tm.mk 9 i s [b,st,.mk 8 D F [h,n]]).fh=kC (kC st [h,n]) [.mk 9 i s [b,st,n]]:=by simp[Tm.fh,kC]
   rw[this];exact g3
def Hq:∀(n:Nat) (t:Ty),t.aor<=n->t.aor<=1000000000->jY n t=some t:=by
 intro n
 induction n with
 |zero=>intro t h;have:=t.eF;omega
 |succ n ih=>
  intro t h a;cases t with
  |mk k l=>
   rw[Ty.dL] at h a;have d:=Ty.fA l;rw[jY];simp only[Ty.ey,Ty.eD,dY,ei (l:=l) VW,dU];rw[kh id l 0 [] abv]
   .simp
   .intro j x v b c;have:=eu Ty.aor b;rw[ih x VW VW];simp[fk (l:=v) (m:=[x]) (by simpa using c)]
def pK{t:Ty}(h:t.aor<=1000000000):jY FU t=some t:=Hq FU t (by rw[fl];exact h) h
def Ty.xD{k i:Int}{s:Ty}{n:Nat}(h:Tm.node k i s n=true):s.aor<=64:=by
 unfold Tm.node at h;simp only[gJ] at h;have a:=h.2
 by_cases b:j_ k=true
 .rw[dO b] at a;simp only[oU] at a;unfold Ty.err at a
  split at a
  .split at a
   .omega
   .omega
  .omega
 .rw[dK b] at a;rw[(Ty.mB s).1 a,Ty.dL];simp[ee]
def adZ{M:Int}(H:0<=M/\M<=500000000000):∀(n:Nat) (t:Tm) (nh:List HC),t.aor<=n->Sm M t->∃p a,qw n t nh=some (some p,a)/\Kp nh a/\NR a p t:=by
 intro n
 induction n with
 |zero=>intro t nh h;have:=t.eF;omega
 |succ n ih=>
  intro t nh h hs;cases t with
  |mk k i s l=>
   have r:=hs.aor;have F:=hs.idx;rw[Tm.dL] at h r;have hlen:=Tm.fA l;rw[qw];simp only[Tm.ey,Tm.eD,Tm.gn,Tm.fx,dY,ei (l:=l) VW,dU]
   have loop:∀(ts:List Tm) (i:Nat) (nh:List HC) (v:List (Option Nat)) (us:List Tm),(∀t∈ts,t∈l)->vG nh v us->v.length+ts.length<=1000000->∃f a,fa (λ(G:Int) (j:Tm)=>(re λ(b:(List (Option Nat))) (o:List HC)=>
      dR (qw n j o) λc d=>
      gq (fM b [c])<|some ((.next ((fW b [c]),d)):fp ((List (Option Nat))×List HC) ((Option Nat)×List HC)))) ts i (v,nh)=some (.inl (f,a))/\Kp nh a/\vG a f (us++ts):=by
    intro ts
    induction ts with
    |nil=>intro i nh v us _ w _;exact⟨v,nh,rfl,Kp.refl _,by simpa using w⟩|cons t ts x=>
     intro i nh v us hm w I;simp only[kY] at I;have q:=hm t abm;have J:=eu Tm.aor q;obtain⟨p,y,a1,a2,a3⟩:=ih t nh VW (hs.arg t q);obtain⟨f,a,A,B,C⟩:=x (i+1) y (v++[some p]) (us++[t]) (λu hu=>hm u (by simp[hu])) (((NE.kp a2).list w).append (.cons a3 .nil)) abv;refine⟨f,a,?_,a2.trans B,by simpa using C⟩;rw[eV];simp only[iB,a1,dP];rw[fk abv];simp only[dU,ig,dI,eQ];exact A
   obtain⟨f,a,a1,a2,a3⟩:=loop l 0 nh [] [] (λt h=>h) .nil abv;rw[a1];simp only[dI,ew,iB]
   obtain⟨D,A,B,C⟩:=sW (k:=k) (i:=i) (s:=s) (ps:=f) (ts:=l) (nh:=a) (by simpa using a3) VW VW (by
    intro t K;have:=(hs.arg t K).fr H.1
    omega)
   exact⟨a.length,D,by rw[A];rfl,a2.trans B,C⟩
def Uy{M:Int}(nh:List HC):∀(n:Nat) (t:Tm) (p:Nat),t.aor<=n->Sm M t->NR nh p t->iN n (some p) nh=some t:=by
 intro n
 induction n with
 |zero=>intro t p h;have:=t.eF;omega
 |succ n ih=>
  intro t p h hs B;obtain⟨x,C,r,w,y,j,J,K,L⟩:=B.inv;cases t with
  |mk k i s l=>
   simp only[Tm.eD,Tm.ey,Tm.gn,Tm.fx] at r w y j;have o:=hs.aor;rw[Tm.dL] at h o;have hlen:=Tm.fA l;have D:x.aoq.length=l.length:=j.len;have c:=hs.ok;rw[Tm.gX,gJ] at c;have F:=Ty.xD c.1;rw[iN];simp only[dI,C,r,w,y,dY,ei (l:=x.aoq) VW,dU];rw[pK VW];simp only[dI]
   have loop:∀(ts:List Tm) (ps:List (Option Nat)) (i:Nat) (v:List Tm),(∀t∈ts,t∈l)->vG nh ps ts->v.length+ts.length<=1000000->fa (λ(A:Int) (d:Option Nat)=>(λ(a:List Tm)=>
      dH (iN n d nh) λb=>
      gq (fM a [b])<|some ((.next (fW a [b])):fp (List Tm) Tm))) ps i v=some (.inl (v++ts)):=by
    intro ts
    induction ts with
    |nil=>intro ps i v _ h _;cases h;simp
    |cons t ts q=>
     intro ps i v hm h G;simp only[kY] at G;have f:=hm t abm;have H:=eu Tm.aor f;cases h with
     |cons q1 I=>
      rw[eV,ih t _ VW (hs.arg t f) q1];simp only[dI];rw[fk abv];simp only[dU,dI,eQ];rw[q _ (i+1) (fW v [t]) (λu hu=>hm u (by simp[hu])) I (by rw[GA];simp;omega)];simp
   rw[loop l x.aoq 0 [] (λt h=>h) j abv];simp
mutual
def NR.det{nh:List HC}:∀{p:Nat} {t u:Tm},NR nh p t->NR nh p u->t=u
 |_,_,_,.mk (x:=x) a b _ _ _,.mk (x:=y) g1 g2 _ _ _=>by
  rw[a] at g1;obtain rfl:=hU g1;rw[vG.det b g2]
def vG.det{nh:List HC}:∀{ps:List (Option Nat)} {ts us:List Tm},vG nh ps ts->vG nh ps us->ts=us
 |_,_,_,.nil,.nil=>rfl|_,_,_,.cons a b,.cons g1 g2=>by rw[NR.det a g1,vG.det b g2]
end
def NE.flag{nh:List HC}{p:Nat}{t:Tm}{x:eI}(C:NR nh p t)(A:HC.dX nh p=some x)(o:t.nf=true):NE nh (kB nh p (HC.eJ {x with normal:=true})):=by
 have B:=HC.ed A;have r:=(ru.1 B).1
 have f:HC.dX (kB nh p (HC.eJ {x with normal:=true})) p=some {x with normal:=true}:=by
  unfold HC.dX kB;simp[r]
 have a:∀q,q≠p->(kB nh p (HC.eJ {x with normal:=true}))[q]?=nh[q]?:=by
  intro q c;unfold kB;rw[Tv (λh=>c h.symm)]
 have d:∀q y,HC.dX nh q=some y->∃b,HC.dX (kB nh p (HC.eJ {x with normal:=true})) q=some {y with normal:=b}/\(b=true->y.normal=true\/q=p):=by
  intro q y hy
  by_cases c:q=p
  .subst c;rw[A] at hy;obtain rfl:=hU hy;exact⟨true,f,λ_=>.inr rfl⟩
  .refine⟨y.normal,?_,λh=>.inl h⟩;have:=a q c;unfold HC.dX at hy|-;rw[this];exact hy
 have key:∀n,(∀q u,u.aor<=n->NR nh q u->NR (kB nh p (HC.eJ {x with normal:=true})) q u):=by
  intro n
  induction n with
  |zero=>intro q u h;have:=u.eF;omega
  |succ n ih=>
   intro q u hu c;obtain⟨y,D,F,G,H,I,J,K,L⟩:=c.inv;obtain⟨b,f1,f2⟩:=d q y D
   have j:∀(ts:List Tm) (ps:List (Option Nat)),(∀t∈ts,t.aor<=n)->vG nh ps ts->vG (kB nh p (HC.eJ {x with normal:=true})) ps ts:=by
    intro ts
    induction ts with
    |nil=>intro ps _ h;cases h;exact .nil
    |cons t ts v=>
     intro ps hm h;cases h with
     |cons g1 g2=>exact .cons (ih _ _ (hm t abm) g1) (v _ (λu hu=>hm u (by simp[hu])) g2)
   refine NR.of f1 F G H (j _ _ ?_ I) J K ?_
   .intro t M;cases u with
    |mk k i s l=>
     rw[Tm.dL] at hu;have:=eu Tm.aor M;simp only[Tm.ey] at this;omega
   .intro N;rcases f2 N with h|h
    .exact L h
    .subst h;rw[<-NR.det C c];exact o
 refine⟨λq u h=>key _ q u (gY _) h,?_,λq y h=>?_⟩
 .intro q st c
  have w:q≠p:=by
   rintro rfl;have:=HC.gH c;rw[B] at this;cases this
  unfold HC.fj at c|-;rw[a q w];exact c
 .obtain⟨b,O,_⟩:=d q y h;exact⟨b,O⟩
mutual
def Tm.Ka(room:Int):Tm->Option (Option Tm)
 |.mk k i s l=>if(Tm.mk k i s l).root then(if((Tm.mk k i s l).fh.aor:Int)-((Tm.mk k i s l).aor:Int)>room then none else some (some (Tm.mk k i s l).fh))
  else match Tm.sE room l with
   |none=>none|some none=>some none|some (some a)=>some (some (.mk k i s a))
def Tm.sE(room:Int):List Tm->Option (Option (List Tm))
 |[]=>some none|t::l=>match t.Ka room with
  |none=>none|some (some a)=>some (some (a::l))|some none=>match Tm.sE room l with
   |none=>none|some none=>some none|some (some b)=>some (some (t::b))
end
theorem DK:∀(l:List Tm) (f:Tm),f.ok=true->(∀t∈l,t.ok=true)->(kC f l).ok=true
 |[],f,h,_=>h|a::l,f,h,b=>by
  rw[kC];refine DK l _ ?_ λt d=>b t (by simp[d]);rw[Tm.gX];simp only[gJ,kZ];refine⟨rfl,?_⟩;intro x c;simp only[kX,ry,pM] at c;rcases c with rfl|rfl
  .exact h
  .exact b _ abm
def Dt{M:Int}(b:0<=M):∀(l:List Tm) (f:Tm),f.aov M=true->(∀t∈l,t.aov M=true)->(kC f l).aov M=true
 |[],f,h,_=>h|a::l,f,h,c=>by
  rw[kC];refine Dt b l _ ?_ λt i=>c t (by simp[i]);rw[Tm.fo];simp only[gJ,kZ,oU];refine⟨b,?_⟩;intro x d;simp only[kX,ry,pM] at d;rcases d with rfl|rfl
  .exact h
  .exact c _ abm
theorem Tm.xu{k i:Int}{s:Ty}{l m:List Tm}(h:(Tm.mk k i s l).ok=true)(a:m.length=l.length)(hm:∀t∈m,t.ok=true):(Tm.mk k i s m).ok=true:=by
 rw[Tm.gX] at h|-;simp only[gJ,kZ] at h|-;rw[a];exact⟨h.1,hm⟩
def Tm.CL{M k i:Int}{s:Ty}{l m:List Tm}(h:(Tm.mk k i s l).aov M=true)(hm:∀t∈m,t.aov M=true):(Tm.mk k i s m).aov M=true:=by
 rw[Tm.fo] at h|-;simp only[gJ,kZ,oU] at h|-;exact⟨h.1,hm⟩
def aaJ{M:Int}(G:0<=M){t:Tm}(hs:Sm M t)(hn:t.aor<=8192)(D:t.root=true):t.fh.ok=true/\t.fh.aov (M+8192)=true:=by
 have y:=Tm.GF hs.ok D;have up:∀u,Sm M u->u.aov (M+8192)=true:=λu hu=>(hu.mono VW).aov;cases y with
 |app=>
  rename_i i s d f b a;have A:=hs.arg (.mk 2 d f [b]) abm;have v:=hs.arg a abm;have o:=A.arg b abm;rw[Tm.dL] at hn;simp only[ee,Tm.dL] at hn
  have e:(Tm.mk 3 i s [.mk 2 d f [b],a]).fh=Tm.gP 0 b a:=by simp[Tm.fh]
  rw[e];exact⟨Tm.Jp a v.ok b 0 VW o.ok,MA (M:=M) (N:=M) VW a v.aov b 0 VW VW o.aov o.ok⟩
 |proj B=>
  rename_i k i s d f a b;have w:=hs.arg (.mk 10 d f [a,b]) abm;rcases B with rfl|rfl
  .have:=w.arg a abm;simpa[Tm.fh] using And.intro this.ok (up _ this)
  .have:=w.arg b abm;simpa[Tm.fh] using And.intro this.ok (up _ this)
 |zero B=>
  rename_i k F i s d f b st
  have q:k≠3/\k≠11/\k≠12:=VW
  have:(Tm.mk k i s [b,st,.mk F d f []]).fh=b:=by simp[Tm.fh,q.1,q.2.1,q.2.2]
  rw[this];have:=hs.arg b abm;exact⟨this.ok,up _ this⟩
 |succ=>
  rename_i i s d f b st n;have x:=hs.arg b abm;have j:=hs.arg st abm;have l:=(hs.arg (.mk 5 d f [n]) abm).arg n abm
  have e:(Tm.mk 6 i s [b,st,.mk 5 d f [n]]).fh=kC st [n,.mk 6 i s [b,st,n]]:=by simp[Tm.fh,kC]
  rw[e];have r:(Tm.mk 6 i s [b,st,n]).ok=true:=Tm.xu hs.ok rfl (by intro t c;simp only[kX,ry,pM] at c;rcases c with rfl|rfl|rfl;all_goals first|exact x.ok|exact j.ok|exact l.ok);have hle:(Tm.mk 6 i s [b,st,n]).aov (M+8192)=true:=Tm.CL (hs.mono VW).aov (by intro t c;simp only[kX,ry,pM] at c;rcases c with rfl|rfl|rfl;all_goals first|exact up _ x|exact up _ j|exact up _ l);refine⟨DK _ _ j.ok ?_,Dt VW _ _ (up _ j) ?_⟩<;>
  .intro t c;simp only[kX,ry,pM] at c;rcases c with rfl|rfl
   .first|exact l.ok|exact up _ l
   .first|exact r|exact hle
 |cons=>
  rename_i i s d f b st h n;have x:=hs.arg b abm;have j:=hs.arg st abm;have l:=(hs.arg (.mk 8 d f [h,n]) abm).arg n abm;have C:=(hs.arg (.mk 8 d f [h,n]) abm).arg h abm
  have e:(Tm.mk 9 i s [b,st,.mk 8 d f [h,n]]).fh=kC st [h,n,.mk 9 i s [b,st,n]]:=by simp[Tm.fh,kC]
  rw[e];have r:(Tm.mk 9 i s [b,st,n]).ok=true:=Tm.xu hs.ok rfl (by intro t c;simp only[kX,ry,pM] at c;rcases c with rfl|rfl|rfl;all_goals first|exact x.ok|exact j.ok|exact l.ok);have hle:(Tm.mk 9 i s [b,st,n]).aov (M+8192)=true:=Tm.CL (hs.mono VW).aov (by intro t c;simp only[kX,ry,pM] at c;rcases c with rfl|rfl|rfl;all_goals first|exact up _ x|exact up _ j|exact up _ l);refine⟨DK _ _ j.ok ?_,Dt VW _ _ (up _ j) ?_⟩<;>
  .intro t c;simp only[kX,ry,pM] at c;rcases c with rfl|rfl|rfl
   .first|exact C.ok|exact up _ C
   .first|exact l.ok|exact up _ l
   .first|exact r|exact hle
def Tm.Dq(room k i:Int)(s:Ty)(l:List Tm):(Tm.mk k i s l).Ka room=if(Tm.mk k i s l).root then(if((Tm.mk k i s l).fh.aor:Int)-((Tm.mk k i s l).aor:Int)>room then none else some (some (Tm.mk k i s l).fh))
 else match Tm.sE room l with
  |none=>none|some none=>some none|some (some a)=>some (some (.mk k i s a)):=by rw[Tm.Ka]
def Nz{M room:Int}(w:0<=M)(t:Tm):Sm M t->t.aor<=8192->∀f,t.Ka room=some (some f)->f.ok=true/\f.aov (M+8192)=true/\(f.aor:Int)<=t.aor+room:=by
 induction t using Tm.ind with
 |h k i s l ih=>
  intro hs hn f h;rw[Tm.Dq] at h
  by_cases j:(Tm.mk k i s l).root=true
  .rw[dO j] at h
   split at h
   .cases h
   .obtain rfl:=hU (hU h);obtain⟨x,y⟩:=aaJ w hs hn j;exact⟨x,y,VW⟩
  .rw[dK j] at h;have up:∀u,Sm M u->u.aov (M+8192)=true:=λu hu=>(hu.mono VW).aov;have n:=hn;rw[Tm.dL] at n
   have A:∀(ts a:List Tm),(∀t∈ts,t∈l)->Tm.sE room ts=some (some a)->a.length=ts.length/\(∀t∈a,t.ok=true/\t.aov (M+8192)=true)/\(ee Tm.aor a:Int)<=ee Tm.aor ts+room:=by
    intro ts
    induction ts with
    |nil=>intro a _ h;rw[Tm.sE] at h;cases h
    |cons t ts o=>
     intro a hm h;rw[Tm.sE] at h;have b:=hm t abm;have B:=eu Tm.aor b;have c:=hs.arg t b
     split at h
     .cases h
     .rename_i u hu;obtain rfl:=hU (hU h);obtain⟨a1,a2,a3⟩:=ih t b c VW u hu;refine⟨rfl,?_,by simp only[ee];omega⟩;intro v hv;rcases kX.1 hv with rfl|hv
      .exact⟨a1,a2⟩
      .have:=hs.arg v (hm v (by simp[hv]));exact⟨this.ok,up _ this⟩
     .split at h
      .cases h
      .cases h
      .rename_i q d;obtain rfl:=hU (hU h);obtain⟨a1,a2,a3⟩:=o q (λu hu=>hm u (by simp[hu])) d;refine⟨by simp[a1],?_,by simp only[ee];omega⟩;intro v hv;rcases kX.1 hv with rfl|hv
       .exact⟨c.ok,up _ c⟩
       .exact a2 v hv
   split at h
   .cases h
   .cases h
   .rename_i q d;obtain rfl:=hU (hU h);obtain⟨a1,a2,a3⟩:=A l q (λt h=>h) d;refine⟨Tm.xu hs.ok a1 λt r=>(a2 t r).1,Tm.CL (hs.mono VW).aov λt r=>(a2 t r).2,?_⟩;rw[Tm.dL,Tm.dL];omega
def Au(room:Int)(t:Tm):t.nf=true↔t.Ka room=some none:=by
 induction t using Tm.ind with
 |h k i s l ih=>
  rw[Tm.RF,Tm.Dq]
  have f:∀ts:List Tm,(∀t∈ts,t∈l)->(ts.all Tm.nf=true↔Tm.sE room ts=some none):=by
   intro ts
   induction ts with
   |nil=>intro _;simp[Tm.sE]|cons t ts b=>
    intro hm;have j:=ih t (hm t abm);have n:=b λu hu=>hm u (by simp[hu]);rw[CW,gJ,j,n,Tm.sE];constructor
    .rintro⟨c,d⟩;rw[c,d]
    .intro h
     split at h
     .cases h
     .cases h
     .rename_i c
      split at h
      .cases h
      .rename_i d;exact⟨c,d⟩
      .cases h
  have:=f l λt h=>h
  by_cases a:(Tm.mk k i s l).root=true
  .rw[dO a,a];simp
   try(split<;>simp)
  .rw[dK a];simp only[gJ,afY,this];constructor
   .rintro⟨_,e⟩;rw[e]
   .intro h;refine⟨by simpa using a,?_⟩
    split at h
    .cases h
    .rename_i e;exact e
    .cases h
def Zu{M:Int}{t:Tm}(hs:Sm M t)(hn:t.aor<=8192)(c:t.root=true):(t.fh.aor:Int)<=1000000000:=by
 have d:=Tm.GF hs.ok c;cases d with
 |app=>
  rename_i i s j k b a;rw[Tm.dL] at hn;simp only[ee,Tm.dL] at hn;have f:=hs.arg (.mk 2 j k [b]) abm;have l:=Tm.r6 a b 0 (f.arg b abm).ok;have n:=Tm.iZ b 0;have hmul:b.aox 0*a.aor<=8192*8192:=Oa VW VW
  grind[Tm.gP,Tm.fh]
 |proj h=>
  rw[Tm.dL] at hn;simp only[ee,Tm.dL] at hn;rcases h with rfl|rfl<;>(simp[Tm.fh];omega)
 |zero h=>grind[Tm.fh,Tm.dL,ee]|succ=>grind[kC,Tm.fh,pc,Tm.dL,ee]|cons=>grind[kC,Tm.fh,pc,Tm.dL,ee]
def ZC{M:Int}(S:0<=M/\M<=90000000000){nh:List HC}{p:Nat}{t:Tm}(P:NR nh p t)(hs:Sm M t)(hn:t.aor<=8192)(d:t.root=true):pR (some p) nh=some (t.fh.aor:Int):=by
 have T:=GN S P hs hn d;have G:=Tm.GF hs.ok d;obtain⟨x,U,f,e3,e4,o,e6,e7,e8⟩:=P.inv;unfold pR mE;simp only[dI,U];cases G with
 |app=>
  rename_i i s q r b a;simp only[Tm.eD,Tm.ey] at f o;obtain⟨pf,pa,w,V,W⟩:=o.inv2;obtain⟨y,f1,f2,f3,f4,f5,_⟩:=V.inv;simp only[Tm.eD,Tm.ey] at f2 f5;obtain⟨pb,H,A⟩:=f5.inv1;have I:=hs.arg (.mk 2 q r [b]) abm;have X:=hs.arg a abm;have D:=I.arg b abm;rw[Tm.dL] at hn;simp only[ee,Tm.dL] at hn;obtain⟨z,g1,_,_,_,_,g6,_⟩:=A.inv;obtain⟨u,j,_,_,_,_,l,_⟩:=W.inv;rw[f,dO aal,w];simp only[eO,gy,jW,nJ,dI,f1,H,g1];rw[count_eq (M:=M) VW nh FU b pb 0 (by rw[fl];omega) A D VW VW];simp only[dI,j,dP,g6,l];have Y:=Tm.iZ b 0;have hmul:b.aox 0*a.aor<=8192*8192:=Oa VW VW;have Z:=Tm.r6 a b 0 D.ok;have ad:=a.eF
  have e:(Tm.mk 3 i s [.mk 2 q r [b],a]).fh=Tm.gP 0 b a:=by simp[Tm.fh]
  rw[e]
  have hint:(b.aox 0:Int)*((a.aor:Int)-1)=((b.aox 0*a.aor:Nat):Int)-(b.aox 0:Int):=by rw[aei,acM];simp
  rw[fF VW VW,Bs (by rw[hint];omega) (by rw[hint];omega),hint,e9 VW VW]
  congr 1
  omega
 |proj Q=>
  rename_i k i s q r a b;obtain⟨p',ae,g1,g2,g3⟩:=T;simp only[Tm.eD,Tm.ey] at f o;obtain⟨z,j,_,_,_,_,l,_⟩:=g3.inv
  have c:k≠3/\k≠6/\k≠9:=VW
  rw[f,dK (by simpa using c.1),dK (by simpa using c.2.1),dK (by simpa using c.2.2),g1];simp only[dP,dI,j,l]
 |zero Q=>
  rename_i k ko i s q r b st;simp only[Tm.eD,Tm.ey] at f o;obtain⟨pb,ps,R,w,A,v,F⟩:=o.Qx;obtain⟨y,f1,f2,f3,f4,f5,_⟩:=F.inv;obtain⟨z,j,_,_,_,_,l,_⟩:=A.inv;simp only[Tm.eD,Tm.ey] at f2 f5
  have c:k≠3/\k≠11/\k≠12:=VW
  have:(Tm.mk k i s [b,st,.mk ko q r []]).fh=b:=by simp[Tm.fh,c.1,c.2.1,c.2.2]
  rw[this];rcases Q with⟨rfl,rfl⟩|⟨rfl,rfl⟩
  .rw[f,dK aal,dO aal,w];simp only[eO,gy,jk,jW,nJ,dI,f1,f2,j,l];rw[dK aal];rfl
  .rw[f,dK aal,dK aal,dO aal,w];simp only[eO,gy,jk,jW,nJ,dI,f1,f2,j,l];rw[dK aal];rfl
 |succ=>
  rename_i i s q r b st n;simp only[Tm.eD,Tm.ey] at f o;obtain⟨pb,ps,R,w,A,v,F⟩:=o.Qx;obtain⟨y,f1,f2,f3,f4,f5,_⟩:=F.inv;simp only[Tm.eD,Tm.ey] at f2 f5;obtain⟨pn,B,C⟩:=f5.inv1;obtain⟨z1,j,_,_,_,_,l,_⟩:=A.inv;obtain⟨z2,J,_,_,_,_,K,_⟩:=v.inv;obtain⟨z3,L,_,_,_,_,N,_⟩:=C.inv;rw[Tm.dL] at hn;simp only[ee,Tm.dL] at hn
  have e:(Tm.mk 6 i s [b,st,.mk 5 q r [n]]).fh=kC st [n,.mk 6 i s [b,st,n]]:=by simp[Tm.fh,kC]
  rw[e,pc];simp only[ee,Tm.dL,kY,wZ];rw[f,dK aal,dO aal,w];simp only[eO,gy,jk,jW,nJ,dI,f1,f2,B,j,J,L,l,K,N];rw[dO aal];simp only[dP];rw[Bs (a:=2) VW VW,e9 (a:=2) VW VW,e9 (b:=2*(n.aor:Int)) VW VW,e9 (b:=1) VW VW,e9 (b:=(b.aor:Int)) VW VW,e9 VW VW]
  congr 1
  omega
 |cons=>
  rename_i i s q r b st h n;simp only[Tm.eD,Tm.ey] at f o;obtain⟨pb,ps,R,w,A,v,F⟩:=o.Qx;obtain⟨y,f1,f2,f3,f4,f5,_⟩:=F.inv;simp only[Tm.eD,Tm.ey] at f2 f5;obtain⟨ph,pn,B,O,C⟩:=f5.inv2;obtain⟨z1,j,_,_,_,_,l,_⟩:=A.inv;obtain⟨z2,J,_,_,_,_,K,_⟩:=v.inv;obtain⟨z3,L,_,_,_,_,N,_⟩:=C.inv;obtain⟨z4,q1,_,_,_,_,q6,_⟩:=O.inv;rw[Tm.dL] at hn;simp only[ee,Tm.dL] at hn
  have e:(Tm.mk 9 i s [b,st,.mk 8 q r [h,n]]).fh=kC st [h,n,.mk 9 i s [b,st,n]]:=by simp[Tm.fh,kC]
  rw[e,pc];simp only[ee,Tm.dL,kY,wZ];rw[f,dK aal,dK aal,dO aal,w];simp only[eO,gy,jk,jW,nJ,dI,f1,f2,B,j,J,L,q1,l,K,N,q6];rw[dO aal];simp only[dP];rw[Bs (a:=2) VW VW,e9 (a:=3) VW VW,e9 (b:=(h.aor:Int)) VW VW,e9 (b:=2*(n.aor:Int)) VW VW,e9 (b:=1) VW VW,e9 (b:=(b.aor:Int)) VW VW,e9 VW VW]
  congr 1
  omega
def ID{α:Type}(a:List α)(x y:α)(b:List α):(a++x::b).set a.length y=a++y::b:=abm
def Fe(room:Int)(p:Nat)(t:Tm)(nh:List HC)(o:Option ((Option Nat)×Int×List HC)):Prop:=
 match t.Ka room with
 |none=>∃a,o=some (none,4,a)/\NE nh a|some none=>∃a,o=some (none,0,a)/\NE nh a|some (some c)=>∃b a,o=some (some b,0,a)/\NE nh a/\NR a b c
def aeo{M room:Int}(hM:0<=M/\M<=80000000000)(ad:-100000<=room/\room<=100000):∀(n:Nat) (t:Tm) (p:Nat) (nh:List HC),t.aor<=n->NR nh p t->Sm M t->t.aor<=8192->Fe room p t nh (jo n (some p) room nh):=by
 intro n
 induction n with
 |zero=>intro t p nh h;have:=t.eF;omega
 |succ n ih=>
  intro t p nh hn T hs L;obtain⟨x,e1,e2,e3,e4,e5,e6,e7,e8⟩:=T.inv;rw[jo];simp only[dI,e1]
  by_cases P:x.normal=true
  .rw[dO P];unfold Fe;rw[(Au room t).1 (e8 P)];exact⟨nh,rfl,NE.refl _⟩
  .rw[dK P,P6 T hs.ok];simp only[dI];cases t with
   |mk k i s l=>
    by_cases f:(Tm.mk k i s l).root=true
    .rw[dO f,ZC VW T hs L f];simp only[dI,hJ,e6];obtain⟨R,c,g1,g2,g3⟩:=GN (M:=M) VW T hs L f;have an:=Zu hs L f;rw[fF VW VW];unfold Fe;rw[Tm.Dq,dO f]
     by_cases G:((Tm.mk k i s l).fh.aor:Int)-((Tm.mk k i s l).aor:Int)>room
     .rw[dO G,dO G];exact⟨nh,rfl,NE.refl _⟩
     .rw[dK G,dK G,g1];exact⟨R,c,rfl,NE.kp g2,g3⟩
    .rw[dK f];simp only[Tm.eD,Tm.ey,Tm.gn,Tm.fx] at e2 e3 e4 e5;have J:=L;rw[Tm.dL] at hn J;have hlen:=Tm.fA l;have U:x.aoq.length=l.length:=e5.len;rw[ei VW];simp only[dU,dY];have ak:=hs.idx;have V:∀u:Tm,Sm M u->0<=u.fr/\u.fr<=M+1:=λu hu=>hu.fr hM.1
     have loop:∀(ts pre:List Tm) (ps N:List (Option Nat)) (j:Nat) (D:List HC),l=pre++ts->x.aoq=N++ps->N.length=j->NE nh D->vG D ps ts->vG D N pre->match Tm.sE room ts with
       |none=>∃c,fa (λ(y:Int) (F:Option Nat)=>(λ(A:List HC)=>
         fm (jo n F room A) λr v a=>
         if(eR v 0) then(some (.ret (none,v,a)))
         else(if(Option.isSome r) then(
         dH (HC.dX a p) λd=>
         gq (zP d.aoq)<|dH (dW d.aoq y) λK=>
         dR (gE (some p) (yb d.aoq y r) a) λB w=>
         some (.ret (B,0,w)))
         else(some ((.next a):fp (List HC) ((Option Nat)×Int×List HC)))))) ps j D=some (.inr (none,4,c))/\NE nh c
       |some none=>∃c,fa (λ(y:Int) (F:Option Nat)=>(λ(A:List HC)=>
         fm (jo n F room A) λr v a=>
         if(eR v 0) then(some (.ret (none,v,a)))
         else(if(Option.isSome r) then(
         dH (HC.dX a p) λd=>
         gq (zP d.aoq)<|dH (dW d.aoq y) λK=>
         dR (gE (some p) (yb d.aoq y r) a) λB w=>
         some (.ret (B,0,w)))
         else(some ((.next a):fp (List HC) ((Option Nat)×Int×List HC)))))) ps j D=some (.inl c)/\NE nh c
       |some (some W)=>∃R c,fa (λ(y:Int) (F:Option Nat)=>(λ(A:List HC)=>
         fm (jo n F room A) λr v a=>
         if(eR v 0) then(some (.ret (none,v,a)))
         else(if(Option.isSome r) then(
         dH (HC.dX a p) λd=>
         gq (zP d.aoq)<|dH (dW d.aoq y) λK=>
         dR (gE (some p) (yb d.aoq y r) a) λB w=>
         some (.ret (B,0,w)))
         else(some ((.next a):fp (List HC) ((Option Nat)×Int×List HC)))))) ps j D=some (.inr (some R,0,c))/\NE nh c/\NR c R (.mk k i s (pre++W)):=by
      intro ts
      induction ts with
      |nil=>
       intro pre ps N j D _ _ _ H hp _;cases hp;rw[Tm.sE];exact⟨D,rfl,H⟩
      |cons t ts ae=>
       intro pre ps N j D S hx hq H hp O;cases hp with
       |cons q1 q2=>
        rename_i q ps
        have X:t∈l:=by rw[S];simp
        have ao:=eu Tm.aor X;have Y:=hs.arg t X;have C:=ih t q D VW q1 Y VW;unfold Fe at C;rw[Tm.sE];rw[eV]
        split at C
        .rename_i I;obtain⟨c,a1,a2⟩:=C;rw[I,a1];exact⟨c,rfl,H.trans a2⟩
        .rename_i I;obtain⟨c,a1,a2⟩:=C;rw[I,a1];have:=ae (pre++[t]) ps (N++[some q]) (j+1) c (by simp[S]) (by simp[hx]) (by simp[hq]) (H.trans a2) (a2.list q2) ((a2.list O).append (.cons (a2.node _ _ q1) .nil))
         revert this
         cases Tm.sE room ts with
         |none=>exactλh=>h|some o=>
          cases o with
          |none=>exactλh=>h|some W=>simp only[tv,ahf,n9];exactλh=>h
        .rename_i t' I;obtain⟨q',c,a1,a2,a3⟩:=C;rw[I,a1];simp only[gw];rw[dK aal,dO (show(some q').isSome=true from rfl)];obtain⟨b,Z⟩:=(H.trans a2).get p x e1;rw[Z];simp only[dI];obtain⟨s1,s2,s3⟩:=Nz hM.1 t Y VW t' I;rw[show zP x.aoq=true from xG ⟨by rw[U,S];simp;omega,by rw[U];unfold BR;omega⟩]
         have af:dW x.aoq (j:Int)=some (some q):=by rw[gS,hx,<-hq];simp
         have ah:yb x.aoq (j:Int) (some q')=N++some q'::ps:=by
          unfold yb;rw[hx,<-hq];simp
         simp only[dU,af,dI,ah];unfold gE;simp only[dI,Z]
         obtain⟨ai,b1,b2,b3⟩:=sW (k:=k) (i:=i) (s:=s) (ps:=N++some q'::ps) (ts:=pre++t'::ts) (nh:=c) ((a2.list O).append (.cons a3 (a2.list q2))) (by
          rw[S,xo] at J;rw[xo];simp only[ee] at J|-
          omega) VW (by
          intro u hu;rcases tl.1 hu with hu|hu
          .have:=V u (hs.arg u (by rw[S];simp[hu]));omega
          .rcases kX.1 hu with rfl|hu
           .have:=Tm.aar u (M:=M+8192) VW s1 s2;omega
           .have:=V u (hs.arg u (by rw[S];simp[hu]));omega)
         rw[e2,e3,e4,b1];exact⟨c.length,ai,rfl,(H.trans a2).trans (NE.kp b2),b3⟩
     have:=loop l [] x.aoq [] 0 nh rfl rfl rfl (NE.refl _) e5 .nil;unfold Fe;rw[Tm.Dq,dK f]
     have Q:Tm.sE room l=some none->(Tm.mk k i s l).nf=true:=by
      intro h;rw[Au room,Tm.Dq,dK f,h]
     revert this Q
     cases Tm.sE room l with
     |none=>
      rintro⟨c,a1,a2⟩ _;have e:((0:Nat):Int)=0:=rfl;rw[a1];exact⟨c,rfl,a2⟩
     |some o=>
      cases o with
      |none=>
       rintro⟨c,a1,a2⟩ Q;rw[a1];simp only[dI,ew];obtain⟨b,Z⟩:=a2.get p x e1;rw[Z];simp only[dI];exact⟨_,rfl,a2.trans (NE.flag (x:={x with normal:=b}) (a2.node _ _ T) Z (Q rfl))⟩
      |some l'=>
       rintro⟨R,c,a1,a2,a3⟩ _;rw[a1];exact⟨R,c,rfl,a2,a3⟩
def WY{M:Int}(Q:0<=M/\M<=80000000000):∀(n:Nat) (t:Tm) (p:Nat) (nh:List HC),t.aor<=n->NR nh p t->Sm M t->t.aor<=8192->∃d,jc n (some p) nh=some (t.nf,d)/\NE nh d:=by
 intro n
 induction n with
 |zero=>intro t p nh h;have:=t.eF;omega
 |succ n ih=>
  intro t p nh hn D hs F;obtain⟨x,I,R,S,T,G,U,V,L⟩:=D.inv;rw[jc];simp only[dI,I]
  by_cases v:x.normal=true
  .rw[dO v,L v];exact⟨nh,rfl,NE.refl _⟩
  .rw[dK v,P6 D hs.ok];simp only[dI];cases t with
   |mk k i s l=>
    by_cases a:(Tm.mk k i s l).root=true
    .rw[dO a,Tm.RF,a];exact⟨nh,rfl,NE.refl _⟩
    .rw[dK a];simp only[Tm.ey] at G;rw[Tm.dL] at hn F;have hlen:=Tm.fA l;have N:x.aoq.length=l.length:=G.len;rw[ei VW];simp only[dU,dY]
     have loop:∀(ts:List Tm) (ps:List (Option Nat)) (j:Nat) (f:List HC),(∀t∈ts,t∈l)->NE nh f->vG f ps ts->∃d,fa (λ(J:Int) (w:Option Nat)=>(λ(y:List HC)=>
        dR (jc n w y) λA q=>
        if A then(some (.next q))else(some ((.ret (false,q)):fp (List HC) (Bool×List HC))))) ps j f=some (if ts.all Tm.nf then .inl d else .inr (false,d))/\NE nh d:=by
      intro ts
      induction ts with
      |nil=>intro ps j f _ r h;cases h;exact⟨f,rfl,r⟩
      |cons t ts H=>
       intro ps j f hm r h;cases h with
       |cons q1 O=>
        have B:=hm t abm;have P:=eu Tm.aor B;obtain⟨C,a1,a2⟩:=ih t _ f VW q1 (hs.arg t B) VW;rw[eV,a1];simp only[dP]
        by_cases c:t.nf=true
        .rw[dO c];simp only[dI,eQ,CW,c,B1];exact H _ (j+1) C (λu hu=>hm u (by simp[hu])) (r.trans a2) (a2.list O)
        .rw[dK c];simp only[dI,AB,CW,c,ait];exact⟨C,rfl,r.trans a2⟩
     obtain⟨d,a1,a2⟩:=loop l x.aoq 0 nh (λt h=>h) (NE.refl _) G;rw[a1]
     by_cases o:l.all Tm.nf=true
     .rw[dO o];simp only[dI,ew];obtain⟨b,K⟩:=a2.get p x I;rw[K]
      have c:(Tm.mk k i s l).nf=true:=by
       rw[Tm.RF,o];simpa using a
      rw[c];exact⟨_,rfl,a2.trans (NE.flag (x:={x with normal:=b}) (a2.node _ _ D) K c)⟩
     .rw[dK o]
      have c:(Tm.mk k i s l).nf=false:=by
       rw[Tm.RF];simp[o]
      rw[c];exact⟨d,rfl,a2⟩
def sY{t:Tm}(h:t.wt<=1000000000):kL t=some (if t.err=0 then(t.aor:Int)else 0,t.err):=by
 unfold kL Tm.err;rw[w7 FU t (by rw[fl];exact h) h]
 by_cases a:t.ok=true
 .simp only[a,if_true,dP,hJ]
  by_cases b:4096<t.aor
  .rw[dO b,dO VW];rfl
  .rw[dK b,dK VW];rfl
 .simp only[a,dP];rfl
def s6{t:Tm}(h:t.wt<=1000000000):oG t=some t.err:=by
 unfold oG;rw[sY h];rfl
def Tm.iK{t:Tm}(h:t.err=0):t.ok=true/\t.aor<=4096:=by
 unfold Tm.err at h
 split at h
 .rename_i a
  split at h
  .omega
  .exact⟨a,VW⟩
 .omega
def V':∀(n:Nat) (t:Tm) (b:Int) (s:Bool),t.aor<=n->t.ok=true->t.aor<=1000000->0<=b->b+t.aor<=100000000->jN n t b (λ(s:Bool) (o:Int) (q:Int)=>rZ o q s) s=some (s&&t.aov 536870912):=by
 intro n
 induction n with
 |zero=>intro t b s h;have:=t.eF;omega
 |succ n ih=>
  intro t b s h A hn I r;cases t with
  |mk k i ty l=>
   obtain⟨o1,o2,B,C,J⟩:=Tm.lM A;rw[Tm.dL] at h hn r;have hlen:=Tm.fA l;rw[jN];simp only[Tm.ey,Tm.eD,Tm.gn,dY,gi];rw[Tm.fo]
   by_cases f:k=1
   .have D:=o1 f;subst D;rw[dO f];unfold rZ;cases s with
    |true=>simp[Tq];rfl|false=>simp;rfl
   .rw[dK f];have hi:=B f;subst hi
    have v:fq (eo k 2) (eH .i64 b 1) b=b+eT k:=by
     unfold eT
     by_cases w:k=2
     .subst w;rw[dO rfl];exact e9 VW VW
     .rw[dK w]
      have:eo k 2=false:=by simp[eo,w]
      rw[this];simp
    have F:=hV k;rw[ei (l:=l) VW];simp only[dU,v]
    have loop:∀(ts:List Tm) (j:Nat) (s:Bool),(∀t∈ts,t∈l)->fa (λ(G:Int) (x:Tm)=>(λ(a:Bool)=>
      dH (jN n x (b+eT k) (λ(s:Bool) (o:Int) (q:Int)=>rZ o q s) a) λc=>
      some ((.next c):fp Bool Bool))) ts j s=some (.inl (s&&ts.all (Tm.aov 536870912))):=by
     intro ts
     induction ts with
     |nil=>intro j s _;simp|cons t ts y=>
      intro j s hm;have d:=hm t abm;have H:=eu Tm.aor d;rw[eV,ih t _ _ VW (C t d) VW VW VW];simp only[dI,eQ];rw[y (j+1) _ λu hu=>hm u (by simp[hu])];simp[Bool.and_assoc]
    rw[loop l 0 s λt h=>h];simp
def Nw{t:Tm}(a:t.ok=true)(hn:t.aor<=1000000):yH t=some (t.aov 536870912):=by
 unfold yH sq;rw[V' FU t 0 true (by rw[fl];omega) a hn VW VW];simp
def Tm.z:Tm:=.mk 0 0 (.mk 0 []) []
def NR.aeX{nh:List HC}{c:Nat}{st a:fT}(h:HC.fj nh c=some st):∀n,(∀p t,t.aor<=n->NR nh p t->NR (kB nh c (HC.fZ a)) p t):=by
 have r:=HC.gH h
 have d:∀q y,HC.dX nh q=some y->HC.dX (kB nh c (HC.fZ a)) q=some y:=by
  intro q y hy;have f:=HC.ed hy
  have j:c≠q:=by
   rintro rfl;rw[r] at f;cases f
  unfold HC.dX kB;rw[Tv j,f]
 intro n
 induction n with
 |zero=>intro p t h;have:=t.eF;omega
 |succ n ih=>
  intro p t v w;obtain⟨y,x,A,B,C,D,F,G,H⟩:=w.inv
  have b:∀(ts:List Tm) (ps:List (Option Nat)),(∀t∈ts,t.aor<=n)->vG nh ps ts->vG (kB nh c (HC.fZ a)) ps ts:=by
   intro ts
   induction ts with
   |nil=>intro ps _ h;cases h;exact .nil
   |cons t ts o=>
    intro ps hm h;cases h with
    |cons g1 g2=>exact .cons (ih _ _ (hm t abm) g1) (o _ (λu hu=>hm u (by simp[hu])) g2)
  refine NR.of (d _ _ x) A B C (b _ _ ?_ D) F G H;intro u hu;cases t with
  |mk k i s l=>
   rw[Tm.dL] at v;have:=eu Tm.aor hu;simp only[Tm.ey] at this;omega
def FL{nh:List HC}{b:Nat}{st a:fT}(h:HC.fj nh b=some st):HC.fj (kB nh b (HC.fZ a)) b=some a:=by
 have d:=HC.gH h;have c:=(ru.1 d).1;unfold HC.fj kB;simp[c]
structure At (nh:List HC) (s0:Nat) (t:Tm) (m:Int):Prop where
 st:∃p,HC.fj nh s0=some ⟨some p,m⟩/\NR nh p t
def aet{M:Int}(k:0<=M/\M<=80000000000){nh:List HC}{d:Nat}{t:Tm}{m:Int}(h:At nh d t m)(hs:Sm M t)(hn:t.aor<=4096)(hm:0<=m/\m<=1000000):match t.Ka (4096-t.aor)with
  |none=>∃a,jE (some d) nh=some (false,4,a)|some none=>∃a,jE (some d) nh=some (false,0,a)/\At a d t m|some (some j)=>∃a,jE (some d) nh=some (true,0,a)/\At a d j (m+1):=by
 obtain⟨p,f,i⟩:=h.st;obtain⟨x,l,_,_,_,_,n,_⟩:=i.inv;have q:=t.eF;have b:=aeo (M:=M) (room:=4096-t.aor) k VW FU t p nh (by rw[fl];omega) i hs VW;unfold jE rJ;simp only[dI,f,l,n];rw[fF VW VW];unfold Fe at b
 split at b
 .rename_i c;obtain⟨a,a1,a2⟩:=b
  try rw[c]
  rw[a1];exact⟨a,rfl⟩
 .rename_i c;obtain⟨a,a1,a2⟩:=b
  try rw[c]
  rw[a1];exact⟨a,rfl,⟨p,a2.state _ _ f,a2.node _ _ i⟩⟩
 .rename_i j c;obtain⟨o,a,a1,a2,a3⟩:=b
  try rw[c]
  rw[a1];have g1:=a2.state _ _ f;simp only[gw];rw[dK (by simp[eR])];simp only[g1,dI];rw[e9 VW VW];refine⟨_,rfl,⟨o,FL (FL g1),?_⟩⟩;exact NR.aeX (FL g1) _ _ _ (gY _) (NR.aeX g1 _ _ _ (gY _) a3)
def Tm.norm:Nat->Int->Tm->Tm×Int×Int
 |0,m,t=>if t.nf then(t,m,0)else(Tm.z,0,5)|k+1,m,t=>match t.Ka (4096-t.aor)with
  |none=>(Tm.z,0,4)|some none=>(t,m,0)|some (some a)=>Tm.norm k (m+1) a
def Qq{k:Nat}{m:Int}{t:Tm}(h:t.Ka (4096-t.aor)=none):t.norm (k+1) m=(Tm.z,0,4):=by rw[Tm.norm,h]
def Bj{k:Nat}{m:Int}{t:Tm}(h:t.Ka (4096-t.aor)=some none):t.norm (k+1) m=(t,m,0):=by rw[Tm.norm,h]
def Bz{k:Nat}{m:Int}{t a:Tm}(h:t.Ka (4096-t.aor)=some (some a)):t.norm (k+1) m=a.norm k (m+1):=by rw[Tm.norm,h]
def Jo{σ ρ:Type}{F:σ->Option (fp σ ρ)}:∀{n m:Nat} {s:σ} {o:σ⊕ρ},n<=m->jL F n s=some o->jL F m s=some o
 |0,_,_,_,_,h=>by cases h
 |n+1,0,_,_,hm,_=>by omega|n+1,m+1,s,o,hm,h=>by
  rw[gM] at h|-;obtain⟨c,b,a⟩:=eB h;rw[b];simp only[dI];cases c with
  |next d=>exact Jo VW a|xA d=>exact a|ret r=>exact a
def PX(s:Nat)(steps:Int)(L:0<=steps/\steps<=65536):∀(k:Nat) (m:Int) (t:Tm) (nh:List HC),(k:Int)=steps-m->0<=m->At nh s t m->Sm (536870912+8192*m) t->t.aor<=4096->∃o,jL (λ(a:List HC)=>
   dH (HC.fj a s) λu=>
   if(pH u.steps steps) then(
   fm (jE (some s) a) λv l c=>
   if(eR l 0) then(some (.ret ((Tm.mk 0 0 (Ty.mk 0 []) []),0,l)))
   else(if v then(some (.next c))
   else(dH (HC.fj c s) λn=>
   dH (iN FU n.term c) λw=>
   some (.ret (w,n.steps,0)))))
   else(some ((.xA a):fp (List HC) (Tm×Int×Int)))) (k+1) nh=some o/\fQ (λ(a:List HC)=>
    dH (HC.fj a s) λx=>
    dR (jc FU x.term a) λy h=>
    if y then(
    dH (HC.fj h s) λq=>
    dH (iN FU q.term h) λA=>
    some (A,q.steps,0))
    else(some ((Tm.mk 0 0 (Ty.mk 0 []) []),0,5))) (λr=>some r) o=some (t.norm k m):=by
 intro k
 induction k with
 |zero=>
  intro m t nh F hm i hs hn;obtain⟨p,B,C⟩:=i.st;refine⟨.inl nh,?_,?_⟩
  .rw[gM];simp only[B,dI];rw[dK (by rw[jA];omega)];rfl
  .rw[ew];simp only[B,dI];obtain⟨d,a1,a2⟩:=WY (M:=536870912+8192*m) VW FU t p nh (by rw[fl];omega) C hs VW;rw[a1];simp only[dP,Tm.norm]
   by_cases j:t.nf=true
   .rw[dO j,dO j];simp only[a2.state _ _ B,dI];rw[Uy (M:=536870912+8192*m) d FU t p (by rw[fl];omega) hs (a2.node _ _ C)];rfl
   .rw[dK j,dK j];rfl
 |succ k ih=>
  intro m t nh F hm i hs hn;obtain⟨p,B,C⟩:=i.st;have b:=aet (M:=536870912+8192*m) VW i hs hn VW;rw[gM];simp only[B,dI];rw[dO (by rw[jA];omega)]
  split at b
  .rename_i f;obtain⟨d,a1⟩:=b;rw[Qq f,a1];exact⟨_,rfl,rfl⟩
  .rename_i f;obtain⟨d,a1,a2⟩:=b;obtain⟨G,H,I⟩:=a2.st;rw[Bj f,a1];simp only[gw];rw[dK aal,dK aal];simp only[H,dI];rw[Uy (M:=536870912+8192*m) d FU t G (by rw[fl];omega) hs I];exact⟨_,rfl,rfl⟩
  .rename_i D f;obtain⟨d,a1,a2⟩:=b;rw[Bz f,a1];simp only[gw];rw[dK aal];simp only[if_true,dI,eQ];obtain⟨J,K,c3⟩:=Nz (M:=536870912+8192*m) VW t hs VW D f;exact ih (m+1) D d VW VW a2 ⟨J,by rw[show 536870912+8192*(m+1)=536870912+8192*m+8192 by omega];exact K,VW⟩ VW
def Sm.start{t:Tm}(h:t.err=0)(a:t.aov 536870912=true):Sm 536870912 t:=⟨(Tm.iK h).1,a,by have:=(Tm.iK h).2;omega⟩
def Fx{t:Tm}(hw:t.wt<=1000000000)(steps:Int):mv t steps=some (if t.err=0 then(if 0<=steps/\steps<=65536/\t.aov 536870912 then t.norm steps.toNat 0 else(Tm.z,0,1))else(Tm.z,0,t.err)):=by
 unfold mv;rw[s6 hw];simp only[dI]
 by_cases he:t.err=0
 .rw[dK (by simp[he]),dO he];obtain⟨j,hn⟩:=Tm.iK he;simp only[dY]
  by_cases f:steps<0
  .rw[dO ((jA _ _).2 f),dO trivial,dK (λh=>absurd h.1 VW)];rfl
  .rw[dK (by rw[jA];exact f)]
   by_cases i:65536<steps
   .rw[dO ((hJ _ _).2 i),dO trivial,dK (λh=>absurd h.2.1 VW)];rfl
   .rw[dK (by rw[hJ];exact i),Nw j VW];simp only[dI]
    by_cases a:t.aov 536870912=true
    .have c:lF (t.aov 536870912)=false:=by rw[a];rfl
     rw[dK (by rw[c];decide),dO ⟨VW,VW,a⟩];have b:=Sm.start he a;obtain⟨p,nh,a1,a2,a3⟩:=adZ (M:=536870912) VW FU t [] (by rw[fl];omega) b;rw[a1];simp only[dP];have d:At (nh++[HC.fZ (fT.mk (some p) 0)]) nh.length t 0:=⟨p,by unfold HC.fj;simp,a3.app⟩;obtain⟨o,k,l⟩:=PX nh.length steps VW steps.toNat 0 t _ VW VW d (by simpa using b) hn;have n:=Jo (m:=FU) (by rw[fl];omega) k;rw[n];exact l
    .have c:lF (t.aov 536870912)=true:=by simp[a]
     rw[dO c,dK (λh=>a h.2.2)];rfl
 .rw[dO (by simp[he]),dK he];rfl
mutual
def Fm.aor:Fm->Nat
 |.mk _ _ ts l=>1+ee Tm.aor ts+Fm.ov l
def Fm.ov:List Fm->Nat
 |[]=>0|t::l=>t.aor+Fm.ov l
end
def Fm.r7(l:List Fm):Fm.ov l=ee Fm.aor l:=by
 induction l with
 |nil=>rfl|cons t l ih=>simp[Fm.ov,ee,ih]
theorem Fm.dL(k:Int)(s:Ty)(ts:List Tm)(l:List Fm):(Fm.mk k s ts l).aor=1+ee Tm.aor ts+ee Fm.aor l:=by rw[Fm.aor,Fm.r7]
def Fm.eF(t:Fm):1<=t.aor:=by cases t;rw[Fm.aor];omega
def Fm.fA(l:List Fm):l.length<=ee Fm.aor l:=je _ _ λt _=>t.eF
mutual
def Fm.wt:Fm->Nat
 |.mk _ s ts l=>1+s.aor+ee Tm.wt ts+Fm.Un l
def Fm.Un:List Fm->Nat
 |[]=>0|t::l=>t.wt+Fm.Un l
end
def Fm.Fv(l:List Fm):Fm.Un l=ee Fm.wt l:=by
 induction l with
 |nil=>rfl|cons t l ih=>simp[Fm.Un,ee,ih]
def Fm.iE(k:Int)(s:Ty)(ts:List Tm)(l:List Fm):(Fm.mk k s ts l).wt=1+s.aor+ee Tm.wt ts+ee Fm.wt l:=by rw[Fm.wt,Fm.Fv]
def Fm.kf(t:Fm):1<=t.wt:=by cases t;rw[Fm.wt];omega
def Fm.p7(l:List Fm):l.length<=ee Fm.wt l:=je _ _ λt _=>t.kf
def Fm.ind{p:Fm->Prop}(h:∀k s ts l,(∀t∈l,p t)->p (.mk k s ts l))(t:Fm):p t:=by
 have:∀n (t:Fm),t.aor<=n->p t:=by
  intro n
  induction n with
  |zero=>intro t a;have:=t.eF;omega
  |succ n ih=>
   intro t a;cases t with
   |mk k s ts l=>
    rw[Fm.dL] at a;exact h k s ts l λu hu=>ih u (by have:=eu Fm.aor hu;omega)
 exact this _ t (gY _)
def Fm.ij(t:Fm):t.aor<=t.wt:=by
 induction t using Fm.ind with
 |h k s ts l ih=>rw[Fm.dL,Fm.iE];have:=kI ih;have:=kI (f:=Tm.aor) (g:=Tm.wt) (l:=ts) λx _=>x.ij;omega
def i_(k:Int):Bool:=decide (k=4\/k=5\/k=6\/k=7)
def qB(k:Int):Int:=if i_ k then 1 else 0
def uI(k:Int):0<=qB k/\qB k<=1:=by unfold qB;split<;>omega
def l7(k:Int):lA k=some (i_ k):=by
 unfold lA i_
 congr 1
 rw[L'];simp
def qk(f:Fm):nk f=some (qB f.aop):=by
 unfold nk qB;rw[l7];simp only[dI]
 split<;>rfl
def Fm.node(k:Int)(s:Ty)(a n:Nat):Bool:=
 if k=1 then s.rj&&decide (a=2)&&decide (n=0)
 else if k=2\/k=3 then s.rj&&decide (a=0)&&decide (n=2)
 else i_ k&&decide (s.err=0)&&decide (a=0)&&decide (n=1)
mutual
def Fm.ok:Fm->Bool
 |.mk k s ts l=>Fm.node k s ts.length l.length&&ts.all Tm.ok&&Fm.Mu l
def Fm.Mu:List Fm->Bool
 |[]=>true|t::l=>t.ok&&Fm.Mu l
end
def Fm.AS(l:List Fm):Fm.Mu l=l.all Fm.ok:=by
 induction l with
 |nil=>rfl|cons t l ih=>simp[Fm.Mu,ih]
theorem Fm.gX(k:Int)(s:Ty)(ts:List Tm)(l:List Fm):(Fm.mk k s ts l).ok=(Fm.node k s ts.length l.length&&ts.all Tm.ok&&l.all Fm.ok):=by rw[Fm.ok,Fm.AS]
def Fm.err(t:Fm):Int:=if t.ok then(if 4096<t.aor then 4 else 0)else 2
def ux{α:Type}{l:List α}:(l.length:Int)=0↔l=[]:=by cases l<;>simp;omega
def OT{α:Type}{l:List α}(h:(l.length:Int)=1):∃a,l=[a]:=by
 match l,h with
 |[a],_=>exact⟨a,rfl⟩|[],h=>simp at h
 |_::_::_,h=>simp at h;omega
def BN{α:Type}{l:List α}(h:(l.length:Int)=2):∃a b,l=[a,b]:=by
 match l,h with
 |[a,b],_=>exact⟨a,b,rfl⟩|[],h=>simp at h
 |[_],h=>simp at h
 |_::_::_::_,h=>simp at h;omega
def yL{t:Tm}(h:t.wt<=1000000000):k9 FU t=some t.ok:=AG FU t (by rw[fl];exact h) h
def Al:∀(n:Nat) (t:Fm),t.wt<=n->t.wt<=1000000000->ml n t=some t.ok:=by
 intro n
 induction n with
 |zero=>intro t h;have:=t.kf;omega
 |succ n ih=>
  intro t h o;cases t with
  |mk k s ts l=>
   rw[Fm.iE] at h o;rw[ml,Fm.gX];simp only[Fm.ey,Fm.eD,Fm.ik,Fm.fx,dY,lW,sx,gi,fV,xS,l7,mI (t:=s) VW,dI,eO,gy]
   by_cases r:k=1
   .simp only[r,if_true,Fm.node]
    by_cases j:(l.length:Int)=0
    .have:=ux.1 j;subst this;cases i:s.rj with
     |false=>simp|true=>
      by_cases d:(ts.length:Int)=2
      .obtain⟨a,b,rfl⟩:=BN d;simp only[ee] at h o;simp only[d,if_true,jW,nJ,dI];rw[yL (t:=a) VW,yL (t:=b) VW];cases c:a.ok<;>cases f:b.ok<;>simp[c,f]
      .have c:¬ts.length=2:=VW
       simp[d,c]
    .have i:¬l.length=0:=VW
     simp[j,i]
   .simp only[r,jt,Fm.node]
    by_cases j:k=2\/k=3
    .simp only[j,if_true]
     by_cases i:(ts.length:Int)=0
     .have:=ux.1 i;subst this;cases d:s.rj with
      |false=>simp|true=>
       by_cases c:(l.length:Int)=2
       .obtain⟨a,b,rfl⟩:=BN c;simp only[ee] at h o;simp only[c,if_true,jW,nJ,dI];rw[ih a VW VW,ih b VW VW];cases f:a.ok<;>cases q:b.ok<;>simp[f,q]
       .have f:¬l.length=2:=VW
        simp[c,f]
     .have d:¬ts.length=0:=VW
      simp[i,d]
    .simp only[j,jt];cases i:i_ k with
     |false=>simp|true=>
      by_cases d:(ts.length:Int)=0
      .have:=ux.1 d;subst this
       by_cases c:s.err=0
       .by_cases f:(l.length:Int)=1
        .obtain⟨a,rfl⟩:=OT f;simp only[ee] at h o;simp only[c,f,if_true,jW,dI];rw[ih a VW VW];simp
        .have q:¬l.length=1:=VW
         simp[c,f,q]
       .simp[c]
      .have c:¬ts.length=0:=VW
       simp[d,c]
def sP:∀(n:Nat) (t:Fm),t.aor<=n->t.aor<=1000000000->my n t=some (t.aor:Int):=by
 intro n
 induction n with
 |zero=>intro t h;have:=t.eF;omega
 |succ n ih=>
  intro t h b;cases t with
  |mk k s ts l=>
   rw[Fm.dL] at h b;have f:=Fm.fA l;have c:=Tm.fA ts;rw[my];simp only[Fm.ey,Fm.ik,dY,ei (l:=l) VW,ei (l:=ts) VW,dU]
   have d:=qd (ρ:=Int) (F:=λ(j:Int) (x:Tm) (v:Int)=>dH (gj FU x) λy=>some (fp.next (eH .i64 v y))) Tm.aor ts 0 1 VW (by
    intro j x v a;have:=eu Tm.aor a;rw[oq FU x (by rw[fl];omega) VW]
    rfl)
   have k2:=qd (ρ:=Int) (F:=λ(j:Int) (x:Fm) (v:Int)=>dH (my n x) λy=>some (fp.next (eH .i64 v y))) Fm.aor l 0 (1+ee Tm.aor ts) VW (by
    intro j x v a;have:=eu Fm.aor a;rw[ih x VW VW]
    rfl)
   rw[show(1:Int)=((1:Nat):Int)from rfl,d];simp only[dI,ew];rw[k2];simp[Fm.dL]
def iz{t:Fm}(h:t.wt<=1000000000):km t=some t.err:=by
 have:=t.ij;unfold km Fm.err;rw[Al FU t (by rw[fl];exact h) h,sP FU t (by rw[fl];omega) VW];cases t.ok with
 |false=>simp|true=>by_cases a:4096<t.aor<;>simp[a]<;>omega
def Ko(f:Fm)(h:f.wt<=1000000000):rY f=some (Fm.node f.aop f.dM f.ek.length f.aoq.length):=by
 cases f with
 |mk k s ts l=>
  rw[Fm.iE] at h;show rY (.mk k s ts l)=some (Fm.node k s ts.length l.length)
  have d:(eo (ts.length:Int) 2&&eo (l.length:Int) 0)=(decide (ts.length=2)&&decide (l.length=0)):=by
   rw[L'];simp only[gJ,gi,oU];omega
  have i:(eo (ts.length:Int) 0&&eo (l.length:Int) 2)=(decide (ts.length=0)&&decide (l.length=2)):=by
   rw[L'];simp only[gJ,gi,oU];omega
  have j:(eo (ts.length:Int) 0&&eo (l.length:Int) 1)=(decide (ts.length=0)&&decide (l.length=1)):=by
   rw[L'];simp only[gJ,gi,oU];omega
  unfold rY;simp only[Fm.ey,Fm.eD,Fm.ik,Fm.fx,dY,lW,u6,sx,gi,fV,lQ (t:=s) VW,td,dI,dP,eW,d,i,j];unfold Fm.node
  by_cases b:k=1
  .cases c:s.rj<;>simp[b]
  .by_cases c:k=2\/k=3
   .cases a:s.rj<;>simp[b,c]
   .by_cases a:k=4\/k=5\/k=6\/k=7
    .have n:i_ k=true:=by simp[i_,a]
     by_cases o:s.err=0<;>simp[b,c,a,o,n]
    .have n:i_ k=false:=by simp[i_,a]
     simp[b,c,a,n]
def An:∀(n:Nat) (t:Fm),t.wt<=n->t.wt<=1000000000->jG n t=some (if t.ok then((t.aor:Int),true)else(0,false)):=by
 intro n
 induction n with
 |zero=>intro t h;have:=t.kf;omega
 |succ n ih=>
  intro t h o;cases t with
  |mk k s ts l=>
   have q:=Ko (.mk k s ts l) o;rw[Fm.iE] at h o;have y:=Fm.p7 l;have r:=Tm.p7 ts;have hn:ee Tm.aor ts<=ee Tm.wt ts:=kI λx _=>x.ij;have u:ee Fm.aor l<=ee Fm.wt l:=kI λx _=>x.ij
   have w:fa (λ(f:Int) (a:Tm) (b:Int)=>dR (jV FU a) λc d=>if d then some (fp.next (eH .i64 b c))else some (fp.ret ((0:Int),false))) ts 0 1=if ts.all Tm.ok then some (.inl ((1+ee Tm.aor ts:Nat):Int))else some (.inr (0,false)):=by
    refine wu Tm.aor Tm.ok _ ts 0 1 VW ?_;intro j x v i;have:=eu Tm.wt i;rw[w7 FU x (by rw[fl];omega) VW];cases x.ok<;>simp
   have k2:fa (λ(f:Int) (a:Fm) (b:Int)=>dR (jG n a) λc d=>if d then some (fp.next (eH .i64 b c))else some (fp.ret ((0:Int),false))) l 0 ((1+ee Tm.aor ts:Nat):Int)=if l.all Fm.ok then some (.inl ((1+ee Tm.aor ts+ee Fm.aor l:Nat):Int))else some (.inr (0,false)):=by
    refine wu Fm.aor Fm.ok _ l 0 _ VW ?_;intro j x v i;have:=eu Fm.wt i;rw[ih x VW VW];cases x.ok<;>simp
   rw[jG,q];simp only[Fm.ey,Fm.eD,Fm.ik,Fm.fx,dY,ei (l:=l) VW,ei (l:=ts) VW,dU,dI,w,Fm.gX,Fm.dL];cases A:Fm.node k s ts.length l.length with
   |false=>simp|true=>
    cases B:ts.all Tm.ok with
    |false=>simp|true=>
     simp only[if_true,dI,ew,k2,B1];cases C:l.all Fm.ok<;>simp
def qi{t:Fm}(h:t.wt<=1000000000):jd t=some (if t.err=0 then(t.aor:Int)else 0,t.err):=by
 unfold jd Fm.err;rw[An FU t (by rw[fl];exact h) h];cases t.ok with
 |false=>simp|true=>
  by_cases a:4096<t.aor
  .simp[a];omega
  .simp[a];omega
def oh{t:Fm}(h:t.wt<=1000000000):kF t=some t.err:=by
 unfold kF;rw[qi h];rfl
def L_:∀(n:Nat) (t:Fm),t.wt<=n->t.wt<=1000000000->l0 n t=some t:=by
 intro n
 induction n with
 |zero=>intro t h;have:=t.kf;omega
 |succ n ih=>
  intro t h c;cases t with
  |mk k s ts l=>
   rw[Fm.iE] at h c;have f:=Fm.p7 l;have d:=Tm.p7 ts;rw[l0];simp only[Fm.ey,Fm.eD,Fm.ik,Fm.fx,dY,ei (l:=l) VW,ei (l:=ts) VW,dU,jM (t:=s) VW,dI];rw[kh id ts 0 [] abv]
   .simp only[dI,ew];rw[kh id l 0 [] abv]
    .simp
    .intro j x v a b;have:=eu Fm.wt a;rw[ih x VW VW];simp[fk (l:=v) (m:=[x]) (by simpa using b)]
   .intro j x v a b;have:=eu Tm.wt a;rw[uA (t:=x) VW];simp[fk (l:=v) (m:=[x]) (by simpa using b)]
def w8{t:Fm}(h:t.wt<=1000000000):l0 FU t=some t:=L_ FU t (by rw[fl];exact h) h
mutual
def Fm.has:Fm->Bool
 |.mk k _ _ l=>if k=1 then false else if k=2 then Fm.CM l else if k=5 then true else Fm.oc l
def Fm.CM:List Fm->Bool
 |[]=>false|f::l=>f.has||Fm.CM l
def Fm.oc:List Fm->Bool
 |[]=>false|[f]=>f.has|_::f::l=>Fm.oc (f::l)
end
def xh(k:Int)(a b:Ty):Ty×Bool×Int:=if(Ty.mk k [a,b]).err≠0 then(.mk 0 [],false,(Ty.mk k [a,b]).err)else(.mk k [a,b],true,0)
def Zn(first last:Ty×Bool×Int):Ty×Bool×Int:=
 if first.2.2≠0\/first.2.1=false then(last.1,last.2.1,first.2.2)else if last.2.1 then xh 3 first.1 last.1 else(first.1,true,0)
def aa'(first last:Ty×Bool×Int):Ty×Bool×Int:=
 if first.2.2≠0\/first.2.1=false then(last.1,true,first.2.2)else xh 4 first.1 last.1
def Dn(k:Int)(s:Ty)(first last:Ty×Bool×Int):Ty×Bool×Int:=
 if last.2.2≠0 then(.mk 0 [],false,last.2.2)
 else if k=2 then Zn first last
 else if k=5 then(if last.2.1 then xh 3 s last.1 else(s,true,0))
 else if last.2.1 then(if k=3 then aa' first last else if k=4 then xh 4 s last.1 else(last.1,true,0))
 else(.mk 0 [],false,0)
def Tu:Ty×Bool×Int:=(.mk 0 [],false,0)
mutual
def Fm.ct:Fm->Ty×Bool×Int
 |.mk k s _ l=>if k=1 then Tu else Dn k s (Fm.M_ l) (Fm.GQ l)
def Fm.M_:List Fm->Ty×Bool×Int
 |[]=>Tu|f::_=>f.ct
def Fm.GQ:List Fm->Ty×Bool×Int
 |[]=>Tu|[f]=>f.ct|_::f::l=>Fm.GQ (f::l)
end
def Fm.BE(k:Int)(s:Ty)(ts:List Tm)(a b:Fm):(Fm.mk k s ts [a,b]).has=if k=1 then false else if k=2 then a.has||b.has else if k=5 then true else b.has:=by
 rw[Fm.has];simp[Fm.CM,Fm.oc]
def Fm.ug(k:Int)(s:Ty)(ts:List Tm)(a:Fm):(Fm.mk k s ts [a]).has=if k=1 then false else if k=5 then true else a.has:=by
 rw[Fm.has];simp only[Fm.CM,Fm.oc,Bool.or_false]
 by_cases b:k=2
 .subst b;simp
 .simp[b]
def Fm.has_eq(s:Ty)(ts:List Tm)(l:List Fm):(Fm.mk 1 s ts l).has=false:=by rw[Fm.has];simp
def Fm.Yo(k:Int)(s:Ty)(ts:List Tm)(a b:Fm):(Fm.mk k s ts [a,b]).ct=if k=1 then Tu else Dn k s a.ct b.ct:=by
 rw[Fm.ct];simp[Fm.M_,Fm.GQ]
def Fm.aaH(k:Int)(s:Ty)(ts:List Tm)(a:Fm):(Fm.mk k s ts [a]).ct=if k=1 then Tu else Dn k s a.ct a.ct:=by
 rw[Fm.ct];simp[Fm.M_,Fm.GQ]
def Fm.afg(s:Ty)(ts:List Tm)(l:List Fm):(Fm.mk 1 s ts l).ct=Tu:=by rw[Fm.ct];simp
def Fm.nw{p:Fm->Prop}(q:∀a b:Tm,a.ok=true->b.ok=true->p (.mk 1 (.mk 0 []) [a,b] []))
  (r:∀(k:Int) (a b:Fm),k=2\/k=3->a.ok=true->b.ok=true->p a->p b->p (.mk k (.mk 0 []) [] [a,b]))
  (t:∀(k:Int) (s:Ty) (a:Fm),k=4\/k=5\/k=6\/k=7->s.err=0->a.ok=true->p a->p (.mk k s [] [a])) (f:Fm) (j:f.ok=true):p f:=by
 induction f using Fm.ind with
 |h k s ts l ih=>
  rw[Fm.gX] at j;simp only[gJ,kZ] at j;obtain⟨⟨hn,d⟩,c⟩:=j;unfold Fm.node at hn
  split at hn
  .rename_i n;subst n;simp only[gJ,oU,Ty.mB] at hn;obtain⟨⟨rfl,i⟩,o⟩:=hn;obtain⟨a,b,rfl⟩:=BN (l:=ts) VW;have:=adx.1 o;subst this;exact q a b (d a abm) (d b abm)
  .split at hn
   .rename_i n;simp only[gJ,oU,Ty.mB] at hn;obtain⟨⟨rfl,i⟩,o⟩:=hn;obtain⟨a,b,rfl⟩:=BN (l:=l) VW;have:=adx.1 i;subst this;exact r k a b n (c a abm) (c b abm) (ih a abm (c a abm)) (ih b abm (c b abm))
   .simp only[gJ,oU] at hn;obtain⟨⟨⟨u,hs⟩,i⟩,o⟩:=hn;obtain⟨a,rfl⟩:=OT (l:=l) VW;have:=adx.1 i;subst this;refine t k s a ?_ hs (c a abm) (ih a abm (c a abm));simpa[i_] using u
theorem Ty.il{t:Ty}(h:t.err=0):t.ok=true/\t.aor<=64:=by
 unfold Ty.err at h
 split at h
 .split at h
  .omega
  .exact⟨‹_›,VW⟩
 .omega
theorem Ty.Dc{t:Ty}(h:t.ok=true)(a:t.aor<=64):t.err=0:=by unfold Ty.err;rw[dO h,dK VW]
def Ty.ag3{t:Ty}(h:t.ok=true):t.err=0\/t.err=4:=by unfold Ty.err;rw[dO h];split<;>simp
def Ty.ok_two{k:Int}(c:k=3\/k=4){a b:Ty}(d:a.ok=true)(f:b.ok=true):(Ty.mk k [a,b]).ok=true:=by
 rw[Ty.gX]
 have:¬(k=1\/k=2\/k=5):=VW
 simp[Ty.want,c,this,d,f]
def yS{k:Int}(c:k=3\/k=4){a b:Ty}(d:a.ok=true)(f:b.ok=true):((xh k a b).2.2=0\/(xh k a b).2.2=4)/\((xh k a b).2.2=0->(xh k a b).2.1=true/\(xh k a b).1.err=0):=by
 unfold xh;rcases Ty.ag3 (Ty.ok_two c d f)with h|h
 .rw[dK (by simp[h])];exact⟨.inl rfl,λ_=>⟨rfl,h⟩⟩
 .rw[dO VW];exact⟨.inr h,λi=>absurd (h.symm.trans i) aal⟩
structure ak_ (f:Fm):Prop where
 e:f.ct.2.2=0\/f.ct.2.2=4
 h:f.ct.2.2=0->f.ct.2.1=f.has
 n:f.has=false->f.ct.2.2=0
 t:f.ct.2.2=0->f.has=true->f.ct.1.err=0
def I9(f:Fm)(A:f.ok=true):ak_ f:=by
 refine Fm.nw (p:=ak_) ?_ ?_ ?_ f A
 .intro a b _ _;refine⟨?_,?_,?_,?_⟩<;>rw[Fm.afg]<;>simp[Tu,Fm.has_eq]
 .intro k a b x B D c l
  have j:k≠1:=VW
  have u:k≠5:=VW
  refine⟨?_,?_,?_,?_⟩<;>rw[Fm.Yo,dK j]<;>(try rw[Fm.BE,dK j])<;>(try simp only[u,jt])<;>unfold Dn
  all_goals
   rcases l.e with eb|eb
   .have C:=l.h eb;have q:=l.t eb;rcases x with rfl|rfl
    .--and
     simp only[eb,ne_eq,Q_,jt,if_true];unfold Zn;rcases c.e with ea|ea
     .have r:=c.h ea;have d:=c.t ea;cases i:a.has
      .simp_all
      .cases o:b.has
       .simp_all
       .have:=yS (k:=3) (.inl rfl) (Ty.il (d i)).1 (Ty.il (q o)).1
        simp_all
     .have:a.has=true:=by
       cases h:a.has with
       |true=>rfl|false=>have:=c.n h;omega
      simp_all
    .simp only[eb,ne_eq,Q_,jt,show¬(3:Int)=2 by omega,show¬(3:Int)=5 by omega,if_true];unfold aa';cases o:b.has
     .simp_all
     .rcases c.e with ea|ea
      .have r:=c.h ea;have d:=c.t ea;cases i:a.has
       .simp_all
       .have:=yS (k:=4) (.inr rfl) (Ty.il (d i)).1 (Ty.il (q o)).1
        simp_all
      .simp_all
   .have:b.has=true:=by
     cases h:b.has with
     |true=>rfl|false=>have:=l.n h;omega
    simp[eb,this]
 .intro k s a x hs B c
  have j:k≠1:=VW
  have v:k≠2:=VW
  have w:k≠3:=VW
  refine⟨?_,?_,?_,?_⟩<;>rw[Fm.aaH,dK j]<;>(try rw[Fm.ug,dK j])<;>unfold Dn<;>(try simp only[v,w,jt])
  all_goals
   rcases c.e with ea|ea
   .have r:=c.h ea;have d:=c.t ea;cases i:a.has
    .by_cases y:k=5<;>simp_all
    .have F:=yS (k:=3) (.inl rfl) (Ty.il hs).1 (Ty.il (d i)).1;have G:=yS (k:=4) (.inr rfl) (Ty.il hs).1 (Ty.il (d i)).1
     by_cases y:k=5
     .simp_all
     .by_cases H:k=4<;>simp_all
   .have:a.has=true:=by
     cases h:a.has with
     |true=>rfl|false=>have:=c.n h;omega
    by_cases y:k=5<;>simp_all
theorem Ty.sk(k:Int)(a b:Ty):(Ty.mk k [a,b]).aor=1+a.aor+b.aor:=by rw[Ty.dL];simp[ee];omega
def IU(f:Fm)(a:f.ok=true)(h:f.ct.2.2=0)(b:f.ct.2.1=true):f.ct.1.aor<=64:=
 (Ty.il ((I9 f a).t h (by rw[<-(I9 f a).h h];exact b))).2
def Fm.iK{f:Fm}(h:f.err=0):f.ok=true/\f.aor<=4096:=by
 unfold Fm.err at h
 split at h
 .split at h
  .omega
  .exact⟨‹_›,VW⟩
 .omega
def Fm.Pn(f:Fm):Ty×Int:=if f.err≠0 then(.mk 0 [],f.err)else if f.ct.2.2≠0 then(.mk 0 [],f.ct.2.2)else(if f.has then f.ct.1 else .mk 5 [],0)
def FR:∀(n:Nat) (f:Fm),f.aor<=n->f.ok=true->jU n f=some f.has:=by
 intro n
 induction n with
 |zero=>intro f h;have:=f.eF;omega
 |succ n ih=>
  intro f h t;refine Fm.nw (p:=λf=>f.aor<=n+1->jU (n+1) f=some f.has) ?_ ?_ ?_ f t h
  .intro a b _ _ _;rw[jU,Fm.has_eq];rfl
  .intro k a b u i v _ _ hn;rw[Fm.dL] at hn;simp only[ee] at hn;have d:=ih a VW i;have j:=ih b VW v
   have c:k≠1:=VW
   have l:k≠5:=VW
   have o:dW [a,b] (fD .i64 (eE [a,b]) 1)=some b:=by
    rw[fF abm abm];rfl
   have w:dW [a,b] 0=some a:=rfl;have x:dW [a,b] 1=some b:=rfl;rw[jU,Fm.BE,dK c];simp only[Fm.ey,Fm.eD,gi,c,l,jt,o,w,x,dI,j,d,dY]
   by_cases r:k=2
   .simp only[r,if_true];cases a.has<;>simp
   .simp[r]
  .intro k s a u hs i _ hn;rw[Fm.dL] at hn;simp only[ee] at hn;have d:=ih a VW i
   have c:k≠1:=VW
   have q:k≠2:=VW
   have o:dW [a] (fD .i64 (eE [a]) 1)=some a:=by
    rw[fF abm abm];rfl
   rw[jU,Fm.ug,dK c];simp only[Fm.ey,Fm.eD,gi,c,q,jt,o,dI,d]
   by_cases y:k=5<;>simp[y]
def yk(f:Fm)(h:f.wt<=1000000000):nW f=some (if f.err≠0 then(false,f.err)else(f.has,0)):=by
 unfold nW;rw[iz h];simp only[dI,eW]
 by_cases he:f.err=0
 .rw[FR FU f (by rw[fl];have:=f.ij;omega) (Fm.iK he).1];simp[he]
 .simp[he]
def oO(f:Fm)(h:f.wt<=1000000000)(he:f.err=0):gA f=some f.has:=by
 unfold gA;rw[yk f h];simp[he]
def ud(t:Ty)(h:t.aor<=1000000000):nU t 0=some (if t.err≠0 then(.mk 0 [],t.err)else(t,0)):=by
 unfold nU y0;rw[mI h,Cm FU t (by rw[fl];exact h) h]
 by_cases he:t.err=0<;>simp[he]
def sD(t:Ty){e:Int}(he:e≠0):nU t e=some (.mk 0 [],e):=by
 unfold nU;simp[he]
def Fm.rf(f:Fm):Ty×Int:=if f.ct.2.2≠0 then(.mk 0 [],f.ct.2.2)else(if f.has then f.ct.1 else .mk 5 [],0)
def Fm.N4{k:Int}{s:Ty}{ts:List Tm}{l:List Fm}(h:(Fm.mk k s ts l).err=0){a:Fm}(c:a∈l):a.err=0:=by
 obtain⟨b,d⟩:=Fm.iK h;rw[Fm.gX] at b;simp only[gJ,kZ] at b;rw[Fm.dL] at d;have:=eu Fm.aor c;unfold Fm.err;rw[dO (b.2 a c),dK VW]
def Ro:∀(n:Nat) (f:Fm),f.aor<=n->f.wt<=1000000000->f.err=0->lf n f=some f.rf:=by
 intro n
 induction n with
 |zero=>intro f h;have:=f.eF;omega
 |succ n ih=>
  intro f h hw he;refine Fm.nw (p:=λf=>f.aor<=n+1->f.wt<=1000000000->f.err=0->lf (n+1) f=some f.rf) ?_ ?_ ?_ f (Fm.iK he).1 h hw he
  .intro a b _ _ _ hw he;rw[lf,oO _ hw he,Fm.has_eq];unfold Fm.rf;rw[Fm.afg,Fm.has_eq];rfl
  .intro k a b L v M _ _ hn hw he;have i:=Fm.N4 he (a:=a) abm;have w:=Fm.N4 he (a:=b) abm;have N:=I9 _ (Fm.iK he).1;rw[lf,oO _ hw he];rw[Fm.dL] at hn;rw[Fm.iE] at hw;simp only[ee] at hn hw;have q:=ih a VW VW i;have G:=ih b VW VW w
   have j:k≠1:=VW
   have x:k≠5:=VW
   have H:k≠4:=VW
   have I:dW [a,b] 0=some a:=rfl;have Q:dW [a,b] 1=some b:=rfl;simp only[Fm.ey,Fm.eD,Fm.fx,gi,H,x,jt,I,Q,dI,G,q,oO a VW i,oO b VW w];have R:=I9 a v;have S:=I9 b M;have l:=IU a v;have F:=IU b M;unfold Fm.rf;rw[Fm.Yo,dK j,Fm.BE,dK j];simp only[x,jt];rcases r:a.ct with⟨y,J,T⟩;rcases K:b.ct with⟨tb,U,W⟩;obtain⟨a1,a2,a3,a4⟩:=R;obtain⟨u,o,A,O⟩:=S;rw[r] at a1 a2 a3 a4 l;rw[K] at u o A O F;simp only at a1 a2 a3 a4 u o A O l F;unfold Dn;rcases L with rfl|rfl
   .simp only[if_true];unfold Zn;cases c:a.has
    .have:=a3 c;subst this;have:=a2 rfl;rw[c] at this;subst this;cases d:b.has
     .have:=A d;subst this;have:=o rfl;rw[d] at this;subst this;simp[tC]
     .simp only[PN,if_true,pA,jt];rcases u with rfl|rfl
      .simp
      .simp
    .cases d:b.has
     .have:=A d;subst this;have:=o rfl;rw[d] at this;subst this;simp only[agL,if_true,pA,jt];rcases a1 with rfl|rfl
      .have:=a2 rfl;rw[c] at this;subst this;simp
      .simp
     .simp only[agL,if_true];rcases u with rfl|rfl
      .have:=o rfl;rw[d] at this;subst this;rcases a1 with rfl|rfl
       .have:=a2 rfl;rw[c] at this;subst this;have:=l rfl rfl;have:=F rfl rfl;simp[qt,xh];rw[ud _ (by rw[Ty.sk];omega)]
        by_cases t:(Ty.mk 3 [y,tb]).err=0<;>simp[t]
       .simp
      .rcases a1 with rfl|rfl
       .simp[qt,sD]
       .simp
   .simp only[show¬(3:Int)=2 by omega,jt,if_true];unfold aa';cases d:b.has
    .have:=A d;subst this;have:=o rfl;rw[d] at this;subst this;simp[tC]
    .cases c:a.has
     .have:=a3 c;subst this;have:=a2 rfl;rw[c] at this;subst this;rcases u with rfl|rfl
      .have:=o rfl;rw[d] at this;subst this;simp
      .simp
     .rcases u with rfl|rfl
      .have:=o rfl;rw[d] at this;subst this;rcases a1 with rfl|rfl
       .have:=a2 rfl;rw[c] at this;subst this;have:=l rfl rfl;have:=F rfl rfl;simp[r5,xh];rw[ud _ (by rw[Ty.sk];omega)]
        by_cases t:(Ty.mk 4 [y,tb]).err=0<;>simp[t]
       .simp
      .rcases a1 with rfl|rfl
       .simp[r5,sD]
       .simp
  .intro k s a L hs v _ hn hw he;have i:=Fm.N4 he (a:=a) abm;rw[lf,oO _ hw he];rw[Fm.dL] at hn;rw[Fm.iE] at hw;simp only[ee] at hn hw;have q:=ih a VW VW i
   have j:k≠1:=VW
   have B:k≠2:=VW
   have C:k≠3:=VW
   have I:dW [a] 0=some a:=rfl;simp only[Fm.ey,Fm.eD,Fm.fx,gi,B,C,jt,I,dI,q,oO a VW i];have l:=IU a v;have V:=(Ty.il hs).2;unfold Fm.rf;rw[Fm.aaH,dK j,Fm.ug,dK j];obtain⟨a1,a2,a3,a4⟩:=I9 a v;rcases r:a.ct with⟨y,J,T⟩;rw[r] at a1 a2 a3 a4 l;simp only at a1 a2 a3 a4 l;unfold Dn;simp only[B,C,jt]
   by_cases P:k=5
   .subst P;simp only[if_true,show¬(5:Int)=4 by omega,jt];cases c:a.has
    .have:=a3 c;subst this;have:=a2 rfl;rw[c] at this;subst this;simp
    .rcases a1 with rfl|rfl
     .have:=a2 rfl;rw[c] at this;subst this;have:=l rfl rfl;simp[qt,xh];rw[ud _ (by rw[Ty.sk];omega)]
      by_cases t:(Ty.mk 3 [s,y]).err=0<;>simp[t]
     .simp[qt,sD]
   .simp only[P,jt];cases c:a.has
    .have:=a3 c;subst this;have:=a2 rfl;rw[c] at this;subst this;simp[tC]
    .rcases a1 with rfl|rfl
     .have:=a2 rfl;rw[c] at this;subst this;have:=l rfl rfl
      by_cases D:k=4
      .subst D;simp[r5,xh];rw[ud _ (by rw[Ty.sk];omega)]
       by_cases t:(Ty.mk 4 [s,y]).err=0<;>simp[t]
      .simp[D]
     .by_cases D:k=4
      .subst D;simp[r5,sD]
      .simp[D]
def Ld(f:Fm)(h:f.wt<=1000000000):j9 f=some f.Pn:=by
 unfold j9 Fm.Pn;rw[iz h];simp only[dI,eW]
 by_cases he:f.err=0
 .rw[Ro FU f (by rw[fl];have:=f.ij;omega) h he];simp only[he,ne_eq,Q_,jt];rfl
 .simp[he]
def Ty.nat:Ty:=.mk 1 []
def Ty.uK:Ty:=.mk 2 []
def Ty.unit:Ty:=.mk 5 []
def Ty.fn(a b:Ty):Ty:=.mk 4 [a,b]
def Ty.pr(a b:Ty):Ty:=.mk 3 [a,b]
def Ty.z:Ty:=.mk 0 []
inductive eg:List Ty->Tm->Ty->Prop
 |var {g t} (i:Nat):i<g.length->g[g.length-1-i]?=some t->eg g (.mk 1 i .z []) t|lam {g s b t}:(Ty.fn s t).err=0->eg (g++[s]) b t->eg g (.mk 2 0 s [b]) (.fn s t)|app {g f a s t}:eg g f (.fn s t)->eg g a s->eg g (.mk 3 0 .z [f,a]) t|zero {g}:eg g (.mk 4 0 .z []) .nat|succ {g a}:eg g a .nat->eg g (.mk 5 0 .z [a]) .nat|sF {g t b s n}:t.err=0->eg g b t->eg g s (.fn .nat (.fn t t))->eg g n .nat->eg g (.mk 6 0 t [b,s,n]) t|nil {g}:eg g (.mk 7 0 .z []) .uK|cons {g a b}:eg g a .nat->eg g b .uK->eg g (.mk 8 0 .z [a,b]) .uK|fold {g t b s n}:t.err=0->eg g b t->eg g s (.fn .nat (.fn .uK (.fn t t)))->eg g n .uK->eg g (.mk 9 0 t [b,s,n]) t|pair {g a b s t}:(Ty.pr s t).err=0->eg g a s->eg g b t->eg g (.mk 10 0 .z [a,b]) (.pr s t)|fst {g a s t}:eg g a (.pr s t)->eg g (.mk 11 0 .z [a]) s|snd {g a s t}:eg g a (.pr s t)->eg g (.mk 12 0 .z [a]) t|unit {g}:eg g (.mk 13 0 .z []) .unit
theorem Ty.qN:Ty.z.rj=true:=rfl
def Ty.tu{k:Int}(c:k=3\/k=4){a b:Ty}(h:(Ty.mk k [a,b]).err=0):a.err=0/\b.err=0:=by grind[Ty.il,Ty.gX,Ty.sk,Ty.Dc]
def eg.ok{g:List Ty}{x:Tm}{t:Ty}(h:eg g x t):x.ok=true:=by
 induction h with
 |var i c f=>grind[Tm.gX,Tm.node,gW,j_,Ty.qN]|lam c _ ih=>have:=(Ty.tu (.inr rfl) c).1;simp[Tm.gX,Tm.node,gW,j_,this,ih]
 |app _ _ a b=>simp[Tm.gX,Tm.node,gW,j_,Ty.qN,a,b]|zero=>simp[Tm.gX,Tm.node,gW,j_,Ty.qN]|succ _ ih=>simp[Tm.gX,Tm.node,gW,j_,Ty.qN,ih]|sF c _ _ _ a b d=>grind[Tm.gX,Tm.node,gW,j_]|nil=>simp[Tm.gX,Tm.node,gW,j_,Ty.qN]|cons _ _ a b=>simp[Tm.gX,Tm.node,gW,j_,Ty.qN,a,b]|fold c _ _ _ a b d=>grind[Tm.gX,Tm.node,gW,j_]|pair _ _ _ a b=>simp[Tm.gX,Tm.node,gW,j_,Ty.qN,a,b]|fst _ ih=>simp[Tm.gX,Tm.node,gW,j_,Ty.qN,ih]|snd _ ih=>simp[Tm.gX,Tm.node,gW,j_,Ty.qN,ih]|unit=>simp[Tm.gX,Tm.node,gW,j_,Ty.qN]
def Tm.o6(t:Tm):∀{m n:Int},m<=n->t.aov m=true->t.aov n=true:=by
 induction t using Tm.ind with
 |h k i s l ih=>grind[Tm.fo]
def eg.aov{g:List Ty}{x:Tm}{t:Ty}(h:eg g x t):∀m:Int,((g.length+x.aor:Nat):Int)<=m->x.aov m=true:=by
 induction h with
 |var i d f=>grind[Tm.dL,ee,Tm.fo]|lam _ _ ih=>grind[Tm.dL,ee,Tm.fo]|zero|nil|unit=>grind[Tm.dL,ee,Tm.fo]|succ _ ih|fst _ ih|snd _ ih=>grind[Tm.dL,ee,Tm.fo]|app _ _ a b|cons _ _ a b|pair _ _ _ a b=>grind[Tm.dL,ee,Tm.fo]|sF _ _ _ _ a b c|fold _ _ _ _ a b c=>grind[Tm.dL,ee,Tm.fo]
def wk{α:Type}{f g:α->Nat}{c:Nat}{l:List α}(h:∀x∈l,f x<=c*g x):ee f l<=c*ee g l:=by
 induction l with
 |nil=>simp[ee]|cons x l ih=>simp only[ee,ZL];have:=h x abm;have:=ih λy hy=>h y (by simp[hy]);omega
def Tm.kQ(t:Tm)(h:t.ok=true):t.wt<=65*t.aor:=by
 induction t using Tm.ind with
 |h k i s l ih=>
  rw[Tm.gX] at h;simp only[gJ,kZ] at h;rw[Tm.iE,Tm.dL,ZL];have c:=wk λx b=>ih x b (h.2 x b)
  have d:s.aor<=64:=by
   have:=h.1;simp only[Tm.node,gJ] at this;have a:=this.2
   split at a
   .simp only[oU] at a;exact(Ty.il a).2
   .grind[Ty.mB,Ty.dL,ee]
  omega
def Fm.kQ(f:Fm)(h:f.ok=true):f.wt<=65*f.aor:=by
 induction f using Fm.ind with
 |h k s ts l ih=>
  rw[Fm.gX] at h;simp only[gJ,kZ] at h;rw[Fm.iE,Fm.dL,ZL,ZL];have b:=wk λx a=>ih x a (h.2 x a);have d:=wk (f:=Tm.wt) (g:=Tm.aor) (c:=65) (l:=ts) λx a=>x.kQ (h.1.2 x a)
  have i:s.aor<=64:=by
   have:=h.1.1;unfold Fm.node at this
   split at this
   .grind[Ty.mB,Ty.dL,ee]
   .split at this
    .grind[Ty.mB,Ty.dL,ee]
    .simp only[gJ,oU] at this;exact(Ty.il this.1.1.2).2
  omega
structure eN.wf (d:eN):Prop where
 len:d.l.length<=1000
 lo:0<=d.yI
 hi:d.yI<=d.l.length
def WN(x n:Int)(c:1<=n)(d:n<=1000000000):∃y,Kn x n=some y/\0<=y/\y<n:=by
 unfold Kn;simp only[aaj (b:=n) VW];refine⟨_,rfl,?_⟩;unfold aa5
 have e:(x.tmod n).natAbs<n.natAbs:=by
  rw[Int.natAbs_tmod];exact acE _ VW
 rw[e9 VW VW]
 have a:0<=x.tmod n+n:=VW
 exact⟨Int.tmod_nonneg _ a,Int.tmod_lt_of_pos _ VW⟩
def u7(d:eN)(a:d.wf)(n:Int)(c:1<=n)(f:n<=1000000000):∃x b,iF d n=some (x,b)/\0<=x/\x<n/\b.wf:=by
 unfold iF;simp only[lW,sx,jA,ju,fV]
 by_cases h:n<1\/(d.l.length:Int)<=d.yI
 .grind
 .rw[dK h];obtain⟨y,hy,_⟩:=Na (l:=d.l) a.lo VW;obtain⟨z,i,j,k⟩:=WN y n c f;rw[hy];simp only[dI,i];have:=a.len;have:=a.lo;rw[e9 VW VW];exact⟨z,_,rfl,j,k,⟨a.len,by show 0<=d.yI+1;omega,by show d.yI+1<=(d.l.length:Int);omega⟩⟩
def gB:jP=some .nat:=rfl
def gQ:mO=some .uK:=rfl
def L1:tU=some .unit:=rfl
def zq{a b:Ty}(c:a.aor<=1000000000)(d:b.aor<=1000000000):tP a b=some (.pr a b):=by
 unfold tP;rw[jM c,jM d];rfl
def jz{a b:Ty}(c:a.aor<=1000000000)(d:b.aor<=1000000000):m5 a b=some (.fn a b):=by
 unfold m5;rw[jM c,jM d];rfl
def Ty.aao:Ty.nat.ok=true:=by unfold Ty.nat;rw[Ty.gX];rfl
def Ty.aa9:Ty.uK.ok=true:=by unfold Ty.uK;rw[Ty.gX];rfl
def Ty.VT:Ty.unit.ok=true:=by unfold Ty.unit;rw[Ty.gX];rfl
def Ty.ie:Ty.nat.aor=1:=by unfold Ty.nat;rw[Ty.dL];rfl
def Ty.pI:Ty.uK.aor=1:=by unfold Ty.uK;rw[Ty.dL];rfl
def Ty.J9:Ty.unit.aor=1:=by unfold Ty.unit;rw[Ty.dL];rfl
def Ty.kj(a b:Ty):(Ty.fn a b).aor=1+a.aor+b.aor:=Ty.sk _ _ _
def Ty.wh(a b:Ty):(Ty.pr a b).aor=1+a.aor+b.aor:=Ty.sk _ _ _
theorem Y6(k:Nat)(h:k<=4):1<=2^k/\2^k<=16:=by
 have:k=0\/k=1\/k=2\/k=3\/k=4:=VW
 grind
def To:∀(n k:Nat) (d:eN),k<n->k<=4->d.wf->∃t i,oe n d (k:Int)=some (t,i)/\t.ok=true/\t.aor+1<=2^(k+1)/\i.wf:=by
 intro n
 induction n with
 |zero=>intro k d h;omega|succ n ih=>
  intro k d A o v;obtain⟨x,d1,w,B,C,j⟩:=u7 d v 7 VW VW;have D:=Y6 k o
  have F:(2:Nat)^(k+1)=2*2^k:=by rw[Nat.pow_succ];omega
  have c:=λi (q:eN.wf i)=>(⟨Ty.nat,i,rfl,Ty.aao,by rw[Ty.ie];omega,q⟩:∃t l,some (Ty.nat,i)=some (t,l)/\t.ok=true/\t.aor+1<=2^(k+1)/\l.wf);rw[oe];simp only[dY,w,dP,gB,gQ,L1,dI,lW,sx,gi,hJ]
  split
  .exact c d1 j
  split
  .exact⟨.uK,d1,rfl,Ty.aa9,by rw[Ty.pI];omega,j⟩
  split
  .exact⟨.unit,d1,rfl,Ty.VT,by rw[Ty.J9];omega,j⟩
  have two:0<(k:Int)->∃a b d2 d3,oe n d1 (fD .i64 (k:Int) 1)=some (a,d2)/\oe n d2 (fD .i64 (k:Int) 1)=some (b,d3)/\a.ok=true/\b.ok=true/\a.aor+1<=2^k/\b.aor+1<=2^k/\d3.wf:=by
   intro f;obtain⟨m,rfl⟩:∃m,k=m+1:=⟨k-1,VW⟩
   grind[fF]
  split
  .split
   .rename_i f;obtain⟨a,b,d2,d3,a1,r,a2,s,a3,y,u⟩:=two f;rw[a1];simp only[dP];rw[r];simp only[dP];rw[zq VW VW];exact⟨_,_,rfl,Ty.ok_two (.inl rfl) a2 s,by rw[Ty.wh];omega,u⟩
   .exact c d1 j
  split
  .split
   .rename_i f;obtain⟨a,b,d2,d3,a1,r,a2,s,a3,y,u⟩:=two f;rw[a1];simp only[dP];rw[r];simp only[dP];rw[jz VW VW];exact⟨_,_,rfl,Ty.ok_two (.inr rfl) a2 s,by rw[Ty.kj];omega,u⟩
   .exact c d1 j
  .exact c d1 j
def Zd(d:eN)(b:d.wf)(k:Nat)(c:k<=4):∃t a,oe FU d (k:Int)=some (t,a)/\t.err=0/\t.aor+1<=2^(k+1)/\a.wf:=by
 obtain⟨t,a,f,h,i,j⟩:=To FU k d (by rw[fl];omega) c b
 grind[Y6,Ty.Dc]
def T_(g:List Ty)(t:Ty)(hg:g.length<=1000000)(hn:∀s∈g,s.aor<=1000000000):∃l,EW g t=some l/\l.length<=g.length/\∀v∈l,∃i:Nat,v=i/\i<g.length/\g[g.length-1-i]?=some t:=by
 unfold EW;simp only[ei (l:=g) VW,dU,dY]
 have key:∀(l:List Ty) (i:Nat) (v:List Int),i+l.length=g.length->v.length<=i->(∀x∈v,∃j:Nat,x=j/\j<g.length/\g[g.length-1-j]?=some t)->∃a,fa (ρ:=List Int) (λ(j:Int) (u:Ty) (v:List Int)=>dH (dW g (fD .i64 (fD .i64 (eE g) 1) j)) λx=>dH (fO FU x t) λy=>if y then gq (fM v [j]) (some (fp.next (fW v [j])))else some (fp.next v)) l i v=some (.inl a)/\a.length<=g.length/\∀x∈a,∃j:Nat,x=j/\j<g.length/\g[g.length-1-j]?=some t:=by
  intro l
  induction l with
  |nil=>
   intro i v d k c;exact⟨v,rfl,by simp at d;omega,c⟩
  |cons y l ih=>
   intro i v d k c;simp only[kY] at d
   have b:g.length-1-i<g.length:=VW
   have n:dW g (fD .i64 (fD .i64 (eE g) 1) (i:Int))=some g[g.length-1-i]:=by grind[fV,fF,gS]
   rw[eV];simp only[n,dI,im (hn _ (Ek b))];cases hs:Ty.lj g[g.length-1-i] t with
   |false=>
    simp only[pA,jt,dI,eQ];exact ih (i+1) v VW VW c
   |true=>
    rw[Ty.lq] at hs;simp only[if_true,fk (l:=v) (m:=[(i:Int)]) abv,dU,dI,eQ,ig];refine ih (i+1) (v++[(i:Int)]) VW abv ?_;intro x f;rcases tl.1 f with h|h
    .exact c x h
    .rw[Hf] at h;exact⟨i,h,VW,by rw[pE b,hs]⟩
 obtain⟨a,o,q,r⟩:=key g 0 [] abm abm abm;rw[o];exact⟨a,rfl,q,r⟩
def vp(g l:List Ty)(h:g.length+l.length<=1000000):r9 g l=some (g++l):=by
 unfold r9;rw[fk abv,fk abv];simp
def FB(n:Nat)(hn:n<=1000000):∃x,rv (n:Int)=some x/\∀g,eg g x .nat/\x.aor=n+1:=by
 unfold rv;rw[qc 4 [] (by simp[ee])];simp only[dI,dY]
 obtain⟨o,q,l⟩:=Mo (ρ:=Tm) (F:=XP λ(h:Int) (i:Int) (v167:Int) (v168:Int) (j:List Ty) (k:List Tm)=>
   if pw h 0 then some (fp.next (fD .i64 h 1,5,0,0,[],[Tm.mk i v167 (Ty.mk v168 j) k]))else some (fp.xA (h,i,v167,v168,j,k)))
  (λs=>0<=s.1/\s.1<=n/\(∀g,eg g (Tm.mk s.2.1 s.2.2.1 (Ty.mk s.2.2.2.1 s.2.2.2.2.1) s.2.2.2.2.2) .nat)/\(Tm.mk s.2.1 s.2.2.1 (Ty.mk s.2.2.2.1 s.2.2.2.2.1) s.2.2.2.2.2).aor+s.1=n+1)
  (λs=>s.1.toNat)
  (λo=>match o with|.inl s=>(∀g,eg g (Tm.mk s.2.1 s.2.2.1 (Ty.mk s.2.2.2.1 s.2.2.2.2.1) s.2.2.2.2.2) .nat)/\(Tm.mk s.2.1 s.2.2.1 (Ty.mk s.2.2.2.1 s.2.2.2.2.1) s.2.2.2.2.2).aor=n+1|.inr _=>False)
  (by
   rintro⟨a,b,c,d,e,f⟩ ⟨q,l,t,v⟩;simp only at q l t v
   by_cases u:0<a
   .left;refine⟨_,by simp only[Bb,hJ,u,if_true];rfl,⟨?_,?_,?_,?_⟩,?_⟩
    .rw[fF VW VW];show 0<=a-1;omega
    .rw[fF VW VW];show a-1<=n;omega
    .intro g;exact eg.succ (t g)
    all_goals grind[fF,Tm.dL,ee]
   .right;left;refine⟨_,by simp only[Bb,hJ,u,jt];rfl,t,?_⟩
    have:a=0:=VW
    subst this
    simp only;omega)
  FU ((n:Int),4,0,0,[],[]) ⟨abm,abm,λg=>eg.zero,by rw[Tm.dL];simp[ee];omega⟩ (by rw[fl];show(n:Int).toNat<_;omega)
 simp only[Tm.eD,Tm.gn,Tm.fx,Ty.eD,Ty.ey,Tm.ey];rw[q];cases o with
 |inr r=>exact l.elim|inl s=>
  obtain⟨a,b,c,d,e,f⟩:=s;exact⟨_,rfl,λg=>⟨l.1 g,l.2⟩⟩
def My(n:Int)(b:0<=n)(hn:n<=4000):∃x,xN n=some x/\∀g,eg g x .nat/\(x.aor:Int)=n+1:=by
 obtain⟨k,rfl⟩:=ah' b;obtain⟨x,c,a⟩:=FB k VW;unfold xN vw;simp only[jA,ju];rw[dK VW,dK VW,c];exact⟨x,rfl,λg=>⟨(a g).1,by rw[(a g).2];simp⟩⟩
structure SW (g:List Ty) (x:Tm) (t:Ty) (n:Nat):Prop where
 ty:eg g x t
 aor:x.aor<=n
def SW.wt{g:List Ty}{x:Tm}{t:Ty}{n:Nat}(h:SW g x t n):x.wt<=65*n:=by
 have:=x.kQ h.ty.ok;have:=h.aor;omega
theorem SW.mono{g:List Ty}{x:Tm}{t:Ty}{n m:Nat}(h:SW g x t n)(hm:n<=m):SW g x t m:=⟨h.ty,z8 h.aor hm⟩
def Vg{k:Int}{a:Tm}(b:a.wt<=100000000):gV k [a]=some (.mk k 0 .z [a]):=qc k [a] (by simp[ee];omega)
def zL{k:Int}{a b:Tm}(c:a.wt<=100000000)(d:b.wt<=100000000):gV k [a,b]=some (.mk k 0 .z [a,b]):=qc k [a,b] (by simp[ee];omega)
def Tz{k:Int}:gV k []=some (.mk k 0 .z []):=qc k [] (by simp[ee])
def DH{k:Int}{s:Ty}{a:Tm}(hs:s.aor<=1000000000)(b:a.wt<=100000000):lS k s [a]=some (.mk k 0 s [a]):=JA k s [a] hs (by simp[ee];omega)
def DY{k:Int}{s:Ty}{a b c:Tm}(hs:s.aor<=1000000000)(d:a.wt<=100000000)(f:b.wt<=100000000)(h:c.wt<=100000000):lS k s [a,b,c]=some (.mk k 0 s [a,b,c]):=
 JA k s [a,b,c] hs (by simp[ee];omega)
def UJ{f a b:Tm}(c:f.wt<=10000000)(d:a.wt<=10000000)(h:b.wt<=10000000):FJ f [a,b]=some (.mk 3 0 .z [.mk 3 0 .z [f,a],b]):=by
 have i:(Tm.mk 3 0 .z [f,a]).wt<=30000000:=by rw[Tm.iE];have:Ty.z.aor=1:=rfl;simp[ee,this];omega
 unfold FJ
 simp only[ei (l:=[a,b]) abm,dU,dY,eV,oz,CH,Ty.hR,Tm.hR,zL (k:=3) (a:=f) (b:=a) VW VW,dI,eQ,zL (k:=3) (a:=.mk 3 0 .z [f,a]) (b:=b) VW VW,ew]
def Ty.gC:Ty.nat.err=0:=Ty.Dc Ty.aao (by rw[Ty.ie];omega)
def Ty.sO:Ty.uK.err=0:=Ty.Dc Ty.aa9 (by rw[Ty.pI];omega)
def Ty.Js:Ty.unit.err=0:=Ty.Dc Ty.VT (by rw[Ty.J9];omega)
def Ty.yX{a b:Ty}(c:a.err=0)(d:b.err=0)(h:a.aor+b.aor<=63):(Ty.fn a b).err=0:=Ty.Dc (Ty.ok_two (.inr rfl) (Ty.il c).1 (Ty.il d).1) (by rw[Ty.kj];omega)
def Ty.S8{a b:Ty}(c:a.err=0)(d:b.err=0)(h:a.aor+b.aor<=63):(Ty.pr a b).err=0:=Ty.Dc (Ty.ok_two (.inl rfl) (Ty.il c).1 (Ty.il d).1) (by rw[Ty.wh];omega)
def oX(i:Nat):Tm:=.mk 1 i .z []
def zM(s:Ty)(b:Tm):Tm:=.mk 2 0 s [b]
def ef(f a:Tm):Tm:=.mk 3 0 .z [f,a]
def NN:Tm:=.mk 4 0 .z []
def Ut(a:Tm):Tm:=.mk 5 0 .z [a]
def UF(t:Ty)(a b c:Tm):Tm:=.mk 6 0 t [a,b,c]
def S3:Tm:=zM .nat (zM .nat (UF .nat (oX 1) (zM .nat (zM .nat (Ut (oX 0)))) (oX 0)))
def Uk:Tm:=zM .nat (UF .nat NN (zM .nat (zM .nat (oX 1))) (oX 0))
def aas:Tm:=zM .nat (zM .nat (UF .nat (oX 1) (zM .nat (zM .nat (ef Uk (oX 0)))) (oX 0)))
def Eb(i:Nat):gZ (i:Int)=some (oX i):=rfl
def v8{a:Tm}(b:a.wt<=100000000):lv a=some (zM .nat a):=by
 unfold lv;rw[gB];simp only[dI];rw[DH (by rw[Ty.ie];omega) b];rfl
def rec_eq{a b c:Tm}(d:a.wt<=100000000)(f:b.wt<=100000000)(h:c.wt<=100000000):tH a b c=some (UF .nat a b c):=by
 unfold tH;rw[gB];simp only[dI];rw[DY (by rw[Ty.ie];omega) d f h];rfl
def KE:tK=some S3:=by
 unfold tK;rw[show gZ 1=some (oX 1)from rfl,show gZ 0=some (oX 0)from rfl];simp only[dI];rw[Vg aal];simp only[dI];rw[v8 aal];simp only[dI];rw[v8 aal];simp only[dI];rw[rec_eq aal aal aal];simp only[dI];rw[v8 aal];simp only[dI];rw[v8 aal];rfl
def LG:we=some Uk:=by
 unfold we;rw[show gZ 1=some (oX 1)from rfl,show gZ 0=some (oX 0)from rfl,Tz];simp only[dI];rw[v8 aal];simp only[dI];rw[v8 aal];simp only[dI];rw[rec_eq aal aal aal];simp only[dI];rw[v8 aal];rfl
def O3:yp=some aas:=by
 unfold yp;rw[show gZ 1=some (oX 1)from rfl,show gZ 0=some (oX 0)from rfl,LG];simp only[dI];rw[zL aal aal];simp only[dI];rw[v8 aal];simp only[dI];rw[v8 aal];simp only[dI];rw[rec_eq aal aal aal];simp only[dI];rw[v8 aal];simp only[dI];rw[v8 aal];rfl
def ajk{g:List Ty}{t:Ty}(i:Nat)(h:i<g.length)(a:g[g.length-1-i]?=some t):eg g (oX i) t:=eg.var i h a
def jI{g:List Ty}{t:Ty}:eg (g++[t]) (oX 0) t:=eg.var 0 abm abm
def Be{g:List Ty}{s t:Ty}:eg (g++[t]++[s]) (oX 1) t:=eg.var 1 abm abm
def AJ:(Ty.fn .nat .nat).err=0:=Ty.yX Ty.gC Ty.gC (by rw[Ty.ie];omega)
def DU:(Ty.fn .nat (Ty.fn .nat .nat)).err=0:=Ty.yX Ty.gC AJ (by rw[Ty.kj,Ty.ie];omega)
def W8(g:List Ty):eg g S3 (.fn .nat (.fn .nat .nat)):=
 .lam DU (.lam AJ (.sF Ty.gC Be (.lam DU (.lam AJ (.succ jI))) jI))
def V5(g:List Ty):eg g Uk (.fn .nat .nat):=
 .lam AJ (.sF Ty.gC .zero (.lam DU (.lam AJ Be)) jI)
def aaV(g:List Ty):eg g aas (.fn .nat (.fn .nat .nat)):=
 .lam DU (.lam AJ (.sF Ty.gC Be (.lam DU (.lam AJ (.app (V5 _) jI))) jI))
def Nn:S3.aor=9:=aal
def QC:aas.aor=16:=aal
def vC{α β:Type}{G:Option β->Prop}(P:α->Prop){k:α->Option β}{b:(α->Option β)->Option β}(c:∀a,P a->G (k a))(d:∀j:α->Option β,(∀a,P a->G (j a))->G (b j)):G (en k b):=d k c
def J0{α γ β:Type}{G:Option β->Prop}(P:α->γ->Prop){k:α->γ->Option β}{b:(α->γ->Option β)->Option β}(d:∀a c,P a c->G (k a c))(f:∀j:α->γ->Option β,(∀a c,P a c->G (j a c))->G (b j)):G (en k b):=f k d
def tb(N:Nat):Nat->Nat
 |0=>3*N|k+1=>30+3*tb N k
def ajU{N:Nat}(a:N<=20):∀k,k<=5->tb N k<=18300:=by
 intro k b
 have:k=0\/k=1\/k=2\/k=3\/k=4\/k=5:=VW
 rcases this with rfl|rfl|rfl|rfl|rfl|rfl<;>simp only[tb]<;>omega
def Ya{N k:Nat}:3*N<=tb N k:=by
 induction k with
 |zero=>simp[tb]|succ k ih=>grind[tb]
def lb(g:List Ty)(t:Ty)(b:Nat)(o:Option (Tm×eN)):Prop:=∃x a,o=some (x,a)/\a.wf/\SW g x t b
def lb.of{g:List Ty}{t:Ty}{b:Nat}{x:Tm}{d:eN}(a:d.wf)(h:eg g x t)(hn:x.aor<=b):lb g t b (some (x,d)):=⟨x,d,rfl,a,h,hn⟩
structure Cr (N:Nat) (g:List Ty):Prop where
 all:∀s∈g,s.err=0/\s.aor<=N
def Cr.app{N:Nat}{g l:List Ty}(h:Cr N g)(a:∀s∈l,s.err=0/\s.aor<=N):Cr N (g++l):=
 ⟨λs hs=>by rcases tl.1 hs with h'|h';exact h.all s h';exact a s h'⟩
def Ty.rR{t:Ty}(h:t.err=0):t=.nat\/t=.uK\/t=.unit\/(∃a b,t=.pr a b/\a.err=0/\b.err=0)\/(∃a b,t=.fn a b/\a.err=0/\b.err=0):=by
 cases t with
 |mk k l=>
  have f:=(Ty.il h).1;rw[Ty.gX] at f;simp only[gJ,oU] at f;have c:=f.1;unfold Ty.want at c
  split at c
  .rename_i d;injection c with c;have:=adx.1 c.symm;subst this;rcases d with rfl|rfl|rfl
   .exact .inl rfl
   .exact .inr (.inl rfl)
   .exact .inr (.inr (.inl rfl))
  .split at c
   .rename_i d;injection c with c;obtain⟨a,b,rfl⟩:=BN (l:=l) VW;have:=Ty.tu d h;rcases d with rfl|rfl
    .exact .inr (.inr (.inr (.inl ⟨a,b,rfl,this⟩)))
    .exact .inr (.inr (.inr (.inr ⟨a,b,rfl,this⟩)))
   .cases c
set_option maxHeartbeats 1000000 in
def T4(N:Nat)(aP:1<=N)(hN:N<=20):∀(n:Nat) (dep:Int) (g:List Ty) (t:Ty) (d:eN),dep.toNat*(N+1)+t.aor<n->dep<=5->-1000000<=dep-t.aor->g.length+(3+N)*dep.toNat+t.aor<=1000->Cr N g->t.err=0->t.aor<=N->d.wf->lb g t (if dep<=0 then 3*t.aor else tb N dep.toNat) (ic n d g t dep):=by
 intro n
 induction n with
 |zero=>intro dep g t d h;omega|succ n ih=>
  intro dep g t d hm aQ aO hlen hg A w hd;have aR:=t.eF;have ax:=(Ty.il A).2
  have deep:0<dep->∀T R S,T.length<=g.length+3->Cr N T->R.err=0->R.aor<=N->S.wf->lb T R (tb N (dep.toNat-1)) (ic n S T R (fD .i64 dep 1)):=by
   intro o T R S U X h3 C h5;obtain⟨k,rfl⟩:∃k:Nat,dep=(k+1:Nat):=⟨dep.toNat-1,VW⟩
   have e1:((k+1:Nat):Int).toNat=k+1:=abm
   rw[e1] at hm hlen|-;rw[fF VW VW,show((k+1:Nat):Int)-1=(k:Int) by omega]
   have hmul:(k+1)*(N+1)=k*(N+1)+N+1:=by rw[Ce];omega
   have ay:(3+N)*(k+1)=(3+N)*k+3+N:=by rw[ZL];omega
   obtain⟨x,d1,a1,a2,a3⟩:=ih (k:Int) T R S abv VW VW abv X h3 C h5;refine⟨x,d1,a1,a2,a3.mono ?_⟩;simp only[agU]
   split
   .have:k=0:=VW
    subst this;simp only[tb];omega
   .simp
  have flat:dep<=0->∀T R S,T.length<=g.length+1->R.aor+1<=t.aor->Cr N T->R.err=0->S.wf->lb T R (3*R.aor) (ic n S T R (fD .i64 dep 1)):=by
   intro o T R S U h0 X h3 h5
   have e1:dep.toNat=0:=VW
   rw[e1] at hm hlen;rw[fF VW VW]
   have e2:(dep-1).toNat=0:=VW
   have:=ih (dep-1) T R S (by rw[e2];omega) VW VW (by rw[e2];omega) X h3 VW h5;rw[dO VW] at this;exact this
  have Y:0<dep->(if dep<=0 then 3*t.aor else tb N dep.toNat)=30+3*tb N (dep.toNat-1):=by
   intro o;rw[dK VW];obtain⟨k,hk⟩:∃k,dep.toNat=k+1:=⟨dep.toNat-1,VW⟩;rw[hk];rfl
  have az:0<dep->tb N (dep.toNat-1)<=18300:=λ_=>ajU hN _ VW
  have ah:3*t.aor<=(if dep<=0 then 3*t.aor else tb N dep.toNat):=by
   split
   .omega
   .have:=Ya (N:=N) (k:=dep.toNat);omega
  generalize (if dep<=0 then 3*t.aor else tb N dep.toNat)=B at Y ah|-
  have q:∀{g x t},0<dep->SW g x t (tb N (dep.toNat-1))->x.wt<=1300000:=by
   intro g x t o h;have:=h.wt;have:=az o;omega
  obtain⟨vs,aA,aS,aB⟩:=T_ g t VW (λs hs=>by have:=(hg.all s hs).2;omega);rw[ic,aA];simp only[dI];refine J0 (G:=lb g t B) (λa c=>c.wf/\(a=true->vs≠[])) ?_ ?_
  .--a variable,or ai else
   rintro a d1 ⟨ak,aC⟩;cases a with
   |true=>
    simp only[if_true];have aD:=aC rfl
    have aT:1<=vs.length:=by cases vs with|nil=>exact absurd rfl aD|cons _ _=>simp
    obtain⟨x,d2,U,X,h3,C⟩:=u7 d1 ak (eE vs) abv abv;rw[U];simp only[dP];obtain⟨y,hy,aE⟩:=Na (l:=vs) X (by simpa using h3);rw[hy];simp only[dI];obtain⟨i,rfl,aF,aG⟩:=aB y aE;rw[Eb];refine lb.of C (ajk i aF aG) ?_
    have:(oX i).aor=1:=by unfold oX;rw[Tm.dL];rfl
    omega
   |false=>
    simp only[pA,jt];refine vC (G:=lb g t B) eN.wf ?_ ?_
    .--by aq type
     intro d2 D;rcases Ty.rR A with rfl|rfl|rfl|⟨a,b,rfl,ha,hb⟩|⟨a,b,rfl,ha,hb⟩
     .--numbers
      simp only[show Ty.nat.aop=1 from rfl,gi,if_true];refine vC (G:=lb g .nat B) eN.wf ?_ ?_
      .intro d3 ae;obtain⟨x,d4,U,X,h3,C⟩:=u7 d3 ae 3 VW VW;rw[U];simp only[dP];obtain⟨y,aH,ar⟩:=My x X VW;rw[aH];refine lb.of C (ar g).1 ?_;have:=(ar g).2;rw[Ty.ie] at ah;omega
      .intro j W;simp only[hJ]
       split
       .rename_i o;have Y:=Y o;obtain⟨x,d4,U,X,h3,C⟩:=u7 d2 D 5 VW VW;rw[U];simp only[dP,gi]
        split
        .obtain⟨a,d5,a1,a2,a3⟩:=deep o g .nat d4 VW hg Ty.gC w C;rw[a1];simp only[dP];rw[Vg (by have:=q o a3;omega)];refine lb.of a2 (.succ a3.ty) ?_;have:=a3.aor;rw[Tm.dL];simp only[ee];omega
        split
        .rw[KE];simp only[dI];obtain⟨a,d5,a1,a2,a3⟩:=deep o g .nat d4 VW hg Ty.gC w C;rw[a1];simp only[dP];obtain⟨b,d6,H,I,v⟩:=deep o g .nat d5 VW hg Ty.gC w a2;rw[H];simp only[dP];rw[UJ aal (by have:=q o a3;omega) (by have:=q o v;omega)];refine lb.of I (.app (.app (W8 g) a3.ty) v.ty) ?_;have:=a3.aor;have:=v.aor;have:=Nn;rw[Tm.dL];simp only[ee,Tm.dL];omega
        split
        .rw[O3];simp only[dI];obtain⟨a,d5,a1,a2,a3⟩:=deep o g .nat d4 VW hg Ty.gC w C;rw[a1];simp only[dP];obtain⟨b,d6,H,I,v⟩:=deep o g .nat d5 VW hg Ty.gC w a2;rw[H];simp only[dP];rw[UJ aal (by have:=q o a3;omega) (by have:=q o v;omega)];refine lb.of I (.app (.app (aaV g) a3.ty) v.ty) ?_;have:=a3.aor;have:=v.aor;have:=QC;rw[Tm.dL];simp only[ee,Tm.dL];omega
        .exact W d4 C
       .exact W d2 D
     .--lists
      simp only[show Ty.uK.aop=2 from rfl,gi,if_true,show¬(2:Int)=1 by omega,jt];refine J0 (G:=lb g .uK B) (λa c=>c.wf/\(a=true->0<dep)) ?_ ?_
      .rintro a d3 ⟨ae,o⟩;cases a with
       |true=>
        have o:=o rfl;have Y:=Y o;simp only[if_true];rw[gB];simp only[dI];obtain⟨a,d5,a1,a2,a3⟩:=deep o g .nat d3 VW hg Ty.gC (by rw[Ty.ie];omega) ae;rw[a1];simp only[dP];obtain⟨b,d6,H,I,v⟩:=deep o g .uK d5 VW hg Ty.sO w a2;rw[H];simp only[dP];rw[zL (by have:=q o a3;omega) (by have:=q o v;omega)];refine lb.of I (.cons a3.ty v.ty) ?_;have:=a3.aor;have:=v.aor;rw[Tm.dL];simp only[ee];omega
       |false=>
        simp only[pA,jt];rw[Tz];refine lb.of ae .nil ?_;rw[Tm.dL];simp only[ee];omega
      .intro j W;simp only[hJ]
       split
       .rename_i o;obtain⟨x,d4,U,X,h3,C⟩:=u7 d2 D 2 VW VW;rw[U];simp only[dP];exact W _ d4 ⟨C,λ_=>o⟩
       .exact W _ d2 ⟨D,λh=>by cases h⟩
     .simp only[show Ty.unit.aop=5 from rfl,gi,show¬(5:Int)=1 by omega,show¬(5:Int)=2 by omega,show¬(5:Int)=3 by omega,show¬(5:Int)=4 by omega,jt];rw[Tz];refine lb.of D .unit ?_;rw[Tm.dL];simp only[ee];omega
     .simp only[show(Ty.pr a b).aop=3 from rfl,show(Ty.pr a b).aoq=[a,b] from rfl,gi,show¬(3:Int)=1 by omega,show¬(3:Int)=2 by omega,if_true,jt,eO,gy,jW,nJ,dI];rw[Ty.wh] at w ax ah
      by_cases o:0<dep
      .have Y:=Y o;obtain⟨x,d5,a1,a2,a3⟩:=deep o g a d2 VW hg ha VW D;rw[a1];simp only[dP];obtain⟨y,d6,H,I,v⟩:=deep o g b d5 VW hg hb VW a2;rw[H];simp only[dP];rw[zL (by have:=q o a3;omega) (by have:=q o v;omega)];refine lb.of I (.pair A a3.ty v.ty) ?_;have:=a3.aor;have:=v.aor;rw[Tm.dL];simp only[ee];omega
      .have aI:=Ty.wh a b;obtain⟨x,d5,a1,a2,a3⟩:=flat VW g a d2 VW VW hg ha D;rw[a1];simp only[dP];obtain⟨y,d6,H,I,v⟩:=flat VW g b d5 VW VW hg hb a2;rw[H];simp only[dP];have:=a3.aor;have:=v.aor;rw[zL (by have:=a3.wt;omega) (by have:=v.wt;omega)];refine lb.of I (.pair A a3.ty v.ty) ?_;rw[Tm.dL];simp only[ee];omega
     .simp only[show(Ty.fn a b).aop=4 from rfl,show(Ty.fn a b).aoq=[a,b] from rfl,gi,show¬(4:Int)=1 by omega,show¬(4:Int)=2 by omega,show¬(4:Int)=3 by omega,if_true,jt,eO,gy,jW,nJ,dI];have aI:=Ty.kj a b;rw[vp g [a] abv];simp only[dI];have V:Cr N (g++[a]):=hg.app (by intro s hs;rw[Hf] at hs;subst hs;exact⟨ha,VW⟩)
      by_cases o:0<dep
      .have Y:=Y o;obtain⟨x,d5,a1,a2,a3⟩:=deep o (g++[a]) b d2 abm V hb VW D;rw[a1];simp only[dP];rw[DH VW (by have:=q o a3;omega)];refine lb.of a2 (.lam A a3.ty) ?_;have:=a3.aor;rw[Tm.dL];simp only[ee];omega
      .obtain⟨x,d5,a1,a2,a3⟩:=flat VW (g++[a]) b d2 abm VW V hb D;rw[a1];simp only[dP];have:=a3.aor;rw[DH VW (by have:=a3.wt;omega)];refine lb.of a2 (.lam A a3.ty) ?_;rw[Tm.dL];simp only[ee];omega
    .--a aJ,or one of aq context
     intro j W;simp only[hJ]
     split
     .rename_i o;have Y:=Y o;obtain⟨x,d2,U,X,h3,C⟩:=u7 d1 ak 8 VW VW;rw[U];simp only[dP,gi]
      have leaf:∀d,eN.wf d->∃s S,oe FU d 0=some (s,S)/\s.err=0/\s.aor=1/\S.wf:=by
       intro d hd;obtain⟨s,S,c1,c2,c3,c4⟩:=Zd d hd 0 VW;have:=s.eF;exact⟨s,S,c1,c2,VW,c4⟩
      split
      .obtain⟨s,d3,s1,s2,s3,s4⟩:=leaf d2 C;rw[s1];simp only[dP];rw[vp g [s] abv];simp only[dI];obtain⟨a,d5,a1,a2,a3⟩:=deep o (g++[s]) t d3 abm (hg.app (by intro u hu;rw[Hf] at hu;subst hu;exact⟨s2,VW⟩)) A w s4;rw[a1];simp only[dP];rw[DH VW (by have:=q o a3;omega)];simp only[dI];obtain⟨b,d6,H,I,v⟩:=deep o g s d5 VW hg s2 VW a2;rw[H];simp only[dP];have w1:=q o a3;rw[zL (by rw[Tm.iE];simp only[ee];omega) (by have:=q o v;omega)];refine lb.of I (.app (.lam (Ty.yX s2 A VW) a3.ty) v.ty) ?_;have:=a3.aor;have:=v.aor;rw[Tm.dL];simp only[ee,Tm.dL];omega
      split
      .obtain⟨s,d3,s1,s2,s3,s4⟩:=leaf d2 C;rw[s1];simp only[dP];obtain⟨a,d5,a1,a2,a3⟩:=deep o g t d3 VW hg A w s4;rw[a1];simp only[dP];obtain⟨b,d6,H,I,v⟩:=deep o g s d5 VW hg s2 VW a2;rw[H];simp only[dP];have w1:=q o a3;have w2:=q o v;rw[zL VW VW];simp only[dI];rw[Vg (by rw[Tm.iE];have:Ty.z.aor=1:=rfl;simp only[ee];omega)];refine lb.of I (.fst (.pair (Ty.S8 A s2 VW) a3.ty v.ty)) ?_;have:=a3.aor;have:=v.aor;rw[Tm.dL];simp only[ee,Tm.dL];omega
      split
      .rw[gB];simp only[dI];rw[vp g [.nat,t] abv];simp only[dI]
       have V:Cr N (g++[.nat,t]):=hg.app (by
        intro u hu;simp only[kX,ry,pM] at hu;rcases hu with rfl|rfl
        .exact⟨Ty.gC,by rw[Ty.ie];omega⟩
        .exact⟨A,w⟩)
       obtain⟨a,d5,a1,a2,a3⟩:=deep o (g++[.nat,t]) t d2 abm V A w C;rw[a1];simp only[dP];have w1:=q o a3;have nn:=Ty.ie;rw[DH VW VW];simp only[dI];rw[DH VW (by rw[Tm.iE];simp only[ee];omega)];simp only[dI];obtain⟨b,d6,H,I,v⟩:=deep o g t d5 VW hg A w a2;rw[H];simp only[dP];obtain⟨y,d7,y1,y2,y3,y4⟩:=u7 d6 I 3 VW VW;rw[y1];simp only[dP];obtain⟨z,z1,z2⟩:=My y y2 VW;rw[z1];simp only[dI];have w2:=q o v;have zn:=(z2 g).2;have zw:=z.kQ (z2 g).1.ok
       have e1:(Tm.mk 2 0 .nat [Tm.mk 2 0 t [a]]).wt<=2000000:=by rw[Tm.iE];simp only[ee,Tm.iE];omega
       rw[DY VW VW VW VW];have Z:(Ty.fn t t).err=0:=Ty.yX A A VW;refine lb.of y4 (.sF A v.ty (.lam (Ty.yX Ty.gC Z (by rw[Ty.kj];omega)) (.lam Z (by simpa using a3.ty))) (z2 g).1) ?_;have:=a3.aor;have:=v.aor;rw[Tm.dL];simp only[ee,Tm.dL];omega
      split
      .rw[gB,gQ];simp only[dI];rw[vp g [.nat,.uK,t] abv];simp only[dI]
       have V:Cr N (g++[.nat,.uK,t]):=hg.app (by
        intro u hu;simp only[kX,ry,pM] at hu;rcases hu with rfl|rfl|rfl
        .exact⟨Ty.gC,by rw[Ty.ie];omega⟩
        .exact⟨Ty.sO,by rw[Ty.pI];omega⟩
        .exact⟨A,w⟩)
       obtain⟨a,d5,a1,a2,a3⟩:=deep o (g++[.nat,.uK,t]) t d2 abm V A w C;rw[a1];simp only[dP];have w1:=q o a3;have nn:=Ty.ie;have ln:=Ty.pI;rw[DH VW VW];simp only[dI];rw[DH VW (by rw[Tm.iE];simp only[ee];omega)];simp only[dI];rw[DH VW (by rw[Tm.iE];simp only[ee,Tm.iE];omega)];simp only[dI];obtain⟨b,d6,H,I,v⟩:=deep o g t d5 VW hg A w a2;rw[H];simp only[dP];obtain⟨c,d7,c1,c2,c3⟩:=deep o g .uK d6 VW hg Ty.sO VW I;rw[c1];simp only[dP];have w2:=q o v;have w3:=q o c3
       have e1:(Tm.mk 2 0 .nat [Tm.mk 2 0 .uK [Tm.mk 2 0 t [a]]]).wt<=2000000:=by rw[Tm.iE];simp only[ee,Tm.iE];omega
       rw[DY VW VW VW VW];have Z:(Ty.fn t t).err=0:=Ty.yX A A VW;have af:(Ty.fn .uK (Ty.fn t t)).err=0:=Ty.yX Ty.sO Z (by rw[Ty.kj];omega);refine lb.of c2 (.fold A v.ty (.lam (Ty.yX Ty.gC af (by rw[Ty.kj,Ty.kj];omega)) (.lam af (.lam Z (by simpa using a3.ty)))) c3.ty) ?_;have:=a3.aor;have:=v.aor;have:=c3.aor;rw[Tm.dL];simp only[ee,Tm.dL];omega
      split
      .obtain⟨s,d3,s1,s2,s3,s4⟩:=leaf d2 C;rw[s1];simp only[dP];obtain⟨a,d5,a1,a2,a3⟩:=deep o g s d3 VW hg s2 VW s4;rw[a1];simp only[dP];obtain⟨b,d6,H,I,v⟩:=deep o g t d5 VW hg A w a2;rw[H];simp only[dP];have w1:=q o a3;have w2:=q o v;rw[zL VW VW];simp only[dI];rw[Vg (by rw[Tm.iE];have:Ty.z.aor=1:=rfl;simp only[ee];omega)];refine lb.of I (.snd (.pair (Ty.S8 s2 A VW) a3.ty v.ty)) ?_;have:=a3.aor;have:=v.aor;rw[Tm.dL];simp only[ee,Tm.dL];omega
      split
      .--a function of aq context
       rw[ei VW,dU];simp only[dY]
       rcases Mq (λ_:Unit=>True) (λr:Tm×eN=>lb g t B (some r)) (F:=λ(K:Int) (aK:Ty) (_:Unit)=>
         dH (dW g (fD .i64 (fD .i64 (eE g) 1) K)) λJ=>
          if J.aop=4 then dH (dW J.aoq 1) λan=>dH (fO FU an t) λao=>
           if ao then dH (gZ K) λL=>dH (dW J.aoq 0) λM=>dR (ic n d2 g M (fD .i64 dep 1)) λO P=>
            dH (gV 3 [L,O]) λQ=>some (fp.ret (Q,P))
           else some (fp.next ())
          else if false then dH (gZ K) λL=>dH (dW J.aoq 0) λM=>dR (ic n d2 g M (fD .i64 dep 1)) λO P=>
            dH (gV 3 [L,O]) λQ=>some (fp.ret (Q,P))
           else some (fp.next ())) g 0 () trivial (by
        intro k u s hk _;have aL:k<g.length:=(ru.1 hk).1
        have ad:g.length-1-k<g.length:=VW
        have e1:dW g (fD .i64 (fD .i64 (eE g) 1) ((0+k:Nat):Int))=some g[g.length-1-k]:=by
         rw[vo,fV,fF (a:=(g.length:Int)) (b:=1) VW VW,fF VW VW,show(g.length:Int)-1-(k:Int)=((g.length-1-k:Nat):Int) by omega,gS];simp[ad]
        simp only[e1,dI];have hf:=hg.all _ (Ek ad);have aw:g[g.length-1-k]?=some g[g.length-1-k]:=pE ad;generalize g[g.length-1-k]=f at hf aw|-;rcases Ty.rR hf.1 with rfl|rfl|rfl|⟨a,b,rfl,ha,hb⟩|⟨a,b,rfl,ha,hb⟩
        .left;exact⟨(),rfl,trivial⟩
        .left;exact⟨(),rfl,trivial⟩
        .left;exact⟨(),rfl,trivial⟩
        .left;exact⟨(),rfl,trivial⟩
        .simp only[show(Ty.fn a b).aop=4 from rfl,show(Ty.fn a b).aoq=[a,b] from rfl,gi,if_true,eO,gy,jW,nJ,dI];have aM:=hf.2;rw[Ty.kj] at aM;rw[im VW];simp only[dI];cases hs:b.lj t with
         |false=>left;exact⟨(),rfl,trivial⟩|true=>
          rw[Ty.lq] at hs;subst hs;right;simp only[if_true,vo];rw[Eb];simp only[dI];obtain⟨y,d5,a1,a2,a3⟩:=deep o g a d2 VW hg ha VW C;rw[a1];simp only[dP];have w1:=q o a3
          have e2:(oX k).wt=2:=by unfold oX;rw[Tm.iE];rfl
          rw[zL VW VW];refine⟨_,rfl,lb.of a2 (.app (ajk k aL aw) a3.ty) ?_⟩;have:=a3.aor
          have e3:(oX k).aor=1:=by unfold oX;rw[Tm.dL];rfl
          rw[Tm.dL];simp only[ee];omega)with⟨s,hs,_⟩|⟨r,hr,aN⟩
       .rw[hs];exact W d2 C
       .rw[hr];exact aN
      .exact W d2 C
     .exact W d1 ak
  .intro j W;simp only[hJ,fV]
   split
   .rename_i o;obtain⟨x,d2,U,X,h3,C⟩:=u7 d hd 3 VW VW;rw[U];simp only[dP];exact W _ d2 ⟨C,λ_ h=>by subst h;simp at o⟩
   .exact W _ d ⟨hd,λh=>by cases h⟩
inductive jy:List Ty->Fm->Prop
 |eq {g a b}:eg g a .nat->eg g b .nat->jy g (.mk 1 .z [a,b] [])|two {g k a b}:k=2\/k=3->jy g a->jy g b->jy g (.mk k .z [] [a,b])|q {g k s a}:k=4\/k=5\/k=6\/k=7->s.err=0->jy (g++[s]) a->jy g (.mk k s [] [a])
def jy.ok{g:List Ty}{f:Fm}(h:jy g f):f.ok=true:=by
 induction h with
 |eq c d=>simp[Fm.gX,Fm.node,Ty.qN,c.ok,d.ok]|two i _ _ j l=>
  rename_i k a b _ _
  have:¬k=1:=VW
  simp[Fm.gX,Fm.node,Ty.qN,i,this,j,l]
 |q i hs _ ih=>
  rename_i k s a _
  have c:¬k=1:=VW
  have d:¬(k=2\/k=3):=VW
  have n:i_ k=true:=by simp[i_,i]
  simp[Fm.gX,Fm.node,c,d,n,hs,ih]
def ajX{a b:Tm}(c:a.wt<=1000000000)(d:b.wt<=1000000000):ye a b=some (.mk 1 .z [a,b] []):=by
 unfold ye;rw[uA c,uA d];rfl
def am_{k:Int}{s:Ty}{a:Fm}(hs:s.aor<=1000000000)(b:a.wt<=1000000000):vg k s a=some (.mk k s [] [a]):=by
 unfold vg;rw[jM hs,w8 b];rfl
def fb:Nat->Nat
 |0=>115|k+1=>1+2*fb k
def xP(l:List Ty):Int:=if 16<l.length then 3 else fC (l.map Ty.err)
def FH(l:List Ty)(f:l.length<=1000000)(h:∀t∈l,t.aor<=1000000000):nR l=some (xP l):=by
 unfold nR xP;simp only[hJ,fV,ei (l:=l) VW,dU,dY]
 by_cases b:16<l.length
 .rw[dO VW,dO b]
 .rw[dK VW,dK b]
  have key:=mN (F:=λ(j:Int) (x:Ty) (_:Unit)=>dH (sj x) λa=>if eR a 0 then some (fp.ret a)else some (fp.next ())) Ty.err l 0 (by
   intro j x d;rw[Jj (h x d)]
   simp only[dI,eW])
  simp only[eW] at key|-;rw[key]
  by_cases c:fC (l.map Ty.err)=0
  .simp[c]
  .simp[c]
def tx(l:List Ty)(f:l.length<=1000000)(h:∀t∈l,t.aor<=1000000000):mq l=some (xP l):=by
 unfold mq xP;simp only[hJ,fV,ei (l:=l) VW,dU,dY]
 by_cases b:16<l.length
 .rw[dO VW,dO b]
 .rw[dK VW,dK b]
  have key:=mN (F:=λ(j:Int) (x:Ty) (_:Unit)=>dH (jj x) λa=>if eR a 0 then some (fp.ret a)else some (fp.next ())) Ty.err l 0 (by
   intro j x d;rw[mI (h x d)]
   simp only[dI,eW])
  simp only[eW] at key|-;rw[key]
  by_cases c:fC (l.map Ty.err)=0
  .simp[c]
  .simp[c]
def yG:∀(n:Nat) (a b:Ty),a.aor<=n->a.aor<=1000000000->∃r,gR n a b=some r/\(r=true↔a=b):=by
 intro n
 induction n with
 |zero=>intro t b h;have:=t.eF;omega
 |succ n ih=>
  intro a b h s;cases a with
  |mk k l=>
  cases b with
  |mk k' m=>
   rw[Ty.dL] at h s;have u:=Ty.fA l;rw[gR];simp only[Ty.ey,Ty.eD,dY,ei (l:=l) VW,dU,lW,sx,eW,fV]
   by_cases d:k≠k'\/(l.length:Int)≠m.length
   .rw[dO d];refine⟨false,rfl,?_⟩;simp only[pA,TJ,Ty.mk.injEq,not_and];rintro rfl rfl;simp at d
   .rw[dK d];simp only[not_or,yU] at d;obtain⟨rfl,hlen⟩:=d
    have c:l.length=m.length:=VW
    let p:Ty->Ty->Bool:=λx y=>(gR n x y).getD false
    have o:∀x∈l,∀y,gR n x y=some (p x y)/\(p x y=true↔x=y):=by
     intro x f y;have:=eu Ty.aor f;obtain⟨r,q,i⟩:=ih x y VW VW
     have e:p x y=r:=by show(gR n x y).getD false=r;rw[q];rfl
     rw[e];exact⟨q,i⟩
    have key:=yi (F:=λ(j:Int) (x:Ty) (_:Unit)=>dH (dW m j) λy=>dH (gR n x y) λz=>if z then some (fp.next ())else some (fp.ret false)) p m l 0 m rfl c (by
     intro k x y f hy;rw[gS,hy];simp only[dI];rw[(o x f y).1]
     rfl)
    rw[key];have he:=yv p l m λx f y=>(o x f y).2;cases i:vU p l m with
    |false=>exact⟨false,rfl,by rw[i] at he;simpa using he⟩
    |true=>exact⟨true,rfl,by rw[i] at he;simpa using he⟩
def yf:∀(n:Nat) (a b:Tm),a.wt<=n->a.wt<=1000000000->∃r,jq n a b=some r/\(r=true↔a=b):=by
 intro n
 induction n with
 |zero=>intro t b h;have:=t.kf;omega
 |succ n ih=>
  intro a b h G;cases a with
  |mk k i s l=>
  cases b with
  |mk k' f v m=>
   rw[Tm.iE] at h G;have I:=Tm.p7 l;rw[jq];simp only[Tm.ey,Tm.eD,Tm.gn,Tm.fx,dY,ei (l:=l) VW,dU,eW,fV]
   have no:¬(k=k'/\i=f/\s=v/\l.length=m.length)->∃r,some false=some r/\(r=true↔Tm.mk k i s l=Tm.mk k' f v m):=by
    intro hn;refine⟨false,rfl,?_⟩;simp only[pA,TJ,Tm.mk.injEq,not_and];rintro rfl rfl rfl rfl;exact hn ⟨rfl,rfl,rfl,rfl⟩
   by_cases o:k≠k'
   .rw[dO o,dO trivial];exact no λh=>o h.1
   .rw[dK o]
    by_cases hi:i≠f
    .rw[dO hi,dO trivial];exact no λh=>hi h.2.1
    .rw[dK hi];obtain⟨r,H,B⟩:=yG FU s v (by rw[fl];omega) VW;rw[H];simp only[dI]
     by_cases q:r=true
     .have hs:=B.1 q;rw[dO q]
      by_cases hlen:(l.length:Int)≠m.length
      .rw[dO hlen];exact no λh=>hlen VW
      .rw[dK hlen]
       have c:l.length=m.length:=VW
       let p:Tm->Tm->Bool:=λx y=>(jq n x y).getD false
       have C:∀x∈l,∀y,jq n x y=some (p x y)/\(p x y=true↔x=y):=by
        intro x d y;have:=eu Tm.wt d;obtain⟨r,D,u⟩:=ih x y VW VW
        have e:p x y=r:=by show(jq n x y).getD false=r;rw[D];rfl
        rw[e];exact⟨D,u⟩
       have key:=yi (F:=λ(j:Int) (x:Tm) (_:Unit)=>dH (dW m j) λy=>dH (jq n x y) λz=>if z then some (fp.next ())else some (fp.ret false)) p m l 0 m rfl c (by
        intro k x y d hy;rw[gS,hy];simp only[dI];rw[(C x d y).1]
        rfl)
       rw[key];have he:=yv p l m λx d y=>(C x d y).2;have w:k=k':=yU.1 o;have hi':i=f:=yU.1 hi;cases u:vU p l m with
       |false=>
        refine⟨false,rfl,?_⟩;rw[u] at he;simp only[pA,TJ,Tm.mk.injEq,not_and];intro _ _ _ A;exact absurd (he.2 A) abm
       |true=>
        refine⟨true,rfl,?_⟩;rw[u] at he;simp only[true_iff,Tm.mk.injEq];exact⟨w,hi',hs,he.1 rfl⟩
     .rw[dK q,dO trivial];exact no λh=>q (B.2 h.2.2.1)
def xJ:∀(n:Nat) (a b:Tm),a.wt<=n->a.wt<=1000000000->∃r,lX n a b=some r/\(r=true↔a=b):=by
 intro n
 induction n with
 |zero=>intro t b h;have:=t.kf;omega
 |succ n ih=>
  intro a b h G;cases a with
  |mk k i s l=>
  cases b with
  |mk k' f v m=>
   rw[Tm.iE] at h G;have I:=Tm.p7 l;rw[lX];simp only[Tm.ey,Tm.eD,Tm.gn,Tm.fx,dY,ei (l:=l) VW,dU,eW,fV]
   have no:¬(k=k'/\i=f/\s=v/\l.length=m.length)->∃r,some false=some r/\(r=true↔Tm.mk k i s l=Tm.mk k' f v m):=by
    intro hn;refine⟨false,rfl,?_⟩;simp only[pA,TJ,Tm.mk.injEq,not_and];rintro rfl rfl rfl rfl;exact hn ⟨rfl,rfl,rfl,rfl⟩
   by_cases o:k≠k'
   .rw[dO o,dO trivial];exact no λh=>o h.1
   .rw[dK o]
    by_cases hi:i≠f
    .rw[dO hi,dO trivial];exact no λh=>hi h.2.1
    .rw[dK hi];obtain⟨r,H,B⟩:=xO FU s v (by rw[fl];omega) VW;rw[H];simp only[dI]
     by_cases q:r=true
     .have hs:=B.1 q;rw[dO q]
      by_cases hlen:(l.length:Int)≠m.length
      .rw[dO hlen];exact no λh=>hlen VW
      .rw[dK hlen]
       have c:l.length=m.length:=VW
       let p:Tm->Tm->Bool:=λx y=>(lX n x y).getD false
       have C:∀x∈l,∀y,lX n x y=some (p x y)/\(p x y=true↔x=y):=by
        intro x d y;have:=eu Tm.wt d;obtain⟨r,D,u⟩:=ih x y VW VW
        have e:p x y=r:=by show(lX n x y).getD false=r;rw[D];rfl
        rw[e];exact⟨D,u⟩
       have key:=yi (F:=λ(j:Int) (x:Tm) (_:Unit)=>dH (dW m j) λy=>dH (lX n x y) λz=>if z then some (fp.next ())else some (fp.ret false)) p m l 0 m rfl c (by
        intro k x y d hy;rw[gS,hy];simp only[dI];rw[(C x d y).1]
        rfl)
       rw[key];have he:=yv p l m λx d y=>(C x d y).2;have w:k=k':=yU.1 o;have hi':i=f:=yU.1 hi;cases u:vU p l m with
       |false=>
        refine⟨false,rfl,?_⟩;rw[u] at he;simp only[pA,TJ,Tm.mk.injEq,not_and];intro _ _ _ A;exact absurd (he.2 A) abm
       |true=>
        refine⟨true,rfl,?_⟩;rw[u] at he;simp only[true_iff,Tm.mk.injEq];exact⟨w,hi',hs,he.1 rfl⟩
     .rw[dK q,dO trivial];exact no λh=>q (B.2 h.2.2.1)
def Lf{a b:Tm}(hw:a.wt<=1000000000):∃r,rW a b=some r/\(r=true↔a=b):=by
 obtain⟨r,c,d⟩:=yf FU a b (by rw[fl];exact hw) hw;exact⟨r,by unfold rW;rw[c];rfl,d⟩
def Ez:∀(k:Nat) (m:Int) (t:Tm),(t.norm k m).2.2=0\/(t.norm k m).2.2=4\/(t.norm k m).2.2=5
 |0,m,t=>by
  rw[Tm.norm]
  split
  .exact .inl rfl
  .exact .inr (.inr rfl)
 |k+1,m,t=>by
  rw[Tm.norm]
  split
  .exact .inr (.inl rfl)
  .exact .inl rfl
  .exact Ez k _ _
def VC:∀(k:Nat) (m:Int) (t a:Tm) (n:Int),t.norm k m=(a,n,0)->a.nf=true/\m<=n/\n<=m+k/\(∀k':Nat,n<=m+k'->t.norm k' m=(a,n,0))/\∀k':Nat,m+k'<n->t.norm k' m=(Tm.z,0,5)
 |0,m,t,a,n,h=>by
  rw[Tm.norm] at h
  split at h
  .rename_i b;obtain⟨c,h⟩:=iO h;rw[<-c];obtain⟨rfl,_⟩:=iO h;refine⟨b,Hu _,VW,λk' _=>?_,λk' h=>by omega⟩;cases k' with
   |zero=>rw[Tm.norm,dO b]|succ k'=>rw[Bj ((Au _ _).1 b)]
  .cases h
 |k+1,m,t,a,n,h=>by
  rw[Tm.norm] at h
  split at h
  .cases h
  .rename_i hs;obtain⟨c,h⟩:=iO h;rw[<-c];obtain⟨rfl,_⟩:=iO h;have b:=(Au _ _).2 hs;refine⟨b,Hu _,VW,λk' _=>?_,λk' h=>by omega⟩;cases k' with
   |zero=>rw[Tm.norm,dO b]|succ k'=>rw[Bj hs]
  .rename_i d hs;obtain⟨f,o,q,i,j⟩:=VC k (m+1) d a n h;refine⟨f,VW,VW,λk' l=>?_,λk' l=>?_⟩
   .cases k' with
    |zero=>omega|succ k'=>
     rw[Bz hs];exact i k' VW
   .cases k' with
    |zero=>
     rw[Tm.norm,dK];intro b;rw[(Au _ _).1 b] at hs;cases hs
    |succ k'=>
     rw[Bz hs];exact j k' VW
def HZ:∀(k:Nat) (M m:Int) (t a:Tm) (n:Int),0<=M->Sm M t->t.aor<=4096->t.norm k m=(a,n,0)->Sm (M+8192*k) a/\a.aor<=4096
 |0,M,m,t,a,n,d,hs,hn,h=>by
  rw[Tm.norm] at h
  split at h
  .obtain⟨b,h⟩:=iO h;rw[<-b];exact⟨hs.mono VW,hn⟩
  .cases h
 |k+1,M,m,t,a,n,d,hs,hn,h=>by
  rw[Tm.norm] at h
  split at h
  .cases h
  .obtain⟨b,h⟩:=iO h;rw[<-b];exact⟨hs.mono VW,hn⟩
  .rename_i f c;obtain⟨i,j,l⟩:=Nz d t hs VW f c;obtain⟨a1,a2⟩:=HZ k (M+8192) (m+1) f a n VW ⟨i,j,VW⟩ VW h;exact⟨a1.mono VW,a2⟩
def Xs(l:List Int):I0 l=some (decide (l.length<=500)):=by
 unfold I0
 congr 1
 unfold Tq eE;exact TX.2 VW
def rC{k:Int}(a:k≠1)(c:k≠2)(f b i:Int)(s:Ty)(l:List Tm):(Tm.mk k i s l).up f b=.mk k i s (l.map (Tm.up f b)):=by
 rw[Tm.fE,dK (λh=>a h.1)];unfold eT;rw[dK c,ti]
def abf(f b i:Int)(s:Ty)(l:List Tm):(Tm.mk 2 i s l).up f b=.mk 2 i s (l.map (Tm.up (f+1) b)):=by
 rw[Tm.fE,dK (λh=>by have:=h.1;omega)];rfl
def nY{k:Int}(b:k≠1)(c:k≠2)(n i:Int)(a:Tm)(s:Ty)(l:List Tm):Tm.gP n (Tm.mk k i s l) a=.mk k i s (l.map λx=>Tm.gP n x a):=by
 rw[Tm.fN,dK b];unfold eT;rw[dK c,ti]
def VG(n i:Int)(a:Tm)(s:Ty)(l:List Tm):Tm.gP n (Tm.mk 2 i s l) a=.mk 2 i s (l.map λx=>Tm.gP (n+1) x a):=by
 rw[Tm.fN,dK aal];rfl
def Ib{g:List Ty}{t:Ty}{i j:Nat}(h:g[j]?=some t)(hi:i<g.length)(a:g.length-1-i=j):eg g (.mk 1 i .z []) t:=.var i hi (by rw[a];exact h)
def eg.up{g:List Ty}{x:Tm}{t:Ty}(h:eg g x t):∀g1 g2 e:List Ty,g=g1++g2->eg (g1++e++g2) (x.up g2.length e.length) t:=by
 induction h with
 |@var g t i d k=>
  rintro g1 g2 e rfl;rw[Tm.fE,rQ];rw[oV] at d
  by_cases hi:g2.length<=i
  .rw[dO ⟨rfl,VW⟩,show(i:Int)+e.length=((i+e.length:Nat):Int) by push_cast;rfl];refine Ib (j:=g1.length+g2.length-1-i) ?_ (by simp<;>omega) (by simp<;>omega);rw[oV,uJ VW] at k;rw[tv,uJ VW];exact k
  .rw[dK (λh=>by have:=h.2;omega)];refine Ib (j:=g1.length+e.length+(g2.length-1-i)) ?_ (by simp<;>omega) (by simp<;>omega);rw[oV,tS VW] at k;rw[tS (by simp<;>omega)];rw[<-k]
   congr 1
   simp;omega
 |@lam g s b t d _ ih=>
  rintro g1 g2 e rfl;have:=ih g1 (g2++[s]) e (by rw[tv]);rw[abf];refine .lam d ?_;rw[oV,<-tv] at this;exact this
 |app _ _ a c=>intro g1 g2 e hg;rw[rC aal aal];exact .app (a g1 g2 e hg) (c g1 g2 e hg)|zero=>intro g1 g2 e hg;rw[rC aal aal];exact .zero|succ _ ih=>intro g1 g2 e hg;rw[rC aal aal];exact .succ (ih g1 g2 e hg)|sF d _ _ _ a c f=>intro g1 g2 e hg;rw[rC aal aal];exact .sF d (a g1 g2 e hg) (c g1 g2 e hg) (f g1 g2 e hg)|nil=>intro g1 g2 e hg;rw[rC aal aal];exact .nil|cons _ _ a c=>intro g1 g2 e hg;rw[rC aal aal];exact .cons (a g1 g2 e hg) (c g1 g2 e hg)|fold d _ _ _ a c f=>intro g1 g2 e hg;rw[rC aal aal];exact .fold d (a g1 g2 e hg) (c g1 g2 e hg) (f g1 g2 e hg)|pair d _ _ a c=>intro g1 g2 e hg;rw[rC aal aal];exact .pair d (a g1 g2 e hg) (c g1 g2 e hg)|fst _ ih=>intro g1 g2 e hg;rw[rC aal aal];exact .fst (ih g1 g2 e hg)|snd _ ih=>intro g1 g2 e hg;rw[rC aal aal];exact .snd (ih g1 g2 e hg)|unit=>intro g1 g2 e hg;rw[rC aal aal];exact .unit
theorem eg.gP{g:List Ty}{x:Tm}{t:Ty}(h:eg g x t):∀(g1:List Ty) (s:Ty) (g2:List Ty) (a:Tm),g=g1++[s]++g2->eg g1 a s->eg (g1++g2) (Tm.gP g2.length x a) t:=by
 induction h with
 |@var g t i k l=>
  rintro g1 s g2 a rfl c;rw[Tm.fN,dO rfl];unfold Tm.lz;simp only[oV,kY,wZ] at k l
  by_cases he:(i:Int)=g2.length
  .rw[dO he]
   have o:s=t:=by
    rw[tv,tS VW,uJ (by simp<;>omega)] at l;rw[show g1.length+(0+1)+g2.length-1-i-g1.length=0 by omega] at l;exact hU l
   subst o;have:=c.up g1 [] g2 abm;simpa using this
  .rw[dK he]
   by_cases hi:(g2.length:Int)<i
   .rw[dO hi,show(i:Int)-1=((i-1:Nat):Int) by omega];refine Ib (j:=g1.length+g2.length-i) ?_ (by simp<;>omega) (by simp<;>omega);rw[tv,uJ VW] at l;rw[uJ VW,<-l]
    congr 1
    omega
   .rw[dK hi];refine Ib (j:=g1.length+(g2.length-1-i)) ?_ (by simp<;>omega) (by simp<;>omega);rw[tS (by simp<;>omega)] at l;rw[tS VW,<-l]
    congr 1
    simp;omega
 |@lam g s b t k _ ih=>
  rintro g1 u g2 a rfl c;have:=ih g1 u (g2++[s]) a (by simp only[tv]) c;rw[VG];refine .lam k ?_;rw[oV,<-tv] at this;exact this
 |app _ _ d f=>intro g1 s g2 a hg c;rw[nY aal aal];exact .app (d g1 s g2 a hg c) (f g1 s g2 a hg c)|zero=>intro g1 s g2 a hg c;rw[nY aal aal];exact .zero|succ _ ih=>intro g1 s g2 a hg c;rw[nY aal aal];exact .succ (ih g1 s g2 a hg c)|sF k _ _ _ d f n=>intro g1 s g2 a hg c;rw[nY aal aal];exact .sF k (d g1 s g2 a hg c) (f g1 s g2 a hg c) (n g1 s g2 a hg c)|nil=>intro g1 s g2 a hg c;rw[nY aal aal];exact .nil|cons _ _ d f=>intro g1 s g2 a hg c;rw[nY aal aal];exact .cons (d g1 s g2 a hg c) (f g1 s g2 a hg c)|fold k _ _ _ d f n=>intro g1 s g2 a hg c;rw[nY aal aal];exact .fold k (d g1 s g2 a hg c) (f g1 s g2 a hg c) (n g1 s g2 a hg c)|pair k _ _ d f=>intro g1 s g2 a hg c;rw[nY aal aal];exact .pair k (d g1 s g2 a hg c) (f g1 s g2 a hg c)|fst _ ih=>intro g1 s g2 a hg c;rw[nY aal aal];exact .fst (ih g1 s g2 a hg c)|snd _ ih=>intro g1 s g2 a hg c;rw[nY aal aal];exact .snd (ih g1 s g2 a hg c)|unit=>intro g1 s g2 a hg c;rw[nY aal aal];exact .unit
def Ty.ahF{a b c d:Ty}(h:Ty.fn a b=Ty.fn c d):a=c/\b=d:=by unfold Ty.fn at h;simpa using h
def Ty.aap{a b c d:Ty}(h:Ty.pr a b=Ty.pr c d):a=c/\b=d:=by unfold Ty.pr at h;simpa using h
theorem eg.fh{g:List Ty}{x:Tm}{t:Ty}(h:eg g x t)(o:x.root=true):eg g x.fh t:=by
 cases h with
 |@app _ f a s _ c k=>
  have d:f.aop=2:=by simpa[Tm.root,Tm.kd] using o
  generalize r:Ty.fn s t=q at c
  cases c<;>simp only[Tm.eD] at d<;>first|omega|skip
  rename_i A b w i j;obtain⟨rfl,rfl⟩:=Ty.ahF r;have:=j.gP g s [] a abm k;simpa[Tm.fh] using this
 |@sF _ _ b s n c k i j=>
  have d:n.aop=4\/n.aop=5:=by simpa[Tm.root,Tm.kd] using o
  cases j<;>simp only[Tm.eD] at d<;>first|omega|skip
  .simpa[Tm.fh] using k
  .rename_i m l;have:=eg.app (.app i l) (eg.sF c k i l);simpa[Tm.fh,kC,Ty.z] using this
 |@fold _ _ b s n c k i j=>
  have d:n.aop=7\/n.aop=8:=by simpa[Tm.root,Tm.kd] using o
  cases j<;>simp only[Tm.eD] at d<;>first|omega|skip
  .simpa[Tm.fh] using k
  .rename_i u v l y;have:=eg.app (.app (.app i l) y) (eg.fold c k i y);simpa[Tm.fh,kC,Ty.z] using this
 |@fst _ a s w c=>
  have d:a.aop=10:=by simpa[Tm.root,Tm.kd] using o
  generalize r:Ty.pr t w=q at c
  cases c<;>simp only[Tm.eD] at d<;>first|omega|skip
  rename_i i j l;obtain⟨rfl,rfl⟩:=Ty.aap r;simpa[Tm.fh] using j
 |@snd _ a s w c=>
  have d:a.aop=10:=by simpa[Tm.root,Tm.kd] using o
  generalize r:Ty.pr s t=q at c
  cases c<;>simp only[Tm.eD] at d<;>first|omega|skip
  rename_i i j l;obtain⟨rfl,rfl⟩:=Ty.aap r;simpa[Tm.fh] using l
 |_=>simp[Tm.root] at o
def lP{r k i:Int}{s:Ty}{l:List Tm}{b:Tm}(h:(Tm.mk k i s l).Ka r=some (some b)):((Tm.mk k i s l).root=true/\b=(Tm.mk k i s l).fh)\/∃a,Tm.sE r l=some (some a)/\b=.mk k i s a:=by
 rw[Tm.Dq] at h
 by_cases c:(Tm.mk k i s l).root=true
 .rw[dO c] at h
  split at h
  . cases h
  . exact .inl ⟨c,(hU (hU h)).symm⟩
 .rw[dK c] at h;cases e:Tm.sE r l with
  |none=>rw[e] at h;cases h
  |some o=>
    cases o with
    |none=>rw[e] at h;cases h
    |some a=>rw[e] at h;exact .inr ⟨a,rfl,(hU (hU h)).symm⟩
def kr{r:Int}{a:Tm}{l c:List Tm}(h:Tm.sE r (a::l)=some (some c)):(∃b,a.Ka r=some (some b)/\c=b::l)\/∃m,Tm.sE r l=some (some m)/\c=a::m:=by
 rw[Tm.sE] at h;cases e:a.Ka r with
 |none=>rw[e] at h;cases h
 |some o=>
  cases o with
  |some b=>rw[e] at h;exact .inl ⟨b,rfl,(hU (hU h)).symm⟩
  |none=>
   rw[e] at h;dsimp only at h;cases d:Tm.sE r l with
   |none=>rw[d] at h;cases h
   |some o2=>
    cases o2 with
    |none=>rw[d] at h;cases h
    |some m=>rw[d] at h;exact .inr ⟨m,rfl,(hU (hU h)).symm⟩
def ng{r:Int}{a:List Tm}(h:Tm.sE r []=some (some a)):False:=by rw[Tm.sE] at h;cases h
def eg.Ka{r:Int}{g:List Ty}{x:Tm}{t:Ty}(h:eg g x t):∀o,x.Ka r=some (some o)->eg g o t:=by
 induction h with
 |var i c j=>
  intro o hs;rcases lP hs with⟨d,rfl⟩|⟨u,f,rfl⟩
  .exact(eg.var i c j).fh d
  .exact(ng f).elim
 |lam c j ih=>
  intro o hs;rcases lP hs with⟨d,rfl⟩|⟨u,f,rfl⟩
  .exact(eg.lam c j).fh d
  .rcases kr f with⟨q,a,b⟩|⟨m,a,b⟩
   .subst_vars;exact .lam c (ih _ a)
   .exact(ng a).elim
 |app c j k l=>
  intro o hs;rcases lP hs with⟨d,rfl⟩|⟨u,f,rfl⟩
  .exact(eg.app c j).fh d
  .rcases kr f with⟨q,a,b⟩|⟨m,a,b⟩
   .subst_vars;exact .app (k _ a) j
   .rcases kr a with⟨q,n,b⟩|⟨m,n,b⟩
    .subst_vars;exact .app c (l _ n)
    .exact(ng n).elim
 |zero=>
  intro o hs;rcases lP hs with⟨d,rfl⟩|⟨u,f,rfl⟩
  .exact eg.zero.fh d
  .exact(ng f).elim
 |succ c ih=>
  intro o hs;rcases lP hs with⟨d,rfl⟩|⟨u,f,rfl⟩
  .exact(eg.succ c).fh d
  .rcases kr f with⟨q,a,b⟩|⟨m,a,b⟩
   .subst_vars;exact .succ (ih _ a)
   .exact(ng a).elim
 |sF s c j v k l w=>
  intro o hs;rcases lP hs with⟨d,rfl⟩|⟨u,f,rfl⟩
  .exact(eg.sF s c j v).fh d
  .rcases kr f with⟨q,a,b⟩|⟨m,a,b⟩
   .subst_vars;exact .sF s (k _ a) j v
   .rcases kr a with⟨q,n,b⟩|⟨m,n,b⟩
    .subst_vars;exact .sF s c (l _ n) v
    .rcases kr n with⟨q,y,b⟩|⟨m,y,b⟩
     .subst_vars;exact .sF s c j (w _ y)
     .exact(ng y).elim
 |nil=>
  intro o hs;rcases lP hs with⟨d,rfl⟩|⟨u,f,rfl⟩
  .exact eg.nil.fh d
  .exact(ng f).elim
 |cons c j k l=>
  intro o hs;rcases lP hs with⟨d,rfl⟩|⟨u,f,rfl⟩
  .exact(eg.cons c j).fh d
  .rcases kr f with⟨q,a,b⟩|⟨m,a,b⟩
   .subst_vars;exact .cons (k _ a) j
   .rcases kr a with⟨q,n,b⟩|⟨m,n,b⟩
    .subst_vars;exact .cons c (l _ n)
    .exact(ng n).elim
 |fold s c j v k l w=>
  intro o hs;rcases lP hs with⟨d,rfl⟩|⟨u,f,rfl⟩
  .exact(eg.fold s c j v).fh d
  .rcases kr f with⟨q,a,b⟩|⟨m,a,b⟩
   .subst_vars;exact .fold s (k _ a) j v
   .rcases kr a with⟨q,n,b⟩|⟨m,n,b⟩
    .subst_vars;exact .fold s c (l _ n) v
    .rcases kr n with⟨q,y,b⟩|⟨m,y,b⟩
     .subst_vars;exact .fold s c j (w _ y)
     .exact(ng y).elim
 |pair s c j k l=>
  intro o hs;rcases lP hs with⟨d,rfl⟩|⟨u,f,rfl⟩
  .exact(eg.pair s c j).fh d
  .rcases kr f with⟨q,a,b⟩|⟨m,a,b⟩
   .subst_vars;exact .pair s (k _ a) j
   .rcases kr a with⟨q,n,b⟩|⟨m,n,b⟩
    .subst_vars;exact .pair s c (l _ n)
    .exact(ng n).elim
 |fst c ih=>
  intro o hs;rcases lP hs with⟨d,rfl⟩|⟨u,f,rfl⟩
  .exact(eg.fst c).fh d
  .rcases kr f with⟨q,a,b⟩|⟨m,a,b⟩
   .subst_vars;exact .fst (ih _ a)
   .exact(ng a).elim
 |snd c ih=>
  intro o hs;rcases lP hs with⟨d,rfl⟩|⟨u,f,rfl⟩
  .exact(eg.snd c).fh d
  .rcases kr f with⟨q,a,b⟩|⟨m,a,b⟩
   .subst_vars;exact .snd (ih _ a)
   .exact(ng a).elim
 |unit=>
  intro o hs;rcases lP hs with⟨d,rfl⟩|⟨u,f,rfl⟩
  .exact eg.unit.fh d
  .exact(ng f).elim
def eg.norm{g:List Ty}{t:Ty}:∀(k:Nat) (m:Int) (x a:Tm) (n:Int),eg g x t->x.norm k m=(a,n,0)->eg g a t
 |0,m,x,a,n,b,h=>by
  rw[Tm.norm] at h
  split at h
  .obtain⟨c,_⟩:=iO h;rw[<-c];exact b
  .cases h
 |k+1,m,x,a,n,b,h=>by
  rw[Tm.norm] at h
  split at h
  .cases h
  .obtain⟨c,_⟩:=iO h;rw[<-c];exact b
  .rename_i d hs;exact eg.norm k (m+1) d a n (b.Ka _ hs) h
theorem Iz{i:Int}{s:Ty}{l:List Tm}(h:(Tm.mk 1 i s l).ok=true):s=.mk 0 []/\l=[]:=by
 have b:=Tm.sQ h;have e:gW 1=0:=rfl;have a:l=[]:=Cd VW;subst a;rw[Tm.gX] at h;cases s with
 |mk k l=>simp[Tm.node,j_,Ty.rj,eo,eE,gW] at h;refine⟨?_,rfl⟩;obtain⟨c,d⟩:=h;simp_all
theorem ajK(t:Tm):∀g f n c:Int,0<=g->0<=n->0<=c->g+n<=f->(t.up g n).up f c=(t.up (f-n) c).up g n:=by
 induction t using Tm.ind with
 |h k i s l ih=>
  intro g f n c hg hn a b;simp only[Tm.fE,F6]
  congr 1
  .grind
  .refine th λx d=>?_
   grind[eT]
theorem up_add(t:Tm):∀g f p m:Int,0<=g->0<=p->0<=m->g<=f->f<=g+p->(t.up g p).up f m=t.up g (p+m):=by
 induction t using Tm.ind with
 |h k i s l ih=>
  intro g f p m hg a hm b c;simp only[Tm.fE,F6]
  congr 1
  .grind
  .refine th λx d=>?_
   grind[eT]
theorem SZ(x t:Tm):∀g m n:Int,t.ok=true->0<=g->g<=m->m<=g+n->Tm.gP m (t.up g (n+1)) x=t.up g n:=by
 induction t using Tm.ind with
 |h k i s l ih=>
  intro g m n b hg c d
  by_cases a:k=1
  .grind[Iz,Tm.fE,Tm.fN,Tm.lz]
  .simp only[Tm.fE,a,Iv,jt,Tm.fN,F6]
   congr 1
   refine th λy hy=>?_
   grind[eT,Tm.ez]
theorem R8(a t:Tm):∀g m n:Int,t.ok=true->0<=g->0<=m->g+m<=n->Tm.gP n (t.up g m) a=(Tm.gP (n-m) t a).up g m:=by
 induction t using Tm.ind with
 |h k i s l ih=>
  intro g m n c hg hm d
  by_cases b:k=1
  .grind[Tm.fE,Tm.fN,Tm.lz,up_add]
  .simp only[Tm.fE,b,Iv,jt,Tm.fN,F6]
   congr 1
   refine th λy hy=>?_
   grind[eT,Tm.ez]
def agP(a t:Tm):∀n f c:Int,t.ok=true->0<=n->n<=f->0<=c->(Tm.gP n t a).up f c=Tm.gP n (t.up (f+1) c) (a.up (f-n) c):=by
 induction t using Tm.ind with
 |h k i s l ih=>
  intro n f c d hn j o
  by_cases b:k=1
  .subst b;obtain⟨rfl,rfl⟩:=Iz d;simp only[Tm.fE,zT,rQ,Tm.fN,if_true]
   grind[Tm.lz,ajK,Tm.fE]
  .simp only[Tm.fE,b,Iv,jt,Tm.fN,F6]
   congr 1
   refine th λy hy=>?_
   grind[eT,Tm.ez]
def adj(a s:Tm)(c:a.ok=true)(hs:s.ok=true)(t:Tm):∀m n:Int,t.ok=true->0<=m->m<=n->Tm.gP n (Tm.gP m t a) s=Tm.gP m (Tm.gP (n+1) t s) (Tm.gP (n-m) a s):=by
 induction t using Tm.ind with
 |h k i ty l ih=>
  intro m n d hm hn
  by_cases b:k=1
  .grind[Iz,Tm.fN,Tm.lz,R8,SZ]
  .simp only[Tm.fN,b,jt,F6]
   congr 1
   refine th λy hy=>?_
   grind[eT,Tm.ez]
inductive mP:Tm->Tm->Prop
 |n0 (k i:Int) (s:Ty):mP (.mk k i s []) (.mk k i s [])|n1 (k i:Int) (s:Ty) {a a':Tm}:mP a a'->mP (.mk k i s [a]) (.mk k i s [a'])|n2 (k i:Int) (s:Ty) {a a' b b':Tm}:mP a a'->mP b b'->mP (.mk k i s [a,b]) (.mk k i s [a',b'])|n3 (k i:Int) (s:Ty) {a a' b b' c c':Tm}:mP a a'->mP b b'->mP c c'->mP (.mk k i s [a,b,c]) (.mk k i s [a',b',c'])|beta (i:Int) (s:Ty) (j:Int) (u:Ty) {b b' a a':Tm}:mP b b'->mP a a'->mP (.mk 3 i s [.mk 2 j u [b],a]) (Tm.gP 0 b' a')|NW (i:Int) (s:Ty) (j:Int) (u:Ty) (c:Tm) {b b':Tm}:mP b b'->mP (.mk 6 i s [b,c,.mk 4 j u []]) b'|O7 (i:Int) (s:Ty) (j:Int) (u:Ty) {b b' c c' n n':Tm}:mP b b'->mP c c'->mP n n'->mP (.mk 6 i s [b,c,.mk 5 j u [n]]) (kC c' [n',.mk 6 i s [b',c',n']])|D6 (i:Int) (s:Ty) (j:Int) (u:Ty) (c:Tm) {b b':Tm}:mP b b'->mP (.mk 9 i s [b,c,.mk 7 j u []]) b'|EV (i:Int) (s:Ty) (j:Int) (u:Ty) {b b' c c' n n' t t':Tm}:mP b b'->mP c c'->mP n n'->mP t t'->mP (.mk 9 i s [b,c,.mk 8 j u [n,t]]) (kC c' [n',t',.mk 9 i s [b',c',t']])|fst (i:Int) (s:Ty) (j:Int) (u:Ty) (b:Tm) {a a':Tm}:mP a a'->mP (.mk 11 i s [.mk 10 j u [a,b]]) a'|snd (i:Int) (s:Ty) (j:Int) (u:Ty) (a:Tm) {b b':Tm}:mP b b'->mP (.mk 12 i s [.mk 10 j u [a,b]]) b'
def mP.ok{t u:Tm}(h:mP t u):t.ok=true->u.ok=true:=by
 induction h with
 |n0 k i s=>exact id|n1 k i s _ ih=>intro d;exact Tm.xu d rfl (by intro t v;rw[Hf] at v;subst v;exact ih (Tm.ez d _ abm))
 |n2 k i s _ _ f l=>grind[Tm.xu,Tm.ez]|n3 k i s _ _ _ f l o=>
  intro d;refine Tm.xu d rfl ?_
  grind[Tm.ez]
 |@beta i s j u b q a x _ _ f l=>
  intro d;exact Tm.Jp _ (l (Tm.ez d a abm)) _ 0 VW (f (Tm.ez (Tm.ez d (Tm.mk 2 j u [b]) abm) b abm))
 |NW i s j u c _ ih=>intro d;exact ih (Tm.ez d _ abm)|@O7 i s j u b q c y n n' _ _ _ f l o=>
  intro d;have A:=f (Tm.ez d _ abm);have B:=l (Tm.ez d _ abm);have C:=o (Tm.ez (Tm.ez d (Tm.mk 5 j u [n]) abm) _ abm)
  grind[DK,Tm.xu]
 |D6 i s j u c _ ih=>intro d;exact ih (Tm.ez d _ abm)|@EV i s j u b q c y n n' t D _ _ _ _ f l o r=>
  intro d;have A:=f (Tm.ez d _ abm);have B:=l (Tm.ez d _ abm);have w:=Tm.ez d (Tm.mk 8 j u [n,t]) abm;have C:=o (Tm.ez w _ abm);have F:=r (Tm.ez w _ abm)
  grind[DK,Tm.xu]
 |@fst i s j u b a x _ ih=>intro d;exact ih (Tm.ez (Tm.ez d (Tm.mk 10 j u [a,b]) abm) a abm)|@snd i s j u a b q _ ih=>intro d;exact ih (Tm.ez (Tm.ez d (Tm.mk 10 j u [a,b]) abm) b abm)
def up3(f b i:Int)(s:Ty)(l:List Tm):(Tm.mk 3 i s l).up f b=.mk 3 i s (l.map (Tm.up f b)):=rC aal aal f b i s l
def up4(f b i:Int)(s:Ty)(l:List Tm):(Tm.mk 4 i s l).up f b=.mk 4 i s (l.map (Tm.up f b)):=rC aal aal f b i s l
def up5(f b i:Int)(s:Ty)(l:List Tm):(Tm.mk 5 i s l).up f b=.mk 5 i s (l.map (Tm.up f b)):=rC aal aal f b i s l
def up6(f b i:Int)(s:Ty)(l:List Tm):(Tm.mk 6 i s l).up f b=.mk 6 i s (l.map (Tm.up f b)):=rC aal aal f b i s l
def up7(f b i:Int)(s:Ty)(l:List Tm):(Tm.mk 7 i s l).up f b=.mk 7 i s (l.map (Tm.up f b)):=rC aal aal f b i s l
def up8(f b i:Int)(s:Ty)(l:List Tm):(Tm.mk 8 i s l).up f b=.mk 8 i s (l.map (Tm.up f b)):=rC aal aal f b i s l
def up9(f b i:Int)(s:Ty)(l:List Tm):(Tm.mk 9 i s l).up f b=.mk 9 i s (l.map (Tm.up f b)):=rC aal aal f b i s l
def akL(f b i:Int)(s:Ty)(l:List Tm):(Tm.mk 10 i s l).up f b=.mk 10 i s (l.map (Tm.up f b)):=rC aal aal f b i s l
def amb(f b i:Int)(s:Ty)(l:List Tm):(Tm.mk 11 i s l).up f b=.mk 11 i s (l.map (Tm.up f b)):=rC aal aal f b i s l
def amz(f b i:Int)(s:Ty)(l:List Tm):(Tm.mk 12 i s l).up f b=.mk 12 i s (l.map (Tm.up f b)):=rC aal aal f b i s l
def in3(n i:Int)(a:Tm)(s:Ty)(l:List Tm):Tm.gP n (Tm.mk 3 i s l) a=.mk 3 i s (l.map λx=>Tm.gP n x a):=nY aal aal n i a s l
def in4(n i:Int)(a:Tm)(s:Ty)(l:List Tm):Tm.gP n (Tm.mk 4 i s l) a=.mk 4 i s (l.map λx=>Tm.gP n x a):=nY aal aal n i a s l
def in5(n i:Int)(a:Tm)(s:Ty)(l:List Tm):Tm.gP n (Tm.mk 5 i s l) a=.mk 5 i s (l.map λx=>Tm.gP n x a):=nY aal aal n i a s l
def in6(n i:Int)(a:Tm)(s:Ty)(l:List Tm):Tm.gP n (Tm.mk 6 i s l) a=.mk 6 i s (l.map λx=>Tm.gP n x a):=nY aal aal n i a s l
def in7(n i:Int)(a:Tm)(s:Ty)(l:List Tm):Tm.gP n (Tm.mk 7 i s l) a=.mk 7 i s (l.map λx=>Tm.gP n x a):=nY aal aal n i a s l
def in8(n i:Int)(a:Tm)(s:Ty)(l:List Tm):Tm.gP n (Tm.mk 8 i s l) a=.mk 8 i s (l.map λx=>Tm.gP n x a):=nY aal aal n i a s l
def in9(n i:Int)(a:Tm)(s:Ty)(l:List Tm):Tm.gP n (Tm.mk 9 i s l) a=.mk 9 i s (l.map λx=>Tm.gP n x a):=nY aal aal n i a s l
def ak5(n i:Int)(a:Tm)(s:Ty)(l:List Tm):Tm.gP n (Tm.mk 10 i s l) a=.mk 10 i s (l.map λx=>Tm.gP n x a):=nY aal aal n i a s l
def am5(n i:Int)(a:Tm)(s:Ty)(l:List Tm):Tm.gP n (Tm.mk 11 i s l) a=.mk 11 i s (l.map λx=>Tm.gP n x a):=nY aal aal n i a s l
def am'(n i:Int)(a:Tm)(s:Ty)(l:List Tm):Tm.gP n (Tm.mk 12 i s l) a=.mk 12 i s (l.map λx=>Tm.gP n x a):=nY aal aal n i a s l
def mP.up{t u:Tm}(h:mP t u):t.ok=true->∀f c:Int,0<=f->0<=c->mP (t.up f c) (u.up f c):=by
 induction h with
 |n0 k i s=>intro _ f c _ _;rw[Tm.fE];exact .n0 _ _ _|n1 k i s _ ih=>
  intro l f c o w;have D:=hV k;rw[Tm.fE,Tm.fE];exact .n1 _ _ _ (ih (Tm.ez l _ abm) _ _ VW w)
 |n2 k i s _ _ q r=>
  intro l f c o w;have D:=hV k;rw[Tm.fE,Tm.fE];exact .n2 _ _ _ (q (Tm.ez l _ abm) _ _ VW w) (r (Tm.ez l _ abm) _ _ VW w)
 |n3 k i s _ _ _ q r x=>
  intro l f c o w;have D:=hV k;rw[Tm.fE,Tm.fE];exact .n3 _ _ _ (q (Tm.ez l _ abm) _ _ VW w) (r (Tm.ez l _ abm) _ _ VW w) (x (Tm.ez l _ abm) _ _ VW w)
 |@beta i s j u b B a F G I q r=>
  intro l f c o w;have y:=Tm.ez l (Tm.mk 2 j u [b]) abm;have A:=Tm.ez y b abm;rw[agP F B 0 f c (G.ok A) VW o w,agl];simp only[up3,abf,pP,rQ];exact .beta _ _ _ _ (q A _ _ VW w) (r (Tm.ez l _ abm) _ _ o w)
 |NW i s j u c _ ih=>
  intro l f d o v;simp only[up6,up4,pP,rQ];exact .NW _ _ _ _ _ (ih (Tm.ez l _ abm) _ _ o v)
 |@O7 i s j u b B c H n n' _ _ _ q r x=>
  intro l f d o v;have y:=Tm.ez l (Tm.mk 5 j u [n]) abm;simp only[kC,up3,up6,up5,pP,rQ];exact .O7 _ _ _ _ (q (Tm.ez l _ abm) _ _ o v) (r (Tm.ez l _ abm) _ _ o v) (x (Tm.ez y _ abm) _ _ o v)
 |D6 i s j u c _ ih=>
  intro l f d o v;simp only[up9,up7,pP,rQ];exact .D6 _ _ _ _ _ (ih (Tm.ez l _ abm) _ _ o v)
 |@EV i s j u b B c H n n' t J _ _ _ _ q r x C=>
  intro l f d o v;have y:=Tm.ez l (Tm.mk 8 j u [n,t]) abm;simp only[kC,up3,up9,up8,pP,rQ];exact .EV _ _ _ _ (q (Tm.ez l _ abm) _ _ o v) (r (Tm.ez l _ abm) _ _ o v) (x (Tm.ez y _ abm) _ _ o v) (C (Tm.ez y _ abm) _ _ o v)
 |@fst i s j u b a F _ ih=>
  intro l f d o v;simp only[amb,akL,pP,rQ];exact .fst _ _ _ _ _ (ih (Tm.ez (Tm.ez l (Tm.mk 10 j u [a,b]) abm) _ abm) _ _ o v)
 |@snd i s j u a b B _ ih=>
  intro l f d o v;simp only[amz,akL,pP,rQ];exact .snd _ _ _ _ _ (ih (Tm.ez (Tm.ez l (Tm.mk 10 j u [a,b]) abm) _ abm) _ _ o v)
def Bw{k i:Int}{s:Ty}{a:Tm}{l:List Tm}(h:(Tm.mk k i s (a::l)).ok=true):k≠1:=by grind[Iz]
theorem mP.gP{t u:Tm}(h:mP t u){x y:Tm}(v:mP x y)(G:x.ok=true):t.ok=true->∀n:Int,0<=n->mP (Tm.gP n t x) (Tm.gP n u y):=by
 have hy:=v.ok G
 induction h with
 |n0 k i s=>
  intro d n hn;rw[Tm.fN,Tm.fN]
  by_cases B:k=1
  .rw[dO B,dO B];unfold Tm.lz
   by_cases q:i=n
   .rw[dO q,dO q];exact v.up G 0 n VW hn
   .rw[dK q,dK q]
    by_cases C:n<i
    .rw[dO C];exact .n0 _ _ _
    .rw[dK C];exact .n0 _ _ _
  .rw[dK B,dK B];exact .n0 _ _ _
 |n1 k i s _ ih=>
  intro d n hn;have H:=hV k;rw[Tm.fN,Tm.fN,dK (Bw d),dK (Bw d)];exact .n1 _ _ _ (ih (Tm.ez d _ abm) _ VW)
 |n2 k i s _ _ f l=>
  intro d n hn;have H:=hV k;rw[Tm.fN,Tm.fN,dK (Bw d),dK (Bw d)];exact .n2 _ _ _ (f (Tm.ez d _ abm) _ VW) (l (Tm.ez d _ abm) _ VW)
 |n3 k i s _ _ _ f l o=>
  intro d n hn;have H:=hV k;rw[Tm.fN,Tm.fN,dK (Bw d),dK (Bw d)];exact .n3 _ _ _ (f (Tm.ez d _ abm) _ VW) (l (Tm.ez d _ abm) _ VW) (o (Tm.ez d _ abm) _ VW)
 |@beta i s j u b D a I q C f l=>
  intro d n hn;have r:=Tm.ez d (Tm.mk 2 j u [b]) abm;have w:=Tm.ez r b abm;have A:=Tm.ez d a abm;rw[adj I y (C.ok A) hy D 0 n (q.ok w) VW hn,agl];simp only[in3,VG,pP,rQ];exact .beta _ _ _ _ (f w _ VW) (l A _ hn)
 |NW i s j u c _ ih=>
  intro d n hn;simp only[in6,in4,pP,rQ];exact .NW _ _ _ _ _ (ih (Tm.ez d _ abm) _ hn)
 |@O7 i s j u b D c J n n' _ _ _ f l o=>
  intro d m hm;have r:=Tm.ez d (Tm.mk 5 j u [n]) abm;simp only[kC,in3,in6,in5,pP,rQ];exact .O7 _ _ _ _ (f (Tm.ez d _ abm) _ hm) (l (Tm.ez d _ abm) _ hm) (o (Tm.ez r _ abm) _ hm)
 |D6 i s j u c _ ih=>
  intro d n hn;simp only[in9,in7,pP,rQ];exact .D6 _ _ _ _ _ (ih (Tm.ez d _ abm) _ hn)
 |@EV i s j u b D c J n n' t K _ _ _ _ f l o F=>
  intro d m hm;have r:=Tm.ez d (Tm.mk 8 j u [n,t]) abm;simp only[kC,in3,in9,in8,pP,rQ];exact .EV _ _ _ _ (f (Tm.ez d _ abm) _ hm) (l (Tm.ez d _ abm) _ hm) (o (Tm.ez r _ abm) _ hm) (F (Tm.ez r _ abm) _ hm)
 |@fst i s j u b a I _ ih=>
  intro d n hn;simp only[am5,ak5,pP,rQ];exact .fst _ _ _ _ _ (ih (Tm.ez (Tm.ez d (Tm.mk 10 j u [a,b]) abm) _ abm) _ hn)
 |@snd i s j u a b D _ ih=>
  intro d n hn;simp only[am',ak5,pP,rQ];exact .snd _ _ _ _ _ (ih (Tm.ez (Tm.ez d (Tm.mk 10 j u [a,b]) abm) _ abm) _ hn)
def mP.ady{k i:Int}{s:Ty}{v:Tm}(h:mP (.mk k i s []) v):v=.mk k i s []:=by
 generalize a:Tm.mk k i s []=x at h;cases h<;>simp only[Tm.mk.injEq,reduceCtorEq,and_false,QT,Iv] at a;obtain⟨rfl,rfl,rfl,_⟩:=a;rfl
def mP.inv1{k i:Int}{s:Ty}{a v:Tm}(h:mP (.mk k i s [a]) v)(d:k≠11)(f:k≠12):∃c,v=.mk k i s [c]/\mP a c:=by
 generalize b:Tm.mk k i s [a]=x at h;cases h<;>simp only[Tm.mk.injEq,reduceCtorEq,and_false,QT,Iv,QO] at b
 .obtain⟨rfl,rfl,rfl,rfl⟩:=b;exact⟨_,rfl,by assumption⟩
 .exact absurd b.1 d
 .exact absurd b.1 f
def mP.inv2{k i:Int}{s:Ty}{a b v:Tm}(h:mP (.mk k i s [a,b]) v)(j:k≠3):∃d f,v=.mk k i s [d,f]/\mP a d/\mP b f:=by
 generalize c:Tm.mk k i s [a,b]=x at h;cases h<;>simp only[Tm.mk.injEq,reduceCtorEq,and_false,QT,Iv,QO] at c
 .obtain⟨rfl,rfl,rfl,rfl,rfl⟩:=c;exact⟨_,_,rfl,by assumption,by assumption⟩
 .exact absurd c.1 j
mutual
def Tm.dev:Tm->Tm
 |.mk k i s l=>if(Tm.mk k i s l).root then(Tm.mk k i s (Tm.ZT l)).fh else .mk k i s (Tm.ZT l)
def Tm.ZT:List Tm->List Tm
 |[]=>[]|t::l=>t.dev::Tm.ZT l
end
def Tm.UI(l:List Tm):Tm.ZT l=l.map Tm.dev:=by
 induction l with
 |nil=>rfl|cons t l ih=>simp[Tm.ZT,ih]
def Tm.wW{k i:Int}{s:Ty}{l:List Tm}(h:(Tm.mk k i s l).root=true):(Tm.mk k i s l).dev=(Tm.mk k i s (l.map Tm.dev)).fh:=by rw[Tm.dev,Tm.UI,dO h]
def Tm.xL{k i:Int}{s:Ty}{l:List Tm}(h:¬(Tm.mk k i s l).root=true):(Tm.mk k i s l).dev=Tm.mk k i s (l.map Tm.dev):=by rw[Tm.dev,Tm.UI,dK h]
def Xe(i:Int)(s:Ty)(j:Int)(u:Ty)(l:List Tm)(a:Tm):(Tm.mk 3 i s [.mk 2 j u l,a]).root=true:=by simp[Tm.root,Tm.kd]
def UU(j:Int)(u:Ty)(b:Tm):(Tm.mk 2 j u [b]).dev=.mk 2 j u [b.dev]:=Tm.xL (by simp[Tm.root])
def YC(j:Int)(u:Ty):(Tm.mk 4 j u []).dev=.mk 4 j u []:=Tm.xL (by simp[Tm.root])
def Rj(j:Int)(u:Ty)(b:Tm):(Tm.mk 5 j u [b]).dev=.mk 5 j u [b.dev]:=Tm.xL (by simp[Tm.root])
def ael(j:Int)(u:Ty):(Tm.mk 7 j u []).dev=.mk 7 j u []:=Tm.xL (by simp[Tm.root])
def Qm(j:Int)(u:Ty)(a b:Tm):(Tm.mk 8 j u [a,b]).dev=.mk 8 j u [a.dev,b.dev]:=Tm.xL (by simp[Tm.root])
def Jg(j:Int)(u:Ty)(a b:Tm):(Tm.mk 10 j u [a,b]).dev=.mk 10 j u [a.dev,b.dev]:=Tm.xL (by simp[Tm.root])
def Qe(i:Int)(s:Ty)(j:Int)(u:Ty)(b a:Tm):(Tm.mk 3 i s [.mk 2 j u [b],a]).dev=Tm.gP 0 b.dev a.dev:=by
 rw[Tm.wW (Xe _ _ _ _ _ _)];simp only[pP,rQ,UU];simp[Tm.fh]
def QA(i:Int)(s:Ty)(j:Int)(u:Ty)(b c:Tm):(Tm.mk 6 i s [b,c,.mk 4 j u []]).dev=b.dev:=by
 rw[Tm.wW (by simp[Tm.root,Tm.kd])];simp only[pP,rQ,YC];simp[Tm.fh]
def QE(i:Int)(s:Ty)(j:Int)(u:Ty)(b c n:Tm):(Tm.mk 6 i s [b,c,.mk 5 j u [n]]).dev=kC c.dev [n.dev,.mk 6 i s [b.dev,c.dev,n.dev]]:=by
 rw[Tm.wW (by simp[Tm.root,Tm.kd])];simp only[pP,rQ,Rj];simp[Tm.fh]
def M4(i:Int)(s:Ty)(j:Int)(u:Ty)(b c:Tm):(Tm.mk 9 i s [b,c,.mk 7 j u []]).dev=b.dev:=by
 rw[Tm.wW (by simp[Tm.root,Tm.kd])];simp only[pP,rQ,ael];simp[Tm.fh]
def Nc(i:Int)(s:Ty)(j:Int)(u:Ty)(b c n t:Tm):(Tm.mk 9 i s [b,c,.mk 8 j u [n,t]]).dev=kC c.dev [n.dev,t.dev,.mk 9 i s [b.dev,c.dev,t.dev]]:=by
 rw[Tm.wW (by simp[Tm.root,Tm.kd])];simp only[pP,rQ,Qm];simp[Tm.fh]
def VE(i:Int)(s:Ty)(j:Int)(u:Ty)(a b:Tm):(Tm.mk 11 i s [.mk 10 j u [a,b]]).dev=a.dev:=by
 rw[Tm.wW (by simp[Tm.root,Tm.kd])];simp only[pP,rQ,Jg];simp[Tm.fh]
def Uz(i:Int)(s:Ty)(j:Int)(u:Ty)(a b:Tm):(Tm.mk 12 i s [.mk 10 j u [a,b]]).dev=b.dev:=by
 rw[Tm.wW (by simp[Tm.root,Tm.kd])];simp only[pP,rQ,Jg];simp[Tm.fh]
def Tm.yC{t:Tm}{k:Int}(h:t.aop=k):t=.mk k t.aos t.dM t.aoq:=by
 cases t with
 |mk k' i s l=>simp at h;subst h;rfl
def mP.tri{t u:Tm}(h:mP t u):t.ok=true->mP u t.dev:=by
 induction h with
 |n0 k i s=>intro _;rw[Tm.xL (by simp[Tm.root,Tm.kd])];exact .n0 _ _ _|@n1 k i s a K h ih=>
  intro l;have r:=Tm.ez l a abm;have ih:=ih r
  by_cases B:(Tm.mk k i s [a]).root=true
  .have hk:(k=11\/k=12)/\a.aop=10:=by
    have C:=Tm.sQ l;have Z:gW 3=2:=rfl
    have:k≠3:=by rintro rfl;simp at C;omega
    simpa[Tm.root,Tm.kd,this] using B
   obtain⟨hk,D⟩:=hk;rw[Tm.yC D] at h r ih|-;obtain⟨p,q,N⟩:=Tm.ajr r;rw[N] at h r ih|-;obtain⟨O,U,rfl,H,P⟩:=h.inv2 aal;rw[Jg] at ih;obtain⟨Q,V,e,F,R⟩:=ih.inv2 aal;simp only[Tm.mk.injEq,QT,QO,zT] at e;obtain⟨rfl,rfl⟩:=e;rcases hk with rfl|rfl
   .rw[VE];exact .fst _ _ _ _ _ F
   .rw[Uz];exact .snd _ _ _ _ _ R
  .rw[Tm.xL B];exact .n1 _ _ _ ih
 |@n2 k i s a K b I L W d v=>
  intro l;have r:=Tm.ez l a abm;have d:=d r;have v:=v (Tm.ez l b abm)
  by_cases B:(Tm.mk k i s [a,b]).root=true
  .have hk:k=3/\a.aop=2:=by
    have C:=Tm.sQ l;have X:gW 11=1:=rfl;have Y:gW 12=1:=rfl
    have n1:k≠11:=by rintro rfl;simp at C;omega
    have n2:k≠12:=by rintro rfl;simp at C;omega
    simpa[Tm.root,Tm.kd,n1,n2] using B
   obtain⟨rfl,D⟩:=hk;rw[Tm.yC D] at L r d|-;obtain⟨p,A⟩:=Tm.ok2 r;rw[A] at L r d|-;obtain⟨O,rfl,H⟩:=L.inv1 aal aal;rw[UU] at d;obtain⟨Q,e,F⟩:=d.inv1 aal aal;simp only[Tm.mk.injEq,QT,QO,zT] at e;subst e;rw[Qe];exact .beta _ _ _ _ F v
  .rw[Tm.xL B];exact .n2 _ _ _ d v
 |@n3 k i s a K b I c T L W w d v f=>
  intro l;have o:=Tm.ez l c abm;have d:=d (Tm.ez l a abm);have v:=v (Tm.ez l b abm);have f:=f o
  by_cases B:(Tm.mk k i s [a,b,c]).root=true
  .have hk:(k=6/\(c.aop=4\/c.aop=5))\/(k=9/\(c.aop=7\/c.aop=8)):=by
    have C:=Tm.sQ l;have e0:gW 3=2:=rfl;have X:gW 11=1:=rfl;have Y:gW 12=1:=rfl
    have n0:k≠3:=by rintro rfl;simp at C;omega
    have n1:k≠11:=by rintro rfl;simp at C;omega
    have n2:k≠12:=by rintro rfl;simp at C;omega
    simpa[Tm.root,Tm.kd,n0,n1,n2] using B
   rcases hk with⟨rfl,hk|hk⟩|⟨rfl,hk|hk⟩
   .rw[Tm.yC hk] at w o f|-;have A:=Tm.ok0 (.inl rfl) o;rw[A] at w o f|-;obtain rfl:=w.ady;rw[QA];exact .NW _ _ _ _ _ d
   .rw[Tm.yC hk] at w o f|-;obtain⟨p,A⟩:=Tm.ok5 o;rw[A] at w o f|-;obtain⟨O,rfl,H⟩:=w.inv1 aal aal;rw[Rj] at f;obtain⟨Q,e,F⟩:=f.inv1 aal aal;simp only[Tm.mk.injEq,QT,QO,zT] at e;subst e;rw[QE];exact .O7 _ _ _ _ d v F
   .rw[Tm.yC hk] at w o f|-;have A:=Tm.ok0 (.inr rfl) o;rw[A] at w o f|-;obtain rfl:=w.ady;rw[M4];exact .D6 _ _ _ _ _ d
   .rw[Tm.yC hk] at w o f|-;obtain⟨p,q,A⟩:=Tm.ok8 o;rw[A] at w o f|-;obtain⟨O,U,rfl,H,P⟩:=w.inv2 aal;rw[Qm] at f;obtain⟨Q,V,e,F,R⟩:=f.inv2 aal;simp only[Tm.mk.injEq,QT,QO,zT] at e;obtain⟨rfl,rfl⟩:=e;rw[Nc];exact .EV _ _ _ _ d v F R
  .rw[Tm.xL B];exact .n3 _ _ _ d v f
 |@beta i s j u b I a K H P x y=>
  intro l;have J:=Tm.ez (Tm.ez l (Tm.mk 2 j u [b]) abm) b abm;have r:=Tm.ez l a abm;rw[Qe];exact(x J).gP (y r) (P.ok r) (H.ok J) 0 VW
 |NW i s j u c _ ih=>intro l;rw[QA];exact ih (Tm.ez l _ abm)|@O7 i s j u b I c T n n' _ _ _ x y G=>
  intro l;have M:=Tm.ez l (Tm.mk 5 j u [n]) abm;have g1:=x (Tm.ez l _ abm);have g2:=y (Tm.ez l _ abm);have g3:=G (Tm.ez M _ abm);rw[QE];exact .n2 _ _ _ (.n2 _ _ _ g2 g3) (.n3 _ _ _ g1 g2 g3)
 |D6 i s j u c _ ih=>intro l;rw[M4];exact ih (Tm.ez l _ abm)|@EV i s j u b I c T n n' t t' _ _ _ _ x y G S=>
  intro l;have M:=Tm.ez l (Tm.mk 8 j u [n,t]) abm;have g1:=x (Tm.ez l _ abm);have g2:=y (Tm.ez l _ abm);have g3:=G (Tm.ez M _ abm);have g4:=S (Tm.ez M _ abm);rw[Nc];exact .n2 _ _ _ (.n2 _ _ _ (.n2 _ _ _ g2 g3) g4) (.n3 _ _ _ g1 g2 g4)
 |@fst i s j u b a K _ ih=>intro l;rw[VE];exact ih (Tm.ez (Tm.ez l (Tm.mk 10 j u [a,b]) abm) _ abm)|@snd i s j u a b I _ ih=>intro l;rw[Uz];exact ih (Tm.ez (Tm.ez l (Tm.mk 10 j u [a,b]) abm) _ abm)
inductive oo:Tm->Tm->Prop
 |refl (t:Tm):oo t t|step {t u v:Tm}:mP t u->oo u v->oo t v
def oo.ok{t u:Tm}(h:oo t u):t.ok=true->u.ok=true:=by
 induction h with
 |refl=>exact id|step h _ ih=>exactλa=>ih (h.ok a)
def oo.trans{t u v:Tm}(h:oo t u)(a:oo u v):oo t v:=by
 induction h with
 |refl=>exact a|step h _ ih=>exact .step h (ih a)
def oo.strip{t v:Tm}(h:oo t v):∀u,t.ok=true->mP t u->∃w,oo u w/\mP v w:=by
 induction h with
 |refl t=>exactλu _ hu=>⟨u,.refl _,hu⟩|@step t a v c _ ih=>
  intro u b hu;obtain⟨w,d,f⟩:=ih t.dev (c.ok b) (c.tri b);exact⟨w,.step (hu.tri b) d,f⟩
def oo.meet{t u:Tm}(h:oo t u):∀v,t.ok=true->oo t v->∃w,oo u w/\oo v w:=by
 induction h with
 |refl t=>exactλv _ b=>⟨v,b,.refl _⟩|@step t a u c _ ih=>
  intro v d b;obtain⟨w,f,i⟩:=b.strip a d c;obtain⟨z,j,z2⟩:=ih w (c.ok d) f;exact⟨z,j,.step i z2⟩
def C_{k i:Int}{s:Ty}{l:List Tm}(h:(Tm.mk k i s l).nf=true):(Tm.mk k i s l).root=false/\∀a∈l,a.nf=true:=by
 rw[Tm.RF] at h;simpa using h
def mP.nf{t u:Tm}(h:mP t u):t.nf=true->u=t:=by
 induction h with
 |n0=>intro _;rfl|n1 k i s _ ih=>intro hn;rw[ih ((C_ hn).2 _ abm)]|n2 k i s _ _ a b=>intro hn;rw[a ((C_ hn).2 _ abm),b ((C_ hn).2 _ abm)]|n3 k i s _ _ _ a b c=>intro hn;rw[a ((C_ hn).2 _ abm),b ((C_ hn).2 _ abm),c ((C_ hn).2 _ abm)]|_=>intro hn;have:=(C_ hn).1;simp[Tm.root,Tm.kd] at this
def oo.nf{t u:Tm}(h:oo t u):t.nf=true->u=t:=by
 induction h with
 |refl=>intro _;rfl|step h _ ih=>
  intro hn;have:=h.nf hn;subst this;exact ih hn
def oo.unique{t a b:Tm}(c:t.ok=true)(d:oo t a)(f:oo t b)(h:a.nf=true)(i:b.nf=true):a=b:=by
 obtain⟨w,j,k⟩:=d.meet b c f;rw[<-j.nf h,<-k.nf i]
inductive S_:List Tm->List Tm->Prop
 |nil:S_ [] []|cons {a b:Tm} {l m:List Tm}:mP a b->S_ l m->S_ (a::l) (b::m)
def mP.list{k i:Int}{s:Ty}:∀{l m:List Tm},S_ l m->l.length<=3->mP (.mk k i s l) (.mk k i s m)
 |_,_,.nil,_=>.n0 _ _ _|_,_,.cons h .nil,_=>.n1 _ _ _ h|_,_,.cons h (.cons a .nil),_=>.n2 _ _ _ h a|_,_,.cons h (.cons a (.cons b .nil)),_=>.n3 _ _ _ h a b|_,_,.cons h (.cons a (.cons b (.cons d _))),c=>by simp at c
def Xw(k:Int):gW k<=3:=by unfold gW;repeat' (first|omega|split)
def Tm.aaz{k i:Int}{s:Ty}{l:List Tm}(h:(Tm.mk k i s l).ok=true):l.length<=3:=by
 have:=Tm.sQ h;have:=Xw k;omega
theorem mP.refl(t:Tm):t.ok=true->mP t t:=by
 induction t using Tm.ind with
 |h k i s l ih=>
  intro b
  have c:∀m:List Tm,(∀t∈m,t∈l)->S_ m m:=by
   intro m
   induction m with
   |nil=>exactλ_=>.nil|cons t m a=>exactλhm=>.cons (ih t (hm t abm) (Tm.ez b t (hm t abm))) (a λu hu=>hm u (by simp[hu]))
  exact mP.list (c l λt h=>h) (Tm.aaz b)
def mP.aeJ:∀(l:List Tm),(∀t∈l,t.ok=true)->S_ l l
 |[],_=>.nil|t::l,h=>.cons (mP.refl t (h t abm)) (mP.aeJ l λu hu=>h u (by simp[hu]))
theorem mP.fh{t:Tm}(c:t.ok=true)(o:t.root=true):mP t t.fh:=by
 cases Tm.GF c o with
 |@app i s j u b a=>
  rw[show(Tm.mk 3 i s [.mk 2 j u [b],a]).fh=Tm.gP 0 b a by simp[Tm.fh]];exact .beta _ _ _ _ (mP.refl b (Tm.ez (Tm.ez c (.mk 2 j u [b]) abm) b abm)) (mP.refl a (Tm.ez c a abm))
 |@zero k q i s j u b st f=>
  have l:=mP.refl b (Tm.ez c b abm);rcases f with⟨rfl,rfl⟩|⟨rfl,rfl⟩
  .rw[show(Tm.mk 6 i s [b,st,.mk 4 j u []]).fh=b by simp[Tm.fh]];exact .NW _ _ _ _ _ l
  .rw[show(Tm.mk 9 i s [b,st,.mk 7 j u []]).fh=b by simp[Tm.fh]];exact .D6 _ _ _ _ _ l
 |@succ i s j u b st n=>
  rw[show(Tm.mk 6 i s [b,st,.mk 5 j u [n]]).fh=kC st [n,.mk 6 i s [b,st,n]] by simp[Tm.fh]];exact .O7 _ _ _ _ (mP.refl b (Tm.ez c b abm)) (mP.refl st (Tm.ez c st abm)) (mP.refl n (Tm.ez (Tm.ez c (.mk 5 j u [n]) abm) n abm))
 |@cons i s j u b st h t=>
  have d:=Tm.ez c (.mk 8 j u [h,t]) abm;rw[show(Tm.mk 9 i s [b,st,.mk 8 j u [h,t]]).fh=kC st [h,t,.mk 9 i s [b,st,t]] by simp[Tm.fh]];exact .EV _ _ _ _ (mP.refl b (Tm.ez c b abm)) (mP.refl st (Tm.ez c st abm)) (mP.refl h (Tm.ez d h abm)) (mP.refl t (Tm.ez d t abm))
 |@proj k i s j u a b f=>
  have d:=Tm.ez c (.mk 10 j u [a,b]) abm;rcases f with rfl|rfl
  .rw[show(Tm.mk 11 i s [.mk 10 j u [a,b]]).fh=a by simp[Tm.fh]];exact .fst _ _ _ _ _ (mP.refl a (Tm.ez d a abm))
  .rw[show(Tm.mk 12 i s [.mk 10 j u [a,b]]).fh=b by simp[Tm.fh]];exact .snd _ _ _ _ _ (mP.refl b (Tm.ez d b abm))
def mP.Ka{r:Int}(t:Tm):∀a,t.ok=true->t.Ka r=some (some a)->mP t a:=by
 induction t using Tm.ind with
 |h k i s l ih=>
  intro a c h;rcases lP h with⟨j,rfl⟩|⟨n,o,rfl⟩
  .exact mP.fh c j
  .refine mP.list ?_ (Tm.aaz c)
   have key:∀m:List Tm,(∀t∈m,t∈l)->∀d,Tm.sE r m=some (some d)->S_ m d:=by
    intro m
    induction m with
    |nil=>intro _ d h;exact(ng h).elim|cons t m f=>
     intro hm d h;have b:=Tm.ez c t (hm t abm);rcases kr h with⟨a,e,rfl⟩|⟨q,e,rfl⟩
     .exact .cons (ih t (hm t abm) a b e) (mP.aeJ m λu hu=>Tm.ez c u (hm u (by simp[hu])))
     .exact .cons (mP.refl t b) (f (λu hu=>hm u (by simp[hu])) q e)
   exact key l (λt h=>h) n o
def MK:∀(k:Nat) (m:Int) (t a:Tm) (n:Int),t.ok=true->t.norm k m=(a,n,0)->oo t a
 |0,m,t,a,n,b,h=>by
  rw[Tm.norm] at h
  split at h
  .obtain⟨rfl,_⟩:=iO h;exact .refl _
  .cases h
 |k+1,m,t,a,n,b,h=>by
  rw[Tm.norm] at h
  split at h
  .cases h
  .obtain⟨rfl,_⟩:=iO h;exact .refl _
  .rename_i c hs;have:=mP.Ka t c b hs;exact .step this (MK k (m+1) c a n (this.ok b) h)
def ahV(x:Tm):Tm.mk x.aop x.aos (Ty.mk x.dM.aop x.dM.aoq) x.aoq=x:=by
 cases x with
 |mk k i s l=>cases s;rfl
def mz{a:Ty}(h:a.aor<=1000000000):fO FU a a=some true:=by
 obtain⟨r,b,c⟩:=xO FU a a (by rw[fl];exact h) h;rw[b,c.2 rfl]
def ok_eq{t:Ty}(h:t.err=0):uE t=some (t,0):=by
 unfold uE;rw[mI (by have:=(Ty.il h).2;omega),h];rfl
def fI{t:Ty}(h:t.err=0):t.aor<=64:=by have:=(Ty.il h).2;omega
inductive TL (n:Nat) (g:List Ty):List Tm->List Ty->Prop
 |nil:TL n g [] []|cons {a:Tm} {t:Ty} {l:List Tm} {ts:List Ty}:fU n g a=some (t,0)->TL n g l ts->TL n g (a::l) (t::ts)
def pg{n:Nat}{g:List Ty}:∀{l:List Tm} {ts:List Ty} (i:Nat) (v:List Ty),TL n g l ts->v.length+l.length<=1000->fa (λ(f:Int) (d:Tm)=>(λ(a:List Ty)=>
   dR (fU n g d) λb c=>
   if(eR c 0) then(
   some (fp.ret ((Ty.mk 0 []),c)))
   else(gq (fM a [b])<|some (.next (fW a [b])))):Int->Tm->((List Ty))->(Option (fp ((List Ty)) (Ty×Int)))) l i v=some (.inl (v++ts))
 |_,_,i,v,.nil,_=>by simp|_,_,i,v,.cons h j,k=>by
  simp only[kY] at k;rw[eV];simp only[h,dP];rw[dK aal,fk abv];simp only[dU,dI,eQ];rw[pg (i+1) _ j (by rw[ig];simp;omega),ig];simp
def ZP{g:List Ty}{x:Tm}{t:Ty}(h:eg g x t):(∀s∈g,s.err=0)->t.err=0/\∀n:Nat,x.aor<=n->g.length+x.aor<=1000000->fU n g x=some (t,0):=by
 induction h with
 |@var g t i y C=>
  intro hg;have A:=hg t (HP C);refine⟨A,λn hn j=>?_⟩;rw[Tm.dL] at hn;obtain⟨n,rfl⟩:∃m,n=m+1:=⟨n-1,VW⟩;rw[Tm.dL] at j;rw[fU,dO abE,dK (by simp only[Tm.gn,ju,fV];omega)];simp only[Tm.gn,fV];rw[fF (a:=(g.length:Int)) VW VW,fF VW VW]
  have:dW g ((g.length:Int)-1-(i:Int))=some t:=by
   unfold dW;rw[dO VW,<-C]
   congr 1
   omega
  rw[this];simp only[dI];rw[jM (by have:=fI A;omega)];rfl
 |@lam g s b t y _ ih=>
  intro hg;have hs:=(Ty.tu (.inr rfl) y).1;have B:=(Ty.tu (.inr rfl) y).2
  obtain⟨_,ih⟩:=ih (by
   intro u hu;rcases tl.1 hu with h|h
   .exact hg u h
   .rw[Hf] at h;rw[h];exact hs)
  refine⟨y,λn hn j=>?_⟩;rw[Tm.dL] at hn j;simp only[ee] at hn j;obtain⟨n,rfl⟩:∃m,n=m+1:=⟨n-1,VW⟩;rw[fU,dK abm,dO abE];simp only[Tm.fx,Tm.ey,eO,jW,dI,ig];rw[fk abv,dU,ih n VW abv];simp only[dP];rw[dK aal,jz (by have:=fI hs;omega) (by have:=fI B;omega)];simp only[dI];rw[ok_eq y];rfl
 |@app g f a s t _ _ c d=>
  intro hg;obtain⟨r,c⟩:=c hg;obtain⟨v,d⟩:=d hg;have B:=(Ty.tu (.inr rfl) r).2;refine⟨B,λn hn j=>?_⟩;rw[Tm.dL] at hn j;simp only[ee] at hn j;obtain⟨n,rfl⟩:∃m,n=m+1:=⟨n-1,VW⟩;have o:=pg (n:=n) (g:=g) (l:=[f,a]) 0 [] (.cons (c n VW VW) (.cons (d n VW VW) .nil)) abm;rw[fU,dK abm,dK abm];simp only[dY,Tm.ey,ei (l:=[f,a]) abm,dU];rw[o];simp only[dI,ew,gB,gQ];rw[dO abE];simp only[n9,eO,gy,jW,nJ,dI];rw[dK (by simp[Ty.fn,eR]),show(Ty.fn s t).aoq[0]?=some s from rfl];simp only[dI];rw[mz (by have:=fI v;omega)];simp only[dI];rw[dK aal,show(Ty.fn s t).aoq[1]?=some t from rfl];rfl
 |zero=>
  intro hg;refine⟨Ty.gC,λn hn j=>?_⟩;rw[Tm.dL] at hn;obtain⟨n,rfl⟩:∃m,n=m+1:=⟨n-1,VW⟩;rfl
 |@succ g a _ ih=>
  intro hg;obtain⟨r,ih⟩:=ih hg;refine⟨Ty.gC,λn hn j=>?_⟩;rw[Tm.dL] at hn j;simp only[ee] at hn j;obtain⟨n,rfl⟩:∃m,n=m+1:=⟨n-1,VW⟩;have o:=pg (n:=n) (g:=g) (l:=[a]) 0 [] (.cons (ih n VW VW) .nil) abm;rw[fU,dK abm,dK abm];simp only[dY,Tm.ey,ei (l:=[a]) abm,dU];rw[o];simp only[dI,ew,gB,gQ];rw[dK abm,dK abm,dO abE];simp only[n9,eO,jW,dI];rw[mz (by rw[Ty.ie];omega)];rfl
 |@sF g t b s k w _ _ _ c d q=>
  intro hg;obtain⟨r,c⟩:=c hg;obtain⟨v,d⟩:=d hg;obtain⟨D,q⟩:=q hg;refine⟨w,λn hn j=>?_⟩;rw[Tm.dL] at hn j;simp only[ee] at hn j;obtain⟨n,rfl⟩:∃m,n=m+1:=⟨n-1,VW⟩;have B:=fI w;have o:=pg (n:=n) (g:=g) (l:=[b,s,k]) 0 [] (.cons (c n VW VW) (.cons (d n VW VW) (.cons (q n VW VW) .nil))) abm;rw[fU,dK abm,dK abm];simp only[dY,Tm.ey,ei (l:=[b,s,k]) abm,dU];rw[o];simp only[dI,ew,gB,gQ];rw[dK abm,dK abm,dK abm,dO abE];simp only[n9,eO,gy,jk,jW,nJ,dI,Tm.fx];rw[mz VW];simp only[dI,if_true];rw[jz VW VW];simp only[dI];rw[jz (by rw[Ty.ie];omega) (by rw[Ty.kj];omega)];simp only[dI];rw[mz (by have:=fI v;omega)];simp only[dI,if_true];rw[mz (by rw[Ty.ie];omega)];simp only[dI];rw[dK aal,jM VW];rfl
 |nil=>
  intro hg;refine⟨Ty.sO,λn hn j=>?_⟩;rw[Tm.dL] at hn;obtain⟨n,rfl⟩:∃m,n=m+1:=⟨n-1,VW⟩;rfl
 |@cons g a b _ _ c d=>
  intro hg;obtain⟨r,c⟩:=c hg;obtain⟨v,d⟩:=d hg;refine⟨Ty.sO,λn hn j=>?_⟩;rw[Tm.dL] at hn j;simp only[ee] at hn j;obtain⟨n,rfl⟩:∃m,n=m+1:=⟨n-1,VW⟩;have o:=pg (n:=n) (g:=g) (l:=[a,b]) 0 [] (.cons (c n VW VW) (.cons (d n VW VW) .nil)) abm;rw[fU,dK abm,dK abm];simp only[dY,Tm.ey,ei (l:=[a,b]) abm,dU];rw[o];simp only[dI,ew,gB,gQ];rw[dK abm,dK abm,dK abm,dK abm,dK abm,dO abE];simp only[n9,eO,gy,jW,nJ,dI];rw[mz (by rw[Ty.ie];omega)];simp only[dI,if_true];rw[mz (by rw[Ty.pI];omega)];rfl
 |@fold g t b s k w _ _ _ c d q=>
  intro hg;obtain⟨r,c⟩:=c hg;obtain⟨v,d⟩:=d hg;obtain⟨D,q⟩:=q hg;refine⟨w,λn hn j=>?_⟩;rw[Tm.dL] at hn j;simp only[ee] at hn j;obtain⟨n,rfl⟩:∃m,n=m+1:=⟨n-1,VW⟩;have B:=fI w;have o:=pg (n:=n) (g:=g) (l:=[b,s,k]) 0 [] (.cons (c n VW VW) (.cons (d n VW VW) (.cons (q n VW VW) .nil))) abm;rw[fU,dK abm,dK abm];simp only[dY,Tm.ey,ei (l:=[b,s,k]) abm,dU];rw[o];simp only[dI,ew,gB,gQ];rw[dK abm,dK abm,dK abm,dK abm,dK abm,dK abm,dO abE];simp only[n9,eO,gy,jk,jW,nJ,dI,Tm.fx];rw[mz VW];simp only[dI,if_true];rw[jz VW VW];simp only[dI];rw[jz (by rw[Ty.pI];omega) (by rw[Ty.kj];omega)];simp only[dI];rw[jz (by rw[Ty.ie];omega) (by rw[Ty.kj,Ty.kj,Ty.pI];omega)];simp only[dI];rw[mz (by have:=fI v;omega)];simp only[dI,if_true];rw[mz (by rw[Ty.pI];omega)];simp only[dI];rw[dK aal,jM VW];rfl
 |@pair g a b s t w _ _ c d=>
  intro hg;obtain⟨r,c⟩:=c hg;obtain⟨v,d⟩:=d hg;refine⟨w,λn hn j=>?_⟩;rw[Tm.dL] at hn j;simp only[ee] at hn j;obtain⟨n,rfl⟩:∃m,n=m+1:=⟨n-1,VW⟩;have o:=pg (n:=n) (g:=g) (l:=[a,b]) 0 [] (.cons (c n VW VW) (.cons (d n VW VW) .nil)) abm;rw[fU,dK abm,dK abm];simp only[dY,Tm.ey,ei (l:=[a,b]) abm,dU];rw[o];simp only[dI,ew,gB,gQ];rw[dK abm,dK abm,dK abm,dK abm,dK abm,dK abm,dK abm,dO abE];simp only[n9,eO,gy,jW,nJ,dI];rw[zq (by have:=fI r;omega) (by have:=fI v;omega)];simp only[dI];rw[ok_eq w];rfl
 |@fst g a s t _ ih=>
  intro hg;obtain⟨r,ih⟩:=ih hg;refine⟨(Ty.tu (.inl rfl) r).1,λn hn j=>?_⟩;rw[Tm.dL] at hn j;simp only[ee] at hn j;obtain⟨n,rfl⟩:∃m,n=m+1:=⟨n-1,VW⟩;have o:=pg (n:=n) (g:=g) (l:=[a]) 0 [] (.cons (ih n VW VW) .nil) abm;rw[fU,dK abm,dK abm];simp only[dY,Tm.ey,ei (l:=[a]) abm,dU];rw[o];simp only[dI,ew,gB,gQ];rw[dK abm,dK abm,dK abm,dK abm,dK abm,dK abm,dK abm,dK abm,dO abE];simp only[n9,eO,jW,dI];rw[dK (by simp[Ty.pr,eR]),dO abE,show(Ty.pr s t).aoq[0]?=some s from rfl];rfl
 |@snd g a s t _ ih=>
  intro hg;obtain⟨r,ih⟩:=ih hg;refine⟨(Ty.tu (.inl rfl) r).2,λn hn j=>?_⟩;rw[Tm.dL] at hn j;simp only[ee] at hn j;obtain⟨n,rfl⟩:∃m,n=m+1:=⟨n-1,VW⟩;have o:=pg (n:=n) (g:=g) (l:=[a]) 0 [] (.cons (ih n VW VW) .nil) abm;rw[fU,dK abm,dK abm];simp only[dY,Tm.ey,ei (l:=[a]) abm,dU];rw[o];simp only[dI,ew,gB,gQ];rw[dK abm,dK abm,dK abm,dK abm,dK abm,dK abm,dK abm,dK abm,dO abE];simp only[n9,eO,jW,dI];rw[dK (by simp[Ty.pr,eR]),dK abm,show dW (Ty.pr s t).aoq 1=some t from rfl];rfl
 |unit=>
  intro hg;refine⟨Ty.Js,λn hn j=>?_⟩;rw[Tm.dL] at hn;obtain⟨n,rfl⟩:∃m,n=m+1:=⟨n-1,VW⟩;rfl
def Tm.nw{p:Tm->Prop}(var:∀i:Nat,p (.mk 1 i .z []))(lam:∀s b,s.err=0->b.ok=true->p (.mk 2 0 s [b]))(app:∀a b,a.ok=true->b.ok=true->p (.mk 3 0 .z [a,b]))
  (zero:p (.mk 4 0 .z [])) (succ:∀a,a.ok=true->p (.mk 5 0 .z [a])) (sF:∀s a b c,s.err=0->a.ok=true->b.ok=true->c.ok=true->p (.mk 6 0 s [a,b,c])) (nil:p (.mk 7 0 .z []))
  (cons:∀a b,a.ok=true->b.ok=true->p (.mk 8 0 .z [a,b])) (fold:∀s a b c,s.err=0->a.ok=true->b.ok=true->c.ok=true->p (.mk 9 0 s [a,b,c])) (pair:∀a b,a.ok=true->b.ok=true->p (.mk 10 0 .z [a,b]))
  (fst:∀a,a.ok=true->p (.mk 11 0 .z [a])) (snd:∀a,a.ok=true->p (.mk 12 0 .z [a])) (unit:p (.mk 13 0 .z [])) (t:Tm) (h:t.ok=true):p t:=by
 cases t with
 |mk k i s l=>
  obtain⟨_,hi,d,o,hn⟩:=Tm.lM h
  have hs:if j_ k then s.err=0 else s=.z:=by
   rw[Tm.gX] at h;simp only[Tm.node,gJ] at h;have:=h.1.2
   split at this
   .rename_i f;rw[dO f];simpa using this
   .rename_i f;rw[dK f];exact(Ty.mB s).1 this
  have r:∀{l:List Tm},(l.length:Int)=0->l=[]:=λh=>ux.1 h;unfold gW at hn
  split at hn
  .rename_i f;obtain rfl:=ux.1 hn;rcases f with rfl|rfl|rfl|rfl
   .rw[dK aal] at hs;subst hs;obtain⟨j,rfl⟩:∃j:Nat,i=(j:Int):=⟨i.toNat,VW⟩;exact var j
   .rw[dK aal] at hs;subst hs;obtain rfl:=d aal;exact zero
   .rw[dK aal] at hs;subst hs;obtain rfl:=d aal;exact nil
   .rw[dK aal] at hs;subst hs;obtain rfl:=d aal;exact unit
  .split at hn
   .rename_i f;obtain⟨a,rfl⟩:=OT hn;have n:=o a abm;rcases f with rfl|rfl|rfl|rfl
    .rw[dO aal] at hs;obtain rfl:=d aal;exact lam s a hs n
    .rw[dK aal] at hs;subst hs;obtain rfl:=d aal;exact succ a n
    .rw[dK aal] at hs;subst hs;obtain rfl:=d aal;exact fst a n
    .rw[dK aal] at hs;subst hs;obtain rfl:=d aal;exact snd a n
   .split at hn
    .rename_i f;obtain⟨a,b,rfl⟩:=BN hn;have n:=o a abm;have q:=o b abm;rcases f with rfl|rfl|rfl
     .rw[dK aal] at hs;subst hs;obtain rfl:=d aal;exact app a b n q
     .rw[dK aal] at hs;subst hs;obtain rfl:=d aal;exact cons a b n q
     .rw[dK aal] at hs;subst hs;obtain rfl:=d aal;exact pair a b n q
    .split at hn
     .rename_i f
      obtain⟨a,b,c,rfl⟩:∃a b c,l=[a,b,c]:=by
       match l,hn with
       |[a,b,c],_=>exact⟨a,b,c,rfl⟩|[],h|[_],h|[_,_],h=>simp at h
       |_::_::_::_::_,h=>simp at h;omega
      have n:=o a abm;have q:=o b abm;have u:=o c abm;rcases f with rfl|rfl
      .rw[dO aal] at hs;obtain rfl:=d aal;exact sF s a b c hs n q u
      .rw[dO aal] at hs;obtain rfl:=d aal;exact fold s a b c hs n q u
     .omega
open Classical in
noncomputable def ib (k:Int) (s:Ty) (l:List Ty):Ty×Int:=
 if k=3 then(if(l.getD 0 .z).aop=4/\(l.getD 0 .z).aoq.getD 0 .z=l.getD 1 .z then((l.getD 0 .z).aoq.getD 1 .z,0)else(.z,7))
 else if k=4 then(.nat,0)
 else if k=5 then(if l.getD 0 .z=.nat then(.nat,0)else(.z,7))
 else if k=6 then(if l.getD 0 .z=s/\l.getD 1 .z=.fn .nat (.fn s s)/\l.getD 2 .z=.nat then(s,0)else(.z,7))
 else if k=7 then(.uK,0)
 else if k=8 then(if l.getD 0 .z=.nat/\l.getD 1 .z=.uK then(.uK,0)else(.z,7))
 else if k=9 then(if l.getD 0 .z=s/\l.getD 1 .z=.fn .nat (.fn .uK (.fn s s))/\l.getD 2 .z=.uK then(s,0)else(.z,7))
 else if k=10 then(if 64<1+(l.getD 0 .z).aor+(l.getD 1 .z).aor then(.z,4)else(.pr (l.getD 0 .z) (l.getD 1 .z),0))
 else if k=11 then(if(l.getD 0 .z).aop=3 then((l.getD 0 .z).aoq.getD 0 .z,0)else(.z,7))
 else if k=12 then(if(l.getD 0 .z).aop=3 then((l.getD 0 .z).aoq.getD 1 .z,0)else(.z,7))
 else(.unit,0)
def QF(s:Ty)(r:Ty×Int):Ty×Int:=if r.2≠0 then(.z,r.2)else if 64<1+s.aor+r.1.aor then(.z,4)else(.fn s r.1,0)
def vW(f:List Ty->Ty×Int):List Ty⊕Int->Ty×Int
 |.inl l=>f l|.inr e=>(.z,e)
def Tx(r:Ty×Int)(o:List Ty⊕Int):List Ty⊕Int:=if r.2≠0 then .inr r.2 else match o with|.inl l=>.inl (r.1::l)|.inr e=>.inr e
mutual
noncomputable def Tm.ty:Tm->List Ty->Ty×Int
 |.mk k i s l,g=>if k=1 then(if i<(g.length:Int)then(g.getD (g.length-1-i.toNat) .z,0)else(.z,6))else if k=2 then QF s (Tm.tyH l (g++[s]))else vW (ib k s) (Tm.vx l g)
noncomputable def Tm.tyH:List Tm->List Ty->Ty×Int
 |[],_=>(.z,0)|t::_,g=>t.ty g
noncomputable def Tm.vx:List Tm->List Ty->List Ty⊕Int
 |[],_=>.inl []|t::l,g=>Tx (t.ty g) (Tm.vx l g)
end
def Tm.nt(k i:Int)(s:Ty)(l:List Tm)(g:List Ty):(Tm.mk k i s l).ty g=if k=1 then(if i<(g.length:Int)then(g.getD (g.length-1-i.toNat) .z,0)else(.z,6))else if k=2 then QF s (Tm.tyH l (g++[s]))else vW (ib k s) (Tm.vx l g):=by rw[Tm.ty]
def jf(g:List Ty):Prop:=∀s∈g,s.err=0
def jf.app{g:List Ty}{s:Ty}(h:jf g)(hs:s.err=0):jf (g++[s]):=by
 intro u hu;rcases tl.1 hu with h'|h'
 .exact h u h'
 .grind
def Oi{t:Ty}(h:t.err=0)(c:t.aop=4):∃a b,t=.fn a b/\a.err=0/\b.err=0:=by
 rcases Ty.rR h with rfl|rfl|rfl|⟨a,b,rfl,_,_⟩|h
 .cases c
 .cases c
 .cases c
 .cases c
 .exact h
def Bv{t:Ty}(h:t.err=0)(c:t.aop=3):∃a b,t=.pr a b/\a.err=0/\b.err=0:=by
 rcases Ty.rR h with rfl|rfl|rfl|h|⟨a,b,rfl,_,_⟩
 .cases c
 .cases c
 .cases c
 .exact h
 .cases c
def vY{t:Ty}(h:t.err=0):t.aop=1↔t=.nat:=by
 rcases Ty.rR h with rfl|rfl|rfl|⟨a,b,rfl,_,_⟩|⟨a,b,rfl,_,_⟩
 .exact⟨λ_=>rfl,λ_=>rfl⟩
 all_goals exact⟨λh=>(by cases h),λh=>(by cases h)⟩
def ES{t:Ty}(h:t.err=0):t.aop=2↔t=.uK:=by
 rcases Ty.rR h with rfl|rfl|rfl|⟨a,b,rfl,_,_⟩|⟨a,b,rfl,_,_⟩
 .exact⟨λh=>(by cases h),λh=>(by cases h)⟩
 .exact⟨λ_=>rfl,λ_=>rfl⟩
 all_goals exact⟨λh=>(by cases h),λh=>(by cases h)⟩
theorem qK{r:Ty×Int}{o:List Ty⊕Int}(h:r.2≠0):Tx r o=.inr r.2:=dO h
theorem qC{r:Ty×Int}{o:List Ty⊕Int}(h:r.2=0):Tx r o=match o with|.inl l=>.inl (r.1::l)|.inr e=>.inr e:=dK VW
theorem tL{f:List Ty->Ty×Int}{e:Int}{r:Ty}(h:vW f (.inr e)=(r,0)):e=0:=(iO h).2
def zK{a:Tm}{g:List Ty}(h:(a.ty g).2=0):a.ty g=((a.ty g).1,0):=Prod.ext rfl h
def Tn{a:Tm}{g:List Ty}{f:List Ty->Ty×Int}{r:Ty}(h:vW f (Tm.vx [a] g)=(r,0)):∃s,a.ty g=(s,0)/\f [s]=(r,0):=by
 rw[Tm.vx] at h
 by_cases b:(a.ty g).2=0
 .rw[qC b] at h;exact⟨_,zK b,h⟩
 .grind[qK,tL]
def S7{a b:Tm}{g:List Ty}{f:List Ty->Ty×Int}{r:Ty}(h:vW f (Tm.vx [a,b] g)=(r,0)):∃s t,a.ty g=(s,0)/\b.ty g=(t,0)/\f [s,t]=(r,0):=by
 rw[Tm.vx,Tm.vx,Tm.vx] at h
 by_cases c:(a.ty g).2=0
 .rw[qC c] at h
  by_cases d:(b.ty g).2=0
  .rw[qC d] at h;exact⟨_,_,zK c,zK d,h⟩
  .grind[qK,tL]
 .grind[qK,tL]
def R6{a b c:Tm}{g:List Ty}{f:List Ty->Ty×Int}{r:Ty}(h:vW f (Tm.vx [a,b,c] g)=(r,0)):∃s t u,a.ty g=(s,0)/\b.ty g=(t,0)/\c.ty g=(u,0)/\f [s,t,u]=(r,0):=by
 rw[Tm.vx,Tm.vx,Tm.vx,Tm.vx] at h
 by_cases d:(a.ty g).2=0
 .rw[qC d] at h
  by_cases i:(b.ty g).2=0
  .rw[qC i] at h
   by_cases j:(c.ty g).2=0
   .rw[qC j] at h;exact⟨_,_,_,zK d,zK i,zK j,h⟩
   .grind[qK,tL]
  .rw[qK i] at h;exact absurd (tL h) i
 .rw[qK d] at h;exact absurd (tL h) d
def rz:∀(n:Nat) (t:Tm),t.aor<=n->t.ok=true->∀g,jf g->∀s,t.ty g=(s,0)->eg g t s/\s.err=0:=by
 intro n
 induction n with
 |zero=>intro t h;have:=t.eF;omega
 |succ n ih=>
  intro t hn F;refine Tm.nw (p:=λt=>t.aor<=n+1->∀g,jf g->∀s,t.ty g=(s,0)->eg g t s/\s.err=0) ?_ ?_ ?_ ?_ ?_ ?_ ?_ ?_ ?_ ?_ ?_ ?_ ?_ t F hn
  .intro i _ g hg s h;rw[Tm.nt,dO rfl] at h
   split at h
   .rename_i hi
    have u:g.length-1-(i:Int).toNat<g.length:=VW
    have e:g[g.length-1-i]?=some s:=by
     have f:=(iO h).1;rw[A2,BS] at f;rw[BS] at u;rw[pE u] at f|-;simpa using f
    exact⟨.var i VW e,hg s (HP e)⟩
   .have:=(iO h).2;omega
  .intro s b hs l hn g hg r h;rw[Tm.dL] at hn;simp only[ee] at hn;rw[Tm.nt,dK aal,dO rfl,Tm.tyH] at h;unfold QF at h
   split at h
   .rename_i w;exact absurd (iO h).2 w
   .rename_i w
    split at h
    .have:=(iO h).2;omega
    .rename_i f;obtain⟨o,d⟩:=ih b VW l (g++[s]) (hg.app hs) _ (zK (by simpa using w));have he:=Ty.yX hs d VW;obtain rfl:=(iO h).1;exact⟨.lam he o,he⟩
  .intro a b k l hn g hg r h;rw[Tm.dL] at hn;simp only[ee] at hn;rw[Tm.nt,dK aal,dK aal] at h;obtain⟨s,t,f,o,d⟩:=S7 h;obtain⟨a1,a2⟩:=ih a VW k g hg _ f;obtain⟨q,v⟩:=ih b VW l g hg _ o;simp only[ib,if_true,HB,WG] at d
   split at d
   .rename_i j;obtain⟨x,y,rfl,A,hy⟩:=Oi a2 j.1;have G:x=t:=j.2;obtain rfl:=(iO d).1;subst G;exact⟨.app a1 q,hy⟩
   .have:=(iO d).2;omega
  .intro hn g hg r h;rw[Tm.nt,dK aal,dK aal,Tm.vx] at h;simp only[vW,ib,reduceIte,Int.reduceEq] at h;obtain rfl:=(iO h).1;exact⟨.zero,Ty.gC⟩
  .intro a k hn g hg r h;rw[Tm.dL] at hn;simp only[ee] at hn;rw[Tm.nt,dK aal,dK aal] at h;obtain⟨s,f,d⟩:=Tn h;obtain⟨a1,a2⟩:=ih a VW k g hg _ f;simp only[ib,reduceIte,Int.reduceEq,HB] at d
   split at d
   .rename_i j;subst j;obtain rfl:=(iO d).1;exact⟨.succ a1,Ty.gC⟩
   .have:=(iO d).2;omega
  .intro s a b c hs k l B hn g hg r h;rw[Tm.dL] at hn;simp only[ee] at hn;rw[Tm.nt,dK aal,dK aal] at h;obtain⟨x,y,z,f,o,C,d⟩:=R6 h;obtain⟨a1,a2⟩:=ih a VW k g hg _ f;obtain⟨q,v⟩:=ih b VW l g hg _ o;obtain⟨D,H⟩:=ih c VW B g hg _ C;simp only[ib,reduceIte,Int.reduceEq,HB,WG] at d
   split at d
   .rename_i j;have j:x=s/\y=.fn .nat (.fn s s)/\z=.nat:=j;obtain⟨rfl,rfl,rfl⟩:=j;obtain rfl:=(iO d).1;exact⟨.sF hs a1 q D,hs⟩
   .have:=(iO d).2;omega
  .intro hn g hg r h;rw[Tm.nt,dK aal,dK aal,Tm.vx] at h;simp only[vW,ib,reduceIte,Int.reduceEq] at h;obtain rfl:=(iO h).1;exact⟨.nil,Ty.sO⟩
  .intro a b k l hn g hg r h;rw[Tm.dL] at hn;simp only[ee] at hn;rw[Tm.nt,dK aal,dK aal] at h;obtain⟨s,t,f,o,d⟩:=S7 h;obtain⟨a1,a2⟩:=ih a VW k g hg _ f;obtain⟨q,v⟩:=ih b VW l g hg _ o;simp only[ib,reduceIte,Int.reduceEq,HB,WG] at d
   split at d
   .rename_i j;obtain⟨rfl,rfl⟩:=j;obtain rfl:=(iO d).1;exact⟨.cons a1 q,Ty.sO⟩
   .have:=(iO d).2;omega
  .intro s a b c hs k l B hn g hg r h;rw[Tm.dL] at hn;simp only[ee] at hn;rw[Tm.nt,dK aal,dK aal] at h;obtain⟨x,y,z,f,o,C,d⟩:=R6 h;obtain⟨a1,a2⟩:=ih a VW k g hg _ f;obtain⟨q,v⟩:=ih b VW l g hg _ o;obtain⟨D,H⟩:=ih c VW B g hg _ C;simp only[ib,reduceIte,Int.reduceEq,HB,WG] at d
   split at d
   .rename_i j;have j:x=s/\y=.fn .nat (.fn .uK (.fn s s))/\z=.uK:=j;obtain⟨rfl,rfl,rfl⟩:=j;obtain rfl:=(iO d).1;exact⟨.fold hs a1 q D,hs⟩
   .have:=(iO d).2;omega
  .intro a b k l hn g hg r h;rw[Tm.dL] at hn;simp only[ee] at hn;rw[Tm.nt,dK aal,dK aal] at h;obtain⟨s,t,f,o,d⟩:=S7 h;obtain⟨a1,a2⟩:=ih a VW k g hg _ f;obtain⟨q,v⟩:=ih b VW l g hg _ o;simp only[ib,reduceIte,Int.reduceEq,HB,WG] at d
   split at d
   .have:=(iO d).2;omega
   .rename_i j;have he:=Ty.S8 a2 v VW;obtain rfl:=(iO d).1;exact⟨.pair he a1 q,he⟩
  .intro a k hn g hg r h;rw[Tm.dL] at hn;simp only[ee] at hn;rw[Tm.nt,dK aal,dK aal] at h;obtain⟨s,f,d⟩:=Tn h;obtain⟨a1,a2⟩:=ih a VW k g hg _ f;simp only[ib,reduceIte,Int.reduceEq,HB] at d
   split at d
   .rename_i j;obtain⟨x,y,rfl,A,hy⟩:=Bv a2 j;obtain rfl:=(iO d).1;exact⟨.fst a1,A⟩
   .have:=(iO d).2;omega
  .intro a k hn g hg r h;rw[Tm.dL] at hn;simp only[ee] at hn;rw[Tm.nt,dK aal,dK aal] at h;obtain⟨s,f,d⟩:=Tn h;obtain⟨a1,a2⟩:=ih a VW k g hg _ f;simp only[ib,reduceIte,Int.reduceEq,HB] at d
   split at d
   .rename_i j;obtain⟨x,y,rfl,A,hy⟩:=Bv a2 j;obtain rfl:=(iO d).1;exact⟨.snd a1,hy⟩
   .have:=(iO d).2;omega
  .intro hn g hg r h;rw[Tm.nt,dK aal,dK aal,Tm.vx] at h;simp only[vW,ib,reduceIte,Int.reduceEq] at h;obtain rfl:=(iO h).1;exact⟨.unit,Ty.Js⟩
end Go.fP
