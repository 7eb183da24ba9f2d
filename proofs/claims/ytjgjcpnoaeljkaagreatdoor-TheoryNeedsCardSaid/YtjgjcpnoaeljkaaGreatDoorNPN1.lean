/- Part of the proof of TheoryNeeds: plain facts. -/
import Derived.Test.YtjgjcpnoaeljkaaGreatDoorNG1
set_option linter.all false
namespace Go.eU
open Go
@[simp] theorem eN(a b:Int):dj a b=true↔a=b:=by simp[dj]
@[simp] theorem c_(a b:Int):dx a b=true↔a≠b:=by simp[dx]
@[simp] theorem km(a b:Int):qT a b=true↔a<b:=by simp[qT]
@[simp] theorem E7(a b:Int):Hl a b=true↔a<=b:=by simp[Hl]
@[simp] theorem fx(a b:Int):ly a b=true↔b<a:=by simp[ly]
@[simp] theorem gK(a b:Int):og a b=true↔b<=a:=by simp[og]
@[simp] theorem kP(a b:Bool):en a true b=(a||b):=by cases a<;>rfl
@[simp] theorem p_(a b:Bool):en a b false=(a&&b):=by cases a<;>rfl
@[simp] theorem adz(a b:Bool):en a b true=(!a||b):=by cases a<;>rfl
@[simp] theorem QP(a:Bool):pL a=!a:=rfl
@[simp] theorem fu{α:Type}(l m:List α):fk l m=l++m:=rfl
@[simp] theorem ee{α:Type}(l:List α):dp l=(l.length:Int):=rfl
theorem fV{α:Type}(l:List α)(i:Nat):dg l (i:Int)=l[i]?:=by simp[dg]
@[simp] theorem dA{α:Type}(l:List α):dg l 0=l[0]?:=by simp[dg]
@[simp] theorem fg{α:Type}(l:List α):dg l 1=l[1]?:=by simp[dg]
@[simp] theorem hQ{α:Type}(l:List α):dg l 2=l[2]?:=by simp[dg]
def I_{α:Type}{l:List α}{i:Int}(b:0<=i)(c:i<l.length):∃x,dg l i=some x/\x∈l:=by
 obtain⟨k,rfl⟩:=aa3 b
 have a:k<l.length:=VW
 exact⟨l[k],by rw[fV];simp[a],Cy a⟩
def c8{α:Type}{l:List α}(h:l.length<=1000000000):dE l=true:=by unfold dE lim;exact vF VW
def dT{α:Type}{l m:List α}(h:l.length+m.length<=1000000000):eI l m=true:=by unfold eI lim;exact vF VW
def TN{b:Int}(h:b≠0):Bu b=true:=by simp[Bu,h]
def BW{n:Int}(a:-9223372036854775808<=n)(b:n<9223372036854775808):IntKind.i64.wrap n=n:=by
 rw[IntKind.wrap_i64];omega
def dP{a b:Int}(c:-9223372036854775808<=a+b)(d:a+b<9223372036854775808):dJ .i64 a b=a+b:=BW c d
theorem ep{a b:Int}(c:-9223372036854775808<=a-b)(d:a-b<9223372036854775808):ea .i64 a b=a-b:=BW c d
def zJ{a b:Int}(c:-9223372036854775808<=a*b)(d:a*b<9223372036854775808):J4 .i64 a b=a*b:=BW c d
section
variable{α β σ ρ:Type}
def Mi{F:Int->α->σ->Option (dW σ ρ)}(I:σ->Prop):∀(l:List α) (i:Nat) (s:σ),I s->(∀k x s,l[k]?=some x->I s->∃a,F ((i+k:Nat):Int) x s=some (.next a)/\I a)->∃a,dF F l i s=some (.inl a)/\I a
 |[],i,s,hs,_=>⟨s,rfl,hs⟩|x::l,i,s,hs,h=>by
  obtain⟨s1,c,d⟩:=h 0 x s rfl hs;rw[HA] at c;rw[dB,c];simp only[cv,dR];refine Mi I l (i+1) s1 d λk y a f b=>?_;have:=h (k+1) y a (by simpa using f) b;rw[show i+(k+1)=i+1+k by omega] at this;exact this
def Jg{F:Int->α->σ->Option (dW σ ρ)}(I:σ->Prop)(Q:ρ->Prop):∀(l:List α) (i:Nat) (s:σ),I s->(∀k x s,l[k]?=some x->I s->(∃a,F ((i+k:Nat):Int) x s=some (.next a)/\I a)\/(∃r,F ((i+k:Nat):Int) x s=some (.ret r)/\Q r))->(∃a,dF F l i s=some (.inl a)/\I a)\/(∃r,dF F l i s=some (.inr r)/\Q r)
 |[],i,s,hs,_=>.inl ⟨s,rfl,hs⟩|x::l,i,s,hs,h=>by
  have f:=h 0 x s rfl hs;rw[HA] at f;rw[dB];rcases f with⟨s1,b,c⟩|⟨r,b,c⟩
  .rw[b];simp only[cv,dR];refine Jg I Q l (i+1) s1 c λk y a j d=>?_;have:=h (k+1) y a (by simpa using j) d;rw[show i+(k+1)=i+1+k by omega] at this;exact this
  .rw[b];exact .inr ⟨r,rfl,c⟩
def gP{F:Int->α->List β->Option (dW (List β) ρ)}(g:α->β):∀(l:List α) (i:Nat) (v:List β),v.length+l.length<=1000000000->(∀j x v,x∈l->v.length+1<=1000000000->F j x v=some (.next (v++[g x])))->dF F l i v=some (.inl (v++l.map g))
 |[],i,v,_,_=>by simp|x::l,i,v,a,h=>by
  simp only[kY] at a;rw[dB,h i x v aaL VW];simp only[cv,dR];rw[gP g l (i+1) (v++[g x]) acz λj y v hy b=>h j y v (by simp[hy]) b];simp
def db(g:α->Nat):List α->Nat
 |[]=>0|x::l=>g x+db g l
def dk(g:α->Nat){l:List α}{x:α}(h:x∈l):g x<=db g l:=by
 induction l with
 |nil=>cases h
 |cons y l ih=>
  simp only[db];rcases jr.1 h with rfl|h
  .omega
  .have:=ih h;omega
def fR(g:α->Nat)(l:List α)(h:∀x∈l,1<=g x):l.length<=db g l:=by
 induction l with
 |nil=>simp|cons y l ih=>simp only[db,kY];have:=h y aaL;have:=ih λx a=>h x (by simp[a]);omega
def oC{F:Int->α->Int->Option (dW Int ρ)}(g:α->Nat):∀(l:List α) (i v:Nat),v+db g l<=4611686018427387904->(∀j x (v:Int),x∈l->F j x v=some (.next (dJ .i64 v (g x))))->dF F l i (v:Int)=some (.inl ((v+db g l:Nat):Int))
 |[],i,v,_,_=>by simp[db]|x::l,i,v,a,h=>by
  simp only[db] at a|-;rw[dB,h i x v aaL,dP VW VW];simp only[cv,dR];have:=oC g l (i+1) (v+g x) VW λj y v hy=>h j y v (by simp[hy]);rw[show(v:Int)+(g x:Int)=((v+g x:Nat):Int) by omega,this];rw[Vc]
def uP{F:Int->α->Int->Option (dW Int ρ)}(g:α->Nat)(ok:α->Bool)(r:ρ):∀(l:List α) (i v:Nat),v+db g l<=4611686018427387904->(∀j x (v:Int),x∈l->F j x v=if ok x then some (.next (dJ .i64 v (g x)))else some (.ret r))->dF F l i (v:Int)=if l.all ok then some (.inl ((v+db g l:Nat):Int))else some (.inr r)
 |[],i,v,_,_=>by simp[db]|x::l,i,v,b,h=>by
  simp only[db] at b|-;rw[dB,h i x v aaL,dP VW VW];cases a:ok x with
  |false=>simp[a]|true=>
   simp only[if_true,cv,dR,AX,a,yg];have:=uP g ok r l (i+1) (v+g x) VW λj y v hy=>h j y v (by simp[hy]);rw[show(v:Int)+(g x:Int)=((v+g x:Nat):Int) by omega,this,Vc]
def p8{F:Int->α->Unit->Option (dW Unit ρ)}(ok:α->Bool)(r:ρ):∀(l:List α) (i:Nat),(∀j x,x∈l->F j x ()=if ok x then some (.next ())else some (.ret r))->dF F l i ()=if l.all ok then some (.inl ())else some (.inr r)
 |[],i,_=>by simp|x::l,i,h=>by
  rw[dB,h i x aaL];cases a:ok x with
  |false=>simp[a]|true=>
   simp only[if_true,cv,dR,AX,a,yg];exact p8 ok r l (i+1) λj y hy=>h j y (by simp[hy])
def eH:List Int->Int
 |[]=>0|e::l=>if e=0 then eH l else e
def j3{F:Int->α->Unit->Option (dW Unit Int)}(e:α->Int):∀(l:List α) (i:Nat),(∀j x,x∈l->F j x ()=if e x≠0 then some (.ret (e x))else some (.next ()))->dF F l i ()=if eH (l.map e)=0 then some (.inl ())else some (.inr (eH (l.map e)))
 |[],i,_=>by simp[eH]|x::l,i,h=>by
  rw[dB,h i x aaL]
  by_cases he:e x=0
  .simp only[he,eH,CN,ne_eq,Xx,lL,cv,dR,if_true];exact j3 e l (i+1) λj y hy=>h j y (by simp[hy])
  .simp[he,eH]
def uE(p:α->β->Bool):List α->List β->Bool
 |x::l,y::m=>p x y&&uE p l m|[],[]=>true|_,_=>false
def wc{F:Int->α->Unit->Option (dW Unit Bool)}(p:α->β->Bool)(M:List β):∀(l:List α) (i:Nat) (m:List β),m=M.drop i->l.length=m.length->(∀(k:Nat) x y,x∈l->M[k]?=some y->F (k:Int) x ()=if p x y then some (.next ())else some (.ret false))->dF F l i ()=if uE p l m then some (.inl ())else some (.inr false)
 |[],i,m,_,d,_=>by
  cases m with
  |nil=>simp[uE]|cons y m=>simp at d
 |x::l,i,m,hm,d,h=>by
  cases m with
  |nil=>simp at d
  |cons y m=>
   have c:i<M.length:=by
    rcases sH i M.length with h'|h'
    .exact h'
    .rw[HE h'] at hm;cases hm
   rw[Ko c] at hm;injection hm with j n;rw[dB,h i x y aaL (by simp[c,j])];cases f:p x y with
   |false=>simp[uE,f]|true=>
    simp only[if_true,cv,dR,uE,f,yg];exact wc p M l (i+1) m n (by simpa using d) λk a b o q=>h k a b (by simp[o]) q
def wv(p:α->α->Bool):∀(l m:List α),(∀x∈l,∀y,p x y=true↔x=y)->(uE p l m=true↔l=m)
 |[],[],_=>by simp[uE]|[],_::_,_=>by simp[uE]|_::_,[],_=>by simp[uE]|x::l,y::m,h=>by simp[uE,h x aaL y,wv p l m λa b=>h a (by simp[b])]
def zp{F:σ->Option (dW σ ρ)}(I:σ->Prop)(μ:σ->Nat)(Q:σ⊕ρ->Prop)
  (h:∀s,I s->(∃a,F s=some (.next a)/\I a/\μ a<μ s)\/(∃a,F s=some (.brk a)/\Q (.inl a))\/(∃r,F s=some (.ret r)/\Q (.inr r))):∀(n:Nat) (s:σ),I s->μ s<n->∃o,nk F n s=some o/\Q o
 |0,s,_,hn=>by omega|n+1,s,hs,hn=>by
  rw[j2];rcases h s hs with⟨a,b,c,d⟩|⟨a,b,c⟩|⟨r,b,c⟩
  .rw[b];simp only[cv,dR];exact zp I μ Q h n a c VW
  .rw[b];exact⟨_,rfl,c⟩
  .rw[b];exact⟨_,rfl,c⟩
def ZR{n:Nat}(h:n<1000000000):n<FU:=by rw[d_];exact h
end
end Go.eU
namespace Go.eU
open Go
mutual
def Ty.ain:Ty->Nat
 |.mk _ l=>1+Ty.mW l
def Ty.mW:List Ty->Nat
 |[]=>0|t::l=>t.ain+Ty.mW l
end
def Ty.qH(l:List Ty):Ty.mW l=db Ty.ain l:=by
 induction l with
 |nil=>rfl|cons t l ih=>simp[Ty.mW,db,ih]
theorem Ty.cQ(k:Int)(l:List Ty):(Ty.mk k l).ain=1+db Ty.ain l:=by rw[Ty.ain,Ty.qH]
def Ty.dr(t:Ty):1<=t.ain:=by cases t;rw[Ty.ain];omega
def Ty.ek(l:List Ty):l.length<=db Ty.ain l:=fR _ _ λt _=>t.dr
def Ty.want(k:Int):Option Nat:=if k=1\/k=2\/k=5 then some 0 else if k=3\/k=4 then some 2 else none
mutual
def Ty.ok:Ty->Bool
 |.mk k l=>decide (Ty.want k=some l.length)&&Ty.Jt l
def Ty.Jt:List Ty->Bool
 |[]=>true|t::l=>t.ok&&Ty.Jt l
end
def Ty.yS(l:List Ty):Ty.Jt l=l.all Ty.ok:=by
 induction l with
 |nil=>rfl|cons t l ih=>simp[Ty.Jt,ih]
theorem Ty.fX(k:Int)(l:List Ty):(Ty.mk k l).ok=(decide (Ty.want k=some l.length)&&l.all Ty.ok):=by rw[Ty.ok,Ty.yS]
def Ty.err(t:Ty):Int:=if t.ok then(if 64<t.ain then 4 else 0)else 2
def IX:∀(n:Nat) (t:Ty),t.ain<=n->t.ain<=1000000000->gJ n t=some t:=by
 intro n
 induction n with
 |zero=>intro t h;have:=t.dr;omega
 |succ n ih=>
  intro t h a;cases t with
  |mk k l=>
   rw[Ty.cQ] at h a;have d:=Ty.ek l;rw[gJ];simp only[Ty.di,Ty.dq,c6,c8 (l:=l) VW,cY];rw[gP id l 0 [] acz]
   .simp
   .intro j x v b c;have:=dk Ty.ain b;rw[ih x VW VW];simp[dT (l:=v) (m:=[x]) (by simpa using c)]
def gV{t:Ty}(h:t.ain<=1000000000):gJ FU t=some t:=IX FU t (by rw[d_];exact h) h
def Co:∀(n:Nat) (t:Ty),t.ain<=n->t.ain<=1000000000->lH n t=some (if t.ok then((t.ain:Int),true)else(0,false)):=by
 intro n
 induction n with
 |zero=>intro t h;have:=t.dr;omega
 |succ n ih=>
  intro t h u;cases t with
  |mk k l=>
   rw[Ty.cQ] at h u;have A:=Ty.ek l
   have key:dF (λ(q:Int) (c:Ty) (d:Int)=>cW (lH n c) λf i=>if i then some (dW.next (dJ .i64 d f))else some (dW.ret ((0:Int),false))) l 0 1=if l.all Ty.ok then some (.inl ((1+db Ty.ain l:Nat):Int))else some (.inr (0,false)):=by
    refine uP Ty.ain Ty.ok _ l 0 1 VW ?_;intro j x v w;have:=dk Ty.ain w;rw[ih x VW VW];cases x.ok<;>simp
   rw[lH];simp only[Ty.di,Ty.dq,c6,c8 (l:=l) VW,cY,key,kP,rl,eN,c_,ee,Ty.fX,Ty.cQ,Ty.want]
   by_cases r:k=1\/k=2\/k=5
   .simp only[r,if_true]
    by_cases b:l=[]
    .subst b;simp[db]
    .have:¬(0=l.length):=by cases l with|nil=>exact absurd rfl b|cons a l=>simp
     have o:(l.length:Int)≠0:=VW
     simp[this,o,b]
   .simp only[r,lL]
    by_cases b:k=3\/k=4
    .simp only[b,if_true]
     by_cases o:l.length=2
     .cases s:l.all Ty.ok<;>simp[o]
     .have s:(l.length:Int)≠2:=VW
      have y:¬2=l.length:=VW
      simp[s,y]
    .simp[b]
theorem kH{t:Ty}(h:t.ain<=1000000000):hY t=some (if t.err=0 then(t.ain:Int)else 0,t.err):=by
 unfold hY Ty.err;rw[Co FU t (by rw[d_];exact h) h];cases t.ok with
 |false=>simp|true=>
  by_cases a:64<t.ain
  .simp[a];omega
  .simp[a];omega
def yl{t:Ty}(h:t.ain<=1000000000):k5 t=some t.err:=by
 unfold k5;rw[kH h];rfl
def Ty.qE(t:Ty):Bool:=en (dj t.ail 0) (dj (dp t.aim) 0) false
theorem Ty.lj(t:Ty):t.qE=true↔t=.mk 0 []:=by
 cases t with
 |mk k l=>unfold Ty.qE;simp
theorem rB(t:Ty):nq t=some t.qE:=rfl
def vw(t:Ty):oU t=some t.qE:=rfl
def Gw:∀(n:Nat) (t:Ty),t.ain<=n->t.ain<=1000000000->oM n t=some t.ok:=by
 intro n
 induction n with
 |zero=>intro t h;have:=t.dr;omega
 |succ n ih=>
  intro t h r;cases t with
  |mk k l=>
   rw[Ty.cQ] at h r;have v:=Ty.ek l
   have key:dF (λ(i:Int) (c:Ty) (_:Unit)=>cM (oM n c) λd=>if d then some (dW.next ())else some (dW.ret false)) l 0 ()=if l.all Ty.ok then some (.inl ())else some (.inr false):=by
    refine p8 Ty.ok _ l 0 ?_;intro j x s;have:=dk Ty.ain s;rw[ih x VW VW];rfl
   rw[oM];simp only[Ty.di,Ty.dq,c6,c8 (l:=l) VW,cY,key,kP,rl,eN,c_,ee,Ty.fX,Ty.want]
   by_cases o:k=1\/k=2\/k=5
   .simp only[o,if_true]
    by_cases b:l=[]
    .subst b;simp
    .have:¬(0=l.length):=by cases l with|nil=>exact absurd rfl b|cons a l=>simp
     have f:(l.length:Int)≠0:=VW
     simp[this,f,b]
   .simp only[o,lL]
    by_cases b:k=3\/k=4
    .simp only[b,if_true]
     by_cases f:l.length=2
     .cases q:l.all Ty.ok<;>simp[f]
     .have q:(l.length:Int)≠2:=VW
      have u:¬2=l.length:=VW
      simp[q,u]
    .simp[b]
def Iu:∀(n:Nat) (t:Ty),t.ain<=n->t.ain<=1000000000->qh n t=some (t.ain:Int):=by
 intro n
 induction n with
 |zero=>intro t h;have:=t.dr;omega
 |succ n ih=>
  intro t h a;cases t with
  |mk k l=>
   rw[Ty.cQ] at h a;have c:=Ty.ek l;rw[qh];simp only[Ty.di,c6,c8 (l:=l) VW,cY]
   have key:=oC (ρ:=Int) (F:=λ(j:Int) (x:Ty) (v:Int)=>cM (qh n x) λy=>some (dW.next (dJ .i64 v y))) Ty.ain l 0 1 VW (by
    intro j x v b;have:=dk Ty.ain b;rw[ih x VW VW]
    rfl)
   rw[show(1:Int)=((1:Nat):Int)from rfl,key];simp[Ty.cQ]
def lC{t:Ty}(h:t.ain<=1000000000):hU t=some t.err:=by
 unfold hU Ty.err;rw[Gw FU t (by rw[d_];exact h) h,Iu FU t (by rw[d_];exact h) h];cases t.ok with
 |false=>simp|true=>by_cases a:64<t.ain<;>simp[a]<;>omega
def vD:∀(n:Nat) (a b:Ty),a.ain<=n->a.ain<=1000000000->∃r,eC n a b=some r/\(r=true↔a=b):=by
 intro n
 induction n with
 |zero=>intro t b h;have:=t.dr;omega
 |succ n ih=>
  intro a b h s;cases a with
  |mk k l=>
  cases b with
  |mk k' m=>
   rw[Ty.cQ] at h s;have u:=Ty.ek l;rw[eC];simp only[Ty.di,Ty.dq,c6,c8 (l:=l) VW,cY,kP,rl,c_,ee]
   by_cases d:k≠k'\/(l.length:Int)≠m.length
   .rw[cS d];refine⟨false,rfl,?_⟩;simp only[pc,OS,Ty.mk.injEq,not_and];rintro rfl rfl;simp at d
   .rw[cO d];simp only[not_or,wK] at d;obtain⟨rfl,hlen⟩:=d
    have c:l.length=m.length:=VW
    let p:Ty->Ty->Bool:=λx y=>(eC n x y).getD false
    have o:∀x∈l,∀y,eC n x y=some (p x y)/\(p x y=true↔x=y):=by
     intro x f y;have:=dk Ty.ain f;obtain⟨r,q,i⟩:=ih x y VW VW
     have e:p x y=r:=by show(eC n x y).getD false=r;rw[q];rfl
     rw[e];exact⟨q,i⟩
    have key:=wc (F:=λ(j:Int) (x:Ty) (_:Unit)=>cM (dg m j) λy=>cM (eC n x y) λz=>if z then some (dW.next ())else some (dW.ret false)) p m l 0 m rfl c (by
     intro k x y f hy;rw[fV,hy];simp only[cv];rw[(o x f y).1]
     rfl)
    rw[key];have he:=wv p l m λx f y=>(o x f y).2;cases i:uE p l m with
    |false=>exact⟨false,rfl,by rw[i] at he;simpa using he⟩
    |true=>exact⟨true,rfl,by rw[i] at he;simpa using he⟩
noncomputable def Ty.kW (a b:Ty):Bool:=@decide (a=b) (Classical.propDecidable _)
theorem Ty.lS(a b:Ty):a.kW b=true↔a=b:=by unfold Ty.kW;simp
theorem hV{a b:Ty}(h:a.ain<=1000000000):eC FU a b=some (a.kW b):=by
 obtain⟨r,c,d⟩:=vD FU a b (by rw[d_];exact h) h;rw[c]
 congr 1
 rw[Dr,d,Ty.lS]
mutual
def Tm.ain:Tm->Nat
 |.mk _ _ _ l=>1+Tm.mW l
def Tm.mW:List Tm->Nat
 |[]=>0|t::l=>t.ain+Tm.mW l
end
def Tm.qH(l:List Tm):Tm.mW l=db Tm.ain l:=by
 induction l with
 |nil=>rfl|cons t l ih=>simp[Tm.mW,db,ih]
theorem Tm.cQ(k i:Int)(s:Ty)(l:List Tm):(Tm.mk k i s l).ain=1+db Tm.ain l:=by rw[Tm.ain,Tm.qH]
def Tm.dr(t:Tm):1<=t.ain:=by cases t;rw[Tm.ain];omega
def Tm.ek(l:List Tm):l.length<=db Tm.ain l:=fR _ _ λt _=>t.dr
mutual
def Tm.wt:Tm->Nat
 |.mk _ _ s l=>1+s.ain+Tm.OO l
def Tm.OO:List Tm->Nat
 |[]=>0|t::l=>t.wt+Tm.OO l
end
def Tm.CS(l:List Tm):Tm.OO l=db Tm.wt l:=by
 induction l with
 |nil=>rfl|cons t l ih=>simp[Tm.OO,db,ih]
theorem Tm.ef(k i:Int)(s:Ty)(l:List Tm):(Tm.mk k i s l).wt=1+s.ain+db Tm.wt l:=by rw[Tm.wt,Tm.CS]
def Tm.gM(t:Tm):1<=t.wt:=by cases t;rw[Tm.wt];omega
def Tm.oe(l:List Tm):l.length<=db Tm.wt l:=fR _ _ λt _=>t.gM
def jB{α:Type}{f g:α->Nat}{l:List α}(h:∀x∈l,f x<=g x):db f l<=db g l:=by
 induction l with
 |nil=>simp[db]|cons x l ih=>simp only[db];have:=h x aaL;have:=ih λy hy=>h y (by simp[hy]);omega
def pk{α β:Type}(f:β->Nat)(g:α->β)(l:List α):db f (l.map g)=db (λx=>f (g x)) l:=by
 induction l with
 |nil=>rfl|cons x l ih=>simp[db,ih]
def qe{α:Type}{f g:α->Nat}{l:List α}(h:∀x∈l,f x=g x):db f l=db g l:=by
 induction l with
 |nil=>rfl|cons x l ih=>simp[db,h x aaL,ih λy hy=>h y (by simp[hy])]
def DU{α:Type}(f:α->Nat)(l m:List α):db f (l++m)=db f l+db f m:=by
 induction l with
 |nil=>simp[db]|cons x l ih=>simp[db,ih];omega
def Tm.ind{p:Tm->Prop}(h:∀k i s l,(∀t∈l,p t)->p (.mk k i s l))(t:Tm):p t:=by
 have:∀n (t:Tm),t.ain<=n->p t:=by
  intro n
  induction n with
  |zero=>intro t a;have:=t.dr;omega
  |succ n ih=>
   intro t a;cases t with
   |mk k i s l=>
    rw[Tm.cQ] at a;exact h k i s l λu hu=>ih u (by have:=dk Tm.ain hu;omega)
 exact this _ t (gO _)
def Tm.gH(t:Tm):t.ain<=t.wt:=by
 induction t using Tm.ind with
 |h k i s l ih=>rw[Tm.cQ,Tm.ef];have:=jB ih;omega
def jq(k:Int):Bool:=decide (k=2\/k=6\/k=9)
def gD(k:Int):Int:=
 if k=1\/k=4\/k=7\/k=13 then 0 else if k=2\/k=5\/k=11\/k=12 then 1 else if k=3\/k=8\/k=10 then 2 else if k=6\/k=9 then 3 else-1
def Tm.node(k i:Int)(s:Ty)(n:Nat):Bool:=
 decide ((n:Int)=gD k)&&decide (0<=i)&&(decide (k=1)||decide (i=0))&&(if jq k then decide (s.err=0)else s.qE)
mutual
def Tm.ok:Tm->Bool
 |.mk k i s l=>Tm.node k i s l.length&&Tm.Jt l
def Tm.Jt:List Tm->Bool
 |[]=>true|t::l=>t.ok&&Tm.Jt l
end
def Tm.yS(l:List Tm):Tm.Jt l=l.all Tm.ok:=by
 induction l with
 |nil=>rfl|cons t l ih=>simp[Tm.Jt,ih]
theorem Tm.fX(k i:Int)(s:Ty)(l:List Tm):(Tm.mk k i s l).ok=(Tm.node k i s l.length&&l.all Tm.ok):=by rw[Tm.ok,Tm.yS]
def Tm.err(t:Tm):Int:=if t.ok then(if 4096<t.ain then 4 else 0)else 2
def Ip:∀(n:Nat) (t:Tm),t.wt<=n->t.wt<=1000000000->iA n t=some t:=by
 intro n
 induction n with
 |zero=>intro t h;have:=t.gM;omega
 |succ n ih=>
  intro t h a;cases t with
  |mk k i s l=>
   rw[Tm.ef] at h a;have d:=Tm.oe l;rw[iA];simp only[Tm.di,Tm.dq,Tm.eY,Tm.dV,c6,c8 (l:=l) VW,cY];rw[gP id l 0 [] acz]
   .simp[gV (t:=s) VW]
   .intro j x v b c;have:=dk Tm.wt b;rw[ih x VW VW];simp[dT (l:=v) (m:=[x]) (by simpa using c)]
def mj{t:Tm}(h:t.wt<=1000000000):iA FU t=some t:=Ip FU t (by rw[d_];exact h) h
def oP(k:Int)(l:List Tm)(h:db Tm.wt l<=1000000000):eP k l=some (Tm.mk k 0 (.mk 0 []) l):=by
 have c:=Tm.oe l;unfold eP;simp only[c6,c8 (l:=l) VW,cY];rw[gP id l 0 [] acz]
 .simp
 .intro j x v a b;have:=dk Tm.wt a;rw[mj (t:=x) VW];simp[dT (l:=v) (m:=[x]) (by simpa using b)]
def FL(k:Int)(s:Ty)(l:List Tm)(hs:s.ain<=1000000000)(h:db Tm.wt l<=1000000000):kJ k s l=some (Tm.mk k 0 s l):=by
 unfold kJ;rw[oP k l h];simp[gV hs]
def Hw(k:Int):tX k=some (gD k):=by
 unfold tX gD;simp only[kP,rl,eN]
 split<;>(try rfl)
 split<;>(try rfl)
 split<;>(try rfl)
 split<;>rfl
def mR:∀(n:Nat) (t:Tm),t.ain<=n->t.ain<=1000000000->eQ n t=some (t.ain:Int):=by
 intro n
 induction n with
 |zero=>intro t h;have:=t.dr;omega
 |succ n ih=>
  intro t h a;cases t with
  |mk k i s l=>
   rw[Tm.cQ] at h a;have c:=Tm.ek l;rw[eQ];simp only[Tm.di,c6,c8 (l:=l) VW,cY]
   have key:=oC (ρ:=Int) (F:=λ(j:Int) (x:Tm) (v:Int)=>cM (eQ n x) λy=>some (dW.next (dJ .i64 v y))) Tm.ain l 0 1 VW (by
    intro j x v b;have:=dk Tm.ain b;rw[ih x VW VW]
    rfl)
   rw[show(1:Int)=((1:Nat):Int)from rfl,key];simp[Tm.cQ]
def yy:∀(n:Nat) (t:Tm),t.wt<=n->t.wt<=1000000000->jQ n t=some t.ok:=by
 intro n
 induction n with
 |zero=>intro t h;have:=t.gM;omega
 |succ n ih=>
  intro t h v;cases t with
  |mk k i s l=>
   rw[Tm.ef] at h v;have D:=Tm.oe l
   have key:dF (λ(o:Int) (a:Tm) (_:Unit)=>cM (jQ n a) λb=>if b then some (dW.next ())else some (dW.ret false)) l 0 ()=if l.all Tm.ok then some (.inl ())else some (.inr false):=by
    refine p8 Tm.ok _ l 0 ?_;intro j x w;have:=dk Tm.wt w;rw[ih x VW VW];rfl
   rw[jQ]
   simp only[Tm.di,Tm.dq,Tm.eY,Tm.dV,c6,c8 (l:=l) VW,cY,key,kP,rl,eN,c_,km,ee,Tm.fX,Hw,cv,lC (t:=s) VW,vw]
   by_cases d:(l.length:Int)=gD k
   .by_cases q:i<0
    .have:¬0<=i:=VW
     simp[d,q,Tm.node,this]
    .have y:0<=i:=VW
     by_cases r:k=1
     .subst r;cases c:s.qE<;>cases f:l.all Tm.ok<;>simp_all [Tm.node,jq]
     .by_cases c:i=0
      .subst c;have u:dx 0 0=false:=rfl
       by_cases f:k=2\/k=6\/k=9
       .have A:jq k=true:=by simp[jq,f]
        by_cases B:s.err=0<;>cases C:l.all Tm.ok<;>simp_all [Tm.node]
       .have A:jq k=false:=by simp[jq,f]
        cases B:s.qE<;>cases C:l.all Tm.ok<;>simp_all [Tm.node]
      .have u:dx i 0=true:=by simp[c]
       simp[d,q,r,c,u,Tm.node]
   .simp[d,Tm.node]
def lv{t:Tm}(h:t.wt<=1000000000):kF t=some t.err:=by
 have:=t.gH;unfold kF Tm.err;rw[yy FU t (by rw[d_];exact h) h,mR FU t (by rw[d_];omega) VW];cases t.ok with
 |false=>simp|true=>by_cases a:4096<t.ain<;>simp[a]<;>omega
def HZ(k:Int):uq k=some (if 1<=k/\k<14 then(gD k,true)else(0,false)):=by
 unfold uq;simp only[kP,rl,km,gK]
 by_cases h:k<1\/14<=k
 .rw[cS h,cO VW]
 .rw[cO h,cS VW]
  have:k=1\/k=2\/k=3\/k=4\/k=5\/k=6\/k=7\/k=8\/k=9\/k=10\/k=11\/k=12\/k=13:=VW
  rcases this with rfl|rfl|rfl|rfl|rfl|rfl|rfl|rfl|rfl|rfl|rfl|rfl|rfl<;>rfl
def Ht(k:Int):uM k=some (jq k):=by
 unfold uM jq
 congr 1
 rw[Dr];simp
def KH{k:Int}{n:Nat}(h:(n:Int)=gD k):1<=k/\k<14:=by
 unfold gD at h
 repeat' split at h
 all_goals omega
def vg:∀(n:Nat) (t:Tm),t.wt<=n->t.wt<=1000000000->jE n t=some (if t.ok then((t.ain:Int),true)else(0,false)):=by
 intro n
 induction n with
 |zero=>intro t h;have:=t.gM;omega
 |succ n ih=>
  intro t h A;cases t with
  |mk k i s l=>
   rw[Tm.ef] at h A;have I:=Tm.oe l;have hn:db Tm.ain l<=db Tm.wt l:=jB λx _=>x.gH
   have key:dF (λ(u:Int) (a:Tm) (b:Int)=>cW (jE n a) λc d=>if d then some (dW.next (dJ .i64 b c))else some (dW.ret ((0:Int),false))) l 0 1=if l.all Tm.ok then some (.inl ((1+db Tm.ain l:Nat):Int))else some (.inr (0,false)):=by
    refine uP Tm.ain Tm.ok _ l 0 1 VW ?_;intro j x v B;have:=dk Tm.wt B;rw[ih x VW VW];cases x.ok<;>simp
   rw[jE];simp only[Tm.di,Tm.dq,Tm.eY,Tm.dV,c6,c8 (l:=l) VW,cY,key,Tm.fX,Tm.cQ,HZ,Ht,kH (t:=s) VW,rB,cv,cN]
   by_cases f:(l.length:Int)=gD k
   .have o:=KH f;simp only[o,and_self,if_true,cN,BH,kP,p_,rl,fI,c_,km,ee,f,ne_eq,Xx,false_or]
    by_cases w:i<0
    .have:¬0<=i:=VW
     simp[w,Tm.node,this]
    .have C:0<=i:=VW
     by_cases y:k=1
     .subst y;cases q:s.qE<;>cases r:l.all Tm.ok<;>simp_all [Tm.node,jq]
     .by_cases q:i=0
      .subst q
       by_cases r:k=2\/k=6\/k=9
       .have D:jq k=true:=by simp[jq,r]
        by_cases F:s.err=0<;>cases G:l.all Tm.ok<;>simp_all [Tm.node]
       .have D:jq k=false:=by simp[jq,r]
        cases F:s.qE<;>cases G:l.all Tm.ok<;>simp_all [Tm.node]
      .simp[w,y,q,Tm.node]
   .have H:Tm.node k i s l.length=false:=by simp[Tm.node,f]
    simp only[H,ab5,pc,lL]
    by_cases o:1<=k/\k<14
    .simp[o,f]
    .simp[o]
def eZ(k:Int):Int:=if k=2 then 1 else 0
def kg(k:Int):0<=eZ k/\eZ k<=1:=by unfold eZ;split<;>omega
def mZ(t:Tm):kv t=some (eZ t.ail):=by
 unfold kv eZ;simp only[eN]
 split<;>rfl
mutual
def Tm.up(f b:Int):Tm->Tm
 |.mk k i s l=>.mk k (if k=1/\f<=i then i+b else i) s (Tm.Zo (f+eZ k) b l)
def Tm.Zo(f b:Int):List Tm->List Tm
 |[]=>[]|t::l=>t.up f b::Tm.Zo f b l
end
def Tm.Qe(f b:Int)(l:List Tm):Tm.Zo f b l=l.map (Tm.up f b):=by
 induction l with
 |nil=>rfl|cons t l ih=>simp[Tm.Zo,ih]
def Tm.kI(f b k i:Int)(s:Ty)(l:List Tm):(Tm.mk k i s l).up f b=.mk k (if k=1/\f<=i then i+b else i) s (l.map (Tm.up (f+eZ k) b)):=by rw[Tm.up,Tm.Qe]
mutual
def Tm.air(m:Int):Tm->Bool
 |.mk _ i _ l=>decide (i<=m)&&Tm.s9 m l
def Tm.s9(m:Int):List Tm->Bool
 |[]=>true|t::l=>t.air m&&Tm.s9 m l
end
def Tm.DF(m:Int)(l:List Tm):Tm.s9 m l=l.all (Tm.air m):=by
 induction l with
 |nil=>rfl|cons t l ih=>simp[Tm.s9,ih]
theorem Tm.ey(m k i:Int)(s:Ty)(l:List Tm):(Tm.mk k i s l).air m=(decide (i<=m)&&l.all (Tm.air m)):=by rw[Tm.air,Tm.DF]
mutual
def Tm.ait(a:Int):Tm->Nat
 |.mk k i _ l=>(if k=1/\i=a then 1 else 0)+Tm.xq (a+eZ k) l
def Tm.xq(a:Int):List Tm->Nat
 |[]=>0|t::l=>t.ait a+Tm.xq a l
end
def Tm.CI(a:Int)(l:List Tm):Tm.xq a l=db (Tm.ait a) l:=by
 induction l with
 |nil=>rfl|cons t l ih=>simp[Tm.xq,db,ih]
def Tm.fB(a k i:Int)(s:Ty)(l:List Tm):(Tm.mk k i s l).ait a=(if k=1/\i=a then 1 else 0)+db (Tm.ait (a+eZ k)) l:=by rw[Tm.ait,Tm.CI]
def Tm.gW(t:Tm):∀a,t.ait a<=t.ain:=by
 induction t using Tm.ind with
 |h k i s l ih=>
  intro a;rw[Tm.fB,Tm.cQ];have:=jB (f:=Tm.ait (a+eZ k)) (g:=Tm.ain) (l:=l) λx b=>ih x b _
  split<;>omega
def Tm.tV(n i:Int)(s t:Tm):Tm:=if i=n then s.up 0 n else if n<i then .mk 1 (i-1) (.mk 0 []) [] else t
mutual
def Tm.iI:Int->Tm->Tm->Tm
 |n,.mk k i ty l,s=>if k=1 then Tm.tV n i s (.mk k i ty l)else .mk k i ty (Tm.Ls (n+eZ k) l s)
def Tm.Ls:Int->List Tm->Tm->List Tm
 |_,[],_=>[]|n,t::l,s=>Tm.iI n t s::Tm.Ls n l s
end
def Tm.Kl(n:Int)(s:Tm)(l:List Tm):Tm.Ls n l s=l.map (λx=>Tm.iI n x s):=by
 induction l with
 |nil=>rfl|cons t l ih=>simp[Tm.Ls,ih]
def Tm.mY(n:Int)(s:Tm)(k i:Int)(ty:Ty)(l:List Tm):Tm.iI n (Tm.mk k i ty l) s=if k=1 then Tm.tV n i s (.mk k i ty l)else .mk k i ty (l.map (λx=>Tm.iI (n+eZ k) x s)):=by rw[Tm.iI,Tm.Kl]
theorem Tm.pV(t:Tm):∀f b,(t.up f b).ain=t.ain:=by
 induction t using Tm.ind with
 |h k i s l ih=>
  intro f b;rw[Tm.kI,Tm.cQ,Tm.cQ,pk];rw[qe λx a=>ih x a _ _]
theorem Tm.FJ(t:Tm):∀f b,(t.up f b).wt=t.wt:=by
 induction t using Tm.ind with
 |h k i s l ih=>
  intro f b;rw[Tm.kI,Tm.ef,Tm.ef,pk];rw[qe λx a=>ih x a _ _]
def vE{α β:Type}{p:β->Bool}{q:α->Bool}{g:α->β}{l:List α}(h:∀x∈l,p (g x)=q x):(l.map g).all p=l.all q:=by
 induction l with
 |nil=>rfl|cons x l ih=>simp only[CN,AX,h x aaL,ih λy hy=>h y (by simp[hy])]
def Tm.Pu{k i j:Int}{s:Ty}{n:Nat}(h:k=1/\0<=i/\0<=j\/i=j):Tm.node k i s n=Tm.node k j s n:=by
 rcases h with⟨rfl,a,b⟩|rfl
 .simp[Tm.node,a,b]
 .rfl
theorem Tm.I5(t:Tm):∀f b,0<=f->0<=b->(t.up f b).ok=t.ok:=by
 induction t using Tm.ind with
 |h k i s l ih=>
  intro f b d a;rw[Tm.kI,Tm.fX,Tm.fX,yA,vE λx c=>ih x c (f+eZ k) b (by have:=kg k;omega) a]
  congr 1
  apply Tm.Pu
  split
  .rename_i j;left;omega
  .right;rfl
def yU:∀(n:Nat) (t:Tm) (m:Int),t.ain<=n->t.ain<=1000000000->kE n t m=some (t.air m):=by
 intro n
 induction n with
 |zero=>intro t m h;have:=t.dr;omega
 |succ n ih=>
  intro t m h f;cases t with
  |mk k i s l=>
   rw[Tm.cQ] at h f;have q:=Tm.ek l
   have key:dF (λ(c:Int) (a:Tm) (_:Unit)=>cM (kE n a m) λb=>if b then some (dW.next ())else some (dW.ret false)) l 0 ()=if l.all (Tm.air m) then some (.inl ())else some (.inr false):=by
    refine p8 (Tm.air m) _ l 0 ?_;intro j x o;have:=dk Tm.ain o;rw[ih x m VW VW];rfl
   rw[kE];simp only[Tm.di,Tm.eY,c6,c8 (l:=l) VW,cY,key,fx,Tm.ey]
   by_cases d:m<i
   .have:¬i<=m:=VW
    simp[d,this]
   .have:i<=m:=VW
    cases r:l.all (Tm.air m)<;>simp[d,this]
def za:∀(n:Nat) (t:Tm) (f b:Int),t.ain<=n->t.ain<=1000000000->0<=f->f+t.ain<=10000000000->0<=b->b<=10000000000->t.air 1000000000000=true->pZ n t f b=some (t.up f b):=by
 intro n
 induction n with
 |zero=>intro t f b h;have:=t.dr;omega
 |succ n ih=>
  intro t f b h a B c u d hi;cases t with
  |mk k i s l=>
   rw[Tm.cQ] at h a c;rw[Tm.ey] at hi;simp only[fI,oc,jY] at hi;have C:=Tm.ek l;have D:=kg k;rw[pZ];simp only[Tm.di,Tm.eY,Tm.dq,Tm.dV,c6,c8 (l:=l) VW,cY];rw[gP (Tm.up (f+eZ k) b) l 0 [] acz]
   .rw[Tm.kI];simp only[cv,dh,od,uV,Tm.mk.injEq,and_true,N1]
    by_cases o:k=1/\f<=i
    .obtain⟨rfl,q⟩:=o;rw[dP VW VW];have w:dj 1 1=true:=rfl
     have y:og i f=true:=by simp[q]
     simp[w,y,q]
    .rw[cO o]
     have e:en (dj k 1) (og i f) false=false:=by
      rw[p_,Nb];simp only[ne_eq,fI,eN,gK];exact o
     rw[e];rfl
   .intro j x v r A;have:=dk Tm.ain r;rw[mZ];simp only[cv,Tm.dq];rw[dP VW VW,ih x (f+eZ k) b VW VW VW VW u d (hi.2 x r)];simp[dT (l:=v) (m:=[x.up (f+eZ k) b]) (by simpa using A)]
def y9:∀(n:Nat) (t:Tm) (a:Int),t.ain<=n->t.ain<=1000000000->0<=a->a+t.ain<=10000000000->mo n t a=some (t.ait a:Int):=by
 intro n
 induction n with
 |zero=>intro t a h;have:=t.dr;omega
 |succ n ih=>
  intro t a h c u d;cases t with
  |mk k i s l=>
   rw[Tm.cQ] at h c d;have w:=Tm.ek l;have A:=kg k;have o:db (Tm.ait (a+eZ k)) l<=db Tm.ain l:=jB λx _=>x.gW _;rw[mo];simp only[Tm.di,Tm.eY,Tm.dq,c6,c8 (l:=l) VW,cY]
   have q:en (en (dj k 1) (dj i a) false) (dJ .i64 0 1) 0=(((if k=1/\i=a then 1 else 0:Nat)):Int):=by
    by_cases f:k=1/\i=a
    .obtain⟨rfl,rfl⟩:=f;simp[dj,en,dJ,BW]
    .have e:en (dj k 1) (dj i a) false=false:=by
      rw[p_,Nb];simp only[ne_eq,fI,eN];exact f
     rw[e,cO f];rfl
   have key:=oC (ρ:=Int) (F:=λ(j:Int) (x:Tm) (v:Int)=>cM (kv (Tm.mk k i s l)) λb=>cM (mo n x (dJ .i64 a b)) λy=>some (dW.next (dJ .i64 v y)))
    (Tm.ait (a+eZ k)) l 0 (if k=1/\i=a then 1 else 0) (by split<;>omega) (by
    intro j x v r;have:=dk Tm.ain r;rw[mZ];simp only[cv,Tm.dq];rw[dP VW VW,ih x _ VW VW VW VW]
    rfl)
   rw[q,key];simp[Tm.fB]
def DJ:∀(n:Nat) (t:Tm) (a b:Int) (s:Tm),t.ain<=n->t.ain<=1000000000->0<=a->0<=b->a+b+t.ain<=5000000000->t.air 1000000000000=true->t.ok=true->s.ain<=1000000000->s.air 1000000000000=true->uz n t a b s=some (Tm.iI (a+b) t s):=by
 intro n
 induction n with
 |zero=>intro t a b s h;have:=t.dr;omega
 |succ n ih=>
  intro t a b s h r y C u hi c hs d;cases t with
  |mk k i ty l=>
   rw[Tm.cQ] at h r u;rw[Tm.ey] at hi;rw[Tm.fX] at c;simp only[fI,oc,jY] at hi c;have D:=Tm.ek l;have F:=kg k
   have A:0<=i:=by
    have:=c.1;simp only[Tm.node,fI,oc] at this;exact this.1.1.2
   rw[uz,Tm.mY];simp only[Tm.di,Tm.eY,Tm.dq,Tm.dV,c6,c8 (l:=l) VW,cY,eN];rw[dP VW VW]
   by_cases f:k=1
   .rw[cS f,cS f];unfold Tm.tV
    by_cases o:i=a+b
    .rw[cS o,cS o,za FU s 0 (a+b) (by rw[d_];exact hs) hs VW VW VW VW d];rfl
    .rw[cO o,cO o];simp only[fx]
     by_cases q:a+b<i
     .rw[cS q,cS q,ep VW VW];rfl
     .rw[cO q,cO q]
   .rw[cO f,cO f];rw[gP (λx=>Tm.iI (a+b+eZ k) x s) l 0 [] acz]
    .simp
    .intro j x v w B;have:=dk Tm.ain w;rw[mZ];simp only[cv,Tm.dq];rw[dP VW VW,ih x a (b+eZ k) s VW VW y VW VW (hi.2 x w) (c.2 x w) hs d];rw[show a+(b+eZ k)=a+b+eZ k by omega];simp[dT (l:=v) (m:=[Tm.iI (a+b+eZ k) x s]) (by simpa using B)]
def Tm.qL(s t:Tm):∀n,t.ok=true->(Tm.iI n t s).ain+t.ait n=t.ain+t.ait n*s.ain:=by
 induction t using Tm.ind with
 |h k i ty l ih=>
  intro n a;rw[Tm.fX] at a;simp only[fI,jY] at a;rw[Tm.mY,Tm.fB,Tm.cQ]
  by_cases d:k=1
  .subst d
   have o:l=[]:=by
    have:=a.1;simp only[Tm.node,fI,oc] at this;have h:=this.1.1.1;simp[gD] at h;exact h
   subst o;simp only[if_true,Tm.tV,db,HA,N1]
   by_cases f:i=n
   .simp[f,Tm.pV];omega
   .by_cases q:n<i<;>simp[f,q,Tm.cQ,db]
  .simp only[d,lL,false_and,tH];rw[Tm.cQ,pk]
   have:db (λx=>(Tm.iI (n+eZ k) x s).ain) l+db (Tm.ait (n+eZ k)) l=db Tm.ain l+db (Tm.ait (n+eZ k)) l*s.ain:=by
    have b:∀x∈l,(Tm.iI (n+eZ k) x s).ain+x.ait (n+eZ k)=x.ain+x.ait (n+eZ k)*s.ain:=λx c=>ih x c _ (a.2 x c);clear ih a
    induction l with
    |nil=>simp[db]|cons y l j=>
     have d:=b y aaL;have f:=j λx c=>b x (by simp[c]);simp only[db,AO];omega
   omega
def Tm.U2(s:Tm)(hs:s.ok=true)(t:Tm):∀n,0<=n->t.ok=true->(Tm.iI n t s).ok=true:=by
 induction t using Tm.ind with
 |h k i ty l ih=>
  intro n hn a;have b:=a;rw[Tm.fX] at a;simp only[fI,jY] at a;rw[Tm.mY]
  by_cases d:k=1
  .subst d;simp only[if_true,Tm.tV]
   by_cases c:i=n
   .simp only[c,if_true];rw[Tm.I5 s 0 n VW hn];exact hs
   .by_cases f:n<i
    .simp only[c,f,lL,if_true];rw[Tm.fX]
     have o:1<=i:=VW
     simp[Tm.node,gD,jq,o,Ty.qE,dj]
    .simp only[c,f,lL];exact b
  .simp only[d,lL];rw[Tm.fX,yA];simp only[fI,jY,nw];refine⟨a.1,?_⟩;rintro _ ⟨x,j,rfl⟩;exact ih x j _ (by have:=kg k;omega) (a.2 x j)
mutual
def Tm.fr:Tm->Int
 |.mk k i _ l=>if k=1 then i+1 else if k=2 then imax 0 (Tm.H6 0 l-1)else Tm.H6 0 l
def Tm.H6(m:Int):List Tm->Int
 |[]=>m|t::l=>Tm.H6 (imax m t.fr) l
end
theorem si(a b:Int):imax a b=max a b:=by unfold imax;omega
def Tm.Pz(l:List Tm):∀m,m<=Tm.H6 m l:=by
 induction l with
 |nil=>intro m;exact Int.le_refl _|cons t l ih=>intro m;rw[Tm.H6];have:=ih (imax m t.fr);rw[si] at*;omega
def Tm.XM{l:List Tm}{t:Tm}(h:t∈l):∀m,t.fr<=Tm.H6 m l:=by
 induction l with
 |nil=>cases h
 |cons u l ih=>
  intro m;rw[Tm.H6];rcases jr.1 h with rfl|h
  .have:=Tm.Pz l (imax m t.fr);rw[si] at*;omega
  .exact ih h _
def Tm.V4{M:Int}{l:List Tm}(h:∀t∈l,t.fr<=M):∀m,m<=M->Tm.H6 m l<=M:=by
 induction l with
 |nil=>intro m hm;exact hm|cons u l ih=>
  intro m hm;rw[Tm.H6];refine ih (λt a=>h t (by simp[a])) _ ?_;have:=h u aaL;rw[si];omega
def Tm.Vb(t:Tm):∀{M:Int},0<=M->t.ok=true->t.air M=true->0<=t.fr/\t.fr<=M+1:=by
 induction t using Tm.ind with
 |h k i s l ih=>
  intro M d a b;rw[Tm.fX] at a;rw[Tm.ey] at b;simp only[fI,jY,oc,Tm.node] at a b;have f:Tm.H6 0 l<=M+1:=Tm.V4 (λt c=>(ih t c d (a.2 t c) (b.2 t c)).2) 0 VW;have j:=Tm.Pz l 0;rw[Tm.fr]
  split
  .omega
  .split
   .rw[si];omega
   .omega
def map_id'{α:Type}{g:α->α}{l:List α}(h:∀x∈l,g x=x):l.map g=l:=by
 induction l with
 |nil=>rfl|cons x l ih=>simp only[CN,h x aaL,ih λy hy=>h y (by simp[hy])]
def Tm.kN{k i:Int}{s:Ty}{l:List Tm}(h:(Tm.mk k i s l).ok=true):(k=1->l=[])/\0<=i/\(k≠1->i=0)/\(∀t∈l,t.ok=true)/\(l.length:Int)=gD k:=by
 rw[Tm.fX] at h;simp only[fI,jY,oc,Tm.node,rl] at h;obtain⟨⟨⟨⟨a,b⟩,c⟩,j⟩,d⟩:=h;refine⟨?_,b,λf=>c.resolve_left f,d,a⟩;rintro rfl;have:(l.length:Int)=0:=a;exact z8 VW
def Tm.KS{k i:Int}{s:Ty}{l:List Tm}(a:k≠1){f:Int}(h:(Tm.mk k i s l).fr<=f)(c:0<=f):∀x∈l,x.fr<=f+eZ k:=by
 intro x b;have:=Tm.XM b 0;rw[Tm.fr,cO a] at h;unfold eZ
 split at h
 .rename_i a;rw[cS a];rw[si] at h;omega
 .rename_i a;rw[cO a];omega
def Tm.XW(t:Tm):∀f b,t.ok=true->0<=f->t.fr<=f->t.up f b=t:=by
 induction t using Tm.ind with
 |h k i s l ih=>
  intro f b d j h;obtain⟨o1,o2,o,n,_⟩:=Tm.kN d;rw[Tm.kI]
  by_cases a:k=1
  .have:=o1 a;subst this;rw[Tm.fr,cS a] at h;rw[cO VW];rfl
  .rw[cO (λh=>a h.1)]
   congr 1
   exact map_id' λx c=>ih x c _ _ (n x c) (by have:=kg k;omega) (Tm.KS a h j x c)
def Tm.xu(t:Tm):∀f,t.up f 0=t:=by
 induction t using Tm.ind with
 |h k i s l ih=>
  intro f;rw[Tm.kI,map_id' λx a=>ih x a _]
  congr 1
  split<;>omega
def Tm.U9(s t:Tm):∀n,t.ok=true->0<=n->t.fr<=n->Tm.iI n t s=t:=by
 induction t using Tm.ind with
 |h k i ty l ih=>
  intro n c hn h;obtain⟨o1,o2,f,d,_⟩:=Tm.kN c;rw[Tm.mY]
  by_cases a:k=1
  .rw[cS a];rw[Tm.fr,cS a] at h;unfold Tm.tV;rw[cO VW,cO VW]
  .rw[cO a]
   congr 1
   exact map_id' λx b=>ih x b _ (d x b) (by have:=kg k;omega) (Tm.KS a h hn x b)
def RR{α:Type}{g:α->Nat}{l:List α}(h:∀x∈l,g x=0):db g l=0:=by
 induction l with
 |nil=>rfl|cons x l ih=>simp[db,h x aaL,ih λy hy=>h y (by simp[hy])]
def Tm.PJ(t:Tm):∀n,t.ok=true->0<=n->t.fr<=n->t.ait n=0:=by
 induction t using Tm.ind with
 |h k i ty l ih=>
  intro n c hn h;obtain⟨o1,o2,f,d,_⟩:=Tm.kN c;rw[Tm.fB]
  by_cases a:k=1
  .have:=o1 a;subst this;rw[Tm.fr,cS a] at h;rw[cO VW];rfl
  .rw[cO (λh=>a h.1)];simp only[tH];exact RR λx b=>ih x b _ (d x b) (by have:=kg k;omega) (Tm.KS a h hn x b)
def Tm.kd:Option Tm->Int
 |some t=>t.ail|none=>0
def Tm.root:Tm->Bool
 |.mk k _ _ l=>(decide (k=3)&&decide (Tm.kd l[0]?=2))||(decide (k=6)&&(decide (Tm.kd l[2]?=4)||decide (Tm.kd l[2]?=5)))||(decide (k=9)&&(decide (Tm.kd l[2]?=7)||decide (Tm.kd l[2]?=8)))||
  ((decide (k=11)||decide (k=12))&&decide (Tm.kd l[0]?=10))
mutual
def Tm.nf:Tm->Bool
 |.mk k i s l=>!(Tm.mk k i s l).root&&Tm.nfL l
def Tm.nfL:List Tm->Bool
 |[]=>true|t::l=>t.nf&&Tm.nfL l
end
def Tm.abN(l:List Tm):Tm.nfL l=l.all Tm.nf:=by
 induction l with
 |nil=>rfl|cons t l ih=>simp[Tm.nfL,ih]
def Tm.Q0(k i:Int)(s:Ty)(l:List Tm):(Tm.mk k i s l).nf=(!(Tm.mk k i s l).root&&l.all Tm.nf):=by rw[Tm.nf,Tm.abN]
def lh(f:Tm):List Tm->Tm
 |[]=>f|a::l=>lh (.mk 3 0 (.mk 0 []) [f,a]) l
def Tm.eT:Tm->Tm
 |.mk k i s l=>
  if k=3 then(match l with|[.mk _ _ _ [b],a]=>Tm.iI 0 b a|_=>.mk k i s l)
  else if k=11 then(match l with|[.mk _ _ _ (a::_)]=>a|_=>.mk k i s l)
  else if k=12 then(match l with|[.mk _ _ _ [_,b]]=>b|_=>.mk k i s l)
  else(match l with
   |[b,st,.mk _ _ _ []]=>b|[b,st,.mk _ _ _ [n]]=>lh st [n,.mk k i s [b,st,n]]|[b,st,.mk _ _ _ [h,t]]=>lh st [h,t,.mk k i s [b,st,t]]|_=>.mk k i s l)
mutual
inductive NR (nh:List HC):Nat->Tm->Prop
 |mk {p:Nat} {x:dw} {l:List Tm}:HC.c0 nh p=some x->tP nh x.aim l->x.size=((Tm.mk x.ail x.aio x.oB l).ain:Int)->x.free=(Tm.mk x.ail x.aio x.oB l).fr->(x.normal=true->(Tm.mk x.ail x.aio x.oB l).nf=true)->NR nh p (.mk x.ail x.aio x.oB l)
inductive tP (nh:List HC):List (Option Nat)->List Tm->Prop
 |nil:tP nh [] []|cons {p:Nat} {t:Tm} {ps:List (Option Nat)} {ts:List Tm}:NR nh p t->tP nh ps ts->tP nh (some p::ps) (t::ts)
end
def NR.inv{nh:List HC}{p:Nat}{t:Tm}(h:NR nh p t):∃x,HC.c0 nh p=some x/\x.ail=t.ail/\x.aio=t.aio/\x.oB=t.cT/\tP nh x.aim t.aim/\x.size=(t.ain:Int)/\x.free=t.fr/\(x.normal=true->t.nf=true):=by
 cases h with
 |mk a b c d f=>exact⟨_,a,rfl,rfl,rfl,b,c,d,f⟩
def NR.of{nh:List HC}{p:Nat}{t:Tm}{x:dw}(f:HC.c0 nh p=some x)(a:x.ail=t.ail)(b:x.aio=t.aio)(c:x.oB=t.cT)(d:tP nh x.aim t.aim)(h:x.size=(t.ain:Int))(j:x.free=t.fr)
  (n:x.normal=true->t.nf=true):NR nh p t:=by
 cases t with
 |mk k i s l=>
  simp only[Tm.dq,Tm.eY,Tm.dV,Tm.di] at a b c d;subst a;subst b;subst c;exact .mk f d h j n
def tP.len{nh:List HC}:∀{ps:List (Option Nat)} {ts:List Tm},tP nh ps ts->ps.length=ts.length
 |_,_,.nil=>rfl|_,_,.cons _ h=>by simp[h.len]
def tP.append{nh:List HC}:∀{ps a:List (Option Nat)} {ts us:List Tm},tP nh ps ts->tP nh a us->tP nh (ps++a) (ts++us)
 |_,_,_,_,.nil,h=>h|_,_,_,_,.cons b c,h=>.cons b (c.append h)
structure NE (nh nh':List HC):Prop where
 node:∀p t,NR nh p t->NR nh' p t
 state:∀p st,HC.dQ nh p=some st->HC.dQ nh' p=some st
 get:∀p x,HC.c0 nh p=some x->∃b,HC.c0 nh' p=some {x with normal:=b}
theorem NE.refl(nh:List HC):NE nh nh:=⟨λ_ _ h=>h,λ_ _ h=>h,λ_ x h=>⟨x.normal,h⟩⟩
def NE.trans{a b c:List HC}(d:NE a b)(f:NE b c):NE a c:=⟨λp t h=>f.node p t (d.node p t h),λp st h=>f.state p st (d.state p st h),λp x h=>by
 obtain⟨l,i⟩:=d.get p x h;obtain⟨j,k⟩:=f.get p _ i
 exact⟨j,k⟩⟩
def NE.list{nh a:List HC}(h:NE nh a):∀{ps:List (Option Nat)} {ts:List Tm},tP nh ps ts->tP a ps ts
 |_,_,.nil=>.nil|_,_,.cons b c=>.cons (h.node _ _ b) (h.list c)
def E9{nh X:List HC}{p:Nat}{x:dw}(h:HC.c0 nh p=some x):HC.c0 (nh++X) p=some x:=by
 have:=HC.c9 h;have a:=(mI.1 this).1;unfold HC.c0;rw[tz a,this]
def Iz{nh X:List HC}{p:Nat}{x:eA}(h:HC.dQ nh p=some x):HC.dQ (nh++X) p=some x:=by
 have:=HC.fF h;have a:=(mI.1 this).1;unfold HC.dQ;rw[tz a,this]
mutual
def NR.app{nh X:List HC}:∀{p:Nat} {t:Tm},NR nh p t->NR (nh++X) p t
 |_,_,.mk a b c d f=>.mk (E9 a) b.app c d f
def tP.app{nh X:List HC}:∀{ps:List (Option Nat)} {ts:List Tm},tP nh ps ts->tP (nh++X) ps ts
 |_,_,.nil=>.nil|_,_,.cons a b=>.cons a.app b.app
end
def NE.kp{nh a:List HC}(h:Kp nh a):NE nh a:=by
 obtain⟨X,rfl⟩:=h;exact⟨λ_ _ h=>h.app,λ_ _ h=>Iz h,λp x h=>⟨x.normal,E9 h⟩⟩
def Hj{a0 a1:Int}{a2:Ty}{a3:List (Option Nat)}{nh:List HC}{F:Int->Option Nat->List HC->Option (dW (List HC) ((Option Nat)×List HC))}
  (hF:∀j q v x y,HC.c0 v nh.length=some x->HC.c0 v q=some y->HC.c0 (js v nh.length (HC.dz (dw.mk x.ail x.aio x.oB x.aim (dJ .i64 x.size y.size) x.free x.normal))) q=some y->F j (some q) v=some (.next (js (js v nh.length (HC.dz (dw.mk x.ail x.aio x.oB x.aim (dJ .i64 x.size y.size) x.free x.normal))) nh.length (HC.dz (dw.mk x.ail x.aio x.oB x.aim (dJ .i64 x.size y.size) (imax x.free y.free) x.normal))))):∀(ps:List (Option Nat)) (ts:List Tm) (i:Nat) (s:Nat) (f:Int),tP nh ps ts->s+db Tm.ain ts<=1000000000->dF F ps i (nh++[HC.dz (dw.mk a0 a1 a2 a3 s f false)])=some (.inl (nh++[HC.dz (dw.mk a0 a1 a2 a3 ((s+db Tm.ain ts:Nat):Int) (Tm.H6 f ts) false)]))
 |_,_,i,s,f,.nil,_=>by simp[db,Tm.H6]|_,_,i,s,f,.cons (p:=p) (t:=t) c d,h=>by
  rw[db] at h;obtain⟨y,b,o,r,u,w,k,l,A⟩:=c.inv;have n:p<nh.length:=(mI.1 (HC.c9 b)).1
  have a:dJ .i64 (s:Int) (t.ain:Int)=((s+t.ain:Nat):Int):=by rw[dP VW VW];omega
  rw[dB,hF _ p _ _ y BX (E9 b) (by rw[wF];exact E9 b)];simp only[wF,cv,dR,k,l,a];rw[Hj hF _ _ (i+1) (s+t.ain) (imax f t.fr) d VW];simp only[db,Tm.H6,Vc]
def rb{k i:Int}{s:Ty}{ps:List (Option Nat)}{ts:List Tm}{nh:List HC}(h:tP nh ps ts)(hn:db Tm.ain ts<=100000000)(hi:0<=i/\i<=1000000000000)(A:∀t∈ts,0<=t.fr/\t.fr<=1000000000000):∃l,jd k i s ps nh=some (some nh.length,l)/\Kp nh l/\NR l nh.length (.mk k i s ts):=by
 have hlen:ps.length<=100000000:=by
  rw[h.len];exact zS (Tm.ek ts) hn
 have D:0<=Tm.H6 0 ts/\Tm.H6 0 ts<=1000000000000:=⟨Tm.Pz ts 0,Tm.V4 (λt G=>(A t G).2) 0 VW⟩;unfold jd;rw[c8 VW];simp only[cY,c6]
 have B:=Hj (a0:=k) (a1:=i) (a2:=s) (a3:=ps) (nh:=nh) (F:=λC o b=>
   cM (HC.c0 b (List.length nh)) λa=>
   cM (o) λd=>
   cM (HC.c0 b d) λc=>
   cM (HC.c0 (js b (List.length nh) (HC.dz (dw.mk a.ail a.aio a.oB a.aim (dJ .i64 a.size c.size) a.free a.normal))) d) λr=>
   some (.next (js (js b (List.length nh) (HC.dz (dw.mk a.ail a.aio a.oB a.aim (dJ .i64 a.size c.size) a.free a.normal))) (List.length nh) (HC.dz (dw.mk a.ail a.aio a.oB a.aim (dJ .i64 a.size c.size) (imax a.free r.free) a.normal)))))
  (by intro j q v x y u w H;simp only[u,w,H,cv]) ps ts 0 1 0 h VW
 have I:((1:Nat):Int)=1:=rfl;rw[I] at B;rw[B];simp only[cv,dh,BX,wF]
 have n:((1+db Tm.ain ts:Nat):Int)=((Tm.mk k i s ts).ain:Int):=by rw[Tm.cQ]
 have fin:∀f:Int,f=(Tm.mk k i s ts).fr->NR (nh++[HC.dz (dw.mk k i s ps ((1+db Tm.ain ts:Nat):Int) f false)]) nh.length (.mk k i s ts):=by
  intro f A;exact NR.of BX rfl rfl rfl h.app n A (by intro h;cases h)
 by_cases u:k=1
 .subst u;refine⟨_,by rw[cS aaB],⟨_,rfl⟩,fin _ ?_⟩;rw[Tm.fr,cS rfl,dP VW VW]
 .rw[cO (by simpa using u)]
  by_cases w:k=2
  .subst w;refine⟨_,by rw[cS aaB],⟨_,rfl⟩,fin _ ?_⟩;rw[Tm.fr,cO aaB,cS rfl,ep VW VW]
  .refine⟨_,by rw[cO (by simpa using w)],⟨_,rfl⟩,fin _ ?_⟩;rw[Tm.fr,cO u,cO w]
def Uv{nh:List HC}{p:Nat}{x:dw}(h:HC.c0 nh p=some x):gS (some p) nh=some (eZ x.ail):=by
 unfold gS eZ;simp only[cv,h,eN]
 split<;>rfl
def NE.below{nh a:List HC}{p:Nat}{x:dw}(he:NE nh a)(h:HC.c0 nh p=some x):gS (some p) a=some (eZ x.ail):=by
 obtain⟨b,e⟩:=he.get p x h;rw[Uv e]
def AB{F:Int->Option Nat->List (Option Nat)×List HC->Option (dW (List (Option Nat)×List HC) ((Option Nat)×List HC))}(g:Tm->Tm)(nh0:List HC):∀(ts:List Tm)
  (_:∀t∈ts,∀p nh j v,Kp nh0 nh->NR nh p t->v.length+1<=1000000000->∃q a,F j (some p) (v,nh)=some (.next (v++[some q],a))/\Kp nh a/\NR a q (g t))
  (ps:List (Option Nat)) (i:Nat) (nh:List HC) (v:List (Option Nat)) (us:List Tm),Kp nh0 nh->tP nh ps ts->tP nh v us->v.length+ts.length<=1000000000->∃c a,dF F ps i (v,nh)=some (.inl (c,a))/\Kp nh a/\tP a c (us++ts.map g)
 |[],_,_,i,nh,v,us,_,.nil,d,_=>⟨v,nh,rfl,Kp.refl _,by simpa using d⟩|t::ts,hF,_,i,nh,v,us,k,.cons (p:=p) (ps:=ps) l n,d,o=>by
  simp only[kY] at o;obtain⟨q,f,r,h,s⟩:=hF t aaL p nh i v k l VW;have b:=NE.kp h;obtain⟨c,a,f1,f2,f3⟩:=AB g nh0 ts (λt u=>hF t (by simp[u])) ps (i+1) f (v++[some q]) (us++[g t]) (k.trans h) (b.list n) ((b.list d).append (.cons s .nil)) acz;refine⟨c,a,?_,h.trans f2,by simpa using f3⟩;rw[dB,r];simp only[cv,dR];exact f1
structure Sm (M:Int) (t:Tm):Prop where
 ok:t.ok=true
 air:t.air M=true
 ain:t.ain<=1000000
def Sm.arg{M k i:Int}{s:Ty}{l:List Tm}(h:Sm M (.mk k i s l)):∀t∈l,Sm M t:=by
 intro t a;have b:=h.air;have c:=h.ain;rw[Tm.ey] at b;simp only[fI,jY] at b;rw[Tm.cQ] at c;exact⟨(Tm.kN h.ok).2.2.2.1 t a,b.2 t a,by have:=dk Tm.ain a;omega⟩
def Sm.idx{M k i:Int}{s:Ty}{l:List Tm}(h:Sm M (.mk k i s l)):0<=i/\i<=M:=by
 have a:=h.air;rw[Tm.ey] at a;simp only[fI,oc] at a;exact⟨(Tm.kN h.ok).2.1,a.1⟩
theorem Sm.fr{M:Int}{t:Tm}(h:Sm M t)(a:0<=M):0<=t.fr/\t.fr<=M+1:=Tm.Vb t a h.ok h.air
theorem Sm.mono{M N:Int}{t:Tm}(h:Sm M t)(hm:M<=N):Sm N t:=⟨h.ok,by
 have:∀t:Tm,t.air M=true->t.air N=true:=by
  intro t
  induction t using Tm.ind with
  |h k i s l ih=>
   rw[Tm.ey,Tm.ey];simp only[fI,jY,oc]
   exactλ⟨c,b⟩=>⟨VW,λx a=>ih x a (b x a)⟩
 exact this t h.air,h.ain⟩
def LF{M b:Int}(c:0<=b)(t:Tm):∀f,t.air M=true->(t.up f b).air (M+b)=true:=by
 induction t using Tm.ind with
 |h k i s l ih=>
  intro f h;rw[Tm.ey] at h;simp only[fI,jY,oc] at h;rw[Tm.kI,Tm.ey];simp only[fI,jY,oc];refine⟨by split<;>omega,?_⟩;intro x a;obtain⟨y,hy,rfl⟩:=nw.1 a;exact ih y hy _ (h.2 y hy)
def Sm.up{M f b:Int}{t:Tm}(h:Sm M t)(c:0<=f)(a:0<=b):Sm (M+b) (t.up f b):=
 ⟨by rw[Tm.I5 t f b c a];exact h.ok,LF a t f h.air,by rw[Tm.pV];exact h.ain⟩
def Zp{M:Int}(Z:0<=M/\M<=500000000000):∀(n:Nat) (t:Tm) (p:Nat) (nh:List HC) (f b:Int),t.ain<=n->NR nh p t->Sm M t->0<=f->f+t.ain<=500000000000->0<=b->b<=400000000000->∃V a,iQ n (some p) f b nh=some (some V,a)/\Kp nh a/\NR a V (t.up f b):=by
 intro n
 induction n with
 |zero=>intro t p nh f b h;have:=t.dr;omega
 |succ n ih=>
  intro t p nh f b hn C hs hf D W G;obtain⟨x,H,u,I,J,K,e6,e7,e8⟩:=C.inv;have ad:=hs.fr Z.1;rw[iQ];simp only[c6,cv,H,e7,E7]
  by_cases A:t.fr<=f
  .rw[cS A];exact⟨p,nh,rfl,Kp.refl _,by rw[Tm.XW t f b hs.ok hf A];exact C⟩
  .rw[cO A]
   by_cases X:b=0
   .subst X;exact⟨p,nh,aaL,Kp.refl _,by rw[Tm.xu];exact C⟩
   .rw[cO (by simpa using X)];cases t with
    |mk k i s l=>
     simp only[Tm.dq,Tm.eY,Tm.dV,Tm.di] at u I J K;have Y:=hs.idx;obtain⟨o1,o2,o3,o4,o5⟩:=Tm.kN hs.ok
     by_cases L:k=1
     .subst L;have hl:=o1 rfl;subst hl;rw[cS (by rw[u];rfl)]
      have N:f<=i:=by rw[Tm.fr,cS rfl] at A;omega
      obtain⟨a,g1,g2,g3⟩:=rb (k:=1) (i:=i+b) (s:=s) (ps:=[]) (ts:=[]) (nh:=nh) .nil (by simp[db]) VW aaL;refine⟨nh.length,a,?_,g2,?_⟩
      .rw[u,I,J,dP VW VW,g1];rfl
      .rw[Tm.kI,cS ⟨rfl,N⟩];exact g3
     .rw[cO (by rw[u];simpa using L)]
      have ae:1+db Tm.ain l<=n+1:=by rw[Tm.cQ] at hn;exact hn
      have hlen:=Tm.ek l;have O:=hs.ain;rw[Tm.cQ] at O D;have af:x.aim.length=l.length:=K.len;rw[c8 VW];simp only[cY];have ah:=kg k
      obtain⟨v',a,g1,g2,g3⟩:=AB (F:=λj P=>rI λc d=>
        cM (gS (some p) d) λw=>
        cW (iQ n P (dJ .i64 f w) b d) λo r=>
        e_ (eI c [o])<|some (.next ((fk c [o]),r))) (Tm.up (f+eZ k) b) nh l (by
        intro t B q Q j v R hq hv;have S:=hs.arg t B;have hm:=dk Tm.ain B;obtain⟨q',T,a1,a2,a3⟩:=ih t q Q (f+eZ k) b VW hq S VW VW W G;refine⟨q',T,?_,a2,a3⟩;simp only[kO,(NE.kp R).below H,cv,u];rw[dP VW VW,a1];simp only[cN];rw[dT (by simpa using hv)]
        rfl) x.aim 0 nh [] [] (Kp.refl _) K .nil acz
      rw[g1];simp only[cv,dh,kO];obtain⟨x2,c1⟩:=(NE.kp g2).get p x H;unfold fC;simp only[cv,c1]
      obtain⟨U,d1,d2,d3⟩:=rb (k:=k) (i:=i) (s:=s) (ps:=v') (ts:=l.map (Tm.up (f+eZ k) b)) (nh:=a) (by simpa using g3) (by
       rw[pk,qe λx _=>Tm.pV x _ _];omega) VW (by
       intro t B;obtain⟨y,hy,rfl⟩:=nw.1 B;have:=((hs.arg y hy).up (f:=f+eZ k) (b:=b) VW W).fr VW
       omega)
      refine⟨a.length,U,?_,g2.trans d2,?_⟩
      .rw[u,I,J,d1];rfl
      .rw[Tm.kI,cO (λh=>L h.1)];exact d3
def count_eq{M:Int}(S:0<=M/\M<=500000000000)(nh:List HC):∀(n:Nat) (t:Tm) (p:Nat) (a:Int),t.ain<=n->NR nh p t->Sm M t->0<=a->a+t.ain<=500000000000->ka n (some p) a nh=some (t.ait a:Int):=by
 intro n
 induction n with
 |zero=>intro t p a h;have:=t.dr;omega
 |succ n ih=>
  intro t p a hn H hs I v;obtain⟨x,D,q,F,J,w,T,K,U⟩:=H.inv;rw[ka];simp only[cv,D,K,E7]
  by_cases y:t.fr<=a
  .rw[cS y,Tm.PJ t a hs.ok I y];rfl
  .rw[cO y];cases t with
   |mk k i s l=>
    simp only[Tm.dq,Tm.eY,Tm.dV,Tm.di] at q F J w;obtain⟨o1,o2,V,W,X⟩:=Tm.kN hs.ok
    by_cases A:k=1
    .subst A;have L:=o1 rfl;subst L;rw[cS (by rw[q];rfl),Tm.fB,F];simp only[eN,db]
     by_cases r:i=a
     .rw[cS r,cS ⟨trivial,r⟩];rfl
     .rw[cO r,cO (λh=>r h.2)];rfl
    .rw[cO (by rw[q];simpa using A)];have B:=hs.ain;rw[Tm.cQ] at B v hn;have hlen:=Tm.ek l;have N:x.aim.length=l.length:=w.len;rw[c8 VW];simp only[cY,c6];have O:=kg k
     have loop:∀(ts:List Tm) (ps:List (Option Nat)) (i c:Nat),(∀t∈ts,t∈l)->tP nh ps ts->c+db Tm.ain ts<=1000000000->dF (λ(G:Int) (b:Option Nat)=>(λ(d:Int)=>
        cM (ka n b (a+eZ k) nh) λf=>
        some ((.next (dJ .i64 d f)):dW Int Int))) ps i (c:Int)=some (.inl ((c+db (Tm.ait (a+eZ k)) ts:Nat):Int)):=by
      intro ts
      induction ts with
      |nil=>intro ps i c _ h _;cases h;rfl
      |cons t ts C=>
       intro ps i c hm h P;cases h with
       |cons q1 q2=>
        rw[db] at P;have j:=hm t aaL;have Q:=dk Tm.ain j;have R:=Tm.gW t (a+eZ k);rw[dB];rw[ih t _ _ VW q1 (hs.arg t j) VW VW];simp only[cv];rw[dP VW VW];simp only[dR];have:=C _ (i+1) (c+t.ait (a+eZ k)) (λu hu=>hm u (by simp[hu])) q2 VW;rw[show((c+t.ait (a+eZ k):Nat):Int)=(c:Int)+(t.ait (a+eZ k):Int) by omega] at this;rw[this];simp only[db,Vc]
     have:=loop l x.aim 0 0 (λt h=>h) w VW;rw[show((0:Nat):Int)=0 from rfl] at this;have o:dJ .i64 a (eZ k)=a+eZ k:=dP VW VW;simp only[Uv D,cv,q,o];rw[this];simp only[cv,dh,tH];rw[Tm.fB,cO (λh=>A h.1),tH]
def Jo{M N B:Int}(D:M<=B)(s:Tm)(hs:s.air N=true)(t:Tm):∀n,0<=n->N+n+t.ain<=B->t.air M=true->t.ok=true->(Tm.iI n t s).air B=true:=by
 induction t using Tm.ind with
 |h k i ty l ih=>
  intro n hn j d v;have o:=d;rw[Tm.ey] at d;simp only[fI,jY,oc] at d;obtain⟨o1,o2,F,w,G⟩:=Tm.kN v;rw[Tm.mY]
  have c:∀(u:Tm) {a b:Int},a<=b->u.air a=true->u.air b=true:=by
   intro u
   induction u using Tm.ind with
   |h k i s l ih=>
    intro a b q;rw[Tm.ey,Tm.ey];simp only[fI,jY,oc]
    exactλ⟨H,A⟩=>⟨VW,λx f=>ih x f q (A x f)⟩
  have I:1<=(Tm.mk k i ty l).ain:=Tm.dr _
  by_cases r:k=1
  .rw[cS r];unfold Tm.tV
   split
   .exact c _ VW (LF hn s 0 hs)
   .split
    .rw[Tm.ey];simp;omega
    .exact c _ VW o
  .rw[cO r,Tm.ey];simp only[fI,jY,oc];refine⟨VW,?_⟩;intro x f;obtain⟨y,hy,rfl⟩:=nw.1 f;have C:=kg k;have hm:=dk Tm.ain hy;rw[Tm.cQ] at j;exact ih y hy (n+eZ k) VW VW (d.2 y hy) (w y hy)
def put_eq{M N:Int}(hM:0<=M/\M<=100000000000)(hN:0<=N/\N<=100000000000)(s:Tm)(d:Sm N s):∀(n:Nat) (t:Tm) (p q:Nat) (nh:List HC) (a:Int),t.ain<=n->NR nh p t->NR nh q s->Sm M t->0<=a->a+t.ain<=100000000000->t.ain+t.ait a*s.ain<=100000000->∃K b,jF n (some p) a (some q) nh=some (some K,b)/\Kp nh b/\NR b K (Tm.iI a t s):=by
 intro n
 induction n with
 |zero=>intro t p q nh a h;have:=t.dr;omega
 |succ n ih=>
  intro t p q nh a hn hr hq hs ha O D;obtain⟨x,P,C,Q,R,S,e6,e7,e8⟩:=hr.inv;rw[jF];simp only[cv,P,e7,E7]
  by_cases A:t.fr<=a
  .rw[cS A];exact⟨p,nh,rfl,Kp.refl _,by rw[Tm.U9 s t a hs.ok ha A];exact hr⟩
  .rw[cO A];cases t with
   |mk k i ty l=>
    simp only[Tm.dq,Tm.eY,Tm.dV,Tm.di] at C Q R S;have ae:=hs.idx;obtain⟨o1,o2,o3,T,o5⟩:=Tm.kN hs.ok
    by_cases L:k=1
    .subst L;have hl:=o1 rfl;subst hl
     have af:a<=i:=by rw[Tm.fr,cS rfl] at A;omega
     rw[cS (by rw[C];rfl),Q];simp only[eN];rw[Tm.mY,cS rfl];unfold Tm.tV
     by_cases f:i=a
     .rw[cS f,cS f];have G:=d.ain;obtain⟨K,b,g1,g2,g3⟩:=Zp (M:=N) VW FU s q nh 0 a (by rw[d_];omega) hq d VW VW ha VW;exact⟨K,b,by rw[g1];rfl,g2,g3⟩
     .rw[cO f,cO f,cS VW];obtain⟨b,g1,g2,g3⟩:=rb (k:=1) (i:=i-1) (s:=ty) (ps:=[]) (ts:=[]) (nh:=nh) .nil (by simp[db]) VW aaL;refine⟨nh.length,b,?_,g2,?_⟩
      .rw[C,R,ep VW VW,g1];rfl
      .have hz:ty=.mk 0 []:=by
        have:=hs.ok;rw[Tm.fX] at this;simp only[fI,Tm.node] at this
        have h4:ty.qE=true:=by simpa[jq] using this.1.2
        exact(Ty.lj ty).1 h4
       rw[<-hz];exact g3
    .rw[cO (by rw[C];simpa using L)];have G:=hs.ain;rw[Tm.cQ] at G O hn;have hlen:=Tm.ek l;have ah:x.aim.length=l.length:=S.len;rw[c8 VW];simp only[cY,c6];have ai:=kg k;rw[Tm.fB,cO (λh=>L h.1),tH,Tm.cQ] at D
     have U:∀t∈l,t.ain+t.ait (a+eZ k)*s.ain<=100000000:=by
      intro t c;have A:=dk Tm.ain c;have f:=dk (Tm.ait (a+eZ k)) c;have h3:=GM s.ain f;omega
     obtain⟨v',b,g1,g2,g3⟩:=AB (F:=λj V=>rI λo u=>
       cM (gS (some p) u) λH=>
       cW (jF n V (dJ .i64 a H) (some q) u) λw B=>
       e_ (eI o [w])<|some (.next ((fk o [w]),B))) (λt=>Tm.iI (a+eZ k) t s) nh l (by
       intro t c r W j v I X hv;have Y:=hs.arg t c;have hm:=dk Tm.ain c;obtain⟨q',Z,a1,a2,a3⟩:=ih t r q W (a+eZ k) VW X ((NE.kp I).node _ _ hq) Y VW VW (U t c);refine⟨q',Z,?_,a2,a3⟩;simp only[kO,(NE.kp I).below P,cv,C];rw[dP VW VW,a1];simp only[cN];rw[dT (by simpa using hv)]
       rfl) x.aim 0 nh [] [] (Kp.refl _) S .nil acz
     rw[g1];simp only[cv,dh,kO];obtain⟨x2,c1⟩:=(NE.kp g2).get p x P;unfold fC;simp only[cv,c1]
     have J:∀t∈l,(Tm.iI (a+eZ k) t s).ain<=t.ain+t.ait (a+eZ k)*s.ain:=by
      intro t c;have:=Tm.qL s t (a+eZ k) (T t c);omega
     obtain⟨ad,d1,d2,d3⟩:=rb (k:=k) (i:=i) (s:=ty) (ps:=v') (ts:=l.map (λt=>Tm.iI (a+eZ k) t s)) (nh:=b) (by simpa using g3) (by
      rw[pk];have A:=jB J
      have f:∀l:List Tm,db (λt=>t.ain+t.ait (a+eZ k)*s.ain) l=db Tm.ain l+db (Tm.ait (a+eZ k)) l*s.ain:=by
       intro l
       induction l with
       |nil=>simp[db]|cons t l ih=>simp only[db,ih,AO];omega
      rw[f] at A
      omega) VW (by
      intro t c;obtain⟨y,hy,rfl⟩:=nw.1 c;have hm:=dk Tm.ain hy;have:=Tm.Vb (Tm.iI (a+eZ k) y s) (M:=M+N+(a+eZ k)+y.ain) VW (Tm.U2 s d.ok y _ VW (T y hy)) (Jo (M:=M) VW s d.air y _ VW VW (hs.arg y hy).air (T y hy))
      omega)
     refine⟨b.length,ad,?_,g2.trans d2,?_⟩
     .rw[C,Q,R,d1];rfl
     .rw[Tm.mY,cO L];exact d3
def tw(a b:Int):dj a b=decide (a=b):=by grind[dj]
def aa7{α:Type}{l:List α}(h:l.length=1):∃a,l=[a]:=by
 match l,h with|[a],_=>exact⟨a,rfl⟩
def aaF{α:Type}{l:List α}(h:l.length=2):∃a b,l=[a,b]:=by
 match l,h with|[a,b],_=>exact⟨a,b,rfl⟩
def afw{α:Type}{l:List α}(h:l.length=3):∃a b c,l=[a,b,c]:=by
 match l,h with|[a,b,c],_=>exact⟨a,b,c,rfl⟩
def tP.inv1{nh:List HC}{ps:List (Option Nat)}{a:Tm}(h:tP nh ps [a]):∃p,ps=[some p]/\NR nh p a:=by
 cases h with|cons b c=>cases c;exact⟨_,rfl,b⟩
def tP.inv2{nh:List HC}{ps:List (Option Nat)}{a b:Tm}(h:tP nh ps [a,b]):∃p q,ps=[some p,some q]/\NR nh p a/\NR nh q b:=by
 cases h with|cons c d=>obtain⟨q,rfl,f⟩:=d.inv1;exact⟨_,q,rfl,c,f⟩
def tP.M9{nh:List HC}{ps:List (Option Nat)}{a b c:Tm}(h:tP nh ps [a,b,c]):∃p q r,ps=[some p,some q,some r]/\NR nh p a/\NR nh q b/\NR nh r c:=by
 cases h with|cons d f=>obtain⟨q,r,rfl,i,j⟩:=f.inv2;exact⟨_,q,r,rfl,d,i,j⟩
def tP.ahq{nh:List HC}{ps:List (Option Nat)}(h:tP nh ps []):ps=[]:=by cases h;rfl
def Tm.vO{k i:Int}{s:Ty}{l:List Tm}(h:(Tm.mk k i s l).ok=true):(l.length:Int)=gD k:=(Tm.kN h).2.2.2.2
def Tm.ok3{i:Int}{s:Ty}{l:List Tm}(h:(Tm.mk 3 i s l).ok=true):∃a b,l=[a,b]:=aaF (by have:=Tm.vO h;have e:gD 3=2:=rfl;omega)
def Tm.ok6{i:Int}{s:Ty}{l:List Tm}(h:(Tm.mk 6 i s l).ok=true):∃a b c,l=[a,b,c]:=afw (by have:=Tm.vO h;have e:gD 6=3:=rfl;omega)
def Tm.ok9{i:Int}{s:Ty}{l:List Tm}(h:(Tm.mk 9 i s l).ok=true):∃a b c,l=[a,b,c]:=afw (by have:=Tm.vO h;have e:gD 9=3:=rfl;omega)
def Tm.ok2{i:Int}{s:Ty}{l:List Tm}(h:(Tm.mk 2 i s l).ok=true):∃a,l=[a]:=aa7 (by have:=Tm.vO h;have e:gD 2=1:=rfl;omega)
def Tm.ab8{k i:Int}{s:Ty}{l:List Tm}(b:k=11\/k=12)(h:(Tm.mk k i s l).ok=true):∃a,l=[a]:=aa7 (by
 have:=Tm.vO h;rcases b with rfl|rfl
 .have e:gD 11=1:=rfl;omega
 .have e:gD 12=1:=rfl;omega)
def Tm.ahj{i:Int}{s:Ty}{l:List Tm}(h:(Tm.mk 10 i s l).ok=true):∃a b,l=[a,b]:=aaF (by have:=Tm.vO h;have e:gD 10=2:=rfl;omega)
def Tm.ok0{k i:Int}{s:Ty}{l:List Tm}(a:k=4\/k=7)(h:(Tm.mk k i s l).ok=true):l=[]:=z8 (by
 have:=Tm.vO h;rcases a with rfl|rfl
 .have e:gD 4=0:=rfl;omega
 .have e:gD 7=0:=rfl;omega)
def Tm.ok5{i:Int}{s:Ty}{l:List Tm}(h:(Tm.mk 5 i s l).ok=true):∃a,l=[a]:=aa7 (by have:=Tm.vO h;have e:gD 5=1:=rfl;omega)
def Tm.ok8{i:Int}{s:Ty}{l:List Tm}(h:(Tm.mk 8 i s l).ok=true):∃a b,l=[a,b]:=aaF (by have:=Tm.vO h;have e:gD 8=2:=rfl;omega)
def Tm.Dt{k i:Int}{s:Ty}{l:List Tm}(h:(Tm.mk k i s l).ok=true):∀t∈l,t.ok=true:=(Tm.kN h).2.2.2.1
inductive Tm.Rd:Tm->Prop
 |app {i s i' s' b a}:Tm.Rd (.mk 3 i s [.mk 2 i' s' [b],a])|zero {k ko i s i' s' b st}:(k=6/\ko=4\/k=9/\ko=7)->Tm.Rd (.mk k i s [b,st,.mk ko i' s' []])|succ {i s i' s' b st n}:Tm.Rd (.mk 6 i s [b,st,.mk 5 i' s' [n]])|cons {i s i' s' b st h t}:Tm.Rd (.mk 9 i s [b,st,.mk 8 i' s' [h,t]])|proj {k i s i' s' a b}:(k=11\/k=12)->Tm.Rd (.mk k i s [.mk 10 i' s' [a,b]])
def Tm.Jx{t:Tm}(d:t.ok=true)(h:t.root=true):t.Rd:=by
 cases t with
 |mk k i s l=>
  unfold Tm.root at h;simp only[rl,fI,oc] at h;rcases h with((⟨rfl,h⟩|⟨rfl,h⟩)|⟨rfl,h⟩)|⟨f,h⟩
  .obtain⟨a,b,rfl⟩:=Tm.ok3 d;cases a with
   |mk k' j o q=>
    have f:k'=2:=by simpa[Tm.kd] using h
    subst f;obtain⟨v,rfl⟩:=Tm.ok2 (Tm.Dt d (.mk 2 j o q) aaL);exact .app
  .obtain⟨a,b,c,rfl⟩:=Tm.ok6 d;cases c with
   |mk k' j o q=>
    have f:k'=4\/k'=5:=by simpa[Tm.kd] using h
    have r:=Tm.Dt d (.mk k' j o q) aaL;rcases f with rfl|rfl
    .rw[Tm.ok0 (.inl rfl) r];exact .zero (.inl ⟨rfl,rfl⟩)
    .obtain⟨n,rfl⟩:=Tm.ok5 r;exact .succ
  .obtain⟨a,b,c,rfl⟩:=Tm.ok9 d;cases c with
   |mk k' j o q=>
    have f:k'=7\/k'=8:=by simpa[Tm.kd] using h
    have r:=Tm.Dt d (.mk k' j o q) aaL;rcases f with rfl|rfl
    .rw[Tm.ok0 (.inr rfl) r];exact .zero (.inr ⟨rfl,rfl⟩)
    .obtain⟨n,m,rfl⟩:=Tm.ok8 r;exact .cons
  .obtain⟨a,rfl⟩:=Tm.ab8 f d;cases a with
   |mk k' j o q=>
    have u:k'=10:=by simpa[Tm.kd] using h
    subst u;obtain⟨a,b,rfl⟩:=Tm.ahj (Tm.Dt d (.mk 10 j o q) aaL);exact .proj f
def Nk{nh:List HC}{p:Nat}{t:Tm}(B:NR nh p t)(o:t.ok=true):ll (some p) nh=some t.root:=by
 obtain⟨x,C,r,F,G,h,H,I,J⟩:=B.inv;unfold ll;simp only[cv,C,c6];cases t with
 |mk k i s l=>
  simp only[Tm.dq,Tm.di] at r h;rw[r];unfold Tm.root
  by_cases u:k=3
  .subst u;obtain⟨a,b,rfl⟩:=Tm.ok3 o;obtain⟨pa,pb,d,j,v⟩:=h.inv2;obtain⟨y,f1,f2,_⟩:=j.inv;rw[cS aaB,d];simp[dA,f1,f2,Tm.kd,tw]
  .rw[cO (by simpa using u)]
   by_cases w:k=6
   .subst w;obtain⟨a,b,c,rfl⟩:=Tm.ok6 o;obtain⟨pa,pb,D,d,j,v,q⟩:=h.M9;obtain⟨y,f1,f2,_⟩:=q.inv;rw[cS aaB,d];simp only[hQ,lQ,iq,cv,f1,f2,Tm.kd,eN]
    by_cases n:c.ail=4
    .simp[n]
    .simp[n,tw]<;>exact Pt.2 Iff.rfl
   .rw[cO (by simpa using w)]
    by_cases A:k=9
    .subst A;obtain⟨a,b,c,rfl⟩:=Tm.ok9 o;obtain⟨pa,pb,D,d,j,v,q⟩:=h.M9;obtain⟨y,f1,f2,_⟩:=q.inv;rw[cS aaB,d];simp only[hQ,lQ,iq,cv,f1,f2,Tm.kd,eN]
     by_cases n:c.ail=7
     .simp[n]
     .simp[n,tw]<;>exact Pt.2 Iff.rfl
    .rw[cO (by simpa using A)]
     by_cases f:k=11\/k=12
     .obtain⟨a,rfl⟩:=Tm.ab8 f o;obtain⟨pa,d,j⟩:=h.inv1;obtain⟨y,f1,f2,_⟩:=j.inv;rw[cS (by rcases f with rfl|rfl<;>rfl),d];simp only[dA,iq,cv,f1,f2,Tm.kd];rcases f with rfl|rfl<;>simp[tw]<;>exact Pt.2 Iff.rfl
     .grind[kP,eN]
theorem ns:∀(l:List Tm) (f:Tm),(lh f l).ain=f.ain+db Tm.ain l+l.length
 |[],f=>by simp[lh,db]|a::l,f=>by
  rw[lh,ns l,Tm.cQ]
  grind[db]
def Lq{M:Int}(F:0<=M/\M<=500000000000):∀(ts:List Tm) (ps:List (Option Nat)) (nh:List HC) (pf:Nat) (f:Tm),tP nh ps ts->NR nh pf f->(∀t∈ts,0<=t.fr/\t.fr<=M)->0<=f.fr/\f.fr<=M->f.ain+db Tm.ain ts+ts.length<=10000000->∃b a,qA (some pf) ps nh=some (some b,a)/\Kp nh a/\NR a b (lh f ts):=by
 intro ts ps nh pf f h j c l hn;have hlen:ps.length=ts.length:=h.len;unfold qA;rw[c8 VW];simp only[cY,c6]
 have loop:∀(ts:List Tm) (ps:List (Option Nat)) (i:Nat) (nh:List HC) (pf:Nat) (f:Tm),tP nh ps ts->NR nh pf f->(∀t∈ts,0<=t.fr/\t.fr<=M)->0<=f.fr/\f.fr<=M->f.ain+db Tm.ain ts+ts.length<=10000000->∃b a,dF (λ(x:Int) (r:Option Nat)=>(rI λ(v171:Option Nat) (n:List HC)=>
    cW (jd 3 0 (Ty.mk 0 []) [v171,r] n) λo d=>some ((.next (o,d)):dW ((Option Nat)×List HC) ((Option Nat)×List HC)))) ps i (some pf,nh)=some (.inl (some b,a))/\Kp nh a/\NR a b (lh f ts):=by
  intro ts
  induction ts with
  |nil=>
   intro ps i nh pf f h j _ _ _;cases h;exact⟨pf,nh,rfl,Kp.refl _,j⟩
  |cons t ts ih=>
   intro ps i nh pf f h j c l hn;cases h with
   |cons y A=>
    rename_i p ps;simp only[db,kY] at hn;have G:=c t aaL
    obtain⟨v,a1,a2,a3⟩:=rb (k:=3) (i:=0) (s:=.mk 0 []) (ps:=[some pf,some p]) (ts:=[f,t]) (nh:=nh) (.cons j (.cons y .nil)) (by simp[db];omega) VW (by
     intro u hu;simp only[jr,vW,ta] at hu
     rcases hu with rfl|rfl<;>omega)
    have w:=NE.kp a2
    have q:0<=(Tm.mk 3 0 (.mk 0 []) [f,t]).fr/\(Tm.mk 3 0 (.mk 0 []) [f,t]).fr<=M:=by grind[Tm.fr,Tm.H6,si]
    obtain⟨b,a,B,C,D⟩:=ih ps (i+1) v nh.length (.mk 3 0 (.mk 0 []) [f,t]) (w.list A) a3 (λu hu=>c u (by simp[hu])) q (by
     rw[Tm.cQ];simp only[db];omega)
    refine⟨b,a,?_,a2.trans C,D⟩;rw[dB];simp only[kO,a1,cN,cv,dR];exact B
 obtain⟨b,a,a1,a2,a3⟩:=loop ts ps 0 nh pf f h j c l hn;rw[a1];exact⟨b,a,rfl,a2,a3⟩
def OF{α:Type}(a:α):dg [a] (ea .i64 (dp [a]) 1)=some a:=by
 have:ea .i64 (dp [a]) 1=0:=by simp only[ee,kY,wC];decide
 rw[this];rfl
def PL{α:Type}(a b:α):dg [a,b] (ea .i64 (dp [a,b]) 1)=some b:=by
 have:ea .i64 (dp [a,b]) 1=1:=by simp only[ee,kY,wC];decide
 rw[this];rfl
def DN{M:Int}(hM:0<=M/\M<=90000000000){nh:List HC}{p:Nat}{t:Tm}(hr:NR nh p t)(hs:Sm M t)(hn:t.ain<=8192)(K:t.root=true):∃W q,gU (some p) nh=some (some W,q)/\Kp nh q/\NR q W t.eT:=by
 have Z:=Tm.Jx hs.ok K;obtain⟨x,e1,l,X,Y,C,e6,e7,e8⟩:=hr.inv;unfold gU;simp only[cv,e1];have f:∀u:Tm,Sm M u->0<=u.fr/\u.fr<=M+1:=λu hu=>hu.fr hM.1;cases Z with
 |app=>
  rename_i i s D F b a;simp only[Tm.dq,Tm.di] at l C;obtain⟨pf,pa,G,hf,ha⟩:=C.inv2;obtain⟨y,f1,f2,f3,f4,f5,_⟩:=hf.inv;simp only[Tm.dq,Tm.di] at f2 f5;obtain⟨pb,H,I⟩:=f5.inv1;have ad:=hs.arg (.mk 2 D F [b]) aaL;have ae:=hs.arg a aaL;have r:=ad.arg b aaL;rw[Tm.cQ] at hn;simp only[db,Tm.cQ] at hn;have an:=Tm.gW b 0;have hmul:b.ait 0*a.ain<=8192*8192:=Gf VW VW;obtain⟨W,q,g1,g2,g3⟩:=put_eq (M:=M) (N:=M) VW VW a ae FU b pb pa nh 0 (by rw[d_];omega) I ha r VW VW VW;refine⟨W,q,?_,g2,g3⟩;rw[l,cS aaB,G];simp only[dA,fg,iq,lQ,cv,f1,H,g1,cN]
 |proj hk=>
  rename_i k i s D F a b;simp only[Tm.dq,Tm.di] at l C;obtain⟨pf,G,hf⟩:=C.inv1;obtain⟨y,f1,f2,f3,f4,f5,_⟩:=hf.inv;simp only[Tm.dq,Tm.di] at f2 f5;obtain⟨pa,pb,H,ha,I⟩:=f5.inv2;rcases hk with rfl|rfl
  .refine⟨pa,nh,?_,Kp.refl _,by simpa[Tm.eT] using ha⟩;rw[l,cO aaB,cS aaB,G];simp only[dA,iq,cv,f1,H]
  .refine⟨pb,nh,?_,Kp.refl _,by simpa[Tm.eT] using I⟩;rw[l,cO aaB,cO aaB,cS aaB,G];simp only[dA,fg,iq,lQ,cv,f1,H]
 |zero hk=>
  rename_i k ko i s D F b st;simp only[Tm.dq,Tm.di] at l C;obtain⟨pb,ps,po,G,I,o,S⟩:=C.M9;obtain⟨y,f1,f2,f3,f4,f5,_⟩:=S.inv;simp only[Tm.dq,Tm.di] at f2 f5;have T:=f5.ahq;refine⟨pb,nh,?_,Kp.refl _,?_⟩
  .have j:k≠3/\k≠11/\k≠12:=VW
   rw[l,cO (by simpa using j.1),cO (by simpa using j.2.1),cO (by simpa using j.2.2),G];simp only[dA,fg,hQ,iq,lQ,cv,f1,T];rfl
  .have:(Tm.mk k i s [b,st,.mk ko D F []]).eT=b:=by
    have j:k≠3/\k≠11/\k≠12:=VW
    simp[Tm.eT,j.1,j.2.1,j.2.2]
   rw[this];exact I
 |succ=>
  rename_i i s D F b st n;simp only[Tm.dq,Tm.di,Tm.eY,Tm.dV] at l X Y C;obtain⟨pb,ps,po,G,I,o,S⟩:=C.M9;obtain⟨y,f1,f2,f3,f4,f5,_⟩:=S.inv;simp only[Tm.dq,Tm.di] at f2 f5;obtain⟨U,v,w⟩:=f5.inv1;have r:=hs.arg b aaL;have L:=hs.arg st aaL;have J:=hs.arg (.mk 5 D F [n]) aaL;have O:=J.arg n aaL;rw[Tm.cQ] at hn;simp only[db,Tm.cQ] at hn;have V:=hs.idx;have b1:=f b r;have b2:=f st L;have b3:=f n O
  obtain⟨P,a1,a2,a3⟩:=rb (k:=6) (i:=i) (s:=s) (ps:=[some pb,some ps,some U]) (ts:=[b,st,n]) (nh:=nh) (.cons I (.cons o (.cons w .nil))) (by simp[db];omega) VW (by
   intro u hu;simp only[jr,vW,ta] at hu
   rcases hu with rfl|rfl|rfl<;>omega)
  have d:=NE.kp a2;obtain⟨c,fc⟩:=d.get _ _ f1;obtain⟨p2,Q,d1,d2,d3⟩:=Lq (M:=M+1) VW [n] [some U] P ps st (.cons (d.node _ _ w) .nil) (d.node _ _ o) (by intro u hu;simp only[jr,vW,ta] at hu;subst hu;omega) VW (by simp[db];omega)
  have A:0<=(Tm.mk 6 i s [b,st,n]).fr/\(Tm.mk 6 i s [b,st,n]).fr<=M+1:=by
   rw[Tm.fr,cO aaB,cO aaB];simp only[Tm.H6,si];omega
  have B:0<=(lh st [n]).fr/\(lh st [n]).fr<=M+1:=by
   simp only[lh];rw[Tm.fr,cO aaB,cO aaB];simp only[Tm.H6,si];omega
  have af:(Tm.mk 6 i s [b,st,n]).ain<=10000:=by rw[Tm.cQ];simp only[db];omega
  have ah:(lh st [n]).ain<=10000:=by rw[ns];simp only[db,kY,wC];omega
  obtain⟨p3,R,g1,g2,g3⟩:=Lq (M:=M+1) VW [.mk 6 i s [b,st,n]] [some nh.length] Q p2 (lh st [n]) (.cons ((NE.kp d2).node _ _ a3) .nil) d3 (by intro u hu;simp only[jr,vW,ta] at hu;subst hu;exact A) B (by simp only[db,kY,wC];omega);refine⟨p3,R,?_,(a2.trans d2).trans g2,?_⟩
  .rw[l,cO aaB,cO aaB,cO aaB,G];simp only[dA,fg,hQ,iq,lQ,cv,f1,v];rw[cO (by simp only[ee,kY,wC];decide),OF];unfold fC;simp only[cv,e1,l,X,Y,a1,cN,fc,v,d1,g1]
  .have:(Tm.mk 6 i s [b,st,.mk 5 D F [n]]).eT=lh (lh st [n]) [.mk 6 i s [b,st,n]]:=by simp[Tm.eT,lh]
   rw[this];exact g3
 |cons=>
  rename_i i s D F b st h n;simp only[Tm.dq,Tm.di,Tm.eY,Tm.dV] at l X Y C;obtain⟨pb,ps,po,G,I,o,S⟩:=C.M9;obtain⟨y,f1,f2,f3,f4,f5,_⟩:=S.inv;simp only[Tm.dq,Tm.di] at f2 f5;obtain⟨ph,U,v,ai,w⟩:=f5.inv2;have r:=hs.arg b aaL;have L:=hs.arg st aaL;have J:=hs.arg (.mk 8 D F [h,n]) aaL;have O:=J.arg n aaL;have ak:=J.arg h aaL;rw[Tm.cQ] at hn;simp only[db,Tm.cQ] at hn;have V:=hs.idx;have b1:=f b r;have b2:=f st L;have b3:=f n O;have b4:=f h ak
  obtain⟨P,a1,a2,a3⟩:=rb (k:=9) (i:=i) (s:=s) (ps:=[some pb,some ps,some U]) (ts:=[b,st,n]) (nh:=nh) (.cons I (.cons o (.cons w .nil))) (by simp[db];omega) VW (by
   intro u hu;simp only[jr,vW,ta] at hu
   rcases hu with rfl|rfl|rfl<;>omega)
  have d:=NE.kp a2;obtain⟨c,fc⟩:=d.get _ _ f1;obtain⟨p2,Q,d1,d2,d3⟩:=Lq (M:=M+1) VW [h,n] [some ph,some U] P ps st (.cons (d.node _ _ ai) (.cons (d.node _ _ w) .nil)) (d.node _ _ o) (by intro u hu;simp only[jr,vW,ta] at hu;rcases hu with rfl|rfl<;>omega) VW (by simp[db];omega)
  have A:0<=(Tm.mk 9 i s [b,st,n]).fr/\(Tm.mk 9 i s [b,st,n]).fr<=M+1:=by
   rw[Tm.fr,cO aaB,cO aaB];simp only[Tm.H6,si];omega
  have B:0<=(lh st [h,n]).fr/\(lh st [h,n]).fr<=M+1:=by
   simp only[lh];rw[Tm.fr,cO aaB,cO aaB];simp only[Tm.H6];rw[Tm.fr,cO aaB,cO aaB];simp only[Tm.H6,si];omega
  have af:(Tm.mk 9 i s [b,st,n]).ain<=10000:=by rw[Tm.cQ];simp only[db];omega
  have ah:(lh st [h,n]).ain<=10000:=by rw[ns];simp only[db,kY,wC];omega
  obtain⟨p3,R,g1,g2,g3⟩:=Lq (M:=M+1) VW [.mk 9 i s [b,st,n]] [some nh.length] Q p2 (lh st [h,n]) (.cons ((NE.kp d2).node _ _ a3) .nil) d3 (by intro u hu;simp only[jr,vW,ta] at hu;subst hu;exact A) B (by simp only[db,kY,wC];omega);refine⟨p3,R,?_,(a2.trans d2).trans g2,?_⟩
  .rw[l,cO aaB,cO aaB,cO aaB,G];simp only[dA,fg,hQ,iq,lQ,cv,f1,v];rw[cO (by simp only[ee,kY,wC];decide),PL];unfold fC;simp only[cv,e1,l,X,Y,a1,cN,fc,v,d1,g1]
  .have:(Tm.mk 9 i s [b,st,.mk 8 D F [h,n]]).eT=lh (lh st [h,n]) [.mk 9 i s [b,st,n]]:=by simp[Tm.eT,lh]
   rw[this];exact g3
def Es:∀(n:Nat) (t:Ty),t.ain<=n->t.ain<=1000000000->kj n t=some t:=by
 intro n
 induction n with
 |zero=>intro t h;have:=t.dr;omega
 |succ n ih=>
  intro t h a;cases t with
  |mk k l=>
   rw[Ty.cQ] at h a;have d:=Ty.ek l;rw[kj];simp only[Ty.di,Ty.dq,c6,c8 (l:=l) VW,cY];rw[gP id l 0 [] acz]
   .simp
   .intro j x v b c;have:=dk Ty.ain b;rw[ih x VW VW];simp[dT (l:=v) (m:=[x]) (by simpa using c)]
def nV{t:Ty}(h:t.ain<=1000000000):kj FU t=some t:=Es FU t (by rw[d_];exact h) h
def Ty.vx{k i:Int}{s:Ty}{n:Nat}(h:Tm.node k i s n=true):s.ain<=64:=by
 unfold Tm.node at h;simp only[fI] at h;have a:=h.2
 by_cases b:jq k=true
 .rw[cS b] at a;simp only[oc] at a;unfold Ty.err at a
  split at a
  .split at a
   .omega
   .omega
  .omega
 .rw[cO b] at a;rw[(Ty.lj s).1 a,Ty.cQ];simp[db]
def Y_{M:Int}(H:0<=M/\M<=500000000000):∀(n:Nat) (t:Tm) (nh:List HC),t.ain<=n->Sm M t->∃p a,qu n t nh=some (some p,a)/\Kp nh a/\NR a p t:=by
 intro n
 induction n with
 |zero=>intro t nh h;have:=t.dr;omega
 |succ n ih=>
  intro t nh h hs;cases t with
  |mk k i s l=>
   have r:=hs.ain;have F:=hs.idx;rw[Tm.cQ] at h r;have hlen:=Tm.ek l;rw[qu];simp only[Tm.di,Tm.dq,Tm.eY,Tm.dV,c6,c8 (l:=l) VW,cY]
   have loop:∀(ts:List Tm) (i:Nat) (nh:List HC) (v:List (Option Nat)) (us:List Tm),(∀t∈ts,t∈l)->tP nh v us->v.length+ts.length<=1000000->∃f a,dF (λ(G:Int) (j:Tm)=>(rI λ(b:(List (Option Nat))) (o:List HC)=>
      cW (qu n j o) λc d=>
      e_ (eI b [c])<|some ((.next ((fk b [c]),d)):dW ((List (Option Nat))×List HC) ((Option Nat)×List HC)))) ts i (v,nh)=some (.inl (f,a))/\Kp nh a/\tP a f (us++ts):=by
    intro ts
    induction ts with
    |nil=>intro i nh v us _ w _;exact⟨v,nh,rfl,Kp.refl _,by simpa using w⟩|cons t ts x=>
     intro i nh v us hm w I;simp only[kY] at I;have q:=hm t aaL;have J:=dk Tm.ain q;obtain⟨p,y,a1,a2,a3⟩:=ih t nh VW (hs.arg t q);obtain⟨f,a,A,B,C⟩:=x (i+1) y (v++[some p]) (us++[t]) (λu hu=>hm u (by simp[hu])) (((NE.kp a2).list w).append (.cons a3 .nil)) acz;refine⟨f,a,?_,a2.trans B,by simpa using C⟩;rw[dB];simp only[kO,a1,cN];rw[dT acz];simp only[cY,fu,cv,dR];exact A
   obtain⟨f,a,a1,a2,a3⟩:=loop l 0 nh [] [] (λt h=>h) .nil acz;rw[a1];simp only[cv,dh,kO]
   obtain⟨D,A,B,C⟩:=rb (k:=k) (i:=i) (s:=s) (ps:=f) (ts:=l) (nh:=a) (by simpa using a3) VW VW (by
    intro t K;have:=(hs.arg t K).fr H.1
    omega)
   exact⟨a.length,D,by rw[A];rfl,a2.trans B,C⟩
def Qr{M:Int}(nh:List HC):∀(n:Nat) (t:Tm) (p:Nat),t.ain<=n->Sm M t->NR nh p t->h8 n (some p) nh=some t:=by
 intro n
 induction n with
 |zero=>intro t p h;have:=t.dr;omega
 |succ n ih=>
  intro t p h hs B;obtain⟨x,C,r,w,y,j,I,J,K⟩:=B.inv;cases t with
  |mk k i s l=>
   simp only[Tm.dq,Tm.di,Tm.eY,Tm.dV] at r w y j;have o:=hs.ain;rw[Tm.cQ] at h o;have hlen:=Tm.ek l;have D:x.aim.length=l.length:=j.len;have c:=hs.ok;rw[Tm.fX,fI] at c;have F:=Ty.vx c.1;rw[h8];simp only[cv,C,r,w,y,c6,c8 (l:=x.aim) VW,cY];rw[nV VW];simp only[cv]
   have loop:∀(ts:List Tm) (ps:List (Option Nat)) (i:Nat) (v:List Tm),(∀t∈ts,t∈l)->tP nh ps ts->v.length+ts.length<=1000000->dF (λ(A:Int) (d:Option Nat)=>(λ(a:List Tm)=>
      cM (h8 n d nh) λb=>
      e_ (eI a [b])<|some ((.next (fk a [b])):dW (List Tm) Tm))) ps i v=some (.inl (v++ts)):=by
    intro ts
    induction ts with
    |nil=>intro ps i v _ h _;cases h;simp
    |cons t ts q=>
     intro ps i v hm h G;simp only[kY] at G;have f:=hm t aaL;have H:=dk Tm.ain f;cases h with
     |cons q1 q2=>
      rw[dB,ih t _ VW (hs.arg t f) q1];simp only[cv];rw[dT acz];simp only[cY,cv,dR];rw[q _ (i+1) (fk v [t]) (λu hu=>hm u (by simp[hu])) q2 (by rw[DT];simp;omega)];simp
   rw[loop l x.aim 0 [] (λt h=>h) j acz];simp
mutual
def NR.det{nh:List HC}:∀{p:Nat} {t u:Tm},NR nh p t->NR nh p u->t=u
 |_,_,_,.mk (x:=x) a b _ _ _,.mk (x:=y) g1 g2 _ _ _=>by
  rw[a] at g1;obtain rfl:=fQ g1;rw[tP.det b g2]
def tP.det{nh:List HC}:∀{ps:List (Option Nat)} {ts us:List Tm},tP nh ps ts->tP nh ps us->ts=us
 |_,_,_,.nil,.nil=>rfl|_,_,_,.cons a b,.cons g1 g2=>by rw[NR.det a g1,tP.det b g2]
end
def NE.flag{nh:List HC}{p:Nat}{t:Tm}{x:dw}(C:NR nh p t)(A:HC.c0 nh p=some x)(o:t.nf=true):NE nh (js nh p (HC.dz {x with normal:=true})):=by
 have B:=HC.c9 A;have r:=(mI.1 B).1
 have f:HC.c0 (js nh p (HC.dz {x with normal:=true})) p=some {x with normal:=true}:=by
  unfold HC.c0 js;simp[r]
 have a:∀q,q≠p->(js nh p (HC.dz {x with normal:=true}))[q]?=nh[q]?:=by
  intro q c;unfold js;rw[J0 (λh=>c h.symm)]
 have d:∀q y,HC.c0 nh q=some y->∃b,HC.c0 (js nh p (HC.dz {x with normal:=true})) q=some {y with normal:=b}/\(b=true->y.normal=true\/q=p):=by
  intro q y hy
  by_cases c:q=p
  .subst c;rw[A] at hy;obtain rfl:=fQ hy;exact⟨true,f,λ_=>.inr rfl⟩
  .refine⟨y.normal,?_,λh=>.inl h⟩;have:=a q c;unfold HC.c0 at hy|-;rw[this];exact hy
 have key:∀n,(∀q u,u.ain<=n->NR nh q u->NR (js nh p (HC.dz {x with normal:=true})) q u):=by
  intro n
  induction n with
  |zero=>intro q u h;have:=u.dr;omega
  |succ n ih=>
   intro q u hu c;obtain⟨y,D,F,G,H,I,J,K,L⟩:=c.inv;obtain⟨b,f1,f2⟩:=d q y D
   have j:∀(ts:List Tm) (ps:List (Option Nat)),(∀t∈ts,t.ain<=n)->tP nh ps ts->tP (js nh p (HC.dz {x with normal:=true})) ps ts:=by
    intro ts
    induction ts with
    |nil=>intro ps _ h;cases h;exact .nil
    |cons t ts v=>
     intro ps hm h;cases h with
     |cons g1 g2=>exact .cons (ih _ _ (hm t aaL) g1) (v _ (λu hu=>hm u (by simp[hu])) g2)
   refine NR.of f1 F G H (j _ _ ?_ I) J K ?_
   .intro t M;cases u with
    |mk k i s l=>
     rw[Tm.cQ] at hu;have:=dk Tm.ain M;simp only[Tm.di] at this;omega
   .intro N;rcases f2 N with h|h
    .exact L h
    .subst h;rw[<-NR.det C c];exact o
 refine⟨λq u h=>key _ q u (gO _) h,?_,λq y h=>?_⟩
 .intro q st c
  have w:q≠p:=by
   rintro rfl;have:=HC.fF c;rw[B] at this;cases this
  unfold HC.dQ at c|-;rw[a q w];exact c
 .obtain⟨b,O,_⟩:=d q y h;exact⟨b,O⟩
mutual
def Tm.JM(room:Int):Tm->Option (Option Tm)
 |.mk k i s l=>if(Tm.mk k i s l).root then(if((Tm.mk k i s l).eT.ain:Int)-((Tm.mk k i s l).ain:Int)>room then none else some (some (Tm.mk k i s l).eT))
  else match Tm.rD room l with
   |none=>none|some none=>some none|some (some a)=>some (some (.mk k i s a))
def Tm.rD(room:Int):List Tm->Option (Option (List Tm))
 |[]=>some none|t::l=>match t.JM room with
  |none=>none|some (some a)=>some (some (a::l))|some none=>match Tm.rD room l with
   |none=>none|some none=>some none|some (some b)=>some (some (t::b))
end
def KD:∀(l:List Tm) (f:Tm),f.ok=true->(∀t∈l,t.ok=true)->(lh f l).ok=true
 |[],f,h,_=>h|a::l,f,h,b=>by
  rw[lh];refine KD l _ ?_ λt d=>b t (by simp[d]);rw[Tm.fX];simp only[fI,jY];refine⟨rfl,?_⟩;intro x c;simp only[jr,vW,ta] at c;rcases c with rfl|rfl
  .exact h
  .exact b _ aaL
def AN{M:Int}(b:0<=M):∀(l:List Tm) (f:Tm),f.air M=true->(∀t∈l,t.air M=true)->(lh f l).air M=true
 |[],f,h,_=>h|a::l,f,h,c=>by
  rw[lh];refine AN b l _ ?_ λt i=>c t (by simp[i]);rw[Tm.ey];simp only[fI,jY,oc];refine⟨b,?_⟩;intro x d;simp only[jr,vW,ta] at d;rcases d with rfl|rfl
  .exact h
  .exact c _ aaL
def Tm.Kb{k i:Int}{s:Ty}{l m:List Tm}(h:(Tm.mk k i s l).ok=true)(a:m.length=l.length)(hm:∀t∈m,t.ok=true):(Tm.mk k i s m).ok=true:=by
 rw[Tm.fX] at h|-;simp only[fI,jY] at h|-;rw[a];exact⟨h.1,hm⟩
def Tm.Az{M k i:Int}{s:Ty}{l m:List Tm}(h:(Tm.mk k i s l).air M=true)(hm:∀t∈m,t.air M=true):(Tm.mk k i s m).air M=true:=by
 rw[Tm.ey] at h|-;simp only[fI,jY,oc] at h|-;exact⟨h.1,hm⟩
def VY{M:Int}(G:0<=M){t:Tm}(hs:Sm M t)(hn:t.ain<=8192)(D:t.root=true):t.eT.ok=true/\t.eT.air (M+8192)=true:=by
 have y:=Tm.Jx hs.ok D;have up:∀u,Sm M u->u.air (M+8192)=true:=λu hu=>(hu.mono VW).air;cases y with
 |app=>
  rename_i i s d f b a;have A:=hs.arg (.mk 2 d f [b]) aaL;have v:=hs.arg a aaL;have o:=A.arg b aaL;rw[Tm.cQ] at hn;simp only[db,Tm.cQ] at hn
  have e:(Tm.mk 3 i s [.mk 2 d f [b],a]).eT=Tm.iI 0 b a:=by simp[Tm.eT]
  rw[e];exact⟨Tm.U2 a v.ok b 0 VW o.ok,Jo (M:=M) (N:=M) VW a v.air b 0 VW VW o.air o.ok⟩
 |proj B=>
  rename_i k i s d f a b;have w:=hs.arg (.mk 10 d f [a,b]) aaL;rcases B with rfl|rfl
  .have:=w.arg a aaL;simpa[Tm.eT] using And.intro this.ok (up _ this)
  .have:=w.arg b aaL;simpa[Tm.eT] using And.intro this.ok (up _ this)
 |zero B=>
  rename_i k F i s d f b st
  have q:k≠3/\k≠11/\k≠12:=VW
  have:(Tm.mk k i s [b,st,.mk F d f []]).eT=b:=by simp[Tm.eT,q.1,q.2.1,q.2.2]
  rw[this];have:=hs.arg b aaL;exact⟨this.ok,up _ this⟩
 |succ=>
  rename_i i s d f b st n;have x:=hs.arg b aaL;have j:=hs.arg st aaL;have l:=(hs.arg (.mk 5 d f [n]) aaL).arg n aaL
  have e:(Tm.mk 6 i s [b,st,.mk 5 d f [n]]).eT=lh st [n,.mk 6 i s [b,st,n]]:=by simp[Tm.eT,lh]
  rw[e];have r:(Tm.mk 6 i s [b,st,n]).ok=true:=Tm.Kb hs.ok rfl (by intro t c;simp only[jr,vW,ta] at c;rcases c with rfl|rfl|rfl;all_goals first|exact x.ok|exact j.ok|exact l.ok);have hle:(Tm.mk 6 i s [b,st,n]).air (M+8192)=true:=Tm.Az (hs.mono VW).air (by intro t c;simp only[jr,vW,ta] at c;rcases c with rfl|rfl|rfl;all_goals first|exact up _ x|exact up _ j|exact up _ l);refine⟨KD _ _ j.ok ?_,AN VW _ _ (up _ j) ?_⟩<;>
  .intro t c;simp only[jr,vW,ta] at c;rcases c with rfl|rfl
   .first|exact l.ok|exact up _ l
   .first|exact r|exact hle
 |cons=>
  rename_i i s d f b st h n;have x:=hs.arg b aaL;have j:=hs.arg st aaL;have l:=(hs.arg (.mk 8 d f [h,n]) aaL).arg n aaL;have C:=(hs.arg (.mk 8 d f [h,n]) aaL).arg h aaL
  have e:(Tm.mk 9 i s [b,st,.mk 8 d f [h,n]]).eT=lh st [h,n,.mk 9 i s [b,st,n]]:=by simp[Tm.eT,lh]
  rw[e];have r:(Tm.mk 9 i s [b,st,n]).ok=true:=Tm.Kb hs.ok rfl (by intro t c;simp only[jr,vW,ta] at c;rcases c with rfl|rfl|rfl;all_goals first|exact x.ok|exact j.ok|exact l.ok);have hle:(Tm.mk 9 i s [b,st,n]).air (M+8192)=true:=Tm.Az (hs.mono VW).air (by intro t c;simp only[jr,vW,ta] at c;rcases c with rfl|rfl|rfl;all_goals first|exact up _ x|exact up _ j|exact up _ l);refine⟨KD _ _ j.ok ?_,AN VW _ _ (up _ j) ?_⟩<;>
  .intro t c;simp only[jr,vW,ta] at c;rcases c with rfl|rfl|rfl
   .first|exact C.ok|exact up _ C
   .first|exact l.ok|exact up _ l
   .first|exact r|exact hle
def Tm.Ay(room k i:Int)(s:Ty)(l:List Tm):(Tm.mk k i s l).JM room=if(Tm.mk k i s l).root then(if((Tm.mk k i s l).eT.ain:Int)-((Tm.mk k i s l).ain:Int)>room then none else some (some (Tm.mk k i s l).eT))
 else match Tm.rD room l with
  |none=>none|some none=>some none|some (some a)=>some (some (.mk k i s a)):=by rw[Tm.JM]
def J6{M room:Int}(w:0<=M)(t:Tm):Sm M t->t.ain<=8192->∀f,t.JM room=some (some f)->f.ok=true/\f.air (M+8192)=true/\(f.ain:Int)<=t.ain+room:=by
 induction t using Tm.ind with
 |h k i s l ih=>
  intro hs hn f h;rw[Tm.Ay] at h
  by_cases j:(Tm.mk k i s l).root=true
  .rw[cS j] at h
   split at h
   .cases h
   .obtain rfl:=fQ (fQ h);obtain⟨x,y⟩:=VY w hs hn j;exact⟨x,y,VW⟩
  .rw[cO j] at h;have up:∀u,Sm M u->u.air (M+8192)=true:=λu hu=>(hu.mono VW).air;have n:=hn;rw[Tm.cQ] at n
   have A:∀(ts a:List Tm),(∀t∈ts,t∈l)->Tm.rD room ts=some (some a)->a.length=ts.length/\(∀t∈a,t.ok=true/\t.air (M+8192)=true)/\(db Tm.ain a:Int)<=db Tm.ain ts+room:=by
    intro ts
    induction ts with
    |nil=>intro a _ h;rw[Tm.rD] at h;cases h
    |cons t ts o=>
     intro a hm h;rw[Tm.rD] at h;have b:=hm t aaL;have B:=dk Tm.ain b;have c:=hs.arg t b
     split at h
     .cases h
     .rename_i u hu;obtain rfl:=fQ (fQ h);obtain⟨a1,a2,a3⟩:=ih t b c VW u hu;refine⟨rfl,?_,by simp only[db];omega⟩;intro v hv;rcases jr.1 hv with rfl|hv
      .exact⟨a1,a2⟩
      .have:=hs.arg v (hm v (by simp[hv]));exact⟨this.ok,up _ this⟩
     .split at h
      .cases h
      .cases h
      .rename_i q d;obtain rfl:=fQ (fQ h);obtain⟨a1,a2,a3⟩:=o q (λu hu=>hm u (by simp[hu])) d;refine⟨by simp[a1],?_,by simp only[db];omega⟩;intro v hv;rcases jr.1 hv with rfl|hv
       .exact⟨c.ok,up _ c⟩
       .exact a2 v hv
   split at h
   .cases h
   .cases h
   .rename_i q d;obtain rfl:=fQ (fQ h);obtain⟨a1,a2,a3⟩:=A l q (λt h=>h) d;refine⟨Tm.Kb hs.ok a1 λt r=>(a2 t r).1,Tm.Az (hs.mono VW).air λt r=>(a2 t r).2,?_⟩;rw[Tm.cQ,Tm.cQ];omega
def FX(room:Int)(t:Tm):t.nf=true↔t.JM room=some none:=by
 induction t using Tm.ind with
 |h k i s l ih=>
  rw[Tm.Q0,Tm.Ay]
  have f:∀ts:List Tm,(∀t∈ts,t∈l)->(ts.all Tm.nf=true↔Tm.rD room ts=some none):=by
   intro ts
   induction ts with
   |nil=>intro _;simp[Tm.rD]|cons t ts b=>
    intro hm;have j:=ih t (hm t aaL);have n:=b λu hu=>hm u (by simp[hu]);rw[AX,fI,j,n,Tm.rD];constructor
    .rintro⟨c,d⟩;rw[c,d]
    .intro h
     split at h
     .cases h
     .cases h
     .rename_i c
      split at h
      .cases h
      .rename_i d;exact⟨c,d⟩
      .cases h
  have:=f l λt h=>h
  by_cases a:(Tm.mk k i s l).root=true
  .rw[cS a,a];simp
   try(split<;>simp)
  .rw[cO a];simp only[fI,XC,this];constructor
   .rintro⟨_,e⟩;rw[e]
   .intro h;refine⟨by simpa using a,?_⟩
    split at h
    .cases h
    .rename_i e;exact e
    .cases h
def Wl{M:Int}{t:Tm}(hs:Sm M t)(hn:t.ain<=8192)(c:t.root=true):(t.eT.ain:Int)<=1000000000:=by
 have d:=Tm.Jx hs.ok c;cases d with
 |app=>
  rename_i i s j k b a;rw[Tm.cQ] at hn;simp only[db,Tm.cQ] at hn;have f:=hs.arg (.mk 2 j k [b]) aaL;have l:=Tm.qL a b 0 (f.arg b aaL).ok;have n:=Tm.gW b 0;have hmul:b.ait 0*a.ain<=8192*8192:=Gf VW VW
  grind[Tm.iI,Tm.eT]
 |proj h=>
  rw[Tm.cQ] at hn;simp only[db,Tm.cQ] at hn;rcases h with rfl|rfl<;>(simp[Tm.eT];omega)
 |zero h=>grind[Tm.eT,Tm.cQ,db]|succ=>grind[lh,Tm.eT,ns,Tm.cQ,db]|cons=>grind[lh,Tm.eT,ns,Tm.cQ,db]
def Uo{M:Int}(Q:0<=M/\M<=90000000000){nh:List HC}{p:Nat}{t:Tm}(N:NR nh p t)(hs:Sm M t)(hn:t.ain<=8192)(d:t.root=true):ov (some p) nh=some (t.eT.ain:Int):=by
 have R:=DN Q N hs hn d;have G:=Tm.Jx hs.ok d;obtain⟨x,S,f,e3,e4,o,e6,e7,e8⟩:=N.inv;unfold ov lp;simp only[cv,S];cases G with
 |app=>
  rename_i i s q r b a;simp only[Tm.dq,Tm.di] at f o;obtain⟨pf,pa,w,T,U⟩:=o.inv2;obtain⟨y,f1,f2,f3,f4,f5,_⟩:=T.inv;simp only[Tm.dq,Tm.di] at f2 f5;obtain⟨pb,H,A⟩:=f5.inv1;have I:=hs.arg (.mk 2 q r [b]) aaL;have V:=hs.arg a aaL;have D:=I.arg b aaL;rw[Tm.cQ] at hn;simp only[db,Tm.cQ] at hn;obtain⟨z,g1,_,_,_,_,g6,_⟩:=A.inv;obtain⟨u,j,_,_,_,_,l,_⟩:=U.inv;rw[f,cS aaB,w];simp only[dA,fg,iq,lQ,cv,f1,H,g1];rw[count_eq (M:=M) VW nh FU b pb 0 (by rw[d_];omega) A D VW VW];simp only[cv,j,cN,g6,l];have W:=Tm.gW b 0;have hmul:b.ait 0*a.ain<=8192*8192:=Gf VW VW;have X:=Tm.qL a b 0 D.ok;have Y:=a.dr
  have e:(Tm.mk 3 i s [.mk 2 q r [b],a]).eT=Tm.iI 0 b a:=by simp[Tm.eT]
  rw[e]
  have hint:(b.ait 0:Int)*((a.ain:Int)-1)=((b.ait 0*a.ain:Nat):Int)-(b.ait 0:Int):=by rw[YH,YT];simp
  rw[ep VW VW,zJ (by rw[hint];omega) (by rw[hint];omega),hint,dP VW VW]
  congr 1
  omega
 |proj O=>
  rename_i k i s q r a b;obtain⟨p',Z,g1,g2,g3⟩:=R;simp only[Tm.dq,Tm.di] at f o;obtain⟨z,j,_,_,_,_,l,_⟩:=g3.inv
  have c:k≠3/\k≠6/\k≠9:=VW
  rw[f,cO (by simpa using c.1),cO (by simpa using c.2.1),cO (by simpa using c.2.2),g1];simp only[cN,cv,j,l]
 |zero O=>
  rename_i k ko i s q r b st;simp only[Tm.dq,Tm.di] at f o;obtain⟨pb,ps,P,w,A,v,F⟩:=o.M9;obtain⟨y,f1,f2,f3,f4,f5,_⟩:=F.inv;obtain⟨z,j,_,_,_,_,l,_⟩:=A.inv;simp only[Tm.dq,Tm.di] at f2 f5
  have c:k≠3/\k≠11/\k≠12:=VW
  have:(Tm.mk k i s [b,st,.mk ko q r []]).eT=b:=by simp[Tm.eT,c.1,c.2.1,c.2.2]
  rw[this];rcases O with⟨rfl,rfl⟩|⟨rfl,rfl⟩
  .rw[f,cO aaB,cS aaB,w];simp only[dA,fg,hQ,iq,lQ,cv,f1,f2,j,l];rw[cO aaB];rfl
  .rw[f,cO aaB,cO aaB,cS aaB,w];simp only[dA,fg,hQ,iq,lQ,cv,f1,f2,j,l];rw[cO aaB];rfl
 |succ=>
  rename_i i s q r b st n;simp only[Tm.dq,Tm.di] at f o;obtain⟨pb,ps,P,w,A,v,F⟩:=o.M9;obtain⟨y,f1,f2,f3,f4,f5,_⟩:=F.inv;simp only[Tm.dq,Tm.di] at f2 f5;obtain⟨pn,B,C⟩:=f5.inv1;obtain⟨z1,j,_,_,_,_,l,_⟩:=A.inv;obtain⟨z2,J,_,_,_,_,K,_⟩:=v.inv;obtain⟨z3,m1,_,_,_,_,m6,_⟩:=C.inv;rw[Tm.cQ] at hn;simp only[db,Tm.cQ] at hn
  have e:(Tm.mk 6 i s [b,st,.mk 5 q r [n]]).eT=lh st [n,.mk 6 i s [b,st,n]]:=by simp[Tm.eT,lh]
  rw[e,ns];simp only[db,Tm.cQ,kY,wC];rw[f,cO aaB,cS aaB,w];simp only[dA,fg,hQ,iq,lQ,cv,f1,f2,B,j,J,m1,l,K,m6];rw[cS aaB];simp only[cN];rw[zJ (a:=2) VW VW,dP (a:=2) VW VW,dP (b:=2*(n.ain:Int)) VW VW,dP (b:=1) VW VW,dP (b:=(b.ain:Int)) VW VW,dP VW VW]
  congr 1
  omega
 |cons=>
  rename_i i s q r b st h n;simp only[Tm.dq,Tm.di] at f o;obtain⟨pb,ps,P,w,A,v,F⟩:=o.M9;obtain⟨y,f1,f2,f3,f4,f5,_⟩:=F.inv;simp only[Tm.dq,Tm.di] at f2 f5;obtain⟨ph,pn,B,L,C⟩:=f5.inv2;obtain⟨z1,j,_,_,_,_,l,_⟩:=A.inv;obtain⟨z2,J,_,_,_,_,K,_⟩:=v.inv;obtain⟨z3,m1,_,_,_,_,m6,_⟩:=C.inv;obtain⟨z4,q1,_,_,_,_,q6,_⟩:=L.inv;rw[Tm.cQ] at hn;simp only[db,Tm.cQ] at hn
  have e:(Tm.mk 9 i s [b,st,.mk 8 q r [h,n]]).eT=lh st [h,n,.mk 9 i s [b,st,n]]:=by simp[Tm.eT,lh]
  rw[e,ns];simp only[db,Tm.cQ,kY,wC];rw[f,cO aaB,cO aaB,cS aaB,w];simp only[dA,fg,hQ,iq,lQ,cv,f1,f2,B,j,J,m1,q1,l,K,m6,q6];rw[cS aaB];simp only[cN];rw[zJ (a:=2) VW VW,dP (a:=3) VW VW,dP (b:=(h.ain:Int)) VW VW,dP (b:=2*(n.ain:Int)) VW VW,dP (b:=1) VW VW,dP (b:=(b.ain:Int)) VW VW,dP VW VW]
  congr 1
  omega
def FK{α:Type}(a:List α)(x y:α)(b:List α):(a++x::b).set a.length y=a++y::b:=aaL
def C'(room:Int)(p:Nat)(t:Tm)(nh:List HC)(o:Option ((Option Nat)×Int×List HC)):Prop:=
 match t.JM room with
 |none=>∃a,o=some (none,4,a)/\NE nh a|some none=>∃a,o=some (none,0,a)/\NE nh a|some (some c)=>∃b a,o=some (some b,0,a)/\NE nh a/\NR a b c
def XD{M room:Int}(hM:0<=M/\M<=80000000000)(ad:-100000<=room/\room<=100000):∀(n:Nat) (t:Tm) (p:Nat) (nh:List HC),t.ain<=n->NR nh p t->Sm M t->t.ain<=8192->C' room p t nh (iV n (some p) room nh):=by
 intro n
 induction n with
 |zero=>intro t p nh h;have:=t.dr;omega
 |succ n ih=>
  intro t p nh hn T hs L;obtain⟨x,e1,e2,e3,e4,e5,e6,e7,e8⟩:=T.inv;rw[iV];simp only[cv,e1]
  by_cases P:x.normal=true
  .rw[cS P];unfold C';rw[(FX room t).1 (e8 P)];exact⟨nh,rfl,NE.refl _⟩
  .rw[cO P,Nk T hs.ok];simp only[cv];cases t with
   |mk k i s l=>
    by_cases f:(Tm.mk k i s l).root=true
    .rw[cS f,Uo VW T hs L f];simp only[cv,fx,e6];obtain⟨R,c,g1,g2,g3⟩:=DN (M:=M) VW T hs L f;have an:=Wl hs L f;rw[ep VW VW];unfold C';rw[Tm.Ay,cS f]
     by_cases G:((Tm.mk k i s l).eT.ain:Int)-((Tm.mk k i s l).ain:Int)>room
     .rw[cS G,cS G];exact⟨nh,rfl,NE.refl _⟩
     .rw[cO G,cO G,g1];exact⟨R,c,rfl,NE.kp g2,g3⟩
    .rw[cO f];simp only[Tm.dq,Tm.di,Tm.eY,Tm.dV] at e2 e3 e4 e5;have J:=L;rw[Tm.cQ] at hn J;have hlen:=Tm.ek l;have U:x.aim.length=l.length:=e5.len;rw[c8 VW];simp only[cY,c6];have ak:=hs.idx;have V:∀u:Tm,Sm M u->0<=u.fr/\u.fr<=M+1:=λu hu=>hu.fr hM.1
     have loop:∀(ts pre:List Tm) (ps N:List (Option Nat)) (j:Nat) (D:List HC),l=pre++ts->x.aim=N++ps->N.length=j->NE nh D->tP D ps ts->tP D N pre->match Tm.rD room ts with
       |none=>∃c,dF (λ(y:Int) (F:Option Nat)=>(λ(A:List HC)=>
         gX (iV n F room A) λr v a=>
         if(dx v 0) then(some (.ret (none,v,a)))
         else(if(Option.isSome r) then(
         cM (HC.c0 a p) λd=>
         e_ (xN d.aim)<|cM (dg d.aim y) λK=>
         cW (fC (some p) (wy d.aim y r) a) λB w=>
         some (.ret (B,0,w)))
         else(some ((.next a):dW (List HC) ((Option Nat)×Int×List HC)))))) ps j D=some (.inr (none,4,c))/\NE nh c
       |some none=>∃c,dF (λ(y:Int) (F:Option Nat)=>(λ(A:List HC)=>
         gX (iV n F room A) λr v a=>
         if(dx v 0) then(some (.ret (none,v,a)))
         else(if(Option.isSome r) then(
         cM (HC.c0 a p) λd=>
         e_ (xN d.aim)<|cM (dg d.aim y) λK=>
         cW (fC (some p) (wy d.aim y r) a) λB w=>
         some (.ret (B,0,w)))
         else(some ((.next a):dW (List HC) ((Option Nat)×Int×List HC)))))) ps j D=some (.inl c)/\NE nh c
       |some (some W)=>∃R c,dF (λ(y:Int) (F:Option Nat)=>(λ(A:List HC)=>
         gX (iV n F room A) λr v a=>
         if(dx v 0) then(some (.ret (none,v,a)))
         else(if(Option.isSome r) then(
         cM (HC.c0 a p) λd=>
         e_ (xN d.aim)<|cM (dg d.aim y) λK=>
         cW (fC (some p) (wy d.aim y r) a) λB w=>
         some (.ret (B,0,w)))
         else(some ((.next a):dW (List HC) ((Option Nat)×Int×List HC)))))) ps j D=some (.inr (some R,0,c))/\NE nh c/\NR c R (.mk k i s (pre++W)):=by
      intro ts
      induction ts with
      |nil=>
       intro pre ps N j D _ _ _ H hp _;cases hp;rw[Tm.rD];exact⟨D,rfl,H⟩
      |cons t ts ae=>
       intro pre ps N j D S hx hq H hp O;cases hp with
       |cons q1 q2=>
        rename_i q ps
        have X:t∈l:=by rw[S];simp
        have ao:=dk Tm.ain X;have Y:=hs.arg t X;have C:=ih t q D VW q1 Y VW;unfold C' at C;rw[Tm.rD];rw[dB]
        split at C
        .rename_i I;obtain⟨c,a1,a2⟩:=C;rw[I,a1];exact⟨c,rfl,H.trans a2⟩
        .rename_i I;obtain⟨c,a1,a2⟩:=C;rw[I,a1];have:=ae (pre++[t]) ps (N++[some q]) (j+1) c (by simp[S]) (by simp[hx]) (by simp[hq]) (H.trans a2) (a2.list q2) ((a2.list O).append (.cons (a2.node _ _ q1) .nil))
         revert this
         cases Tm.rD room ts with
         |none=>exactλh=>h|some o=>
          cases o with
          |none=>exactλh=>h|some W=>simp only[s6,Y9,od];exactλh=>h
        .rename_i t' I;obtain⟨q',c,a1,a2,a3⟩:=C;rw[I,a1];simp only[l7];rw[cO aaB,cS (show(some q').isSome=true from rfl)];obtain⟨b,Z⟩:=(H.trans a2).get p x e1;rw[Z];simp only[cv];obtain⟨s1,s2,s3⟩:=J6 hM.1 t Y VW t' I;rw[show xN x.aim=true from vF ⟨by rw[U,S];simp;omega,by rw[U];unfold lim;omega⟩]
         have af:dg x.aim (j:Int)=some (some q):=by rw[fV,hx,<-hq];simp
         have ah:wy x.aim (j:Int) (some q')=N++some q'::ps:=by
          unfold wy;rw[hx,<-hq];simp
         simp only[cY,af,cv,ah];unfold fC;simp only[cv,Z]
         obtain⟨ai,b1,b2,b3⟩:=rb (k:=k) (i:=i) (s:=s) (ps:=N++some q'::ps) (ts:=pre++t'::ts) (nh:=c) ((a2.list O).append (.cons a3 (a2.list q2))) (by
          rw[S,DU] at J;rw[DU];simp only[db] at J|-
          omega) VW (by
          intro u hu;rcases rA.1 hu with hu|hu
          .have:=V u (hs.arg u (by rw[S];simp[hu]));omega
          .rcases jr.1 hu with rfl|hu
           .have:=Tm.Vb u (M:=M+8192) VW s1 s2;omega
           .have:=V u (hs.arg u (by rw[S];simp[hu]));omega)
         rw[e2,e3,e4,b1];exact⟨c.length,ai,rfl,(H.trans a2).trans (NE.kp b2),b3⟩
     have:=loop l [] x.aim [] 0 nh rfl rfl rfl (NE.refl _) e5 .nil;unfold C';rw[Tm.Ay,cO f]
     have Q:Tm.rD room l=some none->(Tm.mk k i s l).nf=true:=by
      intro h;rw[FX room,Tm.Ay,cO f,h]
     revert this Q
     cases Tm.rD room l with
     |none=>
      rintro⟨c,a1,a2⟩ _;have e:((0:Nat):Int)=0:=rfl;rw[a1];exact⟨c,rfl,a2⟩
     |some o=>
      cases o with
      |none=>
       rintro⟨c,a1,a2⟩ Q;rw[a1];simp only[cv,dh];obtain⟨b,Z⟩:=a2.get p x e1;rw[Z];simp only[cv];exact⟨_,rfl,a2.trans (NE.flag (x:={x with normal:=b}) (a2.node _ _ T) Z (Q rfl))⟩
      |some l'=>
       rintro⟨R,c,a1,a2,a3⟩ _;rw[a1];exact⟨R,c,rfl,a2,a3⟩
def RV{M:Int}(P:0<=M/\M<=80000000000):∀(n:Nat) (t:Tm) (p:Nat) (nh:List HC),t.ain<=n->NR nh p t->Sm M t->t.ain<=8192->∃d,iE n (some p) nh=some (t.nf,d)/\NE nh d:=by
 intro n
 induction n with
 |zero=>intro t p nh h;have:=t.dr;omega
 |succ n ih=>
  intro t p nh hn D hs F;obtain⟨x,I,Q,R,S,G,T,U,L⟩:=D.inv;rw[iE];simp only[cv,I]
  by_cases v:x.normal=true
  .rw[cS v,L v];exact⟨nh,rfl,NE.refl _⟩
  .rw[cO v,Nk D hs.ok];simp only[cv];cases t with
   |mk k i s l=>
    by_cases a:(Tm.mk k i s l).root=true
    .rw[cS a,Tm.Q0,a];exact⟨nh,rfl,NE.refl _⟩
    .rw[cO a];simp only[Tm.di] at G;rw[Tm.cQ] at hn F;have hlen:=Tm.ek l;have N:x.aim.length=l.length:=G.len;rw[c8 VW];simp only[cY,c6]
     have loop:∀(ts:List Tm) (ps:List (Option Nat)) (j:Nat) (f:List HC),(∀t∈ts,t∈l)->NE nh f->tP f ps ts->∃d,dF (λ(J:Int) (w:Option Nat)=>(λ(y:List HC)=>
        cW (iE n w y) λA q=>
        if A then(some (.next q))else(some ((.ret (false,q)):dW (List HC) (Bool×List HC))))) ps j f=some (if ts.all Tm.nf then .inl d else .inr (false,d))/\NE nh d:=by
      intro ts
      induction ts with
      |nil=>intro ps j f _ r h;cases h;exact⟨f,rfl,r⟩
      |cons t ts H=>
       intro ps j f hm r h;cases h with
       |cons q1 q2=>
        have B:=hm t aaL;have O:=dk Tm.ain B;obtain⟨C,a1,a2⟩:=ih t _ f VW q1 (hs.arg t B) VW;rw[dB,a1];simp only[cN]
        by_cases c:t.nf=true
        .rw[cS c];simp only[cv,dR,AX,c,yg];exact H _ (j+1) C (λu hu=>hm u (by simp[hu])) (r.trans a2) (a2.list q2)
        .rw[cO c];simp only[cv,yz,AX,c,ab5];exact⟨C,rfl,r.trans a2⟩
     obtain⟨d,a1,a2⟩:=loop l x.aim 0 nh (λt h=>h) (NE.refl _) G;rw[a1]
     by_cases o:l.all Tm.nf=true
     .rw[cS o];simp only[cv,dh];obtain⟨b,K⟩:=a2.get p x I;rw[K]
      have c:(Tm.mk k i s l).nf=true:=by
       rw[Tm.Q0,o];simpa using a
      rw[c];exact⟨_,rfl,a2.trans (NE.flag (x:={x with normal:=b}) (a2.node _ _ D) K c)⟩
     .rw[cO o]
      have c:(Tm.mk k i s l).nf=false:=by
       rw[Tm.Q0];simp[o]
      rw[c];exact⟨d,rfl,a2⟩
def rz{t:Tm}(h:t.wt<=1000000000):jH t=some (if t.err=0 then(t.ain:Int)else 0,t.err):=by
 unfold jH Tm.err;rw[vg FU t (by rw[d_];exact h) h]
 by_cases a:t.ok=true
 .simp only[a,if_true,cN,fx]
  by_cases b:4096<t.ain
  .rw[cS b,cS VW];rfl
  .rw[cO b,cO VW];rfl
 .simp only[a,cN];rfl
def oK{t:Tm}(h:t.wt<=1000000000):oX t=some t.err:=by
 unfold oX;rw[rz h];rfl
theorem Tm.fP{t:Tm}(h:t.err=0):t.ok=true/\t.ain<=4096:=by
 unfold Tm.err at h
 split at h
 .rename_i a
  split at h
  .omega
  .exact⟨a,VW⟩
 .omega
def Sf:∀(n:Nat) (t:Tm) (b:Int) (s:Bool),t.ain<=n->t.ok=true->t.ain<=1000000->0<=b->b+t.ain<=100000000->jh n t b (λ(s:Bool) (o:Int) (q:Int)=>qO o q s) s=some (s&&t.air 536870912):=by
 intro n
 induction n with
 |zero=>intro t b s h;have:=t.dr;omega
 |succ n ih=>
  intro t b s h A hn I r;cases t with
  |mk k i ty l=>
   obtain⟨o1,o2,B,C,J⟩:=Tm.kN A;rw[Tm.cQ] at h hn r;have hlen:=Tm.ek l;rw[jh];simp only[Tm.di,Tm.dq,Tm.eY,c6,eN];rw[Tm.ey]
   by_cases f:k=1
   .have D:=o1 f;subst D;rw[cS f];unfold qO;cases s with
    |true=>simp[Hl];rfl|false=>simp;rfl
   .rw[cO f];have hi:=B f;subst hi
    have v:en (dj k 2) (dJ .i64 b 1) b=b+eZ k:=by
     unfold eZ
     by_cases w:k=2
     .subst w;rw[cS rfl];exact dP VW VW
     .rw[cO w]
      have:dj k 2=false:=by simp[dj,w]
      rw[this];simp
    have F:=kg k;rw[c8 (l:=l) VW];simp only[cY,v]
    have loop:∀(ts:List Tm) (j:Nat) (s:Bool),(∀t∈ts,t∈l)->dF (λ(G:Int) (x:Tm)=>(λ(a:Bool)=>
      cM (jh n x (b+eZ k) (λ(s:Bool) (o:Int) (q:Int)=>qO o q s) a) λc=>
      some ((.next c):dW Bool Bool))) ts j s=some (.inl (s&&ts.all (Tm.air 536870912))):=by
     intro ts
     induction ts with
     |nil=>intro j s _;simp|cons t ts y=>
      intro j s hm;have d:=hm t aaL;have H:=dk Tm.ain d;rw[dB,ih t _ _ VW (C t d) VW VW VW];simp only[cv,dR];rw[y (j+1) _ λu hu=>hm u (by simp[hu])];simp[Bool.and_assoc]
    rw[loop l 0 s λt h=>h];simp
def KL{t:Tm}(a:t.ok=true)(hn:t.ain<=1000000):wS t=some (t.air 536870912):=by
 unfold wS qz;rw[Sf FU t 0 true (by rw[d_];omega) a hn VW VW];simp
def Tm.z:Tm:=.mk 0 0 (.mk 0 []) []
def NR.aaz{nh:List HC}{c:Nat}{st a:eA}(h:HC.dQ nh c=some st):∀n,(∀p t,t.ain<=n->NR nh p t->NR (js nh c (HC.eJ a)) p t):=by
 have r:=HC.fF h
 have d:∀q y,HC.c0 nh q=some y->HC.c0 (js nh c (HC.eJ a)) q=some y:=by
  intro q y hy;have f:=HC.c9 hy
  have j:c≠q:=by
   rintro rfl;rw[r] at f;cases f
  unfold HC.c0 js;rw[J0 j,f]
 intro n
 induction n with
 |zero=>intro p t h;have:=t.dr;omega
 |succ n ih=>
  intro p t v w;obtain⟨y,x,A,B,C,D,F,G,H⟩:=w.inv
  have b:∀(ts:List Tm) (ps:List (Option Nat)),(∀t∈ts,t.ain<=n)->tP nh ps ts->tP (js nh c (HC.eJ a)) ps ts:=by
   intro ts
   induction ts with
   |nil=>intro ps _ h;cases h;exact .nil
   |cons t ts o=>
    intro ps hm h;cases h with
    |cons g1 g2=>exact .cons (ih _ _ (hm t aaL) g1) (o _ (λu hu=>hm u (by simp[hu])) g2)
  refine NR.of (d _ _ x) A B C (b _ _ ?_ D) F G H;intro u hu;cases t with
  |mk k i s l=>
   rw[Tm.cQ] at v;have:=dk Tm.ain hu;simp only[Tm.di] at this;omega
def Dp{nh:List HC}{b:Nat}{st a:eA}(h:HC.dQ nh b=some st):HC.dQ (js nh b (HC.eJ a)) b=some a:=by
 have d:=HC.fF h;have c:=(mI.1 d).1;unfold HC.dQ js;simp[c]
structure At (nh:List HC) (s0:Nat) (t:Tm) (m:Int):Prop where
 st:∃p,HC.dQ nh s0=some ⟨some p,m⟩/\NR nh p t
def Yg{M:Int}(k:0<=M/\M<=80000000000){nh:List HC}{d:Nat}{t:Tm}{m:Int}(h:At nh d t m)(hs:Sm M t)(hn:t.ain<=4096)(hm:0<=m/\m<=1000000):match t.JM (4096-t.ain)with
  |none=>∃a,iD (some d) nh=some (false,4,a)|some none=>∃a,iD (some d) nh=some (false,0,a)/\At a d t m|some (some j)=>∃a,iD (some d) nh=some (true,0,a)/\At a d j (m+1):=by
 obtain⟨p,f,i⟩:=h.st;obtain⟨x,l,_,_,_,_,n,_⟩:=i.inv;have q:=t.dr;have b:=XD (M:=M) (room:=4096-t.ain) k VW FU t p nh (by rw[d_];omega) i hs VW;unfold iD p7;simp only[cv,f,l,n];rw[ep VW VW];unfold C' at b
 split at b
 .rename_i c;obtain⟨a,a1,a2⟩:=b
  try rw[c]
  rw[a1];exact⟨a,rfl⟩
 .rename_i c;obtain⟨a,a1,a2⟩:=b
  try rw[c]
  rw[a1];exact⟨a,rfl,⟨p,a2.state _ _ f,a2.node _ _ i⟩⟩
 .rename_i j c;obtain⟨o,a,a1,a2,a3⟩:=b
  try rw[c]
  rw[a1];have g1:=a2.state _ _ f;simp only[l7];rw[cO (by simp[dx])];simp only[g1,cv];rw[dP VW VW];refine⟨_,rfl,⟨o,Dp (Dp g1),?_⟩⟩;exact NR.aaz (Dp g1) _ _ _ (gO _) (NR.aaz g1 _ _ _ (gO _) a3)
def Tm.norm:Nat->Int->Tm->Tm×Int×Int
 |0,m,t=>if t.nf then(t,m,0)else(Tm.z,0,5)|k+1,m,t=>match t.JM (4096-t.ain)with
  |none=>(Tm.z,0,4)|some none=>(t,m,0)|some (some a)=>Tm.norm k (m+1) a
def NW{k:Nat}{m:Int}{t:Tm}(h:t.JM (4096-t.ain)=none):t.norm (k+1) m=(Tm.z,0,4):=by rw[Tm.norm,h]
def JG{k:Nat}{m:Int}{t:Tm}(h:t.JM (4096-t.ain)=some none):t.norm (k+1) m=(t,m,0):=by rw[Tm.norm,h]
def JU{k:Nat}{m:Int}{t a:Tm}(h:t.JM (4096-t.ain)=some (some a)):t.norm (k+1) m=a.norm k (m+1):=by rw[Tm.norm,h]
def GR{σ ρ:Type}{F:σ->Option (dW σ ρ)}:∀{n m:Nat} {s:σ} {o:σ⊕ρ},n<=m->nk F n s=some o->nk F m s=some o
 |0,_,_,_,_,h=>by cases h
 |n+1,0,_,_,hm,_=>by omega|n+1,m+1,s,o,hm,h=>by
  rw[j2] at h|-;obtain⟨c,b,a⟩:=dm h;rw[b];simp only[cv];cases c with
  |next d=>exact GR VW a|brk d=>exact a|ret r=>exact a
def LX(s:Nat)(steps:Int)(L:0<=steps/\steps<=65536):∀(k:Nat) (m:Int) (t:Tm) (nh:List HC),(k:Int)=steps-m->0<=m->At nh s t m->Sm (536870912+8192*m) t->t.ain<=4096->∃o,nk (λ(a:List HC)=>
   cM (HC.dQ a s) λu=>
   if(qT u.steps steps) then(
   gX (iD (some s) a) λv l c=>
   if(dx l 0) then(some (.ret ((Tm.mk 0 0 (Ty.mk 0 []) []),0,l)))
   else(if v then(some (.next c))
   else(cM (HC.dQ c s) λn=>
   cM (h8 FU n.term c) λw=>
   some (.ret (w,n.steps,0)))))
   else(some ((.brk a):dW (List HC) (Tm×Int×Int)))) (k+1) nh=some o/\eB (λ(a:List HC)=>
    cM (HC.dQ a s) λx=>
    cW (iE FU x.term a) λy h=>
    if y then(
    cM (HC.dQ h s) λq=>
    cM (h8 FU q.term h) λA=>
    some (A,q.steps,0))
    else(some ((Tm.mk 0 0 (Ty.mk 0 []) []),0,5))) (λr=>some r) o=some (t.norm k m):=by
 intro k
 induction k with
 |zero=>
  intro m t nh F hm i hs hn;obtain⟨p,B,C⟩:=i.st;refine⟨.inl nh,?_,?_⟩
  .rw[j2];simp only[B,cv];rw[cO (by rw[km];omega)];rfl
  .rw[dh];simp only[B,cv];obtain⟨d,a1,a2⟩:=RV (M:=536870912+8192*m) VW FU t p nh (by rw[d_];omega) C hs VW;rw[a1];simp only[cN,Tm.norm]
   by_cases j:t.nf=true
   .rw[cS j,cS j];simp only[a2.state _ _ B,cv];rw[Qr (M:=536870912+8192*m) d FU t p (by rw[d_];omega) hs (a2.node _ _ C)];rfl
   .rw[cO j,cO j];rfl
 |succ k ih=>
  intro m t nh F hm i hs hn;obtain⟨p,B,C⟩:=i.st;have b:=Yg (M:=536870912+8192*m) VW i hs hn VW;rw[j2];simp only[B,cv];rw[cS (by rw[km];omega)]
  split at b
  .rename_i f;obtain⟨d,a1⟩:=b;rw[NW f,a1];exact⟨_,rfl,rfl⟩
  .rename_i f;obtain⟨d,a1,a2⟩:=b;obtain⟨G,H,I⟩:=a2.st;rw[JG f,a1];simp only[l7];rw[cO aaB,cO aaB];simp only[H,cv];rw[Qr (M:=536870912+8192*m) d FU t G (by rw[d_];omega) hs I];exact⟨_,rfl,rfl⟩
  .rename_i D f;obtain⟨d,a1,a2⟩:=b;rw[JU f,a1];simp only[l7];rw[cO aaB];simp only[if_true,cv,dR];obtain⟨J,K,c3⟩:=J6 (M:=536870912+8192*m) VW t hs VW D f;exact ih (m+1) D d VW VW a2 ⟨J,by rw[show 536870912+8192*(m+1)=536870912+8192*m+8192 by omega];exact K,VW⟩ VW
def Sm.start{t:Tm}(h:t.err=0)(a:t.air 536870912=true):Sm 536870912 t:=⟨(Tm.fP h).1,a,by have:=(Tm.fP h).2;omega⟩
def wE{t:Tm}(hw:t.wt<=1000000000)(steps:Int):ju t steps=some (if t.err=0 then(if 0<=steps/\steps<=65536/\t.air 536870912 then t.norm steps.toNat 0 else(Tm.z,0,1))else(Tm.z,0,t.err)):=by
 unfold ju;rw[oK hw];simp only[cv]
 by_cases he:t.err=0
 .rw[cO (by simp[he]),cS he];obtain⟨j,hn⟩:=Tm.fP he;simp only[c6]
  by_cases f:steps<0
  .rw[cS ((km _ _).2 f),cS trivial,cO (λh=>absurd h.1 VW)];rfl
  .rw[cO (by rw[km];exact f)]
   by_cases i:65536<steps
   .rw[cS ((fx _ _).2 i),cS trivial,cO (λh=>absurd h.2.1 VW)];rfl
   .rw[cO (by rw[fx];exact i),KL j VW];simp only[cv]
    by_cases a:t.air 536870912=true
    .have c:pL (t.air 536870912)=false:=by rw[a];rfl
     rw[cO (by rw[c];decide),cS ⟨VW,VW,a⟩];have b:=Sm.start he a;obtain⟨p,nh,a1,a2,a3⟩:=Y_ (M:=536870912) VW FU t [] (by rw[d_];omega) b;rw[a1];simp only[cN];have d:At (nh++[HC.eJ (eA.mk (some p) 0)]) nh.length t 0:=⟨p,by unfold HC.dQ;simp,a3.app⟩;obtain⟨o,k,l⟩:=LX nh.length steps VW steps.toNat 0 t _ VW VW d (by simpa using b) hn;have n:=GR (m:=FU) (by rw[d_];omega) k;rw[n];exact l
    .have c:pL (t.air 536870912)=true:=by simp[a]
     rw[cS c,cO (λh=>a h.2.2)];rfl
 .rw[cS (by simp[he]),cO he];rfl
mutual
def Fm.ain:Fm->Nat
 |.mk _ _ ts l=>1+db Tm.ain ts+Fm.mW l
def Fm.mW:List Fm->Nat
 |[]=>0|t::l=>t.ain+Fm.mW l
end
def Fm.qH(l:List Fm):Fm.mW l=db Fm.ain l:=by
 induction l with
 |nil=>rfl|cons t l ih=>simp[Fm.mW,db,ih]
theorem Fm.cQ(k:Int)(s:Ty)(ts:List Tm)(l:List Fm):(Fm.mk k s ts l).ain=1+db Tm.ain ts+db Fm.ain l:=by rw[Fm.ain,Fm.qH]
def Fm.dr(t:Fm):1<=t.ain:=by cases t;rw[Fm.ain];omega
def Fm.ek(l:List Fm):l.length<=db Fm.ain l:=fR _ _ λt _=>t.dr
mutual
def Fm.wt:Fm->Nat
 |.mk _ s ts l=>1+s.ain+db Tm.wt ts+Fm.OO l
def Fm.OO:List Fm->Nat
 |[]=>0|t::l=>t.wt+Fm.OO l
end
def Fm.CS(l:List Fm):Fm.OO l=db Fm.wt l:=by
 induction l with
 |nil=>rfl|cons t l ih=>simp[Fm.OO,db,ih]
theorem Fm.ef(k:Int)(s:Ty)(ts:List Tm)(l:List Fm):(Fm.mk k s ts l).wt=1+s.ain+db Tm.wt ts+db Fm.wt l:=by rw[Fm.wt,Fm.CS]
def Fm.gM(t:Fm):1<=t.wt:=by cases t;rw[Fm.wt];omega
def Fm.oe(l:List Fm):l.length<=db Fm.wt l:=fR _ _ λt _=>t.gM
def Fm.ind{p:Fm->Prop}(h:∀k s ts l,(∀t∈l,p t)->p (.mk k s ts l))(t:Fm):p t:=by
 have:∀n (t:Fm),t.ain<=n->p t:=by
  intro n
  induction n with
  |zero=>intro t a;have:=t.dr;omega
  |succ n ih=>
   intro t a;cases t with
   |mk k s ts l=>
    rw[Fm.cQ] at a;exact h k s ts l λu hu=>ih u (by have:=dk Fm.ain hu;omega)
 exact this _ t (gO _)
def Fm.gH(t:Fm):t.ain<=t.wt:=by
 induction t using Fm.ind with
 |h k s ts l ih=>rw[Fm.cQ,Fm.ef];have:=jB ih;have:=jB (f:=Tm.ain) (g:=Tm.wt) (l:=ts) λx _=>x.gH;omega
def jJ(k:Int):Bool:=decide (k=4\/k=5\/k=6\/k=7)
def qB(k:Int):Int:=if jJ k then 1 else 0
def B2(k:Int):0<=qB k/\qB k<=1:=by unfold qB;split<;>omega
def kT(k:Int):j4 k=some (jJ k):=by
 unfold j4 jJ
 congr 1
 rw[Dr];simp
def oT(f:Fm):me f=some (qB f.ail):=by
 unfold me qB;rw[kT];simp only[cv]
 split<;>rfl
def Fm.node(k:Int)(s:Ty)(a n:Nat):Bool:=
 if k=1 then s.qE&&decide (a=2)&&decide (n=0)
 else if k=2\/k=3 then s.qE&&decide (a=0)&&decide (n=2)
 else jJ k&&decide (s.err=0)&&decide (a=0)&&decide (n=1)
mutual
def Fm.ok:Fm->Bool
 |.mk k s ts l=>Fm.node k s ts.length l.length&&ts.all Tm.ok&&Fm.Jt l
def Fm.Jt:List Fm->Bool
 |[]=>true|t::l=>t.ok&&Fm.Jt l
end
def Fm.yS(l:List Fm):Fm.Jt l=l.all Fm.ok:=by
 induction l with
 |nil=>rfl|cons t l ih=>simp[Fm.Jt,ih]
theorem Fm.fX(k:Int)(s:Ty)(ts:List Tm)(l:List Fm):(Fm.mk k s ts l).ok=(Fm.node k s ts.length l.length&&ts.all Tm.ok&&l.all Fm.ok):=by rw[Fm.ok,Fm.yS]
def Fm.err(t:Fm):Int:=if t.ok then(if 4096<t.ain then 4 else 0)else 2
def fH{α:Type}{l:List α}:(l.length:Int)=0↔l=[]:=by cases l<;>simp;omega
def iB{α:Type}{l:List α}(h:(l.length:Int)=1):∃a,l=[a]:=by
 match l,h with
 |[a],_=>exact⟨a,rfl⟩|[],h=>simp at h
 |_::_::_,h=>simp at h;omega
def pt{α:Type}{l:List α}(h:(l.length:Int)=2):∃a b,l=[a,b]:=by
 match l,h with
 |[a,b],_=>exact⟨a,b,rfl⟩|[],h=>simp at h
 |[_],h=>simp at h
 |_::_::_::_,h=>simp at h;omega
def w9{t:Tm}(h:t.wt<=1000000000):jQ FU t=some t.ok:=yy FU t (by rw[d_];exact h) h
def zd:∀(n:Nat) (t:Fm),t.wt<=n->t.wt<=1000000000->k_ n t=some t.ok:=by
 intro n
 induction n with
 |zero=>intro t h;have:=t.gM;omega
 |succ n ih=>
  intro t h o;cases t with
  |mk k s ts l=>
   rw[Fm.ef] at h o;rw[k_,Fm.fX];simp only[Fm.di,Fm.dq,Fm.gl,Fm.dV,c6,kP,rl,eN,ee,vw,kT,lC (t:=s) VW,cv,dA,fg]
   by_cases r:k=1
   .simp only[r,if_true,Fm.node]
    by_cases j:(l.length:Int)=0
    .have:=fH.1 j;subst this;cases i:s.qE with
     |false=>simp|true=>
      by_cases d:(ts.length:Int)=2
      .obtain⟨a,b,rfl⟩:=pt d;simp only[db] at h o;simp only[d,if_true,iq,lQ,cv];rw[w9 (t:=a) VW,w9 (t:=b) VW];cases c:a.ok<;>cases f:b.ok<;>simp[c,f]
      .have c:¬ts.length=2:=VW
       simp[d,c]
    .have i:¬l.length=0:=VW
     simp[j,i]
   .simp only[r,lL,Fm.node]
    by_cases j:k=2\/k=3
    .simp only[j,if_true]
     by_cases i:(ts.length:Int)=0
     .have:=fH.1 i;subst this;cases d:s.qE with
      |false=>simp|true=>
       by_cases c:(l.length:Int)=2
       .obtain⟨a,b,rfl⟩:=pt c;simp only[db] at h o;simp only[c,if_true,iq,lQ,cv];rw[ih a VW VW,ih b VW VW];cases f:a.ok<;>cases q:b.ok<;>simp[f,q]
       .have f:¬l.length=2:=VW
        simp[c,f]
     .have d:¬ts.length=0:=VW
      simp[i,d]
    .simp only[j,lL];cases i:jJ k with
     |false=>simp|true=>
      by_cases d:(ts.length:Int)=0
      .have:=fH.1 d;subst this
       by_cases c:s.err=0
       .by_cases f:(l.length:Int)=1
        .obtain⟨a,rfl⟩:=iB f;simp only[db] at h o;simp only[c,f,if_true,iq,cv];rw[ih a VW VW];simp
        .have q:¬l.length=1:=VW
         simp[c,f,q]
       .simp[c]
      .have c:¬ts.length=0:=VW
       simp[d,c]
def rn:∀(n:Nat) (t:Fm),t.ain<=n->t.ain<=1000000000->k7 n t=some (t.ain:Int):=by
 intro n
 induction n with
 |zero=>intro t h;have:=t.dr;omega
 |succ n ih=>
  intro t h b;cases t with
  |mk k s ts l=>
   rw[Fm.cQ] at h b;have f:=Fm.ek l;have c:=Tm.ek ts;rw[k7];simp only[Fm.di,Fm.gl,c6,c8 (l:=l) VW,c8 (l:=ts) VW,cY]
   have d:=oC (ρ:=Int) (F:=λ(j:Int) (x:Tm) (v:Int)=>cM (eQ FU x) λy=>some (dW.next (dJ .i64 v y))) Tm.ain ts 0 1 VW (by
    intro j x v a;have:=dk Tm.ain a;rw[mR FU x (by rw[d_];omega) VW]
    rfl)
   have k2:=oC (ρ:=Int) (F:=λ(j:Int) (x:Fm) (v:Int)=>cM (k7 n x) λy=>some (dW.next (dJ .i64 v y))) Fm.ain l 0 (1+db Tm.ain ts) VW (by
    intro j x v a;have:=dk Fm.ain a;rw[ih x VW VW]
    rfl)
   rw[show(1:Int)=((1:Nat):Int)from rfl,d];simp only[cv,dh];rw[k2];simp[Fm.cQ]
def ky{t:Fm}(h:t.wt<=1000000000):iH t=some t.err:=by
 have:=t.gH;unfold iH Fm.err;rw[zd FU t (by rw[d_];exact h) h,rn FU t (by rw[d_];omega) VW];cases t.ok with
 |false=>simp|true=>by_cases a:4096<t.ain<;>simp[a]<;>omega
def FF(f:Fm)(h:f.wt<=1000000000):qQ f=some (Fm.node f.ail f.cT f.dc.length f.aim.length):=by
 cases f with
 |mk k s ts l=>
  rw[Fm.ef] at h;show qQ (.mk k s ts l)=some (Fm.node k s ts.length l.length)
  have d:(dj (ts.length:Int) 2&&dj (l.length:Int) 0)=(decide (ts.length=2)&&decide (l.length=0)):=by
   rw[Dr];simp only[fI,eN,oc];omega
  have i:(dj (ts.length:Int) 0&&dj (l.length:Int) 2)=(decide (ts.length=0)&&decide (l.length=2)):=by
   rw[Dr];simp only[fI,eN,oc];omega
  have j:(dj (ts.length:Int) 0&&dj (l.length:Int) 1)=(decide (ts.length=0)&&decide (l.length=1)):=by
   rw[Dr];simp only[fI,eN,oc];omega
  unfold qQ;simp only[Fm.di,Fm.dq,Fm.gl,Fm.dV,c6,kP,p_,rl,eN,ee,kH (t:=s) VW,rB,cv,cN,c_,d,i,j];unfold Fm.node
  by_cases b:k=1
  .cases c:s.qE<;>simp[b]
  .by_cases c:k=2\/k=3
   .cases a:s.qE<;>simp[b,c]
   .by_cases a:k=4\/k=5\/k=6\/k=7
    .have n:jJ k=true:=by simp[jJ,a]
     by_cases o:s.err=0<;>simp[b,c,a,o,n]
    .have n:jJ k=false:=by simp[jJ,a]
     simp[b,c,a,n]
def yL:∀(n:Nat) (t:Fm),t.wt<=n->t.wt<=1000000000->jv n t=some (if t.ok then((t.ain:Int),true)else(0,false)):=by
 intro n
 induction n with
 |zero=>intro t h;have:=t.gM;omega
 |succ n ih=>
  intro t h o;cases t with
  |mk k s ts l=>
   have q:=FF (.mk k s ts l) o;rw[Fm.ef] at h o;have y:=Fm.oe l;have r:=Tm.oe ts;have hn:db Tm.ain ts<=db Tm.wt ts:=jB λx _=>x.gH;have u:db Fm.ain l<=db Fm.wt l:=jB λx _=>x.gH
   have w:dF (λ(f:Int) (a:Tm) (b:Int)=>cW (jE FU a) λc d=>if d then some (dW.next (dJ .i64 b c))else some (dW.ret ((0:Int),false))) ts 0 1=if ts.all Tm.ok then some (.inl ((1+db Tm.ain ts:Nat):Int))else some (.inr (0,false)):=by
    refine uP Tm.ain Tm.ok _ ts 0 1 VW ?_;intro j x v i;have:=dk Tm.wt i;rw[vg FU x (by rw[d_];omega) VW];cases x.ok<;>simp
   have k2:dF (λ(f:Int) (a:Fm) (b:Int)=>cW (jv n a) λc d=>if d then some (dW.next (dJ .i64 b c))else some (dW.ret ((0:Int),false))) l 0 ((1+db Tm.ain ts:Nat):Int)=if l.all Fm.ok then some (.inl ((1+db Tm.ain ts+db Fm.ain l:Nat):Int))else some (.inr (0,false)):=by
    refine uP Fm.ain Fm.ok _ l 0 _ VW ?_;intro j x v i;have:=dk Fm.wt i;rw[ih x VW VW];cases x.ok<;>simp
   rw[jv,q];simp only[Fm.di,Fm.dq,Fm.gl,Fm.dV,c6,c8 (l:=l) VW,c8 (l:=ts) VW,cY,cv,w,Fm.fX,Fm.cQ];cases A:Fm.node k s ts.length l.length with
   |false=>simp|true=>
    cases B:ts.all Tm.ok with
    |false=>simp|true=>
     simp only[if_true,cv,dh,k2,yg];cases C:l.all Fm.ok<;>simp
def oN{t:Fm}(h:t.wt<=1000000000):hD t=some (if t.err=0 then(t.ain:Int)else 0,t.err):=by
 unfold hD Fm.err;rw[yL FU t (by rw[d_];exact h) h];cases t.ok with
 |false=>simp|true=>
  by_cases a:4096<t.ain
  .simp[a];omega
  .simp[a];omega
def kc{t:Fm}(h:t.wt<=1000000000):jt t=some t.err:=by
 unfold jt;rw[oN h];rfl
def Ih:∀(n:Nat) (t:Fm),t.wt<=n->t.wt<=1000000000->hZ n t=some t:=by
 intro n
 induction n with
 |zero=>intro t h;have:=t.gM;omega
 |succ n ih=>
  intro t h c;cases t with
  |mk k s ts l=>
   rw[Fm.ef] at h c;have f:=Fm.oe l;have d:=Tm.oe ts;rw[hZ];simp only[Fm.di,Fm.dq,Fm.gl,Fm.dV,c6,c8 (l:=l) VW,c8 (l:=ts) VW,cY,gV (t:=s) VW,cv];rw[gP id ts 0 [] acz]
   .simp only[cv,dh];rw[gP id l 0 [] acz]
    .simp
    .intro j x v a b;have:=dk Fm.wt a;rw[ih x VW VW];simp[dT (l:=v) (m:=[x]) (by simpa using b)]
   .intro j x v a b;have:=dk Tm.wt a;rw[mj (t:=x) VW];simp[dT (l:=v) (m:=[x]) (by simpa using b)]
def je{t:Fm}(h:t.wt<=1000000000):hZ FU t=some t:=Ih FU t (by rw[d_];exact h) h
mutual
def Fm.has:Fm->Bool
 |.mk k _ _ l=>if k=1 then false else if k=2 then Fm.JY l else if k=5 then true else Fm.E_ l
def Fm.JY:List Fm->Bool
 |[]=>false|f::l=>f.has||Fm.JY l
def Fm.E_:List Fm->Bool
 |[]=>false|[f]=>f.has|_::f::l=>Fm.E_ (f::l)
end
def Rk(k:Int)(a b:Ty):Ty×Bool×Int:=if(Ty.mk k [a,b]).err≠0 then(.mk 0 [],false,(Ty.mk k [a,b]).err)else(.mk k [a,b],true,0)
def aex(first last:Ty×Bool×Int):Ty×Bool×Int:=
 if first.2.2≠0\/first.2.1=false then(last.1,last.2.1,first.2.2)else if last.2.1 then Rk 3 first.1 last.1 else(first.1,true,0)
def aeb(first last:Ty×Bool×Int):Ty×Bool×Int:=
 if first.2.2≠0\/first.2.1=false then(last.1,true,first.2.2)else Rk 4 first.1 last.1
def aaP(k:Int)(s:Ty)(first last:Ty×Bool×Int):Ty×Bool×Int:=
 if last.2.2≠0 then(.mk 0 [],false,last.2.2)
 else if k=2 then aex first last
 else if k=5 then(if last.2.1 then Rk 3 s last.1 else(s,true,0))
 else if last.2.1 then(if k=3 then aeb first last else if k=4 then Rk 4 s last.1 else(last.1,true,0))
 else(.mk 0 [],false,0)
def abg:Ty×Bool×Int:=(.mk 0 [],false,0)
mutual
def Fm.ct:Fm->Ty×Bool×Int
 |.mk k s _ l=>if k=1 then abg else aaP k s (Fm.afR l) (Fm.aag l)
def Fm.afR:List Fm->Ty×Bool×Int
 |[]=>abg|f::_=>f.ct
def Fm.aag:List Fm->Ty×Bool×Int
 |[]=>abg|[f]=>f.ct|_::f::l=>Fm.aag (f::l)
end
def Fm.QA(k:Int)(s:Ty)(ts:List Tm)(a b:Fm):(Fm.mk k s ts [a,b]).has=if k=1 then false else if k=2 then a.has||b.has else if k=5 then true else b.has:=by
 rw[Fm.has];simp[Fm.JY,Fm.E_]
def Fm.QM(k:Int)(s:Ty)(ts:List Tm)(a:Fm):(Fm.mk k s ts [a]).has=if k=1 then false else if k=5 then true else a.has:=by
 rw[Fm.has];simp only[Fm.JY,Fm.E_,Bool.or_false]
 by_cases b:k=2
 .subst b;simp
 .simp[b]
def Fm.has_eq(s:Ty)(ts:List Tm)(l:List Fm):(Fm.mk 1 s ts l).has=false:=by rw[Fm.has];simp
def Fm.nU{p:Fm->Prop}(q:∀a b:Tm,a.ok=true->b.ok=true->p (.mk 1 (.mk 0 []) [a,b] []))
  (r:∀(k:Int) (a b:Fm),k=2\/k=3->a.ok=true->b.ok=true->p a->p b->p (.mk k (.mk 0 []) [] [a,b]))
  (t:∀(k:Int) (s:Ty) (a:Fm),k=4\/k=5\/k=6\/k=7->s.err=0->a.ok=true->p a->p (.mk k s [] [a])) (f:Fm) (j:f.ok=true):p f:=by
 induction f using Fm.ind with
 |h k s ts l ih=>
  rw[Fm.fX] at j;simp only[fI,jY] at j;obtain⟨⟨hn,d⟩,c⟩:=j;unfold Fm.node at hn
  split at hn
  .rename_i n;subst n;simp only[fI,oc,Ty.lj] at hn;obtain⟨⟨rfl,i⟩,o⟩:=hn;obtain⟨a,b,rfl⟩:=pt (l:=ts) VW;have:=Y5.1 o;subst this;exact q a b (d a aaL) (d b aaL)
  .split at hn
   .rename_i n;simp only[fI,oc,Ty.lj] at hn;obtain⟨⟨rfl,i⟩,o⟩:=hn;obtain⟨a,b,rfl⟩:=pt (l:=l) VW;have:=Y5.1 i;subst this;exact r k a b n (c a aaL) (c b aaL) (ih a aaL (c a aaL)) (ih b aaL (c b aaL))
   .simp only[fI,oc] at hn;obtain⟨⟨⟨u,hs⟩,i⟩,o⟩:=hn;obtain⟨a,rfl⟩:=iB (l:=l) VW;have:=Y5.1 i;subst this;refine t k s a ?_ hs (c a aaL) (ih a aaL (c a aaL));simpa[jJ] using u
theorem Ty.kG{t:Ty}(h:t.err=0):t.ok=true/\t.ain<=64:=by
 unfold Ty.err at h
 split at h
 .split at h
  .omega
  .exact⟨‹_›,VW⟩
 .omega
theorem Ty.w8{t:Ty}(h:t.ok=true)(a:t.ain<=64):t.err=0:=by unfold Ty.err;rw[cS h,cO VW]
def Ty.ok_two{k:Int}(c:k=3\/k=4){a b:Ty}(d:a.ok=true)(f:b.ok=true):(Ty.mk k [a,b]).ok=true:=by
 rw[Ty.fX]
 have:¬(k=1\/k=2\/k=5):=VW
 simp[Ty.want,c,this,d,f]
theorem Ty.zy(k:Int)(a b:Ty):(Ty.mk k [a,b]).ain=1+a.ain+b.ain:=by rw[Ty.cQ];simp[db];omega
theorem Fm.fP{f:Fm}(h:f.err=0):f.ok=true/\f.ain<=4096:=by
 unfold Fm.err at h
 split at h
 .split at h
  .omega
  .exact⟨‹_›,VW⟩
 .omega
def Fm.cty(f:Fm):Ty×Int:=if f.err≠0 then(.mk 0 [],f.err)else if f.ct.2.2≠0 then(.mk 0 [],f.ct.2.2)else(if f.has then f.ct.1 else .mk 5 [],0)
def C9:∀(n:Nat) (f:Fm),f.ain<=n->f.ok=true->iK n f=some f.has:=by
 intro n
 induction n with
 |zero=>intro f h;have:=f.dr;omega
 |succ n ih=>
  intro f h t;refine Fm.nU (p:=λf=>f.ain<=n+1->iK (n+1) f=some f.has) ?_ ?_ ?_ f t h
  .intro a b _ _ _;rw[iK,Fm.has_eq];rfl
  .intro k a b u i v _ _ hn;rw[Fm.cQ] at hn;simp only[db] at hn;have d:=ih a VW i;have j:=ih b VW v
   have c:k≠1:=VW
   have l:k≠5:=VW
   have o:dg [a,b] (ea .i64 (dp [a,b]) 1)=some b:=by
    rw[ep aaL aaL];rfl
   have w:dg [a,b] 0=some a:=rfl;have x:dg [a,b] 1=some b:=rfl;rw[iK,Fm.QA,cO c];simp only[Fm.di,Fm.dq,eN,c,l,lL,o,w,x,cv,j,d,c6]
   by_cases r:k=2
   .simp only[r,if_true];cases a.has<;>simp
   .simp[r]
  .intro k s a u hs i _ hn;rw[Fm.cQ] at hn;simp only[db] at hn;have d:=ih a VW i
   have c:k≠1:=VW
   have q:k≠2:=VW
   have o:dg [a] (ea .i64 (dp [a]) 1)=some a:=by
    rw[ep aaL aaL];rfl
   rw[iK,Fm.QM,cO c];simp only[Fm.di,Fm.dq,eN,c,q,lL,o,cv,d]
   by_cases y:k=5<;>simp[y]
def CX(f:Fm)(h:f.wt<=1000000000):n_ f=some (if f.err≠0 then(false,f.err)else(f.has,0)):=by
 unfold n_;rw[ky h];simp only[cv,c_]
 by_cases he:f.err=0
 .rw[C9 FU f (by rw[d_];have:=f.gH;omega) (Fm.fP he).1];simp[he]
 .simp[he]
theorem Fm.w8{f:Fm}(h:f.ok=true)(a:f.ain<=4096):f.err=0:=by unfold Fm.err;rw[cS h,cO VW]
def Ty.nat:Ty:=.mk 1 []
def Ty.mw:Ty:=.mk 2 []
def Ty.unit:Ty:=.mk 5 []
def Ty.fn(a b:Ty):Ty:=.mk 4 [a,b]
def Ty.pr(a b:Ty):Ty:=.mk 3 [a,b]
def Ty.z:Ty:=.mk 0 []
inductive dH:List Ty->Tm->Ty->Prop
 |var {g t} (i:Nat):i<g.length->g[g.length-1-i]?=some t->dH g (.mk 1 i .z []) t|lam {g s b t}:(Ty.fn s t).err=0->dH (g++[s]) b t->dH g (.mk 2 0 s [b]) (.fn s t)|app {g f a s t}:dH g f (.fn s t)->dH g a s->dH g (.mk 3 0 .z [f,a]) t|zero {g}:dH g (.mk 4 0 .z []) .nat|succ {g a}:dH g a .nat->dH g (.mk 5 0 .z [a]) .nat|tn {g t b s n}:t.err=0->dH g b t->dH g s (.fn .nat (.fn t t))->dH g n .nat->dH g (.mk 6 0 t [b,s,n]) t|nil {g}:dH g (.mk 7 0 .z []) .mw|cons {g a b}:dH g a .nat->dH g b .mw->dH g (.mk 8 0 .z [a,b]) .mw|fold {g t b s n}:t.err=0->dH g b t->dH g s (.fn .nat (.fn .mw (.fn t t)))->dH g n .mw->dH g (.mk 9 0 t [b,s,n]) t|pair {g a b s t}:(Ty.pr s t).err=0->dH g a s->dH g b t->dH g (.mk 10 0 .z [a,b]) (.pr s t)|fst {g a s t}:dH g a (.pr s t)->dH g (.mk 11 0 .z [a]) s|snd {g a s t}:dH g a (.pr s t)->dH g (.mk 12 0 .z [a]) t|unit {g}:dH g (.mk 13 0 .z []) .unit
theorem Ty.pB:Ty.z.qE=true:=rfl
def Ty.rW{k:Int}(c:k=3\/k=4){a b:Ty}(h:(Ty.mk k [a,b]).err=0):a.err=0/\b.err=0:=by grind[Ty.kG,Ty.fX,Ty.zy,Ty.w8]
def dH.ok{g:List Ty}{x:Tm}{t:Ty}(h:dH g x t):x.ok=true:=by
 induction h with
 |var i c f=>grind[Tm.fX,Tm.node,gD,jq,Ty.pB]|lam c _ ih=>have:=(Ty.rW (.inr rfl) c).1;simp[Tm.fX,Tm.node,gD,jq,this,ih]
 |app _ _ a b=>simp[Tm.fX,Tm.node,gD,jq,Ty.pB,a,b]|zero=>simp[Tm.fX,Tm.node,gD,jq,Ty.pB]|succ _ ih=>simp[Tm.fX,Tm.node,gD,jq,Ty.pB,ih]|tn c _ _ _ a b d=>grind[Tm.fX,Tm.node,gD,jq]|nil=>simp[Tm.fX,Tm.node,gD,jq,Ty.pB]|cons _ _ a b=>simp[Tm.fX,Tm.node,gD,jq,Ty.pB,a,b]|fold c _ _ _ a b d=>grind[Tm.fX,Tm.node,gD,jq]|pair _ _ _ a b=>simp[Tm.fX,Tm.node,gD,jq,Ty.pB,a,b]|fst _ ih=>simp[Tm.fX,Tm.node,gD,jq,Ty.pB,ih]|snd _ ih=>simp[Tm.fX,Tm.node,gD,jq,Ty.pB,ih]|unit=>simp[Tm.fX,Tm.node,gD,jq,Ty.pB]
def Tm.lE(t:Tm):∀{m n:Int},m<=n->t.air m=true->t.air n=true:=by
 induction t using Tm.ind with
 |h k i s l ih=>grind[Tm.ey]
def dH.air{g:List Ty}{x:Tm}{t:Ty}(h:dH g x t):∀m:Int,((g.length+x.ain:Nat):Int)<=m->x.air m=true:=by
 induction h with
 |var i d f=>grind[Tm.cQ,db,Tm.ey]|lam _ _ ih=>grind[Tm.cQ,db,Tm.ey]|zero|nil|unit=>grind[Tm.cQ,db,Tm.ey]|succ _ ih|fst _ ih|snd _ ih=>grind[Tm.cQ,db,Tm.ey]|app _ _ a b|cons _ _ a b|pair _ _ _ a b=>grind[Tm.cQ,db,Tm.ey]|tn _ _ _ _ a b c|fold _ _ _ _ a b c=>grind[Tm.cQ,db,Tm.ey]
def G1{α:Type}{f g:α->Nat}{c:Nat}{l:List α}(h:∀x∈l,f x<=c*g x):db f l<=c*db g l:=by
 induction l with
 |nil=>simp[db]|cons x l ih=>simp only[db,VB];have:=h x aaL;have:=ih λy hy=>h y (by simp[hy]);omega
def Tm.hS(t:Tm)(h:t.ok=true):t.wt<=65*t.ain:=by
 induction t using Tm.ind with
 |h k i s l ih=>
  rw[Tm.fX] at h;simp only[fI,jY] at h;rw[Tm.ef,Tm.cQ,VB];have c:=G1 λx b=>ih x b (h.2 x b)
  have d:s.ain<=64:=by
   have:=h.1;simp only[Tm.node,fI] at this;have a:=this.2
   split at a
   .simp only[oc] at a;exact(Ty.kG a).2
   .grind[Ty.lj,Ty.cQ,db]
  omega
def Fm.hS(f:Fm)(h:f.ok=true):f.wt<=65*f.ain:=by
 induction f using Fm.ind with
 |h k s ts l ih=>
  rw[Fm.fX] at h;simp only[fI,jY] at h;rw[Fm.ef,Fm.cQ,VB,VB];have b:=G1 λx a=>ih x a (h.2 x a);have d:=G1 (f:=Tm.wt) (g:=Tm.ain) (c:=65) (l:=ts) λx a=>x.hS (h.1.2 x a)
  have i:s.ain<=64:=by
   have:=h.1.1;unfold Fm.node at this
   split at this
   .grind[Ty.lj,Ty.cQ,db]
   .split at this
    .grind[Ty.lj,Ty.cQ,db]
    .simp only[fI,oc] at this;exact(Ty.kG this.1.1.2).2
  omega
structure dd.wf (d:dd):Prop where
 len:d.l.length<=1000
 lo:0<=d.qS
 hi:d.qS<=d.l.length
def S0(x n:Int)(c:1<=n)(d:n<=1000000000):∃y,FO x n=some y/\0<=y/\y<n:=by
 unfold FO;simp only[TN (b:=n) VW];refine⟨_,rfl,?_⟩;unfold yw
 have e:(x.tmod n).natAbs<n.natAbs:=by
  rw[Int.natAbs_tmod];exact Xs _ VW
 rw[dP VW VW]
 have a:0<=x.tmod n+n:=VW
 exact⟨Int.tmod_nonneg _ a,aeO _ VW⟩
def jD(d:dd)(a:d.wf)(n:Int)(c:1<=n)(f:n<=1000000000):∃x b,et d n=some (x,b)/\0<=x/\x<n/\b.wf:=by
 unfold et;simp only[kP,rl,km,gK,ee]
 by_cases h:n<1\/(d.l.length:Int)<=d.qS
 .grind
 .rw[cO h];obtain⟨y,hy,_⟩:=I_ (l:=d.l) a.lo VW;obtain⟨z,i,j,k⟩:=S0 y n c f;rw[hy];simp only[cv,i];have:=a.len;have:=a.lo;rw[dP VW VW];exact⟨z,_,rfl,j,k,⟨a.len,by show 0<=d.qS+1;omega,by show d.qS+1<=(d.l.length:Int);omega⟩⟩
def eE:gA=some .nat:=rfl
def fD:lz=some .mw:=rfl
def II:uS=some .unit:=rfl
def wW{a b:Ty}(c:a.ain<=1000000000)(d:b.ain<=1000000000):tQ a b=some (.pr a b):=by
 unfold tQ;rw[gV c,gV d];rfl
def hE{a b:Ty}(c:a.ain<=1000000000)(d:b.ain<=1000000000):j1 a b=some (.fn a b):=by
 unfold j1;rw[gV c,gV d];rfl
def Ty.Vw:Ty.nat.ok=true:=by unfold Ty.nat;rw[Ty.fX];rfl
def Ty.TJ:Ty.mw.ok=true:=by unfold Ty.mw;rw[Ty.fX];rfl
def Ty.QD:Ty.unit.ok=true:=by unfold Ty.unit;rw[Ty.fX];rfl
def Ty.gh:Ty.nat.ain=1:=by unfold Ty.nat;rw[Ty.cQ];rfl
def Ty.nY:Ty.mw.ain=1:=by unfold Ty.mw;rw[Ty.cQ];rfl
def Ty.Hh:Ty.unit.ain=1:=by unfold Ty.unit;rw[Ty.cQ];rfl
def Ty.iN(a b:Ty):(Ty.fn a b).ain=1+a.ain+b.ain:=Ty.zy _ _ _
def Ty.tW(a b:Ty):(Ty.pr a b).ain=1+a.ain+b.ain:=Ty.zy _ _ _
theorem Vo(k:Nat)(h:k<=4):1<=2^k/\2^k<=16:=by
 have:k=0\/k=1\/k=2\/k=3\/k=4:=VW
 grind
def P3:∀(n k:Nat) (d:dd),k<n->k<=4->d.wf->∃t i,iu n d (k:Int)=some (t,i)/\t.ok=true/\t.ain+1<=2^(k+1)/\i.wf:=by
 intro n
 induction n with
 |zero=>intro k d h;omega|succ n ih=>
  intro k d A o v;obtain⟨x,d1,w,B,C,j⟩:=jD d v 7 VW VW;have D:=Vo k o
  have F:(2:Nat)^(k+1)=2*2^k:=by rw[Nat.pow_succ];omega
  have c:=λi (q:dd.wf i)=>(⟨Ty.nat,i,rfl,Ty.Vw,by rw[Ty.gh];omega,q⟩:∃t l,some (Ty.nat,i)=some (t,l)/\t.ok=true/\t.ain+1<=2^(k+1)/\l.wf);rw[iu];simp only[c6,w,cN,eE,fD,II,cv,kP,rl,eN,fx]
  split
  .exact c d1 j
  split
  .exact⟨.mw,d1,rfl,Ty.TJ,by rw[Ty.nY];omega,j⟩
  split
  .exact⟨.unit,d1,rfl,Ty.QD,by rw[Ty.Hh];omega,j⟩
  have two:0<(k:Int)->∃a b d2 d3,iu n d1 (ea .i64 (k:Int) 1)=some (a,d2)/\iu n d2 (ea .i64 (k:Int) 1)=some (b,d3)/\a.ok=true/\b.ok=true/\a.ain+1<=2^k/\b.ain+1<=2^k/\d3.wf:=by
   intro f;obtain⟨m,rfl⟩:∃m,k=m+1:=⟨k-1,VW⟩
   grind[ep]
  split
  .split
   .rename_i f;obtain⟨a,b,d2,d3,a1,r,a2,s,a3,y,u⟩:=two f;rw[a1];simp only[cN];rw[r];simp only[cN];rw[wW VW VW];exact⟨_,_,rfl,Ty.ok_two (.inl rfl) a2 s,by rw[Ty.tW];omega,u⟩
   .exact c d1 j
  split
  .split
   .rename_i f;obtain⟨a,b,d2,d3,a1,r,a2,s,a3,y,u⟩:=two f;rw[a1];simp only[cN];rw[r];simp only[cN];rw[hE VW VW];exact⟨_,_,rfl,Ty.ok_two (.inr rfl) a2 s,by rw[Ty.iN];omega,u⟩
   .exact c d1 j
  .exact c d1 j
def yW(d:dd)(b:d.wf)(k:Nat)(c:k<=4):∃t a,iu FU d (k:Int)=some (t,a)/\t.err=0/\t.ain+1<=2^(k+1)/\a.wf:=by
 obtain⟨t,a,f,h,i,j⟩:=P3 FU k d (by rw[d_];omega) c b
 grind[Vo,Ty.w8]
def Oy(g:List Ty)(t:Ty)(hg:g.length<=1000000)(hn:∀s∈g,s.ain<=1000000000):∃l,BT g t=some l/\l.length<=g.length/\∀v∈l,∃i:Nat,v=i/\i<g.length/\g[g.length-1-i]?=some t:=by
 unfold BT;simp only[c8 (l:=g) VW,cY,c6]
 have key:∀(l:List Ty) (i:Nat) (v:List Int),i+l.length=g.length->v.length<=i->(∀x∈v,∃j:Nat,x=j/\j<g.length/\g[g.length-1-j]?=some t)->∃a,dF (ρ:=List Int) (λ(j:Int) (u:Ty) (v:List Int)=>cM (dg g (ea .i64 (ea .i64 (dp g) 1) j)) λx=>cM (eC FU x t) λy=>if y then e_ (eI v [j]) (some (dW.next (fk v [j])))else some (dW.next v)) l i v=some (.inl a)/\a.length<=g.length/\∀x∈a,∃j:Nat,x=j/\j<g.length/\g[g.length-1-j]?=some t:=by
  intro l
  induction l with
  |nil=>
   intro i v d k c;exact⟨v,rfl,by simp at d;omega,c⟩
  |cons y l ih=>
   intro i v d k c;simp only[kY] at d
   have b:g.length-1-i<g.length:=VW
   have n:dg g (ea .i64 (ea .i64 (dp g) 1) (i:Int))=some g[g.length-1-i]:=by grind[ee,ep,fV]
   rw[dB];simp only[n,cv,hV (hn _ (Cy b))];cases hs:Ty.kW g[g.length-1-i] t with
   |false=>
    simp only[pc,lL,cv,dR];exact ih (i+1) v VW VW c
   |true=>
    rw[Ty.lS] at hs;simp only[if_true,dT (l:=v) (m:=[(i:Int)]) acz,cY,cv,dR,fu];refine ih (i+1) (v++[(i:Int)]) VW acz ?_;intro x f;rcases rA.1 f with h|h
    .exact c x h
    .rw[xV] at h;exact⟨i,h,VW,by rw[l5 b,hs]⟩
 obtain⟨a,o,q,r⟩:=key g 0 [] aaL aaL aaL;rw[o];exact⟨a,rfl,q,r⟩
def ny(g l:List Ty)(h:g.length+l.length<=1000000):lr g l=some (g++l):=by
 unfold lr;rw[dT acz,dT acz];simp
def Dy(n:Nat)(hn:n<=1000000):∃x,pU (n:Int)=some x/\∀g,dH g x .nat/\x.ain=n+1:=by
 unfold pU;rw[oP 4 [] (by simp[db])];simp only[cv,c6]
 obtain⟨o,q,l⟩:=zp (ρ:=Tm) (F:=Tf λ(h:Int) (i:Int) (v167:Int) (v168:Int) (j:List Ty) (k:List Tm)=>
   if ly h 0 then some (dW.next (ea .i64 h 1,5,0,0,[],[Tm.mk i v167 (Ty.mk v168 j) k]))else some (dW.brk (h,i,v167,v168,j,k)))
  (λs=>0<=s.1/\s.1<=n/\(∀g,dH g (Tm.mk s.2.1 s.2.2.1 (Ty.mk s.2.2.2.1 s.2.2.2.2.1) s.2.2.2.2.2) .nat)/\(Tm.mk s.2.1 s.2.2.1 (Ty.mk s.2.2.2.1 s.2.2.2.2.1) s.2.2.2.2.2).ain+s.1=n+1)
  (λs=>s.1.toNat)
  (λo=>match o with|.inl s=>(∀g,dH g (Tm.mk s.2.1 s.2.2.1 (Ty.mk s.2.2.2.1 s.2.2.2.2.1) s.2.2.2.2.2) .nat)/\(Tm.mk s.2.1 s.2.2.1 (Ty.mk s.2.2.2.1 s.2.2.2.2.1) s.2.2.2.2.2).ain=n+1|.inr _=>False)
  (by
   rintro⟨a,b,c,d,e,f⟩ ⟨q,l,t,v⟩;simp only at q l t v
   by_cases u:0<a
   .left;refine⟨_,by simp only[yN,fx,u,if_true];rfl,⟨?_,?_,?_,?_⟩,?_⟩
    .rw[ep VW VW];show 0<=a-1;omega
    .rw[ep VW VW];show a-1<=n;omega
    .intro g;exact dH.succ (t g)
    all_goals grind[ep,Tm.cQ,db]
   .right;left;refine⟨_,by simp only[yN,fx,u,lL];rfl,t,?_⟩
    have:a=0:=VW
    subst this
    simp only;omega)
  FU ((n:Int),4,0,0,[],[]) ⟨aaL,aaL,λg=>dH.zero,by rw[Tm.cQ];simp[db];omega⟩ (by rw[d_];show(n:Int).toNat<_;omega)
 simp only[Tm.dq,Tm.eY,Tm.dV,Ty.dq,Ty.di,Tm.di];rw[q];cases o with
 |inr r=>exact l.elim|inl s=>
  obtain⟨a,b,c,d,e,f⟩:=s;exact⟨_,rfl,λg=>⟨l.1 g,l.2⟩⟩
def zl(n:Int)(b:0<=n)(hn:n<=4000):∃x,tf n=some x/\∀g,dH g x .nat/\(x.ain:Int)=n+1:=by
 obtain⟨k,rfl⟩:=aa3 b;obtain⟨x,c,a⟩:=Dy k VW;unfold tf tI;simp only[km,gK];rw[cO VW,cO VW,c];exact⟨x,rfl,λg=>⟨(a g).1,by rw[(a g).2];simp⟩⟩
structure OX (g:List Ty) (x:Tm) (t:Ty) (n:Nat):Prop where
 ty:dH g x t
 ain:x.ain<=n
def OX.wt{g:List Ty}{x:Tm}{t:Ty}{n:Nat}(h:OX g x t n):x.wt<=65*n:=by
 have:=x.hS h.ty.ok;have:=h.ain;omega
theorem OX.mono{g:List Ty}{x:Tm}{t:Ty}{n m:Nat}(h:OX g x t n)(hm:n<=m):OX g x t m:=⟨h.ty,zS h.ain hm⟩
def JL{k:Int}{a:Tm}(b:a.wt<=100000000):eP k [a]=some (.mk k 0 .z [a]):=oP k [a] (by simp[db];omega)
def sN{k:Int}{a b:Tm}(c:a.wt<=100000000)(d:b.wt<=100000000):eP k [a,b]=some (.mk k 0 .z [a,b]):=oP k [a,b] (by simp[db];omega)
def Gl{k:Int}:eP k []=some (.mk k 0 .z []):=oP k [] (by simp[db])
def Ak{k:Int}{s:Ty}{a:Tm}(hs:s.ain<=1000000000)(b:a.wt<=100000000):kJ k s [a]=some (.mk k 0 s [a]):=FL k s [a] hs (by simp[db];omega)
def B5{k:Int}{s:Ty}{a b c:Tm}(hs:s.ain<=1000000000)(d:a.wt<=100000000)(f:b.wt<=100000000)(h:c.wt<=100000000):kJ k s [a,b,c]=some (.mk k 0 s [a,b,c]):=
 FL k s [a,b,c] hs (by simp[db];omega)
def Lb{f a b:Tm}(c:f.wt<=10000000)(d:a.wt<=10000000)(h:b.wt<=10000000):A9 f [a,b]=some (.mk 3 0 .z [.mk 3 0 .z [f,a],b]):=by
 have i:(Tm.mk 3 0 .z [f,a]).wt<=30000000:=by rw[Tm.ef];have:Ty.z.ain=1:=rfl;simp[db,this];omega
 unfold A9
 simp only[c8 (l:=[a,b]) aaL,cY,c6,dB,nT,Gk,Ty.hX,Tm.hX,sN (k:=3) (a:=f) (b:=a) VW VW,cv,dR,sN (k:=3) (a:=.mk 3 0 .z [f,a]) (b:=b) VW VW,dh]
def Ty.fM:Ty.nat.err=0:=Ty.w8 Ty.Vw (by rw[Ty.gh];omega)
def Ty.nx:Ty.mw.err=0:=Ty.w8 Ty.TJ (by rw[Ty.nY];omega)
def Ty.F7:Ty.unit.err=0:=Ty.w8 Ty.QD (by rw[Ty.Hh];omega)
def Ty.xg{a b:Ty}(c:a.err=0)(d:b.err=0)(h:a.ain+b.ain<=63):(Ty.fn a b).err=0:=Ty.w8 (Ty.ok_two (.inr rfl) (Ty.kG c).1 (Ty.kG d).1) (by rw[Ty.iN];omega)
def Ty.Pw{a b:Ty}(c:a.err=0)(d:b.err=0)(h:a.ain+b.ain<=63):(Ty.pr a b).err=0:=Ty.w8 (Ty.ok_two (.inl rfl) (Ty.kG c).1 (Ty.kG d).1) (by rw[Ty.tW];omega)
def Fo(i:Nat):Tm:=.mk 1 i .z []
def lu(s:Ty)(b:Tm):Tm:=.mk 2 0 s [b]
def gQ(f a:Tm):Tm:=.mk 3 0 .z [f,a]
def vy:Tm:=.mk 4 0 .z []
def i_(a:Tm):Tm:=.mk 5 0 .z [a]
def Q5(t:Ty)(a b c:Tm):Tm:=.mk 6 0 t [a,b,c]
def mH:Tm:=lu .nat (lu .nat (Q5 .nat (Fo 1) (lu .nat (lu .nat (i_ (Fo 0)))) (Fo 0)))
def PT:Tm:=lu .nat (Q5 .nat vy (lu .nat (lu .nat (Fo 1))) (Fo 0))
def V9:Tm:=lu .nat (lu .nat (Q5 .nat (Fo 1) (lu .nat (lu .nat (gQ PT (Fo 0)))) (Fo 0)))
def B7(i:Nat):eK (i:Int)=some (Fo i):=rfl
def uT{a:Tm}(b:a.wt<=100000000):j7 a=some (lu .nat a):=by
 unfold j7;rw[eE];simp only[cv];rw[Ak (by rw[Ty.gh];omega) b];rfl
def rec_eq{a b c:Tm}(d:a.wt<=100000000)(f:b.wt<=100000000)(h:c.wt<=100000000):sd a b c=some (Q5 .nat a b c):=by
 unfold sd;rw[eE];simp only[cv];rw[B5 (by rw[Ty.gh];omega) d f h];rfl
def An:r'=some mH:=by
 unfold r';rw[show eK 1=some (Fo 1)from rfl,show eK 0=some (Fo 0)from rfl];simp only[cv];rw[JL aaB];simp only[cv];rw[uT aaB];simp only[cv];rw[uT aaB];simp only[cv];rw[rec_eq aaB aaB aaB];simp only[cv];rw[uT aaB];simp only[cv];rw[uT aaB];rfl
def HJ:uL=some PT:=by
 unfold uL;rw[show eK 1=some (Fo 1)from rfl,show eK 0=some (Fo 0)from rfl,Gl];simp only[cv];rw[uT aaB];simp only[cv];rw[uT aaB];simp only[cv];rw[rec_eq aaB aaB aaB];simp only[cv];rw[uT aaB];rfl
def KJ:vZ=some V9:=by
 unfold vZ;rw[show eK 1=some (Fo 1)from rfl,show eK 0=some (Fo 0)from rfl,HJ];simp only[cv];rw[sN aaB aaB];simp only[cv];rw[uT aaB];simp only[cv];rw[uT aaB];simp only[cv];rw[rec_eq aaB aaB aaB];simp only[cv];rw[uT aaB];simp only[cv];rw[uT aaB];rfl
def afn{g:List Ty}{t:Ty}(i:Nat)(h:i<g.length)(a:g[g.length-1-i]?=some t):dH g (Fo i) t:=dH.var i h a
def va{g:List Ty}{t:Ty}:dH (g++[t]) (Fo 0) t:=dH.var 0 aaL aaL
def GS{g:List Ty}{s t:Ty}:dH (g++[t]++[s]) (Fo 1) t:=dH.var 1 aaL aaL
def yY:(Ty.fn .nat .nat).err=0:=Ty.xg Ty.fM Ty.fM (by rw[Ty.gh];omega)
def BG:(Ty.fn .nat (Ty.fn .nat .nat)).err=0:=Ty.xg Ty.fM yY (by rw[Ty.iN,Ty.gh];omega)
def C6(g:List Ty):dH g mH (.fn .nat (.fn .nat .nat)):=
 .lam BG (.lam yY (.tn Ty.fM GS (.lam BG (.lam yY (.succ va))) va))
def S7(g:List Ty):dH g PT (.fn .nat .nat):=
 .lam yY (.tn Ty.fM .zero (.lam BG (.lam yY GS)) va)
def Un(g:List Ty):dH g V9 (.fn .nat (.fn .nat .nat)):=
 .lam BG (.lam yY (.tn Ty.fM GS (.lam BG (.lam yY (.app (S7 _) va))) va))
def Ci:mH.ain=9:=aaB
def MU:V9.ain=16:=aaB
def pz{α β:Type}{G:Option β->Prop}(P:α->Prop){k:α->Option β}{b:(α->Option β)->Option β}(c:∀a,P a->G (k a))(d:∀j:α->Option β,(∀a,P a->G (j a))->G (b j)):G (de k b):=d k c
def G_{α γ β:Type}{G:Option β->Prop}(P:α->γ->Prop){k:α->γ->Option β}{b:(α->γ->Option β)->Option β}(d:∀a c,P a c->G (k a c))(f:∀j:α->γ->Option β,(∀a c,P a c->G (j a c))->G (b j)):G (de k b):=f k d
def tb(N:Nat):Nat->Nat
 |0=>3*N|k+1=>30+3*tb N k
def aeX{N:Nat}(a:N<=20):∀k,k<=5->tb N k<=18300:=by
 intro k b
 have:k=0\/k=1\/k=2\/k=3\/k=4\/k=5:=VW
 rcases this with rfl|rfl|rfl|rfl|rfl|rfl<;>simp only[tb]<;>omega
def Wx{N k:Nat}:3*N<=tb N k:=by
 induction k with
 |zero=>simp[tb]|succ k ih=>grind[tb]
def jC(g:List Ty)(t:Ty)(b:Nat)(o:Option (Tm×dd)):Prop:=∃x a,o=some (x,a)/\a.wf/\OX g x t b
def jC.of{g:List Ty}{t:Ty}{b:Nat}{x:Tm}{d:dd}(a:d.wf)(h:dH g x t)(hn:x.ain<=b):jC g t b (some (x,d)):=⟨x,d,rfl,a,h,hn⟩
structure rO (N:Nat) (g:List Ty):Prop where
 all:∀s∈g,s.err=0/\s.ain<=N
def rO.app{N:Nat}{g l:List Ty}(h:rO N g)(a:∀s∈l,s.err=0/\s.ain<=N):rO N (g++l):=
 ⟨λs hs=>by rcases rA.1 hs with h'|h';exact h.all s h';exact a s h'⟩
def Ty.qo{t:Ty}(h:t.err=0):t=.nat\/t=.mw\/t=.unit\/(∃a b,t=.pr a b/\a.err=0/\b.err=0)\/(∃a b,t=.fn a b/\a.err=0/\b.err=0):=by
 cases t with
 |mk k l=>
  have f:=(Ty.kG h).1;rw[Ty.fX] at f;simp only[fI,oc] at f;have c:=f.1;unfold Ty.want at c
  split at c
  .rename_i d;injection c with c;have:=Y5.1 c.symm;subst this;rcases d with rfl|rfl|rfl
   .exact .inl rfl
   .exact .inr (.inl rfl)
   .exact .inr (.inr (.inl rfl))
  .split at c
   .rename_i d;injection c with c;obtain⟨a,b,rfl⟩:=pt (l:=l) VW;have:=Ty.rW d h;rcases d with rfl|rfl
    .exact .inr (.inr (.inr (.inl ⟨a,b,rfl,this⟩)))
    .exact .inr (.inr (.inr (.inr ⟨a,b,rfl,this⟩)))
   .cases c
set_option maxHeartbeats 1000000 in
def P0(N:Nat)(aP:1<=N)(hN:N<=20):∀(n:Nat) (dep:Int) (g:List Ty) (t:Ty) (d:dd),dep.toNat*(N+1)+t.ain<n->dep<=5->-1000000<=dep-t.ain->g.length+(3+N)*dep.toNat+t.ain<=1000->rO N g->t.err=0->t.ain<=N->d.wf->jC g t (if dep<=0 then 3*t.ain else tb N dep.toNat) (fj n d g t dep):=by
 intro n
 induction n with
 |zero=>intro dep g t d h;omega|succ n ih=>
  intro dep g t d hm aQ aO hlen hg A w hd;have aR:=t.dr;have ax:=(Ty.kG A).2
  have deep:0<dep->∀T R S,T.length<=g.length+3->rO N T->R.err=0->R.ain<=N->S.wf->jC T R (tb N (dep.toNat-1)) (fj n S T R (ea .i64 dep 1)):=by
   intro o T R S U X h3 C h5;obtain⟨k,rfl⟩:∃k:Nat,dep=(k+1:Nat):=⟨dep.toNat-1,VW⟩
   have e1:((k+1:Nat):Int).toNat=k+1:=aaL
   rw[e1] at hm hlen|-;rw[ep VW VW,show((k+1:Nat):Int)-1=(k:Int) by omega]
   have hmul:(k+1)*(N+1)=k*(N+1)+N+1:=by rw[AO];omega
   have ay:(3+N)*(k+1)=(3+N)*k+3+N:=by rw[VB];omega
   obtain⟨x,d1,a1,a2,a3⟩:=ih (k:Int) T R S acz VW VW acz X h3 C h5;refine⟨x,d1,a1,a2,a3.mono ?_⟩;simp only[acM]
   split
   .have:k=0:=VW
    subst this;simp only[tb];omega
   .simp
  have flat:dep<=0->∀T R S,T.length<=g.length+1->R.ain+1<=t.ain->rO N T->R.err=0->S.wf->jC T R (3*R.ain) (fj n S T R (ea .i64 dep 1)):=by
   intro o T R S U h0 X h3 h5
   have e1:dep.toNat=0:=VW
   rw[e1] at hm hlen;rw[ep VW VW]
   have e2:(dep-1).toNat=0:=VW
   have:=ih (dep-1) T R S (by rw[e2];omega) VW VW (by rw[e2];omega) X h3 VW h5;rw[cS VW] at this;exact this
  have Y:0<dep->(if dep<=0 then 3*t.ain else tb N dep.toNat)=30+3*tb N (dep.toNat-1):=by
   intro o;rw[cO VW];obtain⟨k,hk⟩:∃k,dep.toNat=k+1:=⟨dep.toNat-1,VW⟩;rw[hk];rfl
  have az:0<dep->tb N (dep.toNat-1)<=18300:=λ_=>aeX hN _ VW
  have ah:3*t.ain<=(if dep<=0 then 3*t.ain else tb N dep.toNat):=by
   split
   .omega
   .have:=Wx (N:=N) (k:=dep.toNat);omega
  generalize (if dep<=0 then 3*t.ain else tb N dep.toNat)=B at Y ah|-
  have q:∀{g x t},0<dep->OX g x t (tb N (dep.toNat-1))->x.wt<=1300000:=by
   intro g x t o h;have:=h.wt;have:=az o;omega
  obtain⟨vs,aA,aS,aB⟩:=Oy g t VW (λs hs=>by have:=(hg.all s hs).2;omega);rw[fj,aA];simp only[cv];refine G_ (G:=jC g t B) (λa c=>c.wf/\(a=true->vs≠[])) ?_ ?_
  .--a variable,or ai else
   rintro a d1 ⟨ak,aC⟩;cases a with
   |true=>
    simp only[if_true];have aD:=aC rfl
    have aT:1<=vs.length:=by cases vs with|nil=>exact absurd rfl aD|cons _ _=>simp
    obtain⟨x,d2,U,X,h3,C⟩:=jD d1 ak (dp vs) acz acz;rw[U];simp only[cN];obtain⟨y,hy,aE⟩:=I_ (l:=vs) X (by simpa using h3);rw[hy];simp only[cv];obtain⟨i,rfl,aF,aG⟩:=aB y aE;rw[B7];refine jC.of C (afn i aF aG) ?_
    have:(Fo i).ain=1:=by unfold Fo;rw[Tm.cQ];rfl
    omega
   |false=>
    simp only[pc,lL];refine pz (G:=jC g t B) dd.wf ?_ ?_
    .--by aq type
     intro d2 D;rcases Ty.qo A with rfl|rfl|rfl|⟨a,b,rfl,ha,hb⟩|⟨a,b,rfl,ha,hb⟩
     .--numbers
      simp only[show Ty.nat.ail=1 from rfl,eN,if_true];refine pz (G:=jC g .nat B) dd.wf ?_ ?_
      .intro d3 ae;obtain⟨x,d4,U,X,h3,C⟩:=jD d3 ae 3 VW VW;rw[U];simp only[cN];obtain⟨y,aH,ar⟩:=zl x X VW;rw[aH];refine jC.of C (ar g).1 ?_;have:=(ar g).2;rw[Ty.gh] at ah;omega
      .intro j W;simp only[fx]
       split
       .rename_i o;have Y:=Y o;obtain⟨x,d4,U,X,h3,C⟩:=jD d2 D 5 VW VW;rw[U];simp only[cN,eN]
        split
        .obtain⟨a,d5,a1,a2,a3⟩:=deep o g .nat d4 VW hg Ty.fM w C;rw[a1];simp only[cN];rw[JL (by have:=q o a3;omega)];refine jC.of a2 (.succ a3.ty) ?_;have:=a3.ain;rw[Tm.cQ];simp only[db];omega
        split
        .rw[An];simp only[cv];obtain⟨a,d5,a1,a2,a3⟩:=deep o g .nat d4 VW hg Ty.fM w C;rw[a1];simp only[cN];obtain⟨b,d6,H,I,v⟩:=deep o g .nat d5 VW hg Ty.fM w a2;rw[H];simp only[cN];rw[Lb aaB (by have:=q o a3;omega) (by have:=q o v;omega)];refine jC.of I (.app (.app (C6 g) a3.ty) v.ty) ?_;have:=a3.ain;have:=v.ain;have:=Ci;rw[Tm.cQ];simp only[db,Tm.cQ];omega
        split
        .rw[KJ];simp only[cv];obtain⟨a,d5,a1,a2,a3⟩:=deep o g .nat d4 VW hg Ty.fM w C;rw[a1];simp only[cN];obtain⟨b,d6,H,I,v⟩:=deep o g .nat d5 VW hg Ty.fM w a2;rw[H];simp only[cN];rw[Lb aaB (by have:=q o a3;omega) (by have:=q o v;omega)];refine jC.of I (.app (.app (Un g) a3.ty) v.ty) ?_;have:=a3.ain;have:=v.ain;have:=MU;rw[Tm.cQ];simp only[db,Tm.cQ];omega
        .exact W d4 C
       .exact W d2 D
     .--lists
      simp only[show Ty.mw.ail=2 from rfl,eN,if_true,show¬(2:Int)=1 by omega,lL];refine G_ (G:=jC g .mw B) (λa c=>c.wf/\(a=true->0<dep)) ?_ ?_
      .rintro a d3 ⟨ae,o⟩;cases a with
       |true=>
        have o:=o rfl;have Y:=Y o;simp only[if_true];rw[eE];simp only[cv];obtain⟨a,d5,a1,a2,a3⟩:=deep o g .nat d3 VW hg Ty.fM (by rw[Ty.gh];omega) ae;rw[a1];simp only[cN];obtain⟨b,d6,H,I,v⟩:=deep o g .mw d5 VW hg Ty.nx w a2;rw[H];simp only[cN];rw[sN (by have:=q o a3;omega) (by have:=q o v;omega)];refine jC.of I (.cons a3.ty v.ty) ?_;have:=a3.ain;have:=v.ain;rw[Tm.cQ];simp only[db];omega
       |false=>
        simp only[pc,lL];rw[Gl];refine jC.of ae .nil ?_;rw[Tm.cQ];simp only[db];omega
      .intro j W;simp only[fx]
       split
       .rename_i o;obtain⟨x,d4,U,X,h3,C⟩:=jD d2 D 2 VW VW;rw[U];simp only[cN];exact W _ d4 ⟨C,λ_=>o⟩
       .exact W _ d2 ⟨D,λh=>by cases h⟩
     .simp only[show Ty.unit.ail=5 from rfl,eN,show¬(5:Int)=1 by omega,show¬(5:Int)=2 by omega,show¬(5:Int)=3 by omega,show¬(5:Int)=4 by omega,lL];rw[Gl];refine jC.of D .unit ?_;rw[Tm.cQ];simp only[db];omega
     .simp only[show(Ty.pr a b).ail=3 from rfl,show(Ty.pr a b).aim=[a,b] from rfl,eN,show¬(3:Int)=1 by omega,show¬(3:Int)=2 by omega,if_true,lL,dA,fg,iq,lQ,cv];rw[Ty.tW] at w ax ah
      by_cases o:0<dep
      .have Y:=Y o;obtain⟨x,d5,a1,a2,a3⟩:=deep o g a d2 VW hg ha VW D;rw[a1];simp only[cN];obtain⟨y,d6,H,I,v⟩:=deep o g b d5 VW hg hb VW a2;rw[H];simp only[cN];rw[sN (by have:=q o a3;omega) (by have:=q o v;omega)];refine jC.of I (.pair A a3.ty v.ty) ?_;have:=a3.ain;have:=v.ain;rw[Tm.cQ];simp only[db];omega
      .have aI:=Ty.tW a b;obtain⟨x,d5,a1,a2,a3⟩:=flat VW g a d2 VW VW hg ha D;rw[a1];simp only[cN];obtain⟨y,d6,H,I,v⟩:=flat VW g b d5 VW VW hg hb a2;rw[H];simp only[cN];have:=a3.ain;have:=v.ain;rw[sN (by have:=a3.wt;omega) (by have:=v.wt;omega)];refine jC.of I (.pair A a3.ty v.ty) ?_;rw[Tm.cQ];simp only[db];omega
     .simp only[show(Ty.fn a b).ail=4 from rfl,show(Ty.fn a b).aim=[a,b] from rfl,eN,show¬(4:Int)=1 by omega,show¬(4:Int)=2 by omega,show¬(4:Int)=3 by omega,if_true,lL,dA,fg,iq,lQ,cv];have aI:=Ty.iN a b;rw[ny g [a] acz];simp only[cv];have V:rO N (g++[a]):=hg.app (by intro s hs;rw[xV] at hs;subst hs;exact⟨ha,VW⟩)
      by_cases o:0<dep
      .have Y:=Y o;obtain⟨x,d5,a1,a2,a3⟩:=deep o (g++[a]) b d2 aaL V hb VW D;rw[a1];simp only[cN];rw[Ak VW (by have:=q o a3;omega)];refine jC.of a2 (.lam A a3.ty) ?_;have:=a3.ain;rw[Tm.cQ];simp only[db];omega
      .obtain⟨x,d5,a1,a2,a3⟩:=flat VW (g++[a]) b d2 aaL VW V hb D;rw[a1];simp only[cN];have:=a3.ain;rw[Ak VW (by have:=a3.wt;omega)];refine jC.of a2 (.lam A a3.ty) ?_;rw[Tm.cQ];simp only[db];omega
    .--a aJ,or one of aq context
     intro j W;simp only[fx]
     split
     .rename_i o;have Y:=Y o;obtain⟨x,d2,U,X,h3,C⟩:=jD d1 ak 8 VW VW;rw[U];simp only[cN,eN]
      have leaf:∀d,dd.wf d->∃s S,iu FU d 0=some (s,S)/\s.err=0/\s.ain=1/\S.wf:=by
       intro d hd;obtain⟨s,S,c1,c2,c3,c4⟩:=yW d hd 0 VW;have:=s.dr;exact⟨s,S,c1,c2,VW,c4⟩
      split
      .obtain⟨s,d3,s1,s2,s3,s4⟩:=leaf d2 C;rw[s1];simp only[cN];rw[ny g [s] acz];simp only[cv];obtain⟨a,d5,a1,a2,a3⟩:=deep o (g++[s]) t d3 aaL (hg.app (by intro u hu;rw[xV] at hu;subst hu;exact⟨s2,VW⟩)) A w s4;rw[a1];simp only[cN];rw[Ak VW (by have:=q o a3;omega)];simp only[cv];obtain⟨b,d6,H,I,v⟩:=deep o g s d5 VW hg s2 VW a2;rw[H];simp only[cN];have w1:=q o a3;rw[sN (by rw[Tm.ef];simp only[db];omega) (by have:=q o v;omega)];refine jC.of I (.app (.lam (Ty.xg s2 A VW) a3.ty) v.ty) ?_;have:=a3.ain;have:=v.ain;rw[Tm.cQ];simp only[db,Tm.cQ];omega
      split
      .obtain⟨s,d3,s1,s2,s3,s4⟩:=leaf d2 C;rw[s1];simp only[cN];obtain⟨a,d5,a1,a2,a3⟩:=deep o g t d3 VW hg A w s4;rw[a1];simp only[cN];obtain⟨b,d6,H,I,v⟩:=deep o g s d5 VW hg s2 VW a2;rw[H];simp only[cN];have w1:=q o a3;have w2:=q o v;rw[sN VW VW];simp only[cv];rw[JL (by rw[Tm.ef];have:Ty.z.ain=1:=rfl;simp only[db];omega)];refine jC.of I (.fst (.pair (Ty.Pw A s2 VW) a3.ty v.ty)) ?_;have:=a3.ain;have:=v.ain;rw[Tm.cQ];simp only[db,Tm.cQ];omega
      split
      .rw[eE];simp only[cv];rw[ny g [.nat,t] acz];simp only[cv]
       have V:rO N (g++[.nat,t]):=hg.app (by
        intro u hu;simp only[jr,vW,ta] at hu;rcases hu with rfl|rfl
        .exact⟨Ty.fM,by rw[Ty.gh];omega⟩
        .exact⟨A,w⟩)
       obtain⟨a,d5,a1,a2,a3⟩:=deep o (g++[.nat,t]) t d2 aaL V A w C;rw[a1];simp only[cN];have w1:=q o a3;have nn:=Ty.gh;rw[Ak VW VW];simp only[cv];rw[Ak VW (by rw[Tm.ef];simp only[db];omega)];simp only[cv];obtain⟨b,d6,H,I,v⟩:=deep o g t d5 VW hg A w a2;rw[H];simp only[cN];obtain⟨y,d7,y1,y2,y3,y4⟩:=jD d6 I 3 VW VW;rw[y1];simp only[cN];obtain⟨z,z1,z2⟩:=zl y y2 VW;rw[z1];simp only[cv];have w2:=q o v;have zn:=(z2 g).2;have zw:=z.hS (z2 g).1.ok
       have e1:(Tm.mk 2 0 .nat [Tm.mk 2 0 t [a]]).wt<=2000000:=by rw[Tm.ef];simp only[db,Tm.ef];omega
       rw[B5 VW VW VW VW];have Z:(Ty.fn t t).err=0:=Ty.xg A A VW;refine jC.of y4 (.tn A v.ty (.lam (Ty.xg Ty.fM Z (by rw[Ty.iN];omega)) (.lam Z (by simpa using a3.ty))) (z2 g).1) ?_;have:=a3.ain;have:=v.ain;rw[Tm.cQ];simp only[db,Tm.cQ];omega
      split
      .rw[eE,fD];simp only[cv];rw[ny g [.nat,.mw,t] acz];simp only[cv]
       have V:rO N (g++[.nat,.mw,t]):=hg.app (by
        intro u hu;simp only[jr,vW,ta] at hu;rcases hu with rfl|rfl|rfl
        .exact⟨Ty.fM,by rw[Ty.gh];omega⟩
        .exact⟨Ty.nx,by rw[Ty.nY];omega⟩
        .exact⟨A,w⟩)
       obtain⟨a,d5,a1,a2,a3⟩:=deep o (g++[.nat,.mw,t]) t d2 aaL V A w C;rw[a1];simp only[cN];have w1:=q o a3;have nn:=Ty.gh;have ln:=Ty.nY;rw[Ak VW VW];simp only[cv];rw[Ak VW (by rw[Tm.ef];simp only[db];omega)];simp only[cv];rw[Ak VW (by rw[Tm.ef];simp only[db,Tm.ef];omega)];simp only[cv];obtain⟨b,d6,H,I,v⟩:=deep o g t d5 VW hg A w a2;rw[H];simp only[cN];obtain⟨c,d7,c1,c2,c3⟩:=deep o g .mw d6 VW hg Ty.nx VW I;rw[c1];simp only[cN];have w2:=q o v;have w3:=q o c3
       have e1:(Tm.mk 2 0 .nat [Tm.mk 2 0 .mw [Tm.mk 2 0 t [a]]]).wt<=2000000:=by rw[Tm.ef];simp only[db,Tm.ef];omega
       rw[B5 VW VW VW VW];have Z:(Ty.fn t t).err=0:=Ty.xg A A VW;have af:(Ty.fn .mw (Ty.fn t t)).err=0:=Ty.xg Ty.nx Z (by rw[Ty.iN];omega);refine jC.of c2 (.fold A v.ty (.lam (Ty.xg Ty.fM af (by rw[Ty.iN,Ty.iN];omega)) (.lam af (.lam Z (by simpa using a3.ty)))) c3.ty) ?_;have:=a3.ain;have:=v.ain;have:=c3.ain;rw[Tm.cQ];simp only[db,Tm.cQ];omega
      split
      .obtain⟨s,d3,s1,s2,s3,s4⟩:=leaf d2 C;rw[s1];simp only[cN];obtain⟨a,d5,a1,a2,a3⟩:=deep o g s d3 VW hg s2 VW s4;rw[a1];simp only[cN];obtain⟨b,d6,H,I,v⟩:=deep o g t d5 VW hg A w a2;rw[H];simp only[cN];have w1:=q o a3;have w2:=q o v;rw[sN VW VW];simp only[cv];rw[JL (by rw[Tm.ef];have:Ty.z.ain=1:=rfl;simp only[db];omega)];refine jC.of I (.snd (.pair (Ty.Pw s2 A VW) a3.ty v.ty)) ?_;have:=a3.ain;have:=v.ain;rw[Tm.cQ];simp only[db,Tm.cQ];omega
      split
      .--a function of aq context
       rw[c8 VW,cY];simp only[c6]
       rcases Jg (λ_:Unit=>True) (λr:Tm×dd=>jC g t B (some r)) (F:=λ(K:Int) (aK:Ty) (_:Unit)=>
         cM (dg g (ea .i64 (ea .i64 (dp g) 1) K)) λJ=>
          if J.ail=4 then cM (dg J.aim 1) λan=>cM (eC FU an t) λao=>
           if ao then cM (eK K) λL=>cM (dg J.aim 0) λM=>cW (fj n d2 g M (ea .i64 dep 1)) λO P=>
            cM (eP 3 [L,O]) λQ=>some (dW.ret (Q,P))
           else some (dW.next ())
          else if false then cM (eK K) λL=>cM (dg J.aim 0) λM=>cW (fj n d2 g M (ea .i64 dep 1)) λO P=>
            cM (eP 3 [L,O]) λQ=>some (dW.ret (Q,P))
           else some (dW.next ())) g 0 () trivial (by
        intro k u s hk _;have aL:k<g.length:=(mI.1 hk).1
        have ad:g.length-1-k<g.length:=VW
        have e1:dg g (ea .i64 (ea .i64 (dp g) 1) ((0+k:Nat):Int))=some g[g.length-1-k]:=by
         rw[tH,ee,ep (a:=(g.length:Int)) (b:=1) VW VW,ep VW VW,show(g.length:Int)-1-(k:Int)=((g.length-1-k:Nat):Int) by omega,fV];simp[ad]
        simp only[e1,cv];have hf:=hg.all _ (Cy ad);have aw:g[g.length-1-k]?=some g[g.length-1-k]:=l5 ad;generalize g[g.length-1-k]=f at hf aw|-;rcases Ty.qo hf.1 with rfl|rfl|rfl|⟨a,b,rfl,ha,hb⟩|⟨a,b,rfl,ha,hb⟩
        .left;exact⟨(),rfl,trivial⟩
        .left;exact⟨(),rfl,trivial⟩
        .left;exact⟨(),rfl,trivial⟩
        .left;exact⟨(),rfl,trivial⟩
        .simp only[show(Ty.fn a b).ail=4 from rfl,show(Ty.fn a b).aim=[a,b] from rfl,eN,if_true,dA,fg,iq,lQ,cv];have aM:=hf.2;rw[Ty.iN] at aM;rw[hV VW];simp only[cv];cases hs:b.kW t with
         |false=>left;exact⟨(),rfl,trivial⟩|true=>
          rw[Ty.lS] at hs;subst hs;right;simp only[if_true,tH];rw[B7];simp only[cv];obtain⟨y,d5,a1,a2,a3⟩:=deep o g a d2 VW hg ha VW C;rw[a1];simp only[cN];have w1:=q o a3
          have e2:(Fo k).wt=2:=by unfold Fo;rw[Tm.ef];rfl
          rw[sN VW VW];refine⟨_,rfl,jC.of a2 (.app (afn k aL aw) a3.ty) ?_⟩;have:=a3.ain
          have e3:(Fo k).ain=1:=by unfold Fo;rw[Tm.cQ];rfl
          rw[Tm.cQ];simp only[db];omega)with⟨s,hs,_⟩|⟨r,hr,aN⟩
       .rw[hs];exact W d2 C
       .rw[hr];exact aN
      .exact W d2 C
     .exact W d1 ak
  .intro j W;simp only[fx,ee]
   split
   .rename_i o;obtain⟨x,d2,U,X,h3,C⟩:=jD d hd 3 VW VW;rw[U];simp only[cN];exact W _ d2 ⟨C,λ_ h=>by subst h;simp at o⟩
   .exact W _ d ⟨hd,λh=>by cases h⟩
inductive jP:List Ty->Fm->Prop
 |eq {g a b}:dH g a .nat->dH g b .nat->jP g (.mk 1 .z [a,b] [])|two {g k a b}:k=2\/k=3->jP g a->jP g b->jP g (.mk k .z [] [a,b])|q {g k s a}:k=4\/k=5\/k=6\/k=7->s.err=0->jP (g++[s]) a->jP g (.mk k s [] [a])
def jP.ok{g:List Ty}{f:Fm}(h:jP g f):f.ok=true:=by
 induction h with
 |eq c d=>simp[Fm.fX,Fm.node,Ty.pB,c.ok,d.ok]|two i _ _ j l=>
  rename_i k a b _ _
  have:¬k=1:=VW
  simp[Fm.fX,Fm.node,Ty.pB,i,this,j,l]
 |q i hs _ ih=>
  rename_i k s a _
  have c:¬k=1:=VW
  have d:¬(k=2\/k=3):=VW
  have n:jJ k=true:=by simp[jJ,i]
  simp[Fm.fX,Fm.node,c,d,n,hs,ih]
def F1{a b:Tm}(c:a.wt<=1000000000)(d:b.wt<=1000000000):kV a b=some (.mk 1 .z [a,b] []):=by
 unfold kV;rw[mj c,mj d];rfl
def FW{k:Int}{a b:Fm}(c:a.wt<=1000000000)(d:b.wt<=1000000000):kb k a b=some (.mk k .z [] [a,b]):=by
 unfold kb;rw[je c,je d];rfl
def EO{k:Int}{s:Ty}{a:Fm}(hs:s.ain<=1000000000)(b:a.wt<=1000000000):jm k s a=some (.mk k s [] [a]):=by
 unfold jm;rw[gV hs,je b];rfl
def fb:Nat->Nat
 |0=>115|k+1=>1+2*fb k
def aeo:∀k,k<=5->fb k<=3711:=by
 intro k a
 have:k=0\/k=1\/k=2\/k=3\/k=4\/k=5:=VW
 rcases this with rfl|rfl|rfl|rfl|rfl|rfl<;>decide
structure UI (g:List Ty) (f:Fm) (n:Nat):Prop where
 ty:jP g f
 ain:f.ain<=n
def UI.wt{g:List Ty}{f:Fm}{n:Nat}(h:UI g f n):f.wt<=65*n:=by
 have:=f.hS h.ty.ok;have:=h.ain;omega
theorem UI.err{g:List Ty}{f:Fm}{n:Nat}(h:UI g f n)(hn:n<=4096):f.err=0:=Fm.w8 h.ty.ok (by have:=h.ain;omega)
def s7(g:List Ty)(b:Nat)(o:Option (Fm×dd)):Prop:=∃x a,o=some (x,a)/\a.wf/\UI g x b
def s7.of{g:List Ty}{b:Nat}{x:Fm}{d:dd}(a:d.wf)(h:jP g x)(hn:x.ain<=b):s7 g b (some (x,d)):=⟨x,d,rfl,a,h,hn⟩
def Gx(N:Nat)(b:1<=N)(f:N<=20)(dep:Nat)(a:dep<=5)(g:List Ty)(t:Ty)(d:dd)(k:g.length<=600)(hg:rO N g)(h:t.err=0)(c:t.ain<=N)(i:d.wf):jC g t (tb N dep) (fj FU d g t (dep:Int)):=by
 have l:dep*(N+1)<=5*21:=Gf a VW;have n:(3+N)*dep<=23*5:=Gf VW a;obtain⟨x,j,a1,a2,a3⟩:=P0 N b f FU (dep:Int) g t d (by rw[d_];simp;omega) VW VW acz hg h c i;refine⟨x,j,a1,a2,a3.mono ?_⟩
 split
 .have:dep=0:=VW
  subst this;simp only[tb];omega
 .simp
def HX:∀(n k:Nat) (g:List Ty) (d:dd),k<n->k<=5->g.length+k<=500->rO 3 g->d.wf->s7 g (fb k) (hR n d g (k:Int)):=by
 intro n
 induction n with
 |zero=>intro k g d h;omega|succ n ih=>
  intro k g d T L hlen hg P;rw[hR];refine pz (G:=s7 g (fb k)) dd.wf ?_ ?_
  .intro d1 M;rw[eE];simp only[cv];obtain⟨a,d2,a1,a2,a3⟩:=Gx 3 VW VW 1 VW g .nat d1 VW hg Ty.fM (by rw[Ty.gh];omega) M;rw[show((1:Nat):Int)=1 from rfl] at a1;rw[a1];simp only[cN];obtain⟨b,d3,F,N,f⟩:=Gx 3 VW VW 1 VW g .nat d2 VW hg Ty.fM (by rw[Ty.gh];omega) a2;rw[show((1:Nat):Int)=1 from rfl] at F;rw[F];simp only[cN];have e:tb 3 1=57:=rfl;rw[e] at a3 f;rw[F1 (by have:=a3.wt;omega) (by have:=f.wt;omega)];refine s7.of N (.eq a3.ty f.ty) ?_;have:=a3.ain;have:=f.ain
   have Y:115<=fb k:=by
    clear T L hlen ih
    induction k with
    |zero=>simp[fb]|succ k ih=>simp only[fb];omega
   rw[Fm.cQ];simp only[db];omega
  .intro j Q;simp only[fx]
   split
   .rename_i R;obtain⟨m,rfl⟩:∃m,k=m+1:=⟨k-1,VW⟩
    have U:ea .i64 ((m+1:Nat):Int) 1=(m:Int):=by rw[ep VW VW];omega
    have V:=aeo m VW
    have deep:∀l H,l.length<=g.length+1->rO 3 l->H.wf->s7 l (fb m) (hR n H l (ea .i64 ((m+1:Nat):Int) 1)):=by
     intro l H I J S;rw[U];exact ih m l H VW VW VW J S
    have ctx:∀s:Ty,s.err=0->s.ain<=3->rO 3 (g++[s]):=λs I J=>hg.app (by intro u hu;rw[xV] at hu;subst hu;exact⟨I,J⟩);obtain⟨x,d2,I,J,S,K⟩:=jD d P 9 VW VW;rw[I];simp only[cN,kP,rl,eN]
    have two:∀c:Int,c=2\/c=3->s7 g (fb (m+1)) (cW (hR n d2 g (ea .i64 ((m+1:Nat):Int) 1)) λo d317=>cW (hR n d317 g (ea .i64 ((m+1:Nat):Int) 1)) λr d321=>cM (kb c o r) λt=>some (t,d321)):=by
     intro c v;obtain⟨a,d3,a1,a2,a3⟩:=deep g d2 VW hg K;rw[a1];simp only[cN];obtain⟨b,d4,F,N,f⟩:=deep g d3 VW hg a2;rw[F];simp only[cN];rw[FW (by have:=a3.wt;omega) (by have:=f.wt;omega)];refine s7.of N (.two v a3.ty f.ty) ?_;have:=a3.ain;have:=f.ain;rw[Fm.cQ];simp only[db,fb];omega
    split
    .exact two 2 (.inl rfl)
    split
    .exact two 3 (.inr rfl)
    have one:∀c:Int,c=4\/c=5->s7 g (fb (m+1)) (cW (iu FU d2 1) λi w=>cM (lr g [i]) λA=>cW (hR n w A (ea .i64 ((m+1:Nat):Int) 1)) λB C=>cM (jm c i B) λD=>some (D,C)):=by
     intro c v;obtain⟨s,d3,s1,s2,W,O⟩:=yW d2 K 1 VW;rw[show((1:Nat):Int)=1 from rfl] at s1;rw[s1];simp only[cN];rw[ny g [s] acz];simp only[cv];obtain⟨a,d4,a1,a2,a3⟩:=deep (g++[s]) d3 aaL (ctx s s2 VW) O;rw[a1];simp only[cN];rw[EO VW (by have:=a3.wt;omega)];refine s7.of a2 (.q VW s2 a3.ty) ?_;have:=a3.ain;rw[Fm.cQ];simp only[db,fb];omega
    split
    .exact one 4 (.inl rfl)
    split
    .exact one 5 (.inr rfl)
    split
    .obtain⟨s,d3,s1,s2,W,O⟩:=yW d2 K 0 VW;rw[show((0:Nat):Int)=0 from rfl] at s1;rw[s1];simp only[cN];obtain⟨y,d5,X,Z,y3,y4⟩:=jD d3 O 2 VW VW;rw[X];simp only[cN];rw[ny g [s] acz];simp only[cv];obtain⟨a,d4,a1,a2,a3⟩:=deep (g++[s]) d5 aaL (ctx s s2 VW) y4;rw[a1];simp only[cN];rw[dP VW VW,EO VW (by have:=a3.wt;omega)];refine s7.of a2 (.q VW s2 a3.ty) ?_;have:=a3.ain;rw[Fm.cQ];simp only[db,fb];omega
    .exact Q d2 K
   .exact Q d P
def LA(k:Nat)(a:k<=5)(g:List Ty)(d:dd)(c:g.length<=400)(hg:rO 3 g)(b:d.wf):s7 g (fb k) (hR FU d g (k:Int)):=
 HX FU k g d (by rw[d_];omega) a VW hg b
def acW(l:List Int)(h:l.length<=1000):(dd.mk l 0).wf:=⟨h,aaL,aaL⟩
def vM(l:List Ty):Int:=if 16<l.length then 3 else eH (l.map Ty.err)
def wx(l:List Ty)(f:l.length<=1000000)(h:∀t∈l,t.ain<=1000000000):my l=some (vM l):=by
 unfold my vM;simp only[fx,ee,c8 (l:=l) VW,cY,c6]
 by_cases b:16<l.length
 .rw[cS VW,cS b]
 .rw[cO VW,cO b]
  have key:=j3 (F:=λ(j:Int) (x:Ty) (_:Unit)=>cM (k5 x) λa=>if dx a 0 then some (dW.ret a)else some (dW.next ())) Ty.err l 0 (by
   intro j x d;rw[yl (h x d)]
   simp only[cv,c_])
  simp only[c_] at key|-;rw[key]
  by_cases c:eH (l.map Ty.err)=0
  .simp[c]
  .simp[c]
def rV(l:List Ty)(f:l.length<=1000000)(h:∀t∈l,t.ain<=1000000000):k8 l=some (vM l):=by
 unfold k8 vM;simp only[fx,ee,c8 (l:=l) VW,cY,c6]
 by_cases b:16<l.length
 .rw[cS VW,cS b]
 .rw[cO VW,cO b]
  have key:=j3 (F:=λ(j:Int) (x:Ty) (_:Unit)=>cM (hU x) λa=>if dx a 0 then some (dW.ret a)else some (dW.next ())) Ty.err l 0 (by
   intro j x d;rw[lC (h x d)]
   simp only[cv,c_])
  simp only[c_] at key|-;rw[key]
  by_cases c:eH (l.map Ty.err)=0
  .simp[c]
  .simp[c]
def wM:∀(n:Nat) (a b:Ty),a.ain<=n->a.ain<=1000000000->∃r,fN n a b=some r/\(r=true↔a=b):=by
 intro n
 induction n with
 |zero=>intro t b h;have:=t.dr;omega
 |succ n ih=>
  intro a b h s;cases a with
  |mk k l=>
  cases b with
  |mk k' m=>
   rw[Ty.cQ] at h s;have u:=Ty.ek l;rw[fN];simp only[Ty.di,Ty.dq,c6,c8 (l:=l) VW,cY,kP,rl,c_,ee]
   by_cases d:k≠k'\/(l.length:Int)≠m.length
   .rw[cS d];refine⟨false,rfl,?_⟩;simp only[pc,OS,Ty.mk.injEq,not_and];rintro rfl rfl;simp at d
   .rw[cO d];simp only[not_or,wK] at d;obtain⟨rfl,hlen⟩:=d
    have c:l.length=m.length:=VW
    let p:Ty->Ty->Bool:=λx y=>(fN n x y).getD false
    have o:∀x∈l,∀y,fN n x y=some (p x y)/\(p x y=true↔x=y):=by
     intro x f y;have:=dk Ty.ain f;obtain⟨r,q,i⟩:=ih x y VW VW
     have e:p x y=r:=by show(fN n x y).getD false=r;rw[q];rfl
     rw[e];exact⟨q,i⟩
    have key:=wc (F:=λ(j:Int) (x:Ty) (_:Unit)=>cM (dg m j) λy=>cM (fN n x y) λz=>if z then some (dW.next ())else some (dW.ret false)) p m l 0 m rfl c (by
     intro k x y f hy;rw[fV,hy];simp only[cv];rw[(o x f y).1]
     rfl)
    rw[key];have he:=wv p l m λx f y=>(o x f y).2;cases i:uE p l m with
    |false=>exact⟨false,rfl,by rw[i] at he;simpa using he⟩
    |true=>exact⟨true,rfl,by rw[i] at he;simpa using he⟩
def wL:∀(n:Nat) (a b:Tm),a.wt<=n->a.wt<=1000000000->∃r,ic n a b=some r/\(r=true↔a=b):=by
 intro n
 induction n with
 |zero=>intro t b h;have:=t.gM;omega
 |succ n ih=>
  intro a b h G;cases a with
  |mk k i s l=>
  cases b with
  |mk k' f v m=>
   rw[Tm.ef] at h G;have I:=Tm.oe l;rw[ic];simp only[Tm.di,Tm.dq,Tm.eY,Tm.dV,c6,c8 (l:=l) VW,cY,c_,ee]
   have no:¬(k=k'/\i=f/\s=v/\l.length=m.length)->∃r,some false=some r/\(r=true↔Tm.mk k i s l=Tm.mk k' f v m):=by
    intro hn;refine⟨false,rfl,?_⟩;simp only[pc,OS,Tm.mk.injEq,not_and];rintro rfl rfl rfl rfl;exact hn ⟨rfl,rfl,rfl,rfl⟩
   by_cases o:k≠k'
   .rw[cS o,cS trivial];exact no λh=>o h.1
   .rw[cO o]
    by_cases hi:i≠f
    .rw[cS hi,cS trivial];exact no λh=>hi h.2.1
    .rw[cO hi];obtain⟨r,H,B⟩:=wM FU s v (by rw[d_];omega) VW;rw[H];simp only[cv]
     by_cases q:r=true
     .have hs:=B.1 q;rw[cS q]
      by_cases hlen:(l.length:Int)≠m.length
      .rw[cS hlen];exact no λh=>hlen VW
      .rw[cO hlen]
       have c:l.length=m.length:=VW
       let p:Tm->Tm->Bool:=λx y=>(ic n x y).getD false
       have C:∀x∈l,∀y,ic n x y=some (p x y)/\(p x y=true↔x=y):=by
        intro x d y;have:=dk Tm.wt d;obtain⟨r,D,u⟩:=ih x y VW VW
        have e:p x y=r:=by show(ic n x y).getD false=r;rw[D];rfl
        rw[e];exact⟨D,u⟩
       have key:=wc (F:=λ(j:Int) (x:Tm) (_:Unit)=>cM (dg m j) λy=>cM (ic n x y) λz=>if z then some (dW.next ())else some (dW.ret false)) p m l 0 m rfl c (by
        intro k x y d hy;rw[fV,hy];simp only[cv];rw[(C x d y).1]
        rfl)
       rw[key];have he:=wv p l m λx d y=>(C x d y).2;have w:k=k':=wK.1 o;have hi':i=f:=wK.1 hi;cases u:uE p l m with
       |false=>
        refine⟨false,rfl,?_⟩;rw[u] at he;simp only[pc,OS,Tm.mk.injEq,not_and];intro _ _ _ A;exact absurd (he.2 A) aaL
       |true=>
        refine⟨true,rfl,?_⟩;rw[u] at he;simp only[true_iff,Tm.mk.injEq];exact⟨w,hi',hs,he.1 rfl⟩
     .rw[cO q,cS trivial];exact no λh=>q (B.2 h.2.2.1)
def HG:∀(n:Nat) (a b:Tm),a.wt<=n->a.wt<=1000000000->∃r,kR n a b=some r/\(r=true↔a=b):=by
 intro n
 induction n with
 |zero=>intro t b h;have:=t.gM;omega
 |succ n ih=>
  intro a b h G;cases a with
  |mk k i s l=>
  cases b with
  |mk k' f v m=>
   rw[Tm.ef] at h G;have I:=Tm.oe l;rw[kR];simp only[Tm.di,Tm.dq,Tm.eY,Tm.dV,c6,c8 (l:=l) VW,cY,c_,ee]
   have no:¬(k=k'/\i=f/\s=v/\l.length=m.length)->∃r,some false=some r/\(r=true↔Tm.mk k i s l=Tm.mk k' f v m):=by
    intro hn;refine⟨false,rfl,?_⟩;simp only[pc,OS,Tm.mk.injEq,not_and];rintro rfl rfl rfl rfl;exact hn ⟨rfl,rfl,rfl,rfl⟩
   by_cases o:k≠k'
   .rw[cS o,cS trivial];exact no λh=>o h.1
   .rw[cO o]
    by_cases hi:i≠f
    .rw[cS hi,cS trivial];exact no λh=>hi h.2.1
    .rw[cO hi];obtain⟨r,H,B⟩:=vD FU s v (by rw[d_];omega) VW;rw[H];simp only[cv]
     by_cases q:r=true
     .have hs:=B.1 q;rw[cS q]
      by_cases hlen:(l.length:Int)≠m.length
      .rw[cS hlen];exact no λh=>hlen VW
      .rw[cO hlen]
       have c:l.length=m.length:=VW
       let p:Tm->Tm->Bool:=λx y=>(kR n x y).getD false
       have C:∀x∈l,∀y,kR n x y=some (p x y)/\(p x y=true↔x=y):=by
        intro x d y;have:=dk Tm.wt d;obtain⟨r,D,u⟩:=ih x y VW VW
        have e:p x y=r:=by show(kR n x y).getD false=r;rw[D];rfl
        rw[e];exact⟨D,u⟩
       have key:=wc (F:=λ(j:Int) (x:Tm) (_:Unit)=>cM (dg m j) λy=>cM (kR n x y) λz=>if z then some (dW.next ())else some (dW.ret false)) p m l 0 m rfl c (by
        intro k x y d hy;rw[fV,hy];simp only[cv];rw[(C x d y).1]
        rfl)
       rw[key];have he:=wv p l m λx d y=>(C x d y).2;have w:k=k':=wK.1 o;have hi':i=f:=wK.1 hi;cases u:uE p l m with
       |false=>
        refine⟨false,rfl,?_⟩;rw[u] at he;simp only[pc,OS,Tm.mk.injEq,not_and];intro _ _ _ A;exact absurd (he.2 A) aaL
       |true=>
        refine⟨true,rfl,?_⟩;rw[u] at he;simp only[true_iff,Tm.mk.injEq];exact⟨w,hi',hs,he.1 rfl⟩
     .rw[cO q,cS trivial];exact no λh=>q (B.2 h.2.2.1)
def vB{a b:Tm}(hw:a.wt<=1000000000):∃r,qg a b=some r/\(r=true↔a=b):=by
 obtain⟨r,c,d⟩:=wL FU a b (by rw[d_];exact hw) hw;exact⟨r,by unfold qg;rw[c];rfl,d⟩
def MB:∀(k:Nat) (m:Int) (t:Tm),(t.norm k m).2.2=0\/(t.norm k m).2.2=4\/(t.norm k m).2.2=5
 |0,m,t=>by
  rw[Tm.norm]
  split
  .exact .inl rfl
  .exact .inr (.inr rfl)
 |k+1,m,t=>by
  rw[Tm.norm]
  split
  .exact .inr (.inl rfl)
  .exact .inl rfl
  .exact MB k _ _
def Fl:∀(k:Nat) (M m:Int) (t a:Tm) (n:Int),0<=M->Sm M t->t.ain<=4096->t.norm k m=(a,n,0)->Sm (M+8192*k) a/\a.ain<=4096
 |0,M,m,t,a,n,d,hs,hn,h=>by
  rw[Tm.norm] at h
  split at h
  .obtain⟨b,h⟩:=gy h;rw[<-b];exact⟨hs.mono VW,hn⟩
  .cases h
 |k+1,M,m,t,a,n,d,hs,hn,h=>by
  rw[Tm.norm] at h
  split at h
  .cases h
  .obtain⟨b,h⟩:=gy h;rw[<-b];exact⟨hs.mono VW,hn⟩
  .rename_i f c;obtain⟨i,j,l⟩:=J6 d t hs VW f c;obtain⟨a1,a2⟩:=Fl k (M+8192) (m+1) f a n VW ⟨i,j,VW⟩ VW h;exact⟨a1.mono VW,a2⟩
def SA(l:List Int):Fu l=some (decide (l.length<=500)):=by
 unfold Fu
 congr 1
 unfold Hl dp;exact Pt.2 VW
def yx{k:Int}(a:k≠1)(c:k≠2)(f b i:Int)(s:Ty)(l:List Tm):(Tm.mk k i s l).up f b=.mk k i s (l.map (Tm.up f b)):=by
 rw[Tm.kI,cO (λh=>a h.1)];unfold eZ;rw[cO c,xZ]
def aa4(f b i:Int)(s:Ty)(l:List Tm):(Tm.mk 2 i s l).up f b=.mk 2 i s (l.map (Tm.up (f+1) b)):=by
 rw[Tm.kI,cO (λh=>by have:=h.1;omega)];rfl
def ud{k:Int}(b:k≠1)(c:k≠2)(n i:Int)(a:Tm)(s:Ty)(l:List Tm):Tm.iI n (Tm.mk k i s l) a=.mk k i s (l.map λx=>Tm.iI n x a):=by
 rw[Tm.mY,cO b];unfold eZ;rw[cO c,xZ]
def XV(n i:Int)(a:Tm)(s:Ty)(l:List Tm):Tm.iI n (Tm.mk 2 i s l) a=.mk 2 i s (l.map λx=>Tm.iI (n+1) x a):=by
 rw[Tm.mY,cO aaB];rfl
def EW{g:List Ty}{t:Ty}{i j:Nat}(h:g[j]?=some t)(hi:i<g.length)(a:g.length-1-i=j):dH g (.mk 1 i .z []) t:=.var i hi (by rw[a];exact h)
def dH.up{g:List Ty}{x:Tm}{t:Ty}(h:dH g x t):∀g1 g2 e:List Ty,g=g1++g2->dH (g1++e++g2) (x.up g2.length e.length) t:=by
 induction h with
 |@var g t i d k=>
  rintro g1 g2 e rfl;rw[Tm.kI,NM];rw[rF] at d
  by_cases hi:g2.length<=i
  .rw[cS ⟨rfl,VW⟩,show(i:Int)+e.length=((i+e.length:Nat):Int) by push_cast;rfl];refine EW (j:=g1.length+g2.length-1-i) ?_ (by simp<;>omega) (by simp<;>omega);rw[rF,tz VW] at k;rw[s6,tz VW];exact k
  .rw[cO (λh=>by have:=h.2;omega)];refine EW (j:=g1.length+e.length+(g2.length-1-i)) ?_ (by simp<;>omega) (by simp<;>omega);rw[rF,xT VW] at k;rw[xT (by simp<;>omega)];rw[<-k]
   congr 1
   simp;omega
 |@lam g s b t d _ ih=>
  rintro g1 g2 e rfl;have:=ih g1 (g2++[s]) e (by rw[s6]);rw[aa4];refine .lam d ?_;rw[rF,<-s6] at this;exact this
 |app _ _ a c=>intro g1 g2 e hg;rw[yx aaB aaB];exact .app (a g1 g2 e hg) (c g1 g2 e hg)|zero=>intro g1 g2 e hg;rw[yx aaB aaB];exact .zero|succ _ ih=>intro g1 g2 e hg;rw[yx aaB aaB];exact .succ (ih g1 g2 e hg)|tn d _ _ _ a c f=>intro g1 g2 e hg;rw[yx aaB aaB];exact .tn d (a g1 g2 e hg) (c g1 g2 e hg) (f g1 g2 e hg)|nil=>intro g1 g2 e hg;rw[yx aaB aaB];exact .nil|cons _ _ a c=>intro g1 g2 e hg;rw[yx aaB aaB];exact .cons (a g1 g2 e hg) (c g1 g2 e hg)|fold d _ _ _ a c f=>intro g1 g2 e hg;rw[yx aaB aaB];exact .fold d (a g1 g2 e hg) (c g1 g2 e hg) (f g1 g2 e hg)|pair d _ _ a c=>intro g1 g2 e hg;rw[yx aaB aaB];exact .pair d (a g1 g2 e hg) (c g1 g2 e hg)|fst _ ih=>intro g1 g2 e hg;rw[yx aaB aaB];exact .fst (ih g1 g2 e hg)|snd _ ih=>intro g1 g2 e hg;rw[yx aaB aaB];exact .snd (ih g1 g2 e hg)|unit=>intro g1 g2 e hg;rw[yx aaB aaB];exact .unit
theorem dH.iI{g:List Ty}{x:Tm}{t:Ty}(h:dH g x t):∀(g1:List Ty) (s:Ty) (g2:List Ty) (a:Tm),g=g1++[s]++g2->dH g1 a s->dH (g1++g2) (Tm.iI g2.length x a) t:=by
 induction h with
 |@var g t i k l=>
  rintro g1 s g2 a rfl c;rw[Tm.mY,cS rfl];unfold Tm.tV;simp only[rF,kY,wC] at k l
  by_cases he:(i:Int)=g2.length
  .rw[cS he]
   have o:s=t:=by
    rw[s6,xT VW,tz (by simp<;>omega)] at l;rw[show g1.length+(0+1)+g2.length-1-i-g1.length=0 by omega] at l;exact fQ l
   subst o;have:=c.up g1 [] g2 aaL;simpa using this
  .rw[cO he]
   by_cases hi:(g2.length:Int)<i
   .rw[cS hi,show(i:Int)-1=((i-1:Nat):Int) by omega];refine EW (j:=g1.length+g2.length-i) ?_ (by simp<;>omega) (by simp<;>omega);rw[s6,tz VW] at l;rw[tz VW,<-l]
    congr 1
    omega
   .rw[cO hi];refine EW (j:=g1.length+(g2.length-1-i)) ?_ (by simp<;>omega) (by simp<;>omega);rw[xT (by simp<;>omega)] at l;rw[xT VW,<-l]
    congr 1
    simp;omega
 |@lam g s b t k _ ih=>
  rintro g1 u g2 a rfl c;have:=ih g1 u (g2++[s]) a (by simp only[s6]) c;rw[XV];refine .lam k ?_;rw[rF,<-s6] at this;exact this
 |app _ _ d f=>intro g1 s g2 a hg c;rw[ud aaB aaB];exact .app (d g1 s g2 a hg c) (f g1 s g2 a hg c)|zero=>intro g1 s g2 a hg c;rw[ud aaB aaB];exact .zero|succ _ ih=>intro g1 s g2 a hg c;rw[ud aaB aaB];exact .succ (ih g1 s g2 a hg c)|tn k _ _ _ d f n=>intro g1 s g2 a hg c;rw[ud aaB aaB];exact .tn k (d g1 s g2 a hg c) (f g1 s g2 a hg c) (n g1 s g2 a hg c)|nil=>intro g1 s g2 a hg c;rw[ud aaB aaB];exact .nil|cons _ _ d f=>intro g1 s g2 a hg c;rw[ud aaB aaB];exact .cons (d g1 s g2 a hg c) (f g1 s g2 a hg c)|fold k _ _ _ d f n=>intro g1 s g2 a hg c;rw[ud aaB aaB];exact .fold k (d g1 s g2 a hg c) (f g1 s g2 a hg c) (n g1 s g2 a hg c)|pair k _ _ d f=>intro g1 s g2 a hg c;rw[ud aaB aaB];exact .pair k (d g1 s g2 a hg c) (f g1 s g2 a hg c)|fst _ ih=>intro g1 s g2 a hg c;rw[ud aaB aaB];exact .fst (ih g1 s g2 a hg c)|snd _ ih=>intro g1 s g2 a hg c;rw[ud aaB aaB];exact .snd (ih g1 s g2 a hg c)|unit=>intro g1 s g2 a hg c;rw[ud aaB aaB];exact .unit
def Ty.acw{a b c d:Ty}(h:Ty.fn a b=Ty.fn c d):a=c/\b=d:=by unfold Ty.fn at h;simpa using h
def Ty.TT{a b c d:Ty}(h:Ty.pr a b=Ty.pr c d):a=c/\b=d:=by unfold Ty.pr at h;simpa using h
theorem dH.eT{g:List Ty}{x:Tm}{t:Ty}(h:dH g x t)(o:x.root=true):dH g x.eT t:=by
 cases h with
 |@app _ f a s _ c k=>
  have d:f.ail=2:=by simpa[Tm.root,Tm.kd] using o
  generalize r:Ty.fn s t=q at c
  cases c<;>simp only[Tm.dq] at d<;>first|omega|skip
  rename_i A b w i j;obtain⟨rfl,rfl⟩:=Ty.acw r;have:=j.iI g s [] a aaL k;simpa[Tm.eT] using this
 |@tn _ _ b s n c k i j=>
  have d:n.ail=4\/n.ail=5:=by simpa[Tm.root,Tm.kd] using o
  cases j<;>simp only[Tm.dq] at d<;>first|omega|skip
  .simpa[Tm.eT] using k
  .rename_i m l;have:=dH.app (.app i l) (dH.tn c k i l);simpa[Tm.eT,lh,Ty.z] using this
 |@fold _ _ b s n c k i j=>
  have d:n.ail=7\/n.ail=8:=by simpa[Tm.root,Tm.kd] using o
  cases j<;>simp only[Tm.dq] at d<;>first|omega|skip
  .simpa[Tm.eT] using k
  .rename_i u v l y;have:=dH.app (.app (.app i l) y) (dH.fold c k i y);simpa[Tm.eT,lh,Ty.z] using this
 |@fst _ a s w c=>
  have d:a.ail=10:=by simpa[Tm.root,Tm.kd] using o
  generalize r:Ty.pr t w=q at c
  cases c<;>simp only[Tm.dq] at d<;>first|omega|skip
  rename_i i j l;obtain⟨rfl,rfl⟩:=Ty.TT r;simpa[Tm.eT] using j
 |@snd _ a s w c=>
  have d:a.ail=10:=by simpa[Tm.root,Tm.kd] using o
  generalize r:Ty.pr s t=q at c
  cases c<;>simp only[Tm.dq] at d<;>first|omega|skip
  rename_i i j l;obtain⟨rfl,rfl⟩:=Ty.TT r;simpa[Tm.eT] using l
 |_=>simp[Tm.root] at o
def lq{r k i:Int}{s:Ty}{l:List Tm}{b:Tm}(h:(Tm.mk k i s l).JM r=some (some b)):((Tm.mk k i s l).root=true/\b=(Tm.mk k i s l).eT)\/∃a,Tm.rD r l=some (some a)/\b=.mk k i s a:=by
 rw[Tm.Ay] at h
 by_cases c:(Tm.mk k i s l).root=true
 .rw[cS c] at h
  split at h
  . cases h
  . exact .inl ⟨c,(fQ (fQ h)).symm⟩
 .rw[cO c] at h;cases e:Tm.rD r l with
  |none=>rw[e] at h;cases h
  |some o=>
    cases o with
    |none=>rw[e] at h;cases h
    |some a=>rw[e] at h;exact .inr ⟨a,rfl,(fQ (fQ h)).symm⟩
def jL{r:Int}{a:Tm}{l c:List Tm}(h:Tm.rD r (a::l)=some (some c)):(∃b,a.JM r=some (some b)/\c=b::l)\/∃m,Tm.rD r l=some (some m)/\c=a::m:=by
 rw[Tm.rD] at h;cases e:a.JM r with
 |none=>rw[e] at h;cases h
 |some o=>
  cases o with
  |some b=>rw[e] at h;exact .inl ⟨b,rfl,(fQ (fQ h)).symm⟩
  |none=>
   rw[e] at h;dsimp only at h;cases d:Tm.rD r l with
   |none=>rw[d] at h;cases h
   |some o2=>
    cases o2 with
    |none=>rw[d] at h;cases h
    |some m=>rw[d] at h;exact .inr ⟨m,rfl,(fQ (fQ h)).symm⟩
def mX{r:Int}{a:List Tm}(h:Tm.rD r []=some (some a)):False:=by rw[Tm.rD] at h;cases h
def dH.JM{r:Int}{g:List Ty}{x:Tm}{t:Ty}(h:dH g x t):∀o,x.JM r=some (some o)->dH g o t:=by
 induction h with
 |var i c j=>
  intro o hs;rcases lq hs with⟨d,rfl⟩|⟨u,f,rfl⟩
  .exact(dH.var i c j).eT d
  .exact(mX f).elim
 |lam c j ih=>
  intro o hs;rcases lq hs with⟨d,rfl⟩|⟨u,f,rfl⟩
  .exact(dH.lam c j).eT d
  .rcases jL f with⟨q,a,b⟩|⟨m,a,b⟩
   .subst_vars;exact .lam c (ih _ a)
   .exact(mX a).elim
 |app c j k l=>
  intro o hs;rcases lq hs with⟨d,rfl⟩|⟨u,f,rfl⟩
  .exact(dH.app c j).eT d
  .rcases jL f with⟨q,a,b⟩|⟨m,a,b⟩
   .subst_vars;exact .app (k _ a) j
   .rcases jL a with⟨q,n,b⟩|⟨m,n,b⟩
    .subst_vars;exact .app c (l _ n)
    .exact(mX n).elim
 |zero=>
  intro o hs;rcases lq hs with⟨d,rfl⟩|⟨u,f,rfl⟩
  .exact dH.zero.eT d
  .exact(mX f).elim
 |succ c ih=>
  intro o hs;rcases lq hs with⟨d,rfl⟩|⟨u,f,rfl⟩
  .exact(dH.succ c).eT d
  .rcases jL f with⟨q,a,b⟩|⟨m,a,b⟩
   .subst_vars;exact .succ (ih _ a)
   .exact(mX a).elim
 |tn s c j v k l w=>
  intro o hs;rcases lq hs with⟨d,rfl⟩|⟨u,f,rfl⟩
  .exact(dH.tn s c j v).eT d
  .rcases jL f with⟨q,a,b⟩|⟨m,a,b⟩
   .subst_vars;exact .tn s (k _ a) j v
   .rcases jL a with⟨q,n,b⟩|⟨m,n,b⟩
    .subst_vars;exact .tn s c (l _ n) v
    .rcases jL n with⟨q,y,b⟩|⟨m,y,b⟩
     .subst_vars;exact .tn s c j (w _ y)
     .exact(mX y).elim
 |nil=>
  intro o hs;rcases lq hs with⟨d,rfl⟩|⟨u,f,rfl⟩
  .exact dH.nil.eT d
  .exact(mX f).elim
 |cons c j k l=>
  intro o hs;rcases lq hs with⟨d,rfl⟩|⟨u,f,rfl⟩
  .exact(dH.cons c j).eT d
  .rcases jL f with⟨q,a,b⟩|⟨m,a,b⟩
   .subst_vars;exact .cons (k _ a) j
   .rcases jL a with⟨q,n,b⟩|⟨m,n,b⟩
    .subst_vars;exact .cons c (l _ n)
    .exact(mX n).elim
 |fold s c j v k l w=>
  intro o hs;rcases lq hs with⟨d,rfl⟩|⟨u,f,rfl⟩
  .exact(dH.fold s c j v).eT d
  .rcases jL f with⟨q,a,b⟩|⟨m,a,b⟩
   .subst_vars;exact .fold s (k _ a) j v
   .rcases jL a with⟨q,n,b⟩|⟨m,n,b⟩
    .subst_vars;exact .fold s c (l _ n) v
    .rcases jL n with⟨q,y,b⟩|⟨m,y,b⟩
     .subst_vars;exact .fold s c j (w _ y)
     .exact(mX y).elim
 |pair s c j k l=>
  intro o hs;rcases lq hs with⟨d,rfl⟩|⟨u,f,rfl⟩
  .exact(dH.pair s c j).eT d
  .rcases jL f with⟨q,a,b⟩|⟨m,a,b⟩
   .subst_vars;exact .pair s (k _ a) j
   .rcases jL a with⟨q,n,b⟩|⟨m,n,b⟩
    .subst_vars;exact .pair s c (l _ n)
    .exact(mX n).elim
 |fst c ih=>
  intro o hs;rcases lq hs with⟨d,rfl⟩|⟨u,f,rfl⟩
  .exact(dH.fst c).eT d
  .rcases jL f with⟨q,a,b⟩|⟨m,a,b⟩
   .subst_vars;exact .fst (ih _ a)
   .exact(mX a).elim
 |snd c ih=>
  intro o hs;rcases lq hs with⟨d,rfl⟩|⟨u,f,rfl⟩
  .exact(dH.snd c).eT d
  .rcases jL f with⟨q,a,b⟩|⟨m,a,b⟩
   .subst_vars;exact .snd (ih _ a)
   .exact(mX a).elim
 |unit=>
  intro o hs;rcases lq hs with⟨d,rfl⟩|⟨u,f,rfl⟩
  .exact dH.unit.eT d
  .exact(mX f).elim
def dH.norm{g:List Ty}{t:Ty}:∀(k:Nat) (m:Int) (x a:Tm) (n:Int),dH g x t->x.norm k m=(a,n,0)->dH g a t
 |0,m,x,a,n,b,h=>by
  rw[Tm.norm] at h
  split at h
  .obtain⟨c,_⟩:=gy h;rw[<-c];exact b
  .cases h
 |k+1,m,x,a,n,b,h=>by
  rw[Tm.norm] at h
  split at h
  .cases h
  .obtain⟨c,_⟩:=gy h;rw[<-c];exact b
  .rename_i d hs;exact dH.norm k (m+1) d a n (b.JM _ hs) h
def RN(k:Int):gD k<=3:=by unfold gD;repeat' (first|omega|split)
def Tm.afQ{k i:Int}{s:Ty}{l:List Tm}(h:(Tm.mk k i s l).ok=true):l.length<=3:=by
 have:=Tm.vO h;have:=RN k;omega
def abL(x:Tm):Tm.mk x.ail x.aio (Ty.mk x.cT.ail x.cT.aim) x.aim=x:=by
 cases x with
 |mk k i s l=>cases s;rfl
def k6{a:Ty}(h:a.ain<=1000000000):eC FU a a=some true:=by
 obtain⟨r,b,c⟩:=vD FU a a (by rw[d_];exact h) h;rw[b,c.2 rfl]
def ok_eq{t:Ty}(h:t.err=0):sK t=some (t,0):=by
 unfold sK;rw[lC (by have:=(Ty.kG h).2;omega),h];rfl
def ed{t:Ty}(h:t.err=0):t.ain<=64:=by have:=(Ty.kG h).2;omega
inductive TL (n:Nat) (g:List Ty):List Tm->List Ty->Prop
 |nil:TL n g [] []|cons {a:Tm} {t:Ty} {l:List Tm} {ts:List Ty}:ez n g a=some (t,0)->TL n g l ts->TL n g (a::l) (t::ts)
def nJ{n:Nat}{g:List Ty}:∀{l:List Tm} {ts:List Ty} (i:Nat) (v:List Ty),TL n g l ts->v.length+l.length<=1000->dF (λ(f:Int) (d:Tm)=>(λ(a:List Ty)=>
   cW (ez n g d) λb c=>
   if(dx c 0) then(
   some (dW.ret ((Ty.mk 0 []),c)))
   else(e_ (eI a [b])<|some (.next (fk a [b])))):Int->Tm->((List Ty))->(Option (dW ((List Ty)) (Ty×Int)))) l i v=some (.inl (v++ts))
 |_,_,i,v,.nil,_=>by simp|_,_,i,v,.cons h j,k=>by
  simp only[kY] at k;rw[dB];simp only[h,cN];rw[cO aaB,dT acz];simp only[cY,cv,dR];rw[nJ (i+1) _ j (by rw[fu];simp;omega),fu];simp
def VU{g:List Ty}{x:Tm}{t:Ty}(h:dH g x t):(∀s∈g,s.err=0)->t.err=0/\∀n:Nat,x.ain<=n->g.length+x.ain<=1000000->ez n g x=some (t,0):=by
 induction h with
 |@var g t i y C=>
  intro hg;have A:=hg t (CO C);refine⟨A,λn hn j=>?_⟩;rw[Tm.cQ] at hn;obtain⟨n,rfl⟩:∃m,n=m+1:=⟨n-1,VW⟩;rw[Tm.cQ] at j;rw[ez,cS adr,cO (by simp only[Tm.eY,gK,ee];omega)];simp only[Tm.eY,ee];rw[ep (a:=(g.length:Int)) VW VW,ep VW VW]
  have:dg g ((g.length:Int)-1-(i:Int))=some t:=by
   unfold dg;rw[cS VW,<-C]
   congr 1
   omega
  rw[this];simp only[cv];rw[gV (by have:=ed A;omega)];rfl
 |@lam g s b t y _ ih=>
  intro hg;have hs:=(Ty.rW (.inr rfl) y).1;have B:=(Ty.rW (.inr rfl) y).2
  obtain⟨_,ih⟩:=ih (by
   intro u hu;rcases rA.1 hu with h|h
   .exact hg u h
   .rw[xV] at h;rw[h];exact hs)
  refine⟨y,λn hn j=>?_⟩;rw[Tm.cQ] at hn j;simp only[db] at hn j;obtain⟨n,rfl⟩:∃m,n=m+1:=⟨n-1,VW⟩;rw[ez,cO aaL,cS adr];simp only[Tm.dV,Tm.di,dA,iq,cv,fu];rw[dT acz,cY,ih n VW acz];simp only[cN];rw[cO aaB,hE (by have:=ed hs;omega) (by have:=ed B;omega)];simp only[cv];rw[ok_eq y];rfl
 |@app g f a s t _ _ c d=>
  intro hg;obtain⟨r,c⟩:=c hg;obtain⟨v,d⟩:=d hg;have B:=(Ty.rW (.inr rfl) r).2;refine⟨B,λn hn j=>?_⟩;rw[Tm.cQ] at hn j;simp only[db] at hn j;obtain⟨n,rfl⟩:∃m,n=m+1:=⟨n-1,VW⟩;have o:=nJ (n:=n) (g:=g) (l:=[f,a]) 0 [] (.cons (c n VW VW) (.cons (d n VW VW) .nil)) aaL;rw[ez,cO aaL,cO aaL];simp only[c6,Tm.di,c8 (l:=[f,a]) aaL,cY];rw[o];simp only[cv,dh,eE,fD];rw[cS adr];simp only[od,dA,fg,iq,lQ,cv];rw[cO (by simp[Ty.fn,dx]),show(Ty.fn s t).aim[0]?=some s from rfl];simp only[cv];rw[k6 (by have:=ed v;omega)];simp only[cv];rw[cO aaB,show(Ty.fn s t).aim[1]?=some t from rfl];rfl
 |zero=>
  intro hg;refine⟨Ty.fM,λn hn j=>?_⟩;rw[Tm.cQ] at hn;obtain⟨n,rfl⟩:∃m,n=m+1:=⟨n-1,VW⟩;rfl
 |@succ g a _ ih=>
  intro hg;obtain⟨r,ih⟩:=ih hg;refine⟨Ty.fM,λn hn j=>?_⟩;rw[Tm.cQ] at hn j;simp only[db] at hn j;obtain⟨n,rfl⟩:∃m,n=m+1:=⟨n-1,VW⟩;have o:=nJ (n:=n) (g:=g) (l:=[a]) 0 [] (.cons (ih n VW VW) .nil) aaL;rw[ez,cO aaL,cO aaL];simp only[c6,Tm.di,c8 (l:=[a]) aaL,cY];rw[o];simp only[cv,dh,eE,fD];rw[cO aaL,cO aaL,cS adr];simp only[od,dA,iq,cv];rw[k6 (by rw[Ty.gh];omega)];rfl
 |@tn g t b s k w _ _ _ c d q=>
  intro hg;obtain⟨r,c⟩:=c hg;obtain⟨v,d⟩:=d hg;obtain⟨D,q⟩:=q hg;refine⟨w,λn hn j=>?_⟩;rw[Tm.cQ] at hn j;simp only[db] at hn j;obtain⟨n,rfl⟩:∃m,n=m+1:=⟨n-1,VW⟩;have B:=ed w;have o:=nJ (n:=n) (g:=g) (l:=[b,s,k]) 0 [] (.cons (c n VW VW) (.cons (d n VW VW) (.cons (q n VW VW) .nil))) aaL;rw[ez,cO aaL,cO aaL];simp only[c6,Tm.di,c8 (l:=[b,s,k]) aaL,cY];rw[o];simp only[cv,dh,eE,fD];rw[cO aaL,cO aaL,cO aaL,cS adr];simp only[od,dA,fg,hQ,iq,lQ,cv,Tm.dV];rw[k6 VW];simp only[cv,if_true];rw[hE VW VW];simp only[cv];rw[hE (by rw[Ty.gh];omega) (by rw[Ty.iN];omega)];simp only[cv];rw[k6 (by have:=ed v;omega)];simp only[cv,if_true];rw[k6 (by rw[Ty.gh];omega)];simp only[cv];rw[cO aaB,gV VW];rfl
 |nil=>
  intro hg;refine⟨Ty.nx,λn hn j=>?_⟩;rw[Tm.cQ] at hn;obtain⟨n,rfl⟩:∃m,n=m+1:=⟨n-1,VW⟩;rfl
 |@cons g a b _ _ c d=>
  intro hg;obtain⟨r,c⟩:=c hg;obtain⟨v,d⟩:=d hg;refine⟨Ty.nx,λn hn j=>?_⟩;rw[Tm.cQ] at hn j;simp only[db] at hn j;obtain⟨n,rfl⟩:∃m,n=m+1:=⟨n-1,VW⟩;have o:=nJ (n:=n) (g:=g) (l:=[a,b]) 0 [] (.cons (c n VW VW) (.cons (d n VW VW) .nil)) aaL;rw[ez,cO aaL,cO aaL];simp only[c6,Tm.di,c8 (l:=[a,b]) aaL,cY];rw[o];simp only[cv,dh,eE,fD];rw[cO aaL,cO aaL,cO aaL,cO aaL,cO aaL,cS adr];simp only[od,dA,fg,iq,lQ,cv];rw[k6 (by rw[Ty.gh];omega)];simp only[cv,if_true];rw[k6 (by rw[Ty.nY];omega)];rfl
 |@fold g t b s k w _ _ _ c d q=>
  intro hg;obtain⟨r,c⟩:=c hg;obtain⟨v,d⟩:=d hg;obtain⟨D,q⟩:=q hg;refine⟨w,λn hn j=>?_⟩;rw[Tm.cQ] at hn j;simp only[db] at hn j;obtain⟨n,rfl⟩:∃m,n=m+1:=⟨n-1,VW⟩;have B:=ed w;have o:=nJ (n:=n) (g:=g) (l:=[b,s,k]) 0 [] (.cons (c n VW VW) (.cons (d n VW VW) (.cons (q n VW VW) .nil))) aaL;rw[ez,cO aaL,cO aaL];simp only[c6,Tm.di,c8 (l:=[b,s,k]) aaL,cY];rw[o];simp only[cv,dh,eE,fD];rw[cO aaL,cO aaL,cO aaL,cO aaL,cO aaL,cO aaL,cS adr];simp only[od,dA,fg,hQ,iq,lQ,cv,Tm.dV];rw[k6 VW];simp only[cv,if_true];rw[hE VW VW];simp only[cv];rw[hE (by rw[Ty.nY];omega) (by rw[Ty.iN];omega)];simp only[cv];rw[hE (by rw[Ty.gh];omega) (by rw[Ty.iN,Ty.iN,Ty.nY];omega)];simp only[cv];rw[k6 (by have:=ed v;omega)];simp only[cv,if_true];rw[k6 (by rw[Ty.nY];omega)];simp only[cv];rw[cO aaB,gV VW];rfl
 |@pair g a b s t w _ _ c d=>
  intro hg;obtain⟨r,c⟩:=c hg;obtain⟨v,d⟩:=d hg;refine⟨w,λn hn j=>?_⟩;rw[Tm.cQ] at hn j;simp only[db] at hn j;obtain⟨n,rfl⟩:∃m,n=m+1:=⟨n-1,VW⟩;have o:=nJ (n:=n) (g:=g) (l:=[a,b]) 0 [] (.cons (c n VW VW) (.cons (d n VW VW) .nil)) aaL;rw[ez,cO aaL,cO aaL];simp only[c6,Tm.di,c8 (l:=[a,b]) aaL,cY];rw[o];simp only[cv,dh,eE,fD];rw[cO aaL,cO aaL,cO aaL,cO aaL,cO aaL,cO aaL,cO aaL,cS adr];simp only[od,dA,fg,iq,lQ,cv];rw[wW (by have:=ed r;omega) (by have:=ed v;omega)];simp only[cv];rw[ok_eq w];rfl
 |@fst g a s t _ ih=>
  intro hg;obtain⟨r,ih⟩:=ih hg;refine⟨(Ty.rW (.inl rfl) r).1,λn hn j=>?_⟩;rw[Tm.cQ] at hn j;simp only[db] at hn j;obtain⟨n,rfl⟩:∃m,n=m+1:=⟨n-1,VW⟩;have o:=nJ (n:=n) (g:=g) (l:=[a]) 0 [] (.cons (ih n VW VW) .nil) aaL;rw[ez,cO aaL,cO aaL];simp only[c6,Tm.di,c8 (l:=[a]) aaL,cY];rw[o];simp only[cv,dh,eE,fD];rw[cO aaL,cO aaL,cO aaL,cO aaL,cO aaL,cO aaL,cO aaL,cO aaL,cS adr];simp only[od,dA,iq,cv];rw[cO (by simp[Ty.pr,dx]),cS adr,show(Ty.pr s t).aim[0]?=some s from rfl];rfl
 |@snd g a s t _ ih=>
  intro hg;obtain⟨r,ih⟩:=ih hg;refine⟨(Ty.rW (.inl rfl) r).2,λn hn j=>?_⟩;rw[Tm.cQ] at hn j;simp only[db] at hn j;obtain⟨n,rfl⟩:∃m,n=m+1:=⟨n-1,VW⟩;have o:=nJ (n:=n) (g:=g) (l:=[a]) 0 [] (.cons (ih n VW VW) .nil) aaL;rw[ez,cO aaL,cO aaL];simp only[c6,Tm.di,c8 (l:=[a]) aaL,cY];rw[o];simp only[cv,dh,eE,fD];rw[cO aaL,cO aaL,cO aaL,cO aaL,cO aaL,cO aaL,cO aaL,cO aaL,cS adr];simp only[od,dA,iq,cv];rw[cO (by simp[Ty.pr,dx]),cO aaL,show dg (Ty.pr s t).aim 1=some t from rfl];rfl
 |unit=>
  intro hg;refine⟨Ty.F7,λn hn j=>?_⟩;rw[Tm.cQ] at hn;obtain⟨n,rfl⟩:∃m,n=m+1:=⟨n-1,VW⟩;rfl
def Tm.nU{p:Tm->Prop}(var:∀i:Nat,p (.mk 1 i .z []))(lam:∀s b,s.err=0->b.ok=true->p (.mk 2 0 s [b]))(app:∀a b,a.ok=true->b.ok=true->p (.mk 3 0 .z [a,b]))
  (zero:p (.mk 4 0 .z [])) (succ:∀a,a.ok=true->p (.mk 5 0 .z [a])) (tn:∀s a b c,s.err=0->a.ok=true->b.ok=true->c.ok=true->p (.mk 6 0 s [a,b,c])) (nil:p (.mk 7 0 .z []))
  (cons:∀a b,a.ok=true->b.ok=true->p (.mk 8 0 .z [a,b])) (fold:∀s a b c,s.err=0->a.ok=true->b.ok=true->c.ok=true->p (.mk 9 0 s [a,b,c])) (pair:∀a b,a.ok=true->b.ok=true->p (.mk 10 0 .z [a,b]))
  (fst:∀a,a.ok=true->p (.mk 11 0 .z [a])) (snd:∀a,a.ok=true->p (.mk 12 0 .z [a])) (unit:p (.mk 13 0 .z [])) (t:Tm) (h:t.ok=true):p t:=by
 cases t with
 |mk k i s l=>
  obtain⟨_,hi,d,o,hn⟩:=Tm.kN h
  have hs:if jq k then s.err=0 else s=.z:=by
   rw[Tm.fX] at h;simp only[Tm.node,fI] at h;have:=h.1.2
   split at this
   .rename_i f;rw[cS f];simpa using this
   .rename_i f;rw[cO f];exact(Ty.lj s).1 this
  have r:∀{l:List Tm},(l.length:Int)=0->l=[]:=λh=>fH.1 h;unfold gD at hn
  split at hn
  .rename_i f;obtain rfl:=fH.1 hn;rcases f with rfl|rfl|rfl|rfl
   .rw[cO aaB] at hs;subst hs;obtain⟨j,rfl⟩:∃j:Nat,i=(j:Int):=⟨i.toNat,VW⟩;exact var j
   .rw[cO aaB] at hs;subst hs;obtain rfl:=d aaB;exact zero
   .rw[cO aaB] at hs;subst hs;obtain rfl:=d aaB;exact nil
   .rw[cO aaB] at hs;subst hs;obtain rfl:=d aaB;exact unit
  .split at hn
   .rename_i f;obtain⟨a,rfl⟩:=iB hn;have n:=o a aaL;rcases f with rfl|rfl|rfl|rfl
    .rw[cS aaB] at hs;obtain rfl:=d aaB;exact lam s a hs n
    .rw[cO aaB] at hs;subst hs;obtain rfl:=d aaB;exact succ a n
    .rw[cO aaB] at hs;subst hs;obtain rfl:=d aaB;exact fst a n
    .rw[cO aaB] at hs;subst hs;obtain rfl:=d aaB;exact snd a n
   .split at hn
    .rename_i f;obtain⟨a,b,rfl⟩:=pt hn;have n:=o a aaL;have q:=o b aaL;rcases f with rfl|rfl|rfl
     .rw[cO aaB] at hs;subst hs;obtain rfl:=d aaB;exact app a b n q
     .rw[cO aaB] at hs;subst hs;obtain rfl:=d aaB;exact cons a b n q
     .rw[cO aaB] at hs;subst hs;obtain rfl:=d aaB;exact pair a b n q
    .split at hn
     .rename_i f
      obtain⟨a,b,c,rfl⟩:∃a b c,l=[a,b,c]:=by
       match l,hn with
       |[a,b,c],_=>exact⟨a,b,c,rfl⟩|[],h|[_],h|[_,_],h=>simp at h
       |_::_::_::_::_,h=>simp at h;omega
      have n:=o a aaL;have q:=o b aaL;have u:=o c aaL;rcases f with rfl|rfl
      .rw[cS aaB] at hs;obtain rfl:=d aaB;exact tn s a b c hs n q u
      .rw[cS aaB] at hs;obtain rfl:=d aaB;exact fold s a b c hs n q u
     .omega
open Classical in
noncomputable def gu (k:Int) (s:Ty) (l:List Ty):Ty×Int:=
 if k=3 then(if(l.getD 0 .z).ail=4/\(l.getD 0 .z).aim.getD 0 .z=l.getD 1 .z then((l.getD 0 .z).aim.getD 1 .z,0)else(.z,7))
 else if k=4 then(.nat,0)
 else if k=5 then(if l.getD 0 .z=.nat then(.nat,0)else(.z,7))
 else if k=6 then(if l.getD 0 .z=s/\l.getD 1 .z=.fn .nat (.fn s s)/\l.getD 2 .z=.nat then(s,0)else(.z,7))
 else if k=7 then(.mw,0)
 else if k=8 then(if l.getD 0 .z=.nat/\l.getD 1 .z=.mw then(.mw,0)else(.z,7))
 else if k=9 then(if l.getD 0 .z=s/\l.getD 1 .z=.fn .nat (.fn .mw (.fn s s))/\l.getD 2 .z=.mw then(s,0)else(.z,7))
 else if k=10 then(if 64<1+(l.getD 0 .z).ain+(l.getD 1 .z).ain then(.z,4)else(.pr (l.getD 0 .z) (l.getD 1 .z),0))
 else if k=11 then(if(l.getD 0 .z).ail=3 then((l.getD 0 .z).aim.getD 0 .z,0)else(.z,7))
 else if k=12 then(if(l.getD 0 .z).ail=3 then((l.getD 0 .z).aim.getD 1 .z,0)else(.z,7))
 else(.unit,0)
def LD(s:Ty)(r:Ty×Int):Ty×Int:=if r.2≠0 then(.z,r.2)else if 64<1+s.ain+r.1.ain then(.z,4)else(.fn s r.1,0)
def um(f:List Ty->Ty×Int):List Ty⊕Int->Ty×Int
 |.inl l=>f l|.inr e=>(.z,e)
def Oj(r:Ty×Int)(o:List Ty⊕Int):List Ty⊕Int:=if r.2≠0 then .inr r.2 else match o with|.inl l=>.inl (r.1::l)|.inr e=>.inr e
mutual
noncomputable def Tm.ty:Tm->List Ty->Ty×Int
 |.mk k i s l,g=>if k=1 then(if i<(g.length:Int)then(g.getD (g.length-1-i.toNat) .z,0)else(.z,6))else if k=2 then LD s (Tm.tyH l (g++[s]))else um (gu k s) (Tm.tL l g)
noncomputable def Tm.tyH:List Tm->List Ty->Ty×Int
 |[],_=>(.z,0)|t::_,g=>t.ty g
noncomputable def Tm.tL:List Tm->List Ty->List Ty⊕Int
 |[],_=>.inl []|t::l,g=>Oj (t.ty g) (Tm.tL l g)
end
def Tm.l0(k i:Int)(s:Ty)(l:List Tm)(g:List Ty):(Tm.mk k i s l).ty g=if k=1 then(if i<(g.length:Int)then(g.getD (g.length-1-i.toNat) .z,0)else(.z,6))else if k=2 then LD s (Tm.tyH l (g++[s]))else um (gu k s) (Tm.tL l g):=by rw[Tm.ty]
def gN(g:List Ty):Prop:=∀s∈g,s.err=0
def gN.app{g:List Ty}{s:Ty}(h:gN g)(hs:s.err=0):gN (g++[s]):=by
 intro u hu;rcases rA.1 hu with h'|h'
 .exact h u h'
 .grind
def KY{t:Ty}(h:t.err=0)(c:t.ail=4):∃a b,t=.fn a b/\a.err=0/\b.err=0:=by
 rcases Ty.qo h with rfl|rfl|rfl|⟨a,b,rfl,_,_⟩|h
 .cases c
 .cases c
 .cases c
 .cases c
 .exact h
def zr{t:Ty}(h:t.err=0)(c:t.ail=3):∃a b,t=.pr a b/\a.err=0/\b.err=0:=by
 rcases Ty.qo h with rfl|rfl|rfl|h|⟨a,b,rfl,_,_⟩
 .cases c
 .cases c
 .cases c
 .exact h
 .cases c
def uG{t:Ty}(h:t.err=0):t.ail=1↔t=.nat:=by
 rcases Ty.qo h with rfl|rfl|rfl|⟨a,b,rfl,_,_⟩|⟨a,b,rfl,_,_⟩
 .exact⟨λ_=>rfl,λ_=>rfl⟩
 all_goals exact⟨λh=>(by cases h),λh=>(by cases h)⟩
def BU{t:Ty}(h:t.err=0):t.ail=2↔t=.mw:=by
 rcases Ty.qo h with rfl|rfl|rfl|⟨a,b,rfl,_,_⟩|⟨a,b,rfl,_,_⟩
 .exact⟨λh=>(by cases h),λh=>(by cases h)⟩
 .exact⟨λ_=>rfl,λ_=>rfl⟩
 all_goals exact⟨λh=>(by cases h),λh=>(by cases h)⟩
theorem pE{r:Ty×Int}{o:List Ty⊕Int}(h:r.2≠0):Oj r o=.inr r.2:=cS h
theorem pM{r:Ty×Int}{o:List Ty⊕Int}(h:r.2=0):Oj r o=match o with|.inl l=>.inl (r.1::l)|.inr e=>.inr e:=cO VW
theorem se{f:List Ty->Ty×Int}{e:Int}{r:Ty}(h:um f (.inr e)=(r,0)):e=0:=(gy h).2
def xL{a:Tm}{g:List Ty}(h:(a.ty g).2=0):a.ty g=((a.ty g).1,0):=Prod.ext rfl h
def Qg{a:Tm}{g:List Ty}{f:List Ty->Ty×Int}{r:Ty}(h:um f (Tm.tL [a] g)=(r,0)):∃s,a.ty g=(s,0)/\f [s]=(r,0):=by
 rw[Tm.tL] at h
 by_cases b:(a.ty g).2=0
 .rw[pM b] at h;exact⟨_,xL b,h⟩
 .grind[pE,se]
def Ov{a b:Tm}{g:List Ty}{f:List Ty->Ty×Int}{r:Ty}(h:um f (Tm.tL [a,b] g)=(r,0)):∃s t,a.ty g=(s,0)/\b.ty g=(t,0)/\f [s,t]=(r,0):=by
 rw[Tm.tL,Tm.tL,Tm.tL] at h
 by_cases c:(a.ty g).2=0
 .rw[pM c] at h
  by_cases d:(b.ty g).2=0
  .rw[pM d] at h;exact⟨_,_,xL c,xL d,h⟩
  .grind[pE,se]
 .grind[pE,se]
def LK{a b c:Tm}{g:List Ty}{f:List Ty->Ty×Int}{r:Ty}(h:um f (Tm.tL [a,b,c] g)=(r,0)):∃s t u,a.ty g=(s,0)/\b.ty g=(t,0)/\c.ty g=(u,0)/\f [s,t,u]=(r,0):=by
 rw[Tm.tL,Tm.tL,Tm.tL,Tm.tL] at h
 by_cases d:(a.ty g).2=0
 .rw[pM d] at h
  by_cases i:(b.ty g).2=0
  .rw[pM i] at h
   by_cases j:(c.ty g).2=0
   .rw[pM j] at h;exact⟨_,_,_,xL d,xL i,xL j,h⟩
   .grind[pE,se]
  .rw[pE i] at h;exact absurd (se h) i
 .rw[pE d] at h;exact absurd (se h) d
def pR:∀(n:Nat) (t:Tm),t.ain<=n->t.ok=true->∀g,gN g->∀s,t.ty g=(s,0)->dH g t s/\s.err=0:=by
 intro n
 induction n with
 |zero=>intro t h;have:=t.dr;omega
 |succ n ih=>
  intro t hn F;refine Tm.nU (p:=λt=>t.ain<=n+1->∀g,gN g->∀s,t.ty g=(s,0)->dH g t s/\s.err=0) ?_ ?_ ?_ ?_ ?_ ?_ ?_ ?_ ?_ ?_ ?_ ?_ ?_ t F hn
  .intro i _ g hg s h;rw[Tm.l0,cS rfl] at h
   split at h
   .rename_i hi
    have u:g.length-1-(i:Int).toNat<g.length:=VW
    have e:g[g.length-1-i]?=some s:=by
     have f:=(gy h).1;rw[TO,zP] at f;rw[zP] at u;rw[l5 u] at f|-;simpa using f
    exact⟨.var i VW e,hg s (CO e)⟩
   .have:=(gy h).2;omega
  .intro s b hs l hn g hg r h;rw[Tm.cQ] at hn;simp only[db] at hn;rw[Tm.l0,cO aaB,cS rfl,Tm.tyH] at h;unfold LD at h
   split at h
   .rename_i w;exact absurd (gy h).2 w
   .rename_i w
    split at h
    .have:=(gy h).2;omega
    .rename_i f;obtain⟨o,d⟩:=ih b VW l (g++[s]) (hg.app hs) _ (xL (by simpa using w));have he:=Ty.xg hs d VW;obtain rfl:=(gy h).1;exact⟨.lam he o,he⟩
  .intro a b k l hn g hg r h;rw[Tm.cQ] at hn;simp only[db] at hn;rw[Tm.l0,cO aaB,cO aaB] at h;obtain⟨s,t,f,o,d⟩:=Ov h;obtain⟨a1,a2⟩:=ih a VW k g hg _ f;obtain⟨q,v⟩:=ih b VW l g hg _ o;simp only[gu,if_true,xY,O3] at d
   split at d
   .rename_i j;obtain⟨x,y,rfl,A,hy⟩:=KY a2 j.1;have G:x=t:=j.2;obtain rfl:=(gy d).1;subst G;exact⟨.app a1 q,hy⟩
   .have:=(gy d).2;omega
  .intro hn g hg r h;rw[Tm.l0,cO aaB,cO aaB,Tm.tL] at h;simp only[um,gu,reduceIte,Int.reduceEq] at h;obtain rfl:=(gy h).1;exact⟨.zero,Ty.fM⟩
  .intro a k hn g hg r h;rw[Tm.cQ] at hn;simp only[db] at hn;rw[Tm.l0,cO aaB,cO aaB] at h;obtain⟨s,f,d⟩:=Qg h;obtain⟨a1,a2⟩:=ih a VW k g hg _ f;simp only[gu,reduceIte,Int.reduceEq,xY] at d
   split at d
   .rename_i j;subst j;obtain rfl:=(gy d).1;exact⟨.succ a1,Ty.fM⟩
   .have:=(gy d).2;omega
  .intro s a b c hs k l B hn g hg r h;rw[Tm.cQ] at hn;simp only[db] at hn;rw[Tm.l0,cO aaB,cO aaB] at h;obtain⟨x,y,z,f,o,C,d⟩:=LK h;obtain⟨a1,a2⟩:=ih a VW k g hg _ f;obtain⟨q,v⟩:=ih b VW l g hg _ o;obtain⟨D,H⟩:=ih c VW B g hg _ C;simp only[gu,reduceIte,Int.reduceEq,xY,O3] at d
   split at d
   .rename_i j;have j:x=s/\y=.fn .nat (.fn s s)/\z=.nat:=j;obtain⟨rfl,rfl,rfl⟩:=j;obtain rfl:=(gy d).1;exact⟨.tn hs a1 q D,hs⟩
   .have:=(gy d).2;omega
  .intro hn g hg r h;rw[Tm.l0,cO aaB,cO aaB,Tm.tL] at h;simp only[um,gu,reduceIte,Int.reduceEq] at h;obtain rfl:=(gy h).1;exact⟨.nil,Ty.nx⟩
  .intro a b k l hn g hg r h;rw[Tm.cQ] at hn;simp only[db] at hn;rw[Tm.l0,cO aaB,cO aaB] at h;obtain⟨s,t,f,o,d⟩:=Ov h;obtain⟨a1,a2⟩:=ih a VW k g hg _ f;obtain⟨q,v⟩:=ih b VW l g hg _ o;simp only[gu,reduceIte,Int.reduceEq,xY,O3] at d
   split at d
   .rename_i j;obtain⟨rfl,rfl⟩:=j;obtain rfl:=(gy d).1;exact⟨.cons a1 q,Ty.nx⟩
   .have:=(gy d).2;omega
  .intro s a b c hs k l B hn g hg r h;rw[Tm.cQ] at hn;simp only[db] at hn;rw[Tm.l0,cO aaB,cO aaB] at h;obtain⟨x,y,z,f,o,C,d⟩:=LK h;obtain⟨a1,a2⟩:=ih a VW k g hg _ f;obtain⟨q,v⟩:=ih b VW l g hg _ o;obtain⟨D,H⟩:=ih c VW B g hg _ C;simp only[gu,reduceIte,Int.reduceEq,xY,O3] at d
   split at d
   .rename_i j;have j:x=s/\y=.fn .nat (.fn .mw (.fn s s))/\z=.mw:=j;obtain⟨rfl,rfl,rfl⟩:=j;obtain rfl:=(gy d).1;exact⟨.fold hs a1 q D,hs⟩
   .have:=(gy d).2;omega
  .intro a b k l hn g hg r h;rw[Tm.cQ] at hn;simp only[db] at hn;rw[Tm.l0,cO aaB,cO aaB] at h;obtain⟨s,t,f,o,d⟩:=Ov h;obtain⟨a1,a2⟩:=ih a VW k g hg _ f;obtain⟨q,v⟩:=ih b VW l g hg _ o;simp only[gu,reduceIte,Int.reduceEq,xY,O3] at d
   split at d
   .have:=(gy d).2;omega
   .rename_i j;have he:=Ty.Pw a2 v VW;obtain rfl:=(gy d).1;exact⟨.pair he a1 q,he⟩
  .intro a k hn g hg r h;rw[Tm.cQ] at hn;simp only[db] at hn;rw[Tm.l0,cO aaB,cO aaB] at h;obtain⟨s,f,d⟩:=Qg h;obtain⟨a1,a2⟩:=ih a VW k g hg _ f;simp only[gu,reduceIte,Int.reduceEq,xY] at d
   split at d
   .rename_i j;obtain⟨x,y,rfl,A,hy⟩:=zr a2 j;obtain rfl:=(gy d).1;exact⟨.fst a1,A⟩
   .have:=(gy d).2;omega
  .intro a k hn g hg r h;rw[Tm.cQ] at hn;simp only[db] at hn;rw[Tm.l0,cO aaB,cO aaB] at h;obtain⟨s,f,d⟩:=Qg h;obtain⟨a1,a2⟩:=ih a VW k g hg _ f;simp only[gu,reduceIte,Int.reduceEq,xY] at d
   split at d
   .rename_i j;obtain⟨x,y,rfl,A,hy⟩:=zr a2 j;obtain rfl:=(gy d).1;exact⟨.snd a1,hy⟩
   .have:=(gy d).2;omega
  .intro hn g hg r h;rw[Tm.l0,cO aaB,cO aaB,Tm.tL] at h;simp only[um,gu,reduceIte,Int.reduceEq] at h;obtain rfl:=(gy h).1;exact⟨.unit,Ty.F7⟩
end Go.eU
namespace Go.eU
open Go
def ja(a:Ty):a.kW a=true:=(Ty.lS a a).2 rfl
def kZ{a b:Ty}(h:a≠b):a.kW b=false:=by grind[Ty.lS]
def nA{n:Nat}{g:List Ty}:∀(l:List Tm) (i:Nat) (v:List Ty),(∀a∈l,ez n g a=some (a.ty g))->v.length+l.length<=1000->dF (λ(o:Int) (j:Tm)=>(λ(c:List Ty)=>
   cW (ez n g j) λd f=>
   if(dx f 0) then(
   some (dW.ret ((Ty.mk 0 []),f)))
   else(e_ (eI c [d])<|some (.next (fk c [d])))):Int->Tm->((List Ty))->(Option (dW ((List Ty)) (Ty×Int)))) l i v=some (match Tm.tL l g with|.inl ts=>.inl (v++ts)|.inr e=>.inr (.z,e))
 |[],i,v,_,_=>by simp[Tm.tL]|a::l,i,v,h,q=>by
  simp only[kY] at q;have s:=h a aaL;rw[dB,Tm.tL];rw[s]
  by_cases k:(a.ty g).2=0
  .rw[xL k,pM rfl];simp only[cN];rw[cO aaB,dT acz];simp only[cY,cv,dR];rw[nA l (i+1) _ (λb u=>h b (by simp[u])) (by rw[fu];simp;omega),fu];cases Tm.tL l g with
   |inl ts=>simp|inr e=>rfl
  .rw[pE k];generalize a.ty g=r at k;obtain⟨t,e⟩:=r;simp only[cN];rw[cS (by simpa[dx] using k)];rfl
def zK(l:List Tm)(g:List Ty):(∃e,e≠0/\Tm.tL l g=.inr e)\/∃ts,Tm.tL l g=.inl ts/\ts.length=l.length/\∀(i:Nat) (a:Tm),l[i]?=some a->∃s,ts[i]?=some s/\a.ty g=(s,0):=by
 induction l with
 |nil=>exact .inr ⟨[],by rw[Tm.tL],rfl,aaL⟩|cons a l ih=>
  rw[Tm.tL]
  grind[pM,pE]
def Qm{f:List Ty->Ty×Int}{e:Int}:um f (.inr e)=(.z,e):=rfl
def nE{f:List Ty->Ty×Int}{l:List Ty}:um f (.inl l)=f l:=rfl
def BE{a:Tm}{g:List Ty}(b:a.ok=true)(hg:gN g):(∃e,e≠0/\Tm.tL [a] g=.inr e)\/∃s,Tm.tL [a] g=.inl [s]/\s.err=0:=by
 rcases zK [a] g with h|⟨ts,c,d,f⟩
 .grind
 .obtain⟨s,j,i⟩:=f 0 a rfl
  match ts,d with
  |[x],_=>
   obtain rfl:x=s:=by grind
   exact .inr ⟨x,c,(pR _ a (gO _) b g hg _ i).2⟩
def Cv{a b:Tm}{g:List Ty}(d:a.ok=true)(f:b.ok=true)(hg:gN g):(∃e,e≠0/\Tm.tL [a,b] g=.inr e)\/∃s t,Tm.tL [a,b] g=.inl [s,t]/\s.err=0/\t.err=0:=by
 rcases zK [a,b] g with h|⟨ts,i,j,c⟩
 .exact .inl h
 .obtain⟨s,n,k⟩:=c 0 a rfl;obtain⟨t,o,l⟩:=c 1 b rfl
  match ts,j with
  |[x,y],_=>
   obtain rfl:x=s:=by grind
   obtain rfl:y=t:=by grind
   exact .inr ⟨x,y,i,(pR _ a (gO _) d g hg _ k).2,(pR _ b (gO _) f g hg _ l).2⟩
def Be{a b c:Tm}{g:List Ty}(f:a.ok=true)(i:b.ok=true)(j:c.ok=true)(hg:gN g):(∃e,e≠0/\Tm.tL [a,b,c] g=.inr e)\/∃s t u,Tm.tL [a,b,c] g=.inl [s,t,u]/\s.err=0/\t.err=0/\u.err=0:=by
 rcases zK [a,b,c] g with h|⟨ts,k,l,d⟩
 .exact .inl h
 .obtain⟨s,v,n⟩:=d 0 a rfl;obtain⟨t,w,o⟩:=d 1 b rfl;obtain⟨u,q,r⟩:=d 2 c rfl
  match ts,l with
  |[x,y,z],_=>
   obtain rfl:x=s:=by grind
   obtain rfl:y=t:=by grind
   obtain rfl:z=u:=by simpa using q
   exact .inr ⟨x,y,z,k,(pR _ a (gO _) f g hg _ n).2,(pR _ b (gO _) i g hg _ o).2,(pR _ c (gO _) j g hg _ r).2⟩
def DI{t:Ty}(h:t.ain<=1000000000)(a:t.ok=true):sK t=some (if 64<t.ain then(.z,4)else(t,0)):=by
 unfold sK;rw[lC h];unfold Ty.err;rw[cS a]
 split
 .rfl
 .rfl
section
variable{s x y z:Ty}
def zB:((x.ail=4/\x.aim.getD 0 .z=y)->gu 3 s [x,y]=(x.aim.getD 1 .z,0))/\(¬(x.ail=4/\x.aim.getD 0 .z=y)->gu 3 s [x,y]=(.z,7)):=by
 unfold gu
 grind
def Fe:(x=.nat->gu 5 s [x]=(.nat,0))/\(x≠ .nat->gu 5 s [x]=(.z,7)):=by
 unfold gu
 grind
def vm:((x=s/\y=.fn .nat (.fn s s)/\z=.nat)->gu 6 s [x,y,z]=(s,0))/\(¬(x=s/\y=.fn .nat (.fn s s)/\z=.nat)->gu 6 s [x,y,z]=(.z,7)):=by
 unfold gu
 grind
def zs:((x=.nat/\y=.mw)->gu 8 s [x,y]=(.mw,0))/\(¬(x=.nat/\y=.mw)->gu 8 s [x,y]=(.z,7)):=by
 unfold gu
 grind
def vb:((x=s/\y=.fn .nat (.fn .mw (.fn s s))/\z=.mw)->gu 9 s [x,y,z]=(s,0))/\(¬(x=s/\y=.fn .nat (.fn .mw (.fn s s))/\z=.mw)->gu 9 s [x,y,z]=(.z,7)):=by
 unfold gu
 grind
def MQ:gu 10 s [x,y]=if 64<1+x.ain+y.ain then(.z,4)else(.pr x y,0):=by
 rfl
def Mp:gu 11 s [x]=if x.ail=3 then(x.aim.getD 0 .z,0)else(.z,7):=by
 rfl
def NY:gu 12 s [x]=if x.ail=3 then(x.aim.getD 1 .z,0)else(.z,7):=by
 rfl
end
def yX:∀(n:Nat) (t:Tm),t.ain<=n->t.ok=true->∀g,gN g->g.length+t.ain<=1000000->ez n g t=some (t.ty g):=by
 intro n
 induction n with
 |zero=>intro t h;have:=t.dr;omega
 |succ n ih=>
  intro t hn M;refine Tm.nU (p:=λt=>t.ain<=n+1->∀g,gN g->g.length+t.ain<=1000000->ez (n+1) g t=some (t.ty g)) ?_ ?_ ?_ ?_ ?_ ?_ ?_ ?_ ?_ ?_ ?_ ?_ ?_ t M hn
  .intro i _ g hg k;rw[Tm.cQ] at k;rw[ez,cS adr,Tm.l0,cS rfl]
   by_cases hi:(i:Int)<(g.length:Int)
   .rw[cO (by simp only[Tm.eY,ee,gK];omega),cS hi];simp only[Tm.eY,ee];rw[ep (a:=(g.length:Int)) VW VW,ep VW VW]
    have w:g.length-1-i<g.length:=VW
    have:dg g ((g.length:Int)-1-(i:Int))=some g[g.length-1-i]:=by
     unfold dg;rw[cS VW,show((g.length:Int)-1-(i:Int)).toNat=g.length-1-i by omega,l5 w]
    rw[this];simp only[cv];have G:=hg _ (Cy w);rw[gV (by have:=ed G;omega)];simp only[cv,zP];rw[TO,l5 w];rfl
   .rw[cS (by simp only[Tm.eY,ee,gK];omega),cO hi];rfl
  .intro s b hs k hn g hg d;rw[Tm.cQ] at hn d;simp only[db] at hn d;rw[ez,cO aaL,cS adr,Tm.l0,cO aaB,cS rfl,Tm.tyH];simp only[Tm.dV,Tm.di,dA,iq,cv,fu];rw[dT acz,cY,ih b VW k (g++[s]) (hg.app hs) acz];have K:=λh=>(pR _ b (gO _) k (g++[s]) (hg.app hs) (b.ty (g++[s])).1 (xL h)).2;generalize b.ty (g++[s])=q at K;obtain⟨r,e⟩:=q;simp only[cN,LD]
   by_cases H:e=0
   .subst H;have L:r.err=0:=K rfl;have I:=ed hs;have N:=ed L;rw[cO aaB,cO aaL,hE VW VW];simp only[cv];rw[DI (t:=Ty.fn s r) (by rw[Ty.iN];omega) (Ty.ok_two (.inr rfl) (Ty.kG hs).1 (Ty.kG L).1),Ty.iN]
    split<;>rfl
   .rw[cS (by simpa[dx] using H),cS H];rfl
  .intro a b j k hn g hg d;rw[Tm.cQ] at hn d;simp only[db] at hn d;rw[ez,cO aaL,cO aaL,Tm.l0,cO aaB,cO aaB];simp only[c6,Tm.di,c8 (l:=[a,b]) aaL,cY];rw[nA [a,b] 0 [] (by intro x f;simp at f;rcases f with rfl|rfl<;>first|exact ih _ VW j g hg VW|exact ih _ VW k g hg VW) aaL];rcases Cv j k hg with⟨e,he,h⟩|⟨s,t,h,hs,D⟩
   .rw[h];rfl
   .rw[h,nE];simp only[cv,dh,eE,fD];rw[cS adr];simp only[od,dA,fg,iq,lQ,cv]
    by_cases o:s.ail=4
    .obtain⟨x,y,rfl,f,hy⟩:=KY hs o;rw[cO (by simp[Ty.fn,dx]),show(Ty.fn x y).aim[0]?=some x from rfl];simp only[cv];rw[hV (by have:=ed f;omega)];simp only[cv]
     by_cases A:x=t
     .subst A;rw[ja,cO aaB,show(Ty.fn x y).aim[1]?=some y from rfl,(zB (x:=.fn x y) (y:=x)).1 ⟨rfl,rfl⟩];rfl
     .rw[kZ A,cS aaB,(zB (x:=.fn x y) (y:=t)).2 (λh=>A h.2)];rfl
    .rw[cS (by simpa[dx] using o),cS trivial,zB.2 (λh=>o h.1)];rfl
  .intro hn g hg d;rw[Tm.l0,cO aaB,cO aaB,Tm.tL];rfl
  .intro a j hn g hg d;rw[Tm.cQ] at hn d;simp only[db] at hn d;rw[ez,cO aaL,cO aaL,Tm.l0,cO aaB,cO aaB];simp only[c6,Tm.di,c8 (l:=[a]) aaL,cY];rw[nA [a] 0 [] (by intro x f;simp at f;subst f;exact ih _ VW j g hg VW) aaL];rcases BE j hg with⟨e,he,h⟩|⟨s,h,hs⟩
   .rw[h];rfl
   .rw[h,nE];simp only[cv,dh,eE,fD];rw[cO aaL,cO aaL,cS adr];simp only[od,dA,iq,cv];rw[hV (by have:=ed hs;omega)];simp only[cv]
    by_cases B:s=.nat
    .subst B;rw[ja,cS rfl,Fe.1 rfl]
    .rw[kZ B,cO aaB,Fe.2 B];rfl
  .intro s a b c hs j k F hn g hg d;rw[Tm.cQ] at hn d;simp only[db] at hn d;rw[ez,cO aaL,cO aaL,Tm.l0,cO aaB,cO aaB];simp only[c6,Tm.di,c8 (l:=[a,b,c]) aaL,cY];rw[nA [a,b,c] 0 [] (by intro x f;simp at f;rcases f with rfl|rfl|rfl<;>first|exact ih _ VW j g hg VW|exact ih _ VW k g hg VW|exact ih _ VW F g hg VW) aaL];rcases Be j k F hg with⟨e,he,h⟩|⟨x,y,z,h,f,hy,J⟩
   .rw[h];rfl
   .have I:=ed hs;rw[h,nE];simp only[cv,dh,eE,fD];rw[cO aaL,cO aaL,cO aaL,cS adr];simp only[od,dA,fg,hQ,iq,lQ,cv,Tm.dV];rw[hV (by have:=ed f;omega)];simp only[cv]
    by_cases u:x=s
    .subst u;rw[ja,cS rfl,hE VW VW];simp only[cv];rw[hE (by rw[Ty.gh];omega) (by rw[Ty.iN];omega)];simp only[cv];rw[hV (by have:=ed hy;omega)];simp only[cv]
     by_cases v:y=.fn .nat (.fn x x)
     .subst v;rw[ja,cS rfl,hV (by have:=ed J;omega)];simp only[cv]
      by_cases C:z=.nat
      .subst C;rw[ja,cO aaB,gV VW,vm.1 ⟨rfl,rfl,rfl⟩];rfl
      .rw[kZ C,cS aaB,vm.2 (λh=>C h.2.2)];rfl
     .rw[kZ v,cO aaB,cS trivial,vm.2 (λh=>v h.2.1)];rfl
    .rw[kZ u,cO aaB,cS trivial,vm.2 (λh=>u h.1)];rfl
  .intro hn g hg d;rw[Tm.l0,cO aaB,cO aaB,Tm.tL];rfl
  .intro a b j k hn g hg d;rw[Tm.cQ] at hn d;simp only[db] at hn d;rw[ez,cO aaL,cO aaL,Tm.l0,cO aaB,cO aaB];simp only[c6,Tm.di,c8 (l:=[a,b]) aaL,cY];rw[nA [a,b] 0 [] (by intro x f;simp at f;rcases f with rfl|rfl<;>first|exact ih _ VW j g hg VW|exact ih _ VW k g hg VW) aaL];rcases Cv j k hg with⟨e,he,h⟩|⟨s,t,h,hs,D⟩
   .rw[h];rfl
   .rw[h,nE];simp only[cv,dh,eE,fD];rw[cO aaL,cO aaL,cO aaL,cO aaL,cO aaL,cS adr];simp only[od,dA,fg,iq,lQ,cv];rw[hV (by have:=ed hs;omega)];simp only[cv]
    by_cases u:s=.nat
    .subst u;rw[ja,cS rfl,hV (by have:=ed D;omega)];simp only[cv]
     by_cases v:t=.mw
     .subst v;rw[ja,cO aaB,zs.1 ⟨rfl,rfl⟩]
     .rw[kZ v,cS aaB,zs.2 (λh=>v h.2)];rfl
    .rw[kZ u,cO aaB,cS trivial,zs.2 (λh=>u h.1)];rfl
  .intro s a b c hs j k F hn g hg d;rw[Tm.cQ] at hn d;simp only[db] at hn d;rw[ez,cO aaL,cO aaL,Tm.l0,cO aaB,cO aaB];simp only[c6,Tm.di,c8 (l:=[a,b,c]) aaL,cY];rw[nA [a,b,c] 0 [] (by intro x f;simp at f;rcases f with rfl|rfl|rfl<;>first|exact ih _ VW j g hg VW|exact ih _ VW k g hg VW|exact ih _ VW F g hg VW) aaL];rcases Be j k F hg with⟨e,he,h⟩|⟨x,y,z,h,f,hy,J⟩
   .rw[h];rfl
   .have I:=ed hs;rw[h,nE];simp only[cv,dh,eE,fD];rw[cO aaL,cO aaL,cO aaL,cO aaL,cO aaL,cO aaL,cS adr];simp only[od,dA,fg,hQ,iq,lQ,cv,Tm.dV];rw[hV (by have:=ed f;omega)];simp only[cv]
    by_cases u:x=s
    .subst u;rw[ja,cS rfl,hE VW VW];simp only[cv];rw[hE (by rw[Ty.nY];omega) (by rw[Ty.iN];omega)];simp only[cv];rw[hE (by rw[Ty.gh];omega) (by rw[Ty.iN,Ty.iN,Ty.nY];omega)];simp only[cv];rw[hV (by have:=ed hy;omega)];simp only[cv]
     by_cases v:y=.fn .nat (.fn .mw (.fn x x))
     .subst v;rw[ja,cS rfl,hV (by have:=ed J;omega)];simp only[cv]
      by_cases C:z=.mw
      .subst C;rw[ja,cO aaB,gV VW,vb.1 ⟨rfl,rfl,rfl⟩];rfl
      .rw[kZ C,cS aaB,vb.2 (λh=>C h.2.2)];rfl
     .rw[kZ v,cO aaB,cS trivial,vb.2 (λh=>v h.2.1)];rfl
    .rw[kZ u,cO aaB,cS trivial,vb.2 (λh=>u h.1)];rfl
  .intro a b j k hn g hg d;rw[Tm.cQ] at hn d;simp only[db] at hn d;rw[ez,cO aaL,cO aaL,Tm.l0,cO aaB,cO aaB];simp only[c6,Tm.di,c8 (l:=[a,b]) aaL,cY];rw[nA [a,b] 0 [] (by intro x f;simp at f;rcases f with rfl|rfl<;>first|exact ih _ VW j g hg VW|exact ih _ VW k g hg VW) aaL];rcases Cv j k hg with⟨e,he,h⟩|⟨s,t,h,hs,D⟩
   .rw[h];rfl
   .have I:=ed hs;have N:=ed D;rw[h,nE];simp only[cv,dh,eE,fD];rw[cO aaL,cO aaL,cO aaL,cO aaL,cO aaL,cO aaL,cO aaL,cS adr];simp only[od,dA,fg,iq,lQ,cv];rw[wW VW VW];simp only[cv];rw[DI (t:=Ty.pr s t) (by rw[Ty.tW];omega) (Ty.ok_two (.inl rfl) (Ty.kG hs).1 (Ty.kG D).1),Ty.tW];rw[MQ]
    split<;>rfl
  .intro a j hn g hg d;rw[Tm.cQ] at hn d;simp only[db] at hn d;rw[ez,cO aaL,cO aaL,Tm.l0,cO aaB,cO aaB];simp only[c6,Tm.di,c8 (l:=[a]) aaL,cY];rw[nA [a] 0 [] (by intro x f;simp at f;subst f;exact ih _ VW j g hg VW) aaL];rcases BE j hg with⟨e,he,h⟩|⟨s,h,hs⟩
   .rw[h];rfl
   .rw[h,nE];simp only[cv,dh,eE,fD];rw[cO aaL,cO aaL,cO aaL,cO aaL,cO aaL,cO aaL,cO aaL,cO aaL,cS adr];simp only[od,dA,iq,cv];rw[Mp]
    by_cases o:s.ail=3
    .obtain⟨x,y,rfl,f,hy⟩:=zr hs o;rw[cO (by simp[Ty.pr,dx]),cS adr,cS (show(Ty.pr x y).ail=3 from rfl)];rfl
    .rw[cS (by simpa[dx] using o),cO o];rfl
  .intro a j hn g hg d;rw[Tm.cQ] at hn d;simp only[db] at hn d;rw[ez,cO aaL,cO aaL,Tm.l0,cO aaB,cO aaB];simp only[c6,Tm.di,c8 (l:=[a]) aaL,cY];rw[nA [a] 0 [] (by intro x f;simp at f;subst f;exact ih _ VW j g hg VW) aaL];rcases BE j hg with⟨e,he,h⟩|⟨s,h,hs⟩
   .rw[h];rfl
   .rw[h,nE];simp only[cv,dh,eE,fD];rw[cO aaL,cO aaL,cO aaL,cO aaL,cO aaL,cO aaL,cO aaL,cO aaL,cS adr];simp only[od,dA,iq,cv];rw[NY]
    by_cases o:s.ail=3
    .obtain⟨x,y,rfl,f,hy⟩:=zr hs o;rw[cO (by simp[Ty.pr,dx]),cO aaL,cS (show(Ty.pr x y).ail=3 from rfl)];rfl
    .rw[cS (by simpa[dx] using o),cO o];rfl
  .intro hn g hg d;rw[Tm.l0,cO aaB,cO aaB,Tm.tL];rfl
end Go.eU
namespace Go.eU
open Go
def HI:fN=eC:=by
 funext n
 induction n with
 |zero=>rfl|succ n ih=>
  funext a b
  rw[fN,eC,ih]
def o6{a b:Ty}(h:a.ain<=1000000000):fN FU a b=some (a.kW b):=by rw[HI];exact hV h
def r9(t:Ty):cR:=⟨t,(t.ain:Int)⟩
def Tw:cR:=⟨.mk 0 [],0⟩
def Hr(r:Ty×Int):cR×Int:=if r.2=0 then(r9 r.1,0)else(Tw,r.2)
@[simp] theorem oE(t:Ty):Hr (t,0)=(r9 t,0):=cS rfl
def kM{t:Ty}{e:Int}(h:e≠0):Hr (t,e)=(Tw,e):=cO h
@[simp] theorem tO(t:Ty):(r9 t).cT=t:=by rfl
@[simp] theorem Jk(t:Ty):(r9 t).ain=(t.ain:Int):=by rfl
theorem kq{t:Ty}(h:t.err=0):lR t=some (r9 t):=by
 unfold lR;rw[kH (by have:=ed h;omega),cS h];rfl
def y0(k:Int){a b:Ty}(c:a.ain<=1000000)(d:b.ain<=1000000):qP k (r9 a) (r9 b)=some (if 64<1+a.ain+b.ain then(Tw,4)else(r9 (.mk k [a,b]),0)):=by
 unfold qP;simp only[Jk,tO];rw[dP (a:=1) VW VW,dP VW VW]
 by_cases h:64<1+a.ain+b.ain
 .rw[cS (by simp only[fx];omega),cS h];rfl
 .rw[cO (by simp only[fx];omega),cO h];unfold r9;rw[Ty.zy]
  congr 3
theorem ri{a b:Ty}(c:a.ain<=1000000):jG (r9 a) (r9 b)=some (a.kW b):=by
 unfold jG;simp only[c6,Jk,tO]
 by_cases h:(a.ain:Int)=(b.ain:Int)
 .rw[cS (by simpa[dj] using h),o6 VW];rfl
 .rw[cO (by simpa[dj] using h),kZ (by rintro rfl;exact h rfl)]
def q4{t x:Ty}{i:Int}(h:dg t.aim i=some x)(a:x.err=0):iG (r9 t) i=some (r9 x):=by
 unfold iG;simp only[tO,h,cv,kq a]
def vr:mr=some .nat:=rfl
def J2:v8=some .mw:=rfl
def U0{l:List Ty}(d:l.length<=1000):∀(i m:Nat) (k:Int) (as:List Ty),i<=l.length->i<m->nk ((X5 λ(a:Int) (v49:Int) (b:List Ty)=>
   if(og a 0) then(
   cM (dg l a) λc=>
   some (.next ((ea .i64 a 1),4,[c,(Ty.mk v49 b)])))
   else(some (.brk (a,v49,b)))):(Int×Int×(List Ty))->(Option (dW (Int×Int×(List Ty)) (Ty)))) m ((i:Int)-1,k,as)=some (.inl (-1,((l.take i).foldr Ty.fn (.mk k as)).ail,((l.take i).foldr Ty.fn (.mk k as)).aim))
 |0,m+1,k,as,_,_=>by
  rw[j2];simp only[X5];rw[cO (by rw[gK];omega)];rfl
 |i+1,m+1,k,as,hi,hm=>by
  rw[j2];simp only[X5];rw[cS (by rw[gK];omega),show((i+1:Nat):Int)-1=(i:Int) by omega,fV,l5 VW];simp only[cv,dR];rw[ep VW VW];have h:=U0 d i m 4 [l[i],.mk k as] VW VW;rw[h,aby,l5 VW];simp only[aeJ,afc,List.foldr_cons,List.foldr_nil];rfl
def yt(t:Ty)(l:List Ty)(a:l.length<=1000):nQ t l=some (l.foldr Ty.fn t):=by
 unfold nQ;simp only[c6];rw[ee,ep VW VW];have h:=U0 a l.length FU t.ail t.aim (gO _) (ZR VW);rw[h,cv];rw[abt]
 have e:Ty.mk t.ail t.aim=t:=by cases t;rfl
 rw[e];generalize List.foldr Ty.fn t l=r;cases r;rfl
def RD(a b t:Ty):nQ t [a,b]=some (.fn a (.fn b t)):=yt t [a,b] aaL
def Sc(a b c t:Ty):nQ t [a,b,c]=some (.fn a (.fn b (.fn c t))):=yt t [a,b,c] aaL
def SE(a t:Ty):nQ t [a]=some (.fn a t):=yt t [a] aaL
def sa:List Ty->cR×cR×cR
 |[]=>(Tw,Tw,Tw)|[a]=>(r9 a,Tw,Tw)|[a,b]=>(r9 a,r9 b,Tw)|a::b::c::_=>(r9 a,r9 b,r9 c)
def DP(x:cR)(k:Int):ib x k=some (dj x.cT.ail k):=rfl
def Ea(t:Ty)(k:Int):dj (r9 t).cT.ail k=decide (t.ail=k):=by
 rw[tO];exact tw _ _
def EL(s:Ty)(l:List Tm)(i:Int):oH (.mk 6 i s l)=some (.fn .nat (.fn s s)):=by
 unfold oH;rw[cO aaL];simp only[vr,cv];rw[RD];rfl
def Dw(s:Ty)(l:List Tm)(i:Int):oH (.mk 9 i s l)=some (.fn .nat (.fn .mw (.fn s s))):=by
 unfold oH;rw[cS aaL];simp only[vr,J2,cv];rw[Sc];rfl
section
variable{s x y z:Ty} {i:Int} {l:List Tm}
def V'(j:x.err=0)(hy:y.err=0):fl (.mk 3 i s l) (sa [x,y])=some (Hr (gu 3 s [x,y])):=by
 unfold fl;rw[show iX (Tm.mk 3 i s l).ail=some [] from rfl];simp only[cv];rw[cO aaL,cS adr];simp only[c6,sa,DP,cv,Ea]
 by_cases d:x.ail=4
 .obtain⟨a,b,rfl,f,k⟩:=KY j d;rw[cS adr,q4 (t:=.fn a b) (x:=a) rfl f];simp only[cv];rw[ri (by have:=ed f;omega)];simp only[cv]
  by_cases c:a=y
  .subst c;rw[ja,cO aaL,q4 (t:=.fn a b) (x:=b) rfl k,(zB (x:=.fn a b) (y:=a)).1 ⟨rfl,rfl⟩];simp only[cv];rw[show(Ty.fn a b).aim.getD 1 .z=b from rfl,oE]
  .rw[kZ c,cS aaL,(zB (x:=.fn a b) (y:=y)).2 (λh=>c h.2),kM aaB];rfl
 .rw[cO (by simpa using d),cS trivial,zB.2 (λh=>d h.1),kM aaB];rfl
def Sw(a:x.err=0)(hy:y.err=0):fl (.mk 10 i s l) (sa [x,y])=some (Hr (gu 10 s [x,y])):=by
 unfold fl;rw[show iX (Tm.mk 10 i s l).ail=some [] from rfl];simp only[cv];rw[cO aaL,cO aaL,cO aaL,cS adr];simp only[sa];rw[y0 3 (by have:=ed a;omega) (by have:=ed hy;omega),MQ]
 split
 .simp only[cN];rw[kM aaB]
 .simp only[cN];rw[oE];rfl
def Uk(d:x.err=0):fl (.mk 11 i s l) (sa [x])=some (Hr (gu 11 s [x])):=by
 unfold fl;rw[show iX (Tm.mk 11 i s l).ail=some [] from rfl];simp only[cv];rw[cO aaL,cO aaL,cO aaL,cO aaL];simp only[sa,DP,cv,Ea];rw[Mp]
 by_cases c:x.ail=3
 .obtain⟨a,b,rfl,f,h⟩:=zr d c;rw[cS adr,cS adr,q4 (t:=.pr a b) (x:=a) rfl f,cS (show(Ty.pr a b).ail=3 from rfl)];simp only[cv];rw[show(Ty.pr a b).aim.getD 0 .z=a from rfl,oE]
 .rw[cO (by simpa using c),cO c,kM aaB];rfl
def UU(d:x.err=0):fl (.mk 12 i s l) (sa [x])=some (Hr (gu 12 s [x])):=by
 unfold fl;rw[show iX (Tm.mk 12 i s l).ail=some [] from rfl];simp only[cv];rw[cO aaL,cO aaL,cO aaL,cO aaL];simp only[sa,DP,cv,Ea];rw[NY]
 by_cases c:x.ail=3
 .obtain⟨a,b,rfl,h,f⟩:=zr d c;rw[cS adr,cO aaL,q4 (t:=.pr a b) (x:=b) rfl f,cS (show(Ty.pr a b).ail=3 from rfl)];simp only[cv];rw[show(Ty.pr a b).aim.getD 1 .z=b from rfl,oE]
 .rw[cO (by simpa using c),cO c,kM aaB];rfl
end
end Go.eU
namespace Go.eU
open Go
section
variable{s x y z:Ty} {i:Int} {l:List Tm}
def ze{k t:Int}(a:iX k=some [t])(b:Ty.err (.mk t [])=0):fl (.mk k i s l) (sa [])=some (r9 (.mk t []),0):=by
 unfold fl;rw[show(Tm.mk k i s l).ail=k from rfl,a,cv,cS (show ly (dp [t]) 0=true by rfl),show ru [t] 1 (dp [t])=some ([]:List Int)from rfl];simp only[cv,c8 (l:=([]:List Int)) aaL,cY,c6,nT,dh,dA,iq];rw[kq b];rfl
def SU:fl (.mk 4 i s l) (sa [])=some (Hr (gu 4 s [])):=ze rfl Ty.fM
def TV:fl (.mk 7 i s l) (sa [])=some (Hr (gu 7 s [])):=ze rfl Ty.nx
def Sb:fl (.mk 13 i s l) (sa [])=some (Hr (gu 13 s [])):=ze rfl Ty.F7
def Si(b:x.err=0):fl (.mk 5 i s l) (sa [x])=some (Hr (gu 5 s [x])):=by
 unfold fl;rw[show iX (Tm.mk 5 i s l).ail=some [1,1] from rfl,cv,cS (show ly (dp ([1,1]:List Int)) 0=true by rfl),show ru ([1,1]:List Int) 1 (dp ([1,1]:List Int))=some [1] from rfl];simp only[cv,c8 (l:=([1]:List Int)) aaL,cY,c6,sa];rw[dB,cS adr];simp only[DP,cv,Ea]
 by_cases a:x.ail=1
 .have hn:=(uG b).1 a;subst hn;rw[vF adr,cO aaB];simp only[cv,dR,nT,dh,dA,iq];rw[show lR (Ty.mk 1 [])=some (r9 .nat)from kq Ty.fM,Fe.1 rfl,oE];rfl
 .rw[Et a,cS aaB,Fe.2 (λh=>a ((uG b).2 h)),kM aaB];rfl
def Rv(c:x.err=0)(hy:y.err=0):fl (.mk 8 i s l) (sa [x,y])=some (Hr (gu 8 s [x,y])):=by
 unfold fl;rw[show iX (Tm.mk 8 i s l).ail=some [2,1,2] from rfl,cv,cS (show ly (dp ([2,1,2]:List Int)) 0=true by rfl),show ru ([2,1,2]:List Int) 1 (dp ([2,1,2]:List Int))=some [1,2] from rfl];simp only[cv,c8 (l:=([1,2]:List Int)) aaL,cY,c6,sa];rw[dB,cS adr];simp only[DP,cv,Ea]
 by_cases b:x.ail=1
 .have hn:=(uG c).1 b;subst hn;rw[vF adr,cO aaB];simp only[cv,dR];rw[dB,cO aaB,cS adr]
  by_cases a:y.ail=2
  .have hn:=(BU hy).1 a;subst hn;rw[vF adr,cO aaB];simp only[cv,dR,nT,dh,dA,iq];rw[show lR (Ty.mk 2 [])=some (r9 .mw)from kq Ty.nx,zs.1 ⟨rfl,rfl⟩,oE];rfl
  .rw[Et a,cS aaB,zs.2 (λh=>a ((BU hy).2 h.2)),kM aaB];rfl
 .rw[Et b,cS aaB,zs.2 (λh=>b ((uG c).2 h.1)),kM aaB];rfl
def UJ(hs:s.err=0)(d:x.err=0)(hy:y.err=0)(f:z.err=0):fl (.mk 6 i s l) (sa [x,y,z])=some (Hr (gu 6 s [x,y,z])):=by
 unfold fl;rw[show iX (Tm.mk 6 i s l).ail=some [] from rfl];simp only[cv];rw[cO aaB,cO aaL,cS adr];simp only[c6,sa,Tm.dV,kq hs,cv];rw[ri (by have:=ed d;omega)];simp only[cv]
 by_cases a:x=s
 .subst a;rw[ja,cS rfl,EL];simp only[cv,tO];rw[o6 (by have:=ed hy;omega)];simp only[cv]
  by_cases b:y=.fn .nat (.fn x x)
  .subst b;rw[ja,cS rfl];simp only[DP,cv];rw[show en (dj (Tm.mk 6 i x l).ail 9) (2:Int) 1=1 from rfl];simp only[Ea]
   by_cases c:z=.nat
   .subst c;rw[vF adr,cO aaB,vm.1 ⟨rfl,rfl,rfl⟩,oE]
   .rw[Et (λh=>c ((uG f).1 h)),cS aaB,vm.2 (λh=>c h.2.2),kM aaB];rfl
  .rw[kZ b,cO aaB,cS trivial,vm.2 (λh=>b h.2.1),kM aaB];rfl
 .rw[kZ a,cO aaB,cS trivial,vm.2 (λh=>a h.1),kM aaB];rfl
def SO(hs:s.err=0)(d:x.err=0)(hy:y.err=0)(f:z.err=0):fl (.mk 9 i s l) (sa [x,y,z])=some (Hr (gu 9 s [x,y,z])):=by
 unfold fl;rw[show iX (Tm.mk 9 i s l).ail=some [] from rfl];simp only[cv];rw[cO aaB,cO aaL,cS adr];simp only[c6,sa,Tm.dV,kq hs,cv];rw[ri (by have:=ed d;omega)];simp only[cv]
 by_cases a:x=s
 .subst a;rw[ja,cS rfl,Dw];simp only[cv,tO];rw[o6 (by have:=ed hy;omega)];simp only[cv]
  by_cases b:y=.fn .nat (.fn .mw (.fn x x))
  .subst b;rw[ja,cS rfl];simp only[DP,cv];rw[show en (dj (Tm.mk 9 i x l).ail 9) (2:Int) 1=2 from rfl];simp only[Ea]
   by_cases c:z=.mw
   .subst c;rw[vF adr,cO aaB,vb.1 ⟨rfl,rfl,rfl⟩,oE]
   .rw[Et (λh=>c ((BU f).1 h)),cS aaB,vb.2 (λh=>c h.2.2),kM aaB];rfl
  .rw[kZ b,cO aaB,cS trivial,vb.2 (λh=>b h.2.1),kM aaB];rfl
 .rw[kZ a,cO aaB,cS trivial,vb.2 (λh=>a h.1),kM aaB];rfl
end
def st9(p:cR×cR×cR):Int×(List Ty)×Int×Int×(List Ty)×Int×Int×(List Ty)×Int:=
 (p.1.cT.ail,p.1.cT.aim,p.1.ain,p.2.1.cT.ail,p.2.1.cT.aim,p.2.1.ain,p.2.2.cT.ail,p.2.2.cT.aim,p.2.2.ain)
def DY{n:Nat}{g:List Ty}:∀(l:List Tm) (d:List Ty),d.length+l.length<=3->(∀a∈l,dD n (g.map r9) a=some (Hr (a.ty g)))->dF (λ(f:Int) (A:Tm)=>(un9 λ(i:Int) (j:List Ty) (v218:Int) (k:Int) (o:List Ty) (q:Int) (v222:Int) (s:List Ty) (w:Int)=>
   cW (dD n (g.map r9) A) λc x=>
   if(dx x 0) then(
   some (.ret ((cR.mk (Ty.mk 0 []) 0),x)))
   else(if(dj f 0) then(
   some (.next (c.cT.ail,c.cT.aim,c.ain,k,o,q,v222,s,w)))
   else(if(dj f 1) then(
   some (.next (i,j,v218,c.cT.ail,c.cT.aim,c.ain,v222,s,w)))
   else(e_ (dj f 2)<|some (.next (i,j,v218,k,o,q,c.cT.ail,c.cT.aim,c.ain)))))):Int->Tm->(Int×(List Ty)×Int×Int×(List Ty)×Int×Int×(List Ty)×Int)->(Option (dW (Int×(List Ty)×Int×Int×(List Ty)×Int×Int×(List Ty)×Int) (cR×Int)))) l d.length (st9 (sa d))=some (match Tm.tL l g with|.inl ts=>.inl (st9 (sa (d++ts)))|.inr e=>.inr (Tw,e))
 |[],d,_,_=>by simp[Tm.tL]|a::l,d,B,h=>by
  simp only[kY] at B;rw[dB,Tm.tL];have D:=h a aaL;simp only[st9,un9];rw[D]
  by_cases y:(a.ty g).2=0
  .rw[xL y,pM rfl,oE,cN,cO aaB];generalize (a.ty g).1=t
   have go:∀C:List Ty,C=d++[t]->(some (dW.next (st9 (sa C))):Option (dW (Int×(List Ty)×Int×Int×(List Ty)×Int×Int×(List Ty)×Int) (cR×Int)))=some (dW.next (st9 (sa (d++[t])))):=λC e=>by rw[e]
   have ih:=DY l (d++[t]) acz (λb F=>h b (by simp[F]));rw[rF,kY,wC] at ih
   have fin:(some (match Tm.tL l g with|.inl ts=>.inl (st9 (sa (d++[t]++ts)))|.inr e=>.inr (Tw,e)):Option ((Int×(List Ty)×Int×Int×(List Ty)×Int×Int×(List Ty)×Int)⊕(cR×Int)))=some (match(match Tm.tL l g with|.inl ts=>Sum.inl (t::ts)|.inr e=>Sum.inr e:List Ty⊕Int)with|.inl ts=>.inl (st9 (sa (d++ts)))|.inr e=>.inr (Tw,e)):=by
    cases Tm.tL l g with
    |inl ts=>simp|inr e=>rfl
   match d,B with
   |[],_=>
    rw[cS adr];exact ih.trans fin
   |[u],_=>
    rw[cO aaL,cS adr];exact ih.trans fin
   |[u,v],_=>
    rw[cO aaL,cO aaL,show dj (([u,v].length:Nat):Int) 2=true from rfl,cY];exact ih.trans fin
   |_::_::_::_,B=>simp at B;omega
  .rw[pE y];generalize a.ty g=r at y;obtain⟨t,e⟩:=r;simp only at y;rw[kM y,cN,cS (by simpa[dx] using y)];rfl
def X'(p:cR×cR×cR):((cR.mk (Ty.mk p.1.cT.ail p.1.cT.aim) p.1.ain),(cR.mk (Ty.mk p.2.1.cT.ail p.2.1.cT.aim) p.2.1.ain),(cR.mk (Ty.mk p.2.2.cT.ail p.2.2.cT.aim) p.2.2.ain))=p:=by
 have e:∀t:Ty,Ty.mk t.ail t.aim=t:=λt=>by cases t;rfl
 obtain⟨⟨a,b⟩,⟨c,d⟩,⟨h,f⟩⟩:=p;simp only[e]
def kD{n:Nat}{g:List Ty}{k i:Int}{s:Ty}{l:List Tm}(q:k≠1)(r:k≠2)(t:l.length<=3)(h:∀a∈l,dD n (g.map r9) a=some (Hr (a.ty g)))
  (hn:∀ts,Tm.tL l g=.inl ts->fl (.mk k i s l) (sa ts)=some (Hr (gu k s ts))):dD (n+1) (g.map r9) (.mk k i s l)=some (Hr ((Tm.mk k i s l).ty g)):=by
 rw[dD,cO (by simpa[dj] using q),cO (by simpa[dj] using r),Tm.l0,cO q,cO r];simp only[c6,Tm.di];rw[c8 VW,cY];have f:=DY l [] (by simpa using t) h;refine(congrArg (λo=>cM o _) f).trans ?_;simp only[cv];cases j:Tm.tL l g with
 |inr e=>
  rw[Qm]
  have he:e≠0:=by
   rcases zK l g with⟨u,d,c⟩|⟨ts,d,_⟩
   .rw[j] at c;cases c;exact d
   .rw[j] at d;cases d
  rw[kM he];rfl
 |inl ts=>
  simp only[od,dh,nE,st9,un9];rw[X',hn ts j,show∀p:cR×Int,(cW (some p) λa b=>some (a,b))=some p fromλ_=>rfl]
end Go.eU
namespace Go.eU
open Go
def yh(g:List Ty)(s:Ty):g.map r9++[r9 s]=(g++[s]).map r9:=aaL
def CJ:∀(n:Nat) (t:Tm),t.ain<=n->t.ok=true->∀g,gN g->g.length+t.ain<=1000000->dD n (g.map r9) t=some (Hr (t.ty g)):=by
 intro n
 induction n with
 |zero=>intro t h;have:=t.dr;omega
 |succ n ih=>
  intro t hn B
  have one:∀{a:Tm} {g:List Ty} {ts:List Ty},a.ok=true->gN g->Tm.tL [a] g=.inl ts->∃x,ts=[x]/\x.err=0:=by
   intro a g ts j hg h;rcases BE j hg with⟨e,_,o⟩|⟨x,o,f⟩<;>rw[h] at o<;>cases o;exact⟨x,rfl,f⟩
  have two:∀{a b:Tm} {g:List Ty} {ts:List Ty},a.ok=true->b.ok=true->gN g->Tm.tL [a,b] g=.inl ts->∃x y,ts=[x,y]/\x.err=0/\y.err=0:=by
   intro a b g ts j k hg h;rcases Cv j k hg with⟨e,_,o⟩|⟨x,y,o,f,hy⟩<;>rw[h] at o<;>cases o;exact⟨x,y,rfl,f,hy⟩
  have three:∀{a b c:Tm} {g:List Ty} {ts:List Ty},a.ok=true->b.ok=true->c.ok=true->gN g->Tm.tL [a,b,c] g=.inl ts->∃x y z,ts=[x,y,z]/\x.err=0/\y.err=0/\z.err=0:=by
   intro a b c g ts j k l hg h;rcases Be j k l hg with⟨e,_,o⟩|⟨x,y,z,o,f,hy,u⟩<;>rw[h] at o<;>cases o;exact⟨x,y,z,rfl,f,hy,u⟩
  refine Tm.nU (p:=λt=>t.ain<=n+1->∀g,gN g->g.length+t.ain<=1000000->dD (n+1) (g.map r9) t=some (Hr (t.ty g))) ?_ ?_ ?_ ?_ ?_ ?_ ?_ ?_ ?_ ?_ ?_ ?_ ?_ t B hn
  .intro i _ g hg k;rw[Tm.cQ] at k;rw[dD,cS adr,Tm.l0,cS rfl];simp only[Tm.eY,ee,yA]
   by_cases hi:(i:Int)<(g.length:Int)
   .rw[cO (by simp only[gK];omega),cS hi];rw[ep (a:=(g.length:Int)) VW VW,ep VW VW]
    have v:g.length-1-i<g.length:=VW
    have:dg (g.map r9) ((g.length:Int)-1-(i:Int))=some (r9 g[g.length-1-i]):=by
     unfold dg;rw[cS VW,show((g.length:Int)-1-(i:Int)).toNat=g.length-1-i by omega,yq,l5 v];rfl
    rw[this];simp only[cv,zP];rw[TO,l5 v];exact congrArg some (oE _).symm
   .rw[cS (by simp only[gK];omega),cO hi,kM aaB];rfl
  .intro s b hs k hn g hg d;rw[Tm.cQ] at hn d;simp only[db] at hn d;rw[dD,cO aaL,cS adr,Tm.l0,cO aaB,cS rfl,Tm.tyH];simp only[Tm.dV,Tm.di,kq hs,dA,iq,cv,fu];rw[dT acz,cY,yh,ih b VW k (g++[s]) (hg.app hs) acz];have A:=λh=>(pR _ b (gO _) k (g++[s]) (hg.app hs) (b.ty (g++[s])).1 (xL h)).2;generalize b.ty (g++[s])=q at A;obtain⟨r,e⟩:=q;simp only[LD]
   by_cases w:e=0
   .subst w;have C:r.err=0:=A rfl;have D:=ed hs;have F:=ed C;rw[oE,cN,cO aaB,cO aaL,y0 4 VW VW]
    by_cases l:64<1+s.ain+r.ain
    .rw[cS l,cS l,kM aaB];rfl
    .rw[cO l,cO l,oE];rfl
   .rw[kM w,cN,cS (by simpa[dx] using w),cS w,kM w];rfl
  .intro a b j k hn g hg d;rw[Tm.cQ] at hn d;simp only[db] at hn d;refine kD aaB aaB aaL (by intro x f;simp at f;rcases f with rfl|rfl<;>first|exact ih _ VW j g hg VW|exact ih _ VW k g hg VW) (λts h=>?_);obtain⟨x,y,rfl,f,hy⟩:=two j k hg h;exact V' f hy
  .intro hn g hg d;exact kD aaB aaB aaL aaL (λts h=>by rw[Tm.tL] at h;cases h;exact SU)
  .intro a j hn g hg d;rw[Tm.cQ] at hn d;simp only[db] at hn d;refine kD aaB aaB aaL (by intro x f;simp at f;subst f;exact ih _ VW j g hg VW) (λts h=>?_);obtain⟨x,rfl,f⟩:=one j hg h;exact Si f
  .intro s a b c hs j k l hn g hg d;rw[Tm.cQ] at hn d;simp only[db] at hn d;refine kD aaB aaB aaL (by intro x f;simp at f;rcases f with rfl|rfl|rfl<;>first|exact ih _ VW j g hg VW|exact ih _ VW k g hg VW|exact ih _ VW l g hg VW) (λts h=>?_);obtain⟨x,y,z,rfl,f,hy,u⟩:=three j k l hg h;exact UJ hs f hy u
  .intro hn g hg d;exact kD aaB aaB aaL aaL (λts h=>by rw[Tm.tL] at h;cases h;exact TV)
  .intro a b j k hn g hg d;rw[Tm.cQ] at hn d;simp only[db] at hn d;refine kD aaB aaB aaL (by intro x f;simp at f;rcases f with rfl|rfl<;>first|exact ih _ VW j g hg VW|exact ih _ VW k g hg VW) (λts h=>?_);obtain⟨x,y,rfl,f,hy⟩:=two j k hg h;exact Rv f hy
  .intro s a b c hs j k l hn g hg d;rw[Tm.cQ] at hn d;simp only[db] at hn d;refine kD aaB aaB aaL (by intro x f;simp at f;rcases f with rfl|rfl|rfl<;>first|exact ih _ VW j g hg VW|exact ih _ VW k g hg VW|exact ih _ VW l g hg VW) (λts h=>?_);obtain⟨x,y,z,rfl,f,hy,u⟩:=three j k l hg h;exact SO hs f hy u
  .intro a b j k hn g hg d;rw[Tm.cQ] at hn d;simp only[db] at hn d;refine kD aaB aaB aaL (by intro x f;simp at f;rcases f with rfl|rfl<;>first|exact ih _ VW j g hg VW|exact ih _ VW k g hg VW) (λts h=>?_);obtain⟨x,y,rfl,f,hy⟩:=two j k hg h;exact Sw f hy
  .intro a j hn g hg d;rw[Tm.cQ] at hn d;simp only[db] at hn d;refine kD aaB aaB aaL (by intro x f;simp at f;subst f;exact ih _ VW j g hg VW) (λts h=>?_);obtain⟨x,rfl,f⟩:=one j hg h;exact Uk f
  .intro a j hn g hg d;rw[Tm.cQ] at hn d;simp only[db] at hn d;refine kD aaB aaB aaL (by intro x f;simp at f;subst f;exact ih _ VW j g hg VW) (λts h=>?_);obtain⟨x,rfl,f⟩:=one j hg h;exact UU f
  .intro hn g hg d;exact kD aaB aaB aaL aaL (λts h=>by rw[Tm.tL] at h;cases h;exact Sb)
def we{t:Tm}{g:List Ty}(a:t.ok=true)(hg:gN g)(b:g.length+t.ain<=1000000):dD FU (g.map r9) t=some (Hr (t.ty g)):=
 CJ FU t (by have:=d_;omega) a g hg b
noncomputable def oh (t:Tm) (g:List Ty) (k:Int):Int:=if(t.ty g).2=0/\(t.ty g).1.ail≠k then 7 else(t.ty g).2
def Ae{t:Tm}{g:List Ty}(k:Int)(c:t.ok=true)(hg:gN g)(d:g.length+t.ain<=1000000):gL (g.map r9) t k=some (oh t g k):=by
 unfold gL oh;rw[we c hg d];generalize t.ty g=q;obtain⟨r,e⟩:=q
 by_cases a:e=0
 .subst a;rw[oE,cN];simp only[c6];rw[cS adr,DP,cv,Ea]
  by_cases b:r.ail=k
  .rw[vF b,cO aaB,cO (λh=>h.2 b)]
  .rw[Et b,cS aaB,cS ⟨trivial,b⟩]
 .rw[kM a,cN];simp only[c6];rw[cO (by simpa[dj] using a),cO aaB,cO (λh=>a h.1)]
def wP{t:Tm}{g:List Ty}(a:t.ok=true)(hg:gN g)(b:g.length+t.ain<=1000000):gz (g.map r9) t=some (oh t g 1):=by
 unfold gz;rw[Ae 1 a hg b];rfl
end Go.eU
