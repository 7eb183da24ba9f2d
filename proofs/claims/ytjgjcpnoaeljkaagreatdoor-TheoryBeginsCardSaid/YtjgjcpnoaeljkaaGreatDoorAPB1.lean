/- Part of the proof of TheoryBegins: plain facts. -/
import Derived.Test.YtjgjcpnoaeljkaaGreatDoorAG1
set_option linter.all false
namespace Go.eZ
open Go
@[simp] theorem eT(a b:Int):dj a b=true↔a=b:=by simp[dj]
@[simp] theorem c9(a b:Int):dw a b=true↔a≠b:=by simp[dw]
@[simp] theorem kv(a b:Int):pR a b=true↔a<b:=by simp[pR]
@[simp] theorem Ff(a b:Int):HB a b=true↔a<=b:=by simp[HB]
@[simp] theorem fy(a b:Int):lQ a b=true↔b<a:=by simp[lQ]
@[simp] theorem gI(a b:Int):pH a b=true↔b<=a:=by simp[pH]
@[simp] theorem kZ(a b:Bool):ep a true b=(a||b):=by cases a<;>rfl
@[simp] theorem qc(a b:Bool):ep a b false=(a&&b):=by cases a<;>rfl
@[simp] theorem adY(a b:Bool):ep a b true=(!a||b):=by cases a<;>rfl
@[simp] theorem Q7(a:Bool):oF a=!a:=rfl
@[simp] theorem fj{α:Type}(l m:List α):fu l m=l++m:=rfl
@[simp] theorem eo{α:Type}(l:List α):dq l=(l.length:Int):=rfl
theorem gP{α:Type}(l:List α)(i:Nat):dg l (i:Int)=l[i]?:=by simp[dg]
@[simp] theorem dA{α:Type}(l:List α):dg l 0=l[0]?:=by simp[dg]
@[simp] theorem fh{α:Type}(l:List α):dg l 1=l[1]?:=by simp[dg]
@[simp] theorem hV{α:Type}(l:List α):dg l 2=l[2]?:=by simp[dg]
def J7{α:Type}{l:List α}{i:Int}(b:0<=i)(c:i<l.length):∃x,dg l i=some x/\x∈l:=by
 obtain⟨k,rfl⟩:=acw b
 have a:k<l.length:=VW
 exact⟨l[k],by rw[gP];simp[a],CC a⟩
def c8{α:Type}{l:List α}(h:l.length<=1000000000):dE l=true:=by unfold dE lim;exact vD VW
def dS{α:Type}{l m:List α}(h:l.length+m.length<=1000000000):eO l m=true:=by unfold eO lim;exact vD VW
def UL{b:Int}(h:b≠0):Co b=true:=by simp[Co,h]
def B8{n:Int}(a:-9223372036854775808<=n)(b:n<9223372036854775808):IntKind.i64.wrap n=n:=by
 rw[IntKind.wrap_i64];omega
def dP{a b:Int}(c:-9223372036854775808<=a+b)(d:a+b<9223372036854775808):dF .i64 a b=a+b:=B8 c d
theorem et{a b:Int}(c:-9223372036854775808<=a-b)(d:a-b<9223372036854775808):ed .i64 a b=a-b:=B8 c d
def zM{a b:Int}(c:-9223372036854775808<=a*b)(d:a*b<9223372036854775808):Li .i64 a b=a*b:=B8 c d
section
variable{α β σ ρ:Type}
def Mm{F:Int->α->σ->Option (dV σ ρ)}(I:σ->Prop):∀(l:List α) (i:Nat) (s:σ),I s->(∀k x s,l[k]?=some x->I s->∃a,F ((i+k:Nat):Int) x s=some (.next a)/\I a)->∃a,dH F l i s=some (.inl a)/\I a
 |[],i,s,hs,_=>⟨s,rfl,hs⟩|x::l,i,s,hs,h=>by
  obtain⟨s1,c,d⟩:=h 0 x s rfl hs;rw[I1] at c;rw[dJ,c];simp only[cv,dQ];refine Mm I l (i+1) s1 d λk y a f b=>?_;have:=h (k+1) y a (by simpa using f) b;rw[show i+(k+1)=i+1+k by omega] at this;exact this
def JR{F:Int->α->σ->Option (dV σ ρ)}(I:σ->Prop)(Q:ρ->Prop):∀(l:List α) (i:Nat) (s:σ),I s->(∀k x s,l[k]?=some x->I s->(∃a,F ((i+k:Nat):Int) x s=some (.next a)/\I a)\/(∃r,F ((i+k:Nat):Int) x s=some (.ret r)/\Q r))->(∃a,dH F l i s=some (.inl a)/\I a)\/(∃r,dH F l i s=some (.inr r)/\Q r)
 |[],i,s,hs,_=>.inl ⟨s,rfl,hs⟩|x::l,i,s,hs,h=>by
  have f:=h 0 x s rfl hs;rw[I1] at f;rw[dJ];rcases f with⟨s1,b,c⟩|⟨r,b,c⟩
  .rw[b];simp only[cv,dQ];refine JR I Q l (i+1) s1 c λk y a j d=>?_;have:=h (k+1) y a (by simpa using j) d;rw[show i+(k+1)=i+1+k by omega] at this;exact this
  .rw[b];exact .inr ⟨r,rfl,c⟩
def gE{F:Int->α->List β->Option (dV (List β) ρ)}(g:α->β):∀(l:List α) (i:Nat) (v:List β),v.length+l.length<=1000000000->(∀j x v,x∈l->v.length+1<=1000000000->F j x v=some (.next (v++[g x])))->dH F l i v=some (.inl (v++l.map g))
 |[],i,v,_,_=>by simp|x::l,i,v,a,h=>by
  simp only[kL] at a;rw[dJ,h i x v acZ VW];simp only[cv,dQ];rw[gE g l (i+1) (v++[g x]) ado λj y v hy b=>h j y v (by simp[hy]) b];simp
def db(g:α->Nat):List α->Nat
 |[]=>0|x::l=>g x+db g l
def di(g:α->Nat){l:List α}{x:α}(h:x∈l):g x<=db g l:=by
 induction l with
 |nil=>cases h
 |cons y l ih=>
  simp only[db];rcases j8.1 h with rfl|h
  .omega
  .have:=ih h;omega
def fR(g:α->Nat)(l:List α)(h:∀x∈l,1<=g x):l.length<=db g l:=by
 induction l with
 |nil=>simp|cons y l ih=>simp only[db,kL];have:=h y acZ;have:=ih λx a=>h x (by simp[a]);omega
def pc{F:Int->α->Int->Option (dV Int ρ)}(g:α->Nat):∀(l:List α) (i v:Nat),v+db g l<=4611686018427387904->(∀j x (v:Int),x∈l->F j x v=some (.next (dF .i64 v (g x))))->dH F l i (v:Int)=some (.inl ((v+db g l:Nat):Int))
 |[],i,v,_,_=>by simp[db]|x::l,i,v,a,h=>by
  simp only[db] at a|-;rw[dJ,h i x v acZ,dP VW VW];simp only[cv,dQ];have:=pc g l (i+1) (v+g x) VW λj y v hy=>h j y v (by simp[hy]);rw[show(v:Int)+(g x:Int)=((v+g x:Nat):Int) by omega,this];rw[VR]
def uw{F:Int->α->Int->Option (dV Int ρ)}(g:α->Nat)(ok:α->Bool)(r:ρ):∀(l:List α) (i v:Nat),v+db g l<=4611686018427387904->(∀j x (v:Int),x∈l->F j x v=if ok x then some (.next (dF .i64 v (g x)))else some (.ret r))->dH F l i (v:Int)=if l.all ok then some (.inl ((v+db g l:Nat):Int))else some (.inr r)
 |[],i,v,_,_=>by simp[db]|x::l,i,v,b,h=>by
  simp only[db] at b|-;rw[dJ,h i x v acZ,dP VW VW];cases a:ok x with
  |false=>simp[a]|true=>
   simp only[if_true,cv,dQ,AZ,a,zj];have:=uw g ok r l (i+1) (v+g x) VW λj y v hy=>h j y v (by simp[hy]);rw[show(v:Int)+(g x:Int)=((v+g x:Nat):Int) by omega,this,VR]
def qe{F:Int->α->Unit->Option (dV Unit ρ)}(ok:α->Bool)(r:ρ):∀(l:List α) (i:Nat),(∀j x,x∈l->F j x ()=if ok x then some (.next ())else some (.ret r))->dH F l i ()=if l.all ok then some (.inl ())else some (.inr r)
 |[],i,_=>by simp|x::l,i,h=>by
  rw[dJ,h i x acZ];cases a:ok x with
  |false=>simp[a]|true=>
   simp only[if_true,cv,dQ,AZ,a,zj];exact qe ok r l (i+1) λj y hy=>h j y (by simp[hy])
def eD:List Int->Int
 |[]=>0|e::l=>if e=0 then eD l else e
def kh{F:Int->α->Unit->Option (dV Unit Int)}(e:α->Int):∀(l:List α) (i:Nat),(∀j x,x∈l->F j x ()=if e x≠0 then some (.ret (e x))else some (.next ()))->dH F l i ()=if eD (l.map e)=0 then some (.inl ())else some (.inr (eD (l.map e)))
 |[],i,_=>by simp[eD]|x::l,i,h=>by
  rw[dJ,h i x acZ]
  by_cases he:e x=0
  .simp only[he,eD,Dk,ne_eq,YP,lS,cv,dQ,if_true];exact kh e l (i+1) λj y hy=>h j y (by simp[hy])
  .simp[he,eD]
def ur(p:α->β->Bool):List α->List β->Bool
 |x::l,y::m=>p x y&&ur p l m|[],[]=>true|_,_=>false
def wV{F:Int->α->Unit->Option (dV Unit Bool)}(p:α->β->Bool)(M:List β):∀(l:List α) (i:Nat) (m:List β),m=M.drop i->l.length=m.length->(∀(k:Nat) x y,x∈l->M[k]?=some y->F (k:Int) x ()=if p x y then some (.next ())else some (.ret false))->dH F l i ()=if ur p l m then some (.inl ())else some (.inr false)
 |[],i,m,_,d,_=>by
  cases m with
  |nil=>simp[ur]|cons y m=>simp at d
 |x::l,i,m,hm,d,h=>by
  cases m with
  |nil=>simp at d
  |cons y m=>
   have c:i<M.length:=by
    rcases s8 i M.length with h'|h'
    .exact h'
    .rw[IB h'] at hm;cases hm
   rw[KR c] at hm;injection hm with j n;rw[dJ,h i x y acZ (by simp[c,j])];cases f:p x y with
   |false=>simp[ur,f]|true=>
    simp only[if_true,cv,dQ,ur,f,zj];exact wV p M l (i+1) m n (by simpa using d) λk a b o q=>h k a b (by simp[o]) q
def wN(p:α->α->Bool):∀(l m:List α),(∀x∈l,∀y,p x y=true↔x=y)->(ur p l m=true↔l=m)
 |[],[],_=>by simp[ur]|[],_::_,_=>by simp[ur]|_::_,[],_=>by simp[ur]|x::l,y::m,h=>by simp[ur,h x acZ y,wN p l m λa b=>h a (by simp[b])]
def zE{F:σ->Option (dV σ ρ)}(I:σ->Prop)(μ:σ->Nat)(Q:σ⊕ρ->Prop)
  (h:∀s,I s->(∃a,F s=some (.next a)/\I a/\μ a<μ s)\/(∃a,F s=some (.brk a)/\Q (.inl a))\/(∃r,F s=some (.ret r)/\Q (.inr r))):∀(n:Nat) (s:σ),I s->μ s<n->∃o,nt F n s=some o/\Q o
 |0,s,_,hn=>by omega|n+1,s,hs,hn=>by
  rw[kb];rcases h s hs with⟨a,b,c,d⟩|⟨a,b,c⟩|⟨r,b,c⟩
  .rw[b];simp only[cv,dQ];exact zE I μ Q h n a c VW
  .rw[b];exact⟨_,rfl,c⟩
  .rw[b];exact⟨_,rfl,c⟩
def aak{n:Nat}(h:n<1000000000):n<FU:=by rw[dY];exact h
end
end Go.eZ
namespace Go.eZ
open Go
mutual
def Ty.aiw:Ty->Nat
 |.mk _ l=>1+Ty.mW l
def Ty.mW:List Ty->Nat
 |[]=>0|t::l=>t.aiw+Ty.mW l
end
def Ty.qW(l:List Ty):Ty.mW l=db Ty.aiw l:=by
 induction l with
 |nil=>rfl|cons t l ih=>simp[Ty.mW,db,ih]
theorem Ty.cQ(k:Int)(l:List Ty):(Ty.mk k l).aiw=1+db Ty.aiw l:=by rw[Ty.aiw,Ty.qW]
def Ty.dr(t:Ty):1<=t.aiw:=by cases t;rw[Ty.aiw];omega
def Ty.ek(l:List Ty):l.length<=db Ty.aiw l:=fR _ _ λt _=>t.dr
def Ty.want(k:Int):Option Nat:=if k=1\/k=2\/k=5 then some 0 else if k=3\/k=4 then some 2 else none
mutual
def Ty.ok:Ty->Bool
 |.mk k l=>decide (Ty.want k=some l.length)&&Ty.J6 l
def Ty.J6:List Ty->Bool
 |[]=>true|t::l=>t.ok&&Ty.J6 l
end
def Ty.zm(l:List Ty):Ty.J6 l=l.all Ty.ok:=by
 induction l with
 |nil=>rfl|cons t l ih=>simp[Ty.J6,ih]
theorem Ty.fX(k:Int)(l:List Ty):(Ty.mk k l).ok=(decide (Ty.want k=some l.length)&&l.all Ty.ok):=by rw[Ty.ok,Ty.zm]
def Ty.err(t:Ty):Int:=if t.ok then(if 64<t.aiw then 4 else 0)else 2
def I6:∀(n:Nat) (t:Ty),t.aiw<=n->t.aiw<=1000000000->gQ n t=some t:=by
 intro n
 induction n with
 |zero=>intro t h;have:=t.dr;omega
 |succ n ih=>
  intro t h a;cases t with
  |mk k l=>
   rw[Ty.cQ] at h a;have d:=Ty.ek l;rw[gQ];simp only[Ty.dh,Ty.dn,c6,c8 (l:=l) VW,cY];rw[gE id l 0 [] ado]
   .simp
   .intro j x v b c;have:=di Ty.aiw b;rw[ih x VW VW];simp[dS (l:=v) (m:=[x]) (by simpa using c)]
def gX{t:Ty}(h:t.aiw<=1000000000):gQ FU t=some t:=I6 FU t (by rw[dY];exact h) h
def Ce:∀(n:Nat) (t:Ty),t.aiw<=n->t.aiw<=1000000000->lL n t=some (if t.ok then((t.aiw:Int),true)else(0,false)):=by
 intro n
 induction n with
 |zero=>intro t h;have:=t.dr;omega
 |succ n ih=>
  intro t h u;cases t with
  |mk k l=>
   rw[Ty.cQ] at h u;have A:=Ty.ek l
   have key:dH (λ(q:Int) (c:Ty) (d:Int)=>cW (lL n c) λf i=>if i then some (dV.next (dF .i64 d f))else some (dV.ret ((0:Int),false))) l 0 1=if l.all Ty.ok then some (.inl ((1+db Ty.aiw l:Nat):Int))else some (.inr (0,false)):=by
    refine uw Ty.aiw Ty.ok _ l 0 1 VW ?_;intro j x v w;have:=di Ty.aiw w;rw[ih x VW VW];cases x.ok<;>simp
   rw[lL];simp only[Ty.dh,Ty.dn,c6,c8 (l:=l) VW,cY,key,kZ,rD,eT,c9,eo,Ty.fX,Ty.cQ,Ty.want]
   by_cases r:k=1\/k=2\/k=5
   .simp only[r,if_true]
    by_cases b:l=[]
    .subst b;simp[db]
    .have:¬(0=l.length):=by cases l with|nil=>exact absurd rfl b|cons a l=>simp
     have o:(l.length:Int)≠0:=VW
     simp[this,o,b]
   .simp only[r,lS]
    by_cases b:k=3\/k=4
    .simp only[b,if_true]
     by_cases o:l.length=2
     .cases s:l.all Ty.ok<;>simp[o]
     .have s:(l.length:Int)≠2:=VW
      have y:¬2=l.length:=VW
      simp[s,y]
    .simp[b]
theorem kM{t:Ty}(h:t.aiw<=1000000000):ia t=some (if t.err=0 then(t.aiw:Int)else 0,t.err):=by
 unfold ia Ty.err;rw[Ce FU t (by rw[dY];exact h) h];cases t.ok with
 |false=>simp|true=>
  by_cases a:64<t.aiw
  .simp[a];omega
  .simp[a];omega
def yZ{t:Ty}(h:t.aiw<=1000000000):lp t=some t.err:=by
 unfold lp;rw[kM h];rfl
def Ty.qQ(t:Ty):Bool:=ep (dj t.aiu 0) (dj (dq t.aiv) 0) false
theorem Ty.lx(t:Ty):t.qQ=true↔t=.mk 0 []:=by
 cases t with
 |mk k l=>unfold Ty.qQ;simp
theorem q8(t:Ty):nq t=some t.qQ:=rfl
def vB(t:Ty):oS t=some t.qQ:=rfl
def GD:∀(n:Nat) (t:Ty),t.aiw<=n->t.aiw<=1000000000->o6 n t=some t.ok:=by
 intro n
 induction n with
 |zero=>intro t h;have:=t.dr;omega
 |succ n ih=>
  intro t h r;cases t with
  |mk k l=>
   rw[Ty.cQ] at h r;have v:=Ty.ek l
   have key:dH (λ(i:Int) (c:Ty) (_:Unit)=>cM (o6 n c) λd=>if d then some (dV.next ())else some (dV.ret false)) l 0 ()=if l.all Ty.ok then some (.inl ())else some (.inr false):=by
    refine qe Ty.ok _ l 0 ?_;intro j x s;have:=di Ty.aiw s;rw[ih x VW VW];rfl
   rw[o6];simp only[Ty.dh,Ty.dn,c6,c8 (l:=l) VW,cY,key,kZ,rD,eT,c9,eo,Ty.fX,Ty.want]
   by_cases o:k=1\/k=2\/k=5
   .simp only[o,if_true]
    by_cases b:l=[]
    .subst b;simp
    .have:¬(0=l.length):=by cases l with|nil=>exact absurd rfl b|cons a l=>simp
     have f:(l.length:Int)≠0:=VW
     simp[this,f,b]
   .simp only[o,lS]
    by_cases b:k=3\/k=4
    .simp only[b,if_true]
     by_cases f:l.length=2
     .cases q:l.all Ty.ok<;>simp[f]
     .have q:(l.length:Int)≠2:=VW
      have u:¬2=l.length:=VW
      simp[q,u]
    .simp[b]
def Jf:∀(n:Nat) (t:Ty),t.aiw<=n->t.aiw<=1000000000->qg n t=some (t.aiw:Int):=by
 intro n
 induction n with
 |zero=>intro t h;have:=t.dr;omega
 |succ n ih=>
  intro t h a;cases t with
  |mk k l=>
   rw[Ty.cQ] at h a;have c:=Ty.ek l;rw[qg];simp only[Ty.dh,c6,c8 (l:=l) VW,cY]
   have key:=pc (ρ:=Int) (F:=λ(j:Int) (x:Ty) (v:Int)=>cM (qg n x) λy=>some (dV.next (dF .i64 v y))) Ty.aiw l 0 1 VW (by
    intro j x v b;have:=di Ty.aiw b;rw[ih x VW VW]
    rfl)
   rw[show(1:Int)=((1:Nat):Int)from rfl,key];simp[Ty.cQ]
def lJ{t:Ty}(h:t.aiw<=1000000000):hY t=some t.err:=by
 unfold hY Ty.err;rw[GD FU t (by rw[dY];exact h) h,Jf FU t (by rw[dY];exact h) h];cases t.ok with
 |false=>simp|true=>by_cases a:64<t.aiw<;>simp[a]<;>omega
def vG:∀(n:Nat) (a b:Ty),a.aiw<=n->a.aiw<=1000000000->∃r,ey n a b=some r/\(r=true↔a=b):=by
 intro n
 induction n with
 |zero=>intro t b h;have:=t.dr;omega
 |succ n ih=>
  intro a b h s;cases a with
  |mk k l=>
  cases b with
  |mk k' m=>
   rw[Ty.cQ] at h s;have u:=Ty.ek l;rw[ey];simp only[Ty.dh,Ty.dn,c6,c8 (l:=l) VW,cY,kZ,rD,c9,eo]
   by_cases d:k≠k'\/(l.length:Int)≠m.length
   .rw[cS d];refine⟨false,rfl,?_⟩;simp only[oo,KN,Ty.mk.injEq,not_and];rintro rfl rfl;simp at d
   .rw[cO d];simp only[not_or,vS] at d;obtain⟨rfl,hlen⟩:=d
    have c:l.length=m.length:=VW
    let p:Ty->Ty->Bool:=λx y=>(ey n x y).getD false
    have o:∀x∈l,∀y,ey n x y=some (p x y)/\(p x y=true↔x=y):=by
     intro x f y;have:=di Ty.aiw f;obtain⟨r,q,i⟩:=ih x y VW VW
     have e:p x y=r:=by show(ey n x y).getD false=r;rw[q];rfl
     rw[e];exact⟨q,i⟩
    have key:=wV (F:=λ(j:Int) (x:Ty) (_:Unit)=>cM (dg m j) λy=>cM (ey n x y) λz=>if z then some (dV.next ())else some (dV.ret false)) p m l 0 m rfl c (by
     intro k x y f hy;rw[gP,hy];simp only[cv];rw[(o x f y).1]
     rfl)
    rw[key];have he:=wN p l m λx f y=>(o x f y).2;cases i:ur p l m with
    |false=>exact⟨false,rfl,by rw[i] at he;simpa using he⟩
    |true=>exact⟨true,rfl,by rw[i] at he;simpa using he⟩
noncomputable def Ty.jE (a b:Ty):Bool:=@decide (a=b) (Classical.propDecidable _)
theorem Ty.jM(a b:Ty):a.jE b=true↔a=b:=by unfold Ty.jE;simp
theorem gY{a b:Ty}(h:a.aiw<=1000000000):ey FU a b=some (a.jE b):=by
 obtain⟨r,c,d⟩:=vG FU a b (by rw[dY];exact h) h;rw[c]
 congr 1
 rw[CY,d,Ty.jM]
mutual
def Tm.aiw:Tm->Nat
 |.mk _ _ _ l=>1+Tm.mW l
def Tm.mW:List Tm->Nat
 |[]=>0|t::l=>t.aiw+Tm.mW l
end
def Tm.qW(l:List Tm):Tm.mW l=db Tm.aiw l:=by
 induction l with
 |nil=>rfl|cons t l ih=>simp[Tm.mW,db,ih]
theorem Tm.cQ(k i:Int)(s:Ty)(l:List Tm):(Tm.mk k i s l).aiw=1+db Tm.aiw l:=by rw[Tm.aiw,Tm.qW]
def Tm.dr(t:Tm):1<=t.aiw:=by cases t;rw[Tm.aiw];omega
def Tm.ek(l:List Tm):l.length<=db Tm.aiw l:=fR _ _ λt _=>t.dr
mutual
def Tm.wt:Tm->Nat
 |.mk _ _ s l=>1+s.aiw+Tm.Qf l
def Tm.Qf:List Tm->Nat
 |[]=>0|t::l=>t.wt+Tm.Qf l
end
def Tm.CP(l:List Tm):Tm.Qf l=db Tm.wt l:=by
 induction l with
 |nil=>rfl|cons t l ih=>simp[Tm.Qf,db,ih]
theorem Tm.ee(k i:Int)(s:Ty)(l:List Tm):(Tm.mk k i s l).wt=1+s.aiw+db Tm.wt l:=by rw[Tm.wt,Tm.CP]
def Tm.gJ(t:Tm):1<=t.wt:=by cases t;rw[Tm.wt];omega
def Tm.mY(l:List Tm):l.length<=db Tm.wt l:=fR _ _ λt _=>t.gJ
def jy{α:Type}{f g:α->Nat}{l:List α}(h:∀x∈l,f x<=g x):db f l<=db g l:=by
 induction l with
 |nil=>simp[db]|cons x l ih=>simp only[db];have:=h x acZ;have:=ih λy hy=>h y (by simp[hy]);omega
def oU{α β:Type}(f:β->Nat)(g:α->β)(l:List α):db f (l.map g)=db (λx=>f (g x)) l:=by
 induction l with
 |nil=>rfl|cons x l ih=>simp[db,ih]
def qk{α:Type}{f g:α->Nat}{l:List α}(h:∀x∈l,f x=g x):db f l=db g l:=by
 induction l with
 |nil=>rfl|cons x l ih=>simp[db,h x acZ,ih λy hy=>h y (by simp[hy])]
def Eg{α:Type}(f:α->Nat)(l m:List α):db f (l++m)=db f l+db f m:=by
 induction l with
 |nil=>simp[db]|cons x l ih=>simp[db,ih];omega
def Tm.ind{p:Tm->Prop}(h:∀k i s l,(∀t∈l,p t)->p (.mk k i s l))(t:Tm):p t:=by
 have:∀n (t:Tm),t.aiw<=n->p t:=by
  intro n
  induction n with
  |zero=>intro t a;have:=t.dr;omega
  |succ n ih=>
   intro t a;cases t with
   |mk k i s l=>
    rw[Tm.cQ] at a;exact h k i s l λu hu=>ih u (by have:=di Tm.aiw hu;omega)
 exact this _ t (gV _)
def Tm.gM(t:Tm):t.aiw<=t.wt:=by
 induction t using Tm.ind with
 |h k i s l ih=>rw[Tm.cQ,Tm.ee];have:=jy ih;omega
def jq(k:Int):Bool:=decide (k=2\/k=6\/k=9)
def gG(k:Int):Int:=
 if k=1\/k=4\/k=7\/k=13 then 0 else if k=2\/k=5\/k=11\/k=12 then 1 else if k=3\/k=8\/k=10 then 2 else if k=6\/k=9 then 3 else-1
def Tm.node(k i:Int)(s:Ty)(n:Nat):Bool:=
 decide ((n:Int)=gG k)&&decide (0<=i)&&(decide (k=1)||decide (i=0))&&(if jq k then decide (s.err=0)else s.qQ)
mutual
def Tm.ok:Tm->Bool
 |.mk k i s l=>Tm.node k i s l.length&&Tm.J6 l
def Tm.J6:List Tm->Bool
 |[]=>true|t::l=>t.ok&&Tm.J6 l
end
def Tm.zm(l:List Tm):Tm.J6 l=l.all Tm.ok:=by
 induction l with
 |nil=>rfl|cons t l ih=>simp[Tm.J6,ih]
theorem Tm.fX(k i:Int)(s:Ty)(l:List Tm):(Tm.mk k i s l).ok=(Tm.node k i s l.length&&l.all Tm.ok):=by rw[Tm.ok,Tm.zm]
def Tm.err(t:Tm):Int:=if t.ok then(if 4096<t.aiw then 4 else 0)else 2
def Ie:∀(n:Nat) (t:Tm),t.wt<=n->t.wt<=1000000000->iC n t=some t:=by
 intro n
 induction n with
 |zero=>intro t h;have:=t.gJ;omega
 |succ n ih=>
  intro t h a;cases t with
  |mk k i s l=>
   rw[Tm.ee] at h a;have d:=Tm.mY l;rw[iC];simp only[Tm.dh,Tm.dn,Tm.eW,Tm.dU,c6,c8 (l:=l) VW,cY];rw[gE id l 0 [] ado]
   .simp[gX (t:=s) VW]
   .intro j x v b c;have:=di Tm.wt b;rw[ih x VW VW];simp[dS (l:=v) (m:=[x]) (by simpa using c)]
def mq{t:Tm}(h:t.wt<=1000000000):iC FU t=some t:=Ie FU t (by rw[dY];exact h) h
def oK(k:Int)(l:List Tm)(h:db Tm.wt l<=1000000000):eN k l=some (Tm.mk k 0 (.mk 0 []) l):=by
 have c:=Tm.mY l;unfold eN;simp only[c6,c8 (l:=l) VW,cY];rw[gE id l 0 [] ado]
 .simp
 .intro j x v a b;have:=di Tm.wt a;rw[mq (t:=x) VW];simp[dS (l:=v) (m:=[x]) (by simpa using b)]
def Hp(k:Int)(s:Ty)(l:List Tm)(hs:s.aiw<=1000000000)(h:db Tm.wt l<=1000000000):kN k s l=some (Tm.mk k 0 s l):=by
 unfold kN;rw[oK k l h];simp[gX hs]
def HU(k:Int):uc k=some (gG k):=by
 unfold uc gG;simp only[kZ,rD,eT]
 split<;>(try rfl)
 split<;>(try rfl)
 split<;>(try rfl)
 split<;>rfl
def nb:∀(n:Nat) (t:Tm),t.aiw<=n->t.aiw<=1000000000->eQ n t=some (t.aiw:Int):=by
 intro n
 induction n with
 |zero=>intro t h;have:=t.dr;omega
 |succ n ih=>
  intro t h a;cases t with
  |mk k i s l=>
   rw[Tm.cQ] at h a;have c:=Tm.ek l;rw[eQ];simp only[Tm.dh,c6,c8 (l:=l) VW,cY]
   have key:=pc (ρ:=Int) (F:=λ(j:Int) (x:Tm) (v:Int)=>cM (eQ n x) λy=>some (dV.next (dF .i64 v y))) Tm.aiw l 0 1 VW (by
    intro j x v b;have:=di Tm.aiw b;rw[ih x VW VW]
    rfl)
   rw[show(1:Int)=((1:Nat):Int)from rfl,key];simp[Tm.cQ]
def ym:∀(n:Nat) (t:Tm),t.wt<=n->t.wt<=1000000000->jW n t=some t.ok:=by
 intro n
 induction n with
 |zero=>intro t h;have:=t.gJ;omega
 |succ n ih=>
  intro t h v;cases t with
  |mk k i s l=>
   rw[Tm.ee] at h v;have D:=Tm.mY l
   have key:dH (λ(o:Int) (a:Tm) (_:Unit)=>cM (jW n a) λb=>if b then some (dV.next ())else some (dV.ret false)) l 0 ()=if l.all Tm.ok then some (.inl ())else some (.inr false):=by
    refine qe Tm.ok _ l 0 ?_;intro j x w;have:=di Tm.wt w;rw[ih x VW VW];rfl
   rw[jW]
   simp only[Tm.dh,Tm.dn,Tm.eW,Tm.dU,c6,c8 (l:=l) VW,cY,key,kZ,rD,eT,c9,kv,eo,Tm.fX,HU,cv,lJ (t:=s) VW,vB]
   by_cases d:(l.length:Int)=gG k
   .by_cases q:i<0
    .have:¬0<=i:=VW
     simp[d,q,Tm.node,this]
    .have y:0<=i:=VW
     by_cases r:k=1
     .subst r;cases c:s.qQ<;>cases f:l.all Tm.ok<;>simp_all [Tm.node,jq]
     .by_cases c:i=0
      .subst c;have u:dw 0 0=false:=rfl
       by_cases f:k=2\/k=6\/k=9
       .have A:jq k=true:=by simp[jq,f]
        by_cases B:s.err=0<;>cases C:l.all Tm.ok<;>simp_all [Tm.node]
       .have A:jq k=false:=by simp[jq,f]
        cases B:s.qQ<;>cases C:l.all Tm.ok<;>simp_all [Tm.node]
      .have u:dw i 0=true:=by simp[c]
       simp[d,q,r,c,u,Tm.node]
   .simp[d,Tm.node]
def lK{t:Tm}(h:t.wt<=1000000000):kH t=some t.err:=by
 have:=t.gM;unfold kH Tm.err;rw[ym FU t (by rw[dY];exact h) h,nb FU t (by rw[dY];omega) VW];cases t.ok with
 |false=>simp|true=>by_cases a:4096<t.aiw<;>simp[a]<;>omega
def HJ(k:Int):ua k=some (if 1<=k/\k<14 then(gG k,true)else(0,false)):=by
 unfold ua;simp only[kZ,rD,kv,gI]
 by_cases h:k<1\/14<=k
 .rw[cS h,cO VW]
 .rw[cO h,cS VW]
  have:k=1\/k=2\/k=3\/k=4\/k=5\/k=6\/k=7\/k=8\/k=9\/k=10\/k=11\/k=12\/k=13:=VW
  rcases this with rfl|rfl|rfl|rfl|rfl|rfl|rfl|rfl|rfl|rfl|rfl|rfl|rfl<;>rfl
def IX(k:Int):uo k=some (jq k):=by
 unfold uo jq
 congr 1
 rw[CY];simp
def Kg{k:Int}{n:Nat}(h:(n:Int)=gG k):1<=k/\k<14:=by
 unfold gG at h
 repeat' split at h
 all_goals omega
def vt:∀(n:Nat) (t:Tm),t.wt<=n->t.wt<=1000000000->jv n t=some (if t.ok then((t.aiw:Int),true)else(0,false)):=by
 intro n
 induction n with
 |zero=>intro t h;have:=t.gJ;omega
 |succ n ih=>
  intro t h A;cases t with
  |mk k i s l=>
   rw[Tm.ee] at h A;have I:=Tm.mY l;have hn:db Tm.aiw l<=db Tm.wt l:=jy λx _=>x.gM
   have key:dH (λ(u:Int) (a:Tm) (b:Int)=>cW (jv n a) λc d=>if d then some (dV.next (dF .i64 b c))else some (dV.ret ((0:Int),false))) l 0 1=if l.all Tm.ok then some (.inl ((1+db Tm.aiw l:Nat):Int))else some (.inr (0,false)):=by
    refine uw Tm.aiw Tm.ok _ l 0 1 VW ?_;intro j x v B;have:=di Tm.wt B;rw[ih x VW VW];cases x.ok<;>simp
   rw[jv];simp only[Tm.dh,Tm.dn,Tm.eW,Tm.dU,c6,c8 (l:=l) VW,cY,key,Tm.fX,Tm.cQ,HJ,IX,kM (t:=s) VW,q8,cv,cN]
   by_cases f:(l.length:Int)=gG k
   .have o:=Kg f;simp only[o,and_self,if_true,cN,BJ,kZ,qc,rD,fK,c9,kv,eo,f,ne_eq,YP,false_or]
    by_cases w:i<0
    .have:¬0<=i:=VW
     simp[w,Tm.node,this]
    .have C:0<=i:=VW
     by_cases y:k=1
     .subst y;cases q:s.qQ<;>cases r:l.all Tm.ok<;>simp_all [Tm.node,jq]
     .by_cases q:i=0
      .subst q
       by_cases r:k=2\/k=6\/k=9
       .have D:jq k=true:=by simp[jq,r]
        by_cases F:s.err=0<;>cases G:l.all Tm.ok<;>simp_all [Tm.node]
       .have D:jq k=false:=by simp[jq,r]
        cases F:s.qQ<;>cases G:l.all Tm.ok<;>simp_all [Tm.node]
      .simp[w,y,q,Tm.node]
   .have H:Tm.node k i s l.length=false:=by simp[Tm.node,f]
    simp only[H,aaX,oo,lS]
    by_cases o:1<=k/\k<14
    .simp[o,f]
    .simp[o]
def e9(k:Int):Int:=if k=2 then 1 else 0
def kr(k:Int):0<=e9 k/\e9 k<=1:=by unfold e9;split<;>omega
def mX(t:Tm):kC t=some (e9 t.aiu):=by
 unfold kC e9;simp only[eT]
 split<;>rfl
mutual
def Tm.up(f b:Int):Tm->Tm
 |.mk k i s l=>.mk k (if k=1/\f<=i then i+b else i) s (Tm.YW (f+e9 k) b l)
def Tm.YW(f b:Int):List Tm->List Tm
 |[]=>[]|t::l=>t.up f b::Tm.YW f b l
end
def Tm.Ql(f b:Int)(l:List Tm):Tm.YW f b l=l.map (Tm.up f b):=by
 induction l with
 |nil=>rfl|cons t l ih=>simp[Tm.YW,ih]
def Tm.kO(f b k i:Int)(s:Ty)(l:List Tm):(Tm.mk k i s l).up f b=.mk k (if k=1/\f<=i then i+b else i) s (l.map (Tm.up (f+e9 k) b)):=by rw[Tm.up,Tm.Ql]
mutual
def Tm.aiA(m:Int):Tm->Bool
 |.mk _ i _ l=>decide (i<=m)&&Tm.tj m l
def Tm.tj(m:Int):List Tm->Bool
 |[]=>true|t::l=>t.aiA m&&Tm.tj m l
end
def Tm.Dg(m:Int)(l:List Tm):Tm.tj m l=l.all (Tm.aiA m):=by
 induction l with
 |nil=>rfl|cons t l ih=>simp[Tm.tj,ih]
theorem Tm.ez(m k i:Int)(s:Ty)(l:List Tm):(Tm.mk k i s l).aiA m=(decide (i<=m)&&l.all (Tm.aiA m)):=by rw[Tm.aiA,Tm.Dg]
mutual
def Tm.aiC(a:Int):Tm->Nat
 |.mk k i _ l=>(if k=1/\i=a then 1 else 0)+Tm.xF (a+e9 k) l
def Tm.xF(a:Int):List Tm->Nat
 |[]=>0|t::l=>t.aiC a+Tm.xF a l
end
def Tm.Dt(a:Int)(l:List Tm):Tm.xF a l=db (Tm.aiC a) l:=by
 induction l with
 |nil=>rfl|cons t l ih=>simp[Tm.xF,db,ih]
def Tm.fB(a k i:Int)(s:Ty)(l:List Tm):(Tm.mk k i s l).aiC a=(if k=1/\i=a then 1 else 0)+db (Tm.aiC (a+e9 k)) l:=by rw[Tm.aiC,Tm.Dt]
def Tm.gZ(t:Tm):∀a,t.aiC a<=t.aiw:=by
 induction t using Tm.ind with
 |h k i s l ih=>
  intro a;rw[Tm.fB,Tm.cQ];have:=jy (f:=Tm.aiC (a+e9 k)) (g:=Tm.aiw) (l:=l) λx b=>ih x b _
  split<;>omega
def Tm.ue(n i:Int)(s t:Tm):Tm:=if i=n then s.up 0 n else if n<i then .mk 1 (i-1) (.mk 0 []) [] else t
mutual
def Tm.iu:Int->Tm->Tm->Tm
 |n,.mk k i ty l,s=>if k=1 then Tm.ue n i s (.mk k i ty l)else .mk k i ty (Tm.LI (n+e9 k) l s)
def Tm.LI:Int->List Tm->Tm->List Tm
 |_,[],_=>[]|n,t::l,s=>Tm.iu n t s::Tm.LI n l s
end
def Tm.KI(n:Int)(s:Tm)(l:List Tm):Tm.LI n l s=l.map (λx=>Tm.iu n x s):=by
 induction l with
 |nil=>rfl|cons t l ih=>simp[Tm.LI,ih]
def Tm.mV(n:Int)(s:Tm)(k i:Int)(ty:Ty)(l:List Tm):Tm.iu n (Tm.mk k i ty l) s=if k=1 then Tm.ue n i s (.mk k i ty l)else .mk k i ty (l.map (λx=>Tm.iu (n+e9 k) x s)):=by rw[Tm.iu,Tm.KI]
theorem Tm.pX(t:Tm):∀f b,(t.up f b).aiw=t.aiw:=by
 induction t using Tm.ind with
 |h k i s l ih=>
  intro f b;rw[Tm.kO,Tm.cQ,Tm.cQ,oU];rw[qk λx a=>ih x a _ _]
theorem Tm.Gu(t:Tm):∀f b,(t.up f b).wt=t.wt:=by
 induction t using Tm.ind with
 |h k i s l ih=>
  intro f b;rw[Tm.kO,Tm.ee,Tm.ee,oU];rw[qk λx a=>ih x a _ _]
def vK{α β:Type}{p:β->Bool}{q:α->Bool}{g:α->β}{l:List α}(h:∀x∈l,p (g x)=q x):(l.map g).all p=l.all q:=by
 induction l with
 |nil=>rfl|cons x l ih=>simp only[Dk,AZ,h x acZ,ih λy hy=>h y (by simp[hy])]
def Tm.Pj{k i j:Int}{s:Ty}{n:Nat}(h:k=1/\0<=i/\0<=j\/i=j):Tm.node k i s n=Tm.node k j s n:=by
 rcases h with⟨rfl,a,b⟩|rfl
 .simp[Tm.node,a,b]
 .rfl
theorem Tm.JW(t:Tm):∀f b,0<=f->0<=b->(t.up f b).ok=t.ok:=by
 induction t using Tm.ind with
 |h k i s l ih=>
  intro f b d a;rw[Tm.kO,Tm.fX,Tm.fX,A1,vK λx c=>ih x c (f+e9 k) b (by have:=kr k;omega) a]
  congr 1
  apply Tm.Pj
  split
  .rename_i j;left;omega
  .right;rfl
def yM:∀(n:Nat) (t:Tm) (m:Int),t.aiw<=n->t.aiw<=1000000000->kB n t m=some (t.aiA m):=by
 intro n
 induction n with
 |zero=>intro t m h;have:=t.dr;omega
 |succ n ih=>
  intro t m h f;cases t with
  |mk k i s l=>
   rw[Tm.cQ] at h f;have q:=Tm.ek l
   have key:dH (λ(c:Int) (a:Tm) (_:Unit)=>cM (kB n a m) λb=>if b then some (dV.next ())else some (dV.ret false)) l 0 ()=if l.all (Tm.aiA m) then some (.inl ())else some (.inr false):=by
    refine qe (Tm.aiA m) _ l 0 ?_;intro j x o;have:=di Tm.aiw o;rw[ih x m VW VW];rfl
   rw[kB];simp only[Tm.dh,Tm.eW,c6,c8 (l:=l) VW,cY,key,fy,Tm.ez]
   by_cases d:m<i
   .have:¬i<=m:=VW
    simp[d,this]
   .have:i<=m:=VW
    cases r:l.all (Tm.aiA m)<;>simp[d,this]
def zk:∀(n:Nat) (t:Tm) (f b:Int),t.aiw<=n->t.aiw<=1000000000->0<=f->f+t.aiw<=10000000000->0<=b->b<=10000000000->t.aiA 1000000000000=true->pY n t f b=some (t.up f b):=by
 intro n
 induction n with
 |zero=>intro t f b h;have:=t.dr;omega
 |succ n ih=>
  intro t f b h a B c u d hi;cases t with
  |mk k i s l=>
   rw[Tm.cQ] at h a c;rw[Tm.ez] at hi;simp only[fK,oq,j3] at hi;have C:=Tm.ek l;have D:=kr k;rw[pY];simp only[Tm.dh,Tm.eW,Tm.dn,Tm.dU,c6,c8 (l:=l) VW,cY];rw[gE (Tm.up (f+e9 k) b) l 0 [] ado]
   .rw[Tm.kO];simp only[cv,dk,oE,u9,Tm.mk.injEq,and_true,N6]
    by_cases o:k=1/\f<=i
    .obtain⟨rfl,q⟩:=o;rw[dP VW VW];have w:dj 1 1=true:=rfl
     have y:pH i f=true:=by simp[q]
     simp[w,y,q]
    .rw[cO o]
     have e:ep (dj k 1) (pH i f) false=false:=by
      rw[qc,L5];simp only[ne_eq,fK,eT,gI];exact o
     rw[e];rfl
   .intro j x v r A;have:=di Tm.aiw r;rw[mX];simp only[cv,Tm.dn];rw[dP VW VW,ih x (f+e9 k) b VW VW VW VW u d (hi.2 x r)];simp[dS (l:=v) (m:=[x.up (f+e9 k) b]) (by simpa using A)]
def zg:∀(n:Nat) (t:Tm) (a:Int),t.aiw<=n->t.aiw<=1000000000->0<=a->a+t.aiw<=10000000000->mo n t a=some (t.aiC a:Int):=by
 intro n
 induction n with
 |zero=>intro t a h;have:=t.dr;omega
 |succ n ih=>
  intro t a h c u d;cases t with
  |mk k i s l=>
   rw[Tm.cQ] at h c d;have w:=Tm.ek l;have A:=kr k;have o:db (Tm.aiC (a+e9 k)) l<=db Tm.aiw l:=jy λx _=>x.gZ _;rw[mo];simp only[Tm.dh,Tm.eW,Tm.dn,c6,c8 (l:=l) VW,cY]
   have q:ep (ep (dj k 1) (dj i a) false) (dF .i64 0 1) 0=(((if k=1/\i=a then 1 else 0:Nat)):Int):=by
    by_cases f:k=1/\i=a
    .obtain⟨rfl,rfl⟩:=f;simp[dj,ep,dF,B8]
    .have e:ep (dj k 1) (dj i a) false=false:=by
      rw[qc,L5];simp only[ne_eq,fK,eT];exact f
     rw[e,cO f];rfl
   have key:=pc (ρ:=Int) (F:=λ(j:Int) (x:Tm) (v:Int)=>cM (kC (Tm.mk k i s l)) λb=>cM (mo n x (dF .i64 a b)) λy=>some (dV.next (dF .i64 v y)))
    (Tm.aiC (a+e9 k)) l 0 (if k=1/\i=a then 1 else 0) (by split<;>omega) (by
    intro j x v r;have:=di Tm.aiw r;rw[mX];simp only[cv,Tm.dn];rw[dP VW VW,ih x _ VW VW VW VW]
    rfl)
   rw[q,key];simp[Tm.fB]
def DY:∀(n:Nat) (t:Tm) (a b:Int) (s:Tm),t.aiw<=n->t.aiw<=1000000000->0<=a->0<=b->a+b+t.aiw<=5000000000->t.aiA 1000000000000=true->t.ok=true->s.aiw<=1000000000->s.aiA 1000000000000=true->uA n t a b s=some (Tm.iu (a+b) t s):=by
 intro n
 induction n with
 |zero=>intro t a b s h;have:=t.dr;omega
 |succ n ih=>
  intro t a b s h r y C u hi c hs d;cases t with
  |mk k i ty l=>
   rw[Tm.cQ] at h r u;rw[Tm.ez] at hi;rw[Tm.fX] at c;simp only[fK,oq,j3] at hi c;have D:=Tm.ek l;have F:=kr k
   have A:0<=i:=by
    have:=c.1;simp only[Tm.node,fK,oq] at this;exact this.1.1.2
   rw[uA,Tm.mV];simp only[Tm.dh,Tm.eW,Tm.dn,Tm.dU,c6,c8 (l:=l) VW,cY,eT];rw[dP VW VW]
   by_cases f:k=1
   .rw[cS f,cS f];unfold Tm.ue
    by_cases o:i=a+b
    .rw[cS o,cS o,zk FU s 0 (a+b) (by rw[dY];exact hs) hs VW VW VW VW d];rfl
    .rw[cO o,cO o];simp only[fy]
     by_cases q:a+b<i
     .rw[cS q,cS q,et VW VW];rfl
     .rw[cO q,cO q]
   .rw[cO f,cO f];rw[gE (λx=>Tm.iu (a+b+e9 k) x s) l 0 [] ado]
    .simp
    .intro j x v w B;have:=di Tm.aiw w;rw[mX];simp only[cv,Tm.dn];rw[dP VW VW,ih x a (b+e9 k) s VW VW y VW VW (hi.2 x w) (c.2 x w) hs d];rw[show a+(b+e9 k)=a+b+e9 k by omega];simp[dS (l:=v) (m:=[Tm.iu (a+b+e9 k) x s]) (by simpa using B)]
def Tm.qV(s t:Tm):∀n,t.ok=true->(Tm.iu n t s).aiw+t.aiC n=t.aiw+t.aiC n*s.aiw:=by
 induction t using Tm.ind with
 |h k i ty l ih=>
  intro n a;rw[Tm.fX] at a;simp only[fK,j3] at a;rw[Tm.mV,Tm.fB,Tm.cQ]
  by_cases d:k=1
  .subst d
   have o:l=[]:=by
    have:=a.1;simp only[Tm.node,fK,oq] at this;have h:=this.1.1.1;simp[gG] at h;exact h
   subst o;simp only[if_true,Tm.ue,db,I1,N6]
   by_cases f:i=n
   .simp[f,Tm.pX];omega
   .by_cases q:n<i<;>simp[f,q,Tm.cQ,db]
  .simp only[d,lS,false_and,tg];rw[Tm.cQ,oU]
   have:db (λx=>(Tm.iu (n+e9 k) x s).aiw) l+db (Tm.aiC (n+e9 k)) l=db Tm.aiw l+db (Tm.aiC (n+e9 k)) l*s.aiw:=by
    have b:∀x∈l,(Tm.iu (n+e9 k) x s).aiw+x.aiC (n+e9 k)=x.aiw+x.aiC (n+e9 k)*s.aiw:=λx c=>ih x c _ (a.2 x c);clear ih a
    induction l with
    |nil=>simp[db]|cons y l j=>
     have d:=b y acZ;have f:=j λx c=>b x (by simp[c]);simp only[db,AQ];omega
   omega
def Tm.UH(s:Tm)(hs:s.ok=true)(t:Tm):∀n,0<=n->t.ok=true->(Tm.iu n t s).ok=true:=by
 induction t using Tm.ind with
 |h k i ty l ih=>
  intro n hn a;have b:=a;rw[Tm.fX] at a;simp only[fK,j3] at a;rw[Tm.mV]
  by_cases d:k=1
  .subst d;simp only[if_true,Tm.ue]
   by_cases c:i=n
   .simp only[c,if_true];rw[Tm.JW s 0 n VW hn];exact hs
   .by_cases f:n<i
    .simp only[c,f,lS,if_true];rw[Tm.fX]
     have o:1<=i:=VW
     simp[Tm.node,gG,jq,o,Ty.qQ,dj]
    .simp only[c,f,lS];exact b
  .simp only[d,lS];rw[Tm.fX,A1];simp only[fK,j3,nj];refine⟨a.1,?_⟩;rintro _ ⟨x,j,rfl⟩;exact ih x j _ (by have:=kr k;omega) (a.2 x j)
mutual
def Tm.fr:Tm->Int
 |.mk k i _ l=>if k=1 then i+1 else if k=2 then imax 0 (Tm.HL 0 l-1)else Tm.HL 0 l
def Tm.HL(m:Int):List Tm->Int
 |[]=>m|t::l=>Tm.HL (imax m t.fr) l
end
theorem sx(a b:Int):imax a b=max a b:=by unfold imax;omega
def Tm.Qo(l:List Tm):∀m,m<=Tm.HL m l:=by
 induction l with
 |nil=>intro m;exact Int.le_refl _|cons t l ih=>intro m;rw[Tm.HL];have:=ih (imax m t.fr);rw[sx] at*;omega
def Tm.YT{l:List Tm}{t:Tm}(h:t∈l):∀m,t.fr<=Tm.HL m l:=by
 induction l with
 |nil=>cases h
 |cons u l ih=>
  intro m;rw[Tm.HL];rcases j8.1 h with rfl|h
  .have:=Tm.Qo l (imax m t.fr);rw[sx] at*;omega
  .exact ih h _
def Tm.UN{M:Int}{l:List Tm}(h:∀t∈l,t.fr<=M):∀m,m<=M->Tm.HL m l<=M:=by
 induction l with
 |nil=>intro m hm;exact hm|cons u l ih=>
  intro m hm;rw[Tm.HL];refine ih (λt a=>h t (by simp[a])) _ ?_;have:=h u acZ;rw[sx];omega
def Tm.VV(t:Tm):∀{M:Int},0<=M->t.ok=true->t.aiA M=true->0<=t.fr/\t.fr<=M+1:=by
 induction t using Tm.ind with
 |h k i s l ih=>
  intro M d a b;rw[Tm.fX] at a;rw[Tm.ez] at b;simp only[fK,j3,oq,Tm.node] at a b;have f:Tm.HL 0 l<=M+1:=Tm.UN (λt c=>(ih t c d (a.2 t c) (b.2 t c)).2) 0 VW;have j:=Tm.Qo l 0;rw[Tm.fr]
  split
  .omega
  .split
   .rw[sx];omega
   .omega
def map_id'{α:Type}{g:α->α}{l:List α}(h:∀x∈l,g x=x):l.map g=l:=by
 induction l with
 |nil=>rfl|cons x l ih=>simp only[Dk,h x acZ,ih λy hy=>h y (by simp[hy])]
def Tm.kU{k i:Int}{s:Ty}{l:List Tm}(h:(Tm.mk k i s l).ok=true):(k=1->l=[])/\0<=i/\(k≠1->i=0)/\(∀t∈l,t.ok=true)/\(l.length:Int)=gG k:=by
 rw[Tm.fX] at h;simp only[fK,j3,oq,Tm.node,rD] at h;obtain⟨⟨⟨⟨a,b⟩,c⟩,j⟩,d⟩:=h;refine⟨?_,b,λf=>c.resolve_left f,d,a⟩;rintro rfl;have:(l.length:Int)=0:=a;exact Ar VW
def Tm.KT{k i:Int}{s:Ty}{l:List Tm}(a:k≠1){f:Int}(h:(Tm.mk k i s l).fr<=f)(c:0<=f):∀x∈l,x.fr<=f+e9 k:=by
 intro x b;have:=Tm.YT b 0;rw[Tm.fr,cO a] at h;unfold e9
 split at h
 .rename_i a;rw[cS a];rw[sx] at h;omega
 .rename_i a;rw[cO a];omega
def Tm.Zt(t:Tm):∀f b,t.ok=true->0<=f->t.fr<=f->t.up f b=t:=by
 induction t using Tm.ind with
 |h k i s l ih=>
  intro f b d j h;obtain⟨o1,o2,o,n,_⟩:=Tm.kU d;rw[Tm.kO]
  by_cases a:k=1
  .have:=o1 a;subst this;rw[Tm.fr,cS a] at h;rw[cO VW];rfl
  .rw[cO (λh=>a h.1)]
   congr 1
   exact map_id' λx c=>ih x c _ _ (n x c) (by have:=kr k;omega) (Tm.KT a h j x c)
def Tm.xE(t:Tm):∀f,t.up f 0=t:=by
 induction t using Tm.ind with
 |h k i s l ih=>
  intro f;rw[Tm.kO,map_id' λx a=>ih x a _]
  congr 1
  split<;>omega
def Tm.VD(s t:Tm):∀n,t.ok=true->0<=n->t.fr<=n->Tm.iu n t s=t:=by
 induction t using Tm.ind with
 |h k i ty l ih=>
  intro n c hn h;obtain⟨o1,o2,f,d,_⟩:=Tm.kU c;rw[Tm.mV]
  by_cases a:k=1
  .rw[cS a];rw[Tm.fr,cS a] at h;unfold Tm.ue;rw[cO VW,cO VW]
  .rw[cO a]
   congr 1
   exact map_id' λx b=>ih x b _ (d x b) (by have:=kr k;omega) (Tm.KT a h hn x b)
def SI{α:Type}{g:α->Nat}{l:List α}(h:∀x∈l,g x=0):db g l=0:=by
 induction l with
 |nil=>rfl|cons x l ih=>simp[db,h x acZ,ih λy hy=>h y (by simp[hy])]
def Tm.OJ(t:Tm):∀n,t.ok=true->0<=n->t.fr<=n->t.aiC n=0:=by
 induction t using Tm.ind with
 |h k i ty l ih=>
  intro n c hn h;obtain⟨o1,o2,f,d,_⟩:=Tm.kU c;rw[Tm.fB]
  by_cases a:k=1
  .have:=o1 a;subst this;rw[Tm.fr,cS a] at h;rw[cO VW];rfl
  .rw[cO (λh=>a h.1)];simp only[tg];exact SI λx b=>ih x b _ (d x b) (by have:=kr k;omega) (Tm.KT a h hn x b)
def Tm.kd:Option Tm->Int
 |some t=>t.aiu|none=>0
def Tm.root:Tm->Bool
 |.mk k _ _ l=>(decide (k=3)&&decide (Tm.kd l[0]?=2))||(decide (k=6)&&(decide (Tm.kd l[2]?=4)||decide (Tm.kd l[2]?=5)))||(decide (k=9)&&(decide (Tm.kd l[2]?=7)||decide (Tm.kd l[2]?=8)))||
  ((decide (k=11)||decide (k=12))&&decide (Tm.kd l[0]?=10))
mutual
def Tm.nf:Tm->Bool
 |.mk k i s l=>!(Tm.mk k i s l).root&&Tm.nfL l
def Tm.nfL:List Tm->Bool
 |[]=>true|t::l=>t.nf&&Tm.nfL l
end
def Tm.acq(l:List Tm):Tm.nfL l=l.all Tm.nf:=by
 induction l with
 |nil=>rfl|cons t l ih=>simp[Tm.nfL,ih]
def Tm.RB(k i:Int)(s:Ty)(l:List Tm):(Tm.mk k i s l).nf=(!(Tm.mk k i s l).root&&l.all Tm.nf):=by rw[Tm.nf,Tm.acq]
def lv(f:Tm):List Tm->Tm
 |[]=>f|a::l=>lv (.mk 3 0 (.mk 0 []) [f,a]) l
def Tm.eU:Tm->Tm
 |.mk k i s l=>
  if k=3 then(match l with|[.mk _ _ _ [b],a]=>Tm.iu 0 b a|_=>.mk k i s l)
  else if k=11 then(match l with|[.mk _ _ _ (a::_)]=>a|_=>.mk k i s l)
  else if k=12 then(match l with|[.mk _ _ _ [_,b]]=>b|_=>.mk k i s l)
  else(match l with
   |[b,st,.mk _ _ _ []]=>b|[b,st,.mk _ _ _ [n]]=>lv st [n,.mk k i s [b,st,n]]|[b,st,.mk _ _ _ [h,t]]=>lv st [h,t,.mk k i s [b,st,t]]|_=>.mk k i s l)
mutual
inductive NR (nh:List HC):Nat->Tm->Prop
 |mk {p:Nat} {x:dx} {l:List Tm}:HC.c0 nh p=some x->tS nh x.aiv l->x.size=((Tm.mk x.aiu x.aix x.oG l).aiw:Int)->x.free=(Tm.mk x.aiu x.aix x.oG l).fr->(x.normal=true->(Tm.mk x.aiu x.aix x.oG l).nf=true)->NR nh p (.mk x.aiu x.aix x.oG l)
inductive tS (nh:List HC):List (Option Nat)->List Tm->Prop
 |nil:tS nh [] []|cons {p:Nat} {t:Tm} {ps:List (Option Nat)} {ts:List Tm}:NR nh p t->tS nh ps ts->tS nh (some p::ps) (t::ts)
end
def NR.inv{nh:List HC}{p:Nat}{t:Tm}(h:NR nh p t):∃x,HC.c0 nh p=some x/\x.aiu=t.aiu/\x.aix=t.aix/\x.oG=t.cT/\tS nh x.aiv t.aiv/\x.size=(t.aiw:Int)/\x.free=t.fr/\(x.normal=true->t.nf=true):=by
 cases h with
 |mk a b c d f=>exact⟨_,a,rfl,rfl,rfl,b,c,d,f⟩
def NR.of{nh:List HC}{p:Nat}{t:Tm}{x:dx}(f:HC.c0 nh p=some x)(a:x.aiu=t.aiu)(b:x.aix=t.aix)(c:x.oG=t.cT)(d:tS nh x.aiv t.aiv)(h:x.size=(t.aiw:Int))(j:x.free=t.fr)
  (n:x.normal=true->t.nf=true):NR nh p t:=by
 cases t with
 |mk k i s l=>
  simp only[Tm.dn,Tm.eW,Tm.dU,Tm.dh] at a b c d;subst a;subst b;subst c;exact .mk f d h j n
def tS.len{nh:List HC}:∀{ps:List (Option Nat)} {ts:List Tm},tS nh ps ts->ps.length=ts.length
 |_,_,.nil=>rfl|_,_,.cons _ h=>by simp[h.len]
def tS.append{nh:List HC}:∀{ps a:List (Option Nat)} {ts us:List Tm},tS nh ps ts->tS nh a us->tS nh (ps++a) (ts++us)
 |_,_,_,_,.nil,h=>h|_,_,_,_,.cons b c,h=>.cons b (c.append h)
structure NE (nh nh':List HC):Prop where
 node:∀p t,NR nh p t->NR nh' p t
 state:∀p st,HC.dR nh p=some st->HC.dR nh' p=some st
 get:∀p x,HC.c0 nh p=some x->∃b,HC.c0 nh' p=some {x with normal:=b}
theorem NE.refl(nh:List HC):NE nh nh:=⟨λ_ _ h=>h,λ_ _ h=>h,λ_ x h=>⟨x.normal,h⟩⟩
def NE.trans{a b c:List HC}(d:NE a b)(f:NE b c):NE a c:=⟨λp t h=>f.node p t (d.node p t h),λp st h=>f.state p st (d.state p st h),λp x h=>by
 obtain⟨l,i⟩:=d.get p x h;obtain⟨j,k⟩:=f.get p _ i
 exact⟨j,k⟩⟩
def NE.list{nh a:List HC}(h:NE nh a):∀{ps:List (Option Nat)} {ts:List Tm},tS nh ps ts->tS a ps ts
 |_,_,.nil=>.nil|_,_,.cons b c=>.cons (h.node _ _ b) (h.list c)
def FB{nh X:List HC}{p:Nat}{x:dx}(h:HC.c0 nh p=some x):HC.c0 (nh++X) p=some x:=by
 have:=HC.c_ h;have a:=(mH.1 this).1;unfold HC.c0;rw[tJ a,this]
def IN{nh X:List HC}{p:Nat}{x:eB}(h:HC.dR nh p=some x):HC.dR (nh++X) p=some x:=by
 have:=HC.fF h;have a:=(mH.1 this).1;unfold HC.dR;rw[tJ a,this]
mutual
def NR.app{nh X:List HC}:∀{p:Nat} {t:Tm},NR nh p t->NR (nh++X) p t
 |_,_,.mk a b c d f=>.mk (FB a) b.app c d f
def tS.app{nh X:List HC}:∀{ps:List (Option Nat)} {ts:List Tm},tS nh ps ts->tS (nh++X) ps ts
 |_,_,.nil=>.nil|_,_,.cons a b=>.cons a.app b.app
end
def NE.kp{nh a:List HC}(h:Kp nh a):NE nh a:=by
 obtain⟨X,rfl⟩:=h;exact⟨λ_ _ h=>h.app,λ_ _ h=>IN h,λp x h=>⟨x.normal,FB h⟩⟩
def G6{a0 a1:Int}{a2:Ty}{a3:List (Option Nat)}{nh:List HC}{F:Int->Option Nat->List HC->Option (dV (List HC) ((Option Nat)×List HC))}
  (hF:∀j q v x y,HC.c0 v nh.length=some x->HC.c0 v q=some y->HC.c0 (js v nh.length (HC.dz (dx.mk x.aiu x.aix x.oG x.aiv (dF .i64 x.size y.size) x.free x.normal))) q=some y->F j (some q) v=some (.next (js (js v nh.length (HC.dz (dx.mk x.aiu x.aix x.oG x.aiv (dF .i64 x.size y.size) x.free x.normal))) nh.length (HC.dz (dx.mk x.aiu x.aix x.oG x.aiv (dF .i64 x.size y.size) (imax x.free y.free) x.normal))))):∀(ps:List (Option Nat)) (ts:List Tm) (i:Nat) (s:Nat) (f:Int),tS nh ps ts->s+db Tm.aiw ts<=1000000000->dH F ps i (nh++[HC.dz (dx.mk a0 a1 a2 a3 s f false)])=some (.inl (nh++[HC.dz (dx.mk a0 a1 a2 a3 ((s+db Tm.aiw ts:Nat):Int) (Tm.HL f ts) false)]))
 |_,_,i,s,f,.nil,_=>by simp[db,Tm.HL]|_,_,i,s,f,.cons (p:=p) (t:=t) c d,h=>by
  rw[db] at h;obtain⟨y,b,o,r,u,w,k,l,A⟩:=c.inv;have n:p<nh.length:=(mH.1 (HC.c_ b)).1
  have a:dF .i64 (s:Int) (t.aiw:Int)=((s+t.aiw:Nat):Int):=by rw[dP VW VW];omega
  rw[dJ,hF _ p _ _ y By (FB b) (by rw[wy];exact FB b)];simp only[wy,cv,dQ,k,l,a];rw[G6 hF _ _ (i+1) (s+t.aiw) (imax f t.fr) d VW];simp only[db,Tm.HL,VR]
def q4{k i:Int}{s:Ty}{ps:List (Option Nat)}{ts:List Tm}{nh:List HC}(h:tS nh ps ts)(hn:db Tm.aiw ts<=100000000)(hi:0<=i/\i<=1000000000000)(A:∀t∈ts,0<=t.fr/\t.fr<=1000000000000):∃l,jf k i s ps nh=some (some nh.length,l)/\Kp nh l/\NR l nh.length (.mk k i s ts):=by
 have hlen:ps.length<=100000000:=by
  rw[h.len];exact AK (Tm.ek ts) hn
 have D:0<=Tm.HL 0 ts/\Tm.HL 0 ts<=1000000000000:=⟨Tm.Qo ts 0,Tm.UN (λt G=>(A t G).2) 0 VW⟩;unfold jf;rw[c8 VW];simp only[cY,c6]
 have B:=G6 (a0:=k) (a1:=i) (a2:=s) (a3:=ps) (nh:=nh) (F:=λC o b=>
   cM (HC.c0 b (List.length nh)) λa=>
   cM (o) λd=>
   cM (HC.c0 b d) λc=>
   cM (HC.c0 (js b (List.length nh) (HC.dz (dx.mk a.aiu a.aix a.oG a.aiv (dF .i64 a.size c.size) a.free a.normal))) d) λr=>
   some (.next (js (js b (List.length nh) (HC.dz (dx.mk a.aiu a.aix a.oG a.aiv (dF .i64 a.size c.size) a.free a.normal))) (List.length nh) (HC.dz (dx.mk a.aiu a.aix a.oG a.aiv (dF .i64 a.size c.size) (imax a.free r.free) a.normal)))))
  (by intro j q v x y u w H;simp only[u,w,H,cv]) ps ts 0 1 0 h VW
 have I:((1:Nat):Int)=1:=rfl;rw[I] at B;rw[B];simp only[cv,dk,By,wy]
 have n:((1+db Tm.aiw ts:Nat):Int)=((Tm.mk k i s ts).aiw:Int):=by rw[Tm.cQ]
 have fin:∀f:Int,f=(Tm.mk k i s ts).fr->NR (nh++[HC.dz (dx.mk k i s ps ((1+db Tm.aiw ts:Nat):Int) f false)]) nh.length (.mk k i s ts):=by
  intro f A;exact NR.of By rfl rfl rfl h.app n A (by intro h;cases h)
 by_cases u:k=1
 .subst u;refine⟨_,by rw[cS ab9],⟨_,rfl⟩,fin _ ?_⟩;rw[Tm.fr,cS rfl,dP VW VW]
 .rw[cO (by simpa using u)]
  by_cases w:k=2
  .subst w;refine⟨_,by rw[cS ab9],⟨_,rfl⟩,fin _ ?_⟩;rw[Tm.fr,cO ab9,cS rfl,et VW VW]
  .refine⟨_,by rw[cO (by simpa using w)],⟨_,rfl⟩,fin _ ?_⟩;rw[Tm.fr,cO u,cO w]
def V6{nh:List HC}{p:Nat}{x:dx}(h:HC.c0 nh p=some x):gT (some p) nh=some (e9 x.aiu):=by
 unfold gT e9;simp only[cv,h,eT]
 split<;>rfl
def NE.below{nh a:List HC}{p:Nat}{x:dx}(he:NE nh a)(h:HC.c0 nh p=some x):gT (some p) a=some (e9 x.aiu):=by
 obtain⟨b,e⟩:=he.get p x h;rw[V6 e]
def AX{F:Int->Option Nat->List (Option Nat)×List HC->Option (dV (List (Option Nat)×List HC) ((Option Nat)×List HC))}(g:Tm->Tm)(nh0:List HC):∀(ts:List Tm)
  (_:∀t∈ts,∀p nh j v,Kp nh0 nh->NR nh p t->v.length+1<=1000000000->∃q a,F j (some p) (v,nh)=some (.next (v++[some q],a))/\Kp nh a/\NR a q (g t))
  (ps:List (Option Nat)) (i:Nat) (nh:List HC) (v:List (Option Nat)) (us:List Tm),Kp nh0 nh->tS nh ps ts->tS nh v us->v.length+ts.length<=1000000000->∃c a,dH F ps i (v,nh)=some (.inl (c,a))/\Kp nh a/\tS a c (us++ts.map g)
 |[],_,_,i,nh,v,us,_,.nil,d,_=>⟨v,nh,rfl,Kp.refl _,by simpa using d⟩|t::ts,hF,_,i,nh,v,us,k,.cons (p:=p) (ps:=ps) l n,d,o=>by
  simp only[kL] at o;obtain⟨q,f,r,h,s⟩:=hF t acZ p nh i v k l VW;have b:=NE.kp h;obtain⟨c,a,f1,f2,f3⟩:=AX g nh0 ts (λt u=>hF t (by simp[u])) ps (i+1) f (v++[some q]) (us++[g t]) (k.trans h) (b.list n) ((b.list d).append (.cons s .nil)) ado;refine⟨c,a,?_,h.trans f2,by simpa using f3⟩;rw[dJ,r];simp only[cv,dQ];exact f1
structure Sm (M:Int) (t:Tm):Prop where
 ok:t.ok=true
 aiA:t.aiA M=true
 aiw:t.aiw<=1000000
def Sm.arg{M k i:Int}{s:Ty}{l:List Tm}(h:Sm M (.mk k i s l)):∀t∈l,Sm M t:=by
 intro t a;have b:=h.aiA;have c:=h.aiw;rw[Tm.ez] at b;simp only[fK,j3] at b;rw[Tm.cQ] at c;exact⟨(Tm.kU h.ok).2.2.2.1 t a,b.2 t a,by have:=di Tm.aiw a;omega⟩
def Sm.idx{M k i:Int}{s:Ty}{l:List Tm}(h:Sm M (.mk k i s l)):0<=i/\i<=M:=by
 have a:=h.aiA;rw[Tm.ez] at a;simp only[fK,oq] at a;exact⟨(Tm.kU h.ok).2.1,a.1⟩
theorem Sm.fr{M:Int}{t:Tm}(h:Sm M t)(a:0<=M):0<=t.fr/\t.fr<=M+1:=Tm.VV t a h.ok h.aiA
theorem Sm.mono{M N:Int}{t:Tm}(h:Sm M t)(hm:M<=N):Sm N t:=⟨h.ok,by
 have:∀t:Tm,t.aiA M=true->t.aiA N=true:=by
  intro t
  induction t using Tm.ind with
  |h k i s l ih=>
   rw[Tm.ez,Tm.ez];simp only[fK,j3,oq]
   exactλ⟨c,b⟩=>⟨VW,λx a=>ih x a (b x a)⟩
 exact this t h.aiA,h.aiw⟩
def Oe{M b:Int}(c:0<=b)(t:Tm):∀f,t.aiA M=true->(t.up f b).aiA (M+b)=true:=by
 induction t using Tm.ind with
 |h k i s l ih=>
  intro f h;rw[Tm.ez] at h;simp only[fK,j3,oq] at h;rw[Tm.kO,Tm.ez];simp only[fK,j3,oq];refine⟨by split<;>omega,?_⟩;intro x a;obtain⟨y,hy,rfl⟩:=nj.1 a;exact ih y hy _ (h.2 y hy)
def Sm.up{M f b:Int}{t:Tm}(h:Sm M t)(c:0<=f)(a:0<=b):Sm (M+b) (t.up f b):=
 ⟨by rw[Tm.JW t f b c a];exact h.ok,Oe a t f h.aiA,by rw[Tm.pX];exact h.aiw⟩
def X5{M:Int}(Z:0<=M/\M<=500000000000):∀(n:Nat) (t:Tm) (p:Nat) (nh:List HC) (f b:Int),t.aiw<=n->NR nh p t->Sm M t->0<=f->f+t.aiw<=500000000000->0<=b->b<=400000000000->∃V a,iS n (some p) f b nh=some (some V,a)/\Kp nh a/\NR a V (t.up f b):=by
 intro n
 induction n with
 |zero=>intro t p nh f b h;have:=t.dr;omega
 |succ n ih=>
  intro t p nh f b hn C hs hf D W G;obtain⟨x,H,u,I,J,K,e6,e7,e8⟩:=C.inv;have ad:=hs.fr Z.1;rw[iS];simp only[c6,cv,H,e7,Ff]
  by_cases A:t.fr<=f
  .rw[cS A];exact⟨p,nh,rfl,Kp.refl _,by rw[Tm.Zt t f b hs.ok hf A];exact C⟩
  .rw[cO A]
   by_cases X:b=0
   .subst X;exact⟨p,nh,acZ,Kp.refl _,by rw[Tm.xE];exact C⟩
   .rw[cO (by simpa using X)];cases t with
    |mk k i s l=>
     simp only[Tm.dn,Tm.eW,Tm.dU,Tm.dh] at u I J K;have Y:=hs.idx;obtain⟨o1,o2,o3,o4,o5⟩:=Tm.kU hs.ok
     by_cases L:k=1
     .subst L;have hl:=o1 rfl;subst hl;rw[cS (by rw[u];rfl)]
      have N:f<=i:=by rw[Tm.fr,cS rfl] at A;omega
      obtain⟨a,g1,g2,g3⟩:=q4 (k:=1) (i:=i+b) (s:=s) (ps:=[]) (ts:=[]) (nh:=nh) .nil (by simp[db]) VW acZ;refine⟨nh.length,a,?_,g2,?_⟩
      .rw[u,I,J,dP VW VW,g1];rfl
      .rw[Tm.kO,cS ⟨rfl,N⟩];exact g3
     .rw[cO (by rw[u];simpa using L)]
      have ae:1+db Tm.aiw l<=n+1:=by rw[Tm.cQ] at hn;exact hn
      have hlen:=Tm.ek l;have O:=hs.aiw;rw[Tm.cQ] at O D;have af:x.aiv.length=l.length:=K.len;rw[c8 VW];simp only[cY];have ah:=kr k
      obtain⟨v',a,g1,g2,g3⟩:=AX (F:=λj P=>rM λc d=>
        cM (gT (some p) d) λw=>
        cW (iS n P (dF .i64 f w) b d) λo r=>
        fa (eO c [o])<|some (.next ((fu c [o]),r))) (Tm.up (f+e9 k) b) nh l (by
        intro t B q Q j v R hq hv;have S:=hs.arg t B;have hm:=di Tm.aiw B;obtain⟨q',T,a1,a2,a3⟩:=ih t q Q (f+e9 k) b VW hq S VW VW W G;refine⟨q',T,?_,a2,a3⟩;simp only[kX,(NE.kp R).below H,cv,u];rw[dP VW VW,a1];simp only[cN];rw[dS (by simpa using hv)]
        rfl) x.aiv 0 nh [] [] (Kp.refl _) K .nil ado
      rw[g1];simp only[cv,dk,kX];obtain⟨x2,c1⟩:=(NE.kp g2).get p x H;unfold fC;simp only[cv,c1]
      obtain⟨U,d1,d2,d3⟩:=q4 (k:=k) (i:=i) (s:=s) (ps:=v') (ts:=l.map (Tm.up (f+e9 k) b)) (nh:=a) (by simpa using g3) (by
       rw[oU,qk λx _=>Tm.pX x _ _];omega) VW (by
       intro t B;obtain⟨y,hy,rfl⟩:=nj.1 B;have:=((hs.arg y hy).up (f:=f+e9 k) (b:=b) VW W).fr VW
       omega)
      refine⟨a.length,U,?_,g2.trans d2,?_⟩
      .rw[u,I,J,d1];rfl
      .rw[Tm.kO,cO (λh=>L h.1)];exact d3
def count_eq{M:Int}(S:0<=M/\M<=500000000000)(nh:List HC):∀(n:Nat) (t:Tm) (p:Nat) (a:Int),t.aiw<=n->NR nh p t->Sm M t->0<=a->a+t.aiw<=500000000000->j7 n (some p) a nh=some (t.aiC a:Int):=by
 intro n
 induction n with
 |zero=>intro t p a h;have:=t.dr;omega
 |succ n ih=>
  intro t p a hn H hs I v;obtain⟨x,D,q,F,J,w,T,K,U⟩:=H.inv;rw[j7];simp only[cv,D,K,Ff]
  by_cases y:t.fr<=a
  .rw[cS y,Tm.OJ t a hs.ok I y];rfl
  .rw[cO y];cases t with
   |mk k i s l=>
    simp only[Tm.dn,Tm.eW,Tm.dU,Tm.dh] at q F J w;obtain⟨o1,o2,V,W,X⟩:=Tm.kU hs.ok
    by_cases A:k=1
    .subst A;have L:=o1 rfl;subst L;rw[cS (by rw[q];rfl),Tm.fB,F];simp only[eT,db]
     by_cases r:i=a
     .rw[cS r,cS ⟨trivial,r⟩];rfl
     .rw[cO r,cO (λh=>r h.2)];rfl
    .rw[cO (by rw[q];simpa using A)];have B:=hs.aiw;rw[Tm.cQ] at B v hn;have hlen:=Tm.ek l;have N:x.aiv.length=l.length:=w.len;rw[c8 VW];simp only[cY,c6];have O:=kr k
     have loop:∀(ts:List Tm) (ps:List (Option Nat)) (i c:Nat),(∀t∈ts,t∈l)->tS nh ps ts->c+db Tm.aiw ts<=1000000000->dH (λ(G:Int) (b:Option Nat)=>(λ(d:Int)=>
        cM (j7 n b (a+e9 k) nh) λf=>
        some ((.next (dF .i64 d f)):dV Int Int))) ps i (c:Int)=some (.inl ((c+db (Tm.aiC (a+e9 k)) ts:Nat):Int)):=by
      intro ts
      induction ts with
      |nil=>intro ps i c _ h _;cases h;rfl
      |cons t ts C=>
       intro ps i c hm h P;cases h with
       |cons q1 q2=>
        rw[db] at P;have j:=hm t acZ;have Q:=di Tm.aiw j;have R:=Tm.gZ t (a+e9 k);rw[dJ];rw[ih t _ _ VW q1 (hs.arg t j) VW VW];simp only[cv];rw[dP VW VW];simp only[dQ];have:=C _ (i+1) (c+t.aiC (a+e9 k)) (λu hu=>hm u (by simp[hu])) q2 VW;rw[show((c+t.aiC (a+e9 k):Nat):Int)=(c:Int)+(t.aiC (a+e9 k):Int) by omega] at this;rw[this];simp only[db,VR]
     have:=loop l x.aiv 0 0 (λt h=>h) w VW;rw[show((0:Nat):Int)=0 from rfl] at this;have o:dF .i64 a (e9 k)=a+e9 k:=dP VW VW;simp only[V6 D,cv,q,o];rw[this];simp only[cv,dk,tg];rw[Tm.fB,cO (λh=>A h.1),tg]
def Jm{M N B:Int}(D:M<=B)(s:Tm)(hs:s.aiA N=true)(t:Tm):∀n,0<=n->N+n+t.aiw<=B->t.aiA M=true->t.ok=true->(Tm.iu n t s).aiA B=true:=by
 induction t using Tm.ind with
 |h k i ty l ih=>
  intro n hn j d v;have o:=d;rw[Tm.ez] at d;simp only[fK,j3,oq] at d;obtain⟨o1,o2,F,w,G⟩:=Tm.kU v;rw[Tm.mV]
  have c:∀(u:Tm) {a b:Int},a<=b->u.aiA a=true->u.aiA b=true:=by
   intro u
   induction u using Tm.ind with
   |h k i s l ih=>
    intro a b q;rw[Tm.ez,Tm.ez];simp only[fK,j3,oq]
    exactλ⟨H,A⟩=>⟨VW,λx f=>ih x f q (A x f)⟩
  have I:1<=(Tm.mk k i ty l).aiw:=Tm.dr _
  by_cases r:k=1
  .rw[cS r];unfold Tm.ue
   split
   .exact c _ VW (Oe hn s 0 hs)
   .split
    .rw[Tm.ez];simp;omega
    .exact c _ VW o
  .rw[cO r,Tm.ez];simp only[fK,j3,oq];refine⟨VW,?_⟩;intro x f;obtain⟨y,hy,rfl⟩:=nj.1 f;have C:=kr k;have hm:=di Tm.aiw hy;rw[Tm.cQ] at j;exact ih y hy (n+e9 k) VW VW (d.2 y hy) (w y hy)
def put_eq{M N:Int}(hM:0<=M/\M<=100000000000)(hN:0<=N/\N<=100000000000)(s:Tm)(d:Sm N s):∀(n:Nat) (t:Tm) (p q:Nat) (nh:List HC) (a:Int),t.aiw<=n->NR nh p t->NR nh q s->Sm M t->0<=a->a+t.aiw<=100000000000->t.aiw+t.aiC a*s.aiw<=100000000->∃K b,jL n (some p) a (some q) nh=some (some K,b)/\Kp nh b/\NR b K (Tm.iu a t s):=by
 intro n
 induction n with
 |zero=>intro t p q nh a h;have:=t.dr;omega
 |succ n ih=>
  intro t p q nh a hn hr hq hs ha O D;obtain⟨x,P,C,Q,R,S,e6,e7,e8⟩:=hr.inv;rw[jL];simp only[cv,P,e7,Ff]
  by_cases A:t.fr<=a
  .rw[cS A];exact⟨p,nh,rfl,Kp.refl _,by rw[Tm.VD s t a hs.ok ha A];exact hr⟩
  .rw[cO A];cases t with
   |mk k i ty l=>
    simp only[Tm.dn,Tm.eW,Tm.dU,Tm.dh] at C Q R S;have ae:=hs.idx;obtain⟨o1,o2,o3,T,o5⟩:=Tm.kU hs.ok
    by_cases L:k=1
    .subst L;have hl:=o1 rfl;subst hl
     have af:a<=i:=by rw[Tm.fr,cS rfl] at A;omega
     rw[cS (by rw[C];rfl),Q];simp only[eT];rw[Tm.mV,cS rfl];unfold Tm.ue
     by_cases f:i=a
     .rw[cS f,cS f];have G:=d.aiw;obtain⟨K,b,g1,g2,g3⟩:=X5 (M:=N) VW FU s q nh 0 a (by rw[dY];omega) hq d VW VW ha VW;exact⟨K,b,by rw[g1];rfl,g2,g3⟩
     .rw[cO f,cO f,cS VW];obtain⟨b,g1,g2,g3⟩:=q4 (k:=1) (i:=i-1) (s:=ty) (ps:=[]) (ts:=[]) (nh:=nh) .nil (by simp[db]) VW acZ;refine⟨nh.length,b,?_,g2,?_⟩
      .rw[C,R,et VW VW,g1];rfl
      .have hz:ty=.mk 0 []:=by
        have:=hs.ok;rw[Tm.fX] at this;simp only[fK,Tm.node] at this
        have h4:ty.qQ=true:=by simpa[jq] using this.1.2
        exact(Ty.lx ty).1 h4
       rw[<-hz];exact g3
    .rw[cO (by rw[C];simpa using L)];have G:=hs.aiw;rw[Tm.cQ] at G O hn;have hlen:=Tm.ek l;have ah:x.aiv.length=l.length:=S.len;rw[c8 VW];simp only[cY,c6];have ai:=kr k;rw[Tm.fB,cO (λh=>L h.1),tg,Tm.cQ] at D
     have U:∀t∈l,t.aiw+t.aiC (a+e9 k)*s.aiw<=100000000:=by
      intro t c;have A:=di Tm.aiw c;have f:=di (Tm.aiC (a+e9 k)) c;have h3:=Gg s.aiw f;omega
     obtain⟨v',b,g1,g2,g3⟩:=AX (F:=λj V=>rM λo u=>
       cM (gT (some p) u) λH=>
       cW (jL n V (dF .i64 a H) (some q) u) λw B=>
       fa (eO o [w])<|some (.next ((fu o [w]),B))) (λt=>Tm.iu (a+e9 k) t s) nh l (by
       intro t c r W j v I X hv;have Y:=hs.arg t c;have hm:=di Tm.aiw c;obtain⟨q',Z,a1,a2,a3⟩:=ih t r q W (a+e9 k) VW X ((NE.kp I).node _ _ hq) Y VW VW (U t c);refine⟨q',Z,?_,a2,a3⟩;simp only[kX,(NE.kp I).below P,cv,C];rw[dP VW VW,a1];simp only[cN];rw[dS (by simpa using hv)]
       rfl) x.aiv 0 nh [] [] (Kp.refl _) S .nil ado
     rw[g1];simp only[cv,dk,kX];obtain⟨x2,c1⟩:=(NE.kp g2).get p x P;unfold fC;simp only[cv,c1]
     have J:∀t∈l,(Tm.iu (a+e9 k) t s).aiw<=t.aiw+t.aiC (a+e9 k)*s.aiw:=by
      intro t c;have:=Tm.qV s t (a+e9 k) (T t c);omega
     obtain⟨ad,d1,d2,d3⟩:=q4 (k:=k) (i:=i) (s:=ty) (ps:=v') (ts:=l.map (λt=>Tm.iu (a+e9 k) t s)) (nh:=b) (by simpa using g3) (by
      rw[oU];have A:=jy J
      have f:∀l:List Tm,db (λt=>t.aiw+t.aiC (a+e9 k)*s.aiw) l=db Tm.aiw l+db (Tm.aiC (a+e9 k)) l*s.aiw:=by
       intro l
       induction l with
       |nil=>simp[db]|cons t l ih=>simp only[db,ih,AQ];omega
      rw[f] at A
      omega) VW (by
      intro t c;obtain⟨y,hy,rfl⟩:=nj.1 c;have hm:=di Tm.aiw hy;have:=Tm.VV (Tm.iu (a+e9 k) y s) (M:=M+N+(a+e9 k)+y.aiw) VW (Tm.UH s d.ok y _ VW (T y hy)) (Jm (M:=M) VW s d.aiA y _ VW VW (hs.arg y hy).aiA (T y hy))
      omega)
     refine⟨b.length,ad,?_,g2.trans d2,?_⟩
     .rw[C,Q,R,d1];rfl
     .rw[Tm.mV,cO L];exact d3
def tC(a b:Int):dj a b=decide (a=b):=by grind[dj]
def abu{α:Type}{l:List α}(h:l.length=1):∃a,l=[a]:=by
 match l,h with|[a],_=>exact⟨a,rfl⟩
def acb{α:Type}{l:List α}(h:l.length=2):∃a b,l=[a,b]:=by
 match l,h with|[a,b],_=>exact⟨a,b,rfl⟩
def aek{α:Type}{l:List α}(h:l.length=3):∃a b c,l=[a,b,c]:=by
 match l,h with|[a,b,c],_=>exact⟨a,b,c,rfl⟩
def tS.inv1{nh:List HC}{ps:List (Option Nat)}{a:Tm}(h:tS nh ps [a]):∃p,ps=[some p]/\NR nh p a:=by
 cases h with|cons b c=>cases c;exact⟨_,rfl,b⟩
def tS.inv2{nh:List HC}{ps:List (Option Nat)}{a b:Tm}(h:tS nh ps [a,b]):∃p q,ps=[some p,some q]/\NR nh p a/\NR nh q b:=by
 cases h with|cons c d=>obtain⟨q,rfl,f⟩:=d.inv1;exact⟨_,q,rfl,c,f⟩
def tS.N2{nh:List HC}{ps:List (Option Nat)}{a b c:Tm}(h:tS nh ps [a,b,c]):∃p q r,ps=[some p,some q,some r]/\NR nh p a/\NR nh q b/\NR nh r c:=by
 cases h with|cons d f=>obtain⟨q,r,rfl,i,j⟩:=f.inv2;exact⟨_,q,r,rfl,d,i,j⟩
def tS.ahr{nh:List HC}{ps:List (Option Nat)}(h:tS nh ps []):ps=[]:=by cases h;rfl
def Tm.vN{k i:Int}{s:Ty}{l:List Tm}(h:(Tm.mk k i s l).ok=true):(l.length:Int)=gG k:=(Tm.kU h).2.2.2.2
def Tm.ok3{i:Int}{s:Ty}{l:List Tm}(h:(Tm.mk 3 i s l).ok=true):∃a b,l=[a,b]:=acb (by have:=Tm.vN h;have e:gG 3=2:=rfl;omega)
def Tm.ok6{i:Int}{s:Ty}{l:List Tm}(h:(Tm.mk 6 i s l).ok=true):∃a b c,l=[a,b,c]:=aek (by have:=Tm.vN h;have e:gG 6=3:=rfl;omega)
def Tm.ok9{i:Int}{s:Ty}{l:List Tm}(h:(Tm.mk 9 i s l).ok=true):∃a b c,l=[a,b,c]:=aek (by have:=Tm.vN h;have e:gG 9=3:=rfl;omega)
def Tm.ok2{i:Int}{s:Ty}{l:List Tm}(h:(Tm.mk 2 i s l).ok=true):∃a,l=[a]:=abu (by have:=Tm.vN h;have e:gG 2=1:=rfl;omega)
def Tm.adf{k i:Int}{s:Ty}{l:List Tm}(b:k=11\/k=12)(h:(Tm.mk k i s l).ok=true):∃a,l=[a]:=abu (by
 have:=Tm.vN h;rcases b with rfl|rfl
 .have e:gG 11=1:=rfl;omega
 .have e:gG 12=1:=rfl;omega)
def Tm.ahF{i:Int}{s:Ty}{l:List Tm}(h:(Tm.mk 10 i s l).ok=true):∃a b,l=[a,b]:=acb (by have:=Tm.vN h;have e:gG 10=2:=rfl;omega)
def Tm.ok0{k i:Int}{s:Ty}{l:List Tm}(a:k=4\/k=7)(h:(Tm.mk k i s l).ok=true):l=[]:=Ar (by
 have:=Tm.vN h;rcases a with rfl|rfl
 .have e:gG 4=0:=rfl;omega
 .have e:gG 7=0:=rfl;omega)
def Tm.ok5{i:Int}{s:Ty}{l:List Tm}(h:(Tm.mk 5 i s l).ok=true):∃a,l=[a]:=abu (by have:=Tm.vN h;have e:gG 5=1:=rfl;omega)
def Tm.ok8{i:Int}{s:Ty}{l:List Tm}(h:(Tm.mk 8 i s l).ok=true):∃a b,l=[a,b]:=acb (by have:=Tm.vN h;have e:gG 8=2:=rfl;omega)
def Tm.Dl{k i:Int}{s:Ty}{l:List Tm}(h:(Tm.mk k i s l).ok=true):∀t∈l,t.ok=true:=(Tm.kU h).2.2.2.1
inductive Tm.Rd:Tm->Prop
 |app {i s i' s' b a}:Tm.Rd (.mk 3 i s [.mk 2 i' s' [b],a])|zero {k ko i s i' s' b st}:(k=6/\ko=4\/k=9/\ko=7)->Tm.Rd (.mk k i s [b,st,.mk ko i' s' []])|succ {i s i' s' b st n}:Tm.Rd (.mk 6 i s [b,st,.mk 5 i' s' [n]])|cons {i s i' s' b st h t}:Tm.Rd (.mk 9 i s [b,st,.mk 8 i' s' [h,t]])|proj {k i s i' s' a b}:(k=11\/k=12)->Tm.Rd (.mk k i s [.mk 10 i' s' [a,b]])
def Tm.JO{t:Tm}(d:t.ok=true)(h:t.root=true):t.Rd:=by
 cases t with
 |mk k i s l=>
  unfold Tm.root at h;simp only[rD,fK,oq] at h;rcases h with((⟨rfl,h⟩|⟨rfl,h⟩)|⟨rfl,h⟩)|⟨f,h⟩
  .obtain⟨a,b,rfl⟩:=Tm.ok3 d;cases a with
   |mk k' j o q=>
    have f:k'=2:=by simpa[Tm.kd] using h
    subst f;obtain⟨v,rfl⟩:=Tm.ok2 (Tm.Dl d (.mk 2 j o q) acZ);exact .app
  .obtain⟨a,b,c,rfl⟩:=Tm.ok6 d;cases c with
   |mk k' j o q=>
    have f:k'=4\/k'=5:=by simpa[Tm.kd] using h
    have r:=Tm.Dl d (.mk k' j o q) acZ;rcases f with rfl|rfl
    .rw[Tm.ok0 (.inl rfl) r];exact .zero (.inl ⟨rfl,rfl⟩)
    .obtain⟨n,rfl⟩:=Tm.ok5 r;exact .succ
  .obtain⟨a,b,c,rfl⟩:=Tm.ok9 d;cases c with
   |mk k' j o q=>
    have f:k'=7\/k'=8:=by simpa[Tm.kd] using h
    have r:=Tm.Dl d (.mk k' j o q) acZ;rcases f with rfl|rfl
    .rw[Tm.ok0 (.inr rfl) r];exact .zero (.inr ⟨rfl,rfl⟩)
    .obtain⟨n,m,rfl⟩:=Tm.ok8 r;exact .cons
  .obtain⟨a,rfl⟩:=Tm.adf f d;cases a with
   |mk k' j o q=>
    have u:k'=10:=by simpa[Tm.kd] using h
    subst u;obtain⟨a,b,rfl⟩:=Tm.ahF (Tm.Dl d (.mk 10 j o q) acZ);exact .proj f
def L4{nh:List HC}{p:Nat}{t:Tm}(B:NR nh p t)(o:t.ok=true):lB (some p) nh=some t.root:=by
 obtain⟨x,C,r,F,G,h,H,I,J⟩:=B.inv;unfold lB;simp only[cv,C,c6];cases t with
 |mk k i s l=>
  simp only[Tm.dn,Tm.dh] at r h;rw[r];unfold Tm.root
  by_cases u:k=3
  .subst u;obtain⟨a,b,rfl⟩:=Tm.ok3 o;obtain⟨pa,pb,d,j,v⟩:=h.inv2;obtain⟨y,f1,f2,_⟩:=j.inv;rw[cS ab9,d];simp[dA,f1,f2,Tm.kd,tC]
  .rw[cO (by simpa using u)]
   by_cases w:k=6
   .subst w;obtain⟨a,b,c,rfl⟩:=Tm.ok6 o;obtain⟨pa,pb,D,d,j,v,q⟩:=h.N2;obtain⟨y,f1,f2,_⟩:=q.inv;rw[cS ab9,d];simp only[hV,lY,im,cv,f1,f2,Tm.kd,eT]
    by_cases n:c.aiu=4
    .simp[n]
    .simp[n,tC]<;>exact P6.2 Iff.rfl
   .rw[cO (by simpa using w)]
    by_cases A:k=9
    .subst A;obtain⟨a,b,c,rfl⟩:=Tm.ok9 o;obtain⟨pa,pb,D,d,j,v,q⟩:=h.N2;obtain⟨y,f1,f2,_⟩:=q.inv;rw[cS ab9,d];simp only[hV,lY,im,cv,f1,f2,Tm.kd,eT]
     by_cases n:c.aiu=7
     .simp[n]
     .simp[n,tC]<;>exact P6.2 Iff.rfl
    .rw[cO (by simpa using A)]
     by_cases f:k=11\/k=12
     .obtain⟨a,rfl⟩:=Tm.adf f o;obtain⟨pa,d,j⟩:=h.inv1;obtain⟨y,f1,f2,_⟩:=j.inv;rw[cS (by rcases f with rfl|rfl<;>rfl),d];simp only[dA,im,cv,f1,f2,Tm.kd];rcases f with rfl|rfl<;>simp[tC]<;>exact P6.2 Iff.rfl
     .grind[kZ,eT]
theorem ny:∀(l:List Tm) (f:Tm),(lv f l).aiw=f.aiw+db Tm.aiw l+l.length
 |[],f=>by simp[lv,db]|a::l,f=>by
  rw[lv,ny l,Tm.cQ]
  grind[db]
def KW{M:Int}(F:0<=M/\M<=500000000000):∀(ts:List Tm) (ps:List (Option Nat)) (nh:List HC) (pf:Nat) (f:Tm),tS nh ps ts->NR nh pf f->(∀t∈ts,0<=t.fr/\t.fr<=M)->0<=f.fr/\f.fr<=M->f.aiw+db Tm.aiw ts+ts.length<=10000000->∃b a,qK (some pf) ps nh=some (some b,a)/\Kp nh a/\NR a b (lv f ts):=by
 intro ts ps nh pf f h j c l hn;have hlen:ps.length=ts.length:=h.len;unfold qK;rw[c8 VW];simp only[cY,c6]
 have loop:∀(ts:List Tm) (ps:List (Option Nat)) (i:Nat) (nh:List HC) (pf:Nat) (f:Tm),tS nh ps ts->NR nh pf f->(∀t∈ts,0<=t.fr/\t.fr<=M)->0<=f.fr/\f.fr<=M->f.aiw+db Tm.aiw ts+ts.length<=10000000->∃b a,dH (λ(x:Int) (r:Option Nat)=>(rM λ(v171:Option Nat) (n:List HC)=>
    cW (jf 3 0 (Ty.mk 0 []) [v171,r] n) λo d=>some ((.next (o,d)):dV ((Option Nat)×List HC) ((Option Nat)×List HC)))) ps i (some pf,nh)=some (.inl (some b,a))/\Kp nh a/\NR a b (lv f ts):=by
  intro ts
  induction ts with
  |nil=>
   intro ps i nh pf f h j _ _ _;cases h;exact⟨pf,nh,rfl,Kp.refl _,j⟩
  |cons t ts ih=>
   intro ps i nh pf f h j c l hn;cases h with
   |cons y A=>
    rename_i p ps;simp only[db,kL] at hn;have G:=c t acZ
    obtain⟨v,a1,a2,a3⟩:=q4 (k:=3) (i:=0) (s:=.mk 0 []) (ps:=[some pf,some p]) (ts:=[f,t]) (nh:=nh) (.cons j (.cons y .nil)) (by simp[db];omega) VW (by
     intro u hu;simp only[j8,v_,s9] at hu
     rcases hu with rfl|rfl<;>omega)
    have w:=NE.kp a2
    have q:0<=(Tm.mk 3 0 (.mk 0 []) [f,t]).fr/\(Tm.mk 3 0 (.mk 0 []) [f,t]).fr<=M:=by grind[Tm.fr,Tm.HL,sx]
    obtain⟨b,a,B,C,D⟩:=ih ps (i+1) v nh.length (.mk 3 0 (.mk 0 []) [f,t]) (w.list A) a3 (λu hu=>c u (by simp[hu])) q (by
     rw[Tm.cQ];simp only[db];omega)
    refine⟨b,a,?_,a2.trans C,D⟩;rw[dJ];simp only[kX,a1,cN,cv,dQ];exact B
 obtain⟨b,a,a1,a2,a3⟩:=loop ts ps 0 nh pf f h j c l hn;rw[a1];exact⟨b,a,rfl,a2,a3⟩
def OO{α:Type}(a:α):dg [a] (ed .i64 (dq [a]) 1)=some a:=by
 have:ed .i64 (dq [a]) 1=0:=by simp only[eo,kL,uz];decide
 rw[this];rfl
def OT{α:Type}(a b:α):dg [a,b] (ed .i64 (dq [a,b]) 1)=some b:=by
 have:ed .i64 (dq [a,b]) 1=1:=by simp only[eo,kL,uz];decide
 rw[this];rfl
def Eb{M:Int}(hM:0<=M/\M<=90000000000){nh:List HC}{p:Nat}{t:Tm}(hr:NR nh p t)(hs:Sm M t)(hn:t.aiw<=8192)(K:t.root=true):∃W q,gW (some p) nh=some (some W,q)/\Kp nh q/\NR q W t.eU:=by
 have Z:=Tm.JO hs.ok K;obtain⟨x,e1,l,X,Y,C,e6,e7,e8⟩:=hr.inv;unfold gW;simp only[cv,e1];have f:∀u:Tm,Sm M u->0<=u.fr/\u.fr<=M+1:=λu hu=>hu.fr hM.1;cases Z with
 |app=>
  rename_i i s D F b a;simp only[Tm.dn,Tm.dh] at l C;obtain⟨pf,pa,G,hf,ha⟩:=C.inv2;obtain⟨y,f1,f2,f3,f4,f5,_⟩:=hf.inv;simp only[Tm.dn,Tm.dh] at f2 f5;obtain⟨pb,H,I⟩:=f5.inv1;have ad:=hs.arg (.mk 2 D F [b]) acZ;have ae:=hs.arg a acZ;have r:=ad.arg b acZ;rw[Tm.cQ] at hn;simp only[db,Tm.cQ] at hn;have an:=Tm.gZ b 0;have hmul:b.aiC 0*a.aiw<=8192*8192:=GF VW VW;obtain⟨W,q,g1,g2,g3⟩:=put_eq (M:=M) (N:=M) VW VW a ae FU b pb pa nh 0 (by rw[dY];omega) I ha r VW VW VW;refine⟨W,q,?_,g2,g3⟩;rw[l,cS ab9,G];simp only[dA,fh,im,lY,cv,f1,H,g1,cN]
 |proj hk=>
  rename_i k i s D F a b;simp only[Tm.dn,Tm.dh] at l C;obtain⟨pf,G,hf⟩:=C.inv1;obtain⟨y,f1,f2,f3,f4,f5,_⟩:=hf.inv;simp only[Tm.dn,Tm.dh] at f2 f5;obtain⟨pa,pb,H,ha,I⟩:=f5.inv2;rcases hk with rfl|rfl
  .refine⟨pa,nh,?_,Kp.refl _,by simpa[Tm.eU] using ha⟩;rw[l,cO ab9,cS ab9,G];simp only[dA,im,cv,f1,H]
  .refine⟨pb,nh,?_,Kp.refl _,by simpa[Tm.eU] using I⟩;rw[l,cO ab9,cO ab9,cS ab9,G];simp only[dA,fh,im,lY,cv,f1,H]
 |zero hk=>
  rename_i k ko i s D F b st;simp only[Tm.dn,Tm.dh] at l C;obtain⟨pb,ps,po,G,I,o,S⟩:=C.N2;obtain⟨y,f1,f2,f3,f4,f5,_⟩:=S.inv;simp only[Tm.dn,Tm.dh] at f2 f5;have T:=f5.ahr;refine⟨pb,nh,?_,Kp.refl _,?_⟩
  .have j:k≠3/\k≠11/\k≠12:=VW
   rw[l,cO (by simpa using j.1),cO (by simpa using j.2.1),cO (by simpa using j.2.2),G];simp only[dA,fh,hV,im,lY,cv,f1,T];rfl
  .have:(Tm.mk k i s [b,st,.mk ko D F []]).eU=b:=by
    have j:k≠3/\k≠11/\k≠12:=VW
    simp[Tm.eU,j.1,j.2.1,j.2.2]
   rw[this];exact I
 |succ=>
  rename_i i s D F b st n;simp only[Tm.dn,Tm.dh,Tm.eW,Tm.dU] at l X Y C;obtain⟨pb,ps,po,G,I,o,S⟩:=C.N2;obtain⟨y,f1,f2,f3,f4,f5,_⟩:=S.inv;simp only[Tm.dn,Tm.dh] at f2 f5;obtain⟨U,v,w⟩:=f5.inv1;have r:=hs.arg b acZ;have L:=hs.arg st acZ;have J:=hs.arg (.mk 5 D F [n]) acZ;have O:=J.arg n acZ;rw[Tm.cQ] at hn;simp only[db,Tm.cQ] at hn;have V:=hs.idx;have b1:=f b r;have b2:=f st L;have b3:=f n O
  obtain⟨P,a1,a2,a3⟩:=q4 (k:=6) (i:=i) (s:=s) (ps:=[some pb,some ps,some U]) (ts:=[b,st,n]) (nh:=nh) (.cons I (.cons o (.cons w .nil))) (by simp[db];omega) VW (by
   intro u hu;simp only[j8,v_,s9] at hu
   rcases hu with rfl|rfl|rfl<;>omega)
  have d:=NE.kp a2;obtain⟨c,fc⟩:=d.get _ _ f1;obtain⟨p2,Q,d1,d2,d3⟩:=KW (M:=M+1) VW [n] [some U] P ps st (.cons (d.node _ _ w) .nil) (d.node _ _ o) (by intro u hu;simp only[j8,v_,s9] at hu;subst hu;omega) VW (by simp[db];omega)
  have A:0<=(Tm.mk 6 i s [b,st,n]).fr/\(Tm.mk 6 i s [b,st,n]).fr<=M+1:=by
   rw[Tm.fr,cO ab9,cO ab9];simp only[Tm.HL,sx];omega
  have B:0<=(lv st [n]).fr/\(lv st [n]).fr<=M+1:=by
   simp only[lv];rw[Tm.fr,cO ab9,cO ab9];simp only[Tm.HL,sx];omega
  have af:(Tm.mk 6 i s [b,st,n]).aiw<=10000:=by rw[Tm.cQ];simp only[db];omega
  have ah:(lv st [n]).aiw<=10000:=by rw[ny];simp only[db,kL,uz];omega
  obtain⟨p3,R,g1,g2,g3⟩:=KW (M:=M+1) VW [.mk 6 i s [b,st,n]] [some nh.length] Q p2 (lv st [n]) (.cons ((NE.kp d2).node _ _ a3) .nil) d3 (by intro u hu;simp only[j8,v_,s9] at hu;subst hu;exact A) B (by simp only[db,kL,uz];omega);refine⟨p3,R,?_,(a2.trans d2).trans g2,?_⟩
  .rw[l,cO ab9,cO ab9,cO ab9,G];simp only[dA,fh,hV,im,lY,cv,f1,v];rw[cO (by simp only[eo,kL,uz];decide),OO];unfold fC;simp only[cv,e1,l,X,Y,a1,cN,fc,v,d1,g1]
  .have:(Tm.mk 6 i s [b,st,.mk 5 D F [n]]).eU=lv (lv st [n]) [.mk 6 i s [b,st,n]]:=by simp[Tm.eU,lv]
   rw[this];exact g3
 |cons=>
  rename_i i s D F b st h n;simp only[Tm.dn,Tm.dh,Tm.eW,Tm.dU] at l X Y C;obtain⟨pb,ps,po,G,I,o,S⟩:=C.N2;obtain⟨y,f1,f2,f3,f4,f5,_⟩:=S.inv;simp only[Tm.dn,Tm.dh] at f2 f5;obtain⟨ph,U,v,ai,w⟩:=f5.inv2;have r:=hs.arg b acZ;have L:=hs.arg st acZ;have J:=hs.arg (.mk 8 D F [h,n]) acZ;have O:=J.arg n acZ;have ak:=J.arg h acZ;rw[Tm.cQ] at hn;simp only[db,Tm.cQ] at hn;have V:=hs.idx;have b1:=f b r;have b2:=f st L;have b3:=f n O;have b4:=f h ak
  obtain⟨P,a1,a2,a3⟩:=q4 (k:=9) (i:=i) (s:=s) (ps:=[some pb,some ps,some U]) (ts:=[b,st,n]) (nh:=nh) (.cons I (.cons o (.cons w .nil))) (by simp[db];omega) VW (by
   intro u hu;simp only[j8,v_,s9] at hu
   rcases hu with rfl|rfl|rfl<;>omega)
  have d:=NE.kp a2;obtain⟨c,fc⟩:=d.get _ _ f1;obtain⟨p2,Q,d1,d2,d3⟩:=KW (M:=M+1) VW [h,n] [some ph,some U] P ps st (.cons (d.node _ _ ai) (.cons (d.node _ _ w) .nil)) (d.node _ _ o) (by intro u hu;simp only[j8,v_,s9] at hu;rcases hu with rfl|rfl<;>omega) VW (by simp[db];omega)
  have A:0<=(Tm.mk 9 i s [b,st,n]).fr/\(Tm.mk 9 i s [b,st,n]).fr<=M+1:=by
   rw[Tm.fr,cO ab9,cO ab9];simp only[Tm.HL,sx];omega
  have B:0<=(lv st [h,n]).fr/\(lv st [h,n]).fr<=M+1:=by
   simp only[lv];rw[Tm.fr,cO ab9,cO ab9];simp only[Tm.HL];rw[Tm.fr,cO ab9,cO ab9];simp only[Tm.HL,sx];omega
  have af:(Tm.mk 9 i s [b,st,n]).aiw<=10000:=by rw[Tm.cQ];simp only[db];omega
  have ah:(lv st [h,n]).aiw<=10000:=by rw[ny];simp only[db,kL,uz];omega
  obtain⟨p3,R,g1,g2,g3⟩:=KW (M:=M+1) VW [.mk 9 i s [b,st,n]] [some nh.length] Q p2 (lv st [h,n]) (.cons ((NE.kp d2).node _ _ a3) .nil) d3 (by intro u hu;simp only[j8,v_,s9] at hu;subst hu;exact A) B (by simp only[db,kL,uz];omega);refine⟨p3,R,?_,(a2.trans d2).trans g2,?_⟩
  .rw[l,cO ab9,cO ab9,cO ab9,G];simp only[dA,fh,hV,im,lY,cv,f1,v];rw[cO (by simp only[eo,kL,uz];decide),OT];unfold fC;simp only[cv,e1,l,X,Y,a1,cN,fc,v,d1,g1]
  .have:(Tm.mk 9 i s [b,st,.mk 8 D F [h,n]]).eU=lv (lv st [h,n]) [.mk 9 i s [b,st,n]]:=by simp[Tm.eU,lv]
   rw[this];exact g3
def EO:∀(n:Nat) (t:Ty),t.aiw<=n->t.aiw<=1000000000->kz n t=some t:=by
 intro n
 induction n with
 |zero=>intro t h;have:=t.dr;omega
 |succ n ih=>
  intro t h a;cases t with
  |mk k l=>
   rw[Ty.cQ] at h a;have d:=Ty.ek l;rw[kz];simp only[Ty.dh,Ty.dn,c6,c8 (l:=l) VW,cY];rw[gE id l 0 [] ado]
   .simp
   .intro j x v b c;have:=di Ty.aiw b;rw[ih x VW VW];simp[dS (l:=v) (m:=[x]) (by simpa using c)]
def og{t:Ty}(h:t.aiw<=1000000000):kz FU t=some t:=EO FU t (by rw[dY];exact h) h
def Ty.vI{k i:Int}{s:Ty}{n:Nat}(h:Tm.node k i s n=true):s.aiw<=64:=by
 unfold Tm.node at h;simp only[fK] at h;have a:=h.2
 by_cases b:jq k=true
 .rw[cS b] at a;simp only[oq] at a;unfold Ty.err at a
  split at a
  .split at a
   .omega
   .omega
  .omega
 .rw[cO b] at a;rw[(Ty.lx s).1 a,Ty.cQ];simp[db]
def XL{M:Int}(H:0<=M/\M<=500000000000):∀(n:Nat) (t:Tm) (nh:List HC),t.aiw<=n->Sm M t->∃p a,qm n t nh=some (some p,a)/\Kp nh a/\NR a p t:=by
 intro n
 induction n with
 |zero=>intro t nh h;have:=t.dr;omega
 |succ n ih=>
  intro t nh h hs;cases t with
  |mk k i s l=>
   have r:=hs.aiw;have F:=hs.idx;rw[Tm.cQ] at h r;have hlen:=Tm.ek l;rw[qm];simp only[Tm.dh,Tm.dn,Tm.eW,Tm.dU,c6,c8 (l:=l) VW,cY]
   have loop:∀(ts:List Tm) (i:Nat) (nh:List HC) (v:List (Option Nat)) (us:List Tm),(∀t∈ts,t∈l)->tS nh v us->v.length+ts.length<=1000000->∃f a,dH (λ(G:Int) (j:Tm)=>(rM λ(b:(List (Option Nat))) (o:List HC)=>
      cW (qm n j o) λc d=>
      fa (eO b [c])<|some ((.next ((fu b [c]),d)):dV ((List (Option Nat))×List HC) ((Option Nat)×List HC)))) ts i (v,nh)=some (.inl (f,a))/\Kp nh a/\tS a f (us++ts):=by
    intro ts
    induction ts with
    |nil=>intro i nh v us _ w _;exact⟨v,nh,rfl,Kp.refl _,by simpa using w⟩|cons t ts x=>
     intro i nh v us hm w I;simp only[kL] at I;have q:=hm t acZ;have J:=di Tm.aiw q;obtain⟨p,y,a1,a2,a3⟩:=ih t nh VW (hs.arg t q);obtain⟨f,a,A,B,C⟩:=x (i+1) y (v++[some p]) (us++[t]) (λu hu=>hm u (by simp[hu])) (((NE.kp a2).list w).append (.cons a3 .nil)) ado;refine⟨f,a,?_,a2.trans B,by simpa using C⟩;rw[dJ];simp only[kX,a1,cN];rw[dS ado];simp only[cY,fj,cv,dQ];exact A
   obtain⟨f,a,a1,a2,a3⟩:=loop l 0 nh [] [] (λt h=>h) .nil ado;rw[a1];simp only[cv,dk,kX]
   obtain⟨D,A,B,C⟩:=q4 (k:=k) (i:=i) (s:=s) (ps:=f) (ts:=l) (nh:=a) (by simpa using a3) VW VW (by
    intro t K;have:=(hs.arg t K).fr H.1
    omega)
   exact⟨a.length,D,by rw[A];rfl,a2.trans B,C⟩
def RF{M:Int}(nh:List HC):∀(n:Nat) (t:Tm) (p:Nat),t.aiw<=n->Sm M t->NR nh p t->ib n (some p) nh=some t:=by
 intro n
 induction n with
 |zero=>intro t p h;have:=t.dr;omega
 |succ n ih=>
  intro t p h hs B;obtain⟨x,C,r,w,y,j,I,J,K⟩:=B.inv;cases t with
  |mk k i s l=>
   simp only[Tm.dn,Tm.dh,Tm.eW,Tm.dU] at r w y j;have o:=hs.aiw;rw[Tm.cQ] at h o;have hlen:=Tm.ek l;have D:x.aiv.length=l.length:=j.len;have c:=hs.ok;rw[Tm.fX,fK] at c;have F:=Ty.vI c.1;rw[ib];simp only[cv,C,r,w,y,c6,c8 (l:=x.aiv) VW,cY];rw[og VW];simp only[cv]
   have loop:∀(ts:List Tm) (ps:List (Option Nat)) (i:Nat) (v:List Tm),(∀t∈ts,t∈l)->tS nh ps ts->v.length+ts.length<=1000000->dH (λ(A:Int) (d:Option Nat)=>(λ(a:List Tm)=>
      cM (ib n d nh) λb=>
      fa (eO a [b])<|some ((.next (fu a [b])):dV (List Tm) Tm))) ps i v=some (.inl (v++ts)):=by
    intro ts
    induction ts with
    |nil=>intro ps i v _ h _;cases h;simp
    |cons t ts q=>
     intro ps i v hm h G;simp only[kL] at G;have f:=hm t acZ;have H:=di Tm.aiw f;cases h with
     |cons q1 q2=>
      rw[dJ,ih t _ VW (hs.arg t f) q1];simp only[cv];rw[dS ado];simp only[cY,cv,dQ];rw[q _ (i+1) (fu v [t]) (λu hu=>hm u (by simp[hu])) q2 (by rw[Ea];simp;omega)];simp
   rw[loop l x.aiv 0 [] (λt h=>h) j ado];simp
mutual
def NR.det{nh:List HC}:∀{p:Nat} {t u:Tm},NR nh p t->NR nh p u->t=u
 |_,_,_,.mk (x:=x) a b _ _ _,.mk (x:=y) g1 g2 _ _ _=>by
  rw[a] at g1;obtain rfl:=fU g1;rw[tS.det b g2]
def tS.det{nh:List HC}:∀{ps:List (Option Nat)} {ts us:List Tm},tS nh ps ts->tS nh ps us->ts=us
 |_,_,_,.nil,.nil=>rfl|_,_,_,.cons a b,.cons g1 g2=>by rw[NR.det a g1,tS.det b g2]
end
def NE.flag{nh:List HC}{p:Nat}{t:Tm}{x:dx}(C:NR nh p t)(A:HC.c0 nh p=some x)(o:t.nf=true):NE nh (js nh p (HC.dz {x with normal:=true})):=by
 have B:=HC.c_ A;have r:=(mH.1 B).1
 have f:HC.c0 (js nh p (HC.dz {x with normal:=true})) p=some {x with normal:=true}:=by
  unfold HC.c0 js;simp[r]
 have a:∀q,q≠p->(js nh p (HC.dz {x with normal:=true}))[q]?=nh[q]?:=by
  intro q c;unfold js;rw[Kz (λh=>c h.symm)]
 have d:∀q y,HC.c0 nh q=some y->∃b,HC.c0 (js nh p (HC.dz {x with normal:=true})) q=some {y with normal:=b}/\(b=true->y.normal=true\/q=p):=by
  intro q y hy
  by_cases c:q=p
  .subst c;rw[A] at hy;obtain rfl:=fU hy;exact⟨true,f,λ_=>.inr rfl⟩
  .refine⟨y.normal,?_,λh=>.inl h⟩;have:=a q c;unfold HC.c0 at hy|-;rw[this];exact hy
 have key:∀n,(∀q u,u.aiw<=n->NR nh q u->NR (js nh p (HC.dz {x with normal:=true})) q u):=by
  intro n
  induction n with
  |zero=>intro q u h;have:=u.dr;omega
  |succ n ih=>
   intro q u hu c;obtain⟨y,D,F,G,H,I,J,K,L⟩:=c.inv;obtain⟨b,f1,f2⟩:=d q y D
   have j:∀(ts:List Tm) (ps:List (Option Nat)),(∀t∈ts,t.aiw<=n)->tS nh ps ts->tS (js nh p (HC.dz {x with normal:=true})) ps ts:=by
    intro ts
    induction ts with
    |nil=>intro ps _ h;cases h;exact .nil
    |cons t ts v=>
     intro ps hm h;cases h with
     |cons g1 g2=>exact .cons (ih _ _ (hm t acZ) g1) (v _ (λu hu=>hm u (by simp[hu])) g2)
   refine NR.of f1 F G H (j _ _ ?_ I) J K ?_
   .intro t M;cases u with
    |mk k i s l=>
     rw[Tm.cQ] at hu;have:=di Tm.aiw M;simp only[Tm.dh] at this;omega
   .intro N;rcases f2 N with h|h
    .exact L h
    .subst h;rw[<-NR.det C c];exact o
 refine⟨λq u h=>key _ q u (gV _) h,?_,λq y h=>?_⟩
 .intro q st c
  have w:q≠p:=by
   rintro rfl;have:=HC.fF c;rw[B] at this;cases this
  unfold HC.dR at c|-;rw[a q w];exact c
 .obtain⟨b,O,_⟩:=d q y h;exact⟨b,O⟩
mutual
def Tm.Jy(room:Int):Tm->Option (Option Tm)
 |.mk k i s l=>if(Tm.mk k i s l).root then(if((Tm.mk k i s l).eU.aiw:Int)-((Tm.mk k i s l).aiw:Int)>room then none else some (some (Tm.mk k i s l).eU))
  else match Tm.rI room l with
   |none=>none|some none=>some none|some (some a)=>some (some (.mk k i s a))
def Tm.rI(room:Int):List Tm->Option (Option (List Tm))
 |[]=>some none|t::l=>match t.Jy room with
  |none=>none|some (some a)=>some (some (a::l))|some none=>match Tm.rI room l with
   |none=>none|some none=>some none|some (some b)=>some (some (t::b))
end
def J9:∀(l:List Tm) (f:Tm),f.ok=true->(∀t∈l,t.ok=true)->(lv f l).ok=true
 |[],f,h,_=>h|a::l,f,h,b=>by
  rw[lv];refine J9 l _ ?_ λt d=>b t (by simp[d]);rw[Tm.fX];simp only[fK,j3];refine⟨rfl,?_⟩;intro x c;simp only[j8,v_,s9] at c;rcases c with rfl|rfl
  .exact h
  .exact b _ acZ
def AS{M:Int}(b:0<=M):∀(l:List Tm) (f:Tm),f.aiA M=true->(∀t∈l,t.aiA M=true)->(lv f l).aiA M=true
 |[],f,h,_=>h|a::l,f,h,c=>by
  rw[lv];refine AS b l _ ?_ λt i=>c t (by simp[i]);rw[Tm.ez];simp only[fK,j3,oq];refine⟨b,?_⟩;intro x d;simp only[j8,v_,s9] at d;rcases d with rfl|rfl
  .exact h
  .exact c _ acZ
def Tm.KY{k i:Int}{s:Ty}{l m:List Tm}(h:(Tm.mk k i s l).ok=true)(a:m.length=l.length)(hm:∀t∈m,t.ok=true):(Tm.mk k i s m).ok=true:=by
 rw[Tm.fX] at h|-;simp only[fK,j3] at h|-;rw[a];exact⟨h.1,hm⟩
def Tm.Bg{M k i:Int}{s:Ty}{l m:List Tm}(h:(Tm.mk k i s l).aiA M=true)(hm:∀t∈m,t.aiA M=true):(Tm.mk k i s m).aiA M=true:=by
 rw[Tm.ez] at h|-;simp only[fK,j3,oq] at h|-;exact⟨h.1,hm⟩
def Wx{M:Int}(G:0<=M){t:Tm}(hs:Sm M t)(hn:t.aiw<=8192)(D:t.root=true):t.eU.ok=true/\t.eU.aiA (M+8192)=true:=by
 have y:=Tm.JO hs.ok D;have up:∀u,Sm M u->u.aiA (M+8192)=true:=λu hu=>(hu.mono VW).aiA;cases y with
 |app=>
  rename_i i s d f b a;have A:=hs.arg (.mk 2 d f [b]) acZ;have v:=hs.arg a acZ;have o:=A.arg b acZ;rw[Tm.cQ] at hn;simp only[db,Tm.cQ] at hn
  have e:(Tm.mk 3 i s [.mk 2 d f [b],a]).eU=Tm.iu 0 b a:=by simp[Tm.eU]
  rw[e];exact⟨Tm.UH a v.ok b 0 VW o.ok,Jm (M:=M) (N:=M) VW a v.aiA b 0 VW VW o.aiA o.ok⟩
 |proj B=>
  rename_i k i s d f a b;have w:=hs.arg (.mk 10 d f [a,b]) acZ;rcases B with rfl|rfl
  .have:=w.arg a acZ;simpa[Tm.eU] using And.intro this.ok (up _ this)
  .have:=w.arg b acZ;simpa[Tm.eU] using And.intro this.ok (up _ this)
 |zero B=>
  rename_i k F i s d f b st
  have q:k≠3/\k≠11/\k≠12:=VW
  have:(Tm.mk k i s [b,st,.mk F d f []]).eU=b:=by simp[Tm.eU,q.1,q.2.1,q.2.2]
  rw[this];have:=hs.arg b acZ;exact⟨this.ok,up _ this⟩
 |succ=>
  rename_i i s d f b st n;have x:=hs.arg b acZ;have j:=hs.arg st acZ;have l:=(hs.arg (.mk 5 d f [n]) acZ).arg n acZ
  have e:(Tm.mk 6 i s [b,st,.mk 5 d f [n]]).eU=lv st [n,.mk 6 i s [b,st,n]]:=by simp[Tm.eU,lv]
  rw[e];have r:(Tm.mk 6 i s [b,st,n]).ok=true:=Tm.KY hs.ok rfl (by intro t c;simp only[j8,v_,s9] at c;rcases c with rfl|rfl|rfl;all_goals first|exact x.ok|exact j.ok|exact l.ok);have hle:(Tm.mk 6 i s [b,st,n]).aiA (M+8192)=true:=Tm.Bg (hs.mono VW).aiA (by intro t c;simp only[j8,v_,s9] at c;rcases c with rfl|rfl|rfl;all_goals first|exact up _ x|exact up _ j|exact up _ l);refine⟨J9 _ _ j.ok ?_,AS VW _ _ (up _ j) ?_⟩<;>
  .intro t c;simp only[j8,v_,s9] at c;rcases c with rfl|rfl
   .first|exact l.ok|exact up _ l
   .first|exact r|exact hle
 |cons=>
  rename_i i s d f b st h n;have x:=hs.arg b acZ;have j:=hs.arg st acZ;have l:=(hs.arg (.mk 8 d f [h,n]) acZ).arg n acZ;have C:=(hs.arg (.mk 8 d f [h,n]) acZ).arg h acZ
  have e:(Tm.mk 9 i s [b,st,.mk 8 d f [h,n]]).eU=lv st [h,n,.mk 9 i s [b,st,n]]:=by simp[Tm.eU,lv]
  rw[e];have r:(Tm.mk 9 i s [b,st,n]).ok=true:=Tm.KY hs.ok rfl (by intro t c;simp only[j8,v_,s9] at c;rcases c with rfl|rfl|rfl;all_goals first|exact x.ok|exact j.ok|exact l.ok);have hle:(Tm.mk 9 i s [b,st,n]).aiA (M+8192)=true:=Tm.Bg (hs.mono VW).aiA (by intro t c;simp only[j8,v_,s9] at c;rcases c with rfl|rfl|rfl;all_goals first|exact up _ x|exact up _ j|exact up _ l);refine⟨J9 _ _ j.ok ?_,AS VW _ _ (up _ j) ?_⟩<;>
  .intro t c;simp only[j8,v_,s9] at c;rcases c with rfl|rfl|rfl
   .first|exact C.ok|exact up _ C
   .first|exact l.ok|exact up _ l
   .first|exact r|exact hle
def Tm.Bc(room k i:Int)(s:Ty)(l:List Tm):(Tm.mk k i s l).Jy room=if(Tm.mk k i s l).root then(if((Tm.mk k i s l).eU.aiw:Int)-((Tm.mk k i s l).aiw:Int)>room then none else some (some (Tm.mk k i s l).eU))
 else match Tm.rI room l with
  |none=>none|some none=>some none|some (some a)=>some (some (.mk k i s a)):=by rw[Tm.Jy]
def Kn{M room:Int}(w:0<=M)(t:Tm):Sm M t->t.aiw<=8192->∀f,t.Jy room=some (some f)->f.ok=true/\f.aiA (M+8192)=true/\(f.aiw:Int)<=t.aiw+room:=by
 induction t using Tm.ind with
 |h k i s l ih=>
  intro hs hn f h;rw[Tm.Bc] at h
  by_cases j:(Tm.mk k i s l).root=true
  .rw[cS j] at h
   split at h
   .cases h
   .obtain rfl:=fU (fU h);obtain⟨x,y⟩:=Wx w hs hn j;exact⟨x,y,VW⟩
  .rw[cO j] at h;have up:∀u,Sm M u->u.aiA (M+8192)=true:=λu hu=>(hu.mono VW).aiA;have n:=hn;rw[Tm.cQ] at n
   have A:∀(ts a:List Tm),(∀t∈ts,t∈l)->Tm.rI room ts=some (some a)->a.length=ts.length/\(∀t∈a,t.ok=true/\t.aiA (M+8192)=true)/\(db Tm.aiw a:Int)<=db Tm.aiw ts+room:=by
    intro ts
    induction ts with
    |nil=>intro a _ h;rw[Tm.rI] at h;cases h
    |cons t ts o=>
     intro a hm h;rw[Tm.rI] at h;have b:=hm t acZ;have B:=di Tm.aiw b;have c:=hs.arg t b
     split at h
     .cases h
     .rename_i u hu;obtain rfl:=fU (fU h);obtain⟨a1,a2,a3⟩:=ih t b c VW u hu;refine⟨rfl,?_,by simp only[db];omega⟩;intro v hv;rcases j8.1 hv with rfl|hv
      .exact⟨a1,a2⟩
      .have:=hs.arg v (hm v (by simp[hv]));exact⟨this.ok,up _ this⟩
     .split at h
      .cases h
      .cases h
      .rename_i q d;obtain rfl:=fU (fU h);obtain⟨a1,a2,a3⟩:=o q (λu hu=>hm u (by simp[hu])) d;refine⟨by simp[a1],?_,by simp only[db];omega⟩;intro v hv;rcases j8.1 hv with rfl|hv
       .exact⟨c.ok,up _ c⟩
       .exact a2 v hv
   split at h
   .cases h
   .cases h
   .rename_i q d;obtain rfl:=fU (fU h);obtain⟨a1,a2,a3⟩:=A l q (λt h=>h) d;refine⟨Tm.KY hs.ok a1 λt r=>(a2 t r).1,Tm.Bg (hs.mono VW).aiA λt r=>(a2 t r).2,?_⟩;rw[Tm.cQ,Tm.cQ];omega
def GL(room:Int)(t:Tm):t.nf=true↔t.Jy room=some none:=by
 induction t using Tm.ind with
 |h k i s l ih=>
  rw[Tm.RB,Tm.Bc]
  have f:∀ts:List Tm,(∀t∈ts,t∈l)->(ts.all Tm.nf=true↔Tm.rI room ts=some none):=by
   intro ts
   induction ts with
   |nil=>intro _;simp[Tm.rI]|cons t ts b=>
    intro hm;have j:=ih t (hm t acZ);have n:=b λu hu=>hm u (by simp[hu]);rw[AZ,fK,j,n,Tm.rI];constructor
    .rintro⟨c,d⟩;rw[c,d]
    .intro h
     split at h
     .cases h
     .cases h
     .rename_i c
      split at h
      .cases h
      .rename_i d;exact⟨c,d⟩
      .cases h
  have:=f l λt h=>h
  by_cases a:(Tm.mk k i s l).root=true
  .rw[cS a,a];simp
   try(split<;>simp)
  .rw[cO a];simp only[fK,Yy,this];constructor
   .rintro⟨_,e⟩;rw[e]
   .intro h;refine⟨by simpa using a,?_⟩
    split at h
    .cases h
    .rename_i e;exact e
    .cases h
def Uu{M:Int}{t:Tm}(hs:Sm M t)(hn:t.aiw<=8192)(c:t.root=true):(t.eU.aiw:Int)<=1000000000:=by
 have d:=Tm.JO hs.ok c;cases d with
 |app=>
  rename_i i s j k b a;rw[Tm.cQ] at hn;simp only[db,Tm.cQ] at hn;have f:=hs.arg (.mk 2 j k [b]) acZ;have l:=Tm.qV a b 0 (f.arg b acZ).ok;have n:=Tm.gZ b 0;have hmul:b.aiC 0*a.aiw<=8192*8192:=GF VW VW
  grind[Tm.iu,Tm.eU]
 |proj h=>
  rw[Tm.cQ] at hn;simp only[db,Tm.cQ] at hn;rcases h with rfl|rfl<;>(simp[Tm.eU];omega)
 |zero h=>grind[Tm.eU,Tm.cQ,db]|succ=>grind[lv,Tm.eU,ny,Tm.cQ,db]|cons=>grind[lv,Tm.eU,ny,Tm.cQ,db]
def U8{M:Int}(Q:0<=M/\M<=90000000000){nh:List HC}{p:Nat}{t:Tm}(N:NR nh p t)(hs:Sm M t)(hn:t.aiw<=8192)(d:t.root=true):oD (some p) nh=some (t.eU.aiw:Int):=by
 have R:=Eb Q N hs hn d;have G:=Tm.JO hs.ok d;obtain⟨x,S,f,e3,e4,o,e6,e7,e8⟩:=N.inv;unfold oD lz;simp only[cv,S];cases G with
 |app=>
  rename_i i s q r b a;simp only[Tm.dn,Tm.dh] at f o;obtain⟨pf,pa,w,T,U⟩:=o.inv2;obtain⟨y,f1,f2,f3,f4,f5,_⟩:=T.inv;simp only[Tm.dn,Tm.dh] at f2 f5;obtain⟨pb,H,A⟩:=f5.inv1;have I:=hs.arg (.mk 2 q r [b]) acZ;have V:=hs.arg a acZ;have D:=I.arg b acZ;rw[Tm.cQ] at hn;simp only[db,Tm.cQ] at hn;obtain⟨z,g1,_,_,_,_,g6,_⟩:=A.inv;obtain⟨u,j,_,_,_,_,l,_⟩:=U.inv;rw[f,cS ab9,w];simp only[dA,fh,im,lY,cv,f1,H,g1];rw[count_eq (M:=M) VW nh FU b pb 0 (by rw[dY];omega) A D VW VW];simp only[cv,j,cN,g6,l];have W:=Tm.gZ b 0;have hmul:b.aiC 0*a.aiw<=8192*8192:=GF VW VW;have X:=Tm.qV a b 0 D.ok;have Y:=a.dr
  have e:(Tm.mk 3 i s [.mk 2 q r [b],a]).eU=Tm.iu 0 b a:=by simp[Tm.eU]
  rw[e]
  have hint:(b.aiC 0:Int)*((a.aiw:Int)-1)=((b.aiC 0*a.aiw:Nat):Int)-(b.aiC 0:Int):=by rw[X',YL];simp
  rw[et VW VW,zM (by rw[hint];omega) (by rw[hint];omega),hint,dP VW VW]
  congr 1
  omega
 |proj O=>
  rename_i k i s q r a b;obtain⟨p',Z,g1,g2,g3⟩:=R;simp only[Tm.dn,Tm.dh] at f o;obtain⟨z,j,_,_,_,_,l,_⟩:=g3.inv
  have c:k≠3/\k≠6/\k≠9:=VW
  rw[f,cO (by simpa using c.1),cO (by simpa using c.2.1),cO (by simpa using c.2.2),g1];simp only[cN,cv,j,l]
 |zero O=>
  rename_i k ko i s q r b st;simp only[Tm.dn,Tm.dh] at f o;obtain⟨pb,ps,P,w,A,v,F⟩:=o.N2;obtain⟨y,f1,f2,f3,f4,f5,_⟩:=F.inv;obtain⟨z,j,_,_,_,_,l,_⟩:=A.inv;simp only[Tm.dn,Tm.dh] at f2 f5
  have c:k≠3/\k≠11/\k≠12:=VW
  have:(Tm.mk k i s [b,st,.mk ko q r []]).eU=b:=by simp[Tm.eU,c.1,c.2.1,c.2.2]
  rw[this];rcases O with⟨rfl,rfl⟩|⟨rfl,rfl⟩
  .rw[f,cO ab9,cS ab9,w];simp only[dA,fh,hV,im,lY,cv,f1,f2,j,l];rw[cO ab9];rfl
  .rw[f,cO ab9,cO ab9,cS ab9,w];simp only[dA,fh,hV,im,lY,cv,f1,f2,j,l];rw[cO ab9];rfl
 |succ=>
  rename_i i s q r b st n;simp only[Tm.dn,Tm.dh] at f o;obtain⟨pb,ps,P,w,A,v,F⟩:=o.N2;obtain⟨y,f1,f2,f3,f4,f5,_⟩:=F.inv;simp only[Tm.dn,Tm.dh] at f2 f5;obtain⟨pn,B,C⟩:=f5.inv1;obtain⟨z1,j,_,_,_,_,l,_⟩:=A.inv;obtain⟨z2,J,_,_,_,_,K,_⟩:=v.inv;obtain⟨z3,m1,_,_,_,_,m6,_⟩:=C.inv;rw[Tm.cQ] at hn;simp only[db,Tm.cQ] at hn
  have e:(Tm.mk 6 i s [b,st,.mk 5 q r [n]]).eU=lv st [n,.mk 6 i s [b,st,n]]:=by simp[Tm.eU,lv]
  rw[e,ny];simp only[db,Tm.cQ,kL,uz];rw[f,cO ab9,cS ab9,w];simp only[dA,fh,hV,im,lY,cv,f1,f2,B,j,J,m1,l,K,m6];rw[cS ab9];simp only[cN];rw[zM (a:=2) VW VW,dP (a:=2) VW VW,dP (b:=2*(n.aiw:Int)) VW VW,dP (b:=1) VW VW,dP (b:=(b.aiw:Int)) VW VW,dP VW VW]
  congr 1
  omega
 |cons=>
  rename_i i s q r b st h n;simp only[Tm.dn,Tm.dh] at f o;obtain⟨pb,ps,P,w,A,v,F⟩:=o.N2;obtain⟨y,f1,f2,f3,f4,f5,_⟩:=F.inv;simp only[Tm.dn,Tm.dh] at f2 f5;obtain⟨ph,pn,B,L,C⟩:=f5.inv2;obtain⟨z1,j,_,_,_,_,l,_⟩:=A.inv;obtain⟨z2,J,_,_,_,_,K,_⟩:=v.inv;obtain⟨z3,m1,_,_,_,_,m6,_⟩:=C.inv;obtain⟨z4,q1,_,_,_,_,q6,_⟩:=L.inv;rw[Tm.cQ] at hn;simp only[db,Tm.cQ] at hn
  have e:(Tm.mk 9 i s [b,st,.mk 8 q r [h,n]]).eU=lv st [h,n,.mk 9 i s [b,st,n]]:=by simp[Tm.eU,lv]
  rw[e,ny];simp only[db,Tm.cQ,kL,uz];rw[f,cO ab9,cO ab9,cS ab9,w];simp only[dA,fh,hV,im,lY,cv,f1,f2,B,j,J,m1,q1,l,K,m6,q6];rw[cS ab9];simp only[cN];rw[zM (a:=2) VW VW,dP (a:=3) VW VW,dP (b:=(h.aiw:Int)) VW VW,dP (b:=2*(n.aiw:Int)) VW VW,dP (b:=1) VW VW,dP (b:=(b.aiw:Int)) VW VW,dP VW VW]
  congr 1
  omega
def Hv{α:Type}(a:List α)(x y:α)(b:List α):(a++x::b).set a.length y=a++y::b:=acZ
def Dr(room:Int)(p:Nat)(t:Tm)(nh:List HC)(o:Option ((Option Nat)×Int×List HC)):Prop:=
 match t.Jy room with
 |none=>∃a,o=some (none,4,a)/\NE nh a|some none=>∃a,o=some (none,0,a)/\NE nh a|some (some c)=>∃b a,o=some (some b,0,a)/\NE nh a/\NR a b c
def Zx{M room:Int}(hM:0<=M/\M<=80000000000)(ad:-100000<=room/\room<=100000):∀(n:Nat) (t:Tm) (p:Nat) (nh:List HC),t.aiw<=n->NR nh p t->Sm M t->t.aiw<=8192->Dr room p t nh (iT n (some p) room nh):=by
 intro n
 induction n with
 |zero=>intro t p nh h;have:=t.dr;omega
 |succ n ih=>
  intro t p nh hn T hs L;obtain⟨x,e1,e2,e3,e4,e5,e6,e7,e8⟩:=T.inv;rw[iT];simp only[cv,e1]
  by_cases P:x.normal=true
  .rw[cS P];unfold Dr;rw[(GL room t).1 (e8 P)];exact⟨nh,rfl,NE.refl _⟩
  .rw[cO P,L4 T hs.ok];simp only[cv];cases t with
   |mk k i s l=>
    by_cases f:(Tm.mk k i s l).root=true
    .rw[cS f,U8 VW T hs L f];simp only[cv,fy,e6];obtain⟨R,c,g1,g2,g3⟩:=Eb (M:=M) VW T hs L f;have an:=Uu hs L f;rw[et VW VW];unfold Dr;rw[Tm.Bc,cS f]
     by_cases G:((Tm.mk k i s l).eU.aiw:Int)-((Tm.mk k i s l).aiw:Int)>room
     .rw[cS G,cS G];exact⟨nh,rfl,NE.refl _⟩
     .rw[cO G,cO G,g1];exact⟨R,c,rfl,NE.kp g2,g3⟩
    .rw[cO f];simp only[Tm.dn,Tm.dh,Tm.eW,Tm.dU] at e2 e3 e4 e5;have J:=L;rw[Tm.cQ] at hn J;have hlen:=Tm.ek l;have U:x.aiv.length=l.length:=e5.len;rw[c8 VW];simp only[cY,c6];have ak:=hs.idx;have V:∀u:Tm,Sm M u->0<=u.fr/\u.fr<=M+1:=λu hu=>hu.fr hM.1
     have loop:∀(ts pre:List Tm) (ps N:List (Option Nat)) (j:Nat) (D:List HC),l=pre++ts->x.aiv=N++ps->N.length=j->NE nh D->tS D ps ts->tS D N pre->match Tm.rI room ts with
       |none=>∃c,dH (λ(y:Int) (F:Option Nat)=>(λ(A:List HC)=>
         g_ (iT n F room A) λr v a=>
         if(dw v 0) then(some (.ret (none,v,a)))
         else(if(Option.isSome r) then(
         cM (HC.c0 a p) λd=>
         fa (xW d.aiv)<|cM (dg d.aiv y) λK=>
         cW (fC (some p) (wF d.aiv y r) a) λB w=>
         some (.ret (B,0,w)))
         else(some ((.next a):dV (List HC) ((Option Nat)×Int×List HC)))))) ps j D=some (.inr (none,4,c))/\NE nh c
       |some none=>∃c,dH (λ(y:Int) (F:Option Nat)=>(λ(A:List HC)=>
         g_ (iT n F room A) λr v a=>
         if(dw v 0) then(some (.ret (none,v,a)))
         else(if(Option.isSome r) then(
         cM (HC.c0 a p) λd=>
         fa (xW d.aiv)<|cM (dg d.aiv y) λK=>
         cW (fC (some p) (wF d.aiv y r) a) λB w=>
         some (.ret (B,0,w)))
         else(some ((.next a):dV (List HC) ((Option Nat)×Int×List HC)))))) ps j D=some (.inl c)/\NE nh c
       |some (some W)=>∃R c,dH (λ(y:Int) (F:Option Nat)=>(λ(A:List HC)=>
         g_ (iT n F room A) λr v a=>
         if(dw v 0) then(some (.ret (none,v,a)))
         else(if(Option.isSome r) then(
         cM (HC.c0 a p) λd=>
         fa (xW d.aiv)<|cM (dg d.aiv y) λK=>
         cW (fC (some p) (wF d.aiv y r) a) λB w=>
         some (.ret (B,0,w)))
         else(some ((.next a):dV (List HC) ((Option Nat)×Int×List HC)))))) ps j D=some (.inr (some R,0,c))/\NE nh c/\NR c R (.mk k i s (pre++W)):=by
      intro ts
      induction ts with
      |nil=>
       intro pre ps N j D _ _ _ H hp _;cases hp;rw[Tm.rI];exact⟨D,rfl,H⟩
      |cons t ts ae=>
       intro pre ps N j D S hx hq H hp O;cases hp with
       |cons q1 q2=>
        rename_i q ps
        have X:t∈l:=by rw[S];simp
        have ao:=di Tm.aiw X;have Y:=hs.arg t X;have C:=ih t q D VW q1 Y VW;unfold Dr at C;rw[Tm.rI];rw[dJ]
        split at C
        .rename_i I;obtain⟨c,a1,a2⟩:=C;rw[I,a1];exact⟨c,rfl,H.trans a2⟩
        .rename_i I;obtain⟨c,a1,a2⟩:=C;rw[I,a1];have:=ae (pre++[t]) ps (N++[some q]) (j+1) c (by simp[S]) (by simp[hx]) (by simp[hq]) (H.trans a2) (a2.list q2) ((a2.list O).append (.cons (a2.node _ _ q1) .nil))
         revert this
         cases Tm.rI room ts with
         |none=>exactλh=>h|some o=>
          cases o with
          |none=>exactλh=>h|some W=>simp only[tD,YF,oE];exactλh=>h
        .rename_i t' I;obtain⟨q',c,a1,a2,a3⟩:=C;rw[I,a1];simp only[mh];rw[cO ab9,cS (show(some q').isSome=true from rfl)];obtain⟨b,Z⟩:=(H.trans a2).get p x e1;rw[Z];simp only[cv];obtain⟨s1,s2,s3⟩:=Kn hM.1 t Y VW t' I;rw[show xW x.aiv=true from vD ⟨by rw[U,S];simp;omega,by rw[U];unfold lim;omega⟩]
         have af:dg x.aiv (j:Int)=some (some q):=by rw[gP,hx,<-hq];simp
         have ah:wF x.aiv (j:Int) (some q')=N++some q'::ps:=by
          unfold wF;rw[hx,<-hq];simp
         simp only[cY,af,cv,ah];unfold fC;simp only[cv,Z]
         obtain⟨ai,b1,b2,b3⟩:=q4 (k:=k) (i:=i) (s:=s) (ps:=N++some q'::ps) (ts:=pre++t'::ts) (nh:=c) ((a2.list O).append (.cons a3 (a2.list q2))) (by
          rw[S,Eg] at J;rw[Eg];simp only[db] at J|-
          omega) VW (by
          intro u hu;rcases rl.1 hu with hu|hu
          .have:=V u (hs.arg u (by rw[S];simp[hu]));omega
          .rcases j8.1 hu with rfl|hu
           .have:=Tm.VV u (M:=M+8192) VW s1 s2;omega
           .have:=V u (hs.arg u (by rw[S];simp[hu]));omega)
         rw[e2,e3,e4,b1];exact⟨c.length,ai,rfl,(H.trans a2).trans (NE.kp b2),b3⟩
     have:=loop l [] x.aiv [] 0 nh rfl rfl rfl (NE.refl _) e5 .nil;unfold Dr;rw[Tm.Bc,cO f]
     have Q:Tm.rI room l=some none->(Tm.mk k i s l).nf=true:=by
      intro h;rw[GL room,Tm.Bc,cO f,h]
     revert this Q
     cases Tm.rI room l with
     |none=>
      rintro⟨c,a1,a2⟩ _;have e:((0:Nat):Int)=0:=rfl;rw[a1];exact⟨c,rfl,a2⟩
     |some o=>
      cases o with
      |none=>
       rintro⟨c,a1,a2⟩ Q;rw[a1];simp only[cv,dk];obtain⟨b,Z⟩:=a2.get p x e1;rw[Z];simp only[cv];exact⟨_,rfl,a2.trans (NE.flag (x:={x with normal:=b}) (a2.node _ _ T) Z (Q rfl))⟩
      |some l'=>
       rintro⟨R,c,a1,a2,a3⟩ _;rw[a1];exact⟨R,c,rfl,a2,a3⟩
def SX{M:Int}(P:0<=M/\M<=80000000000):∀(n:Nat) (t:Tm) (p:Nat) (nh:List HC),t.aiw<=n->NR nh p t->Sm M t->t.aiw<=8192->∃d,iG n (some p) nh=some (t.nf,d)/\NE nh d:=by
 intro n
 induction n with
 |zero=>intro t p nh h;have:=t.dr;omega
 |succ n ih=>
  intro t p nh hn D hs F;obtain⟨x,I,Q,R,S,G,T,U,L⟩:=D.inv;rw[iG];simp only[cv,I]
  by_cases v:x.normal=true
  .rw[cS v,L v];exact⟨nh,rfl,NE.refl _⟩
  .rw[cO v,L4 D hs.ok];simp only[cv];cases t with
   |mk k i s l=>
    by_cases a:(Tm.mk k i s l).root=true
    .rw[cS a,Tm.RB,a];exact⟨nh,rfl,NE.refl _⟩
    .rw[cO a];simp only[Tm.dh] at G;rw[Tm.cQ] at hn F;have hlen:=Tm.ek l;have N:x.aiv.length=l.length:=G.len;rw[c8 VW];simp only[cY,c6]
     have loop:∀(ts:List Tm) (ps:List (Option Nat)) (j:Nat) (f:List HC),(∀t∈ts,t∈l)->NE nh f->tS f ps ts->∃d,dH (λ(J:Int) (w:Option Nat)=>(λ(y:List HC)=>
        cW (iG n w y) λA q=>
        if A then(some (.next q))else(some ((.ret (false,q)):dV (List HC) (Bool×List HC))))) ps j f=some (if ts.all Tm.nf then .inl d else .inr (false,d))/\NE nh d:=by
      intro ts
      induction ts with
      |nil=>intro ps j f _ r h;cases h;exact⟨f,rfl,r⟩
      |cons t ts H=>
       intro ps j f hm r h;cases h with
       |cons q1 q2=>
        have B:=hm t acZ;have O:=di Tm.aiw B;obtain⟨C,a1,a2⟩:=ih t _ f VW q1 (hs.arg t B) VW;rw[dJ,a1];simp only[cN]
        by_cases c:t.nf=true
        .rw[cS c];simp only[cv,dQ,AZ,c,zj];exact H _ (j+1) C (λu hu=>hm u (by simp[hu])) (r.trans a2) (a2.list q2)
        .rw[cO c];simp only[cv,zu,AZ,c,aaX];exact⟨C,rfl,r.trans a2⟩
     obtain⟨d,a1,a2⟩:=loop l x.aiv 0 nh (λt h=>h) (NE.refl _) G;rw[a1]
     by_cases o:l.all Tm.nf=true
     .rw[cS o];simp only[cv,dk];obtain⟨b,K⟩:=a2.get p x I;rw[K]
      have c:(Tm.mk k i s l).nf=true:=by
       rw[Tm.RB,o];simpa using a
      rw[c];exact⟨_,rfl,a2.trans (NE.flag (x:={x with normal:=b}) (a2.node _ _ D) K c)⟩
     .rw[cO o]
      have c:(Tm.mk k i s l).nf=false:=by
       rw[Tm.RB];simp[o]
      rw[c];exact⟨d,rfl,a2⟩
def rC{t:Tm}(h:t.wt<=1000000000):jC t=some (if t.err=0 then(t.aiw:Int)else 0,t.err):=by
 unfold jC Tm.err;rw[vt FU t (by rw[dY];exact h) h]
 by_cases a:t.ok=true
 .simp only[a,if_true,cN,fy]
  by_cases b:4096<t.aiw
  .rw[cS b,cS VW];rfl
  .rw[cO b,cO VW];rfl
 .simp only[a,cN];rfl
def oP{t:Tm}(h:t.wt<=1000000000):oN t=some t.err:=by
 unfold oN;rw[rC h];rfl
theorem Tm.fQ{t:Tm}(h:t.err=0):t.ok=true/\t.aiw<=4096:=by
 unfold Tm.err at h
 split at h
 .rename_i a
  split at h
  .omega
  .exact⟨a,VW⟩
 .omega
def R2:∀(n:Nat) (t:Tm) (b:Int) (s:Bool),t.aiw<=n->t.ok=true->t.aiw<=1000000->0<=b->b+t.aiw<=100000000->ja n t b (λ(s:Bool) (o:Int) (q:Int)=>qL o q s) s=some (s&&t.aiA 536870912):=by
 intro n
 induction n with
 |zero=>intro t b s h;have:=t.dr;omega
 |succ n ih=>
  intro t b s h A hn I r;cases t with
  |mk k i ty l=>
   obtain⟨o1,o2,B,C,J⟩:=Tm.kU A;rw[Tm.cQ] at h hn r;have hlen:=Tm.ek l;rw[ja];simp only[Tm.dh,Tm.dn,Tm.eW,c6,eT];rw[Tm.ez]
   by_cases f:k=1
   .have D:=o1 f;subst D;rw[cS f];unfold qL;cases s with
    |true=>simp[HB];rfl|false=>simp;rfl
   .rw[cO f];have hi:=B f;subst hi
    have v:ep (dj k 2) (dF .i64 b 1) b=b+e9 k:=by
     unfold e9
     by_cases w:k=2
     .subst w;rw[cS rfl];exact dP VW VW
     .rw[cO w]
      have:dj k 2=false:=by simp[dj,w]
      rw[this];simp
    have F:=kr k;rw[c8 (l:=l) VW];simp only[cY,v]
    have loop:∀(ts:List Tm) (j:Nat) (s:Bool),(∀t∈ts,t∈l)->dH (λ(G:Int) (x:Tm)=>(λ(a:Bool)=>
      cM (ja n x (b+e9 k) (λ(s:Bool) (o:Int) (q:Int)=>qL o q s) a) λc=>
      some ((.next c):dV Bool Bool))) ts j s=some (.inl (s&&ts.all (Tm.aiA 536870912))):=by
     intro ts
     induction ts with
     |nil=>intro j s _;simp|cons t ts y=>
      intro j s hm;have d:=hm t acZ;have H:=di Tm.aiw d;rw[dJ,ih t _ _ VW (C t d) VW VW VW];simp only[cv,dQ];rw[y (j+1) _ λu hu=>hm u (by simp[hu])];simp[Bool.and_assoc]
    rw[loop l 0 s λt h=>h];simp
def LF{t:Tm}(a:t.ok=true)(hn:t.aiw<=1000000):wL t=some (t.aiA 536870912):=by
 unfold wL qJ;rw[R2 FU t 0 true (by rw[dY];omega) a hn VW VW];simp
def Tm.z:Tm:=.mk 0 0 (.mk 0 []) []
def NR.ZJ{nh:List HC}{c:Nat}{st a:eB}(h:HC.dR nh c=some st):∀n,(∀p t,t.aiw<=n->NR nh p t->NR (js nh c (HC.eK a)) p t):=by
 have r:=HC.fF h
 have d:∀q y,HC.c0 nh q=some y->HC.c0 (js nh c (HC.eK a)) q=some y:=by
  intro q y hy;have f:=HC.c_ hy
  have j:c≠q:=by
   rintro rfl;rw[r] at f;cases f
  unfold HC.c0 js;rw[Kz j,f]
 intro n
 induction n with
 |zero=>intro p t h;have:=t.dr;omega
 |succ n ih=>
  intro p t v w;obtain⟨y,x,A,B,C,D,F,G,H⟩:=w.inv
  have b:∀(ts:List Tm) (ps:List (Option Nat)),(∀t∈ts,t.aiw<=n)->tS nh ps ts->tS (js nh c (HC.eK a)) ps ts:=by
   intro ts
   induction ts with
   |nil=>intro ps _ h;cases h;exact .nil
   |cons t ts o=>
    intro ps hm h;cases h with
    |cons g1 g2=>exact .cons (ih _ _ (hm t acZ) g1) (o _ (λu hu=>hm u (by simp[hu])) g2)
  refine NR.of (d _ _ x) A B C (b _ _ ?_ D) F G H;intro u hu;cases t with
  |mk k i s l=>
   rw[Tm.cQ] at v;have:=di Tm.aiw hu;simp only[Tm.dh] at this;omega
def CO{nh:List HC}{b:Nat}{st a:eB}(h:HC.dR nh b=some st):HC.dR (js nh b (HC.eK a)) b=some a:=by
 have d:=HC.fF h;have c:=(mH.1 d).1;unfold HC.dR js;simp[c]
structure At (nh:List HC) (s0:Nat) (t:Tm) (m:Int):Prop where
 st:∃p,HC.dR nh s0=some ⟨some p,m⟩/\NR nh p t
def Yb{M:Int}(k:0<=M/\M<=80000000000){nh:List HC}{d:Nat}{t:Tm}{m:Int}(h:At nh d t m)(hs:Sm M t)(hn:t.aiw<=4096)(hm:0<=m/\m<=1000000):match t.Jy (4096-t.aiw)with
  |none=>∃a,iE (some d) nh=some (false,4,a)|some none=>∃a,iE (some d) nh=some (false,0,a)/\At a d t m|some (some j)=>∃a,iE (some d) nh=some (true,0,a)/\At a d j (m+1):=by
 obtain⟨p,f,i⟩:=h.st;obtain⟨x,l,_,_,_,_,n,_⟩:=i.inv;have q:=t.dr;have b:=Zx (M:=M) (room:=4096-t.aiw) k VW FU t p nh (by rw[dY];omega) i hs VW;unfold iE qd;simp only[cv,f,l,n];rw[et VW VW];unfold Dr at b
 split at b
 .rename_i c;obtain⟨a,a1,a2⟩:=b
  try rw[c]
  rw[a1];exact⟨a,rfl⟩
 .rename_i c;obtain⟨a,a1,a2⟩:=b
  try rw[c]
  rw[a1];exact⟨a,rfl,⟨p,a2.state _ _ f,a2.node _ _ i⟩⟩
 .rename_i j c;obtain⟨o,a,a1,a2,a3⟩:=b
  try rw[c]
  rw[a1];have g1:=a2.state _ _ f;simp only[mh];rw[cO (by simp[dw])];simp only[g1,cv];rw[dP VW VW];refine⟨_,rfl,⟨o,CO (CO g1),?_⟩⟩;exact NR.ZJ (CO g1) _ _ _ (gV _) (NR.ZJ g1 _ _ _ (gV _) a3)
def Tm.norm:Nat->Int->Tm->Tm×Int×Int
 |0,m,t=>if t.nf then(t,m,0)else(Tm.z,0,5)|k+1,m,t=>match t.Jy (4096-t.aiw)with
  |none=>(Tm.z,0,4)|some none=>(t,m,0)|some (some a)=>Tm.norm k (m+1) a
def MO{k:Nat}{m:Int}{t:Tm}(h:t.Jy (4096-t.aiw)=none):t.norm (k+1) m=(Tm.z,0,4):=by rw[Tm.norm,h]
def Jo{k:Nat}{m:Int}{t:Tm}(h:t.Jy (4096-t.aiw)=some none):t.norm (k+1) m=(t,m,0):=by rw[Tm.norm,h]
def Jk{k:Nat}{m:Int}{t a:Tm}(h:t.Jy (4096-t.aiw)=some (some a)):t.norm (k+1) m=a.norm k (m+1):=by rw[Tm.norm,h]
def GP{σ ρ:Type}{F:σ->Option (dV σ ρ)}:∀{n m:Nat} {s:σ} {o:σ⊕ρ},n<=m->nt F n s=some o->nt F m s=some o
 |0,_,_,_,_,h=>by cases h
 |n+1,0,_,_,hm,_=>by omega|n+1,m+1,s,o,hm,h=>by
  rw[kb] at h|-;obtain⟨c,b,a⟩:=dm h;rw[b];simp only[cv];cases c with
  |next d=>exact GP VW a|brk d=>exact a|ret r=>exact a
def N3(s:Nat)(steps:Int)(L:0<=steps/\steps<=65536):∀(k:Nat) (m:Int) (t:Tm) (nh:List HC),(k:Int)=steps-m->0<=m->At nh s t m->Sm (536870912+8192*m) t->t.aiw<=4096->∃o,nt (λ(a:List HC)=>
   cM (HC.dR a s) λu=>
   if(pR u.steps steps) then(
   g_ (iE (some s) a) λv l c=>
   if(dw l 0) then(some (.ret ((Tm.mk 0 0 (Ty.mk 0 []) []),0,l)))
   else(if v then(some (.next c))
   else(cM (HC.dR c s) λn=>
   cM (ib FU n.term c) λw=>
   some (.ret (w,n.steps,0)))))
   else(some ((.brk a):dV (List HC) (Tm×Int×Int)))) (k+1) nh=some o/\eE (λ(a:List HC)=>
    cM (HC.dR a s) λx=>
    cW (iG FU x.term a) λy h=>
    if y then(
    cM (HC.dR h s) λq=>
    cM (ib FU q.term h) λA=>
    some (A,q.steps,0))
    else(some ((Tm.mk 0 0 (Ty.mk 0 []) []),0,5))) (λr=>some r) o=some (t.norm k m):=by
 intro k
 induction k with
 |zero=>
  intro m t nh F hm i hs hn;obtain⟨p,B,C⟩:=i.st;refine⟨.inl nh,?_,?_⟩
  .rw[kb];simp only[B,cv];rw[cO (by rw[kv];omega)];rfl
  .rw[dk];simp only[B,cv];obtain⟨d,a1,a2⟩:=SX (M:=536870912+8192*m) VW FU t p nh (by rw[dY];omega) C hs VW;rw[a1];simp only[cN,Tm.norm]
   by_cases j:t.nf=true
   .rw[cS j,cS j];simp only[a2.state _ _ B,cv];rw[RF (M:=536870912+8192*m) d FU t p (by rw[dY];omega) hs (a2.node _ _ C)];rfl
   .rw[cO j,cO j];rfl
 |succ k ih=>
  intro m t nh F hm i hs hn;obtain⟨p,B,C⟩:=i.st;have b:=Yb (M:=536870912+8192*m) VW i hs hn VW;rw[kb];simp only[B,cv];rw[cS (by rw[kv];omega)]
  split at b
  .rename_i f;obtain⟨d,a1⟩:=b;rw[MO f,a1];exact⟨_,rfl,rfl⟩
  .rename_i f;obtain⟨d,a1,a2⟩:=b;obtain⟨G,H,I⟩:=a2.st;rw[Jo f,a1];simp only[mh];rw[cO ab9,cO ab9];simp only[H,cv];rw[RF (M:=536870912+8192*m) d FU t G (by rw[dY];omega) hs I];exact⟨_,rfl,rfl⟩
  .rename_i D f;obtain⟨d,a1,a2⟩:=b;rw[Jk f,a1];simp only[mh];rw[cO ab9];simp only[if_true,cv,dQ];obtain⟨J,K,c3⟩:=Kn (M:=536870912+8192*m) VW t hs VW D f;exact ih (m+1) D d VW VW a2 ⟨J,by rw[show 536870912+8192*(m+1)=536870912+8192*m+8192 by omega];exact K,VW⟩ VW
def Sm.start{t:Tm}(h:t.err=0)(a:t.aiA 536870912=true):Sm 536870912 t:=⟨(Tm.fQ h).1,a,by have:=(Tm.fQ h).2;omega⟩
def wO{t:Tm}(hw:t.wt<=1000000000)(steps:Int):jt t steps=some (if t.err=0 then(if 0<=steps/\steps<=65536/\t.aiA 536870912 then t.norm steps.toNat 0 else(Tm.z,0,1))else(Tm.z,0,t.err)):=by
 unfold jt;rw[oP hw];simp only[cv]
 by_cases he:t.err=0
 .rw[cO (by simp[he]),cS he];obtain⟨j,hn⟩:=Tm.fQ he;simp only[c6]
  by_cases f:steps<0
  .rw[cS ((kv _ _).2 f),cS trivial,cO (λh=>absurd h.1 VW)];rfl
  .rw[cO (by rw[kv];exact f)]
   by_cases i:65536<steps
   .rw[cS ((fy _ _).2 i),cS trivial,cO (λh=>absurd h.2.1 VW)];rfl
   .rw[cO (by rw[fy];exact i),LF j VW];simp only[cv]
    by_cases a:t.aiA 536870912=true
    .have c:oF (t.aiA 536870912)=false:=by rw[a];rfl
     rw[cO (by rw[c];decide),cS ⟨VW,VW,a⟩];have b:=Sm.start he a;obtain⟨p,nh,a1,a2,a3⟩:=XL (M:=536870912) VW FU t [] (by rw[dY];omega) b;rw[a1];simp only[cN];have d:At (nh++[HC.eK (eB.mk (some p) 0)]) nh.length t 0:=⟨p,by unfold HC.dR;simp,a3.app⟩;obtain⟨o,k,l⟩:=N3 nh.length steps VW steps.toNat 0 t _ VW VW d (by simpa using b) hn;have n:=GP (m:=FU) (by rw[dY];omega) k;rw[n];exact l
    .have c:oF (t.aiA 536870912)=true:=by simp[a]
     rw[cS c,cO (λh=>a h.2.2)];rfl
 .rw[cS (by simp[he]),cO he];rfl
mutual
def Fm.aiw:Fm->Nat
 |.mk _ _ ts l=>1+db Tm.aiw ts+Fm.mW l
def Fm.mW:List Fm->Nat
 |[]=>0|t::l=>t.aiw+Fm.mW l
end
def Fm.qW(l:List Fm):Fm.mW l=db Fm.aiw l:=by
 induction l with
 |nil=>rfl|cons t l ih=>simp[Fm.mW,db,ih]
theorem Fm.cQ(k:Int)(s:Ty)(ts:List Tm)(l:List Fm):(Fm.mk k s ts l).aiw=1+db Tm.aiw ts+db Fm.aiw l:=by rw[Fm.aiw,Fm.qW]
def Fm.dr(t:Fm):1<=t.aiw:=by cases t;rw[Fm.aiw];omega
def Fm.ek(l:List Fm):l.length<=db Fm.aiw l:=fR _ _ λt _=>t.dr
mutual
def Fm.wt:Fm->Nat
 |.mk _ s ts l=>1+s.aiw+db Tm.wt ts+Fm.Qf l
def Fm.Qf:List Fm->Nat
 |[]=>0|t::l=>t.wt+Fm.Qf l
end
def Fm.CP(l:List Fm):Fm.Qf l=db Fm.wt l:=by
 induction l with
 |nil=>rfl|cons t l ih=>simp[Fm.Qf,db,ih]
theorem Fm.ee(k:Int)(s:Ty)(ts:List Tm)(l:List Fm):(Fm.mk k s ts l).wt=1+s.aiw+db Tm.wt ts+db Fm.wt l:=by rw[Fm.wt,Fm.CP]
def Fm.gJ(t:Fm):1<=t.wt:=by cases t;rw[Fm.wt];omega
def Fm.mY(l:List Fm):l.length<=db Fm.wt l:=fR _ _ λt _=>t.gJ
def Fm.ind{p:Fm->Prop}(h:∀k s ts l,(∀t∈l,p t)->p (.mk k s ts l))(t:Fm):p t:=by
 have:∀n (t:Fm),t.aiw<=n->p t:=by
  intro n
  induction n with
  |zero=>intro t a;have:=t.dr;omega
  |succ n ih=>
   intro t a;cases t with
   |mk k s ts l=>
    rw[Fm.cQ] at a;exact h k s ts l λu hu=>ih u (by have:=di Fm.aiw hu;omega)
 exact this _ t (gV _)
def Fm.gM(t:Fm):t.aiw<=t.wt:=by
 induction t using Fm.ind with
 |h k s ts l ih=>rw[Fm.cQ,Fm.ee];have:=jy ih;have:=jy (f:=Tm.aiw) (g:=Tm.wt) (l:=ts) λx _=>x.gM;omega
def jB(k:Int):Bool:=decide (k=4\/k=5\/k=6\/k=7)
def qB(k:Int):Int:=if jB k then 1 else 0
def Cl(k:Int):0<=qB k/\qB k<=1:=by unfold qB;split<;>omega
def k4(k:Int):j_ k=some (jB k):=by
 unfold j_ jB
 congr 1
 rw[CY];simp
def oT(f:Fm):mj f=some (qB f.aiu):=by
 unfold mj qB;rw[k4];simp only[cv]
 split<;>rfl
def Fm.node(k:Int)(s:Ty)(a n:Nat):Bool:=
 if k=1 then s.qQ&&decide (a=2)&&decide (n=0)
 else if k=2\/k=3 then s.qQ&&decide (a=0)&&decide (n=2)
 else jB k&&decide (s.err=0)&&decide (a=0)&&decide (n=1)
mutual
def Fm.ok:Fm->Bool
 |.mk k s ts l=>Fm.node k s ts.length l.length&&ts.all Tm.ok&&Fm.J6 l
def Fm.J6:List Fm->Bool
 |[]=>true|t::l=>t.ok&&Fm.J6 l
end
def Fm.zm(l:List Fm):Fm.J6 l=l.all Fm.ok:=by
 induction l with
 |nil=>rfl|cons t l ih=>simp[Fm.J6,ih]
theorem Fm.fX(k:Int)(s:Ty)(ts:List Tm)(l:List Fm):(Fm.mk k s ts l).ok=(Fm.node k s ts.length l.length&&ts.all Tm.ok&&l.all Fm.ok):=by rw[Fm.ok,Fm.zm]
def Fm.err(t:Fm):Int:=if t.ok then(if 4096<t.aiw then 4 else 0)else 2
def fH{α:Type}{l:List α}:(l.length:Int)=0↔l=[]:=by cases l<;>simp;omega
def iH{α:Type}{l:List α}(h:(l.length:Int)=1):∃a,l=[a]:=by
 match l,h with
 |[a],_=>exact⟨a,rfl⟩|[],h=>simp at h
 |_::_::_,h=>simp at h;omega
def pM{α:Type}{l:List α}(h:(l.length:Int)=2):∃a b,l=[a,b]:=by
 match l,h with
 |[a,b],_=>exact⟨a,b,rfl⟩|[],h=>simp at h
 |[_],h=>simp at h
 |_::_::_::_,h=>simp at h;omega
def xi{t:Tm}(h:t.wt<=1000000000):jW FU t=some t.ok:=ym FU t (by rw[dY];exact h) h
def yN:∀(n:Nat) (t:Fm),t.wt<=n->t.wt<=1000000000->ld n t=some t.ok:=by
 intro n
 induction n with
 |zero=>intro t h;have:=t.gJ;omega
 |succ n ih=>
  intro t h o;cases t with
  |mk k s ts l=>
   rw[Fm.ee] at h o;rw[ld,Fm.fX];simp only[Fm.dh,Fm.dn,Fm.gf,Fm.dU,c6,kZ,rD,eT,eo,vB,k4,lJ (t:=s) VW,cv,dA,fh]
   by_cases r:k=1
   .simp only[r,if_true,Fm.node]
    by_cases j:(l.length:Int)=0
    .have:=fH.1 j;subst this;cases i:s.qQ with
     |false=>simp|true=>
      by_cases d:(ts.length:Int)=2
      .obtain⟨a,b,rfl⟩:=pM d;simp only[db] at h o;simp only[d,if_true,im,lY,cv];rw[xi (t:=a) VW,xi (t:=b) VW];cases c:a.ok<;>cases f:b.ok<;>simp[c,f]
      .have c:¬ts.length=2:=VW
       simp[d,c]
    .have i:¬l.length=0:=VW
     simp[j,i]
   .simp only[r,lS,Fm.node]
    by_cases j:k=2\/k=3
    .simp only[j,if_true]
     by_cases i:(ts.length:Int)=0
     .have:=fH.1 i;subst this;cases d:s.qQ with
      |false=>simp|true=>
       by_cases c:(l.length:Int)=2
       .obtain⟨a,b,rfl⟩:=pM c;simp only[db] at h o;simp only[c,if_true,im,lY,cv];rw[ih a VW VW,ih b VW VW];cases f:a.ok<;>cases q:b.ok<;>simp[f,q]
       .have f:¬l.length=2:=VW
        simp[c,f]
     .have d:¬ts.length=0:=VW
      simp[i,d]
    .simp only[j,lS];cases i:jB k with
     |false=>simp|true=>
      by_cases d:(ts.length:Int)=0
      .have:=fH.1 d;subst this
       by_cases c:s.err=0
       .by_cases f:(l.length:Int)=1
        .obtain⟨a,rfl⟩:=iH f;simp only[db] at h o;simp only[c,f,if_true,im,cv];rw[ih a VW VW];simp
        .have q:¬l.length=1:=VW
         simp[c,f,q]
       .simp[c]
      .have c:¬ts.length=0:=VW
       simp[d,c]
def rk:∀(n:Nat) (t:Fm),t.aiw<=n->t.aiw<=1000000000->lj n t=some (t.aiw:Int):=by
 intro n
 induction n with
 |zero=>intro t h;have:=t.dr;omega
 |succ n ih=>
  intro t h b;cases t with
  |mk k s ts l=>
   rw[Fm.cQ] at h b;have f:=Fm.ek l;have c:=Tm.ek ts;rw[lj];simp only[Fm.dh,Fm.gf,c6,c8 (l:=l) VW,c8 (l:=ts) VW,cY]
   have d:=pc (ρ:=Int) (F:=λ(j:Int) (x:Tm) (v:Int)=>cM (eQ FU x) λy=>some (dV.next (dF .i64 v y))) Tm.aiw ts 0 1 VW (by
    intro j x v a;have:=di Tm.aiw a;rw[nb FU x (by rw[dY];omega) VW]
    rfl)
   have k2:=pc (ρ:=Int) (F:=λ(j:Int) (x:Fm) (v:Int)=>cM (lj n x) λy=>some (dV.next (dF .i64 v y))) Fm.aiw l 0 (1+db Tm.aiw ts) VW (by
    intro j x v a;have:=di Fm.aiw a;rw[ih x VW VW]
    rfl)
   rw[show(1:Int)=((1:Nat):Int)from rfl,d];simp only[cv,dk];rw[k2];simp[Fm.cQ]
def kG{t:Fm}(h:t.wt<=1000000000):iJ t=some t.err:=by
 have:=t.gM;unfold iJ Fm.err;rw[yN FU t (by rw[dY];exact h) h,rk FU t (by rw[dY];omega) VW];cases t.ok with
 |false=>simp|true=>by_cases a:4096<t.aiw<;>simp[a]<;>omega
def Gl(f:Fm)(h:f.wt<=1000000000):qD f=some (Fm.node f.aiu f.cT f.dc.length f.aiv.length):=by
 cases f with
 |mk k s ts l=>
  rw[Fm.ee] at h;show qD (.mk k s ts l)=some (Fm.node k s ts.length l.length)
  have d:(dj (ts.length:Int) 2&&dj (l.length:Int) 0)=(decide (ts.length=2)&&decide (l.length=0)):=by
   rw[CY];simp only[fK,eT,oq];omega
  have i:(dj (ts.length:Int) 0&&dj (l.length:Int) 2)=(decide (ts.length=0)&&decide (l.length=2)):=by
   rw[CY];simp only[fK,eT,oq];omega
  have j:(dj (ts.length:Int) 0&&dj (l.length:Int) 1)=(decide (ts.length=0)&&decide (l.length=1)):=by
   rw[CY];simp only[fK,eT,oq];omega
  unfold qD;simp only[Fm.dh,Fm.dn,Fm.gf,Fm.dU,c6,kZ,qc,rD,eT,eo,kM (t:=s) VW,q8,cv,cN,c9,d,i,j];unfold Fm.node
  by_cases b:k=1
  .cases c:s.qQ<;>simp[b]
  .by_cases c:k=2\/k=3
   .cases a:s.qQ<;>simp[b,c]
   .by_cases a:k=4\/k=5\/k=6\/k=7
    .have n:jB k=true:=by simp[jB,a]
     by_cases o:s.err=0<;>simp[b,c,a,o,n]
    .have n:jB k=false:=by simp[jB,a]
     simp[b,c,a,n]
def zi:∀(n:Nat) (t:Fm),t.wt<=n->t.wt<=1000000000->jH n t=some (if t.ok then((t.aiw:Int),true)else(0,false)):=by
 intro n
 induction n with
 |zero=>intro t h;have:=t.gJ;omega
 |succ n ih=>
  intro t h o;cases t with
  |mk k s ts l=>
   have q:=Gl (.mk k s ts l) o;rw[Fm.ee] at h o;have y:=Fm.mY l;have r:=Tm.mY ts;have hn:db Tm.aiw ts<=db Tm.wt ts:=jy λx _=>x.gM;have u:db Fm.aiw l<=db Fm.wt l:=jy λx _=>x.gM
   have w:dH (λ(f:Int) (a:Tm) (b:Int)=>cW (jv FU a) λc d=>if d then some (dV.next (dF .i64 b c))else some (dV.ret ((0:Int),false))) ts 0 1=if ts.all Tm.ok then some (.inl ((1+db Tm.aiw ts:Nat):Int))else some (.inr (0,false)):=by
    refine uw Tm.aiw Tm.ok _ ts 0 1 VW ?_;intro j x v i;have:=di Tm.wt i;rw[vt FU x (by rw[dY];omega) VW];cases x.ok<;>simp
   have k2:dH (λ(f:Int) (a:Fm) (b:Int)=>cW (jH n a) λc d=>if d then some (dV.next (dF .i64 b c))else some (dV.ret ((0:Int),false))) l 0 ((1+db Tm.aiw ts:Nat):Int)=if l.all Fm.ok then some (.inl ((1+db Tm.aiw ts+db Fm.aiw l:Nat):Int))else some (.inr (0,false)):=by
    refine uw Fm.aiw Fm.ok _ l 0 _ VW ?_;intro j x v i;have:=di Fm.wt i;rw[ih x VW VW];cases x.ok<;>simp
   rw[jH,q];simp only[Fm.dh,Fm.dn,Fm.gf,Fm.dU,c6,c8 (l:=l) VW,c8 (l:=ts) VW,cY,cv,w,Fm.fX,Fm.cQ];cases A:Fm.node k s ts.length l.length with
   |false=>simp|true=>
    cases B:ts.all Tm.ok with
    |false=>simp|true=>
     simp only[if_true,cv,dk,k2,zj];cases C:l.all Fm.ok<;>simp
def oY{t:Fm}(h:t.wt<=1000000000):hJ t=some (if t.err=0 then(t.aiw:Int)else 0,t.err):=by
 unfold hJ Fm.err;rw[zi FU t (by rw[dY];exact h) h];cases t.ok with
 |false=>simp|true=>
  by_cases a:4096<t.aiw
  .simp[a];omega
  .simp[a];omega
def j9{t:Fm}(h:t.wt<=1000000000):ju t=some t.err:=by
 unfold ju;rw[oY h];rfl
def Je:∀(n:Nat) (t:Fm),t.wt<=n->t.wt<=1000000000->h9 n t=some t:=by
 intro n
 induction n with
 |zero=>intro t h;have:=t.gJ;omega
 |succ n ih=>
  intro t h c;cases t with
  |mk k s ts l=>
   rw[Fm.ee] at h c;have f:=Fm.mY l;have d:=Tm.mY ts;rw[h9];simp only[Fm.dh,Fm.dn,Fm.gf,Fm.dU,c6,c8 (l:=l) VW,c8 (l:=ts) VW,cY,gX (t:=s) VW,cv];rw[gE id ts 0 [] ado]
   .simp only[cv,dk];rw[gE id l 0 [] ado]
    .simp
    .intro j x v a b;have:=di Fm.wt a;rw[ih x VW VW];simp[dS (l:=v) (m:=[x]) (by simpa using b)]
   .intro j x v a b;have:=di Tm.wt a;rw[mq (t:=x) VW];simp[dS (l:=v) (m:=[x]) (by simpa using b)]
def jl{t:Fm}(h:t.wt<=1000000000):h9 FU t=some t:=Je FU t (by rw[dY];exact h) h
mutual
def Fm.has:Fm->Bool
 |.mk k _ _ l=>if k=1 then false else if k=2 then Fm.Lw l else if k=5 then true else Fm.Fy l
def Fm.Lw:List Fm->Bool
 |[]=>false|f::l=>f.has||Fm.Lw l
def Fm.Fy:List Fm->Bool
 |[]=>false|[f]=>f.has|_::f::l=>Fm.Fy (f::l)
end
def QJ(k:Int)(a b:Ty):Ty×Bool×Int:=if(Ty.mk k [a,b]).err≠0 then(.mk 0 [],false,(Ty.mk k [a,b]).err)else(.mk k [a,b],true,0)
def afw(first last:Ty×Bool×Int):Ty×Bool×Int:=
 if first.2.2≠0\/first.2.1=false then(last.1,last.2.1,first.2.2)else if last.2.1 then QJ 3 first.1 last.1 else(first.1,true,0)
def afl(first last:Ty×Bool×Int):Ty×Bool×Int:=
 if first.2.2≠0\/first.2.1=false then(last.1,true,first.2.2)else QJ 4 first.1 last.1
def adj(k:Int)(s:Ty)(first last:Ty×Bool×Int):Ty×Bool×Int:=
 if last.2.2≠0 then(.mk 0 [],false,last.2.2)
 else if k=2 then afw first last
 else if k=5 then(if last.2.1 then QJ 3 s last.1 else(s,true,0))
 else if last.2.1 then(if k=3 then afl first last else if k=4 then QJ 4 s last.1 else(last.1,true,0))
 else(.mk 0 [],false,0)
def abH:Ty×Bool×Int:=(.mk 0 [],false,0)
mutual
def Fm.ct:Fm->Ty×Bool×Int
 |.mk k s _ l=>if k=1 then abH else adj k s (Fm.aey l) (Fm.ZK l)
def Fm.aey:List Fm->Ty×Bool×Int
 |[]=>abH|f::_=>f.ct
def Fm.ZK:List Fm->Ty×Bool×Int
 |[]=>abH|[f]=>f.ct|_::f::l=>Fm.ZK (f::l)
end
def Fm.QM(k:Int)(s:Ty)(ts:List Tm)(a b:Fm):(Fm.mk k s ts [a,b]).has=if k=1 then false else if k=2 then a.has||b.has else if k=5 then true else b.has:=by
 rw[Fm.has];simp[Fm.Lw,Fm.Fy]
def Fm.Rh(k:Int)(s:Ty)(ts:List Tm)(a:Fm):(Fm.mk k s ts [a]).has=if k=1 then false else if k=5 then true else a.has:=by
 rw[Fm.has];simp only[Fm.Lw,Fm.Fy,Bool.or_false]
 by_cases b:k=2
 .subst b;simp
 .simp[b]
def Fm.has_eq(s:Ty)(ts:List Tm)(l:List Fm):(Fm.mk 1 s ts l).has=false:=by rw[Fm.has];simp
def Fm.nW{p:Fm->Prop}(q:∀a b:Tm,a.ok=true->b.ok=true->p (.mk 1 (.mk 0 []) [a,b] []))
  (r:∀(k:Int) (a b:Fm),k=2\/k=3->a.ok=true->b.ok=true->p a->p b->p (.mk k (.mk 0 []) [] [a,b]))
  (t:∀(k:Int) (s:Ty) (a:Fm),k=4\/k=5\/k=6\/k=7->s.err=0->a.ok=true->p a->p (.mk k s [] [a])) (f:Fm) (j:f.ok=true):p f:=by
 induction f using Fm.ind with
 |h k s ts l ih=>
  rw[Fm.fX] at j;simp only[fK,j3] at j;obtain⟨⟨hn,d⟩,c⟩:=j;unfold Fm.node at hn
  split at hn
  .rename_i n;subst n;simp only[fK,oq,Ty.lx] at hn;obtain⟨⟨rfl,i⟩,o⟩:=hn;obtain⟨a,b,rfl⟩:=pM (l:=ts) VW;have:=X9.1 o;subst this;exact q a b (d a acZ) (d b acZ)
  .split at hn
   .rename_i n;simp only[fK,oq,Ty.lx] at hn;obtain⟨⟨rfl,i⟩,o⟩:=hn;obtain⟨a,b,rfl⟩:=pM (l:=l) VW;have:=X9.1 i;subst this;exact r k a b n (c a acZ) (c b acZ) (ih a acZ (c a acZ)) (ih b acZ (c b acZ))
   .simp only[fK,oq] at hn;obtain⟨⟨⟨u,hs⟩,i⟩,o⟩:=hn;obtain⟨a,rfl⟩:=iH (l:=l) VW;have:=X9.1 i;subst this;refine t k s a ?_ hs (c a acZ) (ih a acZ (c a acZ));simpa[jB] using u
theorem Ty.kI{t:Ty}(h:t.err=0):t.ok=true/\t.aiw<=64:=by
 unfold Ty.err at h
 split at h
 .split at h
  .omega
  .exact⟨‹_›,VW⟩
 .omega
theorem Ty.xP{t:Ty}(h:t.ok=true)(a:t.aiw<=64):t.err=0:=by unfold Ty.err;rw[cS h,cO VW]
def Ty.ok_two{k:Int}(c:k=3\/k=4){a b:Ty}(d:a.ok=true)(f:b.ok=true):(Ty.mk k [a,b]).ok=true:=by
 rw[Ty.fX]
 have:¬(k=1\/k=2\/k=5):=VW
 simp[Ty.want,c,this,d,f]
theorem Ty.zA(k:Int)(a b:Ty):(Ty.mk k [a,b]).aiw=1+a.aiw+b.aiw:=by rw[Ty.cQ];simp[db];omega
theorem Fm.fQ{f:Fm}(h:f.err=0):f.ok=true/\f.aiw<=4096:=by
 unfold Fm.err at h
 split at h
 .split at h
  .omega
  .exact⟨‹_›,VW⟩
 .omega
def Fm.cty(f:Fm):Ty×Int:=if f.err≠0 then(.mk 0 [],f.err)else if f.ct.2.2≠0 then(.mk 0 [],f.ct.2.2)else(if f.has then f.ct.1 else .mk 5 [],0)
def CS:∀(n:Nat) (f:Fm),f.aiw<=n->f.ok=true->iM n f=some f.has:=by
 intro n
 induction n with
 |zero=>intro f h;have:=f.dr;omega
 |succ n ih=>
  intro f h t;refine Fm.nW (p:=λf=>f.aiw<=n+1->iM (n+1) f=some f.has) ?_ ?_ ?_ f t h
  .intro a b _ _ _;rw[iM,Fm.has_eq];rfl
  .intro k a b u i v _ _ hn;rw[Fm.cQ] at hn;simp only[db] at hn;have d:=ih a VW i;have j:=ih b VW v
   have c:k≠1:=VW
   have l:k≠5:=VW
   have o:dg [a,b] (ed .i64 (dq [a,b]) 1)=some b:=by
    rw[et acZ acZ];rfl
   have w:dg [a,b] 0=some a:=rfl;have x:dg [a,b] 1=some b:=rfl;rw[iM,Fm.QM,cO c];simp only[Fm.dh,Fm.dn,eT,c,l,lS,o,w,x,cv,j,d,c6]
   by_cases r:k=2
   .simp only[r,if_true];cases a.has<;>simp
   .simp[r]
  .intro k s a u hs i _ hn;rw[Fm.cQ] at hn;simp only[db] at hn;have d:=ih a VW i
   have c:k≠1:=VW
   have q:k≠2:=VW
   have o:dg [a] (ed .i64 (dq [a]) 1)=some a:=by
    rw[et acZ acZ];rfl
   rw[iM,Fm.Rh,cO c];simp only[Fm.dh,Fm.dn,eT,c,q,lS,o,cv,d]
   by_cases y:k=5<;>simp[y]
def DH(f:Fm)(h:f.wt<=1000000000):oe f=some (if f.err≠0 then(false,f.err)else(f.has,0)):=by
 unfold oe;rw[kG h];simp only[cv,c9]
 by_cases he:f.err=0
 .rw[CS FU f (by rw[dY];have:=f.gM;omega) (Fm.fQ he).1];simp[he]
 .simp[he]
theorem Fm.xP{f:Fm}(h:f.ok=true)(a:f.aiw<=4096):f.err=0:=by unfold Fm.err;rw[cS h,cO VW]
def Ty.nat:Ty:=.mk 1 []
def Ty.lW:Ty:=.mk 2 []
def Ty.unit:Ty:=.mk 5 []
def Ty.fn(a b:Ty):Ty:=.mk 4 [a,b]
def Ty.pr(a b:Ty):Ty:=.mk 3 [a,b]
def Ty.z:Ty:=.mk 0 []
inductive dG:List Ty->Tm->Ty->Prop
 |var {g t} (i:Nat):i<g.length->g[g.length-1-i]?=some t->dG g (.mk 1 i .z []) t|lam {g s b t}:(Ty.fn s t).err=0->dG (g++[s]) b t->dG g (.mk 2 0 s [b]) (.fn s t)|app {g f a s t}:dG g f (.fn s t)->dG g a s->dG g (.mk 3 0 .z [f,a]) t|zero {g}:dG g (.mk 4 0 .z []) .nat|succ {g a}:dG g a .nat->dG g (.mk 5 0 .z [a]) .nat|tI {g t b s n}:t.err=0->dG g b t->dG g s (.fn .nat (.fn t t))->dG g n .nat->dG g (.mk 6 0 t [b,s,n]) t|nil {g}:dG g (.mk 7 0 .z []) .lW|cons {g a b}:dG g a .nat->dG g b .lW->dG g (.mk 8 0 .z [a,b]) .lW|fold {g t b s n}:t.err=0->dG g b t->dG g s (.fn .nat (.fn .lW (.fn t t)))->dG g n .lW->dG g (.mk 9 0 t [b,s,n]) t|pair {g a b s t}:(Ty.pr s t).err=0->dG g a s->dG g b t->dG g (.mk 10 0 .z [a,b]) (.pr s t)|fst {g a s t}:dG g a (.pr s t)->dG g (.mk 11 0 .z [a]) s|snd {g a s t}:dG g a (.pr s t)->dG g (.mk 12 0 .z [a]) t|unit {g}:dG g (.mk 13 0 .z []) .unit
theorem Ty.pP:Ty.z.qQ=true:=rfl
def Ty.rZ{k:Int}(c:k=3\/k=4){a b:Ty}(h:(Ty.mk k [a,b]).err=0):a.err=0/\b.err=0:=by grind[Ty.kI,Ty.fX,Ty.zA,Ty.xP]
def dG.ok{g:List Ty}{x:Tm}{t:Ty}(h:dG g x t):x.ok=true:=by
 induction h with
 |var i c f=>grind[Tm.fX,Tm.node,gG,jq,Ty.pP]|lam c _ ih=>have:=(Ty.rZ (.inr rfl) c).1;simp[Tm.fX,Tm.node,gG,jq,this,ih]
 |app _ _ a b=>simp[Tm.fX,Tm.node,gG,jq,Ty.pP,a,b]|zero=>simp[Tm.fX,Tm.node,gG,jq,Ty.pP]|succ _ ih=>simp[Tm.fX,Tm.node,gG,jq,Ty.pP,ih]|tI c _ _ _ a b d=>grind[Tm.fX,Tm.node,gG,jq]|nil=>simp[Tm.fX,Tm.node,gG,jq,Ty.pP]|cons _ _ a b=>simp[Tm.fX,Tm.node,gG,jq,Ty.pP,a,b]|fold c _ _ _ a b d=>grind[Tm.fX,Tm.node,gG,jq]|pair _ _ _ a b=>simp[Tm.fX,Tm.node,gG,jq,Ty.pP,a,b]|fst _ ih=>simp[Tm.fX,Tm.node,gG,jq,Ty.pP,ih]|snd _ ih=>simp[Tm.fX,Tm.node,gG,jq,Ty.pP,ih]|unit=>simp[Tm.fX,Tm.node,gG,jq,Ty.pP]
def Tm.lG(t:Tm):∀{m n:Int},m<=n->t.aiA m=true->t.aiA n=true:=by
 induction t using Tm.ind with
 |h k i s l ih=>grind[Tm.ez]
def dG.aiA{g:List Ty}{x:Tm}{t:Ty}(h:dG g x t):∀m:Int,((g.length+x.aiw:Nat):Int)<=m->x.aiA m=true:=by
 induction h with
 |var i d f=>grind[Tm.cQ,db,Tm.ez]|lam _ _ ih=>grind[Tm.cQ,db,Tm.ez]|zero|nil|unit=>grind[Tm.cQ,db,Tm.ez]|succ _ ih|fst _ ih|snd _ ih=>grind[Tm.cQ,db,Tm.ez]|app _ _ a b|cons _ _ a b|pair _ _ _ a b=>grind[Tm.cQ,db,Tm.ez]|tI _ _ _ _ a b c|fold _ _ _ _ a b c=>grind[Tm.cQ,db,Tm.ez]
def FN{α:Type}{f g:α->Nat}{c:Nat}{l:List α}(h:∀x∈l,f x<=c*g x):db f l<=c*db g l:=by
 induction l with
 |nil=>simp[db]|cons x l ih=>simp only[db,Vk];have:=h x acZ;have:=ih λy hy=>h y (by simp[hy]);omega
def Tm.hI(t:Tm)(h:t.ok=true):t.wt<=65*t.aiw:=by
 induction t using Tm.ind with
 |h k i s l ih=>
  rw[Tm.fX] at h;simp only[fK,j3] at h;rw[Tm.ee,Tm.cQ,Vk];have c:=FN λx b=>ih x b (h.2 x b)
  have d:s.aiw<=64:=by
   have:=h.1;simp only[Tm.node,fK] at this;have a:=this.2
   split at a
   .simp only[oq] at a;exact(Ty.kI a).2
   .grind[Ty.lx,Ty.cQ,db]
  omega
def Fm.hI(f:Fm)(h:f.ok=true):f.wt<=65*f.aiw:=by
 induction f using Fm.ind with
 |h k s ts l ih=>
  rw[Fm.fX] at h;simp only[fK,j3] at h;rw[Fm.ee,Fm.cQ,Vk,Vk];have b:=FN λx a=>ih x a (h.2 x a);have d:=FN (f:=Tm.wt) (g:=Tm.aiw) (c:=65) (l:=ts) λx a=>x.hI (h.1.2 x a)
  have i:s.aiw<=64:=by
   have:=h.1.1;unfold Fm.node at this
   split at this
   .grind[Ty.lx,Ty.cQ,db]
   .split at this
    .grind[Ty.lx,Ty.cQ,db]
    .simp only[fK,oq] at this;exact(Ty.kI this.1.1.2).2
  omega
structure dd.wf (d:dd):Prop where
 len:d.l.length<=1000
 lo:0<=d.rG
 hi:d.rG<=d.l.length
def Sv(x n:Int)(c:1<=n)(d:n<=1000000000):∃y,FO x n=some y/\0<=y/\y<n:=by
 unfold FO;simp only[UL (b:=n) VW];refine⟨_,rfl,?_⟩;unfold wq
 have e:(x.tmod n).natAbs<n.natAbs:=by
  rw[Int.natAbs_tmod];exact Zk _ VW
 rw[dP VW VW]
 have a:0<=x.tmod n+n:=VW
 exact⟨Int.tmod_nonneg _ a,afY _ VW⟩
def jK(d:dd)(a:d.wf)(n:Int)(c:1<=n)(f:n<=1000000000):∃x b,eu d n=some (x,b)/\0<=x/\x<n/\b.wf:=by
 unfold eu;simp only[kZ,rD,kv,gI,eo]
 by_cases h:n<1\/(d.l.length:Int)<=d.rG
 .grind
 .rw[cO h];obtain⟨y,hy,_⟩:=J7 (l:=d.l) a.lo VW;obtain⟨z,i,j,k⟩:=Sv y n c f;rw[hy];simp only[cv,i];have:=a.len;have:=a.lo;rw[dP VW VW];exact⟨z,_,rfl,j,k,⟨a.len,by show 0<=d.rG+1;omega,by show d.rG+1<=(d.l.length:Int);omega⟩⟩
def eG:gB=some .nat:=rfl
def fE:lC=some .lW:=rfl
def HM:ux=some .unit:=rfl
def xb{a b:Ty}(c:a.aiw<=1000000000)(d:b.aiw<=1000000000):tT a b=some (.pr a b):=by
 unfold tT;rw[gX c,gX d];rfl
def hQ{a b:Ty}(c:a.aiw<=1000000000)(d:b.aiw<=1000000000):ka a b=some (.fn a b):=by
 unfold ka;rw[gX c,gX d];rfl
def Ty.Up:Ty.nat.ok=true:=by unfold Ty.nat;rw[Ty.fX];rfl
def Ty.T1:Ty.lW.ok=true:=by unfold Ty.lW;rw[Ty.fX];rfl
def Ty.QS:Ty.unit.ok=true:=by unfold Ty.unit;rw[Ty.fX];rfl
def Ty.gi:Ty.nat.aiw=1:=by unfold Ty.nat;rw[Ty.cQ];rfl
def Ty.oh:Ty.lW.aiw=1:=by unfold Ty.lW;rw[Ty.cQ];rfl
def Ty.GS:Ty.unit.aiw=1:=by unfold Ty.unit;rw[Ty.cQ];rfl
def Ty.iN(a b:Ty):(Ty.fn a b).aiw=1+a.aiw+b.aiw:=Ty.zA _ _ _
def Ty.uL(a b:Ty):(Ty.pr a b).aiw=1+a.aiw+b.aiw:=Ty.zA _ _ _
theorem VJ(k:Nat)(h:k<=4):1<=2^k/\2^k<=16:=by
 have:k=0\/k=1\/k=2\/k=3\/k=4:=VW
 grind
def PW:∀(n k:Nat) (d:dd),k<n->k<=4->d.wf->∃t i,iy n d (k:Int)=some (t,i)/\t.ok=true/\t.aiw+1<=2^(k+1)/\i.wf:=by
 intro n
 induction n with
 |zero=>intro k d h;omega|succ n ih=>
  intro k d A o v;obtain⟨x,d1,w,B,C,j⟩:=jK d v 7 VW VW;have D:=VJ k o
  have F:(2:Nat)^(k+1)=2*2^k:=by rw[Nat.pow_succ];omega
  have c:=λi (q:dd.wf i)=>(⟨Ty.nat,i,rfl,Ty.Up,by rw[Ty.gi];omega,q⟩:∃t l,some (Ty.nat,i)=some (t,l)/\t.ok=true/\t.aiw+1<=2^(k+1)/\l.wf);rw[iy];simp only[c6,w,cN,eG,fE,HM,cv,kZ,rD,eT,fy]
  split
  .exact c d1 j
  split
  .exact⟨.lW,d1,rfl,Ty.T1,by rw[Ty.oh];omega,j⟩
  split
  .exact⟨.unit,d1,rfl,Ty.QS,by rw[Ty.GS];omega,j⟩
  have two:0<(k:Int)->∃a b d2 d3,iy n d1 (ed .i64 (k:Int) 1)=some (a,d2)/\iy n d2 (ed .i64 (k:Int) 1)=some (b,d3)/\a.ok=true/\b.ok=true/\a.aiw+1<=2^k/\b.aiw+1<=2^k/\d3.wf:=by
   intro f;obtain⟨m,rfl⟩:∃m,k=m+1:=⟨k-1,VW⟩
   grind[et]
  split
  .split
   .rename_i f;obtain⟨a,b,d2,d3,a1,r,a2,s,a3,y,u⟩:=two f;rw[a1];simp only[cN];rw[r];simp only[cN];rw[xb VW VW];exact⟨_,_,rfl,Ty.ok_two (.inl rfl) a2 s,by rw[Ty.uL];omega,u⟩
   .exact c d1 j
  split
  .split
   .rename_i f;obtain⟨a,b,d2,d3,a1,r,a2,s,a3,y,u⟩:=two f;rw[a1];simp only[cN];rw[r];simp only[cN];rw[hQ VW VW];exact⟨_,_,rfl,Ty.ok_two (.inr rfl) a2 s,by rw[Ty.iN];omega,u⟩
   .exact c d1 j
  .exact c d1 j
def yG(d:dd)(b:d.wf)(k:Nat)(c:k<=4):∃t a,iy FU d (k:Int)=some (t,a)/\t.err=0/\t.aiw+1<=2^(k+1)/\a.wf:=by
 obtain⟨t,a,f,h,i,j⟩:=PW FU k d (by rw[dY];omega) c b
 grind[VJ,Ty.xP]
def OL(g:List Ty)(t:Ty)(hg:g.length<=1000000)(hn:∀s∈g,s.aiw<=1000000000):∃l,Bx g t=some l/\l.length<=g.length/\∀v∈l,∃i:Nat,v=i/\i<g.length/\g[g.length-1-i]?=some t:=by
 unfold Bx;simp only[c8 (l:=g) VW,cY,c6]
 have key:∀(l:List Ty) (i:Nat) (v:List Int),i+l.length=g.length->v.length<=i->(∀x∈v,∃j:Nat,x=j/\j<g.length/\g[g.length-1-j]?=some t)->∃a,dH (ρ:=List Int) (λ(j:Int) (u:Ty) (v:List Int)=>cM (dg g (ed .i64 (ed .i64 (dq g) 1) j)) λx=>cM (ey FU x t) λy=>if y then fa (eO v [j]) (some (dV.next (fu v [j])))else some (dV.next v)) l i v=some (.inl a)/\a.length<=g.length/\∀x∈a,∃j:Nat,x=j/\j<g.length/\g[g.length-1-j]?=some t:=by
  intro l
  induction l with
  |nil=>
   intro i v d k c;exact⟨v,rfl,by simp at d;omega,c⟩
  |cons y l ih=>
   intro i v d k c;simp only[kL] at d
   have b:g.length-1-i<g.length:=VW
   have n:dg g (ed .i64 (ed .i64 (dq g) 1) (i:Int))=some g[g.length-1-i]:=by grind[eo,et,gP]
   rw[dJ];simp only[n,cv,gY (hn _ (CC b))];cases hs:Ty.jE g[g.length-1-i] t with
   |false=>
    simp only[oo,lS,cv,dQ];exact ih (i+1) v VW VW c
   |true=>
    rw[Ty.jM] at hs;simp only[if_true,dS (l:=v) (m:=[(i:Int)]) ado,cY,cv,dQ,fj];refine ih (i+1) (v++[(i:Int)]) VW ado ?_;intro x f;rcases rl.1 f with h|h
    .exact c x h
    .rw[yy] at h;exact⟨i,h,VW,by rw[l9 b,hs]⟩
 obtain⟨a,o,q,r⟩:=key g 0 [] acZ acZ acZ;rw[o];exact⟨a,rfl,q,r⟩
def nG(g l:List Ty)(h:g.length+l.length<=1000000):lu g l=some (g++l):=by
 unfold lu;rw[dS ado,dS ado];simp
def Dm(n:Nat)(hn:n<=1000000):∃x,pZ (n:Int)=some x/\∀g,dG g x .nat/\x.aiw=n+1:=by
 unfold pZ;rw[oK 4 [] (by simp[db])];simp only[cv,c6]
 obtain⟨o,q,l⟩:=zE (ρ:=Tm) (F:=TC λ(h:Int) (i:Int) (v167:Int) (v168:Int) (j:List Ty) (k:List Tm)=>
   if lQ h 0 then some (dV.next (ed .i64 h 1,5,0,0,[],[Tm.mk i v167 (Ty.mk v168 j) k]))else some (dV.brk (h,i,v167,v168,j,k)))
  (λs=>0<=s.1/\s.1<=n/\(∀g,dG g (Tm.mk s.2.1 s.2.2.1 (Ty.mk s.2.2.2.1 s.2.2.2.2.1) s.2.2.2.2.2) .nat)/\(Tm.mk s.2.1 s.2.2.1 (Ty.mk s.2.2.2.1 s.2.2.2.2.1) s.2.2.2.2.2).aiw+s.1=n+1)
  (λs=>s.1.toNat)
  (λo=>match o with|.inl s=>(∀g,dG g (Tm.mk s.2.1 s.2.2.1 (Ty.mk s.2.2.2.1 s.2.2.2.2.1) s.2.2.2.2.2) .nat)/\(Tm.mk s.2.1 s.2.2.1 (Ty.mk s.2.2.2.1 s.2.2.2.2.1) s.2.2.2.2.2).aiw=n+1|.inr _=>False)
  (by
   rintro⟨a,b,c,d,e,f⟩ ⟨q,l,t,v⟩;simp only at q l t v
   by_cases u:0<a
   .left;refine⟨_,by simp only[yu,fy,u,if_true];rfl,⟨?_,?_,?_,?_⟩,?_⟩
    .rw[et VW VW];show 0<=a-1;omega
    .rw[et VW VW];show a-1<=n;omega
    .intro g;exact dG.succ (t g)
    all_goals grind[et,Tm.cQ,db]
   .right;left;refine⟨_,by simp only[yu,fy,u,lS];rfl,t,?_⟩
    have:a=0:=VW
    subst this
    simp only;omega)
  FU ((n:Int),4,0,0,[],[]) ⟨acZ,acZ,λg=>dG.zero,by rw[Tm.cQ];simp[db];omega⟩ (by rw[dY];show(n:Int).toNat<_;omega)
 simp only[Tm.dn,Tm.eW,Tm.dU,Ty.dn,Ty.dh,Tm.dh];rw[q];cases o with
 |inr r=>exact l.elim|inl s=>
  obtain⟨a,b,c,d,e,f⟩:=s;exact⟨_,rfl,λg=>⟨l.1 g,l.2⟩⟩
def zO(n:Int)(b:0<=n)(hn:n<=4000):∃x,ta n=some x/\∀g,dG g x .nat/\(x.aiw:Int)=n+1:=by
 obtain⟨k,rfl⟩:=acw b;obtain⟨x,c,a⟩:=Dm k VW;unfold ta tM;simp only[kv,gI];rw[cO VW,cO VW,c];exact⟨x,rfl,λg=>⟨(a g).1,by rw[(a g).2];simp⟩⟩
structure Qq (g:List Ty) (x:Tm) (t:Ty) (n:Nat):Prop where
 ty:dG g x t
 aiw:x.aiw<=n
def Qq.wt{g:List Ty}{x:Tm}{t:Ty}{n:Nat}(h:Qq g x t n):x.wt<=65*n:=by
 have:=x.hI h.ty.ok;have:=h.aiw;omega
theorem Qq.mono{g:List Ty}{x:Tm}{t:Ty}{n m:Nat}(h:Qq g x t n)(hm:n<=m):Qq g x t m:=⟨h.ty,AK h.aiw hm⟩
def JA{k:Int}{a:Tm}(b:a.wt<=100000000):eN k [a]=some (.mk k 0 .z [a]):=oK k [a] (by simp[db];omega)
def sG{k:Int}{a b:Tm}(c:a.wt<=100000000)(d:b.wt<=100000000):eN k [a,b]=some (.mk k 0 .z [a,b]):=oK k [a,b] (by simp[db];omega)
def F6{k:Int}:eN k []=some (.mk k 0 .z []):=oK k [] (by simp[db])
def AI{k:Int}{s:Ty}{a:Tm}(hs:s.aiw<=1000000000)(b:a.wt<=100000000):kN k s [a]=some (.mk k 0 s [a]):=Hp k s [a] hs (by simp[db];omega)
def CG{k:Int}{s:Ty}{a b c:Tm}(hs:s.aiw<=1000000000)(d:a.wt<=100000000)(f:b.wt<=100000000)(h:c.wt<=100000000):kN k s [a,b,c]=some (.mk k 0 s [a,b,c]):=
 Hp k s [a,b,c] hs (by simp[db];omega)
def La{f a b:Tm}(c:f.wt<=10000000)(d:a.wt<=10000000)(h:b.wt<=10000000):AN f [a,b]=some (.mk 3 0 .z [.mk 3 0 .z [f,a],b]):=by
 have i:(Tm.mk 3 0 .z [f,a]).wt<=30000000:=by rw[Tm.ee];have:Ty.z.aiw=1:=rfl;simp[db,this];omega
 unfold AN
 simp only[c8 (l:=[a,b]) acZ,cY,c6,dJ,nY,F_,Ty.h8,Tm.h8,sG (k:=3) (a:=f) (b:=a) VW VW,cv,dQ,sG (k:=3) (a:=.mk 3 0 .z [f,a]) (b:=b) VW VW,dk]
def Ty.fJ:Ty.nat.err=0:=Ty.xP Ty.Up (by rw[Ty.gi];omega)
def Ty.nN:Ty.lW.err=0:=Ty.xP Ty.T1 (by rw[Ty.oh];omega)
def Ty.Gr:Ty.unit.err=0:=Ty.xP Ty.QS (by rw[Ty.GS];omega)
def Ty.xj{a b:Ty}(c:a.err=0)(d:b.err=0)(h:a.aiw+b.aiw<=63):(Ty.fn a b).err=0:=Ty.xP (Ty.ok_two (.inr rfl) (Ty.kI c).1 (Ty.kI d).1) (by rw[Ty.iN];omega)
def Ty.P0{a b:Ty}(c:a.err=0)(d:b.err=0)(h:a.aiw+b.aiw<=63):(Ty.pr a b).err=0:=Ty.xP (Ty.ok_two (.inl rfl) (Ty.kI c).1 (Ty.kI d).1) (by rw[Ty.uL];omega)
def FD(i:Nat):Tm:=.mk 1 i .z []
def lP(s:Ty)(b:Tm):Tm:=.mk 2 0 s [b]
def gL(f a:Tm):Tm:=.mk 3 0 .z [f,a]
def vT:Tm:=.mk 4 0 .z []
def i_(a:Tm):Tm:=.mk 5 0 .z [a]
def Rf(t:Ty)(a b c:Tm):Tm:=.mk 6 0 t [a,b,c]
def mM:Tm:=lP .nat (lP .nat (Rf .nat (FD 1) (lP .nat (lP .nat (i_ (FD 0)))) (FD 0)))
def PJ:Tm:=lP .nat (Rf .nat vT (lP .nat (lP .nat (FD 1))) (FD 0))
def Uf:Tm:=lP .nat (lP .nat (Rf .nat (FD 1) (lP .nat (lP .nat (gL PJ (FD 0)))) (FD 0)))
def BW(i:Nat):eL (i:Int)=some (FD i):=rfl
def tY{a:Tm}(b:a.wt<=100000000):kg a=some (lP .nat a):=by
 unfold kg;rw[eG];simp only[cv];rw[AI (by rw[Ty.gi];omega) b];rfl
def rec_eq{a b c:Tm}(d:a.wt<=100000000)(f:b.wt<=100000000)(h:c.wt<=100000000):r5 a b c=some (Rf .nat a b c):=by
 unfold r5;rw[eG];simp only[cv];rw[CG (by rw[Ty.gi];omega) d f h];rfl
def AB:rY=some mM:=by
 unfold rY;rw[show eL 1=some (FD 1)from rfl,show eL 0=some (FD 0)from rfl];simp only[cv];rw[JA ab9];simp only[cv];rw[tY ab9];simp only[cv];rw[tY ab9];simp only[cv];rw[rec_eq ab9 ab9 ab9];simp only[cv];rw[tY ab9];simp only[cv];rw[tY ab9];rfl
def IZ:uU=some PJ:=by
 unfold uU;rw[show eL 1=some (FD 1)from rfl,show eL 0=some (FD 0)from rfl,F6];simp only[cv];rw[tY ab9];simp only[cv];rw[tY ab9];simp only[cv];rw[rec_eq ab9 ab9 ab9];simp only[cv];rw[tY ab9];rfl
def Lm:wx=some Uf:=by
 unfold wx;rw[show eL 1=some (FD 1)from rfl,show eL 0=some (FD 0)from rfl,IZ];simp only[cv];rw[sG ab9 ab9];simp only[cv];rw[tY ab9];simp only[cv];rw[tY ab9];simp only[cv];rw[rec_eq ab9 ab9 ab9];simp only[cv];rw[tY ab9];simp only[cv];rw[tY ab9];rfl
def afi{g:List Ty}{t:Ty}(i:Nat)(h:i<g.length)(a:g[g.length-1-i]?=some t):dG g (FD i) t:=dG.var i h a
def tn{g:List Ty}{t:Ty}:dG (g++[t]) (FD 0) t:=dG.var 0 acZ acZ
def Ee{g:List Ty}{s t:Ty}:dG (g++[t]++[s]) (FD 1) t:=dG.var 1 acZ acZ
def yV:(Ty.fn .nat .nat).err=0:=Ty.xj Ty.fJ Ty.fJ (by rw[Ty.gi];omega)
def Ci:(Ty.fn .nat (Ty.fn .nat .nat)).err=0:=Ty.xj Ty.fJ yV (by rw[Ty.iN,Ty.gi];omega)
def Dd(g:List Ty):dG g mM (.fn .nat (.fn .nat .nat)):=
 .lam Ci (.lam yV (.tI Ty.fJ Ee (.lam Ci (.lam yV (.succ tn))) tn))
def Sf(g:List Ty):dG g PJ (.fn .nat .nat):=
 .lam yV (.tI Ty.fJ .zero (.lam Ci (.lam yV Ee)) tn)
def UB(g:List Ty):dG g Uf (.fn .nat (.fn .nat .nat)):=
 .lam Ci (.lam yV (.tI Ty.fJ Ee (.lam Ci (.lam yV (.app (Sf _) tn))) tn))
def Bt:mM.aiw=9:=ab9
def MH:Uf.aiw=16:=ab9
def pD{α β:Type}{G:Option β->Prop}(P:α->Prop){k:α->Option β}{b:(α->Option β)->Option β}(c:∀a,P a->G (k a))(d:∀j:α->Option β,(∀a,P a->G (j a))->G (b j)):G (de k b):=d k c
def Hl{α γ β:Type}{G:Option β->Prop}(P:α->γ->Prop){k:α->γ->Option β}{b:(α->γ->Option β)->Option β}(d:∀a c,P a c->G (k a c))(f:∀j:α->γ->Option β,(∀a c,P a c->G (j a c))->G (b j)):G (de k b):=f k d
def tb(N:Nat):Nat->Nat
 |0=>3*N|k+1=>30+3*tb N k
def agq{N:Nat}(a:N<=20):∀k,k<=5->tb N k<=18300:=by
 intro k b
 have:k=0\/k=1\/k=2\/k=3\/k=4\/k=5:=VW
 rcases this with rfl|rfl|rfl|rfl|rfl|rfl<;>simp only[tb]<;>omega
def Uj{N k:Nat}:3*N<=tb N k:=by
 induction k with
 |zero=>simp[tb]|succ k ih=>grind[tb]
def jx(g:List Ty)(t:Ty)(b:Nat)(o:Option (Tm×dd)):Prop:=∃x a,o=some (x,a)/\a.wf/\Qq g x t b
def jx.of{g:List Ty}{t:Ty}{b:Nat}{x:Tm}{d:dd}(a:d.wf)(h:dG g x t)(hn:x.aiw<=b):jx g t b (some (x,d)):=⟨x,d,rfl,a,h,hn⟩
structure rP (N:Nat) (g:List Ty):Prop where
 all:∀s∈g,s.err=0/\s.aiw<=N
def rP.app{N:Nat}{g l:List Ty}(h:rP N g)(a:∀s∈l,s.err=0/\s.aiw<=N):rP N (g++l):=
 ⟨λs hs=>by rcases rl.1 hs with h'|h';exact h.all s h';exact a s h'⟩
def Ty.qs{t:Ty}(h:t.err=0):t=.nat\/t=.lW\/t=.unit\/(∃a b,t=.pr a b/\a.err=0/\b.err=0)\/(∃a b,t=.fn a b/\a.err=0/\b.err=0):=by
 cases t with
 |mk k l=>
  have f:=(Ty.kI h).1;rw[Ty.fX] at f;simp only[fK,oq] at f;have c:=f.1;unfold Ty.want at c
  split at c
  .rename_i d;injection c with c;have:=X9.1 c.symm;subst this;rcases d with rfl|rfl|rfl
   .exact .inl rfl
   .exact .inr (.inl rfl)
   .exact .inr (.inr (.inl rfl))
  .split at c
   .rename_i d;injection c with c;obtain⟨a,b,rfl⟩:=pM (l:=l) VW;have:=Ty.rZ d h;rcases d with rfl|rfl
    .exact .inr (.inr (.inr (.inl ⟨a,b,rfl,this⟩)))
    .exact .inr (.inr (.inr (.inr ⟨a,b,rfl,this⟩)))
   .cases c
set_option maxHeartbeats 1000000 in
def PZ(N:Nat)(aP:1<=N)(hN:N<=20):∀(n:Nat) (dep:Int) (g:List Ty) (t:Ty) (d:dd),dep.toNat*(N+1)+t.aiw<n->dep<=5->-1000000<=dep-t.aiw->g.length+(3+N)*dep.toNat+t.aiw<=1000->rP N g->t.err=0->t.aiw<=N->d.wf->jx g t (if dep<=0 then 3*t.aiw else tb N dep.toNat) (fo n d g t dep):=by
 intro n
 induction n with
 |zero=>intro dep g t d h;omega|succ n ih=>
  intro dep g t d hm aQ aO hlen hg A w hd;have aR:=t.dr;have ax:=(Ty.kI A).2
  have deep:0<dep->∀T R S,T.length<=g.length+3->rP N T->R.err=0->R.aiw<=N->S.wf->jx T R (tb N (dep.toNat-1)) (fo n S T R (ed .i64 dep 1)):=by
   intro o T R S U X h3 C h5;obtain⟨k,rfl⟩:∃k:Nat,dep=(k+1:Nat):=⟨dep.toNat-1,VW⟩
   have e1:((k+1:Nat):Int).toNat=k+1:=acZ
   rw[e1] at hm hlen|-;rw[et VW VW,show((k+1:Nat):Int)-1=(k:Int) by omega]
   have hmul:(k+1)*(N+1)=k*(N+1)+N+1:=by rw[AQ];omega
   have ay:(3+N)*(k+1)=(3+N)*k+3+N:=by rw[Vk];omega
   obtain⟨x,d1,a1,a2,a3⟩:=ih (k:Int) T R S ado VW VW ado X h3 C h5;refine⟨x,d1,a1,a2,a3.mono ?_⟩;simp only[ab8]
   split
   .have:k=0:=VW
    subst this;simp only[tb];omega
   .simp
  have flat:dep<=0->∀T R S,T.length<=g.length+1->R.aiw+1<=t.aiw->rP N T->R.err=0->S.wf->jx T R (3*R.aiw) (fo n S T R (ed .i64 dep 1)):=by
   intro o T R S U h0 X h3 h5
   have e1:dep.toNat=0:=VW
   rw[e1] at hm hlen;rw[et VW VW]
   have e2:(dep-1).toNat=0:=VW
   have:=ih (dep-1) T R S (by rw[e2];omega) VW VW (by rw[e2];omega) X h3 VW h5;rw[cS VW] at this;exact this
  have Y:0<dep->(if dep<=0 then 3*t.aiw else tb N dep.toNat)=30+3*tb N (dep.toNat-1):=by
   intro o;rw[cO VW];obtain⟨k,hk⟩:∃k,dep.toNat=k+1:=⟨dep.toNat-1,VW⟩;rw[hk];rfl
  have az:0<dep->tb N (dep.toNat-1)<=18300:=λ_=>agq hN _ VW
  have ah:3*t.aiw<=(if dep<=0 then 3*t.aiw else tb N dep.toNat):=by
   split
   .omega
   .have:=Uj (N:=N) (k:=dep.toNat);omega
  generalize (if dep<=0 then 3*t.aiw else tb N dep.toNat)=B at Y ah|-
  have q:∀{g x t},0<dep->Qq g x t (tb N (dep.toNat-1))->x.wt<=1300000:=by
   intro g x t o h;have:=h.wt;have:=az o;omega
  obtain⟨vs,aA,aS,aB⟩:=OL g t VW (λs hs=>by have:=(hg.all s hs).2;omega);rw[fo,aA];simp only[cv];refine Hl (G:=jx g t B) (λa c=>c.wf/\(a=true->vs≠[])) ?_ ?_
  .--a variable,or ai else
   rintro a d1 ⟨ak,aC⟩;cases a with
   |true=>
    simp only[if_true];have aD:=aC rfl
    have aT:1<=vs.length:=by cases vs with|nil=>exact absurd rfl aD|cons _ _=>simp
    obtain⟨x,d2,U,X,h3,C⟩:=jK d1 ak (dq vs) ado ado;rw[U];simp only[cN];obtain⟨y,hy,aE⟩:=J7 (l:=vs) X (by simpa using h3);rw[hy];simp only[cv];obtain⟨i,rfl,aF,aG⟩:=aB y aE;rw[BW];refine jx.of C (afi i aF aG) ?_
    have:(FD i).aiw=1:=by unfold FD;rw[Tm.cQ];rfl
    omega
   |false=>
    simp only[oo,lS];refine pD (G:=jx g t B) dd.wf ?_ ?_
    .--by aq type
     intro d2 D;rcases Ty.qs A with rfl|rfl|rfl|⟨a,b,rfl,ha,hb⟩|⟨a,b,rfl,ha,hb⟩
     .--numbers
      simp only[show Ty.nat.aiu=1 from rfl,eT,if_true];refine pD (G:=jx g .nat B) dd.wf ?_ ?_
      .intro d3 ae;obtain⟨x,d4,U,X,h3,C⟩:=jK d3 ae 3 VW VW;rw[U];simp only[cN];obtain⟨y,aH,ar⟩:=zO x X VW;rw[aH];refine jx.of C (ar g).1 ?_;have:=(ar g).2;rw[Ty.gi] at ah;omega
      .intro j W;simp only[fy]
       split
       .rename_i o;have Y:=Y o;obtain⟨x,d4,U,X,h3,C⟩:=jK d2 D 5 VW VW;rw[U];simp only[cN,eT]
        split
        .obtain⟨a,d5,a1,a2,a3⟩:=deep o g .nat d4 VW hg Ty.fJ w C;rw[a1];simp only[cN];rw[JA (by have:=q o a3;omega)];refine jx.of a2 (.succ a3.ty) ?_;have:=a3.aiw;rw[Tm.cQ];simp only[db];omega
        split
        .rw[AB];simp only[cv];obtain⟨a,d5,a1,a2,a3⟩:=deep o g .nat d4 VW hg Ty.fJ w C;rw[a1];simp only[cN];obtain⟨b,d6,H,I,v⟩:=deep o g .nat d5 VW hg Ty.fJ w a2;rw[H];simp only[cN];rw[La ab9 (by have:=q o a3;omega) (by have:=q o v;omega)];refine jx.of I (.app (.app (Dd g) a3.ty) v.ty) ?_;have:=a3.aiw;have:=v.aiw;have:=Bt;rw[Tm.cQ];simp only[db,Tm.cQ];omega
        split
        .rw[Lm];simp only[cv];obtain⟨a,d5,a1,a2,a3⟩:=deep o g .nat d4 VW hg Ty.fJ w C;rw[a1];simp only[cN];obtain⟨b,d6,H,I,v⟩:=deep o g .nat d5 VW hg Ty.fJ w a2;rw[H];simp only[cN];rw[La ab9 (by have:=q o a3;omega) (by have:=q o v;omega)];refine jx.of I (.app (.app (UB g) a3.ty) v.ty) ?_;have:=a3.aiw;have:=v.aiw;have:=MH;rw[Tm.cQ];simp only[db,Tm.cQ];omega
        .exact W d4 C
       .exact W d2 D
     .--lists
      simp only[show Ty.lW.aiu=2 from rfl,eT,if_true,show¬(2:Int)=1 by omega,lS];refine Hl (G:=jx g .lW B) (λa c=>c.wf/\(a=true->0<dep)) ?_ ?_
      .rintro a d3 ⟨ae,o⟩;cases a with
       |true=>
        have o:=o rfl;have Y:=Y o;simp only[if_true];rw[eG];simp only[cv];obtain⟨a,d5,a1,a2,a3⟩:=deep o g .nat d3 VW hg Ty.fJ (by rw[Ty.gi];omega) ae;rw[a1];simp only[cN];obtain⟨b,d6,H,I,v⟩:=deep o g .lW d5 VW hg Ty.nN w a2;rw[H];simp only[cN];rw[sG (by have:=q o a3;omega) (by have:=q o v;omega)];refine jx.of I (.cons a3.ty v.ty) ?_;have:=a3.aiw;have:=v.aiw;rw[Tm.cQ];simp only[db];omega
       |false=>
        simp only[oo,lS];rw[F6];refine jx.of ae .nil ?_;rw[Tm.cQ];simp only[db];omega
      .intro j W;simp only[fy]
       split
       .rename_i o;obtain⟨x,d4,U,X,h3,C⟩:=jK d2 D 2 VW VW;rw[U];simp only[cN];exact W _ d4 ⟨C,λ_=>o⟩
       .exact W _ d2 ⟨D,λh=>by cases h⟩
     .simp only[show Ty.unit.aiu=5 from rfl,eT,show¬(5:Int)=1 by omega,show¬(5:Int)=2 by omega,show¬(5:Int)=3 by omega,show¬(5:Int)=4 by omega,lS];rw[F6];refine jx.of D .unit ?_;rw[Tm.cQ];simp only[db];omega
     .simp only[show(Ty.pr a b).aiu=3 from rfl,show(Ty.pr a b).aiv=[a,b] from rfl,eT,show¬(3:Int)=1 by omega,show¬(3:Int)=2 by omega,if_true,lS,dA,fh,im,lY,cv];rw[Ty.uL] at w ax ah
      by_cases o:0<dep
      .have Y:=Y o;obtain⟨x,d5,a1,a2,a3⟩:=deep o g a d2 VW hg ha VW D;rw[a1];simp only[cN];obtain⟨y,d6,H,I,v⟩:=deep o g b d5 VW hg hb VW a2;rw[H];simp only[cN];rw[sG (by have:=q o a3;omega) (by have:=q o v;omega)];refine jx.of I (.pair A a3.ty v.ty) ?_;have:=a3.aiw;have:=v.aiw;rw[Tm.cQ];simp only[db];omega
      .have aI:=Ty.uL a b;obtain⟨x,d5,a1,a2,a3⟩:=flat VW g a d2 VW VW hg ha D;rw[a1];simp only[cN];obtain⟨y,d6,H,I,v⟩:=flat VW g b d5 VW VW hg hb a2;rw[H];simp only[cN];have:=a3.aiw;have:=v.aiw;rw[sG (by have:=a3.wt;omega) (by have:=v.wt;omega)];refine jx.of I (.pair A a3.ty v.ty) ?_;rw[Tm.cQ];simp only[db];omega
     .simp only[show(Ty.fn a b).aiu=4 from rfl,show(Ty.fn a b).aiv=[a,b] from rfl,eT,show¬(4:Int)=1 by omega,show¬(4:Int)=2 by omega,show¬(4:Int)=3 by omega,if_true,lS,dA,fh,im,lY,cv];have aI:=Ty.iN a b;rw[nG g [a] ado];simp only[cv];have V:rP N (g++[a]):=hg.app (by intro s hs;rw[yy] at hs;subst hs;exact⟨ha,VW⟩)
      by_cases o:0<dep
      .have Y:=Y o;obtain⟨x,d5,a1,a2,a3⟩:=deep o (g++[a]) b d2 acZ V hb VW D;rw[a1];simp only[cN];rw[AI VW (by have:=q o a3;omega)];refine jx.of a2 (.lam A a3.ty) ?_;have:=a3.aiw;rw[Tm.cQ];simp only[db];omega
      .obtain⟨x,d5,a1,a2,a3⟩:=flat VW (g++[a]) b d2 acZ VW V hb D;rw[a1];simp only[cN];have:=a3.aiw;rw[AI VW (by have:=a3.wt;omega)];refine jx.of a2 (.lam A a3.ty) ?_;rw[Tm.cQ];simp only[db];omega
    .--a aJ,or one of aq context
     intro j W;simp only[fy]
     split
     .rename_i o;have Y:=Y o;obtain⟨x,d2,U,X,h3,C⟩:=jK d1 ak 8 VW VW;rw[U];simp only[cN,eT]
      have leaf:∀d,dd.wf d->∃s S,iy FU d 0=some (s,S)/\s.err=0/\s.aiw=1/\S.wf:=by
       intro d hd;obtain⟨s,S,c1,c2,c3,c4⟩:=yG d hd 0 VW;have:=s.dr;exact⟨s,S,c1,c2,VW,c4⟩
      split
      .obtain⟨s,d3,s1,s2,s3,s4⟩:=leaf d2 C;rw[s1];simp only[cN];rw[nG g [s] ado];simp only[cv];obtain⟨a,d5,a1,a2,a3⟩:=deep o (g++[s]) t d3 acZ (hg.app (by intro u hu;rw[yy] at hu;subst hu;exact⟨s2,VW⟩)) A w s4;rw[a1];simp only[cN];rw[AI VW (by have:=q o a3;omega)];simp only[cv];obtain⟨b,d6,H,I,v⟩:=deep o g s d5 VW hg s2 VW a2;rw[H];simp only[cN];have w1:=q o a3;rw[sG (by rw[Tm.ee];simp only[db];omega) (by have:=q o v;omega)];refine jx.of I (.app (.lam (Ty.xj s2 A VW) a3.ty) v.ty) ?_;have:=a3.aiw;have:=v.aiw;rw[Tm.cQ];simp only[db,Tm.cQ];omega
      split
      .obtain⟨s,d3,s1,s2,s3,s4⟩:=leaf d2 C;rw[s1];simp only[cN];obtain⟨a,d5,a1,a2,a3⟩:=deep o g t d3 VW hg A w s4;rw[a1];simp only[cN];obtain⟨b,d6,H,I,v⟩:=deep o g s d5 VW hg s2 VW a2;rw[H];simp only[cN];have w1:=q o a3;have w2:=q o v;rw[sG VW VW];simp only[cv];rw[JA (by rw[Tm.ee];have:Ty.z.aiw=1:=rfl;simp only[db];omega)];refine jx.of I (.fst (.pair (Ty.P0 A s2 VW) a3.ty v.ty)) ?_;have:=a3.aiw;have:=v.aiw;rw[Tm.cQ];simp only[db,Tm.cQ];omega
      split
      .rw[eG];simp only[cv];rw[nG g [.nat,t] ado];simp only[cv]
       have V:rP N (g++[.nat,t]):=hg.app (by
        intro u hu;simp only[j8,v_,s9] at hu;rcases hu with rfl|rfl
        .exact⟨Ty.fJ,by rw[Ty.gi];omega⟩
        .exact⟨A,w⟩)
       obtain⟨a,d5,a1,a2,a3⟩:=deep o (g++[.nat,t]) t d2 acZ V A w C;rw[a1];simp only[cN];have w1:=q o a3;have nn:=Ty.gi;rw[AI VW VW];simp only[cv];rw[AI VW (by rw[Tm.ee];simp only[db];omega)];simp only[cv];obtain⟨b,d6,H,I,v⟩:=deep o g t d5 VW hg A w a2;rw[H];simp only[cN];obtain⟨y,d7,y1,y2,y3,y4⟩:=jK d6 I 3 VW VW;rw[y1];simp only[cN];obtain⟨z,z1,z2⟩:=zO y y2 VW;rw[z1];simp only[cv];have w2:=q o v;have zn:=(z2 g).2;have zw:=z.hI (z2 g).1.ok
       have e1:(Tm.mk 2 0 .nat [Tm.mk 2 0 t [a]]).wt<=2000000:=by rw[Tm.ee];simp only[db,Tm.ee];omega
       rw[CG VW VW VW VW];have Z:(Ty.fn t t).err=0:=Ty.xj A A VW;refine jx.of y4 (.tI A v.ty (.lam (Ty.xj Ty.fJ Z (by rw[Ty.iN];omega)) (.lam Z (by simpa using a3.ty))) (z2 g).1) ?_;have:=a3.aiw;have:=v.aiw;rw[Tm.cQ];simp only[db,Tm.cQ];omega
      split
      .rw[eG,fE];simp only[cv];rw[nG g [.nat,.lW,t] ado];simp only[cv]
       have V:rP N (g++[.nat,.lW,t]):=hg.app (by
        intro u hu;simp only[j8,v_,s9] at hu;rcases hu with rfl|rfl|rfl
        .exact⟨Ty.fJ,by rw[Ty.gi];omega⟩
        .exact⟨Ty.nN,by rw[Ty.oh];omega⟩
        .exact⟨A,w⟩)
       obtain⟨a,d5,a1,a2,a3⟩:=deep o (g++[.nat,.lW,t]) t d2 acZ V A w C;rw[a1];simp only[cN];have w1:=q o a3;have nn:=Ty.gi;have ln:=Ty.oh;rw[AI VW VW];simp only[cv];rw[AI VW (by rw[Tm.ee];simp only[db];omega)];simp only[cv];rw[AI VW (by rw[Tm.ee];simp only[db,Tm.ee];omega)];simp only[cv];obtain⟨b,d6,H,I,v⟩:=deep o g t d5 VW hg A w a2;rw[H];simp only[cN];obtain⟨c,d7,c1,c2,c3⟩:=deep o g .lW d6 VW hg Ty.nN VW I;rw[c1];simp only[cN];have w2:=q o v;have w3:=q o c3
       have e1:(Tm.mk 2 0 .nat [Tm.mk 2 0 .lW [Tm.mk 2 0 t [a]]]).wt<=2000000:=by rw[Tm.ee];simp only[db,Tm.ee];omega
       rw[CG VW VW VW VW];have Z:(Ty.fn t t).err=0:=Ty.xj A A VW;have af:(Ty.fn .lW (Ty.fn t t)).err=0:=Ty.xj Ty.nN Z (by rw[Ty.iN];omega);refine jx.of c2 (.fold A v.ty (.lam (Ty.xj Ty.fJ af (by rw[Ty.iN,Ty.iN];omega)) (.lam af (.lam Z (by simpa using a3.ty)))) c3.ty) ?_;have:=a3.aiw;have:=v.aiw;have:=c3.aiw;rw[Tm.cQ];simp only[db,Tm.cQ];omega
      split
      .obtain⟨s,d3,s1,s2,s3,s4⟩:=leaf d2 C;rw[s1];simp only[cN];obtain⟨a,d5,a1,a2,a3⟩:=deep o g s d3 VW hg s2 VW s4;rw[a1];simp only[cN];obtain⟨b,d6,H,I,v⟩:=deep o g t d5 VW hg A w a2;rw[H];simp only[cN];have w1:=q o a3;have w2:=q o v;rw[sG VW VW];simp only[cv];rw[JA (by rw[Tm.ee];have:Ty.z.aiw=1:=rfl;simp only[db];omega)];refine jx.of I (.snd (.pair (Ty.P0 s2 A VW) a3.ty v.ty)) ?_;have:=a3.aiw;have:=v.aiw;rw[Tm.cQ];simp only[db,Tm.cQ];omega
      split
      .--a function of aq context
       rw[c8 VW,cY];simp only[c6]
       rcases JR (λ_:Unit=>True) (λr:Tm×dd=>jx g t B (some r)) (F:=λ(K:Int) (aK:Ty) (_:Unit)=>
         cM (dg g (ed .i64 (ed .i64 (dq g) 1) K)) λJ=>
          if J.aiu=4 then cM (dg J.aiv 1) λan=>cM (ey FU an t) λao=>
           if ao then cM (eL K) λL=>cM (dg J.aiv 0) λM=>cW (fo n d2 g M (ed .i64 dep 1)) λO P=>
            cM (eN 3 [L,O]) λQ=>some (dV.ret (Q,P))
           else some (dV.next ())
          else if false then cM (eL K) λL=>cM (dg J.aiv 0) λM=>cW (fo n d2 g M (ed .i64 dep 1)) λO P=>
            cM (eN 3 [L,O]) λQ=>some (dV.ret (Q,P))
           else some (dV.next ())) g 0 () trivial (by
        intro k u s hk _;have aL:k<g.length:=(mH.1 hk).1
        have ad:g.length-1-k<g.length:=VW
        have e1:dg g (ed .i64 (ed .i64 (dq g) 1) ((0+k:Nat):Int))=some g[g.length-1-k]:=by
         rw[tg,eo,et (a:=(g.length:Int)) (b:=1) VW VW,et VW VW,show(g.length:Int)-1-(k:Int)=((g.length-1-k:Nat):Int) by omega,gP];simp[ad]
        simp only[e1,cv];have hf:=hg.all _ (CC ad);have aw:g[g.length-1-k]?=some g[g.length-1-k]:=l9 ad;generalize g[g.length-1-k]=f at hf aw|-;rcases Ty.qs hf.1 with rfl|rfl|rfl|⟨a,b,rfl,ha,hb⟩|⟨a,b,rfl,ha,hb⟩
        .left;exact⟨(),rfl,trivial⟩
        .left;exact⟨(),rfl,trivial⟩
        .left;exact⟨(),rfl,trivial⟩
        .left;exact⟨(),rfl,trivial⟩
        .simp only[show(Ty.fn a b).aiu=4 from rfl,show(Ty.fn a b).aiv=[a,b] from rfl,eT,if_true,dA,fh,im,lY,cv];have aM:=hf.2;rw[Ty.iN] at aM;rw[gY VW];simp only[cv];cases hs:b.jE t with
         |false=>left;exact⟨(),rfl,trivial⟩|true=>
          rw[Ty.jM] at hs;subst hs;right;simp only[if_true,tg];rw[BW];simp only[cv];obtain⟨y,d5,a1,a2,a3⟩:=deep o g a d2 VW hg ha VW C;rw[a1];simp only[cN];have w1:=q o a3
          have e2:(FD k).wt=2:=by unfold FD;rw[Tm.ee];rfl
          rw[sG VW VW];refine⟨_,rfl,jx.of a2 (.app (afi k aL aw) a3.ty) ?_⟩;have:=a3.aiw
          have e3:(FD k).aiw=1:=by unfold FD;rw[Tm.cQ];rfl
          rw[Tm.cQ];simp only[db];omega)with⟨s,hs,_⟩|⟨r,hr,aN⟩
       .rw[hs];exact W d2 C
       .rw[hr];exact aN
      .exact W d2 C
     .exact W d1 ak
  .intro j W;simp only[fy,eo]
   split
   .rename_i o;obtain⟨x,d2,U,X,h3,C⟩:=jK d hd 3 VW VW;rw[U];simp only[cN];exact W _ d2 ⟨C,λ_ h=>by subst h;simp at o⟩
   .exact W _ d ⟨hd,λh=>by cases h⟩
inductive jS:List Ty->Fm->Prop
 |eq {g a b}:dG g a .nat->dG g b .nat->jS g (.mk 1 .z [a,b] [])|two {g k a b}:k=2\/k=3->jS g a->jS g b->jS g (.mk k .z [] [a,b])|q {g k s a}:k=4\/k=5\/k=6\/k=7->s.err=0->jS (g++[s]) a->jS g (.mk k s [] [a])
def jS.ok{g:List Ty}{f:Fm}(h:jS g f):f.ok=true:=by
 induction h with
 |eq c d=>simp[Fm.fX,Fm.node,Ty.pP,c.ok,d.ok]|two i _ _ j l=>
  rename_i k a b _ _
  have:¬k=1:=VW
  simp[Fm.fX,Fm.node,Ty.pP,i,this,j,l]
 |q i hs _ ih=>
  rename_i k s a _
  have c:¬k=1:=VW
  have d:¬(k=2\/k=3):=VW
  have n:jB k=true:=by simp[jB,i]
  simp[Fm.fX,Fm.node,c,d,n,hs,ih]
def Gx{a b:Tm}(c:a.wt<=1000000000)(d:b.wt<=1000000000):k1 a b=some (.mk 1 .z [a,b] []):=by
 unfold k1;rw[mq c,mq d];rfl
def FX{k:Int}{a b:Fm}(c:a.wt<=1000000000)(d:b.wt<=1000000000):ke k a b=some (.mk k .z [] [a,b]):=by
 unfold ke;rw[jl c,jl d];rfl
def ET{k:Int}{s:Ty}{a:Fm}(hs:s.aiw<=1000000000)(b:a.wt<=1000000000):jn k s a=some (.mk k s [] [a]):=by
 unfold jn;rw[gX hs,jl b];rfl
def fb:Nat->Nat
 |0=>115|k+1=>1+2*fb k
def afr:∀k,k<=5->fb k<=3711:=by
 intro k a
 have:k=0\/k=1\/k=2\/k=3\/k=4\/k=5:=VW
 rcases this with rfl|rfl|rfl|rfl|rfl|rfl<;>decide
structure Uk (g:List Ty) (f:Fm) (n:Nat):Prop where
 ty:jS g f
 aiw:f.aiw<=n
def Uk.wt{g:List Ty}{f:Fm}{n:Nat}(h:Uk g f n):f.wt<=65*n:=by
 have:=f.hI h.ty.ok;have:=h.aiw;omega
theorem Uk.err{g:List Ty}{f:Fm}{n:Nat}(h:Uk g f n)(hn:n<=4096):f.err=0:=Fm.xP h.ty.ok (by have:=h.aiw;omega)
def ti(g:List Ty)(b:Nat)(o:Option (Fm×dd)):Prop:=∃x a,o=some (x,a)/\a.wf/\Uk g x b
def ti.of{g:List Ty}{b:Nat}{x:Fm}{d:dd}(a:d.wf)(h:jS g x)(hn:x.aiw<=b):ti g b (some (x,d)):=⟨x,d,rfl,a,h,hn⟩
def Gk(N:Nat)(b:1<=N)(f:N<=20)(dep:Nat)(a:dep<=5)(g:List Ty)(t:Ty)(d:dd)(k:g.length<=600)(hg:rP N g)(h:t.err=0)(c:t.aiw<=N)(i:d.wf):jx g t (tb N dep) (fo FU d g t (dep:Int)):=by
 have l:dep*(N+1)<=5*21:=GF a VW;have n:(3+N)*dep<=23*5:=GF VW a;obtain⟨x,j,a1,a2,a3⟩:=PZ N b f FU (dep:Int) g t d (by rw[dY];simp;omega) VW VW ado hg h c i;refine⟨x,j,a1,a2,a3.mono ?_⟩
 split
 .have:dep=0:=VW
  subst this;simp only[tb];omega
 .simp
def Jd:∀(n k:Nat) (g:List Ty) (d:dd),k<n->k<=5->g.length+k<=500->rP 3 g->d.wf->ti g (fb k) (h7 n d g (k:Int)):=by
 intro n
 induction n with
 |zero=>intro k g d h;omega|succ n ih=>
  intro k g d T L hlen hg P;rw[h7];refine pD (G:=ti g (fb k)) dd.wf ?_ ?_
  .intro d1 M;rw[eG];simp only[cv];obtain⟨a,d2,a1,a2,a3⟩:=Gk 3 VW VW 1 VW g .nat d1 VW hg Ty.fJ (by rw[Ty.gi];omega) M;rw[show((1:Nat):Int)=1 from rfl] at a1;rw[a1];simp only[cN];obtain⟨b,d3,F,N,f⟩:=Gk 3 VW VW 1 VW g .nat d2 VW hg Ty.fJ (by rw[Ty.gi];omega) a2;rw[show((1:Nat):Int)=1 from rfl] at F;rw[F];simp only[cN];have e:tb 3 1=57:=rfl;rw[e] at a3 f;rw[Gx (by have:=a3.wt;omega) (by have:=f.wt;omega)];refine ti.of N (.eq a3.ty f.ty) ?_;have:=a3.aiw;have:=f.aiw
   have Y:115<=fb k:=by
    clear T L hlen ih
    induction k with
    |zero=>simp[fb]|succ k ih=>simp only[fb];omega
   rw[Fm.cQ];simp only[db];omega
  .intro j Q;simp only[fy]
   split
   .rename_i R;obtain⟨m,rfl⟩:∃m,k=m+1:=⟨k-1,VW⟩
    have U:ed .i64 ((m+1:Nat):Int) 1=(m:Int):=by rw[et VW VW];omega
    have V:=afr m VW
    have deep:∀l H,l.length<=g.length+1->rP 3 l->H.wf->ti l (fb m) (h7 n H l (ed .i64 ((m+1:Nat):Int) 1)):=by
     intro l H I J S;rw[U];exact ih m l H VW VW VW J S
    have ctx:∀s:Ty,s.err=0->s.aiw<=3->rP 3 (g++[s]):=λs I J=>hg.app (by intro u hu;rw[yy] at hu;subst hu;exact⟨I,J⟩);obtain⟨x,d2,I,J,S,K⟩:=jK d P 9 VW VW;rw[I];simp only[cN,kZ,rD,eT]
    have two:∀c:Int,c=2\/c=3->ti g (fb (m+1)) (cW (h7 n d2 g (ed .i64 ((m+1:Nat):Int) 1)) λo d317=>cW (h7 n d317 g (ed .i64 ((m+1:Nat):Int) 1)) λr d321=>cM (ke c o r) λt=>some (t,d321)):=by
     intro c v;obtain⟨a,d3,a1,a2,a3⟩:=deep g d2 VW hg K;rw[a1];simp only[cN];obtain⟨b,d4,F,N,f⟩:=deep g d3 VW hg a2;rw[F];simp only[cN];rw[FX (by have:=a3.wt;omega) (by have:=f.wt;omega)];refine ti.of N (.two v a3.ty f.ty) ?_;have:=a3.aiw;have:=f.aiw;rw[Fm.cQ];simp only[db,fb];omega
    split
    .exact two 2 (.inl rfl)
    split
    .exact two 3 (.inr rfl)
    have one:∀c:Int,c=4\/c=5->ti g (fb (m+1)) (cW (iy FU d2 1) λi w=>cM (lu g [i]) λA=>cW (h7 n w A (ed .i64 ((m+1:Nat):Int) 1)) λB C=>cM (jn c i B) λD=>some (D,C)):=by
     intro c v;obtain⟨s,d3,s1,s2,W,O⟩:=yG d2 K 1 VW;rw[show((1:Nat):Int)=1 from rfl] at s1;rw[s1];simp only[cN];rw[nG g [s] ado];simp only[cv];obtain⟨a,d4,a1,a2,a3⟩:=deep (g++[s]) d3 acZ (ctx s s2 VW) O;rw[a1];simp only[cN];rw[ET VW (by have:=a3.wt;omega)];refine ti.of a2 (.q VW s2 a3.ty) ?_;have:=a3.aiw;rw[Fm.cQ];simp only[db,fb];omega
    split
    .exact one 4 (.inl rfl)
    split
    .exact one 5 (.inr rfl)
    split
    .obtain⟨s,d3,s1,s2,W,O⟩:=yG d2 K 0 VW;rw[show((0:Nat):Int)=0 from rfl] at s1;rw[s1];simp only[cN];obtain⟨y,d5,X,Z,y3,y4⟩:=jK d3 O 2 VW VW;rw[X];simp only[cN];rw[nG g [s] ado];simp only[cv];obtain⟨a,d4,a1,a2,a3⟩:=deep (g++[s]) d5 acZ (ctx s s2 VW) y4;rw[a1];simp only[cN];rw[dP VW VW,ET VW (by have:=a3.wt;omega)];refine ti.of a2 (.q VW s2 a3.ty) ?_;have:=a3.aiw;rw[Fm.cQ];simp only[db,fb];omega
    .exact Q d2 K
   .exact Q d P
def MS(k:Nat)(a:k<=5)(g:List Ty)(d:dd)(c:g.length<=400)(hg:rP 3 g)(b:d.wf):ti g (fb k) (h7 FU d g (k:Int)):=
 Jd FU k g d (by rw[dY];omega) a VW hg b
def acU(l:List Int)(h:l.length<=1000):(dd.mk l 0).wf:=⟨h,acZ,acZ⟩
def vQ(l:List Ty):Int:=if 16<l.length then 3 else eD (l.map Ty.err)
def wz(l:List Ty)(f:l.length<=1000000)(h:∀t∈l,t.aiw<=1000000000):mK l=some (vQ l):=by
 unfold mK vQ;simp only[fy,eo,c8 (l:=l) VW,cY,c6]
 by_cases b:16<l.length
 .rw[cS VW,cS b]
 .rw[cO VW,cO b]
  have key:=kh (F:=λ(j:Int) (x:Ty) (_:Unit)=>cM (lp x) λa=>if dw a 0 then some (dV.ret a)else some (dV.next ())) Ty.err l 0 (by
   intro j x d;rw[yZ (h x d)]
   simp only[cv,c9])
  simp only[c9] at key|-;rw[key]
  by_cases c:eD (l.map Ty.err)=0
  .simp[c]
  .simp[c]
def r6(l:List Ty)(f:l.length<=1000000)(h:∀t∈l,t.aiw<=1000000000):lr l=some (vQ l):=by
 unfold lr vQ;simp only[fy,eo,c8 (l:=l) VW,cY,c6]
 by_cases b:16<l.length
 .rw[cS VW,cS b]
 .rw[cO VW,cO b]
  have key:=kh (F:=λ(j:Int) (x:Ty) (_:Unit)=>cM (hY x) λa=>if dw a 0 then some (dV.ret a)else some (dV.next ())) Ty.err l 0 (by
   intro j x d;rw[lJ (h x d)]
   simp only[cv,c9])
  simp only[c9] at key|-;rw[key]
  by_cases c:eD (l.map Ty.err)=0
  .simp[c]
  .simp[c]
def wm:∀(n:Nat) (a b:Ty),a.aiw<=n->a.aiw<=1000000000->∃r,fO n a b=some r/\(r=true↔a=b):=by
 intro n
 induction n with
 |zero=>intro t b h;have:=t.dr;omega
 |succ n ih=>
  intro a b h s;cases a with
  |mk k l=>
  cases b with
  |mk k' m=>
   rw[Ty.cQ] at h s;have u:=Ty.ek l;rw[fO];simp only[Ty.dh,Ty.dn,c6,c8 (l:=l) VW,cY,kZ,rD,c9,eo]
   by_cases d:k≠k'\/(l.length:Int)≠m.length
   .rw[cS d];refine⟨false,rfl,?_⟩;simp only[oo,KN,Ty.mk.injEq,not_and];rintro rfl rfl;simp at d
   .rw[cO d];simp only[not_or,vS] at d;obtain⟨rfl,hlen⟩:=d
    have c:l.length=m.length:=VW
    let p:Ty->Ty->Bool:=λx y=>(fO n x y).getD false
    have o:∀x∈l,∀y,fO n x y=some (p x y)/\(p x y=true↔x=y):=by
     intro x f y;have:=di Ty.aiw f;obtain⟨r,q,i⟩:=ih x y VW VW
     have e:p x y=r:=by show(fO n x y).getD false=r;rw[q];rfl
     rw[e];exact⟨q,i⟩
    have key:=wV (F:=λ(j:Int) (x:Ty) (_:Unit)=>cM (dg m j) λy=>cM (fO n x y) λz=>if z then some (dV.next ())else some (dV.ret false)) p m l 0 m rfl c (by
     intro k x y f hy;rw[gP,hy];simp only[cv];rw[(o x f y).1]
     rfl)
    rw[key];have he:=wN p l m λx f y=>(o x f y).2;cases i:ur p l m with
    |false=>exact⟨false,rfl,by rw[i] at he;simpa using he⟩
    |true=>exact⟨true,rfl,by rw[i] at he;simpa using he⟩
def wI:∀(n:Nat) (a b:Tm),a.wt<=n->a.wt<=1000000000->∃r,ie n a b=some r/\(r=true↔a=b):=by
 intro n
 induction n with
 |zero=>intro t b h;have:=t.gJ;omega
 |succ n ih=>
  intro a b h G;cases a with
  |mk k i s l=>
  cases b with
  |mk k' f v m=>
   rw[Tm.ee] at h G;have I:=Tm.mY l;rw[ie];simp only[Tm.dh,Tm.dn,Tm.eW,Tm.dU,c6,c8 (l:=l) VW,cY,c9,eo]
   have no:¬(k=k'/\i=f/\s=v/\l.length=m.length)->∃r,some false=some r/\(r=true↔Tm.mk k i s l=Tm.mk k' f v m):=by
    intro hn;refine⟨false,rfl,?_⟩;simp only[oo,KN,Tm.mk.injEq,not_and];rintro rfl rfl rfl rfl;exact hn ⟨rfl,rfl,rfl,rfl⟩
   by_cases o:k≠k'
   .rw[cS o,cS trivial];exact no λh=>o h.1
   .rw[cO o]
    by_cases hi:i≠f
    .rw[cS hi,cS trivial];exact no λh=>hi h.2.1
    .rw[cO hi];obtain⟨r,H,B⟩:=wm FU s v (by rw[dY];omega) VW;rw[H];simp only[cv]
     by_cases q:r=true
     .have hs:=B.1 q;rw[cS q]
      by_cases hlen:(l.length:Int)≠m.length
      .rw[cS hlen];exact no λh=>hlen VW
      .rw[cO hlen]
       have c:l.length=m.length:=VW
       let p:Tm->Tm->Bool:=λx y=>(ie n x y).getD false
       have C:∀x∈l,∀y,ie n x y=some (p x y)/\(p x y=true↔x=y):=by
        intro x d y;have:=di Tm.wt d;obtain⟨r,D,u⟩:=ih x y VW VW
        have e:p x y=r:=by show(ie n x y).getD false=r;rw[D];rfl
        rw[e];exact⟨D,u⟩
       have key:=wV (F:=λ(j:Int) (x:Tm) (_:Unit)=>cM (dg m j) λy=>cM (ie n x y) λz=>if z then some (dV.next ())else some (dV.ret false)) p m l 0 m rfl c (by
        intro k x y d hy;rw[gP,hy];simp only[cv];rw[(C x d y).1]
        rfl)
       rw[key];have he:=wN p l m λx d y=>(C x d y).2;have w:k=k':=vS.1 o;have hi':i=f:=vS.1 hi;cases u:ur p l m with
       |false=>
        refine⟨false,rfl,?_⟩;rw[u] at he;simp only[oo,KN,Tm.mk.injEq,not_and];intro _ _ _ A;exact absurd (he.2 A) acZ
       |true=>
        refine⟨true,rfl,?_⟩;rw[u] at he;simp only[YV,Tm.mk.injEq];exact⟨w,hi',hs,he.1 rfl⟩
     .rw[cO q,cS trivial];exact no λh=>q (B.2 h.2.2.1)
def Ax:∀(n:Nat) (a b:Tm),a.wt<=n->a.wt<=1000000000->∃r,jD n a b=some r/\(r=true↔a=b):=by
 intro n
 induction n with
 |zero=>intro t b h;have:=t.gJ;omega
 |succ n ih=>
  intro a b h G;cases a with
  |mk k i s l=>
  cases b with
  |mk k' f v m=>
   rw[Tm.ee] at h G;have I:=Tm.mY l;rw[jD];simp only[Tm.dh,Tm.dn,Tm.eW,Tm.dU,c6,c8 (l:=l) VW,cY,c9,eo]
   have no:¬(k=k'/\i=f/\s=v/\l.length=m.length)->∃r,some false=some r/\(r=true↔Tm.mk k i s l=Tm.mk k' f v m):=by
    intro hn;refine⟨false,rfl,?_⟩;simp only[oo,KN,Tm.mk.injEq,not_and];rintro rfl rfl rfl rfl;exact hn ⟨rfl,rfl,rfl,rfl⟩
   by_cases o:k≠k'
   .rw[cS o,cS trivial];exact no λh=>o h.1
   .rw[cO o]
    by_cases hi:i≠f
    .rw[cS hi,cS trivial];exact no λh=>hi h.2.1
    .rw[cO hi];obtain⟨r,H,B⟩:=vG FU s v (by rw[dY];omega) VW;rw[H];simp only[cv]
     by_cases q:r=true
     .have hs:=B.1 q;rw[cS q]
      by_cases hlen:(l.length:Int)≠m.length
      .rw[cS hlen];exact no λh=>hlen VW
      .rw[cO hlen]
       have c:l.length=m.length:=VW
       let p:Tm->Tm->Bool:=λx y=>(jD n x y).getD false
       have C:∀x∈l,∀y,jD n x y=some (p x y)/\(p x y=true↔x=y):=by
        intro x d y;have:=di Tm.wt d;obtain⟨r,D,u⟩:=ih x y VW VW
        have e:p x y=r:=by show(jD n x y).getD false=r;rw[D];rfl
        rw[e];exact⟨D,u⟩
       have key:=wV (F:=λ(j:Int) (x:Tm) (_:Unit)=>cM (dg m j) λy=>cM (jD n x y) λz=>if z then some (dV.next ())else some (dV.ret false)) p m l 0 m rfl c (by
        intro k x y d hy;rw[gP,hy];simp only[cv];rw[(C x d y).1]
        rfl)
       rw[key];have he:=wN p l m λx d y=>(C x d y).2;have w:k=k':=vS.1 o;have hi':i=f:=vS.1 hi;cases u:ur p l m with
       |false=>
        refine⟨false,rfl,?_⟩;rw[u] at he;simp only[oo,KN,Tm.mk.injEq,not_and];intro _ _ _ A;exact absurd (he.2 A) acZ
       |true=>
        refine⟨true,rfl,?_⟩;rw[u] at he;simp only[YV,Tm.mk.injEq];exact⟨w,hi',hs,he.1 rfl⟩
     .rw[cO q,cS trivial];exact no λh=>q (B.2 h.2.2.1)
def vL{a b:Tm}(hw:a.wt<=1000000000):∃r,qw a b=some r/\(r=true↔a=b):=by
 obtain⟨r,c,d⟩:=wI FU a b (by rw[dY];exact hw) hw;exact⟨r,by unfold qw;rw[c];rfl,d⟩
def NM:∀(k:Nat) (m:Int) (t:Tm),(t.norm k m).2.2=0\/(t.norm k m).2.2=4\/(t.norm k m).2.2=5
 |0,m,t=>by
  rw[Tm.norm]
  split
  .exact .inl rfl
  .exact .inr (.inr rfl)
 |k+1,m,t=>by
  rw[Tm.norm]
  split
  .exact .inr (.inl rfl)
  .exact .inl rfl
  .exact NM k _ _
def Fz:∀(k:Nat) (M m:Int) (t a:Tm) (n:Int),0<=M->Sm M t->t.aiw<=4096->t.norm k m=(a,n,0)->Sm (M+8192*k) a/\a.aiw<=4096
 |0,M,m,t,a,n,d,hs,hn,h=>by
  rw[Tm.norm] at h
  split at h
  .obtain⟨b,h⟩:=gu h;rw[<-b];exact⟨hs.mono VW,hn⟩
  .cases h
 |k+1,M,m,t,a,n,d,hs,hn,h=>by
  rw[Tm.norm] at h
  split at h
  .cases h
  .obtain⟨b,h⟩:=gu h;rw[<-b];exact⟨hs.mono VW,hn⟩
  .rename_i f c;obtain⟨i,j,l⟩:=Kn d t hs VW f c;obtain⟨a1,a2⟩:=Fz k (M+8192) (m+1) f a n VW ⟨i,j,VW⟩ VW h;exact⟨a1.mono VW,a2⟩
def RZ(l:List Int):FM l=some (decide (l.length<=500)):=by
 unfold FM
 congr 1
 unfold HB dq;exact P6.2 VW
def yL{k:Int}(a:k≠1)(c:k≠2)(f b i:Int)(s:Ty)(l:List Tm):(Tm.mk k i s l).up f b=.mk k i s (l.map (Tm.up f b)):=by
 rw[Tm.kO,cO (λh=>a h.1)];unfold e9;rw[cO c,yd]
def acW(f b i:Int)(s:Ty)(l:List Tm):(Tm.mk 2 i s l).up f b=.mk 2 i s (l.map (Tm.up (f+1) b)):=by
 rw[Tm.kO,cO (λh=>by have:=h.1;omega)];rfl
def uP{k:Int}(b:k≠1)(c:k≠2)(n i:Int)(a:Tm)(s:Ty)(l:List Tm):Tm.iu n (Tm.mk k i s l) a=.mk k i s (l.map λx=>Tm.iu n x a):=by
 rw[Tm.mV,cO b];unfold e9;rw[cO c,yd]
def Zy(n i:Int)(a:Tm)(s:Ty)(l:List Tm):Tm.iu n (Tm.mk 2 i s l) a=.mk 2 i s (l.map λx=>Tm.iu (n+1) x a):=by
 rw[Tm.mV,cO ab9];rfl
def Fk{g:List Ty}{t:Ty}{i j:Nat}(h:g[j]?=some t)(hi:i<g.length)(a:g.length-1-i=j):dG g (.mk 1 i .z []) t:=.var i hi (by rw[a];exact h)
def dG.up{g:List Ty}{x:Tm}{t:Ty}(h:dG g x t):∀g1 g2 e:List Ty,g=g1++g2->dG (g1++e++g2) (x.up g2.length e.length) t:=by
 induction h with
 |@var g t i d k=>
  rintro g1 g2 e rfl;rw[Tm.kO,Na];rw[qj] at d
  by_cases hi:g2.length<=i
  .rw[cS ⟨rfl,VW⟩,show(i:Int)+e.length=((i+e.length:Nat):Int) by push_cast;rfl];refine Fk (j:=g1.length+g2.length-1-i) ?_ (by simp<;>omega) (by simp<;>omega);rw[qj,tJ VW] at k;rw[tD,tJ VW];exact k
  .rw[cO (λh=>by have:=h.2;omega)];refine Fk (j:=g1.length+e.length+(g2.length-1-i)) ?_ (by simp<;>omega) (by simp<;>omega);rw[qj,yf VW] at k;rw[yf (by simp<;>omega)];rw[<-k]
   congr 1
   simp;omega
 |@lam g s b t d _ ih=>
  rintro g1 g2 e rfl;have:=ih g1 (g2++[s]) e (by rw[tD]);rw[acW];refine .lam d ?_;rw[qj,<-tD] at this;exact this
 |app _ _ a c=>intro g1 g2 e hg;rw[yL ab9 ab9];exact .app (a g1 g2 e hg) (c g1 g2 e hg)|zero=>intro g1 g2 e hg;rw[yL ab9 ab9];exact .zero|succ _ ih=>intro g1 g2 e hg;rw[yL ab9 ab9];exact .succ (ih g1 g2 e hg)|tI d _ _ _ a c f=>intro g1 g2 e hg;rw[yL ab9 ab9];exact .tI d (a g1 g2 e hg) (c g1 g2 e hg) (f g1 g2 e hg)|nil=>intro g1 g2 e hg;rw[yL ab9 ab9];exact .nil|cons _ _ a c=>intro g1 g2 e hg;rw[yL ab9 ab9];exact .cons (a g1 g2 e hg) (c g1 g2 e hg)|fold d _ _ _ a c f=>intro g1 g2 e hg;rw[yL ab9 ab9];exact .fold d (a g1 g2 e hg) (c g1 g2 e hg) (f g1 g2 e hg)|pair d _ _ a c=>intro g1 g2 e hg;rw[yL ab9 ab9];exact .pair d (a g1 g2 e hg) (c g1 g2 e hg)|fst _ ih=>intro g1 g2 e hg;rw[yL ab9 ab9];exact .fst (ih g1 g2 e hg)|snd _ ih=>intro g1 g2 e hg;rw[yL ab9 ab9];exact .snd (ih g1 g2 e hg)|unit=>intro g1 g2 e hg;rw[yL ab9 ab9];exact .unit
theorem dG.iu{g:List Ty}{x:Tm}{t:Ty}(h:dG g x t):∀(g1:List Ty) (s:Ty) (g2:List Ty) (a:Tm),g=g1++[s]++g2->dG g1 a s->dG (g1++g2) (Tm.iu g2.length x a) t:=by
 induction h with
 |@var g t i k l=>
  rintro g1 s g2 a rfl c;rw[Tm.mV,cS rfl];unfold Tm.ue;simp only[qj,kL,uz] at k l
  by_cases he:(i:Int)=g2.length
  .rw[cS he]
   have o:s=t:=by
    rw[tD,yf VW,tJ (by simp<;>omega)] at l;rw[show g1.length+(0+1)+g2.length-1-i-g1.length=0 by omega] at l;exact fU l
   subst o;have:=c.up g1 [] g2 acZ;simpa using this
  .rw[cO he]
   by_cases hi:(g2.length:Int)<i
   .rw[cS hi,show(i:Int)-1=((i-1:Nat):Int) by omega];refine Fk (j:=g1.length+g2.length-i) ?_ (by simp<;>omega) (by simp<;>omega);rw[tD,tJ VW] at l;rw[tJ VW,<-l]
    congr 1
    omega
   .rw[cO hi];refine Fk (j:=g1.length+(g2.length-1-i)) ?_ (by simp<;>omega) (by simp<;>omega);rw[yf (by simp<;>omega)] at l;rw[yf VW,<-l]
    congr 1
    simp;omega
 |@lam g s b t k _ ih=>
  rintro g1 u g2 a rfl c;have:=ih g1 u (g2++[s]) a (by simp only[tD]) c;rw[Zy];refine .lam k ?_;rw[qj,<-tD] at this;exact this
 |app _ _ d f=>intro g1 s g2 a hg c;rw[uP ab9 ab9];exact .app (d g1 s g2 a hg c) (f g1 s g2 a hg c)|zero=>intro g1 s g2 a hg c;rw[uP ab9 ab9];exact .zero|succ _ ih=>intro g1 s g2 a hg c;rw[uP ab9 ab9];exact .succ (ih g1 s g2 a hg c)|tI k _ _ _ d f n=>intro g1 s g2 a hg c;rw[uP ab9 ab9];exact .tI k (d g1 s g2 a hg c) (f g1 s g2 a hg c) (n g1 s g2 a hg c)|nil=>intro g1 s g2 a hg c;rw[uP ab9 ab9];exact .nil|cons _ _ d f=>intro g1 s g2 a hg c;rw[uP ab9 ab9];exact .cons (d g1 s g2 a hg c) (f g1 s g2 a hg c)|fold k _ _ _ d f n=>intro g1 s g2 a hg c;rw[uP ab9 ab9];exact .fold k (d g1 s g2 a hg c) (f g1 s g2 a hg c) (n g1 s g2 a hg c)|pair k _ _ d f=>intro g1 s g2 a hg c;rw[uP ab9 ab9];exact .pair k (d g1 s g2 a hg c) (f g1 s g2 a hg c)|fst _ ih=>intro g1 s g2 a hg c;rw[uP ab9 ab9];exact .fst (ih g1 s g2 a hg c)|snd _ ih=>intro g1 s g2 a hg c;rw[uP ab9 ab9];exact .snd (ih g1 s g2 a hg c)|unit=>intro g1 s g2 a hg c;rw[uP ab9 ab9];exact .unit
def Ty.abG{a b c d:Ty}(h:Ty.fn a b=Ty.fn c d):a=c/\b=d:=by unfold Ty.fn at h;simpa using h
def Ty.VC{a b c d:Ty}(h:Ty.pr a b=Ty.pr c d):a=c/\b=d:=by unfold Ty.pr at h;simpa using h
theorem dG.eU{g:List Ty}{x:Tm}{t:Ty}(h:dG g x t)(o:x.root=true):dG g x.eU t:=by
 cases h with
 |@app _ f a s _ c k=>
  have d:f.aiu=2:=by simpa[Tm.root,Tm.kd] using o
  generalize r:Ty.fn s t=q at c
  cases c<;>simp only[Tm.dn] at d<;>first|omega|skip
  rename_i A b w i j;obtain⟨rfl,rfl⟩:=Ty.abG r;have:=j.iu g s [] a acZ k;simpa[Tm.eU] using this
 |@tI _ _ b s n c k i j=>
  have d:n.aiu=4\/n.aiu=5:=by simpa[Tm.root,Tm.kd] using o
  cases j<;>simp only[Tm.dn] at d<;>first|omega|skip
  .simpa[Tm.eU] using k
  .rename_i m l;have:=dG.app (.app i l) (dG.tI c k i l);simpa[Tm.eU,lv,Ty.z] using this
 |@fold _ _ b s n c k i j=>
  have d:n.aiu=7\/n.aiu=8:=by simpa[Tm.root,Tm.kd] using o
  cases j<;>simp only[Tm.dn] at d<;>first|omega|skip
  .simpa[Tm.eU] using k
  .rename_i u v l y;have:=dG.app (.app (.app i l) y) (dG.fold c k i y);simpa[Tm.eU,lv,Ty.z] using this
 |@fst _ a s w c=>
  have d:a.aiu=10:=by simpa[Tm.root,Tm.kd] using o
  generalize r:Ty.pr t w=q at c
  cases c<;>simp only[Tm.dn] at d<;>first|omega|skip
  rename_i i j l;obtain⟨rfl,rfl⟩:=Ty.VC r;simpa[Tm.eU] using j
 |@snd _ a s w c=>
  have d:a.aiu=10:=by simpa[Tm.root,Tm.kd] using o
  generalize r:Ty.pr s t=q at c
  cases c<;>simp only[Tm.dn] at d<;>first|omega|skip
  rename_i i j l;obtain⟨rfl,rfl⟩:=Ty.VC r;simpa[Tm.eU] using l
 |_=>simp[Tm.root] at o
def lA{r k i:Int}{s:Ty}{l:List Tm}{b:Tm}(h:(Tm.mk k i s l).Jy r=some (some b)):((Tm.mk k i s l).root=true/\b=(Tm.mk k i s l).eU)\/∃a,Tm.rI r l=some (some a)/\b=.mk k i s a:=by
 rw[Tm.Bc] at h
 by_cases c:(Tm.mk k i s l).root=true
 .rw[cS c] at h
  split at h
  . cases h
  . exact .inl ⟨c,(fU (fU h)).symm⟩
 .rw[cO c] at h;cases e:Tm.rI r l with
  |none=>rw[e] at h;cases h
  |some o=>
    cases o with
    |none=>rw[e] at h;cases h
    |some a=>rw[e] at h;exact .inr ⟨a,rfl,(fU (fU h)).symm⟩
def jN{r:Int}{a:Tm}{l c:List Tm}(h:Tm.rI r (a::l)=some (some c)):(∃b,a.Jy r=some (some b)/\c=b::l)\/∃m,Tm.rI r l=some (some m)/\c=a::m:=by
 rw[Tm.rI] at h;cases e:a.Jy r with
 |none=>rw[e] at h;cases h
 |some o=>
  cases o with
  |some b=>rw[e] at h;exact .inl ⟨b,rfl,(fU (fU h)).symm⟩
  |none=>
   rw[e] at h;dsimp only at h;cases d:Tm.rI r l with
   |none=>rw[d] at h;cases h
   |some o2=>
    cases o2 with
    |none=>rw[d] at h;cases h
    |some m=>rw[d] at h;exact .inr ⟨m,rfl,(fU (fU h)).symm⟩
def nc{r:Int}{a:List Tm}(h:Tm.rI r []=some (some a)):False:=by rw[Tm.rI] at h;cases h
def dG.Jy{r:Int}{g:List Ty}{x:Tm}{t:Ty}(h:dG g x t):∀o,x.Jy r=some (some o)->dG g o t:=by
 induction h with
 |var i c j=>
  intro o hs;rcases lA hs with⟨d,rfl⟩|⟨u,f,rfl⟩
  .exact(dG.var i c j).eU d
  .exact(nc f).elim
 |lam c j ih=>
  intro o hs;rcases lA hs with⟨d,rfl⟩|⟨u,f,rfl⟩
  .exact(dG.lam c j).eU d
  .rcases jN f with⟨q,a,b⟩|⟨m,a,b⟩
   .subst_vars;exact .lam c (ih _ a)
   .exact(nc a).elim
 |app c j k l=>
  intro o hs;rcases lA hs with⟨d,rfl⟩|⟨u,f,rfl⟩
  .exact(dG.app c j).eU d
  .rcases jN f with⟨q,a,b⟩|⟨m,a,b⟩
   .subst_vars;exact .app (k _ a) j
   .rcases jN a with⟨q,n,b⟩|⟨m,n,b⟩
    .subst_vars;exact .app c (l _ n)
    .exact(nc n).elim
 |zero=>
  intro o hs;rcases lA hs with⟨d,rfl⟩|⟨u,f,rfl⟩
  .exact dG.zero.eU d
  .exact(nc f).elim
 |succ c ih=>
  intro o hs;rcases lA hs with⟨d,rfl⟩|⟨u,f,rfl⟩
  .exact(dG.succ c).eU d
  .rcases jN f with⟨q,a,b⟩|⟨m,a,b⟩
   .subst_vars;exact .succ (ih _ a)
   .exact(nc a).elim
 |tI s c j v k l w=>
  intro o hs;rcases lA hs with⟨d,rfl⟩|⟨u,f,rfl⟩
  .exact(dG.tI s c j v).eU d
  .rcases jN f with⟨q,a,b⟩|⟨m,a,b⟩
   .subst_vars;exact .tI s (k _ a) j v
   .rcases jN a with⟨q,n,b⟩|⟨m,n,b⟩
    .subst_vars;exact .tI s c (l _ n) v
    .rcases jN n with⟨q,y,b⟩|⟨m,y,b⟩
     .subst_vars;exact .tI s c j (w _ y)
     .exact(nc y).elim
 |nil=>
  intro o hs;rcases lA hs with⟨d,rfl⟩|⟨u,f,rfl⟩
  .exact dG.nil.eU d
  .exact(nc f).elim
 |cons c j k l=>
  intro o hs;rcases lA hs with⟨d,rfl⟩|⟨u,f,rfl⟩
  .exact(dG.cons c j).eU d
  .rcases jN f with⟨q,a,b⟩|⟨m,a,b⟩
   .subst_vars;exact .cons (k _ a) j
   .rcases jN a with⟨q,n,b⟩|⟨m,n,b⟩
    .subst_vars;exact .cons c (l _ n)
    .exact(nc n).elim
 |fold s c j v k l w=>
  intro o hs;rcases lA hs with⟨d,rfl⟩|⟨u,f,rfl⟩
  .exact(dG.fold s c j v).eU d
  .rcases jN f with⟨q,a,b⟩|⟨m,a,b⟩
   .subst_vars;exact .fold s (k _ a) j v
   .rcases jN a with⟨q,n,b⟩|⟨m,n,b⟩
    .subst_vars;exact .fold s c (l _ n) v
    .rcases jN n with⟨q,y,b⟩|⟨m,y,b⟩
     .subst_vars;exact .fold s c j (w _ y)
     .exact(nc y).elim
 |pair s c j k l=>
  intro o hs;rcases lA hs with⟨d,rfl⟩|⟨u,f,rfl⟩
  .exact(dG.pair s c j).eU d
  .rcases jN f with⟨q,a,b⟩|⟨m,a,b⟩
   .subst_vars;exact .pair s (k _ a) j
   .rcases jN a with⟨q,n,b⟩|⟨m,n,b⟩
    .subst_vars;exact .pair s c (l _ n)
    .exact(nc n).elim
 |fst c ih=>
  intro o hs;rcases lA hs with⟨d,rfl⟩|⟨u,f,rfl⟩
  .exact(dG.fst c).eU d
  .rcases jN f with⟨q,a,b⟩|⟨m,a,b⟩
   .subst_vars;exact .fst (ih _ a)
   .exact(nc a).elim
 |snd c ih=>
  intro o hs;rcases lA hs with⟨d,rfl⟩|⟨u,f,rfl⟩
  .exact(dG.snd c).eU d
  .rcases jN f with⟨q,a,b⟩|⟨m,a,b⟩
   .subst_vars;exact .snd (ih _ a)
   .exact(nc a).elim
 |unit=>
  intro o hs;rcases lA hs with⟨d,rfl⟩|⟨u,f,rfl⟩
  .exact dG.unit.eU d
  .exact(nc f).elim
def dG.norm{g:List Ty}{t:Ty}:∀(k:Nat) (m:Int) (x a:Tm) (n:Int),dG g x t->x.norm k m=(a,n,0)->dG g a t
 |0,m,x,a,n,b,h=>by
  rw[Tm.norm] at h
  split at h
  .obtain⟨c,_⟩:=gu h;rw[<-c];exact b
  .cases h
 |k+1,m,x,a,n,b,h=>by
  rw[Tm.norm] at h
  split at h
  .cases h
  .obtain⟨c,_⟩:=gu h;rw[<-c];exact b
  .rename_i d hs;exact dG.norm k (m+1) d a n (b.Jy _ hs) h
def Sh(k:Int):gG k<=3:=by unfold gG;repeat' (first|omega|split)
def Tm.ae3{k i:Int}{s:Ty}{l:List Tm}(h:(Tm.mk k i s l).ok=true):l.length<=3:=by
 have:=Tm.vN h;have:=Sh k;omega
def aba(x:Tm):Tm.mk x.aiu x.aix (Ty.mk x.cT.aiu x.cT.aiv) x.aiv=x:=by
 cases x with
 |mk k i s l=>cases s;rfl
def lh{a:Ty}(h:a.aiw<=1000000000):ey FU a a=some true:=by
 obtain⟨r,b,c⟩:=vG FU a a (by rw[dY];exact h) h;rw[b,c.2 rfl]
def ok_eq{t:Ty}(h:t.err=0):sO t=some (t,0):=by
 unfold sO;rw[lJ (by have:=(Ty.kI h).2;omega),h];rfl
def ec{t:Ty}(h:t.err=0):t.aiw<=64:=by have:=(Ty.kI h).2;omega
inductive TL (n:Nat) (g:List Ty):List Tm->List Ty->Prop
 |nil:TL n g [] []|cons {a:Tm} {t:Ty} {l:List Tm} {ts:List Ty}:eC n g a=some (t,0)->TL n g l ts->TL n g (a::l) (t::ts)
def nO{n:Nat}{g:List Ty}:∀{l:List Tm} {ts:List Ty} (i:Nat) (v:List Ty),TL n g l ts->v.length+l.length<=1000->dH (λ(f:Int) (d:Tm)=>(λ(a:List Ty)=>
   cW (eC n g d) λb c=>
   if(dw c 0) then(
   some (dV.ret ((Ty.mk 0 []),c)))
   else(fa (eO a [b])<|some (.next (fu a [b])))):Int->Tm->((List Ty))->(Option (dV ((List Ty)) (Ty×Int)))) l i v=some (.inl (v++ts))
 |_,_,i,v,.nil,_=>by simp|_,_,i,v,.cons h j,k=>by
  simp only[kL] at k;rw[dJ];simp only[h,cN];rw[cO ab9,dS ado];simp only[cY,cv,dQ];rw[nO (i+1) _ j (by rw[fj];simp;omega),fj];simp
def Vo{g:List Ty}{x:Tm}{t:Ty}(h:dG g x t):(∀s∈g,s.err=0)->t.err=0/\∀n:Nat,x.aiw<=n->g.length+x.aiw<=1000000->eC n g x=some (t,0):=by
 induction h with
 |@var g t i y C=>
  intro hg;have A:=hg t (Gt C);refine⟨A,λn hn j=>?_⟩;rw[Tm.cQ] at hn;obtain⟨n,rfl⟩:∃m,n=m+1:=⟨n-1,VW⟩;rw[Tm.cQ] at j;rw[eC,cS adL,cO (by simp only[Tm.eW,gI,eo];omega)];simp only[Tm.eW,eo];rw[et (a:=(g.length:Int)) VW VW,et VW VW]
  have:dg g ((g.length:Int)-1-(i:Int))=some t:=by
   unfold dg;rw[cS VW,<-C]
   congr 1
   omega
  rw[this];simp only[cv];rw[gX (by have:=ec A;omega)];rfl
 |@lam g s b t y _ ih=>
  intro hg;have hs:=(Ty.rZ (.inr rfl) y).1;have B:=(Ty.rZ (.inr rfl) y).2
  obtain⟨_,ih⟩:=ih (by
   intro u hu;rcases rl.1 hu with h|h
   .exact hg u h
   .rw[yy] at h;rw[h];exact hs)
  refine⟨y,λn hn j=>?_⟩;rw[Tm.cQ] at hn j;simp only[db] at hn j;obtain⟨n,rfl⟩:∃m,n=m+1:=⟨n-1,VW⟩;rw[eC,cO acZ,cS adL];simp only[Tm.dU,Tm.dh,dA,im,cv,fj];rw[dS ado,cY,ih n VW ado];simp only[cN];rw[cO ab9,hQ (by have:=ec hs;omega) (by have:=ec B;omega)];simp only[cv];rw[ok_eq y];rfl
 |@app g f a s t _ _ c d=>
  intro hg;obtain⟨r,c⟩:=c hg;obtain⟨v,d⟩:=d hg;have B:=(Ty.rZ (.inr rfl) r).2;refine⟨B,λn hn j=>?_⟩;rw[Tm.cQ] at hn j;simp only[db] at hn j;obtain⟨n,rfl⟩:∃m,n=m+1:=⟨n-1,VW⟩;have o:=nO (n:=n) (g:=g) (l:=[f,a]) 0 [] (.cons (c n VW VW) (.cons (d n VW VW) .nil)) acZ;rw[eC,cO acZ,cO acZ];simp only[c6,Tm.dh,c8 (l:=[f,a]) acZ,cY];rw[o];simp only[cv,dk,eG,fE];rw[cS adL];simp only[oE,dA,fh,im,lY,cv];rw[cO (by simp[Ty.fn,dw]),show(Ty.fn s t).aiv[0]?=some s from rfl];simp only[cv];rw[lh (by have:=ec v;omega)];simp only[cv];rw[cO ab9,show(Ty.fn s t).aiv[1]?=some t from rfl];rfl
 |zero=>
  intro hg;refine⟨Ty.fJ,λn hn j=>?_⟩;rw[Tm.cQ] at hn;obtain⟨n,rfl⟩:∃m,n=m+1:=⟨n-1,VW⟩;rfl
 |@succ g a _ ih=>
  intro hg;obtain⟨r,ih⟩:=ih hg;refine⟨Ty.fJ,λn hn j=>?_⟩;rw[Tm.cQ] at hn j;simp only[db] at hn j;obtain⟨n,rfl⟩:∃m,n=m+1:=⟨n-1,VW⟩;have o:=nO (n:=n) (g:=g) (l:=[a]) 0 [] (.cons (ih n VW VW) .nil) acZ;rw[eC,cO acZ,cO acZ];simp only[c6,Tm.dh,c8 (l:=[a]) acZ,cY];rw[o];simp only[cv,dk,eG,fE];rw[cO acZ,cO acZ,cS adL];simp only[oE,dA,im,cv];rw[lh (by rw[Ty.gi];omega)];rfl
 |@tI g t b s k w _ _ _ c d q=>
  intro hg;obtain⟨r,c⟩:=c hg;obtain⟨v,d⟩:=d hg;obtain⟨D,q⟩:=q hg;refine⟨w,λn hn j=>?_⟩;rw[Tm.cQ] at hn j;simp only[db] at hn j;obtain⟨n,rfl⟩:∃m,n=m+1:=⟨n-1,VW⟩;have B:=ec w;have o:=nO (n:=n) (g:=g) (l:=[b,s,k]) 0 [] (.cons (c n VW VW) (.cons (d n VW VW) (.cons (q n VW VW) .nil))) acZ;rw[eC,cO acZ,cO acZ];simp only[c6,Tm.dh,c8 (l:=[b,s,k]) acZ,cY];rw[o];simp only[cv,dk,eG,fE];rw[cO acZ,cO acZ,cO acZ,cS adL];simp only[oE,dA,fh,hV,im,lY,cv,Tm.dU];rw[lh VW];simp only[cv,if_true];rw[hQ VW VW];simp only[cv];rw[hQ (by rw[Ty.gi];omega) (by rw[Ty.iN];omega)];simp only[cv];rw[lh (by have:=ec v;omega)];simp only[cv,if_true];rw[lh (by rw[Ty.gi];omega)];simp only[cv];rw[cO ab9,gX VW];rfl
 |nil=>
  intro hg;refine⟨Ty.nN,λn hn j=>?_⟩;rw[Tm.cQ] at hn;obtain⟨n,rfl⟩:∃m,n=m+1:=⟨n-1,VW⟩;rfl
 |@cons g a b _ _ c d=>
  intro hg;obtain⟨r,c⟩:=c hg;obtain⟨v,d⟩:=d hg;refine⟨Ty.nN,λn hn j=>?_⟩;rw[Tm.cQ] at hn j;simp only[db] at hn j;obtain⟨n,rfl⟩:∃m,n=m+1:=⟨n-1,VW⟩;have o:=nO (n:=n) (g:=g) (l:=[a,b]) 0 [] (.cons (c n VW VW) (.cons (d n VW VW) .nil)) acZ;rw[eC,cO acZ,cO acZ];simp only[c6,Tm.dh,c8 (l:=[a,b]) acZ,cY];rw[o];simp only[cv,dk,eG,fE];rw[cO acZ,cO acZ,cO acZ,cO acZ,cO acZ,cS adL];simp only[oE,dA,fh,im,lY,cv];rw[lh (by rw[Ty.gi];omega)];simp only[cv,if_true];rw[lh (by rw[Ty.oh];omega)];rfl
 |@fold g t b s k w _ _ _ c d q=>
  intro hg;obtain⟨r,c⟩:=c hg;obtain⟨v,d⟩:=d hg;obtain⟨D,q⟩:=q hg;refine⟨w,λn hn j=>?_⟩;rw[Tm.cQ] at hn j;simp only[db] at hn j;obtain⟨n,rfl⟩:∃m,n=m+1:=⟨n-1,VW⟩;have B:=ec w;have o:=nO (n:=n) (g:=g) (l:=[b,s,k]) 0 [] (.cons (c n VW VW) (.cons (d n VW VW) (.cons (q n VW VW) .nil))) acZ;rw[eC,cO acZ,cO acZ];simp only[c6,Tm.dh,c8 (l:=[b,s,k]) acZ,cY];rw[o];simp only[cv,dk,eG,fE];rw[cO acZ,cO acZ,cO acZ,cO acZ,cO acZ,cO acZ,cS adL];simp only[oE,dA,fh,hV,im,lY,cv,Tm.dU];rw[lh VW];simp only[cv,if_true];rw[hQ VW VW];simp only[cv];rw[hQ (by rw[Ty.oh];omega) (by rw[Ty.iN];omega)];simp only[cv];rw[hQ (by rw[Ty.gi];omega) (by rw[Ty.iN,Ty.iN,Ty.oh];omega)];simp only[cv];rw[lh (by have:=ec v;omega)];simp only[cv,if_true];rw[lh (by rw[Ty.oh];omega)];simp only[cv];rw[cO ab9,gX VW];rfl
 |@pair g a b s t w _ _ c d=>
  intro hg;obtain⟨r,c⟩:=c hg;obtain⟨v,d⟩:=d hg;refine⟨w,λn hn j=>?_⟩;rw[Tm.cQ] at hn j;simp only[db] at hn j;obtain⟨n,rfl⟩:∃m,n=m+1:=⟨n-1,VW⟩;have o:=nO (n:=n) (g:=g) (l:=[a,b]) 0 [] (.cons (c n VW VW) (.cons (d n VW VW) .nil)) acZ;rw[eC,cO acZ,cO acZ];simp only[c6,Tm.dh,c8 (l:=[a,b]) acZ,cY];rw[o];simp only[cv,dk,eG,fE];rw[cO acZ,cO acZ,cO acZ,cO acZ,cO acZ,cO acZ,cO acZ,cS adL];simp only[oE,dA,fh,im,lY,cv];rw[xb (by have:=ec r;omega) (by have:=ec v;omega)];simp only[cv];rw[ok_eq w];rfl
 |@fst g a s t _ ih=>
  intro hg;obtain⟨r,ih⟩:=ih hg;refine⟨(Ty.rZ (.inl rfl) r).1,λn hn j=>?_⟩;rw[Tm.cQ] at hn j;simp only[db] at hn j;obtain⟨n,rfl⟩:∃m,n=m+1:=⟨n-1,VW⟩;have o:=nO (n:=n) (g:=g) (l:=[a]) 0 [] (.cons (ih n VW VW) .nil) acZ;rw[eC,cO acZ,cO acZ];simp only[c6,Tm.dh,c8 (l:=[a]) acZ,cY];rw[o];simp only[cv,dk,eG,fE];rw[cO acZ,cO acZ,cO acZ,cO acZ,cO acZ,cO acZ,cO acZ,cO acZ,cS adL];simp only[oE,dA,im,cv];rw[cO (by simp[Ty.pr,dw]),cS adL,show(Ty.pr s t).aiv[0]?=some s from rfl];rfl
 |@snd g a s t _ ih=>
  intro hg;obtain⟨r,ih⟩:=ih hg;refine⟨(Ty.rZ (.inl rfl) r).2,λn hn j=>?_⟩;rw[Tm.cQ] at hn j;simp only[db] at hn j;obtain⟨n,rfl⟩:∃m,n=m+1:=⟨n-1,VW⟩;have o:=nO (n:=n) (g:=g) (l:=[a]) 0 [] (.cons (ih n VW VW) .nil) acZ;rw[eC,cO acZ,cO acZ];simp only[c6,Tm.dh,c8 (l:=[a]) acZ,cY];rw[o];simp only[cv,dk,eG,fE];rw[cO acZ,cO acZ,cO acZ,cO acZ,cO acZ,cO acZ,cO acZ,cO acZ,cS adL];simp only[oE,dA,im,cv];rw[cO (by simp[Ty.pr,dw]),cO acZ,show dg (Ty.pr s t).aiv 1=some t from rfl];rfl
 |unit=>
  intro hg;refine⟨Ty.Gr,λn hn j=>?_⟩;rw[Tm.cQ] at hn;obtain⟨n,rfl⟩:∃m,n=m+1:=⟨n-1,VW⟩;rfl
def Tm.nW{p:Tm->Prop}(var:∀i:Nat,p (.mk 1 i .z []))(lam:∀s b,s.err=0->b.ok=true->p (.mk 2 0 s [b]))(app:∀a b,a.ok=true->b.ok=true->p (.mk 3 0 .z [a,b]))
  (zero:p (.mk 4 0 .z [])) (succ:∀a,a.ok=true->p (.mk 5 0 .z [a])) (tI:∀s a b c,s.err=0->a.ok=true->b.ok=true->c.ok=true->p (.mk 6 0 s [a,b,c])) (nil:p (.mk 7 0 .z []))
  (cons:∀a b,a.ok=true->b.ok=true->p (.mk 8 0 .z [a,b])) (fold:∀s a b c,s.err=0->a.ok=true->b.ok=true->c.ok=true->p (.mk 9 0 s [a,b,c])) (pair:∀a b,a.ok=true->b.ok=true->p (.mk 10 0 .z [a,b]))
  (fst:∀a,a.ok=true->p (.mk 11 0 .z [a])) (snd:∀a,a.ok=true->p (.mk 12 0 .z [a])) (unit:p (.mk 13 0 .z [])) (t:Tm) (h:t.ok=true):p t:=by
 cases t with
 |mk k i s l=>
  obtain⟨_,hi,d,o,hn⟩:=Tm.kU h
  have hs:if jq k then s.err=0 else s=.z:=by
   rw[Tm.fX] at h;simp only[Tm.node,fK] at h;have:=h.1.2
   split at this
   .rename_i f;rw[cS f];simpa using this
   .rename_i f;rw[cO f];exact(Ty.lx s).1 this
  have r:∀{l:List Tm},(l.length:Int)=0->l=[]:=λh=>fH.1 h;unfold gG at hn
  split at hn
  .rename_i f;obtain rfl:=fH.1 hn;rcases f with rfl|rfl|rfl|rfl
   .rw[cO ab9] at hs;subst hs;obtain⟨j,rfl⟩:∃j:Nat,i=(j:Int):=⟨i.toNat,VW⟩;exact var j
   .rw[cO ab9] at hs;subst hs;obtain rfl:=d ab9;exact zero
   .rw[cO ab9] at hs;subst hs;obtain rfl:=d ab9;exact nil
   .rw[cO ab9] at hs;subst hs;obtain rfl:=d ab9;exact unit
  .split at hn
   .rename_i f;obtain⟨a,rfl⟩:=iH hn;have n:=o a acZ;rcases f with rfl|rfl|rfl|rfl
    .rw[cS ab9] at hs;obtain rfl:=d ab9;exact lam s a hs n
    .rw[cO ab9] at hs;subst hs;obtain rfl:=d ab9;exact succ a n
    .rw[cO ab9] at hs;subst hs;obtain rfl:=d ab9;exact fst a n
    .rw[cO ab9] at hs;subst hs;obtain rfl:=d ab9;exact snd a n
   .split at hn
    .rename_i f;obtain⟨a,b,rfl⟩:=pM hn;have n:=o a acZ;have q:=o b acZ;rcases f with rfl|rfl|rfl
     .rw[cO ab9] at hs;subst hs;obtain rfl:=d ab9;exact app a b n q
     .rw[cO ab9] at hs;subst hs;obtain rfl:=d ab9;exact cons a b n q
     .rw[cO ab9] at hs;subst hs;obtain rfl:=d ab9;exact pair a b n q
    .split at hn
     .rename_i f
      obtain⟨a,b,c,rfl⟩:∃a b c,l=[a,b,c]:=by
       match l,hn with
       |[a,b,c],_=>exact⟨a,b,c,rfl⟩|[],h|[_],h|[_,_],h=>simp at h
       |_::_::_::_::_,h=>simp at h;omega
      have n:=o a acZ;have q:=o b acZ;have u:=o c acZ;rcases f with rfl|rfl
      .rw[cS ab9] at hs;obtain rfl:=d ab9;exact tI s a b c hs n q u
      .rw[cS ab9] at hs;obtain rfl:=d ab9;exact fold s a b c hs n q u
     .omega
open Classical in
noncomputable def gp (k:Int) (s:Ty) (l:List Ty):Ty×Int:=
 if k=3 then(if(l.getD 0 .z).aiu=4/\(l.getD 0 .z).aiv.getD 0 .z=l.getD 1 .z then((l.getD 0 .z).aiv.getD 1 .z,0)else(.z,7))
 else if k=4 then(.nat,0)
 else if k=5 then(if l.getD 0 .z=.nat then(.nat,0)else(.z,7))
 else if k=6 then(if l.getD 0 .z=s/\l.getD 1 .z=.fn .nat (.fn s s)/\l.getD 2 .z=.nat then(s,0)else(.z,7))
 else if k=7 then(.lW,0)
 else if k=8 then(if l.getD 0 .z=.nat/\l.getD 1 .z=.lW then(.lW,0)else(.z,7))
 else if k=9 then(if l.getD 0 .z=s/\l.getD 1 .z=.fn .nat (.fn .lW (.fn s s))/\l.getD 2 .z=.lW then(s,0)else(.z,7))
 else if k=10 then(if 64<1+(l.getD 0 .z).aiw+(l.getD 1 .z).aiw then(.z,4)else(.pr (l.getD 0 .z) (l.getD 1 .z),0))
 else if k=11 then(if(l.getD 0 .z).aiu=3 then((l.getD 0 .z).aiv.getD 0 .z,0)else(.z,7))
 else if k=12 then(if(l.getD 0 .z).aiu=3 then((l.getD 0 .z).aiv.getD 1 .z,0)else(.z,7))
 else(.unit,0)
def Nq(s:Ty)(r:Ty×Int):Ty×Int:=if r.2≠0 then(.z,r.2)else if 64<1+s.aiw+r.1.aiw then(.z,4)else(.fn s r.1,0)
def uV(f:List Ty->Ty×Int):List Ty⊕Int->Ty×Int
 |.inl l=>f l|.inr e=>(.z,e)
def Pw(r:Ty×Int)(o:List Ty⊕Int):List Ty⊕Int:=if r.2≠0 then .inr r.2 else match o with|.inl l=>.inl (r.1::l)|.inr e=>.inr e
mutual
noncomputable def Tm.ty:Tm->List Ty->Ty×Int
 |.mk k i s l,g=>if k=1 then(if i<(g.length:Int)then(g.getD (g.length-1-i.toNat) .z,0)else(.z,6))else if k=2 then Nq s (Tm.tyH l (g++[s]))else uV (gp k s) (Tm.tO l g)
noncomputable def Tm.tyH:List Tm->List Ty->Ty×Int
 |[],_=>(.z,0)|t::_,g=>t.ty g
noncomputable def Tm.tO:List Tm->List Ty->List Ty⊕Int
 |[],_=>.inl []|t::l,g=>Pw (t.ty g) (Tm.tO l g)
end
def Tm.mm(k i:Int)(s:Ty)(l:List Tm)(g:List Ty):(Tm.mk k i s l).ty g=if k=1 then(if i<(g.length:Int)then(g.getD (g.length-1-i.toNat) .z,0)else(.z,6))else if k=2 then Nq s (Tm.tyH l (g++[s]))else uV (gp k s) (Tm.tO l g):=by rw[Tm.ty]
def gR(g:List Ty):Prop:=∀s∈g,s.err=0
def gR.app{g:List Ty}{s:Ty}(h:gR g)(hs:s.err=0):gR (g++[s]):=by
 intro u hu;rcases rl.1 hu with h'|h'
 .exact h u h'
 .grind
def KP{t:Ty}(h:t.err=0)(c:t.aiu=4):∃a b,t=.fn a b/\a.err=0/\b.err=0:=by
 rcases Ty.qs h with rfl|rfl|rfl|⟨a,b,rfl,_,_⟩|h
 .cases c
 .cases c
 .cases c
 .cases c
 .exact h
def zP{t:Ty}(h:t.err=0)(c:t.aiu=3):∃a b,t=.pr a b/\a.err=0/\b.err=0:=by
 rcases Ty.qs h with rfl|rfl|rfl|h|⟨a,b,rfl,_,_⟩
 .cases c
 .cases c
 .cases c
 .exact h
 .cases c
def uj{t:Ty}(h:t.err=0):t.aiu=1↔t=.nat:=by
 rcases Ty.qs h with rfl|rfl|rfl|⟨a,b,rfl,_,_⟩|⟨a,b,rfl,_,_⟩
 .exact⟨λ_=>rfl,λ_=>rfl⟩
 all_goals exact⟨λh=>(by cases h),λh=>(by cases h)⟩
def BN{t:Ty}(h:t.err=0):t.aiu=2↔t=.lW:=by
 rcases Ty.qs h with rfl|rfl|rfl|⟨a,b,rfl,_,_⟩|⟨a,b,rfl,_,_⟩
 .exact⟨λh=>(by cases h),λh=>(by cases h)⟩
 .exact⟨λ_=>rfl,λ_=>rfl⟩
 all_goals exact⟨λh=>(by cases h),λh=>(by cases h)⟩
theorem pE{r:Ty×Int}{o:List Ty⊕Int}(h:r.2≠0):Pw r o=.inr r.2:=cS h
theorem px{r:Ty×Int}{o:List Ty⊕Int}(h:r.2=0):Pw r o=match o with|.inl l=>.inl (r.1::l)|.inr e=>.inr e:=cO VW
theorem sh{f:List Ty->Ty×Int}{e:Int}{r:Ty}(h:uV f (.inr e)=(r,0)):e=0:=(gu h).2
def xY{a:Tm}{g:List Ty}(h:(a.ty g).2=0):a.ty g=((a.ty g).1,0):=Prod.ext rfl h
def OP{a:Tm}{g:List Ty}{f:List Ty->Ty×Int}{r:Ty}(h:uV f (Tm.tO [a] g)=(r,0)):∃s,a.ty g=(s,0)/\f [s]=(r,0):=by
 rw[Tm.tO] at h
 by_cases b:(a.ty g).2=0
 .rw[px b] at h;exact⟨_,xY b,h⟩
 .grind[pE,sh]
def QD{a b:Tm}{g:List Ty}{f:List Ty->Ty×Int}{r:Ty}(h:uV f (Tm.tO [a,b] g)=(r,0)):∃s t,a.ty g=(s,0)/\b.ty g=(t,0)/\f [s,t]=(r,0):=by
 rw[Tm.tO,Tm.tO,Tm.tO] at h
 by_cases c:(a.ty g).2=0
 .rw[px c] at h
  by_cases d:(b.ty g).2=0
  .rw[px d] at h;exact⟨_,_,xY c,xY d,h⟩
  .grind[pE,sh]
 .grind[pE,sh]
def N1{a b c:Tm}{g:List Ty}{f:List Ty->Ty×Int}{r:Ty}(h:uV f (Tm.tO [a,b,c] g)=(r,0)):∃s t u,a.ty g=(s,0)/\b.ty g=(t,0)/\c.ty g=(u,0)/\f [s,t,u]=(r,0):=by
 rw[Tm.tO,Tm.tO,Tm.tO,Tm.tO] at h
 by_cases d:(a.ty g).2=0
 .rw[px d] at h
  by_cases i:(b.ty g).2=0
  .rw[px i] at h
   by_cases j:(c.ty g).2=0
   .rw[px j] at h;exact⟨_,_,_,xY d,xY i,xY j,h⟩
   .grind[pE,sh]
  .rw[pE i] at h;exact absurd (sh h) i
 .rw[pE d] at h;exact absurd (sh h) d
def p7:∀(n:Nat) (t:Tm),t.aiw<=n->t.ok=true->∀g,gR g->∀s,t.ty g=(s,0)->dG g t s/\s.err=0:=by
 intro n
 induction n with
 |zero=>intro t h;have:=t.dr;omega
 |succ n ih=>
  intro t hn F;refine Tm.nW (p:=λt=>t.aiw<=n+1->∀g,gR g->∀s,t.ty g=(s,0)->dG g t s/\s.err=0) ?_ ?_ ?_ ?_ ?_ ?_ ?_ ?_ ?_ ?_ ?_ ?_ ?_ t F hn
  .intro i _ g hg s h;rw[Tm.mm,cS rfl] at h
   split at h
   .rename_i hi
    have u:g.length-1-(i:Int).toNat<g.length:=VW
    have e:g[g.length-1-i]?=some s:=by
     have f:=(gu h).1;rw[Qm,z_] at f;rw[z_] at u;rw[l9 u] at f|-;simpa using f
    exact⟨.var i VW e,hg s (Gt e)⟩
   .have:=(gu h).2;omega
  .intro s b hs l hn g hg r h;rw[Tm.cQ] at hn;simp only[db] at hn;rw[Tm.mm,cO ab9,cS rfl,Tm.tyH] at h;unfold Nq at h
   split at h
   .rename_i w;exact absurd (gu h).2 w
   .rename_i w
    split at h
    .have:=(gu h).2;omega
    .rename_i f;obtain⟨o,d⟩:=ih b VW l (g++[s]) (hg.app hs) _ (xY (by simpa using w));have he:=Ty.xj hs d VW;obtain rfl:=(gu h).1;exact⟨.lam he o,he⟩
  .intro a b k l hn g hg r h;rw[Tm.cQ] at hn;simp only[db] at hn;rw[Tm.mm,cO ab9,cO ab9] at h;obtain⟨s,t,f,o,d⟩:=QD h;obtain⟨a1,a2⟩:=ih a VW k g hg _ f;obtain⟨q,v⟩:=ih b VW l g hg _ o;simp only[gp,if_true,yb,QH] at d
   split at d
   .rename_i j;obtain⟨x,y,rfl,A,hy⟩:=KP a2 j.1;have G:x=t:=j.2;obtain rfl:=(gu d).1;subst G;exact⟨.app a1 q,hy⟩
   .have:=(gu d).2;omega
  .intro hn g hg r h;rw[Tm.mm,cO ab9,cO ab9,Tm.tO] at h;simp only[uV,gp,reduceIte,Int.reduceEq] at h;obtain rfl:=(gu h).1;exact⟨.zero,Ty.fJ⟩
  .intro a k hn g hg r h;rw[Tm.cQ] at hn;simp only[db] at hn;rw[Tm.mm,cO ab9,cO ab9] at h;obtain⟨s,f,d⟩:=OP h;obtain⟨a1,a2⟩:=ih a VW k g hg _ f;simp only[gp,reduceIte,Int.reduceEq,yb] at d
   split at d
   .rename_i j;subst j;obtain rfl:=(gu d).1;exact⟨.succ a1,Ty.fJ⟩
   .have:=(gu d).2;omega
  .intro s a b c hs k l B hn g hg r h;rw[Tm.cQ] at hn;simp only[db] at hn;rw[Tm.mm,cO ab9,cO ab9] at h;obtain⟨x,y,z,f,o,C,d⟩:=N1 h;obtain⟨a1,a2⟩:=ih a VW k g hg _ f;obtain⟨q,v⟩:=ih b VW l g hg _ o;obtain⟨D,H⟩:=ih c VW B g hg _ C;simp only[gp,reduceIte,Int.reduceEq,yb,QH] at d
   split at d
   .rename_i j;have j:x=s/\y=.fn .nat (.fn s s)/\z=.nat:=j;obtain⟨rfl,rfl,rfl⟩:=j;obtain rfl:=(gu d).1;exact⟨.tI hs a1 q D,hs⟩
   .have:=(gu d).2;omega
  .intro hn g hg r h;rw[Tm.mm,cO ab9,cO ab9,Tm.tO] at h;simp only[uV,gp,reduceIte,Int.reduceEq] at h;obtain rfl:=(gu h).1;exact⟨.nil,Ty.nN⟩
  .intro a b k l hn g hg r h;rw[Tm.cQ] at hn;simp only[db] at hn;rw[Tm.mm,cO ab9,cO ab9] at h;obtain⟨s,t,f,o,d⟩:=QD h;obtain⟨a1,a2⟩:=ih a VW k g hg _ f;obtain⟨q,v⟩:=ih b VW l g hg _ o;simp only[gp,reduceIte,Int.reduceEq,yb,QH] at d
   split at d
   .rename_i j;obtain⟨rfl,rfl⟩:=j;obtain rfl:=(gu d).1;exact⟨.cons a1 q,Ty.nN⟩
   .have:=(gu d).2;omega
  .intro s a b c hs k l B hn g hg r h;rw[Tm.cQ] at hn;simp only[db] at hn;rw[Tm.mm,cO ab9,cO ab9] at h;obtain⟨x,y,z,f,o,C,d⟩:=N1 h;obtain⟨a1,a2⟩:=ih a VW k g hg _ f;obtain⟨q,v⟩:=ih b VW l g hg _ o;obtain⟨D,H⟩:=ih c VW B g hg _ C;simp only[gp,reduceIte,Int.reduceEq,yb,QH] at d
   split at d
   .rename_i j;have j:x=s/\y=.fn .nat (.fn .lW (.fn s s))/\z=.lW:=j;obtain⟨rfl,rfl,rfl⟩:=j;obtain rfl:=(gu d).1;exact⟨.fold hs a1 q D,hs⟩
   .have:=(gu d).2;omega
  .intro a b k l hn g hg r h;rw[Tm.cQ] at hn;simp only[db] at hn;rw[Tm.mm,cO ab9,cO ab9] at h;obtain⟨s,t,f,o,d⟩:=QD h;obtain⟨a1,a2⟩:=ih a VW k g hg _ f;obtain⟨q,v⟩:=ih b VW l g hg _ o;simp only[gp,reduceIte,Int.reduceEq,yb,QH] at d
   split at d
   .have:=(gu d).2;omega
   .rename_i j;have he:=Ty.P0 a2 v VW;obtain rfl:=(gu d).1;exact⟨.pair he a1 q,he⟩
  .intro a k hn g hg r h;rw[Tm.cQ] at hn;simp only[db] at hn;rw[Tm.mm,cO ab9,cO ab9] at h;obtain⟨s,f,d⟩:=OP h;obtain⟨a1,a2⟩:=ih a VW k g hg _ f;simp only[gp,reduceIte,Int.reduceEq,yb] at d
   split at d
   .rename_i j;obtain⟨x,y,rfl,A,hy⟩:=zP a2 j;obtain rfl:=(gu d).1;exact⟨.fst a1,A⟩
   .have:=(gu d).2;omega
  .intro a k hn g hg r h;rw[Tm.cQ] at hn;simp only[db] at hn;rw[Tm.mm,cO ab9,cO ab9] at h;obtain⟨s,f,d⟩:=OP h;obtain⟨a1,a2⟩:=ih a VW k g hg _ f;simp only[gp,reduceIte,Int.reduceEq,yb] at d
   split at d
   .rename_i j;obtain⟨x,y,rfl,A,hy⟩:=zP a2 j;obtain rfl:=(gu d).1;exact⟨.snd a1,hy⟩
   .have:=(gu d).2;omega
  .intro hn g hg r h;rw[Tm.mm,cO ab9,cO ab9,Tm.tO] at h;simp only[uV,gp,reduceIte,Int.reduceEq] at h;obtain rfl:=(gu h).1;exact⟨.unit,Ty.Gr⟩
end Go.eZ
namespace Go.eZ
open Go
def iZ(a:Ty):a.jE a=true:=(Ty.jM a a).2 rfl
def k7{a b:Ty}(h:a≠b):a.jE b=false:=by grind[Ty.jM]
def nH{n:Nat}{g:List Ty}:∀(l:List Tm) (i:Nat) (v:List Ty),(∀a∈l,eC n g a=some (a.ty g))->v.length+l.length<=1000->dH (λ(o:Int) (j:Tm)=>(λ(c:List Ty)=>
   cW (eC n g j) λd f=>
   if(dw f 0) then(
   some (dV.ret ((Ty.mk 0 []),f)))
   else(fa (eO c [d])<|some (.next (fu c [d])))):Int->Tm->((List Ty))->(Option (dV ((List Ty)) (Ty×Int)))) l i v=some (match Tm.tO l g with|.inl ts=>.inl (v++ts)|.inr e=>.inr (.z,e))
 |[],i,v,_,_=>by simp[Tm.tO]|a::l,i,v,h,q=>by
  simp only[kL] at q;have s:=h a acZ;rw[dJ,Tm.tO];rw[s]
  by_cases k:(a.ty g).2=0
  .rw[xY k,px rfl];simp only[cN];rw[cO ab9,dS ado];simp only[cY,cv,dQ];rw[nH l (i+1) _ (λb u=>h b (by simp[u])) (by rw[fj];simp;omega),fj];cases Tm.tO l g with
   |inl ts=>simp|inr e=>rfl
  .rw[pE k];generalize a.ty g=r at k;obtain⟨t,e⟩:=r;simp only[cN];rw[cS (by simpa[dw] using k)];rfl
def zI(l:List Tm)(g:List Ty):(∃e,e≠0/\Tm.tO l g=.inr e)\/∃ts,Tm.tO l g=.inl ts/\ts.length=l.length/\∀(i:Nat) (a:Tm),l[i]?=some a->∃s,ts[i]?=some s/\a.ty g=(s,0):=by
 induction l with
 |nil=>exact .inr ⟨[],by rw[Tm.tO],rfl,acZ⟩|cons a l ih=>
  rw[Tm.tO]
  grind[px,pE]
def Qg{f:List Ty->Ty×Int}{e:Int}:uV f (.inr e)=(.z,e):=rfl
def nJ{f:List Ty->Ty×Int}{l:List Ty}:uV f (.inl l)=f l:=rfl
def Cc{a:Tm}{g:List Ty}(b:a.ok=true)(hg:gR g):(∃e,e≠0/\Tm.tO [a] g=.inr e)\/∃s,Tm.tO [a] g=.inl [s]/\s.err=0:=by
 rcases zI [a] g with h|⟨ts,c,d,f⟩
 .grind
 .obtain⟨s,j,i⟩:=f 0 a rfl
  match ts,d with
  |[x],_=>
   obtain rfl:x=s:=by grind
   exact .inr ⟨x,c,(p7 _ a (gV _) b g hg _ i).2⟩
def CF{a b:Tm}{g:List Ty}(d:a.ok=true)(f:b.ok=true)(hg:gR g):(∃e,e≠0/\Tm.tO [a,b] g=.inr e)\/∃s t,Tm.tO [a,b] g=.inl [s,t]/\s.err=0/\t.err=0:=by
 rcases zI [a,b] g with h|⟨ts,i,j,c⟩
 .exact .inl h
 .obtain⟨s,n,k⟩:=c 0 a rfl;obtain⟨t,o,l⟩:=c 1 b rfl
  match ts,j with
  |[x,y],_=>
   obtain rfl:x=s:=by grind
   obtain rfl:y=t:=by grind
   exact .inr ⟨x,y,i,(p7 _ a (gV _) d g hg _ k).2,(p7 _ b (gV _) f g hg _ l).2⟩
def AR{a b c:Tm}{g:List Ty}(f:a.ok=true)(i:b.ok=true)(j:c.ok=true)(hg:gR g):(∃e,e≠0/\Tm.tO [a,b,c] g=.inr e)\/∃s t u,Tm.tO [a,b,c] g=.inl [s,t,u]/\s.err=0/\t.err=0/\u.err=0:=by
 rcases zI [a,b,c] g with h|⟨ts,k,l,d⟩
 .exact .inl h
 .obtain⟨s,v,n⟩:=d 0 a rfl;obtain⟨t,w,o⟩:=d 1 b rfl;obtain⟨u,q,r⟩:=d 2 c rfl
  match ts,l with
  |[x,y,z],_=>
   obtain rfl:x=s:=by grind
   obtain rfl:y=t:=by grind
   obtain rfl:z=u:=by simpa using q
   exact .inr ⟨x,y,z,k,(p7 _ a (gV _) f g hg _ n).2,(p7 _ b (gV _) i g hg _ o).2,(p7 _ c (gV _) j g hg _ r).2⟩
def Ek{t:Ty}(h:t.aiw<=1000000000)(a:t.ok=true):sO t=some (if 64<t.aiw then(.z,4)else(t,0)):=by
 unfold sO;rw[lJ h];unfold Ty.err;rw[cS a]
 split
 .rfl
 .rfl
section
variable{s x y z:Ty}
def zy:((x.aiu=4/\x.aiv.getD 0 .z=y)->gp 3 s [x,y]=(x.aiv.getD 1 .z,0))/\(¬(x.aiu=4/\x.aiv.getD 0 .z=y)->gp 3 s [x,y]=(.z,7)):=by
 unfold gp
 grind
def Fx:(x=.nat->gp 5 s [x]=(.nat,0))/\(x≠ .nat->gp 5 s [x]=(.z,7)):=by
 unfold gp
 grind
def vl:((x=s/\y=.fn .nat (.fn s s)/\z=.nat)->gp 6 s [x,y,z]=(s,0))/\(¬(x=s/\y=.fn .nat (.fn s s)/\z=.nat)->gp 6 s [x,y,z]=(.z,7)):=by
 unfold gp
 grind
def zR:((x=.nat/\y=.lW)->gp 8 s [x,y]=(.lW,0))/\(¬(x=.nat/\y=.lW)->gp 8 s [x,y]=(.z,7)):=by
 unfold gp
 grind
def vp:((x=s/\y=.fn .nat (.fn .lW (.fn s s))/\z=.lW)->gp 9 s [x,y,z]=(s,0))/\(¬(x=s/\y=.fn .nat (.fn .lW (.fn s s))/\z=.lW)->gp 9 s [x,y,z]=(.z,7)):=by
 unfold gp
 grind
def LY:gp 10 s [x,y]=if 64<1+x.aiw+y.aiw then(.z,4)else(.pr x y,0):=by
 rfl
def M6:gp 11 s [x]=if x.aiu=3 then(x.aiv.getD 0 .z,0)else(.z,7):=by
 rfl
def NL:gp 12 s [x]=if x.aiu=3 then(x.aiv.getD 1 .z,0)else(.z,7):=by
 rfl
end
def zl:∀(n:Nat) (t:Tm),t.aiw<=n->t.ok=true->∀g,gR g->g.length+t.aiw<=1000000->eC n g t=some (t.ty g):=by
 intro n
 induction n with
 |zero=>intro t h;have:=t.dr;omega
 |succ n ih=>
  intro t hn M;refine Tm.nW (p:=λt=>t.aiw<=n+1->∀g,gR g->g.length+t.aiw<=1000000->eC (n+1) g t=some (t.ty g)) ?_ ?_ ?_ ?_ ?_ ?_ ?_ ?_ ?_ ?_ ?_ ?_ ?_ t M hn
  .intro i _ g hg k;rw[Tm.cQ] at k;rw[eC,cS adL,Tm.mm,cS rfl]
   by_cases hi:(i:Int)<(g.length:Int)
   .rw[cO (by simp only[Tm.eW,eo,gI];omega),cS hi];simp only[Tm.eW,eo];rw[et (a:=(g.length:Int)) VW VW,et VW VW]
    have w:g.length-1-i<g.length:=VW
    have:dg g ((g.length:Int)-1-(i:Int))=some g[g.length-1-i]:=by
     unfold dg;rw[cS VW,show((g.length:Int)-1-(i:Int)).toNat=g.length-1-i by omega,l9 w]
    rw[this];simp only[cv];have G:=hg _ (CC w);rw[gX (by have:=ec G;omega)];simp only[cv,z_];rw[Qm,l9 w];rfl
   .rw[cS (by simp only[Tm.eW,eo,gI];omega),cO hi];rfl
  .intro s b hs k hn g hg d;rw[Tm.cQ] at hn d;simp only[db] at hn d;rw[eC,cO acZ,cS adL,Tm.mm,cO ab9,cS rfl,Tm.tyH];simp only[Tm.dU,Tm.dh,dA,im,cv,fj];rw[dS ado,cY,ih b VW k (g++[s]) (hg.app hs) ado];have K:=λh=>(p7 _ b (gV _) k (g++[s]) (hg.app hs) (b.ty (g++[s])).1 (xY h)).2;generalize b.ty (g++[s])=q at K;obtain⟨r,e⟩:=q;simp only[cN,Nq]
   by_cases H:e=0
   .subst H;have L:r.err=0:=K rfl;have I:=ec hs;have N:=ec L;rw[cO ab9,cO acZ,hQ VW VW];simp only[cv];rw[Ek (t:=Ty.fn s r) (by rw[Ty.iN];omega) (Ty.ok_two (.inr rfl) (Ty.kI hs).1 (Ty.kI L).1),Ty.iN]
    split<;>rfl
   .rw[cS (by simpa[dw] using H),cS H];rfl
  .intro a b j k hn g hg d;rw[Tm.cQ] at hn d;simp only[db] at hn d;rw[eC,cO acZ,cO acZ,Tm.mm,cO ab9,cO ab9];simp only[c6,Tm.dh,c8 (l:=[a,b]) acZ,cY];rw[nH [a,b] 0 [] (by intro x f;simp at f;rcases f with rfl|rfl<;>first|exact ih _ VW j g hg VW|exact ih _ VW k g hg VW) acZ];rcases CF j k hg with⟨e,he,h⟩|⟨s,t,h,hs,D⟩
   .rw[h];rfl
   .rw[h,nJ];simp only[cv,dk,eG,fE];rw[cS adL];simp only[oE,dA,fh,im,lY,cv]
    by_cases o:s.aiu=4
    .obtain⟨x,y,rfl,f,hy⟩:=KP hs o;rw[cO (by simp[Ty.fn,dw]),show(Ty.fn x y).aiv[0]?=some x from rfl];simp only[cv];rw[gY (by have:=ec f;omega)];simp only[cv]
     by_cases A:x=t
     .subst A;rw[iZ,cO ab9,show(Ty.fn x y).aiv[1]?=some y from rfl,(zy (x:=.fn x y) (y:=x)).1 ⟨rfl,rfl⟩];rfl
     .rw[k7 A,cS ab9,(zy (x:=.fn x y) (y:=t)).2 (λh=>A h.2)];rfl
    .rw[cS (by simpa[dw] using o),cS trivial,zy.2 (λh=>o h.1)];rfl
  .intro hn g hg d;rw[Tm.mm,cO ab9,cO ab9,Tm.tO];rfl
  .intro a j hn g hg d;rw[Tm.cQ] at hn d;simp only[db] at hn d;rw[eC,cO acZ,cO acZ,Tm.mm,cO ab9,cO ab9];simp only[c6,Tm.dh,c8 (l:=[a]) acZ,cY];rw[nH [a] 0 [] (by intro x f;simp at f;subst f;exact ih _ VW j g hg VW) acZ];rcases Cc j hg with⟨e,he,h⟩|⟨s,h,hs⟩
   .rw[h];rfl
   .rw[h,nJ];simp only[cv,dk,eG,fE];rw[cO acZ,cO acZ,cS adL];simp only[oE,dA,im,cv];rw[gY (by have:=ec hs;omega)];simp only[cv]
    by_cases B:s=.nat
    .subst B;rw[iZ,cS rfl,Fx.1 rfl]
    .rw[k7 B,cO ab9,Fx.2 B];rfl
  .intro s a b c hs j k F hn g hg d;rw[Tm.cQ] at hn d;simp only[db] at hn d;rw[eC,cO acZ,cO acZ,Tm.mm,cO ab9,cO ab9];simp only[c6,Tm.dh,c8 (l:=[a,b,c]) acZ,cY];rw[nH [a,b,c] 0 [] (by intro x f;simp at f;rcases f with rfl|rfl|rfl<;>first|exact ih _ VW j g hg VW|exact ih _ VW k g hg VW|exact ih _ VW F g hg VW) acZ];rcases AR j k F hg with⟨e,he,h⟩|⟨x,y,z,h,f,hy,J⟩
   .rw[h];rfl
   .have I:=ec hs;rw[h,nJ];simp only[cv,dk,eG,fE];rw[cO acZ,cO acZ,cO acZ,cS adL];simp only[oE,dA,fh,hV,im,lY,cv,Tm.dU];rw[gY (by have:=ec f;omega)];simp only[cv]
    by_cases u:x=s
    .subst u;rw[iZ,cS rfl,hQ VW VW];simp only[cv];rw[hQ (by rw[Ty.gi];omega) (by rw[Ty.iN];omega)];simp only[cv];rw[gY (by have:=ec hy;omega)];simp only[cv]
     by_cases v:y=.fn .nat (.fn x x)
     .subst v;rw[iZ,cS rfl,gY (by have:=ec J;omega)];simp only[cv]
      by_cases C:z=.nat
      .subst C;rw[iZ,cO ab9,gX VW,vl.1 ⟨rfl,rfl,rfl⟩];rfl
      .rw[k7 C,cS ab9,vl.2 (λh=>C h.2.2)];rfl
     .rw[k7 v,cO ab9,cS trivial,vl.2 (λh=>v h.2.1)];rfl
    .rw[k7 u,cO ab9,cS trivial,vl.2 (λh=>u h.1)];rfl
  .intro hn g hg d;rw[Tm.mm,cO ab9,cO ab9,Tm.tO];rfl
  .intro a b j k hn g hg d;rw[Tm.cQ] at hn d;simp only[db] at hn d;rw[eC,cO acZ,cO acZ,Tm.mm,cO ab9,cO ab9];simp only[c6,Tm.dh,c8 (l:=[a,b]) acZ,cY];rw[nH [a,b] 0 [] (by intro x f;simp at f;rcases f with rfl|rfl<;>first|exact ih _ VW j g hg VW|exact ih _ VW k g hg VW) acZ];rcases CF j k hg with⟨e,he,h⟩|⟨s,t,h,hs,D⟩
   .rw[h];rfl
   .rw[h,nJ];simp only[cv,dk,eG,fE];rw[cO acZ,cO acZ,cO acZ,cO acZ,cO acZ,cS adL];simp only[oE,dA,fh,im,lY,cv];rw[gY (by have:=ec hs;omega)];simp only[cv]
    by_cases u:s=.nat
    .subst u;rw[iZ,cS rfl,gY (by have:=ec D;omega)];simp only[cv]
     by_cases v:t=.lW
     .subst v;rw[iZ,cO ab9,zR.1 ⟨rfl,rfl⟩]
     .rw[k7 v,cS ab9,zR.2 (λh=>v h.2)];rfl
    .rw[k7 u,cO ab9,cS trivial,zR.2 (λh=>u h.1)];rfl
  .intro s a b c hs j k F hn g hg d;rw[Tm.cQ] at hn d;simp only[db] at hn d;rw[eC,cO acZ,cO acZ,Tm.mm,cO ab9,cO ab9];simp only[c6,Tm.dh,c8 (l:=[a,b,c]) acZ,cY];rw[nH [a,b,c] 0 [] (by intro x f;simp at f;rcases f with rfl|rfl|rfl<;>first|exact ih _ VW j g hg VW|exact ih _ VW k g hg VW|exact ih _ VW F g hg VW) acZ];rcases AR j k F hg with⟨e,he,h⟩|⟨x,y,z,h,f,hy,J⟩
   .rw[h];rfl
   .have I:=ec hs;rw[h,nJ];simp only[cv,dk,eG,fE];rw[cO acZ,cO acZ,cO acZ,cO acZ,cO acZ,cO acZ,cS adL];simp only[oE,dA,fh,hV,im,lY,cv,Tm.dU];rw[gY (by have:=ec f;omega)];simp only[cv]
    by_cases u:x=s
    .subst u;rw[iZ,cS rfl,hQ VW VW];simp only[cv];rw[hQ (by rw[Ty.oh];omega) (by rw[Ty.iN];omega)];simp only[cv];rw[hQ (by rw[Ty.gi];omega) (by rw[Ty.iN,Ty.iN,Ty.oh];omega)];simp only[cv];rw[gY (by have:=ec hy;omega)];simp only[cv]
     by_cases v:y=.fn .nat (.fn .lW (.fn x x))
     .subst v;rw[iZ,cS rfl,gY (by have:=ec J;omega)];simp only[cv]
      by_cases C:z=.lW
      .subst C;rw[iZ,cO ab9,gX VW,vp.1 ⟨rfl,rfl,rfl⟩];rfl
      .rw[k7 C,cS ab9,vp.2 (λh=>C h.2.2)];rfl
     .rw[k7 v,cO ab9,cS trivial,vp.2 (λh=>v h.2.1)];rfl
    .rw[k7 u,cO ab9,cS trivial,vp.2 (λh=>u h.1)];rfl
  .intro a b j k hn g hg d;rw[Tm.cQ] at hn d;simp only[db] at hn d;rw[eC,cO acZ,cO acZ,Tm.mm,cO ab9,cO ab9];simp only[c6,Tm.dh,c8 (l:=[a,b]) acZ,cY];rw[nH [a,b] 0 [] (by intro x f;simp at f;rcases f with rfl|rfl<;>first|exact ih _ VW j g hg VW|exact ih _ VW k g hg VW) acZ];rcases CF j k hg with⟨e,he,h⟩|⟨s,t,h,hs,D⟩
   .rw[h];rfl
   .have I:=ec hs;have N:=ec D;rw[h,nJ];simp only[cv,dk,eG,fE];rw[cO acZ,cO acZ,cO acZ,cO acZ,cO acZ,cO acZ,cO acZ,cS adL];simp only[oE,dA,fh,im,lY,cv];rw[xb VW VW];simp only[cv];rw[Ek (t:=Ty.pr s t) (by rw[Ty.uL];omega) (Ty.ok_two (.inl rfl) (Ty.kI hs).1 (Ty.kI D).1),Ty.uL];rw[LY]
    split<;>rfl
  .intro a j hn g hg d;rw[Tm.cQ] at hn d;simp only[db] at hn d;rw[eC,cO acZ,cO acZ,Tm.mm,cO ab9,cO ab9];simp only[c6,Tm.dh,c8 (l:=[a]) acZ,cY];rw[nH [a] 0 [] (by intro x f;simp at f;subst f;exact ih _ VW j g hg VW) acZ];rcases Cc j hg with⟨e,he,h⟩|⟨s,h,hs⟩
   .rw[h];rfl
   .rw[h,nJ];simp only[cv,dk,eG,fE];rw[cO acZ,cO acZ,cO acZ,cO acZ,cO acZ,cO acZ,cO acZ,cO acZ,cS adL];simp only[oE,dA,im,cv];rw[M6]
    by_cases o:s.aiu=3
    .obtain⟨x,y,rfl,f,hy⟩:=zP hs o;rw[cO (by simp[Ty.pr,dw]),cS adL,cS (show(Ty.pr x y).aiu=3 from rfl)];rfl
    .rw[cS (by simpa[dw] using o),cO o];rfl
  .intro a j hn g hg d;rw[Tm.cQ] at hn d;simp only[db] at hn d;rw[eC,cO acZ,cO acZ,Tm.mm,cO ab9,cO ab9];simp only[c6,Tm.dh,c8 (l:=[a]) acZ,cY];rw[nH [a] 0 [] (by intro x f;simp at f;subst f;exact ih _ VW j g hg VW) acZ];rcases Cc j hg with⟨e,he,h⟩|⟨s,h,hs⟩
   .rw[h];rfl
   .rw[h,nJ];simp only[cv,dk,eG,fE];rw[cO acZ,cO acZ,cO acZ,cO acZ,cO acZ,cO acZ,cO acZ,cO acZ,cS adL];simp only[oE,dA,im,cv];rw[NL]
    by_cases o:s.aiu=3
    .obtain⟨x,y,rfl,f,hy⟩:=zP hs o;rw[cO (by simp[Ty.pr,dw]),cO acZ,cS (show(Ty.pr x y).aiu=3 from rfl)];rfl
    .rw[cS (by simpa[dw] using o),cO o];rfl
  .intro hn g hg d;rw[Tm.mm,cO ab9,cO ab9,Tm.tO];rfl
end Go.eZ
namespace Go.eZ
open Go
def IG:fO=ey:=by
 funext n
 induction n with
 |zero=>rfl|succ n ih=>
  funext a b
  rw[fO,ey,ih]
def pt{a b:Ty}(h:a.aiw<=1000000000):fO FU a b=some (a.jE b):=by rw[IG];exact gY h
def rT(t:Ty):cR:=⟨t,(t.aiw:Int)⟩
def TB:cR:=⟨.mk 0 [],0⟩
def IM(r:Ty×Int):cR×Int:=if r.2=0 then(rT r.1,0)else(TB,r.2)
@[simp] theorem o8(t:Ty):IM (t,0)=(rT t,0):=cS rfl
def kW{t:Ty}{e:Int}(h:e≠0):IM (t,e)=(TB,e):=cO h
@[simp] theorem tR(t:Ty):(rT t).cT=t:=by rfl
@[simp] theorem Js(t:Ty):(rT t).aiw=(t.aiw:Int):=by rfl
theorem kq{t:Ty}(h:t.err=0):l6 t=some (rT t):=by
 unfold l6;rw[kM (by have:=ec h;omega),cS h];rfl
def y8(k:Int){a b:Ty}(c:a.aiw<=1000000)(d:b.aiw<=1000000):qA k (rT a) (rT b)=some (if 64<1+a.aiw+b.aiw then(TB,4)else(rT (.mk k [a,b]),0)):=by
 unfold qA;simp only[Js,tR];rw[dP (a:=1) VW VW,dP VW VW]
 by_cases h:64<1+a.aiw+b.aiw
 .rw[cS (by simp only[fy];omega),cS h];rfl
 .rw[cO (by simp only[fy];omega),cO h];unfold rT;rw[Ty.zA]
  congr 3
theorem rb{a b:Ty}(c:a.aiw<=1000000):jG (rT a) (rT b)=some (a.jE b):=by
 unfold jG;simp only[c6,Js,tR]
 by_cases h:(a.aiw:Int)=(b.aiw:Int)
 .rw[cS (by simpa[dj] using h),pt VW];rfl
 .rw[cO (by simpa[dj] using h),k7 (by rintro rfl;exact h rfl)]
def rn{t x:Ty}{i:Int}(h:dg t.aiv i=some x)(a:x.err=0):iK (rT t) i=some (rT x):=by
 unfold iK;simp only[tR,h,cv,kq a]
def vz:mv=some .nat:=rfl
def KL:v7=some .lW:=rfl
def Uc{l:List Ty}(d:l.length<=1000):∀(i m:Nat) (k:Int) (as:List Ty),i<=l.length->i<m->nt ((Zl λ(a:Int) (v49:Int) (b:List Ty)=>
   if(pH a 0) then(
   cM (dg l a) λc=>
   some (.next ((ed .i64 a 1),4,[c,(Ty.mk v49 b)])))
   else(some (.brk (a,v49,b)))):(Int×Int×(List Ty))->(Option (dV (Int×Int×(List Ty)) (Ty)))) m ((i:Int)-1,k,as)=some (.inl (-1,((l.take i).foldr Ty.fn (.mk k as)).aiu,((l.take i).foldr Ty.fn (.mk k as)).aiv))
 |0,m+1,k,as,_,_=>by
  rw[kb];simp only[Zl];rw[cO (by rw[gI];omega)];rfl
 |i+1,m+1,k,as,hi,hm=>by
  rw[kb];simp only[Zl];rw[cS (by rw[gI];omega),show((i+1:Nat):Int)-1=(i:Int) by omega,gP,l9 VW];simp only[cv,dQ];rw[et VW VW];have h:=Uc d i m 4 [l[i],.mk k as] VW VW;rw[h,acj,l9 VW];simp only[afm,afD,List.foldr_cons,List.foldr_nil];rfl
def yB(t:Ty)(l:List Ty)(a:l.length<=1000):nU t l=some (l.foldr Ty.fn t):=by
 unfold nU;simp only[c6];rw[eo,et VW VW];have h:=Uc a l.length FU t.aiu t.aiv (gV _) (aak VW);rw[h,cv];rw[ac4]
 have e:Ty.mk t.aiu t.aiv=t:=by cases t;rfl
 rw[e];generalize List.foldr Ty.fn t l=r;cases r;rfl
def Th(a b t:Ty):nU t [a,b]=some (.fn a (.fn b t)):=yB t [a,b] acZ
def S'(a b c t:Ty):nU t [a,b,c]=some (.fn a (.fn b (.fn c t))):=yB t [a,b,c] acZ
def RY(a t:Ty):nU t [a]=some (.fn a t):=yB t [a] acZ
def rV:List Ty->cR×cR×cR
 |[]=>(TB,TB,TB)|[a]=>(rT a,TB,TB)|[a,b]=>(rT a,rT b,TB)|a::b::c::_=>(rT a,rT b,rT c)
def Ed(x:cR)(k:Int):ig x k=some (dj x.cT.aiu k):=rfl
def Ex(t:Ty)(k:Int):dj (rT t).cT.aiu k=decide (t.aiu=k):=by
 rw[tR];exact tC _ _
def ES(s:Ty)(l:List Tm)(i:Int):oO (.mk 6 i s l)=some (.fn .nat (.fn s s)):=by
 unfold oO;rw[cO acZ];simp only[vz,cv];rw[Th];rfl
def CV(s:Ty)(l:List Tm)(i:Int):oO (.mk 9 i s l)=some (.fn .nat (.fn .lW (.fn s s))):=by
 unfold oO;rw[cS acZ];simp only[vz,KL,cv];rw[S'];rfl
section
variable{s x y z:Ty} {i:Int} {l:List Tm}
def WC(j:x.err=0)(hy:y.err=0):fp (.mk 3 i s l) (rV [x,y])=some (IM (gp 3 s [x,y])):=by
 unfold fp;rw[show iW (Tm.mk 3 i s l).aiu=some [] from rfl];simp only[cv];rw[cO acZ,cS adL];simp only[c6,rV,Ed,cv,Ex]
 by_cases d:x.aiu=4
 .obtain⟨a,b,rfl,f,k⟩:=KP j d;rw[cS adL,rn (t:=.fn a b) (x:=a) rfl f];simp only[cv];rw[rb (by have:=ec f;omega)];simp only[cv]
  by_cases c:a=y
  .subst c;rw[iZ,cO acZ,rn (t:=.fn a b) (x:=b) rfl k,(zy (x:=.fn a b) (y:=a)).1 ⟨rfl,rfl⟩];simp only[cv];rw[show(Ty.fn a b).aiv.getD 1 .z=b from rfl,o8]
  .rw[k7 c,cS acZ,(zy (x:=.fn a b) (y:=y)).2 (λh=>c h.2),kW ab9];rfl
 .rw[cO (by simpa using d),cS trivial,zy.2 (λh=>d h.1),kW ab9];rfl
def S5(a:x.err=0)(hy:y.err=0):fp (.mk 10 i s l) (rV [x,y])=some (IM (gp 10 s [x,y])):=by
 unfold fp;rw[show iW (Tm.mk 10 i s l).aiu=some [] from rfl];simp only[cv];rw[cO acZ,cO acZ,cO acZ,cS adL];simp only[rV];rw[y8 3 (by have:=ec a;omega) (by have:=ec hy;omega),LY]
 split
 .simp only[cN];rw[kW ab9]
 .simp only[cN];rw[o8];rfl
def Ub(d:x.err=0):fp (.mk 11 i s l) (rV [x])=some (IM (gp 11 s [x])):=by
 unfold fp;rw[show iW (Tm.mk 11 i s l).aiu=some [] from rfl];simp only[cv];rw[cO acZ,cO acZ,cO acZ,cO acZ];simp only[rV,Ed,cv,Ex];rw[M6]
 by_cases c:x.aiu=3
 .obtain⟨a,b,rfl,f,h⟩:=zP d c;rw[cS adL,cS adL,rn (t:=.pr a b) (x:=a) rfl f,cS (show(Ty.pr a b).aiu=3 from rfl)];simp only[cv];rw[show(Ty.pr a b).aiv.getD 0 .z=a from rfl,o8]
 .rw[cO (by simpa using c),cO c,kW ab9];rfl
def U5(d:x.err=0):fp (.mk 12 i s l) (rV [x])=some (IM (gp 12 s [x])):=by
 unfold fp;rw[show iW (Tm.mk 12 i s l).aiu=some [] from rfl];simp only[cv];rw[cO acZ,cO acZ,cO acZ,cO acZ];simp only[rV,Ed,cv,Ex];rw[NL]
 by_cases c:x.aiu=3
 .obtain⟨a,b,rfl,h,f⟩:=zP d c;rw[cS adL,cO acZ,rn (t:=.pr a b) (x:=b) rfl f,cS (show(Ty.pr a b).aiu=3 from rfl)];simp only[cv];rw[show(Ty.pr a b).aiv.getD 1 .z=b from rfl,o8]
 .rw[cO (by simpa using c),cO c,kW ab9];rfl
end
end Go.eZ
namespace Go.eZ
open Go
section
variable{s x y z:Ty} {i:Int} {l:List Tm}
def zr{k t:Int}(a:iW k=some [t])(b:Ty.err (.mk t [])=0):fp (.mk k i s l) (rV [])=some (rT (.mk t []),0):=by
 unfold fp;rw[show(Tm.mk k i s l).aiu=k from rfl,a,cv,cS (show lQ (dq [t]) 0=true by rfl),show k_ [t] 1 (dq [t])=some ([]:List Int)from rfl];simp only[cv,c8 (l:=([]:List Int)) acZ,cY,c6,nY,dk,dA,im];rw[kq b];rfl
def SN:fp (.mk 4 i s l) (rV [])=some (IM (gp 4 s [])):=zr rfl Ty.fJ
def Wt:fp (.mk 7 i s l) (rV [])=some (IM (gp 7 s [])):=zr rfl Ty.nN
def Sa:fp (.mk 13 i s l) (rV [])=some (IM (gp 13 s [])):=zr rfl Ty.Gr
def S8(b:x.err=0):fp (.mk 5 i s l) (rV [x])=some (IM (gp 5 s [x])):=by
 unfold fp;rw[show iW (Tm.mk 5 i s l).aiu=some [1,1] from rfl,cv,cS (show lQ (dq ([1,1]:List Int)) 0=true by rfl),show k_ ([1,1]:List Int) 1 (dq ([1,1]:List Int))=some [1] from rfl];simp only[cv,c8 (l:=([1]:List Int)) acZ,cY,c6,rV];rw[dJ,cS adL];simp only[Ed,cv,Ex]
 by_cases a:x.aiu=1
 .have hn:=(uj b).1 a;subst hn;rw[vD adL,cO ab9];simp only[cv,dQ,nY,dk,dA,im];rw[show l6 (Ty.mk 1 [])=some (rT .nat)from kq Ty.fJ,Fx.1 rfl,o8];rfl
 .rw[Fa a,cS ab9,Fx.2 (λh=>a ((uj b).2 h)),kW ab9];rfl
def SC(c:x.err=0)(hy:y.err=0):fp (.mk 8 i s l) (rV [x,y])=some (IM (gp 8 s [x,y])):=by
 unfold fp;rw[show iW (Tm.mk 8 i s l).aiu=some [2,1,2] from rfl,cv,cS (show lQ (dq ([2,1,2]:List Int)) 0=true by rfl),show k_ ([2,1,2]:List Int) 1 (dq ([2,1,2]:List Int))=some [1,2] from rfl];simp only[cv,c8 (l:=([1,2]:List Int)) acZ,cY,c6,rV];rw[dJ,cS adL];simp only[Ed,cv,Ex]
 by_cases b:x.aiu=1
 .have hn:=(uj c).1 b;subst hn;rw[vD adL,cO ab9];simp only[cv,dQ];rw[dJ,cO ab9,cS adL]
  by_cases a:y.aiu=2
  .have hn:=(BN hy).1 a;subst hn;rw[vD adL,cO ab9];simp only[cv,dQ,nY,dk,dA,im];rw[show l6 (Ty.mk 2 [])=some (rT .lW)from kq Ty.nN,zR.1 ⟨rfl,rfl⟩,o8];rfl
  .rw[Fa a,cS ab9,zR.2 (λh=>a ((BN hy).2 h.2)),kW ab9];rfl
 .rw[Fa b,cS ab9,zR.2 (λh=>b ((uj c).2 h.1)),kW ab9];rfl
def UR(hs:s.err=0)(d:x.err=0)(hy:y.err=0)(f:z.err=0):fp (.mk 6 i s l) (rV [x,y,z])=some (IM (gp 6 s [x,y,z])):=by
 unfold fp;rw[show iW (Tm.mk 6 i s l).aiu=some [] from rfl];simp only[cv];rw[cO ab9,cO acZ,cS adL];simp only[c6,rV,Tm.dU,kq hs,cv];rw[rb (by have:=ec d;omega)];simp only[cv]
 by_cases a:x=s
 .subst a;rw[iZ,cS rfl,ES];simp only[cv,tR];rw[pt (by have:=ec hy;omega)];simp only[cv]
  by_cases b:y=.fn .nat (.fn x x)
  .subst b;rw[iZ,cS rfl];simp only[Ed,cv];rw[show ep (dj (Tm.mk 6 i x l).aiu 9) (2:Int) 1=1 from rfl];simp only[Ex]
   by_cases c:z=.nat
   .subst c;rw[vD adL,cO ab9,vl.1 ⟨rfl,rfl,rfl⟩,o8]
   .rw[Fa (λh=>c ((uj f).1 h)),cS ab9,vl.2 (λh=>c h.2.2),kW ab9];rfl
  .rw[k7 b,cO ab9,cS trivial,vl.2 (λh=>b h.2.1),kW ab9];rfl
 .rw[k7 a,cO ab9,cS trivial,vl.2 (λh=>a h.1),kW ab9];rfl
def SK(hs:s.err=0)(d:x.err=0)(hy:y.err=0)(f:z.err=0):fp (.mk 9 i s l) (rV [x,y,z])=some (IM (gp 9 s [x,y,z])):=by
 unfold fp;rw[show iW (Tm.mk 9 i s l).aiu=some [] from rfl];simp only[cv];rw[cO ab9,cO acZ,cS adL];simp only[c6,rV,Tm.dU,kq hs,cv];rw[rb (by have:=ec d;omega)];simp only[cv]
 by_cases a:x=s
 .subst a;rw[iZ,cS rfl,CV];simp only[cv,tR];rw[pt (by have:=ec hy;omega)];simp only[cv]
  by_cases b:y=.fn .nat (.fn .lW (.fn x x))
  .subst b;rw[iZ,cS rfl];simp only[Ed,cv];rw[show ep (dj (Tm.mk 9 i x l).aiu 9) (2:Int) 1=2 from rfl];simp only[Ex]
   by_cases c:z=.lW
   .subst c;rw[vD adL,cO ab9,vp.1 ⟨rfl,rfl,rfl⟩,o8]
   .rw[Fa (λh=>c ((BN f).1 h)),cS ab9,vp.2 (λh=>c h.2.2),kW ab9];rfl
  .rw[k7 b,cO ab9,cS trivial,vp.2 (λh=>b h.2.1),kW ab9];rfl
 .rw[k7 a,cO ab9,cS trivial,vp.2 (λh=>a h.1),kW ab9];rfl
end
def Z8(p:cR×cR×cR):Int×(List Ty)×Int×Int×(List Ty)×Int×Int×(List Ty)×Int:=
 (p.1.cT.aiu,p.1.cT.aiv,p.1.aiw,p.2.1.cT.aiu,p.2.1.cT.aiv,p.2.1.aiw,p.2.2.cT.aiu,p.2.2.cT.aiv,p.2.2.aiw)
def Ey{n:Nat}{g:List Ty}:∀(l:List Tm) (d:List Ty),d.length+l.length<=3->(∀a∈l,dD n (g.map rT) a=some (IM (a.ty g)))->dH (λ(f:Int) (A:Tm)=>(un9 λ(i:Int) (j:List Ty) (v218:Int) (k:Int) (o:List Ty) (q:Int) (v222:Int) (s:List Ty) (w:Int)=>
   cW (dD n (g.map rT) A) λc x=>
   if(dw x 0) then(
   some (.ret ((cR.mk (Ty.mk 0 []) 0),x)))
   else(if(dj f 0) then(
   some (.next (c.cT.aiu,c.cT.aiv,c.aiw,k,o,q,v222,s,w)))
   else(if(dj f 1) then(
   some (.next (i,j,v218,c.cT.aiu,c.cT.aiv,c.aiw,v222,s,w)))
   else(fa (dj f 2)<|some (.next (i,j,v218,k,o,q,c.cT.aiu,c.cT.aiv,c.aiw)))))):Int->Tm->(Int×(List Ty)×Int×Int×(List Ty)×Int×Int×(List Ty)×Int)->(Option (dV (Int×(List Ty)×Int×Int×(List Ty)×Int×Int×(List Ty)×Int) (cR×Int)))) l d.length (Z8 (rV d))=some (match Tm.tO l g with|.inl ts=>.inl (Z8 (rV (d++ts)))|.inr e=>.inr (TB,e))
 |[],d,_,_=>by simp[Tm.tO]|a::l,d,B,h=>by
  simp only[kL] at B;rw[dJ,Tm.tO];have D:=h a acZ;simp only[Z8,un9];rw[D]
  by_cases y:(a.ty g).2=0
  .rw[xY y,px rfl,o8,cN,cO ab9];generalize (a.ty g).1=t
   have go:∀C:List Ty,C=d++[t]->(some (dV.next (Z8 (rV C))):Option (dV (Int×(List Ty)×Int×Int×(List Ty)×Int×Int×(List Ty)×Int) (cR×Int)))=some (dV.next (Z8 (rV (d++[t])))):=λC e=>by rw[e]
   have ih:=Ey l (d++[t]) ado (λb F=>h b (by simp[F]));rw[qj,kL,uz] at ih
   have fin:(some (match Tm.tO l g with|.inl ts=>.inl (Z8 (rV (d++[t]++ts)))|.inr e=>.inr (TB,e)):Option ((Int×(List Ty)×Int×Int×(List Ty)×Int×Int×(List Ty)×Int)⊕(cR×Int)))=some (match(match Tm.tO l g with|.inl ts=>Sum.inl (t::ts)|.inr e=>Sum.inr e:List Ty⊕Int)with|.inl ts=>.inl (Z8 (rV (d++ts)))|.inr e=>.inr (TB,e)):=by
    cases Tm.tO l g with
    |inl ts=>simp|inr e=>rfl
   match d,B with
   |[],_=>
    rw[cS adL];exact ih.trans fin
   |[u],_=>
    rw[cO acZ,cS adL];exact ih.trans fin
   |[u,v],_=>
    rw[cO acZ,cO acZ,show dj (([u,v].length:Nat):Int) 2=true from rfl,cY];exact ih.trans fin
   |_::_::_::_,B=>simp at B;omega
  .rw[pE y];generalize a.ty g=r at y;obtain⟨t,e⟩:=r;simp only at y;rw[kW y,cN,cS (by simpa[dw] using y)];rfl
def YS(p:cR×cR×cR):((cR.mk (Ty.mk p.1.cT.aiu p.1.cT.aiv) p.1.aiw),(cR.mk (Ty.mk p.2.1.cT.aiu p.2.1.cT.aiv) p.2.1.aiw),(cR.mk (Ty.mk p.2.2.cT.aiu p.2.2.cT.aiv) p.2.2.aiw))=p:=by
 have e:∀t:Ty,Ty.mk t.aiu t.aiv=t:=λt=>by cases t;rfl
 obtain⟨⟨a,b⟩,⟨c,d⟩,⟨h,f⟩⟩:=p;simp only[e]
def kA{n:Nat}{g:List Ty}{k i:Int}{s:Ty}{l:List Tm}(q:k≠1)(r:k≠2)(t:l.length<=3)(h:∀a∈l,dD n (g.map rT) a=some (IM (a.ty g)))
  (hn:∀ts,Tm.tO l g=.inl ts->fp (.mk k i s l) (rV ts)=some (IM (gp k s ts))):dD (n+1) (g.map rT) (.mk k i s l)=some (IM ((Tm.mk k i s l).ty g)):=by
 rw[dD,cO (by simpa[dj] using q),cO (by simpa[dj] using r),Tm.mm,cO q,cO r];simp only[c6,Tm.dh];rw[c8 VW,cY];have f:=Ey l [] (by simpa using t) h;refine(congrArg (λo=>cM o _) f).trans ?_;simp only[cv];cases j:Tm.tO l g with
 |inr e=>
  rw[Qg]
  have he:e≠0:=by
   rcases zI l g with⟨u,d,c⟩|⟨ts,d,_⟩
   .rw[j] at c;cases c;exact d
   .rw[j] at d;cases d
  rw[kW he];rfl
 |inl ts=>
  simp only[oE,dk,nJ,Z8,un9];rw[YS,hn ts j,show∀p:cR×Int,(cW (some p) λa b=>some (a,b))=some p fromλ_=>rfl]
end Go.eZ
namespace Go.eZ
open Go
def yv(g:List Ty)(s:Ty):g.map rT++[rT s]=(g++[s]).map rT:=acZ
def DC:∀(n:Nat) (t:Tm),t.aiw<=n->t.ok=true->∀g,gR g->g.length+t.aiw<=1000000->dD n (g.map rT) t=some (IM (t.ty g)):=by
 intro n
 induction n with
 |zero=>intro t h;have:=t.dr;omega
 |succ n ih=>
  intro t hn B
  have one:∀{a:Tm} {g:List Ty} {ts:List Ty},a.ok=true->gR g->Tm.tO [a] g=.inl ts->∃x,ts=[x]/\x.err=0:=by
   intro a g ts j hg h;rcases Cc j hg with⟨e,_,o⟩|⟨x,o,f⟩<;>rw[h] at o<;>cases o;exact⟨x,rfl,f⟩
  have two:∀{a b:Tm} {g:List Ty} {ts:List Ty},a.ok=true->b.ok=true->gR g->Tm.tO [a,b] g=.inl ts->∃x y,ts=[x,y]/\x.err=0/\y.err=0:=by
   intro a b g ts j k hg h;rcases CF j k hg with⟨e,_,o⟩|⟨x,y,o,f,hy⟩<;>rw[h] at o<;>cases o;exact⟨x,y,rfl,f,hy⟩
  have three:∀{a b c:Tm} {g:List Ty} {ts:List Ty},a.ok=true->b.ok=true->c.ok=true->gR g->Tm.tO [a,b,c] g=.inl ts->∃x y z,ts=[x,y,z]/\x.err=0/\y.err=0/\z.err=0:=by
   intro a b c g ts j k l hg h;rcases AR j k l hg with⟨e,_,o⟩|⟨x,y,z,o,f,hy,u⟩<;>rw[h] at o<;>cases o;exact⟨x,y,z,rfl,f,hy,u⟩
  refine Tm.nW (p:=λt=>t.aiw<=n+1->∀g,gR g->g.length+t.aiw<=1000000->dD (n+1) (g.map rT) t=some (IM (t.ty g))) ?_ ?_ ?_ ?_ ?_ ?_ ?_ ?_ ?_ ?_ ?_ ?_ ?_ t B hn
  .intro i _ g hg k;rw[Tm.cQ] at k;rw[dD,cS adL,Tm.mm,cS rfl];simp only[Tm.eW,eo,A1]
   by_cases hi:(i:Int)<(g.length:Int)
   .rw[cO (by simp only[gI];omega),cS hi];rw[et (a:=(g.length:Int)) VW VW,et VW VW]
    have v:g.length-1-i<g.length:=VW
    have:dg (g.map rT) ((g.length:Int)-1-(i:Int))=some (rT g[g.length-1-i]):=by
     unfold dg;rw[cS VW,show((g.length:Int)-1-(i:Int)).toNat=g.length-1-i by omega,yA,l9 v];rfl
    rw[this];simp only[cv,z_];rw[Qm,l9 v];exact congrArg some (o8 _).symm
   .rw[cS (by simp only[gI];omega),cO hi,kW ab9];rfl
  .intro s b hs k hn g hg d;rw[Tm.cQ] at hn d;simp only[db] at hn d;rw[dD,cO acZ,cS adL,Tm.mm,cO ab9,cS rfl,Tm.tyH];simp only[Tm.dU,Tm.dh,kq hs,dA,im,cv,fj];rw[dS ado,cY,yv,ih b VW k (g++[s]) (hg.app hs) ado];have A:=λh=>(p7 _ b (gV _) k (g++[s]) (hg.app hs) (b.ty (g++[s])).1 (xY h)).2;generalize b.ty (g++[s])=q at A;obtain⟨r,e⟩:=q;simp only[Nq]
   by_cases w:e=0
   .subst w;have C:r.err=0:=A rfl;have D:=ec hs;have F:=ec C;rw[o8,cN,cO ab9,cO acZ,y8 4 VW VW]
    by_cases l:64<1+s.aiw+r.aiw
    .rw[cS l,cS l,kW ab9];rfl
    .rw[cO l,cO l,o8];rfl
   .rw[kW w,cN,cS (by simpa[dw] using w),cS w,kW w];rfl
  .intro a b j k hn g hg d;rw[Tm.cQ] at hn d;simp only[db] at hn d;refine kA ab9 ab9 acZ (by intro x f;simp at f;rcases f with rfl|rfl<;>first|exact ih _ VW j g hg VW|exact ih _ VW k g hg VW) (λts h=>?_);obtain⟨x,y,rfl,f,hy⟩:=two j k hg h;exact WC f hy
  .intro hn g hg d;exact kA ab9 ab9 acZ acZ (λts h=>by rw[Tm.tO] at h;cases h;exact SN)
  .intro a j hn g hg d;rw[Tm.cQ] at hn d;simp only[db] at hn d;refine kA ab9 ab9 acZ (by intro x f;simp at f;subst f;exact ih _ VW j g hg VW) (λts h=>?_);obtain⟨x,rfl,f⟩:=one j hg h;exact S8 f
  .intro s a b c hs j k l hn g hg d;rw[Tm.cQ] at hn d;simp only[db] at hn d;refine kA ab9 ab9 acZ (by intro x f;simp at f;rcases f with rfl|rfl|rfl<;>first|exact ih _ VW j g hg VW|exact ih _ VW k g hg VW|exact ih _ VW l g hg VW) (λts h=>?_);obtain⟨x,y,z,rfl,f,hy,u⟩:=three j k l hg h;exact UR hs f hy u
  .intro hn g hg d;exact kA ab9 ab9 acZ acZ (λts h=>by rw[Tm.tO] at h;cases h;exact Wt)
  .intro a b j k hn g hg d;rw[Tm.cQ] at hn d;simp only[db] at hn d;refine kA ab9 ab9 acZ (by intro x f;simp at f;rcases f with rfl|rfl<;>first|exact ih _ VW j g hg VW|exact ih _ VW k g hg VW) (λts h=>?_);obtain⟨x,y,rfl,f,hy⟩:=two j k hg h;exact SC f hy
  .intro s a b c hs j k l hn g hg d;rw[Tm.cQ] at hn d;simp only[db] at hn d;refine kA ab9 ab9 acZ (by intro x f;simp at f;rcases f with rfl|rfl|rfl<;>first|exact ih _ VW j g hg VW|exact ih _ VW k g hg VW|exact ih _ VW l g hg VW) (λts h=>?_);obtain⟨x,y,z,rfl,f,hy,u⟩:=three j k l hg h;exact SK hs f hy u
  .intro a b j k hn g hg d;rw[Tm.cQ] at hn d;simp only[db] at hn d;refine kA ab9 ab9 acZ (by intro x f;simp at f;rcases f with rfl|rfl<;>first|exact ih _ VW j g hg VW|exact ih _ VW k g hg VW) (λts h=>?_);obtain⟨x,y,rfl,f,hy⟩:=two j k hg h;exact S5 f hy
  .intro a j hn g hg d;rw[Tm.cQ] at hn d;simp only[db] at hn d;refine kA ab9 ab9 acZ (by intro x f;simp at f;subst f;exact ih _ VW j g hg VW) (λts h=>?_);obtain⟨x,rfl,f⟩:=one j hg h;exact Ub f
  .intro a j hn g hg d;rw[Tm.cQ] at hn d;simp only[db] at hn d;refine kA ab9 ab9 acZ (by intro x f;simp at f;subst f;exact ih _ VW j g hg VW) (λts h=>?_);obtain⟨x,rfl,f⟩:=one j hg h;exact U5 f
  .intro hn g hg d;exact kA ab9 ab9 acZ acZ (λts h=>by rw[Tm.tO] at h;cases h;exact Sa)
def wQ{t:Tm}{g:List Ty}(a:t.ok=true)(hg:gR g)(b:g.length+t.aiw<=1000000):dD FU (g.map rT) t=some (IM (t.ty g)):=
 DC FU t (by have:=dY;omega) a g hg b
noncomputable def nQ (t:Tm) (g:List Ty) (k:Int):Int:=if(t.ty g).2=0/\(t.ty g).1.aiu≠k then 7 else(t.ty g).2
def AF{t:Tm}{g:List Ty}(k:Int)(c:t.ok=true)(hg:gR g)(d:g.length+t.aiw<=1000000):gO (g.map rT) t k=some (nQ t g k):=by
 unfold gO nQ;rw[wQ c hg d];generalize t.ty g=q;obtain⟨r,e⟩:=q
 by_cases a:e=0
 .subst a;rw[o8,cN];simp only[c6];rw[cS adL,Ed,cv,Ex]
  by_cases b:r.aiu=k
  .rw[vD b,cO ab9,cO (λh=>h.2 b)]
  .rw[Fa b,cS ab9,cS ⟨trivial,b⟩]
 .rw[kW a,cN];simp only[c6];rw[cO (by simpa[dj] using a),cO ab9,cO (λh=>a h.1)]
def wE{t:Tm}{g:List Ty}(a:t.ok=true)(hg:gR g)(b:g.length+t.aiw<=1000000):gw (g.map rT) t=some (nQ t g 1):=by
 unfold gw;rw[AF 1 a hg b];rfl
end Go.eZ
