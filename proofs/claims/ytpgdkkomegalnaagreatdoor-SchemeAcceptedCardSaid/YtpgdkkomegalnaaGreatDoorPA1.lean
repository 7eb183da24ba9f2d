/- Part of the proof of SchemeAccepted: plain facts. -/
import Derived.Test.YtpgdkkomegalnaaGreatDoorM1
set_option linter.all false
namespace Go.fN
open Go
@[simp] theorem gQ(a b:Int):ee a b=true↔a=b:=by simp[ee]
@[simp] theorem er(a b:Int):eD a b=true↔a≠b:=by simp[eD]
@[simp] theorem rR(a b:Int):rA a b=true↔a<b:=by simp[rA]
@[simp] theorem abR(a b:Int):UD a b=true↔a<=b:=by simp[UD]
@[simp] theorem iw(a b:Int):oC a b=true↔b<a:=by simp[oC]
@[simp] theorem jj(a b:Int):qn a b=true↔b<=a:=by simp[qn]
@[simp] theorem lJ(a b:Bool):e_ a true b=(a||b):=by cases a<;>rfl
@[simp] theorem yf(a b:Bool):e_ a b false=(a&&b):=by cases a<;>rfl
@[simp] theorem aiC(a b:Bool):e_ a b true=(!a||b):=by cases a<;>rfl
@[simp] theorem UF(a:Bool):m6 a=!a:=rfl
@[simp] theorem jn{α:Type}(l m:List α):fT l m=l++m:=rfl
@[simp] theorem gB{α:Type}(l:List α):ey l=(l.length:Int):=rfl
theorem jR{α:Type}(l:List α)(i:Nat):dX l (i:Int)=l[i]?:=by simp[dX]
@[simp] theorem eO{α:Type}(l:List α):dX l 0=l[0]?:=by simp[dX]
@[simp] theorem hR{α:Type}(l:List α):dX l 1=l[1]?:=by simp[dX]
@[simp] theorem nc{α:Type}(l:List α):dX l 2=l[2]?:=by simp[dX]
def Li{α:Type}{l:List α}{i:Int}(b:0<=i)(c:i<l.length):∃x,dX l i=some x/\x∈l:=by
 obtain⟨k,rfl⟩:=af3 b
 have a:k<l.length:=xL
 exact⟨l[k],by rw[jR];simp[a],D9 a⟩
def ef{α:Type}{l:List α}(h:l.length<=1000000000):eM l=true:=by unfold eM uO;exact xe xL
def fR{α:Type}{l m:List α}(h:l.length+m.length<=1000000000):fK l m=true:=by unfold fK uO;exact xe xL
def ZN{b:Int}(h:b≠0):L8 b=true:=by simp[L8,h]
def Hu{n:Int}(a:-9223372036854775808<=n)(b:n<9223372036854775808):IntKind.i64.wrap n=n:=by
 rw[IntKind.wrap_i64];omega
def fW{a b:Int}(c:-9223372036854775808<=a+b)(d:a+b<9223372036854775808):eL .i64 a b=a+b:=Hu c d
theorem fZ{a b:Int}(c:-9223372036854775808<=a-b)(d:a-b<9223372036854775808):fH .i64 a b=a-b:=Hu c d
def M8{a b:Int}(c:-9223372036854775808<=a*b)(d:a*b<9223372036854775808):Nc .i64 a b=a*b:=Hu c d
section
variable{α β σ ρ:Type}
def LW{F:Int->α->σ->Option (fV σ ρ)}(I:σ->Prop)(Q:ρ->Prop):∀(l:List α) (i:Nat) (s:σ),I s->(∀k x s,l[k]?=some x->I s->(∃a,F ((i+k:Nat):Int) x s=some (.next a)/\I a)\/(∃r,F ((i+k:Nat):Int) x s=some (.ret r)/\Q r))->(∃a,eV F l i s=some (.inl a)/\I a)\/(∃r,eV F l i s=some (.inr r)/\Q r)
 |[],i,s,hs,_=>.inl ⟨s,rfl,hs⟩|x::l,i,s,hs,h=>by
  have f:=h 0 x s rfl hs;rw[GQ] at f;rw[fm];rcases f with⟨s1,b,c⟩|⟨r,b,c⟩
  ·rw[b];simp only[dF,fy];refine LW I Q l (i+1) s1 c λk y a j d=>?_;have:=h (k+1) y a (by simpa using j) d;rw[show i+(k+1)=i+1+k by omega] at this;exact this
  ·rw[b];exact .inr ⟨r,rfl,c⟩
def jX{F:Int->α->List β->Option (fV (List β) ρ)}(g:α->β):∀(l:List α) (i:Nat) (v:List β),v.length+l.length<=1000000000->(∀j x v,x∈l->v.length+1<=1000000000->F j x v=some (.next (v++[g x])))->eV F l i v=some (.inl (v++l.map g))
 |[],i,v,_,_=>by simp|x::l,i,v,a,h=>by
  simp only[oZ] at a;rw[fm,h i x v LA xL];simp only[dF,fy];rw[jX g l (i+1) (v++[g x]) Xw λj y v b c=>h j y v (by simp[b]) c];simp
def eb(g:α->Nat):List α->Nat
 |[]=>0|x::l=>g x+eb g l
def ew(g:α->Nat){l:List α}{x:α}(h:x∈l):g x<=eb g l:=by
 induction l with
 |nil=>cases h
 |cons y l ih=>
  simp only[eb];rcases lX.1 h with rfl|h
  ·omega
  ·have:=ih h;omega
def iX(g:α->Nat)(l:List α)(h:∀x∈l,1<=g x):l.length<=eb g l:=by
 induction l with
 |nil=>simp|cons y l ih=>simp only[eb,oZ];have:=h y LA;have:=ih λx a=>h x (by simp[a]);omega
def po{F:Int->α->Int->Option (fV Int ρ)}(g:α->Nat):∀(l:List α) (i v:Nat),v+eb g l<=4611686018427387904->(∀j x (v:Int),x∈l->F j x v=some (.next (eL .i64 v (g x))))->eV F l i (v:Int)=some (.inl ((v+eb g l:Nat):Int))
 |[],i,v,_,_=>by simp[eb]|x::l,i,v,a,h=>by
  simp only[eb] at a|-;rw[fm,h i x v LA,fW xL xL];simp only[dF,fy];have:=po g l (i+1) (v+g x) xL λj y v b=>h j y v (by simp[b]);rw[show(v:Int)+(g x:Int)=((v+g x:Nat):Int) by omega,this];rw[af5]
def vL{F:Int->α->Int->Option (fV Int ρ)}(g:α->Nat)(ok:α->Bool)(r:ρ):∀(l:List α) (i v:Nat),v+eb g l<=4611686018427387904->(∀j x (v:Int),x∈l->F j x v=if ok x then some (.next (eL .i64 v (g x)))else some (.ret r))->eV F l i (v:Int)=if l.all ok then some (.inl ((v+eb g l:Nat):Int))else some (.inr r)
 |[],i,v,_,_=>by simp[eb]|x::l,i,v,b,h=>by
  simp only[eb] at b|-;rw[fm,h i x v LA,fW xL xL];cases a:ok x with
  |false=>simp[a]|true=>
   simp only[if_true,dF,fy,Fu,a,Cp];have:=vL g ok r l (i+1) (v+g x) xL λj y v c=>h j y v (by simp[c]);rw[show(v:Int)+(g x:Int)=((v+g x:Nat):Int) by omega,this,af5]
def qK{F:Int->α->Unit->Option (fV Unit ρ)}(ok:α->Bool)(r:ρ):∀(l:List α) (i:Nat),(∀j x,x∈l->F j x ()=if ok x then some (.next ())else some (.ret r))->eV F l i ()=if l.all ok then some (.inl ())else some (.inr r)
 |[],i,_=>by simp|x::l,i,h=>by
  rw[fm,h i x LA];cases a:ok x with
  |false=>simp[a]|true=>
   simp only[if_true,dF,fy,Fu,a,Cp];exact qK ok r l (i+1) λj y b=>h j y (by simp[b])
def ft:List Int->Int
 |[]=>0|e::l=>if e=0 then ft l else e
def mC{F:Int->α->Unit->Option (fV Unit Int)}(e:α->Int):∀(l:List α) (i:Nat),(∀j x,x∈l->F j x ()=if e x≠0 then some (.ret (e x))else some (.next ()))->eV F l i ()=if ft (l.map e)=0 then some (.inl ())else some (.inr (ft (l.map e)))
 |[],i,_=>by simp[ft]|x::l,i,h=>by
  rw[fm,h i x LA]
  by_cases he:e x=0
  ·simp only[he,ft,lN,ne_eq,abV,lU,dF,fy,if_true];exact mC e l (i+1) λj y a=>h j y (by simp[a])
  ·simp[he,ft]
def v7(p:α->β->Bool):List α->List β->Bool
 |x::l,y::m=>p x y&&v7 p l m|[],[]=>true|_,_=>false
def xH{F:Int->α->Unit->Option (fV Unit Bool)}(p:α->β->Bool)(M:List β):∀(l:List α) (i:Nat) (m:List β),m=M.drop i->l.length=m.length->(∀(k:Nat) x y,x∈l->M[k]?=some y->F (k:Int) x ()=if p x y then some (.next ())else some (.ret false))->eV F l i ()=if v7 p l m then some (.inl ())else some (.inr false)
 |[],i,m,_,d,_=>by
  cases m with
  |nil=>simp[v7]|cons y m=>simp at d
 |x::l,i,m,hm,d,h=>by
  cases m with
  |nil=>simp at d
  |cons y m=>
   have c:i<M.length:=by
    rcases tU i M.length with h'|h'
    ·exact h'
    ·rw[Ku h'] at hm;cases hm
   rw[M5 c] at hm;injection hm with j n;rw[fm,h i x y LA (by simp[c,j])];cases f:p x y with
   |false=>simp[v7,f]|true=>
    simp only[if_true,dF,fy,v7,f,Cp];exact xH p M l (i+1) m n (by simpa using d) λk a b o q=>h k a b (by simp[o]) q
def xK(p:α->α->Bool):∀(l m:List α),(∀x∈l,∀y,p x y=true↔x=y)->(v7 p l m=true↔l=m)
 |[],[],_=>by simp[v7]|[],_::_,_=>by simp[v7]|_::_,[],_=>by simp[v7]|x::l,y::m,h=>by simp[v7,h x LA y,xK p l m λa b=>h a (by simp[b])]
def LD{F:σ->Option (fV σ ρ)}(I:σ->Prop)(μ:σ->Nat)(Q:σ⊕ρ->Prop)
  (h:∀s,I s->(∃a,F s=some (.next a)/\I a/\μ a<μ s)\/(∃a,F s=some (.FP a)/\Q (.inl a))\/(∃r,F s=some (.ret r)/\Q (.inr r))):∀(n:Nat) (s:σ),I s->μ s<n->∃o,n9 F n s=some o/\Q o
 |0,s,_,hn=>by omega|n+1,s,hs,hn=>by
  rw[qX];rcases h s hs with⟨a,b,c,d⟩|⟨a,b,c⟩|⟨r,b,c⟩
  ·rw[b];simp only[dF,fy];exact LD I μ Q h n a c xL
  ·rw[b];exact⟨_,rfl,c⟩
  ·rw[b];exact⟨_,rfl,c⟩
def aek{n:Nat}(h:n<1000000000):n<FU:=by rw[fI];exact h
end
end Go.fN
namespace Go.fN
open Go
mutual
def Ty.an8:Ty->Nat
 |.mk _ l=>1+Ty.nV l
def Ty.nV:List Ty->Nat
 |[]=>0|t::l=>t.an8+Ty.nV l
end
def Ty.q8(l:List Ty):Ty.nV l=eb Ty.an8 l:=by
 induction l with
 |nil=>rfl|cons t l ih=>simp[Ty.nV,eb,ih]
theorem Ty.dJ(k:Int)(l:List Ty):(Ty.mk k l).an8=1+eb Ty.an8 l:=by rw[Ty.an8,Ty.q8]
def Ty.eE(t:Ty):1<=t.an8:=by cases t;rw[Ty.an8];omega
def Ty.fF(l:List Ty):l.length<=eb Ty.an8 l:=iX _ _ λt _=>t.eE
def Ty.want(k:Int):Option Nat:=if k=1\/k=2\/k=5 then some 0 else if k=3\/k=4 then some 2 else none
mutual
def Ty.ok:Ty->Bool
 |.mk k l=>decide (Ty.want k=some l.length)&&Ty.L7 l
def Ty.L7:List Ty->Bool
 |[]=>true|t::l=>t.ok&&Ty.L7 l
end
def Ty.zL(l:List Ty):Ty.L7 l=l.all Ty.ok:=by
 induction l with
 |nil=>rfl|cons t l ih=>simp[Ty.L7,ih]
theorem Ty.gR(k:Int)(l:List Ty):(Ty.mk k l).ok=(decide (Ty.want k=some l.length)&&l.all Ty.ok):=by rw[Ty.ok,Ty.zL]
def Ty.err(t:Ty):Int:=if t.ok then(if 64<t.an8 then 4 else 0)else 2
def JI:∀(n:Nat) (t:Ty),t.an8<=n->t.an8<=1000000000->i_ n t=some t:=by
 intro n
 induction n with
 |zero=>intro t h;have:=t.eE;omega
 |succ n ih=>
  intro t h a;cases t with
  |mk k l=>
   rw[Ty.dJ] at h a;have d:=Ty.fF l;rw[i_];simp only[Ty.ez,Ty.eF,d_,ef (l:=l) xL,dY];rw[jX id l 0 [] Xw]
   ·simp
   ·intro j x v b c;have:=ew Ty.an8 b;rw[ih x xL xL];simp[fR (l:=v) (m:=[x]) (by simpa using c)]
def jo{t:Ty}(h:t.an8<=1000000000):i_ FU t=some t:=JI FU t (by rw[fI];exact h) h
def D1:∀(n:Nat) (t:Ty),t.an8<=n->t.an8<=1000000000->mB n t=some (if t.ok then((t.an8:Int),true)else(0,false)):=by
 intro n
 induction n with
 |zero=>intro t h;have:=t.eE;omega
 |succ n ih=>
  intro t h u;cases t with
  |mk k l=>
   rw[Ty.dJ] at h u;have A:=Ty.fF l
   have key:eV (λ(q:Int) (c:Ty) (d:Int)=>dR (mB n c) λf i=>if i then some (fV.next (eL .i64 d f))else some (fV.ret ((0:Int),false))) l 0 1=if l.all Ty.ok then some (.inl ((1+eb Ty.an8 l:Nat):Int))else some (.inr (0,false)):=by
    refine vL Ty.an8 Ty.ok _ l 0 1 xL ?_;intro j x v w;have:=ew Ty.an8 w;rw[ih x xL xL];cases x.ok<;>simp
   rw[mB];simp only[Ty.ez,Ty.eF,d_,ef (l:=l) xL,dY,key,lJ,r9,gQ,er,gB,Ty.gR,Ty.dJ,Ty.want]
   by_cases r:k=1\/k=2\/k=5
   ·simp only[r,if_true]
    by_cases b:l=[]
    ·subst b;simp[eb]
    ·have:¬(0=l.length):=by cases l with|nil=>exact absurd rfl b|cons a l=>simp
     have o:(l.length:Int)≠0:=xL
     simp[this,o,b]
   ·simp only[r,lU]
    by_cases b:k=3\/k=4
    ·simp only[b,if_true]
     by_cases o:l.length=2
     ·cases s:l.all Ty.ok<;>simp[o]
     ·have s:(l.length:Int)≠2:=xL
      have y:¬2=l.length:=xL
      simp[s,y]
    ·simp[b]
theorem lA{t:Ty}(h:t.an8<=1000000000):ja t=some (if t.err=0 then(t.an8:Int)else 0,t.err):=by
 unfold ja Ty.err;rw[D1 FU t (by rw[fI];exact h) h];cases t.ok with
 |false=>simp|true=>
  by_cases a:64<t.an8
  ·simp[a];omega
  ·simp[a];omega
def I9{t:Ty}(h:t.an8<=1000000000):pC t=some t.err:=by
 unfold pC;rw[lA h];rfl
def Ty.rh(t:Ty):Bool:=e_ (ee t.an6 0) (ee (ey t.an7) 0) false
theorem Ty.mO(t:Ty):t.rh=true↔t=.mk 0 []:=by
 cases t with
 |mk k l=>unfold Ty.rh;simp
theorem rF(t:Ty):od t=some t.rh:=rfl
def w_(t:Ty):pc t=some t.rh:=rfl
def JB:∀(n:Nat) (t:Ty),t.an8<=n->t.an8<=1000000000->pB n t=some t.ok:=by
 intro n
 induction n with
 |zero=>intro t h;have:=t.eE;omega
 |succ n ih=>
  intro t h r;cases t with
  |mk k l=>
   rw[Ty.dJ] at h r;have v:=Ty.fF l
   have key:eV (λ(i:Int) (c:Ty) (_:Unit)=>dE (pB n c) λd=>if d then some (fV.next ())else some (fV.ret false)) l 0 ()=if l.all Ty.ok then some (.inl ())else some (.inr false):=by
    refine qK Ty.ok _ l 0 ?_;intro j x s;have:=ew Ty.an8 s;rw[ih x xL xL];rfl
   rw[pB];simp only[Ty.ez,Ty.eF,d_,ef (l:=l) xL,dY,key,lJ,r9,gQ,er,gB,Ty.gR,Ty.want]
   by_cases o:k=1\/k=2\/k=5
   ·simp only[o,if_true]
    by_cases b:l=[]
    ·subst b;simp
    ·have:¬(0=l.length):=by cases l with|nil=>exact absurd rfl b|cons a l=>simp
     have f:(l.length:Int)≠0:=xL
     simp[this,f,b]
   ·simp only[o,lU]
    by_cases b:k=3\/k=4
    ·simp only[b,if_true]
     by_cases f:l.length=2
     ·cases q:l.all Ty.ok<;>simp[f]
     ·have q:(l.length:Int)≠2:=xL
      have u:¬2=l.length:=xL
      simp[q,u]
    ·simp[b]
def KR:∀(n:Nat) (t:Ty),t.an8<=n->t.an8<=1000000000->pd n t=some (t.an8:Int):=by
 intro n
 induction n with
 |zero=>intro t h;have:=t.eE;omega
 |succ n ih=>
  intro t h a;cases t with
  |mk k l=>
   rw[Ty.dJ] at h a;have c:=Ty.fF l;rw[pd];simp only[Ty.ez,d_,ef (l:=l) xL,dY]
   have key:=po (ρ:=Int) (F:=λ(j:Int) (x:Ty) (v:Int)=>dE (pd n x) λy=>some (fV.next (eL .i64 v y))) Ty.an8 l 0 1 xL (by
    intro j x v b;have:=ew Ty.an8 b;rw[ih x xL xL]
    rfl)
   rw[show(1:Int)=((1:Nat):Int)from rfl,key];simp[Ty.dJ]
def mm{t:Ty}(h:t.an8<=1000000000):ib t=some t.err:=by
 unfold ib Ty.err;rw[JB FU t (by rw[fI];exact h) h,KR FU t (by rw[fI];exact h) h];cases t.ok with
 |false=>simp|true=>by_cases a:64<t.an8<;>simp[a]<;>omega
def wW:∀(n:Nat) (a b:Ty),a.an8<=n->a.an8<=1000000000->∃r,fq n a b=some r/\(r=true↔a=b):=by
 intro n
 induction n with
 |zero=>intro t b h;have:=t.eE;omega
 |succ n ih=>
  intro a b h s;cases a with
  |mk k l=>
  cases b with
  |mk k' m=>
   rw[Ty.dJ] at h s;have v:=Ty.fF l;rw[fq];simp only[Ty.ez,Ty.eF,d_,ef (l:=l) xL,dY,lJ,r9,er,gB]
   by_cases d:k≠k'\/(l.length:Int)≠m.length
   ·rw[dO d];refine⟨false,rfl,?_⟩;simp only[qU,Si,Ty.mk.injEq,not_and];rintro rfl rfl;simp at d
   ·rw[dI d];simp only[not_or,u9] at d;obtain⟨rfl,hlen⟩:=d
    have c:l.length=m.length:=xL
    let p:Ty->Ty->Bool:=λx y=>(fq n x y).getD false
    have o:∀x∈l,∀y,fq n x y=some (p x y)/\(p x y=true↔x=y):=by
     intro x f y;have:=ew Ty.an8 f;obtain⟨r,q,i⟩:=ih x y xL xL
     have e:p x y=r:=by show(fq n x y).getD false=r;rw[q];rfl
     rw[e];exact⟨q,i⟩
    have key:=xH (F:=λ(j:Int) (x:Ty) (_:Unit)=>dE (dX m j) λy=>dE (fq n x y) λz=>if z then some (fV.next ())else some (fV.ret false)) p m l 0 m rfl c (by
     intro k x y f u;rw[jR,u];simp only[dF];rw[(o x f y).1]
     rfl)
    rw[key];have he:=xK p l m λx f y=>(o x f y).2;cases i:v7 p l m with
    |false=>exact⟨false,rfl,by rw[i] at he;simpa using he⟩
    |true=>exact⟨true,rfl,by rw[i] at he;simpa using he⟩
noncomputable def Ty.kX (a b:Ty):Bool:=@decide (a=b) (Classical.propDecidable _)
theorem Ty.kV(a b:Ty):a.kX b=true↔a=b:=by unfold Ty.kX;simp
theorem iK{a b:Ty}(h:a.an8<=1000000000):fq FU a b=some (a.kX b):=by
 obtain⟨r,c,d⟩:=wW FU a b (by rw[fI];exact h) h;rw[c]
 congr 1
 rw[Gr,d,Ty.kV]
mutual
def Tm.an8:Tm->Nat
 |.mk _ _ _ l=>1+Tm.nV l
def Tm.nV:List Tm->Nat
 |[]=>0|t::l=>t.an8+Tm.nV l
end
def Tm.q8(l:List Tm):Tm.nV l=eb Tm.an8 l:=by
 induction l with
 |nil=>rfl|cons t l ih=>simp[Tm.nV,eb,ih]
theorem Tm.dJ(k i:Int)(s:Ty)(l:List Tm):(Tm.mk k i s l).an8=1+eb Tm.an8 l:=by rw[Tm.an8,Tm.q8]
def Tm.eE(t:Tm):1<=t.an8:=by cases t;rw[Tm.an8];omega
def Tm.fF(l:List Tm):l.length<=eb Tm.an8 l:=iX _ _ λt _=>t.eE
mutual
def Tm.wt:Tm->Nat
 |.mk _ _ s l=>1+s.an8+Tm.Tb l
def Tm.Tb:List Tm->Nat
 |[]=>0|t::l=>t.wt+Tm.Tb l
end
def Tm.Ff(l:List Tm):Tm.Tb l=eb Tm.wt l:=by
 induction l with
 |nil=>rfl|cons t l ih=>simp[Tm.Tb,eb,ih]
def Tm.jg(k i:Int)(s:Ty)(l:List Tm):(Tm.mk k i s l).wt=1+s.an8+eb Tm.wt l:=by rw[Tm.wt,Tm.Ff]
def Tm.j2(t:Tm):1<=t.wt:=by cases t;rw[Tm.wt];omega
def Tm.qW(l:List Tm):l.length<=eb Tm.wt l:=iX _ _ λt _=>t.j2
def kG{α:Type}{f g:α->Nat}{l:List α}(h:∀x∈l,f x<=g x):eb f l<=eb g l:=by
 induction l with
 |nil=>simp[eb]|cons x l ih=>simp only[eb];have:=h x LA;have:=ih λy a=>h y (by simp[a]);omega
def pI{α β:Type}(f:β->Nat)(g:α->β)(l:List α):eb f (l.map g)=eb (λx=>f (g x)) l:=by
 induction l with
 |nil=>rfl|cons x l ih=>simp[eb,ih]
def vI{α:Type}{f g:α->Nat}{l:List α}(h:∀x∈l,f x=g x):eb f l=eb g l:=by
 induction l with
 |nil=>rfl|cons x l ih=>simp[eb,h x LA,ih λy a=>h y (by simp[a])]
def Tm.ind{p:Tm->Prop}(h:∀k i s l,(∀t∈l,p t)->p (.mk k i s l))(t:Tm):p t:=by
 have:∀n (t:Tm),t.an8<=n->p t:=by
  intro n
  induction n with
  |zero=>intro t a;have:=t.eE;omega
  |succ n ih=>
   intro t a;cases t with
   |mk k i s l=>
    rw[Tm.dJ] at a;exact h k i s l λu hu=>ih u (by have:=ew Tm.an8 hu;omega)
 exact this _ t (jy _)
def Tm.iA(t:Tm):t.an8<=t.wt:=by
 induction t using Tm.ind with
 |h k i s l ih=>rw[Tm.dJ,Tm.jg];have:=kG ih;omega
def j1(k:Int):Bool:=decide (k=2\/k=6\/k=9)
def gI(k:Int):Int:=
 if k=1\/k=4\/k=7\/k=13 then 0 else if k=2\/k=5\/k=11\/k=12 then 1 else if k=3\/k=8\/k=10 then 2 else if k=6\/k=9 then 3 else-1
def Tm.node(k i:Int)(s:Ty)(n:Nat):Bool:=
 decide ((n:Int)=gI k)&&decide (0<=i)&&(decide (k=1)||decide (i=0))&&(if j1 k then decide (s.err=0)else s.rh)
mutual
def Tm.ok:Tm->Bool
 |.mk k i s l=>Tm.node k i s l.length&&Tm.L7 l
def Tm.L7:List Tm->Bool
 |[]=>true|t::l=>t.ok&&Tm.L7 l
end
def Tm.zL(l:List Tm):Tm.L7 l=l.all Tm.ok:=by
 induction l with
 |nil=>rfl|cons t l ih=>simp[Tm.L7,ih]
theorem Tm.gR(k i:Int)(s:Ty)(l:List Tm):(Tm.mk k i s l).ok=(Tm.node k i s l.length&&l.all Tm.ok):=by rw[Tm.ok,Tm.zL]
def Tm.err(t:Tm):Int:=if t.ok then(if 4096<t.an8 then 4 else 0)else 2
def J3:∀(n:Nat) (t:Tm),t.wt<=n->t.wt<=1000000000->lI n t=some t:=by
 intro n
 induction n with
 |zero=>intro t h;have:=t.j2;omega
 |succ n ih=>
  intro t h a;cases t with
  |mk k i s l=>
   rw[Tm.jg] at h a;have d:=Tm.qW l;rw[lI];simp only[Tm.ez,Tm.eF,Tm.hB,Tm.fw,d_,ef (l:=l) xL,dY];rw[jX id l 0 [] Xw]
   ·simp[jo (t:=s) xL]
   ·intro j x v b c;have:=ew Tm.wt b;rw[ih x xL xL];simp[fR (l:=v) (m:=[x]) (by simpa using c)]
def tl{t:Tm}(h:t.wt<=1000000000):lI FU t=some t:=J3 FU t (by rw[fI];exact h) h
def pD(k:Int)(l:List Tm)(h:eb Tm.wt l<=1000000000):fJ k l=some (Tm.mk k 0 (.mk 0 []) l):=by
 have c:=Tm.qW l;unfold fJ;simp only[d_,ef (l:=l) xL,dY];rw[jX id l 0 [] Xw]
 ·simp
 ·intro j x v a b;have:=ew Tm.wt a;rw[tl (t:=x) xL];simp[fR (l:=v) (m:=[x]) (by simpa using b)]
def I6(k:Int)(s:Ty)(l:List Tm)(hs:s.an8<=1000000000)(h:eb Tm.wt l<=1000000000):lq k s l=some (Tm.mk k 0 s l):=by
 unfold lq;rw[pD k l h];simp[jo hs]
def La(k:Int):vw k=some (gI k):=by
 unfold vw gI;simp only[lJ,r9,gQ]
 split<;>(try rfl)
 split<;>(try rfl)
 split<;>(try rfl)
 split<;>rfl
def nR:∀(n:Nat) (t:Tm),t.an8<=n->t.an8<=1000000000->fP n t=some (t.an8:Int):=by
 intro n
 induction n with
 |zero=>intro t h;have:=t.eE;omega
 |succ n ih=>
  intro t h a;cases t with
  |mk k i s l=>
   rw[Tm.dJ] at h a;have c:=Tm.fF l;rw[fP];simp only[Tm.ez,d_,ef (l:=l) xL,dY]
   have key:=po (ρ:=Int) (F:=λ(j:Int) (x:Tm) (v:Int)=>dE (fP n x) λy=>some (fV.next (eL .i64 v y))) Tm.an8 l 0 1 xL (by
    intro j x v b;have:=ew Tm.an8 b;rw[ih x xL xL]
    rfl)
   rw[show(1:Int)=((1:Nat):Int)from rfl,key];simp[Tm.dJ]
def zT:∀(n:Nat) (t:Tm),t.wt<=n->t.wt<=1000000000->kx n t=some t.ok:=by
 intro n
 induction n with
 |zero=>intro t h;have:=t.j2;omega
 |succ n ih=>
  intro t h v;cases t with
  |mk k i s l=>
   rw[Tm.jg] at h v;have D:=Tm.qW l
   have key:eV (λ(o:Int) (a:Tm) (_:Unit)=>dE (kx n a) λb=>if b then some (fV.next ())else some (fV.ret false)) l 0 ()=if l.all Tm.ok then some (.inl ())else some (.inr false):=by
    refine qK Tm.ok _ l 0 ?_;intro j x w;have:=ew Tm.wt w;rw[ih x xL xL];rfl
   rw[kx]
   simp only[Tm.ez,Tm.eF,Tm.hB,Tm.fw,d_,ef (l:=l) xL,dY,key,lJ,r9,gQ,er,rR,gB,Tm.gR,La,dF,mm (t:=s) xL,w_]
   by_cases d:(l.length:Int)=gI k
   ·by_cases q:i<0
    ·have:¬0<=i:=xL
     simp[d,q,Tm.node,this]
    ·have y:0<=i:=xL
     by_cases r:k=1
     ·subst r;cases c:s.rh<;>cases f:l.all Tm.ok<;>simp_all [Tm.node,j1]
     ·by_cases c:i=0
      ·subst c;have u:eD 0 0=false:=rfl
       by_cases f:k=2\/k=6\/k=9
       ·have A:j1 k=true:=by simp[j1,f]
        by_cases B:s.err=0<;>cases C:l.all Tm.ok<;>simp_all [Tm.node]
       ·have A:j1 k=false:=by simp[j1,f]
        cases B:s.rh<;>cases C:l.all Tm.ok<;>simp_all [Tm.node]
      ·have u:eD i 0=true:=by simp[c]
       simp[d,q,r,c,u,Tm.node]
   ·simp[d,Tm.node]
def k4{t:Tm}(h:t.wt<=1000000000):l8 t=some t.err:=by
 have:=t.iA;unfold l8 Tm.err;rw[zT FU t (by rw[fI];exact h) h,nR FU t (by rw[fI];omega) xL];cases t.ok with
 |false=>simp|true=>by_cases a:4096<t.an8<;>simp[a]<;>omega
def KD(k:Int):vy k=some (if 1<=k/\k<14 then(gI k,true)else(0,false)):=by
 unfold vy;simp only[lJ,r9,rR,jj]
 by_cases h:k<1\/14<=k
 ·rw[dO h,dI xL]
 ·rw[dI h,dO xL]
  have:k=1\/k=2\/k=3\/k=4\/k=5\/k=6\/k=7\/k=8\/k=9\/k=10\/k=11\/k=12\/k=13:=xL
  rcases this with rfl|rfl|rfl|rfl|rfl|rfl|rfl|rfl|rfl|rfl|rfl|rfl|rfl<;>rfl
def KU(k:Int):vq k=some (j1 k):=by
 unfold vq j1
 congr 1
 rw[Gr];simp
def Ma{k:Int}{n:Nat}(h:(n:Int)=gI k):1<=k/\k<14:=by
 unfold gI at h
 repeat' split at h
 all_goals omega
def wP:∀(n:Nat) (t:Tm),t.wt<=n->t.wt<=1000000000->jC n t=some (if t.ok then((t.an8:Int),true)else(0,false)):=by
 intro n
 induction n with
 |zero=>intro t h;have:=t.j2;omega
 |succ n ih=>
  intro t h A;cases t with
  |mk k i s l=>
   rw[Tm.jg] at h A;have I:=Tm.qW l;have hn:eb Tm.an8 l<=eb Tm.wt l:=kG λx _=>x.iA
   have key:eV (λ(u:Int) (a:Tm) (b:Int)=>dR (jC n a) λc d=>if d then some (fV.next (eL .i64 b c))else some (fV.ret ((0:Int),false))) l 0 1=if l.all Tm.ok then some (.inl ((1+eb Tm.an8 l:Nat):Int))else some (.inr (0,false)):=by
    refine vL Tm.an8 Tm.ok _ l 0 1 xL ?_;intro j x v B;have:=ew Tm.wt B;rw[ih x xL xL];cases x.ok<;>simp
   rw[jC];simp only[Tm.ez,Tm.eF,Tm.hB,Tm.fw,d_,ef (l:=l) xL,dY,key,Tm.gR,Tm.dJ,KD,KU,lA (t:=s) xL,rF,dF,dN]
   by_cases f:(l.length:Int)=gI k
   ·have o:=Ma f;simp only[o,and_self,if_true,dN,D4,lJ,yf,r9,gE,er,rR,gB,f,ne_eq,abV,false_or]
    by_cases w:i<0
    ·have:¬0<=i:=xL
     simp[w,Tm.node,this]
    ·have C:0<=i:=xL
     by_cases y:k=1
     ·subst y;cases q:s.rh<;>cases r:l.all Tm.ok<;>simp_all [Tm.node,j1]
     ·by_cases q:i=0
      ·subst q
       by_cases r:k=2\/k=6\/k=9
       ·have D:j1 k=true:=by simp[j1,r]
        by_cases F:s.err=0<;>cases G:l.all Tm.ok<;>simp_all [Tm.node]
       ·have D:j1 k=false:=by simp[j1,r]
        cases F:s.rh<;>cases G:l.all Tm.ok<;>simp_all [Tm.node]
      ·simp[w,y,q,Tm.node]
   ·have H:Tm.node k i s l.length=false:=by simp[Tm.node,f]
    simp only[H,Bool.false_and,qU,lU]
    by_cases o:1<=k/\k<14
    ·simp[o,f]
    ·simp[o]
def eP(k:Int):Int:=if k=2 then 1 else 0
def iY(k:Int):0<=eP k/\eP k<=1:=by unfold eP;split<;>omega
def nZ(t:Tm):ld t=some (eP t.an6):=by
 unfold ld eP;simp only[gQ]
 split<;>rfl
mutual
def Tm.up(f b:Int):Tm->Tm
 |.mk k i s l=>.mk k (if k=1/\f<=i then i+b else i) s (Tm.upL (f+eP k) b l)
def Tm.upL(f b:Int):List Tm->List Tm
 |[]=>[]|t::l=>t.up f b::Tm.upL f b l
end
def Tm.Rw(f b:Int)(l:List Tm):Tm.upL f b l=l.map (Tm.up f b):=by
 induction l with
 |nil=>rfl|cons t l ih=>simp[Tm.upL,ih]
theorem Tm.fh(f b k i:Int)(s:Ty)(l:List Tm):(Tm.mk k i s l).up f b=.mk k (if k=1/\f<=i then i+b else i) s (l.map (Tm.up (f+eP k) b)):=by rw[Tm.up,Tm.Rw]
mutual
def Tm.aoa(m:Int):Tm->Bool
 |.mk _ i _ l=>decide (i<=m)&&Tm.tQ m l
def Tm.tQ(m:Int):List Tm->Bool
 |[]=>true|t::l=>t.aoa m&&Tm.tQ m l
end
def Tm.FD(m:Int)(l:List Tm):Tm.tQ m l=l.all (Tm.aoa m):=by
 induction l with
 |nil=>rfl|cons t l ih=>simp[Tm.tQ,ih]
theorem Tm.fD(m k i:Int)(s:Ty)(l:List Tm):(Tm.mk k i s l).aoa m=(decide (i<=m)&&l.all (Tm.aoa m)):=by rw[Tm.aoa,Tm.FD]
mutual
def Tm.aoc(a:Int):Tm->Nat
 |.mk k i _ l=>(if k=1/\i=a then 1 else 0)+Tm.yb (a+eP k) l
def Tm.yb(a:Int):List Tm->Nat
 |[]=>0|t::l=>t.aoc a+Tm.yb a l
end
def Tm.Fc(a:Int)(l:List Tm):Tm.yb a l=eb (Tm.aoc a) l:=by
 induction l with
 |nil=>rfl|cons t l ih=>simp[Tm.yb,eb,ih]
def Tm.fg(a k i:Int)(s:Ty)(l:List Tm):(Tm.mk k i s l).aoc a=(if k=1/\i=a then 1 else 0)+eb (Tm.aoc (a+eP k)) l:=by rw[Tm.aoc,Tm.Fc]
def Tm.ku(t:Tm):∀a,t.aoc a<=t.an8:=by
 induction t using Tm.ind with
 |h k i s l ih=>
  intro a;rw[Tm.fg,Tm.dJ];have:=kG (f:=Tm.aoc (a+eP k)) (g:=Tm.an8) (l:=l) λx b=>ih x b _
  split<;>omega
def Tm.iQ(n i:Int)(s t:Tm):Tm:=if i=n then s.up 0 n else if n<i then .mk 1 (i-1) (.mk 0 []) [] else t
mutual
def Tm.fQ:Int->Tm->Tm->Tm
 |n,.mk k i ty l,s=>if k=1 then Tm.iQ n i s (.mk k i ty l)else .mk k i ty (Tm.Gv (n+eP k) l s)
def Tm.Gv:Int->List Tm->Tm->List Tm
 |_,[],_=>[]|n,t::l,s=>Tm.fQ n t s::Tm.Gv n l s
end
def Tm.NB(n:Int)(s:Tm)(l:List Tm):Tm.Gv n l s=l.map (λx=>Tm.fQ n x s):=by
 induction l with
 |nil=>rfl|cons t l ih=>simp[Tm.Gv,ih]
theorem Tm.eI(n:Int)(s:Tm)(k i:Int)(ty:Ty)(l:List Tm):Tm.fQ n (Tm.mk k i ty l) s=if k=1 then Tm.iQ n i s (.mk k i ty l)else .mk k i ty (l.map (λx=>Tm.fQ (n+eP k) x s)):=by rw[Tm.fQ,Tm.NB]
theorem Tm.kH(t:Tm):∀f b,(t.up f b).an8=t.an8:=by
 induction t using Tm.ind with
 |h k i s l ih=>
  intro f b;rw[Tm.fh,Tm.dJ,Tm.dJ,pI];rw[vI λx a=>ih x a _ _]
def wU{α β:Type}{p:β->Bool}{q:α->Bool}{g:α->β}{l:List α}(h:∀x∈l,p (g x)=q x):(l.map g).all p=l.all q:=by
 induction l with
 |nil=>rfl|cons x l ih=>simp only[lN,Fu,h x LA,ih λy a=>h y (by simp[a])]
def Tm.TB{k i j:Int}{s:Ty}{n:Nat}(h:k=1/\0<=i/\0<=j\/i=j):Tm.node k i s n=Tm.node k j s n:=by
 rcases h with⟨rfl,a,b⟩|rfl
 ·simp[Tm.node,a,b]
 ·rfl
theorem Tm.Ix(t:Tm):∀f b,0<=f->0<=b->(t.up f b).ok=t.ok:=by
 induction t using Tm.ind with
 |h k i s l ih=>
  intro f b d a;rw[Tm.fh,Tm.gR,Tm.gR,Qc,wU λx c=>ih x c (f+eP k) b (by have:=iY k;omega) a]
  congr 1
  apply Tm.TB
  split
  ·rename_i j;left;omega
  ·right;rfl
def Ai:∀(n:Nat) (t:Tm) (m:Int),t.an8<=n->t.an8<=1000000000->k8 n t m=some (t.aoa m):=by
 intro n
 induction n with
 |zero=>intro t m h;have:=t.eE;omega
 |succ n ih=>
  intro t m h f;cases t with
  |mk k i s l=>
   rw[Tm.dJ] at h f;have q:=Tm.fF l
   have key:eV (λ(c:Int) (a:Tm) (_:Unit)=>dE (k8 n a m) λb=>if b then some (fV.next ())else some (fV.ret false)) l 0 ()=if l.all (Tm.aoa m) then some (.inl ())else some (.inr false):=by
    refine qK (Tm.aoa m) _ l 0 ?_;intro j x o;have:=ew Tm.an8 o;rw[ih x m xL xL];rfl
   rw[k8];simp only[Tm.ez,Tm.hB,d_,ef (l:=l) xL,dY,key,iw,Tm.fD]
   by_cases d:m<i
   ·have:¬i<=m:=xL
    simp[d,this]
   ·have:i<=m:=xL
    cases r:l.all (Tm.aoa m)<;>simp[d,this]
def FR:∀(n:Nat) (t:Tm) (f b:Int),t.an8<=n->t.an8<=1000000000->0<=f->f+t.an8<=10000000000->0<=b->b<=10000000000->t.aoa 1000000000000=true->rX n t f b=some (t.up f b):=by
 intro n
 induction n with
 |zero=>intro t f b h;have:=t.eE;omega
 |succ n ih=>
  intro t f b h a B c u d hi;cases t with
  |mk k i s l=>
   rw[Tm.dJ] at h a c;rw[Tm.fD] at hi;simp only[gE,oz,kE] at hi;have C:=Tm.fF l;have D:=iY k;rw[rX];simp only[Tm.ez,Tm.hB,Tm.eF,Tm.fw,d_,ef (l:=l) xL,dY];rw[jX (Tm.up (f+eP k) b) l 0 [] Xw]
   ·rw[Tm.fh];simp only[dF,eo,p5,wc,Tm.mk.injEq,Q4,zX]
    by_cases o:k=1/\f<=i
    ·obtain⟨rfl,q⟩:=o;rw[fW xL xL];have w:ee 1 1=true:=rfl
     have y:qn i f=true:=by simp[q]
     simp[w,y,q]
    ·rw[dI o]
     have e:e_ (ee k 1) (qn i f) false=false:=by
      rw[yf,ab6];simp only[ne_eq,gE,gQ,jj];exact o
     rw[e];rfl
   ·intro j x v r A;have:=ew Tm.an8 r;rw[nZ];simp only[dF,Tm.eF];rw[fW xL xL,ih x (f+eP k) b xL xL xL xL u d (hi.2 x r)];simp[fR (l:=v) (m:=[x.up (f+eP k) b]) (by simpa using A)]
def z':∀(n:Nat) (t:Tm) (a:Int),t.an8<=n->t.an8<=1000000000->0<=a->a+t.an8<=10000000000->mU n t a=some (t.aoc a:Int):=by
 intro n
 induction n with
 |zero=>intro t a h;have:=t.eE;omega
 |succ n ih=>
  intro t a h c u d;cases t with
  |mk k i s l=>
   rw[Tm.dJ] at h c d;have w:=Tm.fF l;have A:=iY k;have o:eb (Tm.aoc (a+eP k)) l<=eb Tm.an8 l:=kG λx _=>x.ku _;rw[mU];simp only[Tm.ez,Tm.hB,Tm.eF,d_,ef (l:=l) xL,dY]
   have q:e_ (e_ (ee k 1) (ee i a) false) (eL .i64 0 1) 0=(((if k=1/\i=a then 1 else 0:Nat)):Int):=by
    by_cases f:k=1/\i=a
    ·obtain⟨rfl,rfl⟩:=f;simp[ee,e_,eL,Hu]
    ·have e:e_ (ee k 1) (ee i a) false=false:=by
      rw[yf,ab6];simp only[ne_eq,gE,gQ];exact f
     rw[e,dI f];rfl
   have key:=po (ρ:=Int) (F:=λ(j:Int) (x:Tm) (v:Int)=>dE (ld (Tm.mk k i s l)) λb=>dE (mU n x (eL .i64 a b)) λy=>some (fV.next (eL .i64 v y)))
    (Tm.aoc (a+eP k)) l 0 (if k=1/\i=a then 1 else 0) (by split<;>omega) (by
    intro j x v r;have:=ew Tm.an8 r;rw[nZ];simp only[dF,Tm.eF];rw[fW xL xL,ih x _ xL xL xL xL]
    rfl)
   rw[q,key];simp[Tm.fg]
def FJ:∀(n:Nat) (t:Tm) (a b:Int) (s:Tm),t.an8<=n->t.an8<=1000000000->0<=a->0<=b->a+b+t.an8<=5000000000->t.aoa 1000000000000=true->t.ok=true->s.an8<=1000000000->s.aoa 1000000000000=true->vX n t a b s=some (Tm.fQ (a+b) t s):=by
 intro n
 induction n with
 |zero=>intro t a b s h;have:=t.eE;omega
 |succ n ih=>
  intro t a b s h r y C u hi c hs d;cases t with
  |mk k i ty l=>
   rw[Tm.dJ] at h r u;rw[Tm.fD] at hi;rw[Tm.gR] at c;simp only[gE,oz,kE] at hi c;have D:=Tm.fF l;have F:=iY k
   have A:0<=i:=by
    have:=c.1;simp only[Tm.node,gE,oz] at this;exact this.1.1.2
   rw[vX,Tm.eI];simp only[Tm.ez,Tm.hB,Tm.eF,Tm.fw,d_,ef (l:=l) xL,dY,gQ];rw[fW xL xL]
   by_cases f:k=1
   ·rw[dO f,dO f];unfold Tm.iQ
    by_cases o:i=a+b
    ·rw[dO o,dO o,FR FU s 0 (a+b) (by rw[fI];exact hs) hs xL xL xL xL d];rfl
    ·rw[dI o,dI o];simp only[iw]
     by_cases q:a+b<i
     ·rw[dO q,dO q,fZ xL xL];rfl
     ·rw[dI q,dI q]
   ·rw[dI f,dI f];rw[jX (λx=>Tm.fQ (a+b+eP k) x s) l 0 [] Xw]
    ·simp
    ·intro j x v w B;have:=ew Tm.an8 w;rw[nZ];simp only[dF,Tm.eF];rw[fW xL xL,ih x a (b+eP k) s xL xL y xL xL (hi.2 x w) (c.2 x w) hs d];rw[show a+(b+eP k)=a+b+eP k by omega];simp[fR (l:=v) (m:=[Tm.fQ (a+b+eP k) x s]) (by simpa using B)]
def Tm.xf(s t:Tm):∀n,t.ok=true->(Tm.fQ n t s).an8+t.aoc n=t.an8+t.aoc n*s.an8:=by
 induction t using Tm.ind with
 |h k i ty l ih=>
  intro n a;rw[Tm.gR] at a;simp only[gE,kE] at a;rw[Tm.eI,Tm.fg,Tm.dJ]
  by_cases d:k=1
  ·subst d
   have o:l=[]:=by
    have:=a.1;simp only[Tm.node,gE,oz] at this;have h:=this.1.1.1;simp[gI] at h;exact h
   subst o;simp only[if_true,Tm.iQ,eb,GQ,zX]
   by_cases f:i=n
   ·simp[f,Tm.kH];omega
   ·by_cases q:n<i<;>simp[f,q,Tm.dJ,eb]
  ·simp only[d,lU,HA,xR];rw[Tm.dJ,pI]
   have:eb (λx=>(Tm.fQ (n+eP k) x s).an8) l+eb (Tm.aoc (n+eP k)) l=eb Tm.an8 l+eb (Tm.aoc (n+eP k)) l*s.an8:=by
    have b:∀x∈l,(Tm.fQ (n+eP k) x s).an8+x.aoc (n+eP k)=x.an8+x.aoc (n+eP k)*s.an8:=λx c=>ih x c _ (a.2 x c);clear ih a
    induction l with
    |nil=>simp[eb]|cons y l j=>
     have d:=b y LA;have f:=j λx c=>b x (by simp[c]);simp only[eb,CQ];omega
   omega
def Tm.NM(s:Tm)(hs:s.ok=true)(t:Tm):∀n,0<=n->t.ok=true->(Tm.fQ n t s).ok=true:=by
 induction t using Tm.ind with
 |h k i ty l ih=>
  intro n hn a;have b:=a;rw[Tm.gR] at a;simp only[gE,kE] at a;rw[Tm.eI]
  by_cases d:k=1
  ·subst d;simp only[if_true,Tm.iQ]
   by_cases c:i=n
   ·simp only[c,if_true];rw[Tm.Ix s 0 n xL hn];exact hs
   ·by_cases f:n<i
    ·simp only[c,f,lU,if_true];rw[Tm.gR]
     have o:1<=i:=xL
     simp[Tm.node,gI,j1,o,Ty.rh,ee]
    ·simp only[c,f,lU];exact b
  ·simp only[d,lU];rw[Tm.gR,Qc];simp only[gE,kE,qq];refine⟨a.1,?_⟩;rintro _ ⟨x,j,rfl⟩;exact ih x j _ (by have:=iY k;omega) (a.2 x j)
mutual
def Tm.fr:Tm->Int
 |.mk k i _ l=>if k=1 then i+1 else if k=2 then imax 0 (Tm.frL 0 l-1)else Tm.frL 0 l
def Tm.frL(m:Int):List Tm->Int
 |[]=>m|t::l=>Tm.frL (imax m t.fr) l
end
def map_id'{α:Type}{g:α->α}{l:List α}(h:∀x∈l,g x=x):l.map g=l:=by
 induction l with
 |nil=>rfl|cons x l ih=>simp only[lN,h x LA,ih λy a=>h y (by simp[a])]
def Tm.pe{k i:Int}{s:Ty}{l:List Tm}(h:(Tm.mk k i s l).ok=true):(k=1->l=[])/\0<=i/\(k≠1->i=0)/\(∀t∈l,t.ok=true)/\(l.length:Int)=gI k:=by
 rw[Tm.gR] at h;simp only[gE,kE,oz,Tm.node,r9] at h;obtain⟨⟨⟨⟨a,b⟩,c⟩,j⟩,d⟩:=h;refine⟨?_,b,λf=>c.resolve_left f,d,a⟩;rintro rfl;have:(l.length:Int)=0:=a;exact BG xL
def Tm.abl(t:Tm):∀f,t.up f 0=t:=by
 induction t using Tm.ind with
 |h k i s l ih=>
  intro f;rw[Tm.fh,map_id' λx a=>ih x a _]
  congr 1
  split<;>omega
def EK{α:Type}{g:α->Nat}{l:List α}(h:∀x∈l,g x=0):eb g l=0:=by
 induction l with
 |nil=>rfl|cons x l ih=>simp[eb,h x LA,ih λy a=>h y (by simp[a])]
def Tm.kd:Option Tm->Int
 |some t=>t.an6|none=>0
def Tm.root:Tm->Bool
 |.mk k _ _ l=>(decide (k=3)&&decide (Tm.kd l[0]?=2))||(decide (k=6)&&(decide (Tm.kd l[2]?=4)||decide (Tm.kd l[2]?=5)))||(decide (k=9)&&(decide (Tm.kd l[2]?=7)||decide (Tm.kd l[2]?=8)))||
  ((decide (k=11)||decide (k=12))&&decide (Tm.kd l[0]?=10))
mutual
def Tm.nf:Tm->Bool
 |.mk k i s l=>!(Tm.mk k i s l).root&&Tm.nfL l
def Tm.nfL:List Tm->Bool
 |[]=>true|t::l=>t.nf&&Tm.nfL l
end
def Tm.agz(l:List Tm):Tm.nfL l=l.all Tm.nf:=by
 induction l with
 |nil=>rfl|cons t l ih=>simp[Tm.nfL,ih]
def Tm.aeE(k i:Int)(s:Ty)(l:List Tm):(Tm.mk k i s l).nf=(!(Tm.mk k i s l).root&&l.all Tm.nf):=by rw[Tm.nf,Tm.agz]
def o0(f:Tm):List Tm->Tm
 |[]=>f|a::l=>o0 (.mk 3 0 (.mk 0 []) [f,a]) l
def Tm.fv:Tm->Tm
 |.mk k i s l=>
  if k=3 then(match l with|[.mk _ _ _ [b],a]=>Tm.fQ 0 b a|_=>.mk k i s l)
  else if k=11 then(match l with|[.mk _ _ _ (a::_)]=>a|_=>.mk k i s l)
  else if k=12 then(match l with|[.mk _ _ _ [_,b]]=>b|_=>.mk k i s l)
  else(match l with
   |[b,st,.mk _ _ _ []]=>b|[b,st,.mk _ _ _ [n]]=>o0 st [n,.mk k i s [b,st,n]]|[b,st,.mk _ _ _ [h,t]]=>o0 st [h,t,.mk k i s [b,st,t]]|_=>.mk k i s l)
mutual
inductive NR (nh:List HC):Nat->Tm->Prop
 |mk {p:Nat} {x:eS} {l:List Tm}:HC.ei nh p=some x->NRL nh x.an7 l->x.size=((Tm.mk x.an6 x.an9 x.rf l).an8:Int)->x.free=(Tm.mk x.an6 x.an9 x.rf l).fr->(x.normal=true->(Tm.mk x.an6 x.an9 x.rf l).nf=true)->NR nh p (.mk x.an6 x.an9 x.rf l)
inductive NRL (nh:List HC):List (Option Nat)->List Tm->Prop
 |nil:NRL nh [] []|cons {p:Nat} {t:Tm} {ps:List (Option Nat)} {ts:List Tm}:NR nh p t->NRL nh ps ts->NRL nh (some p::ps) (t::ts)
end
structure Sm (M:Int) (t:Tm):Prop where
 ok:t.ok=true
 aoa:t.aoa M=true
 an8:t.an8<=1000000
def Sm.arg{M k i:Int}{s:Ty}{l:List Tm}(h:Sm M (.mk k i s l)):∀t∈l,Sm M t:=by
 intro t a;have b:=h.aoa;have c:=h.an8;rw[Tm.fD] at b;simp only[gE,kE] at b;rw[Tm.dJ] at c;exact⟨(Tm.pe h.ok).2.2.2.1 t a,b.2 t a,by have:=ew Tm.an8 a;omega⟩
theorem Sm.mono{M N:Int}{t:Tm}(h:Sm M t)(hm:M<=N):Sm N t:=⟨h.ok,by
 have:∀t:Tm,t.aoa M=true->t.aoa N=true:=by
  intro t
  induction t using Tm.ind with
  |h k i s l ih=>
   rw[Tm.fD,Tm.fD];simp only[gE,kE,oz]
   exactλ⟨c,b⟩=>⟨xL,λx a=>ih x a (b x a)⟩
 exact this t h.aoa,h.an8⟩
def Y8{M b:Int}(d:0<=b)(t:Tm):∀f,t.aoa M=true->(t.up f b).aoa (M+b)=true:=by
 induction t using Tm.ind with
 |h k i s l ih=>
  intro f h;rw[Tm.fD] at h;simp only[gE,kE,oz] at h;rw[Tm.fh,Tm.fD];simp only[gE,kE,oz];refine⟨by split<;>omega,?_⟩;intro x c;obtain⟨y,a,rfl⟩:=qq.1 c;exact ih y a _ (h.2 y a)
def VF{M N B:Int}(F:M<=B)(s:Tm)(hs:s.aoa N=true)(t:Tm):∀n,0<=n->N+n+t.an8<=B->t.aoa M=true->t.ok=true->(Tm.fQ n t s).aoa B=true:=by
 induction t using Tm.ind with
 |h k i ty l ih=>
  intro n hn o d w;have q:=d;rw[Tm.fD] at d;simp only[gE,kE,oz] at d;obtain⟨o1,o2,G,A,H⟩:=Tm.pe w;rw[Tm.eI]
  have c:∀(u:Tm) {a b:Int},a<=b->u.aoa a=true->u.aoa b=true:=by
   intro u
   induction u using Tm.ind with
   |h k i s l ih=>
    intro a b r;rw[Tm.fD,Tm.fD];simp only[gE,kE,oz]
    exactλ⟨I,C⟩=>⟨xL,λx f=>ih x f r (C x f)⟩
  have J:1<=(Tm.mk k i ty l).an8:=Tm.eE _
  by_cases v:k=1
  ·rw[dO v];unfold Tm.iQ
   split
   ·exact c _ xL (Y8 hn s 0 hs)
   ·split
    ·rw[Tm.fD];simp;omega
    ·exact c _ xL q
  ·rw[dI v,Tm.fD];simp only[gE,kE,oz];refine⟨xL,?_⟩;intro x f;obtain⟨y,j,rfl⟩:=qq.1 f;have D:=iY k;have hm:=ew Tm.an8 j;rw[Tm.dJ] at o;exact ih y j (n+eP k) xL xL (d.2 y j) (A y j)
def Dy(a b:Int):ee a b=decide (a=b):=by grind[ee]
def agC{α:Type}{l:List α}(h:l.length=1):∃a,l=[a]:=by
 match l,h with|[a],_=>exact⟨a,rfl⟩
def afm{α:Type}{l:List α}(h:l.length=2):∃a b,l=[a,b]:=by
 match l,h with|[a,b],_=>exact⟨a,b,rfl⟩
def aj3{α:Type}{l:List α}(h:l.length=3):∃a b c,l=[a,b,c]:=by
 match l,h with|[a,b,c],_=>exact⟨a,b,c,rfl⟩
def Tm.rY{k i:Int}{s:Ty}{l:List Tm}(h:(Tm.mk k i s l).ok=true):(l.length:Int)=gI k:=(Tm.pe h).2.2.2.2
def Tm.ok3{i:Int}{s:Ty}{l:List Tm}(h:(Tm.mk 3 i s l).ok=true):∃a b,l=[a,b]:=afm (by have:=Tm.rY h;have e:gI 3=2:=rfl;omega)
def Tm.ok6{i:Int}{s:Ty}{l:List Tm}(h:(Tm.mk 6 i s l).ok=true):∃a b c,l=[a,b,c]:=aj3 (by have:=Tm.rY h;have e:gI 6=3:=rfl;omega)
def Tm.ok9{i:Int}{s:Ty}{l:List Tm}(h:(Tm.mk 9 i s l).ok=true):∃a b c,l=[a,b,c]:=aj3 (by have:=Tm.rY h;have e:gI 9=3:=rfl;omega)
def Tm.ok2{i:Int}{s:Ty}{l:List Tm}(h:(Tm.mk 2 i s l).ok=true):∃a,l=[a]:=agC (by have:=Tm.rY h;have e:gI 2=1:=rfl;omega)
def Tm.akm{k i:Int}{s:Ty}{l:List Tm}(b:k=11\/k=12)(h:(Tm.mk k i s l).ok=true):∃a,l=[a]:=agC (by
 have:=Tm.rY h;rcases b with rfl|rfl
 ·have e:gI 11=1:=rfl;omega
 ·have e:gI 12=1:=rfl;omega)
def Tm.akk{i:Int}{s:Ty}{l:List Tm}(h:(Tm.mk 10 i s l).ok=true):∃a b,l=[a,b]:=afm (by have:=Tm.rY h;have e:gI 10=2:=rfl;omega)
def Tm.ok0{k i:Int}{s:Ty}{l:List Tm}(a:k=4\/k=7)(h:(Tm.mk k i s l).ok=true):l=[]:=BG (by
 have:=Tm.rY h;rcases a with rfl|rfl
 ·have e:gI 4=0:=rfl;omega
 ·have e:gI 7=0:=rfl;omega)
def Tm.ok5{i:Int}{s:Ty}{l:List Tm}(h:(Tm.mk 5 i s l).ok=true):∃a,l=[a]:=agC (by have:=Tm.rY h;have e:gI 5=1:=rfl;omega)
def Tm.ok8{i:Int}{s:Ty}{l:List Tm}(h:(Tm.mk 8 i s l).ok=true):∃a b,l=[a,b]:=afm (by have:=Tm.rY h;have e:gI 8=2:=rfl;omega)
theorem Tm.en{k i:Int}{s:Ty}{l:List Tm}(h:(Tm.mk k i s l).ok=true):∀t∈l,t.ok=true:=(Tm.pe h).2.2.2.1
inductive Tm.Rd:Tm->Prop
 |app {i s i' s' b a}:Tm.Rd (.mk 3 i s [.mk 2 i' s' [b],a])|zero {k ko i s i' s' b st}:(k=6/\ko=4\/k=9/\ko=7)->Tm.Rd (.mk k i s [b,st,.mk ko i' s' []])|succ {i s i' s' b st n}:Tm.Rd (.mk 6 i s [b,st,.mk 5 i' s' [n]])|cons {i s i' s' b st h t}:Tm.Rd (.mk 9 i s [b,st,.mk 8 i' s' [h,t]])|proj {k i s i' s' a b}:(k=11\/k=12)->Tm.Rd (.mk k i s [.mk 10 i' s' [a,b]])
def Tm.QD{t:Tm}(d:t.ok=true)(h:t.root=true):t.Rd:=by
 cases t with
 |mk k i s l=>
  unfold Tm.root at h;simp only[r9,gE,oz] at h;rcases h with((⟨rfl,h⟩|⟨rfl,h⟩)|⟨rfl,h⟩)|⟨f,h⟩
  ·obtain⟨a,b,rfl⟩:=Tm.ok3 d;cases a with
   |mk k' j o q=>
    have f:k'=2:=by simpa[Tm.kd] using h
    subst f;obtain⟨v,rfl⟩:=Tm.ok2 (Tm.en d (.mk 2 j o q) LA);exact .app
  ·obtain⟨a,b,c,rfl⟩:=Tm.ok6 d;cases c with
   |mk k' j o q=>
    have f:k'=4\/k'=5:=by simpa[Tm.kd] using h
    have r:=Tm.en d (.mk k' j o q) LA;rcases f with rfl|rfl
    ·rw[Tm.ok0 (.inl rfl) r];exact .zero (.inl ⟨rfl,rfl⟩)
    ·obtain⟨n,rfl⟩:=Tm.ok5 r;exact .succ
  ·obtain⟨a,b,c,rfl⟩:=Tm.ok9 d;cases c with
   |mk k' j o q=>
    have f:k'=7\/k'=8:=by simpa[Tm.kd] using h
    have r:=Tm.en d (.mk k' j o q) LA;rcases f with rfl|rfl
    ·rw[Tm.ok0 (.inr rfl) r];exact .zero (.inr ⟨rfl,rfl⟩)
    ·obtain⟨n,m,rfl⟩:=Tm.ok8 r;exact .cons
  ·obtain⟨a,rfl⟩:=Tm.akm f d;cases a with
   |mk k' j o q=>
    have u:k'=10:=by simpa[Tm.kd] using h
    subst u;obtain⟨a,b,rfl⟩:=Tm.akk (Tm.en d (.mk 10 j o q) LA);exact .proj f
def CZ:∀(l:List Tm) (f:Tm),(o0 f l).an8=f.an8+eb Tm.an8 l+l.length
 |[],f=>by simp[o0,eb]|a::l,f=>by
  rw[o0,CZ l,Tm.dJ]
  grind[eb]
def GL:∀(n:Nat) (t:Ty),t.an8<=n->t.an8<=1000000000->jJ n t=some t:=by
 intro n
 induction n with
 |zero=>intro t h;have:=t.eE;omega
 |succ n ih=>
  intro t h a;cases t with
  |mk k l=>
   rw[Ty.dJ] at h a;have d:=Ty.fF l;rw[jJ];simp only[Ty.ez,Ty.eF,d_,ef (l:=l) xL,dY];rw[jX id l 0 [] Xw]
   ·simp
   ·intro j x v b c;have:=ew Ty.an8 b;rw[ih x xL xL];simp[fR (l:=v) (m:=[x]) (by simpa using c)]
def sZ{t:Ty}(h:t.an8<=1000000000):jJ FU t=some t:=GL FU t (by rw[fI];exact h) h
def Ty.B2{k i:Int}{s:Ty}{n:Nat}(h:Tm.node k i s n=true):s.an8<=64:=by
 unfold Tm.node at h;simp only[gE] at h;have a:=h.2
 by_cases b:j1 k=true
 ·rw[dO b] at a;simp only[oz] at a;unfold Ty.err at a
  split at a
  ·split at a
   ·omega
   ·omega
  ·omega
 ·rw[dI b] at a;rw[(Ty.mO s).1 a,Ty.dJ];simp[eb]
mutual
def Tm.Kw(room:Int):Tm->Option (Option Tm)
 |.mk k i s l=>if(Tm.mk k i s l).root then(if((Tm.mk k i s l).fv.an8:Int)-((Tm.mk k i s l).an8:Int)>room then none else some (some (Tm.mk k i s l).fv))
  else match Tm.uU room l with
   |none=>none|some none=>some none|some (some a)=>some (some (.mk k i s a))
def Tm.uU(room:Int):List Tm->Option (Option (List Tm))
 |[]=>some none|t::l=>match t.Kw room with
  |none=>none|some (some a)=>some (some (a::l))|some none=>match Tm.uU room l with
   |none=>none|some none=>some none|some (some b)=>some (some (t::b))
end
theorem DT:∀(l:List Tm) (f:Tm),f.ok=true->(∀t∈l,t.ok=true)->(o0 f l).ok=true
 |[],f,h,_=>h|a::l,f,h,b=>by
  rw[o0];refine DT l _ ?_ λt d=>b t (by simp[d]);rw[Tm.gR];simp only[gE,kE];refine⟨rfl,?_⟩;intro x c;simp only[lX,ve,r8] at c;rcases c with rfl|rfl
  ·exact h
  ·exact b _ LA
def CW{M:Int}(b:0<=M):∀(l:List Tm) (f:Tm),f.aoa M=true->(∀t∈l,t.aoa M=true)->(o0 f l).aoa M=true
 |[],f,h,_=>h|a::l,f,h,c=>by
  rw[o0];refine CW b l _ ?_ λt i=>c t (by simp[i]);rw[Tm.fD];simp only[gE,kE,oz];refine⟨b,?_⟩;intro x d;simp only[lX,ve,r8] at d;rcases d with rfl|rfl
  ·exact h
  ·exact c _ LA
theorem Tm.wy{k i:Int}{s:Ty}{l m:List Tm}(h:(Tm.mk k i s l).ok=true)(a:m.length=l.length)(hm:∀t∈m,t.ok=true):(Tm.mk k i s m).ok=true:=by
 rw[Tm.gR] at h|-;simp only[gE,kE] at h|-;rw[a];exact⟨h.1,hm⟩
def Tm.CM{M k i:Int}{s:Ty}{l m:List Tm}(h:(Tm.mk k i s l).aoa M=true)(hm:∀t∈m,t.aoa M=true):(Tm.mk k i s m).aoa M=true:=by
 rw[Tm.fD] at h|-;simp only[gE,kE,oz] at h|-;exact⟨h.1,hm⟩
def Yj{M:Int}(G:0<=M){t:Tm}(hs:Sm M t)(hn:t.an8<=8192)(D:t.root=true):t.fv.ok=true/\t.fv.aoa (M+8192)=true:=by
 have y:=Tm.QD hs.ok D;have up:∀u,Sm M u->u.aoa (M+8192)=true:=λu hu=>(hu.mono xL).aoa;cases y with
 |app=>
  rename_i i s d f b a;have A:=hs.arg (.mk 2 d f [b]) LA;have v:=hs.arg a LA;have o:=A.arg b LA;rw[Tm.dJ] at hn;simp only[eb,Tm.dJ] at hn
  have e:(Tm.mk 3 i s [.mk 2 d f [b],a]).fv=Tm.fQ 0 b a:=by simp[Tm.fv]
  rw[e];exact⟨Tm.NM a v.ok b 0 xL o.ok,VF (M:=M) (N:=M) xL a v.aoa b 0 xL xL o.aoa o.ok⟩
 |proj B=>
  rename_i k i s d f a b;have w:=hs.arg (.mk 10 d f [a,b]) LA;rcases B with rfl|rfl
  ·have:=w.arg a LA;simpa[Tm.fv] using And.intro this.ok (up _ this)
  ·have:=w.arg b LA;simpa[Tm.fv] using And.intro this.ok (up _ this)
 |zero B=>
  rename_i k F i s d f b st
  have q:k≠3/\k≠11/\k≠12:=xL
  have:(Tm.mk k i s [b,st,.mk F d f []]).fv=b:=by simp[Tm.fv,q.1,q.2.1,q.2.2]
  rw[this];have:=hs.arg b LA;exact⟨this.ok,up _ this⟩
 |succ=>
  rename_i i s d f b st n;have x:=hs.arg b LA;have j:=hs.arg st LA;have l:=(hs.arg (.mk 5 d f [n]) LA).arg n LA
  have e:(Tm.mk 6 i s [b,st,.mk 5 d f [n]]).fv=o0 st [n,.mk 6 i s [b,st,n]]:=by simp[Tm.fv,o0]
  rw[e];have r:(Tm.mk 6 i s [b,st,n]).ok=true:=Tm.wy hs.ok rfl (by intro t c;simp only[lX,ve,r8] at c;rcases c with rfl|rfl|rfl;all_goals first|exact x.ok|exact j.ok|exact l.ok);have hle:(Tm.mk 6 i s [b,st,n]).aoa (M+8192)=true:=Tm.CM (hs.mono xL).aoa (by intro t c;simp only[lX,ve,r8] at c;rcases c with rfl|rfl|rfl;all_goals first|exact up _ x|exact up _ j|exact up _ l);refine⟨DT _ _ j.ok ?_,CW xL _ _ (up _ j) ?_⟩<;>
  ·intro t c;simp only[lX,ve,r8] at c;rcases c with rfl|rfl
   ·first|exact l.ok|exact up _ l
   ·first|exact r|exact hle
 |cons=>
  rename_i i s d f b st h n;have x:=hs.arg b LA;have j:=hs.arg st LA;have l:=(hs.arg (.mk 8 d f [h,n]) LA).arg n LA;have C:=(hs.arg (.mk 8 d f [h,n]) LA).arg h LA
  have e:(Tm.mk 9 i s [b,st,.mk 8 d f [h,n]]).fv=o0 st [h,n,.mk 9 i s [b,st,n]]:=by simp[Tm.fv,o0]
  rw[e];have r:(Tm.mk 9 i s [b,st,n]).ok=true:=Tm.wy hs.ok rfl (by intro t c;simp only[lX,ve,r8] at c;rcases c with rfl|rfl|rfl;all_goals first|exact x.ok|exact j.ok|exact l.ok);have hle:(Tm.mk 9 i s [b,st,n]).aoa (M+8192)=true:=Tm.CM (hs.mono xL).aoa (by intro t c;simp only[lX,ve,r8] at c;rcases c with rfl|rfl|rfl;all_goals first|exact up _ x|exact up _ j|exact up _ l);refine⟨DT _ _ j.ok ?_,CW xL _ _ (up _ j) ?_⟩<;>
  ·intro t c;simp only[lX,ve,r8] at c;rcases c with rfl|rfl|rfl
   ·first|exact C.ok|exact up _ C
   ·first|exact l.ok|exact up _ l
   ·first|exact r|exact hle
def Tm.Nw(room k i:Int)(s:Ty)(l:List Tm):(Tm.mk k i s l).Kw room=if(Tm.mk k i s l).root then(if((Tm.mk k i s l).fv.an8:Int)-((Tm.mk k i s l).an8:Int)>room then none else some (some (Tm.mk k i s l).fv))
 else match Tm.uU room l with
  |none=>none|some none=>some none|some (some a)=>some (some (.mk k i s a)):=by rw[Tm.Kw]
def Zf{M room:Int}(x:0<=M)(t:Tm):Sm M t->t.an8<=8192->∀f,t.Kw room=some (some f)->f.ok=true/\f.aoa (M+8192)=true/\(f.an8:Int)<=t.an8+room:=by
 induction t using Tm.ind with
 |h k i s l ih=>
  intro hs hn f h;rw[Tm.Nw] at h
  by_cases n:(Tm.mk k i s l).root=true
  ·rw[dO n] at h
   split at h
   ·cases h
   ·obtain rfl:=iq (iq h);obtain⟨y,A⟩:=Yj x hs hn n;exact⟨y,A,xL⟩
  ·rw[dI n] at h;have up:∀u,Sm M u->u.aoa (M+8192)=true:=λu hu=>(hu.mono xL).aoa;have o:=hn;rw[Tm.dJ] at o
   have B:∀(ts a:List Tm),(∀t∈ts,t∈l)->Tm.uU room ts=some (some a)->a.length=ts.length/\(∀t∈a,t.ok=true/\t.aoa (M+8192)=true)/\(eb Tm.an8 a:Int)<=eb Tm.an8 ts+room:=by
    intro ts
    induction ts with
    |nil=>intro a _ h;rw[Tm.uU] at h;cases h
    |cons t ts q=>
     intro a hm h;rw[Tm.uU] at h;have b:=hm t LA;have C:=ew Tm.an8 b;have c:=hs.arg t b
     split at h
     ·cases h
     ·rename_i u hu;obtain rfl:=iq (iq h);obtain⟨j,a2,a3⟩:=ih t b c xL u hu;refine⟨rfl,?_,by simp only[eb];omega⟩;intro v hv;rcases lX.1 hv with rfl|hv
      ·exact⟨j,a2⟩
      ·have:=hs.arg v (hm v (by simp[hv]));exact⟨this.ok,up _ this⟩
     ·split at h
      ·cases h
      ·cases h
      ·rename_i r d;obtain rfl:=iq (iq h);obtain⟨j,a2,a3⟩:=q r (λu hu=>hm u (by simp[hu])) d;refine⟨by simp[j],?_,by simp only[eb];omega⟩;intro v hv;rcases lX.1 hv with rfl|hv
       ·exact⟨c.ok,up _ c⟩
       ·exact a2 v hv
   split at h
   ·cases h
   ·cases h
   ·rename_i r d;obtain rfl:=iq (iq h);obtain⟨j,a2,a3⟩:=B l r (λt h=>h) d;refine⟨Tm.wy hs.ok j λt w=>(a2 t w).1,Tm.CM (hs.mono xL).aoa λt w=>(a2 t w).2,?_⟩;rw[Tm.dJ,Tm.dJ];omega
def Fp(room:Int)(t:Tm):t.nf=true↔t.Kw room=some none:=by
 induction t using Tm.ind with
 |h k i s l ih=>
  rw[Tm.aeE,Tm.Nw]
  have f:∀ts:List Tm,(∀t∈ts,t∈l)->(ts.all Tm.nf=true↔Tm.uU room ts=some none):=by
   intro ts
   induction ts with
   |nil=>intro _;simp[Tm.uU]|cons t ts b=>
    intro hm;have j:=ih t (hm t LA);have n:=b λu hu=>hm u (by simp[hu]);rw[Fu,gE,j,n,Tm.uU];constructor
    ·rintro⟨c,d⟩;rw[c,d]
    ·intro h
     split at h
     ·cases h
     ·cases h
     ·rename_i c
      split at h
      ·cases h
      ·rename_i d;exact⟨c,d⟩
      ·cases h
  have:=f l λt h=>h
  by_cases a:(Tm.mk k i s l).root=true
  ·rw[dO a,a];simp
   try(split<;>simp)
  ·rw[dI a];simp only[gE,afd,this];constructor
   ·rintro⟨_,e⟩;rw[e]
   ·intro h;refine⟨by simpa using a,?_⟩
    split at h
    ·cases h
    ·rename_i e;exact e
    ·cases h
def Ja{α:Type}(a:List α)(x y:α)(b:List α):(a++x::b).set a.length y=a++y::b:=LA
def rZ{t:Tm}(h:t.wt<=1000000000):kg t=some (if t.err=0 then(t.an8:Int)else 0,t.err):=by
 unfold kg Tm.err;rw[wP FU t (by rw[fI];exact h) h]
 by_cases a:t.ok=true
 ·simp only[a,if_true,dN,iw]
  by_cases b:4096<t.an8
  ·rw[dO b,dO xL];rfl
  ·rw[dI b,dI xL];rfl
 ·simp only[a,dN];rfl
def zC{t:Tm}(h:t.wt<=1000000000):o6 t=some t.err:=by
 unfold o6;rw[rZ h];rfl
theorem Tm.hD{t:Tm}(h:t.err=0):t.ok=true/\t.an8<=4096:=by
 unfold Tm.err at h
 split at h
 ·rename_i a
  split at h
  ·omega
  ·exact⟨a,xL⟩
 ·omega
def Tm.z:Tm:=.mk 0 0 (.mk 0 []) []
def Tm.norm:Nat->Int->Tm->Tm×Int×Int
 |0,m,t=>if t.nf then(t,m,0)else(Tm.z,0,5)|k+1,m,t=>match t.Kw (4096-t.an8)with
  |none=>(Tm.z,0,4)|some none=>(t,m,0)|some (some a)=>Tm.norm k (m+1) a
def ZK{k:Nat}{m:Int}{t:Tm}(h:t.Kw (4096-t.an8)=none):t.norm (k+1) m=(Tm.z,0,4):=by rw[Tm.norm,h]
def Fe{k:Nat}{m:Int}{t:Tm}(h:t.Kw (4096-t.an8)=some none):t.norm (k+1) m=(t,m,0):=by rw[Tm.norm,h]
def Fk{k:Nat}{m:Int}{t a:Tm}(h:t.Kw (4096-t.an8)=some (some a)):t.norm (k+1) m=a.norm k (m+1):=by rw[Tm.norm,h]
def Sm.start{t:Tm}(h:t.err=0)(a:t.aoa 536870912=true):Sm 536870912 t:=⟨(Tm.hD h).1,a,by have:=(Tm.hD h).2;omega⟩
mutual
def Fm.an8:Fm->Nat
 |.mk _ _ ts l=>1+eb Tm.an8 ts+Fm.nV l
def Fm.nV:List Fm->Nat
 |[]=>0|t::l=>t.an8+Fm.nV l
end
def Fm.q8(l:List Fm):Fm.nV l=eb Fm.an8 l:=by
 induction l with
 |nil=>rfl|cons t l ih=>simp[Fm.nV,eb,ih]
theorem Fm.dJ(k:Int)(s:Ty)(ts:List Tm)(l:List Fm):(Fm.mk k s ts l).an8=1+eb Tm.an8 ts+eb Fm.an8 l:=by rw[Fm.an8,Fm.q8]
def Fm.eE(t:Fm):1<=t.an8:=by cases t;rw[Fm.an8];omega
def Fm.fF(l:List Fm):l.length<=eb Fm.an8 l:=iX _ _ λt _=>t.eE
mutual
def Fm.wt:Fm->Nat
 |.mk _ s ts l=>1+s.an8+eb Tm.wt ts+Fm.Tb l
def Fm.Tb:List Fm->Nat
 |[]=>0|t::l=>t.wt+Fm.Tb l
end
def Fm.Ff(l:List Fm):Fm.Tb l=eb Fm.wt l:=by
 induction l with
 |nil=>rfl|cons t l ih=>simp[Fm.Tb,eb,ih]
def Fm.jg(k:Int)(s:Ty)(ts:List Tm)(l:List Fm):(Fm.mk k s ts l).wt=1+s.an8+eb Tm.wt ts+eb Fm.wt l:=by rw[Fm.wt,Fm.Ff]
def Fm.j2(t:Fm):1<=t.wt:=by cases t;rw[Fm.wt];omega
def Fm.qW(l:List Fm):l.length<=eb Fm.wt l:=iX _ _ λt _=>t.j2
def Fm.ind{p:Fm->Prop}(h:∀k s ts l,(∀t∈l,p t)->p (.mk k s ts l))(t:Fm):p t:=by
 have:∀n (t:Fm),t.an8<=n->p t:=by
  intro n
  induction n with
  |zero=>intro t a;have:=t.eE;omega
  |succ n ih=>
   intro t a;cases t with
   |mk k s ts l=>
    rw[Fm.dJ] at a;exact h k s ts l λu hu=>ih u (by have:=ew Fm.an8 hu;omega)
 exact this _ t (jy _)
def Fm.iA(t:Fm):t.an8<=t.wt:=by
 induction t using Fm.ind with
 |h k s ts l ih=>rw[Fm.dJ,Fm.jg];have:=kG ih;have:=kG (f:=Tm.an8) (g:=Tm.wt) (l:=ts) λx _=>x.iA;omega
def h9(k:Int):Bool:=decide (k=4\/k=5\/k=6\/k=7)
def qB(k:Int):Int:=if h9 k then 1 else 0
def tG(k:Int):0<=qB k/\qB k<=1:=by unfold qB;split<;>omega
def lR(k:Int):kT k=some (h9 k):=by
 unfold kT h9
 congr 1
 rw[Gr];simp
def ph(f:Fm):mW f=some (qB f.an6):=by
 unfold mW qB;rw[lR];simp only[dF]
 split<;>rfl
def Fm.node(k:Int)(s:Ty)(a n:Nat):Bool:=
 if k=1 then s.rh&&decide (a=2)&&decide (n=0)
 else if k=2\/k=3 then s.rh&&decide (a=0)&&decide (n=2)
 else h9 k&&decide (s.err=0)&&decide (a=0)&&decide (n=1)
mutual
def Fm.ok:Fm->Bool
 |.mk k s ts l=>Fm.node k s ts.length l.length&&ts.all Tm.ok&&Fm.L7 l
def Fm.L7:List Fm->Bool
 |[]=>true|t::l=>t.ok&&Fm.L7 l
end
def Fm.zL(l:List Fm):Fm.L7 l=l.all Fm.ok:=by
 induction l with
 |nil=>rfl|cons t l ih=>simp[Fm.L7,ih]
theorem Fm.gR(k:Int)(s:Ty)(ts:List Tm)(l:List Fm):(Fm.mk k s ts l).ok=(Fm.node k s ts.length l.length&&ts.all Tm.ok&&l.all Fm.ok):=by rw[Fm.ok,Fm.zL]
def Fm.err(t:Fm):Int:=if t.ok then(if 4096<t.an8 then 4 else 0)else 2
def gj{α:Type}{l:List α}:(l.length:Int)=0↔l=[]:=by cases l<;>simp;omega
def jr{α:Type}{l:List α}(h:(l.length:Int)=1):∃a,l=[a]:=by
 match l,h with
 |[a],_=>exact⟨a,rfl⟩|[],h=>simp at h
 |_::_::_,h=>simp at h;omega
def pR{α:Type}{l:List α}(h:(l.length:Int)=2):∃a b,l=[a,b]:=by
 match l,h with
 |[a,b],_=>exact⟨a,b,rfl⟩|[],h=>simp at h
 |[_],h=>simp at h
 |_::_::_::_,h=>simp at h;omega
def xY{t:Tm}(h:t.wt<=1000000000):kx FU t=some t.ok:=zT FU t (by rw[fI];exact h) h
def zQ:∀(n:Nat) (t:Fm),t.wt<=n->t.wt<=1000000000->mf n t=some t.ok:=by
 intro n
 induction n with
 |zero=>intro t h;have:=t.j2;omega
 |succ n ih=>
  intro t h o;cases t with
  |mk k s ts l=>
   rw[Fm.jg] at h o;rw[mf,Fm.gR];simp only[Fm.ez,Fm.eF,Fm.h8,Fm.fw,d_,lJ,r9,gQ,gB,w_,lR,mm (t:=s) xL,dF,eO,hR]
   by_cases r:k=1
   ·simp only[r,if_true,Fm.node]
    by_cases j:(l.length:Int)=0
    ·have:=gj.1 j;subst this;cases i:s.rh with
     |false=>simp|true=>
      by_cases d:(ts.length:Int)=2
      ·obtain⟨a,b,rfl⟩:=pR d;simp only[eb] at h o;simp only[d,if_true,kS,ql,dF];rw[xY (t:=a) xL,xY (t:=b) xL];cases c:a.ok<;>cases f:b.ok<;>simp[c,f]
      ·have c:¬ts.length=2:=xL
       simp[d,c]
    ·have i:¬l.length=0:=xL
     simp[j,i]
   ·simp only[r,lU,Fm.node]
    by_cases j:k=2\/k=3
    ·simp only[j,if_true]
     by_cases i:(ts.length:Int)=0
     ·have:=gj.1 i;subst this;cases d:s.rh with
      |false=>simp|true=>
       by_cases c:(l.length:Int)=2
       ·obtain⟨a,b,rfl⟩:=pR c;simp only[eb] at h o;simp only[c,if_true,kS,ql,dF];rw[ih a xL xL,ih b xL xL];cases f:a.ok<;>cases q:b.ok<;>simp[f,q]
       ·have f:¬l.length=2:=xL
        simp[c,f]
     ·have d:¬ts.length=0:=xL
      simp[i,d]
    ·simp only[j,lU];cases i:h9 k with
     |false=>simp|true=>
      by_cases d:(ts.length:Int)=0
      ·have:=gj.1 d;subst this
       by_cases c:s.err=0
       ·by_cases f:(l.length:Int)=1
        ·obtain⟨a,rfl⟩:=jr f;simp only[eb] at h o;simp only[c,f,if_true,kS,dF];rw[ih a xL xL];simp
        ·have q:¬l.length=1:=xL
         simp[c,f,q]
       ·simp[c]
      ·have c:¬ts.length=0:=xL
       simp[d,c]
def rD:∀(n:Nat) (t:Fm),t.an8<=n->t.an8<=1000000000->ma n t=some (t.an8:Int):=by
 intro n
 induction n with
 |zero=>intro t h;have:=t.eE;omega
 |succ n ih=>
  intro t h b;cases t with
  |mk k s ts l=>
   rw[Fm.dJ] at h b;have f:=Fm.fF l;have c:=Tm.fF ts;rw[ma];simp only[Fm.ez,Fm.h8,d_,ef (l:=l) xL,ef (l:=ts) xL,dY]
   have d:=po (ρ:=Int) (F:=λ(j:Int) (x:Tm) (v:Int)=>dE (fP FU x) λy=>some (fV.next (eL .i64 v y))) Tm.an8 ts 0 1 xL (by
    intro j x v a;have:=ew Tm.an8 a;rw[nR FU x (by rw[fI];omega) xL]
    rfl)
   have k2:=po (ρ:=Int) (F:=λ(j:Int) (x:Fm) (v:Int)=>dE (ma n x) λy=>some (fV.next (eL .i64 v y))) Fm.an8 l 0 (1+eb Tm.an8 ts) xL (by
    intro j x v a;have:=ew Fm.an8 a;rw[ih x xL xL]
    rfl)
   rw[show(1:Int)=((1:Nat):Int)from rfl,d];simp only[dF,eo];rw[k2];simp[Fm.dJ]
def kh{t:Fm}(h:t.wt<=1000000000):jV t=some t.err:=by
 have:=t.iA;unfold jV Fm.err;rw[zQ FU t (by rw[fI];exact h) h,rD FU t (by rw[fI];omega) xL];cases t.ok with
 |false=>simp|true=>by_cases a:4096<t.an8<;>simp[a]<;>omega
def IF(f:Fm)(h:f.wt<=1000000000):ri f=some (Fm.node f.an6 f.dL f.ea.length f.an7.length):=by
 cases f with
 |mk k s ts l=>
  rw[Fm.jg] at h;show ri (.mk k s ts l)=some (Fm.node k s ts.length l.length)
  have d:(ee (ts.length:Int) 2&&ee (l.length:Int) 0)=(decide (ts.length=2)&&decide (l.length=0)):=by
   rw[Gr];simp only[gE,gQ,oz];omega
  have i:(ee (ts.length:Int) 0&&ee (l.length:Int) 2)=(decide (ts.length=0)&&decide (l.length=2)):=by
   rw[Gr];simp only[gE,gQ,oz];omega
  have j:(ee (ts.length:Int) 0&&ee (l.length:Int) 1)=(decide (ts.length=0)&&decide (l.length=1)):=by
   rw[Gr];simp only[gE,gQ,oz];omega
  unfold ri;simp only[Fm.ez,Fm.eF,Fm.h8,Fm.fw,d_,lJ,yf,r9,gQ,gB,lA (t:=s) xL,rF,dF,dN,er,d,i,j];unfold Fm.node
  by_cases b:k=1
  ·cases c:s.rh<;>simp[b]
  ·by_cases c:k=2\/k=3
   ·cases a:s.rh<;>simp[b,c]
   ·by_cases a:k=4\/k=5\/k=6\/k=7
    ·have n:h9 k=true:=by simp[h9,a]
     by_cases o:s.err=0<;>simp[b,c,a,o,n]
    ·have n:h9 k=false:=by simp[h9,a]
     simp[b,c,a,n]
def zy:∀(n:Nat) (t:Fm),t.wt<=n->t.wt<=1000000000->js n t=some (if t.ok then((t.an8:Int),true)else(0,false)):=by
 intro n
 induction n with
 |zero=>intro t h;have:=t.j2;omega
 |succ n ih=>
  intro t h o;cases t with
  |mk k s ts l=>
   have q:=IF (.mk k s ts l) o;rw[Fm.jg] at h o;have y:=Fm.qW l;have r:=Tm.qW ts;have hn:eb Tm.an8 ts<=eb Tm.wt ts:=kG λx _=>x.iA;have u:eb Fm.an8 l<=eb Fm.wt l:=kG λx _=>x.iA
   have w:eV (λ(f:Int) (a:Tm) (b:Int)=>dR (jC FU a) λc d=>if d then some (fV.next (eL .i64 b c))else some (fV.ret ((0:Int),false))) ts 0 1=if ts.all Tm.ok then some (.inl ((1+eb Tm.an8 ts:Nat):Int))else some (.inr (0,false)):=by
    refine vL Tm.an8 Tm.ok _ ts 0 1 xL ?_;intro j x v i;have:=ew Tm.wt i;rw[wP FU x (by rw[fI];omega) xL];cases x.ok<;>simp
   have k2:eV (λ(f:Int) (a:Fm) (b:Int)=>dR (js n a) λc d=>if d then some (fV.next (eL .i64 b c))else some (fV.ret ((0:Int),false))) l 0 ((1+eb Tm.an8 ts:Nat):Int)=if l.all Fm.ok then some (.inl ((1+eb Tm.an8 ts+eb Fm.an8 l:Nat):Int))else some (.inr (0,false)):=by
    refine vL Fm.an8 Fm.ok _ l 0 _ xL ?_;intro j x v i;have:=ew Fm.wt i;rw[ih x xL xL];cases x.ok<;>simp
   rw[js,q];simp only[Fm.ez,Fm.eF,Fm.h8,Fm.fw,d_,ef (l:=l) xL,ef (l:=ts) xL,dY,dF,w,Fm.gR,Fm.dJ];cases A:Fm.node k s ts.length l.length with
   |false=>simp|true=>
    cases B:ts.all Tm.ok with
    |false=>simp|true=>
     simp only[if_true,dF,eo,k2,Cp];cases C:l.all Fm.ok<;>simp
def pN{t:Fm}(h:t.wt<=1000000000):iU t=some (if t.err=0 then(t.an8:Int)else 0,t.err):=by
 unfold iU Fm.err;rw[zy FU t (by rw[fI];exact h) h];cases t.ok with
 |false=>simp|true=>
  by_cases a:4096<t.an8
  ·simp[a];omega
  ·simp[a];omega
def pZ{t:Fm}(h:t.wt<=1000000000):j5 t=some t.err:=by
 unfold j5;rw[pN h];rfl
def JX:∀(n:Nat) (t:Fm),t.wt<=n->t.wt<=1000000000->lF n t=some t:=by
 intro n
 induction n with
 |zero=>intro t h;have:=t.j2;omega
 |succ n ih=>
  intro t h c;cases t with
  |mk k s ts l=>
   rw[Fm.jg] at h c;have f:=Fm.qW l;have d:=Tm.qW ts;rw[lF];simp only[Fm.ez,Fm.eF,Fm.h8,Fm.fw,d_,ef (l:=l) xL,ef (l:=ts) xL,dY,jo (t:=s) xL,dF];rw[jX id ts 0 [] Xw]
   ·simp only[dF,eo];rw[jX id l 0 [] Xw]
    ·simp
    ·intro j x v a b;have:=ew Fm.wt a;rw[ih x xL xL];simp[fR (l:=v) (m:=[x]) (by simpa using b)]
   ·intro j x v a b;have:=ew Tm.wt a;rw[tl (t:=x) xL];simp[fR (l:=v) (m:=[x]) (by simpa using b)]
def tm{t:Fm}(h:t.wt<=1000000000):lF FU t=some t:=JX FU t (by rw[fI];exact h) h
mutual
def Fm.has:Fm->Bool
 |.mk k _ _ l=>if k=1 then false else if k=2 then Fm.MR l else if k=5 then true else Fm.G_ l
def Fm.MR:List Fm->Bool
 |[]=>false|f::l=>f.has||Fm.MR l
def Fm.G_:List Fm->Bool
 |[]=>false|[f]=>f.has|_::f::l=>Fm.G_ (f::l)
end
def Uy(k:Int)(a b:Ty):Ty×Bool×Int:=if(Ty.mk k [a,b]).err≠0 then(.mk 0 [],false,(Ty.mk k [a,b]).err)else(.mk k [a,b],true,0)
def aj4(first last:Ty×Bool×Int):Ty×Bool×Int:=
 if first.2.2≠0\/first.2.1=false then(last.1,last.2.1,first.2.2)else if last.2.1 then Uy 3 first.1 last.1 else(first.1,true,0)
def alk(first last:Ty×Bool×Int):Ty×Bool×Int:=
 if first.2.2≠0\/first.2.1=false then(last.1,true,first.2.2)else Uy 4 first.1 last.1
def agJ(k:Int)(s:Ty)(first last:Ty×Bool×Int):Ty×Bool×Int:=
 if last.2.2≠0 then(.mk 0 [],false,last.2.2)
 else if k=2 then aj4 first last
 else if k=5 then(if last.2.1 then Uy 3 s last.1 else(s,true,0))
 else if last.2.1 then(if k=3 then alk first last else if k=4 then Uy 4 s last.1 else(last.1,true,0))
 else(.mk 0 [],false,0)
def ahr:Ty×Bool×Int:=(.mk 0 [],false,0)
mutual
def Fm.ct:Fm->Ty×Bool×Int
 |.mk k s _ l=>if k=1 then ahr else agJ k s (Fm.akc l) (Fm.aew l)
def Fm.akc:List Fm->Ty×Bool×Int
 |[]=>ahr|f::_=>f.ct
def Fm.aew:List Fm->Ty×Bool×Int
 |[]=>ahr|[f]=>f.ct|_::f::l=>Fm.aew (f::l)
end
def Fm.Un(k:Int)(s:Ty)(ts:List Tm)(a b:Fm):(Fm.mk k s ts [a,b]).has=if k=1 then false else if k=2 then a.has||b.has else if k=5 then true else b.has:=by
 rw[Fm.has];simp[Fm.MR,Fm.G_]
def Fm.Mm(k:Int)(s:Ty)(ts:List Tm)(a:Fm):(Fm.mk k s ts [a]).has=if k=1 then false else if k=5 then true else a.has:=by
 rw[Fm.has];simp only[Fm.MR,Fm.G_,Bool.or_false]
 by_cases b:k=2
 ·subst b;simp
 ·simp[b]
def Fm.has_eq(s:Ty)(ts:List Tm)(l:List Fm):(Fm.mk 1 s ts l).has=false:=by rw[Fm.has];simp
def Fm.oG{p:Fm->Prop}(q:∀a b:Tm,a.ok=true->b.ok=true->p (.mk 1 (.mk 0 []) [a,b] []))
  (r:∀(k:Int) (a b:Fm),k=2\/k=3->a.ok=true->b.ok=true->p a->p b->p (.mk k (.mk 0 []) [] [a,b]))
  (t:∀(k:Int) (s:Ty) (a:Fm),k=4\/k=5\/k=6\/k=7->s.err=0->a.ok=true->p a->p (.mk k s [] [a])) (f:Fm) (j:f.ok=true):p f:=by
 induction f using Fm.ind with
 |h k s ts l ih=>
  rw[Fm.gR] at j;simp only[gE,kE] at j;obtain⟨⟨hn,d⟩,c⟩:=j;unfold Fm.node at hn
  split at hn
  ·rename_i n;subst n;simp only[gE,oz,Ty.mO] at hn;obtain⟨⟨rfl,i⟩,o⟩:=hn;obtain⟨a,b,rfl⟩:=pR (l:=ts) xL;have:=abQ.1 o;subst this;exact q a b (d a LA) (d b LA)
  ·split at hn
   ·rename_i n;simp only[gE,oz,Ty.mO] at hn;obtain⟨⟨rfl,i⟩,o⟩:=hn;obtain⟨a,b,rfl⟩:=pR (l:=l) xL;have:=abQ.1 i;subst this;exact r k a b n (c a LA) (c b LA) (ih a LA (c a LA)) (ih b LA (c b LA))
   ·simp only[gE,oz] at hn;obtain⟨⟨⟨u,hs⟩,i⟩,o⟩:=hn;obtain⟨a,rfl⟩:=jr (l:=l) xL;have:=abQ.1 i;subst this;refine t k s a ?_ hs (c a LA) (ih a LA (c a LA));simpa[h9] using u
theorem Ty.la{t:Ty}(h:t.err=0):t.ok=true/\t.an8<=64:=by
 unfold Ty.err at h
 split at h
 ·split at h
  ·omega
  ·exact⟨‹_›,xL⟩
 ·omega
theorem Ty.Cz{t:Ty}(h:t.ok=true)(a:t.an8<=64):t.err=0:=by unfold Ty.err;rw[dO h,dI xL]
def Ty.ok_two{k:Int}(c:k=3\/k=4){a b:Ty}(d:a.ok=true)(f:b.ok=true):(Ty.mk k [a,b]).ok=true:=by
 rw[Ty.gR]
 have:¬(k=1\/k=2\/k=5):=xL
 simp[Ty.want,c,this,d,f]
theorem Ty.Bn(k:Int)(a b:Ty):(Ty.mk k [a,b]).an8=1+a.an8+b.an8:=by rw[Ty.dJ];simp[eb];omega
theorem Fm.hD{f:Fm}(h:f.err=0):f.ok=true/\f.an8<=4096:=by
 unfold Fm.err at h
 split at h
 ·split at h
  ·omega
  ·exact⟨‹_›,xL⟩
 ·omega
def Fm.cty(f:Fm):Ty×Int:=if f.err≠0 then(.mk 0 [],f.err)else if f.ct.2.2≠0 then(.mk 0 [],f.ct.2.2)else(if f.has then f.ct.1 else .mk 5 [],0)
def Fb:∀(n:Nat) (f:Fm),f.an8<=n->f.ok=true->jD n f=some f.has:=by
 intro n
 induction n with
 |zero=>intro f h;have:=f.eE;omega
 |succ n ih=>
  intro f h t;refine Fm.oG (p:=λf=>f.an8<=n+1->jD (n+1) f=some f.has) ?_ ?_ ?_ f t h
  ·intro a b _ _ _;rw[jD,Fm.has_eq];rfl
  ·intro k a b u i v _ _ hn;rw[Fm.dJ] at hn;simp only[eb] at hn;have d:=ih a xL i;have j:=ih b xL v
   have c:k≠1:=xL
   have l:k≠5:=xL
   have o:dX [a,b] (fH .i64 (ey [a,b]) 1)=some b:=by
    rw[fZ LA LA];rfl
   have w:dX [a,b] 0=some a:=rfl;have x:dX [a,b] 1=some b:=rfl;rw[jD,Fm.Un,dI c];simp only[Fm.ez,Fm.eF,gQ,c,l,lU,o,w,x,dF,j,d,d_]
   by_cases r:k=2
   ·simp only[r,if_true];cases a.has<;>simp
   ·simp[r]
  ·intro k s a u hs i _ hn;rw[Fm.dJ] at hn;simp only[eb] at hn;have d:=ih a xL i
   have c:k≠1:=xL
   have q:k≠2:=xL
   have o:dX [a] (fH .i64 (ey [a]) 1)=some a:=by
    rw[fZ LA LA];rfl
   rw[jD,Fm.Mm,dI c];simp only[Fm.ez,Fm.eF,gQ,c,q,lU,o,dF,d]
   by_cases y:k=5<;>simp[y]
def EH(f:Fm)(h:f.wt<=1000000000):nF f=some (if f.err≠0 then(false,f.err)else(f.has,0)):=by
 unfold nF;rw[kh h];simp only[dF,er]
 by_cases he:f.err=0
 ·rw[Fb FU f (by rw[fI];have:=f.iA;omega) (Fm.hD he).1];simp[he]
 ·simp[he]
def Ty.nat:Ty:=.mk 1 []
def Ty.iB:Ty:=.mk 2 []
def Ty.unit:Ty:=.mk 5 []
def Ty.fn(a b:Ty):Ty:=.mk 4 [a,b]
def Ty.pr(a b:Ty):Ty:=.mk 3 [a,b]
def Ty.z:Ty:=.mk 0 []
inductive dQ:List Ty->Tm->Ty->Prop
 |var {g t} (i:Nat):i<g.length->g[g.length-1-i]?=some t->dQ g (.mk 1 i .z []) t|lam {g s b t}:(Ty.fn s t).err=0->dQ (g++[s]) b t->dQ g (.mk 2 0 s [b]) (.fn s t)|app {g f a s t}:dQ g f (.fn s t)->dQ g a s->dQ g (.mk 3 0 .z [f,a]) t|zero {g}:dQ g (.mk 4 0 .z []) .nat|succ {g a}:dQ g a .nat->dQ g (.mk 5 0 .z [a]) .nat|rB {g t b s n}:t.err=0->dQ g b t->dQ g s (.fn .nat (.fn t t))->dQ g n .nat->dQ g (.mk 6 0 t [b,s,n]) t|nil {g}:dQ g (.mk 7 0 .z []) .iB|cons {g a b}:dQ g a .nat->dQ g b .iB->dQ g (.mk 8 0 .z [a,b]) .iB|fold {g t b s n}:t.err=0->dQ g b t->dQ g s (.fn .nat (.fn .iB (.fn t t)))->dQ g n .iB->dQ g (.mk 9 0 t [b,s,n]) t|pair {g a b s t}:(Ty.pr s t).err=0->dQ g a s->dQ g b t->dQ g (.mk 10 0 .z [a,b]) (.pr s t)|fst {g a s t}:dQ g a (.pr s t)->dQ g (.mk 11 0 .z [a]) s|snd {g a s t}:dQ g a (.pr s t)->dQ g (.mk 12 0 .z [a]) t|unit {g}:dQ g (.mk 13 0 .z []) .unit
theorem Ty.pW:Ty.z.rh=true:=rfl
def Ty.sF{k:Int}(c:k=3\/k=4){a b:Ty}(h:(Ty.mk k [a,b]).err=0):a.err=0/\b.err=0:=by grind[Ty.la,Ty.gR,Ty.Bn,Ty.Cz]
def dQ.ok{g:List Ty}{x:Tm}{t:Ty}(h:dQ g x t):x.ok=true:=by
 induction h with
 |var i c f=>grind[Tm.gR,Tm.node,gI,j1,Ty.pW]|lam c _ ih=>have:=(Ty.sF (.inr rfl) c).1;simp[Tm.gR,Tm.node,gI,j1,this,ih]
 |app _ _ a b=>simp[Tm.gR,Tm.node,gI,j1,Ty.pW,a,b]|zero=>simp[Tm.gR,Tm.node,gI,j1,Ty.pW]|succ _ ih=>simp[Tm.gR,Tm.node,gI,j1,Ty.pW,ih]|rB c _ _ _ a b d=>grind[Tm.gR,Tm.node,gI,j1]|nil=>simp[Tm.gR,Tm.node,gI,j1,Ty.pW]|cons _ _ a b=>simp[Tm.gR,Tm.node,gI,j1,Ty.pW,a,b]|fold c _ _ _ a b d=>grind[Tm.gR,Tm.node,gI,j1]|pair _ _ _ a b=>simp[Tm.gR,Tm.node,gI,j1,Ty.pW,a,b]|fst _ ih=>simp[Tm.gR,Tm.node,gI,j1,Ty.pW,ih]|snd _ ih=>simp[Tm.gR,Tm.node,gI,j1,Ty.pW,ih]|unit=>simp[Tm.gR,Tm.node,gI,j1,Ty.pW]
def Tm.o7(t:Tm):∀{m n:Int},m<=n->t.aoa m=true->t.aoa n=true:=by
 induction t using Tm.ind with
 |h k i s l ih=>grind[Tm.fD]
def dQ.aoa{g:List Ty}{x:Tm}{t:Ty}(h:dQ g x t):∀m:Int,((g.length+x.an8:Nat):Int)<=m->x.aoa m=true:=by
 induction h with
 |var i d f=>grind[Tm.dJ,eb,Tm.fD]|lam _ _ ih=>grind[Tm.dJ,eb,Tm.fD]|zero|nil|unit=>grind[Tm.dJ,eb,Tm.fD]|succ _ ih|fst _ ih|snd _ ih=>grind[Tm.dJ,eb,Tm.fD]|app _ _ a b|cons _ _ a b|pair _ _ _ a b=>grind[Tm.dJ,eb,Tm.fD]|rB _ _ _ _ a b c|fold _ _ _ _ a b c=>grind[Tm.dJ,eb,Tm.fD]
def xE{α:Type}{f g:α->Nat}{c:Nat}{l:List α}(h:∀x∈l,f x<=c*g x):eb f l<=c*eb g l:=by
 induction l with
 |nil=>simp[eb]|cons x l ih=>simp only[eb,XP];have:=h x LA;have:=ih λy a=>h y (by simp[a]);omega
def Tm.iD(t:Tm)(h:t.ok=true):t.wt<=65*t.an8:=by
 induction t using Tm.ind with
 |h k i s l ih=>
  rw[Tm.gR] at h;simp only[gE,kE] at h;rw[Tm.jg,Tm.dJ,XP];have c:=xE λx b=>ih x b (h.2 x b)
  have d:s.an8<=64:=by
   have:=h.1;simp only[Tm.node,gE] at this;have a:=this.2
   split at a
   ·simp only[oz] at a;exact(Ty.la a).2
   ·grind[Ty.mO,Ty.dJ,eb]
  omega
def Fm.iD(f:Fm)(h:f.ok=true):f.wt<=65*f.an8:=by
 induction f using Fm.ind with
 |h k s ts l ih=>
  rw[Fm.gR] at h;simp only[gE,kE] at h;rw[Fm.jg,Fm.dJ,XP,XP];have b:=xE λx a=>ih x a (h.2 x a);have d:=xE (f:=Tm.wt) (g:=Tm.an8) (c:=65) (l:=ts) λx a=>x.iD (h.1.2 x a)
  have i:s.an8<=64:=by
   have:=h.1.1;unfold Fm.node at this
   split at this
   ·grind[Ty.mO,Ty.dJ,eb]
   ·split at this
    ·grind[Ty.mO,Ty.dJ,eb]
    ·simp only[gE,oz] at this;exact(Ty.la this.1.1.2).2
  omega
structure eu.wf (d:eu):Prop where
 len:d.l.length<=1000
 lo:0<=d.se
 hi:d.se<=d.l.length
def Vo(x n:Int)(c:1<=n)(d:n<=1000000000):∃y,Jy x n=some y/\0<=y/\y<n:=by
 unfold Jy;simp only[ZN (b:=n) xL];refine⟨_,rfl,?_⟩;unfold YV
 have e:(x.tmod n).natAbs<n.natAbs:=by
  rw[Int.natAbs_tmod];exact acq _ xL
 rw[fW xL xL]
 have a:0<=x.tmod n+n:=xL
 exact⟨Int.tmod_nonneg _ a,Int.tmod_lt_of_pos _ xL⟩
def qF(d:eu)(a:d.wf)(n:Int)(c:1<=n)(f:n<=1000000000):∃x b,gN d n=some (x,b)/\0<=x/\x<n/\b.wf:=by
 unfold gN;simp only[lJ,r9,rR,jj,gB]
 by_cases h:n<1\/(d.l.length:Int)<=d.se
 ·grind
 ·rw[dI h];obtain⟨y,i,_⟩:=Li (l:=d.l) a.lo xL;obtain⟨z,j,k,o⟩:=Vo y n c f;rw[i];simp only[dF,j];have:=a.len;have:=a.lo;rw[fW xL xL];exact⟨z,_,rfl,k,o,⟨a.len,by show 0<=d.se+1;omega,by show d.se+1<=(d.l.length:Int);omega⟩⟩
def gp:jt=some .nat:=rfl
def gD:mw=some .iB:=rfl
def Lg:sA=some .unit:=rfl
def yl{a b:Ty}(c:a.an8<=1000000000)(d:b.an8<=1000000000):sJ a b=some (.pr a b):=by
 unfold sJ;rw[jo c,jo d];rfl
def iT{a b:Ty}(c:a.an8<=1000000000)(d:b.an8<=1000000000):kK a b=some (.fn a b):=by
 unfold kK;rw[jo c,jo d];rfl
def Ty.Yi:Ty.nat.ok=true:=by unfold Ty.nat;rw[Ty.gR];rfl
def Ty.X0:Ty.iB.ok=true:=by unfold Ty.iB;rw[Ty.gR];rfl
def Ty.Uq:Ty.unit.ok=true:=by unfold Ty.unit;rw[Ty.gR];rfl
def Ty.hZ:Ty.nat.an8=1:=by unfold Ty.nat;rw[Ty.dJ];rfl
def Ty.oM:Ty.iB.an8=1:=by unfold Ty.iB;rw[Ty.dJ];rfl
def Ty.IY:Ty.unit.an8=1:=by unfold Ty.unit;rw[Ty.dJ];rfl
def Ty.jw(a b:Ty):(Ty.fn a b).an8=1+a.an8+b.an8:=Ty.Bn _ _ _
def Ty.vK(a b:Ty):(Ty.pr a b).an8=1+a.an8+b.an8:=Ty.Bn _ _ _
theorem X9(k:Nat)(h:k<=4):1<=2^k/\2^k<=16:=by
 have:k=0\/k=1\/k=2\/k=3\/k=4:=xL
 grind
def S0:∀(n k:Nat) (d:eu),k<n->k<=4->d.wf->∃t i,nM n d (k:Int)=some (t,i)/\t.ok=true/\t.an8+1<=2^(k+1)/\i.wf:=by
 intro n
 induction n with
 |zero=>intro k d h;omega|succ n ih=>
  intro k d B o w;obtain⟨x,d1,y,C,D,j⟩:=qF d w 7 xL xL;have F:=X9 k o
  have G:(2:Nat)^(k+1)=2*2^k:=by rw[Nat.pow_succ];omega
  have c:=λi (q:eu.wf i)=>(⟨Ty.nat,i,rfl,Ty.Yi,by rw[Ty.hZ];omega,q⟩:∃t l,some (Ty.nat,i)=some (t,l)/\t.ok=true/\t.an8+1<=2^(k+1)/\l.wf);rw[nM];simp only[d_,y,dN,gp,gD,Lg,dF,lJ,r9,gQ,iw]
  split
  ·exact c d1 j
  split
  ·exact⟨.iB,d1,rfl,Ty.X0,by rw[Ty.oM];omega,j⟩
  split
  ·exact⟨.unit,d1,rfl,Ty.Uq,by rw[Ty.IY];omega,j⟩
  have two:0<(k:Int)->∃a b d2 d3,nM n d1 (fH .i64 (k:Int) 1)=some (a,d2)/\nM n d2 (fH .i64 (k:Int) 1)=some (b,d3)/\a.ok=true/\b.ok=true/\a.an8+1<=2^k/\b.an8+1<=2^k/\d3.wf:=by
   intro f;obtain⟨m,rfl⟩:∃m,k=m+1:=⟨k-1,xL⟩
   grind[fZ]
  split
  ·split
   ·rename_i f;obtain⟨a,b,d2,d3,r,s,a2,u,a3,A,v⟩:=two f;rw[r];simp only[dN];rw[s];simp only[dN];rw[yl xL xL];exact⟨_,_,rfl,Ty.ok_two (.inl rfl) a2 u,by rw[Ty.vK];omega,v⟩
   ·exact c d1 j
  split
  ·split
   ·rename_i f;obtain⟨a,b,d2,d3,r,s,a2,u,a3,A,v⟩:=two f;rw[r];simp only[dN];rw[s];simp only[dN];rw[iT xL xL];exact⟨_,_,rfl,Ty.ok_two (.inr rfl) a2 u,by rw[Ty.jw];omega,v⟩
   ·exact c d1 j
  ·exact c d1 j
def Zn(d:eu)(b:d.wf)(k:Nat)(c:k<=4):∃t a,nM FU d (k:Int)=some (t,a)/\t.err=0/\t.an8+1<=2^(k+1)/\a.wf:=by
 obtain⟨t,a,f,h,i,j⟩:=S0 FU k d (by rw[fI];omega) c b
 grind[X9,Ty.Cz]
def To(g:List Ty)(t:Ty)(hg:g.length<=1000000)(hn:∀s∈g,s.an8<=1000000000):∃l,Dr g t=some l/\l.length<=g.length/\∀v∈l,∃i:Nat,v=i/\i<g.length/\g[g.length-1-i]?=some t:=by
 unfold Dr;simp only[ef (l:=g) xL,dY,d_]
 have key:∀(l:List Ty) (i:Nat) (v:List Int),i+l.length=g.length->v.length<=i->(∀x∈v,∃j:Nat,x=j/\j<g.length/\g[g.length-1-j]?=some t)->∃a,eV (ρ:=List Int) (λ(j:Int) (u:Ty) (v:List Int)=>dE (dX g (fH .i64 (fH .i64 (ey g) 1) j)) λx=>dE (fq FU x t) λy=>if y then gh (fK v [j]) (some (fV.next (fT v [j])))else some (fV.next v)) l i v=some (.inl a)/\a.length<=g.length/\∀x∈a,∃j:Nat,x=j/\j<g.length/\g[g.length-1-j]?=some t:=by
  intro l
  induction l with
  |nil=>
   intro i v d k c;exact⟨v,rfl,by simp at d;omega,c⟩
  |cons y l ih=>
   intro i v d k c;simp only[oZ] at d
   have b:g.length-1-i<g.length:=xL
   have n:dX g (fH .i64 (fH .i64 (ey g) 1) (i:Int))=some g[g.length-1-i]:=by grind[gB,fZ,jR]
   rw[fm];simp only[n,dF,iK (hn _ (D9 b))];cases hs:Ty.kX g[g.length-1-i] t with
   |false=>
    simp only[qU,lU,dF,fy];exact ih (i+1) v xL xL c
   |true=>
    rw[Ty.kV] at hs;simp only[if_true,fR (l:=v) (m:=[(i:Int)]) Xw,dY,dF,fy,jn];refine ih (i+1) (v++[(i:Int)]) xL Xw ?_;intro x f;rcases tp.1 f with h|h
    ·exact c x h
    ·rw[EU] at h;exact⟨i,h,xL,by rw[qp b,hs]⟩
 obtain⟨a,o,q,r⟩:=key g 0 [] LA LA LA;rw[o];exact⟨a,rfl,q,r⟩
def uB(g l:List Ty)(h:g.length+l.length<=1000000):re g l=some (g++l):=by
 unfold re;rw[fR Xw,fR Xw];simp
def EA(n:Nat)(hn:n<=1000000):∃x,qu (n:Int)=some x/\∀g,dQ g x .nat/\x.an8=n+1:=by
 unfold qu;rw[pD 4 [] (by simp[eb])];simp only[dF,d_]
 obtain⟨o,q,l⟩:=LD (ρ:=Tm) (F:=W0 λ(h:Int) (i:Int) (v167:Int) (v168:Int) (j:List Ty) (k:List Tm)=>
   if oC h 0 then some (fV.next (fH .i64 h 1,5,0,0,[],[Tm.mk i v167 (Ty.mk v168 j) k]))else some (fV.FP (h,i,v167,v168,j,k)))
  (λs=>0<=s.1/\s.1<=n/\(∀g,dQ g (Tm.mk s.2.1 s.2.2.1 (Ty.mk s.2.2.2.1 s.2.2.2.2.1) s.2.2.2.2.2) .nat)/\(Tm.mk s.2.1 s.2.2.1 (Ty.mk s.2.2.2.1 s.2.2.2.2.1) s.2.2.2.2.2).an8+s.1=n+1)
  (λs=>s.1.toNat)
  (λo=>match o with|.inl s=>(∀g,dQ g (Tm.mk s.2.1 s.2.2.1 (Ty.mk s.2.2.2.1 s.2.2.2.2.1) s.2.2.2.2.2) .nat)/\(Tm.mk s.2.1 s.2.2.1 (Ty.mk s.2.2.2.1 s.2.2.2.2.1) s.2.2.2.2.2).an8=n+1|.inr _=>False)
  (by
   rintro⟨a,b,c,d,e,f⟩ ⟨q,l,t,v⟩;simp only at q l t v
   by_cases u:0<a
   ·left;refine⟨_,by simp only[Au,iw,u,if_true];rfl,⟨?_,?_,?_,?_⟩,?_⟩
    ·rw[fZ xL xL];show 0<=a-1;omega
    ·rw[fZ xL xL];show a-1<=n;omega
    ·intro g;exact dQ.succ (t g)
    all_goals grind[fZ,Tm.dJ,eb]
   ·right;left;refine⟨_,by simp only[Au,iw,u,lU];rfl,t,?_⟩
    have:a=0:=xL
    subst this
    simp only;omega)
  FU ((n:Int),4,0,0,[],[]) ⟨LA,LA,λg=>dQ.zero,by rw[Tm.dJ];simp[eb];omega⟩ (by rw[fI];show(n:Int).toNat<_;omega)
 simp only[Tm.eF,Tm.hB,Tm.fw,Ty.eF,Ty.ez,Tm.ez];rw[q];cases o with
 |inr r=>exact l.elim|inl s=>
  obtain⟨a,b,c,d,e,f⟩:=s;exact⟨_,rfl,λg=>⟨l.1 g,l.2⟩⟩
def A3(n:Int)(b:0<=n)(hn:n<=4000):∃x,tS n=some x/\∀g,dQ g x .nat/\(x.an8:Int)=n+1:=by
 obtain⟨k,rfl⟩:=af3 b;obtain⟨x,c,a⟩:=EA k xL;unfold tS uz;simp only[rR,jj];rw[dI xL,dI xL,c];exact⟨x,rfl,λg=>⟨(a g).1,by rw[(a g).2];simp⟩⟩
structure TA (g:List Ty) (x:Tm) (t:Ty) (n:Nat):Prop where
 ty:dQ g x t
 an8:x.an8<=n
def TA.wt{g:List Ty}{x:Tm}{t:Ty}{n:Nat}(h:TA g x t n):x.wt<=65*n:=by
 have:=x.iD h.ty.ok;have:=h.an8;omega
theorem TA.mono{g:List Ty}{x:Tm}{t:Ty}{n m:Nat}(h:TA g x t n)(hm:n<=m):TA g x t m:=⟨h.ty,Gk h.an8 hm⟩
def OG{k:Int}{a:Tm}(b:a.wt<=100000000):fJ k [a]=some (.mk k 0 .z [a]):=pD k [a] (by simp[eb];omega)
def wo{k:Int}{a b:Tm}(c:a.wt<=100000000)(d:b.wt<=100000000):fJ k [a,b]=some (.mk k 0 .z [a,b]):=pD k [a,b] (by simp[eb];omega)
def HK{k:Int}:fJ k []=some (.mk k 0 .z []):=pD k [] (by simp[eb])
def Er{k:Int}{s:Ty}{a:Tm}(hs:s.an8<=1000000000)(b:a.wt<=100000000):lq k s [a]=some (.mk k 0 s [a]):=I6 k s [a] hs (by simp[eb];omega)
def Dm{k:Int}{s:Ty}{a b c:Tm}(hs:s.an8<=1000000000)(d:a.wt<=100000000)(f:b.wt<=100000000)(h:c.wt<=100000000):lq k s [a,b,c]=some (.mk k 0 s [a,b,c]):=
 I6 k s [a,b,c] hs (by simp[eb];omega)
def yw{f a b:Tm}(c:f.wt<=10000000)(d:a.wt<=10000000)(h:b.wt<=10000000):vJ f [a,b]=some (.mk 3 0 .z [.mk 3 0 .z [f,a],b]):=by
 have i:(Tm.mk 3 0 .z [f,a]).wt<=30000000:=by rw[Tm.jg];have:Ty.z.an8=1:=rfl;simp[eb,this];omega
 unfold vJ
 simp only[ef (l:=[a,b]) LA,dY,d_,fm,oH,Cg,Ty.jQ,Tm.jQ,wo (k:=3) (a:=f) (b:=a) xL xL,dF,fy,wo (k:=3) (a:=.mk 3 0 .z [f,a]) (b:=b) xL xL,eo]
def Ty.fi:Ty.nat.err=0:=Ty.Cz Ty.Yi (by rw[Ty.hZ];omega)
def Ty.mD:Ty.iB.err=0:=Ty.Cz Ty.X0 (by rw[Ty.oM];omega)
def Ty.Jk:Ty.unit.err=0:=Ty.Cz Ty.Uq (by rw[Ty.IY];omega)
def Ty.yK{a b:Ty}(c:a.err=0)(d:b.err=0)(h:a.an8+b.an8<=63):(Ty.fn a b).err=0:=Ty.Cz (Ty.ok_two (.inr rfl) (Ty.la c).1 (Ty.la d).1) (by rw[Ty.jw];omega)
def Ty.SW{a b:Ty}(c:a.err=0)(d:b.err=0)(h:a.an8+b.an8<=63):(Ty.pr a b).err=0:=Ty.Cz (Ty.ok_two (.inl rfl) (Ty.la c).1 (Ty.la d).1) (by rw[Ty.vK];omega)
def zc(i:Nat):Tm:=.mk 1 i .z []
def wx(s:Ty)(b:Tm):Tm:=.mk 2 0 s [b]
def eH(f a:Tm):Tm:=.mk 3 0 .z [f,a]
def iO:Tm:=.mk 4 0 .z []
def gJ(a:Tm):Tm:=.mk 5 0 .z [a]
def UW(t:Ty)(a b c:Tm):Tm:=.mk 6 0 t [a,b,c]
def NV:Tm:=wx .nat (wx .nat (UW .nat (zc 1) (wx .nat (wx .nat (gJ (zc 0)))) (zc 0)))
def S7:Tm:=wx .nat (UW .nat iO (wx .nat (wx .nat (zc 1))) (zc 0))
def QF:Tm:=wx .nat (wx .nat (UW .nat (zc 1) (wx .nat (wx .nat (eH S7 (zc 0)))) (zc 0)))
def DX(i:Nat):gq (i:Int)=some (zc i):=rfl
def vr{a:Tm}(b:a.wt<=100000000):jY a=some (wx .nat a):=by
 unfold jY;rw[gp];simp only[dF];rw[Er (by rw[Ty.hZ];omega) b];rfl
def rec_eq{a b c:Tm}(d:a.wt<=100000000)(f:b.wt<=100000000)(h:c.wt<=100000000):sM a b c=some (UW .nat a b c):=by
 unfold sM;rw[gp];simp only[dF];rw[Dm (by rw[Ty.hZ];omega) d f h];rfl
def wZ:oB=some NV:=by
 unfold oB;rw[show gq 1=some (zc 1)from rfl,show gq 0=some (zc 0)from rfl];simp only[dF];rw[OG Df];simp only[dF];rw[vr Df];simp only[dF];rw[vr Df];simp only[dF];rw[rec_eq Df Df Df];simp only[dF];rw[vr Df];simp only[dF];rw[vr Df];rfl
def KQ:vt=some S7:=by
 unfold vt;rw[show gq 1=some (zc 1)from rfl,show gq 0=some (zc 0)from rfl,HK];simp only[dF];rw[vr Df];simp only[dF];rw[vr Df];simp only[dF];rw[rec_eq Df Df Df];simp only[dF];rw[vr Df];rfl
def Eh:rq=some QF:=by
 unfold rq;rw[show gq 1=some (zc 1)from rfl,show gq 0=some (zc 0)from rfl,KQ];simp only[dF];rw[wo Df Df];simp only[dF];rw[vr Df];simp only[dF];rw[vr Df];simp only[dF];rw[rec_eq Df Df Df];simp only[dF];rw[vr Df];simp only[dF];rw[vr Df];rfl
def ai7{g:List Ty}{t:Ty}(i:Nat)(h:i<g.length)(a:g[g.length-1-i]?=some t):dQ g (zc i) t:=dQ.var i h a
def gz{g:List Ty}{t:Ty}:dQ (g++[t]) (zc 0) t:=dQ.var 0 LA LA
def kW{g:List Ty}{s t:Ty}:dQ (g++[t]++[s]) (zc 1) t:=dQ.var 1 LA LA
def vi:(Ty.fn .nat .nat).err=0:=Ty.yK Ty.fi Ty.fi (by rw[Ty.hZ];omega)
def yF:(Ty.fn .nat (Ty.fn .nat .nat)).err=0:=Ty.yK Ty.fi vi (by rw[Ty.jw,Ty.hZ];omega)
def Bb(g:List Ty):dQ g NV (.fn .nat (.fn .nat .nat)):=
 .lam yF (.lam vi (.rB Ty.fi kW (.lam yF (.lam vi (.succ gz))) gz))
def VD(g:List Ty):dQ g S7 (.fn .nat .nat):=
 .lam vi (.rB Ty.fi .zero (.lam yF (.lam vi kW)) gz)
def Eb(g:List Ty):dQ g QF (.fn .nat (.fn .nat .nat)):=
 .lam yF (.lam vi (.rB Ty.fi kW (.lam yF (.lam vi (.app (VD _) gz))) gz))
def MW:NV.an8=9:=Df
def PI:QF.an8=16:=Df
def uL{α β:Type}{G:Option β->Prop}(P:α->Prop){k:α->Option β}{b:(α->Option β)->Option β}(c:∀a,P a->G (k a))(d:∀j:α->Option β,(∀a,P a->G (j a))->G (b j)):G (ec k b):=d k c
def I_{α γ β:Type}{G:Option β->Prop}(P:α->γ->Prop){k:α->γ->Option β}{b:(α->γ->Option β)->Option β}(d:∀a c,P a c->G (k a c))(f:∀j:α->γ->Option β,(∀a c,P a c->G (j a c))->G (b j)):G (ec k b):=f k d
def tb(N:Nat):Nat->Nat
 |0=>3*N|k+1=>30+3*tb N k
def ajl{N:Nat}(a:N<=20):∀k,k<=5->tb N k<=18300:=by
 intro k b
 have:k=0\/k=1\/k=2\/k=3\/k=4\/k=5:=xL
 rcases this with rfl|rfl|rfl|rfl|rfl|rfl<;>simp only[tb]<;>omega
def XJ{N k:Nat}:3*N<=tb N k:=by
 induction k with
 |zero=>simp[tb]|succ k ih=>grind[tb]
def kC(g:List Ty)(t:Ty)(b:Nat)(o:Option (Tm×eu)):Prop:=∃x a,o=some (x,a)/\a.wf/\TA g x t b
def kC.of{g:List Ty}{t:Ty}{b:Nat}{x:Tm}{d:eu}(a:d.wf)(h:dQ g x t)(hn:x.an8<=b):kC g t b (some (x,d)):=⟨x,d,rfl,a,h,hn⟩
structure BN (N:Nat) (g:List Ty):Prop where
 all:∀s∈g,s.err=0/\s.an8<=N
def BN.app{N:Nat}{g l:List Ty}(h:BN N g)(a:∀s∈l,s.err=0/\s.an8<=N):BN N (g++l):=
 ⟨λs hs=>by rcases tp.1 hs with h'|h';exact h.all s h';exact a s h'⟩
def Ty.qO{t:Ty}(h:t.err=0):t=.nat\/t=.iB\/t=.unit\/(∃a b,t=.pr a b/\a.err=0/\b.err=0)\/(∃a b,t=.fn a b/\a.err=0/\b.err=0):=by
 cases t with
 |mk k l=>
  have f:=(Ty.la h).1;rw[Ty.gR] at f;simp only[gE,oz] at f;have c:=f.1;unfold Ty.want at c
  split at c
  ·rename_i d;injection c with c;have:=abQ.1 c.symm;subst this;rcases d with rfl|rfl|rfl
   ·exact .inl rfl
   ·exact .inr (.inl rfl)
   ·exact .inr (.inr (.inl rfl))
  ·split at c
   ·rename_i d;injection c with c;obtain⟨a,b,rfl⟩:=pR (l:=l) xL;have:=Ty.sF d h;rcases d with rfl|rfl
    ·exact .inr (.inr (.inr (.inl ⟨a,b,rfl,this⟩)))
    ·exact .inr (.inr (.inr (.inr ⟨a,b,rfl,this⟩)))
   ·cases c
set_option maxHeartbeats 1000000 in
def RP(N:Nat)(aQ:1<=N)(hN:N<=20):∀(n:Nat) (dep:Int) (g:List Ty) (t:Ty) (d:eu),dep.toNat*(N+1)+t.an8<n->dep<=5->-1000000<=dep-t.an8->g.length+(3+N)*dep.toNat+t.an8<=1000->BN N g->t.err=0->t.an8<=N->d.wf->kC g t (if dep<=0 then 3*t.an8 else tb N dep.toNat) (gH n d g t dep):=by
 intro n
 induction n with
 |zero=>intro dep g t d h;omega|succ n ih=>
  intro dep g t d hm aR aP hlen hg C w hd;have aS:=t.eE;have ay:=(Ty.la C).2
  have deep:0<dep->∀U S T,U.length<=g.length+3->BN N U->S.err=0->S.an8<=N->T.wf->kC U S (tb N (dep.toNat-1)) (gH n T U S (fH .i64 dep 1)):=by
   intro o U S T V Y h3 D h5;obtain⟨k,rfl⟩:∃k:Nat,dep=(k+1:Nat):=⟨dep.toNat-1,xL⟩
   have e1:((k+1:Nat):Int).toNat=k+1:=LA
   rw[e1] at hm hlen|-;rw[fZ xL xL,show((k+1:Nat):Int)-1=(k:Int) by omega]
   have hmul:(k+1)*(N+1)=k*(N+1)+N+1:=by rw[CQ];omega
   have az:(3+N)*(k+1)=(3+N)*k+3+N:=by rw[XP];omega
   obtain⟨x,d1,A,a2,a3⟩:=ih (k:Int) U S T Xw xL xL Xw Y h3 D h5;refine⟨x,d1,A,a2,a3.mono ?_⟩;simp only[ahc]
   split
   ·have:k=0:=xL
    subst this;simp only[tb];omega
   ·simp
  have flat:dep<=0->∀U S T,U.length<=g.length+1->S.an8+1<=t.an8->BN N U->S.err=0->T.wf->kC U S (3*S.an8) (gH n T U S (fH .i64 dep 1)):=by
   intro o U S T V h0 Y h3 h5
   have e1:dep.toNat=0:=xL
   rw[e1] at hm hlen;rw[fZ xL xL]
   have e2:(dep-1).toNat=0:=xL
   have:=ih (dep-1) U S T (by rw[e2];omega) xL xL (by rw[e2];omega) Y h3 xL h5;rw[dO xL] at this;exact this
  have Z:0<dep->(if dep<=0 then 3*t.an8 else tb N dep.toNat)=30+3*tb N (dep.toNat-1):=by
   intro o;rw[dI xL];obtain⟨k,hk⟩:∃k,dep.toNat=k+1:=⟨dep.toNat-1,xL⟩;rw[hk];rfl
  have aA:0<dep->tb N (dep.toNat-1)<=18300:=λ_=>ajl hN _ xL
  have ai:3*t.an8<=(if dep<=0 then 3*t.an8 else tb N dep.toNat):=by
   split
   ·omega
   ·have:=XJ (N:=N) (k:=dep.toNat);omega
  generalize (if dep<=0 then 3*t.an8 else tb N dep.toNat)=B at Z ai|-
  have q:∀{g x t},0<dep->TA g x t (tb N (dep.toNat-1))->x.wt<=1300000:=by
   intro g x t o h;have:=h.wt;have:=aA o;omega
  obtain⟨vs,aB,aT,aC⟩:=To g t xL (λs hs=>by have:=(hg.all s hs).2;omega);rw[gH,aB];simp only[dF];refine I_ (G:=kC g t B) (λa c=>c.wf/\(a=true->vs≠[])) ?_ ?_
  ·--a variable,or ak else
   rintro a d1 ⟨an,aD⟩;cases a with
   |true=>
    simp only[if_true];have aE:=aD rfl
    have aU:1<=vs.length:=by cases vs with|nil=>exact absurd rfl aE|cons _ _=>simp
    obtain⟨x,d2,V,Y,h3,D⟩:=qF d1 an (ey vs) Xw Xw;rw[V];simp only[dN];obtain⟨y,hy,aF⟩:=Li (l:=vs) Y (by simpa using h3);rw[hy];simp only[dF];obtain⟨i,rfl,aG,aH⟩:=aC y aF;rw[DX];refine kC.of D (ai7 i aG aH) ?_
    have:(zc i).an8=1:=by unfold zc;rw[Tm.dJ];rfl
    omega
   |false=>
    simp only[qU,lU];refine uL (G:=kC g t B) eu.wf ?_ ?_
    ·--by ar type
     intro d2 H;rcases Ty.qO C with rfl|rfl|rfl|⟨a,b,rfl,ha,hb⟩|⟨a,b,rfl,ha,hb⟩
     ·--numbers
      simp only[show Ty.nat.an6=1 from rfl,gQ,if_true];refine uL (G:=kC g .nat B) eu.wf ?_ ?_
      ·intro d3 af;obtain⟨x,d4,V,Y,h3,D⟩:=qF d3 af 3 xL xL;rw[V];simp only[dN];obtain⟨y,aI,aw⟩:=A3 x Y xL;rw[aI];refine kC.of D (aw g).1 ?_;have:=(aw g).2;rw[Ty.hZ] at ai;omega
      ·intro j X;simp only[iw]
       split
       ·rename_i o;have Z:=Z o;obtain⟨x,d4,V,Y,h3,D⟩:=qF d2 H 5 xL xL;rw[V];simp only[dN,gQ]
        split
        ·obtain⟨a,d5,A,a2,a3⟩:=deep o g .nat d4 xL hg Ty.fi w D;rw[A];simp only[dN];rw[OG (by have:=q o a3;omega)];refine kC.of a2 (.succ a3.ty) ?_;have:=a3.an8;rw[Tm.dJ];simp only[eb];omega
        split
        ·rw[wZ];simp only[dF];obtain⟨a,d5,A,a2,a3⟩:=deep o g .nat d4 xL hg Ty.fi w D;rw[A];simp only[dN];obtain⟨b,d6,I,J,v⟩:=deep o g .nat d5 xL hg Ty.fi w a2;rw[I];simp only[dN];rw[yw Df (by have:=q o a3;omega) (by have:=q o v;omega)];refine kC.of J (.app (.app (Bb g) a3.ty) v.ty) ?_;have:=a3.an8;have:=v.an8;have:=MW;rw[Tm.dJ];simp only[eb,Tm.dJ];omega
        split
        ·rw[Eh];simp only[dF];obtain⟨a,d5,A,a2,a3⟩:=deep o g .nat d4 xL hg Ty.fi w D;rw[A];simp only[dN];obtain⟨b,d6,I,J,v⟩:=deep o g .nat d5 xL hg Ty.fi w a2;rw[I];simp only[dN];rw[yw Df (by have:=q o a3;omega) (by have:=q o v;omega)];refine kC.of J (.app (.app (Eb g) a3.ty) v.ty) ?_;have:=a3.an8;have:=v.an8;have:=PI;rw[Tm.dJ];simp only[eb,Tm.dJ];omega
        ·exact X d4 D
       ·exact X d2 H
     ·--lists
      simp only[show Ty.iB.an6=2 from rfl,gQ,if_true,show¬(2:Int)=1 by omega,lU];refine I_ (G:=kC g .iB B) (λa c=>c.wf/\(a=true->0<dep)) ?_ ?_
      ·rintro a d3 ⟨af,o⟩;cases a with
       |true=>
        have o:=o rfl;have Z:=Z o;simp only[if_true];rw[gp];simp only[dF];obtain⟨a,d5,A,a2,a3⟩:=deep o g .nat d3 xL hg Ty.fi (by rw[Ty.hZ];omega) af;rw[A];simp only[dN];obtain⟨b,d6,I,J,v⟩:=deep o g .iB d5 xL hg Ty.mD w a2;rw[I];simp only[dN];rw[wo (by have:=q o a3;omega) (by have:=q o v;omega)];refine kC.of J (.cons a3.ty v.ty) ?_;have:=a3.an8;have:=v.an8;rw[Tm.dJ];simp only[eb];omega
       |false=>
        simp only[qU,lU];rw[HK];refine kC.of af .nil ?_;rw[Tm.dJ];simp only[eb];omega
      ·intro j X;simp only[iw]
       split
       ·rename_i o;obtain⟨x,d4,V,Y,h3,D⟩:=qF d2 H 2 xL xL;rw[V];simp only[dN];exact X _ d4 ⟨D,λ_=>o⟩
       ·exact X _ d2 ⟨H,λh=>by cases h⟩
     ·simp only[show Ty.unit.an6=5 from rfl,gQ,show¬(5:Int)=1 by omega,show¬(5:Int)=2 by omega,show¬(5:Int)=3 by omega,show¬(5:Int)=4 by omega,lU];rw[HK];refine kC.of H .unit ?_;rw[Tm.dJ];simp only[eb];omega
     ·simp only[show(Ty.pr a b).an6=3 from rfl,show(Ty.pr a b).an7=[a,b] from rfl,gQ,show¬(3:Int)=1 by omega,show¬(3:Int)=2 by omega,if_true,lU,eO,hR,kS,ql,dF];rw[Ty.vK] at w ay ai
      by_cases o:0<dep
      ·have Z:=Z o;obtain⟨x,d5,A,a2,a3⟩:=deep o g a d2 xL hg ha xL H;rw[A];simp only[dN];obtain⟨y,d6,I,J,v⟩:=deep o g b d5 xL hg hb xL a2;rw[I];simp only[dN];rw[wo (by have:=q o a3;omega) (by have:=q o v;omega)];refine kC.of J (.pair C a3.ty v.ty) ?_;have:=a3.an8;have:=v.an8;rw[Tm.dJ];simp only[eb];omega
      ·have aJ:=Ty.vK a b;obtain⟨x,d5,A,a2,a3⟩:=flat xL g a d2 xL xL hg ha H;rw[A];simp only[dN];obtain⟨y,d6,I,J,v⟩:=flat xL g b d5 xL xL hg hb a2;rw[I];simp only[dN];have:=a3.an8;have:=v.an8;rw[wo (by have:=a3.wt;omega) (by have:=v.wt;omega)];refine kC.of J (.pair C a3.ty v.ty) ?_;rw[Tm.dJ];simp only[eb];omega
     ·simp only[show(Ty.fn a b).an6=4 from rfl,show(Ty.fn a b).an7=[a,b] from rfl,gQ,show¬(4:Int)=1 by omega,show¬(4:Int)=2 by omega,show¬(4:Int)=3 by omega,if_true,lU,eO,hR,kS,ql,dF];have aJ:=Ty.jw a b;rw[uB g [a] Xw];simp only[dF];have W:BN N (g++[a]):=hg.app (by intro s hs;rw[EU] at hs;subst hs;exact⟨ha,xL⟩)
      by_cases o:0<dep
      ·have Z:=Z o;obtain⟨x,d5,A,a2,a3⟩:=deep o (g++[a]) b d2 LA W hb xL H;rw[A];simp only[dN];rw[Er xL (by have:=q o a3;omega)];refine kC.of a2 (.lam C a3.ty) ?_;have:=a3.an8;rw[Tm.dJ];simp only[eb];omega
      ·obtain⟨x,d5,A,a2,a3⟩:=flat xL (g++[a]) b d2 LA xL W hb H;rw[A];simp only[dN];have:=a3.an8;rw[Er xL (by have:=a3.wt;omega)];refine kC.of a2 (.lam C a3.ty) ?_;rw[Tm.dJ];simp only[eb];omega
    ·--a aK,or one of ar context
     intro j X;simp only[iw]
     split
     ·rename_i o;have Z:=Z o;obtain⟨x,d2,V,Y,h3,D⟩:=qF d1 an 8 xL xL;rw[V];simp only[dN,gQ]
      have leaf:∀d,eu.wf d->∃s T,nM FU d 0=some (s,T)/\s.err=0/\s.an8=1/\T.wf:=by
       intro d hd;obtain⟨s,T,c1,c2,c3,c4⟩:=Zn d hd 0 xL;have:=s.eE;exact⟨s,T,c1,c2,xL,c4⟩
      split
      ·obtain⟨s,d3,s1,s2,s3,s4⟩:=leaf d2 D;rw[s1];simp only[dN];rw[uB g [s] Xw];simp only[dF];obtain⟨a,d5,A,a2,a3⟩:=deep o (g++[s]) t d3 LA (hg.app (by intro u hu;rw[EU] at hu;subst hu;exact⟨s2,xL⟩)) C w s4;rw[A];simp only[dN];rw[Er xL (by have:=q o a3;omega)];simp only[dF];obtain⟨b,d6,I,J,v⟩:=deep o g s d5 xL hg s2 xL a2;rw[I];simp only[dN];have w1:=q o a3;rw[wo (by rw[Tm.jg];simp only[eb];omega) (by have:=q o v;omega)];refine kC.of J (.app (.lam (Ty.yK s2 C xL) a3.ty) v.ty) ?_;have:=a3.an8;have:=v.an8;rw[Tm.dJ];simp only[eb,Tm.dJ];omega
      split
      ·obtain⟨s,d3,s1,s2,s3,s4⟩:=leaf d2 D;rw[s1];simp only[dN];obtain⟨a,d5,A,a2,a3⟩:=deep o g t d3 xL hg C w s4;rw[A];simp only[dN];obtain⟨b,d6,I,J,v⟩:=deep o g s d5 xL hg s2 xL a2;rw[I];simp only[dN];have w1:=q o a3;have w2:=q o v;rw[wo xL xL];simp only[dF];rw[OG (by rw[Tm.jg];have:Ty.z.an8=1:=rfl;simp only[eb];omega)];refine kC.of J (.fst (.pair (Ty.SW C s2 xL) a3.ty v.ty)) ?_;have:=a3.an8;have:=v.an8;rw[Tm.dJ];simp only[eb,Tm.dJ];omega
      split
      ·rw[gp];simp only[dF];rw[uB g [.nat,t] Xw];simp only[dF]
       have W:BN N (g++[.nat,t]):=hg.app (by
        intro u hu;simp only[lX,ve,r8] at hu;rcases hu with rfl|rfl
        ·exact⟨Ty.fi,by rw[Ty.hZ];omega⟩
        ·exact⟨C,w⟩)
       obtain⟨a,d5,A,a2,a3⟩:=deep o (g++[.nat,t]) t d2 LA W C w D;rw[A];simp only[dN];have w1:=q o a3;have nn:=Ty.hZ;rw[Er xL xL];simp only[dF];rw[Er xL (by rw[Tm.jg];simp only[eb];omega)];simp only[dF];obtain⟨b,d6,I,J,v⟩:=deep o g t d5 xL hg C w a2;rw[I];simp only[dN];obtain⟨y,d7,y1,y2,y3,y4⟩:=qF d6 J 3 xL xL;rw[y1];simp only[dN];obtain⟨z,z1,z2⟩:=A3 y y2 xL;rw[z1];simp only[dF];have w2:=q o v;have zn:=(z2 g).2;have zw:=z.iD (z2 g).1.ok
       have e1:(Tm.mk 2 0 .nat [Tm.mk 2 0 t [a]]).wt<=2000000:=by rw[Tm.jg];simp only[eb,Tm.jg];omega
       rw[Dm xL xL xL xL];have ad:(Ty.fn t t).err=0:=Ty.yK C C xL;refine kC.of y4 (.rB C v.ty (.lam (Ty.yK Ty.fi ad (by rw[Ty.jw];omega)) (.lam ad (by simpa using a3.ty))) (z2 g).1) ?_;have:=a3.an8;have:=v.an8;rw[Tm.dJ];simp only[eb,Tm.dJ];omega
      split
      ·rw[gp,gD];simp only[dF];rw[uB g [.nat,.iB,t] Xw];simp only[dF]
       have W:BN N (g++[.nat,.iB,t]):=hg.app (by
        intro u hu;simp only[lX,ve,r8] at hu;rcases hu with rfl|rfl|rfl
        ·exact⟨Ty.fi,by rw[Ty.hZ];omega⟩
        ·exact⟨Ty.mD,by rw[Ty.oM];omega⟩
        ·exact⟨C,w⟩)
       obtain⟨a,d5,A,a2,a3⟩:=deep o (g++[.nat,.iB,t]) t d2 LA W C w D;rw[A];simp only[dN];have w1:=q o a3;have nn:=Ty.hZ;have ln:=Ty.oM;rw[Er xL xL];simp only[dF];rw[Er xL (by rw[Tm.jg];simp only[eb];omega)];simp only[dF];rw[Er xL (by rw[Tm.jg];simp only[eb,Tm.jg];omega)];simp only[dF];obtain⟨b,d6,I,J,v⟩:=deep o g t d5 xL hg C w a2;rw[I];simp only[dN];obtain⟨c,d7,c1,c2,c3⟩:=deep o g .iB d6 xL hg Ty.mD xL J;rw[c1];simp only[dN];have w2:=q o v;have w3:=q o c3
       have e1:(Tm.mk 2 0 .nat [Tm.mk 2 0 .iB [Tm.mk 2 0 t [a]]]).wt<=2000000:=by rw[Tm.jg];simp only[eb,Tm.jg];omega
       rw[Dm xL xL xL xL];have ad:(Ty.fn t t).err=0:=Ty.yK C C xL;have ah:(Ty.fn .iB (Ty.fn t t)).err=0:=Ty.yK Ty.mD ad (by rw[Ty.jw];omega);refine kC.of c2 (.fold C v.ty (.lam (Ty.yK Ty.fi ah (by rw[Ty.jw,Ty.jw];omega)) (.lam ah (.lam ad (by simpa using a3.ty)))) c3.ty) ?_;have:=a3.an8;have:=v.an8;have:=c3.an8;rw[Tm.dJ];simp only[eb,Tm.dJ];omega
      split
      ·obtain⟨s,d3,s1,s2,s3,s4⟩:=leaf d2 D;rw[s1];simp only[dN];obtain⟨a,d5,A,a2,a3⟩:=deep o g s d3 xL hg s2 xL s4;rw[A];simp only[dN];obtain⟨b,d6,I,J,v⟩:=deep o g t d5 xL hg C w a2;rw[I];simp only[dN];have w1:=q o a3;have w2:=q o v;rw[wo xL xL];simp only[dF];rw[OG (by rw[Tm.jg];have:Ty.z.an8=1:=rfl;simp only[eb];omega)];refine kC.of J (.snd (.pair (Ty.SW s2 C xL) a3.ty v.ty)) ?_;have:=a3.an8;have:=v.an8;rw[Tm.dJ];simp only[eb,Tm.dJ];omega
      split
      ·--a function of ar context
       rw[ef xL,dY];simp only[d_]
       rcases LW (λ_:Unit=>True) (λr:Tm×eu=>kC g t B (some r)) (F:=λ(L:Int) (aL:Ty) (_:Unit)=>
         dE (dX g (fH .i64 (fH .i64 (ey g) 1) L)) λK=>
          if K.an6=4 then dE (dX K.an7 1) λao=>dE (fq FU ao t) λaq=>
           if aq then dE (gq L) λM=>dE (dX K.an7 0) λO=>dR (gH n d2 g O (fH .i64 dep 1)) λP Q=>
            dE (fJ 3 [M,P]) λR=>some (fV.ret (R,Q))
           else some (fV.next ())
          else if false then dE (gq L) λM=>dE (dX K.an7 0) λO=>dR (gH n d2 g O (fH .i64 dep 1)) λP Q=>
            dE (fJ 3 [M,P]) λR=>some (fV.ret (R,Q))
           else some (fV.next ())) g 0 () trivial (by
        intro k u s hk _;have aM:k<g.length:=(sX.1 hk).1
        have ae:g.length-1-k<g.length:=xL
        have e1:dX g (fH .i64 (fH .i64 (ey g) 1) ((0+k:Nat):Int))=some g[g.length-1-k]:=by
         rw[xR,gB,fZ (a:=(g.length:Int)) (b:=1) xL xL,fZ xL xL,show(g.length:Int)-1-(k:Int)=((g.length-1-k:Nat):Int) by omega,jR];simp[ae]
        simp only[e1,dF];have hf:=hg.all _ (D9 ae);have ax:g[g.length-1-k]?=some g[g.length-1-k]:=qp ae;generalize g[g.length-1-k]=f at hf ax|-;rcases Ty.qO hf.1 with rfl|rfl|rfl|⟨a,b,rfl,ha,hb⟩|⟨a,b,rfl,ha,hb⟩
        ·left;exact⟨(),rfl,trivial⟩
        ·left;exact⟨(),rfl,trivial⟩
        ·left;exact⟨(),rfl,trivial⟩
        ·left;exact⟨(),rfl,trivial⟩
        ·simp only[show(Ty.fn a b).an6=4 from rfl,show(Ty.fn a b).an7=[a,b] from rfl,gQ,if_true,eO,hR,kS,ql,dF];have aN:=hf.2;rw[Ty.jw] at aN;rw[iK xL];simp only[dF];cases hs:b.kX t with
         |false=>left;exact⟨(),rfl,trivial⟩|true=>
          rw[Ty.kV] at hs;subst hs;right;simp only[if_true,xR];rw[DX];simp only[dF];obtain⟨y,d5,A,a2,a3⟩:=deep o g a d2 xL hg ha xL D;rw[A];simp only[dN];have w1:=q o a3
          have e2:(zc k).wt=2:=by unfold zc;rw[Tm.jg];rfl
          rw[wo xL xL];refine⟨_,rfl,kC.of a2 (.app (ai7 k aM ax) a3.ty) ?_⟩;have:=a3.an8
          have e3:(zc k).an8=1:=by unfold zc;rw[Tm.dJ];rfl
          rw[Tm.dJ];simp only[eb];omega)with⟨s,hs,_⟩|⟨r,hr,aO⟩
       ·rw[hs];exact X d2 D
       ·rw[hr];exact aO
      ·exact X d2 D
     ·exact X d1 an
  ·intro j X;simp only[iw,gB]
   split
   ·rename_i o;obtain⟨x,d2,V,Y,h3,D⟩:=qF d hd 3 xL xL;rw[V];simp only[dN];exact X _ d2 ⟨D,λ_ h=>by subst h;simp at o⟩
   ·exact X _ d ⟨hd,λh=>by cases h⟩
inductive ic:List Ty->Fm->Prop
 |eq {g a b}:dQ g a .nat->dQ g b .nat->ic g (.mk 1 .z [a,b] [])|two {g k a b}:k=2\/k=3->ic g a->ic g b->ic g (.mk k .z [] [a,b])|q {g k s a}:k=4\/k=5\/k=6\/k=7->s.err=0->ic (g++[s]) a->ic g (.mk k s [] [a])
def ic.ok{g:List Ty}{f:Fm}(h:ic g f):f.ok=true:=by
 induction h with
 |eq c d=>simp[Fm.gR,Fm.node,Ty.pW,c.ok,d.ok]|two i _ _ j l=>
  rename_i k a b _ _
  have:¬k=1:=xL
  simp[Fm.gR,Fm.node,Ty.pW,i,this,j,l]
 |q i hs _ ih=>
  rename_i k s a _
  have c:¬k=1:=xL
  have d:¬(k=2\/k=3):=xL
  have n:h9 k=true:=by simp[h9,i]
  simp[Fm.gR,Fm.node,c,d,n,hs,ih]
def aj8{a b:Tm}(c:a.wt<=1000000000)(d:b.wt<=1000000000):xQ a b=some (.mk 1 .z [a,b] []):=by
 unfold xQ;rw[tl c,tl d];rfl
def Mu{k:Int}{a b:Fm}(c:a.wt<=1000000000)(d:b.wt<=1000000000):q9 k a b=some (.mk k .z [] [a,b]):=by
 unfold q9;rw[tm c,tm d];rfl
def Wz{k:Int}{s:Ty}{a:Fm}(hs:s.an8<=1000000000)(b:a.wt<=1000000000):nN k s a=some (.mk k s [] [a]):=by
 unfold nN;rw[jo hs,tm b];rfl
def wY(l:List Ty):Int:=if 16<l.length then 3 else ft (l.map Ty.err)
def EW(l:List Ty)(f:l.length<=1000000)(h:∀t∈l,t.an8<=1000000000):nB l=some (wY l):=by
 unfold nB wY;simp only[iw,gB,ef (l:=l) xL,dY,d_]
 by_cases b:16<l.length
 ·rw[dO xL,dO b]
 ·rw[dI xL,dI b]
  have key:=mC (F:=λ(j:Int) (x:Ty) (_:Unit)=>dE (pC x) λa=>if eD a 0 then some (fV.ret a)else some (fV.next ())) Ty.err l 0 (by
   intro j x d;rw[I9 (h x d)]
   simp only[dF,er])
  simp only[er] at key|-;rw[key]
  by_cases c:ft (l.map Ty.err)=0
  ·simp[c]
  ·simp[c]
def sS(l:List Ty)(f:l.length<=1000000)(h:∀t∈l,t.an8<=1000000000):l6 l=some (wY l):=by
 unfold l6 wY;simp only[iw,gB,ef (l:=l) xL,dY,d_]
 by_cases b:16<l.length
 ·rw[dO xL,dO b]
 ·rw[dI xL,dI b]
  have key:=mC (F:=λ(j:Int) (x:Ty) (_:Unit)=>dE (ib x) λa=>if eD a 0 then some (fV.ret a)else some (fV.next ())) Ty.err l 0 (by
   intro j x d;rw[mm (h x d)]
   simp only[dF,er])
  simp only[er] at key|-;rw[key]
  by_cases c:ft (l.map Ty.err)=0
  ·simp[c]
  ·simp[c]
def xV:∀(n:Nat) (a b:Ty),a.an8<=n->a.an8<=1000000000->∃r,gC n a b=some r/\(r=true↔a=b):=by
 intro n
 induction n with
 |zero=>intro t b h;have:=t.eE;omega
 |succ n ih=>
  intro a b h s;cases a with
  |mk k l=>
  cases b with
  |mk k' m=>
   rw[Ty.dJ] at h s;have v:=Ty.fF l;rw[gC];simp only[Ty.ez,Ty.eF,d_,ef (l:=l) xL,dY,lJ,r9,er,gB]
   by_cases d:k≠k'\/(l.length:Int)≠m.length
   ·rw[dO d];refine⟨false,rfl,?_⟩;simp only[qU,Si,Ty.mk.injEq,not_and];rintro rfl rfl;simp at d
   ·rw[dI d];simp only[not_or,u9] at d;obtain⟨rfl,hlen⟩:=d
    have c:l.length=m.length:=xL
    let p:Ty->Ty->Bool:=λx y=>(gC n x y).getD false
    have o:∀x∈l,∀y,gC n x y=some (p x y)/\(p x y=true↔x=y):=by
     intro x f y;have:=ew Ty.an8 f;obtain⟨r,q,i⟩:=ih x y xL xL
     have e:p x y=r:=by show(gC n x y).getD false=r;rw[q];rfl
     rw[e];exact⟨q,i⟩
    have key:=xH (F:=λ(j:Int) (x:Ty) (_:Unit)=>dE (dX m j) λy=>dE (gC n x y) λz=>if z then some (fV.next ())else some (fV.ret false)) p m l 0 m rfl c (by
     intro k x y f u;rw[jR,u];simp only[dF];rw[(o x f y).1]
     rfl)
    rw[key];have he:=xK p l m λx f y=>(o x f y).2;cases i:v7 p l m with
    |false=>exact⟨false,rfl,by rw[i] at he;simpa using he⟩
    |true=>exact⟨true,rfl,by rw[i] at he;simpa using he⟩
def xF:∀(n:Nat) (a b:Tm),a.wt<=n->a.wt<=1000000000->∃r,jc n a b=some r/\(r=true↔a=b):=by
 intro n
 induction n with
 |zero=>intro t b h;have:=t.j2;omega
 |succ n ih=>
  intro a b h G;cases a with
  |mk k i s l=>
  cases b with
  |mk k' f v m=>
   rw[Tm.jg] at h G;have J:=Tm.qW l;rw[jc];simp only[Tm.ez,Tm.eF,Tm.hB,Tm.fw,d_,ef (l:=l) xL,dY,er,gB]
   have no:¬(k=k'/\i=f/\s=v/\l.length=m.length)->∃r,some false=some r/\(r=true↔Tm.mk k i s l=Tm.mk k' f v m):=by
    intro hn;refine⟨false,rfl,?_⟩;simp only[qU,Si,Tm.mk.injEq,not_and];rintro rfl rfl rfl rfl;exact hn ⟨rfl,rfl,rfl,rfl⟩
   by_cases o:k≠k'
   ·rw[dO o,dO trivial];exact no λh=>o h.1
   ·rw[dI o]
    by_cases hi:i≠f
    ·rw[dO hi,dO trivial];exact no λh=>hi h.2.1
    ·rw[dI hi];obtain⟨r,H,B⟩:=xV FU s v (by rw[fI];omega) xL;rw[H];simp only[dF]
     by_cases q:r=true
     ·have hs:=B.1 q;rw[dO q]
      by_cases hlen:(l.length:Int)≠m.length
      ·rw[dO hlen];exact no λh=>hlen xL
      ·rw[dI hlen]
       have c:l.length=m.length:=xL
       let p:Tm->Tm->Bool:=λx y=>(jc n x y).getD false
       have C:∀x∈l,∀y,jc n x y=some (p x y)/\(p x y=true↔x=y):=by
        intro x d y;have:=ew Tm.wt d;obtain⟨r,D,u⟩:=ih x y xL xL
        have e:p x y=r:=by show(jc n x y).getD false=r;rw[D];rfl
        rw[e];exact⟨D,u⟩
       have key:=xH (F:=λ(j:Int) (x:Tm) (_:Unit)=>dE (dX m j) λy=>dE (jc n x y) λz=>if z then some (fV.next ())else some (fV.ret false)) p m l 0 m rfl c (by
        intro k x y d I;rw[jR,I];simp only[dF];rw[(C x d y).1]
        rfl)
       rw[key];have he:=xK p l m λx d y=>(C x d y).2;have w:k=k':=u9.1 o;have hi':i=f:=u9.1 hi;cases u:v7 p l m with
       |false=>
        refine⟨false,rfl,?_⟩;rw[u] at he;simp only[qU,Si,Tm.mk.injEq,not_and];intro _ _ _ A;exact absurd (he.2 A) LA
       |true=>
        refine⟨true,rfl,?_⟩;rw[u] at he;simp only[true_iff,Tm.mk.injEq];exact⟨w,hi',hs,he.1 rfl⟩
     ·rw[dI q,dO trivial];exact no λh=>q (B.2 h.2.2.1)
def w7:∀(n:Nat) (a b:Tm),a.wt<=n->a.wt<=1000000000->∃r,lB n a b=some r/\(r=true↔a=b):=by
 intro n
 induction n with
 |zero=>intro t b h;have:=t.j2;omega
 |succ n ih=>
  intro a b h G;cases a with
  |mk k i s l=>
  cases b with
  |mk k' f v m=>
   rw[Tm.jg] at h G;have J:=Tm.qW l;rw[lB];simp only[Tm.ez,Tm.eF,Tm.hB,Tm.fw,d_,ef (l:=l) xL,dY,er,gB]
   have no:¬(k=k'/\i=f/\s=v/\l.length=m.length)->∃r,some false=some r/\(r=true↔Tm.mk k i s l=Tm.mk k' f v m):=by
    intro hn;refine⟨false,rfl,?_⟩;simp only[qU,Si,Tm.mk.injEq,not_and];rintro rfl rfl rfl rfl;exact hn ⟨rfl,rfl,rfl,rfl⟩
   by_cases o:k≠k'
   ·rw[dO o,dO trivial];exact no λh=>o h.1
   ·rw[dI o]
    by_cases hi:i≠f
    ·rw[dO hi,dO trivial];exact no λh=>hi h.2.1
    ·rw[dI hi];obtain⟨r,H,B⟩:=wW FU s v (by rw[fI];omega) xL;rw[H];simp only[dF]
     by_cases q:r=true
     ·have hs:=B.1 q;rw[dO q]
      by_cases hlen:(l.length:Int)≠m.length
      ·rw[dO hlen];exact no λh=>hlen xL
      ·rw[dI hlen]
       have c:l.length=m.length:=xL
       let p:Tm->Tm->Bool:=λx y=>(lB n x y).getD false
       have C:∀x∈l,∀y,lB n x y=some (p x y)/\(p x y=true↔x=y):=by
        intro x d y;have:=ew Tm.wt d;obtain⟨r,D,u⟩:=ih x y xL xL
        have e:p x y=r:=by show(lB n x y).getD false=r;rw[D];rfl
        rw[e];exact⟨D,u⟩
       have key:=xH (F:=λ(j:Int) (x:Tm) (_:Unit)=>dE (dX m j) λy=>dE (lB n x y) λz=>if z then some (fV.next ())else some (fV.ret false)) p m l 0 m rfl c (by
        intro k x y d I;rw[jR,I];simp only[dF];rw[(C x d y).1]
        rfl)
       rw[key];have he:=xK p l m λx d y=>(C x d y).2;have w:k=k':=u9.1 o;have hi':i=f:=u9.1 hi;cases u:v7 p l m with
       |false=>
        refine⟨false,rfl,?_⟩;rw[u] at he;simp only[qU,Si,Tm.mk.injEq,not_and];intro _ _ _ A;exact absurd (he.2 A) LA
       |true=>
        refine⟨true,rfl,?_⟩;rw[u] at he;simp only[true_iff,Tm.mk.injEq];exact⟨w,hi',hs,he.1 rfl⟩
     ·rw[dI q,dO trivial];exact no λh=>q (B.2 h.2.2.1)
def BL{a b:Tm}(hw:a.wt<=1000000000):∃r,qQ a b=some r/\(r=true↔a=b):=by
 obtain⟨r,c,d⟩:=xF FU a b (by rw[fI];exact hw) hw;exact⟨r,by unfold qQ;rw[c];rfl,d⟩
def DE:∀(k:Nat) (m:Int) (t:Tm),(t.norm k m).2.2=0\/(t.norm k m).2.2=4\/(t.norm k m).2.2=5
 |0,m,t=>by
  rw[Tm.norm]
  split
  ·exact .inl rfl
  ·exact .inr (.inr rfl)
 |k+1,m,t=>by
  rw[Tm.norm]
  split
  ·exact .inr (.inl rfl)
  ·exact .inl rfl
  ·exact DE k _ _
def UQ:∀(k:Nat) (m:Int) (t a:Tm) (n:Int),t.norm k m=(a,n,0)->a.nf=true/\m<=n/\n<=m+k/\(∀k':Nat,n<=m+k'->t.norm k' m=(a,n,0))/\∀k':Nat,m+k'<n->t.norm k' m=(Tm.z,0,5)
 |0,m,t,a,n,h=>by
  rw[Tm.norm] at h
  split at h
  ·rename_i b;obtain⟨c,h⟩:=g_ h;rw[<-c];obtain⟨rfl,_⟩:=g_ h;refine⟨b,abL _,xL,λk' _=>?_,λk' h=>by omega⟩;cases k' with
   |zero=>rw[Tm.norm,dO b]|succ k'=>rw[Fe ((Fp _ _).1 b)]
  ·cases h
 |k+1,m,t,a,n,h=>by
  rw[Tm.norm] at h
  split at h
  ·cases h
  ·rename_i hs;obtain⟨c,h⟩:=g_ h;rw[<-c];obtain⟨rfl,_⟩:=g_ h;have b:=(Fp _ _).2 hs;refine⟨b,abL _,xL,λk' _=>?_,λk' h=>by omega⟩;cases k' with
   |zero=>rw[Tm.norm,dO b]|succ k'=>rw[Fe hs]
  ·rename_i d hs;obtain⟨f,o,q,i,j⟩:=UQ k (m+1) d a n h;refine⟨f,xL,xL,λk' l=>?_,λk' l=>?_⟩
   ·cases k' with
    |zero=>omega|succ k'=>
     rw[Fk hs];exact i k' xL
   ·cases k' with
    |zero=>
     rw[Tm.norm,dI];intro b;rw[(Fp _ _).1 b] at hs;cases hs
    |succ k'=>
     rw[Fk hs];exact j k' xL
def Hj:∀(k:Nat) (M m:Int) (t a:Tm) (n:Int),0<=M->Sm M t->t.an8<=4096->t.norm k m=(a,n,0)->Sm (M+8192*k) a/\a.an8<=4096
 |0,M,m,t,a,n,d,hs,hn,h=>by
  rw[Tm.norm] at h
  split at h
  ·obtain⟨b,h⟩:=g_ h;rw[<-b];exact⟨hs.mono xL,hn⟩
  ·cases h
 |k+1,M,m,t,a,n,d,hs,hn,h=>by
  rw[Tm.norm] at h
  split at h
  ·cases h
  ·obtain⟨b,h⟩:=g_ h;rw[<-b];exact⟨hs.mono xL,hn⟩
  ·rename_i f c;obtain⟨i,j,o⟩:=Zf d t hs xL f c;obtain⟨l,a2⟩:=Hj k (M+8192) (m+1) f a n xL ⟨i,j,xL⟩ xL h;exact⟨l.mono xL,a2⟩
def VZ(l:List Int):H3 l=some (decide (l.length<=500)):=by
 unfold H3
 congr 1
 unfold UD ey;exact adn.2 xL
def qC{k:Int}(a:k≠1)(c:k≠2)(f b i:Int)(s:Ty)(l:List Tm):(Tm.mk k i s l).up f b=.mk k i s (l.map (Tm.up f b)):=by
 rw[Tm.fh,dI (λh=>a h.1)];unfold eP;rw[dI c,sx]
def YP(f b i:Int)(s:Ty)(l:List Tm):(Tm.mk 2 i s l).up f b=.mk 2 i s (l.map (Tm.up (f+1) b)):=by
 rw[Tm.fh,dI (λh=>by have:=h.1;omega)];rfl
def nE{k:Int}(b:k≠1)(c:k≠2)(n i:Int)(a:Tm)(s:Ty)(l:List Tm):Tm.fQ n (Tm.mk k i s l) a=.mk k i s (l.map λx=>Tm.fQ n x a):=by
 rw[Tm.eI,dI b];unfold eP;rw[dI c,sx]
def Um(n i:Int)(a:Tm)(s:Ty)(l:List Tm):Tm.fQ n (Tm.mk 2 i s l) a=.mk 2 i s (l.map λx=>Tm.fQ (n+1) x a):=by
 rw[Tm.eI,dI Df];rfl
def Hh{g:List Ty}{t:Ty}{i j:Nat}(h:g[j]?=some t)(hi:i<g.length)(a:g.length-1-i=j):dQ g (.mk 1 i .z []) t:=.var i hi (by rw[a];exact h)
def dQ.up{g:List Ty}{x:Tm}{t:Ty}(h:dQ g x t):∀g1 g2 e:List Ty,g=g1++g2->dQ (g1++e++g2) (x.up g2.length e.length) t:=by
 induction h with
 |@var g t i d k=>
  rintro g1 g2 e rfl;rw[Tm.fh,mq];rw[qf] at d
  by_cases hi:g2.length<=i
  ·rw[dO ⟨rfl,xL⟩,show(i:Int)+e.length=((i+e.length:Nat):Int) by push_cast;rfl];refine Hh (j:=g1.length+g2.length-1-i) ?_ (by simp<;>omega) (by simp<;>omega);rw[qf,zk xL] at k;rw[vY,zk xL];exact k
  ·rw[dI (λh=>by have:=h.2;omega)];refine Hh (j:=g1.length+e.length+(g2.length-1-i)) ?_ (by simp<;>omega) (by simp<;>omega);rw[qf,CD xL] at k;rw[CD (by simp<;>omega)];rw[<-k]
   congr 1
   simp;omega
 |@lam g s b t d _ ih=>
  rintro g1 g2 e rfl;have:=ih g1 (g2++[s]) e (by rw[vY]);rw[YP];refine .lam d ?_;rw[qf,<-vY] at this;exact this
 |app _ _ a c=>intro g1 g2 e hg;rw[qC Df Df];exact .app (a g1 g2 e hg) (c g1 g2 e hg)|zero=>intro g1 g2 e hg;rw[qC Df Df];exact .zero|succ _ ih=>intro g1 g2 e hg;rw[qC Df Df];exact .succ (ih g1 g2 e hg)|rB d _ _ _ a c f=>intro g1 g2 e hg;rw[qC Df Df];exact .rB d (a g1 g2 e hg) (c g1 g2 e hg) (f g1 g2 e hg)|nil=>intro g1 g2 e hg;rw[qC Df Df];exact .nil|cons _ _ a c=>intro g1 g2 e hg;rw[qC Df Df];exact .cons (a g1 g2 e hg) (c g1 g2 e hg)|fold d _ _ _ a c f=>intro g1 g2 e hg;rw[qC Df Df];exact .fold d (a g1 g2 e hg) (c g1 g2 e hg) (f g1 g2 e hg)|pair d _ _ a c=>intro g1 g2 e hg;rw[qC Df Df];exact .pair d (a g1 g2 e hg) (c g1 g2 e hg)|fst _ ih=>intro g1 g2 e hg;rw[qC Df Df];exact .fst (ih g1 g2 e hg)|snd _ ih=>intro g1 g2 e hg;rw[qC Df Df];exact .snd (ih g1 g2 e hg)|unit=>intro g1 g2 e hg;rw[qC Df Df];exact .unit
def dQ.fQ{g:List Ty}{x:Tm}{t:Ty}(h:dQ g x t):∀(g1:List Ty) (s:Ty) (g2:List Ty) (a:Tm),g=g1++[s]++g2->dQ g1 a s->dQ (g1++g2) (Tm.fQ g2.length x a) t:=by
 induction h with
 |@var g t i k l=>
  rintro g1 s g2 a rfl c;rw[Tm.eI,dO rfl];unfold Tm.iQ;simp only[qf,oZ,DD] at k l
  by_cases he:(i:Int)=g2.length
  ·rw[dO he]
   have o:s=t:=by
    rw[vY,CD xL,zk (by simp<;>omega)] at l;rw[show g1.length+(0+1)+g2.length-1-i-g1.length=0 by omega] at l;exact iq l
   subst o;have:=c.up g1 [] g2 LA;simpa using this
  ·rw[dI he]
   by_cases hi:(g2.length:Int)<i
   ·rw[dO hi,show(i:Int)-1=((i-1:Nat):Int) by omega];refine Hh (j:=g1.length+g2.length-i) ?_ (by simp<;>omega) (by simp<;>omega);rw[vY,zk xL] at l;rw[zk xL,<-l]
    congr 1
    omega
   ·rw[dI hi];refine Hh (j:=g1.length+(g2.length-1-i)) ?_ (by simp<;>omega) (by simp<;>omega);rw[CD (by simp<;>omega)] at l;rw[CD xL,<-l]
    congr 1
    simp;omega
 |@lam g s b t k _ ih=>
  rintro g1 u g2 a rfl c;have:=ih g1 u (g2++[s]) a (by simp only[vY]) c;rw[Um];refine .lam k ?_;rw[qf,<-vY] at this;exact this
 |app _ _ d f=>intro g1 s g2 a hg c;rw[nE Df Df];exact .app (d g1 s g2 a hg c) (f g1 s g2 a hg c)|zero=>intro g1 s g2 a hg c;rw[nE Df Df];exact .zero|succ _ ih=>intro g1 s g2 a hg c;rw[nE Df Df];exact .succ (ih g1 s g2 a hg c)|rB k _ _ _ d f n=>intro g1 s g2 a hg c;rw[nE Df Df];exact .rB k (d g1 s g2 a hg c) (f g1 s g2 a hg c) (n g1 s g2 a hg c)|nil=>intro g1 s g2 a hg c;rw[nE Df Df];exact .nil|cons _ _ d f=>intro g1 s g2 a hg c;rw[nE Df Df];exact .cons (d g1 s g2 a hg c) (f g1 s g2 a hg c)|fold k _ _ _ d f n=>intro g1 s g2 a hg c;rw[nE Df Df];exact .fold k (d g1 s g2 a hg c) (f g1 s g2 a hg c) (n g1 s g2 a hg c)|pair k _ _ d f=>intro g1 s g2 a hg c;rw[nE Df Df];exact .pair k (d g1 s g2 a hg c) (f g1 s g2 a hg c)|fst _ ih=>intro g1 s g2 a hg c;rw[nE Df Df];exact .fst (ih g1 s g2 a hg c)|snd _ ih=>intro g1 s g2 a hg c;rw[nE Df Df];exact .snd (ih g1 s g2 a hg c)|unit=>intro g1 s g2 a hg c;rw[nE Df Df];exact .unit
def Ty.ahd{a b c d:Ty}(h:Ty.fn a b=Ty.fn c d):a=c/\b=d:=by unfold Ty.fn at h;simpa using h
def Ty.Xn{a b c d:Ty}(h:Ty.pr a b=Ty.pr c d):a=c/\b=d:=by unfold Ty.pr at h;simpa using h
def dQ.fv{g:List Ty}{x:Tm}{t:Ty}(h:dQ g x t)(o:x.root=true):dQ g x.fv t:=by
 cases h with
 |@app _ f a s _ c k=>
  have d:f.an6=2:=by simpa[Tm.root,Tm.kd] using o
  generalize r:Ty.fn s t=q at c
  cases c<;>simp only[Tm.eF] at d<;>first|omega|skip
  rename_i A b w i j;obtain⟨rfl,rfl⟩:=Ty.ahd r;have:=j.fQ g s [] a LA k;simpa[Tm.fv] using this
 |@rB _ _ b s n c k i j=>
  have d:n.an6=4\/n.an6=5:=by simpa[Tm.root,Tm.kd] using o
  cases j<;>simp only[Tm.eF] at d<;>first|omega|skip
  ·simpa[Tm.fv] using k
  ·rename_i m l;have:=dQ.app (.app i l) (dQ.rB c k i l);simpa[Tm.fv,o0,Ty.z] using this
 |@fold _ _ b s n c k i j=>
  have d:n.an6=7\/n.an6=8:=by simpa[Tm.root,Tm.kd] using o
  cases j<;>simp only[Tm.eF] at d<;>first|omega|skip
  ·simpa[Tm.fv] using k
  ·rename_i u v l y;have:=dQ.app (.app (.app i l) y) (dQ.fold c k i y);simpa[Tm.fv,o0,Ty.z] using this
 |@fst _ a s w c=>
  have d:a.an6=10:=by simpa[Tm.root,Tm.kd] using o
  generalize r:Ty.pr t w=q at c
  cases c<;>simp only[Tm.eF] at d<;>first|omega|skip
  rename_i i j l;obtain⟨rfl,rfl⟩:=Ty.Xn r;simpa[Tm.fv] using j
 |@snd _ a s w c=>
  have d:a.an6=10:=by simpa[Tm.root,Tm.kd] using o
  generalize r:Ty.pr s t=q at c
  cases c<;>simp only[Tm.eF] at d<;>first|omega|skip
  rename_i i j l;obtain⟨rfl,rfl⟩:=Ty.Xn r;simpa[Tm.fv] using l
 |_=>simp[Tm.root] at o
def lp{r k i:Int}{s:Ty}{l:List Tm}{b:Tm}(h:(Tm.mk k i s l).Kw r=some (some b)):((Tm.mk k i s l).root=true/\b=(Tm.mk k i s l).fv)\/∃a,Tm.uU r l=some (some a)/\b=.mk k i s a:=by
 rw[Tm.Nw] at h
 by_cases c:(Tm.mk k i s l).root=true
 ·rw[dO c] at h
  split at h
  · cases h
  · exact .inl ⟨c,(iq (iq h)).symm⟩
 ·rw[dI c] at h;cases e:Tm.uU r l with
  |none=>rw[e] at h;cases h
  |some o=>
    cases o with
    |none=>rw[e] at h;cases h
    |some a=>rw[e] at h;exact .inr ⟨a,rfl,(iq (iq h)).symm⟩
def jZ{r:Int}{a:Tm}{l c:List Tm}(h:Tm.uU r (a::l)=some (some c)):(∃b,a.Kw r=some (some b)/\c=b::l)\/∃m,Tm.uU r l=some (some m)/\c=a::m:=by
 rw[Tm.uU] at h;cases e:a.Kw r with
 |none=>rw[e] at h;cases h
 |some o=>
  cases o with
  |some b=>rw[e] at h;exact .inl ⟨b,rfl,(iq (iq h)).symm⟩
  |none=>
   rw[e] at h;dsimp only at h;cases d:Tm.uU r l with
   |none=>rw[d] at h;cases h
   |some o2=>
    cases o2 with
    |none=>rw[d] at h;cases h
    |some m=>rw[d] at h;exact .inr ⟨m,rfl,(iq (iq h)).symm⟩
def nd{r:Int}{a:List Tm}(h:Tm.uU r []=some (some a)):False:=by rw[Tm.uU] at h;cases h
def dQ.Kw{r:Int}{g:List Ty}{x:Tm}{t:Ty}(h:dQ g x t):∀o,x.Kw r=some (some o)->dQ g o t:=by
 induction h with
 |var i c j=>
  intro o hs;rcases lp hs with⟨d,rfl⟩|⟨u,f,rfl⟩
  ·exact(dQ.var i c j).fv d
  ·exact(nd f).elim
 |lam c j ih=>
  intro o hs;rcases lp hs with⟨d,rfl⟩|⟨u,f,rfl⟩
  ·exact(dQ.lam c j).fv d
  ·rcases jZ f with⟨q,a,b⟩|⟨m,a,b⟩
   ·subst_vars;exact .lam c (ih _ a)
   ·exact(nd a).elim
 |app c j k l=>
  intro o hs;rcases lp hs with⟨d,rfl⟩|⟨u,f,rfl⟩
  ·exact(dQ.app c j).fv d
  ·rcases jZ f with⟨q,a,b⟩|⟨m,a,b⟩
   ·subst_vars;exact .app (k _ a) j
   ·rcases jZ a with⟨q,n,b⟩|⟨m,n,b⟩
    ·subst_vars;exact .app c (l _ n)
    ·exact(nd n).elim
 |zero=>
  intro o hs;rcases lp hs with⟨d,rfl⟩|⟨u,f,rfl⟩
  ·exact dQ.zero.fv d
  ·exact(nd f).elim
 |succ c ih=>
  intro o hs;rcases lp hs with⟨d,rfl⟩|⟨u,f,rfl⟩
  ·exact(dQ.succ c).fv d
  ·rcases jZ f with⟨q,a,b⟩|⟨m,a,b⟩
   ·subst_vars;exact .succ (ih _ a)
   ·exact(nd a).elim
 |rB s c j v k l w=>
  intro o hs;rcases lp hs with⟨d,rfl⟩|⟨u,f,rfl⟩
  ·exact(dQ.rB s c j v).fv d
  ·rcases jZ f with⟨q,a,b⟩|⟨m,a,b⟩
   ·subst_vars;exact .rB s (k _ a) j v
   ·rcases jZ a with⟨q,n,b⟩|⟨m,n,b⟩
    ·subst_vars;exact .rB s c (l _ n) v
    ·rcases jZ n with⟨q,y,b⟩|⟨m,y,b⟩
     ·subst_vars;exact .rB s c j (w _ y)
     ·exact(nd y).elim
 |nil=>
  intro o hs;rcases lp hs with⟨d,rfl⟩|⟨u,f,rfl⟩
  ·exact dQ.nil.fv d
  ·exact(nd f).elim
 |cons c j k l=>
  intro o hs;rcases lp hs with⟨d,rfl⟩|⟨u,f,rfl⟩
  ·exact(dQ.cons c j).fv d
  ·rcases jZ f with⟨q,a,b⟩|⟨m,a,b⟩
   ·subst_vars;exact .cons (k _ a) j
   ·rcases jZ a with⟨q,n,b⟩|⟨m,n,b⟩
    ·subst_vars;exact .cons c (l _ n)
    ·exact(nd n).elim
 |fold s c j v k l w=>
  intro o hs;rcases lp hs with⟨d,rfl⟩|⟨u,f,rfl⟩
  ·exact(dQ.fold s c j v).fv d
  ·rcases jZ f with⟨q,a,b⟩|⟨m,a,b⟩
   ·subst_vars;exact .fold s (k _ a) j v
   ·rcases jZ a with⟨q,n,b⟩|⟨m,n,b⟩
    ·subst_vars;exact .fold s c (l _ n) v
    ·rcases jZ n with⟨q,y,b⟩|⟨m,y,b⟩
     ·subst_vars;exact .fold s c j (w _ y)
     ·exact(nd y).elim
 |pair s c j k l=>
  intro o hs;rcases lp hs with⟨d,rfl⟩|⟨u,f,rfl⟩
  ·exact(dQ.pair s c j).fv d
  ·rcases jZ f with⟨q,a,b⟩|⟨m,a,b⟩
   ·subst_vars;exact .pair s (k _ a) j
   ·rcases jZ a with⟨q,n,b⟩|⟨m,n,b⟩
    ·subst_vars;exact .pair s c (l _ n)
    ·exact(nd n).elim
 |fst c ih=>
  intro o hs;rcases lp hs with⟨d,rfl⟩|⟨u,f,rfl⟩
  ·exact(dQ.fst c).fv d
  ·rcases jZ f with⟨q,a,b⟩|⟨m,a,b⟩
   ·subst_vars;exact .fst (ih _ a)
   ·exact(nd a).elim
 |snd c ih=>
  intro o hs;rcases lp hs with⟨d,rfl⟩|⟨u,f,rfl⟩
  ·exact(dQ.snd c).fv d
  ·rcases jZ f with⟨q,a,b⟩|⟨m,a,b⟩
   ·subst_vars;exact .snd (ih _ a)
   ·exact(nd a).elim
 |unit=>
  intro o hs;rcases lp hs with⟨d,rfl⟩|⟨u,f,rfl⟩
  ·exact dQ.unit.fv d
  ·exact(nd f).elim
def dQ.norm{g:List Ty}{t:Ty}:∀(k:Nat) (m:Int) (x a:Tm) (n:Int),dQ g x t->x.norm k m=(a,n,0)->dQ g a t
 |0,m,x,a,n,b,h=>by
  rw[Tm.norm] at h
  split at h
  ·obtain⟨c,_⟩:=g_ h;rw[<-c];exact b
  ·cases h
 |k+1,m,x,a,n,b,h=>by
  rw[Tm.norm] at h
  split at h
  ·cases h
  ·obtain⟨c,_⟩:=g_ h;rw[<-c];exact b
  ·rename_i d hs;exact dQ.norm k (m+1) d a n (b.Kw _ hs) h
theorem Jc{i:Int}{s:Ty}{l:List Tm}(h:(Tm.mk 1 i s l).ok=true):s=.mk 0 []/\l=[]:=by
 have b:=Tm.rY h;have e:gI 1=0:=rfl;have a:l=[]:=BG xL;subst a;rw[Tm.gR] at h;cases s with
 |mk k l=>simp[Tm.node,j1,Ty.rh,ee,ey,gI] at h;refine⟨?_,rfl⟩;obtain⟨c,d⟩:=h;simp_all
theorem alo(t:Tm):∀g f n c:Int,0<=g->0<=n->0<=c->g+n<=f->(t.up g n).up f c=(t.up (f-n) c).up g n:=by
 induction t using Tm.ind with
 |h k i s l ih=>
  intro g f n c hg hn a b;simp only[Tm.fh,Ig]
  congr 1
  ·grind
  ·refine uy λx d=>?_
   grind[eP]
theorem up_add(t:Tm):∀g f p m:Int,0<=g->0<=p->0<=m->g<=f->f<=g+p->(t.up g p).up f m=t.up g (p+m):=by
 induction t using Tm.ind with
 |h k i s l ih=>
  intro g f p m hg a hm b c;simp only[Tm.fh,Ig]
  congr 1
  ·grind
  ·refine uy λx d=>?_
   grind[eP]
theorem SO(x t:Tm):∀g m n:Int,t.ok=true->0<=g->g<=m->m<=g+n->Tm.fQ m (t.up g (n+1)) x=t.up g n:=by
 induction t using Tm.ind with
 |h k i s l ih=>
  intro g m n b hg c d
  by_cases a:k=1
  ·grind[Jc,Tm.fh,Tm.eI,Tm.iQ]
  ·simp only[Tm.fh,a,HA,lU,Tm.eI,Ig]
   congr 1
   refine uy λy f=>?_
   grind[eP,Tm.en]
theorem OR(a t:Tm):∀g m n:Int,t.ok=true->0<=g->0<=m->g+m<=n->Tm.fQ n (t.up g m) a=(Tm.fQ (n-m) t a).up g m:=by
 induction t using Tm.ind with
 |h k i s l ih=>
  intro g m n c hg hm d
  by_cases b:k=1
  ·grind[Tm.fh,Tm.eI,Tm.iQ,up_add]
  ·simp only[Tm.fh,b,HA,lU,Tm.eI,Ig]
   congr 1
   refine uy λy f=>?_
   grind[eP,Tm.en]
def ag6(a t:Tm):∀n f c:Int,t.ok=true->0<=n->n<=f->0<=c->(Tm.fQ n t a).up f c=Tm.fQ n (t.up (f+1) c) (a.up (f-n) c):=by
 induction t using Tm.ind with
 |h k i s l ih=>
  intro n f c d hn j o
  by_cases b:k=1
  ·subst b;obtain⟨rfl,rfl⟩:=Jc d;simp only[Tm.fh,zX,mq,Tm.eI,if_true]
   grind[Tm.iQ,alo,Tm.fh]
  ·simp only[Tm.fh,b,HA,lU,Tm.eI,Ig]
   congr 1
   refine uy λy q=>?_
   grind[eP,Tm.en]
def acr(a s:Tm)(c:a.ok=true)(hs:s.ok=true)(t:Tm):∀m n:Int,t.ok=true->0<=m->m<=n->Tm.fQ n (Tm.fQ m t a) s=Tm.fQ m (Tm.fQ (n+1) t s) (Tm.fQ (n-m) a s):=by
 induction t using Tm.ind with
 |h k i ty l ih=>
  intro m n d hm hn
  by_cases b:k=1
  ·grind[Jc,Tm.eI,Tm.iQ,OR,SO]
  ·simp only[Tm.eI,b,lU,Ig]
   congr 1
   refine uy λy f=>?_
   grind[eP,Tm.en]
inductive kq:Tm->Tm->Prop
 |n0 (k i:Int) (s:Ty):kq (.mk k i s []) (.mk k i s [])|n1 (k i:Int) (s:Ty) {a a':Tm}:kq a a'->kq (.mk k i s [a]) (.mk k i s [a'])|n2 (k i:Int) (s:Ty) {a a' b b':Tm}:kq a a'->kq b b'->kq (.mk k i s [a,b]) (.mk k i s [a',b'])|n3 (k i:Int) (s:Ty) {a a' b b' c c':Tm}:kq a a'->kq b b'->kq c c'->kq (.mk k i s [a,b,c]) (.mk k i s [a',b',c'])|beta (i:Int) (s:Ty) (j:Int) (u:Ty) {b b' a a':Tm}:kq b b'->kq a a'->kq (.mk 3 i s [.mk 2 j u [b],a]) (Tm.fQ 0 b' a')|IE (i:Int) (s:Ty) (j:Int) (u:Ty) (c:Tm) {b b':Tm}:kq b b'->kq (.mk 6 i s [b,c,.mk 4 j u []]) b'|I8 (i:Int) (s:Ty) (j:Int) (u:Ty) {b b' c c' n n':Tm}:kq b b'->kq c c'->kq n n'->kq (.mk 6 i s [b,c,.mk 5 j u [n]]) (o0 c' [n',.mk 6 i s [b',c',n']])|BZ (i:Int) (s:Ty) (j:Int) (u:Ty) (c:Tm) {b b':Tm}:kq b b'->kq (.mk 9 i s [b,c,.mk 7 j u []]) b'|BV (i:Int) (s:Ty) (j:Int) (u:Ty) {b b' c c' n n' t t':Tm}:kq b b'->kq c c'->kq n n'->kq t t'->kq (.mk 9 i s [b,c,.mk 8 j u [n,t]]) (o0 c' [n',t',.mk 9 i s [b',c',t']])|fst (i:Int) (s:Ty) (j:Int) (u:Ty) (b:Tm) {a a':Tm}:kq a a'->kq (.mk 11 i s [.mk 10 j u [a,b]]) a'|snd (i:Int) (s:Ty) (j:Int) (u:Ty) (a:Tm) {b b':Tm}:kq b b'->kq (.mk 12 i s [.mk 10 j u [a,b]]) b'
def kq.ok{t u:Tm}(h:kq t u):t.ok=true->u.ok=true:=by
 induction h with
 |n0 k i s=>exact id|n1 k i s _ ih=>intro d;exact Tm.wy d rfl (by intro t v;rw[EU] at v;subst v;exact ih (Tm.en d _ LA))
 |n2 k i s _ _ f l=>grind[Tm.wy,Tm.en]|n3 k i s _ _ _ f l o=>
  intro d;refine Tm.wy d rfl ?_
  grind[Tm.en]
 |@beta i s j u b q a x _ _ f l=>
  intro d;exact Tm.NM _ (l (Tm.en d a LA)) _ 0 xL (f (Tm.en (Tm.en d (Tm.mk 2 j u [b]) LA) b LA))
 |IE i s j u c _ ih=>intro d;exact ih (Tm.en d _ LA)|@I8 i s j u b q c y n n' _ _ _ f l o=>
  intro d;have A:=f (Tm.en d _ LA);have B:=l (Tm.en d _ LA);have C:=o (Tm.en (Tm.en d (Tm.mk 5 j u [n]) LA) _ LA)
  grind[DT,Tm.wy]
 |BZ i s j u c _ ih=>intro d;exact ih (Tm.en d _ LA)|@BV i s j u b q c y n n' t D _ _ _ _ f l o r=>
  intro d;have A:=f (Tm.en d _ LA);have B:=l (Tm.en d _ LA);have w:=Tm.en d (Tm.mk 8 j u [n,t]) LA;have C:=o (Tm.en w _ LA);have F:=r (Tm.en w _ LA)
  grind[DT,Tm.wy]
 |@fst i s j u b a x _ ih=>intro d;exact ih (Tm.en (Tm.en d (Tm.mk 10 j u [a,b]) LA) a LA)|@snd i s j u a b q _ ih=>intro d;exact ih (Tm.en (Tm.en d (Tm.mk 10 j u [a,b]) LA) b LA)
def up3(f b i:Int)(s:Ty)(l:List Tm):(Tm.mk 3 i s l).up f b=.mk 3 i s (l.map (Tm.up f b)):=qC Df Df f b i s l
def up4(f b i:Int)(s:Ty)(l:List Tm):(Tm.mk 4 i s l).up f b=.mk 4 i s (l.map (Tm.up f b)):=qC Df Df f b i s l
def up5(f b i:Int)(s:Ty)(l:List Tm):(Tm.mk 5 i s l).up f b=.mk 5 i s (l.map (Tm.up f b)):=qC Df Df f b i s l
def up6(f b i:Int)(s:Ty)(l:List Tm):(Tm.mk 6 i s l).up f b=.mk 6 i s (l.map (Tm.up f b)):=qC Df Df f b i s l
def up7(f b i:Int)(s:Ty)(l:List Tm):(Tm.mk 7 i s l).up f b=.mk 7 i s (l.map (Tm.up f b)):=qC Df Df f b i s l
def up8(f b i:Int)(s:Ty)(l:List Tm):(Tm.mk 8 i s l).up f b=.mk 8 i s (l.map (Tm.up f b)):=qC Df Df f b i s l
def up9(f b i:Int)(s:Ty)(l:List Tm):(Tm.mk 9 i s l).up f b=.mk 9 i s (l.map (Tm.up f b)):=qC Df Df f b i s l
def akl(f b i:Int)(s:Ty)(l:List Tm):(Tm.mk 10 i s l).up f b=.mk 10 i s (l.map (Tm.up f b)):=qC Df Df f b i s l
def adv(f b i:Int)(s:Ty)(l:List Tm):(Tm.mk 11 i s l).up f b=.mk 11 i s (l.map (Tm.up f b)):=qC Df Df f b i s l
def abt(f b i:Int)(s:Ty)(l:List Tm):(Tm.mk 12 i s l).up f b=.mk 12 i s (l.map (Tm.up f b)):=qC Df Df f b i s l
def in3(n i:Int)(a:Tm)(s:Ty)(l:List Tm):Tm.fQ n (Tm.mk 3 i s l) a=.mk 3 i s (l.map λx=>Tm.fQ n x a):=nE Df Df n i a s l
def in4(n i:Int)(a:Tm)(s:Ty)(l:List Tm):Tm.fQ n (Tm.mk 4 i s l) a=.mk 4 i s (l.map λx=>Tm.fQ n x a):=nE Df Df n i a s l
def in5(n i:Int)(a:Tm)(s:Ty)(l:List Tm):Tm.fQ n (Tm.mk 5 i s l) a=.mk 5 i s (l.map λx=>Tm.fQ n x a):=nE Df Df n i a s l
def in6(n i:Int)(a:Tm)(s:Ty)(l:List Tm):Tm.fQ n (Tm.mk 6 i s l) a=.mk 6 i s (l.map λx=>Tm.fQ n x a):=nE Df Df n i a s l
def in7(n i:Int)(a:Tm)(s:Ty)(l:List Tm):Tm.fQ n (Tm.mk 7 i s l) a=.mk 7 i s (l.map λx=>Tm.fQ n x a):=nE Df Df n i a s l
def in8(n i:Int)(a:Tm)(s:Ty)(l:List Tm):Tm.fQ n (Tm.mk 8 i s l) a=.mk 8 i s (l.map λx=>Tm.fQ n x a):=nE Df Df n i a s l
def in9(n i:Int)(a:Tm)(s:Ty)(l:List Tm):Tm.fQ n (Tm.mk 9 i s l) a=.mk 9 i s (l.map λx=>Tm.fQ n x a):=nE Df Df n i a s l
def ai_(n i:Int)(a:Tm)(s:Ty)(l:List Tm):Tm.fQ n (Tm.mk 10 i s l) a=.mk 10 i s (l.map λx=>Tm.fQ n x a):=nE Df Df n i a s l
def amA(n i:Int)(a:Tm)(s:Ty)(l:List Tm):Tm.fQ n (Tm.mk 11 i s l) a=.mk 11 i s (l.map λx=>Tm.fQ n x a):=nE Df Df n i a s l
def amj(n i:Int)(a:Tm)(s:Ty)(l:List Tm):Tm.fQ n (Tm.mk 12 i s l) a=.mk 12 i s (l.map λx=>Tm.fQ n x a):=nE Df Df n i a s l
def kq.up{t u:Tm}(h:kq t u):t.ok=true->∀f c:Int,0<=f->0<=c->kq (t.up f c) (u.up f c):=by
 induction h with
 |n0 k i s=>intro _ f c _ _;rw[Tm.fh];exact .n0 _ _ _|n1 k i s _ ih=>
  intro l f c o w;have D:=iY k;rw[Tm.fh,Tm.fh];exact .n1 _ _ _ (ih (Tm.en l _ LA) _ _ xL w)
 |n2 k i s _ _ q r=>
  intro l f c o w;have D:=iY k;rw[Tm.fh,Tm.fh];exact .n2 _ _ _ (q (Tm.en l _ LA) _ _ xL w) (r (Tm.en l _ LA) _ _ xL w)
 |n3 k i s _ _ _ q r x=>
  intro l f c o w;have D:=iY k;rw[Tm.fh,Tm.fh];exact .n3 _ _ _ (q (Tm.en l _ LA) _ _ xL w) (r (Tm.en l _ LA) _ _ xL w) (x (Tm.en l _ LA) _ _ xL w)
 |@beta i s j u b B a F G I q r=>
  intro l f c o w;have y:=Tm.en l (Tm.mk 2 j u [b]) LA;have A:=Tm.en y b LA;rw[ag6 F B 0 f c (G.ok A) xL o w,afr];simp only[up3,YP,lN,mq];exact .beta _ _ _ _ (q A _ _ xL w) (r (Tm.en l _ LA) _ _ o w)
 |IE i s j u c _ ih=>
  intro l f d o v;simp only[up6,up4,lN,mq];exact .IE _ _ _ _ _ (ih (Tm.en l _ LA) _ _ o v)
 |@I8 i s j u b B c H n n' _ _ _ q r x=>
  intro l f d o v;have y:=Tm.en l (Tm.mk 5 j u [n]) LA;simp only[o0,up3,up6,up5,lN,mq];exact .I8 _ _ _ _ (q (Tm.en l _ LA) _ _ o v) (r (Tm.en l _ LA) _ _ o v) (x (Tm.en y _ LA) _ _ o v)
 |BZ i s j u c _ ih=>
  intro l f d o v;simp only[up9,up7,lN,mq];exact .BZ _ _ _ _ _ (ih (Tm.en l _ LA) _ _ o v)
 |@BV i s j u b B c H n n' t J _ _ _ _ q r x C=>
  intro l f d o v;have y:=Tm.en l (Tm.mk 8 j u [n,t]) LA;simp only[o0,up3,up9,up8,lN,mq];exact .BV _ _ _ _ (q (Tm.en l _ LA) _ _ o v) (r (Tm.en l _ LA) _ _ o v) (x (Tm.en y _ LA) _ _ o v) (C (Tm.en y _ LA) _ _ o v)
 |@fst i s j u b a F _ ih=>
  intro l f d o v;simp only[adv,akl,lN,mq];exact .fst _ _ _ _ _ (ih (Tm.en (Tm.en l (Tm.mk 10 j u [a,b]) LA) _ LA) _ _ o v)
 |@snd i s j u a b B _ ih=>
  intro l f d o v;simp only[abt,akl,lN,mq];exact .snd _ _ _ _ _ (ih (Tm.en (Tm.en l (Tm.mk 10 j u [a,b]) LA) _ LA) _ _ o v)
def A_{k i:Int}{s:Ty}{a:Tm}{l:List Tm}(h:(Tm.mk k i s (a::l)).ok=true):k≠1:=by grind[Jc]
def kq.fQ{t u:Tm}(h:kq t u){x y:Tm}(v:kq x y)(G:x.ok=true):t.ok=true->∀n:Int,0<=n->kq (Tm.fQ n t x) (Tm.fQ n u y):=by
 have J:=v.ok G
 induction h with
 |n0 k i s=>
  intro d n hn;rw[Tm.eI,Tm.eI]
  by_cases B:k=1
  ·rw[dO B,dO B];unfold Tm.iQ
   by_cases q:i=n
   ·rw[dO q,dO q];exact v.up G 0 n xL hn
   ·rw[dI q,dI q]
    by_cases C:n<i
    ·rw[dO C];exact .n0 _ _ _
    ·rw[dI C];exact .n0 _ _ _
  ·rw[dI B,dI B];exact .n0 _ _ _
 |n1 k i s _ ih=>
  intro d n hn;have H:=iY k;rw[Tm.eI,Tm.eI,dI (A_ d),dI (A_ d)];exact .n1 _ _ _ (ih (Tm.en d _ LA) _ xL)
 |n2 k i s _ _ f l=>
  intro d n hn;have H:=iY k;rw[Tm.eI,Tm.eI,dI (A_ d),dI (A_ d)];exact .n2 _ _ _ (f (Tm.en d _ LA) _ xL) (l (Tm.en d _ LA) _ xL)
 |n3 k i s _ _ _ f l o=>
  intro d n hn;have H:=iY k;rw[Tm.eI,Tm.eI,dI (A_ d),dI (A_ d)];exact .n3 _ _ _ (f (Tm.en d _ LA) _ xL) (l (Tm.en d _ LA) _ xL) (o (Tm.en d _ LA) _ xL)
 |@beta i s j u b D a I q C f l=>
  intro d n hn;have r:=Tm.en d (Tm.mk 2 j u [b]) LA;have w:=Tm.en r b LA;have A:=Tm.en d a LA;rw[acr I y (C.ok A) J D 0 n (q.ok w) xL hn,afr];simp only[in3,Um,lN,mq];exact .beta _ _ _ _ (f w _ xL) (l A _ hn)
 |IE i s j u c _ ih=>
  intro d n hn;simp only[in6,in4,lN,mq];exact .IE _ _ _ _ _ (ih (Tm.en d _ LA) _ hn)
 |@I8 i s j u b D c K n n' _ _ _ f l o=>
  intro d m hm;have r:=Tm.en d (Tm.mk 5 j u [n]) LA;simp only[o0,in3,in6,in5,lN,mq];exact .I8 _ _ _ _ (f (Tm.en d _ LA) _ hm) (l (Tm.en d _ LA) _ hm) (o (Tm.en r _ LA) _ hm)
 |BZ i s j u c _ ih=>
  intro d n hn;simp only[in9,in7,lN,mq];exact .BZ _ _ _ _ _ (ih (Tm.en d _ LA) _ hn)
 |@BV i s j u b D c K n n' t L _ _ _ _ f l o F=>
  intro d m hm;have r:=Tm.en d (Tm.mk 8 j u [n,t]) LA;simp only[o0,in3,in9,in8,lN,mq];exact .BV _ _ _ _ (f (Tm.en d _ LA) _ hm) (l (Tm.en d _ LA) _ hm) (o (Tm.en r _ LA) _ hm) (F (Tm.en r _ LA) _ hm)
 |@fst i s j u b a I _ ih=>
  intro d n hn;simp only[amA,ai_,lN,mq];exact .fst _ _ _ _ _ (ih (Tm.en (Tm.en d (Tm.mk 10 j u [a,b]) LA) _ LA) _ hn)
 |@snd i s j u a b D _ ih=>
  intro d n hn;simp only[amj,ai_,lN,mq];exact .snd _ _ _ _ _ (ih (Tm.en (Tm.en d (Tm.mk 10 j u [a,b]) LA) _ LA) _ hn)
def kq.ak7{k i:Int}{s:Ty}{v:Tm}(h:kq (.mk k i s []) v):v=.mk k i s []:=by
 generalize a:Tm.mk k i s []=x at h;cases h<;>simp only[Tm.mk.injEq,reduceCtorEq,and_false,Tp,HA] at a;obtain⟨rfl,rfl,rfl,_⟩:=a;rfl
def kq.inv1{k i:Int}{s:Ty}{a v:Tm}(h:kq (.mk k i s [a]) v)(d:k≠11)(f:k≠12):∃c,v=.mk k i s [c]/\kq a c:=by
 generalize b:Tm.mk k i s [a]=x at h;cases h<;>simp only[Tm.mk.injEq,reduceCtorEq,and_false,Tp,HA,Q4] at b
 ·obtain⟨rfl,rfl,rfl,rfl⟩:=b;exact⟨_,rfl,by assumption⟩
 ·exact absurd b.1 d
 ·exact absurd b.1 f
def kq.inv2{k i:Int}{s:Ty}{a b v:Tm}(h:kq (.mk k i s [a,b]) v)(j:k≠3):∃d f,v=.mk k i s [d,f]/\kq a d/\kq b f:=by
 generalize c:Tm.mk k i s [a,b]=x at h;cases h<;>simp only[Tm.mk.injEq,reduceCtorEq,and_false,Tp,HA,Q4] at c
 ·obtain⟨rfl,rfl,rfl,rfl,rfl⟩:=c;exact⟨_,_,rfl,by assumption,by assumption⟩
 ·exact absurd c.1 j
mutual
def Tm.dev:Tm->Tm
 |.mk k i s l=>if(Tm.mk k i s l).root then(Tm.mk k i s (Tm.Xl l)).fv else .mk k i s (Tm.Xl l)
def Tm.Xl:List Tm->List Tm
 |[]=>[]|t::l=>t.dev::Tm.Xl l
end
def Tm.TM(l:List Tm):Tm.Xl l=l.map Tm.dev:=by
 induction l with
 |nil=>rfl|cons t l ih=>simp[Tm.Xl,ih]
def Tm.uV{k i:Int}{s:Ty}{l:List Tm}(h:(Tm.mk k i s l).root=true):(Tm.mk k i s l).dev=(Tm.mk k i s (l.map Tm.dev)).fv:=by rw[Tm.dev,Tm.TM,dO h]
def Tm.w5{k i:Int}{s:Ty}{l:List Tm}(h:¬(Tm.mk k i s l).root=true):(Tm.mk k i s l).dev=Tm.mk k i s (l.map Tm.dev):=by rw[Tm.dev,Tm.TM,dI h]
def Wo(i:Int)(s:Ty)(j:Int)(u:Ty)(l:List Tm)(a:Tm):(Tm.mk 3 i s [.mk 2 j u l,a]).root=true:=by simp[Tm.root,Tm.kd]
def TN(j:Int)(u:Ty)(b:Tm):(Tm.mk 2 j u [b]).dev=.mk 2 j u [b.dev]:=Tm.w5 (by simp[Tm.root])
def X2(j:Int)(u:Ty):(Tm.mk 4 j u []).dev=.mk 4 j u []:=Tm.w5 (by simp[Tm.root])
def O'(j:Int)(u:Ty)(b:Tm):(Tm.mk 5 j u [b]).dev=.mk 5 j u [b.dev]:=Tm.w5 (by simp[Tm.root])
def adu(j:Int)(u:Ty):(Tm.mk 7 j u []).dev=.mk 7 j u []:=Tm.w5 (by simp[Tm.root])
def PO(j:Int)(u:Ty)(a b:Tm):(Tm.mk 8 j u [a,b]).dev=.mk 8 j u [a.dev,b.dev]:=Tm.w5 (by simp[Tm.root])
def HI(j:Int)(u:Ty)(a b:Tm):(Tm.mk 10 j u [a,b]).dev=.mk 10 j u [a.dev,b.dev]:=Tm.w5 (by simp[Tm.root])
def QX(i:Int)(s:Ty)(j:Int)(u:Ty)(b a:Tm):(Tm.mk 3 i s [.mk 2 j u [b],a]).dev=Tm.fQ 0 b.dev a.dev:=by
 rw[Tm.uV (Wo _ _ _ _ _ _)];simp only[lN,mq,TN];simp[Tm.fv]
def OP(i:Int)(s:Ty)(j:Int)(u:Ty)(b c:Tm):(Tm.mk 6 i s [b,c,.mk 4 j u []]).dev=b.dev:=by
 rw[Tm.uV (by simp[Tm.root,Tm.kd])];simp only[lN,mq,X2];simp[Tm.fv]
def P9(i:Int)(s:Ty)(j:Int)(u:Ty)(b c n:Tm):(Tm.mk 6 i s [b,c,.mk 5 j u [n]]).dev=o0 c.dev [n.dev,.mk 6 i s [b.dev,c.dev,n.dev]]:=by
 rw[Tm.uV (by simp[Tm.root,Tm.kd])];simp only[lN,mq,O'];simp[Tm.fv]
def Ln(i:Int)(s:Ty)(j:Int)(u:Ty)(b c:Tm):(Tm.mk 9 i s [b,c,.mk 7 j u []]).dev=b.dev:=by
 rw[Tm.uV (by simp[Tm.root,Tm.kd])];simp only[lN,mq,adu];simp[Tm.fv]
def LS(i:Int)(s:Ty)(j:Int)(u:Ty)(b c n t:Tm):(Tm.mk 9 i s [b,c,.mk 8 j u [n,t]]).dev=o0 c.dev [n.dev,t.dev,.mk 9 i s [b.dev,c.dev,t.dev]]:=by
 rw[Tm.uV (by simp[Tm.root,Tm.kd])];simp only[lN,mq,PO];simp[Tm.fv]
def Uo(i:Int)(s:Ty)(j:Int)(u:Ty)(a b:Tm):(Tm.mk 11 i s [.mk 10 j u [a,b]]).dev=a.dev:=by
 rw[Tm.uV (by simp[Tm.root,Tm.kd])];simp only[lN,mq,HI];simp[Tm.fv]
def UP(i:Int)(s:Ty)(j:Int)(u:Ty)(a b:Tm):(Tm.mk 12 i s [.mk 10 j u [a,b]]).dev=b.dev:=by
 rw[Tm.uV (by simp[Tm.root,Tm.kd])];simp only[lN,mq,HI];simp[Tm.fv]
def Tm.xb{t:Tm}{k:Int}(h:t.an6=k):t=.mk k t.an9 t.dL t.an7:=by
 cases t with
 |mk k' i s l=>simp at h;subst h;rfl
def kq.tri{t u:Tm}(h:kq t u):t.ok=true->kq u t.dev:=by
 induction h with
 |n0 k i s=>intro _;rw[Tm.w5 (by simp[Tm.root,Tm.kd])];exact .n0 _ _ _|@n1 k i s a K h ih=>
  intro l;have r:=Tm.en l a LA;have ih:=ih r
  by_cases B:(Tm.mk k i s [a]).root=true
  ·have hk:(k=11\/k=12)/\a.an6=10:=by
    have C:=Tm.rY l;have Z:gI 3=2:=rfl
    have:k≠3:=by rintro rfl;simp at C;omega
    simpa[Tm.root,Tm.kd,this] using B
   obtain⟨hk,D⟩:=hk;rw[Tm.xb D] at h r ih|-;obtain⟨p,q,N⟩:=Tm.akk r;rw[N] at h r ih|-;obtain⟨O,U,rfl,H,P⟩:=h.inv2 Df;rw[HI] at ih;obtain⟨Q,V,e,F,R⟩:=ih.inv2 Df;simp only[Tm.mk.injEq,Tp,Q4,zX] at e;obtain⟨rfl,rfl⟩:=e;rcases hk with rfl|rfl
   ·rw[Uo];exact .fst _ _ _ _ _ F
   ·rw[UP];exact .snd _ _ _ _ _ R
  ·rw[Tm.w5 B];exact .n1 _ _ _ ih
 |@n2 k i s a K b I L W d v=>
  intro l;have r:=Tm.en l a LA;have d:=d r;have v:=v (Tm.en l b LA)
  by_cases B:(Tm.mk k i s [a,b]).root=true
  ·have hk:k=3/\a.an6=2:=by
    have C:=Tm.rY l;have X:gI 11=1:=rfl;have Y:gI 12=1:=rfl
    have n1:k≠11:=by rintro rfl;simp at C;omega
    have n2:k≠12:=by rintro rfl;simp at C;omega
    simpa[Tm.root,Tm.kd,n1,n2] using B
   obtain⟨rfl,D⟩:=hk;rw[Tm.xb D] at L r d|-;obtain⟨p,A⟩:=Tm.ok2 r;rw[A] at L r d|-;obtain⟨O,rfl,H⟩:=L.inv1 Df Df;rw[TN] at d;obtain⟨Q,e,F⟩:=d.inv1 Df Df;simp only[Tm.mk.injEq,Tp,Q4,zX] at e;subst e;rw[QX];exact .beta _ _ _ _ F v
  ·rw[Tm.w5 B];exact .n2 _ _ _ d v
 |@n3 k i s a K b I c T L W w d v f=>
  intro l;have o:=Tm.en l c LA;have d:=d (Tm.en l a LA);have v:=v (Tm.en l b LA);have f:=f o
  by_cases B:(Tm.mk k i s [a,b,c]).root=true
  ·have hk:(k=6/\(c.an6=4\/c.an6=5))\/(k=9/\(c.an6=7\/c.an6=8)):=by
    have C:=Tm.rY l;have e0:gI 3=2:=rfl;have X:gI 11=1:=rfl;have Y:gI 12=1:=rfl
    have n0:k≠3:=by rintro rfl;simp at C;omega
    have n1:k≠11:=by rintro rfl;simp at C;omega
    have n2:k≠12:=by rintro rfl;simp at C;omega
    simpa[Tm.root,Tm.kd,n0,n1,n2] using B
   rcases hk with⟨rfl,hk|hk⟩|⟨rfl,hk|hk⟩
   ·rw[Tm.xb hk] at w o f|-;have A:=Tm.ok0 (.inl rfl) o;rw[A] at w o f|-;obtain rfl:=w.ak7;rw[OP];exact .IE _ _ _ _ _ d
   ·rw[Tm.xb hk] at w o f|-;obtain⟨p,A⟩:=Tm.ok5 o;rw[A] at w o f|-;obtain⟨O,rfl,H⟩:=w.inv1 Df Df;rw[O'] at f;obtain⟨Q,e,F⟩:=f.inv1 Df Df;simp only[Tm.mk.injEq,Tp,Q4,zX] at e;subst e;rw[P9];exact .I8 _ _ _ _ d v F
   ·rw[Tm.xb hk] at w o f|-;have A:=Tm.ok0 (.inr rfl) o;rw[A] at w o f|-;obtain rfl:=w.ak7;rw[Ln];exact .BZ _ _ _ _ _ d
   ·rw[Tm.xb hk] at w o f|-;obtain⟨p,q,A⟩:=Tm.ok8 o;rw[A] at w o f|-;obtain⟨O,U,rfl,H,P⟩:=w.inv2 Df;rw[PO] at f;obtain⟨Q,V,e,F,R⟩:=f.inv2 Df;simp only[Tm.mk.injEq,Tp,Q4,zX] at e;obtain⟨rfl,rfl⟩:=e;rw[LS];exact .BV _ _ _ _ d v F R
  ·rw[Tm.w5 B];exact .n3 _ _ _ d v f
 |@beta i s j u b I a K H P x y=>
  intro l;have J:=Tm.en (Tm.en l (Tm.mk 2 j u [b]) LA) b LA;have r:=Tm.en l a LA;rw[QX];exact(x J).fQ (y r) (P.ok r) (H.ok J) 0 xL
 |IE i s j u c _ ih=>intro l;rw[OP];exact ih (Tm.en l _ LA)|@I8 i s j u b I c T n n' _ _ _ x y G=>
  intro l;have M:=Tm.en l (Tm.mk 5 j u [n]) LA;have g1:=x (Tm.en l _ LA);have g2:=y (Tm.en l _ LA);have g3:=G (Tm.en M _ LA);rw[P9];exact .n2 _ _ _ (.n2 _ _ _ g2 g3) (.n3 _ _ _ g1 g2 g3)
 |BZ i s j u c _ ih=>intro l;rw[Ln];exact ih (Tm.en l _ LA)|@BV i s j u b I c T n n' t t' _ _ _ _ x y G S=>
  intro l;have M:=Tm.en l (Tm.mk 8 j u [n,t]) LA;have g1:=x (Tm.en l _ LA);have g2:=y (Tm.en l _ LA);have g3:=G (Tm.en M _ LA);have g4:=S (Tm.en M _ LA);rw[LS];exact .n2 _ _ _ (.n2 _ _ _ (.n2 _ _ _ g2 g3) g4) (.n3 _ _ _ g1 g2 g4)
 |@fst i s j u b a K _ ih=>intro l;rw[Uo];exact ih (Tm.en (Tm.en l (Tm.mk 10 j u [a,b]) LA) _ LA)|@snd i s j u a b I _ ih=>intro l;rw[UP];exact ih (Tm.en (Tm.en l (Tm.mk 10 j u [a,b]) LA) _ LA)
inductive mK:Tm->Tm->Prop
 |refl (t:Tm):mK t t|step {t u v:Tm}:kq t u->mK u v->mK t v
def mK.ok{t u:Tm}(h:mK t u):t.ok=true->u.ok=true:=by
 induction h with
 |refl=>exact id|step h _ ih=>exactλa=>ih (h.ok a)
def mK.trans{t u v:Tm}(h:mK t u)(a:mK u v):mK t v:=by
 induction h with
 |refl=>exact a|step h _ ih=>exact .step h (ih a)
def mK.strip{t v:Tm}(h:mK t v):∀u,t.ok=true->kq t u->∃w,mK u w/\kq v w:=by
 induction h with
 |refl t=>exactλu _ hu=>⟨u,.refl _,hu⟩|@step t a v c _ ih=>
  intro u b hu;obtain⟨w,d,f⟩:=ih t.dev (c.ok b) (c.tri b);exact⟨w,.step (hu.tri b) d,f⟩
def mK.meet{t u:Tm}(h:mK t u):∀v,t.ok=true->mK t v->∃w,mK u w/\mK v w:=by
 induction h with
 |refl t=>exactλv _ b=>⟨v,b,.refl _⟩|@step t a u c _ ih=>
  intro v d b;obtain⟨w,f,i⟩:=b.strip a d c;obtain⟨z,j,z2⟩:=ih w (c.ok d) f;exact⟨z,j,.step i z2⟩
def Cj{k i:Int}{s:Ty}{l:List Tm}(h:(Tm.mk k i s l).nf=true):(Tm.mk k i s l).root=false/\∀a∈l,a.nf=true:=by
 rw[Tm.aeE] at h;simpa using h
def kq.nf{t u:Tm}(h:kq t u):t.nf=true->u=t:=by
 induction h with
 |n0=>intro _;rfl|n1 k i s _ ih=>intro hn;rw[ih ((Cj hn).2 _ LA)]|n2 k i s _ _ a b=>intro hn;rw[a ((Cj hn).2 _ LA),b ((Cj hn).2 _ LA)]|n3 k i s _ _ _ a b c=>intro hn;rw[a ((Cj hn).2 _ LA),b ((Cj hn).2 _ LA),c ((Cj hn).2 _ LA)]|_=>intro hn;have:=(Cj hn).1;simp[Tm.root,Tm.kd] at this
def mK.nf{t u:Tm}(h:mK t u):t.nf=true->u=t:=by
 induction h with
 |refl=>intro _;rfl|step h _ ih=>
  intro hn;have:=h.nf hn;subst this;exact ih hn
def mK.unique{t a b:Tm}(c:t.ok=true)(d:mK t a)(f:mK t b)(h:a.nf=true)(i:b.nf=true):a=b:=by
 obtain⟨w,j,k⟩:=d.meet b c f;rw[<-j.nf h,<-k.nf i]
inductive SZ:List Tm->List Tm->Prop
 |nil:SZ [] []|cons {a b:Tm} {l m:List Tm}:kq a b->SZ l m->SZ (a::l) (b::m)
def kq.list{k i:Int}{s:Ty}:∀{l m:List Tm},SZ l m->l.length<=3->kq (.mk k i s l) (.mk k i s m)
 |_,_,.nil,_=>.n0 _ _ _|_,_,.cons h .nil,_=>.n1 _ _ _ h|_,_,.cons h (.cons a .nil),_=>.n2 _ _ _ h a|_,_,.cons h (.cons a (.cons b .nil)),_=>.n3 _ _ _ h a b|_,_,.cons h (.cons a (.cons b (.cons d _))),c=>by simp at c
def VM(k:Int):gI k<=3:=by unfold gI;repeat' (first|omega|split)
def Tm.Y5{k i:Int}{s:Ty}{l:List Tm}(h:(Tm.mk k i s l).ok=true):l.length<=3:=by
 have:=Tm.rY h;have:=VM k;omega
theorem kq.refl(t:Tm):t.ok=true->kq t t:=by
 induction t using Tm.ind with
 |h k i s l ih=>
  intro b
  have c:∀m:List Tm,(∀t∈m,t∈l)->SZ m m:=by
   intro m
   induction m with
   |nil=>exactλ_=>.nil|cons t m a=>exactλhm=>.cons (ih t (hm t LA) (Tm.en b t (hm t LA))) (a λu hu=>hm u (by simp[hu]))
  exact kq.list (c l λt h=>h) (Tm.Y5 b)
def kq.adR:∀(l:List Tm),(∀t∈l,t.ok=true)->SZ l l
 |[],_=>.nil|t::l,h=>.cons (kq.refl t (h t LA)) (kq.adR l λu hu=>h u (by simp[hu]))
def kq.fv{t:Tm}(c:t.ok=true)(o:t.root=true):kq t t.fv:=by
 cases Tm.QD c o with
 |@app i s j u b a=>
  rw[show(Tm.mk 3 i s [.mk 2 j u [b],a]).fv=Tm.fQ 0 b a by simp[Tm.fv]];exact .beta _ _ _ _ (kq.refl b (Tm.en (Tm.en c (.mk 2 j u [b]) LA) b LA)) (kq.refl a (Tm.en c a LA))
 |@zero k q i s j u b st f=>
  have l:=kq.refl b (Tm.en c b LA);rcases f with⟨rfl,rfl⟩|⟨rfl,rfl⟩
  ·rw[show(Tm.mk 6 i s [b,st,.mk 4 j u []]).fv=b by simp[Tm.fv]];exact .IE _ _ _ _ _ l
  ·rw[show(Tm.mk 9 i s [b,st,.mk 7 j u []]).fv=b by simp[Tm.fv]];exact .BZ _ _ _ _ _ l
 |@succ i s j u b st n=>
  rw[show(Tm.mk 6 i s [b,st,.mk 5 j u [n]]).fv=o0 st [n,.mk 6 i s [b,st,n]] by simp[Tm.fv]];exact .I8 _ _ _ _ (kq.refl b (Tm.en c b LA)) (kq.refl st (Tm.en c st LA)) (kq.refl n (Tm.en (Tm.en c (.mk 5 j u [n]) LA) n LA))
 |@cons i s j u b st h t=>
  have d:=Tm.en c (.mk 8 j u [h,t]) LA;rw[show(Tm.mk 9 i s [b,st,.mk 8 j u [h,t]]).fv=o0 st [h,t,.mk 9 i s [b,st,t]] by simp[Tm.fv]];exact .BV _ _ _ _ (kq.refl b (Tm.en c b LA)) (kq.refl st (Tm.en c st LA)) (kq.refl h (Tm.en d h LA)) (kq.refl t (Tm.en d t LA))
 |@proj k i s j u a b f=>
  have d:=Tm.en c (.mk 10 j u [a,b]) LA;rcases f with rfl|rfl
  ·rw[show(Tm.mk 11 i s [.mk 10 j u [a,b]]).fv=a by simp[Tm.fv]];exact .fst _ _ _ _ _ (kq.refl a (Tm.en d a LA))
  ·rw[show(Tm.mk 12 i s [.mk 10 j u [a,b]]).fv=b by simp[Tm.fv]];exact .snd _ _ _ _ _ (kq.refl b (Tm.en d b LA))
def kq.Kw{r:Int}(t:Tm):∀a,t.ok=true->t.Kw r=some (some a)->kq t a:=by
 induction t using Tm.ind with
 |h k i s l ih=>
  intro a c h;rcases lp h with⟨j,rfl⟩|⟨n,o,rfl⟩
  ·exact kq.fv c j
  ·refine kq.list ?_ (Tm.Y5 c)
   have key:∀m:List Tm,(∀t∈m,t∈l)->∀d,Tm.uU r m=some (some d)->SZ m d:=by
    intro m
    induction m with
    |nil=>intro _ d h;exact(nd h).elim|cons t m f=>
     intro hm d h;have b:=Tm.en c t (hm t LA);rcases jZ h with⟨a,e,rfl⟩|⟨q,e,rfl⟩
     ·exact .cons (ih t (hm t LA) a b e) (kq.adR m λu hu=>Tm.en c u (hm u (by simp[hu])))
     ·exact .cons (kq.refl t b) (f (λu hu=>hm u (by simp[hu])) q e)
   exact key l (λt h=>h) n o
def Lw:∀(k:Nat) (m:Int) (t a:Tm) (n:Int),t.ok=true->t.norm k m=(a,n,0)->mK t a
 |0,m,t,a,n,b,h=>by
  rw[Tm.norm] at h
  split at h
  ·obtain⟨rfl,_⟩:=g_ h;exact .refl _
  ·cases h
 |k+1,m,t,a,n,b,h=>by
  rw[Tm.norm] at h
  split at h
  ·cases h
  ·obtain⟨rfl,_⟩:=g_ h;exact .refl _
  ·rename_i c hs;have:=kq.Kw t c b hs;exact .step this (Lw k (m+1) c a n (this.ok b) h)
def agG(x:Tm):Tm.mk x.an6 x.an9 (Ty.mk x.dL.an6 x.dL.an7) x.an7=x:=by
 cases x with
 |mk k i s l=>cases s;rfl
def me{a:Ty}(h:a.an8<=1000000000):fq FU a a=some true:=by
 obtain⟨r,b,c⟩:=wW FU a a (by rw[fI];exact h) h;rw[b,c.2 rfl]
def ok_eq{t:Ty}(h:t.err=0):tN t=some (t,0):=by
 unfold tN;rw[mm (by have:=(Ty.la h).2;omega),h];rfl
def e8{t:Ty}(h:t.err=0):t.an8<=64:=by have:=(Ty.la h).2;omega
inductive TL (n:Nat) (g:List Ty):List Tm->List Ty->Prop
 |nil:TL n g [] []|cons {a:Tm} {t:Ty} {l:List Tm} {ts:List Ty}:fx n g a=some (t,0)->TL n g l ts->TL n g (a::l) (t::ts)
def oy{n:Nat}{g:List Ty}:∀{l:List Tm} {ts:List Ty} (i:Nat) (v:List Ty),TL n g l ts->v.length+l.length<=1000->eV (λ(f:Int) (d:Tm)=>(λ(a:List Ty)=>
   dR (fx n g d) λb c=>
   if(eD c 0) then(
   some (fV.ret ((Ty.mk 0 []),c)))
   else(gh (fK a [b])<|some (.next (fT a [b])))):Int->Tm->((List Ty))->(Option (fV ((List Ty)) (Ty×Int)))) l i v=some (.inl (v++ts))
 |_,_,i,v,.nil,_=>by simp|_,_,i,v,.cons h j,k=>by
  simp only[oZ] at k;rw[fm];simp only[h,dN];rw[dI Df,fR Xw];simp only[dY,dF,fy];rw[oy (i+1) _ j (by rw[jn];simp;omega),jn];simp
def ZB{g:List Ty}{x:Tm}{t:Ty}(h:dQ g x t):(∀s∈g,s.err=0)->t.err=0/\∀n:Nat,x.an8<=n->g.length+x.an8<=1000000->fx n g x=some (t,0):=by
 induction h with
 |@var g t i y C=>
  intro hg;have A:=hg t (H9 C);refine⟨A,λn hn j=>?_⟩;rw[Tm.dJ] at hn;obtain⟨n,rfl⟩:∃m,n=m+1:=⟨n-1,xL⟩;rw[Tm.dJ] at j;rw[fx,dO YQ,dI (by simp only[Tm.hB,jj,gB];omega)];simp only[Tm.hB,gB];rw[fZ (a:=(g.length:Int)) xL xL,fZ xL xL]
  have:dX g ((g.length:Int)-1-(i:Int))=some t:=by
   unfold dX;rw[dO xL,<-C]
   congr 1
   omega
  rw[this];simp only[dF];rw[jo (by have:=e8 A;omega)];rfl
 |@lam g s b t y _ ih=>
  intro hg;have hs:=(Ty.sF (.inr rfl) y).1;have B:=(Ty.sF (.inr rfl) y).2
  obtain⟨_,ih⟩:=ih (by
   intro u hu;rcases tp.1 hu with h|h
   ·exact hg u h
   ·rw[EU] at h;rw[h];exact hs)
  refine⟨y,λn hn j=>?_⟩;rw[Tm.dJ] at hn j;simp only[eb] at hn j;obtain⟨n,rfl⟩:∃m,n=m+1:=⟨n-1,xL⟩;rw[fx,dI LA,dO YQ];simp only[Tm.fw,Tm.ez,eO,kS,dF,jn];rw[fR Xw,dY,ih n xL Xw];simp only[dN];rw[dI Df,iT (by have:=e8 hs;omega) (by have:=e8 B;omega)];simp only[dF];rw[ok_eq y];rfl
 |@app g f a s t _ _ c d=>
  intro hg;obtain⟨r,c⟩:=c hg;obtain⟨v,d⟩:=d hg;have B:=(Ty.sF (.inr rfl) r).2;refine⟨B,λn hn j=>?_⟩;rw[Tm.dJ] at hn j;simp only[eb] at hn j;obtain⟨n,rfl⟩:∃m,n=m+1:=⟨n-1,xL⟩;have o:=oy (n:=n) (g:=g) (l:=[f,a]) 0 [] (.cons (c n xL xL) (.cons (d n xL xL) .nil)) LA;rw[fx,dI LA,dI LA];simp only[d_,Tm.ez,ef (l:=[f,a]) LA,dY];rw[o];simp only[dF,eo,gp,gD];rw[dO YQ];simp only[p5,eO,hR,kS,ql,dF];rw[dI (by simp[Ty.fn,eD]),show(Ty.fn s t).an7[0]?=some s from rfl];simp only[dF];rw[me (by have:=e8 v;omega)];simp only[dF];rw[dI Df,show(Ty.fn s t).an7[1]?=some t from rfl];rfl
 |zero=>
  intro hg;refine⟨Ty.fi,λn hn j=>?_⟩;rw[Tm.dJ] at hn;obtain⟨n,rfl⟩:∃m,n=m+1:=⟨n-1,xL⟩;rfl
 |@succ g a _ ih=>
  intro hg;obtain⟨r,ih⟩:=ih hg;refine⟨Ty.fi,λn hn j=>?_⟩;rw[Tm.dJ] at hn j;simp only[eb] at hn j;obtain⟨n,rfl⟩:∃m,n=m+1:=⟨n-1,xL⟩;have o:=oy (n:=n) (g:=g) (l:=[a]) 0 [] (.cons (ih n xL xL) .nil) LA;rw[fx,dI LA,dI LA];simp only[d_,Tm.ez,ef (l:=[a]) LA,dY];rw[o];simp only[dF,eo,gp,gD];rw[dI LA,dI LA,dO YQ];simp only[p5,eO,kS,dF];rw[me (by rw[Ty.hZ];omega)];rfl
 |@rB g t b s k w _ _ _ c d q=>
  intro hg;obtain⟨r,c⟩:=c hg;obtain⟨v,d⟩:=d hg;obtain⟨D,q⟩:=q hg;refine⟨w,λn hn j=>?_⟩;rw[Tm.dJ] at hn j;simp only[eb] at hn j;obtain⟨n,rfl⟩:∃m,n=m+1:=⟨n-1,xL⟩;have B:=e8 w;have o:=oy (n:=n) (g:=g) (l:=[b,s,k]) 0 [] (.cons (c n xL xL) (.cons (d n xL xL) (.cons (q n xL xL) .nil))) LA;rw[fx,dI LA,dI LA];simp only[d_,Tm.ez,ef (l:=[b,s,k]) LA,dY];rw[o];simp only[dF,eo,gp,gD];rw[dI LA,dI LA,dI LA,dO YQ];simp only[p5,eO,hR,nc,kS,ql,dF,Tm.fw];rw[me xL];simp only[dF,if_true];rw[iT xL xL];simp only[dF];rw[iT (by rw[Ty.hZ];omega) (by rw[Ty.jw];omega)];simp only[dF];rw[me (by have:=e8 v;omega)];simp only[dF,if_true];rw[me (by rw[Ty.hZ];omega)];simp only[dF];rw[dI Df,jo xL];rfl
 |nil=>
  intro hg;refine⟨Ty.mD,λn hn j=>?_⟩;rw[Tm.dJ] at hn;obtain⟨n,rfl⟩:∃m,n=m+1:=⟨n-1,xL⟩;rfl
 |@cons g a b _ _ c d=>
  intro hg;obtain⟨r,c⟩:=c hg;obtain⟨v,d⟩:=d hg;refine⟨Ty.mD,λn hn j=>?_⟩;rw[Tm.dJ] at hn j;simp only[eb] at hn j;obtain⟨n,rfl⟩:∃m,n=m+1:=⟨n-1,xL⟩;have o:=oy (n:=n) (g:=g) (l:=[a,b]) 0 [] (.cons (c n xL xL) (.cons (d n xL xL) .nil)) LA;rw[fx,dI LA,dI LA];simp only[d_,Tm.ez,ef (l:=[a,b]) LA,dY];rw[o];simp only[dF,eo,gp,gD];rw[dI LA,dI LA,dI LA,dI LA,dI LA,dO YQ];simp only[p5,eO,hR,kS,ql,dF];rw[me (by rw[Ty.hZ];omega)];simp only[dF,if_true];rw[me (by rw[Ty.oM];omega)];rfl
 |@fold g t b s k w _ _ _ c d q=>
  intro hg;obtain⟨r,c⟩:=c hg;obtain⟨v,d⟩:=d hg;obtain⟨D,q⟩:=q hg;refine⟨w,λn hn j=>?_⟩;rw[Tm.dJ] at hn j;simp only[eb] at hn j;obtain⟨n,rfl⟩:∃m,n=m+1:=⟨n-1,xL⟩;have B:=e8 w;have o:=oy (n:=n) (g:=g) (l:=[b,s,k]) 0 [] (.cons (c n xL xL) (.cons (d n xL xL) (.cons (q n xL xL) .nil))) LA;rw[fx,dI LA,dI LA];simp only[d_,Tm.ez,ef (l:=[b,s,k]) LA,dY];rw[o];simp only[dF,eo,gp,gD];rw[dI LA,dI LA,dI LA,dI LA,dI LA,dI LA,dO YQ];simp only[p5,eO,hR,nc,kS,ql,dF,Tm.fw];rw[me xL];simp only[dF,if_true];rw[iT xL xL];simp only[dF];rw[iT (by rw[Ty.oM];omega) (by rw[Ty.jw];omega)];simp only[dF];rw[iT (by rw[Ty.hZ];omega) (by rw[Ty.jw,Ty.jw,Ty.oM];omega)];simp only[dF];rw[me (by have:=e8 v;omega)];simp only[dF,if_true];rw[me (by rw[Ty.oM];omega)];simp only[dF];rw[dI Df,jo xL];rfl
 |@pair g a b s t w _ _ c d=>
  intro hg;obtain⟨r,c⟩:=c hg;obtain⟨v,d⟩:=d hg;refine⟨w,λn hn j=>?_⟩;rw[Tm.dJ] at hn j;simp only[eb] at hn j;obtain⟨n,rfl⟩:∃m,n=m+1:=⟨n-1,xL⟩;have o:=oy (n:=n) (g:=g) (l:=[a,b]) 0 [] (.cons (c n xL xL) (.cons (d n xL xL) .nil)) LA;rw[fx,dI LA,dI LA];simp only[d_,Tm.ez,ef (l:=[a,b]) LA,dY];rw[o];simp only[dF,eo,gp,gD];rw[dI LA,dI LA,dI LA,dI LA,dI LA,dI LA,dI LA,dO YQ];simp only[p5,eO,hR,kS,ql,dF];rw[yl (by have:=e8 r;omega) (by have:=e8 v;omega)];simp only[dF];rw[ok_eq w];rfl
 |@fst g a s t _ ih=>
  intro hg;obtain⟨r,ih⟩:=ih hg;refine⟨(Ty.sF (.inl rfl) r).1,λn hn j=>?_⟩;rw[Tm.dJ] at hn j;simp only[eb] at hn j;obtain⟨n,rfl⟩:∃m,n=m+1:=⟨n-1,xL⟩;have o:=oy (n:=n) (g:=g) (l:=[a]) 0 [] (.cons (ih n xL xL) .nil) LA;rw[fx,dI LA,dI LA];simp only[d_,Tm.ez,ef (l:=[a]) LA,dY];rw[o];simp only[dF,eo,gp,gD];rw[dI LA,dI LA,dI LA,dI LA,dI LA,dI LA,dI LA,dI LA,dO YQ];simp only[p5,eO,kS,dF];rw[dI (by simp[Ty.pr,eD]),dO YQ,show(Ty.pr s t).an7[0]?=some s from rfl];rfl
 |@snd g a s t _ ih=>
  intro hg;obtain⟨r,ih⟩:=ih hg;refine⟨(Ty.sF (.inl rfl) r).2,λn hn j=>?_⟩;rw[Tm.dJ] at hn j;simp only[eb] at hn j;obtain⟨n,rfl⟩:∃m,n=m+1:=⟨n-1,xL⟩;have o:=oy (n:=n) (g:=g) (l:=[a]) 0 [] (.cons (ih n xL xL) .nil) LA;rw[fx,dI LA,dI LA];simp only[d_,Tm.ez,ef (l:=[a]) LA,dY];rw[o];simp only[dF,eo,gp,gD];rw[dI LA,dI LA,dI LA,dI LA,dI LA,dI LA,dI LA,dI LA,dO YQ];simp only[p5,eO,kS,dF];rw[dI (by simp[Ty.pr,eD]),dI LA,show dX (Ty.pr s t).an7 1=some t from rfl];rfl
 |unit=>
  intro hg;refine⟨Ty.Jk,λn hn j=>?_⟩;rw[Tm.dJ] at hn;obtain⟨n,rfl⟩:∃m,n=m+1:=⟨n-1,xL⟩;rfl
def Tm.oG{p:Tm->Prop}(var:∀i:Nat,p (.mk 1 i .z []))(lam:∀s b,s.err=0->b.ok=true->p (.mk 2 0 s [b]))(app:∀a b,a.ok=true->b.ok=true->p (.mk 3 0 .z [a,b]))
  (zero:p (.mk 4 0 .z [])) (succ:∀a,a.ok=true->p (.mk 5 0 .z [a])) (rB:∀s a b c,s.err=0->a.ok=true->b.ok=true->c.ok=true->p (.mk 6 0 s [a,b,c])) (nil:p (.mk 7 0 .z []))
  (cons:∀a b,a.ok=true->b.ok=true->p (.mk 8 0 .z [a,b])) (fold:∀s a b c,s.err=0->a.ok=true->b.ok=true->c.ok=true->p (.mk 9 0 s [a,b,c])) (pair:∀a b,a.ok=true->b.ok=true->p (.mk 10 0 .z [a,b]))
  (fst:∀a,a.ok=true->p (.mk 11 0 .z [a])) (snd:∀a,a.ok=true->p (.mk 12 0 .z [a])) (unit:p (.mk 13 0 .z [])) (t:Tm) (h:t.ok=true):p t:=by
 cases t with
 |mk k i s l=>
  obtain⟨_,hi,d,o,hn⟩:=Tm.pe h
  have hs:if j1 k then s.err=0 else s=.z:=by
   rw[Tm.gR] at h;simp only[Tm.node,gE] at h;have:=h.1.2
   split at this
   ·rename_i f;rw[dO f];simpa using this
   ·rename_i f;rw[dI f];exact(Ty.mO s).1 this
  have r:∀{l:List Tm},(l.length:Int)=0->l=[]:=λh=>gj.1 h;unfold gI at hn
  split at hn
  ·rename_i f;obtain rfl:=gj.1 hn;rcases f with rfl|rfl|rfl|rfl
   ·rw[dI Df] at hs;subst hs;obtain⟨j,rfl⟩:∃j:Nat,i=(j:Int):=⟨i.toNat,xL⟩;exact var j
   ·rw[dI Df] at hs;subst hs;obtain rfl:=d Df;exact zero
   ·rw[dI Df] at hs;subst hs;obtain rfl:=d Df;exact nil
   ·rw[dI Df] at hs;subst hs;obtain rfl:=d Df;exact unit
  ·split at hn
   ·rename_i f;obtain⟨a,rfl⟩:=jr hn;have n:=o a LA;rcases f with rfl|rfl|rfl|rfl
    ·rw[dO Df] at hs;obtain rfl:=d Df;exact lam s a hs n
    ·rw[dI Df] at hs;subst hs;obtain rfl:=d Df;exact succ a n
    ·rw[dI Df] at hs;subst hs;obtain rfl:=d Df;exact fst a n
    ·rw[dI Df] at hs;subst hs;obtain rfl:=d Df;exact snd a n
   ·split at hn
    ·rename_i f;obtain⟨a,b,rfl⟩:=pR hn;have n:=o a LA;have q:=o b LA;rcases f with rfl|rfl|rfl
     ·rw[dI Df] at hs;subst hs;obtain rfl:=d Df;exact app a b n q
     ·rw[dI Df] at hs;subst hs;obtain rfl:=d Df;exact cons a b n q
     ·rw[dI Df] at hs;subst hs;obtain rfl:=d Df;exact pair a b n q
    ·split at hn
     ·rename_i f
      obtain⟨a,b,c,rfl⟩:∃a b c,l=[a,b,c]:=by
       match l,hn with
       |[a,b,c],_=>exact⟨a,b,c,rfl⟩|[],h|[_],h|[_,_],h=>simp at h
       |_::_::_::_::_,h=>simp at h;omega
      have n:=o a LA;have q:=o b LA;have u:=o c LA;rcases f with rfl|rfl
      ·rw[dO Df] at hs;obtain rfl:=d Df;exact rB s a b c hs n q u
      ·rw[dO Df] at hs;obtain rfl:=d Df;exact fold s a b c hs n q u
     ·omega
open Classical in
noncomputable def hY (k:Int) (s:Ty) (l:List Ty):Ty×Int:=
 if k=3 then(if(l.getD 0 .z).an6=4/\(l.getD 0 .z).an7.getD 0 .z=l.getD 1 .z then((l.getD 0 .z).an7.getD 1 .z,0)else(.z,7))
 else if k=4 then(.nat,0)
 else if k=5 then(if l.getD 0 .z=.nat then(.nat,0)else(.z,7))
 else if k=6 then(if l.getD 0 .z=s/\l.getD 1 .z=.fn .nat (.fn s s)/\l.getD 2 .z=.nat then(s,0)else(.z,7))
 else if k=7 then(.iB,0)
 else if k=8 then(if l.getD 0 .z=.nat/\l.getD 1 .z=.iB then(.iB,0)else(.z,7))
 else if k=9 then(if l.getD 0 .z=s/\l.getD 1 .z=.fn .nat (.fn .iB (.fn s s))/\l.getD 2 .z=.iB then(s,0)else(.z,7))
 else if k=10 then(if 64<1+(l.getD 0 .z).an8+(l.getD 1 .z).an8 then(.z,4)else(.pr (l.getD 0 .z) (l.getD 1 .z),0))
 else if k=11 then(if(l.getD 0 .z).an6=3 then((l.getD 0 .z).an7.getD 0 .z,0)else(.z,7))
 else if k=12 then(if(l.getD 0 .z).an6=3 then((l.getD 0 .z).an7.getD 1 .z,0)else(.z,7))
 else(.unit,0)
def Qx(s:Ty)(r:Ty×Int):Ty×Int:=if r.2≠0 then(.z,r.2)else if 64<1+s.an8+r.1.an8 then(.z,4)else(.fn s r.1,0)
def vD(f:List Ty->Ty×Int):List Ty⊕Int->Ty×Int
 |.inl l=>f l|.inr e=>(.z,e)
def Sw(r:Ty×Int)(o:List Ty⊕Int):List Ty⊕Int:=if r.2≠0 then .inr r.2 else match o with|.inl l=>.inl (r.1::l)|.inr e=>.inr e
mutual
noncomputable def Tm.ty:Tm->List Ty->Ty×Int
 |.mk k i s l,g=>if k=1 then(if i<(g.length:Int)then(g.getD (g.length-1-i.toNat) .z,0)else(.z,6))else if k=2 then Qx s (Tm.tyH l (g++[s]))else vD (hY k s) (Tm.uK l g)
noncomputable def Tm.tyH:List Tm->List Ty->Ty×Int
 |[],_=>(.z,0)|t::_,g=>t.ty g
noncomputable def Tm.uK:List Tm->List Ty->List Ty⊕Int
 |[],_=>.inl []|t::l,g=>Sw (t.ty g) (Tm.uK l g)
end
def Tm.m7(k i:Int)(s:Ty)(l:List Tm)(g:List Ty):(Tm.mk k i s l).ty g=if k=1 then(if i<(g.length:Int)then(g.getD (g.length-1-i.toNat) .z,0)else(.z,6))else if k=2 then Qx s (Tm.tyH l (g++[s]))else vD (hY k s) (Tm.uK l g):=by rw[Tm.ty]
def iz(g:List Ty):Prop:=∀s∈g,s.err=0
def iz.app{g:List Ty}{s:Ty}(h:iz g)(hs:s.err=0):iz (g++[s]):=by
 intro u hu;rcases tp.1 hu with h'|h'
 ·exact h u h'
 ·grind
def N5{t:Ty}(h:t.err=0)(c:t.an6=4):∃a b,t=.fn a b/\a.err=0/\b.err=0:=by
 rcases Ty.qO h with rfl|rfl|rfl|⟨a,b,rfl,_,_⟩|h
 ·cases c
 ·cases c
 ·cases c
 ·cases c
 ·exact h
def Bi{t:Ty}(h:t.err=0)(c:t.an6=3):∃a b,t=.pr a b/\a.err=0/\b.err=0:=by
 rcases Ty.qO h with rfl|rfl|rfl|h|⟨a,b,rfl,_,_⟩
 ·cases c
 ·cases c
 ·cases c
 ·exact h
 ·cases c
def vP{t:Ty}(h:t.err=0):t.an6=1↔t=.nat:=by
 rcases Ty.qO h with rfl|rfl|rfl|⟨a,b,rfl,_,_⟩|⟨a,b,rfl,_,_⟩
 ·exact⟨λ_=>rfl,λ_=>rfl⟩
 all_goals exact⟨λh=>(by cases h),λh=>(by cases h)⟩
def DF{t:Ty}(h:t.err=0):t.an6=2↔t=.iB:=by
 rcases Ty.qO h with rfl|rfl|rfl|⟨a,b,rfl,_,_⟩|⟨a,b,rfl,_,_⟩
 ·exact⟨λh=>(by cases h),λh=>(by cases h)⟩
 ·exact⟨λ_=>rfl,λ_=>rfl⟩
 all_goals exact⟨λh=>(by cases h),λh=>(by cases h)⟩
theorem pP{r:Ty×Int}{o:List Ty⊕Int}(h:r.2≠0):Sw r o=.inr r.2:=dO h
theorem pU{r:Ty×Int}{o:List Ty⊕Int}(h:r.2=0):Sw r o=match o with|.inl l=>.inl (r.1::l)|.inr e=>.inr e:=dI xL
theorem sG{f:List Ty->Ty×Int}{e:Int}{r:Ty}(h:vD f (.inr e)=(r,0)):e=0:=(g_ h).2
def y_{a:Tm}{g:List Ty}(h:(a.ty g).2=0):a.ty g=((a.ty g).1,0):=Prod.ext rfl h
def RU{a:Tm}{g:List Ty}{f:List Ty->Ty×Int}{r:Ty}(h:vD f (Tm.uK [a] g)=(r,0)):∃s,a.ty g=(s,0)/\f [s]=(r,0):=by
 rw[Tm.uK] at h
 by_cases b:(a.ty g).2=0
 ·rw[pU b] at h;exact⟨_,y_ b,h⟩
 ·grind[pP,sG]
def Su{a b:Tm}{g:List Ty}{f:List Ty->Ty×Int}{r:Ty}(h:vD f (Tm.uK [a,b] g)=(r,0)):∃s t,a.ty g=(s,0)/\b.ty g=(t,0)/\f [s,t]=(r,0):=by
 rw[Tm.uK,Tm.uK,Tm.uK] at h
 by_cases c:(a.ty g).2=0
 ·rw[pU c] at h
  by_cases d:(b.ty g).2=0
  ·rw[pU d] at h;exact⟨_,_,y_ c,y_ d,h⟩
  ·grind[pP,sG]
 ·grind[pP,sG]
def Pn{a b c:Tm}{g:List Ty}{f:List Ty->Ty×Int}{r:Ty}(h:vD f (Tm.uK [a,b,c] g)=(r,0)):∃s t u,a.ty g=(s,0)/\b.ty g=(t,0)/\c.ty g=(u,0)/\f [s,t,u]=(r,0):=by
 rw[Tm.uK,Tm.uK,Tm.uK,Tm.uK] at h
 by_cases d:(a.ty g).2=0
 ·rw[pU d] at h
  by_cases i:(b.ty g).2=0
  ·rw[pU i] at h
   by_cases j:(c.ty g).2=0
   ·rw[pU j] at h;exact⟨_,_,_,y_ d,y_ i,y_ j,h⟩
   ·grind[pP,sG]
  ·rw[pP i] at h;exact absurd (sG h) i
 ·rw[pP d] at h;exact absurd (sG h) d
def qx:∀(n:Nat) (t:Tm),t.an8<=n->t.ok=true->∀g,iz g->∀s,t.ty g=(s,0)->dQ g t s/\s.err=0:=by
 intro n
 induction n with
 |zero=>intro t h;have:=t.eE;omega
 |succ n ih=>
  intro t hn H;refine Tm.oG (p:=λt=>t.an8<=n+1->∀g,iz g->∀s,t.ty g=(s,0)->dQ g t s/\s.err=0) ?_ ?_ ?_ ?_ ?_ ?_ ?_ ?_ ?_ ?_ ?_ ?_ ?_ t H hn
  ·intro i _ g hg s h;rw[Tm.m7,dO rfl] at h
   split at h
   ·rename_i hi
    have v:g.length-1-(i:Int).toNat<g.length:=xL
    have e:g[g.length-1-i]?=some s:=by
     have f:=(g_ h).1;rw[Tl,Cm] at f;rw[Cm] at v;rw[qp v] at f|-;simpa using f
    exact⟨.var i xL e,hg s (H9 e)⟩
   ·have:=(g_ h).2;omega
  ·intro s b hs o hn g hg r h;rw[Tm.dJ] at hn;simp only[eb] at hn;rw[Tm.m7,dI Df,dO rfl,Tm.tyH] at h;unfold Qx at h
   split at h
   ·rename_i B;exact absurd (g_ h).2 B
   ·rename_i B
    split at h
    ·have:=(g_ h).2;omega
    ·rename_i f;obtain⟨q,d⟩:=ih b xL o (g++[s]) (hg.app hs) _ (y_ (by simpa using B));have he:=Ty.yK hs d xL;obtain rfl:=(g_ h).1;exact⟨.lam he q,he⟩
  ·intro a b k o hn g hg r h;rw[Tm.dJ] at hn;simp only[eb] at hn;rw[Tm.m7,dI Df,dI Df] at h;obtain⟨s,t,f,q,d⟩:=Su h;obtain⟨l,a2⟩:=ih a xL k g hg _ f;obtain⟨u,w⟩:=ih b xL o g hg _ q;simp only[hY,if_true,za,RT] at d
   split at d
   ·rename_i j;obtain⟨x,y,rfl,C,A⟩:=N5 a2 j.1;have I:x=t:=j.2;obtain rfl:=(g_ d).1;subst I;exact⟨.app l u,A⟩
   ·have:=(g_ d).2;omega
  ·intro hn g hg r h;rw[Tm.m7,dI Df,dI Df,Tm.uK] at h;simp only[vD,hY,reduceIte,Int.reduceEq] at h;obtain rfl:=(g_ h).1;exact⟨.zero,Ty.fi⟩
  ·intro a k hn g hg r h;rw[Tm.dJ] at hn;simp only[eb] at hn;rw[Tm.m7,dI Df,dI Df] at h;obtain⟨s,f,d⟩:=RU h;obtain⟨l,a2⟩:=ih a xL k g hg _ f;simp only[hY,reduceIte,Int.reduceEq,za] at d
   split at d
   ·rename_i j;subst j;obtain rfl:=(g_ d).1;exact⟨.succ l,Ty.fi⟩
   ·have:=(g_ d).2;omega
  ·intro s a b c hs k o D hn g hg r h;rw[Tm.dJ] at hn;simp only[eb] at hn;rw[Tm.m7,dI Df,dI Df] at h;obtain⟨x,y,z,f,q,F,d⟩:=Pn h;obtain⟨l,a2⟩:=ih a xL k g hg _ f;obtain⟨u,w⟩:=ih b xL o g hg _ q;obtain⟨G,J⟩:=ih c xL D g hg _ F;simp only[hY,reduceIte,Int.reduceEq,za,RT] at d
   split at d
   ·rename_i j;have j:x=s/\y=.fn .nat (.fn s s)/\z=.nat:=j;obtain⟨rfl,rfl,rfl⟩:=j;obtain rfl:=(g_ d).1;exact⟨.rB hs l u G,hs⟩
   ·have:=(g_ d).2;omega
  ·intro hn g hg r h;rw[Tm.m7,dI Df,dI Df,Tm.uK] at h;simp only[vD,hY,reduceIte,Int.reduceEq] at h;obtain rfl:=(g_ h).1;exact⟨.nil,Ty.mD⟩
  ·intro a b k o hn g hg r h;rw[Tm.dJ] at hn;simp only[eb] at hn;rw[Tm.m7,dI Df,dI Df] at h;obtain⟨s,t,f,q,d⟩:=Su h;obtain⟨l,a2⟩:=ih a xL k g hg _ f;obtain⟨u,w⟩:=ih b xL o g hg _ q;simp only[hY,reduceIte,Int.reduceEq,za,RT] at d
   split at d
   ·rename_i j;obtain⟨rfl,rfl⟩:=j;obtain rfl:=(g_ d).1;exact⟨.cons l u,Ty.mD⟩
   ·have:=(g_ d).2;omega
  ·intro s a b c hs k o D hn g hg r h;rw[Tm.dJ] at hn;simp only[eb] at hn;rw[Tm.m7,dI Df,dI Df] at h;obtain⟨x,y,z,f,q,F,d⟩:=Pn h;obtain⟨l,a2⟩:=ih a xL k g hg _ f;obtain⟨u,w⟩:=ih b xL o g hg _ q;obtain⟨G,J⟩:=ih c xL D g hg _ F;simp only[hY,reduceIte,Int.reduceEq,za,RT] at d
   split at d
   ·rename_i j;have j:x=s/\y=.fn .nat (.fn .iB (.fn s s))/\z=.iB:=j;obtain⟨rfl,rfl,rfl⟩:=j;obtain rfl:=(g_ d).1;exact⟨.fold hs l u G,hs⟩
   ·have:=(g_ d).2;omega
  ·intro a b k o hn g hg r h;rw[Tm.dJ] at hn;simp only[eb] at hn;rw[Tm.m7,dI Df,dI Df] at h;obtain⟨s,t,f,q,d⟩:=Su h;obtain⟨l,a2⟩:=ih a xL k g hg _ f;obtain⟨u,w⟩:=ih b xL o g hg _ q;simp only[hY,reduceIte,Int.reduceEq,za,RT] at d
   split at d
   ·have:=(g_ d).2;omega
   ·rename_i j;have he:=Ty.SW a2 w xL;obtain rfl:=(g_ d).1;exact⟨.pair he l u,he⟩
  ·intro a k hn g hg r h;rw[Tm.dJ] at hn;simp only[eb] at hn;rw[Tm.m7,dI Df,dI Df] at h;obtain⟨s,f,d⟩:=RU h;obtain⟨l,a2⟩:=ih a xL k g hg _ f;simp only[hY,reduceIte,Int.reduceEq,za] at d
   split at d
   ·rename_i j;obtain⟨x,y,rfl,C,A⟩:=Bi a2 j;obtain rfl:=(g_ d).1;exact⟨.fst l,C⟩
   ·have:=(g_ d).2;omega
  ·intro a k hn g hg r h;rw[Tm.dJ] at hn;simp only[eb] at hn;rw[Tm.m7,dI Df,dI Df] at h;obtain⟨s,f,d⟩:=RU h;obtain⟨l,a2⟩:=ih a xL k g hg _ f;simp only[hY,reduceIte,Int.reduceEq,za] at d
   split at d
   ·rename_i j;obtain⟨x,y,rfl,C,A⟩:=Bi a2 j;obtain rfl:=(g_ d).1;exact⟨.snd l,A⟩
   ·have:=(g_ d).2;omega
  ·intro hn g hg r h;rw[Tm.m7,dI Df,dI Df,Tm.uK] at h;simp only[vD,hY,reduceIte,Int.reduceEq] at h;obtain rfl:=(g_ h).1;exact⟨.unit,Ty.Jk⟩
end Go.fN
namespace Go.fN
open Go
def jS(a:Ty):a.kX a=true:=(Ty.kV a a).2 rfl
def lV{a b:Ty}(h:a≠b):a.kX b=false:=by grind[Ty.kV]
def ov{n:Nat}{g:List Ty}:∀(l:List Tm) (i:Nat) (v:List Ty),(∀a∈l,fx n g a=some (a.ty g))->v.length+l.length<=1000->eV (λ(o:Int) (j:Tm)=>(λ(c:List Ty)=>
   dR (fx n g j) λd f=>
   if(eD f 0) then(
   some (fV.ret ((Ty.mk 0 []),f)))
   else(gh (fK c [d])<|some (.next (fT c [d])))):Int->Tm->((List Ty))->(Option (fV ((List Ty)) (Ty×Int)))) l i v=some (match Tm.uK l g with|.inl ts=>.inl (v++ts)|.inr e=>.inr (.z,e))
 |[],i,v,_,_=>by simp[Tm.uK]|a::l,i,v,h,q=>by
  simp only[oZ] at q;have s:=h a LA;rw[fm,Tm.uK];rw[s]
  by_cases k:(a.ty g).2=0
  ·rw[y_ k,pU rfl];simp only[dN];rw[dI Df,fR Xw];simp only[dY,dF,fy];rw[ov l (i+1) _ (λb u=>h b (by simp[u])) (by rw[jn];simp;omega),jn];cases Tm.uK l g with
   |inl ts=>simp|inr e=>rfl
  ·rw[pP k];generalize a.ty g=r at k;obtain⟨t,e⟩:=r;simp only[dN];rw[dO (by simpa[eD] using k)];rfl
def Ba(l:List Tm)(g:List Ty):(∃e,e≠0/\Tm.uK l g=.inr e)\/∃ts,Tm.uK l g=.inl ts/\ts.length=l.length/\∀(i:Nat) (a:Tm),l[i]?=some a->∃s,ts[i]?=some s/\a.ty g=(s,0):=by
 induction l with
 |nil=>exact .inr ⟨[],by rw[Tm.uK],rfl,LA⟩|cons a l ih=>
  rw[Tm.uK]
  grind[pU,pP]
def Sj{f:List Ty->Ty×Int}{e:Int}:vD f (.inr e)=(.z,e):=rfl
def ow{f:List Ty->Ty×Int}{l:List Ty}:vD f (.inl l)=f l:=rfl
def Di{a:Tm}{g:List Ty}(b:a.ok=true)(hg:iz g):(∃e,e≠0/\Tm.uK [a] g=.inr e)\/∃s,Tm.uK [a] g=.inl [s]/\s.err=0:=by
 rcases Ba [a] g with h|⟨ts,c,d,f⟩
 ·grind
 ·obtain⟨s,j,i⟩:=f 0 a rfl
  match ts,d with
  |[x],_=>
   obtain rfl:x=s:=by grind
   exact .inr ⟨x,c,(qx _ a (jy _) b g hg _ i).2⟩
def DI{a b:Tm}{g:List Ty}(d:a.ok=true)(f:b.ok=true)(hg:iz g):(∃e,e≠0/\Tm.uK [a,b] g=.inr e)\/∃s t,Tm.uK [a,b] g=.inl [s,t]/\s.err=0/\t.err=0:=by
 rcases Ba [a,b] g with h|⟨ts,i,j,c⟩
 ·exact .inl h
 ·obtain⟨s,n,k⟩:=c 0 a rfl;obtain⟨t,o,l⟩:=c 1 b rfl
  match ts,j with
  |[x,y],_=>
   obtain rfl:x=s:=by grind
   obtain rfl:y=t:=by grind
   exact .inr ⟨x,y,i,(qx _ a (jy _) d g hg _ k).2,(qx _ b (jy _) f g hg _ l).2⟩
def CR{a b c:Tm}{g:List Ty}(f:a.ok=true)(i:b.ok=true)(j:c.ok=true)(hg:iz g):(∃e,e≠0/\Tm.uK [a,b,c] g=.inr e)\/∃s t u,Tm.uK [a,b,c] g=.inl [s,t,u]/\s.err=0/\t.err=0/\u.err=0:=by
 rcases Ba [a,b,c] g with h|⟨ts,k,l,d⟩
 ·exact .inl h
 ·obtain⟨s,v,n⟩:=d 0 a rfl;obtain⟨t,w,o⟩:=d 1 b rfl;obtain⟨u,q,r⟩:=d 2 c rfl
  match ts,l with
  |[x,y,z],_=>
   obtain rfl:x=s:=by grind
   obtain rfl:y=t:=by grind
   obtain rfl:z=u:=by simpa using q
   exact .inr ⟨x,y,z,k,(qx _ a (jy _) f g hg _ n).2,(qx _ b (jy _) i g hg _ o).2,(qx _ c (jy _) j g hg _ r).2⟩
def FH{t:Ty}(h:t.an8<=1000000000)(a:t.ok=true):tN t=some (if 64<t.an8 then(.z,4)else(t,0)):=by
 unfold tN;rw[mm h];unfold Ty.err;rw[dO a]
 split
 ·rfl
 ·rfl
section
variable{s x y z:Ty}
def AX:((x.an6=4/\x.an7.getD 0 .z=y)->hY 3 s [x,y]=(x.an7.getD 1 .z,0))/\(¬(x.an6=4/\x.an7.getD 0 .z=y)->hY 3 s [x,y]=(.z,7)):=by
 unfold hY
 grind
def Ha:(x=.nat->hY 5 s [x]=(.nat,0))/\(x≠ .nat->hY 5 s [x]=(.z,7)):=by
 unfold hY
 grind
def wE:((x=s/\y=.fn .nat (.fn s s)/\z=.nat)->hY 6 s [x,y,z]=(s,0))/\(¬(x=s/\y=.fn .nat (.fn s s)/\z=.nat)->hY 6 s [x,y,z]=(.z,7)):=by
 unfold hY
 grind
def Bf:((x=.nat/\y=.iB)->hY 8 s [x,y]=(.iB,0))/\(¬(x=.nat/\y=.iB)->hY 8 s [x,y]=(.z,7)):=by
 unfold hY
 grind
def wL:((x=s/\y=.fn .nat (.fn .iB (.fn s s))/\z=.iB)->hY 9 s [x,y,z]=(s,0))/\(¬(x=s/\y=.fn .nat (.fn .iB (.fn s s))/\z=.iB)->hY 9 s [x,y,z]=(.z,7)):=by
 unfold hY
 grind
def OV:hY 10 s [x,y]=if 64<1+x.an8+y.an8 then(.z,4)else(.pr x y,0):=by
 rfl
def PT:hY 11 s [x]=if x.an6=3 then(x.an7.getD 0 .z,0)else(.z,7):=by
 rfl
def O0:hY 12 s [x]=if x.an6=3 then(x.an7.getD 1 .z,0)else(.z,7):=by
 rfl
end
def zJ:∀(n:Nat) (t:Tm),t.an8<=n->t.ok=true->∀g,iz g->g.length+t.an8<=1000000->fx n g t=some (t.ty g):=by
 intro n
 induction n with
 |zero=>intro t h;have:=t.eE;omega
 |succ n ih=>
  intro t hn N;refine Tm.oG (p:=λt=>t.an8<=n+1->∀g,iz g->g.length+t.an8<=1000000->fx (n+1) g t=some (t.ty g)) ?_ ?_ ?_ ?_ ?_ ?_ ?_ ?_ ?_ ?_ ?_ ?_ ?_ t N hn
  ·intro i _ g hg k;rw[Tm.dJ] at k;rw[fx,dO YQ,Tm.m7,dO rfl]
   by_cases hi:(i:Int)<(g.length:Int)
   ·rw[dI (by simp only[Tm.hB,gB,jj];omega),dO hi];simp only[Tm.hB,gB];rw[fZ (a:=(g.length:Int)) xL xL,fZ xL xL]
    have w:g.length-1-i<g.length:=xL
    have:dX g ((g.length:Int)-1-(i:Int))=some g[g.length-1-i]:=by
     unfold dX;rw[dO xL,show((g.length:Int)-1-(i:Int)).toNat=g.length-1-i by omega,qp w]
    rw[this];simp only[dF];have H:=hg _ (D9 w);rw[jo (by have:=e8 H;omega)];simp only[dF,Cm];rw[Tl,qp w];rfl
   ·rw[dO (by simp only[Tm.hB,gB,jj];omega),dI hi];rfl
  ·intro s b hs k hn g hg d;rw[Tm.dJ] at hn d;simp only[eb] at hn d;rw[fx,dI LA,dO YQ,Tm.m7,dI Df,dO rfl,Tm.tyH];simp only[Tm.fw,Tm.ez,eO,kS,dF,jn];rw[fR Xw,dY,ih b xL k (g++[s]) (hg.app hs) Xw];have L:=λh=>(qx _ b (jy _) k (g++[s]) (hg.app hs) (b.ty (g++[s])).1 (y_ h)).2;generalize b.ty (g++[s])=q at L;obtain⟨r,e⟩:=q;simp only[dN,Qx]
   by_cases I:e=0
   ·subst I;have M:r.err=0:=L rfl;have J:=e8 hs;have O:=e8 M;rw[dI Df,dI LA,iT xL xL];simp only[dF];rw[FH (t:=Ty.fn s r) (by rw[Ty.jw];omega) (Ty.ok_two (.inr rfl) (Ty.la hs).1 (Ty.la M).1),Ty.jw]
    split<;>rfl
   ·rw[dO (by simpa[eD] using I),dO I];rfl
  ·intro a b j k hn g hg d;rw[Tm.dJ] at hn d;simp only[eb] at hn d;rw[fx,dI LA,dI LA,Tm.m7,dI Df,dI Df];simp only[d_,Tm.ez,ef (l:=[a,b]) LA,dY];rw[ov [a,b] 0 [] (by intro x f;simp at f;rcases f with rfl|rfl<;>first|exact ih _ xL j g hg xL|exact ih _ xL k g hg xL) LA];rcases DI j k hg with⟨e,he,h⟩|⟨s,t,h,hs,F⟩
   ·rw[h];rfl
   ·rw[h,ow];simp only[dF,eo,gp,gD];rw[dO YQ];simp only[p5,eO,hR,kS,ql,dF]
    by_cases o:s.an6=4
    ·obtain⟨x,y,rfl,f,D⟩:=N5 hs o;rw[dI (by simp[Ty.fn,eD]),show(Ty.fn x y).an7[0]?=some x from rfl];simp only[dF];rw[iK (by have:=e8 f;omega)];simp only[dF]
     by_cases A:x=t
     ·subst A;rw[jS,dI Df,show(Ty.fn x y).an7[1]?=some y from rfl,(AX (x:=.fn x y) (y:=x)).1 ⟨rfl,rfl⟩];rfl
     ·rw[lV A,dO Df,(AX (x:=.fn x y) (y:=t)).2 (λh=>A h.2)];rfl
    ·rw[dO (by simpa[eD] using o),dO trivial,AX.2 (λh=>o h.1)];rfl
  ·intro hn g hg d;rw[Tm.m7,dI Df,dI Df,Tm.uK];rfl
  ·intro a j hn g hg d;rw[Tm.dJ] at hn d;simp only[eb] at hn d;rw[fx,dI LA,dI LA,Tm.m7,dI Df,dI Df];simp only[d_,Tm.ez,ef (l:=[a]) LA,dY];rw[ov [a] 0 [] (by intro x f;simp at f;subst f;exact ih _ xL j g hg xL) LA];rcases Di j hg with⟨e,he,h⟩|⟨s,h,hs⟩
   ·rw[h];rfl
   ·rw[h,ow];simp only[dF,eo,gp,gD];rw[dI LA,dI LA,dO YQ];simp only[p5,eO,kS,dF];rw[iK (by have:=e8 hs;omega)];simp only[dF]
    by_cases B:s=.nat
    ·subst B;rw[jS,dO rfl,Ha.1 rfl]
    ·rw[lV B,dI Df,Ha.2 B];rfl
  ·intro s a b c hs j k G hn g hg d;rw[Tm.dJ] at hn d;simp only[eb] at hn d;rw[fx,dI LA,dI LA,Tm.m7,dI Df,dI Df];simp only[d_,Tm.ez,ef (l:=[a,b,c]) LA,dY];rw[ov [a,b,c] 0 [] (by intro x f;simp at f;rcases f with rfl|rfl|rfl<;>first|exact ih _ xL j g hg xL|exact ih _ xL k g hg xL|exact ih _ xL G g hg xL) LA];rcases CR j k G hg with⟨e,he,h⟩|⟨x,y,z,h,f,D,K⟩
   ·rw[h];rfl
   ·have J:=e8 hs;rw[h,ow];simp only[dF,eo,gp,gD];rw[dI LA,dI LA,dI LA,dO YQ];simp only[p5,eO,hR,nc,kS,ql,dF,Tm.fw];rw[iK (by have:=e8 f;omega)];simp only[dF]
    by_cases u:x=s
    ·subst u;rw[jS,dO rfl,iT xL xL];simp only[dF];rw[iT (by rw[Ty.hZ];omega) (by rw[Ty.jw];omega)];simp only[dF];rw[iK (by have:=e8 D;omega)];simp only[dF]
     by_cases v:y=.fn .nat (.fn x x)
     ·subst v;rw[jS,dO rfl,iK (by have:=e8 K;omega)];simp only[dF]
      by_cases C:z=.nat
      ·subst C;rw[jS,dI Df,jo xL,wE.1 ⟨rfl,rfl,rfl⟩];rfl
      ·rw[lV C,dO Df,wE.2 (λh=>C h.2.2)];rfl
     ·rw[lV v,dI Df,dO trivial,wE.2 (λh=>v h.2.1)];rfl
    ·rw[lV u,dI Df,dO trivial,wE.2 (λh=>u h.1)];rfl
  ·intro hn g hg d;rw[Tm.m7,dI Df,dI Df,Tm.uK];rfl
  ·intro a b j k hn g hg d;rw[Tm.dJ] at hn d;simp only[eb] at hn d;rw[fx,dI LA,dI LA,Tm.m7,dI Df,dI Df];simp only[d_,Tm.ez,ef (l:=[a,b]) LA,dY];rw[ov [a,b] 0 [] (by intro x f;simp at f;rcases f with rfl|rfl<;>first|exact ih _ xL j g hg xL|exact ih _ xL k g hg xL) LA];rcases DI j k hg with⟨e,he,h⟩|⟨s,t,h,hs,F⟩
   ·rw[h];rfl
   ·rw[h,ow];simp only[dF,eo,gp,gD];rw[dI LA,dI LA,dI LA,dI LA,dI LA,dO YQ];simp only[p5,eO,hR,kS,ql,dF];rw[iK (by have:=e8 hs;omega)];simp only[dF]
    by_cases u:s=.nat
    ·subst u;rw[jS,dO rfl,iK (by have:=e8 F;omega)];simp only[dF]
     by_cases v:t=.iB
     ·subst v;rw[jS,dI Df,Bf.1 ⟨rfl,rfl⟩]
     ·rw[lV v,dO Df,Bf.2 (λh=>v h.2)];rfl
    ·rw[lV u,dI Df,dO trivial,Bf.2 (λh=>u h.1)];rfl
  ·intro s a b c hs j k G hn g hg d;rw[Tm.dJ] at hn d;simp only[eb] at hn d;rw[fx,dI LA,dI LA,Tm.m7,dI Df,dI Df];simp only[d_,Tm.ez,ef (l:=[a,b,c]) LA,dY];rw[ov [a,b,c] 0 [] (by intro x f;simp at f;rcases f with rfl|rfl|rfl<;>first|exact ih _ xL j g hg xL|exact ih _ xL k g hg xL|exact ih _ xL G g hg xL) LA];rcases CR j k G hg with⟨e,he,h⟩|⟨x,y,z,h,f,D,K⟩
   ·rw[h];rfl
   ·have J:=e8 hs;rw[h,ow];simp only[dF,eo,gp,gD];rw[dI LA,dI LA,dI LA,dI LA,dI LA,dI LA,dO YQ];simp only[p5,eO,hR,nc,kS,ql,dF,Tm.fw];rw[iK (by have:=e8 f;omega)];simp only[dF]
    by_cases u:x=s
    ·subst u;rw[jS,dO rfl,iT xL xL];simp only[dF];rw[iT (by rw[Ty.oM];omega) (by rw[Ty.jw];omega)];simp only[dF];rw[iT (by rw[Ty.hZ];omega) (by rw[Ty.jw,Ty.jw,Ty.oM];omega)];simp only[dF];rw[iK (by have:=e8 D;omega)];simp only[dF]
     by_cases v:y=.fn .nat (.fn .iB (.fn x x))
     ·subst v;rw[jS,dO rfl,iK (by have:=e8 K;omega)];simp only[dF]
      by_cases C:z=.iB
      ·subst C;rw[jS,dI Df,jo xL,wL.1 ⟨rfl,rfl,rfl⟩];rfl
      ·rw[lV C,dO Df,wL.2 (λh=>C h.2.2)];rfl
     ·rw[lV v,dI Df,dO trivial,wL.2 (λh=>v h.2.1)];rfl
    ·rw[lV u,dI Df,dO trivial,wL.2 (λh=>u h.1)];rfl
  ·intro a b j k hn g hg d;rw[Tm.dJ] at hn d;simp only[eb] at hn d;rw[fx,dI LA,dI LA,Tm.m7,dI Df,dI Df];simp only[d_,Tm.ez,ef (l:=[a,b]) LA,dY];rw[ov [a,b] 0 [] (by intro x f;simp at f;rcases f with rfl|rfl<;>first|exact ih _ xL j g hg xL|exact ih _ xL k g hg xL) LA];rcases DI j k hg with⟨e,he,h⟩|⟨s,t,h,hs,F⟩
   ·rw[h];rfl
   ·have J:=e8 hs;have O:=e8 F;rw[h,ow];simp only[dF,eo,gp,gD];rw[dI LA,dI LA,dI LA,dI LA,dI LA,dI LA,dI LA,dO YQ];simp only[p5,eO,hR,kS,ql,dF];rw[yl xL xL];simp only[dF];rw[FH (t:=Ty.pr s t) (by rw[Ty.vK];omega) (Ty.ok_two (.inl rfl) (Ty.la hs).1 (Ty.la F).1),Ty.vK];rw[OV]
    split<;>rfl
  ·intro a j hn g hg d;rw[Tm.dJ] at hn d;simp only[eb] at hn d;rw[fx,dI LA,dI LA,Tm.m7,dI Df,dI Df];simp only[d_,Tm.ez,ef (l:=[a]) LA,dY];rw[ov [a] 0 [] (by intro x f;simp at f;subst f;exact ih _ xL j g hg xL) LA];rcases Di j hg with⟨e,he,h⟩|⟨s,h,hs⟩
   ·rw[h];rfl
   ·rw[h,ow];simp only[dF,eo,gp,gD];rw[dI LA,dI LA,dI LA,dI LA,dI LA,dI LA,dI LA,dI LA,dO YQ];simp only[p5,eO,kS,dF];rw[PT]
    by_cases o:s.an6=3
    ·obtain⟨x,y,rfl,f,D⟩:=Bi hs o;rw[dI (by simp[Ty.pr,eD]),dO YQ,dO (show(Ty.pr x y).an6=3 from rfl)];rfl
    ·rw[dO (by simpa[eD] using o),dI o];rfl
  ·intro a j hn g hg d;rw[Tm.dJ] at hn d;simp only[eb] at hn d;rw[fx,dI LA,dI LA,Tm.m7,dI Df,dI Df];simp only[d_,Tm.ez,ef (l:=[a]) LA,dY];rw[ov [a] 0 [] (by intro x f;simp at f;subst f;exact ih _ xL j g hg xL) LA];rcases Di j hg with⟨e,he,h⟩|⟨s,h,hs⟩
   ·rw[h];rfl
   ·rw[h,ow];simp only[dF,eo,gp,gD];rw[dI LA,dI LA,dI LA,dI LA,dI LA,dI LA,dI LA,dI LA,dO YQ];simp only[p5,eO,kS,dF];rw[O0]
    by_cases o:s.an6=3
    ·obtain⟨x,y,rfl,f,D⟩:=Bi hs o;rw[dI (by simp[Ty.pr,eD]),dI LA,dO (show(Ty.pr x y).an6=3 from rfl)];rfl
    ·rw[dO (by simpa[eD] using o),dI o];rfl
  ·intro hn g hg d;rw[Tm.m7,dI Df,dI Df,Tm.uK];rfl
end Go.fN
namespace Go.fN
open Go
def JM:gC=fq:=by
 funext n
 induction n with
 |zero=>rfl|succ n ih=>
  funext a b
  rw[gC,fq,ih]
def pf{a b:Ty}(h:a.an8<=1000000000):gC FU a b=some (a.kX b):=by rw[JM];exact iK h
def tf(t:Ty):dK:=⟨t,(t.an8:Int)⟩
def V3:dK:=⟨.mk 0 [],0⟩
def Lq(r:Ty×Int):dK×Int:=if r.2=0 then(tf r.1,0)else(V3,r.2)
@[simp] theorem qV(t:Ty):Lq (t,0)=(tf t,0):=dO rfl
def ny{t:Ty}{e:Int}(h:e≠0):Lq (t,e)=(V3,e):=dI h
@[simp] theorem uS(t:Ty):(tf t).dL=t:=by rfl
@[simp] theorem LF(t:Ty):(tf t).an8=(t.an8:Int):=by rfl
@[simp] theorem aiD:V3.dL=.mk 0 []:=by rfl
def lW{t:Ty}(h:t.err=0):mP t=some (tf t):=by
 unfold mP;rw[lA (by have:=e8 h;omega),dO h];rfl
def zS(k:Int){a b:Ty}(c:a.an8<=1000000)(d:b.an8<=1000000):ra k (tf a) (tf b)=some (if 64<1+a.an8+b.an8 then(V3,4)else(tf (.mk k [a,b]),0)):=by
 unfold ra;simp only[LF,uS];rw[fW (a:=1) xL xL,fW xL xL]
 by_cases h:64<1+a.an8+b.an8
 ·rw[dO (by simp only[iw];omega),dO h];rfl
 ·rw[dI (by simp only[iw];omega),dI h];unfold tf;rw[Ty.Bn]
  congr 3
def uT{a b:Ty}(c:a.an8<=1000000):j8 (tf a) (tf b)=some (a.kX b):=by
 unfold j8;simp only[d_,LF,uS]
 by_cases h:(a.an8:Int)=(b.an8:Int)
 ·rw[dO (by simpa[ee] using h),pf xL];rfl
 ·rw[dI (by simpa[ee] using h),lV (by rintro rfl;exact h rfl)]
def rQ{t x:Ty}{i:Int}(h:dX t.an7 i=some x)(a:x.err=0):jm (tf t) i=some (tf x):=by
 unfold jm;simp only[uS,h,dF,lW a]
def wC:m_=some .nat:=rfl
def Nv:xp=some .iB:=rfl
def Y9{l:List Ty}(d:l.length<=1000):∀(i m:Nat) (k:Int) (as:List Ty),i<=l.length->i<m->n9 ((WV λ(a:Int) (v49:Int) (b:List Ty)=>
   if(qn a 0) then(
   dE (dX l a) λc=>
   some (.next ((fH .i64 a 1),4,[c,(Ty.mk v49 b)])))
   else(some (.FP (a,v49,b)))):(Int×Int×(List Ty))->(Option (fV (Int×Int×(List Ty)) (Ty)))) m ((i:Int)-1,k,as)=some (.inl (-1,((l.take i).foldr Ty.fn (.mk k as)).an6,((l.take i).foldr Ty.fn (.mk k as)).an7))
 |0,m+1,k,as,_,_=>by
  rw[qX];simp only[WV];rw[dI (by rw[jj];omega)];rfl
 |i+1,m+1,k,as,hi,hm=>by
  rw[qX];simp only[WV];rw[dO (by rw[jj];omega),show((i+1:Nat):Int)-1=(i:Int) by omega,jR,qp xL];simp only[dF,fy];rw[fZ xL xL];have h:=Y9 d i m 4 [l[i],.mk k as] xL xL;rw[h,ahx,qp xL];simp only[ako,ajb,List.foldr_cons,List.foldr_nil];rfl
def FW(t:Ty)(l:List Ty)(a:l.length<=1000):rV t l=some (l.foldr Ty.fn t):=by
 unfold rV;simp only[d_];rw[gB,fZ xL xL];have h:=Y9 a l.length FU t.an6 t.an7 (jy _) (aek xL);rw[h,dF];rw[List.take_length]
 have e:Ty.mk t.an6 t.an7=t:=by cases t;rfl
 rw[e];generalize List.foldr Ty.fn t l=r;cases r;rfl
def We(a b t:Ty):rV t [a,b]=some (.fn a (.fn b t)):=FW t [a,b] LA
def WG(a b c t:Ty):rV t [a,b,c]=some (.fn a (.fn b (.fn c t))):=FW t [a,b,c] LA
def sl:List Ty->dK×dK×dK
 |[]=>(V3,V3,V3)|[a]=>(tf a,V3,V3)|[a,b]=>(tf a,tf b,V3)|a::b::c::_=>(tf a,tf b,tf c)
def Gc(x:dK)(k:Int):jd x k=some (ee x.dL.an6 k):=rfl
def FQ(t:Ty)(k:Int):ee (tf t).dL.an6 k=decide (t.an6=k):=by
 rw[uS];exact Dy _ _
def Gm(s:Ty)(l:List Tm)(i:Int):o8 (.mk 6 i s l)=some (.fn .nat (.fn s s)):=by
 unfold o8;rw[dI LA];simp only[wC,dF];rw[We];rfl
def Fh(s:Ty)(l:List Tm)(i:Int):o8 (.mk 9 i s l)=some (.fn .nat (.fn .iB (.fn s s))):=by
 unfold o8;rw[dO LA];simp only[wC,Nv,dF];rw[WG];rfl
section
variable{s x y z:Ty} {i:Int} {l:List Tm}
def X8(j:x.err=0)(n:y.err=0):gk (.mk 3 i s l) (sl [x,y])=some (Lq (hY 3 s [x,y])):=by
 unfold gk;rw[show jG (Tm.mk 3 i s l).an6=some [] from rfl];simp only[dF];rw[dI LA,dO YQ];simp only[d_,sl,Gc,dF,FQ]
 by_cases d:x.an6=4
 ·obtain⟨a,b,rfl,f,k⟩:=N5 j d;rw[dO YQ,rQ (t:=.fn a b) (x:=a) rfl f];simp only[dF];rw[uT (by have:=e8 f;omega)];simp only[dF]
  by_cases c:a=y
  ·subst c;rw[jS,dI LA,rQ (t:=.fn a b) (x:=b) rfl k,(AX (x:=.fn a b) (y:=a)).1 ⟨rfl,rfl⟩];simp only[dF];rw[show(Ty.fn a b).an7.getD 1 .z=b from rfl,qV]
  ·rw[lV c,dO LA,(AX (x:=.fn a b) (y:=y)).2 (λh=>c h.2),ny Df];rfl
 ·rw[dI (by simpa using d),dO trivial,AX.2 (λh=>d h.1),ny Df];rfl
def Vw(a:x.err=0)(b:y.err=0):gk (.mk 10 i s l) (sl [x,y])=some (Lq (hY 10 s [x,y])):=by
 unfold gk;rw[show jG (Tm.mk 10 i s l).an6=some [] from rfl];simp only[dF];rw[dI LA,dI LA,dI LA,dO YQ];simp only[sl];rw[zS 3 (by have:=e8 a;omega) (by have:=e8 b;omega),OV]
 split
 ·simp only[dN];rw[ny Df]
 ·simp only[dN];rw[qV];rfl
def XV(d:x.err=0):gk (.mk 11 i s l) (sl [x])=some (Lq (hY 11 s [x])):=by
 unfold gk;rw[show jG (Tm.mk 11 i s l).an6=some [] from rfl];simp only[dF];rw[dI LA,dI LA,dI LA,dI LA];simp only[sl,Gc,dF,FQ];rw[PT]
 by_cases c:x.an6=3
 ·obtain⟨a,b,rfl,f,h⟩:=Bi d c;rw[dO YQ,dO YQ,rQ (t:=.pr a b) (x:=a) rfl f,dO (show(Ty.pr a b).an6=3 from rfl)];simp only[dF];rw[show(Ty.pr a b).an7.getD 0 .z=a from rfl,qV]
 ·rw[dI (by simpa using c),dI c,ny Df];rfl
def YM(d:x.err=0):gk (.mk 12 i s l) (sl [x])=some (Lq (hY 12 s [x])):=by
 unfold gk;rw[show jG (Tm.mk 12 i s l).an6=some [] from rfl];simp only[dF];rw[dI LA,dI LA,dI LA,dI LA];simp only[sl,Gc,dF,FQ];rw[O0]
 by_cases c:x.an6=3
 ·obtain⟨a,b,rfl,h,f⟩:=Bi d c;rw[dO YQ,dI LA,rQ (t:=.pr a b) (x:=b) rfl f,dO (show(Ty.pr a b).an6=3 from rfl)];simp only[dF];rw[show(Ty.pr a b).an7.getD 1 .z=b from rfl,qV]
 ·rw[dI (by simpa using c),dI c,ny Df];rfl
end
end Go.fN
namespace Go.fN
open Go
section
variable{s x y z:Ty} {i:Int} {l:List Tm}
def AI{k t:Int}(a:jG k=some [t])(b:Ty.err (.mk t [])=0):gk (.mk k i s l) (sl [])=some (tf (.mk t []),0):=by
 unfold gk;rw[show(Tm.mk k i s l).an6=k from rfl,a,dF,dO (show oC (ey [t]) 0=true by rfl),show Ag [t] 1 (ey [t])=some ([]:List Int)from rfl];simp only[dF,ef (l:=([]:List Int)) LA,dY,d_,oH,eo,eO,kS];rw[lW b];rfl
def Vb:gk (.mk 4 i s l) (sl [])=some (Lq (hY 4 s [])):=AI rfl Ty.fi
def Z3:gk (.mk 7 i s l) (sl [])=some (Lq (hY 7 s [])):=AI rfl Ty.mD
def Wp:gk (.mk 13 i s l) (sl [])=some (Lq (hY 13 s [])):=AI rfl Ty.Jk
def U3(b:x.err=0):gk (.mk 5 i s l) (sl [x])=some (Lq (hY 5 s [x])):=by
 unfold gk;rw[show jG (Tm.mk 5 i s l).an6=some [1,1] from rfl,dF,dO (show oC (ey ([1,1]:List Int)) 0=true by rfl),show Ag ([1,1]:List Int) 1 (ey ([1,1]:List Int))=some [1] from rfl];simp only[dF,ef (l:=([1]:List Int)) LA,dY,d_,sl];rw[fm,dO YQ];simp only[Gc,dF,FQ]
 by_cases a:x.an6=1
 ·have hn:=(vP b).1 a;subst hn;rw[xe YQ,dI Df];simp only[dF,fy,oH,eo,eO,kS];rw[show mP (Ty.mk 1 [])=some (tf .nat)from lW Ty.fi,Ha.1 rfl,qV];rfl
 ·rw[Le a,dO Df,Ha.2 (λh=>a ((vP b).2 h)),ny Df];rfl
def Vh(c:x.err=0)(d:y.err=0):gk (.mk 8 i s l) (sl [x,y])=some (Lq (hY 8 s [x,y])):=by
 unfold gk;rw[show jG (Tm.mk 8 i s l).an6=some [2,1,2] from rfl,dF,dO (show oC (ey ([2,1,2]:List Int)) 0=true by rfl),show Ag ([2,1,2]:List Int) 1 (ey ([2,1,2]:List Int))=some [1,2] from rfl];simp only[dF,ef (l:=([1,2]:List Int)) LA,dY,d_,sl];rw[fm,dO YQ];simp only[Gc,dF,FQ]
 by_cases b:x.an6=1
 ·have hn:=(vP c).1 b;subst hn;rw[xe YQ,dI Df];simp only[dF,fy];rw[fm,dI Df,dO YQ]
  by_cases a:y.an6=2
  ·have hn:=(DF d).1 a;subst hn;rw[xe YQ,dI Df];simp only[dF,fy,oH,eo,eO,kS];rw[show mP (Ty.mk 2 [])=some (tf .iB)from lW Ty.mD,Bf.1 ⟨rfl,rfl⟩,qV];rfl
  ·rw[Le a,dO Df,Bf.2 (λh=>a ((DF d).2 h.2)),ny Df];rfl
 ·rw[Le b,dO Df,Bf.2 (λh=>b ((vP c).2 h.1)),ny Df];rfl
def Zl(hs:s.err=0)(d:x.err=0)(f:y.err=0)(j:z.err=0):gk (.mk 6 i s l) (sl [x,y,z])=some (Lq (hY 6 s [x,y,z])):=by
 unfold gk;rw[show jG (Tm.mk 6 i s l).an6=some [] from rfl];simp only[dF];rw[dI Df,dI LA,dO YQ];simp only[d_,sl,Tm.fw,lW hs,dF];rw[uT (by have:=e8 d;omega)];simp only[dF]
 by_cases a:x=s
 ·subst a;rw[jS,dO rfl,Gm];simp only[dF,uS];rw[pf (by have:=e8 f;omega)];simp only[dF]
  by_cases b:y=.fn .nat (.fn x x)
  ·subst b;rw[jS,dO rfl];simp only[Gc,dF];rw[show e_ (ee (Tm.mk 6 i x l).an6 9) (2:Int) 1=1 from rfl];simp only[FQ]
   by_cases c:z=.nat
   ·subst c;rw[xe YQ,dI Df,wE.1 ⟨rfl,rfl,rfl⟩,qV]
   ·rw[Le (λh=>c ((vP j).1 h)),dO Df,wE.2 (λh=>c h.2.2),ny Df];rfl
  ·rw[lV b,dI Df,dO trivial,wE.2 (λh=>b h.2.1),ny Df];rfl
 ·rw[lV a,dI Df,dO trivial,wE.2 (λh=>a h.1),ny Df];rfl
def Va(hs:s.err=0)(d:x.err=0)(f:y.err=0)(j:z.err=0):gk (.mk 9 i s l) (sl [x,y,z])=some (Lq (hY 9 s [x,y,z])):=by
 unfold gk;rw[show jG (Tm.mk 9 i s l).an6=some [] from rfl];simp only[dF];rw[dI Df,dI LA,dO YQ];simp only[d_,sl,Tm.fw,lW hs,dF];rw[uT (by have:=e8 d;omega)];simp only[dF]
 by_cases a:x=s
 ·subst a;rw[jS,dO rfl,Fh];simp only[dF,uS];rw[pf (by have:=e8 f;omega)];simp only[dF]
  by_cases b:y=.fn .nat (.fn .iB (.fn x x))
  ·subst b;rw[jS,dO rfl];simp only[Gc,dF];rw[show e_ (ee (Tm.mk 9 i x l).an6 9) (2:Int) 1=2 from rfl];simp only[FQ]
   by_cases c:z=.iB
   ·subst c;rw[xe YQ,dI Df,wL.1 ⟨rfl,rfl,rfl⟩,qV]
   ·rw[Le (λh=>c ((DF j).1 h)),dO Df,wL.2 (λh=>c h.2.2),ny Df];rfl
  ·rw[lV b,dI Df,dO trivial,wL.2 (λh=>b h.2.1),ny Df];rfl
 ·rw[lV a,dI Df,dO trivial,wL.2 (λh=>a h.1),ny Df];rfl
end
def st9(p:dK×dK×dK):Int×(List Ty)×Int×Int×(List Ty)×Int×Int×(List Ty)×Int:=
 (p.1.dL.an6,p.1.dL.an7,p.1.an8,p.2.1.dL.an6,p.2.1.dL.an7,p.2.1.an8,p.2.2.dL.an6,p.2.2.dL.an7,p.2.2.an8)
def F_{n:Nat}{g:List Ty}:∀(l:List Tm) (d:List Ty),d.length+l.length<=3->(∀a∈l,eN n (g.map tf) a=some (Lq (a.ty g)))->eV (λ(f:Int) (A:Tm)=>(un9 λ(i:Int) (j:List Ty) (v218:Int) (k:Int) (o:List Ty) (q:Int) (v222:Int) (s:List Ty) (w:Int)=>
   dR (eN n (g.map tf) A) λc x=>
   if(eD x 0) then(
   some (.ret ((dK.mk (Ty.mk 0 []) 0),x)))
   else(if(ee f 0) then(
   some (.next (c.dL.an6,c.dL.an7,c.an8,k,o,q,v222,s,w)))
   else(if(ee f 1) then(
   some (.next (i,j,v218,c.dL.an6,c.dL.an7,c.an8,v222,s,w)))
   else(gh (ee f 2)<|some (.next (i,j,v218,k,o,q,c.dL.an6,c.dL.an7,c.an8)))))):Int->Tm->(Int×(List Ty)×Int×Int×(List Ty)×Int×Int×(List Ty)×Int)->(Option (fV (Int×(List Ty)×Int×Int×(List Ty)×Int×Int×(List Ty)×Int) (dK×Int)))) l d.length (st9 (sl d))=some (match Tm.uK l g with|.inl ts=>.inl (st9 (sl (d++ts)))|.inr e=>.inr (V3,e))
 |[],d,_,_=>by simp[Tm.uK]|a::l,d,B,h=>by
  simp only[oZ] at B;rw[fm,Tm.uK];have D:=h a LA;simp only[st9,un9];rw[D]
  by_cases y:(a.ty g).2=0
  ·rw[y_ y,pU rfl,qV,dN,dI Df];generalize (a.ty g).1=t
   have go:∀C:List Ty,C=d++[t]->(some (fV.next (st9 (sl C))):Option (fV (Int×(List Ty)×Int×Int×(List Ty)×Int×Int×(List Ty)×Int) (dK×Int)))=some (fV.next (st9 (sl (d++[t])))):=λC e=>by rw[e]
   have ih:=F_ l (d++[t]) Xw (λb F=>h b (by simp[F]));rw[qf,oZ,DD] at ih
   have fin:(some (match Tm.uK l g with|.inl ts=>.inl (st9 (sl (d++[t]++ts)))|.inr e=>.inr (V3,e)):Option ((Int×(List Ty)×Int×Int×(List Ty)×Int×Int×(List Ty)×Int)⊕(dK×Int)))=some (match(match Tm.uK l g with|.inl ts=>Sum.inl (t::ts)|.inr e=>Sum.inr e:List Ty⊕Int)with|.inl ts=>.inl (st9 (sl (d++ts)))|.inr e=>.inr (V3,e)):=by
    cases Tm.uK l g with
    |inl ts=>simp|inr e=>rfl
   match d,B with
   |[],_=>
    rw[dO YQ];exact ih.trans fin
   |[u],_=>
    rw[dI LA,dO YQ];exact ih.trans fin
   |[u,v],_=>
    rw[dI LA,dI LA,show ee (([u,v].length:Nat):Int) 2=true from rfl,dY];exact ih.trans fin
   |_::_::_::_,B=>simp at B;omega
  ·rw[pP y];generalize a.ty g=r at y;obtain⟨t,e⟩:=r;simp only at y;rw[ny y,dN,dO (by simpa[eD] using y)];rfl
def acI(p:dK×dK×dK):((dK.mk (Ty.mk p.1.dL.an6 p.1.dL.an7) p.1.an8),(dK.mk (Ty.mk p.2.1.dL.an6 p.2.1.dL.an7) p.2.1.an8),(dK.mk (Ty.mk p.2.2.dL.an6 p.2.2.dL.an7) p.2.2.an8))=p:=by
 have e:∀t:Ty,Ty.mk t.an6 t.an7=t:=λt=>by cases t;rfl
 obtain⟨⟨a,b⟩,⟨c,d⟩,⟨h,f⟩⟩:=p;simp only[e]
def lb{n:Nat}{g:List Ty}{k i:Int}{s:Ty}{l:List Tm}(q:k≠1)(r:k≠2)(t:l.length<=3)(h:∀a∈l,eN n (g.map tf) a=some (Lq (a.ty g)))
  (hn:∀ts,Tm.uK l g=.inl ts->gk (.mk k i s l) (sl ts)=some (Lq (hY k s ts))):eN (n+1) (g.map tf) (.mk k i s l)=some (Lq ((Tm.mk k i s l).ty g)):=by
 rw[eN,dI (by simpa[ee] using q),dI (by simpa[ee] using r),Tm.m7,dI q,dI r];simp only[d_,Tm.ez];rw[ef xL,dY];have f:=F_ l [] (by simpa using t) h;refine(congrArg (λo=>dE o _) f).trans ?_;simp only[dF];cases j:Tm.uK l g with
 |inr e=>
  rw[Sj]
  have he:e≠0:=by
   rcases Ba l g with⟨u,d,c⟩|⟨ts,d,_⟩
   ·rw[j] at c;cases c;exact d
   ·rw[j] at d;cases d
  rw[ny he];rfl
 |inl ts=>
  simp only[p5,eo,ow,st9,un9];rw[acI,hn ts j,show∀p:dK×Int,(dR (some p) λa b=>some (a,b))=some p fromλ_=>rfl]
end Go.fN
namespace Go.fN
open Go
def Ac(g:List Ty)(s:Ty):g.map tf++[tf s]=(g++[s]).map tf:=LA
def ET:∀(n:Nat) (t:Tm),t.an8<=n->t.ok=true->∀g,iz g->g.length+t.an8<=1000000->eN n (g.map tf) t=some (Lq (t.ty g)):=by
 intro n
 induction n with
 |zero=>intro t h;have:=t.eE;omega
 |succ n ih=>
  intro t hn C
  have one:∀{a:Tm} {g:List Ty} {ts:List Ty},a.ok=true->iz g->Tm.uK [a] g=.inl ts->∃x,ts=[x]/\x.err=0:=by
   intro a g ts j hg h;rcases Di j hg with⟨e,_,u⟩|⟨x,u,f⟩<;>rw[h] at u<;>cases u;exact⟨x,rfl,f⟩
  have two:∀{a b:Tm} {g:List Ty} {ts:List Ty},a.ok=true->b.ok=true->iz g->Tm.uK [a,b] g=.inl ts->∃x y,ts=[x,y]/\x.err=0/\y.err=0:=by
   intro a b g ts j k hg h;rcases DI j k hg with⟨e,_,u⟩|⟨x,y,u,f,l⟩<;>rw[h] at u<;>cases u;exact⟨x,y,rfl,f,l⟩
  have three:∀{a b c:Tm} {g:List Ty} {ts:List Ty},a.ok=true->b.ok=true->c.ok=true->iz g->Tm.uK [a,b,c] g=.inl ts->∃x y z,ts=[x,y,z]/\x.err=0/\y.err=0/\z.err=0:=by
   intro a b c g ts j k o hg h;rcases CR j k o hg with⟨e,_,u⟩|⟨x,y,z,u,f,l,v⟩<;>rw[h] at u<;>cases u;exact⟨x,y,z,rfl,f,l,v⟩
  refine Tm.oG (p:=λt=>t.an8<=n+1->∀g,iz g->g.length+t.an8<=1000000->eN (n+1) (g.map tf) t=some (Lq (t.ty g))) ?_ ?_ ?_ ?_ ?_ ?_ ?_ ?_ ?_ ?_ ?_ ?_ ?_ t C hn
  ·intro i _ g hg k;rw[Tm.dJ] at k;rw[eN,dO YQ,Tm.m7,dO rfl];simp only[Tm.hB,gB,Qc]
   by_cases hi:(i:Int)<(g.length:Int)
   ·rw[dI (by simp only[jj];omega),dO hi];rw[fZ (a:=(g.length:Int)) xL xL,fZ xL xL]
    have w:g.length-1-i<g.length:=xL
    have:dX (g.map tf) ((g.length:Int)-1-(i:Int))=some (tf g[g.length-1-i]):=by
     unfold dX;rw[dO xL,show((g.length:Int)-1-(i:Int)).toNat=g.length-1-i by omega,Co,qp w];rfl
    rw[this];simp only[dF,Cm];rw[Tl,qp w];exact congrArg some (qV _).symm
   ·rw[dO (by simp only[jj];omega),dI hi,ny Df];rfl
  ·intro s b hs k hn g hg d;rw[Tm.dJ] at hn d;simp only[eb] at hn d;rw[eN,dI LA,dO YQ,Tm.m7,dI Df,dO rfl,Tm.tyH];simp only[Tm.fw,Tm.ez,lW hs,eO,kS,dF,jn];rw[fR Xw,dY,Ac,ih b xL k (g++[s]) (hg.app hs) Xw];have B:=λh=>(qx _ b (jy _) k (g++[s]) (hg.app hs) (b.ty (g++[s])).1 (y_ h)).2;generalize b.ty (g++[s])=q at B;obtain⟨r,e⟩:=q;simp only[Qx]
   by_cases A:e=0
   ·subst A;have D:r.err=0:=B rfl;have F:=e8 hs;have G:=e8 D;rw[qV,dN,dI Df,dI LA,zS 4 xL xL]
    by_cases o:64<1+s.an8+r.an8
    ·rw[dO o,dO o,ny Df];rfl
    ·rw[dI o,dI o,qV];rfl
   ·rw[ny A,dN,dO (by simpa[eD] using A),dO A,ny A];rfl
  ·intro a b j k hn g hg d;rw[Tm.dJ] at hn d;simp only[eb] at hn d;refine lb Df Df LA (by intro x f;simp at f;rcases f with rfl|rfl<;>first|exact ih _ xL j g hg xL|exact ih _ xL k g hg xL) (λts h=>?_);obtain⟨x,y,rfl,f,l⟩:=two j k hg h;exact X8 f l
  ·intro hn g hg d;exact lb Df Df LA LA (λts h=>by rw[Tm.uK] at h;cases h;exact Vb)
  ·intro a j hn g hg d;rw[Tm.dJ] at hn d;simp only[eb] at hn d;refine lb Df Df LA (by intro x f;simp at f;subst f;exact ih _ xL j g hg xL) (λts h=>?_);obtain⟨x,rfl,f⟩:=one j hg h;exact U3 f
  ·intro s a b c hs j k o hn g hg d;rw[Tm.dJ] at hn d;simp only[eb] at hn d;refine lb Df Df LA (by intro x f;simp at f;rcases f with rfl|rfl|rfl<;>first|exact ih _ xL j g hg xL|exact ih _ xL k g hg xL|exact ih _ xL o g hg xL) (λts h=>?_);obtain⟨x,y,z,rfl,f,l,v⟩:=three j k o hg h;exact Zl hs f l v
  ·intro hn g hg d;exact lb Df Df LA LA (λts h=>by rw[Tm.uK] at h;cases h;exact Z3)
  ·intro a b j k hn g hg d;rw[Tm.dJ] at hn d;simp only[eb] at hn d;refine lb Df Df LA (by intro x f;simp at f;rcases f with rfl|rfl<;>first|exact ih _ xL j g hg xL|exact ih _ xL k g hg xL) (λts h=>?_);obtain⟨x,y,rfl,f,l⟩:=two j k hg h;exact Vh f l
  ·intro s a b c hs j k o hn g hg d;rw[Tm.dJ] at hn d;simp only[eb] at hn d;refine lb Df Df LA (by intro x f;simp at f;rcases f with rfl|rfl|rfl<;>first|exact ih _ xL j g hg xL|exact ih _ xL k g hg xL|exact ih _ xL o g hg xL) (λts h=>?_);obtain⟨x,y,z,rfl,f,l,v⟩:=three j k o hg h;exact Va hs f l v
  ·intro a b j k hn g hg d;rw[Tm.dJ] at hn d;simp only[eb] at hn d;refine lb Df Df LA (by intro x f;simp at f;rcases f with rfl|rfl<;>first|exact ih _ xL j g hg xL|exact ih _ xL k g hg xL) (λts h=>?_);obtain⟨x,y,rfl,f,l⟩:=two j k hg h;exact Vw f l
  ·intro a j hn g hg d;rw[Tm.dJ] at hn d;simp only[eb] at hn d;refine lb Df Df LA (by intro x f;simp at f;subst f;exact ih _ xL j g hg xL) (λts h=>?_);obtain⟨x,rfl,f⟩:=one j hg h;exact XV f
  ·intro a j hn g hg d;rw[Tm.dJ] at hn d;simp only[eb] at hn d;refine lb Df Df LA (by intro x f;simp at f;subst f;exact ih _ xL j g hg xL) (λts h=>?_);obtain⟨x,rfl,f⟩:=one j hg h;exact YM f
  ·intro hn g hg d;exact lb Df Df LA LA (λts h=>by rw[Tm.uK] at h;cases h;exact Wp)
def sV{t:Tm}{g:List Ty}(a:t.ok=true)(hg:iz g)(b:g.length+t.an8<=1000000):eN FU (g.map tf) t=some (Lq (t.ty g)):=
 ET FU t (by have:=fI;omega) a g hg b
noncomputable def nU (t:Tm) (g:List Ty) (k:Int):Int:=if(t.ty g).2=0/\(t.ty g).1.an6≠k then 7 else(t.ty g).2
def KH{t:Tm}{g:List Ty}(k:Int)(c:t.ok=true)(hg:iz g)(d:g.length+t.an8<=1000000):kP (g.map tf) t k=some (nU t g k):=by
 unfold kP nU;rw[sV c hg d];generalize t.ty g=q;obtain⟨r,e⟩:=q
 by_cases a:e=0
 ·subst a;rw[qV,dN];simp only[d_];rw[dO YQ,Gc,dF,FQ]
  by_cases b:r.an6=k
  ·rw[xe b,dI Df,dI (λh=>h.2 b)]
  ·rw[Le b,dO Df,dO ⟨trivial,b⟩]
 ·rw[ny a,dN];simp only[d_];rw[dI (by simpa[ee] using a),dI Df,dI (λh=>a h.1)]
def xU{t:Tm}{g:List Ty}(a:t.ok=true)(hg:iz g)(b:g.length+t.an8<=1000000):iP (g.map tf) t=some (nU t g 1):=by
 unfold iP;rw[KH 1 a hg b];rfl
mutual
noncomputable def Fm.uQ:Fm->List Ty->Int
 |.mk k s ts l,g=>if ft (ts.map λt=>nU t g 1)=0 then Fm.XA l (if h9 k then g++[s] else g)else ft (ts.map λt=>nU t g 1)
noncomputable def Fm.XA:List Fm->List Ty->Int
 |[],_=>0|f::l,g=>if f.uQ g=0 then Fm.XA l g else f.uQ g
end
def Fm.T5(g:List Ty):∀l:List Fm,Fm.XA l g=ft (l.map λf=>f.uQ g)
 |[]=>by rw[Fm.XA];rfl|f::l=>by rw[Fm.XA,Fm.T5 g l];rfl
def Fm.tV(k:Int)(s:Ty)(ts:List Tm)(l:List Fm)(g:List Ty):(Fm.mk k s ts l).uQ g=if ft (ts.map λt=>nU t g 1)=0 then ft (l.map λf=>f.uQ (if h9 k then g++[s] else g))else ft (ts.map λt=>nU t g 1):=by
 rw[Fm.uQ,Fm.T5]
def zD{t:Tm}{g:List Ty}(a:t.ok=true)(hn:t.an8<=4096)(hg:iz g)(b:g.length<=900000):pK g t=some (t.ty g):=by
 unfold pK;have hw:=t.iD a;rw[k4 xL]
 have he:t.err=0:=by unfold Tm.err;rw[dO a,dI xL]
 rw[he];simp only[dF];rw[dI Df,zJ FU t (by have:=fI;omega) a g hg xL];rfl
def Lp{t:Tm}{g:List Ty}(f:t.ok=true)(hn:t.an8<=4096)(hg:iz g)(i:g.length<=900000):(dR (pK g t) λd a=>if(eD a 0) then(some (.ret a))else(if(eD d.an6 1) then(some (.ret 7))else(some (.next ()))):Option (fV Unit Int))=
   if nU t g 1≠0 then some (.ret (nU t g 1))else some (.next ()):=by
 rw[zD f hn hg i];unfold nU;generalize t.ty g=q;obtain⟨r,e⟩:=q;simp only[dN,er]
 by_cases b:e=0
 ·subst b
  by_cases c:r.an6=1
  ·rw[dI LA,dI (by simp[c]),dI (show¬((0:Int)=0/\r.an6≠1)fromλh=>h.2 c),dI LA]
  ·rw[dI LA,dO c,dO (show(0:Int)=0/\r.an6≠1 from⟨rfl,c⟩),dO Df]
 ·rw[dO b,dI (show¬(e=0/\r.an6≠1)fromλh=>b h.1),dO b]
def sm{e:Int}:(dE (some e) λa=>if(eD a 0) then(some (.ret a))else(some (.next ())):Option (fV Unit Int))=if e≠0 then some (.ret e)else some (.next ()):=by
 rw[dF]
 by_cases h:e=0
 ·subst h;rfl
 ·rw[dO (by simpa[eD] using h),dO h]
def vH{l:List Int}{k:Unit⊕Int->Option Int}(h:k=fG (λ_=>some 0) (λr=>some r)):dE (if ft l=0 then some (.inl ())else some (.inr (ft l))) k=some (ft l):=by
 subst h
 by_cases h:ft l=0
 ·rw[dO h,h];rfl
 ·rw[dI h];rfl
def zF(f:Fm)(w:f.ok=true):∀n,f.an8<=n->∀g,iz g->g.length+f.an8<=900000->f.an8<=4096->mT n g f=some (f.uQ g):=by
 refine Fm.oG (p:=λf=>∀n,f.an8<=n->∀g,iz g->g.length+f.an8<=900000->f.an8<=4096->mT n g f=some (f.uQ g)) ?_ ?_ ?_ f w
 ·intro a b o v n hn g hg c d;rw[Fm.dJ] at hn c d;simp only[eb] at hn c d;obtain⟨n,rfl⟩:∃m,n=m+1:=⟨n-1,xL⟩;rw[mT,Fm.tV];simp only[d_,Fm.h8,Fm.ez,Fm.eF,lR,dF]
  rw[ef LA,dY,mC (λt=>nU t g 1) [a,b] 0 (λj x i=>by
   simp only[lX,V0,r8] at i;rcases i with rfl|rfl
   ·exact Lp o xL hg xL
   ·exact Lp v xL hg xL)]
  rw[show h9 1=false from rfl]
  by_cases h:ft ([a,b].map λt=>nU t g 1)=0
  ·rw[dO h,dO h];rfl
  ·rw[dI h,dI h];rfl
 ·intro k a b q o v l r n hn g hg c d;rw[Fm.dJ] at hn c d;simp only[eb] at hn c d;obtain⟨n,rfl⟩:∃m,n=m+1:=⟨n-1,xL⟩
  have u:h9 k=false:=by rcases q with rfl|rfl<;>rfl
  rw[mT,Fm.tV];simp only[d_,Fm.h8,Fm.ez,Fm.eF,lR,dF,u,mq,ft]
  rw[ef LA,dY,oH,dF,eo,dI Df,dO trivial,ef LA,dY,mC (λf=>f.uQ g) [a,b] 0 (λj x i=>by
   simp only[lX,V0,r8] at i;rcases i with rfl|rfl
   ·rw[l n xL g hg xL xL];exact sm
   ·rw[r n xL g hg xL xL];exact sm)]
  exact vH rfl
 ·intro k s a q hs o l n hn g hg c d;rw[Fm.dJ] at hn c d;simp only[eb] at hn c d;obtain⟨n,rfl⟩:∃m,n=m+1:=⟨n-1,xL⟩
  have u:h9 k=true:=by rcases q with rfl|rfl|rfl|rfl<;>rfl
  rw[mT,Fm.tV];simp only[d_,Fm.h8,Fm.ez,Fm.eF,Fm.fw,lR,dF,u,mq,ft];rw[ef LA,dY,oH,dF,eo];simp only[if_true]
  rw[fR Xw,dY,jn,ef LA,dY,mC (λf=>f.uQ (g++[s])) [a] 0 (λj x i=>by
   simp only[lX,V0,r8] at i;subst i
   rw[l n xL (g++[s]) (hg.app hs) Xw xL];exact sm)]
  exact vH rfl
def AP{g:List Ty}{s:Ty}(hs:s.err=0)(a:g.length<=900000):iM (g.map tf) [s]=some ((g++[s]).map tf):=by
 unfold iM mZ;simp only[d_];rw[ef LA,dY,fm,lW hs];simp only[dF];rw[fR LA,dY];simp only[dF,fy,oH,eo,jn,p5];rw[fR Xw,dY,Ac]
def Gd{t:Tm}{g:List Ty}(b:t.ok=true)(hn:t.an8<=4096)(hg:iz g)(c:g.length<=900000):(dE (iP (g.map tf) t) λa=>if(eD a 0) then(some (.ret a))else(some (.next ())):Option (fV Unit Int))=if nU t g 1≠0 then some (.ret (nU t g 1))else some (.next ()):=by
 rw[xU b hg xL];exact sm
def Ei(f:Fm)(C:f.ok=true):∀n,f.an8<=n->∀g,iz g->g.length+f.an8<=900000->f.an8<=4096->fc n (g.map tf) f=some (f.uQ g):=by
 refine Fm.oG (p:=λf=>∀n,f.an8<=n->∀g,iz g->g.length+f.an8<=900000->f.an8<=4096->fc n (g.map tf) f=some (f.uQ g)) ?_ ?_ ?_ f C
 ·intro a b v A n hn g hg c d;rw[Fm.dJ] at hn c d;simp only[eb] at hn c d;obtain⟨n,rfl⟩:∃m,n=m+1:=⟨n-1,xL⟩;rw[fc,Fm.tV];simp only[d_,Fm.h8,Fm.ez]
  rw[dI LA,dI LA,dI LA,ef LA,dY,mC (λt=>nU t g 1) [a,b] 0 (λj x i=>by
   simp only[lX,V0,r8] at i;rcases i with rfl|rfl
   ·exact Gd v xL hg xL
   ·exact Gd A xL hg xL)]
  rw[vH rfl]
  by_cases h:ft ([a,b].map λt=>nU t g 1)=0
  ·rw[dO h,h];rfl
  ·rw[dI h]
 ·intro k a b o v A q w n hn g hg c d;rw[Fm.dJ] at hn c d;simp only[eb] at hn c d;obtain⟨n,rfl⟩:∃m,n=m+1:=⟨n-1,xL⟩
  have y:h9 k=false:=by rcases o with rfl|rfl<;>rfl
  have D:e_ (ee k 4) true (ee k 5)=false:=by rcases o with rfl|rfl<;>rfl
  have k2:e_ (ee k 6) true (ee k 7)=false:=by rcases o with rfl|rfl<;>rfl
  have F:e_ (ee k 2) true (ee k 3)=true:=by rcases o with rfl|rfl<;>rfl
  rw[fc,Fm.tV];simp only[d_,Fm.h8,Fm.ez,y,mq,ft];rw[dI (by simp only[Fm.eF,D];decide),dI (by simp only[Fm.eF,k2];decide),dO (by simp only[Fm.eF,F])];simp only[if_true,qU,lU]
  rw[ef LA,dY,mC (λf=>f.uQ g) [a,b] 0 (λj x i=>by
   simp only[lX,V0,r8] at i;rcases i with rfl|rfl
   ·rw[q n xL g hg xL xL];exact sm
   ·rw[w n xL g hg xL xL];exact sm)]
  exact vH rfl
 ·intro k s a o hs v q n hn g hg c d;rw[Fm.dJ] at hn c d;simp only[eb] at hn c d;obtain⟨n,rfl⟩:∃m,n=m+1:=⟨n-1,xL⟩
  have y:h9 k=true:=by rcases o with rfl|rfl|rfl|rfl<;>rfl
  rw[fc,Fm.tV];simp only[d_,Fm.h8,Fm.ez,Fm.fw,y,mq,ft,AP hs (show g.length<=900000 by omega),dF,if_true]
  have fin:(gh (eM [a])<|dE (eV (λ(B:Int) (u:Fm)=>(λ(_:Unit)=>
    dE (fc n ((g++[s]).map tf) u) λl=>
    if(eD l 0) then(
    some (.ret l))
    else(some (.next ()))):Int->Fm->(Unit)->(Option (fV (Unit) (Int)))) [a] 0 ()) (fG (λ(_:Unit)=>some 0) (λr=>some r)))=some (ft ([a].map λf=>f.uQ (g++[s]))):=by
   rw[ef LA,dY,mC (λf=>f.uQ (g++[s])) [a] 0 (λj x i=>by
    simp only[lX,V0,r8] at i;subst i
    rw[q n xL (g++[s]) (hg.app hs) Xw xL];exact sm)]
   exact vH rfl
  rcases o with rfl|rfl|rfl|rfl
  ·rw[dO LA];exact fin
  ·rw[dO LA];exact fin
  ·rw[dI LA,dO LA];exact fin
  ·rw[dI LA,dO LA];exact fin
mutual
def Fm.up(f b:Int):Fm->Fm
 |.mk k s ts l=>.mk k s (ts.map (Tm.up f b)) (Fm.upL (f+qB k) b l)
def Fm.upL(f b:Int):List Fm->List Fm
 |[]=>[]|t::l=>t.up f b::Fm.upL f b l
end
def Fm.Rw(f b:Int)(l:List Fm):Fm.upL f b l=l.map (Fm.up f b):=by
 induction l with
 |nil=>rfl|cons t l ih=>simp[Fm.upL,ih]
theorem Fm.fh(f b k:Int)(s:Ty)(ts:List Tm)(l:List Fm):(Fm.mk k s ts l).up f b=.mk k s (ts.map (Tm.up f b)) (l.map (Fm.up (f+qB k) b)):=by rw[Fm.up,Fm.Rw]
mutual
def Fm.aoa(m:Int):Fm->Bool
 |.mk _ _ ts l=>ts.all (Tm.aoa m)&&Fm.tQ m l
def Fm.tQ(m:Int):List Fm->Bool
 |[]=>true|t::l=>t.aoa m&&Fm.tQ m l
end
def Fm.FD(m:Int)(l:List Fm):Fm.tQ m l=l.all (Fm.aoa m):=by
 induction l with
 |nil=>rfl|cons t l ih=>simp[Fm.tQ,ih]
theorem Fm.fD(m k:Int)(s:Ty)(ts:List Tm)(l:List Fm):(Fm.mk k s ts l).aoa m=(ts.all (Tm.aoa m)&&l.all (Fm.aoa m)):=by rw[Fm.aoa,Fm.FD]
mutual
def Fm.aoc(a:Int):Fm->Nat
 |.mk k _ ts l=>eb (Tm.aoc a) ts+Fm.yb (a+qB k) l
def Fm.yb(a:Int):List Fm->Nat
 |[]=>0|t::l=>t.aoc a+Fm.yb a l
end
def Fm.Fc(a:Int)(l:List Fm):Fm.yb a l=eb (Fm.aoc a) l:=by
 induction l with
 |nil=>rfl|cons t l ih=>simp[Fm.yb,eb,ih]
def Fm.fg(a k:Int)(s:Ty)(ts:List Tm)(l:List Fm):(Fm.mk k s ts l).aoc a=eb (Tm.aoc a) ts+eb (Fm.aoc (a+qB k)) l:=by rw[Fm.aoc,Fm.Fc]
mutual
def Fm.fQ:Int->Fm->Tm->Fm
 |n,.mk k ty ts l,s=>.mk k ty (ts.map λx=>Tm.fQ n x s) (Fm.Gv (n+qB k) l s)
def Fm.Gv:Int->List Fm->Tm->List Fm
 |_,[],_=>[]|n,t::l,s=>Fm.fQ n t s::Fm.Gv n l s
end
def Fm.NB(n:Int)(s:Tm)(l:List Fm):Fm.Gv n l s=l.map (λx=>Fm.fQ n x s):=by
 induction l with
 |nil=>rfl|cons t l ih=>simp[Fm.Gv,ih]
theorem Fm.eI(n:Int)(s:Tm)(k:Int)(ty:Ty)(ts:List Tm)(l:List Fm):Fm.fQ n (Fm.mk k ty ts l) s=.mk k ty (ts.map λx=>Tm.fQ n x s) (l.map λx=>Fm.fQ (n+qB k) x s):=by rw[Fm.fQ,Fm.NB]
def Fm.ku(t:Fm):∀a,t.aoc a<=t.an8:=by
 induction t using Fm.ind with
 |h k s ts l ih=>
  intro a;rw[Fm.fg,Fm.dJ];have:=kG (f:=Fm.aoc (a+qB k)) (g:=Fm.an8) (l:=l) λx b=>ih x b _;have:=kG (f:=Tm.aoc a) (g:=Tm.an8) (l:=ts) λx _=>x.ku _;omega
theorem Fm.kH(t:Fm):∀f b,(t.up f b).an8=t.an8:=by
 induction t using Fm.ind with
 |h k s ts l ih=>
  intro f b;rw[Fm.fh,Fm.dJ,Fm.dJ,pI,pI,vI λx a=>ih x a _ _,vI λx _=>Tm.kH x f b]
theorem Fm.Ix(t:Fm):∀f b,0<=f->0<=b->(t.up f b).ok=t.ok:=by
 induction t using Fm.ind with
 |h k s ts l ih=>
  intro f b c a;have:=tG k;rw[Fm.fh,Fm.gR,Fm.gR,Qc,Qc,wU λx d=>ih x d (f+qB k) b xL a,wU λx _=>Tm.Ix x f b c a]
def O_{α:Type}{a b c:α->Nat}{m:Nat}{l:List α}(h:∀x∈l,a x+b x=c x+b x*m):eb a l+eb b l=eb c l+eb b l*m:=by
 induction l with
 |nil=>simp[eb]|cons y l ih=>
  have f:=h y LA;have i:=ih λx d=>h x (by simp[d]);simp only[eb,CQ];omega
def Fm.xf(s:Tm)(t:Fm):∀n,t.ok=true->(Fm.fQ n t s).an8+t.aoc n=t.an8+t.aoc n*s.an8:=by
 induction t using Fm.ind with
 |h k ty ts l ih=>
  intro n d;rw[Fm.gR] at d;simp only[gE,kE] at d;rw[Fm.eI,Fm.fg,Fm.dJ,Fm.dJ,pI,pI,CQ];have i:=O_ (l:=ts) (a:=λx=>(Tm.fQ n x s).an8) (b:=Tm.aoc n) (c:=Tm.an8) (m:=s.an8) λx f=>Tm.xf s x n (d.1.2 x f);have j:=O_ (l:=l) (a:=λx=>(Fm.fQ (n+qB k) x s).an8) (b:=Fm.aoc (n+qB k)) (c:=Fm.an8) (m:=s.an8) λx f=>ih x f _ (d.2 x f);omega
def Dj{t:Tm}(m:Int)(h:t.an8<=1000000000):k8 FU t m=some (t.aoa m):=Ai FU t m (by rw[fI];exact h) h
def HU:∀(n:Nat) (t:Fm) (m:Int),t.an8<=n->t.an8<=1000000000->oe n t m=some (t.aoa m):=by
 intro n
 induction n with
 |zero=>intro t m h;have:=t.eE;omega
 |succ n ih=>
  intro t m h c;cases t with
  |mk k s ts l=>
   rw[Fm.dJ] at h c;have i:=Fm.fF l;have d:=Tm.fF ts
   have f:eV (ρ:=Bool) (λ(_:Int) (x:Tm) (_:Unit)=>dE (k8 FU x m) λa=>if a then some (fV.next ())else some (fV.ret false)) ts 0 ()=if ts.all (Tm.aoa m) then some (.inl ())else some (.inr false):=by
    refine qK (Tm.aoa m) _ ts 0 ?_;intro j x b;have:=ew Tm.an8 b;rw[Dj m xL];rfl
   have k2:eV (ρ:=Bool) (λ(_:Int) (x:Fm) (_:Unit)=>dE (oe n x m) λa=>if a then some (fV.next ())else some (fV.ret false)) l 0 ()=if l.all (Fm.aoa m) then some (.inl ())else some (.inr false):=by
    refine qK (Fm.aoa m) _ l 0 ?_;intro j x b;have:=ew Fm.an8 b;rw[ih x m xL xL];rfl
   rw[oe];simp only[Fm.ez,Fm.h8,d_,ef (l:=l) xL,ef (l:=ts) xL,dY,f,k2,Fm.fD];cases o:ts.all (Tm.aoa m)<;>cases q:l.all (Fm.aoa m)<;>simp
def Ge:∀(n:Nat) (t:Fm) (f b:Int),t.an8<=n->t.an8<=1000000000->0<=f->f+t.an8<=10000000000->0<=b->b<=10000000000->t.aoa 1000000000000=true->im n t f b=some (t.up f b):=by
 intro n
 induction n with
 |zero=>intro t f b h;have:=t.eE;omega
 |succ n ih=>
  intro t f b h d r i q a hi;cases t with
  |mk k s ts l=>
   rw[Fm.dJ] at h d i;rw[Fm.fD] at hi;simp only[gE,kE] at hi;have w:=Fm.fF l;have u:=Tm.fF ts;have y:=tG k;rw[im];simp only[Fm.ez,Fm.h8,Fm.eF,Fm.fw,d_,ef (l:=l) xL,ef (l:=ts) xL,dY];rw[jX (Tm.up f b) ts 0 [] Xw]
   ·simp only[dF,eo];rw[jX (Fm.up (f+qB k) b) l 0 [] Xw]
    ·simp[Fm.fh]
    ·intro j x v c o;have:=ew Fm.an8 c;rw[ph];simp only[dF,Fm.eF];rw[fW xL xL,ih x (f+qB k) b xL xL xL xL q a (hi.2 x c)];simp[fR (l:=v) (m:=[x.up (f+qB k) b]) (by simpa using o)]
   ·intro j x v c o;have:=ew Tm.an8 c;rw[FR FU x f b (by rw[fI];omega) xL r xL q a (hi.1 x c)];simp[fR (l:=v) (m:=[x.up f b]) (by simpa using o)]
def Jz:∀(n:Nat) (t:Fm) (a:Int),t.an8<=n->t.an8<=1000000000->0<=a->a+t.an8<=10000000000->pH n t a=some (t.aoc a:Int):=by
 intro n
 induction n with
 |zero=>intro t a h;have:=t.eE;omega
 |succ n ih=>
  intro t a h c o d;cases t with
  |mk k s ts l=>
   rw[Fm.dJ] at h c d;have w:=Fm.fF l;have q:=Tm.fF ts;have A:=tG k;have r:eb (Fm.aoc (a+qB k)) l<=eb Fm.an8 l:=kG λx _=>x.ku _;have i:eb (Tm.aoc a) ts<=eb Tm.an8 ts:=kG λx _=>x.ku _;rw[pH];simp only[Fm.ez,Fm.h8,Fm.eF,d_,ef (l:=l) xL,ef (l:=ts) xL,dY]
   have u:=po (ρ:=Int) (F:=λ(_:Int) (x:Tm) (v:Int)=>dE (mU FU x a) λy=>some (fV.next (eL .i64 v y))) (Tm.aoc a) ts 0 0 xL (by
    intro j x v f;have:=ew Tm.an8 f;rw[z' FU x a (by rw[fI];omega) xL o xL]
    rfl)
   have k2:=po (ρ:=Int) (F:=λ(_:Int) (x:Fm) (v:Int)=>dE (mW (Fm.mk k s ts l)) λb=>dE (pH n x (eL .i64 a b)) λy=>some (fV.next (eL .i64 v y))) (Fm.aoc (a+qB k)) l 0 (0+eb (Tm.aoc a) ts) xL (by
    intro j x v f;have:=ew Fm.an8 f;rw[ph];simp only[dF,Fm.eF];rw[fW xL xL,ih x _ xL xL xL xL]
    rfl)
   rw[show(0:Int)=((0:Nat):Int)from rfl,u];simp only[dF,eo];rw[k2];simp[Fm.fg]
def Ra:∀(n:Nat) (t:Fm) (a b:Int) (s:Tm),t.an8<=n->t.an8<=1000000000->0<=a->0<=b->a+b+t.an8<=5000000000->t.aoa 1000000000000=true->t.ok=true->s.an8<=1000000000->s.aoa 1000000000000=true->xd n t a b s=some (Fm.fQ (a+b) t s):=by
 intro n
 induction n with
 |zero=>intro t a b s h;have:=t.eE;omega
 |succ n ih=>
  intro t a b s h i r u o hi c hs f;cases t with
  |mk k ty ts l=>
   rw[Fm.dJ] at h i o;rw[Fm.fD] at hi;rw[Fm.gR] at c;simp only[gE,kE] at hi c;have y:=Fm.fF l;have w:=Tm.fF ts;have A:=tG k;rw[xd];simp only[Fm.ez,Fm.h8,Fm.eF,Fm.fw,d_,ef (l:=l) xL,ef (l:=ts) xL,dY];rw[jX (λx=>Tm.fQ (a+b) x s) ts 0 [] Xw]
   ·simp only[dF,eo];rw[jX (λx=>Fm.fQ (a+b+qB k) x s) l 0 [] Xw]
    ·simp[Fm.eI]
    ·intro j x v d q;have:=ew Fm.an8 d;rw[ph];simp only[dF,Fm.eF];rw[fW xL xL,ih x a (b+qB k) s xL xL r xL xL (hi.2 x d) (c.2 x d) hs f];rw[show a+(b+qB k)=a+b+qB k by omega];simp[fR (l:=v) (m:=[Fm.fQ (a+b+qB k) x s]) (by simpa using q)]
   ·intro j x v d q;have:=ew Tm.an8 d;rw[FJ FU x a b s (by rw[fI];omega) xL r u xL (hi.1 x d) (c.1.2 x d) hs f];simp[fR (l:=v) (m:=[Tm.fQ (a+b) x s]) (by simpa using q)]
def Fm.o7(t:Fm):∀{m n:Int},m<=n->t.aoa m=true->t.aoa n=true:=by
 induction t using Fm.ind with
 |h k s ts l ih=>
  intro m n a h;rw[Fm.fD] at*;simp only[gE,kE] at*;exact⟨λx b=>Tm.o7 x a (h.1 x b),λx b=>ih x b a (h.2 x b)⟩
def ic.aoa{g:List Ty}{f:Fm}(h:ic g f):∀m:Int,((g.length+f.an8:Nat):Int)<=m->f.aoa m=true:=by
 induction h with
 |eq c d=>
  intro m hm;simp only[Fm.dJ,eb] at hm;simp only[Fm.fD,Fu,U7,KV,gE];exact⟨c.aoa m xL,d.aoa m xL⟩
 |two _ _ _ a b=>
  intro m hm;simp only[Fm.dJ,eb] at hm;simp only[Fm.fD,Fu,U7,KV,gE,Cp];exact⟨a m xL,b m xL⟩
 |q _ _ _ ih=>
  intro m hm;simp only[Fm.dJ,eb] at hm;simp only[Fm.fD,Fu,U7,KV,Cp];exact ih m Xw
def Tm.Hm(φ:Int->Int->Tm)(b:Int):Tm->Tm
 |.mk k i s l=>if k=1 then φ i b else .mk k i s (l.attach.map λx=>Tm.Hm φ (b+eP k) x.1)
decreasing_by
 have:=agq x.2;simp only[Tm.mk.sizeOf_spec];omega
def Tm.zZ(φ:Int->Int->Tm)(b k i:Int)(s:Ty)(l:List Tm):(Tm.mk k i s l).Hm φ b=if k=1 then φ i b else .mk k i s (l.map (Tm.Hm φ (b+eP k))):=by
 rw[Tm.Hm]
 congr 2
 exact akw
def xx(k b:Int)(a:-1000000000000<=b)(c:b<=1000000000000):e_ (ee k 2) (eL .i64 b 1) b=b+eP k:=by
 unfold eP
 by_cases h:k=2
 ·subst h;rw[show ee 2 2=true from rfl,dO rfl];exact fW xL xL
 ·rw[show ee k 2=false by simpa[ee] using h,dI h];show b=b+0;omega
def wF{h:Int->Int->Option Tm}{φ:Int->Int->Tm}{M:Int}(D:∀i b,0<=i->i<=M->0<=b->b<=10000000000->h i b=some (φ i b)):∀(n:Nat) (t:Tm) (b:Int),t.an8<=n->t.an8<=50000000->t.ok=true->t.aoa M=true->0<=b->b+t.an8<=10000000000->hQ n t b (λ(s:Unit) (q:Int) (r:Int)=>qv (h q r) s) ()=some (t.Hm φ b,()):=by
 intro n
 induction n with
 |zero=>intro t b h;have:=t.eE;omega
 |succ n ih=>
  intro t b hn F w x G y;cases t with
  |mk k i s l=>
   rw[Tm.dJ] at hn F y;have hlen:=Tm.fF l;have f:=w;rw[Tm.gR,gE] at w;have H:=Ty.B2 w.1;rw[Tm.fD,gE,SJ,kE] at x;rw[hQ,Tm.zZ]
   by_cases A:k=1
   ·subst A;have hi:=(Tm.pe f).2.1;rw[dO YQ,dO rfl];simp only[Tm.hB];rw[D i b hi x.1 G xL,FV,dN]
   ·rw[dI (by simpa[ee] using A),dI A];simp only[Tm.fw,Tm.ez,Tm.eF,Tm.hB,d_];rw[sZ xL,dF,ef xL,dY,xx k b xL xL];have I:=iY k
    have loop:∀(ts:List Tm) (j:Nat) (v:List Tm),(∀t∈ts,t∈l)->v.length+ts.length<=50000000->eV (λ(J:Int) (B:Tm)=>(uF λ(a:List Tm) (v107:Unit)=>
       dR (hQ n B (b+eP k) (λ(s:Unit) (q:Int) (r:Int)=>qv (h q r) s) v107) λc o=>
       gh (fK a [c])<|some ((.next ((fT a [c]),o)):fV ((List Tm)×Unit) (Tm×Unit)))) ts j (v,())=some (.inl (v++ts.map (Tm.Hm φ (b+eP k)),())):=by
     intro ts
     induction ts with
     |nil=>intro j v _ _;simp|cons t ts C=>
      intro j v hm K;simp only[oZ] at K;have d:=hm t LA;have L:=ew Tm.an8 d;rw[fm];simp only[uF];rw[ih t (b+eP k) xL xL ((Tm.pe f).2.2.2.1 t d) (x.2 t d) xL xL,dN,fR Xw,dY];simp only[dF,fy];rw[jn];have:=C (j+1) (v++[t.Hm φ (b+eP k)]) (λu hu=>hm u (by simp[hu])) Xw;rw[this];simp
    rw[loop l 0 [] (λt h=>h) Xw,dF];simp
structure Bd (t:Tm):Prop where
 ok:t.ok=true
 aoa:t.aoa 1000000000000=true
 an8:t.an8<=50000000
def Tm.SV(f c:Int)(q:0<=f):∀(t:Tm) (b:Int),0<=b->t.ok=true->t.Hm (λi b=>.mk 1 (if f<=i-b then i+c else i) (.mk 0 []) []) b=t.up (f+b) c:=by
 intro t
 induction t using Tm.ind with
 |h k i s l ih=>
  intro b r a;have hi:=Tm.pe a;rw[Tm.zZ,Tm.fh]
  by_cases d:k=1
  ·subst d;rw[dO rfl]
   have n:l=[]:=by
    have:=hi.2.2.2.2;unfold gI at this;rw[dO (.inl rfl)] at this;exact BG xL
   have hs:s=.mk 0 []:=by
    rw[Tm.gR] at a;simp only[Tm.node,gE] at a;have:=a.1.2;rw[dI Df] at this;exact(Ty.mO s).1 this
   subst n;subst hs;simp only[mq,zX]
   congr 1
   by_cases h:f+b<=i
   ·rw[dO h,dO xL]
   ·rw[dI h,dI xL]
  ·rw[dI d,dI (λh=>d h.1)];have o:=iY k
   congr 1
   exact uy λx j=>by rw[ih x j (b+eP k) xL (hi.2.2.2.1 x j),show f+(b+eP k)=f+b+eP k by omega]
def Dd{t:Tm}{f c:Int}(h:Bd t)(d:0<=f)(j:f<=10000000000)(q:0<=c)(k:c<=10000000000):sR t f c=some (t.up f c):=by
 unfold sR p0;rw[wF (h:=λl n=>tn l n f c) (φ:=λi b=>.mk 1 (if f<=i-b then i+c else i) (.mk 0 []) []) (M:=1000000000000) (λi b r s u v=>?_) FU t 0 (by have:=fI;have:=h.an8;omega) h.an8 h.ok h.aoa xL (by have:=h.an8;omega)]
 ·rw[dN,dN,Tm.SV f c d t 0 xL h.ok,show f+0=f by omega]
 ·unfold tn jx;simp only[dF];rw[fZ xL xL,fW xL xL]
  by_cases a:f<=i-b
  ·rw[dO a,show qn (i-b) f=true by rw[jj];exact a];rfl
  ·rw[dI a,show qn (i-b) f=false by
    cases o:qn (i-b) f with
    |false=>rfl|true=>exact absurd ((jj _ _).1 o) a];rfl
def qR(k:Int):mQ k=some (h9 k):=by
 unfold mQ h9;rw[yf];simp only[qn,UD,wc];rw[<-Bool.decide_and];exact Gr.2 (by simp only[SJ];omega)
def Fm.qt{k:Int}{s:Ty}{ts:List Tm}{l:List Fm}(h:(Fm.mk k s ts l).ok=true):s.an8<=64/\(∀t∈ts,t.ok=true)/\(∀f∈l,f.ok=true):=by
 rw[Fm.gR] at h;simp only[gE,kE] at h;refine⟨?_,h.1.2,h.2⟩;have hn:=h.1.1;unfold Fm.node at hn
 split at hn
 ·simp only[gE] at hn;rw[(Ty.mO s).1 hn.1.1,Ty.dJ];simp[eb]
 ·split at hn
  ·simp only[gE] at hn;rw[(Ty.mO s).1 hn.1.1,Ty.dJ];simp[eb]
  ·simp only[gE,oz] at hn;exact e8 hn.1.1.2
def Fm.Hm(ψ:Tm->Int->Tm)(b:Int):Fm->Fm
 |.mk k s ts l=>.mk k s (ts.map λt=>ψ t b) (l.attach.map λx=>Fm.Hm ψ (b+qB k) x.1)
decreasing_by
 have:=agq x.2;simp only[Fm.mk.sizeOf_spec];omega
def Fm.zZ(ψ:Tm->Int->Tm)(b k:Int)(s:Ty)(ts:List Tm)(l:List Fm):(Fm.mk k s ts l).Hm ψ b=.mk k s (ts.map λt=>ψ t b) (l.map (Fm.Hm ψ (b+qB k))):=by
 rw[Fm.Hm]
 congr 1
 exact akw
def oq{h:Tm->Int->Option Tm}{ψ:Tm->Int->Tm}(P:∀t b,Bd t->0<=b->b<=1000000000->h t b=some (ψ t b)):∀(n:Nat) (f:Fm) (b:Int),f.an8<=n->f.an8<=50000000->f.ok=true->f.aoa 1000000000000=true->0<=b->b+f.an8<=1000000000->fk n f b (λ(s:Unit) (A:Tm) (B:Int)=>qv (h A B) s) ()=some (f.Hm ψ b,()):=by
 intro n
 induction n with
 |zero=>intro f b h;have:=f.eE;omega
 |succ n ih=>
  intro f b hn Q R G S H;cases f with
  |mk k s ts l=>
   rw[Fm.dJ] at hn Q H;have T:=iX Tm.an8 ts λt _=>t.eE;have U:=iX Fm.an8 l λt _=>t.eE;obtain⟨V,I,J⟩:=Fm.qt R;rw[Fm.fD,gE,kE,kE] at G;rw[fk,Fm.zZ];simp only[Fm.fw,Fm.ez,Fm.eF,Fm.h8,d_];rw[sZ xL,dF,ef xL,dY];have W:=tG k
   have w:∀(us:List Tm) (j:Nat) (v:List Tm),(∀t∈us,t∈ts)->v.length+us.length<=50000000->eV (λ(X:Int) (K:Tm)=>(uF λ(v91:List Tm) (L:Unit)=>
      dR (qv (h K b) L) λq C=>
      gh (fK v91 [q])<|some ((.next ((fT v91 [q]),C)):fV ((List Tm)×Unit) (Fm×Unit)))) us j (v,())=some (.inl (v++us.map (λt=>ψ t b),())):=by
    intro us
    induction us with
    |nil=>intro j v _ _;simp|cons t us x=>
     intro j v hm M;simp only[oZ] at M;have d:=hm t LA;have N:=ew Tm.an8 d;rw[fm];simp only[uF];rw[P t b ⟨I t d,G.1 t d,xL⟩ S xL,FV,dN,fR Xw,dY];simp only[dF,fy];rw[jn];have:=x (j+1) (v++[ψ t b]) (λu hu=>hm u (by simp[hu])) Xw;rw[this];simp
   rw[w ts 0 [] (λt h=>h) Xw,dF];simp only[eo,uF];rw[qR,dF]
   have y:∀(us:List Fm) (j:Nat) (v:List Fm),(∀t∈us,t∈l)->v.length+us.length<=50000000->eV (λ(D:Int) (i:Fm)=>(uF λ(a:List Fm) (v212:Unit)=>
      dR (fk n i (b+qB k) (λ(s:Unit) (A:Tm) (B:Int)=>qv (h A B) s) v212) λc o=>
      gh (fK a [c])<|some ((.next ((fT a [c]),o)):fV ((List Fm)×Unit) (Fm×Unit)))) us j (v,())=some (.inl (v++us.map (Fm.Hm ψ (b+qB k)),())):=by
    intro us
    induction us with
    |nil=>intro j v _ _;simp|cons t us x=>
     intro j v hm M;simp only[oZ] at M;have d:=hm t LA;have N:=ew Fm.an8 d;rw[fm];simp only[uF];rw[ih t (b+qB k) xL xL (J t d) (G.2 t d) xL xL,dN,fR Xw,dY];simp only[dF,fy];rw[jn];have:=x (j+1) (v++[t.Hm ψ (b+qB k)]) (λu hu=>hm u (by simp[hu])) Xw;rw[this];simp
   have fin:(gh (eM l)<|dE (eV (λ(D:Int) (i:Fm)=>(uF λ(a:List Fm) (v212:Unit)=>
      dR (fk n i (b+qB k) (λ(s:Unit) (A:Tm) (B:Int)=>qv (h A B) s) v212) λc o=>
      gh (fK a [c])<|some ((.next ((fT a [c]),o)):fV ((List Fm)×Unit) (Fm×Unit)))) l 0 ([],())) (fG (uF λ(a:List Fm) (v212:Unit)=>some ((Fm.mk k s ([]++ts.map λt=>ψ t b) a),v212)) (λr=>some r)))=some (Fm.mk k s (ts.map λt=>ψ t b) (l.map (Fm.Hm ψ (b+qB k))),()):=by
    rw[ef xL,dY,y l 0 [] (λt h=>h) Xw,dF];simp
   by_cases F:h9 k=true
   ·rw[dO F]
    have O:b+qB k=b+1:=by unfold qB;rw[dO F]
    rw[O] at fin|-;rw[fW xL xL];exact fin
   ·rw[dI F]
    have O:b+qB k=b:=by unfold qB;rw[dI F];omega
    rw[O] at fin|-;exact fin
def Fm.SV(f c:Int):∀(g:Fm) (b:Int),g.Hm (λt b=>t.up (f+b) c) b=g.up (f+b) c:=by
 intro g
 induction g using Fm.ind with
 |h k s ts l ih=>
  intro b;rw[Fm.zZ,Fm.fh]
  congr 1
  exact uy λx a=>by rw[ih x a (b+qB k),show f+(b+qB k)=f+b+qB k by omega]
def Br{g:Fm}{f c:Int}(d:g.ok=true)(hn:g.an8<=50000000)(i:g.aoa 1000000000000=true)(o:0<=f)(j:f<=1000000000)(k:0<=c)(a:c<=10000000000):iF g f c=some (g.up f c):=by
 unfold iF;rw[oq (h:=λl n=>mu l n f c) (ψ:=λt b=>t.up (f+b) c) (λt b h q r=>?_) FU g 0 (by have:=fI;omega) hn d i xL xL]
 ·rw[dN,Fm.SV f c g 0,show f+0=f by omega]
 ·unfold mu;rw[fW xL xL,Dd h xL xL k a];rfl
def Tm.Y2{i:Int}{s:Ty}{l:List Tm}(a:(Tm.mk 1 i s l).ok=true):l=[]/\s=.mk 0 []:=by
 have hi:=Tm.pe a;constructor
 ·have:=hi.2.2.2.2;unfold gI at this;rw[dO (.inl rfl)] at this;exact BG xL
 ·rw[Tm.gR] at a;simp only[Tm.node,gE] at a;have:=a.1.2;rw[dI Df] at this;exact(Ty.mO s).1 this
def SK(a:Int)(s:Tm)(i b:Int):Tm:=if i-b=a then s.up 0 (a+b)else if a<i-b then .mk 1 (i-1) (.mk 0 []) [] else .mk 1 i (.mk 0 []) []
def Tm.NA(a:Int)(s:Tm):∀(t:Tm) (b:Int),t.ok=true->t.Hm (SK a s) b=Tm.fQ (a+b) t s:=by
 intro t
 induction t using Tm.ind with
 |h k i ty l ih=>
  intro b d;have hi:=Tm.pe d;rw[Tm.zZ,Tm.eI]
  by_cases c:k=1
  ·subst c;obtain⟨rfl,rfl⟩:=Tm.Y2 d;rw[dO rfl,dO rfl];unfold SK Tm.iQ
   by_cases f:i-b=a
   ·rw[dO f,dO xL]
   ·rw[dI f,dI (show¬i=a+b by omega)]
    by_cases j:a<i-b
    ·rw[dO j,dO xL]
    ·rw[dI j,dI xL]
  ·rw[dI c,dI c]
   congr 1
   exact uy λx n=>by rw[ih x n (b+eP k) (hi.2.2.2.1 x n),show a+(b+eP k)=a+b+eP k by omega]
def Sl(s:Tm):Prop:=∀c,0<=c->c<=10000000000->sR s 0 c=some (s.up 0 c)
def Bd.lift{s:Tm}(h:Bd s):Sl s:=λc a b=>Dd h xL xL a b
def O3{t s:Tm}{a:Int}(h:Bd t)(hs:Sl s)(Q:0<=a)(J:a<=1000000000):Ab t a s=some (Tm.fQ a t s):=by
 unfold Ab p0;have hn:=h.an8
 have key:∀(n:Nat) (t:Tm) (b:Int),t.an8<=n->t.an8<=50000000->t.ok=true->t.aoa 1000000000000=true->0<=b->b+t.an8<=1000000000->hQ n t b (λ(o:Unit) (r:Int) (q:Int)=>qv (oh r q a s) o) ()=hQ n t b (λ(o:Unit) (r:Int) (q:Int)=>qv (if q<=1000000000 then oh r q a s else some (SK a s r q)) o) ():=by
  intro n
  induction n with
  |zero=>intro t b h;have:=t.eE;omega
  |succ n ih=>
   intro t b hn A K I L D;cases t with
   |mk k i ty l=>
    rw[Tm.dJ] at hn A D;rw[Tm.fD,gE,SJ,kE] at I;have hi:=Tm.pe K;have N:=iY k;rw[hQ,hQ]
    by_cases F:k=1
    ·subst F;rw[dO YQ,dO YQ,dO xL]
    ·rw[dI (by simpa[ee] using F),dI (by simpa[ee] using F)];simp only[Tm.fw,Tm.ez,Tm.eF,Tm.hB,d_];rw[xx k b xL xL]
     have loop:∀(ts:List Tm) (j:Nat) (v:List Tm),(∀t∈ts,t∈l)->eV (λ(G:Int) (x:Tm)=>(uF λ(d:List Tm) (v107:Unit)=>
        dR (hQ n x (b+eP k) (λ(o:Unit) (r:Int) (q:Int)=>qv (oh r q a s) o) v107) λf w=>
        gh (fK d [f])<|some ((.next ((fT d [f]),w)):fV ((List Tm)×Unit) (Tm×Unit)))) ts j (v,())=eV (λ(G:Int) (x:Tm)=>(uF λ(d:List Tm) (v107:Unit)=>
        dR (hQ n x (b+eP k) (λ(o:Unit) (r:Int) (q:Int)=>qv (if q<=1000000000 then oh r q a s else some (SK a s r q)) o) v107) λf w=>
        gh (fK d [f])<|some ((.next ((fT d [f]),w)):fV ((List Tm)×Unit) (Tm×Unit)))) ts j (v,()):=by
      intro ts
      induction ts with
      |nil=>intro j v _;rfl|cons t ts H=>
       intro j v hm;have y:=hm t LA;have O:=ew Tm.an8 y;rw[fm,fm];simp only[uF];rw[ih t (b+eP k) xL xL (hi.2.2.2.1 t y) (I.2 t y) xL xL]
       congr 1
       funext c
       cases c with
       |next st=>
        obtain⟨P,u⟩:=st;exact H (j+1) P (λu hu=>hm u (by simp[hu]))
       |_=>rfl
     rw[loop l 0 [] (λt h=>h)]
 rw[key FU t 0 (by have:=fI;omega) hn h.ok h.aoa xL xL];rw[wF (h:=λr q=>if q<=1000000000 then oh r q a s else some (SK a s r q)) (φ:=SK a s) (M:=1000000000000) (λi b L R S T=>?_) FU t 0 (by have:=fI;omega) h.an8 h.ok h.aoa xL xL]
 ·rw[dN,dN,Tm.NA a s t 0 h.ok,show a+0=a by omega]
 ·by_cases A:b<=1000000000
  ·rw[dO A];unfold oh jx SK;rw[fZ xL xL,fW xL xL]
   by_cases B:i-b=a
   ·rw[dO (by simpa[ee] using B),dO B,hs _ xL xL];rfl
   ·rw[dI (by simpa[ee] using B),dI B]
    by_cases C:a<i-b
    ·rw[dO (by rw[iw];exact C),dO C,fZ xL xL];rfl
    ·rw[dI (by rw[iw];exact C),dI C];rfl
  ·rw[dI A]
def Fm.NA(a:Int)(s:Tm):∀(g:Fm) (b:Int),g.Hm (λt b=>Tm.fQ (a+b) t s) b=Fm.fQ (a+b) g s:=by
 intro g
 induction g using Fm.ind with
 |h k ty ts l ih=>
  intro b;rw[Fm.zZ,Fm.eI]
  congr 1
  exact uy λx c=>by rw[ih x c (b+qB k),show a+(b+qB k)=a+b+qB k by omega]
def CB{g:Fm}{s:Tm}{a:Int}(G:g.ok=true)(hn:g.an8<=50000000)(N:g.aoa 1000000000000=true)(hs:Sl s)(T:0<=a)(O:a<=100000000):lC g a s=some (Fm.fQ a g s):=by
 unfold lC
 have key:∀(n:Nat) (f:Fm) (b:Int),f.an8<=n->f.an8<=50000000->f.ok=true->0<=b->b+f.an8<=100000000->fk n f b (λ(q:Unit) (x:Tm) (w:Int)=>qv (iW x w a s) q) ()=fk n f b (λ(q:Unit) (x:Tm) (w:Int)=>qv (if w<=100000000 then iW x w a s else some (Tm.fQ (a+w) x s)) q) ():=by
  intro n
  induction n with
  |zero=>intro f b h;have:=f.eE;omega
  |succ n ih=>
   intro f b hn H G P J;cases f with
   |mk k ty ts l=>
    rw[Fm.dJ] at hn H J;obtain⟨_,_,K⟩:=Fm.qt G;have Q:=tG k;rw[fk,fk];simp only[Fm.fw,Fm.ez,Fm.eF,Fm.h8,d_,dO (show b<=100000000 by omega),qR,dF]
    have loop:∀(us:List Fm) (j:Nat) (v:List Fm) (B:Int),0<=B->B+eb Fm.an8 l<=100000000->(∀t∈us,t∈l)->eV (λ(C:Int) (y:Fm)=>(uF λ(d:List Fm) (v212:Unit)=>
       dR (fk n y B (λ(q:Unit) (x:Tm) (w:Int)=>qv (iW x w a s) q) v212) λi A=>
       gh (fK d [i])<|some ((.next ((fT d [i]),A)):fV ((List Fm)×Unit) (Fm×Unit)))) us j (v,())=eV (λ(C:Int) (y:Fm)=>(uF λ(d:List Fm) (v212:Unit)=>
       dR (fk n y B (λ(q:Unit) (x:Tm) (w:Int)=>qv (if w<=100000000 then iW x w a s else some (Tm.fQ (a+w) x s)) q) v212) λi A=>
       gh (fK d [i])<|some ((.next ((fT d [i]),A)):fV ((List Fm)×Unit) (Fm×Unit)))) us j (v,()):=by
     intro us
     induction us with
     |nil=>intro j v B _ _ _;rfl|cons t us L=>
      intro j v B D M hm;have F:=hm t LA;have R:=ew Fm.an8 F;rw[fm,fm];simp only[uF];rw[ih t B xL xL (K t F) D xL]
      congr 1
      funext c
      cases c with
      |next st=>
       obtain⟨S,u⟩:=st;exact L (j+1) S B D M (λu hu=>hm u (by simp[hu]))
      |_=>rfl
    congr 1
    funext U
    congr 1
    congr 1
    funext o
    cases o with
    |inr r=>rfl|inl st=>
     obtain⟨v,u⟩:=st;simp only[eo,uF]
     by_cases I:h9 k=true
     ·rw[dO I,dO I,fW xL xL];rw[show(([]:List Fm),u)=([],())from rfl,loop l 0 [] (b+1) xL xL (λt h=>h)]
     ·rw[dI I,dI I];rw[show(([]:List Fm),u)=([],())from rfl,loop l 0 [] b xL xL (λt h=>h)]
 rw[key FU g 0 (by have:=fI;omega) hn G xL xL];rw[oq (h:=λx w=>if w<=100000000 then iW x w a s else some (Tm.fQ (a+w) x s)) (ψ:=λt b=>Tm.fQ (a+b) t s) (λt b h P V=>?_) FU g 0 (by have:=fI;omega) hn G N xL xL]
 ·rw[dN,Fm.NA a s g 0,show a+0=a by omega]
 ·by_cases H:b<=100000000
  ·rw[dO H];unfold iW;rw[fW xL xL,O3 h hs xL xL];rfl
  ·rw[dI H]
end Go.fN
