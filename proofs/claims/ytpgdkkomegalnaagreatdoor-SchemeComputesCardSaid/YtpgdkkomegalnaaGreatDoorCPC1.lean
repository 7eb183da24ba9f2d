/- Part of the proof of SchemeComputes: plain facts. -/
import Derived.Test.YtpgdkkomegalnaaGreatDoorCM1
set_option linter.all false
namespace Go.fF
open Go
@[simp] theorem gh(a b:Int):eo a b=true↔a=b:=by simp[eo]
@[simp] theorem ez(a b:Int):eL a b=true↔a≠b:=by simp[eL]
@[simp] theorem jR(a b:Int):pg a b=true↔a<b:=by simp[pg]
@[simp] theorem abY(a b:Int):Zv a b=true↔a<=b:=by simp[Zv]
@[simp] theorem iM(a b:Int):pj a b=true↔b<a:=by simp[pj]
@[simp] theorem jW(a b:Int):qa a b=true↔b<=a:=by simp[qa]
@[simp] theorem l'(a b:Bool):fp a true b=(a||b):=by cases a<;>rfl
@[simp] theorem vL(a b:Bool):fp a b false=(a&&b):=by cases a<;>rfl
@[simp] theorem ago(a b:Bool):fp a b true=(!a||b):=by cases a<;>rfl
@[simp] theorem SM(a:Bool):lV a=!a:=rfl
@[simp] theorem iv{α:Type}(l m:List α):fU l m=l++m:=rfl
@[simp] theorem fQ{α:Type}(l:List α):eA l=(l.length:Int):=rfl
theorem hJ{α:Type}(l:List α)(i:Nat):dX l (i:Int)=l[i]?:=by simp[dX]
@[simp] theorem eY{α:Type}(l:List α):dX l 0=l[0]?:=by simp[dX]
@[simp] theorem iE{α:Type}(l:List α):dX l 1=l[1]?:=by simp[dX]
@[simp] theorem m_{α:Type}(l:List α):dX l 2=l[2]?:=by simp[dX]
def Ml{α:Type}{l:List α}{i:Int}(b:0<=i)(c:i<l.length):∃x,dX l i=some x/\x∈l:=by
 obtain⟨k,rfl⟩:=ad6 b
 have a:k<l.length:=VW
 exact⟨l[k],by rw[hJ];simp[a],DL a⟩
def et{α:Type}{l:List α}(h:l.length<=1000000000):eX l=true:=by unfold eX yU;exact AD VW
def fm{α:Type}{l m:List α}(h:l.length+m.length<=1000000000):fN l m=true:=by unfold fN yU;exact AD VW
def YY{b:Int}(h:b≠0):Mf b=true:=by simp[Mf,h]
def Ih{n:Int}(a:-9223372036854775808<=n)(b:n<9223372036854775808):IntKind.i64.wrap n=n:=by
 rw[IntKind.wrap_i64];omega
def gd{a b:Int}(c:-9223372036854775808<=a+b)(d:a+b<9223372036854775808):eW .i64 a b=a+b:=Ih c d
theorem gi{a b:Int}(c:-9223372036854775808<=a-b)(d:a-b<9223372036854775808):fL .i64 a b=a-b:=Ih c d
def SW{a b:Int}(c:-9223372036854775808<=a*b)(d:a*b<9223372036854775808):Vf .i64 a b=a*b:=Ih c d
section
variable{α β σ ρ:Type}
def LK{F:Int->α->σ->Option (gq σ ρ)}(I:σ->Prop)(Q:ρ->Prop):∀(l:List α) (i:Nat) (s:σ),I s->(∀k x s,l[k]?=some x->I s->(∃a,F ((i+k:Nat):Int) x s=some (.next a)/\I a)\/(∃r,F ((i+k:Nat):Int) x s=some (.ret r)/\Q r))->(∃a,fw F l i s=some (.inl a)/\I a)\/(∃r,fw F l i s=some (.inr r)/\Q r)
 |[],i,s,hs,_=>.inl ⟨s,rfl,hs⟩|x::l,i,s,hs,h=>by
  have f:=h 0 x s rfl hs;rw[GL] at f;rw[fY];rcases f with⟨s1,b,c⟩|⟨r,b,c⟩
  ·rw[b];simp only[dI,fk];refine LK I Q l (i+1) s1 c λk y a j d=>?_;have:=h (k+1) y a (by simpa using j) d;rw[show i+(k+1)=i+1+k by omega] at this;exact this
  ·rw[b];exact .inr ⟨r,rfl,c⟩
def kr{F:Int->α->List β->Option (gq (List β) ρ)}(g:α->β):∀(l:List α) (i:Nat) (v:List β),v.length+l.length<=1000000000->(∀j x v,x∈l->v.length+1<=1000000000->F j x v=some (.next (v++[g x])))->fw F l i v=some (.inl (v++l.map g))
 |[],i,v,_,_=>by simp|x::l,i,v,a,h=>by
  simp only[mN] at a;rw[fY,h i x v aaA VW];simp only[dI,fk];rw[kr g l (i+1) (v++[g x]) abu λj y v b c=>h j y v (by simp[b]) c];simp
def ee(g:α->Nat):List α->Nat
 |[]=>0|x::l=>g x+ee g l
theorem eF(g:α->Nat){l:List α}{x:α}(h:x∈l):g x<=ee g l:=by
 induction l with
 |nil=>cases h
 |cons y l ih=>
  simp only[ee];rcases mb.1 h with rfl|h
  ·omega
  ·have:=ih h;omega
def jr(g:α->Nat)(l:List α)(h:∀x∈l,1<=g x):l.length<=ee g l:=by
 induction l with
 |nil=>simp|cons y l ih=>simp only[ee,mN];have:=h y aaA;have:=ih λx a=>h x (by simp[a]);omega
def pt{F:Int->α->Int->Option (gq Int ρ)}(g:α->Nat):∀(l:List α) (i v:Nat),v+ee g l<=4611686018427387904->(∀j x (v:Int),x∈l->F j x v=some (.next (eW .i64 v (g x))))->fw F l i (v:Int)=some (.inl ((v+ee g l:Nat):Int))
 |[],i,v,_,_=>by simp[ee]|x::l,i,v,a,h=>by
  simp only[ee] at a|-;rw[fY,h i x v aaA,gd VW VW];simp only[dI,fk];have:=pt g l (i+1) (v+g x) VW λj y v b=>h j y v (by simp[b]);rw[show(v:Int)+(g x:Int)=((v+g x:Nat):Int) by omega,this];rw[afo]
def wV{F:Int->α->Int->Option (gq Int ρ)}(g:α->Nat)(ok:α->Bool)(r:ρ):∀(l:List α) (i v:Nat),v+ee g l<=4611686018427387904->(∀j x (v:Int),x∈l->F j x v=if ok x then some (.next (eW .i64 v (g x)))else some (.ret r))->fw F l i (v:Int)=if l.all ok then some (.inl ((v+ee g l:Nat):Int))else some (.inr r)
 |[],i,v,_,_=>by simp[ee]|x::l,i,v,b,h=>by
  simp only[ee] at b|-;rw[fY,h i x v aaA,gd VW VW];cases a:ok x with
  |false=>simp[a]|true=>
   simp only[if_true,dI,fk,Oh,a,HN];have:=wV g ok r l (i+1) (v+g x) VW λj y v c=>h j y v (by simp[c]);rw[show(v:Int)+(g x:Int)=((v+g x:Nat):Int) by omega,this,afo]
def rh{F:Int->α->Unit->Option (gq Unit ρ)}(ok:α->Bool)(r:ρ):∀(l:List α) (i:Nat),(∀j x,x∈l->F j x ()=if ok x then some (.next ())else some (.ret r))->fw F l i ()=if l.all ok then some (.inl ())else some (.inr r)
 |[],i,_=>by simp|x::l,i,h=>by
  rw[fY,h i x aaA];cases a:ok x with
  |false=>simp[a]|true=>
   simp only[if_true,dI,fk,Oh,a,HN];exact rh ok r l (i+1) λj y b=>h j y (by simp[b])
def fE:List Int->Int
 |[]=>0|e::l=>if e=0 then fE l else e
def pR{F:Int->α->Unit->Option (gq Unit Int)}(e:α->Int):∀(l:List α) (i:Nat),(∀j x,x∈l->F j x ()=if e x≠0 then some (.ret (e x))else some (.next ()))->fw F l i ()=if fE (l.map e)=0 then some (.inl ())else some (.inr (fE (l.map e)))
 |[],i,_=>by simp[fE]|x::l,i,h=>by
  rw[fY,h i x aaA]
  by_cases he:e x=0
  ·simp only[he,fE,kZ,ne_eq,O5,jb,dI,fk,if_true];exact pR e l (i+1) λj y a=>h j y (by simp[a])
  ·simp[he,fE]
def xm(p:α->β->Bool):List α->List β->Bool
 |x::l,y::m=>p x y&&xm p l m|[],[]=>true|_,_=>false
def A9{F:Int->α->Unit->Option (gq Unit Bool)}(p:α->β->Bool)(M:List β):∀(l:List α) (i:Nat) (m:List β),m=M.drop i->l.length=m.length->(∀(k:Nat) x y,x∈l->M[k]?=some y->F (k:Int) x ()=if p x y then some (.next ())else some (.ret false))->fw F l i ()=if xm p l m then some (.inl ())else some (.inr false)
 |[],i,m,_,d,_=>by
  cases m with
  |nil=>simp[xm]|cons y m=>simp at d
 |x::l,i,m,hm,d,h=>by
  cases m with
  |nil=>simp at d
  |cons y m=>
   have c:i<M.length:=by
    rcases vb i M.length with h'|h'
    ·exact h'
    ·rw[OH h'] at hm;cases hm
   rw[Nz c] at hm;injection hm with j n;rw[fY,h i x y aaA (by simp[c,j])];cases f:p x y with
   |false=>simp[xm,f]|true=>
    simp only[if_true,dI,fk,xm,f,HN];exact A9 p M l (i+1) m n (by simpa using d) λk a b o q=>h k a b (by simp[o]) q
def Bw(p:α->α->Bool):∀(l m:List α),(∀x∈l,∀y,p x y=true↔x=y)->(xm p l m=true↔l=m)
 |[],[],_=>by simp[xm]|[],_::_,_=>by simp[xm]|_::_,[],_=>by simp[xm]|x::l,y::m,h=>by simp[xm,h x aaA y,Bw p l m λa b=>h a (by simp[b])]
def LG{F:σ->Option (gq σ ρ)}(I:σ->Prop)(μ:σ->Nat)(Q:σ⊕ρ->Prop)
  (h:∀s,I s->(∃a,F s=some (.next a)/\I a/\μ a<μ s)\/(∃a,F s=some (.y7 a)/\Q (.inl a))\/(∃r,F s=some (.ret r)/\Q (.inr r))):∀(n:Nat) (s:σ),I s->μ s<n->∃o,j0 F n s=some o/\Q o
 |0,s,_,hn=>by omega|n+1,s,hs,hn=>by
  rw[hS];rcases h s hs with⟨a,b,c,d⟩|⟨a,b,c⟩|⟨r,b,c⟩
  ·rw[b];simp only[dI,fk];exact LG I μ Q h n a c VW
  ·rw[b];exact⟨_,rfl,c⟩
  ·rw[b];exact⟨_,rfl,c⟩
def aiT{n:Nat}(h:n<1000000000):n<FU:=by rw[fI];exact h
end
end Go.fF
namespace Go.fF
open Go
mutual
def Ty.alZ:Ty->Nat
 |.mk _ l=>1+Ty.n9 l
def Ty.n9:List Ty->Nat
 |[]=>0|t::l=>t.alZ+Ty.n9 l
end
def Ty.r5(l:List Ty):Ty.n9 l=ee Ty.alZ l:=by
 induction l with
 |nil=>rfl|cons t l ih=>simp[Ty.n9,ee,ih]
theorem Ty.dM(k:Int)(l:List Ty):(Ty.mk k l).alZ=1+ee Ty.alZ l:=by rw[Ty.alZ,Ty.r5]
def Ty.eM(t:Ty):1<=t.alZ:=by cases t;rw[Ty.alZ];omega
def Ty.fX(l:List Ty):l.length<=ee Ty.alZ l:=jr _ _ λt _=>t.eM
def Ty.want(k:Int):Option Nat:=if k=1\/k=2\/k=5 then some 0 else if k=3\/k=4 then some 2 else none
mutual
def Ty.ok:Ty->Bool
 |.mk k l=>decide (Ty.want k=some l.length)&&Ty.Mc l
def Ty.Mc:List Ty->Bool
 |[]=>true|t::l=>t.ok&&Ty.Mc l
end
def Ty.AX(l:List Ty):Ty.Mc l=l.all Ty.ok:=by
 induction l with
 |nil=>rfl|cons t l ih=>simp[Ty.Mc,ih]
theorem Ty.hI(k:Int)(l:List Ty):(Ty.mk k l).ok=(decide (Ty.want k=some l.length)&&l.all Ty.ok):=by rw[Ty.ok,Ty.AX]
def Ty.err(t:Ty):Int:=if t.ok then(if 64<t.alZ then 4 else 0)else 2
def KW:∀(n:Nat) (t:Ty),t.alZ<=n->t.alZ<=1000000000->jf n t=some t:=by
 intro n
 induction n with
 |zero=>intro t h;have:=t.eM;omega
 |succ n ih=>
  intro t h a;cases t with
  |mk k l=>
   rw[Ty.dM] at h a;have d:=Ty.fX l;rw[jf];simp only[Ty.eG,Ty.eK,ef,et (l:=l) VW,ed];rw[kr id l 0 [] abu]
   ·simp
   ·intro j x v b c;have:=eF Ty.alZ b;rw[ih x VW VW];simp[fm (l:=v) (m:=[x]) (by simpa using c)]
def jv{t:Ty}(h:t.alZ<=1000000000):jf FU t=some t:=KW FU t (by rw[fI];exact h) h
def Fg:∀(n:Nat) (t:Ty),t.alZ<=n->t.alZ<=1000000000->mz n t=some (if t.ok then((t.alZ:Int),true)else(0,false)):=by
 intro n
 induction n with
 |zero=>intro t h;have:=t.eM;omega
 |succ n ih=>
  intro t h u;cases t with
  |mk k l=>
   rw[Ty.dM] at h u;have A:=Ty.fX l
   have key:fw (λ(q:Int) (c:Ty) (d:Int)=>dV (mz n c) λf i=>if i then some (gq.next (eW .i64 d f))else some (gq.ret ((0:Int),false))) l 0 1=if l.all Ty.ok then some (.inl ((1+ee Ty.alZ l:Nat):Int))else some (.inr (0,false)):=by
    refine wV Ty.alZ Ty.ok _ l 0 1 VW ?_;intro j x v w;have:=eF Ty.alZ w;rw[ih x VW VW];cases x.ok<;>simp
   rw[mz];simp only[Ty.eG,Ty.eK,ef,et (l:=l) VW,ed,key,l',tH,gh,ez,fQ,Ty.hI,Ty.dM,Ty.want]
   by_cases r:k=1\/k=2\/k=5
   ·simp only[r,if_true]
    by_cases b:l=[]
    ·subst b;simp[ee]
    ·have:¬(0=l.length):=by cases l with|nil=>exact absurd rfl b|cons a l=>simp
     have o:(l.length:Int)≠0:=VW
     simp[this,o,b]
   ·simp only[r,jb]
    by_cases b:k=3\/k=4
    ·simp only[b,if_true]
     by_cases o:l.length=2
     ·cases s:l.all Ty.ok<;>simp[o]
     ·have s:(l.length:Int)≠2:=VW
      have y:¬2=l.length:=VW
      simp[s,y]
    ·simp[b]
theorem lI{t:Ty}(h:t.alZ<=1000000000):je t=some (if t.err=0 then(t.alZ:Int)else 0,t.err):=by
 unfold je Ty.err;rw[Fg FU t (by rw[fI];exact h) h];cases t.ok with
 |false=>simp|true=>
  by_cases a:64<t.alZ
  ·simp[a];omega
  ·simp[a];omega
def J_{t:Ty}(h:t.alZ<=1000000000):rZ t=some t.err:=by
 unfold rZ;rw[lI h];rfl
def Ty.r9(t:Ty):Bool:=fp (eo t.alX 0) (eo (eA t.alY) 0) false
theorem Ty.mT(t:Ty):t.r9=true↔t=.mk 0 []:=by
 cases t with
 |mk k l=>unfold Ty.r9;simp
theorem sC(t:Ty):ov t=some t.r9:=rfl
def xQ(t:Ty):pI t=some t.r9:=rfl
def Ks:∀(n:Nat) (t:Ty),t.alZ<=n->t.alZ<=1000000000->pF n t=some t.ok:=by
 intro n
 induction n with
 |zero=>intro t h;have:=t.eM;omega
 |succ n ih=>
  intro t h r;cases t with
  |mk k l=>
   rw[Ty.dM] at h r;have v:=Ty.fX l
   have key:fw (λ(i:Int) (c:Ty) (_:Unit)=>dH (pF n c) λd=>if d then some (gq.next ())else some (gq.ret false)) l 0 ()=if l.all Ty.ok then some (.inl ())else some (.inr false):=by
    refine rh Ty.ok _ l 0 ?_;intro j x s;have:=eF Ty.alZ s;rw[ih x VW VW];rfl
   rw[pF];simp only[Ty.eG,Ty.eK,ef,et (l:=l) VW,ed,key,l',tH,gh,ez,fQ,Ty.hI,Ty.want]
   by_cases o:k=1\/k=2\/k=5
   ·simp only[o,if_true]
    by_cases b:l=[]
    ·subst b;simp
    ·have:¬(0=l.length):=by cases l with|nil=>exact absurd rfl b|cons a l=>simp
     have f:(l.length:Int)≠0:=VW
     simp[this,f,b]
   ·simp only[o,jb]
    by_cases b:k=3\/k=4
    ·simp only[b,if_true]
     by_cases f:l.length=2
     ·cases q:l.all Ty.ok<;>simp[f]
     ·have q:(l.length:Int)≠2:=VW
      have u:¬2=l.length:=VW
      simp[q,u]
    ·simp[b]
def CT:∀(n:Nat) (t:Ty),t.alZ<=n->t.alZ<=1000000000->p2 n t=some (t.alZ:Int):=by
 intro n
 induction n with
 |zero=>intro t h;have:=t.eM;omega
 |succ n ih=>
  intro t h a;cases t with
  |mk k l=>
   rw[Ty.dM] at h a;have c:=Ty.fX l;rw[p2];simp only[Ty.eG,ef,et (l:=l) VW,ed]
   have key:=pt (ρ:=Int) (F:=λ(j:Int) (x:Ty) (v:Int)=>dH (p2 n x) λy=>some (gq.next (eW .i64 v y))) Ty.alZ l 0 1 VW (by
    intro j x v b;have:=eF Ty.alZ b;rw[ih x VW VW]
    rfl)
   rw[show(1:Int)=((1:Nat):Int)from rfl,key];simp[Ty.dM]
def kI{t:Ty}(h:t.alZ<=1000000000):iq t=some t.err:=by
 unfold iq Ty.err;rw[Ks FU t (by rw[fI];exact h) h,CT FU t (by rw[fI];exact h) h];cases t.ok with
 |false=>simp|true=>by_cases a:64<t.alZ<;>simp[a]<;>omega
def xY:∀(n:Nat) (a b:Ty),a.alZ<=n->a.alZ<=1000000000->∃r,fv n a b=some r/\(r=true↔a=b):=by
 intro n
 induction n with
 |zero=>intro t b h;have:=t.eM;omega
 |succ n ih=>
  intro a b h s;cases a with
  |mk k l=>
  cases b with
  |mk k' m=>
   rw[Ty.dM] at h s;have v:=Ty.fX l;rw[fv];simp only[Ty.eG,Ty.eK,ef,et (l:=l) VW,ed,l',tH,ez,fQ]
   by_cases d:k≠k'\/(l.length:Int)≠m.length
   ·rw[dR d];refine⟨false,rfl,?_⟩;simp only[ox,Vm,Ty.mk.injEq,not_and];rintro rfl rfl;simp at d
   ·rw[dK d];simp only[not_or,xk] at d;obtain⟨rfl,hlen⟩:=d
    have c:l.length=m.length:=VW
    let p:Ty->Ty->Bool:=λx y=>(fv n x y).getD false
    have o:∀x∈l,∀y,fv n x y=some (p x y)/\(p x y=true↔x=y):=by
     intro x f y;have:=eF Ty.alZ f;obtain⟨r,q,i⟩:=ih x y VW VW
     have e:p x y=r:=by show(fv n x y).getD false=r;rw[q];rfl
     rw[e];exact⟨q,i⟩
    have key:=A9 (F:=λ(j:Int) (x:Ty) (_:Unit)=>dH (dX m j) λy=>dH (fv n x y) λz=>if z then some (gq.next ())else some (gq.ret false)) p m l 0 m rfl c (by
     intro k x y f u;rw[hJ,u];simp only[dI];rw[(o x f y).1]
     rfl)
    rw[key];have he:=Bw p l m λx f y=>(o x f y).2;cases i:xm p l m with
    |false=>exact⟨false,rfl,by rw[i] at he;simpa using he⟩
    |true=>exact⟨true,rfl,by rw[i] at he;simpa using he⟩
noncomputable def Ty.kc (a b:Ty):Bool:=@decide (a=b) (Classical.propDecidable _)
theorem Ty.kK(a b:Ty):a.kc b=true↔a=b:=by unfold Ty.kc;simp
theorem iJ{a b:Ty}(h:a.alZ<=1000000000):fv FU a b=some (a.kc b):=by
 obtain⟨r,c,d⟩:=xY FU a b (by rw[fI];exact h) h;rw[c]
 congr 1
 rw[HM,d,Ty.kK]
mutual
def Tm.alZ:Tm->Nat
 |.mk _ _ _ l=>1+Tm.n9 l
def Tm.n9:List Tm->Nat
 |[]=>0|t::l=>t.alZ+Tm.n9 l
end
def Tm.r5(l:List Tm):Tm.n9 l=ee Tm.alZ l:=by
 induction l with
 |nil=>rfl|cons t l ih=>simp[Tm.n9,ee,ih]
theorem Tm.dM(k i:Int)(s:Ty)(l:List Tm):(Tm.mk k i s l).alZ=1+ee Tm.alZ l:=by rw[Tm.alZ,Tm.r5]
def Tm.eM(t:Tm):1<=t.alZ:=by cases t;rw[Tm.alZ];omega
def Tm.fX(l:List Tm):l.length<=ee Tm.alZ l:=jr _ _ λt _=>t.eM
mutual
def Tm.wt:Tm->Nat
 |.mk _ _ s l=>1+s.alZ+Tm.Qv l
def Tm.Qv:List Tm->Nat
 |[]=>0|t::l=>t.wt+Tm.Qv l
end
def Tm.FT(l:List Tm):Tm.Qv l=ee Tm.wt l:=by
 induction l with
 |nil=>rfl|cons t l ih=>simp[Tm.Qv,ee,ih]
theorem Tm.iG(k i:Int)(s:Ty)(l:List Tm):(Tm.mk k i s l).wt=1+s.alZ+ee Tm.wt l:=by rw[Tm.wt,Tm.FT]
def Tm.kv(t:Tm):1<=t.wt:=by cases t;rw[Tm.wt];omega
def Tm.tY(l:List Tm):l.length<=ee Tm.wt l:=jr _ _ λt _=>t.kv
def k_{α:Type}{f g:α->Nat}{l:List α}(h:∀x∈l,f x<=g x):ee f l<=ee g l:=by
 induction l with
 |nil=>simp[ee]|cons x l ih=>simp only[ee];have:=h x aaA;have:=ih λy a=>h y (by simp[a]);omega
def mv{α β:Type}(f:β->Nat)(g:α->β)(l:List α):ee f (l.map g)=ee (λx=>f (g x)) l:=by
 induction l with
 |nil=>rfl|cons x l ih=>simp[ee,ih]
def pS{α:Type}{f g:α->Nat}{l:List α}(h:∀x∈l,f x=g x):ee f l=ee g l:=by
 induction l with
 |nil=>rfl|cons x l ih=>simp[ee,h x aaA,ih λy a=>h y (by simp[a])]
def G_{α:Type}(f:α->Nat)(l m:List α):ee f (l++m)=ee f l+ee f m:=by
 induction l with
 |nil=>simp[ee]|cons x l ih=>simp[ee,ih];omega
def Tm.ind{p:Tm->Prop}(h:∀k i s l,(∀t∈l,p t)->p (.mk k i s l))(t:Tm):p t:=by
 have:∀n (t:Tm),t.alZ<=n->p t:=by
  intro n
  induction n with
  |zero=>intro t a;have:=t.eM;omega
  |succ n ih=>
   intro t a;cases t with
   |mk k i s l=>
    rw[Tm.dM] at a;exact h k i s l λu hu=>ih u (by have:=eF Tm.alZ hu;omega)
 exact this _ t (g_ _)
def Tm.im(t:Tm):t.alZ<=t.wt:=by
 induction t using Tm.ind with
 |h k i s l ih=>rw[Tm.dM,Tm.iG];have:=k_ ih;omega
def kh(k:Int):Bool:=decide (k=2\/k=6\/k=9)
def gX(k:Int):Int:=
 if k=1\/k=4\/k=7\/k=13 then 0 else if k=2\/k=5\/k=11\/k=12 then 1 else if k=3\/k=8\/k=10 then 2 else if k=6\/k=9 then 3 else-1
def Tm.node(k i:Int)(s:Ty)(n:Nat):Bool:=
 decide ((n:Int)=gX k)&&decide (0<=i)&&(decide (k=1)||decide (i=0))&&(if kh k then decide (s.err=0)else s.r9)
mutual
def Tm.ok:Tm->Bool
 |.mk k i s l=>Tm.node k i s l.length&&Tm.Mc l
def Tm.Mc:List Tm->Bool
 |[]=>true|t::l=>t.ok&&Tm.Mc l
end
def Tm.AX(l:List Tm):Tm.Mc l=l.all Tm.ok:=by
 induction l with
 |nil=>rfl|cons t l ih=>simp[Tm.Mc,ih]
theorem Tm.hI(k i:Int)(s:Ty)(l:List Tm):(Tm.mk k i s l).ok=(Tm.node k i s l.length&&l.all Tm.ok):=by rw[Tm.ok,Tm.AX]
def Tm.err(t:Tm):Int:=if t.ok then(if 4096<t.alZ then 4 else 0)else 2
def KJ:∀(n:Nat) (t:Tm),t.wt<=n->t.wt<=1000000000->lR n t=some t:=by
 intro n
 induction n with
 |zero=>intro t h;have:=t.kv;omega
 |succ n ih=>
  intro t h a;cases t with
  |mk k i s l=>
   rw[Tm.iG] at h a;have d:=Tm.tY l;rw[lR];simp only[Tm.eG,Tm.eK,Tm.iI,Tm.fM,ef,et (l:=l) VW,ed];rw[kr id l 0 [] abu]
   ·simp[jv (t:=s) VW]
   ·intro j x v b c;have:=eF Tm.wt b;rw[ih x VW VW];simp[fm (l:=v) (m:=[x]) (by simpa using c)]
def uW{t:Tm}(h:t.wt<=1000000000):lR FU t=some t:=KJ FU t (by rw[fI];exact h) h
def pD(k:Int)(l:List Tm)(h:ee Tm.wt l<=1000000000):fT k l=some (Tm.mk k 0 (.mk 0 []) l):=by
 have c:=Tm.tY l;unfold fT;simp only[ef,et (l:=l) VW,ed];rw[kr id l 0 [] abu]
 ·simp
 ·intro j x v a b;have:=eF Tm.wt a;rw[uW (t:=x) VW];simp[fm (l:=v) (m:=[x]) (by simpa using b)]
def I_(k:Int)(s:Ty)(l:List Tm)(hs:s.alZ<=1000000000)(h:ee Tm.wt l<=1000000000):lG k s l=some (Tm.mk k 0 s l):=by
 unfold lG;rw[pD k l h];simp[jv hs]
def KK(k:Int):wY k=some (gX k):=by
 unfold wY gX;simp only[l',tH,gh]
 split<;>(try rfl)
 split<;>(try rfl)
 split<;>(try rfl)
 split<;>rfl
def n5:∀(n:Nat) (t:Tm),t.alZ<=n->t.alZ<=1000000000->fV n t=some (t.alZ:Int):=by
 intro n
 induction n with
 |zero=>intro t h;have:=t.eM;omega
 |succ n ih=>
  intro t h a;cases t with
  |mk k i s l=>
   rw[Tm.dM] at h a;have c:=Tm.fX l;rw[fV];simp only[Tm.eG,ef,et (l:=l) VW,ed]
   have key:=pt (ρ:=Int) (F:=λ(j:Int) (x:Tm) (v:Int)=>dH (fV n x) λy=>some (gq.next (eW .i64 v y))) Tm.alZ l 0 1 VW (by
    intro j x v b;have:=eF Tm.alZ b;rw[ih x VW VW]
    rfl)
   rw[show(1:Int)=((1:Nat):Int)from rfl,key];simp[Tm.dM]
def BA:∀(n:Nat) (t:Tm),t.wt<=n->t.wt<=1000000000->kO n t=some t.ok:=by
 intro n
 induction n with
 |zero=>intro t h;have:=t.kv;omega
 |succ n ih=>
  intro t h v;cases t with
  |mk k i s l=>
   rw[Tm.iG] at h v;have D:=Tm.tY l
   have key:fw (λ(o:Int) (a:Tm) (_:Unit)=>dH (kO n a) λb=>if b then some (gq.next ())else some (gq.ret false)) l 0 ()=if l.all Tm.ok then some (.inl ())else some (.inr false):=by
    refine rh Tm.ok _ l 0 ?_;intro j x w;have:=eF Tm.wt w;rw[ih x VW VW];rfl
   rw[kO]
   simp only[Tm.eG,Tm.eK,Tm.iI,Tm.fM,ef,et (l:=l) VW,ed,key,l',tH,gh,ez,jR,fQ,Tm.hI,KK,dI,kI (t:=s) VW,xQ]
   by_cases d:(l.length:Int)=gX k
   ·by_cases q:i<0
    ·have:¬0<=i:=VW
     simp[d,q,Tm.node,this]
    ·have y:0<=i:=VW
     by_cases r:k=1
     ·subst r;cases c:s.r9<;>cases f:l.all Tm.ok<;>simp_all [Tm.node,kh]
     ·by_cases c:i=0
      ·subst c;have u:eL 0 0=false:=rfl
       by_cases f:k=2\/k=6\/k=9
       ·have A:kh k=true:=by simp[kh,f]
        by_cases B:s.err=0<;>cases C:l.all Tm.ok<;>simp_all [Tm.node]
       ·have A:kh k=false:=by simp[kh,f]
        cases B:s.r9<;>cases C:l.all Tm.ok<;>simp_all [Tm.node]
      ·have u:eL i 0=true:=by simp[c]
       simp[d,q,r,c,u,Tm.node]
   ·simp[d,Tm.node]
def lA{t:Tm}(h:t.wt<=1000000000):mi t=some t.err:=by
 have:=t.im;unfold mi Tm.err;rw[BA FU t (by rw[fI];exact h) h,n5 FU t (by rw[fI];omega) VW];cases t.ok with
 |false=>simp|true=>by_cases a:4096<t.alZ<;>simp[a]<;>omega
def Lh(k:Int):wP k=some (if 1<=k/\k<14 then(gX k,true)else(0,false)):=by
 unfold wP;simp only[l',tH,jR,jW]
 by_cases h:k<1\/14<=k
 ·rw[dR h,dK VW]
 ·rw[dK h,dR VW]
  have:k=1\/k=2\/k=3\/k=4\/k=5\/k=6\/k=7\/k=8\/k=9\/k=10\/k=11\/k=12\/k=13:=VW
  rcases this with rfl|rfl|rfl|rfl|rfl|rfl|rfl|rfl|rfl|rfl|rfl|rfl|rfl<;>rfl
def Lu(k:Int):wC k=some (kh k):=by
 unfold wC kh
 congr 1
 rw[HM];simp
def Mv{k:Int}{n:Nat}(h:(n:Int)=gX k):1<=k/\k<14:=by
 unfold gX at h
 repeat' split at h
 all_goals omega
def xo:∀(n:Nat) (t:Tm),t.wt<=n->t.wt<=1000000000->jH n t=some (if t.ok then((t.alZ:Int),true)else(0,false)):=by
 intro n
 induction n with
 |zero=>intro t h;have:=t.kv;omega
 |succ n ih=>
  intro t h A;cases t with
  |mk k i s l=>
   rw[Tm.iG] at h A;have I:=Tm.tY l;have hn:ee Tm.alZ l<=ee Tm.wt l:=k_ λx _=>x.im
   have key:fw (λ(u:Int) (a:Tm) (b:Int)=>dV (jH n a) λc d=>if d then some (gq.next (eW .i64 b c))else some (gq.ret ((0:Int),false))) l 0 1=if l.all Tm.ok then some (.inl ((1+ee Tm.alZ l:Nat):Int))else some (.inr (0,false)):=by
    refine wV Tm.alZ Tm.ok _ l 0 1 VW ?_;intro j x v B;have:=eF Tm.wt B;rw[ih x VW VW];cases x.ok<;>simp
   rw[jH];simp only[Tm.eG,Tm.eK,Tm.iI,Tm.fM,ef,et (l:=l) VW,ed,key,Tm.hI,Tm.dM,Lh,Lu,lI (t:=s) VW,sC,dI,dQ]
   by_cases f:(l.length:Int)=gX k
   ·have o:=Mv f;simp only[o,and_self,if_true,dQ,El,l',vL,tH,hE,ez,jR,fQ,f,ne_eq,O5,false_or]
    by_cases w:i<0
    ·have:¬0<=i:=VW
     simp[w,Tm.node,this]
    ·have C:0<=i:=VW
     by_cases y:k=1
     ·subst y;cases q:s.r9<;>cases r:l.all Tm.ok<;>simp_all [Tm.node,kh]
     ·by_cases q:i=0
      ·subst q
       by_cases r:k=2\/k=6\/k=9
       ·have D:kh k=true:=by simp[kh,r]
        by_cases F:s.err=0<;>cases G:l.all Tm.ok<;>simp_all [Tm.node]
       ·have D:kh k=false:=by simp[kh,r]
        cases F:s.r9<;>cases G:l.all Tm.ok<;>simp_all [Tm.node]
      ·simp[w,y,q,Tm.node]
   ·have H:Tm.node k i s l.length=false:=by simp[Tm.node,f]
    simp only[H,Bool.false_and,ox,jb]
    by_cases o:1<=k/\k<14
    ·simp[o,f]
    ·simp[o]
def fq(k:Int):Int:=if k=2 then 1 else 0
def ju(k:Int):0<=fq k/\fq k<=1:=by unfold fq;split<;>omega
def n_(t:Tm):lv t=some (fq t.alX):=by
 unfold lv fq;simp only[gh]
 split<;>rfl
mutual
def Tm.up(f b:Int):Tm->Tm
 |.mk k i s l=>.mk k (if k=1/\f<=i then i+b else i) s (Tm.upL (f+fq k) b l)
def Tm.upL(f b:Int):List Tm->List Tm
 |[]=>[]|t::l=>t.up f b::Tm.upL f b l
end
def Tm.Qw(f b:Int)(l:List Tm):Tm.upL f b l=l.map (Tm.up f b):=by
 induction l with
 |nil=>rfl|cons t l ih=>simp[Tm.upL,ih]
theorem Tm.fu(f b k i:Int)(s:Ty)(l:List Tm):(Tm.mk k i s l).up f b=.mk k (if k=1/\f<=i then i+b else i) s (l.map (Tm.up (f+fq k) b)):=by rw[Tm.up,Tm.Qw]
mutual
def Tm.al3(m:Int):Tm->Bool
 |.mk _ i _ l=>decide (i<=m)&&Tm.vi m l
def Tm.vi(m:Int):List Tm->Bool
 |[]=>true|t::l=>t.al3 m&&Tm.vi m l
end
def Tm.F4(m:Int)(l:List Tm):Tm.vi m l=l.all (Tm.al3 m):=by
 induction l with
 |nil=>rfl|cons t l ih=>simp[Tm.vi,ih]
theorem Tm.fK(m k i:Int)(s:Ty)(l:List Tm):(Tm.mk k i s l).al3 m=(decide (i<=m)&&l.all (Tm.al3 m)):=by rw[Tm.al3,Tm.F4]
mutual
def Tm.al5(a:Int):Tm->Nat
 |.mk k i _ l=>(if k=1/\i=a then 1 else 0)+Tm.zJ (a+fq k) l
def Tm.zJ(a:Int):List Tm->Nat
 |[]=>0|t::l=>t.al5 a+Tm.zJ a l
end
def Tm.Gy(a:Int)(l:List Tm):Tm.zJ a l=ee (Tm.al5 a) l:=by
 induction l with
 |nil=>rfl|cons t l ih=>simp[Tm.zJ,ee,ih]
def Tm.fG(a k i:Int)(s:Ty)(l:List Tm):(Tm.mk k i s l).al5 a=(if k=1/\i=a then 1 else 0)+ee (Tm.al5 (a+fq k)) l:=by rw[Tm.al5,Tm.Gy]
def Tm.pO(t:Tm):∀a,t.al5 a<=t.alZ:=by
 induction t using Tm.ind with
 |h k i s l ih=>
  intro a;rw[Tm.fG,Tm.dM];have:=k_ (f:=Tm.al5 (a+fq k)) (g:=Tm.alZ) (l:=l) λx b=>ih x b _
  split<;>omega
def Tm.kH(n i:Int)(s t:Tm):Tm:=if i=n then s.up 0 n else if n<i then .mk 1 (i-1) (.mk 0 []) [] else t
mutual
def Tm.gp:Int->Tm->Tm->Tm
 |n,.mk k i ty l,s=>if k=1 then Tm.kH n i s (.mk k i ty l)else .mk k i ty (Tm.Ic (n+fq k) l s)
def Tm.Ic:Int->List Tm->Tm->List Tm
 |_,[],_=>[]|n,t::l,s=>Tm.gp n t s::Tm.Ic n l s
end
def Tm.MO(n:Int)(s:Tm)(l:List Tm):Tm.Ic n l s=l.map (λx=>Tm.gp n x s):=by
 induction l with
 |nil=>rfl|cons t l ih=>simp[Tm.Ic,ih]
theorem Tm.eS(n:Int)(s:Tm)(k i:Int)(ty:Ty)(l:List Tm):Tm.gp n (Tm.mk k i ty l) s=if k=1 then Tm.kH n i s (.mk k i ty l)else .mk k i ty (l.map (λx=>Tm.gp (n+fq k) x s)):=by rw[Tm.gp,Tm.MO]
theorem Tm.nd(t:Tm):∀f b,(t.up f b).alZ=t.alZ:=by
 induction t using Tm.ind with
 |h k i s l ih=>
  intro f b;rw[Tm.fu,Tm.dM,Tm.dM,mv];rw[pS λx a=>ih x a _ _]
def Tm.WU(t:Tm):∀f b,(t.up f b).wt=t.wt:=by
 induction t using Tm.ind with
 |h k i s l ih=>
  intro f b;rw[Tm.fu,Tm.iG,Tm.iG,mv];rw[pS λx a=>ih x a _ _]
def yd{α β:Type}{p:β->Bool}{q:α->Bool}{g:α->β}{l:List α}(h:∀x∈l,p (g x)=q x):(l.map g).all p=l.all q:=by
 induction l with
 |nil=>rfl|cons x l ih=>simp only[kZ,Oh,h x aaA,ih λy a=>h y (by simp[a])]
def Tm.Qx{k i j:Int}{s:Ty}{n:Nat}(h:k=1/\0<=i/\0<=j\/i=j):Tm.node k i s n=Tm.node k j s n:=by
 rcases h with⟨rfl,a,b⟩|rfl
 ·simp[Tm.node,a,b]
 ·rfl
theorem Tm.Pd(t:Tm):∀f b,0<=f->0<=b->(t.up f b).ok=t.ok:=by
 induction t using Tm.ind with
 |h k i s l ih=>
  intro f b d a;rw[Tm.fu,Tm.hI,Tm.hI,Gk,yd λx c=>ih x c (f+fq k) b (by have:=ju k;omega) a]
  congr 1
  apply Tm.Qx
  split
  ·rename_i j;left;omega
  ·right;rfl
def BD:∀(n:Nat) (t:Tm) (m:Int),t.alZ<=n->t.alZ<=1000000000->lz n t m=some (t.al3 m):=by
 intro n
 induction n with
 |zero=>intro t m h;have:=t.eM;omega
 |succ n ih=>
  intro t m h f;cases t with
  |mk k i s l=>
   rw[Tm.dM] at h f;have q:=Tm.fX l
   have key:fw (λ(c:Int) (a:Tm) (_:Unit)=>dH (lz n a m) λb=>if b then some (gq.next ())else some (gq.ret false)) l 0 ()=if l.all (Tm.al3 m) then some (.inl ())else some (.inr false):=by
    refine rh (Tm.al3 m) _ l 0 ?_;intro j x o;have:=eF Tm.alZ o;rw[ih x m VW VW];rfl
   rw[lz];simp only[Tm.eG,Tm.iI,ef,et (l:=l) VW,ed,key,iM,Tm.fK]
   by_cases d:m<i
   ·have:¬i<=m:=VW
    simp[d,this]
   ·have:i<=m:=VW
    cases r:l.all (Tm.al3 m)<;>simp[d,this]
def HA:∀(n:Nat) (t:Tm) (f b:Int),t.alZ<=n->t.alZ<=1000000000->0<=f->f+t.alZ<=10000000000->0<=b->b<=10000000000->t.al3 1000000000000=true->sq n t f b=some (t.up f b):=by
 intro n
 induction n with
 |zero=>intro t f b h;have:=t.eM;omega
 |succ n ih=>
  intro t f b h a B c u d hi;cases t with
  |mk k i s l=>
   rw[Tm.dM] at h a c;rw[Tm.fK] at hi;simp only[hE,oI,ll] at hi;have C:=Tm.fX l;have D:=ju k;rw[sq];simp only[Tm.eG,Tm.iI,Tm.eK,Tm.fM,ef,et (l:=l) VW,ed];rw[kr (Tm.up (f+fq k) b) l 0 [] abu]
   ·rw[Tm.fu];simp only[dI,eC,oa,CA,Tm.mk.injEq,Oq,AZ]
    by_cases o:k=1/\f<=i
    ·obtain⟨rfl,q⟩:=o;rw[gd VW VW];have w:eo 1 1=true:=rfl
     have y:qa i f=true:=by simp[q]
     simp[w,y,q]
    ·rw[dK o]
     have e:fp (eo k 1) (qa i f) false=false:=by
      rw[vL,W4];simp only[ne_eq,hE,gh,jW];exact o
     rw[e];rfl
   ·intro j x v r A;have:=eF Tm.alZ r;rw[n_];simp only[dI,Tm.eK];rw[gd VW VW,ih x (f+fq k) b VW VW VW VW u d (hi.2 x r)];simp[fm (l:=v) (m:=[x.up (f+fq k) b]) (by simpa using A)]
def AW:∀(n:Nat) (t:Tm) (a:Int),t.alZ<=n->t.alZ<=1000000000->0<=a->a+t.alZ<=10000000000->ng n t a=some (t.al5 a:Int):=by
 intro n
 induction n with
 |zero=>intro t a h;have:=t.eM;omega
 |succ n ih=>
  intro t a h c u d;cases t with
  |mk k i s l=>
   rw[Tm.dM] at h c d;have w:=Tm.fX l;have A:=ju k;have o:ee (Tm.al5 (a+fq k)) l<=ee Tm.alZ l:=k_ λx _=>x.pO _;rw[ng];simp only[Tm.eG,Tm.iI,Tm.eK,ef,et (l:=l) VW,ed]
   have q:fp (fp (eo k 1) (eo i a) false) (eW .i64 0 1) 0=(((if k=1/\i=a then 1 else 0:Nat)):Int):=by
    by_cases f:k=1/\i=a
    ·obtain⟨rfl,rfl⟩:=f;simp[eo,fp,eW,Ih]
    ·have e:fp (eo k 1) (eo i a) false=false:=by
      rw[vL,W4];simp only[ne_eq,hE,gh];exact f
     rw[e,dK f];rfl
   have key:=pt (ρ:=Int) (F:=λ(j:Int) (x:Tm) (v:Int)=>dH (lv (Tm.mk k i s l)) λb=>dH (ng n x (eW .i64 a b)) λy=>some (gq.next (eW .i64 v y)))
    (Tm.al5 (a+fq k)) l 0 (if k=1/\i=a then 1 else 0) (by split<;>omega) (by
    intro j x v r;have:=eF Tm.alZ r;rw[n_];simp only[dI,Tm.eK];rw[gd VW VW,ih x _ VW VW VW VW]
    rfl)
   rw[q,key];simp[Tm.fG]
def GV:∀(n:Nat) (t:Tm) (a b:Int) (s:Tm),t.alZ<=n->t.alZ<=1000000000->0<=a->0<=b->a+b+t.alZ<=5000000000->t.al3 1000000000000=true->t.ok=true->s.alZ<=1000000000->s.al3 1000000000000=true->xa n t a b s=some (Tm.gp (a+b) t s):=by
 intro n
 induction n with
 |zero=>intro t a b s h;have:=t.eM;omega
 |succ n ih=>
  intro t a b s h r y C u hi c hs d;cases t with
  |mk k i ty l=>
   rw[Tm.dM] at h r u;rw[Tm.fK] at hi;rw[Tm.hI] at c;simp only[hE,oI,ll] at hi c;have D:=Tm.fX l;have F:=ju k
   have A:0<=i:=by
    have:=c.1;simp only[Tm.node,hE,oI] at this;exact this.1.1.2
   rw[xa,Tm.eS];simp only[Tm.eG,Tm.iI,Tm.eK,Tm.fM,ef,et (l:=l) VW,ed,gh];rw[gd VW VW]
   by_cases f:k=1
   ·rw[dR f,dR f];unfold Tm.kH
    by_cases o:i=a+b
    ·rw[dR o,dR o,HA FU s 0 (a+b) (by rw[fI];exact hs) hs VW VW VW VW d];rfl
    ·rw[dK o,dK o];simp only[iM]
     by_cases q:a+b<i
     ·rw[dR q,dR q,gi VW VW];rfl
     ·rw[dK q,dK q]
   ·rw[dK f,dK f];rw[kr (λx=>Tm.gp (a+b+fq k) x s) l 0 [] abu]
    ·simp
    ·intro j x v w B;have:=eF Tm.alZ w;rw[n_];simp only[dI,Tm.eK];rw[gd VW VW,ih x a (b+fq k) s VW VW y VW VW (hi.2 x w) (c.2 x w) hs d];rw[show a+(b+fq k)=a+b+fq k by omega];simp[fm (l:=v) (m:=[Tm.gp (a+b+fq k) x s]) (by simpa using B)]
def Tm.B2(s t:Tm):∀n,t.ok=true->(Tm.gp n t s).alZ+t.al5 n=t.alZ+t.al5 n*s.alZ:=by
 induction t using Tm.ind with
 |h k i ty l ih=>
  intro n a;rw[Tm.hI] at a;simp only[hE,ll] at a;rw[Tm.eS,Tm.fG,Tm.dM]
  by_cases d:k=1
  ·subst d
   have o:l=[]:=by
    have:=a.1;simp only[Tm.node,hE,oI] at this;have h:=this.1.1.1;simp[gX] at h;exact h
   subst o;simp only[if_true,Tm.kH,ee,GL,AZ]
   by_cases f:i=n
   ·simp[f,Tm.nd];omega
   ·by_cases q:n<i<;>simp[f,q,Tm.dM,ee]
  ·simp only[d,jb,J4,Ax];rw[Tm.dM,mv]
   have:ee (λx=>(Tm.gp (n+fq k) x s).alZ) l+ee (Tm.al5 (n+fq k)) l=ee Tm.alZ l+ee (Tm.al5 (n+fq k)) l*s.alZ:=by
    have b:∀x∈l,(Tm.gp (n+fq k) x s).alZ+x.al5 (n+fq k)=x.alZ+x.al5 (n+fq k)*s.alZ:=λx c=>ih x c _ (a.2 x c);clear ih a
    induction l with
    |nil=>simp[ee]|cons y l j=>
     have d:=b y aaA;have f:=j λx c=>b x (by simp[c]);simp only[ee,DS];omega
   omega
def Tm.Nh(s:Tm)(hs:s.ok=true)(t:Tm):∀n,0<=n->t.ok=true->(Tm.gp n t s).ok=true:=by
 induction t using Tm.ind with
 |h k i ty l ih=>
  intro n hn a;have b:=a;rw[Tm.hI] at a;simp only[hE,ll] at a;rw[Tm.eS]
  by_cases d:k=1
  ·subst d;simp only[if_true,Tm.kH]
   by_cases c:i=n
   ·simp only[c,if_true];rw[Tm.Pd s 0 n VW hn];exact hs
   ·by_cases f:n<i
    ·simp only[c,f,jb,if_true];rw[Tm.hI]
     have o:1<=i:=VW
     simp[Tm.node,gX,kh,o,Ty.r9,eo]
    ·simp only[c,f,jb];exact b
  ·simp only[d,jb];rw[Tm.hI,Gk];simp only[hE,ll,qz];refine⟨a.1,?_⟩;rintro _ ⟨x,j,rfl⟩;exact ih x j _ (by have:=ju k;omega) (a.2 x j)
mutual
def Tm.fr:Tm->Int
 |.mk k i _ l=>if k=1 then i+1 else if k=2 then imax 0 (Tm.frL 0 l-1)else Tm.frL 0 l
def Tm.frL(m:Int):List Tm->Int
 |[]=>m|t::l=>Tm.frL (imax m t.fr) l
end
def map_id'{α:Type}{g:α->α}{l:List α}(h:∀x∈l,g x=x):l.map g=l:=by
 induction l with
 |nil=>rfl|cons x l ih=>simp only[kZ,h x aaA,ih λy a=>h y (by simp[a])]
def Tm.tx{k i:Int}{s:Ty}{l:List Tm}(h:(Tm.mk k i s l).ok=true):(k=1->l=[])/\0<=i/\(k≠1->i=0)/\(∀t∈l,t.ok=true)/\(l.length:Int)=gX k:=by
 rw[Tm.hI] at h;simp only[hE,ll,oI,Tm.node,tH] at h;obtain⟨⟨⟨⟨a,b⟩,c⟩,j⟩,d⟩:=h;refine⟨?_,b,λf=>c.resolve_left f,d,a⟩;rintro rfl;have:(l.length:Int)=0:=a;exact Cw VW
def Tm.acd(t:Tm):∀f,t.up f 0=t:=by
 induction t using Tm.ind with
 |h k i s l ih=>
  intro f;rw[Tm.fu,map_id' λx a=>ih x a _]
  congr 1
  split<;>omega
def FR{α:Type}{g:α->Nat}{l:List α}(h:∀x∈l,g x=0):ee g l=0:=by
 induction l with
 |nil=>rfl|cons x l ih=>simp[ee,h x aaA,ih λy a=>h y (by simp[a])]
def Tm.kd:Option Tm->Int
 |some t=>t.alX|none=>0
def Tm.root:Tm->Bool
 |.mk k _ _ l=>(decide (k=3)&&decide (Tm.kd l[0]?=2))||(decide (k=6)&&(decide (Tm.kd l[2]?=4)||decide (Tm.kd l[2]?=5)))||(decide (k=9)&&(decide (Tm.kd l[2]?=7)||decide (Tm.kd l[2]?=8)))||
  ((decide (k=11)||decide (k=12))&&decide (Tm.kd l[0]?=10))
mutual
def Tm.nf:Tm->Bool
 |.mk k i s l=>!(Tm.mk k i s l).root&&Tm.nfL l
def Tm.nfL:List Tm->Bool
 |[]=>true|t::l=>t.nf&&Tm.nfL l
end
def Tm.adR(l:List Tm):Tm.nfL l=l.all Tm.nf:=by
 induction l with
 |nil=>rfl|cons t l ih=>simp[Tm.nfL,ih]
def Tm.ac4(k i:Int)(s:Ty)(l:List Tm):(Tm.mk k i s l).nf=(!(Tm.mk k i s l).root&&l.all Tm.nf):=by rw[Tm.nf,Tm.adR]
def pn(f:Tm):List Tm->Tm
 |[]=>f|a::l=>pn (.mk 3 0 (.mk 0 []) [f,a]) l
def Tm.fD:Tm->Tm
 |.mk k i s l=>
  if k=3 then(match l with|[.mk _ _ _ [b],a]=>Tm.gp 0 b a|_=>.mk k i s l)
  else if k=11 then(match l with|[.mk _ _ _ (a::_)]=>a|_=>.mk k i s l)
  else if k=12 then(match l with|[.mk _ _ _ [_,b]]=>b|_=>.mk k i s l)
  else(match l with
   |[b,st,.mk _ _ _ []]=>b|[b,st,.mk _ _ _ [n]]=>pn st [n,.mk k i s [b,st,n]]|[b,st,.mk _ _ _ [h,t]]=>pn st [h,t,.mk k i s [b,st,t]]|_=>.mk k i s l)
mutual
inductive NR (nh:List HC):Nat->Tm->Prop
 |mk {p:Nat} {x:r_} {l:List Tm}:HC.HJ nh p=some x->NRL nh x.alY l->x.size=((Tm.mk x.alX x.al0 x.NQ l).alZ:Int)->x.free=(Tm.mk x.alX x.al0 x.NQ l).fr->(x.normal=true->(Tm.mk x.alX x.al0 x.NQ l).nf=true)->NR nh p (.mk x.alX x.al0 x.NQ l)
inductive NRL (nh:List HC):List (Option Nat)->List Tm->Prop
 |nil:NRL nh [] []|cons {p:Nat} {t:Tm} {ps:List (Option Nat)} {ts:List Tm}:NR nh p t->NRL nh ps ts->NRL nh (some p::ps) (t::ts)
end
structure Sm (M:Int) (t:Tm):Prop where
 ok:t.ok=true
 al3:t.al3 M=true
 alZ:t.alZ<=1000000
def Sm.arg{M k i:Int}{s:Ty}{l:List Tm}(h:Sm M (.mk k i s l)):∀t∈l,Sm M t:=by
 intro t a;have b:=h.al3;have c:=h.alZ;rw[Tm.fK] at b;simp only[hE,ll] at b;rw[Tm.dM] at c;exact⟨(Tm.tx h.ok).2.2.2.1 t a,b.2 t a,by have:=eF Tm.alZ a;omega⟩
theorem Sm.mono{M N:Int}{t:Tm}(h:Sm M t)(hm:M<=N):Sm N t:=⟨h.ok,by
 have:∀t:Tm,t.al3 M=true->t.al3 N=true:=by
  intro t
  induction t using Tm.ind with
  |h k i s l ih=>
   rw[Tm.fK,Tm.fK];simp only[hE,ll,oI]
   exactλ⟨c,b⟩=>⟨VW,λx a=>ih x a (b x a)⟩
 exact this t h.al3,h.alZ⟩
def W6{M b:Int}(d:0<=b)(t:Tm):∀f,t.al3 M=true->(t.up f b).al3 (M+b)=true:=by
 induction t using Tm.ind with
 |h k i s l ih=>
  intro f h;rw[Tm.fK] at h;simp only[hE,ll,oI] at h;rw[Tm.fu,Tm.fK];simp only[hE,ll,oI];refine⟨by split<;>omega,?_⟩;intro x c;obtain⟨y,a,rfl⟩:=qz.1 c;exact ih y a _ (h.2 y a)
def U1{M N B:Int}(F:M<=B)(s:Tm)(hs:s.al3 N=true)(t:Tm):∀n,0<=n->N+n+t.alZ<=B->t.al3 M=true->t.ok=true->(Tm.gp n t s).al3 B=true:=by
 induction t using Tm.ind with
 |h k i ty l ih=>
  intro n hn o d w;have q:=d;rw[Tm.fK] at d;simp only[hE,ll,oI] at d;obtain⟨o1,o2,G,A,H⟩:=Tm.tx w;rw[Tm.eS]
  have c:∀(u:Tm) {a b:Int},a<=b->u.al3 a=true->u.al3 b=true:=by
   intro u
   induction u using Tm.ind with
   |h k i s l ih=>
    intro a b r;rw[Tm.fK,Tm.fK];simp only[hE,ll,oI]
    exactλ⟨I,C⟩=>⟨VW,λx f=>ih x f r (C x f)⟩
  have J:1<=(Tm.mk k i ty l).alZ:=Tm.eM _
  by_cases v:k=1
  ·rw[dR v];unfold Tm.kH
   split
   ·exact c _ VW (W6 hn s 0 hs)
   ·split
    ·rw[Tm.fK];simp;omega
    ·exact c _ VW q
  ·rw[dK v,Tm.fK];simp only[hE,ll,oI];refine⟨VW,?_⟩;intro x f;obtain⟨y,j,rfl⟩:=qz.1 f;have D:=ju k;have hm:=eF Tm.alZ j;rw[Tm.dM] at o;exact ih y j (n+fq k) VW VW (d.2 y j) (A y j)
def FG(a b:Int):eo a b=decide (a=b):=by grind[eo]
def agb{α:Type}{l:List α}(h:l.length=1):∃a,l=[a]:=by
 match l,h with|[a],_=>exact⟨a,rfl⟩
def aet{α:Type}{l:List α}(h:l.length=2):∃a b,l=[a,b]:=by
 match l,h with|[a,b],_=>exact⟨a,b,rfl⟩
def ahr{α:Type}{l:List α}(h:l.length=3):∃a b c,l=[a,b,c]:=by
 match l,h with|[a,b,c],_=>exact⟨a,b,c,rfl⟩
def Tm.sU{k i:Int}{s:Ty}{l:List Tm}(h:(Tm.mk k i s l).ok=true):(l.length:Int)=gX k:=(Tm.tx h).2.2.2.2
def Tm.ok3{i:Int}{s:Ty}{l:List Tm}(h:(Tm.mk 3 i s l).ok=true):∃a b,l=[a,b]:=aet (by have:=Tm.sU h;have e:gX 3=2:=rfl;omega)
def Tm.ok6{i:Int}{s:Ty}{l:List Tm}(h:(Tm.mk 6 i s l).ok=true):∃a b c,l=[a,b,c]:=ahr (by have:=Tm.sU h;have e:gX 6=3:=rfl;omega)
def Tm.ok9{i:Int}{s:Ty}{l:List Tm}(h:(Tm.mk 9 i s l).ok=true):∃a b c,l=[a,b,c]:=ahr (by have:=Tm.sU h;have e:gX 9=3:=rfl;omega)
def Tm.ok2{i:Int}{s:Ty}{l:List Tm}(h:(Tm.mk 2 i s l).ok=true):∃a,l=[a]:=agb (by have:=Tm.sU h;have e:gX 2=1:=rfl;omega)
def Tm.ah6{k i:Int}{s:Ty}{l:List Tm}(b:k=11\/k=12)(h:(Tm.mk k i s l).ok=true):∃a,l=[a]:=agb (by
 have:=Tm.sU h;rcases b with rfl|rfl
 ·have e:gX 11=1:=rfl;omega
 ·have e:gX 12=1:=rfl;omega)
def Tm.ahY{i:Int}{s:Ty}{l:List Tm}(h:(Tm.mk 10 i s l).ok=true):∃a b,l=[a,b]:=aet (by have:=Tm.sU h;have e:gX 10=2:=rfl;omega)
def Tm.ok0{k i:Int}{s:Ty}{l:List Tm}(a:k=4\/k=7)(h:(Tm.mk k i s l).ok=true):l=[]:=Cw (by
 have:=Tm.sU h;rcases a with rfl|rfl
 ·have e:gX 4=0:=rfl;omega
 ·have e:gX 7=0:=rfl;omega)
def Tm.ok5{i:Int}{s:Ty}{l:List Tm}(h:(Tm.mk 5 i s l).ok=true):∃a,l=[a]:=agb (by have:=Tm.sU h;have e:gX 5=1:=rfl;omega)
def Tm.ok8{i:Int}{s:Ty}{l:List Tm}(h:(Tm.mk 8 i s l).ok=true):∃a b,l=[a,b]:=aet (by have:=Tm.sU h;have e:gX 8=2:=rfl;omega)
theorem Tm.ey{k i:Int}{s:Ty}{l:List Tm}(h:(Tm.mk k i s l).ok=true):∀t∈l,t.ok=true:=(Tm.tx h).2.2.2.1
inductive Tm.Rd:Tm->Prop
 |app {i s i' s' b a}:Tm.Rd (.mk 3 i s [.mk 2 i' s' [b],a])|zero {k ko i s i' s' b st}:(k=6/\ko=4\/k=9/\ko=7)->Tm.Rd (.mk k i s [b,st,.mk ko i' s' []])|succ {i s i' s' b st n}:Tm.Rd (.mk 6 i s [b,st,.mk 5 i' s' [n]])|cons {i s i' s' b st h t}:Tm.Rd (.mk 9 i s [b,st,.mk 8 i' s' [h,t]])|proj {k i s i' s' a b}:(k=11\/k=12)->Tm.Rd (.mk k i s [.mk 10 i' s' [a,b]])
def Tm.NZ{t:Tm}(d:t.ok=true)(h:t.root=true):t.Rd:=by
 cases t with
 |mk k i s l=>
  unfold Tm.root at h;simp only[tH,hE,oI] at h;rcases h with((⟨rfl,h⟩|⟨rfl,h⟩)|⟨rfl,h⟩)|⟨f,h⟩
  ·obtain⟨a,b,rfl⟩:=Tm.ok3 d;cases a with
   |mk k' j o q=>
    have f:k'=2:=by simpa[Tm.kd] using h
    subst f;obtain⟨v,rfl⟩:=Tm.ok2 (Tm.ey d (.mk 2 j o q) aaA);exact .app
  ·obtain⟨a,b,c,rfl⟩:=Tm.ok6 d;cases c with
   |mk k' j o q=>
    have f:k'=4\/k'=5:=by simpa[Tm.kd] using h
    have r:=Tm.ey d (.mk k' j o q) aaA;rcases f with rfl|rfl
    ·rw[Tm.ok0 (.inl rfl) r];exact .zero (.inl ⟨rfl,rfl⟩)
    ·obtain⟨n,rfl⟩:=Tm.ok5 r;exact .succ
  ·obtain⟨a,b,c,rfl⟩:=Tm.ok9 d;cases c with
   |mk k' j o q=>
    have f:k'=7\/k'=8:=by simpa[Tm.kd] using h
    have r:=Tm.ey d (.mk k' j o q) aaA;rcases f with rfl|rfl
    ·rw[Tm.ok0 (.inr rfl) r];exact .zero (.inr ⟨rfl,rfl⟩)
    ·obtain⟨n,m,rfl⟩:=Tm.ok8 r;exact .cons
  ·obtain⟨a,rfl⟩:=Tm.ah6 f d;cases a with
   |mk k' j o q=>
    have u:k'=10:=by simpa[Tm.kd] using h
    subst u;obtain⟨a,b,rfl⟩:=Tm.ahY (Tm.ey d (.mk 10 j o q) aaA);exact .proj f
def Dr:∀(l:List Tm) (f:Tm),(pn f l).alZ=f.alZ+ee Tm.alZ l+l.length
 |[],f=>by simp[pn,ee]|a::l,f=>by
  rw[pn,Dr l,Tm.dM]
  grind[ee]
def HI:∀(n:Nat) (t:Ty),t.alZ<=n->t.alZ<=1000000000->kF n t=some t:=by
 intro n
 induction n with
 |zero=>intro t h;have:=t.eM;omega
 |succ n ih=>
  intro t h a;cases t with
  |mk k l=>
   rw[Ty.dM] at h a;have d:=Ty.fX l;rw[kF];simp only[Ty.eG,Ty.eK,ef,et (l:=l) VW,ed];rw[kr id l 0 [] abu]
   ·simp
   ·intro j x v b c;have:=eF Ty.alZ b;rw[ih x VW VW];simp[fm (l:=v) (m:=[x]) (by simpa using c)]
def xP{t:Ty}(h:t.alZ<=1000000000):kF FU t=some t:=HI FU t (by rw[fI];exact h) h
def Ty.KU{k i:Int}{s:Ty}{n:Nat}(h:Tm.node k i s n=true):s.alZ<=64:=by
 unfold Tm.node at h;simp only[hE] at h;have a:=h.2
 by_cases b:kh k=true
 ·rw[dR b] at a;simp only[oI] at a;unfold Ty.err at a
  split at a
  ·split at a
   ·omega
   ·omega
  ·omega
 ·rw[dK b] at a;rw[(Ty.mT s).1 a,Ty.dM];simp[ee]
mutual
def Tm.KY(room:Int):Tm->Option (Option Tm)
 |.mk k i s l=>if(Tm.mk k i s l).root then(if((Tm.mk k i s l).fD.alZ:Int)-((Tm.mk k i s l).alZ:Int)>room then none else some (some (Tm.mk k i s l).fD))
  else match Tm.w6 room l with
   |none=>none|some none=>some none|some (some a)=>some (some (.mk k i s a))
def Tm.w6(room:Int):List Tm->Option (Option (List Tm))
 |[]=>some none|t::l=>match t.KY room with
  |none=>none|some (some a)=>some (some (a::l))|some none=>match Tm.w6 room l with
   |none=>none|some none=>some none|some (some b)=>some (some (t::b))
end
theorem Fl:∀(l:List Tm) (f:Tm),f.ok=true->(∀t∈l,t.ok=true)->(pn f l).ok=true
 |[],f,h,_=>h|a::l,f,h,b=>by
  rw[pn];refine Fl l _ ?_ λt d=>b t (by simp[d]);rw[Tm.hI];simp only[hE,ll];refine⟨rfl,?_⟩;intro x c;simp only[mb,ve,tG] at c;rcases c with rfl|rfl
  ·exact h
  ·exact b _ aaA
def DR{M:Int}(b:0<=M):∀(l:List Tm) (f:Tm),f.al3 M=true->(∀t∈l,t.al3 M=true)->(pn f l).al3 M=true
 |[],f,h,_=>h|a::l,f,h,c=>by
  rw[pn];refine DR b l _ ?_ λt i=>c t (by simp[i]);rw[Tm.fK];simp only[hE,ll,oI];refine⟨b,?_⟩;intro x d;simp only[mb,ve,tG] at d;rcases d with rfl|rfl
  ·exact h
  ·exact c _ aaA
theorem Tm.xI{k i:Int}{s:Ty}{l m:List Tm}(h:(Tm.mk k i s l).ok=true)(a:m.length=l.length)(hm:∀t∈m,t.ok=true):(Tm.mk k i s m).ok=true:=by
 rw[Tm.hI] at h|-;simp only[hE,ll] at h|-;rw[a];exact⟨h.1,hm⟩
def Tm.Dy{M k i:Int}{s:Ty}{l m:List Tm}(h:(Tm.mk k i s l).al3 M=true)(hm:∀t∈m,t.al3 M=true):(Tm.mk k i s m).al3 M=true:=by
 rw[Tm.fK] at h|-;simp only[hE,ll,oI] at h|-;exact⟨h.1,hm⟩
def X5{M:Int}(G:0<=M){t:Tm}(hs:Sm M t)(hn:t.alZ<=8192)(D:t.root=true):t.fD.ok=true/\t.fD.al3 (M+8192)=true:=by
 have y:=Tm.NZ hs.ok D;have up:∀u,Sm M u->u.al3 (M+8192)=true:=λu hu=>(hu.mono VW).al3;cases y with
 |app=>
  rename_i i s d f b a;have A:=hs.arg (.mk 2 d f [b]) aaA;have v:=hs.arg a aaA;have o:=A.arg b aaA;rw[Tm.dM] at hn;simp only[ee,Tm.dM] at hn
  have e:(Tm.mk 3 i s [.mk 2 d f [b],a]).fD=Tm.gp 0 b a:=by simp[Tm.fD]
  rw[e];exact⟨Tm.Nh a v.ok b 0 VW o.ok,U1 (M:=M) (N:=M) VW a v.al3 b 0 VW VW o.al3 o.ok⟩
 |proj B=>
  rename_i k i s d f a b;have w:=hs.arg (.mk 10 d f [a,b]) aaA;rcases B with rfl|rfl
  ·have:=w.arg a aaA;simpa[Tm.fD] using And.intro this.ok (up _ this)
  ·have:=w.arg b aaA;simpa[Tm.fD] using And.intro this.ok (up _ this)
 |zero B=>
  rename_i k F i s d f b st
  have q:k≠3/\k≠11/\k≠12:=VW
  have:(Tm.mk k i s [b,st,.mk F d f []]).fD=b:=by simp[Tm.fD,q.1,q.2.1,q.2.2]
  rw[this];have:=hs.arg b aaA;exact⟨this.ok,up _ this⟩
 |succ=>
  rename_i i s d f b st n;have x:=hs.arg b aaA;have j:=hs.arg st aaA;have l:=(hs.arg (.mk 5 d f [n]) aaA).arg n aaA
  have e:(Tm.mk 6 i s [b,st,.mk 5 d f [n]]).fD=pn st [n,.mk 6 i s [b,st,n]]:=by simp[Tm.fD,pn]
  rw[e];have r:(Tm.mk 6 i s [b,st,n]).ok=true:=Tm.xI hs.ok rfl (by intro t c;simp only[mb,ve,tG] at c;rcases c with rfl|rfl|rfl;all_goals first|exact x.ok|exact j.ok|exact l.ok);have hle:(Tm.mk 6 i s [b,st,n]).al3 (M+8192)=true:=Tm.Dy (hs.mono VW).al3 (by intro t c;simp only[mb,ve,tG] at c;rcases c with rfl|rfl|rfl;all_goals first|exact up _ x|exact up _ j|exact up _ l);refine⟨Fl _ _ j.ok ?_,DR VW _ _ (up _ j) ?_⟩<;>
  ·intro t c;simp only[mb,ve,tG] at c;rcases c with rfl|rfl
   ·first|exact l.ok|exact up _ l
   ·first|exact r|exact hle
 |cons=>
  rename_i i s d f b st h n;have x:=hs.arg b aaA;have j:=hs.arg st aaA;have l:=(hs.arg (.mk 8 d f [h,n]) aaA).arg n aaA;have C:=(hs.arg (.mk 8 d f [h,n]) aaA).arg h aaA
  have e:(Tm.mk 9 i s [b,st,.mk 8 d f [h,n]]).fD=pn st [h,n,.mk 9 i s [b,st,n]]:=by simp[Tm.fD,pn]
  rw[e];have r:(Tm.mk 9 i s [b,st,n]).ok=true:=Tm.xI hs.ok rfl (by intro t c;simp only[mb,ve,tG] at c;rcases c with rfl|rfl|rfl;all_goals first|exact x.ok|exact j.ok|exact l.ok);have hle:(Tm.mk 9 i s [b,st,n]).al3 (M+8192)=true:=Tm.Dy (hs.mono VW).al3 (by intro t c;simp only[mb,ve,tG] at c;rcases c with rfl|rfl|rfl;all_goals first|exact up _ x|exact up _ j|exact up _ l);refine⟨Fl _ _ j.ok ?_,DR VW _ _ (up _ j) ?_⟩<;>
  ·intro t c;simp only[mb,ve,tG] at c;rcases c with rfl|rfl|rfl
   ·first|exact C.ok|exact up _ C
   ·first|exact l.ok|exact up _ l
   ·first|exact r|exact hle
def Tm.Mt(room k i:Int)(s:Ty)(l:List Tm):(Tm.mk k i s l).KY room=if(Tm.mk k i s l).root then(if((Tm.mk k i s l).fD.alZ:Int)-((Tm.mk k i s l).alZ:Int)>room then none else some (some (Tm.mk k i s l).fD))
 else match Tm.w6 room l with
  |none=>none|some none=>some none|some (some a)=>some (some (.mk k i s a)):=by rw[Tm.KY]
def Y3{M room:Int}(w:0<=M)(t:Tm):Sm M t->t.alZ<=8192->∀f,t.KY room=some (some f)->f.ok=true/\f.al3 (M+8192)=true/\(f.alZ:Int)<=t.alZ+room:=by
 induction t using Tm.ind with
 |h k i s l ih=>
  intro hs hn f h;rw[Tm.Mt] at h
  by_cases j:(Tm.mk k i s l).root=true
  ·rw[dR j] at h
   split at h
   ·cases h
   ·obtain rfl:=kX (kX h);obtain⟨x,y⟩:=X5 w hs hn j;exact⟨x,y,VW⟩
  ·rw[dK j] at h;have up:∀u,Sm M u->u.al3 (M+8192)=true:=λu hu=>(hu.mono VW).al3;have n:=hn;rw[Tm.dM] at n
   have A:∀(ts a:List Tm),(∀t∈ts,t∈l)->Tm.w6 room ts=some (some a)->a.length=ts.length/\(∀t∈a,t.ok=true/\t.al3 (M+8192)=true)/\(ee Tm.alZ a:Int)<=ee Tm.alZ ts+room:=by
    intro ts
    induction ts with
    |nil=>intro a _ h;rw[Tm.w6] at h;cases h
    |cons t ts o=>
     intro a hm h;rw[Tm.w6] at h;have b:=hm t aaA;have B:=eF Tm.alZ b;have c:=hs.arg t b
     split at h
     ·cases h
     ·rename_i u hu;obtain rfl:=kX (kX h);obtain⟨a1,a2,a3⟩:=ih t b c VW u hu;refine⟨rfl,?_,by simp only[ee];omega⟩;intro v hv;rcases mb.1 hv with rfl|hv
      ·exact⟨a1,a2⟩
      ·have:=hs.arg v (hm v (by simp[hv]));exact⟨this.ok,up _ this⟩
     ·split at h
      ·cases h
      ·cases h
      ·rename_i q d;obtain rfl:=kX (kX h);obtain⟨a1,a2,a3⟩:=o q (λu hu=>hm u (by simp[hu])) d;refine⟨by simp[a1],?_,by simp only[ee];omega⟩;intro v hv;rcases mb.1 hv with rfl|hv
       ·exact⟨c.ok,up _ c⟩
       ·exact a2 v hv
   split at h
   ·cases h
   ·cases h
   ·rename_i q d;obtain rfl:=kX (kX h);obtain⟨a1,a2,a3⟩:=A l q (λt h=>h) d;refine⟨Tm.xI hs.ok a1 λt r=>(a2 t r).1,Tm.Dy (hs.mono VW).al3 λt r=>(a2 t r).2,?_⟩;rw[Tm.dM,Tm.dM];omega
def F_(room:Int)(t:Tm):t.nf=true↔t.KY room=some none:=by
 induction t using Tm.ind with
 |h k i s l ih=>
  rw[Tm.ac4,Tm.Mt]
  have f:∀ts:List Tm,(∀t∈ts,t∈l)->(ts.all Tm.nf=true↔Tm.w6 room ts=some none):=by
   intro ts
   induction ts with
   |nil=>intro _;simp[Tm.w6]|cons t ts b=>
    intro hm;have j:=ih t (hm t aaA);have n:=b λu hu=>hm u (by simp[hu]);rw[Oh,hE,j,n,Tm.w6];constructor
    ·rintro⟨c,d⟩;rw[c,d]
    ·intro h
     split at h
     ·cases h
     ·cases h
     ·rename_i c
      split at h
      ·cases h
      ·rename_i d;exact⟨c,d⟩
      ·cases h
  have:=f l λt h=>h
  by_cases a:(Tm.mk k i s l).root=true
  ·rw[dR a,a];simp
   try(split<;>simp)
  ·rw[dK a];simp only[hE,af6,this];constructor
   ·rintro⟨_,e⟩;rw[e]
   ·intro h;refine⟨by simpa using a,?_⟩
    split at h
    ·cases h
    ·rename_i e;exact e
    ·cases h
def Jg{α:Type}(a:List α)(x y:α)(b:List α):(a++x::b).set a.length y=a++y::b:=aaA
def xJ{t:Tm}(h:t.wt<=1000000000):kC t=some (if t.err=0 then(t.alZ:Int)else 0,t.err):=by
 unfold kC Tm.err;rw[xo FU t (by rw[fI];exact h) h]
 by_cases a:t.ok=true
 ·simp only[a,if_true,dQ,iM]
  by_cases b:4096<t.alZ
  ·rw[dR b,dR VW];rfl
  ·rw[dK b,dK VW];rfl
 ·simp only[a,dQ];rfl
def Ju{t:Tm}(h:t.wt<=1000000000):pU t=some t.err:=by
 unfold pU;rw[xJ h];rfl
theorem Tm.ig{t:Tm}(h:t.err=0):t.ok=true/\t.alZ<=4096:=by
 unfold Tm.err at h
 split at h
 ·rename_i a
  split at h
  ·omega
  ·exact⟨a,VW⟩
 ·omega
def Tm.z:Tm:=.mk 0 0 (.mk 0 []) []
def Tm.norm:Nat->Int->Tm->Tm×Int×Int
 |0,m,t=>if t.nf then(t,m,0)else(Tm.z,0,5)|k+1,m,t=>match t.KY (4096-t.alZ)with
  |none=>(Tm.z,0,4)|some none=>(t,m,0)|some (some a)=>Tm.norm k (m+1) a
def X8{k:Nat}{m:Int}{t:Tm}(h:t.KY (4096-t.alZ)=none):t.norm (k+1) m=(Tm.z,0,4):=by rw[Tm.norm,h]
def Gb{k:Nat}{m:Int}{t:Tm}(h:t.KY (4096-t.alZ)=some none):t.norm (k+1) m=(t,m,0):=by rw[Tm.norm,h]
def Gq{k:Nat}{m:Int}{t a:Tm}(h:t.KY (4096-t.alZ)=some (some a)):t.norm (k+1) m=a.norm k (m+1):=by rw[Tm.norm,h]
def Sm.start{t:Tm}(h:t.err=0)(a:t.al3 536870912=true):Sm 536870912 t:=⟨(Tm.ig h).1,a,by have:=(Tm.ig h).2;omega⟩
mutual
def Fm.alZ:Fm->Nat
 |.mk _ _ ts l=>1+ee Tm.alZ ts+Fm.n9 l
def Fm.n9:List Fm->Nat
 |[]=>0|t::l=>t.alZ+Fm.n9 l
end
def Fm.r5(l:List Fm):Fm.n9 l=ee Fm.alZ l:=by
 induction l with
 |nil=>rfl|cons t l ih=>simp[Fm.n9,ee,ih]
theorem Fm.dM(k:Int)(s:Ty)(ts:List Tm)(l:List Fm):(Fm.mk k s ts l).alZ=1+ee Tm.alZ ts+ee Fm.alZ l:=by rw[Fm.alZ,Fm.r5]
def Fm.eM(t:Fm):1<=t.alZ:=by cases t;rw[Fm.alZ];omega
def Fm.fX(l:List Fm):l.length<=ee Fm.alZ l:=jr _ _ λt _=>t.eM
mutual
def Fm.wt:Fm->Nat
 |.mk _ s ts l=>1+s.alZ+ee Tm.wt ts+Fm.Qv l
def Fm.Qv:List Fm->Nat
 |[]=>0|t::l=>t.wt+Fm.Qv l
end
def Fm.FT(l:List Fm):Fm.Qv l=ee Fm.wt l:=by
 induction l with
 |nil=>rfl|cons t l ih=>simp[Fm.Qv,ee,ih]
theorem Fm.iG(k:Int)(s:Ty)(ts:List Tm)(l:List Fm):(Fm.mk k s ts l).wt=1+s.alZ+ee Tm.wt ts+ee Fm.wt l:=by rw[Fm.wt,Fm.FT]
def Fm.kv(t:Fm):1<=t.wt:=by cases t;rw[Fm.wt];omega
def Fm.tY(l:List Fm):l.length<=ee Fm.wt l:=jr _ _ λt _=>t.kv
def Fm.ind{p:Fm->Prop}(h:∀k s ts l,(∀t∈l,p t)->p (.mk k s ts l))(t:Fm):p t:=by
 have:∀n (t:Fm),t.alZ<=n->p t:=by
  intro n
  induction n with
  |zero=>intro t a;have:=t.eM;omega
  |succ n ih=>
   intro t a;cases t with
   |mk k s ts l=>
    rw[Fm.dM] at a;exact h k s ts l λu hu=>ih u (by have:=eF Fm.alZ hu;omega)
 exact this _ t (g_ _)
def Fm.im(t:Fm):t.alZ<=t.wt:=by
 induction t using Fm.ind with
 |h k s ts l ih=>rw[Fm.dM,Fm.iG];have:=k_ ih;have:=k_ (f:=Tm.alZ) (g:=Tm.wt) (l:=ts) λx _=>x.im;omega
def ki(k:Int):Bool:=decide (k=4\/k=5\/k=6\/k=7)
def qB(k:Int):Int:=if ki k then 1 else 0
def yQ(k:Int):0<=qB k/\qB k<=1:=by unfold qB;split<;>omega
def l0(k:Int):k8 k=some (ki k):=by
 unfold k8 ki
 congr 1
 rw[HM];simp
def pL(f:Fm):mW f=some (qB f.alX):=by
 unfold mW qB;rw[l0];simp only[dI]
 split<;>rfl
def Fm.node(k:Int)(s:Ty)(a n:Nat):Bool:=
 if k=1 then s.r9&&decide (a=2)&&decide (n=0)
 else if k=2\/k=3 then s.r9&&decide (a=0)&&decide (n=2)
 else ki k&&decide (s.err=0)&&decide (a=0)&&decide (n=1)
mutual
def Fm.ok:Fm->Bool
 |.mk k s ts l=>Fm.node k s ts.length l.length&&ts.all Tm.ok&&Fm.Mc l
def Fm.Mc:List Fm->Bool
 |[]=>true|t::l=>t.ok&&Fm.Mc l
end
def Fm.AX(l:List Fm):Fm.Mc l=l.all Fm.ok:=by
 induction l with
 |nil=>rfl|cons t l ih=>simp[Fm.Mc,ih]
theorem Fm.hI(k:Int)(s:Ty)(ts:List Tm)(l:List Fm):(Fm.mk k s ts l).ok=(Fm.node k s ts.length l.length&&ts.all Tm.ok&&l.all Fm.ok):=by rw[Fm.ok,Fm.AX]
def Fm.err(t:Fm):Int:=if t.ok then(if 4096<t.alZ then 4 else 0)else 2
def gv{α:Type}{l:List α}:(l.length:Int)=0↔l=[]:=by cases l<;>simp;omega
def jw{α:Type}{l:List α}(h:(l.length:Int)=1):∃a,l=[a]:=by
 match l,h with
 |[a],_=>exact⟨a,rfl⟩|[],h=>simp at h
 |_::_::_,h=>simp at h;omega
def qk{α:Type}{l:List α}(h:(l.length:Int)=2):∃a b,l=[a,b]:=by
 match l,h with
 |[a,b],_=>exact⟨a,b,rfl⟩|[],h=>simp at h
 |[_],h=>simp at h
 |_::_::_::_,h=>simp at h;omega
def yW{t:Tm}(h:t.wt<=1000000000):kO FU t=some t.ok:=BA FU t (by rw[fI];exact h) h
def A6:∀(n:Nat) (t:Fm),t.wt<=n->t.wt<=1000000000->mm n t=some t.ok:=by
 intro n
 induction n with
 |zero=>intro t h;have:=t.kv;omega
 |succ n ih=>
  intro t h o;cases t with
  |mk k s ts l=>
   rw[Fm.iG] at h o;rw[mm,Fm.hI];simp only[Fm.eG,Fm.eK,Fm.jN,Fm.fM,ef,l',tH,gh,fQ,xQ,l0,kI (t:=s) VW,dI,eY,iE]
   by_cases r:k=1
   ·simp only[r,if_true,Fm.node]
    by_cases j:(l.length:Int)=0
    ·have:=gv.1 j;subst this;cases i:s.r9 with
     |false=>simp|true=>
      by_cases d:(ts.length:Int)=2
      ·obtain⟨a,b,rfl⟩:=qk d;simp only[ee] at h o;simp only[d,if_true,lX,rz,dI];rw[yW (t:=a) VW,yW (t:=b) VW];cases c:a.ok<;>cases f:b.ok<;>simp[c,f]
      ·have c:¬ts.length=2:=VW
       simp[d,c]
    ·have i:¬l.length=0:=VW
     simp[j,i]
   ·simp only[r,jb,Fm.node]
    by_cases j:k=2\/k=3
    ·simp only[j,if_true]
     by_cases i:(ts.length:Int)=0
     ·have:=gv.1 i;subst this;cases d:s.r9 with
      |false=>simp|true=>
       by_cases c:(l.length:Int)=2
       ·obtain⟨a,b,rfl⟩:=qk c;simp only[ee] at h o;simp only[c,if_true,lX,rz,dI];rw[ih a VW VW,ih b VW VW];cases f:a.ok<;>cases q:b.ok<;>simp[f,q]
       ·have f:¬l.length=2:=VW
        simp[c,f]
     ·have d:¬ts.length=0:=VW
      simp[i,d]
    ·simp only[j,jb];cases i:ki k with
     |false=>simp|true=>
      by_cases d:(ts.length:Int)=0
      ·have:=gv.1 d;subst this
       by_cases c:s.err=0
       ·by_cases f:(l.length:Int)=1
        ·obtain⟨a,rfl⟩:=jw f;simp only[ee] at h o;simp only[c,f,if_true,lX,dI];rw[ih a VW VW];simp
        ·have q:¬l.length=1:=VW
         simp[c,f,q]
       ·simp[c]
      ·have c:¬ts.length=0:=VW
       simp[d,c]
def sX:∀(n:Nat) (t:Fm),t.alZ<=n->t.alZ<=1000000000->me n t=some (t.alZ:Int):=by
 intro n
 induction n with
 |zero=>intro t h;have:=t.eM;omega
 |succ n ih=>
  intro t h b;cases t with
  |mk k s ts l=>
   rw[Fm.dM] at h b;have f:=Fm.fX l;have c:=Tm.fX ts;rw[me];simp only[Fm.eG,Fm.jN,ef,et (l:=l) VW,et (l:=ts) VW,ed]
   have d:=pt (ρ:=Int) (F:=λ(j:Int) (x:Tm) (v:Int)=>dH (fV FU x) λy=>some (gq.next (eW .i64 v y))) Tm.alZ ts 0 1 VW (by
    intro j x v a;have:=eF Tm.alZ a;rw[n5 FU x (by rw[fI];omega) VW]
    rfl)
   have k2:=pt (ρ:=Int) (F:=λ(j:Int) (x:Fm) (v:Int)=>dH (me n x) λy=>some (gq.next (eW .i64 v y))) Fm.alZ l 0 (1+ee Tm.alZ ts) VW (by
    intro j x v a;have:=eF Fm.alZ a;rw[ih x VW VW]
    rfl)
   rw[show(1:Int)=((1:Nat):Int)from rfl,d];simp only[dI,eC];rw[k2];simp[Fm.dM]
def jg{t:Fm}(h:t.wt<=1000000000):j8 t=some t.err:=by
 have:=t.im;unfold j8 Fm.err;rw[A6 FU t (by rw[fI];exact h) h,sX FU t (by rw[fI];omega) VW];cases t.ok with
 |false=>simp|true=>by_cases a:4096<t.alZ<;>simp[a]<;>omega
def Ka(f:Fm)(h:f.wt<=1000000000):rM f=some (Fm.node f.alX f.dN f.ei.length f.alY.length):=by
 cases f with
 |mk k s ts l=>
  rw[Fm.iG] at h;show rM (.mk k s ts l)=some (Fm.node k s ts.length l.length)
  have d:(eo (ts.length:Int) 2&&eo (l.length:Int) 0)=(decide (ts.length=2)&&decide (l.length=0)):=by
   rw[HM];simp only[hE,gh,oI];omega
  have i:(eo (ts.length:Int) 0&&eo (l.length:Int) 2)=(decide (ts.length=0)&&decide (l.length=2)):=by
   rw[HM];simp only[hE,gh,oI];omega
  have j:(eo (ts.length:Int) 0&&eo (l.length:Int) 1)=(decide (ts.length=0)&&decide (l.length=1)):=by
   rw[HM];simp only[hE,gh,oI];omega
  unfold rM;simp only[Fm.eG,Fm.eK,Fm.jN,Fm.fM,ef,l',vL,tH,gh,fQ,lI (t:=s) VW,sC,dI,dQ,ez,d,i,j];unfold Fm.node
  by_cases b:k=1
  ·cases c:s.r9<;>simp[b]
  ·by_cases c:k=2\/k=3
   ·cases a:s.r9<;>simp[b,c]
   ·by_cases a:k=4\/k=5\/k=6\/k=7
    ·have n:ki k=true:=by simp[ki,a]
     by_cases o:s.err=0<;>simp[b,c,a,o,n]
    ·have n:ki k=false:=by simp[ki,a]
     simp[b,c,a,n]
def BO:∀(n:Nat) (t:Fm),t.wt<=n->t.wt<=1000000000->jy n t=some (if t.ok then((t.alZ:Int),true)else(0,false)):=by
 intro n
 induction n with
 |zero=>intro t h;have:=t.kv;omega
 |succ n ih=>
  intro t h o;cases t with
  |mk k s ts l=>
   have q:=Ka (.mk k s ts l) o;rw[Fm.iG] at h o;have y:=Fm.tY l;have r:=Tm.tY ts;have hn:ee Tm.alZ ts<=ee Tm.wt ts:=k_ λx _=>x.im;have u:ee Fm.alZ l<=ee Fm.wt l:=k_ λx _=>x.im
   have w:fw (λ(f:Int) (a:Tm) (b:Int)=>dV (jH FU a) λc d=>if d then some (gq.next (eW .i64 b c))else some (gq.ret ((0:Int),false))) ts 0 1=if ts.all Tm.ok then some (.inl ((1+ee Tm.alZ ts:Nat):Int))else some (.inr (0,false)):=by
    refine wV Tm.alZ Tm.ok _ ts 0 1 VW ?_;intro j x v i;have:=eF Tm.wt i;rw[xo FU x (by rw[fI];omega) VW];cases x.ok<;>simp
   have k2:fw (λ(f:Int) (a:Fm) (b:Int)=>dV (jy n a) λc d=>if d then some (gq.next (eW .i64 b c))else some (gq.ret ((0:Int),false))) l 0 ((1+ee Tm.alZ ts:Nat):Int)=if l.all Fm.ok then some (.inl ((1+ee Tm.alZ ts+ee Fm.alZ l:Nat):Int))else some (.inr (0,false)):=by
    refine wV Fm.alZ Fm.ok _ l 0 _ VW ?_;intro j x v i;have:=eF Fm.wt i;rw[ih x VW VW];cases x.ok<;>simp
   rw[jy,q];simp only[Fm.eG,Fm.eK,Fm.jN,Fm.fM,ef,et (l:=l) VW,et (l:=ts) VW,ed,dI,w,Fm.hI,Fm.dM];cases A:Fm.node k s ts.length l.length with
   |false=>simp|true=>
    cases B:ts.all Tm.ok with
    |false=>simp|true=>
     simp only[if_true,dI,eC,k2,HN];cases C:l.all Fm.ok<;>simp
def u9{t:Fm}(h:t.wt<=1000000000):iX t=some (if t.err=0 then(t.alZ:Int)else 0,t.err):=by
 unfold iX Fm.err;rw[BO FU t (by rw[fI];exact h) h];cases t.ok with
 |false=>simp|true=>
  by_cases a:4096<t.alZ
  ·simp[a];omega
  ·simp[a];omega
def Gf{t:Fm}(h:t.wt<=1000000000):km t=some t.err:=by
 unfold km;rw[u9 h];rfl
def KQ:∀(n:Nat) (t:Fm),t.wt<=n->t.wt<=1000000000->lQ n t=some t:=by
 intro n
 induction n with
 |zero=>intro t h;have:=t.kv;omega
 |succ n ih=>
  intro t h c;cases t with
  |mk k s ts l=>
   rw[Fm.iG] at h c;have f:=Fm.tY l;have d:=Tm.tY ts;rw[lQ];simp only[Fm.eG,Fm.eK,Fm.jN,Fm.fM,ef,et (l:=l) VW,et (l:=ts) VW,ed,jv (t:=s) VW,dI];rw[kr id ts 0 [] abu]
   ·simp only[dI,eC];rw[kr id l 0 [] abu]
    ·simp
    ·intro j x v a b;have:=eF Fm.wt a;rw[ih x VW VW];simp[fm (l:=v) (m:=[x]) (by simpa using b)]
   ·intro j x v a b;have:=eF Tm.wt a;rw[uW (t:=x) VW];simp[fm (l:=v) (m:=[x]) (by simpa using b)]
def r7{t:Fm}(h:t.wt<=1000000000):lQ FU t=some t:=KQ FU t (by rw[fI];exact h) h
mutual
def Fm.has:Fm->Bool
 |.mk k _ _ l=>if k=1 then false else if k=2 then Fm.Dh l else if k=5 then true else Fm.l9 l
def Fm.Dh:List Fm->Bool
 |[]=>false|f::l=>f.has||Fm.Dh l
def Fm.l9:List Fm->Bool
 |[]=>false|[f]=>f.has|_::f::l=>Fm.l9 (f::l)
end
def vx(k:Int)(a b:Ty):Ty×Bool×Int:=if(Ty.mk k [a,b]).err≠0 then(.mk 0 [],false,(Ty.mk k [a,b]).err)else(.mk k [a,b],true,0)
def LL(first last:Ty×Bool×Int):Ty×Bool×Int:=
 if first.2.2≠0\/first.2.1=false then(last.1,last.2.1,first.2.2)else if last.2.1 then vx 3 first.1 last.1 else(first.1,true,0)
def PF(first last:Ty×Bool×Int):Ty×Bool×Int:=
 if first.2.2≠0\/first.2.1=false then(last.1,true,first.2.2)else vx 4 first.1 last.1
def qG(k:Int)(s:Ty)(first last:Ty×Bool×Int):Ty×Bool×Int:=
 if last.2.2≠0 then(.mk 0 [],false,last.2.2)
 else if k=2 then LL first last
 else if k=5 then(if last.2.1 then vx 3 s last.1 else(s,true,0))
 else if last.2.1 then(if k=3 then PF first last else if k=4 then vx 4 s last.1 else(last.1,true,0))
 else(.mk 0 [],false,0)
def RA:Ty×Bool×Int:=(.mk 0 [],false,0)
mutual
def Fm.ct:Fm->Ty×Bool×Int
 |.mk k s _ l=>if k=1 then RA else qG k s (Fm.LJ l) (Fm.Hh l)
def Fm.LJ:List Fm->Ty×Bool×Int
 |[]=>RA|f::_=>f.ct
def Fm.Hh:List Fm->Ty×Bool×Int
 |[]=>RA|[f]=>f.ct|_::f::l=>Fm.Hh (f::l)
end
def Fm.y5(k:Int)(s:Ty)(ts:List Tm)(a b:Fm):(Fm.mk k s ts [a,b]).has=if k=1 then false else if k=2 then a.has||b.has else if k=5 then true else b.has:=by
 rw[Fm.has];simp[Fm.Dh,Fm.l9]
theorem Fm.zL(k:Int)(s:Ty)(ts:List Tm)(a:Fm):(Fm.mk k s ts [a]).has=if k=1 then false else if k=5 then true else a.has:=by
 rw[Fm.has];simp only[Fm.Dh,Fm.l9,Bool.or_false]
 by_cases b:k=2
 ·subst b;simp
 ·simp[b]
def Fm.has_eq(s:Ty)(ts:List Tm)(l:List Fm):(Fm.mk 1 s ts l).has=false:=by rw[Fm.has];simp
def Fm.Sg(k:Int)(s:Ty)(ts:List Tm)(a b:Fm):(Fm.mk k s ts [a,b]).ct=if k=1 then RA else qG k s a.ct b.ct:=by
 rw[Fm.ct];simp[Fm.LJ,Fm.Hh]
def Fm.Rs(k:Int)(s:Ty)(ts:List Tm)(a:Fm):(Fm.mk k s ts [a]).ct=if k=1 then RA else qG k s a.ct a.ct:=by
 rw[Fm.ct];simp[Fm.LJ,Fm.Hh]
def Fm.ac'(s:Ty)(ts:List Tm)(l:List Fm):(Fm.mk 1 s ts l).ct=RA:=by rw[Fm.ct];simp
def Fm.qP{p:Fm->Prop}(q:∀a b:Tm,a.ok=true->b.ok=true->p (.mk 1 (.mk 0 []) [a,b] []))
  (r:∀(k:Int) (a b:Fm),k=2\/k=3->a.ok=true->b.ok=true->p a->p b->p (.mk k (.mk 0 []) [] [a,b]))
  (t:∀(k:Int) (s:Ty) (a:Fm),k=4\/k=5\/k=6\/k=7->s.err=0->a.ok=true->p a->p (.mk k s [] [a])) (f:Fm) (j:f.ok=true):p f:=by
 induction f using Fm.ind with
 |h k s ts l ih=>
  rw[Fm.hI] at j;simp only[hE,ll] at j;obtain⟨⟨hn,d⟩,c⟩:=j;unfold Fm.node at hn
  split at hn
  ·rename_i n;subst n;simp only[hE,oI,Ty.mT] at hn;obtain⟨⟨rfl,i⟩,o⟩:=hn;obtain⟨a,b,rfl⟩:=qk (l:=ts) VW;have:=aaH.1 o;subst this;exact q a b (d a aaA) (d b aaA)
  ·split at hn
   ·rename_i n;simp only[hE,oI,Ty.mT] at hn;obtain⟨⟨rfl,i⟩,o⟩:=hn;obtain⟨a,b,rfl⟩:=qk (l:=l) VW;have:=aaH.1 i;subst this;exact r k a b n (c a aaA) (c b aaA) (ih a aaA (c a aaA)) (ih b aaA (c b aaA))
   ·simp only[hE,oI] at hn;obtain⟨⟨⟨u,hs⟩,i⟩,o⟩:=hn;obtain⟨a,rfl⟩:=jw (l:=l) VW;have:=aaH.1 i;subst this;refine t k s a ?_ hs (c a aaA) (ih a aaA (c a aaA));simpa[ki] using u
theorem Ty.gU{t:Ty}(h:t.err=0):t.ok=true/\t.alZ<=64:=by
 unfold Ty.err at h
 split at h
 ·split at h
  ·omega
  ·exact⟨‹_›,VW⟩
 ·omega
theorem Ty.Dk{t:Ty}(h:t.ok=true)(a:t.alZ<=64):t.err=0:=by unfold Ty.err;rw[dR h,dK VW]
def Ty.afW{t:Ty}(h:t.ok=true):t.err=0\/t.err=4:=by unfold Ty.err;rw[dR h];split<;>simp
def Ty.ok_two{k:Int}(c:k=3\/k=4){a b:Ty}(d:a.ok=true)(f:b.ok=true):(Ty.mk k [a,b]).ok=true:=by
 rw[Ty.hI]
 have:¬(k=1\/k=2\/k=5):=VW
 simp[Ty.want,c,this,d,f]
def zp{k:Int}(c:k=3\/k=4){a b:Ty}(d:a.ok=true)(f:b.ok=true):((vx k a b).2.2=0\/(vx k a b).2.2=4)/\((vx k a b).2.2=0->(vx k a b).2.1=true/\(vx k a b).1.err=0):=by
 unfold vx;rcases Ty.afW (Ty.ok_two c d f)with h|h
 ·rw[dK (by simp[h])];exact⟨.inl rfl,λ_=>⟨rfl,h⟩⟩
 ·rw[dR VW];exact⟨.inr h,λi=>absurd (h.symm.trans i) aar⟩
structure ahc (f:Fm):Prop where
 e:f.ct.2.2=0\/f.ct.2.2=4
 h:f.ct.2.2=0->f.ct.2.1=f.has
 n:f.has=false->f.ct.2.2=0
 t:f.ct.2.2=0->f.has=true->f.ct.1.err=0
def Hk(f:Fm)(A:f.ok=true):ahc f:=by
 refine Fm.qP (p:=ahc) ?_ ?_ ?_ f A
 ·intro a b _ _;refine⟨?_,?_,?_,?_⟩<;>rw[Fm.ac']<;>simp[RA,Fm.has_eq]
 ·intro k a b x B D c l
  have j:k≠1:=VW
  have u:k≠5:=VW
  refine⟨?_,?_,?_,?_⟩<;>rw[Fm.Sg,dK j]<;>(try rw[Fm.y5,dK j])<;>(try simp only[u,jb])<;>unfold qG
  all_goals
   rcases l.e with eb|eb
   ·have C:=l.h eb;have q:=l.t eb;rcases x with rfl|rfl
    ·--and
     simp only[eb,ne_eq,O5,jb,if_true];unfold LL;rcases c.e with ea|ea
     ·have r:=c.h ea;have d:=c.t ea;cases i:a.has
      ·simp_all
      ·cases o:b.has
       ·simp_all
       ·have:=zp (k:=3) (.inl rfl) (Ty.gU (d i)).1 (Ty.gU (q o)).1
        simp_all
     ·have:a.has=true:=by
       cases h:a.has with
       |true=>rfl|false=>have:=c.n h;omega
      simp_all
    ·simp only[eb,ne_eq,O5,jb,show¬(3:Int)=2 by omega,show¬(3:Int)=5 by omega,if_true];unfold PF;cases o:b.has
     ·simp_all
     ·rcases c.e with ea|ea
      ·have r:=c.h ea;have d:=c.t ea;cases i:a.has
       ·simp_all
       ·have:=zp (k:=4) (.inr rfl) (Ty.gU (d i)).1 (Ty.gU (q o)).1
        simp_all
      ·simp_all
   ·have:b.has=true:=by
     cases h:b.has with
     |true=>rfl|false=>have:=l.n h;omega
    simp[eb,this]
 ·intro k s a x hs B c
  have j:k≠1:=VW
  have v:k≠2:=VW
  have w:k≠3:=VW
  refine⟨?_,?_,?_,?_⟩<;>rw[Fm.Rs,dK j]<;>(try rw[Fm.zL,dK j])<;>unfold qG<;>(try simp only[v,w,jb])
  all_goals
   rcases c.e with ea|ea
   ·have r:=c.h ea;have d:=c.t ea;cases i:a.has
    ·by_cases y:k=5<;>simp_all
    ·have F:=zp (k:=3) (.inl rfl) (Ty.gU hs).1 (Ty.gU (d i)).1;have G:=zp (k:=4) (.inr rfl) (Ty.gU hs).1 (Ty.gU (d i)).1
     by_cases y:k=5
     ·simp_all
     ·by_cases H:k=4<;>simp_all
   ·have:a.has=true:=by
     cases h:a.has with
     |true=>rfl|false=>have:=c.n h;omega
    by_cases y:k=5<;>simp_all
theorem Ty.rW(k:Int)(a b:Ty):(Ty.mk k [a,b]).alZ=1+a.alZ+b.alZ:=by rw[Ty.dM];simp[ee];omega
def Jl(f:Fm)(a:f.ok=true)(h:f.ct.2.2=0)(b:f.ct.2.1=true):f.ct.1.alZ<=64:=
 (Ty.gU ((Hk f a).t h (by rw[<-(Hk f a).h h];exact b))).2
theorem Fm.ig{f:Fm}(h:f.err=0):f.ok=true/\f.alZ<=4096:=by
 unfold Fm.err at h
 split at h
 ·split at h
  ·omega
  ·exact⟨‹_›,VW⟩
 ·omega
def Fm.KG(f:Fm):Ty×Int:=if f.err≠0 then(.mk 0 [],f.err)else if f.ct.2.2≠0 then(.mk 0 [],f.ct.2.2)else(if f.has then f.ct.1 else .mk 5 [],0)
def F8:∀(n:Nat) (f:Fm),f.alZ<=n->f.ok=true->jK n f=some f.has:=by
 intro n
 induction n with
 |zero=>intro f h;have:=f.eM;omega
 |succ n ih=>
  intro f h t;refine Fm.qP (p:=λf=>f.alZ<=n+1->jK (n+1) f=some f.has) ?_ ?_ ?_ f t h
  ·intro a b _ _ _;rw[jK,Fm.has_eq];rfl
  ·intro k a b u i v _ _ hn;rw[Fm.dM] at hn;simp only[ee] at hn;have d:=ih a VW i;have j:=ih b VW v
   have c:k≠1:=VW
   have l:k≠5:=VW
   have o:dX [a,b] (fL .i64 (eA [a,b]) 1)=some b:=by
    rw[gi aaA aaA];rfl
   have w:dX [a,b] 0=some a:=rfl;have x:dX [a,b] 1=some b:=rfl;rw[jK,Fm.y5,dK c];simp only[Fm.eG,Fm.eK,gh,c,l,jb,o,w,x,dI,j,d,ef]
   by_cases r:k=2
   ·simp only[r,if_true];cases a.has<;>simp
   ·simp[r]
  ·intro k s a u hs i _ hn;rw[Fm.dM] at hn;simp only[ee] at hn;have d:=ih a VW i
   have c:k≠1:=VW
   have q:k≠2:=VW
   have o:dX [a] (fL .i64 (eA [a]) 1)=some a:=by
    rw[gi aaA aaA];rfl
   rw[jK,Fm.zL,dK c];simp only[Fm.eG,Fm.eK,gh,c,q,jb,o,dI,d]
   by_cases y:k=5<;>simp[y]
def ym(f:Fm)(h:f.wt<=1000000000):nD f=some (if f.err≠0 then(false,f.err)else(f.has,0)):=by
 unfold nD;rw[jg h];simp only[dI,ez]
 by_cases he:f.err=0
 ·rw[F8 FU f (by rw[fI];have:=f.im;omega) (Fm.ig he).1];simp[he]
 ·simp[he]
def oG(f:Fm)(h:f.wt<=1000000000)(he:f.err=0):gz f=some f.has:=by
 unfold gz;rw[ym f h];simp[he]
def uB(t:Ty)(h:t.alZ<=1000000000):nx t 0=some (if t.err≠0 then(.mk 0 [],t.err)else(t,0)):=by
 unfold nx zQ;rw[kI h,CT FU t (by rw[fI];exact h) h]
 by_cases he:t.err=0<;>simp[he]
def sH(t:Ty){e:Int}(he:e≠0):nx t e=some (.mk 0 [],e):=by
 unfold nx;simp[he]
def Fm.rf(f:Fm):Ty×Int:=if f.ct.2.2≠0 then(.mk 0 [],f.ct.2.2)else(if f.has then f.ct.1 else .mk 5 [],0)
def Fm.M4{k:Int}{s:Ty}{ts:List Tm}{l:List Fm}(h:(Fm.mk k s ts l).err=0){a:Fm}(c:a∈l):a.err=0:=by
 obtain⟨b,d⟩:=Fm.ig h;rw[Fm.hI] at b;simp only[hE,ll] at b;rw[Fm.dM] at d;have:=eF Fm.alZ c;unfold Fm.err;rw[dR (b.2 a c),dK VW]
def OJ:∀(n:Nat) (f:Fm),f.alZ<=n->f.wt<=1000000000->f.err=0->k0 n f=some f.rf:=by
 intro n
 induction n with
 |zero=>intro f h;have:=f.eM;omega
 |succ n ih=>
  intro f h hw he;refine Fm.qP (p:=λf=>f.alZ<=n+1->f.wt<=1000000000->f.err=0->k0 (n+1) f=some f.rf) ?_ ?_ ?_ f (Fm.ig he).1 h hw he
  ·intro a b _ _ _ hw he;rw[k0,oG _ hw he,Fm.has_eq];unfold Fm.rf;rw[Fm.ac',Fm.has_eq];rfl
  ·intro k a b L v M _ _ hn hw he;have i:=Fm.M4 he (a:=a) aaA;have w:=Fm.M4 he (a:=b) aaA;have N:=Hk _ (Fm.ig he).1;rw[k0,oG _ hw he];rw[Fm.dM] at hn;rw[Fm.iG] at hw;simp only[ee] at hn hw;have q:=ih a VW VW i;have G:=ih b VW VW w
   have j:k≠1:=VW
   have x:k≠5:=VW
   have H:k≠4:=VW
   have I:dX [a,b] 0=some a:=rfl;have Q:dX [a,b] 1=some b:=rfl;simp only[Fm.eG,Fm.eK,Fm.fM,gh,H,x,jb,I,Q,dI,G,q,oG a VW i,oG b VW w];have R:=Hk a v;have S:=Hk b M;have l:=Jl a v;have F:=Jl b M;unfold Fm.rf;rw[Fm.Sg,dK j,Fm.y5,dK j];simp only[x,jb];rcases r:a.ct with⟨y,J,T⟩;rcases K:b.ct with⟨tb,U,W⟩;obtain⟨a1,a2,a3,a4⟩:=R;obtain⟨u,o,A,O⟩:=S;rw[r] at a1 a2 a3 a4 l;rw[K] at u o A O F;simp only at a1 a2 a3 a4 u o A O l F;unfold qG;rcases L with rfl|rfl
   ·simp only[if_true];unfold LL;cases c:a.has
    ·have:=a3 c;subst this;have:=a2 rfl;rw[c] at this;subst this;cases d:b.has
     ·have:=A d;subst this;have:=o rfl;rw[d] at this;subst this;simp[tW]
     ·simp only[WY,if_true,ox,jb];rcases u with rfl|rfl
      ·simp
      ·simp
    ·cases d:b.has
     ·have:=A d;subst this;have:=o rfl;rw[d] at this;subst this;simp only[agc,if_true,ox,jb];rcases a1 with rfl|rfl
      ·have:=a2 rfl;rw[c] at this;subst this;simp
      ·simp
     ·simp only[agc,if_true];rcases u with rfl|rfl
      ·have:=o rfl;rw[d] at this;subst this;rcases a1 with rfl|rfl
       ·have:=a2 rfl;rw[c] at this;subst this;have:=l rfl rfl;have:=F rfl rfl;simp[pK,vx];rw[uB _ (by rw[Ty.rW];omega)]
        by_cases t:(Ty.mk 3 [y,tb]).err=0<;>simp[t]
       ·simp
      ·rcases a1 with rfl|rfl
       ·simp[pK,sH]
       ·simp
   ·simp only[show¬(3:Int)=2 by omega,jb,if_true];unfold PF;cases d:b.has
    ·have:=A d;subst this;have:=o rfl;rw[d] at this;subst this;simp[tW]
    ·cases c:a.has
     ·have:=a3 c;subst this;have:=a2 rfl;rw[c] at this;subst this;rcases u with rfl|rfl
      ·have:=o rfl;rw[d] at this;subst this;simp
      ·simp
     ·rcases u with rfl|rfl
      ·have:=o rfl;rw[d] at this;subst this;rcases a1 with rfl|rfl
       ·have:=a2 rfl;rw[c] at this;subst this;have:=l rfl rfl;have:=F rfl rfl;simp[sd,vx];rw[uB _ (by rw[Ty.rW];omega)]
        by_cases t:(Ty.mk 4 [y,tb]).err=0<;>simp[t]
       ·simp
      ·rcases a1 with rfl|rfl
       ·simp[sd,sH]
       ·simp
  ·intro k s a L hs v _ hn hw he;have i:=Fm.M4 he (a:=a) aaA;rw[k0,oG _ hw he];rw[Fm.dM] at hn;rw[Fm.iG] at hw;simp only[ee] at hn hw;have q:=ih a VW VW i
   have j:k≠1:=VW
   have B:k≠2:=VW
   have C:k≠3:=VW
   have I:dX [a] 0=some a:=rfl;simp only[Fm.eG,Fm.eK,Fm.fM,gh,B,C,jb,I,dI,q,oG a VW i];have l:=Jl a v;have V:=(Ty.gU hs).2;unfold Fm.rf;rw[Fm.Rs,dK j,Fm.zL,dK j];obtain⟨a1,a2,a3,a4⟩:=Hk a v;rcases r:a.ct with⟨y,J,T⟩;rw[r] at a1 a2 a3 a4 l;simp only at a1 a2 a3 a4 l;unfold qG;simp only[B,C,jb]
   by_cases P:k=5
   ·subst P;simp only[if_true,show¬(5:Int)=4 by omega,jb];cases c:a.has
    ·have:=a3 c;subst this;have:=a2 rfl;rw[c] at this;subst this;simp
    ·rcases a1 with rfl|rfl
     ·have:=a2 rfl;rw[c] at this;subst this;have:=l rfl rfl;simp[pK,vx];rw[uB _ (by rw[Ty.rW];omega)]
      by_cases t:(Ty.mk 3 [s,y]).err=0<;>simp[t]
     ·simp[pK,sH]
   ·simp only[P,jb];cases c:a.has
    ·have:=a3 c;subst this;have:=a2 rfl;rw[c] at this;subst this;simp[tW]
    ·rcases a1 with rfl|rfl
     ·have:=a2 rfl;rw[c] at this;subst this;have:=l rfl rfl
      by_cases D:k=4
      ·subst D;simp[sd,vx];rw[uB _ (by rw[Ty.rW];omega)]
       by_cases t:(Ty.mk 4 [s,y]).err=0<;>simp[t]
      ·simp[D]
     ·by_cases D:k=4
      ·subst D;simp[sd,sH]
      ·simp[D]
def Le(f:Fm)(h:f.wt<=1000000000):jt f=some f.KG:=by
 unfold jt Fm.KG;rw[jg h];simp only[dI,ez]
 by_cases he:f.err=0
 ·rw[OJ FU f (by rw[fI];have:=f.im;omega) h he];simp only[he,ne_eq,O5,jb];rfl
 ·simp[he]
def Ty.nat:Ty:=.mk 1 []
def Ty.lD:Ty:=.mk 2 []
def Ty.unit:Ty:=.mk 5 []
def Ty.fn(a b:Ty):Ty:=.mk 4 [a,b]
def Ty.pr(a b:Ty):Ty:=.mk 3 [a,b]
def Ty.z:Ty:=.mk 0 []
inductive dU:List Ty->Tm->Ty->Prop
 |var {g t} (i:Nat):i<g.length->g[g.length-1-i]?=some t->dU g (.mk 1 i .z []) t|lam {g s b t}:(Ty.fn s t).err=0->dU (g++[s]) b t->dU g (.mk 2 0 s [b]) (.fn s t)|app {g f a s t}:dU g f (.fn s t)->dU g a s->dU g (.mk 3 0 .z [f,a]) t|zero {g}:dU g (.mk 4 0 .z []) .nat|succ {g a}:dU g a .nat->dU g (.mk 5 0 .z [a]) .nat|oN {g t b s n}:t.err=0->dU g b t->dU g s (.fn .nat (.fn t t))->dU g n .nat->dU g (.mk 6 0 t [b,s,n]) t|nil {g}:dU g (.mk 7 0 .z []) .lD|cons {g a b}:dU g a .nat->dU g b .lD->dU g (.mk 8 0 .z [a,b]) .lD|fold {g t b s n}:t.err=0->dU g b t->dU g s (.fn .nat (.fn .lD (.fn t t)))->dU g n .lD->dU g (.mk 9 0 t [b,s,n]) t|pair {g a b s t}:(Ty.pr s t).err=0->dU g a s->dU g b t->dU g (.mk 10 0 .z [a,b]) (.pr s t)|fst {g a s t}:dU g a (.pr s t)->dU g (.mk 11 0 .z [a]) s|snd {g a s t}:dU g a (.pr s t)->dU g (.mk 12 0 .z [a]) t|unit {g}:dU g (.mk 13 0 .z []) .unit
theorem Ty.qe:Ty.z.r9=true:=rfl
def Ty.tU{k:Int}(c:k=3\/k=4){a b:Ty}(h:(Ty.mk k [a,b]).err=0):a.err=0/\b.err=0:=by grind[Ty.gU,Ty.hI,Ty.rW,Ty.Dk]
def dU.ok{g:List Ty}{x:Tm}{t:Ty}(h:dU g x t):x.ok=true:=by
 induction h with
 |var i c f=>grind[Tm.hI,Tm.node,gX,kh,Ty.qe]|lam c _ ih=>have:=(Ty.tU (.inr rfl) c).1;simp[Tm.hI,Tm.node,gX,kh,this,ih]
 |app _ _ a b=>simp[Tm.hI,Tm.node,gX,kh,Ty.qe,a,b]|zero=>simp[Tm.hI,Tm.node,gX,kh,Ty.qe]|succ _ ih=>simp[Tm.hI,Tm.node,gX,kh,Ty.qe,ih]|oN c _ _ _ a b d=>grind[Tm.hI,Tm.node,gX,kh]|nil=>simp[Tm.hI,Tm.node,gX,kh,Ty.qe]|cons _ _ a b=>simp[Tm.hI,Tm.node,gX,kh,Ty.qe,a,b]|fold c _ _ _ a b d=>grind[Tm.hI,Tm.node,gX,kh]|pair _ _ _ a b=>simp[Tm.hI,Tm.node,gX,kh,Ty.qe,a,b]|fst _ ih=>simp[Tm.hI,Tm.node,gX,kh,Ty.qe,ih]|snd _ ih=>simp[Tm.hI,Tm.node,gX,kh,Ty.qe,ih]|unit=>simp[Tm.hI,Tm.node,gX,kh,Ty.qe]
def Tm.mu(t:Tm):∀{m n:Int},m<=n->t.al3 m=true->t.al3 n=true:=by
 induction t using Tm.ind with
 |h k i s l ih=>grind[Tm.fK]
def dU.al3{g:List Ty}{x:Tm}{t:Ty}(h:dU g x t):∀m:Int,((g.length+x.alZ:Nat):Int)<=m->x.al3 m=true:=by
 induction h with
 |var i d f=>grind[Tm.dM,ee,Tm.fK]|lam _ _ ih=>grind[Tm.dM,ee,Tm.fK]|zero|nil|unit=>grind[Tm.dM,ee,Tm.fK]|succ _ ih|fst _ ih|snd _ ih=>grind[Tm.dM,ee,Tm.fK]|app _ _ a b|cons _ _ a b|pair _ _ _ a b=>grind[Tm.dM,ee,Tm.fK]|oN _ _ _ _ a b c|fold _ _ _ _ a b c=>grind[Tm.dM,ee,Tm.fK]
def w7{α:Type}{f g:α->Nat}{c:Nat}{l:List α}(h:∀x∈l,f x<=c*g x):ee f l<=c*ee g l:=by
 induction l with
 |nil=>simp[ee]|cons x l ih=>simp only[ee,WZ];have:=h x aaA;have:=ih λy a=>h y (by simp[a]);omega
def Tm.js(t:Tm)(h:t.ok=true):t.wt<=65*t.alZ:=by
 induction t using Tm.ind with
 |h k i s l ih=>
  rw[Tm.hI] at h;simp only[hE,ll] at h;rw[Tm.iG,Tm.dM,WZ];have c:=w7 λx b=>ih x b (h.2 x b)
  have d:s.alZ<=64:=by
   have:=h.1;simp only[Tm.node,hE] at this;have a:=this.2
   split at a
   ·simp only[oI] at a;exact(Ty.gU a).2
   ·grind[Ty.mT,Ty.dM,ee]
  omega
def Fm.js(f:Fm)(h:f.ok=true):f.wt<=65*f.alZ:=by
 induction f using Fm.ind with
 |h k s ts l ih=>
  rw[Fm.hI] at h;simp only[hE,ll] at h;rw[Fm.iG,Fm.dM,WZ,WZ];have b:=w7 λx a=>ih x a (h.2 x a);have d:=w7 (f:=Tm.wt) (g:=Tm.alZ) (c:=65) (l:=ts) λx a=>x.js (h.1.2 x a)
  have i:s.alZ<=64:=by
   have:=h.1.1;unfold Fm.node at this
   split at this
   ·grind[Ty.mT,Ty.dM,ee]
   ·split at this
    ·grind[Ty.mT,Ty.dM,ee]
    ·simp only[hE,oI] at this;exact(Ty.gU this.1.1.2).2
  omega
structure eR.wf (d:eR):Prop where
 len:d.l.length<=1000
 lo:0<=d.AM
 hi:d.AM<=d.l.length
def Ug(x n:Int)(c:1<=n)(d:n<=1000000000):∃y,Jx x n=some y/\0<=y/\y<n:=by
 unfold Jx;simp only[YY (b:=n) VW];refine⟨_,rfl,?_⟩;unfold Wv
 have e:(x.tmod n).natAbs<n.natAbs:=by
  rw[Int.natAbs_tmod];exact abC _ VW
 rw[gd VW VW]
 have a:0<=x.tmod n+n:=VW
 exact⟨Int.tmod_nonneg _ a,Int.tmod_lt_of_pos _ VW⟩
def rm(d:eR)(a:d.wf)(n:Int)(c:1<=n)(f:n<=1000000000):∃x b,ir d n=some (x,b)/\0<=x/\x<n/\b.wf:=by
 unfold ir;simp only[l',tH,jR,jW,fQ]
 by_cases h:n<1\/(d.l.length:Int)<=d.AM
 ·grind
 ·rw[dK h];obtain⟨y,i,_⟩:=Ml (l:=d.l) a.lo VW;obtain⟨z,j,k,o⟩:=Ug y n c f;rw[i];simp only[dI,j];have:=a.len;have:=a.lo;rw[gd VW VW];exact⟨z,_,rfl,k,o,⟨a.len,by show 0<=d.AM+1;omega,by show d.AM+1<=(d.l.length:Int);omega⟩⟩
def gC:jD=some .nat:=rfl
def gQ:my=some .lD:=rfl
def Lw:tC=some .unit:=rfl
def y8{a b:Ty}(c:a.alZ<=1000000000)(d:b.alZ<=1000000000):tp a b=some (.pr a b):=by
 unfold tp;rw[jv c,jv d];rfl
def iY{a b:Ty}(c:a.alZ<=1000000000)(d:b.alZ<=1000000000):k6 a b=some (.fn a b):=by
 unfold k6;rw[jv c,jv d];rfl
def Ty.XR:Ty.nat.ok=true:=by unfold Ty.nat;rw[Ty.hI];rfl
def Ty.Ye:Ty.lD.ok=true:=by unfold Ty.lD;rw[Ty.hI];rfl
def Ty.SC:Ty.unit.ok=true:=by unfold Ty.unit;rw[Ty.hI];rfl
def Ty.il:Ty.nat.alZ=1:=by unfold Ty.nat;rw[Ty.dM];rfl
def Ty.oW:Ty.lD.alZ=1:=by unfold Ty.lD;rw[Ty.dM];rfl
def Ty.JO:Ty.unit.alZ=1:=by unfold Ty.unit;rw[Ty.dM];rfl
def Ty.iH(a b:Ty):(Ty.fn a b).alZ=1+a.alZ+b.alZ:=Ty.rW _ _ _
def Ty.oR(a b:Ty):(Ty.pr a b).alZ=1+a.alZ+b.alZ:=Ty.rW _ _ _
theorem Xw(k:Nat)(h:k<=4):1<=2^k/\2^k<=16:=by
 have:k=0\/k=1\/k=2\/k=3\/k=4:=VW
 grind
def R6:∀(n k:Nat) (d:eR),k<n->k<=4->d.wf->∃t i,nN n d (k:Int)=some (t,i)/\t.ok=true/\t.alZ+1<=2^(k+1)/\i.wf:=by
 intro n
 induction n with
 |zero=>intro k d h;omega|succ n ih=>
  intro k d A o v;obtain⟨x,d1,w,B,C,j⟩:=rm d v 7 VW VW;have D:=Xw k o
  have F:(2:Nat)^(k+1)=2*2^k:=by rw[Nat.pow_succ];omega
  have c:=λi (q:eR.wf i)=>(⟨Ty.nat,i,rfl,Ty.XR,by rw[Ty.il];omega,q⟩:∃t l,some (Ty.nat,i)=some (t,l)/\t.ok=true/\t.alZ+1<=2^(k+1)/\l.wf);rw[nN];simp only[ef,w,dQ,gC,gQ,Lw,dI,l',tH,gh,iM]
  split
  ·exact c d1 j
  split
  ·exact⟨.lD,d1,rfl,Ty.Ye,by rw[Ty.oW];omega,j⟩
  split
  ·exact⟨.unit,d1,rfl,Ty.SC,by rw[Ty.JO];omega,j⟩
  have two:0<(k:Int)->∃a b d2 d3,nN n d1 (fL .i64 (k:Int) 1)=some (a,d2)/\nN n d2 (fL .i64 (k:Int) 1)=some (b,d3)/\a.ok=true/\b.ok=true/\a.alZ+1<=2^k/\b.alZ+1<=2^k/\d3.wf:=by
   intro f;obtain⟨m,rfl⟩:∃m,k=m+1:=⟨k-1,VW⟩
   grind[gi]
  split
  ·split
   ·rename_i f;obtain⟨a,b,d2,d3,a1,r,a2,s,a3,y,u⟩:=two f;rw[a1];simp only[dQ];rw[r];simp only[dQ];rw[y8 VW VW];exact⟨_,_,rfl,Ty.ok_two (.inl rfl) a2 s,by rw[Ty.oR];omega,u⟩
   ·exact c d1 j
  split
  ·split
   ·rename_i f;obtain⟨a,b,d2,d3,a1,r,a2,s,a3,y,u⟩:=two f;rw[a1];simp only[dQ];rw[r];simp only[dQ];rw[iY VW VW];exact⟨_,_,rfl,Ty.ok_two (.inr rfl) a2 s,by rw[Ty.iH];omega,u⟩
   ·exact c d1 j
  ·exact c d1 j
def Ym(d:eR)(b:d.wf)(k:Nat)(c:k<=4):∃t a,nN FU d (k:Int)=some (t,a)/\t.err=0/\t.alZ+1<=2^(k+1)/\a.wf:=by
 obtain⟨t,a,f,h,i,j⟩:=R6 FU k d (by rw[fI];omega) c b
 grind[Xw,Ty.Dk]
def Q5(g:List Ty)(t:Ty)(hg:g.length<=1000000)(hn:∀s∈g,s.alZ<=1000000000):∃l,Em g t=some l/\l.length<=g.length/\∀v∈l,∃i:Nat,v=i/\i<g.length/\g[g.length-1-i]?=some t:=by
 unfold Em;simp only[et (l:=g) VW,ed,ef]
 have key:∀(l:List Ty) (i:Nat) (v:List Int),i+l.length=g.length->v.length<=i->(∀x∈v,∃j:Nat,x=j/\j<g.length/\g[g.length-1-j]?=some t)->∃a,fw (ρ:=List Int) (λ(j:Int) (u:Ty) (v:List Int)=>dH (dX g (fL .i64 (fL .i64 (eA g) 1) j)) λx=>dH (fv FU x t) λy=>if y then gG (fN v [j]) (some (gq.next (fU v [j])))else some (gq.next v)) l i v=some (.inl a)/\a.length<=g.length/\∀x∈a,∃j:Nat,x=j/\j<g.length/\g[g.length-1-j]?=some t:=by
  intro l
  induction l with
  |nil=>
   intro i v d k c;exact⟨v,rfl,by simp at d;omega,c⟩
  |cons y l ih=>
   intro i v d k c;simp only[mN] at d
   have b:g.length-1-i<g.length:=VW
   have n:dX g (fL .i64 (fL .i64 (eA g) 1) (i:Int))=some g[g.length-1-i]:=by grind[fQ,gi,hJ]
   rw[fY];simp only[n,dI,iJ (hn _ (DL b))];cases hs:Ty.kc g[g.length-1-i] t with
   |false=>
    simp only[ox,jb,dI,fk];exact ih (i+1) v VW VW c
   |true=>
    rw[Ty.kK] at hs;simp only[if_true,fm (l:=v) (m:=[(i:Int)]) abu,ed,dI,fk,iv];refine ih (i+1) (v++[(i:Int)]) VW abu ?_;intro x f;rcases tO.1 f with h|h
    ·exact c x h
    ·rw[EY] at h;exact⟨i,h,VW,by rw[po b,hs]⟩
 obtain⟨a,o,q,r⟩:=key g 0 [] aaA aaA aaA;rw[o];exact⟨a,rfl,q,r⟩
def vO(g l:List Ty)(h:g.length+l.length<=1000000):rL g l=some (g++l):=by
 unfold rL;rw[fm abu,fm abu];simp
def GM(n:Nat)(hn:n<=1000000):∃x,ra (n:Int)=some x/\∀g,dU g x .nat/\x.alZ=n+1:=by
 unfold ra;rw[pD 4 [] (by simp[ee])];simp only[dI,ef]
 obtain⟨o,q,l⟩:=LG (ρ:=Tm) (F:=un6 λ(h:Int) (i:Int) (v167:Int) (v168:Int) (j:List Ty) (k:List Tm)=>
   if pj h 0 then some (gq.next (fL .i64 h 1,5,0,0,[],[Tm.mk i v167 (Ty.mk v168 j) k]))else some (gq.y7 (h,i,v167,v168,j,k)))
  (λs=>0<=s.1/\s.1<=n/\(∀g,dU g (Tm.mk s.2.1 s.2.2.1 (Ty.mk s.2.2.2.1 s.2.2.2.2.1) s.2.2.2.2.2) .nat)/\(Tm.mk s.2.1 s.2.2.1 (Ty.mk s.2.2.2.1 s.2.2.2.2.1) s.2.2.2.2.2).alZ+s.1=n+1)
  (λs=>s.1.toNat)
  (λo=>match o with|.inl s=>(∀g,dU g (Tm.mk s.2.1 s.2.2.1 (Ty.mk s.2.2.2.1 s.2.2.2.2.1) s.2.2.2.2.2) .nat)/\(Tm.mk s.2.1 s.2.2.1 (Ty.mk s.2.2.2.1 s.2.2.2.2.1) s.2.2.2.2.2).alZ=n+1|.inr _=>False)
  (by
   rintro⟨a,b,c,d,e,f⟩ ⟨q,l,t,v⟩;simp only at q l t v
   by_cases u:0<a
   ·left;refine⟨_,by simp only[Bv,iM,u,if_true];rfl,⟨?_,?_,?_,?_⟩,?_⟩
    ·rw[gi VW VW];show 0<=a-1;omega
    ·rw[gi VW VW];show a-1<=n;omega
    ·intro g;exact dU.succ (t g)
    all_goals grind[gi,Tm.dM,ee]
   ·right;left;refine⟨_,by simp only[Bv,iM,u,jb];rfl,t,?_⟩
    have:a=0:=VW
    subst this
    simp only;omega)
  FU ((n:Int),4,0,0,[],[]) ⟨aaA,aaA,λg=>dU.zero,by rw[Tm.dM];simp[ee];omega⟩ (by rw[fI];show(n:Int).toNat<_;omega)
 simp only[Tm.eK,Tm.iI,Tm.fM,Ty.eK,Ty.eG,Tm.eG];rw[q];cases o with
 |inr r=>exact l.elim|inl s=>
  obtain⟨a,b,c,d,e,f⟩:=s;exact⟨_,rfl,λg=>⟨l.1 g,l.2⟩⟩
def Gm(n:Int)(b:0<=n)(hn:n<=4000):∃x,rD n=some x/\∀g,dU g x .nat/\(x.alZ:Int)=n+1:=by
 obtain⟨k,rfl⟩:=ad6 b;obtain⟨x,c,a⟩:=GM k VW;unfold rD vQ;simp only[jR,jW];rw[dK VW,dK VW,c];exact⟨x,rfl,λg=>⟨(a g).1,by rw[(a g).2];simp⟩⟩
structure Si (g:List Ty) (x:Tm) (t:Ty) (n:Nat):Prop where
 ty:dU g x t
 alZ:x.alZ<=n
def Si.wt{g:List Ty}{x:Tm}{t:Ty}{n:Nat}(h:Si g x t n):x.wt<=65*n:=by
 have:=x.js h.ty.ok;have:=h.alZ;omega
theorem Si.mono{g:List Ty}{x:Tm}{t:Ty}{n m:Nat}(h:Si g x t n)(hm:n<=m):Si g x t m:=⟨h.ty,A5 h.alZ hm⟩
def OK{k:Int}{a:Tm}(b:a.wt<=100000000):fT k [a]=some (.mk k 0 .z [a]):=pD k [a] (by simp[ee];omega)
def wW{k:Int}{a b:Tm}(c:a.wt<=100000000)(d:b.wt<=100000000):fT k [a,b]=some (.mk k 0 .z [a,b]):=pD k [a,b] (by simp[ee];omega)
def Bm{k:Int}:fT k []=some (.mk k 0 .z []):=pD k [] (by simp[ee])
def Dd{k:Int}{s:Ty}{a:Tm}(hs:s.alZ<=1000000000)(b:a.wt<=100000000):lG k s [a]=some (.mk k 0 s [a]):=I_ k s [a] hs (by simp[ee];omega)
def EZ{k:Int}{s:Ty}{a b c:Tm}(hs:s.alZ<=1000000000)(d:a.wt<=100000000)(f:b.wt<=100000000)(h:c.wt<=100000000):lG k s [a,b,c]=some (.mk k 0 s [a,b,c]):=
 I_ k s [a,b,c] hs (by simp[ee];omega)
def FF{f a b:Tm}(c:f.wt<=10000000)(d:a.wt<=10000000)(h:b.wt<=10000000):zG f [a,b]=some (.mk 3 0 .z [.mk 3 0 .z [f,a],b]):=by
 have i:(Tm.mk 3 0 .z [f,a]).wt<=30000000:=by rw[Tm.iG];have:Ty.z.alZ=1:=rfl;simp[ee,this];omega
 unfold zG
 simp only[et (l:=[a,b]) aaA,ed,ef,fY,pq,Dn,Ty.gM,Tm.gM,wW (k:=3) (a:=f) (b:=a) VW VW,dI,fk,wW (k:=3) (a:=.mk 3 0 .z [f,a]) (b:=b) VW VW,eC]
def Ty.fW:Ty.nat.err=0:=Ty.Dk Ty.XR (by rw[Ty.il];omega)
def Ty.ph:Ty.lD.err=0:=Ty.Dk Ty.Ye (by rw[Ty.oW];omega)
def Ty.IQ:Ty.unit.err=0:=Ty.Dk Ty.SC (by rw[Ty.JO];omega)
def Ty.xf{a b:Ty}(c:a.err=0)(d:b.err=0)(h:a.alZ+b.alZ<=63):(Ty.fn a b).err=0:=Ty.Dk (Ty.ok_two (.inr rfl) (Ty.gU c).1 (Ty.gU d).1) (by rw[Ty.iH];omega)
def Ty.JZ{a b:Ty}(c:a.err=0)(d:b.err=0)(h:a.alZ+b.alZ<=63):(Ty.pr a b).err=0:=Ty.Dk (Ty.ok_two (.inl rfl) (Ty.gU c).1 (Ty.gU d).1) (by rw[Ty.oR];omega)
def kn(i:Nat):Tm:=.mk 1 i .z []
def xK(s:Ty)(b:Tm):Tm:=.mk 2 0 s [b]
def fi(f a:Tm):Tm:=.mk 3 0 .z [f,a]
def iF:Tm:=.mk 4 0 .z []
def gE(a:Tm):Tm:=.mk 5 0 .z [a]
def SV(t:Ty)(a b c:Tm):Tm:=.mk 6 0 t [a,b,c]
def Nd:Tm:=xK .nat (xK .nat (SV .nat (kn 1) (xK .nat (xK .nat (gE (kn 0)))) (kn 0)))
def RG:Tm:=xK .nat (SV .nat iF (xK .nat (xK .nat (kn 1))) (kn 0))
def PD:Tm:=xK .nat (xK .nat (SV .nat (kn 1) (xK .nat (xK .nat (fi RG (kn 0)))) (kn 0)))
def Fu(i:Nat):gD (i:Int)=some (kn i):=rfl
def w9{a:Tm}(b:a.wt<=100000000):j3 a=some (xK .nat a):=by
 unfold j3;rw[gC];simp only[dI];rw[Dd (by rw[Ty.il];omega) b];rfl
def rec_eq{a b c:Tm}(d:a.wt<=100000000)(f:b.wt<=100000000)(h:c.wt<=100000000):tP a b c=some (SV .nat a b c):=by
 unfold tP;rw[gC];simp only[dI];rw[EZ (by rw[Ty.il];omega) d f h];rfl
def CX:pQ=some Nd:=by
 unfold pQ;rw[show gD 1=some (kn 1)from rfl,show gD 0=some (kn 0)from rfl];simp only[dI];rw[OK aar];simp only[dI];rw[w9 aar];simp only[dI];rw[w9 aar];simp only[dI];rw[rec_eq aar aar aar];simp only[dI];rw[w9 aar];simp only[dI];rw[w9 aar];rfl
def Lv:xd=some RG:=by
 unfold xd;rw[show gD 1=some (kn 1)from rfl,show gD 0=some (kn 0)from rfl,Bm];simp only[dI];rw[w9 aar];simp only[dI];rw[w9 aar];simp only[dI];rw[rec_eq aar aar aar];simp only[dI];rw[w9 aar];rfl
def Ek:rK=some PD:=by
 unfold rK;rw[show gD 1=some (kn 1)from rfl,show gD 0=some (kn 0)from rfl,Lv];simp only[dI];rw[wW aar aar];simp only[dI];rw[w9 aar];simp only[dI];rw[w9 aar];simp only[dI];rw[rec_eq aar aar aar];simp only[dI];rw[w9 aar];simp only[dI];rw[w9 aar];rfl
def aih{g:List Ty}{t:Ty}(i:Nat)(h:i<g.length)(a:g[g.length-1-i]?=some t):dU g (kn i) t:=dU.var i h a
def hU{g:List Ty}{t:Ty}:dU (g++[t]) (kn 0) t:=dU.var 0 aaA aaA
def oe{g:List Ty}{s t:Ty}:dU (g++[t]++[s]) (kn 1) t:=dU.var 1 aaA aaA
def tm:(Ty.fn .nat .nat).err=0:=Ty.xf Ty.fW Ty.fW (by rw[Ty.il];omega)
def xB:(Ty.fn .nat (Ty.fn .nat .nat)).err=0:=Ty.xf Ty.fW tm (by rw[Ty.iH,Ty.il];omega)
def F5(g:List Ty):dU g Nd (.fn .nat (.fn .nat .nat)):=
 .lam xB (.lam tm (.oN Ty.fW oe (.lam xB (.lam tm (.succ hU))) hU))
def Vi(g:List Ty):dU g RG (.fn .nat .nat):=
 .lam tm (.oN Ty.fW .zero (.lam xB (.lam tm oe)) hU)
def E9(g:List Ty):dU g PD (.fn .nat (.fn .nat .nat)):=
 .lam xB (.lam tm (.oN Ty.fW oe (.lam xB (.lam tm (.app (Vi _) hU))) hU))
def NH:Nd.alZ=9:=aar
def ON:PD.alZ=16:=aar
def wh{α β:Type}{G:Option β->Prop}(P:α->Prop){k:α->Option β}{b:(α->Option β)->Option β}(c:∀a,P a->G (k a))(d:∀j:α->Option β,(∀a,P a->G (j a))->G (b j)):G (ej k b):=d k c
def I2{α γ β:Type}{G:Option β->Prop}(P:α->γ->Prop){k:α->γ->Option β}{b:(α->γ->Option β)->Option β}(d:∀a c,P a c->G (k a c))(f:∀j:α->γ->Option β,(∀a c,P a c->G (j a c))->G (b j)):G (ej k b):=f k d
def tb(N:Nat):Nat->Nat
 |0=>3*N|k+1=>30+3*tb N k
def ahh{N:Nat}(a:N<=20):∀k,k<=5->tb N k<=18300:=by
 intro k b
 have:k=0\/k=1\/k=2\/k=3\/k=4\/k=5:=VW
 rcases this with rfl|rfl|rfl|rfl|rfl|rfl<;>simp only[tb]<;>omega
def Ys{N k:Nat}:3*N<=tb N k:=by
 induction k with
 |zero=>simp[tb]|succ k ih=>grind[tb]
def kU(g:List Ty)(t:Ty)(b:Nat)(o:Option (Tm×eR)):Prop:=∃x a,o=some (x,a)/\a.wf/\Si g x t b
def kU.of{g:List Ty}{t:Ty}{b:Nat}{x:Tm}{d:eR}(a:d.wf)(h:dU g x t)(hn:x.alZ<=b):kU g t b (some (x,d)):=⟨x,d,rfl,a,h,hn⟩
structure Da (N:Nat) (g:List Ty):Prop where
 all:∀s∈g,s.err=0/\s.alZ<=N
def Da.app{N:Nat}{g l:List Ty}(h:Da N g)(a:∀s∈l,s.err=0/\s.alZ<=N):Da N (g++l):=
 ⟨λs hs=>by rcases tO.1 hs with h'|h';exact h.all s h';exact a s h'⟩
def Ty.pE{t:Ty}(h:t.err=0):t=.nat\/t=.lD\/t=.unit\/(∃a b,t=.pr a b/\a.err=0/\b.err=0)\/(∃a b,t=.fn a b/\a.err=0/\b.err=0):=by
 cases t with
 |mk k l=>
  have f:=(Ty.gU h).1;rw[Ty.hI] at f;simp only[hE,oI] at f;have c:=f.1;unfold Ty.want at c
  split at c
  ·rename_i d;injection c with c;have:=aaH.1 c.symm;subst this;rcases d with rfl|rfl|rfl
   ·exact .inl rfl
   ·exact .inr (.inl rfl)
   ·exact .inr (.inr (.inl rfl))
  ·split at c
   ·rename_i d;injection c with c;obtain⟨a,b,rfl⟩:=qk (l:=l) VW;have:=Ty.tU d h;rcases d with rfl|rfl
    ·exact .inr (.inr (.inr (.inl ⟨a,b,rfl,this⟩)))
    ·exact .inr (.inr (.inr (.inr ⟨a,b,rfl,this⟩)))
   ·cases c
set_option maxHeartbeats 1000000 in
def QF(N:Nat)(aP:1<=N)(hN:N<=20):∀(n:Nat) (dep:Int) (g:List Ty) (t:Ty) (d:eR),dep.toNat*(N+1)+t.alZ<n->dep<=5->-1000000<=dep-t.alZ->g.length+(3+N)*dep.toNat+t.alZ<=1000->Da N g->t.err=0->t.alZ<=N->d.wf->kU g t (if dep<=0 then 3*t.alZ else tb N dep.toNat) (ik n d g t dep):=by
 intro n
 induction n with
 |zero=>intro dep g t d h;omega|succ n ih=>
  intro dep g t d hm aQ aO hlen hg A w hd;have aR:=t.eM;have ax:=(Ty.gU A).2
  have deep:0<dep->∀T R S,T.length<=g.length+3->Da N T->R.err=0->R.alZ<=N->S.wf->kU T R (tb N (dep.toNat-1)) (ik n S T R (fL .i64 dep 1)):=by
   intro o T R S U X h3 C h5;obtain⟨k,rfl⟩:∃k:Nat,dep=(k+1:Nat):=⟨dep.toNat-1,VW⟩
   have e1:((k+1:Nat):Int).toNat=k+1:=aaA
   rw[e1] at hm hlen|-;rw[gi VW VW,show((k+1:Nat):Int)-1=(k:Int) by omega]
   have hmul:(k+1)*(N+1)=k*(N+1)+N+1:=by rw[DS];omega
   have ay:(3+N)*(k+1)=(3+N)*k+3+N:=by rw[WZ];omega
   obtain⟨x,d1,a1,a2,a3⟩:=ih (k:Int) T R S abu VW VW abu X h3 C h5;refine⟨x,d1,a1,a2,a3.mono ?_⟩;simp only[ae8]
   split
   ·have:k=0:=VW
    subst this;simp only[tb];omega
   ·simp
  have flat:dep<=0->∀T R S,T.length<=g.length+1->R.alZ+1<=t.alZ->Da N T->R.err=0->S.wf->kU T R (3*R.alZ) (ik n S T R (fL .i64 dep 1)):=by
   intro o T R S U h0 X h3 h5
   have e1:dep.toNat=0:=VW
   rw[e1] at hm hlen;rw[gi VW VW]
   have e2:(dep-1).toNat=0:=VW
   have:=ih (dep-1) T R S (by rw[e2];omega) VW VW (by rw[e2];omega) X h3 VW h5;rw[dR VW] at this;exact this
  have Y:0<dep->(if dep<=0 then 3*t.alZ else tb N dep.toNat)=30+3*tb N (dep.toNat-1):=by
   intro o;rw[dK VW];obtain⟨k,hk⟩:∃k,dep.toNat=k+1:=⟨dep.toNat-1,VW⟩;rw[hk];rfl
  have az:0<dep->tb N (dep.toNat-1)<=18300:=λ_=>ahh hN _ VW
  have ah:3*t.alZ<=(if dep<=0 then 3*t.alZ else tb N dep.toNat):=by
   split
   ·omega
   ·have:=Ys (N:=N) (k:=dep.toNat);omega
  generalize (if dep<=0 then 3*t.alZ else tb N dep.toNat)=B at Y ah|-
  have q:∀{g x t},0<dep->Si g x t (tb N (dep.toNat-1))->x.wt<=1300000:=by
   intro g x t o h;have:=h.wt;have:=az o;omega
  obtain⟨vs,aA,aS,aB⟩:=Q5 g t VW (λs hs=>by have:=(hg.all s hs).2;omega);rw[ik,aA];simp only[dI];refine I2 (G:=kU g t B) (λa c=>c.wf/\(a=true->vs≠[])) ?_ ?_
  ·--a variable,or ai else
   rintro a d1 ⟨ak,aC⟩;cases a with
   |true=>
    simp only[if_true];have aD:=aC rfl
    have aT:1<=vs.length:=by cases vs with|nil=>exact absurd rfl aD|cons _ _=>simp
    obtain⟨x,d2,U,X,h3,C⟩:=rm d1 ak (eA vs) abu abu;rw[U];simp only[dQ];obtain⟨y,hy,aE⟩:=Ml (l:=vs) X (by simpa using h3);rw[hy];simp only[dI];obtain⟨i,rfl,aF,aG⟩:=aB y aE;rw[Fu];refine kU.of C (aih i aF aG) ?_
    have:(kn i).alZ=1:=by unfold kn;rw[Tm.dM];rfl
    omega
   |false=>
    simp only[ox,jb];refine wh (G:=kU g t B) eR.wf ?_ ?_
    ·--by aq type
     intro d2 D;rcases Ty.pE A with rfl|rfl|rfl|⟨a,b,rfl,ha,hb⟩|⟨a,b,rfl,ha,hb⟩
     ·--numbers
      simp only[show Ty.nat.alX=1 from rfl,gh,if_true];refine wh (G:=kU g .nat B) eR.wf ?_ ?_
      ·intro d3 ae;obtain⟨x,d4,U,X,h3,C⟩:=rm d3 ae 3 VW VW;rw[U];simp only[dQ];obtain⟨y,aH,ar⟩:=Gm x X VW;rw[aH];refine kU.of C (ar g).1 ?_;have:=(ar g).2;rw[Ty.il] at ah;omega
      ·intro j W;simp only[iM]
       split
       ·rename_i o;have Y:=Y o;obtain⟨x,d4,U,X,h3,C⟩:=rm d2 D 5 VW VW;rw[U];simp only[dQ,gh]
        split
        ·obtain⟨a,d5,a1,a2,a3⟩:=deep o g .nat d4 VW hg Ty.fW w C;rw[a1];simp only[dQ];rw[OK (by have:=q o a3;omega)];refine kU.of a2 (.succ a3.ty) ?_;have:=a3.alZ;rw[Tm.dM];simp only[ee];omega
        split
        ·rw[CX];simp only[dI];obtain⟨a,d5,a1,a2,a3⟩:=deep o g .nat d4 VW hg Ty.fW w C;rw[a1];simp only[dQ];obtain⟨b,d6,H,I,v⟩:=deep o g .nat d5 VW hg Ty.fW w a2;rw[H];simp only[dQ];rw[FF aar (by have:=q o a3;omega) (by have:=q o v;omega)];refine kU.of I (.app (.app (F5 g) a3.ty) v.ty) ?_;have:=a3.alZ;have:=v.alZ;have:=NH;rw[Tm.dM];simp only[ee,Tm.dM];omega
        split
        ·rw[Ek];simp only[dI];obtain⟨a,d5,a1,a2,a3⟩:=deep o g .nat d4 VW hg Ty.fW w C;rw[a1];simp only[dQ];obtain⟨b,d6,H,I,v⟩:=deep o g .nat d5 VW hg Ty.fW w a2;rw[H];simp only[dQ];rw[FF aar (by have:=q o a3;omega) (by have:=q o v;omega)];refine kU.of I (.app (.app (E9 g) a3.ty) v.ty) ?_;have:=a3.alZ;have:=v.alZ;have:=ON;rw[Tm.dM];simp only[ee,Tm.dM];omega
        ·exact W d4 C
       ·exact W d2 D
     ·--lists
      simp only[show Ty.lD.alX=2 from rfl,gh,if_true,show¬(2:Int)=1 by omega,jb];refine I2 (G:=kU g .lD B) (λa c=>c.wf/\(a=true->0<dep)) ?_ ?_
      ·rintro a d3 ⟨ae,o⟩;cases a with
       |true=>
        have o:=o rfl;have Y:=Y o;simp only[if_true];rw[gC];simp only[dI];obtain⟨a,d5,a1,a2,a3⟩:=deep o g .nat d3 VW hg Ty.fW (by rw[Ty.il];omega) ae;rw[a1];simp only[dQ];obtain⟨b,d6,H,I,v⟩:=deep o g .lD d5 VW hg Ty.ph w a2;rw[H];simp only[dQ];rw[wW (by have:=q o a3;omega) (by have:=q o v;omega)];refine kU.of I (.cons a3.ty v.ty) ?_;have:=a3.alZ;have:=v.alZ;rw[Tm.dM];simp only[ee];omega
       |false=>
        simp only[ox,jb];rw[Bm];refine kU.of ae .nil ?_;rw[Tm.dM];simp only[ee];omega
      ·intro j W;simp only[iM]
       split
       ·rename_i o;obtain⟨x,d4,U,X,h3,C⟩:=rm d2 D 2 VW VW;rw[U];simp only[dQ];exact W _ d4 ⟨C,λ_=>o⟩
       ·exact W _ d2 ⟨D,λh=>by cases h⟩
     ·simp only[show Ty.unit.alX=5 from rfl,gh,show¬(5:Int)=1 by omega,show¬(5:Int)=2 by omega,show¬(5:Int)=3 by omega,show¬(5:Int)=4 by omega,jb];rw[Bm];refine kU.of D .unit ?_;rw[Tm.dM];simp only[ee];omega
     ·simp only[show(Ty.pr a b).alX=3 from rfl,show(Ty.pr a b).alY=[a,b] from rfl,gh,show¬(3:Int)=1 by omega,show¬(3:Int)=2 by omega,if_true,jb,eY,iE,lX,rz,dI];rw[Ty.oR] at w ax ah
      by_cases o:0<dep
      ·have Y:=Y o;obtain⟨x,d5,a1,a2,a3⟩:=deep o g a d2 VW hg ha VW D;rw[a1];simp only[dQ];obtain⟨y,d6,H,I,v⟩:=deep o g b d5 VW hg hb VW a2;rw[H];simp only[dQ];rw[wW (by have:=q o a3;omega) (by have:=q o v;omega)];refine kU.of I (.pair A a3.ty v.ty) ?_;have:=a3.alZ;have:=v.alZ;rw[Tm.dM];simp only[ee];omega
      ·have aI:=Ty.oR a b;obtain⟨x,d5,a1,a2,a3⟩:=flat VW g a d2 VW VW hg ha D;rw[a1];simp only[dQ];obtain⟨y,d6,H,I,v⟩:=flat VW g b d5 VW VW hg hb a2;rw[H];simp only[dQ];have:=a3.alZ;have:=v.alZ;rw[wW (by have:=a3.wt;omega) (by have:=v.wt;omega)];refine kU.of I (.pair A a3.ty v.ty) ?_;rw[Tm.dM];simp only[ee];omega
     ·simp only[show(Ty.fn a b).alX=4 from rfl,show(Ty.fn a b).alY=[a,b] from rfl,gh,show¬(4:Int)=1 by omega,show¬(4:Int)=2 by omega,show¬(4:Int)=3 by omega,if_true,jb,eY,iE,lX,rz,dI];have aI:=Ty.iH a b;rw[vO g [a] abu];simp only[dI];have V:Da N (g++[a]):=hg.app (by intro s hs;rw[EY] at hs;subst hs;exact⟨ha,VW⟩)
      by_cases o:0<dep
      ·have Y:=Y o;obtain⟨x,d5,a1,a2,a3⟩:=deep o (g++[a]) b d2 aaA V hb VW D;rw[a1];simp only[dQ];rw[Dd VW (by have:=q o a3;omega)];refine kU.of a2 (.lam A a3.ty) ?_;have:=a3.alZ;rw[Tm.dM];simp only[ee];omega
      ·obtain⟨x,d5,a1,a2,a3⟩:=flat VW (g++[a]) b d2 aaA VW V hb D;rw[a1];simp only[dQ];have:=a3.alZ;rw[Dd VW (by have:=a3.wt;omega)];refine kU.of a2 (.lam A a3.ty) ?_;rw[Tm.dM];simp only[ee];omega
    ·--a aJ,or one of aq context
     intro j W;simp only[iM]
     split
     ·rename_i o;have Y:=Y o;obtain⟨x,d2,U,X,h3,C⟩:=rm d1 ak 8 VW VW;rw[U];simp only[dQ,gh]
      have leaf:∀d,eR.wf d->∃s S,nN FU d 0=some (s,S)/\s.err=0/\s.alZ=1/\S.wf:=by
       intro d hd;obtain⟨s,S,c1,c2,c3,c4⟩:=Ym d hd 0 VW;have:=s.eM;exact⟨s,S,c1,c2,VW,c4⟩
      split
      ·obtain⟨s,d3,s1,s2,s3,s4⟩:=leaf d2 C;rw[s1];simp only[dQ];rw[vO g [s] abu];simp only[dI];obtain⟨a,d5,a1,a2,a3⟩:=deep o (g++[s]) t d3 aaA (hg.app (by intro u hu;rw[EY] at hu;subst hu;exact⟨s2,VW⟩)) A w s4;rw[a1];simp only[dQ];rw[Dd VW (by have:=q o a3;omega)];simp only[dI];obtain⟨b,d6,H,I,v⟩:=deep o g s d5 VW hg s2 VW a2;rw[H];simp only[dQ];have w1:=q o a3;rw[wW (by rw[Tm.iG];simp only[ee];omega) (by have:=q o v;omega)];refine kU.of I (.app (.lam (Ty.xf s2 A VW) a3.ty) v.ty) ?_;have:=a3.alZ;have:=v.alZ;rw[Tm.dM];simp only[ee,Tm.dM];omega
      split
      ·obtain⟨s,d3,s1,s2,s3,s4⟩:=leaf d2 C;rw[s1];simp only[dQ];obtain⟨a,d5,a1,a2,a3⟩:=deep o g t d3 VW hg A w s4;rw[a1];simp only[dQ];obtain⟨b,d6,H,I,v⟩:=deep o g s d5 VW hg s2 VW a2;rw[H];simp only[dQ];have w1:=q o a3;have w2:=q o v;rw[wW VW VW];simp only[dI];rw[OK (by rw[Tm.iG];have:Ty.z.alZ=1:=rfl;simp only[ee];omega)];refine kU.of I (.fst (.pair (Ty.JZ A s2 VW) a3.ty v.ty)) ?_;have:=a3.alZ;have:=v.alZ;rw[Tm.dM];simp only[ee,Tm.dM];omega
      split
      ·rw[gC];simp only[dI];rw[vO g [.nat,t] abu];simp only[dI]
       have V:Da N (g++[.nat,t]):=hg.app (by
        intro u hu;simp only[mb,ve,tG] at hu;rcases hu with rfl|rfl
        ·exact⟨Ty.fW,by rw[Ty.il];omega⟩
        ·exact⟨A,w⟩)
       obtain⟨a,d5,a1,a2,a3⟩:=deep o (g++[.nat,t]) t d2 aaA V A w C;rw[a1];simp only[dQ];have w1:=q o a3;have nn:=Ty.il;rw[Dd VW VW];simp only[dI];rw[Dd VW (by rw[Tm.iG];simp only[ee];omega)];simp only[dI];obtain⟨b,d6,H,I,v⟩:=deep o g t d5 VW hg A w a2;rw[H];simp only[dQ];obtain⟨y,d7,y1,y2,y3,y4⟩:=rm d6 I 3 VW VW;rw[y1];simp only[dQ];obtain⟨z,z1,z2⟩:=Gm y y2 VW;rw[z1];simp only[dI];have w2:=q o v;have zn:=(z2 g).2;have zw:=z.js (z2 g).1.ok
       have e1:(Tm.mk 2 0 .nat [Tm.mk 2 0 t [a]]).wt<=2000000:=by rw[Tm.iG];simp only[ee,Tm.iG];omega
       rw[EZ VW VW VW VW];have Z:(Ty.fn t t).err=0:=Ty.xf A A VW;refine kU.of y4 (.oN A v.ty (.lam (Ty.xf Ty.fW Z (by rw[Ty.iH];omega)) (.lam Z (by simpa using a3.ty))) (z2 g).1) ?_;have:=a3.alZ;have:=v.alZ;rw[Tm.dM];simp only[ee,Tm.dM];omega
      split
      ·rw[gC,gQ];simp only[dI];rw[vO g [.nat,.lD,t] abu];simp only[dI]
       have V:Da N (g++[.nat,.lD,t]):=hg.app (by
        intro u hu;simp only[mb,ve,tG] at hu;rcases hu with rfl|rfl|rfl
        ·exact⟨Ty.fW,by rw[Ty.il];omega⟩
        ·exact⟨Ty.ph,by rw[Ty.oW];omega⟩
        ·exact⟨A,w⟩)
       obtain⟨a,d5,a1,a2,a3⟩:=deep o (g++[.nat,.lD,t]) t d2 aaA V A w C;rw[a1];simp only[dQ];have w1:=q o a3;have nn:=Ty.il;have ln:=Ty.oW;rw[Dd VW VW];simp only[dI];rw[Dd VW (by rw[Tm.iG];simp only[ee];omega)];simp only[dI];rw[Dd VW (by rw[Tm.iG];simp only[ee,Tm.iG];omega)];simp only[dI];obtain⟨b,d6,H,I,v⟩:=deep o g t d5 VW hg A w a2;rw[H];simp only[dQ];obtain⟨c,d7,c1,c2,c3⟩:=deep o g .lD d6 VW hg Ty.ph VW I;rw[c1];simp only[dQ];have w2:=q o v;have w3:=q o c3
       have e1:(Tm.mk 2 0 .nat [Tm.mk 2 0 .lD [Tm.mk 2 0 t [a]]]).wt<=2000000:=by rw[Tm.iG];simp only[ee,Tm.iG];omega
       rw[EZ VW VW VW VW];have Z:(Ty.fn t t).err=0:=Ty.xf A A VW;have af:(Ty.fn .lD (Ty.fn t t)).err=0:=Ty.xf Ty.ph Z (by rw[Ty.iH];omega);refine kU.of c2 (.fold A v.ty (.lam (Ty.xf Ty.fW af (by rw[Ty.iH,Ty.iH];omega)) (.lam af (.lam Z (by simpa using a3.ty)))) c3.ty) ?_;have:=a3.alZ;have:=v.alZ;have:=c3.alZ;rw[Tm.dM];simp only[ee,Tm.dM];omega
      split
      ·obtain⟨s,d3,s1,s2,s3,s4⟩:=leaf d2 C;rw[s1];simp only[dQ];obtain⟨a,d5,a1,a2,a3⟩:=deep o g s d3 VW hg s2 VW s4;rw[a1];simp only[dQ];obtain⟨b,d6,H,I,v⟩:=deep o g t d5 VW hg A w a2;rw[H];simp only[dQ];have w1:=q o a3;have w2:=q o v;rw[wW VW VW];simp only[dI];rw[OK (by rw[Tm.iG];have:Ty.z.alZ=1:=rfl;simp only[ee];omega)];refine kU.of I (.snd (.pair (Ty.JZ s2 A VW) a3.ty v.ty)) ?_;have:=a3.alZ;have:=v.alZ;rw[Tm.dM];simp only[ee,Tm.dM];omega
      split
      ·--a function of aq context
       rw[et VW,ed];simp only[ef]
       rcases LK (λ_:Unit=>True) (λr:Tm×eR=>kU g t B (some r)) (F:=λ(K:Int) (aK:Ty) (_:Unit)=>
         dH (dX g (fL .i64 (fL .i64 (eA g) 1) K)) λJ=>
          if J.alX=4 then dH (dX J.alY 1) λan=>dH (fv FU an t) λao=>
           if ao then dH (gD K) λL=>dH (dX J.alY 0) λM=>dV (ik n d2 g M (fL .i64 dep 1)) λO P=>
            dH (fT 3 [L,O]) λQ=>some (gq.ret (Q,P))
           else some (gq.next ())
          else if false then dH (gD K) λL=>dH (dX J.alY 0) λM=>dV (ik n d2 g M (fL .i64 dep 1)) λO P=>
            dH (fT 3 [L,O]) λQ=>some (gq.ret (Q,P))
           else some (gq.next ())) g 0 () trivial (by
        intro k u s hk _;have aL:k<g.length:=(s7.1 hk).1
        have ad:g.length-1-k<g.length:=VW
        have e1:dX g (fL .i64 (fL .i64 (eA g) 1) ((0+k:Nat):Int))=some g[g.length-1-k]:=by
         rw[Ax,fQ,gi (a:=(g.length:Int)) (b:=1) VW VW,gi VW VW,show(g.length:Int)-1-(k:Int)=((g.length-1-k:Nat):Int) by omega,hJ];simp[ad]
        simp only[e1,dI];have hf:=hg.all _ (DL ad);have aw:g[g.length-1-k]?=some g[g.length-1-k]:=po ad;generalize g[g.length-1-k]=f at hf aw|-;rcases Ty.pE hf.1 with rfl|rfl|rfl|⟨a,b,rfl,ha,hb⟩|⟨a,b,rfl,ha,hb⟩
        ·left;exact⟨(),rfl,trivial⟩
        ·left;exact⟨(),rfl,trivial⟩
        ·left;exact⟨(),rfl,trivial⟩
        ·left;exact⟨(),rfl,trivial⟩
        ·simp only[show(Ty.fn a b).alX=4 from rfl,show(Ty.fn a b).alY=[a,b] from rfl,gh,if_true,eY,iE,lX,rz,dI];have aM:=hf.2;rw[Ty.iH] at aM;rw[iJ VW];simp only[dI];cases hs:b.kc t with
         |false=>left;exact⟨(),rfl,trivial⟩|true=>
          rw[Ty.kK] at hs;subst hs;right;simp only[if_true,Ax];rw[Fu];simp only[dI];obtain⟨y,d5,a1,a2,a3⟩:=deep o g a d2 VW hg ha VW C;rw[a1];simp only[dQ];have w1:=q o a3
          have e2:(kn k).wt=2:=by unfold kn;rw[Tm.iG];rfl
          rw[wW VW VW];refine⟨_,rfl,kU.of a2 (.app (aih k aL aw) a3.ty) ?_⟩;have:=a3.alZ
          have e3:(kn k).alZ=1:=by unfold kn;rw[Tm.dM];rfl
          rw[Tm.dM];simp only[ee];omega)with⟨s,hs,_⟩|⟨r,hr,aN⟩
       ·rw[hs];exact W d2 C
       ·rw[hr];exact aN
      ·exact W d2 C
     ·exact W d1 ak
  ·intro j W;simp only[iM,fQ]
   split
   ·rename_i o;obtain⟨x,d2,U,X,h3,C⟩:=rm d hd 3 VW VW;rw[U];simp only[dQ];exact W _ d2 ⟨C,λ_ h=>by subst h;simp at o⟩
   ·exact W _ d ⟨hd,λh=>by cases h⟩
inductive iW:List Ty->Fm->Prop
 |eq {g a b}:dU g a .nat->dU g b .nat->iW g (.mk 1 .z [a,b] [])|two {g k a b}:k=2\/k=3->iW g a->iW g b->iW g (.mk k .z [] [a,b])|q {g k s a}:k=4\/k=5\/k=6\/k=7->s.err=0->iW (g++[s]) a->iW g (.mk k s [] [a])
def iW.ok{g:List Ty}{f:Fm}(h:iW g f):f.ok=true:=by
 induction h with
 |eq c d=>simp[Fm.hI,Fm.node,Ty.qe,c.ok,d.ok]|two i _ _ j l=>
  rename_i k a b _ _
  have:¬k=1:=VW
  simp[Fm.hI,Fm.node,Ty.qe,i,this,j,l]
 |q i hs _ ih=>
  rename_i k s a _
  have c:¬k=1:=VW
  have d:¬(k=2\/k=3):=VW
  have n:ki k=true:=by simp[ki,i]
  simp[Fm.hI,Fm.node,c,d,n,hs,ih]
def ait{a b:Tm}(c:a.wt<=1000000000)(d:b.wt<=1000000000):yI a b=some (.mk 1 .z [a,b] []):=by
 unfold yI;rw[uW c,uW d];rfl
def MU{k:Int}{a b:Fm}(c:a.wt<=1000000000)(d:b.wt<=1000000000):rV k a b=some (.mk k .z [] [a,b]):=by
 unfold rV;rw[r7 c,r7 d];rfl
def Uk{k:Int}{s:Ty}{a:Fm}(hs:s.alZ<=1000000000)(b:a.wt<=1000000000):nO k s a=some (.mk k s [] [a]):=by
 unfold nO;rw[jv hs,r7 b];rfl
def yc(l:List Ty):Int:=if 16<l.length then 3 else fE (l.map Ty.err)
def GA(l:List Ty)(f:l.length<=1000000)(h:∀t∈l,t.alZ<=1000000000):nu l=some (yc l):=by
 unfold nu yc;simp only[iM,fQ,et (l:=l) VW,ed,ef]
 by_cases b:16<l.length
 ·rw[dR VW,dR b]
 ·rw[dK VW,dK b]
  have key:=pR (F:=λ(j:Int) (x:Ty) (_:Unit)=>dH (rZ x) λa=>if eL a 0 then some (gq.ret a)else some (gq.next ())) Ty.err l 0 (by
   intro j x d;rw[J_ (h x d)]
   simp only[dI,ez])
  simp only[ez] at key|-;rw[key]
  by_cases c:fE (l.map Ty.err)=0
  ·simp[c]
  ·simp[c]
def tB(l:List Ty)(f:l.length<=1000000)(h:∀t∈l,t.alZ<=1000000000):mh l=some (yc l):=by
 unfold mh yc;simp only[iM,fQ,et (l:=l) VW,ed,ef]
 by_cases b:16<l.length
 ·rw[dR VW,dR b]
 ·rw[dK VW,dK b]
  have key:=pR (F:=λ(j:Int) (x:Ty) (_:Unit)=>dH (iq x) λa=>if eL a 0 then some (gq.ret a)else some (gq.next ())) Ty.err l 0 (by
   intro j x d;rw[kI (h x d)]
   simp only[dI,ez])
  simp only[ez] at key|-;rw[key]
  by_cases c:fE (l.map Ty.err)=0
  ·simp[c]
  ·simp[c]
def GH:∀(n:Nat) (a b:Ty),a.alZ<=n->a.alZ<=1000000000->∃r,gP n a b=some r/\(r=true↔a=b):=by
 intro n
 induction n with
 |zero=>intro t b h;have:=t.eM;omega
 |succ n ih=>
  intro a b h s;cases a with
  |mk k l=>
  cases b with
  |mk k' m=>
   rw[Ty.dM] at h s;have v:=Ty.fX l;rw[gP];simp only[Ty.eG,Ty.eK,ef,et (l:=l) VW,ed,l',tH,ez,fQ]
   by_cases d:k≠k'\/(l.length:Int)≠m.length
   ·rw[dR d];refine⟨false,rfl,?_⟩;simp only[ox,Vm,Ty.mk.injEq,not_and];rintro rfl rfl;simp at d
   ·rw[dK d];simp only[not_or,xk] at d;obtain⟨rfl,hlen⟩:=d
    have c:l.length=m.length:=VW
    let p:Ty->Ty->Bool:=λx y=>(gP n x y).getD false
    have o:∀x∈l,∀y,gP n x y=some (p x y)/\(p x y=true↔x=y):=by
     intro x f y;have:=eF Ty.alZ f;obtain⟨r,q,i⟩:=ih x y VW VW
     have e:p x y=r:=by show(gP n x y).getD false=r;rw[q];rfl
     rw[e];exact⟨q,i⟩
    have key:=A9 (F:=λ(j:Int) (x:Ty) (_:Unit)=>dH (dX m j) λy=>dH (gP n x y) λz=>if z then some (gq.next ())else some (gq.ret false)) p m l 0 m rfl c (by
     intro k x y f u;rw[hJ,u];simp only[dI];rw[(o x f y).1]
     rfl)
    rw[key];have he:=Bw p l m λx f y=>(o x f y).2;cases i:xm p l m with
    |false=>exact⟨false,rfl,by rw[i] at he;simpa using he⟩
    |true=>exact⟨true,rfl,by rw[i] at he;simpa using he⟩
def F7:∀(n:Nat) (a b:Tm),a.wt<=n->a.wt<=1000000000->∃r,jM n a b=some r/\(r=true↔a=b):=by
 intro n
 induction n with
 |zero=>intro t b h;have:=t.kv;omega
 |succ n ih=>
  intro a b h G;cases a with
  |mk k i s l=>
  cases b with
  |mk k' f v m=>
   rw[Tm.iG] at h G;have J:=Tm.tY l;rw[jM];simp only[Tm.eG,Tm.eK,Tm.iI,Tm.fM,ef,et (l:=l) VW,ed,ez,fQ]
   have no:¬(k=k'/\i=f/\s=v/\l.length=m.length)->∃r,some false=some r/\(r=true↔Tm.mk k i s l=Tm.mk k' f v m):=by
    intro hn;refine⟨false,rfl,?_⟩;simp only[ox,Vm,Tm.mk.injEq,not_and];rintro rfl rfl rfl rfl;exact hn ⟨rfl,rfl,rfl,rfl⟩
   by_cases o:k≠k'
   ·rw[dR o,dR trivial];exact no λh=>o h.1
   ·rw[dK o]
    by_cases hi:i≠f
    ·rw[dR hi,dR trivial];exact no λh=>hi h.2.1
    ·rw[dK hi];obtain⟨r,H,B⟩:=GH FU s v (by rw[fI];omega) VW;rw[H];simp only[dI]
     by_cases q:r=true
     ·have hs:=B.1 q;rw[dR q]
      by_cases hlen:(l.length:Int)≠m.length
      ·rw[dR hlen];exact no λh=>hlen VW
      ·rw[dK hlen]
       have c:l.length=m.length:=VW
       let p:Tm->Tm->Bool:=λx y=>(jM n x y).getD false
       have C:∀x∈l,∀y,jM n x y=some (p x y)/\(p x y=true↔x=y):=by
        intro x d y;have:=eF Tm.wt d;obtain⟨r,D,u⟩:=ih x y VW VW
        have e:p x y=r:=by show(jM n x y).getD false=r;rw[D];rfl
        rw[e];exact⟨D,u⟩
       have key:=A9 (F:=λ(j:Int) (x:Tm) (_:Unit)=>dH (dX m j) λy=>dH (jM n x y) λz=>if z then some (gq.next ())else some (gq.ret false)) p m l 0 m rfl c (by
        intro k x y d I;rw[hJ,I];simp only[dI];rw[(C x d y).1]
        rfl)
       rw[key];have he:=Bw p l m λx d y=>(C x d y).2;have w:k=k':=xk.1 o;have hi':i=f:=xk.1 hi;cases u:xm p l m with
       |false=>
        refine⟨false,rfl,?_⟩;rw[u] at he;simp only[ox,Vm,Tm.mk.injEq,not_and];intro _ _ _ A;exact absurd (he.2 A) aaA
       |true=>
        refine⟨true,rfl,?_⟩;rw[u] at he;simp only[true_iff,Tm.mk.injEq];exact⟨w,hi',hs,he.1 rfl⟩
     ·rw[dK q,dR trivial];exact no λh=>q (B.2 h.2.2.1)
def xW:∀(n:Nat) (a b:Tm),a.wt<=n->a.wt<=1000000000->∃r,lN n a b=some r/\(r=true↔a=b):=by
 intro n
 induction n with
 |zero=>intro t b h;have:=t.kv;omega
 |succ n ih=>
  intro a b h G;cases a with
  |mk k i s l=>
  cases b with
  |mk k' f v m=>
   rw[Tm.iG] at h G;have J:=Tm.tY l;rw[lN];simp only[Tm.eG,Tm.eK,Tm.iI,Tm.fM,ef,et (l:=l) VW,ed,ez,fQ]
   have no:¬(k=k'/\i=f/\s=v/\l.length=m.length)->∃r,some false=some r/\(r=true↔Tm.mk k i s l=Tm.mk k' f v m):=by
    intro hn;refine⟨false,rfl,?_⟩;simp only[ox,Vm,Tm.mk.injEq,not_and];rintro rfl rfl rfl rfl;exact hn ⟨rfl,rfl,rfl,rfl⟩
   by_cases o:k≠k'
   ·rw[dR o,dR trivial];exact no λh=>o h.1
   ·rw[dK o]
    by_cases hi:i≠f
    ·rw[dR hi,dR trivial];exact no λh=>hi h.2.1
    ·rw[dK hi];obtain⟨r,H,B⟩:=xY FU s v (by rw[fI];omega) VW;rw[H];simp only[dI]
     by_cases q:r=true
     ·have hs:=B.1 q;rw[dR q]
      by_cases hlen:(l.length:Int)≠m.length
      ·rw[dR hlen];exact no λh=>hlen VW
      ·rw[dK hlen]
       have c:l.length=m.length:=VW
       let p:Tm->Tm->Bool:=λx y=>(lN n x y).getD false
       have C:∀x∈l,∀y,lN n x y=some (p x y)/\(p x y=true↔x=y):=by
        intro x d y;have:=eF Tm.wt d;obtain⟨r,D,u⟩:=ih x y VW VW
        have e:p x y=r:=by show(lN n x y).getD false=r;rw[D];rfl
        rw[e];exact⟨D,u⟩
       have key:=A9 (F:=λ(j:Int) (x:Tm) (_:Unit)=>dH (dX m j) λy=>dH (lN n x y) λz=>if z then some (gq.next ())else some (gq.ret false)) p m l 0 m rfl c (by
        intro k x y d I;rw[hJ,I];simp only[dI];rw[(C x d y).1]
        rfl)
       rw[key];have he:=Bw p l m λx d y=>(C x d y).2;have w:k=k':=xk.1 o;have hi':i=f:=xk.1 hi;cases u:xm p l m with
       |false=>
        refine⟨false,rfl,?_⟩;rw[u] at he;simp only[ox,Vm,Tm.mk.injEq,not_and];intro _ _ _ A;exact absurd (he.2 A) aaA
       |true=>
        refine⟨true,rfl,?_⟩;rw[u] at he;simp only[true_iff,Tm.mk.injEq];exact⟨w,hi',hs,he.1 rfl⟩
     ·rw[dK q,dR trivial];exact no λh=>q (B.2 h.2.2.1)
def KL{a b:Tm}(hw:a.wt<=1000000000):∃r,rv a b=some r/\(r=true↔a=b):=by
 obtain⟨r,c,d⟩:=F7 FU a b (by rw[fI];exact hw) hw;exact⟨r,by unfold rv;rw[c];rfl,d⟩
def Eg:∀(k:Nat) (m:Int) (t:Tm),(t.norm k m).2.2=0\/(t.norm k m).2.2=4\/(t.norm k m).2.2=5
 |0,m,t=>by
  rw[Tm.norm]
  split
  ·exact .inl rfl
  ·exact .inr (.inr rfl)
 |k+1,m,t=>by
  rw[Tm.norm]
  split
  ·exact .inr (.inl rfl)
  ·exact .inl rfl
  ·exact Eg k _ _
def Ss:∀(k:Nat) (m:Int) (t a:Tm) (n:Int),t.norm k m=(a,n,0)->a.nf=true/\m<=n/\n<=m+k/\(∀k':Nat,n<=m+k'->t.norm k' m=(a,n,0))/\∀k':Nat,m+k'<n->t.norm k' m=(Tm.z,0,5)
 |0,m,t,a,n,h=>by
  rw[Tm.norm] at h
  split at h
  ·rename_i b;obtain⟨c,h⟩:=iU h;rw[<-c];obtain⟨rfl,_⟩:=iU h;refine⟨b,KZ _,VW,λk' _=>?_,λk' h=>by omega⟩;cases k' with
   |zero=>rw[Tm.norm,dR b]|succ k'=>rw[Gb ((F_ _ _).1 b)]
  ·cases h
 |k+1,m,t,a,n,h=>by
  rw[Tm.norm] at h
  split at h
  ·cases h
  ·rename_i hs;obtain⟨c,h⟩:=iU h;rw[<-c];obtain⟨rfl,_⟩:=iU h;have b:=(F_ _ _).2 hs;refine⟨b,KZ _,VW,λk' _=>?_,λk' h=>by omega⟩;cases k' with
   |zero=>rw[Tm.norm,dR b]|succ k'=>rw[Gb hs]
  ·rename_i d hs;obtain⟨f,o,q,i,j⟩:=Ss k (m+1) d a n h;refine⟨f,VW,VW,λk' l=>?_,λk' l=>?_⟩
   ·cases k' with
    |zero=>omega|succ k'=>
     rw[Gq hs];exact i k' VW
   ·cases k' with
    |zero=>
     rw[Tm.norm,dK];intro b;rw[(F_ _ _).1 b] at hs;cases hs
    |succ k'=>
     rw[Gq hs];exact j k' VW
def Ie:∀(k:Nat) (M m:Int) (t a:Tm) (n:Int),0<=M->Sm M t->t.alZ<=4096->t.norm k m=(a,n,0)->Sm (M+8192*k) a/\a.alZ<=4096
 |0,M,m,t,a,n,d,hs,hn,h=>by
  rw[Tm.norm] at h
  split at h
  ·obtain⟨b,h⟩:=iU h;rw[<-b];exact⟨hs.mono VW,hn⟩
  ·cases h
 |k+1,M,m,t,a,n,d,hs,hn,h=>by
  rw[Tm.norm] at h
  split at h
  ·cases h
  ·obtain⟨b,h⟩:=iU h;rw[<-b];exact⟨hs.mono VW,hn⟩
  ·rename_i f c;obtain⟨i,j,l⟩:=Y3 d t hs VW f c;obtain⟨a1,a2⟩:=Ie k (M+8192) (m+1) f a n VW ⟨i,j,VW⟩ VW h;exact⟨a1.mono VW,a2⟩
def UH(l:List Int):JI l=some (decide (l.length<=500)):=by
 unfold JI
 congr 1
 unfold Zv eA;exact ab0.2 VW
def qI{k:Int}(a:k≠1)(c:k≠2)(f b i:Int)(s:Ty)(l:List Tm):(Tm.mk k i s l).up f b=.mk k i s (l.map (Tm.up f b)):=by
 rw[Tm.fu,dK (λh=>a h.1)];unfold fq;rw[dK c,sh]
def WS(f b i:Int)(s:Ty)(l:List Tm):(Tm.mk 2 i s l).up f b=.mk 2 i s (l.map (Tm.up (f+1) b)):=by
 rw[Tm.fu,dK (λh=>by have:=h.1;omega)];rfl
def nw{k:Int}(b:k≠1)(c:k≠2)(n i:Int)(a:Tm)(s:Ty)(l:List Tm):Tm.gp n (Tm.mk k i s l) a=.mk k i s (l.map λx=>Tm.gp n x a):=by
 rw[Tm.eS,dK b];unfold fq;rw[dK c,sh]
def Tr(n i:Int)(a:Tm)(s:Ty)(l:List Tm):Tm.gp n (Tm.mk 2 i s l) a=.mk 2 i s (l.map λx=>Tm.gp (n+1) x a):=by
 rw[Tm.eS,dK aar];rfl
def Ii{g:List Ty}{t:Ty}{i j:Nat}(h:g[j]?=some t)(hi:i<g.length)(a:g.length-1-i=j):dU g (.mk 1 i .z []) t:=.var i hi (by rw[a];exact h)
def dU.up{g:List Ty}{x:Tm}{t:Ty}(h:dU g x t):∀g1 g2 e:List Ty,g=g1++g2->dU (g1++e++g2) (x.up g2.length e.length) t:=by
 induction h with
 |@var g t i d k=>
  rintro g1 g2 e rfl;rw[Tm.fu,mr];rw[nB] at d
  by_cases hi:g2.length<=i
  ·rw[dR ⟨rfl,VW⟩,show(i:Int)+e.length=((i+e.length:Nat):Int) by push_cast;rfl];refine Ii (j:=g1.length+g2.length-1-i) ?_ (by simp<;>omega) (by simp<;>omega);rw[nB,vV VW] at k;rw[tM,vV VW];exact k
  ·rw[dK (λh=>by have:=h.2;omega)];refine Ii (j:=g1.length+e.length+(g2.length-1-i)) ?_ (by simp<;>omega) (by simp<;>omega);rw[nB,tQ VW] at k;rw[tQ (by simp<;>omega)];rw[<-k]
   congr 1
   simp;omega
 |@lam g s b t d _ ih=>
  rintro g1 g2 e rfl;have:=ih g1 (g2++[s]) e (by rw[tM]);rw[WS];refine .lam d ?_;rw[nB,<-tM] at this;exact this
 |app _ _ a c=>intro g1 g2 e hg;rw[qI aar aar];exact .app (a g1 g2 e hg) (c g1 g2 e hg)|zero=>intro g1 g2 e hg;rw[qI aar aar];exact .zero|succ _ ih=>intro g1 g2 e hg;rw[qI aar aar];exact .succ (ih g1 g2 e hg)|oN d _ _ _ a c f=>intro g1 g2 e hg;rw[qI aar aar];exact .oN d (a g1 g2 e hg) (c g1 g2 e hg) (f g1 g2 e hg)|nil=>intro g1 g2 e hg;rw[qI aar aar];exact .nil|cons _ _ a c=>intro g1 g2 e hg;rw[qI aar aar];exact .cons (a g1 g2 e hg) (c g1 g2 e hg)|fold d _ _ _ a c f=>intro g1 g2 e hg;rw[qI aar aar];exact .fold d (a g1 g2 e hg) (c g1 g2 e hg) (f g1 g2 e hg)|pair d _ _ a c=>intro g1 g2 e hg;rw[qI aar aar];exact .pair d (a g1 g2 e hg) (c g1 g2 e hg)|fst _ ih=>intro g1 g2 e hg;rw[qI aar aar];exact .fst (ih g1 g2 e hg)|snd _ ih=>intro g1 g2 e hg;rw[qI aar aar];exact .snd (ih g1 g2 e hg)|unit=>intro g1 g2 e hg;rw[qI aar aar];exact .unit
def dU.gp{g:List Ty}{x:Tm}{t:Ty}(h:dU g x t):∀(g1:List Ty) (s:Ty) (g2:List Ty) (a:Tm),g=g1++[s]++g2->dU g1 a s->dU (g1++g2) (Tm.gp g2.length x a) t:=by
 induction h with
 |@var g t i k l=>
  rintro g1 s g2 a rfl c;rw[Tm.eS,dR rfl];unfold Tm.kH;simp only[nB,mN,CD] at k l
  by_cases he:(i:Int)=g2.length
  ·rw[dR he]
   have o:s=t:=by
    rw[tM,tQ VW,vV (by simp<;>omega)] at l;rw[show g1.length+(0+1)+g2.length-1-i-g1.length=0 by omega] at l;exact kX l
   subst o;have:=c.up g1 [] g2 aaA;simpa using this
  ·rw[dK he]
   by_cases hi:(g2.length:Int)<i
   ·rw[dR hi,show(i:Int)-1=((i-1:Nat):Int) by omega];refine Ii (j:=g1.length+g2.length-i) ?_ (by simp<;>omega) (by simp<;>omega);rw[tM,vV VW] at l;rw[vV VW,<-l]
    congr 1
    omega
   ·rw[dK hi];refine Ii (j:=g1.length+(g2.length-1-i)) ?_ (by simp<;>omega) (by simp<;>omega);rw[tQ (by simp<;>omega)] at l;rw[tQ VW,<-l]
    congr 1
    simp;omega
 |@lam g s b t k _ ih=>
  rintro g1 u g2 a rfl c;have:=ih g1 u (g2++[s]) a (by simp only[tM]) c;rw[Tr];refine .lam k ?_;rw[nB,<-tM] at this;exact this
 |app _ _ d f=>intro g1 s g2 a hg c;rw[nw aar aar];exact .app (d g1 s g2 a hg c) (f g1 s g2 a hg c)|zero=>intro g1 s g2 a hg c;rw[nw aar aar];exact .zero|succ _ ih=>intro g1 s g2 a hg c;rw[nw aar aar];exact .succ (ih g1 s g2 a hg c)|oN k _ _ _ d f n=>intro g1 s g2 a hg c;rw[nw aar aar];exact .oN k (d g1 s g2 a hg c) (f g1 s g2 a hg c) (n g1 s g2 a hg c)|nil=>intro g1 s g2 a hg c;rw[nw aar aar];exact .nil|cons _ _ d f=>intro g1 s g2 a hg c;rw[nw aar aar];exact .cons (d g1 s g2 a hg c) (f g1 s g2 a hg c)|fold k _ _ _ d f n=>intro g1 s g2 a hg c;rw[nw aar aar];exact .fold k (d g1 s g2 a hg c) (f g1 s g2 a hg c) (n g1 s g2 a hg c)|pair k _ _ d f=>intro g1 s g2 a hg c;rw[nw aar aar];exact .pair k (d g1 s g2 a hg c) (f g1 s g2 a hg c)|fst _ ih=>intro g1 s g2 a hg c;rw[nw aar aar];exact .fst (ih g1 s g2 a hg c)|snd _ ih=>intro g1 s g2 a hg c;rw[nw aar aar];exact .snd (ih g1 s g2 a hg c)|unit=>intro g1 s g2 a hg c;rw[nw aar aar];exact .unit
def Ty.afa{a b c d:Ty}(h:Ty.fn a b=Ty.fn c d):a=c/\b=d:=by unfold Ty.fn at h;simpa using h
def Ty.WD{a b c d:Ty}(h:Ty.pr a b=Ty.pr c d):a=c/\b=d:=by unfold Ty.pr at h;simpa using h
def dU.fD{g:List Ty}{x:Tm}{t:Ty}(h:dU g x t)(o:x.root=true):dU g x.fD t:=by
 cases h with
 |@app _ f a s _ c k=>
  have d:f.alX=2:=by simpa[Tm.root,Tm.kd] using o
  generalize r:Ty.fn s t=q at c
  cases c<;>simp only[Tm.eK] at d<;>first|omega|skip
  rename_i A b w i j;obtain⟨rfl,rfl⟩:=Ty.afa r;have:=j.gp g s [] a aaA k;simpa[Tm.fD] using this
 |@oN _ _ b s n c k i j=>
  have d:n.alX=4\/n.alX=5:=by simpa[Tm.root,Tm.kd] using o
  cases j<;>simp only[Tm.eK] at d<;>first|omega|skip
  ·simpa[Tm.fD] using k
  ·rename_i m l;have:=dU.app (.app i l) (dU.oN c k i l);simpa[Tm.fD,pn,Ty.z] using this
 |@fold _ _ b s n c k i j=>
  have d:n.alX=7\/n.alX=8:=by simpa[Tm.root,Tm.kd] using o
  cases j<;>simp only[Tm.eK] at d<;>first|omega|skip
  ·simpa[Tm.fD] using k
  ·rename_i u v l y;have:=dU.app (.app (.app i l) y) (dU.fold c k i y);simpa[Tm.fD,pn,Ty.z] using this
 |@fst _ a s w c=>
  have d:a.alX=10:=by simpa[Tm.root,Tm.kd] using o
  generalize r:Ty.pr t w=q at c
  cases c<;>simp only[Tm.eK] at d<;>first|omega|skip
  rename_i i j l;obtain⟨rfl,rfl⟩:=Ty.WD r;simpa[Tm.fD] using j
 |@snd _ a s w c=>
  have d:a.alX=10:=by simpa[Tm.root,Tm.kd] using o
  generalize r:Ty.pr s t=q at c
  cases c<;>simp only[Tm.eK] at d<;>first|omega|skip
  rename_i i j l;obtain⟨rfl,rfl⟩:=Ty.WD r;simpa[Tm.fD] using l
 |_=>simp[Tm.root] at o
def lE{r k i:Int}{s:Ty}{l:List Tm}{b:Tm}(h:(Tm.mk k i s l).KY r=some (some b)):((Tm.mk k i s l).root=true/\b=(Tm.mk k i s l).fD)\/∃a,Tm.w6 r l=some (some a)/\b=.mk k i s a:=by
 rw[Tm.Mt] at h
 by_cases c:(Tm.mk k i s l).root=true
 ·rw[dR c] at h
  split at h
  · cases h
  · exact .inl ⟨c,(kX (kX h)).symm⟩
 ·rw[dK c] at h;cases e:Tm.w6 r l with
  |none=>rw[e] at h;cases h
  |some o=>
    cases o with
    |none=>rw[e] at h;cases h
    |some a=>rw[e] at h;exact .inr ⟨a,rfl,(kX (kX h)).symm⟩
def kf{r:Int}{a:Tm}{l c:List Tm}(h:Tm.w6 r (a::l)=some (some c)):(∃b,a.KY r=some (some b)/\c=b::l)\/∃m,Tm.w6 r l=some (some m)/\c=a::m:=by
 rw[Tm.w6] at h;cases e:a.KY r with
 |none=>rw[e] at h;cases h
 |some o=>
  cases o with
  |some b=>rw[e] at h;exact .inl ⟨b,rfl,(kX (kX h)).symm⟩
  |none=>
   rw[e] at h;dsimp only at h;cases d:Tm.w6 r l with
   |none=>rw[d] at h;cases h
   |some o2=>
    cases o2 with
    |none=>rw[d] at h;cases h
    |some m=>rw[d] at h;exact .inr ⟨m,rfl,(kX (kX h)).symm⟩
def m8{r:Int}{a:List Tm}(h:Tm.w6 r []=some (some a)):False:=by rw[Tm.w6] at h;cases h
def dU.KY{r:Int}{g:List Ty}{x:Tm}{t:Ty}(h:dU g x t):∀o,x.KY r=some (some o)->dU g o t:=by
 induction h with
 |var i c j=>
  intro o hs;rcases lE hs with⟨d,rfl⟩|⟨u,f,rfl⟩
  ·exact(dU.var i c j).fD d
  ·exact(m8 f).elim
 |lam c j ih=>
  intro o hs;rcases lE hs with⟨d,rfl⟩|⟨u,f,rfl⟩
  ·exact(dU.lam c j).fD d
  ·rcases kf f with⟨q,a,b⟩|⟨m,a,b⟩
   ·subst_vars;exact .lam c (ih _ a)
   ·exact(m8 a).elim
 |app c j k l=>
  intro o hs;rcases lE hs with⟨d,rfl⟩|⟨u,f,rfl⟩
  ·exact(dU.app c j).fD d
  ·rcases kf f with⟨q,a,b⟩|⟨m,a,b⟩
   ·subst_vars;exact .app (k _ a) j
   ·rcases kf a with⟨q,n,b⟩|⟨m,n,b⟩
    ·subst_vars;exact .app c (l _ n)
    ·exact(m8 n).elim
 |zero=>
  intro o hs;rcases lE hs with⟨d,rfl⟩|⟨u,f,rfl⟩
  ·exact dU.zero.fD d
  ·exact(m8 f).elim
 |succ c ih=>
  intro o hs;rcases lE hs with⟨d,rfl⟩|⟨u,f,rfl⟩
  ·exact(dU.succ c).fD d
  ·rcases kf f with⟨q,a,b⟩|⟨m,a,b⟩
   ·subst_vars;exact .succ (ih _ a)
   ·exact(m8 a).elim
 |oN s c j v k l w=>
  intro o hs;rcases lE hs with⟨d,rfl⟩|⟨u,f,rfl⟩
  ·exact(dU.oN s c j v).fD d
  ·rcases kf f with⟨q,a,b⟩|⟨m,a,b⟩
   ·subst_vars;exact .oN s (k _ a) j v
   ·rcases kf a with⟨q,n,b⟩|⟨m,n,b⟩
    ·subst_vars;exact .oN s c (l _ n) v
    ·rcases kf n with⟨q,y,b⟩|⟨m,y,b⟩
     ·subst_vars;exact .oN s c j (w _ y)
     ·exact(m8 y).elim
 |nil=>
  intro o hs;rcases lE hs with⟨d,rfl⟩|⟨u,f,rfl⟩
  ·exact dU.nil.fD d
  ·exact(m8 f).elim
 |cons c j k l=>
  intro o hs;rcases lE hs with⟨d,rfl⟩|⟨u,f,rfl⟩
  ·exact(dU.cons c j).fD d
  ·rcases kf f with⟨q,a,b⟩|⟨m,a,b⟩
   ·subst_vars;exact .cons (k _ a) j
   ·rcases kf a with⟨q,n,b⟩|⟨m,n,b⟩
    ·subst_vars;exact .cons c (l _ n)
    ·exact(m8 n).elim
 |fold s c j v k l w=>
  intro o hs;rcases lE hs with⟨d,rfl⟩|⟨u,f,rfl⟩
  ·exact(dU.fold s c j v).fD d
  ·rcases kf f with⟨q,a,b⟩|⟨m,a,b⟩
   ·subst_vars;exact .fold s (k _ a) j v
   ·rcases kf a with⟨q,n,b⟩|⟨m,n,b⟩
    ·subst_vars;exact .fold s c (l _ n) v
    ·rcases kf n with⟨q,y,b⟩|⟨m,y,b⟩
     ·subst_vars;exact .fold s c j (w _ y)
     ·exact(m8 y).elim
 |pair s c j k l=>
  intro o hs;rcases lE hs with⟨d,rfl⟩|⟨u,f,rfl⟩
  ·exact(dU.pair s c j).fD d
  ·rcases kf f with⟨q,a,b⟩|⟨m,a,b⟩
   ·subst_vars;exact .pair s (k _ a) j
   ·rcases kf a with⟨q,n,b⟩|⟨m,n,b⟩
    ·subst_vars;exact .pair s c (l _ n)
    ·exact(m8 n).elim
 |fst c ih=>
  intro o hs;rcases lE hs with⟨d,rfl⟩|⟨u,f,rfl⟩
  ·exact(dU.fst c).fD d
  ·rcases kf f with⟨q,a,b⟩|⟨m,a,b⟩
   ·subst_vars;exact .fst (ih _ a)
   ·exact(m8 a).elim
 |snd c ih=>
  intro o hs;rcases lE hs with⟨d,rfl⟩|⟨u,f,rfl⟩
  ·exact(dU.snd c).fD d
  ·rcases kf f with⟨q,a,b⟩|⟨m,a,b⟩
   ·subst_vars;exact .snd (ih _ a)
   ·exact(m8 a).elim
 |unit=>
  intro o hs;rcases lE hs with⟨d,rfl⟩|⟨u,f,rfl⟩
  ·exact dU.unit.fD d
  ·exact(m8 f).elim
def dU.norm{g:List Ty}{t:Ty}:∀(k:Nat) (m:Int) (x a:Tm) (n:Int),dU g x t->x.norm k m=(a,n,0)->dU g a t
 |0,m,x,a,n,b,h=>by
  rw[Tm.norm] at h
  split at h
  ·obtain⟨c,_⟩:=iU h;rw[<-c];exact b
  ·cases h
 |k+1,m,x,a,n,b,h=>by
  rw[Tm.norm] at h
  split at h
  ·cases h
  ·obtain⟨c,_⟩:=iU h;rw[<-c];exact b
  ·rename_i d hs;exact dU.norm k (m+1) d a n (b.KY _ hs) h
theorem Kj{i:Int}{s:Ty}{l:List Tm}(h:(Tm.mk 1 i s l).ok=true):s=.mk 0 []/\l=[]:=by
 have b:=Tm.sU h;have e:gX 1=0:=rfl;have a:l=[]:=Cw VW;subst a;rw[Tm.hI] at h;cases s with
 |mk k l=>simp[Tm.node,kh,Ty.r9,eo,eA,gX] at h;refine⟨?_,rfl⟩;obtain⟨c,d⟩:=h;simp_all
theorem aiA(t:Tm):∀g f n c:Int,0<=g->0<=n->0<=c->g+n<=f->(t.up g n).up f c=(t.up (f-n) c).up g n:=by
 induction t using Tm.ind with
 |h k i s l ih=>
  intro g f n c hg hn a b;simp only[Tm.fu,Bq]
  congr 1
  ·grind
  ·refine tN λx d=>?_
   grind[fq]
theorem up_add(t:Tm):∀g f p m:Int,0<=g->0<=p->0<=m->g<=f->f<=g+p->(t.up g p).up f m=t.up g (p+m):=by
 induction t using Tm.ind with
 |h k i s l ih=>
  intro g f p m hg a hm b c;simp only[Tm.fu,Bq]
  congr 1
  ·grind
  ·refine tN λx d=>?_
   grind[fq]
theorem RC(x t:Tm):∀g m n:Int,t.ok=true->0<=g->g<=m->m<=g+n->Tm.gp m (t.up g (n+1)) x=t.up g n:=by
 induction t using Tm.ind with
 |h k i s l ih=>
  intro g m n b hg c d
  by_cases a:k=1
  ·grind[Kj,Tm.fu,Tm.eS,Tm.kH]
  ·simp only[Tm.fu,a,J4,jb,Tm.eS,Bq]
   congr 1
   refine tN λy f=>?_
   grind[fq,Tm.ey]
theorem PT(a t:Tm):∀g m n:Int,t.ok=true->0<=g->0<=m->g+m<=n->Tm.gp n (t.up g m) a=(Tm.gp (n-m) t a).up g m:=by
 induction t using Tm.ind with
 |h k i s l ih=>
  intro g m n c hg hm d
  by_cases b:k=1
  ·grind[Tm.fu,Tm.eS,Tm.kH,up_add]
  ·simp only[Tm.fu,b,J4,jb,Tm.eS,Bq]
   congr 1
   refine tN λy f=>?_
   grind[fq,Tm.ey]
def ad5(a t:Tm):∀n f c:Int,t.ok=true->0<=n->n<=f->0<=c->(Tm.gp n t a).up f c=Tm.gp n (t.up (f+1) c) (a.up (f-n) c):=by
 induction t using Tm.ind with
 |h k i s l ih=>
  intro n f c d hn j o
  by_cases b:k=1
  ·subst b;obtain⟨rfl,rfl⟩:=Kj d;simp only[Tm.fu,AZ,mr,Tm.eS,if_true]
   grind[Tm.kH,aiA,Tm.fu]
  ·simp only[Tm.fu,b,J4,jb,Tm.eS,Bq]
   congr 1
   refine tN λy q=>?_
   grind[fq,Tm.ey]
def abf(a s:Tm)(c:a.ok=true)(hs:s.ok=true)(t:Tm):∀m n:Int,t.ok=true->0<=m->m<=n->Tm.gp n (Tm.gp m t a) s=Tm.gp m (Tm.gp (n+1) t s) (Tm.gp (n-m) a s):=by
 induction t using Tm.ind with
 |h k i ty l ih=>
  intro m n d hm hn
  by_cases b:k=1
  ·grind[Kj,Tm.eS,Tm.kH,PT,RC]
  ·simp only[Tm.eS,b,jb,Bq]
   congr 1
   refine tN λy f=>?_
   grind[fq,Tm.ey]
inductive k4:Tm->Tm->Prop
 |n0 (k i:Int) (s:Ty):k4 (.mk k i s []) (.mk k i s [])|n1 (k i:Int) (s:Ty) {a a':Tm}:k4 a a'->k4 (.mk k i s [a]) (.mk k i s [a'])|n2 (k i:Int) (s:Ty) {a a' b b':Tm}:k4 a a'->k4 b b'->k4 (.mk k i s [a,b]) (.mk k i s [a',b'])|n3 (k i:Int) (s:Ty) {a a' b b' c c':Tm}:k4 a a'->k4 b b'->k4 c c'->k4 (.mk k i s [a,b,c]) (.mk k i s [a',b',c'])|beta (i:Int) (s:Ty) (j:Int) (u:Ty) {b b' a a':Tm}:k4 b b'->k4 a a'->k4 (.mk 3 i s [.mk 2 j u [b],a]) (Tm.gp 0 b' a')|Km (i:Int) (s:Ty) (j:Int) (u:Ty) (c:Tm) {b b':Tm}:k4 b b'->k4 (.mk 6 i s [b,c,.mk 4 j u []]) b'|IL (i:Int) (s:Ty) (j:Int) (u:Ty) {b b' c c' n n':Tm}:k4 b b'->k4 c c'->k4 n n'->k4 (.mk 6 i s [b,c,.mk 5 j u [n]]) (pn c' [n',.mk 6 i s [b',c',n']])|Ef (i:Int) (s:Ty) (j:Int) (u:Ty) (c:Tm) {b b':Tm}:k4 b b'->k4 (.mk 9 i s [b,c,.mk 7 j u []]) b'|E0 (i:Int) (s:Ty) (j:Int) (u:Ty) {b b' c c' n n' t t':Tm}:k4 b b'->k4 c c'->k4 n n'->k4 t t'->k4 (.mk 9 i s [b,c,.mk 8 j u [n,t]]) (pn c' [n',t',.mk 9 i s [b',c',t']])|fst (i:Int) (s:Ty) (j:Int) (u:Ty) (b:Tm) {a a':Tm}:k4 a a'->k4 (.mk 11 i s [.mk 10 j u [a,b]]) a'|snd (i:Int) (s:Ty) (j:Int) (u:Ty) (a:Tm) {b b':Tm}:k4 b b'->k4 (.mk 12 i s [.mk 10 j u [a,b]]) b'
def k4.ok{t u:Tm}(h:k4 t u):t.ok=true->u.ok=true:=by
 induction h with
 |n0 k i s=>exact id|n1 k i s _ ih=>intro d;exact Tm.xI d rfl (by intro t v;rw[EY] at v;subst v;exact ih (Tm.ey d _ aaA))
 |n2 k i s _ _ f l=>grind[Tm.xI,Tm.ey]|n3 k i s _ _ _ f l o=>
  intro d;refine Tm.xI d rfl ?_
  grind[Tm.ey]
 |@beta i s j u b q a x _ _ f l=>
  intro d;exact Tm.Nh _ (l (Tm.ey d a aaA)) _ 0 VW (f (Tm.ey (Tm.ey d (Tm.mk 2 j u [b]) aaA) b aaA))
 |Km i s j u c _ ih=>intro d;exact ih (Tm.ey d _ aaA)|@IL i s j u b q c y n n' _ _ _ f l o=>
  intro d;have A:=f (Tm.ey d _ aaA);have B:=l (Tm.ey d _ aaA);have C:=o (Tm.ey (Tm.ey d (Tm.mk 5 j u [n]) aaA) _ aaA)
  grind[Fl,Tm.xI]
 |Ef i s j u c _ ih=>intro d;exact ih (Tm.ey d _ aaA)|@E0 i s j u b q c y n n' t D _ _ _ _ f l o r=>
  intro d;have A:=f (Tm.ey d _ aaA);have B:=l (Tm.ey d _ aaA);have w:=Tm.ey d (Tm.mk 8 j u [n,t]) aaA;have C:=o (Tm.ey w _ aaA);have F:=r (Tm.ey w _ aaA)
  grind[Fl,Tm.xI]
 |@fst i s j u b a x _ ih=>intro d;exact ih (Tm.ey (Tm.ey d (Tm.mk 10 j u [a,b]) aaA) a aaA)|@snd i s j u a b q _ ih=>intro d;exact ih (Tm.ey (Tm.ey d (Tm.mk 10 j u [a,b]) aaA) b aaA)
def up3(f b i:Int)(s:Ty)(l:List Tm):(Tm.mk 3 i s l).up f b=.mk 3 i s (l.map (Tm.up f b)):=qI aar aar f b i s l
def up4(f b i:Int)(s:Ty)(l:List Tm):(Tm.mk 4 i s l).up f b=.mk 4 i s (l.map (Tm.up f b)):=qI aar aar f b i s l
def up5(f b i:Int)(s:Ty)(l:List Tm):(Tm.mk 5 i s l).up f b=.mk 5 i s (l.map (Tm.up f b)):=qI aar aar f b i s l
def up6(f b i:Int)(s:Ty)(l:List Tm):(Tm.mk 6 i s l).up f b=.mk 6 i s (l.map (Tm.up f b)):=qI aar aar f b i s l
def up7(f b i:Int)(s:Ty)(l:List Tm):(Tm.mk 7 i s l).up f b=.mk 7 i s (l.map (Tm.up f b)):=qI aar aar f b i s l
def up8(f b i:Int)(s:Ty)(l:List Tm):(Tm.mk 8 i s l).up f b=.mk 8 i s (l.map (Tm.up f b)):=qI aar aar f b i s l
def up9(f b i:Int)(s:Ty)(l:List Tm):(Tm.mk 9 i s l).up f b=.mk 9 i s (l.map (Tm.up f b)):=qI aar aar f b i s l
def ahO(f b i:Int)(s:Ty)(l:List Tm):(Tm.mk 10 i s l).up f b=.mk 10 i s (l.map (Tm.up f b)):=qI aar aar f b i s l
def Ul(f b i:Int)(s:Ty)(l:List Tm):(Tm.mk 11 i s l).up f b=.mk 11 i s (l.map (Tm.up f b)):=qI aar aar f b i s l
def WH(f b i:Int)(s:Ty)(l:List Tm):(Tm.mk 12 i s l).up f b=.mk 12 i s (l.map (Tm.up f b)):=qI aar aar f b i s l
def in3(n i:Int)(a:Tm)(s:Ty)(l:List Tm):Tm.gp n (Tm.mk 3 i s l) a=.mk 3 i s (l.map λx=>Tm.gp n x a):=nw aar aar n i a s l
def in4(n i:Int)(a:Tm)(s:Ty)(l:List Tm):Tm.gp n (Tm.mk 4 i s l) a=.mk 4 i s (l.map λx=>Tm.gp n x a):=nw aar aar n i a s l
def in5(n i:Int)(a:Tm)(s:Ty)(l:List Tm):Tm.gp n (Tm.mk 5 i s l) a=.mk 5 i s (l.map λx=>Tm.gp n x a):=nw aar aar n i a s l
def in6(n i:Int)(a:Tm)(s:Ty)(l:List Tm):Tm.gp n (Tm.mk 6 i s l) a=.mk 6 i s (l.map λx=>Tm.gp n x a):=nw aar aar n i a s l
def in7(n i:Int)(a:Tm)(s:Ty)(l:List Tm):Tm.gp n (Tm.mk 7 i s l) a=.mk 7 i s (l.map λx=>Tm.gp n x a):=nw aar aar n i a s l
def in8(n i:Int)(a:Tm)(s:Ty)(l:List Tm):Tm.gp n (Tm.mk 8 i s l) a=.mk 8 i s (l.map λx=>Tm.gp n x a):=nw aar aar n i a s l
def in9(n i:Int)(a:Tm)(s:Ty)(l:List Tm):Tm.gp n (Tm.mk 9 i s l) a=.mk 9 i s (l.map λx=>Tm.gp n x a):=nw aar aar n i a s l
def ahj(n i:Int)(a:Tm)(s:Ty)(l:List Tm):Tm.gp n (Tm.mk 10 i s l) a=.mk 10 i s (l.map λx=>Tm.gp n x a):=nw aar aar n i a s l
def ajV(n i:Int)(a:Tm)(s:Ty)(l:List Tm):Tm.gp n (Tm.mk 11 i s l) a=.mk 11 i s (l.map λx=>Tm.gp n x a):=nw aar aar n i a s l
def ajK(n i:Int)(a:Tm)(s:Ty)(l:List Tm):Tm.gp n (Tm.mk 12 i s l) a=.mk 12 i s (l.map λx=>Tm.gp n x a):=nw aar aar n i a s l
def k4.up{t u:Tm}(h:k4 t u):t.ok=true->∀f c:Int,0<=f->0<=c->k4 (t.up f c) (u.up f c):=by
 induction h with
 |n0 k i s=>intro _ f c _ _;rw[Tm.fu];exact .n0 _ _ _|n1 k i s _ ih=>
  intro l f c o w;have D:=ju k;rw[Tm.fu,Tm.fu];exact .n1 _ _ _ (ih (Tm.ey l _ aaA) _ _ VW w)
 |n2 k i s _ _ q r=>
  intro l f c o w;have D:=ju k;rw[Tm.fu,Tm.fu];exact .n2 _ _ _ (q (Tm.ey l _ aaA) _ _ VW w) (r (Tm.ey l _ aaA) _ _ VW w)
 |n3 k i s _ _ _ q r x=>
  intro l f c o w;have D:=ju k;rw[Tm.fu,Tm.fu];exact .n3 _ _ _ (q (Tm.ey l _ aaA) _ _ VW w) (r (Tm.ey l _ aaA) _ _ VW w) (x (Tm.ey l _ aaA) _ _ VW w)
 |@beta i s j u b B a F G I q r=>
  intro l f c o w;have y:=Tm.ey l (Tm.mk 2 j u [b]) aaA;have A:=Tm.ey y b aaA;rw[ad5 F B 0 f c (G.ok A) VW o w,adZ];simp only[up3,WS,kZ,mr];exact .beta _ _ _ _ (q A _ _ VW w) (r (Tm.ey l _ aaA) _ _ o w)
 |Km i s j u c _ ih=>
  intro l f d o v;simp only[up6,up4,kZ,mr];exact .Km _ _ _ _ _ (ih (Tm.ey l _ aaA) _ _ o v)
 |@IL i s j u b B c H n n' _ _ _ q r x=>
  intro l f d o v;have y:=Tm.ey l (Tm.mk 5 j u [n]) aaA;simp only[pn,up3,up6,up5,kZ,mr];exact .IL _ _ _ _ (q (Tm.ey l _ aaA) _ _ o v) (r (Tm.ey l _ aaA) _ _ o v) (x (Tm.ey y _ aaA) _ _ o v)
 |Ef i s j u c _ ih=>
  intro l f d o v;simp only[up9,up7,kZ,mr];exact .Ef _ _ _ _ _ (ih (Tm.ey l _ aaA) _ _ o v)
 |@E0 i s j u b B c H n n' t J _ _ _ _ q r x C=>
  intro l f d o v;have y:=Tm.ey l (Tm.mk 8 j u [n,t]) aaA;simp only[pn,up3,up9,up8,kZ,mr];exact .E0 _ _ _ _ (q (Tm.ey l _ aaA) _ _ o v) (r (Tm.ey l _ aaA) _ _ o v) (x (Tm.ey y _ aaA) _ _ o v) (C (Tm.ey y _ aaA) _ _ o v)
 |@fst i s j u b a F _ ih=>
  intro l f d o v;simp only[Ul,ahO,kZ,mr];exact .fst _ _ _ _ _ (ih (Tm.ey (Tm.ey l (Tm.mk 10 j u [a,b]) aaA) _ aaA) _ _ o v)
 |@snd i s j u a b B _ ih=>
  intro l f d o v;simp only[WH,ahO,kZ,mr];exact .snd _ _ _ _ _ (ih (Tm.ey (Tm.ey l (Tm.mk 10 j u [a,b]) aaA) _ aaA) _ _ o v)
def BW{k i:Int}{s:Ty}{a:Tm}{l:List Tm}(h:(Tm.mk k i s (a::l)).ok=true):k≠1:=by grind[Kj]
def k4.gp{t u:Tm}(h:k4 t u){x y:Tm}(v:k4 x y)(G:x.ok=true):t.ok=true->∀n:Int,0<=n->k4 (Tm.gp n t x) (Tm.gp n u y):=by
 have J:=v.ok G
 induction h with
 |n0 k i s=>
  intro d n hn;rw[Tm.eS,Tm.eS]
  by_cases B:k=1
  ·rw[dR B,dR B];unfold Tm.kH
   by_cases q:i=n
   ·rw[dR q,dR q];exact v.up G 0 n VW hn
   ·rw[dK q,dK q]
    by_cases C:n<i
    ·rw[dR C];exact .n0 _ _ _
    ·rw[dK C];exact .n0 _ _ _
  ·rw[dK B,dK B];exact .n0 _ _ _
 |n1 k i s _ ih=>
  intro d n hn;have H:=ju k;rw[Tm.eS,Tm.eS,dK (BW d),dK (BW d)];exact .n1 _ _ _ (ih (Tm.ey d _ aaA) _ VW)
 |n2 k i s _ _ f l=>
  intro d n hn;have H:=ju k;rw[Tm.eS,Tm.eS,dK (BW d),dK (BW d)];exact .n2 _ _ _ (f (Tm.ey d _ aaA) _ VW) (l (Tm.ey d _ aaA) _ VW)
 |n3 k i s _ _ _ f l o=>
  intro d n hn;have H:=ju k;rw[Tm.eS,Tm.eS,dK (BW d),dK (BW d)];exact .n3 _ _ _ (f (Tm.ey d _ aaA) _ VW) (l (Tm.ey d _ aaA) _ VW) (o (Tm.ey d _ aaA) _ VW)
 |@beta i s j u b D a I q C f l=>
  intro d n hn;have r:=Tm.ey d (Tm.mk 2 j u [b]) aaA;have w:=Tm.ey r b aaA;have A:=Tm.ey d a aaA;rw[abf I y (C.ok A) J D 0 n (q.ok w) VW hn,adZ];simp only[in3,Tr,kZ,mr];exact .beta _ _ _ _ (f w _ VW) (l A _ hn)
 |Km i s j u c _ ih=>
  intro d n hn;simp only[in6,in4,kZ,mr];exact .Km _ _ _ _ _ (ih (Tm.ey d _ aaA) _ hn)
 |@IL i s j u b D c K n n' _ _ _ f l o=>
  intro d m hm;have r:=Tm.ey d (Tm.mk 5 j u [n]) aaA;simp only[pn,in3,in6,in5,kZ,mr];exact .IL _ _ _ _ (f (Tm.ey d _ aaA) _ hm) (l (Tm.ey d _ aaA) _ hm) (o (Tm.ey r _ aaA) _ hm)
 |Ef i s j u c _ ih=>
  intro d n hn;simp only[in9,in7,kZ,mr];exact .Ef _ _ _ _ _ (ih (Tm.ey d _ aaA) _ hn)
 |@E0 i s j u b D c K n n' t L _ _ _ _ f l o F=>
  intro d m hm;have r:=Tm.ey d (Tm.mk 8 j u [n,t]) aaA;simp only[pn,in3,in9,in8,kZ,mr];exact .E0 _ _ _ _ (f (Tm.ey d _ aaA) _ hm) (l (Tm.ey d _ aaA) _ hm) (o (Tm.ey r _ aaA) _ hm) (F (Tm.ey r _ aaA) _ hm)
 |@fst i s j u b a I _ ih=>
  intro d n hn;simp only[ajV,ahj,kZ,mr];exact .fst _ _ _ _ _ (ih (Tm.ey (Tm.ey d (Tm.mk 10 j u [a,b]) aaA) _ aaA) _ hn)
 |@snd i s j u a b D _ ih=>
  intro d n hn;simp only[ajK,ahj,kZ,mr];exact .snd _ _ _ _ _ (ih (Tm.ey (Tm.ey d (Tm.mk 10 j u [a,b]) aaA) _ aaA) _ hn)
def k4.aiL{k i:Int}{s:Ty}{v:Tm}(h:k4 (.mk k i s []) v):v=.mk k i s []:=by
 generalize a:Tm.mk k i s []=x at h;cases h<;>simp only[Tm.mk.injEq,reduceCtorEq,and_false,Po,J4] at a;obtain⟨rfl,rfl,rfl,_⟩:=a;rfl
def k4.inv1{k i:Int}{s:Ty}{a v:Tm}(h:k4 (.mk k i s [a]) v)(d:k≠11)(f:k≠12):∃c,v=.mk k i s [c]/\k4 a c:=by
 generalize b:Tm.mk k i s [a]=x at h;cases h<;>simp only[Tm.mk.injEq,reduceCtorEq,and_false,Po,J4,Oq] at b
 ·obtain⟨rfl,rfl,rfl,rfl⟩:=b;exact⟨_,rfl,by assumption⟩
 ·exact absurd b.1 d
 ·exact absurd b.1 f
def k4.inv2{k i:Int}{s:Ty}{a b v:Tm}(h:k4 (.mk k i s [a,b]) v)(j:k≠3):∃d f,v=.mk k i s [d,f]/\k4 a d/\k4 b f:=by
 generalize c:Tm.mk k i s [a,b]=x at h;cases h<;>simp only[Tm.mk.injEq,reduceCtorEq,and_false,Po,J4,Oq] at c
 ·obtain⟨rfl,rfl,rfl,rfl,rfl⟩:=c;exact⟨_,_,rfl,by assumption,by assumption⟩
 ·exact absurd c.1 j
mutual
def Tm.dev:Tm->Tm
 |.mk k i s l=>if(Tm.mk k i s l).root then(Tm.mk k i s (Tm.XK l)).fD else .mk k i s (Tm.XK l)
def Tm.XK:List Tm->List Tm
 |[]=>[]|t::l=>t.dev::Tm.XK l
end
def Tm.S4(l:List Tm):Tm.XK l=l.map Tm.dev:=by
 induction l with
 |nil=>rfl|cons t l ih=>simp[Tm.XK,ih]
def Tm.wx{k i:Int}{s:Ty}{l:List Tm}(h:(Tm.mk k i s l).root=true):(Tm.mk k i s l).dev=(Tm.mk k i s (l.map Tm.dev)).fD:=by rw[Tm.dev,Tm.S4,dR h]
def Tm.xO{k i:Int}{s:Ty}{l:List Tm}(h:¬(Tm.mk k i s l).root=true):(Tm.mk k i s l).dev=Tm.mk k i s (l.map Tm.dev):=by rw[Tm.dev,Tm.S4,dK h]
def Ur(i:Int)(s:Ty)(j:Int)(u:Ty)(l:List Tm)(a:Tm):(Tm.mk 3 i s [.mk 2 j u l,a]).root=true:=by simp[Tm.root,Tm.kd]
def TC(j:Int)(u:Ty)(b:Tm):(Tm.mk 2 j u [b]).dev=.mk 2 j u [b.dev]:=Tm.xO (by simp[Tm.root])
def Wh(j:Int)(u:Ty):(Tm.mk 4 j u []).dev=.mk 4 j u []:=Tm.xO (by simp[Tm.root])
def PC(j:Int)(u:Ty)(b:Tm):(Tm.mk 5 j u [b]).dev=.mk 5 j u [b.dev]:=Tm.xO (by simp[Tm.root])
def aan(j:Int)(u:Ty):(Tm.mk 7 j u []).dev=.mk 7 j u []:=Tm.xO (by simp[Tm.root])
def OU(j:Int)(u:Ty)(a b:Tm):(Tm.mk 8 j u [a,b]).dev=.mk 8 j u [a.dev,b.dev]:=Tm.xO (by simp[Tm.root])
def Kv(j:Int)(u:Ty)(a b:Tm):(Tm.mk 10 j u [a,b]).dev=.mk 10 j u [a.dev,b.dev]:=Tm.xO (by simp[Tm.root])
def P6(i:Int)(s:Ty)(j:Int)(u:Ty)(b a:Tm):(Tm.mk 3 i s [.mk 2 j u [b],a]).dev=Tm.gp 0 b.dev a.dev:=by
 rw[Tm.wx (Ur _ _ _ _ _ _)];simp only[kZ,mr,TC];simp[Tm.fD]
def Ot(i:Int)(s:Ty)(j:Int)(u:Ty)(b c:Tm):(Tm.mk 6 i s [b,c,.mk 4 j u []]).dev=b.dev:=by
 rw[Tm.wx (by simp[Tm.root,Tm.kd])];simp only[kZ,mr,Wh];simp[Tm.fD]
def P0(i:Int)(s:Ty)(j:Int)(u:Ty)(b c n:Tm):(Tm.mk 6 i s [b,c,.mk 5 j u [n]]).dev=pn c.dev [n.dev,.mk 6 i s [b.dev,c.dev,n.dev]]:=by
 rw[Tm.wx (by simp[Tm.root,Tm.kd])];simp only[kZ,mr,PC];simp[Tm.fD]
def L4(i:Int)(s:Ty)(j:Int)(u:Ty)(b c:Tm):(Tm.mk 9 i s [b,c,.mk 7 j u []]).dev=b.dev:=by
 rw[Tm.wx (by simp[Tm.root,Tm.kd])];simp only[kZ,mr,aan];simp[Tm.fD]
def LN(i:Int)(s:Ty)(j:Int)(u:Ty)(b c n t:Tm):(Tm.mk 9 i s [b,c,.mk 8 j u [n,t]]).dev=pn c.dev [n.dev,t.dev,.mk 9 i s [b.dev,c.dev,t.dev]]:=by
 rw[Tm.wx (by simp[Tm.root,Tm.kd])];simp only[kZ,mr,OU];simp[Tm.fD]
def S5(i:Int)(s:Ty)(j:Int)(u:Ty)(a b:Tm):(Tm.mk 11 i s [.mk 10 j u [a,b]]).dev=a.dev:=by
 rw[Tm.wx (by simp[Tm.root,Tm.kd])];simp only[kZ,mr,Kv];simp[Tm.fD]
def SJ(i:Int)(s:Ty)(j:Int)(u:Ty)(a b:Tm):(Tm.mk 12 i s [.mk 10 j u [a,b]]).dev=b.dev:=by
 rw[Tm.wx (by simp[Tm.root,Tm.kd])];simp only[kZ,mr,Kv];simp[Tm.fD]
def Tm.yt{t:Tm}{k:Int}(h:t.alX=k):t=.mk k t.al0 t.dN t.alY:=by
 cases t with
 |mk k' i s l=>simp at h;subst h;rfl
def k4.tri{t u:Tm}(h:k4 t u):t.ok=true->k4 u t.dev:=by
 induction h with
 |n0 k i s=>intro _;rw[Tm.xO (by simp[Tm.root,Tm.kd])];exact .n0 _ _ _|@n1 k i s a K h ih=>
  intro l;have r:=Tm.ey l a aaA;have ih:=ih r
  by_cases B:(Tm.mk k i s [a]).root=true
  ·have hk:(k=11\/k=12)/\a.alX=10:=by
    have C:=Tm.sU l;have Z:gX 3=2:=rfl
    have:k≠3:=by rintro rfl;simp at C;omega
    simpa[Tm.root,Tm.kd,this] using B
   obtain⟨hk,D⟩:=hk;rw[Tm.yt D] at h r ih|-;obtain⟨p,q,N⟩:=Tm.ahY r;rw[N] at h r ih|-;obtain⟨O,U,rfl,H,P⟩:=h.inv2 aar;rw[Kv] at ih;obtain⟨Q,V,e,F,R⟩:=ih.inv2 aar;simp only[Tm.mk.injEq,Po,Oq,AZ] at e;obtain⟨rfl,rfl⟩:=e;rcases hk with rfl|rfl
   ·rw[S5];exact .fst _ _ _ _ _ F
   ·rw[SJ];exact .snd _ _ _ _ _ R
  ·rw[Tm.xO B];exact .n1 _ _ _ ih
 |@n2 k i s a K b I L W d v=>
  intro l;have r:=Tm.ey l a aaA;have d:=d r;have v:=v (Tm.ey l b aaA)
  by_cases B:(Tm.mk k i s [a,b]).root=true
  ·have hk:k=3/\a.alX=2:=by
    have C:=Tm.sU l;have X:gX 11=1:=rfl;have Y:gX 12=1:=rfl
    have n1:k≠11:=by rintro rfl;simp at C;omega
    have n2:k≠12:=by rintro rfl;simp at C;omega
    simpa[Tm.root,Tm.kd,n1,n2] using B
   obtain⟨rfl,D⟩:=hk;rw[Tm.yt D] at L r d|-;obtain⟨p,A⟩:=Tm.ok2 r;rw[A] at L r d|-;obtain⟨O,rfl,H⟩:=L.inv1 aar aar;rw[TC] at d;obtain⟨Q,e,F⟩:=d.inv1 aar aar;simp only[Tm.mk.injEq,Po,Oq,AZ] at e;subst e;rw[P6];exact .beta _ _ _ _ F v
  ·rw[Tm.xO B];exact .n2 _ _ _ d v
 |@n3 k i s a K b I c T L W w d v f=>
  intro l;have o:=Tm.ey l c aaA;have d:=d (Tm.ey l a aaA);have v:=v (Tm.ey l b aaA);have f:=f o
  by_cases B:(Tm.mk k i s [a,b,c]).root=true
  ·have hk:(k=6/\(c.alX=4\/c.alX=5))\/(k=9/\(c.alX=7\/c.alX=8)):=by
    have C:=Tm.sU l;have e0:gX 3=2:=rfl;have X:gX 11=1:=rfl;have Y:gX 12=1:=rfl
    have n0:k≠3:=by rintro rfl;simp at C;omega
    have n1:k≠11:=by rintro rfl;simp at C;omega
    have n2:k≠12:=by rintro rfl;simp at C;omega
    simpa[Tm.root,Tm.kd,n0,n1,n2] using B
   rcases hk with⟨rfl,hk|hk⟩|⟨rfl,hk|hk⟩
   ·rw[Tm.yt hk] at w o f|-;have A:=Tm.ok0 (.inl rfl) o;rw[A] at w o f|-;obtain rfl:=w.aiL;rw[Ot];exact .Km _ _ _ _ _ d
   ·rw[Tm.yt hk] at w o f|-;obtain⟨p,A⟩:=Tm.ok5 o;rw[A] at w o f|-;obtain⟨O,rfl,H⟩:=w.inv1 aar aar;rw[PC] at f;obtain⟨Q,e,F⟩:=f.inv1 aar aar;simp only[Tm.mk.injEq,Po,Oq,AZ] at e;subst e;rw[P0];exact .IL _ _ _ _ d v F
   ·rw[Tm.yt hk] at w o f|-;have A:=Tm.ok0 (.inr rfl) o;rw[A] at w o f|-;obtain rfl:=w.aiL;rw[L4];exact .Ef _ _ _ _ _ d
   ·rw[Tm.yt hk] at w o f|-;obtain⟨p,q,A⟩:=Tm.ok8 o;rw[A] at w o f|-;obtain⟨O,U,rfl,H,P⟩:=w.inv2 aar;rw[OU] at f;obtain⟨Q,V,e,F,R⟩:=f.inv2 aar;simp only[Tm.mk.injEq,Po,Oq,AZ] at e;obtain⟨rfl,rfl⟩:=e;rw[LN];exact .E0 _ _ _ _ d v F R
  ·rw[Tm.xO B];exact .n3 _ _ _ d v f
 |@beta i s j u b I a K H P x y=>
  intro l;have J:=Tm.ey (Tm.ey l (Tm.mk 2 j u [b]) aaA) b aaA;have r:=Tm.ey l a aaA;rw[P6];exact(x J).gp (y r) (P.ok r) (H.ok J) 0 VW
 |Km i s j u c _ ih=>intro l;rw[Ot];exact ih (Tm.ey l _ aaA)|@IL i s j u b I c T n n' _ _ _ x y G=>
  intro l;have M:=Tm.ey l (Tm.mk 5 j u [n]) aaA;have g1:=x (Tm.ey l _ aaA);have g2:=y (Tm.ey l _ aaA);have g3:=G (Tm.ey M _ aaA);rw[P0];exact .n2 _ _ _ (.n2 _ _ _ g2 g3) (.n3 _ _ _ g1 g2 g3)
 |Ef i s j u c _ ih=>intro l;rw[L4];exact ih (Tm.ey l _ aaA)|@E0 i s j u b I c T n n' t t' _ _ _ _ x y G S=>
  intro l;have M:=Tm.ey l (Tm.mk 8 j u [n,t]) aaA;have g1:=x (Tm.ey l _ aaA);have g2:=y (Tm.ey l _ aaA);have g3:=G (Tm.ey M _ aaA);have g4:=S (Tm.ey M _ aaA);rw[LN];exact .n2 _ _ _ (.n2 _ _ _ (.n2 _ _ _ g2 g3) g4) (.n3 _ _ _ g1 g2 g4)
 |@fst i s j u b a K _ ih=>intro l;rw[S5];exact ih (Tm.ey (Tm.ey l (Tm.mk 10 j u [a,b]) aaA) _ aaA)|@snd i s j u a b I _ ih=>intro l;rw[SJ];exact ih (Tm.ey (Tm.ey l (Tm.mk 10 j u [a,b]) aaA) _ aaA)
inductive nG:Tm->Tm->Prop
 |refl (t:Tm):nG t t|step {t u v:Tm}:k4 t u->nG u v->nG t v
def nG.ok{t u:Tm}(h:nG t u):t.ok=true->u.ok=true:=by
 induction h with
 |refl=>exact id|step h _ ih=>exactλa=>ih (h.ok a)
def nG.trans{t u v:Tm}(h:nG t u)(a:nG u v):nG t v:=by
 induction h with
 |refl=>exact a|step h _ ih=>exact .step h (ih a)
def nG.strip{t v:Tm}(h:nG t v):∀u,t.ok=true->k4 t u->∃w,nG u w/\k4 v w:=by
 induction h with
 |refl t=>exactλu _ hu=>⟨u,.refl _,hu⟩|@step t a v c _ ih=>
  intro u b hu;obtain⟨w,d,f⟩:=ih t.dev (c.ok b) (c.tri b);exact⟨w,.step (hu.tri b) d,f⟩
def nG.meet{t u:Tm}(h:nG t u):∀v,t.ok=true->nG t v->∃w,nG u w/\nG v w:=by
 induction h with
 |refl t=>exactλv _ b=>⟨v,b,.refl _⟩|@step t a u c _ ih=>
  intro v d b;obtain⟨w,f,i⟩:=b.strip a d c;obtain⟨z,j,z2⟩:=ih w (c.ok d) f;exact⟨z,j,.step i z2⟩
def DY{k i:Int}{s:Ty}{l:List Tm}(h:(Tm.mk k i s l).nf=true):(Tm.mk k i s l).root=false/\∀a∈l,a.nf=true:=by
 rw[Tm.ac4] at h;simpa using h
def k4.nf{t u:Tm}(h:k4 t u):t.nf=true->u=t:=by
 induction h with
 |n0=>intro _;rfl|n1 k i s _ ih=>intro hn;rw[ih ((DY hn).2 _ aaA)]|n2 k i s _ _ a b=>intro hn;rw[a ((DY hn).2 _ aaA),b ((DY hn).2 _ aaA)]|n3 k i s _ _ _ a b c=>intro hn;rw[a ((DY hn).2 _ aaA),b ((DY hn).2 _ aaA),c ((DY hn).2 _ aaA)]|_=>intro hn;have:=(DY hn).1;simp[Tm.root,Tm.kd] at this
def nG.nf{t u:Tm}(h:nG t u):t.nf=true->u=t:=by
 induction h with
 |refl=>intro _;rfl|step h _ ih=>
  intro hn;have:=h.nf hn;subst this;exact ih hn
def nG.unique{t a b:Tm}(c:t.ok=true)(d:nG t a)(f:nG t b)(h:a.nf=true)(i:b.nf=true):a=b:=by
 obtain⟨w,j,k⟩:=d.meet b c f;rw[<-j.nf h,<-k.nf i]
inductive Rt:List Tm->List Tm->Prop
 |nil:Rt [] []|cons {a b:Tm} {l m:List Tm}:k4 a b->Rt l m->Rt (a::l) (b::m)
def k4.list{k i:Int}{s:Ty}:∀{l m:List Tm},Rt l m->l.length<=3->k4 (.mk k i s l) (.mk k i s m)
 |_,_,.nil,_=>.n0 _ _ _|_,_,.cons h .nil,_=>.n1 _ _ _ h|_,_,.cons h (.cons a .nil),_=>.n2 _ _ _ h a|_,_,.cons h (.cons a (.cons b .nil)),_=>.n3 _ _ _ h a b|_,_,.cons h (.cons a (.cons b (.cons d _))),c=>by simp at c
def U4(k:Int):gX k<=3:=by unfold gX;repeat' (first|omega|split)
def Tm.Yk{k i:Int}{s:Ty}{l:List Tm}(h:(Tm.mk k i s l).ok=true):l.length<=3:=by
 have:=Tm.sU h;have:=U4 k;omega
theorem k4.refl(t:Tm):t.ok=true->k4 t t:=by
 induction t using Tm.ind with
 |h k i s l ih=>
  intro b
  have c:∀m:List Tm,(∀t∈m,t∈l)->Rt m m:=by
   intro m
   induction m with
   |nil=>exactλ_=>.nil|cons t m a=>exactλhm=>.cons (ih t (hm t aaA) (Tm.ey b t (hm t aaA))) (a λu hu=>hm u (by simp[hu]))
  exact k4.list (c l λt h=>h) (Tm.Yk b)
def k4.acx:∀(l:List Tm),(∀t∈l,t.ok=true)->Rt l l
 |[],_=>.nil|t::l,h=>.cons (k4.refl t (h t aaA)) (k4.acx l λu hu=>h u (by simp[hu]))
def k4.fD{t:Tm}(c:t.ok=true)(o:t.root=true):k4 t t.fD:=by
 cases Tm.NZ c o with
 |@app i s j u b a=>
  rw[show(Tm.mk 3 i s [.mk 2 j u [b],a]).fD=Tm.gp 0 b a by simp[Tm.fD]];exact .beta _ _ _ _ (k4.refl b (Tm.ey (Tm.ey c (.mk 2 j u [b]) aaA) b aaA)) (k4.refl a (Tm.ey c a aaA))
 |@zero k q i s j u b st f=>
  have l:=k4.refl b (Tm.ey c b aaA);rcases f with⟨rfl,rfl⟩|⟨rfl,rfl⟩
  ·rw[show(Tm.mk 6 i s [b,st,.mk 4 j u []]).fD=b by simp[Tm.fD]];exact .Km _ _ _ _ _ l
  ·rw[show(Tm.mk 9 i s [b,st,.mk 7 j u []]).fD=b by simp[Tm.fD]];exact .Ef _ _ _ _ _ l
 |@succ i s j u b st n=>
  rw[show(Tm.mk 6 i s [b,st,.mk 5 j u [n]]).fD=pn st [n,.mk 6 i s [b,st,n]] by simp[Tm.fD]];exact .IL _ _ _ _ (k4.refl b (Tm.ey c b aaA)) (k4.refl st (Tm.ey c st aaA)) (k4.refl n (Tm.ey (Tm.ey c (.mk 5 j u [n]) aaA) n aaA))
 |@cons i s j u b st h t=>
  have d:=Tm.ey c (.mk 8 j u [h,t]) aaA;rw[show(Tm.mk 9 i s [b,st,.mk 8 j u [h,t]]).fD=pn st [h,t,.mk 9 i s [b,st,t]] by simp[Tm.fD]];exact .E0 _ _ _ _ (k4.refl b (Tm.ey c b aaA)) (k4.refl st (Tm.ey c st aaA)) (k4.refl h (Tm.ey d h aaA)) (k4.refl t (Tm.ey d t aaA))
 |@proj k i s j u a b f=>
  have d:=Tm.ey c (.mk 10 j u [a,b]) aaA;rcases f with rfl|rfl
  ·rw[show(Tm.mk 11 i s [.mk 10 j u [a,b]]).fD=a by simp[Tm.fD]];exact .fst _ _ _ _ _ (k4.refl a (Tm.ey d a aaA))
  ·rw[show(Tm.mk 12 i s [.mk 10 j u [a,b]]).fD=b by simp[Tm.fD]];exact .snd _ _ _ _ _ (k4.refl b (Tm.ey d b aaA))
def k4.KY{r:Int}(t:Tm):∀a,t.ok=true->t.KY r=some (some a)->k4 t a:=by
 induction t using Tm.ind with
 |h k i s l ih=>
  intro a c h;rcases lE h with⟨j,rfl⟩|⟨n,o,rfl⟩
  ·exact k4.fD c j
  ·refine k4.list ?_ (Tm.Yk c)
   have key:∀m:List Tm,(∀t∈m,t∈l)->∀d,Tm.w6 r m=some (some d)->Rt m d:=by
    intro m
    induction m with
    |nil=>intro _ d h;exact(m8 h).elim|cons t m f=>
     intro hm d h;have b:=Tm.ey c t (hm t aaA);rcases kf h with⟨a,e,rfl⟩|⟨q,e,rfl⟩
     ·exact .cons (ih t (hm t aaA) a b e) (k4.acx m λu hu=>Tm.ey c u (hm u (by simp[hu])))
     ·exact .cons (k4.refl t b) (f (λu hu=>hm u (by simp[hu])) q e)
   exact key l (λt h=>h) n o
def L9:∀(k:Nat) (m:Int) (t a:Tm) (n:Int),t.ok=true->t.norm k m=(a,n,0)->nG t a
 |0,m,t,a,n,b,h=>by
  rw[Tm.norm] at h
  split at h
  ·obtain⟨rfl,_⟩:=iU h;exact .refl _
  ·cases h
 |k+1,m,t,a,n,b,h=>by
  rw[Tm.norm] at h
  split at h
  ·cases h
  ·obtain⟨rfl,_⟩:=iU h;exact .refl _
  ·rename_i c hs;have:=k4.KY t c b hs;exact .step this (L9 k (m+1) c a n (this.ok b) h)
def af'(x:Tm):Tm.mk x.alX x.al0 (Ty.mk x.dN.alX x.dN.alY) x.alY=x:=by
 cases x with
 |mk k i s l=>cases s;rfl
def ml{a:Ty}(h:a.alZ<=1000000000):fv FU a a=some true:=by
 obtain⟨r,b,c⟩:=xY FU a a (by rw[fI];exact h) h;rw[b,c.2 rfl]
def ok_eq{t:Ty}(h:t.err=0):uP t=some (t,0):=by
 unfold uP;rw[kI (by have:=(Ty.gU h).2;omega),h];rfl
def fg{t:Ty}(h:t.err=0):t.alZ<=64:=by have:=(Ty.gU h).2;omega
inductive TL (n:Nat) (g:List Ty):List Tm->List Ty->Prop
 |nil:TL n g [] []|cons {a:Tm} {t:Ty} {l:List Tm} {ts:List Ty}:fJ n g a=some (t,0)->TL n g l ts->TL n g (a::l) (t::ts)
def oF{n:Nat}{g:List Ty}:∀{l:List Tm} {ts:List Ty} (i:Nat) (v:List Ty),TL n g l ts->v.length+l.length<=1000->fw (λ(f:Int) (d:Tm)=>(λ(a:List Ty)=>
   dV (fJ n g d) λb c=>
   if(eL c 0) then(
   some (gq.ret ((Ty.mk 0 []),c)))
   else(gG (fN a [b])<|some (.next (fU a [b])))):Int->Tm->((List Ty))->(Option (gq ((List Ty)) (Ty×Int)))) l i v=some (.inl (v++ts))
 |_,_,i,v,.nil,_=>by simp|_,_,i,v,.cons h j,k=>by
  simp only[mN] at k;rw[fY];simp only[h,dQ];rw[dK aar,fm abu];simp only[ed,dI,fk];rw[oF (i+1) _ j (by rw[iv];simp;omega),iv];simp
def Wp{g:List Ty}{x:Tm}{t:Ty}(h:dU g x t):(∀s∈g,s.err=0)->t.err=0/\∀n:Nat,x.alZ<=n->g.length+x.alZ<=1000000->fJ n g x=some (t,0):=by
 induction h with
 |@var g t i y C=>
  intro hg;have A:=hg t (H9 C);refine⟨A,λn hn j=>?_⟩;rw[Tm.dM] at hn;obtain⟨n,rfl⟩:∃m,n=m+1:=⟨n-1,VW⟩;rw[Tm.dM] at j;rw[fJ,dR abD,dK (by simp only[Tm.iI,jW,fQ];omega)];simp only[Tm.iI,fQ];rw[gi (a:=(g.length:Int)) VW VW,gi VW VW]
  have:dX g ((g.length:Int)-1-(i:Int))=some t:=by
   unfold dX;rw[dR VW,<-C]
   congr 1
   omega
  rw[this];simp only[dI];rw[jv (by have:=fg A;omega)];rfl
 |@lam g s b t y _ ih=>
  intro hg;have hs:=(Ty.tU (.inr rfl) y).1;have B:=(Ty.tU (.inr rfl) y).2
  obtain⟨_,ih⟩:=ih (by
   intro u hu;rcases tO.1 hu with h|h
   ·exact hg u h
   ·rw[EY] at h;rw[h];exact hs)
  refine⟨y,λn hn j=>?_⟩;rw[Tm.dM] at hn j;simp only[ee] at hn j;obtain⟨n,rfl⟩:∃m,n=m+1:=⟨n-1,VW⟩;rw[fJ,dK aaA,dR abD];simp only[Tm.fM,Tm.eG,eY,lX,dI,iv];rw[fm abu,ed,ih n VW abu];simp only[dQ];rw[dK aar,iY (by have:=fg hs;omega) (by have:=fg B;omega)];simp only[dI];rw[ok_eq y];rfl
 |@app g f a s t _ _ c d=>
  intro hg;obtain⟨r,c⟩:=c hg;obtain⟨v,d⟩:=d hg;have B:=(Ty.tU (.inr rfl) r).2;refine⟨B,λn hn j=>?_⟩;rw[Tm.dM] at hn j;simp only[ee] at hn j;obtain⟨n,rfl⟩:∃m,n=m+1:=⟨n-1,VW⟩;have o:=oF (n:=n) (g:=g) (l:=[f,a]) 0 [] (.cons (c n VW VW) (.cons (d n VW VW) .nil)) aaA;rw[fJ,dK aaA,dK aaA];simp only[ef,Tm.eG,et (l:=[f,a]) aaA,ed];rw[o];simp only[dI,eC,gC,gQ];rw[dR abD];simp only[oa,eY,iE,lX,rz,dI];rw[dK (by simp[Ty.fn,eL]),show(Ty.fn s t).alY[0]?=some s from rfl];simp only[dI];rw[ml (by have:=fg v;omega)];simp only[dI];rw[dK aar,show(Ty.fn s t).alY[1]?=some t from rfl];rfl
 |zero=>
  intro hg;refine⟨Ty.fW,λn hn j=>?_⟩;rw[Tm.dM] at hn;obtain⟨n,rfl⟩:∃m,n=m+1:=⟨n-1,VW⟩;rfl
 |@succ g a _ ih=>
  intro hg;obtain⟨r,ih⟩:=ih hg;refine⟨Ty.fW,λn hn j=>?_⟩;rw[Tm.dM] at hn j;simp only[ee] at hn j;obtain⟨n,rfl⟩:∃m,n=m+1:=⟨n-1,VW⟩;have o:=oF (n:=n) (g:=g) (l:=[a]) 0 [] (.cons (ih n VW VW) .nil) aaA;rw[fJ,dK aaA,dK aaA];simp only[ef,Tm.eG,et (l:=[a]) aaA,ed];rw[o];simp only[dI,eC,gC,gQ];rw[dK aaA,dK aaA,dR abD];simp only[oa,eY,lX,dI];rw[ml (by rw[Ty.il];omega)];rfl
 |@oN g t b s k w _ _ _ c d q=>
  intro hg;obtain⟨r,c⟩:=c hg;obtain⟨v,d⟩:=d hg;obtain⟨D,q⟩:=q hg;refine⟨w,λn hn j=>?_⟩;rw[Tm.dM] at hn j;simp only[ee] at hn j;obtain⟨n,rfl⟩:∃m,n=m+1:=⟨n-1,VW⟩;have B:=fg w;have o:=oF (n:=n) (g:=g) (l:=[b,s,k]) 0 [] (.cons (c n VW VW) (.cons (d n VW VW) (.cons (q n VW VW) .nil))) aaA;rw[fJ,dK aaA,dK aaA];simp only[ef,Tm.eG,et (l:=[b,s,k]) aaA,ed];rw[o];simp only[dI,eC,gC,gQ];rw[dK aaA,dK aaA,dK aaA,dR abD];simp only[oa,eY,iE,m_,lX,rz,dI,Tm.fM];rw[ml VW];simp only[dI,if_true];rw[iY VW VW];simp only[dI];rw[iY (by rw[Ty.il];omega) (by rw[Ty.iH];omega)];simp only[dI];rw[ml (by have:=fg v;omega)];simp only[dI,if_true];rw[ml (by rw[Ty.il];omega)];simp only[dI];rw[dK aar,jv VW];rfl
 |nil=>
  intro hg;refine⟨Ty.ph,λn hn j=>?_⟩;rw[Tm.dM] at hn;obtain⟨n,rfl⟩:∃m,n=m+1:=⟨n-1,VW⟩;rfl
 |@cons g a b _ _ c d=>
  intro hg;obtain⟨r,c⟩:=c hg;obtain⟨v,d⟩:=d hg;refine⟨Ty.ph,λn hn j=>?_⟩;rw[Tm.dM] at hn j;simp only[ee] at hn j;obtain⟨n,rfl⟩:∃m,n=m+1:=⟨n-1,VW⟩;have o:=oF (n:=n) (g:=g) (l:=[a,b]) 0 [] (.cons (c n VW VW) (.cons (d n VW VW) .nil)) aaA;rw[fJ,dK aaA,dK aaA];simp only[ef,Tm.eG,et (l:=[a,b]) aaA,ed];rw[o];simp only[dI,eC,gC,gQ];rw[dK aaA,dK aaA,dK aaA,dK aaA,dK aaA,dR abD];simp only[oa,eY,iE,lX,rz,dI];rw[ml (by rw[Ty.il];omega)];simp only[dI,if_true];rw[ml (by rw[Ty.oW];omega)];rfl
 |@fold g t b s k w _ _ _ c d q=>
  intro hg;obtain⟨r,c⟩:=c hg;obtain⟨v,d⟩:=d hg;obtain⟨D,q⟩:=q hg;refine⟨w,λn hn j=>?_⟩;rw[Tm.dM] at hn j;simp only[ee] at hn j;obtain⟨n,rfl⟩:∃m,n=m+1:=⟨n-1,VW⟩;have B:=fg w;have o:=oF (n:=n) (g:=g) (l:=[b,s,k]) 0 [] (.cons (c n VW VW) (.cons (d n VW VW) (.cons (q n VW VW) .nil))) aaA;rw[fJ,dK aaA,dK aaA];simp only[ef,Tm.eG,et (l:=[b,s,k]) aaA,ed];rw[o];simp only[dI,eC,gC,gQ];rw[dK aaA,dK aaA,dK aaA,dK aaA,dK aaA,dK aaA,dR abD];simp only[oa,eY,iE,m_,lX,rz,dI,Tm.fM];rw[ml VW];simp only[dI,if_true];rw[iY VW VW];simp only[dI];rw[iY (by rw[Ty.oW];omega) (by rw[Ty.iH];omega)];simp only[dI];rw[iY (by rw[Ty.il];omega) (by rw[Ty.iH,Ty.iH,Ty.oW];omega)];simp only[dI];rw[ml (by have:=fg v;omega)];simp only[dI,if_true];rw[ml (by rw[Ty.oW];omega)];simp only[dI];rw[dK aar,jv VW];rfl
 |@pair g a b s t w _ _ c d=>
  intro hg;obtain⟨r,c⟩:=c hg;obtain⟨v,d⟩:=d hg;refine⟨w,λn hn j=>?_⟩;rw[Tm.dM] at hn j;simp only[ee] at hn j;obtain⟨n,rfl⟩:∃m,n=m+1:=⟨n-1,VW⟩;have o:=oF (n:=n) (g:=g) (l:=[a,b]) 0 [] (.cons (c n VW VW) (.cons (d n VW VW) .nil)) aaA;rw[fJ,dK aaA,dK aaA];simp only[ef,Tm.eG,et (l:=[a,b]) aaA,ed];rw[o];simp only[dI,eC,gC,gQ];rw[dK aaA,dK aaA,dK aaA,dK aaA,dK aaA,dK aaA,dK aaA,dR abD];simp only[oa,eY,iE,lX,rz,dI];rw[y8 (by have:=fg r;omega) (by have:=fg v;omega)];simp only[dI];rw[ok_eq w];rfl
 |@fst g a s t _ ih=>
  intro hg;obtain⟨r,ih⟩:=ih hg;refine⟨(Ty.tU (.inl rfl) r).1,λn hn j=>?_⟩;rw[Tm.dM] at hn j;simp only[ee] at hn j;obtain⟨n,rfl⟩:∃m,n=m+1:=⟨n-1,VW⟩;have o:=oF (n:=n) (g:=g) (l:=[a]) 0 [] (.cons (ih n VW VW) .nil) aaA;rw[fJ,dK aaA,dK aaA];simp only[ef,Tm.eG,et (l:=[a]) aaA,ed];rw[o];simp only[dI,eC,gC,gQ];rw[dK aaA,dK aaA,dK aaA,dK aaA,dK aaA,dK aaA,dK aaA,dK aaA,dR abD];simp only[oa,eY,lX,dI];rw[dK (by simp[Ty.pr,eL]),dR abD,show(Ty.pr s t).alY[0]?=some s from rfl];rfl
 |@snd g a s t _ ih=>
  intro hg;obtain⟨r,ih⟩:=ih hg;refine⟨(Ty.tU (.inl rfl) r).2,λn hn j=>?_⟩;rw[Tm.dM] at hn j;simp only[ee] at hn j;obtain⟨n,rfl⟩:∃m,n=m+1:=⟨n-1,VW⟩;have o:=oF (n:=n) (g:=g) (l:=[a]) 0 [] (.cons (ih n VW VW) .nil) aaA;rw[fJ,dK aaA,dK aaA];simp only[ef,Tm.eG,et (l:=[a]) aaA,ed];rw[o];simp only[dI,eC,gC,gQ];rw[dK aaA,dK aaA,dK aaA,dK aaA,dK aaA,dK aaA,dK aaA,dK aaA,dR abD];simp only[oa,eY,lX,dI];rw[dK (by simp[Ty.pr,eL]),dK aaA,show dX (Ty.pr s t).alY 1=some t from rfl];rfl
 |unit=>
  intro hg;refine⟨Ty.IQ,λn hn j=>?_⟩;rw[Tm.dM] at hn;obtain⟨n,rfl⟩:∃m,n=m+1:=⟨n-1,VW⟩;rfl
def Tm.qP{p:Tm->Prop}(var:∀i:Nat,p (.mk 1 i .z []))(lam:∀s b,s.err=0->b.ok=true->p (.mk 2 0 s [b]))(app:∀a b,a.ok=true->b.ok=true->p (.mk 3 0 .z [a,b]))
  (zero:p (.mk 4 0 .z [])) (succ:∀a,a.ok=true->p (.mk 5 0 .z [a])) (oN:∀s a b c,s.err=0->a.ok=true->b.ok=true->c.ok=true->p (.mk 6 0 s [a,b,c])) (nil:p (.mk 7 0 .z []))
  (cons:∀a b,a.ok=true->b.ok=true->p (.mk 8 0 .z [a,b])) (fold:∀s a b c,s.err=0->a.ok=true->b.ok=true->c.ok=true->p (.mk 9 0 s [a,b,c])) (pair:∀a b,a.ok=true->b.ok=true->p (.mk 10 0 .z [a,b]))
  (fst:∀a,a.ok=true->p (.mk 11 0 .z [a])) (snd:∀a,a.ok=true->p (.mk 12 0 .z [a])) (unit:p (.mk 13 0 .z [])) (t:Tm) (h:t.ok=true):p t:=by
 cases t with
 |mk k i s l=>
  obtain⟨_,hi,d,o,hn⟩:=Tm.tx h
  have hs:if kh k then s.err=0 else s=.z:=by
   rw[Tm.hI] at h;simp only[Tm.node,hE] at h;have:=h.1.2
   split at this
   ·rename_i f;rw[dR f];simpa using this
   ·rename_i f;rw[dK f];exact(Ty.mT s).1 this
  have r:∀{l:List Tm},(l.length:Int)=0->l=[]:=λh=>gv.1 h;unfold gX at hn
  split at hn
  ·rename_i f;obtain rfl:=gv.1 hn;rcases f with rfl|rfl|rfl|rfl
   ·rw[dK aar] at hs;subst hs;obtain⟨j,rfl⟩:∃j:Nat,i=(j:Int):=⟨i.toNat,VW⟩;exact var j
   ·rw[dK aar] at hs;subst hs;obtain rfl:=d aar;exact zero
   ·rw[dK aar] at hs;subst hs;obtain rfl:=d aar;exact nil
   ·rw[dK aar] at hs;subst hs;obtain rfl:=d aar;exact unit
  ·split at hn
   ·rename_i f;obtain⟨a,rfl⟩:=jw hn;have n:=o a aaA;rcases f with rfl|rfl|rfl|rfl
    ·rw[dR aar] at hs;obtain rfl:=d aar;exact lam s a hs n
    ·rw[dK aar] at hs;subst hs;obtain rfl:=d aar;exact succ a n
    ·rw[dK aar] at hs;subst hs;obtain rfl:=d aar;exact fst a n
    ·rw[dK aar] at hs;subst hs;obtain rfl:=d aar;exact snd a n
   ·split at hn
    ·rename_i f;obtain⟨a,b,rfl⟩:=qk hn;have n:=o a aaA;have q:=o b aaA;rcases f with rfl|rfl|rfl
     ·rw[dK aar] at hs;subst hs;obtain rfl:=d aar;exact app a b n q
     ·rw[dK aar] at hs;subst hs;obtain rfl:=d aar;exact cons a b n q
     ·rw[dK aar] at hs;subst hs;obtain rfl:=d aar;exact pair a b n q
    ·split at hn
     ·rename_i f
      obtain⟨a,b,c,rfl⟩:∃a b c,l=[a,b,c]:=by
       match l,hn with
       |[a,b,c],_=>exact⟨a,b,c,rfl⟩|[],h|[_],h|[_,_],h=>simp at h
       |_::_::_::_::_,h=>simp at h;omega
      have n:=o a aaA;have q:=o b aaA;have u:=o c aaA;rcases f with rfl|rfl
      ·rw[dR aar] at hs;obtain rfl:=d aar;exact oN s a b c hs n q u
      ·rw[dR aar] at hs;obtain rfl:=d aar;exact fold s a b c hs n q u
     ·omega
open Classical in
noncomputable def ic (k:Int) (s:Ty) (l:List Ty):Ty×Int:=
 if k=3 then(if(l.getD 0 .z).alX=4/\(l.getD 0 .z).alY.getD 0 .z=l.getD 1 .z then((l.getD 0 .z).alY.getD 1 .z,0)else(.z,7))
 else if k=4 then(.nat,0)
 else if k=5 then(if l.getD 0 .z=.nat then(.nat,0)else(.z,7))
 else if k=6 then(if l.getD 0 .z=s/\l.getD 1 .z=.fn .nat (.fn s s)/\l.getD 2 .z=.nat then(s,0)else(.z,7))
 else if k=7 then(.lD,0)
 else if k=8 then(if l.getD 0 .z=.nat/\l.getD 1 .z=.lD then(.lD,0)else(.z,7))
 else if k=9 then(if l.getD 0 .z=s/\l.getD 1 .z=.fn .nat (.fn .lD (.fn s s))/\l.getD 2 .z=.lD then(s,0)else(.z,7))
 else if k=10 then(if 64<1+(l.getD 0 .z).alZ+(l.getD 1 .z).alZ then(.z,4)else(.pr (l.getD 0 .z) (l.getD 1 .z),0))
 else if k=11 then(if(l.getD 0 .z).alX=3 then((l.getD 0 .z).alY.getD 0 .z,0)else(.z,7))
 else if k=12 then(if(l.getD 0 .z).alX=3 then((l.getD 0 .z).alY.getD 1 .z,0)else(.z,7))
 else(.unit,0)
def P5(s:Ty)(r:Ty×Int):Ty×Int:=if r.2≠0 then(.z,r.2)else if 64<1+s.alZ+r.1.alZ then(.z,4)else(.fn s r.1,0)
def xc(f:List Ty->Ty×Int):List Ty⊕Int->Ty×Int
 |.inl l=>f l|.inr e=>(.z,e)
def QA(r:Ty×Int)(o:List Ty⊕Int):List Ty⊕Int:=if r.2≠0 then .inr r.2 else match o with|.inl l=>.inl (r.1::l)|.inr e=>.inr e
mutual
noncomputable def Tm.ty:Tm->List Ty->Ty×Int
 |.mk k i s l,g=>if k=1 then(if i<(g.length:Int)then(g.getD (g.length-1-i.toNat) .z,0)else(.z,6))else if k=2 then P5 s (Tm.tyH l (g++[s]))else xc (ic k s) (Tm.vX l g)
noncomputable def Tm.tyH:List Tm->List Ty->Ty×Int
 |[],_=>(.z,0)|t::_,g=>t.ty g
noncomputable def Tm.vX:List Tm->List Ty->List Ty⊕Int
 |[],_=>.inl []|t::l,g=>QA (t.ty g) (Tm.vX l g)
end
def Tm.m6(k i:Int)(s:Ty)(l:List Tm)(g:List Ty):(Tm.mk k i s l).ty g=if k=1 then(if i<(g.length:Int)then(g.getD (g.length-1-i.toNat) .z,0)else(.z,6))else if k=2 then P5 s (Tm.tyH l (g++[s]))else xc (ic k s) (Tm.vX l g):=by rw[Tm.ty]
def jc(g:List Ty):Prop:=∀s∈g,s.err=0
def jc.app{g:List Ty}{s:Ty}(h:jc g)(hs:s.err=0):jc (g++[s]):=by
 intro u hu;rcases tO.1 hu with h'|h'
 ·exact h u h'
 ·grind
def M1{t:Ty}(h:t.err=0)(c:t.alX=4):∃a b,t=.fn a b/\a.err=0/\b.err=0:=by
 rcases Ty.pE h with rfl|rfl|rfl|⟨a,b,rfl,_,_⟩|h
 ·cases c
 ·cases c
 ·cases c
 ·cases c
 ·exact h
def BZ{t:Ty}(h:t.err=0)(c:t.alX=3):∃a b,t=.pr a b/\a.err=0/\b.err=0:=by
 rcases Ty.pE h with rfl|rfl|rfl|h|⟨a,b,rfl,_,_⟩
 ·cases c
 ·cases c
 ·cases c
 ·exact h
 ·cases c
def wy{t:Ty}(h:t.err=0):t.alX=1↔t=.nat:=by
 rcases Ty.pE h with rfl|rfl|rfl|⟨a,b,rfl,_,_⟩|⟨a,b,rfl,_,_⟩
 ·exact⟨λ_=>rfl,λ_=>rfl⟩
 all_goals exact⟨λh=>(by cases h),λh=>(by cases h)⟩
def Fw{t:Ty}(h:t.err=0):t.alX=2↔t=.lD:=by
 rcases Ty.pE h with rfl|rfl|rfl|⟨a,b,rfl,_,_⟩|⟨a,b,rfl,_,_⟩
 ·exact⟨λh=>(by cases h),λh=>(by cases h)⟩
 ·exact⟨λ_=>rfl,λ_=>rfl⟩
 all_goals exact⟨λh=>(by cases h),λh=>(by cases h)⟩
theorem qo{r:Ty×Int}{o:List Ty⊕Int}(h:r.2≠0):QA r o=.inr r.2:=dR h
theorem qi{r:Ty×Int}{o:List Ty⊕Int}(h:r.2=0):QA r o=match o with|.inl l=>.inl (r.1::l)|.inr e=>.inr e:=dK VW
theorem tS{f:List Ty->Ty×Int}{e:Int}{r:Ty}(h:xc f (.inr e)=(r,0)):e=0:=(iU h).2
def Am{a:Tm}{g:List Ty}(h:(a.ty g).2=0):a.ty g=((a.ty g).1,0):=Prod.ext rfl h
def RJ{a:Tm}{g:List Ty}{f:List Ty->Ty×Int}{r:Ty}(h:xc f (Tm.vX [a] g)=(r,0)):∃s,a.ty g=(s,0)/\f [s]=(r,0):=by
 rw[Tm.vX] at h
 by_cases b:(a.ty g).2=0
 ·rw[qi b] at h;exact⟨_,Am b,h⟩
 ·grind[qo,tS]
def R8{a b:Tm}{g:List Ty}{f:List Ty->Ty×Int}{r:Ty}(h:xc f (Tm.vX [a,b] g)=(r,0)):∃s t,a.ty g=(s,0)/\b.ty g=(t,0)/\f [s,t]=(r,0):=by
 rw[Tm.vX,Tm.vX,Tm.vX] at h
 by_cases c:(a.ty g).2=0
 ·rw[qi c] at h
  by_cases d:(b.ty g).2=0
  ·rw[qi d] at h;exact⟨_,_,Am c,Am d,h⟩
  ·grind[qo,tS]
 ·grind[qo,tS]
def PJ{a b c:Tm}{g:List Ty}{f:List Ty->Ty×Int}{r:Ty}(h:xc f (Tm.vX [a,b,c] g)=(r,0)):∃s t u,a.ty g=(s,0)/\b.ty g=(t,0)/\c.ty g=(u,0)/\f [s,t,u]=(r,0):=by
 rw[Tm.vX,Tm.vX,Tm.vX,Tm.vX] at h
 by_cases d:(a.ty g).2=0
 ·rw[qi d] at h
  by_cases i:(b.ty g).2=0
  ·rw[qi i] at h
   by_cases j:(c.ty g).2=0
   ·rw[qi j] at h;exact⟨_,_,_,Am d,Am i,Am j,h⟩
   ·grind[qo,tS]
  ·rw[qo i] at h;exact absurd (tS h) i
 ·rw[qo d] at h;exact absurd (tS h) d
def qR:∀(n:Nat) (t:Tm),t.alZ<=n->t.ok=true->∀g,jc g->∀s,t.ty g=(s,0)->dU g t s/\s.err=0:=by
 intro n
 induction n with
 |zero=>intro t h;have:=t.eM;omega
 |succ n ih=>
  intro t hn G;refine Tm.qP (p:=λt=>t.alZ<=n+1->∀g,jc g->∀s,t.ty g=(s,0)->dU g t s/\s.err=0) ?_ ?_ ?_ ?_ ?_ ?_ ?_ ?_ ?_ ?_ ?_ ?_ ?_ t G hn
  ·intro i _ g hg s h;rw[Tm.m6,dR rfl] at h
   split at h
   ·rename_i hi
    have u:g.length-1-(i:Int).toNat<g.length:=VW
    have e:g[g.length-1-i]?=some s:=by
     have f:=(iU h).1;rw[x',Ea] at f;rw[Ea] at u;rw[po u] at f|-;simpa using f
    exact⟨.var i VW e,hg s (H9 e)⟩
   ·have:=(iU h).2;omega
  ·intro s b hs l hn g hg r h;rw[Tm.dM] at hn;simp only[ee] at hn;rw[Tm.m6,dK aar,dR rfl,Tm.tyH] at h;unfold P5 at h
   split at h
   ·rename_i A;exact absurd (iU h).2 A
   ·rename_i A
    split at h
    ·have:=(iU h).2;omega
    ·rename_i f;obtain⟨o,d⟩:=ih b VW l (g++[s]) (hg.app hs) _ (Am (by simpa using A));have he:=Ty.xf hs d VW;obtain rfl:=(iU h).1;exact⟨.lam he o,he⟩
  ·intro a b k l hn g hg r h;rw[Tm.dM] at hn;simp only[ee] at hn;rw[Tm.m6,dK aar,dK aar] at h;obtain⟨s,t,f,o,d⟩:=R8 h;obtain⟨a1,a2⟩:=ih a VW k g hg _ f;obtain⟨q,v⟩:=ih b VW l g hg _ o;simp only[ic,if_true,AH,Rq] at d
   split at d
   ·rename_i j;obtain⟨x,y,rfl,B,w⟩:=M1 a2 j.1;have H:x=t:=j.2;obtain rfl:=(iU d).1;subst H;exact⟨.app a1 q,w⟩
   ·have:=(iU d).2;omega
  ·intro hn g hg r h;rw[Tm.m6,dK aar,dK aar,Tm.vX] at h;simp only[xc,ic,reduceIte,Int.reduceEq] at h;obtain rfl:=(iU h).1;exact⟨.zero,Ty.fW⟩
  ·intro a k hn g hg r h;rw[Tm.dM] at hn;simp only[ee] at hn;rw[Tm.m6,dK aar,dK aar] at h;obtain⟨s,f,d⟩:=RJ h;obtain⟨a1,a2⟩:=ih a VW k g hg _ f;simp only[ic,reduceIte,Int.reduceEq,AH] at d
   split at d
   ·rename_i j;subst j;obtain rfl:=(iU d).1;exact⟨.succ a1,Ty.fW⟩
   ·have:=(iU d).2;omega
  ·intro s a b c hs k l C hn g hg r h;rw[Tm.dM] at hn;simp only[ee] at hn;rw[Tm.m6,dK aar,dK aar] at h;obtain⟨x,y,z,f,o,D,d⟩:=PJ h;obtain⟨a1,a2⟩:=ih a VW k g hg _ f;obtain⟨q,v⟩:=ih b VW l g hg _ o;obtain⟨F,I⟩:=ih c VW C g hg _ D;simp only[ic,reduceIte,Int.reduceEq,AH,Rq] at d
   split at d
   ·rename_i j;have j:x=s/\y=.fn .nat (.fn s s)/\z=.nat:=j;obtain⟨rfl,rfl,rfl⟩:=j;obtain rfl:=(iU d).1;exact⟨.oN hs a1 q F,hs⟩
   ·have:=(iU d).2;omega
  ·intro hn g hg r h;rw[Tm.m6,dK aar,dK aar,Tm.vX] at h;simp only[xc,ic,reduceIte,Int.reduceEq] at h;obtain rfl:=(iU h).1;exact⟨.nil,Ty.ph⟩
  ·intro a b k l hn g hg r h;rw[Tm.dM] at hn;simp only[ee] at hn;rw[Tm.m6,dK aar,dK aar] at h;obtain⟨s,t,f,o,d⟩:=R8 h;obtain⟨a1,a2⟩:=ih a VW k g hg _ f;obtain⟨q,v⟩:=ih b VW l g hg _ o;simp only[ic,reduceIte,Int.reduceEq,AH,Rq] at d
   split at d
   ·rename_i j;obtain⟨rfl,rfl⟩:=j;obtain rfl:=(iU d).1;exact⟨.cons a1 q,Ty.ph⟩
   ·have:=(iU d).2;omega
  ·intro s a b c hs k l C hn g hg r h;rw[Tm.dM] at hn;simp only[ee] at hn;rw[Tm.m6,dK aar,dK aar] at h;obtain⟨x,y,z,f,o,D,d⟩:=PJ h;obtain⟨a1,a2⟩:=ih a VW k g hg _ f;obtain⟨q,v⟩:=ih b VW l g hg _ o;obtain⟨F,I⟩:=ih c VW C g hg _ D;simp only[ic,reduceIte,Int.reduceEq,AH,Rq] at d
   split at d
   ·rename_i j;have j:x=s/\y=.fn .nat (.fn .lD (.fn s s))/\z=.lD:=j;obtain⟨rfl,rfl,rfl⟩:=j;obtain rfl:=(iU d).1;exact⟨.fold hs a1 q F,hs⟩
   ·have:=(iU d).2;omega
  ·intro a b k l hn g hg r h;rw[Tm.dM] at hn;simp only[ee] at hn;rw[Tm.m6,dK aar,dK aar] at h;obtain⟨s,t,f,o,d⟩:=R8 h;obtain⟨a1,a2⟩:=ih a VW k g hg _ f;obtain⟨q,v⟩:=ih b VW l g hg _ o;simp only[ic,reduceIte,Int.reduceEq,AH,Rq] at d
   split at d
   ·have:=(iU d).2;omega
   ·rename_i j;have he:=Ty.JZ a2 v VW;obtain rfl:=(iU d).1;exact⟨.pair he a1 q,he⟩
  ·intro a k hn g hg r h;rw[Tm.dM] at hn;simp only[ee] at hn;rw[Tm.m6,dK aar,dK aar] at h;obtain⟨s,f,d⟩:=RJ h;obtain⟨a1,a2⟩:=ih a VW k g hg _ f;simp only[ic,reduceIte,Int.reduceEq,AH] at d
   split at d
   ·rename_i j;obtain⟨x,y,rfl,B,w⟩:=BZ a2 j;obtain rfl:=(iU d).1;exact⟨.fst a1,B⟩
   ·have:=(iU d).2;omega
  ·intro a k hn g hg r h;rw[Tm.dM] at hn;simp only[ee] at hn;rw[Tm.m6,dK aar,dK aar] at h;obtain⟨s,f,d⟩:=RJ h;obtain⟨a1,a2⟩:=ih a VW k g hg _ f;simp only[ic,reduceIte,Int.reduceEq,AH] at d
   split at d
   ·rename_i j;obtain⟨x,y,rfl,B,w⟩:=BZ a2 j;obtain rfl:=(iU d).1;exact⟨.snd a1,w⟩
   ·have:=(iU d).2;omega
  ·intro hn g hg r h;rw[Tm.m6,dK aar,dK aar,Tm.vX] at h;simp only[xc,ic,reduceIte,Int.reduceEq] at h;obtain rfl:=(iU h).1;exact⟨.unit,Ty.IQ⟩
end Go.fF
namespace Go.fF
open Go
def j1(a:Ty):a.kc a=true:=(Ty.kK a a).2 rfl
def l7{a b:Ty}(h:a≠b):a.kc b=false:=by grind[Ty.kK]
def oy{n:Nat}{g:List Ty}:∀(l:List Tm) (i:Nat) (v:List Ty),(∀a∈l,fJ n g a=some (a.ty g))->v.length+l.length<=1000->fw (λ(o:Int) (j:Tm)=>(λ(c:List Ty)=>
   dV (fJ n g j) λd f=>
   if(eL f 0) then(
   some (gq.ret ((Ty.mk 0 []),f)))
   else(gG (fN c [d])<|some (.next (fU c [d])))):Int->Tm->((List Ty))->(Option (gq ((List Ty)) (Ty×Int)))) l i v=some (match Tm.vX l g with|.inl ts=>.inl (v++ts)|.inr e=>.inr (.z,e))
 |[],i,v,_,_=>by simp[Tm.vX]|a::l,i,v,h,q=>by
  simp only[mN] at q;have s:=h a aaA;rw[fY,Tm.vX];rw[s]
  by_cases k:(a.ty g).2=0
  ·rw[Am k,qi rfl];simp only[dQ];rw[dK aar,fm abu];simp only[ed,dI,fk];rw[oy l (i+1) _ (λb u=>h b (by simp[u])) (by rw[iv];simp;omega),iv];cases Tm.vX l g with
   |inl ts=>simp|inr e=>rfl
  ·rw[qo k];generalize a.ty g=r at k;obtain⟨t,e⟩:=r;simp only[dQ];rw[dR (by simpa[eL] using k)];rfl
def Cm(l:List Tm)(g:List Ty):(∃e,e≠0/\Tm.vX l g=.inr e)\/∃ts,Tm.vX l g=.inl ts/\ts.length=l.length/\∀(i:Nat) (a:Tm),l[i]?=some a->∃s,ts[i]?=some s/\a.ty g=(s,0):=by
 induction l with
 |nil=>exact .inr ⟨[],by rw[Tm.vX],rfl,aaA⟩|cons a l ih=>
  rw[Tm.vX]
  grind[qi,qo]
def Rb{f:List Ty->Ty×Int}{e:Int}:xc f (.inr e)=(.z,e):=rfl
def oK{f:List Ty->Ty×Int}{l:List Ty}:xc f (.inl l)=f l:=rfl
def EH{a:Tm}{g:List Ty}(b:a.ok=true)(hg:jc g):(∃e,e≠0/\Tm.vX [a] g=.inr e)\/∃s,Tm.vX [a] g=.inl [s]/\s.err=0:=by
 rcases Cm [a] g with h|⟨ts,c,d,f⟩
 ·grind
 ·obtain⟨s,j,i⟩:=f 0 a rfl
  match ts,d with
  |[x],_=>
   obtain rfl:x=s:=by grind
   exact .inr ⟨x,c,(qR _ a (g_ _) b g hg _ i).2⟩
def E8{a b:Tm}{g:List Ty}(d:a.ok=true)(f:b.ok=true)(hg:jc g):(∃e,e≠0/\Tm.vX [a,b] g=.inr e)\/∃s t,Tm.vX [a,b] g=.inl [s,t]/\s.err=0/\t.err=0:=by
 rcases Cm [a,b] g with h|⟨ts,i,j,c⟩
 ·exact .inl h
 ·obtain⟨s,n,k⟩:=c 0 a rfl;obtain⟨t,o,l⟩:=c 1 b rfl
  match ts,j with
  |[x,y],_=>
   obtain rfl:x=s:=by grind
   obtain rfl:y=t:=by grind
   exact .inr ⟨x,y,i,(qR _ a (g_ _) d g hg _ k).2,(qR _ b (g_ _) f g hg _ l).2⟩
def Dw{a b c:Tm}{g:List Ty}(f:a.ok=true)(i:b.ok=true)(j:c.ok=true)(hg:jc g):(∃e,e≠0/\Tm.vX [a,b,c] g=.inr e)\/∃s t u,Tm.vX [a,b,c] g=.inl [s,t,u]/\s.err=0/\t.err=0/\u.err=0:=by
 rcases Cm [a,b,c] g with h|⟨ts,k,l,d⟩
 ·exact .inl h
 ·obtain⟨s,v,n⟩:=d 0 a rfl;obtain⟨t,w,o⟩:=d 1 b rfl;obtain⟨u,q,r⟩:=d 2 c rfl
  match ts,l with
  |[x,y,z],_=>
   obtain rfl:x=s:=by grind
   obtain rfl:y=t:=by grind
   obtain rfl:z=u:=by simpa using q
   exact .inr ⟨x,y,z,k,(qR _ a (g_ _) f g hg _ n).2,(qR _ b (g_ _) i g hg _ o).2,(qR _ c (g_ _) j g hg _ r).2⟩
def HF{t:Ty}(h:t.alZ<=1000000000)(a:t.ok=true):uP t=some (if 64<t.alZ then(.z,4)else(t,0)):=by
 unfold uP;rw[kI h];unfold Ty.err;rw[dR a]
 split
 ·rfl
 ·rfl
section
variable{s x y z:Ty}
def B4:((x.alX=4/\x.alY.getD 0 .z=y)->ic 3 s [x,y]=(x.alY.getD 1 .z,0))/\(¬(x.alX=4/\x.alY.getD 0 .z=y)->ic 3 s [x,y]=(.z,7)):=by
 unfold ic
 grind
def Ig:(x=.nat->ic 5 s [x]=(.nat,0))/\(x≠ .nat->ic 5 s [x]=(.z,7)):=by
 unfold ic
 grind
def xp:((x=s/\y=.fn .nat (.fn s s)/\z=.nat)->ic 6 s [x,y,z]=(s,0))/\(¬(x=s/\y=.fn .nat (.fn s s)/\z=.nat)->ic 6 s [x,y,z]=(.z,7)):=by
 unfold ic
 grind
def Cc:((x=.nat/\y=.lD)->ic 8 s [x,y]=(.lD,0))/\(¬(x=.nat/\y=.lD)->ic 8 s [x,y]=(.z,7)):=by
 unfold ic
 grind
def xx:((x=s/\y=.fn .nat (.fn .lD (.fn s s))/\z=.lD)->ic 9 s [x,y,z]=(s,0))/\(¬(x=s/\y=.fn .nat (.fn .lD (.fn s s))/\z=.lD)->ic 9 s [x,y,z]=(.z,7)):=by
 unfold ic
 grind
def Pq:ic 10 s [x,y]=if 64<1+x.alZ+y.alZ then(.z,4)else(.pr x y,0):=by
 rfl
def O1:ic 11 s [x]=if x.alX=3 then(x.alY.getD 0 .z,0)else(.z,7):=by
 rfl
def OP:ic 12 s [x]=if x.alX=3 then(x.alY.getD 1 .z,0)else(.z,7):=by
 rfl
end
def BP:∀(n:Nat) (t:Tm),t.alZ<=n->t.ok=true->∀g,jc g->g.length+t.alZ<=1000000->fJ n g t=some (t.ty g):=by
 intro n
 induction n with
 |zero=>intro t h;have:=t.eM;omega
 |succ n ih=>
  intro t hn N;refine Tm.qP (p:=λt=>t.alZ<=n+1->∀g,jc g->g.length+t.alZ<=1000000->fJ (n+1) g t=some (t.ty g)) ?_ ?_ ?_ ?_ ?_ ?_ ?_ ?_ ?_ ?_ ?_ ?_ ?_ t N hn
  ·intro i _ g hg k;rw[Tm.dM] at k;rw[fJ,dR abD,Tm.m6,dR rfl]
   by_cases hi:(i:Int)<(g.length:Int)
   ·rw[dK (by simp only[Tm.iI,fQ,jW];omega),dR hi];simp only[Tm.iI,fQ];rw[gi (a:=(g.length:Int)) VW VW,gi VW VW]
    have w:g.length-1-i<g.length:=VW
    have:dX g ((g.length:Int)-1-(i:Int))=some g[g.length-1-i]:=by
     unfold dX;rw[dR VW,show((g.length:Int)-1-(i:Int)).toNat=g.length-1-i by omega,po w]
    rw[this];simp only[dI];have H:=hg _ (DL w);rw[jv (by have:=fg H;omega)];simp only[dI,Ea];rw[x',po w];rfl
   ·rw[dR (by simp only[Tm.iI,fQ,jW];omega),dK hi];rfl
  ·intro s b hs k hn g hg d;rw[Tm.dM] at hn d;simp only[ee] at hn d;rw[fJ,dK aaA,dR abD,Tm.m6,dK aar,dR rfl,Tm.tyH];simp only[Tm.fM,Tm.eG,eY,lX,dI,iv];rw[fm abu,ed,ih b VW k (g++[s]) (hg.app hs) abu];have L:=λh=>(qR _ b (g_ _) k (g++[s]) (hg.app hs) (b.ty (g++[s])).1 (Am h)).2;generalize b.ty (g++[s])=q at L;obtain⟨r,e⟩:=q;simp only[dQ,P5]
   by_cases I:e=0
   ·subst I;have M:r.err=0:=L rfl;have J:=fg hs;have O:=fg M;rw[dK aar,dK aaA,iY VW VW];simp only[dI];rw[HF (t:=Ty.fn s r) (by rw[Ty.iH];omega) (Ty.ok_two (.inr rfl) (Ty.gU hs).1 (Ty.gU M).1),Ty.iH]
    split<;>rfl
   ·rw[dR (by simpa[eL] using I),dR I];rfl
  ·intro a b j k hn g hg d;rw[Tm.dM] at hn d;simp only[ee] at hn d;rw[fJ,dK aaA,dK aaA,Tm.m6,dK aar,dK aar];simp only[ef,Tm.eG,et (l:=[a,b]) aaA,ed];rw[oy [a,b] 0 [] (by intro x f;simp at f;rcases f with rfl|rfl<;>first|exact ih _ VW j g hg VW|exact ih _ VW k g hg VW) aaA];rcases E8 j k hg with⟨e,he,h⟩|⟨s,t,h,hs,F⟩
   ·rw[h];rfl
   ·rw[h,oK];simp only[dI,eC,gC,gQ];rw[dR abD];simp only[oa,eY,iE,lX,rz,dI]
    by_cases o:s.alX=4
    ·obtain⟨x,y,rfl,f,D⟩:=M1 hs o;rw[dK (by simp[Ty.fn,eL]),show(Ty.fn x y).alY[0]?=some x from rfl];simp only[dI];rw[iJ (by have:=fg f;omega)];simp only[dI]
     by_cases A:x=t
     ·subst A;rw[j1,dK aar,show(Ty.fn x y).alY[1]?=some y from rfl,(B4 (x:=.fn x y) (y:=x)).1 ⟨rfl,rfl⟩];rfl
     ·rw[l7 A,dR aar,(B4 (x:=.fn x y) (y:=t)).2 (λh=>A h.2)];rfl
    ·rw[dR (by simpa[eL] using o),dR trivial,B4.2 (λh=>o h.1)];rfl
  ·intro hn g hg d;rw[Tm.m6,dK aar,dK aar,Tm.vX];rfl
  ·intro a j hn g hg d;rw[Tm.dM] at hn d;simp only[ee] at hn d;rw[fJ,dK aaA,dK aaA,Tm.m6,dK aar,dK aar];simp only[ef,Tm.eG,et (l:=[a]) aaA,ed];rw[oy [a] 0 [] (by intro x f;simp at f;subst f;exact ih _ VW j g hg VW) aaA];rcases EH j hg with⟨e,he,h⟩|⟨s,h,hs⟩
   ·rw[h];rfl
   ·rw[h,oK];simp only[dI,eC,gC,gQ];rw[dK aaA,dK aaA,dR abD];simp only[oa,eY,lX,dI];rw[iJ (by have:=fg hs;omega)];simp only[dI]
    by_cases B:s=.nat
    ·subst B;rw[j1,dR rfl,Ig.1 rfl]
    ·rw[l7 B,dK aar,Ig.2 B];rfl
  ·intro s a b c hs j k G hn g hg d;rw[Tm.dM] at hn d;simp only[ee] at hn d;rw[fJ,dK aaA,dK aaA,Tm.m6,dK aar,dK aar];simp only[ef,Tm.eG,et (l:=[a,b,c]) aaA,ed];rw[oy [a,b,c] 0 [] (by intro x f;simp at f;rcases f with rfl|rfl|rfl<;>first|exact ih _ VW j g hg VW|exact ih _ VW k g hg VW|exact ih _ VW G g hg VW) aaA];rcases Dw j k G hg with⟨e,he,h⟩|⟨x,y,z,h,f,D,K⟩
   ·rw[h];rfl
   ·have J:=fg hs;rw[h,oK];simp only[dI,eC,gC,gQ];rw[dK aaA,dK aaA,dK aaA,dR abD];simp only[oa,eY,iE,m_,lX,rz,dI,Tm.fM];rw[iJ (by have:=fg f;omega)];simp only[dI]
    by_cases u:x=s
    ·subst u;rw[j1,dR rfl,iY VW VW];simp only[dI];rw[iY (by rw[Ty.il];omega) (by rw[Ty.iH];omega)];simp only[dI];rw[iJ (by have:=fg D;omega)];simp only[dI]
     by_cases v:y=.fn .nat (.fn x x)
     ·subst v;rw[j1,dR rfl,iJ (by have:=fg K;omega)];simp only[dI]
      by_cases C:z=.nat
      ·subst C;rw[j1,dK aar,jv VW,xp.1 ⟨rfl,rfl,rfl⟩];rfl
      ·rw[l7 C,dR aar,xp.2 (λh=>C h.2.2)];rfl
     ·rw[l7 v,dK aar,dR trivial,xp.2 (λh=>v h.2.1)];rfl
    ·rw[l7 u,dK aar,dR trivial,xp.2 (λh=>u h.1)];rfl
  ·intro hn g hg d;rw[Tm.m6,dK aar,dK aar,Tm.vX];rfl
  ·intro a b j k hn g hg d;rw[Tm.dM] at hn d;simp only[ee] at hn d;rw[fJ,dK aaA,dK aaA,Tm.m6,dK aar,dK aar];simp only[ef,Tm.eG,et (l:=[a,b]) aaA,ed];rw[oy [a,b] 0 [] (by intro x f;simp at f;rcases f with rfl|rfl<;>first|exact ih _ VW j g hg VW|exact ih _ VW k g hg VW) aaA];rcases E8 j k hg with⟨e,he,h⟩|⟨s,t,h,hs,F⟩
   ·rw[h];rfl
   ·rw[h,oK];simp only[dI,eC,gC,gQ];rw[dK aaA,dK aaA,dK aaA,dK aaA,dK aaA,dR abD];simp only[oa,eY,iE,lX,rz,dI];rw[iJ (by have:=fg hs;omega)];simp only[dI]
    by_cases u:s=.nat
    ·subst u;rw[j1,dR rfl,iJ (by have:=fg F;omega)];simp only[dI]
     by_cases v:t=.lD
     ·subst v;rw[j1,dK aar,Cc.1 ⟨rfl,rfl⟩]
     ·rw[l7 v,dR aar,Cc.2 (λh=>v h.2)];rfl
    ·rw[l7 u,dK aar,dR trivial,Cc.2 (λh=>u h.1)];rfl
  ·intro s a b c hs j k G hn g hg d;rw[Tm.dM] at hn d;simp only[ee] at hn d;rw[fJ,dK aaA,dK aaA,Tm.m6,dK aar,dK aar];simp only[ef,Tm.eG,et (l:=[a,b,c]) aaA,ed];rw[oy [a,b,c] 0 [] (by intro x f;simp at f;rcases f with rfl|rfl|rfl<;>first|exact ih _ VW j g hg VW|exact ih _ VW k g hg VW|exact ih _ VW G g hg VW) aaA];rcases Dw j k G hg with⟨e,he,h⟩|⟨x,y,z,h,f,D,K⟩
   ·rw[h];rfl
   ·have J:=fg hs;rw[h,oK];simp only[dI,eC,gC,gQ];rw[dK aaA,dK aaA,dK aaA,dK aaA,dK aaA,dK aaA,dR abD];simp only[oa,eY,iE,m_,lX,rz,dI,Tm.fM];rw[iJ (by have:=fg f;omega)];simp only[dI]
    by_cases u:x=s
    ·subst u;rw[j1,dR rfl,iY VW VW];simp only[dI];rw[iY (by rw[Ty.oW];omega) (by rw[Ty.iH];omega)];simp only[dI];rw[iY (by rw[Ty.il];omega) (by rw[Ty.iH,Ty.iH,Ty.oW];omega)];simp only[dI];rw[iJ (by have:=fg D;omega)];simp only[dI]
     by_cases v:y=.fn .nat (.fn .lD (.fn x x))
     ·subst v;rw[j1,dR rfl,iJ (by have:=fg K;omega)];simp only[dI]
      by_cases C:z=.lD
      ·subst C;rw[j1,dK aar,jv VW,xx.1 ⟨rfl,rfl,rfl⟩];rfl
      ·rw[l7 C,dR aar,xx.2 (λh=>C h.2.2)];rfl
     ·rw[l7 v,dK aar,dR trivial,xx.2 (λh=>v h.2.1)];rfl
    ·rw[l7 u,dK aar,dR trivial,xx.2 (λh=>u h.1)];rfl
  ·intro a b j k hn g hg d;rw[Tm.dM] at hn d;simp only[ee] at hn d;rw[fJ,dK aaA,dK aaA,Tm.m6,dK aar,dK aar];simp only[ef,Tm.eG,et (l:=[a,b]) aaA,ed];rw[oy [a,b] 0 [] (by intro x f;simp at f;rcases f with rfl|rfl<;>first|exact ih _ VW j g hg VW|exact ih _ VW k g hg VW) aaA];rcases E8 j k hg with⟨e,he,h⟩|⟨s,t,h,hs,F⟩
   ·rw[h];rfl
   ·have J:=fg hs;have O:=fg F;rw[h,oK];simp only[dI,eC,gC,gQ];rw[dK aaA,dK aaA,dK aaA,dK aaA,dK aaA,dK aaA,dK aaA,dR abD];simp only[oa,eY,iE,lX,rz,dI];rw[y8 VW VW];simp only[dI];rw[HF (t:=Ty.pr s t) (by rw[Ty.oR];omega) (Ty.ok_two (.inl rfl) (Ty.gU hs).1 (Ty.gU F).1),Ty.oR];rw[Pq]
    split<;>rfl
  ·intro a j hn g hg d;rw[Tm.dM] at hn d;simp only[ee] at hn d;rw[fJ,dK aaA,dK aaA,Tm.m6,dK aar,dK aar];simp only[ef,Tm.eG,et (l:=[a]) aaA,ed];rw[oy [a] 0 [] (by intro x f;simp at f;subst f;exact ih _ VW j g hg VW) aaA];rcases EH j hg with⟨e,he,h⟩|⟨s,h,hs⟩
   ·rw[h];rfl
   ·rw[h,oK];simp only[dI,eC,gC,gQ];rw[dK aaA,dK aaA,dK aaA,dK aaA,dK aaA,dK aaA,dK aaA,dK aaA,dR abD];simp only[oa,eY,lX,dI];rw[O1]
    by_cases o:s.alX=3
    ·obtain⟨x,y,rfl,f,D⟩:=BZ hs o;rw[dK (by simp[Ty.pr,eL]),dR abD,dR (show(Ty.pr x y).alX=3 from rfl)];rfl
    ·rw[dR (by simpa[eL] using o),dK o];rfl
  ·intro a j hn g hg d;rw[Tm.dM] at hn d;simp only[ee] at hn d;rw[fJ,dK aaA,dK aaA,Tm.m6,dK aar,dK aar];simp only[ef,Tm.eG,et (l:=[a]) aaA,ed];rw[oy [a] 0 [] (by intro x f;simp at f;subst f;exact ih _ VW j g hg VW) aaA];rcases EH j hg with⟨e,he,h⟩|⟨s,h,hs⟩
   ·rw[h];rfl
   ·rw[h,oK];simp only[dI,eC,gC,gQ];rw[dK aaA,dK aaA,dK aaA,dK aaA,dK aaA,dK aaA,dK aaA,dK aaA,dR abD];simp only[oa,eY,lX,dI];rw[OP]
    by_cases o:s.alX=3
    ·obtain⟨x,y,rfl,f,D⟩:=BZ hs o;rw[dK (by simp[Ty.pr,eL]),dK aaA,dR (show(Ty.pr x y).alX=3 from rfl)];rfl
    ·rw[dR (by simpa[eL] using o),dK o];rfl
  ·intro hn g hg d;rw[Tm.m6,dK aar,dK aar,Tm.vX];rfl
end Go.fF
namespace Go.fF
open Go
def Ld:gP=fv:=by
 funext n
 induction n with
 |zero=>rfl|succ n ih=>
  funext a b
  rw[gP,fv,ih]
def sj{a b:Ty}(h:a.alZ<=1000000000):gP FU a b=some (a.kc b):=by rw[Ld];exact iJ h
def AB(t:Ty):dO:=⟨t,(t.alZ:Int)⟩
def VP:dO:=⟨.mk 0 [],0⟩
def LY(r:Ty×Int):dO×Int:=if r.2=0 then(AB r.1,0)else(VP,r.2)
@[simp] theorem tq(t:Ty):LY (t,0)=(AB t,0):=dR rfl
def nR{t:Ty}{e:Int}(h:e≠0):LY (t,e)=(VP,e):=dK h
@[simp] theorem vY(t:Ty):(AB t).dN=t:=by rfl
@[simp] theorem L3(t:Ty):(AB t).alZ=(t.alZ:Int):=by rfl
def na{t:Ty}(h:t.err=0):mP t=some (AB t):=by
 unfold mP;rw[lI (by have:=fg h;omega),dR h];rfl
def BV(k:Int){a b:Ty}(c:a.alZ<=1000000)(d:b.alZ<=1000000):rS k (AB a) (AB b)=some (if 64<1+a.alZ+b.alZ then(VP,4)else(AB (.mk k [a,b]),0)):=by
 unfold rS;simp only[L3,vY];rw[gd (a:=1) VW VW,gd VW VW]
 by_cases h:64<1+a.alZ+b.alZ
 ·rw[dR (by simp only[iM];omega),dR h];rfl
 ·rw[dK (by simp only[iM];omega),dK h];unfold AB;rw[Ty.rW]
  congr 3
def wF{a b:Ty}(c:a.alZ<=1000000):kD (AB a) (AB b)=some (a.kc b):=by
 unfold kD;simp only[ef,L3,vY]
 by_cases h:(a.alZ:Int)=(b.alZ:Int)
 ·rw[dR (by simpa[eo] using h),sj VW];rfl
 ·rw[dK (by simpa[eo] using h),l7 (by rintro rfl;exact h rfl)]
def sS{t x:Ty}{i:Int}(h:dX t.alY i=some x)(a:x.err=0):jx (AB t) i=some (AB x):=by
 unfold jx;simp only[vY,h,dI,na a]
def G6:p5=some .nat:=rfl
def NF:Ct=some .lD:=rfl
def XQ{l:List Ty}(d:l.length<=1000):∀(i m:Nat) (k:Int) (as:List Ty),i<=l.length->i<m->j0 ((Vr λ(a:Int) (v49:Int) (b:List Ty)=>
   if(qa a 0) then(
   dH (dX l a) λc=>
   some (.next ((fL .i64 a 1),4,[c,(Ty.mk v49 b)])))
   else(some (.y7 (a,v49,b)))):(Int×Int×(List Ty))->(Option (gq (Int×Int×(List Ty)) (Ty)))) m ((i:Int)-1,k,as)=some (.inl (-1,((l.take i).foldr Ty.fn (.mk k as)).alX,((l.take i).foldr Ty.fn (.mk k as)).alY))
 |0,m+1,k,as,_,_=>by
  rw[hS];simp only[Vr];rw[dK (by rw[jW];omega)];rfl
 |i+1,m+1,k,as,hi,hm=>by
  rw[hS];simp only[Vr];rw[dR (by rw[jW];omega),show((i+1:Nat):Int)-1=(i:Int) by omega,hJ,po VW];simp only[dI,fk];rw[gi VW VW];have h:=XQ d i m 4 [l[i],.mk k as] VW VW;rw[h,ai5,po VW];simp only[Option.toList_some,List.foldr_append,List.foldr_cons,List.foldr_nil];rfl
def GY(t:Ty)(l:List Ty)(a:l.length<=1000):uK t l=some (l.foldr Ty.fn t):=by
 unfold uK;simp only[ef];rw[fQ,gi VW VW];have h:=XQ a l.length FU t.alX t.alY (g_ _) (aiT VW);rw[h,dI];rw[List.take_length]
 have e:Ty.mk t.alX t.alY=t:=by cases t;rfl
 rw[e];generalize List.foldr Ty.fn t l=r;cases r;rfl
def Vh(a b t:Ty):uK t [a,b]=some (.fn a (.fn b t)):=GY t [a,b] aaA
def UF(a b c t:Ty):uK t [a,b,c]=some (.fn a (.fn b (.fn c t))):=GY t [a,b,c] aaA
def ua:List Ty->dO×dO×dO
 |[]=>(VP,VP,VP)|[a]=>(AB a,VP,VP)|[a,b]=>(AB a,AB b,VP)|a::b::c::_=>(AB a,AB b,AB c)
def Kr(x:dO)(k:Int):jk x k=some (eo x.dN.alX k):=rfl
def I5(t:Ty)(k:Int):eo (AB t).dN.alX k=decide (t.alX=k):=by
 rw[vY];exact FG _ _
def H0(s:Ty)(l:List Tm)(i:Int):p3 (.mk 6 i s l)=some (.fn .nat (.fn s s)):=by
 unfold p3;rw[dK aaA];simp only[G6,dI];rw[Vh];rfl
def Gc(s:Ty)(l:List Tm)(i:Int):p3 (.mk 9 i s l)=some (.fn .nat (.fn .lD (.fn s s))):=by
 unfold p3;rw[dR aaA];simp only[G6,NF,dI];rw[UF];rfl
section
variable{s x y z:Ty} {i:Int} {l:List Tm}
def YH(j:x.err=0)(n:y.err=0):gr (.mk 3 i s l) (ua [x,y])=some (LY (ic 3 s [x,y])):=by
 unfold gr;rw[show jY (Tm.mk 3 i s l).alX=some [] from rfl];simp only[dI];rw[dK aaA,dR abD];simp only[ef,ua,Kr,dI,I5]
 by_cases d:x.alX=4
 ·obtain⟨a,b,rfl,f,k⟩:=M1 j d;rw[dR abD,sS (t:=.fn a b) (x:=a) rfl f];simp only[dI];rw[wF (by have:=fg f;omega)];simp only[dI]
  by_cases c:a=y
  ·subst c;rw[j1,dK aaA,sS (t:=.fn a b) (x:=b) rfl k,(B4 (x:=.fn a b) (y:=a)).1 ⟨rfl,rfl⟩];simp only[dI];rw[show(Ty.fn a b).alY.getD 1 .z=b from rfl,tq]
  ·rw[l7 c,dR aaA,(B4 (x:=.fn a b) (y:=y)).2 (λh=>c h.2),nR aar];rfl
 ·rw[dK (by simpa using d),dR trivial,B4.2 (λh=>d h.1),nR aar];rfl
def UJ(a:x.err=0)(b:y.err=0):gr (.mk 10 i s l) (ua [x,y])=some (LY (ic 10 s [x,y])):=by
 unfold gr;rw[show jY (Tm.mk 10 i s l).alX=some [] from rfl];simp only[dI];rw[dK aaA,dK aaA,dK aaA,dR abD];simp only[ua];rw[BV 3 (by have:=fg a;omega) (by have:=fg b;omega),Pq]
 split
 ·simp only[dQ];rw[nR aar]
 ·simp only[dQ];rw[tq];rfl
def Xg(d:x.err=0):gr (.mk 11 i s l) (ua [x])=some (LY (ic 11 s [x])):=by
 unfold gr;rw[show jY (Tm.mk 11 i s l).alX=some [] from rfl];simp only[dI];rw[dK aaA,dK aaA,dK aaA,dK aaA];simp only[ua,Kr,dI,I5];rw[O1]
 by_cases c:x.alX=3
 ·obtain⟨a,b,rfl,f,h⟩:=BZ d c;rw[dR abD,dR abD,sS (t:=.pr a b) (x:=a) rfl f,dR (show(Ty.pr a b).alX=3 from rfl)];simp only[dI];rw[show(Ty.pr a b).alY.getD 0 .z=a from rfl,tq]
 ·rw[dK (by simpa using c),dK c,nR aar];rfl
def Xt(d:x.err=0):gr (.mk 12 i s l) (ua [x])=some (LY (ic 12 s [x])):=by
 unfold gr;rw[show jY (Tm.mk 12 i s l).alX=some [] from rfl];simp only[dI];rw[dK aaA,dK aaA,dK aaA,dK aaA];simp only[ua,Kr,dI,I5];rw[OP]
 by_cases c:x.alX=3
 ·obtain⟨a,b,rfl,h,f⟩:=BZ d c;rw[dR abD,dK aaA,sS (t:=.pr a b) (x:=b) rfl f,dR (show(Ty.pr a b).alX=3 from rfl)];simp only[dI];rw[show(Ty.pr a b).alY.getD 1 .z=b from rfl,tq]
 ·rw[dK (by simpa using c),dK c,nR aar];rfl
end
end Go.fF
namespace Go.fF
open Go
section
variable{s x y z:Ty} {i:Int} {l:List Tm}
def BT{k t:Int}(a:jY k=some [t])(b:Ty.err (.mk t [])=0):gr (.mk k i s l) (ua [])=some (AB (.mk t []),0):=by
 unfold gr;rw[show(Tm.mk k i s l).alX=k from rfl,a,dI,dR (show pj (eA [t]) 0=true by rfl),show tv [t] 1 (eA [t])=some ([]:List Int)from rfl];simp only[dI,et (l:=([]:List Int)) aaA,ed,ef,pq,eC,eY,lX];rw[na b];rfl
def Vj:gr (.mk 4 i s l) (ua [])=some (LY (ic 4 s [])):=BT rfl Ty.fW
def X2:gr (.mk 7 i s l) (ua [])=some (LY (ic 7 s [])):=BT rfl Ty.ph
def Vo:gr (.mk 13 i s l) (ua [])=some (LY (ic 13 s [])):=BT rfl Ty.IQ
def T_(b:x.err=0):gr (.mk 5 i s l) (ua [x])=some (LY (ic 5 s [x])):=by
 unfold gr;rw[show jY (Tm.mk 5 i s l).alX=some [1,1] from rfl,dI,dR (show pj (eA ([1,1]:List Int)) 0=true by rfl),show tv ([1,1]:List Int) 1 (eA ([1,1]:List Int))=some [1] from rfl];simp only[dI,et (l:=([1]:List Int)) aaA,ed,ef,ua];rw[fY,dR abD];simp only[Kr,dI,I5]
 by_cases a:x.alX=1
 ·have hn:=(wy b).1 a;subst hn;rw[AD abD,dK aar];simp only[dI,fk,pq,eC,eY,lX];rw[show mP (Ty.mk 1 [])=some (AB .nat)from na Ty.fW,Ig.1 rfl,tq];rfl
 ·rw[Ox a,dR aar,Ig.2 (λh=>a ((wy b).2 h)),nR aar];rfl
def US(c:x.err=0)(d:y.err=0):gr (.mk 8 i s l) (ua [x,y])=some (LY (ic 8 s [x,y])):=by
 unfold gr;rw[show jY (Tm.mk 8 i s l).alX=some [2,1,2] from rfl,dI,dR (show pj (eA ([2,1,2]:List Int)) 0=true by rfl),show tv ([2,1,2]:List Int) 1 (eA ([2,1,2]:List Int))=some [1,2] from rfl];simp only[dI,et (l:=([1,2]:List Int)) aaA,ed,ef,ua];rw[fY,dR abD];simp only[Kr,dI,I5]
 by_cases b:x.alX=1
 ·have hn:=(wy c).1 b;subst hn;rw[AD abD,dK aar];simp only[dI,fk];rw[fY,dK aar,dR abD]
  by_cases a:y.alX=2
  ·have hn:=(Fw d).1 a;subst hn;rw[AD abD,dK aar];simp only[dI,fk,pq,eC,eY,lX];rw[show mP (Ty.mk 2 [])=some (AB .lD)from na Ty.ph,Cc.1 ⟨rfl,rfl⟩,tq];rfl
  ·rw[Ox a,dR aar,Cc.2 (λh=>a ((Fw d).2 h.2)),nR aar];rfl
 ·rw[Ox b,dR aar,Cc.2 (λh=>b ((wy c).2 h.1)),nR aar];rfl
def XP(hs:s.err=0)(d:x.err=0)(f:y.err=0)(j:z.err=0):gr (.mk 6 i s l) (ua [x,y,z])=some (LY (ic 6 s [x,y,z])):=by
 unfold gr;rw[show jY (Tm.mk 6 i s l).alX=some [] from rfl];simp only[dI];rw[dK aar,dK aaA,dR abD];simp only[ef,ua,Tm.fM,na hs,dI];rw[wF (by have:=fg d;omega)];simp only[dI]
 by_cases a:x=s
 ·subst a;rw[j1,dR rfl,H0];simp only[dI,vY];rw[sj (by have:=fg f;omega)];simp only[dI]
  by_cases b:y=.fn .nat (.fn x x)
  ·subst b;rw[j1,dR rfl];simp only[Kr,dI];rw[show fp (eo (Tm.mk 6 i x l).alX 9) (2:Int) 1=1 from rfl];simp only[I5]
   by_cases c:z=.nat
   ·subst c;rw[AD abD,dK aar,xp.1 ⟨rfl,rfl,rfl⟩,tq]
   ·rw[Ox (λh=>c ((wy j).1 h)),dR aar,xp.2 (λh=>c h.2.2),nR aar];rfl
  ·rw[l7 b,dK aar,dR trivial,xp.2 (λh=>b h.2.1),nR aar];rfl
 ·rw[l7 a,dK aar,dR trivial,xp.2 (λh=>a h.1),nR aar];rfl
def Vu(hs:s.err=0)(d:x.err=0)(f:y.err=0)(j:z.err=0):gr (.mk 9 i s l) (ua [x,y,z])=some (LY (ic 9 s [x,y,z])):=by
 unfold gr;rw[show jY (Tm.mk 9 i s l).alX=some [] from rfl];simp only[dI];rw[dK aar,dK aaA,dR abD];simp only[ef,ua,Tm.fM,na hs,dI];rw[wF (by have:=fg d;omega)];simp only[dI]
 by_cases a:x=s
 ·subst a;rw[j1,dR rfl,Gc];simp only[dI,vY];rw[sj (by have:=fg f;omega)];simp only[dI]
  by_cases b:y=.fn .nat (.fn .lD (.fn x x))
  ·subst b;rw[j1,dR rfl];simp only[Kr,dI];rw[show fp (eo (Tm.mk 9 i x l).alX 9) (2:Int) 1=2 from rfl];simp only[I5]
   by_cases c:z=.lD
   ·subst c;rw[AD abD,dK aar,xx.1 ⟨rfl,rfl,rfl⟩,tq]
   ·rw[Ox (λh=>c ((Fw j).1 h)),dR aar,xx.2 (λh=>c h.2.2),nR aar];rfl
  ·rw[l7 b,dK aar,dR trivial,xx.2 (λh=>b h.2.1),nR aar];rfl
 ·rw[l7 a,dK aar,dR trivial,xx.2 (λh=>a h.1),nR aar];rfl
end
def st9(p:dO×dO×dO):Int×(List Ty)×Int×Int×(List Ty)×Int×Int×(List Ty)×Int:=
 (p.1.dN.alX,p.1.dN.alY,p.1.alZ,p.2.1.dN.alX,p.2.1.dN.alY,p.2.1.alZ,p.2.2.dN.alX,p.2.2.dN.alY,p.2.2.alZ)
def Ho{n:Nat}{g:List Ty}:∀(l:List Tm) (d:List Ty),d.length+l.length<=3->(∀a∈l,eZ n (g.map AB) a=some (LY (a.ty g)))->fw (λ(f:Int) (A:Tm)=>(un9 λ(i:Int) (j:List Ty) (v218:Int) (k:Int) (o:List Ty) (q:Int) (v222:Int) (s:List Ty) (w:Int)=>
   dV (eZ n (g.map AB) A) λc x=>
   if(eL x 0) then(
   some (.ret ((dO.mk (Ty.mk 0 []) 0),x)))
   else(if(eo f 0) then(
   some (.next (c.dN.alX,c.dN.alY,c.alZ,k,o,q,v222,s,w)))
   else(if(eo f 1) then(
   some (.next (i,j,v218,c.dN.alX,c.dN.alY,c.alZ,v222,s,w)))
   else(gG (eo f 2)<|some (.next (i,j,v218,k,o,q,c.dN.alX,c.dN.alY,c.alZ)))))):Int->Tm->(Int×(List Ty)×Int×Int×(List Ty)×Int×Int×(List Ty)×Int)->(Option (gq (Int×(List Ty)×Int×Int×(List Ty)×Int×Int×(List Ty)×Int) (dO×Int)))) l d.length (st9 (ua d))=some (match Tm.vX l g with|.inl ts=>.inl (st9 (ua (d++ts)))|.inr e=>.inr (VP,e))
 |[],d,_,_=>by simp[Tm.vX]|a::l,d,B,h=>by
  simp only[mN] at B;rw[fY,Tm.vX];have D:=h a aaA;simp only[st9,un9];rw[D]
  by_cases y:(a.ty g).2=0
  ·rw[Am y,qi rfl,tq,dQ,dK aar];generalize (a.ty g).1=t
   have go:∀C:List Ty,C=d++[t]->(some (gq.next (st9 (ua C))):Option (gq (Int×(List Ty)×Int×Int×(List Ty)×Int×Int×(List Ty)×Int) (dO×Int)))=some (gq.next (st9 (ua (d++[t])))):=λC e=>by rw[e]
   have ih:=Ho l (d++[t]) abu (λb F=>h b (by simp[F]));rw[nB,mN,CD] at ih
   have fin:(some (match Tm.vX l g with|.inl ts=>.inl (st9 (ua (d++[t]++ts)))|.inr e=>.inr (VP,e)):Option ((Int×(List Ty)×Int×Int×(List Ty)×Int×Int×(List Ty)×Int)⊕(dO×Int)))=some (match(match Tm.vX l g with|.inl ts=>Sum.inl (t::ts)|.inr e=>Sum.inr e:List Ty⊕Int)with|.inl ts=>.inl (st9 (ua (d++ts)))|.inr e=>.inr (VP,e)):=by
    cases Tm.vX l g with
    |inl ts=>simp|inr e=>rfl
   match d,B with
   |[],_=>
    rw[dR abD];exact ih.trans fin
   |[u],_=>
    rw[dK aaA,dR abD];exact ih.trans fin
   |[u,v],_=>
    rw[dK aaA,dK aaA,show eo (([u,v].length:Nat):Int) 2=true from rfl,ed];exact ih.trans fin
   |_::_::_::_,B=>simp at B;omega
  ·rw[qo y];generalize a.ty g=r at y;obtain⟨t,e⟩:=r;simp only at y;rw[nR y,dQ,dR (by simpa[eL] using y)];rfl
def aaj(p:dO×dO×dO):((dO.mk (Ty.mk p.1.dN.alX p.1.dN.alY) p.1.alZ),(dO.mk (Ty.mk p.2.1.dN.alX p.2.1.dN.alY) p.2.1.alZ),(dO.mk (Ty.mk p.2.2.dN.alX p.2.2.dN.alY) p.2.2.alZ))=p:=by
 have e:∀t:Ty,Ty.mk t.alX t.alY=t:=λt=>by cases t;rfl
 obtain⟨⟨a,b⟩,⟨c,d⟩,⟨h,f⟩⟩:=p;simp only[e]
def lx{n:Nat}{g:List Ty}{k i:Int}{s:Ty}{l:List Tm}(q:k≠1)(r:k≠2)(t:l.length<=3)(h:∀a∈l,eZ n (g.map AB) a=some (LY (a.ty g)))
  (hn:∀ts,Tm.vX l g=.inl ts->gr (.mk k i s l) (ua ts)=some (LY (ic k s ts))):eZ (n+1) (g.map AB) (.mk k i s l)=some (LY ((Tm.mk k i s l).ty g)):=by
 rw[eZ,dK (by simpa[eo] using q),dK (by simpa[eo] using r),Tm.m6,dK q,dK r];simp only[ef,Tm.eG];rw[et VW,ed];have f:=Ho l [] (by simpa using t) h;refine(congrArg (λo=>dH o _) f).trans ?_;simp only[dI];cases j:Tm.vX l g with
 |inr e=>
  rw[Rb]
  have he:e≠0:=by
   rcases Cm l g with⟨u,d,c⟩|⟨ts,d,_⟩
   ·rw[j] at c;cases c;exact d
   ·rw[j] at d;cases d
  rw[nR he];rfl
 |inl ts=>
  simp only[oa,eC,oK,st9,un9];rw[aaj,hn ts j,show∀p:dO×Int,(dV (some p) λa b=>some (a,b))=some p fromλ_=>rfl]
end Go.fF
namespace Go.fF
open Go
def I9(g:List Ty)(s:Ty):g.map AB++[AB s]=(g++[s]).map AB:=aaA
def F2:∀(n:Nat) (t:Tm),t.alZ<=n->t.ok=true->∀g,jc g->g.length+t.alZ<=1000000->eZ n (g.map AB) t=some (LY (t.ty g)):=by
 intro n
 induction n with
 |zero=>intro t h;have:=t.eM;omega
 |succ n ih=>
  intro t hn C
  have one:∀{a:Tm} {g:List Ty} {ts:List Ty},a.ok=true->jc g->Tm.vX [a] g=.inl ts->∃x,ts=[x]/\x.err=0:=by
   intro a g ts j hg h;rcases EH j hg with⟨e,_,u⟩|⟨x,u,f⟩<;>rw[h] at u<;>cases u;exact⟨x,rfl,f⟩
  have two:∀{a b:Tm} {g:List Ty} {ts:List Ty},a.ok=true->b.ok=true->jc g->Tm.vX [a,b] g=.inl ts->∃x y,ts=[x,y]/\x.err=0/\y.err=0:=by
   intro a b g ts j k hg h;rcases E8 j k hg with⟨e,_,u⟩|⟨x,y,u,f,l⟩<;>rw[h] at u<;>cases u;exact⟨x,y,rfl,f,l⟩
  have three:∀{a b c:Tm} {g:List Ty} {ts:List Ty},a.ok=true->b.ok=true->c.ok=true->jc g->Tm.vX [a,b,c] g=.inl ts->∃x y z,ts=[x,y,z]/\x.err=0/\y.err=0/\z.err=0:=by
   intro a b c g ts j k o hg h;rcases Dw j k o hg with⟨e,_,u⟩|⟨x,y,z,u,f,l,v⟩<;>rw[h] at u<;>cases u;exact⟨x,y,z,rfl,f,l,v⟩
  refine Tm.qP (p:=λt=>t.alZ<=n+1->∀g,jc g->g.length+t.alZ<=1000000->eZ (n+1) (g.map AB) t=some (LY (t.ty g))) ?_ ?_ ?_ ?_ ?_ ?_ ?_ ?_ ?_ ?_ ?_ ?_ ?_ t C hn
  ·intro i _ g hg k;rw[Tm.dM] at k;rw[eZ,dR abD,Tm.m6,dR rfl];simp only[Tm.iI,fQ,Gk]
   by_cases hi:(i:Int)<(g.length:Int)
   ·rw[dK (by simp only[jW];omega),dR hi];rw[gi (a:=(g.length:Int)) VW VW,gi VW VW]
    have w:g.length-1-i<g.length:=VW
    have:dX (g.map AB) ((g.length:Int)-1-(i:Int))=some (AB g[g.length-1-i]):=by
     unfold dX;rw[dR VW,show((g.length:Int)-1-(i:Int)).toNat=g.length-1-i by omega,zl,po w];rfl
    rw[this];simp only[dI,Ea];rw[x',po w];exact congrArg some (tq _).symm
   ·rw[dR (by simp only[jW];omega),dK hi,nR aar];rfl
  ·intro s b hs k hn g hg d;rw[Tm.dM] at hn d;simp only[ee] at hn d;rw[eZ,dK aaA,dR abD,Tm.m6,dK aar,dR rfl,Tm.tyH];simp only[Tm.fM,Tm.eG,na hs,eY,lX,dI,iv];rw[fm abu,ed,I9,ih b VW k (g++[s]) (hg.app hs) abu];have B:=λh=>(qR _ b (g_ _) k (g++[s]) (hg.app hs) (b.ty (g++[s])).1 (Am h)).2;generalize b.ty (g++[s])=q at B;obtain⟨r,e⟩:=q;simp only[P5]
   by_cases A:e=0
   ·subst A;have D:r.err=0:=B rfl;have F:=fg hs;have G:=fg D;rw[tq,dQ,dK aar,dK aaA,BV 4 VW VW]
    by_cases o:64<1+s.alZ+r.alZ
    ·rw[dR o,dR o,nR aar];rfl
    ·rw[dK o,dK o,tq];rfl
   ·rw[nR A,dQ,dR (by simpa[eL] using A),dR A,nR A];rfl
  ·intro a b j k hn g hg d;rw[Tm.dM] at hn d;simp only[ee] at hn d;refine lx aar aar aaA (by intro x f;simp at f;rcases f with rfl|rfl<;>first|exact ih _ VW j g hg VW|exact ih _ VW k g hg VW) (λts h=>?_);obtain⟨x,y,rfl,f,l⟩:=two j k hg h;exact YH f l
  ·intro hn g hg d;exact lx aar aar aaA aaA (λts h=>by rw[Tm.vX] at h;cases h;exact Vj)
  ·intro a j hn g hg d;rw[Tm.dM] at hn d;simp only[ee] at hn d;refine lx aar aar aaA (by intro x f;simp at f;subst f;exact ih _ VW j g hg VW) (λts h=>?_);obtain⟨x,rfl,f⟩:=one j hg h;exact T_ f
  ·intro s a b c hs j k o hn g hg d;rw[Tm.dM] at hn d;simp only[ee] at hn d;refine lx aar aar aaA (by intro x f;simp at f;rcases f with rfl|rfl|rfl<;>first|exact ih _ VW j g hg VW|exact ih _ VW k g hg VW|exact ih _ VW o g hg VW) (λts h=>?_);obtain⟨x,y,z,rfl,f,l,v⟩:=three j k o hg h;exact XP hs f l v
  ·intro hn g hg d;exact lx aar aar aaA aaA (λts h=>by rw[Tm.vX] at h;cases h;exact X2)
  ·intro a b j k hn g hg d;rw[Tm.dM] at hn d;simp only[ee] at hn d;refine lx aar aar aaA (by intro x f;simp at f;rcases f with rfl|rfl<;>first|exact ih _ VW j g hg VW|exact ih _ VW k g hg VW) (λts h=>?_);obtain⟨x,y,rfl,f,l⟩:=two j k hg h;exact US f l
  ·intro s a b c hs j k o hn g hg d;rw[Tm.dM] at hn d;simp only[ee] at hn d;refine lx aar aar aaA (by intro x f;simp at f;rcases f with rfl|rfl|rfl<;>first|exact ih _ VW j g hg VW|exact ih _ VW k g hg VW|exact ih _ VW o g hg VW) (λts h=>?_);obtain⟨x,y,z,rfl,f,l,v⟩:=three j k o hg h;exact Vu hs f l v
  ·intro a b j k hn g hg d;rw[Tm.dM] at hn d;simp only[ee] at hn d;refine lx aar aar aaA (by intro x f;simp at f;rcases f with rfl|rfl<;>first|exact ih _ VW j g hg VW|exact ih _ VW k g hg VW) (λts h=>?_);obtain⟨x,y,rfl,f,l⟩:=two j k hg h;exact UJ f l
  ·intro a j hn g hg d;rw[Tm.dM] at hn d;simp only[ee] at hn d;refine lx aar aar aaA (by intro x f;simp at f;subst f;exact ih _ VW j g hg VW) (λts h=>?_);obtain⟨x,rfl,f⟩:=one j hg h;exact Xg f
  ·intro a j hn g hg d;rw[Tm.dM] at hn d;simp only[ee] at hn d;refine lx aar aar aaA (by intro x f;simp at f;subst f;exact ih _ VW j g hg VW) (λts h=>?_);obtain⟨x,rfl,f⟩:=one j hg h;exact Xt f
  ·intro hn g hg d;exact lx aar aar aaA aaA (λts h=>by rw[Tm.vX] at h;cases h;exact Vo)
def FM{t:Tm}{g:List Ty}(a:t.ok=true)(hg:jc g)(b:g.length+t.alZ<=1000000):eZ FU (g.map AB) t=some (LY (t.ty g)):=
 F2 FU t (by have:=fI;omega) a g hg b
noncomputable def qQ (t:Tm) (g:List Ty) (k:Int):Int:=if(t.ty g).2=0/\(t.ty g).1.alX≠k then 7 else(t.ty g).2
mutual
noncomputable def Fm.yG:Fm->List Ty->Int
 |.mk k s ts l,g=>if fE (ts.map λt=>qQ t g 1)=0 then Fm.Wi l (if ki k then g++[s] else g)else fE (ts.map λt=>qQ t g 1)
noncomputable def Fm.Wi:List Fm->List Ty->Int
 |[],_=>0|f::l,g=>if f.yG g=0 then Fm.Wi l g else f.yG g
end
def Fm.TJ(g:List Ty):∀l:List Fm,Fm.Wi l g=fE (l.map λf=>f.yG g)
 |[]=>by rw[Fm.Wi];rfl|f::l=>by rw[Fm.Wi,Fm.TJ g l];rfl
def Fm.zo(k:Int)(s:Ty)(ts:List Tm)(l:List Fm)(g:List Ty):(Fm.mk k s ts l).yG g=if fE (ts.map λt=>qQ t g 1)=0 then fE (l.map λf=>f.yG (if ki k then g++[s] else g))else fE (ts.map λt=>qQ t g 1):=by
 rw[Fm.yG,Fm.TJ]
def Be{t:Tm}{g:List Ty}(a:t.ok=true)(hn:t.alZ<=4096)(hg:jc g)(b:g.length<=900000):pY g t=some (t.ty g):=by
 unfold pY;have hw:=t.js a;rw[lA VW]
 have he:t.err=0:=by unfold Tm.err;rw[dR a,dK VW]
 rw[he];simp only[dI];rw[dK aar,BP FU t (by have:=fI;omega) a g hg VW];rfl
def L8{t:Tm}{g:List Ty}(f:t.ok=true)(hn:t.alZ<=4096)(hg:jc g)(i:g.length<=900000):(dV (pY g t) λd a=>if(eL a 0) then(some (.ret a))else(if(eL d.alX 1) then(some (.ret 7))else(some (.next ()))):Option (gq Unit Int))=
   if qQ t g 1≠0 then some (.ret (qQ t g 1))else some (.next ()):=by
 rw[Be f hn hg i];unfold qQ;generalize t.ty g=q;obtain⟨r,e⟩:=q;simp only[dQ,ez]
 by_cases b:e=0
 ·subst b
  by_cases c:r.alX=1
  ·rw[dK aaA,dK (by simp[c]),dK (show¬((0:Int)=0/\r.alX≠1)fromλh=>h.2 c),dK aaA]
  ·rw[dK aaA,dR c,dR (show(0:Int)=0/\r.alX≠1 from⟨rfl,c⟩),dR aar]
 ·rw[dR b,dK (show¬(e=0/\r.alX≠1)fromλh=>b h.1),dR b]
def F6{e:Int}:(dH (some e) λa=>if(eL a 0) then(some (.ret a))else(some (.next ())):Option (gq Unit Int))=if e≠0 then some (.ret e)else some (.next ()):=by
 rw[dI]
 by_cases h:e=0
 ·subst h;rfl
 ·rw[dR (by simpa[eL] using h),dR h]
def Jh{l:List Int}{k:Unit⊕Int->Option Int}(h:k=fO (λ_=>some 0) (λr=>some r)):dH (if fE l=0 then some (.inl ())else some (.inr (fE l))) k=some (fE l):=by
 subst h
 by_cases h:fE l=0
 ·rw[dR h,h];rfl
 ·rw[dK h];rfl
def Bi(f:Fm)(w:f.ok=true):∀n,f.alZ<=n->∀g,jc g->g.length+f.alZ<=900000->f.alZ<=4096->nb n g f=some (f.yG g):=by
 refine Fm.qP (p:=λf=>∀n,f.alZ<=n->∀g,jc g->g.length+f.alZ<=900000->f.alZ<=4096->nb n g f=some (f.yG g)) ?_ ?_ ?_ f w
 ·intro a b o v n hn g hg c d;rw[Fm.dM] at hn c d;simp only[ee] at hn c d;obtain⟨n,rfl⟩:∃m,n=m+1:=⟨n-1,VW⟩;rw[nb,Fm.zo];simp only[ef,Fm.jN,Fm.eG,Fm.eK,l0,dI]
  rw[et aaA,ed,pR (λt=>qQ t g 1) [a,b] 0 (λj x i=>by
   simp only[mb,ae7,tG] at i;rcases i with rfl|rfl
   ·exact L8 o VW hg VW
   ·exact L8 v VW hg VW)]
  rw[show ki 1=false from rfl]
  by_cases h:fE ([a,b].map λt=>qQ t g 1)=0
  ·rw[dR h,dR h];rfl
  ·rw[dK h,dK h];rfl
 ·intro k a b q o v l r n hn g hg c d;rw[Fm.dM] at hn c d;simp only[ee] at hn c d;obtain⟨n,rfl⟩:∃m,n=m+1:=⟨n-1,VW⟩
  have u:ki k=false:=by rcases q with rfl|rfl<;>rfl
  rw[nb,Fm.zo];simp only[ef,Fm.jN,Fm.eG,Fm.eK,l0,dI,u,mr,fE]
  rw[et aaA,ed,pq,dI,eC,dK aar,dR trivial,et aaA,ed,pR (λf=>f.yG g) [a,b] 0 (λj x i=>by
   simp only[mb,ae7,tG] at i;rcases i with rfl|rfl
   ·rw[l n VW g hg VW VW];exact F6
   ·rw[r n VW g hg VW VW];exact F6)]
  exact Jh rfl
 ·intro k s a q hs o l n hn g hg c d;rw[Fm.dM] at hn c d;simp only[ee] at hn c d;obtain⟨n,rfl⟩:∃m,n=m+1:=⟨n-1,VW⟩
  have u:ki k=true:=by rcases q with rfl|rfl|rfl|rfl<;>rfl
  rw[nb,Fm.zo];simp only[ef,Fm.jN,Fm.eG,Fm.eK,Fm.fM,l0,dI,u,mr,fE];rw[et aaA,ed,pq,dI,eC];simp only[if_true]
  rw[fm abu,ed,iv,et aaA,ed,pR (λf=>f.yG (g++[s])) [a] 0 (λj x i=>by
   simp only[mb,ae7,tG] at i;subst i
   rw[l n VW (g++[s]) (hg.app hs) abu VW];exact F6)]
  exact Jh rfl
mutual
def Fm.up(f b:Int):Fm->Fm
 |.mk k s ts l=>.mk k s (ts.map (Tm.up f b)) (Fm.upL (f+qB k) b l)
def Fm.upL(f b:Int):List Fm->List Fm
 |[]=>[]|t::l=>t.up f b::Fm.upL f b l
end
def Fm.Qw(f b:Int)(l:List Fm):Fm.upL f b l=l.map (Fm.up f b):=by
 induction l with
 |nil=>rfl|cons t l ih=>simp[Fm.upL,ih]
theorem Fm.fu(f b k:Int)(s:Ty)(ts:List Tm)(l:List Fm):(Fm.mk k s ts l).up f b=.mk k s (ts.map (Tm.up f b)) (l.map (Fm.up (f+qB k) b)):=by rw[Fm.up,Fm.Qw]
mutual
def Fm.al3(m:Int):Fm->Bool
 |.mk _ _ ts l=>ts.all (Tm.al3 m)&&Fm.vi m l
def Fm.vi(m:Int):List Fm->Bool
 |[]=>true|t::l=>t.al3 m&&Fm.vi m l
end
def Fm.F4(m:Int)(l:List Fm):Fm.vi m l=l.all (Fm.al3 m):=by
 induction l with
 |nil=>rfl|cons t l ih=>simp[Fm.vi,ih]
theorem Fm.fK(m k:Int)(s:Ty)(ts:List Tm)(l:List Fm):(Fm.mk k s ts l).al3 m=(ts.all (Tm.al3 m)&&l.all (Fm.al3 m)):=by rw[Fm.al3,Fm.F4]
mutual
def Fm.al5(a:Int):Fm->Nat
 |.mk k _ ts l=>ee (Tm.al5 a) ts+Fm.zJ (a+qB k) l
def Fm.zJ(a:Int):List Fm->Nat
 |[]=>0|t::l=>t.al5 a+Fm.zJ a l
end
def Fm.Gy(a:Int)(l:List Fm):Fm.zJ a l=ee (Fm.al5 a) l:=by
 induction l with
 |nil=>rfl|cons t l ih=>simp[Fm.zJ,ee,ih]
def Fm.fG(a k:Int)(s:Ty)(ts:List Tm)(l:List Fm):(Fm.mk k s ts l).al5 a=ee (Tm.al5 a) ts+ee (Fm.al5 (a+qB k)) l:=by rw[Fm.al5,Fm.Gy]
mutual
def Fm.gp:Int->Fm->Tm->Fm
 |n,.mk k ty ts l,s=>.mk k ty (ts.map λx=>Tm.gp n x s) (Fm.Ic (n+qB k) l s)
def Fm.Ic:Int->List Fm->Tm->List Fm
 |_,[],_=>[]|n,t::l,s=>Fm.gp n t s::Fm.Ic n l s
end
def Fm.MO(n:Int)(s:Tm)(l:List Fm):Fm.Ic n l s=l.map (λx=>Fm.gp n x s):=by
 induction l with
 |nil=>rfl|cons t l ih=>simp[Fm.Ic,ih]
theorem Fm.eS(n:Int)(s:Tm)(k:Int)(ty:Ty)(ts:List Tm)(l:List Fm):Fm.gp n (Fm.mk k ty ts l) s=.mk k ty (ts.map λx=>Tm.gp n x s) (l.map λx=>Fm.gp (n+qB k) x s):=by rw[Fm.gp,Fm.MO]
def Fm.pO(t:Fm):∀a,t.al5 a<=t.alZ:=by
 induction t using Fm.ind with
 |h k s ts l ih=>
  intro a;rw[Fm.fG,Fm.dM];have:=k_ (f:=Fm.al5 (a+qB k)) (g:=Fm.alZ) (l:=l) λx b=>ih x b _;have:=k_ (f:=Tm.al5 a) (g:=Tm.alZ) (l:=ts) λx _=>x.pO _;omega
theorem Fm.nd(t:Fm):∀f b,(t.up f b).alZ=t.alZ:=by
 induction t using Fm.ind with
 |h k s ts l ih=>
  intro f b;rw[Fm.fu,Fm.dM,Fm.dM,mv,mv,pS λx a=>ih x a _ _,pS λx _=>Tm.nd x f b]
def Fm.WU(t:Fm):∀f b,(t.up f b).wt=t.wt:=by
 induction t using Fm.ind with
 |h k s ts l ih=>
  intro f b;rw[Fm.fu,Fm.iG,Fm.iG,mv,mv,pS λx a=>ih x a _ _,pS λx _=>Tm.WU x f b]
theorem Fm.Pd(t:Fm):∀f b,0<=f->0<=b->(t.up f b).ok=t.ok:=by
 induction t using Fm.ind with
 |h k s ts l ih=>
  intro f b c a;have:=yQ k;rw[Fm.fu,Fm.hI,Fm.hI,Gk,Gk,yd λx d=>ih x d (f+qB k) b VW a,yd λx _=>Tm.Pd x f b c a]
def Oo{α:Type}{a b c:α->Nat}{m:Nat}{l:List α}(h:∀x∈l,a x+b x=c x+b x*m):ee a l+ee b l=ee c l+ee b l*m:=by
 induction l with
 |nil=>simp[ee]|cons y l ih=>
  have f:=h y aaA;have i:=ih λx d=>h x (by simp[d]);simp only[ee,DS];omega
def Fm.B2(s:Tm)(t:Fm):∀n,t.ok=true->(Fm.gp n t s).alZ+t.al5 n=t.alZ+t.al5 n*s.alZ:=by
 induction t using Fm.ind with
 |h k ty ts l ih=>
  intro n d;rw[Fm.hI] at d;simp only[hE,ll] at d;rw[Fm.eS,Fm.fG,Fm.dM,Fm.dM,mv,mv,DS];have i:=Oo (l:=ts) (a:=λx=>(Tm.gp n x s).alZ) (b:=Tm.al5 n) (c:=Tm.alZ) (m:=s.alZ) λx f=>Tm.B2 s x n (d.1.2 x f);have j:=Oo (l:=l) (a:=λx=>(Fm.gp (n+qB k) x s).alZ) (b:=Fm.al5 (n+qB k)) (c:=Fm.alZ) (m:=s.alZ) λx f=>ih x f _ (d.2 x f);omega
def Fm.N0{g:Fm->Fm}{k:Int}{s:Ty}{ts us:List Tm}{l:List Fm}(h:∀x∈l,(g x).has=x.has):(Fm.mk k s us (l.map g)).has=(Fm.mk k s ts l).has:=by
 rw[Fm.has,Fm.has]
 have a:Fm.Dh (l.map g)=Fm.Dh l:=by
  induction l with
  |nil=>rfl|cons x l ih=>simp only[kZ,Fm.Dh,h x aaA,ih λy b=>h y (by simp[b])]
 have c:Fm.l9 (l.map g)=Fm.l9 l:=by
  clear a
  induction l with
  |nil=>rfl|cons x l ih=>
   cases l with
   |nil=>simp[Fm.l9,h x aaA]|cons y l=>simpa[Fm.l9] using ih λz d=>h z (by simp[d])
 rw[a,c]
def Fm.Sv{g:Fm->Fm}{k:Int}{s:Ty}{ts us:List Tm}{l:List Fm}(h:∀x∈l,(g x).ct=x.ct):(Fm.mk k s us (l.map g)).ct=(Fm.mk k s ts l).ct:=by
 rw[Fm.ct,Fm.ct]
 have a:Fm.LJ (l.map g)=Fm.LJ l:=by cases l with|nil=>rfl|cons x l=>simp[Fm.LJ,h x aaA]
 have b:Fm.Hh (l.map g)=Fm.Hh l:=by
  clear a
  induction l with
  |nil=>rfl|cons x l ih=>
   cases l with
   |nil=>simp[Fm.Hh,h x aaA]|cons y l=>simpa[Fm.Hh] using ih λz c=>h z (by simp[c])
 rw[a,b]
def Fm.SD(t:Fm):∀f b,(t.up f b).ct=t.ct/\(t.up f b).has=t.has:=by
 induction t using Fm.ind with
 |h k s ts l ih=>intro f b;rw[Fm.fu];exact⟨Fm.Sv λx a=>(ih x a _ _).1,Fm.N0 λx a=>(ih x a _ _).2⟩
def Fm.x_(s:Tm)(t:Fm):∀n,(Fm.gp n t s).ct=t.ct/\(Fm.gp n t s).has=t.has:=by
 induction t using Fm.ind with
 |h k ty ts l ih=>
  intro n;rw[Fm.eS];exact⟨Fm.Sv (g:=λx=>Fm.gp (n+qB k) x s) λx a=>(ih x a _).1,Fm.N0 (g:=λx=>Fm.gp (n+qB k) x s) λx a=>(ih x a _).2⟩
def Fy{t:Tm}(m:Int)(h:t.alZ<=1000000000):lz FU t m=some (t.al3 m):=BD FU t m (by rw[fI];exact h) h
def Bf:∀(n:Nat) (t:Fm) (m:Int),t.alZ<=n->t.alZ<=1000000000->ot n t m=some (t.al3 m):=by
 intro n
 induction n with
 |zero=>intro t m h;have:=t.eM;omega
 |succ n ih=>
  intro t m h c;cases t with
  |mk k s ts l=>
   rw[Fm.dM] at h c;have i:=Fm.fX l;have d:=Tm.fX ts
   have f:fw (ρ:=Bool) (λ(_:Int) (x:Tm) (_:Unit)=>dH (lz FU x m) λa=>if a then some (gq.next ())else some (gq.ret false)) ts 0 ()=if ts.all (Tm.al3 m) then some (.inl ())else some (.inr false):=by
    refine rh (Tm.al3 m) _ ts 0 ?_;intro j x b;have:=eF Tm.alZ b;rw[Fy m VW];rfl
   have k2:fw (ρ:=Bool) (λ(_:Int) (x:Fm) (_:Unit)=>dH (ot n x m) λa=>if a then some (gq.next ())else some (gq.ret false)) l 0 ()=if l.all (Fm.al3 m) then some (.inl ())else some (.inr false):=by
    refine rh (Fm.al3 m) _ l 0 ?_;intro j x b;have:=eF Fm.alZ b;rw[ih x m VW VW];rfl
   rw[ot];simp only[Fm.eG,Fm.jN,ef,et (l:=l) VW,et (l:=ts) VW,ed,f,k2,Fm.fK];cases o:ts.all (Tm.al3 m)<;>cases q:l.all (Fm.al3 m)<;>simp
def Bz:∀(n:Nat) (t:Fm) (f b:Int),t.alZ<=n->t.alZ<=1000000000->0<=f->f+t.alZ<=10000000000->0<=b->b<=10000000000->t.al3 1000000000000=true->iD n t f b=some (t.up f b):=by
 intro n
 induction n with
 |zero=>intro t f b h;have:=t.eM;omega
 |succ n ih=>
  intro t f b h d r i q a hi;cases t with
  |mk k s ts l=>
   rw[Fm.dM] at h d i;rw[Fm.fK] at hi;simp only[hE,ll] at hi;have w:=Fm.fX l;have u:=Tm.fX ts;have y:=yQ k;rw[iD];simp only[Fm.eG,Fm.jN,Fm.eK,Fm.fM,ef,et (l:=l) VW,et (l:=ts) VW,ed];rw[kr (Tm.up f b) ts 0 [] abu]
   ·simp only[dI,eC];rw[kr (Fm.up (f+qB k) b) l 0 [] abu]
    ·simp[Fm.fu]
    ·intro j x v c o;have:=eF Fm.alZ c;rw[pL];simp only[dI,Fm.eK];rw[gd VW VW,ih x (f+qB k) b VW VW VW VW q a (hi.2 x c)];simp[fm (l:=v) (m:=[x.up (f+qB k) b]) (by simpa using o)]
   ·intro j x v c o;have:=eF Tm.alZ c;rw[HA FU x f b (by rw[fI];omega) VW r VW q a (hi.1 x c)];simp[fm (l:=v) (m:=[x.up f b]) (by simpa using o)]
def JB:∀(n:Nat) (t:Fm) (a:Int),t.alZ<=n->t.alZ<=1000000000->0<=a->a+t.alZ<=10000000000->p6 n t a=some (t.al5 a:Int):=by
 intro n
 induction n with
 |zero=>intro t a h;have:=t.eM;omega
 |succ n ih=>
  intro t a h c o d;cases t with
  |mk k s ts l=>
   rw[Fm.dM] at h c d;have w:=Fm.fX l;have q:=Tm.fX ts;have A:=yQ k;have r:ee (Fm.al5 (a+qB k)) l<=ee Fm.alZ l:=k_ λx _=>x.pO _;have i:ee (Tm.al5 a) ts<=ee Tm.alZ ts:=k_ λx _=>x.pO _;rw[p6];simp only[Fm.eG,Fm.jN,Fm.eK,ef,et (l:=l) VW,et (l:=ts) VW,ed]
   have u:=pt (ρ:=Int) (F:=λ(_:Int) (x:Tm) (v:Int)=>dH (ng FU x a) λy=>some (gq.next (eW .i64 v y))) (Tm.al5 a) ts 0 0 VW (by
    intro j x v f;have:=eF Tm.alZ f;rw[AW FU x a (by rw[fI];omega) VW o VW]
    rfl)
   have k2:=pt (ρ:=Int) (F:=λ(_:Int) (x:Fm) (v:Int)=>dH (mW (Fm.mk k s ts l)) λb=>dH (p6 n x (eW .i64 a b)) λy=>some (gq.next (eW .i64 v y))) (Fm.al5 (a+qB k)) l 0 (0+ee (Tm.al5 a) ts) VW (by
    intro j x v f;have:=eF Fm.alZ f;rw[pL];simp only[dI,Fm.eK];rw[gd VW VW,ih x _ VW VW VW VW]
    rfl)
   rw[show(0:Int)=((0:Nat):Int)from rfl,u];simp only[dI,eC];rw[k2];simp[Fm.fG]
def P_:∀(n:Nat) (t:Fm) (a b:Int) (s:Tm),t.alZ<=n->t.alZ<=1000000000->0<=a->0<=b->a+b+t.alZ<=5000000000->t.al3 1000000000000=true->t.ok=true->s.alZ<=1000000000->s.al3 1000000000000=true->yL n t a b s=some (Fm.gp (a+b) t s):=by
 intro n
 induction n with
 |zero=>intro t a b s h;have:=t.eM;omega
 |succ n ih=>
  intro t a b s h i r u o hi c hs f;cases t with
  |mk k ty ts l=>
   rw[Fm.dM] at h i o;rw[Fm.fK] at hi;rw[Fm.hI] at c;simp only[hE,ll] at hi c;have y:=Fm.fX l;have w:=Tm.fX ts;have A:=yQ k;rw[yL];simp only[Fm.eG,Fm.jN,Fm.eK,Fm.fM,ef,et (l:=l) VW,et (l:=ts) VW,ed];rw[kr (λx=>Tm.gp (a+b) x s) ts 0 [] abu]
   ·simp only[dI,eC];rw[kr (λx=>Fm.gp (a+b+qB k) x s) l 0 [] abu]
    ·simp[Fm.eS]
    ·intro j x v d q;have:=eF Fm.alZ d;rw[pL];simp only[dI,Fm.eK];rw[gd VW VW,ih x a (b+qB k) s VW VW r VW VW (hi.2 x d) (c.2 x d) hs f];rw[show a+(b+qB k)=a+b+qB k by omega];simp[fm (l:=v) (m:=[Fm.gp (a+b+qB k) x s]) (by simpa using q)]
   ·intro j x v d q;have:=eF Tm.alZ d;rw[GV FU x a b s (by rw[fI];omega) VW r u VW (hi.1 x d) (c.1.2 x d) hs f];simp[fm (l:=v) (m:=[Tm.gp (a+b) x s]) (by simpa using q)]
def Fm.mu(t:Fm):∀{m n:Int},m<=n->t.al3 m=true->t.al3 n=true:=by
 induction t using Fm.ind with
 |h k s ts l ih=>
  intro m n a h;rw[Fm.fK] at*;simp only[hE,ll] at*;exact⟨λx b=>Tm.mu x a (h.1 x b),λx b=>ih x b a (h.2 x b)⟩
def Db{f:Fm}{a b:Int}(hw:f.wt<=1000000000)(he:f.err=0)(d:0<=a)(h:a<=4096)(i:0<=b)(j:b<=4096)(c:f.al3 536870912=true):oL f a b=some (f.up a b,0):=by
 have hn:=f.im;unfold oL;rw[jg hw,he];simp only[dI,ez,ne_eq,O5,jb,ef,jR,iM];rw[dK VW,dK VW,dK VW,dK VW,Bf FU f _ (by rw[fI];omega) VW,c];simp only[dI,L',ox,jb];rw[Bz FU f a b (by rw[fI];omega) VW d VW i VW (Fm.mu f VW c)];simp only[dI];rw[r7 (by rw[Fm.WU];exact hw)];rfl
def iW.al3{g:List Ty}{f:Fm}(h:iW g f):∀m:Int,((g.length+f.alZ:Nat):Int)<=m->f.al3 m=true:=by
 induction h with
 |eq c d=>
  intro m hm;simp only[Fm.dM,ee] at hm;simp only[Fm.fK,Oh,afh,aaJ,hE];exact⟨c.al3 m VW,d.al3 m VW⟩
 |two _ _ _ a b=>
  intro m hm;simp only[Fm.dM,ee] at hm;simp only[Fm.fK,Oh,afh,aaJ,hE,HN];exact⟨a m VW,b m VW⟩
 |q _ _ _ ih=>
  intro m hm;simp only[Fm.dM,ee] at hm;simp only[Fm.fK,Oh,afh,aaJ,HN];exact ih m abu
def Tm.La(φ:Int->Int->Tm)(b:Int):Tm->Tm
 |.mk k i s l=>if k=1 then φ i b else .mk k i s (l.attach.map λx=>Tm.La φ (b+fq k) x.1)
decreasing_by
 have:=afP x.2;simp only[Tm.mk.sizeOf_spec];omega
def Tm.IP(φ:Int->Int->Tm)(b k i:Int)(s:Ty)(l:List Tm):(Tm.mk k i s l).La φ b=if k=1 then φ i b else .mk k i s (l.map (Tm.La φ (b+fq k))):=by
 rw[Tm.La]
 congr 2
 exact ahA
def Y2(k b:Int)(a:-1000000000000<=b)(c:b<=1000000000000):fp (eo k 2) (eW .i64 b 1) b=b+fq k:=by
 unfold fq
 by_cases h:k=2
 ·subst h;rw[show eo 2 2=true from rfl,dR rfl];exact gd VW VW
 ·rw[show eo k 2=false by simpa[eo] using h,dK h];show b=b+0;omega
def Ed{h:Int->Int->Option Tm}{φ:Int->Int->Tm}{M:Int}(D:∀i b,0<=i->i<=M->0<=b->b<=10000000000->h i b=some (φ i b)):∀(n:Nat) (t:Tm) (b:Int),t.alZ<=n->t.alZ<=50000000->t.ok=true->t.al3 M=true->0<=b->b+t.alZ<=10000000000->lr n t b (λ(s:Unit) (q:Int) (r:Int)=>yN (h q r) s) ()=some (t.La φ b,()):=by
 intro n
 induction n with
 |zero=>intro t b h;have:=t.eM;omega
 |succ n ih=>
  intro t b hn F w x G y;cases t with
  |mk k i s l=>
   rw[Tm.dM] at hn F y;have hlen:=Tm.fX l;have f:=w;rw[Tm.hI,hE] at w;have H:=Ty.KU w.1;rw[Tm.fK,hE,aei,ll] at x;rw[lr,Tm.IP]
   by_cases A:k=1
   ·subst A;have hi:=(Tm.tx f).2.1;rw[dR abD,dR rfl];simp only[Tm.iI];rw[D i b hi x.1 G VW,HD,dQ]
   ·rw[dK (by simpa[eo] using A),dK A];simp only[Tm.fM,Tm.eG,Tm.eK,Tm.iI,ef];rw[xP VW,dI,et VW,ed,Y2 k b VW VW];have I:=ju k
    have loop:∀(ts:List Tm) (j:Nat) (v:List Tm),(∀t∈ts,t∈l)->v.length+ts.length<=50000000->fw (λ(J:Int) (B:Tm)=>(yn λ(a:List Tm) (v107:Unit)=>
       dV (lr n B (b+fq k) (λ(s:Unit) (q:Int) (r:Int)=>yN (h q r) s) v107) λc o=>
       gG (fN a [c])<|some ((.next ((fU a [c]),o)):gq ((List Tm)×Unit) (Tm×Unit)))) ts j (v,())=some (.inl (v++ts.map (Tm.La φ (b+fq k)),())):=by
     intro ts
     induction ts with
     |nil=>intro j v _ _;simp|cons t ts C=>
      intro j v hm K;simp only[mN] at K;have d:=hm t aaA;have L:=eF Tm.alZ d;rw[fY];simp only[yn];rw[ih t (b+fq k) VW VW ((Tm.tx f).2.2.2.1 t d) (x.2 t d) VW VW,dQ,fm abu,ed];simp only[dI,fk];rw[iv];have:=C (j+1) (v++[t.La φ (b+fq k)]) (λu hu=>hm u (by simp[hu])) abu;rw[this];simp
    rw[loop l 0 [] (λt h=>h) abu,dI];simp
structure Bd (t:Tm):Prop where
 ok:t.ok=true
 al3:t.al3 1000000000000=true
 alZ:t.alZ<=50000000
def Tm.Q6(f c:Int)(q:0<=f):∀(t:Tm) (b:Int),0<=b->t.ok=true->t.La (λi b=>.mk 1 (if f<=i-b then i+c else i) (.mk 0 []) []) b=t.up (f+b) c:=by
 intro t
 induction t using Tm.ind with
 |h k i s l ih=>
  intro b r a;have hi:=Tm.tx a;rw[Tm.IP,Tm.fu]
  by_cases d:k=1
  ·subst d;rw[dR rfl]
   have n:l=[]:=by
    have:=hi.2.2.2.2;unfold gX at this;rw[dR (.inl rfl)] at this;exact Cw VW
   have hs:s=.mk 0 []:=by
    rw[Tm.hI] at a;simp only[Tm.node,hE] at a;have:=a.1.2;rw[dK aar] at this;exact(Ty.mT s).1 this
   subst n;subst hs;simp only[mr,AZ]
   congr 1
   by_cases h:f+b<=i
   ·rw[dR h,dR VW]
   ·rw[dK h,dK VW]
  ·rw[dK d,dK (λh=>d h.1)];have o:=ju k
   congr 1
   exact tN λx j=>by rw[ih x j (b+fq k) VW (hi.2.2.2.1 x j),show f+(b+fq k)=f+b+fq k by omega]
def MC{t:Tm}{f c:Int}(h:Bd t)(d:0<=f)(j:f<=10000000000)(q:0<=c)(k:c<=10000000000):v_ t f c=some (t.up f c):=by
 unfold v_ sJ;rw[Ed (h:=λl n=>u6 l n f c) (φ:=λi b=>.mk 1 (if f<=i-b then i+c else i) (.mk 0 []) []) (M:=1000000000000) (λi b r s u v=>?_) FU t 0 (by have:=fI;have:=h.alZ;omega) h.alZ h.ok h.al3 VW (by have:=h.alZ;omega)]
 ·rw[dQ,dQ,Tm.Q6 f c d t 0 VW h.ok,show f+0=f by omega]
 ·unfold u6 oP;simp only[dI];rw[gi VW VW,gd VW VW]
  by_cases a:f<=i-b
  ·rw[dR a,show qa (i-b) f=true by rw[jW];exact a];rfl
  ·rw[dK a,show qa (i-b) f=false by
    cases o:qa (i-b) f with
    |false=>rfl|true=>exact absurd ((jW _ _).1 o) a];rfl
def DZ(k:Int):mS k=some (ki k):=by
 unfold mS ki;rw[vL];simp only[qa,Zv,CA];rw[<-Bool.decide_and];exact HM.2 (by simp only[aei];omega)
def Fm.wR{k:Int}{s:Ty}{ts:List Tm}{l:List Fm}(h:(Fm.mk k s ts l).ok=true):s.alZ<=64/\(∀t∈ts,t.ok=true)/\(∀f∈l,f.ok=true):=by
 rw[Fm.hI] at h;simp only[hE,ll] at h;refine⟨?_,h.1.2,h.2⟩;have hn:=h.1.1;unfold Fm.node at hn
 split at hn
 ·simp only[hE] at hn;rw[(Ty.mT s).1 hn.1.1,Ty.dM];simp[ee]
 ·split at hn
  ·simp only[hE] at hn;rw[(Ty.mT s).1 hn.1.1,Ty.dM];simp[ee]
  ·simp only[hE,oI] at hn;exact fg hn.1.1.2
def Fm.La(ψ:Tm->Int->Tm)(b:Int):Fm->Fm
 |.mk k s ts l=>.mk k s (ts.map λt=>ψ t b) (l.attach.map λx=>Fm.La ψ (b+qB k) x.1)
decreasing_by
 have:=afP x.2;simp only[Fm.mk.sizeOf_spec];omega
def Fm.IP(ψ:Tm->Int->Tm)(b k:Int)(s:Ty)(ts:List Tm)(l:List Fm):(Fm.mk k s ts l).La ψ b=.mk k s (ts.map λt=>ψ t b) (l.map (Fm.La ψ (b+qB k))):=by
 rw[Fm.La]
 congr 1
 exact ahA
def zM{h:Tm->Int->Option Tm}{ψ:Tm->Int->Tm}(P:∀t b,Bd t->0<=b->b<=1000000000->h t b=some (ψ t b)):∀(n:Nat) (f:Fm) (b:Int),f.alZ<=n->f.alZ<=50000000->f.ok=true->f.al3 1000000000000=true->0<=b->b+f.alZ<=1000000000->gW n f b (λ(s:Unit) (A:Tm) (B:Int)=>yN (h A B) s) ()=some (f.La ψ b,()):=by
 intro n
 induction n with
 |zero=>intro f b h;have:=f.eM;omega
 |succ n ih=>
  intro f b hn Q R G S H;cases f with
  |mk k s ts l=>
   rw[Fm.dM] at hn Q H;have T:=jr Tm.alZ ts λt _=>t.eM;have U:=jr Fm.alZ l λt _=>t.eM;obtain⟨V,I,J⟩:=Fm.wR R;rw[Fm.fK,hE,ll,ll] at G;rw[gW,Fm.IP];simp only[Fm.fM,Fm.eG,Fm.eK,Fm.jN,ef];rw[xP VW,dI,et VW,ed];have W:=yQ k
   have w:∀(us:List Tm) (j:Nat) (v:List Tm),(∀t∈us,t∈ts)->v.length+us.length<=50000000->fw (λ(X:Int) (K:Tm)=>(yn λ(v91:List Tm) (L:Unit)=>
      dV (yN (h K b) L) λq C=>
      gG (fN v91 [q])<|some ((.next ((fU v91 [q]),C)):gq ((List Tm)×Unit) (Fm×Unit)))) us j (v,())=some (.inl (v++us.map (λt=>ψ t b),())):=by
    intro us
    induction us with
    |nil=>intro j v _ _;simp|cons t us x=>
     intro j v hm M;simp only[mN] at M;have d:=hm t aaA;have N:=eF Tm.alZ d;rw[fY];simp only[yn];rw[P t b ⟨I t d,G.1 t d,VW⟩ S VW,HD,dQ,fm abu,ed];simp only[dI,fk];rw[iv];have:=x (j+1) (v++[ψ t b]) (λu hu=>hm u (by simp[hu])) abu;rw[this];simp
   rw[w ts 0 [] (λt h=>h) abu,dI];simp only[eC,yn];rw[DZ,dI]
   have y:∀(us:List Fm) (j:Nat) (v:List Fm),(∀t∈us,t∈l)->v.length+us.length<=50000000->fw (λ(D:Int) (i:Fm)=>(yn λ(a:List Fm) (v212:Unit)=>
      dV (gW n i (b+qB k) (λ(s:Unit) (A:Tm) (B:Int)=>yN (h A B) s) v212) λc o=>
      gG (fN a [c])<|some ((.next ((fU a [c]),o)):gq ((List Fm)×Unit) (Fm×Unit)))) us j (v,())=some (.inl (v++us.map (Fm.La ψ (b+qB k)),())):=by
    intro us
    induction us with
    |nil=>intro j v _ _;simp|cons t us x=>
     intro j v hm M;simp only[mN] at M;have d:=hm t aaA;have N:=eF Fm.alZ d;rw[fY];simp only[yn];rw[ih t (b+qB k) VW VW (J t d) (G.2 t d) VW VW,dQ,fm abu,ed];simp only[dI,fk];rw[iv];have:=x (j+1) (v++[t.La ψ (b+qB k)]) (λu hu=>hm u (by simp[hu])) abu;rw[this];simp
   have fin:(gG (eX l)<|dH (fw (λ(D:Int) (i:Fm)=>(yn λ(a:List Fm) (v212:Unit)=>
      dV (gW n i (b+qB k) (λ(s:Unit) (A:Tm) (B:Int)=>yN (h A B) s) v212) λc o=>
      gG (fN a [c])<|some ((.next ((fU a [c]),o)):gq ((List Fm)×Unit) (Fm×Unit)))) l 0 ([],())) (fO (yn λ(a:List Fm) (v212:Unit)=>some ((Fm.mk k s ([]++ts.map λt=>ψ t b) a),v212)) (λr=>some r)))=some (Fm.mk k s (ts.map λt=>ψ t b) (l.map (Fm.La ψ (b+qB k))),()):=by
    rw[et VW,ed,y l 0 [] (λt h=>h) abu,dI];simp
   by_cases F:ki k=true
   ·rw[dR F]
    have O:b+qB k=b+1:=by unfold qB;rw[dR F]
    rw[O] at fin|-;rw[gd VW VW];exact fin
   ·rw[dK F]
    have O:b+qB k=b:=by unfold qB;rw[dK F];omega
    rw[O] at fin|-;exact fin
def Fm.Q6(f c:Int):∀(g:Fm) (b:Int),g.La (λt b=>t.up (f+b) c) b=g.up (f+b) c:=by
 intro g
 induction g using Fm.ind with
 |h k s ts l ih=>
  intro b;rw[Fm.IP,Fm.fu]
  congr 1
  exact tN λx a=>by rw[ih x a (b+qB k),show f+(b+qB k)=f+b+qB k by omega]
def CF{g:Fm}{f c:Int}(d:g.ok=true)(hn:g.alZ<=50000000)(i:g.al3 1000000000000=true)(o:0<=f)(j:f<=1000000000)(k:0<=c)(a:c<=10000000000):qh g f c=some (g.up f c):=by
 unfold qh;rw[zM (h:=λl n=>rF l n f c) (ψ:=λt b=>t.up (f+b) c) (λt b h q r=>?_) FU g 0 (by have:=fI;omega) hn d i VW VW]
 ·rw[dQ,Fm.Q6 f c g 0,show f+0=f by omega]
 ·unfold rF;rw[gd VW VW,MC h VW VW k a];rfl
def Tm.aeQ{i:Int}{s:Ty}{l:List Tm}(a:(Tm.mk 1 i s l).ok=true):l=[]/\s=.mk 0 []:=by
 have hi:=Tm.tx a;constructor
 ·have:=hi.2.2.2.2;unfold gX at this;rw[dR (.inl rfl)] at this;exact Cw VW
 ·rw[Tm.hI] at a;simp only[Tm.node,hE] at a;have:=a.1.2;rw[dK aar] at this;exact(Ty.mT s).1 this
noncomputable def kM (f:Fm) (t:Tm):Fm×Int:=if 4096<(Fm.gp 0 f t).alZ then(.mk 0 (.mk 0 []) [] [],4)else(Fm.gp 0 f t,0)
noncomputable def Mm (f:Fm) (g:List Ty):Int:=if yc g≠0 then yc g else if f.err≠0 then f.err else f.yG g
def jc.of{g:List Ty}(h:yc g=0):jc g/\g.length<=16:=by
 unfold yc at h
 split at h
 ·cases h
 ·rename_i c;refine⟨λs hs=>?_,VW⟩
  have key:∀l:List Ty,fE (l.map Ty.err)=0->∀s∈l,s.err=0:=by
   intro l
   induction l with
   |nil=>intro _ s hs;cases hs
   |cons a l ih=>
    intro h s hs;simp only[kZ,fE] at h
    by_cases b:a.err=0
    ·rw[dR b] at h;rcases mb.1 hs with rfl|hs
     ·exact b
     ·exact ih h s hs
    ·rw[dK b] at h;exact absurd h b
  exact key g h s hs
def Je{g:List Ty}(hg:jc g)(c:g.length<=1000000):oi g=some (g.map AB):=by
 unfold oi;simp only[ef]
 rw[et VW,ed,kr AB g 0 [] abu (λj x v a b=>by
  rw[na (hg x a),dI,fm (by simpa using b),ed,iv])]
 simp
def w4{f:Fm}{g:List Ty}(hw:f.wt<=1000000000)(c:g.length<=1000000)(h:∀t∈g,t.alZ<=1000000000):ka g f=some (Mm f g):=by
 unfold ka kP Mm;rw[tB g c h,dI]
 by_cases a:yc g=0
 ·rw[dK (by rw[ez];simpa using a),dK (by simpa using a),jg hw,dI]
  by_cases he:f.err=0
  ·obtain⟨hg,d⟩:=jc.of a;obtain⟨b,hn⟩:=Fm.ig he;rw[dK (by rw[ez];simpa using he),dK (by simpa using he),Bi f b FU (by have:=fI;omega) g hg VW hn];rfl
  ·rw[dR (by rw[ez];exact he),dR he];rfl
 ·rw[dR (by rw[ez];exact a),dR a]
def Ky{f:Fm}{s:Tm}(he:f.err=0)(b:s.err=0)(j:f.al3 536870912=true)(c:s.al3 536870912=true)(d:(Fm.gp 0 f s).ok=true):yO f 0 s=some (kM f s):=by
 obtain⟨a,hn⟩:=Fm.ig he;obtain⟨h,i⟩:=Tm.ig b;have hw:=f.js a;have n:=s.js h;have o:=s.eM;have q:=f.pO 0;have r:=Fm.B2 s f 0 a;unfold yO kM;rw[jg VW,he];simp only[dI,ez,ne_eq,O5,jb,ef,jR,iM,l',tH];rw[dK VW,lA VW,b,Bf FU f _ (by rw[fI];omega) VW,j,Fy _ VW,c];simp only[dI,O5,jb,if_true,L',ox];rw[sX FU f (by rw[fI];omega) VW,JB FU f 0 (by rw[fI];omega) VW VW VW,n5 FU s (by rw[fI];omega) VW];simp only[dI];rw[gi VW VW]
 have hmul:(f.al5 0:Int)*((s.alZ:Int)-1)=((f.al5 0*s.alZ:Nat):Int)-(f.al5 0:Int):=by rw[Int.mul_sub,Int.mul_one];push_cast;rfl
 have t:f.al5 0*s.alZ<=4096*4096:=Y1 VW i;have k:f.al5 0<=f.al5 0*s.alZ:=ag_ _ VW;rw[SW (by rw[hmul];omega) (by rw[hmul];omega),hmul,gd VW VW]
 by_cases l:4096<(Fm.gp 0 f s).alZ
 ·rw[dR VW,dR l]
 ·rw[dK VW,dK l,P_ FU f 0 0 s (by rw[fI];omega) VW VW VW VW (Fm.mu f VW j) a VW (Tm.mu s VW c)];simp only[dI,sh];have u:=Fm.js _ d;rw[r7 VW];rfl
end Go.fF
