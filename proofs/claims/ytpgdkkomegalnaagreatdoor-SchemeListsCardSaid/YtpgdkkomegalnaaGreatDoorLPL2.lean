/- Part of the proof of SchemeLists: plain facts. -/
import Derived.Test.YtpgdkkomegalnaaGreatDoorLPL1
set_option linter.all false
namespace Go.fD
open Go
def my{α:Type}(m:List (Int×α)):List Int:=m.map (·.1)
def Ef{α:Type}(k:Int)(v:α):∀(m:List (Int×α)) (x:Int),x∈my (wG m k v)↔x=k\/x∈my m
 |[],x=>by simp[wG,my]|p::m,x=>by
  unfold wG
  by_cases h:p.1=k
  ·rw[dR h];subst h;simp[my]
  ·rw[dK h];have ih:=Ef k v m x;simp only[my,oe,lQ] at ih|-;rw[ih];constructor
   ·rintro(h|h|h)
    ·exact .inr (.inl h)
    ·exact .inl h
    ·exact .inr (.inr h)
   ·rintro(h|h|h)
    ·exact .inr (.inl h)
    ·exact .inl h
    ·exact .inr (.inr h)
def Dd{α:Type}(k:Int)(v:α):∀(m:List (Int×α)),(my m).Nodup->(my (wG m k v)).Nodup
 |[],_=>by simp[wG,my]|p::m,h=>by
  have b:p.1∉my m/\(my m).Nodup:=U9.1 h;unfold wG
  by_cases a:p.1=k
  ·rw[dR a];subst a;exact h
  ·rw[dK a];refine U9.2 ⟨λhm=>?_,Dd k v m b.2⟩;rcases(Ef k v m p.1).1 hm with e|e
   ·exact a e
   ·exact b.1 e
def ID{α:Type}(k:Int)(v:α):∀(m:List (Int×α)),(wG m k v).length<=m.length+1
 |[]=>by simp[wG]|p::m=>by
  unfold wG
  split
  ·simp
  ·have:=ID k v m;simp only[mz];omega
def Og(n:Int):∀l:List Int,(Dy n l).length=l.length+1
 |[]=>rfl|a::l=>by
  unfold Dy
  split
  ·rfl
  ·simp[Og n l]
def KT:∀(l acc:List Int),(zV acc l).length=acc.length+l.length
 |[],acc=>by simp[zV]|a::l,acc=>by rw[zV,KT l,Og];simp only[mz];omega
def J8:∀(n:Nat) (t:Tm) (d:Int) (m:List (Int×Bool)),t.ak7<=n->t.ak7<=100000000->0<=d->d+t.ak7<=1000000000->t.ak' 4611686018427387904=true->(my m).Nodup->∃y,pB n t d m=some y/\(my y).Nodup/\y.length<=m.length+t.ak7/\∀x,x∈my y↔x∈my m\/(0<=x/\0<t.alb (x+d)):=by
 intro n
 induction n with
 |zero=>intro t d m h;have:=t.eM;omega
 |succ n ih=>
  intro t d m hn B O P I hm;cases t with
  |mk k i s l=>
   have J:=jl k;rw[Tm.dP] at hn B P;have hlen:=jh Tm.ak7 l λt _=>t.eM;rw[Tm.fH,hD,oy,k_] at I
   have ak6:∀(F:Int->Tm->List (Int×Bool)->Option (gm (List (Int×Bool)) (List (Int×Bool)))),(∀j x v,F j x v=dH (lj (Tm.mk k i s l)) λb=>dH (pB n x (eS .i64 d b) v) λr=>some (.next r))->∀(as:List Tm) (j:Nat) (v:List (Int×Bool)),(∀a∈as,a∈l)->(my v).Nodup->∃f,fk F as j v=some (.inl f)/\(my f).Nodup/\f.length<=v.length+ei Tm.ak7 as/\∀x,x∈my f↔x∈my v\/(0<=x/\0<ei (Tm.alb (x+d+fE k)) as):=by
    intro F hF as
    induction as with
    |nil=>intro j v _ C;exact⟨v,rfl,C,by simp[ei],λx=>by simp[ei]⟩|cons a as D=>
     intro j v has C;have K:=has a aa2;have Q:=eG Tm.ak7 K;have G:=I.2 a K;obtain⟨v1,o,q,L,u⟩:=ih a (d+fE k) v VW VW VW VW G C;obtain⟨v2,g1,g2,g3,g4⟩:=D (j+1) v1 (λb B=>has b (by simp[B])) q;refine⟨v2,?_,g2,by simp only[ei];omega,λx=>?_⟩
     ·rw[gf,hF,nS];simp only[dI,Tm.eL];rw[fX VW VW,o];simp only[dI,fh];exact g1
     ·rw[g4,u];simp only[ei];rw[<-Int.add_assoc];constructor
      ·rintro((h|h)|h)
       ·exact .inl h
       ·exact .inr ⟨h.1,VW⟩
       ·exact .inr ⟨h.1,VW⟩
      ·rintro(h|⟨h,A⟩)
       ·exact .inl (.inl h)
       ·by_cases R:0<a.alb (x+d+fE k)
        ·exact .inl (.inr ⟨h,R⟩)
        ·exact .inr ⟨h,VW⟩
   unfold pB;simp only[eg,Tm.eH,et (l:=l) VW,ec,Tm.eL,Tm.iC];rw[Tm.dP]
   by_cases w:k=1/\d<=i
   ·have c:fv (eo k 1) (pd i d) false=true:=by simp[fv,w.1,w.2]
    simp only[c,if_true];rw[fT VW VW];obtain⟨f,o,q,L,u⟩:=ak6 _ (λ_ _ _=>rfl) l 0 (wG m (i-d) true) (λa h=>h) (Dd _ _ _ hm);refine⟨f,by rw[o];rfl,q,by have:=ID (i-d) true m;omega,λx=>?_⟩;rw[u,Ef,Tm.fF];constructor
    ·rintro((h|h)|h)
     ·exact .inr ⟨VW,by rw[dR ⟨w.1,VW⟩];omega⟩
     ·exact .inl h
     ·exact .inr ⟨h.1,VW⟩
    ·rintro(h|⟨h,A⟩)
     ·exact .inl (.inr h)
     ·by_cases M:x=i-d
      ·exact .inl (.inl M)
      ·rw[dK (λN=>M VW)] at A;exact .inr ⟨h,VW⟩
   ·have c:fv (eo k 1) (pd i d) false=false:=by
     unfold fv
     split
     ·rename_i S
      have H:k=1:=by simpa using S
      simp only[pd,agL]
      exactλh=>w ⟨H,h⟩
     ·rfl
    simp only[c,oz,iU];obtain⟨f,o,q,L,u⟩:=ak6 _ (λ_ _ _=>rfl) l 0 m (λa h=>h) hm;refine⟨f,by rw[o];rfl,q,VW,λx=>?_⟩;rw[u,Tm.fF];constructor
    ·rintro(h|h)
     ·exact .inl h
     ·exact .inr ⟨h.1,VW⟩
    ·rintro(h|⟨h,A⟩)
     ·exact .inl h
     ·rw[dK (λN=>w ⟨N.1,VW⟩)] at A;exact .inr ⟨h,VW⟩
def KI{t:Tm}(hw:t.wt<=1000000000)(d:t.ak' 4611686018427387904=true)(he:t.err=0):∃l,vY t=some (l,0)/\Hk l/\l.length<=4096/\∀x,x∈l↔0<=x/\0<t.alb x:=by
 have hn:t.ak7<=4096:=by
  unfold Tm.err at he
  split at he
  ·split at he
   ·cases he
   ·omega
  ·cases he
 obtain⟨m,f,c,h,i⟩:=J8 FU t 0 [] (by rw[fB];omega) VW VW VW d (by simp[my])
 have a:(m.map (·.1)).Nodup:=c
 have b:m.length<=4096:=by simpa using AL h (by simpa using hn)
 refine⟨zV [] (my m),?_,BF _ [] .nil c aa2,?_,λx=>?_⟩
 ·unfold vY;rw[k8 hw,he];simp only[dI];rw[dK aak,f];simp only[dI];unfold qf
  rw[et VW,ec,show xZ (m.map (·.1))=true from by simp[xZ,a],ec]
  rfl
 ·rw[KT];simp[my,b]
 ·rw[BH,i];simp[my]
def Sp{n:Int}(a:0<=n)(b:n<4294967296):IntKind.u32.wrap n=n:=by
 unfold IntKind.wrap;simp only[show IntKind.u32.bits=32 from rfl,show IntKind.u32.signed=false from rfl,Bool.false_and,oz,iU,show((2:Int)^32)=4294967296 from rfl];omega
def L0(a:Nat):BitVec.ofInt 32 (a:Int)=BitVec.ofNat 32 a:=aa2
def Zp{a b:Nat}(d:a<4294967296)(f:b<4294967296):SV .u32 (a:Int) (b:Int)=((a|||b:Nat):Int):=by
 unfold SV;have c:a|||b<2^32:=ahU VW VW;rw[show IntKind.u32.bits=32 from rfl,L0,L0,BitVec.toNat_or,Z6,Z6,W_ VW,W_ VW];exact Sp VW VW
def XX{a b:Nat}(d:a<4294967296)(f:b<4294967296):B3 .u32 (a:Int) (b:Int)=((a&&&b:Nat):Int):=by
 unfold B3;have c:a&&&b<2^32:=ah6 _ VW;rw[show IntKind.u32.bits=32 from rfl,L0,L0,BitVec.toNat_and,Z6,Z6,W_ VW,W_ VW];exact Sp VW VW
structure Us (l:List Int) (m:Nat):Prop where
 lt:m<4294967296
 pos:∀x∈l,0<=x
 srt:Hk l
 mem:∀i:Nat,(i:Int)∈l↔m.testBit i=true
def Us.nil:Us [] 0:=⟨aak,aa2,by first|exact .nil|trivial|simp[Hk],aa2⟩
def abd{t:Tm}(he:t.err=0)(b:t.ak' 1000000000000=true)(c:∀j:Int,32<=j->t.alb j=0):∃(l:List Int),kl t=some l/\Hk l/\∀x,x∈l↔0<=x/\0<t.alb x:=by
 obtain⟨a,hn⟩:=Tm.ia he;have hw:=t.jr a;obtain⟨l,g1,g2,_,g4⟩:=KI (t:=t) VW (Tm.ml t VW b) he;exact⟨l,by unfold kl;rw[g1];rfl,g2,g4⟩
def tA(v:List (Int×Bool))(l:List Int):List (Int×Bool):=l.foldl (λv x=>wG v x true) v
def yF:∀(l:List Int) (v:List (Int×Bool)),(my v).Nodup->(my (tA v l)).Nodup/\(tA v l).length<=v.length+l.length/\∀x,x∈my (tA v l)↔x∈my v\/x∈l
 |[],v,h=>⟨h,by simp[tA],λx=>by simp[tA]⟩|y::l,v,h=>by
  obtain⟨a,c,b⟩:=yF l (wG v y true) (Dd y true v h);refine⟨a,?_,λx=>?_⟩
  ·have:=ID y true v;show(tA (wG v y true) l).length<=_;rw[mz];omega
  ·show x∈my (tA (wG v y true) l)↔_;rw[b,Ef,lQ];constructor
   ·rintro((h|h)|h)
    ·exact .inr (.inl h)
    ·exact .inl h
    ·exact .inr (.inr h)
   ·rintro(h|h|h)
    ·exact .inl (.inr h)
    ·exact .inl (.inl h)
    ·exact .inr h
def I5{ρ:Type}:∀(l:List Int) (j:Nat) (v:List (Int×Bool)),fk (λ(c:Int) (a:Int)=>(λ(b:(List (Int×Bool)))=>some ((.next (wG b a true)):gm (List (Int×Bool)) ρ))) l j v=some (.inl (tA v l))
 |[],j,v=>by rw[qL];rfl|x::l,j,v=>by
  rw[gf];simp only[dI,fh];exact I5 l (j+1) (wG v x true)
def Jz{a b:List Int}(h:a.length<=1000000)(i:b.length<=1000000):∃l,gp a b=some l/\Hk l/\∀x,x∈l↔x∈a\/x∈b:=by
 obtain⟨c,d,f⟩:=yF a [] (by simp[my]);obtain⟨g1,g2,g3⟩:=yF b (tA [] a) c;refine⟨zV [] (my (tA (tA [] a) b)),?_,BF _ _ .nil g1 aa2,λx=>?_⟩
 ·unfold gp;simp only[eg];rw[et VW,ec];rw[I5 a 0 [],dI,eB,et VW,ec,I5 b 0 _,dI,eB];unfold qf;simp only[B4] at d;rw[et VW,ec,show xZ (List.map (λx=>x.1) (tA (tA [] a) b))=true from z_ g1,ec];rfl
 ·rw[BH,g3,f];simp[my]
def Us.union{a b:List Int}{m n:Nat}(c:Us a m)(d:Us b n)(f:a.length<=1000000)(j:b.length<=1000000):∃l,gp a b=some l/\SV .u32 (m:Int) (n:Int)=((m|||n:Nat):Int)/\Us l (m|||n)/\∀x,x∈l↔x∈a\/x∈b:=by
 obtain⟨l,o,q,k⟩:=Jz f j;refine⟨l,o,Zp c.lt d.lt,⟨ahU (n:=32) (by have:=c.lt;omega) (by have:=d.lt;omega),λx r=>?_,q,λi=>?_⟩,k⟩
 ·rcases(k x).1 r with h|h
  ·exact c.pos x h
  ·exact d.pos x h
 ·rw[k,c.mem,d.mem,Nat.testBit_or,tR]
def Us.bound{l:List Int}{m:Nat}(h:Us l m):∀x∈l,x<32:=by
 intro x a;have b:=h.pos x a;obtain⟨k,rfl⟩:=ada b;have:=(h.mem k).1 a;rcases vh k 32 with h1|h1
 ·omega
 ·exfalso;have c:m<2^k:=T9 h.lt (AL (by decide:4294967296<=2^32) (Nat.pow_le_pow_right aak h1));rw[Nat.testBit_lt_two_pow c] at this;cases this
def x8(k:Int)(l:List Int):List Int:=(l.filter λx=>decide (k<=x)).map λx=>x-k
def I0{k:Int}(i:0<=k)(c:k<=1000):∀(l:List Int) (j:Nat) (v:List Int),(∀x∈l,0<=x/\x<32)->v.length+l.length<=1000000->fk (λ(n:Int) (a:Int)=>(λ(b:List Int)=>
   if(pd a k) then(
   gB (fI b [(fA .i64 a k)])<|some ((.next (fR b [(fA .i64 a k)])):gm (List Int) (List Int)))
   else(some (.next b)))) l j v=some (.inl (v++x8 k l))
 |[],j,v,_,_=>by simp[x8]|x::l,j,v,h,o=>by
  simp only[mz] at o;have q:=h x aa2;rw[gf]
  by_cases d:k<=x
  ·rw[dR (by rw[jk];exact d),fg acx,ec,fT VW VW];simp only[dI,fh];rw[ij,I0 i c l (j+1) _ (λy f=>h y (by simp[f])) acx];simp[x8,d]
  ·rw[dK (by rw[jk];exact d)];simp only[dI,fh];rw[I0 i c l (j+1) v (λy f=>h y (by simp[f])) VW];simp[x8,d]
def FY{l:List Int}{m:Nat}(h:Us l m)(d:l.length<=1000000){k:Int}(c:0<=k)(a:k<=1000):gx l k=some (x8 k l):=by
 unfold gx;simp only[eg];rw[et VW,ec,I0 c a l 0 [] (λx b=>⟨h.pos x b,h.bound x b⟩) acx,dI,eB,nT]
def Je(k:Int)(l:List Int)(x:Int):x∈x8 k l↔x+k∈l/\0<=x:=by
 unfold x8;simp only[qp,Zm,adC];constructor
 ·rintro⟨y,⟨a,b⟩,rfl⟩;exact⟨by rw[Int.sub_add_cancel];exact a,VW⟩
 ·rintro⟨a,b⟩;exact⟨x+k,⟨a,VW⟩,VW⟩
def Oe(k:Int):∀{l:List Int},Hk l->Hk (x8 k l)
 |[],_=>.nil|a::l,.cons d f=>by
  have ih:=Oe k f
  by_cases c:k<=a
  ·have e:x8 k (a::l)=(a-k)::x8 k l:=by simp[x8,c]
   rw[e];refine .cons (λb h=>?_) ih;have:=d _ ((Je k l b).1 h).1;omega
  ·have e:x8 k (a::l)=x8 k l:=by simp[x8,c]
   rw[e];exact ih
def Us.out{l:List Int}{m:Nat}(h:Us l m)(a:l.length<=1000000){k:Nat}(c:k<=32):gx l (k:Int)=some (x8 k l)/\Us (x8 k l) (m/2^k):=by
 refine⟨FY h a VW VW,⟨Nat.lt_of_le_of_lt (Nat.div_le_self _ _) h.lt,λx b=>((Je _ _ _).1 b).2,Oe _ h.srt,λi=>?_⟩⟩
 ·rw[Je,show(i:Int)+(k:Int)=((i+k:Nat):Int) by omega,h.mem]
  have e:(m/2^k).testBit i=m.testBit (i+k):=by rw[Nat.testBit_div_two_pow]
  rw[e];exact⟨λh=>h.1,λh=>⟨h,VW⟩⟩
theorem Tm.up_add(f b c:Int)(n:0<=b):∀(t:Tm) (d:Int),(t.up (f+d) b).up (f+d) c=t.up (f+d) (b+c):=by
 intro t
 induction t using Tm.ind with
 |h k i s l ih=>
  intro d;rw[Tm.fJ,Tm.fJ,Tm.fJ]
  congr 1
  ·by_cases a:k=1/\f+d<=i
   ·rw[dR a,dR ⟨a.1,VW⟩];omega
   ·rw[dK a,dK a,dK a]
  ·rw[Bp]
   exact tQ λx j=>by
    have:=ih x j (d+fE k);rw[show f+(d+fE k)=f+d+fE k by omega] at this;exact this
theorem Fm.up_add(f b c:Int)(a:0<=b):∀(t:Fm) (d:Int),(t.up (f+d) b).up (f+d) c=t.up (f+d) (b+c):=by
 intro t
 induction t using Fm.ind with
 |h k s ts l ih=>
  intro d;rw[Fm.fJ,Fm.fJ,Fm.fJ]
  congr 1
  ·rw[Bp];exact tQ λx _=>Tm.up_add f b c a x d
  ·rw[Bp]
   exact tQ λx i=>by
    have:=ih x i (d+qB k);rw[show f+(d+qB k)=f+d+qB k by omega] at this;exact this
def Fm.adn(t:Fm){b c:Int}(a:0<=b):(t.up 0 b).up 0 c=t.up 0 (b+c):=by
 have:=Fm.up_add 0 b c a t 0
 rwa [uQ] at this
structure PlR (c:dS):Prop where
 ctx:iT c.ak9
 nv:c.ak9.length<=16
 nh:c.ala.length<=16
def PlR.with{c:dS}(h:PlR c){f:Fm}(hn:c.ala.length+1<=16):∃a,gl c f=some a/\PlR a/\a.lemmas=c.lemmas/\a.ak9=c.ak9/\a.ala=c.ala++[f]:=by
 unfold gl;rw[fg acx,ec];refine⟨_,rfl,⟨h.ctx,h.nv,?_⟩,rfl,rfl,by simp only[ij]⟩;show(fR c.ala [f]).length<=16;rw[ij];simpa using hn
def iT.append{g l:List Ty}(h:iT g)(a:iT l):iT (g++l):=λs hs=>(sU.1 hs).elim (h s) (a s)
def PlR.below{c:dS}(h:PlR c){l:List Ty}(b:iT l)(hn:c.ak9.length+l.length<=16)(d:∀f∈c.ala,f.err=0/\f.ak' 1000000000=true):∃a,fp c l=some a/\PlR a/\a.lemmas=c.lemmas/\a.ak9=c.ak9++l/\a.ala=c.ala.map (Fm.up 0 l.length):=by
 have i:=h.nh
 have k:fp c l=some (dS.mk c.lemmas (c.ak9++l) (c.ala.map (Fm.up 0 l.length))):=by
  unfold fp;simp only[eg]
  rw[fg VW,ec,et VW,ec,kq (Fm.up 0 l.length) c.ala 0 [] acx (λj x v n o=>by
   obtain⟨q1,q⟩:=d x n;obtain⟨r,s⟩:=Fm.ia q1
   rw[fM,Bm FU x 0 l.length (by rw[fB];omega) VW VW VW VW VW (Fm.ml x VW q),dI,fg (by simpa using o),ec,ij])]
  rw[dI,eB,ij,nT]
 refine⟨_,k,⟨h.ctx.append b,?_,?_⟩,rfl,rfl,rfl⟩
 ·show(c.ak9++l).length<=16;simpa using hn
 ·show(c.ala.map (Fm.up 0 l.length)).length<=16;simpa using h.nh
def aac{t:Tm}(q:t.ok=true):v8 t=some t.root:=by
 unfold v8;simp only[eg];cases t with
 |mk k i s l=>
  show(if(eo k 3) then(dH (dW l 0) λj=>some (eo j.ak5 2))else(
   if(eo k 6) then(dH (dW l 2) λf=>if(eo f.ak5 4) then some true else some (eo f.ak5 5))else(
   if(eo k 9) then(dH (dW l 2) λh=>if(eo h.ak5 7) then some true else some (eo h.ak5 8))else(
   if(fv (eo k 11) true (eo k 12)) then(dH (dW l 0) λn=>some (eo n.ak5 10))else some false))))=_
  unfold Tm.root
  by_cases r:k=3
  ·subst r;obtain⟨a,b,rfl⟩:=Tm.ok3 q;rw[dR aak];simp[eW,Tm.kd,ET]
  ·rw[dK (by simpa using r)]
   by_cases u:k=6
   ·subst u;obtain⟨a,b,c,rfl⟩:=Tm.ok6 q;rw[dR aak];simp only[mY,rq,lN,dI,Tm.kd,fZ]
    by_cases o:c.ak5=4
    ·simp[o]
    ·simp[o,ET]<;>exact aa9.2 Iff.rfl
   ·rw[dK (by simpa using u)]
    by_cases v:k=9
    ·subst v;obtain⟨a,b,c,rfl⟩:=Tm.ok9 q;rw[dR aak];simp only[mY,rq,lN,dI,Tm.kd,fZ]
     by_cases o:c.ak5=7
     ·simp[o]
     ·simp[o,ET]<;>exact aa9.2 Iff.rfl
    ·rw[dK (by simpa using v)]
     by_cases d:k=11\/k=12
     ·obtain⟨a,rfl⟩:=Tm.agM d q;rw[dR (by rcases d with rfl|rfl<;>rfl)];simp only[eW,lN,dI,Tm.kd];rcases d with rfl|rfl<;>simp[ET]<;>exact aa9.2 Iff.rfl
     ·rw[dK (by simp only[lU,tR,fZ];exact d)];simp only[not_or] at d;simp[r,u,v,d.1,d.2]
def An{t:Tm}(h:t.ak7<=1000000000):fU FU t=some (t.ak7:Int):=nJ FU t (by rw[fB];exact h) h
def S7{t:Tm}(r:t.ok=true)(hn:t.ak7<=8192)(f:t.root=true):su t=some ((t.fx.ak7:Int)-(t.ak7:Int)):=by
 have l:=Tm.O0 r f;have u:=hn;unfold su;rw[An VW];simp only[dI];cases l with
 |app=>
  rename_i i s c d b a;have o:=Tm.ey (Tm.ey r (.mk 2 c d [b]) aa2) b aa2;rw[Tm.dP] at hn;simp only[ei,Tm.dP] at hn;rw[dR ac8];simp only[Tm.eH,eW,iv,lN,rq,dI];rw[An (t:=b) VW,An (t:=a) VW,Bq FU b 0 (by rw[fB];omega) VW VW VW];simp only[dI];have v:=Tm.pV b 0;have hmul:b.alb 0*a.ak7<=8192*8192:=WI VW VW;have w:=Tm.BS a b 0 o;have x:=a.eM
  have e:(Tm.mk 3 i s [.mk 2 c d [b],a]).fx=Tm.gJ 0 b a:=by simp[Tm.fx]
  rw[e]
  have hint:(b.alb 0:Int)*((a.ak7:Int)-1)=((b.alb 0*a.ak7:Nat):Int)-(b.alb 0:Int):=by rw[Int.mul_sub,Int.mul_one];simp
  rw[fT (a:=(a.ak7:Int)) VW VW,Sd (by rw[hint];omega) (by rw[hint];omega),hint,fX VW VW,fT VW VW]
  congr 1
  omega
 |proj q=>
  rename_i k i s c d a b;rw[Tm.dP] at hn;simp only[ei,Tm.dP] at hn;rcases q with rfl|rfl
  ·rw[dK aa2,dK aa2,dK aa2,dR ac8];simp only[Tm.eH,eW,iv,lN,rq,dI];rw[An (t:=a) VW];simp only[dI];rw[fT VW VW];simp[Tm.fx]
  ·rw[dK aa2,dK aa2,dK aa2,dK aa2];simp only[Tm.eH,eW,iv,lN,rq,dI];rw[An (t:=b) VW];simp only[dI];rw[fT VW VW];simp[Tm.fx]
 |zero q=>
  rename_i k y i s c d b st;rw[Tm.dP] at hn;simp only[ei,Tm.dP] at hn
  have j:k≠3/\k≠11/\k≠12:=VW
  have:(Tm.mk k i s [b,st,.mk y c d []]).fx=b:=by simp[Tm.fx,j.1,j.2.1,j.2.2]
  rw[this];rcases q with⟨rfl,rfl⟩|⟨rfl,rfl⟩
  ·rw[dK aa2,dR ac8];simp only[Tm.eH,eW,iv,mY,lN,rq,dI];rw[dR ac8,An (t:=b) VW];simp only[dI];rw[fT VW VW]
  ·rw[dK aa2,dK aa2,dR ac8];simp only[Tm.eH,eW,iv,mY,lN,rq,dI];rw[dR ac8,An (t:=b) VW];simp only[dI];rw[fT VW VW]
 |succ=>
  rename_i i s c d b st n
  have e:(Tm.mk 6 i s [b,st,.mk 5 c d [n]]).fx=o8 st [n,.mk 6 i s [b,st,n]]:=by simp[Tm.fx,o8]
  rw[e,DC];rw[Tm.dP] at hn|-;simp only[ei,Tm.dP,mz,B4] at hn|-;rw[dK aa2,dR ac8];simp only[Tm.eH,eW,iv,mY,lN,rq,dI];rw[dK aa2,An (t:=st) VW,An (t:=n) VW];simp only[dI];rw[fX (a:=2) VW VW,fX (b:=(n.ak7:Int)) VW VW,fX VW VW,fT (b:=1) VW VW,fT VW VW]
  congr 1
  omega
 |cons=>
  rename_i i s c d b st h n
  have e:(Tm.mk 9 i s [b,st,.mk 8 c d [h,n]]).fx=o8 st [h,n,.mk 9 i s [b,st,n]]:=by simp[Tm.fx,o8]
  rw[e,DC];rw[Tm.dP] at hn|-;simp only[ei,Tm.dP,mz,B4] at hn|-;rw[dK aa2,dK aa2,dR ac8];simp only[Tm.eH,eW,iv,mY,lN,rq,dI];rw[dK aa2,An (t:=st) VW,An (t:=h) VW,An (t:=n) VW];simp only[dI];rw[fX (a:=3) VW VW,fX (b:=(h.ak7:Int)) VW VW,fX (b:=(n.ak7:Int)) VW VW,fX VW VW,fT (b:=1) VW VW,fT (b:=(h.ak7:Int)) VW VW,fT VW VW]
  congr 1
  omega
def Qy{M:Int}(u:0<=M/\M<=1000000000000){t:Tm}(hs:Sm M t)(hn:t.ak7<=8192)(c:t.root=true):qC t=some t.fx:=by
 have o:=hs.ok;have q:=Tm.O0 o c;have hw:=Tm.jr t o;unfold qC;cases q with
 |app=>
  rename_i i s f j b a;have d:=(hs.arg (.mk 2 f j [b]) aa2).arg b aa2;have l:=hs.arg a aa2;have v:=d.ak7;have w:=l.ak7;rw[dR ac8];simp only[Tm.eH,eW,iv,lN,rq,dI];rw[GM FU b 0 0 a (by rw[fB];omega) VW VW VW VW (d.mono u.2).ak' d.ok VW (l.mono u.2).ak'];simp[Tm.fx]
 |proj r=>
  rename_i k i s f j a b;rcases r with rfl|rfl
  ·rw[dK aa2,dK aa2,dK aa2,dR ac8];simp[Tm.fx,eW]
  ·rw[dK aa2,dK aa2,dK aa2,dK aa2];simp[Tm.fx,eW,iv]
 |zero r=>
  rename_i k x i s f j b st;rcases r with⟨rfl,rfl⟩|⟨rfl,rfl⟩
  ·rw[dK aa2,dR ac8];simp[Tm.fx,eW,mY,eo]
  ·rw[dK aa2,dK aa2,dR ac8];simp[Tm.fx,eW,mY,eo]
 |succ=>
  rename_i i s f j b st n;have hi:i=0:=(Tm.tB o).2.2.1 aak;subst hi;rw[Tm.iA] at hw;simp only[ei,Tm.iA] at hw;rw[dK aa2,dR ac8];simp only[Tm.eH,eW,iv,mY,lN,rq,dI,Tm.fK];rw[dK aa2,vV VW VW];simp only[dI];rw[D5 VW VW VW VW];simp only[dI];rw[po _ _ (by simp only[ei,Tm.iA,Ty.z,Ty.dP];omega)];simp[Tm.fx,o8,Ty.z]
 |cons=>
  rename_i i s f j b st h n;have hi:i=0:=(Tm.tB o).2.2.1 aak;subst hi;rw[Tm.iA] at hw;simp only[ei,Tm.iA] at hw;rw[dK aa2,dK aa2,dR ac8];simp only[Tm.eH,eW,iv,mY,lN,rq,dI,Tm.fK];rw[dK aa2,vV VW VW];simp only[dI];rw[po _ _ (by simp only[ei,Tm.iA,Ty.z,Ty.dP];omega)];simp only[dI];rw[D5 VW VW VW VW];simp only[dI];rw[po _ _ (by simp only[ei,Tm.iA,Ty.z,Ty.dP];omega)];simp[Tm.fx,o8,Ty.z]
def afn(t:Tm)(o:Option (Option Tm))(r:Tm×Bool×Bool):Prop:=
 match o with
 |none=>r.2.1=true/\r.2.2=false|some none=>r=(t,false,true)|some (some a)=>r=(a,true,true)
def RP{M:Int}(H:0<=M/\M<=1000000000000)(room:Int):∀(n:Nat) (t:Tm),t.ak7<=n->Sm M t->t.ak7<=8192->∃r,om n t room=some r/\afn t (t.Kg room) r
 |0,t,hn,_,_=>by have:=t.eM;omega
 |n+1,.mk k i s l,hn,hs,G=>by
  rw[om,aac hs.ok];simp only[dI];rw[Tm.MC]
  by_cases x:(Tm.mk k i s l).root=true
  ·rw[dR x,dR x,S7 hs.ok G x];simp only[dI,iD]
   by_cases hg:((Tm.mk k i s l).fx.ak7:Int)-((Tm.mk k i s l).ak7:Int)>room
   ·rw[dR hg,dR hg];exact⟨_,rfl,rfl,rfl⟩
   ·rw[dK hg,dK hg,Qy H hs G x];exact⟨_,rfl,rfl⟩
  ·rw[dK x,dK x];rw[Tm.dP] at hn G;have hlen:=Tm.VH hs.ok;simp only[Tm.eH,eg,et (l:=l) VW,ec,Tm.eL,Tm.iC,Tm.fK]
   have key:∀(ts pre:List Tm),l=pre++ts->∃o,fk (λ(a:Int) (y:Tm)=>(λ(_:Unit)=>
     eZ (om n y room) λA B C=>
     if B then(
     gB (I8 l)<|dH (dW l a) λI=>
     some (gm.ret ((Tm.mk k i s (FX l a A)),true,C)))
     else(some (.next ())))) ts pre.length ()=some o/\(match Tm.wc room ts with
      |none=>∃r:Tm×Bool×Bool,o=.inr r/\r.2.1=true/\r.2.2=false|some none=>o=.inl ()|some (some h)=>o=.inr (Tm.mk k i s (pre++h),true,true)):=by
    intro ts
    induction ts with
    |nil=>intro pre _;exact⟨_,rfl,by rw[Tm.wc]⟩|cons t ts ih=>
     intro pre D
     have j:t∈l:=by rw[D];simp
     have J:=eG Tm.ak7 j;obtain⟨⟨u,b,c⟩,K,v⟩:=RP H room n t VW (hs.arg t j) VW;rw[gf];simp only[K,gz]
     have d:dW l ((pre.length:Nat):Int)=some t:=by
      unfold dW;rw[dR VW];rw[D];simp
     have gk:FX l ((pre.length:Nat):Int) u=pre++u::ts:=by
      unfold FX;rw[D,DS,JK]
     have f:I8 l=true:=by
      unfold I8 Al;have:0<l.length:=List.length_pos_of_mem j;exact z_ VW
     rw[Tm.wc];unfold afn at v;cases e:t.Kg room with
     |none=>
      rw[e] at v;obtain⟨q1,F⟩:=v;simp only at q1 F;rw[dR q1,f,ec,d];exact⟨_,rfl,_,rfl,rfl,F⟩
     |some o=>
      cases o with
      |none=>
       rw[e] at v;obtain⟨rfl,q⟩:=iM v;obtain⟨rfl,rfl⟩:=iM q;rw[dK aak];simp only[dI,fh];obtain⟨o,o1,o2⟩:=ih (pre++[u]) (by rw[D];simp);rw[ni] at o1;refine⟨o,o1,?_⟩;cases w:Tm.wc room ts with
       |none=>rw[w] at o2;exact o2
       |some q=>
        cases q with
        |none=>rw[w] at o2;exact o2
        |some h=>rw[w] at o2;simpa using o2
      |some L=>
       rw[e] at v;obtain⟨rfl,q⟩:=iM v;obtain⟨rfl,rfl⟩:=iM q;rw[dR rfl,f,ec,d];simp only[dI,gk];exact⟨_,rfl,rfl⟩
   obtain⟨o,o1,o2⟩:=key l [] rfl;rw[show(([]:List Tm).length)=0 from rfl] at o1;rw[o1];cases w:Tm.wc room l with
   |none=>
    rw[w] at o2;obtain⟨r,rfl,q1,F⟩:=o2;exact⟨r,rfl,q1,F⟩
   |some q=>
    cases q with
    |none=>rw[w] at o2;subst o2;exact⟨_,rfl,rfl⟩
    |some h=>rw[w] at o2;subst o2;exact⟨_,rfl,rfl⟩
def iR{t:Tm}(h:t.err=0):t.ok=true/\t.ak7<=4096:=Tm.ia h
def E6(steps:Int)(C:0<=steps/\steps<=65536):∀(k:Nat) (m:Int) (t:Tm) (N:Nat),(k:Int)=steps-m->0<=m->Sm (536870912+8192*m) t->t.ak7<=4096->k<N->js ((Ze λ(d:Int) (f:Int) (i:Int) (j:Int) (l:List Ty) (n:List Tm)=>
   dH (fU FU (Tm.mk f i (Ty.mk j l) n)) λv=>
   eZ (om FU (Tm.mk f i (Ty.mk j l) n) (fA .i64 4096 v)) λa w x=>
   if w then(
   if(eo d steps) then(
   some (.ret ((Tm.mk 0 0 (Ty.mk 0 []) []),0,5)))
   else(if x then(
   some (.next ((eS .i64 d 1),a.ak5,a.ak8,a.dM.ak5,a.dM.ak6,a.ak6)))
   else(some (.ret ((Tm.mk 0 0 (Ty.mk 0 []) []),0,4)))))
   else(dH (lF FU (Tm.mk f i (Ty.mk j l) n)) λy=>
   some (.ret (y,d,0)))):(Int×Int×Int×Int×(List Ty)×(List Tm))->(Option (gm (Int×Int×Int×Int×(List Ty)×(List Tm)) (Tm×Int×Int)))) N (m,t.ak5,t.ak8,t.dM.ak5,t.dM.ak6,t.ak6)=some (.inr (t.norm k m))
 |k,m,t,0,_,_,_,_,D=>by omega|k,m,t,N+1,G,hm,hs,hn,D=>by
  rw[hI];simp only[AR,adw];have hw:=Tm.jr t hs.ok;rw[An VW];simp only[dI];rw[fT VW VW];obtain⟨⟨u,b,c⟩,F,r⟩:=RP (M:=536870912+8192*m) VW (4096-t.ak7) FU t (by rw[fB];omega) hs VW;rw[F];simp only[gz];unfold afn at r;cases e:t.Kg (4096-t.ak7)with
  |none=>
   rw[e] at r;obtain⟨q1,B⟩:=r;simp only at q1 B;rw[dR q1];cases k with
   |zero=>
    have s:¬t.nf=true:=by
     intro h;rw[(Fu _ t).1 h] at e;cases e
    rw[dR (by simp[eo];omega),Tm.norm,dK s];rfl
   |succ k=>
    rw[dK (by simp[eo];omega),dK (by rw[B];decide),XH e];rfl
  |some o=>
   cases o with
   |none=>
    rw[e] at r;obtain⟨rfl,q⟩:=iM r;obtain⟨rfl,rfl⟩:=iM q;rw[dK aak,uM VW];cases k with
    |zero=>rw[Tm.norm,dR ((Fu _ _).2 e)];rfl|succ k=>rw[FJ e];rfl
   |some H=>
    rw[e] at r;obtain⟨rfl,q⟩:=iM r;obtain⟨rfl,rfl⟩:=iM q;rw[dR rfl];cases k with
    |zero=>
     have s:¬t.nf=true:=by
      intro h;rw[(Fu _ t).1 h] at e;cases e
     rw[dR (by simp[eo];omega),Tm.norm,dK s];rfl
    |succ k=>
     obtain⟨s1,s2,I⟩:=W7 (M:=536870912+8192*m) VW t hs VW _ e;rw[dK (by simp[eo];omega),dR rfl,Gg e,fX VW VW];have A:Sm (536870912+8192*(m+1)) u:=⟨s1,by rw[show 536870912+8192*(m+1)=536870912+8192*m+8192 by omega];exact s2,VW⟩;exact E6 steps C k (m+1) u N VW VW A VW VW
def Ld:∀(k:Nat) (m:Int) (t p:Tm) (n e:Int),t.norm k m=(p,n,e)->e≠0->p=Tm.z
 |0,m,t,p,n,e,h,he=>by
  rw[Tm.norm] at h
  split at h
  ·obtain⟨_,h⟩:=iM h;obtain⟨_,h⟩:=iM h;exact absurd h.symm he
  ·exact(iM h).1.symm
 |k+1,m,t,p,n,e,h,he=>by
  rw[Tm.norm] at h
  split at h
  ·exact(iM h).1.symm
  ·obtain⟨_,h⟩:=iM h;obtain⟨_,h⟩:=iM h;exact absurd h.symm he
  ·exact Ld k _ _ _ _ _ h he
def zX{t:Tm}(hw:t.wt<=1000000)(steps:Int):k0 t steps=some (if t.err=0 then(if 0<=steps/\steps<=65536/\t.ak' 536870912 then t.norm steps.toNat 0 else(Tm.z,0,1))else(Tm.z,0,t.err)):=by
 have b:=t.ik;unfold k0;rw[k8 VW];simp only[dI]
 by_cases he:t.err=0
 ·obtain⟨d,hn⟩:=iR he;rw[dR he,dK (by simp[eP,he])];simp only[eg,j3,iD]
  by_cases a1:steps<0
  ·rw[dR a1,dR trivial,dK VW];rfl
  ·rw[dK a1]
   by_cases a2:steps>65536
   ·rw[dR a2,dR trivial,dK VW];rfl
   ·rw[dK a2,Ap FU t 536870912 (by rw[fB];omega) VW];simp only[dI]
    by_cases a:t.ak' 536870912=true
    ·have hs:Sm 536870912 t:=⟨d,a,VW⟩;rw[dR (c:=0<=steps/\_) ⟨VW,VW,a⟩,a,dK aak,E6 steps VW steps.toNat 0 t FU VW VW hs VW (by rw[fB];omega)];rfl
    ·rw[dK (c:=0<=steps/\_) (λh=>a h.2.2),dR (by rw[Bool.not_eq_true] at a;rw[a];rfl)];rfl
 ·rw[dK he,dR (by simp[eP,he])];rfl
def JH{t:Tm}(hw:t.wt<=1000000)(steps:Int):∃p m e,k0 t steps=some (p,m,e)/\p.wt<=1000000000:=by
 have b:Tm.z.wt<=1000000000:=aak
 rw[zX hw steps]
 by_cases he:t.err=0
 ·obtain⟨f,hn⟩:=iR he;rw[dR he]
  by_cases c:0<=steps/\steps<=65536/\t.ak' 536870912=true
  ·rw[dR c];generalize a:t.norm steps.toNat 0=o;obtain⟨p,m,e⟩:=o;refine⟨_,_,_,rfl,?_⟩
   by_cases d:e=0
   ·subst d;obtain⟨q1,h⟩:=H3 _ 536870912 _ _ _ _ VW ⟨f,c.2.2,VW⟩ hn a;have:=Tm.jr p q1.ok;omega
   ·rw[Ld _ _ _ _ _ _ a d];exact b
  ·rw[dK c];exact⟨_,_,_,rfl,b⟩
 ·rw[dK he];exact⟨_,_,_,rfl,b⟩
def Lz{a b:Tm}(c:a.wt<=1000000000):∃r,rh a b=some r/\ly FU a b=some r:=by
 obtain⟨r,d,f⟩:=Kx (b:=b) c;obtain⟨q,q1,h⟩:=xD FU a b (by rw[fB];exact c) c
 have:r=q:=by rw[Hj,f,h]
 subst this;exact⟨r,d,q1⟩
def Tv{a b:Tm}(o:a.wt<=1000000)(u:b.wt<=1000000)(steps:Int):∃c,l8 a b steps=some c:=by
 unfold l8;rw[k8 VW,k8 (t:=b) VW];simp only[dI]
 by_cases d:eP a.err 0=true
 ·rw[dR d];exact⟨_,rfl⟩
 ·rw[dK d]
  by_cases h:eP b.err 0=true
  ·rw[dR h];exact⟨_,rfl⟩
  ·rw[dK h];obtain⟨r,_,v⟩:=Lz (a:=a) (b:=b) VW;rw[v];simp only[dI]
   by_cases i:r=true
   ·rw[dR i];exact⟨_,rfl⟩
   ·rw[dK i];obtain⟨p,m,e,w,x⟩:=JH o steps;obtain⟨q,n,f,y,A⟩:=JH u steps;rw[w,y];simp only[gz]
    by_cases j:eP e 0=true
    ·rw[dR j];exact⟨_,rfl⟩
    ·rw[dK j]
     by_cases k:eP f 0=true
     ·rw[dR k];exact⟨_,rfl⟩
     ·rw[dK k];obtain⟨s,_,s2⟩:=Lz (a:=p) (b:=q) x;rw[s2];simp only[dI]
      by_cases l:s=true
      ·rw[dR l];exact⟨_,rfl⟩
      ·rw[dK l];exact⟨_,rfl⟩
def IQ{α:Type}{E:α->α->Option Int}{M:List α}:∀(l:List α) (i:Nat),(∀x∈l,∀y∈M,∃c,E x y=some c)->i+l.length<=M.length->∃o,fk (λ(d:Int) (f:α)=>(λ(_:Unit)=>dH (dW M d) λb=>dH (E f b) λa=>if(eP a 0) then(some (.ret a))else(some ((.next ()):gm Unit Int)))) l i ()=some o
 |[],i,_,_=>⟨.inl (),aa2⟩|x::l,i,h,k=>by
  simp only[mz] at k;obtain⟨c,n⟩:=h x aa2 M[i] (B7 VW);rw[gf,gX,o9 VW];simp only[dI,n]
  by_cases j:eP c 0=true
  ·rw[dR j];exact⟨.inr c,rfl⟩
  ·rw[dK j];simp only[dI,fh];exact IQ l (i+1) (λy q=>h y (by simp[q])) VW
def Fm.shape{k:Int}{s i:Ty}{ts us:List Tm}{l m:List Fm}(h:(Fm.mk k s ts l).ok=true)(d:(Fm.mk k i us m).ok=true):ts.length=us.length/\l.length=m.length:=by
 rw[Fm.hH] at h d;simp only[hD] at h d;have c:=h.1.1;have a:=d.1.1;unfold Fm.node at c a
 split at c
 ·rename_i f;rw[dR f] at a;simp only[hD,oy] at c a;omega
 ·rename_i f;rw[dK f] at a
  split at c
  ·rename_i b;rw[dR b] at a;simp only[hD,oy] at c a;omega
  ·rename_i b;rw[dK b] at a;simp only[hD,oy] at c a;omega
def SM:∀(n:Nat) (a b:Fm),a.wt<=n->a.wt<=1000000->b.wt<=1000000->a.ok=true->b.ok=true->∃c,lb n a b=some c:=by
 intro n
 induction n with
 |zero=>intro t b h;have:=t.kb;omega
 |succ n ih=>
  intro a b h C j A d;cases a with
  |mk k s ts l=>
  cases b with
  |mk k' D us m=>
   rw[Fm.iA] at h C j;have H:=Fm.tD l;have F:=Tm.tD ts;rw[lb];simp only[Fm.eH,Fm.eL,Fm.jB,Fm.fK,eg,et (l:=l) VW,et (l:=ts) VW,ec,ez]
   by_cases q:k≠k'
   ·rw[dR q];exact⟨11,rfl⟩
   ·rw[dK q,iB VW];simp only[dI];have v:k=k':=w5.1 q;subst v;obtain⟨s1,s2⟩:=Fm.shape A d;obtain⟨_,I,ol⟩:=Fm.wY A;obtain⟨_,G,w⟩:=Fm.wY d;cases s.jY D with
    |false=>exact⟨11,rfl⟩|true=>
     obtain⟨o,k2⟩:=IQ (E:=λx y=>l8 x y 1000) (M:=us) ts 0 (λx f y i=>Tv (by have:=eG Tm.wt f;omega) (by have:=eG Tm.wt i;omega) 1000) VW;simp only[ez] at k2;rw[dK aak,k2];cases o with
     |inr r=>exact⟨r,rfl⟩|inl u=>
      simp only[dI,eB];obtain⟨o,B⟩:=IQ (E:=λx y=>lb n x y) (M:=m) l 0 (λx f y i=>ih x y (by have:=eG Fm.wt f;omega) (by have:=eG Fm.wt f;omega) (by have:=eG Fm.wt i;omega) (ol x f) (w y i)) VW;simp only[ez] at B;rw[B];cases o with
      |inr r=>exact⟨r,rfl⟩|inl u=>exact⟨0,rfl⟩
def EC{a b:Fm}(h:a.wt<=1000000000)(i:b.wt<=1000000000):∃c,lk a b=some c:=by
 unfold lk;rw[iV h,iV i];simp only[dI,ez]
 by_cases d:a.err≠0
 ·rw[dR d];exact⟨_,rfl⟩
 ·rw[dK d]
  by_cases f:b.err≠0
  ·rw[dR f];exact⟨_,rfl⟩
  ·rw[dK f];obtain⟨o1,n1⟩:=Fm.ia (w5.1 d);obtain⟨o2,n2⟩:=Fm.ia (w5.1 f);have k:=a.jr o1;have l:=b.jr o2;obtain⟨c,j⟩:=SM FU a b (by rw[fB];omega) VW VW o1 o2;rw[j];exact⟨c,rfl⟩
def nb{g:List Ty}{x:Tm}{t:Ty}(h:ef g x t)(hg:iT g)(a:g.length+x.ak7<=1000000):x.ty g=(t,0):=by
 have b:=(XZ h hg).2 x.ak7 (gY _) a;rw[Be x.ak7 x (gY _) h.ok g hg a] at b;exact kR b
def OX{g:List Ty}{x:Tm}(c:x.ok=true)(hg:iT g)(h:qJ x g 1=0):ef g x .nat:=by
 unfold qJ at h
 split at h
 ·cases h
 ·rename_i d
  have f:(x.ty g).1.ak5=1:=by
   rcases Int.emod_two_eq (x.ty g).1.ak5 with _|_<;>
   ·by_cases a:(x.ty g).1.ak5=1
    ·exact a
    ·exact absurd ⟨h,a⟩ d
  obtain⟨b,i⟩:=qE _ x (gY _) c g hg _ (zR h);rw[(wz i).1 f] at b;exact b
def Se{g:List Ty}{x:Tm}(h:ef g x .nat)(hg:iT g)(a:g.length+x.ak7<=1000000):qJ x g 1=0:=by
 unfold qJ;rw[nb h hg a];exact dK (λh=>h.2 rfl)
def rG(f:Fm)(t:f.ok=true):∀g,iT g->f.x9 g=0->iQ g f:=by
 refine Fm.qS (p:=λf=>∀g,iT g->f.x9 g=0->iQ g f) ?_ ?_ ?_ f t
 ·intro a b l r g hg h;rw[Fm.zu] at h
  by_cases c:qJ a g 1=0
  ·by_cases i:qJ b g 1=0
   ·exact .eq (OX l hg c) (OX r hg i)
   ·simp[fy,c,i] at h
  ·simp[fy,c] at h
 ·intro k a b j l r d n g hg h
  have o:j4 k=false:=by rcases j with rfl|rfl<;>rfl
  rw[Fm.zu,o] at h;simp only[ry,fy,oe,if_true,oz,iU] at h
  by_cases c:a.x9 g=0
  ·rw[dR c] at h
   by_cases i:b.x9 g=0
   ·exact .two j (d g hg c) (n g hg i)
   ·rw[dK i] at h;exact absurd h i
  ·rw[dK c] at h;exact absurd h c
 ·intro k s a j hs l d g hg h
  have o:j4 k=true:=by rcases j with rfl|rfl|rfl|rfl<;>rfl
  rw[Fm.zu,o] at h;simp only[ry,fy,oe,if_true] at h
  by_cases c:a.x9 (g++[s])=0
  ·exact .q j hs (d _ (hg.app hs) c)
  ·rw[dK c] at h;exact absurd h c
def k4{g:List Ty}{f:Fm}(h:iQ g f):iT g->g.length+f.ak7<=1000000->f.x9 g=0:=by
 induction h with
 |eq n o=>
  intro hg c;rw[Fm.dP] at c;simp only[ei] at c;rw[Fm.zu];simp[fy,Se n hg VW,Se o hg VW]
 |two d _ _ i j=>
  intro hg c;rw[Fm.dP] at c;simp only[ei] at c;rename_i k a b _ _
  have l:j4 k=false:=by rcases d with rfl|rfl<;>rfl
  rw[Fm.zu,l];simp[fy,i hg VW,j hg VW]
 |q d hs _ ih=>
  intro hg c;rw[Fm.dP] at c;simp only[ei] at c;rename_i k s a _
  have l:j4 k=true:=by rcases d with rfl|rfl|rfl|rfl<;>rfl
  rw[Fm.zu,l];simp[fy,ih (hg.app hs) acx]
def iQ.up{g:List Ty}{f:Fm}(h:iQ g f):∀g1 g2 e:List Ty,g=g1++g2->iQ (g1++e++g2) (f.up g2.length e.length):=by
 induction h with
 |eq l n=>
  intro g1 g2 e hg;rw[Fm.fJ];exact .eq (l.up g1 g2 e hg) (n.up g1 g2 e hg)
 |two c _ _ d i=>
  intro g1 g2 e hg;rename_i k a b _ _
  have j:qB k=0:=by rcases c with rfl|rfl<;>rfl
  rw[Fm.fJ,j,uQ];exact .two c (d g1 g2 e hg) (i g1 g2 e hg)
 |q c hs _ ih=>
  intro g1 g2 e hg;rename_i k s a _
  have j:qB k=1:=by rcases c with rfl|rfl|rfl|rfl<;>rfl
  subst hg;have:=ih g1 (g2++[s]) e (by rw[th]);rw[Fm.fJ,j];rw[ni,<-th] at this;exact .q c hs this
def iQ.lift{g:List Ty}{f:Fm}(h:iQ g f)(e:List Ty):iQ (g++e) (f.up 0 e.length):=by
 have:=h.up g [] e aa2;simpa using this
def iQ.gJ{g:List Ty}{f:Fm}(h:iQ g f):∀(g1:List Ty) (s:Ty) (g2:List Ty) (a:Tm),g=g1++[s]++g2->ef g1 a s->iQ (g1++g2) (Fm.gJ g2.length f a):=by
 induction h with
 |eq l n=>
  intro g1 s g2 a hg b;rw[Fm.fO];exact .eq (l.gJ g1 s g2 a hg b) (n.gJ g1 s g2 a hg b)
 |two c _ _ d i=>
  intro g1 s g2 a hg b;rename_i k x y _ _
  have j:qB k=0:=by rcases c with rfl|rfl<;>rfl
  rw[Fm.fO,j,uQ];exact .two c (d g1 s g2 a hg b) (i g1 s g2 a hg b)
 |q c hs _ ih=>
  intro g1 s g2 a hg b;rename_i k o x _
  have j:qB k=1:=by rcases c with rfl|rfl|rfl|rfl<;>rfl
  subst hg;have:=ih g1 s (g2++[o]) a aa2 b;rw[Fm.fO,j];rw[ni,<-th] at this;exact .q c hs this
theorem iQ.put{g:List Ty}{s:Ty}{f:Fm}(h:iQ (g++[s]) f){a:Tm}(b:ef g a s):iQ g (Fm.gJ 0 f a):=by
 have:=h.gJ g s [] a aa2 b;simpa using this
def ef.front{g:List Ty}{x:Tm}{t:Ty}(h:ef g x t)(e:List Ty):ef (e++g) x t:=by
 induction h with
 |@var g t i c f=>
  refine .var i acx ?_;rw[tE acx,<-f]
  congr 1
  simp;omega
 |lam c _ ih=>exact .lam c (by rw[th];exact ih)|app _ _ a b=>exact .app a b|zero=>exact .zero|succ _ ih=>exact .succ ih|rZ c _ _ _ a b d=>exact .rZ c a b d|nil=>exact .nil|cons _ _ a b=>exact .cons a b|fold c _ _ _ a b d=>exact .fold c a b d|pair c _ _ a b=>exact .pair c a b|fst _ ih=>exact .fst ih|snd _ ih=>exact .snd ih|unit=>exact .unit
def iQ.front{g:List Ty}{f:Fm}(h:iQ g f)(e:List Ty):iQ (e++g) f:=by
 induction h with
 |eq d i=>exact .eq (d.front e) (i.front e)|two a _ _ b c=>exact .two a b c|q a hs _ ih=>exact .q a hs (by rw[th];exact ih)
structure Hg (g:List Ty) (f:Fm):Prop where
 err:f.err=0
 ty:iQ g f
def Hg.ak7{g:List Ty}{f:Fm}(h:Hg g f):f.ak7<=4096:=(Fm.ia h.err).2
def Hg.ok{g:List Ty}{f:Fm}(h:Hg g f):f.ok=true:=(Fm.ia h.err).1
def Hg.ak'{g:List Ty}{f:Fm}(h:Hg g f)(hg:g.length<=16){m:Int}(hm:5000<=m):f.ak' m=true:=h.ty.ak' m (by have:=h.ak7;omega)
def Hg.up{g:List Ty}{f:Fm}(h:Hg g f)(l:List Ty):Hg (g++l) (f.up 0 l.length):=by
 have hn:=Fm.pj f 0 l.length;obtain⟨a,b⟩:=Fm.ia h.err;refine⟨?_,h.ty.lift l⟩;unfold Fm.err;rw[Fm.Pt f 0 l.length VW VW,a,dR rfl,hn,dK VW]
structure PG (L:List Fm) (c:dS):Prop where
 pl:PlR c
 mm:c.lemmas=L
 afu:∀f∈L,Hg [] f
 ala:∀f∈c.ala,Hg c.ak9 f
def PG.Vy{L:List Fm}{c:dS}(h:PG L c){l:List Ty}(k:iT l)(hn:c.ak9.length+l.length<=16):∃a,fp c l=some a/\PG L a/\a.ak9=c.ak9++l/\a.ala=c.ala.map (Fm.up 0 l.length):=by
 obtain⟨a,n,o,q,i,j⟩:=h.pl.below k hn (λf b=>⟨(h.ala f b).err,(h.ala f b).ak' h.pl.nv VW⟩);refine⟨a,n,⟨o,q.trans h.mm,h.afu,λf b=>?_⟩,i,j⟩;rw[j] at b;obtain⟨f0,d,rfl⟩:=qp.1 b;rw[i];exact(h.ala f0 d).up l
def PG.below{L:List Fm}{c:dS}(h:PG L c){s:Ty}(hs:s.err=0)(hn:c.ak9.length+1<=16):∃a,fp c [s]=some a/\PG L a/\a.ak9=c.ak9++[s]/\a.ala=c.ala.map (Fm.up 0 1):=
 h.Vy (l:=[s]) (λx b=>by rw[DB.1 b];exact hs) hn
def PG.with{L:List Fm}{c:dS}(h:PG L c){f:Fm}(i:Hg c.ak9 f)(hn:c.ala.length+1<=16):∃a,gl c f=some a/\PG L a/\a.ak9=c.ak9/\a.ala=c.ala++[f]:=by
 obtain⟨a,j,k,l,b,d⟩:=h.pl.with (f:=f) hn;refine⟨a,j,⟨k,l.trans h.mm,h.afu,λx hx=>?_⟩,b,d⟩;rw[d] at hx;rw[b];rcases sU.1 hx with hx|hx
 ·exact h.ala x hx
 ·rw[DB.1 hx];exact i
def PG.room{L:List Fm}{c:dS}(h:PG L c){v k:Nat}(b:v<=100)(d:k<=100):(eD c v k=some 0/\c.ak9.length+v<=16/\c.ala.length+k<=16)\/(eD c v k=some 3/\(16<c.ak9.length+v\/16<c.ala.length+k)):=by
 unfold eD;have f:=h.pl.nv;have i:=h.pl.nh;rw[fM,fM,fX VW VW,fX VW VW,lU]
 by_cases a:(oQ ((c.ak9.length:Int)+v) 16||oQ ((c.ala.length:Int)+k) 16)=true
 ·rw[dR a];simp only[tR,iD] at a;exact .inr ⟨rfl,VW⟩
 ·rw[dK a];simp only[tR,iD,not_or] at a;exact .inl ⟨rfl,VW,VW⟩
def Hk.len{N:Int}:∀{l:List Int} {lo:Int},Hk l->(∀x∈l,lo<=x/\x<N)->(l.length:Int)<=max 0 (N-lo)
 |[],lo,_,_=>by simp;omega|a::l,lo,.cons c d,h=>by
  have f:=h a aa2;have ih:=Hk.len (lo:=a+1) d (λx b=>⟨by have:=c x b;omega,(h x (by simp[b])).2⟩);simp only[mz];omega
def Us.len{l:List Int}{m:Nat}(h:Us l m):l.length<=32:=by
 have:=Hk.len (N:=32) (lo:=0) h.srt (λx a=>⟨h.pos x a,h.bound x a⟩);omega
def ef.Qj{g:List Ty}{x:Tm}{t:Ty}(h:ef g x t):∀j:Int,(g.length:Int)<=j->x.alb j=0:=by
 induction h with
 |@var g t i k l=>
  intro j a;rw[Tm.fF,dK (λh=>by have:=h.2;omega)];rfl
 |@lam g s b t k _ ih=>
  intro j a;rw[Tm.fF,dK (λh=>by cases h.1)];simp only[ei];rw[ih (j+fE 2) (by show _<=j+1;simp;omega)]
 |app _ _ c d=>intro j a;rw[Tm.fF,dK (λh=>by cases h.1)];simp only[ei,show fE 3=0 from rfl,uQ,c j a,d j a]
 |zero=>intro j a;rw[Tm.fF,dK (λh=>by cases h.1)];rfl
 |succ _ ih=>intro j a;rw[Tm.fF,dK (λh=>by cases h.1)];simp only[ei,show fE 5=0 from rfl,uQ,ih j a]
 |rZ k _ _ _ c d f=>intro j a;rw[Tm.fF,dK (λh=>by cases h.1)];simp only[ei,show fE 6=0 from rfl,uQ,c j a,d j a,f j a]
 |nil=>intro j a;rw[Tm.fF,dK (λh=>by cases h.1)];rfl
 |cons _ _ c d=>intro j a;rw[Tm.fF,dK (λh=>by cases h.1)];simp only[ei,show fE 8=0 from rfl,uQ,c j a,d j a]
 |fold k _ _ _ c d f=>intro j a;rw[Tm.fF,dK (λh=>by cases h.1)];simp only[ei,show fE 9=0 from rfl,uQ,c j a,d j a,f j a]
 |pair k _ _ c d=>intro j a;rw[Tm.fF,dK (λh=>by cases h.1)];simp only[ei,show fE 10=0 from rfl,uQ,c j a,d j a]
 |fst _ ih=>intro j a;rw[Tm.fF,dK (λh=>by cases h.1)];simp only[ei,show fE 11=0 from rfl,uQ,ih j a]
 |snd _ ih=>intro j a;rw[Tm.fF,dK (λh=>by cases h.1)];simp only[ei,show fE 12=0 from rfl,uQ,ih j a]
 |unit=>intro j a;rw[Tm.fF,dK (λh=>by cases h.1)];rfl
def iH:Fm:=.mk 0 (.mk 0 []) [] []
def Rw(r:Option (Fm×List Int×Int)):Option (sW×Int):=
 eZ r λb i h=>
 if(eP h 0) then(
 some ((sW.mk (Fm.mk 0 (Ty.mk 0 []) [] []) []),h))
 else(dH (jV b) λc=>
 if(eP c 0) then(
 some ((sW.mk (Fm.mk 0 (Ty.mk 0 []) [] []) []),4))
 else(ej (λ(d:List Int)=>
 some ((sW.mk b d),0)) λa=>
 dU (nc b) λf j=>
 if f then(
 a i)
 else(a [])))
def Fa{α:Type}{F:Int->α->Unit->Option (gm Unit Bool)}(w:α->Nat):∀(l:List α) (i:Nat),(∀j x,x∈l->F j x ()=if 0<w x then some (.ret true)else some (.next ()))->fk F l i ()=some (if 0<ei w l then .inr true else .inl ())
 |[],i,_=>rfl|x::l,i,h=>by
  have ih:=Fa w l (i+1) (λj y c=>h j y (by simp[c]));rw[gf,h i x aa2]
  by_cases a:0<w x
  ·rw[dR a,dR (show 0<ei w (x::l) by simp only[ei];omega)];rfl
  ·rw[dK a];show fk F l (i+1) ()=_;rw[ih]
   by_cases b:0<ei w l
   ·rw[dR b,dR (show 0<ei w (x::l) by simp only[ei];omega)]
   ·rw[dK b,dK (show¬0<ei w (x::l) by simp only[ei];omega)]
def LY:∀(n:Nat) (t:Tm) (a:Int),t.ak7<=n->t.ak7<=1000000000->0<=a->a+t.ak7<=10000000000->vS n t a=some (decide (0<t.alb a)):=by
 intro n
 induction n with
 |zero=>intro t a h;have:=t.eM;omega
 |succ n ih=>
  intro t a h d r f;cases t with
  |mk k i s l=>
   rw[Tm.dP] at h d f;have u:=Tm.fV l;have v:=jl k;rw[vS,Tm.fF];simp only[Tm.eH,Tm.iC,Tm.eL,eg,vz,hD,fZ]
   by_cases c:k=1/\i=a
   ·rw[dR c,dR c]
    congr 1
    exact(z_ VW).symm
   ·rw[dK c,dK c,et VW,ec,Fa (Tm.alb (a+fE k)) l 0 (λj x o=>by
     have q:=eG Tm.ak7 o;rw[nS,dI,Tm.eL,fX VW VW,ih x (a+fE k) VW VW VW VW,dI]
     by_cases b:0<x.alb (a+fE k)
     ·rw[dR b,dR (z_ b)]
     ·rw[dK b,dK (by simpa using b)]),dI,Aa]
    by_cases b:0<ei (Tm.alb (a+fE k)) l
    ·rw[dR b,sA,z_ b]
    ·rw[dK b,eB,Ni b]
def EH:∀(n:Nat) (t:Fm) (a:Int),t.ak7<=n->t.ak7<=1000000000->0<=a->a+t.ak7<=10000000000->p6 n t a=some (decide (0<t.alb a)):=by
 intro n
 induction n with
 |zero=>intro t a h;have:=t.eM;omega
 |succ n ih=>
  intro t a h c r d;cases t with
  |mk k s ts l=>
   rw[Fm.dP] at h c d;have u:=Fm.fV l;have q:=Tm.fV ts;have v:=x0 k;rw[p6,Fm.fF];simp only[Fm.eH,Fm.jB,eg]
   rw[et VW,ec,Fa (Tm.alb a) ts 0 (λj x f=>by
    have i:=eG Tm.ak7 f;rw[LY FU x a (by rw[fB];omega) VW VW VW,dI]
    by_cases b:0<x.alb a
    ·rw[dR b,dR (z_ b)]
    ·rw[dK b,dK (by simpa using b)]),dI]
   by_cases o:0<ei (Tm.alb a) ts
   ·rw[dR o,sA,z_ VW]
   ·rw[dK o,eB,et VW,ec,Fa (Fm.alb (a+qB k)) l 0 (λj x f=>by
     have i:=eG Fm.ak7 f;rw[pb,dI,Fm.eL,fX VW VW,ih x (a+qB k) VW VW VW VW,dI]
     by_cases b:0<x.alb (a+qB k)
     ·rw[dR b,dR (z_ b)]
     ·rw[dK b,dK (by simpa using b)]),dI]
    by_cases b:0<ei (Fm.alb (a+qB k)) l
    ·rw[dR b,sA,z_ VW]
    ·rw[dK b,eB,Ni VW]
def Tm.Ju(s:Tm):∀(t:Tm) (n:Int),t.ok=true->t.alb n=0->Tm.gJ n t s=t.up (n+1) (-1):=by
 intro t
 induction t using Tm.ind with
 |h k i ty l ih=>
  intro n d f;have hi:=Tm.tB d;rw[Tm.fF] at f;rw[Tm.fO,Tm.fJ]
  by_cases a:k=1
  ·subst a;obtain⟨rfl,rfl⟩:=Tm.adm d
   have b:i≠n:=λh=>by rw[dR ⟨rfl,h⟩] at f;omega
   rw[dR rfl];unfold Tm.nj;rw[dK b]
   by_cases j:n<i
   ·rw[dR j,dR ⟨rfl,VW⟩];rfl
   ·rw[dK j,dK (λh=>by omega)];rfl
  ·rw[dK a,dK (λh=>a h.1)]
   congr 1
   refine tQ λx c=>?_;have:=eG (Tm.alb (n+fE k)) c;rw[ih x c (n+fE k) (hi.2.2.2.1 x c) VW,show n+fE k+1=n+1+fE k by omega]
def Fm.Ju(s:Tm):∀(t:Fm) (n:Int),t.ok=true->t.alb n=0->Fm.gJ n t s=t.up (n+1) (-1):=by
 intro t
 induction t using Fm.ind with
 |h k ty ts l ih=>
  intro n b c;obtain⟨_,d,f⟩:=Fm.wY b;rw[Fm.fF] at c;rw[Fm.fO,Fm.fJ]
  congr 1
  ·refine tQ λx a=>?_;have:=eG (Tm.alb n) a;exact Tm.Ju s x n (d x a) VW
  ·refine tQ λx a=>?_;have:=eG (Fm.alb (n+qB k)) a;rw[ih x a (n+qB k) (f x a) VW,show n+qB k+1=n+1+qB k by omega]
def MZ:∀(n:Nat) (t:Tm) (f:Int),t.ak7<=n->t.ak7<=1000000000->0<=f->f+t.ak7<=10000000000->t.ak' 1000000000000=true->r_ n t f (-1)=some (t.up f (-1)):=by
 intro n
 induction n with
 |zero=>intro t f h;have:=t.eM;omega
 |succ n ih=>
  intro t f h a w b hi;cases t with
  |mk k i s l=>
   rw[Tm.dP] at h a b;rw[Tm.fH] at hi;simp only[hD,oy,k_] at hi;have y:=Tm.fV l;have A:=jl k;rw[r_];simp only[Tm.eH,Tm.iC,Tm.eL,Tm.fK,eg,et (l:=l) VW,ec];rw[kq (Tm.up (f+fE k) (-1)) l 0 [] acx]
   ·rw[Tm.fJ];simp only[dI,eB,nT,B9,Tm.mk.injEq,Pc,AK]
    by_cases c:k=1/\f<=i
    ·obtain⟨rfl,d⟩:=c;rw[fX VW VW];have q:eo 1 1=true:=rfl
     have r:pd i f=true:=by simp[d]
     simp[q,r,d]
    ·rw[dK c]
     have e:fv (eo k 1) (pd i f) false=false:=by
      rw[vz,Wk];simp only[ne_eq,hD,fZ,jk];exact c
     rw[e];rfl
   ·intro j x v o u;have:=eG Tm.ak7 o;rw[nS];simp only[dI,Tm.eL];rw[fX VW VW,ih x (f+fE k) VW VW VW VW (hi.2 x o)];simp[fg (l:=v) (m:=[x.up (f+fE k) (-1)]) (by simpa using u)]
def D8:∀(n:Nat) (t:Fm) (f:Int),t.ak7<=n->t.ak7<=1000000000->0<=f->f+t.ak7<=10000000000->t.ak' 1000000000000=true->iw n t f (-1)=some (t.up f (-1)):=by
 intro n
 induction n with
 |zero=>intro t f h;have:=t.eM;omega
 |succ n ih=>
  intro t f h b i c hi;cases t with
  |mk k s ts l=>
   rw[Fm.dP] at h b c;rw[Fm.fH] at hi;simp only[hD,k_] at hi;have q:=Fm.fV l;have o:=Tm.fV ts;have r:=x0 k;rw[iw];simp only[Fm.eH,Fm.jB,Fm.eL,Fm.fK,eg,et (l:=l) VW,et (l:=ts) VW,ec];rw[kq (Tm.up f (-1)) ts 0 [] acx]
   ·simp only[dI,eB];rw[kq (Fm.up (f+qB k) (-1)) l 0 [] acx]
    ·simp[Fm.fJ]
    ·intro j x v a d;have:=eG Fm.ak7 a;rw[pb];simp only[dI,Fm.eL];rw[fX VW VW,ih x (f+qB k) VW VW VW VW (hi.2 x a)];simp[fg (l:=v) (m:=[x.up (f+qB k) (-1)]) (by simpa using d)]
   ·intro j x v a d;have:=eG Tm.ak7 a;rw[MZ FU x f (by rw[fB];omega) VW i VW (hi.1 x a)];simp[fg (l:=v) (m:=[x.up f (-1)]) (by simpa using d)]
noncomputable def DP (x:Tm) (e:Int):Tm×Int:=if e=0 then((x.norm 1000 0).1,(x.norm 1000 0).2.2)else(x,e)
def rz{α:Type}(f:α->Int->α×Int):List α->Int->List α×Int
 |[],e=>([],e)|x::l,e=>((f x e).1::(rz f l (f x e).2).1,(rz f l (f x e).2).2)
mutual
noncomputable def Fm.tq:Fm->Int->Fm×Int
 |.mk k s ts l,e=>(.mk k s (rz DP ts e).1 (Fm.QM l (rz DP ts e).2).1,(Fm.QM l (rz DP ts e).2).2)
noncomputable def Fm.QM:List Fm->Int->List Fm×Int
 |[],e=>([],e)|f::l,e=>((f.tq e).1::(Fm.QM l (f.tq e).2).1,(Fm.QM l (f.tq e).2).2)
end
def Fm.SC:∀(l:List Fm) (e:Int),Fm.QM l e=rz Fm.tq l e
 |[],e=>by rw[Fm.QM,rz]|f::l,e=>by rw[Fm.QM,rz,Fm.SC l]
def Fm.FP(k:Int)(s:Ty)(ts:List Tm)(l:List Fm)(e:Int):(Fm.mk k s ts l).tq e=(.mk k s (rz DP ts e).1 (rz Fm.tq l (rz DP ts e).2).1,(rz Fm.tq l (rz DP ts e).2).2):=by rw[Fm.tq,Fm.SC]
def vO{α:Type}{f:α->Int->α×Int}:∀(l:List α) (e:Int),(∀x∈l,∀e,e≠0->(f x e).2=e)->e≠0->(rz f l e).2=e
 |[],e,_,_=>rfl|x::l,e,h,he=>by
  have a:=h x aa2 e he;simp only[rz];rw[a];exact vO l e (λy b=>h y (by simp[b])) he
def AY{x:Tm}{e:Int}(he:e≠0):(DP x e).2=e:=by unfold DP;rw[dK he]
def Fm.JO(f:Fm):∀e:Int,e≠0->(f.tq e).2=e:=by
 induction f using Fm.ind with
 |h k s ts l ih=>
  intro e he;rw[Fm.FP];have a:=vO (f:=DP) ts e (λx _ e he=>AY he) he;simp only[];rw[a];exact vO l e ih he
structure Nm (x:Tm):Prop where
 err:x.err=0
 ak':x.ak' 536870912=true
def Nm.one{x:Tm}(h:Nm x):k0 x 1000=some (x.norm 1000 0):=by
 obtain⟨a,hn⟩:=iR h.err;have hw:=x.jr a;have b:=zX (t:=x) VW 1000
 rwa [dR h.err,dR ⟨VW,VW,h.ak'⟩] at b
inductive Vj:Fm->Prop
 |mk {k s ts l}:(∀x∈ts,Nm x)->(∀f∈l,Vj f)->Vj (.mk k s ts l)
def Vj.of(f:Fm):f.ak7<=4096->f.ok=true->f.ak' 536870912=true->Vj f:=by
 induction f using Fm.ind with
 |h k s ts l ih=>
  intro hn d b;obtain⟨_,i,j⟩:=Fm.wY d;rw[Fm.dP] at hn;rw[Fm.fH,hD,k_,k_] at b;refine .mk (λx c=>⟨?_,b.1 x c⟩) (λf a=>?_)
  ·have:=eG Tm.ak7 c;unfold Tm.err;rw[dR (i x c),dK VW]
  ·have:=eG Fm.ak7 a;exact ih f a VW (j f a) (b.2 f a)
def Hp:∀(n:Nat) (f:Fm),f.ak7<=n->f.ak7<=1000000->Vj f->mO n f=some (if(f.tq 0).2=0 then((f.tq 0).1,0)else(iH,(f.tq 0).2)):=by
 intro n
 induction n with
 |zero=>intro f h;have:=f.eM;omega
 |succ n ih=>
  intro f hn L hm;cases f with
  |mk k s ts l=>
   cases hm with
   |mk M N=>
    rw[Fm.dP] at hn L;have O:=jh Tm.ak7 ts λt _=>t.eM;have P:=jh Fm.ak7 l λt _=>t.eM;rw[mO,Fm.FP];simp only[Fm.fK,Fm.eH,Fm.eL,Fm.jB,eg];rw[et VW,ec]
    have r:∀(us:List Tm) (j:Nat) (v:List Tm),(∀t∈us,Nm t)->v.length+us.length<=1000000000->fk (λ(Q:Int) (F:Tm)=>(λ(B:List Tm)=>
       eZ (k0 F 1000) λc I d=>
       if(eP d 0) then(
       some (.ret ((Fm.mk 0 (Ty.mk 0 []) [] []),d)))
       else(gB (fI B [c])<|some ((.next (fR B [c])):gm (List Tm) (Fm×Int))))) us j v=some (if(rz DP us 0).2=0 then .inl (v++(rz DP us 0).1)else .inr (iH,(rz DP us 0).2)):=by
     intro us
     induction us with
     |nil=>intro j v _ _;simp[rz]|cons t us w=>
      intro j v hm G;simp only[mz] at G;rw[gf,(hm t aa2).one]
      have H:DP t 0=((t.norm 1000 0).1,(t.norm 1000 0).2.2):=by unfold DP;rw[dR rfl]
      obtain⟨y,m,a,C⟩:∃y m a,t.norm 1000 0=(y,m,a):=⟨_,_,_,rfl⟩;rw[C] at H|-;rw[gz]
      by_cases he:a=0
      ·subst he;rw[dK aak,fg acx,ec];simp only[dI,fh];rw[ij,w (j+1) (v++[y]) (λu hu=>hm u (by simp[hu])) acx];simp only[rz,H];simp
      ·rw[dR (by rw[ez];exact he)];simp only[rz,H];rw[vO (f:=DP) us a (λx _ e he=>AY he) he,dK he];rfl
    have A:∀(us:List Fm) (j:Nat) (v:List Fm),(∀t∈us,Vj t/\t.ak7<=n/\t.ak7<=1000000)->v.length+us.length<=1000000000->fk (λ(J:Int) (D:Fm)=>(λ(i:List Fm)=>
       dU (mO n D) λo q=>
       if(eP q 0) then(
       some (.ret ((Fm.mk 0 (Ty.mk 0 []) [] []),q)))
       else(gB (fI i [o])<|some ((.next (fR i [o])):gm (List Fm) (Fm×Int))))) us j v=some (if(rz Fm.tq us 0).2=0 then .inl (v++(rz Fm.tq us 0).1)else .inr (iH,(rz Fm.tq us 0).2)):=by
     intro us
     induction us with
     |nil=>intro j v _ _;simp[rz]|cons t us w=>
      intro j v hm G;simp only[mz] at G;obtain⟨a1,a2,a3⟩:=hm t aa2;rw[gf,ih t a2 a3 a1];obtain⟨y,a,C⟩:∃y a,t.tq 0=(y,a):=⟨_,_,rfl⟩;rw[C]
      by_cases he:a=0
      ·subst he;simp only[if_true];rw[dQ,dK aak,fg acx,ec];simp only[dI,fh];rw[ij,w (j+1) (v++[y]) (λu hu=>hm u (by simp[hu])) acx];simp only[rz,C];simp
      ·simp only[dK he];rw[dQ,dR (by rw[ez];exact he)];simp only[rz,C];rw[vO (f:=Fm.tq) us a (λx _ e he=>Fm.JO x e he) he,dK he];rfl
    rw[r ts 0 [] M acx,dI]
    by_cases he:(rz DP ts 0).2=0
    ·rw[dR he,eB,et VW,ec,A l 0 [] (λt K=>by
      have:=eG Fm.ak7 K
      exact⟨N t K,VW,VW⟩) acx,dI,he]
     by_cases b:(rz Fm.tq l 0).2=0
     ·rw[dR b,dR b,eB,nT,nT]
     ·rw[dK b,dK b,sA]
    ·rw[dK he,sA,vO (f:=Fm.tq) l _ (λx _ e he=>Fm.JO x e he) he,dK he]
def Ty.ahm:∀(n:Nat) (s:Ty),s.ak7<=n->s.err=0->∃a,ef [] a s:=by
 intro n
 induction n with
 |zero=>intro s h;have:=s.eM;omega
 |succ n ih=>
  intro s hn he;rcases Ty.pJ he with rfl|rfl|rfl|⟨a,b,rfl,f,c⟩|⟨a,b,rfl,f,c⟩
  ·exact⟨_,.zero⟩
  ·exact⟨_,.nil⟩
  ·exact⟨_,.unit⟩
  ·rw[Ty.oH] at hn;obtain⟨x,i⟩:=ih a VW f;obtain⟨y,d⟩:=ih b VW c;exact⟨_,.pair he i d⟩
  ·rw[Ty.iz] at hn;obtain⟨y,d⟩:=ih b VW c;exact⟨_,.lam he (by have:=d.front [a];simpa using this)⟩
def iQ.down{g:List Ty}{s:Ty}{f:Fm}(h:iQ (g++[s]) f)(hs:s.err=0)(c:f.alb 0=0):iQ g (f.up 1 (-1)):=by
 obtain⟨a,d⟩:=Ty.ahm _ s (gY _) hs
 have b:ef g a s:=by simpa using d.front g
 have:=h.put b
 rwa [Fm.Ju a f 0 h.ok c] at this
def ef.nm{g:List Ty}{x:Tm}{t:Ty}(h:ef g x t)(hg:g.length<=1000000)(a:x.ak7<=4096):Nm x:=by
 refine⟨?_,h.ak' _ VW⟩;unfold Tm.err;rw[dR h.ok,dK VW]
def Wp{g:List Ty}{x:Tm}{t:Ty}(h:ef g x t)(hg:g.length<=1000000)(b:x.ak7<=4096){e:Int}(he:(DP x e).2=0):e=0/\ef g (DP x e).1 t/\(DP x e).1.ak7<=4096:=by
 by_cases c:e=0
 ·subst c;unfold DP at he|-;simp only[if_true] at he|-;obtain⟨a,n,f,d⟩:∃a n f,x.norm 1000 0=(a,n,f):=⟨_,_,_,rfl⟩;rw[d] at he|-;simp only[] at he|-;subst he;exact⟨trivial,ef.norm _ _ _ _ _ h d,(H3 1000 536870912 0 x a n VW (Sm.start (h.nm hg b).err (h.nm hg b).ak') b d).2⟩
 ·rw[AY c] at he;exact absurd he c
def RI(a b:Tm)(e:Int):(Fm.mk 1 .z [a,b] []).tq e=(.mk 1 .z [(DP a e).1,(DP b (DP a e).2).1] [],(DP b (DP a e).2).2):=by rw[Fm.FP];rfl
def SB(k:Int)(a b:Fm)(e:Int):(Fm.mk k .z [] [a,b]).tq e=(.mk k .z [] [(a.tq e).1,(b.tq (a.tq e).2).1],(b.tq (a.tq e).2).2):=by rw[Fm.FP];rfl
def abD(k:Int)(s:Ty)(a:Fm)(e:Int):(Fm.mk k s [] [a]).tq e=(.mk k s [] [(a.tq e).1],(a.tq e).2):=by rw[Fm.FP];rfl
def XK{g:List Ty}{f:Fm}(h:iQ g f):∀(e:Int),g.length+f.ak7<=1000000->f.ak7<=4096->(f.tq e).2=0->e=0/\iQ g (f.tq e).1/\(f.tq e).1.ak7<=3000*f.ak7:=by
 induction h with
 |@eq g a b c o=>
  intro e hg hn he;rw[RI] at he|-;rw[Fm.dP] at hn hg|-;simp only[ei] at hn hg|-;obtain⟨d,i,r⟩:=Wp o VW VW he;obtain⟨a1,a2,a3⟩:=Wp c VW VW d;refine⟨a1,.eq a2 i,?_⟩;rw[Fm.dP];simp only[ei];have:=a.eM;have:=b.eM;omega
 |@two g k a b j c o l n=>
  intro e hg hn he;rw[SB] at he|-;rw[Fm.dP] at hn hg|-;simp only[ei] at hn hg|-;obtain⟨d,i,r⟩:=n _ VW VW he;obtain⟨a1,a2,a3⟩:=l _ VW VW d;refine⟨a1,.two j a2 i,?_⟩;rw[Fm.dP];simp only[ei];omega
 |@q g k s a j hs c ih=>
  intro e hg hn he;rw[abD] at he|-;rw[Fm.dP] at hn hg|-;simp only[ei] at hn hg|-;obtain⟨a1,a2,a3⟩:=ih _ acx VW he;refine⟨a1,.q j hs a2,?_⟩;rw[Fm.dP];simp only[ei];omega
noncomputable def w4 (f:Fm):Fm×Int:=if f.alb 0=0 then(f.up 1 (-1),0)else if(f.tq 0).2≠0 then(iH,(f.tq 0).2)else if(f.tq 0).1.alb 0≠0 then(iH,6)else((f.tq 0).1.up 1 (-1),0)
def I1{g:List Ty}{s:Ty}{f:Fm}(h:Hg (g++[s]) f)(hg:g.length<=1000)(hs:s.err=0)(a:(w4 f).2=0):iQ g (w4 f).1/\(w4 f).1.ak7<=3000*4096:=by
 have hn:=h.ak7;unfold w4 at a|-
 split
 ·rename_i c;refine⟨h.ty.down hs c,?_⟩;show(f.up 1 (-1)).ak7<=_;rw[Fm.pj];omega
 ·rename_i c;rw[dK c] at a
  split
  ·rename_i b;rw[dR b] at a;exact absurd a b
  ·rename_i b;rw[dK b] at a
   split
   ·rename_i d;rw[dR d] at a;cases a
   ·rename_i d;obtain⟨_,a2,a3⟩:=XK h.ty 0 acx hn (w5.1 b);refine⟨a2.down hs VW,?_⟩;show((f.tq 0).1.up 1 (-1)).ak7<=_;rw[Fm.pj];omega
abbrev PR:=(Fm×Nat)⊕Int
def pbind(r:PR)(k:Fm->Nat->PR):PR:=match r with|.inl p=>k p.1 p.2|.inr e=>.inr e
def vP(c:Prop)[Decidable c](e:Int)(r:PR):PR:=if c then .inr e else r
theorem j2{c:Prop}[Decidable c]{e:Int}{r:PR}(h:c):vP c e r=.inr e:=dR h
theorem g_{c:Prop}[Decidable c]{e:Int}{r:PR}(h:¬c):vP c e r=r:=dK h
def jC(e:Int)(r:PR):PR:=if e=0 then r else .inr e
@[simp] theorem fo(f:Fm)(m:Nat)(k:Fm->Nat->PR):pbind (.inl (f,m)) k=k f m:=rfl
theorem fP{e:Int}{r:PR}(h:e=0):jC e r=r:=dR h
theorem jf{e:Int}{r:PR}(h:e≠0):jC e r=.inr e:=dK h
noncomputable def se (r:PR):PR:=pbind r λf m=>if f.err=0 then .inl (f,if f.has then m else 0)else .inr 4
def FZ(r:PR)(k:Int):PR:=pbind r λf m=>if f.ak5=k then .inl (f,m)else .inr 10
noncomputable def Ai (a b:Fm):Int:=(lk a b).getD 0
noncomputable def B1 (r:PR) (F:Fm) (t:Tm):PR:=pbind r λf m=>jC (kA F t).2 (jC (Ai (kA F t).1 f) (.inl (f,m)))
def LQ(t:Tm):Nat->Nat
 |0=>0|j+1=>if 0<t.alb j then LQ t j|||2^j else LQ t j
def s0(t:Tm):Nat:=LQ t 32
def KY(t:Tm):∀(n i:Nat),(LQ t n).testBit i=true↔i<n/\0<t.alb i
 |0,i=>by simp[LQ]|n+1,i=>by
  have ih:=KY t n i;rw[LQ]
  by_cases h:0<t.alb n
  ·rw[dR h,Nat.testBit_or,tR,ih,Nat.testBit_two_pow];simp only[oy];constructor
   ·rintro(⟨a,b⟩|rfl)
    ·exact⟨VW,b⟩
    ·exact⟨VW,h⟩
   ·rintro⟨a,b⟩
    by_cases hi:n=i
    ·exact .inr hi
    ·exact .inl ⟨VW,b⟩
  ·rw[dK h,ih];constructor
   ·rintro⟨a,b⟩;exact⟨VW,b⟩
   ·rintro⟨a,b⟩;refine⟨?_,b⟩;rcases vh i n with hh|hh
    ·exact hh
    ·obtain rfl:i=n:=VW
     exact absurd b h
def KP(t:Tm)(i:Nat):(s0 t).testBit i=true↔i<32/\0<t.alb i:=KY t 32 i
def v0:Tm:=.mk 1 0 (.mk 0 []) []
def v1:Tm:=.mk 1 1 (.mk 0 []) []
noncomputable def pE (L:List Fm) (k i:Int) (s:Ty) (ts:List Tm) (fs:List Fm) (sub:Nat->List Ty->List Fm->PR) (g:List Ty) (hs:List Fm):PR:=
 let t:=ts.getD 0 Tm.z
 let F:=fs.getD 0 iH
 if k=1 then vP ((hs.length:Int)<=i) 8 (.inl (hs.getD (hs.length-1-i.toNat) iH,0))
 else if k=2 then vP ((L.length:Int)<=i) 9 (.inl (L.getD i.toNat iH,0))
 else if k=3 then pbind (sub 0 g hs) λa m=>pbind (sub 1 g hs) λb n=>.inl (.mk 2 .z [] [a,b],m|||n)
 else if k=4 then pbind (FZ (sub 0 g hs) 2) λa m=>.inl (a.ak6.getD 0 iH,m)
 else if k=5 then pbind (FZ (sub 0 g hs) 2) λa m=>.inl (a.ak6.getD 1 iH,m)
 else if k=6 then jC (F.x9 g) (vP (16<hs.length+1) 3 (pbind (sub 0 g (hs++[F])) λb m=>.inl (.mk 3 .z [] [F,b],m)))
 else if k=7 then pbind (FZ (sub 0 g hs) 3) λa m=>pbind (sub 1 g hs) λb n=>jC (Ai (a.ak6.getD 0 iH) b) (.inl (a.ak6.getD 1 iH,m|||n))
 else if k=8 then vP (16<g.length+1) 3 (pbind (sub 0 (g++[s]) (hs.map (Fm.up 0 1))) λb m=>.inl (.mk 4 s [] [b],m/2))
 else if k=12 then vP (16<g.length+1) 3 (pbind (sub 0 (g++[s]) (hs.map (Fm.up 0 1))) λb m=>vP (m.testBit 0=true) 12 (.inl (.mk 6 s [] [b],m/2)))
 else if k=9 then jC (t.ty g).2 (pbind (FZ (sub 0 g hs) 4) λa m=>vP ((t.ty g).1.jY a.dM=false) 7 (jC (kA (a.ak6.getD 0 iH) t).2 (.inl ((kA (a.ak6.getD 0 iH) t).1,m|||s0 t))))
 else if k=13 then jC (t.ty g).2 (pbind (FZ (sub 0 g hs) 6) λa m=>vP ((t.ty g).1.jY a.dM=false) 7 (jC (kA (a.ak6.getD 0 iH) t).2 (.inl ((kA (a.ak6.getD 0 iH) t).1,m))))
 else if k=10 then jC (F.x9 g) (vP (F.ak5≠5) 10 (jC (t.ty g).2 (vP ((t.ty g).1.jY F.dM=false) 7 (pbind (B1 (sub 0 g hs) (F.ak6.getD 0 iH) t) λ_ m=>.inl (F,m|||s0 t)))))
 else if k=14 then jC (F.x9 g) (vP (F.ak5≠7) 10 (jC (t.ty g).2 (vP ((t.ty g).1.jY F.dM=false) 7 (pbind (B1 (sub 0 g hs) (F.ak6.getD 0 iH) t) λ_ m=>.inl (F,m)))))
 else if k=11 then pbind (FZ (sub 0 g hs) 5) λa m=>vP (16<g.length+1\/16<hs.length+1) 3 (pbind (sub 1 (g++[a.dM]) (hs.map (Fm.up 0 1)++[a.ak6.getD 0 iH])) λb n=>jC (w4 b).2 (.inl ((w4 b).1,m|||n/2)))
 else if k=15 then pbind (FZ (sub 0 g hs) 7) λa m=>vP (16<g.length+1\/16<hs.length+1) 3 (pbind (sub 1 (g++[a.dM]) (hs.map (Fm.up 0 1)++[a.ak6.getD 0 iH])) λb n=>jC (w4 b).2 (vP (n.testBit 0=true) 12 (.inl ((w4 b).1,m|||n/2))))
 else if k=16 then jC (F.x9 (g++[.nat])) (jC (qJ t g 1) (pbind (B1 (sub 0 g hs) F rA) λ_ m=>vP (16<g.length+1\/16<hs.length+1) 3 (
  pbind (B1 (sub 1 (g++[.nat]) (hs.map (Fm.up 0 1)++[F])) (F.up 1 1) (ru v0)) λ_ n=>jC (kA F t).2 (.inl ((kA F t).1,(s0 t|||m)|||n/2)))))
 else if k=17 then jC (F.x9 (g++[.fS])) (jC (qJ t g 2) (pbind (B1 (sub 0 g hs) F (.mk 7 0 .z [])) λ_ m=>vP (16<g.length+2\/16<hs.length+1) 3 (
  pbind (B1 (sub 1 (g++[.nat]++[.fS]) (hs.map (Fm.up 0 2)++[F.up 1 1])) (F.up 1 2) (.mk 8 0 .z [v1,v0])) λ_ n=>jC (kA F t).2 (.inl ((kA F t).1,(s0 t|||m)|||n/4)))))
 else if k=18 then jC (qJ t g 1) (.inl (.mk 1 .z [t,t] [],0))
 else if k=19 then jC (F.x9 (g++[.nat])) (pbind (FZ (sub 0 g hs) 1) λa _=>pbind (B1 (sub 1 g hs) F (a.eh.getD 0 Tm.z)) λ_ n=>jC (kA F (a.eh.getD 1 Tm.z)).2 (.inl ((kA F (a.eh.getD 1 Tm.z)).1,n)))
 else pbind (FZ (sub 0 g hs) 4) λa m=>vP ((a.ak6.getD 0 iH).ak5≠5) 10 (vP ((Ty.fn a.dM (a.ak6.getD 0 iH).dM).err≠0) 4 (vP ((kA (((a.ak6.getD 0 iH).ak6.getD 0 iH).up 2 1) (gC v1 v0)).2≠0) 4 (.inl (.mk 5 (Ty.fn a.dM (a.ak6.getD 0 iH).dM) [] [.mk 4 a.dM [] [(kA (((a.ak6.getD 0 iH).ak6.getD 0 iH).up 2 1) (gC v1 v0)).1]],m))))
mutual
noncomputable def Pf.inf (L:List Fm):Pf->List Ty->List Fm->PR
 |.mk k i s ts fs l,g,hs=>se (pE L k i s ts fs (Pf.u7 L l) g hs)
noncomputable def Pf.u7 (L:List Fm):List Pf->Nat->List Ty->List Fm->PR
 |[],_,_,_=>.inr 2|p::_,0,g,hs=>p.inf L g hs|_::l,n+1,g,hs=>Pf.u7 L l n g hs
end
def IRs(g:List Ty)(s:PR)(r:Option (sW×Int)):Prop:=
 (∃e,e≠0/\s=.inr e/\r=some (⟨iH,[]⟩,e))\/∃(f:Fm) (m:Nat) (l:List Int),s=.inl (f,m)/\r=some (⟨f,l⟩,0)/\Us l m/\Hg g f
def lG(g:List Ty)(s:PR)(r:Option (Fm×List Int×Int)):Prop:=
 (∃e f l,e≠0/\s=.inr e/\r=some (f,l,e))\/∃(f:Fm) (m:Nat) (l:List Int),s=.inl (f,m)/\r=some (f,l,0)/\Us l m/\iQ g f/\f.ak7<=15000000
theorem lG.no{g:List Ty}{s:PR}{r:Option (Fm×List Int×Int)}{e:Int}{f:Fm}{l:List Int}(he:e≠0)(a:s=.inr e)(b:r=some (f,l,e)):lG g s r:=.inl ⟨e,f,l,he,a,b⟩
def lG.yes{g:List Ty}{s:PR}{r:Option (Fm×List Int×Int)}{f:Fm}{m:Nat}{l:List Int}(a:s=.inl (f,m))(b:r=some (f,l,0))(c:Us l m)(d:iQ g f)(h:f.ak7<=15000000):lG g s r:=.inr ⟨f,m,l,a,b,c,d,h⟩
def lG.infer{g:List Ty}(hg:g.length<=16){s:PR}{r:Option (Fm×List Int×Int)}(h:lG g s r):IRs g (se s) (Rw r):=by
 rcases h with⟨e,f,l,he,rfl,rfl⟩|⟨f,m,l,rfl,rfl,hu,b,hn⟩
 ·refine .inl ⟨e,he,rfl,?_⟩;unfold Rw;rw[gz,dR (by rw[ez];exact he)];rfl
 ·have c:=b.ok;have hw:=f.jr c;have d:se (.inl (f,m))=if f.err=0 then .inl (f,if f.has then m else 0)else .inr 4:=rfl;unfold Rw;rw[gz];simp only[eg];rw[dK aak,iV VW,dI]
  by_cases a:f.err=0
  ·rw[dK (by rw[ez];simp[a]),yp _ VW,d,dR a];rw[dK (show¬(f.err≠0) by simpa using a),dQ];cases f.has with
   |true=>exact .inr ⟨f,m,l,rfl,rfl,hu,⟨a,b⟩⟩|false=>exact .inr ⟨f,0,[],rfl,rfl,.nil,⟨a,b⟩⟩
  ·rw[dR (by rw[ez];exact a),d,dK a];exact .inl ⟨4,aak,rfl,rfl⟩
def jd(L:List Fm)(P:Pf)(N:Nat):Prop:=∀n',N<=n'->∀c,PG L c->IRs c.ak9 (P.inf L c.ak9 c.ala) (eu n' c P)
def vg{f:Fm}{m:Nat}{k:Int}(h:f.ak5=k):FZ (.inl (f,m)) k=.inl (f,m):=by grind[FZ,fo]
def ac'{f:Fm}{m:Nat}{k:Int}(h:f.ak5≠k):FZ (.inl (f,m)) k=.inr 10:=by grind[FZ,fo]
def na{g:List Ty}{s:PR}{r:Option (sW×Int)}(h:IRs g s r)(k:Int):(∃e,e≠0/\FZ s k=.inr e/\((r=some (⟨iH,[]⟩,e))\/∃f l m,r=some (⟨f,l⟩,0)/\f.ak5≠k/\e=10/\Us l m))\/∃(f:Fm) (m:Nat) (l:List Int),FZ s k=.inl (f,m)/\r=some (⟨f,l⟩,0)/\Us l m/\Hg g f/\f.ak5=k:=by
 rcases h with⟨e,he,a,b⟩|⟨f,m,l,a,b,hu,d⟩
 ·exact .inl ⟨e,he,by rw[a];rfl,.inl b⟩
 ·by_cases c:f.ak5=k
  ·exact .inr ⟨f,m,l,by rw[a,vg c],b,hu,d,c⟩
  ·exact .inl ⟨10,aak,by rw[a,ac' c],.inr ⟨f,l,m,b,c,rfl,hu⟩⟩
def R5{a b:Fm}(d:a.wt<=1000000000)(f:b.wt<=1000000000):lk a b=some (Ai a b):=by
 obtain⟨c,h⟩:=EC d f;unfold Ai;rw[h];rfl
structure s6 (g:List Ty) (F:Fm) (t:Tm):Prop where
 fe:F.err=0
 te:t.err=0
 ty:∃s,iQ (g++[s]) F/\ef g t s
theorem s6.put{g:List Ty}{F:Fm}{t:Tm}(h:s6 g F t):iQ g (Fm.gJ 0 F t):=by
 obtain⟨s,a,b⟩:=h.ty;exact a.put b
def s6.both{g:List Ty}{F:Fm}{t:Tm}(h:s6 g F t)(hg:g.length<=100):jx F t=some (kA F t):=by
 obtain⟨s,a,b⟩:=h.ty;obtain⟨_,a2⟩:=Fm.ia h.fe;obtain⟨_,f⟩:=Tm.ia h.te;have c:F.ak' 536870912=true:=a.ak' _ acx;have d:t.ak' 536870912=true:=b.ak' _ VW;unfold jx;rw[Jw h.fe h.te c d h.put.ok];rfl
theorem mb(F:Fm)(t:Tm):kA F t=(iH,4)\/(Fm.gJ 0 F t).ak7<=4096/\kA F t=(Fm.gJ 0 F t,0):=by
 unfold kA
 split
 ·exact .inl rfl
 ·grind
def tG{g:List Ty}(hg:g.length<=16){s:PR}{n':Nat}{P:Pf}{c:dS}(h:IRs g s (eu n' c P)){F:Fm}{t:Tm}(k:s6 g F t):(∃e l m,e≠0/\B1 s F t=.inr e/\e8 (n'+1) c P F t=some (l,e)/\Us l m)\/∃(f:Fm) (m:Nat) (l:List Int),B1 s F t=.inl (f,m)/\e8 (n'+1) c P F t=some (l,0)/\Us l m:=by
 have k2:=k.both VW;rcases h with⟨e,he,i,j⟩|⟨f,m,l,i,j,hu,n⟩
 ·refine .inl ⟨e,[],0,he,by rw[i];rfl,?_,.nil⟩;rw[e8,j,dQ,dR (by rw[ez];exact he)]
 ·rcases mb F t with d|⟨hn,d⟩
  ·rw[d] at k2;refine .inl ⟨4,[],0,aak,?_,?_,.nil⟩
   ·rw[i];unfold B1;rw[fo,d];rfl
   ·rw[e8,j,dQ,dK aak,k2,dQ,dR aak]
  ·rw[d] at k2;have v:=Fm.jr _ k.put.ok;have w:=Fm.jr _ n.ok;have o:=n.ak7;have q:=R5 (a:=Fm.gJ 0 F t) (b:=f) VW VW
   have r:B1 s F t=jC (Ai (Fm.gJ 0 F t) f) (.inl (f,m)):=by rw[i];unfold B1;rw[fo,d,fP rfl]
   have u:e8 (n'+1) c P F t=some (l,Ai (Fm.gJ 0 F t) f):=by
    rw[e8,j,dQ,dK aak,k2,dQ,dK aak,q,dI]
   rw[r,u]
   by_cases hm:Ai (Fm.gJ 0 F t) f=0
   ·rw[fP hm,hm];exact .inr ⟨f,m,l,rfl,rfl,hu⟩
   ·rw[jf hm];exact .inl ⟨_,_,m,hm,rfl,rfl,hu⟩
theorem HX{g:List Ty}(h:iT g)(hg:g.length<=16):xy g=0:=by
 unfold xy;rw[dK VW]
 induction g with
 |nil=>rfl|cons s g ih=>
  have a:=h s aa2;simp only[oe,fy];rw[dR a];exact ih (λx b=>h x (by simp[b])) (by simp at hg;omega)
def tg{g:List Ty}(a:iT g)(hg:g.length<=17){F:Fm}(hF:F.err=0):kF g F=some (F.x9 g)/\(g.length<=16->j1 g F=some (F.x9 g)):=by
 obtain⟨a1,a2⟩:=Fm.ia hF;have hw:=F.jr a1;refine⟨?_,λb=>?_⟩
 ·unfold kF;rw[iV VW,hF,dI,dK aak,A_ F a1 FU (by rw[fB];omega) g a VW a2];rfl
 ·rw[wL VW VW (λt c=>by have:=fc (a t c);omega)];unfold LP
  grind[HX]
def rI{g:List Ty}(a:iT g)(hg:g.length<=16){t:Tm}(b:t.err=0):iO g t=some (t.ty g):=by
 obtain⟨a1,a2⟩:=Tm.ia b;unfold iO;rw[tm g VW (λt b=>by have:=fc (a t b);omega),HX a hg,A6 a1 a2 a VW];rfl
def has_both{g:List Ty}(b:iT g)(hg:g.length<=16){c:dS}(a:c.ak9=g){t:Tm}(d:t.err=0)(k:Int):hR c t k=some (qJ t g k):=by
 unfold hR qJ;rw[a,rI b hg d]
 grind[dQ,ez]
def yw{g:List Ty}(hg:g.length<=16){t:Tm}{s:Ty}(h:ef g t s)(b:t.err=0):∃l,kl t=some l/\Us l (s0 t):=by
 obtain⟨a1,a2⟩:=Tm.ia b;have a:∀j:Int,32<=j->t.alb j=0:=λj o=>h.Qj j VW;obtain⟨l,d,f,c⟩:=abd b (h.ak' _ VW) a;refine⟨l,d,⟨?_,λx k=>((c x).1 k).1,f,λi=>?_⟩⟩
 ·exact Nat.lt_pow_two_of_testBit (n:=32) _ λi hi=>by rw[<-Bool.not_eq_true,KP];omega
 ·rw[c,KP]
  grind
def nz:¬eP 0 0=true:=aak
def Pf.hE(L:List Fm)(k i:Int)(s:Ty)(ts:List Tm)(fs:List Fm)(l:List Pf)(g:List Ty)(hs:List Fm):(Pf.mk k i s ts fs l).inf L g hs=se (pE L k i s ts fs (Pf.u7 L l) g hs):=by rw[Pf.inf]
def jd.of{L:List Fm}{k i:Int}{s:Ty}{ts:List Tm}{fs:List Fm}{l:List Pf}{N:Nat}
  (H:∀n',N<=n'->∀c,PG L c->lG c.ak9 (pE L k i s ts fs (Pf.u7 L l) c.ak9 c.ala) (ek (n'+4) c (.mk k i s ts fs l))):jd L (.mk k i s ts fs l) (N+5):=by
 intro n' b c h;obtain⟨a,rfl⟩:∃a,n'=a+5:=⟨n'-5,VW⟩;exact lG.infer h.pl.nv (H a VW c h)
def agK(n:Nat)(c:dS)(i:Int):ek (n+1) c (.mk 1 i .z [] [] [])=if(pd i (eA c.ala)) then some (iH,[],8)else dH (dW c.ala (fA .i64 (fA .i64 (eA c.ala) 1) i)) λa=>some (a,[],0):=by rw[ek];rfl
def R6(L:List Fm)(i:Int)(g:List Ty)(hs:List Fm):pE L 1 i .z [] [] (Pf.u7 L []) g hs=vP ((hs.length:Int)<=i) 8 (.inl (hs.getD (hs.length-1-i.toNat) iH,0)):=rfl
def WX{L:List Fm}{i:Int}(hi:0<=i):jd L (.mk 1 i .z [] [] []) 5:=by
 refine jd.of (N:=0) λn' _ c h=>?_;rw[agK,R6]
 by_cases d:(c.ala.length:Int)<=i
 ·grind[j2,dQ,pd,eA,jk,fM,lG.no]
 ·have j:=h.pl.nh
  have b:c.ala.length-1-i.toNat<c.ala.length:=VW
  rw[g_ d,dK (show¬(pd i (eA c.ala)=true) by rw[jk,fM];exact d),fM,fT (a:=(c.ala.length:Int)) VW VW,fT VW VW,show(c.ala.length:Int)-1-i=((c.ala.length-1-i.toNat:Nat):Int) by omega,gX,o9 b,dI];have f:=h.ala _ (B7 b);exact lG.yes (by simp[Aq,b]) rfl .nil f.ty (by have:=f.ak7;omega)
def ahh(n:Nat)(c:dS)(i:Int):ek (n+1) c (.mk 2 i .z [] [] [])=if(pd i (eA c.lemmas)) then some (iH,[],9)else dH (dW c.lemmas i) λa=>some (a,[],0):=by rw[ek];rfl
def X0(L:List Fm)(i:Int)(g:List Ty)(hs:List Fm):pE L 2 i .z [] [] (Pf.u7 L []) g hs=vP ((L.length:Int)<=i) 9 (.inl (L.getD i.toNat iH,0)):=rfl
def Wi{L:List Fm}{i:Int}(hi:0<=i):jd L (.mk 2 i .z [] [] []) 5:=by
 refine jd.of (N:=0) λn' _ c h=>?_;rw[ahh,X0,h.mm]
 by_cases b:(L.length:Int)<=i
 ·grind[j2,jk,fM,lG.no]
 ·obtain⟨k,rfl⟩:∃k:Nat,i=k:=⟨i.toNat,VW⟩
  have a:k<L.length:=VW
  rw[g_ b,dK (by rw[jk,fM];exact b),gX,o9 a,dI]
  have f:L.getD (k:Int).toNat iH=L[k]:=by grind
  have d:=h.afu _ (B7 a);exact lG.yes (by rw[f]) rfl .nil (by simpa using d.ty.front c.ak9) (by have:=d.ak7;omega)
def adB(n:Nat)(c:dS)(a b:Pf):ek (n+1) c (.mk 3 0 .z [] [] [a,b])=dU (eu n c a) λd f=>if(eP f 0) then some (iH,[],f)else dU (eu n c b) λh i=>dH (rC 2 d.dZ h.dZ) λj=>dH (gp d.jL h.jL) λk=>some (j,k,i):=by rw[ek];rfl
def RB(L:List Fm)(a b:Pf)(g:List Ty)(hs:List Fm):pE L 3 0 .z [] [] (Pf.u7 L [a,b]) g hs=pbind (a.inf L g hs) λf m=>pbind (b.inf L g hs) λc n=>.inl (.mk 2 .z [] [f,c],m|||n):=rfl
def Rg:iH.wt<=1000000:=aak
def TU{L:List Fm}{a b:Pf}{N:Nat}(s:jd L a N)(t:jd L b N):jd L (.mk 3 0 .z [] [] [a,b]) (N+5):=by
 refine jd.of λn' u c h=>?_;rw[adB,RB];rcases s (n'+3) VW c h with⟨e,he,d,i⟩|⟨f,m,l,d,i,hu,n⟩
 ·rw[d,i,dQ,dR (by rw[ez];exact he)];exact lG.no he rfl rfl
 ·have v:=n.ak7;have w:=f.jr n.ok;rw[d,i,dQ,dK aak,fo];rcases t (n'+3) VW c h with⟨e,he,d,i⟩|⟨x,A,B,d,i,k,j⟩
  ·obtain⟨q,q1,_⟩:=hu.union .nil (by have:=hu.len;omega) aa2;have:=Rg;rw[d,i,dQ];simp only[];rw[Md VW VW,dI,q1];exact lG.no he rfl rfl
  ·have o:=j.ak7;have r:=x.jr j.ok;obtain⟨q,q1,C,y,_⟩:=hu.union k (by have:=hu.len;omega) (by have:=k.len;omega);rw[d,i,dQ,fo];simp only[];rw[Md VW VW,dI,q1];refine lG.yes rfl rfl y (.two (.inl rfl) n.ty j.ty) ?_;rw[Fm.dP];simp only[ei];omega
def iQ.GI{g:List Ty}{f:Fm}(h:iQ g f){k:Int}(d:f.ak5=k)(i:k=2\/k=3):∃a b,f=.mk k .z [] [a,b]/\iQ g a/\iQ g b:=by
 cases h with
 |eq _ _=>grind[Fm.eL]|two c j l=>grind[Fm.eL]|q c _ _=>grind[Fm.eL]
def iQ.vX{g:List Ty}{f:Fm}(h:iQ g f){k:Int}(d:f.ak5=k)(i:k=4\/k=5\/k=6\/k=7):∃s a,f=.mk k s [] [a]/\s.err=0/\iQ (g++[s]) a:=by
 cases h with
 |eq _ _=>grind[Fm.eL]|two b c j=>grind[Fm.eL]|q b hs c=>grind[Fm.eL]
def iQ.WD{g:List Ty}{f:Fm}(h:iQ g f)(j:f.ak5=1):∃a b,f=.mk 1 .z [a,b] []/\ef g a .nat/\ef g b .nat:=by
 cases h with
 |eq d i=>grind|two c d i=>simp_all|q c hs d=>simp_all
def Hg.sub{g a:List Ty}{k:Int}{s:Ty}{ts:List Tm}{l:List Fm}(h:Hg g (.mk k s ts l)){x:Fm}(c:x∈l)(b:iQ a x):Hg a x:=by
 have d:=h.ak7;rw[Fm.dP] at d;have:=eG Fm.ak7 c;refine⟨?_,b⟩;unfold Fm.err;rw[dR b.ok,dK VW]
def aeU(n:Nat)(c:dS)(a:Pf):ek (n+1) c (.mk 4 0 .z [] [] [a])=dU (eu n c a) λb d=>if(eP d 0) then some (iH,[],d)else if(eP b.dZ.ak5 2) then some (iH,[],10)else dH (dW b.dZ.ak6 (fA .i64 4 4)) λf=>some (f,b.jL,0):=by rw[ek];rfl
def aeK(n:Nat)(c:dS)(a:Pf):ek (n+1) c (.mk 5 0 .z [] [] [a])=dU (eu n c a) λb d=>if(eP d 0) then some (iH,[],d)else if(eP b.dZ.ak5 2) then some (iH,[],10)else dH (dW b.dZ.ak6 (fA .i64 5 4)) λf=>some (f,b.jL,0):=by rw[ek];rfl
def Qn(L:List Fm)(a:Pf)(g:List Ty)(hs:List Fm):pE L 4 0 .z [] [] (Pf.u7 L [a]) g hs=pbind (FZ (a.inf L g hs) 2) λf m=>.inl (f.ak6.getD 0 iH,m):=rfl
def Qm(L:List Fm)(a:Pf)(g:List Ty)(hs:List Fm):pE L 5 0 .z [] [] (Pf.u7 L [a]) g hs=pbind (FZ (a.inf L g hs) 2) λf m=>.inl (f.ak6.getD 1 iH,m):=rfl
def T3{L:List Fm}{a:Pf}{N:Nat}(n:jd L a N):jd L (.mk 4 0 .z [] [] [a]) (N+5):=by
 refine jd.of λn' o c h=>?_;rw[aeU,Qn];rcases na (n (n'+3) VW c h) 2 with⟨e,he,d,b⟩|⟨f,m,l,d,b,hu,j,i⟩
 ·rw[d];rcases b with b|⟨f,l,m,b,i,rfl,_⟩
  ·rw[b,dQ,dR (by rw[ez];exact he)];exact lG.no he rfl rfl
  ·rw[b,dQ,dK aak,dR (by rw[ez];exact i)];exact lG.no he rfl rfl
 ·obtain⟨x,y,rfl,k,q⟩:=j.ty.GI i (.inl rfl);rw[d,b,dQ,dK aak,dK aa2,fo];exact lG.yes (f:=x) rfl rfl hu k (by have:=(j.sub aa2 k).ak7;omega)
def T4{L:List Fm}{a:Pf}{N:Nat}(n:jd L a N):jd L (.mk 5 0 .z [] [] [a]) (N+5):=by
 refine jd.of λn' o c h=>?_;rw[aeK,Qm];rcases na (n (n'+3) VW c h) 2 with⟨e,he,d,b⟩|⟨f,m,l,d,b,hu,j,i⟩
 ·rw[d];rcases b with b|⟨f,l,m,b,i,rfl,_⟩
  ·rw[b,dQ,dR (by rw[ez];exact he)];exact lG.no he rfl rfl
  ·rw[b,dQ,dK aak,dR (by rw[ez];exact i)];exact lG.no he rfl rfl
 ·obtain⟨x,y,rfl,q,k⟩:=j.ty.GI i (.inl rfl);rw[d,b,dQ,dK aak,dK aa2,fo];exact lG.yes (f:=y) rfl rfl hu k (by have:=(j.sub aa2 k).ak7;omega)
def aeY(n:Nat)(c:dS)(F:Fm)(a:Pf):ek (n+1) c (.mk 6 0 .z [] [F] [a])=dH (j1 c.ak9 F) λb=>if(eP b 0) then some (iH,[],b)else dH (eD c 0 1) λd=>if(eP d 0) then some (iH,[],d)else dH (gl c F) λh=>dU (eu n h a) λf i=>dH (rC 3 F f.dZ) λj=>some (j,f.jL,i):=by rw[ek];rfl
def Rs(L:List Fm)(F:Fm)(a:Pf)(g:List Ty)(hs:List Fm):pE L 6 0 .z [] [F] (Pf.u7 L [a]) g hs=jC (F.x9 g) (vP (16<hs.length+1) 3 (pbind (a.inf L g (hs++[F])) λb m=>.inl (.mk 3 .z [] [F,b],m))):=rfl
def Ut{L:List Fm}{F:Fm}(hF:F.err=0){a:Pf}{N:Nat}(s:jd L a N):jd L (.mk 6 0 .z [] [F] [a]) (N+5):=by
 refine jd.of λn' t c h=>?_;rw[aeY,Rs];have j:=h.pl.nv;obtain⟨_,t2⟩:=tg h.pl.ctx VW hF;have u:=(Fm.ia hF).2;have w:=F.jr (Fm.ia hF).1;rw[t2 j,dI]
 by_cases d:F.x9 c.ak9=0
 ·rw[dK (by rw[ez];simpa using d),fP d];have i:=rG F (Fm.ia hF).1 c.ak9 h.pl.ctx d;rcases h.room (v:=0) (k:=1) VW VW with⟨b,_,r⟩|⟨b,r⟩
  ·have b:eD c 0 1=some 0:=b;rw[b,dI,dK aak,g_ VW];obtain⟨x,y,A,B,C⟩:=h.with ⟨hF,i⟩ r;rw[y,dI];have hi:=s (n'+3) VW x A;rw[B,C] at hi;rcases hi with⟨e,he,n,o⟩|⟨f,m,l,n,o,hu,q⟩
   ·have:=Rg;rw[n,o,dQ];simp only[];rw[Md VW VW];exact lG.no he rfl rfl
   ·have D:=q.ak7;have G:=f.jr q.ok;rw[n,o,dQ];simp only[];rw[Md VW VW];refine lG.yes rfl rfl hu (.two (.inr rfl) i q.ty) ?_;rw[Fm.dP];simp only[ei];omega
  ·have b:eD c 0 1=some 3:=b;rw[b,dI,dR aak,j2 VW];exact lG.no aak rfl rfl
 ·rw[dR (by rw[ez];exact d),jf d];exact lG.no d rfl rfl
def acE(n:Nat)(c:dS)(a b:Pf):ek (n+1) c (.mk 7 0 .z [] [] [a,b])=dU (eu n c a) λd f=>if(eP f 0) then some (iH,[],f)else if(eP d.dZ.ak5 3) then some (iH,[],10)else dU (eu n c b) λh i=>if(eP i 0) then some (iH,[],i)else dH (dW d.dZ.ak6 1) λj=>dH (gp d.jL h.jL) λk=>dH (dW d.dZ.ak6 0) λl=>dH (lk l h.dZ) λo=>some (j,k,o):=by rw[ek];rfl
def PZ(L:List Fm)(a b:Pf)(g:List Ty)(hs:List Fm):pE L 7 0 .z [] [] (Pf.u7 L [a,b]) g hs=pbind (FZ (a.inf L g hs) 3) λa m=>pbind (b.inf L g hs) λb n=>jC (Ai (a.ak6.getD 0 iH) b) (.inl (a.ak6.getD 1 iH,m|||n)):=rfl
def Tt{L:List Fm}{a b:Pf}{N:Nat}(B:jd L a N)(C:jd L b N):jd L (.mk 7 0 .z [] [] [a,b]) (N+5):=by
 refine jd.of λn' D c h=>?_;rw[acE,PZ];rcases na (B (n'+3) VW c h) 3 with⟨e,he,i,d⟩|⟨f,m,l,i,d,hu,n,o⟩
 ·rw[i];rcases d with d|⟨f,l,m,d,o,rfl,_⟩
  ·rw[d,dQ,dR (by rw[ez];exact he)];exact lG.no he rfl rfl
  ·rw[d,dQ,dK aak,dR (by rw[ez];exact o)];exact lG.no he rfl rfl
 ·obtain⟨x,y,rfl,u,v⟩:=n.ty.GI o (.inr rfl);have r:=n.sub (x:=x) aa2 u;have s:=n.sub (x:=y) aa2 v;have F:=x.jr u.ok;have G:=r.ak7;rw[i,d,dQ,dK aak,dK aa2,fo];rcases C (n'+3) VW c h with⟨e,he,i,d⟩|⟨t,J,K,i,d,j,k⟩
  ·rw[i,d,dQ,dR (by rw[ez];exact he)];exact lG.no he rfl rfl
  ·have w:=k.ak7;have A:=t.jr k.ok;obtain⟨q,q1,M,H,_⟩:=hu.union j (by have:=hu.len;omega) (by have:=j.len;omega);have I:=R5 (a:=x) (b:=t) VW VW;rw[i,d,dQ,dK aak,fo];simp only[Fm.eH,eW,iv,lN,rq,dI,Ah,P9];rw[q1,I,dI,dI]
   by_cases hm:Ai x t=0
   ·rw[fP hm,hm];exact lG.yes rfl rfl H v (by have:=s.ak7;omega)
   ·rw[jf hm];exact lG.no hm rfl rfl
def Us.has{l:List Int}{m:Nat}(h:Us l m):rD l=some (m.testBit 0)/\eP (B3 .u32 (m:Int) 1) 0=m.testBit 0:=by
 have hm:=h.mem 0;constructor
 ·unfold rD;simp only[eg];cases l with
  |nil=>simp_all|cons a l=>
   rw[dR aa2];simp only[eW,lN,dI]
   congr 1
   rw[Hj,fZ,<-hm];constructor
   ·rintro rfl;simp
   ·intro hh;rcases lQ.1 hh with hh|hh
    ·exact hh.symm
    ·cases h.srt with
     |cons s1 _=>
      have:=s1 0 (by simpa using hh);have:=h.pos a aa2;omega
 ·rw[show(1:Int)=((1:Nat):Int)from rfl,XX h.lt VW];rw[Hj,ez,Nat.testBit_zero,Nat.and_one_is_mod];simp only[oy];omega
def adj(n:Nat)(c:dS)(s:Ty)(a:Pf):ek (n+2) c (.mk 8 0 s [] [] [a])=eZ (dH (eD c 1 0) λo=>if(eP o 0) then some (iH,[],o)else dH (fp c [s]) λj=>dU (eu n j a) λb d=>if(eP d 0) then some (iH,[],d)else dH (nA 4 s b.dZ) λk=>dH (gx b.jL 1) λl=>some (k,l,0)) λf h i=>some (f,h,i):=by
 rw[ek];rw[mX];rfl
def aab(n:Nat)(c:dS)(s:Ty)(a:Pf):ek (n+2) c (.mk 12 0 s [] [] [a])=eZ (dH (eD c 1 0) λq=>if(eP q 0) then some (iH,[],q)else dH (fp c [s]) λj=>dU (eu n j a) λb d=>if(eP d 0) then some (iH,[],d)else dH (rD b.jL) λk=>if k then some (iH,[],12)else dH (nA 6 s b.dZ) λl=>dH (gx b.jL 1) λo=>some (l,o,0)) λf h i=>some (f,h,i):=by
 rw[ek];rw[mX];rfl
def Fv(L:List Fm)(s:Ty)(a:Pf)(g:List Ty)(hs:List Fm):pE L 8 0 s [] [] (Pf.u7 L [a]) g hs=vP (16<g.length+1) 3 (pbind (a.inf L (g++[s]) (hs.map (Fm.up 0 1))) λb m=>.inl (.mk 4 s [] [b],m/2)):=rfl
def Mi(L:List Fm)(s:Ty)(a:Pf)(g:List Ty)(hs:List Fm):pE L 12 0 s [] [] (Pf.u7 L [a]) g hs=vP (16<g.length+1) 3 (pbind (a.inf L (g++[s]) (hs.map (Fm.up 0 1))) λb m=>vP (m.testBit 0=true) 12 (.inl (.mk 6 s [] [b],m/2))):=rfl
def TA{L:List Fm}{s:Ty}(hs:s.err=0){a:Pf}{N:Nat}(o:jd L a N):jd L (.mk 8 0 s [] [] [a]) (N+5):=by
 refine jd.of λn' r c h=>?_;rw[show n'+4=n'+2+2 from rfl,adj,Fv];rcases h.room (v:=1) (k:=0) VW VW with⟨b,n,_⟩|⟨b,n⟩
 ·have b:eD c 1 0=some 0:=b;rw[b,dI,dK nz,g_ VW];obtain⟨t,u,w,x,y⟩:=h.below hs n;rw[u,dI];have hi:=o (n'+2) VW t w;rw[x,y] at hi;rcases hi with⟨e,he,d,i⟩|⟨f,m,l,d,i,hu,j⟩
  ·rw[d,i,dQ,dR (by rw[ez];exact he)];exact lG.no he rfl rfl
  ·have A:=j.ak7;have B:=f.jr j.ok;have C:=fc hs;obtain⟨u1,u3⟩:=hu.out (by have:=hu.len;omega) (k:=1) VW;rw[d,i,dQ,dK nz,fo];simp only[];rw[Tn VW VW,dI,show(1:Int)=((1:Nat):Int)from rfl,u1];refine lG.yes rfl rfl u3 (.q (.inl rfl) hs j.ty) ?_;rw[Fm.dP];simp only[ei];omega
 ·have b:eD c 1 0=some 3:=b;have D:=h.pl.nh;rw[b,dI,dR aak,j2 VW];exact lG.no aak rfl rfl
def QZ{L:List Fm}{s:Ty}(hs:s.err=0){a:Pf}{N:Nat}(r:jd L a N):jd L (.mk 12 0 s [] [] [a]) (N+5):=by
 refine jd.of λn' t c h=>?_;rw[show n'+4=n'+2+2 from rfl,aab,Mi];rcases h.room (v:=1) (k:=0) VW VW with⟨b,o,_⟩|⟨b,o⟩
 ·have b:eD c 1 0=some 0:=b;rw[b,dI,dK nz,g_ VW];obtain⟨u,w,x,y,A⟩:=h.below hs o;rw[w,dI];have hi:=r (n'+2) VW u x;rw[y,A] at hi;rcases hi with⟨e,he,i,j⟩|⟨f,m,l,i,j,hu,n⟩
  ·rw[i,j,dQ,dR (by rw[ez];exact he)];exact lG.no he rfl rfl
  ·have B:=n.ak7;have C:=f.jr n.ok;have D:=fc hs;obtain⟨u1,u3⟩:=hu.out (by have:=hu.len;omega) (k:=1) VW;obtain⟨F,H⟩:=hu.has;rw[i,j,dQ,dK nz,fo];simp only[];rw[F,dI]
   by_cases d:m.testBit 0=true
   ·rw[j2 d,dR d];exact lG.no aak rfl rfl
   ·rw[g_ d,dK d,Tn VW VW,dI,show(1:Int)=((1:Nat):Int)from rfl,u1];refine lG.yes rfl rfl u3 (.q (.inr (.inr (.inl rfl))) hs n.ty) ?_;rw[Fm.dP];simp only[ei];omega
 ·have b:eD c 1 0=some 3:=b;have G:=h.pl.nh;rw[b,dI,dR aak,j2 VW];exact lG.no aak rfl rfl
theorem QD(a b:Ty):a.jY b=b.jY a:=by grind[Ty.kv]
def zo{a b:Ty}(c:a.err=0)(d:b.err=0):fm FU b a=some (a.jY b):=by
 have f:=fc c;have h:=fc d
 grind[dI,iB,QD]
def agH(n:Nat)(c:dS)(t:Tm)(a:Pf):ek (n+2) c (.mk 9 0 .z [t] [] [a])=eZ (dU (iO c.ak9 t) λu s=>if(eP s 0) then some (iH,[],s)else dU (eu n c a) λb d=>if(eP d 0) then some (iH,[],d)else dH (kl t) λj=>dH (gp b.jL j) λk=>if(eP b.dZ.ak5 4) then some (iH,[],10)else dH (fm FU b.dZ.dM u) λl=>if l then dH (dW b.dZ.ak6 0) λo=>dU (jx o t) λq r=>some (q,k,r)else some (iH,[],7)) λf h i=>some (f,h,i):=by
 rw[ek];rw[nG];rfl
def ad1(n:Nat)(c:dS)(t:Tm)(a:Pf):ek (n+2) c (.mk 13 0 .z [t] [] [a])=eZ (dU (iO c.ak9 t) λs r=>if(eP r 0) then some (iH,[],r)else dU (eu n c a) λb d=>if(eP d 0) then some (iH,[],d)else dH (kl t) λj=>dH (gp b.jL j) λu=>if(eP b.dZ.ak5 6) then some (iH,[],10)else dH (fm FU b.dZ.dM s) λk=>if k then dH (dW b.dZ.ak6 0) λl=>dU (jx l t) λo q=>some (o,b.jL,q)else some (iH,[],7)) λf h i=>some (f,h,i):=by
 rw[ek];rw[nG];rfl
def WT(L:List Fm)(t:Tm)(a:Pf)(g:List Ty)(hs:List Fm):pE L 9 0 .z [t] [] (Pf.u7 L [a]) g hs=jC (t.ty g).2 (pbind (FZ (a.inf L g hs) 4) λa m=>vP ((t.ty g).1.jY a.dM=false) 7 (jC (kA (a.ak6.getD 0 iH) t).2 (.inl ((kA (a.ak6.getD 0 iH) t).1,m|||s0 t)))):=rfl
def Qc(L:List Fm)(t:Tm)(a:Pf)(g:List Ty)(hs:List Fm):pE L 13 0 .z [t] [] (Pf.u7 L [a]) g hs=jC (t.ty g).2 (pbind (FZ (a.inf L g hs) 6) λa m=>vP ((t.ty g).1.jY a.dM=false) 7 (jC (kA (a.ak6.getD 0 iH) t).2 (.inl ((kA (a.ak6.getD 0 iH) t).1,m)))):=rfl
def we{t:Tm}(a:t.err=0){g:List Ty}(b:iT g):(∃e,e≠0/\(t.ty g).2=e/\∃z,t.ty g=(z,e))\/∃s,t.ty g=(s,0)/\ef g t s/\s.err=0:=by
 obtain⟨s,e,c⟩:∃s e,t.ty g=(s,e):=⟨_,_,rfl⟩
 by_cases he:e=0
 ·subst he;obtain⟨d,f⟩:=qE _ t (gY _) (Tm.ia a).1 g b s c
  grind
 ·grind
def Xv{L:List Fm}{t:Tm}(d:t.err=0){a:Pf}{N:Nat}(C:jd L a N):jd L (.mk 9 0 .z [t] [] [a]) (N+5):=by
 refine jd.of λn' D c h=>?_;have j:=h.pl.nv;rw[show n'+4=n'+2+2 from rfl,agH,WT,rI h.pl.ctx j d];rcases we d h.pl.ctx with⟨e,he,q1,z,F⟩|⟨s,q1,k,hs⟩
 ·rw[F,dQ,dR (by rw[ez];exact he),jf he];exact lG.no he rfl rfl
 ·obtain⟨H,f2,f3⟩:=yw j k d;rw[q1,dQ,dK nz,fP rfl];rcases na (C (n'+2) VW c h) 4 with⟨e,he,n,i⟩|⟨f,m,l,n,i,hu,w,o⟩
  ·rw[n];rcases i with i|⟨f,l,m,i,o,rfl,hu⟩
   ·rw[i,dQ,dR (by rw[ez];exact he)];exact lG.no he rfl rfl
   ·obtain⟨q,u1,_⟩:=hu.union f3 (by have:=hu.len;omega) (by have:=f3.len;omega);rw[i,dQ,dK nz,f2,dI,u1,dI,dR (by rw[ez];exact o)];exact lG.no he rfl rfl
  ·obtain⟨y,x,rfl,r,A⟩:=w.ty.vX o (.inl rfl);have u:=w.sub (x:=x) aa2 A;obtain⟨q,u1,u2,u3,_⟩:=hu.union f3 (by have:=hu.len;omega) (by have:=f3.len;omega);rw[n,i,dQ,dK nz,f2,dI,fo];simp only[Fm.eL,Fm.fK,Fm.eH,eW,lN,dI,Ah];rw[u1,dI,dK (show¬eP 4 4=true by decide),zo hs r,dI]
   by_cases b:s.jY y=true
   ·have:=(Ty.kv s y).1 b;subst this;have B:s6 c.ak9 x t:=⟨u.err,d,s,A,k⟩;rw[g_ (by rw[b];decide),dR b,B.both VW];rcases mb x t with v|⟨G,v⟩
    ·rw[v,dQ,jf aak];exact lG.no aak rfl rfl
    ·rw[v,dQ,fP rfl];exact lG.yes (f:=Fm.gJ 0 x t) rfl rfl u3 B.put VW
   ·rw[j2 (by simpa using b),dK b];exact lG.no aak rfl rfl
def S0{L:List Fm}{t:Tm}(d:t.err=0){a:Pf}{N:Nat}(C:jd L a N):jd L (.mk 13 0 .z [t] [] [a]) (N+5):=by
 refine jd.of λn' D c h=>?_;have j:=h.pl.nv;rw[show n'+4=n'+2+2 from rfl,ad1,Qc,rI h.pl.ctx j d];rcases we d h.pl.ctx with⟨e,he,q1,z,F⟩|⟨s,q1,k,hs⟩
 ·rw[F,dQ,dR (by rw[ez];exact he),jf he];exact lG.no he rfl rfl
 ·obtain⟨H,f2,f3⟩:=yw j k d;rw[q1,dQ,dK nz,fP rfl];rcases na (C (n'+2) VW c h) 6 with⟨e,he,n,i⟩|⟨f,m,l,n,i,hu,w,o⟩
  ·rw[n];rcases i with i|⟨f,l,m,i,o,rfl,hu⟩
   ·rw[i,dQ,dR (by rw[ez];exact he)];exact lG.no he rfl rfl
   ·obtain⟨q,u1,_⟩:=hu.union f3 (by have:=hu.len;omega) (by have:=f3.len;omega);rw[i,dQ,dK nz,f2,dI,u1,dI,dR (by rw[ez];exact o)];exact lG.no he rfl rfl
  ·obtain⟨y,x,rfl,r,A⟩:=w.ty.vX o (.inr (.inr (.inl rfl)));have u:=w.sub (x:=x) aa2 A;obtain⟨q,u1,_⟩:=hu.union f3 (by have:=hu.len;omega) (by have:=f3.len;omega);rw[n,i,dQ,dK nz,f2,dI,fo];simp only[Fm.eL,Fm.fK,Fm.eH,eW,lN,dI,Ah];rw[u1,dI,dK (show¬eP 6 6=true by decide),zo hs r,dI]
   by_cases b:s.jY y=true
   ·have:=(Ty.kv s y).1 b;subst this;have B:s6 c.ak9 x t:=⟨u.err,d,s,A,k⟩;rw[g_ (by rw[b];decide),dR b,B.both VW];rcases mb x t with v|⟨G,v⟩
    ·rw[v,dQ,jf aak];exact lG.no aak rfl rfl
    ·rw[v,dQ,fP rfl];exact lG.yes (f:=Fm.gJ 0 x t) rfl rfl hu B.put VW
   ·rw[j2 (by simpa using b),dK b];exact lG.no aak rfl rfl
def aeh(n:Nat)(c:dS)(t:Tm)(F:Fm)(a:Pf):ek (n+2) c (.mk 10 0 .z [t] [F] [a])=eZ (dH (j1 c.ak9 F) λb=>if(eP b 0) then some (iH,[],b)else if(eP F.ak5 5) then some (iH,[],10)else dU (iO c.ak9 t) λj d=>if(eP d 0) then some (iH,[],d)else dH (fm FU F.dM j) λk=>if k then dH (dW F.ak6 0) λl=>dU (e8 n c a l t) λo q=>dH (kl t) λr=>dH (gp o r) λs=>some (F,s,q)else some (iH,[],7)) λf h i=>some (f,h,i):=by
 rw[ek];rw[nP];rfl
def adv(n:Nat)(c:dS)(t:Tm)(F:Fm)(a:Pf):ek (n+2) c (.mk 14 0 .z [t] [F] [a])=eZ (dH (j1 c.ak9 F) λb=>if(eP b 0) then some (iH,[],b)else if(eP F.ak5 7) then some (iH,[],10)else dU (iO c.ak9 t) λj d=>if(eP d 0) then some (iH,[],d)else dH (fm FU F.dM j) λk=>if k then dH (dW F.ak6 0) λl=>dU (e8 n c a l t) λo q=>some (F,o,q)else some (iH,[],7)) λf h i=>some (f,h,i):=by
 rw[ek];rw[nP];rfl
def MK(L:List Fm)(t:Tm)(F:Fm)(a:Pf)(g:List Ty)(hs:List Fm):pE L 10 0 .z [t] [F] (Pf.u7 L [a]) g hs=jC (F.x9 g) (vP (F.ak5≠5) 10 (jC (t.ty g).2 (vP ((t.ty g).1.jY F.dM=false) 7 (pbind (B1 (a.inf L g hs) (F.ak6.getD 0 iH) t) λ_ m=>.inl (F,m|||s0 t))))):=rfl
def Qw(L:List Fm)(t:Tm)(F:Fm)(a:Pf)(g:List Ty)(hs:List Fm):pE L 14 0 .z [t] [F] (Pf.u7 L [a]) g hs=jC (F.x9 g) (vP (F.ak5≠7) 10 (jC (t.ty g).2 (vP ((t.ty g).1.jY F.dM=false) 7 (pbind (B1 (a.inf L g hs) (F.ak6.getD 0 iH) t) λ_ m=>.inl (F,m))))):=rfl
def SZ{L:List Fm}{t:Tm}(i:t.err=0){F:Fm}(hF:F.err=0){a:Pf}{N:Nat}(D:jd L a N):jd L (.mk 10 0 .z [t] [F] [a]) (N+5):=by
 refine jd.of λn' G c h=>?_;have j:=h.pl.nv;obtain⟨_,t2⟩:=tg h.pl.ctx VW hF;have H:=(Fm.ia hF).2;rw[show n'+4=n'+2+2 from rfl,aeh,MK,rI h.pl.ctx j i,t2 j,dI]
 by_cases k:F.x9 c.ak9=0
 ·have r:¬eP (F.x9 c.ak9) 0=true:=by rw[ez];simpa using k
  rw[dK r,fP k];have b:=rG F (Fm.ia hF).1 c.ak9 h.pl.ctx k
  by_cases n:F.ak5=5
  ·have r:¬eP F.ak5 5=true:=by rw[ez];simpa using n
   rw[dK r,g_ (by simpa using n)];rcases we i h.pl.ctx with⟨e,he,q1,z,I⟩|⟨s,q1,o,hs⟩
   ·rw[I,dQ,dR (by rw[ez];exact he),jf he];exact lG.no he rfl rfl
   ·obtain⟨u,x,rfl,v,C⟩:=b.vX n (.inr (.inl rfl));have w:Hg c.ak9 (.mk 5 u [] [x]):=⟨hF,b⟩;have y:=w.sub (x:=x) aa2 C;obtain⟨K,f2,f3⟩:=yw j o i;rw[q1,dQ,dK nz,fP rfl];simp only[Fm.eL,Fm.fK,Fm.eH,eW,lN,dI,Ah];rw[zo hs v,dI]
    by_cases d:s.jY u=true
    ·have:=(Ty.kv s u).1 d;subst this;have J:s6 c.ak9 x t:=⟨y.err,i,s,C,o⟩;rw[g_ (by rw[d];decide),dR d];rcases tG j (D (n'+1) VW c h) J with⟨e,l,m,he,A,B,hu⟩|⟨f,m,l,A,B,hu⟩
     ·obtain⟨q,u1,_⟩:=hu.union f3 (by have:=hu.len;omega) (by have:=f3.len;omega);rw[A,B,dQ,f2,dI,u1];exact lG.no he rfl rfl
     ·obtain⟨q,u1,u2,u3,_⟩:=hu.union f3 (by have:=hu.len;omega) (by have:=f3.len;omega);rw[A,B,dQ,f2,dI,fo];rw[u1];exact lG.yes rfl rfl u3 b VW
    ·rw[j2 (by simpa using d),dK d];exact lG.no aak rfl rfl
  ·rw[dR (by rw[ez];exact n),j2 n];exact lG.no aak rfl rfl
 ·rw[dR (by rw[ez];exact k),jf k];exact lG.no k rfl rfl
def S4{L:List Fm}{t:Tm}(i:t.err=0){F:Fm}(hF:F.err=0){a:Pf}{N:Nat}(C:jd L a N):jd L (.mk 14 0 .z [t] [F] [a]) (N+5):=by
 refine jd.of λn' D c h=>?_;have j:=h.pl.nv;obtain⟨_,t2⟩:=tg h.pl.ctx VW hF;have G:=(Fm.ia hF).2;rw[show n'+4=n'+2+2 from rfl,adv,Qw,rI h.pl.ctx j i,t2 j,dI]
 by_cases k:F.x9 c.ak9=0
 ·have o:¬eP (F.x9 c.ak9) 0=true:=by rw[ez];simpa using k
  rw[dK o,fP k];have b:=rG F (Fm.ia hF).1 c.ak9 h.pl.ctx k
  by_cases n:F.ak5=7
  ·have o:¬eP F.ak5 7=true:=by rw[ez];simpa using n
   rw[dK o,g_ (by simpa using n)];rcases we i h.pl.ctx with⟨e,he,q1,z,H⟩|⟨s,q1,q,hs⟩
   ·rw[H,dQ,dR (by rw[ez];exact he),jf he];exact lG.no he rfl rfl
   ·obtain⟨r,x,rfl,u,B⟩:=b.vX n (.inr (.inr (.inr rfl)));have v:Hg c.ak9 (.mk 7 r [] [x]):=⟨hF,b⟩;have w:=v.sub (x:=x) aa2 B;rw[q1,dQ,dK nz,fP rfl];simp only[Fm.eL,Fm.fK,Fm.eH,eW,lN,dI,Ah];rw[zo hs u,dI]
    by_cases d:s.jY r=true
    ·have:=(Ty.kv s r).1 d;subst this;have I:s6 c.ak9 x t:=⟨w.err,i,s,B,q⟩;rw[g_ (by rw[d];decide),dR d];rcases tG j (C (n'+1) VW c h) I with⟨e,l,m,he,y,A,hu⟩|⟨f,m,l,y,A,hu⟩
     ·rw[y,A,dQ];exact lG.no he rfl rfl
     ·rw[y,A,dQ,fo];skip;exact lG.yes rfl rfl hu b VW
    ·rw[j2 (by simpa using d),dK d];exact lG.no aak rfl rfl
  ·rw[dR (by rw[ez];exact n),j2 n];exact lG.no aak rfl rfl
 ·rw[dR (by rw[ez];exact k),jf k];exact lG.no k rfl rfl
def SA(k:Fm->Option (Fm×List Int×Int))(f:Fm):Option (Fm×List Int×Int):=
 dH (p6 FU f 0) λc=>if c then dU (mO FU f) λa b=>if(eP b 0) then some (iH,[],b)else dH (p6 FU a 0) λd=>if d then some (iH,[],6)else k (.mk a.ak5 (.mk a.dM.ak5 a.dM.ak6) a.eh a.ak6)else k (.mk f.ak5 (.mk f.dM.ak5 f.dM.ak6) f.eh f.ak6)
def WZ(n:Nat)(c:dS)(a b:Pf):ek (n+2) c (.mk 11 0 .z [] [] [a,b])=eZ (dU (eu n c a) λd h=>if(eP h 0) then some (iH,[],h)else if(eP d.dZ.ak5 5) then some (iH,[],10)else dH (eD c 1 1) λi=>if(eP i 0) then some (iH,[],i)else dH (fp c [d.dZ.dM]) λu=>dH (dW d.dZ.ak6 0) λv=>dH (gl u v) λw=>dU (eu n w b) λj k=>if(eP k 0) then some (iH,[],k)else SA (λf=>dH (iw FU f 1 (-1)) λl=>dH (gx j.jL 1) λo=>dH (gp d.jL o) λq=>some (l,q,0)) j.dZ) λr s t=>some (r,s,t):=by
 rw[ek];rw[mh];rfl
def V2(n:Nat)(c:dS)(a b:Pf):ek (n+2) c (.mk 15 0 .z [] [] [a,b])=eZ (dU (eu n c a) λd i=>if(eP i 0) then some (iH,[],i)else if(eP d.dZ.ak5 7) then some (iH,[],10)else dH (eD c 1 1) λj=>if(eP j 0) then some (iH,[],j)else dH (fp c [d.dZ.dM]) λv=>dH (dW d.dZ.ak6 0) λw=>dH (gl v w) λx=>dU (eu n x b) λh k=>if(eP k 0) then some (iH,[],k)else SA (λf=>dH (rD h.jL) λl=>if l then some (iH,[],12)else dH (iw FU f 1 (-1)) λo=>dH (gx h.jL 1) λq=>dH (gp d.jL q) λr=>some (o,r,0)) h.dZ) λs t u=>some (s,t,u):=by
 rw[ek];rw[mh];rfl
def Es(L:List Fm)(a b:Pf)(g:List Ty)(hs:List Fm):pE L 11 0 .z [] [] (Pf.u7 L [a,b]) g hs=pbind (FZ (a.inf L g hs) 5) λa m=>vP (16<g.length+1\/16<hs.length+1) 3 (pbind (b.inf L (g++[a.dM]) (hs.map (Fm.up 0 1)++[a.ak6.getD 0 iH])) λb n=>jC (w4 b).2 (.inl ((w4 b).1,m|||n/2))):=rfl
def JR(L:List Fm)(a b:Pf)(g:List Ty)(hs:List Fm):pE L 15 0 .z [] [] (Pf.u7 L [a,b]) g hs=pbind (FZ (a.inf L g hs) 7) λa m=>vP (16<g.length+1\/16<hs.length+1) 3 (pbind (b.inf L (g++[a.dM]) (hs.map (Fm.up 0 1)++[a.ak6.getD 0 iH])) λb n=>jC (w4 b).2 (vP (n.testBit 0=true) 12 (.inl ((w4 b).1,m|||n/2)))):=rfl
def OK{g:List Ty}{s:Ty}{f:Fm}(h:Hg (g++[s]) f)(hg:g.length<=1000)(k:Fm->Option (Fm×List Int×Int))(k':Fm->Option (Fm×List Int×Int))(l:∀x,x.alb 0=0->x.ak7<=4096*4096->x.ak' 1000000000000=true->k x=k' (x.up 1 (-1))):SA k f=if(w4 f).2=0 then k' (w4 f).1 else some (iH,[],(w4 f).2):=by
 have hn:=h.ak7;have o:f.ak' 1000000000000=true:=h.ty.ak' _ acx;unfold SA;rw[EH FU f 0 (by rw[fB];omega) VW VW VW,dI,Ty.gE,Fm.gE]
 by_cases j:f.alb 0=0
 ·have hw:w4 f=(f.up 1 (-1),0):=by unfold w4;rw[dR j]
  grind
 ·rw[dR (show decide (0<f.alb 0)=true by simp;omega),Hp FU f (by rw[fB];omega) VW (Vj.of f hn h.ok (h.ty.ak' _ acx))];obtain⟨a,b,d⟩:∃a b,f.tq 0=(a,b):=⟨_,_,rfl⟩
  have hw:w4 f=if b≠0 then(iH,b)else if a.alb 0≠0 then(iH,6)else(a.up 1 (-1),0):=by unfold w4;rw[dK j,d]
  rw[d];simp only[]
  by_cases he:b=0
  ·subst he;have c:=XK h.ty 0 acx hn (by rw[d]);rw[d] at c;obtain⟨_,a2,a3⟩:=c;have a2:iQ (g++[s]) a:=a2;have a3:a.ak7<=3000*f.ak7:=a3;rw[dK aak] at hw;rw[dR rfl,dQ,dK nz,EH FU a 0 (by rw[fB];omega) VW VW VW,dI,Ty.gE,Fm.gE]
   by_cases i:a.alb 0=0
   ·rw[dK (by simpa using i)] at hw;rw[hw,dK (show¬(decide (0<a.alb 0)=true) by simp;omega)];exact(l a i VW (a2.ak' _ acx)).trans (dR rfl).symm
   ·rw[dR i] at hw;rw[hw,dR (show decide (0<a.alb 0)=true by simp;omega)];rfl
  ·rw[dR he] at hw
   have n:eP b 0=true:=by rw[ez];exact he
   rw[hw,dK he,dQ,dR n,dK he]
def NY{L:List Fm}{a b:Pf}{N:Nat}(G:jd L a N)(H:jd L b N):jd L (.mk 11 0 .z [] [] [a,b]) (N+5):=by
 refine jd.of λn' I c h=>?_;have J:=h.pl.nv;rw[show n'+4=n'+2+2 from rfl,WZ,Es];rcases na (G (n'+2) VW c h) 5 with⟨e,he,i,d⟩|⟨f,m,l,i,d,hu,A,t⟩
 ·rw[i];rcases d with d|⟨f,l,m,d,t,rfl,_⟩
  ·rw[d,dQ,dR (by rw[ez];exact he)];exact lG.no he rfl rfl
  ·rw[d,dQ,dK nz,dR (by rw[ez];exact t)];exact lG.no he rfl rfl
 ·obtain⟨s,x,rfl,hs,K⟩:=A.ty.vX t (.inr (.inl rfl));have u:=A.sub (x:=x) aa2 K;rw[i,d,dQ,dK nz,dK aa2,fo];simp only[Fm.fK,Fm.eH,eW,lN,dI,Ah];rcases h.room (v:=1) (k:=1) VW VW with⟨j,B,M⟩|⟨j,B⟩
  ·have j:eD c 1 1=some 0:=j;rw[j,dI,dK nz,g_ VW];obtain⟨W,O,P,C,D⟩:=h.below hs B;obtain⟨Q,R,S,T,U⟩:=P.with (f:=x) (by rw[C];exact u) (by rw[D];simpa using M);rw[O,dI,R,dI];have hi:=H (n'+2) VW Q S;rw[T,U,C,D] at hi;rcases hi with⟨e,he,i,d⟩|⟨V,X,F,i,d,o,r⟩
   ·rw[i,d,dQ,dR (by rw[ez];exact he)];exact lG.no he rfl rfl
   ·obtain⟨u1,u3⟩:=o.out (by have:=o.len;omega) (k:=1) VW;have u1:gx F 1=some (x8 ((1:Nat):Int) F):=u1;obtain⟨q,v1,v2,v3,_⟩:=hu.union u3 (by have:=hu.len;omega) (by have:=u3.len;omega);rw[i,d,dQ,dK nz,fo];simp only[]
    rw[OK r VW _ (λy=>some (y,q,0)) (λy Y Z y3=>by
     rw[D8 FU y 1 (by rw[fB];omega) VW VW VW y3,dI,u1,dI,v1,dI])]
    obtain⟨w,e,hw⟩:∃w e,w4 V=(w,e):=⟨_,_,rfl⟩;rw[hw]
    by_cases he:e=0
    ·subst he;have n:=I1 r VW hs (by rw[hw]);rw[hw] at n;rw[dR rfl,fP rfl];exact lG.yes rfl rfl v3 n.1 (by have:=n.2;omega)
    ·rw[dK he,jf he];exact lG.no he rfl rfl
  ·have j:eD c 1 1=some 3:=j;rw[j,dI,dR aak,j2 VW];exact lG.no aak rfl rfl
def Oz{L:List Fm}{a b:Pf}{N:Nat}(K:jd L a N)(r:jd L b N):jd L (.mk 15 0 .z [] [] [a,b]) (N+5):=by
 refine jd.of λn' M c h=>?_;have O:=h.pl.nv;rw[show n'+4=n'+2+2 from rfl,V2,JR];rcases na (K (n'+2) VW c h) 7 with⟨e,he,i,d⟩|⟨f,m,l,i,d,hu,B,u⟩
 ·rw[i];rcases d with d|⟨f,l,m,d,u,rfl,_⟩
  ·rw[d,dQ,dR (by rw[ez];exact he)];exact lG.no he rfl rfl
  ·rw[d,dQ,dK nz,dR (by rw[ez];exact u)];exact lG.no he rfl rfl
 ·obtain⟨s,x,rfl,hs,P⟩:=B.ty.vX u (.inr (.inr (.inr rfl)));have A:=B.sub (x:=x) aa2 P;rw[i,d,dQ,dK nz,dK aa2,fo];simp only[Fm.fK,Fm.eH,eW,lN,dI,Ah];rcases h.room (v:=1) (k:=1) VW VW with⟨j,C,Q⟩|⟨j,C⟩
  ·have j:eD c 1 1=some 0:=j;rw[j,dI,dK nz,g_ VW];obtain⟨D,R,S,F,G⟩:=h.below hs C;obtain⟨H,T,U,V,W⟩:=S.with (f:=x) (by rw[F];exact A) (by rw[G];simpa using Q);rw[R,dI,T,dI];have hi:=r (n'+2) VW H U;rw[V,W,F,G] at hi;rcases hi with⟨e,he,i,d⟩|⟨X,I,J,i,d,n,t⟩
   ·rw[i,d,dQ,dR (by rw[ez];exact he)];exact lG.no he rfl rfl
   ·obtain⟨u1,u3⟩:=n.out (by have:=n.len;omega) (k:=1) VW;have u1:gx J 1=some (x8 ((1:Nat):Int) J):=u1;obtain⟨q,v1,v2,v3,_⟩:=hu.union u3 (by have:=hu.len;omega) (by have:=u3.len;omega);rw[i,d,dQ,dK nz,fo];simp only[];skip;obtain⟨D,H⟩:=n.has
    rw[OK t VW _ (λy=>if I.testBit 0 then some (iH,[],12)else some (y,q,0)) (λy Y Z y3=>by
     rw[D,dI,D8 FU y 1 (by rw[fB];omega) VW VW VW y3,dI,u1,dI,v1,dI])]
    obtain⟨w,e,hw⟩:∃w e,w4 X=(w,e):=⟨_,_,rfl⟩;rw[hw]
    by_cases he:e=0
    ·subst he;have o:=I1 t VW hs (by rw[hw]);rw[hw] at o;rw[dR rfl,fP rfl]
     by_cases r:I.testBit 0=true
     ·rw[j2 r,dR r];exact lG.no aak rfl rfl
     ·rw[g_ r,dK r];exact lG.yes rfl rfl v3 o.1 (by have:=o.2;omega)
    ·rw[dK he,jf he];exact lG.no he rfl rfl
  ·have j:eD c 1 1=some 3:=j;rw[j,dI,dR aak,j2 VW];exact lG.no aak rfl rfl
def iT.nat{g:List Ty}(h:iT g):iT (g++[.nat]):=h.app Ty.gR
def iT.fS{g:List Ty}(h:iT g):iT (g++[.fS]):=h.app Ty.mv
def BL{g:List Ty}(d:iT g){t:Tm}(f:t.err=0){s:Ty}(hs:s=.nat\/s=.fS)(h:qJ t g s.ak5=0):ef g t s:=by
 rcases we f d with⟨e,he,q1,z,j⟩|⟨b,q1,i,a⟩
 ·unfold qJ at h
  grind
 ·unfold qJ at h;rw[q1] at h
  by_cases c:b.ak5=s.ak5
  ·have:b=s:=by
    rcases hs with rfl|rfl
    ·exact(wz a).1 c
    ·exact(EW a).1 c
   rwa [<-this]
  ·grind
def D2{F:Fm}(hF:F.err=0)(a:F.ak' 1000000000=true){f c:Nat}(b:f<=100)(d:c<=100):qb F (f:Int) (c:Int)=some (F.up f c)/\iw FU F (f:Int) (c:Int)=some (F.up f c):=by
 obtain⟨a1,a2⟩:=Fm.ia hF;exact⟨Cb a1 VW (Fm.ml _ VW a) VW VW VW VW,Bm FU F f c (by rw[fB];omega) VW VW VW VW VW (Fm.ml _ VW a)⟩
def CU{F:Fm}(hF:F.err=0){f c:Int}(a:0<=f)(b:0<=c):(F.up f c).err=0:=by grind[Fm.ia,Fm.err,Fm.Pt,Fm.pj]
def agD:rA.err=0:=aak
def aaI:(Tm.mk 7 0 .z []).err=0:=aak
def acH:(ru v0).err=0:=aak
def aeV:(Tm.mk 8 0 .z [v1,v0]).err=0:=aak
def Tu{L:List Fm}{c:dS}(h:PG L c)(hn:c.ak9.length+2<=16):∃a,fp c [.nat,.fS]=some a/\PG L a/\a.ak9=c.ak9++[.nat]++[.fS]/\a.ala=c.ala.map (Fm.up 0 2):=by
 obtain⟨a,b,d,f,i⟩:=h.Vy (l:=[.nat,.fS]) (λx hx=>by
  rcases lQ.1 hx with rfl|hx
  ·exact Ty.gR
  ·rw[DB.1 hx];exact Ty.mv) hn
 grind
def aae(n:Nat)(c:dS)(t:Tm)(F:Fm)(a b:Pf):ek (n+2) c (.mk 16 0 .z [t] [F] [a,b])=eZ (gB (fI c.ak9 [.nat])<|dH (kF (fR c.ak9 [.nat]) F) λf=>if(eP f 0) then some (iH,[],f)else dH (hR c t 1) λh=>if(eP h 0) then some (iH,[],h)else dH (fQ 4 []) λD=>dU (e8 n c a F D) λG i=>if(eP i 0) then some (iH,[],i)else dH (eD c 1 1) λj=>if(eP j 0) then some (iH,[],j)else dH (fp c [.nat]) λk=>dH (gl k F) λl=>dH (iw FU F 1 1) λo=>dH (fQ 5 [v0]) λq=>dU (e8 n l b o q) λr d=>if(eP d 0) then some (iH,[],d)else dU (jx F t) λs u=>dH (kl t) λv=>dH (gp v G) λw=>dH (gx r 1) λx=>dH (gp w x) λy=>some (s,y,u)) λA B C=>some (A,B,C):=by
 rw[ek];rw[oX];rfl
def aaU(n:Nat)(c:dS)(t:Tm)(F:Fm)(a b:Pf):ek (n+2) c (.mk 17 0 .z [t] [F] [a,b])=eZ (gB (fI c.ak9 [.fS])<|dH (kF (fR c.ak9 [.fS]) F) λf=>if(eP f 0) then some (iH,[],f)else dH (hR c t 2) λh=>if(eP h 0) then some (iH,[],h)else dH (fQ 7 []) λG=>dU (e8 n c a F G) λH i=>if(eP i 0) then some (iH,[],i)else dH (eD c 2 1) λj=>if(eP j 0) then some (iH,[],j)else dH (fp c [.nat,.fS]) λk=>dH (iw FU F 1 1) λl=>dH (gl k l) λo=>dH (iw FU F 1 2) λq=>dH (fQ 8 [v1,v0]) λr=>dU (e8 n o b q r) λs d=>if(eP d 0) then some (iH,[],d)else dU (jx F t) λu v=>dH (kl t) λw=>dH (gp w H) λx=>dH (gx s 2) λy=>dH (gp x y) λA=>some (u,A,v)) λB C D=>some (B,C,D):=by
 rw[ek];rw[nB];rfl
def Mn(L:List Fm)(t:Tm)(F:Fm)(a b:Pf)(g:List Ty)(hs:List Fm):pE L 16 0 .z [t] [F] (Pf.u7 L [a,b]) g hs=jC (F.x9 (g++[.nat])) (jC (qJ t g 1) (pbind (B1 (a.inf L g hs) F rA) λ_ m=>vP (16<g.length+1\/16<hs.length+1) 3 (pbind (B1 (b.inf L (g++[.nat]) (hs.map (Fm.up 0 1)++[F])) (F.up 1 1) (ru v0)) λ_ n=>jC (kA F t).2 (.inl ((kA F t).1,(s0 t|||m)|||n/2))))):=rfl
def HM(L:List Fm)(t:Tm)(F:Fm)(a b:Pf)(g:List Ty)(hs:List Fm):pE L 17 0 .z [t] [F] (Pf.u7 L [a,b]) g hs=jC (F.x9 (g++[.fS])) (jC (qJ t g 2) (pbind (B1 (a.inf L g hs) F (.mk 7 0 .z [])) λ_ m=>vP (16<g.length+2\/16<hs.length+1) 3 (pbind (B1 (b.inf L (g++[.nat]++[.fS]) (hs.map (Fm.up 0 2)++[F.up 1 1])) (F.up 1 2) (.mk 8 0 .z [v1,v0])) λ_ n=>jC (kA F t).2 (.inl ((kA F t).1,(s0 t|||m)|||n/4))))):=rfl
def P'{L:List Fm}{t:Tm}(i:t.err=0){F:Fm}(hF:F.err=0){a b:Pf}{N:Nat}(V:jd L a N)(W:jd L b N):jd L (.mk 16 0 .z [t] [F] [a,b]) (N+5):=by
 refine jd.of λn' X c h=>?_;have n:=h.pl.nv;have D:=h.pl.ctx;have Y:=(Fm.ia hF).2;obtain⟨t2,_⟩:=tg D.nat acx hF;have s2:=has_both D n rfl i 1;rw[show n'+4=n'+2+2 from rfl,aae,Mn,fg acx,ec,ij,t2,dI,s2,dI]
 by_cases u:F.x9 (c.ak9++[.nat])=0
 ·have y:=u;rw[<-w5 (a:=_=_),<-ne_eq,<-ez] at y;rw[dK y,fP u];have d:=rG F (Fm.ia hF).1 _ D.nat u;have I:F.ak' 1000000000=true:=d.ak' _ acx
  by_cases x:qJ t c.ak9 1=0
  ·have y:=x;rw[<-w5 (a:=_=_),<-ne_eq,<-ez] at y;rw[dK y,fP x];have A:ef c.ak9 t .nat:=BL D i (.inl rfl) x;have J:s6 c.ak9 F rA:=⟨hF,agD,.nat,d,.zero⟩;rw[show fQ 4 []=some rA from AW,dI];rcases tG n (V (n'+1) VW c h) J with⟨e,l,m,he,j,o,hu⟩|⟨f,m,l,j,o,hu⟩
   ·rw[j,o,dQ,dR (by rw[ez];exact he)];exact lG.no he rfl rfl
   ·rw[j,o,dQ,dK nz,fo];rcases h.room (v:=1) (k:=1) VW VW with⟨r,S,Z⟩|⟨r,S⟩
    ·have r:eD c 1 1=some 0:=r;rw[r,dI,dK nz,g_ VW];obtain⟨c1,e2,e3,G,K⟩:=h.below Ty.gR S;obtain⟨H,b2,T,M,U⟩:=e3.with (f:=F) (by rw[G];exact⟨hF,d⟩) (by rw[K];simpa using Z);have l3:iw FU F 1 1=some (F.up 1 1):=(D2 hF I (f:=1) (c:=1) VW VW).2;rw[e2,dI,b2,dI,l3,dI];rw[show fQ 5 [v0]=some (ru v0)from O7 aak,dI];have hi:=W (n'+1) VW H T;have O:H.ak9.length<=16:=T.pl.nv
     have B:H.ak9=c.ak9++[.nat]:=by rw[M,G]
     have P:s6 H.ak9 (F.up 1 1) (ru v0):=⟨CU hF VW VW,acH,.nat,by
      rw[B];have:=d.up c.ak9 [.nat] [.nat] rfl
      simpa using this,by rw[B];exact .succ kG⟩
     rcases tG O hi P with⟨e,Q,m',he,j,o,s⟩|⟨f',m',Q,j,o,s⟩
     ·rw[M,U,G,K] at j;rw[j,o,dQ,dR (by rw[ez];exact he)];exact lG.no he rfl rfl
     ·rw[M,U,G,K] at j;obtain⟨lf,f2,f3⟩:=yw n A i;have C:s6 c.ak9 F t:=⟨hF,i,.nat,d,A⟩;obtain⟨u1,u3⟩:=s.out (by have:=s.len;omega) (k:=1) VW;have u1:gx Q 1=some (x8 ((1:Nat):Int) Q):=u1;obtain⟨q,v1,v2,v3,_⟩:=f3.union hu (by have:=f3.len;omega) (by have:=hu.len;omega);obtain⟨q',w1,w2,w3,_⟩:=v3.union u3 (by have:=v3.len;omega) (by have:=u3.len;omega);rw[j,o,dQ,dK nz,fo,C.both VW];obtain⟨w,e,hw⟩:∃w e,kA F t=(w,e):=⟨_,_,rfl⟩;rw[hw,dQ,f2,dI,v1,dI,u1,dI,w1,dI];simp only[];skip;rcases mb F t with R|⟨ad,R⟩
      ·rw[R] at hw;obtain⟨rfl,rfl⟩:=iM hw;rw[jf aak];exact lG.no aak rfl rfl
      ·rw[R] at hw;obtain⟨rfl,rfl⟩:=iM hw;rw[fP rfl];exact lG.yes (f:=Fm.gJ 0 F t) rfl rfl w3 C.put VW
    ·have r:eD c 1 1=some 3:=r;rw[r,dI,dR aak,j2 VW];exact lG.no aak rfl rfl
  ·rw[dR (by rw[ez];exact x),jf x];exact lG.no x rfl rfl
 ·rw[dR (by rw[ez];exact u),jf u];exact lG.no u rfl rfl
def PO{L:List Fm}{t:Tm}(i:t.err=0){F:Fm}(hF:F.err=0){a b:Pf}{N:Nat}(V:jd L a N)(W:jd L b N):jd L (.mk 17 0 .z [t] [F] [a,b]) (N+5):=by
 refine jd.of λn' X c h=>?_;have n:=h.pl.nv;have G:=h.pl.ctx;have Y:=(Fm.ia hF).2;obtain⟨t2,_⟩:=tg G.fS acx hF;have s2:=has_both G n rfl i 2;rw[show n'+4=n'+2+2 from rfl,aaU,HM,fg acx,ec,ij,t2,dI,s2,dI]
 by_cases u:F.x9 (c.ak9++[.fS])=0
 ·have y:=u;rw[<-w5 (a:=_=_),<-ne_eq,<-ez] at y;rw[dK y,fP u];have d:=rG F (Fm.ia hF).1 _ G.fS u;have A:F.ak' 1000000000=true:=d.ak' _ acx
  by_cases x:qJ t c.ak9 2=0
  ·have y:=x;rw[<-w5 (a:=_=_),<-ne_eq,<-ez] at y;rw[dK y,fP x];have B:ef c.ak9 t .fS:=BL G i (.inr rfl) x;have J:s6 c.ak9 F (.mk 7 0 .z []):=⟨hF,aaI,.fS,d,.nil⟩;rw[show fQ 7 []=some (.mk 7 0 .z [])from AW,dI];rcases tG n (V (n'+1) VW c h) J with⟨e,l,m,he,j,o,hu⟩|⟨f,m,l,j,o,hu⟩
   ·rw[j,o,dQ,dR (by rw[ez];exact he)];exact lG.no he rfl rfl
   ·rw[j,o,dQ,dK nz,fo];rcases h.room (v:=2) (k:=1) VW VW with⟨r,S,Z⟩|⟨r,S⟩
    ·have r:eD c 2 1=some 0:=r;rw[r,dI,dK nz,g_ VW];obtain⟨c1,e2,e3,H,K⟩:=Tu h S;obtain⟨I,b2,T,M,U⟩:=e3.with (f:=F.up 1 1) (by rw[H];exact⟨CU hF VW VW,by have:=d.up c.ak9 [.fS] [.nat] rfl;simpa using this⟩) (by rw[K];simpa using Z);have l3:iw FU F 1 1=some (F.up 1 1):=(D2 hF A (f:=1) (c:=1) VW VW).2;have l4:iw FU F 1 2=some (F.up 1 2):=(D2 hF A (f:=1) (c:=2) VW VW).2;rw[e2,dI,l3,dI,b2,dI,l4,dI];rw[show fQ 8 [v1,v0]=some (.mk 8 0 .z [v1,v0])from vV aak aak,dI];have hi:=W (n'+1) VW I T;have O:I.ak9.length<=16:=T.pl.nv
     have C:I.ak9=c.ak9++[.nat]++[.fS]:=by rw[M,H]
     have P:s6 I.ak9 (F.up 1 2) (.mk 8 0 .z [v1,v0]):=⟨CU hF VW VW,aeV,.fS,by
      rw[C];have:=d.up c.ak9 [.fS] [.nat,.fS] rfl
      simpa using this,by rw[C];exact .cons sQ kG⟩
     rcases tG O hi P with⟨e,Q,m',he,j,o,s⟩|⟨f',m',Q,j,o,s⟩
     ·rw[M,U,H,K] at j;rw[j,o,dQ,dR (by rw[ez];exact he)];exact lG.no he rfl rfl
     ·rw[M,U,H,K] at j;obtain⟨lf,f2,f3⟩:=yw n B i;have D:s6 c.ak9 F t:=⟨hF,i,.fS,d,B⟩;obtain⟨u1,u3⟩:=s.out (by have:=s.len;omega) (k:=2) VW;have u1:gx Q 2=some (x8 ((2:Nat):Int) Q):=u1;obtain⟨q,v1,v2,v3,_⟩:=f3.union hu (by have:=f3.len;omega) (by have:=hu.len;omega);obtain⟨q',w1,w2,w3,_⟩:=v3.union u3 (by have:=v3.len;omega) (by have:=u3.len;omega);rw[j,o,dQ,dK nz,fo,D.both VW];obtain⟨w,e,hw⟩:∃w e,kA F t=(w,e):=⟨_,_,rfl⟩;rw[hw,dQ,f2,dI,v1,dI,u1,dI,w1,dI];simp only[];skip;rcases mb F t with R|⟨ad,R⟩
      ·rw[R] at hw;obtain⟨rfl,rfl⟩:=iM hw;rw[jf aak];exact lG.no aak rfl rfl
      ·rw[R] at hw;obtain⟨rfl,rfl⟩:=iM hw;rw[fP rfl];exact lG.yes (f:=Fm.gJ 0 F t) rfl rfl w3 D.put VW
    ·have r:eD c 2 1=some 3:=r;rw[r,dI,dR aak,j2 VW];exact lG.no aak rfl rfl
  ·rw[dR (by rw[ez];exact x),jf x];exact lG.no x rfl rfl
 ·rw[dR (by rw[ez];exact u),jf u];exact lG.no u rfl rfl
def Tm.oT{t:Tm}(h:t.ok=true)(hn:t.ak7<=4096):t.err=0:=by grind[Tm.err]
def ad6(n:Nat)(c:dS)(t:Tm):ek (n+1) c (.mk 18 0 .z [t] [] [])=dH (yf t t) λa=>dH (hR c t 1) λb=>some (a,[],b):=by rw[ek];rfl
def MB(L:List Fm)(t:Tm)(g:List Ty)(hs:List Fm):pE L 18 0 .z [t] [] (Pf.u7 L []) g hs=jC (qJ t g 1) (.inl (.mk 1 .z [t,t] [],0)):=rfl
def Tl{L:List Fm}{t:Tm}(a:t.err=0):jd L (.mk 18 0 .z [t] [] []) 5:=by
 refine jd.of (N:=0) λn' _ c h=>?_;have f:=h.pl.nv;have i:=h.pl.ctx;obtain⟨a1,a2⟩:=Tm.ia a;have hw:=t.jr a1;rw[show n'+4=n'+3+1 from rfl,ad6,MB,has_both i f rfl a 1,agv VW VW,dI,dI]
 by_cases b:qJ t c.ak9 1=0
 ·have d:ef c.ak9 t .nat:=BL i a (.inl rfl) b;rw[fP b,b];refine lG.yes rfl rfl .nil (.eq d d) ?_;rw[Fm.dP];simp only[ei];omega
 ·rw[jf b];exact lG.no b rfl rfl
def aay(n:Nat)(c:dS)(F:Fm)(a b:Pf):ek (n+2) c (.mk 19 0 .z [] [F] [a,b])=eZ (gB (fI c.ak9 [.nat])<|dH (kF (fR c.ak9 [.nat]) F) λf=>if(eP f 0) then some (iH,[],f)else dU (eu n c a) λd h=>if(eP h 0) then some (iH,[],h)else if(eP d.dZ.ak5 1) then some (iH,[],10)else dH (dW d.dZ.eh 0) λs=>dU (e8 n c b F s) λt i=>if(eP i 0) then some (iH,[],i)else dH (dW d.dZ.eh 1) λj=>dU (jx F j) λk l=>some (k,t,l)) λo q r=>some (o,q,r):=by
 rw[ek];rw[nC];rfl
def HS(L:List Fm)(F:Fm)(a b:Pf)(g:List Ty)(hs:List Fm):pE L 19 0 .z [] [F] (Pf.u7 L [a,b]) g hs=jC (F.x9 (g++[.nat])) (pbind (FZ (a.inf L g hs) 1) λa _=>pbind (B1 (b.inf L g hs) F (a.eh.getD 0 Tm.z)) λ_ n=>jC (kA F (a.eh.getD 1 Tm.z)).2 (.inl ((kA F (a.eh.getD 1 Tm.z)).1,n))):=rfl
def QX{L:List Fm}{F:Fm}(hF:F.err=0){a b:Pf}{N:Nat}(G:jd L a N)(H:jd L b N):jd L (.mk 19 0 .z [] [F] [a,b]) (N+5):=by
 refine jd.of λn' I c h=>?_;have q:=h.pl.nv;have w:=h.pl.ctx;have J:=(Fm.ia hF).2;obtain⟨t2,_⟩:=tg w.nat acx hF;rw[show n'+4=n'+2+2 from rfl,aay,HS,fg acx,ec,ij,t2,dI]
 by_cases k:F.x9 (c.ak9++[.nat])=0
 ·have A:=k;rw[<-w5 (a:=_=_),<-ne_eq,<-ez] at A;rw[dK A,fP k];have i:=rG F (Fm.ia hF).1 _ w.nat k;rcases na (G (n'+2) VW c h) 1 with⟨e,he,j,d⟩|⟨f,m,l,j,d,hu,B,r⟩
  ·rw[j];rcases d with d|⟨f,l,m,d,r,rfl,_⟩
   ·rw[d,dQ,dR (by rw[ez];exact he)];exact lG.no he rfl rfl
   ·rw[d,dQ,dK nz,dR (by rw[ez];exact r)];exact lG.no he rfl rfl
  ·obtain⟨x,y,rfl,C,D⟩:=B.ty.WD r;have n:=B.ak7;rw[Fm.dP] at n;simp only[ei] at n;have s:x.err=0:=Tm.oT C.ok VW;have t:y.err=0:=Tm.oT D.ok VW;have u:s6 c.ak9 F x:=⟨hF,s,.nat,i,C⟩;have o:s6 c.ak9 F y:=⟨hF,t,.nat,i,D⟩;rw[j,d,dQ,dK nz,dK aa2,fo];simp only[Fm.jB,eW,iv,lN,rq,dI,Ah,P9];rcases tG q (H (n'+1) VW c h) u with⟨e,l,m,he,j,d,hu⟩|⟨f,m,l,j,d,hu⟩
   ·rw[j,d,dQ,dR (by rw[ez];exact he)];exact lG.no he rfl rfl
   ·rw[j,d,dQ,dK nz,fo,o.both VW];rcases mb F y with v|⟨K,v⟩
    ·rw[v,dQ,jf aak];exact lG.no aak rfl rfl
    ·rw[v,dQ,fP rfl];exact lG.yes (f:=Fm.gJ 0 F y) rfl rfl hu o.put VW
 ·rw[dR (by rw[ez];exact k),jf k];exact lG.no k rfl rfl
def chR(f:Fm)(l:List Int):Option (Fm×List Int×Int):=
 ej (λ(d:Bool)=>if d then some (iH,[],10)else dH (dW f.ak6 0) λa=>dH (kT f.dM a.dM) λb=>dH (il b) λh=>if(eP h 0) then some (iH,[],4)else dH (dW a.ak6 0) λi=>dH (iw FU i 2 1) λj=>dH (fQ 3 [v1,v0]) λk=>dU (jx j k) λn o=>dH (nA 4 f.dM n) λq=>dH (nA 5 b q) λr=>some (r,l,o)) λc=>if(eP f.ak5 4) then c true else dH (dW f.ak6 0) λs=>c (eP s.ak5 5)
def ZM{f:Fm}{l:List Int}(h:f.ak5≠4):chR f l=some (iH,[],10):=by grind[eP,ez,chR,eg]
def aaF{s:Ty}{x:Fm}{l:List Int}(h:x.ak5≠5):chR (.mk 4 s [] [x]) l=some (iH,[],10):=by
 have r:eP x.ak5 5=true:=by rw[ez];exact h
 have e:chR (.mk 4 s [] [x]) l=(λ(c:Bool)=>if c then some (iH,[],10)else dH (dW [x] 0) λa=>dH (kT s a.dM) λb=>dH (il b) λd=>if(eP d 0) then some (iH,[],4)else dH (dW a.ak6 0) λf=>dH (iw FU f 2 1) λi=>dH (fQ 3 [v1,v0]) λj=>dU (jx i j) λk n=>dH (nA 4 s k) λo=>dH (nA 5 b o) λq=>some (q,l,n)) (eP x.ak5 5):=rfl
 grind
def ahA{s u:Ty}{y:Fm}{l:List Int}:chR (.mk 4 s [] [.mk 5 u [] [y]]) l=dH (kT s u) λa=>dH (il a) λb=>if(eP b 0) then some (iH,[],4)else dH (iw FU y 2 1) λc=>dH (fQ 3 [v1,v0]) λd=>dU (jx c d) λf h=>dH (nA 4 s f) λi=>dH (nA 5 a i) λj=>some (j,l,h):=rfl
def Wo(n:Nat)(c:dS)(a:Pf):ek (n+2) c (.mk 20 0 .z [] [] [a])=eZ (dU (eu n c a) λb d=>if(eP d 0) then some (iH,[],d)else chR b.dZ b.jL) λf h i=>some (f,h,i):=by
 rw[ek];rw[mK];rfl
def Jg(L:List Fm)(a:Pf)(g:List Ty)(hs:List Fm):pE L 20 0 .z [] [] (Pf.u7 L [a]) g hs=pbind (FZ (a.inf L g hs) 4) λa m=>vP ((a.ak6.getD 0 iH).ak5≠5) 10 (vP ((Ty.fn a.dM (a.ak6.getD 0 iH).dM).err≠0) 4 (vP ((kA (((a.ak6.getD 0 iH).ak6.getD 0 iH).up 2 1) (gC v1 v0)).2≠0) 4 (.inl (.mk 5 (Ty.fn a.dM (a.ak6.getD 0 iH).dM) [] [.mk 4 a.dM [] [(kA (((a.ak6.getD 0 iH).ak6.getD 0 iH).up 2 1) (gC v1 v0)).1]],m)))):=rfl
def Po{L:List Fm}{a:Pf}{N:Nat}(F:jd L a N):jd L (.mk 20 0 .z [] [] [a]) (N+5):=by
 refine jd.of λn' G c h=>?_;have H:=h.pl.nv;rw[show n'+4=n'+2+2 from rfl,Wo,Jg];rcases na (F (n'+2) VW c h) 4 with⟨e,he,n,i⟩|⟨f,m,l,n,i,hu,C,o⟩
 ·rw[n];rcases i with i|⟨f,l,m,i,o,rfl,_⟩
  ·rw[i,dQ,dR (by rw[ez];exact he)];exact lG.no he rfl rfl
  ·rw[i,dQ,dK nz,ZM o];exact lG.no he rfl rfl
 ·obtain⟨s,x,rfl,hs,D⟩:=C.ty.vX o (.inl rfl);have r:=C.sub (x:=x) aa2 D;rw[n,i,dQ,dK nz,fo]
  by_cases j:x.ak5=5
  ·obtain⟨u,y,rfl,t,v⟩:=D.vX j (.inr (.inl rfl));have d:=r.sub (x:=y) aa2 v;have I:=fc hs;have J:=fc t;have K:=d.ak7
   have M:(Ty.fn s u).ak7<=1000:=by rw[Ty.iz];omega
   have k:y.ak' 1000000000=true:=v.ak' _ acx;have S:qb y 2 1=some (y.up 2 1):=(D2 d.err k (f:=2) (c:=1) VW VW).1;have O:iw FU y 2 1=some (y.up 2 1):=(D2 d.err k (f:=2) (c:=1) VW VW).2
   have w:s6 (c.ak9++[.fn s u]++[s]) (y.up 2 1) (gC v1 v0):=⟨CU d.err VW VW,aak,u,by
    have:=v.up c.ak9 [s,u] [.fn s u] aa2
    simpa using this,.app sQ kG⟩
   have P:=w.both acx;have Q:=Rg;have hw:=Fm.jr _ w.put.ok;simp only[Fm.eH,Fm.fK,Fm.eL,Ah];rw[g_ aak,ahA,iP VW VW,dI,km VW,dI]
   by_cases b:(Ty.fn s u).err=0
   ·have A:¬eP (Ty.fn s u).err 0=true:=by rw[ez];simpa using b
    rw[dK A,g_ (by simpa using b),O,dI,show fQ 3 [v1,v0]=some (gC v1 v0)from vV aak aak,dI,P];rcases mb (y.up 2 1) (gC v1 v0)with B|⟨R,B⟩
    ·rw[B,dQ,j2 aak,Tn VW VW,dI];rw[Tn VW (by rw[Fm.iA];simp only[ei];omega),dI];exact lG.no aak rfl rfl
    ·rw[B,dQ,g_ (λh=>h rfl),Tn VW VW,dI];rw[Tn VW (by rw[Fm.iA];simp only[ei];omega),dI];refine lG.yes (f:=.mk 5 (.fn s u) [] [.mk 4 s [] [Fm.gJ 0 (y.up 2 1) (gC v1 v0)]]) rfl rfl hu (.q (.inr (.inl rfl)) b (.q (.inl rfl) hs w.put)) ?_;rw[Fm.dP];simp only[ei];rw[Fm.dP];simp only[ei];omega
   ·have A:eP (Ty.fn s u).err 0=true:=by rw[ez];exact b
    rw[dR A,j2 b];exact lG.no aak rfl rfl
  ·simp only[Fm.eH,Ah];rw[aaF j,j2 j];exact lG.no aak rfl rfl
inductive AZ:Pf->Prop
 |hyp {i}:0<=i->AZ (.mk 1 i .z [] [] [])|mm {i}:0<=i->AZ (.mk 2 i .z [] [] [])|Pu {a b}:AZ a->AZ b->AZ (.mk 3 0 .z [] [] [a,b])|and {k a}:k=4\/k=5->AZ a->AZ (.mk k 0 .z [] [] [a])|Nn {F a}:F.err=0->AZ a->AZ (.mk 6 0 .z [] [F] [a])|OB {a b}:AZ a->AZ b->AZ (.mk 7 0 .z [] [] [a,b])|all {k s a}:k=8\/k=12->s.err=0->AZ a->AZ (.mk k 0 s [] [] [a])|Yh {k t a}:k=9\/k=13->t.err=0->AZ a->AZ (.mk k 0 .z [t] [] [a])|ex {k t F a}:k=10\/k=14->t.err=0->F.err=0->AZ a->AZ (.mk k 0 .z [t] [F] [a])|Yx {k a b}:k=11\/k=15->AZ a->AZ b->AZ (.mk k 0 .z [] [] [a,b])|ind {k t F a b}:k=16\/k=17->t.err=0->F.err=0->AZ a->AZ b->AZ (.mk k 0 .z [t] [F] [a,b])|refl {t}:t.err=0->AZ (.mk 18 0 .z [t] [] [])|subst {F a b}:F.err=0->AZ a->AZ b->AZ (.mk 19 0 .z [] [F] [a,b])|choice {a}:AZ a->AZ (.mk 20 0 .z [] [] [a])
mutual
def Pf.An:Pf->Nat
 |.mk _ _ _ _ _ l=>1+Pf.w7 l
def Pf.w7:List Pf->Nat
 |[]=>0|p::l=>p.An+Pf.w7 l
end
theorem jd.mono{L:List Fm}{P:Pf}{N M:Nat}(h:jd L P N)(a:N<=M):jd L P M:=λn' b=>h n' VW
def U3{L:List Fm}{P:Pf}(h:AZ P):jd L P (5*P.An):=by
 induction h with
 |hyp hi=>exact WX hi|mm hi=>exact Wi hi|Pu _ _ a b=>exact(TU (a.mono (Rb _ _)) (b.mono (Q6 _ _))).mono (by simp only[Pf.An,Pf.w7];omega)|and c _ a=>
  rcases c with rfl|rfl
  ·exact(T3 a).mono (by simp only[Pf.An,Pf.w7];omega)
  ·exact(T4 a).mono (by simp only[Pf.An,Pf.w7];omega)
 |Nn hF _ a=>exact(Ut hF a).mono (by simp only[Pf.An,Pf.w7];omega)|OB _ _ a b=>exact(Tt (a.mono (Rb _ _)) (b.mono (Q6 _ _))).mono (by simp only[Pf.An,Pf.w7];omega)|all c hs _ a=>
  rcases c with rfl|rfl
  ·exact(TA hs a).mono (by simp only[Pf.An,Pf.w7];omega)
  ·exact(QZ hs a).mono (by simp only[Pf.An,Pf.w7];omega)
 |Yh c d _ a=>
  rcases c with rfl|rfl
  ·exact(Xv d a).mono (by simp only[Pf.An,Pf.w7];omega)
  ·exact(S0 d a).mono (by simp only[Pf.An,Pf.w7];omega)
 |ex c d hF _ a=>
  rcases c with rfl|rfl
  ·exact(SZ d hF a).mono (by simp only[Pf.An,Pf.w7];omega)
  ·exact(S4 d hF a).mono (by simp only[Pf.An,Pf.w7];omega)
 |Yx c _ _ a b=>
  rcases c with rfl|rfl
  ·exact(NY (a.mono (Rb _ _)) (b.mono (Q6 _ _))).mono (by simp only[Pf.An,Pf.w7];omega)
  ·exact(Oz (a.mono (Rb _ _)) (b.mono (Q6 _ _))).mono (by simp only[Pf.An,Pf.w7];omega)
 |ind c d hF _ _ a b=>
  rcases c with rfl|rfl
  ·exact(P' d hF (a.mono (Rb _ _)) (b.mono (Q6 _ _))).mono (by simp only[Pf.An,Pf.w7];omega)
  ·exact(PO d hF (a.mono (Rb _ _)) (b.mono (Q6 _ _))).mono (by simp only[Pf.An,Pf.w7];omega)
 |refl d=>exact Tl d|subst hF _ _ a b=>exact(QX hF (a.mono (Rb _ _)) (b.mono (Q6 _ _))).mono (by simp only[Pf.An,Pf.w7];omega)|choice _ a=>exact(Po a).mono (by simp only[Pf.An,Pf.w7];omega)
mutual
def Pf.ak7:Pf->Nat
 |.mk _ _ _ ts fs l=>1+ei Tm.ak7 ts+ei Fm.ak7 fs+Pf.nR l
def Pf.nR:List Pf->Nat
 |[]=>0|p::l=>p.ak7+Pf.nR l
end
def Pf.rO:∀l:List Pf,Pf.nR l=ei Pf.ak7 l
 |[]=>by rw[Pf.nR];rfl|p::l=>by rw[Pf.nR,Pf.rO l];rfl
theorem Pf.dP(k i:Int)(s:Ty)(ts:List Tm)(fs:List Fm)(l:List Pf):(Pf.mk k i s ts fs l).ak7=1+ei Tm.ak7 ts+ei Fm.ak7 fs+ei Pf.ak7 l:=by rw[Pf.ak7,Pf.rO]
mutual
def Pf.wt:Pf->Nat
 |.mk _ _ s ts fs l=>1+s.ak7+ei Tm.wt ts+ei Fm.wt fs+Pf.Qa l
def Pf.Qa:List Pf->Nat
 |[]=>0|p::l=>p.wt+Pf.Qa l
end
def Pf.Fe:∀l:List Pf,Pf.Qa l=ei Pf.wt l
 |[]=>by rw[Pf.Qa];rfl|p::l=>by rw[Pf.Qa,Pf.Fe l];rfl
theorem Pf.iA(k i:Int)(s:Ty)(ts:List Tm)(fs:List Fm)(l:List Pf):(Pf.mk k i s ts fs l).wt=1+s.ak7+ei Tm.wt ts+ei Fm.wt fs+ei Pf.wt l:=by rw[Pf.wt,Pf.Fe]
def Pf.kb(p:Pf):1<=p.wt:=by cases p;rw[Pf.iA];omega
def Pf.eM(p:Pf):1<=p.ak7:=by cases p;rw[Pf.dP];omega
def Pf.ind{p:Pf->Prop}(h:∀k i s ts fs l,(∀t∈l,p t)->p (.mk k i s ts fs l))(t:Pf):p t:=by
 match t with
 |.mk k i s ts fs l=>exact h k i s ts fs l λx a=>Pf.ind h x
termination_by SizeOf.sizeOf t
decreasing_by
 have:=adr a;simp only[Pf.mk.sizeOf_spec];omega
def Pf.ik(p:Pf):p.ak7<=p.wt:=by
 induction p using Pf.ind with
 |h k i s ts fs l ih=>
  rw[Pf.dP,Pf.iA];have a:=kZ (l:=ts) (λx _=>Tm.ik x);have b:=kZ (l:=fs) (λx _=>Fm.ik x);have c:=kZ (l:=l) ih;omega
def Pf.sig(k:Int):Option (Bool×Bool×Nat×Nat×Nat):=
 if k=1\/k=2 then some (true,false,0,0,0)
 else if k=3\/k=7\/k=11\/k=15 then some (false,false,0,0,2)
 else if k=4\/k=5\/k=20 then some (false,false,0,0,1)
 else if k=6 then some (false,false,0,1,1)
 else if k=8\/k=12 then some (false,true,0,0,1)
 else if k=9\/k=13 then some (false,false,1,0,1)
 else if k=10\/k=14 then some (false,false,1,1,1)
 else if k=16\/k=17 then some (false,false,1,1,2)
 else if k=18 then some (false,false,1,0,0)
 else if k=19 then some (false,false,0,1,2)
 else none
def Pf.node(k i:Int)(s:Ty)(d nf f:Nat):Bool:=
 match Pf.sig k with
 |none=>false|some (h,ty,a,b,c)=>decide (d=a)&&decide (nf=b)&&decide (f=c)&&decide (0<=i)&&(h||decide (i=0))&&(if ty then decide (s.err=0)else s.rH)
mutual
def Pf.ok:Pf->Bool
 |.mk k i s ts fs l=>Pf.node k i s ts.length fs.length l.length&&ts.all Tm.ok&&fs.all Fm.ok&&Pf.Lt l
def Pf.Lt:List Pf->Bool
 |[]=>true|p::l=>p.ok&&Pf.Lt l
end
def Pf.Bt:∀l:List Pf,Pf.Lt l=l.all Pf.ok
 |[]=>by rw[Pf.Lt];rfl|p::l=>by rw[Pf.Lt,Pf.Bt l];rfl
theorem Pf.hH(k i:Int)(s:Ty)(ts:List Tm)(fs:List Fm)(l:List Pf):(Pf.mk k i s ts fs l).ok=(Pf.node k i s ts.length fs.length l.length&&ts.all Tm.ok&&fs.all Fm.ok&&l.all Pf.ok):=by rw[Pf.ok,Pf.Bt]
def Tg(t:Tm):Bool:=decide (t.ak7<=4096)
def Te(f:Fm):Bool:=decide (f.ak7<=4096)
mutual
def Pf.small:Pf->Bool
 |.mk _ _ _ ts fs l=>ts.all Tg&&fs.all Te&&Pf.JW l
def Pf.JW:List Pf->Bool
 |[]=>true|p::l=>p.small&&Pf.JW l
end
def Pf.Lb:∀l:List Pf,Pf.JW l=l.all Pf.small
 |[]=>by rw[Pf.JW];rfl|p::l=>by rw[Pf.JW,Pf.Lb l];rfl
def Pf.AF(k i:Int)(s:Ty)(ts:List Tm)(fs:List Fm)(l:List Pf):(Pf.mk k i s ts fs l).small=(ts.all Tg&&fs.all Te&&l.all Pf.small):=by rw[Pf.small,Pf.Lb]
def Pf.err(p:Pf):Int:=if p.ok then(if p.small=true/\p.ak7<=16384 then 0 else 4)else 2
def ae3{k:Int}(h:Pf.sig k≠none):k=1\/k=2\/k=3\/k=4\/k=5\/k=6\/k=7\/k=8\/k=9\/k=10\/k=11\/k=12\/k=13\/k=14\/k=15\/k=16\/k=17\/k=18\/k=19\/k=20:=by
 refine ZU λhn=>h ?_;unfold Pf.sig;simp only[not_or] at hn;rw[dK VW,dK VW,dK VW,dK VW,dK VW,dK VW,dK VW,dK VW,dK VW,dK VW]
def Pj{k:Int}(h:k<1\/20<k):Pf.sig k=none:=by
 unfold Pf.sig;rw[dK VW,dK VW,dK VW,dK VW,dK VW,dK VW,dK VW,dK VW,dK VW,dK VW]
def TD(k:Int):(Pf.sig k=none/\∃r,pK k=some (r,false))\/∃d ty a b c r,Pf.sig k=some (d,ty,a,b,c)/\pK k=some (r,true)/\r.ak8=d/\r.typed=ty/\r.eh=((a:Nat):Int)/\r.fW=((b:Nat):Int)/\r.ak6=((c:Nat):Int):=by
 by_cases h:k<1\/20<k
 ·refine .inl ⟨Pj h,?_⟩;unfold pK;rw[dR (by rw[lU,tR,j3,jk];omega)];exact⟨_,rfl⟩
 ·have f:k=1\/k=2\/k=3\/k=4\/k=5\/k=6\/k=7\/k=8\/k=9\/k=10\/k=11\/k=12\/k=13\/k=14\/k=15\/k=16\/k=17\/k=18\/k=19\/k=20:=VW
  refine .inr ?_;rcases f with rfl|rfl|rfl|rfl|rfl|rfl|rfl|rfl|rfl|rfl|rfl|rfl|rfl|rfl|rfl|rfl|rfl|rfl|rfl|rfl<;>exact⟨_,_,_,_,_,_,rfl,rfl,rfl,rfl,rfl,rfl,rfl⟩
def RA(k:Int):(Pf.sig k=none/\∃r,pg k=some (r,false))\/∃d ty a b c r,Pf.sig k=some (d,ty,a,b,c)/\pg k=some (r,true)/\r.ak8=d/\r.M'=ty/\r.eh=((a:Nat):Int)/\r.fW=((b:Nat):Int)/\r.ak6=((c:Nat):Int):=by
 by_cases h:k<1\/20<k
 ·refine .inl ⟨Pj h,?_⟩;unfold pg;simp only[lU,tR,fZ];rw[dK VW,dK VW,dK VW,dK VW,dK VW,dK VW,dK VW,dK VW,dK VW,dK VW,dK VW];exact⟨_,rfl⟩
 ·have f:k=1\/k=2\/k=3\/k=4\/k=5\/k=6\/k=7\/k=8\/k=9\/k=10\/k=11\/k=12\/k=13\/k=14\/k=15\/k=16\/k=17\/k=18\/k=19\/k=20:=VW
  refine .inr ?_;rcases f with rfl|rfl|rfl|rfl|rfl|rfl|rfl|rfl|rfl|rfl|rfl|rfl|rfl|rfl|rfl|rfl|rfl|rfl|rfl|rfl<;>exact⟨_,_,_,_,_,_,rfl,rfl,rfl,rfl,rfl,rfl,rfl⟩
def jA{k i:Int}{s:Ty}{j nf l:Nat}(h:Pf.node k i s j nf l=true){n ty:Bool}{a b c:Nat}(hs:Pf.sig k=some (n,ty,a,b,c)):(j:Int)=a/\(nf:Int)=b/\(l:Int)=c/\0<=i/\(n=false->i=0)/\(ty=true->s.err=0)/\(ty=false->s=.mk 0 []):=by
 unfold Pf.node at h;rw[hs] at h;simp only[hD,oy,tR] at h;obtain⟨⟨⟨⟨⟨t,u⟩,v⟩,o⟩,q⟩,d⟩:=h;refine⟨VW,VW,VW,o,λr=>q.resolve_left (by simp[r]),λf=>?_,λf=>?_⟩
 ·rw[dR f] at d;simpa using d
 ·rw[dK (by simp[f])] at d;exact(Ty.mI s).1 d
def Pf.w(p:Pf):p.ok=true->p.small=true->AZ p:=by
 induction p using Pf.ind with
 |h k i s ts fs l ih=>
  intro B hs;rw[Pf.hH] at B;rw[Pf.AF] at hs;simp only[hD,k_] at B hs;obtain⟨⟨⟨q,C⟩,D⟩,G⟩:=B;obtain⟨⟨s1,s2⟩,H⟩:=hs;have y:∀t∈ts,t.err=0:=λt v=>Tm.oT (C t v) (by have:=s1 t v;simpa[Tg] using this)
  have A:∀f∈fs,f.err=0:=λf v=>by
   have:=s2 f v;simp only[Te,oy] at this;unfold Fm.err;rw[dR (D f v),dK VW]
  have o:∀x∈l,AZ x:=λx v=>ih x v (G x v) (H x v);clear ih C D G s1 s2 H;have I:=ae3 (k:=k) (λhn=>by unfold Pf.node at q;rw[hn] at q;cases q);rcases I with rfl|rfl|rfl|rfl|rfl|rfl|rfl|rfl|rfl|rfl|rfl|rfl|rfl|rfl|rfl|rfl|rfl|rfl|rfl|rfl
  ·obtain⟨q1,c,d,r,j,u,n⟩:=jA q rfl;obtain rfl:=gq.1 q1;obtain rfl:=gq.1 c;obtain rfl:=gq.1 d;obtain rfl:=n rfl;exact .hyp r
  ·obtain⟨q1,c,d,r,j,u,n⟩:=jA q rfl;obtain rfl:=gq.1 q1;obtain rfl:=gq.1 c;obtain rfl:=gq.1 d;obtain rfl:=n rfl;exact .mm r
  ·obtain⟨q1,c,d,r,j,u,n⟩:=jA q rfl;obtain rfl:=gq.1 q1;obtain rfl:=gq.1 c;obtain⟨a,b,rfl⟩:=qd d;obtain rfl:=j rfl;obtain rfl:=n rfl;exact .Pu (o a aa2) (o b aa2)
  ·obtain⟨q1,c,d,r,j,u,n⟩:=jA q rfl;obtain rfl:=gq.1 q1;obtain rfl:=gq.1 c;obtain⟨a,rfl⟩:=jq d;obtain rfl:=j rfl;obtain rfl:=n rfl;exact .and (.inl rfl) (o a aa2)
  ·obtain⟨q1,c,d,r,j,u,n⟩:=jA q rfl;obtain rfl:=gq.1 q1;obtain rfl:=gq.1 c;obtain⟨a,rfl⟩:=jq d;obtain rfl:=j rfl;obtain rfl:=n rfl;exact .and (.inr rfl) (o a aa2)
  ·obtain⟨q1,c,d,r,j,u,n⟩:=jA q rfl;obtain rfl:=gq.1 q1;obtain⟨F,rfl⟩:=jq c;obtain⟨a,rfl⟩:=jq d;obtain rfl:=j rfl;obtain rfl:=n rfl;exact .Nn (A F aa2) (o a aa2)
  ·obtain⟨q1,c,d,r,j,u,n⟩:=jA q rfl;obtain rfl:=gq.1 q1;obtain rfl:=gq.1 c;obtain⟨a,b,rfl⟩:=qd d;obtain rfl:=j rfl;obtain rfl:=n rfl;exact .OB (o a aa2) (o b aa2)
  ·obtain⟨q1,c,d,r,j,u,n⟩:=jA q rfl;obtain rfl:=gq.1 q1;obtain rfl:=gq.1 c;obtain⟨a,rfl⟩:=jq d;obtain rfl:=j rfl;exact .all (.inl rfl) (u rfl) (o a aa2)
  ·obtain⟨q1,c,d,r,j,u,n⟩:=jA q rfl;obtain⟨t,rfl⟩:=jq q1;obtain rfl:=gq.1 c;obtain⟨a,rfl⟩:=jq d;obtain rfl:=j rfl;obtain rfl:=n rfl;exact .Yh (.inl rfl) (y t aa2) (o a aa2)
  ·obtain⟨q1,c,d,r,j,u,n⟩:=jA q rfl;obtain⟨t,rfl⟩:=jq q1;obtain⟨F,rfl⟩:=jq c;obtain⟨a,rfl⟩:=jq d;obtain rfl:=j rfl;obtain rfl:=n rfl;exact .ex (.inl rfl) (y t aa2) (A F aa2) (o a aa2)
  ·obtain⟨q1,c,d,r,j,u,n⟩:=jA q rfl;obtain rfl:=gq.1 q1;obtain rfl:=gq.1 c;obtain⟨a,b,rfl⟩:=qd d;obtain rfl:=j rfl;obtain rfl:=n rfl;exact .Yx (.inl rfl) (o a aa2) (o b aa2)
  ·obtain⟨q1,c,d,r,j,u,n⟩:=jA q rfl;obtain rfl:=gq.1 q1;obtain rfl:=gq.1 c;obtain⟨a,rfl⟩:=jq d;obtain rfl:=j rfl;exact .all (.inr rfl) (u rfl) (o a aa2)
  ·obtain⟨q1,c,d,r,j,u,n⟩:=jA q rfl;obtain⟨t,rfl⟩:=jq q1;obtain rfl:=gq.1 c;obtain⟨a,rfl⟩:=jq d;obtain rfl:=j rfl;obtain rfl:=n rfl;exact .Yh (.inr rfl) (y t aa2) (o a aa2)
  ·obtain⟨q1,c,d,r,j,u,n⟩:=jA q rfl;obtain⟨t,rfl⟩:=jq q1;obtain⟨F,rfl⟩:=jq c;obtain⟨a,rfl⟩:=jq d;obtain rfl:=j rfl;obtain rfl:=n rfl;exact .ex (.inr rfl) (y t aa2) (A F aa2) (o a aa2)
  ·obtain⟨q1,c,d,r,j,u,n⟩:=jA q rfl;obtain rfl:=gq.1 q1;obtain rfl:=gq.1 c;obtain⟨a,b,rfl⟩:=qd d;obtain rfl:=j rfl;obtain rfl:=n rfl;exact .Yx (.inr rfl) (o a aa2) (o b aa2)
  ·obtain⟨q1,c,d,r,j,u,n⟩:=jA q rfl;obtain⟨t,rfl⟩:=jq q1;obtain⟨F,rfl⟩:=jq c;obtain⟨a,b,rfl⟩:=qd d;obtain rfl:=j rfl;obtain rfl:=n rfl;exact .ind (.inl rfl) (y t aa2) (A F aa2) (o a aa2) (o b aa2)
  ·obtain⟨q1,c,d,r,j,u,n⟩:=jA q rfl;obtain⟨t,rfl⟩:=jq q1;obtain⟨F,rfl⟩:=jq c;obtain⟨a,b,rfl⟩:=qd d;obtain rfl:=j rfl;obtain rfl:=n rfl;exact .ind (.inr rfl) (y t aa2) (A F aa2) (o a aa2) (o b aa2)
  ·obtain⟨q1,c,d,r,j,u,n⟩:=jA q rfl;obtain⟨t,rfl⟩:=jq q1;obtain rfl:=gq.1 c;obtain rfl:=gq.1 d;obtain rfl:=j rfl;obtain rfl:=n rfl;exact .refl (y t aa2)
  ·obtain⟨q1,c,d,r,j,u,n⟩:=jA q rfl;obtain rfl:=gq.1 q1;obtain⟨F,rfl⟩:=jq c;obtain⟨a,b,rfl⟩:=qd d;obtain rfl:=j rfl;obtain rfl:=n rfl;exact .subst (A F aa2) (o a aa2) (o b aa2)
  ·obtain⟨q1,c,d,r,j,u,n⟩:=jA q rfl;obtain rfl:=gq.1 q1;obtain rfl:=gq.1 c;obtain⟨a,rfl⟩:=jq d;obtain rfl:=j rfl;obtain rfl:=n rfl;exact .choice (o a aa2)
structure TR (d d':dX) (s:Bool) (n:Nat):Prop where
 lo:d.ak7<=d'.ak7
 hi:d'.ak7<=d.ak7+n
 eq:s=true->d'.ak7=d.ak7+n
 iS:d'.iS=(d.iS||!s)
def TR.trans{d c a:dX}{s f:Bool}{n n':Nat}(h:TR d c s n)(b:TR c a f n'):TR d a (s&&f) (n+n'):=by
 refine⟨by have:=h.lo;have:=b.lo;omega,by have:=h.hi;have:=b.hi;omega,λhs=>?_,?_⟩
 ·rw[hD] at hs;have:=h.eq hs.1;have:=b.eq hs.2;omega
 ·rw[b.iS,h.iS,Bool.not_and,Bool.or_assoc]
def y7{α:Type}{F:Int->α->dX->Option (gm dX (Bool×dX))}(ok small:α->Bool)(sz:α->Nat):∀(l:List α) (i:Nat) (d:dX),0<=d.ak7->d.ak7+ei sz l<=4000000000->(∀(j:Int) (x:α) (d:dX),x∈l->0<=d.ak7->d.ak7+sz x<=4000000000->if ok x then∃a,F j x d=some (.next a)/\TR d a (small x) (sz x)else∃a,F j x d=some (.ret (false,a)))->if l.all ok then∃a,fk F l i d=some (.inl a)/\TR d a (l.all small) (ei sz l)else∃a,fk F l i d=some (.inr (false,a))
 |[],i,d,_,_,_=>⟨d,rfl,⟨VW,by simp[ei],λ_=>by simp[ei],aa2⟩⟩|x::l,i,d,o,q,h=>by
  simp only[ei] at q;have b:=h i x d aa2 o VW;rw[Nx]
  by_cases c:ok x=true
  ·rw[dR c] at b;obtain⟨d1,f,k⟩:=b;have ih:=y7 ok small sz l (i+1) d1 (by have:=k.lo;omega) (by have:=k.hi;omega) (λj y d r=>h j y d (by simp[r]));rw[gf,f];simp only[dI,fh,ei]
   by_cases n:l.all ok=true
   ·rw[dR n] at ih;obtain⟨d2,s,t⟩:=ih;rw[dR (by rw[hD];exact⟨c,n⟩)];exact⟨d2,s,k.trans t⟩
   ·grind
  ·rw[dK c] at b;obtain⟨d1,f⟩:=b;rw[dK (by rw[hD];exactλh=>c h.1),gf,f];exact⟨d1,rfl⟩
def KR{d:dX}{n e:Int}(a:-1000000000000<=d.ak7+n)(b:d.ak7+n<=1000000000000):hV d n e=some (eP e 2,⟨d.ak7+n,d.iS||eo e 4⟩):=by
 unfold hV;rw[fX VW VW];cases d.iS<;>rfl
def Tm.Fq(t:Tm):t.err=2/\t.ok=false\/t.ok=true/\Tg t=true/\t.err=0\/t.ok=true/\Tg t=false/\t.err=4:=by
 unfold Tm.err Tg;cases h:t.ok with
 |false=>grind|true=>grind
def Fm.Fq(t:Fm):t.err=2/\t.ok=false\/t.ok=true/\Te t=true/\t.err=0\/t.ok=true/\Te t=false/\t.err=4:=by
 unfold Fm.err Te;cases h:t.ok with
 |false=>grind|true=>grind
def I_{sz:Nat}{e:Int}{ok small:Bool}(c:e=2/\ok=false\/ok=true/\small=true/\e=0\/ok=true/\small=false/\e=4)(hs:sz<=1000000000){d:dX}(f:0<=d.ak7)(i:d.ak7+sz<=4000000000):if ok then∃b,(dU (hV d (if e=0 then(sz:Int)else 0) e) λa d179=>if a then some (.next d179)else some ((.ret (false,d179)):gm dX (Bool×dX)))=some (.next b)/\TR d b small sz else∃b,(dU (hV d (if e=0 then(sz:Int)else 0) e) λa d179=>if a then some (.next d179)else some ((.ret (false,d179)):gm dX (Bool×dX)))=some (.ret (false,b)):=by
 rcases c with⟨rfl,rfl⟩|⟨rfl,rfl,rfl⟩|⟨rfl,rfl,rfl⟩
 ·exact⟨_,rfl⟩
 ·rw[dR rfl,dR rfl,KR VW VW,dQ,dR aak];refine⟨_,rfl,⟨?_,?_,λ_=>rfl,?_⟩⟩
  all_goals grind[eo]
 ·rw[dR rfl,dK aak,KR VW VW,dQ,dR aak];refine⟨_,rfl,⟨?_,?_,λh=>by(cases h),?_⟩⟩
  all_goals grind[eo]
def Jo{h:Bool}{i a b c d nf f:Int}:fv true (fv (o7 i 0) true (fv (eP i 0) (fv h (fv (eP d a) true (fv (eP nf b) true (eP f c))) true) (fv (eP d a) true (fv (eP nf b) true (eP f c))))) true=true↔¬(d=a/\nf=b/\f=c/\0<=i/\(h=true\/i=0)):=by
 grind[D7,lU,eP,BR,j3]
def I'{d:Bool}{i a b c f nf h:Int}:fv true (fv (eP f a) true (fv (eP nf b) true (fv (eP h c) true (fv (o7 i 0) true (fv d false (eP i 0)))))) true=true↔¬(f=a/\nf=b/\h=c/\0<=i/\(d=true\/i=0)):=by
 cases d with
 |true=>
  grind[D7,lU,j3,ez]
 |false=>grind[D7,BR,lU,j3,ez]
def UE(ty:Bool)(s:Ty):Bool:=if ty then decide (s.err=0)else s.rH
theorem HP{k i:Int}{s:Ty}{d nf f:Nat}{h ty:Bool}{a b c:Nat}(hs:Pf.sig k=some (h,ty,a,b,c)):Pf.node k i s d nf f=true↔((d:Int)=a/\(nf:Int)=b/\(f:Int)=c/\0<=i/\(h=true\/i=0))/\UE ty s=true:=by
 grind[Pf.node,UE]
def TG(d:dX)(A s:Bool)(n:Nat)(o:Option (Bool×dX)):Prop:=(A=true->∃a,o=some (true,a)/\TR d a s n)/\(A=false->∃a,o=some (false,a))
theorem TG.no{d a:dX}{A s:Bool}{n:Nat}(h:A=false):TG d A s n (some (false,a)):=⟨λb=>(by rw[h] at b;cases b),λ_=>⟨a,rfl⟩⟩
def Tq(n:Nat)(d:dX)(k i:Int)(s:Ty)(ts:List Tm)(fs:List Fm)(l:List Pf):iL (n+1) d (.mk k i s ts fs l)=(dU (pK k) λf L=>
 if(fv L (fv (o7 i 0) true (fv (eP i 0) (fv f.ak8 (fv (eP (eA ts) f.eh) true (fv (eP (eA fs) f.fW) true (eP (eA l) f.ak6))) true) (fv (eP (eA ts) f.eh) true (fv (eP (eA fs) f.fW) true (eP (eA l) f.ak6))))) true) then(
 some (false,d))
 else(ej (λ(F:dX)=>
 gB (eV ts)<|ej (λ(M:Int) (G:Tm)=>(λ(a:dX)=>
 dU (ke G) λj o=>
 dU (hV a j o) λq d179=>
 if q then(
 some (.next d179))
 else(some (.ret (false,d179)))):Int->Tm->(dX)->(Option (gm (dX) (Bool×dX)))) λt=>
 dH (fk t ts 0 F) (fL (λ(a:dX)=>
 gB (eV fs)<|ej (λ(J:Int) (u:Fm)=>(λ(b:dX)=>
 dU (iN u) λv w=>
 dU (hV b v w) λx d322=>
 if x then(
 some (.next d322))
 else(some (.ret (false,d322)))):Int->Fm->(dX)->(Option (gm (dX) (Bool×dX)))) λy=>
 dH (fk y fs 0 a) (fL (λ(b:dX)=>
 gB (eV l)<|ej (λ(K:Int) (A:Pf)=>(λ(c:dX)=>
 dU (iL n c A) λB h=>
 if B then(
 some (.next h))
 else(some (.ret (false,h)))):Int->Pf->(dX)->(Option (gm (dX) (Bool×dX)))) λC=>
 dH (fk C l 0 b) (fL (λ(c:dX)=>
 some (true,c)) (λr=>some r))) (λr=>some r))) (λr=>some r))) λD=>
 if f.typed then(
 dU (iW s) λN H=>
 if(eP H 0) then(
 some (false,(dX.mk (eS .i64 d.ak7 1) d.iS)))
 else(D (dX.mk (eS .i64 d.ak7 1) d.iS)))
 else(dH (nZ s) λI=>
 if I then(
 D (dX.mk (eS .i64 d.ak7 1) d.iS))
 else(some (false,(dX.mk (eS .i64 d.ak7 1) d.iS)))))):=by
 rw[iL];rfl
def UY:∀(n:Nat) (P:Pf) (d:dX),P.wt<=n->P.wt<=1000000000->0<=d.ak7->d.ak7+P.ak7<=4000000000->TG d P.ok P.small P.ak7 (iL n d P):=by
 intro n
 induction n with
 |zero=>intro P d h;have:=P.kb;omega
 |succ n ih=>
  intro P d hn hb h0 hd;cases P with
  |mk k i s ts fs l=>
   rw[Pf.iA] at hn hb;rw[Pf.dP] at hd|-;have af:=jh Tm.wt ts λt _=>t.kb;have ah:=jh Fm.wt fs λt _=>t.kb;have ai:=jh Pf.wt l λt _=>t.kb;have m1:=kZ (l:=ts) (λx _=>Tm.ik x);have m2:=kZ (l:=fs) (λx _=>Fm.ik x);have m3:=kZ (l:=l) (λx _=>Pf.ik x);rw[Pf.hH,Pf.AF,Tq];rcases TD k with⟨M,r,O⟩|⟨ix,ty,a,b,c,r,M,O,g1,g2,g3,g4,g5⟩
   ·rw[O,dQ,BR,dR rfl];exact TG.no (by simp[Pf.node,M])
   ·rw[O,dQ,g1,g2,g3,g4,g5,fM,fM,fM]
    by_cases N:(ts.length:Int)=a/\(fs.length:Int)=b/\(l.length:Int)=c/\0<=i/\(ix=true\/i=0)
    ·rw[dK (λh=>Jo.1 h N)]
     have v:Pf.node k i s ts.length fs.length l.length=UE ty s:=by
      rw[Hj,HP M];exact⟨λh=>h.2,λh=>⟨N,h⟩⟩
     rw[v];cases f:UE ty s with
     |false=>
      have e:∀j:dX->Option (Bool×dX),(if ty then dU (iW s) λak Q=>if(eP Q 0) then some (false,(dX.mk (eS .i64 d.ak7 1) d.iS))else j (dX.mk (eS .i64 d.ak7 1) d.iS)else dH (nZ s) λR=>if R then j (dX.mk (eS .i64 d.ak7 1) d.iS)else some (false,(dX.mk (eS .i64 d.ak7 1) d.iS)))=some (false,(dX.mk (eS .i64 d.ak7 1) d.iS)):=by grind[UE,eP,ez,lq,dQ,r8,dI]
      refine vQ (λ_=>False) (λ_ h=>h.elim) (λj _=>?_);rw[e j];exact TG.no aa2
     |true=>
      refine vQ (λd1=>d1.ak7=d.ak7+1/\d1.iS=d.iS) (λd1 o=>?_) (λj hj=>?_)
      ·have t1:=y7 (F:=λ(an:Int) (S:Tm)=>(λ(w:dX)=>dU (ke S) λy A=>dU (hV w y A) λB d179=>if B then some (.next d179)else some (.ret (false,d179)))) Tm.ok Tg Tm.ak7 ts 0 d1 VW VW (λj x d q q0 q1=>by
        have:=eG Tm.wt q;have:=x.ik;rw[xf VW,dQ]
        exact I_ x.Fq VW q0 q1)
       rw[et VW,ec,eg];cases a1:ts.all Tm.ok with
       |false=>
        rw[a1,dK aak] at t1;obtain⟨d2,T⟩:=t1;rw[T,dI,sA];exact TG.no aa2
       |true=>
        rw[a1,dR rfl] at t1;obtain⟨d2,T,U⟩:=t1;have u1:=U.lo;have u2:=U.hi;rw[T,dI,eB,et VW,ec,eg]
        have t2:=y7 (F:=λ(ad:Int) (C:Fm)=>(λ(D:dX)=>dU (iN C) λG H=>dU (hV D G H) λI d322=>if I then some (.next d322)else some (.ret (false,d322)))) Fm.ok Te Fm.ak7 fs 0 d2 VW VW (λj x d q q0 q1=>by
         have:=eG Fm.wt q;have:=x.ik;rw[uy VW,dQ]
         exact I_ x.Fq VW q0 q1)
        cases a2:fs.all Fm.ok with
        |false=>
         rw[a2,dK aak] at t2;obtain⟨d3,V⟩:=t2;rw[V,dI,sA];exact TG.no aa2
        |true=>
         rw[a2,dR rfl] at t2;obtain⟨d3,V,W⟩:=t2;have u3:=W.lo;have u4:=W.hi;rw[V,dI,eB,et VW,ec,eg]
         have t3:=y7 (F:=λ(ae:Int) (J:Pf)=>(λ(K:dX)=>dU (iL n K J) λL u=>if L then some (.next u)else some (.ret (false,u)))) Pf.ok Pf.small Pf.ak7 l 0 d3 VW VW (λj x d q q0 q1=>by
          have:=eG Pf.wt q;have:=eG Pf.ak7 q;have:=x.ik;have q:=ih x d VW VW q0 VW;cases ho:x.ok with
          |true=>
           obtain⟨X,Y,w2⟩:=q.1 ho;rw[dR rfl,Y,dQ,dR rfl];exact⟨X,rfl,w2⟩
          |false=>
           obtain⟨X,Y⟩:=q.2 ho;rw[dK aak,Y,dQ,dK aak]
           exact⟨X,rfl⟩)
         cases a3:l.all Pf.ok with
         |false=>
          rw[a3,dK aak] at t3;obtain⟨d4,Z⟩:=t3;rw[Z,dI,sA];exact TG.no aa2
         |true=>
          rw[a3,dR rfl] at t3;obtain⟨d4,Z,r4⟩:=t3;rw[Z,dI,eB];refine⟨λ_=>⟨d4,rfl,?_⟩,λh=>by simp at h⟩;have r0:TR d d1 true 1:=⟨VW,VW,λ_=>by omega,by simp[o.2]⟩;have:=((r0.trans U).trans W).trans r4;rw[Ht] at this;exact this
      ·have o:=hj (dX.mk (eS .i64 d.ak7 1) d.iS) ⟨by show eS .i64 d.ak7 1=_;rw[fX VW VW],rfl⟩;unfold UE at f
       by_cases ht:ty=true
       ·rw[dR ht] at f|-
        have hz:¬eP s.err 0=true:=by rw[ez];simpa using f
        rw[lq VW,dQ,dK hz];exact o
       ·rw[dK ht] at f|-;rw[r8,dI,f,dR rfl];exact o
    ·rw[dR (Jo.2 N)];refine TG.no ?_
     have:Pf.node k i s ts.length fs.length l.length=false:=by
      rw[Wk]
      exactλh=>N ((HP M).1 h).1
     rw[this];simp
def I3{P:Pf}(h:P.wt<=1000000000):rY P=some P.err:=by
 have hn:=P.ik;have b:=UY FU P (dX.mk 0 false) (by rw[fB];omega) h (by show(0:Int)<=0;omega) (by show(0:Int)+_<=_;omega);unfold rY q9 Pf.err;cases c:P.ok with
 |false=>
  obtain⟨a,e⟩:=b.2 c
  grind[dQ]
 |true=>
  obtain⟨a,e,r⟩:=b.1 c;rw[e,dQ,dR rfl,dR rfl];have d:a.iS=!P.small:=r.iS;rw[d,lU];cases hs:P.small with
  |false=>grind[dQ]|true=>
   have f:a.ak7=(0:Int)+P.ak7:=r.eq hs
   grind[iD,dQ]
def SU(n:Nat)(k i:Int)(s:Ty)(ts:List Tm)(fs:List Fm)(l:List Pf):oc (n+1) (.mk k i s ts fs l)=(dU (pg k) λb A=>
 if(fv A (fv (eP (eA ts) b.eh) true (fv (eP (eA fs) b.fW) true (fv (eP (eA l) b.ak6) true (fv (o7 i 0) true (fv b.ak8 false (eP i 0)))))) true) then(
 some false)
 else(ej (λ(o:Bool)=>
 if o then(
 some false)
 else(gB (eV ts)<|ej (λ(B:Int) (q:Tm)=>(λ(_:Unit)=>
 dH (kH FU q) λt=>
 if t then(
 some (.next ()))
 else(some (.ret false))):Int->Tm->(Unit)->(Option (gm (Unit) (Bool)))) λu=>
 dH (fk u ts 0 ()) (fL (λ(_:Unit)=>
 gB (eV fs)<|ej (λ(C:Int) (v:Fm)=>(λ(_:Unit)=>
 dH (l9 FU v) λc=>
 if c then(
 some (.next ()))
 else(some (.ret false))):Int->Fm->(Unit)->(Option (gm (Unit) (Bool)))) λd=>
 dH (fk d fs 0 ()) (fL (λ(_:Unit)=>
 gB (eV l)<|ej (λ(y:Int) (f:Pf)=>(λ(_:Unit)=>
 dH (oc n f) λh=>
 if h then(
 some (.next ()))
 else(some (.ret false))):Int->Pf->(Unit)->(Option (gm (Unit) (Bool)))) λj=>
 dH (fk j l 0 ()) (fL (λ(_:Unit)=>
 some true) (λr=>some r))) (λr=>some r))) (λr=>some r)))) λa=>
 if b.M' then(
 dH (il s) λw=>
 if(eP w 0) then(
 a true)
 else(a false))
 else(dH (pD s) λx=>
 a (lJ x)))):=by
 rw[oc];rfl
def Ih:∀(n:Nat) (P:Pf),P.wt<=n->P.wt<=1000000000->oc n P=some P.ok:=by
 intro n
 induction n with
 |zero=>intro P h;have:=P.kb;omega
 |succ n ih=>
  intro P hn B;cases P with
  |mk k i s ts fs l=>
   rw[Pf.iA] at hn B;have C:=jh Tm.wt ts λt _=>t.kb;have D:=jh Fm.wt fs λt _=>t.kb;have F:=jh Pf.wt l λt _=>t.kb;rw[Pf.hH,SU];rcases RA k with⟨w,r,y⟩|⟨H,ty,a,b,c,r,w,y,g1,g2,g3,g4,g5⟩
   ·rw[y,dQ,BR,dR rfl];simp[Pf.node,w]
   ·rw[y,dQ,g1,g2,g3,g4,g5,fM,fM,fM]
    by_cases A:(ts.length:Int)=a/\(fs.length:Int)=b/\(l.length:Int)=c/\0<=i/\(H=true\/i=0)
    ·rw[dK (λh=>I'.1 h A)]
     have f:Pf.node k i s ts.length fs.length l.length=UE ty s:=by
      rw[Hj,HP w];exact⟨λh=>h.2,λh=>⟨A,h⟩⟩
     rw[f];refine vQ (G:=λo=>o=some (UE ty s&&ts.all Tm.ok&&fs.all Fm.ok&&l.all Pf.ok)) (λv=>v=!UE ty s) (λv I=>?_) (λj J=>?_)
     ·rw[I];cases UE ty s with
      |false=>rfl|true=>
       rw[dK aak,et VW,ec,eg,qX Tm.ok false ts 0 (λj x u=>by
        have:=eG Tm.wt u
        rw[yK VW,dI]),Ht]
       cases ts.all Tm.ok with
       |false=>rfl|true=>
        rw[dR rfl,dI,eB,et VW,ec,eg,qX Fm.ok false fs 0 (λj x u=>by
         have:=eG Fm.wt u
         rw[AQ FU x (by rw[fB];omega) VW,dI]),Ht]
        cases fs.all Fm.ok with
        |false=>rfl|true=>
         rw[dR rfl,dI,eB,et VW,ec,eg,qX Pf.ok false l 0 (λj x u=>by
          have:=eG Pf.wt u
          rw[ih x VW VW,dI]),Ht]
         cases l.all Pf.ok with
         |false=>rfl|true=>rfl
     ·have d:=J (!UE ty s) rfl;unfold UE at d|-
      by_cases q:ty=true
      ·rw[dR q] at d;rw[dR q,dR q,km VW,dI]
       grind[eP,ez]
      ·rw[dK q] at d;rw[dK q,dK q,xF,dI,R_];exact d
    ·rw[dR (I'.2 A)]
     grind[Pf.node,HP]
def JY:∀(n:Nat) (P:Pf),P.wt<=n->P.wt<=1000000000->rU n P=some P.small:=by
 intro n
 induction n with
 |zero=>intro P h;have:=P.kb;omega
 |succ n ih=>
  intro P hn b;cases P with
  |mk k i s ts fs l=>
   rw[Pf.iA] at hn b;have c:=jh Tm.wt ts λt _=>t.kb;have d:=jh Fm.wt fs λt _=>t.kb;have f:=jh Pf.wt l λt _=>t.kb;rw[Pf.AF,rU];simp only[Pf.jB,Pf.No,Pf.eH,eg]
   rw[et VW,ec,qX Tg false ts 0 (λj x a=>by
    have:=eG Tm.wt a;have:=x.ik;rw[nJ FU x (by rw[fB];omega) VW,dI]
    by_cases hs:x.ak7<=4096
    ·grind[iD,Tg]
    ·rw[dR (by rw[iD];omega),dK (by simpa[Tg] using hs)])]
   cases ts.all Tg with
   |false=>rfl|true=>
    rw[dR rfl,dI,eB,et VW,ec,qX Te false fs 0 (λj x a=>by
     have:=eG Fm.wt a;have:=x.ik;rw[sF FU x (by rw[fB];omega) VW,dI]
     by_cases hs:x.ak7<=4096
     ·rw[dK (by rw[iD];omega),dR (show Te x=true from z_ hs)]
     ·rw[dR (by rw[iD];omega),dK (by simpa[Te] using hs)]),Ht]
    cases fs.all Te with
    |false=>rfl|true=>
     rw[dR rfl,dI,eB,et VW,ec,qX Pf.small false l 0 (λj x a=>by
      have:=eG Pf.wt a
      rw[ih x VW VW,dI]),Ht]
     cases l.all Pf.small with
     |false=>rfl|true=>rfl
theorem Ja:∀(n:Nat) (P:Pf),P.wt<=n->P.wt<=1000000000->rK n P=some (P.ak7:Int):=by
 intro n
 induction n with
 |zero=>intro P h;have:=P.kb;omega
 |succ n ih=>
  intro P hn b;cases P with
  |mk k i s ts fs l=>
   rw[Pf.iA] at hn b;have c:=jh Tm.wt ts λt _=>t.kb;have d:=jh Fm.wt fs λt _=>t.kb;have f:=jh Pf.wt l λt _=>t.kb;have o:=kZ (l:=ts) (λx _=>Tm.ik x);have q:=kZ (l:=fs) (λx _=>Fm.ik x);have r:=kZ (l:=l) (λx _=>Pf.ik x);rw[Pf.dP,rK];simp only[Pf.jB,Pf.No,Pf.eH,eg]
   rw[et VW,ec,show(1:Int)=((1:Nat):Int)from rfl,pL Tm.ak7 ts 0 1 VW (λj x v a=>by
    have:=eG Tm.wt a;have:=x.ik
    rw[nJ FU x (by rw[fB];omega) VW,dI]),dI,eB,et VW,ec,pL Fm.ak7 fs 0 _ VW (λj x v a=>by
    have:=eG Fm.wt a;have:=x.ik
    rw[sF FU x (by rw[fB];omega) VW,dI]),dI,eB,et VW,ec,pL Pf.ak7 l 0 _ VW (λj x v a=>by
    have:=eG Pf.wt a
    rw[ih x VW VW,dI]),dI,eB]
def JT{P:Pf}(h:P.wt<=1000000000):ur P=some P.err:=by
 unfold ur yV Pf.err;rw[Ih FU P (by rw[fB];omega) h,dI];cases P.ok with
 |false=>rfl|true=>
  rw[dR rfl,dR rfl,eg,JY FU P (by rw[fB];omega) h,dI];cases P.small with
  |false=>rfl|true=>grind[Ja,FU,fB,dI,Z']
def Pf.agt{P:Pf}(h:P.err=0):AZ P/\P.ak7<=16384:=by
 unfold Pf.err at h;cases b:P.ok with
 |false=>grind|true=>
  by_cases a:P.small=true/\P.ak7<=16384
  ·exact⟨P.w b a.1,a.2⟩
  ·grind
noncomputable def M5 (L:List Fm) (q:Sq):Int:=if 32<L.length then 3 else if fy (L.map λf=>LP f [])≠0 then fy (L.map λf=>LP f [])else if xy q.ak9≠0 then xy q.ak9 else if 16<q.ala.length then 3 else fy (q.ala.map λf=>LP f q.ak9)
structure SqB (L:List Fm) (q:Sq):Prop where
 mm:∀f∈L,f.wt<=1000000000
 tys:∀t∈q.ak9,t.ak7<=1000000000
 tyl:q.ak9.length<=1000000
 ala:∀f∈q.ala,f.wt<=1000000000
def Ii{e:Int}:(dH (some e) λa=>if(eP a 0) then some (.ret a)else some ((.next ()):gm Unit Int))=if e≠0 then some (.ret e)else some (.next ()):=by
 rw[dI]
 by_cases h:e=0
 ·subst h;rfl
 ·rw[dR (by rw[ez];exact h),dR h]
def ZI{C:List Ty->Option Int}{T:List Ty->Fm->Option Int}{L:List Fm}{q:Sq}(u:C q.ak9=some (xy q.ak9))(v:∀f∈L,T [] f=some (LP f []))(w:∀f∈q.ala,T q.ak9 f=some (LP f q.ak9)):(if(oQ (eA L) 32) then some 3 else gB (eV L)<|ej (λ(y:Int) (i:Fm)=>(λ(_:Unit)=>dH (T [] i) λa=>if(eP a 0) then some (.ret a)else some ((.next ()):gm Unit Int))) λk=>
   dH (fk k L 0 ()) (fL (λ(_:Unit)=>dH (C q.ak9) λb=>if(eP b 0) then some b else if(oQ (eA q.ala) 16) then some 3 else gB (eV q.ala)<|ej (λ(A:Int) (l:Fm)=>(λ(_:Unit)=>dH (T q.ak9 l) λc=>if(eP c 0) then some (.ret c)else some ((.next ()):gm Unit Int))) λn=>
    dH (fk n q.ala 0 ()) (fL (λ(_:Unit)=>some 0) (λr=>some r))) (λr=>some r)))=some (M5 L q):=by
 unfold M5;rw[fM]
 by_cases s:32<L.length
 ·rw[dR (by rw[iD];omega),dR s]
 ·have B:¬oQ (L.length:Int) 32=true:=by rw[iD];omega
  rw[dK B,dK s,et VW,ec,eg];rw[pM (λf=>LP f []) L 0 (λj x o=>by rw[v x o];exact Ii)]
  by_cases d:fy (L.map λf=>LP f [])=0
  ·rw[dR d,dK (show¬(fy (L.map λf=>LP f [])≠0)fromλh=>h d),dI,eB,u,dI]
   by_cases c3:xy q.ak9=0
   ·have z2:¬eP (xy q.ak9) 0=true:=by rw[ez];simpa using c3
    rw[dK z2,dK (show¬(xy q.ak9≠0)fromλh=>h c3),fM]
    by_cases t:16<q.ala.length
    ·rw[dR (by rw[iD];omega),dR t]
    ·have z3:¬oQ (q.ala.length:Int) 16=true:=by rw[iD];omega
     rw[dK z3,dK t,et VW,ec,eg];rw[pM (λf=>LP f q.ak9) q.ala 0 (λj x o=>by rw[w x o];exact Ii)]
     by_cases c5:fy (q.ala.map λf=>LP f q.ak9)=0
     ·rw[dR c5,c5];rfl
     ·rw[dK c5];rfl
   ·have z2:eP (xy q.ak9) 0=true:=by rw[ez];exact c3
    rw[dR z2,dR c3]
  ·rw[dK d,dR d];rfl
def L4{L:List Fm}{q:Sq}(h:SqB L q):tW L q=some (M5 L q):=by
 have a:∀t∈([]:List Ty),t.ak7<=1000000000:=λt c=>by simp at c
 exact ZI (C:=l7) (T:=j1) (tm q.ak9 h.tyl h.tys) (λx b=>wL (h.mm x b) aa2 a) (λx b=>wL (h.ala x b) h.tyl h.tys)
def AD:∀{l:List Int},(∀e∈l,e=0)->fy l=0
 |[],_=>rfl|a::l,h=>by
  rw[fy,dR (h a aa2)];exact AD λe he=>h e (by simp[he])
def rL:∀{l:List Int},fy l=0->∀e∈l,e=0
 |[],_,e,he=>by simp at he
 |a::l,h,e,he=>by
  rw[fy] at h
  by_cases b:a=0
  ·rw[dR b] at h;rcases lQ.1 he with rfl|he
   ·exact b
   ·exact rL h e he
  ·rw[dK b] at h;exact absurd h b
def VA{f:Fm}{g:List Ty}(h:LP f g=0):Hg g f:=by
 unfold LP at h
 by_cases b:xy g=0
 ·rw[dK (λh=>h b)] at h
  by_cases a:f.err=0
  ·rw[dK (λh=>h a)] at h;exact⟨a,rG f (Fm.ia a).1 g (iT.of b).1 h⟩
  ·rw[dR a] at h;exact absurd h a
 ·rw[dR b] at h;exact absurd h b
structure uR (L:List Fm) (q:Sq):Prop where
 ln:L.length<=32
 mm:∀f∈L,Hg [] f
 ctx:iT q.ak9
 nv:q.ak9.length<=16
 nh:q.ala.length<=16
 ala:∀f∈q.ala,Hg q.ak9 f
def SX{L:List Fm}{q:Sq}(h:M5 L q=0):uR L q:=by
 unfold M5 at h
 by_cases d:32<L.length
 ·rw[dR d] at h;cases h
 ·rw[dK d] at h
  by_cases a:fy (L.map λf=>LP f [])=0
  ·rw[dK (λh=>h a)] at h
   by_cases b:xy q.ak9=0
   ·rw[dK (λh=>h b)] at h
    by_cases i:16<q.ala.length
    ·rw[dR i] at h;cases h
    ·rw[dK i] at h;obtain⟨j,k⟩:=iT.of b;exact⟨VW,λf c=>VA (rL a _ (qp.2 ⟨f,c,rfl⟩)),j,k,VW,λf c=>VA (rL h _ (qp.2 ⟨f,c,rfl⟩))⟩
   ·rw[dR b] at h;exact absurd h b
  ·rw[dR a] at h;exact absurd h a
def uR.zero{L:List Fm}{q:Sq}(h:uR L q):M5 L q=0:=by
 have c:∀{g:List Ty} {f:Fm},iT g->g.length<=16->Hg g f->LP f g=0:=λhg b a=>by
  unfold LP;rw[HX hg b,dK aak,dK (λh=>h a.err)];exact k4 a.ty hg (by have:=a.ak7;omega)
 have d:fy (L.map λf=>LP f [])=0:=AD λe he=>by
  obtain⟨f,a,rfl⟩:=qp.1 he;exact c (λ_ h=>by simp at h) aa2 (h.mm f a)
 have i:fy (q.ala.map λf=>LP f q.ak9)=0:=AD λe he=>by
  obtain⟨f,a,rfl⟩:=qp.1 he;exact c h.ctx h.nv (h.ala f a)
 unfold M5;have:=h.ln;have:=h.nh;rw[dK VW,d,dK aak,HX h.ctx h.nv,dK aak,dK VW,i]
def Pf.Sc:∀(l:List Pf),(∀x∈l,x.An<=x.ak7)->Pf.w7 l<=ei Pf.ak7 l
 |[],_=>by simp[Pf.w7]|a::l,ih=>by
  have c:=ih a aa2;have d:=Pf.Sc l (λx b=>ih x (by simp[b]));simp only[Pf.w7,ei];omega
def Pf.Tw(p:Pf):p.An<=p.ak7:=by
 induction p using Pf.ind with
 |h k i s ts fs l ih=>
  rw[Pf.dP,Pf.An];have:=Pf.Sc l ih;omega
noncomputable def Xb (L:List Fm) (q:Sq) (P:Pf):PR:=jC (M5 L q) (jC P.err (P.inf L q.ak9 q.ala))
def Ik{L:List Fm}{q:Sq}{P:Pf}(h:SqB L q)(j:P.wt<=1000000000):(∃e,e≠0/\Xb L q P=.inr e/\mQ L q P=some (⟨iH,[]⟩,e))\/∃(f:Fm) (m:Nat) (l:List Int),Xb L q P=.inl (f,m)/\mQ L q P=some (⟨f,l⟩,0)/\Us l m/\Hg q.ak9 f/\uR L q/\P.err=0:=by
 unfold mQ Xb;rw[L4 h,dI]
 by_cases b:M5 L q=0
 ·have a:=SX b;rw[b,dK nz,fP rfl,JT j,dI]
  by_cases c:P.err=0
  ·obtain⟨hw,hn⟩:=Pf.agt c;have k:=P.Tw;rw[c,dK nz,fP rfl];rcases U3 hw FU (by rw[fB];omega) (dS.mk L q.ak9 q.ala) ⟨⟨a.ctx,a.nv,a.nh⟩,rfl,a.mm,a.ala⟩with⟨e,he,q1,i⟩|⟨f,m,l,q1,i,hu,d⟩
   ·rw[i,dQ,dR (by rw[ez];exact he)];exact .inl ⟨e,he,q1,rfl⟩
   ·have d:Hg q.ak9 f:=d;have n:=hu.len;have o:=f.jr d.ok;have r:=d.ak7;rw[i,dQ,dK nz];simp only[];rw[rQ VW,dI,fg acx,ec,ij,nT];exact .inr ⟨f,m,l,q1,rfl,hu,d,a,by trivial⟩
  ·rw[dR (by rw[ez];exact c),jf c];exact .inl ⟨_,c,rfl,rfl⟩
 ·rw[dR (by rw[ez];exact b),jf b];exact .inl ⟨_,b,rfl,rfl⟩
def uR.below{L:List Fm}{q:Sq}(h:uR L q){l:List Ty}(b:iT l)(hn:q.ak9.length+l.length<=16):uR L ⟨q.ak9++l,q.ala.map (Fm.up 0 l.length)⟩:=by
 refine⟨h.ln,h.mm,h.ctx.append b,by simpa using hn,by simpa using h.nh,λf c=>?_⟩;obtain⟨f0,a,rfl⟩:=qp.1 c;exact(h.ala f0 a).up l
def uR.with{L:List Fm}{q:Sq}(h:uR L q){f:Fm}(a:Hg q.ak9 f)(hn:q.ala.length+1<=16):uR L ⟨q.ak9,q.ala++[f]⟩:=by
 refine⟨h.ln,h.mm,h.ctx,h.nv,by simpa using hn,λx hx=>?_⟩;rcases sU.1 hx with hx|hx
 ·exact h.ala x hx
 ·rw[DB.1 hx];exact a
def Hg.wt{g:List Ty}{f:Fm}(h:Hg g f):f.wt<=266240:=by
 have:=f.jr h.ok;have:=h.ak7;omega
def uR.b{L:List Fm}{q:Sq}(h:uR L q):SqB L q:=by
 refine⟨λf a=>by have:=(h.mm f a).wt;omega,λt c=>by have:=fc (h.ctx t c);omega,by have:=h.nv;omega,λf a=>by have:=(h.ala f a).wt;omega⟩
def ef.lift{g:List Ty}{x:Tm}{t:Ty}(h:ef g x t)(e:List Ty):ef (g++e) (x.up 0 e.length) t:=by
 have:=h.up g [] e aa2
 grind
def Fm.oT{f:Fm}(h:f.ok=true)(hn:f.ak7<=4096):f.err=0:=by
 unfold Fm.err;rw[dR h,dK VW]
theorem gT{P:Pf}(h:P.err=0):P.ok=true/\P.small=true/\P.ak7<=16384:=by
 unfold Pf.err at h;cases b:P.ok with
 |false=>rw[b] at h;cases h
 |true=>
  rw[b,dR rfl] at h
  by_cases a:P.small=true/\P.ak7<=16384
  ·exact⟨rfl,a.1,a.2⟩
  ·rw[dK a] at h;cases h
def HD{L:List Fm}{q:Sq}(h:uR L q){P:Pf}(a:P.err=0):Xb L q P=P.inf L q.ak9 q.ala:=by
 unfold Xb;rw[fP h.zero,fP a]
def HJ{f:Fm}{m:Nat}(h:f.err=0):se (.inl (f,m))=.inl (f,if f.has then m else 0):=by
 unfold se;rw[fo,dR h]
theorem Sa{f:Fm}{m:Nat}(h:f.err≠0):se (.inl (f,m))=.inr 4:=by
 unfold se;rw[fo,dK h]
def Xl:uR [] ⟨[],[]⟩:=⟨aa2,λf h=>by simp at h,λs h=>by simp at h,aa2,aa2,λf h=>by simp at h⟩
noncomputable def sV (a b:Tm):Int:=@ite Int (a=b) (Classical.propDecidable _) 0 (if(a.norm 1000 0).2.2≠0 then(a.norm 1000 0).2.2 else if(b.norm 1000 0).2.2≠0 then(b.norm 1000 0).2.2 else@ite Int ((a.norm 1000 0).1=(b.norm 1000 0).1) (Classical.propDecidable _) 0 11)
def Lv(a:Tm):sV a a=0:=dR rfl
def MP{a b:Tm}(h:a≠b):sV a b=if(a.norm 1000 0).2.2≠0 then(a.norm 1000 0).2.2 else if(b.norm 1000 0).2.2≠0 then(b.norm 1000 0).2.2 else@ite Int ((a.norm 1000 0).1=(b.norm 1000 0).1) (Classical.propDecidable _) 0 11:=dK h
def Nm.ZO{a:Tm}(h:Nm a)(b:(a.norm 1000 0).2.2=0):(a.norm 1000 0).1.ok=true/\(a.norm 1000 0).1.ak7<=4096:=by
 obtain⟨p,n,e,c⟩:∃p n e,a.norm 1000 0=(p,n,e):=⟨_,_,_,rfl⟩;rw[c] at b|-;have b:e=0:=b;subst b;have:=H3 1000 536870912 0 a p n VW (Sm.start h.err h.ak') (iR h.err).2 c;exact⟨this.1.ok,this.2⟩
def H8{a b:Tm}(f:Nm a)(i:Nm b):l8 a b 1000=some (sV a b):=by
 have x:=a.jr (iR f.err).1;have y:=b.jr (iR i.err).1;have A:=(iR f.err).2;have B:=(iR i.err).2;unfold l8;rw[k8 VW,f.err,dI,dK nz,k8 VW,i.err,dI,dK nz];obtain⟨r,u,o⟩:=xD FU a b (by rw[fB];omega) VW;rw[u,dI]
 by_cases c:a=b
 ·rw[dR (o.2 c),c,Lv]
 ·rw[dK (λh=>c (o.1 h)),MP c,f.one,i.one];obtain⟨p,n,e,v⟩:∃p n e,a.norm 1000 0=(p,n,e):=⟨_,_,_,rfl⟩;obtain⟨s,n',w,l⟩:∃p n e,b.norm 1000 0=(p,n,e):=⟨_,_,_,rfl⟩;have j:=f.ZO;rw[v] at j|-;rw[l,gz];simp only[] at j|-
  by_cases he:e=0
  ·subst he;rw[dK nz,dK aak,gz]
   by_cases d:w=0
   ·subst d;rw[dK nz,dK aak];have C:=p.jr (j rfl).1;have D:=(j rfl).2;obtain⟨q,q1,t⟩:=xD FU p s (by rw[fB];omega) VW;rw[q1,dI]
    by_cases k:p=s
    ·rw[dR (t.2 k),dR k]
    ·rw[dK (λh=>k (t.1 h)),dK k]
   ·rw[dR (by rw[ez];exact d),dR d]
  ·rw[dR (by rw[ez];exact he),dR he]
mutual
noncomputable def Fm.Dz:Fm->Fm->Int
 |.mk k s ts l,b=>if k≠b.ak5\/s.jY b.dM=false then 11 else if fy (List.zipWith sV ts b.eh)≠0 then fy (List.zipWith sV ts b.eh)else fy (Fm.TM l b.ak6)
noncomputable def Fm.TM:List Fm->List Fm->List Int
 |a::l,b::m=>a.Dz b::Fm.TM l m|_,_=>[]
end
def Fm.Sh:∀(l m:List Fm),Fm.TM l m=List.zipWith Fm.Dz l m
 |[],m=>by rw[Fm.TM];rfl;intros;simp_all|a::l,[]=>by rw[Fm.TM];rfl;intros;simp_all|a::l,b::m=>by rw[Fm.TM,Fm.Sh l m];rfl
def Fm.JJ(k k':Int)(s b:Ty)(ts a:List Tm)(l c:List Fm):(Fm.mk k s ts l).Dz (.mk k' b a c)=if k≠k'\/s.jY b=false then 11 else if fy (List.zipWith sV ts a)≠0 then fy (List.zipWith sV ts a)else fy (List.zipWith Fm.Dz l c):=by rw[Fm.Dz,Fm.Sh];rfl
def Jc{α:Type}{E:α->α->Option Int}{e:α->α->Int}{M:List α}:∀(l:List α) (i:Nat),l.length+i=M.length->(∀x∈l,∀y∈M,E x y=some (e x y))->fk (λ(d:Int) (f:α)=>(λ(_:Unit)=>dH (dW M d) λb=>dH (E f b) λa=>if(eP a 0) then(some (.ret a))else(some ((.next ()):gm Unit Int)))) l i ()=some (if fy (List.zipWith e l (M.drop i))=0 then .inl ()else .inr (fy (List.zipWith e l (M.drop i))))
 |[],i,_,_=>by simp[fy]|x::l,i,n,h=>by
  simp only[mz] at n
  have hi:i<M.length:=VW
  have ih:=Jc (E:=E) (e:=e) (M:=M) l (i+1) VW (λy o=>h y (by simp[o]));have q:M.drop i=M[i]::M.drop (i+1):=(Kd hi)
  have r:List.zipWith e (x::l) (M.drop i)=e x M[i]::List.zipWith e l (M.drop (i+1)):=by rw[q];rfl
  rw[r,gf,gX,o9 hi,dI,h x aa2 _ (B7 hi),dI]
  by_cases c:e x M[i]=0
  ·have j:¬eP (e x M[i]) 0=true:=by rw[ez];simpa using c
   have k:fy (e x M[i]::List.zipWith e l (M.drop (i+1)))=fy (List.zipWith e l (M.drop (i+1))):=by rw[fy,dR c]
   rw[dK j,dI,fh,k];exact ih
  ·have j:eP (e x M[i]) 0=true:=by rw[ez];exact c
   have k:fy (e x M[i]::List.zipWith e l (M.drop (i+1)))=e x M[i]:=by rw[fy,dK c]
   rw[dR j,dI,OC,k,dK c]
def Iv:∀(n:Nat) (a b:Fm),a.ak7<=n->a.ak7<=4096->b.ak7<=4096->a.ok=true->b.ok=true->Vj a->Vj b->lb n a b=some (a.Dz b):=by
 intro n
 induction n with
 |zero=>intro a b h;have:=a.eM;omega
 |succ n ih=>
  intro a b hn F H T U X Y;cases a with
  |mk k s ts l=>
  cases b with
  |mk k' B c I=>
   cases X with
   |mk J K=>
   cases Y with
   |mk L M=>
   rw[Fm.dP] at hn F H;obtain⟨a1,a2,a3⟩:=Fm.wY T;obtain⟨b1,b2,Z⟩:=Fm.wY U;have l1:=Tm.fV ts;have l2:=Fm.fV l;rw[lb,Fm.JJ];refine vQ (G:=λo=>o=some (if k≠k'\/s.jY B=false then 11 else if fy (List.zipWith sV ts c)≠0 then fy (List.zipWith sV ts c)else fy (List.zipWith Fm.Dz l I))) (λv=>v=true↔(k≠k'\/s.jY B=false)) (λv V=>?_) (λj W=>?_)
   ·by_cases i:k≠k'\/s.jY B=false
    ·rw[dR (V.2 i),dR i]
    ·rw[dK (λh=>i (V.1 h)),dK i];have N:k=k':=ZU λh=>i (.inl h);subst N;obtain⟨e1,e2⟩:=Fm.shape T U;show(gB (eV ts) _:Option Int)=_;rw[et VW,ec,eg];show dH (fk (λ(O:Int) (P:Tm)=>(λ(_:Unit)=>dH (dW c O) λq=>dH (l8 P q 1000) λd=>if(eP d 0) then(some (.ret d))else(some ((.next ()):gm Unit Int)))) ts 0 ()) _=_;rw[Jc (E:=λx y=>l8 x y 1000) (e:=sV) ts 0 VW (λx r y t=>H8 (J x r) (L y t)),List.drop_zero]
     by_cases C:fy (List.zipWith sV ts c)=0
     ·rw[dR C,dI,eB,dK (λh=>h C)];show(gB (eV l) _:Option Int)=_;rw[et VW,ec,eg];show dH (fk (λ(u:Int) (w:Fm)=>(λ(_:Unit)=>dH (dW I u) λA=>dH (lb n w A) λf=>if(eP f 0) then(some (.ret f))else(some ((.next ()):gm Unit Int)))) l 0 ()) _=_
      rw[Jc (E:=λx y=>lb n x y) (e:=Fm.Dz) l 0 VW (λx r y t=>by
       have m1:=eG Fm.ak7 r;have m2:=eG Fm.ak7 t
       exact ih x y VW VW VW (a3 x r) (Z y t) (K x r) (M y t)),List.drop_zero]
      by_cases Q:fy (List.zipWith Fm.Dz l I)=0
      ·rw[dR Q,Q];rfl
      ·rw[dK Q];rfl
     ·rw[dK C,dR C];rfl
   ·show(if(eP k k') then j true else dH (fm FU s B) λR=>j (lJ R))=_
    by_cases D:k=k'
    ·have S:¬eP k k'=true:=by rw[ez];simpa using D
     rw[dK S,iB VW,dI];exact W _ (by rw[R_];simp[D])
    ·have S:eP k k'=true:=by rw[ez];exact D
     rw[dR S];exact W _ (by simp[D])
def Hg.nmF{g:List Ty}{f:Fm}(h:Hg g f)(hg:g.length<=1000000):Vj f:=Vj.of f h.ak7 h.ok (h.ty.ak' _ (by have:=h.ak7;omega))
theorem DO{g f:List Ty}{a b:Fm}(c:Hg g a)(d:Hg f b)(h:g.length<=1000000)(i:f.length<=1000000):Ai a b=a.Dz b:=by
 have j:=c.wt;have k:=d.wt
 have e:lk a b=some (a.Dz b):=by
  unfold lk;rw[iV VW,c.err,dI,dK nz,iV VW,d.err,dI,dK nz,Iv FU a b (by rw[fB];have:=c.ak7;omega) c.ak7 d.ak7 c.ok d.ok (c.nmF h) (d.nmF i)];rfl
 unfold Ai;rw[e];rfl
def FF(a b:Tm):Prop:=a.ok=true/\b.ok=true/\∃c,oO a c/\oO b c
theorem FF.refl{a:Tm}(h:a.ok=true):FF a a:=⟨h,h,a,.refl a,.refl a⟩
def FF.symm{a b:Tm}(h:FF a b):FF b a:=⟨h.2.1,h.1,let⟨c,p,q⟩:=h.2.2;⟨c,q,p⟩⟩
def FF.trans{a b c:Tm}(h:FF a b)(d:FF b c):FF a c:=by
 obtain⟨f,i,x,j,k⟩:=h;obtain⟨_,l,y,n,o⟩:=d;obtain⟨w,q,r⟩:=k.meet y i n;exact⟨f,l,w,j.trans q,o.trans r⟩
def FF.star{a b:Tm}(c:a.ok=true)(h:oO a b):FF a b:=⟨c,h.ok c,b,h,.refl b⟩
def oO.Hv{t u:Tm}(h:oO t u){x:Tm}(a:x.ok=true):t.ok=true->∀n:Int,0<=n->oO (Tm.gJ n t x) (Tm.gJ n u x):=by
 induction h with
 |refl t=>intro _ n _;exact .refl _|step b _ ih=>intro c n hn;exact .step (b.gJ (l_.refl x a) a c n hn) (ih (b.ok c) n hn)
def oO.ahH{x y:Tm}(h:oO x y){t:Tm}(a:t.ok=true):x.ok=true->∀n:Int,0<=n->oO (Tm.gJ n t x) (Tm.gJ n t y):=by
 induction h with
 |refl t=>intro _ n _;exact .refl _|step b _ ih=>intro c n hn;exact .step ((l_.refl t a).gJ b c a n hn) (ih (b.ok c) n hn)
def FF.gJ{a b x y:Tm}(h:FF a b)(q:FF x y){n:Int}(hn:0<=n):FF (Tm.gJ n a x) (Tm.gJ n b y):=by
 obtain⟨f,i,c,l,o⟩:=h;obtain⟨j,k,d,d1,d2⟩:=q;refine⟨Tm.Me x j a n hn f,Tm.Me y k b n hn i,Tm.gJ n c d,?_,?_⟩
 ·exact(l.Hv j f n hn).trans (d1.ahH (l.ok f) j n hn)
 ·exact(o.Hv k i n hn).trans (d2.ahH (o.ok i) k n hn)
def pI(e:Int):Prop:=e=3\/e=4\/e=5
def Ey{a p:Tm}{n:Int}(h:a.norm 1000 0=(p,n,0))(b:a.ok=true):p.nf=true/\oO a p:=⟨(R0 1000 0 a p n h).1,Le 1000 0 a p n b h⟩
def SH{a b:Tm}(h:FF a b):sV a b=0\/pI (sV a b):=by
 by_cases i:a=b
 ·rw[i,Lv];exact .inl rfl
 ·rw[MP i];obtain⟨k,q,c,r,t⟩:=h;have u:=EJ 1000 0 a;have v:=EJ 1000 0 b
  by_cases d:(a.norm 1000 0).2.2=0
  ·rw[dK (λh=>h d)]
   by_cases f:(b.norm 1000 0).2.2=0
   ·rw[dK (λh=>h f)];obtain⟨p,n,e,s⟩:∃p n e,a.norm 1000 0=(p,n,e):=⟨_,_,_,rfl⟩;obtain⟨B,n',x,j⟩:∃p n e,b.norm 1000 0=(p,n,e):=⟨_,_,_,rfl⟩;rw[s] at d|-;rw[j] at f|-;have d:e=0:=d;have f:x=0:=f;subst d;subst f;obtain⟨n1,s1⟩:=Ey s k;obtain⟨n2,s2⟩:=Ey j q;obtain⟨w,y,A⟩:=s1.meet c k r;obtain⟨w',l,o⟩:=s2.meet c q t;have:=y.nf n1;subst this;have:=l.nf n2;subst this;have:w=w':=oO.unique (r.ok k) A o n1 n2;rw[dR this];exact .inl rfl
   ·rw[dR f];rcases v with h|h|h
    ·exact absurd h f
    ·exact .inr (.inr (.inl h))
    ·exact .inr (.inr (.inr h))
  ·rw[dR d];rcases u with h|h|h
   ·exact absurd h d
   ·exact .inr (.inr (.inl h))
   ·exact .inr (.inr (.inr h))
def KU{a b:Tm}(k:a.ok=true)(j:b.ok=true)(h:sV a b=0):FF a b:=by
 by_cases f:a=b
 ·rw[f];exact .refl j
 ·rw[MP f] at h
  by_cases c:(a.norm 1000 0).2.2=0
  ·rw[dK (λh=>h c)] at h
   by_cases d:(b.norm 1000 0).2.2=0
   ·rw[dK (λh=>h d)] at h;obtain⟨p,n,e,l⟩:∃p n e,a.norm 1000 0=(p,n,e):=⟨_,_,_,rfl⟩;obtain⟨q,n',r,i⟩:∃p n e,b.norm 1000 0=(p,n,e):=⟨_,_,_,rfl⟩;rw[l] at c h;rw[i] at d h;have c:e=0:=c;have d:r=0:=d;subst c;subst d
    by_cases o:p=q
    ·subst o;exact⟨k,j,p,(Ey l k).2,(Ey i j).2⟩
    ·rw[dK o] at h;cases h
   ·rw[dR d] at h;exact absurd h d
  ·rw[dR c] at h;exact absurd h c
inductive td:Fm->Fm->Prop
 |eq {a a' b b'}:FF a a'->FF b b'->td (.mk 1 .z [a,b] []) (.mk 1 .z [a',b'] [])|two {k a a' b b'}:td a a'->td b b'->td (.mk k .z [] [a,b]) (.mk k .z [] [a',b'])|q {k s a a'}:td a a'->td (.mk k s [] [a]) (.mk k s [] [a'])
theorem td.refl{g:List Ty}{f:Fm}(h:iQ g f):td f f:=by
 induction h with
 |eq c d=>exact .eq (.refl c.ok) (.refl d.ok)|two _ _ _ a b=>exact .two a b|q _ _ _ ih=>exact .q ih
def td.symm{a b:Fm}(h:td a b):td b a:=by
 induction h with
 |eq f i=>exact .eq f.symm i.symm|two _ _ c d=>exact .two c d|q _ ih=>exact .q ih
def td.trans{a b:Fm}(h:td a b):∀{c:Fm},td b c->td a c:=by
 induction h with
 |eq k l=>intro c h;cases h with|eq d f=>exact .eq (k.trans d) (l.trans f)
 |two _ _ i j=>intro c h;cases h with|two d f=>exact .two (i d) (j f)
 |q _ ih=>intro c h;cases h with|q d=>exact .q (ih d)
def td.gJ{a b:Fm}(h:td a b){x y:Tm}(c:FF x y):∀{n:Int},0<=n->td (Fm.gJ n a x) (Fm.gJ n b y):=by
 induction h with
 |eq i j=>intro n hn;rw[Fm.fO,Fm.fO];exact .eq (i.gJ c hn) (j.gJ c hn)|@two k _ _ _ _ _ _ d f=>intro n hn;have:=x0 k;rw[Fm.fO,Fm.fO];exact .two (d VW) (f VW)
 |@q k _ _ _ _ ih=>intro n hn;have:=x0 k;rw[Fm.fO,Fm.fO];exact .q (ih VW)
def td.has{a b:Fm}(h:td a b):a.has=b.has:=by
 induction h with
 |eq _ _=>rw[Fm.has_eq,Fm.has_eq]|@two k _ _ _ _ _ _ c d=>rw[Fm.zp,Fm.zp,c,d]|@q k _ _ _ _ ih=>rw[Fm.y',Fm.y',ih]
def yI:∀{l:List Int},(∀e∈l,e=0\/pI e)->fy l=0\/pI (fy l)
 |[],_=>.inl rfl|e::l,h=>by
  rw[fy]
  by_cases he:e=0
  ·rw[dR he];exact yI λx a=>h x (by simp[a])
  ·rw[dK he];exact .inr ((h e aa2).resolve_left he)
def td.Dz{a b:Fm}(h:td a b):a.Dz b=0\/pI (a.Dz b):=by
 have hs:∀(k:Int) (s:Ty),¬(k≠k\/s.jY s=false):=λk s h=>by
  rcases h with h|h
  ·exact h rfl
  ·rw[(Ty.kv s s).2 rfl] at h;cases h
 induction h with
 |@eq a c b d o r=>
  rw[Fm.JJ,dK (hs _ _)]
  have f:=yI (l:=[sV a c,sV b d]) (λe he=>by
   simp only[lQ,uU,tO] at he;rcases he with rfl|rfl
   ·exact SH o
   ·exact SH r)
  show(if fy [sV a c,sV b d]≠0 then fy [sV a c,sV b d] else fy [])=0\/_
  by_cases i:fy [sV a c,sV b d]=0
  ·rw[dK (λh=>h i)];exact .inl rfl
  ·show _\/pI (if fy [sV a c,sV b d]≠0 then fy [sV a c,sV b d] else fy []);rw[dR i];exact .inr (f.resolve_left i)
 |@two k a c b d _ _ j n=>
  have f:=yI (l:=[a.Dz c,b.Dz d]) (λe he=>by
   simp only[lQ,uU,tO] at he;rcases he with rfl|rfl
   ·exact j
   ·exact n)
  rw[Fm.JJ,dK (hs _ _)];exact f
 |@q k s a c _ ih=>
  have f:=yI (l:=[a.Dz c]) (λe he=>by
   simp only[lQ,uU,tO] at he
   rw[he];exact ih)
  rw[Fm.JJ,dK (hs _ _)];exact f
def wo{g:List Ty}{a:Fm}(h:iQ g a):∀{v:List Ty} {b:Fm},iQ v b->a.Dz b=0->td a b:=by
 have key:∀{k k':Int} {s j:Ty} {ts f:List Tm} {l w:List Fm},(Fm.mk k s ts l).Dz (.mk k' j f w)=0->k=k'/\s=j/\fy (List.zipWith sV ts f)=0/\fy (List.zipWith Fm.Dz l w)=0:=by
  intro k k' s j ts f l w h;rw[Fm.JJ] at h
  by_cases d:k≠k'\/s.jY j=false
  ·rw[dR d] at h;cases h
  ·rw[dK d] at h
   by_cases i:fy (List.zipWith sV ts f)=0
   ·rw[dK (λh=>h i)] at h;refine⟨ZU λr=>d (.inl r),(Ty.kv s j).1 ?_,i,h⟩;cases x:s.jY j with
    |true=>rfl|false=>exact absurd (.inr x) d
   ·rw[dR i] at h;exact absurd h i
 induction h with
 |@eq g a b i C=>
  intro v c d hm;cases d with
  |@eq _ D F t y=>
   obtain⟨_,_,u,_⟩:=key hm;have n:=rL u;exact .eq (KU i.ok t.ok (n _ aa2)) (KU C.ok y.ok (n _ aa2))
  |two r _ _=>obtain⟨e,_⟩:=key hm;omega
  |q r _ _=>obtain⟨e,_⟩:=key hm;omega
 |@two g k a b r i C A B=>
  intro v c d hm;cases d with
  |eq _ _=>obtain⟨e,_⟩:=key hm;omega
  |@two _ k' D F o t y=>
   obtain⟨rfl,_,_,u⟩:=key hm;have n:=rL u;exact .two (A t (n _ aa2)) (B y (n _ aa2))
  |q o _ _=>obtain⟨e,_⟩:=key hm;omega
 |@q g k s a r hs i ih=>
  intro v c d hm;cases d with
  |eq _ _=>obtain⟨e,_⟩:=key hm;omega
  |two o _ _=>obtain⟨e,_⟩:=key hm;omega
  |@q _ k' j D o G t=>
   obtain⟨rfl,rfl,_,u⟩:=key hm;have n:=rL u;exact .q (ih t (n _ aa2))
def fin(f:Fm)(m:Nat):Nat:=if f.has then m else 0
def jZ{r:PR}{f:Fm}{m:Nat}(h:se r=.inl (f,m)):∃a,r=.inl (f,a)/\f.err=0/\m=fin f a:=by
 cases r with
 |inr e=>cases h
 |inl p=>
  obtain⟨f0,a⟩:=p
  by_cases b:f0.err=0
  ·rw[HJ b] at h;obtain⟨rfl,rfl⟩:=iM (yl h);exact⟨a,rfl,b,rfl⟩
  ·grind[Sa]
def ic{r:PR}{k:Fm->Nat->PR}{p:Fm×Nat}(h:pbind r k=.inl p):∃f m,r=.inl (f,m)/\k f m=.inl p:=by
 cases r with
 |inr e=>cases h
 |inl q=>exact⟨q.1,q.2,rfl,h⟩
theorem kQ{e:Int}{r:PR}{p:Fm×Nat}(h:jC e r=.inl p):e=0/\r=.inl p:=by grind[fP,jf]
def mN{c:Prop}[Decidable c]{e:Int}{r:PR}{p:Fm×Nat}(h:vP c e r=.inl p):¬c/\r=.inl p:=by grind[j2,g_]
def xb{r:PR}{k:Int}{f:Fm}{m:Nat}(h:FZ r k=.inl (f,m)):r=.inl (f,m)/\f.ak5=k:=by
 obtain⟨f0,a,rfl,b⟩:=ic h
 grind
theorem yo{F:Fm}{t:Tm}(h:(kA F t).2=0):kA F t=(Fm.gJ 0 F t,0)/\(Fm.gJ 0 F t).ak7<=4096:=by grind[mb]
def BZ{r:PR}{F:Fm}{t:Tm}{f:Fm}{m:Nat}(h:B1 r F t=.inl (f,m)):r=.inl (f,m)/\(Fm.gJ 0 F t).ak7<=4096/\Ai (Fm.gJ 0 F t) f=0:=by
 obtain⟨f0,a,rfl,b⟩:=ic h
 grind[kQ,yo]
inductive Dv (L:List Fm):List Ty->List Fm->Pf->Fm->Nat->Prop
 |hyp {g hs i f}:0<=i->i<(hs.length:Int)->hs[hs.length-1-i.toNat]?=some f->Hg g f->Dv L g hs (.mk 1 i .z [] [] []) f 0|mm {g hs i f}:0<=i->L[i.toNat]?=some f->Hg [] f->Dv L g hs (.mk 2 i .z [] [] []) f 0|Pu {g hs a b x y m n}:Dv L g hs a x m->Dv L g hs b y n->Hg g (.mk 2 .z [] [x,y])->Dv L g hs (.mk 3 0 .z [] [] [a,b]) (.mk 2 .z [] [x,y]) (fin (.mk 2 .z [] [x,y]) (m|||n))|ZG {g hs a x y m}:Dv L g hs a (.mk 2 .z [] [x,y]) m->Hg g x->Dv L g hs (.mk 4 0 .z [] [] [a]) x (fin x m)|ZH {g hs a x y m}:Dv L g hs a (.mk 2 .z [] [x,y]) m->Hg g y->Dv L g hs (.mk 5 0 .z [] [] [a]) y (fin y m)|Nn {g hs F a y m}:Hg g F->hs.length+1<=16->Dv L g (hs++[F]) a y m->Hg g (.mk 3 .z [] [F,y])->Dv L g hs (.mk 6 0 .z [] [F] [a]) (.mk 3 .z [] [F,y]) (fin (.mk 3 .z [] [F,y]) m)|OB {g hs a b x y f m n}:Dv L g hs a (.mk 3 .z [] [x,y]) m->Dv L g hs b f n->Hg g x->Hg g f->x.Dz f=0->Hg g y->Dv L g hs (.mk 7 0 .z [] [] [a,b]) y (fin y (m|||n))|all {g hs k k' s a f m}:(k=8/\k'=4\/k=12/\k'=6/\m.testBit 0=false)->s.err=0->g.length+1<=16->Dv L (g++[s]) (hs.map (Fm.up 0 1)) a f m->Hg g (.mk k' s [] [f])->Dv L g hs (.mk k 0 s [] [] [a]) (.mk k' s [] [f]) (fin (.mk k' s [] [f]) (m/2))|Yh {g hs k k' t s a x m u}:(k=9/\k'=4/\u=m|||s0 t\/k=13/\k'=6/\u=m)->ef g t s->t.err=0->Dv L g hs a (.mk k' s [] [x]) m->Hg (g++[s]) x->(Fm.gJ 0 x t).ak7<=4096->Dv L g hs (.mk k 0 .z [t] [] [a]) (Fm.gJ 0 x t) (fin (Fm.gJ 0 x t) u)|ex {g hs k k' t s a x f m u}:(k=10/\k'=5/\u=m|||s0 t\/k=14/\k'=7/\u=m)->Hg g (.mk k' s [] [x])->ef g t s->t.err=0->Hg (g++[s]) x->Dv L g hs a f m->Hg g f->(Fm.gJ 0 x t).ak7<=4096->(Fm.gJ 0 x t).Dz f=0->Dv L g hs (.mk k 0 .z [t] [.mk k' s [] [x]] [a]) (.mk k' s [] [x]) (fin (.mk k' s [] [x]) u)|Yx {g hs k k' s a b x f m n}:(k=11/\k'=5\/k=15/\k'=7/\n.testBit 0=false)->Dv L g hs a (.mk k' s [] [x]) m->s.err=0->g.length+1<=16->hs.length+1<=16->Hg (g++[s]) x->Dv L (g++[s]) (hs.map (Fm.up 0 1)++[x]) b f n->Hg (g++[s]) f->(w4 f).2=0->Hg g (w4 f).1->Dv L g hs (.mk k 0 .z [] [] [a,b]) (w4 f).1 (fin (w4 f).1 (m|||n/2))|ind {g hs t F a b x y m n}:Hg (g++[.nat]) F->ef g t .nat->t.err=0->Dv L g hs a x m->Hg g x->(Fm.gJ 0 F rA).ak7<=4096->(Fm.gJ 0 F rA).Dz x=0->g.length+1<=16->hs.length+1<=16->Dv L (g++[.nat]) (hs.map (Fm.up 0 1)++[F]) b y n->Hg (g++[.nat]) y->(Fm.gJ 0 (F.up 1 1) (ru v0)).ak7<=4096->(Fm.gJ 0 (F.up 1 1) (ru v0)).Dz y=0->(Fm.gJ 0 F t).ak7<=4096->Dv L g hs (.mk 16 0 .z [t] [F] [a,b]) (Fm.gJ 0 F t) (fin (Fm.gJ 0 F t) ((s0 t|||m)|||n/2))|lists {g hs t F a b x y m n}:Hg (g++[.fS]) F->ef g t .fS->t.err=0->Dv L g hs a x m->Hg g x->(Fm.gJ 0 F (.mk 7 0 .z [])).ak7<=4096->(Fm.gJ 0 F (.mk 7 0 .z [])).Dz x=0->g.length+2<=16->hs.length+1<=16->Dv L (g++[.nat]++[.fS]) (hs.map (Fm.up 0 2)++[F.up 1 1]) b y n->Hg (g++[.nat]++[.fS]) y->(Fm.gJ 0 (F.up 1 2) (.mk 8 0 .z [v1,v0])).ak7<=4096->(Fm.gJ 0 (F.up 1 2) (.mk 8 0 .z [v1,v0])).Dz y=0->(Fm.gJ 0 F t).ak7<=4096->Dv L g hs (.mk 17 0 .z [t] [F] [a,b]) (Fm.gJ 0 F t) (fin (Fm.gJ 0 F t) ((s0 t|||m)|||n/4))|refl {g hs t}:ef g t .nat->t.err=0->Hg g (.mk 1 .z [t,t] [])->Dv L g hs (.mk 18 0 .z [t] [] []) (.mk 1 .z [t,t] []) 0|subst {g hs F a b t u f m n}:Hg (g++[.nat]) F->Dv L g hs a (.mk 1 .z [t,u] []) m->ef g t .nat->ef g u .nat->t.err=0->u.err=0->Dv L g hs b f n->Hg g f->(Fm.gJ 0 F t).ak7<=4096->(Fm.gJ 0 F t).Dz f=0->(Fm.gJ 0 F u).ak7<=4096->Dv L g hs (.mk 19 0 .z [] [F] [a,b]) (Fm.gJ 0 F u) (fin (Fm.gJ 0 F u) n)|choice {g hs a s u y m}:Dv L g hs a (.mk 4 s [] [.mk 5 u [] [y]]) m->s.err=0->u.err=0->Hg (g++[s]++[u]) y->(Ty.fn s u).err=0->(Fm.gJ 0 (y.up 2 1) (gC v1 v0)).ak7<=4096->Hg g (.mk 5 (.fn s u) [] [.mk 4 s [] [Fm.gJ 0 (y.up 2 1) (gC v1 v0)]])->Dv L g hs (.mk 20 0 .z [] [] [a]) (.mk 5 (.fn s u) [] [.mk 4 s [] [Fm.gJ 0 (y.up 2 1) (gC v1 v0)]]) (fin (.mk 5 (.fn s u) [] [.mk 4 s [] [Fm.gJ 0 (y.up 2 1) (gC v1 v0)]]) m)
def yA(f:Fm):fin f 0=0:=by grind[fin]
def De{g c:List Ty}{a b:Fm}(d:Hg g a)(f:Hg c b)(i:g.length<=1000000)(j:c.length<=1000000)(h:Ai a b=0):a.Dz b=0:=by grind[DO]
def jE{g:List Ty}{s:Ty}{F:Fm}{t:Tm}(hF:iQ (g++[s]) F)(a:ef g t s)(hn:(Fm.gJ 0 F t).ak7<=4096):Hg g (Fm.gJ 0 F t):=⟨Fm.oT (hF.put a).ok hn,hF.put a⟩
def Hg.VP{g:List Ty}{F:Fm}(h:Hg (g++[.nat]) F):Hg (g++[.nat]++[.nat]) (F.up 1 1):=⟨CU h.err VW VW,by have:=h.ty.up g [.nat] [.nat] rfl;simpa using this⟩
def Hg.Um{g:List Ty}{F:Fm}(h:Hg (g++[.fS]) F):Hg (g++[.nat]++[.fS]++[.fS]) (F.up 1 2):=⟨CU h.err VW VW,by have:=h.ty.up g [.fS] [.nat,.fS] rfl;simpa using this⟩
def Hg.upl{g:List Ty}{F:Fm}(h:Hg (g++[.fS]) F):Hg (g++[.nat]++[.fS]) (F.up 1 1):=⟨CU h.err VW VW,by have:=h.ty.up g [.fS] [.nat] rfl;simpa using this⟩
def uR.qv{L:List Fm}{g:List Ty}{hs:List Fm}(h:uR L ⟨g,hs⟩){s:Ty}(a:s.err=0)(hn:g.length+1<=16):uR L ⟨g++[s],hs.map (Fm.up 0 1)⟩:=h.below (l:=[s]) (λx b=>by rw[DB.1 b];exact a) hn
def uR.IM{L:List Fm}{g:List Ty}{hs:List Fm}(h:uR L ⟨g,hs⟩)(hn:g.length+2<=16):uR L ⟨g++[.nat]++[.fS],hs.map (Fm.up 0 2)⟩:=by
 have:=h.below (l:=[.nat,.fS]) (λx hx=>by
  rcases lQ.1 hx with rfl|hx
  ·exact Ty.gR
  ·rw[DB.1 hx];exact Ty.mv) hn
 grind
def Bc{F:Fm}(hF:F.err=0){g:List Ty}(a:iT g)(h:F.x9 g=0):Hg g F:=⟨hF,rG F (Fm.ia hF).1 g a h⟩
def Dv.of{L:List Fm}{P:Pf}(hP:AZ P):∀(g:List Ty) (hs:List Fm) (f:Fm) (m:Nat),uR L ⟨g,hs⟩->P.inf L g hs=.inl (f,m)->Dv L g hs P f m/\Hg g f:=by
 induction hP with
 |@hyp i hi=>
  intro g hs f m d h;have G:iT g:=d.ctx;rw[Pf.hE,R6] at h;obtain⟨M,o,he,c⟩:=jZ h;rw[c];clear h c;have h:=o;clear o;obtain⟨j,H⟩:=mN h;obtain⟨V,rfl⟩:=iM (yl H)
  have Q:hs.length-1-i.toNat<hs.length:=VW
  rw[Aq,o9 Q] at V;have V:hs[hs.length-1-i.toNat]=f:=V;have B:Hg g f:=d.ala f (by rw[<-V];exact B7 Q);rw[yA];exact⟨.hyp hi VW (by rw[o9 Q,V]) B,B⟩
 |@mm i hi=>
  intro g hs f m d h;have G:iT g:=d.ctx;rw[Pf.hE,X0] at h;obtain⟨M,o,he,c⟩:=jZ h;rw[c];clear h c;have h:=o;clear o;obtain⟨j,H⟩:=mN h;obtain⟨V,rfl⟩:=iM (yl H)
  have Q:i.toNat<L.length:=VW
  rw[Aq,o9 Q] at V;have V:L[i.toNat]=f:=V;have B:Hg [] f:=d.mm f (by rw[<-V];exact B7 Q);rw[yA];exact⟨.mm hi (by rw[o9 Q,V]) B,he,by simpa using B.ty.front g⟩
 |@Pu a b _ _ l I=>
  intro g hs f m d h;have G:iT g:=d.ctx;rw[Pf.hE,RB] at h;obtain⟨M,o,he,c⟩:=jZ h;rw[c];clear h c;have h:=o;clear o;obtain⟨x,n1,j,h⟩:=ic h;obtain⟨y,n2,H,h⟩:=ic h;obtain⟨rfl,rfl⟩:=iM (yl h);obtain⟨C,w⟩:=l g hs x n1 d j;obtain⟨T,tb⟩:=I g hs y n2 d H;have B:Hg g (.mk 2 .z [] [x,y]):=⟨he,.two (.inl rfl) w.ty tb.ty⟩;exact⟨.Pu C T B,B⟩
 |@and k a A _ l=>
  intro g hs f m d h;have G:iT g:=d.ctx;rcases A with rfl|rfl
  ·rw[Pf.hE,Qn] at h;obtain⟨M,o,he,c⟩:=jZ h;rw[c];clear h c;have h:=o;clear o;obtain⟨x,n1,j,h⟩:=ic h;obtain⟨j,A⟩:=xb j;obtain⟨rfl,rfl⟩:=iM (yl h);obtain⟨C,w⟩:=l g hs x n1 d j;obtain⟨x,y,rfl,R,W⟩:=w.ty.GI A (.inl rfl);exact⟨.ZG C ⟨he,R⟩,he,R⟩
  ·rw[Pf.hE,Qm] at h;obtain⟨M,o,he,c⟩:=jZ h;rw[c];clear h c;have h:=o;clear o;obtain⟨x,n1,j,h⟩:=ic h;obtain⟨j,A⟩:=xb j;obtain⟨rfl,rfl⟩:=iM (yl h);obtain⟨C,w⟩:=l g hs x n1 d j;obtain⟨x,y,rfl,R,W⟩:=w.ty.GI A (.inl rfl);exact⟨.ZH C ⟨he,W⟩,he,W⟩
 |@Nn F a hF _ l=>
  intro g hs f m d h;have G:iT g:=d.ctx;rw[Pf.hE,Rs] at h;obtain⟨M,o,he,c⟩:=jZ h;rw[c];clear h c;have h:=o;clear o;obtain⟨K,h⟩:=kQ h;obtain⟨hn,h⟩:=mN h;obtain⟨y,n1,j,h⟩:=ic h;obtain⟨rfl,rfl⟩:=iM (yl h);have r:=Bc hF G K;obtain⟨C,w⟩:=l g _ y n1 (d.with r (by show hs.length+1<=16;omega)) j;have B:Hg g (.mk 3 .z [] [F,y]):=⟨he,.two (.inr rfl) r.ty w.ty⟩;exact⟨.Nn r VW C B,B⟩
 |@OB a b _ _ l I=>
  intro g hs f m d h;have G:iT g:=d.ctx;have U:=d.nv;have U:g.length<=16:=U;rw[Pf.hE,PZ] at h;obtain⟨M,o,he,c⟩:=jZ h;rw[c];clear h c;have h:=o;clear o;obtain⟨x,n1,j,h⟩:=ic h;obtain⟨j,A⟩:=xb j;obtain⟨z,n2,H,h⟩:=ic h;obtain⟨hm,h⟩:=kQ h;obtain⟨rfl,rfl⟩:=iM (yl h);obtain⟨C,w⟩:=l g hs x n1 d j;obtain⟨T,tb⟩:=I g hs z n2 d H;obtain⟨x,y,rfl,R,W⟩:=w.ty.GI A (.inr rfl);have D:=w.sub (x:=x) aa2 R;exact⟨.OB C T D tb (De D tb VW VW hm) ⟨he,W⟩,he,W⟩
 |@all k s a A v _ l=>
  intro g hs f m d h;have G:iT g:=d.ctx;rcases A with rfl|rfl
  ·rw[Pf.hE,Fv] at h;obtain⟨M,o,he,c⟩:=jZ h;rw[c];clear h c;have h:=o;clear o;obtain⟨hn,h⟩:=mN h;obtain⟨x,n1,j,h⟩:=ic h;obtain⟨rfl,rfl⟩:=iM (yl h);obtain⟨C,w⟩:=l _ _ x n1 (d.qv v VW) j;have B:Hg g (.mk 4 s [] [x]):=⟨he,.q (.inl rfl) v w.ty⟩;exact⟨.all (.inl ⟨rfl,rfl⟩) v VW C B,B⟩
  ·rw[Pf.hE,Mi] at h;obtain⟨M,o,he,c⟩:=jZ h;rw[c];clear h c;have h:=o;clear o;obtain⟨hn,h⟩:=mN h;obtain⟨x,n1,j,h⟩:=ic h;obtain⟨hb,h⟩:=mN h;obtain⟨rfl,rfl⟩:=iM (yl h);obtain⟨C,w⟩:=l _ _ x n1 (d.qv v VW) j;have B:Hg g (.mk 6 s [] [x]):=⟨he,.q (.inr (.inr (.inl rfl))) v w.ty⟩;exact⟨.all (.inr ⟨rfl,rfl,by simpa using hb⟩) v VW C B,B⟩
 |@Yh k t a A K _ l=>
  intro g hs f m d h;have G:iT g:=d.ctx
  have key:∀(k':Int) (f:Fm) (m:Nat),(k'=4\/k'=6)->∀u:Nat->Nat,(jC (t.ty g).2 (pbind (FZ (a.inf L g hs) k') λa m=>vP ((t.ty g).1.jY a.dM=false) 7 (jC (kA (a.ak6.getD 0 iH) t).2 (.inl ((kA (a.ak6.getD 0 iH) t).1,u m)))))=.inl (f,m)->∃s x n,ef g t s/\Dv L g hs a (.mk k' s [] [x]) n/\Hg (g++[s]) x/\(Fm.gJ 0 x t).ak7<=4096/\f=Fm.gJ 0 x t/\m=u n:=by
   intro k' f m ak u h;obtain⟨af,h⟩:=kQ h;obtain⟨x,n1,j,h⟩:=ic h;obtain⟨j,A⟩:=xb j;obtain⟨X,h⟩:=mN h;obtain⟨hp,h⟩:=kQ h;obtain⟨rfl,rfl⟩:=iM (yl h);obtain⟨C,w⟩:=l g hs x n1 d j;obtain⟨s,y,rfl,v,W⟩:=w.ty.vX A VW;have ah:=w.sub (x:=y) aa2 W;obtain⟨Y,N⟩:=yo hp;rcases we K G with⟨e,he,q1,_⟩|⟨s1,q1,O,an⟩
   ·exact absurd (q1.symm.trans af) he
   ·have q1:t.ty g=(s1,0):=q1;rw[q1] at X;have:s1=s:=(Ty.kv _ _).1 (by simpa using X);subst this;have Y:kA y t=(Fm.gJ 0 y t,0):=Y;refine⟨s1,y,n1,O,C,ah,N,?_,rfl⟩;show(kA y t).1=_;rw[Y]
  rcases A with rfl|rfl
  ·rw[Pf.hE,WT] at h;obtain⟨M,o,he,c⟩:=jZ h;rw[c];clear h c;have h:=o;clear o;obtain⟨s,x,n,q1,q2,q3,q4,rfl,rfl⟩:=key 4 _ _ (.inl rfl) (λm=>m|||s0 t) h;exact⟨.Yh (.inl ⟨rfl,rfl,rfl⟩) q1 K q2 q3 q4,jE q3.ty q1 q4⟩
  ·rw[Pf.hE,Qc] at h;obtain⟨M,o,he,c⟩:=jZ h;rw[c];obtain⟨s,x,n,q1,q2,q3,q4,rfl,rfl⟩:=key 6 _ _ (.inr rfl) (λm=>m) o;exact⟨.Yh (.inr ⟨rfl,rfl,rfl⟩) q1 K q2 q3 q4,jE q3.ty q1 q4⟩
 |@ex k t F a A K hF _ l=>
  intro g hs f m d h;have G:iT g:=d.ctx;have U:g.length<=16:=d.nv
  have key:∀(k':Int) (f:Fm) (m:Nat),(k'=5\/k'=7)->∀u:Nat->Nat,(jC (F.x9 g) (vP (F.ak5≠k') 10 (jC (t.ty g).2 (vP ((t.ty g).1.jY F.dM=false) 7 (pbind (B1 (a.inf L g hs) (F.ak6.getD 0 iH) t) λ_ m=>.inl (F,u m))))))=.inl (f,m)->∃s x y n,F=.mk k' s [] [x]/\Hg g F/\ef g t s/\Hg (g++[s]) x/\Dv L g hs a y n/\Hg g y/\(Fm.gJ 0 x t).ak7<=4096/\(Fm.gJ 0 x t).Dz y=0/\f=F/\m=u n:=by
   intro k' f m ak u h;obtain⟨O,h⟩:=kQ h;obtain⟨A,h⟩:=mN h;obtain⟨af,h⟩:=kQ h;obtain⟨X,h⟩:=mN h;obtain⟨y,n,j,h⟩:=ic h;obtain⟨rfl,rfl⟩:=iM (yl h);have r:=Bc hF G O;obtain⟨s,x,rfl,v,R⟩:=r.ty.vX (w5.1 A) VW;have D:=r.sub (x:=x) aa2 R;obtain⟨j,N,hm⟩:=BZ j;obtain⟨C,w⟩:=l g hs y n d j;rcases we K G with⟨e,he,q1,_⟩|⟨s1,q1,ae,an⟩
   ·exact absurd (q1.symm.trans af) he
   ·rw[q1] at X;have:s1=s:=(Ty.kv _ _).1 (by simpa using X);subst this;exact⟨s1,x,y,n,rfl,r,ae,D,C,w,N,De (jE R ae N) w VW VW hm,rfl,rfl⟩
  rcases A with rfl|rfl
  ·rw[Pf.hE,MK] at h;obtain⟨M,o,he,c⟩:=jZ h;rw[c];obtain⟨s,x,y,n,rfl,q1,q2,q3,q4,q5,q6,q7,rfl,rfl⟩:=key 5 _ _ (.inl rfl) (λm=>m|||s0 t) o;exact⟨.ex (.inl ⟨rfl,rfl,rfl⟩) q1 q2 K q3 q4 q5 q6 q7,q1⟩
  ·rw[Pf.hE,Qw] at h;obtain⟨M,o,he,c⟩:=jZ h;rw[c];obtain⟨s,x,y,n,rfl,q1,q2,q3,q4,q5,q6,q7,rfl,rfl⟩:=key 7 _ _ (.inr rfl) (λm=>m) o;exact⟨.ex (.inr ⟨rfl,rfl,rfl⟩) q1 q2 K q3 q4 q5 q6 q7,q1⟩
 |@Yx k a b A _ _ l I=>
  intro g hs f m d h;have G:iT g:=d.ctx;have U:g.length<=16:=d.nv;rcases A with rfl|rfl
  ·rw[Pf.hE,Es] at h;obtain⟨M,o,he,c⟩:=jZ h;rw[c];clear h c;obtain⟨x,n1,j,h⟩:=ic o;obtain⟨j,A⟩:=xb j;obtain⟨hn,h⟩:=mN h;obtain⟨y,n2,H,h⟩:=ic h;obtain⟨hw,h⟩:=kQ h;obtain⟨rfl,rfl⟩:=iM (yl h);obtain⟨C,w⟩:=l g hs x n1 d j;obtain⟨s,x,rfl,v,R⟩:=w.ty.vX A (.inr (.inl rfl));have D:=w.sub (x:=x) aa2 R;have S:=(d.qv v VW).with (f:=x) D (by show(hs.map (Fm.up 0 1)).length+1<=16;simp;omega);obtain⟨T,tb⟩:=I _ _ y n2 S H;have B:Hg g (w4 y).1:=⟨he,(I1 tb VW v hw).1⟩;exact⟨.Yx (.inl ⟨rfl,rfl⟩) C v VW VW D T tb hw B,B⟩
  ·rw[Pf.hE,JR] at h;obtain⟨M,o,he,c⟩:=jZ h;rw[c];clear h c;obtain⟨x,n1,j,h⟩:=ic o;obtain⟨j,A⟩:=xb j;obtain⟨hn,h⟩:=mN h;obtain⟨y,n2,H,h⟩:=ic h;obtain⟨hw,h⟩:=kQ h;obtain⟨hb,h⟩:=mN h;obtain⟨rfl,rfl⟩:=iM (yl h);obtain⟨C,w⟩:=l g hs x n1 d j;obtain⟨s,x,rfl,v,R⟩:=w.ty.vX A (.inr (.inr (.inr rfl)));have D:=w.sub (x:=x) aa2 R;have S:=(d.qv v VW).with (f:=x) D (by show(hs.map (Fm.up 0 1)).length+1<=16;simp;omega);obtain⟨T,tb⟩:=I _ _ y n2 S H;have B:Hg g (w4 y).1:=⟨he,(I1 tb VW v hw).1⟩;exact⟨.Yx (.inr ⟨rfl,rfl,by simpa using hb⟩) C v VW VW D T tb hw B,B⟩
 |@ind k t F a b A K hF _ _ l I=>
  intro g hs f m d h;have G:iT g:=d.ctx;have U:g.length<=16:=d.nv;rcases A with rfl|rfl
  ·rw[Pf.hE,Mn] at h;obtain⟨M,o,he,c⟩:=jZ h;rw[c];clear h c;obtain⟨O,h⟩:=kQ o;obtain⟨A,h⟩:=kQ h;obtain⟨x,n1,j,h⟩:=ic h;obtain⟨hn,h⟩:=mN h;obtain⟨y,n2,H,h⟩:=ic h;obtain⟨hp,h⟩:=kQ h;obtain⟨Y,N⟩:=yo hp;rw[Y] at h;obtain⟨rfl,rfl⟩:=iM (yl h);have r:=Bc hF G.nat O;have J:ef g t .nat:=BL G K (.inl rfl) A;obtain⟨j,a2,a3⟩:=BZ j;obtain⟨H,Z,b3⟩:=BZ H;obtain⟨C,w⟩:=l g hs x n1 d j;have S:=(d.qv Ty.gR VW).with (f:=F) r (by show(hs.map (Fm.up 0 1)).length+1<=16;simp;omega);obtain⟨T,tb⟩:=I _ _ y n2 S H;have hz:=jE r.ty (t:=rA) .zero a2;have ai:=jE (Hg.VP r).ty (t:=ru v0) (.succ kG) Z;have B:Hg g (Fm.gJ 0 F t):=jE r.ty J N;exact⟨.ind r J K C w a2 (De hz w VW VW a3) VW VW T tb Z (De ai tb acx acx b3) N,B⟩
  ·rw[Pf.hE,HM] at h;obtain⟨M,o,he,c⟩:=jZ h;rw[c];clear h c;obtain⟨O,h⟩:=kQ o;obtain⟨A,h⟩:=kQ h;obtain⟨x,n1,j,h⟩:=ic h;obtain⟨hn,h⟩:=mN h;obtain⟨y,n2,H,h⟩:=ic h;obtain⟨hp,h⟩:=kQ h;obtain⟨Y,N⟩:=yo hp;rw[Y] at h;obtain⟨rfl,rfl⟩:=iM (yl h);have r:=Bc hF G.fS O;have J:ef g t .fS:=BL G K (.inr rfl) A;obtain⟨j,a2,a3⟩:=BZ j;obtain⟨H,Z,b3⟩:=BZ H;obtain⟨C,w⟩:=l g hs x n1 d j;have S:=(d.IM VW).with (f:=F.up 1 1) (Hg.upl r) (by show(hs.map (Fm.up 0 2)).length+1<=16;simp;omega);obtain⟨T,tb⟩:=I _ _ y n2 S H;have hz:=jE r.ty (t:=.mk 7 0 .z []) .nil a2;have ai:=jE (Hg.Um r).ty (t:=.mk 8 0 .z [v1,v0]) (.cons sQ kG) Z;have B:Hg g (Fm.gJ 0 F t):=jE r.ty J N;exact⟨.lists r J K C w a2 (De hz w VW VW a3) VW VW T tb Z (De ai tb acx acx b3) N,B⟩
 |@refl t K=>
  intro g hs f m d h;have G:iT g:=d.ctx;rw[Pf.hE,MB] at h;obtain⟨M,o,he,c⟩:=jZ h;rw[c];clear h c;obtain⟨A,h⟩:=kQ o;obtain⟨rfl,rfl⟩:=iM (yl h);have J:ef g t .nat:=BL G K (.inl rfl) A;rw[yA];exact⟨.refl J K ⟨he,.eq J J⟩,he,.eq J J⟩
 |@subst F a b hF _ _ l I=>
  intro g hs f m d h;have G:iT g:=d.ctx;have U:g.length<=16:=d.nv;rw[Pf.hE,HS] at h;obtain⟨M,o,he,c⟩:=jZ h;rw[c];clear h c;obtain⟨O,h⟩:=kQ o;obtain⟨x,n1,j,h⟩:=ic h;obtain⟨j,A⟩:=xb j;obtain⟨y,n2,H,h⟩:=ic h;obtain⟨hp,h⟩:=kQ h;obtain⟨Y,N⟩:=yo hp;rw[Y] at h;obtain⟨rfl,rfl⟩:=iM (yl h);have r:=Bc hF G.nat O;obtain⟨C,w⟩:=l g hs x n1 d j;obtain⟨t,u,rfl,K,hu⟩:=w.ty.WD A;have hn:=w.ak7;rw[Fm.dP] at hn;simp only[ei] at hn;obtain⟨H,Z,b3⟩:=BZ H;obtain⟨T,tb⟩:=I g hs y n2 d H;have Z:(Fm.gJ 0 F t).ak7<=4096:=Z;have b3:Ai (Fm.gJ 0 F t) y=0:=b3;have N:(Fm.gJ 0 F u).ak7<=4096:=N;have B:Hg g (Fm.gJ 0 F u):=jE r.ty hu N;show Dv L g hs _ (Fm.gJ 0 F u) (fin (Fm.gJ 0 F u) n2)/\Hg g (Fm.gJ 0 F u);exact⟨.subst r C K hu (Tm.oT K.ok VW) (Tm.oT hu.ok VW) T tb Z (De (jE r.ty K Z) tb VW VW b3) N,B⟩
 |@choice a _ l=>
  intro g hs f m d h;have G:iT g:=d.ctx;rw[Pf.hE,Jg] at h;obtain⟨M,o,he,c⟩:=jZ h;rw[c];clear h c;obtain⟨x,n1,j,h⟩:=ic o;obtain⟨j,A⟩:=xb j;obtain⟨h5,h⟩:=mN h;obtain⟨ad,h⟩:=mN h;obtain⟨hp,h⟩:=mN h;obtain⟨Y,N⟩:=yo (w5.1 hp);rw[Y] at h;obtain⟨rfl,rfl⟩:=iM (yl h);obtain⟨C,w⟩:=l g hs x n1 d j;obtain⟨s,x,rfl,v,R⟩:=w.ty.vX A (.inl rfl);have D:=w.sub (x:=x) aa2 R;obtain⟨u,y,rfl,ao,W⟩:=R.vX (w5.1 h5) (.inr (.inl rfl));have ah:=D.sub (x:=y) aa2 W;have N:(Fm.gJ 0 (y.up 2 1) (gC v1 v0)).ak7<=4096:=N;have ad:(Ty.fn s u).err=0:=w5.1 ad
  have aq:iQ (g++[.fn s u]++[s]++[u]) (y.up 2 1):=by
   have:=W.up g [s,u] [.fn s u] aa2;simpa using this
  have ar:ef (g++[.fn s u]++[s]) (gC v1 v0) u:=.app sQ kG;have B:Hg g (.mk 5 (.fn s u) [] [.mk 4 s [] [Fm.gJ 0 (y.up 2 1) (gC v1 v0)]]):=⟨he,.q (.inr (.inl rfl)) ad (.q (.inl rfl) v (aq.put ar))⟩;exact⟨.choice C v ao ah ad N B,B⟩
def Wm(t:Tm):∀f b v:Int,0<=f->0<=b->f+b<=v->(t.up f b).alb v=t.alb (v-b):=by
 induction t using Tm.ind with
 |h k i s l ih=>
  intro f b v o j q;have r:=jl k;rw[Tm.fJ,Tm.fF,Tm.fF,mo]
  congr 1
  ·by_cases a:k=1
   ·subst a;simp only[AK]
    by_cases c:f<=i
    ·rw[dR c]
     by_cases d:i+b=v
     ·rw[dR d,dR VW]
     ·rw[dK d,dK VW]
    ·rw[dK c,dK VW,dK VW]
   ·simp only[a,Jr,iU]
  ·refine pN λx n=>?_;rw[ih x n (f+fE k) b (v+fE k) VW j VW,show v+fE k-b=v-b+fE k by omega]
def OM{α:Type}(f g:α->Nat)(c:Nat):∀l:List α,ei (λx=>f x+g x*c) l=ei f l+ei g l*c
 |[]=>by simp[ei]|x::l=>by
  simp only[ei];rw[OM f g c l,C9];omega
def TK(a t:Tm):∀n v:Int,t.ok=true->0<=n->n<=v->(Tm.gJ n t a).alb v=t.alb (v+1)+t.alb n*a.alb (v-n):=by
 induction t using Tm.ind with
 |h k i s l ih=>
  intro n v d hn q;have r:=jl k
  by_cases c:k=1
  ·subst c;obtain⟨rfl,rfl⟩:=Jb d;rw[Tm.fO,dR rfl];unfold Tm.nj;rw[Tm.fF,Tm.fF];simp only[AK,ei,F2]
   by_cases b:i=n
   ·rw[dR b,dK (show¬i=v+1 by omega),dR b,Wm a 0 n v VW hn VW];omega
   ·rw[dK b,dK b]
    by_cases f:n<i
    ·rw[dR f,Tm.fF];simp only[AK,ei,F2]
     by_cases j:i=v+1
     ·rw[dR j,dR VW];omega
     ·rw[dK j,dK VW];omega
    ·rw[dK f,Tm.fF];simp only[AK,ei,F2];rw[dK VW,dK VW];omega
  ·rw[Tm.fO,dK c,Tm.fF,Tm.fF,Tm.fF,mo];simp only[c,Jr,iU,Aa];rw[<-OM];refine pN λx o=>?_;rw[ih x o (n+fE k) (v+fE k) (Tm.ey d x o) VW VW,show v+fE k-(n+fE k)=v-n by omega,show v+fE k+1=v+1+fE k by omega]
def Pq{α:Type}{f:α->Nat}:∀{l:List α},0<ei f l->∃x∈l,0<f x
 |[],h=>by simp[ei] at h
 |x::l,h=>by
  simp only[ei] at h
  by_cases a:0<f x
  ·exact⟨x,aa2,a⟩
  ·obtain⟨y,b,c⟩:=Pq (f:=f) (l:=l) VW;exact⟨y,by simp[b],c⟩
def Tm.In(t:Tm)(v:Int):Prop:=0<t.alb v
def lS{k i:Int}{s:Ty}{l:List Tm}{x:Tm}{v:Int}(a:fE k=0)(b:x∈l)(h:x.In v):(Tm.mk k i s l).In v:=by
 unfold Tm.In at*;rw[Tm.fF,a,uQ];have:=eG (Tm.alb v) b;omega
def Dp{k i:Int}{s:Ty}{l:List Tm}{v:Int}(a:k≠1)(b:fE k=0)(h:(Tm.mk k i s l).In v):∃x∈l,x.In v:=by
 unfold Tm.In at*;rw[Tm.fF,b,uQ,dK (λh=>a h.1),Aa] at h;exact Pq h
def Jm{t:Tm}{v:Int}(q:t.ok=true)(w:t.root=true)(y:0<=v)(h:t.fx.In v):t.In v:=by
 cases Tm.O0 q w with
 |@app i s j u b a=>
  rw[show(Tm.mk 3 i s [.mk 2 j u [b],a]).fx=Tm.gJ 0 b a by simp[Tm.fx]] at h;unfold Tm.In at h;rw[TK a b 0 v (Tm.ey (Tm.ey q (.mk 2 j u [b]) aa2) b aa2) VW y,afi] at h
  by_cases l:0<b.alb (v+1)
  ·refine lS rfl (x:=.mk 2 j u [b]) aa2 ?_;unfold Tm.In;rw[Tm.fF];simp only[ei,show fE 2=1 from rfl];omega
  ·have d:0<a.alb v:=by
    rcases agi (a.alb v)with h0|h0
    ·rw[h0,Nat.mul_zero] at h;omega
    ·exact h0
   exact lS rfl (x:=a) aa2 d
 |@zero k A i s j u b st o=>
  rcases o with⟨rfl,rfl⟩|⟨rfl,rfl⟩
  ·rw[show(Tm.mk 6 i s [b,st,.mk 4 j u []]).fx=b by simp[Tm.fx]] at h;exact lS rfl aa2 h
  ·rw[show(Tm.mk 9 i s [b,st,.mk 7 j u []]).fx=b by simp[Tm.fx]] at h;exact lS rfl aa2 h
 |@succ i s j u b st n=>
  rw[show(Tm.mk 6 i s [b,st,.mk 5 j u [n]]).fx=.mk 3 0 (.mk 0 []) [.mk 3 0 (.mk 0 []) [st,n],.mk 6 i s [b,st,n]] by simp[Tm.fx,o8]] at h
  have key:∀x,(x=b\/x=st\/x=n)->x.In v->(Tm.mk 6 i s [b,st,.mk 5 j u [n]]).In v:=by
   intro x c f;rcases c with rfl|rfl|rfl
   ·exact lS rfl (x:=x) aa2 f
   ·exact lS rfl (x:=x) aa2 f
   ·exact lS rfl (x:=.mk 5 j u [x]) aa2 (lS rfl aa2 f)
  obtain⟨x,c,l⟩:=Dp aak rfl h;simp only[lQ,uU,tO] at c;rcases c with rfl|rfl
  ·obtain⟨x,c,d⟩:=Dp aak rfl l;simp only[lQ,uU,tO] at c;exact key x (.inr c) d
  ·obtain⟨x,c,d⟩:=Dp aak rfl l;simp only[lQ,uU,tO] at c;exact key x c d
 |@cons i s j u b st p n=>
  rw[show(Tm.mk 9 i s [b,st,.mk 8 j u [p,n]]).fx=.mk 3 0 (.mk 0 []) [.mk 3 0 (.mk 0 []) [.mk 3 0 (.mk 0 []) [st,p],n],.mk 9 i s [b,st,n]] by simp[Tm.fx,o8]] at h
  have key:∀x,(x=b\/x=st\/x=p\/x=n)->x.In v->(Tm.mk 9 i s [b,st,.mk 8 j u [p,n]]).In v:=by
   intro x c f;rcases c with rfl|rfl|rfl|rfl
   ·exact lS rfl (x:=x) aa2 f
   ·exact lS rfl (x:=x) aa2 f
   ·exact lS rfl (x:=.mk 8 j u [x,n]) aa2 (lS rfl aa2 f)
   ·exact lS rfl (x:=.mk 8 j u [p,x]) aa2 (lS rfl aa2 f)
  obtain⟨x,c,l⟩:=Dp aak rfl h;simp only[lQ,uU,tO] at c;rcases c with rfl|rfl
  ·obtain⟨x,c,d⟩:=Dp aak rfl l;simp only[lQ,uU,tO] at c;rcases c with rfl|rfl
   ·obtain⟨x,c,r⟩:=Dp aak rfl d;simp only[lQ,uU,tO] at c;rcases c with rfl|rfl
    ·exact key _ (.inr (.inl rfl)) r
    ·exact key _ (.inr (.inr (.inl rfl))) r
   ·exact key _ (.inr (.inr (.inr rfl))) d
  ·obtain⟨x,c,d⟩:=Dp aak rfl l;simp only[lQ,uU,tO] at c;rcases c with rfl|rfl|rfl
   ·exact key _ (.inl rfl) d
   ·exact key _ (.inr (.inl rfl)) d
   ·exact key _ (.inr (.inr (.inr rfl))) d
 |@proj k i s j u a b o=>
  rcases o with rfl|rfl
  ·rw[show(Tm.mk 11 i s [.mk 10 j u [a,b]]).fx=a by simp[Tm.fx]] at h;exact lS rfl (x:=.mk 10 j u [a,b]) aa2 (lS rfl aa2 h)
  ·rw[show(Tm.mk 12 i s [.mk 10 j u [a,b]]).fx=b by simp[Tm.fx]] at h;exact lS rfl (x:=.mk 10 j u [a,b]) aa2 (lS rfl aa2 h)
def FQ(t:Tm):∀f b v:Int,f<=v->v<f+b->(t.up f b).alb v=0:=by
 induction t using Tm.ind with
 |h k i s l ih=>
  intro f b v j n;rw[Tm.fJ,Tm.fF,mo,FC λx d=>ih x d (f+fE k) b (v+fE k) VW VW]
  by_cases a:k=1
  ·subst a;simp only[AK]
   by_cases c:f<=i
   ·rw[dR c,dK VW]
   ·rw[dK c,dK VW]
  ·simp only[a,Jr,iU]
def B2{k i:Int}{s:Ty}{l m:List Tm}(v:Int)(h:0<ei (Tm.alb (v+fE k)) m->0<ei (Tm.alb (v+fE k)) l)(a:(Tm.mk k i s m).In v):(Tm.mk k i s l).In v:=by
 unfold Tm.In at*;rw[Tm.fF] at a|-
 by_cases b:0<ei (Tm.alb (v+fE k)) m
 ·have:=h b;omega
 ·omega
def l_.In{t u:Tm}(h:l_ t u):t.ok=true->∀v:Int,0<=v->u.In v->t.In v:=by
 induction h with
 |n0=>intro _ _ _ h;exact h|@n1 k i s a D F o=>
  intro d v l h;refine B2 v (λq=>?_) h;have:=o (Tm.ey d _ aa2) (v+fE k) (by have:=jl k;omega);unfold Tm.In at this;simp only[ei] at q|-;omega
 |@n2 k i s a D b w F y o f=>
  intro d v l h;refine B2 v (λq=>?_) h;have J:=o (Tm.ey d _ aa2) (v+fE k) (by have:=jl k;omega);have A:=f (Tm.ey d _ aa2) (v+fE k) (by have:=jl k;omega);unfold Tm.In at J A;simp only[ei] at q|-;omega
 |@n3 k i s a D b w c H F y I o f r=>
  intro d v l h;refine B2 v (λq=>?_) h;have J:=o (Tm.ey d _ aa2) (v+fE k) (by have:=jl k;omega);have A:=f (Tm.ey d _ aa2) (v+fE k) (by have:=jl k;omega);have B:=r (Tm.ey d _ aa2) (v+fE k) (by have:=jl k;omega);unfold Tm.In at J A B;simp only[ei] at q|-;omega
 |@beta i s j u b w a D y F f o=>
  intro d v l h;have M:=Tm.ey (Tm.ey d (.mk 2 j u [b]) aa2) b aa2;have A:(Tm.mk 3 i s [.mk 2 j u [w],D]).In v:=Jm ((l_.n2 3 i s (.n1 2 j u y) F).ok d) (by simp[Tm.root,Tm.kd]) l (by simpa[Tm.fx] using h);have B:=f M (v+1) VW;have G:=o (Tm.ey d a aa2) v l;refine B2 v (λq=>?_) A;unfold Tm.In at B G;simp only[ei,show fE 3=0 from rfl,uQ] at q|-;rw[Tm.fF] at q|-;simp only[ei,show fE 2=1 from rfl] at q|-;omega
 |@Mh i s j u c b w y f=>intro d v l h;exact lS rfl (x:=b) aa2 (f (Tm.ey d b aa2) v l h)|@CH i s j u c b w y f=>intro d v l h;exact lS rfl (x:=b) aa2 (f (Tm.ey d b aa2) v l h)|@MN i s j u b w c H n n' y I hn f r C=>
  intro d v l h;have A:(Tm.mk 6 i s [w,H,.mk 5 j u [n']]).In v:=Jm ((l_.n3 6 i s y I (.n1 5 j u hn)).ok d) (by simp[Tm.root,Tm.kd]) l (by simpa[Tm.fx] using h);have B:=f (Tm.ey d b aa2) v l;have G:=r (Tm.ey d c aa2) v l;have K:=C (Tm.ey (Tm.ey d (.mk 5 j u [n]) aa2) n aa2) v l;refine B2 v (λq=>?_) A;unfold Tm.In at B G K;simp only[ei,show fE 6=0 from rfl,uQ] at q|-;rw[Tm.fF] at q|-;simp only[ei,show fE 5=0 from rfl,uQ] at q|-;omega
 |@CC i s j u b w c H n n' t N y I hn O f r C L=>
  intro d v l h;have A:(Tm.mk 9 i s [w,H,.mk 8 j u [n',N]]).In v:=Jm ((l_.n3 9 i s y I (.n2 8 j u hn O)).ok d) (by simp[Tm.root,Tm.kd]) l (by simpa[Tm.fx] using h);have B:=f (Tm.ey d b aa2) v l;have G:=r (Tm.ey d c aa2) v l;have K:=C (Tm.ey (Tm.ey d (.mk 8 j u [n,t]) aa2) n aa2) v l;have P:=L (Tm.ey (Tm.ey d (.mk 8 j u [n,t]) aa2) t aa2) v l;refine B2 v (λq=>?_) A;unfold Tm.In at B G K P;simp only[ei,show fE 9=0 from rfl,uQ] at q|-;rw[Tm.fF] at q|-;simp only[ei,show fE 8=0 from rfl,uQ] at q|-;omega
 |@fst i s j u b a D F o=>intro d v l h;exact lS rfl (x:=.mk 10 j u [a,b]) aa2 (lS rfl (x:=a) aa2 (o (Tm.ey (Tm.ey d (.mk 10 j u [a,b]) aa2) a aa2) v l h))|@snd i s j u a b w y f=>intro d v l h;exact lS rfl (x:=.mk 10 j u [a,b]) aa2 (lS rfl (x:=b) aa2 (f (Tm.ey (Tm.ey d (.mk 10 j u [a,b]) aa2) b aa2) v l h))
def oO.In{t u:Tm}(h:oO t u):t.ok=true->∀v:Int,0<=v->u.In v->t.In v:=by
 induction h with
 |refl t=>intro _ _ _ h;exact h|step a _ ih=>intro b v c h;exact a.In b v c (ih (a.ok b) v c h)
def FF.nf{a x p:Tm}{n:Int}(h:FF a x)(d:x.norm 1000 0=(p,n,0)):oO a p:=by
 obtain⟨l,b,c,f,i⟩:=h;obtain⟨n1,s1⟩:=Ey d b;obtain⟨w,j,k⟩:=s1.meet c b i;have:=j.nf n1;subst this;exact f.trans k
def Oo{x:Tm}{e:Int}(h:(DP x e).2=0):e=0/\∃n,x.norm 1000 0=((DP x e).1,n,0):=by
 by_cases he:e=0
 ·subst he;refine⟨rfl,?_⟩;unfold DP at h|-;simp only[if_true] at h|-;refine⟨(x.norm 1000 0).2.1,?_⟩;obtain⟨p,n,e,a⟩:∃p n e,x.norm 1000 0=(p,n,e):=⟨_,_,_,rfl⟩;rw[a] at h|-;simp only at h|-;rw[h]
 ·rw[AY he] at h;exact absurd h he
def td.nr{a f:Fm}(h:td a f):∀e:Int,(f.tq e).2=0->td a (f.tq e).1/\∀v:Int,0<=v->a.alb v=0->(f.tq e).1.alb v=0:=by
 induction h with
 |@eq a d b j l n=>
  intro e he;rw[RI] at he|-;obtain⟨w,n1,q1⟩:=Oo he;obtain⟨A,n2,x⟩:=Oo w;have s1:=l.nf x;have s2:=n.nf q1;refine⟨.eq (.star l.1 s1) (.star n.1 s2),λv i c=>?_⟩;rw[Fm.fF] at c|-;simp only[ei] at c|-;have t1:=s1.In l.1 v i;have t2:=s2.In n.1 v i;unfold Tm.In at t1 t2;omega
 |@two k a d b j _ _ o r=>
  intro e he;rw[SB] at he|-;have he:(j.tq (d.tq e).2).2=0:=he;obtain⟨y,t2⟩:=r _ he;have t:(d.tq e).2=0:=ZU λh=>h (by rw[Fm.JO j _ h] at he;exact he);obtain⟨u,t1⟩:=o e t;refine⟨.two u y,λv i c=>?_⟩;have:=x0 k;rw[Fm.fF] at c|-;simp only[ei] at c|-;have:=t1 (v+qB k) VW VW;have:=t2 (v+qB k) VW VW;omega
 |@q k s a d _ ih=>
  intro e he;rw[abD] at he|-;obtain⟨u,t1⟩:=ih e he;refine⟨.q u,λv i c=>?_⟩;have:=x0 k;rw[Fm.fF] at c|-;simp only[ei] at c|-;have:=t1 (v+qB k) VW VW;omega
def Tm.Zv(t:Tm):∀n:Int,t.alb n=0->(t.up (n+1) (-1)).up n 1=t:=by
 induction t using Tm.ind with
 |h k i s l ih=>
  intro n a;rw[Tm.fF] at a;rw[Tm.fJ,Tm.fJ,Bp]
  congr 1
  ·by_cases b:k=1
   ·subst b;simp only[AK] at a|-
    have:¬i=n:=λh=>by rw[dR h] at a;omega
    by_cases c:n+1<=i
    ·rw[dR c,dR VW];omega
    ·rw[dK c,dK VW]
   ·simp only[b,Jr,iU]
  ·refine map_id' λx d=>?_;have:=eG (Tm.alb (n+fE k)) d;have:=ih x d (n+fE k) VW;rw[show n+fE k+1=n+1+fE k by omega] at this;exact this
def Fm.Zv(f:Fm):∀n:Int,f.alb n=0->(f.up (n+1) (-1)).up n 1=f:=by
 induction f using Fm.ind with
 |h k s ts l ih=>
  intro n b;rw[Fm.fF] at b;rw[Fm.fJ,Fm.fJ,Bp,Bp]
  congr 1
  ·refine map_id' λx a=>?_;have:=eG (Tm.alb n) a;exact x.Zv n VW
  ·refine map_id' λx a=>?_;have:=eG (Fm.alb (n+qB k)) a;have:=ih x a (n+qB k) VW;rw[show n+qB k+1=n+1+qB k by omega] at this;exact this
def Fm.FQ(t:Fm):∀f b v:Int,f<=v->v<f+b->(t.up f b).alb v=0:=by
 induction t using Fm.ind with
 |h k s ts l ih=>
  intro f b v a c;rw[Fm.fJ,Fm.fF,mo,mo,FC λx _=>Go.fD.FQ x f b v a c,FC λx d=>ih x d (f+qB k) b (v+qB k) VW VW]
def Fm.Sn{g:List Ty}{f:Fm}(h:iQ g f)(x:Tm):∀n:Int,0<=n->Fm.gJ n (f.up n 1) x=f:=by
 have key:∀{g:List Ty} {t:Tm} {s:Ty},ef g t s->∀n:Int,0<=n->Tm.gJ n (t.up n 1) x=t:=by
  intro g t s h n hn;have:=QI x t n n 0 h.ok hn VW VW;rw[Tm.aaE] at this;exact this
 induction h with
 |eq c d=>intro n hn;rw[Fm.fJ,Fm.fO];simp[key c n hn,key d n hn]|@two _ k _ _ _ _ _ a b=>intro n hn;have:=x0 k;rw[Fm.fJ,Fm.fO];simp[a (n+qB k) VW,b (n+qB k) VW]
 |@q _ k _ _ _ _ _ ih=>intro n hn;have:=x0 k;rw[Fm.fJ,Fm.fO];simp[ih (n+qB k) VW]
def td.down{g c:List Ty}{a b:Fm}(d:iQ g a)(f:iQ c b)(h:td (a.up 0 1) (b.up 0 1)):td a b:=by
 have:=h.gJ (FF.refl (a:=rA) aak) (n:=0) VW
 rwa [Fm.Sn d _ 0 VW,Fm.Sn f _ 0 VW] at this
def X3{g:List Ty}{s:Ty}{f:Fm}(h:Hg (g++[s]) f)(hg:g.length<=1000)(a:(w4 f).2=0):td f ((w4 f).1.up 0 1):=by
 unfold w4 at a|-
 by_cases c:f.alb 0=0
 ·rw[dR c];show td f ((f.up 1 (-1)).up 0 1);rw[show(f.up 1 (-1)).up 0 1=f from f.Zv 0 c];exact .refl h.ty
 ·rw[dK c] at a|-
  by_cases b:(f.tq 0).2≠0
  ·rw[dR b] at a;exact absurd a b
  ·rw[dK b] at a|-;have b:(f.tq 0).2=0:=w5.1 b
   by_cases d:(f.tq 0).1.alb 0≠0
   ·rw[dR d] at a;cases a
   ·rw[dK d];show td f (((f.tq 0).1.up 1 (-1)).up 0 1);rw[show((f.tq 0).1.up 1 (-1)).up 0 1=(f.tq 0).1 from Fm.Zv _ 0 (w5.1 d)];exact((td.refl h.ty).nr 0 b).1
def JV{α:Type}{f:α->Int->α×Int}:∀(l:List α) (e:Int),(∀x∈l,∀e,e=0\/pI e->(f x e).2=0\/pI (f x e).2)->e=0\/pI e->(rz f l e).2=0\/pI (rz f l e).2
 |[],e,_,he=>he|x::l,e,h,he=>JV l _ (λy a=>h y (by simp[a])) (h x aa2 e he)
def Y_(f:Fm):∀e:Int,e=0\/pI e->(f.tq e).2=0\/pI (f.tq e).2:=by
 induction f using Fm.ind with
 |h k s ts l ih=>
  intro e he;rw[Fm.FP];refine JV l _ ih (JV ts e (λx _ e he=>?_) he)
  by_cases a:e=0
  ·unfold DP;rw[dR a];rcases EJ 1000 0 x with h|h|h
   ·exact .inl h
   ·exact .inr (.inr (.inl h))
   ·exact .inr (.inr (.inr h))
  ·rw[AY a];exact he
def aba{g:List Ty}{s:Ty}{f y:Fm}(h:Hg (g++[s]) f)(hg:g.length<=1000)(hs:s.err=0)(j:iQ g y)(c:td f (y.up 0 1)):pI (w4 f).2\/(w4 f).2=0/\td (w4 f).1 y:=by
 have key:(w4 f).2=0->td (w4 f).1 y:=λa=>td.down (I1 h hg hs a).1 j ((X3 h hg a).symm.trans c)
 by_cases a:(w4 f).2=0
 ·exact .inr ⟨a,key a⟩
 ·left;unfold w4 at a|-
  by_cases d:f.alb 0=0
  ·rw[dR d] at a;exact absurd rfl a
  ·rw[dK d] at a|-
   by_cases b:(f.tq 0).2≠0
   ·rw[dR b];exact(Y_ f 0 (.inl rfl)).resolve_left b
   ·rw[dK b] at a;have b:(f.tq 0).2=0:=w5.1 b
    by_cases i:(f.tq 0).1.alb 0≠0
    ·exact absurd ((c.symm.nr 0 b).2 0 VW (y.FQ 0 1 0 VW VW)) i
    ·rw[dK i] at a;exact absurd rfl a
inductive DI
 |n|l|u|p (a b:DI)|f (a b:DI)
def DI.D:DI->Type
 |.n=>Nat|.l=>List Nat|.u=>Unit|.p a b=>a.D×b.D|.f a b=>a.D->b.D
def DI.YR:(s:DI)->s.D
 |.n=>(0:Nat)|.l=>([]:List Nat)|.u=>()|.p a b=>(a.YR,b.YR)|.f _ b=>λ_=>b.YR
structure Vw where
 s:DI
 d:s.D
def Vw.no:Vw:=⟨.u,()⟩
noncomputable def Vw.at (v:Vw) (s:DI):s.D:=@dite _ (v.s=s) (Classical.propDecidable _) (λh=>h▸v.d) (λ_=>s.YR)
def Vw.zK(s:DI)(d:s.D):(Vw.mk s d).at s=d:=by unfold Vw.at;rw[dif_pos rfl]
def Vw.eta{v:Vw}{s:DI}(h:v.s=s):(⟨s,v.at s⟩:Vw)=v:=by
 subst h;cases v;rw[Vw.zK]
def Ln(k:Int):List DI->DI
 |[a,b]=>if k=3 then .p a b else .f a b|_=>if k=1 then .n else if k=2 then .l else .u
mutual
def Ty.S:Ty->DI
 |.mk k l=>Ln k (Ty.SL l)
def Ty.SL:List Ty->List DI
 |[]=>[]|t::l=>t.S::Ty.SL l
end
def wH:Ty.nat.S=.n:=by unfold Ty.nat;simp[Ty.S,Ty.SL,Ln]
def z8:Ty.fS.S=.l:=by unfold Ty.fS;simp[Ty.S,Ty.SL,Ln]
def adA:Ty.unit.S=.u:=by unfold Ty.unit;simp[Ty.S,Ty.SL,Ln]
def xN(a b:Ty):(Ty.fn a b).S=.f a.S b.S:=by unfold Ty.fn;simp[Ty.S,Ty.SL,Ln]
def Wv(a b:Ty):(Ty.pr a b).S=.p a.S b.S:=by unfold Ty.pr;simp[Ty.S,Ty.SL,Ln]
noncomputable def ac5 (s:DI) (φ:s.D->Vw):Vw:=⟨.f s (φ s.YR).s,λx=>(φ x).at (φ s.YR).s⟩
noncomputable def ot (f a:Vw):Vw:=match f with
 |⟨.f s t,φ⟩=>⟨t,φ (a.at s)⟩
 |_=>.no
noncomputable def P5 (b s:Vw):Nat->Vw
 |0=>b|k+1=>ot (ot s ⟨.n,k⟩) (P5 b s k)
noncomputable def mM (b s:Vw):List Nat->Vw
 |[]=>b|h::t=>ot (ot (ot s ⟨.n,h⟩) ⟨.l,t⟩) (mM b s t)
def aeZ(v:Vw):Vw:=match v with
 |⟨.p a _,x⟩=>⟨a,x.1⟩|_=>.no
def aft(v:Vw):Vw:=match v with
 |⟨.p _ b,x⟩=>⟨b,x.2⟩|_=>.no
noncomputable def rj (v:Vw):Nat:=v.at .n
noncomputable def JD (v:Vw):List Nat:=v.at .l
noncomputable def opV (k:Int):List Vw->Vw
 |[]=>if k=4 then⟨.n,(0:Nat)⟩else if k=7 then⟨.l,([]:List Nat)⟩else⟨.u,()⟩|[a]=>if k=5 then⟨.n,rj a+1⟩else if k=11 then aeZ a else aft a|[a,b]=>if k=3 then ot a b else if k=8 then⟨.l,rj a::JD b⟩else⟨.p a.s b.s,(a.d,b.d)⟩|a::b::c::_=>if k=6 then P5 a b (rj c)else mM a b (JD c)
def abz:List Vw->Vw
 |[]=>.no|v::_=>v
mutual
noncomputable def Tm.val:Tm->List Vw->Vw
 |.mk k i s l,ρ=>if k=1 then(ρ.reverse[i.toNat]?).getD .no else if k=2 then ac5 s.S λx=>Tm.aaj l (ρ++[⟨s.S,x⟩])else opV k (Tm.XT l ρ)
noncomputable def Tm.aaj:List Tm->List Vw->Vw
 |[],_=>.no|t::_,ρ=>t.val ρ
noncomputable def Tm.XT:List Tm->List Vw->List Vw
 |[],_=>[]|t::l,ρ=>t.val ρ::Tm.XT l ρ
end
def aaO:∀(l:List Tm) (ρ:List Vw),Tm.aaj l ρ=abz (l.map λt=>t.val ρ)
 |[],_=>by rw[Tm.aaj];rfl|t::l,ρ=>by rw[Tm.aaj];rfl
def SK:∀(l:List Tm) (ρ:List Vw),Tm.XT l ρ=l.map λt=>t.val ρ
 |[],_=>by rw[Tm.XT];rfl|t::l,ρ=>by rw[Tm.XT,SK l];rfl
def Tm.val_mk(k i:Int)(s:Ty)(l:List Tm)(ρ:List Vw):(Tm.mk k i s l).val ρ=if k=1 then(ρ.reverse[i.toNat]?).getD .no else if k=2 then ac5 s.S λx=>abz (l.map λt=>t.val (ρ++[⟨s.S,x⟩]))else opV k (l.map λt=>t.val ρ):=by
 rw[Tm.val,SK];simp only[aaO]
def Zu{k:Int}(h:k≠2):fE k=0:=by unfold fE;rw[dK h]
def aeu(t:Tm):∀ρ1 e ρ2:List Vw,t.ok=true->(t.up ρ2.length e.length).val (ρ1++e++ρ2)=t.val (ρ1++ρ2):=by
 induction t using Tm.ind with
 |h k i s l ih=>
  intro ρ1 e ρ2 c;have hi:=(Tm.tB c).2.1;rw[Tm.fJ,Tm.val_mk,Tm.val_mk]
  by_cases d:k=1
  ·subst d;rw[dR rfl,dR rfl]
   congr 1
   rw[adG,adG,adG]
   by_cases f:(ρ2.length:Int)<=i
   ·rw[dR ⟨rfl,f⟩,tE acx,tE acx,tE acx]
    congr 1
    simp;omega
   ·rw[dK (λh=>f h.2),vE acx,vE acx]
  ·rw[dK d,dK d]
   by_cases a:k=2
   ·subst a;rw[dR rfl,dR rfl]
    congr 1
    funext x
    rw[Bp]
    congr 1
    refine tQ λy b=>?_;have:=ih y b ρ1 e (ρ2++[⟨s.S,x⟩]) (Tm.ey c y b);rw[show(((ρ2++[(⟨s.S,x⟩:Vw)]).length:Nat):Int)=(ρ2.length:Int)+fE 2 by simp[show fE 2=1 from rfl],<-th,<-th] at this;exact this
   ·rw[dK a,dK a,Zu a,uQ,Bp]
    congr 1
    exact tQ λy b=>ih y b ρ1 e ρ2 (Tm.ey c y b)
def VM(t:Tm)(ρ e:List Vw)(a:t.ok=true):(t.up 0 e.length).val (ρ++e)=t.val ρ:=by
 have:=aeu t ρ e [] a;simpa using this
def yz(ρ:List Vw)(g:List Ty):Prop:=ρ.map Vw.s=g.map Ty.S
def yz.app{ρ:List Vw}{g:List Ty}(h:yz ρ g){v:Vw}{s:Ty}(a:v.s=s.S):yz (ρ++[v]) (g++[s]):=by
 unfold yz at*;rw[aeM,aeM,h];simp[a]
def H_{v:Vw}{a b:DI}(h:v.s=.f a b):∃φ:a.D->b.D,v=⟨.f a b,φ⟩:=by
 cases v with
 |mk s d=>simp only at h;subst h;exact⟨d,rfl⟩
def HK{v:Vw}{a b:DI}(h:v.s=.p a b):∃(x:a.D) (y:b.D),v=⟨.p a b,(x,y)⟩:=by
 cases v with
 |mk s d=>simp only at h;subst h;exact⟨d.1,d.2,rfl⟩
def xl{f a:Vw}{s t:DI}(h:f.s=.f s t):(ot f a).s=t:=by
 obtain⟨φ,rfl⟩:=H_ h;rfl
def nd{g:List Ty}{x:Tm}{t:Ty}(h:ef g x t):∀ρ:List Vw,yz ρ g->(x.val ρ).s=t.S:=by
 induction h with
 |@var g t i hi hg=>
  intro ρ he
  have q:ρ.length=g.length:=by have:=congrArg List.length he;simpa using this
  rw[Tm.val_mk,dR rfl,show((i:Nat):Int).toNat=i from rfl,adN VW,q]
  have l:(ρ.map Vw.s)[g.length-1-i]?=(g.map Ty.S)[g.length-1-i]?:=by rw[he]
  rw[yZ,yZ,hg] at l;cases j:ρ[g.length-1-i]?with
  |none=>rw[j] at l;cases l
  |some v=>rw[j] at l;exact kR l
 |@lam g s b t hs _ ih=>
  intro ρ he;rw[Tm.val_mk,dK aak,dR rfl,xN];show DI.f s.S _=_
  congr 1
  exact ih _ (he.app rfl)
 |app _ _ c d=>
  intro ρ he;rw[Tm.val_mk,dK aak,dK aak];exact xl (by rw[<-xN];exact c ρ he)
 |zero=>intro ρ _;rw[Tm.val_mk,dK aak,dK aak,wH];rfl|succ _ _=>intro ρ _;rw[Tm.val_mk,dK aak,dK aak,wH];rfl|@rZ g t b s n _ _ _ _ c d o=>
  intro ρ he;rw[Tm.val_mk,dK aak,dK aak];show(P5 (b.val ρ) (s.val ρ) _).s=_;have j:=d ρ he;rw[xN,xN] at j;generalize rj (n.val ρ)=k
  induction k with
  |zero=>exact c ρ he|succ k _=>exact xl (xl j)
 |nil=>intro ρ _;rw[Tm.val_mk,dK aak,dK aak,z8];rfl|cons _ _ _ _=>intro ρ _;rw[Tm.val_mk,dK aak,dK aak,z8];rfl|@fold g t b s n _ _ _ _ c d o=>
  intro ρ he;rw[Tm.val_mk,dK aak,dK aak];show(mM (b.val ρ) (s.val ρ) _).s=_;have j:=d ρ he;rw[xN,xN,xN] at j;generalize JD (n.val ρ)=k
  induction k with
  |nil=>exact c ρ he|cons h k _=>exact xl (xl (xl j))
 |pair _ _ _ c d=>
  intro ρ he;rw[Tm.val_mk,dK aak,dK aak,Wv,<-c ρ he,<-d ρ he];rfl
 |@fst g a s t _ ih=>
  intro ρ he;rw[Tm.val_mk,dK aak,dK aak];show(aeZ (a.val ρ)).s=_;obtain⟨x,y,e⟩:=HK (v:=a.val ρ) (by rw[<-Wv];exact ih ρ he);rw[e];rfl
 |@snd g a s t _ ih=>
  intro ρ he;rw[Tm.val_mk,dK aak,dK aak];show(aft (a.val ρ)).s=_;obtain⟨x,y,e⟩:=HK (v:=a.val ρ) (by rw[<-Wv];exact ih ρ he);rw[e];rfl
 |unit=>intro ρ _;rw[Tm.val_mk,dK aak,dK aak,adA];rfl
def V4{s:DI}{φ:s.D->Vw}{a:Vw}(b:a.s=s)(h:∀x,(φ x).s=(φ s.YR).s):ot (ac5 s φ) a=φ (a.at s):=Vw.eta (h _)
def tx(s:Ty):s.jY s=true:=(Ty.kv s s).2 rfl
def vrs(k:Int)(i:Nat):Nat:=if k=8\/k=12 then 1 else if k=11\/k=15\/k=16 then i else if k=17 then 2*i else 0
def mot(k:Int):Nat:=if k=16\/k=17\/k=19 then 1 else 0
mutual
def Pf.ak'(m:Int):Pf->Bool
 |.mk _ _ _ ts fs l=>ts.all (Tm.ak' m)&&fs.all (Fm.ak' m)&&Pf.vd m l
def Pf.vd(m:Int):List Pf->Bool
 |[]=>true|p::l=>p.ak' m&&Pf.vd m l
end
end Go.fD
namespace Go.fD
open Go
section
variable{G G':List Ty} {ψ:Tm->Int->Tm}
def M0(k:Int)(i:Nat):Nat:=if k=6 then 1 else if k=11\/k=15\/k=16\/k=17 then i else 0
mutual
def Pf.KH(ψ:Tm->Int->Tm)(η:Nat->Nat->Int->Pf):Nat->Nat->Pf->Pf
 |d,h,.mk k i s ts fs l=>if k=1 then η d h i else .mk k i s (ts.map λt=>ψ t d) (fs.map λf=>f.KH ψ ((d+mot k:Nat):Int)) (Pf.agw ψ η k 0 d h l)
def Pf.agw(ψ:Tm->Int->Tm)(η:Nat->Nat->Int->Pf)(k:Int):Nat->Nat->Nat->List Pf->List Pf
 |_,_,_,[]=>[]|i,d,h,p::l=>p.KH ψ η (d+vrs k i) (h+M0 k i)::Pf.agw ψ η k (i+1) d h l
end
def Pf.Ws(P:Pf):Prop:=P.ok=true/\P.small=true
def QU:pI 3:=.inl rfl
def Mw:pI 4:=.inr (.inl rfl)
def td.eq_inv{d:Fm}{a b:Tm}(h:td d (.mk 1 .z [a,b] [])):∃f i,d=.mk 1 .z [f,i] []/\FF f a/\FF i b:=by
 generalize c:Fm.mk 1 .z [a,b] []=y at h;cases h with
 |eq j k=>simp at c;obtain⟨rfl,rfl⟩:=c;exact⟨_,_,rfl,j,k⟩
 |two=>simp at c
 |q=>simp at c
def td.ahK{k:Int}{s:Ty}{c a:Fm}(h:td c (.mk k s [] [a])):∃d,c=.mk k s [] [d]/\td d a:=by
 generalize b:Fm.mk k s [] [a]=y at h;cases h with
 |eq=>simp at b
 |two=>simp at b
 |q f=>simp at b;obtain⟨rfl,rfl,rfl⟩:=b;exact⟨_,rfl,f⟩
def Dv.hg{L:List Fm}{g:List Ty}{hs:List Fm}{P:Pf}{f:Fm}{m:Nat}(h:Dv L g hs P f m):Hg g f:=by
 cases h with
 |hyp _ _ _ h=>exact h|mm _ _ h=>exact⟨h.err,by simpa using h.ty.front g⟩|Pu _ _ h=>exact h|ZG _ h=>exact h|ZH _ h=>exact h|Nn _ _ _ h=>exact h|OB _ _ _ _ _ h=>exact h|all _ _ _ _ h=>exact h|Yh _ a _ _ b hn=>exact jE b.ty a hn|ex _ h=>exact h|Yx _ _ _ _ _ _ _ _ _ h=>exact h|ind hF a _ _ _ _ _ _ _ _ _ _ _ hn=>exact jE hF.ty a hn|lists hF a _ _ _ _ _ _ _ _ _ _ _ hn=>exact jE hF.ty a hn|refl _ _ h=>exact h|subst hF _ _ hu _ _ _ _ _ _ hn=>exact jE hF.ty hu hn|choice _ _ _ _ _ _ h=>exact h
end
def yk{g:List Ty}{x:Tm}{s:Ty}(h:ef g x s)(hg:iT g)(a:g.length+x.ak7<=1000000):qJ x g s.ak5=0:=by
 unfold qJ;rw[nb h hg a,dK (λh=>h.2 rfl)]
def abb{g c:List Ty}{a b:Fm}(d:Hg g a)(f:Hg c b)(i:g.length<=1000000)(j:c.length<=1000000)(h:td a b):Ai a b=0\/pI (Ai a b):=by rw[DO d f i j];exact h.Dz
end Go.fD
namespace Go.fD
open Go
def Pf.Ws.parts{k i:Int}{s:Ty}{ts:List Tm}{fs:List Fm}{l:List Pf}(h:(Pf.mk k i s ts fs l).Ws):(∀t∈ts,t.err=0)/\(∀f∈fs,f.err=0)/\∀p∈l,p.Ws:=by
 obtain⟨a,b⟩:=h;rw[Pf.hH] at a;rw[Pf.AF] at b;simp only[hD,k_] at a b;refine⟨λt d=>Tm.oT (a.1.1.2 t d) ?_,λf j=>Fm.oT (a.1.2 f j) ?_,λp c=>⟨a.2 p c,b.2 p c⟩⟩
 ·grind[Tg]
 ·grind[Te]
def Zg{g:List Ty}{s:Ty}{F f:Fm}{t:Tm}{m:Nat}(hF:iQ (g++[s]) F)(b:ef g t s)(c:Hg g f)(hg:g.length<=1000000)(d:td (Fm.gJ 0 F t) f):(∃e,pI e/\B1 (.inl (f,m)) F t=.inr e)\/B1 (.inl (f,m)) F t=.inl (f,m):=by
 unfold B1;rw[fo];rcases mb F t with a|⟨hn,a⟩
 ·rw[a];exact .inl ⟨4,Mw,rfl⟩
 ·rw[a,fP rfl];rcases abb (jE hF b hn) c hg hg d with e|e
  ·grind[fP]
  ·rw[jf (by rcases e with e|e|e<;>rw[e]<;>decide)];exact .inl ⟨_,e,rfl⟩
def aao(F:Fm)(t:Tm)(u:Nat):jC (kA F t).2 (.inl ((kA F t).1,u))=.inr 4\/jC (kA F t).2 (.inl ((kA F t).1,u))=.inl (Fm.gJ 0 F t,u):=by
 rcases mb F t with a|⟨_,a⟩
 ·rw[a];exact .inl rfl
 ·rw[a];exact .inr rfl
def ef.fix{g:List Ty}{t:Tm}{s:Ty}(h:ef g t s):∀d:Int,(g.length:Int)<=d->(∀c,t.up d c=t)/\∀a,Tm.gJ d t a=t:=by
 induction h with
 |@var g s i hi hs=>
  intro d b;refine⟨λc=>by rw[Tm.fJ,dK VW];rfl,λa=>?_⟩;rw[Tm.fO,dR rfl];unfold Tm.nj;rw[dK VW,dK VW]
 |lam hs _ ih=>
  intro d b;have:=ih (d+1) acx;exact⟨λc=>by rw[Tm.fJ];simp[show fE 2=1 from rfl,this.1],λa=>by rw[Tm.fO];simp[show fE 2=1 from rfl,this.2]⟩
 |app _ _ f j=>intro d b;exact⟨λc=>by rw[Tm.fJ];simp[show fE 3=0 from rfl,(f d b).1,(j d b).1],λa=>by rw[Tm.fO];simp[show fE 3=0 from rfl,(f d b).2,(j d b).2]⟩|zero=>intro d b;exact⟨λc=>by rw[Tm.fJ];simp,λa=>by rw[Tm.fO];simp⟩|succ _ ih=>intro d b;exact⟨λc=>by rw[Tm.fJ];simp[show fE 5=0 from rfl,(ih d b).1],λa=>by rw[Tm.fO];simp[show fE 5=0 from rfl,(ih d b).2]⟩|rZ _ _ _ _ f j k=>intro d b;exact⟨λc=>by rw[Tm.fJ];simp[show fE 6=0 from rfl,(f d b).1,(j d b).1,(k d b).1],λa=>by rw[Tm.fO];simp[show fE 6=0 from rfl,(f d b).2,(j d b).2,(k d b).2]⟩|nil=>intro d b;exact⟨λc=>by rw[Tm.fJ];simp,λa=>by rw[Tm.fO];simp⟩|cons _ _ f j=>intro d b;exact⟨λc=>by rw[Tm.fJ];simp[show fE 8=0 from rfl,(f d b).1,(j d b).1],λa=>by rw[Tm.fO];simp[show fE 8=0 from rfl,(f d b).2,(j d b).2]⟩|fold _ _ _ _ f j k=>intro d b;exact⟨λc=>by rw[Tm.fJ];simp[show fE 9=0 from rfl,(f d b).1,(j d b).1,(k d b).1],λa=>by rw[Tm.fO];simp[show fE 9=0 from rfl,(f d b).2,(j d b).2,(k d b).2]⟩|pair _ _ _ f j=>intro d b;exact⟨λc=>by rw[Tm.fJ];simp[show fE 10=0 from rfl,(f d b).1,(j d b).1],λa=>by rw[Tm.fO];simp[show fE 10=0 from rfl,(f d b).2,(j d b).2]⟩|fst _ ih=>intro d b;exact⟨λc=>by rw[Tm.fJ];simp[show fE 11=0 from rfl,(ih d b).1],λa=>by rw[Tm.fO];simp[show fE 11=0 from rfl,(ih d b).2]⟩|snd _ ih=>intro d b;exact⟨λc=>by rw[Tm.fJ];simp[show fE 12=0 from rfl,(ih d b).1],λa=>by rw[Tm.fO];simp[show fE 12=0 from rfl,(ih d b).2]⟩|unit=>intro d b;exact⟨λc=>by rw[Tm.fJ];simp,λa=>by rw[Tm.fO];simp⟩
def RO{L:List Fm}{g:List Ty}{hs:List Fm}(a:uR L ⟨g,hs⟩){i:Nat}{f:Fm}(h:hs.reverse[i]?=some f):(Pf.mk 1 (i:Int) .z [] [] []).inf L g hs=.inl (f,0):=by
 have hi:i<hs.length:=by simpa using(sY.1 h).1
 rw[adN hi] at h;have b:Hg g f:=a.ala f (Hb h);rw[Pf.hE,R6,g_ VW,show((i:Nat):Int).toNat=i from rfl,Aq,h];show se (.inl (f,0))=_;rw[HJ b.err]
 split<;>rfl
end Go.fD
namespace Go.fD
open Go
section
variable{L:List Fm} {g:List Ty} {hs:List Fm}
def G9(r:PR)(f:Fm):Prop:=(∃e,pI e/\r=.inr e)\/∃a b,r=.inl (a,b)/\td a f
def Tk(L:List Fm)(g:List Ty)(hs:List Fm)(P:Pf)(f:Fm):Prop:=uR L ⟨g,hs⟩->P.Ws->(∃e,pI e/\P.inf L g hs=.inr e)\/∃a b,P.inf L g hs=.inl (a,b)/\td a f/\Hg g a
def G9.Al{e:Int}{f:Fm}(h:pI e):G9 (se (.inr e)) f:=.inl ⟨e,h,rfl⟩
def G9.gB{a f:Fm}{m:Nat}(h:td a f):G9 (se (.inl (a,m))) f:=by
 by_cases he:a.err=0
 ·rw[HJ he];exact .inr ⟨_,_,rfl,h⟩
 ·rw[Sa he];exact .inl ⟨4,Mw,rfl⟩
def Tk.of{P:Pf}{f:Fm}(h:uR L ⟨g,hs⟩->P.Ws->G9 (P.inf L g hs) f):Tk L g hs P f:=λa hw=>by
 rcases h a hw with h|⟨b,c,d,i⟩
 ·exact .inl h
 ·exact .inr ⟨b,c,d,i,(Dv.of (P.w hw.1 hw.2) g hs b c a d).2⟩
def Tk.cv{P:Pf}{f a:Fm}(h:Tk L g hs P f)(b:td f a):Tk L g hs P a:=λc hw=>by
 rcases h c hw with h|⟨x,m,d,i,j⟩
 ·exact .inl h
 ·exact .inr ⟨x,m,d,i.trans b,j⟩
def Rh{e:Int}(h:pI e):e≠0:=by rcases h with h|h|h<;>rw[h]<;>decide
def D1{g:List Ty}{s:Ty}{F f:Fm}{t:Tm}{m:Nat}(hF:iQ (g++[s]) F)(a:ef g t s)(b:Hg g f)(hg:g.length<=1000000)(c:td (Fm.gJ 0 F t) f):(∃e,pI e/\B1 (.inl (f,m)) F t=.inr e)\/B1 (.inl (f,m)) F t=.inl (f,m):=Zg hF a b hg c
def Tk.hyp{i:Nat}{a f:Fm}(h:hs.reverse[i]?=some a)(b:td a f):Tk L g hs (.mk 1 (i:Int) .z [] [] []) f:=
 .of λc _=>.inr ⟨a,0,RO c h,b⟩
def Tk.allI{s:Ty}{a:Pf}{f:Fm}(b:s.err=0)(d:Tk L (g++[s]) (hs.map (Fm.up 0 1)) a f):Tk L g hs (.mk 8 0 s [] [] [a]) (.mk 4 s [] [f]):=.of λh hw=>by
 obtain⟨_,_,wp⟩:=hw.parts;rw[Pf.hE]
 by_cases c:16<g.length+1
 ·rw[Fv,j2 c];exact .Al QU
 rcases d (h.qv b VW) (wp _ aa2)with⟨e,he,q⟩|⟨j,k,q,i,t1⟩
 ·rw[Fv,g_ c,q];exact .Al he
 rw[Fv,g_ c,q,fo];exact .gB (.q i)
theorem Tk.refl{t:Tm}(f:ef g t .nat):Tk L g hs (.mk 18 0 .z [t] [] []) (.mk 1 .z [t,t] []):=.of λb hw=>by
 obtain⟨wt,_,wp⟩:=hw.parts;have h:g.length<=16:=b.nv;have a:t.err=0:=wt _ aa2;obtain⟨c,i⟩:=iR a;have d:=yk f b.ctx VW;rw[show Ty.nat.ak5=1 from rfl] at d;rw[Pf.hE,MB,fP d];exact .gB (.eq (.refl c) (.refl c))
def Tk.exI{t:Tm}{s:Ty}{a:Pf}{x:Fm}(f:ef g t s)(hF:iQ g (.mk 5 s [] [x]))(h:iQ (g++[s]) x)(i:Tk L g hs a (Fm.gJ 0 x t)):Tk L g hs (.mk 10 0 .z [t] [.mk 5 s [] [x]] [a]) (.mk 5 s [] [x]):=.of λc hw=>by
 obtain⟨wt,wf,wp⟩:=hw.parts;have j:g.length<=16:=c.nv;have d:t.err=0:=wt _ aa2;obtain⟨r,k⟩:=iR d;have b:Hg g (.mk 5 s [] [x]):=⟨wf _ aa2,hF⟩;have:=b.ak7;rw[Pf.hE,MK,fP (k4 b.ty c.ctx VW),g_ aa2,nb f c.ctx VW,fP rfl,g_ (by show¬s.jY s=false;rw[tx];decide)];rcases i c (wp _ aa2)with⟨e,he,q⟩|⟨l,n,q,o,t1⟩
 ·rw[q];exact .Al he
 rw[q];show G9 (se (pbind (B1 (.inl (l,n)) x t) λ_ m=>.inl (.mk 5 s [] [x],m|||s0 t))) _;rcases D1 h f t1 VW o.symm with⟨e,he,q2⟩|q2
 ·rw[q2];exact .Al he
 ·rw[q2,fo];exact .gB (.refl hF)
def Tk.subst{F:Fm}{a b:Pf}{t u:Tm}(hF:iQ (g++[.nat]) F)(l:Tk L g hs a (.mk 1 .z [t,u] []))(o:Tk L g hs b (Fm.gJ 0 F t)):Tk L g hs (.mk 19 0 .z [] [F] [a,b]) (Fm.gJ 0 F u):=.of λd hw=>by
 obtain⟨_,wf,wp⟩:=hw.parts;have r:g.length<=16:=d.nv;have c:Hg (g++[.nat]) F:=⟨wf _ aa2,hF⟩;have s:=c.ak7;rw[Pf.hE,HS,fP (k4 c.ty d.ctx.nat (by simp only[ni,mz,B4];omega))];rcases l d (wp _ aa2)with⟨e,he,q⟩|⟨I,J,q,v,t1⟩
 ·rw[q];exact .Al he
 obtain⟨h,f,rfl,ct,w⟩:=v.eq_inv
 obtain⟨i,A⟩:ef g h .nat/\ef g f .nat:=by
  obtain⟨x,y,e,B,C⟩:=t1.ty.WD (Fm.eL _ _ _ _);simp at e;obtain⟨rfl,rfl⟩:=e;exact⟨B,C⟩
 rw[q,vg (Fm.eL 1 .z _ _),fo];show G9 (se (pbind (B1 (b.inf L g hs) F h) λ_ n=>jC (kA F f).2 (.inl ((kA F f).1,n)))) _;rcases o d (wp _ aa2)with⟨e,he,j⟩|⟨D,n',j,G,t2⟩
 ·rw[j];exact .Al he
 have H:td (Fm.gJ 0 F h) D:=((td.refl hF).gJ ct VW).trans G.symm;rw[j];rcases D1 hF i t2 VW H with⟨e,he,q3⟩|q3
 ·rw[q3];exact .Al he
 rw[q3,fo];rcases mb F f with k|⟨_,k⟩
 ·rw[k];exact .Al Mw
 rw[k,fP rfl];exact .gB ((td.refl hF).gJ w VW)
def Tk.exE{s:Ty}{a b:Pf}{x y:Fm}(d:s.err=0)(A:Tk L g hs a (.mk 5 s [] [x]))(B:iQ g y)(C:∀c,td c x->iQ (g++[s]) c->Tk L (g++[s]) (hs.map (Fm.up 0 1)++[c]) b (y.up 0 1)):Tk L g hs (.mk 11 0 .z [] [] [a,b]) y:=.of λj hw=>by
 obtain⟨_,_,wp⟩:=hw.parts;have D:g.length<=16:=j.nv;rw[Pf.hE,Es];rcases A j (wp _ aa2)with⟨e,he,q⟩|⟨K,k,q,F,t1⟩
 ·rw[q];exact .Al he
 obtain⟨c,rfl,G⟩:=F.ahK
 have h:Hg (g++[s]) c:=by
  obtain⟨u,v,e,M,H⟩:=t1.ty.vX (Fm.eL _ _ _ _) (.inr (.inl rfl));simp at e;obtain⟨rfl,rfl⟩:=e;exact t1.sub aa2 H
 have i:FZ (.inl (Fm.mk 5 s [] [c],k)) 5=.inl (Fm.mk 5 s [] [c],k):=vg (Fm.eL _ _ _ _);rw[q,i,fo]
 by_cases t:16<g.length+1\/16<hs.length+1
 ·rw[j2 t];exact .Al QU
 rw[g_ t];have l:=(j.qv d VW).with (f:=c) h (by show(hs.map (Fm.up 0 1)).length+1<=16;simp;omega);rcases C c G h.ty l (wp _ aa2)with⟨e,he,n⟩|⟨o,n',n,I,t2⟩
 ·exact(congrArg (λr=>G9 (se (pbind r _)) _) n).mpr (.Al he)
 refine(congrArg (λr=>G9 (se (pbind r _)) _) n).mpr ?_
 have key:∀w:PR,((w4 o).2=0->w=.inl ((w4 o).1,k|||n'/2))->G9 (se (jC (w4 o).2 w)) y:=by
  intro w hw;rcases aba t2 VW d B I with e|⟨e,J⟩
  ·rw[jf (Rh e)];exact .Al e
  ·rw[fP e,hw e];exact .gB J
 exact key _ λ_=>rfl
end
end Go.fD
namespace Go.fD
open Go
def agp{L:List Fm}{q:Sq}{P:Pf}(h:uR L q)(a:P.wt<=1000000000)(he:P.err=0){e:Int}(hi:P.inf L q.ak9 q.ala=.inr e):mQ L q P=some (⟨iH,[]⟩,e):=by
 rcases Ik h.b a with⟨d,_,q1,c⟩|⟨f,m,l,q1,_⟩
 ·rw[HD h he,hi] at q1;rw[c,Sum.inr.inj q1]
 ·rw[HD h he,hi] at q1;cases q1
def XD{L:List Fm}{q:Sq}{P:Pf}(h:uR L q)(c:P.wt<=1000000000)(he:P.err=0){f:Fm}{m:Nat}(hi:P.inf L q.ak9 q.ala=.inl (f,m)):∃l,mQ L q P=some (⟨f,l⟩,0)/\Us l m/\Hg q.ak9 f:=by
 rcases Ik h.b c with⟨i,_,q1,a⟩|⟨j,k,l,q1,a,hu,d,_⟩
 ·rw[HD h he,hi] at q1;cases q1
 ·rw[HD h he,hi] at q1;obtain⟨rfl,rfl⟩:=iM (yl q1);exact⟨l,a,hu,d⟩
end Go.fD
set_option maxRecDepth 20000
namespace Go.fD
open Go
section
variable{a:Fm} {g:List Ty}
section
variable{L:List Fm} {g:List Ty} {hs:List Fm} {F G K:Fm}
end
end
end Go.fD
set_option maxRecDepth 20000
namespace Go.fD
open Go
def zj(t:Tm):∀f,t.up f 0=t:=by
 induction t using Tm.ind with
 |h k i s l ih=>
  intro f
  have:l.map (Tm.up (f+fE k) 0)=l:=by
   refine(tQ (g:=id) λx a=>?_).trans aa2;exact ih x a _
  rw[Tm.fJ,this]
  congr 1
  split<;>omega
def Zq{g:List Ty}{t:Tm}{s:Ty}(h:ef g t s)(x:Tm):Tm.gJ 0 (t.up 0 1) x=t:=by
 have:=QI x t 0 0 0 h.ok VW VW VW
 rwa [show(0:Int)+1=1 from rfl,zj] at this
end Go.fD
set_option maxRecDepth 20000
namespace Go.fD
open Go
section
variable{L:List Fm} {g:List Ty} {hs:List Fm}
def Tk.lists{F:Fm}{t:Tm}{a b:Pf}(hF:iQ (g++[.fS]) F)(j:ef g t .fS)(l:Tk L g hs a (Fm.gJ 0 F (.mk 7 0 .z [])))(n:Tk L (g++[.nat]++[.fS]) (hs.map (Fm.up 0 2)++[F.up 1 1]) b (Fm.gJ 0 (F.up 1 2) (.mk 8 0 .z [v1,v0]))):Tk L g hs (.mk 17 0 .z [t] [F] [a,b]) (Fm.gJ 0 F t):=.of λd hw=>by
 obtain⟨wt,wf,wp⟩:=hw.parts;have o:g.length<=16:=d.nv;have c:Hg (g++[.fS]) F:=⟨wf _ aa2,hF⟩;have s:=c.ak7;rw[Pf.hE,HM,fP (k4 c.ty d.ctx.fS (by simp only[ni,mz,B4];omega)),fP (show qJ _ _ 2=0 from yk j d.ctx (by have:=(iR (wt t aa2)).2;omega))];rcases l d (wp _ aa2)with⟨e,he,q⟩|⟨w,m',q,u,t1⟩
 ·rw[q];exact .Al he
 rw[q];rcases D1 (m:=m') hF (t:=.mk 7 0 .z []) .nil t1 VW u.symm with⟨e,he,q2⟩|q2
 ·rw[q2];exact .Al he
 rw[q2,fo]
 by_cases k:16<g.length+2\/16<hs.length+1
 ·rw[j2 k];exact .Al QU
 rw[g_ k];have h:=(d.IM VW).with (f:=F.up 1 1) (Hg.upl c) (by show(hs.map (Fm.up 0 2)).length+1<=16;simp;omega);rcases n h (wp _ aa2)with⟨e,he,i⟩|⟨x,n',i,v,t2⟩
 ·refine(congrArg (λr=>G9 (se (pbind (B1 r _ _) _)) _) i).mpr (.Al he)
 refine(congrArg (λr=>G9 (se (pbind (B1 r _ _) _)) _) i).mpr ?_;rcases D1 (m:=n') c.Um.ty (t:=.mk 8 0 .z [v1,v0]) (.cons sQ kG) t2 (by simp only[ni,mz,B4];omega) v.symm with⟨e,he,q4⟩|q4
 ·rw[q4];exact .Al he
 rw[q4,fo];rcases aao F t ((s0 t|||m')|||n'/4)with e|e
 ·rw[e];exact .Al Mw
 rw[e];exact .gB (.refl (hF.put j))
end
structure Cl (t:Tm):Prop where
 up:∀n c:Int,0<=n->t.up n c=t
 gJ:∀(n:Int) (a:Tm),0<=n->Tm.gJ n t a=t
def ef.cl{t:Tm}{s:Ty}(h:ef [] t s):Cl t:=⟨λn c hn=>(h.fix n (by simpa using hn)).1 c,λn a hn=>(h.fix n (by simpa using hn)).2 a⟩
def ef.cls{t:Tm}{s:Ty}(h:ef [] t s)(g:List Ty):ef g t s:=by
 have:=h.lift g
 rwa [h.cl.up 0 _ VW,nT] at this
def v2:Tm:=.mk 1 2 (.mk 0 []) []
def v3:Tm:=.mk 1 3 (.mk 0 []) []
def Cq{g:List Ty}{t a b:Ty}:ef (g++[t]++[a]++[b]) v2 t:=ef.var 2 aa2 aa2
def Of{g:List Ty}{t a b c:Ty}:ef (g++[t]++[a]++[b]++[c]) v3 t:=ef.var 3 aa2 aa2
abbrev MD(a b:Tm):Fm:=.mk 1 .z [a,b] []
abbrev Am(s:Tm):Fm:=.mk 5 .nat [] [MD v0 (s.up 0 1)]
abbrev ap2(g x y:Tm):Tm:=gC (gC g x) y
abbrev zT(g x y z:Tm):Tm:=gC (ap2 g x y) z
abbrev rcN(b g n:Tm):Tm:=.mk 6 0 .nat [b,g,n]
abbrev w6(b g n:Tm):Tm:=.mk 9 0 .nat [b,g,n]
abbrev O4(t:Tm):Pf:=.mk 18 0 .z [t] [] []
abbrev hyS(i:Int):Pf:=.mk 1 i .z [] [] []
abbrev MA(s t:Tm)(p:Pf):Pf:=.mk 10 0 .z [t] [Am s] [p]
abbrev XA(f:Fm)(p q:Pf):Pf:=.mk 19 0 .z [] [f] [p,q]
abbrev ag'(p q:Pf):Pf:=.mk 11 0 .z [] [] [p,q]
def acG{g:List Ty}{s t:Tm}(hs:ef g s .nat):Fm.gJ 0 (MD v0 (s.up 0 1)) t=MD t s:=by
 rw[Fm.fO];simp only[oe,ry,Zq hs]
 have a:Tm.gJ 0 v0 t=t:=by
  unfold v0;rw[Tm.fO,dR rfl];unfold Tm.nj;rw[dR rfl,zj]
 rw[a]
def abA{g:List Ty}{s:Tm}(hs:ef g s .nat):iQ (g++[.nat]) (MD v0 (s.up 0 1)):=.eq kG (hs.lift [.nat])
def CQ{g:List Ty}{s:Tm}(hs:ef g s .nat):iQ g (Am s):=.q (.inr (.inl rfl)) Ty.gR (abA hs)
def Tk.shown{L:List Fm}{g:List Ty}{hs:List Fm}{s t:Tm}{P:Pf}(a:ef g s .nat)(b:ef g t .nat)(h:Tk L g hs P (MD t s)):Tk L g hs (MA s t P) (Am s):=Tk.exI b (CQ a) (abA a) (by rw[acG a];exact h)
end Go.fD
set_option maxRecDepth 20000
set_option maxHeartbeats 2000000
namespace Go.fD
open Go
abbrev vi:=dJ
abbrev SG:=dV
abbrev zRs:vi:=.mk 0 [] [] (Tm.mk 0 0 (Ty.mk 0 []) []) []
abbrev mc(M u:Nat)(o:Bool):SG:=⟨(u:Int),(M:Int),o⟩
def Oc(M:Nat)(o:Option (vi×SG))(u B:Nat)(K:vi->Nat->Prop):Prop:=∃r a out,o=some (r,mc M a out)/\u<=a/\a<=M/\(out=false->u<a/\K r (B+(a-u)))
def Rnm(d:Nat)(r:vi)(B:Nat):Prop:=r.num=(d:Int)/\d<=B
def Rls(d:List Nat)(r:vi)(B:Nat):Prop:=r.list=d.map (λ(x:Nat)=>(x:Int))/\d.length<=B/\∀x∈d,x<=B
def RT(M:Nat):(s:DI)->s.D->vi->Nat->Prop
 |.n,d,r,B=>Rnm d r B|.l,d,r,B=>Rls d r B|.u,_,_,_=>True|.p a b,d,r,B=>∃x y,r.pair=[x,y]/\RT M a d.1 x B/\RT M b d.2 y B|.f a b,φ,r,B=>∀(x:a.D) (c:vi) (B' u n:Nat),B<=B'->B'+(M-u)<=100000000->RT M a x c B'->u<=M->2*(M-u)+2<=n->Oc M (eJ n (mc M u false) r c) u B' (RT M b (φ x))
theorem RT.mono{M:Nat}:∀(s:DI) {d:s.D} {r:vi} {B B':Nat},RT M s d r B->B<=B'->RT M s d r B'
 |.n,_,_,_,_,h,c=>⟨h.1,AL h.2 c⟩|.l,_,_,_,_,h,c=>⟨h.1,AL h.2.1 c,λx j=>AL (h.2.2 x j) c⟩|.u,_,_,_,_,_,_=>trivial|.p a b,_,_,_,_,h,c=>by
  obtain⟨x,y,i,k,o⟩:=h;exact⟨x,y,i,RT.mono a k c,RT.mono b o c⟩
 |.f a b,_,_,_,_,h,c=>λx q B' u n i=>h x q B' u n (AL c i)
def RV(M:Nat)(v:Vw)(r:vi)(B:Nat):Prop:=RT M v.s v.d r B
theorem RV.mono{M:Nat}{v:Vw}{r:vi}{B B':Nat}(h:RV M v r B)(a:B<=B'):RV M v r B':=RT.mono _ h a
def RV.at{M:Nat}{v:Vw}{s:DI}{r:vi}{B:Nat}(h:RV M v r B)(hs:v.s=s):RT M s (v.at s) r B:=by
 subst hs;cases v;rw[Vw.zK];exact h
def RE(M:Nat)(ρ:List Vw)(env:List vi)(B:Nat):Prop:=ρ.length=env.length/\∀(i:Nat) v r,ρ[i]?=some v->env[i]?=some r->RV M v r B
theorem RE.mono{M:Nat}{ρ:List Vw}{env:List vi}{B B':Nat}(h:RE M ρ env B)(a:B<=B'):RE M ρ env B':=⟨h.1,λi v r b c=>(h.2 i v r b c).mono a⟩
def RE.app{M:Nat}{ρ:List Vw}{env:List vi}{B:Nat}(h:RE M ρ env B){v:Vw}{r:vi}(c:RV M v r B):RE M (ρ++[v]) (env++[r]) B:=by
 refine⟨by simp[h.1],λi d f a b=>?_⟩
 by_cases hi:i<ρ.length
 ·rw[vE hi] at a;rw[vE (by rw[<-h.1];exact hi)] at b;exact h.2 i d f a b
 ·rw[tE VW] at a;rw[tE (by rw[<-h.1];omega),<-h.1] at b;generalize i-ρ.length=j at a b;cases j with
  |zero=>simp at a b;subst a;subst b;exact c
  |succ j=>simp at a
def Oc.out{M u u0 B:Nat}{r:vi}{K:vi->Nat->Prop}(h:u0<=u)(a:u<=M):Oc M (some (r,mc M u true)) u0 B K:=⟨r,u,true,rfl,h,a,λh=>by cases h⟩
def Oc.is{M u u0 B:Nat}{r:vi}{K:vi->Nat->Prop}(h:u0<u)(a:u<=M)(b:K r (B+(u-u0))):Oc M (some (r,mc M u false)) u0 B K:=⟨r,u,false,rfl,VW,a,λ_=>⟨h,b⟩⟩
def ZY(n:Nat)(env:List vi):Int->Tm->(List vi×SG)->Option (gm (List vi×SG) (vi×SG)):=λ_ c=>xm λv105 b=>
 dU (fu n b c env) λa d127=>
 gB (fI v105 [a])<|if d127.out then some (.ret (zRs,d127))else some (.next (fR v105 [a],d127))
def RX{M n:Nat}{env:List vi}{ρ:List Vw}(Z:List vi×SG->Option (vi×SG)):∀(l:List Tm) (j:Nat) (acc:List vi) (u B:Nat),u<=M->acc.length+l.length<=1000->(∀a∈l,∀c,u<=c->c<=M->Oc M (fu n (mc M c false) a env) c (B+(c-u)) (RV M (a.val ρ)))->(∃c,u<=c/\c<=M/\dH (fk (ZY n env) l j (acc,mc M u false)) (fL Z (λr=>some r))=some (zRs,mc M c true))\/∃rs c,u<=c/\c<=M/\dH (fk (ZY n env) l j (acc,mc M u false)) (fL Z (λr=>some r))=Z (acc++rs,mc M c false)/\rs.length=l.length/\∀(i:Nat) a r,l[i]?=some a->rs[i]?=some r->RV M (a.val ρ) r (B+(c-u))
 |[],j,acc,u,B,hu,k,h=>.inr ⟨[],u,gY u,hu,by rw[qL,dI,eB,Ac],rfl,λi a r d _=>by simp at d⟩
 |a::l,j,acc,u,B,hu,k,h=>by
  obtain⟨r,u1,out,q,s,o,t⟩:=h a aa2 u (gY u) hu;rw[mz] at k;rw[gf];unfold ZY;rw[kp,q,dQ,fg acx,ec];cases out with
  |true=>left;exact⟨u1,s,o,rfl⟩|false=>
   obtain⟨y,v⟩:=t rfl;rw[dK aa2,dI,fh]
   have hn:∀b∈l,∀c,u1<=c->c<=M->Oc M (fu n (mc M c false) b env) c (B+(u1-u)+(c-u1)) (RV M (b.val ρ)):=λb w c d f=>by
    have:=h b (by simp[w]) c VW f
    rwa [show B+(u1-u)+(c-u1)=B+(c-u) by omega]
   rcases RX Z l (j+1) (fR acc [r]) u1 (B+(u1-u)) o (by simp[ij];omega) hn with⟨c,a1,a2,a3⟩|⟨rs,c,a1,a2,a3,a4,a5⟩
   ·left;exact⟨c,VW,a2,a3⟩
   ·right;refine⟨r::rs,c,VW,a2,by rw[show(fR acc [r]++rs)=acc++r::rs by simp[ij]] at a3;exact a3,by simp[a4],λi b x d f=>?_⟩;cases i with
    |zero=>
     simp at d f;subst d;subst f
     have:B+(u-u)=B:=VW
     exact v.mono VW
    |succ i=>
     simp at d f;exact(a5 i b x d f).mono VW
end Go.fD
