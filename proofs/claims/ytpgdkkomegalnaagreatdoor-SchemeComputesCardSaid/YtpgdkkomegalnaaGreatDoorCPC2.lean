/- Part of the proof of SchemeComputes: plain facts. -/
import Derived.Test.YtpgdkkomegalnaaGreatDoorCPC1
set_option linter.all false
namespace Go.fF
open Go
def mK{α:Type}(m:List (Int×α)):List Int:=m.map (·.1)
def EN{α:Type}(k:Int)(v:α):∀(m:List (Int×α)) (x:Int),x∈mK (wJ m k v)↔x=k\/x∈mK m
 |[],x=>by simp[wJ,mK]|p::m,x=>by
  unfold wJ
  by_cases h:p.1=k
  ·rw[dR h];subst h;simp[mK]
  ·rw[dK h];have ih:=EN k v m x;simp only[mK,kZ,mb] at ih|-;rw[ih];constructor
   ·rintro(h|h|h)
    ·exact .inr (.inl h)
    ·exact .inl h
    ·exact .inr (.inr h)
   ·rintro(h|h|h)
    ·exact .inr (.inl h)
    ·exact .inl h
    ·exact .inr (.inr h)
def DI{α:Type}(k:Int)(v:α):∀(m:List (Int×α)),(mK m).Nodup->(mK (wJ m k v)).Nodup
 |[],_=>by simp[wJ,mK]|p::m,h=>by
  have b:p.1∉mK m/\(mK m).Nodup:=Wq.1 h;unfold wJ
  by_cases a:p.1=k
  ·rw[dR a];subst a;exact h
  ·rw[dK a];refine Wq.2 ⟨λhm=>?_,DI k v m b.2⟩;rcases(EN k v m p.1).1 hm with e|e
   ·exact a e
   ·exact b.1 e
def IZ{α:Type}(k:Int)(v:α):∀(m:List (Int×α)),(wJ m k v).length<=m.length+1
 |[]=>by simp[wJ]|p::m=>by
  unfold wJ
  split
  ·simp
  ·have:=IZ k v m;simp only[mN];omega
def PU(n:Int):∀l:List Int,(DW n l).length=l.length+1
 |[]=>rfl|a::l=>by
  unfold DW
  split
  ·rfl
  ·simp[PU n l]
def Mb:∀(l acc:List Int),(Ah acc l).length=acc.length+l.length
 |[],acc=>by simp[Ah]|a::l,acc=>by rw[Ah,Mb l,PU];simp only[mN];omega
def KN:∀(n:Nat) (t:Tm) (d:Int) (m:List (Int×Bool)),t.alZ<=n->t.alZ<=100000000->0<=d->d+t.alZ<=1000000000->t.al3 4611686018427387904=true->(mK m).Nodup->∃y,pZ n t d m=some y/\(mK y).Nodup/\y.length<=m.length+t.alZ/\∀x,x∈mK y↔x∈mK m\/(0<=x/\0<t.al5 (x+d)):=by
 intro n
 induction n with
 |zero=>intro t d m h;have:=t.eM;omega
 |succ n ih=>
  intro t d m hn B O P I hm;cases t with
  |mk k i s l=>
   have J:=ju k;rw[Tm.dM] at hn B P;have hlen:=jr Tm.alZ l λt _=>t.eM;rw[Tm.fK,hE,oI,ll] at I
   have alY:∀(F:Int->Tm->List (Int×Bool)->Option (gq (List (Int×Bool)) (List (Int×Bool)))),(∀j x v,F j x v=dH (lv (Tm.mk k i s l)) λb=>dH (pZ n x (eW .i64 d b) v) λr=>some (.next r))->∀(as:List Tm) (j:Nat) (v:List (Int×Bool)),(∀a∈as,a∈l)->(mK v).Nodup->∃f,fw F as j v=some (.inl f)/\(mK f).Nodup/\f.length<=v.length+ee Tm.alZ as/\∀x,x∈mK f↔x∈mK v\/(0<=x/\0<ee (Tm.al5 (x+d+fq k)) as):=by
    intro F hF as
    induction as with
    |nil=>intro j v _ C;exact⟨v,rfl,C,by simp[ee],λx=>by simp[ee]⟩|cons a as D=>
     intro j v has C;have K:=has a aaA;have Q:=eF Tm.alZ K;have G:=I.2 a K;obtain⟨v1,o,q,L,u⟩:=ih a (d+fq k) v VW VW VW VW G C;obtain⟨v2,g1,g2,g3,g4⟩:=D (j+1) v1 (λb B=>has b (by simp[B])) q;refine⟨v2,?_,g2,by simp only[ee];omega,λx=>?_⟩
     ·rw[fY,hF,n_];simp only[dI,Tm.eK];rw[gd VW VW,o];simp only[dI,fk];exact g1
     ·rw[g4,u];simp only[ee];rw[<-Int.add_assoc];constructor
      ·rintro((h|h)|h)
       ·exact .inl h
       ·exact .inr ⟨h.1,VW⟩
       ·exact .inr ⟨h.1,VW⟩
      ·rintro(h|⟨h,A⟩)
       ·exact .inl (.inl h)
       ·by_cases R:0<a.al5 (x+d+fq k)
        ·exact .inl (.inr ⟨h,R⟩)
        ·exact .inr ⟨h,VW⟩
   unfold pZ;simp only[ef,Tm.eG,et (l:=l) VW,ed,Tm.eK,Tm.iI];rw[Tm.dM]
   by_cases w:k=1/\d<=i
   ·have c:fp (eo k 1) (qa i d) false=true:=by simp[fp,w.1,w.2]
    simp only[c,if_true];rw[gi VW VW];obtain⟨f,o,q,L,u⟩:=alY _ (λ_ _ _=>rfl) l 0 (wJ m (i-d) true) (λa h=>h) (DI _ _ _ hm);refine⟨f,by rw[o];rfl,q,by have:=IZ (i-d) true m;omega,λx=>?_⟩;rw[u,EN,Tm.fG];constructor
    ·rintro((h|h)|h)
     ·exact .inr ⟨VW,by rw[dR ⟨w.1,VW⟩];omega⟩
     ·exact .inl h
     ·exact .inr ⟨h.1,VW⟩
    ·rintro(h|⟨h,A⟩)
     ·exact .inl (.inr h)
     ·by_cases M:x=i-d
      ·exact .inl (.inl M)
      ·rw[dK (λN=>M VW)] at A;exact .inr ⟨h,VW⟩
   ·have c:fp (eo k 1) (qa i d) false=false:=by
     unfold fp
     split
     ·rename_i S
      have H:k=1:=by simpa using S
      simp only[qa,ai3]
      exactλh=>w ⟨H,h⟩
     ·rfl
    simp only[c,ox,jb];obtain⟨f,o,q,L,u⟩:=alY _ (λ_ _ _=>rfl) l 0 m (λa h=>h) hm;refine⟨f,by rw[o];rfl,q,VW,λx=>?_⟩;rw[u,Tm.fG];constructor
    ·rintro(h|h)
     ·exact .inl h
     ·exact .inr ⟨h.1,VW⟩
    ·rintro(h|⟨h,A⟩)
     ·exact .inl h
     ·rw[dK (λN=>w ⟨N.1,VW⟩)] at A;exact .inr ⟨h,VW⟩
def Lt{t:Tm}(hw:t.wt<=1000000000)(d:t.al3 4611686018427387904=true)(he:t.err=0):∃l,wZ t=some (l,0)/\HT l/\l.length<=4096/\∀x,x∈l↔0<=x/\0<t.al5 x:=by
 have hn:t.alZ<=4096:=by
  unfold Tm.err at he
  split at he
  ·split at he
   ·cases he
   ·omega
  ·cases he
 obtain⟨m,f,c,h,i⟩:=KN FU t 0 [] (by rw[fI];omega) VW VW VW d (by simp[mK])
 have a:(m.map (·.1)).Nodup:=c
 have b:m.length<=4096:=by simpa using A5 h (by simpa using hn)
 refine⟨Ah [] (mK m),?_,B5 _ [] .nil c aaA,?_,λx=>?_⟩
 ·unfold wZ;rw[lA hw,he];simp only[dI];rw[dK aar,f];simp only[dI];unfold qm
  rw[et VW,ed,show yM (m.map (·.1))=true from by simp[yM,a],ed]
  rfl
 ·rw[Mb];simp[mK,b]
 ·rw[Cb,i];simp[mK]
def SF{n:Int}(a:0<=n)(b:n<4294967296):IntKind.u32.wrap n=n:=by
 unfold IntKind.wrap;simp only[show IntKind.u32.bits=32 from rfl,show IntKind.u32.signed=false from rfl,Bool.false_and,ox,jb,show((2:Int)^32)=4294967296 from rfl];omega
def M3(a:Nat):BitVec.ofInt 32 (a:Int)=BitVec.ofNat 32 a:=aaA
def aa_{a b:Nat}(d:a<4294967296)(f:b<4294967296):Vn .u32 (a:Int) (b:Int)=((a|||b:Nat):Int):=by
 unfold Vn;have c:a|||b<2^32:=ahP VW VW;rw[show IntKind.u32.bits=32 from rfl,M3,M3,BitVec.toNat_or,Z8,Z8,V' VW,V' VW];exact SF VW VW
def V1{a b:Nat}(d:a<4294967296)(f:b<4294967296):Cz .u32 (a:Int) (b:Int)=((a&&&b:Nat):Int):=by
 unfold Cz;have c:a&&&b<2^32:=ah5 _ VW;rw[show IntKind.u32.bits=32 from rfl,M3,M3,BitVec.toNat_and,Z8,Z8,V' VW,V' VW];exact SF VW VW
structure Us (l:List Int) (m:Nat):Prop where
 lt:m<4294967296
 pos:∀x∈l,0<=x
 srt:HT l
 mem:∀i:Nat,(i:Int)∈l↔m.testBit i=true
def Us.nil:Us [] 0:=⟨aar,aaA,by first|exact .nil|trivial|simp[HT],aaA⟩
def Z5{t:Tm}(he:t.err=0)(b:t.al3 1000000000000=true)(c:∀j:Int,32<=j->t.al5 j=0):∃(l:List Int),kB t=some l/\HT l/\∀x,x∈l↔0<=x/\0<t.al5 x:=by
 obtain⟨a,hn⟩:=Tm.ig he;have hw:=t.js a;obtain⟨l,g1,g2,_,g4⟩:=Lt (t:=t) VW (Tm.mu t VW b) he;exact⟨l,by unfold kB;rw[g1];rfl,g2,g4⟩
def tI(v:List (Int×Bool))(l:List Int):List (Int×Bool):=l.foldl (λv x=>wJ v x true) v
def zt:∀(l:List Int) (v:List (Int×Bool)),(mK v).Nodup->(mK (tI v l)).Nodup/\(tI v l).length<=v.length+l.length/\∀x,x∈mK (tI v l)↔x∈mK v\/x∈l
 |[],v,h=>⟨h,by simp[tI],λx=>by simp[tI]⟩|y::l,v,h=>by
  obtain⟨a,c,b⟩:=zt l (wJ v y true) (DI y true v h);refine⟨a,?_,λx=>?_⟩
  ·have:=IZ y true v;show(tI (wJ v y true) l).length<=_;rw[mN];omega
  ·show x∈mK (tI (wJ v y true) l)↔_;rw[b,EN,mb];constructor
   ·rintro((h|h)|h)
    ·exact .inr (.inl h)
    ·exact .inl h
    ·exact .inr (.inr h)
   ·rintro(h|h|h)
    ·exact .inl (.inr h)
    ·exact .inl (.inl h)
    ·exact .inr h
def Jv{ρ:Type}:∀(l:List Int) (j:Nat) (v:List (Int×Bool)),fw (λ(c:Int) (a:Int)=>(λ(b:(List (Int×Bool)))=>some ((.next (wJ b a true)):gq (List (Int×Bool)) ρ))) l j v=some (.inl (tI v l))
 |[],j,v=>by rw[pq];rfl|x::l,j,v=>by
  rw[fY];simp only[dI,fk];exact Jv l (j+1) (wJ v x true)
def JM{a b:List Int}(h:a.length<=1000000)(i:b.length<=1000000):∃l,gu a b=some l/\HT l/\∀x,x∈l↔x∈a\/x∈b:=by
 obtain⟨c,d,f⟩:=zt a [] (by simp[mK]);obtain⟨g1,g2,g3⟩:=zt b (tI [] a) c;refine⟨Ah [] (mK (tI (tI [] a) b)),?_,B5 _ _ .nil g1 aaA,λx=>?_⟩
 ·unfold gu;simp only[ef];rw[et VW,ed];rw[Jv a 0 [],dI,eC,et VW,ed,Jv b 0 _,dI,eC];unfold qm;simp only[CD] at d;rw[et VW,ed,show yM (List.map (λx=>x.1) (tI (tI [] a) b))=true from AD g1,ed];rfl
 ·rw[Cb,g3,f];simp[mK]
def Us.union{a b:List Int}{m n:Nat}(c:Us a m)(d:Us b n)(f:a.length<=1000000)(j:b.length<=1000000):∃l,gu a b=some l/\Vn .u32 (m:Int) (n:Int)=((m|||n:Nat):Int)/\Us l (m|||n)/\∀x,x∈l↔x∈a\/x∈b:=by
 obtain⟨l,o,q,k⟩:=JM f j;refine⟨l,o,aa_ c.lt d.lt,⟨ahP (n:=32) (by have:=c.lt;omega) (by have:=d.lt;omega),λx r=>?_,q,λi=>?_⟩,k⟩
 ·rcases(k x).1 r with h|h
  ·exact c.pos x h
  ·exact d.pos x h
 ·rw[k,c.mem,d.mem,Nat.testBit_or,tH]
def Us.bound{l:List Int}{m:Nat}(h:Us l m):∀x∈l,x<32:=by
 intro x a;have b:=h.pos x a;obtain⟨k,rfl⟩:=ad6 b;have:=(h.mem k).1 a;rcases vb k 32 with h1|h1
 ·omega
 ·exfalso;have c:m<2^k:=Ua h.lt (A5 (by decide:4294967296<=2^32) (Nat.pow_le_pow_right aar h1));rw[Nat.testBit_lt_two_pow c] at this;cases this
def yx(k:Int)(l:List Int):List Int:=(l.filter λx=>decide (k<=x)).map λx=>x-k
def JQ{k:Int}(i:0<=k)(c:k<=1000):∀(l:List Int) (j:Nat) (v:List Int),(∀x∈l,0<=x/\x<32)->v.length+l.length<=1000000->fw (λ(n:Int) (a:Int)=>(λ(b:List Int)=>
   if(qa a k) then(
   gG (fN b [(fL .i64 a k)])<|some ((.next (fU b [(fL .i64 a k)])):gq (List Int) (List Int)))
   else(some (.next b)))) l j v=some (.inl (v++yx k l))
 |[],j,v,_,_=>by simp[yx]|x::l,j,v,h,o=>by
  simp only[mN] at o;have q:=h x aaA;rw[fY]
  by_cases d:k<=x
  ·rw[dR (by rw[jW];exact d),fm abu,ed,gi VW VW];simp only[dI,fk];rw[iv,JQ i c l (j+1) _ (λy f=>h y (by simp[f])) abu];simp[yx,d]
  ·rw[dK (by rw[jW];exact d)];simp only[dI,fk];rw[JQ i c l (j+1) v (λy f=>h y (by simp[f])) VW];simp[yx,d]
def Ga{l:List Int}{m:Nat}(h:Us l m)(d:l.length<=1000000){k:Int}(c:0<=k)(a:k<=1000):gy l k=some (yx k l):=by
 unfold gy;simp only[ef];rw[et VW,ed,JQ c a l 0 [] (λx b=>⟨h.pos x b,h.bound x b⟩) abu,dI,eC,oa]
def IS(k:Int)(l:List Int)(x:Int):x∈yx k l↔x+k∈l/\0<=x:=by
 unfold yx;simp only[qz,aag,aei];constructor
 ·rintro⟨y,⟨a,b⟩,rfl⟩;exact⟨by rw[Int.sub_add_cancel];exact a,VW⟩
 ·rintro⟨a,b⟩;exact⟨x+k,⟨a,VW⟩,VW⟩
def Qf(k:Int):∀{l:List Int},HT l->HT (yx k l)
 |[],_=>.nil|a::l,.cons d f=>by
  have ih:=Qf k f
  by_cases c:k<=a
  ·have e:yx k (a::l)=(a-k)::yx k l:=by simp[yx,c]
   rw[e];refine .cons (λb h=>?_) ih;have:=d _ ((IS k l b).1 h).1;omega
  ·have e:yx k (a::l)=yx k l:=by simp[yx,c]
   rw[e];exact ih
def Us.out{l:List Int}{m:Nat}(h:Us l m)(a:l.length<=1000000){k:Nat}(c:k<=32):gy l (k:Int)=some (yx k l)/\Us (yx k l) (m/2^k):=by
 refine⟨Ga h a VW VW,⟨Nat.lt_of_le_of_lt (Nat.div_le_self _ _) h.lt,λx b=>((IS _ _ _).1 b).2,Qf _ h.srt,λi=>?_⟩⟩
 ·rw[IS,show(i:Int)+(k:Int)=((i+k:Nat):Int) by omega,h.mem]
  have e:(m/2^k).testBit i=m.testBit (i+k):=by rw[Nat.testBit_div_two_pow]
  rw[e];exact⟨λh=>h.1,λh=>⟨h,VW⟩⟩
theorem Tm.up_add(f b c:Int)(n:0<=b):∀(t:Tm) (d:Int),(t.up (f+d) b).up (f+d) c=t.up (f+d) (b+c):=by
 intro t
 induction t using Tm.ind with
 |h k i s l ih=>
  intro d;rw[Tm.fu,Tm.fu,Tm.fu]
  congr 1
  ·by_cases a:k=1/\f+d<=i
   ·rw[dR a,dR ⟨a.1,VW⟩];omega
   ·rw[dK a,dK a,dK a]
  ·rw[Bq]
   exact tN λx j=>by
    have:=ih x j (d+fq k);rw[show f+(d+fq k)=f+d+fq k by omega] at this;exact this
theorem Fm.up_add(f b c:Int)(a:0<=b):∀(t:Fm) (d:Int),(t.up (f+d) b).up (f+d) c=t.up (f+d) (b+c):=by
 intro t
 induction t using Fm.ind with
 |h k s ts l ih=>
  intro d;rw[Fm.fu,Fm.fu,Fm.fu]
  congr 1
  ·rw[Bq];exact tN λx _=>Tm.up_add f b c a x d
  ·rw[Bq]
   exact tN λx i=>by
    have:=ih x i (d+qB k);rw[show f+(d+qB k)=f+d+qB k by omega] at this;exact this
def Fm.adQ(t:Fm){b c:Int}(a:0<=b):(t.up 0 b).up 0 c=t.up 0 (b+c):=by
 have:=Fm.up_add 0 b c a t 0
 rwa [sh] at this
structure PlR (c:dS):Prop where
 ctx:jc c.al1
 nv:c.al1.length<=16
 nh:c.al4.length<=16
def PlR.with{c:dS}(h:PlR c){f:Fm}(hn:c.al4.length+1<=16):∃a,gn c f=some a/\PlR a/\a.lemmas=c.lemmas/\a.al1=c.al1/\a.al4=c.al4++[f]:=by
 unfold gn;rw[fm abu,ed];refine⟨_,rfl,⟨h.ctx,h.nv,?_⟩,rfl,rfl,by simp only[iv]⟩;show(fU c.al4 [f]).length<=16;rw[iv];simpa using hn
def jc.append{g l:List Ty}(h:jc g)(a:jc l):jc (g++l):=λs hs=>(tO.1 hs).elim (h s) (a s)
def PlR.below{c:dS}(h:PlR c){l:List Ty}(b:jc l)(hn:c.al1.length+l.length<=16)(d:∀f∈c.al4,f.err=0/\f.al3 1000000000=true):∃a,fx c l=some a/\PlR a/\a.lemmas=c.lemmas/\a.al1=c.al1++l/\a.al4=c.al4.map (Fm.up 0 l.length):=by
 have i:=h.nh
 have k:fx c l=some (dS.mk c.lemmas (c.al1++l) (c.al4.map (Fm.up 0 l.length))):=by
  unfold fx;simp only[ef]
  rw[fm VW,ed,et VW,ed,kr (Fm.up 0 l.length) c.al4 0 [] abu (λj x v n o=>by
   obtain⟨q1,q⟩:=d x n;obtain⟨r,s⟩:=Fm.ig q1
   rw[fQ,Bz FU x 0 l.length (by rw[fI];omega) VW VW VW VW VW (Fm.mu x VW q),dI,fm (by simpa using o),ed,iv])]
  rw[dI,eC,iv,oa]
 refine⟨_,k,⟨h.ctx.append b,?_,?_⟩,rfl,rfl,rfl⟩
 ·show(c.al1++l).length<=16;simpa using hn
 ·show(c.al4.map (Fm.up 0 l.length)).length<=16;simpa using h.nh
def abl{t:Tm}(q:t.ok=true):wv t=some t.root:=by
 unfold wv;simp only[ef];cases t with
 |mk k i s l=>
  show(if(eo k 3) then(dH (dX l 0) λj=>some (eo j.alX 2))else(
   if(eo k 6) then(dH (dX l 2) λf=>if(eo f.alX 4) then some true else some (eo f.alX 5))else(
   if(eo k 9) then(dH (dX l 2) λh=>if(eo h.alX 7) then some true else some (eo h.alX 8))else(
   if(fp (eo k 11) true (eo k 12)) then(dH (dX l 0) λn=>some (eo n.alX 10))else some false))))=_
  unfold Tm.root
  by_cases r:k=3
  ·subst r;obtain⟨a,b,rfl⟩:=Tm.ok3 q;rw[dR aar];simp[eY,Tm.kd,FG]
  ·rw[dK (by simpa using r)]
   by_cases u:k=6
   ·subst u;obtain⟨a,b,c,rfl⟩:=Tm.ok6 q;rw[dR aar];simp only[m_,rz,lX,dI,Tm.kd,gh]
    by_cases o:c.alX=4
    ·simp[o]
    ·simp[o,FG]<;>exact ab0.2 Iff.rfl
   ·rw[dK (by simpa using u)]
    by_cases v:k=9
    ·subst v;obtain⟨a,b,c,rfl⟩:=Tm.ok9 q;rw[dR aar];simp only[m_,rz,lX,dI,Tm.kd,gh]
     by_cases o:c.alX=7
     ·simp[o]
     ·simp[o,FG]<;>exact ab0.2 Iff.rfl
    ·rw[dK (by simpa using v)]
     by_cases d:k=11\/k=12
     ·obtain⟨a,rfl⟩:=Tm.ah6 d q;rw[dR (by rcases d with rfl|rfl<;>rfl)];simp only[eY,lX,dI,Tm.kd];rcases d with rfl|rfl<;>simp[FG]<;>exact ab0.2 Iff.rfl
     ·rw[dK (by simp only[l',tH,gh];exact d)];simp only[not_or] at d;simp[r,u,v,d.1,d.2]
def AJ{t:Tm}(h:t.alZ<=1000000000):fV FU t=some (t.alZ:Int):=n5 FU t (by rw[fI];exact h) h
def UI{t:Tm}(r:t.ok=true)(hn:t.alZ<=8192)(f:t.root=true):sD t=some ((t.fD.alZ:Int)-(t.alZ:Int)):=by
 have l:=Tm.NZ r f;have u:=hn;unfold sD;rw[AJ VW];simp only[dI];cases l with
 |app=>
  rename_i i s c d b a;have o:=Tm.ey (Tm.ey r (.mk 2 c d [b]) aaA) b aaA;rw[Tm.dM] at hn;simp only[ee,Tm.dM] at hn;rw[dR abD];simp only[Tm.eG,eY,iE,lX,rz,dI];rw[AJ (t:=b) VW,AJ (t:=a) VW,AW FU b 0 (by rw[fI];omega) VW VW VW];simp only[dI];have v:=Tm.pO b 0;have hmul:b.al5 0*a.alZ<=8192*8192:=Y1 VW VW;have w:=Tm.B2 a b 0 o;have x:=a.eM
  have e:(Tm.mk 3 i s [.mk 2 c d [b],a]).fD=Tm.gp 0 b a:=by simp[Tm.fD]
  rw[e]
  have hint:(b.al5 0:Int)*((a.alZ:Int)-1)=((b.al5 0*a.alZ:Nat):Int)-(b.al5 0:Int):=by rw[Int.mul_sub,Int.mul_one];simp
  rw[gi (a:=(a.alZ:Int)) VW VW,SW (by rw[hint];omega) (by rw[hint];omega),hint,gd VW VW,gi VW VW]
  congr 1
  omega
 |proj q=>
  rename_i k i s c d a b;rw[Tm.dM] at hn;simp only[ee,Tm.dM] at hn;rcases q with rfl|rfl
  ·rw[dK aaA,dK aaA,dK aaA,dR abD];simp only[Tm.eG,eY,iE,lX,rz,dI];rw[AJ (t:=a) VW];simp only[dI];rw[gi VW VW];simp[Tm.fD]
  ·rw[dK aaA,dK aaA,dK aaA,dK aaA];simp only[Tm.eG,eY,iE,lX,rz,dI];rw[AJ (t:=b) VW];simp only[dI];rw[gi VW VW];simp[Tm.fD]
 |zero q=>
  rename_i k y i s c d b st;rw[Tm.dM] at hn;simp only[ee,Tm.dM] at hn
  have j:k≠3/\k≠11/\k≠12:=VW
  have:(Tm.mk k i s [b,st,.mk y c d []]).fD=b:=by simp[Tm.fD,j.1,j.2.1,j.2.2]
  rw[this];rcases q with⟨rfl,rfl⟩|⟨rfl,rfl⟩
  ·rw[dK aaA,dR abD];simp only[Tm.eG,eY,iE,m_,lX,rz,dI];rw[dR abD,AJ (t:=b) VW];simp only[dI];rw[gi VW VW]
  ·rw[dK aaA,dK aaA,dR abD];simp only[Tm.eG,eY,iE,m_,lX,rz,dI];rw[dR abD,AJ (t:=b) VW];simp only[dI];rw[gi VW VW]
 |succ=>
  rename_i i s c d b st n
  have e:(Tm.mk 6 i s [b,st,.mk 5 c d [n]]).fD=pn st [n,.mk 6 i s [b,st,n]]:=by simp[Tm.fD,pn]
  rw[e,Dr];rw[Tm.dM] at hn|-;simp only[ee,Tm.dM,mN,CD] at hn|-;rw[dK aaA,dR abD];simp only[Tm.eG,eY,iE,m_,lX,rz,dI];rw[dK aaA,AJ (t:=st) VW,AJ (t:=n) VW];simp only[dI];rw[gd (a:=2) VW VW,gd (b:=(n.alZ:Int)) VW VW,gd VW VW,gi (b:=1) VW VW,gi VW VW]
  congr 1
  omega
 |cons=>
  rename_i i s c d b st h n
  have e:(Tm.mk 9 i s [b,st,.mk 8 c d [h,n]]).fD=pn st [h,n,.mk 9 i s [b,st,n]]:=by simp[Tm.fD,pn]
  rw[e,Dr];rw[Tm.dM] at hn|-;simp only[ee,Tm.dM,mN,CD] at hn|-;rw[dK aaA,dK aaA,dR abD];simp only[Tm.eG,eY,iE,m_,lX,rz,dI];rw[dK aaA,AJ (t:=st) VW,AJ (t:=h) VW,AJ (t:=n) VW];simp only[dI];rw[gd (a:=3) VW VW,gd (b:=(h.alZ:Int)) VW VW,gd (b:=(n.alZ:Int)) VW VW,gd VW VW,gi (b:=1) VW VW,gi (b:=(h.alZ:Int)) VW VW,gi VW VW]
  congr 1
  omega
def R1{M:Int}(u:0<=M/\M<=1000000000000){t:Tm}(hs:Sm M t)(hn:t.alZ<=8192)(c:t.root=true):q8 t=some t.fD:=by
 have o:=hs.ok;have q:=Tm.NZ o c;have hw:=Tm.js t o;unfold q8;cases q with
 |app=>
  rename_i i s f j b a;have d:=(hs.arg (.mk 2 f j [b]) aaA).arg b aaA;have l:=hs.arg a aaA;have v:=d.alZ;have w:=l.alZ;rw[dR abD];simp only[Tm.eG,eY,iE,lX,rz,dI];rw[GV FU b 0 0 a (by rw[fI];omega) VW VW VW VW (d.mono u.2).al3 d.ok VW (l.mono u.2).al3];simp[Tm.fD]
 |proj r=>
  rename_i k i s f j a b;rcases r with rfl|rfl
  ·rw[dK aaA,dK aaA,dK aaA,dR abD];simp[Tm.fD,eY]
  ·rw[dK aaA,dK aaA,dK aaA,dK aaA];simp[Tm.fD,eY,iE]
 |zero r=>
  rename_i k x i s f j b st;rcases r with⟨rfl,rfl⟩|⟨rfl,rfl⟩
  ·rw[dK aaA,dR abD];simp[Tm.fD,eY,m_,eo]
  ·rw[dK aaA,dK aaA,dR abD];simp[Tm.fD,eY,m_,eo]
 |succ=>
  rename_i i s f j b st n;have hi:i=0:=(Tm.tx o).2.2.1 aar;subst hi;rw[Tm.iG] at hw;simp only[ee,Tm.iG] at hw;rw[dK aaA,dR abD];simp only[Tm.eG,eY,iE,m_,lX,rz,dI,Tm.fM];rw[dK aaA,wW VW VW];simp only[dI];rw[EZ VW VW VW VW];simp only[dI];rw[pD _ _ (by simp only[ee,Tm.iG,Ty.z,Ty.dM];omega)];simp[Tm.fD,pn,Ty.z]
 |cons=>
  rename_i i s f j b st h n;have hi:i=0:=(Tm.tx o).2.2.1 aar;subst hi;rw[Tm.iG] at hw;simp only[ee,Tm.iG] at hw;rw[dK aaA,dK aaA,dR abD];simp only[Tm.eG,eY,iE,m_,lX,rz,dI,Tm.fM];rw[dK aaA,wW VW VW];simp only[dI];rw[pD _ _ (by simp only[ee,Tm.iG,Ty.z,Ty.dM];omega)];simp only[dI];rw[EZ VW VW VW VW];simp only[dI];rw[pD _ _ (by simp only[ee,Tm.iG,Ty.z,Ty.dM];omega)];simp[Tm.fD,pn,Ty.z]
def ae6(t:Tm)(o:Option (Option Tm))(r:Tm×Bool×Bool):Prop:=
 match o with
 |none=>r.2.1=true/\r.2.2=false|some none=>r=(t,false,true)|some (some a)=>r=(a,true,true)
def Th{M:Int}(H:0<=M/\M<=1000000000000)(room:Int):∀(n:Nat) (t:Tm),t.alZ<=n->Sm M t->t.alZ<=8192->∃r,oA n t room=some r/\ae6 t (t.KY room) r
 |0,t,hn,_,_=>by have:=t.eM;omega
 |n+1,.mk k i s l,hn,hs,G=>by
  rw[oA,abl hs.ok];simp only[dI];rw[Tm.Mt]
  by_cases x:(Tm.mk k i s l).root=true
  ·rw[dR x,dR x,UI hs.ok G x];simp only[dI,iM]
   by_cases hg:((Tm.mk k i s l).fD.alZ:Int)-((Tm.mk k i s l).alZ:Int)>room
   ·rw[dR hg,dR hg];exact⟨_,rfl,rfl,rfl⟩
   ·rw[dK hg,dK hg,R1 H hs G x];exact⟨_,rfl,rfl⟩
  ·rw[dK x,dK x];rw[Tm.dM] at hn G;have hlen:=Tm.Yk hs.ok;simp only[Tm.eG,ef,et (l:=l) VW,ed,Tm.eK,Tm.iI,Tm.fM]
   have key:∀(ts pre:List Tm),l=pre++ts->∃o,fw (λ(a:Int) (y:Tm)=>(λ(_:Unit)=>
     eT (oA n y room) λA B C=>
     if B then(
     gG (J5 l)<|dH (dX l a) λI=>
     some (gq.ret ((Tm.mk k i s (GO l a A)),true,C)))
     else(some (.next ())))) ts pre.length ()=some o/\(match Tm.w6 room ts with
      |none=>∃r:Tm×Bool×Bool,o=.inr r/\r.2.1=true/\r.2.2=false|some none=>o=.inl ()|some (some h)=>o=.inr (Tm.mk k i s (pre++h),true,true)):=by
    intro ts
    induction ts with
    |nil=>intro pre _;exact⟨_,rfl,by rw[Tm.w6]⟩|cons t ts ih=>
     intro pre D
     have j:t∈l:=by rw[D];simp
     have J:=eF Tm.alZ j;obtain⟨⟨u,b,c⟩,K,v⟩:=Th H room n t VW (hs.arg t j) VW;rw[fY];simp only[K,gk]
     have d:dX l ((pre.length:Nat):Int)=some t:=by
      unfold dX;rw[dR VW];rw[D];simp
     have gx:GO l ((pre.length:Nat):Int) u=pre++u::ts:=by
      unfold GO;rw[D,Ea,Jg]
     have f:J5 l=true:=by
      unfold J5 yU;have:0<l.length:=List.length_pos_of_mem j;exact AD VW
     rw[Tm.w6];unfold ae6 at v;cases e:t.KY room with
     |none=>
      rw[e] at v;obtain⟨q1,F⟩:=v;simp only at q1 F;rw[dR q1,f,ed,d];exact⟨_,rfl,_,rfl,rfl,F⟩
     |some o=>
      cases o with
      |none=>
       rw[e] at v;obtain⟨rfl,q⟩:=iU v;obtain⟨rfl,rfl⟩:=iU q;rw[dK aar];simp only[dI,fk];obtain⟨o,o1,o2⟩:=ih (pre++[u]) (by rw[D];simp);rw[nB] at o1;refine⟨o,o1,?_⟩;cases w:Tm.w6 room ts with
       |none=>rw[w] at o2;exact o2
       |some q=>
        cases q with
        |none=>rw[w] at o2;exact o2
        |some h=>rw[w] at o2;simpa using o2
      |some L=>
       rw[e] at v;obtain⟨rfl,q⟩:=iU v;obtain⟨rfl,rfl⟩:=iU q;rw[dR rfl,f,ed,d];simp only[dI,gx];exact⟨_,rfl,rfl⟩
   obtain⟨o,o1,o2⟩:=key l [] rfl;rw[show(([]:List Tm).length)=0 from rfl] at o1;rw[o1];cases w:Tm.w6 room l with
   |none=>
    rw[w] at o2;obtain⟨r,rfl,q1,F⟩:=o2;exact⟨r,rfl,q1,F⟩
   |some q=>
    cases q with
    |none=>rw[w] at o2;subst o2;exact⟨_,rfl,rfl⟩
    |some h=>rw[w] at o2;subst o2;exact⟨_,rfl,rfl⟩
def i_{t:Tm}(h:t.err=0):t.ok=true/\t.alZ<=4096:=Tm.ig h
def EL(steps:Int)(C:0<=steps/\steps<=65536):∀(k:Nat) (m:Int) (t:Tm) (N:Nat),(k:Int)=steps-m->0<=m->Sm (536870912+8192*m) t->t.alZ<=4096->k<N->j0 ((un6 λ(d:Int) (f:Int) (i:Int) (j:Int) (l:List Ty) (n:List Tm)=>
   dH (fV FU (Tm.mk f i (Ty.mk j l) n)) λv=>
   eT (oA FU (Tm.mk f i (Ty.mk j l) n) (fL .i64 4096 v)) λa w x=>
   if w then(
   if(eo d steps) then(
   some (.ret ((Tm.mk 0 0 (Ty.mk 0 []) []),0,5)))
   else(if x then(
   some (.next ((eW .i64 d 1),a.alX,a.al0,a.dN.alX,a.dN.alY,a.alY)))
   else(some (.ret ((Tm.mk 0 0 (Ty.mk 0 []) []),0,4)))))
   else(dH (lR FU (Tm.mk f i (Ty.mk j l) n)) λy=>
   some (.ret (y,d,0)))):(Int×Int×Int×Int×(List Ty)×(List Tm))->(Option (gq (Int×Int×Int×Int×(List Ty)×(List Tm)) (Tm×Int×Int)))) N (m,t.alX,t.al0,t.dN.alX,t.dN.alY,t.alY)=some (.inr (t.norm k m))
 |k,m,t,0,_,_,_,_,D=>by omega|k,m,t,N+1,G,hm,hs,hn,D=>by
  rw[hS];simp only[Bv,af'];have hw:=Tm.js t hs.ok;rw[AJ VW];simp only[dI];rw[gi VW VW];obtain⟨⟨u,b,c⟩,F,r⟩:=Th (M:=536870912+8192*m) VW (4096-t.alZ) FU t (by rw[fI];omega) hs VW;rw[F];simp only[gk];unfold ae6 at r;cases e:t.KY (4096-t.alZ)with
  |none=>
   rw[e] at r;obtain⟨q1,B⟩:=r;simp only at q1 B;rw[dR q1];cases k with
   |zero=>
    have s:¬t.nf=true:=by
     intro h;rw[(F_ _ t).1 h] at e;cases e
    rw[dR (by simp[eo];omega),Tm.norm,dK s];rfl
   |succ k=>
    rw[dK (by simp[eo];omega),dK (by rw[B];decide),X8 e];rfl
  |some o=>
   cases o with
   |none=>
    rw[e] at r;obtain⟨rfl,q⟩:=iU r;obtain⟨rfl,rfl⟩:=iU q;rw[dK aar,uW VW];cases k with
    |zero=>rw[Tm.norm,dR ((F_ _ _).2 e)];rfl|succ k=>rw[Gb e];rfl
   |some H=>
    rw[e] at r;obtain⟨rfl,q⟩:=iU r;obtain⟨rfl,rfl⟩:=iU q;rw[dR rfl];cases k with
    |zero=>
     have s:¬t.nf=true:=by
      intro h;rw[(F_ _ t).1 h] at e;cases e
     rw[dR (by simp[eo];omega),Tm.norm,dK s];rfl
    |succ k=>
     obtain⟨s1,s2,I⟩:=Y3 (M:=536870912+8192*m) VW t hs VW _ e;rw[dK (by simp[eo];omega),dR rfl,Gq e,gd VW VW];have A:Sm (536870912+8192*(m+1)) u:=⟨s1,by rw[show 536870912+8192*(m+1)=536870912+8192*m+8192 by omega];exact s2,VW⟩;exact EL steps C k (m+1) u N VW VW A VW VW
def LQ:∀(k:Nat) (m:Int) (t p:Tm) (n e:Int),t.norm k m=(p,n,e)->e≠0->p=Tm.z
 |0,m,t,p,n,e,h,he=>by
  rw[Tm.norm] at h
  split at h
  ·obtain⟨_,h⟩:=iU h;obtain⟨_,h⟩:=iU h;exact absurd h.symm he
  ·exact(iU h).1.symm
 |k+1,m,t,p,n,e,h,he=>by
  rw[Tm.norm] at h
  split at h
  ·exact(iU h).1.symm
  ·obtain⟨_,h⟩:=iU h;obtain⟨_,h⟩:=iU h;exact absurd h.symm he
  ·exact LQ k _ _ _ _ _ h he
def Af{t:Tm}(hw:t.wt<=1000000)(steps:Int):lb t steps=some (if t.err=0 then(if 0<=steps/\steps<=65536/\t.al3 536870912 then t.norm steps.toNat 0 else(Tm.z,0,1))else(Tm.z,0,t.err)):=by
 have b:=t.im;unfold lb;rw[lA VW];simp only[dI]
 by_cases he:t.err=0
 ·obtain⟨d,hn⟩:=i_ he;rw[dR he,dK (by simp[eL,he])];simp only[ef,jR,iM]
  by_cases a1:steps<0
  ·rw[dR a1,dR trivial,dK VW];rfl
  ·rw[dK a1]
   by_cases a2:steps>65536
   ·rw[dR a2,dR trivial,dK VW];rfl
   ·rw[dK a2,BD FU t 536870912 (by rw[fI];omega) VW];simp only[dI]
    by_cases a:t.al3 536870912=true
    ·have hs:Sm 536870912 t:=⟨d,a,VW⟩;rw[dR (c:=0<=steps/\_) ⟨VW,VW,a⟩,a,dK aar,EL steps VW steps.toNat 0 t FU VW VW hs VW (by rw[fI];omega)];rfl
    ·rw[dK (c:=0<=steps/\_) (λh=>a h.2.2),dR (by rw[Bool.not_eq_true] at a;rw[a];rfl)];rfl
 ·rw[dK he,dR (by simp[eL,he])];rfl
def Kk{t:Tm}(hw:t.wt<=1000000)(steps:Int):∃p m e,lb t steps=some (p,m,e)/\p.wt<=1000000000:=by
 have b:Tm.z.wt<=1000000000:=aar
 rw[Af hw steps]
 by_cases he:t.err=0
 ·obtain⟨f,hn⟩:=i_ he;rw[dR he]
  by_cases c:0<=steps/\steps<=65536/\t.al3 536870912=true
  ·rw[dR c];generalize a:t.norm steps.toNat 0=o;obtain⟨p,m,e⟩:=o;refine⟨_,_,_,rfl,?_⟩
   by_cases d:e=0
   ·subst d;obtain⟨q1,h⟩:=Ie _ 536870912 _ _ _ _ VW ⟨f,c.2.2,VW⟩ hn a;have:=Tm.js p q1.ok;omega
   ·rw[LQ _ _ _ _ _ _ a d];exact b
  ·rw[dK c];exact⟨_,_,_,rfl,b⟩
 ·rw[dK he];exact⟨_,_,_,rfl,b⟩
def LB{a b:Tm}(c:a.wt<=1000000000):∃r,rv a b=some r/\lN FU a b=some r:=by
 obtain⟨r,d,f⟩:=KL (b:=b) c;obtain⟨q,q1,h⟩:=xW FU a b (by rw[fI];exact c) c
 have:r=q:=by rw[HM,f,h]
 subst this;exact⟨r,d,q1⟩
def UG{a b:Tm}(o:a.wt<=1000000)(u:b.wt<=1000000)(steps:Int):∃c,mf a b steps=some c:=by
 unfold mf;rw[lA VW,lA (t:=b) VW];simp only[dI]
 by_cases d:eL a.err 0=true
 ·rw[dR d];exact⟨_,rfl⟩
 ·rw[dK d]
  by_cases h:eL b.err 0=true
  ·rw[dR h];exact⟨_,rfl⟩
  ·rw[dK h];obtain⟨r,_,v⟩:=LB (a:=a) (b:=b) VW;rw[v];simp only[dI]
   by_cases i:r=true
   ·rw[dR i];exact⟨_,rfl⟩
   ·rw[dK i];obtain⟨p,m,e,w,x⟩:=Kk o steps;obtain⟨q,n,f,y,A⟩:=Kk u steps;rw[w,y];simp only[gk]
    by_cases j:eL e 0=true
    ·rw[dR j];exact⟨_,rfl⟩
    ·rw[dK j]
     by_cases k:eL f 0=true
     ·rw[dR k];exact⟨_,rfl⟩
     ·rw[dK k];obtain⟨s,_,s2⟩:=LB (a:=p) (b:=q) x;rw[s2];simp only[dI]
      by_cases l:s=true
      ·rw[dR l];exact⟨_,rfl⟩
      ·rw[dK l];exact⟨_,rfl⟩
def IK{α:Type}{E:α->α->Option Int}{M:List α}:∀(l:List α) (i:Nat),(∀x∈l,∀y∈M,∃c,E x y=some c)->i+l.length<=M.length->∃o,fw (λ(d:Int) (f:α)=>(λ(_:Unit)=>dH (dX M d) λb=>dH (E f b) λa=>if(eL a 0) then(some (.ret a))else(some ((.next ()):gq Unit Int)))) l i ()=some o
 |[],i,_,_=>⟨.inl (),aaA⟩|x::l,i,h,k=>by
  simp only[mN] at k;obtain⟨c,n⟩:=h x aaA M[i] (DL VW);rw[fY,hJ,po VW];simp only[dI,n]
  by_cases j:eL c 0=true
  ·rw[dR j];exact⟨.inr c,rfl⟩
  ·rw[dK j];simp only[dI,fk];exact IK l (i+1) (λy q=>h y (by simp[q])) VW
def Fm.shape{k:Int}{s i:Ty}{ts us:List Tm}{l m:List Fm}(h:(Fm.mk k s ts l).ok=true)(d:(Fm.mk k i us m).ok=true):ts.length=us.length/\l.length=m.length:=by
 rw[Fm.hI] at h d;simp only[hE] at h d;have c:=h.1.1;have a:=d.1.1;unfold Fm.node at c a
 split at c
 ·rename_i f;rw[dR f] at a;simp only[hE,oI] at c a;omega
 ·rename_i f;rw[dK f] at a
  split at c
  ·rename_i b;rw[dR b] at a;simp only[hE,oI] at c a;omega
  ·rename_i b;rw[dK b] at a;simp only[hE,oI] at c a;omega
def Uc:∀(n:Nat) (a b:Fm),a.wt<=n->a.wt<=1000000->b.wt<=1000000->a.ok=true->b.ok=true->∃c,lC n a b=some c:=by
 intro n
 induction n with
 |zero=>intro t b h;have:=t.kv;omega
 |succ n ih=>
  intro a b h C j A d;cases a with
  |mk k s ts l=>
  cases b with
  |mk k' D us m=>
   rw[Fm.iG] at h C j;have H:=Fm.tY l;have F:=Tm.tY ts;rw[lC];simp only[Fm.eG,Fm.eK,Fm.jN,Fm.fM,ef,et (l:=l) VW,et (l:=ts) VW,ed,ez]
   by_cases q:k≠k'
   ·rw[dR q];exact⟨11,rfl⟩
   ·rw[dK q,iJ VW];simp only[dI];have v:k=k':=xk.1 q;subst v;obtain⟨s1,s2⟩:=Fm.shape A d;obtain⟨_,I,ol⟩:=Fm.wR A;obtain⟨_,G,w⟩:=Fm.wR d;cases s.kc D with
    |false=>exact⟨11,rfl⟩|true=>
     obtain⟨o,k2⟩:=IK (E:=λx y=>mf x y 1000) (M:=us) ts 0 (λx f y i=>UG (by have:=eF Tm.wt f;omega) (by have:=eF Tm.wt i;omega) 1000) VW;simp only[ez] at k2;rw[dK aar,k2];cases o with
     |inr r=>exact⟨r,rfl⟩|inl u=>
      simp only[dI,eC];obtain⟨o,B⟩:=IK (E:=λx y=>lC n x y) (M:=m) l 0 (λx f y i=>ih x y (by have:=eF Fm.wt f;omega) (by have:=eF Fm.wt f;omega) (by have:=eF Fm.wt i;omega) (ol x f) (w y i)) VW;simp only[ez] at B;rw[B];cases o with
      |inr r=>exact⟨r,rfl⟩|inl u=>exact⟨0,rfl⟩
def Ec{a b:Fm}(h:a.wt<=1000000000)(i:b.wt<=1000000000):∃c,lu a b=some c:=by
 unfold lu;rw[jg h,jg i];simp only[dI,ez]
 by_cases d:a.err≠0
 ·rw[dR d];exact⟨_,rfl⟩
 ·rw[dK d]
  by_cases f:b.err≠0
  ·rw[dR f];exact⟨_,rfl⟩
  ·rw[dK f];obtain⟨o1,n1⟩:=Fm.ig (xk.1 d);obtain⟨o2,n2⟩:=Fm.ig (xk.1 f);have k:=a.js o1;have l:=b.js o2;obtain⟨c,j⟩:=Uc FU a b (by rw[fI];omega) VW VW o1 o2;rw[j];exact⟨c,rfl⟩
def mX{g:List Ty}{x:Tm}{t:Ty}(h:dU g x t)(hg:jc g)(a:g.length+x.alZ<=1000000):x.ty g=(t,0):=by
 have b:=(Wp h hg).2 x.alZ (g_ _) a;rw[BP x.alZ x (g_ _) h.ok g hg a] at b;exact kX b
def OO{g:List Ty}{x:Tm}(c:x.ok=true)(hg:jc g)(h:qQ x g 1=0):dU g x .nat:=by
 unfold qQ at h
 split at h
 ·cases h
 ·rename_i d
  have f:(x.ty g).1.alX=1:=by
   rcases Int.emod_two_eq (x.ty g).1.alX with _|_<;>
   ·by_cases a:(x.ty g).1.alX=1
    ·exact a
    ·exact absurd ⟨h,a⟩ d
  obtain⟨b,i⟩:=qR _ x (g_ _) c g hg _ (Am h);rw[(wy i).1 f] at b;exact b
def SK{g:List Ty}{x:Tm}(h:dU g x .nat)(hg:jc g)(a:g.length+x.alZ<=1000000):qQ x g 1=0:=by
 unfold qQ;rw[mX h hg a];exact dK (λh=>h.2 rfl)
def rP(f:Fm)(t:f.ok=true):∀g,jc g->f.yG g=0->iW g f:=by
 refine Fm.qP (p:=λf=>∀g,jc g->f.yG g=0->iW g f) ?_ ?_ ?_ f t
 ·intro a b l r g hg h;rw[Fm.zo] at h
  by_cases c:qQ a g 1=0
  ·by_cases i:qQ b g 1=0
   ·exact .eq (OO l hg c) (OO r hg i)
   ·simp[fE,c,i] at h
  ·simp[fE,c] at h
 ·intro k a b j l r d n g hg h
  have o:ki k=false:=by rcases j with rfl|rfl<;>rfl
  rw[Fm.zo,o] at h;simp only[mr,fE,kZ,if_true,ox,jb] at h
  by_cases c:a.yG g=0
  ·rw[dR c] at h
   by_cases i:b.yG g=0
   ·exact .two j (d g hg c) (n g hg i)
   ·rw[dK i] at h;exact absurd h i
  ·rw[dK c] at h;exact absurd h c
 ·intro k s a j hs l d g hg h
  have o:ki k=true:=by rcases j with rfl|rfl|rfl|rfl<;>rfl
  rw[Fm.zo,o] at h;simp only[mr,fE,kZ,if_true] at h
  by_cases c:a.yG (g++[s])=0
  ·exact .q j hs (d _ (hg.app hs) c)
  ·rw[dK c] at h;exact absurd h c
def lh{g:List Ty}{f:Fm}(h:iW g f):jc g->g.length+f.alZ<=1000000->f.yG g=0:=by
 induction h with
 |eq n o=>
  intro hg c;rw[Fm.dM] at c;simp only[ee] at c;rw[Fm.zo];simp[fE,SK n hg VW,SK o hg VW]
 |two d _ _ i j=>
  intro hg c;rw[Fm.dM] at c;simp only[ee] at c;rename_i k a b _ _
  have l:ki k=false:=by rcases d with rfl|rfl<;>rfl
  rw[Fm.zo,l];simp[fE,i hg VW,j hg VW]
 |q d hs _ ih=>
  intro hg c;rw[Fm.dM] at c;simp only[ee] at c;rename_i k s a _
  have l:ki k=true:=by rcases d with rfl|rfl|rfl|rfl<;>rfl
  rw[Fm.zo,l];simp[fE,ih (hg.app hs) abu]
def iW.up{g:List Ty}{f:Fm}(h:iW g f):∀g1 g2 e:List Ty,g=g1++g2->iW (g1++e++g2) (f.up g2.length e.length):=by
 induction h with
 |eq l n=>
  intro g1 g2 e hg;rw[Fm.fu];exact .eq (l.up g1 g2 e hg) (n.up g1 g2 e hg)
 |two c _ _ d i=>
  intro g1 g2 e hg;rename_i k a b _ _
  have j:qB k=0:=by rcases c with rfl|rfl<;>rfl
  rw[Fm.fu,j,sh];exact .two c (d g1 g2 e hg) (i g1 g2 e hg)
 |q c hs _ ih=>
  intro g1 g2 e hg;rename_i k s a _
  have j:qB k=1:=by rcases c with rfl|rfl|rfl|rfl<;>rfl
  subst hg;have:=ih g1 (g2++[s]) e (by rw[tM]);rw[Fm.fu,j];rw[nB,<-tM] at this;exact .q c hs this
def iW.lift{g:List Ty}{f:Fm}(h:iW g f)(e:List Ty):iW (g++e) (f.up 0 e.length):=by
 have:=h.up g [] e aaA;simpa using this
def iW.gp{g:List Ty}{f:Fm}(h:iW g f):∀(g1:List Ty) (s:Ty) (g2:List Ty) (a:Tm),g=g1++[s]++g2->dU g1 a s->iW (g1++g2) (Fm.gp g2.length f a):=by
 induction h with
 |eq l n=>
  intro g1 s g2 a hg b;rw[Fm.eS];exact .eq (l.gp g1 s g2 a hg b) (n.gp g1 s g2 a hg b)
 |two c _ _ d i=>
  intro g1 s g2 a hg b;rename_i k x y _ _
  have j:qB k=0:=by rcases c with rfl|rfl<;>rfl
  rw[Fm.eS,j,sh];exact .two c (d g1 s g2 a hg b) (i g1 s g2 a hg b)
 |q c hs _ ih=>
  intro g1 s g2 a hg b;rename_i k o x _
  have j:qB k=1:=by rcases c with rfl|rfl|rfl|rfl<;>rfl
  subst hg;have:=ih g1 s (g2++[o]) a aaA b;rw[Fm.eS,j];rw[nB,<-tM] at this;exact .q c hs this
theorem iW.put{g:List Ty}{s:Ty}{f:Fm}(h:iW (g++[s]) f){a:Tm}(b:dU g a s):iW g (Fm.gp 0 f a):=by
 have:=h.gp g s [] a aaA b;simpa using this
def dU.front{g:List Ty}{x:Tm}{t:Ty}(h:dU g x t)(e:List Ty):dU (e++g) x t:=by
 induction h with
 |@var g t i c f=>
  refine .var i abu ?_;rw[tQ abu,<-f]
  congr 1
  simp;omega
 |lam c _ ih=>exact .lam c (by rw[tM];exact ih)|app _ _ a b=>exact .app a b|zero=>exact .zero|succ _ ih=>exact .succ ih|oN c _ _ _ a b d=>exact .oN c a b d|nil=>exact .nil|cons _ _ a b=>exact .cons a b|fold c _ _ _ a b d=>exact .fold c a b d|pair c _ _ a b=>exact .pair c a b|fst _ ih=>exact .fst ih|snd _ ih=>exact .snd ih|unit=>exact .unit
def iW.front{g:List Ty}{f:Fm}(h:iW g f)(e:List Ty):iW (e++g) f:=by
 induction h with
 |eq d i=>exact .eq (d.front e) (i.front e)|two a _ _ b c=>exact .two a b c|q a hs _ ih=>exact .q a hs (by rw[tM];exact ih)
structure Hg (g:List Ty) (f:Fm):Prop where
 err:f.err=0
 ty:iW g f
def Hg.alZ{g:List Ty}{f:Fm}(h:Hg g f):f.alZ<=4096:=(Fm.ig h.err).2
def Hg.ok{g:List Ty}{f:Fm}(h:Hg g f):f.ok=true:=(Fm.ig h.err).1
def Hg.al3{g:List Ty}{f:Fm}(h:Hg g f)(hg:g.length<=16){m:Int}(hm:5000<=m):f.al3 m=true:=h.ty.al3 m (by have:=h.alZ;omega)
def Hg.up{g:List Ty}{f:Fm}(h:Hg g f)(l:List Ty):Hg (g++l) (f.up 0 l.length):=by
 have hn:=Fm.nd f 0 l.length;obtain⟨a,b⟩:=Fm.ig h.err;refine⟨?_,h.ty.lift l⟩;unfold Fm.err;rw[Fm.Pd f 0 l.length VW VW,a,dR rfl,hn,dK VW]
structure PG (L:List Fm) (c:dS):Prop where
 pl:PlR c
 mC:c.lemmas=L
 afG:∀f∈L,Hg [] f
 al4:∀f∈c.al4,Hg c.al1 f
def PG.V9{L:List Fm}{c:dS}(h:PG L c){l:List Ty}(k:jc l)(hn:c.al1.length+l.length<=16):∃a,fx c l=some a/\PG L a/\a.al1=c.al1++l/\a.al4=c.al4.map (Fm.up 0 l.length):=by
 obtain⟨a,n,o,q,i,j⟩:=h.pl.below k hn (λf b=>⟨(h.al4 f b).err,(h.al4 f b).al3 h.pl.nv VW⟩);refine⟨a,n,⟨o,q.trans h.mC,h.afG,λf b=>?_⟩,i,j⟩;rw[j] at b;obtain⟨f0,d,rfl⟩:=qz.1 b;rw[i];exact(h.al4 f0 d).up l
def PG.below{L:List Fm}{c:dS}(h:PG L c){s:Ty}(hs:s.err=0)(hn:c.al1.length+1<=16):∃a,fx c [s]=some a/\PG L a/\a.al1=c.al1++[s]/\a.al4=c.al4.map (Fm.up 0 1):=
 h.V9 (l:=[s]) (λx b=>by rw[EY.1 b];exact hs) hn
def PG.with{L:List Fm}{c:dS}(h:PG L c){f:Fm}(i:Hg c.al1 f)(hn:c.al4.length+1<=16):∃a,gn c f=some a/\PG L a/\a.al1=c.al1/\a.al4=c.al4++[f]:=by
 obtain⟨a,j,k,l,b,d⟩:=h.pl.with (f:=f) hn;refine⟨a,j,⟨k,l.trans h.mC,h.afG,λx hx=>?_⟩,b,d⟩;rw[d] at hx;rw[b];rcases tO.1 hx with hx|hx
 ·exact h.al4 x hx
 ·rw[EY.1 hx];exact i
def PG.room{L:List Fm}{c:dS}(h:PG L c){v k:Nat}(b:v<=100)(d:k<=100):(eD c v k=some 0/\c.al1.length+v<=16/\c.al4.length+k<=16)\/(eD c v k=some 3/\(16<c.al1.length+v\/16<c.al4.length+k)):=by
 unfold eD;have f:=h.pl.nv;have i:=h.pl.nh;rw[fQ,fQ,gd VW VW,gd VW VW,l']
 by_cases a:(pj ((c.al1.length:Int)+v) 16||pj ((c.al4.length:Int)+k) 16)=true
 ·rw[dR a];simp only[tH,iM] at a;exact .inr ⟨rfl,VW⟩
 ·rw[dK a];simp only[tH,iM,not_or] at a;exact .inl ⟨rfl,VW,VW⟩
def HT.len{N:Int}:∀{l:List Int} {lo:Int},HT l->(∀x∈l,lo<=x/\x<N)->(l.length:Int)<=max 0 (N-lo)
 |[],lo,_,_=>by simp;omega|a::l,lo,.cons c d,h=>by
  have f:=h a aaA;have ih:=HT.len (lo:=a+1) d (λx b=>⟨by have:=c x b;omega,(h x (by simp[b])).2⟩);simp only[mN];omega
def Us.len{l:List Int}{m:Nat}(h:Us l m):l.length<=32:=by
 have:=HT.len (N:=32) (lo:=0) h.srt (λx a=>⟨h.pos x a,h.bound x a⟩);omega
def dU.Re{g:List Ty}{x:Tm}{t:Ty}(h:dU g x t):∀j:Int,(g.length:Int)<=j->x.al5 j=0:=by
 induction h with
 |@var g t i k l=>
  intro j a;rw[Tm.fG,dK (λh=>by have:=h.2;omega)];rfl
 |@lam g s b t k _ ih=>
  intro j a;rw[Tm.fG,dK (λh=>by cases h.1)];simp only[ee];rw[ih (j+fq 2) (by show _<=j+1;simp;omega)]
 |app _ _ c d=>intro j a;rw[Tm.fG,dK (λh=>by cases h.1)];simp only[ee,show fq 3=0 from rfl,sh,c j a,d j a]
 |zero=>intro j a;rw[Tm.fG,dK (λh=>by cases h.1)];rfl
 |succ _ ih=>intro j a;rw[Tm.fG,dK (λh=>by cases h.1)];simp only[ee,show fq 5=0 from rfl,sh,ih j a]
 |oN k _ _ _ c d f=>intro j a;rw[Tm.fG,dK (λh=>by cases h.1)];simp only[ee,show fq 6=0 from rfl,sh,c j a,d j a,f j a]
 |nil=>intro j a;rw[Tm.fG,dK (λh=>by cases h.1)];rfl
 |cons _ _ c d=>intro j a;rw[Tm.fG,dK (λh=>by cases h.1)];simp only[ee,show fq 8=0 from rfl,sh,c j a,d j a]
 |fold k _ _ _ c d f=>intro j a;rw[Tm.fG,dK (λh=>by cases h.1)];simp only[ee,show fq 9=0 from rfl,sh,c j a,d j a,f j a]
 |pair k _ _ c d=>intro j a;rw[Tm.fG,dK (λh=>by cases h.1)];simp only[ee,show fq 10=0 from rfl,sh,c j a,d j a]
 |fst _ ih=>intro j a;rw[Tm.fG,dK (λh=>by cases h.1)];simp only[ee,show fq 11=0 from rfl,sh,ih j a]
 |snd _ ih=>intro j a;rw[Tm.fG,dK (λh=>by cases h.1)];simp only[ee,show fq 12=0 from rfl,sh,ih j a]
 |unit=>intro j a;rw[Tm.fG,dK (λh=>by cases h.1)];rfl
def iK:Fm:=.mk 0 (.mk 0 []) [] []
def Se(r:Option (Fm×List Int×Int)):Option (ta×Int):=
 eT r λb i h=>
 if(eL h 0) then(
 some ((ta.mk (Fm.mk 0 (Ty.mk 0 []) [] []) []),h))
 else(dH (j8 b) λc=>
 if(eL c 0) then(
 some ((ta.mk (Fm.mk 0 (Ty.mk 0 []) [] []) []),4))
 else(ej (λ(d:List Int)=>
 some ((ta.mk b d),0)) λa=>
 dV (nD b) λf j=>
 if f then(
 a i)
 else(a [])))
def EI{α:Type}{F:Int->α->Unit->Option (gq Unit Bool)}(w:α->Nat):∀(l:List α) (i:Nat),(∀j x,x∈l->F j x ()=if 0<w x then some (.ret true)else some (.next ()))->fw F l i ()=some (if 0<ee w l then .inr true else .inl ())
 |[],i,_=>rfl|x::l,i,h=>by
  have ih:=EI w l (i+1) (λj y c=>h j y (by simp[c]));rw[fY,h i x aaA]
  by_cases a:0<w x
  ·rw[dR a,dR (show 0<ee w (x::l) by simp only[ee];omega)];rfl
  ·rw[dK a];show fw F l (i+1) ()=_;rw[ih]
   by_cases b:0<ee w l
   ·rw[dR b,dR (show 0<ee w (x::l) by simp only[ee];omega)]
   ·rw[dK b,dK (show¬0<ee w (x::l) by simp only[ee];omega)]
def My:∀(n:Nat) (t:Tm) (a:Int),t.alZ<=n->t.alZ<=1000000000->0<=a->a+t.alZ<=10000000000->vZ n t a=some (decide (0<t.al5 a)):=by
 intro n
 induction n with
 |zero=>intro t a h;have:=t.eM;omega
 |succ n ih=>
  intro t a h d r f;cases t with
  |mk k i s l=>
   rw[Tm.dM] at h d f;have u:=Tm.fX l;have v:=ju k;rw[vZ,Tm.fG];simp only[Tm.eG,Tm.iI,Tm.eK,ef,vL,hE,gh]
   by_cases c:k=1/\i=a
   ·rw[dR c,dR c]
    congr 1
    exact(AD VW).symm
   ·rw[dK c,dK c,et VW,ed,EI (Tm.al5 (a+fq k)) l 0 (λj x o=>by
     have q:=eF Tm.alZ o;rw[n_,dI,Tm.eK,gd VW VW,ih x (a+fq k) VW VW VW VW,dI]
     by_cases b:0<x.al5 (a+fq k)
     ·rw[dR b,dR (AD b)]
     ·rw[dK b,dK (by simpa using b)]),dI,Ax]
    by_cases b:0<ee (Tm.al5 (a+fq k)) l
    ·rw[dR b,sV,AD b]
    ·rw[dK b,eC,Ox b]
def D8:∀(n:Nat) (t:Fm) (a:Int),t.alZ<=n->t.alZ<=1000000000->0<=a->a+t.alZ<=10000000000->qc n t a=some (decide (0<t.al5 a)):=by
 intro n
 induction n with
 |zero=>intro t a h;have:=t.eM;omega
 |succ n ih=>
  intro t a h c r d;cases t with
  |mk k s ts l=>
   rw[Fm.dM] at h c d;have u:=Fm.fX l;have q:=Tm.fX ts;have v:=yQ k;rw[qc,Fm.fG];simp only[Fm.eG,Fm.jN,ef]
   rw[et VW,ed,EI (Tm.al5 a) ts 0 (λj x f=>by
    have i:=eF Tm.alZ f;rw[My FU x a (by rw[fI];omega) VW VW VW,dI]
    by_cases b:0<x.al5 a
    ·rw[dR b,dR (AD b)]
    ·rw[dK b,dK (by simpa using b)]),dI]
   by_cases o:0<ee (Tm.al5 a) ts
   ·rw[dR o,sV,AD VW]
   ·rw[dK o,eC,et VW,ed,EI (Fm.al5 (a+qB k)) l 0 (λj x f=>by
     have i:=eF Fm.alZ f;rw[pL,dI,Fm.eK,gd VW VW,ih x (a+qB k) VW VW VW VW,dI]
     by_cases b:0<x.al5 (a+qB k)
     ·rw[dR b,dR (AD b)]
     ·rw[dK b,dK (by simpa using b)]),dI]
    by_cases b:0<ee (Fm.al5 (a+qB k)) l
    ·rw[dR b,sV,AD VW]
    ·rw[dK b,eC,Ox VW]
def Tm.KA(s:Tm):∀(t:Tm) (n:Int),t.ok=true->t.al5 n=0->Tm.gp n t s=t.up (n+1) (-1):=by
 intro t
 induction t using Tm.ind with
 |h k i ty l ih=>
  intro n d f;have hi:=Tm.tx d;rw[Tm.fG] at f;rw[Tm.eS,Tm.fu]
  by_cases a:k=1
  ·subst a;obtain⟨rfl,rfl⟩:=Tm.aeQ d
   have b:i≠n:=λh=>by rw[dR ⟨rfl,h⟩] at f;omega
   rw[dR rfl];unfold Tm.kH;rw[dK b]
   by_cases j:n<i
   ·rw[dR j,dR ⟨rfl,VW⟩];rfl
   ·rw[dK j,dK (λh=>by omega)];rfl
  ·rw[dK a,dK (λh=>a h.1)]
   congr 1
   refine tN λx c=>?_;have:=eF (Tm.al5 (n+fq k)) c;rw[ih x c (n+fq k) (hi.2.2.2.1 x c) VW,show n+fq k+1=n+1+fq k by omega]
def Fm.KA(s:Tm):∀(t:Fm) (n:Int),t.ok=true->t.al5 n=0->Fm.gp n t s=t.up (n+1) (-1):=by
 intro t
 induction t using Fm.ind with
 |h k ty ts l ih=>
  intro n b c;obtain⟨_,d,f⟩:=Fm.wR b;rw[Fm.fG] at c;rw[Fm.eS,Fm.fu]
  congr 1
  ·refine tN λx a=>?_;have:=eF (Tm.al5 n) a;exact Tm.KA s x n (d x a) VW
  ·refine tN λx a=>?_;have:=eF (Fm.al5 (n+qB k)) a;rw[ih x a (n+qB k) (f x a) VW,show n+qB k+1=n+1+qB k by omega]
def Nb:∀(n:Nat) (t:Tm) (f:Int),t.alZ<=n->t.alZ<=1000000000->0<=f->f+t.alZ<=10000000000->t.al3 1000000000000=true->sq n t f (-1)=some (t.up f (-1)):=by
 intro n
 induction n with
 |zero=>intro t f h;have:=t.eM;omega
 |succ n ih=>
  intro t f h a w b hi;cases t with
  |mk k i s l=>
   rw[Tm.dM] at h a b;rw[Tm.fK] at hi;simp only[hE,oI,ll] at hi;have y:=Tm.fX l;have A:=ju k;rw[sq];simp only[Tm.eG,Tm.iI,Tm.eK,Tm.fM,ef,et (l:=l) VW,ed];rw[kr (Tm.up (f+fq k) (-1)) l 0 [] abu]
   ·rw[Tm.fu];simp only[dI,eC,oa,CA,Tm.mk.injEq,Oq,AZ]
    by_cases c:k=1/\f<=i
    ·obtain⟨rfl,d⟩:=c;rw[gd VW VW];have q:eo 1 1=true:=rfl
     have r:qa i f=true:=by simp[d]
     simp[q,r,d]
    ·rw[dK c]
     have e:fp (eo k 1) (qa i f) false=false:=by
      rw[vL,W4];simp only[ne_eq,hE,gh,jW];exact c
     rw[e];rfl
   ·intro j x v o u;have:=eF Tm.alZ o;rw[n_];simp only[dI,Tm.eK];rw[gd VW VW,ih x (f+fq k) VW VW VW VW (hi.2 x o)];simp[fm (l:=v) (m:=[x.up (f+fq k) (-1)]) (by simpa using u)]
def D5:∀(n:Nat) (t:Fm) (f:Int),t.alZ<=n->t.alZ<=1000000000->0<=f->f+t.alZ<=10000000000->t.al3 1000000000000=true->iD n t f (-1)=some (t.up f (-1)):=by
 intro n
 induction n with
 |zero=>intro t f h;have:=t.eM;omega
 |succ n ih=>
  intro t f h b i c hi;cases t with
  |mk k s ts l=>
   rw[Fm.dM] at h b c;rw[Fm.fK] at hi;simp only[hE,ll] at hi;have q:=Fm.fX l;have o:=Tm.fX ts;have r:=yQ k;rw[iD];simp only[Fm.eG,Fm.jN,Fm.eK,Fm.fM,ef,et (l:=l) VW,et (l:=ts) VW,ed];rw[kr (Tm.up f (-1)) ts 0 [] abu]
   ·simp only[dI,eC];rw[kr (Fm.up (f+qB k) (-1)) l 0 [] abu]
    ·simp[Fm.fu]
    ·intro j x v a d;have:=eF Fm.alZ a;rw[pL];simp only[dI,Fm.eK];rw[gd VW VW,ih x (f+qB k) VW VW VW VW (hi.2 x a)];simp[fm (l:=v) (m:=[x.up (f+qB k) (-1)]) (by simpa using d)]
   ·intro j x v a d;have:=eF Tm.alZ a;rw[Nb FU x f (by rw[fI];omega) VW i VW (hi.1 x a)];simp[fm (l:=v) (m:=[x.up f (-1)]) (by simpa using d)]
noncomputable def Eh (x:Tm) (e:Int):Tm×Int:=if e=0 then((x.norm 1000 0).1,(x.norm 1000 0).2.2)else(x,e)
def rC{α:Type}(f:α->Int->α×Int):List α->Int->List α×Int
 |[],e=>([],e)|x::l,e=>((f x e).1::(rC f l (f x e).2).1,(rC f l (f x e).2).2)
mutual
noncomputable def Fm.tD:Fm->Int->Fm×Int
 |.mk k s ts l,e=>(.mk k s (rC Eh ts e).1 (Fm.Rg l (rC Eh ts e).2).1,(Fm.Rg l (rC Eh ts e).2).2)
noncomputable def Fm.Rg:List Fm->Int->List Fm×Int
 |[],e=>([],e)|f::l,e=>((f.tD e).1::(Fm.Rg l (f.tD e).2).1,(Fm.Rg l (f.tD e).2).2)
end
def Fm.St:∀(l:List Fm) (e:Int),Fm.Rg l e=rC Fm.tD l e
 |[],e=>by rw[Fm.Rg,rC]|f::l,e=>by rw[Fm.Rg,rC,Fm.St l]
def Fm.FQ(k:Int)(s:Ty)(ts:List Tm)(l:List Fm)(e:Int):(Fm.mk k s ts l).tD e=(.mk k s (rC Eh ts e).1 (rC Fm.tD l (rC Eh ts e).2).1,(rC Fm.tD l (rC Eh ts e).2).2):=by rw[Fm.tD,Fm.St]
def v8{α:Type}{f:α->Int->α×Int}:∀(l:List α) (e:Int),(∀x∈l,∀e,e≠0->(f x e).2=e)->e≠0->(rC f l e).2=e
 |[],e,_,_=>rfl|x::l,e,h,he=>by
  have a:=h x aaA e he;simp only[rC];rw[a];exact v8 l e (λy b=>h y (by simp[b])) he
def BC{x:Tm}{e:Int}(he:e≠0):(Eh x e).2=e:=by unfold Eh;rw[dK he]
def Fm.J6(f:Fm):∀e:Int,e≠0->(f.tD e).2=e:=by
 induction f using Fm.ind with
 |h k s ts l ih=>
  intro e he;rw[Fm.FQ];have a:=v8 (f:=Eh) ts e (λx _ e he=>BC he) he;simp only[];rw[a];exact v8 l e ih he
structure Nm (x:Tm):Prop where
 err:x.err=0
 al3:x.al3 536870912=true
def Nm.one{x:Tm}(h:Nm x):lb x 1000=some (x.norm 1000 0):=by
 obtain⟨a,hn⟩:=i_ h.err;have hw:=x.js a;have b:=Af (t:=x) VW 1000
 rwa [dR h.err,dR ⟨VW,VW,h.al3⟩] at b
inductive Yc:Fm->Prop
 |mk {k s ts l}:(∀x∈ts,Nm x)->(∀f∈l,Yc f)->Yc (.mk k s ts l)
def Yc.of(f:Fm):f.alZ<=4096->f.ok=true->f.al3 536870912=true->Yc f:=by
 induction f using Fm.ind with
 |h k s ts l ih=>
  intro hn d b;obtain⟨_,i,j⟩:=Fm.wR d;rw[Fm.dM] at hn;rw[Fm.fK,hE,ll,ll] at b;refine .mk (λx c=>⟨?_,b.1 x c⟩) (λf a=>?_)
  ·have:=eF Tm.alZ c;unfold Tm.err;rw[dR (i x c),dK VW]
  ·have:=eF Fm.alZ a;exact ih f a VW (j f a) (b.2 f a)
def HS:∀(n:Nat) (f:Fm),f.alZ<=n->f.alZ<=1000000->Yc f->nc n f=some (if(f.tD 0).2=0 then((f.tD 0).1,0)else(iK,(f.tD 0).2)):=by
 intro n
 induction n with
 |zero=>intro f h;have:=f.eM;omega
 |succ n ih=>
  intro f hn L hm;cases f with
  |mk k s ts l=>
   cases hm with
   |mk M N=>
    rw[Fm.dM] at hn L;have O:=jr Tm.alZ ts λt _=>t.eM;have P:=jr Fm.alZ l λt _=>t.eM;rw[nc,Fm.FQ];simp only[Fm.fM,Fm.eG,Fm.eK,Fm.jN,ef];rw[et VW,ed]
    have r:∀(us:List Tm) (j:Nat) (v:List Tm),(∀t∈us,Nm t)->v.length+us.length<=1000000000->fw (λ(Q:Int) (F:Tm)=>(λ(B:List Tm)=>
       eT (lb F 1000) λc I d=>
       if(eL d 0) then(
       some (.ret ((Fm.mk 0 (Ty.mk 0 []) [] []),d)))
       else(gG (fN B [c])<|some ((.next (fU B [c])):gq (List Tm) (Fm×Int))))) us j v=some (if(rC Eh us 0).2=0 then .inl (v++(rC Eh us 0).1)else .inr (iK,(rC Eh us 0).2)):=by
     intro us
     induction us with
     |nil=>intro j v _ _;simp[rC]|cons t us w=>
      intro j v hm G;simp only[mN] at G;rw[fY,(hm t aaA).one]
      have H:Eh t 0=((t.norm 1000 0).1,(t.norm 1000 0).2.2):=by unfold Eh;rw[dR rfl]
      obtain⟨y,m,a,C⟩:∃y m a,t.norm 1000 0=(y,m,a):=⟨_,_,_,rfl⟩;rw[C] at H|-;rw[gk]
      by_cases he:a=0
      ·subst he;rw[dK aar,fm abu,ed];simp only[dI,fk];rw[iv,w (j+1) (v++[y]) (λu hu=>hm u (by simp[hu])) abu];simp only[rC,H];simp
      ·rw[dR (by rw[ez];exact he)];simp only[rC,H];rw[v8 (f:=Eh) us a (λx _ e he=>BC he) he,dK he];rfl
    have A:∀(us:List Fm) (j:Nat) (v:List Fm),(∀t∈us,Yc t/\t.alZ<=n/\t.alZ<=1000000)->v.length+us.length<=1000000000->fw (λ(J:Int) (D:Fm)=>(λ(i:List Fm)=>
       dV (nc n D) λo q=>
       if(eL q 0) then(
       some (.ret ((Fm.mk 0 (Ty.mk 0 []) [] []),q)))
       else(gG (fN i [o])<|some ((.next (fU i [o])):gq (List Fm) (Fm×Int))))) us j v=some (if(rC Fm.tD us 0).2=0 then .inl (v++(rC Fm.tD us 0).1)else .inr (iK,(rC Fm.tD us 0).2)):=by
     intro us
     induction us with
     |nil=>intro j v _ _;simp[rC]|cons t us w=>
      intro j v hm G;simp only[mN] at G;obtain⟨a1,a2,a3⟩:=hm t aaA;rw[fY,ih t a2 a3 a1];obtain⟨y,a,C⟩:∃y a,t.tD 0=(y,a):=⟨_,_,rfl⟩;rw[C]
      by_cases he:a=0
      ·subst he;simp only[if_true];rw[dQ,dK aar,fm abu,ed];simp only[dI,fk];rw[iv,w (j+1) (v++[y]) (λu hu=>hm u (by simp[hu])) abu];simp only[rC,C];simp
      ·simp only[dK he];rw[dQ,dR (by rw[ez];exact he)];simp only[rC,C];rw[v8 (f:=Fm.tD) us a (λx _ e he=>Fm.J6 x e he) he,dK he];rfl
    rw[r ts 0 [] M abu,dI]
    by_cases he:(rC Eh ts 0).2=0
    ·rw[dR he,eC,et VW,ed,A l 0 [] (λt K=>by
      have:=eF Fm.alZ K
      exact⟨N t K,VW,VW⟩) abu,dI,he]
     by_cases b:(rC Fm.tD l 0).2=0
     ·rw[dR b,dR b,eC,oa,oa]
     ·rw[dK b,dK b,sV]
    ·rw[dK he,sV,v8 (f:=Fm.tD) l _ (λx _ e he=>Fm.J6 x e he) he,dK he]
def Ty.ahu:∀(n:Nat) (s:Ty),s.alZ<=n->s.err=0->∃a,dU [] a s:=by
 intro n
 induction n with
 |zero=>intro s h;have:=s.eM;omega
 |succ n ih=>
  intro s hn he;rcases Ty.pE he with rfl|rfl|rfl|⟨a,b,rfl,f,c⟩|⟨a,b,rfl,f,c⟩
  ·exact⟨_,.zero⟩
  ·exact⟨_,.nil⟩
  ·exact⟨_,.unit⟩
  ·rw[Ty.oR] at hn;obtain⟨x,i⟩:=ih a VW f;obtain⟨y,d⟩:=ih b VW c;exact⟨_,.pair he i d⟩
  ·rw[Ty.iH] at hn;obtain⟨y,d⟩:=ih b VW c;exact⟨_,.lam he (by have:=d.front [a];simpa using this)⟩
def iW.down{g:List Ty}{s:Ty}{f:Fm}(h:iW (g++[s]) f)(hs:s.err=0)(c:f.al5 0=0):iW g (f.up 1 (-1)):=by
 obtain⟨a,d⟩:=Ty.ahu _ s (g_ _) hs
 have b:dU g a s:=by simpa using d.front g
 have:=h.put b
 rwa [Fm.KA a f 0 h.ok c] at this
def dU.nm{g:List Ty}{x:Tm}{t:Ty}(h:dU g x t)(hg:g.length<=1000000)(a:x.alZ<=4096):Nm x:=by
 refine⟨?_,h.al3 _ VW⟩;unfold Tm.err;rw[dR h.ok,dK VW]
def Xf{g:List Ty}{x:Tm}{t:Ty}(h:dU g x t)(hg:g.length<=1000000)(b:x.alZ<=4096){e:Int}(he:(Eh x e).2=0):e=0/\dU g (Eh x e).1 t/\(Eh x e).1.alZ<=4096:=by
 by_cases c:e=0
 ·subst c;unfold Eh at he|-;simp only[if_true] at he|-;obtain⟨a,n,f,d⟩:∃a n f,x.norm 1000 0=(a,n,f):=⟨_,_,_,rfl⟩;rw[d] at he|-;simp only[] at he|-;subst he;exact⟨trivial,dU.norm _ _ _ _ _ h d,(Ie 1000 536870912 0 x a n VW (Sm.start (h.nm hg b).err (h.nm hg b).al3) b d).2⟩
 ·rw[BC c] at he;exact absurd he c
def SO(a b:Tm)(e:Int):(Fm.mk 1 .z [a,b] []).tD e=(.mk 1 .z [(Eh a e).1,(Eh b (Eh a e).2).1] [],(Eh b (Eh a e).2).2):=by rw[Fm.FQ];rfl
def S3(k:Int)(a b:Fm)(e:Int):(Fm.mk k .z [] [a,b]).tD e=(.mk k .z [] [(a.tD e).1,(b.tD (a.tD e).2).1],(b.tD (a.tD e).2).2):=by rw[Fm.FQ];rfl
def adu(k:Int)(s:Ty)(a:Fm)(e:Int):(Fm.mk k s [] [a]).tD e=(.mk k s [] [(a.tD e).1],(a.tD e).2):=by rw[Fm.FQ];rfl
def Xv{g:List Ty}{f:Fm}(h:iW g f):∀(e:Int),g.length+f.alZ<=1000000->f.alZ<=4096->(f.tD e).2=0->e=0/\iW g (f.tD e).1/\(f.tD e).1.alZ<=3000*f.alZ:=by
 induction h with
 |@eq g a b c o=>
  intro e hg hn he;rw[SO] at he|-;rw[Fm.dM] at hn hg|-;simp only[ee] at hn hg|-;obtain⟨d,i,r⟩:=Xf o VW VW he;obtain⟨a1,a2,a3⟩:=Xf c VW VW d;refine⟨a1,.eq a2 i,?_⟩;rw[Fm.dM];simp only[ee];have:=a.eM;have:=b.eM;omega
 |@two g k a b j c o l n=>
  intro e hg hn he;rw[S3] at he|-;rw[Fm.dM] at hn hg|-;simp only[ee] at hn hg|-;obtain⟨d,i,r⟩:=n _ VW VW he;obtain⟨a1,a2,a3⟩:=l _ VW VW d;refine⟨a1,.two j a2 i,?_⟩;rw[Fm.dM];simp only[ee];omega
 |@q g k s a j hs c ih=>
  intro e hg hn he;rw[adu] at he|-;rw[Fm.dM] at hn hg|-;simp only[ee] at hn hg|-;obtain⟨a1,a2,a3⟩:=ih _ abu VW he;refine⟨a1,.q j hs a2,?_⟩;rw[Fm.dM];simp only[ee];omega
noncomputable def xj (f:Fm):Fm×Int:=if f.al5 0=0 then(f.up 1 (-1),0)else if(f.tD 0).2≠0 then(iK,(f.tD 0).2)else if(f.tD 0).1.al5 0≠0 then(iK,6)else((f.tD 0).1.up 1 (-1),0)
def JK{g:List Ty}{s:Ty}{f:Fm}(h:Hg (g++[s]) f)(hg:g.length<=1000)(hs:s.err=0)(a:(xj f).2=0):iW g (xj f).1/\(xj f).1.alZ<=3000*4096:=by
 have hn:=h.alZ;unfold xj at a|-
 split
 ·rename_i c;refine⟨h.ty.down hs c,?_⟩;show(f.up 1 (-1)).alZ<=_;rw[Fm.nd];omega
 ·rename_i c;rw[dK c] at a
  split
  ·rename_i b;rw[dR b] at a;exact absurd a b
  ·rename_i b;rw[dK b] at a
   split
   ·rename_i d;rw[dR d] at a;cases a
   ·rename_i d;obtain⟨_,a2,a3⟩:=Xv h.ty 0 abu hn (xk.1 b);refine⟨a2.down hs VW,?_⟩;show((f.tD 0).1.up 1 (-1)).alZ<=_;rw[Fm.nd];omega
abbrev PR:=(Fm×Nat)⊕Int
def pbind(r:PR)(k:Fm->Nat->PR):PR:=match r with|.inl p=>k p.1 p.2|.inr e=>.inr e
def v7(c:Prop)[Decidable c](e:Int)(r:PR):PR:=if c then .inr e else r
theorem kg{c:Prop}[Decidable c]{e:Int}{r:PR}(h:c):v7 c e r=.inr e:=dR h
theorem hD{c:Prop}[Decidable c]{e:Int}{r:PR}(h:¬c):v7 c e r=r:=dK h
def jI(e:Int)(r:PR):PR:=if e=0 then r else .inr e
@[simp] theorem fl(f:Fm)(m:Nat)(k:Fm->Nat->PR):pbind (.inl (f,m)) k=k f m:=rfl
theorem fS{e:Int}{r:PR}(h:e=0):jI e r=r:=dR h
theorem jn{e:Int}{r:PR}(h:e≠0):jI e r=.inr e:=dK h
noncomputable def sY (r:PR):PR:=pbind r λf m=>if f.err=0 then .inl (f,if f.has then m else 0)else .inr 4
def GF(r:PR)(k:Int):PR:=pbind r λf m=>if f.alX=k then .inl (f,m)else .inr 10
noncomputable def Az (a b:Fm):Int:=(lu a b).getD 0
noncomputable def B7 (r:PR) (F:Fm) (t:Tm):PR:=pbind r λf m=>jI (kM F t).2 (jI (Az (kM F t).1 f) (.inl (f,m)))
def Me(t:Tm):Nat->Nat
 |0=>0|j+1=>if 0<t.al5 j then Me t j|||2^j else Me t j
def tg(t:Tm):Nat:=Me t 32
def L1(t:Tm):∀(n i:Nat),(Me t n).testBit i=true↔i<n/\0<t.al5 i
 |0,i=>by simp[Me]|n+1,i=>by
  have ih:=L1 t n i;rw[Me]
  by_cases h:0<t.al5 n
  ·rw[dR h,Nat.testBit_or,tH,ih,Nat.testBit_two_pow];simp only[oI];constructor
   ·rintro(⟨a,b⟩|rfl)
    ·exact⟨VW,b⟩
    ·exact⟨VW,h⟩
   ·rintro⟨a,b⟩
    by_cases hi:n=i
    ·exact .inr hi
    ·exact .inl ⟨VW,b⟩
  ·rw[dK h,ih];constructor
   ·rintro⟨a,b⟩;exact⟨VW,b⟩
   ·rintro⟨a,b⟩;refine⟨?_,b⟩;rcases vb i n with hh|hh
    ·exact hh
    ·obtain rfl:i=n:=VW
     exact absurd b h
def LU(t:Tm)(i:Nat):(tg t).testBit i=true↔i<32/\0<t.al5 i:=L1 t 32 i
def v0:Tm:=.mk 1 0 (.mk 0 []) []
def v1:Tm:=.mk 1 1 (.mk 0 []) []
noncomputable def pX (L:List Fm) (k i:Int) (s:Ty) (ts:List Tm) (fs:List Fm) (sub:Nat->List Ty->List Fm->PR) (g:List Ty) (hs:List Fm):PR:=
 let t:=ts.getD 0 Tm.z
 let F:=fs.getD 0 iK
 if k=1 then v7 ((hs.length:Int)<=i) 8 (.inl (hs.getD (hs.length-1-i.toNat) iK,0))
 else if k=2 then v7 ((L.length:Int)<=i) 9 (.inl (L.getD i.toNat iK,0))
 else if k=3 then pbind (sub 0 g hs) λa m=>pbind (sub 1 g hs) λb n=>.inl (.mk 2 .z [] [a,b],m|||n)
 else if k=4 then pbind (GF (sub 0 g hs) 2) λa m=>.inl (a.alY.getD 0 iK,m)
 else if k=5 then pbind (GF (sub 0 g hs) 2) λa m=>.inl (a.alY.getD 1 iK,m)
 else if k=6 then jI (F.yG g) (v7 (16<hs.length+1) 3 (pbind (sub 0 g (hs++[F])) λb m=>.inl (.mk 3 .z [] [F,b],m)))
 else if k=7 then pbind (GF (sub 0 g hs) 3) λa m=>pbind (sub 1 g hs) λb n=>jI (Az (a.alY.getD 0 iK) b) (.inl (a.alY.getD 1 iK,m|||n))
 else if k=8 then v7 (16<g.length+1) 3 (pbind (sub 0 (g++[s]) (hs.map (Fm.up 0 1))) λb m=>.inl (.mk 4 s [] [b],m/2))
 else if k=12 then v7 (16<g.length+1) 3 (pbind (sub 0 (g++[s]) (hs.map (Fm.up 0 1))) λb m=>v7 (m.testBit 0=true) 12 (.inl (.mk 6 s [] [b],m/2)))
 else if k=9 then jI (t.ty g).2 (pbind (GF (sub 0 g hs) 4) λa m=>v7 ((t.ty g).1.kc a.dN=false) 7 (jI (kM (a.alY.getD 0 iK) t).2 (.inl ((kM (a.alY.getD 0 iK) t).1,m|||tg t))))
 else if k=13 then jI (t.ty g).2 (pbind (GF (sub 0 g hs) 6) λa m=>v7 ((t.ty g).1.kc a.dN=false) 7 (jI (kM (a.alY.getD 0 iK) t).2 (.inl ((kM (a.alY.getD 0 iK) t).1,m))))
 else if k=10 then jI (F.yG g) (v7 (F.alX≠5) 10 (jI (t.ty g).2 (v7 ((t.ty g).1.kc F.dN=false) 7 (pbind (B7 (sub 0 g hs) (F.alY.getD 0 iK) t) λ_ m=>.inl (F,m|||tg t)))))
 else if k=14 then jI (F.yG g) (v7 (F.alX≠7) 10 (jI (t.ty g).2 (v7 ((t.ty g).1.kc F.dN=false) 7 (pbind (B7 (sub 0 g hs) (F.alY.getD 0 iK) t) λ_ m=>.inl (F,m)))))
 else if k=11 then pbind (GF (sub 0 g hs) 5) λa m=>v7 (16<g.length+1\/16<hs.length+1) 3 (pbind (sub 1 (g++[a.dN]) (hs.map (Fm.up 0 1)++[a.alY.getD 0 iK])) λb n=>jI (xj b).2 (.inl ((xj b).1,m|||n/2)))
 else if k=15 then pbind (GF (sub 0 g hs) 7) λa m=>v7 (16<g.length+1\/16<hs.length+1) 3 (pbind (sub 1 (g++[a.dN]) (hs.map (Fm.up 0 1)++[a.alY.getD 0 iK])) λb n=>jI (xj b).2 (v7 (n.testBit 0=true) 12 (.inl ((xj b).1,m|||n/2))))
 else if k=16 then jI (F.yG (g++[.nat])) (jI (qQ t g 1) (pbind (B7 (sub 0 g hs) F iF) λ_ m=>v7 (16<g.length+1\/16<hs.length+1) 3 (
  pbind (B7 (sub 1 (g++[.nat]) (hs.map (Fm.up 0 1)++[F])) (F.up 1 1) (gE v0)) λ_ n=>jI (kM F t).2 (.inl ((kM F t).1,(tg t|||m)|||n/2)))))
 else if k=17 then jI (F.yG (g++[.lD])) (jI (qQ t g 2) (pbind (B7 (sub 0 g hs) F (.mk 7 0 .z [])) λ_ m=>v7 (16<g.length+2\/16<hs.length+1) 3 (
  pbind (B7 (sub 1 (g++[.nat]++[.lD]) (hs.map (Fm.up 0 2)++[F.up 1 1])) (F.up 1 2) (.mk 8 0 .z [v1,v0])) λ_ n=>jI (kM F t).2 (.inl ((kM F t).1,(tg t|||m)|||n/4)))))
 else if k=18 then jI (qQ t g 1) (.inl (.mk 1 .z [t,t] [],0))
 else if k=19 then jI (F.yG (g++[.nat])) (pbind (GF (sub 0 g hs) 1) λa _=>pbind (B7 (sub 1 g hs) F (a.ei.getD 0 Tm.z)) λ_ n=>jI (kM F (a.ei.getD 1 Tm.z)).2 (.inl ((kM F (a.ei.getD 1 Tm.z)).1,n)))
 else pbind (GF (sub 0 g hs) 4) λa m=>v7 ((a.alY.getD 0 iK).alX≠5) 10 (v7 ((Ty.fn a.dN (a.alY.getD 0 iK).dN).err≠0) 4 (v7 ((kM (((a.alY.getD 0 iK).alY.getD 0 iK).up 2 1) (fi v1 v0)).2≠0) 4 (.inl (.mk 5 (Ty.fn a.dN (a.alY.getD 0 iK).dN) [] [.mk 4 a.dN [] [(kM (((a.alY.getD 0 iK).alY.getD 0 iK).up 2 1) (fi v1 v0)).1]],m))))
mutual
noncomputable def Pf.inf (L:List Fm):Pf->List Ty->List Fm->PR
 |.mk k i s ts fs l,g,hs=>sY (pX L k i s ts fs (Pf.vp L l) g hs)
noncomputable def Pf.vp (L:List Fm):List Pf->Nat->List Ty->List Fm->PR
 |[],_,_,_=>.inr 2|p::_,0,g,hs=>p.inf L g hs|_::l,n+1,g,hs=>Pf.vp L l n g hs
end
def IRs(g:List Ty)(s:PR)(r:Option (ta×Int)):Prop:=
 (∃e,e≠0/\s=.inr e/\r=some (⟨iK,[]⟩,e))\/∃(f:Fm) (m:Nat) (l:List Int),s=.inl (f,m)/\r=some (⟨f,l⟩,0)/\Us l m/\Hg g f
def lT(g:List Ty)(s:PR)(r:Option (Fm×List Int×Int)):Prop:=
 (∃e f l,e≠0/\s=.inr e/\r=some (f,l,e))\/∃(f:Fm) (m:Nat) (l:List Int),s=.inl (f,m)/\r=some (f,l,0)/\Us l m/\iW g f/\f.alZ<=15000000
theorem lT.no{g:List Ty}{s:PR}{r:Option (Fm×List Int×Int)}{e:Int}{f:Fm}{l:List Int}(he:e≠0)(a:s=.inr e)(b:r=some (f,l,e)):lT g s r:=.inl ⟨e,f,l,he,a,b⟩
def lT.yes{g:List Ty}{s:PR}{r:Option (Fm×List Int×Int)}{f:Fm}{m:Nat}{l:List Int}(a:s=.inl (f,m))(b:r=some (f,l,0))(c:Us l m)(d:iW g f)(h:f.alZ<=15000000):lT g s r:=.inr ⟨f,m,l,a,b,c,d,h⟩
def lT.infer{g:List Ty}(hg:g.length<=16){s:PR}{r:Option (Fm×List Int×Int)}(h:lT g s r):IRs g (sY s) (Se r):=by
 rcases h with⟨e,f,l,he,rfl,rfl⟩|⟨f,m,l,rfl,rfl,hu,b,hn⟩
 ·refine .inl ⟨e,he,rfl,?_⟩;unfold Se;rw[gk,dR (by rw[ez];exact he)];rfl
 ·have c:=b.ok;have hw:=f.js c;have d:sY (.inl (f,m))=if f.err=0 then .inl (f,if f.has then m else 0)else .inr 4:=rfl;unfold Se;rw[gk];simp only[ef];rw[dK aar,jg VW,dI]
  by_cases a:f.err=0
  ·rw[dK (by rw[ez];simp[a]),ym _ VW,d,dR a];rw[dK (show¬(f.err≠0) by simpa using a),dQ];cases f.has with
   |true=>exact .inr ⟨f,m,l,rfl,rfl,hu,⟨a,b⟩⟩|false=>exact .inr ⟨f,0,[],rfl,rfl,.nil,⟨a,b⟩⟩
  ·rw[dR (by rw[ez];exact a),d,dK a];exact .inl ⟨4,aar,rfl,rfl⟩
def jl(L:List Fm)(P:Pf)(N:Nat):Prop:=∀n',N<=n'->∀c,PG L c->IRs c.al1 (P.inf L c.al1 c.al4) (eu n' c P)
def s6{f:Fm}{m:Nat}{k:Int}(h:f.alX=k):GF (.inl (f,m)) k=.inl (f,m):=by grind[GF,fl]
def afD{f:Fm}{m:Nat}{k:Int}(h:f.alX≠k):GF (.inl (f,m)) k=.inr 10:=by grind[GF,fl]
def mZ{g:List Ty}{s:PR}{r:Option (ta×Int)}(h:IRs g s r)(k:Int):(∃e,e≠0/\GF s k=.inr e/\((r=some (⟨iK,[]⟩,e))\/∃f l m,r=some (⟨f,l⟩,0)/\f.alX≠k/\e=10/\Us l m))\/∃(f:Fm) (m:Nat) (l:List Int),GF s k=.inl (f,m)/\r=some (⟨f,l⟩,0)/\Us l m/\Hg g f/\f.alX=k:=by
 rcases h with⟨e,he,a,b⟩|⟨f,m,l,a,b,hu,d⟩
 ·exact .inl ⟨e,he,by rw[a];rfl,.inl b⟩
 ·by_cases c:f.alX=k
  ·exact .inr ⟨f,m,l,by rw[a,s6 c],b,hu,d,c⟩
  ·exact .inl ⟨10,aar,by rw[a,afD c],.inr ⟨f,l,m,b,c,rfl,hu⟩⟩
def Sl{a b:Fm}(d:a.wt<=1000000000)(f:b.wt<=1000000000):lu a b=some (Az a b):=by
 obtain⟨c,h⟩:=Ec d f;unfold Az;rw[h];rfl
structure td (g:List Ty) (F:Fm) (t:Tm):Prop where
 fe:F.err=0
 te:t.err=0
 ty:∃s,iW (g++[s]) F/\dU g t s
theorem td.put{g:List Ty}{F:Fm}{t:Tm}(h:td g F t):iW g (Fm.gp 0 F t):=by
 obtain⟨s,a,b⟩:=h.ty;exact a.put b
def td.both{g:List Ty}{F:Fm}{t:Tm}(h:td g F t)(hg:g.length<=100):jB F t=some (kM F t):=by
 obtain⟨s,a,b⟩:=h.ty;obtain⟨_,a2⟩:=Fm.ig h.fe;obtain⟨_,f⟩:=Tm.ig h.te;have c:F.al3 536870912=true:=a.al3 _ abu;have d:t.al3 536870912=true:=b.al3 _ VW;unfold jB;rw[Ky h.fe h.te c d h.put.ok];rfl
theorem mw(F:Fm)(t:Tm):kM F t=(iK,4)\/(Fm.gp 0 F t).alZ<=4096/\kM F t=(Fm.gp 0 F t,0):=by
 unfold kM
 split
 ·exact .inl rfl
 ·grind
def tw{g:List Ty}(hg:g.length<=16){s:PR}{n':Nat}{P:Pf}{c:dS}(h:IRs g s (eu n' c P)){F:Fm}{t:Tm}(k:td g F t):(∃e l m,e≠0/\B7 s F t=.inr e/\e_ (n'+1) c P F t=some (l,e)/\Us l m)\/∃(f:Fm) (m:Nat) (l:List Int),B7 s F t=.inl (f,m)/\e_ (n'+1) c P F t=some (l,0)/\Us l m:=by
 have k2:=k.both VW;rcases h with⟨e,he,i,j⟩|⟨f,m,l,i,j,hu,n⟩
 ·refine .inl ⟨e,[],0,he,by rw[i];rfl,?_,.nil⟩;rw[e_,j,dQ,dR (by rw[ez];exact he)]
 ·rcases mw F t with d|⟨hn,d⟩
  ·rw[d] at k2;refine .inl ⟨4,[],0,aar,?_,?_,.nil⟩
   ·rw[i];unfold B7;rw[fl,d];rfl
   ·rw[e_,j,dQ,dK aar,k2,dQ,dR aar]
  ·rw[d] at k2;have v:=Fm.js _ k.put.ok;have w:=Fm.js _ n.ok;have o:=n.alZ;have q:=Sl (a:=Fm.gp 0 F t) (b:=f) VW VW
   have r:B7 s F t=jI (Az (Fm.gp 0 F t) f) (.inl (f,m)):=by rw[i];unfold B7;rw[fl,d,fS rfl]
   have u:e_ (n'+1) c P F t=some (l,Az (Fm.gp 0 F t) f):=by
    rw[e_,j,dQ,dK aar,k2,dQ,dK aar,q,dI]
   rw[r,u]
   by_cases hm:Az (Fm.gp 0 F t) f=0
   ·rw[fS hm,hm];exact .inr ⟨f,m,l,rfl,rfl,hu⟩
   ·rw[jn hm];exact .inl ⟨_,_,m,hm,rfl,rfl,hu⟩
theorem IA{g:List Ty}(h:jc g)(hg:g.length<=16):yc g=0:=by
 unfold yc;rw[dK VW]
 induction g with
 |nil=>rfl|cons s g ih=>
  have a:=h s aaA;simp only[kZ,fE];rw[dR a];exact ih (λx b=>h x (by simp[b])) (by simp at hg;omega)
def tl{g:List Ty}(a:jc g)(hg:g.length<=17){F:Fm}(hF:F.err=0):kP g F=some (F.yG g)/\(g.length<=16->ka g F=some (F.yG g)):=by
 obtain⟨a1,a2⟩:=Fm.ig hF;have hw:=F.js a1;refine⟨?_,λb=>?_⟩
 ·unfold kP;rw[jg VW,hF,dI,dK aar,Bi F a1 FU (by rw[fI];omega) g a VW a2];rfl
 ·rw[w4 VW VW (λt c=>by have:=fg (a t c);omega)];unfold Mm
  grind[IA]
def rU{g:List Ty}(a:jc g)(hg:g.length<=16){t:Tm}(b:t.err=0):iZ g t=some (t.ty g):=by
 obtain⟨a1,a2⟩:=Tm.ig b;unfold iZ;rw[tB g VW (λt b=>by have:=fg (a t b);omega),IA a hg,Be a1 a2 a VW];rfl
def has_both{g:List Ty}(b:jc g)(hg:g.length<=16){c:dS}(a:c.al1=g){t:Tm}(d:t.err=0)(k:Int):hR c t k=some (qQ t g k):=by
 unfold hR qQ;rw[a,rU b hg d]
 grind[dQ,ez]
def yi{g:List Ty}(hg:g.length<=16){t:Tm}{s:Ty}(h:dU g t s)(b:t.err=0):∃l,kB t=some l/\Us l (tg t):=by
 obtain⟨a1,a2⟩:=Tm.ig b;have a:∀j:Int,32<=j->t.al5 j=0:=λj o=>h.Re j VW;obtain⟨l,d,f,c⟩:=Z5 b (h.al3 _ VW) a;refine⟨l,d,⟨?_,λx k=>((c x).1 k).1,f,λi=>?_⟩⟩
 ·exact Nat.lt_pow_two_of_testBit (n:=32) _ λi hi=>by rw[<-Bool.not_eq_true,LU];omega
 ·rw[c,LU]
  grind
def nz:¬eL 0 0=true:=aar
def Pf.gV(L:List Fm)(k i:Int)(s:Ty)(ts:List Tm)(fs:List Fm)(l:List Pf)(g:List Ty)(hs:List Fm):(Pf.mk k i s ts fs l).inf L g hs=sY (pX L k i s ts fs (Pf.vp L l) g hs):=by rw[Pf.inf]
def jl.of{L:List Fm}{k i:Int}{s:Ty}{ts:List Tm}{fs:List Fm}{l:List Pf}{N:Nat}
  (H:∀n',N<=n'->∀c,PG L c->lT c.al1 (pX L k i s ts fs (Pf.vp L l) c.al1 c.al4) (en (n'+4) c (.mk k i s ts fs l))):jl L (.mk k i s ts fs l) (N+5):=by
 intro n' b c h;obtain⟨a,rfl⟩:∃a,n'=a+5:=⟨n'-5,VW⟩;exact lT.infer h.pl.nv (H a VW c h)
def ah7(n:Nat)(c:dS)(i:Int):en (n+1) c (.mk 1 i .z [] [] [])=if(qa i (eA c.al4)) then some (iK,[],8)else dH (dX c.al4 (fL .i64 (fL .i64 (eA c.al4) 1) i)) λa=>some (a,[],0):=by rw[en];rfl
def So(L:List Fm)(i:Int)(g:List Ty)(hs:List Fm):pX L 1 i .z [] [] (Pf.vp L []) g hs=v7 ((hs.length:Int)<=i) 8 (.inl (hs.getD (hs.length-1-i.toNat) iK,0)):=rfl
def WK{L:List Fm}{i:Int}(hi:0<=i):jl L (.mk 1 i .z [] [] []) 5:=by
 refine jl.of (N:=0) λn' _ c h=>?_;rw[ah7,So]
 by_cases d:(c.al4.length:Int)<=i
 ·grind[kg,dQ,qa,eA,jW,fQ,lT.no]
 ·have j:=h.pl.nh
  have b:c.al4.length-1-i.toNat<c.al4.length:=VW
  rw[hD d,dK (show¬(qa i (eA c.al4)=true) by rw[jW,fQ];exact d),fQ,gi (a:=(c.al4.length:Int)) VW VW,gi VW VW,show(c.al4.length:Int)-1-i=((c.al4.length-1-i.toNat:Nat):Int) by omega,hJ,po b,dI];have f:=h.al4 _ (DL b);exact lT.yes (by simp[x',b]) rfl .nil f.ty (by have:=f.alZ;omega)
def ahb(n:Nat)(c:dS)(i:Int):en (n+1) c (.mk 2 i .z [] [] [])=if(qa i (eA c.lemmas)) then some (iK,[],9)else dH (dX c.lemmas i) λa=>some (a,[],0):=by rw[en];rfl
def Yi(L:List Fm)(i:Int)(g:List Ty)(hs:List Fm):pX L 2 i .z [] [] (Pf.vp L []) g hs=v7 ((L.length:Int)<=i) 9 (.inl (L.getD i.toNat iK,0)):=rfl
def YV{L:List Fm}{i:Int}(hi:0<=i):jl L (.mk 2 i .z [] [] []) 5:=by
 refine jl.of (N:=0) λn' _ c h=>?_;rw[ahb,Yi,h.mC]
 by_cases b:(L.length:Int)<=i
 ·grind[kg,jW,fQ,lT.no]
 ·obtain⟨k,rfl⟩:∃k:Nat,i=k:=⟨i.toNat,VW⟩
  have a:k<L.length:=VW
  rw[hD b,dK (by rw[jW,fQ];exact b),hJ,po a,dI]
  have f:L.getD (k:Int).toNat iK=L[k]:=by grind
  have d:=h.afG _ (DL a);exact lT.yes (by rw[f]) rfl .nil (by simpa using d.ty.front c.al1) (by have:=d.alZ;omega)
def aeA(n:Nat)(c:dS)(a b:Pf):en (n+1) c (.mk 3 0 .z [] [] [a,b])=dV (eu n c a) λd f=>if(eL f 0) then some (iK,[],f)else dV (eu n c b) λh i=>dH (rV 2 d.d_ h.d_) λj=>dH (gu d.jX h.jX) λk=>some (j,k,i):=by rw[en];rfl
def Ns(L:List Fm)(a b:Pf)(g:List Ty)(hs:List Fm):pX L 3 0 .z [] [] (Pf.vp L [a,b]) g hs=pbind (a.inf L g hs) λf m=>pbind (b.inf L g hs) λc n=>.inl (.mk 2 .z [] [f,c],m|||n):=rfl
def QU:iK.wt<=1000000:=aar
def Ud{L:List Fm}{a b:Pf}{N:Nat}(s:jl L a N)(t:jl L b N):jl L (.mk 3 0 .z [] [] [a,b]) (N+5):=by
 refine jl.of λn' u c h=>?_;rw[aeA,Ns];rcases s (n'+3) VW c h with⟨e,he,d,i⟩|⟨f,m,l,d,i,hu,n⟩
 ·rw[d,i,dQ,dR (by rw[ez];exact he)];exact lT.no he rfl rfl
 ·have v:=n.alZ;have w:=f.js n.ok;rw[d,i,dQ,dK aar,fl];rcases t (n'+3) VW c h with⟨e,he,d,i⟩|⟨x,A,B,d,i,k,j⟩
  ·obtain⟨q,q1,_⟩:=hu.union .nil (by have:=hu.len;omega) aaA;have:=QU;rw[d,i,dQ];simp only[];rw[MU VW VW,dI,q1];exact lT.no he rfl rfl
  ·have o:=j.alZ;have r:=x.js j.ok;obtain⟨q,q1,C,y,_⟩:=hu.union k (by have:=hu.len;omega) (by have:=k.len;omega);rw[d,i,dQ,fl];simp only[];rw[MU VW VW,dI,q1];refine lT.yes rfl rfl y (.two (.inl rfl) n.ty j.ty) ?_;rw[Fm.dM];simp only[ee];omega
def iW.G7{g:List Ty}{f:Fm}(h:iW g f){k:Int}(d:f.alX=k)(i:k=2\/k=3):∃a b,f=.mk k .z [] [a,b]/\iW g a/\iW g b:=by
 cases h with
 |eq _ _=>grind[Fm.eK]|two c j l=>grind[Fm.eK]|q c _ _=>grind[Fm.eK]
def iW.w8{g:List Ty}{f:Fm}(h:iW g f){k:Int}(d:f.alX=k)(i:k=4\/k=5\/k=6\/k=7):∃s a,f=.mk k s [] [a]/\s.err=0/\iW (g++[s]) a:=by
 cases h with
 |eq _ _=>grind[Fm.eK]|two b c j=>grind[Fm.eK]|q b hs c=>grind[Fm.eK]
def iW.YW{g:List Ty}{f:Fm}(h:iW g f)(j:f.alX=1):∃a b,f=.mk 1 .z [a,b] []/\dU g a .nat/\dU g b .nat:=by
 cases h with
 |eq d i=>grind|two c d i=>simp_all|q c hs d=>simp_all
def Hg.sub{g a:List Ty}{k:Int}{s:Ty}{ts:List Tm}{l:List Fm}(h:Hg g (.mk k s ts l)){x:Fm}(c:x∈l)(b:iW a x):Hg a x:=by
 have d:=h.alZ;rw[Fm.dM] at d;have:=eF Fm.alZ c;refine⟨?_,b⟩;unfold Fm.err;rw[dR b.ok,dK VW]
def aeY(n:Nat)(c:dS)(a:Pf):en (n+1) c (.mk 4 0 .z [] [] [a])=dV (eu n c a) λb d=>if(eL d 0) then some (iK,[],d)else if(eL b.d_.alX 2) then some (iK,[],10)else dH (dX b.d_.alY (fL .i64 4 4)) λf=>some (f,b.jX,0):=by rw[en];rfl
def aen(n:Nat)(c:dS)(a:Pf):en (n+1) c (.mk 5 0 .z [] [] [a])=dV (eu n c a) λb d=>if(eL d 0) then some (iK,[],d)else if(eL b.d_.alX 2) then some (iK,[],10)else dH (dX b.d_.alY (fL .i64 5 4)) λf=>some (f,b.jX,0):=by rw[en];rfl
def Ny(L:List Fm)(a:Pf)(g:List Ty)(hs:List Fm):pX L 4 0 .z [] [] (Pf.vp L [a]) g hs=pbind (GF (a.inf L g hs) 2) λf m=>.inl (f.alY.getD 0 iK,m):=rfl
def MX(L:List Fm)(a:Pf)(g:List Ty)(hs:List Fm):pX L 5 0 .z [] [] (Pf.vp L [a]) g hs=pbind (GF (a.inf L g hs) 2) λf m=>.inl (f.alY.getD 1 iK,m):=rfl
def Ub{L:List Fm}{a:Pf}{N:Nat}(n:jl L a N):jl L (.mk 4 0 .z [] [] [a]) (N+5):=by
 refine jl.of λn' o c h=>?_;rw[aeY,Ny];rcases mZ (n (n'+3) VW c h) 2 with⟨e,he,d,b⟩|⟨f,m,l,d,b,hu,j,i⟩
 ·rw[d];rcases b with b|⟨f,l,m,b,i,rfl,_⟩
  ·rw[b,dQ,dR (by rw[ez];exact he)];exact lT.no he rfl rfl
  ·rw[b,dQ,dK aar,dR (by rw[ez];exact i)];exact lT.no he rfl rfl
 ·obtain⟨x,y,rfl,k,q⟩:=j.ty.G7 i (.inl rfl);rw[d,b,dQ,dK aar,dK aaA,fl];exact lT.yes (f:=x) rfl rfl hu k (by have:=(j.sub aaA k).alZ;omega)
def Un{L:List Fm}{a:Pf}{N:Nat}(n:jl L a N):jl L (.mk 5 0 .z [] [] [a]) (N+5):=by
 refine jl.of λn' o c h=>?_;rw[aen,MX];rcases mZ (n (n'+3) VW c h) 2 with⟨e,he,d,b⟩|⟨f,m,l,d,b,hu,j,i⟩
 ·rw[d];rcases b with b|⟨f,l,m,b,i,rfl,_⟩
  ·rw[b,dQ,dR (by rw[ez];exact he)];exact lT.no he rfl rfl
  ·rw[b,dQ,dK aar,dR (by rw[ez];exact i)];exact lT.no he rfl rfl
 ·obtain⟨x,y,rfl,q,k⟩:=j.ty.G7 i (.inl rfl);rw[d,b,dQ,dK aar,dK aaA,fl];exact lT.yes (f:=y) rfl rfl hu k (by have:=(j.sub aaA k).alZ;omega)
def afd(n:Nat)(c:dS)(F:Fm)(a:Pf):en (n+1) c (.mk 6 0 .z [] [F] [a])=dH (ka c.al1 F) λb=>if(eL b 0) then some (iK,[],b)else dH (eD c 0 1) λd=>if(eL d 0) then some (iK,[],d)else dH (gn c F) λh=>dV (eu n h a) λf i=>dH (rV 3 F f.d_) λj=>some (j,f.jX,i):=by rw[en];rfl
def QE(L:List Fm)(F:Fm)(a:Pf)(g:List Ty)(hs:List Fm):pX L 6 0 .z [] [F] (Pf.vp L [a]) g hs=jI (F.yG g) (v7 (16<hs.length+1) 3 (pbind (a.inf L g (hs++[F])) λb m=>.inl (.mk 3 .z [] [F,b],m))):=rfl
def T'{L:List Fm}{F:Fm}(hF:F.err=0){a:Pf}{N:Nat}(s:jl L a N):jl L (.mk 6 0 .z [] [F] [a]) (N+5):=by
 refine jl.of λn' t c h=>?_;rw[afd,QE];have j:=h.pl.nv;obtain⟨_,t2⟩:=tl h.pl.ctx VW hF;have u:=(Fm.ig hF).2;have w:=F.js (Fm.ig hF).1;rw[t2 j,dI]
 by_cases d:F.yG c.al1=0
 ·rw[dK (by rw[ez];simpa using d),fS d];have i:=rP F (Fm.ig hF).1 c.al1 h.pl.ctx d;rcases h.room (v:=0) (k:=1) VW VW with⟨b,_,r⟩|⟨b,r⟩
  ·have b:eD c 0 1=some 0:=b;rw[b,dI,dK aar,hD VW];obtain⟨x,y,A,B,C⟩:=h.with ⟨hF,i⟩ r;rw[y,dI];have hi:=s (n'+3) VW x A;rw[B,C] at hi;rcases hi with⟨e,he,n,o⟩|⟨f,m,l,n,o,hu,q⟩
   ·have:=QU;rw[n,o,dQ];simp only[];rw[MU VW VW];exact lT.no he rfl rfl
   ·have D:=q.alZ;have G:=f.js q.ok;rw[n,o,dQ];simp only[];rw[MU VW VW];refine lT.yes rfl rfl hu (.two (.inr rfl) i q.ty) ?_;rw[Fm.dM];simp only[ee];omega
  ·have b:eD c 0 1=some 3:=b;rw[b,dI,dR aar,kg VW];exact lT.no aar rfl rfl
 ·rw[dR (by rw[ez];exact d),jn d];exact lT.no d rfl rfl
def afI(n:Nat)(c:dS)(a b:Pf):en (n+1) c (.mk 7 0 .z [] [] [a,b])=dV (eu n c a) λd f=>if(eL f 0) then some (iK,[],f)else if(eL d.d_.alX 3) then some (iK,[],10)else dV (eu n c b) λh i=>if(eL i 0) then some (iK,[],i)else dH (dX d.d_.alY 1) λj=>dH (gu d.jX h.jX) λk=>dH (dX d.d_.alY 0) λl=>dH (lu l h.d_) λo=>some (j,k,o):=by rw[en];rfl
def R9(L:List Fm)(a b:Pf)(g:List Ty)(hs:List Fm):pX L 7 0 .z [] [] (Pf.vp L [a,b]) g hs=pbind (GF (a.inf L g hs) 3) λa m=>pbind (b.inf L g hs) λb n=>jI (Az (a.alY.getD 0 iK) b) (.inl (a.alY.getD 1 iK,m|||n)):=rfl
def U_{L:List Fm}{a b:Pf}{N:Nat}(B:jl L a N)(C:jl L b N):jl L (.mk 7 0 .z [] [] [a,b]) (N+5):=by
 refine jl.of λn' D c h=>?_;rw[afI,R9];rcases mZ (B (n'+3) VW c h) 3 with⟨e,he,i,d⟩|⟨f,m,l,i,d,hu,n,o⟩
 ·rw[i];rcases d with d|⟨f,l,m,d,o,rfl,_⟩
  ·rw[d,dQ,dR (by rw[ez];exact he)];exact lT.no he rfl rfl
  ·rw[d,dQ,dK aar,dR (by rw[ez];exact o)];exact lT.no he rfl rfl
 ·obtain⟨x,y,rfl,u,v⟩:=n.ty.G7 o (.inr rfl);have r:=n.sub (x:=x) aaA u;have s:=n.sub (x:=y) aaA v;have F:=x.js u.ok;have G:=r.alZ;rw[i,d,dQ,dK aar,dK aaA,fl];rcases C (n'+3) VW c h with⟨e,he,i,d⟩|⟨t,J,K,i,d,j,k⟩
  ·rw[i,d,dQ,dR (by rw[ez];exact he)];exact lT.no he rfl rfl
  ·have w:=k.alZ;have A:=t.js k.ok;obtain⟨q,q1,M,H,_⟩:=hu.union j (by have:=hu.len;omega) (by have:=j.len;omega);have I:=Sl (a:=x) (b:=t) VW VW;rw[i,d,dQ,dK aar,fl];simp only[Fm.eG,eY,iE,lX,rz,dI,AH,Rq];rw[q1,I,dI,dI]
   by_cases hm:Az x t=0
   ·rw[fS hm,hm];exact lT.yes rfl rfl H v (by have:=s.alZ;omega)
   ·rw[jn hm];exact lT.no hm rfl rfl
def Us.has{l:List Int}{m:Nat}(h:Us l m):rX l=some (m.testBit 0)/\eL (Cz .u32 (m:Int) 1) 0=m.testBit 0:=by
 have hm:=h.mem 0;constructor
 ·unfold rX;simp only[ef];cases l with
  |nil=>simp_all|cons a l=>
   rw[dR aaA];simp only[eY,lX,dI]
   congr 1
   rw[HM,gh,<-hm];constructor
   ·rintro rfl;simp
   ·intro hh;rcases mb.1 hh with hh|hh
    ·exact hh.symm
    ·cases h.srt with
     |cons s1 _=>
      have:=s1 0 (by simpa using hh);have:=h.pos a aaA;omega
 ·rw[show(1:Int)=((1:Nat):Int)from rfl,V1 h.lt VW];rw[HM,ez,Nat.testBit_zero,Nat.and_one_is_mod];simp only[oI];omega
def afk(n:Nat)(c:dS)(s:Ty)(a:Pf):en (n+2) c (.mk 8 0 s [] [] [a])=eT (dH (eD c 1 0) λo=>if(eL o 0) then some (iK,[],o)else dH (fx c [s]) λj=>dV (eu n j a) λb d=>if(eL d 0) then some (iK,[],d)else dH (nO 4 s b.d_) λk=>dH (gy b.jX 1) λl=>some (k,l,0)) λf h i=>some (f,h,i):=by
 rw[en];rw[mY];rfl
def aaQ(n:Nat)(c:dS)(s:Ty)(a:Pf):en (n+2) c (.mk 12 0 s [] [] [a])=eT (dH (eD c 1 0) λq=>if(eL q 0) then some (iK,[],q)else dH (fx c [s]) λj=>dV (eu n j a) λb d=>if(eL d 0) then some (iK,[],d)else dH (rX b.jX) λk=>if k then some (iK,[],12)else dH (nO 6 s b.d_) λl=>dH (gy b.jX 1) λo=>some (l,o,0)) λf h i=>some (f,h,i):=by
 rw[en];rw[mY];rfl
def GG(L:List Fm)(s:Ty)(a:Pf)(g:List Ty)(hs:List Fm):pX L 8 0 s [] [] (Pf.vp L [a]) g hs=v7 (16<g.length+1) 3 (pbind (a.inf L (g++[s]) (hs.map (Fm.up 0 1))) λb m=>.inl (.mk 4 s [] [b],m/2)):=rfl
def MK(L:List Fm)(s:Ty)(a:Pf)(g:List Ty)(hs:List Fm):pX L 12 0 s [] [] (Pf.vp L [a]) g hs=v7 (16<g.length+1) 3 (pbind (a.inf L (g++[s]) (hs.map (Fm.up 0 1))) λb m=>v7 (m.testBit 0=true) 12 (.inl (.mk 6 s [] [b],m/2))):=rfl
def U0{L:List Fm}{s:Ty}(hs:s.err=0){a:Pf}{N:Nat}(o:jl L a N):jl L (.mk 8 0 s [] [] [a]) (N+5):=by
 refine jl.of λn' r c h=>?_;rw[show n'+4=n'+2+2 from rfl,afk,GG];rcases h.room (v:=1) (k:=0) VW VW with⟨b,n,_⟩|⟨b,n⟩
 ·have b:eD c 1 0=some 0:=b;rw[b,dI,dK nz,hD VW];obtain⟨t,u,w,x,y⟩:=h.below hs n;rw[u,dI];have hi:=o (n'+2) VW t w;rw[x,y] at hi;rcases hi with⟨e,he,d,i⟩|⟨f,m,l,d,i,hu,j⟩
  ·rw[d,i,dQ,dR (by rw[ez];exact he)];exact lT.no he rfl rfl
  ·have A:=j.alZ;have B:=f.js j.ok;have C:=fg hs;obtain⟨u1,u3⟩:=hu.out (by have:=hu.len;omega) (k:=1) VW;rw[d,i,dQ,dK nz,fl];simp only[];rw[Uk VW VW,dI,show(1:Int)=((1:Nat):Int)from rfl,u1];refine lT.yes rfl rfl u3 (.q (.inl rfl) hs j.ty) ?_;rw[Fm.dM];simp only[ee];omega
 ·have b:eD c 1 0=some 3:=b;have D:=h.pl.nh;rw[b,dI,dR aar,kg VW];exact lT.no aar rfl rfl
def Rj{L:List Fm}{s:Ty}(hs:s.err=0){a:Pf}{N:Nat}(r:jl L a N):jl L (.mk 12 0 s [] [] [a]) (N+5):=by
 refine jl.of λn' t c h=>?_;rw[show n'+4=n'+2+2 from rfl,aaQ,MK];rcases h.room (v:=1) (k:=0) VW VW with⟨b,o,_⟩|⟨b,o⟩
 ·have b:eD c 1 0=some 0:=b;rw[b,dI,dK nz,hD VW];obtain⟨u,w,x,y,A⟩:=h.below hs o;rw[w,dI];have hi:=r (n'+2) VW u x;rw[y,A] at hi;rcases hi with⟨e,he,i,j⟩|⟨f,m,l,i,j,hu,n⟩
  ·rw[i,j,dQ,dR (by rw[ez];exact he)];exact lT.no he rfl rfl
  ·have B:=n.alZ;have C:=f.js n.ok;have D:=fg hs;obtain⟨u1,u3⟩:=hu.out (by have:=hu.len;omega) (k:=1) VW;obtain⟨F,H⟩:=hu.has;rw[i,j,dQ,dK nz,fl];simp only[];rw[F,dI]
   by_cases d:m.testBit 0=true
   ·rw[kg d,dR d];exact lT.no aar rfl rfl
   ·rw[hD d,dK d,Uk VW VW,dI,show(1:Int)=((1:Nat):Int)from rfl,u1];refine lT.yes rfl rfl u3 (.q (.inr (.inr (.inl rfl))) hs n.ty) ?_;rw[Fm.dM];simp only[ee];omega
 ·have b:eD c 1 0=some 3:=b;have G:=h.pl.nh;rw[b,dI,dR aar,kg VW];exact lT.no aar rfl rfl
theorem QY(a b:Ty):a.kc b=b.kc a:=by grind[Ty.kK]
def yY{a b:Ty}(c:a.err=0)(d:b.err=0):fv FU b a=some (a.kc b):=by
 have f:=fg c;have h:=fg d
 grind[dI,iJ,QY]
def ah1(n:Nat)(c:dS)(t:Tm)(a:Pf):en (n+2) c (.mk 9 0 .z [t] [] [a])=eT (dV (iZ c.al1 t) λu s=>if(eL s 0) then some (iK,[],s)else dV (eu n c a) λb d=>if(eL d 0) then some (iK,[],d)else dH (kB t) λj=>dH (gu b.jX j) λk=>if(eL b.d_.alX 4) then some (iK,[],10)else dH (fv FU b.d_.dN u) λl=>if l then dH (dX b.d_.alY 0) λo=>dV (jB o t) λq r=>some (q,k,r)else some (iK,[],7)) λf h i=>some (f,h,i):=by
 rw[en];rw[nQ];rfl
def aeb(n:Nat)(c:dS)(t:Tm)(a:Pf):en (n+2) c (.mk 13 0 .z [t] [] [a])=eT (dV (iZ c.al1 t) λs r=>if(eL r 0) then some (iK,[],r)else dV (eu n c a) λb d=>if(eL d 0) then some (iK,[],d)else dH (kB t) λj=>dH (gu b.jX j) λu=>if(eL b.d_.alX 6) then some (iK,[],10)else dH (fv FU b.d_.dN s) λk=>if k then dH (dX b.d_.alY 0) λl=>dV (jB l t) λo q=>some (o,b.jX,q)else some (iK,[],7)) λf h i=>some (f,h,i):=by
 rw[en];rw[nQ];rfl
def Xs(L:List Fm)(t:Tm)(a:Pf)(g:List Ty)(hs:List Fm):pX L 9 0 .z [t] [] (Pf.vp L [a]) g hs=jI (t.ty g).2 (pbind (GF (a.inf L g hs) 4) λa m=>v7 ((t.ty g).1.kc a.dN=false) 7 (jI (kM (a.alY.getD 0 iK) t).2 (.inl ((kM (a.alY.getD 0 iK) t).1,m|||tg t)))):=rfl
def Q_(L:List Fm)(t:Tm)(a:Pf)(g:List Ty)(hs:List Fm):pX L 13 0 .z [t] [] (Pf.vp L [a]) g hs=jI (t.ty g).2 (pbind (GF (a.inf L g hs) 6) λa m=>v7 ((t.ty g).1.kc a.dN=false) 7 (jI (kM (a.alY.getD 0 iK) t).2 (.inl ((kM (a.alY.getD 0 iK) t).1,m)))):=rfl
def wX{t:Tm}(a:t.err=0){g:List Ty}(b:jc g):(∃e,e≠0/\(t.ty g).2=e/\∃z,t.ty g=(z,e))\/∃s,t.ty g=(s,0)/\dU g t s/\s.err=0:=by
 obtain⟨s,e,c⟩:∃s e,t.ty g=(s,e):=⟨_,_,rfl⟩
 by_cases he:e=0
 ·subst he;obtain⟨d,f⟩:=qR _ t (g_ _) (Tm.ig a).1 g b s c
  grind
 ·grind
def XS{L:List Fm}{t:Tm}(d:t.err=0){a:Pf}{N:Nat}(C:jl L a N):jl L (.mk 9 0 .z [t] [] [a]) (N+5):=by
 refine jl.of λn' D c h=>?_;have j:=h.pl.nv;rw[show n'+4=n'+2+2 from rfl,ah1,Xs,rU h.pl.ctx j d];rcases wX d h.pl.ctx with⟨e,he,q1,z,F⟩|⟨s,q1,k,hs⟩
 ·rw[F,dQ,dR (by rw[ez];exact he),jn he];exact lT.no he rfl rfl
 ·obtain⟨H,f2,f3⟩:=yi j k d;rw[q1,dQ,dK nz,fS rfl];rcases mZ (C (n'+2) VW c h) 4 with⟨e,he,n,i⟩|⟨f,m,l,n,i,hu,w,o⟩
  ·rw[n];rcases i with i|⟨f,l,m,i,o,rfl,hu⟩
   ·rw[i,dQ,dR (by rw[ez];exact he)];exact lT.no he rfl rfl
   ·obtain⟨q,u1,_⟩:=hu.union f3 (by have:=hu.len;omega) (by have:=f3.len;omega);rw[i,dQ,dK nz,f2,dI,u1,dI,dR (by rw[ez];exact o)];exact lT.no he rfl rfl
  ·obtain⟨y,x,rfl,r,A⟩:=w.ty.w8 o (.inl rfl);have u:=w.sub (x:=x) aaA A;obtain⟨q,u1,u2,u3,_⟩:=hu.union f3 (by have:=hu.len;omega) (by have:=f3.len;omega);rw[n,i,dQ,dK nz,f2,dI,fl];simp only[Fm.eK,Fm.fM,Fm.eG,eY,lX,dI,AH];rw[u1,dI,dK (show¬eL 4 4=true by decide),yY hs r,dI]
   by_cases b:s.kc y=true
   ·have:=(Ty.kK s y).1 b;subst this;have B:td c.al1 x t:=⟨u.err,d,s,A,k⟩;rw[hD (by rw[b];decide),dR b,B.both VW];rcases mw x t with v|⟨G,v⟩
    ·rw[v,dQ,jn aar];exact lT.no aar rfl rfl
    ·rw[v,dQ,fS rfl];exact lT.yes (f:=Fm.gp 0 x t) rfl rfl u3 B.put VW
   ·rw[kg (by simpa using b),dK b];exact lT.no aar rfl rfl
def TS{L:List Fm}{t:Tm}(d:t.err=0){a:Pf}{N:Nat}(C:jl L a N):jl L (.mk 13 0 .z [t] [] [a]) (N+5):=by
 refine jl.of λn' D c h=>?_;have j:=h.pl.nv;rw[show n'+4=n'+2+2 from rfl,aeb,Q_,rU h.pl.ctx j d];rcases wX d h.pl.ctx with⟨e,he,q1,z,F⟩|⟨s,q1,k,hs⟩
 ·rw[F,dQ,dR (by rw[ez];exact he),jn he];exact lT.no he rfl rfl
 ·obtain⟨H,f2,f3⟩:=yi j k d;rw[q1,dQ,dK nz,fS rfl];rcases mZ (C (n'+2) VW c h) 6 with⟨e,he,n,i⟩|⟨f,m,l,n,i,hu,w,o⟩
  ·rw[n];rcases i with i|⟨f,l,m,i,o,rfl,hu⟩
   ·rw[i,dQ,dR (by rw[ez];exact he)];exact lT.no he rfl rfl
   ·obtain⟨q,u1,_⟩:=hu.union f3 (by have:=hu.len;omega) (by have:=f3.len;omega);rw[i,dQ,dK nz,f2,dI,u1,dI,dR (by rw[ez];exact o)];exact lT.no he rfl rfl
  ·obtain⟨y,x,rfl,r,A⟩:=w.ty.w8 o (.inr (.inr (.inl rfl)));have u:=w.sub (x:=x) aaA A;obtain⟨q,u1,_⟩:=hu.union f3 (by have:=hu.len;omega) (by have:=f3.len;omega);rw[n,i,dQ,dK nz,f2,dI,fl];simp only[Fm.eK,Fm.fM,Fm.eG,eY,lX,dI,AH];rw[u1,dI,dK (show¬eL 6 6=true by decide),yY hs r,dI]
   by_cases b:s.kc y=true
   ·have:=(Ty.kK s y).1 b;subst this;have B:td c.al1 x t:=⟨u.err,d,s,A,k⟩;rw[hD (by rw[b];decide),dR b,B.both VW];rcases mw x t with v|⟨G,v⟩
    ·rw[v,dQ,jn aar];exact lT.no aar rfl rfl
    ·rw[v,dQ,fS rfl];exact lT.yes (f:=Fm.gp 0 x t) rfl rfl hu B.put VW
   ·rw[kg (by simpa using b),dK b];exact lT.no aar rfl rfl
def adK(n:Nat)(c:dS)(t:Tm)(F:Fm)(a:Pf):en (n+2) c (.mk 10 0 .z [t] [F] [a])=eT (dH (ka c.al1 F) λb=>if(eL b 0) then some (iK,[],b)else if(eL F.alX 5) then some (iK,[],10)else dV (iZ c.al1 t) λj d=>if(eL d 0) then some (iK,[],d)else dH (fv FU F.dN j) λk=>if k then dH (dX F.alY 0) λl=>dV (e_ n c a l t) λo q=>dH (kB t) λr=>dH (gu o r) λs=>some (F,s,q)else some (iK,[],7)) λf h i=>some (f,h,i):=by
 rw[en];rw[nW];rfl
def aer(n:Nat)(c:dS)(t:Tm)(F:Fm)(a:Pf):en (n+2) c (.mk 14 0 .z [t] [F] [a])=eT (dH (ka c.al1 F) λb=>if(eL b 0) then some (iK,[],b)else if(eL F.alX 7) then some (iK,[],10)else dV (iZ c.al1 t) λj d=>if(eL d 0) then some (iK,[],d)else dH (fv FU F.dN j) λk=>if k then dH (dX F.alY 0) λl=>dV (e_ n c a l t) λo q=>some (F,o,q)else some (iK,[],7)) λf h i=>some (f,h,i):=by
 rw[en];rw[nW];rfl
def ME(L:List Fm)(t:Tm)(F:Fm)(a:Pf)(g:List Ty)(hs:List Fm):pX L 10 0 .z [t] [F] (Pf.vp L [a]) g hs=jI (F.yG g) (v7 (F.alX≠5) 10 (jI (t.ty g).2 (v7 ((t.ty g).1.kc F.dN=false) 7 (pbind (B7 (a.inf L g hs) (F.alY.getD 0 iK) t) λ_ m=>.inl (F,m|||tg t))))):=rfl
def RX(L:List Fm)(t:Tm)(F:Fm)(a:Pf)(g:List Ty)(hs:List Fm):pX L 14 0 .z [t] [F] (Pf.vp L [a]) g hs=jI (F.yG g) (v7 (F.alX≠7) 10 (jI (t.ty g).2 (v7 ((t.ty g).1.kc F.dN=false) 7 (pbind (B7 (a.inf L g hs) (F.alY.getD 0 iK) t) λ_ m=>.inl (F,m))))):=rfl
def T1{L:List Fm}{t:Tm}(i:t.err=0){F:Fm}(hF:F.err=0){a:Pf}{N:Nat}(D:jl L a N):jl L (.mk 10 0 .z [t] [F] [a]) (N+5):=by
 refine jl.of λn' G c h=>?_;have j:=h.pl.nv;obtain⟨_,t2⟩:=tl h.pl.ctx VW hF;have H:=(Fm.ig hF).2;rw[show n'+4=n'+2+2 from rfl,adK,ME,rU h.pl.ctx j i,t2 j,dI]
 by_cases k:F.yG c.al1=0
 ·have r:¬eL (F.yG c.al1) 0=true:=by rw[ez];simpa using k
  rw[dK r,fS k];have b:=rP F (Fm.ig hF).1 c.al1 h.pl.ctx k
  by_cases n:F.alX=5
  ·have r:¬eL F.alX 5=true:=by rw[ez];simpa using n
   rw[dK r,hD (by simpa using n)];rcases wX i h.pl.ctx with⟨e,he,q1,z,I⟩|⟨s,q1,o,hs⟩
   ·rw[I,dQ,dR (by rw[ez];exact he),jn he];exact lT.no he rfl rfl
   ·obtain⟨u,x,rfl,v,C⟩:=b.w8 n (.inr (.inl rfl));have w:Hg c.al1 (.mk 5 u [] [x]):=⟨hF,b⟩;have y:=w.sub (x:=x) aaA C;obtain⟨K,f2,f3⟩:=yi j o i;rw[q1,dQ,dK nz,fS rfl];simp only[Fm.eK,Fm.fM,Fm.eG,eY,lX,dI,AH];rw[yY hs v,dI]
    by_cases d:s.kc u=true
    ·have:=(Ty.kK s u).1 d;subst this;have J:td c.al1 x t:=⟨y.err,i,s,C,o⟩;rw[hD (by rw[d];decide),dR d];rcases tw j (D (n'+1) VW c h) J with⟨e,l,m,he,A,B,hu⟩|⟨f,m,l,A,B,hu⟩
     ·obtain⟨q,u1,_⟩:=hu.union f3 (by have:=hu.len;omega) (by have:=f3.len;omega);rw[A,B,dQ,f2,dI,u1];exact lT.no he rfl rfl
     ·obtain⟨q,u1,u2,u3,_⟩:=hu.union f3 (by have:=hu.len;omega) (by have:=f3.len;omega);rw[A,B,dQ,f2,dI,fl];rw[u1];exact lT.yes rfl rfl u3 b VW
    ·rw[kg (by simpa using d),dK d];exact lT.no aar rfl rfl
  ·rw[dR (by rw[ez];exact n),kg n];exact lT.no aar rfl rfl
 ·rw[dR (by rw[ez];exact k),jn k];exact lT.no k rfl rfl
def UA{L:List Fm}{t:Tm}(i:t.err=0){F:Fm}(hF:F.err=0){a:Pf}{N:Nat}(C:jl L a N):jl L (.mk 14 0 .z [t] [F] [a]) (N+5):=by
 refine jl.of λn' D c h=>?_;have j:=h.pl.nv;obtain⟨_,t2⟩:=tl h.pl.ctx VW hF;have G:=(Fm.ig hF).2;rw[show n'+4=n'+2+2 from rfl,aer,RX,rU h.pl.ctx j i,t2 j,dI]
 by_cases k:F.yG c.al1=0
 ·have o:¬eL (F.yG c.al1) 0=true:=by rw[ez];simpa using k
  rw[dK o,fS k];have b:=rP F (Fm.ig hF).1 c.al1 h.pl.ctx k
  by_cases n:F.alX=7
  ·have o:¬eL F.alX 7=true:=by rw[ez];simpa using n
   rw[dK o,hD (by simpa using n)];rcases wX i h.pl.ctx with⟨e,he,q1,z,H⟩|⟨s,q1,q,hs⟩
   ·rw[H,dQ,dR (by rw[ez];exact he),jn he];exact lT.no he rfl rfl
   ·obtain⟨r,x,rfl,u,B⟩:=b.w8 n (.inr (.inr (.inr rfl)));have v:Hg c.al1 (.mk 7 r [] [x]):=⟨hF,b⟩;have w:=v.sub (x:=x) aaA B;rw[q1,dQ,dK nz,fS rfl];simp only[Fm.eK,Fm.fM,Fm.eG,eY,lX,dI,AH];rw[yY hs u,dI]
    by_cases d:s.kc r=true
    ·have:=(Ty.kK s r).1 d;subst this;have I:td c.al1 x t:=⟨w.err,i,s,B,q⟩;rw[hD (by rw[d];decide),dR d];rcases tw j (C (n'+1) VW c h) I with⟨e,l,m,he,y,A,hu⟩|⟨f,m,l,y,A,hu⟩
     ·rw[y,A,dQ];exact lT.no he rfl rfl
     ·rw[y,A,dQ,fl];skip;exact lT.yes rfl rfl hu b VW
    ·rw[kg (by simpa using d),dK d];exact lT.no aar rfl rfl
  ·rw[dR (by rw[ez];exact n),kg n];exact lT.no aar rfl rfl
 ·rw[dR (by rw[ez];exact k),jn k];exact lT.no k rfl rfl
def SH(k:Fm->Option (Fm×List Int×Int))(f:Fm):Option (Fm×List Int×Int):=
 dH (qc FU f 0) λc=>if c then dV (nc FU f) λa b=>if(eL b 0) then some (iK,[],b)else dH (qc FU a 0) λd=>if d then some (iK,[],6)else k (.mk a.alX (.mk a.dN.alX a.dN.alY) a.ei a.alY)else k (.mk f.alX (.mk f.dN.alX f.dN.alY) f.ei f.alY)
def Yl(n:Nat)(c:dS)(a b:Pf):en (n+2) c (.mk 11 0 .z [] [] [a,b])=eT (dV (eu n c a) λd h=>if(eL h 0) then some (iK,[],h)else if(eL d.d_.alX 5) then some (iK,[],10)else dH (eD c 1 1) λi=>if(eL i 0) then some (iK,[],i)else dH (fx c [d.d_.dN]) λu=>dH (dX d.d_.alY 0) λv=>dH (gn u v) λw=>dV (eu n w b) λj k=>if(eL k 0) then some (iK,[],k)else SH (λf=>dH (iD FU f 1 (-1)) λl=>dH (gy j.jX 1) λo=>dH (gu d.jX o) λq=>some (l,q,0)) j.d_) λr s t=>some (r,s,t):=by
 rw[en];rw[mD];rfl
def YR(n:Nat)(c:dS)(a b:Pf):en (n+2) c (.mk 15 0 .z [] [] [a,b])=eT (dV (eu n c a) λd i=>if(eL i 0) then some (iK,[],i)else if(eL d.d_.alX 7) then some (iK,[],10)else dH (eD c 1 1) λj=>if(eL j 0) then some (iK,[],j)else dH (fx c [d.d_.dN]) λv=>dH (dX d.d_.alY 0) λw=>dH (gn v w) λx=>dV (eu n x b) λh k=>if(eL k 0) then some (iK,[],k)else SH (λf=>dH (rX h.jX) λl=>if l then some (iK,[],12)else dH (iD FU f 1 (-1)) λo=>dH (gy h.jX 1) λq=>dH (gu d.jX q) λr=>some (o,r,0)) h.d_) λs t u=>some (s,t,u):=by
 rw[en];rw[mD];rfl
def FD(L:List Fm)(a b:Pf)(g:List Ty)(hs:List Fm):pX L 11 0 .z [] [] (Pf.vp L [a,b]) g hs=pbind (GF (a.inf L g hs) 5) λa m=>v7 (16<g.length+1\/16<hs.length+1) 3 (pbind (b.inf L (g++[a.dN]) (hs.map (Fm.up 0 1)++[a.alY.getD 0 iK])) λb n=>jI (xj b).2 (.inl ((xj b).1,m|||n/2))):=rfl
def IV(L:List Fm)(a b:Pf)(g:List Ty)(hs:List Fm):pX L 15 0 .z [] [] (Pf.vp L [a,b]) g hs=pbind (GF (a.inf L g hs) 7) λa m=>v7 (16<g.length+1\/16<hs.length+1) 3 (pbind (b.inf L (g++[a.dN]) (hs.map (Fm.up 0 1)++[a.alY.getD 0 iK])) λb n=>jI (xj b).2 (v7 (n.testBit 0=true) 12 (.inl ((xj b).1,m|||n/2)))):=rfl
def Pw{g:List Ty}{s:Ty}{f:Fm}(h:Hg (g++[s]) f)(hg:g.length<=1000)(k:Fm->Option (Fm×List Int×Int))(k':Fm->Option (Fm×List Int×Int))(l:∀x,x.al5 0=0->x.alZ<=4096*4096->x.al3 1000000000000=true->k x=k' (x.up 1 (-1))):SH k f=if(xj f).2=0 then k' (xj f).1 else some (iK,[],(xj f).2):=by
 have hn:=h.alZ;have o:f.al3 1000000000000=true:=h.ty.al3 _ abu;unfold SH;rw[D8 FU f 0 (by rw[fI];omega) VW VW VW,dI,Ty.gM,Fm.gM]
 by_cases j:f.al5 0=0
 ·have hw:xj f=(f.up 1 (-1),0):=by unfold xj;rw[dR j]
  grind
 ·rw[dR (show decide (0<f.al5 0)=true by simp;omega),HS FU f (by rw[fI];omega) VW (Yc.of f hn h.ok (h.ty.al3 _ abu))];obtain⟨a,b,d⟩:∃a b,f.tD 0=(a,b):=⟨_,_,rfl⟩
  have hw:xj f=if b≠0 then(iK,b)else if a.al5 0≠0 then(iK,6)else(a.up 1 (-1),0):=by unfold xj;rw[dK j,d]
  rw[d];simp only[]
  by_cases he:b=0
  ·subst he;have c:=Xv h.ty 0 abu hn (by rw[d]);rw[d] at c;obtain⟨_,a2,a3⟩:=c;have a2:iW (g++[s]) a:=a2;have a3:a.alZ<=3000*f.alZ:=a3;rw[dK aar] at hw;rw[dR rfl,dQ,dK nz,D8 FU a 0 (by rw[fI];omega) VW VW VW,dI,Ty.gM,Fm.gM]
   by_cases i:a.al5 0=0
   ·rw[dK (by simpa using i)] at hw;rw[hw,dK (show¬(decide (0<a.al5 0)=true) by simp;omega)];exact(l a i VW (a2.al3 _ abu)).trans (dR rfl).symm
   ·rw[dR i] at hw;rw[hw,dR (show decide (0<a.al5 0)=true by simp;omega)];rfl
  ·rw[dR he] at hw
   have n:eL b 0=true:=by rw[ez];exact he
   rw[hw,dK he,dQ,dR n,dK he]
def N6{L:List Fm}{a b:Pf}{N:Nat}(G:jl L a N)(H:jl L b N):jl L (.mk 11 0 .z [] [] [a,b]) (N+5):=by
 refine jl.of λn' I c h=>?_;have J:=h.pl.nv;rw[show n'+4=n'+2+2 from rfl,Yl,FD];rcases mZ (G (n'+2) VW c h) 5 with⟨e,he,i,d⟩|⟨f,m,l,i,d,hu,A,t⟩
 ·rw[i];rcases d with d|⟨f,l,m,d,t,rfl,_⟩
  ·rw[d,dQ,dR (by rw[ez];exact he)];exact lT.no he rfl rfl
  ·rw[d,dQ,dK nz,dR (by rw[ez];exact t)];exact lT.no he rfl rfl
 ·obtain⟨s,x,rfl,hs,K⟩:=A.ty.w8 t (.inr (.inl rfl));have u:=A.sub (x:=x) aaA K;rw[i,d,dQ,dK nz,dK aaA,fl];simp only[Fm.fM,Fm.eG,eY,lX,dI,AH];rcases h.room (v:=1) (k:=1) VW VW with⟨j,B,M⟩|⟨j,B⟩
  ·have j:eD c 1 1=some 0:=j;rw[j,dI,dK nz,hD VW];obtain⟨W,O,P,C,D⟩:=h.below hs B;obtain⟨Q,R,S,T,U⟩:=P.with (f:=x) (by rw[C];exact u) (by rw[D];simpa using M);rw[O,dI,R,dI];have hi:=H (n'+2) VW Q S;rw[T,U,C,D] at hi;rcases hi with⟨e,he,i,d⟩|⟨V,X,F,i,d,o,r⟩
   ·rw[i,d,dQ,dR (by rw[ez];exact he)];exact lT.no he rfl rfl
   ·obtain⟨u1,u3⟩:=o.out (by have:=o.len;omega) (k:=1) VW;have u1:gy F 1=some (yx ((1:Nat):Int) F):=u1;obtain⟨q,v1,v2,v3,_⟩:=hu.union u3 (by have:=hu.len;omega) (by have:=u3.len;omega);rw[i,d,dQ,dK nz,fl];simp only[]
    rw[Pw r VW _ (λy=>some (y,q,0)) (λy Y Z y3=>by
     rw[D5 FU y 1 (by rw[fI];omega) VW VW VW y3,dI,u1,dI,v1,dI])]
    obtain⟨w,e,hw⟩:∃w e,xj V=(w,e):=⟨_,_,rfl⟩;rw[hw]
    by_cases he:e=0
    ·subst he;have n:=JK r VW hs (by rw[hw]);rw[hw] at n;rw[dR rfl,fS rfl];exact lT.yes rfl rfl v3 n.1 (by have:=n.2;omega)
    ·rw[dK he,jn he];exact lT.no he rfl rfl
  ·have j:eD c 1 1=some 3:=j;rw[j,dI,dR aar,kg VW];exact lT.no aar rfl rfl
def Oa{L:List Fm}{a b:Pf}{N:Nat}(K:jl L a N)(r:jl L b N):jl L (.mk 15 0 .z [] [] [a,b]) (N+5):=by
 refine jl.of λn' M c h=>?_;have O:=h.pl.nv;rw[show n'+4=n'+2+2 from rfl,YR,IV];rcases mZ (K (n'+2) VW c h) 7 with⟨e,he,i,d⟩|⟨f,m,l,i,d,hu,B,u⟩
 ·rw[i];rcases d with d|⟨f,l,m,d,u,rfl,_⟩
  ·rw[d,dQ,dR (by rw[ez];exact he)];exact lT.no he rfl rfl
  ·rw[d,dQ,dK nz,dR (by rw[ez];exact u)];exact lT.no he rfl rfl
 ·obtain⟨s,x,rfl,hs,P⟩:=B.ty.w8 u (.inr (.inr (.inr rfl)));have A:=B.sub (x:=x) aaA P;rw[i,d,dQ,dK nz,dK aaA,fl];simp only[Fm.fM,Fm.eG,eY,lX,dI,AH];rcases h.room (v:=1) (k:=1) VW VW with⟨j,C,Q⟩|⟨j,C⟩
  ·have j:eD c 1 1=some 0:=j;rw[j,dI,dK nz,hD VW];obtain⟨D,R,S,F,G⟩:=h.below hs C;obtain⟨H,T,U,V,W⟩:=S.with (f:=x) (by rw[F];exact A) (by rw[G];simpa using Q);rw[R,dI,T,dI];have hi:=r (n'+2) VW H U;rw[V,W,F,G] at hi;rcases hi with⟨e,he,i,d⟩|⟨X,I,J,i,d,n,t⟩
   ·rw[i,d,dQ,dR (by rw[ez];exact he)];exact lT.no he rfl rfl
   ·obtain⟨u1,u3⟩:=n.out (by have:=n.len;omega) (k:=1) VW;have u1:gy J 1=some (yx ((1:Nat):Int) J):=u1;obtain⟨q,v1,v2,v3,_⟩:=hu.union u3 (by have:=hu.len;omega) (by have:=u3.len;omega);rw[i,d,dQ,dK nz,fl];simp only[];skip;obtain⟨D,H⟩:=n.has
    rw[Pw t VW _ (λy=>if I.testBit 0 then some (iK,[],12)else some (y,q,0)) (λy Y Z y3=>by
     rw[D,dI,D5 FU y 1 (by rw[fI];omega) VW VW VW y3,dI,u1,dI,v1,dI])]
    obtain⟨w,e,hw⟩:∃w e,xj X=(w,e):=⟨_,_,rfl⟩;rw[hw]
    by_cases he:e=0
    ·subst he;have o:=JK t VW hs (by rw[hw]);rw[hw] at o;rw[dR rfl,fS rfl]
     by_cases r:I.testBit 0=true
     ·rw[kg r,dR r];exact lT.no aar rfl rfl
     ·rw[hD r,dK r];exact lT.yes rfl rfl v3 o.1 (by have:=o.2;omega)
    ·rw[dK he,jn he];exact lT.no he rfl rfl
  ·have j:eD c 1 1=some 3:=j;rw[j,dI,dR aar,kg VW];exact lT.no aar rfl rfl
def jc.nat{g:List Ty}(h:jc g):jc (g++[.nat]):=h.app Ty.fW
def jc.lD{g:List Ty}(h:jc g):jc (g++[.lD]):=h.app Ty.ph
def Cj{g:List Ty}(d:jc g){t:Tm}(f:t.err=0){s:Ty}(hs:s=.nat\/s=.lD)(h:qQ t g s.alX=0):dU g t s:=by
 rcases wX f d with⟨e,he,q1,z,j⟩|⟨b,q1,i,a⟩
 ·unfold qQ at h
  grind
 ·unfold qQ at h;rw[q1] at h
  by_cases c:b.alX=s.alX
  ·have:b=s:=by
    rcases hs with rfl|rfl
    ·exact(wy a).1 c
    ·exact(Fw a).1 c
   rwa [<-this]
  ·grind
def Es{F:Fm}(hF:F.err=0)(a:F.al3 1000000000=true){f c:Nat}(b:f<=100)(d:c<=100):qh F (f:Int) (c:Int)=some (F.up f c)/\iD FU F (f:Int) (c:Int)=some (F.up f c):=by
 obtain⟨a1,a2⟩:=Fm.ig hF;exact⟨CF a1 VW (Fm.mu _ VW a) VW VW VW VW,Bz FU F f c (by rw[fI];omega) VW VW VW VW VW (Fm.mu _ VW a)⟩
def D0{F:Fm}(hF:F.err=0){f c:Int}(a:0<=f)(b:0<=c):(F.up f c).err=0:=by grind[Fm.ig,Fm.err,Fm.Pd,Fm.nd]
def ahZ:iF.err=0:=aar
def ace:(Tm.mk 7 0 .z []).err=0:=aar
def af1:(gE v0).err=0:=aar
def afS:(Tm.mk 8 0 .z [v1,v0]).err=0:=aar
def Vk{L:List Fm}{c:dS}(h:PG L c)(hn:c.al1.length+2<=16):∃a,fx c [.nat,.lD]=some a/\PG L a/\a.al1=c.al1++[.nat]++[.lD]/\a.al4=c.al4.map (Fm.up 0 2):=by
 obtain⟨a,b,d,f,i⟩:=h.V9 (l:=[.nat,.lD]) (λx hx=>by
  rcases mb.1 hx with rfl|hx
  ·exact Ty.fW
  ·rw[EY.1 hx];exact Ty.ph) hn
 grind
def Z2(n:Nat)(c:dS)(t:Tm)(F:Fm)(a b:Pf):en (n+2) c (.mk 16 0 .z [t] [F] [a,b])=eT (gG (fN c.al1 [.nat])<|dH (kP (fU c.al1 [.nat]) F) λf=>if(eL f 0) then some (iK,[],f)else dH (hR c t 1) λh=>if(eL h 0) then some (iK,[],h)else dH (fT 4 []) λD=>dV (e_ n c a F D) λG i=>if(eL i 0) then some (iK,[],i)else dH (eD c 1 1) λj=>if(eL j 0) then some (iK,[],j)else dH (fx c [.nat]) λk=>dH (gn k F) λl=>dH (iD FU F 1 1) λo=>dH (fT 5 [v0]) λq=>dV (e_ n l b o q) λr d=>if(eL d 0) then some (iK,[],d)else dV (jB F t) λs u=>dH (kB t) λv=>dH (gu v G) λw=>dH (gy r 1) λx=>dH (gu w x) λy=>some (s,y,u)) λA B C=>some (A,B,C):=by
 rw[en];rw[pb];rfl
def ab'(n:Nat)(c:dS)(t:Tm)(F:Fm)(a b:Pf):en (n+2) c (.mk 17 0 .z [t] [F] [a,b])=eT (gG (fN c.al1 [.lD])<|dH (kP (fU c.al1 [.lD]) F) λf=>if(eL f 0) then some (iK,[],f)else dH (hR c t 2) λh=>if(eL h 0) then some (iK,[],h)else dH (fT 7 []) λG=>dV (e_ n c a F G) λH i=>if(eL i 0) then some (iK,[],i)else dH (eD c 2 1) λj=>if(eL j 0) then some (iK,[],j)else dH (fx c [.nat,.lD]) λk=>dH (iD FU F 1 1) λl=>dH (gn k l) λo=>dH (iD FU F 1 2) λq=>dH (fT 8 [v1,v0]) λr=>dV (e_ n o b q r) λs d=>if(eL d 0) then some (iK,[],d)else dV (jB F t) λu v=>dH (kB t) λw=>dH (gu w H) λx=>dH (gy s 2) λy=>dH (gu x y) λA=>some (u,A,v)) λB C D=>some (B,C,D):=by
 rw[en];rw[nM];rfl
def Ip(L:List Fm)(t:Tm)(F:Fm)(a b:Pf)(g:List Ty)(hs:List Fm):pX L 16 0 .z [t] [F] (Pf.vp L [a,b]) g hs=jI (F.yG (g++[.nat])) (jI (qQ t g 1) (pbind (B7 (a.inf L g hs) F iF) λ_ m=>v7 (16<g.length+1\/16<hs.length+1) 3 (pbind (B7 (b.inf L (g++[.nat]) (hs.map (Fm.up 0 1)++[F])) (F.up 1 1) (gE v0)) λ_ n=>jI (kM F t).2 (.inl ((kM F t).1,(tg t|||m)|||n/2))))):=rfl
def MF(L:List Fm)(t:Tm)(F:Fm)(a b:Pf)(g:List Ty)(hs:List Fm):pX L 17 0 .z [t] [F] (Pf.vp L [a,b]) g hs=jI (F.yG (g++[.lD])) (jI (qQ t g 2) (pbind (B7 (a.inf L g hs) F (.mk 7 0 .z [])) λ_ m=>v7 (16<g.length+2\/16<hs.length+1) 3 (pbind (B7 (b.inf L (g++[.nat]++[.lD]) (hs.map (Fm.up 0 2)++[F.up 1 1])) (F.up 1 2) (.mk 8 0 .z [v1,v0])) λ_ n=>jI (kM F t).2 (.inl ((kM F t).1,(tg t|||m)|||n/4))))):=rfl
def R_{L:List Fm}{t:Tm}(i:t.err=0){F:Fm}(hF:F.err=0){a b:Pf}{N:Nat}(V:jl L a N)(W:jl L b N):jl L (.mk 16 0 .z [t] [F] [a,b]) (N+5):=by
 refine jl.of λn' X c h=>?_;have n:=h.pl.nv;have D:=h.pl.ctx;have Y:=(Fm.ig hF).2;obtain⟨t2,_⟩:=tl D.nat abu hF;have s2:=has_both D n rfl i 1;rw[show n'+4=n'+2+2 from rfl,Z2,Ip,fm abu,ed,iv,t2,dI,s2,dI]
 by_cases u:F.yG (c.al1++[.nat])=0
 ·have y:=u;rw[<-xk (a:=_=_),<-ne_eq,<-ez] at y;rw[dK y,fS u];have d:=rP F (Fm.ig hF).1 _ D.nat u;have I:F.al3 1000000000=true:=d.al3 _ abu
  by_cases x:qQ t c.al1 1=0
  ·have y:=x;rw[<-xk (a:=_=_),<-ne_eq,<-ez] at y;rw[dK y,fS x];have A:dU c.al1 t .nat:=Cj D i (.inl rfl) x;have J:td c.al1 F iF:=⟨hF,ahZ,.nat,d,.zero⟩;rw[show fT 4 []=some iF from Bm,dI];rcases tw n (V (n'+1) VW c h) J with⟨e,l,m,he,j,o,hu⟩|⟨f,m,l,j,o,hu⟩
   ·rw[j,o,dQ,dR (by rw[ez];exact he)];exact lT.no he rfl rfl
   ·rw[j,o,dQ,dK nz,fl];rcases h.room (v:=1) (k:=1) VW VW with⟨r,S,Z⟩|⟨r,S⟩
    ·have r:eD c 1 1=some 0:=r;rw[r,dI,dK nz,hD VW];obtain⟨c1,e2,e3,G,K⟩:=h.below Ty.fW S;obtain⟨H,b2,T,M,U⟩:=e3.with (f:=F) (by rw[G];exact⟨hF,d⟩) (by rw[K];simpa using Z);have l3:iD FU F 1 1=some (F.up 1 1):=(Es hF I (f:=1) (c:=1) VW VW).2;rw[e2,dI,b2,dI,l3,dI];rw[show fT 5 [v0]=some (gE v0)from OK aar,dI];have hi:=W (n'+1) VW H T;have O:H.al1.length<=16:=T.pl.nv
     have B:H.al1=c.al1++[.nat]:=by rw[M,G]
     have P:td H.al1 (F.up 1 1) (gE v0):=⟨D0 hF VW VW,af1,.nat,by
      rw[B];have:=d.up c.al1 [.nat] [.nat] rfl
      simpa using this,by rw[B];exact .succ hU⟩
     rcases tw O hi P with⟨e,Q,m',he,j,o,s⟩|⟨f',m',Q,j,o,s⟩
     ·rw[M,U,G,K] at j;rw[j,o,dQ,dR (by rw[ez];exact he)];exact lT.no he rfl rfl
     ·rw[M,U,G,K] at j;obtain⟨lf,f2,f3⟩:=yi n A i;have C:td c.al1 F t:=⟨hF,i,.nat,d,A⟩;obtain⟨u1,u3⟩:=s.out (by have:=s.len;omega) (k:=1) VW;have u1:gy Q 1=some (yx ((1:Nat):Int) Q):=u1;obtain⟨q,v1,v2,v3,_⟩:=f3.union hu (by have:=f3.len;omega) (by have:=hu.len;omega);obtain⟨q',w1,w2,w3,_⟩:=v3.union u3 (by have:=v3.len;omega) (by have:=u3.len;omega);rw[j,o,dQ,dK nz,fl,C.both VW];obtain⟨w,e,hw⟩:∃w e,kM F t=(w,e):=⟨_,_,rfl⟩;rw[hw,dQ,f2,dI,v1,dI,u1,dI,w1,dI];simp only[];skip;rcases mw F t with R|⟨ad,R⟩
      ·rw[R] at hw;obtain⟨rfl,rfl⟩:=iU hw;rw[jn aar];exact lT.no aar rfl rfl
      ·rw[R] at hw;obtain⟨rfl,rfl⟩:=iU hw;rw[fS rfl];exact lT.yes (f:=Fm.gp 0 F t) rfl rfl w3 C.put VW
    ·have r:eD c 1 1=some 3:=r;rw[r,dI,dR aar,kg VW];exact lT.no aar rfl rfl
  ·rw[dR (by rw[ez];exact x),jn x];exact lT.no x rfl rfl
 ·rw[dR (by rw[ez];exact u),jn u];exact lT.no u rfl rfl
def Sc{L:List Fm}{t:Tm}(i:t.err=0){F:Fm}(hF:F.err=0){a b:Pf}{N:Nat}(V:jl L a N)(W:jl L b N):jl L (.mk 17 0 .z [t] [F] [a,b]) (N+5):=by
 refine jl.of λn' X c h=>?_;have n:=h.pl.nv;have G:=h.pl.ctx;have Y:=(Fm.ig hF).2;obtain⟨t2,_⟩:=tl G.lD abu hF;have s2:=has_both G n rfl i 2;rw[show n'+4=n'+2+2 from rfl,ab',MF,fm abu,ed,iv,t2,dI,s2,dI]
 by_cases u:F.yG (c.al1++[.lD])=0
 ·have y:=u;rw[<-xk (a:=_=_),<-ne_eq,<-ez] at y;rw[dK y,fS u];have d:=rP F (Fm.ig hF).1 _ G.lD u;have A:F.al3 1000000000=true:=d.al3 _ abu
  by_cases x:qQ t c.al1 2=0
  ·have y:=x;rw[<-xk (a:=_=_),<-ne_eq,<-ez] at y;rw[dK y,fS x];have B:dU c.al1 t .lD:=Cj G i (.inr rfl) x;have J:td c.al1 F (.mk 7 0 .z []):=⟨hF,ace,.lD,d,.nil⟩;rw[show fT 7 []=some (.mk 7 0 .z [])from Bm,dI];rcases tw n (V (n'+1) VW c h) J with⟨e,l,m,he,j,o,hu⟩|⟨f,m,l,j,o,hu⟩
   ·rw[j,o,dQ,dR (by rw[ez];exact he)];exact lT.no he rfl rfl
   ·rw[j,o,dQ,dK nz,fl];rcases h.room (v:=2) (k:=1) VW VW with⟨r,S,Z⟩|⟨r,S⟩
    ·have r:eD c 2 1=some 0:=r;rw[r,dI,dK nz,hD VW];obtain⟨c1,e2,e3,H,K⟩:=Vk h S;obtain⟨I,b2,T,M,U⟩:=e3.with (f:=F.up 1 1) (by rw[H];exact⟨D0 hF VW VW,by have:=d.up c.al1 [.lD] [.nat] rfl;simpa using this⟩) (by rw[K];simpa using Z);have l3:iD FU F 1 1=some (F.up 1 1):=(Es hF A (f:=1) (c:=1) VW VW).2;have l4:iD FU F 1 2=some (F.up 1 2):=(Es hF A (f:=1) (c:=2) VW VW).2;rw[e2,dI,l3,dI,b2,dI,l4,dI];rw[show fT 8 [v1,v0]=some (.mk 8 0 .z [v1,v0])from wW aar aar,dI];have hi:=W (n'+1) VW I T;have O:I.al1.length<=16:=T.pl.nv
     have C:I.al1=c.al1++[.nat]++[.lD]:=by rw[M,H]
     have P:td I.al1 (F.up 1 2) (.mk 8 0 .z [v1,v0]):=⟨D0 hF VW VW,afS,.lD,by
      rw[C];have:=d.up c.al1 [.lD] [.nat,.lD] rfl
      simpa using this,by rw[C];exact .cons oe hU⟩
     rcases tw O hi P with⟨e,Q,m',he,j,o,s⟩|⟨f',m',Q,j,o,s⟩
     ·rw[M,U,H,K] at j;rw[j,o,dQ,dR (by rw[ez];exact he)];exact lT.no he rfl rfl
     ·rw[M,U,H,K] at j;obtain⟨lf,f2,f3⟩:=yi n B i;have D:td c.al1 F t:=⟨hF,i,.lD,d,B⟩;obtain⟨u1,u3⟩:=s.out (by have:=s.len;omega) (k:=2) VW;have u1:gy Q 2=some (yx ((2:Nat):Int) Q):=u1;obtain⟨q,v1,v2,v3,_⟩:=f3.union hu (by have:=f3.len;omega) (by have:=hu.len;omega);obtain⟨q',w1,w2,w3,_⟩:=v3.union u3 (by have:=v3.len;omega) (by have:=u3.len;omega);rw[j,o,dQ,dK nz,fl,D.both VW];obtain⟨w,e,hw⟩:∃w e,kM F t=(w,e):=⟨_,_,rfl⟩;rw[hw,dQ,f2,dI,v1,dI,u1,dI,w1,dI];simp only[];skip;rcases mw F t with R|⟨ad,R⟩
      ·rw[R] at hw;obtain⟨rfl,rfl⟩:=iU hw;rw[jn aar];exact lT.no aar rfl rfl
      ·rw[R] at hw;obtain⟨rfl,rfl⟩:=iU hw;rw[fS rfl];exact lT.yes (f:=Fm.gp 0 F t) rfl rfl w3 D.put VW
    ·have r:eD c 2 1=some 3:=r;rw[r,dI,dR aar,kg VW];exact lT.no aar rfl rfl
  ·rw[dR (by rw[ez];exact x),jn x];exact lT.no x rfl rfl
 ·rw[dR (by rw[ez];exact u),jn u];exact lT.no u rfl rfl
def Tm.oJ{t:Tm}(h:t.ok=true)(hn:t.alZ<=4096):t.err=0:=by grind[Tm.err]
def aew(n:Nat)(c:dS)(t:Tm):en (n+1) c (.mk 18 0 .z [t] [] [])=dH (yI t t) λa=>dH (hR c t 1) λb=>some (a,[],b):=by rw[en];rfl
def ND(L:List Fm)(t:Tm)(g:List Ty)(hs:List Fm):pX L 18 0 .z [t] [] (Pf.vp L []) g hs=jI (qQ t g 1) (.inl (.mk 1 .z [t,t] [],0)):=rfl
def Vd{L:List Fm}{t:Tm}(a:t.err=0):jl L (.mk 18 0 .z [t] [] []) 5:=by
 refine jl.of (N:=0) λn' _ c h=>?_;have f:=h.pl.nv;have i:=h.pl.ctx;obtain⟨a1,a2⟩:=Tm.ig a;have hw:=t.js a1;rw[show n'+4=n'+3+1 from rfl,aew,ND,has_both i f rfl a 1,ait VW VW,dI,dI]
 by_cases b:qQ t c.al1 1=0
 ·have d:dU c.al1 t .nat:=Cj i a (.inl rfl) b;rw[fS b,b];refine lT.yes rfl rfl .nil (.eq d d) ?_;rw[Fm.dM];simp only[ee];omega
 ·rw[jn b];exact lT.no b rfl rfl
def ab_(n:Nat)(c:dS)(F:Fm)(a b:Pf):en (n+2) c (.mk 19 0 .z [] [F] [a,b])=eT (gG (fN c.al1 [.nat])<|dH (kP (fU c.al1 [.nat]) F) λf=>if(eL f 0) then some (iK,[],f)else dV (eu n c a) λd h=>if(eL h 0) then some (iK,[],h)else if(eL d.d_.alX 1) then some (iK,[],10)else dH (dX d.d_.ei 0) λs=>dV (e_ n c b F s) λt i=>if(eL i 0) then some (iK,[],i)else dH (dX d.d_.ei 1) λj=>dV (jB F j) λk l=>some (k,t,l)) λo q r=>some (o,q,r):=by
 rw[en];rw[nP];rfl
def Iw(L:List Fm)(F:Fm)(a b:Pf)(g:List Ty)(hs:List Fm):pX L 19 0 .z [] [F] (Pf.vp L [a,b]) g hs=jI (F.yG (g++[.nat])) (pbind (GF (a.inf L g hs) 1) λa _=>pbind (B7 (b.inf L g hs) F (a.ei.getD 0 Tm.z)) λ_ n=>jI (kM F (a.ei.getD 1 Tm.z)).2 (.inl ((kM F (a.ei.getD 1 Tm.z)).1,n))):=rfl
def Rf{L:List Fm}{F:Fm}(hF:F.err=0){a b:Pf}{N:Nat}(G:jl L a N)(H:jl L b N):jl L (.mk 19 0 .z [] [F] [a,b]) (N+5):=by
 refine jl.of λn' I c h=>?_;have q:=h.pl.nv;have w:=h.pl.ctx;have J:=(Fm.ig hF).2;obtain⟨t2,_⟩:=tl w.nat abu hF;rw[show n'+4=n'+2+2 from rfl,ab_,Iw,fm abu,ed,iv,t2,dI]
 by_cases k:F.yG (c.al1++[.nat])=0
 ·have A:=k;rw[<-xk (a:=_=_),<-ne_eq,<-ez] at A;rw[dK A,fS k];have i:=rP F (Fm.ig hF).1 _ w.nat k;rcases mZ (G (n'+2) VW c h) 1 with⟨e,he,j,d⟩|⟨f,m,l,j,d,hu,B,r⟩
  ·rw[j];rcases d with d|⟨f,l,m,d,r,rfl,_⟩
   ·rw[d,dQ,dR (by rw[ez];exact he)];exact lT.no he rfl rfl
   ·rw[d,dQ,dK nz,dR (by rw[ez];exact r)];exact lT.no he rfl rfl
  ·obtain⟨x,y,rfl,C,D⟩:=B.ty.YW r;have n:=B.alZ;rw[Fm.dM] at n;simp only[ee] at n;have s:x.err=0:=Tm.oJ C.ok VW;have t:y.err=0:=Tm.oJ D.ok VW;have u:td c.al1 F x:=⟨hF,s,.nat,i,C⟩;have o:td c.al1 F y:=⟨hF,t,.nat,i,D⟩;rw[j,d,dQ,dK nz,dK aaA,fl];simp only[Fm.jN,eY,iE,lX,rz,dI,AH,Rq];rcases tw q (H (n'+1) VW c h) u with⟨e,l,m,he,j,d,hu⟩|⟨f,m,l,j,d,hu⟩
   ·rw[j,d,dQ,dR (by rw[ez];exact he)];exact lT.no he rfl rfl
   ·rw[j,d,dQ,dK nz,fl,o.both VW];rcases mw F y with v|⟨K,v⟩
    ·rw[v,dQ,jn aar];exact lT.no aar rfl rfl
    ·rw[v,dQ,fS rfl];exact lT.yes (f:=Fm.gp 0 F y) rfl rfl hu o.put VW
 ·rw[dR (by rw[ez];exact k),jn k];exact lT.no k rfl rfl
def chR(f:Fm)(l:List Int):Option (Fm×List Int×Int):=
 ej (λ(d:Bool)=>if d then some (iK,[],10)else dH (dX f.alY 0) λa=>dH (k6 f.dN a.dN) λb=>dH (iq b) λh=>if(eL h 0) then some (iK,[],4)else dH (dX a.alY 0) λi=>dH (iD FU i 2 1) λj=>dH (fT 3 [v1,v0]) λk=>dV (jB j k) λn o=>dH (nO 4 f.dN n) λq=>dH (nO 5 b q) λr=>some (r,l,o)) λc=>if(eL f.alX 4) then c true else dH (dX f.alY 0) λs=>c (eL s.alX 5)
def aaU{f:Fm}{l:List Int}(h:f.alX≠4):chR f l=some (iK,[],10):=by grind[eL,ez,chR,ef]
def acb{s:Ty}{x:Fm}{l:List Int}(h:x.alX≠5):chR (.mk 4 s [] [x]) l=some (iK,[],10):=by
 have r:eL x.alX 5=true:=by rw[ez];exact h
 have e:chR (.mk 4 s [] [x]) l=(λ(c:Bool)=>if c then some (iK,[],10)else dH (dX [x] 0) λa=>dH (k6 s a.dN) λb=>dH (iq b) λd=>if(eL d 0) then some (iK,[],4)else dH (dX a.alY 0) λf=>dH (iD FU f 2 1) λi=>dH (fT 3 [v1,v0]) λj=>dV (jB i j) λk n=>dH (nO 4 s k) λo=>dH (nO 5 b o) λq=>some (q,l,n)) (eL x.alX 5):=rfl
 grind
def ail{s u:Ty}{y:Fm}{l:List Int}:chR (.mk 4 s [] [.mk 5 u [] [y]]) l=dH (k6 s u) λa=>dH (iq a) λb=>if(eL b 0) then some (iK,[],4)else dH (iD FU y 2 1) λc=>dH (fT 3 [v1,v0]) λd=>dV (jB c d) λf h=>dH (nO 4 s f) λi=>dH (nO 5 a i) λj=>some (j,l,h):=rfl
def W_(n:Nat)(c:dS)(a:Pf):en (n+2) c (.mk 20 0 .z [] [] [a])=eT (dV (eu n c a) λb d=>if(eL d 0) then some (iK,[],d)else chR b.d_ b.jX) λf h i=>some (f,h,i):=by
 rw[en];rw[ni];rfl
def Jo(L:List Fm)(a:Pf)(g:List Ty)(hs:List Fm):pX L 20 0 .z [] [] (Pf.vp L [a]) g hs=pbind (GF (a.inf L g hs) 4) λa m=>v7 ((a.alY.getD 0 iK).alX≠5) 10 (v7 ((Ty.fn a.dN (a.alY.getD 0 iK).dN).err≠0) 4 (v7 ((kM (((a.alY.getD 0 iK).alY.getD 0 iK).up 2 1) (fi v1 v0)).2≠0) 4 (.inl (.mk 5 (Ty.fn a.dN (a.alY.getD 0 iK).dN) [] [.mk 4 a.dN [] [(kM (((a.alY.getD 0 iK).alY.getD 0 iK).up 2 1) (fi v1 v0)).1]],m)))):=rfl
def O9{L:List Fm}{a:Pf}{N:Nat}(F:jl L a N):jl L (.mk 20 0 .z [] [] [a]) (N+5):=by
 refine jl.of λn' G c h=>?_;have H:=h.pl.nv;rw[show n'+4=n'+2+2 from rfl,W_,Jo];rcases mZ (F (n'+2) VW c h) 4 with⟨e,he,n,i⟩|⟨f,m,l,n,i,hu,C,o⟩
 ·rw[n];rcases i with i|⟨f,l,m,i,o,rfl,_⟩
  ·rw[i,dQ,dR (by rw[ez];exact he)];exact lT.no he rfl rfl
  ·rw[i,dQ,dK nz,aaU o];exact lT.no he rfl rfl
 ·obtain⟨s,x,rfl,hs,D⟩:=C.ty.w8 o (.inl rfl);have r:=C.sub (x:=x) aaA D;rw[n,i,dQ,dK nz,fl]
  by_cases j:x.alX=5
  ·obtain⟨u,y,rfl,t,v⟩:=D.w8 j (.inr (.inl rfl));have d:=r.sub (x:=y) aaA v;have I:=fg hs;have J:=fg t;have K:=d.alZ
   have M:(Ty.fn s u).alZ<=1000:=by rw[Ty.iH];omega
   have k:y.al3 1000000000=true:=v.al3 _ abu;have S:qh y 2 1=some (y.up 2 1):=(Es d.err k (f:=2) (c:=1) VW VW).1;have O:iD FU y 2 1=some (y.up 2 1):=(Es d.err k (f:=2) (c:=1) VW VW).2
   have w:td (c.al1++[.fn s u]++[s]) (y.up 2 1) (fi v1 v0):=⟨D0 d.err VW VW,aar,u,by
    have:=v.up c.al1 [s,u] [.fn s u] aaA
    simpa using this,.app oe hU⟩
   have P:=w.both abu;have Q:=QU;have hw:=Fm.js _ w.put.ok;simp only[Fm.eG,Fm.fM,Fm.eK,AH];rw[hD aar,ail,iY VW VW,dI,kI VW,dI]
   by_cases b:(Ty.fn s u).err=0
   ·have A:¬eL (Ty.fn s u).err 0=true:=by rw[ez];simpa using b
    rw[dK A,hD (by simpa using b),O,dI,show fT 3 [v1,v0]=some (fi v1 v0)from wW aar aar,dI,P];rcases mw (y.up 2 1) (fi v1 v0)with B|⟨R,B⟩
    ·rw[B,dQ,kg aar,Uk VW VW,dI];rw[Uk VW (by rw[Fm.iG];simp only[ee];omega),dI];exact lT.no aar rfl rfl
    ·rw[B,dQ,hD (λh=>h rfl),Uk VW VW,dI];rw[Uk VW (by rw[Fm.iG];simp only[ee];omega),dI];refine lT.yes (f:=.mk 5 (.fn s u) [] [.mk 4 s [] [Fm.gp 0 (y.up 2 1) (fi v1 v0)]]) rfl rfl hu (.q (.inr (.inl rfl)) b (.q (.inl rfl) hs w.put)) ?_;rw[Fm.dM];simp only[ee];rw[Fm.dM];simp only[ee];omega
   ·have A:eL (Ty.fn s u).err 0=true:=by rw[ez];exact b
    rw[dR A,kg b];exact lT.no aar rfl rfl
  ·simp only[Fm.eG,AH];rw[acb j,kg j];exact lT.no aar rfl rfl
inductive BS:Pf->Prop
 |hyp {i}:0<=i->BS (.mk 1 i .z [] [] [])|mC {i}:0<=i->BS (.mk 2 i .z [] [] [])|IT {a b}:BS a->BS b->BS (.mk 3 0 .z [] [] [a,b])|and {k a}:k=4\/k=5->BS a->BS (.mk k 0 .z [] [] [a])|O8 {F a}:F.err=0->BS a->BS (.mk 6 0 .z [] [F] [a])|PE {a b}:BS a->BS b->BS (.mk 7 0 .z [] [] [a,b])|all {k s a}:k=8\/k=12->s.err=0->BS a->BS (.mk k 0 s [] [] [a])|ZG {k t a}:k=9\/k=13->t.err=0->BS a->BS (.mk k 0 .z [t] [] [a])|ex {k t F a}:k=10\/k=14->t.err=0->F.err=0->BS a->BS (.mk k 0 .z [t] [F] [a])|X9 {k a b}:k=11\/k=15->BS a->BS b->BS (.mk k 0 .z [] [] [a,b])|ind {k t F a b}:k=16\/k=17->t.err=0->F.err=0->BS a->BS b->BS (.mk k 0 .z [t] [F] [a,b])|refl {t}:t.err=0->BS (.mk 18 0 .z [t] [] [])|subst {F a b}:F.err=0->BS a->BS b->BS (.mk 19 0 .z [] [F] [a,b])|choice {a}:BS a->BS (.mk 20 0 .z [] [] [a])
mutual
def Pf.AJ:Pf->Nat
 |.mk _ _ _ _ _ l=>1+Pf.xi l
def Pf.xi:List Pf->Nat
 |[]=>0|p::l=>p.AJ+Pf.xi l
end
theorem jl.mono{L:List Fm}{P:Pf}{N M:Nat}(h:jl L P N)(a:N<=M):jl L P M:=λn' b=>h n' VW
def VZ{L:List Fm}{P:Pf}(h:BS P):jl L P (5*P.AJ):=by
 induction h with
 |hyp hi=>exact WK hi|mC hi=>exact YV hi|IT _ _ a b=>exact(Ud (a.mono (Rh _ _)) (b.mono (QI _ _))).mono (by simp only[Pf.AJ,Pf.xi];omega)|and c _ a=>
  rcases c with rfl|rfl
  ·exact(Ub a).mono (by simp only[Pf.AJ,Pf.xi];omega)
  ·exact(Un a).mono (by simp only[Pf.AJ,Pf.xi];omega)
 |O8 hF _ a=>exact(T' hF a).mono (by simp only[Pf.AJ,Pf.xi];omega)|PE _ _ a b=>exact(U_ (a.mono (Rh _ _)) (b.mono (QI _ _))).mono (by simp only[Pf.AJ,Pf.xi];omega)|all c hs _ a=>
  rcases c with rfl|rfl
  ·exact(U0 hs a).mono (by simp only[Pf.AJ,Pf.xi];omega)
  ·exact(Rj hs a).mono (by simp only[Pf.AJ,Pf.xi];omega)
 |ZG c d _ a=>
  rcases c with rfl|rfl
  ·exact(XS d a).mono (by simp only[Pf.AJ,Pf.xi];omega)
  ·exact(TS d a).mono (by simp only[Pf.AJ,Pf.xi];omega)
 |ex c d hF _ a=>
  rcases c with rfl|rfl
  ·exact(T1 d hF a).mono (by simp only[Pf.AJ,Pf.xi];omega)
  ·exact(UA d hF a).mono (by simp only[Pf.AJ,Pf.xi];omega)
 |X9 c _ _ a b=>
  rcases c with rfl|rfl
  ·exact(N6 (a.mono (Rh _ _)) (b.mono (QI _ _))).mono (by simp only[Pf.AJ,Pf.xi];omega)
  ·exact(Oa (a.mono (Rh _ _)) (b.mono (QI _ _))).mono (by simp only[Pf.AJ,Pf.xi];omega)
 |ind c d hF _ _ a b=>
  rcases c with rfl|rfl
  ·exact(R_ d hF (a.mono (Rh _ _)) (b.mono (QI _ _))).mono (by simp only[Pf.AJ,Pf.xi];omega)
  ·exact(Sc d hF (a.mono (Rh _ _)) (b.mono (QI _ _))).mono (by simp only[Pf.AJ,Pf.xi];omega)
 |refl d=>exact Vd d|subst hF _ _ a b=>exact(Rf hF (a.mono (Rh _ _)) (b.mono (QI _ _))).mono (by simp only[Pf.AJ,Pf.xi];omega)|choice _ a=>exact(O9 a).mono (by simp only[Pf.AJ,Pf.xi];omega)
mutual
def Pf.alZ:Pf->Nat
 |.mk _ _ _ ts fs l=>1+ee Tm.alZ ts+ee Fm.alZ fs+Pf.n9 l
def Pf.n9:List Pf->Nat
 |[]=>0|p::l=>p.alZ+Pf.n9 l
end
def Pf.r5:∀l:List Pf,Pf.n9 l=ee Pf.alZ l
 |[]=>by rw[Pf.n9];rfl|p::l=>by rw[Pf.n9,Pf.r5 l];rfl
theorem Pf.dM(k i:Int)(s:Ty)(ts:List Tm)(fs:List Fm)(l:List Pf):(Pf.mk k i s ts fs l).alZ=1+ee Tm.alZ ts+ee Fm.alZ fs+ee Pf.alZ l:=by rw[Pf.alZ,Pf.r5]
mutual
def Pf.wt:Pf->Nat
 |.mk _ _ s ts fs l=>1+s.alZ+ee Tm.wt ts+ee Fm.wt fs+Pf.Qv l
def Pf.Qv:List Pf->Nat
 |[]=>0|p::l=>p.wt+Pf.Qv l
end
def Pf.FT:∀l:List Pf,Pf.Qv l=ee Pf.wt l
 |[]=>by rw[Pf.Qv];rfl|p::l=>by rw[Pf.Qv,Pf.FT l];rfl
theorem Pf.iG(k i:Int)(s:Ty)(ts:List Tm)(fs:List Fm)(l:List Pf):(Pf.mk k i s ts fs l).wt=1+s.alZ+ee Tm.wt ts+ee Fm.wt fs+ee Pf.wt l:=by rw[Pf.wt,Pf.FT]
def Pf.kv(p:Pf):1<=p.wt:=by cases p;rw[Pf.iG];omega
def Pf.eM(p:Pf):1<=p.alZ:=by cases p;rw[Pf.dM];omega
def Pf.ind{p:Pf->Prop}(h:∀k i s ts fs l,(∀t∈l,p t)->p (.mk k i s ts fs l))(t:Pf):p t:=by
 match t with
 |.mk k i s ts fs l=>exact h k i s ts fs l λx a=>Pf.ind h x
termination_by SizeOf.sizeOf t
decreasing_by
 have:=afP a;simp only[Pf.mk.sizeOf_spec];omega
def Pf.im(p:Pf):p.alZ<=p.wt:=by
 induction p using Pf.ind with
 |h k i s ts fs l ih=>
  rw[Pf.dM,Pf.iG];have a:=k_ (l:=ts) (λx _=>Tm.im x);have b:=k_ (l:=fs) (λx _=>Fm.im x);have c:=k_ (l:=l) ih;omega
def Pf.sig(k:Int):Option (Bool×Bool×Nat×Nat×Nat):=
 if k=1\/k=2 then some (true,false,0,0,0)
 else if k=3\/k=7\/k=11\/k=15 then some (false,false,0,0,2)
 else if k=4\/k=5\/k=20 then some (false,false,0,0,1)
 else if k=6 then some (false,false,0,1,1)
 else if k=8\/k=12 then some (false,true,0,0,1)
 else if k=9\/k=13 then some (false,false,1,0,1)
 else if k=10\/k=14 then some (false,false,1,1,1)
 else if k=16\/k=17 then some (false,false,1,1,2)
 else if k=18 then some (false,false,1,0,0)
 else if k=19 then some (false,false,0,1,2)
 else none
def Pf.node(k i:Int)(s:Ty)(d nf f:Nat):Bool:=
 match Pf.sig k with
 |none=>false|some (h,ty,a,b,c)=>decide (d=a)&&decide (nf=b)&&decide (f=c)&&decide (0<=i)&&(h||decide (i=0))&&(if ty then decide (s.err=0)else s.r9)
mutual
def Pf.ok:Pf->Bool
 |.mk k i s ts fs l=>Pf.node k i s ts.length fs.length l.length&&ts.all Tm.ok&&fs.all Fm.ok&&Pf.Mc l
def Pf.Mc:List Pf->Bool
 |[]=>true|p::l=>p.ok&&Pf.Mc l
end
def Pf.AX:∀l:List Pf,Pf.Mc l=l.all Pf.ok
 |[]=>by rw[Pf.Mc];rfl|p::l=>by rw[Pf.Mc,Pf.AX l];rfl
theorem Pf.hI(k i:Int)(s:Ty)(ts:List Tm)(fs:List Fm)(l:List Pf):(Pf.mk k i s ts fs l).ok=(Pf.node k i s ts.length fs.length l.length&&ts.all Tm.ok&&fs.all Fm.ok&&l.all Pf.ok):=by rw[Pf.ok,Pf.AX]
def T8(t:Tm):Bool:=decide (t.alZ<=4096)
def UR(f:Fm):Bool:=decide (f.alZ<=4096)
mutual
def Pf.small:Pf->Bool
 |.mk _ _ _ ts fs l=>ts.all T8&&fs.all UR&&Pf.JW l
def Pf.JW:List Pf->Bool
 |[]=>true|p::l=>p.small&&Pf.JW l
end
def Pf.Mi:∀l:List Pf,Pf.JW l=l.all Pf.small
 |[]=>by rw[Pf.JW];rfl|p::l=>by rw[Pf.JW,Pf.Mi l];rfl
def Pf.BE(k i:Int)(s:Ty)(ts:List Tm)(fs:List Fm)(l:List Pf):(Pf.mk k i s ts fs l).small=(ts.all T8&&fs.all UR&&l.all Pf.small):=by rw[Pf.small,Pf.Mi]
def Pf.err(p:Pf):Int:=if p.ok then(if p.small=true/\p.alZ<=16384 then 0 else 4)else 2
def aeh{k:Int}(h:Pf.sig k≠none):k=1\/k=2\/k=3\/k=4\/k=5\/k=6\/k=7\/k=8\/k=9\/k=10\/k=11\/k=12\/k=13\/k=14\/k=15\/k=16\/k=17\/k=18\/k=19\/k=20:=by
 refine ab2 λhn=>h ?_;unfold Pf.sig;simp only[not_or] at hn;rw[dK VW,dK VW,dK VW,dK VW,dK VW,dK VW,dK VW,dK VW,dK VW,dK VW]
def OV{k:Int}(h:k<1\/20<k):Pf.sig k=none:=by
 unfold Pf.sig;rw[dK VW,dK VW,dK VW,dK VW,dK VW,dK VW,dK VW,dK VW,dK VW,dK VW]
def TU(k:Int):(Pf.sig k=none/\∃r,pA k=some (r,false))\/∃d ty a b c r,Pf.sig k=some (d,ty,a,b,c)/\pA k=some (r,true)/\r.al0=d/\r.typed=ty/\r.ei=((a:Nat):Int)/\r.fZ=((b:Nat):Int)/\r.alY=((c:Nat):Int):=by
 by_cases h:k<1\/20<k
 ·refine .inl ⟨OV h,?_⟩;unfold pA;rw[dR (by rw[l',tH,jR,jW];omega)];exact⟨_,rfl⟩
 ·have f:k=1\/k=2\/k=3\/k=4\/k=5\/k=6\/k=7\/k=8\/k=9\/k=10\/k=11\/k=12\/k=13\/k=14\/k=15\/k=16\/k=17\/k=18\/k=19\/k=20:=VW
  refine .inr ?_;rcases f with rfl|rfl|rfl|rfl|rfl|rfl|rfl|rfl|rfl|rfl|rfl|rfl|rfl|rfl|rfl|rfl|rfl|rfl|rfl|rfl<;>exact⟨_,_,_,_,_,_,rfl,rfl,rfl,rfl,rfl,rfl,rfl⟩
def Ri(k:Int):(Pf.sig k=none/\∃r,pT k=some (r,false))\/∃d ty a b c r,Pf.sig k=some (d,ty,a,b,c)/\pT k=some (r,true)/\r.al0=d/\r.NQ=ty/\r.ei=((a:Nat):Int)/\r.fZ=((b:Nat):Int)/\r.alY=((c:Nat):Int):=by
 by_cases h:k<1\/20<k
 ·refine .inl ⟨OV h,?_⟩;unfold pT;simp only[l',tH,gh];rw[dK VW,dK VW,dK VW,dK VW,dK VW,dK VW,dK VW,dK VW,dK VW,dK VW,dK VW];exact⟨_,rfl⟩
 ·have f:k=1\/k=2\/k=3\/k=4\/k=5\/k=6\/k=7\/k=8\/k=9\/k=10\/k=11\/k=12\/k=13\/k=14\/k=15\/k=16\/k=17\/k=18\/k=19\/k=20:=VW
  refine .inr ?_;rcases f with rfl|rfl|rfl|rfl|rfl|rfl|rfl|rfl|rfl|rfl|rfl|rfl|rfl|rfl|rfl|rfl|rfl|rfl|rfl|rfl<;>exact⟨_,_,_,_,_,_,rfl,rfl,rfl,rfl,rfl,rfl,rfl⟩
def jG{k i:Int}{s:Ty}{j nf l:Nat}(h:Pf.node k i s j nf l=true){n ty:Bool}{a b c:Nat}(hs:Pf.sig k=some (n,ty,a,b,c)):(j:Int)=a/\(nf:Int)=b/\(l:Int)=c/\0<=i/\(n=false->i=0)/\(ty=true->s.err=0)/\(ty=false->s=.mk 0 []):=by
 unfold Pf.node at h;rw[hs] at h;simp only[hE,oI,tH] at h;obtain⟨⟨⟨⟨⟨t,u⟩,v⟩,o⟩,q⟩,d⟩:=h;refine⟨VW,VW,VW,o,λr=>q.resolve_left (by simp[r]),λf=>?_,λf=>?_⟩
 ·rw[dR f] at d;simpa using d
 ·rw[dK (by simp[f])] at d;exact(Ty.mT s).1 d
def Pf.w(p:Pf):p.ok=true->p.small=true->BS p:=by
 induction p using Pf.ind with
 |h k i s ts fs l ih=>
  intro B hs;rw[Pf.hI] at B;rw[Pf.BE] at hs;simp only[hE,ll] at B hs;obtain⟨⟨⟨q,C⟩,D⟩,G⟩:=B;obtain⟨⟨s1,s2⟩,H⟩:=hs;have y:∀t∈ts,t.err=0:=λt v=>Tm.oJ (C t v) (by have:=s1 t v;simpa[T8] using this)
  have A:∀f∈fs,f.err=0:=λf v=>by
   have:=s2 f v;simp only[UR,oI] at this;unfold Fm.err;rw[dR (D f v),dK VW]
  have o:∀x∈l,BS x:=λx v=>ih x v (G x v) (H x v);clear ih C D G s1 s2 H;have I:=aeh (k:=k) (λhn=>by unfold Pf.node at q;rw[hn] at q;cases q);rcases I with rfl|rfl|rfl|rfl|rfl|rfl|rfl|rfl|rfl|rfl|rfl|rfl|rfl|rfl|rfl|rfl|rfl|rfl|rfl|rfl
  ·obtain⟨q1,c,d,r,j,u,n⟩:=jG q rfl;obtain rfl:=gv.1 q1;obtain rfl:=gv.1 c;obtain rfl:=gv.1 d;obtain rfl:=n rfl;exact .hyp r
  ·obtain⟨q1,c,d,r,j,u,n⟩:=jG q rfl;obtain rfl:=gv.1 q1;obtain rfl:=gv.1 c;obtain rfl:=gv.1 d;obtain rfl:=n rfl;exact .mC r
  ·obtain⟨q1,c,d,r,j,u,n⟩:=jG q rfl;obtain rfl:=gv.1 q1;obtain rfl:=gv.1 c;obtain⟨a,b,rfl⟩:=qk d;obtain rfl:=j rfl;obtain rfl:=n rfl;exact .IT (o a aaA) (o b aaA)
  ·obtain⟨q1,c,d,r,j,u,n⟩:=jG q rfl;obtain rfl:=gv.1 q1;obtain rfl:=gv.1 c;obtain⟨a,rfl⟩:=jw d;obtain rfl:=j rfl;obtain rfl:=n rfl;exact .and (.inl rfl) (o a aaA)
  ·obtain⟨q1,c,d,r,j,u,n⟩:=jG q rfl;obtain rfl:=gv.1 q1;obtain rfl:=gv.1 c;obtain⟨a,rfl⟩:=jw d;obtain rfl:=j rfl;obtain rfl:=n rfl;exact .and (.inr rfl) (o a aaA)
  ·obtain⟨q1,c,d,r,j,u,n⟩:=jG q rfl;obtain rfl:=gv.1 q1;obtain⟨F,rfl⟩:=jw c;obtain⟨a,rfl⟩:=jw d;obtain rfl:=j rfl;obtain rfl:=n rfl;exact .O8 (A F aaA) (o a aaA)
  ·obtain⟨q1,c,d,r,j,u,n⟩:=jG q rfl;obtain rfl:=gv.1 q1;obtain rfl:=gv.1 c;obtain⟨a,b,rfl⟩:=qk d;obtain rfl:=j rfl;obtain rfl:=n rfl;exact .PE (o a aaA) (o b aaA)
  ·obtain⟨q1,c,d,r,j,u,n⟩:=jG q rfl;obtain rfl:=gv.1 q1;obtain rfl:=gv.1 c;obtain⟨a,rfl⟩:=jw d;obtain rfl:=j rfl;exact .all (.inl rfl) (u rfl) (o a aaA)
  ·obtain⟨q1,c,d,r,j,u,n⟩:=jG q rfl;obtain⟨t,rfl⟩:=jw q1;obtain rfl:=gv.1 c;obtain⟨a,rfl⟩:=jw d;obtain rfl:=j rfl;obtain rfl:=n rfl;exact .ZG (.inl rfl) (y t aaA) (o a aaA)
  ·obtain⟨q1,c,d,r,j,u,n⟩:=jG q rfl;obtain⟨t,rfl⟩:=jw q1;obtain⟨F,rfl⟩:=jw c;obtain⟨a,rfl⟩:=jw d;obtain rfl:=j rfl;obtain rfl:=n rfl;exact .ex (.inl rfl) (y t aaA) (A F aaA) (o a aaA)
  ·obtain⟨q1,c,d,r,j,u,n⟩:=jG q rfl;obtain rfl:=gv.1 q1;obtain rfl:=gv.1 c;obtain⟨a,b,rfl⟩:=qk d;obtain rfl:=j rfl;obtain rfl:=n rfl;exact .X9 (.inl rfl) (o a aaA) (o b aaA)
  ·obtain⟨q1,c,d,r,j,u,n⟩:=jG q rfl;obtain rfl:=gv.1 q1;obtain rfl:=gv.1 c;obtain⟨a,rfl⟩:=jw d;obtain rfl:=j rfl;exact .all (.inr rfl) (u rfl) (o a aaA)
  ·obtain⟨q1,c,d,r,j,u,n⟩:=jG q rfl;obtain⟨t,rfl⟩:=jw q1;obtain rfl:=gv.1 c;obtain⟨a,rfl⟩:=jw d;obtain rfl:=j rfl;obtain rfl:=n rfl;exact .ZG (.inr rfl) (y t aaA) (o a aaA)
  ·obtain⟨q1,c,d,r,j,u,n⟩:=jG q rfl;obtain⟨t,rfl⟩:=jw q1;obtain⟨F,rfl⟩:=jw c;obtain⟨a,rfl⟩:=jw d;obtain rfl:=j rfl;obtain rfl:=n rfl;exact .ex (.inr rfl) (y t aaA) (A F aaA) (o a aaA)
  ·obtain⟨q1,c,d,r,j,u,n⟩:=jG q rfl;obtain rfl:=gv.1 q1;obtain rfl:=gv.1 c;obtain⟨a,b,rfl⟩:=qk d;obtain rfl:=j rfl;obtain rfl:=n rfl;exact .X9 (.inr rfl) (o a aaA) (o b aaA)
  ·obtain⟨q1,c,d,r,j,u,n⟩:=jG q rfl;obtain⟨t,rfl⟩:=jw q1;obtain⟨F,rfl⟩:=jw c;obtain⟨a,b,rfl⟩:=qk d;obtain rfl:=j rfl;obtain rfl:=n rfl;exact .ind (.inl rfl) (y t aaA) (A F aaA) (o a aaA) (o b aaA)
  ·obtain⟨q1,c,d,r,j,u,n⟩:=jG q rfl;obtain⟨t,rfl⟩:=jw q1;obtain⟨F,rfl⟩:=jw c;obtain⟨a,b,rfl⟩:=qk d;obtain rfl:=j rfl;obtain rfl:=n rfl;exact .ind (.inr rfl) (y t aaA) (A F aaA) (o a aaA) (o b aaA)
  ·obtain⟨q1,c,d,r,j,u,n⟩:=jG q rfl;obtain⟨t,rfl⟩:=jw q1;obtain rfl:=gv.1 c;obtain rfl:=gv.1 d;obtain rfl:=j rfl;obtain rfl:=n rfl;exact .refl (y t aaA)
  ·obtain⟨q1,c,d,r,j,u,n⟩:=jG q rfl;obtain rfl:=gv.1 q1;obtain⟨F,rfl⟩:=jw c;obtain⟨a,b,rfl⟩:=qk d;obtain rfl:=j rfl;obtain rfl:=n rfl;exact .subst (A F aaA) (o a aaA) (o b aaA)
  ·obtain⟨q1,c,d,r,j,u,n⟩:=jG q rfl;obtain rfl:=gv.1 q1;obtain rfl:=gv.1 c;obtain⟨a,rfl⟩:=jw d;obtain rfl:=j rfl;obtain rfl:=n rfl;exact .choice (o a aaA)
structure TR (d d':dY) (s:Bool) (n:Nat):Prop where
 lo:d.alZ<=d'.alZ
 hi:d'.alZ<=d.alZ+n
 eq:s=true->d'.alZ=d.alZ+n
 ja:d'.ja=(d.ja||!s)
def TR.trans{d c a:dY}{s f:Bool}{n n':Nat}(h:TR d c s n)(b:TR c a f n'):TR d a (s&&f) (n+n'):=by
 refine⟨by have:=h.lo;have:=b.lo;omega,by have:=h.hi;have:=b.hi;omega,λhs=>?_,?_⟩
 ·rw[hE] at hs;have:=h.eq hs.1;have:=b.eq hs.2;omega
 ·rw[b.ja,h.ja,Bool.not_and,Bool.or_assoc]
def z6{α:Type}{F:Int->α->dY->Option (gq dY (Bool×dY))}(ok small:α->Bool)(sz:α->Nat):∀(l:List α) (i:Nat) (d:dY),0<=d.alZ->d.alZ+ee sz l<=4000000000->(∀(j:Int) (x:α) (d:dY),x∈l->0<=d.alZ->d.alZ+sz x<=4000000000->if ok x then∃a,F j x d=some (.next a)/\TR d a (small x) (sz x)else∃a,F j x d=some (.ret (false,a)))->if l.all ok then∃a,fw F l i d=some (.inl a)/\TR d a (l.all small) (ee sz l)else∃a,fw F l i d=some (.inr (false,a))
 |[],i,d,_,_,_=>⟨d,rfl,⟨VW,by simp[ee],λ_=>by simp[ee],aaA⟩⟩|x::l,i,d,o,q,h=>by
  simp only[ee] at q;have b:=h i x d aaA o VW;rw[Oh]
  by_cases c:ok x=true
  ·rw[dR c] at b;obtain⟨d1,f,k⟩:=b;have ih:=z6 ok small sz l (i+1) d1 (by have:=k.lo;omega) (by have:=k.hi;omega) (λj y d r=>h j y d (by simp[r]));rw[fY,f];simp only[dI,fk,ee]
   by_cases n:l.all ok=true
   ·rw[dR n] at ih;obtain⟨d2,s,t⟩:=ih;rw[dR (by rw[hE];exact⟨c,n⟩)];exact⟨d2,s,k.trans t⟩
   ·grind
  ·rw[dK c] at b;obtain⟨d1,f⟩:=b;rw[dK (by rw[hE];exactλh=>c h.1),fY,f];exact⟨d1,rfl⟩
def LH{d:dY}{n e:Int}(a:-1000000000000<=d.alZ+n)(b:d.alZ+n<=1000000000000):hW d n e=some (eL e 2,⟨d.alZ+n,d.ja||eo e 4⟩):=by
 unfold hW;rw[gd VW VW];cases d.ja<;>rfl
def Tm.F9(t:Tm):t.err=2/\t.ok=false\/t.ok=true/\T8 t=true/\t.err=0\/t.ok=true/\T8 t=false/\t.err=4:=by
 unfold Tm.err T8;cases h:t.ok with
 |false=>grind|true=>grind
def Fm.F9(t:Fm):t.err=2/\t.ok=false\/t.ok=true/\UR t=true/\t.err=0\/t.ok=true/\UR t=false/\t.err=4:=by
 unfold Fm.err UR;cases h:t.ok with
 |false=>grind|true=>grind
def J8{sz:Nat}{e:Int}{ok small:Bool}(c:e=2/\ok=false\/ok=true/\small=true/\e=0\/ok=true/\small=false/\e=4)(hs:sz<=1000000000){d:dY}(f:0<=d.alZ)(i:d.alZ+sz<=4000000000):if ok then∃b,(dV (hW d (if e=0 then(sz:Int)else 0) e) λa d179=>if a then some (.next d179)else some ((.ret (false,d179)):gq dY (Bool×dY)))=some (.next b)/\TR d b small sz else∃b,(dV (hW d (if e=0 then(sz:Int)else 0) e) λa d179=>if a then some (.next d179)else some ((.ret (false,d179)):gq dY (Bool×dY)))=some (.ret (false,b)):=by
 rcases c with⟨rfl,rfl⟩|⟨rfl,rfl,rfl⟩|⟨rfl,rfl,rfl⟩
 ·exact⟨_,rfl⟩
 ·rw[dR rfl,dR rfl,LH VW VW,dQ,dR aar];refine⟨_,rfl,⟨?_,?_,λ_=>rfl,?_⟩⟩
  all_goals grind[eo]
 ·rw[dR rfl,dK aar,LH VW VW,dQ,dR aar];refine⟨_,rfl,⟨?_,?_,λh=>by(cases h),?_⟩⟩
  all_goals grind[eo]
def KF{h:Bool}{i a b c d nf f:Int}:fp true (fp (pg i 0) true (fp (eL i 0) (fp h (fp (eL d a) true (fp (eL nf b) true (eL f c))) true) (fp (eL d a) true (fp (eL nf b) true (eL f c))))) true=true↔¬(d=a/\nf=b/\f=c/\0<=i/\(h=true\/i=0)):=by
 grind[El,l',eL,Ch,jR]
def Jf{d:Bool}{i a b c f nf h:Int}:fp true (fp (eL f a) true (fp (eL nf b) true (fp (eL h c) true (fp (pg i 0) true (fp d false (eL i 0)))))) true=true↔¬(f=a/\nf=b/\h=c/\0<=i/\(d=true\/i=0)):=by
 cases d with
 |true=>
  grind[El,l',jR,ez]
 |false=>grind[El,Ch,l',jR,ez]
def Vx(ty:Bool)(s:Ty):Bool:=if ty then decide (s.err=0)else s.r9
theorem IB{k i:Int}{s:Ty}{d nf f:Nat}{h ty:Bool}{a b c:Nat}(hs:Pf.sig k=some (h,ty,a,b,c)):Pf.node k i s d nf f=true↔((d:Int)=a/\(nf:Int)=b/\(f:Int)=c/\0<=i/\(h=true\/i=0))/\Vx ty s=true:=by
 grind[Pf.node,Vx]
def TG(d:dY)(A s:Bool)(n:Nat)(o:Option (Bool×dY)):Prop:=(A=true->∃a,o=some (true,a)/\TR d a s n)/\(A=false->∃a,o=some (false,a))
theorem TG.no{d a:dY}{A s:Bool}{n:Nat}(h:A=false):TG d A s n (some (false,a)):=⟨λb=>(by rw[h] at b;cases b),λ_=>⟨a,rfl⟩⟩
def UN(n:Nat)(d:dY)(k i:Int)(s:Ty)(ts:List Tm)(fs:List Fm)(l:List Pf):iO (n+1) d (.mk k i s ts fs l)=(dV (pA k) λf L=>
 if(fp L (fp (pg i 0) true (fp (eL i 0) (fp f.al0 (fp (eL (eA ts) f.ei) true (fp (eL (eA fs) f.fZ) true (eL (eA l) f.alY))) true) (fp (eL (eA ts) f.ei) true (fp (eL (eA fs) f.fZ) true (eL (eA l) f.alY))))) true) then(
 some (false,d))
 else(ej (λ(F:dY)=>
 gG (eX ts)<|ej (λ(M:Int) (G:Tm)=>(λ(a:dY)=>
 dV (kC G) λj o=>
 dV (hW a j o) λq d179=>
 if q then(
 some (.next d179))
 else(some (.ret (false,d179)))):Int->Tm->(dY)->(Option (gq (dY) (Bool×dY)))) λt=>
 dH (fw t ts 0 F) (fO (λ(a:dY)=>
 gG (eX fs)<|ej (λ(J:Int) (u:Fm)=>(λ(b:dY)=>
 dV (iX u) λv w=>
 dV (hW b v w) λx d322=>
 if x then(
 some (.next d322))
 else(some (.ret (false,d322)))):Int->Fm->(dY)->(Option (gq (dY) (Bool×dY)))) λy=>
 dH (fw y fs 0 a) (fO (λ(b:dY)=>
 gG (eX l)<|ej (λ(K:Int) (A:Pf)=>(λ(c:dY)=>
 dV (iO n c A) λB h=>
 if B then(
 some (.next h))
 else(some (.ret (false,h)))):Int->Pf->(dY)->(Option (gq (dY) (Bool×dY)))) λC=>
 dH (fw C l 0 b) (fO (λ(c:dY)=>
 some (true,c)) (λr=>some r))) (λr=>some r))) (λr=>some r))) λD=>
 if f.typed then(
 dV (je s) λN H=>
 if(eL H 0) then(
 some (false,(dY.mk (eW .i64 d.alZ 1) d.ja)))
 else(D (dY.mk (eW .i64 d.alZ 1) d.ja)))
 else(dH (ov s) λI=>
 if I then(
 D (dY.mk (eW .i64 d.alZ 1) d.ja))
 else(some (false,(dY.mk (eW .i64 d.alZ 1) d.ja)))))):=by
 rw[iO];rfl
def YJ:∀(n:Nat) (P:Pf) (d:dY),P.wt<=n->P.wt<=1000000000->0<=d.alZ->d.alZ+P.alZ<=4000000000->TG d P.ok P.small P.alZ (iO n d P):=by
 intro n
 induction n with
 |zero=>intro P d h;have:=P.kv;omega
 |succ n ih=>
  intro P d hn hb h0 hd;cases P with
  |mk k i s ts fs l=>
   rw[Pf.iG] at hn hb;rw[Pf.dM] at hd|-;have af:=jr Tm.wt ts λt _=>t.kv;have ah:=jr Fm.wt fs λt _=>t.kv;have ai:=jr Pf.wt l λt _=>t.kv;have m1:=k_ (l:=ts) (λx _=>Tm.im x);have m2:=k_ (l:=fs) (λx _=>Fm.im x);have m3:=k_ (l:=l) (λx _=>Pf.im x);rw[Pf.hI,Pf.BE,UN];rcases TU k with⟨M,r,O⟩|⟨ix,ty,a,b,c,r,M,O,g1,g2,g3,g4,g5⟩
   ·rw[O,dQ,Ch,dR rfl];exact TG.no (by simp[Pf.node,M])
   ·rw[O,dQ,g1,g2,g3,g4,g5,fQ,fQ,fQ]
    by_cases N:(ts.length:Int)=a/\(fs.length:Int)=b/\(l.length:Int)=c/\0<=i/\(ix=true\/i=0)
    ·rw[dK (λh=>KF.1 h N)]
     have v:Pf.node k i s ts.length fs.length l.length=Vx ty s:=by
      rw[HM,IB M];exact⟨λh=>h.2,λh=>⟨N,h⟩⟩
     rw[v];cases f:Vx ty s with
     |false=>
      have e:∀j:dY->Option (Bool×dY),(if ty then dV (je s) λak Q=>if(eL Q 0) then some (false,(dY.mk (eW .i64 d.alZ 1) d.ja))else j (dY.mk (eW .i64 d.alZ 1) d.ja)else dH (ov s) λR=>if R then j (dY.mk (eW .i64 d.alZ 1) d.ja)else some (false,(dY.mk (eW .i64 d.alZ 1) d.ja)))=some (false,(dY.mk (eW .i64 d.alZ 1) d.ja)):=by grind[Vx,eL,ez,lI,dQ,sC,dI]
      refine wh (λ_=>False) (λ_ h=>h.elim) (λj _=>?_);rw[e j];exact TG.no aaA
     |true=>
      refine wh (λd1=>d1.alZ=d.alZ+1/\d1.ja=d.ja) (λd1 o=>?_) (λj hj=>?_)
      ·have t1:=z6 (F:=λ(an:Int) (S:Tm)=>(λ(w:dY)=>dV (kC S) λy A=>dV (hW w y A) λB d179=>if B then some (.next d179)else some (.ret (false,d179)))) Tm.ok T8 Tm.alZ ts 0 d1 VW VW (λj x d q q0 q1=>by
        have:=eF Tm.wt q;have:=x.im;rw[xJ VW,dQ]
        exact J8 x.F9 VW q0 q1)
       rw[et VW,ed,ef];cases a1:ts.all Tm.ok with
       |false=>
        rw[a1,dK aar] at t1;obtain⟨d2,T⟩:=t1;rw[T,dI,sV];exact TG.no aaA
       |true=>
        rw[a1,dR rfl] at t1;obtain⟨d2,T,U⟩:=t1;have u1:=U.lo;have u2:=U.hi;rw[T,dI,eC,et VW,ed,ef]
        have t2:=z6 (F:=λ(ad:Int) (C:Fm)=>(λ(D:dY)=>dV (iX C) λG H=>dV (hW D G H) λI d322=>if I then some (.next d322)else some (.ret (false,d322)))) Fm.ok UR Fm.alZ fs 0 d2 VW VW (λj x d q q0 q1=>by
         have:=eF Fm.wt q;have:=x.im;rw[u9 VW,dQ]
         exact J8 x.F9 VW q0 q1)
        cases a2:fs.all Fm.ok with
        |false=>
         rw[a2,dK aar] at t2;obtain⟨d3,V⟩:=t2;rw[V,dI,sV];exact TG.no aaA
        |true=>
         rw[a2,dR rfl] at t2;obtain⟨d3,V,W⟩:=t2;have u3:=W.lo;have u4:=W.hi;rw[V,dI,eC,et VW,ed,ef]
         have t3:=z6 (F:=λ(ae:Int) (J:Pf)=>(λ(K:dY)=>dV (iO n K J) λL u=>if L then some (.next u)else some (.ret (false,u)))) Pf.ok Pf.small Pf.alZ l 0 d3 VW VW (λj x d q q0 q1=>by
          have:=eF Pf.wt q;have:=eF Pf.alZ q;have:=x.im;have q:=ih x d VW VW q0 VW;cases ho:x.ok with
          |true=>
           obtain⟨X,Y,w2⟩:=q.1 ho;rw[dR rfl,Y,dQ,dR rfl];exact⟨X,rfl,w2⟩
          |false=>
           obtain⟨X,Y⟩:=q.2 ho;rw[dK aar,Y,dQ,dK aar]
           exact⟨X,rfl⟩)
         cases a3:l.all Pf.ok with
         |false=>
          rw[a3,dK aar] at t3;obtain⟨d4,Z⟩:=t3;rw[Z,dI,sV];exact TG.no aaA
         |true=>
          rw[a3,dR rfl] at t3;obtain⟨d4,Z,r4⟩:=t3;rw[Z,dI,eC];refine⟨λ_=>⟨d4,rfl,?_⟩,λh=>by simp at h⟩;have r0:TR d d1 true 1:=⟨VW,VW,λ_=>by omega,by simp[o.2]⟩;have:=((r0.trans U).trans W).trans r4;rw[HN] at this;exact this
      ·have o:=hj (dY.mk (eW .i64 d.alZ 1) d.ja) ⟨by show eW .i64 d.alZ 1=_;rw[gd VW VW],rfl⟩;unfold Vx at f
       by_cases ht:ty=true
       ·rw[dR ht] at f|-
        have hz:¬eL s.err 0=true:=by rw[ez];simpa using f
        rw[lI VW,dQ,dK hz];exact o
       ·rw[dK ht] at f|-;rw[sC,dI,f,dR rfl];exact o
    ·rw[dR (KF.2 N)];refine TG.no ?_
     have:Pf.node k i s ts.length fs.length l.length=false:=by
      rw[W4]
      exactλh=>N ((IB M).1 h).1
     rw[this];simp
def JA{P:Pf}(h:P.wt<=1000000000):rJ P=some P.err:=by
 have hn:=P.im;have b:=YJ FU P (dY.mk 0 false) (by rw[fI];omega) h (by show(0:Int)<=0;omega) (by show(0:Int)+_<=_;omega);unfold rJ re Pf.err;cases c:P.ok with
 |false=>
  obtain⟨a,e⟩:=b.2 c
  grind[dQ]
 |true=>
  obtain⟨a,e,r⟩:=b.1 c;rw[e,dQ,dR rfl,dR rfl];have d:a.ja=!P.small:=r.ja;rw[d,l'];cases hs:P.small with
  |false=>grind[dQ]|true=>
   have f:a.alZ=(0:Int)+P.alZ:=r.eq hs
   grind[iM,dQ]
def Vq(n:Nat)(k i:Int)(s:Ty)(ts:List Tm)(fs:List Fm)(l:List Pf):oh (n+1) (.mk k i s ts fs l)=(dV (pT k) λb A=>
 if(fp A (fp (eL (eA ts) b.ei) true (fp (eL (eA fs) b.fZ) true (fp (eL (eA l) b.alY) true (fp (pg i 0) true (fp b.al0 false (eL i 0)))))) true) then(
 some false)
 else(ej (λ(o:Bool)=>
 if o then(
 some false)
 else(gG (eX ts)<|ej (λ(B:Int) (q:Tm)=>(λ(_:Unit)=>
 dH (kO FU q) λt=>
 if t then(
 some (.next ()))
 else(some (.ret false))):Int->Tm->(Unit)->(Option (gq (Unit) (Bool)))) λu=>
 dH (fw u ts 0 ()) (fO (λ(_:Unit)=>
 gG (eX fs)<|ej (λ(C:Int) (v:Fm)=>(λ(_:Unit)=>
 dH (mm FU v) λc=>
 if c then(
 some (.next ()))
 else(some (.ret false))):Int->Fm->(Unit)->(Option (gq (Unit) (Bool)))) λd=>
 dH (fw d fs 0 ()) (fO (λ(_:Unit)=>
 gG (eX l)<|ej (λ(y:Int) (f:Pf)=>(λ(_:Unit)=>
 dH (oh n f) λh=>
 if h then(
 some (.next ()))
 else(some (.ret false))):Int->Pf->(Unit)->(Option (gq (Unit) (Bool)))) λj=>
 dH (fw j l 0 ()) (fO (λ(_:Unit)=>
 some true) (λr=>some r))) (λr=>some r))) (λr=>some r)))) λa=>
 if b.NQ then(
 dH (iq s) λw=>
 if(eL w 0) then(
 a true)
 else(a false))
 else(dH (pI s) λx=>
 a (lV x)))):=by
 rw[oh];rfl
def JP:∀(n:Nat) (P:Pf),P.wt<=n->P.wt<=1000000000->oh n P=some P.ok:=by
 intro n
 induction n with
 |zero=>intro P h;have:=P.kv;omega
 |succ n ih=>
  intro P hn B;cases P with
  |mk k i s ts fs l=>
   rw[Pf.iG] at hn B;have C:=jr Tm.wt ts λt _=>t.kv;have D:=jr Fm.wt fs λt _=>t.kv;have F:=jr Pf.wt l λt _=>t.kv;rw[Pf.hI,Vq];rcases Ri k with⟨w,r,y⟩|⟨H,ty,a,b,c,r,w,y,g1,g2,g3,g4,g5⟩
   ·rw[y,dQ,Ch,dR rfl];simp[Pf.node,w]
   ·rw[y,dQ,g1,g2,g3,g4,g5,fQ,fQ,fQ]
    by_cases A:(ts.length:Int)=a/\(fs.length:Int)=b/\(l.length:Int)=c/\0<=i/\(H=true\/i=0)
    ·rw[dK (λh=>Jf.1 h A)]
     have f:Pf.node k i s ts.length fs.length l.length=Vx ty s:=by
      rw[HM,IB w];exact⟨λh=>h.2,λh=>⟨A,h⟩⟩
     rw[f];refine wh (G:=λo=>o=some (Vx ty s&&ts.all Tm.ok&&fs.all Fm.ok&&l.all Pf.ok)) (λv=>v=!Vx ty s) (λv I=>?_) (λj J=>?_)
     ·rw[I];cases Vx ty s with
      |false=>rfl|true=>
       rw[dK aar,et VW,ed,ef,rh Tm.ok false ts 0 (λj x u=>by
        have:=eF Tm.wt u
        rw[yW VW,dI]),HN]
       cases ts.all Tm.ok with
       |false=>rfl|true=>
        rw[dR rfl,dI,eC,et VW,ed,ef,rh Fm.ok false fs 0 (λj x u=>by
         have:=eF Fm.wt u
         rw[A6 FU x (by rw[fI];omega) VW,dI]),HN]
        cases fs.all Fm.ok with
        |false=>rfl|true=>
         rw[dR rfl,dI,eC,et VW,ed,ef,rh Pf.ok false l 0 (λj x u=>by
          have:=eF Pf.wt u
          rw[ih x VW VW,dI]),HN]
         cases l.all Pf.ok with
         |false=>rfl|true=>rfl
     ·have d:=J (!Vx ty s) rfl;unfold Vx at d|-
      by_cases q:ty=true
      ·rw[dR q] at d;rw[dR q,dR q,kI VW,dI]
       grind[eL,ez]
      ·rw[dK q] at d;rw[dK q,dK q,xQ,dI,SM];exact d
    ·rw[dR (Jf.2 A)]
     grind[Pf.node,IB]
def Jt:∀(n:Nat) (P:Pf),P.wt<=n->P.wt<=1000000000->sa n P=some P.small:=by
 intro n
 induction n with
 |zero=>intro P h;have:=P.kv;omega
 |succ n ih=>
  intro P hn b;cases P with
  |mk k i s ts fs l=>
   rw[Pf.iG] at hn b;have c:=jr Tm.wt ts λt _=>t.kv;have d:=jr Fm.wt fs λt _=>t.kv;have f:=jr Pf.wt l λt _=>t.kv;rw[Pf.BE,sa];simp only[Pf.jN,Pf.PL,Pf.eG,ef]
   rw[et VW,ed,rh T8 false ts 0 (λj x a=>by
    have:=eF Tm.wt a;have:=x.im;rw[n5 FU x (by rw[fI];omega) VW,dI]
    by_cases hs:x.alZ<=4096
    ·grind[iM,T8]
    ·rw[dR (by rw[iM];omega),dK (by simpa[T8] using hs)])]
   cases ts.all T8 with
   |false=>rfl|true=>
    rw[dR rfl,dI,eC,et VW,ed,rh UR false fs 0 (λj x a=>by
     have:=eF Fm.wt a;have:=x.im;rw[sX FU x (by rw[fI];omega) VW,dI]
     by_cases hs:x.alZ<=4096
     ·rw[dK (by rw[iM];omega),dR (show UR x=true from AD hs)]
     ·rw[dR (by rw[iM];omega),dK (by simpa[UR] using hs)]),HN]
    cases fs.all UR with
    |false=>rfl|true=>
     rw[dR rfl,dI,eC,et VW,ed,rh Pf.small false l 0 (λj x a=>by
      have:=eF Pf.wt a
      rw[ih x VW VW,dI]),HN]
     cases l.all Pf.small with
     |false=>rfl|true=>rfl
theorem Kg:∀(n:Nat) (P:Pf),P.wt<=n->P.wt<=1000000000->rN n P=some (P.alZ:Int):=by
 intro n
 induction n with
 |zero=>intro P h;have:=P.kv;omega
 |succ n ih=>
  intro P hn b;cases P with
  |mk k i s ts fs l=>
   rw[Pf.iG] at hn b;have c:=jr Tm.wt ts λt _=>t.kv;have d:=jr Fm.wt fs λt _=>t.kv;have f:=jr Pf.wt l λt _=>t.kv;have o:=k_ (l:=ts) (λx _=>Tm.im x);have q:=k_ (l:=fs) (λx _=>Fm.im x);have r:=k_ (l:=l) (λx _=>Pf.im x);rw[Pf.dM,rN];simp only[Pf.jN,Pf.PL,Pf.eG,ef]
   rw[et VW,ed,show(1:Int)=((1:Nat):Int)from rfl,pt Tm.alZ ts 0 1 VW (λj x v a=>by
    have:=eF Tm.wt a;have:=x.im
    rw[n5 FU x (by rw[fI];omega) VW,dI]),dI,eC,et VW,ed,pt Fm.alZ fs 0 _ VW (λj x v a=>by
    have:=eF Fm.wt a;have:=x.im
    rw[sX FU x (by rw[fI];omega) VW,dI]),dI,eC,et VW,ed,pt Pf.alZ l 0 _ VW (λj x v a=>by
    have:=eF Pf.wt a
    rw[ih x VW VW,dI]),dI,eC]
def Jq{P:Pf}(h:P.wt<=1000000000):uI P=some P.err:=by
 unfold uI z7 Pf.err;rw[JP FU P (by rw[fI];omega) h,dI];cases P.ok with
 |false=>rfl|true=>
  rw[dR rfl,dR rfl,ef,Jt FU P (by rw[fI];omega) h,dI];cases P.small with
  |false=>rfl|true=>grind[Kg,FU,fI,dI,abY]
def Pf.aiv{P:Pf}(h:P.err=0):BS P/\P.alZ<=16384:=by
 unfold Pf.err at h;cases b:P.ok with
 |false=>grind|true=>
  by_cases a:P.small=true/\P.alZ<=16384
  ·exact⟨P.w b a.1,a.2⟩
  ·grind
noncomputable def NA (L:List Fm) (q:Sq):Int:=if 32<L.length then 3 else if fE (L.map λf=>Mm f [])≠0 then fE (L.map λf=>Mm f [])else if yc q.al1≠0 then yc q.al1 else if 16<q.al4.length then 3 else fE (q.al4.map λf=>Mm f q.al1)
structure SqB (L:List Fm) (q:Sq):Prop where
 mC:∀f∈L,f.wt<=1000000000
 tys:∀t∈q.al1,t.alZ<=1000000000
 tyl:q.al1.length<=1000000
 al4:∀f∈q.al4,f.wt<=1000000000
def JL{e:Int}:(dH (some e) λa=>if(eL a 0) then some (.ret a)else some ((.next ()):gq Unit Int))=if e≠0 then some (.ret e)else some (.next ()):=by
 rw[dI]
 by_cases h:e=0
 ·subst h;rfl
 ·rw[dR (by rw[ez];exact h),dR h]
def aab{C:List Ty->Option Int}{T:List Ty->Fm->Option Int}{L:List Fm}{q:Sq}(u:C q.al1=some (yc q.al1))(v:∀f∈L,T [] f=some (Mm f []))(w:∀f∈q.al4,T q.al1 f=some (Mm f q.al1)):(if(pj (eA L) 32) then some 3 else gG (eX L)<|ej (λ(y:Int) (i:Fm)=>(λ(_:Unit)=>dH (T [] i) λa=>if(eL a 0) then some (.ret a)else some ((.next ()):gq Unit Int))) λk=>
   dH (fw k L 0 ()) (fO (λ(_:Unit)=>dH (C q.al1) λb=>if(eL b 0) then some b else if(pj (eA q.al4) 16) then some 3 else gG (eX q.al4)<|ej (λ(A:Int) (l:Fm)=>(λ(_:Unit)=>dH (T q.al1 l) λc=>if(eL c 0) then some (.ret c)else some ((.next ()):gq Unit Int))) λn=>
    dH (fw n q.al4 0 ()) (fO (λ(_:Unit)=>some 0) (λr=>some r))) (λr=>some r)))=some (NA L q):=by
 unfold NA;rw[fQ]
 by_cases s:32<L.length
 ·rw[dR (by rw[iM];omega),dR s]
 ·have B:¬pj (L.length:Int) 32=true:=by rw[iM];omega
  rw[dK B,dK s,et VW,ed,ef];rw[pR (λf=>Mm f []) L 0 (λj x o=>by rw[v x o];exact JL)]
  by_cases d:fE (L.map λf=>Mm f [])=0
  ·rw[dR d,dK (show¬(fE (L.map λf=>Mm f [])≠0)fromλh=>h d),dI,eC,u,dI]
   by_cases c3:yc q.al1=0
   ·have z2:¬eL (yc q.al1) 0=true:=by rw[ez];simpa using c3
    rw[dK z2,dK (show¬(yc q.al1≠0)fromλh=>h c3),fQ]
    by_cases t:16<q.al4.length
    ·rw[dR (by rw[iM];omega),dR t]
    ·have z3:¬pj (q.al4.length:Int) 16=true:=by rw[iM];omega
     rw[dK z3,dK t,et VW,ed,ef];rw[pR (λf=>Mm f q.al1) q.al4 0 (λj x o=>by rw[w x o];exact JL)]
     by_cases c5:fE (q.al4.map λf=>Mm f q.al1)=0
     ·rw[dR c5,c5];rfl
     ·rw[dK c5];rfl
   ·have z2:eL (yc q.al1) 0=true:=by rw[ez];exact c3
    rw[dR z2,dR c3]
  ·rw[dK d,dR d];rfl
def MJ{L:List Fm}{q:Sq}(h:SqB L q):uC L q=some (NA L q):=by
 have a:∀t∈([]:List Ty),t.alZ<=1000000000:=λt c=>by simp at c
 exact aab (C:=mh) (T:=ka) (tB q.al1 h.tyl h.tys) (λx b=>w4 (h.mC x b) aaA a) (λx b=>w4 (h.al4 x b) h.tyl h.tys)
def A3:∀{l:List Int},(∀e∈l,e=0)->fE l=0
 |[],_=>rfl|a::l,h=>by
  rw[fE,dR (h a aaA)];exact A3 λe he=>h e (by simp[he])
def rT:∀{l:List Int},fE l=0->∀e∈l,e=0
 |[],_,e,he=>by simp at he
 |a::l,h,e,he=>by
  rw[fE] at h
  by_cases b:a=0
  ·rw[dR b] at h;rcases mb.1 he with rfl|he
   ·exact b
   ·exact rT h e he
  ·rw[dK b] at h;exact absurd h b
def VX{f:Fm}{g:List Ty}(h:Mm f g=0):Hg g f:=by
 unfold Mm at h
 by_cases b:yc g=0
 ·rw[dK (λh=>h b)] at h
  by_cases a:f.err=0
  ·rw[dK (λh=>h a)] at h;exact⟨a,rP f (Fm.ig a).1 g (jc.of b).1 h⟩
  ·rw[dR a] at h;exact absurd h a
 ·rw[dR b] at h;exact absurd h b
structure uc (L:List Fm) (q:Sq):Prop where
 ln:L.length<=32
 mC:∀f∈L,Hg [] f
 ctx:jc q.al1
 nv:q.al1.length<=16
 nh:q.al4.length<=16
 al4:∀f∈q.al4,Hg q.al1 f
def TT{L:List Fm}{q:Sq}(h:NA L q=0):uc L q:=by
 unfold NA at h
 by_cases d:32<L.length
 ·rw[dR d] at h;cases h
 ·rw[dK d] at h
  by_cases a:fE (L.map λf=>Mm f [])=0
  ·rw[dK (λh=>h a)] at h
   by_cases b:yc q.al1=0
   ·rw[dK (λh=>h b)] at h
    by_cases i:16<q.al4.length
    ·rw[dR i] at h;cases h
    ·rw[dK i] at h;obtain⟨j,k⟩:=jc.of b;exact⟨VW,λf c=>VX (rT a _ (qz.2 ⟨f,c,rfl⟩)),j,k,VW,λf c=>VX (rT h _ (qz.2 ⟨f,c,rfl⟩))⟩
   ·rw[dR b] at h;exact absurd h b
  ·rw[dR a] at h;exact absurd h a
def uc.zero{L:List Fm}{q:Sq}(h:uc L q):NA L q=0:=by
 have c:∀{g:List Ty} {f:Fm},jc g->g.length<=16->Hg g f->Mm f g=0:=λhg b a=>by
  unfold Mm;rw[IA hg b,dK aar,dK (λh=>h a.err)];exact lh a.ty hg (by have:=a.alZ;omega)
 have d:fE (L.map λf=>Mm f [])=0:=A3 λe he=>by
  obtain⟨f,a,rfl⟩:=qz.1 he;exact c (λ_ h=>by simp at h) aaA (h.mC f a)
 have i:fE (q.al4.map λf=>Mm f q.al1)=0:=A3 λe he=>by
  obtain⟨f,a,rfl⟩:=qz.1 he;exact c h.ctx h.nv (h.al4 f a)
 unfold NA;have:=h.ln;have:=h.nh;rw[dK VW,d,dK aar,IA h.ctx h.nv,dK aar,dK VW,i]
def Pf.SN:∀(l:List Pf),(∀x∈l,x.AJ<=x.alZ)->Pf.xi l<=ee Pf.alZ l
 |[],_=>by simp[Pf.xi]|a::l,ih=>by
  have c:=ih a aaA;have d:=Pf.SN l (λx b=>ih x (by simp[b]));simp only[Pf.xi,ee];omega
def Pf.Vg(p:Pf):p.AJ<=p.alZ:=by
 induction p using Pf.ind with
 |h k i s ts fs l ih=>
  rw[Pf.dM,Pf.AJ];have:=Pf.SN l ih;omega
noncomputable def Yu (L:List Fm) (q:Sq) (P:Pf):PR:=jI (NA L q) (jI P.err (P.inf L q.al1 q.al4))
def J0{L:List Fm}{q:Sq}{P:Pf}(h:SqB L q)(j:P.wt<=1000000000):(∃e,e≠0/\Yu L q P=.inr e/\ns L q P=some (⟨iK,[]⟩,e))\/∃(f:Fm) (m:Nat) (l:List Int),Yu L q P=.inl (f,m)/\ns L q P=some (⟨f,l⟩,0)/\Us l m/\Hg q.al1 f/\uc L q/\P.err=0:=by
 unfold ns Yu;rw[MJ h,dI]
 by_cases b:NA L q=0
 ·have a:=TT b;rw[b,dK nz,fS rfl,Jq j,dI]
  by_cases c:P.err=0
  ·obtain⟨hw,hn⟩:=Pf.aiv c;have k:=P.Vg;rw[c,dK nz,fS rfl];rcases VZ hw FU (by rw[fI];omega) (dS.mk L q.al1 q.al4) ⟨⟨a.ctx,a.nv,a.nh⟩,rfl,a.mC,a.al4⟩with⟨e,he,q1,i⟩|⟨f,m,l,q1,i,hu,d⟩
   ·rw[i,dQ,dR (by rw[ez];exact he)];exact .inl ⟨e,he,q1,rfl⟩
   ·have d:Hg q.al1 f:=d;have n:=hu.len;have o:=f.js d.ok;have r:=d.alZ;rw[i,dQ,dK nz];simp only[];rw[r7 VW,dI,fm abu,ed,iv,oa];exact .inr ⟨f,m,l,q1,rfl,hu,d,a,by trivial⟩
  ·rw[dR (by rw[ez];exact c),jn c];exact .inl ⟨_,c,rfl,rfl⟩
 ·rw[dR (by rw[ez];exact b),jn b];exact .inl ⟨_,b,rfl,rfl⟩
def uc.below{L:List Fm}{q:Sq}(h:uc L q){l:List Ty}(b:jc l)(hn:q.al1.length+l.length<=16):uc L ⟨q.al1++l,q.al4.map (Fm.up 0 l.length)⟩:=by
 refine⟨h.ln,h.mC,h.ctx.append b,by simpa using hn,by simpa using h.nh,λf c=>?_⟩;obtain⟨f0,a,rfl⟩:=qz.1 c;exact(h.al4 f0 a).up l
def uc.with{L:List Fm}{q:Sq}(h:uc L q){f:Fm}(a:Hg q.al1 f)(hn:q.al4.length+1<=16):uc L ⟨q.al1,q.al4++[f]⟩:=by
 refine⟨h.ln,h.mC,h.ctx,h.nv,by simpa using hn,λx hx=>?_⟩;rcases tO.1 hx with hx|hx
 ·exact h.al4 x hx
 ·rw[EY.1 hx];exact a
def Hg.wt{g:List Ty}{f:Fm}(h:Hg g f):f.wt<=266240:=by
 have:=f.js h.ok;have:=h.alZ;omega
def uc.b{L:List Fm}{q:Sq}(h:uc L q):SqB L q:=by
 refine⟨λf a=>by have:=(h.mC f a).wt;omega,λt c=>by have:=fg (h.ctx t c);omega,by have:=h.nv;omega,λf a=>by have:=(h.al4 f a).wt;omega⟩
def dU.lift{g:List Ty}{x:Tm}{t:Ty}(h:dU g x t)(e:List Ty):dU (g++e) (x.up 0 e.length) t:=by
 have:=h.up g [] e aaA
 grind
def Fm.oJ{f:Fm}(h:f.ok=true)(hn:f.alZ<=4096):f.err=0:=by
 unfold Fm.err;rw[dR h,dK VW]
theorem gU{P:Pf}(h:P.err=0):P.ok=true/\P.small=true/\P.alZ<=16384:=by
 unfold Pf.err at h;cases b:P.ok with
 |false=>rw[b] at h;cases h
 |true=>
  rw[b,dR rfl] at h
  by_cases a:P.small=true/\P.alZ<=16384
  ·exact⟨rfl,a.1,a.2⟩
  ·rw[dK a] at h;cases h
def IC{L:List Fm}{q:Sq}(h:uc L q){P:Pf}(a:P.err=0):Yu L q P=P.inf L q.al1 q.al4:=by
 unfold Yu;rw[fS h.zero,fS a]
def II{f:Fm}{m:Nat}(h:f.err=0):sY (.inl (f,m))=.inl (f,if f.has then m else 0):=by
 unfold sY;rw[fl,dR h]
theorem Tt{f:Fm}{m:Nat}(h:f.err≠0):sY (.inl (f,m))=.inr 4:=by
 unfold sY;rw[fl,dK h]
def Vs:uc [] ⟨[],[]⟩:=⟨aaA,λf h=>by simp at h,λs h=>by simp at h,aaA,aaA,λf h=>by simp at h⟩
noncomputable def s9 (a b:Tm):Int:=@ite Int (a=b) (Classical.propDecidable _) 0 (if(a.norm 1000 0).2.2≠0 then(a.norm 1000 0).2.2 else if(b.norm 1000 0).2.2≠0 then(b.norm 1000 0).2.2 else@ite Int ((a.norm 1000 0).1=(b.norm 1000 0).1) (Classical.propDecidable _) 0 11)
def Mh(a:Tm):s9 a a=0:=dR rfl
def NK{a b:Tm}(h:a≠b):s9 a b=if(a.norm 1000 0).2.2≠0 then(a.norm 1000 0).2.2 else if(b.norm 1000 0).2.2≠0 then(b.norm 1000 0).2.2 else@ite Int ((a.norm 1000 0).1=(b.norm 1000 0).1) (Classical.propDecidable _) 0 11:=dK h
def Nm.aat{a:Tm}(h:Nm a)(b:(a.norm 1000 0).2.2=0):(a.norm 1000 0).1.ok=true/\(a.norm 1000 0).1.alZ<=4096:=by
 obtain⟨p,n,e,c⟩:∃p n e,a.norm 1000 0=(p,n,e):=⟨_,_,_,rfl⟩;rw[c] at b|-;have b:e=0:=b;subst b;have:=Ie 1000 536870912 0 a p n VW (Sm.start h.err h.al3) (i_ h.err).2 c;exact⟨this.1.ok,this.2⟩
def KB{a b:Tm}(f:Nm a)(i:Nm b):mf a b 1000=some (s9 a b):=by
 have x:=a.js (i_ f.err).1;have y:=b.js (i_ i.err).1;have A:=(i_ f.err).2;have B:=(i_ i.err).2;unfold mf;rw[lA VW,f.err,dI,dK nz,lA VW,i.err,dI,dK nz];obtain⟨r,u,o⟩:=xW FU a b (by rw[fI];omega) VW;rw[u,dI]
 by_cases c:a=b
 ·rw[dR (o.2 c),c,Mh]
 ·rw[dK (λh=>c (o.1 h)),NK c,f.one,i.one];obtain⟨p,n,e,v⟩:∃p n e,a.norm 1000 0=(p,n,e):=⟨_,_,_,rfl⟩;obtain⟨s,n',w,l⟩:∃p n e,b.norm 1000 0=(p,n,e):=⟨_,_,_,rfl⟩;have j:=f.aat;rw[v] at j|-;rw[l,gk];simp only[] at j|-
  by_cases he:e=0
  ·subst he;rw[dK nz,dK aar,gk]
   by_cases d:w=0
   ·subst d;rw[dK nz,dK aar];have C:=p.js (j rfl).1;have D:=(j rfl).2;obtain⟨q,q1,t⟩:=xW FU p s (by rw[fI];omega) VW;rw[q1,dI]
    by_cases k:p=s
    ·rw[dR (t.2 k),dR k]
    ·rw[dK (λh=>k (t.1 h)),dK k]
   ·rw[dR (by rw[ez];exact d),dR d]
  ·rw[dR (by rw[ez];exact he),dR he]
mutual
noncomputable def Fm.DT:Fm->Fm->Int
 |.mk k s ts l,b=>if k≠b.alX\/s.kc b.dN=false then 11 else if fE (List.zipWith s9 ts b.ei)≠0 then fE (List.zipWith s9 ts b.ei)else fE (Fm.Ui l b.alY)
noncomputable def Fm.Ui:List Fm->List Fm->List Int
 |a::l,b::m=>a.DT b::Fm.Ui l m|_,_=>[]
end
def Fm.SA:∀(l m:List Fm),Fm.Ui l m=List.zipWith Fm.DT l m
 |[],m=>by rw[Fm.Ui];rfl;intros;simp_all|a::l,[]=>by rw[Fm.Ui];rfl;intros;simp_all|a::l,b::m=>by rw[Fm.Ui,Fm.SA l m];rfl
def Fm.Jp(k k':Int)(s b:Ty)(ts a:List Tm)(l c:List Fm):(Fm.mk k s ts l).DT (.mk k' b a c)=if k≠k'\/s.kc b=false then 11 else if fE (List.zipWith s9 ts a)≠0 then fE (List.zipWith s9 ts a)else fE (List.zipWith Fm.DT l c):=by rw[Fm.DT,Fm.SA];rfl
def KE{α:Type}{E:α->α->Option Int}{e:α->α->Int}{M:List α}:∀(l:List α) (i:Nat),l.length+i=M.length->(∀x∈l,∀y∈M,E x y=some (e x y))->fw (λ(d:Int) (f:α)=>(λ(_:Unit)=>dH (dX M d) λb=>dH (E f b) λa=>if(eL a 0) then(some (.ret a))else(some ((.next ()):gq Unit Int)))) l i ()=some (if fE (List.zipWith e l (M.drop i))=0 then .inl ()else .inr (fE (List.zipWith e l (M.drop i))))
 |[],i,_,_=>by simp[fE]|x::l,i,n,h=>by
  simp only[mN] at n
  have hi:i<M.length:=VW
  have ih:=KE (E:=E) (e:=e) (M:=M) l (i+1) VW (λy o=>h y (by simp[o]));have q:M.drop i=M[i]::M.drop (i+1):=(Nz hi)
  have r:List.zipWith e (x::l) (M.drop i)=e x M[i]::List.zipWith e l (M.drop (i+1)):=by rw[q];rfl
  rw[r,fY,hJ,po hi,dI,h x aaA _ (DL hi),dI]
  by_cases c:e x M[i]=0
  ·have j:¬eL (e x M[i]) 0=true:=by rw[ez];simpa using c
   have k:fE (e x M[i]::List.zipWith e l (M.drop (i+1)))=fE (List.zipWith e l (M.drop (i+1))):=by rw[fE,dR c]
   rw[dK j,dI,fk,k];exact ih
  ·have j:eL (e x M[i]) 0=true:=by rw[ez];exact c
   have k:fE (e x M[i]::List.zipWith e l (M.drop (i+1)))=e x M[i]:=by rw[fE,dK c]
   rw[dR j,dI,Od,k,dK c]
def JT:∀(n:Nat) (a b:Fm),a.alZ<=n->a.alZ<=4096->b.alZ<=4096->a.ok=true->b.ok=true->Yc a->Yc b->lC n a b=some (a.DT b):=by
 intro n
 induction n with
 |zero=>intro a b h;have:=a.eM;omega
 |succ n ih=>
  intro a b hn F H T U X Y;cases a with
  |mk k s ts l=>
  cases b with
  |mk k' B c I=>
   cases X with
   |mk J K=>
   cases Y with
   |mk L M=>
   rw[Fm.dM] at hn F H;obtain⟨a1,a2,a3⟩:=Fm.wR T;obtain⟨b1,b2,Z⟩:=Fm.wR U;have l1:=Tm.fX ts;have l2:=Fm.fX l;rw[lC,Fm.Jp];refine wh (G:=λo=>o=some (if k≠k'\/s.kc B=false then 11 else if fE (List.zipWith s9 ts c)≠0 then fE (List.zipWith s9 ts c)else fE (List.zipWith Fm.DT l I))) (λv=>v=true↔(k≠k'\/s.kc B=false)) (λv V=>?_) (λj W=>?_)
   ·by_cases i:k≠k'\/s.kc B=false
    ·rw[dR (V.2 i),dR i]
    ·rw[dK (λh=>i (V.1 h)),dK i];have N:k=k':=ab2 λh=>i (.inl h);subst N;obtain⟨e1,e2⟩:=Fm.shape T U;show(gG (eX ts) _:Option Int)=_;rw[et VW,ed,ef];show dH (fw (λ(O:Int) (P:Tm)=>(λ(_:Unit)=>dH (dX c O) λq=>dH (mf P q 1000) λd=>if(eL d 0) then(some (.ret d))else(some ((.next ()):gq Unit Int)))) ts 0 ()) _=_;rw[KE (E:=λx y=>mf x y 1000) (e:=s9) ts 0 VW (λx r y t=>KB (J x r) (L y t)),List.drop_zero]
     by_cases C:fE (List.zipWith s9 ts c)=0
     ·rw[dR C,dI,eC,dK (λh=>h C)];show(gG (eX l) _:Option Int)=_;rw[et VW,ed,ef];show dH (fw (λ(u:Int) (w:Fm)=>(λ(_:Unit)=>dH (dX I u) λA=>dH (lC n w A) λf=>if(eL f 0) then(some (.ret f))else(some ((.next ()):gq Unit Int)))) l 0 ()) _=_
      rw[KE (E:=λx y=>lC n x y) (e:=Fm.DT) l 0 VW (λx r y t=>by
       have m1:=eF Fm.alZ r;have m2:=eF Fm.alZ t
       exact ih x y VW VW VW (a3 x r) (Z y t) (K x r) (M y t)),List.drop_zero]
      by_cases Q:fE (List.zipWith Fm.DT l I)=0
      ·rw[dR Q,Q];rfl
      ·rw[dK Q];rfl
     ·rw[dK C,dR C];rfl
   ·show(if(eL k k') then j true else dH (fv FU s B) λR=>j (lV R))=_
    by_cases D:k=k'
    ·have S:¬eL k k'=true:=by rw[ez];simpa using D
     rw[dK S,iJ VW,dI];exact W _ (by rw[SM];simp[D])
    ·have S:eL k k'=true:=by rw[ez];exact D
     rw[dR S];exact W _ (by simp[D])
def Hg.nmF{g:List Ty}{f:Fm}(h:Hg g f)(hg:g.length<=1000000):Yc f:=Yc.of f h.alZ h.ok (h.ty.al3 _ (by have:=h.alZ;omega))
theorem EF{g f:List Ty}{a b:Fm}(c:Hg g a)(d:Hg f b)(h:g.length<=1000000)(i:f.length<=1000000):Az a b=a.DT b:=by
 have j:=c.wt;have k:=d.wt
 have e:lu a b=some (a.DT b):=by
  unfold lu;rw[jg VW,c.err,dI,dK nz,jg VW,d.err,dI,dK nz,JT FU a b (by rw[fI];have:=c.alZ;omega) c.alZ d.alZ c.ok d.ok (c.nmF h) (d.nmF i)];rfl
 unfold Az;rw[e];rfl
def Cv(a b:Tm):Prop:=a.ok=true/\b.ok=true/\∃c,nG a c/\nG b c
theorem Cv.refl{a:Tm}(h:a.ok=true):Cv a a:=⟨h,h,a,.refl a,.refl a⟩
def Cv.symm{a b:Tm}(h:Cv a b):Cv b a:=⟨h.2.1,h.1,let⟨c,p,q⟩:=h.2.2;⟨c,q,p⟩⟩
def Cv.trans{a b c:Tm}(h:Cv a b)(d:Cv b c):Cv a c:=by
 obtain⟨f,i,x,j,k⟩:=h;obtain⟨_,l,y,n,o⟩:=d;obtain⟨w,q,r⟩:=k.meet y i n;exact⟨f,l,w,j.trans q,o.trans r⟩
def Cv.star{a b:Tm}(c:a.ok=true)(h:nG a b):Cv a b:=⟨c,h.ok c,b,h,.refl b⟩
def nG.Ic{t u:Tm}(h:nG t u){x:Tm}(a:x.ok=true):t.ok=true->∀n:Int,0<=n->nG (Tm.gp n t x) (Tm.gp n u x):=by
 induction h with
 |refl t=>intro _ n _;exact .refl _|step b _ ih=>intro c n hn;exact .step (b.gp (k4.refl x a) a c n hn) (ih (b.ok c) n hn)
def nG.aiX{x y:Tm}(h:nG x y){t:Tm}(a:t.ok=true):x.ok=true->∀n:Int,0<=n->nG (Tm.gp n t x) (Tm.gp n t y):=by
 induction h with
 |refl t=>intro _ n _;exact .refl _|step b _ ih=>intro c n hn;exact .step ((k4.refl t a).gp b c a n hn) (ih (b.ok c) n hn)
def Cv.gp{a b x y:Tm}(h:Cv a b)(q:Cv x y){n:Int}(hn:0<=n):Cv (Tm.gp n a x) (Tm.gp n b y):=by
 obtain⟨f,i,c,l,o⟩:=h;obtain⟨j,k,d,d1,d2⟩:=q;refine⟨Tm.Nh x j a n hn f,Tm.Nh y k b n hn i,Tm.gp n c d,?_,?_⟩
 ·exact(l.Ic j f n hn).trans (d1.aiX (l.ok f) j n hn)
 ·exact(o.Ic k i n hn).trans (d2.aiX (o.ok i) k n hn)
def pP(e:Int):Prop:=e=3\/e=4\/e=5
def E5{a p:Tm}{n:Int}(h:a.norm 1000 0=(p,n,0))(b:a.ok=true):p.nf=true/\nG a p:=⟨(Ss 1000 0 a p n h).1,L9 1000 0 a p n b h⟩
def al6{a b:Tm}(h:Cv a b):s9 a b=0\/pP (s9 a b):=by
 by_cases i:a=b
 ·rw[i,Mh];exact .inl rfl
 ·rw[NK i];obtain⟨k,q,c,r,t⟩:=h;have u:=Eg 1000 0 a;have v:=Eg 1000 0 b
  by_cases d:(a.norm 1000 0).2.2=0
  ·rw[dK (λh=>h d)]
   by_cases f:(b.norm 1000 0).2.2=0
   ·rw[dK (λh=>h f)];obtain⟨p,n,e,s⟩:∃p n e,a.norm 1000 0=(p,n,e):=⟨_,_,_,rfl⟩;obtain⟨B,n',x,j⟩:∃p n e,b.norm 1000 0=(p,n,e):=⟨_,_,_,rfl⟩;rw[s] at d|-;rw[j] at f|-;have d:e=0:=d;have f:x=0:=f;subst d;subst f;obtain⟨n1,s1⟩:=E5 s k;obtain⟨n2,s2⟩:=E5 j q;obtain⟨w,y,A⟩:=s1.meet c k r;obtain⟨w',l,o⟩:=s2.meet c q t;have:=y.nf n1;subst this;have:=l.nf n2;subst this;have:w=w':=nG.unique (r.ok k) A o n1 n2;rw[dR this];exact .inl rfl
   ·rw[dR f];rcases v with h|h|h
    ·exact absurd h f
    ·exact .inr (.inr (.inl h))
    ·exact .inr (.inr (.inr h))
  ·rw[dR d];rcases u with h|h|h
   ·exact absurd h d
   ·exact .inr (.inr (.inl h))
   ·exact .inr (.inr (.inr h))
def LI{a b:Tm}(k:a.ok=true)(j:b.ok=true)(h:s9 a b=0):Cv a b:=by
 by_cases f:a=b
 ·rw[f];exact .refl j
 ·rw[NK f] at h
  by_cases c:(a.norm 1000 0).2.2=0
  ·rw[dK (λh=>h c)] at h
   by_cases d:(b.norm 1000 0).2.2=0
   ·rw[dK (λh=>h d)] at h;obtain⟨p,n,e,l⟩:∃p n e,a.norm 1000 0=(p,n,e):=⟨_,_,_,rfl⟩;obtain⟨q,n',r,i⟩:∃p n e,b.norm 1000 0=(p,n,e):=⟨_,_,_,rfl⟩;rw[l] at c h;rw[i] at d h;have c:e=0:=c;have d:r=0:=d;subst c;subst d
    by_cases o:p=q
    ·subst o;exact⟨k,j,p,(E5 l k).2,(E5 i j).2⟩
    ·rw[dK o] at h;cases h
   ·rw[dR d] at h;exact absurd h d
  ·rw[dR c] at h;exact absurd h c
inductive rR:Fm->Fm->Prop
 |eq {a a' b b'}:Cv a a'->Cv b b'->rR (.mk 1 .z [a,b] []) (.mk 1 .z [a',b'] [])|two {k a a' b b'}:rR a a'->rR b b'->rR (.mk k .z [] [a,b]) (.mk k .z [] [a',b'])|q {k s a a'}:rR a a'->rR (.mk k s [] [a]) (.mk k s [] [a'])
theorem rR.refl{g:List Ty}{f:Fm}(h:iW g f):rR f f:=by
 induction h with
 |eq c d=>exact .eq (.refl c.ok) (.refl d.ok)|two _ _ _ a b=>exact .two a b|q _ _ _ ih=>exact .q ih
def rR.symm{a b:Fm}(h:rR a b):rR b a:=by
 induction h with
 |eq f i=>exact .eq f.symm i.symm|two _ _ c d=>exact .two c d|q _ ih=>exact .q ih
def rR.trans{a b:Fm}(h:rR a b):∀{c:Fm},rR b c->rR a c:=by
 induction h with
 |eq k l=>intro c h;cases h with|eq d f=>exact .eq (k.trans d) (l.trans f)
 |two _ _ i j=>intro c h;cases h with|two d f=>exact .two (i d) (j f)
 |q _ ih=>intro c h;cases h with|q d=>exact .q (ih d)
def rR.gp{a b:Fm}(h:rR a b){x y:Tm}(c:Cv x y):∀{n:Int},0<=n->rR (Fm.gp n a x) (Fm.gp n b y):=by
 induction h with
 |eq i j=>intro n hn;rw[Fm.eS,Fm.eS];exact .eq (i.gp c hn) (j.gp c hn)|@two k _ _ _ _ _ _ d f=>intro n hn;have:=yQ k;rw[Fm.eS,Fm.eS];exact .two (d VW) (f VW)
 |@q k _ _ _ _ ih=>intro n hn;have:=yQ k;rw[Fm.eS,Fm.eS];exact .q (ih VW)
def rR.has{a b:Fm}(h:rR a b):a.has=b.has:=by
 induction h with
 |eq _ _=>rw[Fm.has_eq,Fm.has_eq]|@two k _ _ _ _ _ _ c d=>rw[Fm.y5,Fm.y5,c,d]|@q k _ _ _ _ ih=>rw[Fm.zL,Fm.zL,ih]
def zW:∀{l:List Int},(∀e∈l,e=0\/pP e)->fE l=0\/pP (fE l)
 |[],_=>.inl rfl|e::l,h=>by
  rw[fE]
  by_cases he:e=0
  ·rw[dR he];exact zW λx a=>h x (by simp[a])
  ·rw[dK he];exact .inr ((h e aaA).resolve_left he)
def rR.DT{a b:Fm}(h:rR a b):a.DT b=0\/pP (a.DT b):=by
 have hs:∀(k:Int) (s:Ty),¬(k≠k\/s.kc s=false):=λk s h=>by
  rcases h with h|h
  ·exact h rfl
  ·rw[(Ty.kK s s).2 rfl] at h;cases h
 induction h with
 |@eq a c b d o r=>
  rw[Fm.Jp,dK (hs _ _)]
  have f:=zW (l:=[s9 a c,s9 b d]) (λe he=>by
   simp only[mb,ve,tG] at he;rcases he with rfl|rfl
   ·exact al6 o
   ·exact al6 r)
  show(if fE [s9 a c,s9 b d]≠0 then fE [s9 a c,s9 b d] else fE [])=0\/_
  by_cases i:fE [s9 a c,s9 b d]=0
  ·rw[dK (λh=>h i)];exact .inl rfl
  ·show _\/pP (if fE [s9 a c,s9 b d]≠0 then fE [s9 a c,s9 b d] else fE []);rw[dR i];exact .inr (f.resolve_left i)
 |@two k a c b d _ _ j n=>
  have f:=zW (l:=[a.DT c,b.DT d]) (λe he=>by
   simp only[mb,ve,tG] at he;rcases he with rfl|rfl
   ·exact j
   ·exact n)
  rw[Fm.Jp,dK (hs _ _)];exact f
 |@q k s a c _ ih=>
  have f:=zW (l:=[a.DT c]) (λe he=>by
   simp only[mb,ve,tG] at he
   rw[he];exact ih)
  rw[Fm.Jp,dK (hs _ _)];exact f
def xb{g:List Ty}{a:Fm}(h:iW g a):∀{v:List Ty} {b:Fm},iW v b->a.DT b=0->rR a b:=by
 have key:∀{k k':Int} {s j:Ty} {ts f:List Tm} {l w:List Fm},(Fm.mk k s ts l).DT (.mk k' j f w)=0->k=k'/\s=j/\fE (List.zipWith s9 ts f)=0/\fE (List.zipWith Fm.DT l w)=0:=by
  intro k k' s j ts f l w h;rw[Fm.Jp] at h
  by_cases d:k≠k'\/s.kc j=false
  ·rw[dR d] at h;cases h
  ·rw[dK d] at h
   by_cases i:fE (List.zipWith s9 ts f)=0
   ·rw[dK (λh=>h i)] at h;refine⟨ab2 λr=>d (.inl r),(Ty.kK s j).1 ?_,i,h⟩;cases x:s.kc j with
    |true=>rfl|false=>exact absurd (.inr x) d
   ·rw[dR i] at h;exact absurd h i
 induction h with
 |@eq g a b i C=>
  intro v c d hm;cases d with
  |@eq _ D F t y=>
   obtain⟨_,_,u,_⟩:=key hm;have n:=rT u;exact .eq (LI i.ok t.ok (n _ aaA)) (LI C.ok y.ok (n _ aaA))
  |two r _ _=>obtain⟨e,_⟩:=key hm;omega
  |q r _ _=>obtain⟨e,_⟩:=key hm;omega
 |@two g k a b r i C A B=>
  intro v c d hm;cases d with
  |eq _ _=>obtain⟨e,_⟩:=key hm;omega
  |@two _ k' D F o t y=>
   obtain⟨rfl,_,_,u⟩:=key hm;have n:=rT u;exact .two (A t (n _ aaA)) (B y (n _ aaA))
  |q o _ _=>obtain⟨e,_⟩:=key hm;omega
 |@q g k s a r hs i ih=>
  intro v c d hm;cases d with
  |eq _ _=>obtain⟨e,_⟩:=key hm;omega
  |two o _ _=>obtain⟨e,_⟩:=key hm;omega
  |@q _ k' j D o G t=>
   obtain⟨rfl,rfl,_,u⟩:=key hm;have n:=rT u;exact .q (ih t (n _ aaA))
def fin(f:Fm)(m:Nat):Nat:=if f.has then m else 0
def j6{r:PR}{f:Fm}{m:Nat}(h:sY r=.inl (f,m)):∃a,r=.inl (f,a)/\f.err=0/\m=fin f a:=by
 cases r with
 |inr e=>cases h
 |inl p=>
  obtain⟨f0,a⟩:=p
  by_cases b:f0.err=0
  ·rw[II b] at h;obtain⟨rfl,rfl⟩:=iU (yE h);exact⟨a,rfl,b,rfl⟩
  ·grind[Tt]
def ij{r:PR}{k:Fm->Nat->PR}{p:Fm×Nat}(h:pbind r k=.inl p):∃f m,r=.inl (f,m)/\k f m=.inl p:=by
 cases r with
 |inr e=>cases h
 |inl q=>exact⟨q.1,q.2,rfl,h⟩
theorem kY{e:Int}{r:PR}{p:Fm×Nat}(h:jI e r=.inl p):e=0/\r=.inl p:=by grind[fS,jn]
def m4{c:Prop}[Decidable c]{e:Int}{r:PR}{p:Fm×Nat}(h:v7 c e r=.inl p):¬c/\r=.inl p:=by grind[kg,hD]
def xu{r:PR}{k:Int}{f:Fm}{m:Nat}(h:GF r k=.inl (f,m)):r=.inl (f,m)/\f.alX=k:=by
 obtain⟨f0,a,rfl,b⟩:=ij h
 grind
theorem yF{F:Fm}{t:Tm}(h:(kM F t).2=0):kM F t=(Fm.gp 0 F t,0)/\(Fm.gp 0 F t).alZ<=4096:=by grind[mw]
def Co{r:PR}{F:Fm}{t:Tm}{f:Fm}{m:Nat}(h:B7 r F t=.inl (f,m)):r=.inl (f,m)/\(Fm.gp 0 F t).alZ<=4096/\Az (Fm.gp 0 F t) f=0:=by
 obtain⟨f0,a,rfl,b⟩:=ij h
 grind[kY,yF]
inductive Dv (L:List Fm):List Ty->List Fm->Pf->Fm->Nat->Prop
 |hyp {g hs i f}:0<=i->i<(hs.length:Int)->hs[hs.length-1-i.toNat]?=some f->Hg g f->Dv L g hs (.mk 1 i .z [] [] []) f 0|mC {g hs i f}:0<=i->L[i.toNat]?=some f->Hg [] f->Dv L g hs (.mk 2 i .z [] [] []) f 0|IT {g hs a b x y m n}:Dv L g hs a x m->Dv L g hs b y n->Hg g (.mk 2 .z [] [x,y])->Dv L g hs (.mk 3 0 .z [] [] [a,b]) (.mk 2 .z [] [x,y]) (fin (.mk 2 .z [] [x,y]) (m|||n))|aau {g hs a x y m}:Dv L g hs a (.mk 2 .z [] [x,y]) m->Hg g x->Dv L g hs (.mk 4 0 .z [] [] [a]) x (fin x m)|aak {g hs a x y m}:Dv L g hs a (.mk 2 .z [] [x,y]) m->Hg g y->Dv L g hs (.mk 5 0 .z [] [] [a]) y (fin y m)|O8 {g hs F a y m}:Hg g F->hs.length+1<=16->Dv L g (hs++[F]) a y m->Hg g (.mk 3 .z [] [F,y])->Dv L g hs (.mk 6 0 .z [] [F] [a]) (.mk 3 .z [] [F,y]) (fin (.mk 3 .z [] [F,y]) m)|PE {g hs a b x y f m n}:Dv L g hs a (.mk 3 .z [] [x,y]) m->Dv L g hs b f n->Hg g x->Hg g f->x.DT f=0->Hg g y->Dv L g hs (.mk 7 0 .z [] [] [a,b]) y (fin y (m|||n))|all {g hs k k' s a f m}:(k=8/\k'=4\/k=12/\k'=6/\m.testBit 0=false)->s.err=0->g.length+1<=16->Dv L (g++[s]) (hs.map (Fm.up 0 1)) a f m->Hg g (.mk k' s [] [f])->Dv L g hs (.mk k 0 s [] [] [a]) (.mk k' s [] [f]) (fin (.mk k' s [] [f]) (m/2))|ZG {g hs k k' t s a x m u}:(k=9/\k'=4/\u=m|||tg t\/k=13/\k'=6/\u=m)->dU g t s->t.err=0->Dv L g hs a (.mk k' s [] [x]) m->Hg (g++[s]) x->(Fm.gp 0 x t).alZ<=4096->Dv L g hs (.mk k 0 .z [t] [] [a]) (Fm.gp 0 x t) (fin (Fm.gp 0 x t) u)|ex {g hs k k' t s a x f m u}:(k=10/\k'=5/\u=m|||tg t\/k=14/\k'=7/\u=m)->Hg g (.mk k' s [] [x])->dU g t s->t.err=0->Hg (g++[s]) x->Dv L g hs a f m->Hg g f->(Fm.gp 0 x t).alZ<=4096->(Fm.gp 0 x t).DT f=0->Dv L g hs (.mk k 0 .z [t] [.mk k' s [] [x]] [a]) (.mk k' s [] [x]) (fin (.mk k' s [] [x]) u)|X9 {g hs k k' s a b x f m n}:(k=11/\k'=5\/k=15/\k'=7/\n.testBit 0=false)->Dv L g hs a (.mk k' s [] [x]) m->s.err=0->g.length+1<=16->hs.length+1<=16->Hg (g++[s]) x->Dv L (g++[s]) (hs.map (Fm.up 0 1)++[x]) b f n->Hg (g++[s]) f->(xj f).2=0->Hg g (xj f).1->Dv L g hs (.mk k 0 .z [] [] [a,b]) (xj f).1 (fin (xj f).1 (m|||n/2))|ind {g hs t F a b x y m n}:Hg (g++[.nat]) F->dU g t .nat->t.err=0->Dv L g hs a x m->Hg g x->(Fm.gp 0 F iF).alZ<=4096->(Fm.gp 0 F iF).DT x=0->g.length+1<=16->hs.length+1<=16->Dv L (g++[.nat]) (hs.map (Fm.up 0 1)++[F]) b y n->Hg (g++[.nat]) y->(Fm.gp 0 (F.up 1 1) (gE v0)).alZ<=4096->(Fm.gp 0 (F.up 1 1) (gE v0)).DT y=0->(Fm.gp 0 F t).alZ<=4096->Dv L g hs (.mk 16 0 .z [t] [F] [a,b]) (Fm.gp 0 F t) (fin (Fm.gp 0 F t) ((tg t|||m)|||n/2))|lists {g hs t F a b x y m n}:Hg (g++[.lD]) F->dU g t .lD->t.err=0->Dv L g hs a x m->Hg g x->(Fm.gp 0 F (.mk 7 0 .z [])).alZ<=4096->(Fm.gp 0 F (.mk 7 0 .z [])).DT x=0->g.length+2<=16->hs.length+1<=16->Dv L (g++[.nat]++[.lD]) (hs.map (Fm.up 0 2)++[F.up 1 1]) b y n->Hg (g++[.nat]++[.lD]) y->(Fm.gp 0 (F.up 1 2) (.mk 8 0 .z [v1,v0])).alZ<=4096->(Fm.gp 0 (F.up 1 2) (.mk 8 0 .z [v1,v0])).DT y=0->(Fm.gp 0 F t).alZ<=4096->Dv L g hs (.mk 17 0 .z [t] [F] [a,b]) (Fm.gp 0 F t) (fin (Fm.gp 0 F t) ((tg t|||m)|||n/4))|refl {g hs t}:dU g t .nat->t.err=0->Hg g (.mk 1 .z [t,t] [])->Dv L g hs (.mk 18 0 .z [t] [] []) (.mk 1 .z [t,t] []) 0|subst {g hs F a b t u f m n}:Hg (g++[.nat]) F->Dv L g hs a (.mk 1 .z [t,u] []) m->dU g t .nat->dU g u .nat->t.err=0->u.err=0->Dv L g hs b f n->Hg g f->(Fm.gp 0 F t).alZ<=4096->(Fm.gp 0 F t).DT f=0->(Fm.gp 0 F u).alZ<=4096->Dv L g hs (.mk 19 0 .z [] [F] [a,b]) (Fm.gp 0 F u) (fin (Fm.gp 0 F u) n)|choice {g hs a s u y m}:Dv L g hs a (.mk 4 s [] [.mk 5 u [] [y]]) m->s.err=0->u.err=0->Hg (g++[s]++[u]) y->(Ty.fn s u).err=0->(Fm.gp 0 (y.up 2 1) (fi v1 v0)).alZ<=4096->Hg g (.mk 5 (.fn s u) [] [.mk 4 s [] [Fm.gp 0 (y.up 2 1) (fi v1 v0)]])->Dv L g hs (.mk 20 0 .z [] [] [a]) (.mk 5 (.fn s u) [] [.mk 4 s [] [Fm.gp 0 (y.up 2 1) (fi v1 v0)]]) (fin (.mk 5 (.fn s u) [] [.mk 4 s [] [Fm.gp 0 (y.up 2 1) (fi v1 v0)]]) m)
def yA(f:Fm):fin f 0=0:=by grind[fin]
def DH{g c:List Ty}{a b:Fm}(d:Hg g a)(f:Hg c b)(i:g.length<=1000000)(j:c.length<=1000000)(h:Az a b=0):a.DT b=0:=by grind[EF]
def jJ{g:List Ty}{s:Ty}{F:Fm}{t:Tm}(hF:iW (g++[s]) F)(a:dU g t s)(hn:(Fm.gp 0 F t).alZ<=4096):Hg g (Fm.gp 0 F t):=⟨Fm.oJ (hF.put a).ok hn,hF.put a⟩
def Hg.Ul{g:List Ty}{F:Fm}(h:Hg (g++[.nat]) F):Hg (g++[.nat]++[.nat]) (F.up 1 1):=⟨D0 h.err VW VW,by have:=h.ty.up g [.nat] [.nat] rfl;simpa using this⟩
def Hg.WH{g:List Ty}{F:Fm}(h:Hg (g++[.lD]) F):Hg (g++[.nat]++[.lD]++[.lD]) (F.up 1 2):=⟨D0 h.err VW VW,by have:=h.ty.up g [.lD] [.nat,.lD] rfl;simpa using this⟩
def Hg.upl{g:List Ty}{F:Fm}(h:Hg (g++[.lD]) F):Hg (g++[.nat]++[.lD]) (F.up 1 1):=⟨D0 h.err VW VW,by have:=h.ty.up g [.lD] [.nat] rfl;simpa using this⟩
def uc.nZ{L:List Fm}{g:List Ty}{hs:List Fm}(h:uc L ⟨g,hs⟩){s:Ty}(a:s.err=0)(hn:g.length+1<=16):uc L ⟨g++[s],hs.map (Fm.up 0 1)⟩:=h.below (l:=[s]) (λx b=>by rw[EY.1 b];exact a) hn
def uc.RW{L:List Fm}{g:List Ty}{hs:List Fm}(h:uc L ⟨g,hs⟩)(hn:g.length+2<=16):uc L ⟨g++[.nat]++[.lD],hs.map (Fm.up 0 2)⟩:=by
 have:=h.below (l:=[.nat,.lD]) (λx hx=>by
  rcases mb.1 hx with rfl|hx
  ·exact Ty.fW
  ·rw[EY.1 hx];exact Ty.ph) hn
 grind
def A8{F:Fm}(hF:F.err=0){g:List Ty}(a:jc g)(h:F.yG g=0):Hg g F:=⟨hF,rP F (Fm.ig hF).1 g a h⟩
def Dv.of{L:List Fm}{P:Pf}(hP:BS P):∀(g:List Ty) (hs:List Fm) (f:Fm) (m:Nat),uc L ⟨g,hs⟩->P.inf L g hs=.inl (f,m)->Dv L g hs P f m/\Hg g f:=by
 induction hP with
 |@hyp i hi=>
  intro g hs f m d h;have G:jc g:=d.ctx;rw[Pf.gV,So] at h;obtain⟨M,o,he,c⟩:=j6 h;rw[c];clear h c;have h:=o;clear o;obtain⟨j,H⟩:=m4 h;obtain⟨V,rfl⟩:=iU (yE H)
  have Q:hs.length-1-i.toNat<hs.length:=VW
  rw[x',po Q] at V;have V:hs[hs.length-1-i.toNat]=f:=V;have B:Hg g f:=d.al4 f (by rw[<-V];exact DL Q);rw[yA];exact⟨.hyp hi VW (by rw[po Q,V]) B,B⟩
 |@mC i hi=>
  intro g hs f m d h;have G:jc g:=d.ctx;rw[Pf.gV,Yi] at h;obtain⟨M,o,he,c⟩:=j6 h;rw[c];clear h c;have h:=o;clear o;obtain⟨j,H⟩:=m4 h;obtain⟨V,rfl⟩:=iU (yE H)
  have Q:i.toNat<L.length:=VW
  rw[x',po Q] at V;have V:L[i.toNat]=f:=V;have B:Hg [] f:=d.mC f (by rw[<-V];exact DL Q);rw[yA];exact⟨.mC hi (by rw[po Q,V]) B,he,by simpa using B.ty.front g⟩
 |@IT a b _ _ l I=>
  intro g hs f m d h;have G:jc g:=d.ctx;rw[Pf.gV,Ns] at h;obtain⟨M,o,he,c⟩:=j6 h;rw[c];clear h c;have h:=o;clear o;obtain⟨x,n1,j,h⟩:=ij h;obtain⟨y,n2,H,h⟩:=ij h;obtain⟨rfl,rfl⟩:=iU (yE h);obtain⟨C,w⟩:=l g hs x n1 d j;obtain⟨T,tb⟩:=I g hs y n2 d H;have B:Hg g (.mk 2 .z [] [x,y]):=⟨he,.two (.inl rfl) w.ty tb.ty⟩;exact⟨.IT C T B,B⟩
 |@and k a A _ l=>
  intro g hs f m d h;have G:jc g:=d.ctx;rcases A with rfl|rfl
  ·rw[Pf.gV,Ny] at h;obtain⟨M,o,he,c⟩:=j6 h;rw[c];clear h c;have h:=o;clear o;obtain⟨x,n1,j,h⟩:=ij h;obtain⟨j,A⟩:=xu j;obtain⟨rfl,rfl⟩:=iU (yE h);obtain⟨C,w⟩:=l g hs x n1 d j;obtain⟨x,y,rfl,R,W⟩:=w.ty.G7 A (.inl rfl);exact⟨.aau C ⟨he,R⟩,he,R⟩
  ·rw[Pf.gV,MX] at h;obtain⟨M,o,he,c⟩:=j6 h;rw[c];clear h c;have h:=o;clear o;obtain⟨x,n1,j,h⟩:=ij h;obtain⟨j,A⟩:=xu j;obtain⟨rfl,rfl⟩:=iU (yE h);obtain⟨C,w⟩:=l g hs x n1 d j;obtain⟨x,y,rfl,R,W⟩:=w.ty.G7 A (.inl rfl);exact⟨.aak C ⟨he,W⟩,he,W⟩
 |@O8 F a hF _ l=>
  intro g hs f m d h;have G:jc g:=d.ctx;rw[Pf.gV,QE] at h;obtain⟨M,o,he,c⟩:=j6 h;rw[c];clear h c;have h:=o;clear o;obtain⟨K,h⟩:=kY h;obtain⟨hn,h⟩:=m4 h;obtain⟨y,n1,j,h⟩:=ij h;obtain⟨rfl,rfl⟩:=iU (yE h);have r:=A8 hF G K;obtain⟨C,w⟩:=l g _ y n1 (d.with r (by show hs.length+1<=16;omega)) j;have B:Hg g (.mk 3 .z [] [F,y]):=⟨he,.two (.inr rfl) r.ty w.ty⟩;exact⟨.O8 r VW C B,B⟩
 |@PE a b _ _ l I=>
  intro g hs f m d h;have G:jc g:=d.ctx;have U:=d.nv;have U:g.length<=16:=U;rw[Pf.gV,R9] at h;obtain⟨M,o,he,c⟩:=j6 h;rw[c];clear h c;have h:=o;clear o;obtain⟨x,n1,j,h⟩:=ij h;obtain⟨j,A⟩:=xu j;obtain⟨z,n2,H,h⟩:=ij h;obtain⟨hm,h⟩:=kY h;obtain⟨rfl,rfl⟩:=iU (yE h);obtain⟨C,w⟩:=l g hs x n1 d j;obtain⟨T,tb⟩:=I g hs z n2 d H;obtain⟨x,y,rfl,R,W⟩:=w.ty.G7 A (.inr rfl);have D:=w.sub (x:=x) aaA R;exact⟨.PE C T D tb (DH D tb VW VW hm) ⟨he,W⟩,he,W⟩
 |@all k s a A v _ l=>
  intro g hs f m d h;have G:jc g:=d.ctx;rcases A with rfl|rfl
  ·rw[Pf.gV,GG] at h;obtain⟨M,o,he,c⟩:=j6 h;rw[c];clear h c;have h:=o;clear o;obtain⟨hn,h⟩:=m4 h;obtain⟨x,n1,j,h⟩:=ij h;obtain⟨rfl,rfl⟩:=iU (yE h);obtain⟨C,w⟩:=l _ _ x n1 (d.nZ v VW) j;have B:Hg g (.mk 4 s [] [x]):=⟨he,.q (.inl rfl) v w.ty⟩;exact⟨.all (.inl ⟨rfl,rfl⟩) v VW C B,B⟩
  ·rw[Pf.gV,MK] at h;obtain⟨M,o,he,c⟩:=j6 h;rw[c];clear h c;have h:=o;clear o;obtain⟨hn,h⟩:=m4 h;obtain⟨x,n1,j,h⟩:=ij h;obtain⟨hb,h⟩:=m4 h;obtain⟨rfl,rfl⟩:=iU (yE h);obtain⟨C,w⟩:=l _ _ x n1 (d.nZ v VW) j;have B:Hg g (.mk 6 s [] [x]):=⟨he,.q (.inr (.inr (.inl rfl))) v w.ty⟩;exact⟨.all (.inr ⟨rfl,rfl,by simpa using hb⟩) v VW C B,B⟩
 |@ZG k t a A K _ l=>
  intro g hs f m d h;have G:jc g:=d.ctx
  have key:∀(k':Int) (f:Fm) (m:Nat),(k'=4\/k'=6)->∀u:Nat->Nat,(jI (t.ty g).2 (pbind (GF (a.inf L g hs) k') λa m=>v7 ((t.ty g).1.kc a.dN=false) 7 (jI (kM (a.alY.getD 0 iK) t).2 (.inl ((kM (a.alY.getD 0 iK) t).1,u m)))))=.inl (f,m)->∃s x n,dU g t s/\Dv L g hs a (.mk k' s [] [x]) n/\Hg (g++[s]) x/\(Fm.gp 0 x t).alZ<=4096/\f=Fm.gp 0 x t/\m=u n:=by
   intro k' f m ak u h;obtain⟨af,h⟩:=kY h;obtain⟨x,n1,j,h⟩:=ij h;obtain⟨j,A⟩:=xu j;obtain⟨X,h⟩:=m4 h;obtain⟨hp,h⟩:=kY h;obtain⟨rfl,rfl⟩:=iU (yE h);obtain⟨C,w⟩:=l g hs x n1 d j;obtain⟨s,y,rfl,v,W⟩:=w.ty.w8 A VW;have ah:=w.sub (x:=y) aaA W;obtain⟨Y,N⟩:=yF hp;rcases wX K G with⟨e,he,q1,_⟩|⟨s1,q1,O,an⟩
   ·exact absurd (q1.symm.trans af) he
   ·have q1:t.ty g=(s1,0):=q1;rw[q1] at X;have:s1=s:=(Ty.kK _ _).1 (by simpa using X);subst this;have Y:kM y t=(Fm.gp 0 y t,0):=Y;refine⟨s1,y,n1,O,C,ah,N,?_,rfl⟩;show(kM y t).1=_;rw[Y]
  rcases A with rfl|rfl
  ·rw[Pf.gV,Xs] at h;obtain⟨M,o,he,c⟩:=j6 h;rw[c];clear h c;have h:=o;clear o;obtain⟨s,x,n,q1,q2,q3,q4,rfl,rfl⟩:=key 4 _ _ (.inl rfl) (λm=>m|||tg t) h;exact⟨.ZG (.inl ⟨rfl,rfl,rfl⟩) q1 K q2 q3 q4,jJ q3.ty q1 q4⟩
  ·rw[Pf.gV,Q_] at h;obtain⟨M,o,he,c⟩:=j6 h;rw[c];obtain⟨s,x,n,q1,q2,q3,q4,rfl,rfl⟩:=key 6 _ _ (.inr rfl) (λm=>m) o;exact⟨.ZG (.inr ⟨rfl,rfl,rfl⟩) q1 K q2 q3 q4,jJ q3.ty q1 q4⟩
 |@ex k t F a A K hF _ l=>
  intro g hs f m d h;have G:jc g:=d.ctx;have U:g.length<=16:=d.nv
  have key:∀(k':Int) (f:Fm) (m:Nat),(k'=5\/k'=7)->∀u:Nat->Nat,(jI (F.yG g) (v7 (F.alX≠k') 10 (jI (t.ty g).2 (v7 ((t.ty g).1.kc F.dN=false) 7 (pbind (B7 (a.inf L g hs) (F.alY.getD 0 iK) t) λ_ m=>.inl (F,u m))))))=.inl (f,m)->∃s x y n,F=.mk k' s [] [x]/\Hg g F/\dU g t s/\Hg (g++[s]) x/\Dv L g hs a y n/\Hg g y/\(Fm.gp 0 x t).alZ<=4096/\(Fm.gp 0 x t).DT y=0/\f=F/\m=u n:=by
   intro k' f m ak u h;obtain⟨O,h⟩:=kY h;obtain⟨A,h⟩:=m4 h;obtain⟨af,h⟩:=kY h;obtain⟨X,h⟩:=m4 h;obtain⟨y,n,j,h⟩:=ij h;obtain⟨rfl,rfl⟩:=iU (yE h);have r:=A8 hF G O;obtain⟨s,x,rfl,v,R⟩:=r.ty.w8 (xk.1 A) VW;have D:=r.sub (x:=x) aaA R;obtain⟨j,N,hm⟩:=Co j;obtain⟨C,w⟩:=l g hs y n d j;rcases wX K G with⟨e,he,q1,_⟩|⟨s1,q1,ae,an⟩
   ·exact absurd (q1.symm.trans af) he
   ·rw[q1] at X;have:s1=s:=(Ty.kK _ _).1 (by simpa using X);subst this;exact⟨s1,x,y,n,rfl,r,ae,D,C,w,N,DH (jJ R ae N) w VW VW hm,rfl,rfl⟩
  rcases A with rfl|rfl
  ·rw[Pf.gV,ME] at h;obtain⟨M,o,he,c⟩:=j6 h;rw[c];obtain⟨s,x,y,n,rfl,q1,q2,q3,q4,q5,q6,q7,rfl,rfl⟩:=key 5 _ _ (.inl rfl) (λm=>m|||tg t) o;exact⟨.ex (.inl ⟨rfl,rfl,rfl⟩) q1 q2 K q3 q4 q5 q6 q7,q1⟩
  ·rw[Pf.gV,RX] at h;obtain⟨M,o,he,c⟩:=j6 h;rw[c];obtain⟨s,x,y,n,rfl,q1,q2,q3,q4,q5,q6,q7,rfl,rfl⟩:=key 7 _ _ (.inr rfl) (λm=>m) o;exact⟨.ex (.inr ⟨rfl,rfl,rfl⟩) q1 q2 K q3 q4 q5 q6 q7,q1⟩
 |@X9 k a b A _ _ l I=>
  intro g hs f m d h;have G:jc g:=d.ctx;have U:g.length<=16:=d.nv;rcases A with rfl|rfl
  ·rw[Pf.gV,FD] at h;obtain⟨M,o,he,c⟩:=j6 h;rw[c];clear h c;obtain⟨x,n1,j,h⟩:=ij o;obtain⟨j,A⟩:=xu j;obtain⟨hn,h⟩:=m4 h;obtain⟨y,n2,H,h⟩:=ij h;obtain⟨hw,h⟩:=kY h;obtain⟨rfl,rfl⟩:=iU (yE h);obtain⟨C,w⟩:=l g hs x n1 d j;obtain⟨s,x,rfl,v,R⟩:=w.ty.w8 A (.inr (.inl rfl));have D:=w.sub (x:=x) aaA R;have S:=(d.nZ v VW).with (f:=x) D (by show(hs.map (Fm.up 0 1)).length+1<=16;simp;omega);obtain⟨T,tb⟩:=I _ _ y n2 S H;have B:Hg g (xj y).1:=⟨he,(JK tb VW v hw).1⟩;exact⟨.X9 (.inl ⟨rfl,rfl⟩) C v VW VW D T tb hw B,B⟩
  ·rw[Pf.gV,IV] at h;obtain⟨M,o,he,c⟩:=j6 h;rw[c];clear h c;obtain⟨x,n1,j,h⟩:=ij o;obtain⟨j,A⟩:=xu j;obtain⟨hn,h⟩:=m4 h;obtain⟨y,n2,H,h⟩:=ij h;obtain⟨hw,h⟩:=kY h;obtain⟨hb,h⟩:=m4 h;obtain⟨rfl,rfl⟩:=iU (yE h);obtain⟨C,w⟩:=l g hs x n1 d j;obtain⟨s,x,rfl,v,R⟩:=w.ty.w8 A (.inr (.inr (.inr rfl)));have D:=w.sub (x:=x) aaA R;have S:=(d.nZ v VW).with (f:=x) D (by show(hs.map (Fm.up 0 1)).length+1<=16;simp;omega);obtain⟨T,tb⟩:=I _ _ y n2 S H;have B:Hg g (xj y).1:=⟨he,(JK tb VW v hw).1⟩;exact⟨.X9 (.inr ⟨rfl,rfl,by simpa using hb⟩) C v VW VW D T tb hw B,B⟩
 |@ind k t F a b A K hF _ _ l I=>
  intro g hs f m d h;have G:jc g:=d.ctx;have U:g.length<=16:=d.nv;rcases A with rfl|rfl
  ·rw[Pf.gV,Ip] at h;obtain⟨M,o,he,c⟩:=j6 h;rw[c];clear h c;obtain⟨O,h⟩:=kY o;obtain⟨A,h⟩:=kY h;obtain⟨x,n1,j,h⟩:=ij h;obtain⟨hn,h⟩:=m4 h;obtain⟨y,n2,H,h⟩:=ij h;obtain⟨hp,h⟩:=kY h;obtain⟨Y,N⟩:=yF hp;rw[Y] at h;obtain⟨rfl,rfl⟩:=iU (yE h);have r:=A8 hF G.nat O;have J:dU g t .nat:=Cj G K (.inl rfl) A;obtain⟨j,a2,a3⟩:=Co j;obtain⟨H,Z,b3⟩:=Co H;obtain⟨C,w⟩:=l g hs x n1 d j;have S:=(d.nZ Ty.fW VW).with (f:=F) r (by show(hs.map (Fm.up 0 1)).length+1<=16;simp;omega);obtain⟨T,tb⟩:=I _ _ y n2 S H;have hz:=jJ r.ty (t:=iF) .zero a2;have ai:=jJ (Hg.Ul r).ty (t:=gE v0) (.succ hU) Z;have B:Hg g (Fm.gp 0 F t):=jJ r.ty J N;exact⟨.ind r J K C w a2 (DH hz w VW VW a3) VW VW T tb Z (DH ai tb abu abu b3) N,B⟩
  ·rw[Pf.gV,MF] at h;obtain⟨M,o,he,c⟩:=j6 h;rw[c];clear h c;obtain⟨O,h⟩:=kY o;obtain⟨A,h⟩:=kY h;obtain⟨x,n1,j,h⟩:=ij h;obtain⟨hn,h⟩:=m4 h;obtain⟨y,n2,H,h⟩:=ij h;obtain⟨hp,h⟩:=kY h;obtain⟨Y,N⟩:=yF hp;rw[Y] at h;obtain⟨rfl,rfl⟩:=iU (yE h);have r:=A8 hF G.lD O;have J:dU g t .lD:=Cj G K (.inr rfl) A;obtain⟨j,a2,a3⟩:=Co j;obtain⟨H,Z,b3⟩:=Co H;obtain⟨C,w⟩:=l g hs x n1 d j;have S:=(d.RW VW).with (f:=F.up 1 1) (Hg.upl r) (by show(hs.map (Fm.up 0 2)).length+1<=16;simp;omega);obtain⟨T,tb⟩:=I _ _ y n2 S H;have hz:=jJ r.ty (t:=.mk 7 0 .z []) .nil a2;have ai:=jJ (Hg.WH r).ty (t:=.mk 8 0 .z [v1,v0]) (.cons oe hU) Z;have B:Hg g (Fm.gp 0 F t):=jJ r.ty J N;exact⟨.lists r J K C w a2 (DH hz w VW VW a3) VW VW T tb Z (DH ai tb abu abu b3) N,B⟩
 |@refl t K=>
  intro g hs f m d h;have G:jc g:=d.ctx;rw[Pf.gV,ND] at h;obtain⟨M,o,he,c⟩:=j6 h;rw[c];clear h c;obtain⟨A,h⟩:=kY o;obtain⟨rfl,rfl⟩:=iU (yE h);have J:dU g t .nat:=Cj G K (.inl rfl) A;rw[yA];exact⟨.refl J K ⟨he,.eq J J⟩,he,.eq J J⟩
 |@subst F a b hF _ _ l I=>
  intro g hs f m d h;have G:jc g:=d.ctx;have U:g.length<=16:=d.nv;rw[Pf.gV,Iw] at h;obtain⟨M,o,he,c⟩:=j6 h;rw[c];clear h c;obtain⟨O,h⟩:=kY o;obtain⟨x,n1,j,h⟩:=ij h;obtain⟨j,A⟩:=xu j;obtain⟨y,n2,H,h⟩:=ij h;obtain⟨hp,h⟩:=kY h;obtain⟨Y,N⟩:=yF hp;rw[Y] at h;obtain⟨rfl,rfl⟩:=iU (yE h);have r:=A8 hF G.nat O;obtain⟨C,w⟩:=l g hs x n1 d j;obtain⟨t,u,rfl,K,hu⟩:=w.ty.YW A;have hn:=w.alZ;rw[Fm.dM] at hn;simp only[ee] at hn;obtain⟨H,Z,b3⟩:=Co H;obtain⟨T,tb⟩:=I g hs y n2 d H;have Z:(Fm.gp 0 F t).alZ<=4096:=Z;have b3:Az (Fm.gp 0 F t) y=0:=b3;have N:(Fm.gp 0 F u).alZ<=4096:=N;have B:Hg g (Fm.gp 0 F u):=jJ r.ty hu N;show Dv L g hs _ (Fm.gp 0 F u) (fin (Fm.gp 0 F u) n2)/\Hg g (Fm.gp 0 F u);exact⟨.subst r C K hu (Tm.oJ K.ok VW) (Tm.oJ hu.ok VW) T tb Z (DH (jJ r.ty K Z) tb VW VW b3) N,B⟩
 |@choice a _ l=>
  intro g hs f m d h;have G:jc g:=d.ctx;rw[Pf.gV,Jo] at h;obtain⟨M,o,he,c⟩:=j6 h;rw[c];clear h c;obtain⟨x,n1,j,h⟩:=ij o;obtain⟨j,A⟩:=xu j;obtain⟨h5,h⟩:=m4 h;obtain⟨ad,h⟩:=m4 h;obtain⟨hp,h⟩:=m4 h;obtain⟨Y,N⟩:=yF (xk.1 hp);rw[Y] at h;obtain⟨rfl,rfl⟩:=iU (yE h);obtain⟨C,w⟩:=l g hs x n1 d j;obtain⟨s,x,rfl,v,R⟩:=w.ty.w8 A (.inl rfl);have D:=w.sub (x:=x) aaA R;obtain⟨u,y,rfl,ao,W⟩:=R.w8 (xk.1 h5) (.inr (.inl rfl));have ah:=D.sub (x:=y) aaA W;have N:(Fm.gp 0 (y.up 2 1) (fi v1 v0)).alZ<=4096:=N;have ad:(Ty.fn s u).err=0:=xk.1 ad
  have aq:iW (g++[.fn s u]++[s]++[u]) (y.up 2 1):=by
   have:=W.up g [s,u] [.fn s u] aaA;simpa using this
  have ar:dU (g++[.fn s u]++[s]) (fi v1 v0) u:=.app oe hU;have B:Hg g (.mk 5 (.fn s u) [] [.mk 4 s [] [Fm.gp 0 (y.up 2 1) (fi v1 v0)]]):=⟨he,.q (.inr (.inl rfl)) ad (.q (.inl rfl) v (aq.put ar))⟩;exact⟨.choice C v ao ah ad N B,B⟩
def Wo(t:Tm):∀f b v:Int,0<=f->0<=b->f+b<=v->(t.up f b).al5 v=t.al5 (v-b):=by
 induction t using Tm.ind with
 |h k i s l ih=>
  intro f b v o j q;have r:=ju k;rw[Tm.fu,Tm.fG,Tm.fG,mv]
  congr 1
  ·by_cases a:k=1
   ·subst a;simp only[AZ]
    by_cases c:f<=i
    ·rw[dR c]
     by_cases d:i+b=v
     ·rw[dR d,dR VW]
     ·rw[dK d,dK VW]
    ·rw[dK c,dK VW,dK VW]
   ·simp only[a,J4,jb]
  ·refine pS λx n=>?_;rw[ih x n (f+fq k) b (v+fq k) VW j VW,show v+fq k-b=v-b+fq k by omega]
def OS{α:Type}(f g:α->Nat)(c:Nat):∀l:List α,ee (λx=>f x+g x*c) l=ee f l+ee g l*c
 |[]=>by simp[ee]|x::l=>by
  simp only[ee];rw[OS f g c l,DS];omega
def Ue(a t:Tm):∀n v:Int,t.ok=true->0<=n->n<=v->(Tm.gp n t a).al5 v=t.al5 (v+1)+t.al5 n*a.al5 (v-n):=by
 induction t using Tm.ind with
 |h k i s l ih=>
  intro n v d hn q;have r:=ju k
  by_cases c:k=1
  ·subst c;obtain⟨rfl,rfl⟩:=Kj d;rw[Tm.eS,dR rfl];unfold Tm.kH;rw[Tm.fG,Tm.fG];simp only[AZ,ee,GL]
   by_cases b:i=n
   ·rw[dR b,dK (show¬i=v+1 by omega),dR b,Wo a 0 n v VW hn VW];omega
   ·rw[dK b,dK b]
    by_cases f:n<i
    ·rw[dR f,Tm.fG];simp only[AZ,ee,GL]
     by_cases j:i=v+1
     ·rw[dR j,dR VW];omega
     ·rw[dK j,dK VW];omega
    ·rw[dK f,Tm.fG];simp only[AZ,ee,GL];rw[dK VW,dK VW];omega
  ·rw[Tm.eS,dK c,Tm.fG,Tm.fG,Tm.fG,mv];simp only[c,J4,jb,Ax];rw[<-OS];refine pS λx o=>?_;rw[ih x o (n+fq k) (v+fq k) (Tm.ey d x o) VW VW,show v+fq k-(n+fq k)=v-n by omega,show v+fq k+1=v+1+fq k by omega]
def Pc{α:Type}{f:α->Nat}:∀{l:List α},0<ee f l->∃x∈l,0<f x
 |[],h=>by simp[ee] at h
 |x::l,h=>by
  simp only[ee] at h
  by_cases a:0<f x
  ·exact⟨x,aaA,a⟩
  ·obtain⟨y,b,c⟩:=Pc (f:=f) (l:=l) VW;exact⟨y,by simp[b],c⟩
def Tm.In(t:Tm)(v:Int):Prop:=0<t.al5 v
def ma{k i:Int}{s:Ty}{l:List Tm}{x:Tm}{v:Int}(a:fq k=0)(b:x∈l)(h:x.In v):(Tm.mk k i s l).In v:=by
 unfold Tm.In at*;rw[Tm.fG,a,sh];have:=eF (Tm.al5 v) b;omega
def DV{k i:Int}{s:Ty}{l:List Tm}{v:Int}(a:k≠1)(b:fq k=0)(h:(Tm.mk k i s l).In v):∃x∈l,x.In v:=by
 unfold Tm.In at*;rw[Tm.fG,b,sh,dK (λh=>a h.1),Ax] at h;exact Pc h
def I'{t:Tm}{v:Int}(q:t.ok=true)(w:t.root=true)(y:0<=v)(h:t.fD.In v):t.In v:=by
 cases Tm.NZ q w with
 |@app i s j u b a=>
  rw[show(Tm.mk 3 i s [.mk 2 j u [b],a]).fD=Tm.gp 0 b a by simp[Tm.fD]] at h;unfold Tm.In at h;rw[Ue a b 0 v (Tm.ey (Tm.ey q (.mk 2 j u [b]) aaA) b aaA) VW y,adZ] at h
  by_cases l:0<b.al5 (v+1)
  ·refine ma rfl (x:=.mk 2 j u [b]) aaA ?_;unfold Tm.In;rw[Tm.fG];simp only[ee,show fq 2=1 from rfl];omega
  ·have d:0<a.al5 v:=by
    rcases ahy (a.al5 v)with h0|h0
    ·rw[h0,Nat.mul_zero] at h;omega
    ·exact h0
   exact ma rfl (x:=a) aaA d
 |@zero k A i s j u b st o=>
  rcases o with⟨rfl,rfl⟩|⟨rfl,rfl⟩
  ·rw[show(Tm.mk 6 i s [b,st,.mk 4 j u []]).fD=b by simp[Tm.fD]] at h;exact ma rfl aaA h
  ·rw[show(Tm.mk 9 i s [b,st,.mk 7 j u []]).fD=b by simp[Tm.fD]] at h;exact ma rfl aaA h
 |@succ i s j u b st n=>
  rw[show(Tm.mk 6 i s [b,st,.mk 5 j u [n]]).fD=.mk 3 0 (.mk 0 []) [.mk 3 0 (.mk 0 []) [st,n],.mk 6 i s [b,st,n]] by simp[Tm.fD,pn]] at h
  have key:∀x,(x=b\/x=st\/x=n)->x.In v->(Tm.mk 6 i s [b,st,.mk 5 j u [n]]).In v:=by
   intro x c f;rcases c with rfl|rfl|rfl
   ·exact ma rfl (x:=x) aaA f
   ·exact ma rfl (x:=x) aaA f
   ·exact ma rfl (x:=.mk 5 j u [x]) aaA (ma rfl aaA f)
  obtain⟨x,c,l⟩:=DV aar rfl h;simp only[mb,ve,tG] at c;rcases c with rfl|rfl
  ·obtain⟨x,c,d⟩:=DV aar rfl l;simp only[mb,ve,tG] at c;exact key x (.inr c) d
  ·obtain⟨x,c,d⟩:=DV aar rfl l;simp only[mb,ve,tG] at c;exact key x c d
 |@cons i s j u b st p n=>
  rw[show(Tm.mk 9 i s [b,st,.mk 8 j u [p,n]]).fD=.mk 3 0 (.mk 0 []) [.mk 3 0 (.mk 0 []) [.mk 3 0 (.mk 0 []) [st,p],n],.mk 9 i s [b,st,n]] by simp[Tm.fD,pn]] at h
  have key:∀x,(x=b\/x=st\/x=p\/x=n)->x.In v->(Tm.mk 9 i s [b,st,.mk 8 j u [p,n]]).In v:=by
   intro x c f;rcases c with rfl|rfl|rfl|rfl
   ·exact ma rfl (x:=x) aaA f
   ·exact ma rfl (x:=x) aaA f
   ·exact ma rfl (x:=.mk 8 j u [x,n]) aaA (ma rfl aaA f)
   ·exact ma rfl (x:=.mk 8 j u [p,x]) aaA (ma rfl aaA f)
  obtain⟨x,c,l⟩:=DV aar rfl h;simp only[mb,ve,tG] at c;rcases c with rfl|rfl
  ·obtain⟨x,c,d⟩:=DV aar rfl l;simp only[mb,ve,tG] at c;rcases c with rfl|rfl
   ·obtain⟨x,c,r⟩:=DV aar rfl d;simp only[mb,ve,tG] at c;rcases c with rfl|rfl
    ·exact key _ (.inr (.inl rfl)) r
    ·exact key _ (.inr (.inr (.inl rfl))) r
   ·exact key _ (.inr (.inr (.inr rfl))) d
  ·obtain⟨x,c,d⟩:=DV aar rfl l;simp only[mb,ve,tG] at c;rcases c with rfl|rfl|rfl
   ·exact key _ (.inl rfl) d
   ·exact key _ (.inr (.inl rfl)) d
   ·exact key _ (.inr (.inr (.inr rfl))) d
 |@proj k i s j u a b o=>
  rcases o with rfl|rfl
  ·rw[show(Tm.mk 11 i s [.mk 10 j u [a,b]]).fD=a by simp[Tm.fD]] at h;exact ma rfl (x:=.mk 10 j u [a,b]) aaA (ma rfl aaA h)
  ·rw[show(Tm.mk 12 i s [.mk 10 j u [a,b]]).fD=b by simp[Tm.fD]] at h;exact ma rfl (x:=.mk 10 j u [a,b]) aaA (ma rfl aaA h)
def FO(t:Tm):∀f b v:Int,f<=v->v<f+b->(t.up f b).al5 v=0:=by
 induction t using Tm.ind with
 |h k i s l ih=>
  intro f b v j n;rw[Tm.fu,Tm.fG,mv,FR λx d=>ih x d (f+fq k) b (v+fq k) VW VW]
  by_cases a:k=1
  ·subst a;simp only[AZ]
   by_cases c:f<=i
   ·rw[dR c,dK VW]
   ·rw[dK c,dK VW]
  ·simp only[a,J4,jb]
def Ce{k i:Int}{s:Ty}{l m:List Tm}(v:Int)(h:0<ee (Tm.al5 (v+fq k)) m->0<ee (Tm.al5 (v+fq k)) l)(a:(Tm.mk k i s m).In v):(Tm.mk k i s l).In v:=by
 unfold Tm.In at*;rw[Tm.fG] at a|-
 by_cases b:0<ee (Tm.al5 (v+fq k)) m
 ·have:=h b;omega
 ·omega
def k4.In{t u:Tm}(h:k4 t u):t.ok=true->∀v:Int,0<=v->u.In v->t.In v:=by
 induction h with
 |n0=>intro _ _ _ h;exact h|@n1 k i s a D F o=>
  intro d v l h;refine Ce v (λq=>?_) h;have:=o (Tm.ey d _ aaA) (v+fq k) (by have:=ju k;omega);unfold Tm.In at this;simp only[ee] at q|-;omega
 |@n2 k i s a D b w F y o f=>
  intro d v l h;refine Ce v (λq=>?_) h;have J:=o (Tm.ey d _ aaA) (v+fq k) (by have:=ju k;omega);have A:=f (Tm.ey d _ aaA) (v+fq k) (by have:=ju k;omega);unfold Tm.In at J A;simp only[ee] at q|-;omega
 |@n3 k i s a D b w c H F y I o f r=>
  intro d v l h;refine Ce v (λq=>?_) h;have J:=o (Tm.ey d _ aaA) (v+fq k) (by have:=ju k;omega);have A:=f (Tm.ey d _ aaA) (v+fq k) (by have:=ju k;omega);have B:=r (Tm.ey d _ aaA) (v+fq k) (by have:=ju k;omega);unfold Tm.In at J A B;simp only[ee] at q|-;omega
 |@beta i s j u b w a D y F f o=>
  intro d v l h;have M:=Tm.ey (Tm.ey d (.mk 2 j u [b]) aaA) b aaA;have A:(Tm.mk 3 i s [.mk 2 j u [w],D]).In v:=I' ((k4.n2 3 i s (.n1 2 j u y) F).ok d) (by simp[Tm.root,Tm.kd]) l (by simpa[Tm.fD] using h);have B:=f M (v+1) VW;have G:=o (Tm.ey d a aaA) v l;refine Ce v (λq=>?_) A;unfold Tm.In at B G;simp only[ee,show fq 3=0 from rfl,sh] at q|-;rw[Tm.fG] at q|-;simp only[ee,show fq 2=1 from rfl] at q|-;omega
 |@Km i s j u c b w y f=>intro d v l h;exact ma rfl (x:=b) aaA (f (Tm.ey d b aaA) v l h)|@Ef i s j u c b w y f=>intro d v l h;exact ma rfl (x:=b) aaA (f (Tm.ey d b aaA) v l h)|@IL i s j u b w c H n n' y I hn f r C=>
  intro d v l h;have A:(Tm.mk 6 i s [w,H,.mk 5 j u [n']]).In v:=I' ((k4.n3 6 i s y I (.n1 5 j u hn)).ok d) (by simp[Tm.root,Tm.kd]) l (by simpa[Tm.fD] using h);have B:=f (Tm.ey d b aaA) v l;have G:=r (Tm.ey d c aaA) v l;have K:=C (Tm.ey (Tm.ey d (.mk 5 j u [n]) aaA) n aaA) v l;refine Ce v (λq=>?_) A;unfold Tm.In at B G K;simp only[ee,show fq 6=0 from rfl,sh] at q|-;rw[Tm.fG] at q|-;simp only[ee,show fq 5=0 from rfl,sh] at q|-;omega
 |@E0 i s j u b w c H n n' t N y I hn O f r C L=>
  intro d v l h;have A:(Tm.mk 9 i s [w,H,.mk 8 j u [n',N]]).In v:=I' ((k4.n3 9 i s y I (.n2 8 j u hn O)).ok d) (by simp[Tm.root,Tm.kd]) l (by simpa[Tm.fD] using h);have B:=f (Tm.ey d b aaA) v l;have G:=r (Tm.ey d c aaA) v l;have K:=C (Tm.ey (Tm.ey d (.mk 8 j u [n,t]) aaA) n aaA) v l;have P:=L (Tm.ey (Tm.ey d (.mk 8 j u [n,t]) aaA) t aaA) v l;refine Ce v (λq=>?_) A;unfold Tm.In at B G K P;simp only[ee,show fq 9=0 from rfl,sh] at q|-;rw[Tm.fG] at q|-;simp only[ee,show fq 8=0 from rfl,sh] at q|-;omega
 |@fst i s j u b a D F o=>intro d v l h;exact ma rfl (x:=.mk 10 j u [a,b]) aaA (ma rfl (x:=a) aaA (o (Tm.ey (Tm.ey d (.mk 10 j u [a,b]) aaA) a aaA) v l h))|@snd i s j u a b w y f=>intro d v l h;exact ma rfl (x:=.mk 10 j u [a,b]) aaA (ma rfl (x:=b) aaA (f (Tm.ey (Tm.ey d (.mk 10 j u [a,b]) aaA) b aaA) v l h))
def nG.In{t u:Tm}(h:nG t u):t.ok=true->∀v:Int,0<=v->u.In v->t.In v:=by
 induction h with
 |refl t=>intro _ _ _ h;exact h|step a _ ih=>intro b v c h;exact a.In b v c (ih (a.ok b) v c h)
def Cv.nf{a x p:Tm}{n:Int}(h:Cv a x)(d:x.norm 1000 0=(p,n,0)):nG a p:=by
 obtain⟨l,b,c,f,i⟩:=h;obtain⟨n1,s1⟩:=E5 d b;obtain⟨w,j,k⟩:=s1.meet c b i;have:=j.nf n1;subst this;exact f.trans k
def PO{x:Tm}{e:Int}(h:(Eh x e).2=0):e=0/\∃n,x.norm 1000 0=((Eh x e).1,n,0):=by
 by_cases he:e=0
 ·subst he;refine⟨rfl,?_⟩;unfold Eh at h|-;simp only[if_true] at h|-;refine⟨(x.norm 1000 0).2.1,?_⟩;obtain⟨p,n,e,a⟩:∃p n e,x.norm 1000 0=(p,n,e):=⟨_,_,_,rfl⟩;rw[a] at h|-;simp only at h|-;rw[h]
 ·rw[BC he] at h;exact absurd h he
def rR.nr{a f:Fm}(h:rR a f):∀e:Int,(f.tD e).2=0->rR a (f.tD e).1/\∀v:Int,0<=v->a.al5 v=0->(f.tD e).1.al5 v=0:=by
 induction h with
 |@eq a d b j l n=>
  intro e he;rw[SO] at he|-;obtain⟨w,n1,q1⟩:=PO he;obtain⟨A,n2,x⟩:=PO w;have s1:=l.nf x;have s2:=n.nf q1;refine⟨.eq (.star l.1 s1) (.star n.1 s2),λv i c=>?_⟩;rw[Fm.fG] at c|-;simp only[ee] at c|-;have t1:=s1.In l.1 v i;have t2:=s2.In n.1 v i;unfold Tm.In at t1 t2;omega
 |@two k a d b j _ _ o r=>
  intro e he;rw[S3] at he|-;have he:(j.tD (d.tD e).2).2=0:=he;obtain⟨y,t2⟩:=r _ he;have t:(d.tD e).2=0:=ab2 λh=>h (by rw[Fm.J6 j _ h] at he;exact he);obtain⟨u,t1⟩:=o e t;refine⟨.two u y,λv i c=>?_⟩;have:=yQ k;rw[Fm.fG] at c|-;simp only[ee] at c|-;have:=t1 (v+qB k) VW VW;have:=t2 (v+qB k) VW VW;omega
 |@q k s a d _ ih=>
  intro e he;rw[adu] at he|-;obtain⟨u,t1⟩:=ih e he;refine⟨.q u,λv i c=>?_⟩;have:=yQ k;rw[Fm.fG] at c|-;simp only[ee] at c|-;have:=t1 (v+qB k) VW VW;omega
def Tm.aaB(t:Tm):∀n:Int,t.al5 n=0->(t.up (n+1) (-1)).up n 1=t:=by
 induction t using Tm.ind with
 |h k i s l ih=>
  intro n a;rw[Tm.fG] at a;rw[Tm.fu,Tm.fu,Bq]
  congr 1
  ·by_cases b:k=1
   ·subst b;simp only[AZ] at a|-
    have:¬i=n:=λh=>by rw[dR h] at a;omega
    by_cases c:n+1<=i
    ·rw[dR c,dR VW];omega
    ·rw[dK c,dK VW]
   ·simp only[b,J4,jb]
  ·refine map_id' λx d=>?_;have:=eF (Tm.al5 (n+fq k)) d;have:=ih x d (n+fq k) VW;rw[show n+fq k+1=n+1+fq k by omega] at this;exact this
def Fm.aaB(f:Fm):∀n:Int,f.al5 n=0->(f.up (n+1) (-1)).up n 1=f:=by
 induction f using Fm.ind with
 |h k s ts l ih=>
  intro n b;rw[Fm.fG] at b;rw[Fm.fu,Fm.fu,Bq,Bq]
  congr 1
  ·refine map_id' λx a=>?_;have:=eF (Tm.al5 n) a;exact x.aaB n VW
  ·refine map_id' λx a=>?_;have:=eF (Fm.al5 (n+qB k)) a;have:=ih x a (n+qB k) VW;rw[show n+qB k+1=n+1+qB k by omega] at this;exact this
def Fm.FO(t:Fm):∀f b v:Int,f<=v->v<f+b->(t.up f b).al5 v=0:=by
 induction t using Fm.ind with
 |h k s ts l ih=>
  intro f b v a c;rw[Fm.fu,Fm.fG,mv,mv,FR λx _=>Go.fF.FO x f b v a c,FR λx d=>ih x d (f+qB k) b (v+qB k) VW VW]
def Fm.Tz{g:List Ty}{f:Fm}(h:iW g f)(x:Tm):∀n:Int,0<=n->Fm.gp n (f.up n 1) x=f:=by
 have key:∀{g:List Ty} {t:Tm} {s:Ty},dU g t s->∀n:Int,0<=n->Tm.gp n (t.up n 1) x=t:=by
  intro g t s h n hn;have:=RC x t n n 0 h.ok hn VW VW;rw[Tm.acd] at this;exact this
 induction h with
 |eq c d=>intro n hn;rw[Fm.fu,Fm.eS];simp[key c n hn,key d n hn]|@two _ k _ _ _ _ _ a b=>intro n hn;have:=yQ k;rw[Fm.fu,Fm.eS];simp[a (n+qB k) VW,b (n+qB k) VW]
 |@q _ k _ _ _ _ _ ih=>intro n hn;have:=yQ k;rw[Fm.fu,Fm.eS];simp[ih (n+qB k) VW]
def rR.down{g c:List Ty}{a b:Fm}(d:iW g a)(f:iW c b)(h:rR (a.up 0 1) (b.up 0 1)):rR a b:=by
 have:=h.gp (Cv.refl (a:=iF) aar) (n:=0) VW
 rwa [Fm.Tz d _ 0 VW,Fm.Tz f _ 0 VW] at this
def Xl{g:List Ty}{s:Ty}{f:Fm}(h:Hg (g++[s]) f)(hg:g.length<=1000)(a:(xj f).2=0):rR f ((xj f).1.up 0 1):=by
 unfold xj at a|-
 by_cases c:f.al5 0=0
 ·rw[dR c];show rR f ((f.up 1 (-1)).up 0 1);rw[show(f.up 1 (-1)).up 0 1=f from f.aaB 0 c];exact .refl h.ty
 ·rw[dK c] at a|-
  by_cases b:(f.tD 0).2≠0
  ·rw[dR b] at a;exact absurd a b
  ·rw[dK b] at a|-;have b:(f.tD 0).2=0:=xk.1 b
   by_cases d:(f.tD 0).1.al5 0≠0
   ·rw[dR d] at a;cases a
   ·rw[dK d];show rR f (((f.tD 0).1.up 1 (-1)).up 0 1);rw[show((f.tD 0).1.up 1 (-1)).up 0 1=(f.tD 0).1 from Fm.aaB _ 0 (xk.1 d)];exact((rR.refl h.ty).nr 0 b).1
def Kf{α:Type}{f:α->Int->α×Int}:∀(l:List α) (e:Int),(∀x∈l,∀e,e=0\/pP e->(f x e).2=0\/pP (f x e).2)->e=0\/pP e->(rC f l e).2=0\/pP (rC f l e).2
 |[],e,_,he=>he|x::l,e,h,he=>Kf l _ (λy a=>h y (by simp[a])) (h x aaA e he)
def aad(f:Fm):∀e:Int,e=0\/pP e->(f.tD e).2=0\/pP (f.tD e).2:=by
 induction f using Fm.ind with
 |h k s ts l ih=>
  intro e he;rw[Fm.FQ];refine Kf l _ ih (Kf ts e (λx _ e he=>?_) he)
  by_cases a:e=0
  ·unfold Eh;rw[dR a];rcases Eg 1000 0 x with h|h|h
   ·exact .inl h
   ·exact .inr (.inr (.inl h))
   ·exact .inr (.inr (.inr h))
  ·rw[BC a];exact he
def aav{g:List Ty}{s:Ty}{f y:Fm}(h:Hg (g++[s]) f)(hg:g.length<=1000)(hs:s.err=0)(j:iW g y)(c:rR f (y.up 0 1)):pP (xj f).2\/(xj f).2=0/\rR (xj f).1 y:=by
 have key:(xj f).2=0->rR (xj f).1 y:=λa=>rR.down (JK h hg hs a).1 j ((Xl h hg a).symm.trans c)
 by_cases a:(xj f).2=0
 ·exact .inr ⟨a,key a⟩
 ·left;unfold xj at a|-
  by_cases d:f.al5 0=0
  ·rw[dR d] at a;exact absurd rfl a
  ·rw[dK d] at a|-
   by_cases b:(f.tD 0).2≠0
   ·rw[dR b];exact(aad f 0 (.inl rfl)).resolve_left b
   ·rw[dK b] at a;have b:(f.tD 0).2=0:=xk.1 b
    by_cases i:(f.tD 0).1.al5 0≠0
    ·exact absurd ((c.symm.nr 0 b).2 0 VW (y.FO 0 1 0 VW VW)) i
    ·rw[dK i] at a;exact absurd rfl a
inductive B3
 |n|l|u|p (a b:B3)|f (a b:B3)
def B3.D:B3->Type
 |.n=>Nat|.l=>List Nat|.u=>Unit|.p a b=>a.D×b.D|.f a b=>a.D->b.D
def B3.ZH:(s:B3)->s.D
 |.n=>(0:Nat)|.l=>([]:List Nat)|.u=>()|.p a b=>(a.ZH,b.ZH)|.f _ b=>λ_=>b.ZH
structure Vw where
 s:B3
 d:s.D
def Vw.no:Vw:=⟨.u,()⟩
noncomputable def Vw.at (v:Vw) (s:B3):s.D:=@dite _ (v.s=s) (Classical.propDecidable _) (λh=>h▸v.d) (λ_=>s.ZH)
def Vw.xl(s:B3)(d:s.D):(Vw.mk s d).at s=d:=by unfold Vw.at;rw[dif_pos rfl]
def Vw.eta{v:Vw}{s:B3}(h:v.s=s):(⟨s,v.at s⟩:Vw)=v:=by
 subst h;cases v;rw[Vw.xl]
def Ma(k:Int):List B3->B3
 |[a,b]=>if k=3 then .p a b else .f a b|_=>if k=1 then .n else if k=2 then .l else .u
mutual
def Ty.S:Ty->B3
 |.mk k l=>Ma k (Ty.SL l)
def Ty.SL:List Ty->List B3
 |[]=>[]|t::l=>t.S::Ty.SL l
end
def oQ:Ty.nat.S=.n:=by unfold Ty.nat;simp[Ty.S,Ty.SL,Ma]
def Ph:Ty.lD.S=.l:=by unfold Ty.lD;simp[Ty.S,Ty.SL,Ma]
def aeV:Ty.unit.S=.u:=by unfold Ty.unit;simp[Ty.S,Ty.SL,Ma]
def x8(a b:Ty):(Ty.fn a b).S=.f a.S b.S:=by unfold Ty.fn;simp[Ty.S,Ty.SL,Ma]
def Vt(a b:Ty):(Ty.pr a b).S=.p a.S b.S:=by unfold Ty.pr;simp[Ty.S,Ty.SL,Ma]
noncomputable def afm (s:B3) (φ:s.D->Vw):Vw:=⟨.f s (φ s.ZH).s,λx=>(φ x).at (φ s.ZH).s⟩
noncomputable def lU (f a:Vw):Vw:=match f with
 |⟨.f s t,φ⟩=>⟨t,φ (a.at s)⟩
 |_=>.no
noncomputable def uM (b s:Vw):Nat->Vw
 |0=>b|k+1=>lU (lU s ⟨.n,k⟩) (uM b s k)
noncomputable def JS (b s:Vw):List Nat->Vw
 |[]=>b|h::t=>lU (lU (lU s ⟨.n,h⟩) ⟨.l,t⟩) (JS b s t)
def CC(v:Vw):Vw:=match v with
 |⟨.p a _,x⟩=>⟨a,x.1⟩|_=>.no
def zS(v:Vw):Vw:=match v with
 |⟨.p _ b,x⟩=>⟨b,x.2⟩|_=>.no
noncomputable def oZ (v:Vw):Nat:=v.at .n
noncomputable def NJ (v:Vw):List Nat:=v.at .l
noncomputable def opV (k:Int):List Vw->Vw
 |[]=>if k=4 then⟨.n,(0:Nat)⟩else if k=7 then⟨.l,([]:List Nat)⟩else⟨.u,()⟩|[a]=>if k=5 then⟨.n,oZ a+1⟩else if k=11 then CC a else zS a|[a,b]=>if k=3 then lU a b else if k=8 then⟨.l,oZ a::NJ b⟩else⟨.p a.s b.s,(a.d,b.d)⟩|a::b::c::_=>if k=6 then uM a b (oZ c)else JS a b (NJ c)
def acq:List Vw->Vw
 |[]=>.no|v::_=>v
mutual
noncomputable def Tm.val:Tm->List Vw->Vw
 |.mk k i s l,ρ=>if k=1 then(ρ.reverse[i.toNat]?).getD .no else if k=2 then afm s.S λx=>Tm.abi l (ρ++[⟨s.S,x⟩])else opV k (Tm.Wg l ρ)
noncomputable def Tm.abi:List Tm->List Vw->Vw
 |[],_=>.no|t::_,ρ=>t.val ρ
noncomputable def Tm.Wg:List Tm->List Vw->List Vw
 |[],_=>[]|t::l,ρ=>t.val ρ::Tm.Wg l ρ
end
def aay:∀(l:List Tm) (ρ:List Vw),Tm.abi l ρ=acq (l.map λt=>t.val ρ)
 |[],_=>by rw[Tm.abi];rfl|t::l,ρ=>by rw[Tm.abi];rfl
def Sy:∀(l:List Tm) (ρ:List Vw),Tm.Wg l ρ=l.map λt=>t.val ρ
 |[],_=>by rw[Tm.Wg];rfl|t::l,ρ=>by rw[Tm.Wg,Sy l];rfl
def Tm.val_mk(k i:Int)(s:Ty)(l:List Tm)(ρ:List Vw):(Tm.mk k i s l).val ρ=if k=1 then(ρ.reverse[i.toNat]?).getD .no else if k=2 then afm s.S λx=>acq (l.map λt=>t.val (ρ++[⟨s.S,x⟩]))else opV k (l.map λt=>t.val ρ):=by
 rw[Tm.val,Sy];simp only[aay]
def aaR{k:Int}(h:k≠2):fq k=0:=by unfold fq;rw[dK h]
def aeO(t:Tm):∀ρ1 e ρ2:List Vw,t.ok=true->(t.up ρ2.length e.length).val (ρ1++e++ρ2)=t.val (ρ1++ρ2):=by
 induction t using Tm.ind with
 |h k i s l ih=>
  intro ρ1 e ρ2 c;have hi:=(Tm.tx c).2.1;rw[Tm.fu,Tm.val_mk,Tm.val_mk]
  by_cases d:k=1
  ·subst d;rw[dR rfl,dR rfl]
   congr 1
   rw[aeR,aeR,aeR]
   by_cases f:(ρ2.length:Int)<=i
   ·rw[dR ⟨rfl,f⟩,tQ abu,tQ abu,tQ abu]
    congr 1
    simp;omega
   ·rw[dK (λh=>f h.2),vV abu,vV abu]
  ·rw[dK d,dK d]
   by_cases a:k=2
   ·subst a;rw[dR rfl,dR rfl]
    congr 1
    funext x
    rw[Bq]
    congr 1
    refine tN λy b=>?_;have:=ih y b ρ1 e (ρ2++[⟨s.S,x⟩]) (Tm.ey c y b);rw[show(((ρ2++[(⟨s.S,x⟩:Vw)]).length:Nat):Int)=(ρ2.length:Int)+fq 2 by simp[show fq 2=1 from rfl],<-tM,<-tM] at this;exact this
   ·rw[dK a,dK a,aaR a,sh,Bq]
    congr 1
    exact tN λy b=>ih y b ρ1 e ρ2 (Tm.ey c y b)
def Xu(t:Tm)(ρ e:List Vw)(a:t.ok=true):(t.up 0 e.length).val (ρ++e)=t.val ρ:=by
 have:=aeO t ρ e [] a;simpa using this
def vF(ρ:List Vw)(g:List Ty):Prop:=ρ.map Vw.s=g.map Ty.S
def vF.app{ρ:List Vw}{g:List Ty}(h:vF ρ g){v:Vw}{s:Ty}(a:v.s=s.S):vF (ρ++[v]) (g++[s]):=by
 unfold vF at*;rw[afX,afX,h];simp[a]
def Jk{v:Vw}{a b:B3}(h:v.s=.f a b):∃φ:a.D->b.D,v=⟨.f a b,φ⟩:=by
 cases v with
 |mk s d=>simp only at h;subst h;exact⟨d,rfl⟩
def zr{v:Vw}{a b:B3}(h:v.s=.p a b):∃(x:a.D) (y:b.D),v=⟨.p a b,(x,y)⟩:=by
 cases v with
 |mk s d=>simp only at h;subst h;exact⟨d.1,d.2,rfl⟩
def vC{f a:Vw}{s t:B3}(h:f.s=.f s t):(lU f a).s=t:=by
 obtain⟨φ,rfl⟩:=Jk h;rfl
def lO{g:List Ty}{x:Tm}{t:Ty}(h:dU g x t):∀ρ:List Vw,vF ρ g->(x.val ρ).s=t.S:=by
 induction h with
 |@var g t i hi hg=>
  intro ρ he
  have q:ρ.length=g.length:=by have:=congrArg List.length he;simpa using this
  rw[Tm.val_mk,dR rfl,show((i:Nat):Int).toNat=i from rfl,aeH VW,q]
  have l:(ρ.map Vw.s)[g.length-1-i]?=(g.map Ty.S)[g.length-1-i]?:=by rw[he]
  rw[zl,zl,hg] at l;cases j:ρ[g.length-1-i]?with
  |none=>rw[j] at l;cases l
  |some v=>rw[j] at l;exact kX l
 |@lam g s b t hs _ ih=>
  intro ρ he;rw[Tm.val_mk,dK aar,dR rfl,x8];show B3.f s.S _=_
  congr 1
  exact ih _ (he.app rfl)
 |app _ _ c d=>
  intro ρ he;rw[Tm.val_mk,dK aar,dK aar];exact vC (by rw[<-x8];exact c ρ he)
 |zero=>intro ρ _;rw[Tm.val_mk,dK aar,dK aar,oQ];rfl|succ _ _=>intro ρ _;rw[Tm.val_mk,dK aar,dK aar,oQ];rfl|@oN g t b s n _ _ _ _ c d o=>
  intro ρ he;rw[Tm.val_mk,dK aar,dK aar];show(uM (b.val ρ) (s.val ρ) _).s=_;have j:=d ρ he;rw[x8,x8] at j;generalize oZ (n.val ρ)=k
  induction k with
  |zero=>exact c ρ he|succ k _=>exact vC (vC j)
 |nil=>intro ρ _;rw[Tm.val_mk,dK aar,dK aar,Ph];rfl|cons _ _ _ _=>intro ρ _;rw[Tm.val_mk,dK aar,dK aar,Ph];rfl|@fold g t b s n _ _ _ _ c d o=>
  intro ρ he;rw[Tm.val_mk,dK aar,dK aar];show(JS (b.val ρ) (s.val ρ) _).s=_;have j:=d ρ he;rw[x8,x8,x8] at j;generalize NJ (n.val ρ)=k
  induction k with
  |nil=>exact c ρ he|cons h k _=>exact vC (vC (vC j))
 |pair _ _ _ c d=>
  intro ρ he;rw[Tm.val_mk,dK aar,dK aar,Vt,<-c ρ he,<-d ρ he];rfl
 |@fst g a s t _ ih=>
  intro ρ he;rw[Tm.val_mk,dK aar,dK aar];show(CC (a.val ρ)).s=_;obtain⟨x,y,e⟩:=zr (v:=a.val ρ) (by rw[<-Vt];exact ih ρ he);rw[e];rfl
 |@snd g a s t _ ih=>
  intro ρ he;rw[Tm.val_mk,dK aar,dK aar];show(zS (a.val ρ)).s=_;obtain⟨x,y,e⟩:=zr (v:=a.val ρ) (by rw[<-Vt];exact ih ρ he);rw[e];rfl
 |unit=>intro ρ _;rw[Tm.val_mk,dK aar,dK aar,aeV];rfl
def Xo{s:B3}{φ:s.D->Vw}{a:Vw}(b:a.s=s)(h:∀x,(φ x).s=(φ s.ZH).s):lU (afm s φ) a=φ (a.at s):=Vw.eta (h _)
def tL(s:Ty):s.kc s=true:=(Ty.kK s s).2 rfl
def vrs(k:Int)(i:Nat):Nat:=if k=8\/k=12 then 1 else if k=11\/k=15\/k=16 then i else if k=17 then 2*i else 0
def mot(k:Int):Nat:=if k=16\/k=17\/k=19 then 1 else 0
mutual
def Pf.al3(m:Int):Pf->Bool
 |.mk _ _ _ ts fs l=>ts.all (Tm.al3 m)&&fs.all (Fm.al3 m)&&Pf.vi m l
def Pf.vi(m:Int):List Pf->Bool
 |[]=>true|p::l=>p.al3 m&&Pf.vi m l
end
end Go.fF
namespace Go.fF
open Go
section
variable{G G':List Ty} {ψ:Tm->Int->Tm}
def MD(k:Int)(i:Nat):Nat:=if k=6 then 1 else if k=11\/k=15\/k=16\/k=17 then i else 0
mutual
def Pf.La(ψ:Tm->Int->Tm)(η:Nat->Nat->Int->Pf):Nat->Nat->Pf->Pf
 |d,h,.mk k i s ts fs l=>if k=1 then η d h i else .mk k i s (ts.map λt=>ψ t d) (fs.map λf=>f.La ψ ((d+mot k:Nat):Int)) (Pf.aim ψ η k 0 d h l)
def Pf.aim(ψ:Tm->Int->Tm)(η:Nat->Nat->Int->Pf)(k:Int):Nat->Nat->Nat->List Pf->List Pf
 |_,_,_,[]=>[]|i,d,h,p::l=>p.La ψ η (d+vrs k i) (h+MD k i)::Pf.aim ψ η k (i+1) d h l
end
def Pf.Ws(P:Pf):Prop:=P.ok=true/\P.small=true
def Ru:pP 3:=.inl rfl
def MT:pP 4:=.inr (.inl rfl)
def rR.eq_inv{d:Fm}{a b:Tm}(h:rR d (.mk 1 .z [a,b] [])):∃f i,d=.mk 1 .z [f,i] []/\Cv f a/\Cv i b:=by
 generalize c:Fm.mk 1 .z [a,b] []=y at h;cases h with
 |eq j k=>simp at c;obtain⟨rfl,rfl⟩:=c;exact⟨_,_,rfl,j,k⟩
 |two=>simp at c
 |q=>simp at c
def rR.SG{k:Int}{d a b:Fm}(h:rR d (.mk k .z [] [a,b])):∃f i,d=.mk k .z [] [f,i]/\rR f a/\rR i b:=by
 generalize c:Fm.mk k .z [] [a,b]=y at h;cases h with
 |eq=>simp at c
 |two j l=>simp at c;obtain⟨rfl,rfl,rfl⟩:=c;exact⟨_,_,rfl,j,l⟩
 |q=>simp at c
def rR.aiE{k:Int}{s:Ty}{c a:Fm}(h:rR c (.mk k s [] [a])):∃d,c=.mk k s [] [d]/\rR d a:=by
 generalize b:Fm.mk k s [] [a]=y at h;cases h with
 |eq=>simp at b
 |two=>simp at b
 |q f=>simp at b;obtain⟨rfl,rfl,rfl⟩:=b;exact⟨_,rfl,f⟩
def Dv.hg{L:List Fm}{g:List Ty}{hs:List Fm}{P:Pf}{f:Fm}{m:Nat}(h:Dv L g hs P f m):Hg g f:=by
 cases h with
 |hyp _ _ _ h=>exact h|mC _ _ h=>exact⟨h.err,by simpa using h.ty.front g⟩|IT _ _ h=>exact h|aau _ h=>exact h|aak _ h=>exact h|O8 _ _ _ h=>exact h|PE _ _ _ _ _ h=>exact h|all _ _ _ _ h=>exact h|ZG _ a _ _ b hn=>exact jJ b.ty a hn|ex _ h=>exact h|X9 _ _ _ _ _ _ _ _ _ h=>exact h|ind hF a _ _ _ _ _ _ _ _ _ _ _ hn=>exact jJ hF.ty a hn|lists hF a _ _ _ _ _ _ _ _ _ _ _ hn=>exact jJ hF.ty a hn|refl _ _ h=>exact h|subst hF _ _ hu _ _ _ _ _ _ hn=>exact jJ hF.ty hu hn|choice _ _ _ _ _ _ h=>exact h
end
def yo{g:List Ty}{x:Tm}{s:Ty}(h:dU g x s)(hg:jc g)(a:g.length+x.alZ<=1000000):qQ x g s.alX=0:=by
 unfold qQ;rw[mX h hg a,dK (λh=>h.2 rfl)]
def abS{g c:List Ty}{a b:Fm}(d:Hg g a)(f:Hg c b)(i:g.length<=1000000)(j:c.length<=1000000)(h:rR a b):Az a b=0\/pP (Az a b):=by rw[EF d f i j];exact h.DT
end Go.fF
namespace Go.fF
open Go
def Pf.Ws.parts{k i:Int}{s:Ty}{ts:List Tm}{fs:List Fm}{l:List Pf}(h:(Pf.mk k i s ts fs l).Ws):(∀t∈ts,t.err=0)/\(∀f∈fs,f.err=0)/\∀p∈l,p.Ws:=by
 obtain⟨a,b⟩:=h;rw[Pf.hI] at a;rw[Pf.BE] at b;simp only[hE,ll] at a b;refine⟨λt d=>Tm.oJ (a.1.1.2 t d) ?_,λf j=>Fm.oJ (a.1.2 f j) ?_,λp c=>⟨a.2 p c,b.2 p c⟩⟩
 ·grind[T8]
 ·grind[UR]
def aap{g:List Ty}{s:Ty}{F f:Fm}{t:Tm}{m:Nat}(hF:iW (g++[s]) F)(b:dU g t s)(c:Hg g f)(hg:g.length<=1000000)(d:rR (Fm.gp 0 F t) f):(∃e,pP e/\B7 (.inl (f,m)) F t=.inr e)\/B7 (.inl (f,m)) F t=.inl (f,m):=by
 unfold B7;rw[fl];rcases mw F t with a|⟨hn,a⟩
 ·rw[a];exact .inl ⟨4,MT,rfl⟩
 ·rw[a,fS rfl];rcases abS (jJ hF b hn) c hg hg d with e|e
  ·grind[fS]
  ·rw[jn (by rcases e with e|e|e<;>rw[e]<;>decide)];exact .inl ⟨_,e,rfl⟩
def aaP(F:Fm)(t:Tm)(u:Nat):jI (kM F t).2 (.inl ((kM F t).1,u))=.inr 4\/jI (kM F t).2 (.inl ((kM F t).1,u))=.inl (Fm.gp 0 F t,u):=by
 rcases mw F t with a|⟨_,a⟩
 ·rw[a];exact .inl rfl
 ·rw[a];exact .inr rfl
def dU.fix{g:List Ty}{t:Tm}{s:Ty}(h:dU g t s):∀d:Int,(g.length:Int)<=d->(∀c,t.up d c=t)/\∀a,Tm.gp d t a=t:=by
 induction h with
 |@var g s i hi hs=>
  intro d b;refine⟨λc=>by rw[Tm.fu,dK VW];rfl,λa=>?_⟩;rw[Tm.eS,dR rfl];unfold Tm.kH;rw[dK VW,dK VW]
 |lam hs _ ih=>
  intro d b;have:=ih (d+1) abu;exact⟨λc=>by rw[Tm.fu];simp[show fq 2=1 from rfl,this.1],λa=>by rw[Tm.eS];simp[show fq 2=1 from rfl,this.2]⟩
 |app _ _ f j=>intro d b;exact⟨λc=>by rw[Tm.fu];simp[show fq 3=0 from rfl,(f d b).1,(j d b).1],λa=>by rw[Tm.eS];simp[show fq 3=0 from rfl,(f d b).2,(j d b).2]⟩|zero=>intro d b;exact⟨λc=>by rw[Tm.fu];simp,λa=>by rw[Tm.eS];simp⟩|succ _ ih=>intro d b;exact⟨λc=>by rw[Tm.fu];simp[show fq 5=0 from rfl,(ih d b).1],λa=>by rw[Tm.eS];simp[show fq 5=0 from rfl,(ih d b).2]⟩|oN _ _ _ _ f j k=>intro d b;exact⟨λc=>by rw[Tm.fu];simp[show fq 6=0 from rfl,(f d b).1,(j d b).1,(k d b).1],λa=>by rw[Tm.eS];simp[show fq 6=0 from rfl,(f d b).2,(j d b).2,(k d b).2]⟩|nil=>intro d b;exact⟨λc=>by rw[Tm.fu];simp,λa=>by rw[Tm.eS];simp⟩|cons _ _ f j=>intro d b;exact⟨λc=>by rw[Tm.fu];simp[show fq 8=0 from rfl,(f d b).1,(j d b).1],λa=>by rw[Tm.eS];simp[show fq 8=0 from rfl,(f d b).2,(j d b).2]⟩|fold _ _ _ _ f j k=>intro d b;exact⟨λc=>by rw[Tm.fu];simp[show fq 9=0 from rfl,(f d b).1,(j d b).1,(k d b).1],λa=>by rw[Tm.eS];simp[show fq 9=0 from rfl,(f d b).2,(j d b).2,(k d b).2]⟩|pair _ _ _ f j=>intro d b;exact⟨λc=>by rw[Tm.fu];simp[show fq 10=0 from rfl,(f d b).1,(j d b).1],λa=>by rw[Tm.eS];simp[show fq 10=0 from rfl,(f d b).2,(j d b).2]⟩|fst _ ih=>intro d b;exact⟨λc=>by rw[Tm.fu];simp[show fq 11=0 from rfl,(ih d b).1],λa=>by rw[Tm.eS];simp[show fq 11=0 from rfl,(ih d b).2]⟩|snd _ ih=>intro d b;exact⟨λc=>by rw[Tm.fu];simp[show fq 12=0 from rfl,(ih d b).1],λa=>by rw[Tm.eS];simp[show fq 12=0 from rfl,(ih d b).2]⟩|unit=>intro d b;exact⟨λc=>by rw[Tm.fu];simp,λa=>by rw[Tm.eS];simp⟩
def Mw{L:List Fm}{g:List Ty}{hs:List Fm}(a:uc L ⟨g,hs⟩){i:Nat}{f:Fm}(h:hs.reverse[i]?=some f):(Pf.mk 1 (i:Int) .z [] [] []).inf L g hs=.inl (f,0):=by
 have hi:i<hs.length:=by simpa using(s7.1 h).1
 rw[aeH hi] at h;have b:Hg g f:=a.al4 f (H9 h);rw[Pf.gV,So,hD VW,show((i:Nat):Int).toNat=i from rfl,x',h];show sY (.inl (f,0))=_;rw[II b.err]
 split<;>rfl
end Go.fF
namespace Go.fF
open Go
section
variable{L:List Fm} {g:List Ty} {hs:List Fm}
def HZ(r:PR)(f:Fm):Prop:=(∃e,pP e/\r=.inr e)\/∃a b,r=.inl (a,b)/\rR a f
def Tk(L:List Fm)(g:List Ty)(hs:List Fm)(P:Pf)(f:Fm):Prop:=uc L ⟨g,hs⟩->P.Ws->(∃e,pP e/\P.inf L g hs=.inr e)\/∃a b,P.inf L g hs=.inl (a,b)/\rR a f/\Hg g a
def HZ.yU{e:Int}{f:Fm}(h:pP e):HZ (sY (.inr e)) f:=.inl ⟨e,h,rfl⟩
def HZ.gG{a f:Fm}{m:Nat}(h:rR a f):HZ (sY (.inl (a,m))) f:=by
 by_cases he:a.err=0
 ·rw[II he];exact .inr ⟨_,_,rfl,h⟩
 ·rw[Tt he];exact .inl ⟨4,MT,rfl⟩
def Tk.of{P:Pf}{f:Fm}(h:uc L ⟨g,hs⟩->P.Ws->HZ (P.inf L g hs) f):Tk L g hs P f:=λa hw=>by
 rcases h a hw with h|⟨b,c,d,i⟩
 ·exact .inl h
 ·exact .inr ⟨b,c,d,i,(Dv.of (P.w hw.1 hw.2) g hs b c a d).2⟩
def Tk.cv{P:Pf}{f a:Fm}(h:Tk L g hs P f)(b:rR f a):Tk L g hs P a:=λc hw=>by
 rcases h c hw with h|⟨x,m,d,i,j⟩
 ·exact .inl h
 ·exact .inr ⟨x,m,d,i.trans b,j⟩
def JR{e:Int}(h:pP e):e≠0:=by rcases h with h|h|h<;>rw[h]<;>decide
def Eo{g:List Ty}{s:Ty}{F f:Fm}{t:Tm}{m:Nat}(hF:iW (g++[s]) F)(a:dU g t s)(b:Hg g f)(hg:g.length<=1000000)(c:rR (Fm.gp 0 F t) f):(∃e,pP e/\B7 (.inl (f,m)) F t=.inr e)\/B7 (.inl (f,m)) F t=.inl (f,m):=aap hF a b hg c
def Tk.hyp{i:Nat}{a f:Fm}(h:hs.reverse[i]?=some a)(b:rR a f):Tk L g hs (.mk 1 (i:Int) .z [] [] []) f:=
 .of λc _=>.inr ⟨a,0,Mw c h,b⟩
def Tk.IT{a b:Pf}{x y:Fm}(f:Tk L g hs a x)(h:Tk L g hs b y):Tk L g hs (.mk 3 0 .z [] [] [a,b]) (.mk 2 .z [] [x,y]):=.of λd hw=>by
 obtain⟨_,_,wp⟩:=hw.parts;rw[Pf.gV,Ns];rcases f d (wp _ aaA)with⟨e,he,q⟩|⟨k,l,q,i,t1⟩
 ·rw[q];exact .yU he
 rcases h d (wp _ aaA)with⟨e,he,c⟩|⟨n,n',c,j,t2⟩
 ·rw[q,c];exact .yU he
 rw[q,c];exact .gG (.two i j)
def Tk.ag8{a:Pf}{x y:Fm}(c:Tk L g hs a (.mk 2 .z [] [x,y])):Tk L g hs (.mk 4 0 .z [] [] [a]) x:=.of λd hw=>by
 obtain⟨_,_,wp⟩:=hw.parts;rw[Pf.gV,Ny];rcases c d (wp _ aaA)with⟨e,he,q⟩|⟨f,h,q,b,t1⟩
 ·rw[q];exact .yU he
 obtain⟨i,j,rfl,b,k⟩:=b.SG;rw[q,s6 (Fm.eK 2 .z [] _),fl];exact .gG b
def Tk.aki{a:Pf}{x y:Fm}(c:Tk L g hs a (.mk 2 .z [] [x,y])):Tk L g hs (.mk 5 0 .z [] [] [a]) y:=.of λd hw=>by
 obtain⟨_,_,wp⟩:=hw.parts;rw[Pf.gV,MX];rcases c d (wp _ aaA)with⟨e,he,q⟩|⟨h,i,q,b,t1⟩
 ·rw[q];exact .yU he
 obtain⟨j,k,rfl,b,f⟩:=b.SG;rw[q,s6 (Fm.eK 2 .z [] _),fl];exact .gG f
def Tk.allI{s:Ty}{a:Pf}{f:Fm}(b:s.err=0)(d:Tk L (g++[s]) (hs.map (Fm.up 0 1)) a f):Tk L g hs (.mk 8 0 s [] [] [a]) (.mk 4 s [] [f]):=.of λh hw=>by
 obtain⟨_,_,wp⟩:=hw.parts;rw[Pf.gV]
 by_cases c:16<g.length+1
 ·rw[GG,kg c];exact .yU Ru
 rcases d (h.nZ b VW) (wp _ aaA)with⟨e,he,q⟩|⟨j,k,q,i,t1⟩
 ·rw[GG,hD c,q];exact .yU he
 rw[GG,hD c,q,fl];exact .gG (.q i)
theorem Tk.refl{t:Tm}(f:dU g t .nat):Tk L g hs (.mk 18 0 .z [t] [] []) (.mk 1 .z [t,t] []):=.of λb hw=>by
 obtain⟨wt,_,wp⟩:=hw.parts;have h:g.length<=16:=b.nv;have a:t.err=0:=wt _ aaA;obtain⟨c,i⟩:=i_ a;have d:=yo f b.ctx VW;rw[show Ty.nat.alX=1 from rfl] at d;rw[Pf.gV,ND,fS d];exact .gG (.eq (.refl c) (.refl c))
def Tk.exI{t:Tm}{s:Ty}{a:Pf}{x:Fm}(f:dU g t s)(hF:iW g (.mk 5 s [] [x]))(h:iW (g++[s]) x)(i:Tk L g hs a (Fm.gp 0 x t)):Tk L g hs (.mk 10 0 .z [t] [.mk 5 s [] [x]] [a]) (.mk 5 s [] [x]):=.of λc hw=>by
 obtain⟨wt,wf,wp⟩:=hw.parts;have j:g.length<=16:=c.nv;have d:t.err=0:=wt _ aaA;obtain⟨r,k⟩:=i_ d;have b:Hg g (.mk 5 s [] [x]):=⟨wf _ aaA,hF⟩;have:=b.alZ;rw[Pf.gV,ME,fS (lh b.ty c.ctx VW),hD aaA,mX f c.ctx VW,fS rfl,hD (by show¬s.kc s=false;rw[tL];decide)];rcases i c (wp _ aaA)with⟨e,he,q⟩|⟨l,n,q,o,t1⟩
 ·rw[q];exact .yU he
 rw[q];show HZ (sY (pbind (B7 (.inl (l,n)) x t) λ_ m=>.inl (.mk 5 s [] [x],m|||tg t))) _;rcases Eo h f t1 VW o.symm with⟨e,he,q2⟩|q2
 ·rw[q2];exact .yU he
 ·rw[q2,fl];exact .gG (.refl hF)
def Tk.subst{F:Fm}{a b:Pf}{t u:Tm}(hF:iW (g++[.nat]) F)(l:Tk L g hs a (.mk 1 .z [t,u] []))(o:Tk L g hs b (Fm.gp 0 F t)):Tk L g hs (.mk 19 0 .z [] [F] [a,b]) (Fm.gp 0 F u):=.of λd hw=>by
 obtain⟨_,wf,wp⟩:=hw.parts;have r:g.length<=16:=d.nv;have c:Hg (g++[.nat]) F:=⟨wf _ aaA,hF⟩;have s:=c.alZ;rw[Pf.gV,Iw,fS (lh c.ty d.ctx.nat (by simp only[nB,mN,CD];omega))];rcases l d (wp _ aaA)with⟨e,he,q⟩|⟨I,J,q,v,t1⟩
 ·rw[q];exact .yU he
 obtain⟨h,f,rfl,ct,w⟩:=v.eq_inv
 obtain⟨i,A⟩:dU g h .nat/\dU g f .nat:=by
  obtain⟨x,y,e,B,C⟩:=t1.ty.YW (Fm.eK _ _ _ _);simp at e;obtain⟨rfl,rfl⟩:=e;exact⟨B,C⟩
 rw[q,s6 (Fm.eK 1 .z _ _),fl];show HZ (sY (pbind (B7 (b.inf L g hs) F h) λ_ n=>jI (kM F f).2 (.inl ((kM F f).1,n)))) _;rcases o d (wp _ aaA)with⟨e,he,j⟩|⟨D,n',j,G,t2⟩
 ·rw[j];exact .yU he
 have H:rR (Fm.gp 0 F h) D:=((rR.refl hF).gp ct VW).trans G.symm;rw[j];rcases Eo hF i t2 VW H with⟨e,he,q3⟩|q3
 ·rw[q3];exact .yU he
 rw[q3,fl];rcases mw F f with k|⟨_,k⟩
 ·rw[k];exact .yU MT
 rw[k,fS rfl];exact .gG ((rR.refl hF).gp w VW)
def Tk.exE{s:Ty}{a b:Pf}{x y:Fm}(d:s.err=0)(A:Tk L g hs a (.mk 5 s [] [x]))(B:iW g y)(C:∀c,rR c x->iW (g++[s]) c->Tk L (g++[s]) (hs.map (Fm.up 0 1)++[c]) b (y.up 0 1)):Tk L g hs (.mk 11 0 .z [] [] [a,b]) y:=.of λj hw=>by
 obtain⟨_,_,wp⟩:=hw.parts;have D:g.length<=16:=j.nv;rw[Pf.gV,FD];rcases A j (wp _ aaA)with⟨e,he,q⟩|⟨K,k,q,F,t1⟩
 ·rw[q];exact .yU he
 obtain⟨c,rfl,G⟩:=F.aiE
 have h:Hg (g++[s]) c:=by
  obtain⟨u,v,e,M,H⟩:=t1.ty.w8 (Fm.eK _ _ _ _) (.inr (.inl rfl));simp at e;obtain⟨rfl,rfl⟩:=e;exact t1.sub aaA H
 have i:GF (.inl (Fm.mk 5 s [] [c],k)) 5=.inl (Fm.mk 5 s [] [c],k):=s6 (Fm.eK _ _ _ _);rw[q,i,fl]
 by_cases t:16<g.length+1\/16<hs.length+1
 ·rw[kg t];exact .yU Ru
 rw[hD t];have l:=(j.nZ d VW).with (f:=c) h (by show(hs.map (Fm.up 0 1)).length+1<=16;simp;omega);rcases C c G h.ty l (wp _ aaA)with⟨e,he,n⟩|⟨o,n',n,I,t2⟩
 ·exact(congrArg (λr=>HZ (sY (pbind r _)) _) n).mpr (.yU he)
 refine(congrArg (λr=>HZ (sY (pbind r _)) _) n).mpr ?_
 have key:∀w:PR,((xj o).2=0->w=.inl ((xj o).1,k|||n'/2))->HZ (sY (jI (xj o).2 w)) y:=by
  intro w hw;rcases aav t2 VW d B I with e|⟨e,J⟩
  ·rw[jn (JR e)];exact .yU e
  ·rw[fS e,hw e];exact .gG J
 exact key _ λ_=>rfl
end
end Go.fF
namespace Go.fF
open Go
def ahf{L:List Fm}{q:Sq}{P:Pf}(h:uc L q)(a:P.wt<=1000000000)(he:P.err=0){e:Int}(hi:P.inf L q.al1 q.al4=.inr e):ns L q P=some (⟨iK,[]⟩,e):=by
 rcases J0 h.b a with⟨d,_,q1,c⟩|⟨f,m,l,q1,_⟩
 ·rw[IC h he,hi] at q1;rw[c,Sum.inr.inj q1]
 ·rw[IC h he,hi] at q1;cases q1
def Wt{L:List Fm}{q:Sq}{P:Pf}(h:uc L q)(c:P.wt<=1000000000)(he:P.err=0){f:Fm}{m:Nat}(hi:P.inf L q.al1 q.al4=.inl (f,m)):∃l,ns L q P=some (⟨f,l⟩,0)/\Us l m/\Hg q.al1 f:=by
 rcases J0 h.b c with⟨i,_,q1,a⟩|⟨j,k,l,q1,a,hu,d,_⟩
 ·rw[IC h he,hi] at q1;cases q1
 ·rw[IC h he,hi] at q1;obtain⟨rfl,rfl⟩:=iU (yE q1);exact⟨l,a,hu,d⟩
end Go.fF
set_option maxRecDepth 20000
namespace Go.fF
open Go
section
variable{a:Fm} {g:List Ty}
section
variable{L:List Fm} {g:List Ty} {hs:List Fm} {F G K:Fm}
end
end
end Go.fF
set_option maxRecDepth 20000
namespace Go.fF
open Go
def rq(t:Tm):∀f,t.up f 0=t:=by
 induction t using Tm.ind with
 |h k i s l ih=>
  intro f
  have:l.map (Tm.up (f+fq k) 0)=l:=by
   refine(tN (g:=id) λx a=>?_).trans aaA;exact ih x a _
  rw[Tm.fu,this]
  congr 1
  split<;>omega
def Tq{g:List Ty}{t:Tm}{s:Ty}(h:dU g t s)(x:Tm):Tm.gp 0 (t.up 0 1) x=t:=by
 have:=RC x t 0 0 0 h.ok VW VW VW
 rwa [show(0:Int)+1=1 from rfl,rq] at this
end Go.fF
set_option maxRecDepth 20000
namespace Go.fF
open Go
section
variable{L:List Fm} {g:List Ty} {hs:List Fm}
def Tk.ind{F:Fm}{t:Tm}{a b:Pf}(hF:iW (g++[.nat]) F)(j:dU g t .nat)(l:Tk L g hs a (Fm.gp 0 F iF))(n:Tk L (g++[.nat]) (hs.map (Fm.up 0 1)++[F]) b (Fm.gp 0 (F.up 1 1) (gE v0))):Tk L g hs (.mk 16 0 .z [t] [F] [a,b]) (Fm.gp 0 F t):=.of λd hw=>by
 obtain⟨wt,wf,wp⟩:=hw.parts;have o:g.length<=16:=d.nv;have c:Hg (g++[.nat]) F:=⟨wf _ aaA,hF⟩;have s:=c.alZ;rw[Pf.gV,Ip,fS (lh c.ty d.ctx.nat (by simp only[nB,mN,CD];omega)),fS (show qQ _ _ 1=0 from yo j d.ctx (by have:=(i_ (wt t aaA)).2;omega))];rcases l d (wp _ aaA)with⟨e,he,q⟩|⟨w,m',q,u,t1⟩
 ·rw[q];exact .yU he
 rw[q];rcases Eo (m:=m') hF (t:=iF) .zero t1 VW u.symm with⟨e,he,q2⟩|q2
 ·rw[q2];exact .yU he
 rw[q2,fl]
 by_cases k:16<g.length+1\/16<hs.length+1
 ·rw[kg k];exact .yU Ru
 rw[hD k];have h:=(d.nZ Ty.fW VW).with (f:=F) c (by show(hs.map (Fm.up 0 1)).length+1<=16;simp;omega);rcases n h (wp _ aaA)with⟨e,he,i⟩|⟨x,n',i,v,t2⟩
 ·refine(congrArg (λr=>HZ (sY (pbind (B7 r _ _) _)) _) i).mpr (.yU he)
 refine(congrArg (λr=>HZ (sY (pbind (B7 r _ _) _)) _) i).mpr ?_;rcases Eo (m:=n') c.Ul.ty (t:=gE v0) (.succ hU) t2 (by simp only[nB,mN,CD];omega) v.symm with⟨e,he,q4⟩|q4
 ·rw[q4];exact .yU he
 rw[q4,fl];rcases aaP F t ((tg t|||m')|||n'/2)with e|e
 ·rw[e];exact .yU MT
 rw[e];exact .gG (.refl (hF.put j))
end
structure Cl (t:Tm):Prop where
 up:∀n c:Int,0<=n->t.up n c=t
 gp:∀(n:Int) (a:Tm),0<=n->Tm.gp n t a=t
def dU.cl{t:Tm}{s:Ty}(h:dU [] t s):Cl t:=⟨λn c hn=>(h.fix n (by simpa using hn)).1 c,λn a hn=>(h.fix n (by simpa using hn)).2 a⟩
def dU.cls{t:Tm}{s:Ty}(h:dU [] t s)(g:List Ty):dU g t s:=by
 have:=h.lift g
 rwa [h.cl.up 0 _ VW,oa] at this
def v2:Tm:=.mk 1 2 (.mk 0 []) []
def v3:Tm:=.mk 1 3 (.mk 0 []) []
def Kp{g:List Ty}{t a b:Ty}:dU (g++[t]++[a]++[b]) v2 t:=dU.var 2 aaA aaA
abbrev yk(a b:Tm):Fm:=.mk 1 .z [a,b] []
abbrev AI(s:Tm):Fm:=.mk 5 .nat [] [yk v0 (s.up 0 1)]
abbrev qq(g x y:Tm):Tm:=fi (fi g x) y
abbrev yz(b g n:Tm):Tm:=.mk 6 0 .nat [b,g,n]
abbrev wT(t:Tm):Pf:=.mk 18 0 .z [t] [] []
abbrev NO(i:Int):Pf:=.mk 1 i .z [] [] []
abbrev GP(s t:Tm)(p:Pf):Pf:=.mk 10 0 .z [t] [AI s] [p]
abbrev Fb(f:Fm)(p q:Pf):Pf:=.mk 19 0 .z [] [f] [p,q]
abbrev UW(p q:Pf):Pf:=.mk 11 0 .z [] [] [p,q]
def age{g:List Ty}{s t:Tm}(hs:dU g s .nat):Fm.gp 0 (yk v0 (s.up 0 1)) t=yk t s:=by
 rw[Fm.eS];simp only[kZ,mr,Tq hs]
 have a:Tm.gp 0 v0 t=t:=by
  unfold v0;rw[Tm.eS,dR rfl];unfold Tm.kH;rw[dR rfl,rq]
 rw[a]
def acZ{g:List Ty}{s:Tm}(hs:dU g s .nat):iW (g++[.nat]) (yk v0 (s.up 0 1)):=.eq hU (hs.lift [.nat])
def BL{g:List Ty}{s:Tm}(hs:dU g s .nat):iW g (AI s):=.q (.inr (.inl rfl)) Ty.fW (acZ hs)
def Tk.shown{L:List Fm}{g:List Ty}{hs:List Fm}{s t:Tm}{P:Pf}(a:dU g s .nat)(b:dU g t .nat)(h:Tk L g hs P (yk t s)):Tk L g hs (GP s t P) (AI s):=Tk.exI b (BL a) (acZ a) (by rw[age a];exact h)
end Go.fF
set_option maxRecDepth 20000
set_option maxHeartbeats 2000000
namespace Go.fF
open Go
abbrev vy:=dJ
abbrev S1:=dW
abbrev zRs:vy:=.mk 0 [] [] (Tm.mk 0 0 (Ty.mk 0 []) []) []
abbrev mc(M u:Nat)(o:Bool):S1:=⟨(u:Int),(M:Int),o⟩
def Oc(M:Nat)(o:Option (vy×S1))(u B:Nat)(K:vy->Nat->Prop):Prop:=∃r a out,o=some (r,mc M a out)/\u<=a/\a<=M/\(out=false->u<a/\K r (B+(a-u)))
def Rnm(d:Nat)(r:vy)(B:Nat):Prop:=r.num=(d:Int)/\d<=B
def Rls(d:List Nat)(r:vy)(B:Nat):Prop:=r.list=d.map (λ(x:Nat)=>(x:Int))/\d.length<=B/\∀x∈d,x<=B
def RT(M:Nat):(s:B3)->s.D->vy->Nat->Prop
 |.n,d,r,B=>Rnm d r B|.l,d,r,B=>Rls d r B|.u,_,_,_=>True|.p a b,d,r,B=>∃x y,r.pair=[x,y]/\RT M a d.1 x B/\RT M b d.2 y B|.f a b,φ,r,B=>∀(x:a.D) (c:vy) (B' u n:Nat),B<=B'->B'+(M-u)<=100000000->RT M a x c B'->u<=M->2*(M-u)+2<=n->Oc M (eI n (mc M u false) r c) u B' (RT M b (φ x))
theorem RT.mono{M:Nat}:∀(s:B3) {d:s.D} {r:vy} {B B':Nat},RT M s d r B->B<=B'->RT M s d r B'
 |.n,_,_,_,_,h,c=>⟨h.1,A5 h.2 c⟩|.l,_,_,_,_,h,c=>⟨h.1,A5 h.2.1 c,λx j=>A5 (h.2.2 x j) c⟩|.u,_,_,_,_,_,_=>trivial|.p a b,_,_,_,_,h,c=>by
  obtain⟨x,y,i,k,o⟩:=h;exact⟨x,y,i,RT.mono a k c,RT.mono b o c⟩
 |.f a b,_,_,_,_,h,c=>λx q B' u n i=>h x q B' u n (A5 c i)
def RV(M:Nat)(v:Vw)(r:vy)(B:Nat):Prop:=RT M v.s v.d r B
theorem RV.mono{M:Nat}{v:Vw}{r:vy}{B B':Nat}(h:RV M v r B)(a:B<=B'):RV M v r B':=RT.mono _ h a
def RV.at{M:Nat}{v:Vw}{s:B3}{r:vy}{B:Nat}(h:RV M v r B)(hs:v.s=s):RT M s (v.at s) r B:=by
 subst hs;cases v;rw[Vw.xl];exact h
def RE(M:Nat)(ρ:List Vw)(env:List vy)(B:Nat):Prop:=ρ.length=env.length/\∀(i:Nat) v r,ρ[i]?=some v->env[i]?=some r->RV M v r B
theorem RE.mono{M:Nat}{ρ:List Vw}{env:List vy}{B B':Nat}(h:RE M ρ env B)(a:B<=B'):RE M ρ env B':=⟨h.1,λi v r b c=>(h.2 i v r b c).mono a⟩
def RE.app{M:Nat}{ρ:List Vw}{env:List vy}{B:Nat}(h:RE M ρ env B){v:Vw}{r:vy}(c:RV M v r B):RE M (ρ++[v]) (env++[r]) B:=by
 refine⟨by simp[h.1],λi d f a b=>?_⟩
 by_cases hi:i<ρ.length
 ·rw[vV hi] at a;rw[vV (by rw[<-h.1];exact hi)] at b;exact h.2 i d f a b
 ·rw[tQ VW] at a;rw[tQ (by rw[<-h.1];omega),<-h.1] at b;generalize i-ρ.length=j at a b;cases j with
  |zero=>simp at a b;subst a;subst b;exact c
  |succ j=>simp at a
def Oc.out{M u u0 B:Nat}{r:vy}{K:vy->Nat->Prop}(h:u0<=u)(a:u<=M):Oc M (some (r,mc M u true)) u0 B K:=⟨r,u,true,rfl,h,a,λh=>by cases h⟩
def Oc.is{M u u0 B:Nat}{r:vy}{K:vy->Nat->Prop}(h:u0<u)(a:u<=M)(b:K r (B+(u-u0))):Oc M (some (r,mc M u false)) u0 B K:=⟨r,u,false,rfl,VW,a,λ_=>⟨h,b⟩⟩
def aaG(n:Nat)(env:List vy):Int->Tm->(List vy×S1)->Option (gq (List vy×S1) (vy×S1)):=λ_ c=>yn λv105 b=>
 dV (fB n b c env) λa d127=>
 gG (fN v105 [a])<|if d127.out then some (.ret (zRs,d127))else some (.next (fU v105 [a],d127))
def S6{M n:Nat}{env:List vy}{ρ:List Vw}(Z:List vy×S1->Option (vy×S1)):∀(l:List Tm) (j:Nat) (acc:List vy) (u B:Nat),u<=M->acc.length+l.length<=1000->(∀a∈l,∀c,u<=c->c<=M->Oc M (fB n (mc M c false) a env) c (B+(c-u)) (RV M (a.val ρ)))->(∃c,u<=c/\c<=M/\dH (fw (aaG n env) l j (acc,mc M u false)) (fO Z (λr=>some r))=some (zRs,mc M c true))\/∃rs c,u<=c/\c<=M/\dH (fw (aaG n env) l j (acc,mc M u false)) (fO Z (λr=>some r))=Z (acc++rs,mc M c false)/\rs.length=l.length/\∀(i:Nat) a r,l[i]?=some a->rs[i]?=some r->RV M (a.val ρ) r (B+(c-u))
 |[],j,acc,u,B,hu,k,h=>.inr ⟨[],u,g_ u,hu,by rw[pq,dI,eC,AE],rfl,λi a r d _=>by simp at d⟩
 |a::l,j,acc,u,B,hu,k,h=>by
  obtain⟨r,u1,out,q,s,o,t⟩:=h a aaA u (g_ u) hu;rw[mN] at k;rw[fY];unfold aaG;rw[lS,q,dQ,fm abu,ed];cases out with
  |true=>left;exact⟨u1,s,o,rfl⟩|false=>
   obtain⟨y,v⟩:=t rfl;rw[dK aaA,dI,fk]
   have hn:∀b∈l,∀c,u1<=c->c<=M->Oc M (fB n (mc M c false) b env) c (B+(u1-u)+(c-u1)) (RV M (b.val ρ)):=λb w c d f=>by
    have:=h b (by simp[w]) c VW f
    rwa [show B+(u1-u)+(c-u1)=B+(c-u) by omega]
   rcases S6 Z l (j+1) (fU acc [r]) u1 (B+(u1-u)) o (by simp[iv];omega) hn with⟨c,a1,a2,a3⟩|⟨rs,c,a1,a2,a3,a4,a5⟩
   ·left;exact⟨c,VW,a2,a3⟩
   ·right;refine⟨r::rs,c,VW,a2,by rw[show(fU acc [r]++rs)=acc++r::rs by simp[iv]] at a3;exact a3,by simp[a4],λi b x d f=>?_⟩;cases i with
    |zero=>
     simp at d f;subst d;subst f
     have:B+(u-u)=B:=VW
     exact v.mono VW
    |succ i=>
     simp at d f;exact(a5 i b x d f).mono VW
end Go.fF
