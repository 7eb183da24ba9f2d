/- Part of the proof of SchemeAccepted: plain facts. -/
import Derived.Test.YtpgdkkomegalnaaGreatDoorPA1
set_option linter.all false
namespace Go.fN
open Go
def Gh{a i b c:Int}(d:-1000000000000000<=i)(f:i<=1000000000000000)(j:0<=b)(k:b<=10000000000)(l:0<=c)(n:c<=10000000000):oA i b a c=some (c+if i-b=a then 1 else 0):=by
 unfold oA;rw[fZ xL xL]
 by_cases h:i-b=a
 ·rw[dO (by simpa[ee] using h),dO h,fW xL xL]
 ·rw[dI (by simpa[ee] using h),dI h,sx]
def Gt(a:Int):∀(n:Nat) (t:Tm) (b c:Int),t.an8<=n->t.an8<=50000000->t.ok=true->t.aoa 1000000000000=true->0<=b->b+t.an8<=1000000000->0<=c->c+t.an8<=1000000000->k7 n t b (λ(s:Int) (f:Int) (o:Int)=>oA f o a s) c=some (c+(t.aoc (a+b):Int)):=by
 intro n
 induction n with
 |zero=>intro t b c h;have:=t.eE;omega
 |succ n ih=>
  intro t b c hn C D A F q B G;cases t with
  |mk k i s l=>
   rw[Tm.dJ] at hn C q G;have hlen:=Tm.fF l;have hi:=Tm.pe D;rw[Tm.fD,gE,SJ,kE] at A;have H:=iY k;rw[k7,Tm.fg];simp only[d_]
   have loop:∀(ts:List Tm) (j:Nat) (v:Int),(∀t∈ts,t∈l)->0<=v->v+eb Tm.an8 ts<=1000000000->eV (λ(I:Int) (r:Tm)=>(λ(v28:Int)=>
      dE (k7 n r (b+eP k) (λ(s:Int) (f:Int) (o:Int)=>oA f o a s) v28) λw=>
      some ((.next w):fV Int Int))) ts j v=some (.inl (v+(eb (Tm.aoc (a+b+eP k)) ts:Int))):=by
    intro ts
    induction ts with
    |nil=>intro j v _ _ _;simp[eb]|cons t ts x=>
     intro j v hm v0 v1;simp only[eb] at v1|-;have d:=hm t LA;have J:=ew Tm.an8 d;have K:=t.ku (a+b+eP k);rw[fm,ih t (b+eP k) v xL xL (hi.2.2.2.1 t d) (A.2 t d) xL xL v0 xL,show a+(b+eP k)=a+b+eP k by omega];simp only[dF,fy];rw[x (j+1) _ (λu hu=>hm u (by simp[hu])) xL xL]
     congr 2
     push_cast
     omega
   by_cases y:k=1
   ·subst y;rw[dO (show ee (Tm.mk 1 i s l).an6 1=true from rfl)];simp only[Tm.ez,Tm.eF,Tm.hB];rw[Gh xL xL F xL B xL,dF,xx 1 b xL xL,ef xL,dY];rw[loop l 0 _ (λt h=>h) (by split<;>omega) (by split<;>omega)];simp only[dF,eo]
    congr 1
    by_cases e:i-b=a
    ·rw[dO e,dO (show True/\i=a+b from⟨trivial,xL⟩)];omega
    ·rw[dI e,dI (show¬(True/\i=a+b)fromλh=>e xL)];omega
   ·rw[dI (show¬ee (Tm.mk k i s l).an6 1=true by simpa[ee] using y),dI (show¬(k=1/\i=a+b)fromλh=>y h.1)];simp only[Tm.ez,Tm.eF,Tm.hB];rw[xx k b xL xL,ef xL,dY];rw[loop l 0 c (λt h=>h) B xL];simp only[dF,eo]
    congr 1
    push_cast
    omega
def BO{t:Tm}(a:Int)(h:Bd t):su t a=some (t.aoc a:Int):=by
 unfold su sU;have hn:=h.an8;rw[Gt a FU t 0 0 (by have:=fI;omega) hn h.ok h.aoa xL xL xL xL];simp only[dF];rw[show a+0=a by omega,Int.zero_add]
def Bx{a:Int}(Y:0<=a)(M:a<=100000000):∀(n:Nat) (f:Fm) (b c:Int),f.an8<=n->f.an8<=50000000->f.ok=true->f.aoa 1000000000000=true->0<=b->b+f.an8<=100000000->0<=c->c+f.an8<=1000000000->l7 n f b (λ(s:Int) (w:Tm) (y:Int)=>jl w y s a) c=some (c+(f.aoc (a+b):Int)):=by
 intro n
 induction n with
 |zero=>intro f b c h;have:=f.eE;omega
 |succ n ih=>
  intro f b c hn N O A Z B P Q;cases f with
  |mk k s ts l=>
   rw[Fm.dJ] at hn N B Q;have R:=iX Tm.an8 ts λt _=>t.eE;have S:=iX Fm.an8 l λt _=>t.eE;obtain⟨_,C,D⟩:=Fm.qt O;rw[Fm.fD,gE,kE,kE] at A;have T:=tG k;rw[l7,Fm.fg];simp only[Fm.ez,Fm.eF,Fm.h8,d_];rw[ef xL,dY]
   have o:∀(us:List Tm) (j:Nat) (v:Int),(∀t∈us,t∈ts)->0<=v->v+eb Tm.an8 us<=1000000000->eV (λ(U:Int) (F:Tm)=>(λ(G:Int)=>
      dE (jl F b G a) λH=>
      some ((.next H):fV Int Int))) us j v=some (.inl (v+(eb (Tm.aoc (a+b)) us:Int))):=by
    intro us
    induction us with
    |nil=>intro j v _ _ _;simp[eb]|cons t us i=>
     intro j v hm v0 v1;simp only[eb] at v1|-;have d:=hm t LA;have I:=ew Tm.an8 d;have V:=t.ku (a+b);rw[fm];unfold jl at i|-;rw[fW (a:=a) xL xL,BO (a+b) ⟨C t d,A.1 t d,xL⟩];simp only[dF,fy];rw[fW xL xL];have:=i (j+1) (v+(t.aoc (a+b):Int)) (λu hu=>hm u (by simp[hu])) xL xL;rw[fW (a:=a) xL xL] at this;rw[this]
     congr 2
     push_cast
     omega
   rw[o ts 0 c (λt h=>h) P xL];have W:=kG (f:=Tm.aoc (a+b)) (g:=Tm.an8) (l:=ts) λx _=>x.ku _;simp only[dF,eo];rw[qR,dF]
   have q:∀(us:List Fm) (j:Nat) (v:Int),(∀t∈us,t∈l)->0<=v->v+eb Fm.an8 us<=1000000000->eV (λ(X:Int) (J:Fm)=>(λ(v72:Int)=>
      dE (l7 n J (b+qB k) (λ(s:Int) (w:Tm) (y:Int)=>jl w y s a) v72) λK=>
      some ((.next K):fV Int Int))) us j v=some (.inl (v+(eb (Fm.aoc (a+b+qB k)) us:Int))):=by
    intro us
    induction us with
    |nil=>intro j v _ _ _;simp[eb]|cons t us i=>
     intro j v hm v0 v1;simp only[eb] at v1|-;have d:=hm t LA;have I:=ew Fm.an8 d;have V:=t.ku (a+b+qB k);rw[fm,ih t (b+qB k) v xL xL (D t d) (A.2 t d) xL xL v0 xL,show a+(b+qB k)=a+b+qB k by omega];simp only[dF,fy];rw[i (j+1) _ (λu hu=>hm u (by simp[hu])) xL xL]
     congr 2
     push_cast
     omega
   have fin:=q l 0 (c+(eb (Tm.aoc (a+b)) ts:Int)) (λt h=>h) xL xL
   by_cases r:h9 k=true
   ·rw[dO r]
    have L:qB k=1:=by unfold qB;rw[dO r]
    rw[L] at fin|-;rw[fW xL xL,ef xL,dY,fin];simp only[dF,eo]
    congr 1
    push_cast
    omega
   ·rw[dI r]
    have L:qB k=0:=by unfold qB;rw[dI r]
    rw[L] at fin|-;rw[sx b] at fin;rw[ef xL,dY,fin];simp only[dF,eo]
    congr 1
    push_cast
    omega
def z_{f:Fm}{a:Int}(c:f.ok=true)(hn:f.an8<=50000000)(d:f.aoa 1000000000000=true)(h:0<=a)(b:a<=100000000):ka f a=some (f.aoc a:Int):=by
 unfold ka;rw[Bx h b FU f 0 0 (by have:=fI;omega) hn c d xL xL xL xL];simp only[dF];rw[show a+0=a by omega,Int.zero_add]
noncomputable def ll (f:Fm) (t:Tm):Fm×Int:=if 4096<(Fm.fQ 0 f t).an8 then(.mk 0 (.mk 0 []) [] [],4)else(Fm.fQ 0 f t,0)
noncomputable def Hi (f:Fm) (g:List Ty):Int:=if wY g≠0 then wY g else if f.err≠0 then f.err else f.uQ g
def iz.of{g:List Ty}(h:wY g=0):iz g/\g.length<=16:=by
 unfold wY at h
 split at h
 ·cases h
 ·rename_i c;refine⟨λs hs=>?_,xL⟩
  have key:∀l:List Ty,ft (l.map Ty.err)=0->∀s∈l,s.err=0:=by
   intro l
   induction l with
   |nil=>intro _ s hs;cases hs
   |cons a l ih=>
    intro h s hs;simp only[lN,ft] at h
    by_cases b:a.err=0
    ·rw[dO b] at h;rcases lX.1 hs with rfl|hs
     ·exact b
     ·exact ih h s hs
    ·rw[dI b] at h;exact absurd h b
  exact key g h s hs
def Hz{g:List Ty}(hg:iz g)(c:g.length<=1000000):mZ g=some (g.map tf):=by
 unfold mZ;simp only[d_]
 rw[ef xL,dY,jX tf g 0 [] Xw (λj x v a b=>by
  rw[lW (hg x a),dF,fR (by simpa using b),dY,jn])]
 simp
def rO{f:Fm}{g:List Ty}(hw:f.wt<=1000000000)(c:g.length<=1000000)(h:∀t∈g,t.an8<=1000000000):jq g f=some (Hi f g):=by
 unfold jq kz Hi;rw[sS g c h,dF]
 by_cases a:wY g=0
 ·rw[dI (by rw[er];simpa using a),dI (by simpa using a),kh hw,dF]
  by_cases he:f.err=0
  ·obtain⟨hg,d⟩:=iz.of a;obtain⟨b,hn⟩:=Fm.hD he;rw[dI (by rw[er];simpa using he),dI (by simpa using he),zF f b FU (by have:=fI;omega) g hg xL hn];rfl
  ·rw[dO (by rw[er];exact he),dO he];rfl
 ·rw[dO (by rw[er];exact a),dO a]
def Ka{f:Fm}{t:Tm}(he:f.err=0)(b:t.err=0)(i:f.aoa 1000000000000=true)(d:t.aoa 1000000000000=true):oi f t=some (ll f t):=by
 obtain⟨a,hn⟩:=Fm.hD he;obtain⟨c,h⟩:=Tm.hD b;have hw:=f.iD a;have l:=t.iD c;have r:=t.eE;have n:=f.ku 0;have o:=Fm.xf t f 0 a;unfold oi ll;rw[pN xL,dN,rZ xL,dN,z_ a xL i xL xL,dF,dO he,dO b];rw[fZ xL xL]
 have hmul:(f.aoc 0:Int)*((t.an8:Int)-1)=((f.aoc 0*t.an8:Nat):Int)-(f.aoc 0:Int):=by rw[ahz,ag'];push_cast;rfl
 have q:f.aoc 0*t.an8<=4096*4096:=VY xL h;have j:f.aoc 0<=f.aoc 0*t.an8:=ag4 _ xL;rw[M8 (by rw[hmul];omega) (by rw[hmul];omega),hmul,fW xL xL]
 by_cases k:4096<(Fm.fQ 0 f t).an8
 ·rw[dO (by rw[iw];omega),dO k]
 ·rw[dI (by rw[iw];omega),dI k,CB a xL i (Bd.lift ⟨c,d,xL⟩) xL xL];rfl
def Js{f:Fm}{s:Tm}(he:f.err=0)(b:s.err=0)(j:f.aoa 536870912=true)(c:s.aoa 536870912=true)(d:(Fm.fQ 0 f s).ok=true):xu f 0 s=some (ll f s):=by
 obtain⟨a,hn⟩:=Fm.hD he;obtain⟨h,i⟩:=Tm.hD b;have hw:=f.iD a;have n:=s.iD h;have o:=s.eE;have q:=f.ku 0;have r:=Fm.xf s f 0 a;unfold xu ll;rw[kh xL,he];simp only[dF,er,ne_eq,abV,lU,d_,rR,iw,lJ,r9];rw[dI xL,k4 xL,b,HU FU f _ (by rw[fI];omega) xL,j,Dj _ xL,c];simp only[dF,abV,lU,if_true,VI,qU];rw[rD FU f (by rw[fI];omega) xL,Jz FU f 0 (by rw[fI];omega) xL xL xL,nR FU s (by rw[fI];omega) xL];simp only[dF];rw[fZ xL xL]
 have hmul:(f.aoc 0:Int)*((s.an8:Int)-1)=((f.aoc 0*s.an8:Nat):Int)-(f.aoc 0:Int):=by rw[ahz,ag'];push_cast;rfl
 have t:f.aoc 0*s.an8<=4096*4096:=VY xL i;have k:f.aoc 0<=f.aoc 0*s.an8:=ag4 _ xL;rw[M8 (by rw[hmul];omega) (by rw[hmul];omega),hmul,fW xL xL]
 by_cases l:4096<(Fm.fQ 0 f s).an8
 ·rw[dO xL,dO l]
 ·rw[dI xL,dI l,Ra FU f 0 0 s (by rw[fI];omega) xL xL xL xL (Fm.o7 f xL j) a xL (Tm.o7 s xL c)];simp only[dF,sx];have u:=Fm.iD _ d;rw[tm xL];rfl
def L5{α:Type}{E:α->α->Option Bool}{m l:List α}(hlen:l.length=m.length)(h:∀x∈l,∀y,∃r,E x y=some r/\(r=true↔x=y)):∃o:Unit⊕Bool,eV (λ(j:Int) (x:α) (_:Unit)=>dE (dX m j) λy=>dE (E x y) λz=>if z then(some (fV.next ()):Option (fV Unit Bool))else some (fV.ret false)) l 0 ()=some o/\(o=.inl ()/\l=m\/o=.inr false/\l≠m):=by
 let p:α->α->Bool:=λx y=>(E x y).getD false
 have c:∀x∈l,∀y,E x y=some (p x y)/\(p x y=true↔x=y):=by
  intro x a y;obtain⟨r,d,b⟩:=h x a y
  have e:p x y=r:=by show(E x y).getD false=r;rw[d];rfl
  rw[e];exact⟨d,b⟩
 have key:=xH (F:=λ(j:Int) (x:α) (_:Unit)=>dE (dX m j) λy=>dE (E x y) λz=>if z then some (fV.next ())else some (fV.ret false)) p m l 0 m rfl hlen (by
  intro k x y a f;rw[jR,f];simp only[dF];rw[(c x a y).1]
  rfl)
 have he:=xK p l m λx a y=>(c x a y).2;rw[key];cases b:v7 p l m with
 |false=>rw[b] at he;exact⟨_,rfl,.inr ⟨rfl,λe=>absurd (he.2 e) LA⟩⟩
 |true=>rw[b] at he;exact⟨_,rfl,.inl ⟨rfl,he.1 rfl⟩⟩
def Bz:∀(n:Nat) (a b:Fm),a.wt<=n->a.wt<=1000000000->∃r,kN n a b=some r/\(r=true↔a=b):=by
 intro n
 induction n with
 |zero=>intro t b h;have:=t.j2;omega
 |succ n ih=>
  intro a b h w;cases a with
  |mk k s ts l=>
  cases b with
  |mk k' i us m=>
   rw[Fm.jg] at h w;have F:=Fm.qW l;have A:=Tm.qW ts;rw[kN];simp only[Fm.ez,Fm.eF,Fm.h8,Fm.fw,d_,ef (l:=l) xL,ef (l:=ts) xL,dY,er,gB]
   have no:¬(k=k'/\s=i/\ts=us/\l=m)->∃r,some false=some r/\(r=true↔Fm.mk k s ts l=Fm.mk k' i us m):=by
    intro hn;refine⟨false,rfl,?_⟩;simp only[qU,Si,Fm.mk.injEq];exact hn
   by_cases d:k≠k'
   ·rw[dO d,dO trivial];exact no λh=>d h.1
   ·rw[dI d];obtain⟨r,B,v⟩:=xV FU s i (by rw[fI];omega) xL;rw[B];simp only[dF]
    by_cases f:r=true
    ·have hs:=v.1 f;rw[dO f]
     by_cases j:(ts.length:Int)≠us.length
     ·rw[dO j,dO trivial];exact no λh=>j (by rw[h.2.2.1])
     ·rw[dI j]
      by_cases hm:(l.length:Int)≠m.length
      ·rw[dO hm];exact no λh=>hm (by rw[h.2.2.2])
      ·rw[dI hm];obtain⟨o,C,k2⟩:=L5 (E:=λx y=>jc FU x y) (l:=ts) (m:=us) xL (λx c y=>xF FU x y (by have:=ew Tm.wt c;rw[fI];omega) (by have:=ew Tm.wt c;omega));rw[C];rcases k2 with⟨rfl,q⟩|⟨rfl,q⟩
       ·simp only[dF,eo];obtain⟨o,q1,D⟩:=L5 (E:=λx y=>kN n x y) (l:=l) (m:=m) xL (λx c y=>ih x y (by have:=ew Fm.wt c;omega) (by have:=ew Fm.wt c;omega));rw[q1];rcases D with⟨rfl,u⟩|⟨rfl,u⟩
        ·exact⟨true,rfl,by simp only[true_iff,Fm.mk.injEq];exact⟨u9.1 d,hs,q,u⟩⟩
        ·exact no λh=>u h.2.2.2
       ·exact no λh=>q h.2.2.1
    ·rw[dI f,dO trivial];exact no λh=>f (v.2 h.2.1)
def Gu(l:List Ty)(t:Tm):Tm:=l.foldr (λs b=>.mk 2 0 s [b]) t
def ZV{l:List Ty}(q:l.length<=1000):∀(i m:Nat) (t:Tm),i<=l.length->i<m->n9 ((W0 λ(b:Int) (c:Int) (v59:Int) (d:Int) (f:List Ty) (n:List Tm)=>
   if(qn b 0) then(
   dE (dX l b) λo=>
   some (.next ((fH .i64 b 1),2,0,o.an6,o.an7,[(Tm.mk c v59 (Ty.mk d f) n)])))
   else(some (.FP (b,c,v59,d,f,n)))):(Int×Int×Int×Int×(List Ty)×(List Tm))->(Option (fV (Int×Int×Int×Int×(List Ty)×(List Tm)) (Tm)))) m ((i:Int)-1,t.an6,t.an9,t.dL.an6,t.dL.an7,t.an7)=some (.inl (-1,(Gu (l.take i) t).an6,(Gu (l.take i) t).an9,(Gu (l.take i) t).dL.an6,(Gu (l.take i) t).dL.an7,(Gu (l.take i) t).an7))
 |0,m+1,t,_,_=>by
  rw[qX];simp only[W0];rw[dI (by rw[jj];omega)];rfl
 |i+1,m+1,t,hi,hm=>by
  rw[qX];simp only[W0];rw[dO (by rw[jj];omega),show((i+1:Nat):Int)-1=(i:Int) by omega,jR,qp xL];simp only[dF,fy];rw[fZ xL xL]
  have u:Ty.mk (l[i]).an6 (l[i]).an7=l[i]:=by cases l[i];rfl
  have r:Tm.mk t.an6 t.an9 (Ty.mk t.dL.an6 t.dL.an7) t.an7=t:=by cases t with|mk k j s a=>cases s;rfl
  have h:=ZV q i m (.mk 2 0 l[i] [t]) xL xL;rw[r];refine h.trans ?_;rw[ahx,qp xL];simp only[Gu,ako,ajb,List.foldr_cons,List.foldr_nil]
def zN(t:Tm)(l:List Ty)(b:l.length<=1000):vV t l=some (Gu l t):=by
 unfold vV;simp only[d_];rw[gB,fZ xL xL];have h:=ZV b l.length FU t (jy _) (aek xL);rw[h,dF,List.take_length];generalize Gu l t=r;cases r with|mk k j s a=>cases s;rfl
def Md(t a:Tm):vh t [a]=some (.mk 3 0 (.mk 0 []) [t,a]):=by cases t with|mk k j s l=>cases s;rfl
def NX(t a b:Tm):vh t [a,b]=some (.mk 3 0 (.mk 0 []) [.mk 3 0 (.mk 0 []) [t,a],b]):=by cases t with|mk k j s l=>cases s;rfl
def adH:Tm:=Gu [.nat] (.mk 6 0 .nat [.mk 4 0 (.mk 0 []) [],Gu [.nat,.nat] (.mk 1 1 (.mk 0 []) []),.mk 1 0 (.mk 0 []) []])
def Lh:vZ=some adH:=by
 unfold vZ mN qL jx Av;simp only[wC,dF,zN _ _ (show[Ty.nat,Ty.nat].length<=1000 by decide),zN _ _ (show[Ty.nat].length<=1000 by decide)];rfl
def ajd:Tm:=Gu [.nat,.nat] (.mk 6 0 .nat [.mk 1 1 (.mk 0 []) [],Gu [.nat,.nat] (.mk 3 0 (.mk 0 []) [adH,.mk 1 0 (.mk 0 []) []]),.mk 1 0 (.mk 0 []) []])
def MH:xl=some ajd:=by
 unfold xl mN A9 jx Av;simp only[Lh,wC,dF,Md,zN _ _ (show[Ty.nat,Ty.nat].length<=1000 by decide)];rfl
def adZ(a b:Tm):Fm:=.mk 1 (.mk 0 []) [.mk 3 0 (.mk 0 []) [.mk 3 0 (.mk 0 []) [ajd,.mk 5 0 (.mk 0 []) [a]],b],.mk 4 0 (.mk 0 []) []] []
def KM(a b:Tm):vM a b=some (adZ a b):=by
 unfold vM qL qz;simp only[MH,dF,NX];rfl
def YL:∀x y:Fin 8,∃z:Fin 8,tF .u8 (x:Nat) (y:Nat)=(z:Nat)/\((z:Nat)%2=1↔(x:Nat)%2=1/\(y:Nat)%2=1):=Df
def acK:∀x y:Fin 8,∃z:Fin 8,Fl .u8 (x:Nat) (y:Nat)=(z:Nat)/\((z:Nat)%2=1↔(x:Nat)%2=1\/(y:Nat)%2=1):=Df
def Mk(b:Bool)(m:Int):Prop:=∃x:Fin 8,m=((x:Nat):Int)/\((x:Nat)%2=1↔b=true)
def Mk.and{a b:Bool}{x y:Int}(c:Mk a x)(d:Mk b y):Mk (a&&b) (tF .u8 x y):=by
 obtain⟨x,rfl,f⟩:=c;obtain⟨y,rfl,h⟩:=d;obtain⟨z,i,j⟩:=YL x y;exact⟨z,i,by rw[j,f,h,gE]⟩
def Mk.or{a b:Bool}{x y:Int}(c:Mk a x)(d:Mk b y):Mk (a||b) (Fl .u8 x y):=by
 obtain⟨x,rfl,f⟩:=c;obtain⟨y,rfl,h⟩:=d;obtain⟨z,i,j⟩:=acK x y;exact⟨z,i,by rw[j,f,h,r9]⟩
def Mk.one:Mk true 1:=⟨1,rfl,Df⟩
def Mk.six:Mk false 6:=⟨6,rfl,Df⟩
def Mk.four:Mk false 4:=⟨4,rfl,Df⟩
def Mk.bit{b:Bool}{m:Int}(h:Mk b m):eD (tF .u8 m 1) 0=b:=by
 obtain⟨x,rfl,a⟩:=h
 have key:∀x:Fin 8,eD (tF .u8 ((x:Nat):Int) 1) 0=decide ((x:Nat)%2=1):=Df
 rw[key x];cases b with
 |false=>exact Le (λh=>by have:=a.1 h;cases this)
 |true=>exact xe (a.2 rfl)
def Fm.afb{a:Fm}(d:a.ok=true)(c:a.an6=2\/a.an6=3):∃p q,a=.mk a.an6 (.mk 0 []) [] [p,q]/\p.ok=true/\q.ok=true:=by
 refine Fm.oG (p:=λa=>a.an6=2\/a.an6=3->∃p q,a=.mk a.an6 (.mk 0 []) [] [p,q]/\p.ok=true/\q.ok=true) ?_ ?_ ?_ a d c
 ·intro a b _ _ h;rcases h with h|h<;>cases h
 ·intro k a b _ f i _ _ _;exact⟨a,b,rfl,f,i⟩
 ·intro k s a c _ _ _ h;have h:k=2\/k=3:=h;omega
def Fm.ak5{a:Fm}(d:a.ok=true)(f:a.an6=1):∃u v,a=.mk 1 (.mk 0 []) [u,v] []/\u.ok=true/\v.ok=true:=by
 refine Fm.oG (p:=λa=>a.an6=1->∃u v,a=.mk 1 (.mk 0 []) [u,v] []/\u.ok=true/\v.ok=true) ?_ ?_ ?_ a d f
 ·intro a b i j _;exact⟨a,b,rfl,i,j⟩
 ·intro k a b c _ _ _ _ h;have h:k=1:=h;omega
 ·intro k s a c _ _ _ h;have h:k=1:=h;omega
def Tm.agc{a:Tm}(f:a.ok=true)(i:a.an6=3):∃c d,a=.mk 3 0 .z [c,d]/\c.ok=true/\d.ok=true:=by
 refine Tm.oG (p:=λa=>a.an6=3->∃c d,a=.mk 3 0 .z [c,d]/\c.ok=true/\d.ok=true) ?_ ?_ ?_ ?_ ?_ ?_ ?_ ?_ ?_ ?_ ?_ ?_ ?_ a f i
 case refine_3=>intro a b j k _;exact⟨a,b,rfl,j,k⟩
 all_goals(intros;rename_i h;cases h)
def IT{k:Int}{s:Ty}{a:Fm}(W:(Fm.mk k s [] [a]).ok=true)(hn:(Fm.mk k s [] [a]).an8<=1000000)(N:a.aoa 1000000000000=true)(x:a.ok=true):∃b t q ok,tH (.mk k s [] [a])=some (b,t,q,ok)/\(ok=true->q.ok=true/\q.an8<a.an8/\q.aoa 1000000000000=true):=by
 rw[Fm.dJ] at hn;simp only[eb] at hn;have no:∃b t q ok,(some (false,(Tm.mk 0 0 (Ty.mk 0 []) []),(Fm.mk 0 (Ty.mk 0 []) [] []),false):Option (Bool×Tm×Fm×Bool))=some (b,t,q,ok)/\(ok=true->q.ok=true/\q.an8<a.an8/\q.aoa 1000000000000=true):=⟨_,_,_,_,rfl,LA⟩;unfold tH
 obtain⟨y,n,O,X⟩:∃y n,tP (ee (Fm.mk k s [] [a]).an6 4)=some (y,n)/\(n=2\/n=3):=by
  unfold tP
  split
  ·exact⟨_,_,rfl,.inr rfl⟩
  ·exact⟨_,_,rfl,.inl rfl⟩
 rw[O,dN];simp only[d_]
 by_cases J:eD (Fm.mk k s [] [a]).an6 y=true
 ·rw[dO J,dO trivial];exact no
 rw[dI J]
 by_cases K:eD (Fm.mk k s [] [a]).dL.an6 1=true
 ·rw[dO K,dO trivial];exact no
 rw[dI K];simp only[Fm.ez,eO,kS,dF]
 by_cases c3:eD a.an6 n=true
 ·rw[dO c3,dO trivial];exact no
 rw[dI c3]
 have A:a.an6=2\/a.an6=3:=by
  have:a.an6=n:=by simpa[eD] using c3
  omega
 obtain⟨p,q,f,L,P⟩:=Fm.afb x A;have B:a.an7=[p,q]:=(congrArg Fm.an7 f).trans rfl
 have Q:a.an8=1+p.an8+q.an8:=by rw[f,Fm.dJ];simp[eb];omega
 have o:p.aoa 1000000000000=true/\q.aoa 1000000000000=true:=by
  have h:=N;rw[f,Fm.fD] at h;simp only[U7,Fu,KV,Cp,gE] at h;exact h
 have R:=p.eE;rw[B];simp only[eO,hR,kS,ql,dF]
 by_cases C:eD p.an6 1=true
 ·rw[dO C];exact no
 rw[dI C]
 have D:p.an6=1:=by simpa[eD] using C
 obtain⟨u,v,i,hu,Y⟩:=Fm.ak5 L D;have F:p.ea=[u,v]:=(congrArg Fm.ea i).trans rfl
 have j:u.aoa 1000000000000=true:=by
  have:=o.1;rw[i,Fm.fD] at this;simp only[Fu,gE] at this;exact this.1.1
 have S:p.an8=1+u.an8+v.an8:=by rw[i,Fm.dJ];simp[eb];omega
 rw[F];simp only[eO,kS,dF]
 by_cases c5:eD u.an6 3=true
 ·rw[dO c5,dO trivial];exact no
 rw[dI c5]
 have G:u.an6=3:=by simpa[eD] using c5
 obtain⟨c,d,l,Z,T⟩:=Tm.agc hu G;have H:u.an7=[c,d]:=(congrArg Tm.an7 l).trans rfl
 have U:u.an8=1+c.an8+d.an8:=by rw[l,Tm.dJ];simp[eb];omega
 have I:d.aoa 1000000000000=true:=by
  rw[l,Tm.fD] at j;simp only[Fu,gE] at j;exact j.2.2.1
 rw[H];simp only[hR,ql,kS,dF];rw[BO 0 ⟨T,I,xL⟩,dF];have yes:∃b t w ok,(some (ee (Fm.mk k s [] [a]).an6 4,d,q,true):Option (Bool×Tm×Fm×Bool))=some (b,t,w,ok)/\(ok=true->w.ok=true/\w.an8<a.an8/\w.aoa 1000000000000=true):=⟨_,_,_,_,rfl,λ_=>⟨P,xL,o.2⟩⟩
 by_cases M:oC (d.aoc 0:Int) 0=true
 ·rw[dO M,dO trivial];exact no
 rw[dI M];have hw:=p.iD L;obtain⟨r,V,_⟩:=Bz FU p (adZ (.mk 1 0 (.mk 0 []) []) d) (by rw[fI];omega) xL;rw[show jx 0=some (Tm.mk 1 0 (.mk 0 []) [])from rfl,dF,KM,dF,V,dF];cases r with
 |true=>rw[show m6 true=false from rfl,dI Df];exact yes|false=>rw[show m6 false=true from rfl,dO rfl];exact no
def Qz:∀(n:Nat) (f:Fm),f.an8<=n->f.an8<=1000000->f.ok=true->f.aoa 1000000000000=true->∃m,nk n f=some m/\Mk f.has m:=by
 intro n
 induction n with
 |zero=>intro f h;have:=f.eE;omega
 |succ n ih=>
  intro f hn i y c;refine Fm.oG (p:=λf=>f.an8<=n+1->f.an8<=1000000->f.ok=true->f.aoa 1000000000000=true->∃m,nk (n+1) f=some m/\Mk f.has m) ?_ ?_ ?_ f y hn i y c
  ·intro a b _ _ _ _ _ _;rw[nk,dO YQ];exact⟨6,rfl,by rw[Fm.has_eq];exact Mk.six⟩
  ·intro k a b A B D _ _ hn i _ c;rw[Fm.dJ] at hn i;simp only[eb] at hn i;rw[Fm.fD] at c;simp only[U7,Fu,KV,Cp,gE] at c;obtain⟨C,F,w⟩:=ih a xL xL B c.1;obtain⟨o,G,x⟩:=ih b xL xL D c.2
   have d:k≠1:=xL
   have H:e_ (ee k 2) true (ee k 3)=true:=by rcases A with rfl|rfl<;>rfl
   rw[nk,dI (show¬ee (Fm.mk k (.mk 0 []) [] [a,b]).an6 1=true by simpa[ee] using d)]
   have I:dX [a,b] (fH .i64 (ey [a,b]) 1)=some b:=by rw[fZ LA LA];rfl
   simp only[Fm.ez,I,dF,G,d_];rw[dO (show e_ (ee (Fm.mk k (.mk 0 []) [] [a,b]).an6 2) true (ee (Fm.mk k (.mk 0 []) [] [a,b]).an6 3)=true from H)];simp only[eO,kS,dF,F,Fm.eF];refine⟨_,rfl,?_⟩;rw[Fm.Un,dI d];have r:=(w.and x).and Mk.six;rw[Bool.and_false] at r;rcases A with rfl|rfl
   ·rw[show e_ (ee 2 2) (Fl .u8 o C) o=Fl .u8 o C from rfl];have j:=(x.or w).and Mk.one;rw[KV] at j;have:=r.or j;rw[X',Bool.or_comm] at this;simpa using this
   ·rw[show e_ (ee 3 2) (Fl .u8 o C) o=o from rfl];have j:=x.and Mk.one;rw[KV] at j;have:=r.or j;rw[X'] at this;simpa using this
  ·intro k s a A hs B _ hn i y c;have J:=i;rw[Fm.dJ] at hn i;simp only[eb] at hn i;rw[Fm.fD] at c;simp only[U7,Fu,KV,Cp] at c;obtain⟨C,F,w⟩:=ih a xL xL B c
   have d:k≠1:=xL
   have H:e_ (ee k 2) true (ee k 3)=false:=by rcases A with rfl|rfl|rfl|rfl<;>rfl
   rw[nk,dI (show¬ee (Fm.mk k s [] [a]).an6 1=true by simpa[ee] using d)]
   have I:dX [a] (fH .i64 (ey [a]) 1)=some a:=by rw[fZ LA LA];rfl
   simp only[Fm.ez,I,dF,F,d_];rw[dI (show¬e_ (ee (Fm.mk k s [] [a]).an6 2) true (ee (Fm.mk k s [] [a]).an6 3)=true by rw[show e_ (ee (Fm.mk k s [] [a]).an6 2) true (ee (Fm.mk k s [] [a]).an6 3)=false from H];decide)];obtain⟨b,t,q,ok,O,P⟩:=IT y J c B;rw[O]
   have fin:∀(v:Int) (N:Mk (Fm.mk k s [] [a]).has v),∃m,(OY (some (b,t,q,ok)) λQ R K L=>if L then(dE (nk n K) λu=>some (Fl .u8 (tF .u8 v 1) (tF .u8 u 4)))else(some (tF .u8 v 1)))=some m/\Mk (Fm.mk k s [] [a]).has m:=by
    intro v N;show∃m,(if ok then(dE (nk n q) λu=>some (Fl .u8 (tF .u8 v 1) (tF .u8 u 4)))else(some (tF .u8 v 1)))=some m/\Mk (Fm.mk k s [] [a]).has m;have r:=N.and Mk.one;rw[KV] at r;cases ok with
    |false=>exact⟨_,rfl,r⟩|true=>
     obtain⟨d1,d2,d3⟩:=P rfl;obtain⟨o,G,x⟩:=ih q xL xL d1 d3;rw[dO rfl,G];refine⟨_,rfl,?_⟩;have j:=x.and Mk.four;rw[Bool.and_false] at j;have:=r.or j
     rwa [Bool.or_false] at this
   have l:(Fm.mk k s [] [a]).has=if k=5 then true else a.has:=by
    rw[Fm.Mm,dI d]
   by_cases M:k=5
   ·subst M;rw[dO YQ];refine fin _ ?_;rw[l,dO rfl];have:=w.or Mk.one
    rwa [Bool.or_true] at this
   ·rw[dI (show¬ee (Fm.mk k s [] [a]).an6 5=true by simpa[ee] using M)];refine fin _ ?_;rw[l,dI M];exact w
def E1{f:Fm}(hw:f.wt<=1000000000)(b:f.aoa 1000000000000=true):qo f=some (if f.err≠0 then(false,f.err)else(f.has,0)):=by
 unfold qo A0;rw[pZ hw,dF]
 by_cases he:f.err=0
 ·obtain⟨a,hn⟩:=Fm.hD he;obtain⟨m,c,d⟩:=Qz FU f (by have:=fI;omega) xL a b;rw[dI (by rw[er];simpa using he),c,dF,d.bit,dN,dI (by simpa using he)]
 ·rw[dO (by rw[er];exact he),dN,dO he]
def mI{α:Type}(m:List (Int×α)):List Int:=m.map (·.1)
def Dk{α:Type}(k:Int)(v:α):∀(m:List (Int×α)) (x:Int),x∈mI (vu m k v)↔x=k\/x∈mI m
 |[],x=>by simp[vu,mI]|p::m,x=>by
  unfold vu
  by_cases h:p.1=k
  ·rw[dO h];subst h;simp[mI]
  ·rw[dI h];have ih:=Dk k v m x;simp only[mI,lN,lX] at ih|-;rw[ih];constructor
   ·rintro(h|h|h)
    ·exact .inr (.inl h)
    ·exact .inl h
    ·exact .inr (.inr h)
   ·rintro(h|h|h)
    ·exact .inr (.inl h)
    ·exact .inl h
    ·exact .inr (.inr h)
def Cv{α:Type}(k:Int)(v:α):∀(m:List (Int×α)),(mI m).Nodup->(mI (vu m k v)).Nodup
 |[],_=>by simp[vu,mI]|p::m,h=>by
  have b:p.1∉mI m/\(mI m).Nodup:=YR.1 h;unfold vu
  by_cases a:p.1=k
  ·rw[dO a];subst a;exact h
  ·rw[dI a];refine YR.2 ⟨λhm=>?_,Cv k v m b.2⟩;rcases(Dk k v m p.1).1 hm with e|e
   ·exact a e
   ·exact b.1 e
def Iz{α:Type}(k:Int)(v:α):∀(m:List (Int×α)),(vu m k v).length<=m.length+1
 |[]=>by simp[vu]|p::m=>by
  unfold vu
  split
  ·simp
  ·have:=Iz k v m;simp only[oZ];omega
def PF(n:Int):∀l:List Int,(Ci n l).length=l.length+1
 |[]=>rfl|a::l=>by
  unfold Ci
  split
  ·rfl
  ·simp[PF n l]
def Lm:∀(l acc:List Int),(y8 acc l).length=acc.length+l.length
 |[],acc=>by simp[y8]|a::l,acc=>by rw[y8,Lm l,PF];simp only[oZ];omega
def KS:∀(n:Nat) (t:Tm) (d:Int) (m:List (Int×Bool)),t.an8<=n->t.an8<=100000000->0<=d->d+t.an8<=1000000000->t.aoa 4611686018427387904=true->(mI m).Nodup->∃y,pE n t d m=some y/\(mI y).Nodup/\y.length<=m.length+t.an8/\∀x,x∈mI y↔x∈mI m\/(0<=x/\0<t.aoc (x+d)):=by
 intro n
 induction n with
 |zero=>intro t d m h;have:=t.eE;omega
 |succ n ih=>
  intro t d m hn B O P I hm;cases t with
  |mk k i s l=>
   have J:=iY k;rw[Tm.dJ] at hn B P;have hlen:=iX Tm.an8 l λt _=>t.eE;rw[Tm.fD,gE,oz,kE] at I
   have an7:∀(F:Int->Tm->List (Int×Bool)->Option (fV (List (Int×Bool)) (List (Int×Bool)))),(∀j x v,F j x v=dE (ld (Tm.mk k i s l)) λb=>dE (pE n x (eL .i64 d b) v) λr=>some (.next r))->∀(as:List Tm) (j:Nat) (v:List (Int×Bool)),(∀a∈as,a∈l)->(mI v).Nodup->∃f,eV F as j v=some (.inl f)/\(mI f).Nodup/\f.length<=v.length+eb Tm.an8 as/\∀x,x∈mI f↔x∈mI v\/(0<=x/\0<eb (Tm.aoc (x+d+eP k)) as):=by
    intro F hF as
    induction as with
    |nil=>intro j v _ C;exact⟨v,rfl,C,by simp[eb],λx=>by simp[eb]⟩|cons a as D=>
     intro j v has C;have K:=has a LA;have Q:=ew Tm.an8 K;have G:=I.2 a K;obtain⟨v1,o,q,L,u⟩:=ih a (d+eP k) v xL xL xL xL G C;obtain⟨v2,g1,g2,g3,g4⟩:=D (j+1) v1 (λb B=>has b (by simp[B])) q;refine⟨v2,?_,g2,by simp only[eb];omega,λx=>?_⟩
     ·rw[fm,hF,nZ];simp only[dF,Tm.eF];rw[fW xL xL,o];simp only[dF,fy];exact g1
     ·rw[g4,u];simp only[eb];rw[<-Int.add_assoc];constructor
      ·rintro((h|h)|h)
       ·exact .inl h
       ·exact .inr ⟨h.1,xL⟩
       ·exact .inr ⟨h.1,xL⟩
      ·rintro(h|⟨h,A⟩)
       ·exact .inl (.inl h)
       ·by_cases R:0<a.aoc (x+d+eP k)
        ·exact .inl (.inr ⟨h,R⟩)
        ·exact .inr ⟨h,xL⟩
   unfold pE;simp only[d_,Tm.ez,ef (l:=l) xL,dY,Tm.eF,Tm.hB];rw[Tm.dJ]
   by_cases w:k=1/\d<=i
   ·have c:e_ (ee k 1) (qn i d) false=true:=by simp[e_,w.1,w.2]
    simp only[c,if_true];rw[fZ xL xL];obtain⟨f,o,q,L,u⟩:=an7 _ (λ_ _ _=>rfl) l 0 (vu m (i-d) true) (λa h=>h) (Cv _ _ _ hm);refine⟨f,by rw[o];rfl,q,by have:=Iz (i-d) true m;omega,λx=>?_⟩;rw[u,Dk,Tm.fg];constructor
    ·rintro((h|h)|h)
     ·exact .inr ⟨xL,by rw[dO ⟨w.1,xL⟩];omega⟩
     ·exact .inl h
     ·exact .inr ⟨h.1,xL⟩
    ·rintro(h|⟨h,A⟩)
     ·exact .inl (.inr h)
     ·by_cases M:x=i-d
      ·exact .inl (.inl M)
      ·rw[dI (λN=>M xL)] at A;exact .inr ⟨h,xL⟩
   ·have c:e_ (ee k 1) (qn i d) false=false:=by
     unfold e_
     split
     ·rename_i S
      have H:k=1:=by simpa using S
      simp only[qn,aji]
      exactλh=>w ⟨H,h⟩
     ·rfl
    simp only[c,qU,lU];obtain⟨f,o,q,L,u⟩:=an7 _ (λ_ _ _=>rfl) l 0 m (λa h=>h) hm;refine⟨f,by rw[o];rfl,q,xL,λx=>?_⟩;rw[u,Tm.fg];constructor
    ·rintro(h|h)
     ·exact .inl h
     ·exact .inr ⟨h.1,xL⟩
    ·rintro(h|⟨h,A⟩)
     ·exact .inl h
     ·rw[dI (λN=>w ⟨N.1,xL⟩)] at A;exact .inr ⟨h,xL⟩
def JQ{t:Tm}(hw:t.wt<=1000000000)(d:t.aoa 4611686018427387904=true)(he:t.err=0):∃l,vT t=some (l,0)/\GP l/\l.length<=4096/\∀x,x∈l↔0<=x/\0<t.aoc x:=by
 have hn:t.an8<=4096:=by
  unfold Tm.err at he
  split at he
  ·split at he
   ·cases he
   ·omega
  ·cases he
 obtain⟨m,f,c,h,i⟩:=KS FU t 0 [] (by rw[fI];omega) xL xL xL d (by simp[mI])
 have a:(m.map (·.1)).Nodup:=c
 have b:m.length<=4096:=by simpa using Gk h (by simpa using hn)
 refine⟨y8 [] (mI m),?_,AZ _ [] .nil c LA,?_,λx=>?_⟩
 ·unfold vT;rw[k4 hw,he];simp only[dF];rw[dI Df,f];simp only[dF];unfold p9
  rw[ef xL,dY,show xh (m.map (·.1))=true from by simp[xh,a],dY]
  rfl
 ·rw[Lm];simp[mI,b]
 ·rw[Be,i];simp[mI]
def Mp{n:Int}(a:0<=n)(b:n<4294967296):IntKind.u32.wrap n=n:=by
 unfold IntKind.wrap;simp only[show IntKind.u32.bits=32 from rfl,show IntKind.u32.signed=false from rfl,Bool.false_and,qU,lU,show((2:Int)^32)=4294967296 from rfl];omega
def Na(a:Nat):BitVec.ofInt 32 (a:Int)=BitVec.ofNat 32 a:=LA
def NS{a b:Nat}(d:a<4294967296)(f:b<4294967296):Fl .u32 (a:Int) (b:Int)=((a|||b:Nat):Int):=by
 unfold Fl;have c:a|||b<2^32:=ahB xL xL;rw[show IntKind.u32.bits=32 from rfl,Na,Na,BitVec.toNat_or,ads,ads,Xm xL,Xm xL];exact Mp xL xL
def Y_{a b:Nat}(d:a<4294967296)(f:b<4294967296):tF .u32 (a:Int) (b:Int)=((a&&&b:Nat):Int):=by
 unfold tF;have c:a&&&b<2^32:=ajw _ xL;rw[show IntKind.u32.bits=32 from rfl,Na,Na,BitVec.toNat_and,ads,ads,Xm xL,Xm xL];exact Mp xL xL
def X_{k:Nat}(b:k<32):Z4 .u32 1 (k:Int)=((2^k:Nat):Int):=by
 unfold Z4;rw[show IntKind.u32.bits=32 from rfl,Cm,Xr xL,Int.one_mul];have a:2^k<2^32:=ai5 Df b;rw[show((2:Int)^k)=((2^k:Nat):Int) by push_cast;rfl];exact Mp (aj' _) (Int.ofNat_lt.2 (akM a rfl))
structure Us (l:List Int) (m:Nat):Prop where
 lt:m<4294967296
 pos:∀x∈l,0<=x
 srt:GP l
 mem:∀i:Nat,(i:Int)∈l↔m.testBit i=true
def Us.nil:Us [] 0:=⟨Df,LA,by first|exact .nil|trivial|simp[GP],LA⟩
def E7{i b:Int}{m:Nat}(hm:m<4294967296)(o:0<=i)(q:i<=1000000000000)(r:0<=b)(s:b<=1000000000)(t:i-b<32):∃c:Nat,nD i b (m:Int)=some (c:Int)/\c<4294967296/\∀j:Nat,c.testBit j=true↔m.testBit j=true\/i=j+b:=by
 unfold nD
 by_cases h:b<=i
 ·rw[dO (by rw[jj];exact h),fZ xL xL,show Ml (i-b)=true by simp[Ml];omega,dY];obtain⟨k,l⟩:∃k:Nat,i-b=(k:Int):=⟨(i-b).toNat,xL⟩
  have a:k<32:=xL
  have d:2^k<4294967296:=akM (ai5 Df a) rfl;rw[l,X_ a,NS hm d];refine⟨m|||2^k,rfl,ahB (n:=32) xL xL,λj=>?_⟩;rw[ahg,r9,alm,SJ];constructor
  ·rintro(h|h)
   ·exact .inl h
   ·exact .inr xL
  ·rintro(h|h)
   ·exact .inl h
   ·exact .inr xL
 ·rw[dI (by rw[jj];exact h)];exact⟨m,rfl,hm,λj=>⟨.inl,λf=>f.elim id λf=>absurd f xL⟩⟩
def I4:∀(n:Nat) (t:Tm) (b:Int) (m:Nat),t.an8<=n->t.an8<=1000000->t.ok=true->t.aoa 1000000000000=true->0<=b->b+t.an8<=1000000000->m<4294967296->(∀j:Int,32<=j->t.aoc (j+b)=0)->∃r:Nat,k7 n t b (λ(s:Int) (w:Int) (x:Int)=>nD w x s) (m:Int)=some (r:Int)/\r<4294967296/\∀j:Nat,r.testBit j=true↔m.testBit j=true\/0<t.aoc (j+b):=by
 intro n
 induction n with
 |zero=>intro t b m h;have:=t.eE;omega
 |succ n ih=>
  intro t b m hn Q R y S A hm c;cases t with
  |mk k i s l=>
   rw[Tm.dJ] at hn Q A;have hlen:=Tm.fF l;have hi:=Tm.pe R;rw[Tm.fD,gE,SJ,kE] at y;have T:=iY k;rw[k7];simp only[d_]
   have B:∀j:Int,32<=j->∀t∈l,t.aoc (j+(b+eP k))=0:=by
    intro j C t U;have D:=c j C;rw[Tm.fg] at D;have Z:=ew (Tm.aoc (j+b+eP k)) U;rw[show j+(b+eP k)=j+b+eP k by omega];omega
   have loop:∀(ts:List Tm) (j:Nat) (v:Nat),(∀t∈ts,t∈l)->v<4294967296->∃F:Nat,eV (λ(V:Int) (G:Tm)=>(λ(v28:Int)=>
      dE (k7 n G (b+eP k) (λ(s:Int) (w:Int) (x:Int)=>nD w x s) v28) λH=>
      some ((.next H):fV Int Int))) ts j (v:Int)=some (.inl (F:Int))/\F<4294967296/\∀q:Nat,F.testBit q=true↔v.testBit q=true\/0<eb (Tm.aoc (q+b+eP k)) ts:=by
    intro ts
    induction ts with
    |nil=>intro j v _ I;exact⟨v,LA,I,λq=>by simp[eb]⟩|cons t ts J=>
     intro j v d I;have a:=d t LA;have W:=ew Tm.an8 a;obtain⟨v1,K,L,M⟩:=ih t (b+eP k) v xL xL (hi.2.2.2.1 t a) (y.2 t a) xL xL I (λj C=>B j C t a);obtain⟨v2,f1,f2,f3⟩:=J (j+1) v1 (λu hu=>d u (by simp[hu])) L;refine⟨v2,?_,f2,λq=>?_⟩
     ·rw[fm,K];simp only[dF,fy];exact f1
     ·rw[f3,M];simp only[eb];rw[show(q:Int)+(b+eP k)=q+b+eP k by omega];constructor
      ·rintro((h|h)|h)
       ·exact .inl h
       ·exact .inr xL
       ·exact .inr xL
      ·rintro(h|h)
       ·exact .inl (.inl h)
       ·by_cases X:0<t.aoc (q+b+eP k)
        ·exact .inl (.inr X)
        ·exact .inr xL
   by_cases N:k=1
   ·subst N;rw[dO (show ee (Tm.mk 1 i s l).an6 1=true from rfl)];simp only[Tm.ez,Tm.eF,Tm.hB]
    have O:i-b<32:=by
     rcases Int.lt_or_le (i-b) 32 with h|h
     ·exact h
     ·have D:=c (i-b) h;rw[Tm.fg,dO ⟨rfl,xL⟩] at D;omega
    obtain⟨Y,K,L,M⟩:=E7 hm hi.2.1 y.1 S xL O;rw[K,dF,xx 1 b xL xL,ef xL,dY];obtain⟨P,f1,f2,f3⟩:=loop l 0 Y (λt h=>h) L;refine⟨P,?_,f2,λq=>?_⟩
    ·have f:=f1;rw[show((0:Nat))=0 from rfl] at f;rw[f,dF];rfl
    ·rw[f3,M,Tm.fg]
     by_cases o:i=q+b
     ·rw[dO ⟨rfl,o⟩];exact⟨λ_=>.inr xL,λ_=>.inl (.inr o)⟩
     ·rw[dI (λh=>o h.2),xR];exact⟨λh=>h.elim (λh=>h.elim .inl λh=>absurd h o) .inr,λh=>h.elim (λh=>.inl (.inl h)) .inr⟩
   ·rw[dI (show¬ee (Tm.mk k i s l).an6 1=true by simpa[ee] using N)];simp only[Tm.ez,Tm.eF,Tm.hB];rw[xx k b xL xL,ef xL,dY];obtain⟨P,f1,f2,f3⟩:=loop l 0 m (λt h=>h) hm;refine⟨P,by rw[f1,dF];rfl,f2,λq=>?_⟩;rw[f3,Tm.fg,dI (λh=>N h.1),xR]
def aca{t:Tm}(he:t.err=0)(b:t.aoa 1000000000000=true)(c:∀j:Int,32<=j->t.aoc j=0):∃(l:List Int),kf t=some l/\GP l/\∀x,x∈l↔0<=x/\0<t.aoc x:=by
 obtain⟨a,hn⟩:=Tm.hD he;have hw:=t.iD a;obtain⟨l,g1,g2,_,g4⟩:=JQ (t:=t) xL (Tm.o7 t xL b) he;exact⟨l,by unfold kf;rw[g1];rfl,g2,g4⟩
def sN(v:List (Int×Bool))(l:List Int):List (Int×Bool):=l.foldl (λv x=>vu v x true) v
def yn:∀(l:List Int) (v:List (Int×Bool)),(mI v).Nodup->(mI (sN v l)).Nodup/\(sN v l).length<=v.length+l.length/\∀x,x∈mI (sN v l)↔x∈mI v\/x∈l
 |[],v,h=>⟨h,by simp[sN],λx=>by simp[sN]⟩|y::l,v,h=>by
  obtain⟨a,c,b⟩:=yn l (vu v y true) (Cv y true v h);refine⟨a,?_,λx=>?_⟩
  ·have:=Iz y true v;show(sN (vu v y true) l).length<=_;rw[oZ];omega
  ·show x∈mI (sN (vu v y true) l)↔_;rw[b,Dk,lX];constructor
   ·rintro((h|h)|h)
    ·exact .inr (.inl h)
    ·exact .inl h
    ·exact .inr (.inr h)
   ·rintro(h|h|h)
    ·exact .inl (.inr h)
    ·exact .inl (.inl h)
    ·exact .inr h
def IW{ρ:Type}:∀(l:List Int) (j:Nat) (v:List (Int×Bool)),eV (λ(c:Int) (a:Int)=>(λ(b:(List (Int×Bool)))=>some ((.next (vu b a true)):fV (List (Int×Bool)) ρ))) l j v=some (.inl (sN v l))
 |[],j,v=>by rw[oH];rfl|x::l,j,v=>by
  rw[fm];simp only[dF,fy];exact IW l (j+1) (vu v x true)
def Jd{a b:List Int}(h:a.length<=1000000)(i:b.length<=1000000):∃l,gi a b=some l/\GP l/\∀x,x∈l↔x∈a\/x∈b:=by
 obtain⟨c,d,f⟩:=yn a [] (by simp[mI]);obtain⟨g1,g2,g3⟩:=yn b (sN [] a) c;refine⟨y8 [] (mI (sN (sN [] a) b)),?_,AZ _ _ .nil g1 LA,λx=>?_⟩
 ·unfold gi;simp only[d_];rw[ef xL,dY];rw[IW a 0 [],dF,eo,ef xL,dY,IW b 0 _,dF,eo];unfold p9;simp only[DD] at d;rw[ef xL,dY,show xh (List.map (λx=>x.1) (sN (sN [] a) b))=true from xe g1,dY];rfl
 ·rw[Be,g3,f];simp[mI]
def Us.union{a b:List Int}{m n:Nat}(c:Us a m)(d:Us b n)(f:a.length<=1000000)(j:b.length<=1000000):∃l,gi a b=some l/\Fl .u32 (m:Int) (n:Int)=((m|||n:Nat):Int)/\Us l (m|||n)/\∀x,x∈l↔x∈a\/x∈b:=by
 obtain⟨l,o,q,k⟩:=Jd f j;refine⟨l,o,NS c.lt d.lt,⟨ahB (n:=32) (by have:=c.lt;omega) (by have:=d.lt;omega),λx r=>?_,q,λi=>?_⟩,k⟩
 ·rcases(k x).1 r with h|h
  ·exact c.pos x h
  ·exact d.pos x h
 ·rw[k,c.mem,d.mem,ahg,r9]
def Us.bound{l:List Int}{m:Nat}(h:Us l m):∀x∈l,x<32:=by
 intro x a;have b:=h.pos x a;obtain⟨k,rfl⟩:=af3 b;have:=(h.mem k).1 a;rcases tU k 32 with h1|h1
 ·omega
 ·exfalso;have c:m<2^k:=Vy h.lt (Gk (by decide:4294967296<=2^32) (Nat.pow_le_pow_right Df h1));rw[Nat.testBit_lt_two_pow c] at this;cases this
def xj(k:Int)(l:List Int):List Int:=(l.filter λx=>decide (k<=x)).map λx=>x-k
def Jp{k:Int}(i:0<=k)(c:k<=1000):∀(l:List Int) (j:Nat) (v:List Int),(∀x∈l,0<=x/\x<32)->v.length+l.length<=1000000->eV (λ(n:Int) (a:Int)=>(λ(b:List Int)=>
   if(qn a k) then(
   gh (fK b [(fH .i64 a k)])<|some ((.next (fT b [(fH .i64 a k)])):fV (List Int) (List Int)))
   else(some (.next b)))) l j v=some (.inl (v++xj k l))
 |[],j,v,_,_=>by simp[xj]|x::l,j,v,h,o=>by
  simp only[oZ] at o;have q:=h x LA;rw[fm]
  by_cases d:k<=x
  ·rw[dO (by rw[jj];exact d),fR Xw,dY,fZ xL xL];simp only[dF,fy];rw[jn,Jp i c l (j+1) _ (λy f=>h y (by simp[f])) Xw];simp[xj,d]
  ·rw[dI (by rw[jj];exact d)];simp only[dF,fy];rw[Jp i c l (j+1) v (λy f=>h y (by simp[f])) xL];simp[xj,d]
def EN{l:List Int}{m:Nat}(h:Us l m)(d:l.length<=1000000){k:Int}(c:0<=k)(a:k<=1000):gn l k=some (xj k l):=by
 unfold gn;simp only[d_];rw[ef xL,dY,Jp c a l 0 [] (λx b=>⟨h.pos x b,h.bound x b⟩) Xw,dF,eo,p5]
def HV(k:Int)(l:List Int)(x:Int):x∈xj k l↔x+k∈l/\0<=x:=by
 unfold xj;simp only[qq,ac6,SJ];constructor
 ·rintro⟨y,⟨a,b⟩,rfl⟩;exact⟨by rw[Int.sub_add_cancel];exact a,xL⟩
 ·rintro⟨a,b⟩;exact⟨x+k,⟨a,xL⟩,xL⟩
def OF(k:Int):∀{l:List Int},GP l->GP (xj k l)
 |[],_=>.nil|a::l,.cons d f=>by
  have ih:=OF k f
  by_cases c:k<=a
  ·have e:xj k (a::l)=(a-k)::xj k l:=by simp[xj,c]
   rw[e];refine .cons (λb h=>?_) ih;have:=d _ ((HV k l b).1 h).1;omega
  ·have e:xj k (a::l)=xj k l:=by simp[xj,c]
   rw[e];exact ih
def Us.out{l:List Int}{m:Nat}(h:Us l m)(a:l.length<=1000000){k:Nat}(c:k<=32):gn l (k:Int)=some (xj k l)/\Us (xj k l) (m/2^k):=by
 refine⟨EN h a xL xL,⟨Nat.lt_of_le_of_lt (Nat.div_le_self _ _) h.lt,λx b=>((HV _ _ _).1 b).2,OF _ h.srt,λi=>?_⟩⟩
 ·rw[HV,show(i:Int)+(k:Int)=((i+k:Nat):Int) by omega,h.mem]
  have e:(m/2^k).testBit i=m.testBit (i+k):=by rw[ai8]
  rw[e];exact⟨λh=>h.1,λh=>⟨h,xL⟩⟩
structure PlR (c:dM):Prop where
 ctx:iz c.an_
 nv:c.an_.length<=16
 nh:c.aob.length<=16
def PlR.with{c:dM}(h:PlR c){f:Fm}(hn:c.aob.length+1<=16):∃a,fY c f=some a/\PlR a/\a.lemmas=c.lemmas/\a.an_=c.an_/\a.aob=c.aob++[f]:=by
 unfold fY;rw[fR Xw,dY];refine⟨_,rfl,⟨h.ctx,h.nv,?_⟩,rfl,rfl,by simp only[jn]⟩;show(fT c.aob [f]).length<=16;rw[jn];simpa using hn
def iz.append{g l:List Ty}(h:iz g)(a:iz l):iz (g++l):=λs hs=>(tp.1 hs).elim (h s) (a s)
def PlR.below{c:dM}(h:PlR c){l:List Ty}(b:iz l)(hn:c.an_.length+l.length<=16)(d:∀f∈c.aob,f.err=0/\f.aoa 1000000000=true):∃a,fl c l=some a/\PlR a/\a.lemmas=c.lemmas/\a.an_=c.an_++l/\a.aob=c.aob.map (Fm.up 0 l.length):=by
 have i:=h.nh
 have k:fl c l=some (dM.mk c.lemmas (c.an_++l) (c.aob.map (Fm.up 0 l.length))):=by
  unfold fl;simp only[d_]
  rw[fR xL,dY,ef xL,dY,jX (Fm.up 0 l.length) c.aob 0 [] Xw (λj x v n o=>by
   obtain⟨q1,q⟩:=d x n;obtain⟨r,s⟩:=Fm.hD q1
   rw[gB,Ge FU x 0 l.length (by rw[fI];omega) xL xL xL xL xL (Fm.o7 x xL q),dF,fR (by simpa using o),dY,jn])]
  rw[dF,eo,jn,p5]
 refine⟨_,k,⟨h.ctx.append b,?_,?_⟩,rfl,rfl,rfl⟩
 ·show(c.an_++l).length<=16;simpa using hn
 ·show(c.aob.map (Fm.up 0 l.length)).length<=16;simpa using h.nh
def acb{t:Tm}(q:t.ok=true):vo t=some t.root:=by
 unfold vo;simp only[d_];cases t with
 |mk k i s l=>
  show(if(ee k 3) then(dE (dX l 0) λj=>some (ee j.an6 2))else(
   if(ee k 6) then(dE (dX l 2) λf=>if(ee f.an6 4) then some true else some (ee f.an6 5))else(
   if(ee k 9) then(dE (dX l 2) λh=>if(ee h.an6 7) then some true else some (ee h.an6 8))else(
   if(e_ (ee k 11) true (ee k 12)) then(dE (dX l 0) λn=>some (ee n.an6 10))else some false))))=_
  unfold Tm.root
  by_cases r:k=3
  ·subst r;obtain⟨a,b,rfl⟩:=Tm.ok3 q;rw[dO Df];simp[eO,Tm.kd,Dy]
  ·rw[dI (by simpa using r)]
   by_cases u:k=6
   ·subst u;obtain⟨a,b,c,rfl⟩:=Tm.ok6 q;rw[dO Df];simp only[nc,ql,kS,dF,Tm.kd,gQ]
    by_cases o:c.an6=4
    ·simp[o]
    ·simp[o,Dy]<;>exact adn.2 Iff.rfl
   ·rw[dI (by simpa using u)]
    by_cases v:k=9
    ·subst v;obtain⟨a,b,c,rfl⟩:=Tm.ok9 q;rw[dO Df];simp only[nc,ql,kS,dF,Tm.kd,gQ]
     by_cases o:c.an6=7
     ·simp[o]
     ·simp[o,Dy]<;>exact adn.2 Iff.rfl
    ·rw[dI (by simpa using v)]
     by_cases d:k=11\/k=12
     ·obtain⟨a,rfl⟩:=Tm.akm d q;rw[dO (by rcases d with rfl|rfl<;>rfl)];simp only[eO,kS,dF,Tm.kd];rcases d with rfl|rfl<;>simp[Dy]<;>exact adn.2 Iff.rfl
     ·rw[dI (by simp only[lJ,r9,gQ];exact d)];simp only[not_or] at d;simp[r,u,v,d.1,d.2]
def zt{t:Tm}(h:t.an8<=1000000000):fP FU t=some (t.an8:Int):=nR FU t (by rw[fI];exact h) h
def VQ{t:Tm}(r:t.ok=true)(hn:t.an8<=8192)(f:t.root=true):rE t=some ((t.fv.an8:Int)-(t.an8:Int)):=by
 have l:=Tm.QD r f;have u:=hn;unfold rE;rw[zt xL];simp only[dF];cases l with
 |app=>
  rename_i i s c d b a;have o:=Tm.en (Tm.en r (.mk 2 c d [b]) LA) b LA;rw[Tm.dJ] at hn;simp only[eb,Tm.dJ] at hn;rw[dO YQ];simp only[Tm.ez,eO,hR,kS,ql,dF];rw[zt (t:=b) xL,zt (t:=a) xL,z' FU b 0 (by rw[fI];omega) xL xL xL];simp only[dF];have v:=Tm.ku b 0;have hmul:b.aoc 0*a.an8<=8192*8192:=VY xL xL;have w:=Tm.xf a b 0 o;have x:=a.eE
  have e:(Tm.mk 3 i s [.mk 2 c d [b],a]).fv=Tm.fQ 0 b a:=by simp[Tm.fv]
  rw[e]
  have hint:(b.aoc 0:Int)*((a.an8:Int)-1)=((b.aoc 0*a.an8:Nat):Int)-(b.aoc 0:Int):=by rw[ahz,ag'];simp
  rw[fZ (a:=(a.an8:Int)) xL xL,M8 (by rw[hint];omega) (by rw[hint];omega),hint,fW xL xL,fZ xL xL]
  congr 1
  omega
 |proj q=>
  rename_i k i s c d a b;rw[Tm.dJ] at hn;simp only[eb,Tm.dJ] at hn;rcases q with rfl|rfl
  ·rw[dI LA,dI LA,dI LA,dO YQ];simp only[Tm.ez,eO,hR,kS,ql,dF];rw[zt (t:=a) xL];simp only[dF];rw[fZ xL xL];simp[Tm.fv]
  ·rw[dI LA,dI LA,dI LA,dI LA];simp only[Tm.ez,eO,hR,kS,ql,dF];rw[zt (t:=b) xL];simp only[dF];rw[fZ xL xL];simp[Tm.fv]
 |zero q=>
  rename_i k y i s c d b st;rw[Tm.dJ] at hn;simp only[eb,Tm.dJ] at hn
  have j:k≠3/\k≠11/\k≠12:=xL
  have:(Tm.mk k i s [b,st,.mk y c d []]).fv=b:=by simp[Tm.fv,j.1,j.2.1,j.2.2]
  rw[this];rcases q with⟨rfl,rfl⟩|⟨rfl,rfl⟩
  ·rw[dI LA,dO YQ];simp only[Tm.ez,eO,hR,nc,kS,ql,dF];rw[dO YQ,zt (t:=b) xL];simp only[dF];rw[fZ xL xL]
  ·rw[dI LA,dI LA,dO YQ];simp only[Tm.ez,eO,hR,nc,kS,ql,dF];rw[dO YQ,zt (t:=b) xL];simp only[dF];rw[fZ xL xL]
 |succ=>
  rename_i i s c d b st n
  have e:(Tm.mk 6 i s [b,st,.mk 5 c d [n]]).fv=o0 st [n,.mk 6 i s [b,st,n]]:=by simp[Tm.fv,o0]
  rw[e,CZ];rw[Tm.dJ] at hn|-;simp only[eb,Tm.dJ,oZ,DD] at hn|-;rw[dI LA,dO YQ];simp only[Tm.ez,eO,hR,nc,kS,ql,dF];rw[dI LA,zt (t:=st) xL,zt (t:=n) xL];simp only[dF];rw[fW (a:=2) xL xL,fW (b:=(n.an8:Int)) xL xL,fW xL xL,fZ (b:=1) xL xL,fZ xL xL]
  congr 1
  omega
 |cons=>
  rename_i i s c d b st h n
  have e:(Tm.mk 9 i s [b,st,.mk 8 c d [h,n]]).fv=o0 st [h,n,.mk 9 i s [b,st,n]]:=by simp[Tm.fv,o0]
  rw[e,CZ];rw[Tm.dJ] at hn|-;simp only[eb,Tm.dJ,oZ,DD] at hn|-;rw[dI LA,dI LA,dO YQ];simp only[Tm.ez,eO,hR,nc,kS,ql,dF];rw[dI LA,zt (t:=st) xL,zt (t:=h) xL,zt (t:=n) xL];simp only[dF];rw[fW (a:=3) xL xL,fW (b:=(h.an8:Int)) xL xL,fW (b:=(n.an8:Int)) xL xL,fW xL xL,fZ (b:=1) xL xL,fZ (b:=(h.an8:Int)) xL xL,fZ xL xL]
  congr 1
  omega
def Sx{M:Int}(u:0<=M/\M<=1000000000000){t:Tm}(hs:Sm M t)(hn:t.an8<=8192)(c:t.root=true):qA t=some t.fv:=by
 have o:=hs.ok;have q:=Tm.QD o c;have hw:=Tm.iD t o;unfold qA;cases q with
 |app=>
  rename_i i s f j b a;have d:=(hs.arg (.mk 2 f j [b]) LA).arg b LA;have l:=hs.arg a LA;have v:=d.an8;have w:=l.an8;rw[dO YQ];simp only[Tm.ez,eO,hR,kS,ql,dF];rw[FJ FU b 0 0 a (by rw[fI];omega) xL xL xL xL (d.mono u.2).aoa d.ok xL (l.mono u.2).aoa];simp[Tm.fv]
 |proj r=>
  rename_i k i s f j a b;rcases r with rfl|rfl
  ·rw[dI LA,dI LA,dI LA,dO YQ];simp[Tm.fv,eO]
  ·rw[dI LA,dI LA,dI LA,dI LA];simp[Tm.fv,eO,hR]
 |zero r=>
  rename_i k x i s f j b st;rcases r with⟨rfl,rfl⟩|⟨rfl,rfl⟩
  ·rw[dI LA,dO YQ];simp[Tm.fv,eO,nc,ee]
  ·rw[dI LA,dI LA,dO YQ];simp[Tm.fv,eO,nc,ee]
 |succ=>
  rename_i i s f j b st n;have hi:i=0:=(Tm.pe o).2.2.1 Df;subst hi;rw[Tm.jg] at hw;simp only[eb,Tm.jg] at hw;rw[dI LA,dO YQ];simp only[Tm.ez,eO,hR,nc,kS,ql,dF,Tm.fw];rw[dI LA,wo xL xL];simp only[dF];rw[Dm xL xL xL xL];simp only[dF];rw[pD _ _ (by simp only[eb,Tm.jg,Ty.z,Ty.dJ];omega)];simp[Tm.fv,o0,Ty.z]
 |cons=>
  rename_i i s f j b st h n;have hi:i=0:=(Tm.pe o).2.2.1 Df;subst hi;rw[Tm.jg] at hw;simp only[eb,Tm.jg] at hw;rw[dI LA,dI LA,dO YQ];simp only[Tm.ez,eO,hR,nc,kS,ql,dF,Tm.fw];rw[dI LA,wo xL xL];simp only[dF];rw[pD _ _ (by simp only[eb,Tm.jg,Ty.z,Ty.dJ];omega)];simp only[dF];rw[Dm xL xL xL xL];simp only[dF];rw[pD _ _ (by simp only[eb,Tm.jg,Ty.z,Ty.dJ];omega)];simp[Tm.fv,o0,Ty.z]
def aho(t:Tm)(o:Option (Option Tm))(r:Tm×Bool×Bool):Prop:=
 match o with
 |none=>r.2.1=true/\r.2.2=false|some none=>r=(t,false,true)|some (some a)=>r=(a,true,true)
def Ut{M:Int}(H:0<=M/\M<=1000000000000)(room:Int):∀(n:Nat) (t:Tm),t.an8<=n->Sm M t->t.an8<=8192->∃r,ox n t room=some r/\aho t (t.Kw room) r
 |0,t,hn,_,_=>by have:=t.eE;omega
 |n+1,.mk k i s l,hn,hs,G=>by
  rw[ox,acb hs.ok];simp only[dF];rw[Tm.Nw]
  by_cases x:(Tm.mk k i s l).root=true
  ·rw[dO x,dO x,VQ hs.ok G x];simp only[dF,iw]
   by_cases hg:((Tm.mk k i s l).fv.an8:Int)-((Tm.mk k i s l).an8:Int)>room
   ·rw[dO hg,dO hg];exact⟨_,rfl,rfl,rfl⟩
   ·rw[dI hg,dI hg,Sx H hs G x];exact⟨_,rfl,rfl⟩
  ·rw[dI x,dI x];rw[Tm.dJ] at hn G;have hlen:=Tm.Y5 hs.ok;simp only[Tm.ez,d_,ef (l:=l) xL,dY,Tm.eF,Tm.hB,Tm.fw]
   have key:∀(ts pre:List Tm),l=pre++ts->∃o,eV (λ(a:Int) (y:Tm)=>(λ(_:Unit)=>
     fB (ox n y room) λA B C=>
     if B then(
     gh (FK l)<|dE (dX l a) λI=>
     some (fV.ret ((Tm.mk k i s (CN l a A)),true,C)))
     else(some (.next ())))) ts pre.length ()=some o/\(match Tm.uU room ts with
      |none=>∃r:Tm×Bool×Bool,o=.inr r/\r.2.1=true/\r.2.2=false|some none=>o=.inl ()|some (some h)=>o=.inr (Tm.mk k i s (pre++h),true,true)):=by
    intro ts
    induction ts with
    |nil=>intro pre _;exact⟨_,rfl,by rw[Tm.uU]⟩|cons t ts ih=>
     intro pre D
     have j:t∈l:=by rw[D];simp
     have J:=ew Tm.an8 j;obtain⟨⟨u,b,c⟩,K,v⟩:=Ut H room n t xL (hs.arg t j) xL;rw[fm];simp only[K,lS]
     have d:dX l ((pre.length:Nat):Int)=some t:=by
      unfold dX;rw[dO xL];rw[D];simp
     have fo:CN l ((pre.length:Nat):Int) u=pre++u::ts:=by
      unfold CN;rw[D,Cm,Ja]
     have f:FK l=true:=by
      unfold FK uO;have:0<l.length:=List.length_pos_of_mem j;exact xe xL
     rw[Tm.uU];unfold aho at v;cases e:t.Kw room with
     |none=>
      rw[e] at v;obtain⟨q1,F⟩:=v;simp only at q1 F;rw[dO q1,f,dY,d];exact⟨_,rfl,_,rfl,rfl,F⟩
     |some o=>
      cases o with
      |none=>
       rw[e] at v;obtain⟨rfl,q⟩:=g_ v;obtain⟨rfl,rfl⟩:=g_ q;rw[dI Df];simp only[dF,fy];obtain⟨o,o1,o2⟩:=ih (pre++[u]) (by rw[D];simp);rw[qf] at o1;refine⟨o,o1,?_⟩;cases w:Tm.uU room ts with
       |none=>rw[w] at o2;exact o2
       |some q=>
        cases q with
        |none=>rw[w] at o2;exact o2
        |some h=>rw[w] at o2;simpa using o2
      |some L=>
       rw[e] at v;obtain⟨rfl,q⟩:=g_ v;obtain⟨rfl,rfl⟩:=g_ q;rw[dO rfl,f,dY,d];simp only[dF,fo];exact⟨_,rfl,rfl⟩
   obtain⟨o,o1,o2⟩:=key l [] rfl;rw[show(([]:List Tm).length)=0 from rfl] at o1;rw[o1];cases w:Tm.uU room l with
   |none=>
    rw[w] at o2;obtain⟨r,rfl,q1,F⟩:=o2;exact⟨r,rfl,q1,F⟩
   |some q=>
    cases q with
    |none=>rw[w] at o2;subst o2;exact⟨_,rfl,rfl⟩
    |some h=>rw[w] at o2;subst o2;exact⟨_,rfl,rfl⟩
def mj{t:Tm}(h:t.err=0):t.ok=true/\t.an8<=4096:=Tm.hD h
def DS(steps:Int)(C:0<=steps/\steps<=65536):∀(k:Nat) (m:Int) (t:Tm) (N:Nat),(k:Int)=steps-m->0<=m->Sm (536870912+8192*m) t->t.an8<=4096->k<N->n9 ((W0 λ(d:Int) (f:Int) (i:Int) (j:Int) (l:List Ty) (n:List Tm)=>
   dE (fP FU (Tm.mk f i (Ty.mk j l) n)) λv=>
   fB (ox FU (Tm.mk f i (Ty.mk j l) n) (fH .i64 4096 v)) λa w x=>
   if w then(
   if(ee d steps) then(
   some (.ret ((Tm.mk 0 0 (Ty.mk 0 []) []),0,5)))
   else(if x then(
   some (.next ((eL .i64 d 1),a.an6,a.an9,a.dL.an6,a.dL.an7,a.an7)))
   else(some (.ret ((Tm.mk 0 0 (Ty.mk 0 []) []),0,4)))))
   else(dE (lI FU (Tm.mk f i (Ty.mk j l) n)) λy=>
   some (.ret (y,d,0)))):(Int×Int×Int×Int×(List Ty)×(List Tm))->(Option (fV (Int×Int×Int×Int×(List Ty)×(List Tm)) (Tm×Int×Int)))) N (m,t.an6,t.an9,t.dL.an6,t.dL.an7,t.an7)=some (.inr (t.norm k m))
 |k,m,t,0,_,_,_,_,D=>by omega|k,m,t,N+1,G,hm,hs,hn,D=>by
  rw[qX];simp only[Au,agG];have hw:=Tm.iD t hs.ok;rw[zt xL];simp only[dF];rw[fZ xL xL];obtain⟨⟨u,b,c⟩,F,r⟩:=Ut (M:=536870912+8192*m) xL (4096-t.an8) FU t (by rw[fI];omega) hs xL;rw[F];simp only[lS];unfold aho at r;cases e:t.Kw (4096-t.an8)with
  |none=>
   rw[e] at r;obtain⟨q1,B⟩:=r;simp only at q1 B;rw[dO q1];cases k with
   |zero=>
    have s:¬t.nf=true:=by
     intro h;rw[(Fp _ t).1 h] at e;cases e
    rw[dO (by simp[ee];omega),Tm.norm,dI s];rfl
   |succ k=>
    rw[dI (by simp[ee];omega),dI (by rw[B];decide),ZK e];rfl
  |some o=>
   cases o with
   |none=>
    rw[e] at r;obtain⟨rfl,q⟩:=g_ r;obtain⟨rfl,rfl⟩:=g_ q;rw[dI Df,tl xL];cases k with
    |zero=>rw[Tm.norm,dO ((Fp _ _).2 e)];rfl|succ k=>rw[Fe e];rfl
   |some H=>
    rw[e] at r;obtain⟨rfl,q⟩:=g_ r;obtain⟨rfl,rfl⟩:=g_ q;rw[dO rfl];cases k with
    |zero=>
     have s:¬t.nf=true:=by
      intro h;rw[(Fp _ t).1 h] at e;cases e
     rw[dO (by simp[ee];omega),Tm.norm,dI s];rfl
    |succ k=>
     obtain⟨s1,s2,I⟩:=Zf (M:=536870912+8192*m) xL t hs xL _ e;rw[dI (by simp[ee];omega),dO rfl,Fk e,fW xL xL];have A:Sm (536870912+8192*(m+1)) u:=⟨s1,by rw[show 536870912+8192*(m+1)=536870912+8192*m+8192 by omega];exact s2,xL⟩;exact DS steps C k (m+1) u N xL xL A xL xL
def L0:∀(k:Nat) (m:Int) (t p:Tm) (n e:Int),t.norm k m=(p,n,e)->e≠0->p=Tm.z
 |0,m,t,p,n,e,h,he=>by
  rw[Tm.norm] at h
  split at h
  ·obtain⟨_,h⟩:=g_ h;obtain⟨_,h⟩:=g_ h;exact absurd h.symm he
  ·exact(g_ h).1.symm
 |k+1,m,t,p,n,e,h,he=>by
  rw[Tm.norm] at h
  split at h
  ·exact(g_ h).1.symm
  ·obtain⟨_,h⟩:=g_ h;obtain⟨_,h⟩:=g_ h;exact absurd h.symm he
  ·exact L0 k _ _ _ _ _ h he
def yX{t:Tm}(hw:t.wt<=1000000)(steps:Int):kZ t steps=some (if t.err=0 then(if 0<=steps/\steps<=65536/\t.aoa 536870912 then t.norm steps.toNat 0 else(Tm.z,0,1))else(Tm.z,0,t.err)):=by
 have d:=t.iA;unfold kZ;rw[k4 xL];simp only[dF]
 by_cases he:t.err=0
 ·obtain⟨f,hn⟩:=mj he;rw[dO he,dI (by simp[eD,he])];simp only[d_,rR,iw]
  by_cases b:steps<0
  ·rw[dO b,dO trivial,dI xL];rfl
  ·rw[dI b]
   by_cases a2:steps>65536
   ·rw[dO a2,dO trivial,dI xL];rfl
   ·rw[dI a2,Ai FU t 536870912 (by rw[fI];omega) xL];simp only[dF]
    by_cases a:t.aoa 536870912=true
    ·have hs:Sm 536870912 t:=⟨f,a,xL⟩;rw[dO (c:=0<=steps/\_) ⟨xL,xL,a⟩,a,dI Df,DS steps xL steps.toNat 0 t FU xL xL hs xL (by rw[fI];omega)];rfl
    ·rw[dI (c:=0<=steps/\_) (λh=>a h.2.2),dO (by rw[ahh] at a;rw[a];rfl)];rfl
 ·rw[dI he,dO (by simp[eD,he])];rfl
def Jo{t:Tm}(hw:t.wt<=1000000)(steps:Int):∃p m e,kZ t steps=some (p,m,e)/\p.wt<=1000000000:=by
 have b:Tm.z.wt<=1000000000:=Df
 rw[yX hw steps]
 by_cases he:t.err=0
 ·obtain⟨f,hn⟩:=mj he;rw[dO he]
  by_cases c:0<=steps/\steps<=65536/\t.aoa 536870912=true
  ·rw[dO c];generalize a:t.norm steps.toNat 0=o;obtain⟨p,m,e⟩:=o;refine⟨_,_,_,rfl,?_⟩
   by_cases d:e=0
   ·subst d;obtain⟨q1,h⟩:=Hj _ 536870912 _ _ _ _ xL ⟨f,c.2.2,xL⟩ hn a;have:=Tm.iD p q1.ok;omega
   ·rw[L0 _ _ _ _ _ _ a d];exact b
  ·rw[dI c];exact⟨_,_,_,rfl,b⟩
 ·rw[dI he];exact⟨_,_,_,rfl,b⟩
def LV{a b:Tm}(c:a.wt<=1000000000):∃r,qQ a b=some r/\lB FU a b=some r:=by
 obtain⟨r,d,f⟩:=BL (b:=b) c;obtain⟨q,q1,h⟩:=w7 FU a b (by rw[fI];exact c) c
 have:r=q:=by rw[Gr,f,h]
 subst this;exact⟨r,d,q1⟩
def VS{a b:Tm}(o:a.wt<=1000000)(u:b.wt<=1000000)(steps:Int):∃c,mb a b steps=some c:=by
 unfold mb;rw[k4 xL,k4 (t:=b) xL];simp only[dF]
 by_cases d:eD a.err 0=true
 ·rw[dO d];exact⟨_,rfl⟩
 ·rw[dI d]
  by_cases h:eD b.err 0=true
  ·rw[dO h];exact⟨_,rfl⟩
  ·rw[dI h];obtain⟨r,_,v⟩:=LV (a:=a) (b:=b) xL;rw[v];simp only[dF]
   by_cases i:r=true
   ·rw[dO i];exact⟨_,rfl⟩
   ·rw[dI i];obtain⟨p,m,e,w,x⟩:=Jo o steps;obtain⟨q,n,f,y,A⟩:=Jo u steps;rw[w,y];simp only[lS]
    by_cases j:eD e 0=true
    ·rw[dO j];exact⟨_,rfl⟩
    ·rw[dI j]
     by_cases k:eD f 0=true
     ·rw[dO k];exact⟨_,rfl⟩
     ·rw[dI k];obtain⟨s,_,s2⟩:=LV (a:=p) (b:=q) x;rw[s2];simp only[dF]
      by_cases l:s=true
      ·rw[dO l];exact⟨_,rfl⟩
      ·rw[dI l];exact⟨_,rfl⟩
def IJ{α:Type}{E:α->α->Option Int}{M:List α}:∀(l:List α) (i:Nat),(∀x∈l,∀y∈M,∃c,E x y=some c)->i+l.length<=M.length->∃o,eV (λ(d:Int) (f:α)=>(λ(_:Unit)=>dE (dX M d) λb=>dE (E f b) λa=>if(eD a 0) then(some (.ret a))else(some ((.next ()):fV Unit Int)))) l i ()=some o
 |[],i,_,_=>⟨.inl (),LA⟩|x::l,i,h,k=>by
  simp only[oZ] at k;obtain⟨c,n⟩:=h x LA M[i] (D9 xL);rw[fm,jR,qp xL];simp only[dF,n]
  by_cases j:eD c 0=true
  ·rw[dO j];exact⟨.inr c,rfl⟩
  ·rw[dI j];simp only[dF,fy];exact IJ l (i+1) (λy q=>h y (by simp[q])) xL
def Fm.shape{k:Int}{s i:Ty}{ts us:List Tm}{l m:List Fm}(h:(Fm.mk k s ts l).ok=true)(d:(Fm.mk k i us m).ok=true):ts.length=us.length/\l.length=m.length:=by
 rw[Fm.gR] at h d;simp only[gE] at h d;have c:=h.1.1;have a:=d.1.1;unfold Fm.node at c a
 split at c
 ·rename_i f;rw[dO f] at a;simp only[gE,oz] at c a;omega
 ·rename_i f;rw[dI f] at a
  split at c
  ·rename_i b;rw[dO b] at a;simp only[gE,oz] at c a;omega
  ·rename_i b;rw[dI b] at a;simp only[gE,oz] at c a;omega
def VV:∀(n:Nat) (a b:Fm),a.wt<=n->a.wt<=1000000->b.wt<=1000000->a.ok=true->b.ok=true->∃c,k9 n a b=some c:=by
 intro n
 induction n with
 |zero=>intro t b h;have:=t.j2;omega
 |succ n ih=>
  intro a b h C j A d;cases a with
  |mk k s ts l=>
  cases b with
  |mk k' D us m=>
   rw[Fm.jg] at h C j;have H:=Fm.qW l;have F:=Tm.qW ts;rw[k9];simp only[Fm.ez,Fm.eF,Fm.h8,Fm.fw,d_,ef (l:=l) xL,ef (l:=ts) xL,dY,er]
   by_cases q:k≠k'
   ·rw[dO q];exact⟨11,rfl⟩
   ·rw[dI q,iK xL];simp only[dF];have v:k=k':=u9.1 q;subst v;obtain⟨s1,s2⟩:=Fm.shape A d;obtain⟨_,I,ol⟩:=Fm.qt A;obtain⟨_,G,w⟩:=Fm.qt d;cases s.kX D with
    |false=>exact⟨11,rfl⟩|true=>
     obtain⟨o,k2⟩:=IJ (E:=λx y=>mb x y 1000) (M:=us) ts 0 (λx f y i=>VS (by have:=ew Tm.wt f;omega) (by have:=ew Tm.wt i;omega) 1000) xL;simp only[er] at k2;rw[dI Df,k2];cases o with
     |inr r=>exact⟨r,rfl⟩|inl u=>
      simp only[dF,eo];obtain⟨o,B⟩:=IJ (E:=λx y=>k9 n x y) (M:=m) l 0 (λx f y i=>ih x y (by have:=ew Fm.wt f;omega) (by have:=ew Fm.wt f;omega) (by have:=ew Fm.wt i;omega) (ol x f) (w y i)) xL;simp only[er] at B;rw[B];cases o with
      |inr r=>exact⟨r,rfl⟩|inl u=>exact⟨0,rfl⟩
def Ds{a b:Fm}(h:a.wt<=1000000000)(i:b.wt<=1000000000):∃c,jW a b=some c:=by
 unfold jW;rw[kh h,kh i];simp only[dF,er]
 by_cases d:a.err≠0
 ·rw[dO d];exact⟨_,rfl⟩
 ·rw[dI d]
  by_cases f:b.err≠0
  ·rw[dO f];exact⟨_,rfl⟩
  ·rw[dI f];obtain⟨o1,n1⟩:=Fm.hD (u9.1 d);obtain⟨o2,n2⟩:=Fm.hD (u9.1 f);have k:=a.iD o1;have l:=b.iD o2;obtain⟨c,j⟩:=VV FU a b (by rw[fI];omega) xL xL o1 o2;rw[j];exact⟨c,rfl⟩
def ru{g:List Ty}{x:Tm}{t:Ty}(h:dQ g x t)(hg:iz g)(a:g.length+x.an8<=1000000):x.ty g=(t,0):=by
 have b:=(ZB h hg).2 x.an8 (jy _) a;rw[zJ x.an8 x (jy _) h.ok g hg a] at b;exact iq b
def OE{g:List Ty}{x:Tm}(c:x.ok=true)(hg:iz g)(h:nU x g 1=0):dQ g x .nat:=by
 unfold nU at h
 split at h
 ·cases h
 ·rename_i d
  have f:(x.ty g).1.an6=1:=by
   rcases Int.emod_two_eq (x.ty g).1.an6 with _|_<;>
   ·by_cases a:(x.ty g).1.an6=1
    ·exact a
    ·exact absurd ⟨h,a⟩ d
  obtain⟨b,i⟩:=qx _ x (jy _) c g hg _ (y_ h);rw[(vP i).1 f] at b;exact b
def T'{g:List Ty}{x:Tm}(h:dQ g x .nat)(hg:iz g)(a:g.length+x.an8<=1000000):nU x g 1=0:=by
 unfold nU;rw[ru h hg a];exact dI (λh=>h.2 rfl)
def rb(f:Fm)(t:f.ok=true):∀g,iz g->f.uQ g=0->ic g f:=by
 refine Fm.oG (p:=λf=>∀g,iz g->f.uQ g=0->ic g f) ?_ ?_ ?_ f t
 ·intro a b l r g hg h;rw[Fm.tV] at h
  by_cases c:nU a g 1=0
  ·by_cases i:nU b g 1=0
   ·exact .eq (OE l hg c) (OE r hg i)
   ·simp[ft,c,i] at h
  ·simp[ft,c] at h
 ·intro k a b j l r d n g hg h
  have o:h9 k=false:=by rcases j with rfl|rfl<;>rfl
  rw[Fm.tV,o] at h;simp only[mq,ft,lN,if_true,qU,lU] at h
  by_cases c:a.uQ g=0
  ·rw[dO c] at h
   by_cases i:b.uQ g=0
   ·exact .two j (d g hg c) (n g hg i)
   ·rw[dI i] at h;exact absurd h i
  ·rw[dI c] at h;exact absurd h c
 ·intro k s a j hs l d g hg h
  have o:h9 k=true:=by rcases j with rfl|rfl|rfl|rfl<;>rfl
  rw[Fm.tV,o] at h;simp only[mq,ft,lN,if_true] at h
  by_cases c:a.uQ (g++[s])=0
  ·exact .q j hs (d _ (hg.app hs) c)
  ·rw[dI c] at h;exact absurd h c
def om{g:List Ty}{f:Fm}(h:ic g f):iz g->g.length+f.an8<=1000000->f.uQ g=0:=by
 induction h with
 |eq n o=>
  intro hg c;rw[Fm.dJ] at c;simp only[eb] at c;rw[Fm.tV];simp[ft,T' n hg xL,T' o hg xL]
 |two d _ _ i j=>
  intro hg c;rw[Fm.dJ] at c;simp only[eb] at c;rename_i k a b _ _
  have l:h9 k=false:=by rcases d with rfl|rfl<;>rfl
  rw[Fm.tV,l];simp[ft,i hg xL,j hg xL]
 |q d hs _ ih=>
  intro hg c;rw[Fm.dJ] at c;simp only[eb] at c;rename_i k s a _
  have l:h9 k=true:=by rcases d with rfl|rfl|rfl|rfl<;>rfl
  rw[Fm.tV,l];simp[ft,ih (hg.app hs) Xw]
def ic.up{g:List Ty}{f:Fm}(h:ic g f):∀g1 g2 e:List Ty,g=g1++g2->ic (g1++e++g2) (f.up g2.length e.length):=by
 induction h with
 |eq l n=>
  intro g1 g2 e hg;rw[Fm.fh];exact .eq (l.up g1 g2 e hg) (n.up g1 g2 e hg)
 |two c _ _ d i=>
  intro g1 g2 e hg;rename_i k a b _ _
  have j:qB k=0:=by rcases c with rfl|rfl<;>rfl
  rw[Fm.fh,j,sx];exact .two c (d g1 g2 e hg) (i g1 g2 e hg)
 |q c hs _ ih=>
  intro g1 g2 e hg;rename_i k s a _
  have j:qB k=1:=by rcases c with rfl|rfl|rfl|rfl<;>rfl
  subst hg;have:=ih g1 (g2++[s]) e (by rw[vY]);rw[Fm.fh,j];rw[qf,<-vY] at this;exact .q c hs this
def ic.lift{g:List Ty}{f:Fm}(h:ic g f)(e:List Ty):ic (g++e) (f.up 0 e.length):=by
 have:=h.up g [] e LA;simpa using this
def ic.fQ{g:List Ty}{f:Fm}(h:ic g f):∀(g1:List Ty) (s:Ty) (g2:List Ty) (a:Tm),g=g1++[s]++g2->dQ g1 a s->ic (g1++g2) (Fm.fQ g2.length f a):=by
 induction h with
 |eq l n=>
  intro g1 s g2 a hg b;rw[Fm.eI];exact .eq (l.fQ g1 s g2 a hg b) (n.fQ g1 s g2 a hg b)
 |two c _ _ d i=>
  intro g1 s g2 a hg b;rename_i k x y _ _
  have j:qB k=0:=by rcases c with rfl|rfl<;>rfl
  rw[Fm.eI,j,sx];exact .two c (d g1 s g2 a hg b) (i g1 s g2 a hg b)
 |q c hs _ ih=>
  intro g1 s g2 a hg b;rename_i k o x _
  have j:qB k=1:=by rcases c with rfl|rfl|rfl|rfl<;>rfl
  subst hg;have:=ih g1 s (g2++[o]) a LA b;rw[Fm.eI,j];rw[qf,<-vY] at this;exact .q c hs this
theorem ic.put{g:List Ty}{s:Ty}{f:Fm}(h:ic (g++[s]) f){a:Tm}(b:dQ g a s):ic g (Fm.fQ 0 f a):=by
 have:=h.fQ g s [] a LA b;simpa using this
def dQ.front{g:List Ty}{x:Tm}{t:Ty}(h:dQ g x t)(e:List Ty):dQ (e++g) x t:=by
 induction h with
 |@var g t i c f=>
  refine .var i Xw ?_;rw[CD Xw,<-f]
  congr 1
  simp;omega
 |lam c _ ih=>exact .lam c (by rw[vY];exact ih)|app _ _ a b=>exact .app a b|zero=>exact .zero|succ _ ih=>exact .succ ih|rB c _ _ _ a b d=>exact .rB c a b d|nil=>exact .nil|cons _ _ a b=>exact .cons a b|fold c _ _ _ a b d=>exact .fold c a b d|pair c _ _ a b=>exact .pair c a b|fst _ ih=>exact .fst ih|snd _ ih=>exact .snd ih|unit=>exact .unit
def ic.front{g:List Ty}{f:Fm}(h:ic g f)(e:List Ty):ic (e++g) f:=by
 induction h with
 |eq d i=>exact .eq (d.front e) (i.front e)|two a _ _ b c=>exact .two a b c|q a hs _ ih=>exact .q a hs (by rw[vY];exact ih)
structure Hg (g:List Ty) (f:Fm):Prop where
 err:f.err=0
 ty:ic g f
def Hg.an8{g:List Ty}{f:Fm}(h:Hg g f):f.an8<=4096:=(Fm.hD h.err).2
def Hg.ok{g:List Ty}{f:Fm}(h:Hg g f):f.ok=true:=(Fm.hD h.err).1
def Hg.aoa{g:List Ty}{f:Fm}(h:Hg g f)(hg:g.length<=16){m:Int}(hm:5000<=m):f.aoa m=true:=h.ty.aoa m (by have:=h.an8;omega)
def Hg.up{g:List Ty}{f:Fm}(h:Hg g f)(l:List Ty):Hg (g++l) (f.up 0 l.length):=by
 have hn:=Fm.kH f 0 l.length;obtain⟨a,b⟩:=Fm.hD h.err;refine⟨?_,h.ty.lift l⟩;unfold Fm.err;rw[Fm.Ix f 0 l.length xL xL,a,dO rfl,hn,dI xL]
structure PG (L:List Fm) (c:dM):Prop where
 pl:PlR c
 N8:c.lemmas=L
 aft:∀f∈L,Hg [] f
 aob:∀f∈c.aob,Hg c.an_ f
def PG.Zg{L:List Fm}{c:dM}(h:PG L c){l:List Ty}(k:iz l)(hn:c.an_.length+l.length<=16):∃a,fl c l=some a/\PG L a/\a.an_=c.an_++l/\a.aob=c.aob.map (Fm.up 0 l.length):=by
 obtain⟨a,n,o,q,i,j⟩:=h.pl.below k hn (λf b=>⟨(h.aob f b).err,(h.aob f b).aoa h.pl.nv xL⟩);refine⟨a,n,⟨o,q.trans h.N8,h.aft,λf b=>?_⟩,i,j⟩;rw[j] at b;obtain⟨f0,d,rfl⟩:=qq.1 b;rw[i];exact(h.aob f0 d).up l
def PG.below{L:List Fm}{c:dM}(h:PG L c){s:Ty}(hs:s.err=0)(hn:c.an_.length+1<=16):∃a,fl c [s]=some a/\PG L a/\a.an_=c.an_++[s]/\a.aob=c.aob.map (Fm.up 0 1):=
 h.Zg (l:=[s]) (λx b=>by rw[EU.1 b];exact hs) hn
def PG.with{L:List Fm}{c:dM}(h:PG L c){f:Fm}(i:Hg c.an_ f)(hn:c.aob.length+1<=16):∃a,fY c f=some a/\PG L a/\a.an_=c.an_/\a.aob=c.aob++[f]:=by
 obtain⟨a,j,k,l,b,d⟩:=h.pl.with (f:=f) hn;refine⟨a,j,⟨k,l.trans h.N8,h.aft,λx hx=>?_⟩,b,d⟩;rw[d] at hx;rw[b];rcases tp.1 hx with hx|hx
 ·exact h.aob x hx
 ·rw[EU.1 hx];exact i
def PG.room{L:List Fm}{c:dM}(h:PG L c){v k:Nat}(b:v<=100)(d:k<=100):(eB c v k=some 0/\c.an_.length+v<=16/\c.aob.length+k<=16)\/(eB c v k=some 3/\(16<c.an_.length+v\/16<c.aob.length+k)):=by
 unfold eB;have f:=h.pl.nv;have i:=h.pl.nh;rw[gB,gB,fW xL xL,fW xL xL,lJ]
 by_cases a:(oC ((c.an_.length:Int)+v) 16||oC ((c.aob.length:Int)+k) 16)=true
 ·rw[dO a];simp only[r9,iw] at a;exact .inr ⟨rfl,xL⟩
 ·rw[dI a];simp only[r9,iw,not_or] at a;exact .inl ⟨rfl,xL,xL⟩
def GP.len{N:Int}:∀{l:List Int} {lo:Int},GP l->(∀x∈l,lo<=x/\x<N)->(l.length:Int)<=max 0 (N-lo)
 |[],lo,_,_=>by simp;omega|a::l,lo,.cons c d,h=>by
  have f:=h a LA;have ih:=GP.len (lo:=a+1) d (λx b=>⟨by have:=c x b;omega,(h x (by simp[b])).2⟩);simp only[oZ];omega
def Us.len{l:List Int}{m:Nat}(h:Us l m):l.length<=32:=by
 have:=GP.len (N:=32) (lo:=0) h.srt (λx a=>⟨h.pos x a,h.bound x a⟩);omega
def dQ.C_{g:List Ty}{x:Tm}{t:Ty}(h:dQ g x t):∀j:Int,(g.length:Int)<=j->x.aoc j=0:=by
 induction h with
 |@var g t i k l=>
  intro j a;rw[Tm.fg,dI (λh=>by have:=h.2;omega)];rfl
 |@lam g s b t k _ ih=>
  intro j a;rw[Tm.fg,dI (λh=>by cases h.1)];simp only[eb];rw[ih (j+eP 2) (by show _<=j+1;simp;omega)]
 |app _ _ c d=>intro j a;rw[Tm.fg,dI (λh=>by cases h.1)];simp only[eb,show eP 3=0 from rfl,sx,c j a,d j a]
 |zero=>intro j a;rw[Tm.fg,dI (λh=>by cases h.1)];rfl
 |succ _ ih=>intro j a;rw[Tm.fg,dI (λh=>by cases h.1)];simp only[eb,show eP 5=0 from rfl,sx,ih j a]
 |rB k _ _ _ c d f=>intro j a;rw[Tm.fg,dI (λh=>by cases h.1)];simp only[eb,show eP 6=0 from rfl,sx,c j a,d j a,f j a]
 |nil=>intro j a;rw[Tm.fg,dI (λh=>by cases h.1)];rfl
 |cons _ _ c d=>intro j a;rw[Tm.fg,dI (λh=>by cases h.1)];simp only[eb,show eP 8=0 from rfl,sx,c j a,d j a]
 |fold k _ _ _ c d f=>intro j a;rw[Tm.fg,dI (λh=>by cases h.1)];simp only[eb,show eP 9=0 from rfl,sx,c j a,d j a,f j a]
 |pair k _ _ c d=>intro j a;rw[Tm.fg,dI (λh=>by cases h.1)];simp only[eb,show eP 10=0 from rfl,sx,c j a,d j a]
 |fst _ ih=>intro j a;rw[Tm.fg,dI (λh=>by cases h.1)];simp only[eb,show eP 11=0 from rfl,sx,ih j a]
 |snd _ ih=>intro j a;rw[Tm.fg,dI (λh=>by cases h.1)];simp only[eb,show eP 12=0 from rfl,sx,ih j a]
 |unit=>intro j a;rw[Tm.fg,dI (λh=>by cases h.1)];rfl
def jF:Fm:=.mk 0 (.mk 0 []) [] []
def Tw(r:Option (Fm×List Int×Int)):Option (r_×Int):=
 fB r λb i h=>
 if(eD h 0) then(
 some ((r_.mk (Fm.mk 0 (Ty.mk 0 []) [] []) []),h))
 else(dE (jV b) λc=>
 if(eD c 0) then(
 some ((r_.mk (Fm.mk 0 (Ty.mk 0 []) [] []) []),4))
 else(ec (λ(d:List Int)=>
 some ((r_.mk b d),0)) λa=>
 dR (nF b) λf j=>
 if f then(
 a i)
 else(a [])))
def DK{α:Type}{F:Int->α->Unit->Option (fV Unit Bool)}(w:α->Nat):∀(l:List α) (i:Nat),(∀j x,x∈l->F j x ()=if 0<w x then some (.ret true)else some (.next ()))->eV F l i ()=some (if 0<eb w l then .inr true else .inl ())
 |[],i,_=>rfl|x::l,i,h=>by
  have ih:=DK w l (i+1) (λj y c=>h j y (by simp[c]));rw[fm,h i x LA]
  by_cases a:0<w x
  ·rw[dO a,dO (show 0<eb w (x::l) by simp only[eb];omega)];rfl
  ·rw[dI a];show eV F l (i+1) ()=_;rw[ih]
   by_cases b:0<eb w l
   ·rw[dO b,dO (show 0<eb w (x::l) by simp only[eb];omega)]
   ·rw[dI b,dI (show¬0<eb w (x::l) by simp only[eb];omega)]
def Nt:∀(n:Nat) (t:Tm) (a:Int),t.an8<=n->t.an8<=1000000000->0<=a->a+t.an8<=10000000000->uN n t a=some (decide (0<t.aoc a)):=by
 intro n
 induction n with
 |zero=>intro t a h;have:=t.eE;omega
 |succ n ih=>
  intro t a h d r f;cases t with
  |mk k i s l=>
   rw[Tm.dJ] at h d f;have u:=Tm.fF l;have v:=iY k;rw[uN,Tm.fg];simp only[Tm.ez,Tm.hB,Tm.eF,d_,yf,gE,gQ]
   by_cases c:k=1/\i=a
   ·rw[dO c,dO c]
    congr 1
    exact(xe xL).symm
   ·rw[dI c,dI c,ef xL,dY,DK (Tm.aoc (a+eP k)) l 0 (λj x o=>by
     have q:=ew Tm.an8 o;rw[nZ,dF,Tm.eF,fW xL xL,ih x (a+eP k) xL xL xL xL,dF]
     by_cases b:0<x.aoc (a+eP k)
     ·rw[dO b,dO (xe b)]
     ·rw[dI b,dI (by simpa using b)]),dF,xR]
    by_cases b:0<eb (Tm.aoc (a+eP k)) l
    ·rw[dO b,pn,xe b]
    ·rw[dI b,eo,Le b]
def DR:∀(n:Nat) (t:Fm) (a:Int),t.an8<=n->t.an8<=1000000000->0<=a->a+t.an8<=10000000000->pQ n t a=some (decide (0<t.aoc a)):=by
 intro n
 induction n with
 |zero=>intro t a h;have:=t.eE;omega
 |succ n ih=>
  intro t a h c r d;cases t with
  |mk k s ts l=>
   rw[Fm.dJ] at h c d;have u:=Fm.fF l;have q:=Tm.fF ts;have v:=tG k;rw[pQ,Fm.fg];simp only[Fm.ez,Fm.h8,d_]
   rw[ef xL,dY,DK (Tm.aoc a) ts 0 (λj x f=>by
    have i:=ew Tm.an8 f;rw[Nt FU x a (by rw[fI];omega) xL xL xL,dF]
    by_cases b:0<x.aoc a
    ·rw[dO b,dO (xe b)]
    ·rw[dI b,dI (by simpa using b)]),dF]
   by_cases o:0<eb (Tm.aoc a) ts
   ·rw[dO o,pn,xe xL]
   ·rw[dI o,eo,ef xL,dY,DK (Fm.aoc (a+qB k)) l 0 (λj x f=>by
     have i:=ew Fm.an8 f;rw[ph,dF,Fm.eF,fW xL xL,ih x (a+qB k) xL xL xL xL,dF]
     by_cases b:0<x.aoc (a+qB k)
     ·rw[dO b,dO (xe b)]
     ·rw[dI b,dI (by simpa using b)]),dF]
    by_cases b:0<eb (Fm.aoc (a+qB k)) l
    ·rw[dO b,pn,xe xL]
    ·rw[dI b,eo,Le xL]
def Tm.HY(s:Tm):∀(t:Tm) (n:Int),t.ok=true->t.aoc n=0->Tm.fQ n t s=t.up (n+1) (-1):=by
 intro t
 induction t using Tm.ind with
 |h k i ty l ih=>
  intro n d f;have hi:=Tm.pe d;rw[Tm.fg] at f;rw[Tm.eI,Tm.fh]
  by_cases a:k=1
  ·subst a;obtain⟨rfl,rfl⟩:=Tm.Y2 d
   have b:i≠n:=λh=>by rw[dO ⟨rfl,h⟩] at f;omega
   rw[dO rfl];unfold Tm.iQ;rw[dI b]
   by_cases j:n<i
   ·rw[dO j,dO ⟨rfl,xL⟩];rfl
   ·rw[dI j,dI (λh=>by omega)];rfl
  ·rw[dI a,dI (λh=>a h.1)]
   congr 1
   refine uy λx c=>?_;have:=ew (Tm.aoc (n+eP k)) c;rw[ih x c (n+eP k) (hi.2.2.2.1 x c) xL,show n+eP k+1=n+1+eP k by omega]
def Fm.HY(s:Tm):∀(t:Fm) (n:Int),t.ok=true->t.aoc n=0->Fm.fQ n t s=t.up (n+1) (-1):=by
 intro t
 induction t using Fm.ind with
 |h k ty ts l ih=>
  intro n b c;obtain⟨_,d,f⟩:=Fm.qt b;rw[Fm.fg] at c;rw[Fm.eI,Fm.fh]
  congr 1
  ·refine uy λx a=>?_;have:=ew (Tm.aoc n) a;exact Tm.HY s x n (d x a) xL
  ·refine uy λx a=>?_;have:=ew (Fm.aoc (n+qB k)) a;rw[ih x a (n+qB k) (f x a) xL,show n+qB k+1=n+1+qB k by omega]
def MO:∀(n:Nat) (t:Tm) (f:Int),t.an8<=n->t.an8<=1000000000->0<=f->f+t.an8<=10000000000->t.aoa 1000000000000=true->rX n t f (-1)=some (t.up f (-1)):=by
 intro n
 induction n with
 |zero=>intro t f h;have:=t.eE;omega
 |succ n ih=>
  intro t f h a w b hi;cases t with
  |mk k i s l=>
   rw[Tm.dJ] at h a b;rw[Tm.fD] at hi;simp only[gE,oz,kE] at hi;have y:=Tm.fF l;have A:=iY k;rw[rX];simp only[Tm.ez,Tm.hB,Tm.eF,Tm.fw,d_,ef (l:=l) xL,dY];rw[jX (Tm.up (f+eP k) (-1)) l 0 [] Xw]
   ·rw[Tm.fh];simp only[dF,eo,p5,wc,Tm.mk.injEq,Q4,zX]
    by_cases c:k=1/\f<=i
    ·obtain⟨rfl,d⟩:=c;rw[fW xL xL];have q:ee 1 1=true:=rfl
     have r:qn i f=true:=by simp[d]
     simp[q,r,d]
    ·rw[dI c]
     have e:e_ (ee k 1) (qn i f) false=false:=by
      rw[yf,ab6];simp only[ne_eq,gE,gQ,jj];exact c
     rw[e];rfl
   ·intro j x v o u;have:=ew Tm.an8 o;rw[nZ];simp only[dF,Tm.eF];rw[fW xL xL,ih x (f+eP k) xL xL xL xL (hi.2 x o)];simp[fR (l:=v) (m:=[x.up (f+eP k) (-1)]) (by simpa using u)]
def Dh:∀(n:Nat) (t:Fm) (f:Int),t.an8<=n->t.an8<=1000000000->0<=f->f+t.an8<=10000000000->t.aoa 1000000000000=true->im n t f (-1)=some (t.up f (-1)):=by
 intro n
 induction n with
 |zero=>intro t f h;have:=t.eE;omega
 |succ n ih=>
  intro t f h b i c hi;cases t with
  |mk k s ts l=>
   rw[Fm.dJ] at h b c;rw[Fm.fD] at hi;simp only[gE,kE] at hi;have q:=Fm.fF l;have o:=Tm.fF ts;have r:=tG k;rw[im];simp only[Fm.ez,Fm.h8,Fm.eF,Fm.fw,d_,ef (l:=l) xL,ef (l:=ts) xL,dY];rw[jX (Tm.up f (-1)) ts 0 [] Xw]
   ·simp only[dF,eo];rw[jX (Fm.up (f+qB k) (-1)) l 0 [] Xw]
    ·simp[Fm.fh]
    ·intro j x v a d;have:=ew Fm.an8 a;rw[ph];simp only[dF,Fm.eF];rw[fW xL xL,ih x (f+qB k) xL xL xL xL (hi.2 x a)];simp[fR (l:=v) (m:=[x.up (f+qB k) (-1)]) (by simpa using d)]
   ·intro j x v a d;have:=ew Tm.an8 a;rw[MO FU x f (by rw[fI];omega) xL i xL (hi.1 x a)];simp[fR (l:=v) (m:=[x.up f (-1)]) (by simpa using d)]
noncomputable def Dp (x:Tm) (e:Int):Tm×Int:=if e=0 then((x.norm 1000 0).1,(x.norm 1000 0).2.2)else(x,e)
def qS{α:Type}(f:α->Int->α×Int):List α->Int->List α×Int
 |[],e=>([],e)|x::l,e=>((f x e).1::(qS f l (f x e).2).1,(qS f l (f x e).2).2)
mutual
noncomputable def Fm.sn:Fm->Int->Fm×Int
 |.mk k s ts l,e=>(.mk k s (qS Dp ts e).1 (Fm.Sb l (qS Dp ts e).2).1,(Fm.Sb l (qS Dp ts e).2).2)
noncomputable def Fm.Sb:List Fm->Int->List Fm×Int
 |[],e=>([],e)|f::l,e=>((f.sn e).1::(Fm.Sb l (f.sn e).2).1,(Fm.Sb l (f.sn e).2).2)
end
def Fm.Ur:∀(l:List Fm) (e:Int),Fm.Sb l e=qS Fm.sn l e
 |[],e=>by rw[Fm.Sb,qS]|f::l,e=>by rw[Fm.Sb,qS,Fm.Ur l]
def Fm.E3(k:Int)(s:Ty)(ts:List Tm)(l:List Fm)(e:Int):(Fm.mk k s ts l).sn e=(.mk k s (qS Dp ts e).1 (qS Fm.sn l (qS Dp ts e).2).1,(qS Fm.sn l (qS Dp ts e).2).2):=by rw[Fm.sn,Fm.Ur]
def uM{α:Type}{f:α->Int->α×Int}:∀(l:List α) (e:Int),(∀x∈l,∀e,e≠0->(f x e).2=e)->e≠0->(qS f l e).2=e
 |[],e,_,_=>rfl|x::l,e,h,he=>by
  have a:=h x LA e he;simp only[qS];rw[a];exact uM l e (λy b=>h y (by simp[b])) he
def zY{x:Tm}{e:Int}(he:e≠0):(Dp x e).2=e:=by unfold Dp;rw[dI he]
def Fm.Jm(f:Fm):∀e:Int,e≠0->(f.sn e).2=e:=by
 induction f using Fm.ind with
 |h k s ts l ih=>
  intro e he;rw[Fm.E3];have a:=uM (f:=Dp) ts e (λx _ e he=>zY he) he;simp only[];rw[a];exact uM l e ih he
structure Nm (x:Tm):Prop where
 err:x.err=0
 aoa:x.aoa 536870912=true
def Nm.one{x:Tm}(h:Nm x):kZ x 1000=some (x.norm 1000 0):=by
 obtain⟨a,hn⟩:=mj h.err;have hw:=x.iD a;have b:=yX (t:=x) xL 1000
 rwa [dO h.err,dO ⟨xL,xL,h.aoa⟩] at b
inductive Xe:Fm->Prop
 |mk {k s ts l}:(∀x∈ts,Nm x)->(∀f∈l,Xe f)->Xe (.mk k s ts l)
def Xe.of(f:Fm):f.an8<=4096->f.ok=true->f.aoa 536870912=true->Xe f:=by
 induction f using Fm.ind with
 |h k s ts l ih=>
  intro hn d b;obtain⟨_,i,j⟩:=Fm.qt d;rw[Fm.dJ] at hn;rw[Fm.fD,gE,kE,kE] at b;refine .mk (λx c=>⟨?_,b.1 x c⟩) (λf a=>?_)
  ·have:=ew Tm.an8 c;unfold Tm.err;rw[dO (i x c),dI xL]
  ·have:=ew Fm.an8 a;exact ih f a xL (j f a) (b.2 f a)
def GD:∀(n:Nat) (f:Fm),f.an8<=n->f.an8<=1000000->Xe f->nb n f=some (if(f.sn 0).2=0 then((f.sn 0).1,0)else(jF,(f.sn 0).2)):=by
 intro n
 induction n with
 |zero=>intro f h;have:=f.eE;omega
 |succ n ih=>
  intro f hn L hm;cases f with
  |mk k s ts l=>
   cases hm with
   |mk M N=>
    rw[Fm.dJ] at hn L;have O:=iX Tm.an8 ts λt _=>t.eE;have P:=iX Fm.an8 l λt _=>t.eE;rw[nb,Fm.E3];simp only[Fm.fw,Fm.ez,Fm.eF,Fm.h8,d_];rw[ef xL,dY]
    have r:∀(us:List Tm) (j:Nat) (v:List Tm),(∀t∈us,Nm t)->v.length+us.length<=1000000000->eV (λ(Q:Int) (F:Tm)=>(λ(B:List Tm)=>
       fB (kZ F 1000) λc I d=>
       if(eD d 0) then(
       some (.ret ((Fm.mk 0 (Ty.mk 0 []) [] []),d)))
       else(gh (fK B [c])<|some ((.next (fT B [c])):fV (List Tm) (Fm×Int))))) us j v=some (if(qS Dp us 0).2=0 then .inl (v++(qS Dp us 0).1)else .inr (jF,(qS Dp us 0).2)):=by
     intro us
     induction us with
     |nil=>intro j v _ _;simp[qS]|cons t us w=>
      intro j v hm G;simp only[oZ] at G;rw[fm,(hm t LA).one]
      have H:Dp t 0=((t.norm 1000 0).1,(t.norm 1000 0).2.2):=by unfold Dp;rw[dO rfl]
      obtain⟨y,m,a,C⟩:∃y m a,t.norm 1000 0=(y,m,a):=⟨_,_,_,rfl⟩;rw[C] at H|-;rw[lS]
      by_cases he:a=0
      ·subst he;rw[dI Df,fR Xw,dY];simp only[dF,fy];rw[jn,w (j+1) (v++[y]) (λu hu=>hm u (by simp[hu])) Xw];simp only[qS,H];simp
      ·rw[dO (by rw[er];exact he)];simp only[qS,H];rw[uM (f:=Dp) us a (λx _ e he=>zY he) he,dI he];rfl
    have A:∀(us:List Fm) (j:Nat) (v:List Fm),(∀t∈us,Xe t/\t.an8<=n/\t.an8<=1000000)->v.length+us.length<=1000000000->eV (λ(J:Int) (D:Fm)=>(λ(i:List Fm)=>
       dR (nb n D) λo q=>
       if(eD q 0) then(
       some (.ret ((Fm.mk 0 (Ty.mk 0 []) [] []),q)))
       else(gh (fK i [o])<|some ((.next (fT i [o])):fV (List Fm) (Fm×Int))))) us j v=some (if(qS Fm.sn us 0).2=0 then .inl (v++(qS Fm.sn us 0).1)else .inr (jF,(qS Fm.sn us 0).2)):=by
     intro us
     induction us with
     |nil=>intro j v _ _;simp[qS]|cons t us w=>
      intro j v hm G;simp only[oZ] at G;obtain⟨R,a2,a3⟩:=hm t LA;rw[fm,ih t a2 a3 R];obtain⟨y,a,C⟩:∃y a,t.sn 0=(y,a):=⟨_,_,rfl⟩;rw[C]
      by_cases he:a=0
      ·subst he;simp only[if_true];rw[dN,dI Df,fR Xw,dY];simp only[dF,fy];rw[jn,w (j+1) (v++[y]) (λu hu=>hm u (by simp[hu])) Xw];simp only[qS,C];simp
      ·simp only[dI he];rw[dN,dO (by rw[er];exact he)];simp only[qS,C];rw[uM (f:=Fm.sn) us a (λx _ e he=>Fm.Jm x e he) he,dI he];rfl
    rw[r ts 0 [] M Xw,dF]
    by_cases he:(qS Dp ts 0).2=0
    ·rw[dO he,eo,ef xL,dY,A l 0 [] (λt K=>by
      have:=ew Fm.an8 K
      exact⟨N t K,xL,xL⟩) Xw,dF,he]
     by_cases b:(qS Fm.sn l 0).2=0
     ·rw[dO b,dO b,eo,p5,p5]
     ·rw[dI b,dI b,pn]
    ·rw[dI he,pn,uM (f:=Fm.sn) l _ (λx _ e he=>Fm.Jm x e he) he,dI he]
def Ty.akJ:∀(n:Nat) (s:Ty),s.an8<=n->s.err=0->∃a,dQ [] a s:=by
 intro n
 induction n with
 |zero=>intro s h;have:=s.eE;omega
 |succ n ih=>
  intro s hn he;rcases Ty.qO he with rfl|rfl|rfl|⟨a,b,rfl,f,c⟩|⟨a,b,rfl,f,c⟩
  ·exact⟨_,.zero⟩
  ·exact⟨_,.nil⟩
  ·exact⟨_,.unit⟩
  ·rw[Ty.vK] at hn;obtain⟨x,i⟩:=ih a xL f;obtain⟨y,d⟩:=ih b xL c;exact⟨_,.pair he i d⟩
  ·rw[Ty.jw] at hn;obtain⟨y,d⟩:=ih b xL c;exact⟨_,.lam he (by have:=d.front [a];simpa using this)⟩
def ic.down{g:List Ty}{s:Ty}{f:Fm}(h:ic (g++[s]) f)(hs:s.err=0)(c:f.aoc 0=0):ic g (f.up 1 (-1)):=by
 obtain⟨a,d⟩:=Ty.akJ _ s (jy _) hs
 have b:dQ g a s:=by simpa using d.front g
 have:=h.put b
 rwa [Fm.HY a f 0 h.ok c] at this
def dQ.nm{g:List Ty}{x:Tm}{t:Ty}(h:dQ g x t)(hg:g.length<=1000000)(a:x.an8<=4096):Nm x:=by
 refine⟨?_,h.aoa _ xL⟩;unfold Tm.err;rw[dO h.ok,dI xL]
def X1{g:List Ty}{x:Tm}{t:Ty}(h:dQ g x t)(hg:g.length<=1000000)(b:x.an8<=4096){e:Int}(he:(Dp x e).2=0):e=0/\dQ g (Dp x e).1 t/\(Dp x e).1.an8<=4096:=by
 by_cases c:e=0
 ·subst c;unfold Dp at he|-;simp only[if_true] at he|-;obtain⟨a,n,f,d⟩:∃a n f,x.norm 1000 0=(a,n,f):=⟨_,_,_,rfl⟩;rw[d] at he|-;simp only[] at he|-;subst he;exact⟨trivial,dQ.norm _ _ _ _ _ h d,(Hj 1000 536870912 0 x a n xL (Sm.start (h.nm hg b).err (h.nm hg b).aoa) b d).2⟩
 ·rw[zY c] at he;exact absurd he c
def T6(a b:Tm)(e:Int):(Fm.mk 1 .z [a,b] []).sn e=(.mk 1 .z [(Dp a e).1,(Dp b (Dp a e).2).1] [],(Dp b (Dp a e).2).2):=by rw[Fm.E3];rfl
def UA(k:Int)(a b:Fm)(e:Int):(Fm.mk k .z [] [a,b]).sn e=(.mk k .z [] [(a.sn e).1,(b.sn (a.sn e).2).1],(b.sn (a.sn e).2).2):=by rw[Fm.E3];rfl
def adK(k:Int)(s:Ty)(a:Fm)(e:Int):(Fm.mk k s [] [a]).sn e=(.mk k s [] [(a.sn e).1],(a.sn e).2):=by rw[Fm.E3];rfl
def ZG{g:List Ty}{f:Fm}(h:ic g f):∀(e:Int),g.length+f.an8<=1000000->f.an8<=4096->(f.sn e).2=0->e=0/\ic g (f.sn e).1/\(f.sn e).1.an8<=3000*f.an8:=by
 induction h with
 |@eq g a b d r=>
  intro e hg hn he;rw[T6] at he|-;rw[Fm.dJ] at hn hg|-;simp only[eb] at hn hg|-;obtain⟨i,j,t⟩:=X1 r xL xL he;obtain⟨c,a2,a3⟩:=X1 d xL xL i;refine⟨c,.eq a2 j,?_⟩;rw[Fm.dJ];simp only[eb];have:=a.eE;have:=b.eE;omega
 |@two g k a b l d r n o=>
  intro e hg hn he;rw[UA] at he|-;rw[Fm.dJ] at hn hg|-;simp only[eb] at hn hg|-;obtain⟨i,j,t⟩:=o _ xL xL he;obtain⟨c,a2,a3⟩:=n _ xL xL i;refine⟨c,.two l a2 j,?_⟩;rw[Fm.dJ];simp only[eb];omega
 |@q g k s a l hs d ih=>
  intro e hg hn he;rw[adK] at he|-;rw[Fm.dJ] at hn hg|-;simp only[eb] at hn hg|-;obtain⟨c,a2,a3⟩:=ih _ Xw xL he;refine⟨c,.q l hs a2,?_⟩;rw[Fm.dJ];simp only[eb];omega
noncomputable def xW (f:Fm):Fm×Int:=if f.aoc 0=0 then(f.up 1 (-1),0)else if(f.sn 0).2≠0 then(jF,(f.sn 0).2)else if(f.sn 0).1.aoc 0≠0 then(jF,6)else((f.sn 0).1.up 1 (-1),0)
def IN{g:List Ty}{s:Ty}{f:Fm}(h:Hg (g++[s]) f)(hg:g.length<=1000)(hs:s.err=0)(a:(xW f).2=0):ic g (xW f).1/\(xW f).1.an8<=3000*4096:=by
 have hn:=h.an8;unfold xW at a|-
 split
 ·rename_i c;refine⟨h.ty.down hs c,?_⟩;show(f.up 1 (-1)).an8<=_;rw[Fm.kH];omega
 ·rename_i c;rw[dI c] at a
  split
  ·rename_i b;rw[dO b] at a;exact absurd a b
  ·rename_i b;rw[dI b] at a
   split
   ·rename_i d;rw[dO d] at a;cases a
   ·rename_i d;obtain⟨_,a2,a3⟩:=ZG h.ty 0 Xw hn (u9.1 b);refine⟨a2.down hs xL,?_⟩;show((f.sn 0).1.up 1 (-1)).an8<=_;rw[Fm.kH];omega
abbrev PR:=(Fm×Nat)⊕Int
def pbind(r:PR)(k:Fm->Nat->PR):PR:=match r with|.inl p=>k p.1 p.2|.inr e=>.inr e
def v_(c:Prop)[Decidable c](e:Int)(r:PR):PR:=if c then .inr e else r
theorem jL{c:Prop}[Decidable c]{e:Int}{r:PR}(h:c):v_ c e r=.inr e:=dO h
theorem j3{c:Prop}[Decidable c]{e:Int}{r:PR}(h:¬c):v_ c e r=r:=dI h
def kc(e:Int)(r:PR):PR:=if e=0 then r else .inr e
@[simp] theorem fS(f:Fm)(m:Nat)(k:Fm->Nat->PR):pbind (.inl (f,m)) k=k f m:=rfl
@[simp] theorem aj1(e:Int)(k:Fm->Nat->PR):pbind (.inr e) k=.inr e:=rfl
theorem gr{e:Int}{r:PR}(h:e=0):kc e r=r:=dO h
theorem iZ{e:Int}{r:PR}(h:e≠0):kc e r=.inr e:=dI h
noncomputable def vA (r:PR):PR:=pbind r λf m=>if f.err=0 then .inl (f,if f.has then m else 0)else .inr 4
def ES(r:PR)(k:Int):PR:=pbind r λf m=>if f.an6=k then .inl (f,m)else .inr 10
noncomputable def Bs (a b:Fm):Int:=(jW a b).getD 0
noncomputable def BS (r:PR) (F:Fm) (t:Tm):PR:=pbind r λf m=>kc (ll F t).2 (kc (Bs (ll F t).1 f) (.inl (f,m)))
def Lu(t:Tm):Nat->Nat
 |0=>0|j+1=>if 0<t.aoc j then Lu t j|||2^j else Lu t j
def rp(t:Tm):Nat:=Lu t 32
def LX(t:Tm):∀(n i:Nat),(Lu t n).testBit i=true↔i<n/\0<t.aoc i
 |0,i=>by simp[Lu]|n+1,i=>by
  have ih:=LX t n i;rw[Lu]
  by_cases h:0<t.aoc n
  ·rw[dO h,ahg,r9,ih,alm];simp only[oz];constructor
   ·rintro(⟨a,b⟩|rfl)
    ·exact⟨xL,b⟩
    ·exact⟨xL,h⟩
   ·rintro⟨a,b⟩
    by_cases hi:n=i
    ·exact .inr hi
    ·exact .inl ⟨xL,b⟩
  ·rw[dI h,ih];constructor
   ·rintro⟨a,b⟩;exact⟨xL,b⟩
   ·rintro⟨a,b⟩;refine⟨?_,b⟩;rcases tU i n with hh|hh
    ·exact hh
    ·obtain rfl:i=n:=xL
     exact absurd b h
def LC(t:Tm)(i:Nat):(rp t).testBit i=true↔i<32/\0<t.aoc i:=LX t 32 i
def v0:Tm:=.mk 1 0 (.mk 0 []) []
def v1:Tm:=.mk 1 1 (.mk 0 []) []
noncomputable def o9 (L:List Fm) (k i:Int) (s:Ty) (ts:List Tm) (fs:List Fm) (sub:Nat->List Ty->List Fm->PR) (g:List Ty) (hs:List Fm):PR:=
 let t:=ts.getD 0 Tm.z
 let F:=fs.getD 0 jF
 if k=1 then v_ ((hs.length:Int)<=i) 8 (.inl (hs.getD (hs.length-1-i.toNat) jF,0))
 else if k=2 then v_ ((L.length:Int)<=i) 9 (.inl (L.getD i.toNat jF,0))
 else if k=3 then pbind (sub 0 g hs) λa m=>pbind (sub 1 g hs) λb n=>.inl (.mk 2 .z [] [a,b],m|||n)
 else if k=4 then pbind (ES (sub 0 g hs) 2) λa m=>.inl (a.an7.getD 0 jF,m)
 else if k=5 then pbind (ES (sub 0 g hs) 2) λa m=>.inl (a.an7.getD 1 jF,m)
 else if k=6 then kc (F.uQ g) (v_ (16<hs.length+1) 3 (pbind (sub 0 g (hs++[F])) λb m=>.inl (.mk 3 .z [] [F,b],m)))
 else if k=7 then pbind (ES (sub 0 g hs) 3) λa m=>pbind (sub 1 g hs) λb n=>kc (Bs (a.an7.getD 0 jF) b) (.inl (a.an7.getD 1 jF,m|||n))
 else if k=8 then v_ (16<g.length+1) 3 (pbind (sub 0 (g++[s]) (hs.map (Fm.up 0 1))) λb m=>.inl (.mk 4 s [] [b],m/2))
 else if k=12 then v_ (16<g.length+1) 3 (pbind (sub 0 (g++[s]) (hs.map (Fm.up 0 1))) λb m=>v_ (m.testBit 0=true) 12 (.inl (.mk 6 s [] [b],m/2)))
 else if k=9 then kc (t.ty g).2 (pbind (ES (sub 0 g hs) 4) λa m=>v_ ((t.ty g).1.kX a.dL=false) 7 (kc (ll (a.an7.getD 0 jF) t).2 (.inl ((ll (a.an7.getD 0 jF) t).1,m|||rp t))))
 else if k=13 then kc (t.ty g).2 (pbind (ES (sub 0 g hs) 6) λa m=>v_ ((t.ty g).1.kX a.dL=false) 7 (kc (ll (a.an7.getD 0 jF) t).2 (.inl ((ll (a.an7.getD 0 jF) t).1,m))))
 else if k=10 then kc (F.uQ g) (v_ (F.an6≠5) 10 (kc (t.ty g).2 (v_ ((t.ty g).1.kX F.dL=false) 7 (pbind (BS (sub 0 g hs) (F.an7.getD 0 jF) t) λ_ m=>.inl (F,m|||rp t)))))
 else if k=14 then kc (F.uQ g) (v_ (F.an6≠7) 10 (kc (t.ty g).2 (v_ ((t.ty g).1.kX F.dL=false) 7 (pbind (BS (sub 0 g hs) (F.an7.getD 0 jF) t) λ_ m=>.inl (F,m)))))
 else if k=11 then pbind (ES (sub 0 g hs) 5) λa m=>v_ (16<g.length+1\/16<hs.length+1) 3 (pbind (sub 1 (g++[a.dL]) (hs.map (Fm.up 0 1)++[a.an7.getD 0 jF])) λb n=>kc (xW b).2 (.inl ((xW b).1,m|||n/2)))
 else if k=15 then pbind (ES (sub 0 g hs) 7) λa m=>v_ (16<g.length+1\/16<hs.length+1) 3 (pbind (sub 1 (g++[a.dL]) (hs.map (Fm.up 0 1)++[a.an7.getD 0 jF])) λb n=>kc (xW b).2 (v_ (n.testBit 0=true) 12 (.inl ((xW b).1,m|||n/2))))
 else if k=16 then kc (F.uQ (g++[.nat])) (kc (nU t g 1) (pbind (BS (sub 0 g hs) F iO) λ_ m=>v_ (16<g.length+1\/16<hs.length+1) 3 (
  pbind (BS (sub 1 (g++[.nat]) (hs.map (Fm.up 0 1)++[F])) (F.up 1 1) (gJ v0)) λ_ n=>kc (ll F t).2 (.inl ((ll F t).1,(rp t|||m)|||n/2)))))
 else if k=17 then kc (F.uQ (g++[.iB])) (kc (nU t g 2) (pbind (BS (sub 0 g hs) F (.mk 7 0 .z [])) λ_ m=>v_ (16<g.length+2\/16<hs.length+1) 3 (
  pbind (BS (sub 1 (g++[.nat]++[.iB]) (hs.map (Fm.up 0 2)++[F.up 1 1])) (F.up 1 2) (.mk 8 0 .z [v1,v0])) λ_ n=>kc (ll F t).2 (.inl ((ll F t).1,(rp t|||m)|||n/4)))))
 else if k=18 then kc (nU t g 1) (.inl (.mk 1 .z [t,t] [],0))
 else if k=19 then kc (F.uQ (g++[.nat])) (pbind (ES (sub 0 g hs) 1) λa _=>pbind (BS (sub 1 g hs) F (a.ea.getD 0 Tm.z)) λ_ n=>kc (ll F (a.ea.getD 1 Tm.z)).2 (.inl ((ll F (a.ea.getD 1 Tm.z)).1,n)))
 else pbind (ES (sub 0 g hs) 4) λa m=>v_ ((a.an7.getD 0 jF).an6≠5) 10 (v_ ((Ty.fn a.dL (a.an7.getD 0 jF).dL).err≠0) 4 (v_ ((ll (((a.an7.getD 0 jF).an7.getD 0 jF).up 2 1) (eH v1 v0)).2≠0) 4 (.inl (.mk 5 (Ty.fn a.dL (a.an7.getD 0 jF).dL) [] [.mk 4 a.dL [] [(ll (((a.an7.getD 0 jF).an7.getD 0 jF).up 2 1) (eH v1 v0)).1]],m))))
mutual
noncomputable def Pf.inf (L:List Fm):Pf->List Ty->List Fm->PR
 |.mk k i s ts fs l,g,hs=>vA (o9 L k i s ts fs (Pf.uu L l) g hs)
noncomputable def Pf.uu (L:List Fm):List Pf->Nat->List Ty->List Fm->PR
 |[],_,_,_=>.inr 2|p::_,0,g,hs=>p.inf L g hs|_::l,n+1,g,hs=>Pf.uu L l n g hs
end
def IRs(g:List Ty)(s:PR)(r:Option (r_×Int)):Prop:=
 (∃e,e≠0/\s=.inr e/\r=some (⟨jF,[]⟩,e))\/∃(f:Fm) (m:Nat) (l:List Int),s=.inl (f,m)/\r=some (⟨f,l⟩,0)/\Us l m/\Hg g f
def lM(g:List Ty)(s:PR)(r:Option (Fm×List Int×Int)):Prop:=
 (∃e f l,e≠0/\s=.inr e/\r=some (f,l,e))\/∃(f:Fm) (m:Nat) (l:List Int),s=.inl (f,m)/\r=some (f,l,0)/\Us l m/\ic g f/\f.an8<=15000000
theorem lM.no{g:List Ty}{s:PR}{r:Option (Fm×List Int×Int)}{e:Int}{f:Fm}{l:List Int}(he:e≠0)(a:s=.inr e)(b:r=some (f,l,e)):lM g s r:=.inl ⟨e,f,l,he,a,b⟩
def lM.yes{g:List Ty}{s:PR}{r:Option (Fm×List Int×Int)}{f:Fm}{m:Nat}{l:List Int}(a:s=.inl (f,m))(b:r=some (f,l,0))(c:Us l m)(d:ic g f)(h:f.an8<=15000000):lM g s r:=.inr ⟨f,m,l,a,b,c,d,h⟩
def lM.infer{g:List Ty}(hg:g.length<=16){s:PR}{r:Option (Fm×List Int×Int)}(h:lM g s r):IRs g (vA s) (Tw r):=by
 rcases h with⟨e,f,l,he,rfl,rfl⟩|⟨f,m,l,rfl,rfl,hu,b,hn⟩
 ·refine .inl ⟨e,he,rfl,?_⟩;unfold Tw;rw[lS,dO (by rw[er];exact he)];rfl
 ·have c:=b.ok;have hw:=f.iD c;have d:vA (.inl (f,m))=if f.err=0 then .inl (f,if f.has then m else 0)else .inr 4:=rfl;unfold Tw;rw[lS];simp only[d_];rw[dI Df,kh xL,dF]
  by_cases a:f.err=0
  ·rw[dI (by rw[er];simp[a]),EH _ xL,d,dO a];rw[dI (show¬(f.err≠0) by simpa using a),dN];cases f.has with
   |true=>exact .inr ⟨f,m,l,rfl,rfl,hu,⟨a,b⟩⟩|false=>exact .inr ⟨f,0,[],rfl,rfl,.nil,⟨a,b⟩⟩
  ·rw[dO (by rw[er];exact a),d,dI a];exact .inl ⟨4,Df,rfl,rfl⟩
def jf(L:List Fm)(P:Pf)(N:Nat):Prop:=∀n',N<=n'->∀c,PG L c->IRs c.an_ (P.inf L c.an_ c.aob) (ek n' c P)
def EC{f:Fm}{m:Nat}{k:Int}(h:f.an6=k):ES (.inl (f,m)) k=.inl (f,m):=by grind[ES,fS]
def afJ{f:Fm}{m:Nat}{k:Int}(h:f.an6≠k):ES (.inl (f,m)) k=.inr 10:=by grind[ES,fS]
def nq{g:List Ty}{s:PR}{r:Option (r_×Int)}(h:IRs g s r)(k:Int):(∃e,e≠0/\ES s k=.inr e/\((r=some (⟨jF,[]⟩,e))\/∃f l m,r=some (⟨f,l⟩,0)/\f.an6≠k/\e=10/\Us l m))\/∃(f:Fm) (m:Nat) (l:List Int),ES s k=.inl (f,m)/\r=some (⟨f,l⟩,0)/\Us l m/\Hg g f/\f.an6=k:=by
 rcases h with⟨e,he,a,b⟩|⟨f,m,l,a,b,hu,d⟩
 ·exact .inl ⟨e,he,by rw[a];rfl,.inl b⟩
 ·by_cases c:f.an6=k
  ·exact .inr ⟨f,m,l,by rw[a,EC c],b,hu,d,c⟩
  ·exact .inl ⟨10,Df,by rw[a,afJ c],.inr ⟨f,l,m,b,c,rfl,hu⟩⟩
def Nn{a b:Fm}(d:a.wt<=1000000000)(f:b.wt<=1000000000):jW a b=some (Bs a b):=by
 obtain⟨c,h⟩:=Ds d f;unfold Bs;rw[h];rfl
structure sk (g:List Ty) (F:Fm) (t:Tm):Prop where
 fe:F.err=0
 te:t.err=0
 ty:∃s,ic (g++[s]) F/\dQ g t s
theorem sk.put{g:List Ty}{F:Fm}{t:Tm}(h:sk g F t):ic g (Fm.fQ 0 F t):=by
 obtain⟨s,a,b⟩:=h.ty;exact a.put b
def sk.both{g:List Ty}{F:Fm}{t:Tm}(h:sk g F t)(hg:g.length<=100):ju F t=some (ll F t):=by
 obtain⟨s,a,b⟩:=h.ty;obtain⟨_,a2⟩:=Fm.hD h.fe;obtain⟨_,f⟩:=Tm.hD h.te;have c:F.aoa 536870912=true:=a.aoa _ Xw;have d:t.aoa 536870912=true:=b.aoa _ xL;unfold ju;rw[Js h.fe h.te c d h.put.ok];rfl
theorem lD(F:Fm)(t:Tm):ll F t=(jF,4)\/(Fm.fQ 0 F t).an8<=4096/\ll F t=(Fm.fQ 0 F t,0):=by
 unfold ll
 split
 ·exact .inl rfl
 ·grind
def ss{g:List Ty}(hg:g.length<=16){s:PR}{n':Nat}{P:Pf}{c:dM}(h:IRs g s (ek n' c P)){F:Fm}{t:Tm}(k:sk g F t):(∃e l m,e≠0/\BS s F t=.inr e/\eT (n'+1) c P F t=some (l,e)/\Us l m)\/∃(f:Fm) (m:Nat) (l:List Int),BS s F t=.inl (f,m)/\eT (n'+1) c P F t=some (l,0)/\Us l m:=by
 have k2:=k.both xL;rcases h with⟨e,he,i,j⟩|⟨f,m,l,i,j,hu,n⟩
 ·refine .inl ⟨e,[],0,he,by rw[i];rfl,?_,.nil⟩;rw[eT,j,dN,dO (by rw[er];exact he)]
 ·rcases lD F t with d|⟨hn,d⟩
  ·rw[d] at k2;refine .inl ⟨4,[],0,Df,?_,?_,.nil⟩
   ·rw[i];unfold BS;rw[fS,d];rfl
   ·rw[eT,j,dN,dI Df,k2,dN,dO Df]
  ·rw[d] at k2;have v:=Fm.iD _ k.put.ok;have w:=Fm.iD _ n.ok;have o:=n.an8;have q:=Nn (a:=Fm.fQ 0 F t) (b:=f) xL xL
   have r:BS s F t=kc (Bs (Fm.fQ 0 F t) f) (.inl (f,m)):=by rw[i];unfold BS;rw[fS,d,gr rfl]
   have u:eT (n'+1) c P F t=some (l,Bs (Fm.fQ 0 F t) f):=by
    rw[eT,j,dN,dI Df,k2,dN,dI Df,q,dF]
   rw[r,u]
   by_cases hm:Bs (Fm.fQ 0 F t) f=0
   ·rw[gr hm,hm];exact .inr ⟨f,m,l,rfl,rfl,hu⟩
   ·rw[iZ hm];exact .inl ⟨_,_,m,hm,rfl,rfl,hu⟩
theorem AT{g:List Ty}(h:iz g)(hg:g.length<=16):wY g=0:=by
 unfold wY;rw[dI xL]
 induction g with
 |nil=>rfl|cons s g ih=>
  have a:=h s LA;simp only[lN,ft];rw[dO a];exact ih (λx b=>h x (by simp[b])) (by simp at hg;omega)
def sC{g:List Ty}(a:iz g)(hg:g.length<=17){F:Fm}(hF:F.err=0):kz g F=some (F.uQ g)/\(g.length<=16->jq g F=some (F.uQ g)):=by
 obtain⟨b,a2⟩:=Fm.hD hF;have hw:=F.iD b;refine⟨?_,λc=>?_⟩
 ·unfold kz;rw[kh xL,hF,dF,dI Df,zF F b FU (by rw[fI];omega) g a xL a2];rfl
 ·rw[rO xL xL (λt d=>by have:=e8 (a t d);omega)];unfold Hi
  grind[AT]
def tr{g:List Ty}(a:iz g)(hg:g.length<=16){t:Tm}(b:t.err=0):ji g t=some (t.ty g):=by
 obtain⟨c,a2⟩:=Tm.hD b;unfold ji;rw[sS g xL (λt b=>by have:=e8 (a t b);omega),AT a hg,zD c a2 a xL];rfl
def has_both{g:List Ty}(b:iz g)(hg:g.length<=16){c:dM}(a:c.an_=g){t:Tm}(d:t.err=0)(k:Int):gZ c t k=some (nU t g k):=by
 unfold gZ nU;rw[a,tr b hg d]
 grind[dN,er]
def xo{g:List Ty}(hg:g.length<=16){t:Tm}{s:Ty}(h:dQ g t s)(b:t.err=0):∃l,kf t=some l/\Us l (rp t):=by
 obtain⟨o,a2⟩:=Tm.hD b;have a:∀j:Int,32<=j->t.aoc j=0:=λj q=>h.C_ j xL;obtain⟨l,d,f,c⟩:=aca b (h.aoa _ xL) a;refine⟨l,d,⟨?_,λx k=>((c x).1 k).1,f,λi=>?_⟩⟩
 ·exact Nat.lt_pow_two_of_testBit (n:=32) _ λi hi=>by rw[<-ahh,LC];omega
 ·rw[c,LC]
  grind
def nz:¬eD 0 0=true:=Df
def Pf.jE(L:List Fm)(k i:Int)(s:Ty)(ts:List Tm)(fs:List Fm)(l:List Pf)(g:List Ty)(hs:List Fm):(Pf.mk k i s ts fs l).inf L g hs=vA (o9 L k i s ts fs (Pf.uu L l) g hs):=by rw[Pf.inf]
def jf.of{L:List Fm}{k i:Int}{s:Ty}{ts:List Tm}{fs:List Fm}{l:List Pf}{N:Nat}
  (H:∀n',N<=n'->∀c,PG L c->lM c.an_ (o9 L k i s ts fs (Pf.uu L l) c.an_ c.aob) (ed (n'+4) c (.mk k i s ts fs l))):jf L (.mk k i s ts fs l) (N+5):=by
 intro n' b c h;obtain⟨a,rfl⟩:∃a,n'=a+5:=⟨n'-5,xL⟩;exact lM.infer h.pl.nv (H a xL c h)
def akQ(n:Nat)(c:dM)(i:Int):ed (n+1) c (.mk 1 i .z [] [] [])=if(qn i (ey c.aob)) then some (jF,[],8)else dE (dX c.aob (fH .i64 (fH .i64 (ey c.aob) 1) i)) λa=>some (a,[],0):=by rw[ed];rfl
def ZE(L:List Fm)(i:Int)(g:List Ty)(hs:List Fm):o9 L 1 i .z [] [] (Pf.uu L []) g hs=v_ ((hs.length:Int)<=i) 8 (.inl (hs.getD (hs.length-1-i.toNat) jF,0)):=rfl
def Y1{L:List Fm}{i:Int}(hi:0<=i):jf L (.mk 1 i .z [] [] []) 5:=by
 refine jf.of (N:=0) λn' _ c h=>?_;rw[akQ,ZE]
 by_cases d:(c.aob.length:Int)<=i
 ·grind[jL,dN,qn,ey,jj,gB,lM.no]
 ·have j:=h.pl.nh
  have b:c.aob.length-1-i.toNat<c.aob.length:=xL
  rw[j3 d,dI (show¬(qn i (ey c.aob)=true) by rw[jj,gB];exact d),gB,fZ (a:=(c.aob.length:Int)) xL xL,fZ xL xL,show(c.aob.length:Int)-1-i=((c.aob.length-1-i.toNat:Nat):Int) by omega,jR,qp b,dF];have f:=h.aob _ (D9 b);exact lM.yes (by simp[Tl,b]) rfl .nil f.ty (by have:=f.an8;omega)
def ajE(n:Nat)(c:dM)(i:Int):ed (n+1) c (.mk 2 i .z [] [] [])=if(qn i (ey c.lemmas)) then some (jF,[],9)else dE (dX c.lemmas i) λa=>some (a,[],0):=by rw[ed];rfl
def ae'(L:List Fm)(i:Int)(g:List Ty)(hs:List Fm):o9 L 2 i .z [] [] (Pf.uu L []) g hs=v_ ((L.length:Int)<=i) 9 (.inl (L.getD i.toNat jF,0)):=rfl
def YA{L:List Fm}{i:Int}(hi:0<=i):jf L (.mk 2 i .z [] [] []) 5:=by
 refine jf.of (N:=0) λn' _ c h=>?_;rw[ajE,ae',h.N8]
 by_cases b:(L.length:Int)<=i
 ·grind[jL,jj,gB,lM.no]
 ·obtain⟨k,rfl⟩:∃k:Nat,i=k:=⟨i.toNat,xL⟩
  have a:k<L.length:=xL
  rw[j3 b,dI (by rw[jj,gB];exact b),jR,qp a,dF]
  have f:L.getD (k:Int).toNat jF=L[k]:=by grind
  have d:=h.aft _ (D9 a);exact lM.yes (by rw[f]) rfl .nil (by simpa using d.ty.front c.an_) (by have:=d.an8;omega)
def agk(n:Nat)(c:dM)(a b:Pf):ed (n+1) c (.mk 3 0 .z [] [] [a,b])=dR (ek n c a) λd f=>if(eD f 0) then some (jF,[],f)else dR (ek n c b) λh i=>dE (q9 2 d.dT h.dT) λj=>dE (gi d.iu h.iu) λk=>some (j,k,i):=by rw[ed];rfl
def Tz(L:List Fm)(a b:Pf)(g:List Ty)(hs:List Fm):o9 L 3 0 .z [] [] (Pf.uu L [a,b]) g hs=pbind (a.inf L g hs) λf m=>pbind (b.inf L g hs) λc n=>.inl (.mk 2 .z [] [f,c],m|||n):=rfl
def RK:jF.wt<=1000000:=Df
def Vx{L:List Fm}{a b:Pf}{N:Nat}(s:jf L a N)(t:jf L b N):jf L (.mk 3 0 .z [] [] [a,b]) (N+5):=by
 refine jf.of λn' u c h=>?_;rw[agk,Tz];rcases s (n'+3) xL c h with⟨e,he,d,i⟩|⟨f,m,l,d,i,hu,n⟩
 ·rw[d,i,dN,dO (by rw[er];exact he)];exact lM.no he rfl rfl
 ·have v:=n.an8;have w:=f.iD n.ok;rw[d,i,dN,dI Df,fS];rcases t (n'+3) xL c h with⟨e,he,d,i⟩|⟨x,A,B,d,i,k,j⟩
  ·obtain⟨q,q1,_⟩:=hu.union .nil (by have:=hu.len;omega) LA;have:=RK;rw[d,i,dN];simp only[];rw[Mu xL xL,dF,q1];exact lM.no he rfl rfl
  ·have o:=j.an8;have r:=x.iD j.ok;obtain⟨q,q1,C,y,_⟩:=hu.union k (by have:=hu.len;omega) (by have:=k.len;omega);rw[d,i,dN,fS];simp only[];rw[Mu xL xL,dF,q1];refine lM.yes rfl rfl y (.two (.inl rfl) n.ty j.ty) ?_;rw[Fm.dJ];simp only[eb];omega
def ic.LQ{g:List Ty}{f:Fm}(h:ic g f){k:Int}(d:f.an6=k)(i:k=2\/k=3):∃a b,f=.mk k .z [] [a,b]/\ic g a/\ic g b:=by
 cases h with
 |eq _ _=>grind[Fm.eF]|two c j l=>grind[Fm.eF]|q c _ _=>grind[Fm.eF]
def ic.uY{g:List Ty}{f:Fm}(h:ic g f){k:Int}(d:f.an6=k)(i:k=4\/k=5\/k=6\/k=7):∃s a,f=.mk k s [] [a]/\s.err=0/\ic (g++[s]) a:=by
 cases h with
 |eq _ _=>grind[Fm.eF]|two b c j=>grind[Fm.eF]|q b hs c=>grind[Fm.eF]
def ic.Yg{g:List Ty}{f:Fm}(h:ic g f)(j:f.an6=1):∃a b,f=.mk 1 .z [a,b] []/\dQ g a .nat/\dQ g b .nat:=by
 cases h with
 |eq d i=>grind|two c d i=>simp_all|q c hs d=>simp_all
def Hg.sub{g a:List Ty}{k:Int}{s:Ty}{ts:List Tm}{l:List Fm}(h:Hg g (.mk k s ts l)){x:Fm}(c:x∈l)(b:ic a x):Hg a x:=by
 have d:=h.an8;rw[Fm.dJ] at d;have:=ew Fm.an8 c;refine⟨?_,b⟩;unfold Fm.err;rw[dO b.ok,dI xL]
def ahG(n:Nat)(c:dM)(a:Pf):ed (n+1) c (.mk 4 0 .z [] [] [a])=dR (ek n c a) λb d=>if(eD d 0) then some (jF,[],d)else if(eD b.dT.an6 2) then some (jF,[],10)else dE (dX b.dT.an7 (fH .i64 4 4)) λf=>some (f,b.iu,0):=by rw[ed];rfl
def agw(n:Nat)(c:dM)(a:Pf):ed (n+1) c (.mk 5 0 .z [] [] [a])=dR (ek n c a) λb d=>if(eD d 0) then some (jF,[],d)else if(eD b.dT.an6 2) then some (jF,[],10)else dE (dX b.dT.an7 (fH .i64 5 4)) λf=>some (f,b.iu,0):=by rw[ed];rfl
def Sc(L:List Fm)(a:Pf)(g:List Ty)(hs:List Fm):o9 L 4 0 .z [] [] (Pf.uu L [a]) g hs=pbind (ES (a.inf L g hs) 2) λf m=>.inl (f.an7.getD 0 jF,m):=rfl
def Tf(L:List Fm)(a:Pf)(g:List Ty)(hs:List Fm):o9 L 5 0 .z [] [] (Pf.uu L [a]) g hs=pbind (ES (a.inf L g hs) 2) λf m=>.inl (f.an7.getD 1 jF,m):=rfl
def Wg{L:List Fm}{a:Pf}{N:Nat}(n:jf L a N):jf L (.mk 4 0 .z [] [] [a]) (N+5):=by
 refine jf.of λn' o c h=>?_;rw[ahG,Sc];rcases nq (n (n'+3) xL c h) 2 with⟨e,he,d,b⟩|⟨f,m,l,d,b,hu,j,i⟩
 ·rw[d];rcases b with b|⟨f,l,m,b,i,rfl,_⟩
  ·rw[b,dN,dO (by rw[er];exact he)];exact lM.no he rfl rfl
  ·rw[b,dN,dI Df,dO (by rw[er];exact i)];exact lM.no he rfl rfl
 ·obtain⟨x,y,rfl,k,q⟩:=j.ty.LQ i (.inl rfl);rw[d,b,dN,dI Df,dI LA,fS];exact lM.yes (f:=x) rfl rfl hu k (by have:=(j.sub LA k).an8;omega)
def Vr{L:List Fm}{a:Pf}{N:Nat}(n:jf L a N):jf L (.mk 5 0 .z [] [] [a]) (N+5):=by
 refine jf.of λn' o c h=>?_;rw[agw,Tf];rcases nq (n (n'+3) xL c h) 2 with⟨e,he,d,b⟩|⟨f,m,l,d,b,hu,j,i⟩
 ·rw[d];rcases b with b|⟨f,l,m,b,i,rfl,_⟩
  ·rw[b,dN,dO (by rw[er];exact he)];exact lM.no he rfl rfl
  ·rw[b,dN,dI Df,dO (by rw[er];exact i)];exact lM.no he rfl rfl
 ·obtain⟨x,y,rfl,q,k⟩:=j.ty.LQ i (.inl rfl);rw[d,b,dN,dI Df,dI LA,fS];exact lM.yes (f:=y) rfl rfl hu k (by have:=(j.sub LA k).an8;omega)
def ag1(n:Nat)(c:dM)(F:Fm)(a:Pf):ed (n+1) c (.mk 6 0 .z [] [F] [a])=dE (jq c.an_ F) λb=>if(eD b 0) then some (jF,[],b)else dE (eB c 0 1) λd=>if(eD d 0) then some (jF,[],d)else dE (fY c F) λh=>dR (ek n h a) λf i=>dE (q9 3 F f.dT) λj=>some (j,f.iu,i):=by rw[ed];rfl
def Y0(L:List Fm)(F:Fm)(a:Pf)(g:List Ty)(hs:List Fm):o9 L 6 0 .z [] [F] (Pf.uu L [a]) g hs=kc (F.uQ g) (v_ (16<hs.length+1) 3 (pbind (a.inf L g (hs++[F])) λb m=>.inl (.mk 3 .z [] [F,b],m))):=rfl
def Vv{L:List Fm}{F:Fm}(hF:F.err=0){a:Pf}{N:Nat}(s:jf L a N):jf L (.mk 6 0 .z [] [F] [a]) (N+5):=by
 refine jf.of λn' t c h=>?_;rw[ag1,Y0];have j:=h.pl.nv;obtain⟨_,t2⟩:=sC h.pl.ctx xL hF;have u:=(Fm.hD hF).2;have w:=F.iD (Fm.hD hF).1;rw[t2 j,dF]
 by_cases d:F.uQ c.an_=0
 ·rw[dI (by rw[er];simpa using d),gr d];have i:=rb F (Fm.hD hF).1 c.an_ h.pl.ctx d;rcases h.room (v:=0) (k:=1) xL xL with⟨b,_,r⟩|⟨b,r⟩
  ·have b:eB c 0 1=some 0:=b;rw[b,dF,dI Df,j3 xL];obtain⟨x,y,A,B,C⟩:=h.with ⟨hF,i⟩ r;rw[y,dF];have hi:=s (n'+3) xL x A;rw[B,C] at hi;rcases hi with⟨e,he,n,o⟩|⟨f,m,l,n,o,hu,q⟩
   ·have:=RK;rw[n,o,dN];simp only[];rw[Mu xL xL];exact lM.no he rfl rfl
   ·have D:=q.an8;have G:=f.iD q.ok;rw[n,o,dN];simp only[];rw[Mu xL xL];refine lM.yes rfl rfl hu (.two (.inr rfl) i q.ty) ?_;rw[Fm.dJ];simp only[eb];omega
  ·have b:eB c 0 1=some 3:=b;rw[b,dF,dO Df,jL xL];exact lM.no Df rfl rfl
 ·rw[dO (by rw[er];exact d),iZ d];exact lM.no d rfl rfl
def ahX(n:Nat)(c:dM)(a b:Pf):ed (n+1) c (.mk 7 0 .z [] [] [a,b])=dR (ek n c a) λd f=>if(eD f 0) then some (jF,[],f)else if(eD d.dT.an6 3) then some (jF,[],10)else dR (ek n c b) λh i=>if(eD i 0) then some (jF,[],i)else dE (dX d.dT.an7 1) λj=>dE (gi d.iu h.iu) λk=>dE (dX d.dT.an7 0) λl=>dE (jW l h.dT) λo=>some (j,k,o):=by rw[ed];rfl
def Y6(L:List Fm)(a b:Pf)(g:List Ty)(hs:List Fm):o9 L 7 0 .z [] [] (Pf.uu L [a,b]) g hs=pbind (ES (a.inf L g hs) 3) λa m=>pbind (b.inf L g hs) λb n=>kc (Bs (a.an7.getD 0 jF) b) (.inl (a.an7.getD 1 jF,m|||n)):=rfl
def V5{L:List Fm}{a b:Pf}{N:Nat}(B:jf L a N)(C:jf L b N):jf L (.mk 7 0 .z [] [] [a,b]) (N+5):=by
 refine jf.of λn' D c h=>?_;rw[ahX,Y6];rcases nq (B (n'+3) xL c h) 3 with⟨e,he,i,d⟩|⟨f,m,l,i,d,hu,n,o⟩
 ·rw[i];rcases d with d|⟨f,l,m,d,o,rfl,_⟩
  ·rw[d,dN,dO (by rw[er];exact he)];exact lM.no he rfl rfl
  ·rw[d,dN,dI Df,dO (by rw[er];exact o)];exact lM.no he rfl rfl
 ·obtain⟨x,y,rfl,u,v⟩:=n.ty.LQ o (.inr rfl);have r:=n.sub (x:=x) LA u;have s:=n.sub (x:=y) LA v;have F:=x.iD u.ok;have G:=r.an8;rw[i,d,dN,dI Df,dI LA,fS];rcases C (n'+3) xL c h with⟨e,he,i,d⟩|⟨t,J,K,i,d,j,k⟩
  ·rw[i,d,dN,dO (by rw[er];exact he)];exact lM.no he rfl rfl
  ·have w:=k.an8;have A:=t.iD k.ok;obtain⟨q,q1,M,H,_⟩:=hu.union j (by have:=hu.len;omega) (by have:=j.len;omega);have I:=Nn (a:=x) (b:=t) xL xL;rw[i,d,dN,dI Df,fS];simp only[Fm.ez,eO,hR,kS,ql,dF,za,RT];rw[q1,I,dF,dF]
   by_cases hm:Bs x t=0
   ·rw[gr hm,hm];exact lM.yes rfl rfl H v (by have:=s.an8;omega)
   ·rw[iZ hm];exact lM.no hm rfl rfl
def Us.has{l:List Int}{m:Nat}(h:Us l m):rk l=some (m.testBit 0)/\eD (tF .u32 (m:Int) 1) 0=m.testBit 0:=by
 have hm:=h.mem 0;constructor
 ·unfold rk;simp only[d_];cases l with
  |nil=>simp_all|cons a l=>
   rw[dO LA];simp only[eO,kS,dF]
   congr 1
   rw[Gr,gQ,<-hm];constructor
   ·rintro rfl;simp
   ·intro hh;rcases lX.1 hh with hh|hh
    ·exact hh.symm
    ·cases h.srt with
     |cons s1 _=>
      have:=s1 0 (by simpa using hh);have:=h.pos a LA;omega
 ·rw[show(1:Int)=((1:Nat):Int)from rfl,Y_ h.lt xL];rw[Gr,er,Nat.testBit_zero,Nat.and_one_is_mod];simp only[oz];omega
def afP(n:Nat)(c:dM)(s:Ty)(a:Pf):ed (n+2) c (.mk 8 0 s [] [] [a])=fB (dE (eB c 1 0) λo=>if(eD o 0) then some (jF,[],o)else dE (fl c [s]) λj=>dR (ek n j a) λb d=>if(eD d 0) then some (jF,[],d)else dE (nN 4 s b.dT) λk=>dE (gn b.iu 1) λl=>some (k,l,0)) λf h i=>some (f,h,i):=by
 rw[ed];rw[lv];rfl
def ac9(n:Nat)(c:dM)(s:Ty)(a:Pf):ed (n+2) c (.mk 12 0 s [] [] [a])=fB (dE (eB c 1 0) λq=>if(eD q 0) then some (jF,[],q)else dE (fl c [s]) λj=>dR (ek n j a) λb d=>if(eD d 0) then some (jF,[],d)else dE (rk b.iu) λk=>if k then some (jF,[],12)else dE (nN 6 s b.dT) λl=>dE (gn b.iu 1) λo=>some (l,o,0)) λf h i=>some (f,h,i):=by
 rw[ed];rw[lv];rfl
def HP(L:List Fm)(s:Ty)(a:Pf)(g:List Ty)(hs:List Fm):o9 L 8 0 s [] [] (Pf.uu L [a]) g hs=v_ (16<g.length+1) 3 (pbind (a.inf L (g++[s]) (hs.map (Fm.up 0 1))) λb m=>.inl (.mk 4 s [] [b],m/2)):=rfl
def UI(L:List Fm)(s:Ty)(a:Pf)(g:List Ty)(hs:List Fm):o9 L 12 0 s [] [] (Pf.uu L [a]) g hs=v_ (16<g.length+1) 3 (pbind (a.inf L (g++[s]) (hs.map (Fm.up 0 1))) λb m=>v_ (m.testBit 0=true) 12 (.inl (.mk 6 s [] [b],m/2))):=rfl
def V4{L:List Fm}{s:Ty}(hs:s.err=0){a:Pf}{N:Nat}(o:jf L a N):jf L (.mk 8 0 s [] [] [a]) (N+5):=by
 refine jf.of λn' r c h=>?_;rw[show n'+4=n'+2+2 from rfl,afP,HP];rcases h.room (v:=1) (k:=0) xL xL with⟨b,n,_⟩|⟨b,n⟩
 ·have b:eB c 1 0=some 0:=b;rw[b,dF,dI nz,j3 xL];obtain⟨t,u,w,x,y⟩:=h.below hs n;rw[u,dF];have hi:=o (n'+2) xL t w;rw[x,y] at hi;rcases hi with⟨e,he,d,i⟩|⟨f,m,l,d,i,hu,j⟩
  ·rw[d,i,dN,dO (by rw[er];exact he)];exact lM.no he rfl rfl
  ·have A:=j.an8;have B:=f.iD j.ok;have C:=e8 hs;obtain⟨u1,u3⟩:=hu.out (by have:=hu.len;omega) (k:=1) xL;rw[d,i,dN,dI nz,fS];simp only[];rw[Wz xL xL,dF,show(1:Int)=((1:Nat):Int)from rfl,u1];refine lM.yes rfl rfl u3 (.q (.inl rfl) hs j.ty) ?_;rw[Fm.dJ];simp only[eb];omega
 ·have b:eB c 1 0=some 3:=b;have D:=h.pl.nh;rw[b,dF,dO Df,jL xL];exact lM.no Df rfl rfl
def R_{L:List Fm}{s:Ty}(hs:s.err=0){a:Pf}{N:Nat}(r:jf L a N):jf L (.mk 12 0 s [] [] [a]) (N+5):=by
 refine jf.of λn' t c h=>?_;rw[show n'+4=n'+2+2 from rfl,ac9,UI];rcases h.room (v:=1) (k:=0) xL xL with⟨b,o,_⟩|⟨b,o⟩
 ·have b:eB c 1 0=some 0:=b;rw[b,dF,dI nz,j3 xL];obtain⟨u,w,x,y,A⟩:=h.below hs o;rw[w,dF];have hi:=r (n'+2) xL u x;rw[y,A] at hi;rcases hi with⟨e,he,i,j⟩|⟨f,m,l,i,j,hu,n⟩
  ·rw[i,j,dN,dO (by rw[er];exact he)];exact lM.no he rfl rfl
  ·have B:=n.an8;have C:=f.iD n.ok;have D:=e8 hs;obtain⟨u1,u3⟩:=hu.out (by have:=hu.len;omega) (k:=1) xL;obtain⟨F,H⟩:=hu.has;rw[i,j,dN,dI nz,fS];simp only[];rw[F,dF]
   by_cases d:m.testBit 0=true
   ·rw[jL d,dO d];exact lM.no Df rfl rfl
   ·rw[j3 d,dI d,Wz xL xL,dF,show(1:Int)=((1:Nat):Int)from rfl,u1];refine lM.yes rfl rfl u3 (.q (.inr (.inr (.inl rfl))) hs n.ty) ?_;rw[Fm.dJ];simp only[eb];omega
 ·have b:eB c 1 0=some 3:=b;have G:=h.pl.nh;rw[b,dF,dO Df,jL xL];exact lM.no Df rfl rfl
theorem Th(a b:Ty):a.kX b=b.kX a:=by grind[Ty.kV]
def yE{a b:Ty}(c:a.err=0)(d:b.err=0):fq FU b a=some (a.kX b):=by
 have f:=e8 c;have h:=e8 d
 grind[dF,iK,Th]
def akU(n:Nat)(c:dM)(t:Tm)(a:Pf):ed (n+2) c (.mk 9 0 .z [t] [] [a])=fB (dR (ji c.an_ t) λu s=>if(eD s 0) then some (jF,[],s)else dR (ek n c a) λb d=>if(eD d 0) then some (jF,[],d)else dE (kf t) λj=>dE (gi b.iu j) λk=>if(eD b.dT.an6 4) then some (jF,[],10)else dE (fq FU b.dT.dL u) λl=>if l then dE (dX b.dT.an7 0) λo=>dR (ju o t) λq r=>some (q,k,r)else some (jF,[],7)) λf h i=>some (f,h,i):=by
 rw[ed];rw[ml];rfl
def ahC(n:Nat)(c:dM)(t:Tm)(a:Pf):ed (n+2) c (.mk 13 0 .z [t] [] [a])=fB (dR (ji c.an_ t) λs r=>if(eD r 0) then some (jF,[],r)else dR (ek n c a) λb d=>if(eD d 0) then some (jF,[],d)else dE (kf t) λj=>dE (gi b.iu j) λu=>if(eD b.dT.an6 6) then some (jF,[],10)else dE (fq FU b.dT.dL s) λk=>if k then dE (dX b.dT.an7 0) λl=>dR (ju l t) λo q=>some (o,b.iu,q)else some (jF,[],7)) λf h i=>some (f,h,i):=by
 rw[ed];rw[ml];rfl
def Z9(L:List Fm)(t:Tm)(a:Pf)(g:List Ty)(hs:List Fm):o9 L 9 0 .z [t] [] (Pf.uu L [a]) g hs=kc (t.ty g).2 (pbind (ES (a.inf L g hs) 4) λa m=>v_ ((t.ty g).1.kX a.dL=false) 7 (kc (ll (a.an7.getD 0 jF) t).2 (.inl ((ll (a.an7.getD 0 jF) t).1,m|||rp t)))):=rfl
def ZJ(L:List Fm)(t:Tm)(a:Pf)(g:List Ty)(hs:List Fm):o9 L 13 0 .z [t] [] (Pf.uu L [a]) g hs=kc (t.ty g).2 (pbind (ES (a.inf L g hs) 6) λa m=>v_ ((t.ty g).1.kX a.dL=false) 7 (kc (ll (a.an7.getD 0 jF) t).2 (.inl ((ll (a.an7.getD 0 jF) t).1,m)))):=rfl
def vN{t:Tm}(a:t.err=0){g:List Ty}(b:iz g):(∃e,e≠0/\(t.ty g).2=e/\∃z,t.ty g=(z,e))\/∃s,t.ty g=(s,0)/\dQ g t s/\s.err=0:=by
 obtain⟨s,e,c⟩:∃s e,t.ty g=(s,e):=⟨_,_,rfl⟩
 by_cases he:e=0
 ·subst he;obtain⟨d,f⟩:=qx _ t (jy _) (Tm.hD a).1 g b s c
  grind
 ·grind
def Zb{L:List Fm}{t:Tm}(d:t.err=0){a:Pf}{N:Nat}(C:jf L a N):jf L (.mk 9 0 .z [t] [] [a]) (N+5):=by
 refine jf.of λn' D c h=>?_;have j:=h.pl.nv;rw[show n'+4=n'+2+2 from rfl,akU,Z9,tr h.pl.ctx j d];rcases vN d h.pl.ctx with⟨e,he,q1,z,F⟩|⟨s,q1,k,hs⟩
 ·rw[F,dN,dO (by rw[er];exact he),iZ he];exact lM.no he rfl rfl
 ·obtain⟨H,f2,f3⟩:=xo j k d;rw[q1,dN,dI nz,gr rfl];rcases nq (C (n'+2) xL c h) 4 with⟨e,he,n,i⟩|⟨f,m,l,n,i,hu,w,o⟩
  ·rw[n];rcases i with i|⟨f,l,m,i,o,rfl,hu⟩
   ·rw[i,dN,dO (by rw[er];exact he)];exact lM.no he rfl rfl
   ·obtain⟨q,u1,_⟩:=hu.union f3 (by have:=hu.len;omega) (by have:=f3.len;omega);rw[i,dN,dI nz,f2,dF,u1,dF,dO (by rw[er];exact o)];exact lM.no he rfl rfl
  ·obtain⟨y,x,rfl,r,A⟩:=w.ty.uY o (.inl rfl);have u:=w.sub (x:=x) LA A;obtain⟨q,u1,u2,u3,_⟩:=hu.union f3 (by have:=hu.len;omega) (by have:=f3.len;omega);rw[n,i,dN,dI nz,f2,dF,fS];simp only[Fm.eF,Fm.fw,Fm.ez,eO,kS,dF,za];rw[u1,dF,dI (show¬eD 4 4=true by decide),yE hs r,dF]
   by_cases b:s.kX y=true
   ·have:=(Ty.kV s y).1 b;subst this;have B:sk c.an_ x t:=⟨u.err,d,s,A,k⟩;rw[j3 (by rw[b];decide),dO b,B.both xL];rcases lD x t with v|⟨G,v⟩
    ·rw[v,dN,iZ Df];exact lM.no Df rfl rfl
    ·rw[v,dN,gr rfl];exact lM.yes (f:=Fm.fQ 0 x t) rfl rfl u3 B.put xL
   ·rw[jL (by simpa using b),dI b];exact lM.no Df rfl rfl
def VC{L:List Fm}{t:Tm}(d:t.err=0){a:Pf}{N:Nat}(C:jf L a N):jf L (.mk 13 0 .z [t] [] [a]) (N+5):=by
 refine jf.of λn' D c h=>?_;have j:=h.pl.nv;rw[show n'+4=n'+2+2 from rfl,ahC,ZJ,tr h.pl.ctx j d];rcases vN d h.pl.ctx with⟨e,he,q1,z,F⟩|⟨s,q1,k,hs⟩
 ·rw[F,dN,dO (by rw[er];exact he),iZ he];exact lM.no he rfl rfl
 ·obtain⟨H,f2,f3⟩:=xo j k d;rw[q1,dN,dI nz,gr rfl];rcases nq (C (n'+2) xL c h) 6 with⟨e,he,n,i⟩|⟨f,m,l,n,i,hu,w,o⟩
  ·rw[n];rcases i with i|⟨f,l,m,i,o,rfl,hu⟩
   ·rw[i,dN,dO (by rw[er];exact he)];exact lM.no he rfl rfl
   ·obtain⟨q,u1,_⟩:=hu.union f3 (by have:=hu.len;omega) (by have:=f3.len;omega);rw[i,dN,dI nz,f2,dF,u1,dF,dO (by rw[er];exact o)];exact lM.no he rfl rfl
  ·obtain⟨y,x,rfl,r,A⟩:=w.ty.uY o (.inr (.inr (.inl rfl)));have u:=w.sub (x:=x) LA A;obtain⟨q,u1,_⟩:=hu.union f3 (by have:=hu.len;omega) (by have:=f3.len;omega);rw[n,i,dN,dI nz,f2,dF,fS];simp only[Fm.eF,Fm.fw,Fm.ez,eO,kS,dF,za];rw[u1,dF,dI (show¬eD 6 6=true by decide),yE hs r,dF]
   by_cases b:s.kX y=true
   ·have:=(Ty.kV s y).1 b;subst this;have B:sk c.an_ x t:=⟨u.err,d,s,A,k⟩;rw[j3 (by rw[b];decide),dO b,B.both xL];rcases lD x t with v|⟨G,v⟩
    ·rw[v,dN,iZ Df];exact lM.no Df rfl rfl
    ·rw[v,dN,gr rfl];exact lM.yes (f:=Fm.fQ 0 x t) rfl rfl hu B.put xL
   ·rw[jL (by simpa using b),dI b];exact lM.no Df rfl rfl
def afk(n:Nat)(c:dM)(t:Tm)(F:Fm)(a:Pf):ed (n+2) c (.mk 10 0 .z [t] [F] [a])=fB (dE (jq c.an_ F) λb=>if(eD b 0) then some (jF,[],b)else if(eD F.an6 5) then some (jF,[],10)else dR (ji c.an_ t) λj d=>if(eD d 0) then some (jF,[],d)else dE (fq FU F.dL j) λk=>if k then dE (dX F.an7 0) λl=>dR (eT n c a l t) λo q=>dE (kf t) λr=>dE (gi o r) λs=>some (F,s,q)else some (jF,[],7)) λf h i=>some (f,h,i):=by
 rw[ed];rw[mh];rfl
def agp(n:Nat)(c:dM)(t:Tm)(F:Fm)(a:Pf):ed (n+2) c (.mk 14 0 .z [t] [F] [a])=fB (dE (jq c.an_ F) λb=>if(eD b 0) then some (jF,[],b)else if(eD F.an6 7) then some (jF,[],10)else dR (ji c.an_ t) λj d=>if(eD d 0) then some (jF,[],d)else dE (fq FU F.dL j) λk=>if k then dE (dX F.an7 0) λl=>dR (eT n c a l t) λo q=>some (F,o,q)else some (jF,[],7)) λf h i=>some (f,h,i):=by
 rw[ed];rw[mh];rfl
def Ss(L:List Fm)(t:Tm)(F:Fm)(a:Pf)(g:List Ty)(hs:List Fm):o9 L 10 0 .z [t] [F] (Pf.uu L [a]) g hs=kc (F.uQ g) (v_ (F.an6≠5) 10 (kc (t.ty g).2 (v_ ((t.ty g).1.kX F.dL=false) 7 (pbind (BS (a.inf L g hs) (F.an7.getD 0 jF) t) λ_ m=>.inl (F,m|||rp t))))):=rfl
def YJ(L:List Fm)(t:Tm)(F:Fm)(a:Pf)(g:List Ty)(hs:List Fm):o9 L 14 0 .z [t] [F] (Pf.uu L [a]) g hs=kc (F.uQ g) (v_ (F.an6≠7) 10 (kc (t.ty g).2 (v_ ((t.ty g).1.kX F.dL=false) 7 (pbind (BS (a.inf L g hs) (F.an7.getD 0 jF) t) λ_ m=>.inl (F,m))))):=rfl
def V'{L:List Fm}{t:Tm}(i:t.err=0){F:Fm}(hF:F.err=0){a:Pf}{N:Nat}(D:jf L a N):jf L (.mk 10 0 .z [t] [F] [a]) (N+5):=by
 refine jf.of λn' G c h=>?_;have j:=h.pl.nv;obtain⟨_,t2⟩:=sC h.pl.ctx xL hF;have H:=(Fm.hD hF).2;rw[show n'+4=n'+2+2 from rfl,afk,Ss,tr h.pl.ctx j i,t2 j,dF]
 by_cases k:F.uQ c.an_=0
 ·have r:¬eD (F.uQ c.an_) 0=true:=by rw[er];simpa using k
  rw[dI r,gr k];have b:=rb F (Fm.hD hF).1 c.an_ h.pl.ctx k
  by_cases n:F.an6=5
  ·have r:¬eD F.an6 5=true:=by rw[er];simpa using n
   rw[dI r,j3 (by simpa using n)];rcases vN i h.pl.ctx with⟨e,he,q1,z,I⟩|⟨s,q1,o,hs⟩
   ·rw[I,dN,dO (by rw[er];exact he),iZ he];exact lM.no he rfl rfl
   ·obtain⟨u,x,rfl,v,C⟩:=b.uY n (.inr (.inl rfl));have w:Hg c.an_ (.mk 5 u [] [x]):=⟨hF,b⟩;have y:=w.sub (x:=x) LA C;obtain⟨K,f2,f3⟩:=xo j o i;rw[q1,dN,dI nz,gr rfl];simp only[Fm.eF,Fm.fw,Fm.ez,eO,kS,dF,za];rw[yE hs v,dF]
    by_cases d:s.kX u=true
    ·have:=(Ty.kV s u).1 d;subst this;have J:sk c.an_ x t:=⟨y.err,i,s,C,o⟩;rw[j3 (by rw[d];decide),dO d];rcases ss j (D (n'+1) xL c h) J with⟨e,l,m,he,A,B,hu⟩|⟨f,m,l,A,B,hu⟩
     ·obtain⟨q,u1,_⟩:=hu.union f3 (by have:=hu.len;omega) (by have:=f3.len;omega);rw[A,B,dN,f2,dF,u1];exact lM.no he rfl rfl
     ·obtain⟨q,u1,u2,u3,_⟩:=hu.union f3 (by have:=hu.len;omega) (by have:=f3.len;omega);rw[A,B,dN,f2,dF,fS];rw[u1];exact lM.yes rfl rfl u3 b xL
    ·rw[jL (by simpa using d),dI d];exact lM.no Df rfl rfl
  ·rw[dO (by rw[er];exact n),jL n];exact lM.no Df rfl rfl
 ·rw[dO (by rw[er];exact k),iZ k];exact lM.no k rfl rfl
def VL{L:List Fm}{t:Tm}(i:t.err=0){F:Fm}(hF:F.err=0){a:Pf}{N:Nat}(C:jf L a N):jf L (.mk 14 0 .z [t] [F] [a]) (N+5):=by
 refine jf.of λn' D c h=>?_;have j:=h.pl.nv;obtain⟨_,t2⟩:=sC h.pl.ctx xL hF;have G:=(Fm.hD hF).2;rw[show n'+4=n'+2+2 from rfl,agp,YJ,tr h.pl.ctx j i,t2 j,dF]
 by_cases k:F.uQ c.an_=0
 ·have o:¬eD (F.uQ c.an_) 0=true:=by rw[er];simpa using k
  rw[dI o,gr k];have b:=rb F (Fm.hD hF).1 c.an_ h.pl.ctx k
  by_cases n:F.an6=7
  ·have o:¬eD F.an6 7=true:=by rw[er];simpa using n
   rw[dI o,j3 (by simpa using n)];rcases vN i h.pl.ctx with⟨e,he,q1,z,H⟩|⟨s,q1,q,hs⟩
   ·rw[H,dN,dO (by rw[er];exact he),iZ he];exact lM.no he rfl rfl
   ·obtain⟨r,x,rfl,u,B⟩:=b.uY n (.inr (.inr (.inr rfl)));have v:Hg c.an_ (.mk 7 r [] [x]):=⟨hF,b⟩;have w:=v.sub (x:=x) LA B;rw[q1,dN,dI nz,gr rfl];simp only[Fm.eF,Fm.fw,Fm.ez,eO,kS,dF,za];rw[yE hs u,dF]
    by_cases d:s.kX r=true
    ·have:=(Ty.kV s r).1 d;subst this;have I:sk c.an_ x t:=⟨w.err,i,s,B,q⟩;rw[j3 (by rw[d];decide),dO d];rcases ss j (C (n'+1) xL c h) I with⟨e,l,m,he,y,A,hu⟩|⟨f,m,l,y,A,hu⟩
     ·rw[y,A,dN];exact lM.no he rfl rfl
     ·rw[y,A,dN,fS];skip;exact lM.yes rfl rfl hu b xL
    ·rw[jL (by simpa using d),dI d];exact lM.no Df rfl rfl
  ·rw[dO (by rw[er];exact n),jL n];exact lM.no Df rfl rfl
 ·rw[dO (by rw[er];exact k),iZ k];exact lM.no k rfl rfl
def T9(k:Fm->Option (Fm×List Int×Int))(f:Fm):Option (Fm×List Int×Int):=
 dE (pQ FU f 0) λc=>if c then dR (nb FU f) λa b=>if(eD b 0) then some (jF,[],b)else dE (pQ FU a 0) λd=>if d then some (jF,[],6)else k (.mk a.an6 (.mk a.dL.an6 a.dL.an7) a.ea a.an7)else k (.mk f.an6 (.mk f.dL.an6 f.dL.an7) f.ea f.an7)
def XB(n:Nat)(c:dM)(a b:Pf):ed (n+2) c (.mk 11 0 .z [] [] [a,b])=fB (dR (ek n c a) λd h=>if(eD h 0) then some (jF,[],h)else if(eD d.dT.an6 5) then some (jF,[],10)else dE (eB c 1 1) λi=>if(eD i 0) then some (jF,[],i)else dE (fl c [d.dT.dL]) λu=>dE (dX d.dT.an7 0) λv=>dE (fY u v) λw=>dR (ek n w b) λj k=>if(eD k 0) then some (jF,[],k)else T9 (λf=>dE (im FU f 1 (-1)) λl=>dE (gn j.iu 1) λo=>dE (gi d.iu o) λq=>some (l,q,0)) j.dT) λr s t=>some (r,s,t):=by
 rw[ed];rw[kL];rfl
def XD(n:Nat)(c:dM)(a b:Pf):ed (n+2) c (.mk 15 0 .z [] [] [a,b])=fB (dR (ek n c a) λd i=>if(eD i 0) then some (jF,[],i)else if(eD d.dT.an6 7) then some (jF,[],10)else dE (eB c 1 1) λj=>if(eD j 0) then some (jF,[],j)else dE (fl c [d.dT.dL]) λv=>dE (dX d.dT.an7 0) λw=>dE (fY v w) λx=>dR (ek n x b) λh k=>if(eD k 0) then some (jF,[],k)else T9 (λf=>dE (rk h.iu) λl=>if l then some (jF,[],12)else dE (im FU f 1 (-1)) λo=>dE (gn h.iu 1) λq=>dE (gi d.iu q) λr=>some (o,r,0)) h.dT) λs t u=>some (s,t,u):=by
 rw[ed];rw[kL];rfl
def HT(L:List Fm)(a b:Pf)(g:List Ty)(hs:List Fm):o9 L 11 0 .z [] [] (Pf.uu L [a,b]) g hs=pbind (ES (a.inf L g hs) 5) λa m=>v_ (16<g.length+1\/16<hs.length+1) 3 (pbind (b.inf L (g++[a.dL]) (hs.map (Fm.up 0 1)++[a.an7.getD 0 jF])) λb n=>kc (xW b).2 (.inl ((xW b).1,m|||n/2))):=rfl
def Pz(L:List Fm)(a b:Pf)(g:List Ty)(hs:List Fm):o9 L 15 0 .z [] [] (Pf.uu L [a,b]) g hs=pbind (ES (a.inf L g hs) 7) λa m=>v_ (16<g.length+1\/16<hs.length+1) 3 (pbind (b.inf L (g++[a.dL]) (hs.map (Fm.up 0 1)++[a.an7.getD 0 jF])) λb n=>kc (xW b).2 (v_ (n.testBit 0=true) 12 (.inl ((xW b).1,m|||n/2)))):=rfl
def Qq{g:List Ty}{s:Ty}{f:Fm}(h:Hg (g++[s]) f)(hg:g.length<=1000)(k:Fm->Option (Fm×List Int×Int))(k':Fm->Option (Fm×List Int×Int))(l:∀x,x.aoc 0=0->x.an8<=4096*4096->x.aoa 1000000000000=true->k x=k' (x.up 1 (-1))):T9 k f=if(xW f).2=0 then k' (xW f).1 else some (jF,[],(xW f).2):=by
 have hn:=h.an8;have o:f.aoa 1000000000000=true:=h.ty.aoa _ Xw;unfold T9;rw[DR FU f 0 (by rw[fI];omega) xL xL xL,dF,Ty.jQ,Fm.jQ]
 by_cases j:f.aoc 0=0
 ·have hw:xW f=(f.up 1 (-1),0):=by unfold xW;rw[dO j]
  grind
 ·rw[dO (show decide (0<f.aoc 0)=true by simp;omega),GD FU f (by rw[fI];omega) xL (Xe.of f hn h.ok (h.ty.aoa _ Xw))];obtain⟨a,b,d⟩:∃a b,f.sn 0=(a,b):=⟨_,_,rfl⟩
  have hw:xW f=if b≠0 then(jF,b)else if a.aoc 0≠0 then(jF,6)else(a.up 1 (-1),0):=by unfold xW;rw[dI j,d]
  rw[d];simp only[]
  by_cases he:b=0
  ·subst he;have c:=ZG h.ty 0 Xw hn (by rw[d]);rw[d] at c;obtain⟨_,a2,a3⟩:=c;have a2:ic (g++[s]) a:=a2;have a3:a.an8<=3000*f.an8:=a3;rw[dI Df] at hw;rw[dO rfl,dN,dI nz,DR FU a 0 (by rw[fI];omega) xL xL xL,dF,Ty.jQ,Fm.jQ]
   by_cases i:a.aoc 0=0
   ·rw[dI (by simpa using i)] at hw;rw[hw,dI (show¬(decide (0<a.aoc 0)=true) by simp;omega)];exact(l a i xL (a2.aoa _ Xw)).trans (dO rfl).symm
   ·rw[dO i] at hw;rw[hw,dO (show decide (0<a.aoc 0)=true by simp;omega)];rfl
  ·rw[dO he] at hw
   have n:eD b 0=true:=by rw[er];exact he
   rw[hw,dI he,dN,dO n,dI he]
def O7{L:List Fm}{a b:Pf}{N:Nat}(G:jf L a N)(H:jf L b N):jf L (.mk 11 0 .z [] [] [a,b]) (N+5):=by
 refine jf.of λn' I c h=>?_;have J:=h.pl.nv;rw[show n'+4=n'+2+2 from rfl,XB,HT];rcases nq (G (n'+2) xL c h) 5 with⟨e,he,i,d⟩|⟨f,m,l,i,d,hu,A,t⟩
 ·rw[i];rcases d with d|⟨f,l,m,d,t,rfl,_⟩
  ·rw[d,dN,dO (by rw[er];exact he)];exact lM.no he rfl rfl
  ·rw[d,dN,dI nz,dO (by rw[er];exact t)];exact lM.no he rfl rfl
 ·obtain⟨s,x,rfl,hs,K⟩:=A.ty.uY t (.inr (.inl rfl));have u:=A.sub (x:=x) LA K;rw[i,d,dN,dI nz,dI LA,fS];simp only[Fm.fw,Fm.ez,eO,kS,dF,za];rcases h.room (v:=1) (k:=1) xL xL with⟨j,B,M⟩|⟨j,B⟩
  ·have j:eB c 1 1=some 0:=j;rw[j,dF,dI nz,j3 xL];obtain⟨W,O,P,C,D⟩:=h.below hs B;obtain⟨Q,R,S,T,U⟩:=P.with (f:=x) (by rw[C];exact u) (by rw[D];simpa using M);rw[O,dF,R,dF];have hi:=H (n'+2) xL Q S;rw[T,U,C,D] at hi;rcases hi with⟨e,he,i,d⟩|⟨V,X,F,i,d,o,r⟩
   ·rw[i,d,dN,dO (by rw[er];exact he)];exact lM.no he rfl rfl
   ·obtain⟨u1,u3⟩:=o.out (by have:=o.len;omega) (k:=1) xL;have u1:gn F 1=some (xj ((1:Nat):Int) F):=u1;obtain⟨q,v1,v2,v3,_⟩:=hu.union u3 (by have:=hu.len;omega) (by have:=u3.len;omega);rw[i,d,dN,dI nz,fS];simp only[]
    rw[Qq r xL _ (λy=>some (y,q,0)) (λy Y Z y3=>by
     rw[Dh FU y 1 (by rw[fI];omega) xL xL xL y3,dF,u1,dF,v1,dF])]
    obtain⟨w,e,hw⟩:∃w e,xW V=(w,e):=⟨_,_,rfl⟩;rw[hw]
    by_cases he:e=0
    ·subst he;have n:=IN r xL hs (by rw[hw]);rw[hw] at n;rw[dO rfl,gr rfl];exact lM.yes rfl rfl v3 n.1 (by have:=n.2;omega)
    ·rw[dI he,iZ he];exact lM.no he rfl rfl
  ·have j:eB c 1 1=some 3:=j;rw[j,dF,dO Df,jL xL];exact lM.no Df rfl rfl
def PB{L:List Fm}{a b:Pf}{N:Nat}(K:jf L a N)(r:jf L b N):jf L (.mk 15 0 .z [] [] [a,b]) (N+5):=by
 refine jf.of λn' M c h=>?_;have O:=h.pl.nv;rw[show n'+4=n'+2+2 from rfl,XD,Pz];rcases nq (K (n'+2) xL c h) 7 with⟨e,he,i,d⟩|⟨f,m,l,i,d,hu,B,u⟩
 ·rw[i];rcases d with d|⟨f,l,m,d,u,rfl,_⟩
  ·rw[d,dN,dO (by rw[er];exact he)];exact lM.no he rfl rfl
  ·rw[d,dN,dI nz,dO (by rw[er];exact u)];exact lM.no he rfl rfl
 ·obtain⟨s,x,rfl,hs,P⟩:=B.ty.uY u (.inr (.inr (.inr rfl)));have A:=B.sub (x:=x) LA P;rw[i,d,dN,dI nz,dI LA,fS];simp only[Fm.fw,Fm.ez,eO,kS,dF,za];rcases h.room (v:=1) (k:=1) xL xL with⟨j,C,Q⟩|⟨j,C⟩
  ·have j:eB c 1 1=some 0:=j;rw[j,dF,dI nz,j3 xL];obtain⟨D,R,S,F,G⟩:=h.below hs C;obtain⟨H,T,U,V,W⟩:=S.with (f:=x) (by rw[F];exact A) (by rw[G];simpa using Q);rw[R,dF,T,dF];have hi:=r (n'+2) xL H U;rw[V,W,F,G] at hi;rcases hi with⟨e,he,i,d⟩|⟨X,I,J,i,d,n,t⟩
   ·rw[i,d,dN,dO (by rw[er];exact he)];exact lM.no he rfl rfl
   ·obtain⟨u1,u3⟩:=n.out (by have:=n.len;omega) (k:=1) xL;have u1:gn J 1=some (xj ((1:Nat):Int) J):=u1;obtain⟨q,v1,v2,v3,_⟩:=hu.union u3 (by have:=hu.len;omega) (by have:=u3.len;omega);rw[i,d,dN,dI nz,fS];simp only[];skip;obtain⟨D,H⟩:=n.has
    rw[Qq t xL _ (λy=>if I.testBit 0 then some (jF,[],12)else some (y,q,0)) (λy Y Z y3=>by
     rw[D,dF,Dh FU y 1 (by rw[fI];omega) xL xL xL y3,dF,u1,dF,v1,dF])]
    obtain⟨w,e,hw⟩:∃w e,xW X=(w,e):=⟨_,_,rfl⟩;rw[hw]
    by_cases he:e=0
    ·subst he;have o:=IN t xL hs (by rw[hw]);rw[hw] at o;rw[dO rfl,gr rfl]
     by_cases r:I.testBit 0=true
     ·rw[jL r,dO r];exact lM.no Df rfl rfl
     ·rw[j3 r,dI r];exact lM.yes rfl rfl v3 o.1 (by have:=o.2;omega)
    ·rw[dI he,iZ he];exact lM.no he rfl rfl
  ·have j:eB c 1 1=some 3:=j;rw[j,dF,dO Df,jL xL];exact lM.no Df rfl rfl
def iz.nat{g:List Ty}(h:iz g):iz (g++[.nat]):=h.app Ty.fi
def iz.iB{g:List Ty}(h:iz g):iz (g++[.iB]):=h.app Ty.mD
def A5{g:List Ty}(d:iz g){t:Tm}(f:t.err=0){s:Ty}(hs:s=.nat\/s=.iB)(h:nU t g s.an6=0):dQ g t s:=by
 rcases vN f d with⟨e,he,q1,z,j⟩|⟨b,q1,i,a⟩
 ·unfold nU at h
  grind
 ·unfold nU at h;rw[q1] at h
  by_cases c:b.an6=s.an6
  ·have:b=s:=by
    rcases hs with rfl|rfl
    ·exact(vP a).1 c
    ·exact(DF a).1 c
   rwa [<-this]
  ·grind
def Em{F:Fm}(hF:F.err=0)(a:F.aoa 1000000000=true){f c:Nat}(d:f<=100)(h:c<=100):iF F (f:Int) (c:Int)=some (F.up f c)/\im FU F (f:Int) (c:Int)=some (F.up f c):=by
 obtain⟨b,a2⟩:=Fm.hD hF;exact⟨Br b xL (Fm.o7 _ xL a) xL xL xL xL,Ge FU F f c (by rw[fI];omega) xL xL xL xL xL (Fm.o7 _ xL a)⟩
def CT{F:Fm}(hF:F.err=0){f c:Int}(a:0<=f)(b:0<=c):(F.up f c).err=0:=by grind[Fm.hD,Fm.err,Fm.Ix,Fm.kH]
def ald:iO.err=0:=Df
def abB:(Tm.mk 7 0 .z []).err=0:=Df
def agY:(gJ v0).err=0:=Df
def ahe:(Tm.mk 8 0 .z [v1,v0]).err=0:=Df
def Vc{L:List Fm}{c:dM}(h:PG L c)(hn:c.an_.length+2<=16):∃a,fl c [.nat,.iB]=some a/\PG L a/\a.an_=c.an_++[.nat]++[.iB]/\a.aob=c.aob.map (Fm.up 0 2):=by
 obtain⟨a,b,d,f,i⟩:=h.Zg (l:=[.nat,.iB]) (λx hx=>by
  rcases lX.1 hx with rfl|hx
  ·exact Ty.fi
  ·rw[EU.1 hx];exact Ty.mD) hn
 grind
def abG(n:Nat)(c:dM)(t:Tm)(F:Fm)(a b:Pf):ed (n+2) c (.mk 16 0 .z [t] [F] [a,b])=fB (gh (fK c.an_ [.nat])<|dE (kz (fT c.an_ [.nat]) F) λf=>if(eD f 0) then some (jF,[],f)else dE (gZ c t 1) λh=>if(eD h 0) then some (jF,[],h)else dE (fJ 4 []) λD=>dR (eT n c a F D) λG i=>if(eD i 0) then some (jF,[],i)else dE (eB c 1 1) λj=>if(eD j 0) then some (jF,[],j)else dE (fl c [.nat]) λk=>dE (fY k F) λl=>dE (im FU F 1 1) λo=>dE (fJ 5 [v0]) λq=>dR (eT n l b o q) λr d=>if(eD d 0) then some (jF,[],d)else dR (ju F t) λs u=>dE (kf t) λv=>dE (gi v G) λw=>dE (gn r 1) λx=>dE (gi w x) λy=>some (s,y,u)) λA B C=>some (A,B,C):=by
 rw[ed];rw[m8];rfl
def aco(n:Nat)(c:dM)(t:Tm)(F:Fm)(a b:Pf):ed (n+2) c (.mk 17 0 .z [t] [F] [a,b])=fB (gh (fK c.an_ [.iB])<|dE (kz (fT c.an_ [.iB]) F) λf=>if(eD f 0) then some (jF,[],f)else dE (gZ c t 2) λh=>if(eD h 0) then some (jF,[],h)else dE (fJ 7 []) λG=>dR (eT n c a F G) λH i=>if(eD i 0) then some (jF,[],i)else dE (eB c 2 1) λj=>if(eD j 0) then some (jF,[],j)else dE (fl c [.nat,.iB]) λk=>dE (im FU F 1 1) λl=>dE (fY k l) λo=>dE (im FU F 1 2) λq=>dE (fJ 8 [v1,v0]) λr=>dR (eT n o b q r) λs d=>if(eD d 0) then some (jF,[],d)else dR (ju F t) λu v=>dE (kf t) λw=>dE (gi w H) λx=>dE (gn s 2) λy=>dE (gi x y) λA=>some (u,A,v)) λB C D=>some (B,C,D):=by
 rw[ed];rw[lT];rfl
def Ny(L:List Fm)(t:Tm)(F:Fm)(a b:Pf)(g:List Ty)(hs:List Fm):o9 L 16 0 .z [t] [F] (Pf.uu L [a,b]) g hs=kc (F.uQ (g++[.nat])) (kc (nU t g 1) (pbind (BS (a.inf L g hs) F iO) λ_ m=>v_ (16<g.length+1\/16<hs.length+1) 3 (pbind (BS (b.inf L (g++[.nat]) (hs.map (Fm.up 0 1)++[F])) (F.up 1 1) (gJ v0)) λ_ n=>kc (ll F t).2 (.inl ((ll F t).1,(rp t|||m)|||n/2))))):=rfl
def MG(L:List Fm)(t:Tm)(F:Fm)(a b:Pf)(g:List Ty)(hs:List Fm):o9 L 17 0 .z [t] [F] (Pf.uu L [a,b]) g hs=kc (F.uQ (g++[.iB])) (kc (nU t g 2) (pbind (BS (a.inf L g hs) F (.mk 7 0 .z [])) λ_ m=>v_ (16<g.length+2\/16<hs.length+1) 3 (pbind (BS (b.inf L (g++[.nat]++[.iB]) (hs.map (Fm.up 0 2)++[F.up 1 1])) (F.up 1 2) (.mk 8 0 .z [v1,v0])) λ_ n=>kc (ll F t).2 (.inl ((ll F t).1,(rp t|||m)|||n/4))))):=rfl
def Sg{L:List Fm}{t:Tm}(i:t.err=0){F:Fm}(hF:F.err=0){a b:Pf}{N:Nat}(V:jf L a N)(W:jf L b N):jf L (.mk 16 0 .z [t] [F] [a,b]) (N+5):=by
 refine jf.of λn' X c h=>?_;have n:=h.pl.nv;have D:=h.pl.ctx;have Y:=(Fm.hD hF).2;obtain⟨t2,_⟩:=sC D.nat Xw hF;have s2:=has_both D n rfl i 1;rw[show n'+4=n'+2+2 from rfl,abG,Ny,fR Xw,dY,jn,t2,dF,s2,dF]
 by_cases u:F.uQ (c.an_++[.nat])=0
 ·have y:=u;rw[<-u9 (a:=_=_),<-ne_eq,<-er] at y;rw[dI y,gr u];have d:=rb F (Fm.hD hF).1 _ D.nat u;have I:F.aoa 1000000000=true:=d.aoa _ Xw
  by_cases x:nU t c.an_ 1=0
  ·have y:=x;rw[<-u9 (a:=_=_),<-ne_eq,<-er] at y;rw[dI y,gr x];have A:dQ c.an_ t .nat:=A5 D i (.inl rfl) x;have J:sk c.an_ F iO:=⟨hF,ald,.nat,d,.zero⟩;rw[show fJ 4 []=some iO from HK,dF];rcases ss n (V (n'+1) xL c h) J with⟨e,l,m,he,j,o,hu⟩|⟨f,m,l,j,o,hu⟩
   ·rw[j,o,dN,dO (by rw[er];exact he)];exact lM.no he rfl rfl
   ·rw[j,o,dN,dI nz,fS];rcases h.room (v:=1) (k:=1) xL xL with⟨r,S,Z⟩|⟨r,S⟩
    ·have r:eB c 1 1=some 0:=r;rw[r,dF,dI nz,j3 xL];obtain⟨c1,e2,e3,G,K⟩:=h.below Ty.fi S;obtain⟨H,b2,T,M,U⟩:=e3.with (f:=F) (by rw[G];exact⟨hF,d⟩) (by rw[K];simpa using Z);have l3:im FU F 1 1=some (F.up 1 1):=(Em hF I (f:=1) (c:=1) xL xL).2;rw[e2,dF,b2,dF,l3,dF];rw[show fJ 5 [v0]=some (gJ v0)from OG Df,dF];have hi:=W (n'+1) xL H T;have O:H.an_.length<=16:=T.pl.nv
     have B:H.an_=c.an_++[.nat]:=by rw[M,G]
     have P:sk H.an_ (F.up 1 1) (gJ v0):=⟨CT hF xL xL,agY,.nat,by
      rw[B];have:=d.up c.an_ [.nat] [.nat] rfl
      simpa using this,by rw[B];exact .succ gz⟩
     rcases ss O hi P with⟨e,Q,m',he,j,o,s⟩|⟨f',m',Q,j,o,s⟩
     ·rw[M,U,G,K] at j;rw[j,o,dN,dO (by rw[er];exact he)];exact lM.no he rfl rfl
     ·rw[M,U,G,K] at j;obtain⟨lf,f2,f3⟩:=xo n A i;have C:sk c.an_ F t:=⟨hF,i,.nat,d,A⟩;obtain⟨u1,u3⟩:=s.out (by have:=s.len;omega) (k:=1) xL;have u1:gn Q 1=some (xj ((1:Nat):Int) Q):=u1;obtain⟨q,v1,v2,v3,_⟩:=f3.union hu (by have:=f3.len;omega) (by have:=hu.len;omega);obtain⟨q',w1,w2,w3,_⟩:=v3.union u3 (by have:=v3.len;omega) (by have:=u3.len;omega);rw[j,o,dN,dI nz,fS,C.both xL];obtain⟨w,e,hw⟩:∃w e,ll F t=(w,e):=⟨_,_,rfl⟩;rw[hw,dN,f2,dF,v1,dF,u1,dF,w1,dF];simp only[];skip;rcases lD F t with R|⟨ad,R⟩
      ·rw[R] at hw;obtain⟨rfl,rfl⟩:=g_ hw;rw[iZ Df];exact lM.no Df rfl rfl
      ·rw[R] at hw;obtain⟨rfl,rfl⟩:=g_ hw;rw[gr rfl];exact lM.yes (f:=Fm.fQ 0 F t) rfl rfl w3 C.put xL
    ·have r:eB c 1 1=some 3:=r;rw[r,dF,dO Df,jL xL];exact lM.no Df rfl rfl
  ·rw[dO (by rw[er];exact x),iZ x];exact lM.no x rfl rfl
 ·rw[dO (by rw[er];exact u),iZ u];exact lM.no u rfl rfl
def RL{L:List Fm}{t:Tm}(i:t.err=0){F:Fm}(hF:F.err=0){a b:Pf}{N:Nat}(V:jf L a N)(W:jf L b N):jf L (.mk 17 0 .z [t] [F] [a,b]) (N+5):=by
 refine jf.of λn' X c h=>?_;have n:=h.pl.nv;have G:=h.pl.ctx;have Y:=(Fm.hD hF).2;obtain⟨t2,_⟩:=sC G.iB Xw hF;have s2:=has_both G n rfl i 2;rw[show n'+4=n'+2+2 from rfl,aco,MG,fR Xw,dY,jn,t2,dF,s2,dF]
 by_cases u:F.uQ (c.an_++[.iB])=0
 ·have y:=u;rw[<-u9 (a:=_=_),<-ne_eq,<-er] at y;rw[dI y,gr u];have d:=rb F (Fm.hD hF).1 _ G.iB u;have A:F.aoa 1000000000=true:=d.aoa _ Xw
  by_cases x:nU t c.an_ 2=0
  ·have y:=x;rw[<-u9 (a:=_=_),<-ne_eq,<-er] at y;rw[dI y,gr x];have B:dQ c.an_ t .iB:=A5 G i (.inr rfl) x;have J:sk c.an_ F (.mk 7 0 .z []):=⟨hF,abB,.iB,d,.nil⟩;rw[show fJ 7 []=some (.mk 7 0 .z [])from HK,dF];rcases ss n (V (n'+1) xL c h) J with⟨e,l,m,he,j,o,hu⟩|⟨f,m,l,j,o,hu⟩
   ·rw[j,o,dN,dO (by rw[er];exact he)];exact lM.no he rfl rfl
   ·rw[j,o,dN,dI nz,fS];rcases h.room (v:=2) (k:=1) xL xL with⟨r,S,Z⟩|⟨r,S⟩
    ·have r:eB c 2 1=some 0:=r;rw[r,dF,dI nz,j3 xL];obtain⟨c1,e2,e3,H,K⟩:=Vc h S;obtain⟨I,b2,T,M,U⟩:=e3.with (f:=F.up 1 1) (by rw[H];exact⟨CT hF xL xL,by have:=d.up c.an_ [.iB] [.nat] rfl;simpa using this⟩) (by rw[K];simpa using Z);have l3:im FU F 1 1=some (F.up 1 1):=(Em hF A (f:=1) (c:=1) xL xL).2;have l4:im FU F 1 2=some (F.up 1 2):=(Em hF A (f:=1) (c:=2) xL xL).2;rw[e2,dF,l3,dF,b2,dF,l4,dF];rw[show fJ 8 [v1,v0]=some (.mk 8 0 .z [v1,v0])from wo Df Df,dF];have hi:=W (n'+1) xL I T;have O:I.an_.length<=16:=T.pl.nv
     have C:I.an_=c.an_++[.nat]++[.iB]:=by rw[M,H]
     have P:sk I.an_ (F.up 1 2) (.mk 8 0 .z [v1,v0]):=⟨CT hF xL xL,ahe,.iB,by
      rw[C];have:=d.up c.an_ [.iB] [.nat,.iB] rfl
      simpa using this,by rw[C];exact .cons kW gz⟩
     rcases ss O hi P with⟨e,Q,m',he,j,o,s⟩|⟨f',m',Q,j,o,s⟩
     ·rw[M,U,H,K] at j;rw[j,o,dN,dO (by rw[er];exact he)];exact lM.no he rfl rfl
     ·rw[M,U,H,K] at j;obtain⟨lf,f2,f3⟩:=xo n B i;have D:sk c.an_ F t:=⟨hF,i,.iB,d,B⟩;obtain⟨u1,u3⟩:=s.out (by have:=s.len;omega) (k:=2) xL;have u1:gn Q 2=some (xj ((2:Nat):Int) Q):=u1;obtain⟨q,v1,v2,v3,_⟩:=f3.union hu (by have:=f3.len;omega) (by have:=hu.len;omega);obtain⟨q',w1,w2,w3,_⟩:=v3.union u3 (by have:=v3.len;omega) (by have:=u3.len;omega);rw[j,o,dN,dI nz,fS,D.both xL];obtain⟨w,e,hw⟩:∃w e,ll F t=(w,e):=⟨_,_,rfl⟩;rw[hw,dN,f2,dF,v1,dF,u1,dF,w1,dF];simp only[];skip;rcases lD F t with R|⟨ad,R⟩
      ·rw[R] at hw;obtain⟨rfl,rfl⟩:=g_ hw;rw[iZ Df];exact lM.no Df rfl rfl
      ·rw[R] at hw;obtain⟨rfl,rfl⟩:=g_ hw;rw[gr rfl];exact lM.yes (f:=Fm.fQ 0 F t) rfl rfl w3 D.put xL
    ·have r:eB c 2 1=some 3:=r;rw[r,dF,dO Df,jL xL];exact lM.no Df rfl rfl
  ·rw[dO (by rw[er];exact x),iZ x];exact lM.no x rfl rfl
 ·rw[dO (by rw[er];exact u),iZ u];exact lM.no u rfl rfl
def Tm.ng{t:Tm}(h:t.ok=true)(hn:t.an8<=4096):t.err=0:=by grind[Tm.err]
def afv(n:Nat)(c:dM)(t:Tm):ed (n+1) c (.mk 18 0 .z [t] [] [])=dE (xQ t t) λa=>dE (gZ c t 1) λb=>some (a,[],b):=by rw[ed];rfl
def RJ(L:List Fm)(t:Tm)(g:List Ty)(hs:List Fm):o9 L 18 0 .z [t] [] (Pf.uu L []) g hs=kc (nU t g 1) (.inl (.mk 1 .z [t,t] [],0)):=rfl
def Wc{L:List Fm} {t:Tm} (a:t.err=0):jf L (.mk 18 0 .z [t] [] []) 5:=by
 refine jf.of (N:=0) λn' _ c h=>?_;have f:=h.pl.nv;have i:=h.pl.ctx;obtain⟨j,a2⟩:=Tm.hD a;have hw:=t.iD j;rw[show n'+4=n'+3+1 from rfl,afv,RJ,has_both i f rfl a 1,aj8 xL xL,dF,dF]
 by_cases b:nU t c.an_ 1=0
 ·have d:dQ c.an_ t .nat:=A5 i a (.inl rfl) b;rw[gr b,b];refine lM.yes rfl rfl .nil (.eq d d) ?_;rw[Fm.dJ];simp only[eb];omega
 ·rw[iZ b];exact lM.no b rfl rfl
def acz(n:Nat)(c:dM)(F:Fm)(a b:Pf):ed (n+2) c (.mk 19 0 .z [] [F] [a,b])=fB (gh (fK c.an_ [.nat])<|dE (kz (fT c.an_ [.nat]) F) λf=>if(eD f 0) then some (jF,[],f)else dR (ek n c a) λd h=>if(eD h 0) then some (jF,[],h)else if(eD d.dT.an6 1) then some (jF,[],10)else dE (dX d.dT.ea 0) λs=>dR (eT n c b F s) λt i=>if(eD i 0) then some (jF,[],i)else dE (dX d.dT.ea 1) λj=>dR (ju F j) λk l=>some (k,t,l)) λo q r=>some (o,q,r):=by
 rw[ed];rw[lP];rfl
def N1(L:List Fm)(F:Fm)(a b:Pf)(g:List Ty)(hs:List Fm):o9 L 19 0 .z [] [F] (Pf.uu L [a,b]) g hs=kc (F.uQ (g++[.nat])) (pbind (ES (a.inf L g hs) 1) λa _=>pbind (BS (b.inf L g hs) F (a.ea.getD 0 Tm.z)) λ_ n=>kc (ll F (a.ea.getD 1 Tm.z)).2 (.inl ((ll F (a.ea.getD 1 Tm.z)).1,n))):=rfl
def R8{L:List Fm}{F:Fm}(hF:F.err=0){a b:Pf}{N:Nat}(G:jf L a N)(H:jf L b N):jf L (.mk 19 0 .z [] [F] [a,b]) (N+5):=by
 refine jf.of λn' I c h=>?_;have q:=h.pl.nv;have w:=h.pl.ctx;have J:=(Fm.hD hF).2;obtain⟨t2,_⟩:=sC w.nat Xw hF;rw[show n'+4=n'+2+2 from rfl,acz,N1,fR Xw,dY,jn,t2,dF]
 by_cases k:F.uQ (c.an_++[.nat])=0
 ·have A:=k;rw[<-u9 (a:=_=_),<-ne_eq,<-er] at A;rw[dI A,gr k];have i:=rb F (Fm.hD hF).1 _ w.nat k;rcases nq (G (n'+2) xL c h) 1 with⟨e,he,j,d⟩|⟨f,m,l,j,d,hu,B,r⟩
  ·rw[j];rcases d with d|⟨f,l,m,d,r,rfl,_⟩
   ·rw[d,dN,dO (by rw[er];exact he)];exact lM.no he rfl rfl
   ·rw[d,dN,dI nz,dO (by rw[er];exact r)];exact lM.no he rfl rfl
  ·obtain⟨x,y,rfl,C,D⟩:=B.ty.Yg r;have n:=B.an8;rw[Fm.dJ] at n;simp only[eb] at n;have s:x.err=0:=Tm.ng C.ok xL;have t:y.err=0:=Tm.ng D.ok xL;have u:sk c.an_ F x:=⟨hF,s,.nat,i,C⟩;have o:sk c.an_ F y:=⟨hF,t,.nat,i,D⟩;rw[j,d,dN,dI nz,dI LA,fS];simp only[Fm.h8,eO,hR,kS,ql,dF,za,RT];rcases ss q (H (n'+1) xL c h) u with⟨e,l,m,he,j,d,hu⟩|⟨f,m,l,j,d,hu⟩
   ·rw[j,d,dN,dO (by rw[er];exact he)];exact lM.no he rfl rfl
   ·rw[j,d,dN,dI nz,fS,o.both xL];rcases lD F y with v|⟨K,v⟩
    ·rw[v,dN,iZ Df];exact lM.no Df rfl rfl
    ·rw[v,dN,gr rfl];exact lM.yes (f:=Fm.fQ 0 F y) rfl rfl hu o.put xL
 ·rw[dO (by rw[er];exact k),iZ k];exact lM.no k rfl rfl
def chR(f:Fm)(l:List Int):Option (Fm×List Int×Int):=
 ec (λ(d:Bool)=>if d then some (jF,[],10)else dE (dX f.an7 0) λa=>dE (kK f.dL a.dL) λb=>dE (ib b) λh=>if(eD h 0) then some (jF,[],4)else dE (dX a.an7 0) λi=>dE (im FU i 2 1) λj=>dE (fJ 3 [v1,v0]) λk=>dR (ju j k) λn o=>dE (nN 4 f.dL n) λq=>dE (nN 5 b q) λr=>some (r,l,o)) λc=>if(eD f.an6 4) then c true else dE (dX f.an7 0) λs=>c (eD s.an6 5)
def acT{f:Fm}{l:List Int}(h:f.an6≠4):chR f l=some (jF,[],10):=by grind[eD,er,chR,d_]
def adm{s:Ty}{x:Fm}{l:List Int}(h:x.an6≠5):chR (.mk 4 s [] [x]) l=some (jF,[],10):=by
 have r:eD x.an6 5=true:=by rw[er];exact h
 have e:chR (.mk 4 s [] [x]) l=(λ(c:Bool)=>if c then some (jF,[],10)else dE (dX [x] 0) λa=>dE (kK s a.dL) λb=>dE (ib b) λd=>if(eD d 0) then some (jF,[],4)else dE (dX a.an7 0) λf=>dE (im FU f 2 1) λi=>dE (fJ 3 [v1,v0]) λj=>dR (ju i j) λk n=>dE (nN 4 s k) λo=>dE (nN 5 b o) λq=>some (q,l,n)) (eD x.an6 5):=rfl
 grind
def ajV{s u:Ty}{y:Fm}{l:List Int}:chR (.mk 4 s [] [.mk 5 u [] [y]]) l=dE (kK s u) λa=>dE (ib a) λb=>if(eD b 0) then some (jF,[],4)else dE (im FU y 2 1) λc=>dE (fJ 3 [v1,v0]) λd=>dR (ju c d) λf h=>dE (nN 4 s f) λi=>dE (nN 5 a i) λj=>some (j,l,h):=rfl
def Zv(n:Nat)(c:dM)(a:Pf):ed (n+2) c (.mk 20 0 .z [] [] [a])=fB (dR (ek n c a) λb d=>if(eD d 0) then some (jF,[],d)else chR b.dT b.iu) λf h i=>some (f,h,i):=by
 rw[ed];rw[lj];rfl
def OI(L:List Fm)(a:Pf)(g:List Ty)(hs:List Fm):o9 L 20 0 .z [] [] (Pf.uu L [a]) g hs=pbind (ES (a.inf L g hs) 4) λa m=>v_ ((a.an7.getD 0 jF).an6≠5) 10 (v_ ((Ty.fn a.dL (a.an7.getD 0 jF).dL).err≠0) 4 (v_ ((ll (((a.an7.getD 0 jF).an7.getD 0 jF).up 2 1) (eH v1 v0)).2≠0) 4 (.inl (.mk 5 (Ty.fn a.dL (a.an7.getD 0 jF).dL) [] [.mk 4 a.dL [] [(ll (((a.an7.getD 0 jF).an7.getD 0 jF).up 2 1) (eH v1 v0)).1]],m)))):=rfl
def OT{L:List Fm}{a:Pf}{N:Nat}(F:jf L a N):jf L (.mk 20 0 .z [] [] [a]) (N+5):=by
 refine jf.of λn' G c h=>?_;have H:=h.pl.nv;rw[show n'+4=n'+2+2 from rfl,Zv,OI];rcases nq (F (n'+2) xL c h) 4 with⟨e,he,n,i⟩|⟨f,m,l,n,i,hu,C,o⟩
 ·rw[n];rcases i with i|⟨f,l,m,i,o,rfl,_⟩
  ·rw[i,dN,dO (by rw[er];exact he)];exact lM.no he rfl rfl
  ·rw[i,dN,dI nz,acT o];exact lM.no he rfl rfl
 ·obtain⟨s,x,rfl,hs,D⟩:=C.ty.uY o (.inl rfl);have r:=C.sub (x:=x) LA D;rw[n,i,dN,dI nz,fS]
  by_cases j:x.an6=5
  ·obtain⟨u,y,rfl,t,v⟩:=D.uY j (.inr (.inl rfl));have d:=r.sub (x:=y) LA v;have I:=e8 hs;have J:=e8 t;have K:=d.an8
   have M:(Ty.fn s u).an8<=1000:=by rw[Ty.jw];omega
   have k:y.aoa 1000000000=true:=v.aoa _ Xw;have S:iF y 2 1=some (y.up 2 1):=(Em d.err k (f:=2) (c:=1) xL xL).1;have O:im FU y 2 1=some (y.up 2 1):=(Em d.err k (f:=2) (c:=1) xL xL).2
   have w:sk (c.an_++[.fn s u]++[s]) (y.up 2 1) (eH v1 v0):=⟨CT d.err xL xL,Df,u,by
    have:=v.up c.an_ [s,u] [.fn s u] LA
    simpa using this,.app kW gz⟩
   have P:=w.both Xw;have Q:=RK;have hw:=Fm.iD _ w.put.ok;simp only[Fm.ez,Fm.fw,Fm.eF,za];rw[j3 Df,ajV,iT xL xL,dF,mm xL,dF]
   by_cases b:(Ty.fn s u).err=0
   ·have A:¬eD (Ty.fn s u).err 0=true:=by rw[er];simpa using b
    rw[dI A,j3 (by simpa using b),O,dF,show fJ 3 [v1,v0]=some (eH v1 v0)from wo Df Df,dF,P];rcases lD (y.up 2 1) (eH v1 v0)with B|⟨R,B⟩
    ·rw[B,dN,jL Df,Wz xL xL,dF];rw[Wz xL (by rw[Fm.jg];simp only[eb];omega),dF];exact lM.no Df rfl rfl
    ·rw[B,dN,j3 (λh=>h rfl),Wz xL xL,dF];rw[Wz xL (by rw[Fm.jg];simp only[eb];omega),dF];refine lM.yes (f:=.mk 5 (.fn s u) [] [.mk 4 s [] [Fm.fQ 0 (y.up 2 1) (eH v1 v0)]]) rfl rfl hu (.q (.inr (.inl rfl)) b (.q (.inl rfl) hs w.put)) ?_;rw[Fm.dJ];simp only[eb];rw[Fm.dJ];simp only[eb];omega
   ·have A:eD (Ty.fn s u).err 0=true:=by rw[er];exact b
    rw[dO A,jL b];exact lM.no Df rfl rfl
  ·simp only[Fm.ez,za];rw[adm j,jL j];exact lM.no Df rfl rfl
inductive zG:Pf->Prop
 |hyp {i}:0<=i->zG (.mk 1 i .z [] [] [])|N8 {i}:0<=i->zG (.mk 2 i .z [] [] [])|Qs {a b}:zG a->zG b->zG (.mk 3 0 .z [] [] [a,b])|and {k a}:k=4\/k=5->zG a->zG (.mk k 0 .z [] [] [a])|X3 {F a}:F.err=0->zG a->zG (.mk 6 0 .z [] [F] [a])|XR {a b}:zG a->zG b->zG (.mk 7 0 .z [] [] [a,b])|all {k s a}:k=8\/k=12->s.err=0->zG a->zG (.mk k 0 s [] [] [a])|atE {k t a}:k=9\/k=13->t.err=0->zG a->zG (.mk k 0 .z [t] [] [a])|ex {k t F a}:k=10\/k=14->t.err=0->F.err=0->zG a->zG (.mk k 0 .z [t] [F] [a])|opn {k a b}:k=11\/k=15->zG a->zG b->zG (.mk k 0 .z [] [] [a,b])|ind {k t F a b}:k=16\/k=17->t.err=0->F.err=0->zG a->zG b->zG (.mk k 0 .z [t] [F] [a,b])|refl {t}:t.err=0->zG (.mk 18 0 .z [t] [] [])|subst {F a b}:F.err=0->zG a->zG b->zG (.mk 19 0 .z [] [F] [a,b])|choice {a}:zG a->zG (.mk 20 0 .z [] [] [a])
mutual
def Pf.zt:Pf->Nat
 |.mk _ _ _ _ _ l=>1+Pf.wh l
def Pf.wh:List Pf->Nat
 |[]=>0|p::l=>p.zt+Pf.wh l
end
theorem jf.mono{L:List Fm}{P:Pf}{N M:Nat}(h:jf L P N)(a:N<=M):jf L P M:=λn' b=>h n' xL
def YX{L:List Fm}{P:Pf}(h:zG P):jf L P (5*P.zt):=by
 induction h with
 |hyp hi=>exact Y1 hi|N8 hi=>exact YA hi|Qs _ _ a b=>exact(Vx (a.mono (S9 _ _)) (b.mono (Sf _ _))).mono (by simp only[Pf.zt,Pf.wh];omega)|and c _ a=>
  rcases c with rfl|rfl
  ·exact(Wg a).mono (by simp only[Pf.zt,Pf.wh];omega)
  ·exact(Vr a).mono (by simp only[Pf.zt,Pf.wh];omega)
 |X3 hF _ a=>exact(Vv hF a).mono (by simp only[Pf.zt,Pf.wh];omega)|XR _ _ a b=>exact(V5 (a.mono (S9 _ _)) (b.mono (Sf _ _))).mono (by simp only[Pf.zt,Pf.wh];omega)|all c hs _ a=>
  rcases c with rfl|rfl
  ·exact(V4 hs a).mono (by simp only[Pf.zt,Pf.wh];omega)
  ·exact(R_ hs a).mono (by simp only[Pf.zt,Pf.wh];omega)
 |atE c d _ a=>
  rcases c with rfl|rfl
  ·exact(Zb d a).mono (by simp only[Pf.zt,Pf.wh];omega)
  ·exact(VC d a).mono (by simp only[Pf.zt,Pf.wh];omega)
 |ex c d hF _ a=>
  rcases c with rfl|rfl
  ·exact(V' d hF a).mono (by simp only[Pf.zt,Pf.wh];omega)
  ·exact(VL d hF a).mono (by simp only[Pf.zt,Pf.wh];omega)
 |opn c _ _ a b=>
  rcases c with rfl|rfl
  ·exact(O7 (a.mono (S9 _ _)) (b.mono (Sf _ _))).mono (by simp only[Pf.zt,Pf.wh];omega)
  ·exact(PB (a.mono (S9 _ _)) (b.mono (Sf _ _))).mono (by simp only[Pf.zt,Pf.wh];omega)
 |ind c d hF _ _ a b=>
  rcases c with rfl|rfl
  ·exact(Sg d hF (a.mono (S9 _ _)) (b.mono (Sf _ _))).mono (by simp only[Pf.zt,Pf.wh];omega)
  ·exact(RL d hF (a.mono (S9 _ _)) (b.mono (Sf _ _))).mono (by simp only[Pf.zt,Pf.wh];omega)
 |refl d=>exact Wc d|subst hF _ _ a b=>exact(R8 hF (a.mono (S9 _ _)) (b.mono (Sf _ _))).mono (by simp only[Pf.zt,Pf.wh];omega)|choice _ a=>exact(OT a).mono (by simp only[Pf.zt,Pf.wh];omega)
mutual
def Pf.an8:Pf->Nat
 |.mk _ _ _ ts fs l=>1+eb Tm.an8 ts+eb Fm.an8 fs+Pf.nV l
def Pf.nV:List Pf->Nat
 |[]=>0|p::l=>p.an8+Pf.nV l
end
def Pf.q8:∀l:List Pf,Pf.nV l=eb Pf.an8 l
 |[]=>by rw[Pf.nV];rfl|p::l=>by rw[Pf.nV,Pf.q8 l];rfl
theorem Pf.dJ(k i:Int)(s:Ty)(ts:List Tm)(fs:List Fm)(l:List Pf):(Pf.mk k i s ts fs l).an8=1+eb Tm.an8 ts+eb Fm.an8 fs+eb Pf.an8 l:=by rw[Pf.an8,Pf.q8]
mutual
def Pf.wt:Pf->Nat
 |.mk _ _ s ts fs l=>1+s.an8+eb Tm.wt ts+eb Fm.wt fs+Pf.Tb l
def Pf.Tb:List Pf->Nat
 |[]=>0|p::l=>p.wt+Pf.Tb l
end
def Pf.Ff:∀l:List Pf,Pf.Tb l=eb Pf.wt l
 |[]=>by rw[Pf.Tb];rfl|p::l=>by rw[Pf.Tb,Pf.Ff l];rfl
def Pf.jg(k i:Int)(s:Ty)(ts:List Tm)(fs:List Fm)(l:List Pf):(Pf.mk k i s ts fs l).wt=1+s.an8+eb Tm.wt ts+eb Fm.wt fs+eb Pf.wt l:=by rw[Pf.wt,Pf.Ff]
def Pf.j2(p:Pf):1<=p.wt:=by cases p;rw[Pf.jg];omega
def Pf.ind{p:Pf->Prop}(h:∀k i s ts fs l,(∀t∈l,p t)->p (.mk k i s ts fs l))(t:Pf):p t:=by
 match t with
 |.mk k i s ts fs l=>exact h k i s ts fs l λx a=>Pf.ind h x
termination_by SizeOf.sizeOf t
decreasing_by
 have:=agq a;simp only[Pf.mk.sizeOf_spec];omega
def Pf.iA(p:Pf):p.an8<=p.wt:=by
 induction p using Pf.ind with
 |h k i s ts fs l ih=>
  rw[Pf.dJ,Pf.jg];have a:=kG (l:=ts) (λx _=>Tm.iA x);have b:=kG (l:=fs) (λx _=>Fm.iA x);have c:=kG (l:=l) ih;omega
def Pf.sig(k:Int):Option (Bool×Bool×Nat×Nat×Nat):=
 if k=1\/k=2 then some (true,false,0,0,0)
 else if k=3\/k=7\/k=11\/k=15 then some (false,false,0,0,2)
 else if k=4\/k=5\/k=20 then some (false,false,0,0,1)
 else if k=6 then some (false,false,0,1,1)
 else if k=8\/k=12 then some (false,true,0,0,1)
 else if k=9\/k=13 then some (false,false,1,0,1)
 else if k=10\/k=14 then some (false,false,1,1,1)
 else if k=16\/k=17 then some (false,false,1,1,2)
 else if k=18 then some (false,false,1,0,0)
 else if k=19 then some (false,false,0,1,2)
 else none
def Pf.node(k i:Int)(s:Ty)(d nf f:Nat):Bool:=
 match Pf.sig k with
 |none=>false|some (h,ty,a,b,c)=>decide (d=a)&&decide (nf=b)&&decide (f=c)&&decide (0<=i)&&(h||decide (i=0))&&(if ty then decide (s.err=0)else s.rh)
mutual
def Pf.ok:Pf->Bool
 |.mk k i s ts fs l=>Pf.node k i s ts.length fs.length l.length&&ts.all Tm.ok&&fs.all Fm.ok&&Pf.L7 l
def Pf.L7:List Pf->Bool
 |[]=>true|p::l=>p.ok&&Pf.L7 l
end
def Pf.zL:∀l:List Pf,Pf.L7 l=l.all Pf.ok
 |[]=>by rw[Pf.L7];rfl|p::l=>by rw[Pf.L7,Pf.zL l];rfl
theorem Pf.gR(k i:Int)(s:Ty)(ts:List Tm)(fs:List Fm)(l:List Pf):(Pf.mk k i s ts fs l).ok=(Pf.node k i s ts.length fs.length l.length&&ts.all Tm.ok&&fs.all Fm.ok&&l.all Pf.ok):=by rw[Pf.ok,Pf.zL]
def Ww(t:Tm):Bool:=decide (t.an8<=4096)
def VP(f:Fm):Bool:=decide (f.an8<=4096)
mutual
def Pf.small:Pf->Bool
 |.mk _ _ _ ts fs l=>ts.all Ww&&fs.all VP&&Pf.IC l
def Pf.IC:List Pf->Bool
 |[]=>true|p::l=>p.small&&Pf.IC l
end
def Pf.L6:∀l:List Pf,Pf.IC l=l.all Pf.small
 |[]=>by rw[Pf.IC];rfl|p::l=>by rw[Pf.IC,Pf.L6 l];rfl
def Pf.zW(k i:Int)(s:Ty)(ts:List Tm)(fs:List Fm)(l:List Pf):(Pf.mk k i s ts fs l).small=(ts.all Ww&&fs.all VP&&l.all Pf.small):=by rw[Pf.small,Pf.L6]
def Pf.err(p:Pf):Int:=if p.ok then(if p.small=true/\p.an8<=16384 then 0 else 4)else 2
def ah0{k:Int}(h:Pf.sig k≠none):k=1\/k=2\/k=3\/k=4\/k=5\/k=6\/k=7\/k=8\/k=9\/k=10\/k=11\/k=12\/k=13\/k=14\/k=15\/k=16\/k=17\/k=18\/k=19\/k=20:=by
 refine aha λhn=>h ?_;unfold Pf.sig;simp only[not_or] at hn;rw[dI xL,dI xL,dI xL,dI xL,dI xL,dI xL,dI xL,dI xL,dI xL,dI xL]
def PZ{k:Int}(h:k<1\/20<k):Pf.sig k=none:=by
 unfold Pf.sig;rw[dI xL,dI xL,dI xL,dI xL,dI xL,dI xL,dI xL,dI xL,dI xL,dI xL]
def V9(k:Int):(Pf.sig k=none/\∃r,pg k=some (r,false))\/∃d ty a b c r,Pf.sig k=some (d,ty,a,b,c)/\pg k=some (r,true)/\r.an9=d/\r.typed=ty/\r.ea=((a:Nat):Int)/\r.fM=((b:Nat):Int)/\r.an7=((c:Nat):Int):=by
 by_cases h:k<1\/20<k
 ·refine .inl ⟨PZ h,?_⟩;unfold pg;rw[dO (by rw[lJ,r9,rR,jj];omega)];exact⟨_,rfl⟩
 ·have f:k=1\/k=2\/k=3\/k=4\/k=5\/k=6\/k=7\/k=8\/k=9\/k=10\/k=11\/k=12\/k=13\/k=14\/k=15\/k=16\/k=17\/k=18\/k=19\/k=20:=xL
  refine .inr ?_;rcases f with rfl|rfl|rfl|rfl|rfl|rfl|rfl|rfl|rfl|rfl|rfl|rfl|rfl|rfl|rfl|rfl|rfl|rfl|rfl|rfl<;>exact⟨_,_,_,_,_,_,rfl,rfl,rfl,rfl,rfl,rfl,rfl⟩
def SI(k:Int):(Pf.sig k=none/\∃r,pF k=some (r,false))\/∃d ty a b c r,Pf.sig k=some (d,ty,a,b,c)/\pF k=some (r,true)/\r.an9=d/\r.rf=ty/\r.ea=((a:Nat):Int)/\r.fM=((b:Nat):Int)/\r.an7=((c:Nat):Int):=by
 by_cases h:k<1\/20<k
 ·refine .inl ⟨PZ h,?_⟩;unfold pF;simp only[lJ,r9,gQ];rw[dI xL,dI xL,dI xL,dI xL,dI xL,dI xL,dI xL,dI xL,dI xL,dI xL,dI xL];exact⟨_,rfl⟩
 ·have f:k=1\/k=2\/k=3\/k=4\/k=5\/k=6\/k=7\/k=8\/k=9\/k=10\/k=11\/k=12\/k=13\/k=14\/k=15\/k=16\/k=17\/k=18\/k=19\/k=20:=xL
  refine .inr ?_;rcases f with rfl|rfl|rfl|rfl|rfl|rfl|rfl|rfl|rfl|rfl|rfl|rfl|rfl|rfl|rfl|rfl|rfl|rfl|rfl|rfl<;>exact⟨_,_,_,_,_,_,rfl,rfl,rfl,rfl,rfl,rfl,rfl⟩
def jz{k i:Int}{s:Ty}{j nf l:Nat}(h:Pf.node k i s j nf l=true){n ty:Bool}{a b c:Nat}(hs:Pf.sig k=some (n,ty,a,b,c)):(j:Int)=a/\(nf:Int)=b/\(l:Int)=c/\0<=i/\(n=false->i=0)/\(ty=true->s.err=0)/\(ty=false->s=.mk 0 []):=by
 unfold Pf.node at h;rw[hs] at h;simp only[gE,oz,r9] at h;obtain⟨⟨⟨⟨⟨t,u⟩,v⟩,o⟩,q⟩,d⟩:=h;refine⟨xL,xL,xL,o,λr=>q.resolve_left (by simp[r]),λf=>?_,λf=>?_⟩
 ·rw[dO f] at d;simpa using d
 ·rw[dI (by simp[f])] at d;exact(Ty.mO s).1 d
def Pf.w(p:Pf):p.ok=true->p.small=true->zG p:=by
 induction p using Pf.ind with
 |h k i s ts fs l ih=>
  intro B hs;rw[Pf.gR] at B;rw[Pf.zW] at hs;simp only[gE,kE] at B hs;obtain⟨⟨⟨q,C⟩,D⟩,G⟩:=B;obtain⟨⟨s1,s2⟩,H⟩:=hs;have y:∀t∈ts,t.err=0:=λt v=>Tm.ng (C t v) (by have:=s1 t v;simpa[Ww] using this)
  have A:∀f∈fs,f.err=0:=λf v=>by
   have:=s2 f v;simp only[VP,oz] at this;unfold Fm.err;rw[dO (D f v),dI xL]
  have o:∀x∈l,zG x:=λx v=>ih x v (G x v) (H x v);clear ih C D G s1 s2 H;have I:=ah0 (k:=k) (λhn=>by unfold Pf.node at q;rw[hn] at q;cases q);rcases I with rfl|rfl|rfl|rfl|rfl|rfl|rfl|rfl|rfl|rfl|rfl|rfl|rfl|rfl|rfl|rfl|rfl|rfl|rfl|rfl
  ·obtain⟨q1,c,d,r,j,u,n⟩:=jz q rfl;obtain rfl:=gj.1 q1;obtain rfl:=gj.1 c;obtain rfl:=gj.1 d;obtain rfl:=n rfl;exact .hyp r
  ·obtain⟨q1,c,d,r,j,u,n⟩:=jz q rfl;obtain rfl:=gj.1 q1;obtain rfl:=gj.1 c;obtain rfl:=gj.1 d;obtain rfl:=n rfl;exact .N8 r
  ·obtain⟨q1,c,d,r,j,u,n⟩:=jz q rfl;obtain rfl:=gj.1 q1;obtain rfl:=gj.1 c;obtain⟨a,b,rfl⟩:=pR d;obtain rfl:=j rfl;obtain rfl:=n rfl;exact .Qs (o a LA) (o b LA)
  ·obtain⟨q1,c,d,r,j,u,n⟩:=jz q rfl;obtain rfl:=gj.1 q1;obtain rfl:=gj.1 c;obtain⟨a,rfl⟩:=jr d;obtain rfl:=j rfl;obtain rfl:=n rfl;exact .and (.inl rfl) (o a LA)
  ·obtain⟨q1,c,d,r,j,u,n⟩:=jz q rfl;obtain rfl:=gj.1 q1;obtain rfl:=gj.1 c;obtain⟨a,rfl⟩:=jr d;obtain rfl:=j rfl;obtain rfl:=n rfl;exact .and (.inr rfl) (o a LA)
  ·obtain⟨q1,c,d,r,j,u,n⟩:=jz q rfl;obtain rfl:=gj.1 q1;obtain⟨F,rfl⟩:=jr c;obtain⟨a,rfl⟩:=jr d;obtain rfl:=j rfl;obtain rfl:=n rfl;exact .X3 (A F LA) (o a LA)
  ·obtain⟨q1,c,d,r,j,u,n⟩:=jz q rfl;obtain rfl:=gj.1 q1;obtain rfl:=gj.1 c;obtain⟨a,b,rfl⟩:=pR d;obtain rfl:=j rfl;obtain rfl:=n rfl;exact .XR (o a LA) (o b LA)
  ·obtain⟨q1,c,d,r,j,u,n⟩:=jz q rfl;obtain rfl:=gj.1 q1;obtain rfl:=gj.1 c;obtain⟨a,rfl⟩:=jr d;obtain rfl:=j rfl;exact .all (.inl rfl) (u rfl) (o a LA)
  ·obtain⟨q1,c,d,r,j,u,n⟩:=jz q rfl;obtain⟨t,rfl⟩:=jr q1;obtain rfl:=gj.1 c;obtain⟨a,rfl⟩:=jr d;obtain rfl:=j rfl;obtain rfl:=n rfl;exact .atE (.inl rfl) (y t LA) (o a LA)
  ·obtain⟨q1,c,d,r,j,u,n⟩:=jz q rfl;obtain⟨t,rfl⟩:=jr q1;obtain⟨F,rfl⟩:=jr c;obtain⟨a,rfl⟩:=jr d;obtain rfl:=j rfl;obtain rfl:=n rfl;exact .ex (.inl rfl) (y t LA) (A F LA) (o a LA)
  ·obtain⟨q1,c,d,r,j,u,n⟩:=jz q rfl;obtain rfl:=gj.1 q1;obtain rfl:=gj.1 c;obtain⟨a,b,rfl⟩:=pR d;obtain rfl:=j rfl;obtain rfl:=n rfl;exact .opn (.inl rfl) (o a LA) (o b LA)
  ·obtain⟨q1,c,d,r,j,u,n⟩:=jz q rfl;obtain rfl:=gj.1 q1;obtain rfl:=gj.1 c;obtain⟨a,rfl⟩:=jr d;obtain rfl:=j rfl;exact .all (.inr rfl) (u rfl) (o a LA)
  ·obtain⟨q1,c,d,r,j,u,n⟩:=jz q rfl;obtain⟨t,rfl⟩:=jr q1;obtain rfl:=gj.1 c;obtain⟨a,rfl⟩:=jr d;obtain rfl:=j rfl;obtain rfl:=n rfl;exact .atE (.inr rfl) (y t LA) (o a LA)
  ·obtain⟨q1,c,d,r,j,u,n⟩:=jz q rfl;obtain⟨t,rfl⟩:=jr q1;obtain⟨F,rfl⟩:=jr c;obtain⟨a,rfl⟩:=jr d;obtain rfl:=j rfl;obtain rfl:=n rfl;exact .ex (.inr rfl) (y t LA) (A F LA) (o a LA)
  ·obtain⟨q1,c,d,r,j,u,n⟩:=jz q rfl;obtain rfl:=gj.1 q1;obtain rfl:=gj.1 c;obtain⟨a,b,rfl⟩:=pR d;obtain rfl:=j rfl;obtain rfl:=n rfl;exact .opn (.inr rfl) (o a LA) (o b LA)
  ·obtain⟨q1,c,d,r,j,u,n⟩:=jz q rfl;obtain⟨t,rfl⟩:=jr q1;obtain⟨F,rfl⟩:=jr c;obtain⟨a,b,rfl⟩:=pR d;obtain rfl:=j rfl;obtain rfl:=n rfl;exact .ind (.inl rfl) (y t LA) (A F LA) (o a LA) (o b LA)
  ·obtain⟨q1,c,d,r,j,u,n⟩:=jz q rfl;obtain⟨t,rfl⟩:=jr q1;obtain⟨F,rfl⟩:=jr c;obtain⟨a,b,rfl⟩:=pR d;obtain rfl:=j rfl;obtain rfl:=n rfl;exact .ind (.inr rfl) (y t LA) (A F LA) (o a LA) (o b LA)
  ·obtain⟨q1,c,d,r,j,u,n⟩:=jz q rfl;obtain⟨t,rfl⟩:=jr q1;obtain rfl:=gj.1 c;obtain rfl:=gj.1 d;obtain rfl:=j rfl;obtain rfl:=n rfl;exact .refl (y t LA)
  ·obtain⟨q1,c,d,r,j,u,n⟩:=jz q rfl;obtain rfl:=gj.1 q1;obtain⟨F,rfl⟩:=jr c;obtain⟨a,b,rfl⟩:=pR d;obtain rfl:=j rfl;obtain rfl:=n rfl;exact .subst (A F LA) (o a LA) (o b LA)
  ·obtain⟨q1,c,d,r,j,u,n⟩:=jz q rfl;obtain rfl:=gj.1 q1;obtain rfl:=gj.1 c;obtain⟨a,rfl⟩:=jr d;obtain rfl:=j rfl;obtain rfl:=n rfl;exact .choice (o a LA)
structure TR (d d':dU) (s:Bool) (n:Nat):Prop where
 lo:d.an8<=d'.an8
 hi:d'.an8<=d.an8+n
 eq:s=true->d'.an8=d.an8+n
 iL:d'.iL=(d.iL||!s)
def TR.trans{d c a:dU}{s f:Bool}{n n':Nat}(h:TR d c s n)(b:TR c a f n'):TR d a (s&&f) (n+n'):=by
 refine⟨by have:=h.lo;have:=b.lo;omega,by have:=h.hi;have:=b.hi;omega,λhs=>?_,?_⟩
 ·rw[gE] at hs;have:=h.eq hs.1;have:=b.eq hs.2;omega
 ·rw[b.iL,h.iL,Bool.not_and,Bool.or_assoc]
def yu{α:Type}{F:Int->α->dU->Option (fV dU (Bool×dU))}(ok small:α->Bool)(sz:α->Nat):∀(l:List α) (i:Nat) (d:dU),0<=d.an8->d.an8+eb sz l<=4000000000->(∀(j:Int) (x:α) (d:dU),x∈l->0<=d.an8->d.an8+sz x<=4000000000->if ok x then∃a,F j x d=some (.next a)/\TR d a (small x) (sz x)else∃a,F j x d=some (.ret (false,a)))->if l.all ok then∃a,eV F l i d=some (.inl a)/\TR d a (l.all small) (eb sz l)else∃a,eV F l i d=some (.inr (false,a))
 |[],i,d,_,_,_=>⟨d,rfl,⟨xL,by simp[eb],λ_=>by simp[eb],LA⟩⟩|x::l,i,d,o,q,h=>by
  simp only[eb] at q;have b:=h i x d LA o xL;rw[Fu]
  by_cases c:ok x=true
  ·rw[dO c] at b;obtain⟨d1,f,k⟩:=b;have ih:=yu ok small sz l (i+1) d1 (by have:=k.lo;omega) (by have:=k.hi;omega) (λj y d r=>h j y d (by simp[r]));rw[fm,f];simp only[dF,fy,eb]
   by_cases n:l.all ok=true
   ·rw[dO n] at ih;obtain⟨d2,s,t⟩:=ih;rw[dO (by rw[gE];exact⟨c,n⟩)];exact⟨d2,s,k.trans t⟩
   ·grind
  ·rw[dI c] at b;obtain⟨d1,f⟩:=b;rw[dI (by rw[gE];exactλh=>c h.1),fm,f];exact⟨d1,rfl⟩
def LI{d:dU}{n e:Int}(a:-1000000000000<=d.an8+n)(b:d.an8+n<=1000000000000):hI d n e=some (eD e 2,⟨d.an8+n,d.iL||ee e 4⟩):=by
 unfold hI;rw[fW xL xL];cases d.iL<;>rfl
def Tm.EV(t:Tm):t.err=2/\t.ok=false\/t.ok=true/\Ww t=true/\t.err=0\/t.ok=true/\Ww t=false/\t.err=4:=by
 unfold Tm.err Ww;cases h:t.ok with
 |false=>grind|true=>grind
def Fm.EV(t:Fm):t.err=2/\t.ok=false\/t.ok=true/\VP t=true/\t.err=0\/t.ok=true/\VP t=false/\t.err=4:=by
 unfold Fm.err VP;cases h:t.ok with
 |false=>grind|true=>grind
def HW{sz:Nat}{e:Int}{ok small:Bool}(c:e=2/\ok=false\/ok=true/\small=true/\e=0\/ok=true/\small=false/\e=4)(hs:sz<=1000000000){d:dU}(f:0<=d.an8)(i:d.an8+sz<=4000000000):if ok then∃b,(dR (hI d (if e=0 then(sz:Int)else 0) e) λa d179=>if a then some (.next d179)else some ((.ret (false,d179)):fV dU (Bool×dU)))=some (.next b)/\TR d b small sz else∃b,(dR (hI d (if e=0 then(sz:Int)else 0) e) λa d179=>if a then some (.next d179)else some ((.ret (false,d179)):fV dU (Bool×dU)))=some (.ret (false,b)):=by
 rcases c with⟨rfl,rfl⟩|⟨rfl,rfl,rfl⟩|⟨rfl,rfl,rfl⟩
 ·exact⟨_,rfl⟩
 ·rw[dO rfl,dO rfl,LI xL xL,dN,dO Df];refine⟨_,rfl,⟨?_,?_,λ_=>rfl,?_⟩⟩
  all_goals grind[ee]
 ·rw[dO rfl,dI Df,LI xL xL,dN,dO Df];refine⟨_,rfl,⟨?_,?_,λh=>by(cases h),?_⟩⟩
  all_goals grind[ee]
def H0{h:Bool}{i a b c d nf f:Int}:e_ true (e_ (rA i 0) true (e_ (eD i 0) (e_ h (e_ (eD d a) true (e_ (eD nf b) true (eD f c))) true) (e_ (eD d a) true (e_ (eD nf b) true (eD f c))))) true=true↔¬(d=a/\nf=b/\f=c/\0<=i/\(h=true\/i=0)):=by
 grind[D4,lJ,eD,A2,rR]
def HM{d:Bool}{i a b c f nf h:Int}:e_ true (e_ (eD f a) true (e_ (eD nf b) true (e_ (eD h c) true (e_ (rA i 0) true (e_ d false (eD i 0)))))) true=true↔¬(f=a/\nf=b/\h=c/\0<=i/\(d=true\/i=0)):=by
 cases d with
 |true=>
  grind[D4,lJ,rR,er]
 |false=>grind[D4,A2,lJ,rR,er]
def WN(ty:Bool)(s:Ty):Bool:=if ty then decide (s.err=0)else s.rh
theorem Hq{k i:Int}{s:Ty}{d nf f:Nat}{h ty:Bool}{a b c:Nat}(hs:Pf.sig k=some (h,ty,a,b,c)):Pf.node k i s d nf f=true↔((d:Int)=a/\(nf:Int)=b/\(f:Int)=c/\0<=i/\(h=true\/i=0))/\WN ty s=true:=by
 grind[Pf.node,WN]
def TG(d:dU)(A s:Bool)(n:Nat)(o:Option (Bool×dU)):Prop:=(A=true->∃a,o=some (true,a)/\TR d a s n)/\(A=false->∃a,o=some (false,a))
theorem TG.no{d a:dU}{A s:Bool}{n:Nat}(h:A=false):TG d A s n (some (false,a)):=⟨λb=>(by rw[h] at b;cases b),λ_=>⟨a,rfl⟩⟩
def U1(n:Nat)(d:dU)(k i:Int)(s:Ty)(ts:List Tm)(fs:List Fm)(l:List Pf):iJ (n+1) d (.mk k i s ts fs l)=(dR (pg k) λf L=>
 if(e_ L (e_ (rA i 0) true (e_ (eD i 0) (e_ f.an9 (e_ (eD (ey ts) f.ea) true (e_ (eD (ey fs) f.fM) true (eD (ey l) f.an7))) true) (e_ (eD (ey ts) f.ea) true (e_ (eD (ey fs) f.fM) true (eD (ey l) f.an7))))) true) then(
 some (false,d))
 else(ec (λ(F:dU)=>
 gh (eM ts)<|ec (λ(M:Int) (G:Tm)=>(λ(a:dU)=>
 dR (kg G) λj o=>
 dR (hI a j o) λq d179=>
 if q then(
 some (.next d179))
 else(some (.ret (false,d179)))):Int->Tm->(dU)->(Option (fV (dU) (Bool×dU)))) λt=>
 dE (eV t ts 0 F) (fG (λ(a:dU)=>
 gh (eM fs)<|ec (λ(J:Int) (u:Fm)=>(λ(b:dU)=>
 dR (iU u) λv w=>
 dR (hI b v w) λx d322=>
 if x then(
 some (.next d322))
 else(some (.ret (false,d322)))):Int->Fm->(dU)->(Option (fV (dU) (Bool×dU)))) λy=>
 dE (eV y fs 0 a) (fG (λ(b:dU)=>
 gh (eM l)<|ec (λ(K:Int) (A:Pf)=>(λ(c:dU)=>
 dR (iJ n c A) λB h=>
 if B then(
 some (.next h))
 else(some (.ret (false,h)))):Int->Pf->(dU)->(Option (fV (dU) (Bool×dU)))) λC=>
 dE (eV C l 0 b) (fG (λ(c:dU)=>
 some (true,c)) (λr=>some r))) (λr=>some r))) (λr=>some r))) λD=>
 if f.typed then(
 dR (ja s) λN H=>
 if(eD H 0) then(
 some (false,(dU.mk (eL .i64 d.an8 1) d.iL)))
 else(D (dU.mk (eL .i64 d.an8 1) d.iL)))
 else(dE (od s) λI=>
 if I then(
 D (dU.mk (eL .i64 d.an8 1) d.iL))
 else(some (false,(dU.mk (eL .i64 d.an8 1) d.iL)))))):=by
 rw[iJ];rfl
def XG:∀(n:Nat) (P:Pf) (d:dU),P.wt<=n->P.wt<=1000000000->0<=d.an8->d.an8+P.an8<=4000000000->TG d P.ok P.small P.an8 (iJ n d P):=by
 intro n
 induction n with
 |zero=>intro P d h;have:=P.j2;omega
 |succ n ih=>
  intro P d hn hb h0 hd;cases P with
  |mk k i s ts fs l=>
   rw[Pf.jg] at hn hb;rw[Pf.dJ] at hd|-;have af:=iX Tm.wt ts λt _=>t.j2;have ah:=iX Fm.wt fs λt _=>t.j2;have ai:=iX Pf.wt l λt _=>t.j2;have m1:=kG (l:=ts) (λx _=>Tm.iA x);have m2:=kG (l:=fs) (λx _=>Fm.iA x);have m3:=kG (l:=l) (λx _=>Pf.iA x);rw[Pf.gR,Pf.zW,U1];rcases V9 k with⟨M,r,O⟩|⟨ix,ty,a,b,c,r,M,O,g1,g2,g3,g4,g5⟩
   ·rw[O,dN,A2,dO rfl];exact TG.no (by simp[Pf.node,M])
   ·rw[O,dN,g1,g2,g3,g4,g5,gB,gB,gB]
    by_cases N:(ts.length:Int)=a/\(fs.length:Int)=b/\(l.length:Int)=c/\0<=i/\(ix=true\/i=0)
    ·rw[dI (λh=>H0.1 h N)]
     have v:Pf.node k i s ts.length fs.length l.length=WN ty s:=by
      rw[Gr,Hq M];exact⟨λh=>h.2,λh=>⟨N,h⟩⟩
     rw[v];cases f:WN ty s with
     |false=>
      have e:∀j:dU->Option (Bool×dU),(if ty then dR (ja s) λak Q=>if(eD Q 0) then some (false,(dU.mk (eL .i64 d.an8 1) d.iL))else j (dU.mk (eL .i64 d.an8 1) d.iL)else dE (od s) λR=>if R then j (dU.mk (eL .i64 d.an8 1) d.iL)else some (false,(dU.mk (eL .i64 d.an8 1) d.iL)))=some (false,(dU.mk (eL .i64 d.an8 1) d.iL)):=by grind[WN,eD,er,lA,dN,rF,dF]
      refine uL (λ_=>False) (λ_ h=>h.elim) (λj _=>?_);rw[e j];exact TG.no LA
     |true=>
      refine uL (λd1=>d1.an8=d.an8+1/\d1.iL=d.iL) (λd1 o=>?_) (λj hj=>?_)
      ·have t1:=yu (F:=λ(an:Int) (S:Tm)=>(λ(w:dU)=>dR (kg S) λy A=>dR (hI w y A) λB d179=>if B then some (.next d179)else some (.ret (false,d179)))) Tm.ok Ww Tm.an8 ts 0 d1 xL xL (λj x d q q0 q1=>by
        have:=ew Tm.wt q;have:=x.iA;rw[rZ xL,dN]
        exact HW x.EV xL q0 q1)
       rw[ef xL,dY,d_];cases a1:ts.all Tm.ok with
       |false=>
        rw[a1,dI Df] at t1;obtain⟨d2,T⟩:=t1;rw[T,dF,pn];exact TG.no LA
       |true=>
        rw[a1,dO rfl] at t1;obtain⟨d2,T,U⟩:=t1;have u1:=U.lo;have u2:=U.hi;rw[T,dF,eo,ef xL,dY,d_]
        have t2:=yu (F:=λ(ad:Int) (C:Fm)=>(λ(D:dU)=>dR (iU C) λG H=>dR (hI D G H) λI d322=>if I then some (.next d322)else some (.ret (false,d322)))) Fm.ok VP Fm.an8 fs 0 d2 xL xL (λj x d q q0 q1=>by
         have:=ew Fm.wt q;have:=x.iA;rw[pN xL,dN]
         exact HW x.EV xL q0 q1)
        cases a2:fs.all Fm.ok with
        |false=>
         rw[a2,dI Df] at t2;obtain⟨d3,V⟩:=t2;rw[V,dF,pn];exact TG.no LA
        |true=>
         rw[a2,dO rfl] at t2;obtain⟨d3,V,W⟩:=t2;have u3:=W.lo;have u4:=W.hi;rw[V,dF,eo,ef xL,dY,d_]
         have t3:=yu (F:=λ(ae:Int) (J:Pf)=>(λ(K:dU)=>dR (iJ n K J) λL u=>if L then some (.next u)else some (.ret (false,u)))) Pf.ok Pf.small Pf.an8 l 0 d3 xL xL (λj x d q q0 q1=>by
          have:=ew Pf.wt q;have:=ew Pf.an8 q;have:=x.iA;have q:=ih x d xL xL q0 xL;cases ho:x.ok with
          |true=>
           obtain⟨X,Y,w2⟩:=q.1 ho;rw[dO rfl,Y,dN,dO rfl];exact⟨X,rfl,w2⟩
          |false=>
           obtain⟨X,Y⟩:=q.2 ho;rw[dI Df,Y,dN,dI Df]
           exact⟨X,rfl⟩)
         cases a3:l.all Pf.ok with
         |false=>
          rw[a3,dI Df] at t3;obtain⟨d4,Z⟩:=t3;rw[Z,dF,pn];exact TG.no LA
         |true=>
          rw[a3,dO rfl] at t3;obtain⟨d4,Z,r4⟩:=t3;rw[Z,dF,eo];refine⟨λ_=>⟨d4,rfl,?_⟩,λh=>by simp at h⟩;have r0:TR d d1 true 1:=⟨xL,xL,λ_=>by omega,by simp[o.2]⟩;have:=((r0.trans U).trans W).trans r4;rw[Cp] at this;exact this
      ·have o:=hj (dU.mk (eL .i64 d.an8 1) d.iL) ⟨by show eL .i64 d.an8 1=_;rw[fW xL xL],rfl⟩;unfold WN at f
       by_cases ht:ty=true
       ·rw[dO ht] at f|-
        have hz:¬eD s.err 0=true:=by rw[er];simpa using f
        rw[lA xL,dN,dI hz];exact o
       ·rw[dI ht] at f|-;rw[rF,dF,f,dO rfl];exact o
    ·rw[dO (H0.2 N)];refine TG.no ?_
     have:Pf.node k i s ts.length fs.length l.length=false:=by
      rw[ab6]
      exactλh=>N ((Hq M).1 h).1
     rw[this];simp
def Aa{P:Pf}(h:P.wt<=1000000000):qY P=some P.err:=by
 have hn:=P.iA;have b:=XG FU P (dU.mk 0 false) (by rw[fI];omega) h (by show(0:Int)<=0;omega) (by show(0:Int)+_<=_;omega);unfold qY qG Pf.err;cases c:P.ok with
 |false=>
  obtain⟨a,e⟩:=b.2 c
  grind[dN]
 |true=>
  obtain⟨a,e,r⟩:=b.1 c;rw[e,dN,dO rfl,dO rfl];have d:a.iL=!P.small:=r.iL;rw[d,lJ];cases hs:P.small with
  |false=>grind[dN]|true=>
   have f:a.an8=(0:Int)+P.an8:=r.eq hs
   grind[iw,dN]
def Wk(n:Nat)(k i:Int)(s:Ty)(ts:List Tm)(fs:List Fm)(l:List Pf):n_ (n+1) (.mk k i s ts fs l)=(dR (pF k) λb A=>
 if(e_ A (e_ (eD (ey ts) b.ea) true (e_ (eD (ey fs) b.fM) true (e_ (eD (ey l) b.an7) true (e_ (rA i 0) true (e_ b.an9 false (eD i 0)))))) true) then(
 some false)
 else(ec (λ(o:Bool)=>
 if o then(
 some false)
 else(gh (eM ts)<|ec (λ(B:Int) (q:Tm)=>(λ(_:Unit)=>
 dE (kx FU q) λt=>
 if t then(
 some (.next ()))
 else(some (.ret false))):Int->Tm->(Unit)->(Option (fV (Unit) (Bool)))) λu=>
 dE (eV u ts 0 ()) (fG (λ(_:Unit)=>
 gh (eM fs)<|ec (λ(C:Int) (v:Fm)=>(λ(_:Unit)=>
 dE (mf FU v) λc=>
 if c then(
 some (.next ()))
 else(some (.ret false))):Int->Fm->(Unit)->(Option (fV (Unit) (Bool)))) λd=>
 dE (eV d fs 0 ()) (fG (λ(_:Unit)=>
 gh (eM l)<|ec (λ(y:Int) (f:Pf)=>(λ(_:Unit)=>
 dE (n_ n f) λh=>
 if h then(
 some (.next ()))
 else(some (.ret false))):Int->Pf->(Unit)->(Option (fV (Unit) (Bool)))) λj=>
 dE (eV j l 0 ()) (fG (λ(_:Unit)=>
 some true) (λr=>some r))) (λr=>some r))) (λr=>some r)))) λa=>
 if b.rf then(
 dE (ib s) λw=>
 if(eD w 0) then(
 a true)
 else(a false))
 else(dE (pc s) λx=>
 a (m6 x)))):=by
 rw[n_];rfl
def Ij:∀(n:Nat) (P:Pf),P.wt<=n->P.wt<=1000000000->n_ n P=some P.ok:=by
 intro n
 induction n with
 |zero=>intro P h;have:=P.j2;omega
 |succ n ih=>
  intro P hn B;cases P with
  |mk k i s ts fs l=>
   rw[Pf.jg] at hn B;have C:=iX Tm.wt ts λt _=>t.j2;have D:=iX Fm.wt fs λt _=>t.j2;have F:=iX Pf.wt l λt _=>t.j2;rw[Pf.gR,Wk];rcases SI k with⟨w,r,y⟩|⟨H,ty,a,b,c,r,w,y,g1,g2,g3,g4,g5⟩
   ·rw[y,dN,A2,dO rfl];simp[Pf.node,w]
   ·rw[y,dN,g1,g2,g3,g4,g5,gB,gB,gB]
    by_cases A:(ts.length:Int)=a/\(fs.length:Int)=b/\(l.length:Int)=c/\0<=i/\(H=true\/i=0)
    ·rw[dI (λh=>HM.1 h A)]
     have f:Pf.node k i s ts.length fs.length l.length=WN ty s:=by
      rw[Gr,Hq w];exact⟨λh=>h.2,λh=>⟨A,h⟩⟩
     rw[f];refine uL (G:=λo=>o=some (WN ty s&&ts.all Tm.ok&&fs.all Fm.ok&&l.all Pf.ok)) (λv=>v=!WN ty s) (λv I=>?_) (λj J=>?_)
     ·rw[I];cases WN ty s with
      |false=>rfl|true=>
       rw[dI Df,ef xL,dY,d_,qK Tm.ok false ts 0 (λj x u=>by
        have:=ew Tm.wt u
        rw[xY xL,dF]),Cp]
       cases ts.all Tm.ok with
       |false=>rfl|true=>
        rw[dO rfl,dF,eo,ef xL,dY,d_,qK Fm.ok false fs 0 (λj x u=>by
         have:=ew Fm.wt u
         rw[zQ FU x (by rw[fI];omega) xL,dF]),Cp]
        cases fs.all Fm.ok with
        |false=>rfl|true=>
         rw[dO rfl,dF,eo,ef xL,dY,d_,qK Pf.ok false l 0 (λj x u=>by
          have:=ew Pf.wt u
          rw[ih x xL xL,dF]),Cp]
         cases l.all Pf.ok with
         |false=>rfl|true=>rfl
     ·have d:=J (!WN ty s) rfl;unfold WN at d|-
      by_cases q:ty=true
      ·rw[dO q] at d;rw[dO q,dO q,mm xL,dF]
       grind[eD,er]
      ·rw[dI q] at d;rw[dI q,dI q,w_,dF,UF];exact d
    ·rw[dO (HM.2 A)]
     grind[Pf.node,Hq]
def Ia:∀(n:Nat) (P:Pf),P.wt<=n->P.wt<=1000000000->rv n P=some P.small:=by
 intro n
 induction n with
 |zero=>intro P h;have:=P.j2;omega
 |succ n ih=>
  intro P hn b;cases P with
  |mk k i s ts fs l=>
   rw[Pf.jg] at hn b;have c:=iX Tm.wt ts λt _=>t.j2;have d:=iX Fm.wt fs λt _=>t.j2;have f:=iX Pf.wt l λt _=>t.j2;rw[Pf.zW,rv];simp only[Pf.h8,Pf.Px,Pf.ez,d_]
   rw[ef xL,dY,qK Ww false ts 0 (λj x a=>by
    have:=ew Tm.wt a;have:=x.iA;rw[nR FU x (by rw[fI];omega) xL,dF]
    by_cases hs:x.an8<=4096
    ·grind[iw,Ww]
    ·rw[dO (by rw[iw];omega),dI (by simpa[Ww] using hs)])]
   cases ts.all Ww with
   |false=>rfl|true=>
    rw[dO rfl,dF,eo,ef xL,dY,qK VP false fs 0 (λj x a=>by
     have:=ew Fm.wt a;have:=x.iA;rw[rD FU x (by rw[fI];omega) xL,dF]
     by_cases hs:x.an8<=4096
     ·rw[dI (by rw[iw];omega),dO (show VP x=true from xe hs)]
     ·rw[dO (by rw[iw];omega),dI (by simpa[VP] using hs)]),Cp]
    cases fs.all VP with
    |false=>rfl|true=>
     rw[dO rfl,dF,eo,ef xL,dY,qK Pf.small false l 0 (λj x a=>by
      have:=ew Pf.wt a
      rw[ih x xL xL,dF]),Cp]
     cases l.all Pf.small with
     |false=>rfl|true=>rfl
theorem Ii:∀(n:Nat) (P:Pf),P.wt<=n->P.wt<=1000000000->qZ n P=some (P.an8:Int):=by
 intro n
 induction n with
 |zero=>intro P h;have:=P.j2;omega
 |succ n ih=>
  intro P hn b;cases P with
  |mk k i s ts fs l=>
   rw[Pf.jg] at hn b;have c:=iX Tm.wt ts λt _=>t.j2;have d:=iX Fm.wt fs λt _=>t.j2;have f:=iX Pf.wt l λt _=>t.j2;have o:=kG (l:=ts) (λx _=>Tm.iA x);have q:=kG (l:=fs) (λx _=>Fm.iA x);have r:=kG (l:=l) (λx _=>Pf.iA x);rw[Pf.dJ,qZ];simp only[Pf.h8,Pf.Px,Pf.ez,d_]
   rw[ef xL,dY,show(1:Int)=((1:Nat):Int)from rfl,po Tm.an8 ts 0 1 xL (λj x v a=>by
    have:=ew Tm.wt a;have:=x.iA
    rw[nR FU x (by rw[fI];omega) xL,dF]),dF,eo,ef xL,dY,po Fm.an8 fs 0 _ xL (λj x v a=>by
    have:=ew Fm.wt a;have:=x.iA
    rw[rD FU x (by rw[fI];omega) xL,dF]),dF,eo,ef xL,dY,po Pf.an8 l 0 _ xL (λj x v a=>by
    have:=ew Pf.wt a
    rw[ih x xL xL,dF]),dF,eo]
def Ji{P:Pf}(h:P.wt<=1000000000):tg P=some P.err:=by
 unfold tg yI Pf.err;rw[Ij FU P (by rw[fI];omega) h,dF];cases P.ok with
 |false=>rfl|true=>
  rw[dO rfl,dO rfl,d_,Ia FU P (by rw[fI];omega) h,dF];cases P.small with
  |false=>rfl|true=>grind[Ii,FU,fI,dF,abR]
def Pf.akB{P:Pf}(h:P.err=0):zG P/\P.an8<=16384:=by
 unfold Pf.err at h;cases b:P.ok with
 |false=>grind|true=>
  by_cases a:P.small=true/\P.an8<=16384
  ·exact⟨P.w b a.1,a.2⟩
  ·grind
def Pt:∀(n:Nat) (t:Tm),t.an8<=n->t.an8<=50000000->t.ok=true->xJ n t=some t:=by
 intro n
 induction n with
 |zero=>intro t h;have:=t.eE;omega
 |succ n ih=>
  intro t hn c a;cases t with
  |mk k i s l=>
   rw[Tm.dJ] at hn c;have o:=Tm.fF l;have hi:=Tm.pe a;rw[Tm.gR,gE] at a;have d:=Ty.B2 a.1;rw[xJ];simp only[Tm.eF,Tm.hB,Tm.fw,Tm.ez,d_]
   rw[sZ xL,dF,ef xL,dY,jX id l 0 [] Xw (λj x v b f=>by
    have:=ew Tm.an8 b
    rw[ih x xL xL (hi.2.2.2.1 x b),dF,fR (by simpa using f),dY,jn];rfl)]
   simp
def Fm.afN:∀(f:Fm) (b:Int),f.Hm (λt _=>t) b=f:=by
 intro f
 induction f using Fm.ind with
 |h k s ts l ih=>
  intro b;rw[Fm.zZ,uy (g:=id) (λx a=>ih x a _)];simp
def B9{f:Fm}(h:f.err=0)(c:f.aoa 1000000000000=true):oI f=some f:=by
 obtain⟨d,hn⟩:=Fm.hD h;unfold oI;rw[oq (h:=λi j=>mV i j) (ψ:=λt _=>t) (λt b a _ _=>?_) FU f 0 (by rw[fI];omega) xL d c xL xL]
 ·rw[dN,Fm.afN]
 ·have:=a.an8;unfold mV;rw[Pt FU t (by rw[fI];omega) a.an8 a.ok];rfl
noncomputable def MS (L:List Fm) (q:Sq):Int:=if 32<L.length then 3 else if ft (L.map λf=>Hi f [])≠0 then ft (L.map λf=>Hi f [])else if wY q.an_≠0 then wY q.an_ else if 16<q.aob.length then 3 else ft (q.aob.map λf=>Hi f q.an_)
structure SqB (L:List Fm) (q:Sq):Prop where
 N8:∀f∈L,f.wt<=1000000000
 tys:∀t∈q.an_,t.an8<=1000000000
 tyl:q.an_.length<=1000000
 aob:∀f∈q.aob,f.wt<=1000000000
def Ib{e:Int}:(dE (some e) λa=>if(eD a 0) then some (.ret a)else some ((.next ()):fV Unit Int))=if e≠0 then some (.ret e)else some (.next ()):=by
 rw[dF]
 by_cases h:e=0
 ·subst h;rfl
 ·rw[dO (by rw[er];exact h),dO h]
def abh{C:List Ty->Option Int}{T:List Ty->Fm->Option Int}{L:List Fm}{q:Sq}(u:C q.an_=some (wY q.an_))(v:∀f∈L,T [] f=some (Hi f []))(w:∀f∈q.aob,T q.an_ f=some (Hi f q.an_)):(if(oC (ey L) 32) then some 3 else gh (eM L)<|ec (λ(y:Int) (i:Fm)=>(λ(_:Unit)=>dE (T [] i) λa=>if(eD a 0) then some (.ret a)else some ((.next ()):fV Unit Int))) λk=>
   dE (eV k L 0 ()) (fG (λ(_:Unit)=>dE (C q.an_) λb=>if(eD b 0) then some b else if(oC (ey q.aob) 16) then some 3 else gh (eM q.aob)<|ec (λ(A:Int) (l:Fm)=>(λ(_:Unit)=>dE (T q.an_ l) λc=>if(eD c 0) then some (.ret c)else some ((.next ()):fV Unit Int))) λn=>
    dE (eV n q.aob 0 ()) (fG (λ(_:Unit)=>some 0) (λr=>some r))) (λr=>some r)))=some (MS L q):=by
 unfold MS;rw[gB]
 by_cases s:32<L.length
 ·rw[dO (by rw[iw];omega),dO s]
 ·have B:¬oC (L.length:Int) 32=true:=by rw[iw];omega
  rw[dI B,dI s,ef xL,dY,d_];rw[mC (λf=>Hi f []) L 0 (λj x o=>by rw[v x o];exact Ib)]
  by_cases d:ft (L.map λf=>Hi f [])=0
  ·rw[dO d,dI (show¬(ft (L.map λf=>Hi f [])≠0)fromλh=>h d),dF,eo,u,dF]
   by_cases c3:wY q.an_=0
   ·have z2:¬eD (wY q.an_) 0=true:=by rw[er];simpa using c3
    rw[dI z2,dI (show¬(wY q.an_≠0)fromλh=>h c3),gB]
    by_cases t:16<q.aob.length
    ·rw[dO (by rw[iw];omega),dO t]
    ·have z3:¬oC (q.aob.length:Int) 16=true:=by rw[iw];omega
     rw[dI z3,dI t,ef xL,dY,d_];rw[mC (λf=>Hi f q.an_) q.aob 0 (λj x o=>by rw[w x o];exact Ib)]
     by_cases c5:ft (q.aob.map λf=>Hi f q.an_)=0
     ·rw[dO c5,c5];rfl
     ·rw[dI c5];rfl
   ·have z2:eD (wY q.an_) 0=true:=by rw[er];exact c3
    rw[dO z2,dO c3]
  ·rw[dI d,dO d];rfl
def MQ{L:List Fm}{q:Sq}(h:SqB L q):sY L q=some (MS L q):=by
 have a:∀t∈([]:List Ty),t.an8<=1000000000:=λt c=>by simp at c
 exact abh (C:=l6) (T:=jq) (sS q.an_ h.tyl h.tys) (λx b=>rO (h.N8 x b) LA a) (λx b=>rO (h.aob x b) h.tyl h.tys)
def Ap:∀{l:List Int},(∀e∈l,e=0)->ft l=0
 |[],_=>rfl|a::l,h=>by
  rw[ft,dO (h a LA)];exact Ap λe he=>h e (by simp[he])
def zI:∀{l:List Int},ft l=0->∀e∈l,e=0
 |[],_,e,he=>by simp at he
 |a::l,h,e,he=>by
  rw[ft] at h
  by_cases b:a=0
  ·rw[dO b] at h;rcases lX.1 he with rfl|he
   ·exact b
   ·exact zI h e he
  ·rw[dI b] at h;exact absurd h b
def Z1{f:Fm}{g:List Ty}(h:Hi f g=0):Hg g f:=by
 unfold Hi at h
 by_cases b:wY g=0
 ·rw[dI (λh=>h b)] at h
  by_cases a:f.err=0
  ·rw[dI (λh=>h a)] at h;exact⟨a,rb f (Fm.hD a).1 g (iz.of b).1 h⟩
  ·rw[dO a] at h;exact absurd h a
 ·rw[dO b] at h;exact absurd h b
structure Ev (L:List Fm) (q:Sq):Prop where
 ln:L.length<=32
 N8:∀f∈L,Hg [] f
 ctx:iz q.an_
 nv:q.an_.length<=16
 nh:q.aob.length<=16
 aob:∀f∈q.aob,Hg q.an_ f
def U_{L:List Fm}{q:Sq}(h:MS L q=0):Ev L q:=by
 unfold MS at h
 by_cases d:32<L.length
 ·rw[dO d] at h;cases h
 ·rw[dI d] at h
  by_cases a:ft (L.map λf=>Hi f [])=0
  ·rw[dI (λh=>h a)] at h
   by_cases b:wY q.an_=0
   ·rw[dI (λh=>h b)] at h
    by_cases i:16<q.aob.length
    ·rw[dO i] at h;cases h
    ·rw[dI i] at h;obtain⟨j,k⟩:=iz.of b;exact⟨xL,λf c=>Z1 (zI a _ (qq.2 ⟨f,c,rfl⟩)),j,k,xL,λf c=>Z1 (zI h _ (qq.2 ⟨f,c,rfl⟩))⟩
   ·rw[dO b] at h;exact absurd h b
  ·rw[dO a] at h;exact absurd h a
def Ev.zero{L:List Fm}{q:Sq}(h:Ev L q):MS L q=0:=by
 have c:∀{g:List Ty} {f:Fm},iz g->g.length<=16->Hg g f->Hi f g=0:=λhg b a=>by
  unfold Hi;rw[AT hg b,dI Df,dI (λh=>h a.err)];exact om a.ty hg (by have:=a.an8;omega)
 have d:ft (L.map λf=>Hi f [])=0:=Ap λe he=>by
  obtain⟨f,a,rfl⟩:=qq.1 he;exact c (λ_ h=>by simp at h) LA (h.N8 f a)
 have i:ft (q.aob.map λf=>Hi f q.an_)=0:=Ap λe he=>by
  obtain⟨f,a,rfl⟩:=qq.1 he;exact c h.ctx h.nv (h.aob f a)
 unfold MS;have:=h.ln;have:=h.nh;rw[dI xL,d,dI Df,AT h.ctx h.nv,dI Df,dI xL,i]
def Pf.Ue:∀(l:List Pf),(∀x∈l,x.zt<=x.an8)->Pf.wh l<=eb Pf.an8 l
 |[],_=>by simp[Pf.wh]|a::l,ih=>by
  have c:=ih a LA;have d:=Pf.Ue l (λx b=>ih x (by simp[b]));simp only[Pf.wh,eb];omega
def Pf.VH(p:Pf):p.zt<=p.an8:=by
 induction p using Pf.ind with
 |h k i s ts fs l ih=>
  rw[Pf.dJ,Pf.zt];have:=Pf.Ue l ih;omega
noncomputable def RX (L:List Fm) (q:Sq) (P:Pf):PR:=kc (MS L q) (kc P.err (P.inf L q.an_ q.aob))
def CK{L:List Fm}{q:Sq}{P:Pf}(h:SqB L q)(j:P.wt<=1000000000):(∃e,e≠0/\RX L q P=.inr e/\kr L q P=some (⟨jF,[]⟩,e))\/∃(f:Fm) (m:Nat) (l:List Int),RX L q P=.inl (f,m)/\kr L q P=some (⟨f,l⟩,0)/\Us l m/\Hg q.an_ f/\Ev L q/\P.err=0:=by
 unfold kr RX;rw[MQ h,dF]
 by_cases b:MS L q=0
 ·have a:=U_ b;rw[b,dI nz,gr rfl,Ji j,dF]
  by_cases c:P.err=0
  ·obtain⟨hw,hn⟩:=Pf.akB c;have k:=P.VH;rw[c,dI nz,gr rfl];rcases YX hw FU (by rw[fI];omega) (dM.mk L q.an_ q.aob) ⟨⟨a.ctx,a.nv,a.nh⟩,rfl,a.N8,a.aob⟩with⟨e,he,q1,i⟩|⟨f,m,l,q1,i,hu,d⟩
   ·rw[i,dN,dO (by rw[er];exact he)];exact .inl ⟨e,he,q1,rfl⟩
   ·have d:Hg q.an_ f:=d;have n:=hu.len;have o:=f.iD d.ok;have r:=d.an8;rw[i,dN,dI nz];simp only[];rw[tm xL,dF,fR Xw,dY,jn,p5];exact .inr ⟨f,m,l,q1,rfl,hu,d,a,by trivial⟩
  ·rw[dO (by rw[er];exact c),iZ c];exact .inl ⟨_,c,rfl,rfl⟩
 ·rw[dO (by rw[er];exact b),iZ b];exact .inl ⟨_,b,rfl,rfl⟩
def Ev.below{L:List Fm}{q:Sq}(h:Ev L q){l:List Ty}(b:iz l)(hn:q.an_.length+l.length<=16):Ev L ⟨q.an_++l,q.aob.map (Fm.up 0 l.length)⟩:=by
 refine⟨h.ln,h.N8,h.ctx.append b,by simpa using hn,by simpa using h.nh,λf c=>?_⟩;obtain⟨f0,a,rfl⟩:=qq.1 c;exact(h.aob f0 a).up l
def Ev.with{L:List Fm}{q:Sq}(h:Ev L q){f:Fm}(a:Hg q.an_ f)(hn:q.aob.length+1<=16):Ev L ⟨q.an_,q.aob++[f]⟩:=by
 refine⟨h.ln,h.N8,h.ctx,h.nv,by simpa using hn,λx hx=>?_⟩;rcases tp.1 hx with hx|hx
 ·exact h.aob x hx
 ·rw[EU.1 hx];exact a
def Hg.wt{g:List Ty}{f:Fm}(h:Hg g f):f.wt<=266240:=by
 have:=f.iD h.ok;have:=h.an8;omega
def Ev.b{L:List Fm}{q:Sq}(h:Ev L q):SqB L q:=by
 refine⟨λf a=>by have:=(h.N8 f a).wt;omega,λt c=>by have:=e8 (h.ctx t c);omega,by have:=h.nv;omega,λf a=>by have:=(h.aob f a).wt;omega⟩
def dQ.lift{g:List Ty}{x:Tm}{t:Ty}(h:dQ g x t)(e:List Ty):dQ (g++e) (x.up 0 e.length) t:=by
 have:=h.up g [] e LA
 grind
def Fm.ng{f:Fm}(h:f.ok=true)(hn:f.an8<=4096):f.err=0:=by
 unfold Fm.err;rw[dO h,dI xL]
theorem la{P:Pf}(h:P.err=0):P.ok=true/\P.small=true/\P.an8<=16384:=by
 unfold Pf.err at h;cases b:P.ok with
 |false=>rw[b] at h;cases h
 |true=>
  rw[b,dO rfl] at h
  by_cases a:P.small=true/\P.an8<=16384
  ·exact⟨rfl,a.1,a.2⟩
  ·rw[dI a] at h;cases h
def Hs{L:List Fm}{q:Sq}(h:Ev L q){P:Pf}(a:P.err=0):RX L q P=P.inf L q.an_ q.aob:=by
 unfold RX;rw[gr h.zero,gr a]
def Mb{f:Fm}{m:Nat}(h:f.err=0):vA (.inl (f,m))=.inl (f,if f.has then m else 0):=by
 unfold vA;rw[fS,dO h]
theorem UG{f:Fm}{m:Nat}(h:f.err≠0):vA (.inl (f,m))=.inr 4:=by
 unfold vA;rw[fS,dI h]
@[simp] theorem akW(e:Int):vA (.inr e)=.inr e:=rfl
def al_:Ev [] ⟨[],[]⟩:=⟨LA,λf h=>by simp at h,λs h=>by simp at h,LA,LA,λf h=>by simp at h⟩
noncomputable def tW (a b:Tm):Int:=@ite Int (a=b) (Classical.propDecidable _) 0 (if(a.norm 1000 0).2.2≠0 then(a.norm 1000 0).2.2 else if(b.norm 1000 0).2.2≠0 then(b.norm 1000 0).2.2 else@ite Int ((a.norm 1000 0).1=(b.norm 1000 0).1) (Classical.propDecidable _) 0 11)
def LB(a:Tm):tW a a=0:=dO rfl
def Uf{a b:Tm}(h:a≠b):tW a b=if(a.norm 1000 0).2.2≠0 then(a.norm 1000 0).2.2 else if(b.norm 1000 0).2.2≠0 then(b.norm 1000 0).2.2 else@ite Int ((a.norm 1000 0).1=(b.norm 1000 0).1) (Classical.propDecidable _) 0 11:=dI h
def Nm.ab'{a:Tm}(h:Nm a)(b:(a.norm 1000 0).2.2=0):(a.norm 1000 0).1.ok=true/\(a.norm 1000 0).1.an8<=4096:=by
 obtain⟨p,n,e,c⟩:∃p n e,a.norm 1000 0=(p,n,e):=⟨_,_,_,rfl⟩;rw[c] at b|-;have b:e=0:=b;subst b;have:=Hj 1000 536870912 0 a p n xL (Sm.start h.err h.aoa) (mj h.err).2 c;exact⟨this.1.ok,this.2⟩
def Jr{a b:Tm}(f:Nm a)(i:Nm b):mb a b 1000=some (tW a b):=by
 have x:=a.iD (mj f.err).1;have y:=b.iD (mj i.err).1;have A:=(mj f.err).2;have B:=(mj i.err).2;unfold mb;rw[k4 xL,f.err,dF,dI nz,k4 xL,i.err,dF,dI nz];obtain⟨r,u,o⟩:=w7 FU a b (by rw[fI];omega) xL;rw[u,dF]
 by_cases c:a=b
 ·rw[dO (o.2 c),c,LB]
 ·rw[dI (λh=>c (o.1 h)),Uf c,f.one,i.one];obtain⟨p,n,e,v⟩:∃p n e,a.norm 1000 0=(p,n,e):=⟨_,_,_,rfl⟩;obtain⟨s,n',w,l⟩:∃p n e,b.norm 1000 0=(p,n,e):=⟨_,_,_,rfl⟩;have j:=f.ab';rw[v] at j|-;rw[l,lS];simp only[] at j|-
  by_cases he:e=0
  ·subst he;rw[dI nz,dI Df,lS]
   by_cases d:w=0
   ·subst d;rw[dI nz,dI Df];have C:=p.iD (j rfl).1;have D:=(j rfl).2;obtain⟨q,q1,t⟩:=w7 FU p s (by rw[fI];omega) xL;rw[q1,dF]
    by_cases k:p=s
    ·rw[dO (t.2 k),dO k]
    ·rw[dI (λh=>k (t.1 h)),dI k]
   ·rw[dO (by rw[er];exact d),dO d]
  ·rw[dO (by rw[er];exact he),dO he]
mutual
noncomputable def Fm.Eu:Fm->Fm->Int
 |.mk k s ts l,b=>if k≠b.an6\/s.kX b.dL=false then 11 else if ft (List.zipWith tW ts b.ea)≠0 then ft (List.zipWith tW ts b.ea)else ft (Fm.WC l b.an7)
noncomputable def Fm.WC:List Fm->List Fm->List Int
 |a::l,b::m=>a.Eu b::Fm.WC l m|_,_=>[]
end
def Fm.TH:∀(l m:List Fm),Fm.WC l m=List.zipWith Fm.Eu l m
 |[],m=>by rw[Fm.WC];rfl;intros;simp_all|a::l,[]=>by rw[Fm.WC];rfl;intros;simp_all|a::l,b::m=>by rw[Fm.WC,Fm.TH l m];rfl
def Fm.MY(k k':Int)(s b:Ty)(ts a:List Tm)(l c:List Fm):(Fm.mk k s ts l).Eu (.mk k' b a c)=if k≠k'\/s.kX b=false then 11 else if ft (List.zipWith tW ts a)≠0 then ft (List.zipWith tW ts a)else ft (List.zipWith Fm.Eu l c):=by rw[Fm.Eu,Fm.TH];rfl
def Ic{α:Type}{E:α->α->Option Int}{e:α->α->Int}{M:List α}:∀(l:List α) (i:Nat),l.length+i=M.length->(∀x∈l,∀y∈M,E x y=some (e x y))->eV (λ(d:Int) (f:α)=>(λ(_:Unit)=>dE (dX M d) λb=>dE (E f b) λa=>if(eD a 0) then(some (.ret a))else(some ((.next ()):fV Unit Int)))) l i ()=some (if ft (List.zipWith e l (M.drop i))=0 then .inl ()else .inr (ft (List.zipWith e l (M.drop i))))
 |[],i,_,_=>by simp[ft]|x::l,i,n,h=>by
  simp only[oZ] at n
  have hi:i<M.length:=xL
  have ih:=Ic (E:=E) (e:=e) (M:=M) l (i+1) xL (λy o=>h y (by simp[o]));have q:M.drop i=M[i]::M.drop (i+1):=(M5 hi)
  have r:List.zipWith e (x::l) (M.drop i)=e x M[i]::List.zipWith e l (M.drop (i+1)):=by rw[q];rfl
  rw[r,fm,jR,qp hi,dF,h x LA _ (D9 hi),dF]
  by_cases c:e x M[i]=0
  ·have j:¬eD (e x M[i]) 0=true:=by rw[er];simpa using c
   have k:ft (e x M[i]::List.zipWith e l (M.drop (i+1)))=ft (List.zipWith e l (M.drop (i+1))):=by rw[ft,dO c]
   rw[dI j,dF,fy,k];exact ih
  ·have j:eD (e x M[i]) 0=true:=by rw[er];exact c
   have k:ft (e x M[i]::List.zipWith e l (M.drop (i+1)))=e x M[i]:=by rw[ft,dI c]
   rw[dO j,dF,Dq,k,dI c]
def Jl:∀(n:Nat) (a b:Fm),a.an8<=n->a.an8<=4096->b.an8<=4096->a.ok=true->b.ok=true->Xe a->Xe b->k9 n a b=some (a.Eu b):=by
 intro n
 induction n with
 |zero=>intro a b h;have:=a.eE;omega
 |succ n ih=>
  intro a b hn F H T U X Y;cases a with
  |mk k s ts l=>
  cases b with
  |mk k' B c I=>
   cases X with
   |mk J K=>
   cases Y with
   |mk L M=>
   rw[Fm.dJ] at hn F H;obtain⟨a1,a2,a3⟩:=Fm.qt T;obtain⟨b1,b2,Z⟩:=Fm.qt U;have l1:=Tm.fF ts;have l2:=Fm.fF l;rw[k9,Fm.MY];refine uL (G:=λo=>o=some (if k≠k'\/s.kX B=false then 11 else if ft (List.zipWith tW ts c)≠0 then ft (List.zipWith tW ts c)else ft (List.zipWith Fm.Eu l I))) (λv=>v=true↔(k≠k'\/s.kX B=false)) (λv V=>?_) (λj W=>?_)
   ·by_cases i:k≠k'\/s.kX B=false
    ·rw[dO (V.2 i),dO i]
    ·rw[dI (λh=>i (V.1 h)),dI i];have N:k=k':=aha λh=>i (.inl h);subst N;obtain⟨e1,e2⟩:=Fm.shape T U;show(gh (eM ts) _:Option Int)=_;rw[ef xL,dY,d_];show dE (eV (λ(O:Int) (P:Tm)=>(λ(_:Unit)=>dE (dX c O) λq=>dE (mb P q 1000) λd=>if(eD d 0) then(some (.ret d))else(some ((.next ()):fV Unit Int)))) ts 0 ()) _=_;rw[Ic (E:=λx y=>mb x y 1000) (e:=tW) ts 0 xL (λx r y t=>Jr (J x r) (L y t)),List.drop_zero]
     by_cases C:ft (List.zipWith tW ts c)=0
     ·rw[dO C,dF,eo,dI (λh=>h C)];show(gh (eM l) _:Option Int)=_;rw[ef xL,dY,d_];show dE (eV (λ(u:Int) (w:Fm)=>(λ(_:Unit)=>dE (dX I u) λA=>dE (k9 n w A) λf=>if(eD f 0) then(some (.ret f))else(some ((.next ()):fV Unit Int)))) l 0 ()) _=_
      rw[Ic (E:=λx y=>k9 n x y) (e:=Fm.Eu) l 0 xL (λx r y t=>by
       have m1:=ew Fm.an8 r;have m2:=ew Fm.an8 t
       exact ih x y xL xL xL (a3 x r) (Z y t) (K x r) (M y t)),List.drop_zero]
      by_cases Q:ft (List.zipWith Fm.Eu l I)=0
      ·rw[dO Q,Q];rfl
      ·rw[dI Q];rfl
     ·rw[dI C,dO C];rfl
   ·show(if(eD k k') then j true else dE (fq FU s B) λR=>j (m6 R))=_
    by_cases D:k=k'
    ·have S:¬eD k k'=true:=by rw[er];simpa using D
     rw[dI S,iK xL,dF];exact W _ (by rw[UF];simp[D])
    ·have S:eD k k'=true:=by rw[er];exact D
     rw[dO S];exact W _ (by simp[D])
def Hg.nmF{g:List Ty}{f:Fm}(h:Hg g f)(hg:g.length<=1000000):Xe f:=Xe.of f h.an8 h.ok (h.ty.aoa _ (by have:=h.an8;omega))
theorem Jx{g f:List Ty}{a b:Fm}(c:Hg g a)(d:Hg f b)(h:g.length<=1000000)(i:f.length<=1000000):Bs a b=a.Eu b:=by
 have j:=c.wt;have k:=d.wt
 have e:jW a b=some (a.Eu b):=by
  unfold jW;rw[kh xL,c.err,dF,dI nz,kh xL,d.err,dF,dI nz,Jl FU a b (by rw[fI];have:=c.an8;omega) c.an8 d.an8 c.ok d.ok (c.nmF h) (d.nmF i)];rfl
 unfold Bs;rw[e];rfl
def ze(a b:Tm):Prop:=a.ok=true/\b.ok=true/\∃c,mK a c/\mK b c
theorem ze.refl{a:Tm}(h:a.ok=true):ze a a:=⟨h,h,a,.refl a,.refl a⟩
def ze.symm{a b:Tm}(h:ze a b):ze b a:=⟨h.2.1,h.1,let⟨c,p,q⟩:=h.2.2;⟨c,q,p⟩⟩
def ze.trans{a b c:Tm}(h:ze a b)(d:ze b c):ze a c:=by
 obtain⟨f,i,x,j,k⟩:=h;obtain⟨_,l,y,n,o⟩:=d;obtain⟨w,q,r⟩:=k.meet y i n;exact⟨f,l,w,j.trans q,o.trans r⟩
def ze.star{a b:Tm}(c:a.ok=true)(h:mK a b):ze a b:=⟨c,h.ok c,b,h,.refl b⟩
def mK.up{t u:Tm}(h:mK t u):t.ok=true->∀f c:Int,0<=f->0<=c->mK (t.up f c) (u.up f c):=by
 induction h with
 |refl t=>intro _ f c _ _;exact .refl _|step a _ ih=>intro b f c d i;exact .step (a.up b f c d i) (ih (a.ok b) f c d i)
def mK.Gv{t u:Tm}(h:mK t u){x:Tm}(a:x.ok=true):t.ok=true->∀n:Int,0<=n->mK (Tm.fQ n t x) (Tm.fQ n u x):=by
 induction h with
 |refl t=>intro _ n _;exact .refl _|step b _ ih=>intro c n hn;exact .step (b.fQ (kq.refl x a) a c n hn) (ih (b.ok c) n hn)
def mK.ajY{x y:Tm}(h:mK x y){t:Tm}(a:t.ok=true):x.ok=true->∀n:Int,0<=n->mK (Tm.fQ n t x) (Tm.fQ n t y):=by
 induction h with
 |refl t=>intro _ n _;exact .refl _|step b _ ih=>intro c n hn;exact .step ((kq.refl t a).fQ b c a n hn) (ih (b.ok c) n hn)
def ze.up{a b:Tm}(h:ze a b){f c:Int}(d:0<=f)(i:0<=c):ze (a.up f c) (b.up f c):=by
 obtain⟨j,k,x,l,n⟩:=h;exact⟨by rw[Tm.Ix a f c d i];exact j,by rw[Tm.Ix b f c d i];exact k,_,l.up j f c d i,n.up k f c d i⟩
def ze.fQ{a b x y:Tm}(h:ze a b)(q:ze x y){n:Int}(hn:0<=n):ze (Tm.fQ n a x) (Tm.fQ n b y):=by
 obtain⟨f,i,c,l,o⟩:=h;obtain⟨j,k,d,d1,d2⟩:=q;refine⟨Tm.NM x j a n hn f,Tm.NM y k b n hn i,Tm.fQ n c d,?_,?_⟩
 ·exact(l.Gv j f n hn).trans (d1.ajY (l.ok f) j n hn)
 ·exact(o.Gv k i n hn).trans (d2.ajY (o.ok i) k n hn)
def mX(e:Int):Prop:=e=3\/e=4\/e=5
def Mh{a p:Tm}{n:Int}(h:a.norm 1000 0=(p,n,0))(b:a.ok=true):p.nf=true/\mK a p:=⟨(UQ 1000 0 a p n h).1,Lw 1000 0 a p n b h⟩
def UE{a b:Tm}(h:ze a b):tW a b=0\/mX (tW a b):=by
 by_cases i:a=b
 ·rw[i,LB];exact .inl rfl
 ·rw[Uf i];obtain⟨k,q,c,r,t⟩:=h;have u:=DE 1000 0 a;have v:=DE 1000 0 b
  by_cases d:(a.norm 1000 0).2.2=0
  ·rw[dI (λh=>h d)]
   by_cases f:(b.norm 1000 0).2.2=0
   ·rw[dI (λh=>h f)];obtain⟨p,n,e,s⟩:∃p n e,a.norm 1000 0=(p,n,e):=⟨_,_,_,rfl⟩;obtain⟨B,n',x,j⟩:∃p n e,b.norm 1000 0=(p,n,e):=⟨_,_,_,rfl⟩;rw[s] at d|-;rw[j] at f|-;have d:e=0:=d;have f:x=0:=f;subst d;subst f;obtain⟨n1,s1⟩:=Mh s k;obtain⟨n2,s2⟩:=Mh j q;obtain⟨w,y,A⟩:=s1.meet c k r;obtain⟨w',l,o⟩:=s2.meet c q t;have:=y.nf n1;subst this;have:=l.nf n2;subst this;have:w=w':=mK.unique (r.ok k) A o n1 n2;rw[dO this];exact .inl rfl
   ·rw[dO f];rcases v with h|h|h
    ·exact absurd h f
    ·exact .inr (.inr (.inl h))
    ·exact .inr (.inr (.inr h))
  ·rw[dO d];rcases u with h|h|h
   ·exact absurd h d
   ·exact .inr (.inr (.inl h))
   ·exact .inr (.inr (.inr h))
inductive ry:Fm->Fm->Prop
 |eq {a a' b b'}:ze a a'->ze b b'->ry (.mk 1 .z [a,b] []) (.mk 1 .z [a',b'] [])|two {k a a' b b'}:ry a a'->ry b b'->ry (.mk k .z [] [a,b]) (.mk k .z [] [a',b'])|q {k s a a'}:ry a a'->ry (.mk k s [] [a]) (.mk k s [] [a'])
theorem ry.refl{g:List Ty}{f:Fm}(h:ic g f):ry f f:=by
 induction h with
 |eq c d=>exact .eq (.refl c.ok) (.refl d.ok)|two _ _ _ a b=>exact .two a b|q _ _ _ ih=>exact .q ih
def ry.symm{a b:Fm}(h:ry a b):ry b a:=by
 induction h with
 |eq f i=>exact .eq f.symm i.symm|two _ _ c d=>exact .two c d|q _ ih=>exact .q ih
def ry.trans{a b:Fm}(h:ry a b):∀{c:Fm},ry b c->ry a c:=by
 induction h with
 |eq k l=>intro c h;cases h with|eq d f=>exact .eq (k.trans d) (l.trans f)
 |two _ _ i j=>intro c h;cases h with|two d f=>exact .two (i d) (j f)
 |q _ ih=>intro c h;cases h with|q d=>exact .q (ih d)
def ry.up{a b:Fm}(h:ry a b):∀{f c:Int},0<=f->0<=c->ry (a.up f c) (b.up f c):=by
 induction h with
 |eq n o=>intro f c i d;rw[Fm.fh,Fm.fh];exact .eq (n.up i d) (o.up i d)|@two k _ _ _ _ _ _ j l=>intro f c i d;have:=tG k;rw[Fm.fh,Fm.fh];exact .two (j xL d) (l xL d)
 |@q k _ _ _ _ ih=>intro f c i d;have:=tG k;rw[Fm.fh,Fm.fh];exact .q (ih xL d)
def ry.fQ{a b:Fm}(h:ry a b){x y:Tm}(c:ze x y):∀{n:Int},0<=n->ry (Fm.fQ n a x) (Fm.fQ n b y):=by
 induction h with
 |eq i j=>intro n hn;rw[Fm.eI,Fm.eI];exact .eq (i.fQ c hn) (j.fQ c hn)|@two k _ _ _ _ _ _ d f=>intro n hn;have:=tG k;rw[Fm.eI,Fm.eI];exact .two (d xL) (f xL)
 |@q k _ _ _ _ ih=>intro n hn;have:=tG k;rw[Fm.eI,Fm.eI];exact .q (ih xL)
def x_:∀{l:List Int},(∀e∈l,e=0\/mX e)->ft l=0\/mX (ft l)
 |[],_=>.inl rfl|e::l,h=>by
  rw[ft]
  by_cases he:e=0
  ·rw[dO he];exact x_ λx a=>h x (by simp[a])
  ·rw[dI he];exact .inr ((h e LA).resolve_left he)
def ry.Eu{a b:Fm}(h:ry a b):a.Eu b=0\/mX (a.Eu b):=by
 have hs:∀(k:Int) (s:Ty),¬(k≠k\/s.kX s=false):=λk s h=>by
  rcases h with h|h
  ·exact h rfl
  ·rw[(Ty.kV s s).2 rfl] at h;cases h
 induction h with
 |@eq a c b d o r=>
  rw[Fm.MY,dI (hs _ _)]
  have f:=x_ (l:=[tW a c,tW b d]) (λe he=>by
   simp only[lX,ve,r8] at he;rcases he with rfl|rfl
   ·exact UE o
   ·exact UE r)
  show(if ft [tW a c,tW b d]≠0 then ft [tW a c,tW b d] else ft [])=0\/_
  by_cases i:ft [tW a c,tW b d]=0
  ·rw[dI (λh=>h i)];exact .inl rfl
  ·show _\/mX (if ft [tW a c,tW b d]≠0 then ft [tW a c,tW b d] else ft []);rw[dO i];exact .inr (f.resolve_left i)
 |@two k a c b d _ _ j n=>
  have f:=x_ (l:=[a.Eu c,b.Eu d]) (λe he=>by
   simp only[lX,ve,r8] at he;rcases he with rfl|rfl
   ·exact j
   ·exact n)
  rw[Fm.MY,dI (hs _ _)];exact f
 |@q k s a c _ ih=>
  have f:=x_ (l:=[a.Eu c]) (λe he=>by
   simp only[lX,ve,r8] at he
   rw[he];exact ih)
  rw[Fm.MY,dI (hs _ _)];exact f
def fin(f:Fm)(m:Nat):Nat:=if f.has then m else 0
def jU{r:PR}{f:Fm}{m:Nat}(h:vA r=.inl (f,m)):∃a,r=.inl (f,a)/\f.err=0/\m=fin f a:=by
 cases r with
 |inr e=>cases h
 |inl p=>
  obtain⟨f0,a⟩:=p
  by_cases b:f0.err=0
  ·rw[Mb b] at h;obtain⟨rfl,rfl⟩:=g_ (xk h);exact⟨a,rfl,b,rfl⟩
  ·grind[UG]
def h7{r:PR}{k:Fm->Nat->PR}{p:Fm×Nat}(h:pbind r k=.inl p):∃f m,r=.inl (f,m)/\k f m=.inl p:=by
 cases r with
 |inr e=>cases h
 |inl q=>exact⟨q.1,q.2,rfl,h⟩
theorem kJ{e:Int}{r:PR}{p:Fm×Nat}(h:kc e r=.inl p):e=0/\r=.inl p:=by grind[gr,iZ]
def mY{c:Prop}[Decidable c]{e:Int}{r:PR}{p:Fm×Nat}(h:v_ c e r=.inl p):¬c/\r=.inl p:=by grind[jL,j3]
def wM{r:PR}{k:Int}{f:Fm}{m:Nat}(h:ES r k=.inl (f,m)):r=.inl (f,m)/\f.an6=k:=by
 obtain⟨f0,a,rfl,b⟩:=h7 h
 grind
theorem xO{F:Fm}{t:Tm}(h:(ll F t).2=0):ll F t=(Fm.fQ 0 F t,0)/\(Fm.fQ 0 F t).an8<=4096:=by grind[lD]
def AW{r:PR}{F:Fm}{t:Tm}{f:Fm}{m:Nat}(h:BS r F t=.inl (f,m)):r=.inl (f,m)/\(Fm.fQ 0 F t).an8<=4096/\Bs (Fm.fQ 0 F t) f=0:=by
 obtain⟨f0,a,rfl,b⟩:=h7 h
 grind[kJ,xO]
inductive Dv (L:List Fm):List Ty->List Fm->Pf->Fm->Nat->Prop
 |hyp {g hs i f}:0<=i->i<(hs.length:Int)->hs[hs.length-1-i.toNat]?=some f->Hg g f->Dv L g hs (.mk 1 i .z [] [] []) f 0|N8 {g hs i f}:0<=i->L[i.toNat]?=some f->Hg [] f->Dv L g hs (.mk 2 i .z [] [] []) f 0|Qs {g hs a b x y m n}:Dv L g hs a x m->Dv L g hs b y n->Hg g (.mk 2 .z [] [x,y])->Dv L g hs (.mk 3 0 .z [] [] [a,b]) (.mk 2 .z [] [x,y]) (fin (.mk 2 .z [] [x,y]) (m|||n))|amJ {g hs a x y m}:Dv L g hs a (.mk 2 .z [] [x,y]) m->Hg g x->Dv L g hs (.mk 4 0 .z [] [] [a]) x (fin x m)|amF {g hs a x y m}:Dv L g hs a (.mk 2 .z [] [x,y]) m->Hg g y->Dv L g hs (.mk 5 0 .z [] [] [a]) y (fin y m)|X3 {g hs F a y m}:Hg g F->hs.length+1<=16->Dv L g (hs++[F]) a y m->Hg g (.mk 3 .z [] [F,y])->Dv L g hs (.mk 6 0 .z [] [F] [a]) (.mk 3 .z [] [F,y]) (fin (.mk 3 .z [] [F,y]) m)|XR {g hs a b x y f m n}:Dv L g hs a (.mk 3 .z [] [x,y]) m->Dv L g hs b f n->Hg g x->Hg g f->x.Eu f=0->Hg g y->Dv L g hs (.mk 7 0 .z [] [] [a,b]) y (fin y (m|||n))|all {g hs k k' s a f m}:(k=8/\k'=4\/k=12/\k'=6/\m.testBit 0=false)->s.err=0->g.length+1<=16->Dv L (g++[s]) (hs.map (Fm.up 0 1)) a f m->Hg g (.mk k' s [] [f])->Dv L g hs (.mk k 0 s [] [] [a]) (.mk k' s [] [f]) (fin (.mk k' s [] [f]) (m/2))|atE {g hs k k' t s a x m u}:(k=9/\k'=4/\u=m|||rp t\/k=13/\k'=6/\u=m)->dQ g t s->t.err=0->Dv L g hs a (.mk k' s [] [x]) m->Hg (g++[s]) x->(Fm.fQ 0 x t).an8<=4096->Dv L g hs (.mk k 0 .z [t] [] [a]) (Fm.fQ 0 x t) (fin (Fm.fQ 0 x t) u)|ex {g hs k k' t s a x f m u}:(k=10/\k'=5/\u=m|||rp t\/k=14/\k'=7/\u=m)->Hg g (.mk k' s [] [x])->dQ g t s->t.err=0->Hg (g++[s]) x->Dv L g hs a f m->Hg g f->(Fm.fQ 0 x t).an8<=4096->(Fm.fQ 0 x t).Eu f=0->Dv L g hs (.mk k 0 .z [t] [.mk k' s [] [x]] [a]) (.mk k' s [] [x]) (fin (.mk k' s [] [x]) u)|opn {g hs k k' s a b x f m n}:(k=11/\k'=5\/k=15/\k'=7/\n.testBit 0=false)->Dv L g hs a (.mk k' s [] [x]) m->s.err=0->g.length+1<=16->hs.length+1<=16->Hg (g++[s]) x->Dv L (g++[s]) (hs.map (Fm.up 0 1)++[x]) b f n->Hg (g++[s]) f->(xW f).2=0->Hg g (xW f).1->Dv L g hs (.mk k 0 .z [] [] [a,b]) (xW f).1 (fin (xW f).1 (m|||n/2))|ind {g hs t F a b x y m n}:Hg (g++[.nat]) F->dQ g t .nat->t.err=0->Dv L g hs a x m->Hg g x->(Fm.fQ 0 F iO).an8<=4096->(Fm.fQ 0 F iO).Eu x=0->g.length+1<=16->hs.length+1<=16->Dv L (g++[.nat]) (hs.map (Fm.up 0 1)++[F]) b y n->Hg (g++[.nat]) y->(Fm.fQ 0 (F.up 1 1) (gJ v0)).an8<=4096->(Fm.fQ 0 (F.up 1 1) (gJ v0)).Eu y=0->(Fm.fQ 0 F t).an8<=4096->Dv L g hs (.mk 16 0 .z [t] [F] [a,b]) (Fm.fQ 0 F t) (fin (Fm.fQ 0 F t) ((rp t|||m)|||n/2))|lists {g hs t F a b x y m n}:Hg (g++[.iB]) F->dQ g t .iB->t.err=0->Dv L g hs a x m->Hg g x->(Fm.fQ 0 F (.mk 7 0 .z [])).an8<=4096->(Fm.fQ 0 F (.mk 7 0 .z [])).Eu x=0->g.length+2<=16->hs.length+1<=16->Dv L (g++[.nat]++[.iB]) (hs.map (Fm.up 0 2)++[F.up 1 1]) b y n->Hg (g++[.nat]++[.iB]) y->(Fm.fQ 0 (F.up 1 2) (.mk 8 0 .z [v1,v0])).an8<=4096->(Fm.fQ 0 (F.up 1 2) (.mk 8 0 .z [v1,v0])).Eu y=0->(Fm.fQ 0 F t).an8<=4096->Dv L g hs (.mk 17 0 .z [t] [F] [a,b]) (Fm.fQ 0 F t) (fin (Fm.fQ 0 F t) ((rp t|||m)|||n/4))|refl {g hs t}:dQ g t .nat->t.err=0->Hg g (.mk 1 .z [t,t] [])->Dv L g hs (.mk 18 0 .z [t] [] []) (.mk 1 .z [t,t] []) 0|subst {g hs F a b t u f m n}:Hg (g++[.nat]) F->Dv L g hs a (.mk 1 .z [t,u] []) m->dQ g t .nat->dQ g u .nat->t.err=0->u.err=0->Dv L g hs b f n->Hg g f->(Fm.fQ 0 F t).an8<=4096->(Fm.fQ 0 F t).Eu f=0->(Fm.fQ 0 F u).an8<=4096->Dv L g hs (.mk 19 0 .z [] [F] [a,b]) (Fm.fQ 0 F u) (fin (Fm.fQ 0 F u) n)|choice {g hs a s u y m}:Dv L g hs a (.mk 4 s [] [.mk 5 u [] [y]]) m->s.err=0->u.err=0->Hg (g++[s]++[u]) y->(Ty.fn s u).err=0->(Fm.fQ 0 (y.up 2 1) (eH v1 v0)).an8<=4096->Hg g (.mk 5 (.fn s u) [] [.mk 4 s [] [Fm.fQ 0 (y.up 2 1) (eH v1 v0)]])->Dv L g hs (.mk 20 0 .z [] [] [a]) (.mk 5 (.fn s u) [] [.mk 4 s [] [Fm.fQ 0 (y.up 2 1) (eH v1 v0)]]) (fin (.mk 5 (.fn s u) [] [.mk 4 s [] [Fm.fQ 0 (y.up 2 1) (eH v1 v0)]]) m)
def IL(f:Fm):fin f 0=0:=by grind[fin]
def B8{g c:List Ty}{a b:Fm}(d:Hg g a)(f:Hg c b)(i:g.length<=1000000)(j:c.length<=1000000)(h:Bs a b=0):a.Eu b=0:=by grind[Jx]
def ua{g:List Ty}{s:Ty}{F:Fm}{t:Tm}(hF:ic (g++[s]) F)(a:dQ g t s)(hn:(Fm.fQ 0 F t).an8<=4096):Hg g (Fm.fQ 0 F t):=⟨Fm.ng (hF.put a).ok hn,hF.put a⟩
def Hg.adv{g:List Ty}{F:Fm}(h:Hg (g++[.nat]) F):Hg (g++[.nat]++[.nat]) (F.up 1 1):=⟨CT h.err xL xL,by have:=h.ty.up g [.nat] [.nat] rfl;simpa using this⟩
def Hg.abt{g:List Ty}{F:Fm}(h:Hg (g++[.iB]) F):Hg (g++[.nat]++[.iB]++[.iB]) (F.up 1 2):=⟨CT h.err xL xL,by have:=h.ty.up g [.iB] [.nat,.iB] rfl;simpa using this⟩
def Hg.upl{g:List Ty}{F:Fm}(h:Hg (g++[.iB]) F):Hg (g++[.nat]++[.iB]) (F.up 1 1):=⟨CT h.err xL xL,by have:=h.ty.up g [.iB] [.nat] rfl;simpa using this⟩
def Ev.AK{L:List Fm}{g:List Ty}{hs:List Fm}(h:Ev L ⟨g,hs⟩){s:Ty}(a:s.err=0)(hn:g.length+1<=16):Ev L ⟨g++[s],hs.map (Fm.up 0 1)⟩:=h.below (l:=[s]) (λx b=>by rw[EU.1 b];exact a) hn
def Ev.YC{L:List Fm}{g:List Ty}{hs:List Fm}(h:Ev L ⟨g,hs⟩)(hn:g.length+2<=16):Ev L ⟨g++[.nat]++[.iB],hs.map (Fm.up 0 2)⟩:=by
 have:=h.below (l:=[.nat,.iB]) (λx hx=>by
  rcases lX.1 hx with rfl|hx
  ·exact Ty.fi
  ·rw[EU.1 hx];exact Ty.mD) hn
 grind
def zv{F:Fm}(hF:F.err=0){g:List Ty}(a:iz g)(h:F.uQ g=0):Hg g F:=⟨hF,rb F (Fm.hD hF).1 g a h⟩
def Dv.of{L:List Fm}{P:Pf}(hP:zG P):∀(g:List Ty) (hs:List Fm) (f:Fm) (m:Nat),Ev L ⟨g,hs⟩->P.inf L g hs=.inl (f,m)->Dv L g hs P f m/\Hg g f:=by
 induction hP with
 |@hyp i hi=>
  intro g hs f m d h;have G:iz g:=d.ctx;rw[Pf.jE,ZE] at h;obtain⟨M,o,he,c⟩:=jU h;rw[c];clear h c;have h:=o;clear o;obtain⟨j,H⟩:=mY h;obtain⟨V,rfl⟩:=g_ (xk H)
  have Q:hs.length-1-i.toNat<hs.length:=xL
  rw[Tl,qp Q] at V;have V:hs[hs.length-1-i.toNat]=f:=V;have B:Hg g f:=d.aob f (by rw[<-V];exact D9 Q);rw[IL];exact⟨.hyp hi xL (by rw[qp Q,V]) B,B⟩
 |@N8 i hi=>
  intro g hs f m d h;have G:iz g:=d.ctx;rw[Pf.jE,ae'] at h;obtain⟨M,o,he,c⟩:=jU h;rw[c];clear h c;have h:=o;clear o;obtain⟨j,H⟩:=mY h;obtain⟨V,rfl⟩:=g_ (xk H)
  have Q:i.toNat<L.length:=xL
  rw[Tl,qp Q] at V;have V:L[i.toNat]=f:=V;have B:Hg [] f:=d.N8 f (by rw[<-V];exact D9 Q);rw[IL];exact⟨.N8 hi (by rw[qp Q,V]) B,he,by simpa using B.ty.front g⟩
 |@Qs a b _ _ l I=>
  intro g hs f m d h;have G:iz g:=d.ctx;rw[Pf.jE,Tz] at h;obtain⟨M,o,he,c⟩:=jU h;rw[c];clear h c;have h:=o;clear o;obtain⟨x,n1,j,h⟩:=h7 h;obtain⟨y,n2,H,h⟩:=h7 h;obtain⟨rfl,rfl⟩:=g_ (xk h);obtain⟨C,w⟩:=l g hs x n1 d j;obtain⟨T,tb⟩:=I g hs y n2 d H;have B:Hg g (.mk 2 .z [] [x,y]):=⟨he,.two (.inl rfl) w.ty tb.ty⟩;exact⟨.Qs C T B,B⟩
 |@and k a A _ l=>
  intro g hs f m d h;have G:iz g:=d.ctx;rcases A with rfl|rfl
  ·rw[Pf.jE,Sc] at h;obtain⟨M,o,he,c⟩:=jU h;rw[c];clear h c;have h:=o;clear o;obtain⟨x,n1,j,h⟩:=h7 h;obtain⟨j,A⟩:=wM j;obtain⟨rfl,rfl⟩:=g_ (xk h);obtain⟨C,w⟩:=l g hs x n1 d j;obtain⟨x,y,rfl,R,W⟩:=w.ty.LQ A (.inl rfl);exact⟨.amJ C ⟨he,R⟩,he,R⟩
  ·rw[Pf.jE,Tf] at h;obtain⟨M,o,he,c⟩:=jU h;rw[c];clear h c;have h:=o;clear o;obtain⟨x,n1,j,h⟩:=h7 h;obtain⟨j,A⟩:=wM j;obtain⟨rfl,rfl⟩:=g_ (xk h);obtain⟨C,w⟩:=l g hs x n1 d j;obtain⟨x,y,rfl,R,W⟩:=w.ty.LQ A (.inl rfl);exact⟨.amF C ⟨he,W⟩,he,W⟩
 |@X3 F a hF _ l=>
  intro g hs f m d h;have G:iz g:=d.ctx;rw[Pf.jE,Y0] at h;obtain⟨M,o,he,c⟩:=jU h;rw[c];clear h c;have h:=o;clear o;obtain⟨K,h⟩:=kJ h;obtain⟨hn,h⟩:=mY h;obtain⟨y,n1,j,h⟩:=h7 h;obtain⟨rfl,rfl⟩:=g_ (xk h);have r:=zv hF G K;obtain⟨C,w⟩:=l g _ y n1 (d.with r (by show hs.length+1<=16;omega)) j;have B:Hg g (.mk 3 .z [] [F,y]):=⟨he,.two (.inr rfl) r.ty w.ty⟩;exact⟨.X3 r xL C B,B⟩
 |@XR a b _ _ l I=>
  intro g hs f m d h;have G:iz g:=d.ctx;have U:=d.nv;have U:g.length<=16:=U;rw[Pf.jE,Y6] at h;obtain⟨M,o,he,c⟩:=jU h;rw[c];clear h c;have h:=o;clear o;obtain⟨x,n1,j,h⟩:=h7 h;obtain⟨j,A⟩:=wM j;obtain⟨z,n2,H,h⟩:=h7 h;obtain⟨hm,h⟩:=kJ h;obtain⟨rfl,rfl⟩:=g_ (xk h);obtain⟨C,w⟩:=l g hs x n1 d j;obtain⟨T,tb⟩:=I g hs z n2 d H;obtain⟨x,y,rfl,R,W⟩:=w.ty.LQ A (.inr rfl);have D:=w.sub (x:=x) LA R;exact⟨.XR C T D tb (B8 D tb xL xL hm) ⟨he,W⟩,he,W⟩
 |@all k s a A v _ l=>
  intro g hs f m d h;have G:iz g:=d.ctx;rcases A with rfl|rfl
  ·rw[Pf.jE,HP] at h;obtain⟨M,o,he,c⟩:=jU h;rw[c];clear h c;have h:=o;clear o;obtain⟨hn,h⟩:=mY h;obtain⟨x,n1,j,h⟩:=h7 h;obtain⟨rfl,rfl⟩:=g_ (xk h);obtain⟨C,w⟩:=l _ _ x n1 (d.AK v xL) j;have B:Hg g (.mk 4 s [] [x]):=⟨he,.q (.inl rfl) v w.ty⟩;exact⟨.all (.inl ⟨rfl,rfl⟩) v xL C B,B⟩
  ·rw[Pf.jE,UI] at h;obtain⟨M,o,he,c⟩:=jU h;rw[c];clear h c;have h:=o;clear o;obtain⟨hn,h⟩:=mY h;obtain⟨x,n1,j,h⟩:=h7 h;obtain⟨hb,h⟩:=mY h;obtain⟨rfl,rfl⟩:=g_ (xk h);obtain⟨C,w⟩:=l _ _ x n1 (d.AK v xL) j;have B:Hg g (.mk 6 s [] [x]):=⟨he,.q (.inr (.inr (.inl rfl))) v w.ty⟩;exact⟨.all (.inr ⟨rfl,rfl,by simpa using hb⟩) v xL C B,B⟩
 |@atE k t a A K _ l=>
  intro g hs f m d h;have G:iz g:=d.ctx
  have key:∀(k':Int) (f:Fm) (m:Nat),(k'=4\/k'=6)->∀u:Nat->Nat,(kc (t.ty g).2 (pbind (ES (a.inf L g hs) k') λa m=>v_ ((t.ty g).1.kX a.dL=false) 7 (kc (ll (a.an7.getD 0 jF) t).2 (.inl ((ll (a.an7.getD 0 jF) t).1,u m)))))=.inl (f,m)->∃s x n,dQ g t s/\Dv L g hs a (.mk k' s [] [x]) n/\Hg (g++[s]) x/\(Fm.fQ 0 x t).an8<=4096/\f=Fm.fQ 0 x t/\m=u n:=by
   intro k' f m ak u h;obtain⟨af,h⟩:=kJ h;obtain⟨x,n1,j,h⟩:=h7 h;obtain⟨j,A⟩:=wM j;obtain⟨X,h⟩:=mY h;obtain⟨hp,h⟩:=kJ h;obtain⟨rfl,rfl⟩:=g_ (xk h);obtain⟨C,w⟩:=l g hs x n1 d j;obtain⟨s,y,rfl,v,W⟩:=w.ty.uY A xL;have ah:=w.sub (x:=y) LA W;obtain⟨Y,N⟩:=xO hp;rcases vN K G with⟨e,he,q1,_⟩|⟨s1,q1,O,an⟩
   ·exact absurd (q1.symm.trans af) he
   ·have q1:t.ty g=(s1,0):=q1;rw[q1] at X;have:s1=s:=(Ty.kV _ _).1 (by simpa using X);subst this;have Y:ll y t=(Fm.fQ 0 y t,0):=Y;refine⟨s1,y,n1,O,C,ah,N,?_,rfl⟩;show(ll y t).1=_;rw[Y]
  rcases A with rfl|rfl
  ·rw[Pf.jE,Z9] at h;obtain⟨M,o,he,c⟩:=jU h;rw[c];clear h c;have h:=o;clear o;obtain⟨s,x,n,q1,q2,q3,q4,rfl,rfl⟩:=key 4 _ _ (.inl rfl) (λm=>m|||rp t) h;exact⟨.atE (.inl ⟨rfl,rfl,rfl⟩) q1 K q2 q3 q4,ua q3.ty q1 q4⟩
  ·rw[Pf.jE,ZJ] at h;obtain⟨M,o,he,c⟩:=jU h;rw[c];obtain⟨s,x,n,q1,q2,q3,q4,rfl,rfl⟩:=key 6 _ _ (.inr rfl) (λm=>m) o;exact⟨.atE (.inr ⟨rfl,rfl,rfl⟩) q1 K q2 q3 q4,ua q3.ty q1 q4⟩
 |@ex k t F a A K hF _ l=>
  intro g hs f m d h;have G:iz g:=d.ctx;have U:g.length<=16:=d.nv
  have key:∀(k':Int) (f:Fm) (m:Nat),(k'=5\/k'=7)->∀u:Nat->Nat,(kc (F.uQ g) (v_ (F.an6≠k') 10 (kc (t.ty g).2 (v_ ((t.ty g).1.kX F.dL=false) 7 (pbind (BS (a.inf L g hs) (F.an7.getD 0 jF) t) λ_ m=>.inl (F,u m))))))=.inl (f,m)->∃s x y n,F=.mk k' s [] [x]/\Hg g F/\dQ g t s/\Hg (g++[s]) x/\Dv L g hs a y n/\Hg g y/\(Fm.fQ 0 x t).an8<=4096/\(Fm.fQ 0 x t).Eu y=0/\f=F/\m=u n:=by
   intro k' f m ak u h;obtain⟨O,h⟩:=kJ h;obtain⟨A,h⟩:=mY h;obtain⟨af,h⟩:=kJ h;obtain⟨X,h⟩:=mY h;obtain⟨y,n,j,h⟩:=h7 h;obtain⟨rfl,rfl⟩:=g_ (xk h);have r:=zv hF G O;obtain⟨s,x,rfl,v,R⟩:=r.ty.uY (u9.1 A) xL;have D:=r.sub (x:=x) LA R;obtain⟨j,N,hm⟩:=AW j;obtain⟨C,w⟩:=l g hs y n d j;rcases vN K G with⟨e,he,q1,_⟩|⟨s1,q1,ae,an⟩
   ·exact absurd (q1.symm.trans af) he
   ·rw[q1] at X;have:s1=s:=(Ty.kV _ _).1 (by simpa using X);subst this;exact⟨s1,x,y,n,rfl,r,ae,D,C,w,N,B8 (ua R ae N) w xL xL hm,rfl,rfl⟩
  rcases A with rfl|rfl
  ·rw[Pf.jE,Ss] at h;obtain⟨M,o,he,c⟩:=jU h;rw[c];obtain⟨s,x,y,n,rfl,q1,q2,q3,q4,q5,q6,q7,rfl,rfl⟩:=key 5 _ _ (.inl rfl) (λm=>m|||rp t) o;exact⟨.ex (.inl ⟨rfl,rfl,rfl⟩) q1 q2 K q3 q4 q5 q6 q7,q1⟩
  ·rw[Pf.jE,YJ] at h;obtain⟨M,o,he,c⟩:=jU h;rw[c];obtain⟨s,x,y,n,rfl,q1,q2,q3,q4,q5,q6,q7,rfl,rfl⟩:=key 7 _ _ (.inr rfl) (λm=>m) o;exact⟨.ex (.inr ⟨rfl,rfl,rfl⟩) q1 q2 K q3 q4 q5 q6 q7,q1⟩
 |@opn k a b A _ _ l I=>
  intro g hs f m d h;have G:iz g:=d.ctx;have U:g.length<=16:=d.nv;rcases A with rfl|rfl
  ·rw[Pf.jE,HT] at h;obtain⟨M,o,he,c⟩:=jU h;rw[c];clear h c;obtain⟨x,n1,j,h⟩:=h7 o;obtain⟨j,A⟩:=wM j;obtain⟨hn,h⟩:=mY h;obtain⟨y,n2,H,h⟩:=h7 h;obtain⟨hw,h⟩:=kJ h;obtain⟨rfl,rfl⟩:=g_ (xk h);obtain⟨C,w⟩:=l g hs x n1 d j;obtain⟨s,x,rfl,v,R⟩:=w.ty.uY A (.inr (.inl rfl));have D:=w.sub (x:=x) LA R;have S:=(d.AK v xL).with (f:=x) D (by show(hs.map (Fm.up 0 1)).length+1<=16;simp;omega);obtain⟨T,tb⟩:=I _ _ y n2 S H;have B:Hg g (xW y).1:=⟨he,(IN tb xL v hw).1⟩;exact⟨.opn (.inl ⟨rfl,rfl⟩) C v xL xL D T tb hw B,B⟩
  ·rw[Pf.jE,Pz] at h;obtain⟨M,o,he,c⟩:=jU h;rw[c];clear h c;obtain⟨x,n1,j,h⟩:=h7 o;obtain⟨j,A⟩:=wM j;obtain⟨hn,h⟩:=mY h;obtain⟨y,n2,H,h⟩:=h7 h;obtain⟨hw,h⟩:=kJ h;obtain⟨hb,h⟩:=mY h;obtain⟨rfl,rfl⟩:=g_ (xk h);obtain⟨C,w⟩:=l g hs x n1 d j;obtain⟨s,x,rfl,v,R⟩:=w.ty.uY A (.inr (.inr (.inr rfl)));have D:=w.sub (x:=x) LA R;have S:=(d.AK v xL).with (f:=x) D (by show(hs.map (Fm.up 0 1)).length+1<=16;simp;omega);obtain⟨T,tb⟩:=I _ _ y n2 S H;have B:Hg g (xW y).1:=⟨he,(IN tb xL v hw).1⟩;exact⟨.opn (.inr ⟨rfl,rfl,by simpa using hb⟩) C v xL xL D T tb hw B,B⟩
 |@ind k t F a b A K hF _ _ l I=>
  intro g hs f m d h;have G:iz g:=d.ctx;have U:g.length<=16:=d.nv;rcases A with rfl|rfl
  ·rw[Pf.jE,Ny] at h;obtain⟨M,o,he,c⟩:=jU h;rw[c];clear h c;obtain⟨O,h⟩:=kJ o;obtain⟨A,h⟩:=kJ h;obtain⟨x,n1,j,h⟩:=h7 h;obtain⟨hn,h⟩:=mY h;obtain⟨y,n2,H,h⟩:=h7 h;obtain⟨hp,h⟩:=kJ h;obtain⟨Y,N⟩:=xO hp;rw[Y] at h;obtain⟨rfl,rfl⟩:=g_ (xk h);have r:=zv hF G.nat O;have J:dQ g t .nat:=A5 G K (.inl rfl) A;obtain⟨j,a2,a3⟩:=AW j;obtain⟨H,Z,b3⟩:=AW H;obtain⟨C,w⟩:=l g hs x n1 d j;have S:=(d.AK Ty.fi xL).with (f:=F) r (by show(hs.map (Fm.up 0 1)).length+1<=16;simp;omega);obtain⟨T,tb⟩:=I _ _ y n2 S H;have hz:=ua r.ty (t:=iO) .zero a2;have ai:=ua (Hg.adv r).ty (t:=gJ v0) (.succ gz) Z;have B:Hg g (Fm.fQ 0 F t):=ua r.ty J N;exact⟨.ind r J K C w a2 (B8 hz w xL xL a3) xL xL T tb Z (B8 ai tb Xw Xw b3) N,B⟩
  ·rw[Pf.jE,MG] at h;obtain⟨M,o,he,c⟩:=jU h;rw[c];clear h c;obtain⟨O,h⟩:=kJ o;obtain⟨A,h⟩:=kJ h;obtain⟨x,n1,j,h⟩:=h7 h;obtain⟨hn,h⟩:=mY h;obtain⟨y,n2,H,h⟩:=h7 h;obtain⟨hp,h⟩:=kJ h;obtain⟨Y,N⟩:=xO hp;rw[Y] at h;obtain⟨rfl,rfl⟩:=g_ (xk h);have r:=zv hF G.iB O;have J:dQ g t .iB:=A5 G K (.inr rfl) A;obtain⟨j,a2,a3⟩:=AW j;obtain⟨H,Z,b3⟩:=AW H;obtain⟨C,w⟩:=l g hs x n1 d j;have S:=(d.YC xL).with (f:=F.up 1 1) (Hg.upl r) (by show(hs.map (Fm.up 0 2)).length+1<=16;simp;omega);obtain⟨T,tb⟩:=I _ _ y n2 S H;have hz:=ua r.ty (t:=.mk 7 0 .z []) .nil a2;have ai:=ua (Hg.abt r).ty (t:=.mk 8 0 .z [v1,v0]) (.cons kW gz) Z;have B:Hg g (Fm.fQ 0 F t):=ua r.ty J N;exact⟨.lists r J K C w a2 (B8 hz w xL xL a3) xL xL T tb Z (B8 ai tb Xw Xw b3) N,B⟩
 |@refl t K=>
  intro g hs f m d h;have G:iz g:=d.ctx;rw[Pf.jE,RJ] at h;obtain⟨M,o,he,c⟩:=jU h;rw[c];clear h c;obtain⟨A,h⟩:=kJ o;obtain⟨rfl,rfl⟩:=g_ (xk h);have J:dQ g t .nat:=A5 G K (.inl rfl) A;rw[IL];exact⟨.refl J K ⟨he,.eq J J⟩,he,.eq J J⟩
 |@subst F a b hF _ _ l I=>
  intro g hs f m d h;have G:iz g:=d.ctx;have U:g.length<=16:=d.nv;rw[Pf.jE,N1] at h;obtain⟨M,o,he,c⟩:=jU h;rw[c];clear h c;obtain⟨O,h⟩:=kJ o;obtain⟨x,n1,j,h⟩:=h7 h;obtain⟨j,A⟩:=wM j;obtain⟨y,n2,H,h⟩:=h7 h;obtain⟨hp,h⟩:=kJ h;obtain⟨Y,N⟩:=xO hp;rw[Y] at h;obtain⟨rfl,rfl⟩:=g_ (xk h);have r:=zv hF G.nat O;obtain⟨C,w⟩:=l g hs x n1 d j;obtain⟨t,u,rfl,K,hu⟩:=w.ty.Yg A;have hn:=w.an8;rw[Fm.dJ] at hn;simp only[eb] at hn;obtain⟨H,Z,b3⟩:=AW H;obtain⟨T,tb⟩:=I g hs y n2 d H;have Z:(Fm.fQ 0 F t).an8<=4096:=Z;have b3:Bs (Fm.fQ 0 F t) y=0:=b3;have N:(Fm.fQ 0 F u).an8<=4096:=N;have B:Hg g (Fm.fQ 0 F u):=ua r.ty hu N;show Dv L g hs _ (Fm.fQ 0 F u) (fin (Fm.fQ 0 F u) n2)/\Hg g (Fm.fQ 0 F u);exact⟨.subst r C K hu (Tm.ng K.ok xL) (Tm.ng hu.ok xL) T tb Z (B8 (ua r.ty K Z) tb xL xL b3) N,B⟩
 |@choice a _ l=>
  intro g hs f m d h;have G:iz g:=d.ctx;rw[Pf.jE,OI] at h;obtain⟨M,o,he,c⟩:=jU h;rw[c];clear h c;obtain⟨x,n1,j,h⟩:=h7 o;obtain⟨j,A⟩:=wM j;obtain⟨h5,h⟩:=mY h;obtain⟨ad,h⟩:=mY h;obtain⟨hp,h⟩:=mY h;obtain⟨Y,N⟩:=xO (u9.1 hp);rw[Y] at h;obtain⟨rfl,rfl⟩:=g_ (xk h);obtain⟨C,w⟩:=l g hs x n1 d j;obtain⟨s,x,rfl,v,R⟩:=w.ty.uY A (.inl rfl);have D:=w.sub (x:=x) LA R;obtain⟨u,y,rfl,ao,W⟩:=R.uY (u9.1 h5) (.inr (.inl rfl));have ah:=D.sub (x:=y) LA W;have N:(Fm.fQ 0 (y.up 2 1) (eH v1 v0)).an8<=4096:=N;have ad:(Ty.fn s u).err=0:=u9.1 ad
  have aq:ic (g++[.fn s u]++[s]++[u]) (y.up 2 1):=by
   have:=W.up g [s,u] [.fn s u] LA;simpa using this
  have ar:dQ (g++[.fn s u]++[s]) (eH v1 v0) u:=.app kW gz;have B:Hg g (.mk 5 (.fn s u) [] [.mk 4 s [] [Fm.fQ 0 (y.up 2 1) (eH v1 v0)]]):=⟨he,.q (.inr (.inl rfl)) ad (.q (.inl rfl) v (aq.put ar))⟩;exact⟨.choice C v ao ah ad N B,B⟩
def Xy(t:Tm):∀f b v:Int,0<=f->0<=b->f+b<=v->(t.up f b).aoc v=t.aoc (v-b):=by
 induction t using Tm.ind with
 |h k i s l ih=>
  intro f b v o j q;have r:=iY k;rw[Tm.fh,Tm.fg,Tm.fg,pI]
  congr 1
  ·by_cases a:k=1
   ·subst a;simp only[zX]
    by_cases c:f<=i
    ·rw[dO c]
     by_cases d:i+b=v
     ·rw[dO d,dO xL]
     ·rw[dI d,dI xL]
    ·rw[dI c,dI xL,dI xL]
   ·simp only[a,HA,lU]
  ·refine vI λx n=>?_;rw[ih x n (f+eP k) b (v+eP k) xL j xL,show v+eP k-b=v-b+eP k by omega]
def PN{α:Type}(f g:α->Nat)(c:Nat):∀l:List α,eb (λx=>f x+g x*c) l=eb f l+eb g l*c
 |[]=>by simp[eb]|x::l=>by
  simp only[eb];rw[PN f g c l,CQ];omega
def UZ(a t:Tm):∀n v:Int,t.ok=true->0<=n->n<=v->(Tm.fQ n t a).aoc v=t.aoc (v+1)+t.aoc n*a.aoc (v-n):=by
 induction t using Tm.ind with
 |h k i s l ih=>
  intro n v d hn q;have r:=iY k
  by_cases c:k=1
  ·subst c;obtain⟨rfl,rfl⟩:=Jc d;rw[Tm.eI,dO rfl];unfold Tm.iQ;rw[Tm.fg,Tm.fg];simp only[zX,eb,GQ]
   by_cases b:i=n
   ·rw[dO b,dI (show¬i=v+1 by omega),dO b,Xy a 0 n v xL hn xL];omega
   ·rw[dI b,dI b]
    by_cases f:n<i
    ·rw[dO f,Tm.fg];simp only[zX,eb,GQ]
     by_cases j:i=v+1
     ·rw[dO j,dO xL];omega
     ·rw[dI j,dI xL];omega
    ·rw[dI f,Tm.fg];simp only[zX,eb,GQ];rw[dI xL,dI xL];omega
  ·rw[Tm.eI,dI c,Tm.fg,Tm.fg,Tm.fg,pI];simp only[c,HA,lU,xR];rw[<-PN];refine vI λx o=>?_;rw[ih x o (n+eP k) (v+eP k) (Tm.en d x o) xL xL,show v+eP k-(n+eP k)=v-n by omega,show v+eP k+1=v+1+eP k by omega]
def QU{α:Type}{f:α->Nat}:∀{l:List α},0<eb f l->∃x∈l,0<f x
 |[],h=>by simp[eb] at h
 |x::l,h=>by
  simp only[eb] at h
  by_cases a:0<f x
  ·exact⟨x,LA,a⟩
  ·obtain⟨y,b,c⟩:=QU (f:=f) (l:=l) xL;exact⟨y,by simp[b],c⟩
def Tm.In(t:Tm)(v:Int):Prop:=0<t.aoc v
def lY{k i:Int}{s:Ty}{l:List Tm}{x:Tm}{v:Int}(a:eP k=0)(b:x∈l)(h:x.In v):(Tm.mk k i s l).In v:=by
 unfold Tm.In at*;rw[Tm.fg,a,sx];have:=ew (Tm.aoc v) b;omega
def B7{k i:Int}{s:Ty}{l:List Tm}{v:Int}(a:k≠1)(b:eP k=0)(h:(Tm.mk k i s l).In v):∃x∈l,x.In v:=by
 unfold Tm.In at*;rw[Tm.fg,b,sx,dI (λh=>a h.1),xR] at h;exact QU h
def I0{t:Tm}{v:Int}(q:t.ok=true)(w:t.root=true)(y:0<=v)(h:t.fv.In v):t.In v:=by
 cases Tm.QD q w with
 |@app i s j u b a=>
  rw[show(Tm.mk 3 i s [.mk 2 j u [b],a]).fv=Tm.fQ 0 b a by simp[Tm.fv]] at h;unfold Tm.In at h;rw[UZ a b 0 v (Tm.en (Tm.en q (.mk 2 j u [b]) LA) b LA) xL y,afr] at h
  by_cases l:0<b.aoc (v+1)
  ·refine lY rfl (x:=.mk 2 j u [b]) LA ?_;unfold Tm.In;rw[Tm.fg];simp only[eb,show eP 2=1 from rfl];omega
  ·have d:0<a.aoc v:=by
    rcases ai1 (a.aoc v)with h0|h0
    ·rw[h0,Nat.mul_zero] at h;omega
    ·exact h0
   exact lY rfl (x:=a) LA d
 |@zero k A i s j u b st o=>
  rcases o with⟨rfl,rfl⟩|⟨rfl,rfl⟩
  ·rw[show(Tm.mk 6 i s [b,st,.mk 4 j u []]).fv=b by simp[Tm.fv]] at h;exact lY rfl LA h
  ·rw[show(Tm.mk 9 i s [b,st,.mk 7 j u []]).fv=b by simp[Tm.fv]] at h;exact lY rfl LA h
 |@succ i s j u b st n=>
  rw[show(Tm.mk 6 i s [b,st,.mk 5 j u [n]]).fv=.mk 3 0 (.mk 0 []) [.mk 3 0 (.mk 0 []) [st,n],.mk 6 i s [b,st,n]] by simp[Tm.fv,o0]] at h
  have key:∀x,(x=b\/x=st\/x=n)->x.In v->(Tm.mk 6 i s [b,st,.mk 5 j u [n]]).In v:=by
   intro x c f;rcases c with rfl|rfl|rfl
   ·exact lY rfl (x:=x) LA f
   ·exact lY rfl (x:=x) LA f
   ·exact lY rfl (x:=.mk 5 j u [x]) LA (lY rfl LA f)
  obtain⟨x,c,l⟩:=B7 Df rfl h;simp only[lX,ve,r8] at c;rcases c with rfl|rfl
  ·obtain⟨x,c,d⟩:=B7 Df rfl l;simp only[lX,ve,r8] at c;exact key x (.inr c) d
  ·obtain⟨x,c,d⟩:=B7 Df rfl l;simp only[lX,ve,r8] at c;exact key x c d
 |@cons i s j u b st p n=>
  rw[show(Tm.mk 9 i s [b,st,.mk 8 j u [p,n]]).fv=.mk 3 0 (.mk 0 []) [.mk 3 0 (.mk 0 []) [.mk 3 0 (.mk 0 []) [st,p],n],.mk 9 i s [b,st,n]] by simp[Tm.fv,o0]] at h
  have key:∀x,(x=b\/x=st\/x=p\/x=n)->x.In v->(Tm.mk 9 i s [b,st,.mk 8 j u [p,n]]).In v:=by
   intro x c f;rcases c with rfl|rfl|rfl|rfl
   ·exact lY rfl (x:=x) LA f
   ·exact lY rfl (x:=x) LA f
   ·exact lY rfl (x:=.mk 8 j u [x,n]) LA (lY rfl LA f)
   ·exact lY rfl (x:=.mk 8 j u [p,x]) LA (lY rfl LA f)
  obtain⟨x,c,l⟩:=B7 Df rfl h;simp only[lX,ve,r8] at c;rcases c with rfl|rfl
  ·obtain⟨x,c,d⟩:=B7 Df rfl l;simp only[lX,ve,r8] at c;rcases c with rfl|rfl
   ·obtain⟨x,c,r⟩:=B7 Df rfl d;simp only[lX,ve,r8] at c;rcases c with rfl|rfl
    ·exact key _ (.inr (.inl rfl)) r
    ·exact key _ (.inr (.inr (.inl rfl))) r
   ·exact key _ (.inr (.inr (.inr rfl))) d
  ·obtain⟨x,c,d⟩:=B7 Df rfl l;simp only[lX,ve,r8] at c;rcases c with rfl|rfl|rfl
   ·exact key _ (.inl rfl) d
   ·exact key _ (.inr (.inl rfl)) d
   ·exact key _ (.inr (.inr (.inr rfl))) d
 |@proj k i s j u a b o=>
  rcases o with rfl|rfl
  ·rw[show(Tm.mk 11 i s [.mk 10 j u [a,b]]).fv=a by simp[Tm.fv]] at h;exact lY rfl (x:=.mk 10 j u [a,b]) LA (lY rfl LA h)
  ·rw[show(Tm.mk 12 i s [.mk 10 j u [a,b]]).fv=b by simp[Tm.fv]] at h;exact lY rfl (x:=.mk 10 j u [a,b]) LA (lY rfl LA h)
def Fa(t:Tm):∀f b v:Int,f<=v->v<f+b->(t.up f b).aoc v=0:=by
 induction t using Tm.ind with
 |h k i s l ih=>
  intro f b v j n;rw[Tm.fh,Tm.fg,pI,EK λx d=>ih x d (f+eP k) b (v+eP k) xL xL]
  by_cases a:k=1
  ·subst a;simp only[zX]
   by_cases c:f<=i
   ·rw[dO c,dI xL]
   ·rw[dI c,dI xL]
  ·simp only[a,HA,lU]
def Bc{k i:Int}{s:Ty}{l m:List Tm}(v:Int)(h:0<eb (Tm.aoc (v+eP k)) m->0<eb (Tm.aoc (v+eP k)) l)(a:(Tm.mk k i s m).In v):(Tm.mk k i s l).In v:=by
 unfold Tm.In at*;rw[Tm.fg] at a|-
 by_cases b:0<eb (Tm.aoc (v+eP k)) m
 ·have:=h b;omega
 ·omega
def kq.In{t u:Tm}(h:kq t u):t.ok=true->∀v:Int,0<=v->u.In v->t.In v:=by
 induction h with
 |n0=>intro _ _ _ h;exact h|@n1 k i s a D F o=>
  intro d v l h;refine Bc v (λq=>?_) h;have:=o (Tm.en d _ LA) (v+eP k) (by have:=iY k;omega);unfold Tm.In at this;simp only[eb] at q|-;omega
 |@n2 k i s a D b w F y o f=>
  intro d v l h;refine Bc v (λq=>?_) h;have J:=o (Tm.en d _ LA) (v+eP k) (by have:=iY k;omega);have A:=f (Tm.en d _ LA) (v+eP k) (by have:=iY k;omega);unfold Tm.In at J A;simp only[eb] at q|-;omega
 |@n3 k i s a D b w c H F y I o f r=>
  intro d v l h;refine Bc v (λq=>?_) h;have J:=o (Tm.en d _ LA) (v+eP k) (by have:=iY k;omega);have A:=f (Tm.en d _ LA) (v+eP k) (by have:=iY k;omega);have B:=r (Tm.en d _ LA) (v+eP k) (by have:=iY k;omega);unfold Tm.In at J A B;simp only[eb] at q|-;omega
 |@beta i s j u b w a D y F f o=>
  intro d v l h;have M:=Tm.en (Tm.en d (.mk 2 j u [b]) LA) b LA;have A:(Tm.mk 3 i s [.mk 2 j u [w],D]).In v:=I0 ((kq.n2 3 i s (.n1 2 j u y) F).ok d) (by simp[Tm.root,Tm.kd]) l (by simpa[Tm.fv] using h);have B:=f M (v+1) xL;have G:=o (Tm.en d a LA) v l;refine Bc v (λq=>?_) A;unfold Tm.In at B G;simp only[eb,show eP 3=0 from rfl,sx] at q|-;rw[Tm.fg] at q|-;simp only[eb,show eP 2=1 from rfl] at q|-;omega
 |@IE i s j u c b w y f=>intro d v l h;exact lY rfl (x:=b) LA (f (Tm.en d b LA) v l h)|@BZ i s j u c b w y f=>intro d v l h;exact lY rfl (x:=b) LA (f (Tm.en d b LA) v l h)|@I8 i s j u b w c H n n' y I hn f r C=>
  intro d v l h;have A:(Tm.mk 6 i s [w,H,.mk 5 j u [n']]).In v:=I0 ((kq.n3 6 i s y I (.n1 5 j u hn)).ok d) (by simp[Tm.root,Tm.kd]) l (by simpa[Tm.fv] using h);have B:=f (Tm.en d b LA) v l;have G:=r (Tm.en d c LA) v l;have K:=C (Tm.en (Tm.en d (.mk 5 j u [n]) LA) n LA) v l;refine Bc v (λq=>?_) A;unfold Tm.In at B G K;simp only[eb,show eP 6=0 from rfl,sx] at q|-;rw[Tm.fg] at q|-;simp only[eb,show eP 5=0 from rfl,sx] at q|-;omega
 |@BV i s j u b w c H n n' t N y I hn O f r C L=>
  intro d v l h;have A:(Tm.mk 9 i s [w,H,.mk 8 j u [n',N]]).In v:=I0 ((kq.n3 9 i s y I (.n2 8 j u hn O)).ok d) (by simp[Tm.root,Tm.kd]) l (by simpa[Tm.fv] using h);have B:=f (Tm.en d b LA) v l;have G:=r (Tm.en d c LA) v l;have K:=C (Tm.en (Tm.en d (.mk 8 j u [n,t]) LA) n LA) v l;have P:=L (Tm.en (Tm.en d (.mk 8 j u [n,t]) LA) t LA) v l;refine Bc v (λq=>?_) A;unfold Tm.In at B G K P;simp only[eb,show eP 9=0 from rfl,sx] at q|-;rw[Tm.fg] at q|-;simp only[eb,show eP 8=0 from rfl,sx] at q|-;omega
 |@fst i s j u b a D F o=>intro d v l h;exact lY rfl (x:=.mk 10 j u [a,b]) LA (lY rfl (x:=a) LA (o (Tm.en (Tm.en d (.mk 10 j u [a,b]) LA) a LA) v l h))|@snd i s j u a b w y f=>intro d v l h;exact lY rfl (x:=.mk 10 j u [a,b]) LA (lY rfl (x:=b) LA (f (Tm.en (Tm.en d (.mk 10 j u [a,b]) LA) b LA) v l h))
def mK.In{t u:Tm}(h:mK t u):t.ok=true->∀v:Int,0<=v->u.In v->t.In v:=by
 induction h with
 |refl t=>intro _ _ _ h;exact h|step a _ ih=>intro b v c h;exact a.In b v c (ih (a.ok b) v c h)
def ze.nf{a x p:Tm}{n:Int}(h:ze a x)(d:x.norm 1000 0=(p,n,0)):mK a p:=by
 obtain⟨l,b,c,f,i⟩:=h;obtain⟨n1,s1⟩:=Mh d b;obtain⟨w,j,k⟩:=s1.meet c b i;have:=j.nf n1;subst this;exact f.trans k
def O9{x:Tm}{e:Int}(h:(Dp x e).2=0):e=0/\∃n,x.norm 1000 0=((Dp x e).1,n,0):=by
 by_cases he:e=0
 ·subst he;refine⟨rfl,?_⟩;unfold Dp at h|-;simp only[if_true] at h|-;refine⟨(x.norm 1000 0).2.1,?_⟩;obtain⟨p,n,e,a⟩:∃p n e,x.norm 1000 0=(p,n,e):=⟨_,_,_,rfl⟩;rw[a] at h|-;simp only at h|-;rw[h]
 ·rw[zY he] at h;exact absurd h he
def ry.nr{a f:Fm}(h:ry a f):∀e:Int,(f.sn e).2=0->ry a (f.sn e).1/\∀v:Int,0<=v->a.aoc v=0->(f.sn e).1.aoc v=0:=by
 induction h with
 |@eq a d b j l n=>
  intro e he;rw[T6] at he|-;obtain⟨w,n1,q1⟩:=O9 he;obtain⟨A,n2,x⟩:=O9 w;have s1:=l.nf x;have s2:=n.nf q1;refine⟨.eq (.star l.1 s1) (.star n.1 s2),λv i c=>?_⟩;rw[Fm.fg] at c|-;simp only[eb] at c|-;have t1:=s1.In l.1 v i;have t2:=s2.In n.1 v i;unfold Tm.In at t1 t2;omega
 |@two k a d b j _ _ o r=>
  intro e he;rw[UA] at he|-;have he:(j.sn (d.sn e).2).2=0:=he;obtain⟨y,t2⟩:=r _ he;have t:(d.sn e).2=0:=aha λh=>h (by rw[Fm.Jm j _ h] at he;exact he);obtain⟨u,t1⟩:=o e t;refine⟨.two u y,λv i c=>?_⟩;have:=tG k;rw[Fm.fg] at c|-;simp only[eb] at c|-;have:=t1 (v+qB k) xL xL;have:=t2 (v+qB k) xL xL;omega
 |@q k s a d _ ih=>
  intro e he;rw[adK] at he|-;obtain⟨u,t1⟩:=ih e he;refine⟨.q u,λv i c=>?_⟩;have:=tG k;rw[Fm.fg] at c|-;simp only[eb] at c|-;have:=t1 (v+qB k) xL xL;omega
def Tm.adb(t:Tm):∀n:Int,t.aoc n=0->(t.up (n+1) (-1)).up n 1=t:=by
 induction t using Tm.ind with
 |h k i s l ih=>
  intro n a;rw[Tm.fg] at a;rw[Tm.fh,Tm.fh,Ig]
  congr 1
  ·by_cases b:k=1
   ·subst b;simp only[zX] at a|-
    have:¬i=n:=λh=>by rw[dO h] at a;omega
    by_cases c:n+1<=i
    ·rw[dO c,dO xL];omega
    ·rw[dI c,dI xL]
   ·simp only[b,HA,lU]
  ·refine map_id' λx d=>?_;have:=ew (Tm.aoc (n+eP k)) d;have:=ih x d (n+eP k) xL;rw[show n+eP k+1=n+1+eP k by omega] at this;exact this
def Fm.adb(f:Fm):∀n:Int,f.aoc n=0->(f.up (n+1) (-1)).up n 1=f:=by
 induction f using Fm.ind with
 |h k s ts l ih=>
  intro n b;rw[Fm.fg] at b;rw[Fm.fh,Fm.fh,Ig,Ig]
  congr 1
  ·refine map_id' λx a=>?_;have:=ew (Tm.aoc n) a;exact x.adb n xL
  ·refine map_id' λx a=>?_;have:=ew (Fm.aoc (n+qB k)) a;have:=ih x a (n+qB k) xL;rw[show n+qB k+1=n+1+qB k by omega] at this;exact this
def Fm.Fa(t:Fm):∀f b v:Int,f<=v->v<f+b->(t.up f b).aoc v=0:=by
 induction t using Fm.ind with
 |h k s ts l ih=>
  intro f b v a c;rw[Fm.fh,Fm.fg,pI,pI,EK λx _=>Go.fN.Fa x f b v a c,EK λx d=>ih x d (f+qB k) b (v+qB k) xL xL]
def Fm.Up{g:List Ty}{f:Fm}(h:ic g f)(x:Tm):∀n:Int,0<=n->Fm.fQ n (f.up n 1) x=f:=by
 have key:∀{g:List Ty} {t:Tm} {s:Ty},dQ g t s->∀n:Int,0<=n->Tm.fQ n (t.up n 1) x=t:=by
  intro g t s h n hn;have:=SO x t n n 0 h.ok hn xL xL;rw[Tm.abl] at this;exact this
 induction h with
 |eq c d=>intro n hn;rw[Fm.fh,Fm.eI];simp[key c n hn,key d n hn]|@two _ k _ _ _ _ _ a b=>intro n hn;have:=tG k;rw[Fm.fh,Fm.eI];simp[a (n+qB k) xL,b (n+qB k) xL]
 |@q _ k _ _ _ _ _ ih=>intro n hn;have:=tG k;rw[Fm.fh,Fm.eI];simp[ih (n+qB k) xL]
def ry.down{g c:List Ty}{a b:Fm}(d:ic g a)(f:ic c b)(h:ry (a.up 0 1) (b.up 0 1)):ry a b:=by
 have:=h.fQ (ze.refl (a:=iO) Df) (n:=0) xL
 rwa [Fm.Up d _ 0 xL,Fm.Up f _ 0 xL] at this
def ahS{g:List Ty}{s:Ty}{f:Fm}(h:Hg (g++[s]) f)(hg:g.length<=1000)(a:(xW f).2=0):ry f ((xW f).1.up 0 1):=by
 unfold xW at a|-
 by_cases c:f.aoc 0=0
 ·rw[dO c];show ry f ((f.up 1 (-1)).up 0 1);rw[show(f.up 1 (-1)).up 0 1=f from f.adb 0 c];exact .refl h.ty
 ·rw[dI c] at a|-
  by_cases b:(f.sn 0).2≠0
  ·rw[dO b] at a;exact absurd a b
  ·rw[dI b] at a|-;have b:(f.sn 0).2=0:=u9.1 b
   by_cases d:(f.sn 0).1.aoc 0≠0
   ·rw[dO d] at a;cases a
   ·rw[dI d];show ry f (((f.sn 0).1.up 1 (-1)).up 0 1);rw[show((f.sn 0).1.up 1 (-1)).up 0 1=(f.sn 0).1 from Fm.adb _ 0 (u9.1 d)];exact((ry.refl h.ty).nr 0 b).1
def IM{α:Type}{f:α->Int->α×Int}:∀(l:List α) (e:Int),(∀x∈l,∀e,e=0\/mX e->(f x e).2=0\/mX (f x e).2)->e=0\/mX e->(qS f l e).2=0\/mX (qS f l e).2
 |[],e,_,he=>he|x::l,e,h,he=>IM l _ (λy a=>h y (by simp[a])) (h x LA e he)
def ab9(f:Fm):∀e:Int,e=0\/mX e->(f.sn e).2=0\/mX (f.sn e).2:=by
 induction f using Fm.ind with
 |h k s ts l ih=>
  intro e he;rw[Fm.E3];refine IM l _ ih (IM ts e (λx _ e he=>?_) he)
  by_cases a:e=0
  ·unfold Dp;rw[dO a];rcases DE 1000 0 x with h|h|h
   ·exact .inl h
   ·exact .inr (.inr (.inl h))
   ·exact .inr (.inr (.inr h))
  ·rw[zY a];exact he
def acN{g:List Ty}{s:Ty}{f y:Fm}(h:Hg (g++[s]) f)(hg:g.length<=1000)(hs:s.err=0)(j:ic g y)(c:ry f (y.up 0 1)):mX (xW f).2\/(xW f).2=0/\ry (xW f).1 y:=by
 have key:(xW f).2=0->ry (xW f).1 y:=λa=>ry.down (IN h hg hs a).1 j ((ahS h hg a).symm.trans c)
 by_cases a:(xW f).2=0
 ·exact .inr ⟨a,key a⟩
 ·left;unfold xW at a|-
  by_cases d:f.aoc 0=0
  ·rw[dO d] at a;exact absurd rfl a
  ·rw[dI d] at a|-
   by_cases b:(f.sn 0).2≠0
   ·rw[dO b];exact(ab9 f 0 (.inl rfl)).resolve_left b
   ·rw[dI b] at a;have b:(f.sn 0).2=0:=u9.1 b
    by_cases i:(f.sn 0).1.aoc 0≠0
    ·exact absurd ((c.symm.nr 0 b).2 0 xL (y.Fa 0 1 0 xL xL)) i
    ·rw[dI i] at a;exact absurd rfl a
def CH(s:Ty):s.kX s=true:=(Ty.kV s s).2 rfl
def vrs(k:Int)(i:Nat):Nat:=if k=8\/k=12 then 1 else if k=11\/k=15\/k=16 then i else if k=17 then 2*i else 0
def mot(k:Int):Nat:=if k=16\/k=17\/k=19 then 1 else 0
mutual
def Pf.aoa(m:Int):Pf->Bool
 |.mk _ _ _ ts fs l=>ts.all (Tm.aoa m)&&fs.all (Fm.aoa m)&&Pf.tQ m l
def Pf.tQ(m:Int):List Pf->Bool
 |[]=>true|p::l=>p.aoa m&&Pf.tQ m l
end
end Go.fN
namespace Go.fN
open Go
section
variable{G G':List Ty} {ψ:Tm->Int->Tm}
def MI(k:Int)(i:Nat):Nat:=if k=6 then 1 else if k=11\/k=15\/k=16\/k=17 then i else 0
mutual
def Pf.Hm(ψ:Tm->Int->Tm)(η:Nat->Nat->Int->Pf):Nat->Nat->Pf->Pf
 |d,h,.mk k i s ts fs l=>if k=1 then η d h i else .mk k i s (ts.map λt=>ψ t d) (fs.map λf=>f.Hm ψ ((d+mot k:Nat):Int)) (Pf.alb ψ η k 0 d h l)
def Pf.alb(ψ:Tm->Int->Tm)(η:Nat->Nat->Int->Pf)(k:Int):Nat->Nat->Nat->List Pf->List Pf
 |_,_,_,[]=>[]|i,d,h,p::l=>p.Hm ψ η (d+vrs k i) (h+MI k i)::Pf.alb ψ η k (i+1) d h l
end
def Pf.Ws(P:Pf):Prop:=P.ok=true/\P.small=true
def Mv:mX 3:=.inl rfl
def Az:mX 4:=.inr (.inl rfl)
def ry.eq_inv{d:Fm}{a b:Tm}(h:ry d (.mk 1 .z [a,b] [])):∃f i,d=.mk 1 .z [f,i] []/\ze f a/\ze i b:=by
 generalize c:Fm.mk 1 .z [a,b] []=y at h;cases h with
 |eq j k=>simp at c;obtain⟨rfl,rfl⟩:=c;exact⟨_,_,rfl,j,k⟩
 |two=>simp at c
 |q=>simp at c
def ry.TY{k:Int}{d a b:Fm}(h:ry d (.mk k .z [] [a,b])):∃f i,d=.mk k .z [] [f,i]/\ry f a/\ry i b:=by
 generalize c:Fm.mk k .z [] [a,b]=y at h;cases h with
 |eq=>simp at c
 |two j l=>simp at c;obtain⟨rfl,rfl,rfl⟩:=c;exact⟨_,_,rfl,j,l⟩
 |q=>simp at c
def ry.ae4{k:Int}{s:Ty}{c a:Fm}(h:ry c (.mk k s [] [a])):∃d,c=.mk k s [] [d]/\ry d a:=by
 generalize b:Fm.mk k s [] [a]=y at h;cases h with
 |eq=>simp at b
 |two=>simp at b
 |q f=>simp at b;obtain⟨rfl,rfl,rfl⟩:=b;exact⟨_,rfl,f⟩
end
def Bj{g:List Ty}{x:Tm}{s:Ty}(h:dQ g x s)(hg:iz g)(a:g.length+x.an8<=1000000):nU x g s.an6=0:=by
 unfold nU;rw[ru h hg a,dI (λh=>h.2 rfl)]
def acj{g c:List Ty}{a b:Fm}(d:Hg g a)(f:Hg c b)(i:g.length<=1000000)(j:c.length<=1000000)(h:ry a b):Bs a b=0\/mX (Bs a b):=by rw[Jx d f i j];exact h.Eu
end Go.fN
namespace Go.fN
open Go
def Pf.Ws.parts{k i:Int}{s:Ty}{ts:List Tm}{fs:List Fm}{l:List Pf}(h:(Pf.mk k i s ts fs l).Ws):(∀t∈ts,t.err=0)/\(∀f∈fs,f.err=0)/\∀p∈l,p.Ws:=by
 obtain⟨a,b⟩:=h;rw[Pf.gR] at a;rw[Pf.zW] at b;simp only[gE,kE] at a b;refine⟨λt d=>Tm.ng (a.1.1.2 t d) ?_,λf j=>Fm.ng (a.1.2 f j) ?_,λp c=>⟨a.2 p c,b.2 p c⟩⟩
 ·grind[Ww]
 ·grind[VP]
def adl{g:List Ty}{s:Ty}{F f:Fm}{t:Tm}{m:Nat}(hF:ic (g++[s]) F)(b:dQ g t s)(c:Hg g f)(hg:g.length<=1000000)(d:ry (Fm.fQ 0 F t) f):(∃e,mX e/\BS (.inl (f,m)) F t=.inr e)\/BS (.inl (f,m)) F t=.inl (f,m):=by
 unfold BS;rw[fS];rcases lD F t with a|⟨hn,a⟩
 ·rw[a];exact .inl ⟨4,Az,rfl⟩
 ·rw[a,gr rfl];rcases acj (ua hF b hn) c hg hg d with e|e
  ·grind[gr]
  ·rw[iZ (by rcases e with e|e|e<;>rw[e]<;>decide)];exact .inl ⟨_,e,rfl⟩
def T3(F:Fm)(t:Tm)(u:Nat):kc (ll F t).2 (.inl ((ll F t).1,u))=.inr 4\/kc (ll F t).2 (.inl ((ll F t).1,u))=.inl (Fm.fQ 0 F t,u):=by
 rcases lD F t with a|⟨_,a⟩
 ·rw[a];exact .inl rfl
 ·rw[a];exact .inr rfl
def dQ.fix{g:List Ty}{t:Tm}{s:Ty}(h:dQ g t s):∀d:Int,(g.length:Int)<=d->(∀c,t.up d c=t)/\∀a,Tm.fQ d t a=t:=by
 induction h with
 |@var g s i hi hs=>
  intro d b;refine⟨λc=>by rw[Tm.fh,dI xL];rfl,λa=>?_⟩;rw[Tm.eI,dO rfl];unfold Tm.iQ;rw[dI xL,dI xL]
 |lam hs _ ih=>
  intro d b;have:=ih (d+1) Xw;exact⟨λc=>by rw[Tm.fh];simp[show eP 2=1 from rfl,this.1],λa=>by rw[Tm.eI];simp[show eP 2=1 from rfl,this.2]⟩
 |app _ _ f j=>intro d b;exact⟨λc=>by rw[Tm.fh];simp[show eP 3=0 from rfl,(f d b).1,(j d b).1],λa=>by rw[Tm.eI];simp[show eP 3=0 from rfl,(f d b).2,(j d b).2]⟩|zero=>intro d b;exact⟨λc=>by rw[Tm.fh];simp,λa=>by rw[Tm.eI];simp⟩|succ _ ih=>intro d b;exact⟨λc=>by rw[Tm.fh];simp[show eP 5=0 from rfl,(ih d b).1],λa=>by rw[Tm.eI];simp[show eP 5=0 from rfl,(ih d b).2]⟩|rB _ _ _ _ f j k=>intro d b;exact⟨λc=>by rw[Tm.fh];simp[show eP 6=0 from rfl,(f d b).1,(j d b).1,(k d b).1],λa=>by rw[Tm.eI];simp[show eP 6=0 from rfl,(f d b).2,(j d b).2,(k d b).2]⟩|nil=>intro d b;exact⟨λc=>by rw[Tm.fh];simp,λa=>by rw[Tm.eI];simp⟩|cons _ _ f j=>intro d b;exact⟨λc=>by rw[Tm.fh];simp[show eP 8=0 from rfl,(f d b).1,(j d b).1],λa=>by rw[Tm.eI];simp[show eP 8=0 from rfl,(f d b).2,(j d b).2]⟩|fold _ _ _ _ f j k=>intro d b;exact⟨λc=>by rw[Tm.fh];simp[show eP 9=0 from rfl,(f d b).1,(j d b).1,(k d b).1],λa=>by rw[Tm.eI];simp[show eP 9=0 from rfl,(f d b).2,(j d b).2,(k d b).2]⟩|pair _ _ _ f j=>intro d b;exact⟨λc=>by rw[Tm.fh];simp[show eP 10=0 from rfl,(f d b).1,(j d b).1],λa=>by rw[Tm.eI];simp[show eP 10=0 from rfl,(f d b).2,(j d b).2]⟩|fst _ ih=>intro d b;exact⟨λc=>by rw[Tm.fh];simp[show eP 11=0 from rfl,(ih d b).1],λa=>by rw[Tm.eI];simp[show eP 11=0 from rfl,(ih d b).2]⟩|snd _ ih=>intro d b;exact⟨λc=>by rw[Tm.fh];simp[show eP 12=0 from rfl,(ih d b).1],λa=>by rw[Tm.eI];simp[show eP 12=0 from rfl,(ih d b).2]⟩|unit=>intro d b;exact⟨λc=>by rw[Tm.fh];simp,λa=>by rw[Tm.eI];simp⟩
def abE{L:List Fm}{g:List Ty}{hs:List Fm}(a:Ev L ⟨g,hs⟩){i:Nat}{f:Fm}(h:hs.reverse[i]?=some f):(Pf.mk 1 (i:Int) .z [] [] []).inf L g hs=.inl (f,0):=by
 have hi:i<hs.length:=by simpa using(sX.1 h).1
 rw[List.getElem?_reverse hi] at h;have b:Hg g f:=a.aob f (H9 h);rw[Pf.jE,ZE,j3 xL,show((i:Nat):Int).toNat=i from rfl,Tl,h];show vA (.inl (f,0))=_;rw[Mb b.err]
 split<;>rfl
end Go.fN
