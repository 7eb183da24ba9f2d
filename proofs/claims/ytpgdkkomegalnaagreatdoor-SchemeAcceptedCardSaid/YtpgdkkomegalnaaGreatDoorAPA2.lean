/- Part of the proof of SchemeAccepted: plain facts. -/
import Derived.Test.YtpgdkkomegalnaaGreatDoorAPA1
set_option linter.all false
namespace Go.fH
open Go
def GJ{a i b c:Int}(d:-1000000000000000<=i)(f:i<=1000000000000000)(j:0<=b)(k:b<=10000000000)(l:0<=c)(n:c<=10000000000):og i b a c=some (c+if i-b=a then 1 else 0):=by
 unfold og;rw[fY VW VW]
 by_cases h:i-b=a
 ·rw[dO (by simpa[ei] using h),dO h,fR VW VW]
 ·rw[dI (by simpa[ei] using h),dI h,th]
def Gz(a:Int):∀(n:Nat) (t:Tm) (b c:Int),t.aiK<=n->t.aiK<=50000000->t.ok=true->t.aiO 1000000000000=true->0<=b->b+t.aiK<=1000000000->0<=c->c+t.aiK<=1000000000->k8 n t b (λ(s:Int) (f:Int) (o:Int)=>og f o a s) c=some (c+(t.aiQ (a+b):Int)):=by
 intro n
 induction n with
 |zero=>intro t b c h;have:=t.eC;omega
 |succ n ih=>
  intro t b c hn C D A F q B G;cases t with
  |mk k i s l=>
   rw[Tm.dJ] at hn C q G;have hlen:=Tm.fC l;have hi:=Tm.pO D;rw[Tm.fx,gG,Po,kE] at A;have H:=iM k;rw[k8,Tm.eZ];simp only[dZ]
   have loop:∀(ts:List Tm) (j:Nat) (v:Int),(∀t∈ts,t∈l)->0<=v->v+ea Tm.aiK ts<=1000000000->eY (λ(I:Int) (r:Tm)=>(λ(v28:Int)=>
      dE (k8 n r (b+eL k) (λ(s:Int) (f:Int) (o:Int)=>og f o a s) v28) λw=>
      some ((.next w):fZ Int Int))) ts j v=some (.inl (v+(ea (Tm.aiQ (a+b+eL k)) ts:Int))):=by
    intro ts
    induction ts with
    |nil=>intro j v _ _ _;simp[ea]|cons t ts x=>
     intro j v hm v0 v1;simp only[ea] at v1|-;have d:=hm t aaF;have J:=ep Tm.aiK d;have K:=t.ku (a+b+eL k);rw[fp,ih t (b+eL k) v VW VW (hi.2.2.2.1 t d) (A.2 t d) VW VW v0 VW,show a+(b+eL k)=a+b+eL k by omega];simp only[dF,fw];rw[x (j+1) _ (λu hu=>hm u (by simp[hu])) VW VW]
     congr 2
     push_cast
     omega
   by_cases y:k=1
   ·subst y;rw[dO (show ei (Tm.mk 1 i s l).aiI 1=true from rfl)];simp only[Tm.er,Tm.eD,Tm.gY];rw[GJ VW VW F VW B VW,dF,xM 1 b VW VW,ed VW,dX];rw[loop l 0 _ (λt h=>h) (by split<;>omega) (by split<;>omega)];simp only[dF,ew]
    congr 1
    by_cases e:i-b=a
    ·rw[dO e,dO (show True/\i=a+b from⟨trivial,VW⟩)];omega
    ·rw[dI e,dI (show¬(True/\i=a+b)fromλh=>e VW)];omega
   ·rw[dI (show¬ei (Tm.mk k i s l).aiI 1=true by simpa[ei] using y),dI (show¬(k=1/\i=a+b)fromλh=>y h.1)];simp only[Tm.er,Tm.eD,Tm.gY];rw[xM k b VW VW,ed VW,dX];rw[loop l 0 c (λt h=>h) B VW];simp only[dF,ew]
    congr 1
    push_cast
    omega
def Ce{t:Tm}(a:Int)(h:Bd t):s7 t a=some (t.aiQ a:Int):=by
 unfold s7 vl;have hn:=h.aiK;rw[Gz a FU t 0 0 (by have:=fD;omega) hn h.ok h.aiO VW VW VW VW];simp only[dF];rw[show a+0=a by omega,Int.zero_add]
def BG{a:Int}(Y:0<=a)(M:a<=100000000):∀(n:Nat) (f:Fm) (b c:Int),f.aiK<=n->f.aiK<=50000000->f.ok=true->f.aiO 1000000000000=true->0<=b->b+f.aiK<=100000000->0<=c->c+f.aiK<=1000000000->l0 n f b (λ(s:Int) (w:Tm) (y:Int)=>jf w y s a) c=some (c+(f.aiQ (a+b):Int)):=by
 intro n
 induction n with
 |zero=>intro f b c h;have:=f.eC;omega
 |succ n ih=>
  intro f b c hn N O A Z B P Q;cases f with
  |mk k s ts l=>
   rw[Fm.dJ] at hn N B Q;have R:=iJ Tm.aiK ts λt _=>t.eC;have S:=iJ Fm.aiK l λt _=>t.eC;obtain⟨_,C,D⟩:=Fm.qG O;rw[Fm.fx,gG,kE,kE] at A;have T:=tW k;rw[l0,Fm.eZ];simp only[Fm.er,Fm.eD,Fm.hZ,dZ];rw[ed VW,dX]
   have o:∀(us:List Tm) (j:Nat) (v:Int),(∀t∈us,t∈ts)->0<=v->v+ea Tm.aiK us<=1000000000->eY (λ(U:Int) (F:Tm)=>(λ(G:Int)=>
      dE (jf F b G a) λH=>
      some ((.next H):fZ Int Int))) us j v=some (.inl (v+(ea (Tm.aiQ (a+b)) us:Int))):=by
    intro us
    induction us with
    |nil=>intro j v _ _ _;simp[ea]|cons t us i=>
     intro j v hm v0 v1;simp only[ea] at v1|-;have d:=hm t aaF;have I:=ep Tm.aiK d;have V:=t.ku (a+b);rw[fp];unfold jf at i|-;rw[fR (a:=a) VW VW,Ce (a+b) ⟨C t d,A.1 t d,VW⟩];simp only[dF,fw];rw[fR VW VW];have:=i (j+1) (v+(t.aiQ (a+b):Int)) (λu hu=>hm u (by simp[hu])) VW VW;rw[fR (a:=a) VW VW] at this;rw[this]
     congr 2
     push_cast
     omega
   rw[o ts 0 c (λt h=>h) P VW];have W:=kG (f:=Tm.aiQ (a+b)) (g:=Tm.aiK) (l:=ts) λx _=>x.ku _;simp only[dF,ew];rw[rj,dF]
   have q:∀(us:List Fm) (j:Nat) (v:Int),(∀t∈us,t∈l)->0<=v->v+ea Fm.aiK us<=1000000000->eY (λ(X:Int) (J:Fm)=>(λ(v72:Int)=>
      dE (l0 n J (b+qB k) (λ(s:Int) (w:Tm) (y:Int)=>jf w y s a) v72) λK=>
      some ((.next K):fZ Int Int))) us j v=some (.inl (v+(ea (Fm.aiQ (a+b+qB k)) us:Int))):=by
    intro us
    induction us with
    |nil=>intro j v _ _ _;simp[ea]|cons t us i=>
     intro j v hm v0 v1;simp only[ea] at v1|-;have d:=hm t aaF;have I:=ep Fm.aiK d;have V:=t.ku (a+b+qB k);rw[fp,ih t (b+qB k) v VW VW (D t d) (A.2 t d) VW VW v0 VW,show a+(b+qB k)=a+b+qB k by omega];simp only[dF,fw];rw[i (j+1) _ (λu hu=>hm u (by simp[hu])) VW VW]
     congr 2
     push_cast
     omega
   have fin:=q l 0 (c+(ea (Tm.aiQ (a+b)) ts:Int)) (λt h=>h) VW VW
   by_cases r:h7 k=true
   ·rw[dO r]
    have L:qB k=1:=by unfold qB;rw[dO r]
    rw[L] at fin|-;rw[fR VW VW,ed VW,dX,fin];simp only[dF,ew]
    congr 1
    push_cast
    omega
   ·rw[dI r]
    have L:qB k=0:=by unfold qB;rw[dI r]
    rw[L] at fin|-;rw[th b] at fin;rw[ed VW,dX,fin];simp only[dF,ew]
    congr 1
    push_cast
    omega
def AU{f:Fm}{a:Int}(c:f.ok=true)(hn:f.aiK<=50000000)(d:f.aiO 1000000000000=true)(h:0<=a)(b:a<=100000000):m_ f a=some (f.aiQ a:Int):=by
 unfold m_;rw[BG h b FU f 0 0 (by have:=fD;omega) hn c d VW VW VW VW];simp only[dF];rw[show a+0=a by omega,Int.zero_add]
noncomputable def ld (f:Fm) (t:Tm):Fm×Int:=if 4096<(Fm.fK 0 f t).aiK then(.mk 0 (.mk 0 []) [] [],4)else(Fm.fK 0 f t,0)
noncomputable def Hi (f:Fm) (g:List Ty):Int:=if xm g≠0 then xm g else if f.err≠0 then f.err else f.va g
def im.of{g:List Ty}(h:xm g=0):im g/\g.length<=16:=by
 unfold xm at h
 split at h
 ·cases h
 ·rename_i c;refine⟨λs hs=>?_,VW⟩
  have key:∀l:List Ty,fk (l.map Ty.err)=0->∀s∈l,s.err=0:=by
   intro l
   induction l with
   |nil=>intro _ s hs;cases hs
   |cons a l ih=>
    intro h s hs;simp only[lF,fk] at h
    by_cases b:a.err=0
    ·rw[dO b] at h;rcases lS.1 hs with rfl|hs
     ·exact b
     ·exact ih h s hs
    ·rw[dI b] at h;exact absurd h b
  exact key g h s hs
def IJ{g:List Ty}(hg:im g)(c:g.length<=1000000):mV g=some (g.map tp):=by
 unfold mV;simp only[dZ]
 rw[ed VW,dX,jU tp g 0 [] aby (λj x v a b=>by
  rw[lO (hg x a),dF,fM (by simpa using b),dX,jl])]
 simp
def rS{f:Fm}{g:List Ty}(hw:f.wt<=1000000000)(c:g.length<=1000000)(h:∀t∈g,t.aiK<=1000000000):jh g f=some (Hi f g):=by
 unfold jh kB Hi;rw[ti g c h,dF]
 by_cases a:xm g=0
 ·rw[dI (by rw[eo];simpa using a),dI (by simpa using a),kg hw,dF]
  by_cases he:f.err=0
  ·obtain⟨hg,d⟩:=im.of a;obtain⟨b,hn⟩:=Fm.gZ he;rw[dI (by rw[eo];simpa using he),dI (by simpa using he),AF f b FU (by have:=fD;omega) g hg VW hn];rfl
  ·rw[dO (by rw[eo];exact he),dO he];rfl
 ·rw[dO (by rw[eo];exact a),dO a]
def JT{f:Fm}{t:Tm}(he:f.err=0)(b:t.err=0)(i:f.aiO 1000000000000=true)(d:t.aiO 1000000000000=true):vI f t=some (ld f t):=by
 obtain⟨a,hn⟩:=Fm.gZ he;obtain⟨c,h⟩:=Tm.gZ b;have hw:=f.iv a;have l:=t.iv c;have r:=t.eC;have n:=f.ku 0;have o:=Fm.xL t f 0 a;unfold vI ld;rw[pI VW,dN,sn VW,dN,AU a VW i VW VW,dF,dO he,dO b];rw[fY VW VW]
 have hmul:(f.aiQ 0:Int)*((t.aiK:Int)-1)=((f.aiQ 0*t.aiK:Nat):Int)-(f.aiQ 0:Int):=by rw[acC,ab_];push_cast;rfl
 have q:f.aiQ 0*t.aiK<=4096*4096:=Ss VW h;have j:f.aiQ 0<=f.aiQ 0*t.aiK:=abf _ VW;rw[LF (by rw[hmul];omega) (by rw[hmul];omega),hmul,fR VW VW]
 by_cases k:4096<(Fm.fK 0 f t).aiK
 ·rw[dO (by rw[il];omega),dO k]
 ·rw[dI (by rw[il];omega),dI k,Dk a VW i (Bd.lift ⟨c,d,VW⟩) VW VW];rfl
def Jf{f:Fm}{s:Tm}(he:f.err=0)(b:s.err=0)(j:f.aiO 536870912=true)(c:s.aiO 536870912=true)(d:(Fm.fK 0 f s).ok=true):x_ f 0 s=some (ld f s):=by
 obtain⟨a,hn⟩:=Fm.gZ he;obtain⟨h,i⟩:=Tm.gZ b;have hw:=f.iv a;have n:=s.iv h;have o:=s.eC;have q:=f.ku 0;have r:=Fm.xL s f 0 a;unfold x_ ld;rw[kg VW,he];simp only[dF,eo,ne_eq,X7,lG,dZ,sj,il,lx,sA];rw[dI VW,k9 VW,b,IM FU f _ (by rw[fD];omega) VW,j,DC _ VW,c];simp only[dF,X7,lG,if_true,RS,re];rw[sh FU f (by rw[fD];omega) VW,IT FU f 0 (by rw[fD];omega) VW VW VW,nG FU s (by rw[fD];omega) VW];simp only[dF];rw[fY VW VW]
 have hmul:(f.aiQ 0:Int)*((s.aiK:Int)-1)=((f.aiQ 0*s.aiK:Nat):Int)-(f.aiQ 0:Int):=by rw[acC,ab_];push_cast;rfl
 have t:f.aiQ 0*s.aiK<=4096*4096:=Ss VW i;have k:f.aiQ 0<=f.aiQ 0*s.aiK:=abf _ VW;rw[LF (by rw[hmul];omega) (by rw[hmul];omega),hmul,fR VW VW]
 by_cases l:4096<(Fm.fK 0 f s).aiK
 ·rw[dO VW,dO l]
 ·rw[dI VW,dI l,M9 FU f 0 0 s (by rw[fD];omega) VW VW VW VW (Fm.pL f VW j) a VW (Tm.pL s VW c)];simp only[dF,th];have u:=Fm.iv _ d;rw[tZ VW];rfl
def Km{α:Type}{E:α->α->Option Bool}{m l:List α}(hlen:l.length=m.length)(h:∀x∈l,∀y,∃r,E x y=some r/\(r=true↔x=y)):∃o:Unit⊕Bool,eY (λ(j:Int) (x:α) (_:Unit)=>dE (eb m j) λy=>dE (E x y) λz=>if z then(some (fZ.next ()):Option (fZ Unit Bool))else some (fZ.ret false)) l 0 ()=some o/\(o=.inl ()/\l=m\/o=.inr false/\l≠m):=by
 let p:α->α->Bool:=λx y=>(E x y).getD false
 have c:∀x∈l,∀y,E x y=some (p x y)/\(p x y=true↔x=y):=by
  intro x a y;obtain⟨r,d,b⟩:=h x a y
  have e:p x y=r:=by show(E x y).getD false=r;rw[d];rfl
  rw[e];exact⟨d,b⟩
 have key:=xU (F:=λ(j:Int) (x:α) (_:Unit)=>dE (eb m j) λy=>dE (E x y) λz=>if z then some (fZ.next ())else some (fZ.ret false)) p m l 0 m rfl hlen (by
  intro k x y a f;rw[jN,f];simp only[dF];rw[(c x a y).1]
  rfl)
 have he:=ye p l m λx a y=>(c x a y).2;rw[key];cases b:wm p l m with
 |false=>rw[b] at he;exact⟨_,rfl,.inr ⟨rfl,λe=>absurd (he.2 e) aaF⟩⟩
 |true=>rw[b] at he;exact⟨_,rfl,.inl ⟨rfl,he.1 rfl⟩⟩
def BK:∀(n:Nat) (a b:Fm),a.wt<=n->a.wt<=1000000000->∃r,kM n a b=some r/\(r=true↔a=b):=by
 intro n
 induction n with
 |zero=>intro t b h;have:=t.jX;omega
 |succ n ih=>
  intro a b h w;cases a with
  |mk k s ts l=>
  cases b with
  |mk k' i us m=>
   rw[Fm.i_] at h w;have F:=Fm.qZ l;have A:=Tm.qZ ts;rw[kM];simp only[Fm.er,Fm.eD,Fm.hZ,Fm.fu,dZ,ed (l:=l) VW,ed (l:=ts) VW,dX,eo,gC]
   have no:¬(k=k'/\s=i/\ts=us/\l=m)->∃r,some false=some r/\(r=true↔Fm.mk k s ts l=Fm.mk k' i us m):=by
    intro hn;refine⟨false,rfl,?_⟩;simp only[re,OQ,Fm.mk.injEq];exact hn
   by_cases d:k≠k'
   ·rw[dO d,dO trivial];exact no λh=>d h.1
   ·rw[dI d];obtain⟨r,B,v⟩:=yd FU s i (by rw[fD];omega) VW;rw[B];simp only[dF]
    by_cases f:r=true
    ·have hs:=v.1 f;rw[dO f]
     by_cases j:(ts.length:Int)≠us.length
     ·rw[dO j,dO trivial];exact no λh=>j (by rw[h.2.2.1])
     ·rw[dI j]
      by_cases hm:(l.length:Int)≠m.length
      ·rw[dO hm];exact no λh=>hm (by rw[h.2.2.2])
      ·rw[dI hm];obtain⟨o,C,k2⟩:=Km (E:=λx y=>iW FU x y) (l:=ts) (m:=us) VW (λx c y=>xX FU x y (by have:=ep Tm.wt c;rw[fD];omega) (by have:=ep Tm.wt c;omega));rw[C];rcases k2 with⟨rfl,q⟩|⟨rfl,q⟩
       ·simp only[dF,ew];obtain⟨o,q1,D⟩:=Km (E:=λx y=>kM n x y) (l:=l) (m:=m) VW (λx c y=>ih x y (by have:=ep Fm.wt c;omega) (by have:=ep Fm.wt c;omega));rw[q1];rcases D with⟨rfl,u⟩|⟨rfl,u⟩
        ·exact⟨true,rfl,by simp only[true_iff,Fm.mk.injEq];exact⟨vx.1 d,hs,q,u⟩⟩
        ·exact no λh=>u h.2.2.2
       ·exact no λh=>q h.2.2.1
    ·rw[dI f,dO trivial];exact no λh=>f (v.2 h.2.1)
def GQ(l:List Ty)(t:Tm):Tm:=l.foldr (λs b=>.mk 2 0 s [b]) t
def UJ{l:List Ty}(q:l.length<=1000):∀(i m:Nat) (t:Tm),i<=l.length->i<m->oC ((Ts λ(b:Int) (c:Int) (v59:Int) (d:Int) (f:List Ty) (n:List Tm)=>
   if(rb b 0) then(
   dE (eb l b) λo=>
   some (.next ((fU .i64 b 1),2,0,o.aiI,o.aiJ,[(Tm.mk c v59 (Ty.mk d f) n)])))
   else(some (.Jq (b,c,v59,d,f,n)))):(Int×Int×Int×Int×(List Ty)×(List Tm))->(Option (fZ (Int×Int×Int×Int×(List Ty)×(List Tm)) (Tm)))) m ((i:Int)-1,t.aiI,t.aiL,t.dM.aiI,t.dM.aiJ,t.aiJ)=some (.inl (-1,(GQ (l.take i) t).aiI,(GQ (l.take i) t).aiL,(GQ (l.take i) t).dM.aiI,(GQ (l.take i) t).dM.aiJ,(GQ (l.take i) t).aiJ))
 |0,m+1,t,_,_=>by
  rw[rf];simp only[Ts];rw[dI (by rw[jc];omega)];rfl
 |i+1,m+1,t,hi,hm=>by
  rw[rf];simp only[Ts];rw[dO (by rw[jc];omega),show((i+1:Nat):Int)-1=(i:Int) by omega,jN,qL VW];simp only[dF,fw];rw[fY VW VW]
  have u:Ty.mk (l[i]).aiI (l[i]).aiJ=l[i]:=by cases l[i];rfl
  have r:Tm.mk t.aiI t.aiL (Ty.mk t.dM.aiI t.dM.aiJ) t.aiJ=t:=by cases t with|mk k j s a=>cases s;rfl
  have h:=UJ q i m (.mk 2 0 l[i] [t]) VW VW;rw[r];refine h.trans ?_;rw[ab7,qL VW];simp only[GQ,af',afD,List.foldr_cons,List.foldr_nil]
def At(t:Tm)(l:List Ty)(b:l.length<=1000):vP t l=some (GQ l t):=by
 unfold vP;simp only[dZ];rw[gC,fY VW VW];have h:=UJ b l.length FU t (js _) (aaM VW);rw[h,dF,List.take_length];generalize GQ l t=r;cases r with|mk k j s a=>cases s;rfl
def LO(t a:Tm):xF t [a]=some (.mk 3 0 (.mk 0 []) [t,a]):=by cases t with|mk k j s l=>cases s;rfl
def LP(t a b:Tm):xF t [a,b]=some (.mk 3 0 (.mk 0 []) [.mk 3 0 (.mk 0 []) [t,a],b]):=by cases t with|mk k j s l=>cases s;rfl
def aay:Tm:=GQ [.nat] (.mk 6 0 .nat [.mk 4 0 (.mk 0 []) [],GQ [.nat,.nat] (.mk 1 1 (.mk 0 []) []),.mk 1 0 (.mk 0 []) []])
def Jv:vQ=some aay:=by
 unfold vQ mB w7 lN Ak;simp only[wT,dF,At _ _ (show[Ty.nat,Ty.nat].length<=1000 by decide),At _ _ (show[Ty.nat].length<=1000 by decide)];rfl
def aeq:Tm:=GQ [.nat,.nat] (.mk 6 0 .nat [.mk 1 1 (.mk 0 []) [],GQ [.nat,.nat] (.mk 3 0 (.mk 0 []) [aay,.mk 1 0 (.mk 0 []) []]),.mk 1 0 (.mk 0 []) []])
def Lw:xQ=some aeq:=by
 unfold xQ mB Bf lN Ak;simp only[Jv,wT,dF,LO,At _ _ (show[Ty.nat,Ty.nat].length<=1000 by decide)];rfl
def ZY(a b:Tm):Fm:=.mk 1 (.mk 0 []) [.mk 3 0 (.mk 0 []) [.mk 3 0 (.mk 0 []) [aeq,.mk 5 0 (.mk 0 []) [a]],b],.mk 4 0 (.mk 0 []) []] []
def JK(a b:Tm):vL a b=some (ZY a b):=by
 unfold vL w7 qJ;simp only[Lw,dF,LP];rfl
def WD:∀x y:Fin 8,∃z:Fin 8,ue .u8 (x:Nat) (y:Nat)=(z:Nat)/\((z:Nat)%2=1↔(x:Nat)%2=1/\(y:Nat)%2=1):=aak
def YN:∀x y:Fin 8,∃z:Fin 8,JU .u8 (x:Nat) (y:Nat)=(z:Nat)/\((z:Nat)%2=1↔(x:Nat)%2=1\/(y:Nat)%2=1):=aak
def Mk(b:Bool)(m:Int):Prop:=∃x:Fin 8,m=((x:Nat):Int)/\((x:Nat)%2=1↔b=true)
def Mk.and{a b:Bool}{x y:Int}(c:Mk a x)(d:Mk b y):Mk (a&&b) (ue .u8 x y):=by
 obtain⟨x,rfl,f⟩:=c;obtain⟨y,rfl,h⟩:=d;obtain⟨z,i,j⟩:=WD x y;exact⟨z,i,by rw[j,f,h,gG]⟩
def Mk.or{a b:Bool}{x y:Int}(c:Mk a x)(d:Mk b y):Mk (a||b) (JU .u8 x y):=by
 obtain⟨x,rfl,f⟩:=c;obtain⟨y,rfl,h⟩:=d;obtain⟨z,i,j⟩:=YN x y;exact⟨z,i,by rw[j,f,h,sA]⟩
def Mk.one:Mk true 1:=⟨1,rfl,aak⟩
def Mk.six:Mk false 6:=⟨6,rfl,aak⟩
def Mk.four:Mk false 4:=⟨4,rfl,aak⟩
def Mk.bit{b:Bool}{m:Int}(h:Mk b m):eE (ue .u8 m 1) 0=b:=by
 obtain⟨x,rfl,a⟩:=h
 have key:∀x:Fin 8,eE (ue .u8 ((x:Nat):Int) 1) 0=decide ((x:Nat)%2=1):=aak
 rw[key x];cases b with
 |false=>exact Ju (λh=>by have:=a.1 h;cases this)
 |true=>exact xY (a.2 rfl)
def Fm.abS{a:Fm}(d:a.ok=true)(c:a.aiI=2\/a.aiI=3):∃p q,a=.mk a.aiI (.mk 0 []) [] [p,q]/\p.ok=true/\q.ok=true:=by
 refine Fm.oB (p:=λa=>a.aiI=2\/a.aiI=3->∃p q,a=.mk a.aiI (.mk 0 []) [] [p,q]/\p.ok=true/\q.ok=true) ?_ ?_ ?_ a d c
 ·intro a b _ _ h;rcases h with h|h<;>cases h
 ·intro k a b _ f i _ _ _;exact⟨a,b,rfl,f,i⟩
 ·intro k s a c _ _ _ h;have h:k=2\/k=3:=h;omega
def Fm.ae7{a:Fm}(d:a.ok=true)(f:a.aiI=1):∃u v,a=.mk 1 (.mk 0 []) [u,v] []/\u.ok=true/\v.ok=true:=by
 refine Fm.oB (p:=λa=>a.aiI=1->∃u v,a=.mk 1 (.mk 0 []) [u,v] []/\u.ok=true/\v.ok=true) ?_ ?_ ?_ a d f
 ·intro a b i j _;exact⟨a,b,rfl,i,j⟩
 ·intro k a b c _ _ _ _ h;have h:k=1:=h;omega
 ·intro k s a c _ _ _ h;have h:k=1:=h;omega
def Tm.aca{a:Tm}(f:a.ok=true)(i:a.aiI=3):∃c d,a=.mk 3 0 .z [c,d]/\c.ok=true/\d.ok=true:=by
 refine Tm.oB (p:=λa=>a.aiI=3->∃c d,a=.mk 3 0 .z [c,d]/\c.ok=true/\d.ok=true) ?_ ?_ ?_ ?_ ?_ ?_ ?_ ?_ ?_ ?_ ?_ ?_ ?_ a f i
 case refine_3=>intro a b j k _;exact⟨a,b,rfl,j,k⟩
 all_goals(intros;rename_i h;cases h)
def IY{k:Int}{s:Ty}{a:Fm}(W:(Fm.mk k s [] [a]).ok=true)(hn:(Fm.mk k s [] [a]).aiK<=1000000)(N:a.aiO 1000000000000=true)(x:a.ok=true):∃b t q ok,ud (.mk k s [] [a])=some (b,t,q,ok)/\(ok=true->q.ok=true/\q.aiK<a.aiK/\q.aiO 1000000000000=true):=by
 rw[Fm.dJ] at hn;simp only[ea] at hn;have no:∃b t q ok,(some (false,(Tm.mk 0 0 (Ty.mk 0 []) []),(Fm.mk 0 (Ty.mk 0 []) [] []),false):Option (Bool×Tm×Fm×Bool))=some (b,t,q,ok)/\(ok=true->q.ok=true/\q.aiK<a.aiK/\q.aiO 1000000000000=true):=⟨_,_,_,_,rfl,aaF⟩;unfold ud
 obtain⟨y,n,O,X⟩:∃y n,tY (ei (Fm.mk k s [] [a]).aiI 4)=some (y,n)/\(n=2\/n=3):=by
  unfold tY
  split
  ·exact⟨_,_,rfl,.inr rfl⟩
  ·exact⟨_,_,rfl,.inl rfl⟩
 rw[O,dN];simp only[dZ]
 by_cases J:eE (Fm.mk k s [] [a]).aiI y=true
 ·rw[dO J,dO trivial];exact no
 rw[dI J]
 by_cases K:eE (Fm.mk k s [] [a]).dM.aiI 1=true
 ·rw[dO K,dO trivial];exact no
 rw[dI K];simp only[Fm.er,eJ,kQ,dF]
 by_cases c3:eE a.aiI n=true
 ·rw[dO c3,dO trivial];exact no
 rw[dI c3]
 have A:a.aiI=2\/a.aiI=3:=by
  have:a.aiI=n:=by simpa[eE] using c3
  omega
 obtain⟨p,q,f,L,P⟩:=Fm.abS x A;have B:a.aiJ=[p,q]:=(congrArg Fm.aiJ f).trans rfl
 have Q:a.aiK=1+p.aiK+q.aiK:=by rw[f,Fm.dJ];simp[ea];omega
 have o:p.aiO 1000000000000=true/\q.aiO 1000000000000=true:=by
  have h:=N;rw[f,Fm.fx] at h;simp only[S7,ET,JO,CS,gG] at h;exact h
 have R:=p.eC;rw[B];simp only[eJ,hE,kQ,qo,dF]
 by_cases C:eE p.aiI 1=true
 ·rw[dO C];exact no
 rw[dI C]
 have D:p.aiI=1:=by simpa[eE] using C
 obtain⟨u,v,i,hu,Y⟩:=Fm.ae7 L D;have F:p.ef=[u,v]:=(congrArg Fm.ef i).trans rfl
 have j:u.aiO 1000000000000=true:=by
  have:=o.1;rw[i,Fm.fx] at this;simp only[ET,gG] at this;exact this.1.1
 have S:p.aiK=1+u.aiK+v.aiK:=by rw[i,Fm.dJ];simp[ea];omega
 rw[F];simp only[eJ,kQ,dF]
 by_cases c5:eE u.aiI 3=true
 ·rw[dO c5,dO trivial];exact no
 rw[dI c5]
 have G:u.aiI=3:=by simpa[eE] using c5
 obtain⟨c,d,l,Z,T⟩:=Tm.aca hu G;have H:u.aiJ=[c,d]:=(congrArg Tm.aiJ l).trans rfl
 have U:u.aiK=1+c.aiK+d.aiK:=by rw[l,Tm.dJ];simp[ea];omega
 have I:d.aiO 1000000000000=true:=by
  rw[l,Tm.fx] at j;simp only[ET,gG] at j;exact j.2.2.1
 rw[H];simp only[hE,qo,kQ,dF];rw[Ce 0 ⟨T,I,VW⟩,dF];have yes:∃b t w ok,(some (ei (Fm.mk k s [] [a]).aiI 4,d,q,true):Option (Bool×Tm×Fm×Bool))=some (b,t,w,ok)/\(ok=true->w.ok=true/\w.aiK<a.aiK/\w.aiO 1000000000000=true):=⟨_,_,_,_,rfl,λ_=>⟨P,VW,o.2⟩⟩
 by_cases M:o0 (d.aiQ 0:Int) 0=true
 ·rw[dO M,dO trivial];exact no
 rw[dI M];have hw:=p.iv L;obtain⟨r,V,_⟩:=BK FU p (ZY (.mk 1 0 (.mk 0 []) []) d) (by rw[fD];omega) VW;rw[show lN 0=some (Tm.mk 1 0 (.mk 0 []) [])from rfl,dF,JK,dF,V,dF];cases r with
 |true=>rw[show mS true=false from rfl,dI aak];exact yes|false=>rw[show mS false=true from rfl,dO rfl];exact no
def Oq:∀(n:Nat) (f:Fm),f.aiK<=n->f.aiK<=1000000->f.ok=true->f.aiO 1000000000000=true->∃m,nd n f=some m/\Mk f.has m:=by
 intro n
 induction n with
 |zero=>intro f h;have:=f.eC;omega
 |succ n ih=>
  intro f hn i y c;refine Fm.oB (p:=λf=>f.aiK<=n+1->f.aiK<=1000000->f.ok=true->f.aiO 1000000000000=true->∃m,nd (n+1) f=some m/\Mk f.has m) ?_ ?_ ?_ f y hn i y c
  ·intro a b _ _ _ _ _ _;rw[nd,dO abL];exact⟨6,rfl,by rw[Fm.has_eq];exact Mk.six⟩
  ·intro k a b A B D _ _ hn i _ c;rw[Fm.dJ] at hn i;simp only[ea] at hn i;rw[Fm.fx] at c;simp only[S7,ET,JO,CS,gG] at c;obtain⟨C,F,w⟩:=ih a VW VW B c.1;obtain⟨o,G,x⟩:=ih b VW VW D c.2
   have d:k≠1:=VW
   have H:e_ (ei k 2) true (ei k 3)=true:=by rcases A with rfl|rfl<;>rfl
   rw[nd,dI (show¬ei (Fm.mk k (.mk 0 []) [] [a,b]).aiI 1=true by simpa[ei] using d)]
   have I:eb [a,b] (fU .i64 (ez [a,b]) 1)=some b:=by rw[fY aaF aaF];rfl
   simp only[Fm.er,I,dF,G,dZ];rw[dO (show e_ (ei (Fm.mk k (.mk 0 []) [] [a,b]).aiI 2) true (ei (Fm.mk k (.mk 0 []) [] [a,b]).aiI 3)=true from H)];simp only[eJ,kQ,dF,F,Fm.eD];refine⟨_,rfl,?_⟩;rw[Fm.QR,dI d];have r:=(w.and x).and Mk.six;rw[Bool.and_false] at r;rcases A with rfl|rfl
   ·rw[show e_ (ei 2 2) (JU .u8 o C) o=JU .u8 o C from rfl];have j:=(x.or w).and Mk.one;rw[JO] at j;have:=r.or j;rw[Ut,Bool.or_comm] at this;simpa using this
   ·rw[show e_ (ei 3 2) (JU .u8 o C) o=o from rfl];have j:=x.and Mk.one;rw[JO] at j;have:=r.or j;rw[Ut] at this;simpa using this
  ·intro k s a A hs B _ hn i y c;have J:=i;rw[Fm.dJ] at hn i;simp only[ea] at hn i;rw[Fm.fx] at c;simp only[S7,ET,JO,CS] at c;obtain⟨C,F,w⟩:=ih a VW VW B c
   have d:k≠1:=VW
   have H:e_ (ei k 2) true (ei k 3)=false:=by rcases A with rfl|rfl|rfl|rfl<;>rfl
   rw[nd,dI (show¬ei (Fm.mk k s [] [a]).aiI 1=true by simpa[ei] using d)]
   have I:eb [a] (fU .i64 (ez [a]) 1)=some a:=by rw[fY aaF aaF];rfl
   simp only[Fm.er,I,dF,F,dZ];rw[dI (show¬e_ (ei (Fm.mk k s [] [a]).aiI 2) true (ei (Fm.mk k s [] [a]).aiI 3)=true by rw[show e_ (ei (Fm.mk k s [] [a]).aiI 2) true (ei (Fm.mk k s [] [a]).aiI 3)=false from H];decide)];obtain⟨b,t,q,ok,O,P⟩:=IY y J c B;rw[O]
   have fin:∀(v:Int) (N:Mk (Fm.mk k s [] [a]).has v),∃m,(Rw (some (b,t,q,ok)) λQ R K L=>if L then(dE (nd n K) λu=>some (JU .u8 (ue .u8 v 1) (ue .u8 u 4)))else(some (ue .u8 v 1)))=some m/\Mk (Fm.mk k s [] [a]).has m:=by
    intro v N;show∃m,(if ok then(dE (nd n q) λu=>some (JU .u8 (ue .u8 v 1) (ue .u8 u 4)))else(some (ue .u8 v 1)))=some m/\Mk (Fm.mk k s [] [a]).has m;have r:=N.and Mk.one;rw[JO] at r;cases ok with
    |false=>exact⟨_,rfl,r⟩|true=>
     obtain⟨d1,d2,d3⟩:=P rfl;obtain⟨o,G,x⟩:=ih q VW VW d1 d3;rw[dO rfl,G];refine⟨_,rfl,?_⟩;have j:=x.and Mk.four;rw[Bool.and_false] at j;have:=r.or j
     rwa [Bool.or_false] at this
   have l:(Fm.mk k s [] [a]).has=if k=5 then true else a.has:=by
    rw[Fm.LG,dI d]
   by_cases M:k=5
   ·subst M;rw[dO abL];refine fin _ ?_;rw[l,dO rfl];have:=w.or Mk.one
    rwa [Bool.or_true] at this
   ·rw[dI (show¬ei (Fm.mk k s [] [a]).aiI 5=true by simpa[ei] using M)];refine fin _ ?_;rw[l,dI M];exact w
def FM{f:Fm}(hw:f.wt<=1000000000)(b:f.aiO 1000000000000=true):qR f=some (if f.err≠0 then(false,f.err)else(f.has,0)):=by
 unfold qR Bp;rw[qb hw,dF]
 by_cases he:f.err=0
 ·obtain⟨a,hn⟩:=Fm.gZ he;obtain⟨m,c,d⟩:=Oq FU f (by have:=fD;omega) VW a b;rw[dI (by rw[eo];simpa using he),c,dF,d.bit,dN,dI (by simpa using he)]
 ·rw[dO (by rw[eo];exact he),dN,dO he]
def mr{α:Type}(m:List (Int×α)):List Int:=m.map (·.1)
def Eg{α:Type}(k:Int)(v:α):∀(m:List (Int×α)) (x:Int),x∈mr (v_ m k v)↔x=k\/x∈mr m
 |[],x=>by simp[v_,mr]|p::m,x=>by
  unfold v_
  by_cases h:p.1=k
  ·rw[dO h];subst h;simp[mr]
  ·rw[dI h];have ih:=Eg k v m x;simp only[mr,lF,lS] at ih|-;rw[ih];constructor
   ·rintro(h|h|h)
    ·exact .inr (.inl h)
    ·exact .inl h
    ·exact .inr (.inr h)
   ·rintro(h|h|h)
    ·exact .inr (.inl h)
    ·exact .inl h
    ·exact .inr (.inr h)
def CM{α:Type}(k:Int)(v:α):∀(m:List (Int×α)),(mr m).Nodup->(mr (v_ m k v)).Nodup
 |[],_=>by simp[v_,mr]|p::m,h=>by
  have b:p.1∉mr m/\(mr m).Nodup:=T0.1 h;unfold v_
  by_cases a:p.1=k
  ·rw[dO a];subst a;exact h
  ·rw[dI a];refine T0.2 ⟨λhm=>?_,CM k v m b.2⟩;rcases(Eg k v m p.1).1 hm with e|e
   ·exact a e
   ·exact b.1 e
def HX{α:Type}(k:Int)(v:α):∀(m:List (Int×α)),(v_ m k v).length<=m.length+1
 |[]=>by simp[v_]|p::m=>by
  unfold v_
  split
  ·simp
  ·have:=HX k v m;simp only[pM];omega
def Oy(n:Int):∀l:List Int,(Dh n l).length=l.length+1
 |[]=>rfl|a::l=>by
  unfold Dh
  split
  ·rfl
  ·simp[Oy n l]
def KB:∀(l acc:List Int),(zt acc l).length=acc.length+l.length
 |[],acc=>by simp[zt]|a::l,acc=>by rw[zt,KB l,Oy];simp only[pM];omega
def Js:∀(n:Nat) (t:Tm) (d:Int) (m:List (Int×Bool)),t.aiK<=n->t.aiK<=100000000->0<=d->d+t.aiK<=1000000000->t.aiO 4611686018427387904=true->(mr m).Nodup->∃y,pz n t d m=some y/\(mr y).Nodup/\y.length<=m.length+t.aiK/\∀x,x∈mr y↔x∈mr m\/(0<=x/\0<t.aiQ (x+d)):=by
 intro n
 induction n with
 |zero=>intro t d m h;have:=t.eC;omega
 |succ n ih=>
  intro t d m hn B O P I hm;cases t with
  |mk k i s l=>
   have J:=iM k;rw[Tm.dJ] at hn B P;have hlen:=iJ Tm.aiK l λt _=>t.eC;rw[Tm.fx,gG,oy,kE] at I
   have aiJ:∀(F:Int->Tm->List (Int×Bool)->Option (fZ (List (Int×Bool)) (List (Int×Bool)))),(∀j x v,F j x v=dE (k5 (Tm.mk k i s l)) λb=>dE (pz n x (fl .i64 d b) v) λr=>some (.next r))->∀(as:List Tm) (j:Nat) (v:List (Int×Bool)),(∀a∈as,a∈l)->(mr v).Nodup->∃f,eY F as j v=some (.inl f)/\(mr f).Nodup/\f.length<=v.length+ea Tm.aiK as/\∀x,x∈mr f↔x∈mr v\/(0<=x/\0<ea (Tm.aiQ (x+d+eL k)) as):=by
    intro F hF as
    induction as with
    |nil=>intro j v _ C;exact⟨v,rfl,C,by simp[ea],λx=>by simp[ea]⟩|cons a as D=>
     intro j v has C;have K:=has a aaF;have Q:=ep Tm.aiK K;have G:=I.2 a K;obtain⟨v1,o,q,L,u⟩:=ih a (d+eL k) v VW VW VW VW G C;obtain⟨v2,g1,g2,g3,g4⟩:=D (j+1) v1 (λb B=>has b (by simp[B])) q;refine⟨v2,?_,g2,by simp only[ea];omega,λx=>?_⟩
     ·rw[fp,hF,nN];simp only[dF,Tm.eD];rw[fR VW VW,o];simp only[dF,fw];exact g1
     ·rw[g4,u];simp only[ea];rw[<-Int.add_assoc];constructor
      ·rintro((h|h)|h)
       ·exact .inl h
       ·exact .inr ⟨h.1,VW⟩
       ·exact .inr ⟨h.1,VW⟩
      ·rintro(h|⟨h,A⟩)
       ·exact .inl (.inl h)
       ·by_cases R:0<a.aiQ (x+d+eL k)
        ·exact .inl (.inr ⟨h,R⟩)
        ·exact .inr ⟨h,VW⟩
   unfold pz;simp only[dZ,Tm.er,ed (l:=l) VW,dX,Tm.eD,Tm.gY];rw[Tm.dJ]
   by_cases w:k=1/\d<=i
   ·have c:e_ (ei k 1) (rb i d) false=true:=by simp[e_,w.1,w.2]
    simp only[c,if_true];rw[fY VW VW];obtain⟨f,o,q,L,u⟩:=aiJ _ (λ_ _ _=>rfl) l 0 (v_ m (i-d) true) (λa h=>h) (CM _ _ _ hm);refine⟨f,by rw[o];rfl,q,by have:=HX (i-d) true m;omega,λx=>?_⟩;rw[u,Eg,Tm.eZ];constructor
    ·rintro((h|h)|h)
     ·exact .inr ⟨VW,by rw[dO ⟨w.1,VW⟩];omega⟩
     ·exact .inl h
     ·exact .inr ⟨h.1,VW⟩
    ·rintro(h|⟨h,A⟩)
     ·exact .inl (.inr h)
     ·by_cases M:x=i-d
      ·exact .inl (.inl M)
      ·rw[dI (λN=>M VW)] at A;exact .inr ⟨h,VW⟩
   ·have c:e_ (ei k 1) (rb i d) false=false:=by
     unfold e_
     split
     ·rename_i S
      have H:k=1:=by simpa using S
      simp only[rb,afo]
      exactλh=>w ⟨H,h⟩
     ·rfl
    simp only[c,re,lG];obtain⟨f,o,q,L,u⟩:=aiJ _ (λ_ _ _=>rfl) l 0 m (λa h=>h) hm;refine⟨f,by rw[o];rfl,q,VW,λx=>?_⟩;rw[u,Tm.eZ];constructor
    ·rintro(h|h)
     ·exact .inl h
     ·exact .inr ⟨h.1,VW⟩
    ·rintro(h|⟨h,A⟩)
     ·exact .inl h
     ·rw[dI (λN=>w ⟨N.1,VW⟩)] at A;exact .inr ⟨h,VW⟩
def JX{t:Tm}(hw:t.wt<=1000000000)(d:t.aiO 4611686018427387904=true)(he:t.err=0):∃l,vp t=some (l,0)/\G2 l/\l.length<=4096/\∀x,x∈l↔0<=x/\0<t.aiQ x:=by
 have hn:t.aiK<=4096:=by
  unfold Tm.err at he
  split at he
  ·split at he
   ·cases he
   ·omega
  ·cases he
 obtain⟨m,f,c,h,i⟩:=Js FU t 0 [] (by rw[fD];omega) VW VW VW d (by simp[mr])
 have a:(m.map (·.1)).Nodup:=c
 have b:m.length<=4096:=by simpa using GV h (by simpa using hn)
 refine⟨zt [] (mr m),?_,Bu _ [] .nil c aaF,?_,λx=>?_⟩
 ·unfold vp;rw[k9 hw,he];simp only[dF];rw[dI aak,f];simp only[dF];unfold p6
  rw[ed VW,dX,show xK (m.map (·.1))=true from by simp[xK,a],dX]
  rfl
 ·rw[KB];simp[mr,b]
 ·rw[A9,i];simp[mr]
def LJ{n:Int}(a:0<=n)(b:n<4294967296):IntKind.u32.wrap n=n:=by
 unfold IntKind.wrap;simp only[show IntKind.u32.bits=32 from rfl,show IntKind.u32.signed=false from rfl,Bool.false_and,re,lG,show((2:Int)^32)=4294967296 from rfl];omega
def KX(a:Nat):BitVec.ofInt 32 (a:Int)=BitVec.ofNat 32 a:=aaF
def LH{a b:Nat}(d:a<4294967296)(f:b<4294967296):JU .u32 (a:Int) (b:Int)=((a|||b:Nat):Int):=by
 unfold JU;have c:a|||b<2^32:=ab8 VW VW;rw[show IntKind.u32.bits=32 from rfl,KX,KX,BitVec.toNat_or,Y8,Y8,Uf VW,Uf VW];exact LJ VW VW
def TV{a b:Nat}(d:a<4294967296)(f:b<4294967296):ue .u32 (a:Int) (b:Int)=((a&&&b:Nat):Int):=by
 unfold ue;have c:a&&&b<2^32:=aeA _ VW;rw[show IntKind.u32.bits=32 from rfl,KX,KX,BitVec.toNat_and,Y8,Y8,Uf VW,Uf VW];exact LJ VW VW
def Un{k:Nat}(b:k<32):Ve .u32 1 (k:Int)=((2^k:Nat):Int):=by
 unfold Ve;rw[show IntKind.u32.bits=32 from rfl,CB,U3 VW,Int.one_mul];have a:2^k<2^32:=aff aak b;rw[show((2:Int)^k)=((2^k:Nat):Int) by push_cast;rfl];exact LJ (afe _) (Int.ofNat_lt.2 (afR a rfl))
structure Us (l:List Int) (m:Nat):Prop where
 lt:m<4294967296
 pos:∀x∈l,0<=x
 srt:G2 l
 mem:∀i:Nat,(i:Int)∈l↔m.testBit i=true
def Us.nil:Us [] 0:=⟨aak,aaF,by first|exact .nil|trivial|simp[G2],aaF⟩
def E4{i b:Int}{m:Nat}(hm:m<4294967296)(o:0<=i)(q:i<=1000000000000)(r:0<=b)(s:b<=1000000000)(t:i-b<32):∃c:Nat,nx i b (m:Int)=some (c:Int)/\c<4294967296/\∀j:Nat,c.testBit j=true↔m.testBit j=true\/i=j+b:=by
 unfold nx
 by_cases h:b<=i
 ·rw[dO (by rw[jc];exact h),fY VW VW,show Li (i-b)=true by simp[Li];omega,dX];obtain⟨k,l⟩:∃k:Nat,i-b=(k:Int):=⟨(i-b).toNat,VW⟩
  have a:k<32:=VW
  have d:2^k<4294967296:=afR (aff aak a) rfl;rw[l,Un a,LH hm d];refine⟨m|||2^k,rfl,ab8 (n:=32) VW VW,λj=>?_⟩;rw[ack,sA,aeH,Po];constructor
  ·rintro(h|h)
   ·exact .inl h
   ·exact .inr VW
  ·rintro(h|h)
   ·exact .inl h
   ·exact .inr VW
 ·rw[dI (by rw[jc];exact h)];exact⟨m,rfl,hm,λj=>⟨.inl,λf=>f.elim id λf=>absurd f VW⟩⟩
def HY:∀(n:Nat) (t:Tm) (b:Int) (m:Nat),t.aiK<=n->t.aiK<=1000000->t.ok=true->t.aiO 1000000000000=true->0<=b->b+t.aiK<=1000000000->m<4294967296->(∀j:Int,32<=j->t.aiQ (j+b)=0)->∃r:Nat,k8 n t b (λ(s:Int) (w:Int) (x:Int)=>nx w x s) (m:Int)=some (r:Int)/\r<4294967296/\∀j:Nat,r.testBit j=true↔m.testBit j=true\/0<t.aiQ (j+b):=by
 intro n
 induction n with
 |zero=>intro t b m h;have:=t.eC;omega
 |succ n ih=>
  intro t b m hn Q R y S A hm c;cases t with
  |mk k i s l=>
   rw[Tm.dJ] at hn Q A;have hlen:=Tm.fC l;have hi:=Tm.pO R;rw[Tm.fx,gG,Po,kE] at y;have T:=iM k;rw[k8];simp only[dZ]
   have B:∀j:Int,32<=j->∀t∈l,t.aiQ (j+(b+eL k))=0:=by
    intro j C t U;have D:=c j C;rw[Tm.eZ] at D;have Z:=ep (Tm.aiQ (j+b+eL k)) U;rw[show j+(b+eL k)=j+b+eL k by omega];omega
   have loop:∀(ts:List Tm) (j:Nat) (v:Nat),(∀t∈ts,t∈l)->v<4294967296->∃F:Nat,eY (λ(V:Int) (G:Tm)=>(λ(v28:Int)=>
      dE (k8 n G (b+eL k) (λ(s:Int) (w:Int) (x:Int)=>nx w x s) v28) λH=>
      some ((.next H):fZ Int Int))) ts j (v:Int)=some (.inl (F:Int))/\F<4294967296/\∀q:Nat,F.testBit q=true↔v.testBit q=true\/0<ea (Tm.aiQ (q+b+eL k)) ts:=by
    intro ts
    induction ts with
    |nil=>intro j v _ I;exact⟨v,aaF,I,λq=>by simp[ea]⟩|cons t ts J=>
     intro j v d I;have a:=d t aaF;have W:=ep Tm.aiK a;obtain⟨v1,K,L,M⟩:=ih t (b+eL k) v VW VW (hi.2.2.2.1 t a) (y.2 t a) VW VW I (λj C=>B j C t a);obtain⟨v2,f1,f2,f3⟩:=J (j+1) v1 (λu hu=>d u (by simp[hu])) L;refine⟨v2,?_,f2,λq=>?_⟩
     ·rw[fp,K];simp only[dF,fw];exact f1
     ·rw[f3,M];simp only[ea];rw[show(q:Int)+(b+eL k)=q+b+eL k by omega];constructor
      ·rintro((h|h)|h)
       ·exact .inl h
       ·exact .inr VW
       ·exact .inr VW
      ·rintro(h|h)
       ·exact .inl (.inl h)
       ·by_cases X:0<t.aiQ (q+b+eL k)
        ·exact .inl (.inr X)
        ·exact .inr VW
   by_cases N:k=1
   ·subst N;rw[dO (show ei (Tm.mk 1 i s l).aiI 1=true from rfl)];simp only[Tm.er,Tm.eD,Tm.gY]
    have O:i-b<32:=by
     rcases Int.lt_or_le (i-b) 32 with h|h
     ·exact h
     ·have D:=c (i-b) h;rw[Tm.eZ,dO ⟨rfl,VW⟩] at D;omega
    obtain⟨Y,K,L,M⟩:=E4 hm hi.2.1 y.1 S VW O;rw[K,dF,xM 1 b VW VW,ed VW,dX];obtain⟨P,f1,f2,f3⟩:=loop l 0 Y (λt h=>h) L;refine⟨P,?_,f2,λq=>?_⟩
    ·have f:=f1;rw[show((0:Nat))=0 from rfl] at f;rw[f,dF];rfl
    ·rw[f3,M,Tm.eZ]
     by_cases o:i=q+b
     ·rw[dO ⟨rfl,o⟩];exact⟨λ_=>.inr VW,λ_=>.inl (.inr o)⟩
     ·rw[dI (λh=>o h.2),xH];exact⟨λh=>h.elim (λh=>h.elim .inl λh=>absurd h o) .inr,λh=>h.elim (λh=>.inl (.inl h)) .inr⟩
   ·rw[dI (show¬ei (Tm.mk k i s l).aiI 1=true by simpa[ei] using N)];simp only[Tm.er,Tm.eD,Tm.gY];rw[xM k b VW VW,ed VW,dX];obtain⟨P,f1,f2,f3⟩:=loop l 0 m (λt h=>h) hm;refine⟨P,by rw[f1,dF];rfl,f2,λq=>?_⟩;rw[f3,Tm.eZ,dI (λh=>N h.1),xH]
def Zh{t:Tm}(he:t.err=0)(b:t.aiO 1000000000000=true)(c:∀j:Int,32<=j->t.aiQ j=0):∃(l:List Int),ke t=some l/\G2 l/\∀x,x∈l↔0<=x/\0<t.aiQ x:=by
 obtain⟨a,hn⟩:=Tm.gZ he;have hw:=t.iv a;obtain⟨l,g1,g2,_,g4⟩:=JX (t:=t) VW (Tm.pL t VW b) he;exact⟨l,by unfold ke;rw[g1];rfl,g2,g4⟩
def ta(v:List (Int×Bool))(l:List Int):List (Int×Bool):=l.foldl (λv x=>v_ v x true) v
def yx:∀(l:List Int) (v:List (Int×Bool)),(mr v).Nodup->(mr (ta v l)).Nodup/\(ta v l).length<=v.length+l.length/\∀x,x∈mr (ta v l)↔x∈mr v\/x∈l
 |[],v,h=>⟨h,by simp[ta],λx=>by simp[ta]⟩|y::l,v,h=>by
  obtain⟨a,c,b⟩:=yx l (v_ v y true) (CM y true v h);refine⟨a,?_,λx=>?_⟩
  ·have:=HX y true v;show(ta (v_ v y true) l).length<=_;rw[pM];omega
  ·show x∈mr (ta (v_ v y true) l)↔_;rw[b,Eg,lS];constructor
   ·rintro((h|h)|h)
    ·exact .inr (.inl h)
    ·exact .inl h
    ·exact .inr (.inr h)
   ·rintro(h|h|h)
    ·exact .inl (.inr h)
    ·exact .inl (.inl h)
    ·exact .inr h
def IV{ρ:Type}:∀(l:List Int) (j:Nat) (v:List (Int×Bool)),eY (λ(c:Int) (a:Int)=>(λ(b:(List (Int×Bool)))=>some ((.next (v_ b a true)):fZ (List (Int×Bool)) ρ))) l j v=some (.inl (ta v l))
 |[],j,v=>by rw[pj];rfl|x::l,j,v=>by
  rw[fp];simp only[dF,fw];exact IV l (j+1) (v_ v x true)
def Ip{a b:List Int}(h:a.length<=1000000)(i:b.length<=1000000):∃l,gd a b=some l/\G2 l/\∀x,x∈l↔x∈a\/x∈b:=by
 obtain⟨c,d,f⟩:=yx a [] (by simp[mr]);obtain⟨g1,g2,g3⟩:=yx b (ta [] a) c;refine⟨zt [] (mr (ta (ta [] a) b)),?_,Bu _ _ .nil g1 aaF,λx=>?_⟩
 ·unfold gd;simp only[dZ];rw[ed VW,dX];rw[IV a 0 [],dF,ew,ed VW,dX,IV b 0 _,dF,ew];unfold p6;simp only[EG] at d;rw[ed VW,dX,show xK (List.map (λx=>x.1) (ta (ta [] a) b))=true from xY g1,dX];rfl
 ·rw[A9,g3,f];simp[mr]
def Us.union{a b:List Int}{m n:Nat}(c:Us a m)(d:Us b n)(f:a.length<=1000000)(j:b.length<=1000000):∃l,gd a b=some l/\JU .u32 (m:Int) (n:Int)=((m|||n:Nat):Int)/\Us l (m|||n)/\∀x,x∈l↔x∈a\/x∈b:=by
 obtain⟨l,o,q,k⟩:=Ip f j;refine⟨l,o,LH c.lt d.lt,⟨ab8 (n:=32) (by have:=c.lt;omega) (by have:=d.lt;omega),λx r=>?_,q,λi=>?_⟩,k⟩
 ·rcases(k x).1 r with h|h
  ·exact c.pos x h
  ·exact d.pos x h
 ·rw[k,c.mem,d.mem,ack,sA]
def Us.bound{l:List Int}{m:Nat}(h:Us l m):∀x∈l,x<32:=by
 intro x a;have b:=h.pos x a;obtain⟨k,rfl⟩:=ac6 b;have:=(h.mem k).1 a;rcases uR k 32 with h1|h1
 ·omega
 ·exfalso;have c:m<2^k:=Sr h.lt (GV (by decide:4294967296<=2^32) (Nat.pow_le_pow_right aak h1));rw[Nat.testBit_lt_two_pow c] at this;cases this
def xO(k:Int)(l:List Int):List Int:=(l.filter λx=>decide (k<=x)).map λx=>x-k
def H3{k:Int}(i:0<=k)(c:k<=1000):∀(l:List Int) (j:Nat) (v:List Int),(∀x∈l,0<=x/\x<32)->v.length+l.length<=1000000->eY (λ(n:Int) (a:Int)=>(λ(b:List Int)=>
   if(rb a k) then(
   gu (fL b [(fU .i64 a k)])<|some ((.next (fT b [(fU .i64 a k)])):fZ (List Int) (List Int)))
   else(some (.next b)))) l j v=some (.inl (v++xO k l))
 |[],j,v,_,_=>by simp[xO]|x::l,j,v,h,o=>by
  simp only[pM] at o;have q:=h x aaF;rw[fp]
  by_cases d:k<=x
  ·rw[dO (by rw[jc];exact d),fM aby,dX,fY VW VW];simp only[dF,fw];rw[jl,H3 i c l (j+1) _ (λy f=>h y (by simp[f])) aby];simp[xO,d]
  ·rw[dI (by rw[jc];exact d)];simp only[dF,fw];rw[H3 i c l (j+1) v (λy f=>h y (by simp[f])) VW];simp[xO,d]
def Fj{l:List Int}{m:Nat}(h:Us l m)(d:l.length<=1000000){k:Int}(c:0<=k)(a:k<=1000):gk l k=some (xO k l):=by
 unfold gk;simp only[dZ];rw[ed VW,dX,H3 c a l 0 [] (λx b=>⟨h.pos x b,h.bound x b⟩) aby,dF,ew,qc]
def II(k:Int)(l:List Int)(x:Int):x∈xO k l↔x+k∈l/\0<=x:=by
 unfold xO;simp only[qv,XH,Po];constructor
 ·rintro⟨y,⟨a,b⟩,rfl⟩;exact⟨by rw[Int.sub_add_cancel];exact a,VW⟩
 ·rintro⟨a,b⟩;exact⟨x+k,⟨a,VW⟩,VW⟩
def N2(k:Int):∀{l:List Int},G2 l->G2 (xO k l)
 |[],_=>.nil|a::l,.cons d f=>by
  have ih:=N2 k f
  by_cases c:k<=a
  ·have e:xO k (a::l)=(a-k)::xO k l:=by simp[xO,c]
   rw[e];refine .cons (λb h=>?_) ih;have:=d _ ((II k l b).1 h).1;omega
  ·have e:xO k (a::l)=xO k l:=by simp[xO,c]
   rw[e];exact ih
def Us.out{l:List Int}{m:Nat}(h:Us l m)(a:l.length<=1000000){k:Nat}(c:k<=32):gk l (k:Int)=some (xO k l)/\Us (xO k l) (m/2^k):=by
 refine⟨Fj h a VW VW,⟨Nat.lt_of_le_of_lt (Nat.div_le_self _ _) h.lt,λx b=>((II _ _ _).1 b).2,N2 _ h.srt,λi=>?_⟩⟩
 ·rw[II,show(i:Int)+(k:Int)=((i+k:Nat):Int) by omega,h.mem]
  have e:(m/2^k).testBit i=m.testBit (i+k):=by rw[aeF]
  rw[e];exact⟨λh=>h.1,λh=>⟨h,VW⟩⟩
structure PlR (c:dP):Prop where
 ctx:im c.aiM
 nv:c.aiM.length<=16
 nh:c.aiP.length<=16
def PlR.with{c:dP}(h:PlR c){f:Fm}(hn:c.aiP.length+1<=16):∃a,fX c f=some a/\PlR a/\a.lemmas=c.lemmas/\a.aiM=c.aiM/\a.aiP=c.aiP++[f]:=by
 unfold fX;rw[fM aby,dX];refine⟨_,rfl,⟨h.ctx,h.nv,?_⟩,rfl,rfl,by simp only[jl]⟩;show(fT c.aiP [f]).length<=16;rw[jl];simpa using hn
def im.append{g l:List Ty}(h:im g)(a:im l):im (g++l):=λs hs=>(uh.1 hs).elim (h s) (a s)
def PlR.below{c:dP}(h:PlR c){l:List Ty}(b:im l)(hn:c.aiM.length+l.length<=16)(d:∀f∈c.aiP,f.err=0/\f.aiO 1000000000=true):∃a,fg c l=some a/\PlR a/\a.lemmas=c.lemmas/\a.aiM=c.aiM++l/\a.aiP=c.aiP.map (Fm.up 0 l.length):=by
 have i:=h.nh
 have k:fg c l=some (dP.mk c.lemmas (c.aiM++l) (c.aiP.map (Fm.up 0 l.length))):=by
  unfold fg;simp only[dZ]
  rw[fM VW,dX,ed VW,dX,jU (Fm.up 0 l.length) c.aiP 0 [] aby (λj x v n o=>by
   obtain⟨q1,q⟩:=d x n;obtain⟨r,s⟩:=Fm.gZ q1
   rw[gC,Gv FU x 0 l.length (by rw[fD];omega) VW VW VW VW VW (Fm.pL x VW q),dF,fM (by simpa using o),dX,jl])]
  rw[dF,ew,jl,qc]
 refine⟨_,k,⟨h.ctx.append b,?_,?_⟩,rfl,rfl,rfl⟩
 ·show(c.aiM++l).length<=16;simpa using hn
 ·show(c.aiP.map (Fm.up 0 l.length)).length<=16;simpa using h.nh
def YG{t:Tm}(q:t.ok=true):vo t=some t.root:=by
 unfold vo;simp only[dZ];cases t with
 |mk k i s l=>
  show(if(ei k 3) then(dE (eb l 0) λj=>some (ei j.aiI 2))else(
   if(ei k 6) then(dE (eb l 2) λf=>if(ei f.aiI 4) then some true else some (ei f.aiI 5))else(
   if(ei k 9) then(dE (eb l 2) λh=>if(ei h.aiI 7) then some true else some (ei h.aiI 8))else(
   if(e_ (ei k 11) true (ei k 12)) then(dE (eb l 0) λn=>some (ei n.aiI 10))else some false))))=_
  unfold Tm.root
  by_cases r:k=3
  ·subst r;obtain⟨a,b,rfl⟩:=Tm.ok3 q;rw[dO aak];simp[eJ,Tm.kd,DJ]
  ·rw[dI (by simpa using r)]
   by_cases u:k=6
   ·subst u;obtain⟨a,b,c,rfl⟩:=Tm.ok6 q;rw[dO aak];simp only[mO,qo,kQ,dF,Tm.kd,gP]
    by_cases o:c.aiI=4
    ·simp[o]
    ·simp[o,DJ]<;>exact Zq.2 Iff.rfl
   ·rw[dI (by simpa using u)]
    by_cases v:k=9
    ·subst v;obtain⟨a,b,c,rfl⟩:=Tm.ok9 q;rw[dO aak];simp only[mO,qo,kQ,dF,Tm.kd,gP]
     by_cases o:c.aiI=7
     ·simp[o]
     ·simp[o,DJ]<;>exact Zq.2 Iff.rfl
    ·rw[dI (by simpa using v)]
     by_cases d:k=11\/k=12
     ·obtain⟨a,rfl⟩:=Tm.afi d q;rw[dO (by rcases d with rfl|rfl<;>rfl)];simp only[eJ,kQ,dF,Tm.kd];rcases d with rfl|rfl<;>simp[DJ]<;>exact Zq.2 Iff.rfl
     ·rw[dI (by simp only[lx,sA,gP];exact d)];simp only[not_or] at d;simp[r,u,v,d.1,d.2]
def zI{t:Tm}(h:t.aiK<=1000000000):fJ FU t=some (t.aiK:Int):=nG FU t (by rw[fD];exact h) h
def SZ{t:Tm}(r:t.ok=true)(hn:t.aiK<=8192)(f:t.root=true):sl t=some ((t.fm.aiK:Int)-(t.aiK:Int)):=by
 have l:=Tm.Nd r f;have u:=hn;unfold sl;rw[zI VW];simp only[dF];cases l with
 |app=>
  rename_i i s c d b a;have o:=Tm.ek (Tm.ek r (.mk 2 c d [b]) aaF) b aaF;rw[Tm.dJ] at hn;simp only[ea,Tm.dJ] at hn;rw[dO abL];simp only[Tm.er,eJ,hE,kQ,qo,dF];rw[zI (t:=b) VW,zI (t:=a) VW,A1 FU b 0 (by rw[fD];omega) VW VW VW];simp only[dF];have v:=Tm.ku b 0;have hmul:b.aiQ 0*a.aiK<=8192*8192:=Ss VW VW;have w:=Tm.xL a b 0 o;have x:=a.eC
  have e:(Tm.mk 3 i s [.mk 2 c d [b],a]).fm=Tm.fK 0 b a:=by simp[Tm.fm]
  rw[e]
  have hint:(b.aiQ 0:Int)*((a.aiK:Int)-1)=((b.aiQ 0*a.aiK:Nat):Int)-(b.aiQ 0:Int):=by rw[acC,ab_];simp
  rw[fY (a:=(a.aiK:Int)) VW VW,LF (by rw[hint];omega) (by rw[hint];omega),hint,fR VW VW,fY VW VW]
  congr 1
  omega
 |proj q=>
  rename_i k i s c d a b;rw[Tm.dJ] at hn;simp only[ea,Tm.dJ] at hn;rcases q with rfl|rfl
  ·rw[dI aaF,dI aaF,dI aaF,dO abL];simp only[Tm.er,eJ,hE,kQ,qo,dF];rw[zI (t:=a) VW];simp only[dF];rw[fY VW VW];simp[Tm.fm]
  ·rw[dI aaF,dI aaF,dI aaF,dI aaF];simp only[Tm.er,eJ,hE,kQ,qo,dF];rw[zI (t:=b) VW];simp only[dF];rw[fY VW VW];simp[Tm.fm]
 |zero q=>
  rename_i k y i s c d b st;rw[Tm.dJ] at hn;simp only[ea,Tm.dJ] at hn
  have j:k≠3/\k≠11/\k≠12:=VW
  have:(Tm.mk k i s [b,st,.mk y c d []]).fm=b:=by simp[Tm.fm,j.1,j.2.1,j.2.2]
  rw[this];rcases q with⟨rfl,rfl⟩|⟨rfl,rfl⟩
  ·rw[dI aaF,dO abL];simp only[Tm.er,eJ,hE,mO,kQ,qo,dF];rw[dO abL,zI (t:=b) VW];simp only[dF];rw[fY VW VW]
  ·rw[dI aaF,dI aaF,dO abL];simp only[Tm.er,eJ,hE,mO,kQ,qo,dF];rw[dO abL,zI (t:=b) VW];simp only[dF];rw[fY VW VW]
 |succ=>
  rename_i i s c d b st n
  have e:(Tm.mk 6 i s [b,st,.mk 5 c d [n]]).fm=oZ st [n,.mk 6 i s [b,st,n]]:=by simp[Tm.fm,oZ]
  rw[e,Dm];rw[Tm.dJ] at hn|-;simp only[ea,Tm.dJ,pM,EG] at hn|-;rw[dI aaF,dO abL];simp only[Tm.er,eJ,hE,mO,kQ,qo,dF];rw[dI aaF,zI (t:=st) VW,zI (t:=n) VW];simp only[dF];rw[fR (a:=2) VW VW,fR (b:=(n.aiK:Int)) VW VW,fR VW VW,fY (b:=1) VW VW,fY VW VW]
  congr 1
  omega
 |cons=>
  rename_i i s c d b st h n
  have e:(Tm.mk 9 i s [b,st,.mk 8 c d [h,n]]).fm=oZ st [h,n,.mk 9 i s [b,st,n]]:=by simp[Tm.fm,oZ]
  rw[e,Dm];rw[Tm.dJ] at hn|-;simp only[ea,Tm.dJ,pM,EG] at hn|-;rw[dI aaF,dI aaF,dO abL];simp only[Tm.er,eJ,hE,mO,kQ,qo,dF];rw[dI aaF,zI (t:=st) VW,zI (t:=h) VW,zI (t:=n) VW];simp only[dF];rw[fR (a:=3) VW VW,fR (b:=(h.aiK:Int)) VW VW,fR (b:=(n.aiK:Int)) VW VW,fR VW VW,fY (b:=1) VW VW,fY (b:=(h.aiK:Int)) VW VW,fY VW VW]
  congr 1
  omega
def Pa{M:Int}(u:0<=M/\M<=1000000000000){t:Tm}(hs:Sm M t)(hn:t.aiK<=8192)(c:t.root=true):qN t=some t.fm:=by
 have o:=hs.ok;have q:=Tm.Nd o c;have hw:=Tm.iv t o;unfold qN;cases q with
 |app=>
  rename_i i s f j b a;have d:=(hs.arg (.mk 2 f j [b]) aaF).arg b aaF;have l:=hs.arg a aaF;have v:=d.aiK;have w:=l.aiK;rw[dO abL];simp only[Tm.er,eJ,hE,kQ,qo,dF];rw[FV FU b 0 0 a (by rw[fD];omega) VW VW VW VW (d.mono u.2).aiO d.ok VW (l.mono u.2).aiO];simp[Tm.fm]
 |proj r=>
  rename_i k i s f j a b;rcases r with rfl|rfl
  ·rw[dI aaF,dI aaF,dI aaF,dO abL];simp[Tm.fm,eJ]
  ·rw[dI aaF,dI aaF,dI aaF,dI aaF];simp[Tm.fm,eJ,hE]
 |zero r=>
  rename_i k x i s f j b st;rcases r with⟨rfl,rfl⟩|⟨rfl,rfl⟩
  ·rw[dI aaF,dO abL];simp[Tm.fm,eJ,mO,ei]
  ·rw[dI aaF,dI aaF,dO abL];simp[Tm.fm,eJ,mO,ei]
 |succ=>
  rename_i i s f j b st n;have hi:i=0:=(Tm.pO o).2.2.1 aak;subst hi;rw[Tm.i_] at hw;simp only[ea,Tm.i_] at hw;rw[dI aaF,dO abL];simp only[Tm.er,eJ,hE,mO,kQ,qo,dF,Tm.fu];rw[dI aaF,w5 VW VW];simp only[dF];rw[DK VW VW VW VW];simp only[dF];rw[pq _ _ (by simp only[ea,Tm.i_,Ty.z,Ty.dJ];omega)];simp[Tm.fm,oZ,Ty.z]
 |cons=>
  rename_i i s f j b st h n;have hi:i=0:=(Tm.pO o).2.2.1 aak;subst hi;rw[Tm.i_] at hw;simp only[ea,Tm.i_] at hw;rw[dI aaF,dI aaF,dO abL];simp only[Tm.er,eJ,hE,mO,kQ,qo,dF,Tm.fu];rw[dI aaF,w5 VW VW];simp only[dF];rw[pq _ _ (by simp only[ea,Tm.i_,Ty.z,Ty.dJ];omega)];simp only[dF];rw[DK VW VW VW VW];simp only[dF];rw[pq _ _ (by simp only[ea,Tm.i_,Ty.z,Ty.dJ];omega)];simp[Tm.fm,oZ,Ty.z]
def aa0(t:Tm)(o:Option (Option Tm))(r:Tm×Bool×Bool):Prop:=
 match o with
 |none=>r.2.1=true/\r.2.2=false|some none=>r=(t,false,true)|some (some a)=>r=(a,true,true)
def Ro{M:Int}(H:0<=M/\M<=1000000000000)(room:Int):∀(n:Nat) (t:Tm),t.aiK<=n->Sm M t->t.aiK<=8192->∃r,ow n t room=some r/\aa0 t (t.JS room) r
 |0,t,hn,_,_=>by have:=t.eC;omega
 |n+1,.mk k i s l,hn,hs,G=>by
  rw[ow,YG hs.ok];simp only[dF];rw[Tm.L9]
  by_cases x:(Tm.mk k i s l).root=true
  ·rw[dO x,dO x,SZ hs.ok G x];simp only[dF,il]
   by_cases hg:((Tm.mk k i s l).fm.aiK:Int)-((Tm.mk k i s l).aiK:Int)>room
   ·rw[dO hg,dO hg];exact⟨_,rfl,rfl,rfl⟩
   ·rw[dI hg,dI hg,Pa H hs G x];exact⟨_,rfl,rfl⟩
  ·rw[dI x,dI x];rw[Tm.dJ] at hn G;have hlen:=Tm.VZ hs.ok;simp only[Tm.er,dZ,ed (l:=l) VW,dX,Tm.eD,Tm.gY,Tm.fu]
   have key:∀(ts pre:List Tm),l=pre++ts->∃o,eY (λ(a:Int) (y:Tm)=>(λ(_:Unit)=>
     fE (ow n y room) λA B C=>
     if B then(
     gu (HU l)<|dE (eb l a) λI=>
     some (fZ.ret ((Tm.mk k i s (Fk l a A)),true,C)))
     else(some (.next ())))) ts pre.length ()=some o/\(match Tm.wc room ts with
      |none=>∃r:Tm×Bool×Bool,o=.inr r/\r.2.1=true/\r.2.2=false|some none=>o=.inl ()|some (some h)=>o=.inr (Tm.mk k i s (pre++h),true,true)):=by
    intro ts
    induction ts with
    |nil=>intro pre _;exact⟨_,rfl,by rw[Tm.wc]⟩|cons t ts ih=>
     intro pre D
     have j:t∈l:=by rw[D];simp
     have J:=ep Tm.aiK j;obtain⟨⟨u,b,c⟩,K,v⟩:=Ro H room n t VW (hs.arg t j) VW;rw[fp];simp only[K,lI]
     have d:eb l ((pre.length:Nat):Int)=some t:=by
      unfold eb;rw[dO VW];rw[D];simp
     have gb:Fk l ((pre.length:Nat):Int) u=pre++u::ts:=by
      unfold Fk;rw[D,CB,Hx]
     have f:HU l=true:=by
      unfold HU ve;have:0<l.length:=List.length_pos_of_mem j;exact xY VW
     rw[Tm.wc];unfold aa0 at v;cases e:t.JS room with
     |none=>
      rw[e] at v;obtain⟨q1,F⟩:=v;simp only at q1 F;rw[dO q1,f,dX,d];exact⟨_,rfl,_,rfl,rfl,F⟩
     |some o=>
      cases o with
      |none=>
       rw[e] at v;obtain⟨rfl,q⟩:=iE v;obtain⟨rfl,rfl⟩:=iE q;rw[dI aak];simp only[dF,fw];obtain⟨o,o1,o2⟩:=ih (pre++[u]) (by rw[D];simp);rw[qt] at o1;refine⟨o,o1,?_⟩;cases w:Tm.wc room ts with
       |none=>rw[w] at o2;exact o2
       |some q=>
        cases q with
        |none=>rw[w] at o2;exact o2
        |some h=>rw[w] at o2;simpa using o2
      |some L=>
       rw[e] at v;obtain⟨rfl,q⟩:=iE v;obtain⟨rfl,rfl⟩:=iE q;rw[dO rfl,f,dX,d];simp only[dF,gb];exact⟨_,rfl,rfl⟩
   obtain⟨o,o1,o2⟩:=key l [] rfl;rw[show(([]:List Tm).length)=0 from rfl] at o1;rw[o1];cases w:Tm.wc room l with
   |none=>
    rw[w] at o2;obtain⟨r,rfl,q1,F⟩:=o2;exact⟨r,rfl,q1,F⟩
   |some q=>
    cases q with
    |none=>rw[w] at o2;subst o2;exact⟨_,rfl,rfl⟩
    |some h=>rw[w] at o2;subst o2;exact⟨_,rfl,rfl⟩
def l7{t:Tm}(h:t.err=0):t.ok=true/\t.aiK<=4096:=Tm.gZ h
def EB(steps:Int)(C:0<=steps/\steps<=65536):∀(k:Nat) (m:Int) (t:Tm) (N:Nat),(k:Int)=steps-m->0<=m->Sm (536870912+8192*m) t->t.aiK<=4096->k<N->oC ((Ts λ(d:Int) (f:Int) (i:Int) (j:Int) (l:List Ty) (n:List Tm)=>
   dE (fJ FU (Tm.mk f i (Ty.mk j l) n)) λv=>
   fE (ow FU (Tm.mk f i (Ty.mk j l) n) (fU .i64 4096 v)) λa w x=>
   if w then(
   if(ei d steps) then(
   some (.ret ((Tm.mk 0 0 (Ty.mk 0 []) []),0,5)))
   else(if x then(
   some (.next ((fl .i64 d 1),a.aiI,a.aiL,a.dM.aiI,a.dM.aiJ,a.aiJ)))
   else(some (.ret ((Tm.mk 0 0 (Ty.mk 0 []) []),0,4)))))
   else(dE (lr FU (Tm.mk f i (Ty.mk j l) n)) λy=>
   some (.ret (y,d,0)))):(Int×Int×Int×Int×(List Ty)×(List Tm))->(Option (fZ (Int×Int×Int×Int×(List Ty)×(List Tm)) (Tm×Int×Int)))) N (m,t.aiI,t.aiL,t.dM.aiI,t.dM.aiJ,t.aiJ)=some (.inr (t.norm k m))
 |k,m,t,0,_,_,_,_,D=>by omega|k,m,t,N+1,G,hm,hs,hn,D=>by
  rw[rf];simp only[AG,abv];have hw:=Tm.iv t hs.ok;rw[zI VW];simp only[dF];rw[fY VW VW];obtain⟨⟨u,b,c⟩,F,r⟩:=Ro (M:=536870912+8192*m) VW (4096-t.aiK) FU t (by rw[fD];omega) hs VW;rw[F];simp only[lI];unfold aa0 at r;cases e:t.JS (4096-t.aiK)with
  |none=>
   rw[e] at r;obtain⟨q1,B⟩:=r;simp only at q1 B;rw[dO q1];cases k with
   |zero=>
    have s:¬t.nf=true:=by
     intro h;rw[(E_ _ t).1 h] at e;cases e
    rw[dO (by simp[ei];omega),Tm.norm,dI s];rfl
   |succ k=>
    rw[dI (by simp[ei];omega),dI (by rw[B];decide),VO e];rfl
  |some o=>
   cases o with
   |none=>
    rw[e] at r;obtain⟨rfl,q⟩:=iE r;obtain⟨rfl,rfl⟩:=iE q;rw[dI aak,ug VW];cases k with
    |zero=>rw[Tm.norm,dO ((E_ _ _).2 e)];rfl|succ k=>rw[EU e];rfl
   |some H=>
    rw[e] at r;obtain⟨rfl,q⟩:=iE r;obtain⟨rfl,rfl⟩:=iE q;rw[dO rfl];cases k with
    |zero=>
     have s:¬t.nf=true:=by
      intro h;rw[(E_ _ t).1 h] at e;cases e
     rw[dO (by simp[ei];omega),Tm.norm,dI s];rfl
    |succ k=>
     obtain⟨s1,s2,I⟩:=Vv (M:=536870912+8192*m) VW t hs VW _ e;rw[dI (by simp[ei];omega),dO rfl,ES e,fR VW VW];have A:Sm (536870912+8192*(m+1)) u:=⟨s1,by rw[show 536870912+8192*(m+1)=536870912+8192*m+8192 by omega];exact s2,VW⟩;exact EB steps C k (m+1) u N VW VW A VW VW
def J_:∀(k:Nat) (m:Int) (t p:Tm) (n e:Int),t.norm k m=(p,n,e)->e≠0->p=Tm.z
 |0,m,t,p,n,e,h,he=>by
  rw[Tm.norm] at h
  split at h
  ·obtain⟨_,h⟩:=iE h;obtain⟨_,h⟩:=iE h;exact absurd h.symm he
  ·exact(iE h).1.symm
 |k+1,m,t,p,n,e,h,he=>by
  rw[Tm.norm] at h
  split at h
  ·exact(iE h).1.symm
  ·obtain⟨_,h⟩:=iE h;obtain⟨_,h⟩:=iE h;exact absurd h.symm he
  ·exact J_ k _ _ _ _ _ h he
def zp{t:Tm}(hw:t.wt<=1000000)(steps:Int):kX t steps=some (if t.err=0 then(if 0<=steps/\steps<=65536/\t.aiO 536870912 then t.norm steps.toNat 0 else(Tm.z,0,1))else(Tm.z,0,t.err)):=by
 have d:=t.iq;unfold kX;rw[k9 VW];simp only[dF]
 by_cases he:t.err=0
 ·obtain⟨f,hn⟩:=l7 he;rw[dO he,dI (by simp[eE,he])];simp only[dZ,sj,il]
  by_cases b:steps<0
  ·rw[dO b,dO trivial,dI VW];rfl
  ·rw[dI b]
   by_cases a2:steps>65536
   ·rw[dO a2,dO trivial,dI VW];rfl
   ·rw[dI a2,Ax FU t 536870912 (by rw[fD];omega) VW];simp only[dF]
    by_cases a:t.aiO 536870912=true
    ·have hs:Sm 536870912 t:=⟨f,a,VW⟩;rw[dO (c:=0<=steps/\_) ⟨VW,VW,a⟩,a,dI aak,EB steps VW steps.toNat 0 t FU VW VW hs VW (by rw[fD];omega)];rfl
    ·rw[dI (c:=0<=steps/\_) (λh=>a h.2.2),dO (by rw[abb] at a;rw[a];rfl)];rfl
 ·rw[dI he,dO (by simp[eE,he])];rfl
def Jk{t:Tm}(hw:t.wt<=1000000)(steps:Int):∃p m e,kX t steps=some (p,m,e)/\p.wt<=1000000000:=by
 have b:Tm.z.wt<=1000000000:=aak
 rw[zp hw steps]
 by_cases he:t.err=0
 ·obtain⟨f,hn⟩:=l7 he;rw[dO he]
  by_cases c:0<=steps/\steps<=65536/\t.aiO 536870912=true
  ·rw[dO c];generalize a:t.norm steps.toNat 0=o;obtain⟨p,m,e⟩:=o;refine⟨_,_,_,rfl,?_⟩
   by_cases d:e=0
   ·subst d;obtain⟨q1,h⟩:=Hq _ 536870912 _ _ _ _ VW ⟨f,c.2.2,VW⟩ hn a;have:=Tm.iv p q1.ok;omega
   ·rw[J_ _ _ _ _ _ _ a d];exact b
  ·rw[dI c];exact⟨_,_,_,rfl,b⟩
 ·rw[dI he];exact⟨_,_,_,rfl,b⟩
def Kq{a b:Tm}(c:a.wt<=1000000000):∃r,rk a b=some r/\lq FU a b=some r:=by
 obtain⟨r,d,f⟩:=BS (b:=b) c;obtain⟨q,q1,h⟩:=xk FU a b (by rw[fD];exact c) c
 have:r=q:=by rw[GS,f,h]
 subst this;exact⟨r,d,q1⟩
def Sy{a b:Tm}(o:a.wt<=1000000)(u:b.wt<=1000000)(steps:Int):∃c,lW a b steps=some c:=by
 unfold lW;rw[k9 VW,k9 (t:=b) VW];simp only[dF]
 by_cases d:eE a.err 0=true
 ·rw[dO d];exact⟨_,rfl⟩
 ·rw[dI d]
  by_cases h:eE b.err 0=true
  ·rw[dO h];exact⟨_,rfl⟩
  ·rw[dI h];obtain⟨r,_,v⟩:=Kq (a:=a) (b:=b) VW;rw[v];simp only[dF]
   by_cases i:r=true
   ·rw[dO i];exact⟨_,rfl⟩
   ·rw[dI i];obtain⟨p,m,e,w,x⟩:=Jk o steps;obtain⟨q,n,f,y,A⟩:=Jk u steps;rw[w,y];simp only[lI]
    by_cases j:eE e 0=true
    ·rw[dO j];exact⟨_,rfl⟩
    ·rw[dI j]
     by_cases k:eE f 0=true
     ·rw[dO k];exact⟨_,rfl⟩
     ·rw[dI k];obtain⟨s,_,s2⟩:=Kq (a:=p) (b:=q) x;rw[s2];simp only[dF]
      by_cases l:s=true
      ·rw[dO l];exact⟨_,rfl⟩
      ·rw[dI l];exact⟨_,rfl⟩
def IZ{α:Type}{E:α->α->Option Int}{M:List α}:∀(l:List α) (i:Nat),(∀x∈l,∀y∈M,∃c,E x y=some c)->i+l.length<=M.length->∃o,eY (λ(d:Int) (f:α)=>(λ(_:Unit)=>dE (eb M d) λb=>dE (E f b) λa=>if(eE a 0) then(some (.ret a))else(some ((.next ()):fZ Unit Int)))) l i ()=some o
 |[],i,_,_=>⟨.inl (),aaF⟩|x::l,i,h,k=>by
  simp only[pM] at k;obtain⟨c,n⟩:=h x aaF M[i] (Es VW);rw[fp,jN,qL VW];simp only[dF,n]
  by_cases j:eE c 0=true
  ·rw[dO j];exact⟨.inr c,rfl⟩
  ·rw[dI j];simp only[dF,fw];exact IZ l (i+1) (λy q=>h y (by simp[q])) VW
def Fm.shape{k:Int}{s i:Ty}{ts us:List Tm}{l m:List Fm}(h:(Fm.mk k s ts l).ok=true)(d:(Fm.mk k i us m).ok=true):ts.length=us.length/\l.length=m.length:=by
 rw[Fm.gQ] at h d;simp only[gG] at h d;have c:=h.1.1;have a:=d.1.1;unfold Fm.node at c a
 split at c
 ·rename_i f;rw[dO f] at a;simp only[gG,oy] at c a;omega
 ·rename_i f;rw[dI f] at a
  split at c
  ·rename_i b;rw[dO b] at a;simp only[gG,oy] at c a;omega
  ·rename_i b;rw[dI b] at a;simp only[gG,oy] at c a;omega
def Sp:∀(n:Nat) (a b:Fm),a.wt<=n->a.wt<=1000000->b.wt<=1000000->a.ok=true->b.ok=true->∃c,k0 n a b=some c:=by
 intro n
 induction n with
 |zero=>intro t b h;have:=t.jX;omega
 |succ n ih=>
  intro a b h C j A d;cases a with
  |mk k s ts l=>
  cases b with
  |mk k' D us m=>
   rw[Fm.i_] at h C j;have H:=Fm.qZ l;have F:=Tm.qZ ts;rw[k0];simp only[Fm.er,Fm.eD,Fm.hZ,Fm.fu,dZ,ed (l:=l) VW,ed (l:=ts) VW,dX,eo]
   by_cases q:k≠k'
   ·rw[dO q];exact⟨11,rfl⟩
   ·rw[dI q,iD VW];simp only[dF];have v:k=k':=vx.1 q;subst v;obtain⟨s1,s2⟩:=Fm.shape A d;obtain⟨_,I,ol⟩:=Fm.qG A;obtain⟨_,G,w⟩:=Fm.qG d;cases s.kV D with
    |false=>exact⟨11,rfl⟩|true=>
     obtain⟨o,k2⟩:=IZ (E:=λx y=>lW x y 1000) (M:=us) ts 0 (λx f y i=>Sy (by have:=ep Tm.wt f;omega) (by have:=ep Tm.wt i;omega) 1000) VW;simp only[eo] at k2;rw[dI aak,k2];cases o with
     |inr r=>exact⟨r,rfl⟩|inl u=>
      simp only[dF,ew];obtain⟨o,B⟩:=IZ (E:=λx y=>k0 n x y) (M:=m) l 0 (λx f y i=>ih x y (by have:=ep Fm.wt f;omega) (by have:=ep Fm.wt f;omega) (by have:=ep Fm.wt i;omega) (ol x f) (w y i)) VW;simp only[eo] at B;rw[B];cases o with
      |inr r=>exact⟨r,rfl⟩|inl u=>exact⟨0,rfl⟩
def Eu{a b:Fm}(h:a.wt<=1000000000)(i:b.wt<=1000000000):∃c,jQ a b=some c:=by
 unfold jQ;rw[kg h,kg i];simp only[dF,eo]
 by_cases d:a.err≠0
 ·rw[dO d];exact⟨_,rfl⟩
 ·rw[dI d]
  by_cases f:b.err≠0
  ·rw[dO f];exact⟨_,rfl⟩
  ·rw[dI f];obtain⟨o1,n1⟩:=Fm.gZ (vx.1 d);obtain⟨o2,n2⟩:=Fm.gZ (vx.1 f);have k:=a.iv o1;have l:=b.iv o2;obtain⟨c,j⟩:=Sp FU a b (by rw[fD];omega) VW VW o1 o2;rw[j];exact⟨c,rfl⟩
def rm{g:List Ty}{x:Tm}{t:Ty}(h:dQ g x t)(hg:im g)(a:g.length+x.aiK<=1000000):x.ty g=(t,0):=by
 have b:=(UF h hg).2 x.aiK (js _) a;rw[AM x.aiK x (js _) h.ok g hg a] at b;exact lE b
def NA{g:List Ty}{x:Tm}(c:x.ok=true)(hg:im g)(h:nM x g 1=0):dQ g x .nat:=by
 unfold nM at h
 split at h
 ·cases h
 ·rename_i d
  have f:(x.ty g).1.aiI=1:=by
   rcases Int.emod_two_eq (x.ty g).1.aiI with _|_<;>
   ·by_cases a:(x.ty g).1.aiI=1
    ·exact a
    ·exact absurd ⟨h,a⟩ d
  obtain⟨b,i⟩:=qQ _ x (js _) c g hg _ (zh h);rw[(vq i).1 f] at b;exact b
def QZ{g:List Ty}{x:Tm}(h:dQ g x .nat)(hg:im g)(a:g.length+x.aiK<=1000000):nM x g 1=0:=by
 unfold nM;rw[rm h hg a];exact dI (λh=>h.2 rfl)
def rn(f:Fm)(t:f.ok=true):∀g,im g->f.va g=0->ia g f:=by
 refine Fm.oB (p:=λf=>∀g,im g->f.va g=0->ia g f) ?_ ?_ ?_ f t
 ·intro a b l r g hg h;rw[Fm.uw] at h
  by_cases c:nM a g 1=0
  ·by_cases i:nM b g 1=0
   ·exact .eq (NA l hg c) (NA r hg i)
   ·simp[fk,c,i] at h
  ·simp[fk,c] at h
 ·intro k a b j l r d n g hg h
  have o:h7 k=false:=by rcases j with rfl|rfl<;>rfl
  rw[Fm.uw,o] at h;simp only[l',fk,lF,if_true,re,lG] at h
  by_cases c:a.va g=0
  ·rw[dO c] at h
   by_cases i:b.va g=0
   ·exact .two j (d g hg c) (n g hg i)
   ·rw[dI i] at h;exact absurd h i
  ·rw[dI c] at h;exact absurd h c
 ·intro k s a j hs l d g hg h
  have o:h7 k=true:=by rcases j with rfl|rfl|rfl|rfl<;>rfl
  rw[Fm.uw,o] at h;simp only[l',fk,lF,if_true] at h
  by_cases c:a.va (g++[s])=0
  ·exact .q j hs (d _ (hg.app hs) c)
  ·rw[dI c] at h;exact absurd h c
def om{g:List Ty}{f:Fm}(h:ia g f):im g->g.length+f.aiK<=1000000->f.va g=0:=by
 induction h with
 |eq n o=>
  intro hg c;rw[Fm.dJ] at c;simp only[ea] at c;rw[Fm.uw];simp[fk,QZ n hg VW,QZ o hg VW]
 |two d _ _ i j=>
  intro hg c;rw[Fm.dJ] at c;simp only[ea] at c;rename_i k a b _ _
  have l:h7 k=false:=by rcases d with rfl|rfl<;>rfl
  rw[Fm.uw,l];simp[fk,i hg VW,j hg VW]
 |q d hs _ ih=>
  intro hg c;rw[Fm.dJ] at c;simp only[ea] at c;rename_i k s a _
  have l:h7 k=true:=by rcases d with rfl|rfl|rfl|rfl<;>rfl
  rw[Fm.uw,l];simp[fk,ih (hg.app hs) aby]
def ia.up{g:List Ty}{f:Fm}(h:ia g f):∀g1 g2 e:List Ty,g=g1++g2->ia (g1++e++g2) (f.up g2.length e.length):=by
 induction h with
 |eq l n=>
  intro g1 g2 e hg;rw[Fm.e9];exact .eq (l.up g1 g2 e hg) (n.up g1 g2 e hg)
 |two c _ _ d i=>
  intro g1 g2 e hg;rename_i k a b _ _
  have j:qB k=0:=by rcases c with rfl|rfl<;>rfl
  rw[Fm.e9,j,th];exact .two c (d g1 g2 e hg) (i g1 g2 e hg)
 |q c hs _ ih=>
  intro g1 g2 e hg;rename_i k s a _
  have j:qB k=1:=by rcases c with rfl|rfl|rfl|rfl<;>rfl
  subst hg;have:=ih g1 (g2++[s]) e (by rw[vn]);rw[Fm.e9,j];rw[qt,<-vn] at this;exact .q c hs this
def ia.lift{g:List Ty}{f:Fm}(h:ia g f)(e:List Ty):ia (g++e) (f.up 0 e.length):=by
 have:=h.up g [] e aaF;simpa using this
def ia.fK{g:List Ty}{f:Fm}(h:ia g f):∀(g1:List Ty) (s:Ty) (g2:List Ty) (a:Tm),g=g1++[s]++g2->dQ g1 a s->ia (g1++g2) (Fm.fK g2.length f a):=by
 induction h with
 |eq l n=>
  intro g1 s g2 a hg b;rw[Fm.eG];exact .eq (l.fK g1 s g2 a hg b) (n.fK g1 s g2 a hg b)
 |two c _ _ d i=>
  intro g1 s g2 a hg b;rename_i k x y _ _
  have j:qB k=0:=by rcases c with rfl|rfl<;>rfl
  rw[Fm.eG,j,th];exact .two c (d g1 s g2 a hg b) (i g1 s g2 a hg b)
 |q c hs _ ih=>
  intro g1 s g2 a hg b;rename_i k o x _
  have j:qB k=1:=by rcases c with rfl|rfl|rfl|rfl<;>rfl
  subst hg;have:=ih g1 s (g2++[o]) a aaF b;rw[Fm.eG,j];rw[qt,<-vn] at this;exact .q c hs this
theorem ia.put{g:List Ty}{s:Ty}{f:Fm}(h:ia (g++[s]) f){a:Tm}(b:dQ g a s):ia g (Fm.fK 0 f a):=by
 have:=h.fK g s [] a aaF b;simpa using this
def dQ.front{g:List Ty}{x:Tm}{t:Ty}(h:dQ g x t)(e:List Ty):dQ (e++g) x t:=by
 induction h with
 |@var g t i c f=>
  refine .var i aby ?_;rw[Cv aby,<-f]
  congr 1
  simp;omega
 |lam c _ ih=>exact .lam c (by rw[vn];exact ih)|app _ _ a b=>exact .app a b|zero=>exact .zero|succ _ ih=>exact .succ ih|rQ c _ _ _ a b d=>exact .rQ c a b d|nil=>exact .nil|cons _ _ a b=>exact .cons a b|fold c _ _ _ a b d=>exact .fold c a b d|pair c _ _ a b=>exact .pair c a b|fst _ ih=>exact .fst ih|snd _ ih=>exact .snd ih|unit=>exact .unit
def ia.front{g:List Ty}{f:Fm}(h:ia g f)(e:List Ty):ia (e++g) f:=by
 induction h with
 |eq d i=>exact .eq (d.front e) (i.front e)|two a _ _ b c=>exact .two a b c|q a hs _ ih=>exact .q a hs (by rw[vn];exact ih)
structure Hg (g:List Ty) (f:Fm):Prop where
 err:f.err=0
 ty:ia g f
def Hg.aiK{g:List Ty}{f:Fm}(h:Hg g f):f.aiK<=4096:=(Fm.gZ h.err).2
def Hg.ok{g:List Ty}{f:Fm}(h:Hg g f):f.ok=true:=(Fm.gZ h.err).1
def Hg.aiO{g:List Ty}{f:Fm}(h:Hg g f)(hg:g.length<=16){m:Int}(hm:5000<=m):f.aiO m=true:=h.ty.aiO m (by have:=h.aiK;omega)
def Hg.up{g:List Ty}{f:Fm}(h:Hg g f)(l:List Ty):Hg (g++l) (f.up 0 l.length):=by
 have hn:=Fm.kK f 0 l.length;obtain⟨a,b⟩:=Fm.gZ h.err;refine⟨?_,h.ty.lift l⟩;unfold Fm.err;rw[Fm.IC f 0 l.length VW VW,a,dO rfl,hn,dI VW]
structure PG (L:List Fm) (c:dP):Prop where
 pl:PlR c
 Mo:c.lemmas=L
 aba:∀f∈L,Hg [] f
 aiP:∀f∈c.aiP,Hg c.aiM f
def PG.Wy{L:List Fm}{c:dP}(h:PG L c){l:List Ty}(k:im l)(hn:c.aiM.length+l.length<=16):∃a,fg c l=some a/\PG L a/\a.aiM=c.aiM++l/\a.aiP=c.aiP.map (Fm.up 0 l.length):=by
 obtain⟨a,n,o,q,i,j⟩:=h.pl.below k hn (λf b=>⟨(h.aiP f b).err,(h.aiP f b).aiO h.pl.nv VW⟩);refine⟨a,n,⟨o,q.trans h.Mo,h.aba,λf b=>?_⟩,i,j⟩;rw[j] at b;obtain⟨f0,d,rfl⟩:=qv.1 b;rw[i];exact(h.aiP f0 d).up l
def PG.below{L:List Fm}{c:dP}(h:PG L c){s:Ty}(hs:s.err=0)(hn:c.aiM.length+1<=16):∃a,fg c [s]=some a/\PG L a/\a.aiM=c.aiM++[s]/\a.aiP=c.aiP.map (Fm.up 0 1):=
 h.Wy (l:=[s]) (λx b=>by rw[E'.1 b];exact hs) hn
def PG.with{L:List Fm}{c:dP}(h:PG L c){f:Fm}(i:Hg c.aiM f)(hn:c.aiP.length+1<=16):∃a,fX c f=some a/\PG L a/\a.aiM=c.aiM/\a.aiP=c.aiP++[f]:=by
 obtain⟨a,j,k,l,b,d⟩:=h.pl.with (f:=f) hn;refine⟨a,j,⟨k,l.trans h.Mo,h.aba,λx hx=>?_⟩,b,d⟩;rw[d] at hx;rw[b];rcases uh.1 hx with hx|hx
 ·exact h.aiP x hx
 ·rw[E'.1 hx];exact i
def PG.room{L:List Fm}{c:dP}(h:PG L c){v k:Nat}(b:v<=100)(d:k<=100):(eu c v k=some 0/\c.aiM.length+v<=16/\c.aiP.length+k<=16)\/(eu c v k=some 3/\(16<c.aiM.length+v\/16<c.aiP.length+k)):=by
 unfold eu;have f:=h.pl.nv;have i:=h.pl.nh;rw[gC,gC,fR VW VW,fR VW VW,lx]
 by_cases a:(o0 ((c.aiM.length:Int)+v) 16||o0 ((c.aiP.length:Int)+k) 16)=true
 ·rw[dO a];simp only[sA,il] at a;exact .inr ⟨rfl,VW⟩
 ·rw[dI a];simp only[sA,il,not_or] at a;exact .inl ⟨rfl,VW,VW⟩
def G2.len{N:Int}:∀{l:List Int} {lo:Int},G2 l->(∀x∈l,lo<=x/\x<N)->(l.length:Int)<=max 0 (N-lo)
 |[],lo,_,_=>by simp;omega|a::l,lo,.cons c d,h=>by
  have f:=h a aaF;have ih:=G2.len (lo:=a+1) d (λx b=>⟨by have:=c x b;omega,(h x (by simp[b])).2⟩);simp only[pM];omega
def Us.len{l:List Int}{m:Nat}(h:Us l m):l.length<=32:=by
 have:=G2.len (N:=32) (lo:=0) h.srt (λx a=>⟨h.pos x a,h.bound x a⟩);omega
def dQ.Cw{g:List Ty}{x:Tm}{t:Ty}(h:dQ g x t):∀j:Int,(g.length:Int)<=j->x.aiQ j=0:=by
 induction h with
 |@var g t i k l=>
  intro j a;rw[Tm.eZ,dI (λh=>by have:=h.2;omega)];rfl
 |@lam g s b t k _ ih=>
  intro j a;rw[Tm.eZ,dI (λh=>by cases h.1)];simp only[ea];rw[ih (j+eL 2) (by show _<=j+1;simp;omega)]
 |app _ _ c d=>intro j a;rw[Tm.eZ,dI (λh=>by cases h.1)];simp only[ea,show eL 3=0 from rfl,th,c j a,d j a]
 |zero=>intro j a;rw[Tm.eZ,dI (λh=>by cases h.1)];rfl
 |succ _ ih=>intro j a;rw[Tm.eZ,dI (λh=>by cases h.1)];simp only[ea,show eL 5=0 from rfl,th,ih j a]
 |rQ k _ _ _ c d f=>intro j a;rw[Tm.eZ,dI (λh=>by cases h.1)];simp only[ea,show eL 6=0 from rfl,th,c j a,d j a,f j a]
 |nil=>intro j a;rw[Tm.eZ,dI (λh=>by cases h.1)];rfl
 |cons _ _ c d=>intro j a;rw[Tm.eZ,dI (λh=>by cases h.1)];simp only[ea,show eL 8=0 from rfl,th,c j a,d j a]
 |fold k _ _ _ c d f=>intro j a;rw[Tm.eZ,dI (λh=>by cases h.1)];simp only[ea,show eL 9=0 from rfl,th,c j a,d j a,f j a]
 |pair k _ _ c d=>intro j a;rw[Tm.eZ,dI (λh=>by cases h.1)];simp only[ea,show eL 10=0 from rfl,th,c j a,d j a]
 |fst _ ih=>intro j a;rw[Tm.eZ,dI (λh=>by cases h.1)];simp only[ea,show eL 11=0 from rfl,th,ih j a]
 |snd _ ih=>intro j a;rw[Tm.eZ,dI (λh=>by cases h.1)];simp only[ea,show eL 12=0 from rfl,th,ih j a]
 |unit=>intro j a;rw[Tm.eZ,dI (λh=>by cases h.1)];rfl
def jB:Fm:=.mk 0 (.mk 0 []) [] []
def P1(r:Option (Fm×List Int×Int)):Option (su×Int):=
 fE r λb i h=>
 if(eE h 0) then(
 some ((su.mk (Fm.mk 0 (Ty.mk 0 []) [] []) []),h))
 else(dE (jP b) λc=>
 if(eE c 0) then(
 some ((su.mk (Fm.mk 0 (Ty.mk 0 []) [] []) []),4))
 else(eh (λ(d:List Int)=>
 some ((su.mk b d),0)) λa=>
 dS (ns b) λf j=>
 if f then(
 a i)
 else(a [])))
def Ec{α:Type}{F:Int->α->Unit->Option (fZ Unit Bool)}(w:α->Nat):∀(l:List α) (i:Nat),(∀j x,x∈l->F j x ()=if 0<w x then some (.ret true)else some (.next ()))->eY F l i ()=some (if 0<ea w l then .inr true else .inl ())
 |[],i,_=>rfl|x::l,i,h=>by
  have ih:=Ec w l (i+1) (λj y c=>h j y (by simp[c]));rw[fp,h i x aaF]
  by_cases a:0<w x
  ·rw[dO a,dO (show 0<ea w (x::l) by simp only[ea];omega)];rfl
  ·rw[dI a];show eY F l (i+1) ()=_;rw[ih]
   by_cases b:0<ea w l
   ·rw[dO b,dO (show 0<ea w (x::l) by simp only[ea];omega)]
   ·rw[dI b,dI (show¬0<ea w (x::l) by simp only[ea];omega)]
def L':∀(n:Nat) (t:Tm) (a:Int),t.aiK<=n->t.aiK<=1000000000->0<=a->a+t.aiK<=10000000000->u_ n t a=some (decide (0<t.aiQ a)):=by
 intro n
 induction n with
 |zero=>intro t a h;have:=t.eC;omega
 |succ n ih=>
  intro t a h d r f;cases t with
  |mk k i s l=>
   rw[Tm.dJ] at h d f;have u:=Tm.fC l;have v:=iM k;rw[u_,Tm.eZ];simp only[Tm.er,Tm.gY,Tm.eD,dZ,yT,gG,gP]
   by_cases c:k=1/\i=a
   ·rw[dO c,dO c]
    congr 1
    exact(xY VW).symm
   ·rw[dI c,dI c,ed VW,dX,Ec (Tm.aiQ (a+eL k)) l 0 (λj x o=>by
     have q:=ep Tm.aiK o;rw[nN,dF,Tm.eD,fR VW VW,ih x (a+eL k) VW VW VW VW,dF]
     by_cases b:0<x.aiQ (a+eL k)
     ·rw[dO b,dO (xY b)]
     ·rw[dI b,dI (by simpa using b)]),dF,xH]
    by_cases b:0<ea (Tm.aiQ (a+eL k)) l
    ·rw[dO b,rR,xY b]
    ·rw[dI b,ew,Ju b]
def DY:∀(n:Nat) (t:Fm) (a:Int),t.aiK<=n->t.aiK<=1000000000->0<=a->a+t.aiK<=10000000000->p8 n t a=some (decide (0<t.aiQ a)):=by
 intro n
 induction n with
 |zero=>intro t a h;have:=t.eC;omega
 |succ n ih=>
  intro t a h c r d;cases t with
  |mk k s ts l=>
   rw[Fm.dJ] at h c d;have u:=Fm.fC l;have q:=Tm.fC ts;have v:=tW k;rw[p8,Fm.eZ];simp only[Fm.er,Fm.hZ,dZ]
   rw[ed VW,dX,Ec (Tm.aiQ a) ts 0 (λj x f=>by
    have i:=ep Tm.aiK f;rw[L' FU x a (by rw[fD];omega) VW VW VW,dF]
    by_cases b:0<x.aiQ a
    ·rw[dO b,dO (xY b)]
    ·rw[dI b,dI (by simpa using b)]),dF]
   by_cases o:0<ea (Tm.aiQ a) ts
   ·rw[dO o,rR,xY VW]
   ·rw[dI o,ew,ed VW,dX,Ec (Fm.aiQ (a+qB k)) l 0 (λj x f=>by
     have i:=ep Fm.aiK f;rw[pK,dF,Fm.eD,fR VW VW,ih x (a+qB k) VW VW VW VW,dF]
     by_cases b:0<x.aiQ (a+qB k)
     ·rw[dO b,dO (xY b)]
     ·rw[dI b,dI (by simpa using b)]),dF]
    by_cases b:0<ea (Fm.aiQ (a+qB k)) l
    ·rw[dO b,rR,xY VW]
    ·rw[dI b,ew,Ju VW]
def Tm.HS(s:Tm):∀(t:Tm) (n:Int),t.ok=true->t.aiQ n=0->Tm.fK n t s=t.up (n+1) (-1):=by
 intro t
 induction t using Tm.ind with
 |h k i ty l ih=>
  intro n d f;have hi:=Tm.pO d;rw[Tm.eZ] at f;rw[Tm.eG,Tm.e9]
  by_cases a:k=1
  ·subst a;obtain⟨rfl,rfl⟩:=Tm.Ud d
   have b:i≠n:=λh=>by rw[dO ⟨rfl,h⟩] at f;omega
   rw[dO rfl];unfold Tm.iG;rw[dI b]
   by_cases j:n<i
   ·rw[dO j,dO ⟨rfl,VW⟩];rfl
   ·rw[dI j,dI (λh=>by omega)];rfl
  ·rw[dI a,dI (λh=>a h.1)]
   congr 1
   refine uU λx c=>?_;have:=ep (Tm.aiQ (n+eL k)) c;rw[ih x c (n+eL k) (hi.2.2.2.1 x c) VW,show n+eL k+1=n+1+eL k by omega]
def Fm.HS(s:Tm):∀(t:Fm) (n:Int),t.ok=true->t.aiQ n=0->Fm.fK n t s=t.up (n+1) (-1):=by
 intro t
 induction t using Fm.ind with
 |h k ty ts l ih=>
  intro n b c;obtain⟨_,d,f⟩:=Fm.qG b;rw[Fm.eZ] at c;rw[Fm.eG,Fm.e9]
  congr 1
  ·refine uU λx a=>?_;have:=ep (Tm.aiQ n) a;exact Tm.HS s x n (d x a) VW
  ·refine uU λx a=>?_;have:=ep (Fm.aiQ (n+qB k)) a;rw[ih x a (n+qB k) (f x a) VW,show n+qB k+1=n+1+qB k by omega]
def Lk:∀(n:Nat) (t:Tm) (f:Int),t.aiK<=n->t.aiK<=1000000000->0<=f->f+t.aiK<=10000000000->t.aiO 1000000000000=true->rV n t f (-1)=some (t.up f (-1)):=by
 intro n
 induction n with
 |zero=>intro t f h;have:=t.eC;omega
 |succ n ih=>
  intro t f h a w b hi;cases t with
  |mk k i s l=>
   rw[Tm.dJ] at h a b;rw[Tm.fx] at hi;simp only[gG,oy,kE] at hi;have y:=Tm.fC l;have A:=iM k;rw[rV];simp only[Tm.er,Tm.gY,Tm.eD,Tm.fu,dZ,ed (l:=l) VW,dX];rw[jU (Tm.up (f+eL k) (-1)) l 0 [] aby]
   ·rw[Tm.e9];simp only[dF,ew,qc,BI,Tm.mk.injEq,My,Ae]
    by_cases c:k=1/\f<=i
    ·obtain⟨rfl,d⟩:=c;rw[fR VW VW];have q:ei 1 1=true:=rfl
     have r:rb i f=true:=by simp[d]
     simp[q,r,d]
    ·rw[dI c]
     have e:e_ (ei k 1) (rb i f) false=false:=by
      rw[yT,Vh];simp only[ne_eq,gG,gP,jc];exact c
     rw[e];rfl
   ·intro j x v o u;have:=ep Tm.aiK o;rw[nN];simp only[dF,Tm.eD];rw[fR VW VW,ih x (f+eL k) VW VW VW VW (hi.2 x o)];simp[fM (l:=v) (m:=[x.up (f+eL k) (-1)]) (by simpa using u)]
def DZ:∀(n:Nat) (t:Fm) (f:Int),t.aiK<=n->t.aiK<=1000000000->0<=f->f+t.aiK<=10000000000->t.aiO 1000000000000=true->ik n t f (-1)=some (t.up f (-1)):=by
 intro n
 induction n with
 |zero=>intro t f h;have:=t.eC;omega
 |succ n ih=>
  intro t f h b i c hi;cases t with
  |mk k s ts l=>
   rw[Fm.dJ] at h b c;rw[Fm.fx] at hi;simp only[gG,kE] at hi;have q:=Fm.fC l;have o:=Tm.fC ts;have r:=tW k;rw[ik];simp only[Fm.er,Fm.hZ,Fm.eD,Fm.fu,dZ,ed (l:=l) VW,ed (l:=ts) VW,dX];rw[jU (Tm.up f (-1)) ts 0 [] aby]
   ·simp only[dF,ew];rw[jU (Fm.up (f+qB k) (-1)) l 0 [] aby]
    ·simp[Fm.e9]
    ·intro j x v a d;have:=ep Fm.aiK a;rw[pK];simp only[dF,Fm.eD];rw[fR VW VW,ih x (f+qB k) VW VW VW VW (hi.2 x a)];simp[fM (l:=v) (m:=[x.up (f+qB k) (-1)]) (by simpa using d)]
   ·intro j x v a d;have:=ep Tm.aiK a;rw[Lk FU x f (by rw[fD];omega) VW i VW (hi.1 x a)];simp[fM (l:=v) (m:=[x.up f (-1)]) (by simpa using d)]
noncomputable def EA (x:Tm) (e:Int):Tm×Int:=if e=0 then((x.norm 1000 0).1,(x.norm 1000 0).2.2)else(x,e)
def ri{α:Type}(f:α->Int->α×Int):List α->Int->List α×Int
 |[],e=>([],e)|x::l,e=>((f x e).1::(ri f l (f x e).2).1,(ri f l (f x e).2).2)
mutual
noncomputable def Fm.sN:Fm->Int->Fm×Int
 |.mk k s ts l,e=>(.mk k s (ri EA ts e).1 (Fm.PS l (ri EA ts e).2).1,(Fm.PS l (ri EA ts e).2).2)
noncomputable def Fm.PS:List Fm->Int->List Fm×Int
 |[],e=>([],e)|f::l,e=>((f.sN e).1::(Fm.PS l (f.sN e).2).1,(Fm.PS l (f.sN e).2).2)
end
def Fm.QA:∀(l:List Fm) (e:Int),Fm.PS l e=ri Fm.sN l e
 |[],e=>by rw[Fm.PS,ri]|f::l,e=>by rw[Fm.PS,ri,Fm.QA l]
def Fm.Fw(k:Int)(s:Ty)(ts:List Tm)(l:List Fm)(e:Int):(Fm.mk k s ts l).sN e=(.mk k s (ri EA ts e).1 (ri Fm.sN l (ri EA ts e).2).1,(ri Fm.sN l (ri EA ts e).2).2):=by rw[Fm.sN,Fm.QA]
def vk{α:Type}{f:α->Int->α×Int}:∀(l:List α) (e:Int),(∀x∈l,∀e,e≠0->(f x e).2=e)->e≠0->(ri f l e).2=e
 |[],e,_,_=>rfl|x::l,e,h,he=>by
  have a:=h x aaF e he;simp only[ri];rw[a];exact vk l e (λy b=>h y (by simp[b])) he
def AW{x:Tm}{e:Int}(he:e≠0):(EA x e).2=e:=by unfold EA;rw[dI he]
def Fm.Hz(f:Fm):∀e:Int,e≠0->(f.sN e).2=e:=by
 induction f using Fm.ind with
 |h k s ts l ih=>
  intro e he;rw[Fm.Fw];have a:=vk (f:=EA) ts e (λx _ e he=>AW he) he;simp only[];rw[a];exact vk l e ih he
structure Nm (x:Tm):Prop where
 err:x.err=0
 aiO:x.aiO 536870912=true
def Nm.one{x:Tm}(h:Nm x):kX x 1000=some (x.norm 1000 0):=by
 obtain⟨a,hn⟩:=l7 h.err;have hw:=x.iv a;have b:=zp (t:=x) VW 1000
 rwa [dO h.err,dO ⟨VW,VW,h.aiO⟩] at b
inductive TM:Fm->Prop
 |mk {k s ts l}:(∀x∈ts,Nm x)->(∀f∈l,TM f)->TM (.mk k s ts l)
def TM.of(f:Fm):f.aiK<=4096->f.ok=true->f.aiO 536870912=true->TM f:=by
 induction f using Fm.ind with
 |h k s ts l ih=>
  intro hn d b;obtain⟨_,i,j⟩:=Fm.qG d;rw[Fm.dJ] at hn;rw[Fm.fx,gG,kE,kE] at b;refine .mk (λx c=>⟨?_,b.1 x c⟩) (λf a=>?_)
  ·have:=ep Tm.aiK c;unfold Tm.err;rw[dO (i x c),dI VW]
  ·have:=ep Fm.aiK a;exact ih f a VW (j f a) (b.2 f a)
def GO:∀(n:Nat) (f:Fm),f.aiK<=n->f.aiK<=1000000->TM f->mY n f=some (if(f.sN 0).2=0 then((f.sN 0).1,0)else(jB,(f.sN 0).2)):=by
 intro n
 induction n with
 |zero=>intro f h;have:=f.eC;omega
 |succ n ih=>
  intro f hn L hm;cases f with
  |mk k s ts l=>
   cases hm with
   |mk M N=>
    rw[Fm.dJ] at hn L;have O:=iJ Tm.aiK ts λt _=>t.eC;have P:=iJ Fm.aiK l λt _=>t.eC;rw[mY,Fm.Fw];simp only[Fm.fu,Fm.er,Fm.eD,Fm.hZ,dZ];rw[ed VW,dX]
    have r:∀(us:List Tm) (j:Nat) (v:List Tm),(∀t∈us,Nm t)->v.length+us.length<=1000000000->eY (λ(Q:Int) (F:Tm)=>(λ(B:List Tm)=>
       fE (kX F 1000) λc I d=>
       if(eE d 0) then(
       some (.ret ((Fm.mk 0 (Ty.mk 0 []) [] []),d)))
       else(gu (fL B [c])<|some ((.next (fT B [c])):fZ (List Tm) (Fm×Int))))) us j v=some (if(ri EA us 0).2=0 then .inl (v++(ri EA us 0).1)else .inr (jB,(ri EA us 0).2)):=by
     intro us
     induction us with
     |nil=>intro j v _ _;simp[ri]|cons t us w=>
      intro j v hm G;simp only[pM] at G;rw[fp,(hm t aaF).one]
      have H:EA t 0=((t.norm 1000 0).1,(t.norm 1000 0).2.2):=by unfold EA;rw[dO rfl]
      obtain⟨y,m,a,C⟩:∃y m a,t.norm 1000 0=(y,m,a):=⟨_,_,_,rfl⟩;rw[C] at H|-;rw[lI]
      by_cases he:a=0
      ·subst he;rw[dI aak,fM aby,dX];simp only[dF,fw];rw[jl,w (j+1) (v++[y]) (λu hu=>hm u (by simp[hu])) aby];simp only[ri,H];simp
      ·rw[dO (by rw[eo];exact he)];simp only[ri,H];rw[vk (f:=EA) us a (λx _ e he=>AW he) he,dI he];rfl
    have A:∀(us:List Fm) (j:Nat) (v:List Fm),(∀t∈us,TM t/\t.aiK<=n/\t.aiK<=1000000)->v.length+us.length<=1000000000->eY (λ(J:Int) (D:Fm)=>(λ(i:List Fm)=>
       dS (mY n D) λo q=>
       if(eE q 0) then(
       some (.ret ((Fm.mk 0 (Ty.mk 0 []) [] []),q)))
       else(gu (fL i [o])<|some ((.next (fT i [o])):fZ (List Fm) (Fm×Int))))) us j v=some (if(ri Fm.sN us 0).2=0 then .inl (v++(ri Fm.sN us 0).1)else .inr (jB,(ri Fm.sN us 0).2)):=by
     intro us
     induction us with
     |nil=>intro j v _ _;simp[ri]|cons t us w=>
      intro j v hm G;simp only[pM] at G;obtain⟨R,a2,a3⟩:=hm t aaF;rw[fp,ih t a2 a3 R];obtain⟨y,a,C⟩:∃y a,t.sN 0=(y,a):=⟨_,_,rfl⟩;rw[C]
      by_cases he:a=0
      ·subst he;simp only[if_true];rw[dN,dI aak,fM aby,dX];simp only[dF,fw];rw[jl,w (j+1) (v++[y]) (λu hu=>hm u (by simp[hu])) aby];simp only[ri,C];simp
      ·simp only[dI he];rw[dN,dO (by rw[eo];exact he)];simp only[ri,C];rw[vk (f:=Fm.sN) us a (λx _ e he=>Fm.Hz x e he) he,dI he];rfl
    rw[r ts 0 [] M aby,dF]
    by_cases he:(ri EA ts 0).2=0
    ·rw[dO he,ew,ed VW,dX,A l 0 [] (λt K=>by
      have:=ep Fm.aiK K
      exact⟨N t K,VW,VW⟩) aby,dF,he]
     by_cases b:(ri Fm.sN l 0).2=0
     ·rw[dO b,dO b,ew,qc,qc]
     ·rw[dI b,dI b,rR]
    ·rw[dI he,rR,vk (f:=Fm.sN) l _ (λx _ e he=>Fm.Hz x e he) he,dI he]
def Ty.aeg:∀(n:Nat) (s:Ty),s.aiK<=n->s.err=0->∃a,dQ [] a s:=by
 intro n
 induction n with
 |zero=>intro s h;have:=s.eC;omega
 |succ n ih=>
  intro s hn he;rcases Ty.rl he with rfl|rfl|rfl|⟨a,b,rfl,f,c⟩|⟨a,b,rfl,f,c⟩
  ·exact⟨_,.zero⟩
  ·exact⟨_,.nil⟩
  ·exact⟨_,.unit⟩
  ·rw[Ty.vm] at hn;obtain⟨x,i⟩:=ih a VW f;obtain⟨y,d⟩:=ih b VW c;exact⟨_,.pair he i d⟩
  ·rw[Ty.jz] at hn;obtain⟨y,d⟩:=ih b VW c;exact⟨_,.lam he (by have:=d.front [a];simpa using this)⟩
def ia.down{g:List Ty}{s:Ty}{f:Fm}(h:ia (g++[s]) f)(hs:s.err=0)(c:f.aiQ 0=0):ia g (f.up 1 (-1)):=by
 obtain⟨a,d⟩:=Ty.aeg _ s (js _) hs
 have b:dQ g a s:=by simpa using d.front g
 have:=h.put b
 rwa [Fm.HS a f 0 h.ok c] at this
def dQ.nm{g:List Ty}{x:Tm}{t:Ty}(h:dQ g x t)(hg:g.length<=1000000)(a:x.aiK<=4096):Nm x:=by
 refine⟨?_,h.aiO _ VW⟩;unfold Tm.err;rw[dO h.ok,dI VW]
def Vp{g:List Ty}{x:Tm}{t:Ty}(h:dQ g x t)(hg:g.length<=1000000)(b:x.aiK<=4096){e:Int}(he:(EA x e).2=0):e=0/\dQ g (EA x e).1 t/\(EA x e).1.aiK<=4096:=by
 by_cases c:e=0
 ·subst c;unfold EA at he|-;simp only[if_true] at he|-;obtain⟨a,n,f,d⟩:∃a n f,x.norm 1000 0=(a,n,f):=⟨_,_,_,rfl⟩;rw[d] at he|-;simp only[] at he|-;subst he;exact⟨trivial,dQ.norm _ _ _ _ _ h d,(Hq 1000 536870912 0 x a n VW (Sm.start (h.nm hg b).err (h.nm hg b).aiO) b d).2⟩
 ·rw[AW c] at he;exact absurd he c
def Rq(a b:Tm)(e:Int):(Fm.mk 1 .z [a,b] []).sN e=(.mk 1 .z [(EA a e).1,(EA b (EA a e).2).1] [],(EA b (EA a e).2).2):=by rw[Fm.Fw];rfl
def QM(k:Int)(a b:Fm)(e:Int):(Fm.mk k .z [] [a,b]).sN e=(.mk k .z [] [(a.sN e).1,(b.sN (a.sN e).2).1],(b.sN (a.sN e).2).2):=by rw[Fm.Fw];rfl
def aac(k:Int)(s:Ty)(a:Fm)(e:Int):(Fm.mk k s [] [a]).sN e=(.mk k s [] [(a.sN e).1],(a.sN e).2):=by rw[Fm.Fw];rfl
def VR{g:List Ty}{f:Fm}(h:ia g f):∀(e:Int),g.length+f.aiK<=1000000->f.aiK<=4096->(f.sN e).2=0->e=0/\ia g (f.sN e).1/\(f.sN e).1.aiK<=3000*f.aiK:=by
 induction h with
 |@eq g a b d r=>
  intro e hg hn he;rw[Rq] at he|-;rw[Fm.dJ] at hn hg|-;simp only[ea] at hn hg|-;obtain⟨i,j,t⟩:=Vp r VW VW he;obtain⟨c,a2,a3⟩:=Vp d VW VW i;refine⟨c,.eq a2 j,?_⟩;rw[Fm.dJ];simp only[ea];have:=a.eC;have:=b.eC;omega
 |@two g k a b l d r n o=>
  intro e hg hn he;rw[QM] at he|-;rw[Fm.dJ] at hn hg|-;simp only[ea] at hn hg|-;obtain⟨i,j,t⟩:=o _ VW VW he;obtain⟨c,a2,a3⟩:=n _ VW VW i;refine⟨c,.two l a2 j,?_⟩;rw[Fm.dJ];simp only[ea];omega
 |@q g k s a l hs d ih=>
  intro e hg hn he;rw[aac] at he|-;rw[Fm.dJ] at hn hg|-;simp only[ea] at hn hg|-;obtain⟨c,a2,a3⟩:=ih _ aby VW he;refine⟨c,.q l hs a2,?_⟩;rw[Fm.dJ];simp only[ea];omega
noncomputable def yh (f:Fm):Fm×Int:=if f.aiQ 0=0 then(f.up 1 (-1),0)else if(f.sN 0).2≠0 then(jB,(f.sN 0).2)else if(f.sN 0).1.aiQ 0≠0 then(jB,6)else((f.sN 0).1.up 1 (-1),0)
def Hu{g:List Ty}{s:Ty}{f:Fm}(h:Hg (g++[s]) f)(hg:g.length<=1000)(hs:s.err=0)(a:(yh f).2=0):ia g (yh f).1/\(yh f).1.aiK<=3000*4096:=by
 have hn:=h.aiK;unfold yh at a|-
 split
 ·rename_i c;refine⟨h.ty.down hs c,?_⟩;show(f.up 1 (-1)).aiK<=_;rw[Fm.kK];omega
 ·rename_i c;rw[dI c] at a
  split
  ·rename_i b;rw[dO b] at a;exact absurd a b
  ·rename_i b;rw[dI b] at a
   split
   ·rename_i d;rw[dO d] at a;cases a
   ·rename_i d;obtain⟨_,a2,a3⟩:=VR h.ty 0 aby hn (vx.1 b);refine⟨a2.down hs VW,?_⟩;show((f.sN 0).1.up 1 (-1)).aiK<=_;rw[Fm.kK];omega
abbrev PR:=(Fm×Nat)⊕Int
def pbind(r:PR)(k:Fm->Nat->PR):PR:=match r with|.inl p=>k p.1 p.2|.inr e=>.inr e
def wC(c:Prop)[Decidable c](e:Int)(r:PR):PR:=if c then .inr e else r
theorem jD{c:Prop}[Decidable c]{e:Int}{r:PR}(h:c):wC c e r=.inr e:=dO h
theorem jY{c:Prop}[Decidable c]{e:Int}{r:PR}(h:¬c):wC c e r=r:=dI h
def kc(e:Int)(r:PR):PR:=if e=0 then r else .inr e
@[simp] theorem fN(f:Fm)(m:Nat)(k:Fm->Nat->PR):pbind (.inl (f,m)) k=k f m:=rfl
theorem gp{e:Int}{r:PR}(h:e=0):kc e r=r:=dO h
theorem iP{e:Int}{r:PR}(h:e≠0):kc e r=.inr e:=dI h
noncomputable def wD (r:PR):PR:=pbind r λf m=>if f.err=0 then .inl (f,if f.has then m else 0)else .inr 4
def E0(r:PR)(k:Int):PR:=pbind r λf m=>if f.aiI=k then .inl (f,m)else .inr 10
noncomputable def BM (a b:Fm):Int:=(jQ a b).getD 0
noncomputable def B1 (r:PR) (F:Fm) (t:Tm):PR:=pbind r λf m=>kc (ld F t).2 (kc (BM (ld F t).1 f) (.inl (f,m)))
def Ki(t:Tm):Nat->Nat
 |0=>0|j+1=>if 0<t.aiQ j then Ki t j|||2^j else Ki t j
def rB(t:Tm):Nat:=Ki t 32
def Ku(t:Tm):∀(n i:Nat),(Ki t n).testBit i=true↔i<n/\0<t.aiQ i
 |0,i=>by simp[Ki]|n+1,i=>by
  have ih:=Ku t n i;rw[Ki]
  by_cases h:0<t.aiQ n
  ·rw[dO h,ack,sA,ih,aeH];simp only[oy];constructor
   ·rintro(⟨a,b⟩|rfl)
    ·exact⟨VW,b⟩
    ·exact⟨VW,h⟩
   ·rintro⟨a,b⟩
    by_cases hi:n=i
    ·exact .inr hi
    ·exact .inl ⟨VW,b⟩
  ·rw[dI h,ih];constructor
   ·rintro⟨a,b⟩;exact⟨VW,b⟩
   ·rintro⟨a,b⟩;refine⟨?_,b⟩;rcases uR i n with hh|hh
    ·exact hh
    ·obtain rfl:i=n:=VW
     exact absurd b h
def KE(t:Tm)(i:Nat):(rB t).testBit i=true↔i<32/\0<t.aiQ i:=Ku t 32 i
def v0:Tm:=.mk 1 0 (.mk 0 []) []
def v1:Tm:=.mk 1 1 (.mk 0 []) []
noncomputable def pP (L:List Fm) (k i:Int) (s:Ty) (ts:List Tm) (fs:List Fm) (sub:Nat->List Ty->List Fm->PR) (g:List Ty) (hs:List Fm):PR:=
 let t:=ts.getD 0 Tm.z
 let F:=fs.getD 0 jB
 if k=1 then wC ((hs.length:Int)<=i) 8 (.inl (hs.getD (hs.length-1-i.toNat) jB,0))
 else if k=2 then wC ((L.length:Int)<=i) 9 (.inl (L.getD i.toNat jB,0))
 else if k=3 then pbind (sub 0 g hs) λa m=>pbind (sub 1 g hs) λb n=>.inl (.mk 2 .z [] [a,b],m|||n)
 else if k=4 then pbind (E0 (sub 0 g hs) 2) λa m=>.inl (a.aiJ.getD 0 jB,m)
 else if k=5 then pbind (E0 (sub 0 g hs) 2) λa m=>.inl (a.aiJ.getD 1 jB,m)
 else if k=6 then kc (F.va g) (wC (16<hs.length+1) 3 (pbind (sub 0 g (hs++[F])) λb m=>.inl (.mk 3 .z [] [F,b],m)))
 else if k=7 then pbind (E0 (sub 0 g hs) 3) λa m=>pbind (sub 1 g hs) λb n=>kc (BM (a.aiJ.getD 0 jB) b) (.inl (a.aiJ.getD 1 jB,m|||n))
 else if k=8 then wC (16<g.length+1) 3 (pbind (sub 0 (g++[s]) (hs.map (Fm.up 0 1))) λb m=>.inl (.mk 4 s [] [b],m/2))
 else if k=12 then wC (16<g.length+1) 3 (pbind (sub 0 (g++[s]) (hs.map (Fm.up 0 1))) λb m=>wC (m.testBit 0=true) 12 (.inl (.mk 6 s [] [b],m/2)))
 else if k=9 then kc (t.ty g).2 (pbind (E0 (sub 0 g hs) 4) λa m=>wC ((t.ty g).1.kV a.dM=false) 7 (kc (ld (a.aiJ.getD 0 jB) t).2 (.inl ((ld (a.aiJ.getD 0 jB) t).1,m|||rB t))))
 else if k=13 then kc (t.ty g).2 (pbind (E0 (sub 0 g hs) 6) λa m=>wC ((t.ty g).1.kV a.dM=false) 7 (kc (ld (a.aiJ.getD 0 jB) t).2 (.inl ((ld (a.aiJ.getD 0 jB) t).1,m))))
 else if k=10 then kc (F.va g) (wC (F.aiI≠5) 10 (kc (t.ty g).2 (wC ((t.ty g).1.kV F.dM=false) 7 (pbind (B1 (sub 0 g hs) (F.aiJ.getD 0 jB) t) λ_ m=>.inl (F,m|||rB t)))))
 else if k=14 then kc (F.va g) (wC (F.aiI≠7) 10 (kc (t.ty g).2 (wC ((t.ty g).1.kV F.dM=false) 7 (pbind (B1 (sub 0 g hs) (F.aiJ.getD 0 jB) t) λ_ m=>.inl (F,m)))))
 else if k=11 then pbind (E0 (sub 0 g hs) 5) λa m=>wC (16<g.length+1\/16<hs.length+1) 3 (pbind (sub 1 (g++[a.dM]) (hs.map (Fm.up 0 1)++[a.aiJ.getD 0 jB])) λb n=>kc (yh b).2 (.inl ((yh b).1,m|||n/2)))
 else if k=15 then pbind (E0 (sub 0 g hs) 7) λa m=>wC (16<g.length+1\/16<hs.length+1) 3 (pbind (sub 1 (g++[a.dM]) (hs.map (Fm.up 0 1)++[a.aiJ.getD 0 jB])) λb n=>kc (yh b).2 (wC (n.testBit 0=true) 12 (.inl ((yh b).1,m|||n/2))))
 else if k=16 then kc (F.va (g++[.nat])) (kc (nM t g 1) (pbind (B1 (sub 0 g hs) F iF) λ_ m=>wC (16<g.length+1\/16<hs.length+1) 3 (
  pbind (B1 (sub 1 (g++[.nat]) (hs.map (Fm.up 0 1)++[F])) (F.up 1 1) (gK v0)) λ_ n=>kc (ld F t).2 (.inl ((ld F t).1,(rB t|||m)|||n/2)))))
 else if k=17 then kc (F.va (g++[.ir])) (kc (nM t g 2) (pbind (B1 (sub 0 g hs) F (.mk 7 0 .z [])) λ_ m=>wC (16<g.length+2\/16<hs.length+1) 3 (
  pbind (B1 (sub 1 (g++[.nat]++[.ir]) (hs.map (Fm.up 0 2)++[F.up 1 1])) (F.up 1 2) (.mk 8 0 .z [v1,v0])) λ_ n=>kc (ld F t).2 (.inl ((ld F t).1,(rB t|||m)|||n/4)))))
 else if k=18 then kc (nM t g 1) (.inl (.mk 1 .z [t,t] [],0))
 else if k=19 then kc (F.va (g++[.nat])) (pbind (E0 (sub 0 g hs) 1) λa _=>pbind (B1 (sub 1 g hs) F (a.ef.getD 0 Tm.z)) λ_ n=>kc (ld F (a.ef.getD 1 Tm.z)).2 (.inl ((ld F (a.ef.getD 1 Tm.z)).1,n)))
 else pbind (E0 (sub 0 g hs) 4) λa m=>wC ((a.aiJ.getD 0 jB).aiI≠5) 10 (wC ((Ty.fn a.dM (a.aiJ.getD 0 jB).dM).err≠0) 4 (wC ((ld (((a.aiJ.getD 0 jB).aiJ.getD 0 jB).up 2 1) (eF v1 v0)).2≠0) 4 (.inl (.mk 5 (Ty.fn a.dM (a.aiJ.getD 0 jB).dM) [] [.mk 4 a.dM [] [(ld (((a.aiJ.getD 0 jB).aiJ.getD 0 jB).up 2 1) (eF v1 v0)).1]],m))))
mutual
noncomputable def Pf.inf (L:List Fm):Pf->List Ty->List Fm->PR
 |.mk k i s ts fs l,g,hs=>wD (pP L k i s ts fs (Pf.uX L l) g hs)
noncomputable def Pf.uX (L:List Fm):List Pf->Nat->List Ty->List Fm->PR
 |[],_,_,_=>.inr 2|p::_,0,g,hs=>p.inf L g hs|_::l,n+1,g,hs=>Pf.uX L l n g hs
end
def IRs(g:List Ty)(s:PR)(r:Option (su×Int)):Prop:=
 (∃e,e≠0/\s=.inr e/\r=some (⟨jB,[]⟩,e))\/∃(f:Fm) (m:Nat) (l:List Int),s=.inl (f,m)/\r=some (⟨f,l⟩,0)/\Us l m/\Hg g f
def lD(g:List Ty)(s:PR)(r:Option (Fm×List Int×Int)):Prop:=
 (∃e f l,e≠0/\s=.inr e/\r=some (f,l,e))\/∃(f:Fm) (m:Nat) (l:List Int),s=.inl (f,m)/\r=some (f,l,0)/\Us l m/\ia g f/\f.aiK<=15000000
theorem lD.no{g:List Ty}{s:PR}{r:Option (Fm×List Int×Int)}{e:Int}{f:Fm}{l:List Int}(he:e≠0)(a:s=.inr e)(b:r=some (f,l,e)):lD g s r:=.inl ⟨e,f,l,he,a,b⟩
def lD.yes{g:List Ty}{s:PR}{r:Option (Fm×List Int×Int)}{f:Fm}{m:Nat}{l:List Int}(a:s=.inl (f,m))(b:r=some (f,l,0))(c:Us l m)(d:ia g f)(h:f.aiK<=15000000):lD g s r:=.inr ⟨f,m,l,a,b,c,d,h⟩
def lD.infer{g:List Ty}(hg:g.length<=16){s:PR}{r:Option (Fm×List Int×Int)}(h:lD g s r):IRs g (wD s) (P1 r):=by
 rcases h with⟨e,f,l,he,rfl,rfl⟩|⟨f,m,l,rfl,rfl,hu,b,hn⟩
 ·refine .inl ⟨e,he,rfl,?_⟩;unfold P1;rw[lI,dO (by rw[eo];exact he)];rfl
 ·have c:=b.ok;have hw:=f.iv c;have d:wD (.inl (f,m))=if f.err=0 then .inl (f,if f.has then m else 0)else .inr 4:=rfl;unfold P1;rw[lI];simp only[dZ];rw[dI aak,kg VW,dF]
  by_cases a:f.err=0
  ·rw[dI (by rw[eo];simp[a]),Fc _ VW,d,dO a];rw[dI (show¬(f.err≠0) by simpa using a),dN];cases f.has with
   |true=>exact .inr ⟨f,m,l,rfl,rfl,hu,⟨a,b⟩⟩|false=>exact .inr ⟨f,0,[],rfl,rfl,.nil,⟨a,b⟩⟩
  ·rw[dO (by rw[eo];exact a),d,dI a];exact .inl ⟨4,aak,rfl,rfl⟩
def iZ(L:List Fm)(P:Pf)(N:Nat):Prop:=∀n',N<=n'->∀c,PG L c->IRs c.aiM (P.inf L c.aiM c.aiP) (ej n' c P)
def E6{f:Fm}{m:Nat}{k:Int}(h:f.aiI=k):E0 (.inl (f,m)) k=.inl (f,m):=by grind[E0,fN]
def abZ{f:Fm}{m:Nat}{k:Int}(h:f.aiI≠k):E0 (.inl (f,m)) k=.inr 10:=by grind[E0,fN]
def m8{g:List Ty}{s:PR}{r:Option (su×Int)}(h:IRs g s r)(k:Int):(∃e,e≠0/\E0 s k=.inr e/\((r=some (⟨jB,[]⟩,e))\/∃f l m,r=some (⟨f,l⟩,0)/\f.aiI≠k/\e=10/\Us l m))\/∃(f:Fm) (m:Nat) (l:List Int),E0 s k=.inl (f,m)/\r=some (⟨f,l⟩,0)/\Us l m/\Hg g f/\f.aiI=k:=by
 rcases h with⟨e,he,a,b⟩|⟨f,m,l,a,b,hu,d⟩
 ·exact .inl ⟨e,he,by rw[a];rfl,.inl b⟩
 ·by_cases c:f.aiI=k
  ·exact .inr ⟨f,m,l,by rw[a,E6 c],b,hu,d,c⟩
  ·exact .inl ⟨10,aak,by rw[a,abZ c],.inr ⟨f,l,m,b,c,rfl,hu⟩⟩
def LX{a b:Fm}(d:a.wt<=1000000000)(f:b.wt<=1000000000):jQ a b=some (BM a b):=by
 obtain⟨c,h⟩:=Eu d f;unfold BM;rw[h];rfl
structure sF (g:List Ty) (F:Fm) (t:Tm):Prop where
 fe:F.err=0
 te:t.err=0
 ty:∃s,ia (g++[s]) F/\dQ g t s
theorem sF.put{g:List Ty}{F:Fm}{t:Tm}(h:sF g F t):ia g (Fm.fK 0 F t):=by
 obtain⟨s,a,b⟩:=h.ty;exact a.put b
def sF.both{g:List Ty}{F:Fm}{t:Tm}(h:sF g F t)(hg:g.length<=100):jq F t=some (ld F t):=by
 obtain⟨s,a,b⟩:=h.ty;obtain⟨_,a2⟩:=Fm.gZ h.fe;obtain⟨_,f⟩:=Tm.gZ h.te;have c:F.aiO 536870912=true:=a.aiO _ aby;have d:t.aiO 536870912=true:=b.aiO _ VW;unfold jq;rw[Jf h.fe h.te c d h.put.ok];rfl
theorem lC(F:Fm)(t:Tm):ld F t=(jB,4)\/(Fm.fK 0 F t).aiK<=4096/\ld F t=(Fm.fK 0 F t,0):=by
 unfold ld
 split
 ·exact .inl rfl
 ·grind
def sK{g:List Ty}(hg:g.length<=16){s:PR}{n':Nat}{P:Pf}{c:dP}(h:IRs g s (ej n' c P)){F:Fm}{t:Tm}(k:sF g F t):(∃e l m,e≠0/\B1 s F t=.inr e/\eS (n'+1) c P F t=some (l,e)/\Us l m)\/∃(f:Fm) (m:Nat) (l:List Int),B1 s F t=.inl (f,m)/\eS (n'+1) c P F t=some (l,0)/\Us l m:=by
 have k2:=k.both VW;rcases h with⟨e,he,i,j⟩|⟨f,m,l,i,j,hu,n⟩
 ·refine .inl ⟨e,[],0,he,by rw[i];rfl,?_,.nil⟩;rw[eS,j,dN,dO (by rw[eo];exact he)]
 ·rcases lC F t with d|⟨hn,d⟩
  ·rw[d] at k2;refine .inl ⟨4,[],0,aak,?_,?_,.nil⟩
   ·rw[i];unfold B1;rw[fN,d];rfl
   ·rw[eS,j,dN,dI aak,k2,dN,dO aak]
  ·rw[d] at k2;have v:=Fm.iv _ k.put.ok;have w:=Fm.iv _ n.ok;have o:=n.aiK;have q:=LX (a:=Fm.fK 0 F t) (b:=f) VW VW
   have r:B1 s F t=kc (BM (Fm.fK 0 F t) f) (.inl (f,m)):=by rw[i];unfold B1;rw[fN,d,gp rfl]
   have u:eS (n'+1) c P F t=some (l,BM (Fm.fK 0 F t) f):=by
    rw[eS,j,dN,dI aak,k2,dN,dI aak,q,dF]
   rw[r,u]
   by_cases hm:BM (Fm.fK 0 F t) f=0
   ·rw[gp hm,hm];exact .inr ⟨f,m,l,rfl,rfl,hu⟩
   ·rw[iP hm];exact .inl ⟨_,_,m,hm,rfl,rfl,hu⟩
theorem A7{g:List Ty}(h:im g)(hg:g.length<=16):xm g=0:=by
 unfold xm;rw[dI VW]
 induction g with
 |nil=>rfl|cons s g ih=>
  have a:=h s aaF;simp only[lF,fk];rw[dO a];exact ih (λx b=>h x (by simp[b])) (by simp at hg;omega)
def s9{g:List Ty}(a:im g)(hg:g.length<=17){F:Fm}(hF:F.err=0):kB g F=some (F.va g)/\(g.length<=16->jh g F=some (F.va g)):=by
 obtain⟨b,a2⟩:=Fm.gZ hF;have hw:=F.iv b;refine⟨?_,λc=>?_⟩
 ·unfold kB;rw[kg VW,hF,dF,dI aak,AF F b FU (by rw[fD];omega) g a VW a2];rfl
 ·rw[rS VW VW (λt d=>by have:=eV (a t d);omega)];unfold Hi
  grind[A7]
def tM{g:List Ty}(a:im g)(hg:g.length<=16){t:Tm}(b:t.err=0):jb g t=some (t.ty g):=by
 obtain⟨c,a2⟩:=Tm.gZ b;unfold jb;rw[ti g VW (λt b=>by have:=eV (a t b);omega),A7 a hg,z_ c a2 a VW];rfl
def has_both{g:List Ty}(b:im g)(hg:g.length<=16){c:dP}(a:c.aiM=g){t:Tm}(d:t.err=0)(k:Int):gX c t k=some (nM t g k):=by
 unfold gX nM;rw[a,tM b hg d]
 grind[dN,eo]
def yb{g:List Ty}(hg:g.length<=16){t:Tm}{s:Ty}(h:dQ g t s)(b:t.err=0):∃l,ke t=some l/\Us l (rB t):=by
 obtain⟨o,a2⟩:=Tm.gZ b;have a:∀j:Int,32<=j->t.aiQ j=0:=λj q=>h.Cw j VW;obtain⟨l,d,f,c⟩:=Zh b (h.aiO _ VW) a;refine⟨l,d,⟨?_,λx k=>((c x).1 k).1,f,λi=>?_⟩⟩
 ·exact Nat.lt_pow_two_of_testBit (n:=32) _ λi hi=>by rw[<-abb,KE];omega
 ·rw[c,KE]
  grind
def nz:¬eE 0 0=true:=aak
def Pf.jw(L:List Fm)(k i:Int)(s:Ty)(ts:List Tm)(fs:List Fm)(l:List Pf)(g:List Ty)(hs:List Fm):(Pf.mk k i s ts fs l).inf L g hs=wD (pP L k i s ts fs (Pf.uX L l) g hs):=by rw[Pf.inf]
def iZ.of{L:List Fm}{k i:Int}{s:Ty}{ts:List Tm}{fs:List Fm}{l:List Pf}{N:Nat}
  (H:∀n',N<=n'->∀c,PG L c->lD c.aiM (pP L k i s ts fs (Pf.uX L l) c.aiM c.aiP) (ee (n'+4) c (.mk k i s ts fs l))):iZ L (.mk k i s ts fs l) (N+5):=by
 intro n' b c h;obtain⟨a,rfl⟩:∃a,n'=a+5:=⟨n'-5,VW⟩;exact lD.infer h.pl.nv (H a VW c h)
def aeL(n:Nat)(c:dP)(i:Int):ee (n+1) c (.mk 1 i .z [] [] [])=if(rb i (ez c.aiP)) then some (jB,[],8)else dE (eb c.aiP (fU .i64 (fU .i64 (ez c.aiP) 1) i)) λa=>some (a,[],0):=by rw[ee];rfl
def Vx(L:List Fm)(i:Int)(g:List Ty)(hs:List Fm):pP L 1 i .z [] [] (Pf.uX L []) g hs=wC ((hs.length:Int)<=i) 8 (.inl (hs.getD (hs.length-1-i.toNat) jB,0)):=rfl
def Vt{L:List Fm}{i:Int}(hi:0<=i):iZ L (.mk 1 i .z [] [] []) 5:=by
 refine iZ.of (N:=0) λn' _ c h=>?_;rw[aeL,Vx]
 by_cases d:(c.aiP.length:Int)<=i
 ·grind[jD,dN,rb,ez,jc,gC,lD.no]
 ·have j:=h.pl.nh
  have b:c.aiP.length-1-i.toNat<c.aiP.length:=VW
  rw[jY d,dI (show¬(rb i (ez c.aiP)=true) by rw[jc,gC];exact d),gC,fY (a:=(c.aiP.length:Int)) VW VW,fY VW VW,show(c.aiP.length:Int)-1-i=((c.aiP.length-1-i.toNat:Nat):Int) by omega,jN,qL b,dF];have f:=h.aiP _ (Es b);exact lD.yes (by simp[O4,b]) rfl .nil f.ty (by have:=f.aiK;omega)
def afk(n:Nat)(c:dP)(i:Int):ee (n+1) c (.mk 2 i .z [] [] [])=if(rb i (ez c.lemmas)) then some (jB,[],9)else dE (eb c.lemmas i) λa=>some (a,[],0):=by rw[ee];rfl
def ZL(L:List Fm)(i:Int)(g:List Ty)(hs:List Fm):pP L 2 i .z [] [] (Pf.uX L []) g hs=wC ((L.length:Int)<=i) 9 (.inl (L.getD i.toNat jB,0)):=rfl
def Vn{L:List Fm}{i:Int}(hi:0<=i):iZ L (.mk 2 i .z [] [] []) 5:=by
 refine iZ.of (N:=0) λn' _ c h=>?_;rw[afk,ZL,h.Mo]
 by_cases b:(L.length:Int)<=i
 ·grind[jD,jc,gC,lD.no]
 ·obtain⟨k,rfl⟩:∃k:Nat,i=k:=⟨i.toNat,VW⟩
  have a:k<L.length:=VW
  rw[jY b,dI (by rw[jc,gC];exact b),jN,qL a,dF]
  have f:L.getD (k:Int).toNat jB=L[k]:=by grind
  have d:=h.aba _ (Es a);exact lD.yes (by rw[f]) rfl .nil (by simpa using d.ty.front c.aiM) (by have:=d.aiK;omega)
def adm(n:Nat)(c:dP)(a b:Pf):ee (n+1) c (.mk 3 0 .z [] [] [a,b])=dS (ej n c a) λd f=>if(eE f 0) then some (jB,[],f)else dS (ej n c b) λh i=>dE (rC 2 d.dW h.dW) λj=>dE (gd d.jG h.jG) λk=>some (j,k,i):=by rw[ee];rfl
def O1(L:List Fm)(a b:Pf)(g:List Ty)(hs:List Fm):pP L 3 0 .z [] [] (Pf.uX L [a,b]) g hs=pbind (a.inf L g hs) λf m=>pbind (b.inf L g hs) λc n=>.inl (.mk 2 .z [] [f,c],m|||n):=rfl
def Qo:jB.wt<=1000000:=aak
def S8{L:List Fm}{a b:Pf}{N:Nat}(s:iZ L a N)(t:iZ L b N):iZ L (.mk 3 0 .z [] [] [a,b]) (N+5):=by
 refine iZ.of λn' u c h=>?_;rw[adm,O1];rcases s (n'+3) VW c h with⟨e,he,d,i⟩|⟨f,m,l,d,i,hu,n⟩
 ·rw[d,i,dN,dO (by rw[eo];exact he)];exact lD.no he rfl rfl
 ·have v:=n.aiK;have w:=f.iv n.ok;rw[d,i,dN,dI aak,fN];rcases t (n'+3) VW c h with⟨e,he,d,i⟩|⟨x,A,B,d,i,k,j⟩
  ·obtain⟨q,q1,_⟩:=hu.union .nil (by have:=hu.len;omega) aaF;have:=Qo;rw[d,i,dN];simp only[];rw[Lf VW VW,dF,q1];exact lD.no he rfl rfl
  ·have o:=j.aiK;have r:=x.iv j.ok;obtain⟨q,q1,C,y,_⟩:=hu.union k (by have:=hu.len;omega) (by have:=k.len;omega);rw[d,i,dN,fN];simp only[];rw[Lf VW VW,dF,q1];refine lD.yes rfl rfl y (.two (.inl rfl) n.ty j.ty) ?_;rw[Fm.dJ];simp only[ea];omega
def ia.KG{g:List Ty}{f:Fm}(h:ia g f){k:Int}(d:f.aiI=k)(i:k=2\/k=3):∃a b,f=.mk k .z [] [a,b]/\ia g a/\ia g b:=by
 cases h with
 |eq _ _=>grind[Fm.eD]|two c j l=>grind[Fm.eD]|q c _ _=>grind[Fm.eD]
def ia.vV{g:List Ty}{f:Fm}(h:ia g f){k:Int}(d:f.aiI=k)(i:k=4\/k=5\/k=6\/k=7):∃s a,f=.mk k s [] [a]/\s.err=0/\ia (g++[s]) a:=by
 cases h with
 |eq _ _=>grind[Fm.eD]|two b c j=>grind[Fm.eD]|q b hs c=>grind[Fm.eD]
def ia.Ul{g:List Ty}{f:Fm}(h:ia g f)(j:f.aiI=1):∃a b,f=.mk 1 .z [a,b] []/\dQ g a .nat/\dQ g b .nat:=by
 cases h with
 |eq d i=>grind|two c d i=>simp_all|q c hs d=>simp_all
def Hg.sub{g a:List Ty}{k:Int}{s:Ty}{ts:List Tm}{l:List Fm}(h:Hg g (.mk k s ts l)){x:Fm}(c:x∈l)(b:ia a x):Hg a x:=by
 have d:=h.aiK;rw[Fm.dJ] at d;have:=ep Fm.aiK c;refine⟨?_,b⟩;unfold Fm.err;rw[dO b.ok,dI VW]
def abd(n:Nat)(c:dP)(a:Pf):ee (n+1) c (.mk 4 0 .z [] [] [a])=dS (ej n c a) λb d=>if(eE d 0) then some (jB,[],d)else if(eE b.dW.aiI 2) then some (jB,[],10)else dE (eb b.dW.aiJ (fU .i64 4 4)) λf=>some (f,b.jG,0):=by rw[ee];rfl
def acu(n:Nat)(c:dP)(a:Pf):ee (n+1) c (.mk 5 0 .z [] [] [a])=dS (ej n c a) λb d=>if(eE d 0) then some (jB,[],d)else if(eE b.dW.aiI 2) then some (jB,[],10)else dE (eb b.dW.aiJ (fU .i64 5 4)) λf=>some (f,b.jG,0):=by rw[ee];rfl
def O0(L:List Fm)(a:Pf)(g:List Ty)(hs:List Fm):pP L 4 0 .z [] [] (Pf.uX L [a]) g hs=pbind (E0 (a.inf L g hs) 2) λf m=>.inl (f.aiJ.getD 0 jB,m):=rfl
def Qc(L:List Fm)(a:Pf)(g:List Ty)(hs:List Fm):pP L 5 0 .z [] [] (Pf.uX L [a]) g hs=pbind (E0 (a.inf L g hs) 2) λf m=>.inl (f.aiJ.getD 1 jB,m):=rfl
def SI{L:List Fm}{a:Pf}{N:Nat}(n:iZ L a N):iZ L (.mk 4 0 .z [] [] [a]) (N+5):=by
 refine iZ.of λn' o c h=>?_;rw[abd,O0];rcases m8 (n (n'+3) VW c h) 2 with⟨e,he,d,b⟩|⟨f,m,l,d,b,hu,j,i⟩
 ·rw[d];rcases b with b|⟨f,l,m,b,i,rfl,_⟩
  ·rw[b,dN,dO (by rw[eo];exact he)];exact lD.no he rfl rfl
  ·rw[b,dN,dI aak,dO (by rw[eo];exact i)];exact lD.no he rfl rfl
 ·obtain⟨x,y,rfl,k,q⟩:=j.ty.KG i (.inl rfl);rw[d,b,dN,dI aak,dI aaF,fN];exact lD.yes (f:=x) rfl rfl hu k (by have:=(j.sub aaF k).aiK;omega)
def SY{L:List Fm}{a:Pf}{N:Nat}(n:iZ L a N):iZ L (.mk 5 0 .z [] [] [a]) (N+5):=by
 refine iZ.of λn' o c h=>?_;rw[acu,Qc];rcases m8 (n (n'+3) VW c h) 2 with⟨e,he,d,b⟩|⟨f,m,l,d,b,hu,j,i⟩
 ·rw[d];rcases b with b|⟨f,l,m,b,i,rfl,_⟩
  ·rw[b,dN,dO (by rw[eo];exact he)];exact lD.no he rfl rfl
  ·rw[b,dN,dI aak,dO (by rw[eo];exact i)];exact lD.no he rfl rfl
 ·obtain⟨x,y,rfl,q,k⟩:=j.ty.KG i (.inl rfl);rw[d,b,dN,dI aak,dI aaF,fN];exact lD.yes (f:=y) rfl rfl hu k (by have:=(j.sub aaF k).aiK;omega)
def acr(n:Nat)(c:dP)(F:Fm)(a:Pf):ee (n+1) c (.mk 6 0 .z [] [F] [a])=dE (jh c.aiM F) λb=>if(eE b 0) then some (jB,[],b)else dE (eu c 0 1) λd=>if(eE d 0) then some (jB,[],d)else dE (fX c F) λh=>dS (ej n h a) λf i=>dE (rC 3 F f.dW) λj=>some (j,f.jG,i):=by rw[ee];rfl
def VB(L:List Fm)(F:Fm)(a:Pf)(g:List Ty)(hs:List Fm):pP L 6 0 .z [] [F] (Pf.uX L [a]) g hs=kc (F.va g) (wC (16<hs.length+1) 3 (pbind (a.inf L g (hs++[F])) λb m=>.inl (.mk 3 .z [] [F,b],m))):=rfl
def RZ{L:List Fm}{F:Fm}(hF:F.err=0){a:Pf}{N:Nat}(s:iZ L a N):iZ L (.mk 6 0 .z [] [F] [a]) (N+5):=by
 refine iZ.of λn' t c h=>?_;rw[acr,VB];have j:=h.pl.nv;obtain⟨_,t2⟩:=s9 h.pl.ctx VW hF;have u:=(Fm.gZ hF).2;have w:=F.iv (Fm.gZ hF).1;rw[t2 j,dF]
 by_cases d:F.va c.aiM=0
 ·rw[dI (by rw[eo];simpa using d),gp d];have i:=rn F (Fm.gZ hF).1 c.aiM h.pl.ctx d;rcases h.room (v:=0) (k:=1) VW VW with⟨b,_,r⟩|⟨b,r⟩
  ·have b:eu c 0 1=some 0:=b;rw[b,dF,dI aak,jY VW];obtain⟨x,y,A,B,C⟩:=h.with ⟨hF,i⟩ r;rw[y,dF];have hi:=s (n'+3) VW x A;rw[B,C] at hi;rcases hi with⟨e,he,n,o⟩|⟨f,m,l,n,o,hu,q⟩
   ·have:=Qo;rw[n,o,dN];simp only[];rw[Lf VW VW];exact lD.no he rfl rfl
   ·have D:=q.aiK;have G:=f.iv q.ok;rw[n,o,dN];simp only[];rw[Lf VW VW];refine lD.yes rfl rfl hu (.two (.inr rfl) i q.ty) ?_;rw[Fm.dJ];simp only[ea];omega
  ·have b:eu c 0 1=some 3:=b;rw[b,dF,dO aak,jD VW];exact lD.no aak rfl rfl
 ·rw[dO (by rw[eo];exact d),iP d];exact lD.no d rfl rfl
def abo(n:Nat)(c:dP)(a b:Pf):ee (n+1) c (.mk 7 0 .z [] [] [a,b])=dS (ej n c a) λd f=>if(eE f 0) then some (jB,[],f)else if(eE d.dW.aiI 3) then some (jB,[],10)else dS (ej n c b) λh i=>if(eE i 0) then some (jB,[],i)else dE (eb d.dW.aiJ 1) λj=>dE (gd d.jG h.jG) λk=>dE (eb d.dW.aiJ 0) λl=>dE (jQ l h.dW) λo=>some (j,k,o):=by rw[ee];rfl
def T1(L:List Fm)(a b:Pf)(g:List Ty)(hs:List Fm):pP L 7 0 .z [] [] (Pf.uX L [a,b]) g hs=pbind (E0 (a.inf L g hs) 3) λa m=>pbind (b.inf L g hs) λb n=>kc (BM (a.aiJ.getD 0 jB) b) (.inl (a.aiJ.getD 1 jB,m|||n)):=rfl
def Sd{L:List Fm}{a b:Pf}{N:Nat}(B:iZ L a N)(C:iZ L b N):iZ L (.mk 7 0 .z [] [] [a,b]) (N+5):=by
 refine iZ.of λn' D c h=>?_;rw[abo,T1];rcases m8 (B (n'+3) VW c h) 3 with⟨e,he,i,d⟩|⟨f,m,l,i,d,hu,n,o⟩
 ·rw[i];rcases d with d|⟨f,l,m,d,o,rfl,_⟩
  ·rw[d,dN,dO (by rw[eo];exact he)];exact lD.no he rfl rfl
  ·rw[d,dN,dI aak,dO (by rw[eo];exact o)];exact lD.no he rfl rfl
 ·obtain⟨x,y,rfl,u,v⟩:=n.ty.KG o (.inr rfl);have r:=n.sub (x:=x) aaF u;have s:=n.sub (x:=y) aaF v;have F:=x.iv u.ok;have G:=r.aiK;rw[i,d,dN,dI aak,dI aaF,fN];rcases C (n'+3) VW c h with⟨e,he,i,d⟩|⟨t,J,K,i,d,j,k⟩
  ·rw[i,d,dN,dO (by rw[eo];exact he)];exact lD.no he rfl rfl
  ·have w:=k.aiK;have A:=t.iv k.ok;obtain⟨q,q1,M,H,_⟩:=hu.union j (by have:=hu.len;omega) (by have:=j.len;omega);have I:=LX (a:=x) (b:=t) VW VW;rw[i,d,dN,dI aak,fN];simp only[Fm.er,eJ,hE,kQ,qo,dF,zC,O3];rw[q1,I,dF,dF]
   by_cases hm:BM x t=0
   ·rw[gp hm,hm];exact lD.yes rfl rfl H v (by have:=s.aiK;omega)
   ·rw[iP hm];exact lD.no hm rfl rfl
def Us.has{l:List Int}{m:Nat}(h:Us l m):rF l=some (m.testBit 0)/\eE (ue .u32 (m:Int) 1) 0=m.testBit 0:=by
 have hm:=h.mem 0;constructor
 ·unfold rF;simp only[dZ];cases l with
  |nil=>simp_all|cons a l=>
   rw[dO aaF];simp only[eJ,kQ,dF]
   congr 1
   rw[GS,gP,<-hm];constructor
   ·rintro rfl;simp
   ·intro hh;rcases lS.1 hh with hh|hh
    ·exact hh.symm
    ·cases h.srt with
     |cons s1 _=>
      have:=s1 0 (by simpa using hh);have:=h.pos a aaF;omega
 ·rw[show(1:Int)=((1:Nat):Int)from rfl,TV h.lt VW];rw[GS,eo,Nat.testBit_zero,Nat.and_one_is_mod];simp only[oy];omega
def aa_(n:Nat)(c:dP)(s:Ty)(a:Pf):ee (n+2) c (.mk 8 0 s [] [] [a])=fE (dE (eu c 1 0) λo=>if(eE o 0) then some (jB,[],o)else dE (fg c [s]) λj=>dS (ej n j a) λb d=>if(eE d 0) then some (jB,[],d)else dE (nC 4 s b.dW) λk=>dE (gk b.jG 1) λl=>some (k,l,0)) λf h i=>some (f,h,i):=by
 rw[ee];rw[mQ];rfl
def YT(n:Nat)(c:dP)(s:Ty)(a:Pf):ee (n+2) c (.mk 12 0 s [] [] [a])=fE (dE (eu c 1 0) λq=>if(eE q 0) then some (jB,[],q)else dE (fg c [s]) λj=>dS (ej n j a) λb d=>if(eE d 0) then some (jB,[],d)else dE (rF b.jG) λk=>if k then some (jB,[],12)else dE (nC 6 s b.dW) λl=>dE (gk b.jG 1) λo=>some (l,o,0)) λf h i=>some (f,h,i):=by
 rw[ee];rw[mQ];rfl
def I0(L:List Fm)(s:Ty)(a:Pf)(g:List Ty)(hs:List Fm):pP L 8 0 s [] [] (Pf.uX L [a]) g hs=wC (16<g.length+1) 3 (pbind (a.inf L (g++[s]) (hs.map (Fm.up 0 1))) λb m=>.inl (.mk 4 s [] [b],m/2)):=rfl
def Rv(L:List Fm)(s:Ty)(a:Pf)(g:List Ty)(hs:List Fm):pP L 12 0 s [] [] (Pf.uX L [a]) g hs=wC (16<g.length+1) 3 (pbind (a.inf L (g++[s]) (hs.map (Fm.up 0 1))) λb m=>wC (m.testBit 0=true) 12 (.inl (.mk 6 s [] [b],m/2))):=rfl
def R9{L:List Fm}{s:Ty}(hs:s.err=0){a:Pf}{N:Nat}(o:iZ L a N):iZ L (.mk 8 0 s [] [] [a]) (N+5):=by
 refine iZ.of λn' r c h=>?_;rw[show n'+4=n'+2+2 from rfl,aa_,I0];rcases h.room (v:=1) (k:=0) VW VW with⟨b,n,_⟩|⟨b,n⟩
 ·have b:eu c 1 0=some 0:=b;rw[b,dF,dI nz,jY VW];obtain⟨t,u,w,x,y⟩:=h.below hs n;rw[u,dF];have hi:=o (n'+2) VW t w;rw[x,y] at hi;rcases hi with⟨e,he,d,i⟩|⟨f,m,l,d,i,hu,j⟩
  ·rw[d,i,dN,dO (by rw[eo];exact he)];exact lD.no he rfl rfl
  ·have A:=j.aiK;have B:=f.iv j.ok;have C:=eV hs;obtain⟨u1,u3⟩:=hu.out (by have:=hu.len;omega) (k:=1) VW;rw[d,i,dN,dI nz,fN];simp only[];rw[Si VW VW,dF,show(1:Int)=((1:Nat):Int)from rfl,u1];refine lD.yes rfl rfl u3 (.q (.inl rfl) hs j.ty) ?_;rw[Fm.dJ];simp only[ea];omega
 ·have b:eu c 1 0=some 3:=b;have D:=h.pl.nh;rw[b,dF,dO aak,jD VW];exact lD.no aak rfl rfl
def OZ{L:List Fm}{s:Ty}(hs:s.err=0){a:Pf}{N:Nat}(r:iZ L a N):iZ L (.mk 12 0 s [] [] [a]) (N+5):=by
 refine iZ.of λn' t c h=>?_;rw[show n'+4=n'+2+2 from rfl,YT,Rv];rcases h.room (v:=1) (k:=0) VW VW with⟨b,o,_⟩|⟨b,o⟩
 ·have b:eu c 1 0=some 0:=b;rw[b,dF,dI nz,jY VW];obtain⟨u,w,x,y,A⟩:=h.below hs o;rw[w,dF];have hi:=r (n'+2) VW u x;rw[y,A] at hi;rcases hi with⟨e,he,i,j⟩|⟨f,m,l,i,j,hu,n⟩
  ·rw[i,j,dN,dO (by rw[eo];exact he)];exact lD.no he rfl rfl
  ·have B:=n.aiK;have C:=f.iv n.ok;have D:=eV hs;obtain⟨u1,u3⟩:=hu.out (by have:=hu.len;omega) (k:=1) VW;obtain⟨F,H⟩:=hu.has;rw[i,j,dN,dI nz,fN];simp only[];rw[F,dF]
   by_cases d:m.testBit 0=true
   ·rw[jD d,dO d];exact lD.no aak rfl rfl
   ·rw[jY d,dI d,Si VW VW,dF,show(1:Int)=((1:Nat):Int)from rfl,u1];refine lD.yes rfl rfl u3 (.q (.inr (.inr (.inl rfl))) hs n.ty) ?_;rw[Fm.dJ];simp only[ea];omega
 ·have b:eu c 1 0=some 3:=b;have G:=h.pl.nh;rw[b,dF,dO aak,jD VW];exact lD.no aak rfl rfl
theorem P6(a b:Ty):a.kV b=b.kV a:=by grind[Ty.kO]
def yy{a b:Ty}(c:a.err=0)(d:b.err=0):fh FU b a=some (a.kV b):=by
 have f:=eV c;have h:=eV d
 grind[dF,iD,P6]
def afY(n:Nat)(c:dP)(t:Tm)(a:Pf):ee (n+2) c (.mk 9 0 .z [t] [] [a])=fE (dS (jb c.aiM t) λu s=>if(eE s 0) then some (jB,[],s)else dS (ej n c a) λb d=>if(eE d 0) then some (jB,[],d)else dE (ke t) λj=>dE (gd b.jG j) λk=>if(eE b.dW.aiI 4) then some (jB,[],10)else dE (fh FU b.dW.dM u) λl=>if l then dE (eb b.dW.aiJ 0) λo=>dS (jq o t) λq r=>some (q,k,r)else some (jB,[],7)) λf h i=>some (f,h,i):=by
 rw[ee];rw[nK];rfl
def ade(n:Nat)(c:dP)(t:Tm)(a:Pf):ee (n+2) c (.mk 13 0 .z [t] [] [a])=fE (dS (jb c.aiM t) λs r=>if(eE r 0) then some (jB,[],r)else dS (ej n c a) λb d=>if(eE d 0) then some (jB,[],d)else dE (ke t) λj=>dE (gd b.jG j) λu=>if(eE b.dW.aiI 6) then some (jB,[],10)else dE (fh FU b.dW.dM s) λk=>if k then dE (eb b.dW.aiJ 0) λl=>dS (jq l t) λo q=>some (o,b.jG,q)else some (jB,[],7)) λf h i=>some (f,h,i):=by
 rw[ee];rw[nK];rfl
def V5(L:List Fm)(t:Tm)(a:Pf)(g:List Ty)(hs:List Fm):pP L 9 0 .z [t] [] (Pf.uX L [a]) g hs=kc (t.ty g).2 (pbind (E0 (a.inf L g hs) 4) λa m=>wC ((t.ty g).1.kV a.dM=false) 7 (kc (ld (a.aiJ.getD 0 jB) t).2 (.inl ((ld (a.aiJ.getD 0 jB) t).1,m|||rB t)))):=rfl
def U1(L:List Fm)(t:Tm)(a:Pf)(g:List Ty)(hs:List Fm):pP L 13 0 .z [t] [] (Pf.uX L [a]) g hs=kc (t.ty g).2 (pbind (E0 (a.inf L g hs) 6) λa m=>wC ((t.ty g).1.kV a.dM=false) 7 (kc (ld (a.aiJ.getD 0 jB) t).2 (.inl ((ld (a.aiJ.getD 0 jB) t).1,m)))):=rfl
def wh{t:Tm}(a:t.err=0){g:List Ty}(b:im g):(∃e,e≠0/\(t.ty g).2=e/\∃z,t.ty g=(z,e))\/∃s,t.ty g=(s,0)/\dQ g t s/\s.err=0:=by
 obtain⟨s,e,c⟩:∃s e,t.ty g=(s,e):=⟨_,_,rfl⟩
 by_cases he:e=0
 ·subst he;obtain⟨d,f⟩:=qQ _ t (js _) (Tm.gZ a).1 g b s c
  grind
 ·grind
def UT{L:List Fm}{t:Tm}(d:t.err=0){a:Pf}{N:Nat}(C:iZ L a N):iZ L (.mk 9 0 .z [t] [] [a]) (N+5):=by
 refine iZ.of λn' D c h=>?_;have j:=h.pl.nv;rw[show n'+4=n'+2+2 from rfl,afY,V5,tM h.pl.ctx j d];rcases wh d h.pl.ctx with⟨e,he,q1,z,F⟩|⟨s,q1,k,hs⟩
 ·rw[F,dN,dO (by rw[eo];exact he),iP he];exact lD.no he rfl rfl
 ·obtain⟨H,f2,f3⟩:=yb j k d;rw[q1,dN,dI nz,gp rfl];rcases m8 (C (n'+2) VW c h) 4 with⟨e,he,n,i⟩|⟨f,m,l,n,i,hu,w,o⟩
  ·rw[n];rcases i with i|⟨f,l,m,i,o,rfl,hu⟩
   ·rw[i,dN,dO (by rw[eo];exact he)];exact lD.no he rfl rfl
   ·obtain⟨q,u1,_⟩:=hu.union f3 (by have:=hu.len;omega) (by have:=f3.len;omega);rw[i,dN,dI nz,f2,dF,u1,dF,dO (by rw[eo];exact o)];exact lD.no he rfl rfl
  ·obtain⟨y,x,rfl,r,A⟩:=w.ty.vV o (.inl rfl);have u:=w.sub (x:=x) aaF A;obtain⟨q,u1,u2,u3,_⟩:=hu.union f3 (by have:=hu.len;omega) (by have:=f3.len;omega);rw[n,i,dN,dI nz,f2,dF,fN];simp only[Fm.eD,Fm.fu,Fm.er,eJ,kQ,dF,zC];rw[u1,dF,dI (show¬eE 4 4=true by decide),yy hs r,dF]
   by_cases b:s.kV y=true
   ·have:=(Ty.kO s y).1 b;subst this;have B:sF c.aiM x t:=⟨u.err,d,s,A,k⟩;rw[jY (by rw[b];decide),dO b,B.both VW];rcases lC x t with v|⟨G,v⟩
    ·rw[v,dN,iP aak];exact lD.no aak rfl rfl
    ·rw[v,dN,gp rfl];exact lD.yes (f:=Fm.fK 0 x t) rfl rfl u3 B.put VW
   ·rw[jD (by simpa using b),dI b];exact lD.no aak rfl rfl
def RN{L:List Fm}{t:Tm}(d:t.err=0){a:Pf}{N:Nat}(C:iZ L a N):iZ L (.mk 13 0 .z [t] [] [a]) (N+5):=by
 refine iZ.of λn' D c h=>?_;have j:=h.pl.nv;rw[show n'+4=n'+2+2 from rfl,ade,U1,tM h.pl.ctx j d];rcases wh d h.pl.ctx with⟨e,he,q1,z,F⟩|⟨s,q1,k,hs⟩
 ·rw[F,dN,dO (by rw[eo];exact he),iP he];exact lD.no he rfl rfl
 ·obtain⟨H,f2,f3⟩:=yb j k d;rw[q1,dN,dI nz,gp rfl];rcases m8 (C (n'+2) VW c h) 6 with⟨e,he,n,i⟩|⟨f,m,l,n,i,hu,w,o⟩
  ·rw[n];rcases i with i|⟨f,l,m,i,o,rfl,hu⟩
   ·rw[i,dN,dO (by rw[eo];exact he)];exact lD.no he rfl rfl
   ·obtain⟨q,u1,_⟩:=hu.union f3 (by have:=hu.len;omega) (by have:=f3.len;omega);rw[i,dN,dI nz,f2,dF,u1,dF,dO (by rw[eo];exact o)];exact lD.no he rfl rfl
  ·obtain⟨y,x,rfl,r,A⟩:=w.ty.vV o (.inr (.inr (.inl rfl)));have u:=w.sub (x:=x) aaF A;obtain⟨q,u1,_⟩:=hu.union f3 (by have:=hu.len;omega) (by have:=f3.len;omega);rw[n,i,dN,dI nz,f2,dF,fN];simp only[Fm.eD,Fm.fu,Fm.er,eJ,kQ,dF,zC];rw[u1,dF,dI (show¬eE 6 6=true by decide),yy hs r,dF]
   by_cases b:s.kV y=true
   ·have:=(Ty.kO s y).1 b;subst this;have B:sF c.aiM x t:=⟨u.err,d,s,A,k⟩;rw[jY (by rw[b];decide),dO b,B.both VW];rcases lC x t with v|⟨G,v⟩
    ·rw[v,dN,iP aak];exact lD.no aak rfl rfl
    ·rw[v,dN,gp rfl];exact lD.yes (f:=Fm.fK 0 x t) rfl rfl hu B.put VW
   ·rw[jD (by simpa using b),dI b];exact lD.no aak rfl rfl
def acE(n:Nat)(c:dP)(t:Tm)(F:Fm)(a:Pf):ee (n+2) c (.mk 10 0 .z [t] [F] [a])=fE (dE (jh c.aiM F) λb=>if(eE b 0) then some (jB,[],b)else if(eE F.aiI 5) then some (jB,[],10)else dS (jb c.aiM t) λj d=>if(eE d 0) then some (jB,[],d)else dE (fh FU F.dM j) λk=>if k then dE (eb F.aiJ 0) λl=>dS (eS n c a l t) λo q=>dE (ke t) λr=>dE (gd o r) λs=>some (F,s,q)else some (jB,[],7)) λf h i=>some (f,h,i):=by
 rw[ee];rw[nT];rfl
def ac_(n:Nat)(c:dP)(t:Tm)(F:Fm)(a:Pf):ee (n+2) c (.mk 14 0 .z [t] [F] [a])=fE (dE (jh c.aiM F) λb=>if(eE b 0) then some (jB,[],b)else if(eE F.aiI 7) then some (jB,[],10)else dS (jb c.aiM t) λj d=>if(eE d 0) then some (jB,[],d)else dE (fh FU F.dM j) λk=>if k then dE (eb F.aiJ 0) λl=>dS (eS n c a l t) λo q=>some (F,o,q)else some (jB,[],7)) λf h i=>some (f,h,i):=by
 rw[ee];rw[nT];rfl
def Ql(L:List Fm)(t:Tm)(F:Fm)(a:Pf)(g:List Ty)(hs:List Fm):pP L 10 0 .z [t] [F] (Pf.uX L [a]) g hs=kc (F.va g) (wC (F.aiI≠5) 10 (kc (t.ty g).2 (wC ((t.ty g).1.kV F.dM=false) 7 (pbind (B1 (a.inf L g hs) (F.aiJ.getD 0 jB) t) λ_ m=>.inl (F,m|||rB t))))):=rfl
def UU(L:List Fm)(t:Tm)(F:Fm)(a:Pf)(g:List Ty)(hs:List Fm):pP L 14 0 .z [t] [F] (Pf.uX L [a]) g hs=kc (F.va g) (wC (F.aiI≠7) 10 (kc (t.ty g).2 (wC ((t.ty g).1.kV F.dM=false) 7 (pbind (B1 (a.inf L g hs) (F.aiJ.getD 0 jB) t) λ_ m=>.inl (F,m))))):=rfl
def Sl{L:List Fm}{t:Tm}(i:t.err=0){F:Fm}(hF:F.err=0){a:Pf}{N:Nat}(D:iZ L a N):iZ L (.mk 10 0 .z [t] [F] [a]) (N+5):=by
 refine iZ.of λn' G c h=>?_;have j:=h.pl.nv;obtain⟨_,t2⟩:=s9 h.pl.ctx VW hF;have H:=(Fm.gZ hF).2;rw[show n'+4=n'+2+2 from rfl,acE,Ql,tM h.pl.ctx j i,t2 j,dF]
 by_cases k:F.va c.aiM=0
 ·have r:¬eE (F.va c.aiM) 0=true:=by rw[eo];simpa using k
  rw[dI r,gp k];have b:=rn F (Fm.gZ hF).1 c.aiM h.pl.ctx k
  by_cases n:F.aiI=5
  ·have r:¬eE F.aiI 5=true:=by rw[eo];simpa using n
   rw[dI r,jY (by simpa using n)];rcases wh i h.pl.ctx with⟨e,he,q1,z,I⟩|⟨s,q1,o,hs⟩
   ·rw[I,dN,dO (by rw[eo];exact he),iP he];exact lD.no he rfl rfl
   ·obtain⟨u,x,rfl,v,C⟩:=b.vV n (.inr (.inl rfl));have w:Hg c.aiM (.mk 5 u [] [x]):=⟨hF,b⟩;have y:=w.sub (x:=x) aaF C;obtain⟨K,f2,f3⟩:=yb j o i;rw[q1,dN,dI nz,gp rfl];simp only[Fm.eD,Fm.fu,Fm.er,eJ,kQ,dF,zC];rw[yy hs v,dF]
    by_cases d:s.kV u=true
    ·have:=(Ty.kO s u).1 d;subst this;have J:sF c.aiM x t:=⟨y.err,i,s,C,o⟩;rw[jY (by rw[d];decide),dO d];rcases sK j (D (n'+1) VW c h) J with⟨e,l,m,he,A,B,hu⟩|⟨f,m,l,A,B,hu⟩
     ·obtain⟨q,u1,_⟩:=hu.union f3 (by have:=hu.len;omega) (by have:=f3.len;omega);rw[A,B,dN,f2,dF,u1];exact lD.no he rfl rfl
     ·obtain⟨q,u1,u2,u3,_⟩:=hu.union f3 (by have:=hu.len;omega) (by have:=f3.len;omega);rw[A,B,dN,f2,dF,fN];rw[u1];exact lD.yes rfl rfl u3 b VW
    ·rw[jD (by simpa using d),dI d];exact lD.no aak rfl rfl
  ·rw[dO (by rw[eo];exact n),jD n];exact lD.no aak rfl rfl
 ·rw[dO (by rw[eo];exact k),iP k];exact lD.no k rfl rfl
def Ta{L:List Fm} {t:Tm} (i:t.err=0) {F:Fm} (hF:F.err=0) {a:Pf} {N:Nat} (C:iZ L a N):iZ L (.mk 14 0 .z [t] [F] [a]) (N+5):=by
 refine iZ.of λn' D c h=>?_;have j:=h.pl.nv;obtain⟨_,t2⟩:=s9 h.pl.ctx VW hF;have G:=(Fm.gZ hF).2;rw[show n'+4=n'+2+2 from rfl,ac_,UU,tM h.pl.ctx j i,t2 j,dF]
 by_cases k:F.va c.aiM=0
 ·have o:¬eE (F.va c.aiM) 0=true:=by rw[eo];simpa using k
  rw[dI o,gp k];have b:=rn F (Fm.gZ hF).1 c.aiM h.pl.ctx k
  by_cases n:F.aiI=7
  ·have o:¬eE F.aiI 7=true:=by rw[eo];simpa using n
   rw[dI o,jY (by simpa using n)];rcases wh i h.pl.ctx with⟨e,he,q1,z,H⟩|⟨s,q1,q,hs⟩
   ·rw[H,dN,dO (by rw[eo];exact he),iP he];exact lD.no he rfl rfl
   ·obtain⟨r,x,rfl,u,B⟩:=b.vV n (.inr (.inr (.inr rfl)));have v:Hg c.aiM (.mk 7 r [] [x]):=⟨hF,b⟩;have w:=v.sub (x:=x) aaF B;rw[q1,dN,dI nz,gp rfl];simp only[Fm.eD,Fm.fu,Fm.er,eJ,kQ,dF,zC];rw[yy hs u,dF]
    by_cases d:s.kV r=true
    ·have:=(Ty.kO s r).1 d;subst this;have I:sF c.aiM x t:=⟨w.err,i,s,B,q⟩;rw[jY (by rw[d];decide),dO d];rcases sK j (C (n'+1) VW c h) I with⟨e,l,m,he,y,A,hu⟩|⟨f,m,l,y,A,hu⟩
     ·rw[y,A,dN];exact lD.no he rfl rfl
     ·rw[y,A,dN,fN];skip;exact lD.yes rfl rfl hu b VW
    ·rw[jD (by simpa using d),dI d];exact lD.no aak rfl rfl
  ·rw[dO (by rw[eo];exact n),jD n];exact lD.no aak rfl rfl
 ·rw[dO (by rw[eo];exact k),iP k];exact lD.no k rfl rfl
def QI(k:Fm->Option (Fm×List Int×Int))(f:Fm):Option (Fm×List Int×Int):=
 dE (p8 FU f 0) λc=>if c then dS (mY FU f) λa b=>if(eE b 0) then some (jB,[],b)else dE (p8 FU a 0) λd=>if d then some (jB,[],6)else k (.mk a.aiI (.mk a.dM.aiI a.dM.aiJ) a.ef a.aiJ)else k (.mk f.aiI (.mk f.dM.aiI f.dM.aiJ) f.ef f.aiJ)
def Va(n:Nat)(c:dP)(a b:Pf):ee (n+2) c (.mk 11 0 .z [] [] [a,b])=fE (dS (ej n c a) λd h=>if(eE h 0) then some (jB,[],h)else if(eE d.dW.aiI 5) then some (jB,[],10)else dE (eu c 1 1) λi=>if(eE i 0) then some (jB,[],i)else dE (fg c [d.dW.dM]) λu=>dE (eb d.dW.aiJ 0) λv=>dE (fX u v) λw=>dS (ej n w b) λj k=>if(eE k 0) then some (jB,[],k)else QI (λf=>dE (ik FU f 1 (-1)) λl=>dE (gk j.jG 1) λo=>dE (gd d.jG o) λq=>some (l,q,0)) j.dW) λr s t=>some (r,s,t):=by
 rw[ee];rw[mb];rfl
def Wq(n:Nat)(c:dP)(a b:Pf):ee (n+2) c (.mk 15 0 .z [] [] [a,b])=fE (dS (ej n c a) λd i=>if(eE i 0) then some (jB,[],i)else if(eE d.dW.aiI 7) then some (jB,[],10)else dE (eu c 1 1) λj=>if(eE j 0) then some (jB,[],j)else dE (fg c [d.dW.dM]) λv=>dE (eb d.dW.aiJ 0) λw=>dE (fX v w) λx=>dS (ej n x b) λh k=>if(eE k 0) then some (jB,[],k)else QI (λf=>dE (rF h.jG) λl=>if l then some (jB,[],12)else dE (ik FU f 1 (-1)) λo=>dE (gk h.jG 1) λq=>dE (gd d.jG q) λr=>some (o,r,0)) h.dW) λs t u=>some (s,t,u):=by
 rw[ee];rw[mb];rfl
def I7(L:List Fm)(a b:Pf)(g:List Ty)(hs:List Fm):pP L 11 0 .z [] [] (Pf.uX L [a,b]) g hs=pbind (E0 (a.inf L g hs) 5) λa m=>wC (16<g.length+1\/16<hs.length+1) 3 (pbind (b.inf L (g++[a.dM]) (hs.map (Fm.up 0 1)++[a.aiJ.getD 0 jB])) λb n=>kc (yh b).2 (.inl ((yh b).1,m|||n/2))):=rfl
def Nu(L:List Fm)(a b:Pf)(g:List Ty)(hs:List Fm):pP L 15 0 .z [] [] (Pf.uX L [a,b]) g hs=pbind (E0 (a.inf L g hs) 7) λa m=>wC (16<g.length+1\/16<hs.length+1) 3 (pbind (b.inf L (g++[a.dM]) (hs.map (Fm.up 0 1)++[a.aiJ.getD 0 jB])) λb n=>kc (yh b).2 (wC (n.testBit 0=true) 12 (.inl ((yh b).1,m|||n/2)))):=rfl
def MV{g:List Ty}{s:Ty}{f:Fm}(h:Hg (g++[s]) f)(hg:g.length<=1000)(k:Fm->Option (Fm×List Int×Int))(k':Fm->Option (Fm×List Int×Int))(l:∀x,x.aiQ 0=0->x.aiK<=4096*4096->x.aiO 1000000000000=true->k x=k' (x.up 1 (-1))):QI k f=if(yh f).2=0 then k' (yh f).1 else some (jB,[],(yh f).2):=by
 have hn:=h.aiK;have o:f.aiO 1000000000000=true:=h.ty.aiO _ aby;unfold QI;rw[DY FU f 0 (by rw[fD];omega) VW VW VW,dF,Ty.jL,Fm.jL]
 by_cases j:f.aiQ 0=0
 ·have hw:yh f=(f.up 1 (-1),0):=by unfold yh;rw[dO j]
  grind
 ·rw[dO (show decide (0<f.aiQ 0)=true by simp;omega),GO FU f (by rw[fD];omega) VW (TM.of f hn h.ok (h.ty.aiO _ aby))];obtain⟨a,b,d⟩:∃a b,f.sN 0=(a,b):=⟨_,_,rfl⟩
  have hw:yh f=if b≠0 then(jB,b)else if a.aiQ 0≠0 then(jB,6)else(a.up 1 (-1),0):=by unfold yh;rw[dI j,d]
  rw[d];simp only[]
  by_cases he:b=0
  ·subst he;have c:=VR h.ty 0 aby hn (by rw[d]);rw[d] at c;obtain⟨_,a2,a3⟩:=c;have a2:ia (g++[s]) a:=a2;have a3:a.aiK<=3000*f.aiK:=a3;rw[dI aak] at hw;rw[dO rfl,dN,dI nz,DY FU a 0 (by rw[fD];omega) VW VW VW,dF,Ty.jL,Fm.jL]
   by_cases i:a.aiQ 0=0
   ·rw[dI (by simpa using i)] at hw;rw[hw,dI (show¬(decide (0<a.aiQ 0)=true) by simp;omega)];exact(l a i VW (a2.aiO _ aby)).trans (dO rfl).symm
   ·rw[dO i] at hw;rw[hw,dO (show decide (0<a.aiQ 0)=true by simp;omega)];rfl
  ·rw[dO he] at hw
   have n:eE b 0=true:=by rw[eo];exact he
   rw[hw,dI he,dN,dO n,dI he]
def M6{L:List Fm}{a b:Pf}{N:Nat}(G:iZ L a N)(H:iZ L b N):iZ L (.mk 11 0 .z [] [] [a,b]) (N+5):=by
 refine iZ.of λn' I c h=>?_;have J:=h.pl.nv;rw[show n'+4=n'+2+2 from rfl,Va,I7];rcases m8 (G (n'+2) VW c h) 5 with⟨e,he,i,d⟩|⟨f,m,l,i,d,hu,A,t⟩
 ·rw[i];rcases d with d|⟨f,l,m,d,t,rfl,_⟩
  ·rw[d,dN,dO (by rw[eo];exact he)];exact lD.no he rfl rfl
  ·rw[d,dN,dI nz,dO (by rw[eo];exact t)];exact lD.no he rfl rfl
 ·obtain⟨s,x,rfl,hs,K⟩:=A.ty.vV t (.inr (.inl rfl));have u:=A.sub (x:=x) aaF K;rw[i,d,dN,dI nz,dI aaF,fN];simp only[Fm.fu,Fm.er,eJ,kQ,dF,zC];rcases h.room (v:=1) (k:=1) VW VW with⟨j,B,M⟩|⟨j,B⟩
  ·have j:eu c 1 1=some 0:=j;rw[j,dF,dI nz,jY VW];obtain⟨W,O,P,C,D⟩:=h.below hs B;obtain⟨Q,R,S,T,U⟩:=P.with (f:=x) (by rw[C];exact u) (by rw[D];simpa using M);rw[O,dF,R,dF];have hi:=H (n'+2) VW Q S;rw[T,U,C,D] at hi;rcases hi with⟨e,he,i,d⟩|⟨V,X,F,i,d,o,r⟩
   ·rw[i,d,dN,dO (by rw[eo];exact he)];exact lD.no he rfl rfl
   ·obtain⟨u1,u3⟩:=o.out (by have:=o.len;omega) (k:=1) VW;have u1:gk F 1=some (xO ((1:Nat):Int) F):=u1;obtain⟨q,v1,v2,v3,_⟩:=hu.union u3 (by have:=hu.len;omega) (by have:=u3.len;omega);rw[i,d,dN,dI nz,fN];simp only[]
    rw[MV r VW _ (λy=>some (y,q,0)) (λy Y Z y3=>by
     rw[DZ FU y 1 (by rw[fD];omega) VW VW VW y3,dF,u1,dF,v1,dF])]
    obtain⟨w,e,hw⟩:∃w e,yh V=(w,e):=⟨_,_,rfl⟩;rw[hw]
    by_cases he:e=0
    ·subst he;have n:=Hu r VW hs (by rw[hw]);rw[hw] at n;rw[dO rfl,gp rfl];exact lD.yes rfl rfl v3 n.1 (by have:=n.2;omega)
    ·rw[dI he,iP he];exact lD.no he rfl rfl
  ·have j:eu c 1 1=some 3:=j;rw[j,dF,dO aak,jD VW];exact lD.no aak rfl rfl
def Ox{L:List Fm}{a b:Pf}{N:Nat}(K:iZ L a N)(r:iZ L b N):iZ L (.mk 15 0 .z [] [] [a,b]) (N+5):=by
 refine iZ.of λn' M c h=>?_;have O:=h.pl.nv;rw[show n'+4=n'+2+2 from rfl,Wq,Nu];rcases m8 (K (n'+2) VW c h) 7 with⟨e,he,i,d⟩|⟨f,m,l,i,d,hu,B,u⟩
 ·rw[i];rcases d with d|⟨f,l,m,d,u,rfl,_⟩
  ·rw[d,dN,dO (by rw[eo];exact he)];exact lD.no he rfl rfl
  ·rw[d,dN,dI nz,dO (by rw[eo];exact u)];exact lD.no he rfl rfl
 ·obtain⟨s,x,rfl,hs,P⟩:=B.ty.vV u (.inr (.inr (.inr rfl)));have A:=B.sub (x:=x) aaF P;rw[i,d,dN,dI nz,dI aaF,fN];simp only[Fm.fu,Fm.er,eJ,kQ,dF,zC];rcases h.room (v:=1) (k:=1) VW VW with⟨j,C,Q⟩|⟨j,C⟩
  ·have j:eu c 1 1=some 0:=j;rw[j,dF,dI nz,jY VW];obtain⟨D,R,S,F,G⟩:=h.below hs C;obtain⟨H,T,U,V,W⟩:=S.with (f:=x) (by rw[F];exact A) (by rw[G];simpa using Q);rw[R,dF,T,dF];have hi:=r (n'+2) VW H U;rw[V,W,F,G] at hi;rcases hi with⟨e,he,i,d⟩|⟨X,I,J,i,d,n,t⟩
   ·rw[i,d,dN,dO (by rw[eo];exact he)];exact lD.no he rfl rfl
   ·obtain⟨u1,u3⟩:=n.out (by have:=n.len;omega) (k:=1) VW;have u1:gk J 1=some (xO ((1:Nat):Int) J):=u1;obtain⟨q,v1,v2,v3,_⟩:=hu.union u3 (by have:=hu.len;omega) (by have:=u3.len;omega);rw[i,d,dN,dI nz,fN];simp only[];skip;obtain⟨D,H⟩:=n.has
    rw[MV t VW _ (λy=>if I.testBit 0 then some (jB,[],12)else some (y,q,0)) (λy Y Z y3=>by
     rw[D,dF,DZ FU y 1 (by rw[fD];omega) VW VW VW y3,dF,u1,dF,v1,dF])]
    obtain⟨w,e,hw⟩:∃w e,yh X=(w,e):=⟨_,_,rfl⟩;rw[hw]
    by_cases he:e=0
    ·subst he;have o:=Hu t VW hs (by rw[hw]);rw[hw] at o;rw[dO rfl,gp rfl]
     by_cases r:I.testBit 0=true
     ·rw[jD r,dO r];exact lD.no aak rfl rfl
     ·rw[jY r,dI r];exact lD.yes rfl rfl v3 o.1 (by have:=o.2;omega)
    ·rw[dI he,iP he];exact lD.no he rfl rfl
  ·have j:eu c 1 1=some 3:=j;rw[j,dF,dO aak,jD VW];exact lD.no aak rfl rfl
def im.nat{g:List Ty}(h:im g):im (g++[.nat]):=h.app Ty.fb
def im.ir{g:List Ty}(h:im g):im (g++[.ir]):=h.app Ty.mo
def Bh{g:List Ty}(d:im g){t:Tm}(f:t.err=0){s:Ty}(hs:s=.nat\/s=.ir)(h:nM t g s.aiI=0):dQ g t s:=by
 rcases wh f d with⟨e,he,q1,z,j⟩|⟨b,q1,i,a⟩
 ·unfold nM at h
  grind
 ·unfold nM at h;rw[q1] at h
  by_cases c:b.aiI=s.aiI
  ·have:b=s:=by
    rcases hs with rfl|rfl
    ·exact(vq a).1 c
    ·exact(Ep a).1 c
   rwa [<-this]
  ·grind
def D4{F:Fm}(hF:F.err=0)(a:F.aiO 1000000000=true){f c:Nat}(d:f<=100)(h:c<=100):pT F (f:Int) (c:Int)=some (F.up f c)/\ik FU F (f:Int) (c:Int)=some (F.up f c):=by
 obtain⟨b,a2⟩:=Fm.gZ hF;exact⟨BF b VW (Fm.pL _ VW a) VW VW VW VW,Gv FU F f c (by rw[fD];omega) VW VW VW VW VW (Fm.pL _ VW a)⟩
def C_{F:Fm}(hF:F.err=0){f c:Int}(a:0<=f)(b:0<=c):(F.up f c).err=0:=by grind[Fm.gZ,Fm.err,Fm.IC,Fm.kK]
def aeI:iF.err=0:=aak
def YH:(Tm.mk 7 0 .z []).err=0:=aak
def abg:(gK v0).err=0:=aak
def acJ:(Tm.mk 8 0 .z [v1,v0]).err=0:=aak
def R5{L:List Fm}{c:dP}(h:PG L c)(hn:c.aiM.length+2<=16):∃a,fg c [.nat,.ir]=some a/\PG L a/\a.aiM=c.aiM++[.nat]++[.ir]/\a.aiP=c.aiP.map (Fm.up 0 2):=by
 obtain⟨a,b,d,f,i⟩:=h.Wy (l:=[.nat,.ir]) (λx hx=>by
  rcases lS.1 hx with rfl|hx
  ·exact Ty.fb
  ·rw[E'.1 hx];exact Ty.mo) hn
 grind
def Yv(n:Nat)(c:dP)(t:Tm)(F:Fm)(a b:Pf):ee (n+2) c (.mk 16 0 .z [t] [F] [a,b])=fE (gu (fL c.aiM [.nat])<|dE (kB (fT c.aiM [.nat]) F) λf=>if(eE f 0) then some (jB,[],f)else dE (gX c t 1) λh=>if(eE h 0) then some (jB,[],h)else dE (fF 4 []) λD=>dS (eS n c a F D) λG i=>if(eE i 0) then some (jB,[],i)else dE (eu c 1 1) λj=>if(eE j 0) then some (jB,[],j)else dE (fg c [.nat]) λk=>dE (fX k F) λl=>dE (ik FU F 1 1) λo=>dE (fF 5 [v0]) λq=>dS (eS n l b o q) λr d=>if(eE d 0) then some (jB,[],d)else dS (jq F t) λs u=>dE (ke t) λv=>dE (gd v G) λw=>dE (gk r 1) λx=>dE (gd w x) λy=>some (s,y,u)) λA B C=>some (A,B,C):=by
 rw[ee];rw[oR];rfl
def Yj(n:Nat)(c:dP)(t:Tm)(F:Fm)(a b:Pf):ee (n+2) c (.mk 17 0 .z [t] [F] [a,b])=fE (gu (fL c.aiM [.ir])<|dE (kB (fT c.aiM [.ir]) F) λf=>if(eE f 0) then some (jB,[],f)else dE (gX c t 2) λh=>if(eE h 0) then some (jB,[],h)else dE (fF 7 []) λG=>dS (eS n c a F G) λH i=>if(eE i 0) then some (jB,[],i)else dE (eu c 2 1) λj=>if(eE j 0) then some (jB,[],j)else dE (fg c [.nat,.ir]) λk=>dE (ik FU F 1 1) λl=>dE (fX k l) λo=>dE (ik FU F 1 2) λq=>dE (fF 8 [v1,v0]) λr=>dS (eS n o b q r) λs d=>if(eE d 0) then some (jB,[],d)else dS (jq F t) λu v=>dE (ke t) λw=>dE (gd w H) λx=>dE (gk s 2) λy=>dE (gd x y) λA=>some (u,A,v)) λB C D=>some (B,C,D):=by
 rw[ee];rw[nF];rfl
def Lm(L:List Fm)(t:Tm)(F:Fm)(a b:Pf)(g:List Ty)(hs:List Fm):pP L 16 0 .z [t] [F] (Pf.uX L [a,b]) g hs=kc (F.va (g++[.nat])) (kc (nM t g 1) (pbind (B1 (a.inf L g hs) F iF) λ_ m=>wC (16<g.length+1\/16<hs.length+1) 3 (pbind (B1 (b.inf L (g++[.nat]) (hs.map (Fm.up 0 1)++[F])) (F.up 1 1) (gK v0)) λ_ n=>kc (ld F t).2 (.inl ((ld F t).1,(rB t|||m)|||n/2))))):=rfl
def LI(L:List Fm)(t:Tm)(F:Fm)(a b:Pf)(g:List Ty)(hs:List Fm):pP L 17 0 .z [t] [F] (Pf.uX L [a,b]) g hs=kc (F.va (g++[.ir])) (kc (nM t g 2) (pbind (B1 (a.inf L g hs) F (.mk 7 0 .z [])) λ_ m=>wC (16<g.length+2\/16<hs.length+1) 3 (pbind (B1 (b.inf L (g++[.nat]++[.ir]) (hs.map (Fm.up 0 2)++[F.up 1 1])) (F.up 1 2) (.mk 8 0 .z [v1,v0])) λ_ n=>kc (ld F t).2 (.inl ((ld F t).1,(rB t|||m)|||n/4))))):=rfl
def OU{L:List Fm}{t:Tm}(i:t.err=0){F:Fm}(hF:F.err=0){a b:Pf}{N:Nat}(V:iZ L a N)(W:iZ L b N):iZ L (.mk 16 0 .z [t] [F] [a,b]) (N+5):=by
 refine iZ.of λn' X c h=>?_;have n:=h.pl.nv;have D:=h.pl.ctx;have Y:=(Fm.gZ hF).2;obtain⟨t2,_⟩:=s9 D.nat aby hF;have s2:=has_both D n rfl i 1;rw[show n'+4=n'+2+2 from rfl,Yv,Lm,fM aby,dX,jl,t2,dF,s2,dF]
 by_cases u:F.va (c.aiM++[.nat])=0
 ·have y:=u;rw[<-vx (a:=_=_),<-ne_eq,<-eo] at y;rw[dI y,gp u];have d:=rn F (Fm.gZ hF).1 _ D.nat u;have I:F.aiO 1000000000=true:=d.aiO _ aby
  by_cases x:nM t c.aiM 1=0
  ·have y:=x;rw[<-vx (a:=_=_),<-ne_eq,<-eo] at y;rw[dI y,gp x];have A:dQ c.aiM t .nat:=Bh D i (.inl rfl) x;have J:sF c.aiM F iF:=⟨hF,aeI,.nat,d,.zero⟩;rw[show fF 4 []=some iF from HE,dF];rcases sK n (V (n'+1) VW c h) J with⟨e,l,m,he,j,o,hu⟩|⟨f,m,l,j,o,hu⟩
   ·rw[j,o,dN,dO (by rw[eo];exact he)];exact lD.no he rfl rfl
   ·rw[j,o,dN,dI nz,fN];rcases h.room (v:=1) (k:=1) VW VW with⟨r,S,Z⟩|⟨r,S⟩
    ·have r:eu c 1 1=some 0:=r;rw[r,dF,dI nz,jY VW];obtain⟨c1,e2,e3,G,K⟩:=h.below Ty.fb S;obtain⟨H,b2,T,M,U⟩:=e3.with (f:=F) (by rw[G];exact⟨hF,d⟩) (by rw[K];simpa using Z);have l3:ik FU F 1 1=some (F.up 1 1):=(D4 hF I (f:=1) (c:=1) VW VW).2;rw[e2,dF,b2,dF,l3,dF];rw[show fF 5 [v0]=some (gK v0)from M0 aak,dF];have hi:=W (n'+1) VW H T;have O:H.aiM.length<=16:=T.pl.nv
     have B:H.aiM=c.aiM++[.nat]:=by rw[M,G]
     have P:sF H.aiM (F.up 1 1) (gK v0):=⟨C_ hF VW VW,abg,.nat,by
      rw[B];have:=d.up c.aiM [.nat] [.nat] rfl
      simpa using this,by rw[B];exact .succ gy⟩
     rcases sK O hi P with⟨e,Q,m',he,j,o,s⟩|⟨f',m',Q,j,o,s⟩
     ·rw[M,U,G,K] at j;rw[j,o,dN,dO (by rw[eo];exact he)];exact lD.no he rfl rfl
     ·rw[M,U,G,K] at j;obtain⟨lf,f2,f3⟩:=yb n A i;have C:sF c.aiM F t:=⟨hF,i,.nat,d,A⟩;obtain⟨u1,u3⟩:=s.out (by have:=s.len;omega) (k:=1) VW;have u1:gk Q 1=some (xO ((1:Nat):Int) Q):=u1;obtain⟨q,v1,v2,v3,_⟩:=f3.union hu (by have:=f3.len;omega) (by have:=hu.len;omega);obtain⟨q',w1,w2,w3,_⟩:=v3.union u3 (by have:=v3.len;omega) (by have:=u3.len;omega);rw[j,o,dN,dI nz,fN,C.both VW];obtain⟨w,e,hw⟩:∃w e,ld F t=(w,e):=⟨_,_,rfl⟩;rw[hw,dN,f2,dF,v1,dF,u1,dF,w1,dF];simp only[];skip;rcases lC F t with R|⟨ad,R⟩
      ·rw[R] at hw;obtain⟨rfl,rfl⟩:=iE hw;rw[iP aak];exact lD.no aak rfl rfl
      ·rw[R] at hw;obtain⟨rfl,rfl⟩:=iE hw;rw[gp rfl];exact lD.yes (f:=Fm.fK 0 F t) rfl rfl w3 C.put VW
    ·have r:eu c 1 1=some 3:=r;rw[r,dF,dO aak,jD VW];exact lD.no aak rfl rfl
  ·rw[dO (by rw[eo];exact x),iP x];exact lD.no x rfl rfl
 ·rw[dO (by rw[eo];exact u),iP u];exact lD.no u rfl rfl
def P4{L:List Fm}{t:Tm}(i:t.err=0){F:Fm}(hF:F.err=0){a b:Pf}{N:Nat}(V:iZ L a N)(W:iZ L b N):iZ L (.mk 17 0 .z [t] [F] [a,b]) (N+5):=by
 refine iZ.of λn' X c h=>?_;have n:=h.pl.nv;have G:=h.pl.ctx;have Y:=(Fm.gZ hF).2;obtain⟨t2,_⟩:=s9 G.ir aby hF;have s2:=has_both G n rfl i 2;rw[show n'+4=n'+2+2 from rfl,Yj,LI,fM aby,dX,jl,t2,dF,s2,dF]
 by_cases u:F.va (c.aiM++[.ir])=0
 ·have y:=u;rw[<-vx (a:=_=_),<-ne_eq,<-eo] at y;rw[dI y,gp u];have d:=rn F (Fm.gZ hF).1 _ G.ir u;have A:F.aiO 1000000000=true:=d.aiO _ aby
  by_cases x:nM t c.aiM 2=0
  ·have y:=x;rw[<-vx (a:=_=_),<-ne_eq,<-eo] at y;rw[dI y,gp x];have B:dQ c.aiM t .ir:=Bh G i (.inr rfl) x;have J:sF c.aiM F (.mk 7 0 .z []):=⟨hF,YH,.ir,d,.nil⟩;rw[show fF 7 []=some (.mk 7 0 .z [])from HE,dF];rcases sK n (V (n'+1) VW c h) J with⟨e,l,m,he,j,o,hu⟩|⟨f,m,l,j,o,hu⟩
   ·rw[j,o,dN,dO (by rw[eo];exact he)];exact lD.no he rfl rfl
   ·rw[j,o,dN,dI nz,fN];rcases h.room (v:=2) (k:=1) VW VW with⟨r,S,Z⟩|⟨r,S⟩
    ·have r:eu c 2 1=some 0:=r;rw[r,dF,dI nz,jY VW];obtain⟨c1,e2,e3,H,K⟩:=R5 h S;obtain⟨I,b2,T,M,U⟩:=e3.with (f:=F.up 1 1) (by rw[H];exact⟨C_ hF VW VW,by have:=d.up c.aiM [.ir] [.nat] rfl;simpa using this⟩) (by rw[K];simpa using Z);have l3:ik FU F 1 1=some (F.up 1 1):=(D4 hF A (f:=1) (c:=1) VW VW).2;have l4:ik FU F 1 2=some (F.up 1 2):=(D4 hF A (f:=1) (c:=2) VW VW).2;rw[e2,dF,l3,dF,b2,dF,l4,dF];rw[show fF 8 [v1,v0]=some (.mk 8 0 .z [v1,v0])from w5 aak aak,dF];have hi:=W (n'+1) VW I T;have O:I.aiM.length<=16:=T.pl.nv
     have C:I.aiM=c.aiM++[.nat]++[.ir]:=by rw[M,H]
     have P:sF I.aiM (F.up 1 2) (.mk 8 0 .z [v1,v0]):=⟨C_ hF VW VW,acJ,.ir,by
      rw[C];have:=d.up c.aiM [.ir] [.nat,.ir] rfl
      simpa using this,by rw[C];exact .cons kW gy⟩
     rcases sK O hi P with⟨e,Q,m',he,j,o,s⟩|⟨f',m',Q,j,o,s⟩
     ·rw[M,U,H,K] at j;rw[j,o,dN,dO (by rw[eo];exact he)];exact lD.no he rfl rfl
     ·rw[M,U,H,K] at j;obtain⟨lf,f2,f3⟩:=yb n B i;have D:sF c.aiM F t:=⟨hF,i,.ir,d,B⟩;obtain⟨u1,u3⟩:=s.out (by have:=s.len;omega) (k:=2) VW;have u1:gk Q 2=some (xO ((2:Nat):Int) Q):=u1;obtain⟨q,v1,v2,v3,_⟩:=f3.union hu (by have:=f3.len;omega) (by have:=hu.len;omega);obtain⟨q',w1,w2,w3,_⟩:=v3.union u3 (by have:=v3.len;omega) (by have:=u3.len;omega);rw[j,o,dN,dI nz,fN,D.both VW];obtain⟨w,e,hw⟩:∃w e,ld F t=(w,e):=⟨_,_,rfl⟩;rw[hw,dN,f2,dF,v1,dF,u1,dF,w1,dF];simp only[];skip;rcases lC F t with R|⟨ad,R⟩
      ·rw[R] at hw;obtain⟨rfl,rfl⟩:=iE hw;rw[iP aak];exact lD.no aak rfl rfl
      ·rw[R] at hw;obtain⟨rfl,rfl⟩:=iE hw;rw[gp rfl];exact lD.yes (f:=Fm.fK 0 F t) rfl rfl w3 D.put VW
    ·have r:eu c 2 1=some 3:=r;rw[r,dF,dO aak,jD VW];exact lD.no aak rfl rfl
  ·rw[dO (by rw[eo];exact x),iP x];exact lD.no x rfl rfl
 ·rw[dO (by rw[eo];exact u),iP u];exact lD.no u rfl rfl
def Tm.na{t:Tm}(h:t.ok=true)(hn:t.aiK<=4096):t.err=0:=by grind[Tm.err]
def adr(n:Nat)(c:dP)(t:Tm):ee (n+1) c (.mk 18 0 .z [t] [] [])=dE (yg t t) λa=>dE (gX c t 1) λb=>some (a,[],b):=by rw[ee];rfl
def P5(L:List Fm)(t:Tm)(g:List Ty)(hs:List Fm):pP L 18 0 .z [t] [] (Pf.uX L []) g hs=kc (nM t g 1) (.inl (.mk 1 .z [t,t] [],0)):=rfl
def Sa{L:List Fm}{t:Tm}(a:t.err=0):iZ L (.mk 18 0 .z [t] [] []) 5:=by
 refine iZ.of (N:=0) λn' _ c h=>?_;have f:=h.pl.nv;have i:=h.pl.ctx;obtain⟨j,a2⟩:=Tm.gZ a;have hw:=t.iv j;rw[show n'+4=n'+3+1 from rfl,adr,P5,has_both i f rfl a 1,afI VW VW,dF,dF]
 by_cases b:nM t c.aiM 1=0
 ·have d:dQ c.aiM t .nat:=Bh i a (.inl rfl) b;rw[gp b,b];refine lD.yes rfl rfl .nil (.eq d d) ?_;rw[Fm.dJ];simp only[ea];omega
 ·rw[iP b];exact lD.no b rfl rfl
def Zv(n:Nat)(c:dP)(F:Fm)(a b:Pf):ee (n+2) c (.mk 19 0 .z [] [F] [a,b])=fE (gu (fL c.aiM [.nat])<|dE (kB (fT c.aiM [.nat]) F) λf=>if(eE f 0) then some (jB,[],f)else dS (ej n c a) λd h=>if(eE h 0) then some (jB,[],h)else if(eE d.dW.aiI 1) then some (jB,[],10)else dE (eb d.dW.ef 0) λs=>dS (eS n c b F s) λt i=>if(eE i 0) then some (jB,[],i)else dE (eb d.dW.ef 1) λj=>dS (jq F j) λk l=>some (k,t,l)) λo q r=>some (o,q,r):=by
 rw[ee];rw[nD];rfl
def LZ(L:List Fm)(F:Fm)(a b:Pf)(g:List Ty)(hs:List Fm):pP L 19 0 .z [] [F] (Pf.uX L [a,b]) g hs=kc (F.va (g++[.nat])) (pbind (E0 (a.inf L g hs) 1) λa _=>pbind (B1 (b.inf L g hs) F (a.ef.getD 0 Tm.z)) λ_ n=>kc (ld F (a.ef.getD 1 Tm.z)).2 (.inl ((ld F (a.ef.getD 1 Tm.z)).1,n))):=rfl
def OW{L:List Fm}{F:Fm}(hF:F.err=0){a b:Pf}{N:Nat}(G:iZ L a N)(H:iZ L b N):iZ L (.mk 19 0 .z [] [F] [a,b]) (N+5):=by
 refine iZ.of λn' I c h=>?_;have q:=h.pl.nv;have w:=h.pl.ctx;have J:=(Fm.gZ hF).2;obtain⟨t2,_⟩:=s9 w.nat aby hF;rw[show n'+4=n'+2+2 from rfl,Zv,LZ,fM aby,dX,jl,t2,dF]
 by_cases k:F.va (c.aiM++[.nat])=0
 ·have A:=k;rw[<-vx (a:=_=_),<-ne_eq,<-eo] at A;rw[dI A,gp k];have i:=rn F (Fm.gZ hF).1 _ w.nat k;rcases m8 (G (n'+2) VW c h) 1 with⟨e,he,j,d⟩|⟨f,m,l,j,d,hu,B,r⟩
  ·rw[j];rcases d with d|⟨f,l,m,d,r,rfl,_⟩
   ·rw[d,dN,dO (by rw[eo];exact he)];exact lD.no he rfl rfl
   ·rw[d,dN,dI nz,dO (by rw[eo];exact r)];exact lD.no he rfl rfl
  ·obtain⟨x,y,rfl,C,D⟩:=B.ty.Ul r;have n:=B.aiK;rw[Fm.dJ] at n;simp only[ea] at n;have s:x.err=0:=Tm.na C.ok VW;have t:y.err=0:=Tm.na D.ok VW;have u:sF c.aiM F x:=⟨hF,s,.nat,i,C⟩;have o:sF c.aiM F y:=⟨hF,t,.nat,i,D⟩;rw[j,d,dN,dI nz,dI aaF,fN];simp only[Fm.hZ,eJ,hE,kQ,qo,dF,zC,O3];rcases sK q (H (n'+1) VW c h) u with⟨e,l,m,he,j,d,hu⟩|⟨f,m,l,j,d,hu⟩
   ·rw[j,d,dN,dO (by rw[eo];exact he)];exact lD.no he rfl rfl
   ·rw[j,d,dN,dI nz,fN,o.both VW];rcases lC F y with v|⟨K,v⟩
    ·rw[v,dN,iP aak];exact lD.no aak rfl rfl
    ·rw[v,dN,gp rfl];exact lD.yes (f:=Fm.fK 0 F y) rfl rfl hu o.put VW
 ·rw[dO (by rw[eo];exact k),iP k];exact lD.no k rfl rfl
def chR(f:Fm)(l:List Int):Option (Fm×List Int×Int):=
 eh (λ(d:Bool)=>if d then some (jB,[],10)else dE (eb f.aiJ 0) λa=>dE (kR f.dM a.dM) λb=>dE (h8 b) λh=>if(eE h 0) then some (jB,[],4)else dE (eb a.aiJ 0) λi=>dE (ik FU i 2 1) λj=>dE (fF 3 [v1,v0]) λk=>dS (jq j k) λn o=>dE (nC 4 f.dM n) λq=>dE (nC 5 b q) λr=>some (r,l,o)) λc=>if(eE f.aiI 4) then c true else dE (eb f.aiJ 0) λs=>c (eE s.aiI 5)
def XS{f:Fm}{l:List Int}(h:f.aiI≠4):chR f l=some (jB,[],10):=by grind[eE,eo,chR,dZ]
def Y4{s:Ty}{x:Fm}{l:List Int}(h:x.aiI≠5):chR (.mk 4 s [] [x]) l=some (jB,[],10):=by
 have r:eE x.aiI 5=true:=by rw[eo];exact h
 have e:chR (.mk 4 s [] [x]) l=(λ(c:Bool)=>if c then some (jB,[],10)else dE (eb [x] 0) λa=>dE (kR s a.dM) λb=>dE (h8 b) λd=>if(eE d 0) then some (jB,[],4)else dE (eb a.aiJ 0) λf=>dE (ik FU f 2 1) λi=>dE (fF 3 [v1,v0]) λj=>dS (jq i j) λk n=>dE (nC 4 s k) λo=>dE (nC 5 b o) λq=>some (q,l,n)) (eE x.aiI 5):=rfl
 grind
def aeT{s u:Ty}{y:Fm}{l:List Int}:chR (.mk 4 s [] [.mk 5 u [] [y]]) l=dE (kR s u) λa=>dE (h8 a) λb=>if(eE b 0) then some (jB,[],4)else dE (ik FU y 2 1) λc=>dE (fF 3 [v1,v0]) λd=>dS (jq c d) λf h=>dE (nC 4 s f) λi=>dE (nC 5 a i) λj=>some (j,l,h):=rfl
def TX(n:Nat)(c:dP)(a:Pf):ee (n+2) c (.mk 20 0 .z [] [] [a])=fE (dS (ej n c a) λb d=>if(eE d 0) then some (jB,[],d)else chR b.dW b.jG) λf h i=>some (f,h,i):=by
 rw[ee];rw[m6];rfl
def N4(L:List Fm)(a:Pf)(g:List Ty)(hs:List Fm):pP L 20 0 .z [] [] (Pf.uX L [a]) g hs=pbind (E0 (a.inf L g hs) 4) λa m=>wC ((a.aiJ.getD 0 jB).aiI≠5) 10 (wC ((Ty.fn a.dM (a.aiJ.getD 0 jB).dM).err≠0) 4 (wC ((ld (((a.aiJ.getD 0 jB).aiJ.getD 0 jB).up 2 1) (eF v1 v0)).2≠0) 4 (.inl (.mk 5 (Ty.fn a.dM (a.aiJ.getD 0 jB).dM) [] [.mk 4 a.dM [] [(ld (((a.aiJ.getD 0 jB).aiJ.getD 0 jB).up 2 1) (eF v1 v0)).1]],m)))):=rfl
def NY{L:List Fm}{a:Pf}{N:Nat}(F:iZ L a N):iZ L (.mk 20 0 .z [] [] [a]) (N+5):=by
 refine iZ.of λn' G c h=>?_;have H:=h.pl.nv;rw[show n'+4=n'+2+2 from rfl,TX,N4];rcases m8 (F (n'+2) VW c h) 4 with⟨e,he,n,i⟩|⟨f,m,l,n,i,hu,C,o⟩
 ·rw[n];rcases i with i|⟨f,l,m,i,o,rfl,_⟩
  ·rw[i,dN,dO (by rw[eo];exact he)];exact lD.no he rfl rfl
  ·rw[i,dN,dI nz,XS o];exact lD.no he rfl rfl
 ·obtain⟨s,x,rfl,hs,D⟩:=C.ty.vV o (.inl rfl);have r:=C.sub (x:=x) aaF D;rw[n,i,dN,dI nz,fN]
  by_cases j:x.aiI=5
  ·obtain⟨u,y,rfl,t,v⟩:=D.vV j (.inr (.inl rfl));have d:=r.sub (x:=y) aaF v;have I:=eV hs;have J:=eV t;have K:=d.aiK
   have M:(Ty.fn s u).aiK<=1000:=by rw[Ty.jz];omega
   have k:y.aiO 1000000000=true:=v.aiO _ aby;have S:pT y 2 1=some (y.up 2 1):=(D4 d.err k (f:=2) (c:=1) VW VW).1;have O:ik FU y 2 1=some (y.up 2 1):=(D4 d.err k (f:=2) (c:=1) VW VW).2
   have w:sF (c.aiM++[.fn s u]++[s]) (y.up 2 1) (eF v1 v0):=⟨C_ d.err VW VW,aak,u,by
    have:=v.up c.aiM [s,u] [.fn s u] aaF
    simpa using this,.app kW gy⟩
   have P:=w.both aby;have Q:=Qo;have hw:=Fm.iv _ w.put.ok;simp only[Fm.er,Fm.fu,Fm.eD,zC];rw[jY aak,aeT,iL VW VW,dF,ml VW,dF]
   by_cases b:(Ty.fn s u).err=0
   ·have A:¬eE (Ty.fn s u).err 0=true:=by rw[eo];simpa using b
    rw[dI A,jY (by simpa using b),O,dF,show fF 3 [v1,v0]=some (eF v1 v0)from w5 aak aak,dF,P];rcases lC (y.up 2 1) (eF v1 v0)with B|⟨R,B⟩
    ·rw[B,dN,jD aak,Si VW VW,dF];rw[Si VW (by rw[Fm.i_];simp only[ea];omega),dF];exact lD.no aak rfl rfl
    ·rw[B,dN,jY (λh=>h rfl),Si VW VW,dF];rw[Si VW (by rw[Fm.i_];simp only[ea];omega),dF];refine lD.yes (f:=.mk 5 (.fn s u) [] [.mk 4 s [] [Fm.fK 0 (y.up 2 1) (eF v1 v0)]]) rfl rfl hu (.q (.inr (.inl rfl)) b (.q (.inl rfl) hs w.put)) ?_;rw[Fm.dJ];simp only[ea];rw[Fm.dJ];simp only[ea];omega
   ·have A:eE (Ty.fn s u).err 0=true:=by rw[eo];exact b
    rw[dO A,jD b];exact lD.no aak rfl rfl
  ·simp only[Fm.er,zC];rw[Y4 j,jD j];exact lD.no aak rfl rfl
inductive AA:Pf->Prop
 |hyp {i}:0<=i->AA (.mk 1 i .z [] [] [])|Mo {i}:0<=i->AA (.mk 2 i .z [] [] [])|NV {a b}:AA a->AA b->AA (.mk 3 0 .z [] [] [a,b])|and {k a}:k=4\/k=5->AA a->AA (.mk k 0 .z [] [] [a])|UL {F a}:F.err=0->AA a->AA (.mk 6 0 .z [] [F] [a])|U' {a b}:AA a->AA b->AA (.mk 7 0 .z [] [] [a,b])|all {k s a}:k=8\/k=12->s.err=0->AA a->AA (.mk k 0 s [] [] [a])|atE {k t a}:k=9\/k=13->t.err=0->AA a->AA (.mk k 0 .z [t] [] [a])|ex {k t F a}:k=10\/k=14->t.err=0->F.err=0->AA a->AA (.mk k 0 .z [t] [F] [a])|opn {k a b}:k=11\/k=15->AA a->AA b->AA (.mk k 0 .z [] [] [a,b])|ind {k t F a b}:k=16\/k=17->t.err=0->F.err=0->AA a->AA b->AA (.mk k 0 .z [t] [F] [a,b])|refl {t}:t.err=0->AA (.mk 18 0 .z [t] [] [])|subst {F a b}:F.err=0->AA a->AA b->AA (.mk 19 0 .z [] [F] [a,b])|choice {a}:AA a->AA (.mk 20 0 .z [] [] [a])
mutual
def Pf.zI:Pf->Nat
 |.mk _ _ _ _ _ l=>1+Pf.wF l
def Pf.wF:List Pf->Nat
 |[]=>0|p::l=>p.zI+Pf.wF l
end
theorem iZ.mono{L:List Fm}{P:Pf}{N M:Nat}(h:iZ L P N)(a:N<=M):iZ L P M:=λn' b=>h n' VW
def Vf{L:List Fm}{P:Pf}(h:AA P):iZ L P (5*P.zI):=by
 induction h with
 |hyp hi=>exact Vt hi|Mo hi=>exact Vn hi|NV _ _ a b=>exact(S8 (a.mono (Py _ _)) (b.mono (Qu _ _))).mono (by simp only[Pf.zI,Pf.wF];omega)|and c _ a=>
  rcases c with rfl|rfl
  ·exact(SI a).mono (by simp only[Pf.zI,Pf.wF];omega)
  ·exact(SY a).mono (by simp only[Pf.zI,Pf.wF];omega)
 |UL hF _ a=>exact(RZ hF a).mono (by simp only[Pf.zI,Pf.wF];omega)|U' _ _ a b=>exact(Sd (a.mono (Py _ _)) (b.mono (Qu _ _))).mono (by simp only[Pf.zI,Pf.wF];omega)|all c hs _ a=>
  rcases c with rfl|rfl
  ·exact(R9 hs a).mono (by simp only[Pf.zI,Pf.wF];omega)
  ·exact(OZ hs a).mono (by simp only[Pf.zI,Pf.wF];omega)
 |atE c d _ a=>
  rcases c with rfl|rfl
  ·exact(UT d a).mono (by simp only[Pf.zI,Pf.wF];omega)
  ·exact(RN d a).mono (by simp only[Pf.zI,Pf.wF];omega)
 |ex c d hF _ a=>
  rcases c with rfl|rfl
  ·exact(Sl d hF a).mono (by simp only[Pf.zI,Pf.wF];omega)
  ·exact(Ta d hF a).mono (by simp only[Pf.zI,Pf.wF];omega)
 |opn c _ _ a b=>
  rcases c with rfl|rfl
  ·exact(M6 (a.mono (Py _ _)) (b.mono (Qu _ _))).mono (by simp only[Pf.zI,Pf.wF];omega)
  ·exact(Ox (a.mono (Py _ _)) (b.mono (Qu _ _))).mono (by simp only[Pf.zI,Pf.wF];omega)
 |ind c d hF _ _ a b=>
  rcases c with rfl|rfl
  ·exact(OU d hF (a.mono (Py _ _)) (b.mono (Qu _ _))).mono (by simp only[Pf.zI,Pf.wF];omega)
  ·exact(P4 d hF (a.mono (Py _ _)) (b.mono (Qu _ _))).mono (by simp only[Pf.zI,Pf.wF];omega)
 |refl d=>exact Sa d|subst hF _ _ a b=>exact(OW hF (a.mono (Py _ _)) (b.mono (Qu _ _))).mono (by simp only[Pf.zI,Pf.wF];omega)|choice _ a=>exact(NY a).mono (by simp only[Pf.zI,Pf.wF];omega)
mutual
def Pf.aiK:Pf->Nat
 |.mk _ _ _ ts fs l=>1+ea Tm.aiK ts+ea Fm.aiK fs+Pf.nP l
def Pf.nP:List Pf->Nat
 |[]=>0|p::l=>p.aiK+Pf.nP l
end
def Pf.rH:∀l:List Pf,Pf.nP l=ea Pf.aiK l
 |[]=>by rw[Pf.nP];rfl|p::l=>by rw[Pf.nP,Pf.rH l];rfl
theorem Pf.dJ(k i:Int)(s:Ty)(ts:List Tm)(fs:List Fm)(l:List Pf):(Pf.mk k i s ts fs l).aiK=1+ea Tm.aiK ts+ea Fm.aiK fs+ea Pf.aiK l:=by rw[Pf.aiK,Pf.rH]
mutual
def Pf.wt:Pf->Nat
 |.mk _ _ s ts fs l=>1+s.aiK+ea Tm.wt ts+ea Fm.wt fs+Pf.PF l
def Pf.PF:List Pf->Nat
 |[]=>0|p::l=>p.wt+Pf.PF l
end
def Pf.FK:∀l:List Pf,Pf.PF l=ea Pf.wt l
 |[]=>by rw[Pf.PF];rfl|p::l=>by rw[Pf.PF,Pf.FK l];rfl
def Pf.i_(k i:Int)(s:Ty)(ts:List Tm)(fs:List Fm)(l:List Pf):(Pf.mk k i s ts fs l).wt=1+s.aiK+ea Tm.wt ts+ea Fm.wt fs+ea Pf.wt l:=by rw[Pf.wt,Pf.FK]
def Pf.jX(p:Pf):1<=p.wt:=by cases p;rw[Pf.i_];omega
def Pf.ind{p:Pf->Prop}(h:∀k i s ts fs l,(∀t∈l,p t)->p (.mk k i s ts fs l))(t:Pf):p t:=by
 match t with
 |.mk k i s ts fs l=>exact h k i s ts fs l λx a=>Pf.ind h x
termination_by SizeOf.sizeOf t
decreasing_by
 have:=adv a;simp only[Pf.mk.sizeOf_spec];omega
def Pf.iq(p:Pf):p.aiK<=p.wt:=by
 induction p using Pf.ind with
 |h k i s ts fs l ih=>
  rw[Pf.dJ,Pf.i_];have a:=kG (l:=ts) (λx _=>Tm.iq x);have b:=kG (l:=fs) (λx _=>Fm.iq x);have c:=kG (l:=l) ih;omega
def Pf.sig(k:Int):Option (Bool×Bool×Nat×Nat×Nat):=
 if k=1\/k=2 then some (true,false,0,0,0)
 else if k=3\/k=7\/k=11\/k=15 then some (false,false,0,0,2)
 else if k=4\/k=5\/k=20 then some (false,false,0,0,1)
 else if k=6 then some (false,false,0,1,1)
 else if k=8\/k=12 then some (false,true,0,0,1)
 else if k=9\/k=13 then some (false,false,1,0,1)
 else if k=10\/k=14 then some (false,false,1,1,1)
 else if k=16\/k=17 then some (false,false,1,1,2)
 else if k=18 then some (false,false,1,0,0)
 else if k=19 then some (false,false,0,1,2)
 else none
def Pf.node(k i:Int)(s:Ty)(d nf f:Nat):Bool:=
 match Pf.sig k with
 |none=>false|some (h,ty,a,b,c)=>decide (d=a)&&decide (nf=b)&&decide (f=c)&&decide (0<=i)&&(h||decide (i=0))&&(if ty then decide (s.err=0)else s.rD)
mutual
def Pf.ok:Pf->Bool
 |.mk k i s ts fs l=>Pf.node k i s ts.length fs.length l.length&&ts.all Tm.ok&&fs.all Fm.ok&&Pf.J9 l
def Pf.J9:List Pf->Bool
 |[]=>true|p::l=>p.ok&&Pf.J9 l
end
def Pf.Au:∀l:List Pf,Pf.J9 l=l.all Pf.ok
 |[]=>by rw[Pf.J9];rfl|p::l=>by rw[Pf.J9,Pf.Au l];rfl
theorem Pf.gQ(k i:Int)(s:Ty)(ts:List Tm)(fs:List Fm)(l:List Pf):(Pf.mk k i s ts fs l).ok=(Pf.node k i s ts.length fs.length l.length&&ts.all Tm.ok&&fs.all Fm.ok&&l.all Pf.ok):=by rw[Pf.ok,Pf.Au]
def S2(t:Tm):Bool:=decide (t.aiK<=4096)
def S3(f:Fm):Bool:=decide (f.aiK<=4096)
mutual
def Pf.small:Pf->Bool
 |.mk _ _ _ ts fs l=>ts.all S2&&fs.all S3&&Pf.IE l
def Pf.IE:List Pf->Bool
 |[]=>true|p::l=>p.small&&Pf.IE l
end
def Pf.Kw:∀l:List Pf,Pf.IE l=l.all Pf.small
 |[]=>by rw[Pf.IE];rfl|p::l=>by rw[Pf.IE,Pf.Kw l];rfl
def Pf.zX(k i:Int)(s:Ty)(ts:List Tm)(fs:List Fm)(l:List Pf):(Pf.mk k i s ts fs l).small=(ts.all S2&&fs.all S3&&l.all Pf.small):=by rw[Pf.small,Pf.Kw]
def Pf.err(p:Pf):Int:=if p.ok then(if p.small=true/\p.aiK<=16384 then 0 else 4)else 2
def abz{k:Int}(h:Pf.sig k≠none):k=1\/k=2\/k=3\/k=4\/k=5\/k=6\/k=7\/k=8\/k=9\/k=10\/k=11\/k=12\/k=13\/k=14\/k=15\/k=16\/k=17\/k=18\/k=19\/k=20:=by
 refine acF λhn=>h ?_;unfold Pf.sig;simp only[not_or] at hn;rw[dI VW,dI VW,dI VW,dI VW,dI VW,dI VW,dI VW,dI VW,dI VW,dI VW]
def MI{k:Int}(h:k<1\/20<k):Pf.sig k=none:=by
 unfold Pf.sig;rw[dI VW,dI VW,dI VW,dI VW,dI VW,dI VW,dI VW,dI VW,dI VW,dI VW]
def R6(k:Int):(Pf.sig k=none/\∃r,pF k=some (r,false))\/∃d ty a b c r,Pf.sig k=some (d,ty,a,b,c)/\pF k=some (r,true)/\r.aiL=d/\r.typed=ty/\r.ef=((a:Nat):Int)/\r.fI=((b:Nat):Int)/\r.aiJ=((c:Nat):Int):=by
 by_cases h:k<1\/20<k
 ·refine .inl ⟨MI h,?_⟩;unfold pF;rw[dO (by rw[lx,sA,sj,jc];omega)];exact⟨_,rfl⟩
 ·have f:k=1\/k=2\/k=3\/k=4\/k=5\/k=6\/k=7\/k=8\/k=9\/k=10\/k=11\/k=12\/k=13\/k=14\/k=15\/k=16\/k=17\/k=18\/k=19\/k=20:=VW
  refine .inr ?_;rcases f with rfl|rfl|rfl|rfl|rfl|rfl|rfl|rfl|rfl|rfl|rfl|rfl|rfl|rfl|rfl|rfl|rfl|rfl|rfl|rfl<;>exact⟨_,_,_,_,_,_,rfl,rfl,rfl,rfl,rfl,rfl,rfl⟩
def PH(k:Int):(Pf.sig k=none/\∃r,o3 k=some (r,false))\/∃d ty a b c r,Pf.sig k=some (d,ty,a,b,c)/\o3 k=some (r,true)/\r.aiL=d/\r.Mt=ty/\r.ef=((a:Nat):Int)/\r.fI=((b:Nat):Int)/\r.aiJ=((c:Nat):Int):=by
 by_cases h:k<1\/20<k
 ·refine .inl ⟨MI h,?_⟩;unfold o3;simp only[lx,sA,gP];rw[dI VW,dI VW,dI VW,dI VW,dI VW,dI VW,dI VW,dI VW,dI VW,dI VW,dI VW];exact⟨_,rfl⟩
 ·have f:k=1\/k=2\/k=3\/k=4\/k=5\/k=6\/k=7\/k=8\/k=9\/k=10\/k=11\/k=12\/k=13\/k=14\/k=15\/k=16\/k=17\/k=18\/k=19\/k=20:=VW
  refine .inr ?_;rcases f with rfl|rfl|rfl|rfl|rfl|rfl|rfl|rfl|rfl|rfl|rfl|rfl|rfl|rfl|rfl|rfl|rfl|rfl|rfl|rfl<;>exact⟨_,_,_,_,_,_,rfl,rfl,rfl,rfl,rfl,rfl,rfl⟩
def ju{k i:Int}{s:Ty}{j nf l:Nat}(h:Pf.node k i s j nf l=true){n ty:Bool}{a b c:Nat}(hs:Pf.sig k=some (n,ty,a,b,c)):(j:Int)=a/\(nf:Int)=b/\(l:Int)=c/\0<=i/\(n=false->i=0)/\(ty=true->s.err=0)/\(ty=false->s=.mk 0 []):=by
 unfold Pf.node at h;rw[hs] at h;simp only[gG,oy,sA] at h;obtain⟨⟨⟨⟨⟨t,u⟩,v⟩,o⟩,q⟩,d⟩:=h;refine⟨VW,VW,VW,o,λr=>q.resolve_left (by simp[r]),λf=>?_,λf=>?_⟩
 ·rw[dO f] at d;simpa using d
 ·rw[dI (by simp[f])] at d;exact(Ty.mE s).1 d
def Pf.w(p:Pf):p.ok=true->p.small=true->AA p:=by
 induction p using Pf.ind with
 |h k i s ts fs l ih=>
  intro B hs;rw[Pf.gQ] at B;rw[Pf.zX] at hs;simp only[gG,kE] at B hs;obtain⟨⟨⟨q,C⟩,D⟩,G⟩:=B;obtain⟨⟨s1,s2⟩,H⟩:=hs;have y:∀t∈ts,t.err=0:=λt v=>Tm.na (C t v) (by have:=s1 t v;simpa[S2] using this)
  have A:∀f∈fs,f.err=0:=λf v=>by
   have:=s2 f v;simp only[S3,oy] at this;unfold Fm.err;rw[dO (D f v),dI VW]
  have o:∀x∈l,AA x:=λx v=>ih x v (G x v) (H x v);clear ih C D G s1 s2 H;have I:=abz (k:=k) (λhn=>by unfold Pf.node at q;rw[hn] at q;cases q);rcases I with rfl|rfl|rfl|rfl|rfl|rfl|rfl|rfl|rfl|rfl|rfl|rfl|rfl|rfl|rfl|rfl|rfl|rfl|rfl|rfl
  ·obtain⟨q1,c,d,r,j,u,n⟩:=ju q rfl;obtain rfl:=gh.1 q1;obtain rfl:=gh.1 c;obtain rfl:=gh.1 d;obtain rfl:=n rfl;exact .hyp r
  ·obtain⟨q1,c,d,r,j,u,n⟩:=ju q rfl;obtain rfl:=gh.1 q1;obtain rfl:=gh.1 c;obtain rfl:=gh.1 d;obtain rfl:=n rfl;exact .Mo r
  ·obtain⟨q1,c,d,r,j,u,n⟩:=ju q rfl;obtain rfl:=gh.1 q1;obtain rfl:=gh.1 c;obtain⟨a,b,rfl⟩:=p9 d;obtain rfl:=j rfl;obtain rfl:=n rfl;exact .NV (o a aaF) (o b aaF)
  ·obtain⟨q1,c,d,r,j,u,n⟩:=ju q rfl;obtain rfl:=gh.1 q1;obtain rfl:=gh.1 c;obtain⟨a,rfl⟩:=jj d;obtain rfl:=j rfl;obtain rfl:=n rfl;exact .and (.inl rfl) (o a aaF)
  ·obtain⟨q1,c,d,r,j,u,n⟩:=ju q rfl;obtain rfl:=gh.1 q1;obtain rfl:=gh.1 c;obtain⟨a,rfl⟩:=jj d;obtain rfl:=j rfl;obtain rfl:=n rfl;exact .and (.inr rfl) (o a aaF)
  ·obtain⟨q1,c,d,r,j,u,n⟩:=ju q rfl;obtain rfl:=gh.1 q1;obtain⟨F,rfl⟩:=jj c;obtain⟨a,rfl⟩:=jj d;obtain rfl:=j rfl;obtain rfl:=n rfl;exact .UL (A F aaF) (o a aaF)
  ·obtain⟨q1,c,d,r,j,u,n⟩:=ju q rfl;obtain rfl:=gh.1 q1;obtain rfl:=gh.1 c;obtain⟨a,b,rfl⟩:=p9 d;obtain rfl:=j rfl;obtain rfl:=n rfl;exact .U' (o a aaF) (o b aaF)
  ·obtain⟨q1,c,d,r,j,u,n⟩:=ju q rfl;obtain rfl:=gh.1 q1;obtain rfl:=gh.1 c;obtain⟨a,rfl⟩:=jj d;obtain rfl:=j rfl;exact .all (.inl rfl) (u rfl) (o a aaF)
  ·obtain⟨q1,c,d,r,j,u,n⟩:=ju q rfl;obtain⟨t,rfl⟩:=jj q1;obtain rfl:=gh.1 c;obtain⟨a,rfl⟩:=jj d;obtain rfl:=j rfl;obtain rfl:=n rfl;exact .atE (.inl rfl) (y t aaF) (o a aaF)
  ·obtain⟨q1,c,d,r,j,u,n⟩:=ju q rfl;obtain⟨t,rfl⟩:=jj q1;obtain⟨F,rfl⟩:=jj c;obtain⟨a,rfl⟩:=jj d;obtain rfl:=j rfl;obtain rfl:=n rfl;exact .ex (.inl rfl) (y t aaF) (A F aaF) (o a aaF)
  ·obtain⟨q1,c,d,r,j,u,n⟩:=ju q rfl;obtain rfl:=gh.1 q1;obtain rfl:=gh.1 c;obtain⟨a,b,rfl⟩:=p9 d;obtain rfl:=j rfl;obtain rfl:=n rfl;exact .opn (.inl rfl) (o a aaF) (o b aaF)
  ·obtain⟨q1,c,d,r,j,u,n⟩:=ju q rfl;obtain rfl:=gh.1 q1;obtain rfl:=gh.1 c;obtain⟨a,rfl⟩:=jj d;obtain rfl:=j rfl;exact .all (.inr rfl) (u rfl) (o a aaF)
  ·obtain⟨q1,c,d,r,j,u,n⟩:=ju q rfl;obtain⟨t,rfl⟩:=jj q1;obtain rfl:=gh.1 c;obtain⟨a,rfl⟩:=jj d;obtain rfl:=j rfl;obtain rfl:=n rfl;exact .atE (.inr rfl) (y t aaF) (o a aaF)
  ·obtain⟨q1,c,d,r,j,u,n⟩:=ju q rfl;obtain⟨t,rfl⟩:=jj q1;obtain⟨F,rfl⟩:=jj c;obtain⟨a,rfl⟩:=jj d;obtain rfl:=j rfl;obtain rfl:=n rfl;exact .ex (.inr rfl) (y t aaF) (A F aaF) (o a aaF)
  ·obtain⟨q1,c,d,r,j,u,n⟩:=ju q rfl;obtain rfl:=gh.1 q1;obtain rfl:=gh.1 c;obtain⟨a,b,rfl⟩:=p9 d;obtain rfl:=j rfl;obtain rfl:=n rfl;exact .opn (.inr rfl) (o a aaF) (o b aaF)
  ·obtain⟨q1,c,d,r,j,u,n⟩:=ju q rfl;obtain⟨t,rfl⟩:=jj q1;obtain⟨F,rfl⟩:=jj c;obtain⟨a,b,rfl⟩:=p9 d;obtain rfl:=j rfl;obtain rfl:=n rfl;exact .ind (.inl rfl) (y t aaF) (A F aaF) (o a aaF) (o b aaF)
  ·obtain⟨q1,c,d,r,j,u,n⟩:=ju q rfl;obtain⟨t,rfl⟩:=jj q1;obtain⟨F,rfl⟩:=jj c;obtain⟨a,b,rfl⟩:=p9 d;obtain rfl:=j rfl;obtain rfl:=n rfl;exact .ind (.inr rfl) (y t aaF) (A F aaF) (o a aaF) (o b aaF)
  ·obtain⟨q1,c,d,r,j,u,n⟩:=ju q rfl;obtain⟨t,rfl⟩:=jj q1;obtain rfl:=gh.1 c;obtain rfl:=gh.1 d;obtain rfl:=j rfl;obtain rfl:=n rfl;exact .refl (y t aaF)
  ·obtain⟨q1,c,d,r,j,u,n⟩:=ju q rfl;obtain rfl:=gh.1 q1;obtain⟨F,rfl⟩:=jj c;obtain⟨a,b,rfl⟩:=p9 d;obtain rfl:=j rfl;obtain rfl:=n rfl;exact .subst (A F aaF) (o a aaF) (o b aaF)
  ·obtain⟨q1,c,d,r,j,u,n⟩:=ju q rfl;obtain rfl:=gh.1 q1;obtain rfl:=gh.1 c;obtain⟨a,rfl⟩:=jj d;obtain rfl:=j rfl;obtain rfl:=n rfl;exact .choice (o a aaF)
structure TR (d d':dR) (s:Bool) (n:Nat):Prop where
 lo:d.aiK<=d'.aiK
 hi:d'.aiK<=d.aiK+n
 eq:s=true->d'.aiK=d.aiK+n
 iN:d'.iN=(d.iN||!s)
def TR.trans{d c a:dR}{s f:Bool}{n n':Nat}(h:TR d c s n)(b:TR c a f n'):TR d a (s&&f) (n+n'):=by
 refine⟨by have:=h.lo;have:=b.lo;omega,by have:=h.hi;have:=b.hi;omega,λhs=>?_,?_⟩
 ·rw[gG] at hs;have:=h.eq hs.1;have:=b.eq hs.2;omega
 ·rw[b.iN,h.iN,Bool.not_and,Bool.or_assoc]
def yE{α:Type}{F:Int->α->dR->Option (fZ dR (Bool×dR))}(ok small:α->Bool)(sz:α->Nat):∀(l:List α) (i:Nat) (d:dR),0<=d.aiK->d.aiK+ea sz l<=4000000000->(∀(j:Int) (x:α) (d:dR),x∈l->0<=d.aiK->d.aiK+sz x<=4000000000->if ok x then∃a,F j x d=some (.next a)/\TR d a (small x) (sz x)else∃a,F j x d=some (.ret (false,a)))->if l.all ok then∃a,eY F l i d=some (.inl a)/\TR d a (l.all small) (ea sz l)else∃a,eY F l i d=some (.inr (false,a))
 |[],i,d,_,_,_=>⟨d,rfl,⟨VW,by simp[ea],λ_=>by simp[ea],aaF⟩⟩|x::l,i,d,o,q,h=>by
  simp only[ea] at q;have b:=h i x d aaF o VW;rw[ET]
  by_cases c:ok x=true
  ·rw[dO c] at b;obtain⟨d1,f,k⟩:=b;have ih:=yE ok small sz l (i+1) d1 (by have:=k.lo;omega) (by have:=k.hi;omega) (λj y d r=>h j y d (by simp[r]));rw[fp,f];simp only[dF,fw,ea]
   by_cases n:l.all ok=true
   ·rw[dO n] at ih;obtain⟨d2,s,t⟩:=ih;rw[dO (by rw[gG];exact⟨c,n⟩)];exact⟨d2,s,k.trans t⟩
   ·grind
  ·rw[dI c] at b;obtain⟨d1,f⟩:=b;rw[dI (by rw[gG];exactλh=>c h.1),fp,f];exact⟨d1,rfl⟩
def Kl{d:dR}{n e:Int}(a:-1000000000000<=d.aiK+n)(b:d.aiK+n<=1000000000000):hB d n e=some (eE e 2,⟨d.aiK+n,d.iN||ei e 4⟩):=by
 unfold hB;rw[fR VW VW];cases d.iN<;>rfl
def Tm.Fi(t:Tm):t.err=2/\t.ok=false\/t.ok=true/\S2 t=true/\t.err=0\/t.ok=true/\S2 t=false/\t.err=4:=by
 unfold Tm.err S2;cases h:t.ok with
 |false=>grind|true=>grind
def Fm.Fi(t:Fm):t.err=2/\t.ok=false\/t.ok=true/\S3 t=true/\t.err=0\/t.ok=true/\S3 t=false/\t.err=4:=by
 unfold Fm.err S3;cases h:t.ok with
 |false=>grind|true=>grind
def I4{sz:Nat}{e:Int}{ok small:Bool}(c:e=2/\ok=false\/ok=true/\small=true/\e=0\/ok=true/\small=false/\e=4)(hs:sz<=1000000000){d:dR}(f:0<=d.aiK)(i:d.aiK+sz<=4000000000):if ok then∃b,(dS (hB d (if e=0 then(sz:Int)else 0) e) λa d179=>if a then some (.next d179)else some ((.ret (false,d179)):fZ dR (Bool×dR)))=some (.next b)/\TR d b small sz else∃b,(dS (hB d (if e=0 then(sz:Int)else 0) e) λa d179=>if a then some (.next d179)else some ((.ret (false,d179)):fZ dR (Bool×dR)))=some (.ret (false,b)):=by
 rcases c with⟨rfl,rfl⟩|⟨rfl,rfl,rfl⟩|⟨rfl,rfl,rfl⟩
 ·exact⟨_,rfl⟩
 ·rw[dO rfl,dO rfl,Kl VW VW,dN,dO aak];refine⟨_,rfl,⟨?_,?_,λ_=>rfl,?_⟩⟩
  all_goals grind[ei]
 ·rw[dO rfl,dI aak,Kl VW VW,dN,dO aak];refine⟨_,rfl,⟨?_,?_,λh=>by(cases h),?_⟩⟩
  all_goals grind[ei]
def H4{h:Bool}{i a b c d nf f:Int}:e_ true (e_ (sx i 0) true (e_ (eE i 0) (e_ h (e_ (eE d a) true (e_ (eE nf b) true (eE f c))) true) (e_ (eE d a) true (e_ (eE nf b) true (eE f c))))) true=true↔¬(d=a/\nf=b/\f=c/\0<=i/\(h=true\/i=0)):=by
 grind[D0,lx,eE,A6,sj]
def Iy{d:Bool}{i a b c f nf h:Int}:e_ true (e_ (eE f a) true (e_ (eE nf b) true (e_ (eE h c) true (e_ (sx i 0) true (e_ d false (eE i 0)))))) true=true↔¬(f=a/\nf=b/\h=c/\0<=i/\(d=true\/i=0)):=by
 cases d with
 |true=>
  grind[D0,lx,sj,eo]
 |false=>grind[D0,A6,lx,sj,eo]
def Tr(ty:Bool)(s:Ty):Bool:=if ty then decide (s.err=0)else s.rD
theorem Hl{k i:Int}{s:Ty}{d nf f:Nat}{h ty:Bool}{a b c:Nat}(hs:Pf.sig k=some (h,ty,a,b,c)):Pf.node k i s d nf f=true↔((d:Int)=a/\(nf:Int)=b/\(f:Int)=c/\0<=i/\(h=true\/i=0))/\Tr ty s=true:=by
 grind[Pf.node,Tr]
def TG(d:dR)(A s:Bool)(n:Nat)(o:Option (Bool×dR)):Prop:=(A=true->∃a,o=some (true,a)/\TR d a s n)/\(A=false->∃a,o=some (false,a))
theorem TG.no{d a:dR}{A s:Bool}{n:Nat}(h:A=false):TG d A s n (some (false,a)):=⟨λb=>(by rw[h] at b;cases b),λ_=>⟨a,rfl⟩⟩
def RQ(n:Nat)(d:dR)(k i:Int)(s:Ty)(ts:List Tm)(fs:List Fm)(l:List Pf):iz (n+1) d (.mk k i s ts fs l)=(dS (pF k) λf L=>
 if(e_ L (e_ (sx i 0) true (e_ (eE i 0) (e_ f.aiL (e_ (eE (ez ts) f.ef) true (e_ (eE (ez fs) f.fI) true (eE (ez l) f.aiJ))) true) (e_ (eE (ez ts) f.ef) true (e_ (eE (ez fs) f.fI) true (eE (ez l) f.aiJ))))) true) then(
 some (false,d))
 else(eh (λ(F:dR)=>
 gu (eP ts)<|eh (λ(M:Int) (G:Tm)=>(λ(a:dR)=>
 dS (ki G) λj o=>
 dS (hB a j o) λq d179=>
 if q then(
 some (.next d179))
 else(some (.ret (false,d179)))):Int->Tm->(dR)->(Option (fZ (dR) (Bool×dR)))) λt=>
 dE (eY t ts 0 F) (fO (λ(a:dR)=>
 gu (eP fs)<|eh (λ(J:Int) (u:Fm)=>(λ(b:dR)=>
 dS (iK u) λv w=>
 dS (hB b v w) λx d322=>
 if x then(
 some (.next d322))
 else(some (.ret (false,d322)))):Int->Fm->(dR)->(Option (fZ (dR) (Bool×dR)))) λy=>
 dE (eY y fs 0 a) (fO (λ(b:dR)=>
 gu (eP l)<|eh (λ(K:Int) (A:Pf)=>(λ(c:dR)=>
 dS (iz n c A) λB h=>
 if B then(
 some (.next h))
 else(some (.ret (false,h)))):Int->Pf->(dR)->(Option (fZ (dR) (Bool×dR)))) λC=>
 dE (eY C l 0 b) (fO (λ(c:dR)=>
 some (true,c)) (λr=>some r))) (λr=>some r))) (λr=>some r))) λD=>
 if f.typed then(
 dS (iT s) λN H=>
 if(eE H 0) then(
 some (false,(dR.mk (fl .i64 d.aiK 1) d.iN)))
 else(D (dR.mk (fl .i64 d.aiK 1) d.iN)))
 else(dE (n7 s) λI=>
 if I then(
 D (dR.mk (fl .i64 d.aiK 1) d.iN))
 else(some (false,(dR.mk (fl .i64 d.aiK 1) d.iN)))))):=by
 rw[iz];rfl
def Vi:∀(n:Nat) (P:Pf) (d:dR),P.wt<=n->P.wt<=1000000000->0<=d.aiK->d.aiK+P.aiK<=4000000000->TG d P.ok P.small P.aiK (iz n d P):=by
 intro n
 induction n with
 |zero=>intro P d h;have:=P.jX;omega
 |succ n ih=>
  intro P d hn hb h0 hd;cases P with
  |mk k i s ts fs l=>
   rw[Pf.i_] at hn hb;rw[Pf.dJ] at hd|-;have af:=iJ Tm.wt ts λt _=>t.jX;have ah:=iJ Fm.wt fs λt _=>t.jX;have ai:=iJ Pf.wt l λt _=>t.jX;have m1:=kG (l:=ts) (λx _=>Tm.iq x);have m2:=kG (l:=fs) (λx _=>Fm.iq x);have m3:=kG (l:=l) (λx _=>Pf.iq x);rw[Pf.gQ,Pf.zX,RQ];rcases R6 k with⟨M,r,O⟩|⟨ix,ty,a,b,c,r,M,O,g1,g2,g3,g4,g5⟩
   ·rw[O,dN,A6,dO rfl];exact TG.no (by simp[Pf.node,M])
   ·rw[O,dN,g1,g2,g3,g4,g5,gC,gC,gC]
    by_cases N:(ts.length:Int)=a/\(fs.length:Int)=b/\(l.length:Int)=c/\0<=i/\(ix=true\/i=0)
    ·rw[dI (λh=>H4.1 h N)]
     have v:Pf.node k i s ts.length fs.length l.length=Tr ty s:=by
      rw[GS,Hl M];exact⟨λh=>h.2,λh=>⟨N,h⟩⟩
     rw[v];cases f:Tr ty s with
     |false=>
      have e:∀j:dR->Option (Bool×dR),(if ty then dS (iT s) λak Q=>if(eE Q 0) then some (false,(dR.mk (fl .i64 d.aiK 1) d.iN))else j (dR.mk (fl .i64 d.aiK 1) d.iN)else dE (n7 s) λR=>if R then j (dR.mk (fl .i64 d.aiK 1) d.iN)else some (false,(dR.mk (fl .i64 d.aiK 1) d.iN)))=some (false,(dR.mk (fl .i64 d.aiK 1) d.iN)):=by grind[Tr,eE,eo,ll,dN,so,dF]
      refine vd (λ_=>False) (λ_ h=>h.elim) (λj _=>?_);rw[e j];exact TG.no aaF
     |true=>
      refine vd (λd1=>d1.aiK=d.aiK+1/\d1.iN=d.iN) (λd1 o=>?_) (λj hj=>?_)
      ·have t1:=yE (F:=λ(an:Int) (S:Tm)=>(λ(w:dR)=>dS (ki S) λy A=>dS (hB w y A) λB d179=>if B then some (.next d179)else some (.ret (false,d179)))) Tm.ok S2 Tm.aiK ts 0 d1 VW VW (λj x d q q0 q1=>by
        have:=ep Tm.wt q;have:=x.iq;rw[sn VW,dN]
        exact I4 x.Fi VW q0 q1)
       rw[ed VW,dX,dZ];cases a1:ts.all Tm.ok with
       |false=>
        rw[a1,dI aak] at t1;obtain⟨d2,T⟩:=t1;rw[T,dF,rR];exact TG.no aaF
       |true=>
        rw[a1,dO rfl] at t1;obtain⟨d2,T,U⟩:=t1;have u1:=U.lo;have u2:=U.hi;rw[T,dF,ew,ed VW,dX,dZ]
        have t2:=yE (F:=λ(ad:Int) (C:Fm)=>(λ(D:dR)=>dS (iK C) λG H=>dS (hB D G H) λI d322=>if I then some (.next d322)else some (.ret (false,d322)))) Fm.ok S3 Fm.aiK fs 0 d2 VW VW (λj x d q q0 q1=>by
         have:=ep Fm.wt q;have:=x.iq;rw[pI VW,dN]
         exact I4 x.Fi VW q0 q1)
        cases a2:fs.all Fm.ok with
        |false=>
         rw[a2,dI aak] at t2;obtain⟨d3,V⟩:=t2;rw[V,dF,rR];exact TG.no aaF
        |true=>
         rw[a2,dO rfl] at t2;obtain⟨d3,V,W⟩:=t2;have u3:=W.lo;have u4:=W.hi;rw[V,dF,ew,ed VW,dX,dZ]
         have t3:=yE (F:=λ(ae:Int) (J:Pf)=>(λ(K:dR)=>dS (iz n K J) λL u=>if L then some (.next u)else some (.ret (false,u)))) Pf.ok Pf.small Pf.aiK l 0 d3 VW VW (λj x d q q0 q1=>by
          have:=ep Pf.wt q;have:=ep Pf.aiK q;have:=x.iq;have q:=ih x d VW VW q0 VW;cases ho:x.ok with
          |true=>
           obtain⟨X,Y,w2⟩:=q.1 ho;rw[dO rfl,Y,dN,dO rfl];exact⟨X,rfl,w2⟩
          |false=>
           obtain⟨X,Y⟩:=q.2 ho;rw[dI aak,Y,dN,dI aak]
           exact⟨X,rfl⟩)
         cases a3:l.all Pf.ok with
         |false=>
          rw[a3,dI aak] at t3;obtain⟨d4,Z⟩:=t3;rw[Z,dF,rR];exact TG.no aaF
         |true=>
          rw[a3,dO rfl] at t3;obtain⟨d4,Z,r4⟩:=t3;rw[Z,dF,ew];refine⟨λ_=>⟨d4,rfl,?_⟩,λh=>by simp at h⟩;have r0:TR d d1 true 1:=⟨VW,VW,λ_=>by omega,by simp[o.2]⟩;have:=((r0.trans U).trans W).trans r4;rw[CS] at this;exact this
      ·have o:=hj (dR.mk (fl .i64 d.aiK 1) d.iN) ⟨by show fl .i64 d.aiK 1=_;rw[fR VW VW],rfl⟩;unfold Tr at f
       by_cases ht:ty=true
       ·rw[dO ht] at f|-
        have hz:¬eE s.err 0=true:=by rw[eo];simpa using f
        rw[ll VW,dN,dI hz];exact o
       ·rw[dI ht] at f|-;rw[so,dF,f,dO rfl];exact o
    ·rw[dO (H4.2 N)];refine TG.no ?_
     have:Pf.node k i s ts.length fs.length l.length=false:=by
      rw[Vh]
      exactλh=>N ((Hl M).1 h).1
     rw[this];simp
def zP{P:Pf}(h:P.wt<=1000000000):rz P=some P.err:=by
 have hn:=P.iq;have b:=Vi FU P (dR.mk 0 false) (by rw[fD];omega) h (by show(0:Int)<=0;omega) (by show(0:Int)+_<=_;omega);unfold rz qW Pf.err;cases c:P.ok with
 |false=>
  obtain⟨a,e⟩:=b.2 c
  grind[dN]
 |true=>
  obtain⟨a,e,r⟩:=b.1 c;rw[e,dN,dO rfl,dO rfl];have d:a.iN=!P.small:=r.iN;rw[d,lx];cases hs:P.small with
  |false=>grind[dN]|true=>
   have f:a.aiK=(0:Int)+P.aiK:=r.eq hs
   grind[il,dN]
def RI(n:Nat)(k i:Int)(s:Ty)(ts:List Tm)(fs:List Fm)(l:List Pf):nY (n+1) (.mk k i s ts fs l)=(dS (o3 k) λb A=>
 if(e_ A (e_ (eE (ez ts) b.ef) true (e_ (eE (ez fs) b.fI) true (e_ (eE (ez l) b.aiJ) true (e_ (sx i 0) true (e_ b.aiL false (eE i 0)))))) true) then(
 some false)
 else(eh (λ(o:Bool)=>
 if o then(
 some false)
 else(gu (eP ts)<|eh (λ(B:Int) (q:Tm)=>(λ(_:Unit)=>
 dE (kx FU q) λt=>
 if t then(
 some (.next ()))
 else(some (.ret false))):Int->Tm->(Unit)->(Option (fZ (Unit) (Bool)))) λu=>
 dE (eY u ts 0 ()) (fO (λ(_:Unit)=>
 gu (eP fs)<|eh (λ(C:Int) (v:Fm)=>(λ(_:Unit)=>
 dE (lY FU v) λc=>
 if c then(
 some (.next ()))
 else(some (.ret false))):Int->Fm->(Unit)->(Option (fZ (Unit) (Bool)))) λd=>
 dE (eY d fs 0 ()) (fO (λ(_:Unit)=>
 gu (eP l)<|eh (λ(y:Int) (f:Pf)=>(λ(_:Unit)=>
 dE (nY n f) λh=>
 if h then(
 some (.next ()))
 else(some (.ret false))):Int->Pf->(Unit)->(Option (fZ (Unit) (Bool)))) λj=>
 dE (eY j l 0 ()) (fO (λ(_:Unit)=>
 some true) (λr=>some r))) (λr=>some r))) (λr=>some r)))) λa=>
 if b.Mt then(
 dE (h8 s) λw=>
 if(eE w 0) then(
 a true)
 else(a false))
 else(dE (pJ s) λx=>
 a (mS x)))):=by
 rw[nY];rfl
def Iz:∀(n:Nat) (P:Pf),P.wt<=n->P.wt<=1000000000->nY n P=some P.ok:=by
 intro n
 induction n with
 |zero=>intro P h;have:=P.jX;omega
 |succ n ih=>
  intro P hn B;cases P with
  |mk k i s ts fs l=>
   rw[Pf.i_] at hn B;have C:=iJ Tm.wt ts λt _=>t.jX;have D:=iJ Fm.wt fs λt _=>t.jX;have F:=iJ Pf.wt l λt _=>t.jX;rw[Pf.gQ,RI];rcases PH k with⟨w,r,y⟩|⟨H,ty,a,b,c,r,w,y,g1,g2,g3,g4,g5⟩
   ·rw[y,dN,A6,dO rfl];simp[Pf.node,w]
   ·rw[y,dN,g1,g2,g3,g4,g5,gC,gC,gC]
    by_cases A:(ts.length:Int)=a/\(fs.length:Int)=b/\(l.length:Int)=c/\0<=i/\(H=true\/i=0)
    ·rw[dI (λh=>Iy.1 h A)]
     have f:Pf.node k i s ts.length fs.length l.length=Tr ty s:=by
      rw[GS,Hl w];exact⟨λh=>h.2,λh=>⟨A,h⟩⟩
     rw[f];refine vd (G:=λo=>o=some (Tr ty s&&ts.all Tm.ok&&fs.all Fm.ok&&l.all Pf.ok)) (λv=>v=!Tr ty s) (λv I=>?_) (λj J=>?_)
     ·rw[I];cases Tr ty s with
      |false=>rfl|true=>
       rw[dI aak,ed VW,dX,dZ,qS Tm.ok false ts 0 (λj x u=>by
        have:=ep Tm.wt u
        rw[yz VW,dF]),CS]
       cases ts.all Tm.ok with
       |false=>rfl|true=>
        rw[dO rfl,dF,ew,ed VW,dX,dZ,qS Fm.ok false fs 0 (λj x u=>by
         have:=ep Fm.wt u
         rw[AJ FU x (by rw[fD];omega) VW,dF]),CS]
        cases fs.all Fm.ok with
        |false=>rfl|true=>
         rw[dO rfl,dF,ew,ed VW,dX,dZ,qS Pf.ok false l 0 (λj x u=>by
          have:=ep Pf.wt u
          rw[ih x VW VW,dF]),CS]
         cases l.all Pf.ok with
         |false=>rfl|true=>rfl
     ·have d:=J (!Tr ty s) rfl;unfold Tr at d|-
      by_cases q:ty=true
      ·rw[dO q] at d;rw[dO q,dO q,ml VW,dF]
       grind[eE,eo]
      ·rw[dI q] at d;rw[dI q,dI q,xh,dF,Rl];exact d
    ·rw[dO (Iy.2 A)]
     grind[Pf.node,Hl]
def Ja:∀(n:Nat) (P:Pf),P.wt<=n->P.wt<=1000000000->ry n P=some P.small:=by
 intro n
 induction n with
 |zero=>intro P h;have:=P.jX;omega
 |succ n ih=>
  intro P hn b;cases P with
  |mk k i s ts fs l=>
   rw[Pf.i_] at hn b;have c:=iJ Tm.wt ts λt _=>t.jX;have d:=iJ Fm.wt fs λt _=>t.jX;have f:=iJ Pf.wt l λt _=>t.jX;rw[Pf.zX,ry];simp only[Pf.hZ,Pf.NG,Pf.er,dZ]
   rw[ed VW,dX,qS S2 false ts 0 (λj x a=>by
    have:=ep Tm.wt a;have:=x.iq;rw[nG FU x (by rw[fD];omega) VW,dF]
    by_cases hs:x.aiK<=4096
    ·grind[il,S2]
    ·rw[dO (by rw[il];omega),dI (by simpa[S2] using hs)])]
   cases ts.all S2 with
   |false=>rfl|true=>
    rw[dO rfl,dF,ew,ed VW,dX,qS S3 false fs 0 (λj x a=>by
     have:=ep Fm.wt a;have:=x.iq;rw[sh FU x (by rw[fD];omega) VW,dF]
     by_cases hs:x.aiK<=4096
     ·rw[dI (by rw[il];omega),dO (show S3 x=true from xY hs)]
     ·rw[dO (by rw[il];omega),dI (by simpa[S3] using hs)]),CS]
    cases fs.all S3 with
    |false=>rfl|true=>
     rw[dO rfl,dF,ew,ed VW,dX,qS Pf.small false l 0 (λj x a=>by
      have:=ep Pf.wt a
      rw[ih x VW VW,dF]),CS]
     cases l.all Pf.small with
     |false=>rfl|true=>rfl
theorem Jc:∀(n:Nat) (P:Pf),P.wt<=n->P.wt<=1000000000->rJ n P=some (P.aiK:Int):=by
 intro n
 induction n with
 |zero=>intro P h;have:=P.jX;omega
 |succ n ih=>
  intro P hn b;cases P with
  |mk k i s ts fs l=>
   rw[Pf.i_] at hn b;have c:=iJ Tm.wt ts λt _=>t.jX;have d:=iJ Fm.wt fs λt _=>t.jX;have f:=iJ Pf.wt l λt _=>t.jX;have o:=kG (l:=ts) (λx _=>Tm.iq x);have q:=kG (l:=fs) (λx _=>Fm.iq x);have r:=kG (l:=l) (λx _=>Pf.iq x);rw[Pf.dJ,rJ];simp only[Pf.hZ,Pf.NG,Pf.er,dZ]
   rw[ed VW,dX,show(1:Int)=((1:Nat):Int)from rfl,o7 Tm.aiK ts 0 1 VW (λj x v a=>by
    have:=ep Tm.wt a;have:=x.iq
    rw[nG FU x (by rw[fD];omega) VW,dF]),dF,ew,ed VW,dX,o7 Fm.aiK fs 0 _ VW (λj x v a=>by
    have:=ep Fm.wt a;have:=x.iq
    rw[sh FU x (by rw[fD];omega) VW,dF]),dF,ew,ed VW,dX,o7 Pf.aiK l 0 _ VW (λj x v a=>by
    have:=ep Pf.wt a
    rw[ih x VW VW,dF]),dF,ew]
def Jj{P:Pf}(h:P.wt<=1000000000):tV P=some P.err:=by
 unfold tV yK Pf.err;rw[Iz FU P (by rw[fD];omega) h,dF];cases P.ok with
 |false=>rfl|true=>
  rw[dO rfl,dO rfl,dZ,Ja FU P (by rw[fD];omega) h,dF];cases P.small with
  |false=>rfl|true=>grind[Jc,FU,fD,dF,ZB]
def Pf.ae8{P:Pf}(h:P.err=0):AA P/\P.aiK<=16384:=by
 unfold Pf.err at h;cases b:P.ok with
 |false=>grind|true=>
  by_cases a:P.small=true/\P.aiK<=16384
  ·exact⟨P.w b a.1,a.2⟩
  ·grind
def MA:∀(n:Nat) (t:Tm),t.aiK<=n->t.aiK<=50000000->t.ok=true->xW n t=some t:=by
 intro n
 induction n with
 |zero=>intro t h;have:=t.eC;omega
 |succ n ih=>
  intro t hn c a;cases t with
  |mk k i s l=>
   rw[Tm.dJ] at hn c;have o:=Tm.fC l;have hi:=Tm.pO a;rw[Tm.gQ,gG] at a;have d:=Ty.Cg a.1;rw[xW];simp only[Tm.eD,Tm.gY,Tm.fu,Tm.er,dZ]
   rw[tA VW,dF,ed VW,dX,jU id l 0 [] aby (λj x v b f=>by
    have:=ep Tm.aiK b
    rw[ih x VW VW (hi.2.2.2.1 x b),dF,fM (by simpa using f),dX,jl];rfl)]
   simp
def Fm.abi:∀(f:Fm) (b:Int),f.Hm (λt _=>t) b=f:=by
 intro f
 induction f using Fm.ind with
 |h k s ts l ih=>
  intro b;rw[Fm.zM,uU (g:=id) (λx a=>ih x a _)];simp
def CR{f:Fm}(h:f.err=0)(c:f.aiO 1000000000000=true):oE f=some f:=by
 obtain⟨d,hn⟩:=Fm.gZ h;unfold oE;rw[oz (h:=λi j=>m9 i j) (ψ:=λt _=>t) (λt b a _ _=>?_) FU f 0 (by rw[fD];omega) VW d c VW VW]
 ·rw[dN,Fm.abi]
 ·have:=a.aiK;unfold m9;rw[MA FU t (by rw[fD];omega) a.aiK a.ok];rfl
noncomputable def Mg (L:List Fm) (q:Sq):Int:=if 32<L.length then 3 else if fk (L.map λf=>Hi f [])≠0 then fk (L.map λf=>Hi f [])else if xm q.aiM≠0 then xm q.aiM else if 16<q.aiP.length then 3 else fk (q.aiP.map λf=>Hi f q.aiM)
structure SqB (L:List Fm) (q:Sq):Prop where
 Mo:∀f∈L,f.wt<=1000000000
 Zm:∀t∈q.aiM,t.aiK<=1000000000
 tyl:q.aiM.length<=1000000
 aiP:∀f∈q.aiP,f.wt<=1000000000
def Hv{e:Int}:(dE (some e) λa=>if(eE a 0) then some (.ret a)else some ((.next ()):fZ Unit Int))=if e≠0 then some (.ret e)else some (.next ()):=by
 rw[dF]
 by_cases h:e=0
 ·subst h;rfl
 ·rw[dO (by rw[eo];exact h),dO h]
def XO{C:List Ty->Option Int}{T:List Ty->Fm->Option Int}{L:List Fm}{q:Sq}(u:C q.aiM=some (xm q.aiM))(v:∀f∈L,T [] f=some (Hi f []))(w:∀f∈q.aiP,T q.aiM f=some (Hi f q.aiM)):(if(o0 (ez L) 32) then some 3 else gu (eP L)<|eh (λ(y:Int) (i:Fm)=>(λ(_:Unit)=>dE (T [] i) λa=>if(eE a 0) then some (.ret a)else some ((.next ()):fZ Unit Int))) λk=>
   dE (eY k L 0 ()) (fO (λ(_:Unit)=>dE (C q.aiM) λb=>if(eE b 0) then some b else if(o0 (ez q.aiP) 16) then some 3 else gu (eP q.aiP)<|eh (λ(A:Int) (l:Fm)=>(λ(_:Unit)=>dE (T q.aiM l) λc=>if(eE c 0) then some (.ret c)else some ((.next ()):fZ Unit Int))) λn=>
    dE (eY n q.aiP 0 ()) (fO (λ(_:Unit)=>some 0) (λr=>some r))) (λr=>some r)))=some (Mg L q):=by
 unfold Mg;rw[gC]
 by_cases s:32<L.length
 ·rw[dO (by rw[il];omega),dO s]
 ·have B:¬o0 (L.length:Int) 32=true:=by rw[il];omega
  rw[dI B,dI s,ed VW,dX,dZ];rw[mj (λf=>Hi f []) L 0 (λj x o=>by rw[v x o];exact Hv)]
  by_cases d:fk (L.map λf=>Hi f [])=0
  ·rw[dO d,dI (show¬(fk (L.map λf=>Hi f [])≠0)fromλh=>h d),dF,ew,u,dF]
   by_cases c3:xm q.aiM=0
   ·have z2:¬eE (xm q.aiM) 0=true:=by rw[eo];simpa using c3
    rw[dI z2,dI (show¬(xm q.aiM≠0)fromλh=>h c3),gC]
    by_cases t:16<q.aiP.length
    ·rw[dO (by rw[il];omega),dO t]
    ·have z3:¬o0 (q.aiP.length:Int) 16=true:=by rw[il];omega
     rw[dI z3,dI t,ed VW,dX,dZ];rw[mj (λf=>Hi f q.aiM) q.aiP 0 (λj x o=>by rw[w x o];exact Hv)]
     by_cases c5:fk (q.aiP.map λf=>Hi f q.aiM)=0
     ·rw[dO c5,c5];rfl
     ·rw[dI c5];rfl
   ·have z2:eE (xm q.aiM) 0=true:=by rw[eo];exact c3
    rw[dO z2,dO c3]
  ·rw[dI d,dO d];rfl
def Ln{L:List Fm}{q:Sq}(h:SqB L q):tE L q=some (Mg L q):=by
 have a:∀t∈([]:List Ty),t.aiK<=1000000000:=λt c=>by simp at c
 exact XO (C:=lU) (T:=jh) (ti q.aiM h.tyl h.Zm) (λx b=>rS (h.Mo x b) aaF a) (λx b=>rS (h.aiP x b) h.tyl h.Zm)
def A2:∀{l:List Int},(∀e∈l,e=0)->fk l=0
 |[],_=>rfl|a::l,h=>by
  rw[fk,dO (h a aaF)];exact A2 λe he=>h e (by simp[he])
def z6:∀{l:List Int},fk l=0->∀e∈l,e=0
 |[],_,e,he=>by simp at he
 |a::l,h,e,he=>by
  rw[fk] at h
  by_cases b:a=0
  ·rw[dO b] at h;rcases lS.1 he with rfl|he
   ·exact b
   ·exact z6 h e he
  ·rw[dI b] at h;exact absurd h b
def T8{f:Fm}{g:List Ty}(h:Hi f g=0):Hg g f:=by
 unfold Hi at h
 by_cases b:xm g=0
 ·rw[dI (λh=>h b)] at h
  by_cases a:f.err=0
  ·rw[dI (λh=>h a)] at h;exact⟨a,rn f (Fm.gZ a).1 g (im.of b).1 h⟩
  ·rw[dO a] at h;exact absurd h a
 ·rw[dO b] at h;exact absurd h b
structure EL (L:List Fm) (q:Sq):Prop where
 ln:L.length<=32
 Mo:∀f∈L,Hg [] f
 ctx:im q.aiM
 nv:q.aiM.length<=16
 nh:q.aiP.length<=16
 aiP:∀f∈q.aiP,Hg q.aiM f
def SK{L:List Fm}{q:Sq}(h:Mg L q=0):EL L q:=by
 unfold Mg at h
 by_cases d:32<L.length
 ·rw[dO d] at h;cases h
 ·rw[dI d] at h
  by_cases a:fk (L.map λf=>Hi f [])=0
  ·rw[dI (λh=>h a)] at h
   by_cases b:xm q.aiM=0
   ·rw[dI (λh=>h b)] at h
    by_cases i:16<q.aiP.length
    ·rw[dO i] at h;cases h
    ·rw[dI i] at h;obtain⟨j,k⟩:=im.of b;exact⟨VW,λf c=>T8 (z6 a _ (qv.2 ⟨f,c,rfl⟩)),j,k,VW,λf c=>T8 (z6 h _ (qv.2 ⟨f,c,rfl⟩))⟩
   ·rw[dO b] at h;exact absurd h b
  ·rw[dO a] at h;exact absurd h a
def EL.zero{L:List Fm}{q:Sq}(h:EL L q):Mg L q=0:=by
 have c:∀{g:List Ty} {f:Fm},im g->g.length<=16->Hg g f->Hi f g=0:=λhg b a=>by
  unfold Hi;rw[A7 hg b,dI aak,dI (λh=>h a.err)];exact om a.ty hg (by have:=a.aiK;omega)
 have d:fk (L.map λf=>Hi f [])=0:=A2 λe he=>by
  obtain⟨f,a,rfl⟩:=qv.1 he;exact c (λ_ h=>by simp at h) aaF (h.Mo f a)
 have i:fk (q.aiP.map λf=>Hi f q.aiM)=0:=A2 λe he=>by
  obtain⟨f,a,rfl⟩:=qv.1 he;exact c h.ctx h.nv (h.aiP f a)
 unfold Mg;have:=h.ln;have:=h.nh;rw[dI VW,d,dI aak,A7 h.ctx h.nv,dI aak,dI VW,i]
def Pf.Ru:∀(l:List Pf),(∀x∈l,x.zI<=x.aiK)->Pf.wF l<=ea Pf.aiK l
 |[],_=>by simp[Pf.wF]|a::l,ih=>by
  have c:=ih a aaF;have d:=Pf.Ru l (λx b=>ih x (by simp[b]));simp only[Pf.wF,ea];omega
def Pf.S_(p:Pf):p.zI<=p.aiK:=by
 induction p using Pf.ind with
 |h k i s ts fs l ih=>
  rw[Pf.dJ,Pf.zI];have:=Pf.Ru l ih;omega
noncomputable def Pk (L:List Fm) (q:Sq) (P:Pf):PR:=kc (Mg L q) (kc P.err (P.inf L q.aiM q.aiP))
def Da{L:List Fm}{q:Sq}{P:Pf}(h:SqB L q)(j:P.wt<=1000000000):(∃e,e≠0/\Pk L q P=.inr e/\kz L q P=some (⟨jB,[]⟩,e))\/∃(f:Fm) (m:Nat) (l:List Int),Pk L q P=.inl (f,m)/\kz L q P=some (⟨f,l⟩,0)/\Us l m/\Hg q.aiM f/\EL L q/\P.err=0:=by
 unfold kz Pk;rw[Ln h,dF]
 by_cases b:Mg L q=0
 ·have a:=SK b;rw[b,dI nz,gp rfl,Jj j,dF]
  by_cases c:P.err=0
  ·obtain⟨hw,hn⟩:=Pf.ae8 c;have k:=P.S_;rw[c,dI nz,gp rfl];rcases Vf hw FU (by rw[fD];omega) (dP.mk L q.aiM q.aiP) ⟨⟨a.ctx,a.nv,a.nh⟩,rfl,a.Mo,a.aiP⟩with⟨e,he,q1,i⟩|⟨f,m,l,q1,i,hu,d⟩
   ·rw[i,dN,dO (by rw[eo];exact he)];exact .inl ⟨e,he,q1,rfl⟩
   ·have d:Hg q.aiM f:=d;have n:=hu.len;have o:=f.iv d.ok;have r:=d.aiK;rw[i,dN,dI nz];simp only[];rw[tZ VW,dF,fM aby,dX,jl,qc];exact .inr ⟨f,m,l,q1,rfl,hu,d,a,by trivial⟩
  ·rw[dO (by rw[eo];exact c),iP c];exact .inl ⟨_,c,rfl,rfl⟩
 ·rw[dO (by rw[eo];exact b),iP b];exact .inl ⟨_,b,rfl,rfl⟩
def EL.below{L:List Fm}{q:Sq}(h:EL L q){l:List Ty}(b:im l)(hn:q.aiM.length+l.length<=16):EL L ⟨q.aiM++l,q.aiP.map (Fm.up 0 l.length)⟩:=by
 refine⟨h.ln,h.Mo,h.ctx.append b,by simpa using hn,by simpa using h.nh,λf c=>?_⟩;obtain⟨f0,a,rfl⟩:=qv.1 c;exact(h.aiP f0 a).up l
def EL.with{L:List Fm}{q:Sq}(h:EL L q){f:Fm}(a:Hg q.aiM f)(hn:q.aiP.length+1<=16):EL L ⟨q.aiM,q.aiP++[f]⟩:=by
 refine⟨h.ln,h.Mo,h.ctx,h.nv,by simpa using hn,λx hx=>?_⟩;rcases uh.1 hx with hx|hx
 ·exact h.aiP x hx
 ·rw[E'.1 hx];exact a
def Hg.wt{g:List Ty}{f:Fm}(h:Hg g f):f.wt<=266240:=by
 have:=f.iv h.ok;have:=h.aiK;omega
def EL.b{L:List Fm}{q:Sq}(h:EL L q):SqB L q:=by
 refine⟨λf a=>by have:=(h.Mo f a).wt;omega,λt c=>by have:=eV (h.ctx t c);omega,by have:=h.nv;omega,λf a=>by have:=(h.aiP f a).wt;omega⟩
def dQ.lift{g:List Ty}{x:Tm}{t:Ty}(h:dQ g x t)(e:List Ty):dQ (g++e) (x.up 0 e.length) t:=by
 have:=h.up g [] e aaF
 grind
def Fm.na{f:Fm}(h:f.ok=true)(hn:f.aiK<=4096):f.err=0:=by
 unfold Fm.err;rw[dO h,dI VW]
theorem k1{P:Pf}(h:P.err=0):P.ok=true/\P.small=true/\P.aiK<=16384:=by
 unfold Pf.err at h;cases b:P.ok with
 |false=>rw[b] at h;cases h
 |true=>
  rw[b,dO rfl] at h
  by_cases a:P.small=true/\P.aiK<=16384
  ·exact⟨rfl,a.1,a.2⟩
  ·rw[dI a] at h;cases h
def Ho{L:List Fm}{q:Sq}(h:EL L q){P:Pf}(a:P.err=0):Pk L q P=P.inf L q.aiM q.aiP:=by
 unfold Pk;rw[gp h.zero,gp a]
def Lx{f:Fm}{m:Nat}(h:f.err=0):wD (.inl (f,m))=.inl (f,if f.has then m else 0):=by
 unfold wD;rw[fN,dO h]
theorem QB{f:Fm}{m:Nat}(h:f.err≠0):wD (.inl (f,m))=.inr 4:=by
 unfold wD;rw[fN,dI h]
def ahF:EL [] ⟨[],[]⟩:=⟨aaF,λf h=>by simp at h,λs h=>by simp at h,aaF,aaF,λf h=>by simp at h⟩
noncomputable def uo (a b:Tm):Int:=@ite Int (a=b) (Classical.propDecidable _) 0 (if(a.norm 1000 0).2.2≠0 then(a.norm 1000 0).2.2 else if(b.norm 1000 0).2.2≠0 then(b.norm 1000 0).2.2 else@ite Int ((a.norm 1000 0).1=(b.norm 1000 0).1) (Classical.propDecidable _) 0 11)
def KQ(a:Tm):uo a a=0:=dO rfl
def RD{a b:Tm}(h:a≠b):uo a b=if(a.norm 1000 0).2.2≠0 then(a.norm 1000 0).2.2 else if(b.norm 1000 0).2.2≠0 then(b.norm 1000 0).2.2 else@ite Int ((a.norm 1000 0).1=(b.norm 1000 0).1) (Classical.propDecidable _) 0 11:=dI h
def Nm.Zg{a:Tm}(h:Nm a)(b:(a.norm 1000 0).2.2=0):(a.norm 1000 0).1.ok=true/\(a.norm 1000 0).1.aiK<=4096:=by
 obtain⟨p,n,e,c⟩:∃p n e,a.norm 1000 0=(p,n,e):=⟨_,_,_,rfl⟩;rw[c] at b|-;have b:e=0:=b;subst b;have:=Hq 1000 536870912 0 a p n VW (Sm.start h.err h.aiO) (l7 h.err).2 c;exact⟨this.1.ok,this.2⟩
def HW{a b:Tm}(f:Nm a)(i:Nm b):lW a b 1000=some (uo a b):=by
 have x:=a.iv (l7 f.err).1;have y:=b.iv (l7 i.err).1;have A:=(l7 f.err).2;have B:=(l7 i.err).2;unfold lW;rw[k9 VW,f.err,dF,dI nz,k9 VW,i.err,dF,dI nz];obtain⟨r,u,o⟩:=xk FU a b (by rw[fD];omega) VW;rw[u,dF]
 by_cases c:a=b
 ·rw[dO (o.2 c),c,KQ]
 ·rw[dI (λh=>c (o.1 h)),RD c,f.one,i.one];obtain⟨p,n,e,v⟩:∃p n e,a.norm 1000 0=(p,n,e):=⟨_,_,_,rfl⟩;obtain⟨s,n',w,l⟩:∃p n e,b.norm 1000 0=(p,n,e):=⟨_,_,_,rfl⟩;have j:=f.Zg;rw[v] at j|-;rw[l,lI];simp only[] at j|-
  by_cases he:e=0
  ·subst he;rw[dI nz,dI aak,lI]
   by_cases d:w=0
   ·subst d;rw[dI nz,dI aak];have C:=p.iv (j rfl).1;have D:=(j rfl).2;obtain⟨q,q1,t⟩:=xk FU p s (by rw[fD];omega) VW;rw[q1,dF]
    by_cases k:p=s
    ·rw[dO (t.2 k),dO k]
    ·rw[dI (λh=>k (t.1 h)),dI k]
   ·rw[dO (by rw[eo];exact d),dO d]
  ·rw[dO (by rw[eo];exact he),dO he]
mutual
noncomputable def Fm.EM:Fm->Fm->Int
 |.mk k s ts l,b=>if k≠b.aiI\/s.kV b.dM=false then 11 else if fk (List.zipWith uo ts b.ef)≠0 then fk (List.zipWith uo ts b.ef)else fk (Fm.SU l b.aiJ)
noncomputable def Fm.SU:List Fm->List Fm->List Int
 |a::l,b::m=>a.EM b::Fm.SU l m|_,_=>[]
end
def Fm.Rb:∀(l m:List Fm),Fm.SU l m=List.zipWith Fm.EM l m
 |[],m=>by rw[Fm.SU];rfl;intros;simp_all|a::l,[]=>by rw[Fm.SU];rfl;intros;simp_all|a::l,b::m=>by rw[Fm.SU,Fm.Rb l m];rfl
def Fm.LL(k k':Int)(s b:Ty)(ts a:List Tm)(l c:List Fm):(Fm.mk k s ts l).EM (.mk k' b a c)=if k≠k'\/s.kV b=false then 11 else if fk (List.zipWith uo ts a)≠0 then fk (List.zipWith uo ts a)else fk (List.zipWith Fm.EM l c):=by rw[Fm.EM,Fm.Rb];rfl
def Is{α:Type}{E:α->α->Option Int}{e:α->α->Int}{M:List α}:∀(l:List α) (i:Nat),l.length+i=M.length->(∀x∈l,∀y∈M,E x y=some (e x y))->eY (λ(d:Int) (f:α)=>(λ(_:Unit)=>dE (eb M d) λb=>dE (E f b) λa=>if(eE a 0) then(some (.ret a))else(some ((.next ()):fZ Unit Int)))) l i ()=some (if fk (List.zipWith e l (M.drop i))=0 then .inl ()else .inr (fk (List.zipWith e l (M.drop i))))
 |[],i,_,_=>by simp[fk]|x::l,i,n,h=>by
  simp only[pM] at n
  have hi:i<M.length:=VW
  have ih:=Is (E:=E) (e:=e) (M:=M) l (i+1) VW (λy o=>h y (by simp[o]));have q:M.drop i=M[i]::M.drop (i+1):=(NI hi)
  have r:List.zipWith e (x::l) (M.drop i)=e x M[i]::List.zipWith e l (M.drop (i+1)):=by rw[q];rfl
  rw[r,fp,jN,qL hi,dF,h x aaF _ (Es hi),dF]
  by_cases c:e x M[i]=0
  ·have j:¬eE (e x M[i]) 0=true:=by rw[eo];simpa using c
   have k:fk (e x M[i]::List.zipWith e l (M.drop (i+1)))=fk (List.zipWith e l (M.drop (i+1))):=by rw[fk,dO c]
   rw[dI j,dF,fw,k];exact ih
  ·have j:eE (e x M[i]) 0=true:=by rw[eo];exact c
   have k:fk (e x M[i]::List.zipWith e l (M.drop (i+1)))=e x M[i]:=by rw[fk,dI c]
   rw[dO j,dF,MW,k,dI c]
def Jg:∀(n:Nat) (a b:Fm),a.aiK<=n->a.aiK<=4096->b.aiK<=4096->a.ok=true->b.ok=true->TM a->TM b->k0 n a b=some (a.EM b):=by
 intro n
 induction n with
 |zero=>intro a b h;have:=a.eC;omega
 |succ n ih=>
  intro a b hn F H T U X Y;cases a with
  |mk k s ts l=>
  cases b with
  |mk k' B c I=>
   cases X with
   |mk J K=>
   cases Y with
   |mk L M=>
   rw[Fm.dJ] at hn F H;obtain⟨a1,a2,a3⟩:=Fm.qG T;obtain⟨b1,b2,Z⟩:=Fm.qG U;have l1:=Tm.fC ts;have l2:=Fm.fC l;rw[k0,Fm.LL];refine vd (G:=λo=>o=some (if k≠k'\/s.kV B=false then 11 else if fk (List.zipWith uo ts c)≠0 then fk (List.zipWith uo ts c)else fk (List.zipWith Fm.EM l I))) (λv=>v=true↔(k≠k'\/s.kV B=false)) (λv V=>?_) (λj W=>?_)
   ·by_cases i:k≠k'\/s.kV B=false
    ·rw[dO (V.2 i),dO i]
    ·rw[dI (λh=>i (V.1 h)),dI i];have N:k=k':=acF λh=>i (.inl h);subst N;obtain⟨e1,e2⟩:=Fm.shape T U;show(gu (eP ts) _:Option Int)=_;rw[ed VW,dX,dZ];show dE (eY (λ(O:Int) (P:Tm)=>(λ(_:Unit)=>dE (eb c O) λq=>dE (lW P q 1000) λd=>if(eE d 0) then(some (.ret d))else(some ((.next ()):fZ Unit Int)))) ts 0 ()) _=_;rw[Is (E:=λx y=>lW x y 1000) (e:=uo) ts 0 VW (λx r y t=>HW (J x r) (L y t)),List.drop_zero]
     by_cases C:fk (List.zipWith uo ts c)=0
     ·rw[dO C,dF,ew,dI (λh=>h C)];show(gu (eP l) _:Option Int)=_;rw[ed VW,dX,dZ];show dE (eY (λ(u:Int) (w:Fm)=>(λ(_:Unit)=>dE (eb I u) λA=>dE (k0 n w A) λf=>if(eE f 0) then(some (.ret f))else(some ((.next ()):fZ Unit Int)))) l 0 ()) _=_
      rw[Is (E:=λx y=>k0 n x y) (e:=Fm.EM) l 0 VW (λx r y t=>by
       have m1:=ep Fm.aiK r;have m2:=ep Fm.aiK t
       exact ih x y VW VW VW (a3 x r) (Z y t) (K x r) (M y t)),List.drop_zero]
      by_cases Q:fk (List.zipWith Fm.EM l I)=0
      ·rw[dO Q,Q];rfl
      ·rw[dI Q];rfl
     ·rw[dI C,dO C];rfl
   ·show(if(eE k k') then j true else dE (fh FU s B) λR=>j (mS R))=_
    by_cases D:k=k'
    ·have S:¬eE k k'=true:=by rw[eo];simpa using D
     rw[dI S,iD VW,dF];exact W _ (by rw[Rl];simp[D])
    ·have S:eE k k'=true:=by rw[eo];exact D
     rw[dO S];exact W _ (by simp[D])
def Hg.nmF{g:List Ty}{f:Fm}(h:Hg g f)(hg:g.length<=1000000):TM f:=TM.of f h.aiK h.ok (h.ty.aiO _ (by have:=h.aiK;omega))
theorem HI{g f:List Ty}{a b:Fm}(c:Hg g a)(d:Hg f b)(h:g.length<=1000000)(i:f.length<=1000000):BM a b=a.EM b:=by
 have j:=c.wt;have k:=d.wt
 have e:jQ a b=some (a.EM b):=by
  unfold jQ;rw[kg VW,c.err,dF,dI nz,kg VW,d.err,dF,dI nz,Jg FU a b (by rw[fD];have:=c.aiK;omega) c.aiK d.aiK c.ok d.ok (c.nmF h) (d.nmF i)];rfl
 unfold BM;rw[e];rfl
def zF(a b:Tm):Prop:=a.ok=true/\b.ok=true/\∃c,mv a c/\mv b c
theorem zF.refl{a:Tm}(h:a.ok=true):zF a a:=⟨h,h,a,.refl a,.refl a⟩
def zF.symm{a b:Tm}(h:zF a b):zF b a:=⟨h.2.1,h.1,let⟨c,p,q⟩:=h.2.2;⟨c,q,p⟩⟩
def zF.trans{a b c:Tm}(h:zF a b)(d:zF b c):zF a c:=by
 obtain⟨f,i,x,j,k⟩:=h;obtain⟨_,l,y,n,o⟩:=d;obtain⟨w,q,r⟩:=k.meet y i n;exact⟨f,l,w,j.trans q,o.trans r⟩
def zF.star{a b:Tm}(c:a.ok=true)(h:mv a b):zF a b:=⟨c,h.ok c,b,h,.refl b⟩
def mv.up{t u:Tm}(h:mv t u):t.ok=true->∀f c:Int,0<=f->0<=c->mv (t.up f c) (u.up f c):=by
 induction h with
 |refl t=>intro _ f c _ _;exact .refl _|step a _ ih=>intro b f c d i;exact .step (a.up b f c d i) (ih (a.ok b) f c d i)
def mv.G4{t u:Tm}(h:mv t u){x:Tm}(a:x.ok=true):t.ok=true->∀n:Int,0<=n->mv (Tm.fK n t x) (Tm.fK n u x):=by
 induction h with
 |refl t=>intro _ n _;exact .refl _|step b _ ih=>intro c n hn;exact .step (b.fK (kr.refl x a) a c n hn) (ih (b.ok c) n hn)
def mv.afW{x y:Tm}(h:mv x y){t:Tm}(a:t.ok=true):x.ok=true->∀n:Int,0<=n->mv (Tm.fK n t x) (Tm.fK n t y):=by
 induction h with
 |refl t=>intro _ n _;exact .refl _|step b _ ih=>intro c n hn;exact .step ((kr.refl t a).fK b c a n hn) (ih (b.ok c) n hn)
def zF.up{a b:Tm}(h:zF a b){f c:Int}(d:0<=f)(i:0<=c):zF (a.up f c) (b.up f c):=by
 obtain⟨j,k,x,l,n⟩:=h;exact⟨by rw[Tm.IC a f c d i];exact j,by rw[Tm.IC b f c d i];exact k,_,l.up j f c d i,n.up k f c d i⟩
def zF.fK{a b x y:Tm}(h:zF a b)(q:zF x y){n:Int}(hn:0<=n):zF (Tm.fK n a x) (Tm.fK n b y):=by
 obtain⟨f,i,c,l,o⟩:=h;obtain⟨j,k,d,d1,d2⟩:=q;refine⟨Tm.LN x j a n hn f,Tm.LN y k b n hn i,Tm.fK n c d,?_,?_⟩
 ·exact(l.G4 j f n hn).trans (d1.afW (l.ok f) j n hn)
 ·exact(o.G4 k i n hn).trans (d2.afW (o.ok i) k n hn)
def mW(e:Int):Prop:=e=3\/e=4\/e=5
def Lj{a p:Tm}{n:Int}(h:a.norm 1000 0=(p,n,0))(b:a.ok=true):p.nf=true/\mv a p:=⟨(Qx 1000 0 a p n h).1,KF 1000 0 a p n b h⟩
def Q9{a b:Tm}(h:zF a b):uo a b=0\/mW (uo a b):=by
 by_cases i:a=b
 ·rw[i,KQ];exact .inl rfl
 ·rw[RD i];obtain⟨k,q,c,r,t⟩:=h;have u:=DL 1000 0 a;have v:=DL 1000 0 b
  by_cases d:(a.norm 1000 0).2.2=0
  ·rw[dI (λh=>h d)]
   by_cases f:(b.norm 1000 0).2.2=0
   ·rw[dI (λh=>h f)];obtain⟨p,n,e,s⟩:∃p n e,a.norm 1000 0=(p,n,e):=⟨_,_,_,rfl⟩;obtain⟨B,n',x,j⟩:∃p n e,b.norm 1000 0=(p,n,e):=⟨_,_,_,rfl⟩;rw[s] at d|-;rw[j] at f|-;have d:e=0:=d;have f:x=0:=f;subst d;subst f;obtain⟨n1,s1⟩:=Lj s k;obtain⟨n2,s2⟩:=Lj j q;obtain⟨w,y,A⟩:=s1.meet c k r;obtain⟨w',l,o⟩:=s2.meet c q t;have:=y.nf n1;subst this;have:=l.nf n2;subst this;have:w=w':=mv.unique (r.ok k) A o n1 n2;rw[dO this];exact .inl rfl
   ·rw[dO f];rcases v with h|h|h
    ·exact absurd h f
    ·exact .inr (.inr (.inl h))
    ·exact .inr (.inr (.inr h))
  ·rw[dO d];rcases u with h|h|h
   ·exact absurd h d
   ·exact .inr (.inr (.inl h))
   ·exact .inr (.inr (.inr h))
inductive rO:Fm->Fm->Prop
 |eq {a a' b b'}:zF a a'->zF b b'->rO (.mk 1 .z [a,b] []) (.mk 1 .z [a',b'] [])|two {k a a' b b'}:rO a a'->rO b b'->rO (.mk k .z [] [a,b]) (.mk k .z [] [a',b'])|q {k s a a'}:rO a a'->rO (.mk k s [] [a]) (.mk k s [] [a'])
theorem rO.refl{g:List Ty}{f:Fm}(h:ia g f):rO f f:=by
 induction h with
 |eq c d=>exact .eq (.refl c.ok) (.refl d.ok)|two _ _ _ a b=>exact .two a b|q _ _ _ ih=>exact .q ih
def rO.symm{a b:Fm}(h:rO a b):rO b a:=by
 induction h with
 |eq f i=>exact .eq f.symm i.symm|two _ _ c d=>exact .two c d|q _ ih=>exact .q ih
def rO.trans{a b:Fm}(h:rO a b):∀{c:Fm},rO b c->rO a c:=by
 induction h with
 |eq k l=>intro c h;cases h with|eq d f=>exact .eq (k.trans d) (l.trans f)
 |two _ _ i j=>intro c h;cases h with|two d f=>exact .two (i d) (j f)
 |q _ ih=>intro c h;cases h with|q d=>exact .q (ih d)
def rO.up{a b:Fm}(h:rO a b):∀{f c:Int},0<=f->0<=c->rO (a.up f c) (b.up f c):=by
 induction h with
 |eq n o=>intro f c i d;rw[Fm.e9,Fm.e9];exact .eq (n.up i d) (o.up i d)|@two k _ _ _ _ _ _ j l=>intro f c i d;have:=tW k;rw[Fm.e9,Fm.e9];exact .two (j VW d) (l VW d)
 |@q k _ _ _ _ ih=>intro f c i d;have:=tW k;rw[Fm.e9,Fm.e9];exact .q (ih VW d)
def rO.fK{a b:Fm}(h:rO a b){x y:Tm}(c:zF x y):∀{n:Int},0<=n->rO (Fm.fK n a x) (Fm.fK n b y):=by
 induction h with
 |eq i j=>intro n hn;rw[Fm.eG,Fm.eG];exact .eq (i.fK c hn) (j.fK c hn)|@two k _ _ _ _ _ _ d f=>intro n hn;have:=tW k;rw[Fm.eG,Fm.eG];exact .two (d VW) (f VW)
 |@q k _ _ _ _ ih=>intro n hn;have:=tW k;rw[Fm.eG,Fm.eG];exact .q (ih VW)
def y9:∀{l:List Int},(∀e∈l,e=0\/mW e)->fk l=0\/mW (fk l)
 |[],_=>.inl rfl|e::l,h=>by
  rw[fk]
  by_cases he:e=0
  ·rw[dO he];exact y9 λx a=>h x (by simp[a])
  ·rw[dI he];exact .inr ((h e aaF).resolve_left he)
def rO.EM{a b:Fm}(h:rO a b):a.EM b=0\/mW (a.EM b):=by
 have hs:∀(k:Int) (s:Ty),¬(k≠k\/s.kV s=false):=λk s h=>by
  rcases h with h|h
  ·exact h rfl
  ·rw[(Ty.kO s s).2 rfl] at h;cases h
 induction h with
 |@eq a c b d o r=>
  rw[Fm.LL,dI (hs _ _)]
  have f:=y9 (l:=[uo a c,uo b d]) (λe he=>by
   simp only[lS,vG,ss] at he;rcases he with rfl|rfl
   ·exact Q9 o
   ·exact Q9 r)
  show(if fk [uo a c,uo b d]≠0 then fk [uo a c,uo b d] else fk [])=0\/_
  by_cases i:fk [uo a c,uo b d]=0
  ·rw[dI (λh=>h i)];exact .inl rfl
  ·show _\/mW (if fk [uo a c,uo b d]≠0 then fk [uo a c,uo b d] else fk []);rw[dO i];exact .inr (f.resolve_left i)
 |@two k a c b d _ _ j n=>
  have f:=y9 (l:=[a.EM c,b.EM d]) (λe he=>by
   simp only[lS,vG,ss] at he;rcases he with rfl|rfl
   ·exact j
   ·exact n)
  rw[Fm.LL,dI (hs _ _)];exact f
 |@q k s a c _ ih=>
  have f:=y9 (l:=[a.EM c]) (λe he=>by
   simp only[lS,vG,ss] at he
   rw[he];exact ih)
  rw[Fm.LL,dI (hs _ _)];exact f
def fin(f:Fm)(m:Nat):Nat:=if f.has then m else 0
def jW{r:PR}{f:Fm}{m:Nat}(h:wD r=.inl (f,m)):∃a,r=.inl (f,a)/\f.err=0/\m=fin f a:=by
 cases r with
 |inr e=>cases h
 |inl p=>
  obtain⟨f0,a⟩:=p
  by_cases b:f0.err=0
  ·rw[Lx b] at h;obtain⟨rfl,rfl⟩:=iE (xN h);exact⟨a,rfl,b,rfl⟩
  ·grind[QB]
def hY{r:PR}{k:Fm->Nat->PR}{p:Fm×Nat}(h:pbind r k=.inl p):∃f m,r=.inl (f,m)/\k f m=.inl p:=by
 cases r with
 |inr e=>cases h
 |inl q=>exact⟨q.1,q.2,rfl,h⟩
theorem kJ{e:Int}{r:PR}{p:Fm×Nat}(h:kc e r=.inl p):e=0/\r=.inl p:=by grind[gp,iP]
def mN{c:Prop}[Decidable c]{e:Int}{r:PR}{p:Fm×Nat}(h:wC c e r=.inl p):¬c/\r=.inl p:=by grind[jD,jY]
def wH{r:PR}{k:Int}{f:Fm}{m:Nat}(h:E0 r k=.inl (f,m)):r=.inl (f,m)/\f.aiI=k:=by
 obtain⟨f0,a,rfl,b⟩:=hY h
 grind
theorem ya{F:Fm}{t:Tm}(h:(ld F t).2=0):ld F t=(Fm.fK 0 F t,0)/\(Fm.fK 0 F t).aiK<=4096:=by grind[lC]
def Bn{r:PR}{F:Fm}{t:Tm}{f:Fm}{m:Nat}(h:B1 r F t=.inl (f,m)):r=.inl (f,m)/\(Fm.fK 0 F t).aiK<=4096/\BM (Fm.fK 0 F t) f=0:=by
 obtain⟨f0,a,rfl,b⟩:=hY h
 grind[kJ,ya]
inductive Dv (L:List Fm):List Ty->List Fm->Pf->Fm->Nat->Prop
 |hyp {g hs i f}:0<=i->i<(hs.length:Int)->hs[hs.length-1-i.toNat]?=some f->Hg g f->Dv L g hs (.mk 1 i .z [] [] []) f 0|Mo {g hs i f}:0<=i->L[i.toNat]?=some f->Hg [] f->Dv L g hs (.mk 2 i .z [] [] []) f 0|NV {g hs a b x y m n}:Dv L g hs a x m->Dv L g hs b y n->Hg g (.mk 2 .z [] [x,y])->Dv L g hs (.mk 3 0 .z [] [] [a,b]) (.mk 2 .z [] [x,y]) (fin (.mk 2 .z [] [x,y]) (m|||n))|ahv {g hs a x y m}:Dv L g hs a (.mk 2 .z [] [x,y]) m->Hg g x->Dv L g hs (.mk 4 0 .z [] [] [a]) x (fin x m)|ahC {g hs a x y m}:Dv L g hs a (.mk 2 .z [] [x,y]) m->Hg g y->Dv L g hs (.mk 5 0 .z [] [] [a]) y (fin y m)|UL {g hs F a y m}:Hg g F->hs.length+1<=16->Dv L g (hs++[F]) a y m->Hg g (.mk 3 .z [] [F,y])->Dv L g hs (.mk 6 0 .z [] [F] [a]) (.mk 3 .z [] [F,y]) (fin (.mk 3 .z [] [F,y]) m)|U' {g hs a b x y f m n}:Dv L g hs a (.mk 3 .z [] [x,y]) m->Dv L g hs b f n->Hg g x->Hg g f->x.EM f=0->Hg g y->Dv L g hs (.mk 7 0 .z [] [] [a,b]) y (fin y (m|||n))|all {g hs k k' s a f m}:(k=8/\k'=4\/k=12/\k'=6/\m.testBit 0=false)->s.err=0->g.length+1<=16->Dv L (g++[s]) (hs.map (Fm.up 0 1)) a f m->Hg g (.mk k' s [] [f])->Dv L g hs (.mk k 0 s [] [] [a]) (.mk k' s [] [f]) (fin (.mk k' s [] [f]) (m/2))|atE {g hs k k' t s a x m u}:(k=9/\k'=4/\u=m|||rB t\/k=13/\k'=6/\u=m)->dQ g t s->t.err=0->Dv L g hs a (.mk k' s [] [x]) m->Hg (g++[s]) x->(Fm.fK 0 x t).aiK<=4096->Dv L g hs (.mk k 0 .z [t] [] [a]) (Fm.fK 0 x t) (fin (Fm.fK 0 x t) u)|ex {g hs k k' t s a x f m u}:(k=10/\k'=5/\u=m|||rB t\/k=14/\k'=7/\u=m)->Hg g (.mk k' s [] [x])->dQ g t s->t.err=0->Hg (g++[s]) x->Dv L g hs a f m->Hg g f->(Fm.fK 0 x t).aiK<=4096->(Fm.fK 0 x t).EM f=0->Dv L g hs (.mk k 0 .z [t] [.mk k' s [] [x]] [a]) (.mk k' s [] [x]) (fin (.mk k' s [] [x]) u)|opn {g hs k k' s a b x f m n}:(k=11/\k'=5\/k=15/\k'=7/\n.testBit 0=false)->Dv L g hs a (.mk k' s [] [x]) m->s.err=0->g.length+1<=16->hs.length+1<=16->Hg (g++[s]) x->Dv L (g++[s]) (hs.map (Fm.up 0 1)++[x]) b f n->Hg (g++[s]) f->(yh f).2=0->Hg g (yh f).1->Dv L g hs (.mk k 0 .z [] [] [a,b]) (yh f).1 (fin (yh f).1 (m|||n/2))|ind {g hs t F a b x y m n}:Hg (g++[.nat]) F->dQ g t .nat->t.err=0->Dv L g hs a x m->Hg g x->(Fm.fK 0 F iF).aiK<=4096->(Fm.fK 0 F iF).EM x=0->g.length+1<=16->hs.length+1<=16->Dv L (g++[.nat]) (hs.map (Fm.up 0 1)++[F]) b y n->Hg (g++[.nat]) y->(Fm.fK 0 (F.up 1 1) (gK v0)).aiK<=4096->(Fm.fK 0 (F.up 1 1) (gK v0)).EM y=0->(Fm.fK 0 F t).aiK<=4096->Dv L g hs (.mk 16 0 .z [t] [F] [a,b]) (Fm.fK 0 F t) (fin (Fm.fK 0 F t) ((rB t|||m)|||n/2))|lists {g hs t F a b x y m n}:Hg (g++[.ir]) F->dQ g t .ir->t.err=0->Dv L g hs a x m->Hg g x->(Fm.fK 0 F (.mk 7 0 .z [])).aiK<=4096->(Fm.fK 0 F (.mk 7 0 .z [])).EM x=0->g.length+2<=16->hs.length+1<=16->Dv L (g++[.nat]++[.ir]) (hs.map (Fm.up 0 2)++[F.up 1 1]) b y n->Hg (g++[.nat]++[.ir]) y->(Fm.fK 0 (F.up 1 2) (.mk 8 0 .z [v1,v0])).aiK<=4096->(Fm.fK 0 (F.up 1 2) (.mk 8 0 .z [v1,v0])).EM y=0->(Fm.fK 0 F t).aiK<=4096->Dv L g hs (.mk 17 0 .z [t] [F] [a,b]) (Fm.fK 0 F t) (fin (Fm.fK 0 F t) ((rB t|||m)|||n/4))|refl {g hs t}:dQ g t .nat->t.err=0->Hg g (.mk 1 .z [t,t] [])->Dv L g hs (.mk 18 0 .z [t] [] []) (.mk 1 .z [t,t] []) 0|subst {g hs F a b t u f m n}:Hg (g++[.nat]) F->Dv L g hs a (.mk 1 .z [t,u] []) m->dQ g t .nat->dQ g u .nat->t.err=0->u.err=0->Dv L g hs b f n->Hg g f->(Fm.fK 0 F t).aiK<=4096->(Fm.fK 0 F t).EM f=0->(Fm.fK 0 F u).aiK<=4096->Dv L g hs (.mk 19 0 .z [] [F] [a,b]) (Fm.fK 0 F u) (fin (Fm.fK 0 F u) n)|choice {g hs a s u y m}:Dv L g hs a (.mk 4 s [] [.mk 5 u [] [y]]) m->s.err=0->u.err=0->Hg (g++[s]++[u]) y->(Ty.fn s u).err=0->(Fm.fK 0 (y.up 2 1) (eF v1 v0)).aiK<=4096->Hg g (.mk 5 (.fn s u) [] [.mk 4 s [] [Fm.fK 0 (y.up 2 1) (eF v1 v0)]])->Dv L g hs (.mk 20 0 .z [] [] [a]) (.mk 5 (.fn s u) [] [.mk 4 s [] [Fm.fK 0 (y.up 2 1) (eF v1 v0)]]) (fin (.mk 5 (.fn s u) [] [.mk 4 s [] [Fm.fK 0 (y.up 2 1) (eF v1 v0)]]) m)
def Ic(f:Fm):fin f 0=0:=by grind[fin]
def CD{g c:List Ty}{a b:Fm}(d:Hg g a)(f:Hg c b)(i:g.length<=1000000)(j:c.length<=1000000)(h:BM a b=0):a.EM b=0:=by grind[HI]
def uu{g:List Ty}{s:Ty}{F:Fm}{t:Tm}(hF:ia (g++[s]) F)(a:dQ g t s)(hn:(Fm.fK 0 F t).aiK<=4096):Hg g (Fm.fK 0 F t):=⟨Fm.na (hF.put a).ok hn,hF.put a⟩
def Hg.XK{g:List Ty}{F:Fm}(h:Hg (g++[.nat]) F):Hg (g++[.nat]++[.nat]) (F.up 1 1):=⟨C_ h.err VW VW,by have:=h.ty.up g [.nat] [.nat] rfl;simpa using this⟩
def Hg.Zp{g:List Ty}{F:Fm}(h:Hg (g++[.ir]) F):Hg (g++[.nat]++[.ir]++[.ir]) (F.up 1 2):=⟨C_ h.err VW VW,by have:=h.ty.up g [.ir] [.nat,.ir] rfl;simpa using this⟩
def Hg.upl{g:List Ty}{F:Fm}(h:Hg (g++[.ir]) F):Hg (g++[.nat]++[.ir]) (F.up 1 1):=⟨C_ h.err VW VW,by have:=h.ty.up g [.ir] [.nat] rfl;simpa using this⟩
def EL.An{L:List Fm}{g:List Ty}{hs:List Fm}(h:EL L ⟨g,hs⟩){s:Ty}(a:s.err=0)(hn:g.length+1<=16):EL L ⟨g++[s],hs.map (Fm.up 0 1)⟩:=h.below (l:=[s]) (λx b=>by rw[E'.1 b];exact a) hn
def EL.VG{L:List Fm}{g:List Ty}{hs:List Fm}(h:EL L ⟨g,hs⟩)(hn:g.length+2<=16):EL L ⟨g++[.nat]++[.ir],hs.map (Fm.up 0 2)⟩:=by
 have:=h.below (l:=[.nat,.ir]) (λx hx=>by
  rcases lS.1 hx with rfl|hx
  ·exact Ty.fb
  ·rw[E'.1 hx];exact Ty.mo) hn
 grind
def Ay{F:Fm}(hF:F.err=0){g:List Ty}(a:im g)(h:F.va g=0):Hg g F:=⟨hF,rn F (Fm.gZ hF).1 g a h⟩
def Dv.of{L:List Fm}{P:Pf}(hP:AA P):∀(g:List Ty) (hs:List Fm) (f:Fm) (m:Nat),EL L ⟨g,hs⟩->P.inf L g hs=.inl (f,m)->Dv L g hs P f m/\Hg g f:=by
 induction hP with
 |@hyp i hi=>
  intro g hs f m d h;have G:im g:=d.ctx;rw[Pf.jw,Vx] at h;obtain⟨M,o,he,c⟩:=jW h;rw[c];clear h c;have h:=o;clear o;obtain⟨j,H⟩:=mN h;obtain⟨V,rfl⟩:=iE (xN H)
  have Q:hs.length-1-i.toNat<hs.length:=VW
  rw[O4,qL Q] at V;have V:hs[hs.length-1-i.toNat]=f:=V;have B:Hg g f:=d.aiP f (by rw[<-V];exact Es Q);rw[Ic];exact⟨.hyp hi VW (by rw[qL Q,V]) B,B⟩
 |@Mo i hi=>
  intro g hs f m d h;have G:im g:=d.ctx;rw[Pf.jw,ZL] at h;obtain⟨M,o,he,c⟩:=jW h;rw[c];clear h c;have h:=o;clear o;obtain⟨j,H⟩:=mN h;obtain⟨V,rfl⟩:=iE (xN H)
  have Q:i.toNat<L.length:=VW
  rw[O4,qL Q] at V;have V:L[i.toNat]=f:=V;have B:Hg [] f:=d.Mo f (by rw[<-V];exact Es Q);rw[Ic];exact⟨.Mo hi (by rw[qL Q,V]) B,he,by simpa using B.ty.front g⟩
 |@NV a b _ _ l I=>
  intro g hs f m d h;have G:im g:=d.ctx;rw[Pf.jw,O1] at h;obtain⟨M,o,he,c⟩:=jW h;rw[c];clear h c;have h:=o;clear o;obtain⟨x,n1,j,h⟩:=hY h;obtain⟨y,n2,H,h⟩:=hY h;obtain⟨rfl,rfl⟩:=iE (xN h);obtain⟨C,w⟩:=l g hs x n1 d j;obtain⟨T,tb⟩:=I g hs y n2 d H;have B:Hg g (.mk 2 .z [] [x,y]):=⟨he,.two (.inl rfl) w.ty tb.ty⟩;exact⟨.NV C T B,B⟩
 |@and k a A _ l=>
  intro g hs f m d h;have G:im g:=d.ctx;rcases A with rfl|rfl
  ·rw[Pf.jw,O0] at h;obtain⟨M,o,he,c⟩:=jW h;rw[c];clear h c;have h:=o;clear o;obtain⟨x,n1,j,h⟩:=hY h;obtain⟨j,A⟩:=wH j;obtain⟨rfl,rfl⟩:=iE (xN h);obtain⟨C,w⟩:=l g hs x n1 d j;obtain⟨x,y,rfl,R,W⟩:=w.ty.KG A (.inl rfl);exact⟨.ahv C ⟨he,R⟩,he,R⟩
  ·rw[Pf.jw,Qc] at h;obtain⟨M,o,he,c⟩:=jW h;rw[c];clear h c;have h:=o;clear o;obtain⟨x,n1,j,h⟩:=hY h;obtain⟨j,A⟩:=wH j;obtain⟨rfl,rfl⟩:=iE (xN h);obtain⟨C,w⟩:=l g hs x n1 d j;obtain⟨x,y,rfl,R,W⟩:=w.ty.KG A (.inl rfl);exact⟨.ahC C ⟨he,W⟩,he,W⟩
 |@UL F a hF _ l=>
  intro g hs f m d h;have G:im g:=d.ctx;rw[Pf.jw,VB] at h;obtain⟨M,o,he,c⟩:=jW h;rw[c];clear h c;have h:=o;clear o;obtain⟨K,h⟩:=kJ h;obtain⟨hn,h⟩:=mN h;obtain⟨y,n1,j,h⟩:=hY h;obtain⟨rfl,rfl⟩:=iE (xN h);have r:=Ay hF G K;obtain⟨C,w⟩:=l g _ y n1 (d.with r (by show hs.length+1<=16;omega)) j;have B:Hg g (.mk 3 .z [] [F,y]):=⟨he,.two (.inr rfl) r.ty w.ty⟩;exact⟨.UL r VW C B,B⟩
 |@U' a b _ _ l I=>
  intro g hs f m d h;have G:im g:=d.ctx;have U:=d.nv;have U:g.length<=16:=U;rw[Pf.jw,T1] at h;obtain⟨M,o,he,c⟩:=jW h;rw[c];clear h c;have h:=o;clear o;obtain⟨x,n1,j,h⟩:=hY h;obtain⟨j,A⟩:=wH j;obtain⟨z,n2,H,h⟩:=hY h;obtain⟨hm,h⟩:=kJ h;obtain⟨rfl,rfl⟩:=iE (xN h);obtain⟨C,w⟩:=l g hs x n1 d j;obtain⟨T,tb⟩:=I g hs z n2 d H;obtain⟨x,y,rfl,R,W⟩:=w.ty.KG A (.inr rfl);have D:=w.sub (x:=x) aaF R;exact⟨.U' C T D tb (CD D tb VW VW hm) ⟨he,W⟩,he,W⟩
 |@all k s a A v _ l=>
  intro g hs f m d h;have G:im g:=d.ctx;rcases A with rfl|rfl
  ·rw[Pf.jw,I0] at h;obtain⟨M,o,he,c⟩:=jW h;rw[c];clear h c;have h:=o;clear o;obtain⟨hn,h⟩:=mN h;obtain⟨x,n1,j,h⟩:=hY h;obtain⟨rfl,rfl⟩:=iE (xN h);obtain⟨C,w⟩:=l _ _ x n1 (d.An v VW) j;have B:Hg g (.mk 4 s [] [x]):=⟨he,.q (.inl rfl) v w.ty⟩;exact⟨.all (.inl ⟨rfl,rfl⟩) v VW C B,B⟩
  ·rw[Pf.jw,Rv] at h;obtain⟨M,o,he,c⟩:=jW h;rw[c];clear h c;have h:=o;clear o;obtain⟨hn,h⟩:=mN h;obtain⟨x,n1,j,h⟩:=hY h;obtain⟨hb,h⟩:=mN h;obtain⟨rfl,rfl⟩:=iE (xN h);obtain⟨C,w⟩:=l _ _ x n1 (d.An v VW) j;have B:Hg g (.mk 6 s [] [x]):=⟨he,.q (.inr (.inr (.inl rfl))) v w.ty⟩;exact⟨.all (.inr ⟨rfl,rfl,by simpa using hb⟩) v VW C B,B⟩
 |@atE k t a A K _ l=>
  intro g hs f m d h;have G:im g:=d.ctx
  have key:∀(k':Int) (f:Fm) (m:Nat),(k'=4\/k'=6)->∀u:Nat->Nat,(kc (t.ty g).2 (pbind (E0 (a.inf L g hs) k') λa m=>wC ((t.ty g).1.kV a.dM=false) 7 (kc (ld (a.aiJ.getD 0 jB) t).2 (.inl ((ld (a.aiJ.getD 0 jB) t).1,u m)))))=.inl (f,m)->∃s x n,dQ g t s/\Dv L g hs a (.mk k' s [] [x]) n/\Hg (g++[s]) x/\(Fm.fK 0 x t).aiK<=4096/\f=Fm.fK 0 x t/\m=u n:=by
   intro k' f m ak u h;obtain⟨af,h⟩:=kJ h;obtain⟨x,n1,j,h⟩:=hY h;obtain⟨j,A⟩:=wH j;obtain⟨X,h⟩:=mN h;obtain⟨hp,h⟩:=kJ h;obtain⟨rfl,rfl⟩:=iE (xN h);obtain⟨C,w⟩:=l g hs x n1 d j;obtain⟨s,y,rfl,v,W⟩:=w.ty.vV A VW;have ah:=w.sub (x:=y) aaF W;obtain⟨Y,N⟩:=ya hp;rcases wh K G with⟨e,he,q1,_⟩|⟨s1,q1,O,an⟩
   ·exact absurd (q1.symm.trans af) he
   ·have q1:t.ty g=(s1,0):=q1;rw[q1] at X;have:s1=s:=(Ty.kO _ _).1 (by simpa using X);subst this;have Y:ld y t=(Fm.fK 0 y t,0):=Y;refine⟨s1,y,n1,O,C,ah,N,?_,rfl⟩;show(ld y t).1=_;rw[Y]
  rcases A with rfl|rfl
  ·rw[Pf.jw,V5] at h;obtain⟨M,o,he,c⟩:=jW h;rw[c];clear h c;have h:=o;clear o;obtain⟨s,x,n,q1,q2,q3,q4,rfl,rfl⟩:=key 4 _ _ (.inl rfl) (λm=>m|||rB t) h;exact⟨.atE (.inl ⟨rfl,rfl,rfl⟩) q1 K q2 q3 q4,uu q3.ty q1 q4⟩
  ·rw[Pf.jw,U1] at h;obtain⟨M,o,he,c⟩:=jW h;rw[c];obtain⟨s,x,n,q1,q2,q3,q4,rfl,rfl⟩:=key 6 _ _ (.inr rfl) (λm=>m) o;exact⟨.atE (.inr ⟨rfl,rfl,rfl⟩) q1 K q2 q3 q4,uu q3.ty q1 q4⟩
 |@ex k t F a A K hF _ l=>
  intro g hs f m d h;have G:im g:=d.ctx;have U:g.length<=16:=d.nv
  have key:∀(k':Int) (f:Fm) (m:Nat),(k'=5\/k'=7)->∀u:Nat->Nat,(kc (F.va g) (wC (F.aiI≠k') 10 (kc (t.ty g).2 (wC ((t.ty g).1.kV F.dM=false) 7 (pbind (B1 (a.inf L g hs) (F.aiJ.getD 0 jB) t) λ_ m=>.inl (F,u m))))))=.inl (f,m)->∃s x y n,F=.mk k' s [] [x]/\Hg g F/\dQ g t s/\Hg (g++[s]) x/\Dv L g hs a y n/\Hg g y/\(Fm.fK 0 x t).aiK<=4096/\(Fm.fK 0 x t).EM y=0/\f=F/\m=u n:=by
   intro k' f m ak u h;obtain⟨O,h⟩:=kJ h;obtain⟨A,h⟩:=mN h;obtain⟨af,h⟩:=kJ h;obtain⟨X,h⟩:=mN h;obtain⟨y,n,j,h⟩:=hY h;obtain⟨rfl,rfl⟩:=iE (xN h);have r:=Ay hF G O;obtain⟨s,x,rfl,v,R⟩:=r.ty.vV (vx.1 A) VW;have D:=r.sub (x:=x) aaF R;obtain⟨j,N,hm⟩:=Bn j;obtain⟨C,w⟩:=l g hs y n d j;rcases wh K G with⟨e,he,q1,_⟩|⟨s1,q1,ae,an⟩
   ·exact absurd (q1.symm.trans af) he
   ·rw[q1] at X;have:s1=s:=(Ty.kO _ _).1 (by simpa using X);subst this;exact⟨s1,x,y,n,rfl,r,ae,D,C,w,N,CD (uu R ae N) w VW VW hm,rfl,rfl⟩
  rcases A with rfl|rfl
  ·rw[Pf.jw,Ql] at h;obtain⟨M,o,he,c⟩:=jW h;rw[c];obtain⟨s,x,y,n,rfl,q1,q2,q3,q4,q5,q6,q7,rfl,rfl⟩:=key 5 _ _ (.inl rfl) (λm=>m|||rB t) o;exact⟨.ex (.inl ⟨rfl,rfl,rfl⟩) q1 q2 K q3 q4 q5 q6 q7,q1⟩
  ·rw[Pf.jw,UU] at h;obtain⟨M,o,he,c⟩:=jW h;rw[c];obtain⟨s,x,y,n,rfl,q1,q2,q3,q4,q5,q6,q7,rfl,rfl⟩:=key 7 _ _ (.inr rfl) (λm=>m) o;exact⟨.ex (.inr ⟨rfl,rfl,rfl⟩) q1 q2 K q3 q4 q5 q6 q7,q1⟩
 |@opn k a b A _ _ l I=>
  intro g hs f m d h;have G:im g:=d.ctx;have U:g.length<=16:=d.nv;rcases A with rfl|rfl
  ·rw[Pf.jw,I7] at h;obtain⟨M,o,he,c⟩:=jW h;rw[c];clear h c;obtain⟨x,n1,j,h⟩:=hY o;obtain⟨j,A⟩:=wH j;obtain⟨hn,h⟩:=mN h;obtain⟨y,n2,H,h⟩:=hY h;obtain⟨hw,h⟩:=kJ h;obtain⟨rfl,rfl⟩:=iE (xN h);obtain⟨C,w⟩:=l g hs x n1 d j;obtain⟨s,x,rfl,v,R⟩:=w.ty.vV A (.inr (.inl rfl));have D:=w.sub (x:=x) aaF R;have S:=(d.An v VW).with (f:=x) D (by show(hs.map (Fm.up 0 1)).length+1<=16;simp;omega);obtain⟨T,tb⟩:=I _ _ y n2 S H;have B:Hg g (yh y).1:=⟨he,(Hu tb VW v hw).1⟩;exact⟨.opn (.inl ⟨rfl,rfl⟩) C v VW VW D T tb hw B,B⟩
  ·rw[Pf.jw,Nu] at h;obtain⟨M,o,he,c⟩:=jW h;rw[c];clear h c;obtain⟨x,n1,j,h⟩:=hY o;obtain⟨j,A⟩:=wH j;obtain⟨hn,h⟩:=mN h;obtain⟨y,n2,H,h⟩:=hY h;obtain⟨hw,h⟩:=kJ h;obtain⟨hb,h⟩:=mN h;obtain⟨rfl,rfl⟩:=iE (xN h);obtain⟨C,w⟩:=l g hs x n1 d j;obtain⟨s,x,rfl,v,R⟩:=w.ty.vV A (.inr (.inr (.inr rfl)));have D:=w.sub (x:=x) aaF R;have S:=(d.An v VW).with (f:=x) D (by show(hs.map (Fm.up 0 1)).length+1<=16;simp;omega);obtain⟨T,tb⟩:=I _ _ y n2 S H;have B:Hg g (yh y).1:=⟨he,(Hu tb VW v hw).1⟩;exact⟨.opn (.inr ⟨rfl,rfl,by simpa using hb⟩) C v VW VW D T tb hw B,B⟩
 |@ind k t F a b A K hF _ _ l I=>
  intro g hs f m d h;have G:im g:=d.ctx;have U:g.length<=16:=d.nv;rcases A with rfl|rfl
  ·rw[Pf.jw,Lm] at h;obtain⟨M,o,he,c⟩:=jW h;rw[c];clear h c;obtain⟨O,h⟩:=kJ o;obtain⟨A,h⟩:=kJ h;obtain⟨x,n1,j,h⟩:=hY h;obtain⟨hn,h⟩:=mN h;obtain⟨y,n2,H,h⟩:=hY h;obtain⟨hp,h⟩:=kJ h;obtain⟨Y,N⟩:=ya hp;rw[Y] at h;obtain⟨rfl,rfl⟩:=iE (xN h);have r:=Ay hF G.nat O;have J:dQ g t .nat:=Bh G K (.inl rfl) A;obtain⟨j,a2,a3⟩:=Bn j;obtain⟨H,Z,b3⟩:=Bn H;obtain⟨C,w⟩:=l g hs x n1 d j;have S:=(d.An Ty.fb VW).with (f:=F) r (by show(hs.map (Fm.up 0 1)).length+1<=16;simp;omega);obtain⟨T,tb⟩:=I _ _ y n2 S H;have hz:=uu r.ty (t:=iF) .zero a2;have ai:=uu (Hg.XK r).ty (t:=gK v0) (.succ gy) Z;have B:Hg g (Fm.fK 0 F t):=uu r.ty J N;exact⟨.ind r J K C w a2 (CD hz w VW VW a3) VW VW T tb Z (CD ai tb aby aby b3) N,B⟩
  ·rw[Pf.jw,LI] at h;obtain⟨M,o,he,c⟩:=jW h;rw[c];clear h c;obtain⟨O,h⟩:=kJ o;obtain⟨A,h⟩:=kJ h;obtain⟨x,n1,j,h⟩:=hY h;obtain⟨hn,h⟩:=mN h;obtain⟨y,n2,H,h⟩:=hY h;obtain⟨hp,h⟩:=kJ h;obtain⟨Y,N⟩:=ya hp;rw[Y] at h;obtain⟨rfl,rfl⟩:=iE (xN h);have r:=Ay hF G.ir O;have J:dQ g t .ir:=Bh G K (.inr rfl) A;obtain⟨j,a2,a3⟩:=Bn j;obtain⟨H,Z,b3⟩:=Bn H;obtain⟨C,w⟩:=l g hs x n1 d j;have S:=(d.VG VW).with (f:=F.up 1 1) (Hg.upl r) (by show(hs.map (Fm.up 0 2)).length+1<=16;simp;omega);obtain⟨T,tb⟩:=I _ _ y n2 S H;have hz:=uu r.ty (t:=.mk 7 0 .z []) .nil a2;have ai:=uu (Hg.Zp r).ty (t:=.mk 8 0 .z [v1,v0]) (.cons kW gy) Z;have B:Hg g (Fm.fK 0 F t):=uu r.ty J N;exact⟨.lists r J K C w a2 (CD hz w VW VW a3) VW VW T tb Z (CD ai tb aby aby b3) N,B⟩
 |@refl t K=>
  intro g hs f m d h;have G:im g:=d.ctx;rw[Pf.jw,P5] at h;obtain⟨M,o,he,c⟩:=jW h;rw[c];clear h c;obtain⟨A,h⟩:=kJ o;obtain⟨rfl,rfl⟩:=iE (xN h);have J:dQ g t .nat:=Bh G K (.inl rfl) A;rw[Ic];exact⟨.refl J K ⟨he,.eq J J⟩,he,.eq J J⟩
 |@subst F a b hF _ _ l I=>
  intro g hs f m d h;have G:im g:=d.ctx;have U:g.length<=16:=d.nv;rw[Pf.jw,LZ] at h;obtain⟨M,o,he,c⟩:=jW h;rw[c];clear h c;obtain⟨O,h⟩:=kJ o;obtain⟨x,n1,j,h⟩:=hY h;obtain⟨j,A⟩:=wH j;obtain⟨y,n2,H,h⟩:=hY h;obtain⟨hp,h⟩:=kJ h;obtain⟨Y,N⟩:=ya hp;rw[Y] at h;obtain⟨rfl,rfl⟩:=iE (xN h);have r:=Ay hF G.nat O;obtain⟨C,w⟩:=l g hs x n1 d j;obtain⟨t,u,rfl,K,hu⟩:=w.ty.Ul A;have hn:=w.aiK;rw[Fm.dJ] at hn;simp only[ea] at hn;obtain⟨H,Z,b3⟩:=Bn H;obtain⟨T,tb⟩:=I g hs y n2 d H;have Z:(Fm.fK 0 F t).aiK<=4096:=Z;have b3:BM (Fm.fK 0 F t) y=0:=b3;have N:(Fm.fK 0 F u).aiK<=4096:=N;have B:Hg g (Fm.fK 0 F u):=uu r.ty hu N;show Dv L g hs _ (Fm.fK 0 F u) (fin (Fm.fK 0 F u) n2)/\Hg g (Fm.fK 0 F u);exact⟨.subst r C K hu (Tm.na K.ok VW) (Tm.na hu.ok VW) T tb Z (CD (uu r.ty K Z) tb VW VW b3) N,B⟩
 |@choice a _ l=>
  intro g hs f m d h;have G:im g:=d.ctx;rw[Pf.jw,N4] at h;obtain⟨M,o,he,c⟩:=jW h;rw[c];clear h c;obtain⟨x,n1,j,h⟩:=hY o;obtain⟨j,A⟩:=wH j;obtain⟨h5,h⟩:=mN h;obtain⟨ad,h⟩:=mN h;obtain⟨hp,h⟩:=mN h;obtain⟨Y,N⟩:=ya (vx.1 hp);rw[Y] at h;obtain⟨rfl,rfl⟩:=iE (xN h);obtain⟨C,w⟩:=l g hs x n1 d j;obtain⟨s,x,rfl,v,R⟩:=w.ty.vV A (.inl rfl);have D:=w.sub (x:=x) aaF R;obtain⟨u,y,rfl,ao,W⟩:=R.vV (vx.1 h5) (.inr (.inl rfl));have ah:=D.sub (x:=y) aaF W;have N:(Fm.fK 0 (y.up 2 1) (eF v1 v0)).aiK<=4096:=N;have ad:(Ty.fn s u).err=0:=vx.1 ad
  have aq:ia (g++[.fn s u]++[s]++[u]) (y.up 2 1):=by
   have:=W.up g [s,u] [.fn s u] aaF;simpa using this
  have ar:dQ (g++[.fn s u]++[s]) (eF v1 v0) u:=.app kW gy;have B:Hg g (.mk 5 (.fn s u) [] [.mk 4 s [] [Fm.fK 0 (y.up 2 1) (eF v1 v0)]]):=⟨he,.q (.inr (.inl rfl)) ad (.q (.inl rfl) v (aq.put ar))⟩;exact⟨.choice C v ao ah ad N B,B⟩
def UB(t:Tm):∀f b v:Int,0<=f->0<=b->f+b<=v->(t.up f b).aiQ v=t.aiQ (v-b):=by
 induction t using Tm.ind with
 |h k i s l ih=>
  intro f b v o j q;have r:=iM k;rw[Tm.e9,Tm.eZ,Tm.eZ,pB]
  congr 1
  ·by_cases a:k=1
   ·subst a;simp only[Ae]
    by_cases c:f<=i
    ·rw[dO c]
     by_cases d:i+b=v
     ·rw[dO d,dO VW]
     ·rw[dI d,dI VW]
    ·rw[dI c,dI VW,dI VW]
   ·simp only[a,I8,lG]
  ·refine vE λx n=>?_;rw[ih x n (f+eL k) b (v+eL k) VW j VW,show v+eL k-b=v-b+eL k by omega]
def NS{α:Type}(f g:α->Nat)(c:Nat):∀l:List α,ea (λx=>f x+g x*c) l=ea f l+ea g l*c
 |[]=>by simp[ea]|x::l=>by
  simp only[ea];rw[NS f g c l,CL];omega
def R1(a t:Tm):∀n v:Int,t.ok=true->0<=n->n<=v->(Tm.fK n t a).aiQ v=t.aiQ (v+1)+t.aiQ n*a.aiQ (v-n):=by
 induction t using Tm.ind with
 |h k i s l ih=>
  intro n v d hn q;have r:=iM k
  by_cases c:k=1
  ·subst c;obtain⟨rfl,rfl⟩:=Je d;rw[Tm.eG,dO rfl];unfold Tm.iG;rw[Tm.eZ,Tm.eZ];simp only[Ae,ea,GI]
   by_cases b:i=n
   ·rw[dO b,dI (show¬i=v+1 by omega),dO b,UB a 0 n v VW hn VW];omega
   ·rw[dI b,dI b]
    by_cases f:n<i
    ·rw[dO f,Tm.eZ];simp only[Ae,ea,GI]
     by_cases j:i=v+1
     ·rw[dO j,dO VW];omega
     ·rw[dI j,dI VW];omega
    ·rw[dI f,Tm.eZ];simp only[Ae,ea,GI];rw[dI VW,dI VW];omega
  ·rw[Tm.eG,dI c,Tm.eZ,Tm.eZ,Tm.eZ,pB];simp only[c,I8,lG,xH];rw[<-NS];refine vE λx o=>?_;rw[ih x o (n+eL k) (v+eL k) (Tm.ek d x o) VW VW,show v+eL k-(n+eL k)=v-n by omega,show v+eL k+1=v+1+eL k by omega]
def MO{α:Type}{f:α->Nat}:∀{l:List α},0<ea f l->∃x∈l,0<f x
 |[],h=>by simp[ea] at h
 |x::l,h=>by
  simp only[ea] at h
  by_cases a:0<f x
  ·exact⟨x,aaF,a⟩
  ·obtain⟨y,b,c⟩:=MO (f:=f) (l:=l) VW;exact⟨y,by simp[b],c⟩
def Tm.In(t:Tm)(v:Int):Prop:=0<t.aiQ v
def lR{k i:Int}{s:Ty}{l:List Tm}{x:Tm}{v:Int}(a:eL k=0)(b:x∈l)(h:x.In v):(Tm.mk k i s l).In v:=by
 unfold Tm.In at*;rw[Tm.eZ,a,th];have:=ep (Tm.aiQ v) b;omega
def Di{k i:Int}{s:Ty}{l:List Tm}{v:Int}(a:k≠1)(b:eL k=0)(h:(Tm.mk k i s l).In v):∃x∈l,x.In v:=by
 unfold Tm.In at*;rw[Tm.eZ,b,th,dI (λh=>a h.1),xH] at h;exact MO h
def H6{t:Tm}{v:Int}(q:t.ok=true)(w:t.root=true)(y:0<=v)(h:t.fm.In v):t.In v:=by
 cases Tm.Nd q w with
 |@app i s j u b a=>
  rw[show(Tm.mk 3 i s [.mk 2 j u [b],a]).fm=Tm.fK 0 b a by simp[Tm.fm]] at h;unfold Tm.In at h;rw[R1 a b 0 v (Tm.ek (Tm.ek q (.mk 2 j u [b]) aaF) b aaF) VW y,aa'] at h
  by_cases l:0<b.aiQ (v+1)
  ·refine lR rfl (x:=.mk 2 j u [b]) aaF ?_;unfold Tm.In;rw[Tm.eZ];simp only[ea,show eL 2=1 from rfl];omega
  ·have d:0<a.aiQ v:=by
    rcases afs (a.aiQ v)with h0|h0
    ·rw[h0,Nat.mul_zero] at h;omega
    ·exact h0
   exact lR rfl (x:=a) aaF d
 |@zero k A i s j u b st o=>
  rcases o with⟨rfl,rfl⟩|⟨rfl,rfl⟩
  ·rw[show(Tm.mk 6 i s [b,st,.mk 4 j u []]).fm=b by simp[Tm.fm]] at h;exact lR rfl aaF h
  ·rw[show(Tm.mk 9 i s [b,st,.mk 7 j u []]).fm=b by simp[Tm.fm]] at h;exact lR rfl aaF h
 |@succ i s j u b st n=>
  rw[show(Tm.mk 6 i s [b,st,.mk 5 j u [n]]).fm=.mk 3 0 (.mk 0 []) [.mk 3 0 (.mk 0 []) [st,n],.mk 6 i s [b,st,n]] by simp[Tm.fm,oZ]] at h
  have key:∀x,(x=b\/x=st\/x=n)->x.In v->(Tm.mk 6 i s [b,st,.mk 5 j u [n]]).In v:=by
   intro x c f;rcases c with rfl|rfl|rfl
   ·exact lR rfl (x:=x) aaF f
   ·exact lR rfl (x:=x) aaF f
   ·exact lR rfl (x:=.mk 5 j u [x]) aaF (lR rfl aaF f)
  obtain⟨x,c,l⟩:=Di aak rfl h;simp only[lS,vG,ss] at c;rcases c with rfl|rfl
  ·obtain⟨x,c,d⟩:=Di aak rfl l;simp only[lS,vG,ss] at c;exact key x (.inr c) d
  ·obtain⟨x,c,d⟩:=Di aak rfl l;simp only[lS,vG,ss] at c;exact key x c d
 |@cons i s j u b st p n=>
  rw[show(Tm.mk 9 i s [b,st,.mk 8 j u [p,n]]).fm=.mk 3 0 (.mk 0 []) [.mk 3 0 (.mk 0 []) [.mk 3 0 (.mk 0 []) [st,p],n],.mk 9 i s [b,st,n]] by simp[Tm.fm,oZ]] at h
  have key:∀x,(x=b\/x=st\/x=p\/x=n)->x.In v->(Tm.mk 9 i s [b,st,.mk 8 j u [p,n]]).In v:=by
   intro x c f;rcases c with rfl|rfl|rfl|rfl
   ·exact lR rfl (x:=x) aaF f
   ·exact lR rfl (x:=x) aaF f
   ·exact lR rfl (x:=.mk 8 j u [x,n]) aaF (lR rfl aaF f)
   ·exact lR rfl (x:=.mk 8 j u [p,x]) aaF (lR rfl aaF f)
  obtain⟨x,c,l⟩:=Di aak rfl h;simp only[lS,vG,ss] at c;rcases c with rfl|rfl
  ·obtain⟨x,c,d⟩:=Di aak rfl l;simp only[lS,vG,ss] at c;rcases c with rfl|rfl
   ·obtain⟨x,c,r⟩:=Di aak rfl d;simp only[lS,vG,ss] at c;rcases c with rfl|rfl
    ·exact key _ (.inr (.inl rfl)) r
    ·exact key _ (.inr (.inr (.inl rfl))) r
   ·exact key _ (.inr (.inr (.inr rfl))) d
  ·obtain⟨x,c,d⟩:=Di aak rfl l;simp only[lS,vG,ss] at c;rcases c with rfl|rfl|rfl
   ·exact key _ (.inl rfl) d
   ·exact key _ (.inr (.inl rfl)) d
   ·exact key _ (.inr (.inr (.inr rfl))) d
 |@proj k i s j u a b o=>
  rcases o with rfl|rfl
  ·rw[show(Tm.mk 11 i s [.mk 10 j u [a,b]]).fm=a by simp[Tm.fm]] at h;exact lR rfl (x:=.mk 10 j u [a,b]) aaF (lR rfl aaF h)
  ·rw[show(Tm.mk 12 i s [.mk 10 j u [a,b]]).fm=b by simp[Tm.fm]] at h;exact lR rfl (x:=.mk 10 j u [a,b]) aaF (lR rfl aaF h)
def FF(t:Tm):∀f b v:Int,f<=v->v<f+b->(t.up f b).aiQ v=0:=by
 induction t using Tm.ind with
 |h k i s l ih=>
  intro f b v j n;rw[Tm.e9,Tm.eZ,pB,E8 λx d=>ih x d (f+eL k) b (v+eL k) VW VW]
  by_cases a:k=1
  ·subst a;simp only[Ae]
   by_cases c:f<=i
   ·rw[dO c,dI VW]
   ·rw[dI c,dI VW]
  ·simp only[a,I8,lG]
def Bg{k i:Int}{s:Ty}{l m:List Tm}(v:Int)(h:0<ea (Tm.aiQ (v+eL k)) m->0<ea (Tm.aiQ (v+eL k)) l)(a:(Tm.mk k i s m).In v):(Tm.mk k i s l).In v:=by
 unfold Tm.In at*;rw[Tm.eZ] at a|-
 by_cases b:0<ea (Tm.aiQ (v+eL k)) m
 ·have:=h b;omega
 ·omega
def kr.In{t u:Tm}(h:kr t u):t.ok=true->∀v:Int,0<=v->u.In v->t.In v:=by
 induction h with
 |n0=>intro _ _ _ h;exact h|@n1 k i s a D F o=>
  intro d v l h;refine Bg v (λq=>?_) h;have:=o (Tm.ek d _ aaF) (v+eL k) (by have:=iM k;omega);unfold Tm.In at this;simp only[ea] at q|-;omega
 |@n2 k i s a D b w F y o f=>
  intro d v l h;refine Bg v (λq=>?_) h;have J:=o (Tm.ek d _ aaF) (v+eL k) (by have:=iM k;omega);have A:=f (Tm.ek d _ aaF) (v+eL k) (by have:=iM k;omega);unfold Tm.In at J A;simp only[ea] at q|-;omega
 |@n3 k i s a D b w c H F y I o f r=>
  intro d v l h;refine Bg v (λq=>?_) h;have J:=o (Tm.ek d _ aaF) (v+eL k) (by have:=iM k;omega);have A:=f (Tm.ek d _ aaF) (v+eL k) (by have:=iM k;omega);have B:=r (Tm.ek d _ aaF) (v+eL k) (by have:=iM k;omega);unfold Tm.In at J A B;simp only[ea] at q|-;omega
 |@beta i s j u b w a D y F f o=>
  intro d v l h;have M:=Tm.ek (Tm.ek d (.mk 2 j u [b]) aaF) b aaF;have A:(Tm.mk 3 i s [.mk 2 j u [w],D]).In v:=H6 ((kr.n2 3 i s (.n1 2 j u y) F).ok d) (by simp[Tm.root,Tm.kd]) l (by simpa[Tm.fm] using h);have B:=f M (v+1) VW;have G:=o (Tm.ek d a aaF) v l;refine Bg v (λq=>?_) A;unfold Tm.In at B G;simp only[ea,show eL 3=0 from rfl,th] at q|-;rw[Tm.eZ] at q|-;simp only[ea,show eL 2=1 from rfl] at q|-;omega
 |@IF i s j u c b w y f=>intro d v l h;exact lR rfl (x:=b) aaF (f (Tm.ek d b aaF) v l h)|@Cn i s j u c b w y f=>intro d v l h;exact lR rfl (x:=b) aaF (f (Tm.ek d b aaF) v l h)|@Jn i s j u b w c H n n' y I hn f r C=>
  intro d v l h;have A:(Tm.mk 6 i s [w,H,.mk 5 j u [n']]).In v:=H6 ((kr.n3 6 i s y I (.n1 5 j u hn)).ok d) (by simp[Tm.root,Tm.kd]) l (by simpa[Tm.fm] using h);have B:=f (Tm.ek d b aaF) v l;have G:=r (Tm.ek d c aaF) v l;have K:=C (Tm.ek (Tm.ek d (.mk 5 j u [n]) aaF) n aaF) v l;refine Bg v (λq=>?_) A;unfold Tm.In at B G K;simp only[ea,show eL 6=0 from rfl,th] at q|-;rw[Tm.eZ] at q|-;simp only[ea,show eL 5=0 from rfl,th] at q|-;omega
 |@Ch i s j u b w c H n n' t N y I hn O f r C L=>
  intro d v l h;have A:(Tm.mk 9 i s [w,H,.mk 8 j u [n',N]]).In v:=H6 ((kr.n3 9 i s y I (.n2 8 j u hn O)).ok d) (by simp[Tm.root,Tm.kd]) l (by simpa[Tm.fm] using h);have B:=f (Tm.ek d b aaF) v l;have G:=r (Tm.ek d c aaF) v l;have K:=C (Tm.ek (Tm.ek d (.mk 8 j u [n,t]) aaF) n aaF) v l;have P:=L (Tm.ek (Tm.ek d (.mk 8 j u [n,t]) aaF) t aaF) v l;refine Bg v (λq=>?_) A;unfold Tm.In at B G K P;simp only[ea,show eL 9=0 from rfl,th] at q|-;rw[Tm.eZ] at q|-;simp only[ea,show eL 8=0 from rfl,th] at q|-;omega
 |@fst i s j u b a D F o=>intro d v l h;exact lR rfl (x:=.mk 10 j u [a,b]) aaF (lR rfl (x:=a) aaF (o (Tm.ek (Tm.ek d (.mk 10 j u [a,b]) aaF) a aaF) v l h))|@snd i s j u a b w y f=>intro d v l h;exact lR rfl (x:=.mk 10 j u [a,b]) aaF (lR rfl (x:=b) aaF (f (Tm.ek (Tm.ek d (.mk 10 j u [a,b]) aaF) b aaF) v l h))
def mv.In{t u:Tm}(h:mv t u):t.ok=true->∀v:Int,0<=v->u.In v->t.In v:=by
 induction h with
 |refl t=>intro _ _ _ h;exact h|step a _ ih=>intro b v c h;exact a.In b v c (ih (a.ok b) v c h)
def zF.nf{a x p:Tm}{n:Int}(h:zF a x)(d:x.norm 1000 0=(p,n,0)):mv a p:=by
 obtain⟨l,b,c,f,i⟩:=h;obtain⟨n1,s1⟩:=Lj d b;obtain⟨w,j,k⟩:=s1.meet c b i;have:=j.nf n1;subst this;exact f.trans k
def Nf{x:Tm}{e:Int}(h:(EA x e).2=0):e=0/\∃n,x.norm 1000 0=((EA x e).1,n,0):=by
 by_cases he:e=0
 ·subst he;refine⟨rfl,?_⟩;unfold EA at h|-;simp only[if_true] at h|-;refine⟨(x.norm 1000 0).2.1,?_⟩;obtain⟨p,n,e,a⟩:∃p n e,x.norm 1000 0=(p,n,e):=⟨_,_,_,rfl⟩;rw[a] at h|-;simp only at h|-;rw[h]
 ·rw[AW he] at h;exact absurd h he
def rO.nr{a f:Fm}(h:rO a f):∀e:Int,(f.sN e).2=0->rO a (f.sN e).1/\∀v:Int,0<=v->a.aiQ v=0->(f.sN e).1.aiQ v=0:=by
 induction h with
 |@eq a d b j l n=>
  intro e he;rw[Rq] at he|-;obtain⟨w,n1,q1⟩:=Nf he;obtain⟨A,n2,x⟩:=Nf w;have s1:=l.nf x;have s2:=n.nf q1;refine⟨.eq (.star l.1 s1) (.star n.1 s2),λv i c=>?_⟩;rw[Fm.eZ] at c|-;simp only[ea] at c|-;have t1:=s1.In l.1 v i;have t2:=s2.In n.1 v i;unfold Tm.In at t1 t2;omega
 |@two k a d b j _ _ o r=>
  intro e he;rw[QM] at he|-;have he:(j.sN (d.sN e).2).2=0:=he;obtain⟨y,t2⟩:=r _ he;have t:(d.sN e).2=0:=acF λh=>h (by rw[Fm.Hz j _ h] at he;exact he);obtain⟨u,t1⟩:=o e t;refine⟨.two u y,λv i c=>?_⟩;have:=tW k;rw[Fm.eZ] at c|-;simp only[ea] at c|-;have:=t1 (v+qB k) VW VW;have:=t2 (v+qB k) VW VW;omega
 |@q k s a d _ ih=>
  intro e he;rw[aac] at he|-;obtain⟨u,t1⟩:=ih e he;refine⟨.q u,λv i c=>?_⟩;have:=tW k;rw[Fm.eZ] at c|-;simp only[ea] at c|-;have:=t1 (v+qB k) VW VW;omega
def Tm.YA(t:Tm):∀n:Int,t.aiQ n=0->(t.up (n+1) (-1)).up n 1=t:=by
 induction t using Tm.ind with
 |h k i s l ih=>
  intro n a;rw[Tm.eZ] at a;rw[Tm.e9,Tm.e9,IB]
  congr 1
  ·by_cases b:k=1
   ·subst b;simp only[Ae] at a|-
    have:¬i=n:=λh=>by rw[dO h] at a;omega
    by_cases c:n+1<=i
    ·rw[dO c,dO VW];omega
    ·rw[dI c,dI VW]
   ·simp only[b,I8,lG]
  ·refine map_id' λx d=>?_;have:=ep (Tm.aiQ (n+eL k)) d;have:=ih x d (n+eL k) VW;rw[show n+eL k+1=n+1+eL k by omega] at this;exact this
def Fm.YA(f:Fm):∀n:Int,f.aiQ n=0->(f.up (n+1) (-1)).up n 1=f:=by
 induction f using Fm.ind with
 |h k s ts l ih=>
  intro n b;rw[Fm.eZ] at b;rw[Fm.e9,Fm.e9,IB,IB]
  congr 1
  ·refine map_id' λx a=>?_;have:=ep (Tm.aiQ n) a;exact x.YA n VW
  ·refine map_id' λx a=>?_;have:=ep (Fm.aiQ (n+qB k)) a;have:=ih x a (n+qB k) VW;rw[show n+qB k+1=n+1+qB k by omega] at this;exact this
def Fm.FF(t:Fm):∀f b v:Int,f<=v->v<f+b->(t.up f b).aiQ v=0:=by
 induction t using Fm.ind with
 |h k s ts l ih=>
  intro f b v a c;rw[Fm.e9,Fm.eZ,pB,pB,E8 λx _=>Go.fH.FF x f b v a c,E8 λx d=>ih x d (f+qB k) b (v+qB k) VW VW]
def Fm.Rc{g:List Ty}{f:Fm}(h:ia g f)(x:Tm):∀n:Int,0<=n->Fm.fK n (f.up n 1) x=f:=by
 have key:∀{g:List Ty} {t:Tm} {s:Ty},dQ g t s->∀n:Int,0<=n->Tm.fK n (t.up n 1) x=t:=by
  intro g t s h n hn;have:=Qk x t n n 0 h.ok hn VW VW;rw[Tm.ZC] at this;exact this
 induction h with
 |eq c d=>intro n hn;rw[Fm.e9,Fm.eG];simp[key c n hn,key d n hn]|@two _ k _ _ _ _ _ a b=>intro n hn;have:=tW k;rw[Fm.e9,Fm.eG];simp[a (n+qB k) VW,b (n+qB k) VW]
 |@q _ k _ _ _ _ _ ih=>intro n hn;have:=tW k;rw[Fm.e9,Fm.eG];simp[ih (n+qB k) VW]
def rO.down{g c:List Ty}{a b:Fm}(d:ia g a)(f:ia c b)(h:rO (a.up 0 1) (b.up 0 1)):rO a b:=by
 have:=h.fK (zF.refl (a:=iF) aak) (n:=0) VW
 rwa [Fm.Rc d _ 0 VW,Fm.Rc f _ 0 VW] at this
def abX{g:List Ty}{s:Ty}{f:Fm}(h:Hg (g++[s]) f)(hg:g.length<=1000)(a:(yh f).2=0):rO f ((yh f).1.up 0 1):=by
 unfold yh at a|-
 by_cases c:f.aiQ 0=0
 ·rw[dO c];show rO f ((f.up 1 (-1)).up 0 1);rw[show(f.up 1 (-1)).up 0 1=f from f.YA 0 c];exact .refl h.ty
 ·rw[dI c] at a|-
  by_cases b:(f.sN 0).2≠0
  ·rw[dO b] at a;exact absurd a b
  ·rw[dI b] at a|-;have b:(f.sN 0).2=0:=vx.1 b
   by_cases d:(f.sN 0).1.aiQ 0≠0
   ·rw[dO d] at a;cases a
   ·rw[dI d];show rO f (((f.sN 0).1.up 1 (-1)).up 0 1);rw[show((f.sN 0).1.up 1 (-1)).up 0 1=(f.sN 0).1 from Fm.YA _ 0 (vx.1 d)];exact((rO.refl h.ty).nr 0 b).1
def HQ{α:Type}{f:α->Int->α×Int}:∀(l:List α) (e:Int),(∀x∈l,∀e,e=0\/mW e->(f x e).2=0\/mW (f x e).2)->e=0\/mW e->(ri f l e).2=0\/mW (ri f l e).2
 |[],e,_,he=>he|x::l,e,h,he=>HQ l _ (λy a=>h y (by simp[a])) (h x aaF e he)
def YL(f:Fm):∀e:Int,e=0\/mW e->(f.sN e).2=0\/mW (f.sN e).2:=by
 induction f using Fm.ind with
 |h k s ts l ih=>
  intro e he;rw[Fm.Fw];refine HQ l _ ih (HQ ts e (λx _ e he=>?_) he)
  by_cases a:e=0
  ·unfold EA;rw[dO a];rcases DL 1000 0 x with h|h|h
   ·exact .inl h
   ·exact .inr (.inr (.inl h))
   ·exact .inr (.inr (.inr h))
  ·rw[AW a];exact he
def Zr{g:List Ty}{s:Ty}{f y:Fm}(h:Hg (g++[s]) f)(hg:g.length<=1000)(hs:s.err=0)(j:ia g y)(c:rO f (y.up 0 1)):mW (yh f).2\/(yh f).2=0/\rO (yh f).1 y:=by
 have key:(yh f).2=0->rO (yh f).1 y:=λa=>rO.down (Hu h hg hs a).1 j ((abX h hg a).symm.trans c)
 by_cases a:(yh f).2=0
 ·exact .inr ⟨a,key a⟩
 ·left;unfold yh at a|-
  by_cases d:f.aiQ 0=0
  ·rw[dO d] at a;exact absurd rfl a
  ·rw[dI d] at a|-
   by_cases b:(f.sN 0).2≠0
   ·rw[dO b];exact(YL f 0 (.inl rfl)).resolve_left b
   ·rw[dI b] at a;have b:(f.sN 0).2=0:=vx.1 b
    by_cases i:(f.sN 0).1.aiQ 0≠0
    ·exact absurd ((c.symm.nr 0 b).2 0 VW (y.FF 0 1 0 VW VW)) i
    ·rw[dI i] at a;exact absurd rfl a
def CT(s:Ty):s.kV s=true:=(Ty.kO s s).2 rfl
def vrs(k:Int)(i:Nat):Nat:=if k=8\/k=12 then 1 else if k=11\/k=15\/k=16 then i else if k=17 then 2*i else 0
def mot(k:Int):Nat:=if k=16\/k=17\/k=19 then 1 else 0
mutual
def Pf.aiO(m:Int):Pf->Bool
 |.mk _ _ _ ts fs l=>ts.all (Tm.aiO m)&&fs.all (Fm.aiO m)&&Pf.uB m l
def Pf.uB(m:Int):List Pf->Bool
 |[]=>true|p::l=>p.aiO m&&Pf.uB m l
end
end Go.fH
namespace Go.fH
open Go
section
variable{G G':List Ty} {ψ:Tm->Int->Tm}
def Lu(k:Int)(i:Nat):Nat:=if k=6 then 1 else if k=11\/k=15\/k=16\/k=17 then i else 0
mutual
def Pf.Hm(ψ:Tm->Int->Tm)(η:Nat->Nat->Int->Pf):Nat->Nat->Pf->Pf
 |d,h,.mk k i s ts fs l=>if k=1 then η d h i else .mk k i s (ts.map λt=>ψ t d) (fs.map λf=>f.Hm ψ ((d+mot k:Nat):Int)) (Pf.afm ψ η k 0 d h l)
def Pf.afm(ψ:Tm->Int->Tm)(η:Nat->Nat->Int->Pf)(k:Int):Nat->Nat->Nat->List Pf->List Pf
 |_,_,_,[]=>[]|i,d,h,p::l=>p.Hm ψ η (d+vrs k i) (h+Lu k i)::Pf.afm ψ η k (i+1) d h l
end
def Pf.Ws(P:Pf):Prop:=P.ok=true/\P.small=true
def L1:mW 3:=.inl rfl
def AN:mW 4:=.inr (.inl rfl)
def rO.eq_inv{d:Fm}{a b:Tm}(h:rO d (.mk 1 .z [a,b] [])):∃f i,d=.mk 1 .z [f,i] []/\zF f a/\zF i b:=by
 generalize c:Fm.mk 1 .z [a,b] []=y at h;cases h with
 |eq j k=>simp at c;obtain⟨rfl,rfl⟩:=c;exact⟨_,_,rfl,j,k⟩
 |two=>simp at c
 |q=>simp at c
def rO.Rx{k:Int}{d a b:Fm}(h:rO d (.mk k .z [] [a,b])):∃f i,d=.mk k .z [] [f,i]/\rO f a/\rO i b:=by
 generalize c:Fm.mk k .z [] [a,b]=y at h;cases h with
 |eq=>simp at c
 |two j l=>simp at c;obtain⟨rfl,rfl,rfl⟩:=c;exact⟨_,_,rfl,j,l⟩
 |q=>simp at c
def rO.ZT{k:Int}{s:Ty}{c a:Fm}(h:rO c (.mk k s [] [a])):∃d,c=.mk k s [] [d]/\rO d a:=by
 generalize b:Fm.mk k s [] [a]=y at h;cases h with
 |eq=>simp at b
 |two=>simp at b
 |q f=>simp at b;obtain⟨rfl,rfl,rfl⟩:=b;exact⟨_,rfl,f⟩
end
def By{g:List Ty}{x:Tm}{s:Ty}(h:dQ g x s)(hg:im g)(a:g.length+x.aiK<=1000000):nM x g s.aiI=0:=by
 unfold nM;rw[rm h hg a,dI (λh=>h.2 rfl)]
def Yo{g c:List Ty}{a b:Fm}(d:Hg g a)(f:Hg c b)(i:g.length<=1000000)(j:c.length<=1000000)(h:rO a b):BM a b=0\/mW (BM a b):=by rw[HI d f i j];exact h.EM
end Go.fH
namespace Go.fH
open Go
def Pf.Ws.parts{k i:Int}{s:Ty}{ts:List Tm}{fs:List Fm}{l:List Pf}(h:(Pf.mk k i s ts fs l).Ws):(∀t∈ts,t.err=0)/\(∀f∈fs,f.err=0)/\∀p∈l,p.Ws:=by
 obtain⟨a,b⟩:=h;rw[Pf.gQ] at a;rw[Pf.zX] at b;simp only[gG,kE] at a b;refine⟨λt d=>Tm.na (a.1.1.2 t d) ?_,λf j=>Fm.na (a.1.2 f j) ?_,λp c=>⟨a.2 p c,b.2 p c⟩⟩
 ·grind[S2]
 ·grind[S3]
def X3{g:List Ty}{s:Ty}{F f:Fm}{t:Tm}{m:Nat}(hF:ia (g++[s]) F)(b:dQ g t s)(c:Hg g f)(hg:g.length<=1000000)(d:rO (Fm.fK 0 F t) f):(∃e,mW e/\B1 (.inl (f,m)) F t=.inr e)\/B1 (.inl (f,m)) F t=.inl (f,m):=by
 unfold B1;rw[fN];rcases lC F t with a|⟨hn,a⟩
 ·rw[a];exact .inl ⟨4,AN,rfl⟩
 ·rw[a,gp rfl];rcases Yo (uu hF b hn) c hg hg d with e|e
  ·grind[gp]
  ·rw[iP (by rcases e with e|e|e<;>rw[e]<;>decide)];exact .inl ⟨_,e,rfl⟩
def Q4(F:Fm)(t:Tm)(u:Nat):kc (ld F t).2 (.inl ((ld F t).1,u))=.inr 4\/kc (ld F t).2 (.inl ((ld F t).1,u))=.inl (Fm.fK 0 F t,u):=by
 rcases lC F t with a|⟨_,a⟩
 ·rw[a];exact .inl rfl
 ·rw[a];exact .inr rfl
def dQ.fix{g:List Ty}{t:Tm}{s:Ty}(h:dQ g t s):∀d:Int,(g.length:Int)<=d->(∀c,t.up d c=t)/\∀a,Tm.fK d t a=t:=by
 induction h with
 |@var g s i hi hs=>
  intro d b;refine⟨λc=>by rw[Tm.e9,dI VW];rfl,λa=>?_⟩;rw[Tm.eG,dO rfl];unfold Tm.iG;rw[dI VW,dI VW]
 |lam hs _ ih=>
  intro d b;have:=ih (d+1) aby;exact⟨λc=>by rw[Tm.e9];simp[show eL 2=1 from rfl,this.1],λa=>by rw[Tm.eG];simp[show eL 2=1 from rfl,this.2]⟩
 |app _ _ f j=>intro d b;exact⟨λc=>by rw[Tm.e9];simp[show eL 3=0 from rfl,(f d b).1,(j d b).1],λa=>by rw[Tm.eG];simp[show eL 3=0 from rfl,(f d b).2,(j d b).2]⟩|zero=>intro d b;exact⟨λc=>by rw[Tm.e9];simp,λa=>by rw[Tm.eG];simp⟩|succ _ ih=>intro d b;exact⟨λc=>by rw[Tm.e9];simp[show eL 5=0 from rfl,(ih d b).1],λa=>by rw[Tm.eG];simp[show eL 5=0 from rfl,(ih d b).2]⟩|rQ _ _ _ _ f j k=>intro d b;exact⟨λc=>by rw[Tm.e9];simp[show eL 6=0 from rfl,(f d b).1,(j d b).1,(k d b).1],λa=>by rw[Tm.eG];simp[show eL 6=0 from rfl,(f d b).2,(j d b).2,(k d b).2]⟩|nil=>intro d b;exact⟨λc=>by rw[Tm.e9];simp,λa=>by rw[Tm.eG];simp⟩|cons _ _ f j=>intro d b;exact⟨λc=>by rw[Tm.e9];simp[show eL 8=0 from rfl,(f d b).1,(j d b).1],λa=>by rw[Tm.eG];simp[show eL 8=0 from rfl,(f d b).2,(j d b).2]⟩|fold _ _ _ _ f j k=>intro d b;exact⟨λc=>by rw[Tm.e9];simp[show eL 9=0 from rfl,(f d b).1,(j d b).1,(k d b).1],λa=>by rw[Tm.eG];simp[show eL 9=0 from rfl,(f d b).2,(j d b).2,(k d b).2]⟩|pair _ _ _ f j=>intro d b;exact⟨λc=>by rw[Tm.e9];simp[show eL 10=0 from rfl,(f d b).1,(j d b).1],λa=>by rw[Tm.eG];simp[show eL 10=0 from rfl,(f d b).2,(j d b).2]⟩|fst _ ih=>intro d b;exact⟨λc=>by rw[Tm.e9];simp[show eL 11=0 from rfl,(ih d b).1],λa=>by rw[Tm.eG];simp[show eL 11=0 from rfl,(ih d b).2]⟩|snd _ ih=>intro d b;exact⟨λc=>by rw[Tm.e9];simp[show eL 12=0 from rfl,(ih d b).1],λa=>by rw[Tm.eG];simp[show eL 12=0 from rfl,(ih d b).2]⟩|unit=>intro d b;exact⟨λc=>by rw[Tm.e9];simp,λa=>by rw[Tm.eG];simp⟩
def XP{L:List Fm}{g:List Ty}{hs:List Fm}(a:EL L ⟨g,hs⟩){i:Nat}{f:Fm}(h:hs.reverse[i]?=some f):(Pf.mk 1 (i:Int) .z [] [] []).inf L g hs=.inl (f,0):=by
 have hi:i<hs.length:=by simpa using(ua.1 h).1
 rw[List.getElem?_reverse hi] at h;have b:Hg g f:=a.aiP f (IN h);rw[Pf.jw,Vx,jY VW,show((i:Nat):Int).toNat=i from rfl,O4,h];show wD (.inl (f,0))=_;rw[Lx b.err]
 split<;>rfl
end Go.fH
