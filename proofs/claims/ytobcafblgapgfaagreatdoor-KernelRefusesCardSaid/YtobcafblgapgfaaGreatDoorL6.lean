/- Part of the proof of KernelRefuses: layer. -/
import Derived.Test.YtobcafblgapgfaaGreatDoorL5
set_option linter.all false
namespace Go.nd
open Go
theorem vC{α:Type}(f:Nat->α){i j:Nat}(h:i≠j)(x y:α):hU (hU f i x) j y=hU (hU f j y) i x:=by grind[hU]
def mh(fr:Fr)(d:Nat)(cs:List AV):Fr:=
 {fr with env:=hU fr.env d (.eD d (fr.gen d+1) 0),box:=hU fr.box d (some cs),gen:=hU fr.gen d (fr.gen d+1)}
def xf(P:Program)(T:fh)(fr:Fr)(o:Oper):Option (List AV):=
 match o.op with
 |.alloc t=>lG P t|.box _ x=>if f_ (ev T fr x)=true then some (ev T fr x).cells else none|_=>none
inductive ny where
 |grow (tag:Tag) (l m:List AV)|same (l:List AV)
def ny.fr(fr:Fr)(d:Nat):ny->Fr
 |.grow tag l m=>grown fr d tag l m|.same l=>fr.put (some d) (.slice .iR l)
def M_(P:Program)(T:fh)(fr:Fr)(c:Call)(x:ny):Prop:=
 ∃s y t e sz tag a l m,c.args.toList=[s,y]/\c.argTypes.toList=[t,t]/\qL P t=some (e,sz)/\ev T fr s=.slice tag l/\ev T fr y=.slice a m/\mJ sz l=true/\mJ sz m=true/\l.length+m.length<=nP/\(pU fr tag l=true/\x=.grow tag l m\/pU fr tag l=false/\m=[]/\x=.same l)
section
variable{P:Program} {T:fh} {E:List Nat} {ops:List Oper} {opsA:Array Oper} {q soft soft1 soft2:Bool} {o o1 o2:Oper} {K:Fr->eB->Prop} {fr fr1 fr2 fr':Fr} {H H1 H2 H':eB}
def Ul{c:Call}{dst:Option Nat}(h:nS P T c dst (λf h=>f=fr'/\h=H') fr H):∃d x,dst=some d/\M_ P T fr c x/\fr'=x.fr fr d/\H'=H:=by
 unfold nS at h
 split at h
 ·rename_i d s y t j a b
  split at h
  ·rename_i e sz tag l g m k n o;obtain⟨rfl,g2,g3,g4,g5⟩:=h
   split at g5
   ·rename_i i;exact⟨d,.grow tag l m,rfl,⟨s,y,j,e,sz,tag,g,l,m,a,b,k,n,o,g2,g3,g4,.inl ⟨i,rfl⟩⟩,g5.1.symm,g5.2.symm⟩
   ·rename_i i;exact⟨d,.same l,rfl,⟨s,y,j,e,sz,tag,g,l,m,a,b,k,n,o,g2,g3,g4,.inr ⟨by simpa using i,g5.1,rfl⟩⟩,g5.2.1.symm,g5.2.2.symm⟩
  ·grind
 ·exact h.elim
def Xj{c:Call}{d:Nat}{x:ny}(g:M_ P T fr c x)(b:K (x.fr fr d) H):nS P T c (some d) K fr H:=by
 obtain⟨s,y,t,e,sz,tag,f,l,m,h,i,j,k,n,o,p,q,r⟩:=g;unfold nS;rw[h,i];simp only[j,k,n];refine⟨trivial,o,p,q,?_⟩;rcases r with⟨a,rfl⟩|⟨a,hm,rfl⟩
 ·rw[ee a];exact b
 ·rw[ea (by simp[a])];exact⟨hm,b⟩
def M_.congr{c:Call}{x:ny}(f:M_ P T fr c x)(he:∀y∈c.args.toList,ev T fr y=ev T fr' y)(g:fr'.tY=fr.tY)(hg:fr'.fP=fr.fP):M_ P T fr' c x:=by
 obtain⟨s,y,t,e,sz,tag,a,l,m,b,h,i,j,k,n,o,p,q⟩:=f
 have d:pU fr' tag l=pU fr tag l:=by unfold pU;rw[g,hg]
 exact⟨s,y,t,e,sz,tag,a,l,m,b,h,i,by rw[<-he s (by rw[b];simp)];exact j,by rw[<-he y (by rw[b];simp)];exact k,n,o,p,by rw[d];exact q⟩
def B3(a:hE E ops o=.val\/∃r,hE E ops o=.load r)(h:oH P T E ops q soft o fr H fr' H'):∃v,pL P T E ops q soft fr H o=some v/\fr'=fr.put o.dst v/\H'=H:=by grind[oH,hE,ig]
def JA{v:AV}(h:pL P T E ops q soft fr H o=some v):oH P T E ops q soft o fr H (fr.put o.dst v) H:=by grind[oH,pL,ig]
def vx{d:Option Nat}(k:hE E ops o=.alloc d)(h:oH P T E ops q soft o fr H fr' H'):∃a cs,d=some a/\o.dst=some a/\E.contains a=false/\xf P T fr o=some cs/\fr'=mh fr a cs/\H'=H:=by
 unfold oH at h;obtain⟨dst,op,type,pos,after,guard⟩:=o
 have key:∀{cs:List AV} {a:Nat},dst=some a->E.contains a=false->lr E dst cs (λf h=>f=fr'/\h=H') fr H->fr'=mh fr a cs/\H'=H:=by
  intro cs a m n e;subst m;unfold lr at e;simp only at e;rw[ea (by simp only[n];simp)] at e;exact⟨e.1.symm,e.2.symm⟩
 have b:(∃t,op=.alloc t)\/(∃t x,op=.box t x)->∃a,d=some a/\dst=some a/\E.contains a=false:=by
  intro g
  have:(match dst with|some d=>if E.contains d=true then T4.Bc else .alloc (some d)|none=>.Bc)=.alloc d:=by
   rcases g with⟨t,rfl⟩|⟨t,x,rfl⟩<;>exact k
  grind
 cases op with
 |alloc t=>
  obtain⟨a,l,i,j⟩:=b (.inl ⟨t,rfl⟩)
  grind[ig,xf]
 |box t x=>
  obtain⟨a,l,i,j⟩:=b (.inr ⟨t,x,rfl⟩);simp only[ig] at h;obtain⟨g1,g2⟩:=key i j h.2.2;exact⟨a,_,l,i,j,by simp only[xf];rw[ee h.1],g1,g2⟩
 |call c=>grind[hE]|_=>simp[hE] at k
def wF{d:Nat}{cs:List AV}(a:o.dst=some d)(b:E.contains d=false)(h:xf P T fr o=some cs):oH P T E ops q soft o fr H (mh fr d cs) H:=by grind[oH,lr,mh,xf,ig]
def uP(h:∀x∈o.op.operands,ev T fr x=ev T fr' x):xf P T fr o=xf P T fr' o:=by
 obtain⟨dst,op,type,pos,after,guard⟩:=o;cases op with
 |box t x=>simp only[xf];rw[h x (by simp[Op.operands])]|_=>rfl
def Ds(s:hE E ops o=.Bc)(h:oH P T E ops q soft o fr H fr' H'):∃r,fr'=fr.put o.dst r/\(soft=true->q=true->H'=H)/\∀f:Fr,(∀x∈o.op.operands,ev T fr x=ev T f x)->oH P T E ops q soft o f H (f.put o.dst r) H':=by
 unfold oH at h;obtain⟨dst,op,type,pos,after,guard⟩:=o
 have a:∀{cs:List AV},((∃t,op=.alloc t)\/(∃t x,op=.box t x))->lr E dst cs (λf h=>f=fr'/\h=H') fr H->∃d,dst=some d/\E.contains d=true/\fr'=fr.put dst (.fT H.length 0)/\H'=H++[cs.map AV.lH]/\∀f:Fr,lr E dst cs (λA h=>A=f.put dst (.fT H.length 0)/\h=H') f H:=by
  intro cs u i
  have hm:(match dst with|some d=>if E.contains d=true then T4.Bc else .alloc (some d)|none=>.Bc)=.Bc:=by
   rcases u with⟨t,rfl⟩|⟨t,x,rfl⟩<;>exact s
  unfold lr at i
  split at i
  ·rename_i d
   split at i
   ·rename_i k;refine⟨d,rfl,k,i.1.symm,i.2.symm,λf=>?_⟩;unfold lr;simp only;rw[ee k];exact⟨rfl,i.2⟩
   ·rename_i k;simp only[ea k] at hm;cases hm
  ·exact i.elim
 cases op with
 |alloc t=>
  simp only[ig] at h
  split at h
  ·rename_i z D;obtain⟨d,l,j,n,v,y⟩:=a (.inl ⟨t,rfl⟩) h.2
   grind[oH,ig]
  ·exact h.elim
 |box t x=>
  simp only[ig] at h;obtain⟨d,l,j,n,v,y⟩:=a (.inr ⟨t,x,rfl⟩) h.2.2;refine⟨_,n,?_,λf p=>?_⟩
  ·intro hs F;have:=h.2.1 hs;rw[l] at this;exact absurd this (by simp only[Option.any_some,j];simp)
  ·unfold oH;simp only[ig];have e:=p x (by simp[Op.operands]);refine⟨by rw[<-e];exact h.1,h.2.1,?_⟩;rw[<-e];exact y f
 |call c=>
  obtain⟨callee,args,O0⟩:=c;cases callee with
  |builtin b=>cases b<;>simp[hE] at s
  |value g=>
   simp only[ig] at h;obtain⟨r,w,l,j,n,v⟩:=h;subst v;refine⟨r,n.symm,j,λf p=>?_⟩;unfold oH;simp only[ig];refine⟨r,w,?_,j,rfl,rfl⟩
   have B:(args.toList.map λx=>(ev T fr x).norm)=args.toList.map λx=>(ev T f x).norm:=
    uQ λx C=>by rw[p x (by simp[Op.operands,Call.operands,yi.1 C])]
   rw[<-B,<-p g (by simp[Op.operands,Call.operands])];exact l
  |invoke r m=>simp only[ig] at h
 |_=>simp[hE] at s
theorem C6(a:hE E ops o=.app)(h:oH P T E ops q soft o fr H fr' H'):∃d x,o.dst=some d/\fr'=ny.fr fr d x/\H'=H/\∀(f:Fr) (h:eB),(∀x∈o.op.operands,ev T fr x=ev T f x)->f.tY=fr.tY->f.fP=fr.fP->oH P T E ops q soft o f h (ny.fr f d x) h:=by
 unfold oH at h;obtain⟨dst,op,type,pos,after,guard⟩:=o;cases op with
 |call c=>
  obtain⟨callee,args,O0⟩:=c;cases callee with
  |builtin b=>
   cases b with
   |append=>
    simp only[ig] at h;obtain⟨d,x,e,i,j,k⟩:=Ul h;subst e;refine⟨d,x,rfl,j,k,λf h he l hg=>?_⟩;unfold oH;simp only[ig];refine Xj (i.congr (λy hy=>he y ?_) l hg) ⟨rfl,rfl⟩;simp only at hy;simp[Op.operands,Call.operands,yi.1 hy]
   |_=>simp[hE] at a
  |value g=>simp[hE] at a
  |invoke r m=>simp[hE] at a
 |alloc t=>grind[hE]|box t x=>grind[hE]|_=>simp[hE] at a
def RA{r:Option Nat}(d:hE E ops o=.KE r)(h:oH P T E ops q soft o fr H fr' H'):fr'.env=fr.env/\fr'.gen=fr.gen/\fr'.tY=fr.tY/\fr'.fP=fr.fP/\o.dst=none/\(∀b,r≠some b->fr'.box b=fr.box b)/\(soft=true->H'=H):=by
 unfold oH at h;obtain⟨dst,op,type,pos,after,guard⟩:=o;cases op with
 |store t x y=>
  simp only[hE,T4.KE.injEq] at d;simp only[ig] at h;obtain⟨e,f,i,a⟩:=h;unfold nC at a
  split at a
  ·exact a.elim
  ·split at a
   ·rename_i b g off j
    split at a
    ·obtain⟨_,_,_,_,g1,g2⟩:=a;subst g1;subst g2
     grind[rk,hU,zH]
    ·exact a.elim
   all_goals grind[isL]
 |call c=>grind[hE]|alloc t=>grind[hE]|box t x=>simp only[hE] at d;split at d<;>(try split at d)<;>simp at d
 |_=>simp[hE] at d
theorem LA(fr:Fr)(d:Nat):fr.put (some d) (fr.env d)=fr:=by
 simp only[Fr.put]
 have:hU fr.env d (fr.env d)=fr.env:=by grind[hU]
 rw[this]
theorem O7(fr:Fr)(d:Nat)(x y:AV):(fr.put (some d) x).put (some d) y=fr.put (some d) y:=by grind[Fr.put,Lj]
structure Left (c:T4) (dst:Option Nat) (soft q:Bool) (fr:Fr) (H:eB) (fr':Fr) (H':eB):Prop where
 env:∀t,dst≠some t->fr'.env t=fr.env t
 box:∀b,c≠ .alloc (some b)->c≠ .KE (some b)->fr'.box b=fr.box b/\fr'.gen b=fr.gen b
 heap:c≠ .Bc->(∀r,c=.KE r->soft=true)->H'=H
 quiet:soft=true->q=true->H'=H
def ny.left(fr:Fr)(d:Nat)(x:ny):(∀t,t≠d->(ny.fr fr d x).env t=fr.env t)/\(ny.fr fr d x).box=fr.box/\(ny.fr fr d x).gen=fr.gen:=by
 cases x with
 |grow tag l m=>exact⟨λt a=>by show hU _ _ _ t=_;rw[zH _ _ _ _ a],rfl,rfl⟩|same l=>exact⟨λt a=>by show hU _ _ _ t=_;rw[zH _ _ _ _ a],rfl,rfl⟩
def rQ(h:oH P T E ops q soft o fr H fr' H'):Left (hE E ops o) o.dst soft q fr H fr' H':=by
 have a:∀(v:AV) (t:Nat),o.dst≠some t->(fr.put o.dst v).env t=fr.env t:=by
  intro v t i;rw[Fr.CK,ea i]
 cases g:hE E ops o with
 |val=>
  obtain⟨v,_,rfl,rfl⟩:=B3 (.inl g) h;obtain⟨c,f,_,_⟩:=Fr.xq fr o.dst v;exact⟨a v,λb _ _=>⟨by rw[c],by rw[f]⟩,λ_ _=>rfl,λ_ _=>rfl⟩
 |load r=>
  obtain⟨v,_,rfl,rfl⟩:=B3 (.inr ⟨r,g⟩) h;obtain⟨c,f,_,_⟩:=Fr.xq fr o.dst v;exact⟨a v,λb _ _=>⟨by rw[c],by rw[f]⟩,λ_ _=>rfl,λ_ _=>rfl⟩
 |alloc d=>
  obtain⟨n,cs,rfl,k,_,_,rfl,rfl⟩:=vx g h;refine⟨λt i=>?_,λb l _=>?_,λ_ _=>rfl,λ_ _=>rfl⟩
  ·show hU _ _ _ t=_;rw[zH];rintro rfl;exact i k
  ·have j:b≠n:=by rintro rfl;exact l rfl
   exact⟨zH _ _ _ _ j,zH _ _ _ _ j⟩
 |Bc=>
  obtain⟨r,rfl,p,_⟩:=Ds g h;obtain⟨c,f,_,_⟩:=Fr.xq fr o.dst r;exact⟨a r,λb _ _=>⟨by rw[c],by rw[f]⟩,λhn _=>absurd rfl hn,p⟩
 |app=>
  obtain⟨d,x,k,rfl,rfl,_⟩:=C6 g h;obtain⟨g1,g2,g3⟩:=ny.left fr d x;exact⟨λt i=>g1 t (by rintro rfl;exact i k),λb _ _=>⟨by rw[g2],by rw[g3]⟩,λ_ _=>rfl,λ_ _=>rfl⟩
 |KE r=>
  obtain⟨c,f,u,w,y,s,m⟩:=RA g h;exact⟨λt _=>by rw[c],λb _ l=>⟨s b (λe=>l (by rw[e])),by rw[f]⟩,λ_ hs=>m (hs r rfl),λhs _=>m hs⟩
def Mp{d:Nat}(v:AV)(b:d∉o.looksAt opsA)(a:o.dst≠some d)(h:oH P T E ops q soft o fr H fr' H'):oH P T E ops q soft o (fr.put (some d) v) H (fr'.put (some d) v) H':=by
 have c:ig P T E ops q soft o (λf h=>f=fr'/\h=H') ((fr.put (some d) v).put (some d) (fr.env d)) H:=by
  rw[O7,LA];exact h
 obtain⟨f,g,e,i,j⟩:=xO (JO (opsA:=opsA) b a c);have he:=(rQ e).env d a
 grind[O7,Fr.CK,LA]
def GY{d:Nat}{v:AV}(b:d∉o.looksAt opsA)(a:o.dst≠some d)(h:oH P T E ops q soft o (fr.put (some d) v) H fr' H'):∃f,oH P T E ops q soft o fr H f H'/\f.put (some d) v=fr':=by
 obtain⟨f,c,e,g,i⟩:=xO (JO (opsA:=opsA) b a h)
 grind
theorem RG{x:Operand}{t:Nat}(a:x∈o.op.operands)(b:x=.tmp t):t∈o.looksAt opsA:=by
 subst b;exact XM _ (RV.2 ⟨.tmp t,by simpa using a,rfl⟩)
def Lt{c:T4}{dst:Option Nat}(a:Left c dst soft q fr H fr' H')(b:∀d,dst=some d->d∉o.looksAt opsA):∀x∈o.op.operands,ev T fr x=ev T fr' x:=by
 intro x e;refine MR λt f=>?_;rw[a.env]
 grind[RG]
def Jq{c:T4}{dst:Option Nat}(u:Left c dst soft2 q fr H fr' H')(y:∀d,dst=some d->d∉o.looksAt opsA)(e:wG (hE E ops o) c=true)
  (hs:∀r,hE E ops o=.load r->(c=.Bc->soft=true/\soft2=true)/\(∀z,c=.KE z->soft2=true)) {v:AV} (hv:pL P T E ops q soft fr H o=some v\/pL P T E ops q soft fr' H' o=some v):pL P T E ops q soft fr H o=pL P T E ops q soft fr' H' o:=by
 have m:=Lt (T:=T) (opsA:=opsA) u y
 by_cases j:∃t x,o.op=.load t x
 ·obtain⟨t,x,a⟩:=j;have A:=m x (by rw[a];simp[Op.operands])
  have k:hE E ops o=.load (DW ops x):=by unfold hE;rw[a]
  obtain⟨n,p⟩:=hs _ k;rw[k] at e
  have l:rk ops x (ev T fr x)=true/\(!soft||q||!Wm (ev T fr x))=true:=by
   have:∀(f:Fr) (h:eB),pL P T E ops q soft f h o=some v->ev T f x=ev T fr x->rk ops x (ev T fr x)=true/\(!soft||q||!Wm (ev T fr x))=true:=by grind[pL]
   rcases hv with hv|hv
   ·exact this fr H hv rfl
   ·exact this fr' H' hv A.symm
  refine BV m (λG I he=>?_) (λ_ _ _ _ he=>by rw[a] at he;cases he);rw[a] at he;injection he with B C;subst B;subst C;refine⟨λb g off D=>?_,λhg=>?_⟩
  ·have s:DW ops x=some b:=by
    have:=l.1;rw[D] at this;simpa[rk] using this
   rw[s] at e;have:=u.box b (by rintro rfl;simp[wG] at e) (by rintro rfl;simp[wG] at e);exact⟨this.1.symm,this.2.symm⟩
  ·by_cases he:c=.Bc
   ·obtain⟨g1,g2⟩:=n he
    have w:q=true:=by
     have:=l.2;rw[g1,hg] at this;simpa using this
    exact(u.quiet g2 w).symm
   ·exact(u.heap he p).symm
 ·refine BV m (λt x he=>absurd ⟨t,x,he⟩ j) λt x i ok a=>?_
  have k:hE E ops o=.load none:=by unfold hE;rw[a]
  obtain⟨n,p⟩:=hs _ k
  have w:(!soft||q)=true:=by
   have:∀(f:Fr) (h:eB),pL P T E ops q soft f h o=some v->(!soft||q)=true:=by
    intro f h hv;unfold pL at hv;rw[a] at hv;simp only at hv
    split at hv
    ·rename_i F;exact F
    ·cases hv
   rcases hv with hv|hv
   ·exact this _ _ hv
   ·exact this _ _ hv
  by_cases he:c=.Bc
  ·obtain⟨g1,g2⟩:=n he;rw[g1] at w;exact(u.quiet g2 (by simpa using w)).symm
  ·exact(u.heap he p).symm
def Kd(fr:Fr){d b:Nat}(h:d≠b)(cs a:List AV):mh (mh fr d cs) b a=mh (mh fr b a) d cs:=by
 simp only[mh,zH _ _ _ _ h,zH _ _ _ _ h.symm]
 grind[vC]
def E3(fr:Fr){d:Nat}{d2:Option Nat}(h:d2≠some d)(cs:List AV)(r:AV):(mh fr d cs).put d2 r=mh (fr.put d2 r) d cs:=by
 cases d2 with
 |none=>rfl|some a=>grind[mh,Fr.put,vC]
theorem O5(fr:Fr){d:Nat}{d2:Option Nat}(h:d2≠some d)(x:ny)(r:AV):ny.fr (fr.put d2 r) d x=(ny.fr fr d x).put d2 r:=by
 cases d2 with
 |none=>rfl|some b=>
  have a:b≠d:=λe=>h (by rw[e]);cases x with
  |grow tag l m=>
   simp only[ny.fr,grown,Fr.put]
   grind[vC]
  |same l=>exact sN fr a r (.slice .iR l)
def EF(fr:Fr){d a:Nat}(h:d≠a)(cs:List AV)(x:ny):ny.fr (mh fr d cs) a x=mh (ny.fr fr a x) d cs:=by
 cases x with
 |grow tag l m=>
  simp only[ny.fr,grown,mh]
  grind[vC]
 |same l=>grind[ny.fr,Fr.put,mh,vC]
def P9(R:o1.apart opsA o2=true)(a:wG (hE E ops o1) (hE E ops o2)=true)
  (S:∀r,hE E ops o1=.load r->(hE E ops o2=.Bc->soft1=true/\soft2=true)/\(∀K,hE E ops o2=.KE K->soft2=true))
  (U:∀r,hE E ops o2=.load r->(hE E ops o1=.Bc->soft2=true/\soft1=true)/\(∀K,hE E ops o1=.KE K->soft1=true))
  (F:oH P T E ops q soft1 o1 fr H fr1 H1) (D:oH P T E ops q soft2 o2 fr1 H1 fr2 H2):∃f h,oH P T E ops q soft2 o2 fr H f h/\oH P T E ops q soft1 o1 f h fr2 H2:=by
 obtain⟨a1,a2,a3⟩:=Oper.apart_spec R
 by_cases G:hE E ops o1=.val\/∃r,hE E ops o1=.load r
 ·obtain⟨v,L,c,I⟩:=B3 G F;subst I
  have V:∃f,oH P T E ops q soft2 o2 fr H1 f H2/\f.put o1.dst v=fr2:=by
   cases s:o1.dst with
   |none=>rw[s] at c;subst c;exact⟨fr2,D,rfl⟩
   |some d=>rw[s] at c;subst c;exact GY (opsA:=opsA) (a1 d s) (a2 d s) D
  obtain⟨f,M,W⟩:=V;have t:wG (hE E ops o1) (hE E ops o2)=true:=a;have:=Jq (o:=o1) (soft:=soft1) (rQ M) a3 t S (.inl L);refine⟨f,H2,M,?_⟩;rw[<-W];exact JA (by rw[<-this];exact L)
 ·--aa second one only J
  by_cases l:hE E ops o2=.val\/∃r,hE E ops o2=.load r
  ·obtain⟨v,L,c,I⟩:=B3 l D;subst I
   have t:wG (hE E ops o2) (hE E ops o1)=true:=by
    revert a
    cases hE E ops o1<;>cases hE E ops o2<;>simp[wG]<;>(intro h e;exact h e.symm)
   have:=Jq (o:=o2) (soft:=soft2) (rQ F) a1 t U (.inr L);refine⟨fr.put o2.dst v,H,JA (by rw[this];exact L),?_⟩;rw[c];cases s:o2.dst with
   |none=>exact F|some d=>exact Mp (opsA:=opsA) v (a3 d s) (λe=>a2 d e s) F
  ·--N
   have X:=rQ F;have k:∀x∈o2.op.operands,ev T fr x=ev T fr1 x:=Lt (T:=T) (opsA:=opsA) X a1;have w:∀{f:Fr} {h:eB} (O:oH P T E ops q soft2 o2 fr H f h),∀x∈o1.op.operands,ev T fr x=ev T f x:=λO=>Lt (T:=T) (opsA:=opsA) (rQ O) a3;cases i:hE E ops o1 with
   |val=>exact absurd (.inl i) G|load r=>exact absurd (.inr ⟨r,i⟩) G|KE r=>
    rw[i] at a;cases b:hE E ops o2 with
    |val=>exact absurd (.inl b) l|load K=>exact absurd (.inr ⟨K,b⟩) l|_=>rw[b] at a;simp[wG] at a
   |alloc d1=>
    obtain⟨d,cs,rfl,s,Y,Z,c,I⟩:=vx i F;subst I
    have back:∀{f:Fr} {h:eB} (O:oH P T E ops q soft2 o2 fr H1 f h),oH P T E ops q soft1 o1 f h (mh f d cs) h:=λO=>
     wF s Y (by rw[<-uP (w O)];exact Z)
    cases b:hE E ops o2 with
    |val=>exact absurd (.inl b) l|load r=>exact absurd (.inr ⟨r,b⟩) l|KE r=>rw[i,b] at a;simp[wG] at a
    |alloc d2=>
     obtain⟨C,z,rfl,j,A,n,g,u⟩:=vx b D;subst u;have B:d≠C:=λe=>a2 d s (by rw[j,e]);have hn:oH P T E ops q soft2 o2 fr H2 (mh fr C z) H2:=wF j A (by rw[uP k];exact n);refine⟨_,_,hn,?_⟩;rw[g,c,Kd fr B];exact back hn
    |Bc=>
     obtain⟨r,g,_,p⟩:=Ds b D;have hn:=p fr λx Q=>(k x Q).symm;refine⟨_,_,hn,?_⟩;rw[g,c,E3 fr (λe=>a2 d s e)];exact back hn
    |app=>
     obtain⟨C,x,j,g,u,p⟩:=C6 b D;subst u;have B:d≠C:=λe=>a2 d s (by rw[j,e]);have hn:=p fr H2 (λx Q=>(k x Q).symm) (by rw[c];rfl) (by rw[c];rfl);refine⟨_,_,hn,?_⟩;rw[g,c,EF fr B];exact back hn
   |Bc=>
    obtain⟨r,c,_,m⟩:=Ds i F;cases b:hE E ops o2 with
    |val=>exact absurd (.inl b) l|load r=>exact absurd (.inr ⟨r,b⟩) l|KE r=>rw[i,b] at a;simp[wG] at a
    |Bc=>rw[i,b] at a;simp[wG] at a
    |alloc d2=>
     obtain⟨C,z,rfl,j,A,n,g,u⟩:=vx b D;subst u;have hn:oH P T E ops q soft2 o2 fr H (mh fr C z) H:=wF j A (by rw[uP k];exact n);refine⟨_,_,hn,?_⟩;rw[g,c,<-E3 fr (λe=>a2 C e j)];exact m _ λx Q=>w hn x Q
    |app=>grind[C6,Fr.xq,O5]
   |app=>
    obtain⟨d,x,s,c,I,m⟩:=C6 i F;subst I;cases b:hE E ops o2 with
    |val=>exact absurd (.inl b) l|load r=>exact absurd (.inr ⟨r,b⟩) l|KE r=>rw[i,b] at a;simp[wG] at a
    |app=>rw[i,b] at a;simp[wG] at a
    |alloc d2=>
     obtain⟨C,z,rfl,j,A,n,g,u⟩:=vx b D;subst u;have B:C≠d:=λe=>a2 d s (by rw[j,e]);have hn:oH P T E ops q soft2 o2 fr H2 (mh fr C z) H2:=wF j A (by rw[uP k];exact n);refine⟨_,_,hn,?_⟩;rw[g,c,<-EF fr B];exact m _ _ (λy hy=>w hn y hy) rfl rfl
    |Bc=>
     obtain⟨r,g,_,p⟩:=Ds b D;have hn:=p fr λy hy=>(k y hy).symm;obtain⟨e1,e2,e3,e4⟩:=Fr.xq fr o2.dst r;refine⟨_,_,hn,?_⟩;rw[g,c,<-O5 fr (λe=>a2 d s e)];exact m _ _ (λy hy=>w hn y hy) e3 e4
end
end Go.nd
namespace Go.nd
open Go
def kc(opsA:Array Oper)(o:Oper)(fr:Fr):Option Bool:=
 match o.guard with
 |none=>some true|some (j,want)=>
  match(opsA[j]?).bind (·.dst)with
  |some d=>match fr.env d with
   |.sc (.bool b)=>some (b==want)|.tuple _=>some false|_=>none
  |none=>none
def nu(P:Program)(T:fh)(E:List Nat)(opsA:Array Oper)(q soft:Bool)(o:Oper)(K:Fr->eB->Prop)(fr:Fr)(H:eB):Prop:=
 match kc opsA o fr with
 |some true=>ig P T E opsA.toList q soft o K fr H|some false=>K (fr.put o.dst (.tuple [])) H|none=>False
def F3(P:Program)(T:fh)(E:List Nat)(opsA:Array Oper)(q:Bool)(sf:Nat->Bool):List Nat->(Fr->eB->Prop)->Fr->eB->Prop
 |[],K,fr,H=>K fr H|i::rest,K,fr,H=>match opsA[i]?with
  |some o=>nu P T E opsA q (sf i) o (λfr H=>F3 P T E opsA q sf rest K fr H) fr H|none=>False
section
variable{P:Program} {T:fh} {E:List Nat} {opsA:Array Oper} {q soft soft1 soft2:Bool} {o o1 o2:Oper} {K K':Fr->eB->Prop} {fr fr':Fr} {H H':eB}
theorem BH(a:∀fr H,K fr H->K' fr H)(h:nu P T E opsA q soft o K fr H):nu P T E opsA q soft o K' fr H:=by grind[nu,HN]
def M7(h:nu P T E opsA q soft o K fr H):Cm P T E opsA o K fr H:=by grind[nu,kc,Cm,E7]
theorem CQ(h:∀t,t∈o.looksAt opsA->fr'.env t=fr.env t):kc opsA o fr'=kc opsA o fr:=by
 unfold kc;cases hg:o.guard with
 |none=>rfl|some p=>
  obtain⟨j,want⟩:=p;simp only
  cases a:(opsA[j]?).bind (·.dst)with
  |none=>rfl|some d=>
   have:d∈o.looksAt opsA:=by
    unfold Oper.looksAt
    grind
   grind
def D6{d:Option Nat}{v:AV}(h:∀a,d=some a->a∉o.looksAt opsA):kc opsA o (fr.put d v)=kc opsA o fr:=by grind[CQ,Fr.CK]
def Bw{c:T4}{dst:Option Nat}(b:Left c dst soft q fr H fr' H')(h:∀a,dst=some a->a∉o.looksAt opsA):kc opsA o fr'=kc opsA o fr:=by
 refine CQ λt d=>b.env t ?_
 grind
def Uv(E:List Nat)(opsA:Array Oper)(s1 s2:Bool)(o1 o2:Oper):Bool:=
 o1.apart opsA o2&&wG (hE E opsA.toList o1) (hE E opsA.toList o2)&&
 (match hE E opsA.toList o1,hE E opsA.toList o2 with
  |.load _,.Bc=>s1&&s2|.Bc,.load _=>s1&&s2|.load _,.KE _=>s2|.KE _,.load _=>s1|_,_=>true)
theorem OB(t:Uv E opsA soft1 soft2 o1 o2=true)(h:nu P T E opsA q soft1 o1 (λfr H=>nu P T E opsA q soft2 o2 K fr H) fr H):nu P T E opsA q soft2 o2 (λfr H=>nu P T E opsA q soft1 o1 K fr H) fr H:=by
 unfold Uv at t;simp only[gO] at t;obtain⟨⟨m,n⟩,a⟩:=t;obtain⟨a1,a2,a3⟩:=Oper.apart_spec m
 have u:∀r,hE E opsA.toList o1=.load r->(hE E opsA.toList o2=.Bc->soft1=true/\soft2=true)/\(∀s,hE E opsA.toList o2=.KE s->soft2=true):=by
  intro r D;rw[D] at a;refine⟨λhe=>?_,λs he=>?_⟩<;>rw[he] at a
  ·simpa using a
  ·exact a
 have v:∀r,hE E opsA.toList o2=.load r->(hE E opsA.toList o1=.Bc->soft2=true/\soft1=true)/\(∀s,hE E opsA.toList o1=.KE s->soft1=true):=by grind
 unfold nu at h
 split at h
 ·--w first one is carried out
  rename_i c;obtain⟨f1,H1,i,h⟩:=xO h;have x:=rQ i;have l:kc opsA o2 f1=kc opsA o2 fr:=Bw x a1;rw[l] at h;unfold nu
  split at h
  ·rename_i g;obtain⟨f2,H2,b,y⟩:=xO h;obtain⟨f,F,k,o⟩:=P9 m n u v i b;refine zi k ?_;have:kc opsA o1 f=kc opsA o1 fr:=Bw (rQ k) a3;rw[this,c];exact zi o y
  ·rename_i g
   show match kc opsA o1 (fr.put o2.dst (.tuple []))with
    |some true=>ig P T E opsA.toList q soft1 o1 K (fr.put o2.dst (.tuple [])) H|some false=>K ((fr.put o2.dst (.tuple [])).put o1.dst (.tuple [])) H|none=>False
   rw[D6 a3,c];simp only;cases j:o2.dst with
   |none=>rw[j] at h;exact zi i h
   |some d=>rw[j] at h;exact zi (Mp (opsA:=opsA) _ (a3 d j) (λe=>a2 d e j) i) h
  ·exact h.elim
 ·--w first one is left out
  rename_i c;have l:kc opsA o2 (fr.put o1.dst (.tuple []))=kc opsA o2 fr:=D6 a1;rw[l] at h;unfold nu
  split at h
  ·rename_i g;obtain⟨f2,H2,b,y⟩:=xO h
   have z:∃f,oH P T E opsA.toList q soft2 o2 fr H f H2/\f.put o1.dst (.tuple [])=f2:=by
    cases j:o1.dst with
    |none=>rw[j] at b;exact⟨f2,b,rfl⟩
    |some d=>rw[j] at b;exact GY (opsA:=opsA) (a1 d j) (a2 d j) b
   obtain⟨f,p,A⟩:=z;refine zi p ?_;have:kc opsA o1 f=kc opsA o1 fr:=Bw (rQ p) a3;rw[this,c];show K (f.put o1.dst (.tuple [])) H2;rw[A];exact y
  ·rename_i g
   show match kc opsA o1 (fr.put o2.dst (.tuple []))with
    |some true=>ig P T E opsA.toList q soft1 o1 K (fr.put o2.dst (.tuple [])) H|some false=>K ((fr.put o2.dst (.tuple [])).put o1.dst (.tuple [])) H|none=>False
   rw[D6 a3,c];simp only
   have:(fr.put o2.dst (.tuple [])).put o1.dst (.tuple [])=(fr.put o1.dst (.tuple [])).put o2.dst (.tuple []):=by
    cases B:o1.dst with
    |none=>rfl|some d1=>
     cases C:o2.dst with
     |none=>rfl|some d2=>exact sN fr (λe=>a2 d1 B (by rw[C,e])) _ _
   rw[this];exact h
  ·exact h.elim
 ·exact h.elim
def N_{sf:Nat->Bool}{i:Nat}(hi:opsA[i]?=some o)(post:List Nat):∀(pre:List Nat) (fr:Fr) (H:eB),(∀j∈pre,∀a,opsA[j]?=some a->Uv E opsA (sf j) (sf i) a o=true)->F3 P T E opsA q sf (pre++i::post) K fr H->nu P T E opsA q (sf i) o (λfr H=>F3 P T E opsA q sf (pre++post) K fr H) fr H:=by
 intro pre
 induction pre with
 |nil=>grind[F3]|cons j pre b=>
  intro fr H hex h;simp only[Xc,F3] at h|-
  split at h
  all_goals grind[BH,OB]
end
def xX(opsA:Array Oper):Bool:=opsA.toList.zipIdx.all λ(o,i)=>o.after.all λe=>!Region.binds .any e||decide (e.on<i)
def KN(opsA:Array Oper)(M:Array Nat):Bool:=
 (List.range opsA.size).all λi=>(List.range opsA.size).all λj=>!(M.getD i 0).testBit j||
  (opsA.getD i default).after.toList.any λe=>Region.binds .any e&&(e.on==j||(M.getD e.on 0).testBit j)
def xI(E:List Nat)(opsA:Array Oper)(sf:Nat->Bool):Bool:=
 let M:=Region.before opsA
 xX opsA&&KN opsA M&&
 (List.range opsA.size).all λi=>(List.range i).all λj=>(M.getD i 0).testBit j||Uv E opsA (sf j) (sf i) (opsA.getD j default) (opsA.getD i default)
section
variable{P:Program} {T:fh} {E:List Nat} {opsA:Array Oper} {q:Bool} {sf:Nat->Bool} {K:Fr->eB->Prop}
def vz(opsA:Array Oper)(listed:Array Bool):List Nat:=(List.range opsA.size).filter λi=>!listed.getD i true
def Px{listed:Array Bool}{i:Nat}:i∈vz opsA listed↔i<opsA.size/\listed.getD i true=false:=by
 simp[vz]
def RR(M:Array Nat)(opsA:Array Oper)(listed:Array Bool):Prop:=∀i j,i<opsA.size->j<opsA.size->listed.getD i false=true->(M.getD i 0).testBit j=true->listed.getD j false=true
def A3{listed:Array Bool}{i:Nat}(d:Bool)(h:i<listed.size):(listed.setIfInBounds i true).getD i d=true:=by
 simp[h]
def J6{opsA:Array Oper}(a:xX opsA=true){listed:Array Bool}(d:listed.size=opsA.size){i:Nat}(hi:i<opsA.size)(e:listed.getD i true=false)
  (c:∀j,j<i->listed.getD j false=true):i∈Region.ready .any opsA listed:=by
 rw[mem_ready];unfold xX at a;rw[ll] at a
 have b:(opsA[i],i)∈opsA.toList.zipIdx:=by grind
 have:=a _ b;simp only[I7] at this
 grind
def EY{opsA:Array Oper}{M:Array Nat}(d:KN opsA M=true)(a:xX opsA=true){listed:Array Bool}(f:RR M opsA listed){i:Nat}(p:i∈Region.ready .any opsA listed){j:Nat}(l:j<opsA.size)
  (q:(M.getD i 0).testBit j=true):listed.getD j false=true:=by
 obtain⟨r,o,m,b⟩:=mem_ready.1 p;have hi:i<opsA.size:=(NB.1 m).1;unfold KN at d;rw[ll] at d;have:=d i (by simpa using hi);rw[ll] at this;have:=this j (by simpa using l);rw[q] at this;simp only[X3,U7,List.any_eq_true,yi,gO,p9,beq_iff_eq] at this;obtain⟨e,he,g,hor⟩:=this
 have h:opsA.getD i default=o:=by rw[RO,m];rfl
 rw[h] at he;have n:=b e he g;rcases hor with rfl|hor
 ·exact n
 ·have k:e.on<opsA.size:=by
   unfold xX at a;rw[ll] at a
   have c:(o,i)∈opsA.toList.zipIdx:=by grind
   have:=a _ c;simp only[I7] at this
   grind
  exact f e.on j k l n hor
def P0{listed:Array Bool}(d:listed.size=opsA.size){i:Nat}(hi:i<opsA.size)(a:listed.getD i true=false):∃pre post,vz opsA listed=pre++i::post/\vz opsA (listed.setIfInBounds i true)=pre++post/\∀j∈pre,j<i/\listed.getD j true=false:=by
 have c:List.range opsA.size=List.range i++i::(List.range' (i+1) (opsA.size-i-1)):=by
  rw[Xw,Xw]
  have:opsA.size=i+(1+(opsA.size-i-1)):=by omega
  conv=>lhs;rw[this]
  rw[<-List.range'_append_1]
  congr 1
  rw[show 1+(opsA.size-i-1)=(opsA.size-i-1)+1 by omega,Xv];simp
 refine⟨(List.range i).filter (λj=>!listed.getD j true),(List.range' (i+1) (opsA.size-i-1)).filter (λj=>!listed.getD j true),?_,?_,?_⟩
 ·unfold vz;rw[c,U9,List.filter_cons_of_pos (by simp[a])]
 ·unfold vz;rw[c,U9,List.filter_cons_of_neg (by rw[A3 _ (by omega)];simp)]
  congr 1
  ·refine XB λj b=>?_
   have:j<i:=by simpa using b
   rw[getD_set_ne true (by omega)]
  ·refine XB λj b=>?_;have:=(List.mem_range'_1.1 b).1;rw[getD_set_ne true (by omega)]
 ·grind
variable{n:Nat} {G0:Nat->Nat} {F0:lN} {n0:Nat} {w0:World}
def yN{listed:Array Bool}{i:Nat}(hi:i<listed.size):listed.getD i false=listed.getD i true:=by grind
def SE{Q:Exit->Act->World->Prop}(p:xI E opsA sf=true)(x:yo n opsA=true)(R:∀fr' H' F w',K fr' H'->SR T n G0 F0 n0 w0 fr' H' F w'->Q .normal F w'):∀(fuel:Nat) (listed:Array Bool) (fr:Fr) (H:eB) (a:Act) (w:World),listed.size=opsA.size->RR (Region.before opsA) opsA listed->(vz opsA listed).length<=fuel->SR T n G0 F0 n0 w0 fr H a w->F3 P T E opsA q sf (vz opsA listed) K fr H->wpAny P .any opsA Q fuel listed a w:=by
 unfold xI at p;simp only[gO] at p;obtain⟨⟨c,S⟩,d⟩:=p
 have r:∀{listed:Array Bool},listed.size=opsA.size->Region.ready .any opsA listed=[]->vz opsA listed=[]:=by
  intro listed f y;cases b:vz opsA listed with
  |nil=>rfl|cons i rest=>
   exfalso
   have m:i∈vz opsA listed:=by rw[b];simp
   have hex:∃k,k<opsA.size/\listed.getD k true=false:=⟨i,Px.1 m⟩
   obtain⟨k,⟨G,I⟩,z⟩:∃k,(k<opsA.size/\listed.getD k true=false)/\∀j,j<k->¬(j<opsA.size/\listed.getD j true=false):=by
    clear b m;obtain⟨k,hk⟩:=hex
    induction k using Nat.strongRecOn with
    |_ k J=>
     by_cases h:∃j,j<k/\(j<opsA.size/\listed.getD j true=false)
     ·obtain⟨j,s,t⟩:=h;exact J j s t
     ·exact⟨k,hk,λj A hc=>h ⟨j,A,hc⟩⟩
   have:=J6 c f G I λj A=>by
    have hn:=z j A
    have L:j<opsA.size:=by omega
    rw[yN (by omega)];cases hb:listed.getD j true with
    |true=>rfl|false=>exact absurd ⟨L,hb⟩ hn
   rw[y] at this;cases this
 intro fuel
 induction fuel with
 |zero=>
  intro listed fr H a w f g hlen hs h;have b:vz opsA listed=[]:=Dt (by omega);rw[b] at h;refine⟨?_,R _ _ _ _ h hs⟩;cases y:Region.ready .any opsA listed with
  |nil=>rfl|cons i rest=>
   have hm:i∈Region.ready .any opsA listed:=by rw[y];simp
   obtain⟨u,o,v,_⟩:=mem_ready.1 hm;have:i∈vz opsA listed:=Px.2 ⟨(NB.1 v).1,u⟩;rw[b] at this;cases this
 |succ fuel J=>
  intro listed fr H a w f g hlen hs h;refine⟨λy=>?_,λi hi=>?_⟩
  ·rw[r f y] at h;exact R _ _ _ _ h hs
  ·obtain⟨u,o,v,U⟩:=mem_ready.1 hi;have B:i<opsA.size:=(NB.1 v).1;obtain⟨pre,post,V,W,h3⟩:=P0 f B u;rw[V] at h
   have l:=N_ (P:=P) (T:=T) (E:=E) (opsA:=opsA) (q:=q) (K:=K) (sf:=sf) v post pre fr H (by
    intro j A oj M;obtain⟨s,t⟩:=h3 j A;rw[ll] at d;have:=d i (by simpa using B);rw[ll] at this;have:=this j (by simpa using s);simp only[p9] at this
    have e1:opsA.getD j default=oj:=by rw[RO,M];rfl
    have e2:opsA.getD i default=o:=by rw[RO,v];rfl
    rw[e1,e2] at this;rcases this with hb|hb
    ·have:=EY S c g hi (by omega) hb;rw[yN (by omega),t] at this;cases this
    ·exact hb) h
   have N:sS n o=true:=I7.1 x o (OX v);refine ED v N hs (M7 l) ?_;intro fr' H' F w' hK O;refine J (listed.setIfInBounds i true) fr' H' F w' (by simpa using f) ?_ ?_ O (by rw[W];exact hK)
   ·--still closed
    intro X Y hi' C Z hb
    by_cases he:Y=i
    ·subst he;exact A3 _ (by omega)
    ·rw[getD_set_ne false (λe=>he e.symm)]
     by_cases D:X=i
     ·subst D;exact EY S c g hi C hb
     ·rw[getD_set_ne false (λe=>D e.symm)] at Z;exact g X Y hi' C Z hb
   ·rw[V] at hlen;rw[W];simp only[sK,l5] at hlen|-;omega
end
section
variable{P:Program} {T:fh} {n:Nat} {Q:Exit->Fr->eB->Prop} {fr:Fr} {H:eB}
def SR.drew{G0:Nat->Nat}{F0:lN}{n0:Nat}{w0:World}{a:Act}{w:World}(hs:SR T n G0 F0 n0 w0 fr H a w):SR T n G0 F0 n0 w0 fr H a w.drew:=by
 obtain⟨ρ,F,R,hw,b⟩:=hs;exact⟨ρ,F,R,hw.drew,b.drew⟩
def gJ.MW{id:Nat}{ops:Array Oper}(E:List Nat)(q:Bool)(sf:Nat->Bool)(hm:P.follows .mixedOrders=true)(c:yo n ops=true)(d:xI E ops sf=true)
  (h:F3 P T E ops q sf (List.range ops.size) (Q .normal) fr H):gJ P T n (.region id ops true) Q fr H:=by
 intro G0 F0 n0 w0 a w hs;refine wp_region_any hm ?_
 have b:vz ops (Array.replicate ops.size false)=List.range ops.size:=by
  unfold vz
  simp_all
 have:=SE (Q:=λe f w'=>∃fr' H',Q e fr' H'/\SR T n G0 F0 n0 w0 fr' H' f w') d c (λfr' H' f w' g k=>⟨fr',H',g,k⟩) ops.size (Array.replicate ops.size false) fr H a w.drew (by simp)
  (by intro i j hi m l;simp[hi] at l) (by rw[b];simp) hs.drew (by rw[b];exact h)
 exact this
def sD(P:Program)(T:fh)(E:List Nat)(opsA:Array Oper)(q:Bool):List Oper->(Fr->eB->Prop)->Fr->eB->Prop
 |[],K,fr,H=>K fr H|o::rest,K,fr,H=>nu P T E opsA q true o (λfr H=>sD P T E opsA q rest K fr H) fr H
def KM{E:List Nat}{ops:Array Oper}{q:Bool}{K:Fr->eB->Prop}:∀(l:List Oper) (k:Nat) (fr:Fr) (H:eB),l=ops.toList.drop k->sD P T E ops q l K fr H->F3 P T E ops q (λ_=>true) (List.range' k l.length) K fr H:=by
 intro l
 induction l with
 |nil=>intro k fr H _ h;exact h|cons o l c=>
  intro k fr H a h
  have b:k<ops.toList.length:=by
   rcases sV k ops.toList.length with h'|h'
   ·exact h'
   ·rw[Iz h'] at a;cases a
  have d:=Kq b;rw[d] at a;injection a with f e
  have hi:ops[k]?=some o:=by grind
  simp only[l5,Xv,F3,hi];exact BH (λfr H h=>c (k+1) fr H e h) h
def gJ.Ur{id:Nat}{ops:Array Oper}(E:List Nat)(q:Bool)(hm:P.follows .mixedOrders=true)(a:yo n ops=true)(b:xI E ops (λ_=>true)=true)
  (h:sD P T E ops q ops.toList (Q .normal) fr H):gJ P T n (.region id ops true) Q fr H:=by
 refine gJ.MW E q (λ_=>true) hm a b ?_;have:=KM (K:=Q .normal) ops.toList 0 fr H (by simp) h;rw[Xw]
 grind
end
end Go.nd
namespace Go.nd
open Go
section
variable{P:Program} {T:fh} {n:Nat} {Q:Exit->Fr->eB->Prop} {fr:Fr} {H:eB}
def gJ.ux{x y:Code}(h:∀K:Fr->eB->Prop,(∀fr H,gJ P T n y Q fr H->K fr H)->gJ P T n x (F5 K Q) fr H):gJ P T n (.seq x y) Q fr H:=
 gJ.seq (h _ λ_ _ h=>h)
def gJ.z_{id:Nat}{c:Code}(h:∀Q':Exit->Fr->eB->Prop,(∀fr H,Q .normal fr H->Q' .normal fr H)->(∀fr H,Q .normal fr H->Q' (.exit id) fr H)->(∀a fr H,a≠id->Q (.exit a) fr H->Q' (.exit a) fr H)->(∀fr H,Q .ret fr H->Q' .ret fr H)->gJ P T n c Q' fr H):gJ P T n (.block id c) Q fr H:=by
 refine gJ.block (h (HE id Q) (λ_ _ h=>h) (λ_ _ h=>?_) (λa _ _ b h=>?_) (λ_ _ h=>h))
 ·simp only[HE,if_true];exact h
 ·simp only[HE,ea b];exact h
end
@[simp] theorem VD(K:Fr->eB->Prop)(Q:Exit->Fr->eB->Prop):F5 K Q .normal=K:=rfl
end Go.nd
