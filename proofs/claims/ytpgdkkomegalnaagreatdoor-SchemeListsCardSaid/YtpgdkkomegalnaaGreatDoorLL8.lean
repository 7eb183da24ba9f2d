/- Part of the proof of SchemeLists: layer. -/
import Derived.Test.YtpgdkkomegalnaaGreatDoorLL7
set_option linter.all false
namespace Go.kY
open Go
theorem Av{α:Type}(f:Nat->α){i j:Nat}(h:i≠j)(x y:α):gK (gK f i x) j y=gK (gK f j y) i x:=by grind[gK]
def kO(fr:Fr)(d:Nat)(cs:List AV):Fr:=
 {fr with env:=gK fr.env d (.h9 d (fr.gen d+1) 0),box:=gK fr.box d (some cs),gen:=gK fr.gen d (fr.gen d+1)}
def Bn(P:Program)(T:eN)(fr:Fr)(o:Oper):Option (List AV):=
 match o.op with
 |.alloc t=>j6 P t|.box _ x=>if fw (ev T fr x) then some (ev T fr x).cells else none|_=>none
inductive mB where
 |grow (tag:Tag) (l m:List AV)|same (l:List AV)
def mB.fr(fr:Fr)(d:Nat):mB->Fr
 |.grow tag l m=>grown fr d tag l m|.same l=>fr.put (some d) (.slice .gI l)
def Pl(P:Program)(T:eN)(fr:Fr)(c:Call)(x:mB):Prop:=
 ∃s y t e sz tag a l m,c.args.toList=[s,y]/\c.argTypes.toList=[t,t]/\oi P t=some (e,sz)/\ev T fr s=.slice tag l/\ev T fr y=.slice a m/\la sz l=true/\la sz m=true/\l.length+m.length<=kc/\(o5 fr tag l=true/\x=.grow tag l m\/o5 fr tag l=false/\m=[]/\x=.same l)
section
variable{P:Program} {T:eN} {E:List Nat} {ops:List Oper} {opsA:Array Oper} {q:Qt} {soft soft1 soft2:Bool} {o o1 o2:Oper} {K:Fr->dY->Prop} {fr fr1 fr2 fr':Fr} {H H1 H2 H':dY}
def aaK{c:Call}{dst:Option Nat}(h:m_ P T c dst (λf h=>f=fr'/\h=H') fr H):∃d x,dst=some d/\Pl P T fr c x/\fr'=x.fr fr d/\H'=H:=by
 unfold m_ at h
 split at h
 ·rename_i d s y t k a b
  split at h
  ·rename_i e sz tag l i m n o q;obtain⟨rfl,g2,g3,g4,g5⟩:=h
   split at g5
   ·rename_i j;exact⟨d,.grow tag l m,rfl,⟨s,y,k,e,sz,tag,i,l,m,a,b,n,o,q,g2,g3,g4,.inl ⟨j,rfl⟩⟩,g5.1.symm,g5.2.symm⟩
   ·rename_i j;exact⟨d,.same l,rfl,⟨s,y,k,e,sz,tag,i,l,m,a,b,n,o,q,g2,g3,g4,.inr ⟨by simpa using j,g5.1,rfl⟩⟩,g5.2.1.symm,g5.2.2.symm⟩
  ·grind
 ·exact h.elim
def acU{c:Call}{d:Nat}{x:mB}(h:Pl P T fr c x)(b:K (x.fr fr d) H):m_ P T c (some d) K fr H:=by
 obtain⟨s,y,t,e,sz,tag,f,l,m,i,j,k,n,o,q,r,u,v⟩:=h;unfold m_;rw[i,j];simp only[k,n,o];refine⟨trivial,q,r,u,?_⟩;rcases v with⟨a,rfl⟩|⟨a,hm,rfl⟩
 ·rw[dR a];exact b
 ·rw[dK (by simp[a])];exact⟨hm,b⟩
def Pl.congr{c:Call}{x:mB}(f:Pl P T fr c x)(he:∀y∈c.args.toList,ev T fr y=ev T fr' y)(h:fr'.qh=fr.qh)(hg:fr'.fi=fr.fi):Pl P T fr' c x:=by
 obtain⟨s,y,t,e,sz,tag,a,l,m,b,i,j,k,n,o,q,r,u⟩:=f
 have d:o5 fr' tag l=o5 fr tag l:=by unfold o5;rw[h,hg]
 exact⟨s,y,t,e,sz,tag,a,l,m,b,i,j,by rw[<-he s (by rw[b];simp)];exact k,by rw[<-he y (by rw[b];simp)];exact n,o,q,r,by rw[d];exact u⟩
def yg(a:gd E ops o=.val\/∃r,gd E ops o=.load r)(h:nW P T E ops q soft o fr H fr' H'):∃v,nw P T E ops q soft fr H o=some v/\fr'=fr.put o.dst v/\H'=H:=by grind[nW,gd,hU]
def BQ{v:AV}(h:nw P T E ops q soft fr H o=some v):nW P T E ops q soft o fr H (fr.put o.dst v) H:=by grind[nW,nw,hU]
def wP{d:Option Nat}(k:gd E ops o=.alloc d)(h:nW P T E ops q soft o fr H fr' H'):∃a cs,d=some a/\o.dst=some a/\E.contains a=false/\Bn P T fr o=some cs/\fr'=kO fr a cs/\H'=H:=by
 unfold nW at h;obtain⟨dst,op,type,pos,after,guard⟩:=o
 have key:∀{cs:List AV} {a:Nat},dst=some a->E.contains a=false->kW E dst cs (λf h=>f=fr'/\h=H') fr H->fr'=kO fr a cs/\H'=H:=by
  intro cs a l n i;subst l;unfold kW at i;simp only at i;rw[dK (by simp only[n];simp)] at i;exact⟨i.1.symm,i.2.symm⟩
 have b:(∃t,op=.alloc t)\/(∃t x,op=.box t x)->∃a,d=some a/\dst=some a/\E.contains a=false:=by
  intro j
  have:(match dst with|some d=>if E.contains d then Yu.B8 else .alloc (some d)|none=>.B8)=.alloc d:=by
   rcases j with⟨t,rfl⟩|⟨t,x,rfl⟩<;>exact k
  grind
 cases op with
 |alloc t=>
  obtain⟨a,r,s,u⟩:=b (.inl ⟨t,rfl⟩)
  grind[hU,Bn]
 |box t x=>
  obtain⟨a,r,s,u⟩:=b (.inr ⟨t,x,rfl⟩)
  grind[hU,Bn]
 |call c=>grind[gd]|_=>simp[gd] at k
def w9{d:Nat}{cs:List AV}(a:o.dst=some d)(b:E.contains d=false)(h:Bn P T fr o=some cs):nW P T E ops q soft o fr H (kO fr d cs) H:=by grind[nW,kW,kO,Bn,hU]
def vw(h:∀x∈o.op.operands,ev T fr x=ev T fr' x):Bn P T fr o=Bn P T fr' o:=by
 obtain⟨dst,op,type,pos,after,guard⟩:=o;cases op with
 |box t x=>simp only[Bn];rw[h x (by simp[Op.operands])]|_=>rfl
def EU(u:gd E ops o=.B8)(h:nW P T E ops q soft o fr H fr' H'):∃r,fr'=fr.put o.dst r/\(soft=true->QK q H H')/\∀f:Fr,(∀x∈o.op.operands,ev T fr x=ev T f x)->nW P T E ops q soft o f H (f.put o.dst r) H':=by
 unfold nW at h;obtain⟨dst,op,type,pos,after,guard⟩:=o
 have a:∀{cs:List AV},((∃t,op=.alloc t)\/(∃t x,op=.box t x))->kW E dst cs (λf h=>f=fr'/\h=H') fr H->∃d,dst=some d/\E.contains d=true/\fr'=fr.put dst (.fb H.length 0)/\H'=H++[cs.map AV.kg]/\∀f:Fr,kW E dst cs (λB h=>B=f.put dst (.fb H.length 0)/\h=H') f H:=by
  intro cs v i
  have hm:(match dst with|some d=>if E.contains d then Yu.B8 else .alloc (some d)|none=>.B8)=.B8:=by
   rcases v with⟨t,rfl⟩|⟨t,x,rfl⟩<;>exact u
  unfold kW at i
  split at i
  ·rename_i d
   split at i
   ·rename_i s;refine⟨d,rfl,s,i.1.symm,i.2.symm,λf=>?_⟩;unfold kW;simp only;rw[dR s];exact⟨rfl,i.2⟩
   ·rename_i s;simp only[dK s] at hm;cases hm
  ·exact i.elim
 cases op with
 |alloc t=>
  simp only[hU] at h
  split at h
  ·rename_i z C;obtain⟨d,k,j,l,w,y⟩:=a (.inl ⟨t,rfl⟩) h.2;refine⟨_,l,?_,λf n=>?_⟩
   ·intro hs;have:=h.1 hs;rw[k] at this;exact absurd this (by simp only[aeT,j];simp)
   ·unfold nW;simp only[hU,C];exact⟨h.1,y f⟩
  ·exact h.elim
 |box t x=>
  simp only[hU] at h;obtain⟨d,k,j,l,w,y⟩:=a (.inr ⟨t,x,rfl⟩) h.2.2;refine⟨_,l,?_,λf n=>?_⟩
  ·intro hs;have:=h.2.1 hs;rw[k] at this;exact absurd this (by simp only[aeT,j];simp)
  ·unfold nW;simp only[hU];have e:=n x (by simp[Op.operands]);refine⟨by rw[<-e];exact h.1,h.2.1,?_⟩;rw[<-e];exact y f
 |call c=>
  obtain⟨callee,args,tys⟩:=c;cases callee with
  |builtin b=>cases b<;>simp[gd] at u
  |value g=>
   simp only[hU] at h;obtain⟨r,A,k,j,l,w⟩:=h;subst w;refine⟨r,l.symm,j,λf n=>?_⟩;unfold nW;simp only[hU];refine⟨r,A,?_,j,rfl,rfl⟩
   have D:(args.toList.map λx=>(ev T fr x).norm)=args.toList.map λx=>(ev T f x).norm:=
    tQ λx F=>by rw[n x (by simp[Op.operands,Call.operands,ye.1 F])]
   rw[<-D,<-n g (by simp[Op.operands,Call.operands])];exact k
  |invoke r m=>simp only[hU] at h
 |_=>simp[gd] at u
theorem EA(a:gd E ops o=.app)(h:nW P T E ops q soft o fr H fr' H'):∃d x,o.dst=some d/\fr'=mB.fr fr d x/\H'=H/\∀(f:Fr) (h:dY),(∀x∈o.op.operands,ev T fr x=ev T f x)->f.qh=fr.qh->f.fi=fr.fi->nW P T E ops q soft o f h (mB.fr f d x) h:=by
 unfold nW at h;obtain⟨dst,op,type,pos,after,guard⟩:=o;cases op with
 |call c=>
  obtain⟨callee,args,tys⟩:=c;cases callee with
  |builtin b=>
   cases b with
   |append=>
    obtain⟨d,x,j,k,l,n⟩:=aaK h;subst j;refine⟨d,x,rfl,l,n,λf h he s hg=>?_⟩;unfold nW;simp only[hU];refine acU (k.congr (λy i=>he y ?_) s hg) ⟨rfl,rfl⟩;simp only at i;simp[Op.operands,Call.operands,ye.1 i]
   |_=>simp[gd] at a
  |value g=>simp[gd] at a
  |invoke r m=>simp[gd] at a
 |alloc t=>grind[gd]|box t x=>grind[gd]|_=>simp[gd] at a
def V0{r:Option Nat}(d:gd E ops o=.L7 r)(h:nW P T E ops q soft o fr H fr' H'):fr'.env=fr.env/\fr'.gen=fr.gen/\fr'.qh=fr.qh/\fr'.fi=fr.fi/\o.dst=none/\(∀b,r≠some b->fr'.box b=fr.box b)/\(soft=true->H'=H):=by
 unfold nW at h;obtain⟨dst,op,type,pos,after,guard⟩:=o;cases op with
 |store t x y=>
  simp only[gd,Yu.L7.injEq] at d;simp only[hU] at h;obtain⟨f,i,j,a⟩:=h;unfold lP at a
  split at a
  ·exact a.elim
  ·split at a
   ·rename_i b g off k
    split at a
    ·obtain⟨_,_,_,_,g1,g2⟩:=a;subst g1;subst g2
     grind[qW,gK,Bf]
    ·exact a.elim
   all_goals grind[isL]
 |call c=>grind[gd]|alloc t=>grind[gd]|box t x=>grind[gd]|_=>simp[gd] at d
theorem Ee(fr:Fr)(d:Nat):fr.put (some d) (fr.env d)=fr:=by
 simp only[Fr.put]
 have:gK fr.env d (fr.env d)=fr.env:=by grind[gK]
 rw[this]
theorem H4(fr:Fr)(d:Nat)(x y:AV):(fr.put (some d) x).put (some d) y=fr.put (some d) y:=by grind[Fr.put,Mv]
structure Left (c:Yu) (dst:Option Nat) (soft:Bool) (q:Qt) (fr:Fr) (H:dY) (fr':Fr) (H':dY):Prop where
 env:∀t,dst≠some t->fr'.env t=fr.env t
 box:∀b,c≠ .alloc (some b)->c≠ .L7 (some b)->fr'.box b=fr.box b/\fr'.gen b=fr.gen b
 heap:c≠ .B8->(∀r,c=.L7 r->soft=true)->H'=H
 quiet:soft=true->QK q H H'
def mB.left(fr:Fr)(d:Nat)(x:mB):(∀t,t≠d->(mB.fr fr d x).env t=fr.env t)/\(mB.fr fr d x).box=fr.box/\(mB.fr fr d x).gen=fr.gen:=by
 cases x with
 |grow tag l m=>exact⟨λt a=>by show gK _ _ _ t=_;rw[Bf _ _ _ _ a],rfl,rfl⟩|same l=>exact⟨λt a=>by show gK _ _ _ t=_;rw[Bf _ _ _ _ a],rfl,rfl⟩
def p9(h:nW P T E ops q soft o fr H fr' H'):Left (gd E ops o) o.dst soft q fr H fr' H':=by
 have a:∀(v:AV) (t:Nat),o.dst≠some t->(fr.put o.dst v).env t=fr.env t:=by
  intro v t j;rw[Fr.tV,dK j]
 cases i:gd E ops o with
 |val=>
  obtain⟨v,_,rfl,rfl⟩:=yg (.inl i) h;obtain⟨c,f,_,_⟩:=Fr.x_ fr o.dst v;exact⟨a v,λb _ _=>⟨by rw[c],by rw[f]⟩,λ_ _=>rfl,λ_=>.refl⟩
 |load r=>
  obtain⟨v,_,rfl,rfl⟩:=yg (.inr ⟨r,i⟩) h;obtain⟨c,f,_,_⟩:=Fr.x_ fr o.dst v;exact⟨a v,λb _ _=>⟨by rw[c],by rw[f]⟩,λ_ _=>rfl,λ_=>.refl⟩
 |alloc d=>
  obtain⟨u,cs,rfl,l,_,_,rfl,rfl⟩:=wP i h;refine⟨λt j=>?_,λb n _=>?_,λ_ _=>rfl,λ_=>.refl⟩
  ·show gK _ _ _ t=_;rw[Bf];rintro rfl;exact j l
  ·have k:b≠u:=by rintro rfl;exact n rfl
   exact⟨Bf _ _ _ _ k,Bf _ _ _ _ k⟩
 |B8=>
  obtain⟨r,rfl,w,_⟩:=EU i h;obtain⟨c,f,_,_⟩:=Fr.x_ fr o.dst r;exact⟨a r,λb _ _=>⟨by rw[c],by rw[f]⟩,λhn _=>absurd rfl hn,w⟩
 |app=>
  obtain⟨d,x,l,rfl,rfl,_⟩:=EA i h;obtain⟨g1,g2,g3⟩:=mB.left fr d x;exact⟨λt j=>g1 t (by rintro rfl;exact j l),λb _ _=>⟨by rw[g2],by rw[g3]⟩,λ_ _=>rfl,λ_=>.refl⟩
 |L7 r=>
  obtain⟨c,f,A,B,C,y,s⟩:=V0 i h;exact⟨λt _=>by rw[c],λb _ n=>⟨y b (λe=>n (by rw[e])),by rw[f]⟩,λ_ hs=>s (hs r rfl),λhs=>by rw[s hs];exact .refl⟩
def Ph{d:Nat}(v:AV)(b:d∉o.looksAt opsA)(a:o.dst≠some d)(h:nW P T E ops q soft o fr H fr' H'):nW P T E ops q soft o (fr.put (some d) v) H (fr'.put (some d) v) H':=by
 have c:hU P T E ops q soft o (λf h=>f=fr'/\h=H') ((fr.put (some d) v).put (some d) (fr.env d)) H:=by
  rw[H4,Ee];exact h
 obtain⟨f,j,i,k,l⟩:=tk (Lc (opsA:=opsA) b a c);have he:=(p9 i).env d a
 grind[H4,Fr.tV,Ee]
def Jn{d:Nat}{v:AV}(b:d∉o.looksAt opsA)(a:o.dst≠some d)(h:nW P T E ops q soft o (fr.put (some d) v) H fr' H'):∃f,nW P T E ops q soft o fr H f H'/\f.put (some d) v=fr':=by
 obtain⟨f,c,i,j,k⟩:=tk (Lc (opsA:=opsA) b a h)
 grind
theorem JU{x:Operand}{t:Nat}(a:x∈o.op.operands)(b:x=.tmp t):t∈o.looksAt opsA:=by
 subst b;exact ahO _ (ahT.2 ⟨.tmp t,by simpa using a,rfl⟩)
def EG{c:Yu}{dst:Option Nat}(a:Left c dst soft q fr H fr' H')(b:∀d,dst=some d->d∉o.looksAt opsA):∀x∈o.op.operands,ev T fr x=ev T fr' x:=by
 intro x f;refine Er λt h=>?_;rw[a.env]
 grind[JU]
def Fh{c:Yu}{dst:Option Nat}(s:Left c dst soft2 q fr H fr' H')(D:∀d,dst=some d->d∉o.looksAt opsA)(j:xh (gd E ops o) c=true)
  (hs:∀r,gd E ops o=.load r->(c=.B8->soft=true/\soft2=true)/\(∀F,c=.L7 F->soft2=true)) {v:AV} (hv:nw P T E ops q soft fr H o=some v\/nw P T E ops q soft fr' H' o=some v):nw P T E ops q soft fr H o=nw P T E ops q soft fr' H' o:=by
 have u:=EG (T:=T) (opsA:=opsA) s D
 by_cases k:∃t x,o.op=.load t x
 ·obtain⟨t,x,a⟩:=k;have G:=u x (by rw[a];simp[Op.operands])
  have l:gd E ops o=.load (Gh ops x):=by unfold gd;rw[a]
  obtain⟨w,y⟩:=hs _ l;rw[l] at j
  have n:qW ops x (ev T fr x)=true/\(!soft||q.ok (ev T fr x))=true:=by
   have:∀(f:Fr) (h:dY),nw P T E ops q soft f h o=some v->ev T f x=ev T fr x->qW ops x (ev T fr x)=true/\(!soft||q.ok (ev T fr x))=true:=by
    intro f h hv he;unfold nw at hv;rw[a] at hv;simp only at hv
    split at hv
    ·rename_i B;rw[he] at B;simpa using B
    ·cases hv
   rcases hv with hv|hv
   ·exact this fr H hv rfl
   ·exact this fr' H' hv G.symm
  refine y9 u (λL M he=>?_) (λ_ _ _ _ he=>by rw[a] at he;cases he);rw[a] at he;injection he with I J;subst I;subst J;refine⟨λb g off K=>?_,λo' C hg=>?_⟩
  ·have A:Gh ops x=some b:=by
    have:=n.1;rw[K] at this;simpa[qW] using this
   rw[A] at j;have:=s.box b (by rintro rfl;simp[xh] at j) (by rintro rfl;simp[xh] at j);exact⟨this.1.symm,this.2.symm⟩
  ·by_cases he:c=.B8
   ·obtain⟨g1,g2⟩:=w he
    have hq:q.all=true\/q.st o'=true:=by
     have:=n.2;rw[g1,hg] at this;simpa[Qt.ok] using this
    rcases hq with hq|hq
    ·rw[(s.quiet g2).1 hq]
    ·exact((s.quiet g2).2 o' hq).symm
   ·rw[s.heap he y]
 ·refine y9 u (λt x he=>absurd ⟨t,x,he⟩ k) λt x i ok a=>?_
  have l:gd E ops o=.load none:=by unfold gd;rw[a]
  obtain⟨w,y⟩:=hs _ l
  have hq:(!soft||q.all)=true:=by
   have:∀(f:Fr) (h:dY),nw P T E ops q soft f h o=some v->(!soft||q.all)=true:=by
    intro f h hv;unfold nw at hv;rw[a] at hv;simp only at hv
    split at hv
    ·rename_i B;exact B
    ·cases hv
   rcases hv with hv|hv
   ·exact this _ _ hv
   ·exact this _ _ hv
  by_cases he:c=.B8
  ·obtain⟨g1,g2⟩:=w he;rw[g1] at hq;exact((s.quiet g2).1 (by simpa using hq)).symm
  ·exact(s.heap he y).symm
def LW(fr:Fr){d b:Nat}(h:d≠b)(cs a:List AV):kO (kO fr d cs) b a=kO (kO fr b a) d cs:=by
 simp only[kO,Bf _ _ _ _ h,Bf _ _ _ _ h.symm]
 grind[Av]
theorem A5(fr:Fr){d:Nat}{d2:Option Nat}(h:d2≠some d)(cs:List AV)(r:AV):(kO fr d cs).put d2 r=kO (fr.put d2 r) d cs:=by
 cases d2 with
 |none=>rfl|some a=>grind[kO,Fr.put,Av]
theorem SD(fr:Fr){d:Nat}{d2:Option Nat}(h:d2≠some d)(x:mB)(r:AV):mB.fr (fr.put d2 r) d x=(mB.fr fr d x).put d2 r:=by
 cases d2 with
 |none=>rfl|some b=>
  have a:b≠d:=λe=>h (by rw[e]);cases x with
  |grow tag l m=>
   simp only[mB.fr,grown,Fr.put]
   grind[Av]
  |same l=>exact m5 fr a r (.slice .gI l)
def GQ(fr:Fr){d a:Nat}(h:d≠a)(cs:List AV)(x:mB):mB.fr (kO fr d cs) a x=kO (mB.fr fr a x) d cs:=by
 cases x with
 |grow tag l m=>
  simp only[mB.fr,grown,kO]
  grind[Av]
 |same l=>grind[mB.fr,Fr.put,kO,Av]
def Ul(X:o1.apart opsA o2=true)(a:xh (gd E ops o1) (gd E ops o2)=true)
  (Y:∀r,gd E ops o1=.load r->(gd E ops o2=.B8->soft1=true/\soft2=true)/\(∀O,gd E ops o2=.L7 O->soft2=true))
  (Z:∀r,gd E ops o2=.load r->(gd E ops o1=.B8->soft2=true/\soft1=true)/\(∀O,gd E ops o1=.L7 O->soft1=true))
  (K:nW P T E ops q soft1 o1 fr H fr1 H1) (J:nW P T E ops q soft2 o2 fr1 H1 fr2 H2):∃f h,nW P T E ops q soft2 o2 fr H f h/\nW P T E ops q soft1 o1 f h fr2 H2:=by
 obtain⟨a1,a2,a3⟩:=Oper.apart_spec X
 by_cases L:gd E ops o1=.val\/∃r,gd E ops o1=.load r
 ·obtain⟨v,Q,c,M⟩:=yg L K;subst M
  have ad:∃f,nW P T E ops q soft2 o2 fr H1 f H2/\f.put o1.dst v=fr2:=by
   cases w:o1.dst with
   |none=>rw[w] at c;subst c;exact⟨fr2,J,rfl⟩
   |some d=>rw[w] at c;subst c;exact Jn (opsA:=opsA) (a1 d w) (a2 d w) J
  obtain⟨f,R,ae⟩:=ad;have A:xh (gd E ops o1) (gd E ops o2)=true:=a;have:=Fh (o:=o1) (soft:=soft1) (p9 R) a3 A Y (.inl Q);refine⟨f,H2,R,?_⟩;rw[<-ae];exact BQ (by rw[<-this];exact Q)
 ·--ak second one only N
  by_cases n:gd E ops o2=.val\/∃r,gd E ops o2=.load r
  ·obtain⟨v,Q,c,M⟩:=yg n J;subst M
   have A:xh (gd E ops o2) (gd E ops o1)=true:=by
    revert a
    cases gd E ops o1<;>cases gd E ops o2<;>simp[xh]<;>(intro h e;exact h e.symm)
   have:=Fh (o:=o2) (soft:=soft2) (p9 K) a1 A Z (.inr Q);refine⟨fr.put o2.dst v,H,BQ (by rw[this];exact Q),?_⟩;rw[c];cases w:o2.dst with
   |none=>exact K|some d=>exact Ph (opsA:=opsA) v (a3 d w) (λe=>a2 d e w) K
  ·--S
   have af:=p9 K;have l:∀x∈o2.op.operands,ev T fr x=ev T fr1 x:=EG (T:=T) (opsA:=opsA) af a1;have C:∀{f:Fr} {h:dY} (U:nW P T E ops q soft2 o2 fr H f h),∀x∈o1.op.operands,ev T fr x=ev T f x:=λU=>EG (T:=T) (opsA:=opsA) (p9 U) a3;cases j:gd E ops o1 with
   |val=>exact absurd (.inl j) L|load r=>exact absurd (.inr ⟨r,j⟩) L|L7 r=>
    rw[j] at a;cases b:gd E ops o2 with
    |val=>exact absurd (.inl b) n|load O=>exact absurd (.inr ⟨O,b⟩) n|_=>rw[b] at a;simp[xh] at a
   |alloc d1=>
    obtain⟨d,cs,rfl,w,ah,ai,c,M⟩:=wP j K;subst M
    have back:∀{f:Fr} {h:dY} (U:nW P T E ops q soft2 o2 fr H1 f h),nW P T E ops q soft1 o1 f h (kO f d cs) h:=λU=>
     w9 w ah (by rw[<-vw (C U)];exact ai)
    cases b:gd E ops o2 with
    |val=>exact absurd (.inl b) n|load r=>exact absurd (.inr ⟨r,b⟩) n|L7 r=>rw[j,b] at a;simp[xh] at a
    |alloc d2=>
     obtain⟨I,D,rfl,k,F,t,i,B⟩:=wP b J;subst B;have G:d≠I:=λe=>a2 d w (by rw[k,e]);have hn:nW P T E ops q soft2 o2 fr H2 (kO fr I D) H2:=w9 k F (by rw[vw l];exact t);refine⟨_,_,hn,?_⟩;rw[i,c,LW fr G];exact back hn
    |B8=>
     obtain⟨r,i,_,u⟩:=EU b J;have hn:=u fr λx V=>(l x V).symm;refine⟨_,_,hn,?_⟩;rw[i,c,A5 fr (λe=>a2 d w e)];exact back hn
    |app=>
     obtain⟨I,x,k,i,B,u⟩:=EA b J;subst B;have G:d≠I:=λe=>a2 d w (by rw[k,e]);have hn:=u fr H2 (λx V=>(l x V).symm) (by rw[c];rfl) (by rw[c];rfl);refine⟨_,_,hn,?_⟩;rw[i,c,GQ fr G];exact back hn
   |B8=>
    obtain⟨r,c,_,s⟩:=EU j K;cases b:gd E ops o2 with
    |val=>exact absurd (.inl b) n|load r=>exact absurd (.inr ⟨r,b⟩) n|L7 r=>rw[j,b] at a;simp[xh] at a
    |B8=>rw[j,b] at a;simp[xh] at a
    |alloc d2=>
     obtain⟨I,D,rfl,k,F,t,i,B⟩:=wP b J;subst B;have hn:nW P T E ops q soft2 o2 fr H (kO fr I D) H:=w9 k F (by rw[vw l];exact t);refine⟨_,_,hn,?_⟩;rw[i,c,<-A5 fr (λe=>a2 I e k)];exact s _ λx V=>C hn x V
    |app=>grind[EA,Fr.x_,SD]
   |app=>
    obtain⟨d,x,w,c,M,s⟩:=EA j K;subst M;cases b:gd E ops o2 with
    |val=>exact absurd (.inl b) n|load r=>exact absurd (.inr ⟨r,b⟩) n|L7 r=>rw[j,b] at a;simp[xh] at a
    |app=>rw[j,b] at a;simp[xh] at a
    |alloc d2=>
     obtain⟨I,D,rfl,k,F,t,i,B⟩:=wP b J;subst B;have G:I≠d:=λe=>a2 d w (by rw[k,e]);have hn:nW P T E ops q soft2 o2 fr H2 (kO fr I D) H2:=w9 k F (by rw[vw l];exact t);refine⟨_,_,hn,?_⟩;rw[i,c,<-GQ fr G];exact s _ _ (λy W=>C hn y W) rfl rfl
    |B8=>
     obtain⟨r,i,_,u⟩:=EU b J;have hn:=u fr λy W=>(l y W).symm;obtain⟨e1,e2,e3,e4⟩:=Fr.x_ fr o2.dst r;refine⟨_,_,hn,?_⟩;rw[i,c,<-SD fr (λe=>a2 d w e)];exact s _ _ (λy W=>C hn y W) e3 e4
end
end Go.kY
namespace Go.kY
open Go
def hW(opsA:Array Oper)(o:Oper)(fr:Fr):Option Bool:=
 match o.guard with
 |none=>some true|some (j,want)=>
  match(opsA[j]?).bind (·.dst)with
  |some d=>match fr.env d with
   |.sc (.bool b)=>some (b==want)|.tuple _=>some false|_=>none
  |none=>none
def kf(E:List Nat)(o:Oper):Bool:=
 match o.op with
 |.call c=>(match c.callee with
  |.builtin .append=>o.dst.any E.contains|.value _=>o.dst.any E.contains|_=>false)
 |_=>false
def X6(c:Call):Bool:=
 match c.callee with
 |.value _=>true|_=>false
def aej(P:Program)(T:eN)(q:Qt)(soft:Bool)(a:AV)(as:List AV)(dst:Option Nat)(K:Fr->dY->Prop)(fr:Fr)(H:dY):Prop:=
 ∃Post:AV->dY->Prop,oZ P T a as H Post/\(∃r h,Post r h)/\∀r h,Post r h->(soft=true->QK q H h)/\K (fr.put dst r) h
def nM(P:Program)(T:eN)(q:Qt)(soft:Bool)(c:Call)(dst:Option Nat)(K:Fr->dY->Prop)(fr:Fr)(H:dY):Prop:=
 match c.callee with
 |.value f=>aej P T q soft (ev T fr f) (c.args.toList.map λx=>(ev T fr x).norm) dst K fr H|_=>o0 P T c dst K fr H
def TW(E:List Nat)(q:Qt)(x:Operand)(v:AV):Prop:=E.contains 999999=true->∃a off t,v=.fb a off/\x=.tmp t/\q.cl a=t
@[simp] theorem aiH{E:List Nat}{q:Qt}{x:Operand}{v:AV}(h:E.contains 999999=false):TW E q x v=True:=eq_true λa=>by rw[h] at a;cases a
def Gj(T:eN)(E:List Nat)(q:Qt)(fr:Fr)(o:Oper):Prop:=
 match o.op with
 |.store _ x _=>TW E q x (ev T fr x)|_=>True
def oW(o:Oper):Option Nat:=
 match o.op with
 |.store _ (.tmp t) _=>some t|_=>none
def zG(o:Oper):Bool:=
 match o.op with
 |.store _ _ _=>true|_=>false
def qP(P:Program)(T:eN)(E:List Nat)(ops:List Oper)(q:Qt)(soft:Bool)(o:Oper)(K:Fr->dY->Prop)(fr:Fr)(H:dY):Prop:=
 if kf E o then(match o.op with
  |.call c=>nM P T q soft c o.dst K fr H|_=>False)else if zG o then(Gj T E q fr o/\hU P T E ops q soft o K fr H)else hU P T E ops q soft o K fr H
def h8(P:Program)(T:eN)(E:List Nat)(opsA:Array Oper)(q:Qt)(soft:Bool)(o:Oper)(K:Fr->dY->Prop)(fr:Fr)(H:dY):Prop:=
 match hW opsA o fr with
 |some true=>qP P T E opsA.toList q soft o K fr H|some false=>K (fr.put o.dst (.tuple [])) H|none=>False
def M4(P:Program)(T:eN)(E:List Nat)(opsA:Array Oper)(q:Qt)(sf:Nat->Bool):List Nat->(Fr->dY->Prop)->Fr->dY->Prop
 |[],K,fr,H=>K fr H|i::rest,K,fr,H=>match opsA[i]?with
  |some o=>h8 P T E opsA q (sf i) o (λfr H=>M4 P T E opsA q sf rest K fr H) fr H|none=>False
section
variable{P:Program} {T:eN} {E:List Nat} {opsA:Array Oper} {q:Qt} {soft soft1 soft2:Bool} {o o1 o2:Oper} {K K':Fr->dY->Prop} {fr fr':Fr} {H H':dY}
def BT(h:kf E o=true):∃c d,o.op=.call c/\(c.callee=.builtin .append\/∃f,c.callee=.value f)/\o.dst=some d:=by
 unfold kf at h
 split at h
 ·have a:o.dst.any E.contains=true->∃d,o.dst=some d:=by
   intro h;cases a:o.dst with
   |none=>grind|some d=>exact⟨d,rfl⟩
  grind
 ·cases h
def qa{ops:List Oper}{c:Call}(h:kf E o=true)(a:o.op=.call c):qP P T E ops q soft o K fr H=nM P T q soft c o.dst K fr H:=by grind[qP]
theorem oJ{ops:List Oper}(h:kf E o=false):qP P T E ops q soft o K fr H=(Gj T E q fr o/\hU P T E ops q soft o K fr H):=by grind[qP,zG,Gj]
theorem Xc{ops:List Oper}(h:gd E ops o=.val\/∃r,gd E ops o=.load r):Gj T E q fr o:=by grind[Gj,gd]
def zB{f:Fr}(he:∀x∈o.op.operands,ev T fr x=ev T f x)(h:Gj T E q fr o):Gj T E q f o:=by
 unfold Gj TW at*
 split
 ·rename_i t x y a;rw[a] at h;intro b;obtain⟨c,off,s,d,i,j⟩:=h b;exact⟨c,off,s,by rw[<-he x (by rw[a];simp[Op.operands])];exact d,i,j⟩
 ·trivial
def BN{ops a:List Oper}(h:kf E o=false)(b:gd E a o=.val\/∃r,gd E a o=.load r):qP P T E ops q soft o K fr H=hU P T E ops q soft o K fr H:=by grind[oJ,Xc]
theorem MX{c:Call}{dst:Option Nat}(i:∀r h,K (fr.put dst r) h->K' (fr.put dst r) h)(h:o0 P T c dst K fr H):o0 P T c dst K' fr H:=by
 unfold o0 at*
 split at h
 ·split at h
  ·obtain⟨a,b,d,f,h⟩:=h;refine⟨a,b,d,f,?_⟩
   grind
  ·exact h
 ·exact h
theorem Ru{c:Call}{dst:Option Nat}(h:o0 P T c dst K fr H):∃r a,K (fr.put dst r) a:=by
 unfold o0 at h
 split at h
 all_goals grind
def Oy{c:Call}{dst:Option Nat}{d:Nat}{v:AV}(n:∀x∈c.args.toList,ev T (fr.put (some d) v) x=ev T fr x)(a:dst≠some d)(h:o0 P T c dst K (fr.put (some d) v) H):o0 P T c dst (λf h=>K (f.put (some d) v) h) fr H:=by
 unfold o0 at*
 split at h
 ·rename_i b s x t o i l;have j:b≠d:=λe=>a (by rw[e]);have k:∀y:AV,(fr.put (some b) y).put (some d) v=(fr.put (some d) v).put (some b) y:=λy=>m5 fr j y v
  simp_all
 ·exact h
theorem oZ.mono{a:AV}{as:List AV}{Post Post':AV->dY->Prop}(h:oZ P T a as H Post)(b:∀r h,Post r h->Post' r h):oZ P T a as H Post':=by
 unfold oZ at*
 split at h
 ·exact h.mono b
 ·exact h
theorem yE{c:Call}{dst:Option Nat}(d:∀r h,(X6 c=true->soft=true->QK q H h)->K (fr.put dst r) h->K' (fr.put dst r) h)(h:nM P T q soft c dst K fr H):nM P T q soft c dst K' fr H:=by
 unfold nM at*
 split at h
 ·obtain⟨Post,f,i,a⟩:=h;exact⟨Post,f,i,λr h b=>⟨(a r h b).1,d r h (λ_=>(a r h b).1) (a r h b).2⟩⟩
 ·grind[MX,X6]
def WM{c:Call}{dst:Option Nat}(h:nM P T q soft c dst K fr H):∃r a,(X6 c=true->soft=true->QK q H a)/\K (fr.put dst r) a:=by
 unfold nM at h
 split at h
 ·obtain⟨Post,b,⟨r,a,d⟩,f⟩:=h
  grind
 ·grind[Ru,X6]
def KZ{c:Call}{dst:Option Nat}{d:Nat}{v:AV}(b:∀x∈c.operands.toList,ev T (fr.put (some d) v) x=ev T fr x)(i:dst≠some d)(h:nM P T q soft c dst K (fr.put (some d) v) H):nM P T q soft c dst (λf h=>K (f.put (some d) v) h) fr H:=by
 have a:∀x∈c.args.toList,ev T (fr.put (some d) v) x=ev T fr x:=λx j=>b x (by
  unfold Call.operands;rw[Array.toList_append]
  exact List.mem_append_right _ j)
 unfold nM at*
 split at h
 ·rename_i f o;obtain⟨Post,k,s,l⟩:=h;rw[b f (by unfold Call.operands;rw[o];simp),tQ (g:=λx=>(ev T fr x).norm) (λx j=>by rw[a x j])] at k;refine⟨Post,k,s,λr h n=>⟨(l r h n).1,?_⟩⟩;have:=(l r h n).2;cases dst with
  |none=>exact this|some t=>grind[m5]
 ·exact Oy a i h
theorem IW(a:∀fr H,K fr H->K' fr H)(h:h8 P T E opsA q soft o K fr H):h8 P T E opsA q soft o K' fr H:=by
 unfold h8 at*
 split at h
 ·cases hg:kf E o with
  |true=>
   obtain⟨c,d,b,_,f⟩:=BT hg;rw[qa hg b] at h|-
   grind[yE]
  |false=>grind[oJ,IA]
 ·exact a _ _ h
 ·exact h
theorem Nw(h:qP P T E opsA.toList q soft o K fr H):qR P T E o K fr H:=by
 cases hg:kf E o with
 |true=>
  obtain⟨c,d,b,a,l⟩:=BT hg;rw[qa hg b] at h;unfold qR;rw[b];rcases a with a|⟨f,a⟩
  ·grind[nM]
  ·simp only[a];unfold nM at h;rw[a] at h;obtain⟨Post,i,_,j⟩:=h;exact i.mono λr h k=>(j r h k).2
 |false=>
  rw[oJ hg] at h;exact Nq h.2
def OA(h:h8 P T E opsA q soft o K fr H):E' P T E opsA o K fr H:=by grind[h8,hW,E',Nw]
theorem yN(h:∀t,t∈o.looksAt opsA->fr'.env t=fr.env t):hW opsA o fr'=hW opsA o fr:=by
 unfold hW;cases hg:o.guard with
 |none=>rfl|some p=>
  obtain⟨j,want⟩:=p;simp only
  cases a:(opsA[j]?).bind (·.dst)with
  |none=>rfl|some d=>
   have:d∈o.looksAt opsA:=by
    unfold Oper.looksAt
    grind
   grind
theorem kx{d:Option Nat}{v:AV}(h:∀a,d=some a->a∉o.looksAt opsA):hW opsA o (fr.put d v)=hW opsA o fr:=by grind[yN,Fr.tV]
def Dw{c:Yu}{dst:Option Nat}(b:Left c dst soft q fr H fr' H')(h:∀a,dst=some a->a∉o.looksAt opsA):hW opsA o fr'=hW opsA o fr:=by
 refine yN λt d=>b.env t ?_
 grind
def abM(E:List Nat)(opsA:Array Oper)(s1 s2:Bool)(o1 o2:Oper):Bool:=
 o1.apart opsA o2&&xh (gd E opsA.toList o1) (gd E opsA.toList o2)&&
 (match gd E opsA.toList o1,gd E opsA.toList o2 with
  |.load _,.B8=>s1&&s2|.B8,.load _=>s1&&s2|.load _,.L7 _=>s2|.L7 _,.load _=>s1|_,_=>true)
def Hf(o:Oper):Bool:=
 match o.op with
 |.call c=>X6 c|_=>false
def KO(E:List Nat)(o:Oper):Bool:=
 match o.op,o.dst with
 |.alloc _,some d=>!E.contains d|_,_=>false
def Lp(h:KO E o=true):∃t d,o.op=.alloc t/\o.dst=some d/\E.contains d=false:=by grind[KO]
def ZP(E:List Nat)(opsA:Array Oper)(s1 s2:Bool)(o1 o2:Oper):Bool:=
 match gd E opsA.toList o2 with
 |.val=>true|.load _=>Hf o1&&s1&&s2|.alloc _=>Hf o1&&KO E o2|_=>false
def OF{s1 s2:Bool}(h:ZP E opsA s1 s2 o1 o2=true):(gd E opsA.toList o2=.val\/(∃r,gd E opsA.toList o2=.load r)/\Hf o1=true/\s1=true/\s2=true)\/Hf o1=true/\KO E o2=true:=by grind[ZP]
def aa4(E:List Nat)(opsA:Array Oper)(s1 s2:Bool)(o1 o2:Oper):Bool:=
 if kf E o1||kf E o2 then
  o1.apart opsA o2&&(kf E o1&&!kf E o2&&ZP E opsA s1 s2 o1 o2||kf E o2&&!kf E o1&&ZP E opsA s2 s1 o2 o1)
 else if E.contains 999999&&(oW o1).isSome&&(oW o2).isSome&&oW o1 !=oW o2&&o1.dst==none&&o2.dst==none then true
 else abM E opsA s1 s2 o1 o2
def Xt{f:Fr}{h:dY}(b:gd E opsA.toList o=.val)(he:∀x∈o.op.operands,ev T fr x=ev T f x):nw P T E opsA.toList q soft fr H o=nw P T E opsA.toList q soft f h o:=by
 refine y9 he (λt x a=>?_) λt x i ok a=>?_
 all_goals grind[gd]
def JS{d:Option Nat}{v:AV}(b:∀a,d=some a->a∉o.looksAt opsA):∀x∈o.op.operands,ev T fr x=ev T (fr.put d v) x:=by grind[Er,Fr.tV,JU]
theorem Fo{d1 d2:Option Nat}(h:∀d,d1=some d->d2≠some d)(x y:AV):(fr.put d1 x).put d2 y=(fr.put d2 y).put d1 x:=by
 cases d1 with
 |none=>rfl|some a=>
  cases d2 with
  |none=>rfl|some b=>grind[m5]
theorem To{c:Call}(a:o.op=.call c){x:Operand}(b:x∈c.args.toList):x∈o.op.operands:=by
 rw[a];simp[Op.operands,Call.operands,ye.1 b]
def lY(h:h8 P T E opsA q soft o K fr H):hW opsA o fr=some true/\qP P T E opsA.toList q soft o K fr H\/hW opsA o fr=some false/\K (fr.put o.dst (.tuple [])) H:=by grind[h8]
def r9(hg:hW opsA o fr=some true)(h:qP P T E opsA.toList q soft o K fr H):h8 P T E opsA q soft o K fr H:=by grind[h8]
theorem tY(hg:hW opsA o fr=some false)(h:K (fr.put o.dst (.tuple [])) H):h8 P T E opsA q soft o K fr H:=by grind[h8]
def Jx{c:Call}(a:o.op=.call c){x:Operand}(b:x∈c.operands.toList):x∈o.op.operands:=by
 rw[a];exact ye.1 b
def abR{c:Call}(a:gd E opsA.toList o2=.val\/(∃r,gd E opsA.toList o2=.load r)/\Hf o1=true/\soft1=true/\soft2=true)(l:o1.op=.call c)(k:∀d,o1.dst=some d->d∉o2.looksAt opsA){r:AV}{f:dY}
  (n:X6 c=true->soft1=true->QK q H f) {v:AV} (s:nw P T E opsA.toList q soft2 fr H o2=some v\/nw P T E opsA.toList q soft2 (fr.put o1.dst r) f o2=some v):nw P T E opsA.toList q soft2 fr H o2=nw P T E opsA.toList q soft2 (fr.put o1.dst r) f o2:=by
 rcases a with a|⟨⟨rr,a⟩,i,u,w⟩
 ·exact Xt a (JS k)
 ·have j:X6 c=true:=by unfold Hf at i;rw[l] at i;exact i
  have x:Left .B8 o1.dst true q fr H (fr.put o1.dst r) f:=⟨λt y=>by rw[Fr.tV,dK y],λb _ _=>⟨by cases o1.dst<;>rfl,by cases o1.dst<;>rfl⟩,λh=>(h rfl).elim,λ_=>n j u⟩;refine Fh (o:=o2) (opsA:=opsA) x k (by rw[a];rfl) (λ_ _=>⟨λ_=>⟨w,rfl⟩,λ_ h=>by cases h⟩) s
def Oa(w:o1.apart opsA o2=true)(B:gd E opsA.toList o1=.val\/(∃r,gd E opsA.toList o1=.load r)/\Hf o2=true/\soft2=true/\soft1=true)(s:kf E o1=false)(i:kf E o2=true)(h:h8 P T E opsA q soft1 o1 (λfr H=>h8 P T E opsA q soft2 o2 K fr H) fr H):h8 P T E opsA q soft2 o2 (λfr H=>h8 P T E opsA q soft1 o1 K fr H) fr H:=by
 obtain⟨a1,a2,a3⟩:=Oper.apart_spec w;obtain⟨c,d2,u,_,F⟩:=BT i;have j:gd E opsA.toList o1=.val\/∃r,gd E opsA.toList o1=.load r:=B.imp id λh=>h.1
 have key:∃v,(∀r h,(X6 c=true->soft2=true->QK q H h)->K ((fr.put o2.dst r).put o1.dst v) h->h8 P T E opsA q soft1 o1 K (fr.put o2.dst r) h)/\h8 P T E opsA q soft2 o2 K (fr.put o1.dst v) H:=by
  rcases lY h with⟨k,n⟩|⟨k,n⟩
  ·rw[BN s j] at n;obtain⟨f1,H1,y,a⟩:=tk n;obtain⟨v,C,G,I⟩:=yg j y;rw[G,I] at a;refine⟨v,λr D A t=>r9 (by rw[kx a3,k]) ?_,a⟩;rw[BN s j];exact v_ (BQ (by rw[<-abR B u a3 A (.inl C)];exact C)) t
  ·exact⟨_,λr D _ t=>tY (by rw[kx a3,k]) t,n⟩
 obtain⟨v,back,n⟩:=key;rcases lY n with⟨l,a⟩|⟨l,a⟩
 ·rw[kx a1] at l;rw[qa i u] at a;refine r9 l ?_;rw[qa i u]
  have J:nM P T q soft2 c o2.dst (λf h=>K (f.put o1.dst v) h) fr H:=by
   cases b:o1.dst with
   |none=>rw[b] at a;exact a
   |some d=>rw[b] at a;exact KZ (λx L=>(JS (o:=o2) (opsA:=opsA) (d:=some d) (λM e=>by cases e;exact a1 d b) x (Jx u L)).symm) (a2 d b) a
  exact yE (λr D A t=>back _ _ A t) J
 ·grind[kx,Fo,tY,QK.refl]
def OJ(D:o1.apart opsA o2=true)(M:gd E opsA.toList o2=.val\/(∃r,gd E opsA.toList o2=.load r)/\Hf o1=true/\soft1=true/\soft2=true)(n:kf E o1=true)(A:kf E o2=false)(h:h8 P T E opsA q soft1 o1 (λfr H=>h8 P T E opsA q soft2 o2 K fr H) fr H):h8 P T E opsA q soft2 o2 (λfr H=>h8 P T E opsA q soft1 o1 K fr H) fr H:=by
 obtain⟨a1,a2,a3⟩:=Oper.apart_spec D;obtain⟨c,d1,C,_,N⟩:=BT n;have s:gd E opsA.toList o2=.val\/∃r,gd E opsA.toList o2=.load r:=M.imp id λh=>h.1
 have inv:∀{r:AV} {y:dY} {t:Fr->dY->Prop},(X6 c=true->soft1=true->QK q H y)->h8 P T E opsA q soft2 o2 t (fr.put o1.dst r) y->∃v,(hW opsA o2 fr=some true/\nw P T E opsA.toList q soft2 fr H o2=some v\/hW opsA o2 fr=some false/\v=.tuple [])/\t ((fr.put o1.dst r).put o2.dst v) y:=by
  intro r y t F O;rcases lY O with⟨a,b⟩|⟨a,b⟩
  ·rw[BN A s] at b;obtain⟨f1,H1,G,i⟩:=tk b;obtain⟨v,j,I,Q⟩:=yg s G;rw[I,Q] at i;exact⟨v,.inl ⟨by rw[<-kx (o:=o2) a1];exact a,by rw[abR M C a1 F (.inr j)];exact j⟩,i⟩
  ·exact⟨_,.inr ⟨by rw[<-kx (o:=o2) a1];exact a,rfl⟩,b⟩
 have fwd:∀{v:AV} {t:Fr->dY->Prop},(hW opsA o2 fr=some true/\nw P T E opsA.toList q soft2 fr H o2=some v\/hW opsA o2 fr=some false/\v=.tuple [])->t (fr.put o2.dst v) H->h8 P T E opsA q soft2 o2 t fr H:=by
  intro v t j k;rcases j with⟨a,j⟩|⟨a,rfl⟩
  ·refine r9 a ?_;rw[BN A s];exact v_ (BQ j) k
  ·exact tY a k
 have uniq:∀{v w:AV},(hW opsA o2 fr=some true/\nw P T E opsA.toList q soft2 fr H o2=some v\/hW opsA o2 fr=some false/\v=.tuple [])->(hW opsA o2 fr=some true/\nw P T E opsA.toList q soft2 fr H o2=some w\/hW opsA o2 fr=some false/\w=.tuple [])->v=w:=by
  intro v w b i;rcases b with⟨g1,b⟩|⟨g1,rfl⟩<;>rcases i with⟨g2,i⟩|⟨g2,rfl⟩
  ·rw[b] at i;exact kR i
  ·rw[g1] at g2;cases g2
  ·rw[g1] at g2;cases g2
  ·rfl
 rcases lY h with⟨u,b⟩|⟨u,b⟩
 ·rw[qa n C] at b;obtain⟨V,W,J,L⟩:=WM b;obtain⟨v,j,_⟩:=inv J L;refine fwd j (r9 (by rw[kx a3,u]) ?_);rw[qa n C]
  have i:nM P T q soft1 c o1.dst (λf h=>K (f.put o2.dst v) h) fr H:=yE (λr y F k=>by
   obtain⟨w,hw,k⟩:=inv F k;rw[uniq j hw]
   exact k) b
  cases l:o2.dst with
  |none=>rw[l] at i;exact i
  |some d=>
   rw[l] at i;have B:o1.dst≠some d:=λe=>a2 d e l
   have R:nM P T q soft1 c o1.dst (λf h=>K (f.put (some d) v) h) ((fr.put (some d) v).put (some d) (fr.env d)) H:=by
    rw[H4,Ee];exact i
   have S:=KZ (λx U=>(by
    have:=JS (o:=o1) (opsA:=opsA) (T:=T) (fr:=fr.put (some d) v) (d:=some d) (v:=fr.env d) (λX e=>by cases e;exact a3 d l) x (Jx C U)
    exact this.symm)) B R
   refine yE (λr y _ k=>?_) S
   have I:(((fr.put (some d) v).put o1.dst r).put (some d) (fr.env d)).put (some d) v=(fr.put (some d) v).put o1.dst r:=by
    rw[H4];have hs:=Ee ((fr.put (some d) v).put o1.dst r) d
    have he:((fr.put (some d) v).put o1.dst r).env d=v:=by
     rw[Fr.tV,dK B,Fr.tV,dR rfl]
    rw[he] at hs;exact hs
   rw[I] at k;exact k
 ·obtain⟨v,j,k⟩:=inv (λ_ _=>QK.refl) b;refine fwd j (tY (by rw[kx a3,u]) ?_);rw[<-Fo a2];exact k
def YF(d:Nat)(b:Bool)(z:List AV)(fr:Fr):Fr:=if b then kO fr d z else fr.put (some d) (.tuple [])
theorem Sf{d t:Nat}{b:Bool}{z:List AV}(h:t≠d):(YF d b z fr).env t=fr.env t:=by
 unfold YF
 split
 ·show gK fr.env d _ t=_
  grind[gK]
 ·grind[Fr.tV]
theorem HN{d:Nat}{b:Bool}{z:List AV}{a:Option Nat}(h:a≠some d)(v:AV):(YF d b z fr).put a v=YF d b z (fr.put a v):=by grind[YF,A5,Fo]
theorem yD{t:TypeId}{d:Nat}(a:o.op=.alloc t)(c:o.dst=some d)(i:E.contains d=false):h8 P T E opsA q soft o K fr H↔∃b z,hW opsA o fr=some b/\(b=true->j6 P t=some z)/\K (YF d b z fr) H:=by
 have hn:kf E o=false:=by unfold kf;rw[a]
 have hs:qP P T E opsA.toList q soft o K fr H=(match j6 P t with|some z=>K (kO fr d z) H|none=>False):=by
  unfold qP zG;rw[hn,a];simp only[oz,iU];unfold hU;rw[a];simp only;cases j6 P t with
  |none=>rfl|some z=>
   simp only;unfold kW;rw[c];simp only;rw[dK (by rw[i];decide)];refine propext ⟨λh=>h.2,λh=>⟨λ_=>?_,h⟩⟩;show E.contains d=false;exact i
 constructor
 ·intro h;rcases lY h with⟨hg,h⟩|⟨hg,h⟩
  ·rw[hs] at h
   split at h
   ·rename_i z f;exact⟨true,z,hg,λ_=>f,h⟩
   ·exact h.elim
  ·rw[c] at h;exact⟨false,[],hg,(λe=>by cases e),h⟩
 ·rintro⟨b,z,hg,f,h⟩;cases b with
  |true=>
   refine r9 hg ?_;rw[hs,f rfl];exact h
  |false=>
   refine tY hg ?_;rw[c];exact h
def ah_{d:Nat}{b:Bool}{z:List AV}(a:d∉o.looksAt opsA):∀x∈o.op.operands,ev T (YF d b z fr) x=ev T fr x:=by grind[Er,Sf,JU]
theorem DN{d:Nat}{b:Bool}{z:List AV}(a:d∉o.looksAt opsA):hW opsA o (YF d b z fr)=hW opsA o fr:=by grind[yN,Sf]
def Nz(h:Hf o=true):∃c f,o.op=.call c/\c.callee=.value f:=by grind[Hf,X6]
def Wu{c:Call}{f:Operand}{d:Nat}{b:Bool}{z:List AV}(h:o.op=.call c)(i:c.callee=.value f)(j:d∉o.looksAt opsA):ev T (YF d b z fr) f=ev T fr f/\(c.args.toList.map λx=>(ev T (YF d b z fr) x).norm)=c.args.toList.map λx=>(ev T fr x).norm:=by
 have he:=λx a=>ah_ (T:=T) (fr:=fr) (b:=b) (z:=z) j x a;refine⟨he f (Jx h (by unfold Call.operands;rw[i];simp)),tQ λx a=>?_⟩
 grind[To]
def N0(k:o1.apart opsA o2=true)(l:KO E o1=true)(n:Hf o2=true)(o:kf E o2=true)(h:h8 P T E opsA q soft1 o1 (λfr H=>h8 P T E opsA q soft2 o2 K fr H) fr H):h8 P T E opsA q soft2 o2 (λfr H=>h8 P T E opsA q soft1 o1 K fr H) fr H:=by
 obtain⟨a1,a2,a3⟩:=Oper.apart_spec k;obtain⟨t,d,u,j,v⟩:=Lp l;obtain⟨c,f,w,x⟩:=Nz n;have s:o2.dst≠some d:=a2 d j;obtain⟨b,z,hg,C,h⟩:=(yD u j v).1 h;rcases lY h with⟨a,i⟩|⟨a,i⟩
 ·rw[DN (a1 d j)] at a;refine r9 a ?_;rw[qa o w] at i|-;unfold nM at i|-;rw[x] at i|-;simp only at i|-;obtain⟨D,F⟩:=Wu (T:=T) (fr:=fr) (b:=b) (z:=z) w x (a1 d j);rw[D,F] at i;obtain⟨Post,G,I,y⟩:=i;refine⟨Post,G,I,λr A B=>⟨(y r A B).1,(yD u j v).2 ⟨b,z,by rw[kx a3,hg],C,?_⟩⟩⟩;rw[<-HN s];exact(y r A B).2
 ·grind[DN,tY,yD,kx,HN]
def N1(n:o1.apart opsA o2=true)(o:Hf o1=true)(s:KO E o2=true)(j:kf E o1=true)(h:h8 P T E opsA q soft1 o1 (λfr H=>h8 P T E opsA q soft2 o2 K fr H) fr H):h8 P T E opsA q soft2 o2 (λfr H=>h8 P T E opsA q soft1 o1 K fr H) fr H:=by
 obtain⟨a1,a2,a3⟩:=Oper.apart_spec n;obtain⟨t,d,u,a,v⟩:=Lp s;obtain⟨c,f,w,x⟩:=Nz o;have y:o1.dst≠some d:=λe=>a2 d e a;rcases lY h with⟨k,i⟩|⟨k,i⟩
 ·rw[qa j w] at i;unfold nM at i;rw[x] at i;simp only at i;obtain⟨Post,M,⟨C,D,F⟩,A⟩:=i;obtain⟨b,z,hg,G,_⟩:=(yD u a v).1 (A C D F).2;rw[kx a1] at hg;refine(yD u a v).2 ⟨b,z,hg,G,r9 (by rw[DN (a3 d a),k]) ?_⟩;rw[qa j w];unfold nM;rw[x];simp only;obtain⟨N,O⟩:=Wu (T:=T) (fr:=fr) (b:=b) (z:=z) w x (a3 d a);rw[N,O];refine⟨Post,M,⟨C,D,F⟩,λr I J=>⟨(A r I J).1,?_⟩⟩;obtain⟨Q,R,l,B,L⟩:=(yD u a v).1 (A r I J).2;rw[kx a1,hg] at l;obtain rfl:b=Q:=kR l;rw[HN y];cases b with
  |true=>
   obtain rfl:z=R:=kR (by rw[<-G rfl,<-B rfl]);exact L
  |false=>exact L
 ·grind[yD,kx,tY,DN,HN]
def ahq{t:TypeId}{a off:Nat}{v:AV}:lP P t (.fb a off) v K fr H↔∃agg n cs,fY P t=some (agg,n)/\H[a]?=some cs/\(vj cs=true/\v.cells.length=n/\off+n<=cs.length/\fw v=true)/\K fr (H.set a (setCells cs off v.norm.cells)):=by grind[lP]
theorem GB{s:Nat}(h:oW o=some s):∃t y,o.op=.store t (.tmp s) y:=by grind[oW]
def Zo{s:Nat}(h:oW o=some s):kf E o=false:=by grind[GB,kf]
def tu{ops:List Oper}{s:Nat}(l:E.contains 999999=true)(hs:oW o=some s):qP P T E ops q soft o K fr H↔
  ∃t y a off agg n cs,o.op=.store t (.tmp s) y/\o.dst=none/\ev T fr (.tmp s)=.fb a off/\q.cl a=s/\qW ops (.tmp s) (.fb a off)=true/\soft=false/\fY P t=some (agg,n)/\H[a]?=some cs/\(vj cs=true/\(ev T fr y).cells.length=n/\off+n<=cs.length/\fw (ev T fr y)=true)/\K fr (H.set a (setCells cs off (ev T fr y).norm.cells)):=by
 obtain⟨t,y,r⟩:=GB hs;rw[oJ (Zo hs)];unfold Gj TW hU;rw[r];simp only;constructor
 ·rintro⟨u,h,d,f,k⟩;obtain⟨a,off,A,c,i,j⟩:=u l;injection i with i;subst i;rw[c] at d f k;obtain⟨agg,n,cs,g1,g2,g3,g4⟩:=ahq.1 k;refine⟨t,y,a,off,agg,n,cs,rfl,h,c,j,d,?_,g1,g2,g3,g4⟩;cases b:soft with
  |false=>rfl|true=>have:=f b;simp[isL] at this
 ·rintro⟨B,C,a,off,agg,n,cs,v,h,c,j,d,f,g1,g2,g3,g4⟩;injection v with w D x;subst w;subst x;refine⟨λ_=>⟨a,off,s,c,rfl,j⟩,h,by rw[c];exact d,λb=>?_,?_⟩
  ·rw[f] at b;cases b
  ·rw[c];exact ahq.2 ⟨agg,n,cs,g1,g2,g3,g4⟩
def OO{s1 s2:Nat}(k:E.contains 999999=true)(l:oW o1=some s1)(f:oW o2=some s2)(u:s1≠s2)(h:h8 P T E opsA q soft1 o1 (λfr H=>h8 P T E opsA q soft2 o2 K fr H) fr H)(w:o1.dst=none)(x:o2.dst=none):h8 P T E opsA q soft2 o2 (λfr H=>h8 P T E opsA q soft1 o1 K fr H) fr H:=by
 have F:∀v,fr.put o1.dst v=fr:=λv=>by rw[w];rfl
 have R:∀v,fr.put o2.dst v=fr:=λv=>by rw[x];rfl
 rcases lY h with⟨i,s⟩|⟨i,s⟩
 ·obtain⟨t,y,A,off,agg,n,cs,G,I,J,B,L,M,N,O,Q,s⟩:=(tu k l).1 s;rcases lY s with⟨a,b⟩|⟨a,b⟩
  ·obtain⟨C,D,j,c,d,n',o,f0,f1,f2,f3,f4,f5,f6,f7,f8,b⟩:=(tu k f).1 b
   have r:A≠j:=by rintro rfl;exact u (B.symm.trans f3)
   rw[Wq r] at f7;refine r9 a ((tu k f).2 ⟨C,D,j,c,d,n',o,f0,f1,f2,f3,f4,f5,f6,f7,f8,?_⟩);refine r9 i ((tu k l).2 ⟨t,y,A,off,agg,n,cs,G,I,J,B,L,M,N,?_,Q,?_⟩)
   ·rw[Wq (λe=>r e.symm)];exact O
   ·rw[List.set_comm _ _ (λe=>r e.symm)];exact b
  ·refine tY a ?_;rw[R] at b|-;exact r9 i ((tu k l).2 ⟨t,y,A,off,agg,n,cs,G,I,J,B,L,M,N,O,Q,b⟩)
 ·rw[F] at s;rcases lY s with⟨a,b⟩|⟨a,b⟩
  ·obtain⟨C,D,j,c,d,n',o,f0,f1,f2,f3,f4,f5,f6,f7,f8,b⟩:=(tu k f).1 b;exact r9 a ((tu k f).2 ⟨C,D,j,c,d,n',o,f0,f1,f2,f3,f4,f5,f6,f7,f8,tY i (by rw[F];exact b)⟩)
  ·grind[tY,h8]
theorem Re(c:aa4 E opsA soft1 soft2 o1 o2=true)(h:h8 P T E opsA q soft1 o1 (λfr H=>h8 P T E opsA q soft2 o2 K fr H) fr H):h8 P T E opsA q soft2 o2 (λfr H=>h8 P T E opsA q soft1 o1 K fr H) fr H:=by
 unfold aa4 at c
 by_cases hG:(kf E o1||kf E o2)=true
 ·rw[dR hG] at c;simp only[hD,tR,ac2] at c;obtain⟨b,⟨⟨g1,g2⟩,g3⟩|⟨⟨g1,g2⟩,g3⟩⟩:=c
  ·rcases OF g3 with g3|⟨g3,g4⟩
   ·exact OJ b g3 g1 g2 h
   ·exact N1 b g3 g4 g1 h
  ·rcases OF g3 with g3|⟨g3,g4⟩
   ·exact Oa b g3 g2 g1 h
   ·exact N0 b g4 g3 g1 h
 rw[dK hG] at c
 by_cases L:(E.contains 999999&&(oW o1).isSome&&(oW o2).isSome&&oW o1 !=oW o2&&o1.dst==none&&o2.dst==none)=true
 ·simp only[hD,Option.isSome_iff_exists,bne_iff_ne,ne_eq,ady] at L;obtain⟨⟨⟨⟨⟨U,s1,o⟩,s2,s⟩,M⟩,w⟩,y⟩:=L;exact OO U o s (by rintro rfl;exact M (by rw[o,s])) h w y
 rw[dK L] at c
 have A:kf E o1=false:=by cases V:kf E o1<;>simp_all
 have B:kf E o2=false:=by cases V:kf E o2<;>simp_all
 unfold abM at c;simp only[hD] at c;obtain⟨⟨b,D⟩,a⟩:=c;obtain⟨a1,a2,a3⟩:=Oper.apart_spec b
 have o:∀r,gd E opsA.toList o1=.load r->(gd E opsA.toList o2=.B8->soft1=true/\soft2=true)/\(∀F,gd E opsA.toList o2=.L7 F->soft2=true):=by
  intro r N;rw[N] at a;refine⟨λhe=>?_,λF he=>?_⟩<;>rw[he] at a
  ·simpa using a
  ·exact a
 have s:∀r,gd E opsA.toList o2=.load r->(gd E opsA.toList o1=.B8->soft2=true/\soft1=true)/\(∀F,gd E opsA.toList o1=.L7 F->soft1=true):=by
  intro r N;rw[N] at a;refine⟨λhe=>?_,λF he=>?_⟩<;>rw[he] at a
  ·have:soft1=true/\soft2=true:=by simpa using a
   exact⟨this.2,this.1⟩
  ·exact a
 unfold h8 at h;simp only[oJ A,oJ B] at h
 split at h
 ·--O first one is carried out
  rename_i j;obtain⟨v,h⟩:=h;obtain⟨f1,H1,t,h⟩:=tk h;have G:=p9 t;have C:hW opsA o2 f1=hW opsA o2 fr:=Dw G a1;rw[C] at h;unfold h8;simp only[oJ A,oJ B]
  split at h
  ·rename_i k;obtain⟨l,h⟩:=h;obtain⟨f2,H2,i,Q⟩:=tk h;obtain⟨f,W,n,I⟩:=Ul b D o s t i;refine⟨zB (λx c=>(EG (T:=T) (opsA:=opsA) G a1 x c).symm) l,v_ n ?_⟩;have:hW opsA o1 f=hW opsA o1 fr:=Dw (p9 n) a3;rw[this,j];exact⟨zB (EG (T:=T) (opsA:=opsA) (p9 n) a3) v,v_ I Q⟩
  ·rename_i k
   show match hW opsA o1 (fr.put o2.dst (.tuple []))with
    |some true=>Gj T E q (fr.put o2.dst (.tuple [])) o1/\hU P T E opsA.toList q soft1 o1 K (fr.put o2.dst (.tuple [])) H|some false=>K ((fr.put o2.dst (.tuple [])).put o1.dst (.tuple [])) H|none=>False
   rw[kx a3,j];simp only;refine⟨zB (JS a3) v,?_⟩;cases u:o2.dst with
   |none=>rw[u] at h;exact v_ t h
   |some d=>rw[u] at h;exact v_ (Ph (opsA:=opsA) _ (a3 d u) (λe=>a2 d e u) t) h
  ·exact h.elim
 ·--O first one is left out
  rename_i j;have C:hW opsA o2 (fr.put o1.dst (.tuple []))=hW opsA o2 fr:=kx a1;rw[C] at h;unfold h8;simp only[oJ A,oJ B]
  split at h
  ·rename_i k;obtain⟨l,h⟩:=h;obtain⟨f2,H2,i,Q⟩:=tk h
   have R:∃f,nW P T E opsA.toList q soft2 o2 fr H f H2/\f.put o1.dst (.tuple [])=f2:=by
    cases u:o1.dst with
    |none=>rw[u] at i;exact⟨f2,i,rfl⟩
    |some d=>rw[u] at i;exact Jn (opsA:=opsA) (a1 d u) (a2 d u) i
   obtain⟨f,J,S⟩:=R;refine⟨zB (λx c=>(JS a1 x c).symm) l,v_ J ?_⟩;have:hW opsA o1 f=hW opsA o1 fr:=Dw (p9 J) a3;rw[this,j];show K (f.put o1.dst (.tuple [])) H2;rw[S];exact Q
  ·rename_i k
   show match hW opsA o1 (fr.put o2.dst (.tuple []))with
    |some true=>Gj T E q (fr.put o2.dst (.tuple [])) o1/\hU P T E opsA.toList q soft1 o1 K (fr.put o2.dst (.tuple [])) H|some false=>K ((fr.put o2.dst (.tuple [])).put o1.dst (.tuple [])) H|none=>False
   rw[kx a3,j];simp only
   have:(fr.put o2.dst (.tuple [])).put o1.dst (.tuple [])=(fr.put o1.dst (.tuple [])).put o2.dst (.tuple []):=by
    cases w:o1.dst with
    |none=>rfl|some d1=>
     cases y:o2.dst with
     |none=>rfl|some d2=>exact m5 fr (λe=>a2 d1 w (by rw[y,e])) _ _
   rw[this];exact h
  ·exact h.elim
 ·exact h.elim
def QY{sf:Nat->Bool}{i:Nat}(hi:opsA[i]?=some o)(post:List Nat):∀(pre:List Nat) (fr:Fr) (H:dY),(∀j∈pre,∀a,opsA[j]?=some a->aa4 E opsA (sf j) (sf i) a o=true)->M4 P T E opsA q sf (pre++i::post) K fr H->h8 P T E opsA q (sf i) o (λfr H=>M4 P T E opsA q sf (pre++post) K fr H) fr H:=by
 intro pre
 induction pre with
 |nil=>grind[M4]|cons j pre ih=>
  intro fr H hex h;simp only[aeX,M4] at h|-
  split at h
  all_goals grind[IW,Re]
end
def yi(opsA:Array Oper):Bool:=opsA.toList.zipIdx.all λ(o,i)=>o.after.all λe=>!Region.binds .any e||decide (e.on<i)
def MR(opsA:Array Oper)(M:Array Nat):Bool:=
 (List.range opsA.size).all λi=>(List.range opsA.size).all λj=>!(M.getD i 0).testBit j||
  (opsA.getD i default).after.toList.any λe=>Region.binds .any e&&(e.on==j||(M.getD e.on 0).testBit j)
def AU(E:List Nat)(opsA:Array Oper)(sf:Nat->Bool):Bool:=
 let M:=Region.before opsA
 yi opsA&&MR opsA M&&
 (List.range opsA.size).all λi=>(List.range i).all λj=>(M.getD i 0).testBit j||aa4 E opsA (sf j) (sf i) (opsA.getD j default) (opsA.getD i default)
section
variable{P:Program} {T:eN} {E:List Nat} {opsA:Array Oper} {q:Qt} {sf:Nat->Bool} {K:Fr->dY->Prop}
def wC(opsA:Array Oper)(listed:Array Bool):List Nat:=(List.range opsA.size).filter λi=>!listed.getD i true
def Sj{listed:Array Bool}{i:Nat}:i∈wC opsA listed↔i<opsA.size/\listed.getD i true=false:=by
 simp[wC]
def XR(M:Array Nat)(opsA:Array Oper)(listed:Array Bool):Prop:=∀i j,i<opsA.size->j<opsA.size->listed.getD i false=true->(M.getD i 0).testBit j=true->listed.getD j false=true
def Cd{listed:Array Bool}{i:Nat}(d:Bool)(h:i<listed.size):(listed.setIfInBounds i true).getD i d=true:=by
 simp[h]
def Mc{opsA:Array Oper}(a:yi opsA=true){listed:Array Bool}(d:listed.size=opsA.size){i:Nat}(hi:i<opsA.size)(f:listed.getD i true=false)
  (c:∀j,j<i->listed.getD j false=true):i∈Region.ready .any opsA listed:=by
 rw[mem_ready];unfold yi at a;rw[k_] at a
 have b:(opsA[i],i)∈opsA.toList.zipIdx:=by grind
 have:=a _ b;simp only[KE] at this
 grind
def GP{opsA:Array Oper}{M:Array Nat}(d:MR opsA M=true)(a:yi opsA=true){listed:Array Bool}(f:XR M opsA listed){i:Nat}(s:i∈Region.ready .any opsA listed){j:Nat}(n:j<opsA.size)
  (t:(M.getD i 0).testBit j=true):listed.getD j false=true:=by
 obtain⟨u,o,q,b⟩:=mem_ready.1 s;have hi:i<opsA.size:=(Uv.1 q).1;unfold MR at d;rw[k_] at d;have:=d i (by simpa using hi);rw[k_] at this;have:=this j (by simpa using n);rw[t] at this;simp only[adt,Vb,List.any_eq_true,ye,hD,tR,ady] at this;obtain⟨e,he,h,hor⟩:=this
 have k:opsA.getD i default=o:=by rw[Np,q];rfl
 rw[k] at he;have r:=b e he h;rcases hor with rfl|hor
 ·exact r
 ·have l:e.on<opsA.size:=by
   unfold yi at a;rw[k_] at a
   have c:(o,i)∈opsA.toList.zipIdx:=by grind
   have:=a _ c;simp only[KE] at this
   grind
  exact f e.on j l n r hor
def T8{listed:Array Bool}(d:listed.size=opsA.size){i:Nat}(hi:i<opsA.size)(a:listed.getD i true=false):∃pre post,wC opsA listed=pre++i::post/\wC opsA (listed.setIfInBounds i true)=pre++post/\∀j∈pre,j<i/\listed.getD j true=false:=by
 have c:List.range opsA.size=List.range i++i::(List.range' (i+1) (opsA.size-i-1)):=by
  rw[aaJ,aaJ]
  have:opsA.size=i+(1+(opsA.size-i-1)):=VW
  conv=>lhs;rw[this]
  rw[<-List.range'_append_1]
  congr 1
  rw[show 1+(opsA.size-i-1)=(opsA.size-i-1)+1 by omega,adW];simp
 refine⟨(List.range i).filter (λj=>!listed.getD j true),(List.range' (i+1) (opsA.size-i-1)).filter (λj=>!listed.getD j true),?_,?_,?_⟩
 ·unfold wC;rw[c,ahr,List.filter_cons_of_pos (by simp[a])]
 ·unfold wC;rw[c,ahr,List.filter_cons_of_neg (by rw[Cd _ VW];simp)]
  congr 1
  ·refine aib λj b=>?_
   have:j<i:=by simpa using b
   rw[getD_set_ne true VW]
  ·refine aib λj b=>?_;have:=(List.mem_range'_1.1 b).1;rw[getD_set_ne true VW]
 ·grind
variable{n:Nat} {G0:Nat->Nat} {F0:kM} {n0:Nat} {w0:World}
def z6{listed:Array Bool}{i:Nat}(hi:i<listed.size):listed.getD i false=listed.getD i true:=by grind
def VQ{Q:Exit->Act->World->Prop}(t:AU E opsA sf=true)(B:A4 n opsA=true)(V:∀fr' H' L w',K fr' H'->SR T n G0 F0 n0 w0 fr' H' L w'->Q .normal L w'):∀(fuel:Nat) (listed:Array Bool) (fr:Fr) (H:dY) (a:Act) (w:World),listed.size=opsA.size->XR (Region.before opsA) opsA listed->(wC opsA listed).length<=fuel->SR T n G0 F0 n0 w0 fr H a w->M4 P T E opsA q sf (wC opsA listed) K fr H->wpAny P .any opsA Q fuel listed a w:=by
 unfold AU at t;simp only[hD] at t;obtain⟨⟨c,W⟩,d⟩:=t
 have u:∀{listed:Array Bool},listed.size=opsA.size->Region.ready .any opsA listed=[]->wC opsA listed=[]:=by
  intro listed f C;cases b:wC opsA listed with
  |nil=>rfl|cons i rest=>
   exfalso
   have s:i∈wC opsA listed:=by rw[b];simp
   have hex:∃k,k<opsA.size/\listed.getD k true=false:=⟨i,Sj.1 s⟩
   obtain⟨k,⟨M,N⟩,D⟩:∃k,(k<opsA.size/\listed.getD k true=false)/\∀j,j<k->¬(j<opsA.size/\listed.getD j true=false):=by
    clear b s;obtain⟨k,hk⟩:=hex
    induction k using Nat.strongRecOn with
    |_ k ih=>
     by_cases h:∃j,j<k/\(j<opsA.size/\listed.getD j true=false)
     ·obtain⟨j,v,x⟩:=h;exact ih j v x
     ·exact⟨k,hk,λj F hc=>h ⟨j,F,hc⟩⟩
   have:=Mc c f M N λj F=>by
    have hn:=D j F
    have O:j<opsA.size:=VW
    rw[z6 VW];cases hb:listed.getD j true with
    |true=>rfl|false=>exact absurd ⟨O,hb⟩ hn
   rw[C] at this;cases this
 intro fuel
 induction fuel with
 |zero=>
  intro listed fr H a w f l hlen hs h;have b:wC opsA listed=[]:=B_ VW;rw[b] at h;refine⟨?_,V _ _ _ _ h hs⟩;cases C:Region.ready .any opsA listed with
  |nil=>rfl|cons i rest=>
   have hm:i∈Region.ready .any opsA listed:=by rw[C];simp
   obtain⟨y,o,A,_⟩:=mem_ready.1 hm;have:i∈wC opsA listed:=Sj.2 ⟨(Uv.1 A).1,y⟩;rw[b] at this;cases this
 |succ fuel ih=>
  intro listed fr H a w f l hlen hs h;refine⟨λC=>?_,λi hi=>?_⟩
  ·rw[u f C] at h;exact V _ _ _ _ h hs
  ·obtain⟨y,o,A,X⟩:=mem_ready.1 hi;have G:i<opsA.size:=(Uv.1 A).1;obtain⟨pre,post,Y,Z,h3⟩:=T8 f G y;rw[Y] at h
   have r:=QY (P:=P) (T:=T) (E:=E) (opsA:=opsA) (q:=q) (K:=K) (sf:=sf) A post pre fr H (by
    intro j F oj R;obtain⟨v,x⟩:=h3 j F;rw[k_] at d;have:=d i (by simpa using G);rw[k_] at this;have:=this j (by simpa using v);simp only[tR] at this
    have e1:opsA.getD j default=oj:=by rw[Np,R];rfl
    have e2:opsA.getD i default=o:=by rw[Np,A];rfl
    rw[e1,e2] at this;rcases this with hb|hb
    ·have:=GP W c l hi VW hb;rw[z6 VW,x] at this;cases this
    ·exact hb) h
   have S:sa n o=true:=KE.1 B o (ZS A);refine Gp A S hs (OA r) ?_;intro fr' H' L w' hK U;refine ih (listed.setIfInBounds i true) fr' H' L w' (by simpa using f) ?_ ?_ U (by rw[Z];exact hK)
   ·--still closed
    intro i' j' hi' I hl hb
    by_cases he:j'=i
    ·subst he;exact Cd _ VW
    ·rw[getD_set_ne false (λe=>he e.symm)]
     by_cases J:i'=i
     ·subst J;exact GP W c l hi I hb
     ·rw[getD_set_ne false (λe=>J e.symm)] at hl;exact l i' j' hi' I hl hb
   ·rw[Y] at hlen;rw[Z];simp only[ni,mz] at hlen|-;omega
end
section
variable{P:Program} {T:eN} {n:Nat} {Q:Exit->Fr->dY->Prop} {fr:Fr} {H:dY}
def SR.drew{G0:Nat->Nat}{F0:kM}{n0:Nat}{w0:World}{a:Act}{w:World}(hs:SR T n G0 F0 n0 w0 fr H a w):SR T n G0 F0 n0 w0 fr H a w.drew:=by
 obtain⟨ρ,F,R,hw,b⟩:=hs;exact⟨ρ,F,R,hw.drew,b.drew⟩
def hZ.V5{id:Nat}{ops:Array Oper}(E:List Nat)(q:Qt)(sf:Nat->Bool)(hm:P.follows .mixedOrders=true)(c:A4 n ops=true)(d:AU E ops sf=true)
  (h:M4 P T E ops q sf (List.range ops.size) (Q .normal) fr H):hZ P T n (.region id ops true) Q fr H:=by
 intro G0 F0 n0 w0 a w hs;refine wp_region_any hm ?_
 have b:wC ops (Array.replicate ops.size false)=List.range ops.size:=by
  unfold wC
  simp_all
 have:=VQ (Q:=λe f w'=>∃fr' H',Q e fr' H'/\SR T n G0 F0 n0 w0 fr' H' f w') d c (λfr' H' f w' k l=>⟨fr',H',k,l⟩) ops.size (Array.replicate ops.size false) fr H a w.drew aa2
  (by intro i j hi r o;simp[hi] at o) (by rw[b];simp) hs.drew (by rw[b];exact h)
 exact this
end
end Go.kY
namespace Go.kY
open Go
section
variable{P:Program} {T:eN} {n:Nat} {Q:Exit->Fr->dY->Prop} {fr:Fr} {H:dY}
def hZ.Da{x y:Code}(h:∀K:Fr->dY->Prop,(∀fr H,hZ P T n y Q fr H->K fr H)->hZ P T n x (IS K Q) fr H):hZ P T n (.seq x y) Q fr H:=
 hZ.seq (h _ λ_ _ h=>h)
def hZ.Fy{id:Nat}{c:Code}(h:∀Q':Exit->Fr->dY->Prop,(∀fr H,Q .normal fr H->Q' .normal fr H)->(∀fr H,Q .normal fr H->Q' (.exit id) fr H)->(∀a fr H,a≠id->Q (.exit a) fr H->Q' (.exit a) fr H)->(∀fr H,Q .ret fr H->Q' .ret fr H)->hZ P T n c Q' fr H):hZ P T n (.block id c) Q fr H:=by
 refine hZ.block (h (I6 id Q) (λ_ _ h=>h) (λ_ _ h=>?_) (λa _ _ b h=>?_) (λ_ _ h=>h))
 ·simp only[I6,if_true];exact h
 ·simp only[I6,dK b];exact h
end
@[simp] theorem aa_(K:Fr->dY->Prop)(Q:Exit->Fr->dY->Prop):IS K Q .normal=K:=rfl
end Go.kY
