/- Part of the proof of SchemeAccepted: layer. -/
import Derived.Test.YtpgdkkomegalnaaGreatDoorL7
set_option linter.all false
namespace Go.kY
open Go
theorem AJ{α:Type}(f:Nat->α){i j:Nat}(h:i≠j)(x y:α):gA (gA f i x) j y=gA (gA f j y) i x:=by grind[gA]
def kF(fr:Fr)(d:Nat)(cs:List AV):Fr:=
 {fr with env:=gA fr.env d (.gX d (fr.gen d+1) 0),box:=gA fr.box d (some cs),gen:=gA fr.gen d (fr.gen d+1)}
def AN(P:Program)(T:eA)(fr:Fr)(o:Oper):Option (List AV):=
 match o.op with
 |.alloc t=>gl P t|.box _ x=>if eU (ev T fr x) then some (ev T fr x).cells else none|_=>none
inductive mJ where
 |grow (tag:Tag) (l m:List AV)|same (l:List AV)
def mJ.fr(fr:Fr)(d:Nat):mJ->Fr
 |.grow tag l m=>grown fr d tag l m|.same l=>fr.put (some d) (.slice .gx l)
def Q9(P:Program)(T:eA)(fr:Fr)(c:Call)(x:mJ):Prop:=
 ∃s y t e sz tag a l m,c.args.toList=[s,y]/\c.argTypes.toList=[t,t]/\n7 P t=some (e,sz)/\ev T fr s=.slice tag l/\ev T fr y=.slice a m/\kR sz l=true/\kR sz m=true/\l.length+m.length<=j0/\(oW fr tag l=true/\x=.grow tag l m\/oW fr tag l=false/\m=[]/\x=.same l)
section
variable{P:Program} {T:eA} {E:List Nat} {ops:List Oper} {opsA:Array Oper} {q:Qt} {soft soft1 soft2:Bool} {o o1 o2:Oper} {K:Fr->dS->Prop} {fr fr1 fr2 fr':Fr} {H H1 H2 H':dS}
def ady{c:Call}{dst:Option Nat}(h:nj P T c dst (λf h=>f=fr'/\h=H') fr H):∃d x,dst=some d/\Q9 P T fr c x/\fr'=x.fr fr d/\H'=H:=by
 unfold nj at h
 split at h
 ·rename_i d s y t k a b
  split at h
  ·rename_i e sz tag l i m n o q;obtain⟨rfl,g2,g3,g4,g5⟩:=h
   split at g5
   ·rename_i j;exact⟨d,.grow tag l m,rfl,⟨s,y,k,e,sz,tag,i,l,m,a,b,n,o,q,g2,g3,g4,.inl ⟨j,rfl⟩⟩,g5.1.symm,g5.2.symm⟩
   ·rename_i j;exact⟨d,.same l,rfl,⟨s,y,k,e,sz,tag,i,l,m,a,b,n,o,q,g2,g3,g4,.inr ⟨by simpa using j,g5.1,rfl⟩⟩,g5.2.1.symm,g5.2.2.symm⟩
  ·grind
 ·exact h.elim
def afC{c:Call}{d:Nat}{x:mJ}(h:Q9 P T fr c x)(b:K (x.fr fr d) H):nj P T c (some d) K fr H:=by
 obtain⟨s,y,t,e,sz,tag,f,l,m,i,j,k,n,o,q,r,u,v⟩:=h;unfold nj;rw[i,j];simp only[k,n,o];refine⟨trivial,q,r,u,?_⟩;rcases v with⟨a,rfl⟩|⟨a,hm,rfl⟩
 ·rw[dO a];exact b
 ·rw[dI (by simp[a])];exact⟨hm,b⟩
def Q9.congr{c:Call}{x:mJ}(f:Q9 P T fr c x)(he:∀y∈c.args.toList,ev T fr y=ev T fr' y)(h:fr'.qb=fr.qb)(hg:fr'.fa=fr.fa):Q9 P T fr' c x:=by
 obtain⟨s,y,t,e,sz,tag,a,l,m,b,i,j,k,n,o,q,r,u⟩:=f
 have d:oW fr' tag l=oW fr tag l:=by unfold oW;rw[h,hg]
 exact⟨s,y,t,e,sz,tag,a,l,m,b,i,j,by rw[<-he s (by rw[b];simp)];exact k,by rw[<-he y (by rw[b];simp)];exact n,o,q,r,by rw[d];exact u⟩
def xN(a:fU E ops o=.val\/∃r,fU E ops o=.load r)(h:n8 P T E ops q soft o fr H fr' H'):∃v,nG P T E ops q soft fr H o=some v/\fr'=fr.put o.dst v/\H'=H:=by grind[n8,fU,hE]
def Bl{v:AV}(h:nG P T E ops q soft fr H o=some v):n8 P T E ops q soft o fr H (fr.put o.dst v) H:=by grind[n8,nG,hE]
def v8{d:Option Nat}(k:fU E ops o=.alloc d)(h:n8 P T E ops q soft o fr H fr' H'):∃a cs,d=some a/\o.dst=some a/\E.contains a=false/\AN P T fr o=some cs/\fr'=kF fr a cs/\H'=H:=by
 unfold n8 at h;obtain⟨dst,op,type,pos,after,guard⟩:=o
 have key:∀{cs:List AV} {a:Nat},dst=some a->E.contains a=false->kM E dst cs (λf h=>f=fr'/\h=H') fr H->fr'=kF fr a cs/\H'=H:=by
  intro cs a l n i;subst l;unfold kM at i;simp only at i;rw[dI (by simp only[n];simp)] at i;exact⟨i.1.symm,i.2.symm⟩
 have b:(∃t,op=.alloc t)\/(∃t x,op=.box t x)->∃a,d=some a/\dst=some a/\E.contains a=false:=by
  intro j
  have:(match dst with|some d=>if E.contains d then Cls.BF else .alloc (some d)|none=>.BF)=.alloc d:=by
   rcases j with⟨t,rfl⟩|⟨t,x,rfl⟩<;>exact k
  grind
 cases op with
 |alloc t=>
  obtain⟨a,r,s,u⟩:=b (.inl ⟨t,rfl⟩)
  grind[hE,AN]
 |box t x=>
  obtain⟨a,r,s,u⟩:=b (.inr ⟨t,x,rfl⟩)
  grind[hE,AN]
 |call c=>grind[fU]|_=>simp[fU] at k
def wk{d:Nat}{cs:List AV}(a:o.dst=some d)(b:E.contains d=false)(h:AN P T fr o=some cs):n8 P T E ops q soft o fr H (kF fr d cs) H:=by grind[n8,kM,kF,AN,hE]
def uE(h:∀x∈o.op.operands,ev T fr x=ev T fr' x):AN P T fr o=AN P T fr' o:=by
 obtain⟨dst,op,type,pos,after,guard⟩:=o;cases op with
 |box t x=>simp only[AN];rw[h x (by simp[Op.operands])]|_=>rfl
def DP(u:fU E ops o=.BF)(h:n8 P T E ops q soft o fr H fr' H'):∃r,fr'=fr.put o.dst r/\(soft=true->QK q H H')/\∀f:Fr,(∀x∈o.op.operands,ev T fr x=ev T f x)->n8 P T E ops q soft o f H (f.put o.dst r) H':=by
 unfold n8 at h;obtain⟨dst,op,type,pos,after,guard⟩:=o
 have a:∀{cs:List AV},((∃t,op=.alloc t)\/(∃t x,op=.box t x))->kM E dst cs (λf h=>f=fr'/\h=H') fr H->∃d,dst=some d/\E.contains d=true/\fr'=fr.put dst (.eK H.length 0)/\H'=H++[cs.map AV.iV]/\∀f:Fr,kM E dst cs (λB h=>B=f.put dst (.eK H.length 0)/\h=H') f H:=by
  intro cs v i
  have hm:(match dst with|some d=>if E.contains d then Cls.BF else .alloc (some d)|none=>.BF)=.BF:=by
   rcases v with⟨t,rfl⟩|⟨t,x,rfl⟩<;>exact u
  unfold kM at i
  split at i
  ·rename_i d
   split at i
   ·rename_i s;refine⟨d,rfl,s,i.1.symm,i.2.symm,λf=>?_⟩;unfold kM;simp only;rw[dO s];exact⟨rfl,i.2⟩
   ·rename_i s;simp only[dI s] at hm;cases hm
  ·exact i.elim
 cases op with
 |alloc t=>
  simp only[hE] at h
  split at h
  ·rename_i z C;obtain⟨d,k,j,l,w,y⟩:=a (.inl ⟨t,rfl⟩) h.2;refine⟨_,l,?_,λf n=>?_⟩
   ·intro hs;have:=h.1 hs;rw[k] at this;exact absurd this (by simp only[afV,j];simp)
   ·unfold n8;simp only[hE,C];exact⟨h.1,y f⟩
  ·exact h.elim
 |box t x=>
  simp only[hE] at h;obtain⟨d,k,j,l,w,y⟩:=a (.inr ⟨t,x,rfl⟩) h.2.2;refine⟨_,l,?_,λf n=>?_⟩
  ·intro hs;have:=h.2.1 hs;rw[k] at this;exact absurd this (by simp only[afV,j];simp)
  ·unfold n8;simp only[hE];have e:=n x (by simp[Op.operands]);refine⟨by rw[<-e];exact h.1,h.2.1,?_⟩;rw[<-e];exact y f
 |call c=>
  obtain⟨callee,args,tys⟩:=c;cases callee with
  |builtin b=>cases b<;>simp[fU] at u
  |value g=>
   simp only[hE] at h;obtain⟨r,A,k,j,l,w⟩:=h;subst w;refine⟨r,l.symm,j,λf n=>?_⟩;unfold n8;simp only[hE];refine⟨r,A,?_,j,rfl,rfl⟩
   have D:(args.toList.map λx=>(ev T fr x).norm)=args.toList.map λx=>(ev T f x).norm:=
    uy λx F=>by rw[n x (by simp[Op.operands,Call.operands,xD.1 F])]
   rw[<-D,<-n g (by simp[Op.operands,Call.operands])];exact k
  |invoke r m=>simp only[hE] at h
 |_=>simp[fU] at u
theorem Dw(a:fU E ops o=.app)(h:n8 P T E ops q soft o fr H fr' H'):∃d x,o.dst=some d/\fr'=mJ.fr fr d x/\H'=H/\∀(f:Fr) (h:dS),(∀x∈o.op.operands,ev T fr x=ev T f x)->f.qb=fr.qb->f.fa=fr.fa->n8 P T E ops q soft o f h (mJ.fr f d x) h:=by
 unfold n8 at h;obtain⟨dst,op,type,pos,after,guard⟩:=o;cases op with
 |call c=>
  obtain⟨callee,args,tys⟩:=c;cases callee with
  |builtin b=>
   cases b with
   |append=>
    obtain⟨d,x,j,k,l,n⟩:=ady h;subst j;refine⟨d,x,rfl,l,n,λf h he s hg=>?_⟩;unfold n8;simp only[hE];refine afC (k.congr (λy i=>he y ?_) s hg) ⟨rfl,rfl⟩;simp only at i;simp[Op.operands,Call.operands,xD.1 i]
   |_=>simp[fU] at a
  |value g=>simp[fU] at a
  |invoke r m=>simp[fU] at a
 |alloc t=>grind[fU]|box t x=>grind[fU]|_=>simp[fU] at a
def Zp{r:Option Nat}(d:fU E ops o=.MF r)(h:n8 P T E ops q soft o fr H fr' H'):fr'.env=fr.env/\fr'.gen=fr.gen/\fr'.qb=fr.qb/\fr'.fa=fr.fa/\o.dst=none/\(∀b,r≠some b->fr'.box b=fr.box b)/\(soft=true->H'=H):=by
 unfold n8 at h;obtain⟨dst,op,type,pos,after,guard⟩:=o;cases op with
 |store t x y=>
  simp only[fU,Cls.MF.injEq] at d;simp only[hE] at h;obtain⟨f,i,j,a⟩:=h;unfold lZ at a
  split at a
  ·exact a.elim
  ·split at a
   ·rename_i b g off k
    split at a
    ·obtain⟨_,_,_,_,g1,g2⟩:=a;subst g1;subst g2
     grind[qI,gA,AA]
    ·exact a.elim
   all_goals grind[isL]
 |call c=>grind[fU]|alloc t=>grind[fU]|box t x=>grind[fU]|_=>simp[fU] at d
theorem Eg(fr:Fr)(d:Nat):fr.put (some d) (fr.env d)=fr:=by
 simp only[Fr.put]
 have:gA fr.env d (fr.env d)=fr.env:=by grind[gA]
 rw[this]
theorem Hl(fr:Fr)(d:Nat)(x y:AV):(fr.put (some d) x).put (some d) y=fr.put (some d) y:=by grind[Fr.put,Nq]
structure Left (c:Cls) (dst:Option Nat) (soft:Bool) (q:Qt) (fr:Fr) (H:dS) (fr':Fr) (H':dS):Prop where
 env:∀t,dst≠some t->fr'.env t=fr.env t
 box:∀b,c≠ .alloc (some b)->c≠ .MF (some b)->fr'.box b=fr.box b/\fr'.gen b=fr.gen b
 heap:c≠ .BF->(∀r,c=.MF r->soft=true)->H'=H
 quiet:soft=true->QK q H H'
def mJ.left(fr:Fr)(d:Nat)(x:mJ):(∀t,t≠d->(mJ.fr fr d x).env t=fr.env t)/\(mJ.fr fr d x).box=fr.box/\(mJ.fr fr d x).gen=fr.gen:=by
 cases x with
 |grow tag l m=>exact⟨λt a=>by show gA _ _ _ t=_;rw[AA _ _ _ _ a],rfl,rfl⟩|same l=>exact⟨λt a=>by show gA _ _ _ t=_;rw[AA _ _ _ _ a],rfl,rfl⟩
def p6(h:n8 P T E ops q soft o fr H fr' H'):Left (fU E ops o) o.dst soft q fr H fr' H':=by
 have a:∀(v:AV) (t:Nat),o.dst≠some t->(fr.put o.dst v).env t=fr.env t:=by
  intro v t j;rw[Fr.s9,dI j]
 cases i:fU E ops o with
 |val=>
  obtain⟨v,_,rfl,rfl⟩:=xN (.inl i) h;obtain⟨c,f,_,_⟩:=Fr.xP fr o.dst v;exact⟨a v,λb _ _=>⟨by rw[c],by rw[f]⟩,λ_ _=>rfl,λ_=>.refl⟩
 |load r=>
  obtain⟨v,_,rfl,rfl⟩:=xN (.inr ⟨r,i⟩) h;obtain⟨c,f,_,_⟩:=Fr.xP fr o.dst v;exact⟨a v,λb _ _=>⟨by rw[c],by rw[f]⟩,λ_ _=>rfl,λ_=>.refl⟩
 |alloc d=>
  obtain⟨u,cs,rfl,l,_,_,rfl,rfl⟩:=v8 i h;refine⟨λt j=>?_,λb n _=>?_,λ_ _=>rfl,λ_=>.refl⟩
  ·show gA _ _ _ t=_;rw[AA];rintro rfl;exact j l
  ·have k:b≠u:=by rintro rfl;exact n rfl
   exact⟨AA _ _ _ _ k,AA _ _ _ _ k⟩
 |BF=>
  obtain⟨r,rfl,w,_⟩:=DP i h;obtain⟨c,f,_,_⟩:=Fr.xP fr o.dst r;exact⟨a r,λb _ _=>⟨by rw[c],by rw[f]⟩,λhn _=>absurd rfl hn,w⟩
 |app=>
  obtain⟨d,x,l,rfl,rfl,_⟩:=Dw i h;obtain⟨g1,g2,g3⟩:=mJ.left fr d x;exact⟨λt j=>g1 t (by rintro rfl;exact j l),λb _ _=>⟨by rw[g2],by rw[g3]⟩,λ_ _=>rfl,λ_=>.refl⟩
 |MF r=>
  obtain⟨c,f,A,B,C,y,s⟩:=Zp i h;exact⟨λt _=>by rw[c],λb _ n=>⟨y b (λe=>n (by rw[e])),by rw[f]⟩,λ_ hs=>s (hs r rfl),λhs=>by rw[s hs];exact .refl⟩
def Py{d:Nat}(v:AV)(b:d∉o.looksAt opsA)(a:o.dst≠some d)(h:n8 P T E ops q soft o fr H fr' H'):n8 P T E ops q soft o (fr.put (some d) v) H (fr'.put (some d) v) H':=by
 have c:hE P T E ops q soft o (λf h=>f=fr'/\h=H') ((fr.put (some d) v).put (some d) (fr.env d)) H:=by
  rw[Hl,Eg];exact h
 obtain⟨f,j,i,k,l⟩:=sE (L_ (opsA:=opsA) b a c);have he:=(p6 i).env d a
 grind[Hl,Fr.s9,Eg]
def HB{d:Nat}{v:AV}(b:d∉o.looksAt opsA)(a:o.dst≠some d)(h:n8 P T E ops q soft o (fr.put (some d) v) H fr' H'):∃f,n8 P T E ops q soft o fr H f H'/\f.put (some d) v=fr':=by
 obtain⟨f,c,i,j,k⟩:=sE (L_ (opsA:=opsA) b a h)
 grind
theorem JD{x:Operand}{t:Nat}(a:x∈o.op.operands)(b:x=.tmp t):t∈o.looksAt opsA:=by
 subst b;exact akS _ (ajX.2 ⟨.tmp t,by simpa using a,rfl⟩)
def El{c:Cls}{dst:Option Nat}(a:Left c dst soft q fr H fr' H')(b:∀d,dst=some d->d∉o.looksAt opsA):∀x∈o.op.operands,ev T fr x=ev T fr' x:=by
 intro x f;refine D7 λt h=>?_;rw[a.env]
 grind[JD]
def EM{c:Cls}{dst:Option Nat}(s:Left c dst soft2 q fr H fr' H')(D:∀d,dst=some d->d∉o.looksAt opsA)(j:wO (fU E ops o) c=true)
  (hs:∀r,fU E ops o=.load r->(c=.BF->soft=true/\soft2=true)/\(∀F,c=.MF F->soft2=true)) {v:AV} (hv:nG P T E ops q soft fr H o=some v\/nG P T E ops q soft fr' H' o=some v):nG P T E ops q soft fr H o=nG P T E ops q soft fr' H' o:=by
 have u:=El (T:=T) (opsA:=opsA) s D
 by_cases k:∃t x,o.op=.load t x
 ·obtain⟨t,x,a⟩:=k;have G:=u x (by rw[a];simp[Op.operands])
  have l:fU E ops o=.load (E5 ops x):=by unfold fU;rw[a]
  obtain⟨w,y⟩:=hs _ l;rw[l] at j
  have n:qI ops x (ev T fr x)=true/\(!soft||q.ok (ev T fr x))=true:=by
   have:∀(f:Fr) (h:dS),nG P T E ops q soft f h o=some v->ev T f x=ev T fr x->qI ops x (ev T fr x)=true/\(!soft||q.ok (ev T fr x))=true:=by
    intro f h hv he;unfold nG at hv;rw[a] at hv;simp only at hv
    split at hv
    ·rename_i B;rw[he] at B;simpa using B
    ·cases hv
   rcases hv with hv|hv
   ·exact this fr H hv rfl
   ·exact this fr' H' hv G.symm
  refine yD u (λL M he=>?_) (λ_ _ _ _ he=>by rw[a] at he;cases he);rw[a] at he;injection he with I J;subst I;subst J;refine⟨λb g off K=>?_,λo' C hg=>?_⟩
  ·have A:E5 ops x=some b:=by
    have:=n.1;rw[K] at this;simpa[qI] using this
   rw[A] at j;have:=s.box b (by rintro rfl;simp[wO] at j) (by rintro rfl;simp[wO] at j);exact⟨this.1.symm,this.2.symm⟩
  ·by_cases he:c=.BF
   ·obtain⟨g1,g2⟩:=w he
    have hq:q.all=true\/q.st o'=true:=by
     have:=n.2;rw[g1,hg] at this;simpa[Qt.ok] using this
    rcases hq with hq|hq
    ·rw[(s.quiet g2).1 hq]
    ·exact((s.quiet g2).2 o' hq).symm
   ·rw[s.heap he y]
 ·refine yD u (λt x he=>absurd ⟨t,x,he⟩ k) λt x i ok a=>?_
  have l:fU E ops o=.load none:=by unfold fU;rw[a]
  obtain⟨w,y⟩:=hs _ l
  have hq:(!soft||q.all)=true:=by
   have:∀(f:Fr) (h:dS),nG P T E ops q soft f h o=some v->(!soft||q.all)=true:=by
    intro f h hv;unfold nG at hv;rw[a] at hv;simp only at hv
    split at hv
    ·rename_i B;exact B
    ·cases hv
   rcases hv with hv|hv
   ·exact this _ _ hv
   ·exact this _ _ hv
  by_cases he:c=.BF
  ·obtain⟨g1,g2⟩:=w he;rw[g1] at hq;exact((s.quiet g2).1 (by simpa using hq)).symm
  ·exact(s.heap he y).symm
def Mj(fr:Fr){d b:Nat}(h:d≠b)(cs a:List AV):kF (kF fr d cs) b a=kF (kF fr b a) d cs:=by
 simp only[kF,AA _ _ _ _ h,AA _ _ _ _ h.symm]
 grind[AJ]
theorem zE(fr:Fr){d:Nat}{d2:Option Nat}(h:d2≠some d)(cs:List AV)(r:AV):(kF fr d cs).put d2 r=kF (fr.put d2 r) d cs:=by
 cases d2 with
 |none=>rfl|some a=>grind[kF,Fr.put,AJ]
theorem UM(fr:Fr){d:Nat}{d2:Option Nat}(h:d2≠some d)(x:mJ)(r:AV):mJ.fr (fr.put d2 r) d x=(mJ.fr fr d x).put d2 r:=by
 cases d2 with
 |none=>rfl|some b=>
  have a:b≠d:=λe=>h (by rw[e]);cases x with
  |grow tag l m=>
   simp only[mJ.fr,grown,Fr.put]
   grind[AJ]
  |same l=>exact ns fr a r (.slice .gx l)
def F2(fr:Fr){d a:Nat}(h:d≠a)(cs:List AV)(x:mJ):mJ.fr (kF fr d cs) a x=kF (mJ.fr fr a x) d cs:=by
 cases x with
 |grow tag l m=>
  simp only[mJ.fr,grown,kF]
  grind[AJ]
 |same l=>grind[mJ.fr,Fr.put,kF,AJ]
def V8(X:o1.apart opsA o2=true)(a:wO (fU E ops o1) (fU E ops o2)=true)
  (Y:∀r,fU E ops o1=.load r->(fU E ops o2=.BF->soft1=true/\soft2=true)/\(∀O,fU E ops o2=.MF O->soft2=true))
  (Z:∀r,fU E ops o2=.load r->(fU E ops o1=.BF->soft2=true/\soft1=true)/\(∀O,fU E ops o1=.MF O->soft1=true))
  (K:n8 P T E ops q soft1 o1 fr H fr1 H1) (J:n8 P T E ops q soft2 o2 fr1 H1 fr2 H2):∃f h,n8 P T E ops q soft2 o2 fr H f h/\n8 P T E ops q soft1 o1 f h fr2 H2:=by
 obtain⟨a1,a2,a3⟩:=Oper.apart_spec X
 by_cases L:fU E ops o1=.val\/∃r,fU E ops o1=.load r
 ·obtain⟨v,Q,c,M⟩:=xN L K;subst M
  have ad:∃f,n8 P T E ops q soft2 o2 fr H1 f H2/\f.put o1.dst v=fr2:=by
   cases w:o1.dst with
   |none=>rw[w] at c;subst c;exact⟨fr2,J,rfl⟩
   |some d=>rw[w] at c;subst c;exact HB (opsA:=opsA) (a1 d w) (a2 d w) J
  obtain⟨f,R,ae⟩:=ad;have A:wO (fU E ops o1) (fU E ops o2)=true:=a;have:=EM (o:=o1) (soft:=soft1) (p6 R) a3 A Y (.inl Q);refine⟨f,H2,R,?_⟩;rw[<-ae];exact Bl (by rw[<-this];exact Q)
 ·--ak second one only N
  by_cases n:fU E ops o2=.val\/∃r,fU E ops o2=.load r
  ·obtain⟨v,Q,c,M⟩:=xN n J;subst M
   have A:wO (fU E ops o2) (fU E ops o1)=true:=by
    revert a
    cases fU E ops o1<;>cases fU E ops o2<;>simp[wO]<;>(intro h e;exact h e.symm)
   have:=EM (o:=o2) (soft:=soft2) (p6 K) a1 A Z (.inr Q);refine⟨fr.put o2.dst v,H,Bl (by rw[this];exact Q),?_⟩;rw[c];cases w:o2.dst with
   |none=>exact K|some d=>exact Py (opsA:=opsA) v (a3 d w) (λe=>a2 d e w) K
  ·--S
   have af:=p6 K;have l:∀x∈o2.op.operands,ev T fr x=ev T fr1 x:=El (T:=T) (opsA:=opsA) af a1;have C:∀{f:Fr} {h:dS} (U:n8 P T E ops q soft2 o2 fr H f h),∀x∈o1.op.operands,ev T fr x=ev T f x:=λU=>El (T:=T) (opsA:=opsA) (p6 U) a3;cases j:fU E ops o1 with
   |val=>exact absurd (.inl j) L|load r=>exact absurd (.inr ⟨r,j⟩) L|MF r=>
    rw[j] at a;cases b:fU E ops o2 with
    |val=>exact absurd (.inl b) n|load O=>exact absurd (.inr ⟨O,b⟩) n|_=>rw[b] at a;simp[wO] at a
   |alloc d1=>
    obtain⟨d,cs,rfl,w,ah,ai,c,M⟩:=v8 j K;subst M
    have back:∀{f:Fr} {h:dS} (U:n8 P T E ops q soft2 o2 fr H1 f h),n8 P T E ops q soft1 o1 f h (kF f d cs) h:=λU=>
     wk w ah (by rw[<-uE (C U)];exact ai)
    cases b:fU E ops o2 with
    |val=>exact absurd (.inl b) n|load r=>exact absurd (.inr ⟨r,b⟩) n|MF r=>rw[j,b] at a;simp[wO] at a
    |alloc d2=>
     obtain⟨I,D,rfl,k,F,t,i,B⟩:=v8 b J;subst B;have G:d≠I:=λe=>a2 d w (by rw[k,e]);have hn:n8 P T E ops q soft2 o2 fr H2 (kF fr I D) H2:=wk k F (by rw[uE l];exact t);refine⟨_,_,hn,?_⟩;rw[i,c,Mj fr G];exact back hn
    |BF=>
     obtain⟨r,i,_,u⟩:=DP b J;have hn:=u fr λx V=>(l x V).symm;refine⟨_,_,hn,?_⟩;rw[i,c,zE fr (λe=>a2 d w e)];exact back hn
    |app=>
     obtain⟨I,x,k,i,B,u⟩:=Dw b J;subst B;have G:d≠I:=λe=>a2 d w (by rw[k,e]);have hn:=u fr H2 (λx V=>(l x V).symm) (by rw[c];rfl) (by rw[c];rfl);refine⟨_,_,hn,?_⟩;rw[i,c,F2 fr G];exact back hn
   |BF=>
    obtain⟨r,c,_,s⟩:=DP j K;cases b:fU E ops o2 with
    |val=>exact absurd (.inl b) n|load r=>exact absurd (.inr ⟨r,b⟩) n|MF r=>rw[j,b] at a;simp[wO] at a
    |BF=>rw[j,b] at a;simp[wO] at a
    |alloc d2=>
     obtain⟨I,D,rfl,k,F,t,i,B⟩:=v8 b J;subst B;have hn:n8 P T E ops q soft2 o2 fr H (kF fr I D) H:=wk k F (by rw[uE l];exact t);refine⟨_,_,hn,?_⟩;rw[i,c,<-zE fr (λe=>a2 I e k)];exact s _ λx V=>C hn x V
    |app=>grind[Dw,Fr.xP,UM]
   |app=>
    obtain⟨d,x,w,c,M,s⟩:=Dw j K;subst M;cases b:fU E ops o2 with
    |val=>exact absurd (.inl b) n|load r=>exact absurd (.inr ⟨r,b⟩) n|MF r=>rw[j,b] at a;simp[wO] at a
    |app=>rw[j,b] at a;simp[wO] at a
    |alloc d2=>
     obtain⟨I,D,rfl,k,F,t,i,B⟩:=v8 b J;subst B;have G:I≠d:=λe=>a2 d w (by rw[k,e]);have hn:n8 P T E ops q soft2 o2 fr H2 (kF fr I D) H2:=wk k F (by rw[uE l];exact t);refine⟨_,_,hn,?_⟩;rw[i,c,<-F2 fr G];exact s _ _ (λy W=>C hn y W) rfl rfl
    |BF=>
     obtain⟨r,i,_,u⟩:=DP b J;have hn:=u fr λy W=>(l y W).symm;obtain⟨e1,e2,e3,e4⟩:=Fr.xP fr o2.dst r;refine⟨_,_,hn,?_⟩;rw[i,c,<-UM fr (λe=>a2 d w e)];exact s _ _ (λy W=>C hn y W) e3 e4
end
end Go.kY
namespace Go.kY
open Go
def hU(opsA:Array Oper)(o:Oper)(fr:Fr):Option Bool:=
 match o.guard with
 |none=>some true|some (j,want)=>
  match(opsA[j]?).bind (·.dst)with
  |some d=>match fr.env d with
   |.sc (.bool b)=>some (b==want)|.tuple _=>some false|_=>none
  |none=>none
def ki(E:List Nat)(o:Oper):Bool:=
 match o.op with
 |.call c=>(match c.callee with
  |.builtin .append=>o.dst.any E.contains|.value _=>o.dst.any E.contains|_=>false)
 |_=>false
def Z'(c:Call):Bool:=
 match c.callee with
 |.value _=>true|_=>false
def Ye(P:Program)(T:eA)(q:Qt)(soft:Bool)(a:AV)(as:List AV)(dst:Option Nat)(K:Fr->dS->Prop)(fr:Fr)(H:dS):Prop:=
 ∃Post:AV->dS->Prop,nK P T a as H Post/\(∃r h,Post r h)/\∀r h,Post r h->(soft=true->QK q H h)/\K (fr.put dst r) h
def nT(P:Program)(T:eA)(q:Qt)(soft:Bool)(c:Call)(dst:Option Nat)(K:Fr->dS->Prop)(fr:Fr)(H:dS):Prop:=
 match c.callee with
 |.value f=>Ye P T q soft (ev T fr f) (c.args.toList.map λx=>(ev T fr x).norm) dst K fr H|_=>oY P T c dst K fr H
def U5(E:List Nat)(q:Qt)(x:Operand)(v:AV):Prop:=E.contains 999999=true->∃a off t,v=.eK a off/\x=.tmp t/\q.cl a=t
@[simp] theorem al7{E:List Nat}{q:Qt}{x:Operand}{v:AV}(h:E.contains 999999=false):U5 E q x v=True:=eq_true λa=>by rw[h] at a;cases a
def EI(T:eA)(E:List Nat)(q:Qt)(fr:Fr)(o:Oper):Prop:=
 match o.op with
 |.store _ x _=>U5 E q x (ev T fr x)|_=>True
def oX(o:Oper):Option Nat:=
 match o.op with
 |.store _ (.tmp t) _=>some t|_=>none
def yU(o:Oper):Bool:=
 match o.op with
 |.store _ _ _=>true|_=>false
def qs(P:Program)(T:eA)(E:List Nat)(ops:List Oper)(q:Qt)(soft:Bool)(o:Oper)(K:Fr->dS->Prop)(fr:Fr)(H:dS):Prop:=
 if ki E o then(match o.op with
  |.call c=>nT P T q soft c o.dst K fr H|_=>False)else if yU o then(EI T E q fr o/\hE P T E ops q soft o K fr H)else hE P T E ops q soft o K fr H
def hO(P:Program)(T:eA)(E:List Nat)(opsA:Array Oper)(q:Qt)(soft:Bool)(o:Oper)(K:Fr->dS->Prop)(fr:Fr)(H:dS):Prop:=
 match hU opsA o fr with
 |some true=>qs P T E opsA.toList q soft o K fr H|some false=>K (fr.put o.dst (.tuple [])) H|none=>False
def IP(P:Program)(T:eA)(E:List Nat)(opsA:Array Oper)(q:Qt)(sf:Nat->Bool):List Nat->(Fr->dS->Prop)->Fr->dS->Prop
 |[],K,fr,H=>K fr H|i::rest,K,fr,H=>match opsA[i]?with
  |some o=>hO P T E opsA q (sf i) o (λfr H=>IP P T E opsA q sf rest K fr H) fr H|none=>False
section
variable{P:Program} {T:eA} {E:List Nat} {opsA:Array Oper} {q:Qt} {soft soft1 soft2:Bool} {o o1 o2:Oper} {K K':Fr->dS->Prop} {fr fr':Fr} {H H':dS}
def AU(h:ki E o=true):∃c d,o.op=.call c/\(c.callee=.builtin .append\/∃f,c.callee=.value f)/\o.dst=some d:=by
 unfold ki at h
 split at h
 ·have a:o.dst.any E.contains=true->∃d,o.dst=some d:=by
   intro h;cases a:o.dst with
   |none=>grind|some d=>exact⟨d,rfl⟩
  grind
 ·cases h
def pX{ops:List Oper}{c:Call}(h:ki E o=true)(a:o.op=.call c):qs P T E ops q soft o K fr H=nT P T q soft c o.dst K fr H:=by grind[qs]
theorem oJ{ops:List Oper}(h:ki E o=false):qs P T E ops q soft o K fr H=(EI T E q fr o/\hE P T E ops q soft o K fr H):=by grind[qs,yU,EI]
theorem Yk{ops:List Oper}(h:fU E ops o=.val\/∃r,fU E ops o=.load r):EI T E q fr o:=by grind[EI,fU]
def yo{f:Fr}(he:∀x∈o.op.operands,ev T fr x=ev T f x)(h:EI T E q fr o):EI T E q f o:=by
 unfold EI U5 at*
 split
 ·rename_i t x y a;rw[a] at h;intro b;obtain⟨c,off,s,d,i,j⟩:=h b;exact⟨c,off,s,by rw[<-he x (by rw[a];simp[Op.operands])];exact d,i,j⟩
 ·trivial
def Bm{ops a:List Oper}(h:ki E o=false)(b:fU E a o=.val\/∃r,fU E a o=.load r):qs P T E ops q soft o K fr H=hE P T E ops q soft o K fr H:=by grind[oJ,Yk]
theorem M6{c:Call}{dst:Option Nat}(i:∀r h,K (fr.put dst r) h->K' (fr.put dst r) h)(h:oY P T c dst K fr H):oY P T c dst K' fr H:=by
 unfold oY at*
 split at h
 ·split at h
  ·obtain⟨a,b,d,f,h⟩:=h;refine⟨a,b,d,f,?_⟩
   grind
  ·exact h
 ·exact h
theorem R7{c:Call}{dst:Option Nat}(h:oY P T c dst K fr H):∃r a,K (fr.put dst r) a:=by
 unfold oY at h
 split at h
 all_goals grind
def OL{c:Call}{dst:Option Nat}{d:Nat}{v:AV}(n:∀x∈c.args.toList,ev T (fr.put (some d) v) x=ev T fr x)(a:dst≠some d)(h:oY P T c dst K (fr.put (some d) v) H):oY P T c dst (λf h=>K (f.put (some d) v) h) fr H:=by
 unfold oY at*
 split at h
 ·rename_i b s x t o i l;have j:b≠d:=λe=>a (by rw[e]);have k:∀y:AV,(fr.put (some b) y).put (some d) v=(fr.put (some d) v).put (some b) y:=λy=>ns fr j y v
  simp_all
 ·exact h
theorem nK.mono{a:AV}{as:List AV}{Post Post':AV->dS->Prop}(h:nK P T a as H Post)(b:∀r h,Post r h->Post' r h):nK P T a as H Post':=by
 unfold nK at*
 split at h
 ·exact h.mono b
 ·exact h
theorem yc{c:Call}{dst:Option Nat}(d:∀r h,(Z' c=true->soft=true->QK q H h)->K (fr.put dst r) h->K' (fr.put dst r) h)(h:nT P T q soft c dst K fr H):nT P T q soft c dst K' fr H:=by
 unfold nT at*
 split at h
 ·obtain⟨Post,f,i,a⟩:=h;exact⟨Post,f,i,λr h b=>⟨(a r h b).1,d r h (λ_=>(a r h b).1) (a r h b).2⟩⟩
 ·grind[M6,Z']
def Y3{c:Call}{dst:Option Nat}(h:nT P T q soft c dst K fr H):∃r a,(Z' c=true->soft=true->QK q H a)/\K (fr.put dst r) a:=by
 unfold nT at h
 split at h
 ·obtain⟨Post,b,⟨r,a,d⟩,f⟩:=h
  grind
 ·grind[R7,Z']
def Lt{c:Call}{dst:Option Nat}{d:Nat}{v:AV}(b:∀x∈c.operands.toList,ev T (fr.put (some d) v) x=ev T fr x)(i:dst≠some d)(h:nT P T q soft c dst K (fr.put (some d) v) H):nT P T q soft c dst (λf h=>K (f.put (some d) v) h) fr H:=by
 have a:∀x∈c.args.toList,ev T (fr.put (some d) v) x=ev T fr x:=λx j=>b x (by
  unfold Call.operands;rw[Array.toList_append]
  exact List.mem_append_right _ j)
 unfold nT at*
 split at h
 ·rename_i f o;obtain⟨Post,k,s,l⟩:=h;rw[b f (by unfold Call.operands;rw[o];simp),uy (g:=λx=>(ev T fr x).norm) (λx j=>by rw[a x j])] at k;refine⟨Post,k,s,λr h n=>⟨(l r h n).1,?_⟩⟩;have:=(l r h n).2;cases dst with
  |none=>exact this|some t=>grind[ns]
 ·exact OL a i h
theorem C9(a:∀fr H,K fr H->K' fr H)(h:hO P T E opsA q soft o K fr H):hO P T E opsA q soft o K' fr H:=by
 unfold hO at*
 split at h
 ·cases hg:ki E o with
  |true=>
   obtain⟨c,d,b,_,f⟩:=AU hg;rw[pX hg b] at h|-
   grind[yc]
  |false=>grind[oJ,Ip]
 ·exact a _ _ h
 ·exact h
theorem QJ(h:qs P T E opsA.toList q soft o K fr H):qy P T E o K fr H:=by
 cases hg:ki E o with
 |true=>
  obtain⟨c,d,b,a,l⟩:=AU hg;rw[pX hg b] at h;unfold qy;rw[b];rcases a with a|⟨f,a⟩
  ·grind[nT]
  ·simp only[a];unfold nT at h;rw[a] at h;obtain⟨Post,i,_,j⟩:=h;exact i.mono λr h k=>(j r h k).2
 |false=>
  rw[oJ hg] at h;exact O8 h.2
def OX(h:hO P T E opsA q soft o K fr H):Ec P T E opsA o K fr H:=by grind[hO,hU,Ec,QJ]
theorem ym(h:∀t,t∈o.looksAt opsA->fr'.env t=fr.env t):hU opsA o fr'=hU opsA o fr:=by
 unfold hU;cases hg:o.guard with
 |none=>rfl|some p=>
  obtain⟨j,want⟩:=p;simp only
  cases a:(opsA[j]?).bind (·.dst)with
  |none=>rfl|some d=>
   have:d∈o.looksAt opsA:=by
    unfold Oper.looksAt
    grind
   grind
theorem km{d:Option Nat}{v:AV}(h:∀a,d=some a->a∉o.looksAt opsA):hU opsA o (fr.put d v)=hU opsA o fr:=by grind[ym,Fr.s9]
def Ca{c:Cls}{dst:Option Nat}(b:Left c dst soft q fr H fr' H')(h:∀a,dst=some a->a∉o.looksAt opsA):hU opsA o fr'=hU opsA o fr:=by
 refine ym λt d=>b.env t ?_
 grind
def ad_(E:List Nat)(opsA:Array Oper)(s1 s2:Bool)(o1 o2:Oper):Bool:=
 o1.apart opsA o2&&wO (fU E opsA.toList o1) (fU E opsA.toList o2)&&
 (match fU E opsA.toList o1,fU E opsA.toList o2 with
  |.load _,.BF=>s1&&s2|.BF,.load _=>s1&&s2|.load _,.MF _=>s2|.MF _,.load _=>s1|_,_=>true)
def GS(o:Oper):Bool:=
 match o.op with
 |.call c=>Z' c|_=>false
def LG(E:List Nat)(o:Oper):Bool:=
 match o.op,o.dst with
 |.alloc _,some d=>!E.contains d|_,_=>false
def Ly(h:LG E o=true):∃t d,o.op=.alloc t/\o.dst=some d/\E.contains d=false:=by grind[LG]
def acD(E:List Nat)(opsA:Array Oper)(s1 s2:Bool)(o1 o2:Oper):Bool:=
 match fU E opsA.toList o2 with
 |.val=>true|.load _=>GS o1&&s1&&s2|.alloc _=>GS o1&&LG E o2|_=>false
def OH{s1 s2:Bool}(h:acD E opsA s1 s2 o1 o2=true):(fU E opsA.toList o2=.val\/(∃r,fU E opsA.toList o2=.load r)/\GS o1=true/\s1=true/\s2=true)\/GS o1=true/\LG E o2=true:=by grind[acD]
def ac7(E:List Nat)(opsA:Array Oper)(s1 s2:Bool)(o1 o2:Oper):Bool:=
 if ki E o1||ki E o2 then
  o1.apart opsA o2&&(ki E o1&&!ki E o2&&acD E opsA s1 s2 o1 o2||ki E o2&&!ki E o1&&acD E opsA s2 s1 o2 o1)
 else if E.contains 999999&&(oX o1).isSome&&(oX o2).isSome&&oX o1 !=oX o2&&o1.dst==none&&o2.dst==none then true
 else ad_ E opsA s1 s2 o1 o2
def Zd{f:Fr}{h:dS}(b:fU E opsA.toList o=.val)(he:∀x∈o.op.operands,ev T fr x=ev T f x):nG P T E opsA.toList q soft fr H o=nG P T E opsA.toList q soft f h o:=by
 refine yD he (λt x a=>?_) λt x i ok a=>?_
 all_goals grind[fU]
def Jb{d:Option Nat}{v:AV}(b:∀a,d=some a->a∉o.looksAt opsA):∀x∈o.op.operands,ev T fr x=ev T (fr.put d v) x:=by grind[D7,Fr.s9,JD]
theorem Ft{d1 d2:Option Nat}(h:∀d,d1=some d->d2≠some d)(x y:AV):(fr.put d1 x).put d2 y=(fr.put d2 y).put d1 x:=by
 cases d1 with
 |none=>rfl|some a=>
  cases d2 with
  |none=>rfl|some b=>grind[ns]
theorem UY{c:Call}(a:o.op=.call c){x:Operand}(b:x∈c.args.toList):x∈o.op.operands:=by
 rw[a];simp[Op.operands,Call.operands,xD.1 b]
def l5(h:hO P T E opsA q soft o K fr H):hU opsA o fr=some true/\qs P T E opsA.toList q soft o K fr H\/hU opsA o fr=some false/\K (fr.put o.dst (.tuple [])) H:=by grind[hO]
def rM(hg:hU opsA o fr=some true)(h:qs P T E opsA.toList q soft o K fr H):hO P T E opsA q soft o K fr H:=by grind[hO]
theorem ta(hg:hU opsA o fr=some false)(h:K (fr.put o.dst (.tuple [])) H):hO P T E opsA q soft o K fr H:=by grind[hO]
def Is{c:Call}(a:o.op=.call c){x:Operand}(b:x∈c.operands.toList):x∈o.op.operands:=by
 rw[a];exact xD.1 b
def ae6{c:Call}(a:fU E opsA.toList o2=.val\/(∃r,fU E opsA.toList o2=.load r)/\GS o1=true/\soft1=true/\soft2=true)(l:o1.op=.call c)(k:∀d,o1.dst=some d->d∉o2.looksAt opsA){r:AV}{f:dS}
  (n:Z' c=true->soft1=true->QK q H f) {v:AV} (s:nG P T E opsA.toList q soft2 fr H o2=some v\/nG P T E opsA.toList q soft2 (fr.put o1.dst r) f o2=some v):nG P T E opsA.toList q soft2 fr H o2=nG P T E opsA.toList q soft2 (fr.put o1.dst r) f o2:=by
 rcases a with a|⟨⟨rr,a⟩,i,u,w⟩
 ·exact Zd a (Jb k)
 ·have j:Z' c=true:=by unfold GS at i;rw[l] at i;exact i
  have x:Left .BF o1.dst true q fr H (fr.put o1.dst r) f:=⟨λt y=>by rw[Fr.s9,dI y],λb _ _=>⟨by cases o1.dst<;>rfl,by cases o1.dst<;>rfl⟩,λh=>(h rfl).elim,λ_=>n j u⟩;refine EM (o:=o2) (opsA:=opsA) x k (by rw[a];rfl) (λ_ _=>⟨λ_=>⟨w,rfl⟩,λ_ h=>by cases h⟩) s
def Pc(w:o1.apart opsA o2=true)(B:fU E opsA.toList o1=.val\/(∃r,fU E opsA.toList o1=.load r)/\GS o2=true/\soft2=true/\soft1=true)(s:ki E o1=false)(i:ki E o2=true)(h:hO P T E opsA q soft1 o1 (λfr H=>hO P T E opsA q soft2 o2 K fr H) fr H):hO P T E opsA q soft2 o2 (λfr H=>hO P T E opsA q soft1 o1 K fr H) fr H:=by
 obtain⟨C,a2,a3⟩:=Oper.apart_spec w;obtain⟨c,d2,u,_,G⟩:=AU i;have j:fU E opsA.toList o1=.val\/∃r,fU E opsA.toList o1=.load r:=B.imp id λh=>h.1
 have key:∃v,(∀r h,(Z' c=true->soft2=true->QK q H h)->K ((fr.put o2.dst r).put o1.dst v) h->hO P T E opsA q soft1 o1 K (fr.put o2.dst r) h)/\hO P T E opsA q soft2 o2 K (fr.put o1.dst v) H:=by
  rcases l5 h with⟨k,n⟩|⟨k,n⟩
  ·rw[Bm s j] at n;obtain⟨f1,H1,y,a⟩:=sE n;obtain⟨v,D,I,J⟩:=xN j y;rw[I,J] at a;refine⟨v,λr F A t=>rM (by rw[km a3,k]) ?_,a⟩;rw[Bm s j];exact vd (Bl (by rw[<-ae6 B u a3 A (.inl D)];exact D)) t
  ·exact⟨_,λr F _ t=>ta (by rw[km a3,k]) t,n⟩
 obtain⟨v,back,n⟩:=key;rcases l5 n with⟨l,a⟩|⟨l,a⟩
 ·rw[km C] at l;rw[pX i u] at a;refine rM l ?_;rw[pX i u]
  have L:nT P T q soft2 c o2.dst (λf h=>K (f.put o1.dst v) h) fr H:=by
   cases b:o1.dst with
   |none=>rw[b] at a;exact a
   |some d=>rw[b] at a;exact Lt (λx M=>(Jb (o:=o2) (opsA:=opsA) (d:=some d) (λN e=>by cases e;exact C d b) x (Is u M)).symm) (a2 d b) a
  exact yc (λr F A t=>back _ _ A t) L
 ·grind[km,Ft,ta,QK.refl]
def Pg(D:o1.apart opsA o2=true)(N:fU E opsA.toList o2=.val\/(∃r,fU E opsA.toList o2=.load r)/\GS o1=true/\soft1=true/\soft2=true)(n:ki E o1=true)(A:ki E o2=false)(h:hO P T E opsA q soft1 o1 (λfr H=>hO P T E opsA q soft2 o2 K fr H) fr H):hO P T E opsA q soft2 o2 (λfr H=>hO P T E opsA q soft1 o1 K fr H) fr H:=by
 obtain⟨F,a2,a3⟩:=Oper.apart_spec D;obtain⟨c,d1,C,_,O⟩:=AU n;have s:fU E opsA.toList o2=.val\/∃r,fU E opsA.toList o2=.load r:=N.imp id λh=>h.1
 have inv:∀{r:AV} {y:dS} {t:Fr->dS->Prop},(Z' c=true->soft1=true->QK q H y)->hO P T E opsA q soft2 o2 t (fr.put o1.dst r) y->∃v,(hU opsA o2 fr=some true/\nG P T E opsA.toList q soft2 fr H o2=some v\/hU opsA o2 fr=some false/\v=.tuple [])/\t ((fr.put o1.dst r).put o2.dst v) y:=by
  intro r y t G Q;rcases l5 Q with⟨a,b⟩|⟨a,b⟩
  ·rw[Bm A s] at b;obtain⟨f1,H1,I,i⟩:=sE b;obtain⟨v,j,J,R⟩:=xN s I;rw[J,R] at i;exact⟨v,.inl ⟨by rw[<-km (o:=o2) F];exact a,by rw[ae6 N C F G (.inr j)];exact j⟩,i⟩
  ·exact⟨_,.inr ⟨by rw[<-km (o:=o2) F];exact a,rfl⟩,b⟩
 have fwd:∀{v:AV} {t:Fr->dS->Prop},(hU opsA o2 fr=some true/\nG P T E opsA.toList q soft2 fr H o2=some v\/hU opsA o2 fr=some false/\v=.tuple [])->t (fr.put o2.dst v) H->hO P T E opsA q soft2 o2 t fr H:=by
  intro v t j k;rcases j with⟨a,j⟩|⟨a,rfl⟩
  ·refine rM a ?_;rw[Bm A s];exact vd (Bl j) k
  ·exact ta a k
 have uniq:∀{v w:AV},(hU opsA o2 fr=some true/\nG P T E opsA.toList q soft2 fr H o2=some v\/hU opsA o2 fr=some false/\v=.tuple [])->(hU opsA o2 fr=some true/\nG P T E opsA.toList q soft2 fr H o2=some w\/hU opsA o2 fr=some false/\w=.tuple [])->v=w:=by
  intro v w b i;rcases b with⟨g1,b⟩|⟨g1,rfl⟩<;>rcases i with⟨g2,i⟩|⟨g2,rfl⟩
  ·rw[b] at i;exact iq i
  ·rw[g1] at g2;cases g2
  ·rw[g1] at g2;cases g2
  ·rfl
 rcases l5 h with⟨u,b⟩|⟨u,b⟩
 ·rw[pX n C] at b;obtain⟨W,X,L,M⟩:=Y3 b;obtain⟨v,j,_⟩:=inv L M;refine fwd j (rM (by rw[km a3,u]) ?_);rw[pX n C]
  have i:nT P T q soft1 c o1.dst (λf h=>K (f.put o2.dst v) h) fr H:=yc (λr y G k=>by
   obtain⟨w,hw,k⟩:=inv G k;rw[uniq j hw]
   exact k) b
  cases l:o2.dst with
  |none=>rw[l] at i;exact i
  |some d=>
   rw[l] at i;have B:o1.dst≠some d:=λe=>a2 d e l
   have S:nT P T q soft1 c o1.dst (λf h=>K (f.put (some d) v) h) ((fr.put (some d) v).put (some d) (fr.env d)) H:=by
    rw[Hl,Eg];exact i
   have U:=Lt (λx V=>(by
    have:=Jb (o:=o1) (opsA:=opsA) (T:=T) (fr:=fr.put (some d) v) (d:=some d) (v:=fr.env d) (λY e=>by cases e;exact a3 d l) x (Is C V)
    exact this.symm)) B S
   refine yc (λr y _ k=>?_) U
   have J:(((fr.put (some d) v).put o1.dst r).put (some d) (fr.env d)).put (some d) v=(fr.put (some d) v).put o1.dst r:=by
    rw[Hl];have hs:=Eg ((fr.put (some d) v).put o1.dst r) d
    have he:((fr.put (some d) v).put o1.dst r).env d=v:=by
     rw[Fr.s9,dI B,Fr.s9,dO rfl]
    rw[he] at hs;exact hs
   rw[J] at k;exact k
 ·obtain⟨v,j,k⟩:=inv (λ_ _=>QK.refl) b;refine fwd j (ta (by rw[km a3,u]) ?_);rw[<-Ft a2];exact k
def alF(d:Nat)(b:Bool)(z:List AV)(fr:Fr):Fr:=if b then kF fr d z else fr.put (some d) (.tuple [])
theorem T1{d t:Nat}{b:Bool}{z:List AV}(h:t≠d):(alF d b z fr).env t=fr.env t:=by
 unfold alF
 split
 ·show gA fr.env d _ t=_
  grind[gA]
 ·grind[Fr.s9]
theorem Hf{d:Nat}{b:Bool}{z:List AV}{a:Option Nat}(h:a≠some d)(v:AV):(alF d b z fr).put a v=alF d b z (fr.put a v):=by grind[alF,zE,Ft]
theorem ye{t:TypeId}{d:Nat}(a:o.op=.alloc t)(c:o.dst=some d)(i:E.contains d=false):hO P T E opsA q soft o K fr H↔∃b z,hU opsA o fr=some b/\(b=true->gl P t=some z)/\K (alF d b z fr) H:=by
 have hn:ki E o=false:=by unfold ki;rw[a]
 have hs:qs P T E opsA.toList q soft o K fr H=(match gl P t with|some z=>K (kF fr d z) H|none=>False):=by
  unfold qs yU;rw[hn,a];simp only[qU,lU];unfold hE;rw[a];simp only;cases gl P t with
  |none=>rfl|some z=>
   simp only;unfold kM;rw[c];simp only;rw[dI (by rw[i];decide)];refine propext ⟨λh=>h.2,λh=>⟨λ_=>?_,h⟩⟩;show E.contains d=false;exact i
 constructor
 ·intro h;rcases l5 h with⟨hg,h⟩|⟨hg,h⟩
  ·rw[hs] at h
   split at h
   ·rename_i z f;exact⟨true,z,hg,λ_=>f,h⟩
   ·exact h.elim
  ·rw[c] at h;exact⟨false,[],hg,(λe=>by cases e),h⟩
 ·rintro⟨b,z,hg,f,h⟩;cases b with
  |true=>
   refine rM hg ?_;rw[hs,f rfl];exact h
  |false=>
   refine ta hg ?_;rw[c];exact h
def ala{d:Nat}{b:Bool}{z:List AV}(a:d∉o.looksAt opsA):∀x∈o.op.operands,ev T (alF d b z fr) x=ev T fr x:=by grind[D7,T1,JD]
theorem DH{d:Nat}{b:Bool}{z:List AV}(a:d∉o.looksAt opsA):hU opsA o (alF d b z fr)=hU opsA o fr:=by grind[ym,T1]
def QY(h:GS o=true):∃c f,o.op=.call c/\c.callee=.value f:=by grind[GS,Z']
def YD{c:Call}{f:Operand}{d:Nat}{b:Bool}{z:List AV}(h:o.op=.call c)(i:c.callee=.value f)(j:d∉o.looksAt opsA):ev T (alF d b z fr) f=ev T fr f/\(c.args.toList.map λx=>(ev T (alF d b z fr) x).norm)=c.args.toList.map λx=>(ev T fr x).norm:=by
 have he:=λx a=>ala (T:=T) (fr:=fr) (b:=b) (z:=z) j x a;refine⟨he f (Is h (by unfold Call.operands;rw[i];simp)),uy λx a=>?_⟩
 grind[UY]
def Po(k:o1.apart opsA o2=true)(l:LG E o1=true)(n:GS o2=true)(o:ki E o2=true)(h:hO P T E opsA q soft1 o1 (λfr H=>hO P T E opsA q soft2 o2 K fr H) fr H):hO P T E opsA q soft2 o2 (λfr H=>hO P T E opsA q soft1 o1 K fr H) fr H:=by
 obtain⟨u,a2,a3⟩:=Oper.apart_spec k;obtain⟨t,d,v,j,w⟩:=Ly l;obtain⟨c,f,x,y⟩:=QY n;have s:o2.dst≠some d:=a2 d j;obtain⟨b,z,hg,D,h⟩:=(ye v j w).1 h;rcases l5 h with⟨a,i⟩|⟨a,i⟩
 ·rw[DH (u d j)] at a;refine rM a ?_;rw[pX o x] at i|-;unfold nT at i|-;rw[y] at i|-;simp only at i|-;obtain⟨F,G⟩:=YD (T:=T) (fr:=fr) (b:=b) (z:=z) x y (u d j);rw[F,G] at i;obtain⟨Post,I,J,A⟩:=i;refine⟨Post,I,J,λr B C=>⟨(A r B C).1,(ye v j w).2 ⟨b,z,by rw[km a3,hg],D,?_⟩⟩⟩;rw[<-Hf s];exact(A r B C).2
 ·grind[DH,ta,ye,km,Hf]
def O1(n:o1.apart opsA o2=true)(o:GS o1=true)(s:LG E o2=true)(j:ki E o1=true)(h:hO P T E opsA q soft1 o1 (λfr H=>hO P T E opsA q soft2 o2 K fr H) fr H):hO P T E opsA q soft2 o2 (λfr H=>hO P T E opsA q soft1 o1 K fr H) fr H:=by
 obtain⟨C,a2,a3⟩:=Oper.apart_spec n;obtain⟨t,d,u,a,v⟩:=Ly s;obtain⟨c,f,w,x⟩:=QY o;have y:o1.dst≠some d:=λe=>a2 d e a;rcases l5 h with⟨k,i⟩|⟨k,i⟩
 ·rw[pX j w] at i;unfold nT at i;rw[x] at i;simp only at i;obtain⟨Post,N,⟨D,F,G⟩,A⟩:=i;obtain⟨b,z,hg,I,_⟩:=(ye u a v).1 (A D F G).2;rw[km C] at hg;refine(ye u a v).2 ⟨b,z,hg,I,rM (by rw[DH (a3 d a),k]) ?_⟩;rw[pX j w];unfold nT;rw[x];simp only;obtain⟨O,Q⟩:=YD (T:=T) (fr:=fr) (b:=b) (z:=z) w x (a3 d a);rw[O,Q];refine⟨Post,N,⟨D,F,G⟩,λr J L=>⟨(A r J L).1,?_⟩⟩;obtain⟨R,S,l,B,M⟩:=(ye u a v).1 (A r J L).2;rw[km C,hg] at l;obtain rfl:b=R:=iq l;rw[Hf y];cases b with
  |true=>
   obtain rfl:z=S:=iq (by rw[<-I rfl,<-B rfl]);exact M
  |false=>exact M
 ·grind[ye,km,ta,DH,Hf]
def akn{t:TypeId}{a off:Nat}{v:AV}:lZ P t (.eK a off) v K fr H↔∃agg n cs,fu P t=some (agg,n)/\H[a]?=some cs/\(ue cs=true/\v.cells.length=n/\off+n<=cs.length/\eU v=true)/\K fr (H.set a (setCells cs off v.norm.cells)):=by grind[lZ]
theorem F4{s:Nat}(h:oX o=some s):∃t y,o.op=.store t (.tmp s) y:=by grind[oX]
def acC{s:Nat}(h:oX o=some s):ki E o=false:=by grind[F4,ki]
def sH{ops:List Oper}{s:Nat}(l:E.contains 999999=true)(hs:oX o=some s):qs P T E ops q soft o K fr H↔
  ∃t y a off agg n cs,o.op=.store t (.tmp s) y/\o.dst=none/\ev T fr (.tmp s)=.eK a off/\q.cl a=s/\qI ops (.tmp s) (.eK a off)=true/\soft=false/\fu P t=some (agg,n)/\H[a]?=some cs/\(ue cs=true/\(ev T fr y).cells.length=n/\off+n<=cs.length/\eU (ev T fr y)=true)/\K fr (H.set a (setCells cs off (ev T fr y).norm.cells)):=by
 obtain⟨t,y,r⟩:=F4 hs;rw[oJ (acC hs)];unfold EI U5 hE;rw[r];simp only;constructor
 ·rintro⟨u,h,d,f,k⟩;obtain⟨a,off,A,c,i,j⟩:=u l;injection i with i;subst i;rw[c] at d f k;obtain⟨agg,n,cs,g1,g2,g3,g4⟩:=akn.1 k;refine⟨t,y,a,off,agg,n,cs,rfl,h,c,j,d,?_,g1,g2,g3,g4⟩;cases b:soft with
  |false=>rfl|true=>have:=f b;simp[isL] at this
 ·rintro⟨B,C,a,off,agg,n,cs,v,h,c,j,d,f,g1,g2,g3,g4⟩;injection v with w D x;subst w;subst x;refine⟨λ_=>⟨a,off,s,c,rfl,j⟩,h,by rw[c];exact d,λb=>?_,?_⟩
  ·rw[f] at b;cases b
  ·rw[c];exact akn.2 ⟨agg,n,cs,g1,g2,g3,g4⟩
def Qu{s1 s2:Nat}(k:E.contains 999999=true)(l:oX o1=some s1)(f:oX o2=some s2)(u:s1≠s2)(h:hO P T E opsA q soft1 o1 (λfr H=>hO P T E opsA q soft2 o2 K fr H) fr H)(w:o1.dst=none)(x:o2.dst=none):hO P T E opsA q soft2 o2 (λfr H=>hO P T E opsA q soft1 o1 K fr H) fr H:=by
 have F:∀v,fr.put o1.dst v=fr:=λv=>by rw[w];rfl
 have R:∀v,fr.put o2.dst v=fr:=λv=>by rw[x];rfl
 rcases l5 h with⟨i,s⟩|⟨i,s⟩
 ·obtain⟨t,y,A,off,agg,n,cs,G,I,J,B,L,M,N,O,Q,s⟩:=(sH k l).1 s;rcases l5 s with⟨a,b⟩|⟨a,b⟩
  ·obtain⟨C,D,j,c,d,n',o,f0,f1,f2,f3,f4,f5,f6,f7,f8,b⟩:=(sH k f).1 b
   have r:A≠j:=by rintro rfl;exact u (B.symm.trans f3)
   rw[Ya r] at f7;refine rM a ((sH k f).2 ⟨C,D,j,c,d,n',o,f0,f1,f2,f3,f4,f5,f6,f7,f8,?_⟩);refine rM i ((sH k l).2 ⟨t,y,A,off,agg,n,cs,G,I,J,B,L,M,N,?_,Q,?_⟩)
   ·rw[Ya (λe=>r e.symm)];exact O
   ·rw[List.set_comm _ _ (λe=>r e.symm)];exact b
  ·refine ta a ?_;rw[R] at b|-;exact rM i ((sH k l).2 ⟨t,y,A,off,agg,n,cs,G,I,J,B,L,M,N,O,Q,b⟩)
 ·rw[F] at s;rcases l5 s with⟨a,b⟩|⟨a,b⟩
  ·obtain⟨C,D,j,c,d,n',o,f0,f1,f2,f3,f4,f5,f6,f7,f8,b⟩:=(sH k f).1 b;exact rM a ((sH k f).2 ⟨C,D,j,c,d,n',o,f0,f1,f2,f3,f4,f5,f6,f7,f8,ta i (by rw[F];exact b)⟩)
  ·grind[ta,hO]
theorem Tu(c:ac7 E opsA soft1 soft2 o1 o2=true)(h:hO P T E opsA q soft1 o1 (λfr H=>hO P T E opsA q soft2 o2 K fr H) fr H):hO P T E opsA q soft2 o2 (λfr H=>hO P T E opsA q soft1 o1 K fr H) fr H:=by
 unfold ac7 at c
 by_cases hG:(ki E o1||ki E o2)=true
 ·rw[dO hG] at c;simp only[gE,r9,afd] at c;obtain⟨b,⟨⟨g1,g2⟩,g3⟩|⟨⟨g1,g2⟩,g3⟩⟩:=c
  ·rcases OH g3 with g3|⟨g3,g4⟩
   ·exact Pg b g3 g1 g2 h
   ·exact O1 b g3 g4 g1 h
  ·rcases OH g3 with g3|⟨g3,g4⟩
   ·exact Pc b g3 g2 g1 h
   ·exact Po b g4 g3 g1 h
 rw[dI hG] at c
 by_cases M:(E.contains 999999&&(oX o1).isSome&&(oX o2).isSome&&oX o1 !=oX o2&&o1.dst==none&&o2.dst==none)=true
 ·simp only[gE,Option.isSome_iff_exists,bne_iff_ne,ne_eq,ahW] at M;obtain⟨⟨⟨⟨⟨V,s1,o⟩,s2,s⟩,N⟩,w⟩,y⟩:=M;exact Qu V o s (by rintro rfl;exact N (by rw[o,s])) h w y
 rw[dI M] at c
 have A:ki E o1=false:=by cases W:ki E o1<;>simp_all
 have B:ki E o2=false:=by cases W:ki E o2<;>simp_all
 unfold ad_ at c;simp only[gE] at c;obtain⟨⟨b,D⟩,a⟩:=c;obtain⟨F,a2,a3⟩:=Oper.apart_spec b
 have o:∀r,fU E opsA.toList o1=.load r->(fU E opsA.toList o2=.BF->soft1=true/\soft2=true)/\(∀G,fU E opsA.toList o2=.MF G->soft2=true):=by
  intro r O;rw[O] at a;refine⟨λhe=>?_,λG he=>?_⟩<;>rw[he] at a
  ·simpa using a
  ·exact a
 have s:∀r,fU E opsA.toList o2=.load r->(fU E opsA.toList o1=.BF->soft2=true/\soft1=true)/\(∀G,fU E opsA.toList o1=.MF G->soft1=true):=by
  intro r O;rw[O] at a;refine⟨λhe=>?_,λG he=>?_⟩<;>rw[he] at a
  ·have:soft1=true/\soft2=true:=by simpa using a
   exact⟨this.2,this.1⟩
  ·exact a
 unfold hO at h;simp only[oJ A,oJ B] at h
 split at h
 ·--Q first one is carried out
  rename_i j;obtain⟨v,h⟩:=h;obtain⟨f1,H1,t,h⟩:=sE h;have I:=p6 t;have C:hU opsA o2 f1=hU opsA o2 fr:=Ca I F;rw[C] at h;unfold hO;simp only[oJ A,oJ B]
  split at h
  ·rename_i k;obtain⟨l,h⟩:=h;obtain⟨f2,H2,i,R⟩:=sE h;obtain⟨f,X,n,J⟩:=V8 b D o s t i;refine⟨yo (λx c=>(El (T:=T) (opsA:=opsA) I F x c).symm) l,vd n ?_⟩;have:hU opsA o1 f=hU opsA o1 fr:=Ca (p6 n) a3;rw[this,j];exact⟨yo (El (T:=T) (opsA:=opsA) (p6 n) a3) v,vd J R⟩
  ·rename_i k
   show match hU opsA o1 (fr.put o2.dst (.tuple []))with
    |some true=>EI T E q (fr.put o2.dst (.tuple [])) o1/\hE P T E opsA.toList q soft1 o1 K (fr.put o2.dst (.tuple [])) H|some false=>K ((fr.put o2.dst (.tuple [])).put o1.dst (.tuple [])) H|none=>False
   rw[km a3,j];simp only;refine⟨yo (Jb a3) v,?_⟩;cases u:o2.dst with
   |none=>rw[u] at h;exact vd t h
   |some d=>rw[u] at h;exact vd (Py (opsA:=opsA) _ (a3 d u) (λe=>a2 d e u) t) h
  ·exact h.elim
 ·--Q first one is left out
  rename_i j;have C:hU opsA o2 (fr.put o1.dst (.tuple []))=hU opsA o2 fr:=km F;rw[C] at h;unfold hO;simp only[oJ A,oJ B]
  split at h
  ·rename_i k;obtain⟨l,h⟩:=h;obtain⟨f2,H2,i,R⟩:=sE h
   have S:∃f,n8 P T E opsA.toList q soft2 o2 fr H f H2/\f.put o1.dst (.tuple [])=f2:=by
    cases u:o1.dst with
    |none=>rw[u] at i;exact⟨f2,i,rfl⟩
    |some d=>rw[u] at i;exact HB (opsA:=opsA) (F d u) (a2 d u) i
   obtain⟨f,L,U⟩:=S;refine⟨yo (λx c=>(Jb F x c).symm) l,vd L ?_⟩;have:hU opsA o1 f=hU opsA o1 fr:=Ca (p6 L) a3;rw[this,j];show K (f.put o1.dst (.tuple [])) H2;rw[U];exact R
  ·rename_i k
   show match hU opsA o1 (fr.put o2.dst (.tuple []))with
    |some true=>EI T E q (fr.put o2.dst (.tuple [])) o1/\hE P T E opsA.toList q soft1 o1 K (fr.put o2.dst (.tuple [])) H|some false=>K ((fr.put o2.dst (.tuple [])).put o1.dst (.tuple [])) H|none=>False
   rw[km a3,j];simp only
   have:(fr.put o2.dst (.tuple [])).put o1.dst (.tuple [])=(fr.put o1.dst (.tuple [])).put o2.dst (.tuple []):=by
    cases w:o1.dst with
    |none=>rfl|some d1=>
     cases y:o2.dst with
     |none=>rfl|some d2=>exact ns fr (λe=>a2 d1 w (by rw[y,e])) _ _
   rw[this];exact h
  ·exact h.elim
 ·exact h.elim
def Tx{sf:Nat->Bool}{i:Nat}(hi:opsA[i]?=some o)(post:List Nat):∀(pre:List Nat) (fr:Fr) (H:dS),(∀j∈pre,∀a,opsA[j]?=some a->ac7 E opsA (sf j) (sf i) a o=true)->IP P T E opsA q sf (pre++i::post) K fr H->hO P T E opsA q (sf i) o (λfr H=>IP P T E opsA q sf (pre++post) K fr H) fr H:=by
 intro pre
 induction pre with
 |nil=>grind[IP]|cons j pre ih=>
  intro fr H hex h;simp only[List.cons_append,IP] at h|-
  split at h
  all_goals grind[C9,Tu]
end
def xG(opsA:Array Oper):Bool:=opsA.toList.zipIdx.all λ(o,i)=>o.after.all λe=>!Region.binds .any e||decide (e.on<i)
def Ns(opsA:Array Oper)(M:Array Nat):Bool:=
 (List.range opsA.size).all λi=>(List.range opsA.size).all λj=>!(M.getD i 0).testBit j||
  (opsA.getD i default).after.toList.any λe=>Region.binds .any e&&(e.on==j||(M.getD e.on 0).testBit j)
def xM(E:List Nat)(opsA:Array Oper)(sf:Nat->Bool):Bool:=
 let M:=Region.before opsA
 xG opsA&&Ns opsA M&&
 (List.range opsA.size).all λi=>(List.range i).all λj=>(M.getD i 0).testBit j||ac7 E opsA (sf j) (sf i) (opsA.getD j default) (opsA.getD i default)
section
variable{P:Program} {T:eA} {E:List Nat} {opsA:Array Oper} {q:Qt} {sf:Nat->Bool} {K:Fr->dS->Prop}
def vl(opsA:Array Oper)(listed:Array Bool):List Nat:=(List.range opsA.size).filter λi=>!listed.getD i true
def UL{listed:Array Bool}{i:Nat}:i∈vl opsA listed↔i<opsA.size/\listed.getD i true=false:=by
 simp[vl]
def Zi(M:Array Nat)(opsA:Array Oper)(listed:Array Bool):Prop:=∀i j,i<opsA.size->j<opsA.size->listed.getD i false=true->(M.getD i 0).testBit j=true->listed.getD j false=true
def BI{listed:Array Bool}{i:Nat}(d:Bool)(h:i<listed.size):(listed.setIfInBounds i true).getD i d=true:=by
 simp[h]
def No{opsA:Array Oper}(a:xG opsA=true){listed:Array Bool}(d:listed.size=opsA.size){i:Nat}(hi:i<opsA.size)(f:listed.getD i true=false)
  (c:∀j,j<i->listed.getD j false=true):i∈Region.ready .any opsA listed:=by
 rw[mem_ready];unfold xG at a;rw[kE] at a
 have b:(opsA[i],i)∈opsA.toList.zipIdx:=by grind
 have:=a _ b;simp only[Kj] at this
 grind
def FZ{opsA:Array Oper}{M:Array Nat}(d:Ns opsA M=true)(a:xG opsA=true){listed:Array Bool}(f:Zi M opsA listed){i:Nat}(s:i∈Region.ready .any opsA listed){j:Nat}(n:j<opsA.size)
  (t:(M.getD i 0).testBit j=true):listed.getD j false=true:=by
 obtain⟨u,o,q,b⟩:=mem_ready.1 s;have hi:i<opsA.size:=(Wm.1 q).1;unfold Ns at d;rw[kE] at d;have:=d i (by simpa using hi);rw[kE] at this;have:=this j (by simpa using n);rw[t] at this;simp only[aht,X',List.any_eq_true,xD,gE,r9,ahW] at this;obtain⟨e,he,h,hor⟩:=this
 have k:opsA.getD i default=o:=by rw[Pa,q];rfl
 rw[k] at he;have r:=b e he h;rcases hor with rfl|hor
 ·exact r
 ·have l:e.on<opsA.size:=by
   unfold xG at a;rw[kE] at a
   have c:(o,i)∈opsA.toList.zipIdx:=by grind
   have:=a _ c;simp only[Kj] at this
   grind
  exact f e.on j l n r hor
def WD{listed:Array Bool}(d:listed.size=opsA.size){i:Nat}(hi:i<opsA.size)(a:listed.getD i true=false):∃pre post,vl opsA listed=pre++i::post/\vl opsA (listed.setIfInBounds i true)=pre++post/\∀j∈pre,j<i/\listed.getD j true=false:=by
 have c:List.range opsA.size=List.range i++i::(List.range' (i+1) (opsA.size-i-1)):=by
  rw[Zc,Zc]
  have:opsA.size=i+(1+(opsA.size-i-1)):=xL
  conv=>lhs;rw[this]
  rw[<-List.range'_append_1]
  congr 1
  rw[show 1+(opsA.size-i-1)=(opsA.size-i-1)+1 by omega,adw];simp
 refine⟨(List.range i).filter (λj=>!listed.getD j true),(List.range' (i+1) (opsA.size-i-1)).filter (λj=>!listed.getD j true),?_,?_,?_⟩
 ·unfold vl;rw[c,akL,List.filter_cons_of_pos (by simp[a])]
 ·unfold vl;rw[c,akL,List.filter_cons_of_neg (by rw[BI _ xL];simp)]
  congr 1
  ·refine ak_ λj b=>?_
   have:j<i:=by simpa using b
   rw[getD_set_ne true xL]
  ·refine ak_ λj b=>?_;have:=(List.mem_range'_1.1 b).1;rw[getD_set_ne true xL]
 ·grind
variable{n:Nat} {G0:Nat->Nat} {F0:kD} {n0:Nat} {w0:World}
def yV{listed:Array Bool}{i:Nat}(hi:i<listed.size):listed.getD i false=listed.getD i true:=by grind
def Z6{Q:Exit->Act->World->Prop}(t:xM E opsA sf=true)(B:xZ n opsA=true)(V:∀fr' H' L w',K fr' H'->SR T n G0 F0 n0 w0 fr' H' L w'->Q .normal L w'):∀(fuel:Nat) (listed:Array Bool) (fr:Fr) (H:dS) (a:Act) (w:World),listed.size=opsA.size->Zi (Region.before opsA) opsA listed->(vl opsA listed).length<=fuel->SR T n G0 F0 n0 w0 fr H a w->IP P T E opsA q sf (vl opsA listed) K fr H->wpAny P .any opsA Q fuel listed a w:=by
 unfold xM at t;simp only[gE] at t;obtain⟨⟨c,W⟩,d⟩:=t
 have u:∀{listed:Array Bool},listed.size=opsA.size->Region.ready .any opsA listed=[]->vl opsA listed=[]:=by
  intro listed f C;cases b:vl opsA listed with
  |nil=>rfl|cons i rest=>
   exfalso
   have s:i∈vl opsA listed:=by rw[b];simp
   have hex:∃k,k<opsA.size/\listed.getD k true=false:=⟨i,UL.1 s⟩
   obtain⟨k,⟨M,N⟩,D⟩:∃k,(k<opsA.size/\listed.getD k true=false)/\∀j,j<k->¬(j<opsA.size/\listed.getD j true=false):=by
    clear b s;obtain⟨k,hk⟩:=hex
    induction k using Nat.strongRecOn with
    |_ k ih=>
     by_cases h:∃j,j<k/\(j<opsA.size/\listed.getD j true=false)
     ·obtain⟨j,v,x⟩:=h;exact ih j v x
     ·exact⟨k,hk,λj F hc=>h ⟨j,F,hc⟩⟩
   have:=No c f M N λj F=>by
    have hn:=D j F
    have O:j<opsA.size:=xL
    rw[yV xL];cases hb:listed.getD j true with
    |true=>rfl|false=>exact absurd ⟨O,hb⟩ hn
   rw[C] at this;cases this
 intro fuel
 induction fuel with
 |zero=>
  intro listed fr H a w f l hlen hs h;have b:vl opsA listed=[]:=BG xL;rw[b] at h;refine⟨?_,V _ _ _ _ h hs⟩;cases C:Region.ready .any opsA listed with
  |nil=>rfl|cons i rest=>
   have hm:i∈Region.ready .any opsA listed:=by rw[C];simp
   obtain⟨y,o,A,_⟩:=mem_ready.1 hm;have:i∈vl opsA listed:=UL.2 ⟨(Wm.1 A).1,y⟩;rw[b] at this;cases this
 |succ fuel ih=>
  intro listed fr H a w f l hlen hs h;refine⟨λC=>?_,λi hi=>?_⟩
  ·rw[u f C] at h;exact V _ _ _ _ h hs
  ·obtain⟨y,o,A,X⟩:=mem_ready.1 hi;have G:i<opsA.size:=(Wm.1 A).1;obtain⟨pre,post,Y,Z,h3⟩:=WD f G y;rw[Y] at h
   have r:=Tx (P:=P) (T:=T) (E:=E) (opsA:=opsA) (q:=q) (K:=K) (sf:=sf) A post pre fr H (by
    intro j F oj R;obtain⟨v,x⟩:=h3 j F;rw[kE] at d;have:=d i (by simpa using G);rw[kE] at this;have:=this j (by simpa using v);simp only[r9] at this
    have e1:opsA.getD j default=oj:=by rw[Pa,R];rfl
    have e2:opsA.getD i default=o:=by rw[Pa,A];rfl
    rw[e1,e2] at this;rcases this with hb|hb
    ·have:=FZ W c l hi xL hb;rw[yV xL,x] at this;cases this
    ·exact hb) h
   have S:rK n o=true:=Kj.1 B o (abj A);refine FI A S hs (OX r) ?_;intro fr' H' L w' hK U;refine ih (listed.setIfInBounds i true) fr' H' L w' (by simpa using f) ?_ ?_ U (by rw[Z];exact hK)
   ·--still closed
    intro i' j' hi' I hl hb
    by_cases he:j'=i
    ·subst he;exact BI _ xL
    ·rw[getD_set_ne false (λe=>he e.symm)]
     by_cases J:i'=i
     ·subst J;exact FZ W c l hi I hb
     ·rw[getD_set_ne false (λe=>J e.symm)] at hl;exact l i' j' hi' I hl hb
   ·rw[Y] at hlen;rw[Z];simp only[qf,oZ] at hlen|-;omega
end
section
variable{P:Program} {T:eA} {n:Nat} {Q:Exit->Fr->dS->Prop} {fr:Fr} {H:dS}
def SR.drew{G0:Nat->Nat}{F0:kD}{n0:Nat}{w0:World}{a:Act}{w:World}(hs:SR T n G0 F0 n0 w0 fr H a w):SR T n G0 F0 n0 w0 fr H a w.drew:=by
 obtain⟨ρ,F,R,hw,b⟩:=hs;exact⟨ρ,F,R,hw.drew,b.drew⟩
def gd.Pw{id:Nat}{ops:Array Oper}(E:List Nat)(q:Qt)(sf:Nat->Bool)(hm:P.follows .mixedOrders=true)(c:xZ n ops=true)(d:xM E ops sf=true)
  (h:IP P T E ops q sf (List.range ops.size) (Q .normal) fr H):gd P T n (.region id ops true) Q fr H:=by
 intro G0 F0 n0 w0 a w hs;refine wp_region_any hm ?_
 have b:vl ops (Array.replicate ops.size false)=List.range ops.size:=by
  unfold vl
  simp_all
 have:=Z6 (Q:=λe f w'=>∃fr' H',Q e fr' H'/\SR T n G0 F0 n0 w0 fr' H' f w') d c (λfr' H' f w' k l=>⟨fr',H',k,l⟩) ops.size (Array.replicate ops.size false) fr H a w.drew LA
  (by intro i j hi r o;simp[hi] at o) (by rw[b];simp) hs.drew (by rw[b];exact h)
 exact this
def IH(P:Program)(T:eA)(E:List Nat)(opsA:Array Oper)(q:Qt):List Oper->(Fr->dS->Prop)->Fr->dS->Prop
 |[],K,fr,H=>K fr H|o::rest,K,fr,H=>hO P T E opsA q true o (λfr H=>IH P T E opsA q rest K fr H) fr H
def Ms{E:List Nat}{ops:Array Oper}{q:Qt}{K:Fr->dS->Prop}:∀(l:List Oper) (k:Nat) (fr:Fr) (H:dS),l=ops.toList.drop k->IH P T E ops q l K fr H->IP P T E ops q (λ_=>true) (List.range' k l.length) K fr H:=by
 intro l
 induction l with
 |nil=>intro k fr H _ h;exact h|cons o l ih=>
  intro k fr H a h
  have b:k<ops.toList.length:=by
   rcases tU k ops.toList.length with h'|h'
   ·exact h'
   ·rw[Ku h'] at a;cases a
  have c:=M5 b;rw[c] at a;injection a with f d
  have hi:ops[k]?=some o:=by grind
  simp only[oZ,adw,IP,hi];exact C9 (λfr H h=>ih (k+1) fr H d h) h
def gd.abq{id:Nat}{ops:Array Oper}(E:List Nat)(q:Qt)(hm:P.follows .mixedOrders=true)(a:xZ n ops=true)(b:xM E ops (λ_=>true)=true)
  (h:IH P T E ops q ops.toList (Q .normal) fr H):gd P T n (.region id ops true) Q fr H:=by
 refine gd.Pw E q (λ_=>true) hm a b ?_;have:=Ms (K:=Q .normal) ops.toList 0 fr H LA h;rw[Zc]
 grind
end
end Go.kY
namespace Go.kY
open Go
section
variable{P:Program} {T:eA} {n:Nat} {Q:Exit->Fr->dS->Prop} {fr:Fr} {H:dS}
def gd.tR{x y:Code}(h:∀K:Fr->dS->Prop,(∀fr H,gd P T n y Q fr H->K fr H)->gd P T n x (Dc K Q) fr H):gd P T n (.seq x y) Q fr H:=
 gd.seq (h _ λ_ _ h=>h)
def gd.AL{id:Nat}{c:Code}(h:∀Q':Exit->Fr->dS->Prop,(∀fr H,Q .normal fr H->Q' .normal fr H)->(∀fr H,Q .normal fr H->Q' (.exit id) fr H)->(∀a fr H,a≠id->Q (.exit a) fr H->Q' (.exit a) fr H)->(∀fr H,Q .ret fr H->Q' .ret fr H)->gd P T n c Q' fr H):gd P T n (.block id c) Q fr H:=by
 refine gd.block (h (IX id Q) (λ_ _ h=>h) (λ_ _ h=>?_) (λa _ _ b h=>?_) (λ_ _ h=>h))
 ·simp only[IX,if_true];exact h
 ·simp only[IX,dI b];exact h
end
@[simp] theorem abY(K:Fr->dS->Prop)(Q:Exit->Fr->dS->Prop):Dc K Q .normal=K:=rfl
@[simp] theorem afg(K:Fr->dS->Prop)(Q:Exit->Fr->dS->Prop)(id:Nat):Dc K Q (.exit id)=Q (.exit id):=rfl
@[simp] theorem aie(K:Fr->dS->Prop)(Q:Exit->Fr->dS->Prop):Dc K Q .ret=Q .ret:=rfl
end Go.kY
