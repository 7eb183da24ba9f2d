/- Part of the proof of TheoryBegins: layer. -/
import Derived.Test.YtjgjcpnoaeljkaaGreatDoorAL7
set_option linter.all false
namespace Go.kQ
open Go
theorem yX{α:Type}(f:Nat->α){i j:Nat}(h:i≠j)(x y:α):fP (fP f i x) j y=fP (fP f j y) i x:=by grind[fP]
def jX(fr:Fr)(d:Nat)(cs:List AV):Fr:=
 {fr with env:=fP fr.env d (.gv d (fr.gen d+1) 0),box:=fP fr.box d (some cs),gen:=fP fr.gen d (fr.gen d+1)}
def yl(P:Program)(T:dt)(fr:Fr)(o:Oper):Option (List AV):=
 match o.op with
 |.alloc t=>hS P t|.box _ x=>if er (ev T fr x) then some (ev T fr x).cells else none|_=>none
inductive lX where
 |grow (tag:Tag) (l m:List AV)|same (l:List AV)
def lX.fr(fr:Fr)(d:Nat):lX->Fr
 |.grow tag l m=>grown fr d tag l m|.same l=>fr.put (some d) (.slice .iB l)
def MA(P:Program)(T:dt)(fr:Fr)(c:Call)(x:lX):Prop:=
 ∃s y t e sz tag a l m,c.args.toList=[s,y]/\c.argTypes.toList=[t,t]/\mO P t=some (e,sz)/\ev T fr s=.slice tag l/\ev T fr y=.slice a m/\kJ sz l=true/\kJ sz m=true/\l.length+m.length<=jm/\(oz fr tag l=true/\x=.grow tag l m\/oz fr tag l=false/\m=[]/\x=.same l)
section
variable{P:Program} {T:dt} {E:List Nat} {ops:List Oper} {opsA:Array Oper} {q:Qt} {soft soft1 soft2:Bool} {o o1 o2:Oper} {K:Fr->cZ->Prop} {fr fr1 fr2 fr':Fr} {H H1 H2 H':cZ}
def Y8{c:Call}{dst:Option Nat}(h:mc P T c dst (λf h=>f=fr'/\h=H') fr H):∃d x,dst=some d/\MA P T fr c x/\fr'=x.fr fr d/\H'=H:=by
 unfold mc at h
 split at h
 .rename_i d s y t k a b
  split at h
  .rename_i e sz tag l i m n o q;obtain⟨rfl,g2,g3,g4,g5⟩:=h
   split at g5
   .rename_i j;exact⟨d,.grow tag l m,rfl,⟨s,y,k,e,sz,tag,i,l,m,a,b,n,o,q,g2,g3,g4,.inl ⟨j,rfl⟩⟩,g5.1.symm,g5.2.symm⟩
   .rename_i j;exact⟨d,.same l,rfl,⟨s,y,k,e,sz,tag,i,l,m,a,b,n,o,q,g2,g3,g4,.inr ⟨by simpa using j,g5.1,rfl⟩⟩,g5.2.1.symm,g5.2.2.symm⟩
  .grind
 .exact h.elim
def abb{c:Call}{d:Nat}{x:lX}(h:MA P T fr c x)(b:K (x.fr fr d) H):mc P T c (some d) K fr H:=by
 obtain⟨s,y,t,e,sz,tag,f,l,m,i,j,k,n,o,q,r,u,v⟩:=h;unfold mc;rw[i,j];simp only[k,n,o];refine⟨trivial,q,r,u,?_⟩;rcases v with⟨a,rfl⟩|⟨a,hm,rfl⟩
 .rw[cS a];exact b
 .rw[cO (by simp[a])];exact⟨hm,b⟩
def MA.congr{c:Call}{x:lX}(f:MA P T fr c x)(he:∀y∈c.args.toList,ev T fr y=ev T fr' y)(h:fr'.qn=fr.qn)(hg:fr'.ef=fr.ef):MA P T fr' c x:=by
 obtain⟨s,y,t,e,sz,tag,a,l,m,b,i,j,k,n,o,q,r,u⟩:=f
 have d:oz fr' tag l=oz fr tag l:=by unfold oz;rw[h,hg]
 exact⟨s,y,t,e,sz,tag,a,l,m,b,i,j,by rw[<-he s (by rw[b];simp)];exact k,by rw[<-he y (by rw[b];simp)];exact n,o,q,r,by rw[d];exact u⟩
def wR(a:eY E ops o=.val\/∃r,eY E ops o=.load r)(h:nk P T E ops q soft o fr H fr' H'):∃v,mf P T E ops q soft fr H o=some v/\fr'=fr.put o.dst v/\H'=H:=by grind[nk,eY,fT]
def zB{v:AV}(h:mf P T E ops q soft fr H o=some v):nk P T E ops q soft o fr H (fr.put o.dst v) H:=by grind[nk,mf,fT]
def uX{d:Option Nat}(k:eY E ops o=.alloc d)(h:nk P T E ops q soft o fr H fr' H'):∃a cs,d=some a/\o.dst=some a/\E.contains a=false/\yl P T fr o=some cs/\fr'=jX fr a cs/\H'=H:=by
 unfold nk at h;obtain⟨dst,op,type,pos,after,guard⟩:=o
 have key:∀{cs:List AV} {a:Nat},dst=some a->E.contains a=false->ki E dst cs (λf h=>f=fr'/\h=H') fr H->fr'=jX fr a cs/\H'=H:=by
  intro cs a l n i;subst l;unfold ki at i;simp only at i;rw[cO (by simp only[n];simp)] at i;exact⟨i.1.symm,i.2.symm⟩
 have b:(∃t,op=.alloc t)\/(∃t x,op=.box t x)->∃a,d=some a/\dst=some a/\E.contains a=false:=by
  intro j
  have:(match dst with|some d=>if E.contains d then Xq.Ac else .alloc (some d)|none=>.Ac)=.alloc d:=by
   rcases j with⟨t,rfl⟩|⟨t,x,rfl⟩<;>exact k
  grind
 cases op with
 |alloc t=>
  obtain⟨a,r,s,u⟩:=b (.inl ⟨t,rfl⟩)
  grind[fT,yl]
 |box t x=>
  obtain⟨a,r,s,u⟩:=b (.inr ⟨t,x,rfl⟩)
  grind[fT,yl]
 |call c=>grind[eY]|_=>simp[eY] at k
def va{d:Nat}{cs:List AV}(a:o.dst=some d)(b:E.contains d=false)(h:yl P T fr o=some cs):nk P T E ops q soft o fr H (jX fr d cs) H:=by grind[nk,ki,jX,yl,fT]
def tE(h:∀x∈o.op.operands,ev T fr x=ev T fr' x):yl P T fr o=yl P T fr' o:=by
 obtain⟨dst,op,type,pos,after,guard⟩:=o;cases op with
 |box t x=>simp only[yl];rw[h x (by simp[Op.operands])]|_=>rfl
def CE(u:eY E ops o=.Ac)(h:nk P T E ops q soft o fr H fr' H'):∃r,fr'=fr.put o.dst r/\(soft=true->QK q H H')/\∀f:Fr,(∀x∈o.op.operands,ev T fr x=ev T f x)->nk P T E ops q soft o f H (f.put o.dst r) H':=by
 unfold nk at h;obtain⟨dst,op,type,pos,after,guard⟩:=o
 have a:∀{cs:List AV},((∃t,op=.alloc t)\/(∃t x,op=.box t x))->ki E dst cs (λf h=>f=fr'/\h=H') fr H->∃d,dst=some d/\E.contains d=true/\fr'=fr.put dst (.eb H.length 0)/\H'=H++[cs.map AV.kj]/\∀f:Fr,ki E dst cs (λB h=>B=f.put dst (.eb H.length 0)/\h=H') f H:=by
  intro cs v i
  have hm:(match dst with|some d=>if E.contains d then Xq.Ac else .alloc (some d)|none=>.Ac)=.Ac:=by
   rcases v with⟨t,rfl⟩|⟨t,x,rfl⟩<;>exact u
  unfold ki at i
  split at i
  .rename_i d
   split at i
   .rename_i s;refine⟨d,rfl,s,i.1.symm,i.2.symm,λf=>?_⟩;unfold ki;simp only;rw[cS s];exact⟨rfl,i.2⟩
   .rename_i s;simp only[cO s] at hm;cases hm
  .exact i.elim
 cases op with
 |alloc t=>
  simp only[fT] at h
  split at h
  .rename_i z C;obtain⟨d,k,j,l,w,y⟩:=a (.inl ⟨t,rfl⟩) h.2;refine⟨_,l,?_,λf n=>?_⟩
   .intro hs;have:=h.1 hs;rw[k] at this;exact absurd this (by simp only[abP,j];simp)
   .unfold nk;simp only[fT,C];exact⟨h.1,y f⟩
  .exact h.elim
 |box t x=>
  simp only[fT] at h;obtain⟨d,k,j,l,w,y⟩:=a (.inr ⟨t,x,rfl⟩) h.2.2;refine⟨_,l,?_,λf n=>?_⟩
  .intro hs;have:=h.2.1 hs;rw[k] at this;exact absurd this (by simp only[abP,j];simp)
  .unfold nk;simp only[fT];have e:=n x (by simp[Op.operands]);refine⟨by rw[<-e];exact h.1,h.2.1,?_⟩;rw[<-e];exact y f
 |call c=>
  obtain⟨callee,args,Vx⟩:=c;cases callee with
  |builtin b=>cases b<;>simp[eY] at u
  |value g=>
   simp only[fT] at h;obtain⟨r,A,k,j,l,w⟩:=h;subst w;refine⟨r,l.symm,j,λf n=>?_⟩;unfold nk;simp only[fT];refine⟨r,A,?_,j,rfl,rfl⟩
   have D:(args.toList.map λx=>(ev T fr x).norm)=args.toList.map λx=>(ev T f x).norm:=
    ui λx F=>by rw[n x (by simp[Op.operands,Call.operands,wD.1 F])]
   rw[<-D,<-n g (by simp[Op.operands,Call.operands])];exact k
  |invoke r m=>simp only[fT] at h
 |_=>simp[eY] at u
theorem BO(a:eY E ops o=.app)(h:nk P T E ops q soft o fr H fr' H'):∃d x,o.dst=some d/\fr'=lX.fr fr d x/\H'=H/\∀(f:Fr) (h:cZ),(∀x∈o.op.operands,ev T fr x=ev T f x)->f.qn=fr.qn->f.ef=fr.ef->nk P T E ops q soft o f h (lX.fr f d x) h:=by
 unfold nk at h;obtain⟨dst,op,type,pos,after,guard⟩:=o;cases op with
 |call c=>
  obtain⟨callee,args,Vx⟩:=c;cases callee with
  |builtin b=>
   cases b with
   |append=>
    obtain⟨d,x,i,j,k,l⟩:=Y8 h;subst i;refine⟨d,x,rfl,k,l,λf h he n hg=>?_⟩;unfold nk;simp only[fT];refine abb (j.congr (λy hy=>he y ?_) n hg) ⟨rfl,rfl⟩;simp only at hy;simp[Op.operands,Call.operands,wD.1 hy]
   |_=>simp[eY] at a
  |value g=>simp[eY] at a
  |invoke r m=>simp[eY] at a
 |alloc t=>grind[eY]|box t x=>grind[eY]|_=>simp[eY] at a
def VN{r:Option Nat}(d:eY E ops o=.Kr r)(h:nk P T E ops q soft o fr H fr' H'):fr'.env=fr.env/\fr'.gen=fr.gen/\fr'.qn=fr.qn/\fr'.ef=fr.ef/\o.dst=none/\(∀b,r≠some b->fr'.box b=fr.box b)/\(soft=true->H'=H):=by
 unfold nk at h;obtain⟨dst,op,type,pos,after,guard⟩:=o;cases op with
 |store t x y=>
  simp only[eY,Xq.Kr.injEq] at d;simp only[fT] at h;obtain⟨f,i,j,a⟩:=h;unfold kS at a
  split at a
  .exact a.elim
  .split at a
   .rename_i b g off k
    split at a
    .obtain⟨_,_,_,_,g1,g2⟩:=a;subst g1;subst g2
     grind[pK,fP,zc]
    .exact a.elim
   all_goals grind[isL]
 |call c=>grind[eY]|alloc t=>grind[eY]|box t x=>grind[eY]|_=>simp[eY] at d
theorem CL(fr:Fr)(d:Nat):fr.put (some d) (fr.env d)=fr:=by
 simp only[Fr.put]
 have:fP fr.env d (fr.env d)=fr.env:=by grind[fP]
 rw[this]
theorem Fw(fr:Fr)(d:Nat)(x y:AV):(fr.put (some d) x).put (some d) y=fr.put (some d) y:=by grind[Fr.put,Ld]
structure Left (c:Xq) (dst:Option Nat) (soft:Bool) (q:Qt) (fr:Fr) (H:cZ) (fr':Fr) (H':cZ):Prop where
 env:∀t,dst≠some t->fr'.env t=fr.env t
 box:∀b,c≠ .alloc (some b)->c≠ .Kr (some b)->fr'.box b=fr.box b/\fr'.gen b=fr.gen b
 heap:c≠ .Ac->(∀r,c=.Kr r->soft=true)->H'=H
 quiet:soft=true->QK q H H'
def lX.left(fr:Fr)(d:Nat)(x:lX):(∀t,t≠d->(lX.fr fr d x).env t=fr.env t)/\(lX.fr fr d x).box=fr.box/\(lX.fr fr d x).gen=fr.gen:=by
 cases x with
 |grow tag l m=>exact⟨λt a=>by show fP _ _ _ t=_;rw[zc _ _ _ _ a],rfl,rfl⟩|same l=>exact⟨λt a=>by show fP _ _ _ t=_;rw[zc _ _ _ _ a],rfl,rfl⟩
def pN(h:nk P T E ops q soft o fr H fr' H'):Left (eY E ops o) o.dst soft q fr H fr' H':=by
 have a:∀(v:AV) (t:Nat),o.dst≠some t->(fr.put o.dst v).env t=fr.env t:=by
  intro v t j;rw[Fr.sj,cO j]
 cases i:eY E ops o with
 |val=>
  obtain⟨v,_,rfl,rfl⟩:=wR (.inl i) h;obtain⟨c,f,_,_⟩:=Fr.vV fr o.dst v;exact⟨a v,λb _ _=>⟨by rw[c],by rw[f]⟩,λ_ _=>rfl,λ_=>.refl⟩
 |load r=>
  obtain⟨v,_,rfl,rfl⟩:=wR (.inr ⟨r,i⟩) h;obtain⟨c,f,_,_⟩:=Fr.vV fr o.dst v;exact⟨a v,λb _ _=>⟨by rw[c],by rw[f]⟩,λ_ _=>rfl,λ_=>.refl⟩
 |alloc d=>
  obtain⟨u,cs,rfl,l,_,_,rfl,rfl⟩:=uX i h;refine⟨λt j=>?_,λb n _=>?_,λ_ _=>rfl,λ_=>.refl⟩
  .show fP _ _ _ t=_;rw[zc];rintro rfl;exact j l
  .have k:b≠u:=by rintro rfl;exact n rfl
   exact⟨zc _ _ _ _ k,zc _ _ _ _ k⟩
 |Ac=>
  obtain⟨r,rfl,w,_⟩:=CE i h;obtain⟨c,f,_,_⟩:=Fr.vV fr o.dst r;exact⟨a r,λb _ _=>⟨by rw[c],by rw[f]⟩,λhn _=>absurd rfl hn,w⟩
 |app=>
  obtain⟨d,x,l,rfl,rfl,_⟩:=BO i h;obtain⟨g1,g2,g3⟩:=lX.left fr d x;exact⟨λt j=>g1 t (by rintro rfl;exact j l),λb _ _=>⟨by rw[g2],by rw[g3]⟩,λ_ _=>rfl,λ_=>.refl⟩
 |Kr r=>
  obtain⟨c,f,A,B,C,y,s⟩:=VN i h;exact⟨λt _=>by rw[c],λb _ n=>⟨y b (λe=>n (by rw[e])),by rw[f]⟩,λ_ hs=>s (hs r rfl),λhs=>by rw[s hs];exact .refl⟩
def Mi{d:Nat}(v:AV)(b:d∉o.looksAt opsA)(a:o.dst≠some d)(h:nk P T E ops q soft o fr H fr' H'):nk P T E ops q soft o (fr.put (some d) v) H (fr'.put (some d) v) H':=by
 have c:fT P T E ops q soft o (λf h=>f=fr'/\h=H') ((fr.put (some d) v).put (some d) (fr.env d)) H:=by
  rw[Fw,CL];exact h
 obtain⟨f,j,i,k,l⟩:=r7 (Jp (opsA:=opsA) b a c);have he:=(pN i).env d a
 grind[Fw,Fr.sj,CL]
def Hj{d:Nat}{v:AV}(b:d∉o.looksAt opsA)(a:o.dst≠some d)(h:nk P T E ops q soft o (fr.put (some d) v) H fr' H'):∃f,nk P T E ops q soft o fr H f H'/\f.put (some d) v=fr':=by
 obtain⟨f,c,i,j,k⟩:=r7 (Jp (opsA:=opsA) b a h)
 grind
theorem Ho{x:Operand}{t:Nat}(a:x∈o.op.operands)(b:x=.tmp t):t∈o.looksAt opsA:=by
 subst b;exact adb _ (afd.2 ⟨.tmp t,by simpa using a,rfl⟩)
def BM{c:Xq}{dst:Option Nat}(a:Left c dst soft q fr H fr' H')(b:∀d,dst=some d->d∉o.looksAt opsA):∀x∈o.op.operands,ev T fr x=ev T fr' x:=by
 intro x f;refine B2 λt h=>?_;rw[a.env]
 grind[Ho]
def CQ{c:Xq}{dst:Option Nat}(s:Left c dst soft2 q fr H fr' H')(D:∀d,dst=some d->d∉o.looksAt opsA)(j:vb (eY E ops o) c=true)
  (hs:∀r,eY E ops o=.load r->(c=.Ac->soft=true/\soft2=true)/\(∀F,c=.Kr F->soft2=true)) {v:AV} (hv:mf P T E ops q soft fr H o=some v\/mf P T E ops q soft fr' H' o=some v):mf P T E ops q soft fr H o=mf P T E ops q soft fr' H' o:=by
 have u:=BM (T:=T) (opsA:=opsA) s D
 by_cases k:∃t x,o.op=.load t x
 .obtain⟨t,x,a⟩:=k;have G:=u x (by rw[a];simp[Op.operands])
  have l:eY E ops o=.load (Dp ops x):=by unfold eY;rw[a]
  obtain⟨w,y⟩:=hs _ l;rw[l] at j
  have n:pK ops x (ev T fr x)=true/\(!soft||q.ok (ev T fr x))=true:=by
   have:∀(f:Fr) (h:cZ),mf P T E ops q soft f h o=some v->ev T f x=ev T fr x->pK ops x (ev T fr x)=true/\(!soft||q.ok (ev T fr x))=true:=by
    intro f h hv he;unfold mf at hv;rw[a] at hv;simp only at hv
    split at hv
    .rename_i B;rw[he] at B;simpa using B
    .cases hv
   rcases hv with hv|hv
   .exact this fr H hv rfl
   .exact this fr' H' hv G.symm
  refine xI u (λL M he=>?_) (λ_ _ _ _ he=>by rw[a] at he;cases he);rw[a] at he;injection he with I J;subst I;subst J;refine⟨λb g off K=>?_,λo' C hg=>?_⟩
  .have A:Dp ops x=some b:=by
    have:=n.1;rw[K] at this;simpa[pK] using this
   rw[A] at j;have:=s.box b (by rintro rfl;simp[vb] at j) (by rintro rfl;simp[vb] at j);exact⟨this.1.symm,this.2.symm⟩
  .by_cases he:c=.Ac
   .obtain⟨g1,g2⟩:=w he
    have hq:q.all=true\/q.st o'=true:=by
     have:=n.2;rw[g1,hg] at this;simpa[Qt.ok] using this
    rcases hq with hq|hq
    .rw[(s.quiet g2).1 hq]
    .exact((s.quiet g2).2 o' hq).symm
   .rw[s.heap he y]
 .refine xI u (λt x he=>absurd ⟨t,x,he⟩ k) λt x i ok a=>?_
  have l:eY E ops o=.load none:=by unfold eY;rw[a]
  obtain⟨w,y⟩:=hs _ l
  have hq:(!soft||q.all)=true:=by
   have:∀(f:Fr) (h:cZ),mf P T E ops q soft f h o=some v->(!soft||q.all)=true:=by
    intro f h hv;unfold mf at hv;rw[a] at hv;simp only at hv
    split at hv
    .rename_i B;exact B
    .cases hv
   rcases hv with hv|hv
   .exact this _ _ hv
   .exact this _ _ hv
  by_cases he:c=.Ac
  .obtain⟨g1,g2⟩:=w he;rw[g1] at hq;exact((s.quiet g2).1 (by simpa using hq)).symm
  .exact(s.heap he y).symm
def Ku(fr:Fr){d b:Nat}(h:d≠b)(cs a:List AV):jX (jX fr d cs) b a=jX (jX fr b a) d cs:=by
 simp only[jX,zc _ _ _ _ h,zc _ _ _ _ h.symm]
 grind[yX]
theorem yR(fr:Fr){d:Nat}{d2:Option Nat}(h:d2≠some d)(cs:List AV)(r:AV):(jX fr d cs).put d2 r=jX (fr.put d2 r) d cs:=by
 cases d2 with
 |none=>rfl|some a=>grind[jX,Fr.put,yX]
theorem QR(fr:Fr){d:Nat}{d2:Option Nat}(h:d2≠some d)(x:lX)(r:AV):lX.fr (fr.put d2 r) d x=(lX.fr fr d x).put d2 r:=by
 cases d2 with
 |none=>rfl|some b=>
  have a:b≠d:=λe=>h (by rw[e]);cases x with
  |grow tag l m=>
   simp only[lX.fr,grown,Fr.put]
   grind[yX]
  |same l=>exact mC fr a r (.slice .iB l)
def Eh(fr:Fr){d a:Nat}(h:d≠a)(cs:List AV)(x:lX):lX.fr (jX fr d cs) a x=jX (lX.fr fr a x) d cs:=by
 cases x with
 |grow tag l m=>
  simp only[lX.fr,grown,jX]
  grind[yX]
 |same l=>grind[lX.fr,Fr.put,jX,yX]
def Tj(W:o1.apart opsA o2=true)(a:vb (eY E ops o1) (eY E ops o2)=true)
  (X:∀r,eY E ops o1=.load r->(eY E ops o2=.Ac->soft1=true/\soft2=true)/\(∀O,eY E ops o2=.Kr O->soft2=true))
  (Y:∀r,eY E ops o2=.load r->(eY E ops o1=.Ac->soft2=true/\soft1=true)/\(∀O,eY E ops o1=.Kr O->soft1=true))
  (K:nk P T E ops q soft1 o1 fr H fr1 H1) (J:nk P T E ops q soft2 o2 fr1 H1 fr2 H2):∃f h,nk P T E ops q soft2 o2 fr H f h/\nk P T E ops q soft1 o1 f h fr2 H2:=by
 obtain⟨a1,a2,a3⟩:=Oper.apart_spec W
 by_cases L:eY E ops o1=.val\/∃r,eY E ops o1=.load r
 .obtain⟨v,Q,c,M⟩:=wR L K;subst M
  have Z:∃f,nk P T E ops q soft2 o2 fr H1 f H2/\f.put o1.dst v=fr2:=by
   cases w:o1.dst with
   |none=>rw[w] at c;subst c;exact⟨fr2,J,rfl⟩
   |some d=>rw[w] at c;subst c;exact Hj (opsA:=opsA) (a1 d w) (a2 d w) J
  obtain⟨f,R,ad⟩:=Z;have A:vb (eY E ops o1) (eY E ops o2)=true:=a;have:=CQ (o:=o1) (soft:=soft1) (pN R) a3 A X (.inl Q);refine⟨f,H2,R,?_⟩;rw[<-ad];exact zB (by rw[<-this];exact Q)
 .--ai second one only N
  by_cases n:eY E ops o2=.val\/∃r,eY E ops o2=.load r
  .obtain⟨v,Q,c,M⟩:=wR n J;subst M
   have A:vb (eY E ops o2) (eY E ops o1)=true:=by
    revert a
    cases eY E ops o1<;>cases eY E ops o2<;>simp[vb]<;>(intro h e;exact h e.symm)
   have:=CQ (o:=o2) (soft:=soft2) (pN K) a1 A Y (.inr Q);refine⟨fr.put o2.dst v,H,zB (by rw[this];exact Q),?_⟩;rw[c];cases w:o2.dst with
   |none=>exact K|some d=>exact Mi (opsA:=opsA) v (a3 d w) (λe=>a2 d e w) K
  .--S
   have ae:=pN K;have l:∀x∈o2.op.operands,ev T fr x=ev T fr1 x:=BM (T:=T) (opsA:=opsA) ae a1;have C:∀{f:Fr} {h:cZ} (U:nk P T E ops q soft2 o2 fr H f h),∀x∈o1.op.operands,ev T fr x=ev T f x:=λU=>BM (T:=T) (opsA:=opsA) (pN U) a3;cases j:eY E ops o1 with
   |val=>exact absurd (.inl j) L|load r=>exact absurd (.inr ⟨r,j⟩) L|Kr r=>
    rw[j] at a;cases b:eY E ops o2 with
    |val=>exact absurd (.inl b) n|load O=>exact absurd (.inr ⟨O,b⟩) n|_=>rw[b] at a;simp[vb] at a
   |alloc d1=>
    obtain⟨d,cs,rfl,w,af,ah,c,M⟩:=uX j K;subst M
    have back:∀{f:Fr} {h:cZ} (U:nk P T E ops q soft2 o2 fr H1 f h),nk P T E ops q soft1 o1 f h (jX f d cs) h:=λU=>
     va w af (by rw[<-tE (C U)];exact ah)
    cases b:eY E ops o2 with
    |val=>exact absurd (.inl b) n|load r=>exact absurd (.inr ⟨r,b⟩) n|Kr r=>rw[j,b] at a;simp[vb] at a
    |alloc d2=>
     obtain⟨I,D,rfl,k,F,t,i,B⟩:=uX b J;subst B;have G:d≠I:=λe=>a2 d w (by rw[k,e]);have hn:nk P T E ops q soft2 o2 fr H2 (jX fr I D) H2:=va k F (by rw[tE l];exact t);refine⟨_,_,hn,?_⟩;rw[i,c,Ku fr G];exact back hn
    |Ac=>
     obtain⟨r,i,_,u⟩:=CE b J;have hn:=u fr λx V=>(l x V).symm;refine⟨_,_,hn,?_⟩;rw[i,c,yR fr (λe=>a2 d w e)];exact back hn
    |app=>
     obtain⟨I,x,k,i,B,u⟩:=BO b J;subst B;have G:d≠I:=λe=>a2 d w (by rw[k,e]);have hn:=u fr H2 (λx V=>(l x V).symm) (by rw[c];rfl) (by rw[c];rfl);refine⟨_,_,hn,?_⟩;rw[i,c,Eh fr G];exact back hn
   |Ac=>
    obtain⟨r,c,_,s⟩:=CE j K;cases b:eY E ops o2 with
    |val=>exact absurd (.inl b) n|load r=>exact absurd (.inr ⟨r,b⟩) n|Kr r=>rw[j,b] at a;simp[vb] at a
    |Ac=>rw[j,b] at a;simp[vb] at a
    |alloc d2=>
     obtain⟨I,D,rfl,k,F,t,i,B⟩:=uX b J;subst B;have hn:nk P T E ops q soft2 o2 fr H (jX fr I D) H:=va k F (by rw[tE l];exact t);refine⟨_,_,hn,?_⟩;rw[i,c,<-yR fr (λe=>a2 I e k)];exact s _ λx V=>C hn x V
    |app=>grind[BO,Fr.vV,QR]
   |app=>
    obtain⟨d,x,w,c,M,s⟩:=BO j K;subst M;cases b:eY E ops o2 with
    |val=>exact absurd (.inl b) n|load r=>exact absurd (.inr ⟨r,b⟩) n|Kr r=>rw[j,b] at a;simp[vb] at a
    |app=>rw[j,b] at a;simp[vb] at a
    |alloc d2=>
     obtain⟨I,D,rfl,k,F,t,i,B⟩:=uX b J;subst B;have G:I≠d:=λe=>a2 d w (by rw[k,e]);have hn:nk P T E ops q soft2 o2 fr H2 (jX fr I D) H2:=va k F (by rw[tE l];exact t);refine⟨_,_,hn,?_⟩;rw[i,c,<-Eh fr G];exact s _ _ (λy hy=>C hn y hy) rfl rfl
    |Ac=>
     obtain⟨r,i,_,u⟩:=CE b J;have hn:=u fr λy hy=>(l y hy).symm;obtain⟨e1,e2,e3,e4⟩:=Fr.vV fr o2.dst r;refine⟨_,_,hn,?_⟩;rw[i,c,<-QR fr (λe=>a2 d w e)];exact s _ _ (λy hy=>C hn y hy) e3 e4
end
end Go.kQ
namespace Go.kQ
open Go
def fW(opsA:Array Oper)(o:Oper)(fr:Fr):Option Bool:=
 match o.guard with
 |none=>some true|some (j,want)=>
  match(opsA[j]?).bind (·.dst)with
  |some d=>match fr.env d with
   |.sc (.bool b)=>some (b==want)|.tuple _=>some false|_=>none
  |none=>none
def iY(E:List Nat)(o:Oper):Bool:=
 match o.op with
 |.call c=>(match c.callee with
  |.builtin .append=>o.dst.any E.contains|.value _=>o.dst.any E.contains|_=>false)
 |_=>false
def W8(c:Call):Bool:=
 match c.callee with
 |.value _=>true|_=>false
def VZ(P:Program)(T:dt)(q:Qt)(soft:Bool)(a:AV)(as:List AV)(dst:Option Nat)(K:Fr->cZ->Prop)(fr:Fr)(H:cZ):Prop:=
 ∃Post:AV->cZ->Prop,mS P T a as H Post/\(∃r h,Post r h)/\∀r h,Post r h->(soft=true->QK q H h)/\K (fr.put dst r) h
def lV(P:Program)(T:dt)(q:Qt)(soft:Bool)(c:Call)(dst:Option Nat)(K:Fr->cZ->Prop)(fr:Fr)(H:cZ):Prop:=
 match c.callee with
 |.value f=>VZ P T q soft (ev T fr f) (c.args.toList.map λx=>(ev T fr x).norm) dst K fr H|_=>oB P T c dst K fr H
def Tf(E:List Nat)(q:Qt)(x:Operand)(v:AV):Prop:=E.contains 999999=true->∃ob off t,v=.eb ob off/\x=.tmp t/\q.cl ob=t
@[simp] theorem agH{E:List Nat}{q:Qt}{x:Operand}{v:AV}(h:E.contains 999999=false):Tf E q x v=True:=eq_true λa=>by rw[h] at a;cases a
def DF(T:dt)(E:List Nat)(q:Qt)(fr:Fr)(o:Oper):Prop:=
 match o.op with
 |.store _ x _=>Tf E q x (ev T fr x)|_=>True
def ow(o:Oper):Option Nat:=
 match o.op with
 |.store _ (.tmp t) _=>some t|_=>none
def uI(o:Oper):Bool:=
 match o.op with
 |.store _ _ _=>true|_=>false
def oA(P:Program)(T:dt)(E:List Nat)(ops:List Oper)(q:Qt)(soft:Bool)(o:Oper)(K:Fr->cZ->Prop)(fr:Fr)(H:cZ):Prop:=
 if iY E o then(match o.op with
  |.call c=>lV P T q soft c o.dst K fr H|_=>False)else if uI o then(DF T E q fr o/\fT P T E ops q soft o K fr H)else fT P T E ops q soft o K fr H
def fY(P:Program)(T:dt)(E:List Nat)(opsA:Array Oper)(q:Qt)(soft:Bool)(o:Oper)(K:Fr->cZ->Prop)(fr:Fr)(H:cZ):Prop:=
 match fW opsA o fr with
 |some true=>oA P T E opsA.toList q soft o K fr H|some false=>K (fr.put o.dst (.tuple [])) H|none=>False
def F7(P:Program)(T:dt)(E:List Nat)(opsA:Array Oper)(q:Qt)(sf:Nat->Bool):List Nat->(Fr->cZ->Prop)->Fr->cZ->Prop
 |[],K,fr,H=>K fr H|i::rest,K,fr,H=>match opsA[i]?with
  |some o=>fY P T E opsA q (sf i) o (λfr H=>F7 P T E opsA q sf rest K fr H) fr H|none=>False
section
variable{P:Program} {T:dt} {E:List Nat} {opsA:Array Oper} {q:Qt} {soft soft1 soft2:Bool} {o o1 o2:Oper} {K K':Fr->cZ->Prop} {fr fr':Fr} {H H':cZ}
def zG(h:iY E o=true):∃c d,o.op=.call c/\(c.callee=.builtin .append\/∃f,c.callee=.value f)/\o.dst=some d:=by
 unfold iY at h
 split at h
 .have a:o.dst.any E.contains=true->∃d,o.dst=some d:=by
   intro h;cases a:o.dst with
   |none=>grind|some d=>exact⟨d,rfl⟩
  grind
 .cases h
def pL{ops:List Oper}{c:Call}(h:iY E o=true)(a:o.op=.call c):oA P T E ops q soft o K fr H=lV P T q soft c o.dst K fr H:=by grind[oA]
theorem od{ops:List Oper}(h:iY E o=false):oA P T E ops q soft o K fr H=(DF T E q fr o/\fT P T E ops q soft o K fr H):=by grind[oA,uI,DF]
theorem T8{ops:List Oper}(h:eY E ops o=.val\/∃r,eY E ops o=.load r):DF T E q fr o:=by grind[DF,eY]
def xe{f:Fr}(he:∀x∈o.op.operands,ev T fr x=ev T f x)(h:DF T E q fr o):DF T E q f o:=by
 unfold DF Tf at*
 split
 .rename_i t x y a;rw[a] at h;intro b;obtain⟨ob,off,s,c,d,i⟩:=h b;exact⟨ob,off,s,by rw[<-he x (by rw[a];simp[Op.operands])];exact c,d,i⟩
 .trivial
def zL{ops a:List Oper}(h:iY E o=false)(b:eY E a o=.val\/∃r,eY E a o=.load r):oA P T E ops q soft o K fr H=fT P T E ops q soft o K fr H:=by grind[od,T8]
theorem KE{c:Call}{dst:Option Nat}(i:∀r h,K (fr.put dst r) h->K' (fr.put dst r) h)(h:oB P T c dst K fr H):oB P T c dst K' fr H:=by
 unfold oB at*
 split at h
 .split at h
  .obtain⟨a,b,d,f,h⟩:=h;refine⟨a,b,d,f,?_⟩
   grind
  .exact h
 .exact h
theorem PY{c:Call}{dst:Option Nat}(h:oB P T c dst K fr H):∃r a,K (fr.put dst r) a:=by
 unfold oB at h
 split at h
 all_goals grind
def Ma{c:Call}{dst:Option Nat}{d:Nat}{v:AV}(n:∀x∈c.args.toList,ev T (fr.put (some d) v) x=ev T fr x)(a:dst≠some d)(h:oB P T c dst K (fr.put (some d) v) H):oB P T c dst (λf h=>K (f.put (some d) v) h) fr H:=by
 unfold oB at*
 split at h
 .rename_i b s x t o i l;have j:b≠d:=λe=>a (by rw[e]);have k:∀y:AV,(fr.put (some b) y).put (some d) v=(fr.put (some d) v).put (some b) y:=λy=>mC fr j y v
  simp_all
 .exact h
theorem mS.mono{a:AV}{as:List AV}{Post Post':AV->cZ->Prop}(h:mS P T a as H Post)(b:∀r h,Post r h->Post' r h):mS P T a as H Post':=by
 unfold mS at*
 split at h
 .exact h.mono b
 .exact h
theorem xM{c:Call}{dst:Option Nat}(d:∀r h,(W8 c=true->soft=true->QK q H h)->K (fr.put dst r) h->K' (fr.put dst r) h)(h:lV P T q soft c dst K fr H):lV P T q soft c dst K' fr H:=by
 unfold lV at*
 split at h
 .obtain⟨Post,f,i,a⟩:=h;exact⟨Post,f,i,λr h b=>⟨(a r h b).1,d r h (λ_=>(a r h b).1) (a r h b).2⟩⟩
 .grind[KE,W8]
def Vd{c:Call}{dst:Option Nat}(h:lV P T q soft c dst K fr H):∃r a,(W8 c=true->soft=true->QK q H a)/\K (fr.put dst r) a:=by
 unfold lV at h
 split at h
 .obtain⟨Post,b,⟨r,a,d⟩,f⟩:=h
  grind
 .grind[PY,W8]
def J4{c:Call}{dst:Option Nat}{d:Nat}{v:AV}(b:∀x∈c.operands.toList,ev T (fr.put (some d) v) x=ev T fr x)(i:dst≠some d)(h:lV P T q soft c dst K (fr.put (some d) v) H):lV P T q soft c dst (λf h=>K (f.put (some d) v) h) fr H:=by
 have a:∀x∈c.args.toList,ev T (fr.put (some d) v) x=ev T fr x:=λx j=>b x (by
  unfold Call.operands;rw[Array.toList_append]
  exact List.mem_append_right _ j)
 unfold lV at*
 split at h
 .rename_i f o;obtain⟨Post,k,s,l⟩:=h;rw[b f (by unfold Call.operands;rw[o];simp),ui (g:=λx=>(ev T fr x).norm) (λx j=>by rw[a x j])] at k;refine⟨Post,k,s,λr h n=>⟨(l r h n).1,?_⟩⟩;have:=(l r h n).2;cases dst with
  |none=>exact this|some t=>grind[mC]
 .exact Ma a i h
theorem AY(a:∀fr H,K fr H->K' fr H)(h:fY P T E opsA q soft o K fr H):fY P T E opsA q soft o K' fr H:=by
 unfold fY at*
 split at h
 .cases hg:iY E o with
  |true=>
   obtain⟨c,d,b,_,f⟩:=zG hg;rw[pL hg b] at h|-
   grind[xM]
  |false=>grind[od,Gf]
 .exact a _ _ h
 .exact h
theorem Mb(h:oA P T E opsA.toList q soft o K fr H):pQ P T E o K fr H:=by
 cases hg:iY E o with
 |true=>
  obtain⟨c,d,b,a,l⟩:=zG hg;rw[pL hg b] at h;unfold pQ;rw[b];rcases a with a|⟨f,a⟩
  .grind[lV]
  .simp only[a];unfold lV at h;rw[a] at h;obtain⟨Post,i,_,j⟩:=h;exact i.mono λr h k=>(j r h k).2
 |false=>
  rw[od hg] at h;exact MG h.2
def NY(h:fY P T E opsA q soft o K fr H):CD P T E opsA o K fr H:=by grind[fY,fW,CD,Mb]
theorem xJ(h:∀t,t∈o.looksAt opsA->fr'.env t=fr.env t):fW opsA o fr'=fW opsA o fr:=by
 unfold fW;cases hg:o.guard with
 |none=>rfl|some p=>
  obtain⟨j,want⟩:=p;simp only
  cases a:(opsA[j]?).bind (·.dst)with
  |none=>rfl|some d=>
   have:d∈o.looksAt opsA:=by
    unfold Oper.looksAt
    grind
   grind
theorem jQ{d:Option Nat}{v:AV}(h:∀a,d=some a->a∉o.looksAt opsA):fW opsA o (fr.put d v)=fW opsA o fr:=by grind[xJ,Fr.sj]
def AJ{c:Xq}{dst:Option Nat}(b:Left c dst soft q fr H fr' H')(h:∀a,dst=some a->a∉o.looksAt opsA):fW opsA o fr'=fW opsA o fr:=by
 refine xJ λt d=>b.env t ?_
 grind
def aaJ(E:List Nat)(opsA:Array Oper)(s1 s2:Bool)(o1 o2:Oper):Bool:=
 o1.apart opsA o2&&vb (eY E opsA.toList o1) (eY E opsA.toList o2)&&
 (match eY E opsA.toList o1,eY E opsA.toList o2 with
  |.load _,.Ac=>s1&&s2|.Ac,.load _=>s1&&s2|.load _,.Kr _=>s2|.Kr _,.load _=>s1|_,_=>true)
def EB(o:Oper):Bool:=
 match o.op with
 |.call c=>W8 c|_=>false
def JL(E:List Nat)(o:Oper):Bool:=
 match o.op,o.dst with
 |.alloc _,some d=>!E.contains d|_,_=>false
def J0(h:JL E o=true):∃t d,o.op=.alloc t/\o.dst=some d/\E.contains d=false:=by grind[JL]
def X7(E:List Nat)(opsA:Array Oper)(s1 s2:Bool)(o1 o2:Oper):Bool:=
 match eY E opsA.toList o2 with
 |.val=>true|.load _=>EB o1&&s1&&s2|.alloc _=>EB o1&&JL E o2|_=>false
def Oa{s1 s2:Bool}(h:X7 E opsA s1 s2 o1 o2=true):(eY E opsA.toList o2=.val\/(∃r,eY E opsA.toList o2=.load r)/\EB o1=true/\s1=true/\s2=true)\/EB o1=true/\JL E o2=true:=by grind[X7]
def Zn(E:List Nat)(opsA:Array Oper)(s1 s2:Bool)(o1 o2:Oper):Bool:=
 if iY E o1||iY E o2 then
  o1.apart opsA o2&&(iY E o1&&!iY E o2&&X7 E opsA s1 s2 o1 o2||iY E o2&&!iY E o1&&X7 E opsA s2 s1 o2 o1)
 else if E.contains 999999&&(ow o1).isSome&&(ow o2).isSome&&ow o1 !=ow o2&&o1.dst==none&&o2.dst==none then true
 else aaJ E opsA s1 s2 o1 o2
def U4{f:Fr}{h:cZ}(b:eY E opsA.toList o=.val)(he:∀x∈o.op.operands,ev T fr x=ev T f x):mf P T E opsA.toList q soft fr H o=mf P T E opsA.toList q soft f h o:=by
 refine xI he (λt x a=>?_) λt x i ok a=>?_
 all_goals grind[eY]
def F2{d:Option Nat}{v:AV}(b:∀a,d=some a->a∉o.looksAt opsA):∀x∈o.op.operands,ev T fr x=ev T (fr.put d v) x:=by grind[B2,Fr.sj,Ho]
theorem CT{d1 d2:Option Nat}(h:∀d,d1=some d->d2≠some d)(x y:AV):(fr.put d1 x).put d2 y=(fr.put d2 y).put d1 x:=by
 cases d1 with
 |none=>rfl|some a=>
  cases d2 with
  |none=>rfl|some b=>grind[mC]
theorem R8{c:Call}(a:o.op=.call c){x:Operand}(b:x∈c.args.toList):x∈o.op.operands:=by
 rw[a];simp[Op.operands,Call.operands,wD.1 b]
def lq(h:fY P T E opsA q soft o K fr H):fW opsA o fr=some true/\oA P T E opsA.toList q soft o K fr H\/fW opsA o fr=some false/\K (fr.put o.dst (.tuple [])) H:=by grind[fY]
def rz(hg:fW opsA o fr=some true)(h:oA P T E opsA.toList q soft o K fr H):fY P T E opsA q soft o K fr H:=by grind[fY]
theorem so(hg:fW opsA o fr=some false)(h:K (fr.put o.dst (.tuple [])) H):fY P T E opsA q soft o K fr H:=by grind[fY]
def FI{c:Call}(a:o.op=.call c){x:Operand}(b:x∈c.operands.toList):x∈o.op.operands:=by
 rw[a];exact wD.1 b
def Z4{c:Call}(a:eY E opsA.toList o2=.val\/(∃r,eY E opsA.toList o2=.load r)/\EB o1=true/\soft1=true/\soft2=true)(l:o1.op=.call c)(k:∀d,o1.dst=some d->d∉o2.looksAt opsA){r:AV}{f:cZ}
  (n:W8 c=true->soft1=true->QK q H f) {v:AV} (s:mf P T E opsA.toList q soft2 fr H o2=some v\/mf P T E opsA.toList q soft2 (fr.put o1.dst r) f o2=some v):mf P T E opsA.toList q soft2 fr H o2=mf P T E opsA.toList q soft2 (fr.put o1.dst r) f o2:=by
 rcases a with a|⟨⟨rr,a⟩,i,u,w⟩
 .exact U4 a (F2 k)
 .have j:W8 c=true:=by unfold EB at i;rw[l] at i;exact i
  have x:Left .Ac o1.dst true q fr H (fr.put o1.dst r) f:=⟨λt y=>by rw[Fr.sj,cO y],λb _ _=>⟨by cases o1.dst<;>rfl,by cases o1.dst<;>rfl⟩,λh=>(h rfl).elim,λ_=>n j u⟩;refine CQ (o:=o2) (opsA:=opsA) x k (by rw[a];rfl) (λ_ _=>⟨λ_=>⟨w,rfl⟩,λ_ h=>by cases h⟩) s
def Nr(w:o1.apart opsA o2=true)(B:eY E opsA.toList o1=.val\/(∃r,eY E opsA.toList o1=.load r)/\EB o2=true/\soft2=true/\soft1=true)(s:iY E o1=false)(i:iY E o2=true)(h:fY P T E opsA q soft1 o1 (λfr H=>fY P T E opsA q soft2 o2 K fr H) fr H):fY P T E opsA q soft2 o2 (λfr H=>fY P T E opsA q soft1 o1 K fr H) fr H:=by
 obtain⟨a1,a2,a3⟩:=Oper.apart_spec w;obtain⟨c,d2,u,_,F⟩:=zG i;have j:eY E opsA.toList o1=.val\/∃r,eY E opsA.toList o1=.load r:=B.imp id λh=>h.1
 have key:∃v,(∀r h,(W8 c=true->soft2=true->QK q H h)->K ((fr.put o2.dst r).put o1.dst v) h->fY P T E opsA q soft1 o1 K (fr.put o2.dst r) h)/\fY P T E opsA q soft2 o2 K (fr.put o1.dst v) H:=by
  rcases lq h with⟨k,n⟩|⟨k,n⟩
  .rw[zL s j] at n;obtain⟨f1,H1,y,a⟩:=r7 n;obtain⟨v,C,G,I⟩:=wR j y;rw[G,I] at a;refine⟨v,λr D A t=>rz (by rw[jQ a3,k]) ?_,a⟩;rw[zL s j];exact uE (zB (by rw[<-Z4 B u a3 A (.inl C)];exact C)) t
  .exact⟨_,λr D _ t=>so (by rw[jQ a3,k]) t,n⟩
 obtain⟨v,back,n⟩:=key;rcases lq n with⟨l,a⟩|⟨l,a⟩
 .rw[jQ a1] at l;rw[pL i u] at a;refine rz l ?_;rw[pL i u]
  have J:lV P T q soft2 c o2.dst (λf h=>K (f.put o1.dst v) h) fr H:=by
   cases b:o1.dst with
   |none=>rw[b] at a;exact a
   |some d=>rw[b] at a;exact J4 (λx L=>(F2 (o:=o2) (opsA:=opsA) (d:=some d) (λM e=>by cases e;exact a1 d b) x (FI u L)).symm) (a2 d b) a
  exact xM (λr D A t=>back _ _ A t) J
 .grind[jQ,CT,so,QK.refl]
def NT(D:o1.apart opsA o2=true)(M:eY E opsA.toList o2=.val\/(∃r,eY E opsA.toList o2=.load r)/\EB o1=true/\soft1=true/\soft2=true)(n:iY E o1=true)(A:iY E o2=false)(h:fY P T E opsA q soft1 o1 (λfr H=>fY P T E opsA q soft2 o2 K fr H) fr H):fY P T E opsA q soft2 o2 (λfr H=>fY P T E opsA q soft1 o1 K fr H) fr H:=by
 obtain⟨a1,a2,a3⟩:=Oper.apart_spec D;obtain⟨c,d1,C,_,N⟩:=zG n;have s:eY E opsA.toList o2=.val\/∃r,eY E opsA.toList o2=.load r:=M.imp id λh=>h.1
 have inv:∀{r:AV} {y:cZ} {t:Fr->cZ->Prop},(W8 c=true->soft1=true->QK q H y)->fY P T E opsA q soft2 o2 t (fr.put o1.dst r) y->∃v,(fW opsA o2 fr=some true/\mf P T E opsA.toList q soft2 fr H o2=some v\/fW opsA o2 fr=some false/\v=.tuple [])/\t ((fr.put o1.dst r).put o2.dst v) y:=by
  intro r y t F O;rcases lq O with⟨a,b⟩|⟨a,b⟩
  .rw[zL A s] at b;obtain⟨f1,H1,G,i⟩:=r7 b;obtain⟨v,j,I,Q⟩:=wR s G;rw[I,Q] at i;exact⟨v,.inl ⟨by rw[<-jQ (o:=o2) a1];exact a,by rw[Z4 M C a1 F (.inr j)];exact j⟩,i⟩
  .exact⟨_,.inr ⟨by rw[<-jQ (o:=o2) a1];exact a,rfl⟩,b⟩
 have fwd:∀{v:AV} {t:Fr->cZ->Prop},(fW opsA o2 fr=some true/\mf P T E opsA.toList q soft2 fr H o2=some v\/fW opsA o2 fr=some false/\v=.tuple [])->t (fr.put o2.dst v) H->fY P T E opsA q soft2 o2 t fr H:=by
  intro v t j k;rcases j with⟨a,j⟩|⟨a,rfl⟩
  .refine rz a ?_;rw[zL A s];exact uE (zB j) k
  .exact so a k
 have uniq:∀{v w:AV},(fW opsA o2 fr=some true/\mf P T E opsA.toList q soft2 fr H o2=some v\/fW opsA o2 fr=some false/\v=.tuple [])->(fW opsA o2 fr=some true/\mf P T E opsA.toList q soft2 fr H o2=some w\/fW opsA o2 fr=some false/\w=.tuple [])->v=w:=by
  intro v w b i;rcases b with⟨g1,b⟩|⟨g1,rfl⟩<;>rcases i with⟨g2,i⟩|⟨g2,rfl⟩
  .rw[b] at i;exact fU i
  .rw[g1] at g2;cases g2
  .rw[g1] at g2;cases g2
  .rfl
 rcases lq h with⟨u,b⟩|⟨u,b⟩
 .rw[pL n C] at b;obtain⟨V,W,J,L⟩:=Vd b;obtain⟨v,j,_⟩:=inv J L;refine fwd j (rz (by rw[jQ a3,u]) ?_);rw[pL n C]
  have i:lV P T q soft1 c o1.dst (λf h=>K (f.put o2.dst v) h) fr H:=xM (λr y F k=>by
   obtain⟨w,hw,k⟩:=inv F k;rw[uniq j hw]
   exact k) b
  cases l:o2.dst with
  |none=>rw[l] at i;exact i
  |some d=>
   rw[l] at i;have B:o1.dst≠some d:=λe=>a2 d e l
   have R:lV P T q soft1 c o1.dst (λf h=>K (f.put (some d) v) h) ((fr.put (some d) v).put (some d) (fr.env d)) H:=by
    rw[Fw,CL];exact i
   have S:=J4 (λx U=>(by
    have:=F2 (o:=o1) (opsA:=opsA) (T:=T) (fr:=fr.put (some d) v) (d:=some d) (v:=fr.env d) (λX e=>by cases e;exact a3 d l) x (FI C U)
    exact this.symm)) B R
   refine xM (λr y _ k=>?_) S
   have I:(((fr.put (some d) v).put o1.dst r).put (some d) (fr.env d)).put (some d) v=(fr.put (some d) v).put o1.dst r:=by
    rw[Fw];have hs:=CL ((fr.put (some d) v).put o1.dst r) d
    have he:((fr.put (some d) v).put o1.dst r).env d=v:=by
     rw[Fr.sj,cO B,Fr.sj,cS rfl]
    rw[he] at hs;exact hs
   rw[I] at k;exact k
 .obtain⟨v,j,k⟩:=inv (λ_ _=>QK.refl) b;refine fwd j (so (by rw[jQ a3,u]) ?_);rw[<-CT a2];exact k
def Xv(d:Nat)(b:Bool)(z:List AV)(fr:Fr):Fr:=if b then jX fr d z else fr.put (some d) (.tuple [])
theorem Ry{d t:Nat}{b:Bool}{z:List AV}(h:t≠d):(Xv d b z fr).env t=fr.env t:=by
 unfold Xv
 split
 .show fP fr.env d _ t=_
  grind[fP]
 .grind[Fr.sj]
theorem Fu{d:Nat}{b:Bool}{z:List AV}{a:Option Nat}(h:a≠some d)(v:AV):(Xv d b z fr).put a v=Xv d b z (fr.put a v):=by grind[Xv,yR,CT]
theorem xO{t:TypeId}{d:Nat}(a:o.op=.alloc t)(c:o.dst=some d)(i:E.contains d=false):fY P T E opsA q soft o K fr H↔∃b z,fW opsA o fr=some b/\(b=true->hS P t=some z)/\K (Xv d b z fr) H:=by
 have hn:iY E o=false:=by unfold iY;rw[a]
 have hs:oA P T E opsA.toList q soft o K fr H=(match hS P t with|some z=>K (jX fr d z) H|none=>False):=by
  unfold oA uI;rw[hn,a];simp only[oo,lS];unfold fT;rw[a];simp only;cases hS P t with
  |none=>rfl|some z=>
   simp only;unfold ki;rw[c];simp only;rw[cO (by rw[i];decide)];refine propext ⟨λh=>h.2,λh=>⟨λ_=>?_,h⟩⟩;show E.contains d=false;exact i
 constructor
 .intro h;rcases lq h with⟨hg,h⟩|⟨hg,h⟩
  .rw[hs] at h
   split at h
   .rename_i z f;exact⟨true,z,hg,λ_=>f,h⟩
   .exact h.elim
  .rw[c] at h;exact⟨false,[],hg,(λe=>by cases e),h⟩
 .rintro⟨b,z,hg,f,h⟩;cases b with
  |true=>
   refine rz hg ?_;rw[hs,f rfl];exact h
  |false=>
   refine so hg ?_;rw[c];exact h
def aeg{d:Nat}{b:Bool}{z:List AV}(a:d∉o.looksAt opsA):∀x∈o.op.operands,ev T (Xv d b z fr) x=ev T fr x:=by grind[B2,Ry,Ho]
theorem Cw{d:Nat}{b:Bool}{z:List AV}(a:d∉o.looksAt opsA):fW opsA o (Xv d b z fr)=fW opsA o fr:=by grind[xJ,Ry]
def Nb(h:EB o=true):∃c f,o.op=.call c/\c.callee=.value f:=by grind[EB,W8]
def V_{c:Call}{f:Operand}{d:Nat}{b:Bool}{z:List AV}(h:o.op=.call c)(i:c.callee=.value f)(j:d∉o.looksAt opsA):ev T (Xv d b z fr) f=ev T fr f/\(c.args.toList.map λx=>(ev T (Xv d b z fr) x).norm)=c.args.toList.map λx=>(ev T fr x).norm:=by
 have he:=λx a=>aeg (T:=T) (fr:=fr) (b:=b) (z:=z) j x a;refine⟨he f (FI h (by unfold Call.operands;rw[i];simp)),ui λx a=>?_⟩
 grind[R8]
def NZ(k:o1.apart opsA o2=true)(l:JL E o1=true)(n:EB o2=true)(o:iY E o2=true)(h:fY P T E opsA q soft1 o1 (λfr H=>fY P T E opsA q soft2 o2 K fr H) fr H):fY P T E opsA q soft2 o2 (λfr H=>fY P T E opsA q soft1 o1 K fr H) fr H:=by
 obtain⟨a1,a2,a3⟩:=Oper.apart_spec k;obtain⟨t,d,u,j,v⟩:=J0 l;obtain⟨c,f,w,x⟩:=Nb n;have s:o2.dst≠some d:=a2 d j;obtain⟨b,z,hg,C,h⟩:=(xO u j v).1 h;rcases lq h with⟨a,i⟩|⟨a,i⟩
 .rw[Cw (a1 d j)] at a;refine rz a ?_;rw[pL o w] at i|-;unfold lV at i|-;rw[x] at i|-;simp only at i|-;obtain⟨D,F⟩:=V_ (T:=T) (fr:=fr) (b:=b) (z:=z) w x (a1 d j);rw[D,F] at i;obtain⟨Post,G,I,y⟩:=i;refine⟨Post,G,I,λr A B=>⟨(y r A B).1,(xO u j v).2 ⟨b,z,by rw[jQ a3,hg],C,?_⟩⟩⟩;rw[<-Fu s];exact(y r A B).2
 .grind[Cw,so,xO,jQ,Fu]
def Nw(n:o1.apart opsA o2=true)(o:EB o1=true)(s:JL E o2=true)(j:iY E o1=true)(h:fY P T E opsA q soft1 o1 (λfr H=>fY P T E opsA q soft2 o2 K fr H) fr H):fY P T E opsA q soft2 o2 (λfr H=>fY P T E opsA q soft1 o1 K fr H) fr H:=by
 obtain⟨a1,a2,a3⟩:=Oper.apart_spec n;obtain⟨t,d,u,a,v⟩:=J0 s;obtain⟨c,f,w,x⟩:=Nb o;have y:o1.dst≠some d:=λe=>a2 d e a;rcases lq h with⟨k,i⟩|⟨k,i⟩
 .rw[pL j w] at i;unfold lV at i;rw[x] at i;simp only at i;obtain⟨Post,M,⟨C,D,F⟩,A⟩:=i;obtain⟨b,z,hg,G,_⟩:=(xO u a v).1 (A C D F).2;rw[jQ a1] at hg;refine(xO u a v).2 ⟨b,z,hg,G,rz (by rw[Cw (a3 d a),k]) ?_⟩;rw[pL j w];unfold lV;rw[x];simp only;obtain⟨N,O⟩:=V_ (T:=T) (fr:=fr) (b:=b) (z:=z) w x (a3 d a);rw[N,O];refine⟨Post,M,⟨C,D,F⟩,λr I J=>⟨(A r I J).1,?_⟩⟩;obtain⟨Q,R,l,B,L⟩:=(xO u a v).1 (A r I J).2;rw[jQ a1,hg] at l;obtain rfl:b=Q:=fU l;rw[Fu y];cases b with
  |true=>
   obtain rfl:z=R:=fU (by rw[<-G rfl,<-B rfl]);exact L
  |false=>exact L
 .grind[xO,jQ,so,Cw,Fu]
def agl{t:TypeId}{ob off:Nat}{v:AV}:kS P t (.eb ob off) v K fr H↔∃agg n cs,eA P t=some (agg,n)/\H[ob]?=some cs/\(qF cs=true/\v.cells.length=n/\off+n<=cs.length/\er v=true)/\K fr (H.set ob (setCells cs off v.norm.cells)):=by grind[kS]
theorem D9{s:Nat}(h:ow o=some s):∃t y,o.op=.store t (.tmp s) y:=by grind[ow]
def XZ{s:Nat}(h:ow o=some s):iY E o=false:=by grind[D9,iY]
def rR{ops:List Oper}{s:Nat}(k:E.contains 999999=true)(hs:ow o=some s):oA P T E ops q soft o K fr H↔
  ∃t y ob off agg n cs,o.op=.store t (.tmp s) y/\o.dst=none/\ev T fr (.tmp s)=.eb ob off/\q.cl ob=s/\pK ops (.tmp s) (.eb ob off)=true/\soft=false/\eA P t=some (agg,n)/\H[ob]?=some cs/\(qF cs=true/\(ev T fr y).cells.length=n/\off+n<=cs.length/\er (ev T fr y)=true)/\K fr (H.set ob (setCells cs off (ev T fr y).norm.cells)):=by
 obtain⟨t,y,l⟩:=D9 hs;rw[od (XZ hs)];unfold DF Tf fT;rw[l];simp only;constructor
 .rintro⟨r,f,c,d,j⟩;obtain⟨ob,off,x,b,h,i⟩:=r k;injection h with h;subst h;rw[b] at c d j;obtain⟨agg,n,cs,g1,g2,g3,g4⟩:=agl.1 j;refine⟨t,y,ob,off,agg,n,cs,rfl,f,b,i,c,?_,g1,g2,g3,g4⟩;cases a:soft with
  |false=>rfl|true=>have:=d a;simp[isL] at this
 .rintro⟨A,B,ob,off,agg,n,cs,u,f,b,i,c,d,g1,g2,g3,g4⟩;injection u with v C w;subst v;subst w;refine⟨λ_=>⟨ob,off,s,b,rfl,i⟩,f,by rw[b];exact c,λa=>?_,?_⟩
  .rw[d] at a;cases a
  .rw[b];exact agl.2 ⟨agg,n,cs,g1,g2,g3,g4⟩
def NV{s1 s2:Nat}(k:E.contains 999999=true)(l:ow o1=some s1)(f:ow o2=some s2)(u:s1≠s2)(h:fY P T E opsA q soft1 o1 (λfr H=>fY P T E opsA q soft2 o2 K fr H) fr H)(w:o1.dst=none)(x:o2.dst=none):fY P T E opsA q soft2 o2 (λfr H=>fY P T E opsA q soft1 o1 K fr H) fr H:=by
 have D:∀v,fr.put o1.dst v=fr:=λv=>by rw[w];rfl
 have Q:∀v,fr.put o2.dst v=fr:=λv=>by rw[x];rfl
 rcases lq h with⟨i,s⟩|⟨i,s⟩
 .obtain⟨t,y,ob,off,agg,n,cs,F,G,I,A,J,L,M,N,O,s⟩:=(rR k l).1 s;rcases lq s with⟨a,b⟩|⟨a,b⟩
  .obtain⟨B,C,j,c,d,n',o,f0,f1,f2,f3,f4,f5,f6,f7,f8,b⟩:=(rR k f).1 b
   have r:ob≠j:=by rintro rfl;exact u (A.symm.trans f3)
   rw[Kz r] at f7;refine rz a ((rR k f).2 ⟨B,C,j,c,d,n',o,f0,f1,f2,f3,f4,f5,f6,f7,f8,?_⟩);refine rz i ((rR k l).2 ⟨t,y,ob,off,agg,n,cs,F,G,I,A,J,L,M,?_,O,?_⟩)
   .rw[Kz (λe=>r e.symm)];exact N
   .rw[List.set_comm _ _ (λe=>r e.symm)];exact b
  .refine so a ?_;rw[Q] at b|-;exact rz i ((rR k l).2 ⟨t,y,ob,off,agg,n,cs,F,G,I,A,J,L,M,N,O,b⟩)
 .rw[D] at s;rcases lq s with⟨a,b⟩|⟨a,b⟩
  .obtain⟨B,C,j,c,d,n',o,f0,f1,f2,f3,f4,f5,f6,f7,f8,b⟩:=(rR k f).1 b;exact rz a ((rR k f).2 ⟨B,C,j,c,d,n',o,f0,f1,f2,f3,f4,f5,f6,f7,f8,so i (by rw[D];exact b)⟩)
  .grind[so,fY]
theorem O1(c:Zn E opsA soft1 soft2 o1 o2=true)(h:fY P T E opsA q soft1 o1 (λfr H=>fY P T E opsA q soft2 o2 K fr H) fr H):fY P T E opsA q soft2 o2 (λfr H=>fY P T E opsA q soft1 o1 K fr H) fr H:=by
 unfold Zn at c
 by_cases hG:(iY E o1||iY E o2)=true
 .rw[cS hG] at c;simp only[fK,rD,Yy] at c;obtain⟨b,⟨⟨g1,g2⟩,g3⟩|⟨⟨g1,g2⟩,g3⟩⟩:=c
  .rcases Oa g3 with g3|⟨g3,g4⟩
   .exact NT b g3 g1 g2 h
   .exact Nw b g3 g4 g1 h
  .rcases Oa g3 with g3|⟨g3,g4⟩
   .exact Nr b g3 g2 g1 h
   .exact NZ b g4 g3 g1 h
 rw[cO hG] at c
 by_cases L:(E.contains 999999&&(ow o1).isSome&&(ow o2).isSome&&ow o1 !=ow o2&&o1.dst==none&&o2.dst==none)=true
 .simp only[fK,Option.isSome_iff_exists,bne_iff_ne,ne_eq,abF] at L;obtain⟨⟨⟨⟨⟨U,s1,o⟩,s2,s⟩,M⟩,w⟩,y⟩:=L;exact NV U o s (by rintro rfl;exact M (by rw[o,s])) h w y
 rw[cO L] at c
 have A:iY E o1=false:=by cases V:iY E o1<;>simp_all
 have B:iY E o2=false:=by cases V:iY E o2<;>simp_all
 unfold aaJ at c;simp only[fK] at c;obtain⟨⟨b,D⟩,a⟩:=c;obtain⟨a1,a2,a3⟩:=Oper.apart_spec b
 have o:∀r,eY E opsA.toList o1=.load r->(eY E opsA.toList o2=.Ac->soft1=true/\soft2=true)/\(∀F,eY E opsA.toList o2=.Kr F->soft2=true):=by
  intro r N;rw[N] at a;refine⟨λhe=>?_,λF he=>?_⟩<;>rw[he] at a
  .simpa using a
  .exact a
 have s:∀r,eY E opsA.toList o2=.load r->(eY E opsA.toList o1=.Ac->soft2=true/\soft1=true)/\(∀F,eY E opsA.toList o1=.Kr F->soft1=true):=by
  intro r N;rw[N] at a;refine⟨λhe=>?_,λF he=>?_⟩<;>rw[he] at a
  .have:soft1=true/\soft2=true:=by simpa using a
   exact⟨this.2,this.1⟩
  .exact a
 unfold fY at h;simp only[od A,od B] at h
 split at h
 .--O first one is carried out
  rename_i j;obtain⟨v,h⟩:=h;obtain⟨f1,H1,t,h⟩:=r7 h;have G:=pN t;have C:fW opsA o2 f1=fW opsA o2 fr:=AJ G a1;rw[C] at h;unfold fY;simp only[od A,od B]
  split at h
  .rename_i k;obtain⟨l,h⟩:=h;obtain⟨f2,H2,i,Q⟩:=r7 h;obtain⟨f,W,n,I⟩:=Tj b D o s t i;refine⟨xe (λx c=>(BM (T:=T) (opsA:=opsA) G a1 x c).symm) l,uE n ?_⟩;have:fW opsA o1 f=fW opsA o1 fr:=AJ (pN n) a3;rw[this,j];exact⟨xe (BM (T:=T) (opsA:=opsA) (pN n) a3) v,uE I Q⟩
  .rename_i k
   show match fW opsA o1 (fr.put o2.dst (.tuple []))with
    |some true=>DF T E q (fr.put o2.dst (.tuple [])) o1/\fT P T E opsA.toList q soft1 o1 K (fr.put o2.dst (.tuple [])) H|some false=>K ((fr.put o2.dst (.tuple [])).put o1.dst (.tuple [])) H|none=>False
   rw[jQ a3,j];simp only;refine⟨xe (F2 a3) v,?_⟩;cases u:o2.dst with
   |none=>rw[u] at h;exact uE t h
   |some d=>rw[u] at h;exact uE (Mi (opsA:=opsA) _ (a3 d u) (λe=>a2 d e u) t) h
  .exact h.elim
 .--O first one is left out
  rename_i j;have C:fW opsA o2 (fr.put o1.dst (.tuple []))=fW opsA o2 fr:=jQ a1;rw[C] at h;unfold fY;simp only[od A,od B]
  split at h
  .rename_i k;obtain⟨l,h⟩:=h;obtain⟨f2,H2,i,Q⟩:=r7 h
   have R:∃f,nk P T E opsA.toList q soft2 o2 fr H f H2/\f.put o1.dst (.tuple [])=f2:=by
    cases u:o1.dst with
    |none=>rw[u] at i;exact⟨f2,i,rfl⟩
    |some d=>rw[u] at i;exact Hj (opsA:=opsA) (a1 d u) (a2 d u) i
   obtain⟨f,J,S⟩:=R;refine⟨xe (λx c=>(F2 a1 x c).symm) l,uE J ?_⟩;have:fW opsA o1 f=fW opsA o1 fr:=AJ (pN J) a3;rw[this,j];show K (f.put o1.dst (.tuple [])) H2;rw[S];exact Q
  .rename_i k
   show match fW opsA o1 (fr.put o2.dst (.tuple []))with
    |some true=>DF T E q (fr.put o2.dst (.tuple [])) o1/\fT P T E opsA.toList q soft1 o1 K (fr.put o2.dst (.tuple [])) H|some false=>K ((fr.put o2.dst (.tuple [])).put o1.dst (.tuple [])) H|none=>False
   rw[jQ a3,j];simp only
   have:(fr.put o2.dst (.tuple [])).put o1.dst (.tuple [])=(fr.put o1.dst (.tuple [])).put o2.dst (.tuple []):=by
    cases w:o1.dst with
    |none=>rfl|some d1=>
     cases y:o2.dst with
     |none=>rfl|some d2=>exact mC fr (λe=>a2 d1 w (by rw[y,e])) _ _
   rw[this];exact h
  .exact h.elim
 .exact h.elim
def Pe{sf:Nat->Bool}{i:Nat}(hi:opsA[i]?=some o)(post:List Nat):∀(pre:List Nat) (fr:Fr) (H:cZ),(∀j∈pre,∀a,opsA[j]?=some a->Zn E opsA (sf j) (sf i) a o=true)->F7 P T E opsA q sf (pre++i::post) K fr H->fY P T E opsA q (sf i) o (λfr H=>F7 P T E opsA q sf (pre++post) K fr H) fr H:=by
 intro pre
 induction pre with
 |nil=>grind[F7]|cons j pre ih=>
  intro fr H hex h;simp only[YF,F7] at h|-
  split at h
  all_goals grind[AY,O1]
end
def wX(opsA:Array Oper):Bool:=opsA.toList.zipIdx.all λ(o,i)=>o.after.all λe=>!Region.binds .any e||decide (e.on<i)
def LG(opsA:Array Oper)(M:Array Nat):Bool:=
 (List.range opsA.size).all λi=>(List.range opsA.size).all λj=>!(M.getD i 0).testBit j||
  (opsA.getD i default).after.toList.any λe=>Region.binds .any e&&(e.on==j||(M.getD e.on 0).testBit j)
def we(E:List Nat)(opsA:Array Oper)(sf:Nat->Bool):Bool:=
 let M:=Region.before opsA
 wX opsA&&LG opsA M&&
 (List.range opsA.size).all λi=>(List.range i).all λj=>(M.getD i 0).testBit j||Zn E opsA (sf j) (sf i) (opsA.getD j default) (opsA.getD i default)
section
variable{P:Program} {T:dt} {E:List Nat} {opsA:Array Oper} {q:Qt} {sf:Nat->Bool} {K:Fr->cZ->Prop}
def uQ(opsA:Array Oper)(listed:Array Bool):List Nat:=(List.range opsA.size).filter λi=>!listed.getD i true
def Q0{listed:Array Bool}{i:Nat}:i∈uQ opsA listed↔i<opsA.size/\listed.getD i true=false:=by
 simp[uQ]
def VM(M:Array Nat)(opsA:Array Oper)(listed:Array Bool):Prop:=∀i j,i<opsA.size->j<opsA.size->listed.getD i false=true->(M.getD i 0).testBit j=true->listed.getD j false=true
def AE{listed:Array Bool}{i:Nat}(d:Bool)(h:i<listed.size):(listed.setIfInBounds i true).getD i d=true:=by
 simp[h]
def LN{opsA:Array Oper}(a:wX opsA=true){listed:Array Bool}(d:listed.size=opsA.size){i:Nat}(hi:i<opsA.size)(f:listed.getD i true=false)
  (c:∀j,j<i->listed.getD j false=true):i∈Region.ready .any opsA listed:=by
 rw[mem_ready];unfold wX at a;rw[j3] at a
 have b:(opsA[i],i)∈opsA.toList.zipIdx:=by grind
 have:=a _ b;simp only[I3] at this
 grind
def D7{opsA:Array Oper}{M:Array Nat}(d:LG opsA M=true)(a:wX opsA=true){listed:Array Bool}(f:VM M opsA listed){i:Nat}(s:i∈Region.ready .any opsA listed){j:Nat}(n:j<opsA.size)
  (t:(M.getD i 0).testBit j=true):listed.getD j false=true:=by
 obtain⟨u,o,q,b⟩:=mem_ready.1 s;have hi:i<opsA.size:=(MT.1 q).1;unfold LG at d;rw[j3] at d;have:=d i (by simpa using hi);rw[j3] at this;have:=this j (by simpa using n);rw[t] at this;simp only[YM,RI,List.any_eq_true,wD,fK,rD,abF] at this;obtain⟨e,he,h,hor⟩:=this
 have k:opsA.getD i default=o:=by rw[M7,q];rfl
 rw[k] at he;have r:=b e he h;rcases hor with rfl|hor
 .exact r
 .have l:e.on<opsA.size:=by
   unfold wX at a;rw[j3] at a
   have c:(o,i)∈opsA.toList.zipIdx:=by grind
   have:=a _ c;simp only[I3] at this
   grind
  exact f e.on j l n r hor
def Tk{listed:Array Bool}(d:listed.size=opsA.size){i:Nat}(hi:i<opsA.size)(a:listed.getD i true=false):∃pre post,uQ opsA listed=pre++i::post/\uQ opsA (listed.setIfInBounds i true)=pre++post/\∀j∈pre,j<i/\listed.getD j true=false:=by
 have c:List.range opsA.size=List.range i++i::(List.range' (i+1) (opsA.size-i-1)):=by
  rw[T6,T6]
  have:opsA.size=i+(1+(opsA.size-i-1)):=VW
  conv=>lhs;rw[this]
  rw[<-List.range'_append_1]
  congr 1
  rw[show 1+(opsA.size-i-1)=(opsA.size-i-1)+1 by omega,Y5];simp
 refine⟨(List.range i).filter (λj=>!listed.getD j true),(List.range' (i+1) (opsA.size-i-1)).filter (λj=>!listed.getD j true),?_,?_,?_⟩
 .unfold uQ;rw[c,afU,List.filter_cons_of_pos (by simp[a])]
 .unfold uQ;rw[c,afU,List.filter_cons_of_neg (by rw[AE _ VW];simp)]
  congr 1
  .refine afL λj b=>?_
   have:j<i:=by simpa using b
   rw[getD_set_ne true VW]
  .refine afL λj b=>?_;have:=(List.mem_range'_1.1 b).1;rw[getD_set_ne true VW]
 .grind
variable{n:Nat} {G0:Nat->Nat} {F0:jo} {n0:Nat} {w0:World}
def x0{listed:Array Bool}{i:Nat}(hi:i<listed.size):listed.getD i false=listed.getD i true:=by grind
def VY{Q:Exit->Act->World->Prop}(t:we E opsA sf=true)(B:xB n opsA=true)(V:∀fr' H' L w',K fr' H'->SR T n G0 F0 n0 w0 fr' H' L w'->Q .normal L w'):∀(fuel:Nat) (listed:Array Bool) (fr:Fr) (H:cZ) (a:Act) (w:World),listed.size=opsA.size->VM (Region.before opsA) opsA listed->(uQ opsA listed).length<=fuel->SR T n G0 F0 n0 w0 fr H a w->F7 P T E opsA q sf (uQ opsA listed) K fr H->wpAny P .any opsA Q fuel listed a w:=by
 unfold we at t;simp only[fK] at t;obtain⟨⟨c,W⟩,d⟩:=t
 have u:∀{listed:Array Bool},listed.size=opsA.size->Region.ready .any opsA listed=[]->uQ opsA listed=[]:=by
  intro listed f C;cases b:uQ opsA listed with
  |nil=>rfl|cons i rest=>
   exfalso
   have s:i∈uQ opsA listed:=by rw[b];simp
   have hex:∃k,k<opsA.size/\listed.getD k true=false:=⟨i,Q0.1 s⟩
   obtain⟨k,⟨M,N⟩,D⟩:∃k,(k<opsA.size/\listed.getD k true=false)/\∀j,j<k->¬(j<opsA.size/\listed.getD j true=false):=by
    clear b s;obtain⟨k,hk⟩:=hex
    induction k using Nat.strongRecOn with
    |_ k ih=>
     by_cases h:∃j,j<k/\(j<opsA.size/\listed.getD j true=false)
     .obtain⟨j,v,x⟩:=h;exact ih j v x
     .exact⟨k,hk,λj F hc=>h ⟨j,F,hc⟩⟩
   have:=LN c f M N λj F=>by
    have hn:=D j F
    have O:j<opsA.size:=VW
    rw[x0 VW];cases hb:listed.getD j true with
    |true=>rfl|false=>exact absurd ⟨O,hb⟩ hn
   rw[C] at this;cases this
 intro fuel
 induction fuel with
 |zero=>
  intro listed fr H a w f l hlen hs h;have b:uQ opsA listed=[]:=Ar VW;rw[b] at h;refine⟨?_,V _ _ _ _ h hs⟩;cases C:Region.ready .any opsA listed with
  |nil=>rfl|cons i rest=>
   have hm:i∈Region.ready .any opsA listed:=by rw[C];simp
   obtain⟨y,o,A,_⟩:=mem_ready.1 hm;have:i∈uQ opsA listed:=Q0.2 ⟨(MT.1 A).1,y⟩;rw[b] at this;cases this
 |succ fuel ih=>
  intro listed fr H a w f l hlen hs h;refine⟨λC=>?_,λi hi=>?_⟩
  .rw[u f C] at h;exact V _ _ _ _ h hs
  .obtain⟨y,o,A,X⟩:=mem_ready.1 hi;have G:i<opsA.size:=(MT.1 A).1;obtain⟨pre,post,Y,Z,h3⟩:=Tk f G y;rw[Y] at h
   have r:=Pe (P:=P) (T:=T) (E:=E) (opsA:=opsA) (q:=q) (K:=K) (sf:=sf) A post pre fr H (by
    intro j F oj R;obtain⟨v,x⟩:=h3 j F;rw[j3] at d;have:=d i (by simpa using G);rw[j3] at this;have:=this j (by simpa using v);simp only[rD] at this
    have e1:opsA.getD j default=oj:=by rw[M7,R];rfl
    have e2:opsA.getD i default=o:=by rw[M7,A];rfl
    rw[e1,e2] at this;rcases this with hb|hb
    .have:=D7 W c l hi VW hb;rw[x0 VW,x] at this;cases this
    .exact hb) h
   have S:rp n o=true:=I3.1 B o (Yu A);refine DZ A S hs (NY r) ?_;intro fr' H' L w' hK U;refine ih (listed.setIfInBounds i true) fr' H' L w' (by simpa using f) ?_ ?_ U (by rw[Z];exact hK)
   .--still closed
    intro i' j' hi' I hl hb
    by_cases he:j'=i
    .subst he;exact AE _ VW
    .rw[getD_set_ne false (λe=>he e.symm)]
     by_cases J:i'=i
     .subst J;exact D7 W c l hi I hb
     .rw[getD_set_ne false (λe=>J e.symm)] at hl;exact l i' j' hi' I hl hb
   .rw[Y] at hlen;rw[Z];simp only[qj,kL] at hlen|-;omega
end
section
variable{P:Program} {T:dt} {n:Nat} {Q:Exit->Fr->cZ->Prop} {fr:Fr} {H:cZ}
def SR.drew{G0:Nat->Nat}{F0:jo}{n0:Nat}{w0:World}{a:Act}{w:World}(hs:SR T n G0 F0 n0 w0 fr H a w):SR T n G0 F0 n0 w0 fr H a w.drew:=by
 obtain⟨ρ,F,R,hw,b⟩:=hs;exact⟨ρ,F,R,hw.drew,b.drew⟩
def fl.Nv{id:Nat}{ops:Array Oper}(E:List Nat)(q:Qt)(sf:Nat->Bool)(hm:P.follows .mixedOrders=true)(c:xB n ops=true)(d:we E ops sf=true)
  (h:F7 P T E ops q sf (List.range ops.size) (Q .normal) fr H):fl P T n (.region id ops true) Q fr H:=by
 intro G0 F0 n0 w0 a w hs;refine wp_region_any hm ?_
 have b:uQ ops (Array.replicate ops.size false)=List.range ops.size:=by
  unfold uQ
  simp_all
 have:=VY (Q:=λe f w'=>∃fr' H',Q e fr' H'/\SR T n G0 F0 n0 w0 fr' H' f w') d c (λfr' H' f w' k l=>⟨fr',H',k,l⟩) ops.size (Array.replicate ops.size false) fr H a w.drew acZ
  (by intro i j hi r o;simp[hi] at o) (by rw[b];simp) hs.drew (by rw[b];exact h)
 exact this
def p0(P:Program)(T:dt)(E:List Nat)(opsA:Array Oper)(q:Qt):List Oper->(Fr->cZ->Prop)->Fr->cZ->Prop
 |[],K,fr,H=>K fr H|o::rest,K,fr,H=>fY P T E opsA q true o (λfr H=>p0 P T E opsA q rest K fr H) fr H
def KK{E:List Nat}{ops:Array Oper}{q:Qt}{K:Fr->cZ->Prop}:∀(l:List Oper) (k:Nat) (fr:Fr) (H:cZ),l=ops.toList.drop k->p0 P T E ops q l K fr H->F7 P T E ops q (λ_=>true) (List.range' k l.length) K fr H:=by
 intro l
 induction l with
 |nil=>intro k fr H _ h;exact h|cons o l ih=>
  intro k fr H a h
  have b:k<ops.toList.length:=by
   rcases s8 k ops.toList.length with h'|h'
   .exact h'
   .rw[IB h'] at a;cases a
  have c:=KR b;rw[c] at a;injection a with f d
  have hi:ops[k]?=some o:=by grind
  simp only[kL,Y5,F7,hi];exact AY (λfr H h=>ih (k+1) fr H d h) h
def fl.Zp{id:Nat}{ops:Array Oper}(E:List Nat)(q:Qt)(hm:P.follows .mixedOrders=true)(a:xB n ops=true)(b:we E ops (λ_=>true)=true)
  (h:p0 P T E ops q ops.toList (Q .normal) fr H):fl P T n (.region id ops true) Q fr H:=by
 refine fl.Nv E q (λ_=>true) hm a b ?_;have:=KK (K:=Q .normal) ops.toList 0 fr H acZ h;rw[T6]
 grind
end
end Go.kQ
namespace Go.kQ
open Go
section
variable{P:Program} {T:dt} {n:Nat} {Q:Exit->Fr->cZ->Prop} {fr:Fr} {H:cZ}
def fl.td{x y:Code}(h:∀K:Fr->cZ->Prop,(∀fr H,fl P T n y Q fr H->K fr H)->fl P T n x (Gz K Q) fr H):fl P T n (.seq x y) Q fr H:=
 fl.seq (h _ λ_ _ h=>h)
def fl.yo{id:Nat}{c:Code}(h:∀Q':Exit->Fr->cZ->Prop,(∀fr H,Q .normal fr H->Q' .normal fr H)->(∀fr H,Q .normal fr H->Q' (.exit id) fr H)->(∀a fr H,a≠id->Q (.exit a) fr H->Q' (.exit a) fr H)->(∀fr H,Q .ret fr H->Q' .ret fr H)->fl P T n c Q' fr H):fl P T n (.block id c) Q fr H:=by
 refine fl.block (h (GC id Q) (λ_ _ h=>h) (λ_ _ h=>?_) (λa _ _ b h=>?_) (λ_ _ h=>h))
 .simp only[GC,if_true];exact h
 .simp only[GC,cO b];exact h
end
@[simp] theorem XV(K:Fr->cZ->Prop)(Q:Exit->Fr->cZ->Prop):Gz K Q .normal=K:=rfl
end Go.kQ
