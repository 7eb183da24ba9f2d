/- Part of the proof of SchemeAccepted: layer. -/
import Derived.Test.YtpgdkkomegalnaaGreatDoorAL7
set_option linter.all false
namespace Go.kY
open Go
theorem AH{α:Type}(f:Nat->α){i j:Nat}(h:i≠j)(x y:α):gz (gz f i x) j y=gz (gz f j y) i x:=by grind[gz]
def kH(fr:Fr)(d:Nat)(cs:List AV):Fr:=
 {fr with env:=gz fr.env d (.hU d (fr.gen d+1) 0),box:=gz fr.box d (some cs),gen:=gz fr.gen d (fr.gen d+1)}
def Aq(P:Program)(T:eH)(fr:Fr)(o:Oper):Option (List AV):=
 match o.op with
 |.alloc t=>j0 P t|.box _ x=>if fj (ev T fr x) then some (ev T fr x).cells else none|_=>none
inductive mw where
 |grow (tag:Tag) (l m:List AV)|same (l:List AV)
def mw.fr(fr:Fr)(d:Nat):mw->Fr
 |.grow tag l m=>grown fr d tag l m|.same l=>fr.put (some d) (.slice .gx l)
def Og(P:Program)(T:eH)(fr:Fr)(c:Call)(x:mw):Prop:=
 ∃s y t e sz tag a l m,c.args.toList=[s,y]/\c.argTypes.toList=[t,t]/\od P t=some (e,sz)/\ev T fr s=.slice tag l/\ev T fr y=.slice a m/\k4 sz l=true/\k4 sz m=true/\l.length+m.length<=kb/\(oT fr tag l=true/\x=.grow tag l m\/oT fr tag l=false/\m=[]/\x=.same l)
section
variable{P:Program} {T:eH} {E:List Nat} {ops:List Oper} {opsA:Array Oper} {q:Qt} {soft soft1 soft2:Bool} {o o1 o2:Oper} {K:Fr->dT->Prop} {fr fr1 fr2 fr':Fr} {H H1 H2 H':dT}
def X4{c:Call}{dst:Option Nat}(h:m5 P T c dst (λf h=>f=fr'/\h=H') fr H):∃d x,dst=some d/\Og P T fr c x/\fr'=x.fr fr d/\H'=H:=by
 unfold m5 at h
 split at h
 ·rename_i d s y t k a b
  split at h
  ·rename_i e sz tag l i m n o q;obtain⟨rfl,g2,g3,g4,g5⟩:=h
   split at g5
   ·rename_i j;exact⟨d,.grow tag l m,rfl,⟨s,y,k,e,sz,tag,i,l,m,a,b,n,o,q,g2,g3,g4,.inl ⟨j,rfl⟩⟩,g5.1.symm,g5.2.symm⟩
   ·rename_i j;exact⟨d,.same l,rfl,⟨s,y,k,e,sz,tag,i,l,m,a,b,n,o,q,g2,g3,g4,.inr ⟨by simpa using j,g5.1,rfl⟩⟩,g5.2.1.symm,g5.2.2.symm⟩
  ·grind
 ·exact h.elim
def adu{c:Call}{d:Nat}{x:mw}(h:Og P T fr c x)(b:K (x.fr fr d) H):m5 P T c (some d) K fr H:=by
 obtain⟨s,y,t,e,sz,tag,f,l,m,i,j,k,n,o,q,r,u,v⟩:=h;unfold m5;rw[i,j];simp only[k,n,o];refine⟨trivial,q,r,u,?_⟩;rcases v with⟨a,rfl⟩|⟨a,hm,rfl⟩
 ·rw[dO a];exact b
 ·rw[dI (by simp[a])];exact⟨hm,b⟩
def Og.congr{c:Call}{x:mw}(f:Og P T fr c x)(he:∀y∈c.args.toList,ev T fr y=ev T fr' y)(h:fr'.qh=fr.qh)(hg:fr'.e8=fr.e8):Og P T fr' c x:=by
 obtain⟨s,y,t,e,sz,tag,a,l,m,b,i,j,k,n,o,q,r,u⟩:=f
 have d:oT fr' tag l=oT fr tag l:=by unfold oT;rw[h,hg]
 exact⟨s,y,t,e,sz,tag,a,l,m,b,i,j,by rw[<-he s (by rw[b];simp)];exact k,by rw[<-he y (by rw[b];simp)];exact n,o,q,r,by rw[d];exact u⟩
def xI(a:fQ E ops o=.val\/∃r,fQ E ops o=.load r)(h:nW P T E ops q soft o fr H fr' H'):∃v,nA P T E ops q soft fr H o=some v/\fr'=fr.put o.dst v/\H'=H:=by grind[nW,fQ,g_]
def Bq{v:AV}(h:nA P T E ops q soft fr H o=some v):nW P T E ops q soft o fr H (fr.put o.dst v) H:=by grind[nW,nA,g_]
def vR{d:Option Nat}(k:fQ E ops o=.alloc d)(h:nW P T E ops q soft o fr H fr' H'):∃a cs,d=some a/\o.dst=some a/\E.contains a=false/\Aq P T fr o=some cs/\fr'=kH fr a cs/\H'=H:=by
 unfold nW at h;obtain⟨dst,op,type,pos,after,guard⟩:=o
 have key:∀{cs:List AV} {a:Nat},dst=some a->E.contains a=false->kT E dst cs (λf h=>f=fr'/\h=H') fr H->fr'=kH fr a cs/\H'=H:=by
  intro cs a l n i;subst l;unfold kT at i;simp only at i;rw[dI (by simp only[n];simp)] at i;exact⟨i.1.symm,i.2.symm⟩
 have b:(∃t,op=.alloc t)\/(∃t x,op=.box t x)->∃a,d=some a/\dst=some a/\E.contains a=false:=by
  intro j
  have:(match dst with|some d=>if E.contains d then WO.BC else .alloc (some d)|none=>.BC)=.alloc d:=by
   rcases j with⟨t,rfl⟩|⟨t,x,rfl⟩<;>exact k
  grind
 cases op with
 |alloc t=>
  obtain⟨a,r,s,u⟩:=b (.inl ⟨t,rfl⟩)
  grind[g_,Aq]
 |box t x=>
  obtain⟨a,r,s,u⟩:=b (.inr ⟨t,x,rfl⟩)
  grind[g_,Aq]
 |call c=>grind[fQ]|_=>simp[fQ] at k
def wP{d:Nat}{cs:List AV}(a:o.dst=some d)(b:E.contains d=false)(h:Aq P T fr o=some cs):nW P T E ops q soft o fr H (kH fr d cs) H:=by grind[nW,kT,kH,Aq,g_]
def uO(h:∀x∈o.op.operands,ev T fr x=ev T fr' x):Aq P T fr o=Aq P T fr' o:=by
 obtain⟨dst,op,type,pos,after,guard⟩:=o;cases op with
 |box t x=>simp only[Aq];rw[h x (by simp[Op.operands])]|_=>rfl
def DP(u:fQ E ops o=.BC)(h:nW P T E ops q soft o fr H fr' H'):∃r,fr'=fr.put o.dst r/\(soft=true->QK q H H')/\∀f:Fr,(∀x∈o.op.operands,ev T fr x=ev T f x)->nW P T E ops q soft o f H (f.put o.dst r) H':=by
 unfold nW at h;obtain⟨dst,op,type,pos,after,guard⟩:=o
 have a:∀{cs:List AV},((∃t,op=.alloc t)\/(∃t x,op=.box t x))->kT E dst cs (λf h=>f=fr'/\h=H') fr H->∃d,dst=some d/\E.contains d=true/\fr'=fr.put dst (.eT H.length 0)/\H'=H++[cs.map AV.j9]/\∀f:Fr,kT E dst cs (λB h=>B=f.put dst (.eT H.length 0)/\h=H') f H:=by
  intro cs v i
  have hm:(match dst with|some d=>if E.contains d then WO.BC else .alloc (some d)|none=>.BC)=.BC:=by
   rcases v with⟨t,rfl⟩|⟨t,x,rfl⟩<;>exact u
  unfold kT at i
  split at i
  ·rename_i d
   split at i
   ·rename_i s;refine⟨d,rfl,s,i.1.symm,i.2.symm,λf=>?_⟩;unfold kT;simp only;rw[dO s];exact⟨rfl,i.2⟩
   ·rename_i s;simp only[dI s] at hm;cases hm
  ·exact i.elim
 cases op with
 |alloc t=>
  simp only[g_] at h
  split at h
  ·rename_i z C;obtain⟨d,k,j,l,w,y⟩:=a (.inl ⟨t,rfl⟩) h.2;refine⟨_,l,?_,λf n=>?_⟩
   ·intro hs;have:=h.1 hs;rw[k] at this;exact absurd this (by simp only[abR,j];simp)
   ·unfold nW;simp only[g_,C];exact⟨h.1,y f⟩
  ·exact h.elim
 |box t x=>
  simp only[g_] at h;obtain⟨d,k,j,l,w,y⟩:=a (.inr ⟨t,x,rfl⟩) h.2.2;refine⟨_,l,?_,λf n=>?_⟩
  ·intro hs;have:=h.2.1 hs;rw[k] at this;exact absurd this (by simp only[abR,j];simp)
  ·unfold nW;simp only[g_];have e:=n x (by simp[Op.operands]);refine⟨by rw[<-e];exact h.1,h.2.1,?_⟩;rw[<-e];exact y f
 |call c=>
  obtain⟨callee,args,Zm⟩:=c;cases callee with
  |builtin b=>cases b<;>simp[fQ] at u
  |value g=>
   simp only[g_] at h;obtain⟨r,A,k,j,l,w⟩:=h;subst w;refine⟨r,l.symm,j,λf n=>?_⟩;unfold nW;simp only[g_];refine⟨r,A,?_,j,rfl,rfl⟩
   have D:(args.toList.map λx=>(ev T fr x).norm)=args.toList.map λx=>(ev T f x).norm:=
    uU λx F=>by rw[n x (by simp[Op.operands,Call.operands,yf.1 F])]
   rw[<-D,<-n g (by simp[Op.operands,Call.operands])];exact k
  |invoke r m=>simp only[g_] at h
 |_=>simp[fQ] at u
theorem EK(a:fQ E ops o=.app)(h:nW P T E ops q soft o fr H fr' H'):∃d x,o.dst=some d/\fr'=mw.fr fr d x/\H'=H/\∀(f:Fr) (h:dT),(∀x∈o.op.operands,ev T fr x=ev T f x)->f.qh=fr.qh->f.e8=fr.e8->nW P T E ops q soft o f h (mw.fr f d x) h:=by
 unfold nW at h;obtain⟨dst,op,type,pos,after,guard⟩:=o;cases op with
 |call c=>
  obtain⟨callee,args,Zm⟩:=c;cases callee with
  |builtin b=>
   cases b with
   |append=>
    obtain⟨d,x,j,k,l,n⟩:=X4 h;subst j;refine⟨d,x,rfl,l,n,λf h he s hg=>?_⟩;unfold nW;simp only[g_];refine adu (k.congr (λy i=>he y ?_) s hg) ⟨rfl,rfl⟩;simp only at i;simp[Op.operands,Call.operands,yf.1 i]
   |_=>simp[fQ] at a
  |value g=>simp[fQ] at a
  |invoke r m=>simp[fQ] at a
 |alloc t=>grind[fQ]|box t x=>grind[fQ]|_=>simp[fQ] at a
def VS{r:Option Nat}(d:fQ E ops o=.KY r)(h:nW P T E ops q soft o fr H fr' H'):fr'.env=fr.env/\fr'.gen=fr.gen/\fr'.qh=fr.qh/\fr'.e8=fr.e8/\o.dst=none/\(∀b,r≠some b->fr'.box b=fr.box b)/\(soft=true->H'=H):=by
 unfold nW at h;obtain⟨dst,op,type,pos,after,guard⟩:=o;cases op with
 |store t x y=>
  simp only[fQ,WO.KY.injEq] at d;simp only[g_] at h;obtain⟨f,i,j,a⟩:=h;unfold lQ at a
  split at a
  ·exact a.elim
  ·split at a
   ·rename_i b g off k
    split at a
    ·obtain⟨_,_,_,_,g1,g2⟩:=a;subst g1;subst g2
     grind[qV,gz,zZ]
    ·exact a.elim
   all_goals grind[isL]
 |call c=>grind[fQ]|alloc t=>grind[fQ]|box t x=>grind[fQ]|_=>simp[fQ] at d
theorem Dt(fr:Fr)(d:Nat):fr.put (some d) (fr.env d)=fr:=by
 simp only[Fr.put]
 have:gz fr.env d (fr.env d)=fr.env:=by grind[gz]
 rw[this]
theorem Hh(fr:Fr)(d:Nat)(x y:AV):(fr.put (some d) x).put (some d) y=fr.put (some d) y:=by grind[Fr.put,Lc]
structure Left (c:WO) (dst:Option Nat) (soft:Bool) (q:Qt) (fr:Fr) (H:dT) (fr':Fr) (H':dT):Prop where
 env:∀t,dst≠some t->fr'.env t=fr.env t
 box:∀b,c≠ .alloc (some b)->c≠ .KY (some b)->fr'.box b=fr.box b/\fr'.gen b=fr.gen b
 heap:c≠ .BC->(∀r,c=.KY r->soft=true)->H'=H
 quiet:soft=true->QK q H H'
def mw.left(fr:Fr)(d:Nat)(x:mw):(∀t,t≠d->(mw.fr fr d x).env t=fr.env t)/\(mw.fr fr d x).box=fr.box/\(mw.fr fr d x).gen=fr.gen:=by
 cases x with
 |grow tag l m=>exact⟨λt a=>by show gz _ _ _ t=_;rw[zZ _ _ _ _ a],rfl,rfl⟩|same l=>exact⟨λt a=>by show gz _ _ _ t=_;rw[zZ _ _ _ _ a],rfl,rfl⟩
def p3(h:nW P T E ops q soft o fr H fr' H'):Left (fQ E ops o) o.dst soft q fr H fr' H':=by
 have a:∀(v:AV) (t:Nat),o.dst≠some t->(fr.put o.dst v).env t=fr.env t:=by
  intro v t j;rw[Fr.tG,dI j]
 cases i:fQ E ops o with
 |val=>
  obtain⟨v,_,rfl,rfl⟩:=xI (.inl i) h;obtain⟨c,f,_,_⟩:=Fr.xV fr o.dst v;exact⟨a v,λb _ _=>⟨by rw[c],by rw[f]⟩,λ_ _=>rfl,λ_=>.refl⟩
 |load r=>
  obtain⟨v,_,rfl,rfl⟩:=xI (.inr ⟨r,i⟩) h;obtain⟨c,f,_,_⟩:=Fr.xV fr o.dst v;exact⟨a v,λb _ _=>⟨by rw[c],by rw[f]⟩,λ_ _=>rfl,λ_=>.refl⟩
 |alloc d=>
  obtain⟨u,cs,rfl,l,_,_,rfl,rfl⟩:=vR i h;refine⟨λt j=>?_,λb n _=>?_,λ_ _=>rfl,λ_=>.refl⟩
  ·show gz _ _ _ t=_;rw[zZ];rintro rfl;exact j l
  ·have k:b≠u:=by rintro rfl;exact n rfl
   exact⟨zZ _ _ _ _ k,zZ _ _ _ _ k⟩
 |BC=>
  obtain⟨r,rfl,w,_⟩:=DP i h;obtain⟨c,f,_,_⟩:=Fr.xV fr o.dst r;exact⟨a r,λb _ _=>⟨by rw[c],by rw[f]⟩,λhn _=>absurd rfl hn,w⟩
 |app=>
  obtain⟨d,x,l,rfl,rfl,_⟩:=EK i h;obtain⟨g1,g2,g3⟩:=mw.left fr d x;exact⟨λt j=>g1 t (by rintro rfl;exact j l),λb _ _=>⟨by rw[g2],by rw[g3]⟩,λ_ _=>rfl,λ_=>.refl⟩
 |KY r=>
  obtain⟨c,f,A,B,C,y,s⟩:=VS i h;exact⟨λt _=>by rw[c],λb _ n=>⟨y b (λe=>n (by rw[e])),by rw[f]⟩,λ_ hs=>s (hs r rfl),λhs=>by rw[s hs];exact .refl⟩
def MC{d:Nat}(v:AV)(b:d∉o.looksAt opsA)(a:o.dst≠some d)(h:nW P T E ops q soft o fr H fr' H'):nW P T E ops q soft o (fr.put (some d) v) H (fr'.put (some d) v) H':=by
 have c:g_ P T E ops q soft o (λf h=>f=fr'/\h=H') ((fr.put (some d) v).put (some d) (fr.env d)) H:=by
  rw[Hh,Dt];exact h
 obtain⟨f,j,i,k,l⟩:=sX (KR (opsA:=opsA) b a c);have he:=(p3 i).env d a
 grind[Hh,Fr.tG,Dt]
def H9{d:Nat}{v:AV}(b:d∉o.looksAt opsA)(a:o.dst≠some d)(h:nW P T E ops q soft o (fr.put (some d) v) H fr' H'):∃f,nW P T E ops q soft o fr H f H'/\f.put (some d) v=fr':=by
 obtain⟨f,c,i,j,k⟩:=sX (KR (opsA:=opsA) b a h)
 grind
theorem H5{x:Operand}{t:Nat}(a:x∈o.op.operands)(b:x=.tmp t):t∈o.looksAt opsA:=by
 subst b;exact afK _ (afn.2 ⟨.tmp t,by simpa using a,rfl⟩)
def Ev{c:WO}{dst:Option Nat}(a:Left c dst soft q fr H fr' H')(b:∀d,dst=some d->d∉o.looksAt opsA):∀x∈o.op.operands,ev T fr x=ev T fr' x:=by
 intro x f;refine DS λt h=>?_;rw[a.env]
 grind[H5]
def EN{c:WO}{dst:Option Nat}(s:Left c dst soft2 q fr H fr' H')(D:∀d,dst=some d->d∉o.looksAt opsA)(j:wI (fQ E ops o) c=true)
  (hs:∀r,fQ E ops o=.load r->(c=.BC->soft=true/\soft2=true)/\(∀F,c=.KY F->soft2=true)) {v:AV} (hv:nA P T E ops q soft fr H o=some v\/nA P T E ops q soft fr' H' o=some v):nA P T E ops q soft fr H o=nA P T E ops q soft fr' H' o:=by
 have u:=Ev (T:=T) (opsA:=opsA) s D
 by_cases k:∃t x,o.op=.load t x
 ·obtain⟨t,x,a⟩:=k;have G:=u x (by rw[a];simp[Op.operands])
  have l:fQ E ops o=.load (Fe ops x):=by unfold fQ;rw[a]
  obtain⟨w,y⟩:=hs _ l;rw[l] at j
  have n:qV ops x (ev T fr x)=true/\(!soft||q.ok (ev T fr x))=true:=by
   have:∀(f:Fr) (h:dT),nA P T E ops q soft f h o=some v->ev T f x=ev T fr x->qV ops x (ev T fr x)=true/\(!soft||q.ok (ev T fr x))=true:=by
    intro f h hv he;unfold nA at hv;rw[a] at hv;simp only at hv
    split at hv
    ·rename_i B;rw[he] at B;simpa using B
    ·cases hv
   rcases hv with hv|hv
   ·exact this fr H hv rfl
   ·exact this fr' H' hv G.symm
  refine yQ u (λL M he=>?_) (λ_ _ _ _ he=>by rw[a] at he;cases he);rw[a] at he;injection he with I J;subst I;subst J;refine⟨λb g off K=>?_,λo' C hg=>?_⟩
  ·have A:Fe ops x=some b:=by
    have:=n.1;rw[K] at this;simpa[qV] using this
   rw[A] at j;have:=s.box b (by rintro rfl;simp[wI] at j) (by rintro rfl;simp[wI] at j);exact⟨this.1.symm,this.2.symm⟩
  ·by_cases he:c=.BC
   ·obtain⟨g1,g2⟩:=w he
    have hq:q.all=true\/q.st o'=true:=by
     have:=n.2;rw[g1,hg] at this;simpa[Qt.ok] using this
    rcases hq with hq|hq
    ·rw[(s.quiet g2).1 hq]
    ·exact((s.quiet g2).2 o' hq).symm
   ·rw[s.heap he y]
 ·refine yQ u (λt x he=>absurd ⟨t,x,he⟩ k) λt x i ok a=>?_
  have l:fQ E ops o=.load none:=by unfold fQ;rw[a]
  obtain⟨w,y⟩:=hs _ l
  have hq:(!soft||q.all)=true:=by
   have:∀(f:Fr) (h:dT),nA P T E ops q soft f h o=some v->(!soft||q.all)=true:=by
    intro f h hv;unfold nA at hv;rw[a] at hv;simp only at hv
    split at hv
    ·rename_i B;exact B
    ·cases hv
   rcases hv with hv|hv
   ·exact this _ _ hv
   ·exact this _ _ hv
  by_cases he:c=.BC
  ·obtain⟨g1,g2⟩:=w he;rw[g1] at hq;exact((s.quiet g2).1 (by simpa using hq)).symm
  ·exact(s.heap he y).symm
def Lq(fr:Fr){d b:Nat}(h:d≠b)(cs a:List AV):kH (kH fr d cs) b a=kH (kH fr b a) d cs:=by
 simp only[kH,zZ _ _ _ _ h,zZ _ _ _ _ h.symm]
 grind[AH]
theorem zR(fr:Fr){d:Nat}{d2:Option Nat}(h:d2≠some d)(cs:List AV)(r:AV):(kH fr d cs).put d2 r=kH (fr.put d2 r) d cs:=by
 cases d2 with
 |none=>rfl|some a=>grind[kH,Fr.put,AH]
theorem Re(fr:Fr){d:Nat}{d2:Option Nat}(h:d2≠some d)(x:mw)(r:AV):mw.fr (fr.put d2 r) d x=(mw.fr fr d x).put d2 r:=by
 cases d2 with
 |none=>rfl|some b=>
  have a:b≠d:=λe=>h (by rw[e]);cases x with
  |grow tag l m=>
   simp only[mw.fr,grown,Fr.put]
   grind[AH]
  |same l=>exact nc fr a r (.slice .gx l)
def FY(fr:Fr){d a:Nat}(h:d≠a)(cs:List AV)(x:mw):mw.fr (kH fr d cs) a x=kH (mw.fr fr a x) d cs:=by
 cases x with
 |grow tag l m=>
  simp only[mw.fr,grown,kH]
  grind[AH]
 |same l=>grind[mw.fr,Fr.put,kH,AH]
def SB(X:o1.apart opsA o2=true)(a:wI (fQ E ops o1) (fQ E ops o2)=true)
  (Y:∀r,fQ E ops o1=.load r->(fQ E ops o2=.BC->soft1=true/\soft2=true)/\(∀O,fQ E ops o2=.KY O->soft2=true))
  (Z:∀r,fQ E ops o2=.load r->(fQ E ops o1=.BC->soft2=true/\soft1=true)/\(∀O,fQ E ops o1=.KY O->soft1=true))
  (K:nW P T E ops q soft1 o1 fr H fr1 H1) (J:nW P T E ops q soft2 o2 fr1 H1 fr2 H2):∃f h,nW P T E ops q soft2 o2 fr H f h/\nW P T E ops q soft1 o1 f h fr2 H2:=by
 obtain⟨a1,a2,a3⟩:=Oper.apart_spec X
 by_cases L:fQ E ops o1=.val\/∃r,fQ E ops o1=.load r
 ·obtain⟨v,Q,c,M⟩:=xI L K;subst M
  have ad:∃f,nW P T E ops q soft2 o2 fr H1 f H2/\f.put o1.dst v=fr2:=by
   cases w:o1.dst with
   |none=>rw[w] at c;subst c;exact⟨fr2,J,rfl⟩
   |some d=>rw[w] at c;subst c;exact H9 (opsA:=opsA) (a1 d w) (a2 d w) J
  obtain⟨f,R,ae⟩:=ad;have A:wI (fQ E ops o1) (fQ E ops o2)=true:=a;have:=EN (o:=o1) (soft:=soft1) (p3 R) a3 A Y (.inl Q);refine⟨f,H2,R,?_⟩;rw[<-ae];exact Bq (by rw[<-this];exact Q)
 ·--ak second one only N
  by_cases n:fQ E ops o2=.val\/∃r,fQ E ops o2=.load r
  ·obtain⟨v,Q,c,M⟩:=xI n J;subst M
   have A:wI (fQ E ops o2) (fQ E ops o1)=true:=by
    revert a
    cases fQ E ops o1<;>cases fQ E ops o2<;>simp[wI]<;>(intro h e;exact h e.symm)
   have:=EN (o:=o2) (soft:=soft2) (p3 K) a1 A Z (.inr Q);refine⟨fr.put o2.dst v,H,Bq (by rw[this];exact Q),?_⟩;rw[c];cases w:o2.dst with
   |none=>exact K|some d=>exact MC (opsA:=opsA) v (a3 d w) (λe=>a2 d e w) K
  ·--S
   have af:=p3 K;have l:∀x∈o2.op.operands,ev T fr x=ev T fr1 x:=Ev (T:=T) (opsA:=opsA) af a1;have C:∀{f:Fr} {h:dT} (U:nW P T E ops q soft2 o2 fr H f h),∀x∈o1.op.operands,ev T fr x=ev T f x:=λU=>Ev (T:=T) (opsA:=opsA) (p3 U) a3;cases j:fQ E ops o1 with
   |val=>exact absurd (.inl j) L|load r=>exact absurd (.inr ⟨r,j⟩) L|KY r=>
    rw[j] at a;cases b:fQ E ops o2 with
    |val=>exact absurd (.inl b) n|load O=>exact absurd (.inr ⟨O,b⟩) n|_=>rw[b] at a;simp[wI] at a
   |alloc d1=>
    obtain⟨d,cs,rfl,w,ah,ai,c,M⟩:=vR j K;subst M
    have back:∀{f:Fr} {h:dT} (U:nW P T E ops q soft2 o2 fr H1 f h),nW P T E ops q soft1 o1 f h (kH f d cs) h:=λU=>
     wP w ah (by rw[<-uO (C U)];exact ai)
    cases b:fQ E ops o2 with
    |val=>exact absurd (.inl b) n|load r=>exact absurd (.inr ⟨r,b⟩) n|KY r=>rw[j,b] at a;simp[wI] at a
    |alloc d2=>
     obtain⟨I,D,rfl,k,F,t,i,B⟩:=vR b J;subst B;have G:d≠I:=λe=>a2 d w (by rw[k,e]);have hn:nW P T E ops q soft2 o2 fr H2 (kH fr I D) H2:=wP k F (by rw[uO l];exact t);refine⟨_,_,hn,?_⟩;rw[i,c,Lq fr G];exact back hn
    |BC=>
     obtain⟨r,i,_,u⟩:=DP b J;have hn:=u fr λx V=>(l x V).symm;refine⟨_,_,hn,?_⟩;rw[i,c,zR fr (λe=>a2 d w e)];exact back hn
    |app=>
     obtain⟨I,x,k,i,B,u⟩:=EK b J;subst B;have G:d≠I:=λe=>a2 d w (by rw[k,e]);have hn:=u fr H2 (λx V=>(l x V).symm) (by rw[c];rfl) (by rw[c];rfl);refine⟨_,_,hn,?_⟩;rw[i,c,FY fr G];exact back hn
   |BC=>
    obtain⟨r,c,_,s⟩:=DP j K;cases b:fQ E ops o2 with
    |val=>exact absurd (.inl b) n|load r=>exact absurd (.inr ⟨r,b⟩) n|KY r=>rw[j,b] at a;simp[wI] at a
    |BC=>rw[j,b] at a;simp[wI] at a
    |alloc d2=>
     obtain⟨I,D,rfl,k,F,t,i,B⟩:=vR b J;subst B;have hn:nW P T E ops q soft2 o2 fr H (kH fr I D) H:=wP k F (by rw[uO l];exact t);refine⟨_,_,hn,?_⟩;rw[i,c,<-zR fr (λe=>a2 I e k)];exact s _ λx V=>C hn x V
    |app=>grind[EK,Fr.xV,Re]
   |app=>
    obtain⟨d,x,w,c,M,s⟩:=EK j K;subst M;cases b:fQ E ops o2 with
    |val=>exact absurd (.inl b) n|load r=>exact absurd (.inr ⟨r,b⟩) n|KY r=>rw[j,b] at a;simp[wI] at a
    |app=>rw[j,b] at a;simp[wI] at a
    |alloc d2=>
     obtain⟨I,D,rfl,k,F,t,i,B⟩:=vR b J;subst B;have G:I≠d:=λe=>a2 d w (by rw[k,e]);have hn:nW P T E ops q soft2 o2 fr H2 (kH fr I D) H2:=wP k F (by rw[uO l];exact t);refine⟨_,_,hn,?_⟩;rw[i,c,<-FY fr G];exact s _ _ (λy W=>C hn y W) rfl rfl
    |BC=>
     obtain⟨r,i,_,u⟩:=DP b J;have hn:=u fr λy W=>(l y W).symm;obtain⟨e1,e2,e3,e4⟩:=Fr.xV fr o2.dst r;refine⟨_,_,hn,?_⟩;rw[i,c,<-Re fr (λe=>a2 d w e)];exact s _ _ (λy W=>C hn y W) e3 e4
end
end Go.kY
namespace Go.kY
open Go
def hJ(opsA:Array Oper)(o:Oper)(fr:Fr):Option Bool:=
 match o.guard with
 |none=>some true|some (j,want)=>
  match(opsA[j]?).bind (·.dst)with
  |some d=>match fr.env d with
   |.sc (.bool b)=>some (b==want)|.tuple _=>some false|_=>none
  |none=>none
def kj(E:List Nat)(o:Oper):Bool:=
 match o.op with
 |.call c=>(match c.callee with
  |.builtin .append=>o.dst.any E.contains|.value _=>o.dst.any E.contains|_=>false)
 |_=>false
def Xq(c:Call):Bool:=
 match c.callee with
 |.value _=>true|_=>false
def ada(P:Program)(T:eH)(q:Qt)(soft:Bool)(a:AV)(as:List AV)(dst:Option Nat)(K:Fr->dT->Prop)(fr:Fr)(H:dT):Prop:=
 ∃Post:AV->dT->Prop,oY P T a as H Post/\(∃r h,Post r h)/\∀r h,Post r h->(soft=true->QK q H h)/\K (fr.put dst r) h
def nJ(P:Program)(T:eH)(q:Qt)(soft:Bool)(c:Call)(dst:Option Nat)(K:Fr->dT->Prop)(fr:Fr)(H:dT):Prop:=
 match c.callee with
 |.value f=>ada P T q soft (ev T fr f) (c.args.toList.map λx=>(ev T fr x).norm) dst K fr H|_=>oX P T c dst K fr H
def SV(E:List Nat)(q:Qt)(x:Operand)(v:AV):Prop:=E.contains 999999=true->∃a off t,v=.eT a off/\x=.tmp t/\q.cl a=t
@[simp] theorem agK{E:List Nat}{q:Qt}{x:Operand}{v:AV}(h:E.contains 999999=false):SV E q x v=True:=eq_true λa=>by rw[h] at a;cases a
def Ff(T:eH)(E:List Nat)(q:Qt)(fr:Fr)(o:Oper):Prop:=
 match o.op with
 |.store _ x _=>SV E q x (ev T fr x)|_=>True
def oV(o:Oper):Option Nat:=
 match o.op with
 |.store _ (.tmp t) _=>some t|_=>none
def zb(o:Oper):Bool:=
 match o.op with
 |.store _ _ _=>true|_=>false
def qM(P:Program)(T:eH)(E:List Nat)(ops:List Oper)(q:Qt)(soft:Bool)(o:Oper)(K:Fr->dT->Prop)(fr:Fr)(H:dT):Prop:=
 if kj E o then(match o.op with
  |.call c=>nJ P T q soft c o.dst K fr H|_=>False)else if zb o then(Ff T E q fr o/\g_ P T E ops q soft o K fr H)else g_ P T E ops q soft o K fr H
def hS(P:Program)(T:eH)(E:List Nat)(opsA:Array Oper)(q:Qt)(soft:Bool)(o:Oper)(K:Fr->dT->Prop)(fr:Fr)(H:dT):Prop:=
 match hJ opsA o fr with
 |some true=>qM P T E opsA.toList q soft o K fr H|some false=>K (fr.put o.dst (.tuple [])) H|none=>False
def Le(P:Program)(T:eH)(E:List Nat)(opsA:Array Oper)(q:Qt)(sf:Nat->Bool):List Nat->(Fr->dT->Prop)->Fr->dT->Prop
 |[],K,fr,H=>K fr H|i::rest,K,fr,H=>match opsA[i]?with
  |some o=>hS P T E opsA q (sf i) o (λfr H=>Le P T E opsA q sf rest K fr H) fr H|none=>False
section
variable{P:Program} {T:eH} {E:List Nat} {opsA:Array Oper} {q:Qt} {soft soft1 soft2:Bool} {o o1 o2:Oper} {K K':Fr->dT->Prop} {fr fr':Fr} {H H':dT}
def Ba(h:kj E o=true):∃c d,o.op=.call c/\(c.callee=.builtin .append\/∃f,c.callee=.value f)/\o.dst=some d:=by
 unfold kj at h
 split at h
 ·have a:o.dst.any E.contains=true->∃d,o.dst=some d:=by
   intro h;cases a:o.dst with
   |none=>grind|some d=>exact⟨d,rfl⟩
  grind
 ·cases h
def qa{ops:List Oper}{c:Call}(h:kj E o=true)(a:o.op=.call c):qM P T E ops q soft o K fr H=nJ P T q soft c o.dst K fr H:=by grind[qM]
theorem oL{ops:List Oper}(h:kj E o=false):qM P T E ops q soft o K fr H=(Ff T E q fr o/\g_ P T E ops q soft o K fr H):=by grind[qM,zb,Ff]
theorem VK{ops:List Oper}(h:fQ E ops o=.val\/∃r,fQ E ops o=.load r):Ff T E q fr o:=by grind[Ff,fQ]
def yP{f:Fr}(he:∀x∈o.op.operands,ev T fr x=ev T f x)(h:Ff T E q fr o):Ff T E q f o:=by
 unfold Ff SV at*
 split
 ·rename_i t x y a;rw[a] at h;intro b;obtain⟨c,off,s,d,i,j⟩:=h b;exact⟨c,off,s,by rw[<-he x (by rw[a];simp[Op.operands])];exact d,i,j⟩
 ·trivial
def Bv{ops a:List Oper}(h:kj E o=false)(b:fQ E a o=.val\/∃r,fQ E a o=.load r):qM P T E ops q soft o K fr H=g_ P T E ops q soft o K fr H:=by grind[oL,VK]
theorem Me{c:Call}{dst:Option Nat}(i:∀r h,K (fr.put dst r) h->K' (fr.put dst r) h)(h:oX P T c dst K fr H):oX P T c dst K' fr H:=by
 unfold oX at*
 split at h
 ·split at h
  ·obtain⟨a,b,d,f,h⟩:=h;refine⟨a,b,d,f,?_⟩
   grind
  ·exact h
 ·exact h
theorem Pt{c:Call}{dst:Option Nat}(h:oX P T c dst K fr H):∃r a,K (fr.put dst r) a:=by
 unfold oX at h
 split at h
 all_goals grind
def Nw{c:Call}{dst:Option Nat}{d:Nat}{v:AV}(n:∀x∈c.args.toList,ev T (fr.put (some d) v) x=ev T fr x)(a:dst≠some d)(h:oX P T c dst K (fr.put (some d) v) H):oX P T c dst (λf h=>K (f.put (some d) v) h) fr H:=by
 unfold oX at*
 split at h
 ·rename_i b s x t o i l;have j:b≠d:=λe=>a (by rw[e]);have k:∀y:AV,(fr.put (some b) y).put (some d) v=(fr.put (some d) v).put (some b) y:=λy=>nc fr j y v
  simp_all
 ·exact h
theorem oY.mono{a:AV}{as:List AV}{Post Post':AV->dT->Prop}(h:oY P T a as H Post)(b:∀r h,Post r h->Post' r h):oY P T a as H Post':=by
 unfold oY at*
 split at h
 ·exact h.mono b
 ·exact h
theorem yi{c:Call}{dst:Option Nat}(d:∀r h,(Xq c=true->soft=true->QK q H h)->K (fr.put dst r) h->K' (fr.put dst r) h)(h:nJ P T q soft c dst K fr H):nJ P T q soft c dst K' fr H:=by
 unfold nJ at*
 split at h
 ·obtain⟨Post,f,i,a⟩:=h;exact⟨Post,f,i,λr h b=>⟨(a r h b).1,d r h (λ_=>(a r h b).1) (a r h b).2⟩⟩
 ·grind[Me,Xq]
def VC{c:Call}{dst:Option Nat}(h:nJ P T q soft c dst K fr H):∃r a,(Xq c=true->soft=true->QK q H a)/\K (fr.put dst r) a:=by
 unfold nJ at h
 split at h
 ·obtain⟨Post,b,⟨r,a,d⟩,f⟩:=h
  grind
 ·grind[Pt,Xq]
def KN{c:Call}{dst:Option Nat}{d:Nat}{v:AV}(b:∀x∈c.operands.toList,ev T (fr.put (some d) v) x=ev T fr x)(i:dst≠some d)(h:nJ P T q soft c dst K (fr.put (some d) v) H):nJ P T q soft c dst (λf h=>K (f.put (some d) v) h) fr H:=by
 have a:∀x∈c.args.toList,ev T (fr.put (some d) v) x=ev T fr x:=λx j=>b x (by
  unfold Call.operands;rw[Array.toList_append]
  exact List.mem_append_right _ j)
 unfold nJ at*
 split at h
 ·rename_i f o;obtain⟨Post,k,s,l⟩:=h;rw[b f (by unfold Call.operands;rw[o];simp),uU (g:=λx=>(ev T fr x).norm) (λx j=>by rw[a x j])] at k;refine⟨Post,k,s,λr h n=>⟨(l r h n).1,?_⟩⟩;have:=(l r h n).2;cases dst with
  |none=>exact this|some t=>grind[nc]
 ·exact Nw a i h
theorem HA(a:∀fr H,K fr H->K' fr H)(h:hS P T E opsA q soft o K fr H):hS P T E opsA q soft o K' fr H:=by
 unfold hS at*
 split at h
 ·cases hg:kj E o with
  |true=>
   obtain⟨c,d,b,_,f⟩:=Ba hg;rw[qa hg b] at h|-
   grind[yi]
  |false=>grind[oL,I5]
 ·exact a _ _ h
 ·exact h
theorem Na(h:qM P T E opsA.toList q soft o K fr H):qz P T E o K fr H:=by
 cases hg:kj E o with
 |true=>
  obtain⟨c,d,b,a,l⟩:=Ba hg;rw[qa hg b] at h;unfold qz;rw[b];rcases a with a|⟨f,a⟩
  ·grind[nJ]
  ·simp only[a];unfold nJ at h;rw[a] at h;obtain⟨Post,i,_,j⟩:=h;exact i.mono λr h k=>(j r h k).2
 |false=>
  rw[oL hg] at h;exact MM h.2
def Oj(h:hS P T E opsA q soft o K fr H):DD P T E opsA o K fr H:=by grind[hS,hJ,DD,Na]
theorem yI(h:∀t,t∈o.looksAt opsA->fr'.env t=fr.env t):hJ opsA o fr'=hJ opsA o fr:=by
 unfold hJ;cases hg:o.guard with
 |none=>rfl|some p=>
  obtain⟨j,want⟩:=p;simp only
  cases a:(opsA[j]?).bind (·.dst)with
  |none=>rfl|some d=>
   have:d∈o.looksAt opsA:=by
    unfold Oper.looksAt
    grind
   grind
theorem kn{d:Option Nat}{v:AV}(h:∀a,d=some a->a∉o.looksAt opsA):hJ opsA o (fr.put d v)=hJ opsA o fr:=by grind[yI,Fr.tG]
def Db{c:WO}{dst:Option Nat}(b:Left c dst soft q fr H fr' H')(h:∀a,dst=some a->a∉o.looksAt opsA):hJ opsA o fr'=hJ opsA o fr:=by
 refine yI λt d=>b.env t ?_
 grind
def aaR(E:List Nat)(opsA:Array Oper)(s1 s2:Bool)(o1 o2:Oper):Bool:=
 o1.apart opsA o2&&wI (fQ E opsA.toList o1) (fQ E opsA.toList o2)&&
 (match fQ E opsA.toList o1,fQ E opsA.toList o2 with
  |.load _,.BC=>s1&&s2|.BC,.load _=>s1&&s2|.load _,.KY _=>s2|.KY _,.load _=>s1|_,_=>true)
def GL(o:Oper):Bool:=
 match o.op with
 |.call c=>Xq c|_=>false
def KU(E:List Nat)(o:Oper):Bool:=
 match o.op,o.dst with
 |.alloc _,some d=>!E.contains d|_,_=>false
def KA(h:KU E o=true):∃t d,o.op=.alloc t/\o.dst=some d/\E.contains d=false:=by grind[KU]
def Yy(E:List Nat)(opsA:Array Oper)(s1 s2:Bool)(o1 o2:Oper):Bool:=
 match fQ E opsA.toList o2 with
 |.val=>true|.load _=>GL o1&&s1&&s2|.alloc _=>GL o1&&KU E o2|_=>false
def N5{s1 s2:Bool}(h:Yy E opsA s1 s2 o1 o2=true):(fQ E opsA.toList o2=.val\/(∃r,fQ E opsA.toList o2=.load r)/\GL o1=true/\s1=true/\s2=true)\/GL o1=true/\KU E o2=true:=by grind[Yy]
def Zu(E:List Nat)(opsA:Array Oper)(s1 s2:Bool)(o1 o2:Oper):Bool:=
 if kj E o1||kj E o2 then
  o1.apart opsA o2&&(kj E o1&&!kj E o2&&Yy E opsA s1 s2 o1 o2||kj E o2&&!kj E o1&&Yy E opsA s2 s1 o2 o1)
 else if E.contains 999999&&(oV o1).isSome&&(oV o2).isSome&&oV o1 !=oV o2&&o1.dst==none&&o2.dst==none then true
 else aaR E opsA s1 s2 o1 o2
def Wp{f:Fr}{h:dT}(b:fQ E opsA.toList o=.val)(he:∀x∈o.op.operands,ev T fr x=ev T f x):nA P T E opsA.toList q soft fr H o=nA P T E opsA.toList q soft f h o:=by
 refine yQ he (λt x a=>?_) λt x i ok a=>?_
 all_goals grind[fQ]
def IH{d:Option Nat}{v:AV}(b:∀a,d=some a->a∉o.looksAt opsA):∀x∈o.op.operands,ev T fr x=ev T (fr.put d v) x:=by grind[DS,Fr.tG,H5]
theorem FI{d1 d2:Option Nat}(h:∀d,d1=some d->d2≠some d)(x y:AV):(fr.put d1 x).put d2 y=(fr.put d2 y).put d1 x:=by
 cases d1 with
 |none=>rfl|some a=>
  cases d2 with
  |none=>rfl|some b=>grind[nc]
theorem Sv{c:Call}(a:o.op=.call c){x:Operand}(b:x∈c.args.toList):x∈o.op.operands:=by
 rw[a];simp[Op.operands,Call.operands,yf.1 b]
def lT(h:hS P T E opsA q soft o K fr H):hJ opsA o fr=some true/\qM P T E opsA.toList q soft o K fr H\/hJ opsA o fr=some false/\K (fr.put o.dst (.tuple [])) H:=by grind[hS]
def sb(hg:hJ opsA o fr=some true)(h:qM P T E opsA.toList q soft o K fr H):hS P T E opsA q soft o K fr H:=by grind[hS]
theorem tv(hg:hJ opsA o fr=some false)(h:K (fr.put o.dst (.tuple [])) H):hS P T E opsA q soft o K fr H:=by grind[hS]
def HV{c:Call}(a:o.op=.call c){x:Operand}(b:x∈c.operands.toList):x∈o.op.operands:=by
 rw[a];exact yf.1 b
def aam{c:Call}(a:fQ E opsA.toList o2=.val\/(∃r,fQ E opsA.toList o2=.load r)/\GL o1=true/\soft1=true/\soft2=true)(l:o1.op=.call c)(k:∀d,o1.dst=some d->d∉o2.looksAt opsA){r:AV}{f:dT}
  (n:Xq c=true->soft1=true->QK q H f) {v:AV} (s:nA P T E opsA.toList q soft2 fr H o2=some v\/nA P T E opsA.toList q soft2 (fr.put o1.dst r) f o2=some v):nA P T E opsA.toList q soft2 fr H o2=nA P T E opsA.toList q soft2 (fr.put o1.dst r) f o2:=by
 rcases a with a|⟨⟨rr,a⟩,i,u,w⟩
 ·exact Wp a (IH k)
 ·have j:Xq c=true:=by unfold GL at i;rw[l] at i;exact i
  have x:Left .BC o1.dst true q fr H (fr.put o1.dst r) f:=⟨λt y=>by rw[Fr.tG,dI y],λb _ _=>⟨by cases o1.dst<;>rfl,by cases o1.dst<;>rfl⟩,λh=>(h rfl).elim,λ_=>n j u⟩;refine EN (o:=o2) (opsA:=opsA) x k (by rw[a];rfl) (λ_ _=>⟨λ_=>⟨w,rfl⟩,λ_ h=>by cases h⟩) s
def NF(w:o1.apart opsA o2=true)(B:fQ E opsA.toList o1=.val\/(∃r,fQ E opsA.toList o1=.load r)/\GL o2=true/\soft2=true/\soft1=true)(s:kj E o1=false)(i:kj E o2=true)(h:hS P T E opsA q soft1 o1 (λfr H=>hS P T E opsA q soft2 o2 K fr H) fr H):hS P T E opsA q soft2 o2 (λfr H=>hS P T E opsA q soft1 o1 K fr H) fr H:=by
 obtain⟨C,a2,a3⟩:=Oper.apart_spec w;obtain⟨c,d2,u,_,G⟩:=Ba i;have j:fQ E opsA.toList o1=.val\/∃r,fQ E opsA.toList o1=.load r:=B.imp id λh=>h.1
 have key:∃v,(∀r h,(Xq c=true->soft2=true->QK q H h)->K ((fr.put o2.dst r).put o1.dst v) h->hS P T E opsA q soft1 o1 K (fr.put o2.dst r) h)/\hS P T E opsA q soft2 o2 K (fr.put o1.dst v) H:=by
  rcases lT h with⟨k,n⟩|⟨k,n⟩
  ·rw[Bv s j] at n;obtain⟨f1,H1,y,a⟩:=sX n;obtain⟨v,D,I,J⟩:=xI j y;rw[I,J] at a;refine⟨v,λr F A t=>sb (by rw[kn a3,k]) ?_,a⟩;rw[Bv s j];exact vF (Bq (by rw[<-aam B u a3 A (.inl D)];exact D)) t
  ·exact⟨_,λr F _ t=>tv (by rw[kn a3,k]) t,n⟩
 obtain⟨v,back,n⟩:=key;rcases lT n with⟨l,a⟩|⟨l,a⟩
 ·rw[kn C] at l;rw[qa i u] at a;refine sb l ?_;rw[qa i u]
  have L:nJ P T q soft2 c o2.dst (λf h=>K (f.put o1.dst v) h) fr H:=by
   cases b:o1.dst with
   |none=>rw[b] at a;exact a
   |some d=>rw[b] at a;exact KN (λx M=>(IH (o:=o2) (opsA:=opsA) (d:=some d) (λN e=>by cases e;exact C d b) x (HV u M)).symm) (a2 d b) a
  exact yi (λr F A t=>back _ _ A t) L
 ·grind[kn,FI,tv,QK.refl]
def Nn(D:o1.apart opsA o2=true)(N:fQ E opsA.toList o2=.val\/(∃r,fQ E opsA.toList o2=.load r)/\GL o1=true/\soft1=true/\soft2=true)(n:kj E o1=true)(A:kj E o2=false)(h:hS P T E opsA q soft1 o1 (λfr H=>hS P T E opsA q soft2 o2 K fr H) fr H):hS P T E opsA q soft2 o2 (λfr H=>hS P T E opsA q soft1 o1 K fr H) fr H:=by
 obtain⟨F,a2,a3⟩:=Oper.apart_spec D;obtain⟨c,d1,C,_,O⟩:=Ba n;have s:fQ E opsA.toList o2=.val\/∃r,fQ E opsA.toList o2=.load r:=N.imp id λh=>h.1
 have inv:∀{r:AV} {y:dT} {t:Fr->dT->Prop},(Xq c=true->soft1=true->QK q H y)->hS P T E opsA q soft2 o2 t (fr.put o1.dst r) y->∃v,(hJ opsA o2 fr=some true/\nA P T E opsA.toList q soft2 fr H o2=some v\/hJ opsA o2 fr=some false/\v=.tuple [])/\t ((fr.put o1.dst r).put o2.dst v) y:=by
  intro r y t G Q;rcases lT Q with⟨a,b⟩|⟨a,b⟩
  ·rw[Bv A s] at b;obtain⟨f1,H1,I,i⟩:=sX b;obtain⟨v,j,J,R⟩:=xI s I;rw[J,R] at i;exact⟨v,.inl ⟨by rw[<-kn (o:=o2) F];exact a,by rw[aam N C F G (.inr j)];exact j⟩,i⟩
  ·exact⟨_,.inr ⟨by rw[<-kn (o:=o2) F];exact a,rfl⟩,b⟩
 have fwd:∀{v:AV} {t:Fr->dT->Prop},(hJ opsA o2 fr=some true/\nA P T E opsA.toList q soft2 fr H o2=some v\/hJ opsA o2 fr=some false/\v=.tuple [])->t (fr.put o2.dst v) H->hS P T E opsA q soft2 o2 t fr H:=by
  intro v t j k;rcases j with⟨a,j⟩|⟨a,rfl⟩
  ·refine sb a ?_;rw[Bv A s];exact vF (Bq j) k
  ·exact tv a k
 have uniq:∀{v w:AV},(hJ opsA o2 fr=some true/\nA P T E opsA.toList q soft2 fr H o2=some v\/hJ opsA o2 fr=some false/\v=.tuple [])->(hJ opsA o2 fr=some true/\nA P T E opsA.toList q soft2 fr H o2=some w\/hJ opsA o2 fr=some false/\w=.tuple [])->v=w:=by
  intro v w b i;rcases b with⟨g1,b⟩|⟨g1,rfl⟩<;>rcases i with⟨g2,i⟩|⟨g2,rfl⟩
  ·rw[b] at i;exact lE i
  ·rw[g1] at g2;cases g2
  ·rw[g1] at g2;cases g2
  ·rfl
 rcases lT h with⟨u,b⟩|⟨u,b⟩
 ·rw[qa n C] at b;obtain⟨W,X,L,M⟩:=VC b;obtain⟨v,j,_⟩:=inv L M;refine fwd j (sb (by rw[kn a3,u]) ?_);rw[qa n C]
  have i:nJ P T q soft1 c o1.dst (λf h=>K (f.put o2.dst v) h) fr H:=yi (λr y G k=>by
   obtain⟨w,hw,k⟩:=inv G k;rw[uniq j hw]
   exact k) b
  cases l:o2.dst with
  |none=>rw[l] at i;exact i
  |some d=>
   rw[l] at i;have B:o1.dst≠some d:=λe=>a2 d e l
   have S:nJ P T q soft1 c o1.dst (λf h=>K (f.put (some d) v) h) ((fr.put (some d) v).put (some d) (fr.env d)) H:=by
    rw[Hh,Dt];exact i
   have U:=KN (λx V=>(by
    have:=IH (o:=o1) (opsA:=opsA) (T:=T) (fr:=fr.put (some d) v) (d:=some d) (v:=fr.env d) (λY e=>by cases e;exact a3 d l) x (HV C V)
    exact this.symm)) B S
   refine yi (λr y _ k=>?_) U
   have J:(((fr.put (some d) v).put o1.dst r).put (some d) (fr.env d)).put (some d) v=(fr.put (some d) v).put o1.dst r:=by
    rw[Hh];have hs:=Dt ((fr.put (some d) v).put o1.dst r) d
    have he:((fr.put (some d) v).put o1.dst r).env d=v:=by
     rw[Fr.tG,dI B,Fr.tG,dO rfl]
    rw[he] at hs;exact hs
   rw[J] at k;exact k
 ·obtain⟨v,j,k⟩:=inv (λ_ _=>QK.refl) b;refine fwd j (tv (by rw[kn a3,u]) ?_);rw[<-FI a2];exact k
def WL(d:Nat)(b:Bool)(z:List AV)(fr:Fr):Fr:=if b then kH fr d z else fr.put (some d) (.tuple [])
theorem QC{d t:Nat}{b:Bool}{z:List AV}(h:t≠d):(WL d b z fr).env t=fr.env t:=by
 unfold WL
 split
 ·show gz fr.env d _ t=_
  grind[gz]
 ·grind[Fr.tG]
theorem G8{d:Nat}{b:Bool}{z:List AV}{a:Option Nat}(h:a≠some d)(v:AV):(WL d b z fr).put a v=WL d b z (fr.put a v):=by grind[WL,zR,FI]
theorem yU{t:TypeId}{d:Nat}(a:o.op=.alloc t)(c:o.dst=some d)(i:E.contains d=false):hS P T E opsA q soft o K fr H↔∃b z,hJ opsA o fr=some b/\(b=true->j0 P t=some z)/\K (WL d b z fr) H:=by
 have hn:kj E o=false:=by unfold kj;rw[a]
 have hs:qM P T E opsA.toList q soft o K fr H=(match j0 P t with|some z=>K (kH fr d z) H|none=>False):=by
  unfold qM zb;rw[hn,a];simp only[re,lG];unfold g_;rw[a];simp only;cases j0 P t with
  |none=>rfl|some z=>
   simp only;unfold kT;rw[c];simp only;rw[dI (by rw[i];decide)];refine propext ⟨λh=>h.2,λh=>⟨λ_=>?_,h⟩⟩;show E.contains d=false;exact i
 constructor
 ·intro h;rcases lT h with⟨hg,h⟩|⟨hg,h⟩
  ·rw[hs] at h
   split at h
   ·rename_i z f;exact⟨true,z,hg,λ_=>f,h⟩
   ·exact h.elim
  ·rw[c] at h;exact⟨false,[],hg,(λe=>by cases e),h⟩
 ·rintro⟨b,z,hg,f,h⟩;cases b with
  |true=>
   refine sb hg ?_;rw[hs,f rfl];exact h
  |false=>
   refine tv hg ?_;rw[c];exact h
def ae_{d:Nat}{b:Bool}{z:List AV}(a:d∉o.looksAt opsA):∀x∈o.op.operands,ev T (WL d b z fr) x=ev T fr x:=by grind[DS,QC,H5]
theorem Eo{d:Nat}{b:Bool}{z:List AV}(a:d∉o.looksAt opsA):hJ opsA o (WL d b z fr)=hJ opsA o fr:=by grind[yI,QC]
def NJ(h:GL o=true):∃c f,o.op=.call c/\c.callee=.value f:=by grind[GL,Xq]
def U0{c:Call}{f:Operand}{d:Nat}{b:Bool}{z:List AV}(h:o.op=.call c)(i:c.callee=.value f)(j:d∉o.looksAt opsA):ev T (WL d b z fr) f=ev T fr f/\(c.args.toList.map λx=>(ev T (WL d b z fr) x).norm)=c.args.toList.map λx=>(ev T fr x).norm:=by
 have he:=λx a=>ae_ (T:=T) (fr:=fr) (b:=b) (z:=z) j x a;refine⟨he f (HV h (by unfold Call.operands;rw[i];simp)),uU λx a=>?_⟩
 grind[Sv]
def Nh(k:o1.apart opsA o2=true)(l:KU E o1=true)(n:GL o2=true)(o:kj E o2=true)(h:hS P T E opsA q soft1 o1 (λfr H=>hS P T E opsA q soft2 o2 K fr H) fr H):hS P T E opsA q soft2 o2 (λfr H=>hS P T E opsA q soft1 o1 K fr H) fr H:=by
 obtain⟨u,a2,a3⟩:=Oper.apart_spec k;obtain⟨t,d,v,j,w⟩:=KA l;obtain⟨c,f,x,y⟩:=NJ n;have s:o2.dst≠some d:=a2 d j;obtain⟨b,z,hg,D,h⟩:=(yU v j w).1 h;rcases lT h with⟨a,i⟩|⟨a,i⟩
 ·rw[Eo (u d j)] at a;refine sb a ?_;rw[qa o x] at i|-;unfold nJ at i|-;rw[y] at i|-;simp only at i|-;obtain⟨F,G⟩:=U0 (T:=T) (fr:=fr) (b:=b) (z:=z) x y (u d j);rw[F,G] at i;obtain⟨Post,I,J,A⟩:=i;refine⟨Post,I,J,λr B C=>⟨(A r B C).1,(yU v j w).2 ⟨b,z,by rw[kn a3,hg],D,?_⟩⟩⟩;rw[<-G8 s];exact(A r B C).2
 ·grind[Eo,tv,yU,kn,G8]
def Ot(n:o1.apart opsA o2=true)(o:GL o1=true)(s:KU E o2=true)(j:kj E o1=true)(h:hS P T E opsA q soft1 o1 (λfr H=>hS P T E opsA q soft2 o2 K fr H) fr H):hS P T E opsA q soft2 o2 (λfr H=>hS P T E opsA q soft1 o1 K fr H) fr H:=by
 obtain⟨C,a2,a3⟩:=Oper.apart_spec n;obtain⟨t,d,u,a,v⟩:=KA s;obtain⟨c,f,w,x⟩:=NJ o;have y:o1.dst≠some d:=λe=>a2 d e a;rcases lT h with⟨k,i⟩|⟨k,i⟩
 ·rw[qa j w] at i;unfold nJ at i;rw[x] at i;simp only at i;obtain⟨Post,N,⟨D,F,G⟩,A⟩:=i;obtain⟨b,z,hg,I,_⟩:=(yU u a v).1 (A D F G).2;rw[kn C] at hg;refine(yU u a v).2 ⟨b,z,hg,I,sb (by rw[Eo (a3 d a),k]) ?_⟩;rw[qa j w];unfold nJ;rw[x];simp only;obtain⟨O,Q⟩:=U0 (T:=T) (fr:=fr) (b:=b) (z:=z) w x (a3 d a);rw[O,Q];refine⟨Post,N,⟨D,F,G⟩,λr J L=>⟨(A r J L).1,?_⟩⟩;obtain⟨R,S,l,B,M⟩:=(yU u a v).1 (A r J L).2;rw[kn C,hg] at l;obtain rfl:b=R:=lE l;rw[G8 y];cases b with
  |true=>
   obtain rfl:z=S:=lE (by rw[<-I rfl,<-B rfl]);exact M
  |false=>exact M
 ·grind[yU,kn,tv,Eo,G8]
def ae1{t:TypeId}{a off:Nat}{v:AV}:lQ P t (.eT a off) v K fr H↔∃agg n cs,fP P t=some (agg,n)/\H[a]?=some cs/\(uE cs=true/\v.cells.length=n/\off+n<=cs.length/\fj v=true)/\K fr (H.set a (setCells cs off v.norm.cells)):=by grind[lQ]
theorem F4{s:Nat}(h:oV o=some s):∃t y,o.op=.store t (.tmp s) y:=by grind[oV]
def Za{s:Nat}(h:oV o=some s):kj E o=false:=by grind[F4,kj]
def sS{ops:List Oper}{s:Nat}(l:E.contains 999999=true)(hs:oV o=some s):qM P T E ops q soft o K fr H↔
  ∃t y a off agg n cs,o.op=.store t (.tmp s) y/\o.dst=none/\ev T fr (.tmp s)=.eT a off/\q.cl a=s/\qV ops (.tmp s) (.eT a off)=true/\soft=false/\fP P t=some (agg,n)/\H[a]?=some cs/\(uE cs=true/\(ev T fr y).cells.length=n/\off+n<=cs.length/\fj (ev T fr y)=true)/\K fr (H.set a (setCells cs off (ev T fr y).norm.cells)):=by
 obtain⟨t,y,r⟩:=F4 hs;rw[oL (Za hs)];unfold Ff SV g_;rw[r];simp only;constructor
 ·rintro⟨u,h,d,f,k⟩;obtain⟨a,off,A,c,i,j⟩:=u l;injection i with i;subst i;rw[c] at d f k;obtain⟨agg,n,cs,g1,g2,g3,g4⟩:=ae1.1 k;refine⟨t,y,a,off,agg,n,cs,rfl,h,c,j,d,?_,g1,g2,g3,g4⟩;cases b:soft with
  |false=>rfl|true=>have:=f b;simp[isL] at this
 ·rintro⟨B,C,a,off,agg,n,cs,v,h,c,j,d,f,g1,g2,g3,g4⟩;injection v with w D x;subst w;subst x;refine⟨λ_=>⟨a,off,s,c,rfl,j⟩,h,by rw[c];exact d,λb=>?_,?_⟩
  ·rw[f] at b;cases b
  ·rw[c];exact ae1.2 ⟨agg,n,cs,g1,g2,g3,g4⟩
def NH{s1 s2:Nat}(k:E.contains 999999=true)(l:oV o1=some s1)(f:oV o2=some s2)(u:s1≠s2)(h:hS P T E opsA q soft1 o1 (λfr H=>hS P T E opsA q soft2 o2 K fr H) fr H)(w:o1.dst=none)(x:o2.dst=none):hS P T E opsA q soft2 o2 (λfr H=>hS P T E opsA q soft1 o1 K fr H) fr H:=by
 have F:∀v,fr.put o1.dst v=fr:=λv=>by rw[w];rfl
 have R:∀v,fr.put o2.dst v=fr:=λv=>by rw[x];rfl
 rcases lT h with⟨i,s⟩|⟨i,s⟩
 ·obtain⟨t,y,A,off,agg,n,cs,G,I,J,B,L,M,N,O,Q,s⟩:=(sS k l).1 s;rcases lT s with⟨a,b⟩|⟨a,b⟩
  ·obtain⟨C,D,j,c,d,n',o,f0,f1,f2,f3,f4,f5,f6,f7,f8,b⟩:=(sS k f).1 b
   have r:A≠j:=by rintro rfl;exact u (B.symm.trans f3)
   rw[V3 r] at f7;refine sb a ((sS k f).2 ⟨C,D,j,c,d,n',o,f0,f1,f2,f3,f4,f5,f6,f7,f8,?_⟩);refine sb i ((sS k l).2 ⟨t,y,A,off,agg,n,cs,G,I,J,B,L,M,N,?_,Q,?_⟩)
   ·rw[V3 (λe=>r e.symm)];exact O
   ·rw[List.set_comm _ _ (λe=>r e.symm)];exact b
  ·refine tv a ?_;rw[R] at b|-;exact sb i ((sS k l).2 ⟨t,y,A,off,agg,n,cs,G,I,J,B,L,M,N,O,Q,b⟩)
 ·rw[F] at s;rcases lT s with⟨a,b⟩|⟨a,b⟩
  ·obtain⟨C,D,j,c,d,n',o,f0,f1,f2,f3,f4,f5,f6,f7,f8,b⟩:=(sS k f).1 b;exact sb a ((sS k f).2 ⟨C,D,j,c,d,n',o,f0,f1,f2,f3,f4,f5,f6,f7,f8,tv i (by rw[F];exact b)⟩)
  ·grind[tv,hS]
theorem P7(c:Zu E opsA soft1 soft2 o1 o2=true)(h:hS P T E opsA q soft1 o1 (λfr H=>hS P T E opsA q soft2 o2 K fr H) fr H):hS P T E opsA q soft2 o2 (λfr H=>hS P T E opsA q soft1 o1 K fr H) fr H:=by
 unfold Zu at c
 by_cases hG:(kj E o1||kj E o2)=true
 ·rw[dO hG] at c;simp only[gG,sA,aci] at c;obtain⟨b,⟨⟨g1,g2⟩,g3⟩|⟨⟨g1,g2⟩,g3⟩⟩:=c
  ·rcases N5 g3 with g3|⟨g3,g4⟩
   ·exact Nn b g3 g1 g2 h
   ·exact Ot b g3 g4 g1 h
  ·rcases N5 g3 with g3|⟨g3,g4⟩
   ·exact NF b g3 g2 g1 h
   ·exact Nh b g4 g3 g1 h
 rw[dI hG] at c
 by_cases M:(E.contains 999999&&(oV o1).isSome&&(oV o2).isSome&&oV o1 !=oV o2&&o1.dst==none&&o2.dst==none)=true
 ·simp only[gG,Option.isSome_iff_exists,bne_iff_ne,ne_eq,ac5] at M;obtain⟨⟨⟨⟨⟨V,s1,o⟩,s2,s⟩,N⟩,w⟩,y⟩:=M;exact NH V o s (by rintro rfl;exact N (by rw[o,s])) h w y
 rw[dI M] at c
 have A:kj E o1=false:=by cases W:kj E o1<;>simp_all
 have B:kj E o2=false:=by cases W:kj E o2<;>simp_all
 unfold aaR at c;simp only[gG] at c;obtain⟨⟨b,D⟩,a⟩:=c;obtain⟨F,a2,a3⟩:=Oper.apart_spec b
 have o:∀r,fQ E opsA.toList o1=.load r->(fQ E opsA.toList o2=.BC->soft1=true/\soft2=true)/\(∀G,fQ E opsA.toList o2=.KY G->soft2=true):=by
  intro r O;rw[O] at a;refine⟨λhe=>?_,λG he=>?_⟩<;>rw[he] at a
  ·simpa using a
  ·exact a
 have s:∀r,fQ E opsA.toList o2=.load r->(fQ E opsA.toList o1=.BC->soft2=true/\soft1=true)/\(∀G,fQ E opsA.toList o1=.KY G->soft1=true):=by
  intro r O;rw[O] at a;refine⟨λhe=>?_,λG he=>?_⟩<;>rw[he] at a
  ·have:soft1=true/\soft2=true:=by simpa using a
   exact⟨this.2,this.1⟩
  ·exact a
 unfold hS at h;simp only[oL A,oL B] at h
 split at h
 ·--Q first one is carried out
  rename_i j;obtain⟨v,h⟩:=h;obtain⟨f1,H1,t,h⟩:=sX h;have I:=p3 t;have C:hJ opsA o2 f1=hJ opsA o2 fr:=Db I F;rw[C] at h;unfold hS;simp only[oL A,oL B]
  split at h
  ·rename_i k;obtain⟨l,h⟩:=h;obtain⟨f2,H2,i,R⟩:=sX h;obtain⟨f,X,n,J⟩:=SB b D o s t i;refine⟨yP (λx c=>(Ev (T:=T) (opsA:=opsA) I F x c).symm) l,vF n ?_⟩;have:hJ opsA o1 f=hJ opsA o1 fr:=Db (p3 n) a3;rw[this,j];exact⟨yP (Ev (T:=T) (opsA:=opsA) (p3 n) a3) v,vF J R⟩
  ·rename_i k
   show match hJ opsA o1 (fr.put o2.dst (.tuple []))with
    |some true=>Ff T E q (fr.put o2.dst (.tuple [])) o1/\g_ P T E opsA.toList q soft1 o1 K (fr.put o2.dst (.tuple [])) H|some false=>K ((fr.put o2.dst (.tuple [])).put o1.dst (.tuple [])) H|none=>False
   rw[kn a3,j];simp only;refine⟨yP (IH a3) v,?_⟩;cases u:o2.dst with
   |none=>rw[u] at h;exact vF t h
   |some d=>rw[u] at h;exact vF (MC (opsA:=opsA) _ (a3 d u) (λe=>a2 d e u) t) h
  ·exact h.elim
 ·--Q first one is left out
  rename_i j;have C:hJ opsA o2 (fr.put o1.dst (.tuple []))=hJ opsA o2 fr:=kn F;rw[C] at h;unfold hS;simp only[oL A,oL B]
  split at h
  ·rename_i k;obtain⟨l,h⟩:=h;obtain⟨f2,H2,i,R⟩:=sX h
   have S:∃f,nW P T E opsA.toList q soft2 o2 fr H f H2/\f.put o1.dst (.tuple [])=f2:=by
    cases u:o1.dst with
    |none=>rw[u] at i;exact⟨f2,i,rfl⟩
    |some d=>rw[u] at i;exact H9 (opsA:=opsA) (F d u) (a2 d u) i
   obtain⟨f,L,U⟩:=S;refine⟨yP (λx c=>(IH F x c).symm) l,vF L ?_⟩;have:hJ opsA o1 f=hJ opsA o1 fr:=Db (p3 L) a3;rw[this,j];show K (f.put o1.dst (.tuple [])) H2;rw[U];exact R
  ·rename_i k
   show match hJ opsA o1 (fr.put o2.dst (.tuple []))with
    |some true=>Ff T E q (fr.put o2.dst (.tuple [])) o1/\g_ P T E opsA.toList q soft1 o1 K (fr.put o2.dst (.tuple [])) H|some false=>K ((fr.put o2.dst (.tuple [])).put o1.dst (.tuple [])) H|none=>False
   rw[kn a3,j];simp only
   have:(fr.put o2.dst (.tuple [])).put o1.dst (.tuple [])=(fr.put o1.dst (.tuple [])).put o2.dst (.tuple []):=by
    cases w:o1.dst with
    |none=>rfl|some d1=>
     cases y:o2.dst with
     |none=>rfl|some d2=>exact nc fr (λe=>a2 d1 w (by rw[y,e])) _ _
   rw[this];exact h
  ·exact h.elim
 ·exact h.elim
def Pd{sf:Nat->Bool}{i:Nat}(hi:opsA[i]?=some o)(post:List Nat):∀(pre:List Nat) (fr:Fr) (H:dT),(∀j∈pre,∀a,opsA[j]?=some a->Zu E opsA (sf j) (sf i) a o=true)->Le P T E opsA q sf (pre++i::post) K fr H->hS P T E opsA q (sf i) o (λfr H=>Le P T E opsA q sf (pre++post) K fr H) fr H:=by
 intro pre
 induction pre with
 |nil=>grind[Le]|cons j pre ih=>
  intro fr H hex h;simp only[List.cons_append,Le] at h|-
  split at h
  all_goals grind[HA,P7]
end
def yc(opsA:Array Oper):Bool:=opsA.toList.zipIdx.all λ(o,i)=>o.after.all λe=>!Region.binds .any e||decide (e.on<i)
def Ls(opsA:Array Oper)(M:Array Nat):Bool:=
 (List.range opsA.size).all λi=>(List.range opsA.size).all λj=>!(M.getD i 0).testBit j||
  (opsA.getD i default).after.toList.any λe=>Region.binds .any e&&(e.on==j||(M.getD e.on 0).testBit j)
def A4(E:List Nat)(opsA:Array Oper)(sf:Nat->Bool):Bool:=
 let M:=Region.before opsA
 yc opsA&&Ls opsA M&&
 (List.range opsA.size).all λi=>(List.range i).all λj=>(M.getD i 0).testBit j||Zu E opsA (sf j) (sf i) (opsA.getD j default) (opsA.getD i default)
section
variable{P:Program} {T:eH} {E:List Nat} {opsA:Array Oper} {q:Qt} {sf:Nat->Bool} {K:Fr->dT->Prop}
def vU(opsA:Array Oper)(listed:Array Bool):List Nat:=(List.range opsA.size).filter λi=>!listed.getD i true
def Rk{listed:Array Bool}{i:Nat}:i∈vU opsA listed↔i<opsA.size/\listed.getD i true=false:=by
 simp[vU]
def VI(M:Array Nat)(opsA:Array Oper)(listed:Array Bool):Prop:=∀i j,i<opsA.size->j<opsA.size->listed.getD i false=true->(M.getD i 0).testBit j=true->listed.getD j false=true
def B3{listed:Array Bool}{i:Nat}(d:Bool)(h:i<listed.size):(listed.setIfInBounds i true).getD i d=true:=by
 simp[h]
def Mb{opsA:Array Oper}(a:yc opsA=true){listed:Array Bool}(d:listed.size=opsA.size){i:Nat}(hi:i<opsA.size)(f:listed.getD i true=false)
  (c:∀j,j<i->listed.getD j false=true):i∈Region.ready .any opsA listed:=by
 rw[mem_ready];unfold yc at a;rw[kE] at a
 have b:(opsA[i],i)∈opsA.toList.zipIdx:=by grind
 have:=a _ b;simp only[JH] at this
 grind
def Gw{opsA:Array Oper}{M:Array Nat}(d:Ls opsA M=true)(a:yc opsA=true){listed:Array Bool}(f:VI M opsA listed){i:Nat}(s:i∈Region.ready .any opsA listed){j:Nat}(n:j<opsA.size)
  (t:(M.getD i 0).testBit j=true):listed.getD j false=true:=by
 obtain⟨u,o,q,b⟩:=mem_ready.1 s;have hi:i<opsA.size:=(R0.1 q).1;unfold Ls at d;rw[kE] at d;have:=d i (by simpa using hi);rw[kE] at this;have:=this j (by simpa using n);rw[t] at this;simp only[acG,Ut,List.any_eq_true,yf,gG,sA,ac5] at this;obtain⟨e,he,h,hor⟩:=this
 have k:opsA.getD i default=o:=by rw[M4,q];rfl
 rw[k] at he;have r:=b e he h;rcases hor with rfl|hor
 ·exact r
 ·have l:e.on<opsA.size:=by
   unfold yc at a;rw[kE] at a
   have c:(o,i)∈opsA.toList.zipIdx:=by grind
   have:=a _ c;simp only[JH] at this
   grind
  exact f e.on j l n r hor
def Sc{listed:Array Bool}(d:listed.size=opsA.size){i:Nat}(hi:i<opsA.size)(a:listed.getD i true=false):∃pre post,vU opsA listed=pre++i::post/\vU opsA (listed.setIfInBounds i true)=pre++post/\∀j∈pre,j<i/\listed.getD j true=false:=by
 have c:List.range opsA.size=List.range i++i::(List.range' (i+1) (opsA.size-i-1)):=by
  rw[XW,XW]
  have:opsA.size=i+(1+(opsA.size-i-1)):=VW
  conv=>lhs;rw[this]
  rw[<-List.range'_append_1]
  congr 1
  rw[show 1+(opsA.size-i-1)=(opsA.size-i-1)+1 by omega,ab6];simp
 refine⟨(List.range i).filter (λj=>!listed.getD j true),(List.range' (i+1) (opsA.size-i-1)).filter (λj=>!listed.getD j true),?_,?_,?_⟩
 ·unfold vU;rw[c,afC,List.filter_cons_of_pos (by simp[a])]
 ·unfold vU;rw[c,afC,List.filter_cons_of_neg (by rw[B3 _ VW];simp)]
  congr 1
  ·refine aeK λj b=>?_
   have:j<i:=by simpa using b
   rw[getD_set_ne true VW]
  ·refine aeK λj b=>?_;have:=(List.mem_range'_1.1 b).1;rw[getD_set_ne true VW]
 ·grind
variable{n:Nat} {G0:Nat->Nat} {F0:kD} {n0:Nat} {w0:World}
def zj{listed:Array Bool}{i:Nat}(hi:i<listed.size):listed.getD i false=listed.getD i true:=by grind
def VU{Q:Exit->Act->World->Prop}(t:A4 E opsA sf=true)(B:AE n opsA=true)(V:∀fr' H' L w',K fr' H'->SR T n G0 F0 n0 w0 fr' H' L w'->Q .normal L w'):∀(fuel:Nat) (listed:Array Bool) (fr:Fr) (H:dT) (a:Act) (w:World),listed.size=opsA.size->VI (Region.before opsA) opsA listed->(vU opsA listed).length<=fuel->SR T n G0 F0 n0 w0 fr H a w->Le P T E opsA q sf (vU opsA listed) K fr H->wpAny P .any opsA Q fuel listed a w:=by
 unfold A4 at t;simp only[gG] at t;obtain⟨⟨c,W⟩,d⟩:=t
 have u:∀{listed:Array Bool},listed.size=opsA.size->Region.ready .any opsA listed=[]->vU opsA listed=[]:=by
  intro listed f C;cases b:vU opsA listed with
  |nil=>rfl|cons i rest=>
   exfalso
   have s:i∈vU opsA listed:=by rw[b];simp
   have hex:∃k,k<opsA.size/\listed.getD k true=false:=⟨i,Rk.1 s⟩
   obtain⟨k,⟨M,N⟩,D⟩:∃k,(k<opsA.size/\listed.getD k true=false)/\∀j,j<k->¬(j<opsA.size/\listed.getD j true=false):=by
    clear b s;obtain⟨k,hk⟩:=hex
    induction k using Nat.strongRecOn with
    |_ k ih=>
     by_cases h:∃j,j<k/\(j<opsA.size/\listed.getD j true=false)
     ·obtain⟨j,v,x⟩:=h;exact ih j v x
     ·exact⟨k,hk,λj F hc=>h ⟨j,F,hc⟩⟩
   have:=Mb c f M N λj F=>by
    have hn:=D j F
    have O:j<opsA.size:=VW
    rw[zj VW];cases hb:listed.getD j true with
    |true=>rfl|false=>exact absurd ⟨O,hb⟩ hn
   rw[C] at this;cases this
 intro fuel
 induction fuel with
 |zero=>
  intro listed fr H a w f l hlen hs h;have b:vU opsA listed=[]:=BD VW;rw[b] at h;refine⟨?_,V _ _ _ _ h hs⟩;cases C:Region.ready .any opsA listed with
  |nil=>rfl|cons i rest=>
   have hm:i∈Region.ready .any opsA listed:=by rw[C];simp
   obtain⟨y,o,A,_⟩:=mem_ready.1 hm;have:i∈vU opsA listed:=Rk.2 ⟨(R0.1 A).1,y⟩;rw[b] at this;cases this
 |succ fuel ih=>
  intro listed fr H a w f l hlen hs h;refine⟨λC=>?_,λi hi=>?_⟩
  ·rw[u f C] at h;exact V _ _ _ _ h hs
  ·obtain⟨y,o,A,X⟩:=mem_ready.1 hi;have G:i<opsA.size:=(R0.1 A).1;obtain⟨pre,post,Y,Z,h3⟩:=Sc f G y;rw[Y] at h
   have r:=Pd (P:=P) (T:=T) (E:=E) (opsA:=opsA) (q:=q) (K:=K) (sf:=sf) A post pre fr H (by
    intro j F oj R;obtain⟨v,x⟩:=h3 j F;rw[kE] at d;have:=d i (by simpa using G);rw[kE] at this;have:=this j (by simpa using v);simp only[sA] at this
    have e1:opsA.getD j default=oj:=by rw[M4,R];rfl
    have e2:opsA.getD i default=o:=by rw[M4,A];rfl
    rw[e1,e2] at this;rcases this with hb|hb
    ·have:=Gw W c l hi VW hb;rw[zj VW,x] at this;cases this
    ·exact hb) h
   have S:r8 n o=true:=JH.1 B o (XN A);refine Gh A S hs (Oj r) ?_;intro fr' H' L w' hK U;refine ih (listed.setIfInBounds i true) fr' H' L w' (by simpa using f) ?_ ?_ U (by rw[Z];exact hK)
   ·--still closed
    intro i' j' hi' I hl hb
    by_cases he:j'=i
    ·subst he;exact B3 _ VW
    ·rw[getD_set_ne false (λe=>he e.symm)]
     by_cases J:i'=i
     ·subst J;exact Gw W c l hi I hb
     ·rw[getD_set_ne false (λe=>J e.symm)] at hl;exact l i' j' hi' I hl hb
   ·rw[Y] at hlen;rw[Z];simp only[qt,pM] at hlen|-;omega
end
section
variable{P:Program} {T:eH} {n:Nat} {Q:Exit->Fr->dT->Prop} {fr:Fr} {H:dT}
def SR.drew{G0:Nat->Nat}{F0:kD}{n0:Nat}{w0:World}{a:Act}{w:World}(hs:SR T n G0 F0 n0 w0 fr H a w):SR T n G0 F0 n0 w0 fr H a w.drew:=by
 obtain⟨ρ,F,R,hw,b⟩:=hs;exact⟨ρ,F,R,hw.drew,b.drew⟩
def hQ.VD{id:Nat}{ops:Array Oper}(E:List Nat)(q:Qt)(sf:Nat->Bool)(hm:P.follows .mixedOrders=true)(c:AE n ops=true)(d:A4 E ops sf=true)
  (h:Le P T E ops q sf (List.range ops.size) (Q .normal) fr H):hQ P T n (.region id ops true) Q fr H:=by
 intro G0 F0 n0 w0 a w hs;refine wp_region_any hm ?_
 have b:vU ops (Array.replicate ops.size false)=List.range ops.size:=by
  unfold vU
  simp_all
 have:=VU (Q:=λe f w'=>∃fr' H',Q e fr' H'/\SR T n G0 F0 n0 w0 fr' H' f w') d c (λfr' H' f w' k l=>⟨fr',H',k,l⟩) ops.size (Array.replicate ops.size false) fr H a w.drew aaF
  (by intro i j hi r o;simp[hi] at o) (by rw[b];simp) hs.drew (by rw[b];exact h)
 exact this
end
end Go.kY
namespace Go.kY
open Go
section
variable{P:Program} {T:eH} {n:Nat} {Q:Exit->Fr->dT->Prop} {fr:Fr} {H:dT}
def hQ.C9{x y:Code}(h:∀K:Fr->dT->Prop,(∀fr H,hQ P T n y Q fr H->K fr H)->hQ P T n x (ID K Q) fr H):hQ P T n (.seq x y) Q fr H:=
 hQ.seq (h _ λ_ _ h=>h)
def hQ.Fs{id:Nat}{c:Code}(h:∀Q':Exit->Fr->dT->Prop,(∀fr H,Q .normal fr H->Q' .normal fr H)->(∀fr H,Q .normal fr H->Q' (.exit id) fr H)->(∀a fr H,a≠id->Q (.exit a) fr H->Q' (.exit a) fr H)->(∀fr H,Q .ret fr H->Q' .ret fr H)->hQ P T n c Q' fr H):hQ P T n (.block id c) Q fr H:=by
 refine hQ.block (h (Jo id Q) (λ_ _ h=>h) (λ_ _ h=>?_) (λa _ _ b h=>?_) (λ_ _ h=>h))
 ·simp only[Jo,if_true];exact h
 ·simp only[Jo,dI b];exact h
end
@[simp] theorem YM(K:Fr->dT->Prop)(Q:Exit->Fr->dT->Prop):ID K Q .normal=K:=rfl
end Go.kY
