/- Part of the proof of TheoryNeeds: layer. -/
import Derived.Test.YtjgjcpnoaeljkaaGreatDoorNL7
set_option linter.all false
namespace Go.kC
open Go
theorem zf{α:Type}(f:Nat->α){i j:Nat}(h:i≠j)(x y:α):fO (fO f i x) j y=fO (fO f j y) i x:=by grind[fO]
def jW(fr:Fr)(d:Nat)(cs:List AV):Fr:=
 {fr with env:=fO fr.env d (.gx d (fr.gen d+1) 0),box:=fO fr.box d (some cs),gen:=fO fr.gen d (fr.gen d+1)}
def yr(P:Program)(T:dt)(fr:Fr)(o:Oper):Option (List AV):=
 match o.op with
 |.alloc t=>hO P t|.box _ x=>if eo (ev T fr x) then some (ev T fr x).cells else none|_=>none
inductive lO where
 |grow (tag:Tag) (l m:List AV)|same (l:List AV)
def lO.fr(fr:Fr)(d:Nat):lO->Fr
 |.grow tag l m=>grown fr d tag l m|.same l=>fr.put (some d) (.slice .iw l)
def Mc(P:Program)(T:dt)(fr:Fr)(c:Call)(x:lO):Prop:=
 ∃s y t e sz tag a l m,c.args.toList=[s,y]/\c.argTypes.toList=[t,t]/\mK P t=some (e,sz)/\ev T fr s=.slice tag l/\ev T fr y=.slice a m/\kA sz l=true/\kA sz m=true/\l.length+m.length<=jn/\(ot fr tag l=true/\x=.grow tag l m\/ot fr tag l=false/\m=[]/\x=.same l)
section
variable{P:Program} {T:dt} {E:List Nat} {ops:List Oper} {opsA:Array Oper} {q:Qt} {soft soft1 soft2:Bool} {o o1 o2:Oper} {K:Fr->cZ->Prop} {fr fr1 fr2 fr':Fr} {H H1 H2 H':cZ}
def XK{c:Call}{dst:Option Nat}(h:l9 P T c dst (λf h=>f=fr'/\h=H') fr H):∃d x,dst=some d/\Mc P T fr c x/\fr'=x.fr fr d/\H'=H:=by
 unfold l9 at h
 split at h
 .rename_i d s y t k a b
  split at h
  .rename_i e sz tag l i m n o q;obtain⟨rfl,g2,g3,g4,g5⟩:=h
   split at g5
   .rename_i j;exact⟨d,.grow tag l m,rfl,⟨s,y,k,e,sz,tag,i,l,m,a,b,n,o,q,g2,g3,g4,.inl ⟨j,rfl⟩⟩,g5.1.symm,g5.2.symm⟩
   .rename_i j;exact⟨d,.same l,rfl,⟨s,y,k,e,sz,tag,i,l,m,a,b,n,o,q,g2,g3,g4,.inr ⟨by simpa using j,g5.1,rfl⟩⟩,g5.2.1.symm,g5.2.2.symm⟩
  .grind
 .exact h.elim
def ac2{c:Call}{d:Nat}{x:lO}(h:Mc P T fr c x)(b:K (x.fr fr d) H):l9 P T c (some d) K fr H:=by
 obtain⟨s,y,t,e,sz,tag,f,l,m,i,j,k,n,o,q,r,u,v⟩:=h;unfold l9;rw[i,j];simp only[k,n,o];refine⟨trivial,q,r,u,?_⟩;rcases v with⟨a,rfl⟩|⟨a,hm,rfl⟩
 .rw[cS a];exact b
 .rw[cO (by simp[a])];exact⟨hm,b⟩
def Mc.congr{c:Call}{x:lO}(f:Mc P T fr c x)(he:∀y∈c.args.toList,ev T fr y=ev T fr' y)(h:fr'.qd=fr.qd)(hg:fr'.eg=fr.eg):Mc P T fr' c x:=by
 obtain⟨s,y,t,e,sz,tag,a,l,m,b,i,j,k,n,o,q,r,u⟩:=f
 have d:ot fr' tag l=ot fr tag l:=by unfold ot;rw[h,hg]
 exact⟨s,y,t,e,sz,tag,a,l,m,b,i,j,by rw[<-he s (by rw[b];simp)];exact k,by rw[<-he y (by rw[b];simp)];exact n,o,q,r,by rw[d];exact u⟩
def wo(a:eV E ops o=.val\/∃r,eV E ops o=.load r)(h:nc P T E ops q soft o fr H fr' H'):∃v,ma P T E ops q soft fr H o=some v/\fr'=fr.put o.dst v/\H'=H:=by grind[nc,eV,fT]
def zq{v:AV}(h:ma P T E ops q soft fr H o=some v):nc P T E ops q soft o fr H (fr.put o.dst v) H:=by grind[nc,ma,fT]
def uw{d:Option Nat}(k:eV E ops o=.alloc d)(h:nc P T E ops q soft o fr H fr' H'):∃a cs,d=some a/\o.dst=some a/\E.contains a=false/\yr P T fr o=some cs/\fr'=jW fr a cs/\H'=H:=by
 unfold nc at h;obtain⟨dst,op,type,pos,after,guard⟩:=o
 have key:∀{cs:List AV} {a:Nat},dst=some a->E.contains a=false->j9 E dst cs (λf h=>f=fr'/\h=H') fr H->fr'=jW fr a cs/\H'=H:=by
  intro cs a l n i;subst l;unfold j9 at i;simp only at i;rw[cO (by simp only[n];simp)] at i;exact⟨i.1.symm,i.2.symm⟩
 have b:(∃t,op=.alloc t)\/(∃t x,op=.box t x)->∃a,d=some a/\dst=some a/\E.contains a=false:=by
  intro j
  have:(match dst with|some d=>if E.contains d then WL.Aa else .alloc (some d)|none=>.Aa)=.alloc d:=by
   rcases j with⟨t,rfl⟩|⟨t,x,rfl⟩<;>exact k
  grind
 cases op with
 |alloc t=>
  obtain⟨a,r,s,u⟩:=b (.inl ⟨t,rfl⟩)
  grind[fT,yr]
 |box t x=>
  obtain⟨a,r,s,u⟩:=b (.inr ⟨t,x,rfl⟩)
  grind[fT,yr]
 |call c=>grind[eV]|_=>simp[eV] at k
def vu{d:Nat}{cs:List AV}(a:o.dst=some d)(b:E.contains d=false)(h:yr P T fr o=some cs):nc P T E ops q soft o fr H (jW fr d cs) H:=by grind[nc,j9,jW,yr,fT]
def tl(h:∀x∈o.op.operands,ev T fr x=ev T fr' x):yr P T fr o=yr P T fr' o:=by
 obtain⟨dst,op,type,pos,after,guard⟩:=o;cases op with
 |box t x=>simp only[yr];rw[h x (by simp[Op.operands])]|_=>rfl
def BJ(u:eV E ops o=.Aa)(h:nc P T E ops q soft o fr H fr' H'):∃r,fr'=fr.put o.dst r/\(soft=true->QK q H H')/\∀f:Fr,(∀x∈o.op.operands,ev T fr x=ev T f x)->nc P T E ops q soft o f H (f.put o.dst r) H':=by
 unfold nc at h;obtain⟨dst,op,type,pos,after,guard⟩:=o
 have a:∀{cs:List AV},((∃t,op=.alloc t)\/(∃t x,op=.box t x))->j9 E dst cs (λf h=>f=fr'/\h=H') fr H->∃d,dst=some d/\E.contains d=true/\fr'=fr.put dst (.eb H.length 0)/\H'=H++[cs.map AV.ke]/\∀f:Fr,j9 E dst cs (λB h=>B=f.put dst (.eb H.length 0)/\h=H') f H:=by
  intro cs v i
  have hm:(match dst with|some d=>if E.contains d then WL.Aa else .alloc (some d)|none=>.Aa)=.Aa:=by
   rcases v with⟨t,rfl⟩|⟨t,x,rfl⟩<;>exact u
  unfold j9 at i
  split at i
  .rename_i d
   split at i
   .rename_i s;refine⟨d,rfl,s,i.1.symm,i.2.symm,λf=>?_⟩;unfold j9;simp only;rw[cS s];exact⟨rfl,i.2⟩
   .rename_i s;simp only[cO s] at hm;cases hm
  .exact i.elim
 cases op with
 |alloc t=>
  simp only[fT] at h
  split at h
  .rename_i z C;obtain⟨d,k,j,l,w,y⟩:=a (.inl ⟨t,rfl⟩) h.2;refine⟨_,l,?_,λf n=>?_⟩
   .intro hs;have:=h.1 hs;rw[k] at this;exact absurd this (by simp only[abI,j];simp)
   .unfold nc;simp only[fT,C];exact⟨h.1,y f⟩
  .exact h.elim
 |box t x=>
  simp only[fT] at h;obtain⟨d,k,j,l,w,y⟩:=a (.inr ⟨t,x,rfl⟩) h.2.2;refine⟨_,l,?_,λf n=>?_⟩
  .intro hs;have:=h.2.1 hs;rw[k] at this;exact absurd this (by simp only[abI,j];simp)
  .unfold nc;simp only[fT];have e:=n x (by simp[Op.operands]);refine⟨by rw[<-e];exact h.1,h.2.1,?_⟩;rw[<-e];exact y f
 |call c=>
  obtain⟨callee,args,TS⟩:=c;cases callee with
  |builtin b=>cases b<;>simp[eV] at u
  |value g=>
   simp only[fT] at h;obtain⟨r,A,k,j,l,w⟩:=h;subst w;refine⟨r,l.symm,j,λf n=>?_⟩;unfold nc;simp only[fT];refine⟨r,A,?_,j,rfl,rfl⟩
   have D:(args.toList.map λx=>(ev T fr x).norm)=args.toList.map λx=>(ev T f x).norm:=
    uy λx F=>by rw[n x (by simp[Op.operands,Call.operands,wU.1 F])]
   rw[<-D,<-n g (by simp[Op.operands,Call.operands])];exact k
  |invoke r m=>simp only[fT] at h
 |_=>simp[eV] at u
theorem CB(a:eV E ops o=.app)(h:nc P T E ops q soft o fr H fr' H'):∃d x,o.dst=some d/\fr'=lO.fr fr d x/\H'=H/\∀(f:Fr) (h:cZ),(∀x∈o.op.operands,ev T fr x=ev T f x)->f.qd=fr.qd->f.eg=fr.eg->nc P T E ops q soft o f h (lO.fr f d x) h:=by
 unfold nc at h;obtain⟨dst,op,type,pos,after,guard⟩:=o;cases op with
 |call c=>
  obtain⟨callee,args,TS⟩:=c;cases callee with
  |builtin b=>
   cases b with
   |append=>
    obtain⟨d,x,i,j,k,l⟩:=XK h;subst i;refine⟨d,x,rfl,k,l,λf h he n hg=>?_⟩;unfold nc;simp only[fT];refine ac2 (j.congr (λy hy=>he y ?_) n hg) ⟨rfl,rfl⟩;simp only at hy;simp[Op.operands,Call.operands,wU.1 hy]
   |_=>simp[eV] at a
  |value g=>simp[eV] at a
  |invoke r m=>simp[eV] at a
 |alloc t=>grind[eV]|box t x=>grind[eV]|_=>simp[eV] at a
def UT{r:Option Nat}(d:eV E ops o=.KB r)(h:nc P T E ops q soft o fr H fr' H'):fr'.env=fr.env/\fr'.gen=fr.gen/\fr'.qd=fr.qd/\fr'.eg=fr.eg/\o.dst=none/\(∀b,r≠some b->fr'.box b=fr.box b)/\(soft=true->H'=H):=by
 unfold nc at h;obtain⟨dst,op,type,pos,after,guard⟩:=o;cases op with
 |store t x y=>
  simp only[eV,WL.KB.injEq] at d;simp only[fT] at h;obtain⟨f,i,j,a⟩:=h;unfold kQ at a
  split at a
  .exact a.elim
  .split at a
   .rename_i b g off k
    split at a
    .obtain⟨_,_,_,_,g1,g2⟩:=a;subst g1;subst g2
     grind[pG,fO,zb]
    .exact a.elim
   all_goals grind[isL]
 |call c=>grind[eV]|alloc t=>grind[eV]|box t x=>grind[eV]|_=>simp[eV] at d
theorem B4(fr:Fr)(d:Nat):fr.put (some d) (fr.env d)=fr:=by
 simp only[Fr.put]
 have:fO fr.env d (fr.env d)=fr.env:=by grind[fO]
 rw[this]
theorem Fk(fr:Fr)(d:Nat)(x y:AV):(fr.put (some d) x).put (some d) y=fr.put (some d) y:=by grind[Fr.put,KK]
structure Left (c:WL) (dst:Option Nat) (soft:Bool) (q:Qt) (fr:Fr) (H:cZ) (fr':Fr) (H':cZ):Prop where
 env:∀t,dst≠some t->fr'.env t=fr.env t
 box:∀b,c≠ .alloc (some b)->c≠ .KB (some b)->fr'.box b=fr.box b/\fr'.gen b=fr.gen b
 heap:c≠ .Aa->(∀r,c=.KB r->soft=true)->H'=H
 quiet:soft=true->QK q H H'
def lO.left(fr:Fr)(d:Nat)(x:lO):(∀t,t≠d->(lO.fr fr d x).env t=fr.env t)/\(lO.fr fr d x).box=fr.box/\(lO.fr fr d x).gen=fr.gen:=by
 cases x with
 |grow tag l m=>exact⟨λt a=>by show fO _ _ _ t=_;rw[zb _ _ _ _ a],rfl,rfl⟩|same l=>exact⟨λt a=>by show fO _ _ _ t=_;rw[zb _ _ _ _ a],rfl,rfl⟩
def pJ(h:nc P T E ops q soft o fr H fr' H'):Left (eV E ops o) o.dst soft q fr H fr' H':=by
 have a:∀(v:AV) (t:Nat),o.dst≠some t->(fr.put o.dst v).env t=fr.env t:=by
  intro v t j;rw[Fr.sj,cO j]
 cases i:eV E ops o with
 |val=>
  obtain⟨v,_,rfl,rfl⟩:=wo (.inl i) h;obtain⟨c,f,_,_⟩:=Fr.wb fr o.dst v;exact⟨a v,λb _ _=>⟨by rw[c],by rw[f]⟩,λ_ _=>rfl,λ_=>.refl⟩
 |load r=>
  obtain⟨v,_,rfl,rfl⟩:=wo (.inr ⟨r,i⟩) h;obtain⟨c,f,_,_⟩:=Fr.wb fr o.dst v;exact⟨a v,λb _ _=>⟨by rw[c],by rw[f]⟩,λ_ _=>rfl,λ_=>.refl⟩
 |alloc d=>
  obtain⟨u,cs,rfl,l,_,_,rfl,rfl⟩:=uw i h;refine⟨λt j=>?_,λb n _=>?_,λ_ _=>rfl,λ_=>.refl⟩
  .show fO _ _ _ t=_;rw[zb];rintro rfl;exact j l
  .have k:b≠u:=by rintro rfl;exact n rfl
   exact⟨zb _ _ _ _ k,zb _ _ _ _ k⟩
 |Aa=>
  obtain⟨r,rfl,w,_⟩:=BJ i h;obtain⟨c,f,_,_⟩:=Fr.wb fr o.dst r;exact⟨a r,λb _ _=>⟨by rw[c],by rw[f]⟩,λhn _=>absurd rfl hn,w⟩
 |app=>
  obtain⟨d,x,l,rfl,rfl,_⟩:=CB i h;obtain⟨g1,g2,g3⟩:=lO.left fr d x;exact⟨λt j=>g1 t (by rintro rfl;exact j l),λb _ _=>⟨by rw[g2],by rw[g3]⟩,λ_ _=>rfl,λ_=>.refl⟩
 |KB r=>
  obtain⟨c,f,A,B,C,y,s⟩:=UT i h;exact⟨λt _=>by rw[c],λb _ n=>⟨y b (λe=>n (by rw[e])),by rw[f]⟩,λ_ hs=>s (hs r rfl),λhs=>by rw[s hs];exact .refl⟩
def LV{d:Nat}(v:AV)(b:d∉o.looksAt opsA)(a:o.dst≠some d)(h:nc P T E ops q soft o fr H fr' H'):nc P T E ops q soft o (fr.put (some d) v) H (fr'.put (some d) v) H':=by
 have c:fT P T E ops q soft o (λf h=>f=fr'/\h=H') ((fr.put (some d) v).put (some d) (fr.env d)) H:=by
  rw[Fk,B4];exact h
 obtain⟨f,j,i,k,l⟩:=rT (Jh (opsA:=opsA) b a c);have he:=(pJ i).env d a
 grind[Fk,Fr.sj,B4]
def Fx{d:Nat}{v:AV}(b:d∉o.looksAt opsA)(a:o.dst≠some d)(h:nc P T E ops q soft o (fr.put (some d) v) H fr' H'):∃f,nc P T E ops q soft o fr H f H'/\f.put (some d) v=fr':=by
 obtain⟨f,c,i,j,k⟩:=rT (Jh (opsA:=opsA) b a h)
 grind
theorem G8{x:Operand}{t:Nat}(a:x∈o.op.operands)(b:x=.tmp t):t∈o.looksAt opsA:=by
 subst b;exact acV _ (afy.2 ⟨.tmp t,by simpa using a,rfl⟩)
def Bf{c:WL}{dst:Option Nat}(a:Left c dst soft q fr H fr' H')(b:∀d,dst=some d->d∉o.looksAt opsA):∀x∈o.op.operands,ev T fr x=ev T fr' x:=by
 intro x f;refine Ch λt h=>?_;rw[a.env]
 grind[G8]
def CP{c:WL}{dst:Option Nat}(s:Left c dst soft2 q fr H fr' H')(D:∀d,dst=some d->d∉o.looksAt opsA)(j:uZ (eV E ops o) c=true)
  (hs:∀r,eV E ops o=.load r->(c=.Aa->soft=true/\soft2=true)/\(∀F,c=.KB F->soft2=true)) {v:AV} (hv:ma P T E ops q soft fr H o=some v\/ma P T E ops q soft fr' H' o=some v):ma P T E ops q soft fr H o=ma P T E ops q soft fr' H' o:=by
 have u:=Bf (T:=T) (opsA:=opsA) s D
 by_cases k:∃t x,o.op=.load t x
 .obtain⟨t,x,a⟩:=k;have G:=u x (by rw[a];simp[Op.operands])
  have l:eV E ops o=.load (Da ops x):=by unfold eV;rw[a]
  obtain⟨w,y⟩:=hs _ l;rw[l] at j
  have n:pG ops x (ev T fr x)=true/\(!soft||q.ok (ev T fr x))=true:=by
   have:∀(f:Fr) (h:cZ),ma P T E ops q soft f h o=some v->ev T f x=ev T fr x->pG ops x (ev T fr x)=true/\(!soft||q.ok (ev T fr x))=true:=by
    intro f h hv he;unfold ma at hv;rw[a] at hv;simp only at hv
    split at hv
    .rename_i B;rw[he] at B;simpa using B
    .cases hv
   rcases hv with hv|hv
   .exact this fr H hv rfl
   .exact this fr' H' hv G.symm
  refine xl u (λL M he=>?_) (λ_ _ _ _ he=>by rw[a] at he;cases he);rw[a] at he;injection he with I J;subst I;subst J;refine⟨λb g off K=>?_,λo' C hg=>?_⟩
  .have A:Da ops x=some b:=by
    have:=n.1;rw[K] at this;simpa[pG] using this
   rw[A] at j;have:=s.box b (by rintro rfl;simp[uZ] at j) (by rintro rfl;simp[uZ] at j);exact⟨this.1.symm,this.2.symm⟩
  .by_cases he:c=.Aa
   .obtain⟨g1,g2⟩:=w he
    have hq:q.all=true\/q.st o'=true:=by
     have:=n.2;rw[g1,hg] at this;simpa[Qt.ok] using this
    rcases hq with hq|hq
    .rw[(s.quiet g2).1 hq]
    .exact((s.quiet g2).2 o' hq).symm
   .rw[s.heap he y]
 .refine xl u (λt x he=>absurd ⟨t,x,he⟩ k) λt x i ok a=>?_
  have l:eV E ops o=.load none:=by unfold eV;rw[a]
  obtain⟨w,y⟩:=hs _ l
  have hq:(!soft||q.all)=true:=by
   have:∀(f:Fr) (h:cZ),ma P T E ops q soft f h o=some v->(!soft||q.all)=true:=by
    intro f h hv;unfold ma at hv;rw[a] at hv;simp only at hv
    split at hv
    .rename_i B;exact B
    .cases hv
   rcases hv with hv|hv
   .exact this _ _ hv
   .exact this _ _ hv
  by_cases he:c=.Aa
  .obtain⟨g1,g2⟩:=w he;rw[g1] at hq;exact((s.quiet g2).1 (by simpa using hq)).symm
  .exact(s.heap he y).symm
def KV(fr:Fr){d b:Nat}(h:d≠b)(cs a:List AV):jW (jW fr d cs) b a=jW (jW fr b a) d cs:=by
 simp only[jW,zb _ _ _ _ h,zb _ _ _ _ h.symm]
 grind[zf]
theorem zi(fr:Fr){d:Nat}{d2:Option Nat}(h:d2≠some d)(cs:List AV)(r:AV):(jW fr d cs).put d2 r=jW (fr.put d2 r) d cs:=by
 cases d2 with
 |none=>rfl|some a=>grind[jW,Fr.put,zf]
theorem Q4(fr:Fr){d:Nat}{d2:Option Nat}(h:d2≠some d)(x:lO)(r:AV):lO.fr (fr.put d2 r) d x=(lO.fr fr d x).put d2 r:=by
 cases d2 with
 |none=>rfl|some b=>
  have a:b≠d:=λe=>h (by rw[e]);cases x with
  |grow tag l m=>
   simp only[lO.fr,grown,Fr.put]
   grind[zf]
  |same l=>exact l_ fr a r (.slice .iw l)
def D0(fr:Fr){d a:Nat}(h:d≠a)(cs:List AV)(x:lO):lO.fr (jW fr d cs) a x=jW (lO.fr fr a x) d cs:=by
 cases x with
 |grow tag l m=>
  simp only[lO.fr,grown,jW]
  grind[zf]
 |same l=>grind[lO.fr,Fr.put,jW,zf]
def R3(W:o1.apart opsA o2=true)(a:uZ (eV E ops o1) (eV E ops o2)=true)
  (X:∀r,eV E ops o1=.load r->(eV E ops o2=.Aa->soft1=true/\soft2=true)/\(∀O,eV E ops o2=.KB O->soft2=true))
  (Y:∀r,eV E ops o2=.load r->(eV E ops o1=.Aa->soft2=true/\soft1=true)/\(∀O,eV E ops o1=.KB O->soft1=true))
  (K:nc P T E ops q soft1 o1 fr H fr1 H1) (J:nc P T E ops q soft2 o2 fr1 H1 fr2 H2):∃f h,nc P T E ops q soft2 o2 fr H f h/\nc P T E ops q soft1 o1 f h fr2 H2:=by
 obtain⟨a1,a2,a3⟩:=Oper.apart_spec W
 by_cases L:eV E ops o1=.val\/∃r,eV E ops o1=.load r
 .obtain⟨v,Q,c,M⟩:=wo L K;subst M
  have Z:∃f,nc P T E ops q soft2 o2 fr H1 f H2/\f.put o1.dst v=fr2:=by
   cases w:o1.dst with
   |none=>rw[w] at c;subst c;exact⟨fr2,J,rfl⟩
   |some d=>rw[w] at c;subst c;exact Fx (opsA:=opsA) (a1 d w) (a2 d w) J
  obtain⟨f,R,ad⟩:=Z;have A:uZ (eV E ops o1) (eV E ops o2)=true:=a;have:=CP (o:=o1) (soft:=soft1) (pJ R) a3 A X (.inl Q);refine⟨f,H2,R,?_⟩;rw[<-ad];exact zq (by rw[<-this];exact Q)
 .--ai second one only N
  by_cases n:eV E ops o2=.val\/∃r,eV E ops o2=.load r
  .obtain⟨v,Q,c,M⟩:=wo n J;subst M
   have A:uZ (eV E ops o2) (eV E ops o1)=true:=by
    revert a
    cases eV E ops o1<;>cases eV E ops o2<;>simp[uZ]<;>(intro h e;exact h e.symm)
   have:=CP (o:=o2) (soft:=soft2) (pJ K) a1 A Y (.inr Q);refine⟨fr.put o2.dst v,H,zq (by rw[this];exact Q),?_⟩;rw[c];cases w:o2.dst with
   |none=>exact K|some d=>exact LV (opsA:=opsA) v (a3 d w) (λe=>a2 d e w) K
  .--S
   have ae:=pJ K;have l:∀x∈o2.op.operands,ev T fr x=ev T fr1 x:=Bf (T:=T) (opsA:=opsA) ae a1;have C:∀{f:Fr} {h:cZ} (U:nc P T E ops q soft2 o2 fr H f h),∀x∈o1.op.operands,ev T fr x=ev T f x:=λU=>Bf (T:=T) (opsA:=opsA) (pJ U) a3;cases j:eV E ops o1 with
   |val=>exact absurd (.inl j) L|load r=>exact absurd (.inr ⟨r,j⟩) L|KB r=>
    rw[j] at a;cases b:eV E ops o2 with
    |val=>exact absurd (.inl b) n|load O=>exact absurd (.inr ⟨O,b⟩) n|_=>rw[b] at a;simp[uZ] at a
   |alloc d1=>
    obtain⟨d,cs,rfl,w,af,ah,c,M⟩:=uw j K;subst M
    have back:∀{f:Fr} {h:cZ} (U:nc P T E ops q soft2 o2 fr H1 f h),nc P T E ops q soft1 o1 f h (jW f d cs) h:=λU=>
     vu w af (by rw[<-tl (C U)];exact ah)
    cases b:eV E ops o2 with
    |val=>exact absurd (.inl b) n|load r=>exact absurd (.inr ⟨r,b⟩) n|KB r=>rw[j,b] at a;simp[uZ] at a
    |alloc d2=>
     obtain⟨I,D,rfl,k,F,t,i,B⟩:=uw b J;subst B;have G:d≠I:=λe=>a2 d w (by rw[k,e]);have hn:nc P T E ops q soft2 o2 fr H2 (jW fr I D) H2:=vu k F (by rw[tl l];exact t);refine⟨_,_,hn,?_⟩;rw[i,c,KV fr G];exact back hn
    |Aa=>
     obtain⟨r,i,_,u⟩:=BJ b J;have hn:=u fr λx V=>(l x V).symm;refine⟨_,_,hn,?_⟩;rw[i,c,zi fr (λe=>a2 d w e)];exact back hn
    |app=>
     obtain⟨I,x,k,i,B,u⟩:=CB b J;subst B;have G:d≠I:=λe=>a2 d w (by rw[k,e]);have hn:=u fr H2 (λx V=>(l x V).symm) (by rw[c];rfl) (by rw[c];rfl);refine⟨_,_,hn,?_⟩;rw[i,c,D0 fr G];exact back hn
   |Aa=>
    obtain⟨r,c,_,s⟩:=BJ j K;cases b:eV E ops o2 with
    |val=>exact absurd (.inl b) n|load r=>exact absurd (.inr ⟨r,b⟩) n|KB r=>rw[j,b] at a;simp[uZ] at a
    |Aa=>rw[j,b] at a;simp[uZ] at a
    |alloc d2=>
     obtain⟨I,D,rfl,k,F,t,i,B⟩:=uw b J;subst B;have hn:nc P T E ops q soft2 o2 fr H (jW fr I D) H:=vu k F (by rw[tl l];exact t);refine⟨_,_,hn,?_⟩;rw[i,c,<-zi fr (λe=>a2 I e k)];exact s _ λx V=>C hn x V
    |app=>grind[CB,Fr.wb,Q4]
   |app=>
    obtain⟨d,x,w,c,M,s⟩:=CB j K;subst M;cases b:eV E ops o2 with
    |val=>exact absurd (.inl b) n|load r=>exact absurd (.inr ⟨r,b⟩) n|KB r=>rw[j,b] at a;simp[uZ] at a
    |app=>rw[j,b] at a;simp[uZ] at a
    |alloc d2=>
     obtain⟨I,D,rfl,k,F,t,i,B⟩:=uw b J;subst B;have G:I≠d:=λe=>a2 d w (by rw[k,e]);have hn:nc P T E ops q soft2 o2 fr H2 (jW fr I D) H2:=vu k F (by rw[tl l];exact t);refine⟨_,_,hn,?_⟩;rw[i,c,<-D0 fr G];exact s _ _ (λy hy=>C hn y hy) rfl rfl
    |Aa=>
     obtain⟨r,i,_,u⟩:=BJ b J;have hn:=u fr λy hy=>(l y hy).symm;obtain⟨e1,e2,e3,e4⟩:=Fr.wb fr o2.dst r;refine⟨_,_,hn,?_⟩;rw[i,c,<-Q4 fr (λe=>a2 d w e)];exact s _ _ (λy hy=>C hn y hy) e3 e4
end
end Go.kC
namespace Go.kC
open Go
def fW(opsA:Array Oper)(o:Oper)(fr:Fr):Option Bool:=
 match o.guard with
 |none=>some true|some (j,want)=>
  match(opsA[j]?).bind (·.dst)with
  |some d=>match fr.env d with
   |.sc (.bool b)=>some (b==want)|.tuple _=>some false|_=>none
  |none=>none
def iZ(E:List Nat)(o:Oper):Bool:=
 match o.op with
 |.call c=>(match c.callee with
  |.builtin .append=>o.dst.any E.contains|.value _=>o.dst.any E.contains|_=>false)
 |_=>false
def WV(c:Call):Bool:=
 match c.callee with
 |.value _=>true|_=>false
def Ui(P:Program)(T:dt)(q:Qt)(soft:Bool)(a:AV)(as:List AV)(dst:Option Nat)(K:Fr->cZ->Prop)(fr:Fr)(H:cZ):Prop:=
 ∃Post:AV->cZ->Prop,mM P T a as H Post/\(∃r h,Post r h)/\∀r h,Post r h->(soft=true->QK q H h)/\K (fr.put dst r) h
def lN(P:Program)(T:dt)(q:Qt)(soft:Bool)(c:Call)(dst:Option Nat)(K:Fr->cZ->Prop)(fr:Fr)(H:cZ):Prop:=
 match c.callee with
 |.value f=>Ui P T q soft (ev T fr f) (c.args.toList.map λx=>(ev T fr x).norm) dst K fr H|_=>ou P T c dst K fr H
def R_(E:List Nat)(q:Qt)(x:Operand)(v:AV):Prop:=E.contains 999999=true->∃ob off t,v=.eb ob off/\x=.tmp t/\q.cl ob=t
@[simp] theorem agH{E:List Nat}{q:Qt}{x:Operand}{v:AV}(h:E.contains 999999=false):R_ E q x v=True:=eq_true λa=>by rw[h] at a;cases a
def DB(T:dt)(E:List Nat)(q:Qt)(fr:Fr)(o:Oper):Prop:=
 match o.op with
 |.store _ x _=>R_ E q x (ev T fr x)|_=>True
def oi(o:Oper):Option Nat:=
 match o.op with
 |.store _ (.tmp t) _=>some t|_=>none
def uA(o:Oper):Bool:=
 match o.op with
 |.store _ _ _=>true|_=>false
def oo(P:Program)(T:dt)(E:List Nat)(ops:List Oper)(q:Qt)(soft:Bool)(o:Oper)(K:Fr->cZ->Prop)(fr:Fr)(H:cZ):Prop:=
 if iZ E o then(match o.op with
  |.call c=>lN P T q soft c o.dst K fr H|_=>False)else if uA o then(DB T E q fr o/\fT P T E ops q soft o K fr H)else fT P T E ops q soft o K fr H
def fY(P:Program)(T:dt)(E:List Nat)(opsA:Array Oper)(q:Qt)(soft:Bool)(o:Oper)(K:Fr->cZ->Prop)(fr:Fr)(H:cZ):Prop:=
 match fW opsA o fr with
 |some true=>oo P T E opsA.toList q soft o K fr H|some false=>K (fr.put o.dst (.tuple [])) H|none=>False
def FA(P:Program)(T:dt)(E:List Nat)(opsA:Array Oper)(q:Qt)(sf:Nat->Bool):List Nat->(Fr->cZ->Prop)->Fr->cZ->Prop
 |[],K,fr,H=>K fr H|i::rest,K,fr,H=>match opsA[i]?with
  |some o=>fY P T E opsA q (sf i) o (λfr H=>FA P T E opsA q sf rest K fr H) fr H|none=>False
section
variable{P:Program} {T:dt} {E:List Nat} {opsA:Array Oper} {q:Qt} {soft soft1 soft2:Bool} {o o1 o2:Oper} {K K':Fr->cZ->Prop} {fr fr':Fr} {H H':cZ}
def zM(h:iZ E o=true):∃c d,o.op=.call c/\(c.callee=.builtin .append\/∃f,c.callee=.value f)/\o.dst=some d:=by
 unfold iZ at h
 split at h
 .have a:o.dst.any E.contains=true->∃d,o.dst=some d:=by
   intro h;cases a:o.dst with
   |none=>grind|some d=>exact⟨d,rfl⟩
  grind
 .cases h
def pq{ops:List Oper}{c:Call}(h:iZ E o=true)(a:o.op=.call c):oo P T E ops q soft o K fr H=lN P T q soft c o.dst K fr H:=by grind[oo]
theorem nZ{ops:List Oper}(h:iZ E o=false):oo P T E ops q soft o K fr H=(DB T E q fr o/\fT P T E ops q soft o K fr H):=by grind[oo,uA,DB]
theorem VS{ops:List Oper}(h:eV E ops o=.val\/∃r,eV E ops o=.load r):DB T E q fr o:=by grind[DB,eV]
def w_{f:Fr}(he:∀x∈o.op.operands,ev T fr x=ev T f x)(h:DB T E q fr o):DB T E q f o:=by
 unfold DB R_ at*
 split
 .rename_i t x y a;rw[a] at h;intro b;obtain⟨ob,off,s,c,d,i⟩:=h b;exact⟨ob,off,s,by rw[<-he x (by rw[a];simp[Op.operands])];exact c,d,i⟩
 .trivial
def zo{ops a:List Oper}(h:iZ E o=false)(b:eV E a o=.val\/∃r,eV E a o=.load r):oo P T E ops q soft o K fr H=fT P T E ops q soft o K fr H:=by grind[nZ,VS]
theorem KP{c:Call}{dst:Option Nat}(i:∀r h,K (fr.put dst r) h->K' (fr.put dst r) h)(h:ou P T c dst K fr H):ou P T c dst K' fr H:=by
 unfold ou at*
 split at h
 .split at h
  .obtain⟨a,b,d,f,h⟩:=h;refine⟨a,b,d,f,?_⟩
   grind
  .exact h
 .exact h
theorem Pg{c:Call}{dst:Option Nat}(h:ou P T c dst K fr H):∃r a,K (fr.put dst r) a:=by
 unfold ou at h
 split at h
 all_goals grind
def NZ{c:Call}{dst:Option Nat}{d:Nat}{v:AV}(n:∀x∈c.args.toList,ev T (fr.put (some d) v) x=ev T fr x)(a:dst≠some d)(h:ou P T c dst K (fr.put (some d) v) H):ou P T c dst (λf h=>K (f.put (some d) v) h) fr H:=by
 unfold ou at*
 split at h
 .rename_i b s x t o i l;have j:b≠d:=λe=>a (by rw[e]);have k:∀y:AV,(fr.put (some b) y).put (some d) v=(fr.put (some d) v).put (some b) y:=λy=>l_ fr j y v
  simp_all
 .exact h
theorem mM.mono{a:AV}{as:List AV}{Post Post':AV->cZ->Prop}(h:mM P T a as H Post)(b:∀r h,Post r h->Post' r h):mM P T a as H Post':=by
 unfold mM at*
 split at h
 .exact h.mono b
 .exact h
theorem xf{c:Call}{dst:Option Nat}(d:∀r h,(WV c=true->soft=true->QK q H h)->K (fr.put dst r) h->K' (fr.put dst r) h)(h:lN P T q soft c dst K fr H):lN P T q soft c dst K' fr H:=by
 unfold lN at*
 split at h
 .obtain⟨Post,f,i,a⟩:=h;exact⟨Post,f,i,λr h b=>⟨(a r h b).1,d r h (λ_=>(a r h b).1) (a r h b).2⟩⟩
 .grind[KP,WV]
def UB{c:Call}{dst:Option Nat}(h:lN P T q soft c dst K fr H):∃r a,(WV c=true->soft=true->QK q H a)/\K (fr.put dst r) a:=by
 unfold lN at h
 split at h
 .obtain⟨Post,b,⟨r,a,d⟩,f⟩:=h
  grind
 .grind[Pg,WV]
def Jm{c:Call}{dst:Option Nat}{d:Nat}{v:AV}(b:∀x∈c.operands.toList,ev T (fr.put (some d) v) x=ev T fr x)(i:dst≠some d)(h:lN P T q soft c dst K (fr.put (some d) v) H):lN P T q soft c dst (λf h=>K (f.put (some d) v) h) fr H:=by
 have a:∀x∈c.args.toList,ev T (fr.put (some d) v) x=ev T fr x:=λx j=>b x (by
  unfold Call.operands;rw[Array.toList_append]
  exact List.mem_append_right _ j)
 unfold lN at*
 split at h
 .rename_i f o;obtain⟨Post,k,s,l⟩:=h;rw[b f (by unfold Call.operands;rw[o];simp),uy (g:=λx=>(ev T fr x).norm) (λx j=>by rw[a x j])] at k;refine⟨Post,k,s,λr h n=>⟨(l r h n).1,?_⟩⟩;have:=(l r h n).2;cases dst with
  |none=>exact this|some t=>grind[l_]
 .exact NZ a i h
theorem AM(a:∀fr H,K fr H->K' fr H)(h:fY P T E opsA q soft o K fr H):fY P T E opsA q soft o K' fr H:=by
 unfold fY at*
 split at h
 .cases hg:iZ E o with
  |true=>
   obtain⟨c,d,b,_,f⟩:=zM hg;rw[pq hg b] at h|-
   grind[xf]
  |false=>grind[nZ,Fz]
 .exact a _ _ h
 .exact h
theorem NV(h:oo P T E opsA.toList q soft o K fr H):o7 P T E o K fr H:=by
 cases hg:iZ E o with
 |true=>
  obtain⟨c,d,b,a,l⟩:=zM hg;rw[pq hg b] at h;unfold o7;rw[b];rcases a with a|⟨f,a⟩
  .grind[lN]
  .simp only[a];unfold lN at h;rw[a] at h;obtain⟨Post,i,_,j⟩:=h;exact i.mono λr h k=>(j r h k).2
 |false=>
  rw[nZ hg] at h;exact MC h.2
def Nd(h:fY P T E opsA q soft o K fr H):Am P T E opsA o K fr H:=by grind[fY,fW,Am,NV]
theorem w6(h:∀t,t∈o.looksAt opsA->fr'.env t=fr.env t):fW opsA o fr'=fW opsA o fr:=by
 unfold fW;cases hg:o.guard with
 |none=>rfl|some p=>
  obtain⟨j,want⟩:=p;simp only
  cases a:(opsA[j]?).bind (·.dst)with
  |none=>rfl|some d=>
   have:d∈o.looksAt opsA:=by
    unfold Oper.looksAt
    grind
   grind
theorem jN{d:Option Nat}{v:AV}(h:∀a,d=some a->a∉o.looksAt opsA):fW opsA o (fr.put d v)=fW opsA o fr:=by grind[w6,Fr.sj]
def AW{c:WL}{dst:Option Nat}(b:Left c dst soft q fr H fr' H')(h:∀a,dst=some a->a∉o.looksAt opsA):fW opsA o fr'=fW opsA o fr:=by
 refine w6 λt d=>b.env t ?_
 grind
def aac(E:List Nat)(opsA:Array Oper)(s1 s2:Bool)(o1 o2:Oper):Bool:=
 o1.apart opsA o2&&uZ (eV E opsA.toList o1) (eV E opsA.toList o2)&&
 (match eV E opsA.toList o1,eV E opsA.toList o2 with
  |.load _,.Aa=>s1&&s2|.Aa,.load _=>s1&&s2|.load _,.KB _=>s2|.KB _,.load _=>s1|_,_=>true)
def ET(o:Oper):Bool:=
 match o.op with
 |.call c=>WV c|_=>false
def JF(E:List Nat)(o:Oper):Bool:=
 match o.op,o.dst with
 |.alloc _,some d=>!E.contains d|_,_=>false
def Jy(h:JF E o=true):∃t d,o.op=.alloc t/\o.dst=some d/\E.contains d=false:=by grind[JF]
def Ym(E:List Nat)(opsA:Array Oper)(s1 s2:Bool)(o1 o2:Oper):Bool:=
 match eV E opsA.toList o2 with
 |.val=>true|.load _=>ET o1&&s1&&s2|.alloc _=>ET o1&&JF E o2|_=>false
def L'{s1 s2:Bool}(h:Ym E opsA s1 s2 o1 o2=true):(eV E opsA.toList o2=.val\/(∃r,eV E opsA.toList o2=.load r)/\ET o1=true/\s1=true/\s2=true)\/ET o1=true/\JF E o2=true:=by grind[Ym]
def X4(E:List Nat)(opsA:Array Oper)(s1 s2:Bool)(o1 o2:Oper):Bool:=
 if iZ E o1||iZ E o2 then
  o1.apart opsA o2&&(iZ E o1&&!iZ E o2&&Ym E opsA s1 s2 o1 o2||iZ E o2&&!iZ E o1&&Ym E opsA s2 s1 o2 o1)
 else if E.contains 999999&&(oi o1).isSome&&(oi o2).isSome&&oi o1 !=oi o2&&o1.dst==none&&o2.dst==none then true
 else aac E opsA s1 s2 o1 o2
def VD{f:Fr}{h:cZ}(b:eV E opsA.toList o=.val)(he:∀x∈o.op.operands,ev T fr x=ev T f x):ma P T E opsA.toList q soft fr H o=ma P T E opsA.toList q soft f h o:=by
 refine xl he (λt x a=>?_) λt x i ok a=>?_
 all_goals grind[eV]
def G5{d:Option Nat}{v:AV}(b:∀a,d=some a->a∉o.looksAt opsA):∀x∈o.op.operands,ev T fr x=ev T (fr.put d v) x:=by grind[Ch,Fr.sj,G8]
theorem CQ{d1 d2:Option Nat}(h:∀d,d1=some d->d2≠some d)(x y:AV):(fr.put d1 x).put d2 y=(fr.put d2 y).put d1 x:=by
 cases d1 with
 |none=>rfl|some a=>
  cases d2 with
  |none=>rfl|some b=>grind[l_]
theorem S3{c:Call}(a:o.op=.call c){x:Operand}(b:x∈c.args.toList):x∈o.op.operands:=by
 rw[a];simp[Op.operands,Call.operands,wU.1 b]
def k9(h:fY P T E opsA q soft o K fr H):fW opsA o fr=some true/\oo P T E opsA.toList q soft o K fr H\/fW opsA o fr=some false/\K (fr.put o.dst (.tuple [])) H:=by grind[fY]
def q8(hg:fW opsA o fr=some true)(h:oo P T E opsA.toList q soft o K fr H):fY P T E opsA q soft o K fr H:=by grind[fY]
theorem sl(hg:fW opsA o fr=some false)(h:K (fr.put o.dst (.tuple [])) H):fY P T E opsA q soft o K fr H:=by grind[fY]
def GU{c:Call}(a:o.op=.call c){x:Operand}(b:x∈c.operands.toList):x∈o.op.operands:=by
 rw[a];exact wU.1 b
def ZA{c:Call}(a:eV E opsA.toList o2=.val\/(∃r,eV E opsA.toList o2=.load r)/\ET o1=true/\soft1=true/\soft2=true)(l:o1.op=.call c)(k:∀d,o1.dst=some d->d∉o2.looksAt opsA){r:AV}{f:cZ}
  (n:WV c=true->soft1=true->QK q H f) {v:AV} (s:ma P T E opsA.toList q soft2 fr H o2=some v\/ma P T E opsA.toList q soft2 (fr.put o1.dst r) f o2=some v):ma P T E opsA.toList q soft2 fr H o2=ma P T E opsA.toList q soft2 (fr.put o1.dst r) f o2:=by
 rcases a with a|⟨⟨rr,a⟩,i,u,w⟩
 .exact VD a (G5 k)
 .have j:WV c=true:=by unfold ET at i;rw[l] at i;exact i
  have x:Left .Aa o1.dst true q fr H (fr.put o1.dst r) f:=⟨λt y=>by rw[Fr.sj,cO y],λb _ _=>⟨by cases o1.dst<;>rfl,by cases o1.dst<;>rfl⟩,λh=>(h rfl).elim,λ_=>n j u⟩;refine CP (o:=o2) (opsA:=opsA) x k (by rw[a];rfl) (λ_ _=>⟨λ_=>⟨w,rfl⟩,λ_ h=>by cases h⟩) s
def ND(w:o1.apart opsA o2=true)(B:eV E opsA.toList o1=.val\/(∃r,eV E opsA.toList o1=.load r)/\ET o2=true/\soft2=true/\soft1=true)(s:iZ E o1=false)(i:iZ E o2=true)(h:fY P T E opsA q soft1 o1 (λfr H=>fY P T E opsA q soft2 o2 K fr H) fr H):fY P T E opsA q soft2 o2 (λfr H=>fY P T E opsA q soft1 o1 K fr H) fr H:=by
 obtain⟨a1,a2,a3⟩:=Oper.apart_spec w;obtain⟨c,d2,u,_,F⟩:=zM i;have j:eV E opsA.toList o1=.val\/∃r,eV E opsA.toList o1=.load r:=B.imp id λh=>h.1
 have key:∃v,(∀r h,(WV c=true->soft2=true->QK q H h)->K ((fr.put o2.dst r).put o1.dst v) h->fY P T E opsA q soft1 o1 K (fr.put o2.dst r) h)/\fY P T E opsA q soft2 o2 K (fr.put o1.dst v) H:=by
  rcases k9 h with⟨k,n⟩|⟨k,n⟩
  .rw[zo s j] at n;obtain⟨f1,H1,y,a⟩:=rT n;obtain⟨v,C,G,I⟩:=wo j y;rw[G,I] at a;refine⟨v,λr D A t=>q8 (by rw[jN a3,k]) ?_,a⟩;rw[zo s j];exact ub (zq (by rw[<-ZA B u a3 A (.inl C)];exact C)) t
  .exact⟨_,λr D _ t=>sl (by rw[jN a3,k]) t,n⟩
 obtain⟨v,back,n⟩:=key;rcases k9 n with⟨l,a⟩|⟨l,a⟩
 .rw[jN a1] at l;rw[pq i u] at a;refine q8 l ?_;rw[pq i u]
  have J:lN P T q soft2 c o2.dst (λf h=>K (f.put o1.dst v) h) fr H:=by
   cases b:o1.dst with
   |none=>rw[b] at a;exact a
   |some d=>rw[b] at a;exact Jm (λx L=>(G5 (o:=o2) (opsA:=opsA) (d:=some d) (λM e=>by cases e;exact a1 d b) x (GU u L)).symm) (a2 d b) a
  exact xf (λr D A t=>back _ _ A t) J
 .grind[jN,CQ,sl,QK.refl]
def No(D:o1.apart opsA o2=true)(M:eV E opsA.toList o2=.val\/(∃r,eV E opsA.toList o2=.load r)/\ET o1=true/\soft1=true/\soft2=true)(n:iZ E o1=true)(A:iZ E o2=false)(h:fY P T E opsA q soft1 o1 (λfr H=>fY P T E opsA q soft2 o2 K fr H) fr H):fY P T E opsA q soft2 o2 (λfr H=>fY P T E opsA q soft1 o1 K fr H) fr H:=by
 obtain⟨a1,a2,a3⟩:=Oper.apart_spec D;obtain⟨c,d1,C,_,N⟩:=zM n;have s:eV E opsA.toList o2=.val\/∃r,eV E opsA.toList o2=.load r:=M.imp id λh=>h.1
 have inv:∀{r:AV} {y:cZ} {t:Fr->cZ->Prop},(WV c=true->soft1=true->QK q H y)->fY P T E opsA q soft2 o2 t (fr.put o1.dst r) y->∃v,(fW opsA o2 fr=some true/\ma P T E opsA.toList q soft2 fr H o2=some v\/fW opsA o2 fr=some false/\v=.tuple [])/\t ((fr.put o1.dst r).put o2.dst v) y:=by
  intro r y t F O;rcases k9 O with⟨a,b⟩|⟨a,b⟩
  .rw[zo A s] at b;obtain⟨f1,H1,G,i⟩:=rT b;obtain⟨v,j,I,Q⟩:=wo s G;rw[I,Q] at i;exact⟨v,.inl ⟨by rw[<-jN (o:=o2) a1];exact a,by rw[ZA M C a1 F (.inr j)];exact j⟩,i⟩
  .exact⟨_,.inr ⟨by rw[<-jN (o:=o2) a1];exact a,rfl⟩,b⟩
 have fwd:∀{v:AV} {t:Fr->cZ->Prop},(fW opsA o2 fr=some true/\ma P T E opsA.toList q soft2 fr H o2=some v\/fW opsA o2 fr=some false/\v=.tuple [])->t (fr.put o2.dst v) H->fY P T E opsA q soft2 o2 t fr H:=by
  intro v t j k;rcases j with⟨a,j⟩|⟨a,rfl⟩
  .refine q8 a ?_;rw[zo A s];exact ub (zq j) k
  .exact sl a k
 have uniq:∀{v w:AV},(fW opsA o2 fr=some true/\ma P T E opsA.toList q soft2 fr H o2=some v\/fW opsA o2 fr=some false/\v=.tuple [])->(fW opsA o2 fr=some true/\ma P T E opsA.toList q soft2 fr H o2=some w\/fW opsA o2 fr=some false/\w=.tuple [])->v=w:=by
  intro v w b i;rcases b with⟨g1,b⟩|⟨g1,rfl⟩<;>rcases i with⟨g2,i⟩|⟨g2,rfl⟩
  .rw[b] at i;exact fQ i
  .rw[g1] at g2;cases g2
  .rw[g1] at g2;cases g2
  .rfl
 rcases k9 h with⟨u,b⟩|⟨u,b⟩
 .rw[pq n C] at b;obtain⟨V,W,J,L⟩:=UB b;obtain⟨v,j,_⟩:=inv J L;refine fwd j (q8 (by rw[jN a3,u]) ?_);rw[pq n C]
  have i:lN P T q soft1 c o1.dst (λf h=>K (f.put o2.dst v) h) fr H:=xf (λr y F k=>by
   obtain⟨w,hw,k⟩:=inv F k;rw[uniq j hw]
   exact k) b
  cases l:o2.dst with
  |none=>rw[l] at i;exact i
  |some d=>
   rw[l] at i;have B:o1.dst≠some d:=λe=>a2 d e l
   have R:lN P T q soft1 c o1.dst (λf h=>K (f.put (some d) v) h) ((fr.put (some d) v).put (some d) (fr.env d)) H:=by
    rw[Fk,B4];exact i
   have S:=Jm (λx U=>(by
    have:=G5 (o:=o1) (opsA:=opsA) (T:=T) (fr:=fr.put (some d) v) (d:=some d) (v:=fr.env d) (λX e=>by cases e;exact a3 d l) x (GU C U)
    exact this.symm)) B R
   refine xf (λr y _ k=>?_) S
   have I:(((fr.put (some d) v).put o1.dst r).put (some d) (fr.env d)).put (some d) v=(fr.put (some d) v).put o1.dst r:=by
    rw[Fk];have hs:=B4 ((fr.put (some d) v).put o1.dst r) d
    have he:((fr.put (some d) v).put o1.dst r).env d=v:=by
     rw[Fr.sj,cO B,Fr.sj,cS rfl]
    rw[he] at hs;exact hs
   rw[I] at k;exact k
 .obtain⟨v,j,k⟩:=inv (λ_ _=>QK.refl) b;refine fwd j (sl (by rw[jN a3,u]) ?_);rw[<-CQ a2];exact k
def WG(d:Nat)(b:Bool)(z:List AV)(fr:Fr):Fr:=if b then jW fr d z else fr.put (some d) (.tuple [])
theorem Rc{d t:Nat}{b:Bool}{z:List AV}(h:t≠d):(WG d b z fr).env t=fr.env t:=by
 unfold WG
 split
 .show fO fr.env d _ t=_
  grind[fO]
 .grind[Fr.sj]
theorem E5{d:Nat}{b:Bool}{z:List AV}{a:Option Nat}(h:a≠some d)(v:AV):(WG d b z fr).put a v=WG d b z (fr.put a v):=by grind[WG,zi,CQ]
theorem xG{t:TypeId}{d:Nat}(a:o.op=.alloc t)(c:o.dst=some d)(i:E.contains d=false):fY P T E opsA q soft o K fr H↔∃b z,fW opsA o fr=some b/\(b=true->hO P t=some z)/\K (WG d b z fr) H:=by
 have hn:iZ E o=false:=by unfold iZ;rw[a]
 have hs:oo P T E opsA.toList q soft o K fr H=(match hO P t with|some z=>K (jW fr d z) H|none=>False):=by
  unfold oo uA;rw[hn,a];simp only[pc,lL];unfold fT;rw[a];simp only;cases hO P t with
  |none=>rfl|some z=>
   simp only;unfold j9;rw[c];simp only;rw[cO (by rw[i];decide)];refine propext ⟨λh=>h.2,λh=>⟨λ_=>?_,h⟩⟩;show E.contains d=false;exact i
 constructor
 .intro h;rcases k9 h with⟨hg,h⟩|⟨hg,h⟩
  .rw[hs] at h
   split at h
   .rename_i z f;exact⟨true,z,hg,λ_=>f,h⟩
   .exact h.elim
  .rw[c] at h;exact⟨false,[],hg,(λe=>by cases e),h⟩
 .rintro⟨b,z,hg,f,h⟩;cases b with
  |true=>
   refine q8 hg ?_;rw[hs,f rfl];exact h
  |false=>
   refine sl hg ?_;rw[c];exact h
def afa{d:Nat}{b:Bool}{z:List AV}(a:d∉o.looksAt opsA):∀x∈o.op.operands,ev T (WG d b z fr) x=ev T fr x:=by grind[Ch,Rc,G8]
theorem Bi{d:Nat}{b:Bool}{z:List AV}(a:d∉o.looksAt opsA):fW opsA o (WG d b z fr)=fW opsA o fr:=by grind[w6,Rc]
def Nj(h:ET o=true):∃c f,o.op=.call c/\c.callee=.value f:=by grind[ET,WV]
def T3{c:Call}{f:Operand}{d:Nat}{b:Bool}{z:List AV}(h:o.op=.call c)(i:c.callee=.value f)(j:d∉o.looksAt opsA):ev T (WG d b z fr) f=ev T fr f/\(c.args.toList.map λx=>(ev T (WG d b z fr) x).norm)=c.args.toList.map λx=>(ev T fr x).norm:=by
 have he:=λx a=>afa (T:=T) (fr:=fr) (b:=b) (z:=z) j x a;refine⟨he f (GU h (by unfold Call.operands;rw[i];simp)),uy λx a=>?_⟩
 grind[S3]
def NC(k:o1.apart opsA o2=true)(l:JF E o1=true)(n:ET o2=true)(o:iZ E o2=true)(h:fY P T E opsA q soft1 o1 (λfr H=>fY P T E opsA q soft2 o2 K fr H) fr H):fY P T E opsA q soft2 o2 (λfr H=>fY P T E opsA q soft1 o1 K fr H) fr H:=by
 obtain⟨a1,a2,a3⟩:=Oper.apart_spec k;obtain⟨t,d,u,j,v⟩:=Jy l;obtain⟨c,f,w,x⟩:=Nj n;have s:o2.dst≠some d:=a2 d j;obtain⟨b,z,hg,C,h⟩:=(xG u j v).1 h;rcases k9 h with⟨a,i⟩|⟨a,i⟩
 .rw[Bi (a1 d j)] at a;refine q8 a ?_;rw[pq o w] at i|-;unfold lN at i|-;rw[x] at i|-;simp only at i|-;obtain⟨D,F⟩:=T3 (T:=T) (fr:=fr) (b:=b) (z:=z) w x (a1 d j);rw[D,F] at i;obtain⟨Post,G,I,y⟩:=i;refine⟨Post,G,I,λr A B=>⟨(y r A B).1,(xG u j v).2 ⟨b,z,by rw[jN a3,hg],C,?_⟩⟩⟩;rw[<-E5 s];exact(y r A B).2
 .grind[Bi,sl,xG,jN,E5]
def M4(n:o1.apart opsA o2=true)(o:ET o1=true)(s:JF E o2=true)(j:iZ E o1=true)(h:fY P T E opsA q soft1 o1 (λfr H=>fY P T E opsA q soft2 o2 K fr H) fr H):fY P T E opsA q soft2 o2 (λfr H=>fY P T E opsA q soft1 o1 K fr H) fr H:=by
 obtain⟨a1,a2,a3⟩:=Oper.apart_spec n;obtain⟨t,d,u,a,v⟩:=Jy s;obtain⟨c,f,w,x⟩:=Nj o;have y:o1.dst≠some d:=λe=>a2 d e a;rcases k9 h with⟨k,i⟩|⟨k,i⟩
 .rw[pq j w] at i;unfold lN at i;rw[x] at i;simp only at i;obtain⟨Post,M,⟨C,D,F⟩,A⟩:=i;obtain⟨b,z,hg,G,_⟩:=(xG u a v).1 (A C D F).2;rw[jN a1] at hg;refine(xG u a v).2 ⟨b,z,hg,G,q8 (by rw[Bi (a3 d a),k]) ?_⟩;rw[pq j w];unfold lN;rw[x];simp only;obtain⟨N,O⟩:=T3 (T:=T) (fr:=fr) (b:=b) (z:=z) w x (a3 d a);rw[N,O];refine⟨Post,M,⟨C,D,F⟩,λr I J=>⟨(A r I J).1,?_⟩⟩;obtain⟨Q,R,l,B,L⟩:=(xG u a v).1 (A r I J).2;rw[jN a1,hg] at l;obtain rfl:b=Q:=fQ l;rw[E5 y];cases b with
  |true=>
   obtain rfl:z=R:=fQ (by rw[<-G rfl,<-B rfl]);exact L
  |false=>exact L
 .grind[xG,jN,sl,Bi,E5]
def ad_{t:TypeId}{ob off:Nat}{v:AV}:kQ P t (.eb ob off) v K fr H↔∃agg n cs,ew P t=some (agg,n)/\H[ob]?=some cs/\(qK cs=true/\v.cells.length=n/\off+n<=cs.length/\eo v=true)/\K fr (H.set ob (setCells cs off v.norm.cells)):=by grind[kQ]
theorem DH{s:Nat}(h:oi o=some s):∃t y,o.op=.store t (.tmp s) y:=by grind[oi]
def Yn{s:Nat}(h:oi o=some s):iZ E o=false:=by grind[DH,iZ]
def rR{ops:List Oper}{s:Nat}(k:E.contains 999999=true)(hs:oi o=some s):oo P T E ops q soft o K fr H↔
  ∃t y ob off agg n cs,o.op=.store t (.tmp s) y/\o.dst=none/\ev T fr (.tmp s)=.eb ob off/\q.cl ob=s/\pG ops (.tmp s) (.eb ob off)=true/\soft=false/\ew P t=some (agg,n)/\H[ob]?=some cs/\(qK cs=true/\(ev T fr y).cells.length=n/\off+n<=cs.length/\eo (ev T fr y)=true)/\K fr (H.set ob (setCells cs off (ev T fr y).norm.cells)):=by
 obtain⟨t,y,l⟩:=DH hs;rw[nZ (Yn hs)];unfold DB R_ fT;rw[l];simp only;constructor
 .rintro⟨r,f,c,d,j⟩;obtain⟨ob,off,x,b,h,i⟩:=r k;injection h with h;subst h;rw[b] at c d j;obtain⟨agg,n,cs,g1,g2,g3,g4⟩:=ad_.1 j;refine⟨t,y,ob,off,agg,n,cs,rfl,f,b,i,c,?_,g1,g2,g3,g4⟩;cases a:soft with
  |false=>rfl|true=>have:=d a;simp[isL] at this
 .rintro⟨A,B,ob,off,agg,n,cs,u,f,b,i,c,d,g1,g2,g3,g4⟩;injection u with v C w;subst v;subst w;refine⟨λ_=>⟨ob,off,s,b,rfl,i⟩,f,by rw[b];exact c,λa=>?_,?_⟩
  .rw[d] at a;cases a
  .rw[b];exact ad_.2 ⟨agg,n,cs,g1,g2,g3,g4⟩
def M5{s1 s2:Nat}(k:E.contains 999999=true)(l:oi o1=some s1)(f:oi o2=some s2)(u:s1≠s2)(h:fY P T E opsA q soft1 o1 (λfr H=>fY P T E opsA q soft2 o2 K fr H) fr H)(w:o1.dst=none)(x:o2.dst=none):fY P T E opsA q soft2 o2 (λfr H=>fY P T E opsA q soft1 o1 K fr H) fr H:=by
 have D:∀v,fr.put o1.dst v=fr:=λv=>by rw[w];rfl
 have Q:∀v,fr.put o2.dst v=fr:=λv=>by rw[x];rfl
 rcases k9 h with⟨i,s⟩|⟨i,s⟩
 .obtain⟨t,y,ob,off,agg,n,cs,F,G,I,A,J,L,M,N,O,s⟩:=(rR k l).1 s;rcases k9 s with⟨a,b⟩|⟨a,b⟩
  .obtain⟨B,C,j,c,d,n',o,f0,f1,f2,f3,f4,f5,f6,f7,f8,b⟩:=(rR k f).1 b
   have r:ob≠j:=by rintro rfl;exact u (A.symm.trans f3)
   rw[J0 r] at f7;refine q8 a ((rR k f).2 ⟨B,C,j,c,d,n',o,f0,f1,f2,f3,f4,f5,f6,f7,f8,?_⟩);refine q8 i ((rR k l).2 ⟨t,y,ob,off,agg,n,cs,F,G,I,A,J,L,M,?_,O,?_⟩)
   .rw[J0 (λe=>r e.symm)];exact N
   .rw[List.set_comm _ _ (λe=>r e.symm)];exact b
  .refine sl a ?_;rw[Q] at b|-;exact q8 i ((rR k l).2 ⟨t,y,ob,off,agg,n,cs,F,G,I,A,J,L,M,N,O,b⟩)
 .rw[D] at s;rcases k9 s with⟨a,b⟩|⟨a,b⟩
  .obtain⟨B,C,j,c,d,n',o,f0,f1,f2,f3,f4,f5,f6,f7,f8,b⟩:=(rR k f).1 b;exact q8 a ((rR k f).2 ⟨B,C,j,c,d,n',o,f0,f1,f2,f3,f4,f5,f6,f7,f8,sl i (by rw[D];exact b)⟩)
  .grind[sl,fY]
theorem O4(c:X4 E opsA soft1 soft2 o1 o2=true)(h:fY P T E opsA q soft1 o1 (λfr H=>fY P T E opsA q soft2 o2 K fr H) fr H):fY P T E opsA q soft2 o2 (λfr H=>fY P T E opsA q soft1 o1 K fr H) fr H:=by
 unfold X4 at c
 by_cases hG:(iZ E o1||iZ E o2)=true
 .rw[cS hG] at c;simp only[fI,rl,XC] at c;obtain⟨b,⟨⟨g1,g2⟩,g3⟩|⟨⟨g1,g2⟩,g3⟩⟩:=c
  .rcases L' g3 with g3|⟨g3,g4⟩
   .exact No b g3 g1 g2 h
   .exact M4 b g3 g4 g1 h
  .rcases L' g3 with g3|⟨g3,g4⟩
   .exact ND b g3 g2 g1 h
   .exact NC b g4 g3 g1 h
 rw[cO hG] at c
 by_cases L:(E.contains 999999&&(oi o1).isSome&&(oi o2).isSome&&oi o1 !=oi o2&&o1.dst==none&&o2.dst==none)=true
 .simp only[fI,Option.isSome_iff_exists,bne_iff_ne,ne_eq,abO] at L;obtain⟨⟨⟨⟨⟨U,s1,o⟩,s2,s⟩,M⟩,w⟩,y⟩:=L;exact M5 U o s (by rintro rfl;exact M (by rw[o,s])) h w y
 rw[cO L] at c
 have A:iZ E o1=false:=by cases V:iZ E o1<;>simp_all
 have B:iZ E o2=false:=by cases V:iZ E o2<;>simp_all
 unfold aac at c;simp only[fI] at c;obtain⟨⟨b,D⟩,a⟩:=c;obtain⟨a1,a2,a3⟩:=Oper.apart_spec b
 have o:∀r,eV E opsA.toList o1=.load r->(eV E opsA.toList o2=.Aa->soft1=true/\soft2=true)/\(∀F,eV E opsA.toList o2=.KB F->soft2=true):=by
  intro r N;rw[N] at a;refine⟨λhe=>?_,λF he=>?_⟩<;>rw[he] at a
  .simpa using a
  .exact a
 have s:∀r,eV E opsA.toList o2=.load r->(eV E opsA.toList o1=.Aa->soft2=true/\soft1=true)/\(∀F,eV E opsA.toList o1=.KB F->soft1=true):=by
  intro r N;rw[N] at a;refine⟨λhe=>?_,λF he=>?_⟩<;>rw[he] at a
  .have:soft1=true/\soft2=true:=by simpa using a
   exact⟨this.2,this.1⟩
  .exact a
 unfold fY at h;simp only[nZ A,nZ B] at h
 split at h
 .--O first one is carried out
  rename_i j;obtain⟨v,h⟩:=h;obtain⟨f1,H1,t,h⟩:=rT h;have G:=pJ t;have C:fW opsA o2 f1=fW opsA o2 fr:=AW G a1;rw[C] at h;unfold fY;simp only[nZ A,nZ B]
  split at h
  .rename_i k;obtain⟨l,h⟩:=h;obtain⟨f2,H2,i,Q⟩:=rT h;obtain⟨f,W,n,I⟩:=R3 b D o s t i;refine⟨w_ (λx c=>(Bf (T:=T) (opsA:=opsA) G a1 x c).symm) l,ub n ?_⟩;have:fW opsA o1 f=fW opsA o1 fr:=AW (pJ n) a3;rw[this,j];exact⟨w_ (Bf (T:=T) (opsA:=opsA) (pJ n) a3) v,ub I Q⟩
  .rename_i k
   show match fW opsA o1 (fr.put o2.dst (.tuple []))with
    |some true=>DB T E q (fr.put o2.dst (.tuple [])) o1/\fT P T E opsA.toList q soft1 o1 K (fr.put o2.dst (.tuple [])) H|some false=>K ((fr.put o2.dst (.tuple [])).put o1.dst (.tuple [])) H|none=>False
   rw[jN a3,j];simp only;refine⟨w_ (G5 a3) v,?_⟩;cases u:o2.dst with
   |none=>rw[u] at h;exact ub t h
   |some d=>rw[u] at h;exact ub (LV (opsA:=opsA) _ (a3 d u) (λe=>a2 d e u) t) h
  .exact h.elim
 .--O first one is left out
  rename_i j;have C:fW opsA o2 (fr.put o1.dst (.tuple []))=fW opsA o2 fr:=jN a1;rw[C] at h;unfold fY;simp only[nZ A,nZ B]
  split at h
  .rename_i k;obtain⟨l,h⟩:=h;obtain⟨f2,H2,i,Q⟩:=rT h
   have R:∃f,nc P T E opsA.toList q soft2 o2 fr H f H2/\f.put o1.dst (.tuple [])=f2:=by
    cases u:o1.dst with
    |none=>rw[u] at i;exact⟨f2,i,rfl⟩
    |some d=>rw[u] at i;exact Fx (opsA:=opsA) (a1 d u) (a2 d u) i
   obtain⟨f,J,S⟩:=R;refine⟨w_ (λx c=>(G5 a1 x c).symm) l,ub J ?_⟩;have:fW opsA o1 f=fW opsA o1 fr:=AW (pJ J) a3;rw[this,j];show K (f.put o1.dst (.tuple [])) H2;rw[S];exact Q
  .rename_i k
   show match fW opsA o1 (fr.put o2.dst (.tuple []))with
    |some true=>DB T E q (fr.put o2.dst (.tuple [])) o1/\fT P T E opsA.toList q soft1 o1 K (fr.put o2.dst (.tuple [])) H|some false=>K ((fr.put o2.dst (.tuple [])).put o1.dst (.tuple [])) H|none=>False
   rw[jN a3,j];simp only
   have:(fr.put o2.dst (.tuple [])).put o1.dst (.tuple [])=(fr.put o1.dst (.tuple [])).put o2.dst (.tuple []):=by
    cases w:o1.dst with
    |none=>rfl|some d1=>
     cases y:o2.dst with
     |none=>rfl|some d2=>exact l_ fr (λe=>a2 d1 w (by rw[y,e])) _ _
   rw[this];exact h
  .exact h.elim
 .exact h.elim
def PN{sf:Nat->Bool}{i:Nat}(hi:opsA[i]?=some o)(post:List Nat):∀(pre:List Nat) (fr:Fr) (H:cZ),(∀j∈pre,∀a,opsA[j]?=some a->X4 E opsA (sf j) (sf i) a o=true)->FA P T E opsA q sf (pre++i::post) K fr H->fY P T E opsA q (sf i) o (λfr H=>FA P T E opsA q sf (pre++post) K fr H) fr H:=by
 intro pre
 induction pre with
 |nil=>grind[FA]|cons j pre ih=>
  intro fr H hex h;simp only[Y9,FA] at h|-
  split at h
  all_goals grind[AM,O4]
end
def vQ(opsA:Array Oper):Bool:=opsA.toList.zipIdx.all λ(o,i)=>o.after.all λe=>!Region.binds .any e||decide (e.on<i)
def KO(opsA:Array Oper)(M:Array Nat):Bool:=
 (List.range opsA.size).all λi=>(List.range opsA.size).all λj=>!(M.getD i 0).testBit j||
  (opsA.getD i default).after.toList.any λe=>Region.binds .any e&&(e.on==j||(M.getD e.on 0).testBit j)
def wQ(E:List Nat)(opsA:Array Oper)(sf:Nat->Bool):Bool:=
 let M:=Region.before opsA
 vQ opsA&&KO opsA M&&
 (List.range opsA.size).all λi=>(List.range i).all λj=>(M.getD i 0).testBit j||X4 E opsA (sf j) (sf i) (opsA.getD j default) (opsA.getD i default)
section
variable{P:Program} {T:dt} {E:List Nat} {opsA:Array Oper} {q:Qt} {sf:Nat->Bool} {K:Fr->cZ->Prop}
def ug(opsA:Array Oper)(listed:Array Bool):List Nat:=(List.range opsA.size).filter λi=>!listed.getD i true
def QC{listed:Array Bool}{i:Nat}:i∈ug opsA listed↔i<opsA.size/\listed.getD i true=false:=by
 simp[ug]
def TY(M:Array Nat)(opsA:Array Oper)(listed:Array Bool):Prop:=∀i j,i<opsA.size->j<opsA.size->listed.getD i false=true->(M.getD i 0).testBit j=true->listed.getD j false=true
def Al{listed:Array Bool}{i:Nat}(d:Bool)(h:i<listed.size):(listed.setIfInBounds i true).getD i d=true:=by
 simp[h]
def Lj{opsA:Array Oper}(a:vQ opsA=true){listed:Array Bool}(d:listed.size=opsA.size){i:Nat}(hi:i<opsA.size)(f:listed.getD i true=false)
  (c:∀j,j<i->listed.getD j false=true):i∈Region.ready .any opsA listed:=by
 rw[mem_ready];unfold vQ at a;rw[jY] at a
 have b:(opsA[i],i)∈opsA.toList.zipIdx:=by grind
 have:=a _ b;simp only[Fs] at this
 grind
def D2{opsA:Array Oper}{M:Array Nat}(d:KO opsA M=true)(a:vQ opsA=true){listed:Array Bool}(f:TY M opsA listed){i:Nat}(s:i∈Region.ready .any opsA listed){j:Nat}(n:j<opsA.size)
  (t:(M.getD i 0).testBit j=true):listed.getD j false=true:=by
 obtain⟨u,o,q,b⟩:=mem_ready.1 s;have hi:i<opsA.size:=(Mt.1 q).1;unfold KO at d;rw[jY] at d;have:=d i (by simpa using hi);rw[jY] at this;have:=this j (by simpa using n);rw[t] at this;simp only[YV,SM,List.any_eq_true,wU,fI,rl,abO] at this;obtain⟨e,he,h,hor⟩:=this
 have k:opsA.getD i default=o:=by rw[NA,q];rfl
 rw[k] at he;have r:=b e he h;rcases hor with rfl|hor
 .exact r
 .have l:e.on<opsA.size:=by
   unfold vQ at a;rw[jY] at a
   have c:(o,i)∈opsA.toList.zipIdx:=by grind
   have:=a _ c;simp only[Fs] at this
   grind
  exact f e.on j l n r hor
def SS{listed:Array Bool}(d:listed.size=opsA.size){i:Nat}(hi:i<opsA.size)(a:listed.getD i true=false):∃pre post,ug opsA listed=pre++i::post/\ug opsA (listed.setIfInBounds i true)=pre++post/\∀j∈pre,j<i/\listed.getD j true=false:=by
 have c:List.range opsA.size=List.range i++i::(List.range' (i+1) (opsA.size-i-1)):=by
  rw[RZ,RZ]
  have:opsA.size=i+(1+(opsA.size-i-1)):=VW
  conv=>lhs;rw[this]
  rw[<-List.range'_append_1]
  congr 1
  rw[show 1+(opsA.size-i-1)=(opsA.size-i-1)+1 by omega,Rr];simp
 refine⟨(List.range i).filter (λj=>!listed.getD j true),(List.range' (i+1) (opsA.size-i-1)).filter (λj=>!listed.getD j true),?_,?_,?_⟩
 .unfold ug;rw[c,aef,List.filter_cons_of_pos (by simp[a])]
 .unfold ug;rw[c,aef,List.filter_cons_of_neg (by rw[Al _ VW];simp)]
  congr 1
  .refine afq λj b=>?_
   have:j<i:=by simpa using b
   rw[getD_set_ne true VW]
  .refine afq λj b=>?_;have:=(List.mem_range'_1.1 b).1;rw[getD_set_ne true VW]
 .grind
variable{n:Nat} {G0:Nat->Nat} {F0:jo} {n0:Nat} {w0:World}
def xQ{listed:Array Bool}{i:Nat}(hi:i<listed.size):listed.getD i false=listed.getD i true:=by grind
def Ub{Q:Exit->Act->World->Prop}(t:wQ E opsA sf=true)(B:vL n opsA=true)(V:∀fr' H' L w',K fr' H'->SR T n G0 F0 n0 w0 fr' H' L w'->Q .normal L w'):∀(fuel:Nat) (listed:Array Bool) (fr:Fr) (H:cZ) (a:Act) (w:World),listed.size=opsA.size->TY (Region.before opsA) opsA listed->(ug opsA listed).length<=fuel->SR T n G0 F0 n0 w0 fr H a w->FA P T E opsA q sf (ug opsA listed) K fr H->wpAny P .any opsA Q fuel listed a w:=by
 unfold wQ at t;simp only[fI] at t;obtain⟨⟨c,W⟩,d⟩:=t
 have u:∀{listed:Array Bool},listed.size=opsA.size->Region.ready .any opsA listed=[]->ug opsA listed=[]:=by
  intro listed f C;cases b:ug opsA listed with
  |nil=>rfl|cons i rest=>
   exfalso
   have s:i∈ug opsA listed:=by rw[b];simp
   have hex:∃k,k<opsA.size/\listed.getD k true=false:=⟨i,QC.1 s⟩
   obtain⟨k,⟨M,N⟩,D⟩:∃k,(k<opsA.size/\listed.getD k true=false)/\∀j,j<k->¬(j<opsA.size/\listed.getD j true=false):=by
    clear b s;obtain⟨k,hk⟩:=hex
    induction k using Nat.strongRecOn with
    |_ k ih=>
     by_cases h:∃j,j<k/\(j<opsA.size/\listed.getD j true=false)
     .obtain⟨j,v,x⟩:=h;exact ih j v x
     .exact⟨k,hk,λj F hc=>h ⟨j,F,hc⟩⟩
   have:=Lj c f M N λj F=>by
    have hn:=D j F
    have O:j<opsA.size:=VW
    rw[xQ VW];cases hb:listed.getD j true with
    |true=>rfl|false=>exact absurd ⟨O,hb⟩ hn
   rw[C] at this;cases this
 intro fuel
 induction fuel with
 |zero=>
  intro listed fr H a w f l hlen hs h;have b:ug opsA listed=[]:=z8 VW;rw[b] at h;refine⟨?_,V _ _ _ _ h hs⟩;cases C:Region.ready .any opsA listed with
  |nil=>rfl|cons i rest=>
   have hm:i∈Region.ready .any opsA listed:=by rw[C];simp
   obtain⟨y,o,A,_⟩:=mem_ready.1 hm;have:i∈ug opsA listed:=QC.2 ⟨(Mt.1 A).1,y⟩;rw[b] at this;cases this
 |succ fuel ih=>
  intro listed fr H a w f l hlen hs h;refine⟨λC=>?_,λi hi=>?_⟩
  .rw[u f C] at h;exact V _ _ _ _ h hs
  .obtain⟨y,o,A,X⟩:=mem_ready.1 hi;have G:i<opsA.size:=(Mt.1 A).1;obtain⟨pre,post,Y,Z,h3⟩:=SS f G y;rw[Y] at h
   have r:=PN (P:=P) (T:=T) (E:=E) (opsA:=opsA) (q:=q) (K:=K) (sf:=sf) A post pre fr H (by
    intro j F oj R;obtain⟨v,x⟩:=h3 j F;rw[jY] at d;have:=d i (by simpa using G);rw[jY] at this;have:=this j (by simpa using v);simp only[rl] at this
    have e1:opsA.getD j default=oj:=by rw[NA,R];rfl
    have e2:opsA.getD i default=o:=by rw[NA,A];rfl
    rw[e1,e2] at this;rcases this with hb|hb
    .have:=D2 W c l hi VW hb;rw[xQ VW,x] at this;cases this
    .exact hb) h
   have S:p0 n o=true:=Fs.1 B o (Uq A);refine y8 A S hs (Nd r) ?_;intro fr' H' L w' hK U;refine ih (listed.setIfInBounds i true) fr' H' L w' (by simpa using f) ?_ ?_ U (by rw[Z];exact hK)
   .--still closed
    intro i' j' hi' I hl hb
    by_cases he:j'=i
    .subst he;exact Al _ VW
    .rw[getD_set_ne false (λe=>he e.symm)]
     by_cases J:i'=i
     .subst J;exact D2 W c l hi I hb
     .rw[getD_set_ne false (λe=>J e.symm)] at hl;exact l i' j' hi' I hl hb
   .rw[Y] at hlen;rw[Z];simp only[rF,kY] at hlen|-;omega
end
section
variable{P:Program} {T:dt} {n:Nat} {Q:Exit->Fr->cZ->Prop} {fr:Fr} {H:cZ}
def SR.drew{G0:Nat->Nat}{F0:jo}{n0:Nat}{w0:World}{a:Act}{w:World}(hs:SR T n G0 F0 n0 w0 fr H a w):SR T n G0 F0 n0 w0 fr H a w.drew:=by
 obtain⟨ρ,F,R,hw,b⟩:=hs;exact⟨ρ,F,R,hw.drew,b.drew⟩
def fa.N2{id:Nat}{ops:Array Oper}(E:List Nat)(q:Qt)(sf:Nat->Bool)(hm:P.follows .mixedOrders=true)(c:vL n ops=true)(d:wQ E ops sf=true)
  (h:FA P T E ops q sf (List.range ops.size) (Q .normal) fr H):fa P T n (.region id ops true) Q fr H:=by
 intro G0 F0 n0 w0 a w hs;refine wp_region_any hm ?_
 have b:ug ops (Array.replicate ops.size false)=List.range ops.size:=by
  unfold ug
  simp_all
 have:=Ub (Q:=λe f w'=>∃fr' H',Q e fr' H'/\SR T n G0 F0 n0 w0 fr' H' f w') d c (λfr' H' f w' k l=>⟨fr',H',k,l⟩) ops.size (Array.replicate ops.size false) fr H a w.drew aaL
  (by intro i j hi r o;simp[hi] at o) (by rw[b];simp) hs.drew (by rw[b];exact h)
 exact this
def pY(P:Program)(T:dt)(E:List Nat)(opsA:Array Oper)(q:Qt):List Oper->(Fr->cZ->Prop)->Fr->cZ->Prop
 |[],K,fr,H=>K fr H|o::rest,K,fr,H=>fY P T E opsA q true o (λfr H=>pY P T E opsA q rest K fr H) fr H
def Lt{E:List Nat}{ops:Array Oper}{q:Qt}{K:Fr->cZ->Prop}:∀(l:List Oper) (k:Nat) (fr:Fr) (H:cZ),l=ops.toList.drop k->pY P T E ops q l K fr H->FA P T E ops q (λ_=>true) (List.range' k l.length) K fr H:=by
 intro l
 induction l with
 |nil=>intro k fr H _ h;exact h|cons o l ih=>
  intro k fr H a h
  have b:k<ops.toList.length:=by
   rcases sH k ops.toList.length with h'|h'
   .exact h'
   .rw[HE h'] at a;cases a
  have c:=Ko b;rw[c] at a;injection a with f d
  have hi:ops[k]?=some o:=by grind
  simp only[kY,Rr,FA,hi];exact AM (λfr H h=>ih (k+1) fr H d h) h
def fa.Yd{id:Nat}{ops:Array Oper}(E:List Nat)(q:Qt)(hm:P.follows .mixedOrders=true)(a:vL n ops=true)(b:wQ E ops (λ_=>true)=true)
  (h:pY P T E ops q ops.toList (Q .normal) fr H):fa P T n (.region id ops true) Q fr H:=by
 refine fa.N2 E q (λ_=>true) hm a b ?_;have:=Lt (K:=Q .normal) ops.toList 0 fr H aaL h;rw[RZ]
 grind
end
end Go.kC
namespace Go.kC
open Go
section
variable{P:Program} {T:dt} {n:Nat} {Q:Exit->Fr->cZ->Prop} {fr:Fr} {H:cZ}
def fa.tc{x y:Code}(h:∀K:Fr->cZ->Prop,(∀fr H,fa P T n y Q fr H->K fr H)->fa P T n x (FM K Q) fr H):fa P T n (.seq x y) Q fr H:=
 fa.seq (h _ λ_ _ h=>h)
def fa.ya{id:Nat}{c:Code}(h:∀Q':Exit->Fr->cZ->Prop,(∀fr H,Q .normal fr H->Q' .normal fr H)->(∀fr H,Q .normal fr H->Q' (.exit id) fr H)->(∀a fr H,a≠id->Q (.exit a) fr H->Q' (.exit a) fr H)->(∀fr H,Q .ret fr H->Q' .ret fr H)->fa P T n c Q' fr H):fa P T n (.block id c) Q fr H:=by
 refine fa.block (h (FQ id Q) (λ_ _ h=>h) (λ_ _ h=>?_) (λa _ _ b h=>?_) (λ_ _ h=>h))
 .simp only[FQ,if_true];exact h
 .simp only[FQ,cO b];exact h
end
@[simp] theorem Yr(K:Fr->cZ->Prop)(Q:Exit->Fr->cZ->Prop):FM K Q .normal=K:=rfl
end Go.kC
