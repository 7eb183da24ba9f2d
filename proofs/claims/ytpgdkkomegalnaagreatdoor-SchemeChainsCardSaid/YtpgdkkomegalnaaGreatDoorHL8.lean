/- Part of the proof of SchemeChains: layer. -/
import Derived.Test.YtpgdkkomegalnaaGreatDoorHL7
set_option linter.all false
namespace Go.lD
open Go
variable{c:Call}{d t:Nat}{d2 dst r:Option Nat}{v:AV}{x:Operand}{α:Type}
theorem AL(f:Nat->α){i j:Nat}(h:i≠j)(x y:α):gN (gN f i x) j y=gN (gN f j y) i x:=by grind[gN]
def ld(fr:Fr)(d:Nat)(cs:List AV):Fr:=
 {fr with env:=gN fr.env d (.h9 d (fr.gen d+1) 0),box:=gN fr.box d (some cs),gen:=gN fr.gen d (fr.gen d+1)}
def Ac(P:Program)(T:eK)(fr:Fr)(o:Oper):Option (List AV):=
 match o.op with
 |.alloc t=>jH P t|.box _ x=>if fG (ev T fr x) then some (ev T fr x).cells else none|_=>none
inductive mZ where
 |grow (tag:Tag) (l m:List AV)|same (l:List AV)
def mZ.fr(fr:Fr)(d:Nat):mZ->Fr
 |.grow tag l m=>grown fr d tag l m|.same l=>fr.put (some d) (.slice .gK l)
def QJ(P:Program)(T:eK)(fr:Fr)(c:Call)(x:mZ):Prop:=
 ∃s y t e sz tag a l m,c.args.toList=[s,y]/\c.argTypes.toList=[t,t]/\oA P t=some (e,sz)/\ev T fr s=.slice tag l/\ev T fr y=.slice a m/\lG sz l=true/\lG sz m=true/\l.length+m.length<=kG/\(pQ fr tag l=true/\x=.grow tag l m\/pQ fr tag l=false/\m=[]/\x=.same l)
section
variable{P:Program} {T:eK} {E:List Nat} {ops:List Oper} {opsA:Array Oper} {q:Qt} {soft soft1 soft2:Bool} {o o1 o2:Oper} {K:Fr->dV->Prop} {fr fr1 fr2 fr':Fr} {H H1 H2 H':dV}
theorem acp(h:nq P T c dst (λf h=>f=fr'/\h=H') fr H):∃d x,dst=some d/\QJ P T fr c x/\fr'=x.fr fr d/\H'=H:=by
 unfold nq at h
 split at h
 .rename_i d s y t k a b
  split at h
  .rename_i e sz tag l i m n o q;obtain⟨rfl,g2,g3,g4,g5⟩:=h
   split at g5
   .rename_i j;exact⟨d,.grow tag l m,rfl,⟨s,y,k,e,sz,tag,i,l,m,a,b,n,o,q,g2,g3,g4,.inl ⟨j,rfl⟩⟩,g5.1.symm,g5.2.symm⟩
   .rename_i j;exact⟨d,.same l,rfl,⟨s,y,k,e,sz,tag,i,l,m,a,b,n,o,q,g2,g3,g4,.inr ⟨by simpa using j,g5.1,rfl⟩⟩,g5.2.1.symm,g5.2.2.symm⟩
  .grind
 .exact h.elim
def ahJ{x:mZ}(h:QJ P T fr c x)(b:K (x.fr fr d) H):nq P T c (some d) K fr H:=by
 obtain⟨s,y,t,e,sz,tag,f,l,m,i,j,k,n,o,q,r,u,v⟩:=h;unfold nq;rw[i,j];simp only[k,n,o];refine⟨trivial,q,r,u,?_⟩;rcases v with⟨a,rfl⟩|⟨a,hm,rfl⟩
 .rw[dO a];exact b
 .rw[dK (by simp[a])];exact⟨hm,b⟩
def QJ.congr{x:mZ}(f:QJ P T fr c x)(he:∀y∈c.args.toList,ev T fr y=ev T fr' y)(h:fr'.qU=fr.qU)(hg:fr'.fy=fr.fy):QJ P T fr' c x:=by
 obtain⟨s,y,t,e,sz,tag,a,l,m,b,i,j,k,n,o,q,r,u⟩:=f
 have d:pQ fr' tag l=pQ fr tag l:=by unfold pQ;rw[h,hg]
 exact⟨s,y,t,e,sz,tag,a,l,m,b,i,j,by rw[<-he s (by rw[b];simp)];exact k,by rw[<-he y (by rw[b];simp)];exact n,o,q,r,by rw[d];exact u⟩
theorem yq(a:gp E ops o=.val\/∃r,gp E ops o=.load r)(h:oD P T E ops q soft o fr H fr' H'):∃v,nZ P T E ops q soft fr H o=some v/\fr'=fr.put o.dst v/\H'=H:=by grind[oD,gp,hE]
theorem Bx(h:nZ P T E ops q soft fr H o=some v):oD P T E ops q soft o fr H (fr.put o.dst v) H:=by grind[oD,nZ,hE]
theorem wI{d:Option Nat}(k:gp E ops o=.alloc d)(h:oD P T E ops q soft o fr H fr' H'):∃a cs,d=some a/\o.dst=some a/\E.contains a=false/\Ac P T fr o=some cs/\fr'=ld fr a cs/\H'=H:=by
 unfold oD at h;obtain⟨dst,op,type,pos,after,guard⟩:=o
 have key:∀{cs:List AV} {a:Nat},dst=some a->E.contains a=false->ly E dst cs (λf h=>f=fr'/\h=H') fr H->fr'=ld fr a cs/\H'=H:=by
  intro cs a l n i;subst l;unfold ly at i;simp only at i;rw[dK (by simp only[n];simp)] at i;exact⟨i.1.symm,i.2.symm⟩
 have b:(∃t,op=.alloc t)\/(∃t x,op=.box t x)->∃a,d=some a/\dst=some a/\E.contains a=false:=by
  intro j
  have:(match dst with|some d=>if E.contains d then Cls.B4 else .alloc (some d)|none=>.B4)=.alloc d:=by
   rcases j with⟨t,rfl⟩|⟨t,x,rfl⟩<;>exact k
  grind
 cases op with
 |alloc t=>
  obtain⟨a,r,s,u⟩:=b (.inl ⟨t,rfl⟩)
  grind[hE,Ac]
 |box t x=>
  obtain⟨a,r,s,u⟩:=b (.inr ⟨t,x,rfl⟩)
  grind[hE,Ac]
 |call c=>grind[gp]|_=>simp[gp] at k
theorem xn{cs:List AV}(a:o.dst=some d)(b:E.contains d=false)(h:Ac P T fr o=some cs):oD P T E ops q soft o fr H (ld fr d cs) H:=by grind[oD,ly,ld,Ac,hE]
def va(h:∀x∈o.op.operands,ev T fr x=ev T fr' x):Ac P T fr o=Ac P T fr' o:=by
 obtain⟨dst,op,type,pos,after,guard⟩:=o;cases op with
 |box t x=>simp only[Ac];rw[h x (by simp[Op.operands])]|_=>rfl
def DQ(u:gp E ops o=.B4)(h:oD P T E ops q soft o fr H fr' H'):∃r,fr'=fr.put o.dst r/\(soft=true->QK q H H')/\∀f:Fr,(∀x∈o.op.operands,ev T fr x=ev T f x)->oD P T E ops q soft o f H (f.put o.dst r) H':=by
 unfold oD at h;obtain⟨dst,op,type,pos,after,guard⟩:=o
 have a:∀{cs:List AV},((∃t,op=.alloc t)\/(∃t x,op=.box t x))->ly E dst cs (λf h=>f=fr'/\h=H') fr H->∃d,dst=some d/\E.contains d=true/\fr'=fr.put dst (.fg H.length 0)/\H'=H++[cs.map AV.kA]/\∀f:Fr,ly E dst cs (λB h=>B=f.put dst (.fg H.length 0)/\h=H') f H:=by
  intro cs v i
  have hm:(match dst with|some d=>if E.contains d then Cls.B4 else .alloc (some d)|none=>.B4)=.B4:=by
   rcases v with⟨t,rfl⟩|⟨t,x,rfl⟩<;>exact u
  unfold ly at i
  split at i
  .rename_i d
   split at i
   .rename_i s;refine⟨d,rfl,s,i.1.symm,i.2.symm,λf=>?_⟩;unfold ly;simp only;rw[dO s];exact⟨rfl,i.2⟩
   .rename_i s;simp only[dK s] at hm;cases hm
  .exact i.elim
 cases op with
 |alloc t=>
  simp only[hE] at h
  split at h
  .rename_i z C;obtain⟨d,k,j,l,w,y⟩:=a (.inl ⟨t,rfl⟩) h.2;refine⟨_,l,?_,λf n=>?_⟩
   .intro hs;have:=h.1 hs;rw[k] at this;exact absurd this (by simp only[aiq,j];simp)
   .unfold oD;simp only[hE,C];exact⟨h.1,y f⟩
  .exact h.elim
 |box t x=>
  simp only[hE] at h;obtain⟨d,k,j,l,w,y⟩:=a (.inr ⟨t,x,rfl⟩) h.2.2;refine⟨_,l,?_,λf n=>?_⟩
  .intro hs;have:=h.2.1 hs;rw[k] at this;exact absurd this (by simp only[aiq,j];simp)
  .unfold oD;simp only[hE];have e:=n x (by simp[Op.operands]);refine⟨by rw[<-e];exact h.1,h.2.1,?_⟩;rw[<-e];exact y f
 |call c=>
  obtain⟨callee,args,tys⟩:=c;cases callee with
  |builtin b=>cases b<;>simp[gp] at u
  |value g=>
   simp only[hE] at h;obtain⟨r,A,k,j,l,w⟩:=h;subst w;refine⟨r,l.symm,j,λf n=>?_⟩;unfold oD;simp only[hE];refine⟨r,A,?_,j,rfl,rfl⟩
   have D:(args.toList.map λx=>(ev T fr x).norm)=args.toList.map λx=>(ev T f x).norm:=
    th λx F=>by rw[n x (by simp[Op.operands,Call.operands,yd.1 F])]
   rw[<-D,<-n g (by simp[Op.operands,Call.operands])];exact k
  |invoke r m=>simp only[hE] at h
 |_=>simp[gp] at u
theorem D5(a:gp E ops o=.app)(h:oD P T E ops q soft o fr H fr' H'):∃d x,o.dst=some d/\fr'=mZ.fr fr d x/\H'=H/\∀(f:Fr) (h:dV),(∀x∈o.op.operands,ev T fr x=ev T f x)->f.qU=fr.qU->f.fy=fr.fy->oD P T E ops q soft o f h (mZ.fr f d x) h:=by
 unfold oD at h;obtain⟨dst,op,type,pos,after,guard⟩:=o;cases op with
 |call c=>
  obtain⟨callee,args,tys⟩:=c;cases callee with
  |builtin b=>
   cases b with
   |append=>
    obtain⟨d,x,i,j,k,l⟩:=acp h;subst i;refine⟨d,x,rfl,k,l,λf h he n hg=>?_⟩;unfold oD;simp only[hE];refine ahJ (j.congr (λy hy=>he y ?_) n hg) ⟨rfl,rfl⟩;simp only at hy;simp[Op.operands,Call.operands,yd.1 hy]
   |_=>simp[gp] at a
  |value g=>simp[gp] at a
  |invoke r m=>simp[gp] at a
 |alloc t=>grind[gp]|box t x=>grind[gp]|_=>simp[gp] at a
theorem ZE(d:gp E ops o=.Od r)(h:oD P T E ops q soft o fr H fr' H'):fr'.env=fr.env/\fr'.gen=fr.gen/\fr'.qU=fr.qU/\fr'.fy=fr.fy/\o.dst=none/\(∀b,r≠some b->fr'.box b=fr.box b)/\(soft=true->H'=H):=by
 unfold oD at h;obtain⟨dst,op,type,pos,after,guard⟩:=o;cases op with
 |store t x y=>
  simp only[gp,Cls.Od.injEq] at d;simp only[hE] at h;obtain⟨f,i,j,a⟩:=h;unfold mj at a
  split at a
  .exact a.elim
  .split at a
   .rename_i b g off k
    split at a
    .obtain⟨_,_,_,_,g1,g2⟩:=a;subst g1;subst g2
     grind[qA,gN,AD]
    .exact a.elim
   all_goals grind[isL]
 |call c=>grind[gp]|alloc t=>grind[gp]|box t x=>grind[gp]|_=>simp[gp] at d
theorem D3(fr:Fr)(d:Nat):fr.put (some d) (fr.env d)=fr:=by
 simp only[Fr.put]
 have:gN fr.env d (fr.env d)=fr.env:=by grind[gN]
 rw[this]
theorem Ie(fr:Fr)(d:Nat)(x y:AV):(fr.put (some d) x).put (some d) y=fr.put (some d) y:=by grind[Fr.put,N1]
structure Left (c:Cls) (dst:Option Nat) (soft:Bool) (q:Qt) (fr:Fr) (H:dV) (fr':Fr) (H':dV):Prop where
 env:∀t,dst≠some t->fr'.env t=fr.env t
 box:∀b,c≠ .alloc (some b)->c≠ .Od (some b)->fr'.box b=fr.box b/\fr'.gen b=fr.gen b
 heap:c≠ .B4->(∀r,c=.Od r->soft=true)->H'=H
 quiet:soft=true->QK q H H'
def mZ.left(fr:Fr)(d:Nat)(x:mZ):(∀t,t≠d->(mZ.fr fr d x).env t=fr.env t)/\(mZ.fr fr d x).box=fr.box/\(mZ.fr fr d x).gen=fr.gen:=by
 cases x with
 |grow tag l m=>exact⟨λt a=>by show gN _ _ _ t=_;rw[AD _ _ _ _ a],rfl,rfl⟩|same l=>exact⟨λt a=>by show gN _ _ _ t=_;rw[AD _ _ _ _ a],rfl,rfl⟩
def qJ(h:oD P T E ops q soft o fr H fr' H'):Left (gp E ops o) o.dst soft q fr H fr' H':=by
 have a:∀(v:AV) (t:Nat),o.dst≠some t->(fr.put o.dst v).env t=fr.env t:=by
  intro v t j;rw[Fr.ub,dK j]
 cases i:gp E ops o with
 |val=>
  obtain⟨v,_,rfl,rfl⟩:=yq (.inl i) h;obtain⟨c,f,_,_⟩:=Fr.yy fr o.dst v;exact⟨a v,λb _ _=>⟨by rw[c],by rw[f]⟩,λ_ _=>rfl,λ_=>.refl⟩
 |load r=>
  obtain⟨v,_,rfl,rfl⟩:=yq (.inr ⟨r,i⟩) h;obtain⟨c,f,_,_⟩:=Fr.yy fr o.dst v;exact⟨a v,λb _ _=>⟨by rw[c],by rw[f]⟩,λ_ _=>rfl,λ_=>.refl⟩
 |alloc d=>
  obtain⟨u,cs,rfl,l,_,_,rfl,rfl⟩:=wI i h;refine⟨λt j=>?_,λb n _=>?_,λ_ _=>rfl,λ_=>.refl⟩
  .show gN _ _ _ t=_;rw[AD];rintro rfl;exact j l
  .have k:b≠u:=by rintro rfl;exact n rfl
   exact⟨AD _ _ _ _ k,AD _ _ _ _ k⟩
 |B4=>
  obtain⟨r,rfl,w,_⟩:=DQ i h;obtain⟨c,f,_,_⟩:=Fr.yy fr o.dst r;exact⟨a r,λb _ _=>⟨by rw[c],by rw[f]⟩,λhn _=>absurd rfl hn,w⟩
 |app=>
  obtain⟨d,x,l,rfl,rfl,_⟩:=D5 i h;obtain⟨g1,g2,g3⟩:=mZ.left fr d x;exact⟨λt j=>g1 t (by rintro rfl;exact j l),λb _ _=>⟨by rw[g2],by rw[g3]⟩,λ_ _=>rfl,λ_=>.refl⟩
 |Od r=>
  obtain⟨c,f,A,B,C,y,s⟩:=ZE i h;exact⟨λt _=>by rw[c],λb _ n=>⟨y b (λe=>n (by rw[e])),by rw[f]⟩,λ_ hs=>s (hs r rfl),λhs=>by rw[s hs];exact .refl⟩
theorem PV(v:AV)(b:d∉o.looksAt opsA)(a:o.dst≠some d)(h:oD P T E ops q soft o fr H fr' H'):oD P T E ops q soft o (fr.put (some d) v) H (fr'.put (some d) v) H':=by
 have c:hE P T E ops q soft o (λf h=>f=fr'/\h=H') ((fr.put (some d) v).put (some d) (fr.env d)) H:=by
  rw[Ie,D3];exact h
 obtain⟨f,j,i,k,l⟩:=tN (Mv (opsA:=opsA) b a c);have he:=(qJ i).env d a
 grind[Ie,Fr.ub,D3]
theorem II(b:d∉o.looksAt opsA)(a:o.dst≠some d)(h:oD P T E ops q soft o (fr.put (some d) v) H fr' H'):∃f,oD P T E ops q soft o fr H f H'/\f.put (some d) v=fr':=by
 obtain⟨f,c,i,j,k⟩:=tN (Mv (opsA:=opsA) b a h)
 grind
theorem JT(a:x∈o.op.operands)(b:x=.tmp t):t∈o.looksAt opsA:=by
 subst b;exact alu _ (ajP.2 ⟨.tmp t,by simpa using a,rfl⟩)
theorem Ec{c:Cls}(a:Left c dst soft q fr H fr' H')(b:∀d,dst=some d->d∉o.looksAt opsA):∀x∈o.op.operands,ev T fr x=ev T fr' x:=by
 intro x f;refine DX λt h=>?_;rw[a.env]
 grind[JT]
def Fl{c:Cls}(s:Left c dst soft2 q fr H fr' H')(D:∀d,dst=some d->d∉o.looksAt opsA)(j:xl (gp E ops o) c=true)
  (hs:∀r,gp E ops o=.load r->(c=.B4->soft=true/\soft2=true)/\(∀F,c=.Od F->soft2=true)) (hv:nZ P T E ops q soft fr H o=some v\/nZ P T E ops q soft fr' H' o=some v):nZ P T E ops q soft fr H o=nZ P T E ops q soft fr' H' o:=by
 have u:=Ec (T:=T) (opsA:=opsA) s D
 by_cases k:∃t x,o.op=.load t x
 .obtain⟨t,x,a⟩:=k;have G:=u x (by rw[a];simp[Op.operands])
  have l:gp E ops o=.load (Gf ops x):=by unfold gp;rw[a]
  obtain⟨w,y⟩:=hs _ l;rw[l] at j
  have n:qA ops x (ev T fr x)=true/\(!soft||q.ok (ev T fr x))=true:=by
   have:∀(f:Fr) (h:dV),nZ P T E ops q soft f h o=some v->ev T f x=ev T fr x->qA ops x (ev T fr x)=true/\(!soft||q.ok (ev T fr x))=true:=by
    intro f h hv he;unfold nZ at hv;rw[a] at hv;simp only at hv
    split at hv
    .rename_i B;rw[he] at B;simpa using B
    .cases hv
   rcases hv with hv|hv
   .exact this fr H hv rfl
   .exact this fr' H' hv G.symm
  refine yJ u (λL M he=>?_) (λ_ _ _ _ he=>by rw[a] at he;cases he);rw[a] at he;injection he with I J;subst I;subst J;refine⟨λb g off K=>?_,λo' C hg=>?_⟩
  .have A:Gf ops x=some b:=by
    have:=n.1;rw[K] at this;simpa[qA] using this
   rw[A] at j;have:=s.box b (by rintro rfl;simp[xl] at j) (by rintro rfl;simp[xl] at j);exact⟨this.1.symm,this.2.symm⟩
  .by_cases he:c=.B4
   .obtain⟨g1,g2⟩:=w he
    have hq:q.all=true\/q.st o'=true:=by
     have:=n.2;rw[g1,hg] at this;simpa[Qt.ok] using this
    rcases hq with hq|hq
    .rw[(s.quiet g2).1 hq]
    .exact((s.quiet g2).2 o' hq).symm
   .rw[s.heap he y]
 .refine yJ u (λt x he=>absurd ⟨t,x,he⟩ k) λt x i ok a=>?_
  have l:gp E ops o=.load none:=by unfold gp;rw[a]
  obtain⟨w,y⟩:=hs _ l
  have hq:(!soft||q.all)=true:=by
   have:∀(f:Fr) (h:dV),nZ P T E ops q soft f h o=some v->(!soft||q.all)=true:=by
    intro f h hv;unfold nZ at hv;rw[a] at hv;simp only at hv
    split at hv
    .rename_i B;exact B
    .cases hv
   rcases hv with hv|hv
   .exact this _ _ hv
   .exact this _ _ hv
  by_cases he:c=.B4
  .obtain⟨g1,g2⟩:=w he;rw[g1] at hq;exact((s.quiet g2).1 (by simpa using hq)).symm
  .exact(s.heap he y).symm
theorem O8(fr:Fr){b:Nat}(h:d≠b)(cs a:List AV):ld (ld fr d cs) b a=ld (ld fr b a) d cs:=by
 simp only[ld,AD _ _ _ _ h,AD _ _ _ _ h.symm]
 grind[AL]
theorem AY(fr:Fr)(h:d2≠some d)(cs:List AV)(r:AV):(ld fr d cs).put d2 r=ld (fr.put d2 r) d cs:=by
 cases d2 with
 |none=>rfl|some a=>grind[ld,Fr.put,AL]
theorem UX(fr:Fr)(h:d2≠some d)(x:mZ)(r:AV):mZ.fr (fr.put d2 r) d x=(mZ.fr fr d x).put d2 r:=by
 cases d2 with
 |none=>rfl|some b=>
  have a:b≠d:=λe=>h (by rw[e]);cases x with
  |grow tag l m=>
   simp only[mZ.fr,grown,Fr.put]
   grind[AL]
  |same l=>exact nO fr a r (.slice .gK l)
theorem Gx(fr:Fr){a:Nat}(h:d≠a)(cs:List AV)(x:mZ):mZ.fr (ld fr d cs) a x=ld (mZ.fr fr a x) d cs:=by
 cases x with
 |grow tag l m=>
  simp only[mZ.fr,grown,ld]
  grind[AL]
 |same l=>grind[mZ.fr,Fr.put,ld,AL]
theorem Wy(W:o1.apart opsA o2=true)(a:xl (gp E ops o1) (gp E ops o2)=true)
  (X:∀r,gp E ops o1=.load r->(gp E ops o2=.B4->soft1=true/\soft2=true)/\(∀O,gp E ops o2=.Od O->soft2=true))
  (Y:∀r,gp E ops o2=.load r->(gp E ops o1=.B4->soft2=true/\soft1=true)/\(∀O,gp E ops o1=.Od O->soft1=true))
  (K:oD P T E ops q soft1 o1 fr H fr1 H1) (J:oD P T E ops q soft2 o2 fr1 H1 fr2 H2):∃f h,oD P T E ops q soft2 o2 fr H f h/\oD P T E ops q soft1 o1 f h fr2 H2:=by
 obtain⟨a1,a2,a3⟩:=Oper.apart_spec W
 by_cases L:gp E ops o1=.val\/∃r,gp E ops o1=.load r
 .obtain⟨v,Q,c,M⟩:=yq L K;subst M
  have Z:∃f,oD P T E ops q soft2 o2 fr H1 f H2/\f.put o1.dst v=fr2:=by
   cases w:o1.dst with
   |none=>rw[w] at c;subst c;exact⟨fr2,J,rfl⟩
   |some d=>rw[w] at c;subst c;exact II (opsA:=opsA) (a1 d w) (a2 d w) J
  obtain⟨f,R,ad⟩:=Z;have A:xl (gp E ops o1) (gp E ops o2)=true:=a;have:=Fl (o:=o1) (soft:=soft1) (qJ R) a3 A X (.inl Q);refine⟨f,H2,R,?_⟩;rw[<-ad];exact Bx (by rw[<-this];exact Q)
 .--ai second one only N
  by_cases n:gp E ops o2=.val\/∃r,gp E ops o2=.load r
  .obtain⟨v,Q,c,M⟩:=yq n J;subst M
   have A:xl (gp E ops o2) (gp E ops o1)=true:=by
    revert a
    cases gp E ops o1<;>cases gp E ops o2<;>simp[xl]<;>(intro h e;exact h e.symm)
   have:=Fl (o:=o2) (soft:=soft2) (qJ K) a1 A Y (.inr Q);refine⟨fr.put o2.dst v,H,Bx (by rw[this];exact Q),?_⟩;rw[c];cases w:o2.dst with
   |none=>exact K|some d=>exact PV (opsA:=opsA) v (a3 d w) (λe=>a2 d e w) K
  .--S
   have ae:=qJ K;have l:∀x∈o2.op.operands,ev T fr x=ev T fr1 x:=Ec (T:=T) (opsA:=opsA) ae a1;have C:∀{f:Fr} {h:dV} (U:oD P T E ops q soft2 o2 fr H f h),∀x∈o1.op.operands,ev T fr x=ev T f x:=λU=>Ec (T:=T) (opsA:=opsA) (qJ U) a3;cases j:gp E ops o1 with
   |val=>exact absurd (.inl j) L|load r=>exact absurd (.inr ⟨r,j⟩) L|Od r=>
    rw[j] at a;cases b:gp E ops o2 with
    |val=>exact absurd (.inl b) n|load O=>exact absurd (.inr ⟨O,b⟩) n|_=>rw[b] at a;simp[xl] at a
   |alloc d1=>
    obtain⟨d,cs,rfl,w,af,ah,c,M⟩:=wI j K;subst M
    have back:∀{f:Fr} {h:dV} (U:oD P T E ops q soft2 o2 fr H1 f h),oD P T E ops q soft1 o1 f h (ld f d cs) h:=λU=>
     xn w af (by rw[<-va (C U)];exact ah)
    cases b:gp E ops o2 with
    |val=>exact absurd (.inl b) n|load r=>exact absurd (.inr ⟨r,b⟩) n|Od r=>rw[j,b] at a;simp[xl] at a
    |alloc d2=>
     obtain⟨I,D,rfl,k,F,t,i,B⟩:=wI b J;subst B;have G:d≠I:=λe=>a2 d w (by rw[k,e]);have hn:oD P T E ops q soft2 o2 fr H2 (ld fr I D) H2:=xn k F (by rw[va l];exact t);refine⟨_,_,hn,?_⟩;rw[i,c,O8 fr G];exact back hn
    |B4=>
     obtain⟨r,i,_,u⟩:=DQ b J;have hn:=u fr λx V=>(l x V).symm;refine⟨_,_,hn,?_⟩;rw[i,c,AY fr (λe=>a2 d w e)];exact back hn
    |app=>
     obtain⟨I,x,k,i,B,u⟩:=D5 b J;subst B;have G:d≠I:=λe=>a2 d w (by rw[k,e]);have hn:=u fr H2 (λx V=>(l x V).symm) (by rw[c];rfl) (by rw[c];rfl);refine⟨_,_,hn,?_⟩;rw[i,c,Gx fr G];exact back hn
   |B4=>
    obtain⟨r,c,_,s⟩:=DQ j K;cases b:gp E ops o2 with
    |val=>exact absurd (.inl b) n|load r=>exact absurd (.inr ⟨r,b⟩) n|Od r=>rw[j,b] at a;simp[xl] at a
    |B4=>rw[j,b] at a;simp[xl] at a
    |alloc d2=>
     obtain⟨I,D,rfl,k,F,t,i,B⟩:=wI b J;subst B;have hn:oD P T E ops q soft2 o2 fr H (ld fr I D) H:=xn k F (by rw[va l];exact t);refine⟨_,_,hn,?_⟩;rw[i,c,<-AY fr (λe=>a2 I e k)];exact s _ λx V=>C hn x V
    |app=>grind[D5,Fr.yy,UX]
   |app=>
    obtain⟨d,x,w,c,M,s⟩:=D5 j K;subst M;cases b:gp E ops o2 with
    |val=>exact absurd (.inl b) n|load r=>exact absurd (.inr ⟨r,b⟩) n|Od r=>rw[j,b] at a;simp[xl] at a
    |app=>rw[j,b] at a;simp[xl] at a
    |alloc d2=>
     obtain⟨I,D,rfl,k,F,t,i,B⟩:=wI b J;subst B;have G:I≠d:=λe=>a2 d w (by rw[k,e]);have hn:oD P T E ops q soft2 o2 fr H2 (ld fr I D) H2:=xn k F (by rw[va l];exact t);refine⟨_,_,hn,?_⟩;rw[i,c,<-Gx fr G];exact s _ _ (λy hy=>C hn y hy) rfl rfl
    |B4=>
     obtain⟨r,i,_,u⟩:=DQ b J;have hn:=u fr λy hy=>(l y hy).symm;obtain⟨e1,e2,e3,e4⟩:=Fr.yy fr o2.dst r;refine⟨_,_,hn,?_⟩;rw[i,c,<-UX fr (λe=>a2 d w e)];exact s _ _ (λy hy=>C hn y hy) e3 e4
end
end Go.lD
namespace Go.lD
open Go
variable{E:List Nat}{G0:Nat->Nat}{K:Fr->dV->Prop}{M:Array Nat}{Post Post':AV->dV->Prop}{Q:Exit->Act->World->Prop}{a d1 d2 dst:Option Nat}{as:List AV}{c:Call}{d i j n0 s:Nat}{f:Fr}{listed:Array Bool}{ops:List Oper}{sf:Nat->Bool}{t:TypeId}{v:AV}{w0:World}{x:Operand}
def hH(opsA:Array Oper)(o:Oper)(fr:Fr):Option Bool:=
 match o.guard with
 |none=>some true|some (j,want)=>
  match(opsA[j]?).bind (·.dst)with
  |some d=>match fr.env d with
   |.sc (.bool b)=>some (b==want)|.tuple _=>some false|_=>none
  |none=>none
def j6(E:List Nat)(o:Oper):Bool:=
 match o.op with
 |.call c=>(match c.callee with
  |.builtin .append=>o.dst.any E.contains|.value _=>o.dst.any E.contains|_=>false)
 |_=>false
def isV(c:Call):Bool:=
 match c.callee with
 |.value _=>true|_=>false
def aaq(P:Program)(T:eK)(q:Qt)(soft:Bool)(a:AV)(as:List AV)(dst:Option Nat)(K:Fr->dV->Prop)(fr:Fr)(H:dV):Prop:=
 ∃Post:AV->dV->Prop,oa P T a as H Post/\(∃r h,Post r h)/\∀r h,Post r h->(soft=true->QK q H h)/\K (fr.put dst r) h
def mX(P:Program)(T:eK)(q:Qt)(soft:Bool)(c:Call)(dst:Option Nat)(K:Fr->dV->Prop)(fr:Fr)(H:dV):Prop:=
 match c.callee with
 |.value f=>aaq P T q soft (ev T fr f) (c.args.toList.map λx=>(ev T fr x).norm) dst K fr H|_=>pS P T c dst K fr H
def Xb(E:List Nat)(q:Qt)(x:Operand)(v:AV):Prop:=E.contains 999999=true->∃a off t,v=.fg a off/\x=.tmp t/\q.cl a=t
@[simp] theorem alJ{q:Qt}(h:E.contains 999999=false):Xb E q x v=True:=eq_true λa=>by rw[h] at a;cases a
def Ft(T:eK)(E:List Nat)(q:Qt)(fr:Fr)(o:Oper):Prop:=
 match o.op with
 |.store _ x _=>Xb E q x (ev T fr x)|_=>True
def pU(o:Oper):Option Nat:=
 match o.op with
 |.store _ (.tmp t) _=>some t|_=>none
def wU(o:Oper):Bool:=
 match o.op with
 |.store _ _ _=>true|_=>false
def pW(P:Program)(T:eK)(E:List Nat)(ops:List Oper)(q:Qt)(soft:Bool)(o:Oper)(K:Fr->dV->Prop)(fr:Fr)(H:dV):Prop:=
 if j6 E o then(match o.op with
  |.call c=>mX P T q soft c o.dst K fr H|_=>False)else if wU o then(Ft T E q fr o/\hE P T E ops q soft o K fr H)else hE P T E ops q soft o K fr H
def hQ(P:Program)(T:eK)(E:List Nat)(opsA:Array Oper)(q:Qt)(soft:Bool)(o:Oper)(K:Fr->dV->Prop)(fr:Fr)(H:dV):Prop:=
 match hH opsA o fr with
 |some true=>pW P T E opsA.toList q soft o K fr H|some false=>K (fr.put o.dst (.tuple [])) H|none=>False
def JW(P:Program)(T:eK)(E:List Nat)(opsA:Array Oper)(q:Qt)(sf:Nat->Bool):List Nat->(Fr->dV->Prop)->Fr->dV->Prop
 |[],K,fr,H=>K fr H|i::rest,K,fr,H=>match opsA[i]?with
  |some o=>hQ P T E opsA q (sf i) o (λfr H=>JW P T E opsA q sf rest K fr H) fr H|none=>False
section
variable{P:Program} {T:eK} {E:List Nat} {opsA:Array Oper} {q:Qt} {soft soft1 soft2:Bool} {o o1 o2:Oper} {K K':Fr->dV->Prop} {fr fr':Fr} {H H':dV}
theorem Bm(h:j6 E o=true):∃c d,o.op=.call c/\(c.callee=.builtin .append\/∃f,c.callee=.value f)/\o.dst=some d:=by
 unfold j6 at h
 split at h
 .have a:o.dst.any E.contains=true->∃d,o.dst=some d:=by
   intro h;cases a:o.dst with
   |none=>grind|some d=>exact⟨d,rfl⟩
  grind
 .cases h
theorem qL(h:j6 E o=true)(a:o.op=.call c):pW P T E ops q soft o K fr H=mX P T q soft c o.dst K fr H:=by grind[pW]
theorem pG(h:j6 E o=false):pW P T E ops q soft o K fr H=(Ft T E q fr o/\hE P T E ops q soft o K fr H):=by grind[pW,wU,Ft]
theorem Yv(h:gp E ops o=.val\/∃r,gp E ops o=.load r):Ft T E q fr o:=by grind[Ft,gp]
def yK(he:∀x∈o.op.operands,ev T fr x=ev T f x)(h:Ft T E q fr o):Ft T E q f o:=by
 unfold Ft Xb at*
 split
 .rename_i t x y a;rw[a] at h;intro b;obtain⟨c,off,s,d,i,j⟩:=h b;exact⟨c,off,s,by rw[<-he x (by rw[a];simp[Op.operands])];exact d,i,j⟩
 .trivial
theorem BF{a:List Oper}(h:j6 E o=false)(b:gp E a o=.val\/∃r,gp E a o=.load r):pW P T E ops q soft o K fr H=hE P T E ops q soft o K fr H:=by grind[pG,Yv]
theorem Nj(i:∀r h,K (fr.put dst r) h->K' (fr.put dst r) h)(h:pS P T c dst K fr H):pS P T c dst K' fr H:=by
 unfold pS at*
 split at h
 .split at h
  .obtain⟨a,b,d,f,h⟩:=h;refine⟨a,b,d,f,?_⟩
   grind
  .exact h
 .exact h
theorem Uu(h:pS P T c dst K fr H):∃r a,K (fr.put dst r) a:=by
 unfold pS at h
 split at h
 all_goals grind
theorem PH(n:∀x∈c.args.toList,ev T (fr.put (some d) v) x=ev T fr x)(a:dst≠some d)(h:pS P T c dst K (fr.put (some d) v) H):pS P T c dst (λf h=>K (f.put (some d) v) h) fr H:=by
 unfold pS at*
 split at h
 .rename_i b s x t o i l;have j:b≠d:=λe=>a (by rw[e]);have k:∀y:AV,(fr.put (some b) y).put (some d) v=(fr.put (some d) v).put (some b) y:=λy=>nO fr j y v
  simp_all
 .exact h
theorem oa.mono{a:AV}(h:oa P T a as H Post)(b:∀r h,Post r h->Post' r h):oa P T a as H Post':=by
 unfold oa at*
 split at h
 .exact h.mono b
 .exact h
theorem y_(d:∀r h,(isV c=true->soft=true->QK q H h)->K (fr.put dst r) h->K' (fr.put dst r) h)(h:mX P T q soft c dst K fr H):mX P T q soft c dst K' fr H:=by
 unfold mX at*
 split at h
 .obtain⟨Post,f,i,a⟩:=h;exact⟨Post,f,i,λr h b=>⟨(a r h b).1,d r h (λ_=>(a r h b).1) (a r h b).2⟩⟩
 .grind[Nj,isV]
theorem Zj(h:mX P T q soft c dst K fr H):∃r a,(isV c=true->soft=true->QK q H a)/\K (fr.put dst r) a:=by
 unfold mX at h
 split at h
 .obtain⟨Post,b,⟨r,a,d⟩,f⟩:=h
  grind
 .grind[Uu,isV]
theorem M5(b:∀x∈c.operands.toList,ev T (fr.put (some d) v) x=ev T fr x)(i:dst≠some d)(h:mX P T q soft c dst K (fr.put (some d) v) H):mX P T q soft c dst (λf h=>K (f.put (some d) v) h) fr H:=by
 have a:∀x∈c.args.toList,ev T (fr.put (some d) v) x=ev T fr x:=λx j=>b x (by
  unfold Call.operands;rw[Array.toList_append]
  exact List.mem_append_right _ j)
 unfold mX at*
 split at h
 .rename_i f o;obtain⟨Post,k,s,l⟩:=h;rw[b f (by unfold Call.operands;rw[o];simp),th (g:=λx=>(ev T fr x).norm) (λx j=>by rw[a x j])] at k;refine⟨Post,k,s,λr h n=>⟨(l r h n).1,?_⟩⟩;have:=(l r h n).2;cases dst with
  |none=>exact this|some t=>grind[nO]
 .exact PH a i h
theorem C8(a:∀fr H,K fr H->K' fr H)(h:hQ P T E opsA q soft o K fr H):hQ P T E opsA q soft o K' fr H:=by
 unfold hQ at*
 split at h
 .cases hg:j6 E o with
  |true=>
   obtain⟨c,d,b,_,f⟩:=Bm hg;rw[qL hg b] at h|-
   grind[y_]
  |false=>grind[pG,J2]
 .exact a _ _ h
 .exact h
theorem QS(h:pW P T E opsA.toList q soft o K fr H):rp P T E o K fr H:=by
 cases hg:j6 E o with
 |true=>
  obtain⟨c,d,b,a,l⟩:=Bm hg;rw[qL hg b] at h;unfold rp;rw[b];rcases a with a|⟨f,a⟩
  .grind[mX]
  .simp only[a];unfold mX at h;rw[a] at h;obtain⟨Post,i,_,j⟩:=h;exact i.mono λr h k=>(j r h k).2
 |false=>
  rw[pG hg] at h;exact Pv h.2
theorem Qf(h:hQ P T E opsA q soft o K fr H):EP P T E opsA o K fr H:=by grind[hQ,hH,EP,QS]
theorem yR(h:∀t,t∈o.looksAt opsA->fr'.env t=fr.env t):hH opsA o fr'=hH opsA o fr:=by
 unfold hH;cases hg:o.guard with
 |none=>rfl|some p=>
  obtain⟨j,want⟩:=p;simp only
  cases a:(opsA[j]?).bind (·.dst)with
  |none=>rfl|some d=>
   have:d∈o.looksAt opsA:=by
    unfold Oper.looksAt
    grind
   grind
theorem kT{d:Option Nat}(h:∀a,d=some a->a∉o.looksAt opsA):hH opsA o (fr.put d v)=hH opsA o fr:=by grind[yR,Fr.ub]
theorem CK{c:Cls}(b:Left c dst soft q fr H fr' H')(h:∀a,dst=some a->a∉o.looksAt opsA):hH opsA o fr'=hH opsA o fr:=by
 refine yR λt d=>b.env t ?_
 grind
def afJ(E:List Nat)(opsA:Array Oper)(s1 s2:Bool)(o1 o2:Oper):Bool:=
 o1.apart opsA o2&&xl (gp E opsA.toList o1) (gp E opsA.toList o2)&&
 (match gp E opsA.toList o1,gp E opsA.toList o2 with
  |.load _,.B4=>s1&&s2|.B4,.load _=>s1&&s2|.load _,.Od _=>s2|.Od _,.load _=>s1|_,_=>true)
def Hv(o:Oper):Bool:=
 match o.op with
 |.call c=>isV c|_=>false
def MQ(E:List Nat)(o:Oper):Bool:=
 match o.op,o.dst with
 |.alloc _,some d=>!E.contains d|_,_=>false
theorem Nd(h:MQ E o=true):∃t d,o.op=.alloc t/\o.dst=some d/\E.contains d=false:=by grind[MQ]
def acV(E:List Nat)(opsA:Array Oper)(s1 s2:Bool)(o1 o2:Oper):Bool:=
 match gp E opsA.toList o2 with
 |.val=>true|.load _=>Hv o1&&s1&&s2|.alloc _=>Hv o1&&MQ E o2|_=>false
theorem QH{s1 s2:Bool}(h:acV E opsA s1 s2 o1 o2=true):(gp E opsA.toList o2=.val\/(∃r,gp E opsA.toList o2=.load r)/\Hv o1=true/\s1=true/\s2=true)\/Hv o1=true/\MQ E o2=true:=by grind[acV]
def adt(E:List Nat)(opsA:Array Oper)(s1 s2:Bool)(o1 o2:Oper):Bool:=
 if j6 E o1||j6 E o2 then
  o1.apart opsA o2&&(j6 E o1&&!j6 E o2&&acV E opsA s1 s2 o1 o2||j6 E o2&&!j6 E o1&&acV E opsA s2 s1 o2 o1)
 else if E.contains 999999&&(pU o1).isSome&&(pU o2).isSome&&pU o1 !=pU o2&&o1.dst==none&&o2.dst==none then true
 else afJ E opsA s1 s2 o1 o2
theorem ZS{h:dV}(b:gp E opsA.toList o=.val)(he:∀x∈o.op.operands,ev T fr x=ev T f x):nZ P T E opsA.toList q soft fr H o=nZ P T E opsA.toList q soft f h o:=by
 refine yJ he (λt x a=>?_) λt x i ok a=>?_
 all_goals grind[gp]
theorem IC{d:Option Nat}(b:∀a,d=some a->a∉o.looksAt opsA):∀x∈o.op.operands,ev T fr x=ev T (fr.put d v) x:=by grind[DX,Fr.ub,JT]
theorem Ff(h:∀d,d1=some d->d2≠some d)(x y:AV):(fr.put d1 x).put d2 y=(fr.put d2 y).put d1 x:=by
 cases d1 with
 |none=>rfl|some a=>
  cases d2 with
  |none=>rfl|some b=>grind[nO]
theorem WU(a:o.op=.call c)(b:x∈c.args.toList):x∈o.op.operands:=by
 rw[a];simp[Op.operands,Call.operands,yd.1 b]
theorem mA(h:hQ P T E opsA q soft o K fr H):hH opsA o fr=some true/\pW P T E opsA.toList q soft o K fr H\/hH opsA o fr=some false/\K (fr.put o.dst (.tuple [])) H:=by grind[hQ]
theorem sM(hg:hH opsA o fr=some true)(h:pW P T E opsA.toList q soft o K fr H):hQ P T E opsA q soft o K fr H:=by grind[hQ]
theorem ui(hg:hH opsA o fr=some false)(h:K (fr.put o.dst (.tuple [])) H):hQ P T E opsA q soft o K fr H:=by grind[hQ]
def IM(a:o.op=.call c)(b:x∈c.operands.toList):x∈o.op.operands:=by
 rw[a];exact yd.1 b
def afy(a:gp E opsA.toList o2=.val\/(∃r,gp E opsA.toList o2=.load r)/\Hv o1=true/\soft1=true/\soft2=true)(l:o1.op=.call c)(k:∀d,o1.dst=some d->d∉o2.looksAt opsA){r:AV}{f:dV}
  (n:isV c=true->soft1=true->QK q H f) (s:nZ P T E opsA.toList q soft2 fr H o2=some v\/nZ P T E opsA.toList q soft2 (fr.put o1.dst r) f o2=some v):nZ P T E opsA.toList q soft2 fr H o2=nZ P T E opsA.toList q soft2 (fr.put o1.dst r) f o2:=by
 rcases a with a|⟨⟨rr,a⟩,i,u,w⟩
 .exact ZS a (IC k)
 .have j:isV c=true:=by unfold Hv at i;rw[l] at i;exact i
  have x:Left .B4 o1.dst true q fr H (fr.put o1.dst r) f:=⟨λt y=>by rw[Fr.ub,dK y],λb _ _=>⟨by cases o1.dst<;>rfl,by cases o1.dst<;>rfl⟩,λh=>(h rfl).elim,λ_=>n j u⟩;refine Fl (o:=o2) (opsA:=opsA) x k (by rw[a];rfl) (λ_ _=>⟨λ_=>⟨w,rfl⟩,λ_ h=>by cases h⟩) s
theorem RB(w:o1.apart opsA o2=true)(B:gp E opsA.toList o1=.val\/(∃r,gp E opsA.toList o1=.load r)/\Hv o2=true/\soft2=true/\soft1=true)(s:j6 E o1=false)(i:j6 E o2=true)(h:hQ P T E opsA q soft1 o1 (λfr H=>hQ P T E opsA q soft2 o2 K fr H) fr H):hQ P T E opsA q soft2 o2 (λfr H=>hQ P T E opsA q soft1 o1 K fr H) fr H:=by
 obtain⟨a1,a2,a3⟩:=Oper.apart_spec w;obtain⟨c,d2,u,_,F⟩:=Bm i;have j:gp E opsA.toList o1=.val\/∃r,gp E opsA.toList o1=.load r:=B.imp id λh=>h.1
 have key:∃v,(∀r h,(isV c=true->soft2=true->QK q H h)->K ((fr.put o2.dst r).put o1.dst v) h->hQ P T E opsA q soft1 o1 K (fr.put o2.dst r) h)/\hQ P T E opsA q soft2 o2 K (fr.put o1.dst v) H:=by
  rcases mA h with⟨k,n⟩|⟨k,n⟩
  .rw[BF s j] at n;obtain⟨f1,H1,y,a⟩:=tN n;obtain⟨v,C,G,I⟩:=yq j y;rw[G,I] at a;refine⟨v,λr D A t=>sM (by rw[kT a3,k]) ?_,a⟩;rw[BF s j];exact wP (Bx (by rw[<-afy B u a3 A (.inl C)];exact C)) t
  .exact⟨_,λr D _ t=>ui (by rw[kT a3,k]) t,n⟩
 obtain⟨v,back,n⟩:=key;rcases mA n with⟨l,a⟩|⟨l,a⟩
 .rw[kT a1] at l;rw[qL i u] at a;refine sM l ?_;rw[qL i u]
  have J:mX P T q soft2 c o2.dst (λf h=>K (f.put o1.dst v) h) fr H:=by
   cases b:o1.dst with
   |none=>rw[b] at a;exact a
   |some d=>rw[b] at a;exact M5 (λx L=>(IC (o:=o2) (opsA:=opsA) (d:=some d) (λM e=>by cases e;exact a1 d b) x (IM u L)).symm) (a2 d b) a
  exact y_ (λr D A t=>back _ _ A t) J
 .grind[kT,Ff,ui,QK.refl]
def Rg(D:o1.apart opsA o2=true)(M:gp E opsA.toList o2=.val\/(∃r,gp E opsA.toList o2=.load r)/\Hv o1=true/\soft1=true/\soft2=true)(n:j6 E o1=true)(A:j6 E o2=false)(h:hQ P T E opsA q soft1 o1 (λfr H=>hQ P T E opsA q soft2 o2 K fr H) fr H):hQ P T E opsA q soft2 o2 (λfr H=>hQ P T E opsA q soft1 o1 K fr H) fr H:=by
 obtain⟨a1,a2,a3⟩:=Oper.apart_spec D;obtain⟨c,d1,C,_,N⟩:=Bm n;have s:gp E opsA.toList o2=.val\/∃r,gp E opsA.toList o2=.load r:=M.imp id λh=>h.1
 have inv:∀{r:AV} {y:dV} {t:Fr->dV->Prop},(isV c=true->soft1=true->QK q H y)->hQ P T E opsA q soft2 o2 t (fr.put o1.dst r) y->∃v,(hH opsA o2 fr=some true/\nZ P T E opsA.toList q soft2 fr H o2=some v\/hH opsA o2 fr=some false/\v=.tuple [])/\t ((fr.put o1.dst r).put o2.dst v) y:=by
  intro r y t F O;rcases mA O with⟨a,b⟩|⟨a,b⟩
  .rw[BF A s] at b;obtain⟨f1,H1,G,i⟩:=tN b;obtain⟨v,j,I,Q⟩:=yq s G;rw[I,Q] at i;exact⟨v,.inl ⟨by rw[<-kT (o:=o2) a1];exact a,by rw[afy M C a1 F (.inr j)];exact j⟩,i⟩
  .exact⟨_,.inr ⟨by rw[<-kT (o:=o2) a1];exact a,rfl⟩,b⟩
 have fwd:∀{v:AV} {t:Fr->dV->Prop},(hH opsA o2 fr=some true/\nZ P T E opsA.toList q soft2 fr H o2=some v\/hH opsA o2 fr=some false/\v=.tuple [])->t (fr.put o2.dst v) H->hQ P T E opsA q soft2 o2 t fr H:=by
  intro v t j k;rcases j with⟨a,j⟩|⟨a,rfl⟩
  .refine sM a ?_;rw[BF A s];exact wP (Bx j) k
  .exact ui a k
 have uniq:∀{v w:AV},(hH opsA o2 fr=some true/\nZ P T E opsA.toList q soft2 fr H o2=some v\/hH opsA o2 fr=some false/\v=.tuple [])->(hH opsA o2 fr=some true/\nZ P T E opsA.toList q soft2 fr H o2=some w\/hH opsA o2 fr=some false/\w=.tuple [])->v=w:=by
  intro v w b i;rcases b with⟨g1,b⟩|⟨g1,rfl⟩<;>rcases i with⟨g2,i⟩|⟨g2,rfl⟩
  .rw[b] at i;exact hU i
  .rw[g1] at g2;cases g2
  .rw[g1] at g2;cases g2
  .rfl
 rcases mA h with⟨u,b⟩|⟨u,b⟩
 .rw[qL n C] at b;obtain⟨V,W,J,L⟩:=Zj b;obtain⟨v,j,_⟩:=inv J L;refine fwd j (sM (by rw[kT a3,u]) ?_);rw[qL n C]
  have i:mX P T q soft1 c o1.dst (λf h=>K (f.put o2.dst v) h) fr H:=y_ (λr y F k=>by
   obtain⟨w,hw,k⟩:=inv F k;rw[uniq j hw]
   exact k) b
  cases l:o2.dst with
  |none=>rw[l] at i;exact i
  |some d=>
   rw[l] at i;have B:o1.dst≠some d:=λe=>a2 d e l
   have R:mX P T q soft1 c o1.dst (λf h=>K (f.put (some d) v) h) ((fr.put (some d) v).put (some d) (fr.env d)) H:=by
    rw[Ie,D3];exact i
   have S:=M5 (λx U=>(by
    have:=IC (o:=o1) (opsA:=opsA) (T:=T) (fr:=fr.put (some d) v) (d:=some d) (v:=fr.env d) (λX e=>by cases e;exact a3 d l) x (IM C U)
    exact this.symm)) B R
   refine y_ (λr y _ k=>?_) S
   have I:(((fr.put (some d) v).put o1.dst r).put (some d) (fr.env d)).put (some d) v=(fr.put (some d) v).put o1.dst r:=by
    rw[Ie];have hs:=D3 ((fr.put (some d) v).put o1.dst r) d
    have he:((fr.put (some d) v).put o1.dst r).env d=v:=by
     rw[Fr.ub,dK B,Fr.ub,dO rfl]
    rw[he] at hs;exact hs
   rw[I] at k;exact k
 .obtain⟨v,j,k⟩:=inv (λ_ _=>QK.refl) b;refine fwd j (ui (by rw[kT a3,u]) ?_);rw[<-Ff a2];exact k
def alF(d:Nat)(b:Bool)(z:List AV)(fr:Fr):Fr:=if b then ld fr d z else fr.put (some d) (.tuple [])
theorem VJ{t:Nat}{b:Bool}{z:List AV}(h:t≠d):(alF d b z fr).env t=fr.env t:=by
 unfold alF
 split
 .show gN fr.env d _ t=_
  grind[gN]
 .grind[Fr.ub]
theorem H7{b:Bool}{z:List AV}(h:a≠some d)(v:AV):(alF d b z fr).put a v=alF d b z (fr.put a v):=by grind[alF,AY,Ff]
theorem zj(a:o.op=.alloc t)(c:o.dst=some d)(i:E.contains d=false):hQ P T E opsA q soft o K fr H↔∃b z,hH opsA o fr=some b/\(b=true->jH P t=some z)/\K (alF d b z fr) H:=by
 have hn:j6 E o=false:=by unfold j6;rw[a]
 have hs:pW P T E opsA.toList q soft o K fr H=(match jH P t with|some z=>K (ld fr d z) H|none=>False):=by
  unfold pW wU;rw[hn,a];simp only[pA,jt];unfold hE;rw[a];simp only;cases jH P t with
  |none=>rfl|some z=>
   simp only;unfold ly;rw[c];simp only;rw[dK (by rw[i];decide)];refine propext ⟨λh=>h.2,λh=>⟨λ_=>?_,h⟩⟩;show E.contains d=false;exact i
 constructor
 .intro h;rcases mA h with⟨hg,h⟩|⟨hg,h⟩
  .rw[hs] at h
   split at h
   .rename_i z f;exact⟨true,z,hg,λ_=>f,h⟩
   .exact h.elim
  .rw[c] at h;exact⟨false,[],hg,(λe=>by cases e),h⟩
 .rintro⟨b,z,hg,f,h⟩;cases b with
  |true=>
   refine sM hg ?_;rw[hs,f rfl];exact h
  |false=>
   refine ui hg ?_;rw[c];exact h
theorem akJ{b:Bool}{z:List AV}(a:d∉o.looksAt opsA):∀x∈o.op.operands,ev T (alF d b z fr) x=ev T fr x:=by grind[DX,VJ,JT]
theorem EK{b:Bool}{z:List AV}(a:d∉o.looksAt opsA):hH opsA o (alF d b z fr)=hH opsA o fr:=by grind[yR,VJ]
theorem Rq(h:Hv o=true):∃c f,o.op=.call c/\c.callee=.value f:=by grind[Hv,isV]
theorem Yw{f:Operand}{b:Bool}{z:List AV}(h:o.op=.call c)(i:c.callee=.value f)(j:d∉o.looksAt opsA):ev T (alF d b z fr) f=ev T fr f/\(c.args.toList.map λx=>(ev T (alF d b z fr) x).norm)=c.args.toList.map λx=>(ev T fr x).norm:=by
 have he:=λx a=>akJ (T:=T) (fr:=fr) (b:=b) (z:=z) j x a;refine⟨he f (IM h (by unfold Call.operands;rw[i];simp)),th λx a=>?_⟩
 grind[WU]
theorem RR(k:o1.apart opsA o2=true)(l:MQ E o1=true)(n:Hv o2=true)(o:j6 E o2=true)(h:hQ P T E opsA q soft1 o1 (λfr H=>hQ P T E opsA q soft2 o2 K fr H) fr H):hQ P T E opsA q soft2 o2 (λfr H=>hQ P T E opsA q soft1 o1 K fr H) fr H:=by
 obtain⟨a1,a2,a3⟩:=Oper.apart_spec k;obtain⟨t,d,u,j,v⟩:=Nd l;obtain⟨c,f,w,x⟩:=Rq n;have s:o2.dst≠some d:=a2 d j;obtain⟨b,z,hg,C,h⟩:=(zj u j v).1 h;rcases mA h with⟨a,i⟩|⟨a,i⟩
 .rw[EK (a1 d j)] at a;refine sM a ?_;rw[qL o w] at i|-;unfold mX at i|-;rw[x] at i|-;simp only at i|-;obtain⟨D,F⟩:=Yw (T:=T) (fr:=fr) (b:=b) (z:=z) w x (a1 d j);rw[D,F] at i;obtain⟨Post,G,I,y⟩:=i;refine⟨Post,G,I,λr A B=>⟨(y r A B).1,(zj u j v).2 ⟨b,z,by rw[kT a3,hg],C,?_⟩⟩⟩;rw[<-H7 s];exact(y r A B).2
 .grind[EK,ui,zj,kT,H7]
theorem R3(n:o1.apart opsA o2=true)(o:Hv o1=true)(s:MQ E o2=true)(j:j6 E o1=true)(h:hQ P T E opsA q soft1 o1 (λfr H=>hQ P T E opsA q soft2 o2 K fr H) fr H):hQ P T E opsA q soft2 o2 (λfr H=>hQ P T E opsA q soft1 o1 K fr H) fr H:=by
 obtain⟨a1,a2,a3⟩:=Oper.apart_spec n;obtain⟨t,d,u,a,v⟩:=Nd s;obtain⟨c,f,w,x⟩:=Rq o;have y:o1.dst≠some d:=λe=>a2 d e a;rcases mA h with⟨k,i⟩|⟨k,i⟩
 .rw[qL j w] at i;unfold mX at i;rw[x] at i;simp only at i;obtain⟨Post,M,⟨C,D,F⟩,A⟩:=i;obtain⟨b,z,hg,G,_⟩:=(zj u a v).1 (A C D F).2;rw[kT a1] at hg;refine(zj u a v).2 ⟨b,z,hg,G,sM (by rw[EK (a3 d a),k]) ?_⟩;rw[qL j w];unfold mX;rw[x];simp only;obtain⟨N,O⟩:=Yw (T:=T) (fr:=fr) (b:=b) (z:=z) w x (a3 d a);rw[N,O];refine⟨Post,M,⟨C,D,F⟩,λr I J=>⟨(A r I J).1,?_⟩⟩;obtain⟨Q,R,l,B,L⟩:=(zj u a v).1 (A r I J).2;rw[kT a1,hg] at l;obtain rfl:b=Q:=hU l;rw[H7 y];cases b with
  |true=>
   obtain rfl:z=R:=hU (by rw[<-G rfl,<-B rfl]);exact L
  |false=>exact L
 .grind[zj,kT,ui,EK,H7]
theorem akv{a off:Nat}:mj P t (.fg a off) v K fr H↔∃agg n cs,f' P t=some (agg,n)/\H[a]?=some cs/\(uZ cs=true/\v.cells.length=n/\off+n<=cs.length/\fG v=true)/\K fr (H.set a (setCells cs off v.norm.cells)):=by grind[mj]
theorem GK(h:pU o=some s):∃t y,o.op=.store t (.tmp s) y:=by grind[pU]
theorem ac9(h:pU o=some s):j6 E o=false:=by grind[GK,j6]
def tG(l:E.contains 999999=true)(hs:pU o=some s):pW P T E ops q soft o K fr H↔
  ∃t y a off agg n cs,o.op=.store t (.tmp s) y/\o.dst=none/\ev T fr (.tmp s)=.fg a off/\q.cl a=s/\qA ops (.tmp s) (.fg a off)=true/\soft=false/\f' P t=some (agg,n)/\H[a]?=some cs/\(uZ cs=true/\(ev T fr y).cells.length=n/\off+n<=cs.length/\fG (ev T fr y)=true)/\K fr (H.set a (setCells cs off (ev T fr y).norm.cells)):=by
 obtain⟨t,y,r⟩:=GK hs;rw[pG (ac9 hs)];unfold Ft Xb hE;rw[r];simp only;constructor
 .rintro⟨u,h,d,f,k⟩;obtain⟨a,off,A,c,i,j⟩:=u l;injection i with i;subst i;rw[c] at d f k;obtain⟨agg,n,cs,g1,g2,g3,g4⟩:=akv.1 k;refine⟨t,y,a,off,agg,n,cs,rfl,h,c,j,d,?_,g1,g2,g3,g4⟩;cases b:soft with
  |false=>rfl|true=>have:=f b;simp[isL] at this
 .rintro⟨B,C,a,off,agg,n,cs,v,h,c,j,d,f,g1,g2,g3,g4⟩;injection v with w D x;subst w;subst x;refine⟨λ_=>⟨a,off,s,c,rfl,j⟩,h,by rw[c];exact d,λb=>?_,?_⟩
  .rw[f] at b;cases b
  .rw[c];exact akv.2 ⟨agg,n,cs,g1,g2,g3,g4⟩
theorem QU{s1 s2:Nat}(k:E.contains 999999=true)(l:pU o1=some s1)(f:pU o2=some s2)(u:s1≠s2)(h:hQ P T E opsA q soft1 o1 (λfr H=>hQ P T E opsA q soft2 o2 K fr H) fr H)(w:o1.dst=none)(x:o2.dst=none):hQ P T E opsA q soft2 o2 (λfr H=>hQ P T E opsA q soft1 o1 K fr H) fr H:=by
 have F:∀v,fr.put o1.dst v=fr:=λv=>by rw[w];rfl
 have R:∀v,fr.put o2.dst v=fr:=λv=>by rw[x];rfl
 rcases mA h with⟨i,s⟩|⟨i,s⟩
 .obtain⟨t,y,A,off,agg,n,cs,G,I,J,B,L,M,N,O,Q,s⟩:=(tG k l).1 s;rcases mA s with⟨a,b⟩|⟨a,b⟩
  .obtain⟨C,D,j,c,d,n',o,f0,f1,f2,f3,f4,f5,f6,f7,f8,b⟩:=(tG k f).1 b
   have r:A≠j:=by rintro rfl;exact u (B.symm.trans f3)
   rw[Tv r] at f7;refine sM a ((tG k f).2 ⟨C,D,j,c,d,n',o,f0,f1,f2,f3,f4,f5,f6,f7,f8,?_⟩);refine sM i ((tG k l).2 ⟨t,y,A,off,agg,n,cs,G,I,J,B,L,M,N,?_,Q,?_⟩)
   .rw[Tv (λe=>r e.symm)];exact O
   .rw[List.set_comm _ _ (λe=>r e.symm)];exact b
  .refine ui a ?_;rw[R] at b|-;exact sM i ((tG k l).2 ⟨t,y,A,off,agg,n,cs,G,I,J,B,L,M,N,O,Q,b⟩)
 .rw[F] at s;rcases mA s with⟨a,b⟩|⟨a,b⟩
  .obtain⟨C,D,j,c,d,n',o,f0,f1,f2,f3,f4,f5,f6,f7,f8,b⟩:=(tG k f).1 b;exact sM a ((tG k f).2 ⟨C,D,j,c,d,n',o,f0,f1,f2,f3,f4,f5,f6,f7,f8,ui i (by rw[F];exact b)⟩)
  .grind[ui,hQ]
theorem Tp(c:adt E opsA soft1 soft2 o1 o2=true)(h:hQ P T E opsA q soft1 o1 (λfr H=>hQ P T E opsA q soft2 o2 K fr H) fr H):hQ P T E opsA q soft2 o2 (λfr H=>hQ P T E opsA q soft1 o1 K fr H) fr H:=by
 unfold adt at c
 by_cases hG:(j6 E o1||j6 E o2)=true
 .rw[dO hG] at c;simp only[gJ,sx,afY] at c;obtain⟨b,⟨⟨g1,g2⟩,g3⟩|⟨⟨g1,g2⟩,g3⟩⟩:=c
  .rcases QH g3 with g3|⟨g3,g4⟩
   .exact Rg b g3 g1 g2 h
   .exact R3 b g3 g4 g1 h
  .rcases QH g3 with g3|⟨g3,g4⟩
   .exact RB b g3 g2 g1 h
   .exact RR b g4 g3 g1 h
 rw[dK hG] at c
 by_cases L:(E.contains 999999&&(pU o1).isSome&&(pU o2).isSome&&pU o1 !=pU o2&&o1.dst==none&&o2.dst==none)=true
 .simp only[gJ,Option.isSome_iff_exists,bne_iff_ne,ne_eq,agN] at L;obtain⟨⟨⟨⟨⟨U,s1,o⟩,s2,s⟩,M⟩,w⟩,y⟩:=L;exact QU U o s (by rintro rfl;exact M (by rw[o,s])) h w y
 rw[dK L] at c
 have A:j6 E o1=false:=by cases V:j6 E o1<;>simp_all
 have B:j6 E o2=false:=by cases V:j6 E o2<;>simp_all
 unfold afJ at c;simp only[gJ] at c;obtain⟨⟨b,D⟩,a⟩:=c;obtain⟨a1,a2,a3⟩:=Oper.apart_spec b
 have o:∀r,gp E opsA.toList o1=.load r->(gp E opsA.toList o2=.B4->soft1=true/\soft2=true)/\(∀F,gp E opsA.toList o2=.Od F->soft2=true):=by
  intro r N;rw[N] at a;refine⟨λhe=>?_,λF he=>?_⟩<;>rw[he] at a
  .simpa using a
  .exact a
 have s:∀r,gp E opsA.toList o2=.load r->(gp E opsA.toList o1=.B4->soft2=true/\soft1=true)/\(∀F,gp E opsA.toList o1=.Od F->soft1=true):=by
  intro r N;rw[N] at a;refine⟨λhe=>?_,λF he=>?_⟩<;>rw[he] at a
  .have:soft1=true/\soft2=true:=by simpa using a
   exact⟨this.2,this.1⟩
  .exact a
 unfold hQ at h;simp only[pG A,pG B] at h
 split at h
 .--O first one is carried out
  rename_i j;obtain⟨v,h⟩:=h;obtain⟨f1,H1,t,h⟩:=tN h;have G:=qJ t;have C:hH opsA o2 f1=hH opsA o2 fr:=CK G a1;rw[C] at h;unfold hQ;simp only[pG A,pG B]
  split at h
  .rename_i k;obtain⟨l,h⟩:=h;obtain⟨f2,H2,i,Q⟩:=tN h;obtain⟨f,W,n,I⟩:=Wy b D o s t i;refine⟨yK (λx c=>(Ec (T:=T) (opsA:=opsA) G a1 x c).symm) l,wP n ?_⟩;have:hH opsA o1 f=hH opsA o1 fr:=CK (qJ n) a3;rw[this,j];exact⟨yK (Ec (T:=T) (opsA:=opsA) (qJ n) a3) v,wP I Q⟩
  .rename_i k
   show match hH opsA o1 (fr.put o2.dst (.tuple []))with
    |some true=>Ft T E q (fr.put o2.dst (.tuple [])) o1/\hE P T E opsA.toList q soft1 o1 K (fr.put o2.dst (.tuple [])) H|some false=>K ((fr.put o2.dst (.tuple [])).put o1.dst (.tuple [])) H|none=>False
   rw[kT a3,j];simp only;refine⟨yK (IC a3) v,?_⟩;cases u:o2.dst with
   |none=>rw[u] at h;exact wP t h
   |some d=>rw[u] at h;exact wP (PV (opsA:=opsA) _ (a3 d u) (λe=>a2 d e u) t) h
  .exact h.elim
 .--O first one is left out
  rename_i j;have C:hH opsA o2 (fr.put o1.dst (.tuple []))=hH opsA o2 fr:=kT a1;rw[C] at h;unfold hQ;simp only[pG A,pG B]
  split at h
  .rename_i k;obtain⟨l,h⟩:=h;obtain⟨f2,H2,i,Q⟩:=tN h
   have R:∃f,oD P T E opsA.toList q soft2 o2 fr H f H2/\f.put o1.dst (.tuple [])=f2:=by
    cases u:o1.dst with
    |none=>rw[u] at i;exact⟨f2,i,rfl⟩
    |some d=>rw[u] at i;exact II (opsA:=opsA) (a1 d u) (a2 d u) i
   obtain⟨f,J,S⟩:=R;refine⟨yK (λx c=>(IC a1 x c).symm) l,wP J ?_⟩;have:hH opsA o1 f=hH opsA o1 fr:=CK (qJ J) a3;rw[this,j];show K (f.put o1.dst (.tuple [])) H2;rw[S];exact Q
  .rename_i k
   show match hH opsA o1 (fr.put o2.dst (.tuple []))with
    |some true=>Ft T E q (fr.put o2.dst (.tuple [])) o1/\hE P T E opsA.toList q soft1 o1 K (fr.put o2.dst (.tuple [])) H|some false=>K ((fr.put o2.dst (.tuple [])).put o1.dst (.tuple [])) H|none=>False
   rw[kT a3,j];simp only
   have:(fr.put o2.dst (.tuple [])).put o1.dst (.tuple [])=(fr.put o1.dst (.tuple [])).put o2.dst (.tuple []):=by
    cases w:o1.dst with
    |none=>rfl|some d1=>
     cases y:o2.dst with
     |none=>rfl|some d2=>exact nO fr (λe=>a2 d1 w (by rw[y,e])) _ _
   rw[this];exact h
  .exact h.elim
 .exact h.elim
theorem S6(hi:opsA[i]?=some o)(post:List Nat):∀(pre:List Nat) (fr:Fr) (H:dV),(∀j∈pre,∀a,opsA[j]?=some a->adt E opsA (sf j) (sf i) a o=true)->JW P T E opsA q sf (pre++i::post) K fr H->hQ P T E opsA q (sf i) o (λfr H=>JW P T E opsA q sf (pre++post) K fr H) fr H:=by
 intro pre
 induction pre with
 |nil=>grind[JW]|cons j pre ih=>
  intro fr H hex h;simp only[ahf,JW] at h|-
  split at h
  all_goals grind[C8,Tp]
end
def xY(opsA:Array Oper):Bool:=opsA.toList.zipIdx.all λ(o,i)=>o.after.all λe=>!Region.binds .any e||decide (e.on<i)
def Nr(opsA:Array Oper)(M:Array Nat):Bool:=
 (List.range opsA.size).all λi=>(List.range opsA.size).all λj=>!(M.getD i 0).testBit j||
  (opsA.getD i default).after.toList.any λe=>Region.binds .any e&&(e.on==j||(M.getD e.on 0).testBit j)
def yw(E:List Nat)(opsA:Array Oper)(sf:Nat->Bool):Bool:=
 let M:=Region.before opsA
 xY opsA&&Nr opsA M&&
 (List.range opsA.size).all λi=>(List.range i).all λj=>(M.getD i 0).testBit j||adt E opsA (sf j) (sf i) (opsA.getD j default) (opsA.getD i default)
section
variable{P:Program} {T:eK} {E:List Nat} {opsA:Array Oper} {q:Qt} {sf:Nat->Bool} {K:Fr->dV->Prop}
def wv(opsA:Array Oper)(listed:Array Bool):List Nat:=(List.range opsA.size).filter λi=>!listed.getD i true
def VA:i∈wv opsA listed↔i<opsA.size/\listed.getD i true=false:=by
 simp[wv]
def Yz(M:Array Nat)(opsA:Array Oper)(listed:Array Bool):Prop:=∀i j,i<opsA.size->j<opsA.size->listed.getD i false=true->(M.getD i 0).testBit j=true->listed.getD j false=true
def Ci(d:Bool)(h:i<listed.size):(listed.setIfInBounds i true).getD i d=true:=by
 simp[h]
theorem NJ{opsA:Array Oper}(a:xY opsA=true)(d:listed.size=opsA.size)(hi:i<opsA.size)(f:listed.getD i true=false)
  (c:∀j,j<i->listed.getD j false=true):i∈Region.ready .any opsA listed:=by
 rw[mem_ready];unfold xY at a;rw[kZ] at a
 have b:(opsA[i],i)∈opsA.toList.zipIdx:=by grind
 have:=a _ b;simp only[Lu] at this
 grind
theorem GS{opsA:Array Oper}(d:Nr opsA M=true)(a:xY opsA=true)(f:Yz M opsA listed)(s:i∈Region.ready .any opsA listed)(n:j<opsA.size)
  (t:(M.getD i 0).testBit j=true):listed.getD j false=true:=by
 obtain⟨u,o,q,b⟩:=mem_ready.1 s;have hi:i<opsA.size:=(Xi.1 q).1;unfold Nr at d;rw[kZ] at d;have:=d i (by simpa using hi);rw[kZ] at this;have:=this j (by simpa using n);rw[t] at this;simp only[acA,PN,List.any_eq_true,yd,gJ,sx,agN] at this;obtain⟨e,he,h,hor⟩:=this
 have k:opsA.getD i default=o:=by rw[P0,q];rfl
 rw[k] at he;have r:=b e he h;rcases hor with rfl|hor
 .exact r
 .have l:e.on<opsA.size:=by
   unfold xY at a;rw[kZ] at a
   have c:(o,i)∈opsA.toList.zipIdx:=by grind
   have:=a _ c;simp only[Lu] at this
   grind
  exact f e.on j l n r hor
theorem W0(d:listed.size=opsA.size)(hi:i<opsA.size)(a:listed.getD i true=false):∃pre post,wv opsA listed=pre++i::post/\wv opsA (listed.setIfInBounds i true)=pre++post/\∀j∈pre,j<i/\listed.getD j true=false:=by
 have c:List.range opsA.size=List.range i++i::(List.range' (i+1) (opsA.size-i-1)):=by
  rw[abc,abc]
  have:opsA.size=i+(1+(opsA.size-i-1)):=VW
  conv=>lhs;rw[this]
  rw[<-List.range'_append_1]
  congr 1
  rw[show 1+(opsA.size-i-1)=(opsA.size-i-1)+1 by omega,acs];simp
 refine⟨(List.range i).filter (λj=>!listed.getD j true),(List.range' (i+1) (opsA.size-i-1)).filter (λj=>!listed.getD j true),?_,?_,?_⟩
 .unfold wv;rw[c,ajW,List.filter_cons_of_pos (by simp[a])]
 .unfold wv;rw[c,ajW,List.filter_cons_of_neg (by rw[Ci _ VW];simp)]
  congr 1
  .refine akC λj b=>?_
   have:j<i:=by simpa using b
   rw[getD_set_ne true VW]
  .refine akC λj b=>?_;have:=(List.mem_range'_1.1 b).1;rw[getD_set_ne true VW]
 .grind
variable{n:Nat} {G0:Nat->Nat} {F0:la} {n0:Nat} {w0:World}
theorem zH(hi:i<listed.size):listed.getD i false=listed.getD i true:=by grind
def Yd(t:yw E opsA sf=true)(B:zy n opsA=true)(V:∀fr' H' L w',K fr' H'->SR T n G0 F0 n0 w0 fr' H' L w'->Q .normal L w'):∀(fuel:Nat) (listed:Array Bool) (fr:Fr) (H:dV) (a:Act) (w:World),listed.size=opsA.size->Yz (Region.before opsA) opsA listed->(wv opsA listed).length<=fuel->SR T n G0 F0 n0 w0 fr H a w->JW P T E opsA q sf (wv opsA listed) K fr H->wpAny P .any opsA Q fuel listed a w:=by
 unfold yw at t;simp only[gJ] at t;obtain⟨⟨c,W⟩,d⟩:=t
 have u:∀{listed:Array Bool},listed.size=opsA.size->Region.ready .any opsA listed=[]->wv opsA listed=[]:=by
  intro listed f C;cases b:wv opsA listed with
  |nil=>rfl|cons i rest=>
   exfalso
   have s:i∈wv opsA listed:=by rw[b];simp
   have hex:∃k,k<opsA.size/\listed.getD k true=false:=⟨i,VA.1 s⟩
   obtain⟨k,⟨M,N⟩,D⟩:∃k,(k<opsA.size/\listed.getD k true=false)/\∀j,j<k->¬(j<opsA.size/\listed.getD j true=false):=by
    clear b s;obtain⟨k,hk⟩:=hex
    induction k using Nat.strongRecOn with
    |_ k ih=>
     by_cases h:∃j,j<k/\(j<opsA.size/\listed.getD j true=false)
     .obtain⟨j,v,x⟩:=h;exact ih j v x
     .exact⟨k,hk,λj F hc=>h ⟨j,F,hc⟩⟩
   have:=NJ c f M N λj F=>by
    have hn:=D j F
    have O:j<opsA.size:=VW
    rw[zH VW];cases hb:listed.getD j true with
    |true=>rfl|false=>exact absurd ⟨O,hb⟩ hn
   rw[C] at this;cases this
 intro fuel
 induction fuel with
 |zero=>
  intro listed fr H a w f l hlen hs h;have b:wv opsA listed=[]:=Cd VW;rw[b] at h;refine⟨?_,V _ _ _ _ h hs⟩;cases C:Region.ready .any opsA listed with
  |nil=>rfl|cons i rest=>
   have hm:i∈Region.ready .any opsA listed:=by rw[C];simp
   obtain⟨y,o,A,_⟩:=mem_ready.1 hm;have:i∈wv opsA listed:=VA.2 ⟨(Xi.1 A).1,y⟩;rw[b] at this;cases this
 |succ fuel ih=>
  intro listed fr H a w f l hlen hs h;refine⟨λC=>?_,λi hi=>?_⟩
  .rw[u f C] at h;exact V _ _ _ _ h hs
  .obtain⟨y,o,A,X⟩:=mem_ready.1 hi;have G:i<opsA.size:=(Xi.1 A).1;obtain⟨pre,post,Y,Z,h3⟩:=W0 f G y;rw[Y] at h
   have r:=S6 (P:=P) (T:=T) (E:=E) (opsA:=opsA) (q:=q) (K:=K) (sf:=sf) A post pre fr H (by
    intro j F oj R;obtain⟨v,x⟩:=h3 j F;rw[kZ] at d;have:=d i (by simpa using G);rw[kZ] at this;have:=this j (by simpa using v);simp only[sx] at this
    have e1:opsA.getD j default=oj:=by rw[P0,R];rfl
    have e2:opsA.getD i default=o:=by rw[P0,A];rfl
    rw[e1,e2] at this;rcases this with hb|hb
    .have:=GS W c l hi VW hb;rw[zH VW,x] at this;cases this
    .exact hb) h
   have S:sS n o=true:=Lu.1 B o (aeu A);refine GG A S hs (Qf r) ?_;intro fr' H' L w' hK U;refine ih (listed.setIfInBounds i true) fr' H' L w' (by simpa using f) ?_ ?_ U (by rw[Z];exact hK)
   .--still closed
    intro i' j' hi' I hl hb
    by_cases he:j'=i
    .subst he;exact Ci _ VW
    .rw[getD_set_ne false (λe=>he e.symm)]
     by_cases J:i'=i
     .subst J;exact GS W c l hi I hb
     .rw[getD_set_ne false (λe=>J e.symm)] at hl;exact l i' j' hi' I hl hb
   .rw[Y] at hlen;rw[Z];simp only[oV,kY] at hlen|-;omega
end
section
variable{P:Program} {T:eK} {n:Nat} {Q:Exit->Fr->dV->Prop} {fr:Fr} {H:dV}
def SR.drew{F0:la}{a:Act}{w:World}(hs:SR T n G0 F0 n0 w0 fr H a w):SR T n G0 F0 n0 w0 fr H a w.drew:=by
 obtain⟨ρ,F,R,hw,b⟩:=hs;exact⟨ρ,F,R,hw.drew,b.drew⟩
theorem gv.Qk{id:Nat}{ops:Array Oper}(E:List Nat)(q:Qt)(sf:Nat->Bool)(hm:P.follows .mixedOrders=true)(c:zy n ops=true)(d:yw E ops sf=true)
  (h:JW P T E ops q sf (List.range ops.size) (Q .normal) fr H):gv P T n (.region id ops true) Q fr H:=by
 intro G0 F0 n0 w0 a w hs;refine wp_region_any hm ?_
 have b:wv ops (Array.replicate ops.size false)=List.range ops.size:=by
  unfold wv
  simp_all
 have:=Yd (Q:=λe f w'=>∃fr' H',Q e fr' H'/\SR T n G0 F0 n0 w0 fr' H' f w') d c (λfr' H' f w' k l=>⟨fr',H',k,l⟩) ops.size (Array.replicate ops.size false) fr H a w.drew abm
  (by intro i j hi r o;simp[hi] at o) (by rw[b];simp) hs.drew (by rw[b];exact h)
 exact this
def rk(P:Program)(T:eK)(E:List Nat)(opsA:Array Oper)(q:Qt):List Oper->(Fr->dV->Prop)->Fr->dV->Prop
 |[],K,fr,H=>K fr H|o::rest,K,fr,H=>hQ P T E opsA q true o (λfr H=>rk P T E opsA q rest K fr H) fr H
theorem OY{ops:Array Oper}{q:Qt}:∀(l:List Oper) (k:Nat) (fr:Fr) (H:dV),l=ops.toList.drop k->rk P T E ops q l K fr H->JW P T E ops q (λ_=>true) (List.range' k l.length) K fr H:=by
 intro l
 induction l with
 |nil=>intro k fr H _ h;exact h|cons o l ih=>
  intro k fr H a h
  have b:k<ops.toList.length:=by
   rcases uC k ops.toList.length with h'|h'
   .exact h'
   .rw[LI h'] at a;cases a
  have c:=K0 b;rw[c] at a;injection a with f d
  have hi:ops[k]?=some o:=by grind
  simp only[kY,acs,JW,hi];exact C8 (λfr H h=>ih (k+1) fr H d h) h
theorem gv.ad'{id:Nat}{ops:Array Oper}(E:List Nat)(q:Qt)(hm:P.follows .mixedOrders=true)(a:zy n ops=true)(b:yw E ops (λ_=>true)=true)
  (h:rk P T E ops q ops.toList (Q .normal) fr H):gv P T n (.region id ops true) Q fr H:=by
 refine gv.Qk E q (λ_=>true) hm a b ?_;have:=OY (K:=Q .normal) ops.toList 0 fr H abm h;rw[abc]
 grind
end
end Go.lD
namespace Go.lD
open Go
section
variable{P:Program} {T:eK} {n:Nat} {Q:Exit->Fr->dV->Prop} {fr:Fr} {H:dV}
def gv.uU{x y:Code}(h:∀K:Fr->dV->Prop,(∀fr H,gv P T n y Q fr H->K fr H)->gv P T n x (IV K Q) fr H):gv P T n (.seq x y) Q fr H:=
 gv.seq (h _ λ_ _ h=>h)
def gv.Ab{id:Nat}{c:Code}(h:∀Q':Exit->Fr->dV->Prop,(∀fr H,Q .normal fr H->Q' .normal fr H)->(∀fr H,Q .normal fr H->Q' (.exit id) fr H)->(∀a fr H,a≠id->Q (.exit a) fr H->Q' (.exit a) fr H)->(∀fr H,Q .ret fr H->Q' .ret fr H)->gv P T n c Q' fr H):gv P T n (.block id c) Q fr H:=by
 refine gv.block (h (I2 id Q) (λ_ _ h=>h) (λ_ _ h=>?_) (λa _ _ b h=>?_) (λ_ _ h=>h))
 .simp only[I2,if_true];exact h
 .simp only[I2,dK b];exact h
end
@[simp] theorem acN(K:Fr->dV->Prop)(Q:Exit->Fr->dV->Prop):IV K Q .normal=K:=rfl
end Go.lD
