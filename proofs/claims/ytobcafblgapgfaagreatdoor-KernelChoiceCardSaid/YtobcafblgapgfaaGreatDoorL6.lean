/- Part of the proof of KernelChoice: layer. -/
import Derived.Test.YtobcafblgapgfaaGreatDoorL5
set_option linter.all false
namespace Go.ky
open Go
def r9{α:Type}(f:Nat->α){i j:Nat}(h:i≠j)(x y:α):fF (fF f i x) j y=fF (fF f j y) i x:=by
 funext k
 simp only[fF]
 by_cases b:k=j
 ·subst b;rw[cG rfl,cB (λe=>h e.symm),cG rfl]
 ·rw[cB b]
  by_cases a:k=i
  ·rw[cG a,cG a]
  ·rw[cB a,cB a,cB b]
def j2(fr:Fr)(d:Nat)(cs:List AV):Fr:=
 {fr with env:=fF fr.env d (.dc d (fr.gen d+1) 0),box:=fF fr.box d (some cs),gen:=fF fr.gen d (fr.gen d+1)}
def tr(P:Program)(T:dA)(fr:Fr)(o:Oper):Option (List AV):=
 match o.op with
 |.alloc t=>jM P t|.box _ x=>if ek (ev T fr x)=true then some (ev T fr x).cells else none|_=>none
inductive kS where
 |grow (tag:Tag) (l m:List AV)|same (l:List AV)
def kS.fr(fr:Fr)(d:Nat):kS->Fr
 |.grow tag l m=>grown fr d tag l m|.same l=>fr.put (some d) (.slice .eh l)
def Ie(P:Program)(T:dA)(fr:Fr)(c:Call)(x:kS):Prop:=
 ∃s y t e sz tag a l m,c.args.toList=[s,y]/\c.argTypes.toList=[t,t]/\nM P t=some (e,sz)/\ev T fr s=.slice tag l/\ev T fr y=.slice a m/\kg sz l=true/\kg sz m=true/\l.length+m.length<=kM/\(mj fr tag l=true/\x=.grow tag l m\/mj fr tag l=false/\m=[]/\x=.same l)
section
variable{P:Program} {T:dA} {E:List Nat} {ops:List Oper} {opsA:Array Oper} {q soft soft1 soft2:Bool} {o o1 o2:Oper} {K:Fr->cV->Prop} {fr fr1 fr2 fr':Fr} {H H1 H2 H':cV}
def QA{c:Call}{dst:Option Nat}(h:lk P T c dst (λf h=>f=fr'/\h=H') fr H):∃d x,dst=some d/\Ie P T fr c x/\fr'=x.fr fr d/\H'=H:=by
 unfold lk at h
 split at h
 ·rename_i d s y t j a b
  split at h
  ·rename_i e sz tag l g m k n o;obtain⟨rfl,g2,g3,g4,g5⟩:=h
   split at g5
   ·rename_i i;exact⟨d,.grow tag l m,rfl,⟨s,y,j,e,sz,tag,g,l,m,a,b,k,n,o,g2,g3,g4,.inl ⟨i,rfl⟩⟩,g5.1.symm,g5.2.symm⟩
   ·rename_i i;exact⟨d,.same l,rfl,⟨s,y,j,e,sz,tag,g,l,m,a,b,k,n,o,g2,g3,g4,.inr ⟨by simpa using i,g5.1,rfl⟩⟩,g5.2.1.symm,g5.2.2.symm⟩
  ·exact h.elim
 ·exact h.elim
def Sz{c:Call}{d:Nat}{x:kS}(g:Ie P T fr c x)(b:K (x.fr fr d) H):lk P T c (some d) K fr H:=by
 obtain⟨s,y,t,e,sz,tag,f,l,m,h,i,j,k,n,o,p,q,r⟩:=g;unfold lk;rw[h,i];simp only[j,k,n];refine⟨trivial,o,p,q,?_⟩;rcases r with⟨a,rfl⟩|⟨a,hm,rfl⟩
 ·rw[cG a];exact b
 ·rw[cB (by simp[a])];exact⟨hm,b⟩
def Ie.congr{c:Call}{x:kS}(f:Ie P T fr c x)(he:∀y∈c.args.toList,ev T fr y=ev T fr' y)(g:fr'.qS=fr.qS)(hg:fr'.ea=fr.ea):Ie P T fr' c x:=by
 obtain⟨s,y,t,e,sz,tag,a,l,m,b,h,i,j,k,n,o,p,q⟩:=f
 have d:mj fr' tag l=mj fr tag l:=by unfold mj;rw[g,hg]
 exact⟨s,y,t,e,sz,tag,a,l,m,b,h,i,by rw[<-he s (by rw[b];simp)];exact j,by rw[<-he y (by rw[b];simp)];exact k,n,o,p,by rw[d];exact q⟩
def zk(a:eY E ops o=.val\/∃r,eY E ops o=.load r)(h:lW P T E ops q soft o fr H fr' H'):∃v,mN P T E ops q soft fr H o=some v/\fr'=fr.put o.dst v/\H'=H:=by
 unfold lW at h;obtain⟨dst,op,type,pos,after,guard⟩:=o
 have key:∀{x:Option AV},(match x with|some v=>(λf h=>f=fr'/\h=H') (fr.put dst v) H|none=>False)->∃v,x=some v/\fr'=fr.put dst v/\H'=H:=by
  intro x d
  split at d
  ·exact⟨_,rfl,d.1.symm,d.2.symm⟩
  ·exact d.elim
 cases op with
 |alloc t=>simp only[eY] at a;split at a<;>(try split at a)<;>simp at a
 |box t x=>simp only[eY] at a;split at a<;>(try split at a)<;>simp at a
 |store t x y=>simp[eY] at a
 |call c=>
  obtain⟨callee,args,JY⟩:=c;cases callee with
  |builtin b=>cases b<;>first|(simp[eY] at a;done)|(simp only[fD] at h;exact key h)
  |value f=>simp[eY] at a
  |invoke r m=>simp[eY] at a
 |_=>simp only[fD] at h;exact key h
def FN{v:AV}(h:mN P T E ops q soft fr H o=some v):lW P T E ops q soft o fr H (fr.put o.dst v) H:=by
 unfold lW;obtain⟨dst,op,type,pos,after,guard⟩:=o;cases op with
 |alloc t=>simp[mN] at h
 |box t x=>simp[mN] at h
 |store t x y=>simp[mN] at h
 |call c=>
  obtain⟨callee,args,JY⟩:=c;cases callee with
  |builtin b=>cases b<;>first|(simp[mN] at h;done)|(simp only[fD];rw[h];first|exact⟨rfl,rfl⟩|exact⟨rfl,trivial⟩)
  |value f=>simp[mN] at h
  |invoke r m=>simp[mN] at h
 |_=>simp only[fD];rw[h];first|exact⟨rfl,rfl⟩|exact⟨rfl,trivial⟩
def sg{d:Option Nat}(g:eY E ops o=.alloc d)(h:lW P T E ops q soft o fr H fr' H'):∃a cs,d=some a/\o.dst=some a/\E.contains a=false/\tr P T fr o=some cs/\fr'=j2 fr a cs/\H'=H:=by
 unfold lW at h;obtain⟨dst,op,type,pos,after,guard⟩:=o
 have key:∀{cs:List AV} {a:Nat},dst=some a->E.contains a=false->jx E dst cs (λf h=>f=fr'/\h=H') fr H->fr'=j2 fr a cs/\H'=H:=by
  intro cs a s l i;subst s;unfold jx at i;simp only at i;rw[cB (by simp only[l];simp)] at i;exact⟨i.1.symm,i.2.symm⟩
 have e:(∃t,op=.alloc t)\/(∃t x,op=.box t x)->∃a,d=some a/\dst=some a/\E.contains a=false:=by
  intro n
  have:(match dst with|some d=>if E.contains d=true then PB.xJ else .alloc (some d)|none=>.xJ)=.alloc d:=by
   rcases n with⟨t,rfl⟩|⟨t,x,rfl⟩<;>exact g
  split at this
  ·rename_i a
   split at this
   ·cases this
   ·rename_i l;cases this;exact⟨a,rfl,rfl,by simpa using l⟩
  ·cases this
 cases op with
 |alloc t=>
  obtain⟨a,p,j,k⟩:=e (.inl ⟨t,rfl⟩);simp only[fD] at h
  split at h
  ·rename_i z u;obtain⟨g1,g2⟩:=key j k h.2;exact⟨a,_,p,j,k,by simp only[tr,u],g1,g2⟩
  ·exact h.elim
 |box t x=>
  obtain⟨a,p,j,k⟩:=e (.inr ⟨t,x,rfl⟩);simp only[fD] at h;obtain⟨g1,g2⟩:=key j k h.2.2;exact⟨a,_,p,j,k,by simp only[tr];rw[cG h.1],g1,g2⟩
 |call c=>
  obtain⟨callee,args,JY⟩:=c;cases callee with
  |builtin b=>cases b<;>simp[eY] at g
  |value f=>simp[eY] at g
  |invoke r m=>simp[eY] at g
 |_=>simp[eY] at g
def s9{d:Nat}{cs:List AV}(b:o.dst=some d)(a:E.contains d=false)(h:tr P T fr o=some cs):lW P T E ops q soft o fr H (j2 fr d cs) H:=by
 unfold lW;obtain⟨dst,op,type,pos,after,guard⟩:=o;simp only at b;subst b
 have key:∀cs,jx E (some d) cs (λf h=>f=j2 fr d cs/\h=H) fr H:=by
  intro cs;unfold jx;simp only;rw[cB (by simp only[a];simp)]
  first|exact⟨rfl,rfl⟩|exact⟨rfl,trivial⟩
 cases op with
 |alloc t=>
  simp only[tr] at h;simp only[fD,h];exact⟨λ_=>by simpa using a,key _⟩
 |box t x=>
  simp only[tr] at h
  split at h
  ·rename_i c;cases h;simp only[fD];exact⟨c,λ_=>by simpa using a,key _⟩
  ·cases h
 |_=>simp[tr] at h
def rm(h:∀x∈o.op.operands,ev T fr x=ev T fr' x):tr P T fr o=tr P T fr' o:=by
 obtain⟨dst,op,type,pos,after,guard⟩:=o;cases op with
 |box t x=>simp only[tr];rw[h x (by simp[Op.operands])]|_=>rfl
def zD(s:eY E ops o=.xJ)(h:lW P T E ops q soft o fr H fr' H'):∃r,fr'=fr.put o.dst r/\(soft=true->q=true->H'=H)/\∀f:Fr,(∀x∈o.op.operands,ev T fr x=ev T f x)->lW P T E ops q soft o f H (f.put o.dst r) H':=by
 unfold lW at h;obtain⟨dst,op,type,pos,after,guard⟩:=o
 have a:∀{cs:List AV},((∃t,op=.alloc t)\/(∃t x,op=.box t x))->jx E dst cs (λf h=>f=fr'/\h=H') fr H->∃d,dst=some d/\E.contains d=true/\fr'=fr.put dst (.ei H.length 0)/\H'=H++[cs.map AV.jU]/\∀f:Fr,jx E dst cs (λA h=>A=f.put dst (.ei H.length 0)/\h=H') f H:=by
  intro cs u i
  have hm:(match dst with|some d=>if E.contains d=true then PB.xJ else .alloc (some d)|none=>.xJ)=.xJ:=by
   rcases u with⟨t,rfl⟩|⟨t,x,rfl⟩<;>exact s
  unfold jx at i
  split at i
  ·rename_i d
   split at i
   ·rename_i p;refine⟨d,rfl,p,i.1.symm,i.2.symm,λf=>?_⟩;unfold jx;simp only;rw[cG p];exact⟨rfl,i.2⟩
   ·rename_i p;simp only[cB p] at hm;cases hm
  ·exact i.elim
 cases op with
 |alloc t=>
  simp only[fD] at h
  split at h
  ·rename_i z B;obtain⟨d,k,j,l,v,w⟩:=a (.inl ⟨t,rfl⟩) h.2;refine⟨_,l,?_,λf n=>?_⟩
   ·intro hs C;have:=h.1 hs;rw[k] at this;exact absurd this (by simp only[Option.any_some,j];simp)
   ·unfold lW;simp only[fD,B];exact⟨h.1,w f⟩
  ·exact h.elim
 |box t x=>
  simp only[fD] at h;obtain⟨d,k,j,l,v,w⟩:=a (.inr ⟨t,x,rfl⟩) h.2.2;refine⟨_,l,?_,λf n=>?_⟩
  ·intro hs C;have:=h.2.1 hs;rw[k] at this;exact absurd this (by simp only[Option.any_some,j];simp)
  ·unfold lW;simp only[fD];have e:=n x (by simp[Op.operands]);refine⟨by rw[<-e];exact h.1,h.2.1,?_⟩;rw[<-e];exact w f
 |call c=>
  obtain⟨callee,args,JY⟩:=c;cases callee with
  |builtin b=>cases b<;>simp[eY] at s
  |value g=>
   simp only[fD] at h;obtain⟨r,y,k,j,l,v⟩:=h;subst v;refine⟨r,l.symm,j,λf n=>?_⟩;unfold lW;simp only[fD];refine⟨r,y,?_,j,rfl,rfl⟩
   have D:(args.toList.map λx=>(ev T fr x).norm)=args.toList.map λx=>(ev T f x).norm:=
    qo λx F=>by rw[n x (by simp[Op.operands,Call.operands,uX.1 F])]
   rw[<-D,<-n g (by simp[Op.operands,Call.operands])];exact k
  |invoke r m=>simp only[fD] at h
 |_=>simp[eY] at s
def yN(a:eY E ops o=.app)(h:lW P T E ops q soft o fr H fr' H'):∃d x,o.dst=some d/\fr'=kS.fr fr d x/\H'=H/\∀(f:Fr) (h:cV),(∀x∈o.op.operands,ev T fr x=ev T f x)->f.qS=fr.qS->f.ea=fr.ea->lW P T E ops q soft o f h (kS.fr f d x) h:=by
 unfold lW at h;obtain⟨dst,op,type,pos,after,guard⟩:=o;cases op with
 |call c=>
  obtain⟨callee,args,JY⟩:=c;cases callee with
  |builtin b=>
   cases b with
   |append=>
    simp only[fD] at h;obtain⟨d,x,e,i,j,k⟩:=QA h;subst e;refine⟨d,x,rfl,j,k,λf h he l hg=>?_⟩;unfold lW;simp only[fD];refine Sz (i.congr (λy hy=>he y ?_) l hg) ⟨rfl,rfl⟩;simp only at hy;simp[Op.operands,Call.operands,uX.1 hy]
   |_=>simp[eY] at a
  |value g=>simp[eY] at a
  |invoke r m=>simp[eY] at a
 |alloc t=>simp only[eY] at a;split at a<;>(try split at a)<;>simp at a
 |box t x=>simp only[eY] at a;split at a<;>(try split at a)<;>simp at a
 |_=>simp[eY] at a
def Np{r:Option Nat}(a:eY E ops o=.HA r)(h:lW P T E ops q soft o fr H fr' H'):fr'.env=fr.env/\fr'.gen=fr.gen/\fr'.qS=fr.qS/\fr'.ea=fr.ea/\o.dst=none/\(∀b,r≠some b->fr'.box b=fr.box b)/\(soft=true->H'=H):=by
 unfold lW at h;obtain⟨dst,op,type,pos,after,guard⟩:=o;cases op with
 |store t x y=>
  simp only[eY,PB.HA.injEq] at a;simp only[fD] at h;obtain⟨j,e,l,d⟩:=h;unfold lA at d
  split at d
  ·exact d.elim
  ·split at d
   ·rename_i b g off f
    split at d
    ·obtain⟨_,_,_,_,g1,g2⟩:=d;subst g1;subst g2;refine⟨rfl,rfl,rfl,rfl,j,λk i=>?_,λ_=>rfl⟩
     have:r=some b:=by
      rw[f] at e;simp only[oK,SJ] at e;rw[<-a];exact e
     subst this;show fF fr.box b _ k=fr.box k;rw[vx];rintro rfl;exact i rfl
    ·exact d.elim
   ·rename_i o' off f
    split at d
    ·obtain⟨_,_,_,_,g1,g2⟩:=d;subst g1;subst g2;refine⟨rfl,rfl,rfl,rfl,j,λ_ _=>rfl,λhs=>?_⟩;have:=l hs;rw[f] at this;simp[Yt] at this
    ·exact d.elim
   ·exact d.elim
 |call c=>
  obtain⟨callee,args,JY⟩:=c;cases callee with
  |builtin b=>cases b<;>simp[eY] at a
  |value g=>simp[eY] at a
  |invoke r m=>simp[eY] at a
 |alloc t=>simp only[eY] at a;split at a<;>(try split at a)<;>simp at a
 |box t x=>simp only[eY] at a;split at a<;>(try split at a)<;>simp at a
 |_=>simp[eY] at a
def H_(fr:Fr)(d:Nat):fr.put (some d) (fr.env d)=fr:=by
 simp only[Fr.put]
 have:fF fr.env d (fr.env d)=fr.env:=by
  funext j
  simp only[fF]
  split
  ·rename_i h;rw[h]
  ·rfl
 rw[this]
def Ll(fr:Fr)(d:Nat)(x y:AV):(fr.put (some d) x).put (some d) y=fr.put (some d) y:=by
 simp only[Fr.put,Gp]
structure Left (c:PB) (dst:Option Nat) (soft q:Bool) (fr:Fr) (H:cV) (fr':Fr) (H':cV):Prop where
 env:∀t,dst≠some t->fr'.env t=fr.env t
 box:∀b,c≠ .alloc (some b)->c≠ .HA (some b)->fr'.box b=fr.box b/\fr'.gen b=fr.gen b
 heap:c≠ .xJ->(∀r,c=.HA r->soft=true)->H'=H
 quiet:soft=true->q=true->H'=H
def kS.left(fr:Fr)(d:Nat)(x:kS):(∀t,t≠d->(kS.fr fr d x).env t=fr.env t)/\(kS.fr fr d x).box=fr.box/\(kS.fr fr d x).gen=fr.gen:=by
 cases x with
 |grow tag l m=>exact⟨λt a=>by show fF _ _ _ t=_;rw[vx _ _ _ _ a],rfl,rfl⟩|same l=>exact⟨λt a=>by show fF _ _ _ t=_;rw[vx _ _ _ _ a],rfl,rfl⟩
def o_(h:lW P T E ops q soft o fr H fr' H'):Left (eY E ops o) o.dst soft q fr H fr' H':=by
 have a:∀(v:AV) (t:Nat),o.dst≠some t->(fr.put o.dst v).env t=fr.env t:=by
  intro v t i;rw[Fr.za,cB i]
 cases g:eY E ops o with
 |val=>
  obtain⟨v,_,rfl,rfl⟩:=zk (.inl g) h;obtain⟨c,f,_,_⟩:=Fr.ub fr o.dst v;exact⟨a v,λb _ _=>⟨by rw[c],by rw[f]⟩,λ_ _=>rfl,λ_ _=>rfl⟩
 |load r=>
  obtain⟨v,_,rfl,rfl⟩:=zk (.inr ⟨r,g⟩) h;obtain⟨c,f,_,_⟩:=Fr.ub fr o.dst v;exact⟨a v,λb _ _=>⟨by rw[c],by rw[f]⟩,λ_ _=>rfl,λ_ _=>rfl⟩
 |alloc d=>
  obtain⟨n,cs,rfl,k,_,_,rfl,rfl⟩:=sg g h;refine⟨λt i=>?_,λb l _=>?_,λ_ _=>rfl,λ_ _=>rfl⟩
  ·show fF _ _ _ t=_;rw[vx];rintro rfl;exact i k
  ·have j:b≠n:=by rintro rfl;exact l rfl
   exact⟨vx _ _ _ _ j,vx _ _ _ _ j⟩
 |xJ=>
  obtain⟨r,rfl,p,_⟩:=zD g h;obtain⟨c,f,_,_⟩:=Fr.ub fr o.dst r;exact⟨a r,λb _ _=>⟨by rw[c],by rw[f]⟩,λhn _=>absurd rfl hn,p⟩
 |app=>
  obtain⟨d,x,k,rfl,rfl,_⟩:=yN g h;obtain⟨g1,g2,g3⟩:=kS.left fr d x;exact⟨λt i=>g1 t (by rintro rfl;exact i k),λb _ _=>⟨by rw[g2],by rw[g3]⟩,λ_ _=>rfl,λ_ _=>rfl⟩
 |HA r=>
  obtain⟨c,f,u,w,y,s,m⟩:=Np g h;exact⟨λt _=>by rw[c],λb _ l=>⟨s b (λe=>l (by rw[e])),by rw[f]⟩,λ_ hs=>m (hs r rfl),λhs _=>m hs⟩
def HI{d:Nat}(v:AV)(c:d∉o.looksAt opsA)(a:o.dst≠some d)(h:lW P T E ops q soft o fr H fr' H'):lW P T E ops q soft o (fr.put (some d) v) H (fr'.put (some d) v) H':=by
 have e:fD P T E ops q soft o (λf h=>f=fr'/\h=H') ((fr.put (some d) v).put (some d) (fr.env d)) H:=by
  rw[Ll,H_];exact h
 obtain⟨f,k,b,g,i⟩:=ua (FP (opsA:=opsA) c a e);subst i;have he:=(o_ b).env d a
 have j:f=fr'.put (some d) v:=by
  rw[<-g,Ll]
  have:(fr.put (some d) v).env d=v:=by rw[Fr.za,cG rfl]
  rw[this] at he;rw[<-he,H_]
 rw[<-j];exact b
def DN{d:Nat}{v:AV}(b:d∉o.looksAt opsA)(a:o.dst≠some d)(h:lW P T E ops q soft o (fr.put (some d) v) H fr' H'):∃f,lW P T E ops q soft o fr H f H'/\f.put (some d) v=fr':=by
 obtain⟨f,i,c,e,g⟩:=ua (FP (opsA:=opsA) b a h);subst g;exact⟨f,c,e⟩
def N3{x:Operand}{t:Nat}(a:x∈o.op.operands)(b:x=.tmp t):t∈o.looksAt opsA:=by
 subst b;exact ND _ (O8.2 ⟨.tmp t,by simpa using a,rfl⟩)
def GH{c:PB}{dst:Option Nat}(a:Left c dst soft q fr H fr' H')(b:∀d,dst=some d->d∉o.looksAt opsA):∀x∈o.op.operands,ev T fr x=ev T fr' x:=by
 intro x e;refine IA λt f=>?_;rw[a.env];intro g;exact b t g (N3 e f)
def F3{c:PB}{dst:Option Nat}(u:Left c dst soft2 q fr H fr' H')(z:∀d,dst=some d->d∉o.looksAt opsA)(e:sS (eY E ops o) c=true)
  (hs:∀r,eY E ops o=.load r->(c=.xJ->soft=true/\soft2=true)/\(∀A,c=.HA A->soft2=true)) {v:AV} (hv:mN P T E ops q soft fr H o=some v\/mN P T E ops q soft fr' H' o=some v):mN P T E ops q soft fr H o=mN P T E ops q soft fr' H' o:=by
 have m:=GH (T:=T) (opsA:=opsA) u z
 by_cases j:∃t x,o.op=.load t x
 ·obtain⟨t,x,a⟩:=j;have B:=m x (by rw[a];simp[Op.operands])
  have k:eY E ops o=.load (AJ ops x):=by unfold eY;rw[a]
  obtain⟨n,p⟩:=hs _ k;rw[k] at e
  have l:oK ops x (ev T fr x)=true/\(!soft||q||!Rg (ev T fr x))=true:=by
   have:∀(f:Fr) (h:cV),mN P T E ops q soft f h o=some v->ev T f x=ev T fr x->oK ops x (ev T fr x)=true/\(!soft||q||!Rg (ev T fr x))=true:=by
    intro f h hv he;unfold mN at hv;rw[a] at hv;simp only at hv
    split at hv
    ·rename_i w;rw[he] at w;simpa using w
    ·cases hv
   rcases hv with hv|hv
   ·exact this fr H hv rfl
   ·exact this fr' H' hv B.symm
  refine yi m (λG I he=>?_) (λ_ _ _ _ he=>by rw[a] at he;cases he);rw[a] at he;injection he with C D;subst C;subst D;refine⟨λb g off F=>?_,λhg=>?_⟩
  ·have s:AJ ops x=some b:=by
    have:=l.1;rw[F] at this;simpa[oK] using this
   rw[s] at e;have:=u.box b (by rintro rfl;simp[sS] at e) (by rintro rfl;simp[sS] at e);exact⟨this.1.symm,this.2.symm⟩
  ·by_cases he:c=.xJ
   ·obtain⟨g1,g2⟩:=n he
    have y:q=true:=by
     have:=l.2;rw[g1,hg] at this;simpa using this
    exact(u.quiet g2 y).symm
   ·exact(u.heap he p).symm
 ·refine yi m (λt x he=>absurd ⟨t,x,he⟩ j) λt x i ok a=>?_
  have k:eY E ops o=.load none:=by unfold eY;rw[a]
  obtain⟨n,p⟩:=hs _ k
  have y:(!soft||q)=true:=by
   have:∀(f:Fr) (h:cV),mN P T E ops q soft f h o=some v->(!soft||q)=true:=by
    intro f h hv;unfold mN at hv;rw[a] at hv;simp only at hv
    split at hv
    ·rename_i w;exact w
    ·cases hv
   rcases hv with hv|hv
   ·exact this _ _ hv
   ·exact this _ _ hv
  by_cases he:c=.xJ
  ·obtain⟨g1,g2⟩:=n he;rw[g1] at y;exact(u.quiet g2 (by simpa using y)).symm
  ·exact(u.heap he p).symm
def Hw(fr:Fr){d b:Nat}(h:d≠b)(cs a:List AV):j2 (j2 fr d cs) b a=j2 (j2 fr b a) d cs:=by
 simp only[j2,vx _ _ _ _ h,vx _ _ _ _ h.symm];rw[r9 fr.env h,r9 fr.box h,r9 fr.gen h]
def BA(fr:Fr){d:Nat}{d2:Option Nat}(h:d2≠some d)(cs:List AV)(r:AV):(j2 fr d cs).put d2 r=j2 (fr.put d2 r) d cs:=by
 cases d2 with
 |none=>rfl|some b=>
  have a:d≠b:=λe=>h (by rw[e]);simp only[j2,Fr.put];rw[r9 fr.env a]
def Lq(fr:Fr){d:Nat}{d2:Option Nat}(h:d2≠some d)(x:kS)(r:AV):kS.fr (fr.put d2 r) d x=(kS.fr fr d x).put d2 r:=by
 cases d2 with
 |none=>rfl|some b=>
  have a:b≠d:=λe=>h (by rw[e]);cases x with
  |grow tag l m=>
   simp only[kS.fr,grown,Fr.put];rw[r9 fr.env a]
  |same l=>exact pD fr a r (.slice .eh l)
def A7(fr:Fr){d a:Nat}(h:d≠a)(cs:List AV)(x:kS):kS.fr (j2 fr d cs) a x=j2 (kS.fr fr a x) d cs:=by
 cases x with
 |grow tag l m=>
  simp only[kS.fr,grown,j2];rw[r9 fr.env h]
 |same l=>
  simp only[kS.fr,Fr.put,j2];rw[r9 fr.env h]
def L8(R:o1.apart opsA o2=true)(b:sS (eY E ops o1) (eY E ops o2)=true)
  (S:∀r,eY E ops o1=.load r->(eY E ops o2=.xJ->soft1=true/\soft2=true)/\(∀L,eY E ops o2=.HA L->soft2=true))
  (U:∀r,eY E ops o2=.load r->(eY E ops o1=.xJ->soft2=true/\soft1=true)/\(∀L,eY E ops o1=.HA L->soft1=true))
  (G:lW P T E ops q soft1 o1 fr H fr1 H1) (D:lW P T E ops q soft2 o2 fr1 H1 fr2 H2):∃f h,lW P T E ops q soft2 o2 fr H f h/\lW P T E ops q soft1 o1 f h fr2 H2:=by
 obtain⟨a1,a2,a3⟩:=Oper.apart_spec R
 by_cases I:eY E ops o1=.val\/∃r,eY E ops o1=.load r
 ·obtain⟨v,M,c,J⟩:=zk I G;subst J
  have V:∃f,lW P T E ops q soft2 o2 fr H1 f H2/\f.put o1.dst v=fr2:=by
   cases u:o1.dst with
   |none=>rw[u] at c;subst c;exact⟨fr2,D,rfl⟩
   |some d=>rw[u] at c;subst c;exact DN (opsA:=opsA) (a1 d u) (a2 d u) D
  obtain⟨f,N,W⟩:=V;have w:sS (eY E ops o1) (eY E ops o2)=true:=b;have:=F3 (o:=o1) (soft:=soft1) (o_ N) a3 w S (.inl M);refine⟨f,H2,N,?_⟩;rw[<-W];exact FN (by rw[<-this];exact M)
 ·--aa second one only K
  by_cases n:eY E ops o2=.val\/∃r,eY E ops o2=.load r
  ·obtain⟨v,M,c,J⟩:=zk n D;subst J
   have w:sS (eY E ops o2) (eY E ops o1)=true:=by
    revert b
    cases eY E ops o1<;>cases eY E ops o2<;>simp[sS]<;>(intro h e;exact h e.symm)
   have:=F3 (o:=o2) (soft:=soft2) (o_ G) a1 w U (.inr M);refine⟨fr.put o2.dst v,H,FN (by rw[this];exact M),?_⟩;rw[c];cases u:o2.dst with
   |none=>exact G|some d=>exact HI (opsA:=opsA) v (a3 d u) (λe=>a2 d e u) G
  ·--O
   have X:=o_ G;have j:∀x∈o2.op.operands,ev T fr x=ev T fr1 x:=GH (T:=T) (opsA:=opsA) X a1;have s:∀{f:Fr} {h:cV} (Q:lW P T E ops q soft2 o2 fr H f h),∀x∈o1.op.operands,ev T fr x=ev T f x:=λQ=>GH (T:=T) (opsA:=opsA) (o_ Q) a3;cases k:eY E ops o1 with
   |val=>exact absurd (.inl k) I|load r=>exact absurd (.inr ⟨r,k⟩) I|HA r=>
    rw[k] at b;cases a:eY E ops o2 with
    |val=>exact absurd (.inl a) n|load L=>exact absurd (.inr ⟨L,a⟩) n|_=>rw[a] at b;simp[sS] at b
   |alloc d1=>
    obtain⟨d,cs,rfl,u,Y,Z,c,J⟩:=sg k G;subst J
    have back:∀{f:Fr} {h:cV} (Q:lW P T E ops q soft2 o2 fr H1 f h),lW P T E ops q soft1 o1 f h (j2 f d cs) h:=λQ=>
     s9 u Y (by rw[<-rm (s Q)];exact Z)
    cases a:eY E ops o2 with
    |val=>exact absurd (.inl a) n|load r=>exact absurd (.inr ⟨r,a⟩) n|HA r=>rw[k,a] at b;simp[sS] at b
    |alloc d2=>
     obtain⟨z,A,rfl,i,B,t,g,p⟩:=sg a D;subst p;have C:d≠z:=λe=>a2 d u (by rw[i,e]);have hn:lW P T E ops q soft2 o2 fr H2 (j2 fr z A) H2:=s9 i B (by rw[rm j];exact t);refine⟨_,_,hn,?_⟩;rw[g,c,Hw fr C];exact back hn
    |xJ=>
     obtain⟨r,g,_,l⟩:=zD a D;have hn:=l fr λx F=>(j x F).symm;refine⟨_,_,hn,?_⟩;rw[g,c,BA fr (λe=>a2 d u e)];exact back hn
    |app=>
     obtain⟨z,x,i,g,p,l⟩:=yN a D;subst p;have C:d≠z:=λe=>a2 d u (by rw[i,e]);have hn:=l fr H2 (λx F=>(j x F).symm) (by rw[c];rfl) (by rw[c];rfl);refine⟨_,_,hn,?_⟩;rw[g,c,A7 fr C];exact back hn
   |xJ=>
    obtain⟨r,c,_,m⟩:=zD k G;cases a:eY E ops o2 with
    |val=>exact absurd (.inl a) n|load r=>exact absurd (.inr ⟨r,a⟩) n|HA r=>rw[k,a] at b;simp[sS] at b
    |xJ=>rw[k,a] at b;simp[sS] at b
    |alloc d2=>
     obtain⟨z,A,rfl,i,B,t,g,p⟩:=sg a D;subst p;have hn:lW P T E ops q soft2 o2 fr H (j2 fr z A) H:=s9 i B (by rw[rm j];exact t);refine⟨_,_,hn,?_⟩;rw[g,c,<-BA fr (λe=>a2 z e i)];exact m _ λx F=>s hn x F
    |app=>
     obtain⟨z,x,i,g,p,l⟩:=yN a D;subst p;obtain⟨e1,e2,e3,e4⟩:=Fr.ub fr o1.dst r;have hn:=l fr H (λx F=>(j x F).symm) (by rw[c,e3]) (by rw[c,e4]);refine⟨_,_,hn,?_⟩;rw[g,c,Lq fr (λe=>a2 z e i)];exact m _ λx F=>s hn x F
   |app=>
    obtain⟨d,x,u,c,J,m⟩:=yN k G;subst J;cases a:eY E ops o2 with
    |val=>exact absurd (.inl a) n|load r=>exact absurd (.inr ⟨r,a⟩) n|HA r=>rw[k,a] at b;simp[sS] at b
    |app=>rw[k,a] at b;simp[sS] at b
    |alloc d2=>
     obtain⟨z,A,rfl,i,B,t,g,p⟩:=sg a D;subst p;have C:z≠d:=λe=>a2 d u (by rw[i,e]);have hn:lW P T E ops q soft2 o2 fr H2 (j2 fr z A) H2:=s9 i B (by rw[rm j];exact t);refine⟨_,_,hn,?_⟩;rw[g,c,<-A7 fr C];exact m _ _ (λy hy=>s hn y hy) rfl rfl
    |xJ=>
     obtain⟨r,g,_,l⟩:=zD a D;have hn:=l fr λy hy=>(j y hy).symm;obtain⟨e1,e2,e3,e4⟩:=Fr.ub fr o2.dst r;refine⟨_,_,hn,?_⟩;rw[g,c,<-Lq fr (λe=>a2 d u e)];exact m _ _ (λy hy=>s hn y hy) e3 e4
end
end Go.ky
namespace Go.ky
open Go
def ig(opsA:Array Oper)(o:Oper)(fr:Fr):Option Bool:=
 match o.guard with
 |none=>some true|some (j,want)=>
  match(opsA[j]?).bind (·.dst)with
  |some d=>match fr.env d with
   |.sc (.bool b)=>some (b==want)|.tuple _=>some false|_=>none
  |none=>none
def kP(P:Program)(T:dA)(E:List Nat)(opsA:Array Oper)(q soft:Bool)(o:Oper)(K:Fr->cV->Prop)(fr:Fr)(H:cV):Prop:=
 match ig opsA o fr with
 |some true=>fD P T E opsA.toList q soft o K fr H|some false=>K (fr.put o.dst (.tuple [])) H|none=>False
def DR(P:Program)(T:dA)(E:List Nat)(opsA:Array Oper)(q:Bool)(sf:Nat->Bool):List Nat->(Fr->cV->Prop)->Fr->cV->Prop
 |[],K,fr,H=>K fr H|i::rest,K,fr,H=>match opsA[i]?with
  |some o=>kP P T E opsA q (sf i) o (λfr H=>DR P T E opsA q sf rest K fr H) fr H|none=>False
section
variable{P:Program} {T:dA} {E:List Nat} {opsA:Array Oper} {q soft soft1 soft2:Bool} {o o1 o2:Oper} {K K':Fr->cV->Prop} {fr fr':Fr} {H H':cV}
def xV(a:∀fr H,K fr H->K' fr H)(h:kP P T E opsA q soft o K fr H):kP P T E opsA q soft o K' fr H:=by
 unfold kP at*
 split at h
 ·exact CR a h
 ·exact a _ _ h
 ·exact h
def I0(h:kP P T E opsA q soft o K fr H):Ba P T E opsA o K fr H:=by
 unfold kP ig at h;unfold Ba;cases hg:o.guard with
 |none=>rw[hg] at h;exact BE h
 |some p=>
  obtain⟨j,want⟩:=p;rw[hg] at h;simp only at h|-
  cases g:(opsA[j]?).bind (·.dst)with
  |none=>rw[g] at h;exact h
  |some d=>
   rw[g] at h;simp only at h|-
   split
   ·rename_i b a;rw[a] at h;simp only at h
    by_cases hw:b=want
    ·subst hw;rw[cG rfl];simp only[beq_self_eq_true] at h;exact BE h
    ·rw[cB hw]
     have:(b==want)=false:=by simpa using hw
     rw[this] at h;exact h
   ·rename_i l e;rw[e] at h;exact h
   ·rename_i c f
    split at h
    ·rename_i he
     split at he
     ·rename_i b a;exact(c b a).elim
     ·cases he
     ·cases he
    ·rename_i he
     split at he
     ·rename_i b a;exact(c b a).elim
     ·rename_i l e;exact(f l e).elim
     ·cases he
    ·exact h
def zG(h:∀t,t∈o.looksAt opsA->fr'.env t=fr.env t):ig opsA o fr'=ig opsA o fr:=by
 unfold ig;cases hg:o.guard with
 |none=>rfl|some p=>
  obtain⟨j,want⟩:=p;simp only
  cases a:(opsA[j]?).bind (·.dst)with
  |none=>rfl|some d=>
   simp only
   have:d∈o.looksAt opsA:=by
    unfold Oper.looksAt;rw[hg];refine Q3 _ ?_
    show d∈((opsA[j]?).bind (·.dst)).toList
    rw[a];simp
   rw[h d this]
def zU{d:Option Nat}{v:AV}(h:∀a,d=some a->a∉o.looksAt opsA):ig opsA o (fr.put d v)=ig opsA o fr:=by
 refine zG λt b=>?_;rw[Fr.za,cB];rintro rfl;exact h t rfl b
def xN{c:PB}{dst:Option Nat}(b:Left c dst soft q fr H fr' H')(h:∀a,dst=some a->a∉o.looksAt opsA):ig opsA o fr'=ig opsA o fr:=by
 refine zG λt d=>b.env t ?_;rintro rfl;exact h t rfl d
def Qz(E:List Nat)(opsA:Array Oper)(s1 s2:Bool)(o1 o2:Oper):Bool:=
 o1.apart opsA o2&&sS (eY E opsA.toList o1) (eY E opsA.toList o2)&&
 (match eY E opsA.toList o1,eY E opsA.toList o2 with
  |.load _,.xJ=>s1&&s2|.xJ,.load _=>s1&&s2|.load _,.HA _=>s2|.HA _,.load _=>s1|_,_=>true)
def JB(t:Qz E opsA soft1 soft2 o1 o2=true)(h:kP P T E opsA q soft1 o1 (λfr H=>kP P T E opsA q soft2 o2 K fr H) fr H):kP P T E opsA q soft2 o2 (λfr H=>kP P T E opsA q soft1 o1 K fr H) fr H:=by
 unfold Qz at t;simp only[eJ] at t;obtain⟨⟨m,n⟩,a⟩:=t;obtain⟨a1,a2,a3⟩:=Oper.apart_spec m
 have u:∀r,eY E opsA.toList o1=.load r->(eY E opsA.toList o2=.xJ->soft1=true/\soft2=true)/\(∀o,eY E opsA.toList o2=.HA o->soft2=true):=by
  intro r v;rw[v] at a;refine⟨λhe=>?_,λo he=>?_⟩<;>rw[he] at a
  ·simpa using a
  ·exact a
 have w:∀r,eY E opsA.toList o2=.load r->(eY E opsA.toList o1=.xJ->soft2=true/\soft1=true)/\(∀o,eY E opsA.toList o1=.HA o->soft1=true):=by
  intro r v;rw[v] at a;refine⟨λhe=>?_,λo he=>?_⟩<;>rw[he] at a
  ·have:soft1=true/\soft2=true:=by simpa using a
   exact⟨this.2,this.1⟩
  ·exact a
 unfold kP at h
 split at h
 ·--x first one is carried out
  rename_i c;obtain⟨f1,H1,i,h⟩:=ua h;have y:=o_ i;have l:ig opsA o2 f1=ig opsA o2 fr:=xN y a1;rw[l] at h;unfold kP
  split at h
  ·rename_i g;obtain⟨f2,H2,b,z⟩:=ua h;obtain⟨f,F,k,p⟩:=L8 m n u w i b;refine wA k ?_;have:ig opsA o1 f=ig opsA o1 fr:=xN (o_ k) a3;rw[this,c];exact wA p z
  ·rename_i g
   show match ig opsA o1 (fr.put o2.dst (.tuple []))with
    |some true=>fD P T E opsA.toList q soft1 o1 K (fr.put o2.dst (.tuple [])) H|some false=>K ((fr.put o2.dst (.tuple [])).put o1.dst (.tuple [])) H|none=>False
   rw[zU a3,c];simp only;cases j:o2.dst with
   |none=>rw[j] at h;exact wA i h
   |some d=>rw[j] at h;exact wA (HI (opsA:=opsA) _ (a3 d j) (λe=>a2 d e j) i) h
  ·exact h.elim
 ·--x first one is left out
  rename_i c;have l:ig opsA o2 (fr.put o1.dst (.tuple []))=ig opsA o2 fr:=zU a1;rw[l] at h;unfold kP
  split at h
  ·rename_i g;obtain⟨f2,H2,b,z⟩:=ua h
   have A:∃f,lW P T E opsA.toList q soft2 o2 fr H f H2/\f.put o1.dst (.tuple [])=f2:=by
    cases j:o1.dst with
    |none=>rw[j] at b;exact⟨f2,b,rfl⟩
    |some d=>rw[j] at b;exact DN (opsA:=opsA) (a1 d j) (a2 d j) b
   obtain⟨f,s,B⟩:=A;refine wA s ?_;have:ig opsA o1 f=ig opsA o1 fr:=xN (o_ s) a3;rw[this,c];show K (f.put o1.dst (.tuple [])) H2;rw[B];exact z
  ·rename_i g
   show match ig opsA o1 (fr.put o2.dst (.tuple []))with
    |some true=>fD P T E opsA.toList q soft1 o1 K (fr.put o2.dst (.tuple [])) H|some false=>K ((fr.put o2.dst (.tuple [])).put o1.dst (.tuple [])) H|none=>False
   rw[zU a3,c];simp only
   have:(fr.put o2.dst (.tuple [])).put o1.dst (.tuple [])=(fr.put o1.dst (.tuple [])).put o2.dst (.tuple []):=by
    cases C:o1.dst with
    |none=>rfl|some d1=>
     cases D:o2.dst with
     |none=>rfl|some d2=>exact pD fr (λe=>a2 d1 C (by rw[D,e])) _ _
   rw[this];exact h
  ·exact h.elim
 ·exact h.elim
def Js{sf:Nat->Bool}{i:Nat}(hi:opsA[i]?=some o)(post:List Nat):∀(pre:List Nat) (fr:Fr) (H:cV),(∀j∈pre,∀a,opsA[j]?=some a->Qz E opsA (sf j) (sf i) a o=true)->DR P T E opsA q sf (pre++i::post) K fr H->kP P T E opsA q (sf i) o (λfr H=>DR P T E opsA q sf (pre++post) K fr H) fr H:=by
 intro pre
 induction pre with
 |nil=>
  intro fr H _ h;simp only[mI,DR,hi] at h;exact h
 |cons j pre b=>
  intro fr H hex h;simp only[RS,DR] at h|-
  split at h
  ·rename_i a c;have d:=xV (λfr H h=>b fr H (λk e=>hex k (by simp[e])) h) h;have f:=JB (hex j (by simp) a c) d;exact f
  ·exact h.elim
end
def ud(opsA:Array Oper):Bool:=opsA.toList.zipIdx.all λ(o,i)=>o.after.all λe=>!Region.binds .any e||decide (e.on<i)
def Gk(opsA:Array Oper)(M:Array Nat):Bool:=
 (List.range opsA.size).all λi=>(List.range opsA.size).all λj=>!(M.getD i 0).testBit j||
  (opsA.getD i default).after.toList.any λe=>Region.binds .any e&&(e.on==j||(M.getD e.on 0).testBit j)
def uv(E:List Nat)(opsA:Array Oper)(sf:Nat->Bool):Bool:=
 let M:=Region.before opsA
 ud opsA&&Gk opsA M&&
 (List.range opsA.size).all λi=>(List.range i).all λj=>(M.getD i 0).testBit j||Qz E opsA (sf j) (sf i) (opsA.getD j default) (opsA.getD i default)
section
variable{P:Program} {T:dA} {E:List Nat} {opsA:Array Oper} {q:Bool} {sf:Nat->Bool} {K:Fr->cV->Prop}
def sj(opsA:Array Oper)(listed:Array Bool):List Nat:=(List.range opsA.size).filter λi=>!listed.getD i true
def La{listed:Array Bool}{i:Nat}:i∈sj opsA listed↔i<opsA.size/\listed.getD i true=false:=by
 simp[sj]
def Nv(M:Array Nat)(opsA:Array Oper)(listed:Array Bool):Prop:=∀i j,i<opsA.size->j<opsA.size->listed.getD i false=true->(M.getD i 0).testBit j=true->listed.getD j false=true
def xx{listed:Array Bool}{i:Nat}(d:Bool)(h:i<listed.size):(listed.setIfInBounds i true).getD i d=true:=by
 simp[h]
def Gn{opsA:Array Oper}(a:ud opsA=true){listed:Array Bool}(f:listed.size=opsA.size){i:Nat}(hi:i<opsA.size)(d:listed.getD i true=false)
  (b:∀j,j<i->listed.getD j false=true):i∈Region.ready .any opsA listed:=by
 rw[mem_ready];refine⟨d,opsA[i],L9 hi,λe he g=>?_⟩;refine b _ ?_;unfold ud at a;rw[jr] at a
 have c:(opsA[i],i)∈opsA.toList.zipIdx:=by
  rw[Yd];simp[hi]
 have:=a _ c;simp only[Fh] at this;have:=this e he;rw[g] at this;simpa using this
def A5{opsA:Array Oper}{M:Array Nat}(f:Gk opsA M=true)(a:ud opsA=true){listed:Array Bool}(g:Nv M opsA listed){i:Nat}(p:i∈Region.ready .any opsA listed){j:Nat}(m:j<opsA.size)
  (q:(M.getD i 0).testBit j=true):listed.getD j false=true:=by
 obtain⟨r,o,h,b⟩:=mem_ready.1 p;have hi:i<opsA.size:=(J_.1 h).1;unfold Gk at f;rw[jr] at f;have:=f i (by simpa using hi);rw[jr] at this;have:=this j (by simpa using m);rw[q] at this;simp only[Ul,X3,List.any_eq_true,uX,eJ,ni,SJ] at this;obtain⟨e,he,c,hor⟩:=this
 have k:opsA.getD i default=o:=by rw[JP,h];rfl
 rw[k] at he;have n:=b e he c;rcases hor with rfl|hor
 ·exact n
 ·have l:e.on<opsA.size:=by
   unfold ud at a;rw[jr] at a
   have d:(o,i)∈opsA.toList.zipIdx:=by
    rw[Yd];simpa using h
   have:=a _ d;simp only[Fh] at this;have:=this e he;rw[c] at this
   have:e.on<i:=by simpa using this
   omega
  exact g e.on j l m n hor
def MJ{listed:Array Bool}(d:listed.size=opsA.size){i:Nat}(hi:i<opsA.size)(b:listed.getD i true=false):∃pre post,sj opsA listed=pre++i::post/\sj opsA (listed.setIfInBounds i true)=pre++post/\∀j∈pre,j<i/\listed.getD j true=false:=by
 have c:List.range opsA.size=List.range i++i::(List.range' (i+1) (opsA.size-i-1)):=by
  rw[T9,T9]
  have:opsA.size=i+(1+(opsA.size-i-1)):=by omega
  conv=>lhs;rw[this]
  rw[<-List.range'_append_1]
  congr 1
  rw[show 1+(opsA.size-i-1)=(opsA.size-i-1)+1 by omega,TP];simp
 refine⟨(List.range i).filter (λj=>!listed.getD j true),(List.range' (i+1) (opsA.size-i-1)).filter (λj=>!listed.getD j true),?_,?_,?_⟩
 ·unfold sj;rw[c,MB,List.filter_cons_of_pos (by simp[b])]
 ·unfold sj;rw[c,MB,List.filter_cons_of_neg (by rw[xx _ (by omega)];simp)]
  congr 1
  ·refine HS λj a=>?_
   have:j<i:=by simpa using a
   rw[getD_set_ne true (by omega)]
  ·refine HS λj a=>?_;have:=(List.mem_range'_1.1 a).1;rw[getD_set_ne true (by omega)]
 ·intro j a;rw[XI] at a;exact⟨by simpa using a.1,by simpa using a.2⟩
variable{n:Nat} {G0:Nat->Nat} {F0:jH} {n0:Nat} {w0:World}
def vd{listed:Array Bool}{i:Nat}(hi:i<listed.size):listed.getD i false=listed.getD i true:=by
 simp[hi]
def Nh{Q:Exit->Act->World->Prop}(p:uv E opsA sf=true)(x:uI n opsA=true)(R:∀fr' H' F w',K fr' H'->SR T n G0 F0 n0 w0 fr' H' F w'->Q .normal F w'):∀(fuel:Nat) (listed:Array Bool) (fr:Fr) (H:cV) (a:Act) (w:World),listed.size=opsA.size->Nv (Region.before opsA) opsA listed->(sj opsA listed).length<=fuel->SR T n G0 F0 n0 w0 fr H a w->DR P T E opsA q sf (sj opsA listed) K fr H->wpAny P .any opsA Q fuel listed a w:=by
 unfold uv at p;simp only[eJ] at p;obtain⟨⟨c,S⟩,d⟩:=p
 have r:∀{listed:Array Bool},listed.size=opsA.size->Region.ready .any opsA listed=[]->sj opsA listed=[]:=by
  intro listed f y;cases b:sj opsA listed with
  |nil=>rfl|cons i rest=>
   exfalso
   have m:i∈sj opsA listed:=by rw[b];simp
   have hex:∃k,k<opsA.size/\listed.getD k true=false:=⟨i,La.1 m⟩
   obtain⟨k,⟨G,I⟩,z⟩:∃k,(k<opsA.size/\listed.getD k true=false)/\∀j,j<k->¬(j<opsA.size/\listed.getD j true=false):=by
    clear b m;obtain⟨k,hk⟩:=hex
    induction k using Nat.strongRecOn with
    |_ k J=>
     by_cases h:∃j,j<k/\(j<opsA.size/\listed.getD j true=false)
     ·obtain⟨j,s,t⟩:=h;exact J j s t
     ·exact⟨k,hk,λj A hc=>h ⟨j,A,hc⟩⟩
   have:=Gn c f G I λj A=>by
    have hn:=z j A
    have L:j<opsA.size:=by omega
    rw[vd (by omega)];cases hb:listed.getD j true with
    |true=>rfl|false=>exact absurd ⟨L,hb⟩ hn
   rw[y] at this;cases this
 intro fuel
 induction fuel with
 |zero=>
  intro listed fr H a w f g hlen hs h;have b:sj opsA listed=[]:=xZ (by omega);rw[b] at h;refine⟨?_,R _ _ _ _ h hs⟩;cases y:Region.ready .any opsA listed with
  |nil=>rfl|cons i rest=>
   have hm:i∈Region.ready .any opsA listed:=by rw[y];simp
   obtain⟨u,o,v,_⟩:=mem_ready.1 hm;have:i∈sj opsA listed:=La.2 ⟨(J_.1 v).1,u⟩;rw[b] at this;cases this
 |succ fuel J=>
  intro listed fr H a w f g hlen hs h;refine⟨λy=>?_,λi hi=>?_⟩
  ·rw[r f y] at h;exact R _ _ _ _ h hs
  ·obtain⟨u,o,v,U⟩:=mem_ready.1 hi;have B:i<opsA.size:=(J_.1 v).1;obtain⟨pre,post,V,W,h3⟩:=MJ f B u;rw[V] at h
   have l:=Js (P:=P) (T:=T) (E:=E) (opsA:=opsA) (q:=q) (K:=K) (sf:=sf) v post pre fr H (by
    intro j A oj M;obtain⟨s,t⟩:=h3 j A;rw[jr] at d;have:=d i (by simpa using B);rw[jr] at this;have:=this j (by simpa using s);simp only[ni] at this
    have e1:opsA.getD j default=oj:=by rw[JP,M];rfl
    have e2:opsA.getD i default=o:=by rw[JP,v];rfl
    rw[e1,e2] at this;rcases this with hb|hb
    ·have:=A5 S c g hi (by omega) hb;rw[vd (by omega),t] at this;cases this
    ·exact hb) h
   have N:pK n o=true:=Fh.1 x o (P4 v);refine A6 v N hs (I0 l) ?_;intro fr' H' F w' hK O;refine J (listed.setIfInBounds i true) fr' H' F w' (by simpa using f) ?_ ?_ O (by rw[W];exact hK)
   ·--still closed
    intro X Y hi' C Z hb
    by_cases he:Y=i
    ·subst he;exact xx _ (by omega)
    ·rw[getD_set_ne false (λe=>he e.symm)]
     by_cases D:X=i
     ·subst D;exact A5 S c g hi C hb
     ·rw[getD_set_ne false (λe=>D e.symm)] at Z;exact g X Y hi' C Z hb
   ·rw[V] at hlen;rw[W];simp only[pJ,jW] at hlen|-;omega
end
section
variable{P:Program} {T:dA} {n:Nat} {Q:Exit->Fr->cV->Prop} {fr:Fr} {H:cV}
def SR.drew{G0:Nat->Nat}{F0:jH}{n0:Nat}{w0:World}{a:Act}{w:World}(hs:SR T n G0 F0 n0 w0 fr H a w):SR T n G0 F0 n0 w0 fr H a w.drew:=by
 obtain⟨ρ,F,R,hw,b⟩:=hs;exact⟨ρ,F,R,hw.drew,b.drew⟩
def g_.IL{id:Nat}{ops:Array Oper}(E:List Nat)(q:Bool)(sf:Nat->Bool)(hm:P.follows .mixedOrders=true)(c:uI n ops=true)(d:uv E ops sf=true)
  (h:DR P T E ops q sf (List.range ops.size) (Q .normal) fr H):g_ P T n (.region id ops true) Q fr H:=by
 intro G0 F0 n0 w0 a w hs;refine wp_region_any hm ?_
 have b:sj ops (Array.replicate ops.size false)=List.range ops.size:=by
  unfold sj;rw[List.filter_eq_self];intro i hi
  have:i<ops.size:=by simpa using hi
  simp[this]
 have:=Nh (Q:=λe f w'=>∃fr' H',Q e fr' H'/\SR T n G0 F0 n0 w0 fr' H' f w') d c (λfr' H' f w' g k=>⟨fr',H',g,k⟩) ops.size (Array.replicate ops.size false) fr H a w.drew (by simp)
  (by intro i j hi m l;simp[hi] at l) (by rw[b];simp) hs.drew (by rw[b];exact h)
 exact this
def pG(P:Program)(T:dA)(E:List Nat)(opsA:Array Oper)(q:Bool):List Oper->(Fr->cV->Prop)->Fr->cV->Prop
 |[],K,fr,H=>K fr H|o::rest,K,fr,H=>kP P T E opsA q true o (λfr H=>pG P T E opsA q rest K fr H) fr H
def G5{E:List Nat}{ops:Array Oper}{q:Bool}{K:Fr->cV->Prop}:∀(l:List Oper) (k:Nat) (fr:Fr) (H:cV),l=ops.toList.drop k->pG P T E ops q l K fr H->DR P T E ops q (λ_=>true) (List.range' k l.length) K fr H:=by
 intro l
 induction l with
 |nil=>intro k fr H _ h;exact h|cons o l c=>
  intro k fr H b h
  have a:k<ops.toList.length:=by
   rcases p4 k ops.toList.length with h'|h'
   ·exact h'
   ·rw[IT h'] at b;cases b
  have d:=Kz a;rw[d] at b;injection b with e f
  have hi:ops[k]?=some o:=by
   rw[e];simp only[P'];exact L9 (by simpa using a)
  simp only[jW,TP,DR,hi];exact xV (λfr H h=>c (k+1) fr H f h) h
def g_.QS{id:Nat}{ops:Array Oper}(E:List Nat)(q:Bool)(hm:P.follows .mixedOrders=true)(a:uI n ops=true)(b:uv E ops (λ_=>true)=true)
  (h:pG P T E ops q ops.toList (Q .normal) fr H):g_ P T n (.region id ops true) Q fr H:=by
 refine g_.IL E q (λ_=>true) hm a b ?_;have:=G5 (K:=Q .normal) ops.toList 0 fr H (by simp) h;rw[T9];simpa using this
end
end Go.ky
namespace Go.ky
open Go
section
variable{P:Program} {T:dA} {n:Nat} {Q:Exit->Fr->cV->Prop} {fr:Fr} {H:cV}
def g_.AU{x y:Code}(h:∀K:Fr->cV->Prop,(∀fr H,g_ P T n y Q fr H->K fr H)->g_ P T n x (FA K Q) fr H):g_ P T n (.seq x y) Q fr H:=
 g_.seq (h _ λ_ _ h=>h)
def g_.OT{id:Nat}{c:Code}(h:∀Q':Exit->Fr->cV->Prop,(∀fr H,Q .normal fr H->Q' .normal fr H)->(∀fr H,Q .normal fr H->Q' (.exit id) fr H)->(∀a fr H,a≠id->Q (.exit a) fr H->Q' (.exit a) fr H)->(∀fr H,Q .ret fr H->Q' .ret fr H)->g_ P T n c Q' fr H):g_ P T n (.block id c) Q fr H:=by
 refine g_.block (h (Cw id Q) (λ_ _ h=>h) (λ_ _ h=>?_) (λa _ _ b h=>?_) (λ_ _ h=>h))
 ·simp only[Cw,if_true];exact h
 ·simp only[Cw,cB b];exact h
end
@[simp] theorem Qr(K:Fr->cV->Prop)(Q:Exit->Fr->cV->Prop):FA K Q .normal=K:=rfl
end Go.ky
