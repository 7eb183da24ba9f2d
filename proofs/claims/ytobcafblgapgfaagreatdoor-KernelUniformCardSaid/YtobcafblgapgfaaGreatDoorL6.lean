/- Part of the proof of KernelUniform: layer. -/
import Derived.Test.YtobcafblgapgfaaGreatDoorL5
set_option linter.all false
namespace Go.mS
open Go
def vl{α:Type}(f:Nat->α){i j:Nat}(h:i≠j)(x y:α):hQ (hQ f i x) j y=hQ (hQ f j y) i x:=by
 funext k
 simp only[hQ]
 by_cases b:k=j
 ·subst b;rw[ee rfl,ea (λe=>h e.symm),ee rfl]
 ·rw[ea b]
  by_cases a:k=i
  ·rw[ee a,ee a]
  ·rw[ea a,ea a,ea b]
def lT(fr:Fr)(d:Nat)(cs:List AV):Fr:=
 {fr with env:=hQ fr.env d (.eB d (fr.gen d+1) 0),box:=hQ fr.box d (some cs),gen:=hQ fr.gen d (fr.gen d+1)}
def wm(P:Program)(T:fg)(fr:Fr)(o:Oper):Option (List AV):=
 match o.op with
 |.alloc t=>lv P t|.box _ x=>if fX (ev T fr x)=true then some (ev T fr x).cells else none|_=>none
inductive ng where
 |grow (tag:Tag) (l m:List AV)|same (l:List AV)
def ng.fr(fr:Fr)(d:Nat):ng->Fr
 |.grow tag l m=>grown fr d tag l m|.same l=>fr.put (some d) (.slice .iN l)
def KR(P:Program)(T:fg)(fr:Fr)(c:Call)(x:ng):Prop:=
 ∃s y t e sz tag a l m,c.args.toList=[s,y]/\c.argTypes.toList=[t,t]/\qG P t=some (e,sz)/\ev T fr s=.slice tag l/\ev T fr y=.slice a m/\mv sz l=true/\mv sz m=true/\l.length+m.length<=nt/\(pL fr tag l=true/\x=.grow tag l m\/pL fr tag l=false/\m=[]/\x=.same l)
section
variable{P:Program} {T:fg} {E:List Nat} {ops:List Oper} {opsA:Array Oper} {q soft soft1 soft2:Bool} {o o1 o2:Oper} {K:Fr->eD->Prop} {fr fr1 fr2 fr':Fr} {H H1 H2 H':eD}
def SK{c:Call}{dst:Option Nat}(h:nL P T c dst (λf h=>f=fr'/\h=H') fr H):∃d x,dst=some d/\KR P T fr c x/\fr'=x.fr fr d/\H'=H:=by
 unfold nL at h
 split at h
 ·rename_i d s y t j a b
  split at h
  ·rename_i e sz tag l g m k n o;obtain⟨rfl,g2,g3,g4,g5⟩:=h
   split at g5
   ·rename_i i;exact⟨d,.grow tag l m,rfl,⟨s,y,j,e,sz,tag,g,l,m,a,b,k,n,o,g2,g3,g4,.inl ⟨i,rfl⟩⟩,g5.1.symm,g5.2.symm⟩
   ·rename_i i;exact⟨d,.same l,rfl,⟨s,y,j,e,sz,tag,g,l,m,a,b,k,n,o,g2,g3,g4,.inr ⟨by simpa using i,g5.1,rfl⟩⟩,g5.2.1.symm,g5.2.2.symm⟩
  ·exact h.elim
 ·exact h.elim
def Vs{c:Call}{d:Nat}{x:ng}(g:KR P T fr c x)(b:K (x.fr fr d) H):nL P T c (some d) K fr H:=by
 obtain⟨s,y,t,e,sz,tag,f,l,m,h,i,j,k,n,o,p,q,r⟩:=g;unfold nL;rw[h,i];simp only[j,k,n];refine⟨trivial,o,p,q,?_⟩;rcases r with⟨a,rfl⟩|⟨a,hm,rfl⟩
 ·rw[ee a];exact b
 ·rw[ea (by simp[a])];exact⟨hm,b⟩
def KR.congr{c:Call}{x:ng}(f:KR P T fr c x)(he:∀y∈c.args.toList,ev T fr y=ev T fr' y)(g:fr'.tx=fr.tx)(hg:fr'.fN=fr.fN):KR P T fr' c x:=by
 obtain⟨s,y,t,e,sz,tag,a,l,m,b,h,i,j,k,n,o,p,q⟩:=f
 have d:pL fr' tag l=pL fr tag l:=by unfold pL;rw[g,hg]
 exact⟨s,y,t,e,sz,tag,a,l,m,b,h,i,by rw[<-he s (by rw[b];simp)];exact j,by rw[<-he y (by rw[b];simp)];exact k,n,o,p,by rw[d];exact q⟩
def B3(a:gZ E ops o=.val\/∃r,gZ E ops o=.load r)(h:oA P T E ops q soft o fr H fr' H'):∃v,pC P T E ops q soft fr H o=some v/\fr'=fr.put o.dst v/\H'=H:=by
 unfold oA at h;obtain⟨dst,op,type,pos,after,guard⟩:=o
 have key:∀{x:Option AV},(match x with|some v=>(λf h=>f=fr'/\h=H') (fr.put dst v) H|none=>False)->∃v,x=some v/\fr'=fr.put dst v/\H'=H:=by
  intro x d
  split at d
  ·exact⟨_,rfl,d.1.symm,d.2.symm⟩
  ·exact d.elim
 cases op with
 |alloc t=>simp only[gZ] at a;split at a<;>(try split at a)<;>simp at a
 |box t x=>simp only[gZ] at a;split at a<;>(try split at a)<;>simp at a
 |store t x y=>simp[gZ] at a
 |call c=>
  obtain⟨callee,args,MZ⟩:=c;cases callee with
  |builtin b=>cases b<;>first|(simp[gZ] at a;done)|(simp only[ib] at h;exact key h)
  |value f=>simp[gZ] at a
  |invoke r m=>simp[gZ] at a
 |_=>simp only[ib] at h;exact key h
def IV{v:AV}(h:pC P T E ops q soft fr H o=some v):oA P T E ops q soft o fr H (fr.put o.dst v) H:=by
 unfold oA;obtain⟨dst,op,type,pos,after,guard⟩:=o;cases op with
 |alloc t=>simp[pC] at h
 |box t x=>simp[pC] at h
 |store t x y=>simp[pC] at h
 |call c=>
  obtain⟨callee,args,MZ⟩:=c;cases callee with
  |builtin b=>cases b<;>first|(simp[pC] at h;done)|(simp only[ib];rw[h];first|exact⟨rfl,rfl⟩|exact⟨rfl,trivial⟩)
  |value f=>simp[pC] at h
  |invoke r m=>simp[pC] at h
 |_=>simp only[ib];rw[h];first|exact⟨rfl,rfl⟩|exact⟨rfl,trivial⟩
def vm{d:Option Nat}(g:gZ E ops o=.alloc d)(h:oA P T E ops q soft o fr H fr' H'):∃a cs,d=some a/\o.dst=some a/\E.contains a=false/\wm P T fr o=some cs/\fr'=lT fr a cs/\H'=H:=by
 unfold oA at h;obtain⟨dst,op,type,pos,after,guard⟩:=o
 have key:∀{cs:List AV} {a:Nat},dst=some a->E.contains a=false->la E dst cs (λf h=>f=fr'/\h=H') fr H->fr'=lT fr a cs/\H'=H:=by
  intro cs a s l i;subst s;unfold la at i;simp only at i;rw[ea (by simp only[l];simp)] at i;exact⟨i.1.symm,i.2.symm⟩
 have e:(∃t,op=.alloc t)\/(∃t x,op=.box t x)->∃a,d=some a/\dst=some a/\E.contains a=false:=by
  intro n
  have:(match dst with|some d=>if E.contains d=true then Sz.AO else .alloc (some d)|none=>.AO)=.alloc d:=by
   rcases n with⟨t,rfl⟩|⟨t,x,rfl⟩<;>exact g
  split at this
  ·rename_i a
   split at this
   ·cases this
   ·rename_i l;cases this;exact⟨a,rfl,rfl,by simpa using l⟩
  ·cases this
 cases op with
 |alloc t=>
  obtain⟨a,p,j,k⟩:=e (.inl ⟨t,rfl⟩);simp only[ib] at h
  split at h
  ·rename_i z u;obtain⟨g1,g2⟩:=key j k h.2;exact⟨a,_,p,j,k,by simp only[wm,u],g1,g2⟩
  ·exact h.elim
 |box t x=>
  obtain⟨a,p,j,k⟩:=e (.inr ⟨t,x,rfl⟩);simp only[ib] at h;obtain⟨g1,g2⟩:=key j k h.2.2;exact⟨a,_,p,j,k,by simp only[wm];rw[ee h.1],g1,g2⟩
 |call c=>
  obtain⟨callee,args,MZ⟩:=c;cases callee with
  |builtin b=>cases b<;>simp[gZ] at g
  |value f=>simp[gZ] at g
  |invoke r m=>simp[gZ] at g
 |_=>simp[gZ] at g
def vM{d:Nat}{cs:List AV}(b:o.dst=some d)(a:E.contains d=false)(h:wm P T fr o=some cs):oA P T E ops q soft o fr H (lT fr d cs) H:=by
 unfold oA;obtain⟨dst,op,type,pos,after,guard⟩:=o;simp only at b;subst b
 have key:∀cs,la E (some d) cs (λf h=>f=lT fr d cs/\h=H) fr H:=by
  intro cs;unfold la;simp only;rw[ea (by simp only[a];simp)]
  first|exact⟨rfl,rfl⟩|exact⟨rfl,trivial⟩
 cases op with
 |alloc t=>
  simp only[wm] at h;simp only[ib,h];exact⟨λ_=>by simpa using a,key _⟩
 |box t x=>
  simp only[wm] at h
  split at h
  ·rename_i c;cases h;simp only[ib];exact⟨c,λ_=>by simpa using a,key _⟩
  ·cases h
 |_=>simp[wm] at h
def ug(h:∀x∈o.op.operands,ev T fr x=ev T fr' x):wm P T fr o=wm P T fr' o:=by
 obtain⟨dst,op,type,pos,after,guard⟩:=o;cases op with
 |box t x=>simp only[wm];rw[h x (by simp[Op.operands])]|_=>rfl
def Bt(s:gZ E ops o=.AO)(h:oA P T E ops q soft o fr H fr' H'):∃r,fr'=fr.put o.dst r/\(soft=true->q=true->H'=H)/\∀f:Fr,(∀x∈o.op.operands,ev T fr x=ev T f x)->oA P T E ops q soft o f H (f.put o.dst r) H':=by
 unfold oA at h;obtain⟨dst,op,type,pos,after,guard⟩:=o
 have a:∀{cs:List AV},((∃t,op=.alloc t)\/(∃t x,op=.box t x))->la E dst cs (λf h=>f=fr'/\h=H') fr H->∃d,dst=some d/\E.contains d=true/\fr'=fr.put dst (.fE H.length 0)/\H'=H++[cs.map AV.lr]/\∀f:Fr,la E dst cs (λA h=>A=f.put dst (.fE H.length 0)/\h=H') f H:=by
  intro cs u i
  have hm:(match dst with|some d=>if E.contains d=true then Sz.AO else .alloc (some d)|none=>.AO)=.AO:=by
   rcases u with⟨t,rfl⟩|⟨t,x,rfl⟩<;>exact s
  unfold la at i
  split at i
  ·rename_i d
   split at i
   ·rename_i p;refine⟨d,rfl,p,i.1.symm,i.2.symm,λf=>?_⟩;unfold la;simp only;rw[ee p];exact⟨rfl,i.2⟩
   ·rename_i p;simp only[ea p] at hm;cases hm
  ·exact i.elim
 cases op with
 |alloc t=>
  simp only[ib] at h
  split at h
  ·rename_i z B;obtain⟨d,k,j,l,v,w⟩:=a (.inl ⟨t,rfl⟩) h.2;refine⟨_,l,?_,λf n=>?_⟩
   ·intro hs C;have:=h.1 hs;rw[k] at this;exact absurd this (by simp only[Option.any_some,j];simp)
   ·unfold oA;simp only[ib,B];exact⟨h.1,w f⟩
  ·exact h.elim
 |box t x=>
  simp only[ib] at h;obtain⟨d,k,j,l,v,w⟩:=a (.inr ⟨t,x,rfl⟩) h.2.2;refine⟨_,l,?_,λf n=>?_⟩
  ·intro hs C;have:=h.2.1 hs;rw[k] at this;exact absurd this (by simp only[Option.any_some,j];simp)
  ·unfold oA;simp only[ib];have e:=n x (by simp[Op.operands]);refine⟨by rw[<-e];exact h.1,h.2.1,?_⟩;rw[<-e];exact w f
 |call c=>
  obtain⟨callee,args,MZ⟩:=c;cases callee with
  |builtin b=>cases b<;>simp[gZ] at s
  |value g=>
   simp only[ib] at h;obtain⟨r,y,k,j,l,v⟩:=h;subst v;refine⟨r,l.symm,j,λf n=>?_⟩;unfold oA;simp only[ib];refine⟨r,y,?_,j,rfl,rfl⟩
   have D:(args.toList.map λx=>(ev T fr x).norm)=args.toList.map λx=>(ev T f x).norm:=
    xx λx F=>by rw[n x (by simp[Op.operands,Call.operands,xQ.1 F])]
   rw[<-D,<-n g (by simp[Op.operands,Call.operands])];exact k
  |invoke r m=>simp only[ib] at h
 |_=>simp[gZ] at s
def Cw(a:gZ E ops o=.app)(h:oA P T E ops q soft o fr H fr' H'):∃d x,o.dst=some d/\fr'=ng.fr fr d x/\H'=H/\∀(f:Fr) (h:eD),(∀x∈o.op.operands,ev T fr x=ev T f x)->f.tx=fr.tx->f.fN=fr.fN->oA P T E ops q soft o f h (ng.fr f d x) h:=by
 unfold oA at h;obtain⟨dst,op,type,pos,after,guard⟩:=o;cases op with
 |call c=>
  obtain⟨callee,args,MZ⟩:=c;cases callee with
  |builtin b=>
   cases b with
   |append=>
    simp only[ib] at h;obtain⟨d,x,e,i,j,k⟩:=SK h;subst e;refine⟨d,x,rfl,j,k,λf h he l hg=>?_⟩;unfold oA;simp only[ib];refine Vs (i.congr (λy hy=>he y ?_) l hg) ⟨rfl,rfl⟩;simp only at hy;simp[Op.operands,Call.operands,xQ.1 hy]
   |_=>simp[gZ] at a
  |value g=>simp[gZ] at a
  |invoke r m=>simp[gZ] at a
 |alloc t=>simp only[gZ] at a;split at a<;>(try split at a)<;>simp at a
 |box t x=>simp only[gZ] at a;split at a<;>(try split at a)<;>simp at a
 |_=>simp[gZ] at a
def RA{r:Option Nat}(a:gZ E ops o=.Jw r)(h:oA P T E ops q soft o fr H fr' H'):fr'.env=fr.env/\fr'.gen=fr.gen/\fr'.tx=fr.tx/\fr'.fN=fr.fN/\o.dst=none/\(∀b,r≠some b->fr'.box b=fr.box b)/\(soft=true->H'=H):=by
 unfold oA at h;obtain⟨dst,op,type,pos,after,guard⟩:=o;cases op with
 |store t x y=>
  simp only[gZ,Sz.Jw.injEq] at a;simp only[ib] at h;obtain⟨j,e,l,d⟩:=h;unfold nj at d
  split at d
  ·exact d.elim
  ·split at d
   ·rename_i b g off f
    split at d
    ·obtain⟨_,_,_,_,g1,g2⟩:=d;subst g1;subst g2;refine⟨rfl,rfl,rfl,rfl,j,λk i=>?_,λ_=>rfl⟩
     have:r=some b:=by
      rw[f] at e;simp only[re,VC] at e;rw[<-a];exact e
     subst this;show hQ fr.box b _ k=fr.box k;rw[zk];rintro rfl;exact i rfl
    ·exact d.elim
   ·rename_i o' off f
    split at d
    ·obtain⟨_,_,_,_,g1,g2⟩:=d;subst g1;subst g2;refine⟨rfl,rfl,rfl,rfl,j,λ_ _=>rfl,λhs=>?_⟩;have:=l hs;rw[f] at this;simp[ZU] at this
    ·exact d.elim
   ·exact d.elim
 |call c=>
  obtain⟨callee,args,MZ⟩:=c;cases callee with
  |builtin b=>cases b<;>simp[gZ] at a
  |value g=>simp[gZ] at a
  |invoke r m=>simp[gZ] at a
 |alloc t=>simp only[gZ] at a;split at a<;>(try split at a)<;>simp at a
 |box t x=>simp only[gZ] at a;split at a<;>(try split at a)<;>simp at a
 |_=>simp[gZ] at a
def KO(fr:Fr)(d:Nat):fr.put (some d) (fr.env d)=fr:=by
 simp only[Fr.put]
 have:hQ fr.env d (fr.env d)=fr.env:=by
  funext j
  simp only[hQ]
  split
  ·rename_i h;rw[h]
  ·rfl
 rw[this]
def N5(fr:Fr)(d:Nat)(x y:AV):(fr.put (some d) x).put (some d) y=fr.put (some d) y:=by
 simp only[Fr.put,JJ]
structure Left (c:Sz) (dst:Option Nat) (soft q:Bool) (fr:Fr) (H:eD) (fr':Fr) (H':eD):Prop where
 env:∀t,dst≠some t->fr'.env t=fr.env t
 box:∀b,c≠ .alloc (some b)->c≠ .Jw (some b)->fr'.box b=fr.box b/\fr'.gen b=fr.gen b
 heap:c≠ .AO->(∀r,c=.Jw r->soft=true)->H'=H
 quiet:soft=true->q=true->H'=H
def ng.left(fr:Fr)(d:Nat)(x:ng):(∀t,t≠d->(ng.fr fr d x).env t=fr.env t)/\(ng.fr fr d x).box=fr.box/\(ng.fr fr d x).gen=fr.gen:=by
 cases x with
 |grow tag l m=>exact⟨λt a=>by show hQ _ _ _ t=_;rw[zk _ _ _ _ a],rfl,rfl⟩|same l=>exact⟨λt a=>by show hQ _ _ _ t=_;rw[zk _ _ _ _ a],rfl,rfl⟩
def rB(h:oA P T E ops q soft o fr H fr' H'):Left (gZ E ops o) o.dst soft q fr H fr' H':=by
 have a:∀(v:AV) (t:Nat),o.dst≠some t->(fr.put o.dst v).env t=fr.env t:=by
  intro v t i;rw[Fr.Cu,ea i]
 cases g:gZ E ops o with
 |val=>
  obtain⟨v,_,rfl,rfl⟩:=B3 (.inl g) h;obtain⟨c,f,_,_⟩:=Fr.wR fr o.dst v;exact⟨a v,λb _ _=>⟨by rw[c],by rw[f]⟩,λ_ _=>rfl,λ_ _=>rfl⟩
 |load r=>
  obtain⟨v,_,rfl,rfl⟩:=B3 (.inr ⟨r,g⟩) h;obtain⟨c,f,_,_⟩:=Fr.wR fr o.dst v;exact⟨a v,λb _ _=>⟨by rw[c],by rw[f]⟩,λ_ _=>rfl,λ_ _=>rfl⟩
 |alloc d=>
  obtain⟨n,cs,rfl,k,_,_,rfl,rfl⟩:=vm g h;refine⟨λt i=>?_,λb l _=>?_,λ_ _=>rfl,λ_ _=>rfl⟩
  ·show hQ _ _ _ t=_;rw[zk];rintro rfl;exact i k
  ·have j:b≠n:=by rintro rfl;exact l rfl
   exact⟨zk _ _ _ _ j,zk _ _ _ _ j⟩
 |AO=>
  obtain⟨r,rfl,p,_⟩:=Bt g h;obtain⟨c,f,_,_⟩:=Fr.wR fr o.dst r;exact⟨a r,λb _ _=>⟨by rw[c],by rw[f]⟩,λhn _=>absurd rfl hn,p⟩
 |app=>
  obtain⟨d,x,k,rfl,rfl,_⟩:=Cw g h;obtain⟨g1,g2,g3⟩:=ng.left fr d x;exact⟨λt i=>g1 t (by rintro rfl;exact i k),λb _ _=>⟨by rw[g2],by rw[g3]⟩,λ_ _=>rfl,λ_ _=>rfl⟩
 |Jw r=>
  obtain⟨c,f,u,w,y,s,m⟩:=RA g h;exact⟨λt _=>by rw[c],λb _ l=>⟨s b (λe=>l (by rw[e])),by rw[f]⟩,λ_ hs=>m (hs r rfl),λhs _=>m hs⟩
def Lk{d:Nat}(v:AV)(c:d∉o.looksAt opsA)(a:o.dst≠some d)(h:oA P T E ops q soft o fr H fr' H'):oA P T E ops q soft o (fr.put (some d) v) H (fr'.put (some d) v) H':=by
 have e:ib P T E ops q soft o (λf h=>f=fr'/\h=H') ((fr.put (some d) v).put (some d) (fr.env d)) H:=by
  rw[N5,KO];exact h
 obtain⟨f,k,b,g,i⟩:=xq (I4 (opsA:=opsA) c a e);subst i;have he:=(rB b).env d a
 have j:f=fr'.put (some d) v:=by
  rw[<-g,N5]
  have:(fr.put (some d) v).env d=v:=by rw[Fr.Cu,ee rfl]
  rw[this] at he;rw[<-he,KO]
 rw[<-j];exact b
def Gv{d:Nat}{v:AV}(b:d∉o.looksAt opsA)(a:o.dst≠some d)(h:oA P T E ops q soft o (fr.put (some d) v) H fr' H'):∃f,oA P T E ops q soft o fr H f H'/\f.put (some d) v=fr':=by
 obtain⟨f,i,c,e,g⟩:=xq (I4 (opsA:=opsA) b a h);subst g;exact⟨f,c,e⟩
def QA{x:Operand}{t:Nat}(a:x∈o.op.operands)(b:x=.tmp t):t∈o.looksAt opsA:=by
 subst b;exact TY _ (X'.2 ⟨.tmp t,by simpa using a,rfl⟩)
def JD{c:Sz}{dst:Option Nat}(a:Left c dst soft q fr H fr' H')(b:∀d,dst=some d->d∉o.looksAt opsA):∀x∈o.op.operands,ev T fr x=ev T fr' x:=by
 intro x e;refine Ll λt f=>?_;rw[a.env];intro g;exact b t g (QA e f)
def IE{c:Sz}{dst:Option Nat}(u:Left c dst soft2 q fr H fr' H')(z:∀d,dst=some d->d∉o.looksAt opsA)(e:vU (gZ E ops o) c=true)
  (hs:∀r,gZ E ops o=.load r->(c=.AO->soft=true/\soft2=true)/\(∀A,c=.Jw A->soft2=true)) {v:AV} (hv:pC P T E ops q soft fr H o=some v\/pC P T E ops q soft fr' H' o=some v):pC P T E ops q soft fr H o=pC P T E ops q soft fr' H' o:=by
 have m:=JD (T:=T) (opsA:=opsA) u z
 by_cases j:∃t x,o.op=.load t x
 ·obtain⟨t,x,a⟩:=j;have B:=m x (by rw[a];simp[Op.operands])
  have k:gZ E ops o=.load (Df ops x):=by unfold gZ;rw[a]
  obtain⟨n,p⟩:=hs _ k;rw[k] at e
  have l:re ops x (ev T fr x)=true/\(!soft||q||!UG (ev T fr x))=true:=by
   have:∀(f:Fr) (h:eD),pC P T E ops q soft f h o=some v->ev T f x=ev T fr x->re ops x (ev T fr x)=true/\(!soft||q||!UG (ev T fr x))=true:=by
    intro f h hv he;unfold pC at hv;rw[a] at hv;simp only at hv
    split at hv
    ·rename_i w;rw[he] at w;simpa using w
    ·cases hv
   rcases hv with hv|hv
   ·exact this fr H hv rfl
   ·exact this fr' H' hv B.symm
  refine A9 m (λG I he=>?_) (λ_ _ _ _ he=>by rw[a] at he;cases he);rw[a] at he;injection he with C D;subst C;subst D;refine⟨λb g off F=>?_,λhg=>?_⟩
  ·have s:Df ops x=some b:=by
    have:=l.1;rw[F] at this;simpa[re] using this
   rw[s] at e;have:=u.box b (by rintro rfl;simp[vU] at e) (by rintro rfl;simp[vU] at e);exact⟨this.1.symm,this.2.symm⟩
  ·by_cases he:c=.AO
   ·obtain⟨g1,g2⟩:=n he
    have y:q=true:=by
     have:=l.2;rw[g1,hg] at this;simpa using this
    exact(u.quiet g2 y).symm
   ·exact(u.heap he p).symm
 ·refine A9 m (λt x he=>absurd ⟨t,x,he⟩ j) λt x i ok a=>?_
  have k:gZ E ops o=.load none:=by unfold gZ;rw[a]
  obtain⟨n,p⟩:=hs _ k
  have y:(!soft||q)=true:=by
   have:∀(f:Fr) (h:eD),pC P T E ops q soft f h o=some v->(!soft||q)=true:=by
    intro f h hv;unfold pC at hv;rw[a] at hv;simp only at hv
    split at hv
    ·rename_i w;exact w
    ·cases hv
   rcases hv with hv|hv
   ·exact this _ _ hv
   ·exact this _ _ hv
  by_cases he:c=.AO
  ·obtain⟨g1,g2⟩:=n he;rw[g1] at y;exact(u.quiet g2 (by simpa using y)).symm
  ·exact(u.heap he p).symm
def Ka(fr:Fr){d b:Nat}(h:d≠b)(cs a:List AV):lT (lT fr d cs) b a=lT (lT fr b a) d cs:=by
 simp only[lT,zk _ _ _ _ h,zk _ _ _ _ h.symm];rw[vl fr.env h,vl fr.box h,vl fr.gen h]
def Ea(fr:Fr){d:Nat}{d2:Option Nat}(h:d2≠some d)(cs:List AV)(r:AV):(lT fr d cs).put d2 r=lT (fr.put d2 r) d cs:=by
 cases d2 with
 |none=>rfl|some b=>
  have a:d≠b:=λe=>h (by rw[e]);simp only[lT,Fr.put];rw[vl fr.env a]
def N9(fr:Fr){d:Nat}{d2:Option Nat}(h:d2≠some d)(x:ng)(r:AV):ng.fr (fr.put d2 r) d x=(ng.fr fr d x).put d2 r:=by
 cases d2 with
 |none=>rfl|some b=>
  have a:b≠d:=λe=>h (by rw[e]);cases x with
  |grow tag l m=>
   simp only[ng.fr,grown,Fr.put];rw[vl fr.env a]
  |same l=>exact r_ fr a r (.slice .iN l)
def D8(fr:Fr){d a:Nat}(h:d≠a)(cs:List AV)(x:ng):ng.fr (lT fr d cs) a x=lT (ng.fr fr a x) d cs:=by
 cases x with
 |grow tag l m=>
  simp only[ng.fr,grown,lT];rw[vl fr.env h]
 |same l=>
  simp only[ng.fr,Fr.put,lT];rw[vl fr.env h]
def Pq(R:o1.apart opsA o2=true)(b:vU (gZ E ops o1) (gZ E ops o2)=true)
  (S:∀r,gZ E ops o1=.load r->(gZ E ops o2=.AO->soft1=true/\soft2=true)/\(∀L,gZ E ops o2=.Jw L->soft2=true))
  (U:∀r,gZ E ops o2=.load r->(gZ E ops o1=.AO->soft2=true/\soft1=true)/\(∀L,gZ E ops o1=.Jw L->soft1=true))
  (G:oA P T E ops q soft1 o1 fr H fr1 H1) (D:oA P T E ops q soft2 o2 fr1 H1 fr2 H2):∃f h,oA P T E ops q soft2 o2 fr H f h/\oA P T E ops q soft1 o1 f h fr2 H2:=by
 obtain⟨a1,a2,a3⟩:=Oper.apart_spec R
 by_cases I:gZ E ops o1=.val\/∃r,gZ E ops o1=.load r
 ·obtain⟨v,M,c,J⟩:=B3 I G;subst J
  have V:∃f,oA P T E ops q soft2 o2 fr H1 f H2/\f.put o1.dst v=fr2:=by
   cases u:o1.dst with
   |none=>rw[u] at c;subst c;exact⟨fr2,D,rfl⟩
   |some d=>rw[u] at c;subst c;exact Gv (opsA:=opsA) (a1 d u) (a2 d u) D
  obtain⟨f,N,W⟩:=V;have w:vU (gZ E ops o1) (gZ E ops o2)=true:=b;have:=IE (o:=o1) (soft:=soft1) (rB N) a3 w S (.inl M);refine⟨f,H2,N,?_⟩;rw[<-W];exact IV (by rw[<-this];exact M)
 ·--aa second one only K
  by_cases n:gZ E ops o2=.val\/∃r,gZ E ops o2=.load r
  ·obtain⟨v,M,c,J⟩:=B3 n D;subst J
   have w:vU (gZ E ops o2) (gZ E ops o1)=true:=by
    revert b
    cases gZ E ops o1<;>cases gZ E ops o2<;>simp[vU]<;>(intro h e;exact h e.symm)
   have:=IE (o:=o2) (soft:=soft2) (rB G) a1 w U (.inr M);refine⟨fr.put o2.dst v,H,IV (by rw[this];exact M),?_⟩;rw[c];cases u:o2.dst with
   |none=>exact G|some d=>exact Lk (opsA:=opsA) v (a3 d u) (λe=>a2 d e u) G
  ·--O
   have X:=rB G;have j:∀x∈o2.op.operands,ev T fr x=ev T fr1 x:=JD (T:=T) (opsA:=opsA) X a1;have s:∀{f:Fr} {h:eD} (Q:oA P T E ops q soft2 o2 fr H f h),∀x∈o1.op.operands,ev T fr x=ev T f x:=λQ=>JD (T:=T) (opsA:=opsA) (rB Q) a3;cases k:gZ E ops o1 with
   |val=>exact absurd (.inl k) I|load r=>exact absurd (.inr ⟨r,k⟩) I|Jw r=>
    rw[k] at b;cases a:gZ E ops o2 with
    |val=>exact absurd (.inl a) n|load L=>exact absurd (.inr ⟨L,a⟩) n|_=>rw[a] at b;simp[vU] at b
   |alloc d1=>
    obtain⟨d,cs,rfl,u,Y,Z,c,J⟩:=vm k G;subst J
    have back:∀{f:Fr} {h:eD} (Q:oA P T E ops q soft2 o2 fr H1 f h),oA P T E ops q soft1 o1 f h (lT f d cs) h:=λQ=>
     vM u Y (by rw[<-ug (s Q)];exact Z)
    cases a:gZ E ops o2 with
    |val=>exact absurd (.inl a) n|load r=>exact absurd (.inr ⟨r,a⟩) n|Jw r=>rw[k,a] at b;simp[vU] at b
    |alloc d2=>
     obtain⟨z,A,rfl,i,B,t,g,p⟩:=vm a D;subst p;have C:d≠z:=λe=>a2 d u (by rw[i,e]);have hn:oA P T E ops q soft2 o2 fr H2 (lT fr z A) H2:=vM i B (by rw[ug j];exact t);refine⟨_,_,hn,?_⟩;rw[g,c,Ka fr C];exact back hn
    |AO=>
     obtain⟨r,g,_,l⟩:=Bt a D;have hn:=l fr λx F=>(j x F).symm;refine⟨_,_,hn,?_⟩;rw[g,c,Ea fr (λe=>a2 d u e)];exact back hn
    |app=>
     obtain⟨z,x,i,g,p,l⟩:=Cw a D;subst p;have C:d≠z:=λe=>a2 d u (by rw[i,e]);have hn:=l fr H2 (λx F=>(j x F).symm) (by rw[c];rfl) (by rw[c];rfl);refine⟨_,_,hn,?_⟩;rw[g,c,D8 fr C];exact back hn
   |AO=>
    obtain⟨r,c,_,m⟩:=Bt k G;cases a:gZ E ops o2 with
    |val=>exact absurd (.inl a) n|load r=>exact absurd (.inr ⟨r,a⟩) n|Jw r=>rw[k,a] at b;simp[vU] at b
    |AO=>rw[k,a] at b;simp[vU] at b
    |alloc d2=>
     obtain⟨z,A,rfl,i,B,t,g,p⟩:=vm a D;subst p;have hn:oA P T E ops q soft2 o2 fr H (lT fr z A) H:=vM i B (by rw[ug j];exact t);refine⟨_,_,hn,?_⟩;rw[g,c,<-Ea fr (λe=>a2 z e i)];exact m _ λx F=>s hn x F
    |app=>
     obtain⟨z,x,i,g,p,l⟩:=Cw a D;subst p;obtain⟨e1,e2,e3,e4⟩:=Fr.wR fr o1.dst r;have hn:=l fr H (λx F=>(j x F).symm) (by rw[c,e3]) (by rw[c,e4]);refine⟨_,_,hn,?_⟩;rw[g,c,N9 fr (λe=>a2 z e i)];exact m _ λx F=>s hn x F
   |app=>
    obtain⟨d,x,u,c,J,m⟩:=Cw k G;subst J;cases a:gZ E ops o2 with
    |val=>exact absurd (.inl a) n|load r=>exact absurd (.inr ⟨r,a⟩) n|Jw r=>rw[k,a] at b;simp[vU] at b
    |app=>rw[k,a] at b;simp[vU] at b
    |alloc d2=>
     obtain⟨z,A,rfl,i,B,t,g,p⟩:=vm a D;subst p;have C:z≠d:=λe=>a2 d u (by rw[i,e]);have hn:oA P T E ops q soft2 o2 fr H2 (lT fr z A) H2:=vM i B (by rw[ug j];exact t);refine⟨_,_,hn,?_⟩;rw[g,c,<-D8 fr C];exact m _ _ (λy hy=>s hn y hy) rfl rfl
    |AO=>
     obtain⟨r,g,_,l⟩:=Bt a D;have hn:=l fr λy hy=>(j y hy).symm;obtain⟨e1,e2,e3,e4⟩:=Fr.wR fr o2.dst r;refine⟨_,_,hn,?_⟩;rw[g,c,<-N9 fr (λe=>a2 d u e)];exact m _ _ (λy hy=>s hn y hy) e3 e4
end
end Go.mS
namespace Go.mS
open Go
def jX(opsA:Array Oper)(o:Oper)(fr:Fr):Option Bool:=
 match o.guard with
 |none=>some true|some (j,want)=>
  match(opsA[j]?).bind (·.dst)with
  |some d=>match fr.env d with
   |.sc (.bool b)=>some (b==want)|.tuple _=>some false|_=>none
  |none=>none
def nc(P:Program)(T:fg)(E:List Nat)(opsA:Array Oper)(q soft:Bool)(o:Oper)(K:Fr->eD->Prop)(fr:Fr)(H:eD):Prop:=
 match jX opsA o fr with
 |some true=>ib P T E opsA.toList q soft o K fr H|some false=>K (fr.put o.dst (.tuple [])) H|none=>False
def FE(P:Program)(T:fg)(E:List Nat)(opsA:Array Oper)(q:Bool)(sf:Nat->Bool):List Nat->(Fr->eD->Prop)->Fr->eD->Prop
 |[],K,fr,H=>K fr H|i::rest,K,fr,H=>match opsA[i]?with
  |some o=>nc P T E opsA q (sf i) o (λfr H=>FE P T E opsA q sf rest K fr H) fr H|none=>False
section
variable{P:Program} {T:fg} {E:List Nat} {opsA:Array Oper} {q soft soft1 soft2:Bool} {o o1 o2:Oper} {K K':Fr->eD->Prop} {fr fr':Fr} {H H':eD}
def Bg(a:∀fr H,K fr H->K' fr H)(h:nc P T E opsA q soft o K fr H):nc P T E opsA q soft o K' fr H:=by
 unfold nc at*
 split at h
 ·exact F5 a h
 ·exact a _ _ h
 ·exact h
def Lq(h:nc P T E opsA q soft o K fr H):BO P T E opsA o K fr H:=by
 unfold nc jX at h;unfold BO;cases hg:o.guard with
 |none=>rw[hg] at h;exact DU h
 |some p=>
  obtain⟨j,want⟩:=p;rw[hg] at h;simp only at h|-
  cases g:(opsA[j]?).bind (·.dst)with
  |none=>rw[g] at h;exact h
  |some d=>
   rw[g] at h;simp only at h|-
   split
   ·rename_i b a;rw[a] at h;simp only at h
    by_cases hw:b=want
    ·subst hw;rw[ee rfl];simp only[beq_self_eq_true] at h;exact DU h
    ·rw[ea hw]
     have:(b==want)=false:=by simpa using hw
     rw[this] at h;exact h
   ·rename_i l e;rw[e] at h;exact h
   ·rename_i c f
    split at h
    ·rename_i he
     split at he
     ·rename_i b a;exact(c b a).elim
     ·cases he
     ·cases he
    ·rename_i he
     split at he
     ·rename_i b a;exact(c b a).elim
     ·rename_i l e;exact(f l e).elim
     ·cases he
    ·exact h
def Ca(h:∀t,t∈o.looksAt opsA->fr'.env t=fr.env t):jX opsA o fr'=jX opsA o fr:=by
 unfold jX;cases hg:o.guard with
 |none=>rfl|some p=>
  obtain⟨j,want⟩:=p;simp only
  cases a:(opsA[j]?).bind (·.dst)with
  |none=>rfl|some d=>
   simp only
   have:d∈o.looksAt opsA:=by
    unfold Oper.looksAt;rw[hg];refine W0 _ ?_
    show d∈((opsA[j]?).bind (·.dst)).toList
    rw[a];simp
   rw[h d this]
def Du{d:Option Nat}{v:AV}(h:∀a,d=some a->a∉o.looksAt opsA):jX opsA o (fr.put d v)=jX opsA o fr:=by
 refine Ca λt b=>?_;rw[Fr.Cu,ea];rintro rfl;exact h t rfl b
def A0{c:Sz}{dst:Option Nat}(b:Left c dst soft q fr H fr' H')(h:∀a,dst=some a->a∉o.looksAt opsA):jX opsA o fr'=jX opsA o fr:=by
 refine Ca λt d=>b.env t ?_;rintro rfl;exact h t rfl d
def S2(E:List Nat)(opsA:Array Oper)(s1 s2:Bool)(o1 o2:Oper):Bool:=
 o1.apart opsA o2&&vU (gZ E opsA.toList o1) (gZ E opsA.toList o2)&&
 (match gZ E opsA.toList o1,gZ E opsA.toList o2 with
  |.load _,.AO=>s1&&s2|.AO,.load _=>s1&&s2|.load _,.Jw _=>s2|.Jw _,.load _=>s1|_,_=>true)
def M7(t:S2 E opsA soft1 soft2 o1 o2=true)(h:nc P T E opsA q soft1 o1 (λfr H=>nc P T E opsA q soft2 o2 K fr H) fr H):nc P T E opsA q soft2 o2 (λfr H=>nc P T E opsA q soft1 o1 K fr H) fr H:=by
 unfold S2 at t;simp only[gL] at t;obtain⟨⟨m,n⟩,a⟩:=t;obtain⟨a1,a2,a3⟩:=Oper.apart_spec m
 have u:∀r,gZ E opsA.toList o1=.load r->(gZ E opsA.toList o2=.AO->soft1=true/\soft2=true)/\(∀o,gZ E opsA.toList o2=.Jw o->soft2=true):=by
  intro r v;rw[v] at a;refine⟨λhe=>?_,λo he=>?_⟩<;>rw[he] at a
  ·simpa using a
  ·exact a
 have w:∀r,gZ E opsA.toList o2=.load r->(gZ E opsA.toList o1=.AO->soft2=true/\soft1=true)/\(∀o,gZ E opsA.toList o1=.Jw o->soft1=true):=by
  intro r v;rw[v] at a;refine⟨λhe=>?_,λo he=>?_⟩<;>rw[he] at a
  ·have:soft1=true/\soft2=true:=by simpa using a
   exact⟨this.2,this.1⟩
  ·exact a
 unfold nc at h
 split at h
 ·--x first one is carried out
  rename_i c;obtain⟨f1,H1,i,h⟩:=xq h;have y:=rB i;have l:jX opsA o2 f1=jX opsA o2 fr:=A0 y a1;rw[l] at h;unfold nc
  split at h
  ·rename_i g;obtain⟨f2,H2,b,z⟩:=xq h;obtain⟨f,F,k,p⟩:=Pq m n u w i b;refine zB k ?_;have:jX opsA o1 f=jX opsA o1 fr:=A0 (rB k) a3;rw[this,c];exact zB p z
  ·rename_i g
   show match jX opsA o1 (fr.put o2.dst (.tuple []))with
    |some true=>ib P T E opsA.toList q soft1 o1 K (fr.put o2.dst (.tuple [])) H|some false=>K ((fr.put o2.dst (.tuple [])).put o1.dst (.tuple [])) H|none=>False
   rw[Du a3,c];simp only;cases j:o2.dst with
   |none=>rw[j] at h;exact zB i h
   |some d=>rw[j] at h;exact zB (Lk (opsA:=opsA) _ (a3 d j) (λe=>a2 d e j) i) h
  ·exact h.elim
 ·--x first one is left out
  rename_i c;have l:jX opsA o2 (fr.put o1.dst (.tuple []))=jX opsA o2 fr:=Du a1;rw[l] at h;unfold nc
  split at h
  ·rename_i g;obtain⟨f2,H2,b,z⟩:=xq h
   have A:∃f,oA P T E opsA.toList q soft2 o2 fr H f H2/\f.put o1.dst (.tuple [])=f2:=by
    cases j:o1.dst with
    |none=>rw[j] at b;exact⟨f2,b,rfl⟩
    |some d=>rw[j] at b;exact Gv (opsA:=opsA) (a1 d j) (a2 d j) b
   obtain⟨f,s,B⟩:=A;refine zB s ?_;have:jX opsA o1 f=jX opsA o1 fr:=A0 (rB s) a3;rw[this,c];show K (f.put o1.dst (.tuple [])) H2;rw[B];exact z
  ·rename_i g
   show match jX opsA o1 (fr.put o2.dst (.tuple []))with
    |some true=>ib P T E opsA.toList q soft1 o1 K (fr.put o2.dst (.tuple [])) H|some false=>K ((fr.put o2.dst (.tuple [])).put o1.dst (.tuple [])) H|none=>False
   rw[Du a3,c];simp only
   have:(fr.put o2.dst (.tuple [])).put o1.dst (.tuple [])=(fr.put o1.dst (.tuple [])).put o2.dst (.tuple []):=by
    cases C:o1.dst with
    |none=>rfl|some d1=>
     cases D:o2.dst with
     |none=>rfl|some d2=>exact r_ fr (λe=>a2 d1 C (by rw[D,e])) _ _
   rw[this];exact h
  ·exact h.elim
 ·exact h.elim
def M3{sf:Nat->Bool}{i:Nat}(hi:opsA[i]?=some o)(post:List Nat):∀(pre:List Nat) (fr:Fr) (H:eD),(∀j∈pre,∀a,opsA[j]?=some a->S2 E opsA (sf j) (sf i) a o=true)->FE P T E opsA q sf (pre++i::post) K fr H->nc P T E opsA q (sf i) o (λfr H=>FE P T E opsA q sf (pre++post) K fr H) fr H:=by
 intro pre
 induction pre with
 |nil=>
  intro fr H _ h;simp only[oh,FE,hi] at h;exact h
 |cons j pre b=>
  intro fr H hex h;simp only[WH,FE] at h|-
  split at h
  ·rename_i a c;have d:=Bg (λfr H h=>b fr H (λk e=>hex k (by simp[e])) h) h;have f:=M7 (hex j (by simp) a c) d;exact f
  ·exact h.elim
end
def wW(opsA:Array Oper):Bool:=opsA.toList.zipIdx.all λ(o,i)=>o.after.all λe=>!Region.binds .any e||decide (e.on<i)
def JP(opsA:Array Oper)(M:Array Nat):Bool:=
 (List.range opsA.size).all λi=>(List.range opsA.size).all λj=>!(M.getD i 0).testBit j||
  (opsA.getD i default).after.toList.any λe=>Region.binds .any e&&(e.on==j||(M.getD e.on 0).testBit j)
def wH(E:List Nat)(opsA:Array Oper)(sf:Nat->Bool):Bool:=
 let M:=Region.before opsA
 wW opsA&&JP opsA M&&
 (List.range opsA.size).all λi=>(List.range i).all λj=>(M.getD i 0).testBit j||S2 E opsA (sf j) (sf i) (opsA.getD j default) (opsA.getD i default)
section
variable{P:Program} {T:fg} {E:List Nat} {opsA:Array Oper} {q:Bool} {sf:Nat->Bool} {K:Fr->eD->Prop}
def vk(opsA:Array Oper)(listed:Array Bool):List Nat:=(List.range opsA.size).filter λi=>!listed.getD i true
def Ov{listed:Array Bool}{i:Nat}:i∈vk opsA listed↔i<opsA.size/\listed.getD i true=false:=by
 simp[vk]
def Qf(M:Array Nat)(opsA:Array Oper)(listed:Array Bool):Prop:=∀i j,i<opsA.size->j<opsA.size->listed.getD i false=true->(M.getD i 0).testBit j=true->listed.getD j false=true
def AM{listed:Array Bool}{i:Nat}(d:Bool)(h:i<listed.size):(listed.setIfInBounds i true).getD i d=true:=by
 simp[h]
def J6{opsA:Array Oper}(a:wW opsA=true){listed:Array Bool}(f:listed.size=opsA.size){i:Nat}(hi:i<opsA.size)(d:listed.getD i true=false)
  (b:∀j,j<i->listed.getD j false=true):i∈Region.ready .any opsA listed:=by
 rw[mem_ready];refine⟨d,opsA[i],PU hi,λe he g=>?_⟩;refine b _ ?_;unfold wW at a;rw[k4] at a
 have c:(opsA[i],i)∈opsA.toList.zipIdx:=by
  rw[Zo];simp[hi]
 have:=a _ c;simp only[Hs] at this;have:=this e he;rw[g] at this;simpa using this
def DS{opsA:Array Oper}{M:Array Nat}(f:JP opsA M=true)(a:wW opsA=true){listed:Array Bool}(g:Qf M opsA listed){i:Nat}(p:i∈Region.ready .any opsA listed){j:Nat}(m:j<opsA.size)
  (q:(M.getD i 0).testBit j=true):listed.getD j false=true:=by
 obtain⟨r,o,h,b⟩:=mem_ready.1 p;have hi:i<opsA.size:=(NV.1 h).1;unfold JP at f;rw[k4] at f;have:=f i (by simpa using hi);rw[k4] at this;have:=this j (by simpa using m);rw[q] at this;simp only[PC,KL,List.any_eq_true,xQ,gL,p8,VC] at this;obtain⟨e,he,c,hor⟩:=this
 have k:opsA.getD i default=o:=by rw[Kd,h];rfl
 rw[k] at he;have n:=b e he c;rcases hor with rfl|hor
 ·exact n
 ·have l:e.on<opsA.size:=by
   unfold wW at a;rw[k4] at a
   have d:(o,i)∈opsA.toList.zipIdx:=by
    rw[Zo];simpa using h
   have:=a _ d;simp only[Hs] at this;have:=this e he;rw[c] at this
   have:e.on<i:=by simpa using this
   omega
  exact g e.on j l m n hor
def PX{listed:Array Bool}(d:listed.size=opsA.size){i:Nat}(hi:i<opsA.size)(b:listed.getD i true=false):∃pre post,vk opsA listed=pre++i::post/\vk opsA (listed.setIfInBounds i true)=pre++post/\∀j∈pre,j<i/\listed.getD j true=false:=by
 have c:List.range opsA.size=List.range i++i::(List.range' (i+1) (opsA.size-i-1)):=by
  rw[Rj,Rj]
  have:opsA.size=i+(1+(opsA.size-i-1)):=by omega
  conv=>lhs;rw[this]
  rw[<-List.range'_append_1]
  congr 1
  rw[show 1+(opsA.size-i-1)=(opsA.size-i-1)+1 by omega,TT];simp
 refine⟨(List.range i).filter (λj=>!listed.getD j true),(List.range' (i+1) (opsA.size-i-1)).filter (λj=>!listed.getD j true),?_,?_,?_⟩
 ·unfold vk;rw[c,Zc,List.filter_cons_of_pos (by simp[b])]
 ·unfold vk;rw[c,Zc,List.filter_cons_of_neg (by rw[AM _ (by omega)];simp)]
  congr 1
  ·refine Zk λj a=>?_
   have:j<i:=by simpa using a
   rw[getD_set_ne true (by omega)]
  ·refine Zk λj a=>?_;have:=(List.mem_range'_1.1 a).1;rw[getD_set_ne true (by omega)]
 ·intro j a;rw[Qv] at a;exact⟨by simpa using a.1,by simpa using a.2⟩
variable{n:Nat} {G0:Nat->Nat} {F0:lE} {n0:Nat} {w0:World}
def ye{listed:Array Bool}{i:Nat}(hi:i<listed.size):listed.getD i false=listed.getD i true:=by
 simp[hi]
def Sp{Q:Exit->Act->World->Prop}(p:wH E opsA sf=true)(x:yc n opsA=true)(R:∀fr' H' F w',K fr' H'->SR T n G0 F0 n0 w0 fr' H' F w'->Q .normal F w'):∀(fuel:Nat) (listed:Array Bool) (fr:Fr) (H:eD) (a:Act) (w:World),listed.size=opsA.size->Qf (Region.before opsA) opsA listed->(vk opsA listed).length<=fuel->SR T n G0 F0 n0 w0 fr H a w->FE P T E opsA q sf (vk opsA listed) K fr H->wpAny P .any opsA Q fuel listed a w:=by
 unfold wH at p;simp only[gL] at p;obtain⟨⟨c,S⟩,d⟩:=p
 have r:∀{listed:Array Bool},listed.size=opsA.size->Region.ready .any opsA listed=[]->vk opsA listed=[]:=by
  intro listed f y;cases b:vk opsA listed with
  |nil=>rfl|cons i rest=>
   exfalso
   have m:i∈vk opsA listed:=by rw[b];simp
   have hex:∃k,k<opsA.size/\listed.getD k true=false:=⟨i,Ov.1 m⟩
   obtain⟨k,⟨G,I⟩,z⟩:∃k,(k<opsA.size/\listed.getD k true=false)/\∀j,j<k->¬(j<opsA.size/\listed.getD j true=false):=by
    clear b m;obtain⟨k,hk⟩:=hex
    induction k using Nat.strongRecOn with
    |_ k J=>
     by_cases h:∃j,j<k/\(j<opsA.size/\listed.getD j true=false)
     ·obtain⟨j,s,t⟩:=h;exact J j s t
     ·exact⟨k,hk,λj A hc=>h ⟨j,A,hc⟩⟩
   have:=J6 c f G I λj A=>by
    have hn:=z j A
    have L:j<opsA.size:=by omega
    rw[ye (by omega)];cases hb:listed.getD j true with
    |true=>rfl|false=>exact absurd ⟨L,hb⟩ hn
   rw[y] at this;cases this
 intro fuel
 induction fuel with
 |zero=>
  intro listed fr H a w f g hlen hs h;have b:vk opsA listed=[]:=BB (by omega);rw[b] at h;refine⟨?_,R _ _ _ _ h hs⟩;cases y:Region.ready .any opsA listed with
  |nil=>rfl|cons i rest=>
   have hm:i∈Region.ready .any opsA listed:=by rw[y];simp
   obtain⟨u,o,v,_⟩:=mem_ready.1 hm;have:i∈vk opsA listed:=Ov.2 ⟨(NV.1 v).1,u⟩;rw[b] at this;cases this
 |succ fuel J=>
  intro listed fr H a w f g hlen hs h;refine⟨λy=>?_,λi hi=>?_⟩
  ·rw[r f y] at h;exact R _ _ _ _ h hs
  ·obtain⟨u,o,v,U⟩:=mem_ready.1 hi;have B:i<opsA.size:=(NV.1 v).1;obtain⟨pre,post,V,W,h3⟩:=PX f B u;rw[V] at h
   have l:=M3 (P:=P) (T:=T) (E:=E) (opsA:=opsA) (q:=q) (K:=K) (sf:=sf) v post pre fr H (by
    intro j A oj M;obtain⟨s,t⟩:=h3 j A;rw[k4] at d;have:=d i (by simpa using B);rw[k4] at this;have:=this j (by simpa using s);simp only[p8] at this
    have e1:opsA.getD j default=oj:=by rw[Kd,M];rfl
    have e2:opsA.getD i default=o:=by rw[Kd,v];rfl
    rw[e1,e2] at this;rcases this with hb|hb
    ·have:=DS S c g hi (by omega) hb;rw[ye (by omega),t] at this;cases this
    ·exact hb) h
   have N:rY n o=true:=Hs.1 x o (RM v);refine DZ v N hs (Lq l) ?_;intro fr' H' F w' hK O;refine J (listed.setIfInBounds i true) fr' H' F w' (by simpa using f) ?_ ?_ O (by rw[W];exact hK)
   ·--still closed
    intro X Y hi' C Z hb
    by_cases he:Y=i
    ·subst he;exact AM _ (by omega)
    ·rw[getD_set_ne false (λe=>he e.symm)]
     by_cases D:X=i
     ·subst D;exact DS S c g hi C hb
     ·rw[getD_set_ne false (λe=>D e.symm)] at Z;exact g X Y hi' C Z hb
   ·rw[V] at hlen;rw[W];simp only[so,lL] at hlen|-;omega
end
section
variable{P:Program} {T:fg} {n:Nat} {Q:Exit->Fr->eD->Prop} {fr:Fr} {H:eD}
def SR.drew{G0:Nat->Nat}{F0:lE}{n0:Nat}{w0:World}{a:Act}{w:World}(hs:SR T n G0 F0 n0 w0 fr H a w):SR T n G0 F0 n0 w0 fr H a w.drew:=by
 obtain⟨ρ,F,R,hw,b⟩:=hs;exact⟨ρ,F,R,hw.drew,b.drew⟩
def gI.LN{id:Nat}{ops:Array Oper}(E:List Nat)(q:Bool)(sf:Nat->Bool)(hm:P.follows .mixedOrders=true)(c:yc n ops=true)(d:wH E ops sf=true)
  (h:FE P T E ops q sf (List.range ops.size) (Q .normal) fr H):gI P T n (.region id ops true) Q fr H:=by
 intro G0 F0 n0 w0 a w hs;refine wp_region_any hm ?_
 have b:vk ops (Array.replicate ops.size false)=List.range ops.size:=by
  unfold vk;rw[X8];intro i hi
  have:i<ops.size:=by simpa using hi
  simp[this]
 have:=Sp (Q:=λe f w'=>∃fr' H',Q e fr' H'/\SR T n G0 F0 n0 w0 fr' H' f w') d c (λfr' H' f w' g k=>⟨fr',H',g,k⟩) ops.size (Array.replicate ops.size false) fr H a w.drew (by simp)
  (by intro i j hi m l;simp[hi] at l) (by rw[b];simp) hs.drew (by rw[b];exact h)
 exact this
def rW(P:Program)(T:fg)(E:List Nat)(opsA:Array Oper)(q:Bool):List Oper->(Fr->eD->Prop)->Fr->eD->Prop
 |[],K,fr,H=>K fr H|o::rest,K,fr,H=>nc P T E opsA q true o (λfr H=>rW P T E opsA q rest K fr H) fr H
def JK{E:List Nat}{ops:Array Oper}{q:Bool}{K:Fr->eD->Prop}:∀(l:List Oper) (k:Nat) (fr:Fr) (H:eD),l=ops.toList.drop k->rW P T E ops q l K fr H->FE P T E ops q (λ_=>true) (List.range' k l.length) K fr H:=by
 intro l
 induction l with
 |nil=>intro k fr H _ h;exact h|cons o l c=>
  intro k fr H b h
  have a:k<ops.toList.length:=by
   rcases sA k ops.toList.length with h'|h'
   ·exact h'
   ·rw[Hh h'] at b;cases b
  have d:=Lm a;rw[d] at b;injection b with e f
  have hi:ops[k]?=some o:=by
   rw[e];simp only[VL];exact PU (by simpa using a)
  simp only[lL,TT,FE,hi];exact Bg (λfr H h=>c (k+1) fr H f h) h
def gI.T2{id:Nat}{ops:Array Oper}(E:List Nat)(q:Bool)(hm:P.follows .mixedOrders=true)(a:yc n ops=true)(b:wH E ops (λ_=>true)=true)
  (h:rW P T E ops q ops.toList (Q .normal) fr H):gI P T n (.region id ops true) Q fr H:=by
 refine gI.LN E q (λ_=>true) hm a b ?_;have:=JK (K:=Q .normal) ops.toList 0 fr H (by simp) h;rw[Rj];simpa using this
end
end Go.mS
namespace Go.mS
open Go
section
variable{P:Program} {T:fg} {n:Nat} {Q:Exit->Fr->eD->Prop} {fr:Fr} {H:eD}
def gI.tR{x y:Code}(h:∀K:Fr->eD->Prop,(∀fr H,gI P T n y Q fr H->K fr H)->gI P T n x (G5 K Q) fr H):gI P T n (.seq x y) Q fr H:=
 gI.seq (h _ λ_ _ h=>h)
def gI.yY{id:Nat}{c:Code}(h:∀Q':Exit->Fr->eD->Prop,(∀fr H,Q .normal fr H->Q' .normal fr H)->(∀fr H,Q .normal fr H->Q' (.exit id) fr H)->(∀a fr H,a≠id->Q (.exit a) fr H->Q' (.exit a) fr H)->(∀fr H,Q .ret fr H->Q' .ret fr H)->gI P T n c Q' fr H):gI P T n (.block id c) Q fr H:=by
 refine gI.block (h (FC id Q) (λ_ _ h=>h) (λ_ _ h=>?_) (λa _ _ b h=>?_) (λ_ _ h=>h))
 ·simp only[FC,if_true];exact h
 ·simp only[FC,ea b];exact h
end
@[simp] theorem SM(K:Fr->eD->Prop)(Q:Exit->Fr->eD->Prop):G5 K Q .normal=K:=rfl
end Go.mS
