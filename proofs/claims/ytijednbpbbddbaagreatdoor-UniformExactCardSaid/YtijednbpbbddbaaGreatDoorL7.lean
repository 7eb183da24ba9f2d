/- Part of the proof of UniformExact, UniformAccepted: layer. -/
import Derived.Test.YtijednbpbbddbaaGreatDoorL6
set_option linter.all false
namespace Go.ns
open Go
def zO{α:Type}(f:Nat->α){i j:Nat}(h:i≠j)(x y:α):ia (ia f i x) j y=ia (ia f j y) i x:=by
 funext k
 simp only[ia]
 by_cases b:k=j
 ·subst b;rw[cK rfl,cI (λe=>h e.symm),cK rfl]
 ·rw[cI b]
  by_cases a:k=i
  ·rw[cK a,cK a]
  ·rw[cI a,cI a,cI b]
def nr(fr:Fr)(d:Nat)(cs:List AV):Fr:=
 {fr with env:=ia fr.env d (.jo d (fr.gen d+1) 0),box:=ia fr.box d (some cs),gen:=ia fr.gen d (fr.gen d+1)}
def Br(P:Program)(T:ec)(fr:Fr)(o:Oper):Option (List AV):=
 match o.op with
 |.alloc t=>hE P t|.box _ x=>if e9 (ev T fr x) then some (ev T fr x).cells else none|_=>none
inductive qc where
 |grow (tag:Tag) (l m:List AV)|same (l:List AV)
def qc.fr(fr:Fr)(d:Nat):qc->Fr
 |.grow tag l m=>grown fr d tag l m|.same l=>fr.put (some d) (.slice .jU l)
def Rl(P:Program)(T:ec)(fr:Fr)(c:Call)(x:qc):Prop:=
 ∃s y t e sz tag a l m,c.args.toList=[s,y]/\c.argTypes.toList=[t,t]/\rp P t=some (e,sz)/\ev T fr s=.slice tag l/\ev T fr y=.slice a m/\mN sz l=true/\mN sz m=true/\l.length+m.length<=mw/\(sX fr tag l=true/\x=.grow tag l m\/sX fr tag l=false/\m=[]/\x=.same l)
section
variable{P:Program} {T:ec} {E:List Nat} {ops:List Oper} {opsA:Array Oper} {q:Qt} {soft soft1 soft2:Bool} {o o1 o2:Oper} {K:Fr->dd->Prop} {fr fr1 fr2 fr':Fr} {H H1 H2 H':dd}
def YL{c:Call}{dst:Option Nat}(h:qG P T c dst (λf h=>f=fr'/\h=H') fr H):∃d x,dst=some d/\Rl P T fr c x/\fr'=x.fr fr d/\H'=H:=by
 unfold qG at h
 split at h
 ·rename_i d s y t j a b
  split at h
  ·rename_i e sz tag l g m k n o;obtain⟨rfl,g2,g3,g4,g5⟩:=h
   split at g5
   ·rename_i i;exact⟨d,.grow tag l m,rfl,⟨s,y,j,e,sz,tag,g,l,m,a,b,k,n,o,g2,g3,g4,.inl ⟨i,rfl⟩⟩,g5.1.symm,g5.2.symm⟩
   ·rename_i i;exact⟨d,.same l,rfl,⟨s,y,j,e,sz,tag,g,l,m,a,b,k,n,o,g2,g3,g4,.inr ⟨by simpa using i,g5.1,rfl⟩⟩,g5.2.1.symm,g5.2.2.symm⟩
  ·exact h.elim
 ·exact h.elim
def abf{c:Call}{d:Nat}{x:qc}(g:Rl P T fr c x)(b:K (x.fr fr d) H):qG P T c (some d) K fr H:=by
 obtain⟨s,y,t,e,sz,tag,f,l,m,h,i,j,k,n,o,p,q,r⟩:=g;unfold qG;rw[h,i];simp only[j,k,n];refine⟨trivial,o,p,q,?_⟩;rcases r with⟨a,rfl⟩|⟨a,hm,rfl⟩
 ·rw[cK a];exact b
 ·rw[cI (by simp[a])];exact⟨hm,b⟩
def Rl.congr{c:Call}{x:qc}(f:Rl P T fr c x)(he:∀y∈c.args.toList,ev T fr y=ev T fr' y)(g:fr'.yB=fr.yB)(hg:fr'.fu=fr.fu):Rl P T fr' c x:=by
 obtain⟨s,y,t,e,sz,tag,a,l,m,b,h,i,j,k,n,o,p,q⟩:=f
 have d:sX fr' tag l=sX fr tag l:=by unfold sX;rw[g,hg]
 exact⟨s,y,t,e,sz,tag,a,l,m,b,h,i,by rw[<-he s (by rw[b];simp)];exact j,by rw[<-he y (by rw[b];simp)];exact k,n,o,p,by rw[d];exact q⟩
def Cq(a:fZ E ops o=.val\/∃r,fZ E ops o=.load r)(h:rT P T E ops q soft o fr H fr' H'):∃v,oZ P T E ops q soft fr H o=some v/\fr'=fr.put o.dst v/\H'=H:=by
 unfold rT at h;obtain⟨dst,op,type,pos,after,guard⟩:=o
 have key:∀{x:Option AV},(match x with|some v=>(λf h=>f=fr'/\h=H') (fr.put dst v) H|none=>False)->∃v,x=some v/\fr'=fr.put dst v/\H'=H:=by
  intro x d
  split at d
  ·exact⟨_,rfl,d.1.symm,d.2.symm⟩
  ·exact d.elim
 cases op with
 |alloc t=>simp only[fZ] at a;split at a<;>(try split at a)<;>simp at a
 |box t x=>simp only[fZ] at a;split at a<;>(try split at a)<;>simp at a
 |store t x y=>simp[fZ] at a
 |call c=>
  obtain⟨callee,args,OU⟩:=c;cases callee with
  |builtin b=>cases b<;>first|(simp[fZ] at a;done)|(simp only[iB] at h;exact key h)
  |value f=>simp[fZ] at a
  |invoke r m=>simp[fZ] at a
 |_=>simp only[iB] at h;exact key h
def FK{v:AV}(h:oZ P T E ops q soft fr H o=some v):rT P T E ops q soft o fr H (fr.put o.dst v) H:=by
 unfold rT;obtain⟨dst,op,type,pos,after,guard⟩:=o;cases op with
 |alloc t=>simp[oZ] at h
 |box t x=>simp[oZ] at h
 |store t x y=>simp[oZ] at h
 |call c=>
  obtain⟨callee,args,OU⟩:=c;cases callee with
  |builtin b=>cases b<;>first|(simp[oZ] at h;done)|(simp only[iB];rw[h];first|exact⟨rfl,rfl⟩|exact⟨rfl,trivial⟩)
  |value f=>simp[oZ] at h
  |invoke r m=>simp[oZ] at h
 |_=>simp only[iB];rw[h];first|exact⟨rfl,rfl⟩|exact⟨rfl,trivial⟩
def zR{d:Option Nat}(g:fZ E ops o=.alloc d)(h:rT P T E ops q soft o fr H fr' H'):∃a cs,d=some a/\o.dst=some a/\E.contains a=false/\Br P T fr o=some cs/\fr'=nr fr a cs/\H'=H:=by
 unfold rT at h;obtain⟨dst,op,type,pos,after,guard⟩:=o
 have key:∀{cs:List AV} {a:Nat},dst=some a->E.contains a=false->nq E dst cs (λf h=>f=fr'/\h=H') fr H->fr'=nr fr a cs/\H'=H:=by
  intro cs a s l i;subst s;unfold nq at i;simp only at i;rw[cI (by simp only[l];simp)] at i;exact⟨i.1.symm,i.2.symm⟩
 have e:(∃t,op=.alloc t)\/(∃t x,op=.box t x)->∃a,d=some a/\dst=some a/\E.contains a=false:=by
  intro n
  have:(match dst with|some d=>if E.contains d then XJ.FX else .alloc (some d)|none=>.FX)=.alloc d:=by
   rcases n with⟨t,rfl⟩|⟨t,x,rfl⟩<;>exact g
  split at this
  ·rename_i a
   split at this
   ·cases this
   ·rename_i l;cases this;exact⟨a,rfl,rfl,by simpa using l⟩
  ·cases this
 cases op with
 |alloc t=>
  obtain⟨a,p,j,k⟩:=e (.inl ⟨t,rfl⟩);simp only[iB] at h
  split at h
  ·rename_i z u;obtain⟨g1,g2⟩:=key j k h.2;exact⟨a,_,p,j,k,by simp only[Br,u],g1,g2⟩
  ·exact h.elim
 |box t x=>
  obtain⟨a,p,j,k⟩:=e (.inr ⟨t,x,rfl⟩);simp only[iB] at h;obtain⟨g1,g2⟩:=key j k h.2.2;exact⟨a,_,p,j,k,by simp only[Br];rw[cK h.1],g1,g2⟩
 |call c=>
  obtain⟨callee,args,OU⟩:=c;cases callee with
  |builtin b=>cases b<;>simp[fZ] at g
  |value f=>simp[fZ] at g
  |invoke r m=>simp[fZ] at g
 |_=>simp[fZ] at g
def Bk{d:Nat}{cs:List AV}(b:o.dst=some d)(a:E.contains d=false)(h:Br P T fr o=some cs):rT P T E ops q soft o fr H (nr fr d cs) H:=by
 unfold rT;obtain⟨dst,op,type,pos,after,guard⟩:=o;simp only at b;subst b
 have key:∀cs,nq E (some d) cs (λf h=>f=nr fr d cs/\h=H) fr H:=by
  intro cs;unfold nq;simp only;rw[cI (by simp only[a];simp)]
  first|exact⟨rfl,rfl⟩|exact⟨rfl,trivial⟩
 cases op with
 |alloc t=>
  simp only[Br] at h;simp only[iB,h];exact⟨λ_=>by simpa using a,key _⟩
 |box t x=>
  simp only[Br] at h
  split at h
  ·rename_i c;cases h;simp only[iB];exact⟨c,λ_=>by simpa using a,key _⟩
  ·cases h
 |_=>simp[Br] at h
def zA(h:∀x∈o.op.operands,ev T fr x=ev T fr' x):Br P T fr o=Br P T fr' o:=by
 obtain⟨dst,op,type,pos,after,guard⟩:=o;cases op with
 |box t x=>simp only[Br];rw[h x (by simp[Op.operands])]|_=>rfl
def Iu(s:fZ E ops o=.FX)(h:rT P T E ops q soft o fr H fr' H'):∃r,fr'=fr.put o.dst r/\(soft=true->QK q H H')/\∀f:Fr,(∀x∈o.op.operands,ev T fr x=ev T f x)->rT P T E ops q soft o f H (f.put o.dst r) H':=by
 unfold rT at h;obtain⟨dst,op,type,pos,after,guard⟩:=o
 have a:∀{cs:List AV},((∃t,op=.alloc t)\/(∃t x,op=.box t x))->nq E dst cs (λf h=>f=fr'/\h=H') fr H->∃d,dst=some d/\E.contains d=true/\fr'=fr.put dst (.eS H.length 0)/\H'=H++[cs.map AV.kM]/\∀f:Fr,nq E dst cs (λA h=>A=f.put dst (.eS H.length 0)/\h=H') f H:=by
  intro cs u i
  have hm:(match dst with|some d=>if E.contains d then XJ.FX else .alloc (some d)|none=>.FX)=.FX:=by
   rcases u with⟨t,rfl⟩|⟨t,x,rfl⟩<;>exact s
  unfold nq at i
  split at i
  ·rename_i d
   split at i
   ·rename_i p;refine⟨d,rfl,p,i.1.symm,i.2.symm,λf=>?_⟩;unfold nq;simp only;rw[cK p];exact⟨rfl,i.2⟩
   ·rename_i p;simp only[cI p] at hm;cases hm
  ·exact i.elim
 cases op with
 |alloc t=>
  simp only[iB] at h
  split at h
  ·rename_i z B;obtain⟨d,k,j,l,v,w⟩:=a (.inl ⟨t,rfl⟩) h.2;refine⟨_,l,?_,λf n=>?_⟩
   ·intro hs;have:=h.1 hs;rw[k] at this;exact absurd this (by simp only[abL,j];simp)
   ·unfold rT;simp only[iB,B];exact⟨h.1,w f⟩
  ·exact h.elim
 |box t x=>
  simp only[iB] at h;obtain⟨d,k,j,l,v,w⟩:=a (.inr ⟨t,x,rfl⟩) h.2.2;refine⟨_,l,?_,λf n=>?_⟩
  ·intro hs;have:=h.2.1 hs;rw[k] at this;exact absurd this (by simp only[abL,j];simp)
  ·unfold rT;simp only[iB];have e:=n x (by simp[Op.operands]);refine⟨by rw[<-e];exact h.1,h.2.1,?_⟩;rw[<-e];exact w f
 |call c=>
  obtain⟨callee,args,OU⟩:=c;cases callee with
  |builtin b=>cases b<;>simp[fZ] at s
  |value g=>
   simp only[iB] at h;obtain⟨r,y,k,j,l,v⟩:=h;subst v;refine⟨r,l.symm,j,λf n=>?_⟩;unfold rT;simp only[iB];refine⟨r,y,?_,j,rfl,rfl⟩
   have C:(args.toList.map λx=>(ev T fr x).norm)=args.toList.map λx=>(ev T f x).norm:=
    tg λx D=>by rw[n x (by simp[Op.operands,Call.operands,Bn.1 D])]
   rw[<-C,<-n g (by simp[Op.operands,Call.operands])];exact k
  |invoke r m=>simp only[iB] at h
 |_=>simp[fZ] at s
def Ia(a:fZ E ops o=.app)(h:rT P T E ops q soft o fr H fr' H'):∃d x,o.dst=some d/\fr'=qc.fr fr d x/\H'=H/\∀(f:Fr) (h:dd),(∀x∈o.op.operands,ev T fr x=ev T f x)->f.yB=fr.yB->f.fu=fr.fu->rT P T E ops q soft o f h (qc.fr f d x) h:=by
 unfold rT at h;obtain⟨dst,op,type,pos,after,guard⟩:=o;cases op with
 |call c=>
  obtain⟨callee,args,OU⟩:=c;cases callee with
  |builtin b=>
   cases b with
   |append=>
    simp only[iB] at h;obtain⟨d,x,e,i,j,k⟩:=YL h;subst e;refine⟨d,x,rfl,j,k,λf h he l hg=>?_⟩;unfold rT;simp only[iB];refine abf (i.congr (λy hy=>he y ?_) l hg) ⟨rfl,rfl⟩;simp only at hy;simp[Op.operands,Call.operands,Bn.1 hy]
   |_=>simp[fZ] at a
  |value g=>simp[fZ] at a
  |invoke r m=>simp[fZ] at a
 |alloc t=>simp only[fZ] at a;split at a<;>(try split at a)<;>simp at a
 |box t x=>simp only[fZ] at a;split at a<;>(try split at a)<;>simp at a
 |_=>simp[fZ] at a
def Xv{r:Option Nat}(a:fZ E ops o=.Pm r)(h:rT P T E ops q soft o fr H fr' H'):fr'.env=fr.env/\fr'.gen=fr.gen/\fr'.yB=fr.yB/\fr'.fu=fr.fu/\o.dst=none/\(∀b,r≠some b->fr'.box b=fr.box b)/\(soft=true->H'=H):=by
 unfold rT at h;obtain⟨dst,op,type,pos,after,guard⟩:=o;cases op with
 |store t x y=>
  simp only[fZ,XJ.Pm.injEq] at a;simp only[iB] at h;obtain⟨j,e,l,d⟩:=h;unfold o6 at d
  split at d
  ·exact d.elim
  ·split at d
   ·rename_i b g off f
    split at d
    ·obtain⟨_,_,_,_,g1,g2⟩:=d;subst g1;subst g2;refine⟨rfl,rfl,rfl,rfl,j,λk i=>?_,λ_=>rfl⟩
     have:r=some b:=by
      rw[f] at e;simp only[uB,X0] at e;rw[<-a];exact e
     subst this;show ia fr.box b _ k=fr.box k;rw[EY];rintro rfl;exact i rfl
    ·exact d.elim
   ·rename_i o' off f
    split at d
    ·obtain⟨_,_,_,_,g1,g2⟩:=d;subst g1;subst g2;refine⟨rfl,rfl,rfl,rfl,j,λ_ _=>rfl,λhs=>?_⟩;have:=l hs;rw[f] at this;simp[isL] at this
    ·exact d.elim
   ·exact d.elim
 |call c=>
  obtain⟨callee,args,OU⟩:=c;cases callee with
  |builtin b=>cases b<;>simp[fZ] at a
  |value g=>simp[fZ] at a
  |invoke r m=>simp[fZ] at a
 |alloc t=>simp only[fZ] at a;split at a<;>(try split at a)<;>simp at a
 |box t x=>simp only[fZ] at a;split at a<;>(try split at a)<;>simp at a
 |_=>simp[fZ] at a
def Iv(fr:Fr)(d:Nat):fr.put (some d) (fr.env d)=fr:=by
 simp only[Fr.put]
 have:ia fr.env d (fr.env d)=fr.env:=by
  funext j
  simp only[ia]
  split
  ·rename_i h;rw[h]
  ·rfl
 rw[this]
def LI(fr:Fr)(d:Nat)(x y:AV):(fr.put (some d) x).put (some d) y=fr.put (some d) y:=by
 simp only[Fr.put,P6]
structure Left (c:XJ) (dst:Option Nat) (soft:Bool) (q:Qt) (fr:Fr) (H:dd) (fr':Fr) (H':dd):Prop where
 env:∀t,dst≠some t->fr'.env t=fr.env t
 box:∀b,c≠ .alloc (some b)->c≠ .Pm (some b)->fr'.box b=fr.box b/\fr'.gen b=fr.gen b
 heap:c≠ .FX->(∀r,c=.Pm r->soft=true)->H'=H
 quiet:soft=true->QK q H H'
def qc.left(fr:Fr)(d:Nat)(x:qc):(∀t,t≠d->(qc.fr fr d x).env t=fr.env t)/\(qc.fr fr d x).box=fr.box/\(qc.fr fr d x).gen=fr.gen:=by
 cases x with
 |grow tag l m=>exact⟨λt a=>by show ia _ _ _ t=_;rw[EY _ _ _ _ a],rfl,rfl⟩|same l=>exact⟨λt a=>by show ia _ _ _ t=_;rw[EY _ _ _ _ a],rfl,rfl⟩
def uG(h:rT P T E ops q soft o fr H fr' H'):Left (fZ E ops o) o.dst soft q fr H fr' H':=by
 have a:∀(v:AV) (t:Nat),o.dst≠some t->(fr.put o.dst v).env t=fr.env t:=by
  intro v t i;rw[Fr.yl,cI i]
 cases g:fZ E ops o with
 |val=>
  obtain⟨v,_,rfl,rfl⟩:=Cq (.inl g) h;obtain⟨c,f,_,_⟩:=Fr.B1 fr o.dst v;exact⟨a v,λb _ _=>⟨by rw[c],by rw[f]⟩,λ_ _=>rfl,λ_=>.refl⟩
 |load r=>
  obtain⟨v,_,rfl,rfl⟩:=Cq (.inr ⟨r,g⟩) h;obtain⟨c,f,_,_⟩:=Fr.B1 fr o.dst v;exact⟨a v,λb _ _=>⟨by rw[c],by rw[f]⟩,λ_ _=>rfl,λ_=>.refl⟩
 |alloc d=>
  obtain⟨n,cs,rfl,k,_,_,rfl,rfl⟩:=zR g h;refine⟨λt i=>?_,λb l _=>?_,λ_ _=>rfl,λ_=>.refl⟩
  ·show ia _ _ _ t=_;rw[EY];rintro rfl;exact i k
  ·have j:b≠n:=by rintro rfl;exact l rfl
   exact⟨EY _ _ _ _ j,EY _ _ _ _ j⟩
 |FX=>
  obtain⟨r,rfl,p,_⟩:=Iu g h;obtain⟨c,f,_,_⟩:=Fr.B1 fr o.dst r;exact⟨a r,λb _ _=>⟨by rw[c],by rw[f]⟩,λhn _=>absurd rfl hn,p⟩
 |app=>
  obtain⟨d,x,k,rfl,rfl,_⟩:=Ia g h;obtain⟨g1,g2,g3⟩:=qc.left fr d x;exact⟨λt i=>g1 t (by rintro rfl;exact i k),λb _ _=>⟨by rw[g2],by rw[g3]⟩,λ_ _=>rfl,λ_=>.refl⟩
 |Pm r=>
  obtain⟨c,f,u,w,y,s,m⟩:=Xv g h;exact⟨λt _=>by rw[c],λb _ l=>⟨s b (λe=>l (by rw[e])),by rw[f]⟩,λ_ hs=>m (hs r rfl),λhs=>by rw[m hs];exact .refl⟩
def Sd{d:Nat}(v:AV)(c:d∉o.looksAt opsA)(a:o.dst≠some d)(h:rT P T E ops q soft o fr H fr' H'):rT P T E ops q soft o (fr.put (some d) v) H (fr'.put (some d) v) H':=by
 have e:iB P T E ops q soft o (λf h=>f=fr'/\h=H') ((fr.put (some d) v).put (some d) (fr.env d)) H:=by
  rw[LI,Iv];exact h
 obtain⟨f,k,b,g,i⟩:=xO (O7 (opsA:=opsA) c a e);subst i;have he:=(uG b).env d a
 have j:f=fr'.put (some d) v:=by
  rw[<-g,LI]
  have:(fr.put (some d) v).env d=v:=by rw[Fr.yl,cK rfl]
  rw[this] at he;rw[<-he,Iv]
 rw[<-j];exact b
def NQ{d:Nat}{v:AV}(b:d∉o.looksAt opsA)(a:o.dst≠some d)(h:rT P T E ops q soft o (fr.put (some d) v) H fr' H'):∃f,rT P T E ops q soft o fr H f H'/\f.put (some d) v=fr':=by
 obtain⟨f,i,c,e,g⟩:=xO (O7 (opsA:=opsA) b a h);subst g;exact⟨f,c,e⟩
def L_{x:Operand}{t:Nat}(a:x∈o.op.operands)(b:x=.tmp t):t∈o.looksAt opsA:=by
 subst b;exact Zc _ (ac'.2 ⟨.tmp t,by simpa using a,rfl⟩)
def HW{c:XJ}{dst:Option Nat}(a:Left c dst soft q fr H fr' H')(b:∀d,dst=some d->d∉o.looksAt opsA):∀x∈o.op.operands,ev T fr x=ev T fr' x:=by
 intro x e;refine I0 λt f=>?_;rw[a.env];intro g;exact b t g (L_ e f)
def Jk{c:XJ}{dst:Option Nat}(m:Left c dst soft2 q fr H fr' H')(y:∀d,dst=some d->d∉o.looksAt opsA)(e:Bj (fZ E ops o) c=true)
  (hs:∀r,fZ E ops o=.load r->(c=.FX->soft=true/\soft2=true)/\(∀z,c=.Pm z->soft2=true)) {v:AV} (hv:oZ P T E ops q soft fr H o=some v\/oZ P T E ops q soft fr' H' o=some v):oZ P T E ops q soft fr H o=oZ P T E ops q soft fr' H' o:=by
 have n:=HW (T:=T) (opsA:=opsA) m y
 by_cases j:∃t x,o.op=.load t x
 ·obtain⟨t,x,a⟩:=j;have A:=n x (by rw[a];simp[Op.operands])
  have k:fZ E ops o=.load (Kr ops x):=by unfold fZ;rw[a]
  obtain⟨p,s⟩:=hs _ k;rw[k] at e
  have l:uB ops x (ev T fr x)=true/\(!soft||q.ok (ev T fr x))=true:=by
   have:∀(f:Fr) (h:dd),oZ P T E ops q soft f h o=some v->ev T f x=ev T fr x->uB ops x (ev T fr x)=true/\(!soft||q.ok (ev T fr x))=true:=by
    intro f h hv he;unfold oZ at hv;rw[a] at hv;simp only at hv
    split at hv
    ·rename_i w;rw[he] at w;simpa using w
    ·cases hv
   rcases hv with hv|hv
   ·exact this fr H hv rfl
   ·exact this fr' H' hv A.symm
  refine CS n (λF G he=>?_) (λ_ _ _ _ he=>by rw[a] at he;cases he);rw[a] at he;injection he with B C;subst B;subst C;refine⟨λb g off D=>?_,λo' off' hg=>?_⟩
  ·have u:Kr ops x=some b:=by
    have:=l.1;rw[D] at this;simpa[uB] using this
   rw[u] at e;have:=m.box b (by rintro rfl;simp[Bj] at e) (by rintro rfl;simp[Bj] at e);exact⟨this.1.symm,this.2.symm⟩
  ·by_cases he:c=.FX
   ·obtain⟨g1,g2⟩:=p he
    have hq:q.all=true\/q.st o'=true:=by
     have:=l.2;rw[g1,hg] at this;simpa[Qt.ok] using this
    rcases hq with hq|hq
    ·rw[(m.quiet g2).1 hq]
    ·exact((m.quiet g2).2 o' hq).symm
   ·rw[m.heap he s]
 ·refine CS n (λt x he=>absurd ⟨t,x,he⟩ j) λt x i ok a=>?_
  have k:fZ E ops o=.load none:=by unfold fZ;rw[a]
  obtain⟨p,s⟩:=hs _ k
  have hq:(!soft||q.all)=true:=by
   have:∀(f:Fr) (h:dd),oZ P T E ops q soft f h o=some v->(!soft||q.all)=true:=by
    intro f h hv;unfold oZ at hv;rw[a] at hv;simp only at hv
    split at hv
    ·rename_i w;exact w
    ·cases hv
   rcases hv with hv|hv
   ·exact this _ _ hv
   ·exact this _ _ hv
  by_cases he:c=.FX
  ·obtain⟨g1,g2⟩:=p he;rw[g1] at hq;exact((m.quiet g2).1 (by simpa using hq)).symm
  ·exact(m.heap he s).symm
def PN(fr:Fr){d b:Nat}(h:d≠b)(cs a:List AV):nr (nr fr d cs) b a=nr (nr fr b a) d cs:=by
 simp only[nr,EY _ _ _ _ h,EY _ _ _ _ h.symm];rw[zO fr.env h,zO fr.box h,zO fr.gen h]
def Ef(fr:Fr){d:Nat}{d2:Option Nat}(h:d2≠some d)(cs:List AV)(r:AV):(nr fr d cs).put d2 r=nr (fr.put d2 r) d cs:=by
 cases d2 with
 |none=>rfl|some b=>
  have a:d≠b:=λe=>h (by rw[e]);simp only[nr,Fr.put];rw[zO fr.env a]
def Uq(fr:Fr){d:Nat}{d2:Option Nat}(h:d2≠some d)(x:qc)(r:AV):qc.fr (fr.put d2 r) d x=(qc.fr fr d x).put d2 r:=by
 cases d2 with
 |none=>rfl|some b=>
  have a:b≠d:=λe=>h (by rw[e]);cases x with
  |grow tag l m=>
   simp only[qc.fr,grown,Fr.put];rw[zO fr.env a]
  |same l=>exact qp fr a r (.slice .jU l)
def KH(fr:Fr){d a:Nat}(h:d≠a)(cs:List AV)(x:qc):qc.fr (nr fr d cs) a x=nr (qc.fr fr a x) d cs:=by
 cases x with
 |grow tag l m=>
  simp only[qc.fr,grown,nr];rw[zO fr.env h]
 |same l=>
  simp only[qc.fr,Fr.put,nr];rw[zO fr.env h]
def UE(R:o1.apart opsA o2=true)(b:Bj (fZ E ops o1) (fZ E ops o2)=true)
  (S:∀r,fZ E ops o1=.load r->(fZ E ops o2=.FX->soft1=true/\soft2=true)/\(∀L,fZ E ops o2=.Pm L->soft2=true))
  (U:∀r,fZ E ops o2=.load r->(fZ E ops o1=.FX->soft2=true/\soft1=true)/\(∀L,fZ E ops o1=.Pm L->soft1=true))
  (G:rT P T E ops q soft1 o1 fr H fr1 H1) (D:rT P T E ops q soft2 o2 fr1 H1 fr2 H2):∃f h,rT P T E ops q soft2 o2 fr H f h/\rT P T E ops q soft1 o1 f h fr2 H2:=by
 obtain⟨a1,a2,a3⟩:=Oper.apart_spec R
 by_cases I:fZ E ops o1=.val\/∃r,fZ E ops o1=.load r
 ·obtain⟨v,M,c,J⟩:=Cq I G;subst J
  have V:∃f,rT P T E ops q soft2 o2 fr H1 f H2/\f.put o1.dst v=fr2:=by
   cases u:o1.dst with
   |none=>rw[u] at c;subst c;exact⟨fr2,D,rfl⟩
   |some d=>rw[u] at c;subst c;exact NQ (opsA:=opsA) (a1 d u) (a2 d u) D
  obtain⟨f,N,W⟩:=V;have w:Bj (fZ E ops o1) (fZ E ops o2)=true:=b;have:=Jk (o:=o1) (soft:=soft1) (uG N) a3 w S (.inl M);refine⟨f,H2,N,?_⟩;rw[<-W];exact FK (by rw[<-this];exact M)
 ·--aa second one only K
  by_cases n:fZ E ops o2=.val\/∃r,fZ E ops o2=.load r
  ·obtain⟨v,M,c,J⟩:=Cq n D;subst J
   have w:Bj (fZ E ops o2) (fZ E ops o1)=true:=by
    revert b
    cases fZ E ops o1<;>cases fZ E ops o2<;>simp[Bj]<;>(intro h e;exact h e.symm)
   have:=Jk (o:=o2) (soft:=soft2) (uG G) a1 w U (.inr M);refine⟨fr.put o2.dst v,H,FK (by rw[this];exact M),?_⟩;rw[c];cases u:o2.dst with
   |none=>exact G|some d=>exact Sd (opsA:=opsA) v (a3 d u) (λe=>a2 d e u) G
  ·--O
   have X:=uG G;have j:∀x∈o2.op.operands,ev T fr x=ev T fr1 x:=HW (T:=T) (opsA:=opsA) X a1;have s:∀{f:Fr} {h:dd} (Q:rT P T E ops q soft2 o2 fr H f h),∀x∈o1.op.operands,ev T fr x=ev T f x:=λQ=>HW (T:=T) (opsA:=opsA) (uG Q) a3;cases k:fZ E ops o1 with
   |val=>exact absurd (.inl k) I|load r=>exact absurd (.inr ⟨r,k⟩) I|Pm r=>
    rw[k] at b;cases a:fZ E ops o2 with
    |val=>exact absurd (.inl a) n|load L=>exact absurd (.inr ⟨L,a⟩) n|_=>rw[a] at b;simp[Bj] at b
   |alloc d1=>
    obtain⟨d,cs,rfl,u,Y,Z,c,J⟩:=zR k G;subst J
    have back:∀{f:Fr} {h:dd} (Q:rT P T E ops q soft2 o2 fr H1 f h),rT P T E ops q soft1 o1 f h (nr f d cs) h:=λQ=>
     Bk u Y (by rw[<-zA (s Q)];exact Z)
    cases a:fZ E ops o2 with
    |val=>exact absurd (.inl a) n|load r=>exact absurd (.inr ⟨r,a⟩) n|Pm r=>rw[k,a] at b;simp[Bj] at b
    |alloc d2=>
     obtain⟨z,A,rfl,i,B,t,g,p⟩:=zR a D;subst p;have C:d≠z:=λe=>a2 d u (by rw[i,e]);have hn:rT P T E ops q soft2 o2 fr H2 (nr fr z A) H2:=Bk i B (by rw[zA j];exact t);refine⟨_,_,hn,?_⟩;rw[g,c,PN fr C];exact back hn
    |FX=>
     obtain⟨r,g,_,l⟩:=Iu a D;have hn:=l fr λx F=>(j x F).symm;refine⟨_,_,hn,?_⟩;rw[g,c,Ef fr (λe=>a2 d u e)];exact back hn
    |app=>
     obtain⟨z,x,i,g,p,l⟩:=Ia a D;subst p;have C:d≠z:=λe=>a2 d u (by rw[i,e]);have hn:=l fr H2 (λx F=>(j x F).symm) (by rw[c];rfl) (by rw[c];rfl);refine⟨_,_,hn,?_⟩;rw[g,c,KH fr C];exact back hn
   |FX=>
    obtain⟨r,c,_,m⟩:=Iu k G;cases a:fZ E ops o2 with
    |val=>exact absurd (.inl a) n|load r=>exact absurd (.inr ⟨r,a⟩) n|Pm r=>rw[k,a] at b;simp[Bj] at b
    |FX=>rw[k,a] at b;simp[Bj] at b
    |alloc d2=>
     obtain⟨z,A,rfl,i,B,t,g,p⟩:=zR a D;subst p;have hn:rT P T E ops q soft2 o2 fr H (nr fr z A) H:=Bk i B (by rw[zA j];exact t);refine⟨_,_,hn,?_⟩;rw[g,c,<-Ef fr (λe=>a2 z e i)];exact m _ λx F=>s hn x F
    |app=>
     obtain⟨z,x,i,g,p,l⟩:=Ia a D;subst p;obtain⟨e1,e2,e3,e4⟩:=Fr.B1 fr o1.dst r;have hn:=l fr H (λx F=>(j x F).symm) (by rw[c,e3]) (by rw[c,e4]);refine⟨_,_,hn,?_⟩;rw[g,c,Uq fr (λe=>a2 z e i)];exact m _ λx F=>s hn x F
   |app=>
    obtain⟨d,x,u,c,J,m⟩:=Ia k G;subst J;cases a:fZ E ops o2 with
    |val=>exact absurd (.inl a) n|load r=>exact absurd (.inr ⟨r,a⟩) n|Pm r=>rw[k,a] at b;simp[Bj] at b
    |app=>rw[k,a] at b;simp[Bj] at b
    |alloc d2=>
     obtain⟨z,A,rfl,i,B,t,g,p⟩:=zR a D;subst p;have C:z≠d:=λe=>a2 d u (by rw[i,e]);have hn:rT P T E ops q soft2 o2 fr H2 (nr fr z A) H2:=Bk i B (by rw[zA j];exact t);refine⟨_,_,hn,?_⟩;rw[g,c,<-KH fr C];exact m _ _ (λy hy=>s hn y hy) rfl rfl
    |FX=>
     obtain⟨r,g,_,l⟩:=Iu a D;have hn:=l fr λy hy=>(j y hy).symm;obtain⟨e1,e2,e3,e4⟩:=Fr.B1 fr o2.dst r;refine⟨_,_,hn,?_⟩;rw[g,c,<-Uq fr (λe=>a2 d u e)];exact m _ _ (λy hy=>s hn y hy) e3 e4
end
end Go.ns
namespace Go.ns
open Go
def iW(opsA:Array Oper)(o:Oper)(fr:Fr):Option Bool:=
 match o.guard with
 |none=>some true|some (j,want)=>
  match(opsA[j]?).bind (·.dst)with
  |some d=>match fr.env d with
   |.sc (.bool b)=>some (b==want)|.tuple _=>some false|_=>none
  |none=>none
def lS(E:List Nat)(o:Oper):Bool:=
 match o.op with
 |.call c=>(match c.callee with
  |.builtin .append=>o.dst.any E.contains|.value _=>o.dst.any E.contains|_=>false)
 |_=>false
def XU(c:Call):Bool:=
 match c.callee with
 |.value _=>true|_=>false
def Xh(P:Program)(T:ec)(q:Qt)(soft:Bool)(a:AV)(as:List AV)(dst:Option Nat)(K:Fr->dd->Prop)(fr:Fr)(H:dd):Prop:=
 ∃Post:AV->dd->Prop,qs P T a as H Post/\(∃r h,Post r h)/\∀r h,Post r h->(soft=true->QK q H h)/\K (fr.put dst r) h
def pM(P:Program)(T:ec)(q:Qt)(soft:Bool)(c:Call)(dst:Option Nat)(K:Fr->dd->Prop)(fr:Fr)(H:dd):Prop:=
 match c.callee with
 |.value f=>Xh P T q soft (ev T fr f) (c.args.toList.map λx=>(ev T fr x).norm) dst K fr H|_=>sW P T c dst K fr H
def UM(E:List Nat)(q:Qt)(x:Operand)(v:AV):Prop:=E.contains 999999=true->∃a off t,v=.eS a off/\x=.tmp t/\q.cl a=t
@[simp] theorem afm{E:List Nat}{q:Qt}{x:Operand}{v:AV}(h:E.contains 999999=false):UM E q x v=True:=eq_true λa=>by rw[h] at a;cases a
def Ie(T:ec)(E:List Nat)(q:Qt)(fr:Fr)(o:Oper):Prop:=
 match o.op with
 |.store _ x _=>UM E q x (ev T fr x)|_=>True
def sZ(o:Oper):Option Nat:=
 match o.op with
 |.store _ (.tmp t) _=>some t|_=>none
def yr(o:Oper):Bool:=
 match o.op with
 |.store _ _ _=>true|_=>false
def sK(P:Program)(T:ec)(E:List Nat)(ops:List Oper)(q:Qt)(soft:Bool)(o:Oper)(K:Fr->dd->Prop)(fr:Fr)(H:dd):Prop:=
 if lS E o then(match o.op with
  |.call c=>pM P T q soft c o.dst K fr H|_=>False)else if yr o then(Ie T E q fr o/\iB P T E ops q soft o K fr H)else iB P T E ops q soft o K fr H
def iX(P:Program)(T:ec)(E:List Nat)(opsA:Array Oper)(q:Qt)(soft:Bool)(o:Oper)(K:Fr->dd->Prop)(fr:Fr)(H:dd):Prop:=
 match iW opsA o fr with
 |some true=>sK P T E opsA.toList q soft o K fr H|some false=>K (fr.put o.dst (.tuple [])) H|none=>False
def Nq(P:Program)(T:ec)(E:List Nat)(opsA:Array Oper)(q:Qt)(sf:Nat->Bool):List Nat->(Fr->dd->Prop)->Fr->dd->Prop
 |[],K,fr,H=>K fr H|i::rest,K,fr,H=>match opsA[i]?with
  |some o=>iX P T E opsA q (sf i) o (λfr H=>Nq P T E opsA q sf rest K fr H) fr H|none=>False
section
variable{P:Program} {T:ec} {E:List Nat} {opsA:Array Oper} {q:Qt} {soft soft1 soft2:Bool} {o o1 o2:Oper} {K K':Fr->dd->Prop} {fr fr':Fr} {H H':dd}
def FR(h:lS E o=true):∃c d,o.op=.call c/\(c.callee=.builtin .append\/∃f,c.callee=.value f)/\o.dst=some d:=by
 unfold lS at h
 split at h
 ·rename_i c e
  have a:o.dst.any E.contains=true->∃d,o.dst=some d:=by
   intro h;cases a:o.dst with
   |none=>rw[a] at h;simp at h
   |some d=>exact⟨d,rfl⟩
  split at h
  ·rename_i b;obtain⟨d,a⟩:=a h;exact⟨c,d,e,.inl b,a⟩
  ·rename_i f b;obtain⟨d,a⟩:=a h;exact⟨c,d,e,.inr ⟨f,b⟩,a⟩
  ·cases h
 ·cases h
def uF{ops:List Oper}{c:Call}(h:lS E o=true)(a:o.op=.call c):sK P T E ops q soft o K fr H=pM P T q soft c o.dst K fr H:=by
 unfold sK;rw[cK h,a]
def sP{ops:List Oper}(h:lS E o=false):sK P T E ops q soft o K fr H=(Ie T E q fr o/\iB P T E ops q soft o K fr H):=by
 unfold sK;rw[cI (by simp[h])];cases hs:yr o with
 |true=>rw[cK rfl]|false=>
  rw[cI aaB]
  have a:Ie T E q fr o:=by
   unfold Ie
   split
   ·rename_i b;unfold yr at hs;rw[b] at hs;cases hs
   ·trivial
  exact propext ⟨λh=>⟨a,h⟩,λh=>h.2⟩
def Xd{ops:List Oper}(h:fZ E ops o=.val\/∃r,fZ E ops o=.load r):Ie T E q fr o:=by
 unfold Ie
 split
 ·rename_i t x y a;unfold fZ at h;rw[a] at h;rcases h with h|⟨r,h⟩<;>cases h
 ·trivial
def Dt{f:Fr}(he:∀x∈o.op.operands,ev T fr x=ev T f x)(h:Ie T E q fr o):Ie T E q f o:=by
 unfold Ie UM at*
 split
 ·rename_i t x y a;rw[a] at h;intro b;obtain⟨c,off,s,d,e,g⟩:=h b;exact⟨c,off,s,by rw[<-he x (by rw[a];simp[Op.operands])];exact d,e,g⟩
 ·trivial
def FV{ops a:List Oper}(h:lS E o=false)(b:fZ E a o=.val\/∃r,fZ E a o=.load r):sK P T E ops q soft o K fr H=iB P T E ops q soft o K fr H:=by
 rw[sP h];exact propext ⟨λh=>h.2,λh=>⟨Xd b,h⟩⟩
def Qy{c:Call}{dst:Option Nat}(b:∀r h,K (fr.put dst r) h->K' (fr.put dst r) h)(h:sW P T c dst K fr H):sW P T c dst K' fr H:=by
 unfold sW at*
 split at h
 ·split at h
  ·obtain⟨d,e,f,g,h⟩:=h;refine⟨d,e,f,g,?_⟩
   split at h
   ·exact⟨h.1,h.2.1,λcap a=>b _ _ (h.2.2 cap a)⟩
   ·exact⟨h.1,λcap a=>b _ _ (h.2 cap a)⟩
   ·refine⟨h.1,h.2.1,?_⟩;have h:=h.2.2
    split at h
    ·exact⟨h.1,h.2.1,λa=>b _ _ (h.2.2.1 a),λcap d e=>b _ _ (h.2.2.2 cap d e)⟩
    ·exact h
   ·exact h
  ·exact h
 ·exact h
def Tt{c:Call}{dst:Option Nat}(h:sW P T c dst K fr H):∃r b,K (fr.put dst r) b:=by
 unfold sW at h
 split at h
 ·split at h
  ·rename_i e sz a m d f;obtain⟨_,_,_,_,h⟩:=h
   split at h
   ·exact⟨_,_,h.2.2 _ (ig _)⟩
   ·exact⟨_,_,h.2 _ (ig _)⟩
   ·rename_i o off len cap hs;obtain⟨_,_,h⟩:=h
    split at h
    ·obtain⟨_,_,g,i⟩:=h
     by_cases j:len+m.length<=cap
     ·exact⟨_,_,g j⟩
     ·exact⟨_,_,i _ VW (ig _)⟩
    ·exact h.elim
   ·exact h.elim
  ·exact h.elim
 ·exact h.elim
def Rg{c:Call}{dst:Option Nat}{d:Nat}{v:AV}(g:∀x∈c.args.toList,ev T (fr.put (some d) v) x=ev T fr x)(j:dst≠some d)(h:sW P T c dst K (fr.put (some d) v) H):sW P T c dst (λf h=>K (f.put (some d) v) h) fr H:=by
 unfold sW at*
 split at h
 ·rename_i k s x t r b o;have l:k≠d:=λe=>j (by rw[e]);have a:∀y:AV,(fr.put (some k) y).put (some d) v=(fr.put (some d) v).put (some k) y:=λy=>qp fr l y v;rw[g s (by rw[b];simp),g x (by rw[b];simp)] at h
  split at h
  ·obtain⟨m,n,p,q,h⟩:=h;refine⟨m,n,p,q,?_⟩
   split at h
   ·refine⟨h.1,h.2.1,λcap i=>?_⟩;simp only[a];exact h.2.2 cap i
   ·refine⟨h.1,λcap i=>?_⟩;simp only[a];exact h.2 cap i
   ·refine⟨h.1,h.2.1,?_⟩;have h:=h.2.2
    split at h
    ·refine⟨h.1,h.2.1,λi=>?_,λcap m n=>?_⟩
     ·simp only[a];exact h.2.2.1 i
     ·simp only[a];exact h.2.2.2 cap m n
    ·exact h
   ·exact h
  ·exact h
 ·exact h
def qs.mono{a:AV}{as:List AV}{Post Post':AV->dd->Prop}(h:qs P T a as H Post)(b:∀r h,Post r h->Post' r h):qs P T a as H Post':=by
 unfold qs at*
 split at h
 ·exact h.mono b
 ·exact h
def C_{c:Call}{dst:Option Nat}(g:∀r h,(XU c=true->soft=true->QK q H h)->K (fr.put dst r) h->K' (fr.put dst r) h)(h:pM P T q soft c dst K fr H):pM P T q soft c dst K' fr H:=by
 unfold pM at*
 split at h
 ·rename_i f i;obtain⟨Post,j,k,a⟩:=h;exact⟨Post,j,k,λr h b=>⟨(a r h b).1,g r h (λ_=>(a r h b).1) (a r h b).2⟩⟩
 ·rename_i i
  exact Qy (λr h=>g r h λd=>by
   unfold XU at d
   split at d
   ·rename_i f e;exact(i f e).elim
   ·cases d) h
def WI{c:Call}{dst:Option Nat}(h:pM P T q soft c dst K fr H):∃r a,(XU c=true->soft=true->QK q H a)/\K (fr.put dst r) a:=by
 unfold pM at h
 split at h
 ·obtain⟨Post,k,⟨r,a,e⟩,g⟩:=h;exact⟨r,a,λ_=>(g _ _ e).1,(g _ _ e).2⟩
 ·rename_i i;obtain⟨r,a,j⟩:=Tt h;refine⟨r,a,λb=>?_,j⟩;unfold XU at b
  split at b
  ·rename_i f d;exact(i f d).elim
  ·cases b
def OZ{c:Call}{dst:Option Nat}{d:Nat}{v:AV}(b:∀x∈c.operands.toList,ev T (fr.put (some d) v) x=ev T fr x)(i:dst≠some d)(h:pM P T q soft c dst K (fr.put (some d) v) H):pM P T q soft c dst (λf h=>K (f.put (some d) v) h) fr H:=by
 have a:∀x∈c.args.toList,ev T (fr.put (some d) v) x=ev T fr x:=λx j=>b x (by
  unfold Call.operands;rw[Array.toList_append]
  exact Yb _ j)
 unfold pM at*
 split at h
 ·rename_i f n;obtain⟨Post,k,o,l⟩:=h;rw[b f (by unfold Call.operands;rw[n];simp),tg (g:=λx=>(ev T fr x).norm) (λx j=>by rw[a x j])] at k;refine⟨Post,k,o,λr h m=>⟨(l r h m).1,?_⟩⟩;have:=(l r h m).2;cases dst with
  |none=>exact this|some p=>
   show K ((fr.put (some p) r).put (some d) v) h;rw[qp fr (λe=>i (by rw[e]))];exact this
 ·exact Rg a i h
def Ha(a:∀fr H,K fr H->K' fr H)(h:iX P T E opsA q soft o K fr H):iX P T E opsA q soft o K' fr H:=by
 unfold iX at*
 split at h
 ·cases hg:lS E o with
  |true=>
   obtain⟨c,d,b,_,e⟩:=FR hg;rw[uF hg b] at h|-;exact C_ (λr h _=>a _ _) h
  |false=>
   rw[sP hg] at h|-;exact⟨h.1,Mo a h.2⟩
 ·exact a _ _ h
 ·exact h
def KR(h:sK P T E opsA.toList q soft o K fr H):uZ P T E o K fr H:=by
 cases hg:lS E o with
 |true=>
  obtain⟨c,d,b,a,j⟩:=FR hg;rw[uF hg b] at h;unfold uZ;rw[b];rcases a with a|⟨f,a⟩
  ·simp only[a];unfold pM at h;rw[a] at h;exact .inr (.inr h)
  ·simp only[a];unfold pM at h;rw[a] at h;obtain⟨Post,e,_,g⟩:=h;exact e.mono λr h i=>(g r h i).2
 |false=>
  rw[sP hg] at h;exact R3 h.2
def R9(h:iX P T E opsA q soft o K fr H):Ib P T E opsA o K fr H:=by
 unfold iX iW at h;unfold Ib;cases hg:o.guard with
 |none=>rw[hg] at h;exact KR h
 |some p=>
  obtain⟨j,want⟩:=p;rw[hg] at h;simp only at h|-
  cases g:(opsA[j]?).bind (·.dst)with
  |none=>rw[g] at h;exact h
  |some d=>
   rw[g] at h;simp only at h|-
   split
   ·rename_i b a;rw[a] at h;simp only at h
    by_cases hw:b=want
    ·subst hw;rw[cK rfl];simp only[beq_self_eq_true] at h;exact KR h
    ·rw[cI hw]
     have:(b==want)=false:=by simpa using hw
     rw[this] at h;exact h
   ·rename_i l e;rw[e] at h;exact h
   ·rename_i c f
    split at h
    ·rename_i he
     split at he
     ·rename_i b a;exact(c b a).elim
     ·cases he
     ·cases he
    ·rename_i he
     split at he
     ·rename_i b a;exact(c b a).elim
     ·rename_i l e;exact(f l e).elim
     ·cases he
    ·exact h
def C'(h:∀t,t∈o.looksAt opsA->fr'.env t=fr.env t):iW opsA o fr'=iW opsA o fr:=by
 unfold iW;cases hg:o.guard with
 |none=>rfl|some p=>
  obtain⟨j,want⟩:=p;simp only
  cases a:(opsA[j]?).bind (·.dst)with
  |none=>rfl|some d=>
   simp only
   have:d∈o.looksAt opsA:=by
    unfold Oper.looksAt;rw[hg];refine Yb _ ?_
    show d∈((opsA[j]?).bind (·.dst)).toList
    rw[a];simp
   rw[h d this]
def m8{d:Option Nat}{v:AV}(h:∀a,d=some a->a∉o.looksAt opsA):iW opsA o (fr.put d v)=iW opsA o fr:=by
 refine C' λt b=>?_;rw[Fr.yl,cI];rintro rfl;exact h t rfl b
def G8{c:XJ}{dst:Option Nat}(b:Left c dst soft q fr H fr' H')(h:∀a,dst=some a->a∉o.looksAt opsA):iW opsA o fr'=iW opsA o fr:=by
 refine C' λt d=>b.env t ?_;rintro rfl;exact h t rfl d
def Z9(E:List Nat)(opsA:Array Oper)(s1 s2:Bool)(o1 o2:Oper):Bool:=
 o1.apart opsA o2&&Bj (fZ E opsA.toList o1) (fZ E opsA.toList o2)&&
 (match fZ E opsA.toList o1,fZ E opsA.toList o2 with
  |.load _,.FX=>s1&&s2|.FX,.load _=>s1&&s2|.load _,.Pm _=>s2|.Pm _,.load _=>s1|_,_=>true)
def Lq(o:Oper):Bool:=
 match o.op with
 |.call c=>XU c|_=>false
def OQ(E:List Nat)(o:Oper):Bool:=
 match o.op,o.dst with
 |.alloc _,some d=>!E.contains d|_,_=>false
def OH(h:OQ E o=true):∃t d,o.op=.alloc t/\o.dst=some d/\E.contains d=false:=by
 unfold OQ at h
 split at h
 ·rename_i t d a b;exact⟨t,d,a,b,by simpa using h⟩
 ·cases h
def Y9(E:List Nat)(opsA:Array Oper)(s1 s2:Bool)(o1 o2:Oper):Bool:=
 match fZ E opsA.toList o2 with
 |.val=>true|.load _=>Lq o1&&s1&&s2|.alloc _=>Lq o1&&OQ E o2|_=>false
def RE{s1 s2:Bool}(h:Y9 E opsA s1 s2 o1 o2=true):(fZ E opsA.toList o2=.val\/(∃r,fZ E opsA.toList o2=.load r)/\Lq o1=true/\s1=true/\s2=true)\/Lq o1=true/\OQ E o2=true:=by
 unfold Y9 at h
 split at h
 ·rename_i a;exact .inl (.inl a)
 ·rename_i r a;simp only[ez] at h;exact .inl (.inr ⟨⟨r,a⟩,h.1.1,h.1.2,h.2⟩)
 ·rename_i r a;simp only[ez] at h;exact .inr h
 ·cases h
def YI(E:List Nat)(opsA:Array Oper)(s1 s2:Bool)(o1 o2:Oper):Bool:=
 if lS E o1||lS E o2 then
  o1.apart opsA o2&&(lS E o1&&!lS E o2&&Y9 E opsA s1 s2 o1 o2||lS E o2&&!lS E o1&&Y9 E opsA s2 s1 o2 o1)
 else if E.contains 999999&&(sZ o1).isSome&&(sZ o2).isSome&&sZ o1 !=sZ o2&&o1.dst==none&&o2.dst==none then true
 else Z9 E opsA s1 s2 o1 o2
def V2{f:Fr}{h:dd}(a:fZ E opsA.toList o=.val)(he:∀x∈o.op.operands,ev T fr x=ev T f x):oZ P T E opsA.toList q soft fr H o=oZ P T E opsA.toList q soft f h o:=by
 refine CS he (λt x b=>?_) λt x i ok b=>?_
 ·unfold fZ at a;rw[b] at a;cases a
 ·unfold fZ at a;rw[b] at a;cases a
def L0{d:Option Nat}{v:AV}(b:∀a,d=some a->a∉o.looksAt opsA):∀x∈o.op.operands,ev T fr x=ev T (fr.put d v) x:=by
 intro x c;refine I0 λt e=>?_;rw[Fr.yl,cI];rintro rfl;exact b t rfl (L_ c e)
def Jp{d1 d2:Option Nat}(h:∀d,d1=some d->d2≠some d)(x y:AV):(fr.put d1 x).put d2 y=(fr.put d2 y).put d1 x:=by
 cases d1 with
 |none=>rfl|some a=>
  cases d2 with
  |none=>rfl|some b=>exact qp fr (λe=>h a rfl (by rw[e])) x y
def Vl{c:Call}(a:o.op=.call c){x:Operand}(b:x∈c.args.toList):x∈o.op.operands:=by
 rw[a];simp[Op.operands,Call.operands,Bn.1 b]
def o_(h:iX P T E opsA q soft o K fr H):iW opsA o fr=some true/\sK P T E opsA.toList q soft o K fr H\/iW opsA o fr=some false/\K (fr.put o.dst (.tuple [])) H:=by
 unfold iX at h
 split at h
 ·rename_i hg;exact .inl ⟨hg,h⟩
 ·rename_i hg;exact .inr ⟨hg,h⟩
 ·exact h.elim
def xb(hg:iW opsA o fr=some true)(h:sK P T E opsA.toList q soft o K fr H):iX P T E opsA q soft o K fr H:=by
 unfold iX;rw[hg];exact h
def w7(hg:iW opsA o fr=some false)(h:K (fr.put o.dst (.tuple [])) H):iX P T E opsA q soft o K fr H:=by
 unfold iX;rw[hg];exact h
def M7{c:Call}(a:o.op=.call c){x:Operand}(b:x∈c.operands.toList):x∈o.op.operands:=by
 rw[a];exact Bn.1 b
def Zp{c:Call}(a:fZ E opsA.toList o2=.val\/(∃r,fZ E opsA.toList o2=.load r)/\Lq o1=true/\soft1=true/\soft2=true)(j:o1.op=.call c)(i:∀d,o1.dst=some d->d∉o2.looksAt opsA){r:AV}{e:dd}
  (k:XU c=true->soft1=true->QK q H e) {v:AV} (l:oZ P T E opsA.toList q soft2 fr H o2=some v\/oZ P T E opsA.toList q soft2 (fr.put o1.dst r) e o2=some v):oZ P T E opsA.toList q soft2 fr H o2=oZ P T E opsA.toList q soft2 (fr.put o1.dst r) e o2:=by
 rcases a with a|⟨⟨rr,a⟩,f,m,n⟩
 ·exact V2 a (L0 i)
 ·have g:XU c=true:=by unfold Lq at f;rw[j] at f;exact f
  have p:Left .FX o1.dst true q fr H (fr.put o1.dst r) e:=⟨λt s=>by rw[Fr.yl,cI s],λb _ _=>⟨by cases o1.dst<;>rfl,by cases o1.dst<;>rfl⟩,λh=>(h rfl).elim,λ_=>k g m⟩;refine Jk (o:=o2) (opsA:=opsA) p i (by rw[a];rfl) (λ_ _=>⟨λ_=>⟨n,rfl⟩,λ_ h=>by cases h⟩) l
def R1(s:o1.apart opsA o2=true)(w:fZ E opsA.toList o1=.val\/(∃r,fZ E opsA.toList o1=.load r)/\Lq o2=true/\soft2=true/\soft1=true)(n:lS E o1=false)(i:lS E o2=true)(h:iX P T E opsA q soft1 o1 (λfr H=>iX P T E opsA q soft2 o2 K fr H) fr H):iX P T E opsA q soft2 o2 (λfr H=>iX P T E opsA q soft1 o1 K fr H) fr H:=by
 obtain⟨a1,a2,a3⟩:=Oper.apart_spec s;obtain⟨c,d2,p,_,A⟩:=FR i;have j:fZ E opsA.toList o1=.val\/∃r,fZ E opsA.toList o1=.load r:=w.imp id λh=>h.1
 have key:∃v,(∀r h,(XU c=true->soft2=true->QK q H h)->K ((fr.put o2.dst r).put o1.dst v) h->iX P T E opsA q soft1 o1 K (fr.put o2.dst r) h)/\iX P T E opsA q soft2 o2 K (fr.put o1.dst v) H:=by
  rcases o_ h with⟨k,m⟩|⟨k,m⟩
  ·rw[FV n j] at m;obtain⟨f1,H1,t,b⟩:=xO m;obtain⟨v,y,B,C⟩:=Cq j t;rw[B,C] at b;refine⟨v,λr z u l=>xb (by rw[m8 a3,k]) ?_,b⟩;rw[FV n j];exact Ac (FK (by rw[<-Zp w p a3 u (.inl y)];exact y)) l
  ·exact⟨_,λr z _ l=>w7 (by rw[m8 a3,k]) l,m⟩
 obtain⟨v,back,m⟩:=key;rcases o_ m with⟨a,b⟩|⟨a,b⟩
 ·rw[m8 a1] at a;rw[uF i p] at b;refine xb a ?_;rw[uF i p]
  have D:pM P T q soft2 c o2.dst (λf h=>K (f.put o1.dst v) h) fr H:=by
   cases g:o1.dst with
   |none=>rw[g] at b;exact b
   |some d=>rw[g] at b;exact OZ (λx F=>(L0 (o:=o2) (opsA:=opsA) (d:=some d) (λG e=>by cases e;exact a1 d g) x (M7 p F)).symm) (a2 d g) b
  exact C_ (λr z u l=>back _ _ u l) D
 ·rw[m8 a1] at a
  have l:K ((fr.put o2.dst (.tuple [])).put o1.dst v) H:=by
   rw[<-Jp a2];exact b
  exact w7 a (back _ _ (λ_ _=>QK.refl) l)
def Ra(z:o1.apart opsA o2=true)(G:fZ E opsA.toList o2=.val\/(∃r,fZ E opsA.toList o2=.load r)/\Lq o1=true/\soft1=true/\soft2=true)(l:lS E o1=true)(t:lS E o2=false)(h:iX P T E opsA q soft1 o1 (λfr H=>iX P T E opsA q soft2 o2 K fr H) fr H):iX P T E opsA q soft2 o2 (λfr H=>iX P T E opsA q soft1 o1 K fr H) fr H:=by
 obtain⟨a1,a2,a3⟩:=Oper.apart_spec z;obtain⟨c,d1,y,_,I⟩:=FR l;have m:fZ E opsA.toList o2=.val\/∃r,fZ E opsA.toList o2=.load r:=G.imp id λh=>h.1
 have inv:∀{r:AV} {s:dd} {n:Fr->dd->Prop},(XU c=true->soft1=true->QK q H s)->iX P T E opsA q soft2 o2 n (fr.put o1.dst r) s->∃v,(iW opsA o2 fr=some true/\oZ P T E opsA.toList q soft2 fr H o2=some v\/iW opsA o2 fr=some false/\v=.tuple [])/\n ((fr.put o1.dst r).put o2.dst v) s:=by
  intro r s n A J;rcases o_ J with⟨a,b⟩|⟨a,b⟩
  ·rw[FV t m] at b;obtain⟨f1,H1,B,g⟩:=xO b;obtain⟨v,i,C,L⟩:=Cq m B;rw[C,L] at g;exact⟨v,.inl ⟨by rw[<-m8 (o:=o2) a1];exact a,by rw[Zp G y a1 A (.inr i)];exact i⟩,g⟩
  ·exact⟨_,.inr ⟨by rw[<-m8 (o:=o2) a1];exact a,rfl⟩,b⟩
 have fwd:∀{v:AV} {n:Fr->dd->Prop},(iW opsA o2 fr=some true/\oZ P T E opsA.toList q soft2 fr H o2=some v\/iW opsA o2 fr=some false/\v=.tuple [])->n (fr.put o2.dst v) H->iX P T E opsA q soft2 o2 n fr H:=by
  intro v n i j;rcases i with⟨a,i⟩|⟨a,rfl⟩
  ·refine xb a ?_;rw[FV t m];exact Ac (FK i) j
  ·exact w7 a j
 have uniq:∀{v w:AV},(iW opsA o2 fr=some true/\oZ P T E opsA.toList q soft2 fr H o2=some v\/iW opsA o2 fr=some false/\v=.tuple [])->(iW opsA o2 fr=some true/\oZ P T E opsA.toList q soft2 fr H o2=some w\/iW opsA o2 fr=some false/\w=.tuple [])->v=w:=by
  intro v w b g;rcases b with⟨g1,b⟩|⟨g1,rfl⟩<;>rcases g with⟨g2,g⟩|⟨g2,rfl⟩
  ·rw[b] at g;exact gB g
  ·rw[g1] at g2;cases g2
  ·rw[g1] at g2;cases g2
  ·rfl
 rcases o_ h with⟨p,b⟩|⟨p,b⟩
 ·rw[uF l y] at b;obtain⟨Q,R,D,F⟩:=WI b;obtain⟨v,i,_⟩:=inv D F;refine fwd i (xb (by rw[m8 a3,p]) ?_);rw[uF l y]
  have g:pM P T q soft1 c o1.dst (λf h=>K (f.put o2.dst v) h) fr H:=C_ (λr s A j=>by
   obtain⟨w,hw,j⟩:=inv A j;rw[uniq i hw]
   exact j) b
  cases k:o2.dst with
  |none=>rw[k] at g;exact g
  |some d=>
   rw[k] at g;have u:o1.dst≠some d:=λe=>a2 d e k
   have M:pM P T q soft1 c o1.dst (λf h=>K (f.put (some d) v) h) ((fr.put (some d) v).put (some d) (fr.env d)) H:=by
    rw[LI,Iv];exact g
   have N:=OZ (λx O=>(by
    have:=L0 (o:=o1) (opsA:=opsA) (T:=T) (fr:=fr.put (some d) v) (d:=some d) (v:=fr.env d) (λS e=>by cases e;exact a3 d k) x (M7 y O)
    exact this.symm)) u M
   refine C_ (λr s _ j=>?_) N
   have C:(((fr.put (some d) v).put o1.dst r).put (some d) (fr.env d)).put (some d) v=(fr.put (some d) v).put o1.dst r:=by
    rw[LI];have hs:=Iv ((fr.put (some d) v).put o1.dst r) d
    have he:((fr.put (some d) v).put o1.dst r).env d=v:=by
     rw[Fr.yl,cI u,Fr.yl,cK rfl]
    rw[he] at hs;exact hs
   rw[C] at j;exact j
 ·obtain⟨v,i,j⟩:=inv (λ_ _=>QK.refl) b;refine fwd i (w7 (by rw[m8 a3,p]) ?_);rw[<-Jp a2];exact j
def XL(d:Nat)(b:Bool)(z:List AV)(fr:Fr):Fr:=if b then nr fr d z else fr.put (some d) (.tuple [])
def Uz{d t:Nat}{b:Bool}{z:List AV}(h:t≠d):(XL d b z fr).env t=fr.env t:=by
 unfold XL
 split
 ·show ia fr.env d _ t=_;unfold ia;rw[cI h]
 ·rw[Fr.yl,cI λe=>h (gB e).symm]
def LB{d:Nat}{b:Bool}{z:List AV}{c:Option Nat}(h:c≠some d)(v:AV):(XL d b z fr).put c v=XL d b z (fr.put c v):=by
 unfold XL
 split
 ·exact Ef fr h z v
 ·exact Jp (λa f=>λe=>h (by rw[<-f] at e;exact e)) _ _
def Bf{t:TypeId}{d:Nat}(a:o.op=.alloc t)(c:o.dst=some d)(g:E.contains d=false):iX P T E opsA q soft o K fr H↔∃b z,iW opsA o fr=some b/\(b=true->hE P t=some z)/\K (XL d b z fr) H:=by
 have hn:lS E o=false:=by unfold lS;rw[a]
 have hs:sK P T E opsA.toList q soft o K fr H=(match hE P t with|some z=>K (nr fr d z) H|none=>False):=by
  unfold sK yr;rw[hn,a];simp only[lU,jC];unfold iB;rw[a];simp only;cases hE P t with
  |none=>rfl|some z=>
   simp only;unfold nq;rw[c];simp only;rw[cI (by rw[g];decide)];refine propext ⟨λh=>h.2,λh=>⟨λ_=>?_,h⟩⟩;show E.contains d=false;exact g
 constructor
 ·intro h;rcases o_ h with⟨hg,h⟩|⟨hg,h⟩
  ·rw[hs] at h
   split at h
   ·rename_i z f;exact⟨true,z,hg,λ_=>f,h⟩
   ·exact h.elim
  ·rw[c] at h;exact⟨false,[],hg,(λe=>by cases e),h⟩
 ·rintro⟨b,z,hg,f,h⟩;cases b with
  |true=>
   refine xb hg ?_;rw[hs,f rfl];exact h
  |false=>
   refine w7 hg ?_;rw[c];exact h
def adZ{d:Nat}{b:Bool}{z:List AV}(a:d∉o.looksAt opsA):∀x∈o.op.operands,ev T (XL d b z fr) x=ev T fr x:=by
 intro x c;refine I0 λt e=>Uz ?_;rintro rfl;exact a (L_ c e)
def IZ{d:Nat}{b:Bool}{z:List AV}(a:d∉o.looksAt opsA):iW opsA o (XL d b z fr)=iW opsA o fr:=by
 refine C' λt c=>Uz ?_;rintro rfl;exact a c
def RA(h:Lq o=true):∃c f,o.op=.call c/\c.callee=.value f:=by
 unfold Lq at h
 split at h
 ·rename_i c a;unfold XU at h
  split at h
  ·rename_i f b;exact⟨c,f,a,b⟩
  ·cases h
 ·cases h
def V9{c:Call}{f:Operand}{d:Nat}{b:Bool}{z:List AV}(e:o.op=.call c)(g:c.callee=.value f)(h:d∉o.looksAt opsA):ev T (XL d b z fr) f=ev T fr f/\(c.args.toList.map λx=>(ev T (XL d b z fr) x).norm)=c.args.toList.map λx=>(ev T fr x).norm:=by
 have he:=λx a=>adZ (T:=T) (fr:=fr) (b:=b) (z:=z) h x a;refine⟨he f (M7 e (by unfold Call.operands;rw[g];simp)),tg λx a=>?_⟩;rw[he x (Vl e a)]
def Q9(j:o1.apart opsA o2=true)(k:OQ E o1=true)(l:Lq o2=true)(m:lS E o2=true)(h:iX P T E opsA q soft1 o1 (λfr H=>iX P T E opsA q soft2 o2 K fr H) fr H):iX P T E opsA q soft2 o2 (λfr H=>iX P T E opsA q soft1 o1 K fr H) fr H:=by
 obtain⟨a1,a2,a3⟩:=Oper.apart_spec j;obtain⟨t,d,n,g,o⟩:=OH k;obtain⟨c,f,p,s⟩:=RA l;have i:o2.dst≠some d:=a2 d g;obtain⟨b,z,hg,u,h⟩:=(Bf n g o).1 h;rcases o_ h with⟨a,e⟩|⟨a,e⟩
 ·rw[IZ (a1 d g)] at a;refine xb a ?_;rw[uF m p] at e|-;unfold pM at e|-;rw[s] at e|-;simp only at e|-;obtain⟨y,A⟩:=V9 (T:=T) (fr:=fr) (b:=b) (z:=z) p s (a1 d g);rw[y,A] at e;obtain⟨Post,B,C,v⟩:=e;refine⟨Post,B,C,λr w x=>⟨(v r w x).1,(Bf n g o).2 ⟨b,z,by rw[m8 a3,hg],u,?_⟩⟩⟩;rw[<-LB i];exact(v r w x).2
 ·rw[IZ (a1 d g)] at a;refine w7 a ((Bf n g o).2 ⟨b,z,by rw[m8 a3,hg],u,?_⟩);rw[<-LB i];exact e
def Rs(s:o1.apart opsA o2=true)(u:Lq o1=true)(v:OQ E o2=true)(j:lS E o1=true)(h:iX P T E opsA q soft1 o1 (λfr H=>iX P T E opsA q soft2 o2 K fr H) fr H):iX P T E opsA q soft2 o2 (λfr H=>iX P T E opsA q soft1 o1 K fr H) fr H:=by
 obtain⟨a1,a2,a3⟩:=Oper.apart_spec s;obtain⟨t,d,k,a,l⟩:=OH v;obtain⟨c,f,w,x⟩:=RA u;have m:o1.dst≠some d:=λe=>a2 d e a;rcases o_ h with⟨g,i⟩|⟨g,i⟩
 ·rw[uF j w] at i;unfold pM at i;rw[x] at i;simp only at i;obtain⟨Post,I,⟨B,C,D⟩,y⟩:=i;obtain⟨b,z,hg,o,_⟩:=(Bf k a l).1 (y B C D).2;rw[m8 a1] at hg;refine(Bf k a l).2 ⟨b,z,hg,o,xb (by rw[IZ (a3 d a),g]) ?_⟩;rw[uF j w];unfold pM;rw[x];simp only;obtain⟨J,L⟩:=V9 (T:=T) (fr:=fr) (b:=b) (z:=z) w x (a3 d a);rw[J,L];refine⟨Post,I,⟨B,C,D⟩,λr F G=>⟨(y r F G).1,?_⟩⟩;obtain⟨M,N,n,A,p⟩:=(Bf k a l).1 (y r F G).2;rw[m8 a1,hg] at n;obtain rfl:b=M:=gB n;rw[LB m];cases b with
  |true=>
   obtain rfl:z=N:=gB (by rw[<-o rfl,<-A rfl]);exact p
  |false=>exact p
 ·obtain⟨b,z,hg,o,p⟩:=(Bf k a l).1 i;rw[m8 a1] at hg;refine(Bf k a l).2 ⟨b,z,hg,o,w7 (by rw[IZ (a3 d a),g]) ?_⟩;rw[LB m];exact p
def aek{t:TypeId}{a off:Nat}{v:AV}:o6 P t (.eS a off) v K fr H↔∃agg n cs,fw P t=some (agg,n)/\H[a]?=some cs/\(w6 cs=true/\v.cells.length=n/\off+n<=cs.length/\e9 v=true)/\K fr (H.set a (setCells cs off v.norm.cells)):=by
 unfold o6;constructor
 ·intro h
  split at h
  ·exact h.elim
  ·rename_i agg n b;simp only at h
   split at h
   ·rename_i cs c;exact⟨agg,n,cs,b,c,⟨h.1,h.2.1,h.2.2.1,h.2.2.2.1⟩,h.2.2.2.2⟩
   ·exact h.elim
 ·rintro⟨agg,n,cs,b,c,h,d⟩;rw[b];simp only[c];exact⟨h.1,h.2.1,h.2.2.1,h.2.2.2,d⟩
def KP{s:Nat}(h:sZ o=some s):∃t y,o.op=.store t (.tmp s) y:=by
 unfold sZ at h
 split at h
 ·rename_i t b y a;cases h;exact⟨t,y,a⟩
 ·cases h
def Y7{s:Nat}(h:sZ o=some s):lS E o=false:=by
 obtain⟨t,y,a⟩:=KP h;unfold lS;rw[a]
def xD{ops:List Oper}{s:Nat}(j:E.contains 999999=true)(hs:sZ o=some s):sK P T E ops q soft o K fr H↔
  ∃t y a off agg n cs,o.op=.store t (.tmp s) y/\o.dst=none/\ev T fr (.tmp s)=.eS a off/\q.cl a=s/\uB ops (.tmp s) (.eS a off)=true/\soft=false/\fw P t=some (agg,n)/\H[a]?=some cs/\(w6 cs=true/\(ev T fr y).cells.length=n/\off+n<=cs.length/\e9 (ev T fr y)=true)/\K fr (H.set a (setCells cs off (ev T fr y).norm.cells)):=by
 obtain⟨t,y,k⟩:=KP hs;rw[sP (Y7 hs)];unfold Ie UM iB;rw[k];simp only;constructor
 ·rintro⟨l,f,d,e,i⟩;obtain⟨a,off,u,c,g,h⟩:=l j;injection g with g;subst g;rw[c] at d e i;obtain⟨agg,n,cs,g1,g2,g3,g4⟩:=aek.1 i;refine⟨t,y,a,off,agg,n,cs,rfl,f,c,h,d,?_,g1,g2,g3,g4⟩;cases b:soft with
  |false=>rfl|true=>have:=e b;simp[isL] at this
 ·rintro⟨v,w,a,off,agg,n,cs,m,f,c,h,d,e,g1,g2,g3,g4⟩;injection m with p x r;subst p;subst r;refine⟨λ_=>⟨a,off,s,c,rfl,h⟩,f,by rw[c];exact d,λb=>?_,?_⟩
  ·rw[e] at b;cases b
  ·rw[c];exact aek.2 ⟨agg,n,cs,g1,g2,g3,g4⟩
def R8{s1 s2:Nat}(i:E.contains 999999=true)(j:sZ o1=some s1)(f:sZ o2=some s2)(o:s1≠s2)(h:iX P T E opsA q soft1 o1 (λfr H=>iX P T E opsA q soft2 o2 K fr H) fr H)(p:o1.dst=none)(r:o2.dst=none):iX P T E opsA q soft2 o2 (λfr H=>iX P T E opsA q soft1 o1 K fr H) fr H:=by
 have s:∀v,fr.put o1.dst v=fr:=λv=>by rw[p];rfl
 have A:∀v,fr.put o2.dst v=fr:=λv=>by rw[r];rfl
 rcases o_ h with⟨c,m⟩|⟨c,m⟩
 ·obtain⟨t,y,u,off,agg,n,cs,B,C,D,w,F,G,I,J,L,m⟩:=(xD i j).1 m;rcases o_ m with⟨a,b⟩|⟨a,b⟩
  ·obtain⟨x,z,g,off',d,n',k,f0,f1,f2,f3,f4,f5,f6,f7,f8,b⟩:=(xD i f).1 b
   have l:u≠g:=by rintro rfl;exact o (w.symm.trans f3)
   rw[Lx l] at f7;refine xb a ((xD i f).2 ⟨x,z,g,off',d,n',k,f0,f1,f2,f3,f4,f5,f6,f7,f8,?_⟩);refine xb c ((xD i j).2 ⟨t,y,u,off,agg,n,cs,B,C,D,w,F,G,I,?_,L,?_⟩)
   ·rw[Lx (λe=>l e.symm)];exact J
   ·rw[List.set_comm _ _ (λe=>l e.symm)];exact b
  ·refine w7 a ?_;rw[A] at b|-;exact xb c ((xD i j).2 ⟨t,y,u,off,agg,n,cs,B,C,D,w,F,G,I,J,L,b⟩)
 ·rw[s] at m;rcases o_ m with⟨a,b⟩|⟨a,b⟩
  ·obtain⟨x,z,g,off',d,n',k,f0,f1,f2,f3,f4,f5,f6,f7,f8,b⟩:=(xD i f).1 b;exact xb a ((xD i f).2 ⟨x,z,g,off',d,n',k,f0,f1,f2,f3,f4,f5,f6,f7,f8,w7 c (by rw[s];exact b)⟩)
  ·refine w7 a ?_;show iX P T E opsA q soft1 o1 K (fr.put o2.dst (.tuple [])) H;rw[A] at b|-;exact w7 c (by rw[s];exact b)
def To(c:YI E opsA soft1 soft2 o1 o2=true)(h:iX P T E opsA q soft1 o1 (λfr H=>iX P T E opsA q soft2 o2 K fr H) fr H):iX P T E opsA q soft2 o2 (λfr H=>iX P T E opsA q soft1 o1 K fr H) fr H:=by
 unfold YI at c
 by_cases hG:(lS E o1||lS E o2)=true
 ·rw[cK hG] at c;simp only[ez,nA,UK] at c;obtain⟨b,⟨⟨g1,g2⟩,g3⟩|⟨⟨g1,g2⟩,g3⟩⟩:=c
  ·rcases RE g3 with g3|⟨g3,g4⟩
   ·exact Ra b g3 g1 g2 h
   ·exact Rs b g3 g4 g1 h
  ·rcases RE g3 with g3|⟨g3,g4⟩
   ·exact R1 b g3 g2 g1 h
   ·exact Q9 b g4 g3 g1 h
 rw[cI hG] at c
 by_cases F:(E.contains 999999&&(sZ o1).isSome&&(sZ o2).isSome&&sZ o1 !=sZ o2&&o1.dst==none&&o2.dst==none)=true
 ·simp only[ez,Option.isSome_iff_exists,bne_iff_ne,ne_eq,X0] at F;obtain⟨⟨⟨⟨⟨O,s1,m⟩,s2,n⟩,G⟩,t⟩,u⟩:=F;exact R8 O m n (by rintro rfl;exact G (by rw[m,n])) h t u
 rw[cI F] at c
 have v:lS E o1=false:=by cases Q:lS E o1<;>simp_all
 have w:lS E o2=false:=by cases Q:lS E o2<;>simp_all
 unfold Z9 at c;simp only[ez] at c;obtain⟨⟨b,z⟩,a⟩:=c;obtain⟨a1,a2,a3⟩:=Oper.apart_spec b
 have m:∀r,fZ E opsA.toList o1=.load r->(fZ E opsA.toList o2=.FX->soft1=true/\soft2=true)/\(∀A,fZ E opsA.toList o2=.Pm A->soft2=true):=by
  intro r I;rw[I] at a;refine⟨λhe=>?_,λA he=>?_⟩<;>rw[he] at a
  ·simpa using a
  ·exact a
 have n:∀r,fZ E opsA.toList o2=.load r->(fZ E opsA.toList o1=.FX->soft2=true/\soft1=true)/\(∀A,fZ E opsA.toList o1=.Pm A->soft1=true):=by
  intro r I;rw[I] at a;refine⟨λhe=>?_,λA he=>?_⟩<;>rw[he] at a
  ·have:soft1=true/\soft2=true:=by simpa using a
   exact⟨this.2,this.1⟩
  ·exact a
 unfold iX at h;simp only[sP v,sP w] at h
 split at h
 ·--J first one is carried out
  rename_i i;obtain⟨s,h⟩:=h;obtain⟨f1,H1,o,h⟩:=xO h;have B:=uG o;have y:iW opsA o2 f1=iW opsA o2 fr:=G8 B a1;rw[y] at h;unfold iX;simp only[sP v,sP w]
  split at h
  ·rename_i j;obtain⟨k,h⟩:=h;obtain⟨f2,H2,g,L⟩:=xO h;obtain⟨f,R,l,C⟩:=UE b z m n o g;refine⟨Dt (λx c=>(HW (T:=T) (opsA:=opsA) B a1 x c).symm) k,Ac l ?_⟩;have:iW opsA o1 f=iW opsA o1 fr:=G8 (uG l) a3;rw[this,i];exact⟨Dt (HW (T:=T) (opsA:=opsA) (uG l) a3) s,Ac C L⟩
  ·rename_i j
   show match iW opsA o1 (fr.put o2.dst (.tuple []))with
    |some true=>Ie T E q (fr.put o2.dst (.tuple [])) o1/\iB P T E opsA.toList q soft1 o1 K (fr.put o2.dst (.tuple [])) H|some false=>K ((fr.put o2.dst (.tuple [])).put o1.dst (.tuple [])) H|none=>False
   rw[m8 a3,i];simp only;refine⟨Dt (L0 a3) s,?_⟩;cases p:o2.dst with
   |none=>rw[p] at h;exact Ac o h
   |some d=>rw[p] at h;exact Ac (Sd (opsA:=opsA) _ (a3 d p) (λe=>a2 d e p) o) h
  ·exact h.elim
 ·--J first one is left out
  rename_i i;have y:iW opsA o2 (fr.put o1.dst (.tuple []))=iW opsA o2 fr:=m8 a1;rw[y] at h;unfold iX;simp only[sP v,sP w]
  split at h
  ·rename_i j;obtain⟨k,h⟩:=h;obtain⟨f2,H2,g,L⟩:=xO h
   have M:∃f,rT P T E opsA.toList q soft2 o2 fr H f H2/\f.put o1.dst (.tuple [])=f2:=by
    cases p:o1.dst with
    |none=>rw[p] at g;exact⟨f2,g,rfl⟩
    |some d=>rw[p] at g;exact NQ (opsA:=opsA) (a1 d p) (a2 d p) g
   obtain⟨f,D,N⟩:=M;refine⟨Dt (λx c=>(L0 a1 x c).symm) k,Ac D ?_⟩;have:iW opsA o1 f=iW opsA o1 fr:=G8 (uG D) a3;rw[this,i];show K (f.put o1.dst (.tuple [])) H2;rw[N];exact L
  ·rename_i j
   show match iW opsA o1 (fr.put o2.dst (.tuple []))with
    |some true=>Ie T E q (fr.put o2.dst (.tuple [])) o1/\iB P T E opsA.toList q soft1 o1 K (fr.put o2.dst (.tuple [])) H|some false=>K ((fr.put o2.dst (.tuple [])).put o1.dst (.tuple [])) H|none=>False
   rw[m8 a3,i];simp only
   have:(fr.put o2.dst (.tuple [])).put o1.dst (.tuple [])=(fr.put o1.dst (.tuple [])).put o2.dst (.tuple []):=by
    cases t:o1.dst with
    |none=>rfl|some d1=>
     cases u:o2.dst with
     |none=>rfl|some d2=>exact qp fr (λe=>a2 d1 t (by rw[u,e])) _ _
   rw[this];exact h
  ·exact h.elim
 ·exact h.elim
def So{sf:Nat->Bool}{i:Nat}(hi:opsA[i]?=some o)(post:List Nat):∀(pre:List Nat) (fr:Fr) (H:dd),(∀j∈pre,∀a,opsA[j]?=some a->YI E opsA (sf j) (sf i) a o=true)->Nq P T E opsA q sf (pre++i::post) K fr H->iX P T E opsA q (sf i) o (λfr H=>Nq P T E opsA q sf (pre++post) K fr H) fr H:=by
 intro pre
 induction pre with
 |nil=>
  intro fr H _ h;simp only[kW,Nq,hi] at h;exact h
 |cons j pre b=>
  intro fr H hex h;simp only[X2,Nq] at h|-
  split at h
  ·rename_i a c;have d:=Ha (λfr H h=>b fr H (λk e=>hex k aaN) h) h;have f:=To (hex j aaB a c) d;exact f
  ·exact h.elim
end
def Cp(opsA:Array Oper):Bool:=opsA.toList.zipIdx.all λ(o,i)=>o.after.all λe=>!Region.binds .any e||decide (e.on<i)
def Qe(opsA:Array Oper)(M:Array Nat):Bool:=
 (List.range opsA.size).all λi=>(List.range opsA.size).all λj=>!(M.getD i 0).testBit j||
  (opsA.getD i default).after.toList.any λe=>Region.binds .any e&&(e.on==j||(M.getD e.on 0).testBit j)
def CA(E:List Nat)(opsA:Array Oper)(sf:Nat->Bool):Bool:=
 let M:=Region.before opsA
 Cp opsA&&Qe opsA M&&
 (List.range opsA.size).all λi=>(List.range i).all λj=>(M.getD i 0).testBit j||YI E opsA (sf j) (sf i) (opsA.getD j default) (opsA.getD i default)
section
variable{P:Program} {T:ec} {E:List Nat} {opsA:Array Oper} {q:Qt} {sf:Nat->Bool} {K:Fr->dd->Prop}
def AA(opsA:Array Oper)(listed:Array Bool):List Nat:=(List.range opsA.size).filter λi=>!listed.getD i true
def UC{listed:Array Bool}{i:Nat}:i∈AA opsA listed↔i<opsA.size/\listed.getD i true=false:=by
 simp[AA]
def V6(M:Array Nat)(opsA:Array Oper)(listed:Array Bool):Prop:=∀i j,i<opsA.size->j<opsA.size->listed.getD i false=true->(M.getD i 0).testBit j=true->listed.getD j false=true
def Gp{listed:Array Bool}{i:Nat}(d:Bool)(h:i<listed.size):(listed.setIfInBounds i true).getD i d=true:=by
 simp[h]
def Ps{opsA:Array Oper}(a:Cp opsA=true){listed:Array Bool}(f:listed.size=opsA.size){i:Nat}(hi:i<opsA.size)(d:listed.getD i true=false)
  (b:∀j,j<i->listed.getD j false=true):i∈Region.ready .any opsA listed:=by
 rw[mem_ready];refine⟨d,opsA[i],U7 hi,λe he g=>?_⟩;refine b _ ?_;unfold Cp at a;rw[iC] at a
 have c:(opsA[i],i)∈opsA.toList.zipIdx:=by
  rw[adJ];simp[hi]
 have:=a _ c;simp only[OF] at this;have:=this e he;rw[g] at this;simpa using this
def Ky{opsA:Array Oper}{M:Array Nat}(f:Qe opsA M=true)(a:Cp opsA=true){listed:Array Bool}(g:V6 M opsA listed){i:Nat}(p:i∈Region.ready .any opsA listed){j:Nat}(m:j<opsA.size)
  (q:(M.getD i 0).testBit j=true):listed.getD j false=true:=by
 obtain⟨r,o,h,b⟩:=mem_ready.1 p;have hi:i<opsA.size:=(QW.1 h).1;unfold Qe at f;rw[iC] at f;have:=f i (by simpa using hi);rw[iC] at this;have:=this j (by simpa using m);rw[q] at this;simp only[X3,RY,List.any_eq_true,Bn,ez,nA,X0] at this;obtain⟨e,he,c,hor⟩:=this
 have k:opsA.getD i default=o:=by rw[PC,h];rfl
 rw[k] at he;have n:=b e he c;rcases hor with rfl|hor
 ·exact n
 ·have l:e.on<opsA.size:=by
   unfold Cp at a;rw[iC] at a
   have d:(o,i)∈opsA.toList.zipIdx:=by
    rw[adJ];simpa using h
   have:=a _ d;simp only[OF] at this;have:=this e he;rw[c] at this
   have:e.on<i:=by simpa using this
   omega
  exact g e.on j l m n hor
def UH{listed:Array Bool}(d:listed.size=opsA.size){i:Nat}(hi:i<opsA.size)(b:listed.getD i true=false):∃pre post,AA opsA listed=pre++i::post/\AA opsA (listed.setIfInBounds i true)=pre++post/\∀j∈pre,j<i/\listed.getD j true=false:=by
 have c:List.range opsA.size=List.range i++i::(List.range' (i+1) (opsA.size-i-1)):=by
  rw[Wl,Wl]
  have:opsA.size=i+(1+(opsA.size-i-1)):=VW
  conv=>lhs;rw[this]
  rw[<-List.range'_append_1]
  congr 1
  rw[show 1+(opsA.size-i-1)=(opsA.size-i-1)+1 by omega,YH];simp
 refine⟨(List.range i).filter (λj=>!listed.getD j true),(List.range' (i+1) (opsA.size-i-1)).filter (λj=>!listed.getD j true),?_,?_,?_⟩
 ·unfold AA;rw[c,aeW,List.filter_cons_of_pos (by simp[b])]
 ·unfold AA;rw[c,aeW,List.filter_cons_of_neg (by rw[Gp _ VW];simp)]
  congr 1
  ·refine aeq λj a=>?_
   have:j<i:=by simpa using a
   rw[getD_set_ne true VW]
  ·refine aeq λj a=>?_;have:=(List.mem_range'_1.1 a).1;rw[getD_set_ne true VW]
 ·intro j a;rw[Pk] at a;exact⟨by simpa using a.1,by simpa using a.2⟩
variable{n:Nat} {G0:Nat->Nat} {F0:nc} {n0:Nat} {w0:World}
def D1{listed:Array Bool}{i:Nat}(hi:i<listed.size):listed.getD i false=listed.getD i true:=by
 simp[hi]
def Xr{Q:Exit->Act->World->Prop}(p:CA E opsA sf=true)(x:DI n opsA=true)(R:∀fr' H' F w',K fr' H'->SR T n G0 F0 n0 w0 fr' H' F w'->Q .normal F w'):∀(fuel:Nat) (listed:Array Bool) (fr:Fr) (H:dd) (a:Act) (w:World),listed.size=opsA.size->V6 (Region.before opsA) opsA listed->(AA opsA listed).length<=fuel->SR T n G0 F0 n0 w0 fr H a w->Nq P T E opsA q sf (AA opsA listed) K fr H->wpAny P .any opsA Q fuel listed a w:=by
 unfold CA at p;simp only[ez] at p;obtain⟨⟨c,S⟩,d⟩:=p
 have r:∀{listed:Array Bool},listed.size=opsA.size->Region.ready .any opsA listed=[]->AA opsA listed=[]:=by
  intro listed f y;cases b:AA opsA listed with
  |nil=>rfl|cons i rest=>
   exfalso
   have m:i∈AA opsA listed:=by rw[b];simp
   have hex:∃k,k<opsA.size/\listed.getD k true=false:=⟨i,UC.1 m⟩
   obtain⟨k,⟨G,I⟩,z⟩:∃k,(k<opsA.size/\listed.getD k true=false)/\∀j,j<k->¬(j<opsA.size/\listed.getD j true=false):=by
    clear b m;obtain⟨k,hk⟩:=hex
    induction k using Nat.strongRecOn with
    |_ k J=>
     by_cases h:∃j,j<k/\(j<opsA.size/\listed.getD j true=false)
     ·obtain⟨j,s,t⟩:=h;exact J j s t
     ·exact⟨k,hk,λj A hc=>h ⟨j,A,hc⟩⟩
   have:=Ps c f G I λj A=>by
    have hn:=z j A
    have L:j<opsA.size:=VW
    rw[D1 VW];cases hb:listed.getD j true with
    |true=>rfl|false=>exact absurd ⟨L,hb⟩ hn
   rw[y] at this;cases this
 intro fuel
 induction fuel with
 |zero=>
  intro listed fr H a w f g hlen hs h;have b:AA opsA listed=[]:=Dq VW;rw[b] at h;refine⟨?_,R _ _ _ _ h hs⟩;cases y:Region.ready .any opsA listed with
  |nil=>rfl|cons i rest=>
   have hm:i∈Region.ready .any opsA listed:=by rw[y];simp
   obtain⟨u,o,v,_⟩:=mem_ready.1 hm;have:i∈AA opsA listed:=UC.2 ⟨(QW.1 v).1,u⟩;rw[b] at this;cases this
 |succ fuel J=>
  intro listed fr H a w f g hlen hs h;refine⟨λy=>?_,λi hi=>?_⟩
  ·rw[r f y] at h;exact R _ _ _ _ h hs
  ·obtain⟨u,o,v,U⟩:=mem_ready.1 hi;have B:i<opsA.size:=(QW.1 v).1;obtain⟨pre,post,V,W,h3⟩:=UH f B u;rw[V] at h
   have l:=So (P:=P) (T:=T) (E:=E) (opsA:=opsA) (q:=q) (K:=K) (sf:=sf) v post pre fr H (by
    intro j A oj M;obtain⟨s,t⟩:=h3 j A;rw[iC] at d;have:=d i (by simpa using B);rw[iC] at this;have:=this j (by simpa using s);simp only[nA] at this
    have e1:opsA.getD j default=oj:=by rw[PC,M];rfl
    have e2:opsA.getD i default=o:=by rw[PC,v];rfl
    rw[e1,e2] at this;rcases this with hb|hb
    ·have:=Ky S c g hi VW hb;rw[D1 VW,t] at this;cases this
    ·exact hb) h
   have N:w4 n o=true:=OF.1 x o (UO v);refine KG v N hs (R9 l) ?_;intro fr' H' F w' hK O;refine J (listed.setIfInBounds i true) fr' H' F w' (by simpa using f) ?_ ?_ O (by rw[W];exact hK)
   ·--still closed
    intro X Y hi' C Z hb
    by_cases he:Y=i
    ·subst he;exact Gp _ VW
    ·rw[getD_set_ne false (λe=>he e.symm)]
     by_cases D:X=i
     ·subst D;exact Ky S c g hi C hb
     ·rw[getD_set_ne false (λe=>D e.symm)] at Z;exact g X Y hi' C Z hb
   ·rw[V] at hlen;rw[W];simp only[qI,hW] at hlen|-;omega
end
section
variable{P:Program} {T:ec} {n:Nat} {Q:Exit->Fr->dd->Prop} {fr:Fr} {H:dd}
def SR.drew{G0:Nat->Nat}{F0:nc}{n0:Nat}{w0:World}{a:Act}{w:World}(hs:SR T n G0 F0 n0 w0 fr H a w):SR T n G0 F0 n0 w0 fr H a w.drew:=by
 obtain⟨ρ,F,R,hw,b⟩:=hs;exact⟨ρ,F,R,hw.drew,b.drew⟩
def gM.RL{id:Nat}{ops:Array Oper}(E:List Nat)(q:Qt)(sf:Nat->Bool)(hm:P.follows .mixedOrders=true)(c:DI n ops=true)(d:CA E ops sf=true)
  (h:Nq P T E ops q sf (List.range ops.size) (Q .normal) fr H):gM P T n (.region id ops true) Q fr H:=by
 intro G0 F0 n0 w0 a w hs;refine wp_region_any hm ?_
 have b:AA ops (Array.replicate ops.size false)=List.range ops.size:=by
  unfold AA;rw[adK];intro i hi
  have:i<ops.size:=by simpa using hi
  simp[this]
 have:=Xr (Q:=λe f w'=>∃fr' H',Q e fr' H'/\SR T n G0 F0 n0 w0 fr' H' f w') d c (λfr' H' f w' g k=>⟨fr',H',g,k⟩) ops.size (Array.replicate ops.size false) fr H a w.drew aaB
  (by intro i j hi m l;simp[hi] at l) (by rw[b];simp) hs.drew (by rw[b];exact h)
 exact this
def kA(P:Program)(T:ec)(E:List Nat)(opsA:Array Oper)(q:Qt):List Oper->(Fr->dd->Prop)->Fr->dd->Prop
 |[],K,fr,H=>K fr H|o::rest,K,fr,H=>iX P T E opsA q true o (λfr H=>kA P T E opsA q rest K fr H) fr H
def Qh{E:List Nat}{ops:Array Oper}{q:Qt}{K:Fr->dd->Prop}:∀(l:List Oper) (k:Nat) (fr:Fr) (H:dd),l=ops.toList.drop k->kA P T E ops q l K fr H->Nq P T E ops q (λ_=>true) (List.range' k l.length) K fr H:=by
 intro l
 induction l with
 |nil=>intro k fr H _ h;exact h|cons o l c=>
  intro k fr H b h
  have a:k<ops.toList.length:=by
   rcases tv k ops.toList.length with h'|h'
   ·exact h'
   ·rw[H9 h'] at b;cases b
  have d:=L2 a;rw[d] at b;injection b with e f
  have hi:ops[k]?=some o:=by
   rw[e];simp only[abn];exact U7 (by simpa using a)
  simp only[hW,YH,Nq,hi];exact Ha (λfr H h=>c (k+1) fr H f h) h
def gM.Yo{id:Nat}{ops:Array Oper}(E:List Nat)(q:Qt)(hm:P.follows .mixedOrders=true)(a:DI n ops=true)(b:CA E ops (λ_=>true)=true)
  (h:kA P T E ops q ops.toList (Q .normal) fr H):gM P T n (.region id ops true) Q fr H:=by
 refine gM.RL E q (λ_=>true) hm a b ?_;have:=Qh (K:=Q .normal) ops.toList 0 fr H aaB h;rw[Wl];simpa using this
end
end Go.ns
namespace Go.ns
open Go
section
variable{P:Program} {T:ec} {n:Nat} {Q:Exit->Fr->dd->Prop} {fr:Fr} {H:dd}
def gM.yV{x y:Code}(h:∀K:Fr->dd->Prop,(∀fr H,gM P T n y Q fr H->K fr H)->gM P T n x (H7 K Q) fr H):gM P T n (.seq x y) Q fr H:=
 gM.seq (h _ λ_ _ h=>h)
def gM.FE{id:Nat}{c:Code}(h:∀Q':Exit->Fr->dd->Prop,(∀fr H,Q .normal fr H->Q' .normal fr H)->(∀fr H,Q .normal fr H->Q' (.exit id) fr H)->(∀a fr H,a≠id->Q (.exit a) fr H->Q' (.exit a) fr H)->(∀fr H,Q .ret fr H->Q' .ret fr H)->gM P T n c Q' fr H):gM P T n (.block id c) Q fr H:=by
 refine gM.block (h (L7 id Q) (λ_ _ h=>h) (λ_ _ h=>?_) (λa _ _ b h=>?_) (λ_ _ h=>h))
 ·simp only[L7,if_true];exact h
 ·simp only[L7,cI b];exact h
end
@[simp] theorem Zf(K:Fr->dd->Prop)(Q:Exit->Fr->dd->Prop):H7 K Q .normal=K:=rfl
@[simp] theorem abZ(K:Fr->dd->Prop)(Q:Exit->Fr->dd->Prop)(id:Nat):H7 K Q (.exit id)=Q (.exit id):=rfl
@[simp] theorem acP(K:Fr->dd->Prop)(Q:Exit->Fr->dd->Prop):H7 K Q .ret=Q .ret:=rfl
end Go.ns
